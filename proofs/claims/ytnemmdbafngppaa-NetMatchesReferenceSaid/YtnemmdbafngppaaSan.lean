/- Contracts of the net functions for valid nets. No condition. -/
import Derived.Test.YtnemmdbafngppaaF15
import Derived.Test.YtnemmdbafngppaaF16
import Derived.Test.YtnemmdbafngppaaF17
import Derived.Test.YtnemmdbafngppaaLaw5
import Derived.Test.YtnemmdbafngppaaAbs23
set_option linter.unusedVariables false
namespace Go.Proofs.Ytnemmdbafngppaa.Net
open Go.Proofs.Ytnemmdbafngppaa.Abs
variable {n m : Net} (h : VN n) (hm : VN m) (a b : Int)
include h
theorem VN.l1 : n.fl.length ≤ 1000000 := by have := h.nl; omega
theorem VN.l2 : n.cuts.length ≤ 1000000 := by have := h.cl; omega
theorem VN.x0 : -1000000000000 ≤ n.next := by have := h.n1; omega
theorem D13 : Has Try.prog 13 [encN n, .i a, .i b] (encSent (send n a b)) := C13 n a b h.l1 h.x0
theorem D14 : Has Try.prog 14 [encN n, .i a, .i b] (encSent (send n a b)) := C14 n a b h.l1 h.x0
theorem D15 (m : Net) : Has Try.prog 15 [encN n, encN m] (.b (decide (n = m))) := C15 n m h.l1 h.l2
theorem D17 : Has Try.prog 17 [encN n, .i a] (encTaken (take n a)) := C17 n a h.l1 h.l2 h.sp h.sc
theorem D18 : Has Try.prog 18 [encN n, .i a] (encTaken (take n a)) := C18 n a h.l1 h.l2
theorem D19 : Has Try.prog 19 [encN n, .i a, .i b] (.b (reach n a b)) := C19 n a b h.l2 h.sc
theorem D20 : Has Try.prog 20 [encN n, .i a, .i b] (.b (reach n a b)) := C20 n a b h.l2
theorem D21 (w : Int) : Has Try.prog 21 [encN n, .i w, .agg [.i a, .i b]] (encTaken (doneN n w a b)) := C21 n w a b h.l1 h.l2 h.x0 h.sp h.sc h.pt
theorem D22 : Has Try.prog 22 [encN n, .i a] (encTaken (lose n a)) := C22 n a h.l1
theorem D23 : Has Try.prog 23 [encN n, .i a] (encTaken (double n a)) := C23 n a h.l1 h.x0
theorem D24 : Has Try.prog 24 [encN n, .i a, .i b] (encTaken (sever n a b)) := C24 n a b h.l2
theorem D25 : Has Try.prog 25 [encN n, .i a, .i b] (encTaken (heal n a b)) := C25 n a b h.l2
theorem D26 : Has Try.prog 26 [encN n] (.b true) := (C26 n h.l1 h.l2).eq (bv h.valid)
theorem D27 : Has Try.prog 27 [encN n] (.b true) := (C27 n h.l1 h.l2).eq (bv h.valid)
omit h
theorem vn {n : Net} (h : valid n = true) : VN n := (valid_iff n).1 h
theorem es {x y : Sent} (h : x = y) : encSent x = encSent y := congrArg encSent h
theorem et {x y : Taken} (h : x = y) : encTaken x = encTaken y := congrArg encTaken h
theorem lose_p (n : Net) (a : Int) : (lose n a).p = p0 := by unfold lose; cases findIx n a <;> rfl
theorem double_p (n : Net) (a : Int) : (double n a).p = p0 := by unfold double; cases findIx n a <;> rfl
theorem sever_p (n : Net) (a b : Int) : (sever n a b).p = p0 := by
  unfold sever
  split
  · split
    · split <;> rfl
    · rfl
  · rfl
theorem heal_p (n : Net) (a b : Int) : (heal n a b).p = p0 := by
  unfold heal
  split
  · cases cutIx n a b <;> rfl
  · rfl
theorem tk_ext {x : Taken} (h : x.p = p0) : (⟨x.n, p0, x.e⟩ : Taken) = x := by cases x; simp_all
theorem dn0 (n : Net) (a b : Int) : doneN n 0 a b = lose n a := tk_ext (lose_p n a)
theorem dn1 (n : Net) (a b : Int) : doneN n 1 a b = double n a := tk_ext (double_p n a)
theorem dn2 (n : Net) (a b : Int) : doneN n 2 a b = sever n a b := tk_ext (sever_p n a b)
theorem dn3 (n : Net) (a b : Int) : doneN n 3 a b = heal n a b := tk_ext (heal_p n a b)
/-! ### The nets of the fixed examples -/
def xA : Net := ⟨[⟨1, 1, 2⟩], [], 2⟩
def xB : Net := ⟨[⟨1, 1, 2⟩, ⟨2, 1, 2⟩], [], 3⟩
def xC : Net := ⟨[⟨1, 1, 2⟩, ⟨2, 1, 2⟩], [(1, 2)], 3⟩
def xT : Net := ⟨[⟨2, 1, 2⟩], [], 3⟩
def xD : Net := ⟨[⟨1, 1, 2⟩, ⟨2, 1, 2⟩, ⟨3, 1, 2⟩], [], 4⟩
def xL : Net := ⟨[⟨1, 1, 2⟩, ⟨3, 1, 2⟩], [], 4⟩
theorem vA : VN xA := vn (by decide)
theorem vB : VN xB := vn (by decide)
theorem vC : VN xC := vn (by decide)
theorem vT : VN xT := vn (by decide)
theorem vD : VN xD := vn (by decide)
theorem vL : VN xL := vn (by decide)
theorem k1 : send ⟨[], [], 1⟩ 1 2 = ⟨xA, 1, 0⟩ := by decide
theorem k2 : send xA 1 2 = ⟨xB, 2, 0⟩ := by decide
theorem k3 : doneN xB 2 2 1 = ⟨xC, p0, 0⟩ := by decide
theorem k4 : take xC 1 = ⟨xC, p0, 320⟩ := by decide
theorem k5 : doneN xC 3 1 2 = ⟨xB, p0, 0⟩ := by decide
theorem k6 : take xB 1 = ⟨xT, ⟨1, 1, 2⟩, 0⟩ := by decide
theorem k7 : doneN xB 1 2 0 = ⟨xD, p0, 0⟩ := by decide
theorem k8 : doneN xD 0 2 0 = ⟨xL, p0, 0⟩ := by decide
theorem k9 : take xT 1 = ⟨xT, p0, 90⟩ := by decide
theorem k10 : take xL 3 = ⟨⟨[⟨1, 1, 2⟩], [], 4⟩, ⟨3, 1, 2⟩, 0⟩ := by decide
theorem k11 : send xB 1 1 = ⟨xB, 0, 1⟩ := by decide
theorem k12 : reach xC 1 2 = false := by decide
theorem k13 : reach xC 1 3 = true := by decide
theorem k14 : valid ⟨[], [], 0⟩ = false := by decide
end Go.Proofs.Ytnemmdbafngppaa.Net
