/- Operations keep nets valid, part 2; plain Lean. No condition. -/
import Derived.Test.YtnemmdbafngppaaLaw2
set_option linter.unusedVariables false
namespace Go.Proofs.Ytnemmdbafngppaa.Net

theorem find_lt {n : Net} {id : Int} {i : Nat} (h : findIx n id = some i) : i < n.fl.length := (List.findIdx?_eq_some_iff_getElem.1 h).1
theorem cut_lt {n : Net} {a b : Int} {i : Nat} (h : cutIx n a b = some i) : i < n.cuts.length := (List.findIdx?_eq_some_iff_getElem.1 h).1
theorem VN.lose {n : Net} (h : VN n) (id : Int) : VN (lose n id).n := by
  unfold Net.lose
  cases hf : findIx n id with
  | none => exact h
  | some i => exact h.without (find_lt hf)
theorem VN.take {n : Net} (h : VN n) (id : Int) : VN (take n id).n := by
  unfold Net.take
  cases hf : findIx n id with
  | none => exact h
  | some i =>
    simp only
    split
    · exact h.without (find_lt hf)
    · exact h
theorem VN.double {n : Net} (h : VN n) (id : Int) : VN (double n id).n := by
  unfold Net.double
  cases hf : findIx n id with
  | none => exact h
  | some i => exact h.send _ _
theorem VN.heal {n : Net} (h : VN n) (a b : Int) : VN (heal n a b).n := by
  unfold Net.heal
  split
  · cases hf : cutIx n a b with
    | none => exact h
    | some k =>
      have hk := cut_lt hf
      have hg := erase_get hk
      have hcl := h.cl
      have hlen : (n.cuts.take k ++ n.cuts.drop (k + 1)).length = n.cuts.length - 1 := by simp; omega
      refine ⟨h.nl, by show (n.cuts.take k ++ n.cuts.drop (k + 1)).length ≤ 200; omega, h.n1, h.n2, h.idl, h.pt, h.sp, fun i hi => ?_, fun i j hi hj hij => ?_⟩
      · obtain ⟨q, hq, e, _⟩ := hg i hi
        show parts ((n.cuts.take k ++ n.cuts.drop (k + 1))[i]).1 ((n.cuts.take k ++ n.cuts.drop (k + 1))[i]).2 = true ∧ ((n.cuts.take k ++ n.cuts.drop (k + 1))[i]).1 ≤ ((n.cuts.take k ++ n.cuts.drop (k + 1))[i]).2
        rw [e]; exact h.pc q hq
      · obtain ⟨q, hq, e, eq⟩ := hg i hi
        obtain ⟨r, hr, e', er⟩ := hg j hj
        show less ((n.cuts.take k ++ n.cuts.drop (k + 1))[i]) ((n.cuts.take k ++ n.cuts.drop (k + 1))[j]) = true
        rw [e, e']
        refine h.sc q r hq hr ?_
        subst eq; subst er
        split <;> split <;> omega
  · exact h

end Go.Proofs.Ytnemmdbafngppaa.Net
