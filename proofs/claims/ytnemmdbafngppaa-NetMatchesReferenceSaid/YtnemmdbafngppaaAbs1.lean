/- Abstract symbolic execution, part 1: tree values, what it means that a value reads as a tree, abstract values and states, and what it means that a frame and a world satisfy an abstract state. No condition. -/
import Derived.Orders
import Derived.Tactics
import Derived.Below
import Derived.Laws.AppendOwn
import Derived.KernelRfl
set_option linter.unusedVariables false
namespace Go.Proofs.Ytnemmdbafngppaa.Abs
open Go.RowKit

/-- Tree values: what a Go value reads as, memory included. Aggregates are flat rows of cells. -/
inductive T where
  | v (x : Value)
  | agg (l : List T)
  | slice (sz : Nat) (l : List T)
  | clip (sz : Nat) (l : List T)
  | ptr (l : List T)
  | clo (g : FuncId) (caps : List T)
  | tup (l : List T)
instance : Inhabited T := ⟨.v undef⟩

/-- The cells of a tree value. -/
def T.cells : T → List T
  | .agg l => l
  | t => [t]
abbrev T.i (n : Int) : T := .v (.int .i64 n)
abbrev T.b (b : Bool) : T := .v (.bool b)
abbrev T.u8 (n : Int) : T := .v (.int .u8 n)

/-- A value reads as a tree in a world; only blocks that are ok are looked into. -/
inductive Reads (w : World) (ok : Nat → Prop) : Value → T → Prop
  | v (x : Value) : Reads w ok x (.v x)
  | agg {vs : Array Value} {ts : List T} (hl : vs.size = ts.length) (h1 : ∀ i (h : i < vs.size), vs[i].oneCell' = true)
      (h : ∀ i (h1 : i < vs.size) (h2 : i < ts.length), Reads w ok vs[i] ts[i]) : Reads w ok (.agg vs) (.agg ts)
  | slice {a : Option Addr} {cap sz : Nat} {l : List T} (f : Nat → Value) (hc : l.length ≤ cap) (hm : cap ≤ maxLen)
      (hz : ∀ i (h : i < l.length), l[i].cells.length = sz)
      (ha : 0 < l.length * sz → ∃ ad, a = some ad ∧ ok ad.block ∧ ∀ k, k < l.length * sz → w.cell? (ad.add k) = some (f k) ∧ (f k).oneCell' = true)
      (h : ∀ i (hi : i < l.length) j (hj : j < l[i].cells.length), Reads w ok (f (i * sz + j)) l[i].cells[j]) :
      Reads w ok (.slice a l.length cap) (.slice sz l)
  | clip {a : Option Addr} {sz : Nat} {l : List T} (f : Nat → Value) (hm : l.length ≤ maxLen)
      (hz : ∀ i (h : i < l.length), l[i].cells.length = sz)
      (ha : 0 < l.length * sz → ∃ ad, a = some ad ∧ ok ad.block ∧ ∀ k, k < l.length * sz → w.cell? (ad.add k) = some (f k) ∧ (f k).oneCell' = true)
      (h : ∀ i (hi : i < l.length) j (hj : j < l[i].cells.length), Reads w ok (f (i * sz + j)) l[i].cells[j]) :
      Reads w ok (.slice a l.length l.length) (.clip sz l)
  | ptr {ad : Addr} {l : List T} (f : Nat → Value) (hok : ok ad.block)
      (ha : ∀ k, k < l.length → w.cell? (ad.add k) = some (f k) ∧ (f k).oneCell' = true)
      (h : ∀ k (hk : k < l.length), Reads w ok (f k) l[k]) : Reads w ok (.pointer (some ad)) (.ptr l)
  | clo {g : FuncId} {vs : Array Value} {ts : List T} (hl : vs.size = ts.length)
      (h : ∀ i (h1 : i < vs.size) (h2 : i < ts.length), Reads w ok vs[i] ts[i]) : Reads w ok (.func (.func g) #[] vs) (.clo g ts)
  | tup {vs : Array Value} {ts : List T} (hl : vs.size = ts.length)
      (h : ∀ i (h1 : i < vs.size) (h2 : i < ts.length), Reads w ok vs[i] ts[i]) : Reads w ok (.tuple vs) (.tup ts)

theorem cell_add_same {w w' : World} {ad : Addr} {k : Nat} (h : w'.heap[ad.block]? = w.heap[ad.block]?) : w'.cell? (ad.add k) = w.cell? (ad.add k) :=
  World.cell?_of_block (by unfold Addr.add; split <;> exact h)
theorem Reads.mono {w w' : World} {ok ok' : Nat → Prop} {v : Value} {t : T} (h : Reads w ok v t)
    (hw : ∀ b, ok b → w'.heap[b]? = w.heap[b]?) (hk : ∀ b, ok b → ok' b) : Reads w' ok' v t := by
  induction h with
  | v x => exact .v x
  | agg hl h1 _ ih => exact .agg hl h1 ih
  | slice f hc hm hz ha _ ih =>
    refine .slice f hc hm hz (fun hp => ?_) ih
    obtain ⟨ad, e, ho, hcell⟩ := ha hp
    exact ⟨ad, e, hk _ ho, fun k hkk => by rw [cell_add_same (hw _ ho)]; exact hcell k hkk⟩
  | clip f hm hz ha _ ih =>
    refine .clip f hm hz (fun hp => ?_) ih
    obtain ⟨ad, e, ho, hcell⟩ := ha hp
    exact ⟨ad, e, hk _ ho, fun k hkk => by rw [cell_add_same (hw _ ho)]; exact hcell k hkk⟩
  | ptr f hok ha _ ih => exact .ptr f (hk _ hok) (fun k hkk => by rw [cell_add_same (hw _ hok)]; exact ha k hkk) ih
  | clo hl _ ih => exact .clo hl ih
  | tup hl _ ih => exact .tup hl ih
/-- A tree value that fits one cell. -/
def T.one : T → Bool
  | .v x => x.oneCell'
  | .agg _ => false
  | .tup _ => false
  | _ => true
theorem Reads.one {w : World} {ok : Nat → Prop} {v : Value} {t : T} (h : Reads w ok v t) (ht : t.one = true) : v.oneCell' = true := by
  cases h with
  | v x => exact ht
  | agg => cases ht
  | tup => cases ht
  | _ => rfl

end Go.Proofs.Ytnemmdbafngppaa.Abs
