/- Parts of this proof, one after the other; each says what it proves. No condition. -/
import Derived.Orders
import Derived.Tactics
import Derived.Below
import Derived.Laws.AppendOwn
import Derived.KernelRfl
import Derived.ChangeKeysEq
import Derived.Maps.AppendAt
import Derived.Laws.OwnMore
/- Abstract symbolic execution, part 1: tree values, what it means that a value reads as a tree, abstract values and states, and what it means that a frame and a world satisfy an abstract state. No condition. -/
set_option linter.unusedVariables false
namespace Go.Proofs.Ytgblfhobiibeaaa.Abs
open Go.RowKit

/-- Tree values: what a Go value reads as, memory included. Aggregates are flat rows of cells. -/
inductive T where
  | v (x : Value)
  | agg (l : List T)
  | slice (sz : Nat) (l : List T)
  | clip (sz : Nat) (l : List T)
  | ptr (l : List T)
  | clo (g : FuncId) (caps : List T)
  | tup (l : List T)
instance : Inhabited T := ⟨.v undef⟩

/-- The cells of a tree value. -/
def T.cells : T → List T
  | .agg l => l
  | t => [t]
abbrev T.i (n : Int) : T := .v (.int .i64 n)
abbrev T.b (b : Bool) : T := .v (.bool b)
abbrev T.u8 (n : Int) : T := .v (.int .u8 n)

/-- A value reads as a tree in a world; only blocks that are ok are looked into. -/
inductive Reads (w : World) (ok : Nat → Prop) : Value → T → Prop
  | v (x : Value) : Reads w ok x (.v x)
  | agg {vs : Array Value} {ts : List T} (hl : vs.size = ts.length) (h1 : ∀ i (h : i < vs.size), vs[i].oneCell' = true)
      (h : ∀ i (h1 : i < vs.size) (h2 : i < ts.length), Reads w ok vs[i] ts[i]) : Reads w ok (.agg vs) (.agg ts)
  | slice {a : Option Addr} {cap sz : Nat} {l : List T} (f : Nat → Value) (hc : l.length ≤ cap) (hm : cap ≤ maxLen)
      (hz : ∀ i (h : i < l.length), l[i].cells.length = sz)
      (ha : 0 < l.length * sz → ∃ ad, a = some ad ∧ ok ad.block ∧ ∀ k, k < l.length * sz → w.cell? (ad.add k) = some (f k) ∧ (f k).oneCell' = true)
      (h : ∀ i (hi : i < l.length) j (hj : j < l[i].cells.length), Reads w ok (f (i * sz + j)) l[i].cells[j]) :
      Reads w ok (.slice a l.length cap) (.slice sz l)
  | clip {a : Option Addr} {sz : Nat} {l : List T} (f : Nat → Value) (hm : l.length ≤ maxLen)
      (hz : ∀ i (h : i < l.length), l[i].cells.length = sz)
      (ha : 0 < l.length * sz → ∃ ad, a = some ad ∧ ok ad.block ∧ ∀ k, k < l.length * sz → w.cell? (ad.add k) = some (f k) ∧ (f k).oneCell' = true)
      (h : ∀ i (hi : i < l.length) j (hj : j < l[i].cells.length), Reads w ok (f (i * sz + j)) l[i].cells[j]) :
      Reads w ok (.slice a l.length l.length) (.clip sz l)
  | ptr {ad : Addr} {l : List T} (f : Nat → Value) (hok : ok ad.block)
      (ha : ∀ k, k < l.length → w.cell? (ad.add k) = some (f k) ∧ (f k).oneCell' = true)
      (h : ∀ k (hk : k < l.length), Reads w ok (f k) l[k]) : Reads w ok (.pointer (some ad)) (.ptr l)
  | clo {g : FuncId} {vs : Array Value} {ts : List T} (hl : vs.size = ts.length)
      (h : ∀ i (h1 : i < vs.size) (h2 : i < ts.length), Reads w ok vs[i] ts[i]) : Reads w ok (.func (.func g) #[] vs) (.clo g ts)
  | tup {vs : Array Value} {ts : List T} (hl : vs.size = ts.length)
      (h : ∀ i (h1 : i < vs.size) (h2 : i < ts.length), Reads w ok vs[i] ts[i]) : Reads w ok (.tuple vs) (.tup ts)

theorem cell_add_same {w w' : World} {ad : Addr} {k : Nat} (h : w'.heap[ad.block]? = w.heap[ad.block]?) : w'.cell? (ad.add k) = w.cell? (ad.add k) :=
  World.cell?_of_block (by unfold Addr.add; split <;> exact h)
theorem Reads.mono {w w' : World} {ok ok' : Nat → Prop} {v : Value} {t : T} (h : Reads w ok v t)
    (hw : ∀ b, ok b → w'.heap[b]? = w.heap[b]?) (hk : ∀ b, ok b → ok' b) : Reads w' ok' v t := by
  induction h with
  | v x => exact .v x
  | agg hl h1 _ ih => exact .agg hl h1 ih
  | slice f hc hm hz ha _ ih =>
    refine .slice f hc hm hz (fun hp => ?_) ih
    obtain ⟨ad, e, ho, hcell⟩ := ha hp
    exact ⟨ad, e, hk _ ho, fun k hkk => by rw [cell_add_same (hw _ ho)]; exact hcell k hkk⟩
  | clip f hm hz ha _ ih =>
    refine .clip f hm hz (fun hp => ?_) ih
    obtain ⟨ad, e, ho, hcell⟩ := ha hp
    exact ⟨ad, e, hk _ ho, fun k hkk => by rw [cell_add_same (hw _ ho)]; exact hcell k hkk⟩
  | ptr f hok ha _ ih => exact .ptr f (hk _ hok) (fun k hkk => by rw [cell_add_same (hw _ hok)]; exact ha k hkk) ih
  | clo hl _ ih => exact .clo hl ih
  | tup hl _ ih => exact .tup hl ih
/-- A tree value that fits one cell. -/
def T.one : T → Bool
  | .v x => x.oneCell'
  | .agg _ => false
  | .tup _ => false
  | _ => true
theorem Reads.one {w : World} {ok : Nat → Prop} {v : Value} {t : T} (h : Reads w ok v t) (ht : t.one = true) : v.oneCell' = true := by
  cases h with
  | v x => exact ht
  | agg => cases ht
  | tup => cases ht
  | _ => rfl

end Go.Proofs.Ytgblfhobiibeaaa.Abs

/- Abstract symbolic execution, part 2: abstract values, objects, states; effects of operations; a region's operations in any order that its edges let. No condition. -/
set_option linter.unusedVariables false
set_option linter.unusedSimpArgs false
namespace Go.Proofs.Ytgblfhobiibeaaa.Abs
open Go.RowKit

/-- Abstract values of slots and of cells of variables in memory. 'ub': a Bool, not known which; 'h': the value of object i; 'p': a pointer into a variable; 'e': a pointer into a row; 's': a slice of a buffer, from its element k on. -/
inductive AV where
  | junk
  | ub
  | t (x : T)
  | h (i : Nat)
  | p (i off : Nat)
  | e (i off : Nat)
  | s (i sz k n c : Nat)
  | agg (l : List AV)
  | tup (l : List AV)
instance : Inhabited AV := ⟨.junk⟩

mutual
def AV.ids : AV → List Nat
  | .junk => []
  | .ub => []
  | .t _ => []
  | .h i => [i]
  | .p i _ => [i]
  | .e i _ => [i]
  | .s i _ _ _ _ => [i]
  | .agg l => AV.idsL l
  | .tup l => AV.idsL l
def AV.idsL : List AV → List Nat
  | [] => []
  | x :: xs => x.ids ++ AV.idsL xs
end
theorem AV.mem_idsL {l : List AV} {x : AV} (h : x ∈ l) {i : Nat} (hi : i ∈ x.ids) : i ∈ AV.idsL l := by
  induction l with
  | nil => cases h
  | cons y ys ih =>
    simp only [AV.idsL, List.mem_append]
    rcases List.mem_cons.1 h with rfl | h
    · exact .inl hi
    · exact .inr (ih h)
theorem AV.of_mem_idsL {l : List AV} {i : Nat} (h : i ∈ AV.idsL l) : ∃ x ∈ l, i ∈ x.ids := by
  induction l with
  | nil => simp [AV.idsL] at h
  | cons y ys ih =>
    simp only [AV.idsL, List.mem_append] at h
    rcases h with h | h
    · exact ⟨y, by simp, h⟩
    · obtain ⟨x, hx, hi⟩ := ih h
      exact ⟨x, by simp [hx], hi⟩

inductive VRel (w : World) (ok : Nat → Prop) (β : Nat → Value) : Value → AV → Prop
  | junk (v : Value) : VRel w ok β v .junk
  | ub (b : Bool) : VRel w ok β (.bool b) .ub
  | t {v : Value} {x : T} (h : Reads w ok v x) : VRel w ok β v (.t x)
  | h (i : Nat) : VRel w ok β (β i) (.h i)
  | p {i b off : Nat} (h : β i = .pointer (some ⟨b, 0, none⟩)) : VRel w ok β (.pointer (some ⟨b, off, none⟩)) (.p i off)
  | e {i b off n c : Nat} (h : β i = .slice (some ⟨b, 0, none⟩) n c) : VRel w ok β (.pointer (some ⟨b, off, none⟩)) (.e i off)
  | s {i b sz k n c cap off : Nat} (h : β i = .slice (some ⟨b, 0, none⟩) 0 cap) (hc : c + k ≤ cap) (hn : n ≤ c) (ho : c ≠ 0 → off = k * sz) : VRel w ok β (.slice (some ⟨b, off, none⟩) n c) (.s i sz k n c)
  | agg {vs : Array Value} {l : List AV} (hl : vs.size = l.length) (h1 : ∀ i (h : i < vs.size), vs[i].oneCell' = true)
      (h : ∀ i (h1 : i < vs.size) (h2 : i < l.length), VRel w ok β vs[i] l[i]) : VRel w ok β (.agg vs) (.agg l)
  | tup {vs : Array Value} {l : List AV} (hl : vs.size = l.length)
      (h : ∀ i (h1 : i < vs.size) (h2 : i < l.length), VRel w ok β vs[i] l[i]) : VRel w ok β (.tuple vs) (.tup l)

theorem VRel.mono {w w' : World} {ok ok' : Nat → Prop} {β β' : Nat → Value} {v : Value} {x : AV} (h : VRel w ok β v x)
    (hw : ∀ b, ok b → w'.heap[b]? = w.heap[b]?) (hk : ∀ b, ok b → ok' b) (hβ : ∀ i ∈ x.ids, β' i = β i) : VRel w' ok' β' v x := by
  induction h with
  | junk v => exact .junk v
  | ub b => exact .ub b
  | t h => exact .t (h.mono hw hk)
  | h i => rw [← hβ i (by simp [AV.ids])]; exact .h i
  | p h => exact .p (by rw [hβ _ (by simp [AV.ids])]; exact h)
  | e h => exact .e (by rw [hβ _ (by simp [AV.ids])]; exact h)
  | s h hc hn ho => exact .s (by rw [hβ _ (by simp [AV.ids])]; exact h) hc hn ho
  | agg hl ho _ ih => exact .agg hl ho fun i h1 h2 => ih i h1 h2 fun j hj => hβ j (by simp only [AV.ids]; exact AV.mem_idsL (List.getElem_mem h2) hj)
  | tup hl _ ih => exact .tup hl fun i h1 h2 => ih i h1 h2 fun j hj => hβ j (by simp only [AV.ids]; exact AV.mem_idsL (List.getElem_mem h2) hj)

/-- Objects that the call owns alone. 'box': a variable in memory; 'row': the array behind a slice that begins at the array's head. 'buf': an array of 'cap' elements, of which the first are known. 'mp': a map, its entries as they lie. -/
inductive AObj where
  | box (E : TypeId) (cells : List AV)
  | row (E : TypeId) (sz : Nat) (l : List T)
  | buf (E : TypeId) (sz cap : Nat) (l : List T)
  | mp (es : Array MapEntry) (clock : Nat)
def AObj.ids : AObj → List Nat
  | .box _ cells => AV.idsL cells
  | .row .. => []
  | .buf .. => []
  | .mp .. => []

structure AState where
  slot : Nat → AV
  mem : Nat → Option AObj
  used : Nat → Bool

/-- The block that an object's value leads to. -/
def blk : Value → Option Nat
  | .slice (some a) _ _ => some a.block
  | .pointer (some a) => some a.block
  | .map r => r
  | _ => none

structure Ctx where
  P : Program
  w0 : World
  ok0 : Nat → Prop
  n : Nat
  keep : Nat → Option (Obj × Bool)
  anc : List (Nat × Value)

def owned (S : AState) (β : Nat → Value) (b : Nat) : Prop := ∃ i o, S.mem i = some o ∧ blk (β i) = some b
def okS (C : Ctx) (S : AState) (β : Nat → Value) (w : World) (b : Nat) : Prop :=
  ((C.ok0 b ∨ C.w0.heap.size ≤ b) ∧ ∀ x, C.keep b ≠ some (x, true)) ∧ b < w.heap.size ∧ ¬ owned S β b

def ORel (C : Ctx) (ok : Nat → Prop) (β : Nat → Value) (w : World) (i : Nat) : AObj → Prop
  | .box E cells => ∃ b arr, β i = .pointer (some ⟨b, 0, none⟩) ∧ C.w0.heap.size ≤ b ∧ w.heap[b]? = some (.cells arr E (0, 0)) ∧
      arr.size = cells.length ∧ ∀ k (h1 : k < arr.size) (h2 : k < cells.length), VRel w ok β arr[k] cells[k] ∧ arr[k].oneCell' = true
  | .row E sz l => ∃ cells, w.ownsRow C.w0.heap.size E sz (β i) l.length cells ∧ (∀ k (h : k < l.length), l[k].cells.length = sz) ∧
      ∀ k (h : k < l.length) j (hj : j < l[k].cells.length), ∃ v, cells[k * sz + j]? = some v ∧ Reads w ok v l[k].cells[j] ∧ v.oneCell' = true
  | .buf E sz cap l => ∃ g cur, β i = .slice (some ⟨g, 0, none⟩) 0 cap ∧ C.w0.heap.size ≤ g ∧ w.heap[g]? = some (.cells cur E (0, 0)) ∧ cap ≤ maxLen ∧ cur.size = cap * sz ∧ l.length ≤ cap ∧ (∀ k (h : k < l.length), l[k].cells.length = sz) ∧
      ∀ k (h : k < l.length) j (hj : j < l[k].cells.length), ∃ v, cur[k * sz + j]? = some v ∧ Reads w ok v l[k].cells[j] ∧ v.oneCell' = true
  | .mp es clock => ∃ b, β i = .map (some b) ∧ C.w0.heap.size ≤ b ∧ w.heap[b]? = some (.map es clock)

structure SatB (C : Ctx) (β : Nat → Value) (S : AState) (a : Act) (w : World) : Prop where
  size : a.tmps.size = C.n
  defers : a.defers = []
  below : Below C.w0.heap.size C.w0 w
  ok0 : ∀ b, C.ok0 b → b < C.w0.heap.size
  slot : ∀ x, VRel w (okS C S β w) β (a.tmps.getD x undef) (S.slot x)
  mem : ∀ i o, S.mem i = some o → ORel C (okS C S β w) β w i o
  apart : ∀ i j o o', S.mem i = some o → S.mem j = some o' → i ≠ j → ∀ b, blk (β i) = some b → blk (β j) ≠ some b
  wfs : ∀ x i, i ∈ (S.slot x).ids → S.used i = true
  wfm : ∀ j o, S.mem j = some o → S.used j = true ∧ ∀ i, i ∈ o.ids → S.used i = true
  keep : ∀ b x, C.keep b = some x → w.heap[b]? = some x.1 ∧ ¬ owned S β b
  anc : ∀ p, p ∈ C.anc → β p.1 = p.2 ∧ ∃ E cells, S.mem p.1 = some (.box E cells)
def Sat (C : Ctx) (S : AState) (a : Act) (w : World) : Prop := ∃ β, SatB C β S a w

/-! ### Effects -/
def assoc (i : Nat) : List (Nat × Option AObj) → Option (Option AObj)
  | [] => none
  | (j, o) :: r => bif Nat.beq i j then some o else assoc i r
def hasKey (i : Nat) : List (Nat × Option AObj) → Bool
  | [] => false
  | (j, _) :: r => bif Nat.beq i j then true else hasKey i r
structure Eff where
  val : AV
  mods : List (Nat × Option AObj)
  looks : List Nat
def Eff.touches (e : Eff) (i : Nat) : Prop := i ∈ e.looks ∨ hasKey i e.mods = true

def putS (d : Option Nat) (v : AV) (s : Nat → AV) : Nat → AV :=
  match d with
  | none => s
  | some d => fun x => bif Nat.beq x d then v else s x
/-- The state behind an operation. -/
def ap (d : Option Nat) (e : Eff) (S : AState) : AState :=
  { slot := putS d e.val S.slot
    mem := fun i => match assoc i e.mods with | some o => o | none => S.mem i
    used := fun i => S.used i || hasKey i e.mods }
/-- Skipped, or done with an effect. -/
def apx (o : Oper) : Option Eff → AState → AState
  | none => fun S => { S with slot := putS o.dst (.t (.v undef)) S.slot }
  | some e => ap o.dst e

def Step (C : Ctx) (ops : Array Oper) (o : Oper) (S : AState) (e : Eff) : Prop :=
  ∀ S₁ : AState, (∀ x ∈ o.looksAt ops, S₁.slot x = S.slot x) → (∀ i, e.touches i → S₁.mem i = S.mem i ∧ S₁.used i = S.used i) →
    ∀ a w, Sat C S₁ a w → o.wp C.P a w (Sat C (ap o.dst e S₁)) (fun _ _ _ => False)
/-- What a guard says of a value; behind an operation that was skipped there is no Bool. -/
def gv : Value → Bool → Bool
  | .bool b, want => b == want
  | _, _ => false
/-- The guard lets the operation be done ('true'), or skips it. -/
def Guard (ops : Array Oper) (o : Oper) (S : AState) (take : Bool) : Prop :=
  match o.guard with
  | none => take = true
  | some (g, want) => ∃ d v, (ops[g]?).bind (·.dst) = some d ∧ S.slot d = .t (.v v) ∧ take = gv v want
def GStep (C : Ctx) (ops : Array Oper) (o : Oper) (S : AState) : Option Eff → Prop
  | none => Guard ops o S false
  | some e => Guard ops o S true ∧ Step C ops o S e

theorem putS_none (v : AV) (s : Nat → AV) : putS none v s = s := rfl
theorem putS_other {d : Option Nat} {v : AV} {s : Nat → AV} {x : Nat} (h : d ≠ some x) : putS d v s x = s x := by
  cases d with
  | none => rfl
  | some d =>
    have : Nat.beq x d = false := by
      cases hb : Nat.beq x d with
      | false => rfl
      | true => exact absurd (by rw [Nat.eq_of_beq_eq_true hb]) h
    simp [putS, this]
theorem putS_same (d : Nat) (v : AV) (s : Nat → AV) : putS (some d) v s d = v := by
  have : Nat.beq d d = true := Nat.beq_refl d
  simp [putS, this]
theorem putS_cases (d : Option Nat) (v : AV) (s : Nat → AV) (x : Nat) : (d = some x ∧ putS d v s x = v) ∨ (d ≠ some x ∧ putS d v s x = s x) := by
  by_cases h : d = some x
  · subst h; exact .inl ⟨rfl, putS_same ..⟩
  · exact .inr ⟨h, putS_other h⟩
theorem putS_comm {d d' : Option Nat} {v v' : AV} {s : Nat → AV} (h : ∀ x, d = some x → d' ≠ some x) : putS d v (putS d' v' s) = putS d' v' (putS d v s) := by
  funext x
  rcases putS_cases d v (putS d' v' s) x with ⟨e1, h1⟩ | ⟨e1, h1⟩ <;> rcases putS_cases d' v' (putS d v s) x with ⟨e2, h2⟩ | ⟨e2, h2⟩
  · exact absurd e2 (h x e1)
  · rw [h1, h2]; subst e1; rw [putS_same]
  · rw [h1, h2]; subst e2; rw [putS_same]
  · rw [h1, h2, putS_other e1, putS_other e2]
theorem hasKey_assoc {i : Nat} {l : List (Nat × Option AObj)} : hasKey i l = (assoc i l).isSome := by
  induction l with
  | nil => rfl
  | cons y r ih =>
    obtain ⟨j, o⟩ := y
    simp only [hasKey, assoc]
    cases Nat.beq i j <;> simp [ih]
theorem assoc_none {i : Nat} {l : List (Nat × Option AObj)} (h : hasKey i l = false) : assoc i l = none := by
  rw [hasKey_assoc] at h
  cases ha : assoc i l with
  | none => rfl
  | some _ => rw [ha] at h; cases h

/-! ### Independence -/
def looksB (ops : Array Oper) (o : Oper) : Option Nat → Bool
  | none => false
  | some d => (o.looksAt ops).any (Nat.beq d)
def sameDst : Option Nat → Option Nat → Bool
  | some a, some b => Nat.beq a b
  | _, _ => false
def keysApart (m : List (Nat × Option AObj)) (e : Eff) : Bool := m.all fun y => !(e.looks.any (Nat.beq y.1)) && !(hasKey y.1 e.mods)
def effApart : Option Eff → Option Eff → Bool
  | some e, some e' => keysApart e.mods e' && keysApart e'.mods e
  | _, _ => true
/-- Two operations with their effects may change places. -/
def indep (ops : Array Oper) (x y : Oper × Option Eff) : Bool :=
  !(sameDst x.1.dst y.1.dst) && !(looksB ops y.1 x.1.dst) && !(looksB ops x.1 y.1.dst) && effApart x.2 y.2

theorem any_beq {l : List Nat} {d : Nat} : l.any (Nat.beq d) = true ↔ d ∈ l := by
  rw [List.any_eq_true]
  constructor
  · rintro ⟨x, hx, hb⟩; rw [Nat.eq_of_beq_eq_true hb]; exact hx
  · intro h; exact ⟨d, h, Nat.beq_refl d⟩
theorem hasKey_iff {i : Nat} {l : List (Nat × Option AObj)} : hasKey i l = true ↔ ∃ o, (i, o) ∈ l := by
  induction l with
  | nil => simp [hasKey]
  | cons y r ih =>
    obtain ⟨j, o⟩ := y
    simp only [hasKey]
    cases hb : Nat.beq i j with
    | true => have := Nat.eq_of_beq_eq_true hb; subst this; simp
    | false =>
      simp only [cond_false, ih]
      have hne : i ≠ j := fun e => by subst e; rw [Nat.beq_refl] at hb; cases hb
      constructor
      · rintro ⟨q, hq⟩; exact ⟨q, List.mem_cons_of_mem _ hq⟩
      · rintro ⟨q, hq⟩
        rcases List.mem_cons.1 hq with h | h
        · injection h with h1 _; exact absurd h1 hne
        · exact ⟨q, h⟩
theorem keysApart_spec {m : List (Nat × Option AObj)} {e : Eff} (h : keysApart m e = true) {i : Nat} (ht : e.touches i) : hasKey i m = false := by
  cases hk : hasKey i m with
  | false => rfl
  | true =>
    obtain ⟨o, ho⟩ := hasKey_iff.1 hk
    have := (List.all_eq_true.1 h) _ ho
    simp only [Bool.and_eq_true, Bool.not_eq_true'] at this
    rcases ht with ht | ht
    · have := this.1; rw [any_beq.2 ht] at this; cases this
    · have := this.2; rw [ht] at this; cases this

structure Indep (ops : Array Oper) (x y : Oper × Option Eff) : Prop where
  dst : ∀ d, x.1.dst = some d → y.1.dst ≠ some d
  xy : ∀ d, x.1.dst = some d → d ∉ y.1.looksAt ops
  yx : ∀ d, y.1.dst = some d → d ∉ x.1.looksAt ops
  eff : effApart x.2 y.2 = true
theorem indep_spec {ops : Array Oper} {x y : Oper × Option Eff} (h : indep ops x y = true) : Indep ops x y := by
  simp only [indep, Bool.and_eq_true, Bool.not_eq_true'] at h
  obtain ⟨⟨⟨h1, h2⟩, h3⟩, h4⟩ := h
  refine ⟨fun d hd he => ?_, fun d hd hm => ?_, fun d hd hm => ?_, h4⟩
  · rw [hd, he] at h1; simp [sameDst, Nat.beq_refl] at h1
  · rw [hd] at h2; simp only [looksB] at h2; rw [any_beq.2 hm] at h2; cases h2
  · rw [hd] at h3; simp only [looksB] at h3; rw [any_beq.2 hm] at h3; cases h3

theorem apx_slot {o : Oper} {x : Option Eff} {S : AState} {d : Nat} (h : o.dst ≠ some d) : (apx o x S).slot d = S.slot d := by
  cases x <;> exact putS_other h
theorem apx_mem {o : Oper} {e : Eff} {S : AState} {i : Nat} (h : hasKey i e.mods = false) : (apx o (some e) S).mem i = S.mem i ∧ (apx o (some e) S).used i = S.used i := by
  constructor
  · simp only [apx, ap, assoc_none h]
  · simp only [apx, ap, h, Bool.or_false]

theorem Guard.of_agree {ops : Array Oper} {o : Oper} {S S' : AState} {b : Bool} (h : Guard ops o S b) (hs : ∀ x ∈ o.looksAt ops, S'.slot x = S.slot x) : Guard ops o S' b := by
  unfold Guard at *
  cases hg : o.guard with
  | none => simp only [hg] at h ⊢; exact h
  | some gw =>
    obtain ⟨g, want⟩ := gw
    simp only [hg] at h ⊢
    obtain ⟨d, b', hd, hsl, ht⟩ := h
    refine ⟨d, b', hd, ?_, ht⟩
    rw [hs d (by simp [Oper.looksAt, hg, hd])]; exact hsl

theorem GStep.of_agree {C : Ctx} {ops : Array Oper} {o : Oper} {S S' : AState} {x : Option Eff} (h : GStep C ops o S x)
    (hs : ∀ y ∈ o.looksAt ops, S'.slot y = S.slot y) (hm : ∀ e, x = some e → ∀ i, e.touches i → S'.mem i = S.mem i ∧ S'.used i = S.used i) : GStep C ops o S' x := by
  cases x with
  | none => exact Guard.of_agree h hs
  | some e =>
    refine ⟨Guard.of_agree h.1 hs, fun S₁ h1 h2 a w hsat => h.2 S₁ (fun y hy => (h1 y hy).trans (hs y hy)) (fun i hi => ?_) a w hsat⟩
    have a1 := h2 i hi
    have a2 := hm e rfl i hi
    exact ⟨a1.1.trans a2.1, a1.2.trans a2.2⟩

theorem GStep.swap {C : Ctx} {ops : Array Oper} {x y : Oper × Option Eff} {S : AState} (hi : Indep ops x y) (h : GStep C ops y.1 S y.2) : GStep C ops y.1 (apx x.1 x.2 S) y.2 := by
  refine h.of_agree (fun z hz => apx_slot fun hd => hi.xy z hd hz) (fun e he i ht => ?_)
  cases hx : x.2 with
  | none => exact ⟨rfl, rfl⟩
  | some e' =>
    have := hi.eff
    rw [he, hx] at this
    simp only [effApart, Bool.and_eq_true] at this
    exact apx_mem (keysApart_spec this.1 ht)
theorem GStep.unswap {C : Ctx} {ops : Array Oper} {x y : Oper × Option Eff} {S : AState} (hi : Indep ops x y) (h : GStep C ops y.1 (apx x.1 x.2 S) y.2) : GStep C ops y.1 S y.2 := by
  refine h.of_agree (fun z hz => (apx_slot fun hd => hi.xy z hd hz).symm) (fun e he i ht => ?_)
  cases hx : x.2 with
  | none => exact ⟨rfl, rfl⟩
  | some e' =>
    have := hi.eff
    rw [he, hx] at this
    simp only [effApart, Bool.and_eq_true] at this
    have := apx_mem (o := x.1) (S := S) (keysApart_spec this.1 ht)
    exact ⟨this.1.symm, this.2.symm⟩
theorem Indep.symm {ops : Array Oper} {x y : Oper × Option Eff} (h : Indep ops x y) : Indep ops y x := by
  refine ⟨fun d hd he => h.dst d he hd, h.yx, h.xy, ?_⟩
  have := h.eff
  cases hx : x.2 <;> cases hy : y.2 <;> simp_all [effApart]

theorem apx_comm {ops : Array Oper} {x y : Oper × Option Eff} {S : AState} (hi : Indep ops x y) : apx x.1 x.2 (apx y.1 y.2 S) = apx y.1 y.2 (apx x.1 x.2 S) := by
  have hd := hi.dst
  have he := hi.eff
  obtain ⟨o, x⟩ := x
  obtain ⟨o', y⟩ := y
  simp only at hd he
  cases x with
  | none => cases y <;> simp only [apx, ap] <;> rw [putS_comm hd]
  | some e =>
    cases y with
    | none => simp only [apx, ap]; rw [putS_comm hd]
    | some e' =>
      simp only [effApart, Bool.and_eq_true] at he
      simp only [apx, ap, AState.mk.injEq]
      refine ⟨putS_comm hd, ?_, ?_⟩
      · funext i
        cases h1 : assoc i e.mods with
        | none => simp
        | some q =>
          have : hasKey i e'.mods = false := keysApart_spec he.2 (.inr (by rw [hasKey_assoc, h1]; rfl))
          rw [assoc_none this]
      · funext i
        rw [Bool.or_assoc, Bool.or_assoc, Bool.or_comm (hasKey i e'.mods)]

end Go.Proofs.Ytgblfhobiibeaaa.Abs

/- Abstract symbolic execution, part 3: regions (in the text's order, and in any order), and the rules for code. No condition. -/
set_option linter.unusedVariables false
set_option linter.unusedSimpArgs false
namespace Go.Proofs.Ytgblfhobiibeaaa.Abs
open Go.RowKit

abbrev Item := Nat × Oper × Option Eff
def Good (C : Ctx) (ops : Array Oper) : List Item → AState → Prop
  | [], _ => True
  | it :: r, S => GStep C ops it.2.1 S it.2.2 ∧ Good C ops r (apx it.2.1 it.2.2 S)
def fin : List Item → AState → AState
  | [], S => S
  | it :: r, S => fin r (apx it.2.1 it.2.2 S)

theorem bubble {C : Ctx} {ops : Array Oper} {y : Item} {post : List Item} : ∀ (pre : List Item) (S : AState), (∀ p ∈ pre, Indep ops p.2 y.2) →
    Good C ops (pre ++ y :: post) S → GStep C ops y.2.1 S y.2.2 ∧ Good C ops (pre ++ post) (apx y.2.1 y.2.2 S) ∧ fin (pre ++ post) (apx y.2.1 y.2.2 S) = fin (pre ++ y :: post) S
  | [], S, _, h => ⟨h.1, h.2, rfl⟩
  | p :: pre, S, hi, h => by
    have hp := hi p (by simp)
    obtain ⟨h1, h2, h3⟩ := bubble pre (apx p.2.1 p.2.2 S) (fun q hq => hi q (by simp [hq])) h.2
    have hc := apx_comm (S := S) hp
    refine ⟨GStep.unswap hp h1, ⟨GStep.swap hp.symm h.1, ?_⟩, ?_⟩
    · rw [hc]; exact h2
    · simp only [List.cons_append, fin]
      rw [hc]; exact h3

def ancOf (ops : Array Oper) : Nat → Nat → Nat → Bool
  | 0, _, _ => false
  | n + 1, i, j => match ops[i]? with
    | none => false
    | some o => o.after.toList.any fun e => Region.binds .any e && (Nat.beq e.on j || ancOf ops n e.on j)
def pairsOk (ops : Array Oper) : List Item → Bool
  | [] => true
  | it :: r => (r.all fun y => indep ops it.2 y.2 || ancOf ops ops.size y.1 it.1) && pairsOk ops r
def edgesFrom (k : Nat) : List Oper → Bool
  | [] => true
  | o :: r => (o.after.toList.all fun e => !(Region.binds .any e) || Nat.blt e.on k) && edgesFrom (k + 1) r

def ClosedL (ops : Array Oper) (listed : Array Bool) : Prop :=
  ∀ i o, listed.getD i false = true → ops[i]? = some o → ∀ e ∈ o.after, Region.binds .any e = true → listed.getD e.on false = true

theorem anc_listed {ops : Array Oper} {listed : Array Bool} (hc : ClosedL ops listed) : ∀ n i j o, ops[i]? = some o →
    (∀ e ∈ o.after, Region.binds .any e = true → listed.getD e.on false = true) → ancOf ops n i j = true → listed.getD j false = true
  | 0, _, _, _, _, _, h => by cases h
  | n + 1, i, j, o, ho, hp, h => by
    simp only [ancOf, ho, List.any_eq_true, Bool.and_eq_true, Bool.or_eq_true] at h
    obtain ⟨e, he, hb, h⟩ := h
    have he' : e ∈ o.after := by simpa using he
    have hl := hp e he' hb
    rcases h with h | h
    · rw [Nat.eq_of_beq_eq_true h] at hl; exact hl
    · cases ho' : ops[e.on]? with
      | none => cases n <;> simp [ancOf, ho'] at h
      | some o' => exact anc_listed hc n e.on j o' ho' (hc _ _ hl ho') h

theorem edgesFrom_spec : ∀ (l : List Oper) (k : Nat), edgesFrom k l = true → ∀ j o, l[j]? = some o → ∀ e ∈ o.after, Region.binds .any e = true → e.on < k + j
  | [], _, _, _, _, h, _, _, _ => by simp at h
  | o' :: r, k, h, j, o, hj, e, he, hb => by
    simp only [edgesFrom, Bool.and_eq_true, List.all_eq_true, Bool.or_eq_true, Bool.not_eq_true'] at h
    cases j with
    | zero =>
      simp only [List.getElem?_cons_zero, Option.some.injEq] at hj
      subst hj
      rcases h.1 e (by simpa using he) with h' | h'
      · rw [hb] at h'; cases h'
      · simpa [Nat.blt_eq] using h'
    | succ j =>
      have := edgesFrom_spec r (k + 1) h.2 j o (by simpa using hj) e he hb
      omega

theorem Oper.wp_monoQ {P : Program} {o : Oper} {a : Act} {w : World} {K K' : Act → World → Prop} {Q : Exit → Act → World → Prop}
    (h : ∀ a w, K a w → K' a w) (hh : o.wp P a w K (fun _ _ _ => False)) : o.wp P a w K' Q := by
  unfold Oper.wp at *
  generalize (execOp a.eval o).run P w = r at *
  cases r with
  | ok n w' =>
    cases n <;> simp only [Oper.upon] at hh ⊢ <;>
      first
        | exact h _ _ hh
        | exact Calls.mono hh (fun e w'' he => by cases e <;> first | exact h _ _ he | exact he.elim | (obtain ⟨_, _, hf⟩ := he; exact hf.elim))
        | exact Rows.mono hh (fun _ _ he => h _ _ he)
  | halt x w' => cases x <;> simp only [Oper.upon] at hh ⊢

theorem eval_tmp_getD (a : Act) (x : Nat) : a.eval (.tmp x) = a.tmps.getD x undef := rfl
theorem put_getD_other {a : Act} {d : Option Nat} {v : Value} {x : Nat} (h : d ≠ some x) : (a.put d v).tmps.getD x undef = a.tmps.getD x undef := by
  cases d with
  | none => rfl
  | some d =>
    have hne : d ≠ x := fun e => h (by rw [e])
    simp [Act.put, Array.getElem?_setIfInBounds_ne hne]
theorem put_getD_same {a : Act} {d : Nat} {v : Value} (h : d < a.tmps.size) : (a.put (some d) v).tmps.getD d undef = v := by
  simp [Act.put, h]
theorem put_size (a : Act) (d : Option Nat) (v : Value) : (a.put d v).tmps.size = a.tmps.size := by cases d <;> simp [Act.put]
theorem put_defers' (a : Act) (d : Option Nat) (v : Value) : (a.put d v).defers = a.defers := by cases d <;> rfl

/-- Only slots have changed, and the world not at all. -/
theorem SatB.put {C : Ctx} {β : Nat → Value} {S : AState} {a : Act} {w : World} (h : SatB C β S a w) (d : Option Nat) (v : Value) (av : AV)
    (hv : ∀ x, d = some x → x < C.n → VRel w (okS C S β w) β v av) (hn : ∀ x, d = some x → x < C.n ∨ av = .junk) (hi : ∀ i ∈ av.ids, S.used i = true) :
    SatB C β { S with slot := putS d av S.slot } (a.put d v) w where
  size := (put_size ..).trans h.size
  defers := (put_defers' ..).trans h.defers
  below := h.below
  ok0 := h.ok0
  slot := fun x => by
    rcases putS_cases d av S.slot x with ⟨e1, h1⟩ | ⟨e1, h1⟩
    · show VRel w _ β _ (putS d av S.slot x)
      rw [h1]; subst e1
      rcases hn x rfl with hx | hx
      · rw [put_getD_same (by rw [h.size]; exact hx)]; exact hv x rfl hx
      · rw [hx]; exact .junk _
    · show VRel w _ β _ (putS d av S.slot x)
      rw [h1, put_getD_other e1]; exact h.slot x
  mem := h.mem
  apart := h.apart
  wfs := fun x i hi' => by
    rcases putS_cases d av S.slot x with ⟨e1, h1⟩ | ⟨e1, h1⟩
    · have : i ∈ (putS d av S.slot x).ids := hi'
      rw [h1] at this; exact hi i this
    · have : i ∈ (putS d av S.slot x).ids := hi'
      rw [h1] at this; exact h.wfs x i this
  wfm := h.wfm
  keep := h.keep
  anc := h.anc

theorem SatB.put' {C : Ctx} {β : Nat → Value} {S : AState} {a : Act} {w : World} (h : SatB C β S a w) (d : Option Nat) : SatB C β { S with slot := putS d (.t (.v undef)) S.slot } (a.put d undef) w where
  size := (put_size ..).trans h.size
  defers := (put_defers' ..).trans h.defers
  below := h.below
  ok0 := h.ok0
  slot := fun x => by
    rcases putS_cases d (.t (.v undef)) S.slot x with ⟨e1, h1⟩ | ⟨e1, h1⟩
    · show VRel w _ β _ (putS d _ S.slot x)
      rw [h1]; subst e1
      have : (a.put (some x) undef).tmps.getD x undef = undef := by
        by_cases hx : x < a.tmps.size
        · exact put_getD_same hx
        · simp [Act.put, Array.getD_eq_getD_getElem?, hx]
      rw [this]; exact .t (.v undef)
    · show VRel w _ β _ (putS d _ S.slot x)
      rw [h1, put_getD_other e1]; exact h.slot x
  mem := h.mem
  apart := h.apart
  wfs := fun x i hi' => by
    rcases putS_cases d (.t (.v undef)) S.slot x with ⟨e1, h1⟩ | ⟨e1, h1⟩
    · have : i ∈ (putS d (.t (.v undef)) S.slot x).ids := hi'
      rw [h1] at this; simp [AV.ids] at this
    · have : i ∈ (putS d (.t (.v undef)) S.slot x).ids := hi'
      rw [h1] at this; exact h.wfs x i this
  wfm := h.wfm
  keep := h.keep
  anc := h.anc

theorem Sat.junk {C : Ctx} {S : AState} {a : Act} {w : World} (h : Sat C S a w) (d : Option Nat) (v : Value) :
    Sat C { S with slot := putS d .junk S.slot } (a.put d v) w := by
  obtain ⟨β, h⟩ := h
  exact ⟨β, h.put d v .junk (fun _ _ _ => .junk _) (fun _ _ => .inr rfl) (by simp [AV.ids])⟩
theorem Sat.skipped {C : Ctx} {S : AState} {a : Act} {w : World} (h : Sat C S a w) (d : Option Nat) : Sat C { S with slot := putS d (.t (.v undef)) S.slot } (a.put d undef) w := by
  obtain ⟨β, h⟩ := h
  refine ⟨β, h.put' d⟩
theorem Sat.drew {C : Ctx} {S : AState} {a : Act} {w : World} (h : Sat C S a w) (n : Nat) : Sat C S a { w with drawn := n } := by
  obtain ⟨β, h⟩ := h
  exact ⟨β, { h with below := ⟨h.below.os, h.below.tape, h.below.output, h.below.size, h.below.block⟩
                     slot := fun x => (h.slot x).mono (fun _ _ => rfl) (fun _ hb => hb) (fun _ _ => rfl)
                     mem := fun i o hi => by
                       have hm := h.mem i o hi
                       cases o with
                       | box E cells =>
                         obtain ⟨b, arr, h1, h2, h3, h4, h5⟩ := hm
                         exact ⟨b, arr, h1, h2, h3, h4, fun k k1 k2 => ⟨(h5 k k1 k2).1.mono (fun _ _ => rfl) (fun _ hb => hb) (fun _ _ => rfl), (h5 k k1 k2).2⟩⟩
                       | row E sz l =>
                         obtain ⟨cells, h1, h2, h3⟩ := hm
                         exact ⟨cells, h1, h2, fun k hk j hj => by obtain ⟨v, e, hr, ho⟩ := h3 k hk j hj; exact ⟨v, e, hr.mono (fun _ _ => rfl) (fun _ hb => hb), ho⟩⟩
                       | buf E sz cap l =>
                         obtain ⟨g, cur, h1, h2, h3, h4, h5, h6, h7, h8⟩ := hm
                         exact ⟨g, cur, h1, h2, h3, h4, h5, h6, h7, fun k hk j hj => by obtain ⟨v, e, hr, ho⟩ := h8 k hk j hj; exact ⟨v, e, hr.mono (fun _ _ => rfl) (fun _ hb => hb), ho⟩⟩
                       | mp es clock => exact hm }⟩

theorem getD_bool {xs : Array Value} {d : Nat} {b : Bool} (h : xs.getD d undef = .bool b) : xs[d]? = some (.bool b) := by
  by_cases hd : d < xs.size
  · simp [Array.getD, hd] at h; simp [hd, h]
  · simp [Array.getD, hd, undef] at h

theorem Guard.wanted {C : Ctx} {ops : Array Oper} {o : Oper} {S : AState} {b : Bool} {a : Act} {w : World} (h : Guard ops o S b) (hs : Sat C S a w) :
    Region.wanted o (yielded ops a.tmps) = b := by
  unfold Guard at h
  unfold Region.wanted
  cases hg : o.guard with
  | none => simp only [hg] at h ⊢; exact h.symm
  | some gw =>
    obtain ⟨g, want⟩ := gw
    simp only [hg] at h ⊢
    obtain ⟨d, v', hd, hsl, rfl⟩ := h
    obtain ⟨β, hs⟩ := hs
    have hv := hs.slot d
    rw [hsl] at hv
    generalize hq : a.tmps.getD d undef = q at hv
    cases hv with
    | t hr =>
      cases hr
      simp only [yielded, hd, Option.bind_some]
      by_cases hb : ∃ b', v' = .bool b'
      · obtain ⟨b', rfl⟩ := hb
        have := getD_bool hq
        simp only [this]
        cases b' <;> cases want <;> rfl
      · have hgv : gv v' want = false := by
          cases v' <;> first | rfl | exact absurd ⟨_, rfl⟩ hb
        rw [hgv]
        cases ht : a.tmps[d]? with
        | none => rfl
        | some u =>
          have hu : u = v' := by rw [← hq]; simp [Array.getD_eq_getD_getElem?, ht]
          subst hu
          cases u <;> first | rfl | exact absurd ⟨_, rfl⟩ hb

theorem step_sound {C : Ctx} {ops : Array Oper} {Q : Exit → Act → World → Prop} {o : Oper} {x : Option Eff} {S : AState} {K : Act → World → Prop} {a : Act} {w : World}
    (h : GStep C ops o S x) (hs : Sat C S a w) (hK : ∀ a w, Sat C (apx o x S) a w → K a w) :
    if Region.wanted o (yielded ops a.tmps) then o.wp C.P a w K Q ∨ (o.asks C.P a w ∧ LetsOut Q) else K (a.put o.dst undef) w := by
  cases x with
  | none =>
    rw [Guard.wanted h hs]
    simp only [Bool.false_eq_true, if_false]
    exact hK _ _ (hs.skipped o.dst)
  | some e =>
    rw [Guard.wanted h.1 hs]
    simp only [if_true]
    exact .inl (Oper.wp_monoQ hK (h.2 S (fun _ _ => rfl) (fun _ _ => ⟨rfl, rfl⟩) a w hs))

theorem text_sound {C : Ctx} {ops : Array Oper} {Q : Exit → Act → World → Prop} : ∀ (R : List Item) (S : AState) (a : Act) (w : World), Good C ops R S → Sat C S a w →
    (∀ a w, Sat C (fin R S) a w → Q .normal a w) → wpList C.P ops Q (R.map (·.2.1)) a w
  | [], S, a, w, _, hs, hQ => hQ a w hs
  | it :: r, S, a, w, hg, hs, hQ => by
    simp only [List.map_cons, wpList]
    exact step_sound hg.1 hs fun a w hs' => text_sound r _ a w hg.2 hs' hQ

theorem any_sound {C : Ctx} {ops : Array Oper} {Q : Exit → Act → World → Prop} (hE : edgesFrom 0 ops.toList = true) :
    ∀ (fuel : Nat) (listed : Array Bool) (R : List Item) (S : AState) (a : Act) (w : World),
      R.length = fuel → (∀ it ∈ R, ops[it.1]? = some it.2.1) → R.Pairwise (fun x y => x.1 < y.1) →
      (∀ i, i < ops.size → listed.getD i false = true ∨ ∃ it ∈ R, it.1 = i) → (∀ it ∈ R, listed.getD it.1 true = false) → ClosedL ops listed →
      pairsOk ops R = true → Good C ops R S → Sat C S a w → (∀ a w, Sat C (fin R S) a w → Q .normal a w) → wpAny C.P .any ops Q fuel listed a w := by
  have hedge : ∀ j o, ops[j]? = some o → ∀ e ∈ o.after, Region.binds .any e = true → e.on < j := by
    intro j o hj e he hb
    have := edgesFrom_spec ops.toList 0 hE j o (by simpa using hj) e he hb
    omega
  intro fuel
  induction fuel with
  | zero =>
    intro listed R S a w hl hops hord hall hun hcl hok hg hs hQ
    obtain rfl : R = [] := List.eq_nil_of_length_eq_zero hl
    refine ⟨?_, hQ a w hs⟩
    apply List.eq_nil_iff_forall_not_mem.2
    intro j hj
    rw [mem_ready] at hj
    obtain ⟨h0, o, ho, _⟩ := hj
    have hlt : j < ops.size := (Array.getElem?_eq_some_iff.1 ho).1
    rcases hall j hlt with h | ⟨it, hit, _⟩
    · by_cases hjs : j < listed.size
      · simp [Array.getD, hjs] at h h0; rw [h] at h0; cases h0
      · simp [Array.getD, hjs] at h
    · cases hit
  | succ fuel ih =>
    intro listed R S a w hl hops hord hall hun hcl hok hg hs hQ
    constructor
    · intro hr
      exfalso
      cases R with
      | nil => cases hl
      | cons it r =>
        have : it.1 ∈ Region.ready .any ops listed := by
          rw [mem_ready]
          refine ⟨hun it (by simp), it.2.1, hops it (by simp), fun e he hb => ?_⟩
          have hlt := hedge _ _ (hops it (by simp)) e he hb
          have hsz : it.1 < ops.size := (Array.getElem?_eq_some_iff.1 (hops it (by simp))).1
          rcases hall e.on (by omega) with h | ⟨y, hy, hyi⟩
          · exact h
          · exfalso
            rcases List.mem_cons.1 hy with rfl | hy
            · omega
            · have := (List.pairwise_cons.1 hord).1 y hy
              omega
        rw [hr] at this; cases this
    · intro i hi
      have hr := mem_ready.1 hi
      obtain ⟨h0, o, ho, hpre⟩ := hr
      have hlt : i < ops.size := (Array.getElem?_eq_some_iff.1 ho).1
      have hnl : listed.getD i false = false := by
        by_cases his : i < listed.size
        · simp [Array.getD, his] at h0 ⊢; exact h0
        · simp [Array.getD, his]
      obtain ⟨it, hit, hii⟩ : ∃ it ∈ R, it.1 = i := by
        rcases hall i hlt with h | h
        · rw [hnl] at h; cases h
        · exact h
      obtain ⟨pre, post, rfl⟩ := List.append_of_mem hit
      have hoi : it.2.1 = o := by have := hops it hit; rw [hii, ho] at this; injection this with this; exact this.symm
      have hpairs : ∀ p ∈ pre, Indep ops p.2 it.2 := by
        intro p hp
        have key : ∀ (l : List Item), pairsOk ops (l ++ it :: post) = true → p ∈ l → (indep ops p.2 it.2 || ancOf ops ops.size it.1 p.1) = true := by
          intro l
          induction l with
          | nil => intro _ h; cases h
          | cons q l ihl =>
            intro h hpl
            simp only [List.cons_append, pairsOk, Bool.and_eq_true, List.all_eq_true] at h
            rcases List.mem_cons.1 hpl with rfl | hpl
            · exact h.1 it (by simp)
            · exact ihl h.2 hpl
        have hk := key pre hok hp
        rw [Bool.or_eq_true] at hk
        rcases hk with hk | hk
        · exact indep_spec hk
        · exfalso
          have hl' := anc_listed hcl _ _ _ o (by rw [hii]; exact ho) hpre hk
          have hpu := hun p (by simp [hp])
          by_cases his : p.1 < listed.size
          · simp [Array.getD, his] at hl' hpu; rw [hl'] at hpu; cases hpu
          · simp [Array.getD, his] at hl'
      obtain ⟨g1, g2, g3⟩ := bubble pre S hpairs hg
      unfold wpOp
      simp only [ho]
      subst hoi
      refine step_sound g1 hs fun a' w' hs' => ?_
      refine ih (listed.setIfInBounds i true) (pre ++ post) (apx it.2.1 it.2.2 S) a' w' ?_ ?_ ?_ ?_ ?_ ?_ ?_ g2 hs' (by rw [g3]; exact hQ)
      · simp at hl ⊢; omega
      · intro q hq; exact hops q (by simp at hq ⊢; rcases hq with h | h <;> simp [h])
      · have := hord; rw [List.pairwise_append] at this ⊢
        obtain ⟨p1, p2, p3⟩ := this
        exact ⟨p1, (List.pairwise_cons.1 p2).2, fun x hx y hy => p3 x hx y (by simp [hy])⟩
      · intro j hj
        by_cases hji : i = j
        · subst hji
          by_cases his : i < listed.size
          · left; simp [his]
          · simp [Array.getD, his] at h0
        · rcases hall j hj with h | ⟨q, hq, hqj⟩
          · left; rw [getD_set_ne false hji]; exact h
          · right
            refine ⟨q, ?_, hqj⟩
            simp at hq ⊢
            rcases hq with h | rfl | h
            · exact .inl h
            · exact absurd (hii.symm.trans hqj) hji
            · exact .inr h
      · intro q hq
        have hne : i ≠ q.1 := by
          intro he
          have hord' := hord
          rw [List.pairwise_append] at hord'
          simp at hq
          rcases hq with h | h
          · have := hord'.2.2 q h it (by simp); omega
          · have := (List.pairwise_cons.1 hord'.2.1).1 q h; omega
        rw [getD_set_ne true hne]
        exact hun q (by simp at hq ⊢; rcases hq with h | h <;> simp [h])
      · intro j oj hj hoj e he hb
        by_cases hji : i = j
        · subst hji
          rw [ho] at hoj; injection hoj with hoj; subst hoj
          exact getD_set_true (hpre e he hb)
        · rw [getD_set_ne false hji] at hj
          exact getD_set_true (hcl j oj hj hoj e he hb)
      · have key : ∀ (l : List Item), pairsOk ops (l ++ it :: post) = true → pairsOk ops (l ++ post) = true := by
          intro l
          induction l with
          | nil => intro h; simp only [List.nil_append, pairsOk, Bool.and_eq_true] at h; exact h.2
          | cons q l ihl =>
            intro h
            simp only [List.cons_append, pairsOk, Bool.and_eq_true, List.all_eq_true] at h ⊢
            exact ⟨fun x hx => h.1 x (by simp at hx ⊢; rcases hx with h' | h' <;> simp [h']), ihl h.2⟩
        exact key pre hok

/-! ### A region, step by step in the text's order -/
def TrC (C : Ctx) (ops : Array Oper) (draw : Bool) : Nat → List Oper → AState → List Item → (AState → Prop) → Prop
  | _, [], S, done, K => (draw = true → pairsOk ops done.reverse = true) ∧ K S
  | i, o :: os, S, done, K => ∃ x, GStep C ops o S x ∧ TrC C ops draw (i + 1) os (apx o x S) ((i, o, x) :: done) K

theorem TrC.list {C : Ctx} {ops : Array Oper} {draw : Bool} {K : AState → Prop} : ∀ (os : List Oper) (i : Nat) (S : AState) (done : List Item), TrC C ops draw i os S done K →
    ∃ R : List Item, R.map (·.2.1) = os ∧ R.map (·.1) = List.range' i os.length ∧ Good C ops R S ∧ (draw = true → pairsOk ops (done.reverse ++ R) = true) ∧ K (fin R S)
  | [], i, S, done, h => ⟨[], rfl, rfl, trivial, by simpa using h.1, h.2⟩
  | o :: os, i, S, done, h => by
    obtain ⟨x, hg, h⟩ := h
    obtain ⟨R, r1, r2, r3, r4, r5⟩ := TrC.list os (i + 1) _ _ h
    refine ⟨(i, o, x) :: R, by simp [r1], by simp [r2, List.range'_succ], ⟨hg, r3⟩, fun hd => ?_, r5⟩
    have := r4 hd
    simpa using this

/-- The judgement: from the state S the code comes to an exit and a state of which Q holds. -/
def AT (C : Ctx) (c : Code) (Q : Exit → AState → Prop) (S : AState) : Prop :=
  ∀ a w, Sat C S a w → c.wp C.P (fun e a' w' => ∃ S', Q e S' ∧ Sat C S' a' w') a w
def nextQ (K : AState → Prop) (Q : Exit → AState → Prop) : Exit → AState → Prop
  | .normal, S => K S
  | e, S => Q e S
def blockQ (id : Nat) (Q : Exit → AState → Prop) : Exit → AState → Prop
  | .exit id', S => (id' = id ∧ Q .normal S) ∨ (id' ≠ id ∧ Q (.exit id') S)
  | e, S => Q e S

theorem AT.skip {C : Ctx} {Q : Exit → AState → Prop} {S : AState} (h : Q .normal S) : AT C .skip Q S := fun _ _ hs => wp_skip ⟨S, h, hs⟩
theorem AT.ret {C : Ctx} {Q : Exit → AState → Prop} {S : AState} (h : Q .ret S) : AT C .ret Q S := fun _ _ hs => wp_ret ⟨S, h, hs⟩
theorem AT.exit {C : Ctx} {Q : Exit → AState → Prop} {S : AState} {id : Nat} (h : Q (.exit id) S) : AT C (.exit id) Q S := fun _ _ hs => wp_exit ⟨S, h, hs⟩
theorem AT.mono {C : Ctx} {c : Code} {Q Q' : Exit → AState → Prop} {S : AState} (h : AT C c Q S) (hq : ∀ e S, Q e S → Q' e S) : AT C c Q' S :=
  fun a w hs => wp_mono (h a w hs) fun e a w ⟨S', q, s⟩ => ⟨S', hq _ _ q, s⟩
theorem AT.weaken {C : Ctx} {c : Code} {Q : Exit → AState → Prop} {S S' : AState} (hw : ∀ a w, Sat C S a w → Sat C S' a w) (h : AT C c Q S') : AT C c Q S :=
  fun a w hs => h a w (hw a w hs)
theorem AT.seq {C : Ctx} {x y : Code} {Q : Exit → AState → Prop} {S : AState} (h : AT C x (nextQ (AT C y Q) Q) S) : AT C (.seq x y) Q S := by
  intro a w hs
  refine wp_seq (wp_mono (h a w hs) ?_)
  rintro e a' w' ⟨S', q, s⟩
  cases e <;> first | exact q a' w' s | exact ⟨S', q, s⟩
theorem AT.block {C : Ctx} {id : Nat} {c : Code} {Q : Exit → AState → Prop} {S : AState} (h : AT C c (blockQ id Q) S) : AT C (.block id c) Q S := by
  intro a w hs
  refine wp_block (wp_mono (h a w hs) ?_)
  rintro e a' w' ⟨S', q, s⟩
  cases e with
  | exit id' =>
    rcases q with ⟨rfl, q⟩ | ⟨hne, q⟩
    · simp only [Exit.inBlock, if_true]; exact ⟨S', q, s⟩
    · simp only [Exit.inBlock, hne, if_false]; exact ⟨S', q, s⟩
  | _ => exact ⟨S', q, s⟩

def evalS (S : AState) : Operand → AV
  | .tmp t => S.slot t
  | .const v => .t (.v v)
  | .global g => .t (.v (.pointer (some ⟨g, 0, none⟩)))
  | .func f => .t (.v (.func (.func f) #[] #[]))
theorem SatB.eval {C : Ctx} {β : Nat → Value} {S : AState} {a : Act} {w : World} (h : SatB C β S a w) (x : Operand) : VRel w (okS C S β w) β (a.eval x) (evalS S x) := by
  cases x with
  | tmp t => exact h.slot t
  | const v => exact .t (.v v)
  | global g => exact .t (.v _)
  | func f => exact .t (.v _)
theorem VRel.toV {w : World} {ok : Nat → Prop} {β : Nat → Value} {v x : Value} (h : VRel w ok β v (.t (.v x))) : v = x := by
  cases h with | t h => cases h; rfl
theorem SatB.evalV {C : Ctx} {β : Nat → Value} {S : AState} {a : Act} {w : World} (h : SatB C β S a w) {x : Operand} {v : Value} (hx : evalS S x = .t (.v v)) : a.eval x = v := by
  have := h.eval x; rw [hx] at this; exact this.toV

theorem AT.cond {C : Ctx} {c : Operand} {x y : Code} {Q : Exit → AState → Prop} {S : AState} {t : Bool} (hc : evalS S c = .t (.v (.bool t)))
    (h1 : t = true → AT C x Q S) (h2 : t = false → AT C y Q S) : AT C (.cond c x y) Q S := by
  intro a w hs
  have hs' := hs
  obtain ⟨β, hb⟩ := hs'
  exact wp_cond_split (hb.evalV hc) (fun h => h1 h a w hs) (fun h => h2 h a w hs)

theorem AT.region {C : Ctx} {id : Nat} {l : List Oper} {Q : Exit → AState → Prop} {S : AState} (h : TrC C l.toArray false 0 l S [] (Q .normal)) : AT C (.region id l.toArray false) Q S := by
  intro a w hs
  obtain ⟨R, r1, r2, r3, r4, r5⟩ := TrC.list _ _ _ _ h
  refine wp_region_lit ?_
  have := text_sound (Q := fun e a' w' => ∃ S', Q e S' ∧ Sat C S' a' w') R S a w r3 hs fun a w hs' => ⟨_, r5, hs'⟩
  rw [r1] at this
  exact this

theorem range'_sorted (s n : Nat) : (List.range' s n).Pairwise (· < ·) := List.pairwise_lt_range'
theorem AT.regionD {C : Ctx} {id : Nat} {l : List Oper} {Q : Exit → AState → Prop} {S : AState} (hm : C.P.follows .mixedOrders = true) (hE : edgesFrom 0 l = true)
    (h : TrC C l.toArray true 0 l S [] (Q .normal)) : AT C (.region id l.toArray true) Q S := by
  intro a w hs
  obtain ⟨R, r1, r2, r3, r4, r5⟩ := TrC.list _ _ _ _ h
  have hlen : R.length = l.length := by rw [← r1]; simp
  have hidx : ∀ (k : Nat) (hk : k < R.length), R[k].1 = k ∧ l[k]? = some R[k].2.1 := by
    intro k hk
    constructor
    · have : (R.map (·.1))[k]? = (List.range' 0 l.length)[k]? := by rw [r2]
      rw [List.getElem?_map, List.getElem?_eq_getElem hk, List.getElem?_range' (by omega)] at this
      simpa using this
    · have : (R.map (·.2.1))[k]? = l[k]? := by rw [r1]
      rw [List.getElem?_map, List.getElem?_eq_getElem hk] at this
      simpa using this.symm
  refine wp_region_any hm ?_
  refine any_sound (by simpa using hE) _ _ R S a _ (by simp [hlen]) ?_ ?_ ?_ ?_ ?_ (by simpa using r4 rfl) r3 (hs.drew _) (fun a w hs' => ⟨_, r5, hs'⟩)
  · intro it hit
    obtain ⟨k, hk, rfl⟩ := List.getElem_of_mem hit
    have := hidx k hk
    rw [this.1]; simpa using this.2
  · have : (R.map (·.1)).Pairwise (· < ·) := by rw [r2]; exact range'_sorted _ _
    rw [List.pairwise_map] at this
    exact this
  · intro i hi
    right
    have hk : i < R.length := by simpa [hlen] using hi
    exact ⟨R[i], List.getElem_mem hk, (hidx i hk).1⟩
  · intro it hit
    obtain ⟨k, hk, rfl⟩ := List.getElem_of_mem hit
    rw [(hidx k hk).1]
    have : k < l.length := by omega
    simp [Array.getD, this]
  · intro i o h
    by_cases hi : i < l.length <;> simp [Array.getD, hi] at h

/-- A loop: a family of states with a measure. -/
theorem AT.loop {C : Ctx} {c : Code} {Q : Exit → AState → Prop} {S : AState} {ι : Type} (I : ι → AState) (μ : ι → Nat) (i₀ : ι)
    (h₀ : ∀ a w, Sat C S a w → Sat C (I i₀) a w)
    (round : ∀ i, AT C c (nextQ (fun S' => ∃ j, μ j < μ i ∧ ∀ a w, Sat C S' a w → Sat C (I j) a w) Q) (I i)) : AT C (.loop c) Q S := by
  intro a w hs
  intro b k cs
  have key : ∀ n i a w, μ i = n → Sat C (I i) a w →
      ∃ e a' w', (∃ S', Q e S' ∧ Sat C S' a' w') ∧ Arrives C.P (lone (b.at a (.code c :: .inLoop c :: k)) cs w) b k cs e a' w' := by
    intro n
    induction n using Nat.strongRecOn with
    | _ n ih =>
      intro i a w hn hI
      obtain ⟨e, a₁, w₁, ⟨S', hq, hs'⟩, harr⟩ := round i a w hI b (.inLoop c :: k) cs
      cases e with
      | normal =>
        obtain ⟨j, hlt, hw⟩ := hq
        obtain ⟨e₂, a₂, w₂, hq₂, harr₂⟩ := ih (μ j) (hn ▸ hlt) j a₁ w₁ rfl (hw _ _ hs')
        exact ⟨e₂, a₂, w₂, hq₂, .of_steps (Steps.trans harr (.one step_inLoop)) harr₂⟩
      | exit id => exact ⟨_, a₁, w₁, ⟨S', hq, hs'⟩, .pass (x := .inLoop c) rfl (fun _ _ => .inl (by simp)) harr⟩
      | goto l => exact ⟨_, a₁, w₁, ⟨S', hq, hs'⟩, .pass (x := .inLoop c) rfl (fun _ _ => .inl (by simp)) harr⟩
      | ret => exact ⟨_, a₁, w₁, ⟨S', hq, hs'⟩, .pass (x := .inLoop c) rfl (fun _ _ => .inl (by simp)) harr⟩
      | panic ch => exact ⟨_, a₁, w₁, ⟨S', hq, hs'⟩, .pass (x := .inLoop c) rfl (fun _ _ => .inl (by simp)) harr⟩
      | outgrown => exact ⟨_, a₁, w₁, ⟨S', hq, hs'⟩, .pass (x := .inLoop c) rfl (fun _ _ => .inl (by simp)) harr⟩
  obtain ⟨e, a', w', hq, harr⟩ := key _ i₀ a w rfl (h₀ a w hs)
  exact ⟨e, a', w', hq, .of_steps (.one step_loop) harr⟩

end Go.Proofs.Ytgblfhobiibeaaa.Abs

/- Abstract symbolic execution, part 4: operations that leave the memory alone. No condition. -/
set_option linter.unusedVariables false
set_option linter.unusedSimpArgs false
namespace Go.Proofs.Ytgblfhobiibeaaa.Abs
open Go.RowKit

/-! ### The table of types, as closed facts -/
def isAggD : TypeDesc → Bool
  | .struct _ => true
  | .array _ _ => true
  | _ => false
/-- (is it a struct or an array, its cells) -/
def tyB (P : Program) (t : TypeId) : Option (Bool × Nat) :=
  match P.underlying t, P.info? t with
  | some d, some i => some (isAggD d, i.size)
  | _, _ => none
/-- of a slice type: (element type, its cells, its bytes) -/
def slB (P : Program) (t : TypeId) : Option (TypeId × Nat × Nat) :=
  match P.underlying t with
  | some (.slice e) => (P.info? e).map fun i => (e, i.size, i.bytes)
  | _ => none
/-- of a struct type's field: (offset, type, cells) -/
def fdB (P : Program) (s f : Nat) : Option (Nat × TypeId × Nat) :=
  match P.underlying s with
  | some (.struct fs) => match fs[f]? with
    | some f => (P.info? f.type).map fun i => (f.offset, f.type, i.size)
    | none => none
  | _ => none
/-- of an array type: (length, element type, its cells) -/
def arB (P : Program) (t : TypeId) : Option (Nat × TypeId × Nat) :=
  match P.underlying t with
  | some (.array n e) => (P.info? e).map fun i => (n, e, i.size)
  | _ => none
def intB (P : Program) (t : TypeId) : Option IntKind :=
  match P.underlying t with
  | some (.int k) => some k
  | _ => none
def zeroB (P : Program) (t : TypeId) : Option (List Value) := (P.info? t).bind fun i => i.zero.map fun z => z.cells.toList

section
variable {P : Program} {w : World}
theorem run_isAgg {t : TypeId} {b : Bool} {n : Nat} (h : tyB P t = some (b, n)) : (isAgg t).run P w = .ok b w := by
  unfold tyB at h
  split at h
  · rename_i d i hu hi
    injection h with h
    injection h with h1 h2
    simp only [isAgg, Sem.run_bind, run_underlying hu, Result.andThen_ok]
    subst h1; cases d <;> simp [isAggD]
  · cases h
theorem run_sizeOf' {t : TypeId} {b : Bool} {n : Nat} (h : tyB P t = some (b, n)) : (sizeOf t).run P w = .ok n w := by
  unfold tyB at h
  split at h
  · rename_i d i hu hi
    injection h with h
    injection h with h1 h2
    simp [sizeOf, typeInfo, hi, h2]
  · cases h
theorem run_info {t : TypeId} {i : TypeInfo} (h : P.info? t = some i) : (typeInfo t).run P w = .ok i w := by simp [typeInfo, h]
end

/-! ### Lists, evaluated -/
def sub {α : Type} (l : List α) (off : Nat) : Nat → Option (List α)
  | 0 => some []
  | n + 1 => match l[off]? with
    | some a => match sub l (off + 1) n with
      | some r => some (a :: r)
      | none => none
    | none => none
theorem sub_spec {α : Type} {l : List α} : ∀ {n off : Nat} {r : List α}, sub l off n = some r → r.length = n ∧ ∀ k, k < n → l[off + k]? = r[k]?
  | 0, off, r, h => by injection h with h; subst h; exact ⟨rfl, fun k hk => by omega⟩
  | n + 1, off, r, h => by
    simp only [sub] at h
    split at h
    · rename_i a ha
      split at h
      · rename_i r' hr
        injection h with h; subst h
        obtain ⟨h1, h2⟩ := sub_spec hr
        refine ⟨by simp [h1], fun k hk => ?_⟩
        cases k with
        | zero => simpa using ha
        | succ k => have := h2 k (by omega); rw [show off + (k + 1) = off + 1 + k from by omega]; simpa using this
      · cases h
    · cases h
def cellT : AV → Option T
  | .t x => some x
  | _ => none
def trees : List AV → Option (List T)
  | [] => some []
  | x :: xs => match cellT x with
    | some t => match trees xs with
      | some ts => some (t :: ts)
      | none => none
    | none => none
theorem trees_spec : ∀ {l : List AV} {ts : List T}, trees l = some ts → l = ts.map AV.t
  | [], ts, h => by injection h with h; subst h; rfl
  | x :: xs, ts, h => by
    simp only [trees] at h
    split at h
    · rename_i t ht
      split at h
      · rename_i ts' hts
        injection h with h; subst h
        rw [trees_spec hts]
        cases x <;> simp [cellT] at ht
        subst ht; rfl
      · cases h
    · cases h
def dOk (n : Nat) : Option Nat → Bool
  | none => true
  | some d => Nat.blt d n

/-! ### Steps -/
theorem VRel.tD {w : World} {ok : Nat → Prop} {β : Nat → Value} {v : Value} {x : T} (h : VRel w ok β v (.t x)) : Reads w ok v x := by
  cases h with
  | t h => exact h
theorem VRel.pD {w : World} {ok : Nat → Prop} {β : Nat → Value} {v : Value} {i off : Nat} (h : VRel w ok β v (.p i off)) :
    ∃ b, β i = .pointer (some ⟨b, 0, none⟩) ∧ v = .pointer (some ⟨b, off, none⟩) := by
  cases h with
  | p h => exact ⟨_, h, rfl⟩
theorem VRel.eD {w : World} {ok : Nat → Prop} {β : Nat → Value} {v : Value} {i off : Nat} (h : VRel w ok β v (.e i off)) :
    ∃ b n c, β i = .slice (some ⟨b, 0, none⟩) n c ∧ v = .pointer (some ⟨b, off, none⟩) := by
  cases h with
  | e h => exact ⟨_, _, _, h, rfl⟩
theorem VRel.hD {w : World} {ok : Nat → Prop} {β : Nat → Value} {v : Value} {i : Nat} (h : VRel w ok β v (.h i)) : v = β i := by
  cases h; rfl
theorem VRel.aggD {w : World} {ok : Nat → Prop} {β : Nat → Value} {v : Value} {l : List AV} (h : VRel w ok β v (.agg l)) :
    ∃ vs : Array Value, v = .agg vs ∧ vs.size = l.length ∧ (∀ i (h1 : i < vs.size) (h2 : i < l.length), VRel w ok β vs[i] l[i]) ∧ ∀ i (h : i < vs.size), vs[i].oneCell' = true := by
  cases h with
  | agg hl h1 h => exact ⟨_, rfl, hl, h, h1⟩
theorem VRel.tupD {w : World} {ok : Nat → Prop} {β : Nat → Value} {v : Value} {l : List AV} (h : VRel w ok β v (.tup l)) :
    ∃ vs : Array Value, v = .tuple vs ∧ vs.size = l.length ∧ ∀ i (h1 : i < vs.size) (h2 : i < l.length), VRel w ok β vs[i] l[i] := by
  cases h with
  | tup hl h => exact ⟨_, rfl, hl, h⟩
theorem Reads.aggD {w : World} {ok : Nat → Prop} {v : Value} {l : List T} (h : Reads w ok v (.agg l)) :
    ∃ vs : Array Value, v = .agg vs ∧ vs.size = l.length ∧ (∀ i (h1 : i < vs.size) (h2 : i < l.length), Reads w ok vs[i] l[i]) ∧ ∀ i (h : i < vs.size), vs[i].oneCell' = true := by
  cases h with | agg hl h1 h => exact ⟨_, rfl, hl, h, h1⟩
theorem Reads.tupD {w : World} {ok : Nat → Prop} {v : Value} {l : List T} (h : Reads w ok v (.tup l)) :
    ∃ vs : Array Value, v = .tuple vs ∧ vs.size = l.length ∧ ∀ i (h1 : i < vs.size) (h2 : i < l.length), Reads w ok vs[i] l[i] := by
  cases h with | tup hl h => exact ⟨_, rfl, hl, h⟩
theorem Reads.ptrD {w : World} {ok : Nat → Prop} {v : Value} {l : List T} (h : Reads w ok v (.ptr l)) : ∃ a, v = .pointer (some a) := by
  cases h; exact ⟨_, rfl⟩

theorem agree_eval {ops : Array Oper} {o : Oper} {S S₁ : AState} (h : ∀ x ∈ o.looksAt ops, S₁.slot x = S.slot x) {x : Operand} (hx : x ∈ o.op.operands) :
    evalS S₁ x = evalS S x := by
  cases x with
  | tmp t => exact h t (List.mem_append_left _ (List.mem_filterMap.2 ⟨.tmp t, by simpa using hx, rfl⟩))
  | _ => rfl

theorem Oper.wp_value {P : Program} {o : Oper} {a : Act} {w w' : World} {v : Value} {K : Act → World → Prop} {Q : Exit → Act → World → Prop}
    (hr : (execOp a.eval o).run P w = .ok (.value v) w') (hK : K (a.put o.dst v) w') : o.wp P a w K Q := by
  unfold Oper.wp; rw [hr]; exact hK

theorem ap_pure (d : Option Nat) (v : AV) (S : AState) (looks : List Nat) : ap d ⟨v, [], looks⟩ S = { S with slot := putS d v S.slot } := by
  simp only [ap, assoc, hasKey, Bool.or_false]

/-- A value out of operands alone. -/
theorem Step.pure {C : Ctx} {ops : Array Oper} {o : Oper} {S : AState} {val : AV} (hd : dOk C.n o.dst = true)
    (hids : ∀ i ∈ val.ids, ∃ x ∈ o.op.operands, i ∈ (evalS S x).ids)
    (h : ∀ (β : Nat → Value) (w : World) (ok : Nat → Prop) (ρ : Operand → Value), (∀ x ∈ o.op.operands, VRel w ok β (ρ x) (evalS S x)) → (∀ v, ρ (.const v) = v) → (∀ f, ρ (.func f) = .func (.func f) #[] #[]) →
      ∃ v, (execOp ρ o).run C.P w = .ok (.value v) w ∧ VRel w ok β v val) : Step C ops o S ⟨val, [], []⟩ := by
  intro S₁ hs hm a w hsat
  obtain ⟨β, hb⟩ := hsat
  obtain ⟨v, hr, hv⟩ := h β w (okS C S₁ β w) a.eval (fun x hx => by rw [← agree_eval hs hx]; exact hb.eval x) (fun _ => rfl) (fun _ => rfl)
  refine Oper.wp_value hr ?_
  rw [ap_pure]
  refine ⟨β, hb.put o.dst v val (fun _ _ _ => hv) (fun x hx => .inl ?_) (fun i hi => ?_)⟩
  · rw [hx] at hd; simpa [dOk] using hd
  · obtain ⟨x, hx, hi'⟩ := hids i hi
    rw [← agree_eval hs hx] at hi'
    cases x with
    | tmp t => exact hb.wfs t i hi'
    | _ => simp [evalS, AV.ids] at hi'

variable {C : Ctx} {ops : Array Oper} {o : Oper} {S : AState}

theorem step_move {x : Operand} {v : AV} (ho : o.op = .move x) (hx : evalS S x = v) (hd : dOk C.n o.dst = true) : Step C ops o S ⟨v, [], []⟩ := by
  subst hx
  have hm : x ∈ o.op.operands := by simp [ho, Op.operands]
  refine Step.pure hd (fun i hi => ⟨x, hm, hi⟩) fun β w ok ρ hρ _ _ => ⟨ρ x, ?_, hρ x hm⟩
  simp [execOp, ho]
theorem step_assign {x : Operand} {v : AV} (ho : o.op = .assign x) (hx : evalS S x = v) (hd : dOk C.n o.dst = true) : Step C ops o S ⟨v, [], []⟩ := by
  subst hx
  have hm : x ∈ o.op.operands := by simp [ho, Op.operands]
  refine Step.pure hd (fun i hi => ⟨x, hm, hi⟩) fun β w ok ρ hρ _ _ => ⟨ρ x, ?_, hρ x hm⟩
  simp [execOp, ho]
theorem step_pick {c x y : Operand} {b : Bool} {v : AV} (ho : o.op = .pick c x y) (hc : evalS S c = .t (.v (.bool b))) (hx : evalS S (bif b then x else y) = v)
    (hd : dOk C.n o.dst = true) : Step C ops o S ⟨v, [], []⟩ := by
  subst hx
  have hmc : c ∈ o.op.operands := by simp [ho, Op.operands]
  have hm : (bif b then x else y) ∈ o.op.operands := by cases b <;> simp [ho, Op.operands]
  refine Step.pure hd (fun i hi => ⟨_, hm, hi⟩) fun β w ok ρ hρ _ _ => ⟨ρ (bif b then x else y), ?_, hρ _ hm⟩
  have hcv : ρ c = .bool b := by have := hρ c hmc; rw [hc] at this; exact this.toV
  cases b <;> simp [execOp, ho, hcv, asBool]

/-- Whole numbers. -/
def binV (op : BinOp) (k : IntKind) (m : Int) (k' : IntKind) (n : Int) : Option Value :=
  match op with
  | .add => if k = k' then some (.int k (k.wrap (m + n))) else none
  | .sub => if k = k' then some (.int k (k.wrap (m - n))) else none
  | .mul => if k = k' then some (.int k (k.wrap (m * n))) else none
  | .quo => if k = k' then (if n = 0 then none else some (.int k (k.wrap (m.tdiv n)))) else none
  | .rem => if k = k' then (if n = 0 then none else some (.int k (m.tmod n))) else none
  | .and => if k = k' then some (.int k (k.wrap (BitVec.ofInt k.bits m &&& BitVec.ofInt k.bits n).toNat)) else none
  | .or => if k = k' then some (.int k (k.wrap (BitVec.ofInt k.bits m ||| BitVec.ofInt k.bits n).toNat)) else none
  | .xor => if k = k' then some (.int k (k.wrap (BitVec.ofInt k.bits m ^^^ BitVec.ofInt k.bits n).toNat)) else none
  | .andNot => if k = k' then some (.int k (k.wrap (BitVec.ofInt k.bits m &&& ~~~ BitVec.ofInt k.bits n).toNat)) else none
  | .eql => if k = k' then some (.bool (m == n)) else none
  | .neq => if k = k' then some (.bool (m != n)) else none
  | .lss => if k = k' then some (.bool (decide (m < n))) else none
  | .leq => if k = k' then some (.bool (decide (m ≤ n))) else none
  | .gtr => if k = k' then some (.bool (decide (m > n))) else none
  | .geq => if k = k' then some (.bool (decide (m ≥ n))) else none
  | _ => none
theorem run_binV {P : Program} {w : World} {op : BinOp} {t : TypeId} {k k' : IntKind} {m n : Int} {v : Value} (h : binV op k m k' n = some v) :
    (binOp op t (.int k m) (.int k' n)).run P w = .ok v w := by
  cases op <;> simp only [binV] at h <;> first
    | (cases h; done)
    | (split at h
       · rename_i hk; subst hk
         first
           | (injection h with h; subst h; simp [binOp, Op.intArith, Op.intBits, Op.intCmp]; done)
           | (split at h
              · cases h
              · rename_i hn
                injection h with h; subst h
                simp [binOp, Op.intDiv, hn])
       · cases h)
theorem run_eqGuard_int {P : Program} {w : World} {op : BinOp} {t : TypeId} {x y : Operand} {k k' : IntKind} {m n : Int} :
    (eqGuard op t x y (.int k m) (.int k' n)).run P w = .ok () w := by
  unfold eqGuard; split <;> simp
theorem step_bin {op : BinOp} {t t' : TypeId} {x y : Operand} {k k' : IntKind} {m n : Int} {v : Value} (ho : o.op = .binOp op t x y t')
    (hx : evalS S x = .t (.v (.int k m))) (hy : evalS S y = .t (.v (.int k' n))) (hv : binV op k m k' n = some v) (hd : dOk C.n o.dst = true) : Step C ops o S ⟨.t (.v v), [], []⟩ := by
  have hmx : x ∈ o.op.operands := by simp [ho, Op.operands]
  have hmy : y ∈ o.op.operands := by simp [ho, Op.operands]
  refine Step.pure hd (by simp [AV.ids]) fun β w ok ρ hρ _ _ => ⟨v, ?_, .t (.v v)⟩
  have e1 : ρ x = .int k m := by have := hρ x hmx; rw [hx] at this; exact this.toV
  have e2 : ρ y = .int k' n := by have := hρ y hmy; rw [hy] at this; exact this.toV
  simp only [execOp, ho, e1, e2, Sem.run_bind, run_eqGuard_int, Result.andThen_ok, run_binV hv, Sem.run_pure]
/-- A shift by a count that isn't negative. -/
theorem step_shr {t t' : TypeId} {x y : Operand} {k k' : IntKind} {m n : Int} (ho : o.op = .binOp .shr t x y t')
    (hx : evalS S x = .t (.v (.int k m))) (hy : evalS S y = .t (.v (.int k' n))) (h0 : 0 ≤ n) (hd : dOk C.n o.dst = true) :
    Step C ops o S ⟨.t (.v (.int k (m.fdiv (2 ^ (min n.toNat k.bits))))), [], []⟩ := by
  have hmx : x ∈ o.op.operands := by simp [ho, Op.operands]
  have hmy : y ∈ o.op.operands := by simp [ho, Op.operands]
  refine Step.pure hd (by simp [AV.ids]) fun β w ok ρ hρ _ _ => ⟨_, ?_, .t (.v _)⟩
  have e1 : ρ x = .int k m := by have := hρ x hmx; rw [hx] at this; exact this.toV
  have e2 : ρ y = .int k' n := by have := hρ y hmy; rw [hy] at this; exact this.toV
  simp [execOp, ho, e1, e2, eqGuard, binOp, Op.shift, show ¬ n < 0 from by omega]
theorem step_shl {t t' : TypeId} {x y : Operand} {k k' : IntKind} {m n : Int} (ho : o.op = .binOp .shl t x y t')
    (hx : evalS S x = .t (.v (.int k m))) (hy : evalS S y = .t (.v (.int k' n))) (h0 : 0 ≤ n) (hd : dOk C.n o.dst = true) :
    Step C ops o S ⟨.t (.v (.int k (k.wrap (m * 2 ^ (min n.toNat k.bits))))), [], []⟩ := by
  have hmx : x ∈ o.op.operands := by simp [ho, Op.operands]
  have hmy : y ∈ o.op.operands := by simp [ho, Op.operands]
  refine Step.pure hd (by simp [AV.ids]) fun β w ok ρ hρ _ _ => ⟨_, ?_, .t (.v _)⟩
  have e1 : ρ x = .int k m := by have := hρ x hmx; rw [hx] at this; exact this.toV
  have e2 : ρ y = .int k' n := by have := hρ y hmy; rw [hy] at this; exact this.toV
  simp [execOp, ho, e1, e2, eqGuard, binOp, Op.shift, show ¬ n < 0 from by omega]
theorem run_equal_bool {P : Program} {w : World} {t : TypeId} (ht : P.underlying t = some .bool) (m n : Bool) : (Op.equal t (.bool m) (.bool n)).run P w = .ok (m == n) w := by
  have key : ∀ d, (Op.equalIn (d + 1) t (.bool m) (.bool n)).run P w = .ok (m == n) w := by
    intro d
    simp only [Op.equalIn, Sem.run_bind, run_underlying ht, Result.andThen_ok, Sem.run_pure]
  exact key 9999
/-- '==' and '!=' of bools. -/
theorem step_eqb {b : Bool} {t t' : TypeId} {x y : Operand} {m n : Bool} (ho : o.op = .binOp (bif b then .neq else .eql) t x y t')
    (hx : evalS S x = .t (.v (.bool m))) (hy : evalS S y = .t (.v (.bool n))) (ht : C.P.underlying t = some .bool) (hd : dOk C.n o.dst = true) :
    Step C ops o S ⟨.t (.v (.bool (bif b then m != n else m == n))), [], []⟩ := by
  have hmx : x ∈ o.op.operands := by simp [ho, Op.operands]
  have hmy : y ∈ o.op.operands := by simp [ho, Op.operands]
  refine Step.pure hd (by simp [AV.ids]) fun β w ok ρ hρ _ _ => ⟨_, ?_, .t (.v _)⟩
  have e1 : ρ x = .bool m := by have := hρ x hmx; rw [hx] at this; exact this.toV
  have e2 : ρ y = .bool n := by have := hρ y hmy; rw [hy] at this; exact this.toV
  cases b <;> simp only [cond_true, cond_false] at ho ⊢ <;> simp only [execOp, ho, e1, e2, eqGuard, binOp, Sem.run_bind, Sem.run_pure, run_equal_bool ht, Result.andThen_ok] <;> rfl
theorem step_not {t : TypeId} {x : Operand} {m : Bool} (ho : o.op = .unOp .not t x) (hx : evalS S x = .t (.v (.bool m))) (hd : dOk C.n o.dst = true) :
    Step C ops o S ⟨.t (.v (.bool (!m))), [], []⟩ := by
  have hmx : x ∈ o.op.operands := by simp [ho, Op.operands]
  refine Step.pure hd (by simp [AV.ids]) fun β w ok ρ hρ _ _ => ⟨_, ?_, .t (.v _)⟩
  have e1 : ρ x = .bool m := by have := hρ x hmx; rw [hx] at this; exact this.toV
  simp [execOp, ho, e1, Op.unary]
theorem step_neg {t : TypeId} {x : Operand} {k : IntKind} {m : Int} (ho : o.op = .unOp .neg t x) (hx : evalS S x = .t (.v (.int k m))) (hd : dOk C.n o.dst = true) :
    Step C ops o S ⟨.t (.v (.int k (k.wrap (0 - m)))), [], []⟩ := by
  have hmx : x ∈ o.op.operands := by simp [ho, Op.operands]
  refine Step.pure hd (by simp [AV.ids]) fun β w ok ρ hρ _ _ => ⟨_, ?_, .t (.v _)⟩
  have e1 : ρ x = .int k m := by have := hρ x hmx; rw [hx] at this; exact this.toV
  simp [execOp, ho, e1, Op.unary, Op.intArith]
theorem step_conv {s d : TypeId} {x : Operand} {k k' : IntKind} {m : Int} (ho : o.op = .convert s d x) (hx : evalS S x = .t (.v (.int k m)))
    (hs : intB C.P s = some k) (ht : intB C.P d = some k') (hd : dOk C.n o.dst = true) : Step C ops o S ⟨.t (.v (.int k' (k'.wrap m))), [], []⟩ := by
  have hmx : x ∈ o.op.operands := by simp [ho, Op.operands]
  refine Step.pure hd (by simp [AV.ids]) fun β w ok ρ hρ _ _ => ⟨_, ?_, .t (.v _)⟩
  have e1 : ρ x = .int k m := by have := hρ x hmx; rw [hx] at this; exact this.toV
  have u1 : C.P.underlying s = some (.int k) := by unfold intB at hs; split at hs <;> simp_all
  have u2 : C.P.underlying d = some (.int k') := by unfold intB at ht; split at ht <;> simp_all
  simp [execOp, ho, e1, convert, run_underlying u1, run_underlying u2, Conv.intToInt]
theorem step_extract {x : Operand} {i : Nat} {l : List T} {v : T} (ho : o.op = .extract x i) (hx : evalS S x = .t (.tup l)) (hv : l[i]? = some v)
    (hd : dOk C.n o.dst = true) : Step C ops o S ⟨.t v, [], []⟩ := by
  have hmx : x ∈ o.op.operands := by simp [ho, Op.operands]
  refine Step.pure hd (by simp [AV.ids]) fun β w ok ρ hρ _ _ => ?_
  have h := hρ x hmx
  rw [hx] at h
  obtain ⟨vs, hq, hl, h⟩ := h.tD.tupD
  have hi : i < l.length := (List.getElem?_eq_some_iff.1 hv).1
  have hiv : i < vs.size := by omega
  refine ⟨vs[i], ?_, .t ?_⟩
  · simp [execOp, ho, hq, Instr.extract, hiv]
  · have := h i hiv hi
    rw [List.getElem?_eq_getElem hi] at hv; injection hv with hv; rwa [hv] at this
theorem step_extractA {x : Operand} {i : Nat} {l : List AV} {v : AV} (ho : o.op = .extract x i) (hx : evalS S x = .tup l) (hv : l[i]? = some v)
    (hd : dOk C.n o.dst = true) : Step C ops o S ⟨v, [], []⟩ := by
  have hmx : x ∈ o.op.operands := by simp [ho, Op.operands]
  refine Step.pure hd (fun j hj => ⟨x, hmx, ?_⟩) fun β w ok ρ hρ _ _ => ?_
  · rw [hx]; exact AV.mem_idsL (List.mem_of_getElem? hv) hj
  have h := hρ x hmx
  rw [hx] at h
  obtain ⟨vs, hq, hl, h⟩ := h.tupD
  have hi : i < l.length := (List.getElem?_eq_some_iff.1 hv).1
  have hiv : i < vs.size := by omega
  refine ⟨vs[i], ?_, ?_⟩
  · simp [execOp, ho, hq, Instr.extract, hiv]
  · have := h i hiv hi
    rw [List.getElem?_eq_getElem hi] at hv; injection hv with hv; rwa [hv] at this

theorem fdB_spec {P : Program} {s f off ft n : Nat} (h : fdB P s f = some (off, ft, n)) :
    ∃ fs fd i, P.underlying s = some (.struct fs) ∧ fs[f]? = some fd ∧ fd.offset = off ∧ fd.type = ft ∧ P.info? ft = some i ∧ i.size = n := by
  unfold fdB at h
  split at h
  · rename_i fs hu
    split at h
    · rename_i fd hf
      cases hi : P.info? fd.type with
      | none => rw [hi] at h; cases h
      | some i =>
        rw [hi] at h
        simp only [Option.map_some, Option.some.injEq, Prod.mk.injEq] at h
        obtain ⟨h1, h2, h3⟩ := h
        exact ⟨fs, fd, i, hu, hf, h1, h2, by rw [← h2]; exact hi, h3⟩
    · cases h
  · cases h
/-- A field's cells of a struct value: one cell. -/
theorem step_field1 {s f : Nat} {x : Operand} {l : List T} {off ft : Nat} {v : T} (ho : o.op = .field s x f) (hx : evalS S x = .t (.agg l)) (hf : fdB C.P s f = some (off, ft, 1))
    (ht : tyB C.P ft = some (false, 1)) (hv : l[off]? = some v) (hd : dOk C.n o.dst = true) : Step C ops o S ⟨.t v, [], []⟩ := by
  have hmx : x ∈ o.op.operands := by simp [ho, Op.operands]
  refine Step.pure hd (by simp [AV.ids]) fun β w ok ρ hρ _ _ => ?_
  obtain ⟨fs, fd, i, hu, hff, rfl, rfl, hi, hn⟩ := fdB_spec hf
  have h := hρ x hmx
  rw [hx] at h
  obtain ⟨vs, hq, hl, h, hone⟩ := h.tD.aggD
  have hi : fd.offset < l.length := (List.getElem?_eq_some_iff.1 hv).1
  have hiv : fd.offset < vs.size := by omega
  refine ⟨vs[fd.offset], ?_, .t ?_⟩
  · simp [execOp, ho, hq, Instr.field, run_underlying hu, hff, asAgg, part, run_isAgg ht, hiv]
  · have := h _ hiv hi
    rw [List.getElem?_eq_getElem hi] at hv; injection hv with hv; rwa [hv] at this
theorem step_fieldN {s f : Nat} {x : Operand} {l r : List T} {off ft n : Nat} (ho : o.op = .field s x f) (hx : evalS S x = .t (.agg l)) (hf : fdB C.P s f = some (off, ft, n))
    (ht : tyB C.P ft = some (true, n)) (hv : sub l off n = some r) (hd : dOk C.n o.dst = true) : Step C ops o S ⟨.t (.agg r), [], []⟩ := by
  have hmx : x ∈ o.op.operands := by simp [ho, Op.operands]
  refine Step.pure hd (by simp [AV.ids]) fun β w ok ρ hρ _ _ => ?_
  obtain ⟨fs, fd, i, hu, hff, rfl, rfl, hi, hn⟩ := fdB_spec hf
  obtain ⟨hr, hs⟩ := sub_spec hv
  have h := hρ x hmx
  rw [hx] at h
  obtain ⟨vs, hq, hl, h, hone⟩ := h.tD.aggD
  refine ⟨.agg (vs.extract fd.offset (fd.offset + n)), ?_, .t (.agg ?_ (fun k h => by simp only [Array.getElem_extract]; exact hone _ _) fun k h1 h2 => ?_)⟩
  · simp [execOp, ho, hq, Instr.field, run_underlying hu, hff, asAgg, part, run_isAgg ht, run_sizeOf' ht]
  · have key : n = 0 ∨ fd.offset + n ≤ l.length := by
      rcases Nat.eq_zero_or_pos n with h0 | h0
      · exact .inl h0
      · right
        have := hs (n - 1) (by omega)
        rw [List.getElem?_eq_getElem (by omega : n - 1 < r.length)] at this
        have := (List.getElem?_eq_some_iff.1 this).1
        omega
    simp; omega
  · have h3 : k < n := by omega
    have := hs k h3
    rw [List.getElem?_eq_getElem h2] at this
    obtain ⟨h4, h5⟩ := List.getElem?_eq_some_iff.1 this
    have := h (fd.offset + k) (by omega) h4
    rw [h5] at this
    simpa using this
def isPtr : AV → Bool
  | .p _ _ => true
  | .e _ _ => true
  | .t (.ptr _) => true
  | _ => false
theorem VRel.isPtr {w : World} {ok : Nat → Prop} {β : Nat → Value} {v : Value} {x : AV} (h : VRel w ok β v x) (hv : isPtr x = true) : ∃ a, v = .pointer (some a) := by
  cases h with
  | p h => exact ⟨_, rfl⟩
  | e h => exact ⟨_, rfl⟩
  | t h =>
    rename_i x'
    cases x' with
    | ptr l => exact h.ptrD
    | _ => cases hv
  | _ => cases hv
theorem step_nilCheck {x : Operand} {v : AV} (ho : o.op = .nilCheck x) (hx : evalS S x = v) (hv : isPtr v = true)
    (hd : dOk C.n o.dst = true) : Step C ops o S ⟨v, [], []⟩ := by
  subst hx
  have hm : x ∈ o.op.operands := by simp [ho, Op.operands]
  refine Step.pure hd (fun i hi => ⟨x, hm, hi⟩) fun β w ok ρ hρ _ _ => ⟨ρ x, ?_, hρ x hm⟩
  have this := (hρ x hm).isPtr hv
  obtain ⟨a, ha⟩ := this
  simp [execOp, ho, ha]
theorem add_plain' (g b j : Nat) : (⟨g, b, none⟩ : Addr).add j = ⟨g, b + j, none⟩ := by unfold Addr.add; split <;> simp_all
theorem run_fieldPlace {P : Program} {w : World} {a : Addr} {fd : Field} {i : TypeInfo} (hi : P.info? fd.type = some i) (hn : i.size ≠ 0) : (fieldPlace a fd).run P w = .ok (a.add fd.offset) w := by
  simp [fieldPlace, sizeOf, typeInfo, hi, hn]
/-- A field's address: in a variable of the call's own. -/
theorem step_fieldAddrP {s f : Nat} {x : Operand} {i q off ft n : Nat} (ho : o.op = .fieldAddr s x f) (hx : evalS S x = .p i q) (hf : fdB C.P s f = some (off, ft, n)) (hn : (n == 0) = false)
    (hd : dOk C.n o.dst = true) : Step C ops o S ⟨.p i (q + off), [], []⟩ := by
  have hm : x ∈ o.op.operands := by simp [ho, Op.operands]
  refine Step.pure hd (fun j hj => ⟨x, hm, by rw [hx]; exact hj⟩) fun β w ok ρ hρ _ _ => ?_
  obtain ⟨fs, fd, i', hu, hff, rfl, rfl, hi, rfl⟩ := fdB_spec hf
  have h := hρ x hm
  rw [hx] at h
  obtain ⟨b, h, hq⟩ := h.pD
  exact ⟨_, by simp [execOp, ho, hq, Instr.fieldAt, run_underlying hu, hff, Instr.sureAddr, run_fieldPlace hi (by simpa using hn), add_plain'], .p h⟩
theorem step_fieldAddrE {s f : Nat} {x : Operand} {i q off ft n : Nat} (ho : o.op = .fieldAddr s x f) (hx : evalS S x = .e i q) (hf : fdB C.P s f = some (off, ft, n)) (hn : (n == 0) = false)
    (hd : dOk C.n o.dst = true) : Step C ops o S ⟨.e i (q + off), [], []⟩ := by
  have hm : x ∈ o.op.operands := by simp [ho, Op.operands]
  refine Step.pure hd (fun j hj => ⟨x, hm, by rw [hx]; exact hj⟩) fun β w ok ρ hρ _ _ => ?_
  obtain ⟨fs, fd, i', hu, hff, rfl, rfl, hi, rfl⟩ := fdB_spec hf
  have h := hρ x hm
  rw [hx] at h
  obtain ⟨b, n', c', h, hq⟩ := h.eD
  exact ⟨_, by simp [execOp, ho, hq, Instr.fieldAt, run_underlying hu, hff, Instr.sureAddr, run_fieldPlace hi (by simpa using hn), add_plain'], .e h⟩
theorem Addr.add_add (a : Addr) (i j : Nat) : (a.add i).add j = a.add (i + j) := by
  unfold Addr.add
  by_cases h1 : i = 0 <;> by_cases h2 : j = 0 <;> simp [h1, h2, Nat.add_assoc]
theorem Addr.add_block (a : Addr) (i : Nat) : (a.add i).block = a.block := by unfold Addr.add; split <;> rfl
/-- .. in memory that nobody writes: the cells from there on. -/
theorem Reads.ptr_drop {w : World} {ok : Nat → Prop} {a : Addr} {l r : List T} {off n : Nat} (h : Reads w ok (.pointer (some a)) (.ptr l)) (hs : sub l off n = some r) :
    Reads w ok (.pointer (some (a.add off))) (.ptr r) := by
  cases h with
  | ptr f hok ha h =>
    obtain ⟨hr, hs⟩ := sub_spec hs
    refine .ptr (fun k => f (off + k)) (by rw [Addr.add_block]; exact hok) (fun k hk => ?_) (fun k hk => ?_)
    · have := hs k (by omega)
      rw [List.getElem?_eq_getElem hk] at this
      have := (List.getElem?_eq_some_iff.1 this).1
      rw [Addr.add_add]; exact ha _ this
    · have := hs k (by omega)
      rw [List.getElem?_eq_getElem hk] at this
      obtain ⟨h1, h2⟩ := List.getElem?_eq_some_iff.1 this
      have := h (off + k) h1
      rwa [h2] at this
theorem step_fieldAddrT {s f : Nat} {x : Operand} {l r : List T} {off ft n : Nat} (ho : o.op = .fieldAddr s x f) (hx : evalS S x = .t (.ptr l)) (hf : fdB C.P s f = some (off, ft, n)) (hn : (n == 0) = false)
    (hs : sub l off n = some r) (hd : dOk C.n o.dst = true) : Step C ops o S ⟨.t (.ptr r), [], []⟩ := by
  have hm : x ∈ o.op.operands := by simp [ho, Op.operands]
  refine Step.pure hd (by simp [AV.ids]) fun β w ok ρ hρ _ _ => ?_
  obtain ⟨fs, fd, i', hu, hff, rfl, rfl, hi, rfl⟩ := fdB_spec hf
  have h := hρ x hm
  rw [hx] at h
  have h' := h.tD
  obtain ⟨a, hq⟩ := h'.ptrD
  rw [hq] at h'
  exact ⟨_, by simp [execOp, ho, hq, Instr.fieldAt, run_underlying hu, hff, Instr.sureAddr, run_fieldPlace hi (by simpa using hn)], .t (h'.ptr_drop hs)⟩

end Go.Proofs.Ytgblfhobiibeaaa.Abs

/- Abstract symbolic execution, part 5: more operations that leave the memory alone: equality of structs, building structs, slices that are read, closures. No condition. -/
set_option linter.unusedVariables false
set_option linter.unusedSimpArgs false
namespace Go.Proofs.Ytgblfhobiibeaaa.Abs
open Go.RowKit

/-! ### '==' of structs and arrays of whole numbers, bools and strings -/
def andO : Option Bool → Option Bool → Option Bool
  | some a, some b => some (a && b)
  | _, _ => none
def subL (l : List Value) (off n : Nat) : List Value := (l.drop off).take n
def eqF (P : Program) (rec' : TypeId → List Value → List Value → Option Bool) (xs ys : List Value) : List Field → Option Bool
  | [] => some true
  | f :: r => if f.name = "_" then none else
    match P.info? f.type with
    | none => none
    | some i => andO (rec' f.type (subL xs f.offset i.size) (subL ys f.offset i.size)) (eqF P rec' xs ys r)
def eqI (rec' : List Value → List Value → Option Bool) (n : Nat) (xs ys : List Value) : List Nat → Option Bool
  | [] => some true
  | j :: r => andO (rec' (subL xs (j * n) n) (subL ys (j * n) n)) (eqI rec' n xs ys r)
def eqP (P : Program) : Nat → TypeId → List Value → List Value → Option Bool
  | 0, _, _, _ => none
  | d + 1, t, xs, ys =>
    match P.underlying t with
    | some .bool => match xs, ys with | [.bool a], [.bool b] => some (a == b) | _, _ => none
    | some (.int _) => match xs, ys with | [.int k a], [.int k' b] => if k = k' then some (a == b) else none | _, _ => none
    | some .string => match xs, ys with | [.string a], [.string b] => some (a == b) | _, _ => none
    | some (.struct fs) => if P.stoodInHeld t then none else eqF P (eqP P d) xs ys fs.toList
    | some (.array n e) =>
      match P.info? e with
      | none => none
      | some i => eqI (eqP P d e) i.size xs ys (List.range n)
    | _ => none
/-- A value of a type out of its cells. -/
def ofCells (P : Program) (t : TypeId) (l : List Value) : Value :=
  match tyB P t with
  | some (true, _) => .agg l.toArray
  | _ => l.headD undef

theorem andO_some {a b : Option Bool} {r : Bool} (h : andO a b = some r) : ∃ x y, a = some x ∧ b = some y ∧ r = (x && y) := by
  cases a <;> cases b <;> simp [andO] at h
  exact ⟨_, _, rfl, rfl, h.symm⟩

theorem tyB_of_struct {P : Program} {t : TypeId} {d : TypeDesc} {i : TypeInfo} (hu : P.underlying t = some d) (hi : P.info? t = some i) :
    tyB P t = some (isAggD d, i.size) := by
  unfold tyB; rw [hu, hi]
theorem ofCells_plain {P : Program} {t : TypeId} {d : TypeDesc} (hu : P.underlying t = some d) (hd : isAggD d = false) (v : Value) : ofCells P t [v] = v := by
  unfold ofCells tyB
  rw [hu]
  cases hi : P.info? t <;> simp [hd]
theorem ofCells_agg {P : Program} {t : TypeId} {d : TypeDesc} {i : TypeInfo} (hu : P.underlying t = some d) (hi : P.info? t = some i) (hd : isAggD d = true) (l : List Value) :
    ofCells P t l = .agg l.toArray := by
  unfold ofCells tyB
  rw [hu, hi]
  simp [hd]
theorem run_part {P : Program} {w : World} {t : TypeId} {i : TypeInfo} {xs : List Value} {off : Nat} {d : TypeDesc} (hu : P.underlying t = some d) (hi : P.info? t = some i)
    (h1 : isAggD d = true ∨ ∃ v, subL xs off i.size = [v]) :
    (part t xs.toArray off).run P w = .ok (ofCells P t (subL xs off i.size)) w := by
  have ht := tyB_of_struct hu hi
  have ha := run_isAgg (w := w) ht
  have hs := run_sizeOf' (w := w) ht
  unfold ofCells
  rw [ht]
  cases hb : isAggD d with
  | true =>
    rw [hb] at ha
    simp only [part, Sem.run_bind, ha, Result.andThen_ok, if_true, hs, Sem.run_pure]
    simp only [subL]
    congr 2
    simp [List.extract_eq_take_drop]
  | false =>
    rw [hb] at ha h1
    rcases h1 with h1 | ⟨v, hv⟩
    · cases h1
    · have : xs.toArray[off]? = some v := by
        simp only [List.getElem?_toArray]
        have e0 : (subL xs off i.size)[0]? = some v := by rw [hv]; rfl
        have hn : 0 < i.size := by
          rcases Nat.eq_zero_or_pos i.size with h0 | h0
          · rw [subL, h0] at hv; simp at hv
          · exact h0
        simp only [subL] at e0
        rw [List.getElem?_take_of_lt hn, List.getElem?_drop] at e0
        simpa using e0
      simp [part, ha, this, hv]

theorem eqP_shape {P : Program} {d : Nat} {t : TypeId} {xs ys : List Value} {b : Bool} (h : eqP P d t xs ys = some b) {dd : TypeDesc} (hu : P.underlying t = some dd) :
    isAggD dd = true ∨ ((∃ v, xs = [v]) ∧ ∃ v, ys = [v]) := by
  cases d with
  | zero => cases h
  | succ d =>
    unfold eqP at h
    rw [hu] at h
    cases dd <;> simp only at h <;> first
      | exact .inl rfl
      | (right; split at h <;> first | exact ⟨⟨_, rfl⟩, ⟨_, rfl⟩⟩ | cases h)
      | cases h

def EqIH (P : Program) (d : Nat) : Prop := ∀ (w : World) (t : TypeId) (xs ys : List Value) (b : Bool), eqP P d t xs ys = some b →
  (Op.equalIn d t (ofCells P t xs) (ofCells P t ys)).run P w = .ok b w
theorem eqP_type {P : Program} {d : Nat} {t : TypeId} {xs ys : List Value} {b : Bool} (h : eqP P d t xs ys = some b) : ∃ dd, P.underlying t = some dd := by
  cases hu : P.underlying t with
  | some dd => exact ⟨dd, rfl⟩
  | none => cases d <;> simp [eqP, hu] at h
theorem run_eqF {P : Program} {w : World} {d : Nat} {xs ys : List Value} (IH : EqIH P d) : ∀ (fs : List Field) (b : Bool), eqF P (eqP P d) xs ys fs = some b →
    (Op.eqFields d xs.toArray ys.toArray fs).run P w = .ok b w
  | [], b, h => by
    simp only [eqF, Option.some.injEq] at h; subst h
    simp [Op.eqFields]
  | f :: r, b, h => by
    simp only [eqF] at h
    split at h
    · cases h
    · rename_i hn
      split at h
      · cases h
      · rename_i i hi
        obtain ⟨p, q, h1, h2, rfl⟩ := andO_some h
        have hr := IH w _ _ _ _ h1
        obtain ⟨dd, hu⟩ := eqP_type h1
        have sh := eqP_shape h1 hu
        have p1 := run_part (w := w) (xs := xs) (off := f.offset) hu hi (sh.imp id (fun h => h.1))
        have p2 := run_part (w := w) (xs := ys) (off := f.offset) hu hi (sh.imp id (fun h => h.2))
        simp only [Op.eqFields, hn, ne_eq, not_false_eq_true, if_true, Sem.run_bind, p1, Result.andThen_ok, p2, hr]
        cases p with
        | false => simp
        | true => simpa using run_eqF IH r q h2
theorem run_eqI {P : Program} {w : World} {d : Nat} {e : TypeId} {n : Nat} {i : TypeInfo} (hi : P.info? e = some i) {xs ys : List Value} (IH : EqIH P d) : ∀ (l : List Nat) (b : Bool), eqI (eqP P d e) i.size xs ys l = some b →
    (Op.eqItems d e i.size xs.toArray ys.toArray l).run P w = .ok b w
  | [], b, h => by
    simp only [eqI, Option.some.injEq] at h; subst h
    simp [Op.eqItems]
  | j :: r, b, h => by
    simp only [eqI] at h
    obtain ⟨p, q, h1, h2, rfl⟩ := andO_some h
    have hr := IH w _ _ _ _ h1
    obtain ⟨dd, hu⟩ := eqP_type h1
    have sh := eqP_shape h1 hu
    have p1 := run_part (w := w) (xs := xs) (off := j * i.size) hu hi (sh.imp id (fun h => h.1))
    have p2 := run_part (w := w) (xs := ys) (off := j * i.size) hu hi (sh.imp id (fun h => h.2))
    simp only [Op.eqItems, Sem.run_bind, p1, Result.andThen_ok, p2, hr]
    cases p with
    | false => simp
    | true => simpa using run_eqI (n := n) hi IH r q h2
theorem run_eqP {P : Program} : ∀ d, EqIH P d
  | 0, _, _, _, _, _, h => by cases h
  | d + 1, w, t, xs, ys, b, h => by
    have IH := run_eqP (P := P) d
    have hh := h
    unfold eqP at h
    split at h
    · rename_i hu
      split at h
      · injection h with h; subst h
        rw [ofCells_plain hu rfl, ofCells_plain hu rfl]
        simp [Op.equalIn, run_underlying hu]
      · cases h
    · rename_i k0 hu
      split at h
      · split at h
        · rename_i hk; subst hk
          injection h with h; subst h
          rw [ofCells_plain hu rfl, ofCells_plain hu rfl]
          simp [Op.equalIn, run_underlying hu]
        · cases h
      · cases h
    · rename_i hu
      split at h
      · injection h with h; subst h
        rw [ofCells_plain hu rfl, ofCells_plain hu rfl]
        simp [Op.equalIn, run_underlying hu]
      · cases h
    · rename_i fs hu
      split at h
      · cases h
      · rename_i hs
        obtain ⟨i, hi⟩ := info_of_underlying hu
        have hf : P.fieldsOf t = fs := by simp [Program.fieldsOf, hu]
        have := run_equalIn_struct w d t xs.toArray ys.toArray (by rw [hf]; exact hu) (by simpa using hs)
        rw [hf] at this
        rw [ofCells_agg hu hi rfl, ofCells_agg hu hi rfl, this]
        exact run_eqF IH _ _ h
    · rename_i n e hu
      split at h
      · cases h
      · rename_i i hi
        obtain ⟨i', hi'⟩ := info_of_underlying hu
        have := run_equalIn_array w d xs.toArray ys.toArray hu hi
        rw [ofCells_agg hu hi' rfl, ofCells_agg hu hi' rfl, this]
        have hc : P.cellsOf e = i.size := by simp [Program.cellsOf, hi]
        rw [hc]
        exact run_eqI (n := n) hi IH _ _ h
    · cases h

end Go.Proofs.Ytgblfhobiibeaaa.Abs

/- Abstract symbolic execution, part 6: equality of structs, structs that are built, slices that are read, closures. No condition. -/
set_option linter.unusedVariables false
set_option linter.unusedSimpArgs false
namespace Go.Proofs.Ytgblfhobiibeaaa.Abs
open Go.RowKit
variable {C : Ctx} {ops : Array Oper} {o : Oper} {S : AState}

def leafs : List T → Option (List Value)
  | [] => some []
  | .v x :: r => match leafs r with
    | some l => some (x :: l)
    | none => none
  | _ :: _ => none
theorem leafs_spec : ∀ {l : List T} {vs : List Value}, leafs l = some vs → l = vs.map T.v
  | [], vs, h => by injection h with h; subst h; rfl
  | .v x :: r, vs, h => by
    simp only [leafs] at h
    split at h
    · rename_i l hl; injection h with h; subst h; rw [leafs_spec hl]; rfl
    · cases h
  | .agg _ :: _, _, h | .slice _ _ :: _, _, h | .clip _ _ :: _, _, h | .ptr _ :: _, _, h | .clo _ _ :: _, _, h | .tup _ :: _, _, h => by simp [leafs] at h
theorem Reads.leafD {w : World} {ok : Nat → Prop} {v : Value} {l : List T} {xs : List Value} (h : Reads w ok v (.agg l)) (hl : leafs l = some xs) : v = .agg xs.toArray := by
  obtain ⟨vs, rfl, hs, h, _⟩ := h.aggD
  have := leafs_spec hl; subst this
  congr 1
  apply Array.ext
  · simpa using hs
  · intro i h1 h2
    have := h i h1 (by simpa using h2)
    simp only [List.getElem_map] at this
    generalize hq : vs[i] = q at this
    cases this
    simp

theorem run_eqa {P : Program} {w : World} {t : TypeId} {xs ys : List Value} {b : Bool} {n : Nat} (h : eqP P 10000 t xs ys = some b) (ht : tyB P t = some (true, n)) :
    (Op.equal t (.agg xs.toArray) (.agg ys.toArray)).run P w = .ok b w := by
  have := run_eqP (P := P) 10000 w t xs ys b h
  unfold ofCells at this
  rw [ht] at this
  exact this
theorem run_eqGuard_agg {P : Program} {w : World} {op : BinOp} {t : TypeId} {x y : Operand} {a b : Array Value} (h : P.eqGuardType P.depth t = false) :
    (eqGuard op t x y (.agg a) (.agg b)).run P w = .ok () w := by
  cases op <;> simp [eqGuard, run_program, h]
/-- '==' of structs and arrays. -/
theorem step_eqa {t t' : TypeId} {x y : Operand} {l l' : List T} {xs ys : List Value} {b : Bool} {n : Nat} (ho : o.op = .binOp .eql t x y t')
    (hx : evalS S x = .t (.agg l)) (hy : evalS S y = .t (.agg l')) (h1 : leafs l = some xs) (h2 : leafs l' = some ys) (ht : tyB C.P t = some (true, n))
    (hg : C.P.eqGuardType C.P.depth t = false) (hb : eqP C.P 10000 t xs ys = some b) (hd : dOk C.n o.dst = true) : Step C ops o S ⟨.t (.v (.bool b)), [], []⟩ := by
  have hmx : x ∈ o.op.operands := by simp [ho, Op.operands]
  have hmy : y ∈ o.op.operands := by simp [ho, Op.operands]
  refine Step.pure hd (by simp [AV.ids]) fun β w ok ρ hρ _ _ => ⟨_, ?_, .t (.v _)⟩
  have e1 : ρ x = .agg xs.toArray := by have := hρ x hmx; rw [hx] at this; exact this.tD.leafD h1
  have e2 : ρ y = .agg ys.toArray := by have := hρ y hmy; rw [hy] at this; exact this.tD.leafD h2
  simp only [execOp, ho, e1, e2, Sem.run_bind, run_eqGuard_agg hg, Result.andThen_ok, binOp, run_eqa hb ht, Sem.run_pure]
theorem step_nea {t t' : TypeId} {x y : Operand} {l l' : List T} {xs ys : List Value} {b : Bool} {n : Nat} (ho : o.op = .binOp .neq t x y t')
    (hx : evalS S x = .t (.agg l)) (hy : evalS S y = .t (.agg l')) (h1 : leafs l = some xs) (h2 : leafs l' = some ys) (ht : tyB C.P t = some (true, n))
    (hg : C.P.eqGuardType C.P.depth t = false) (hb : eqP C.P 10000 t xs ys = some b) (hd : dOk C.n o.dst = true) : Step C ops o S ⟨.t (.v (.bool (!b))), [], []⟩ := by
  have hmx : x ∈ o.op.operands := by simp [ho, Op.operands]
  have hmy : y ∈ o.op.operands := by simp [ho, Op.operands]
  refine Step.pure hd (by simp [AV.ids]) fun β w ok ρ hρ _ _ => ⟨_, ?_, .t (.v _)⟩
  have e1 : ρ x = .agg xs.toArray := by have := hρ x hmx; rw [hx] at this; exact this.tD.leafD h1
  have e2 : ρ y = .agg ys.toArray := by have := hρ y hmy; rw [hy] at this; exact this.tD.leafD h2
  simp only [execOp, ho, e1, e2, Sem.run_bind, run_eqGuard_agg hg, Result.andThen_ok, binOp, run_eqa hb ht, Sem.run_pure]
theorem step_eqbool {t t' : TypeId} {x y : Operand} {m n : Bool} (ho : o.op = .binOp .eql t x y t')
    (hx : evalS S x = .t (.v (.bool m))) (hy : evalS S y = .t (.v (.bool n))) (ht : C.P.underlying t = some .bool) (hd : dOk C.n o.dst = true) :
    Step C ops o S ⟨.t (.v (.bool (m == n))), [], []⟩ := step_eqb (b := false) ho hx hy ht hd
theorem step_nebool {t t' : TypeId} {x y : Operand} {m n : Bool} (ho : o.op = .binOp .neq t x y t')
    (hx : evalS S x = .t (.v (.bool m))) (hy : evalS S y = .t (.v (.bool n))) (ht : C.P.underlying t = some .bool) (hd : dOk C.n o.dst = true) :
    Step C ops o S ⟨.t (.v (.bool (m != n))), [], []⟩ := step_eqb (b := true) ho hx hy ht hd

/-! ### Slices that are read -/
theorem slB_spec {P : Program} {t e sz bytes : Nat} (h : slB P t = some (e, sz, bytes)) : P.underlying t = some (.slice e) ∧ ∃ i, P.info? e = some i ∧ i.size = sz ∧ i.bytes = bytes := by
  unfold slB at h
  split at h
  · rename_i e' hu
    cases hi : P.info? e' with
    | none => rw [hi] at h; cases h
    | some i =>
      rw [hi] at h
      simp only [Option.map_some, Option.some.injEq, Prod.mk.injEq] at h
      obtain ⟨rfl, h2, h3⟩ := h
      exact ⟨hu, i, hi, h2, h3⟩
  · cases h
theorem arB_spec {P : Program} {t n e sz : Nat} (h : arB P t = some (n, e, sz)) : P.underlying t = some (.array n e) ∧ ∃ i, P.info? e = some i ∧ i.size = sz := by
  unfold arB at h
  split at h
  · rename_i n' e' hu
    cases hi : P.info? e' with
    | none => rw [hi] at h; cases h
    | some i =>
      rw [hi] at h
      simp only [Option.map_some, Option.some.injEq, Prod.mk.injEq] at h
      obtain ⟨rfl, rfl, h3⟩ := h
      exact ⟨hu, i, hi, h3⟩
  · cases h

theorem cells_ne_nil_of_pos {v : T} (h : 0 < v.cells.length) : v.cells ≠ [] := by intro e; rw [e] at h; simp at h
/-- The address of an element of a slice that is read. -/
theorem Reads.elem {w : World} {ok : Nat → Prop} {a : Option Addr} {n cap sz : Nat} {l : List T} {i : Nat} {v : T} (h : Reads w ok (.slice a n cap) (.slice sz l)) (hv : l[i]? = some v) (hz : 0 < sz) :
    n = l.length ∧ ∃ ad, a = some ad ∧ Reads w ok (.pointer (some (ad.add (i * sz)))) (.ptr v.cells) := by
  cases h with
  | slice f hc hm hzz ha h =>
    refine ⟨rfl, ?_⟩
    obtain ⟨hi, rfl⟩ := List.getElem?_eq_some_iff.1 hv
    have hpos : 0 < l.length * sz := Nat.mul_pos (by omega) hz
    obtain ⟨ad, rfl, ho, hcell⟩ := ha hpos
    refine ⟨ad, rfl, .ptr (fun j => f (i * sz + j)) (by rw [Addr.add_block]; exact ho) (fun k hk => ?_) (fun k hk => h i hi k hk)⟩
    have hzi := hzz i hi
    rw [Addr.add_add]
    refine hcell _ ?_
    have : (i + 1) * sz ≤ l.length * sz := Nat.mul_le_mul_right _ (by omega)
    have : (i + 1) * sz = i * sz + sz := by rw [Nat.add_mul, Nat.one_mul]
    omega
theorem step_indexAddrT {t : TypeId} {x ix : Operand} {e sz bytes : Nat} {l : List T} {k : IntKind} {i : Int} {v : T} (ho : o.op = .indexAddr t x ix) (hx : evalS S x = .t (.slice sz l))
    (hi : evalS S ix = .t (.v (.int k i))) (ht : slB C.P t = some (e, sz, bytes)) (h0 : 0 ≤ i) (hv : l[i.toNat]? = some v) (hz : Nat.blt 0 sz = true) (hd : dOk C.n o.dst = true) :
    Step C ops o S ⟨.t (.ptr v.cells), [], []⟩ := by
  have hmx : x ∈ o.op.operands := by simp [ho, Op.operands]
  have hmi : ix ∈ o.op.operands := by simp [ho, Op.operands]
  refine Step.pure hd (by simp [AV.ids]) fun β w ok ρ hρ _ _ => ?_
  obtain ⟨hu, inf, hinf, hsz, _⟩ := slB_spec ht
  have e2 : ρ ix = .int k i := by have := hρ ix hmi; rw [hi] at this; exact this.toV
  have h := hρ x hmx
  rw [hx] at h
  have h := h.tD
  obtain ⟨a, n, cap, hq⟩ : ∃ a n cap, ρ x = .slice a n cap := by
    generalize ρ x = q at h
    cases h; exact ⟨_, _, _, rfl⟩
  rw [hq] at h
  obtain ⟨rfl, ad, rfl, hr⟩ := h.elem hv (by simpa [Nat.blt_eq] using hz)
  have hlt : i.toNat < l.length := (List.getElem?_eq_some_iff.1 hv).1
  refine ⟨_, ?_, .t hr⟩
  simp [execOp, ho, hq, e2, Instr.indexAt, asIntOf, run_underlying hu, sizeOf, typeInfo, hinf, hsz, h0, show i < (l.length : Int) from by omega]
/-- An element's address in an array variable. -/
theorem step_indexAddrP {t : TypeId} {x ix : Operand} {n e sz q : Nat} {j : Nat} {k : IntKind} {i : Int} (ho : o.op = .indexAddr t x ix) (hx : evalS S x = .p j q)
    (hi : evalS S ix = .t (.v (.int k i))) (ht : arB C.P t = some (n, e, sz)) (h0 : 0 ≤ i) (h1 : i < n) (hd : dOk C.n o.dst = true) :
    Step C ops o S ⟨.p j (q + i.toNat * sz), [], []⟩ := by
  have hmx : x ∈ o.op.operands := by simp [ho, Op.operands]
  have hmi : ix ∈ o.op.operands := by simp [ho, Op.operands]
  refine Step.pure hd (fun j' hj => ⟨x, hmx, by rw [hx]; exact hj⟩) fun β w ok ρ hρ _ _ => ?_
  obtain ⟨hu, inf, hinf, hsz⟩ := arB_spec ht
  have e2 : ρ ix = .int k i := by have := hρ ix hmi; rw [hi] at this; exact this.toV
  have h := hρ x hmx
  rw [hx] at h
  obtain ⟨b, h, hq⟩ := h.pD
  exact ⟨_, by simp [execOp, ho, hq, e2, Instr.indexAt, asIntOf, run_underlying hu, sizeOf, typeInfo, hinf, hsz, h0, h1, Instr.sureAddr, add_plain'], .p h⟩
/-- An element's address in an array that nobody writes. -/
theorem step_indexAddrA {t : TypeId} {x ix : Operand} {n e sz : Nat} {l r : List T} {k : IntKind} {i : Int} (ho : o.op = .indexAddr t x ix) (hx : evalS S x = .t (.ptr l))
    (hi : evalS S ix = .t (.v (.int k i))) (ht : arB C.P t = some (n, e, sz)) (h0 : 0 ≤ i) (h1 : i < n) (hs : sub l (i.toNat * sz) sz = some r) (hd : dOk C.n o.dst = true) :
    Step C ops o S ⟨.t (.ptr r), [], []⟩ := by
  have hmx : x ∈ o.op.operands := by simp [ho, Op.operands]
  have hmi : ix ∈ o.op.operands := by simp [ho, Op.operands]
  refine Step.pure hd (by simp [AV.ids]) fun β w ok ρ hρ _ _ => ?_
  obtain ⟨hu, inf, hinf, hsz⟩ := arB_spec ht
  have e2 : ρ ix = .int k i := by have := hρ ix hmi; rw [hi] at this; exact this.toV
  have h := hρ x hmx
  rw [hx] at h
  have h' := h.tD
  obtain ⟨a, hq⟩ := h'.ptrD
  rw [hq] at h'
  exact ⟨_, by simp [execOp, ho, hq, e2, Instr.indexAt, asIntOf, run_underlying hu, sizeOf, typeInfo, hinf, hsz, h0, h1, Instr.sureAddr], .t (h'.ptr_drop hs)⟩

theorem Reads.drop_take {w : World} {ok : Nat → Prop} {a : Option Addr} {n cap sz : Nat} {l : List T} {lo hi : Nat} (h : Reads w ok (.slice a n cap) (.slice sz l)) (h1 : lo ≤ hi) (h2 : hi ≤ l.length) (a' : Option Addr)
    (ha' : ∀ ad, a = some ad → lo < hi → a' = some (ad.add (lo * sz))) : Reads w ok (.slice a' (hi - lo) (cap - lo)) (.slice sz ((l.take hi).drop lo)) := by
  cases h with
  | slice f hc hm hz ha h =>
    have hlen : ((l.take hi).drop lo).length = hi - lo := by simp; omega
    have hget : ∀ i (hi' : i < ((l.take hi).drop lo).length), ((l.take hi).drop lo)[i] = l[lo + i]'(by omega) := by
      intro i hi'; simp
    have := Reads.slice (w := w) (ok := ok) (a := a') (cap := cap - lo) (sz := sz) (l := (l.take hi).drop lo) (fun k => f (lo * sz + k)) (by omega) (by omega)
      (fun i hi' => by rw [hget]; exact hz _ _) (fun hp => ?_) (fun i hi' j hj => ?_)
    · rw [hlen] at this; exact this
    · rw [hlen] at hp
      have hpos : 0 < (hi - lo) := Nat.pos_of_mul_pos_right hp
      have hz' : 0 < sz := Nat.pos_of_mul_pos_left hp
      obtain ⟨ad, e, ho, hcell⟩ := ha (Nat.mul_pos (by omega) hz')
      refine ⟨ad.add (lo * sz), ha' ad e (by omega), by rw [Addr.add_block]; exact ho, fun k hk => ?_⟩
      rw [Addr.add_add]
      apply hcell
      rw [hlen] at hk
      have h3 : lo * sz + (hi - lo) * sz = hi * sz := by rw [← Nat.add_mul]; congr 1; omega
      have h4 : hi * sz ≤ l.length * sz := Nat.mul_le_mul_right _ h2
      omega
    · have := h (lo + i) (by omega) j (by rw [hget] at hj; exact hj)
      have h3 : (lo + i) * sz + j = lo * sz + (i * sz + j) := by rw [Nat.add_mul]; omega
      rw [h3] at this
      simp only [hget]
      exact this

theorem run_sliceBound {P : Program} {w : World} {k : IntKind} {i : Int} {y : Nat} {c : BoundsCode} (h0 : 0 ≤ i) (h1 : i ≤ y) : (Instr.sliceBound (.int k i) y c).run P w = .ok i.toNat w := by
  simp [Instr.sliceBound, asIntOf, h0, h1]
def intO (S : AState) : Option Operand → Option (Option Int)
  | none => some none
  | some x => match evalS S x with
    | .t (.v (.int _ n)) => some (some n)
    | _ => none
/-- 'xs[lo:hi]' of a slice that is read. -/
theorem step_sliceT {t : TypeId} {x : Operand} {lo hi : Option Operand} {e sz bytes : Nat} {l : List T} {m n : Option Int} (ho : o.op = .slice t x lo hi none) (hx : evalS S x = .t (.slice sz l))
    (hlo : intO S lo = some m) (hhi : intO S hi = some n) (ht : slB C.P t = some (e, sz, bytes)) (h0 : 0 ≤ m.getD 0) (h1 : m.getD 0 ≤ n.getD l.length) (h2 : n.getD l.length ≤ l.length)
    (hd : dOk C.n o.dst = true) : Step C ops o S ⟨.t (.slice sz ((l.take (n.getD l.length).toNat).drop (m.getD 0).toNat)), [], []⟩ := by
  have hmx : x ∈ o.op.operands := by simp [ho, Op.operands]
  refine Step.pure hd (by simp [AV.ids]) fun β w ok ρ hρ _ _ => ?_
  obtain ⟨hu, inf, hinf, hsz, _⟩ := slB_spec ht
  have h := hρ x hmx
  rw [hx] at h
  have h := h.tD
  obtain ⟨a, cap, hc, hq⟩ : ∃ a cap, l.length ≤ cap ∧ ρ x = .slice a l.length cap := by
    generalize ρ x = q at h
    cases h with | slice f hc hm hz ha h => exact ⟨_, _, hc, rfl⟩
  rw [hq] at h
  have el : ∀ y, lo = some y → ∃ k q, m = some q ∧ ρ y = .int k q := by
    intro y hy; subst hy
    have := hρ y (by simp [ho, Op.operands])
    simp only [intO] at hlo
    split at hlo
    · rename_i k q he
      injection hlo with hlo
      rw [he] at this
      exact ⟨k, q, hlo.symm, this.toV⟩
    · cases hlo
  have eh : ∀ y, hi = some y → ∃ k q, n = some q ∧ ρ y = .int k q := by
    intro y hy; subst hy
    have := hρ y (by simp [ho, Op.operands])
    simp only [intO] at hhi
    split at hhi
    · rename_i k q he
      injection hhi with hhi
      rw [he] at this
      exact ⟨k, q, hhi.symm, this.toV⟩
    · cases hhi
  have hlon : lo = none → m = none := by intro e; subst e; simp [intO] at hlo; exact hlo.symm
  have hhin : hi = none → n = none := by intro e; subst e; simp [intO] at hhi; exact hhi.symm
  have key : (execOp ρ o).run C.P w = .ok (.value (.slice (if cap = (m.getD 0).toNat then a else a.map (·.add ((m.getD 0).toNat * sz))) ((n.getD l.length).toNat - (m.getD 0).toNat) (cap - (m.getD 0).toNat))) w := by
    have hb : (Instr.sliceBounds true l.length cap (lo.map ρ) (hi.map ρ) none).run C.P w = .ok ((m.getD 0).toNat, (n.getD l.length).toNat, cap) w := by
      cases hi with
      | none =>
        have := hhin rfl; subst this
        cases lo with
        | none => have := hlon rfl; subst this; simp [Instr.sliceBounds]
        | some y =>
          obtain ⟨k, q, rfl, hy⟩ := el y rfl
          simp only [Option.getD_some, Option.getD_none] at h0 h1 h2
          simp [Instr.sliceBounds, hy, run_sliceBound h0 h1]
      | some z =>
        obtain ⟨k', q', rfl, hz⟩ := eh z rfl
        simp only [Option.getD_some] at h0 h1 h2
        have hzb : ∀ c, (Instr.sliceBound (.int k' q') cap c).run C.P w = .ok q'.toNat w := fun c => run_sliceBound (by omega) (by omega)
        cases lo with
        | none => have := hlon rfl; subst this; simp [Instr.sliceBounds, hz, hzb]
        | some y =>
          obtain ⟨k, q, rfl, hy⟩ := el y rfl
          simp only [Option.getD_some] at h0 h1
          have hyb : ∀ c, (Instr.sliceBound (.int k q) q'.toNat c).run C.P w = .ok q.toNat w := fun c => run_sliceBound (by omega) (by omega)
          simp [Instr.sliceBounds, hz, hzb, hy, hyb]
    simp only [execOp, ho, Instr.sliceAt, Sem.run_bind, run_underlying hu, Result.andThen_ok, hq, Instr.slice, Option.map_none, hb, sizeOf, run_info hinf, Sem.run_pure, hsz]
  refine ⟨_, key, .t (h.drop_take (by omega) (by omega) _ fun ad hd' hlt => ?_)⟩
  rw [if_neg (by omega), hd']
  rfl

theorem step_lenT {t rt : TypeId} {x : Operand} {e sz bytes sz' : Nat} {l : List T} (ho : o.op = .call { callee := .builtin .len, args := #[x], argTypes := #[t] }) (hx : evalS S x = .t (.slice sz' l))
    (ht : slB C.P t = some (e, sz, bytes)) (hd : dOk C.n o.dst = true) : Step C ops o S ⟨.t (.v (.int .i64 l.length)), [], []⟩ := by
  have hmx : x ∈ o.op.operands := by simp [ho, Op.operands, Call.operands]
  refine Step.pure hd (by simp [AV.ids]) fun β w ok ρ hρ _ _ => ⟨_, ?_, .t (.v _)⟩
  obtain ⟨hu, _⟩ := slB_spec ht
  have h := hρ x hmx
  rw [hx] at h
  have h := h.tD
  obtain ⟨a, cap, hq⟩ : ∃ a cap, ρ x = .slice a l.length cap := by
    generalize ρ x = q at h
    cases h with | slice f hc hm hz ha h => exact ⟨_, _, rfl⟩
  simp [execOp, ho, resolve, invoke, builtin, Builtin.len_, run_underlying hu, hq, goInt]
theorem step_lenV {t : TypeId} {x : Operand} {s : ByteArray} (ho : o.op = .call { callee := .builtin .len, args := #[x], argTypes := #[t] }) (hx : evalS S x = .t (.v (.string s)))
    (ht : C.P.underlying t = some .string) (hd : dOk C.n o.dst = true) : Step C ops o S ⟨.t (.v (.int .i64 s.size)), [], []⟩ := by
  have hmx : x ∈ o.op.operands := by simp [ho, Op.operands, Call.operands]
  refine Step.pure hd (by simp [AV.ids]) fun β w ok ρ hρ _ _ => ⟨_, ?_, .t (.v _)⟩
  have e1 : ρ x = .string s := by have := hρ x hmx; rw [hx] at this; exact this.toV
  simp [execOp, ho, resolve, invoke, builtin, Builtin.len_, run_underlying ht, e1, goInt]
theorem step_max {t t' : TypeId} {x y : Operand} {k : IntKind} {m n : Int} (ho : o.op = .call { callee := .builtin .max, args := #[x, y], argTypes := #[t, t'] })
    (hx : evalS S x = .t (.v (.int k m))) (hy : evalS S y = .t (.v (.int k n))) (hd : dOk C.n o.dst = true) : Step C ops o S ⟨.t (.v (.int k (max m n))), [], []⟩ := by
  have hmx : x ∈ o.op.operands := by simp [ho, Op.operands, Call.operands]
  have hmy : y ∈ o.op.operands := by simp [ho, Op.operands, Call.operands]
  refine Step.pure hd (by simp [AV.ids]) fun β w ok ρ hρ _ _ => ⟨_, ?_, .t (.v _)⟩
  have e1 : ρ x = .int k m := by have := hρ x hmx; rw [hx] at this; exact this.toV
  have e2 : ρ y = .int k n := by have := hρ y hmy; rw [hy] at this; exact this.toV
  have : (if n > m then n else m) = max m n := by split <;> omega
  simp [execOp, ho, resolve, invoke, builtin, Builtin.max_, Builtin.max2, e1, e2, this]
theorem step_min {t t' : TypeId} {x y : Operand} {k : IntKind} {m n : Int} (ho : o.op = .call { callee := .builtin .min, args := #[x, y], argTypes := #[t, t'] })
    (hx : evalS S x = .t (.v (.int k m))) (hy : evalS S y = .t (.v (.int k n))) (hd : dOk C.n o.dst = true) : Step C ops o S ⟨.t (.v (.int k (min m n))), [], []⟩ := by
  have hmx : x ∈ o.op.operands := by simp [ho, Op.operands, Call.operands]
  have hmy : y ∈ o.op.operands := by simp [ho, Op.operands, Call.operands]
  refine Step.pure hd (by simp [AV.ids]) fun β w ok ρ hρ _ _ => ⟨_, ?_, .t (.v _)⟩
  have e1 : ρ x = .int k m := by have := hρ x hmx; rw [hx] at this; exact this.toV
  have e2 : ρ y = .int k n := by have := hρ y hmy; rw [hy] at this; exact this.toV
  have : (if n < m then n else m) = min m n := by split <;> omega
  simp [execOp, ho, resolve, invoke, builtin, Builtin.min_, Builtin.min2, e1, e2, this]

/-! ### Closures over variables that nobody writes any more -/
theorem step_makeFunc {g : FuncId} {caps : Array Operand} {ts : List T} (ho : o.op = .makeFunc (.func g) #[] caps) (hc : trees (caps.toList.map (evalS S)) = some ts) (hd : dOk C.n o.dst = true) :
    Step C ops o S ⟨.t (.clo g ts), [], []⟩ := by
  refine Step.pure hd (by simp [AV.ids]) fun β w ok ρ hρ _ _ => ?_
  have hsp := trees_spec hc
  have hlen : caps.size = ts.length := by
    have := congrArg List.length hsp
    simpa using this
  refine ⟨.func (.func g) #[] (caps.map ρ), by simp [execOp, ho, Instr.makeFunc], .t (.clo (by simpa using hlen) fun i h1 h2 => ?_)⟩
  have hic : i < caps.size := by simpa using h1
  have hm : caps[i] ∈ o.op.operands := by simp [ho, Op.operands]
  have := hρ _ hm
  have he : evalS S caps[i] = .t ts[i] := by
    have : (caps.toList.map (evalS S))[i]? = (ts.map AV.t)[i]? := by rw [hsp]
    simpa [hic, h2] using this
  rw [he] at this
  simpa using this.tD

end Go.Proofs.Ytgblfhobiibeaaa.Abs

/- Abstract symbolic execution, part 7: operations on memory: variables in memory, rows of the call's own, calls by contract. No condition. -/
set_option linter.unusedVariables false
set_option linter.unusedSimpArgs false
namespace Go.Proofs.Ytgblfhobiibeaaa.Abs
open Go.RowKit
variable {C : Ctx} {ops : Array Oper} {o : Oper} {S : AState}

theorem ownsRow_blk {w : World} {base e size n : Nat} {v : Value} {xs : List Value} (h : w.ownsRow base e size v n xs) : blk v = v.ownBlock := by
  rcases h.2 with ⟨rfl, _⟩ | ⟨g, cap, cur, rfl, _⟩ <;> rfl
theorem ownsRow_same {w w' : World} {base e size n : Nat} {v : Value} {xs : List Value} (h : w.ownsRow base e size v n xs) (hb : ∀ b, blk v = some b → w'.heap[b]? = w.heap[b]?) :
    w'.ownsRow base e size v n xs := by
  refine ⟨h.1, ?_⟩
  rcases h.2 with hn | ⟨g, cap, cur, rfl, h1, h2, h3⟩
  · exact .inl hn
  · exact .inr ⟨g, cap, cur, rfl, h1, (hb g rfl).trans h2, h3⟩
theorem ownsRow_base {w : World} {base base' e size n : Nat} {v : Value} {xs : List Value} (h : w.ownsRow base e size v n xs) (hb : base' ≤ base) : w.ownsRow base' e size v n xs := by
  refine ⟨h.1, ?_⟩
  rcases h.2 with hn | ⟨g, cap, cur, rfl, h1, h2, h3⟩
  · exact .inl hn
  · exact .inr ⟨g, cap, cur, rfl, Nat.le_trans hb h1, h2, h3⟩

theorem ORel.mono {ok ok' : Nat → Prop} {β β' : Nat → Value} {w w' : World} {i : Nat} {o : AObj} (h : ORel C ok β w i o)
    (hb : ∀ b, blk (β i) = some b → w'.heap[b]? = w.heap[b]?) (hw : ∀ b, ok b → w'.heap[b]? = w.heap[b]?) (hk : ∀ b, ok b → ok' b) (hi : β' i = β i)
    (hβ : ∀ j ∈ o.ids, β' j = β j) : ORel C ok' β' w' i o := by
  cases o with
  | box E cells =>
    obtain ⟨b, arr, h1, h2, h3, h4, h5⟩ := h
    exact ⟨b, arr, hi.trans h1, h2, (hb b (by rw [h1]; rfl)).trans h3, h4, fun k k1 k2 => ⟨(h5 k k1 k2).1.mono hw hk fun j hj => hβ j (AV.mem_idsL (List.getElem_mem k2) hj), (h5 k k1 k2).2⟩⟩
  | row E sz l =>
    obtain ⟨cells, h1, h2, h3⟩ := h
    refine ⟨cells, by rw [hi]; exact ownsRow_same h1 hb, h2, fun k hk' j hj => ?_⟩
    obtain ⟨v, e, hr, ho⟩ := h3 k hk' j hj
    exact ⟨v, e, hr.mono hw hk, ho⟩
  | buf E sz cap l =>
    obtain ⟨g, cur, h1, h2, h3, h4, h5, h6, h7, h8⟩ := h
    refine ⟨g, cur, hi.trans h1, h2, (hb g (by rw [h1]; rfl)).trans h3, h4, h5, h6, h7, fun k hk' j hj => ?_⟩
    obtain ⟨v, e, hr, ho⟩ := h8 k hk' j hj
    exact ⟨v, e, hr.mono hw hk, ho⟩
  | mp es clock =>
    obtain ⟨b, h1, h2, h3⟩ := h
    exact ⟨b, hi.trans h1, h2, (hb b (by rw [h1]; rfl)).trans h3⟩

theorem ORel.lt {ok : Nat → Prop} {β : Nat → Value} {w : World} {i : Nat} {o : AObj} (h : ORel C ok β w i o) {b : Nat} (hb : blk (β i) = some b) : C.w0.heap.size ≤ b ∧ b < w.heap.size := by
  cases o with
  | box E cells =>
    obtain ⟨b', arr, h1, h2, h3, _⟩ := h
    rw [h1] at hb; injection hb with hb; subst hb
    exact ⟨h2, (Array.getElem?_eq_some_iff.1 h3).1⟩
  | row E sz l =>
    obtain ⟨cells, h1, _⟩ := h
    exact h1.lt b (by rw [← ownsRow_blk h1]; exact hb)
  | buf E sz cap l =>
    obtain ⟨g, cur, h1, h2, h3, _⟩ := h
    rw [h1] at hb; injection hb with hb; subst hb
    exact ⟨h2, (Array.getElem?_eq_some_iff.1 h3).1⟩
  | mp es clock =>
    obtain ⟨b', h1, h2, h3⟩ := h
    rw [h1] at hb; injection hb with hb; subst hb
    exact ⟨h2, (Array.getElem?_eq_some_iff.1 h3).1⟩

theorem SatB.change {β β' : Nat → Value} {S' : AState} {a : Act} {w w' : World} (h : SatB C β S a w) (hbel : Below C.w0.heap.size C.w0 w')
    (hheap : ∀ b, okS C S β w b → w'.heap[b]? = w.heap[b]?) (hok : ∀ b, okS C S β w b → okS C S' β' w' b) (hβ : ∀ i, S.used i = true → β' i = β i)
    (hslot : S'.slot = S.slot) (hused : ∀ i, S.used i = true → S'.used i = true) (hmem : ∀ i o, S'.mem i = some o → ORel C (okS C S' β' w') β' w' i o)
    (hap : ∀ i j o o', S'.mem i = some o → S'.mem j = some o' → i ≠ j → ∀ b, blk (β' i) = some b → blk (β' j) ≠ some b)
    (hwf : ∀ j o, S'.mem j = some o → S'.used j = true ∧ ∀ i, i ∈ o.ids → S'.used i = true) (hkeep : ∀ b x, C.keep b = some x → w'.heap[b]? = some x.1 ∧ ¬ owned S' β' b)
    (hanc : ∀ p, p ∈ C.anc → β' p.1 = p.2 ∧ ∃ E cells, S'.mem p.1 = some (.box E cells)) : SatB C β' S' a w' where
  size := h.size
  defers := h.defers
  below := hbel
  ok0 := h.ok0
  slot := fun x => by rw [hslot]; exact (h.slot x).mono hheap hok fun i hi => hβ i (h.wfs x i hi)
  mem := hmem
  apart := hap
  wfs := fun x i hi => by rw [hslot] at hi; exact hused i (h.wfs x i hi)
  wfm := hwf
  keep := hkeep
  anc := hanc

def modS (m : List (Nat × Option AObj)) (S : AState) : AState :=
  { slot := S.slot, mem := fun i => match assoc i m with | some o => o | none => S.mem i, used := fun i => S.used i || hasKey i m }
theorem ap_modS (d : Option Nat) (e : Eff) (S : AState) : ap d e S = { modS e.mods S with slot := putS d e.val (modS e.mods S).slot } := rfl
theorem modS_one {i : Nat} {x : Option AObj} {j : Nat} : (modS [(i, x)] S).mem j = (if j = i then x else S.mem j) ∧ (modS [(i, x)] S).used j = (S.used j || decide (j = i)) := by
  simp only [modS, assoc, hasKey]
  by_cases h : j = i
  · subst h; simp [Nat.beq_refl]
  · have : Nat.beq j i = false := by
      cases hb : Nat.beq j i with
      | false => rfl
      | true => exact absurd (Nat.eq_of_beq_eq_true hb) h
    simp [this, h]

theorem SatB.keep_lt {β : Nat → Value} {a : Act} {w : World} (h : SatB C β S a w) {b : Nat} {x : Obj × Bool} (hx : C.keep b = some x) : b < w.heap.size := (Array.getElem?_eq_some_iff.1 (h.keep b x hx).1).1
/-- The world has grown alone. -/
theorem SatB.grow {β : Nat → Value} {a : Act} {w w' : World} (h : SatB C β S a w) (hb : Below w.heap.size w w') : SatB C β S a w' := by
  have hs := h.below.size
  have hbel : Below C.w0.heap.size C.w0 w' := h.below.trans ⟨hb.os, hb.tape, hb.output, hb.size, fun k hk => hb.block k (by omega)⟩
  have hheap : ∀ b, okS C S β w b → w'.heap[b]? = w.heap[b]? := fun b hb' => hb.block b hb'.2.1
  have hok : ∀ b, okS C S β w b → okS C S β w' b := fun b hb' => ⟨hb'.1, Nat.lt_of_lt_of_le hb'.2.1 hb.size, hb'.2.2⟩
  exact h.change hbel hheap hok (fun _ _ => rfl) rfl (fun _ h => h) (fun i o hi => (h.mem i o hi).mono (fun b hb' => hb.block b ((h.mem i o hi).lt hb').2) hheap hok rfl (fun _ _ => rfl)) h.apart h.wfm (fun b x hx => ⟨(hb.block b (h.keep_lt hx)).trans (h.keep b x hx).1, (h.keep b x hx).2⟩) h.anc
theorem SatB.fresh_ok {β : Nat → Value} {a : Act} {w w' : World} (h : SatB C β S a w) {b : Nat} (h1 : w.heap.size ≤ b) (h2 : b < w'.heap.size) : okS C S β w' b := by
  refine ⟨⟨.inr (Nat.le_trans h.below.size h1), fun x hx => by have := h.keep_lt hx; omega⟩, h2, ?_⟩
  rintro ⟨i, o, hi, hb⟩
  have := ((h.mem i o hi).lt hb).2
  omega

/-- A new object, in fresh memory. -/
theorem SatB.new {β : Nat → Value} {a : Act} {w w' : World} (h : SatB C β S a w) (i : Nat) (hu : S.used i = false) (o : AObj) (nv : Value) (hb : Below w.heap.size w w')
    (hfresh : ∀ b, blk nv = some b → w.heap.size ≤ b) (hids : ∀ j ∈ o.ids, S.used j = true)
    (hO : ∀ (ok' : Nat → Prop) (β' : Nat → Value), (∀ b, okS C S β w b → ok' b) → (∀ b, w.heap.size ≤ b → b < w'.heap.size → blk nv ≠ some b → ok' b) → β' i = nv → (∀ j, S.used j = true → β' j = β j) → ORel C ok' β' w' i o) :
    ∃ β', β' i = nv ∧ (∀ b, okS C S β w b → okS C (modS [(i, some o)] S) β' w' b) ∧ (∀ b, w.heap.size ≤ b → b < w'.heap.size → blk nv ≠ some b → okS C (modS [(i, some o)] S) β' w' b) ∧
      (∀ j, S.used j = true → β' j = β j) ∧ SatB C β' (modS [(i, some o)] S) a w' := by
  have hs := h.below.size
  have hnomem : S.mem i = none := by
    cases hm : S.mem i with
    | none => rfl
    | some q => have := (h.wfm i q hm).1; rw [hu] at this; cases this
  let β' : Nat → Value := fun j => if j = i then nv else β j
  have e1 : β' i = nv := by simp [β']
  have e2 : ∀ j, S.used j = true → β' j = β j := by
    intro j hj
    have : j ≠ i := fun e => by subst e; rw [hu] at hj; cases hj
    simp [β', this]
  have hm : ∀ j, (modS [(i, some o)] S).mem j = (if j = i then some o else S.mem j) := fun j => modS_one.1
  have hus : ∀ j, (modS [(i, some o)] S).used j = (S.used j || decide (j = i)) := fun j => modS_one.2
  have hold : ∀ j q, j ≠ i → S.mem j = some q → β' j = β j := fun j q hne hj => by simp [β', hne]
  have hbel : Below C.w0.heap.size C.w0 w' := h.below.trans ⟨hb.os, hb.tape, hb.output, hb.size, fun k hk => hb.block k (by omega)⟩
  have hheap : ∀ b, okS C S β w b → w'.heap[b]? = w.heap[b]? := fun b hb' => hb.block b hb'.2.1
  have howned : ∀ b, owned (modS [(i, some o)] S) β' b → blk nv = some b ∨ owned S β b := by
    rintro b ⟨j, q, hj, hbl⟩
    rw [hm] at hj
    split at hj
    · rename_i e; subst e; rw [e1] at hbl; exact .inl hbl
    · rename_i hne; rw [hold j q hne hj] at hbl; exact .inr ⟨j, q, hj, hbl⟩
  have hok : ∀ b, okS C S β w b → okS C (modS [(i, some o)] S) β' w' b := by
    intro b hb'
    refine ⟨hb'.1, Nat.lt_of_lt_of_le hb'.2.1 hb.size, fun ho => ?_⟩
    rcases howned b ho with h1 | h1
    · have := hfresh b h1; have := hb'.2.1; omega
    · exact hb'.2.2 h1
  have hnew : ∀ b, w.heap.size ≤ b → b < w'.heap.size → blk nv ≠ some b → okS C (modS [(i, some o)] S) β' w' b := by
    intro b h1 h2 h3
    refine ⟨⟨.inr (by omega), fun x hx => by have := h.keep_lt hx; omega⟩, h2, fun ho => ?_⟩
    rcases howned b ho with h4 | h4
    · exact h3 h4
    · obtain ⟨j, q, hj, hbl⟩ := h4
      have := ((h.mem j q hj).lt hbl).2
      omega
  have hkp : ∀ b x, C.keep b = some x → w'.heap[b]? = some x.1 ∧ ¬ owned (modS [(i, some o)] S) β' b := fun b x hx => by
    have hlt := h.keep_lt hx
    refine ⟨(hb.block b hlt).trans (h.keep b x hx).1, fun ho => ?_⟩
    rcases howned b ho with h1 | h1
    · have := hfresh b h1; omega
    · exact (h.keep b x hx).2 h1
  refine ⟨β', e1, hok, hnew, e2, h.change hbel hheap hok e2 rfl (fun j hj => by rw [hus, hj]; rfl) (fun j q hj => ?_) (fun j k q q' hj hk hne b hbj hbk => ?_) (fun j q hj => ?_) hkp (fun p hp => ?_)⟩
  · rw [hm] at hj
    split at hj
    · rename_i e; subst e; injection hj with hj; subst hj
      exact hO _ _ hok hnew e1 e2
    · rename_i hne
      exact (h.mem j q hj).mono (fun b hbl => hb.block b ((h.mem j q hj).lt hbl).2) hheap hok (hold j q hne hj) (fun x hx => e2 x ((h.wfm j q hj).2 x hx))
  · rw [hm] at hj hk
    split at hj
    · rename_i e; subst e
      split at hk
      · rename_i e'; exact hne e'.symm
      · rename_i hne'
        rw [e1] at hbj
        rw [hold k q' hne' hk] at hbk
        have h1 := hfresh b hbj
        have h2 := ((h.mem k q' hk).lt hbk).2
        omega
    · rename_i hnj
      rw [hold j q hnj hj] at hbj
      split at hk
      · rename_i e'; subst e'
        rw [e1] at hbk
        have h1 := hfresh b hbk
        have h2 := ((h.mem j q hj).lt hbj).2
        omega
      · rename_i hnk
        rw [hold k q' hnk hk] at hbk
        exact h.apart j k q q' hj hk hne b hbj hbk
  · rw [hm] at hj
    split at hj
    · rename_i e; subst e; injection hj with hj; subst hj
      exact ⟨by rw [hus]; simp, fun x hx => by rw [hus, hids x hx]; rfl⟩
    · obtain ⟨h1, h2⟩ := h.wfm j q hj
      exact ⟨by rw [hus, h1]; rfl, fun x hx => by rw [hus, h2 x hx]; rfl⟩
  · obtain ⟨g1, E, cells, g2⟩ := h.anc p hp
    have hne : p.1 ≠ i := fun e => by rw [e, hnomem] at g2; cases g2
    exact ⟨by simp [β', hne, g1], E, cells, by rw [hm, if_neg hne]; exact g2⟩

theorem below_alloc' (w : World) (o : Obj) : Below w.heap.size w (w.alloc o) := (Below.refl _ _).alloc (Nat.le_refl _) o
theorem heap_alloc_at (w : World) (o : Obj) : (w.alloc o).heap[w.heap.size]? = some o := heap_alloc_new w o

/-- The frame for an operation that makes an object: its value is a handle or a pointer. -/
theorem Step.new {val : AV} {ob : AObj} {i : Nat} (hd : dOk C.n o.dst = true) (hu : S.used i = false) (hids : ∀ j ∈ ob.ids, ∃ x ∈ o.op.operands, j ∈ (evalS S x).ids)
    (hval : ∀ j ∈ val.ids, j = i)
    (h : ∀ (β : Nat → Value) (w : World) (ok : Nat → Prop) (ρ : Operand → Value), C.w0.heap.size ≤ w.heap.size → (∀ b, ok b → b < w.heap.size) → (∀ x ∈ o.op.operands, VRel w ok β (ρ x) (evalS S x)) → (∀ v, ρ (.const v) = v) →
      ∃ v nv w', (execOp ρ o).run C.P w = .ok (.value v) w' ∧ Below w.heap.size w w' ∧ (∀ b, blk nv = some b → w.heap.size ≤ b) ∧
        (∀ (ok' : Nat → Prop) (β' : Nat → Value), (∀ b, ok b → ok' b) → (∀ b, w.heap.size ≤ b → b < w'.heap.size → blk nv ≠ some b → ok' b) → β' i = nv → (∀ j ∈ ob.ids, β' j = β j) → ORel C ok' β' w' i ob ∧ VRel w' ok' β' v val)) :
    Step C ops o S ⟨val, [(i, some ob)], []⟩ := by
  intro S₁ hs hm a w hsat
  obtain ⟨β, hb⟩ := hsat
  have hu1 : S₁.used i = false := by rw [(hm i (.inr (by simp [hasKey, Nat.beq_refl]))).2]; exact hu
  obtain ⟨v, nv, w', hr, hbel, hfr, hO⟩ := h β w (okS C S₁ β w) a.eval hb.below.size (fun b hb' => hb'.2.1) (fun x hx => by rw [← agree_eval hs hx]; exact hb.eval x) (fun _ => rfl)
  have hids1 : ∀ j ∈ ob.ids, S₁.used j = true := by
    intro j hj
    obtain ⟨x, hx, hjx⟩ := hids j hj
    rw [← agree_eval hs hx] at hjx
    cases x with
    | tmp t => exact hb.wfs t j hjx
    | _ => simp [evalS, AV.ids] at hjx
  obtain ⟨β', e1, e2, e3, e4, hsb⟩ := hb.new i hu1 ob nv hbel hfr hids1 (fun ok' β' h1 h2 h3 h4 => (hO ok' β' h1 h2 h3 (fun j hj => h4 j (hids1 j hj))).1)
  refine Oper.wp_value hr ?_
  rw [ap_modS]
  refine ⟨β', hsb.put o.dst v val (fun _ _ _ => (hO _ β' e2 e3 e1 (fun j hj => e4 j (hids1 j hj))).2) (fun x hx => .inl ?_) (fun j hj => ?_)⟩
  · rw [hx] at hd; simpa [dOk] using hd
  · rw [modS_one.2, hval j hj]; simp

theorem zeroB_spec {P : Program} {t : Nat} {zs : List Value} (h : zeroB P t = some zs) : ∃ i z, P.info? t = some i ∧ i.zero = some z ∧ z.cells.toList = zs := by
  unfold zeroB at h
  cases hi : P.info? t with
  | none => rw [hi] at h; cases h
  | some i =>
    rw [hi] at h
    cases hz : i.zero with
    | none => simp [hz] at h
    | some z => simp [hz] at h; exact ⟨i, z, rfl, hz, h⟩
/-- A variable in memory, zero. -/
theorem step_alloc {E d : Nat} {zs : List Value} (ho : o.op = .alloc E) (hdst : o.dst = some d) (hz : zeroB C.P E = some zs) (h1 : zs.all Value.oneCell' = true) (hu : S.used d = false) (hd : dOk C.n o.dst = true) :
    Step C ops o S ⟨.p d 0, [(d, some (.box E (zs.map fun z => AV.t (.v z))))], []⟩ := by
  obtain ⟨i, z, hi, hzz, rfl⟩ := zeroB_spec hz
  have hidn : ∀ j, j ∈ AV.idsL (z.cells.toList.map fun z => AV.t (.v z)) → False := by
    intro j hj
    obtain ⟨x, hx, hjx⟩ := AV.of_mem_idsL hj
    obtain ⟨y, _, rfl⟩ := List.mem_map.1 hx
    simp [AV.ids] at hjx
  refine Step.new hd hu (fun j hj => (hidn j hj).elim) (by simp [AV.ids]) fun β w ok ρ hsz hokl hρ _ => ?_
  refine ⟨.pointer (some ⟨w.heap.size, 0, none⟩), .pointer (some ⟨w.heap.size, 0, none⟩), w.alloc (.cells z.cells E), ?_, below_alloc' _ _, ?_, ?_⟩
  · simp [execOp, ho, Instr.alloc, zeroValue, typeInfo, hi, hzz, newVar, newRow, newObj, Sem.run]
  · intro b hb; simp [blk] at hb; omega
  · intro ok' β' h1' h2' h3' h4'
    refine ⟨⟨w.heap.size, z.cells, h3', hsz, heap_alloc_at _ _, by simp, fun k k1 k2 => ⟨?_, ?_⟩⟩, .p h3'⟩
    · simp only [List.getElem_map, Array.getElem_toList]; exact .t (.v _)
    · rw [List.all_eq_true] at h1; exact h1 _ (by simp)
/-- The cells of an abstract value. -/
def avCells : AV → Option (List AV)
  | .t x => some (x.cells.map AV.t)
  | .agg l => some l
  | .h i => some [.h i]
  | .p i q => some [.p i q]
  | .e i q => some [.e i q]
  | .s i z q n c => some [.s i z q n c]
  | _ => none
def AV.one : AV → Bool
  | .t x => x.one
  | .h _ | .p _ _ | .e _ _ | .s _ _ _ _ _ => true
  | _ => false
theorem VRel.one {w : World} {ok : Nat → Prop} {β : Nat → Value} {v : Value} {x : AV} (h : VRel w ok β v x) (hx : x.one = true) (hβ : ∀ i, x = .h i → (β i).oneCell' = true) : v.oneCell' = true := by
  cases h with
  | t h => exact h.one hx
  | h i => exact hβ i rfl
  | p h => rfl
  | e h => rfl
  | s h _ _ _ => rfl
  | _ => cases hx
theorem cells_of_one {v : Value} (h : v.oneCell' = true) : v.cells = #[v] := by cases v <;> first | rfl | cases h
def OneR (β : Nat → Value) : AV → Prop
  | .t y => y.one = true ∨ ∃ q, y = .agg q
  | .h i => (β i).oneCell' = true
  | _ => True
/-- A value's cells, related one by one. -/
theorem VRel.cells {w : World} {ok : Nat → Prop} {β : Nat → Value} {v : Value} {x : AV} {l : List AV} (h : VRel w ok β v x) (hl : avCells x = some l) (hone : OneR β x) :
    v.cells.size = l.length ∧ ∀ k (h1 : k < v.cells.size) (h2 : k < l.length), VRel w ok β v.cells[k] l[k] ∧ v.cells[k].oneCell' = true := by
  have single : ∀ (x : AV), VRel w ok β v x → v.oneCell' = true → v.cells.size = [x].length ∧ ∀ k (h1 : k < v.cells.size) (h2 : k < [x].length), VRel w ok β v.cells[k] [x][k] ∧ v.cells[k].oneCell' = true := by
    intro x hx ho
    have := cells_of_one ho
    refine ⟨by rw [this]; rfl, fun k h1 h2 => ?_⟩
    have hk : k = 0 := by simp at h2; exact h2
    subst hk
    have e : v.cells[0] = v := by simp [this]
    rw [e]; exact ⟨hx, ho⟩
  cases h with
  | junk v => cases hl
  | ub b => cases hl
  | t h =>
    rename_i y
    simp only [avCells, Option.some.injEq] at hl
    subst hl
    cases y with
    | agg ts =>
      obtain ⟨vs, rfl, hs, h, h1⟩ := h.aggD
      refine ⟨by simpa [Value.cells, T.cells] using hs, fun k k1 k2 => ?_⟩
      simp only [T.cells, List.length_map] at k2
      simp only [T.cells, List.getElem_map]
      exact ⟨.t (h k k1 k2), h1 k k1⟩
    | v x => exact single (.t (.v x)) (.t h) (h.one (by rcases hone with h | ⟨q, h⟩; exact h; cases h))
    | slice sz l => exact single _ (.t h) (h.one rfl)
    | clip sz l => exact single _ (.t h) (h.one rfl)
    | ptr l => exact single _ (.t h) (h.one rfl)
    | clo g l => exact single _ (.t h) (h.one rfl)
    | tup l => rcases hone with h | ⟨q, h⟩ <;> cases h
  | h i => injection hl with hl; subst hl; exact single _ (.h i) hone
  | p hp => injection hl with hl; subst hl; exact single _ (.p hp) rfl
  | e he => injection hl with hl; subst hl; exact single _ (.e he) rfl
  | s he hc hn ho => injection hl with hl; subst hl; exact single _ (.s he hc hn ho) rfl
  | agg hs h1 h =>
    injection hl with hl; subst hl
    exact ⟨hs, fun k k1 k2 => ⟨h k k1 k2, h1 k k1⟩⟩
  | tup => cases hl
def oneOk : AV → Bool
  | .t (.agg _) => true
  | .t y => y.one
  | .h _ => false
  | _ => true
theorem oneOk_spec {x : AV} {β : Nat → Value} (h : oneOk x = true) : OneR β x := by
  cases x with
  | t y => cases y <;> first | exact .inr ⟨_, rfl⟩ | exact .inl h
  | h i => cases h
  | _ => trivial
/-- A variable in memory with a value. -/
theorem step_box {E d : Nat} {x : Operand} {av : AV} {l : List AV} (ho : o.op = .box E x) (hdst : o.dst = some d) (hx : evalS S x = av) (hone : oneOk av = true) (hl : avCells av = some l) (hu : S.used d = false) (hd : dOk C.n o.dst = true) :
    Step C ops o S ⟨.p d 0, [(d, some (.box E l))], []⟩ := by
  subst hx
  have hm : x ∈ o.op.operands := by simp [ho, Op.operands]
  have hsub : ∀ j ∈ AV.idsL l, j ∈ (evalS S x).ids := by
    intro j hj
    generalize evalS S x = q at hl hone ⊢
    cases q with
    | junk => cases hl
    | ub => cases hl
    | t y => injection hl with hl; subst hl; obtain ⟨z, hz, hjz⟩ := AV.of_mem_idsL hj; obtain ⟨u, _, rfl⟩ := List.mem_map.1 hz; simp [AV.ids] at hjz
    | h i => cases hone
    | p i q => injection hl with hl; subst hl; simpa [AV.idsL, AV.ids] using hj
    | e i q => injection hl with hl; subst hl; simpa [AV.idsL, AV.ids] using hj
    | s i z q n c => injection hl with hl; subst hl; simpa [AV.idsL, AV.ids] using hj
    | agg l' => injection hl with hl; subst hl; exact hj
    | tup l' => cases hl
  refine Step.new hd hu (fun j hj => ⟨x, hm, hsub j hj⟩) (by simp [AV.ids]) fun β w ok ρ hsz hokl hρ _ => ?_
  refine ⟨.pointer (some ⟨w.heap.size, 0, none⟩), .pointer (some ⟨w.heap.size, 0, none⟩), w.alloc (.cells (ρ x).cells E), ?_, below_alloc' _ _, ?_, ?_⟩
  · simp [execOp, ho, Instr.box, newVar, newRow, newObj, Sem.run]
  · intro b hb; simp [blk] at hb; omega
  · intro ok' β' h1' h2' h3' h4'
    obtain ⟨c1, c2⟩ := (hρ x hm).cells hl (oneOk_spec hone)
    refine ⟨⟨w.heap.size, (ρ x).cells, h3', hsz, heap_alloc_at _ _, c1, fun k k1 k2 => ⟨?_, (c2 k k1 k2).2⟩⟩, .p h3'⟩
    exact (c2 k k1 k2).1.mono (fun b hb => (below_alloc' w _).block b (hokl b hb)) h1' (fun j hj => h4' j (AV.mem_idsL (List.getElem_mem k2) hj))

end Go.Proofs.Ytgblfhobiibeaaa.Abs

/- Abstract symbolic execution, part 8: loads, stores, struct literals, calls by contract. No condition. -/
set_option linter.unusedVariables false
set_option linter.unusedSimpArgs false
namespace Go.Proofs.Ytgblfhobiibeaaa.Abs
open Go.RowKit
variable {C : Ctx} {ops : Array Oper} {o : Oper} {S : AState}

/-! ### Loads -/
theorem Step.read {val : AV} {i : Nat} {ob : AObj} (hm : S.mem i = some ob) (hd : dOk C.n o.dst = true)
    (hids : ∀ j ∈ val.ids, j ∈ ob.ids ∨ ∃ x ∈ o.op.operands, j ∈ (evalS S x).ids)
    (h : ∀ (β : Nat → Value) (w : World) (ok : Nat → Prop) (ρ : Operand → Value), ORel C ok β w i ob → (∀ x ∈ o.op.operands, VRel w ok β (ρ x) (evalS S x)) → (∀ v, ρ (.const v) = v) →
      ∃ v, (execOp ρ o).run C.P w = .ok (.value v) w ∧ VRel w ok β v val) : Step C ops o S ⟨val, [], [i]⟩ := by
  intro S₁ hs hm1 a w hsat
  obtain ⟨β, hb⟩ := hsat
  have hmi : S₁.mem i = some ob := (hm1 i (.inl (by simp))).1.trans hm
  obtain ⟨v, hr, hv⟩ := h β w (okS C S₁ β w) a.eval (hb.mem i ob hmi) (fun x hx => by rw [← agree_eval hs hx]; exact hb.eval x) (fun _ => rfl)
  refine Oper.wp_value hr ?_
  rw [ap_pure]
  refine ⟨β, hb.put o.dst v val (fun _ _ _ => hv) (fun x hx => .inl ?_) (fun j hj => ?_)⟩
  · rw [hx] at hd; simpa [dOk] using hd
  · rcases hids j hj with hj | ⟨x, hx, hjx⟩
    · exact (hb.wfm i ob hmi).2 j hj
    · rw [← agree_eval hs hx] at hjx
      cases x with
      | tmp t => exact hb.wfs t j hjx
      | _ => simp [evalS, AV.ids] at hjx

theorem run_load_cell {P : Program} {w : World} {a : Addr} {v : Value} (h : w.cell? a = some v) : (load a).run P w = .ok v w := by simp [load, Sem.run, h]
theorem run_loadCellsFrom {P : Program} {w : World} {a : Addr} (f : Nat → Value) : ∀ (n i : Nat) (acc : Array Value), (∀ k, k < n → w.cell? (a.add (i + k)) = some (f (i + k))) →
    (loadCellsFrom a i n acc).run P w = .ok (acc ++ ((List.range' i n).map f).toArray) w
  | 0, i, acc, _ => by simp [loadCellsFrom]
  | n + 1, i, acc, h => by
    have h0 := h 0 (by omega)
    simp only [Nat.add_zero] at h0
    simp only [loadCellsFrom, Sem.run_bind, run_load_cell h0, Result.andThen_ok]
    rw [run_loadCellsFrom f n (i + 1) _ (fun k hk => by have := h (k + 1) (by omega); rw [show i + 1 + k = i + (k + 1) from by omega]; exact this)]
    simp [List.range'_succ]
theorem run_loadCells {P : Program} {w : World} {a : Addr} (f : Nat → Value) {n : Nat} (h : ∀ k, k < n → w.cell? (a.add k) = some (f k)) :
    (loadCells a n).run P w = .ok ((List.range n).map f).toArray w := by
  unfold loadCells
  rw [run_loadCellsFrom f n 0 #[] (fun k hk => by simpa using h k hk)]
  simp [List.range_eq_range']
theorem run_loadVar1 {P : Program} {w : World} {t : TypeId} {a : Addr} {v : Value} (ht : tyB P t = some (false, 1)) (h : w.cell? a = some v) : (loadVar t a).run P w = .ok v w := by
  simp only [loadVar, Sem.run_bind, run_isAgg ht, Result.andThen_ok, Bool.false_eq_true, if_false, run_load_cell h]
theorem run_loadVarN {P : Program} {w : World} {t : TypeId} {a : Addr} {n : Nat} (f : Nat → Value) (ht : tyB P t = some (true, n)) (h : ∀ k, k < n → w.cell? (a.add k) = some (f k)) :
    (loadVar t a).run P w = .ok (.agg ((List.range n).map f).toArray) w := by
  simp [loadVar, run_isAgg ht, run_sizeOf' ht, run_loadCells f h]
theorem cell_of_block {w : World} {b q : Nat} {arr : Array Value} {E : TypeId} {fr : Nat × Nat} (h : w.heap[b]? = some (.cells arr E fr)) : w.cell? ⟨b, q, none⟩ = arr[q]? := by
  simp [World.cell?, h]

theorem step_loadP1 {t : TypeId} {x : Operand} {i q : Nat} {E : TypeId} {cells : List AV} {av : AV} (ho : o.op = .load t x) (hx : evalS S x = .p i q) (hm : S.mem i = some (.box E cells))
    (ht : tyB C.P t = some (false, 1)) (hv : cells[q]? = some av) (hd : dOk C.n o.dst = true) : Step C ops o S ⟨av, [], [i]⟩ := by
  have hmx : x ∈ o.op.operands := by simp [ho, Op.operands]
  refine Step.read hm hd (fun j hj => .inl (AV.mem_idsL (List.mem_of_getElem? hv) hj)) fun β w ok ρ hO hρ _ => ?_
  obtain ⟨b, arr, h1, h2, h3, h4, h5⟩ := hO
  have h := hρ x hmx
  rw [hx] at h
  obtain ⟨b', hb', hq⟩ := h.pD
  rw [h1] at hb'; injection hb' with hb'; injection hb' with hb'; injection hb' with hb'; subst hb'
  obtain ⟨hlt, rfl⟩ := List.getElem?_eq_some_iff.1 hv
  have hc : w.cell? ⟨b, q, none⟩ = some (arr[q]'(by omega)) := by rw [cell_of_block h3]; exact Array.getElem?_eq_getElem _
  exact ⟨_, by simp [execOp, ho, hq, Instr.loadAt, Instr.sureAddr, run_loadVar1 ht hc], (h5 q (by omega) hlt).1⟩
theorem loadP_core {β : Nat → Value} {w : World} {ok : Nat → Prop} {i q n : Nat} {E : TypeId} {cells l : List AV} (hO : ORel C ok β w i (.box E cells)) (hs : sub cells q n = some l) {v : Value} (hv : VRel w ok β v (.p i q))
    {t : TypeId} (ht : tyB C.P t = some (true, n)) : ∃ b vs, v = .pointer (some ⟨b, q, none⟩) ∧ (loadVar t ⟨b, q, none⟩).run C.P w = .ok (.agg vs) w ∧ vs.size = l.length ∧
      ∀ k (h1 : k < vs.size) (h2 : k < l.length), VRel w ok β vs[k] l[k] ∧ vs[k].oneCell' = true := by
  obtain ⟨b, arr, h1, h2, h3, h4, h5⟩ := hO
  obtain ⟨b', hb', hq⟩ := hv.pD
  rw [h1] at hb'; injection hb' with hb'; injection hb' with hb'; injection hb' with hb'; subst hb'
  obtain ⟨hl, hs⟩ := sub_spec hs
  have hin : ∀ k, k < n → q + k < cells.length := fun k hk => by
    have := hs k hk
    rw [List.getElem?_eq_getElem (by omega : k < l.length)] at this
    exact (List.getElem?_eq_some_iff.1 this).1
  refine ⟨b, ((List.range n).map fun k => arr.getD (q + k) undef).toArray, hq, run_loadVarN _ ht (fun k hk => ?_), by simp [hl], fun k k1 k2 => ?_⟩
  · have := hin k hk
    rw [add_plain', cell_of_block h3]
    simp [Array.getD, show q + k < arr.size from by omega]
  · have hk : k < n := by omega
    have := hin k hk
    have e := hs k hk
    rw [List.getElem?_eq_getElem k2, List.getElem?_eq_getElem this] at e
    injection e with e
    have := h5 (q + k) (by omega) this
    rw [e] at this
    simpa [Array.getD, show q + k < arr.size from by omega] using this
theorem step_loadPN {t : TypeId} {x : Operand} {i q n : Nat} {E : TypeId} {cells l : List AV} {ts : List T} (ho : o.op = .load t x) (hx : evalS S x = .p i q) (hm : S.mem i = some (.box E cells))
    (ht : tyB C.P t = some (true, n)) (hs : sub cells q n = some l) (hv : trees l = some ts) (hd : dOk C.n o.dst = true) : Step C ops o S ⟨.t (.agg ts), [], [i]⟩ := by
  have hmx : x ∈ o.op.operands := by simp [ho, Op.operands]
  refine Step.read hm hd (by simp [AV.ids]) fun β w ok ρ hO hρ _ => ?_
  have h := hρ x hmx
  rw [hx] at h
  obtain ⟨b, vs, hq, hr, h1, h2⟩ := loadP_core hO hs h ht
  have := trees_spec hv; subst this
  refine ⟨.agg vs, by simp [execOp, ho, hq, Instr.loadAt, Instr.sureAddr, hr], .t (.agg (by simpa using h1) (fun k hk => (h2 k hk (by omega)).2) fun k k1 k2 => ?_)⟩
  have := (h2 k k1 (by simpa using k2)).1
  simp only [List.getElem_map] at this
  exact this.tD
theorem mem_of_sub {α : Type} {l r : List α} {off n : Nat} (h : sub l off n = some r) {x : α} (hx : x ∈ r) : x ∈ l := by
  obtain ⟨h1, h2⟩ := sub_spec h
  obtain ⟨k, hk, rfl⟩ := List.getElem_of_mem hx
  have := h2 k (by omega)
  rw [List.getElem?_eq_getElem hk] at this
  exact List.mem_of_getElem? this
theorem step_loadPA {t : TypeId} {x : Operand} {i q n : Nat} {E : TypeId} {cells l : List AV} (ho : o.op = .load t x) (hx : evalS S x = .p i q) (hm : S.mem i = some (.box E cells))
    (ht : tyB C.P t = some (true, n)) (hs : sub cells q n = some l) (hd : dOk C.n o.dst = true) : Step C ops o S ⟨.agg l, [], [i]⟩ := by
  have hmx : x ∈ o.op.operands := by simp [ho, Op.operands]
  refine Step.read hm hd (fun j hj => .inl ?_) fun β w ok ρ hO hρ _ => ?_
  · obtain ⟨y, hy, hjy⟩ := AV.of_mem_idsL hj
    exact AV.mem_idsL (mem_of_sub hs hy) hjy
  have h := hρ x hmx
  rw [hx] at h
  obtain ⟨b, vs, hq, hr, h1, h2⟩ := loadP_core hO hs h ht
  exact ⟨.agg vs, by simp [execOp, ho, hq, Instr.loadAt, Instr.sureAddr, hr], .agg h1 (fun k hk => (h2 k hk (by omega)).2) fun k k1 k2 => (h2 k k1 k2).1⟩
/-- Loads from memory that nobody writes. -/
theorem step_loadT1 {t : TypeId} {x : Operand} {l : List T} {v : T} (ho : o.op = .load t x) (hx : evalS S x = .t (.ptr l)) (ht : tyB C.P t = some (false, 1)) (hv : l[0]? = some v) (hd : dOk C.n o.dst = true) :
    Step C ops o S ⟨.t v, [], []⟩ := by
  have hmx : x ∈ o.op.operands := by simp [ho, Op.operands]
  refine Step.pure hd (by simp [AV.ids]) fun β w ok ρ hρ _ _ => ?_
  have h := hρ x hmx
  rw [hx] at h
  have h := h.tD
  obtain ⟨a, hq⟩ := h.ptrD
  rw [hq] at h
  cases h with
  | ptr f hok ha h =>
    obtain ⟨h0, rfl⟩ := List.getElem?_eq_some_iff.1 hv
    have hc := (ha 0 h0).1
    have he : a.add 0 = a := by simp [Addr.add]
    rw [he] at hc
    exact ⟨_, by simp [execOp, ho, hq, Instr.loadAt, Instr.sureAddr, run_loadVar1 ht hc], .t (h 0 h0)⟩
theorem step_loadTN {t : TypeId} {x : Operand} {l r : List T} {n : Nat} (ho : o.op = .load t x) (hx : evalS S x = .t (.ptr l)) (ht : tyB C.P t = some (true, n)) (hs : sub l 0 n = some r) (hd : dOk C.n o.dst = true) :
    Step C ops o S ⟨.t (.agg r), [], []⟩ := by
  have hmx : x ∈ o.op.operands := by simp [ho, Op.operands]
  refine Step.pure hd (by simp [AV.ids]) fun β w ok ρ hρ _ _ => ?_
  have h := hρ x hmx
  rw [hx] at h
  have h := h.tD
  obtain ⟨a, hq⟩ := h.ptrD
  rw [hq] at h
  obtain ⟨hl, hs⟩ := sub_spec hs
  cases h with
  | ptr f hok ha h =>
    have hin : ∀ k, k < n → k < l.length := fun k hk => by
      have := hs k hk
      rw [List.getElem?_eq_getElem (by omega : k < r.length)] at this
      have := (List.getElem?_eq_some_iff.1 this).1
      omega
    refine ⟨.agg ((List.range n).map f).toArray, by simp [execOp, ho, hq, Instr.loadAt, Instr.sureAddr, run_loadVarN f ht (fun k hk => (ha k (hin k hk)).1)], .t (.agg (by simp [hl]) (fun k hk => ?_) fun k k1 k2 => ?_)⟩
    · have hk' : k < n := by simpa using hk
      simpa using (ha k (hin k hk')).2
    · have hk' : k < n := by simpa using k1
      have e := hs k hk'
      rw [List.getElem?_eq_getElem k2, Nat.zero_add, List.getElem?_eq_getElem (hin k hk')] at e
      injection e with e
      have := h k (hin k hk')
      rw [e] at this
      simpa using this

/-! ### Stores into variables -/
def setE {α : Type} : List α → Nat → α → Option (List α)
  | [], _, _ => none
  | _ :: ys, 0, x => some (x :: ys)
  | y :: ys, n + 1, x => match setE ys n x with
    | some r => some (y :: r)
    | none => none
def setSub {α : Type} (l : List α) (off : Nat) : List α → Option (List α)
  | [] => some l
  | x :: xs => match setE l off x with
    | some l' => setSub l' (off + 1) xs
    | none => none
theorem setE_spec {α : Type} : ∀ {l : List α} {n : Nat} {x : α} {r : List α}, setE l n x = some r → n < l.length ∧ r = l.set n x
  | [], n, x, r, h => by cases n <;> simp [setE] at h
  | y :: ys, 0, x, r, h => by simp [setE] at h; subst h; simp
  | y :: ys, n + 1, x, r, h => by
    simp only [setE] at h
    split at h
    · rename_i r' hr
      injection h with h; subst h
      obtain ⟨h1, rfl⟩ := setE_spec hr
      exact ⟨by simp; omega, rfl⟩
    · cases h
/-- An array related to a list of abstract cells. -/
def ARel (w : World) (ok : Nat → Prop) (β : Nat → Value) (arr : Array Value) (l : List AV) : Prop :=
  arr.size = l.length ∧ ∀ k (h1 : k < arr.size) (h2 : k < l.length), VRel w ok β arr[k] l[k] ∧ arr[k].oneCell' = true
theorem ARel.set {w : World} {ok : Nat → Prop} {β : Nat → Value} {arr : Array Value} {l : List AV} (h : ARel w ok β arr l) {q : Nat} {v : Value} {x : AV} (hv : VRel w ok β v x) (ho : v.oneCell' = true) :
    ARel w ok β (arr.setIfInBounds q v) (l.set q x) := by
  refine ⟨by simp [h.1], fun k h1 h2 => ?_⟩
  by_cases hk : q = k
  · subst hk; simp; exact ⟨hv, ho⟩
  · have := h.2 k (by simpa using h1) (by simpa using h2)
    rw [Array.getElem_setIfInBounds_ne (by simpa using h1) hk, List.getElem_set_ne hk]
    exact this

def setArr (arr : Array Value) (q : Nat) : List Value → Array Value
  | [] => arr
  | v :: r => setArr (arr.setIfInBounds q v) (q + 1) r
theorem setArr_size (vs : List Value) : ∀ (arr : Array Value) (q : Nat), (setArr arr q vs).size = arr.size := by
  induction vs with
  | nil => intro arr q; rfl
  | cons v r ih => intro arr q; simp [setArr, ih]
theorem ARel.setSub {w : World} {ok : Nat → Prop} {β : Nat → Value} : ∀ {vs : List Value} {xs : List AV} {arr : Array Value} {l l' : List AV} {q : Nat}, ARel w ok β arr l → vs.length = xs.length →
    (∀ k (h1 : k < vs.length) (h2 : k < xs.length), VRel w ok β vs[k] xs[k] ∧ vs[k].oneCell' = true) → Abs.setSub l q xs = some l' → ARel w ok β (setArr arr q vs) l' ∧ (vs = [] ∨ q + vs.length ≤ arr.size)
  | [], [], arr, l, l', q, h, _, _, hs => by injection hs with hs; subst hs; exact ⟨h, .inl rfl⟩
  | v :: vs, x :: xs, arr, l, l', q, h, hl, hv, hs => by
    simp only [Abs.setSub] at hs
    split at hs
    · rename_i l1 h1
      obtain ⟨hlt, rfl⟩ := setE_spec h1
      have h0 := hv 0 (by simp) (by simp)
      have := ARel.setSub (q := q + 1) (h.set (q := q) h0.1 h0.2) (by simpa using hl) (fun k k1 k2 => by have := hv (k + 1) (by simpa using k1) (by simpa using k2); simpa using this) hs
      refine ⟨this.1, .inr ?_⟩
      rcases this.2 with h2 | h2
      · subst h2; have := h.1; simp; omega
      · simp at h2 ⊢; omega
    · cases hs
  | [], _ :: _, _, _, _, _, _, hl, _, _ => by cases hl
  | _ :: _, [], _, _, _, _, _, hl, _, _ => by cases hl

def setBlk (w : World) (b : Nat) (arr : Array Value) (E : TypeId) : World := { w with heap := w.heap.setIfInBounds b (.cells arr E (0, 0)) }
theorem setCell_setBlk {w : World} {b q : Nat} {arr : Array Value} {E : TypeId} {v : Value} (h : w.heap[b]? = some (.cells arr E (0, 0))) :
    w.setCell ⟨b, q, none⟩ v = setBlk w b (arr.setIfInBounds q v) E := by
  unfold World.setCell setBlk
  congr 1
  apply Array.ext_getElem?
  intro k
  rw [Array.getElem?_modify]
  by_cases hk : b = k
  · subst hk
    obtain ⟨hlt, he⟩ := Array.getElem?_eq_some_iff.1 h
    simp [he, hlt]
  · simp [hk, Array.getElem?_setIfInBounds_ne]
theorem setBlk_setBlk {w : World} {b : Nat} {arr arr' : Array Value} {E : TypeId} : setBlk (setBlk w b arr E) b arr' E = setBlk w b arr' E := by
  unfold setBlk; congr 1; apply Array.ext_getElem?; intro k
  by_cases hk : b = k
  · subst hk; by_cases h : b < w.heap.size <;> simp [h]
  · simp [hk, Array.getElem?_setIfInBounds_ne]
theorem setBlk_at {w : World} {b : Nat} {arr arr' : Array Value} {E : TypeId} {fr : Nat × Nat} (h : w.heap[b]? = some (.cells arr E fr)) : (setBlk w b arr' E).heap[b]? = some (.cells arr' E (0, 0)) := by
  have hlt := (Array.getElem?_eq_some_iff.1 h).1
  simp [setBlk, hlt]
theorem setBlk_other {w : World} {b k : Nat} {arr' : Array Value} {E : TypeId} (h : k ≠ b) : (setBlk w b arr' E).heap[k]? = w.heap[k]? := by
  simp [setBlk, Array.getElem?_setIfInBounds_ne (Ne.symm h)]
theorem setBlk_self {w : World} {b : Nat} {arr : Array Value} {E : TypeId} (h : w.heap[b]? = some (.cells arr E (0, 0))) : setBlk w b arr E = w := by
  unfold setBlk
  have : w.heap.setIfInBounds b (.cells arr E (0, 0)) = w.heap := by
    apply Array.ext_getElem?; intro k
    by_cases hk : b = k
    · subst hk; have hlt := (Array.getElem?_eq_some_iff.1 h).1; simp [hlt] at h ⊢; exact h.symm
    · simp [hk, Array.getElem?_setIfInBounds_ne]
  rw [this]
theorem run_storeCells_blk {P : Program} {E : TypeId} {b : Nat} : ∀ (vs : List Value) (w : World) (arr : Array Value) (q i : Nat), w.heap[b]? = some (.cells arr E (0, 0)) → (vs = [] ∨ q + i + vs.length ≤ arr.size) →
    (∀ v ∈ vs, v.oneCell' = true) → (storeCells ⟨b, q, none⟩ vs i).run P w = .ok () (setBlk w b (setArr arr (q + i) vs) E)
  | [], w, arr, q, i, h, _, _ => by simp [storeCells, setArr, setBlk_self h]
  | v :: r, w, arr, q, i, h, hle, h1 => by
    have hle' : q + i + (r.length + 1) ≤ arr.size := by rcases hle with h' | h'; cases h'; simpa using h'
    have hc : w.cell? ⟨b, q + i, none⟩ = some (arr[q + i]'(by omega)) := by rw [cell_of_block h]; exact Array.getElem?_eq_getElem _
    have hf : w.frozen? ⟨b, q + i, none⟩ = false := by simp [World.frozen?, h]
    have hr := run_storeCells_blk (P := P) (E := E) (b := b) r (setBlk w b (arr.setIfInBounds (q + i) v) E) (arr.setIfInBounds (q + i) v) q (i + 1) (setBlk_at h) (by right; simp; omega) (fun u hu => h1 u (by simp [hu]))
    simp only [storeCells, add_plain', Sem.run_bind, run_store P w _ v .plain (h1 v (by simp)), hc, hf, Bool.false_eq_true, if_false, Result.andThen_ok, setCell_setBlk h, hr, setBlk_setBlk, setArr]
    rw [show q + i + 1 = q + (i + 1) from by omega]

theorem Oper.wp_skip {P : Program} {o : Oper} {a : Act} {w w' : World} {K : Act → World → Prop} {Q : Exit → Act → World → Prop}
    (hr : (execOp a.eval o).run P w = .ok .skip w') (hK : K (a.put o.dst undef) w') : o.wp P a w K Q := by
  unfold Oper.wp; rw [hr]; exact hK

/-- An object is changed in place, its value the same. -/
theorem SatB.inplace {β : Nat → Value} {a : Act} {w w' : World} (h : SatB C β S a w) (i : Nat) (ob ob' : AObj) (hm : S.mem i = some ob) (hbox : ∀ E cells, ob = .box E cells → ∃ E' cells', ob' = .box E' cells') (hbel : Below C.w0.heap.size C.w0 w')
    (hsz : w'.heap.size = w.heap.size) (hheap : ∀ b, blk (β i) ≠ some b → w'.heap[b]? = w.heap[b]?) (hids : ∀ j ∈ ob'.ids, S.used j = true)
    (hO : ∀ ok', (∀ b, okS C S β w b → ok' b ∧ blk (β i) ≠ some b) → ORel C ok' β w' i ob') : SatB C β (modS [(i, some ob')] S) a w' := by
  have hm' : ∀ j, (modS [(i, some ob')] S).mem j = (if j = i then some ob' else S.mem j) := fun j => modS_one.1
  have hus : ∀ j, (modS [(i, some ob')] S).used j = (S.used j || decide (j = i)) := fun j => modS_one.2
  have howned : ∀ b, owned (modS [(i, some ob')] S) β b ↔ owned S β b := by
    intro b
    constructor
    · rintro ⟨j, q, hj, hbl⟩
      rw [hm'] at hj
      split at hj
      · rename_i e; subst e; exact ⟨j, ob, hm, hbl⟩
      · exact ⟨j, q, hj, hbl⟩
    · rintro ⟨j, q, hj, hbl⟩
      by_cases e : j = i
      · subst e; exact ⟨j, ob', by rw [hm']; simp, hbl⟩
      · exact ⟨j, q, by rw [hm']; simp [e, hj], hbl⟩
  have hnb : ∀ b, okS C S β w b → blk (β i) ≠ some b := fun b hb he => hb.2.2 ⟨i, ob, hm, he⟩
  have hh : ∀ b, okS C S β w b → w'.heap[b]? = w.heap[b]? := fun b hb => hheap b (hnb b hb)
  have hok : ∀ b, okS C S β w b → okS C (modS [(i, some ob')] S) β w' b := fun b hb => ⟨hb.1, by rw [hsz]; exact hb.2.1, fun ho => hb.2.2 ((howned b).1 ho)⟩
  refine h.change hbel hh hok (fun _ _ => rfl) rfl (fun j hj => by rw [hus, hj]; rfl) (fun j q hj => ?_) (fun j k q q' hj hk hne b hbj hbk => ?_) (fun j q hj => ?_)
    (fun b x hx => ⟨(hheap b fun he => (h.keep b x hx).2 ⟨i, ob, hm, he⟩).trans (h.keep b x hx).1, fun ho => (h.keep b x hx).2 ((howned b).1 ho)⟩)
    (fun p hp => by
      obtain ⟨g1, E, cells, g2⟩ := h.anc p hp
      refine ⟨g1, ?_⟩
      rw [hm']
      split
      · rename_i e; rw [e, hm] at g2; injection g2 with g2; obtain ⟨E', c', g3⟩ := hbox _ _ g2; exact ⟨E', c', by rw [g3]⟩
      · exact ⟨E, cells, g2⟩)
  · rw [hm'] at hj
    split at hj
    · rename_i e; subst e; injection hj with hj; subst hj
      exact hO _ fun b hb => ⟨hok b hb, hnb b hb⟩
    · rename_i hne
      exact (h.mem j q hj).mono (fun b hbl => hheap b fun he => h.apart j i q ob hj hm hne b hbl he) hh hok rfl (fun _ _ => rfl)
  · have hj' : ∃ q, S.mem j = some q := by rw [hm'] at hj; split at hj; · rename_i e; subst e; exact ⟨_, hm⟩
                                           · exact ⟨_, hj⟩
    have hk' : ∃ q, S.mem k = some q := by rw [hm'] at hk; split at hk; · rename_i e; subst e; exact ⟨_, hm⟩
                                           · exact ⟨_, hk⟩
    obtain ⟨q1, hq1⟩ := hj'
    obtain ⟨q2, hq2⟩ := hk'
    exact h.apart j k q1 q2 hq1 hq2 hne b hbj hbk
  · rw [hm'] at hj
    split at hj
    · rename_i e; subst e; injection hj with hj; subst hj
      exact ⟨by rw [hus]; simp, fun x hx => by rw [hus, hids x hx]; rfl⟩
    · obtain ⟨h1, h2⟩ := h.wfm j q hj
      exact ⟨by rw [hus, h1]; rfl, fun x hx => by rw [hus, h2 x hx]; rfl⟩

theorem run_storeVar {P : Program} {w w' : World} {t : TypeId} {a : Addr} {v : Value} {b : Bool} {n : Nat} (ht : tyB P t = some (b, n)) (hn : v.cells.size = n) (hs : (storeCells a v.cells.toList).run P w = .ok () w') :
    (storeVar t a v).run P w = .ok () w' := by
  simp [storeVar, run_sizeOf' ht, hn, hs]

theorem ids_setSub {l : List AV} : ∀ {xs l' : List AV} {q : Nat} {l : List AV}, Abs.setSub l q xs = some l' → ∀ j ∈ AV.idsL l', j ∈ AV.idsL l ∨ j ∈ AV.idsL xs
  | [], l', q, l, h, j, hj => by injection h with h; subst h; exact .inl hj
  | x :: xs, l', q, l, h, j, hj => by
    simp only [Abs.setSub] at h
    split at h
    · rename_i l1 h1
      obtain ⟨hlt, rfl⟩ := setE_spec h1
      rcases ids_setSub (l := l) h j hj with h2 | h2
      · obtain ⟨y, hy, hjy⟩ := AV.of_mem_idsL h2
        rcases List.mem_or_eq_of_mem_set hy with hy | rfl
        · exact .inl (AV.mem_idsL hy hjy)
        · exact .inr (by simp [AV.idsL, hjy])
      · exact .inr (by simp [AV.idsL, h2])
    · cases h
theorem ids_avCells {x : AV} {l : List AV} (h : avCells x = some l) : ∀ j ∈ AV.idsL l, j ∈ x.ids := by
  intro j hj
  cases x with
  | junk => cases h
  | ub => cases h
  | t y => injection h with h; subst h; obtain ⟨z, hz, hjz⟩ := AV.of_mem_idsL hj; obtain ⟨u, _, rfl⟩ := List.mem_map.1 hz; simp [AV.ids] at hjz
  | h i => injection h with h; subst h; simpa [AV.idsL, AV.ids] using hj
  | p i q => injection h with h; subst h; simpa [AV.idsL, AV.ids] using hj
  | e i q => injection h with h; subst h; simpa [AV.idsL, AV.ids] using hj
  | s i z q n c => injection h with h; subst h; simpa [AV.idsL, AV.ids] using hj
  | agg l' => injection h with h; subst h; exact hj
  | tup l' => cases h

def avLook : AV → List Nat
  | .h j => [j]
  | _ => []
/-- A store: 'n' cells from cell q on of a variable in memory. A handle may be stored, too. -/
theorem step_storeP {t : TypeId} {x y : Operand} {i q n : Nat} {bb : Bool} {E : TypeId} {cells l cells' : List AV} {av : AV} (ho : o.op = .store t x y) (hx : evalS S x = .p i q) (hm : S.mem i = some (.box E cells))
    (hy : evalS S y = av) (hl : avCells av = some l) (hone : oneOk av = true ∨ ∃ j E' sz r, av = .h j ∧ S.mem j = some (.row E' sz r)) (ht : tyB C.P t = some (bb, n)) (hn : l.length = n) (hs : setSub cells q l = some cells') (hd : o.dst = none) :
    Step C ops o S ⟨.junk, [(i, some (.box E cells'))], avLook av⟩ := by
  subst hy
  have hmx : x ∈ o.op.operands := by simp [ho, Op.operands]
  have hmy : y ∈ o.op.operands := by simp [ho, Op.operands]
  intro S₁ hsl hmm a w hsat
  obtain ⟨β, hb⟩ := hsat
  have hmi : S₁.mem i = some (.box E cells) := (hmm i (.inr (by simp [hasKey, Nat.beq_refl]))).1.trans hm
  have hvx := hb.eval x
  have hvy := hb.eval y
  rw [agree_eval hsl hmx, hx] at hvx
  rw [agree_eval hsl hmy] at hvy
  obtain ⟨b, h1, h2⟩ := hvx.pD
  have hO := hb.mem i _ hmi
  obtain ⟨b', arr, g1, g2, g3, g4, g5⟩ := hO
  rw [h1] at g1; injection g1 with g1; injection g1 with g1; injection g1 with g1; subst g1
  have honeR : OneR β (evalS S y) := by
    rcases hone with h | ⟨j, E', sz, r, he, hj⟩
    · exact oneOk_spec h
    · rw [he]
      have hj1 : S₁.mem j = some (.row E' sz r) := (hmm j (.inl (by rw [he]; simp [avLook]))).1.trans hj
      obtain ⟨cs, k1, _⟩ := hb.mem j _ hj1
      rcases k1.2 with ⟨k2, _⟩ | ⟨_, _, _, k2, _⟩ <;> simp only [OneR] <;> rw [k2] <;> rfl
  obtain ⟨c1, c2⟩ := hvy.cells hl honeR
  have hA : ARel w (okS C S₁ β w) β arr cells := ⟨g4, g5⟩
  obtain ⟨hA', hle⟩ := hA.setSub (vs := (a.eval y).cells.toList) (by simpa using c1) (fun k k1 k2 => by simpa using c2 k (by simpa using k1) k2) hs
  have hrun := run_storeCells_blk (P := C.P) (E := E) (b := b) (a.eval y).cells.toList w arr q 0 g3 (by simpa using hle) (fun v hv => by
    obtain ⟨k, hk, rfl⟩ := List.getElem_of_mem hv
    have hk' : k < (a.eval y).cells.size := by simpa using hk
    simpa using (c2 k hk' (by omega)).2)
  have hr : (execOp a.eval o).run C.P w = .ok .skip (setBlk w b (setArr arr (q + 0) (a.eval y).cells.toList) E) := by
    simp [execOp, ho, h2, Instr.storeAt, Instr.sureAddr, run_storeVar ht (by omega) hrun]
  refine Oper.wp_skip hr ?_
  rw [ap_modS, hd]
  have hbel : Below C.w0.heap.size C.w0 (setBlk w b (setArr arr (q + 0) (a.eval y).cells.toList) E) :=
    hb.below.trans ⟨rfl, rfl, rfl, by simp [setBlk], fun k hk => setBlk_other (by omega)⟩
  have hfin := hb.inplace i _ (.box E cells') hmi (fun _ _ _ => ⟨_, _, rfl⟩) hbel (by simp [setBlk]) (fun k hk => setBlk_other (fun e => hk (by rw [h1, e]; rfl)))
    (fun j hj => by
      rcases ids_setSub (l := cells) hs j hj with h | h
      · exact (hb.wfm i _ hmi).2 j h
      · have hjy := ids_avCells hl j h
        rw [← agree_eval hsl hmy] at hjy
        cases y with
        | tmp t => exact hb.wfs t j hjy
        | _ => simp [evalS, AV.ids] at hjy)
    (fun ok' hok => ⟨b, _, h1, g2, setBlk_at g3, hA'.1, fun k k1 k2 => ⟨(hA'.2 k k1 k2).1.mono (fun b2 hb2 => setBlk_other (fun e => (hok b2 hb2).2 (by rw [h1, e]; rfl))) (fun b2 hb2 => (hok b2 hb2).1) (fun _ _ => rfl), (hA'.2 k k1 k2).2⟩⟩)
  refine ⟨β, ?_⟩
  have := hfin.put none undef .junk (fun _ h => by cases h) (fun _ h => by cases h) (by simp [AV.ids])
  exact this

end Go.Proofs.Ytgblfhobiibeaaa.Abs
