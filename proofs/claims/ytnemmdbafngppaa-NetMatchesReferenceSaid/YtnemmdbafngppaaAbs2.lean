/- Abstract symbolic execution, part 2: abstract values, objects, states; effects of operations; a region's operations in any order that its edges let. No condition. -/
import Derived.Test.YtnemmdbafngppaaAbs1
set_option linter.unusedVariables false
set_option linter.unusedSimpArgs false
namespace Go.Proofs.Ytnemmdbafngppaa.Abs
open Go.RowKit

/-- Abstract values of slots and of cells of variables in memory. 'ub': a Bool, not known which; 'h': the value of object i; 'p': a pointer into a variable; 'e': a pointer into a row; 's': a slice of a buffer, from its element k on. -/
inductive AV where
  | junk
  | ub
  | t (x : T)
  | h (i : Nat)
  | p (i off : Nat)
  | e (i off : Nat)
  | s (i sz k n c : Nat)
  | agg (l : List AV)
  | tup (l : List AV)
instance : Inhabited AV := ⟨.junk⟩

mutual
def AV.ids : AV → List Nat
  | .junk => []
  | .ub => []
  | .t _ => []
  | .h i => [i]
  | .p i _ => [i]
  | .e i _ => [i]
  | .s i _ _ _ _ => [i]
  | .agg l => AV.idsL l
  | .tup l => AV.idsL l
def AV.idsL : List AV → List Nat
  | [] => []
  | x :: xs => x.ids ++ AV.idsL xs
end
theorem AV.mem_idsL {l : List AV} {x : AV} (h : x ∈ l) {i : Nat} (hi : i ∈ x.ids) : i ∈ AV.idsL l := by
  induction l with
  | nil => cases h
  | cons y ys ih =>
    simp only [AV.idsL, List.mem_append]
    rcases List.mem_cons.1 h with rfl | h
    · exact .inl hi
    · exact .inr (ih h)
theorem AV.of_mem_idsL {l : List AV} {i : Nat} (h : i ∈ AV.idsL l) : ∃ x ∈ l, i ∈ x.ids := by
  induction l with
  | nil => simp [AV.idsL] at h
  | cons y ys ih =>
    simp only [AV.idsL, List.mem_append] at h
    rcases h with h | h
    · exact ⟨y, by simp, h⟩
    · obtain ⟨x, hx, hi⟩ := ih h
      exact ⟨x, by simp [hx], hi⟩

inductive VRel (w : World) (ok : Nat → Prop) (β : Nat → Value) : Value → AV → Prop
  | junk (v : Value) : VRel w ok β v .junk
  | ub (b : Bool) : VRel w ok β (.bool b) .ub
  | t {v : Value} {x : T} (h : Reads w ok v x) : VRel w ok β v (.t x)
  | h (i : Nat) : VRel w ok β (β i) (.h i)
  | p {i b off : Nat} (h : β i = .pointer (some ⟨b, 0, none⟩)) : VRel w ok β (.pointer (some ⟨b, off, none⟩)) (.p i off)
  | e {i b off n c : Nat} (h : β i = .slice (some ⟨b, 0, none⟩) n c) : VRel w ok β (.pointer (some ⟨b, off, none⟩)) (.e i off)
  | s {i b sz k n c cap off : Nat} (h : β i = .slice (some ⟨b, 0, none⟩) 0 cap) (hc : c + k ≤ cap) (hn : n ≤ c) (ho : c ≠ 0 → off = k * sz) : VRel w ok β (.slice (some ⟨b, off, none⟩) n c) (.s i sz k n c)
  | agg {vs : Array Value} {l : List AV} (hl : vs.size = l.length) (h1 : ∀ i (h : i < vs.size), vs[i].oneCell' = true)
      (h : ∀ i (h1 : i < vs.size) (h2 : i < l.length), VRel w ok β vs[i] l[i]) : VRel w ok β (.agg vs) (.agg l)
  | tup {vs : Array Value} {l : List AV} (hl : vs.size = l.length)
      (h : ∀ i (h1 : i < vs.size) (h2 : i < l.length), VRel w ok β vs[i] l[i]) : VRel w ok β (.tuple vs) (.tup l)

theorem VRel.mono {w w' : World} {ok ok' : Nat → Prop} {β β' : Nat → Value} {v : Value} {x : AV} (h : VRel w ok β v x)
    (hw : ∀ b, ok b → w'.heap[b]? = w.heap[b]?) (hk : ∀ b, ok b → ok' b) (hβ : ∀ i ∈ x.ids, β' i = β i) : VRel w' ok' β' v x := by
  induction h with
  | junk v => exact .junk v
  | ub b => exact .ub b
  | t h => exact .t (h.mono hw hk)
  | h i => rw [← hβ i (by simp [AV.ids])]; exact .h i
  | p h => exact .p (by rw [hβ _ (by simp [AV.ids])]; exact h)
  | e h => exact .e (by rw [hβ _ (by simp [AV.ids])]; exact h)
  | s h hc hn ho => exact .s (by rw [hβ _ (by simp [AV.ids])]; exact h) hc hn ho
  | agg hl ho _ ih => exact .agg hl ho fun i h1 h2 => ih i h1 h2 fun j hj => hβ j (by simp only [AV.ids]; exact AV.mem_idsL (List.getElem_mem h2) hj)
  | tup hl _ ih => exact .tup hl fun i h1 h2 => ih i h1 h2 fun j hj => hβ j (by simp only [AV.ids]; exact AV.mem_idsL (List.getElem_mem h2) hj)

/-- Objects that the call owns alone. 'box': a variable in memory; 'row': the array behind a slice that begins at the array's head. 'buf': an array of 'cap' elements, of which the first are known. -/
inductive AObj where
  | box (E : TypeId) (cells : List AV)
  | row (E : TypeId) (sz : Nat) (l : List T)
  | buf (E : TypeId) (sz cap : Nat) (l : List T)
def AObj.ids : AObj → List Nat
  | .box _ cells => AV.idsL cells
  | .row .. => []
  | .buf .. => []

structure AState where
  slot : Nat → AV
  mem : Nat → Option AObj
  used : Nat → Bool

/-- The block that an object's value leads to. -/
def blk : Value → Option Nat
  | .slice (some a) _ _ => some a.block
  | .pointer (some a) => some a.block
  | .map r => r
  | _ => none

structure Ctx where
  P : Program
  w0 : World
  ok0 : Nat → Prop
  n : Nat
  keep : Nat → Option (Obj × Bool)
  anc : List (Nat × Value)

def owned (S : AState) (β : Nat → Value) (b : Nat) : Prop := ∃ i o, S.mem i = some o ∧ blk (β i) = some b
def okS (C : Ctx) (S : AState) (β : Nat → Value) (w : World) (b : Nat) : Prop :=
  ((C.ok0 b ∨ C.w0.heap.size ≤ b) ∧ ∀ x, C.keep b ≠ some (x, true)) ∧ b < w.heap.size ∧ ¬ owned S β b

def ORel (C : Ctx) (ok : Nat → Prop) (β : Nat → Value) (w : World) (i : Nat) : AObj → Prop
  | .box E cells => ∃ b arr, β i = .pointer (some ⟨b, 0, none⟩) ∧ C.w0.heap.size ≤ b ∧ w.heap[b]? = some (.cells arr E (0, 0)) ∧
      arr.size = cells.length ∧ ∀ k (h1 : k < arr.size) (h2 : k < cells.length), VRel w ok β arr[k] cells[k] ∧ arr[k].oneCell' = true
  | .row E sz l => ∃ cells, w.ownsRow C.w0.heap.size E sz (β i) l.length cells ∧ (∀ k (h : k < l.length), l[k].cells.length = sz) ∧
      ∀ k (h : k < l.length) j (hj : j < l[k].cells.length), ∃ v, cells[k * sz + j]? = some v ∧ Reads w ok v l[k].cells[j] ∧ v.oneCell' = true
  | .buf E sz cap l => ∃ g cur, β i = .slice (some ⟨g, 0, none⟩) 0 cap ∧ C.w0.heap.size ≤ g ∧ w.heap[g]? = some (.cells cur E (0, 0)) ∧ cap ≤ maxLen ∧ cur.size = cap * sz ∧ l.length ≤ cap ∧ (∀ k (h : k < l.length), l[k].cells.length = sz) ∧
      ∀ k (h : k < l.length) j (hj : j < l[k].cells.length), ∃ v, cur[k * sz + j]? = some v ∧ Reads w ok v l[k].cells[j] ∧ v.oneCell' = true

structure SatB (C : Ctx) (β : Nat → Value) (S : AState) (a : Act) (w : World) : Prop where
  size : a.tmps.size = C.n
  defers : a.defers = []
  below : Below C.w0.heap.size C.w0 w
  ok0 : ∀ b, C.ok0 b → b < C.w0.heap.size
  slot : ∀ x, VRel w (okS C S β w) β (a.tmps.getD x undef) (S.slot x)
  mem : ∀ i o, S.mem i = some o → ORel C (okS C S β w) β w i o
  apart : ∀ i j o o', S.mem i = some o → S.mem j = some o' → i ≠ j → ∀ b, blk (β i) = some b → blk (β j) ≠ some b
  wfs : ∀ x i, i ∈ (S.slot x).ids → S.used i = true
  wfm : ∀ j o, S.mem j = some o → S.used j = true ∧ ∀ i, i ∈ o.ids → S.used i = true
  keep : ∀ b x, C.keep b = some x → w.heap[b]? = some x.1 ∧ ¬ owned S β b
  anc : ∀ p, p ∈ C.anc → β p.1 = p.2 ∧ ∃ E cells, S.mem p.1 = some (.box E cells)
def Sat (C : Ctx) (S : AState) (a : Act) (w : World) : Prop := ∃ β, SatB C β S a w

/-! ### Effects -/
def assoc (i : Nat) : List (Nat × Option AObj) → Option (Option AObj)
  | [] => none
  | (j, o) :: r => bif Nat.beq i j then some o else assoc i r
def hasKey (i : Nat) : List (Nat × Option AObj) → Bool
  | [] => false
  | (j, _) :: r => bif Nat.beq i j then true else hasKey i r
structure Eff where
  val : AV
  mods : List (Nat × Option AObj)
  looks : List Nat
def Eff.touches (e : Eff) (i : Nat) : Prop := i ∈ e.looks ∨ hasKey i e.mods = true

def putS (d : Option Nat) (v : AV) (s : Nat → AV) : Nat → AV :=
  match d with
  | none => s
  | some d => fun x => bif Nat.beq x d then v else s x
/-- The state behind an operation. -/
def ap (d : Option Nat) (e : Eff) (S : AState) : AState :=
  { slot := putS d e.val S.slot
    mem := fun i => match assoc i e.mods with | some o => o | none => S.mem i
    used := fun i => S.used i || hasKey i e.mods }
/-- Skipped, or done with an effect. -/
def apx (o : Oper) : Option Eff → AState → AState
  | none => fun S => { S with slot := putS o.dst (.t (.v undef)) S.slot }
  | some e => ap o.dst e

def Step (C : Ctx) (ops : Array Oper) (o : Oper) (S : AState) (e : Eff) : Prop :=
  ∀ S₁ : AState, (∀ x ∈ o.looksAt ops, S₁.slot x = S.slot x) → (∀ i, e.touches i → S₁.mem i = S.mem i ∧ S₁.used i = S.used i) →
    ∀ a w, Sat C S₁ a w → o.wp C.P a w (Sat C (ap o.dst e S₁)) (fun _ _ _ => False)
/-- What a guard says of a value; behind an operation that was skipped there is no Bool. -/
def gv : Value → Bool → Bool
  | .bool b, want => b == want
  | _, _ => false
/-- The guard lets the operation be done ('true'), or skips it. -/
def Guard (ops : Array Oper) (o : Oper) (S : AState) (take : Bool) : Prop :=
  match o.guard with
  | none => take = true
  | some (g, want) => ∃ d v, (ops[g]?).bind (·.dst) = some d ∧ S.slot d = .t (.v v) ∧ take = gv v want
def GStep (C : Ctx) (ops : Array Oper) (o : Oper) (S : AState) : Option Eff → Prop
  | none => Guard ops o S false
  | some e => Guard ops o S true ∧ Step C ops o S e

theorem putS_none (v : AV) (s : Nat → AV) : putS none v s = s := rfl
theorem putS_other {d : Option Nat} {v : AV} {s : Nat → AV} {x : Nat} (h : d ≠ some x) : putS d v s x = s x := by
  cases d with
  | none => rfl
  | some d =>
    have : Nat.beq x d = false := by
      cases hb : Nat.beq x d with
      | false => rfl
      | true => exact absurd (by rw [Nat.eq_of_beq_eq_true hb]) h
    simp [putS, this]
theorem putS_same (d : Nat) (v : AV) (s : Nat → AV) : putS (some d) v s d = v := by
  have : Nat.beq d d = true := Nat.beq_refl d
  simp [putS, this]
theorem putS_cases (d : Option Nat) (v : AV) (s : Nat → AV) (x : Nat) : (d = some x ∧ putS d v s x = v) ∨ (d ≠ some x ∧ putS d v s x = s x) := by
  by_cases h : d = some x
  · subst h; exact .inl ⟨rfl, putS_same ..⟩
  · exact .inr ⟨h, putS_other h⟩
theorem putS_comm {d d' : Option Nat} {v v' : AV} {s : Nat → AV} (h : ∀ x, d = some x → d' ≠ some x) : putS d v (putS d' v' s) = putS d' v' (putS d v s) := by
  funext x
  rcases putS_cases d v (putS d' v' s) x with ⟨e1, h1⟩ | ⟨e1, h1⟩ <;> rcases putS_cases d' v' (putS d v s) x with ⟨e2, h2⟩ | ⟨e2, h2⟩
  · exact absurd e2 (h x e1)
  · rw [h1, h2]; subst e1; rw [putS_same]
  · rw [h1, h2]; subst e2; rw [putS_same]
  · rw [h1, h2, putS_other e1, putS_other e2]
theorem hasKey_assoc {i : Nat} {l : List (Nat × Option AObj)} : hasKey i l = (assoc i l).isSome := by
  induction l with
  | nil => rfl
  | cons y r ih =>
    obtain ⟨j, o⟩ := y
    simp only [hasKey, assoc]
    cases Nat.beq i j <;> simp [ih]
theorem assoc_none {i : Nat} {l : List (Nat × Option AObj)} (h : hasKey i l = false) : assoc i l = none := by
  rw [hasKey_assoc] at h
  cases ha : assoc i l with
  | none => rfl
  | some _ => rw [ha] at h; cases h

/-! ### Independence -/
def looksB (ops : Array Oper) (o : Oper) : Option Nat → Bool
  | none => false
  | some d => (o.looksAt ops).any (Nat.beq d)
def sameDst : Option Nat → Option Nat → Bool
  | some a, some b => Nat.beq a b
  | _, _ => false
def keysApart (m : List (Nat × Option AObj)) (e : Eff) : Bool := m.all fun y => !(e.looks.any (Nat.beq y.1)) && !(hasKey y.1 e.mods)
def effApart : Option Eff → Option Eff → Bool
  | some e, some e' => keysApart e.mods e' && keysApart e'.mods e
  | _, _ => true
/-- Two operations with their effects may change places. -/
def indep (ops : Array Oper) (x y : Oper × Option Eff) : Bool :=
  !(sameDst x.1.dst y.1.dst) && !(looksB ops y.1 x.1.dst) && !(looksB ops x.1 y.1.dst) && effApart x.2 y.2

theorem any_beq {l : List Nat} {d : Nat} : l.any (Nat.beq d) = true ↔ d ∈ l := by
  rw [List.any_eq_true]
  constructor
  · rintro ⟨x, hx, hb⟩; rw [Nat.eq_of_beq_eq_true hb]; exact hx
  · intro h; exact ⟨d, h, Nat.beq_refl d⟩
theorem hasKey_iff {i : Nat} {l : List (Nat × Option AObj)} : hasKey i l = true ↔ ∃ o, (i, o) ∈ l := by
  induction l with
  | nil => simp [hasKey]
  | cons y r ih =>
    obtain ⟨j, o⟩ := y
    simp only [hasKey]
    cases hb : Nat.beq i j with
    | true => have := Nat.eq_of_beq_eq_true hb; subst this; simp
    | false =>
      simp only [cond_false, ih]
      have hne : i ≠ j := fun e => by subst e; rw [Nat.beq_refl] at hb; cases hb
      constructor
      · rintro ⟨q, hq⟩; exact ⟨q, List.mem_cons_of_mem _ hq⟩
      · rintro ⟨q, hq⟩
        rcases List.mem_cons.1 hq with h | h
        · injection h with h1 _; exact absurd h1 hne
        · exact ⟨q, h⟩
theorem keysApart_spec {m : List (Nat × Option AObj)} {e : Eff} (h : keysApart m e = true) {i : Nat} (ht : e.touches i) : hasKey i m = false := by
  cases hk : hasKey i m with
  | false => rfl
  | true =>
    obtain ⟨o, ho⟩ := hasKey_iff.1 hk
    have := (List.all_eq_true.1 h) _ ho
    simp only [Bool.and_eq_true, Bool.not_eq_true'] at this
    rcases ht with ht | ht
    · have := this.1; rw [any_beq.2 ht] at this; cases this
    · have := this.2; rw [ht] at this; cases this

structure Indep (ops : Array Oper) (x y : Oper × Option Eff) : Prop where
  dst : ∀ d, x.1.dst = some d → y.1.dst ≠ some d
  xy : ∀ d, x.1.dst = some d → d ∉ y.1.looksAt ops
  yx : ∀ d, y.1.dst = some d → d ∉ x.1.looksAt ops
  eff : effApart x.2 y.2 = true
theorem indep_spec {ops : Array Oper} {x y : Oper × Option Eff} (h : indep ops x y = true) : Indep ops x y := by
  simp only [indep, Bool.and_eq_true, Bool.not_eq_true'] at h
  obtain ⟨⟨⟨h1, h2⟩, h3⟩, h4⟩ := h
  refine ⟨fun d hd he => ?_, fun d hd hm => ?_, fun d hd hm => ?_, h4⟩
  · rw [hd, he] at h1; simp [sameDst, Nat.beq_refl] at h1
  · rw [hd] at h2; simp only [looksB] at h2; rw [any_beq.2 hm] at h2; cases h2
  · rw [hd] at h3; simp only [looksB] at h3; rw [any_beq.2 hm] at h3; cases h3

theorem apx_slot {o : Oper} {x : Option Eff} {S : AState} {d : Nat} (h : o.dst ≠ some d) : (apx o x S).slot d = S.slot d := by
  cases x <;> exact putS_other h
theorem apx_mem {o : Oper} {e : Eff} {S : AState} {i : Nat} (h : hasKey i e.mods = false) : (apx o (some e) S).mem i = S.mem i ∧ (apx o (some e) S).used i = S.used i := by
  constructor
  · simp only [apx, ap, assoc_none h]
  · simp only [apx, ap, h, Bool.or_false]

theorem Guard.of_agree {ops : Array Oper} {o : Oper} {S S' : AState} {b : Bool} (h : Guard ops o S b) (hs : ∀ x ∈ o.looksAt ops, S'.slot x = S.slot x) : Guard ops o S' b := by
  unfold Guard at *
  cases hg : o.guard with
  | none => simp only [hg] at h ⊢; exact h
  | some gw =>
    obtain ⟨g, want⟩ := gw
    simp only [hg] at h ⊢
    obtain ⟨d, b', hd, hsl, ht⟩ := h
    refine ⟨d, b', hd, ?_, ht⟩
    rw [hs d (by simp [Oper.looksAt, hg, hd])]; exact hsl

theorem GStep.of_agree {C : Ctx} {ops : Array Oper} {o : Oper} {S S' : AState} {x : Option Eff} (h : GStep C ops o S x)
    (hs : ∀ y ∈ o.looksAt ops, S'.slot y = S.slot y) (hm : ∀ e, x = some e → ∀ i, e.touches i → S'.mem i = S.mem i ∧ S'.used i = S.used i) : GStep C ops o S' x := by
  cases x with
  | none => exact Guard.of_agree h hs
  | some e =>
    refine ⟨Guard.of_agree h.1 hs, fun S₁ h1 h2 a w hsat => h.2 S₁ (fun y hy => (h1 y hy).trans (hs y hy)) (fun i hi => ?_) a w hsat⟩
    have a1 := h2 i hi
    have a2 := hm e rfl i hi
    exact ⟨a1.1.trans a2.1, a1.2.trans a2.2⟩

theorem GStep.swap {C : Ctx} {ops : Array Oper} {x y : Oper × Option Eff} {S : AState} (hi : Indep ops x y) (h : GStep C ops y.1 S y.2) : GStep C ops y.1 (apx x.1 x.2 S) y.2 := by
  refine h.of_agree (fun z hz => apx_slot fun hd => hi.xy z hd hz) (fun e he i ht => ?_)
  cases hx : x.2 with
  | none => exact ⟨rfl, rfl⟩
  | some e' =>
    have := hi.eff
    rw [he, hx] at this
    simp only [effApart, Bool.and_eq_true] at this
    exact apx_mem (keysApart_spec this.1 ht)
theorem GStep.unswap {C : Ctx} {ops : Array Oper} {x y : Oper × Option Eff} {S : AState} (hi : Indep ops x y) (h : GStep C ops y.1 (apx x.1 x.2 S) y.2) : GStep C ops y.1 S y.2 := by
  refine h.of_agree (fun z hz => (apx_slot fun hd => hi.xy z hd hz).symm) (fun e he i ht => ?_)
  cases hx : x.2 with
  | none => exact ⟨rfl, rfl⟩
  | some e' =>
    have := hi.eff
    rw [he, hx] at this
    simp only [effApart, Bool.and_eq_true] at this
    have := apx_mem (o := x.1) (S := S) (keysApart_spec this.1 ht)
    exact ⟨this.1.symm, this.2.symm⟩
theorem Indep.symm {ops : Array Oper} {x y : Oper × Option Eff} (h : Indep ops x y) : Indep ops y x := by
  refine ⟨fun d hd he => h.dst d he hd, h.yx, h.xy, ?_⟩
  have := h.eff
  cases hx : x.2 <;> cases hy : y.2 <;> simp_all [effApart]

theorem apx_comm {ops : Array Oper} {x y : Oper × Option Eff} {S : AState} (hi : Indep ops x y) : apx x.1 x.2 (apx y.1 y.2 S) = apx y.1 y.2 (apx x.1 x.2 S) := by
  have hd := hi.dst
  have he := hi.eff
  obtain ⟨o, x⟩ := x
  obtain ⟨o', y⟩ := y
  simp only at hd he
  cases x with
  | none => cases y <;> simp only [apx, ap] <;> rw [putS_comm hd]
  | some e =>
    cases y with
    | none => simp only [apx, ap]; rw [putS_comm hd]
    | some e' =>
      simp only [effApart, Bool.and_eq_true] at he
      simp only [apx, ap, AState.mk.injEq]
      refine ⟨putS_comm hd, ?_, ?_⟩
      · funext i
        cases h1 : assoc i e.mods with
        | none => simp
        | some q =>
          have : hasKey i e'.mods = false := keysApart_spec he.2 (.inr (by rw [hasKey_assoc, h1]; rfl))
          rw [assoc_none this]
      · funext i
        rw [Bool.or_assoc, Bool.or_assoc, Bool.or_comm (hasKey i e'.mods)]

end Go.Proofs.Ytnemmdbafngppaa.Abs
