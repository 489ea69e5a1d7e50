/- Abstract symbolic execution, part 7: operations on memory: variables in memory, rows of the call's own, calls by contract. No condition. -/
import Derived.Test.YtnemmdbafngppaaAbs6
import Derived.Maps.AppendAt
import Derived.Laws.OwnMore
set_option linter.unusedVariables false
set_option linter.unusedSimpArgs false
namespace Go.Proofs.Ytnemmdbafngppaa.Abs
open Go.RowKit
variable {C : Ctx} {ops : Array Oper} {o : Oper} {S : AState}

theorem ownsRow_blk {w : World} {base e size n : Nat} {v : Value} {xs : List Value} (h : w.ownsRow base e size v n xs) : blk v = v.ownBlock := by
  rcases h.2 with ⟨rfl, _⟩ | ⟨g, cap, cur, rfl, _⟩ <;> rfl
theorem ownsRow_same {w w' : World} {base e size n : Nat} {v : Value} {xs : List Value} (h : w.ownsRow base e size v n xs) (hb : ∀ b, blk v = some b → w'.heap[b]? = w.heap[b]?) :
    w'.ownsRow base e size v n xs := by
  refine ⟨h.1, ?_⟩
  rcases h.2 with hn | ⟨g, cap, cur, rfl, h1, h2, h3⟩
  · exact .inl hn
  · exact .inr ⟨g, cap, cur, rfl, h1, (hb g rfl).trans h2, h3⟩
theorem ownsRow_base {w : World} {base base' e size n : Nat} {v : Value} {xs : List Value} (h : w.ownsRow base e size v n xs) (hb : base' ≤ base) : w.ownsRow base' e size v n xs := by
  refine ⟨h.1, ?_⟩
  rcases h.2 with hn | ⟨g, cap, cur, rfl, h1, h2, h3⟩
  · exact .inl hn
  · exact .inr ⟨g, cap, cur, rfl, Nat.le_trans hb h1, h2, h3⟩

theorem ORel.mono {ok ok' : Nat → Prop} {β β' : Nat → Value} {w w' : World} {i : Nat} {o : AObj} (h : ORel C ok β w i o)
    (hb : ∀ b, blk (β i) = some b → w'.heap[b]? = w.heap[b]?) (hw : ∀ b, ok b → w'.heap[b]? = w.heap[b]?) (hk : ∀ b, ok b → ok' b) (hi : β' i = β i)
    (hβ : ∀ j ∈ o.ids, β' j = β j) : ORel C ok' β' w' i o := by
  cases o with
  | box E cells =>
    obtain ⟨b, arr, h1, h2, h3, h4, h5⟩ := h
    exact ⟨b, arr, hi.trans h1, h2, (hb b (by rw [h1]; rfl)).trans h3, h4, fun k k1 k2 => ⟨(h5 k k1 k2).1.mono hw hk fun j hj => hβ j (AV.mem_idsL (List.getElem_mem k2) hj), (h5 k k1 k2).2⟩⟩
  | row E sz l =>
    obtain ⟨cells, h1, h2, h3⟩ := h
    refine ⟨cells, by rw [hi]; exact ownsRow_same h1 hb, h2, fun k hk' j hj => ?_⟩
    obtain ⟨v, e, hr, ho⟩ := h3 k hk' j hj
    exact ⟨v, e, hr.mono hw hk, ho⟩
  | buf E sz cap l =>
    obtain ⟨g, cur, h1, h2, h3, h4, h5, h6, h7, h8⟩ := h
    refine ⟨g, cur, hi.trans h1, h2, (hb g (by rw [h1]; rfl)).trans h3, h4, h5, h6, h7, fun k hk' j hj => ?_⟩
    obtain ⟨v, e, hr, ho⟩ := h8 k hk' j hj
    exact ⟨v, e, hr.mono hw hk, ho⟩

theorem ORel.lt {ok : Nat → Prop} {β : Nat → Value} {w : World} {i : Nat} {o : AObj} (h : ORel C ok β w i o) {b : Nat} (hb : blk (β i) = some b) : C.w0.heap.size ≤ b ∧ b < w.heap.size := by
  cases o with
  | box E cells =>
    obtain ⟨b', arr, h1, h2, h3, _⟩ := h
    rw [h1] at hb; injection hb with hb; subst hb
    exact ⟨h2, (Array.getElem?_eq_some_iff.1 h3).1⟩
  | row E sz l =>
    obtain ⟨cells, h1, _⟩ := h
    exact h1.lt b (by rw [← ownsRow_blk h1]; exact hb)
  | buf E sz cap l =>
    obtain ⟨g, cur, h1, h2, h3, _⟩ := h
    rw [h1] at hb; injection hb with hb; subst hb
    exact ⟨h2, (Array.getElem?_eq_some_iff.1 h3).1⟩

theorem SatB.change {β β' : Nat → Value} {S' : AState} {a : Act} {w w' : World} (h : SatB C β S a w) (hbel : Below C.w0.heap.size C.w0 w')
    (hheap : ∀ b, okS C S β w b → w'.heap[b]? = w.heap[b]?) (hok : ∀ b, okS C S β w b → okS C S' β' w' b) (hβ : ∀ i, S.used i = true → β' i = β i)
    (hslot : S'.slot = S.slot) (hused : ∀ i, S.used i = true → S'.used i = true) (hmem : ∀ i o, S'.mem i = some o → ORel C (okS C S' β' w') β' w' i o)
    (hap : ∀ i j o o', S'.mem i = some o → S'.mem j = some o' → i ≠ j → ∀ b, blk (β' i) = some b → blk (β' j) ≠ some b)
    (hwf : ∀ j o, S'.mem j = some o → S'.used j = true ∧ ∀ i, i ∈ o.ids → S'.used i = true) (hkeep : ∀ b x, C.keep b = some x → w'.heap[b]? = some x.1 ∧ ¬ owned S' β' b)
    (hanc : ∀ p, p ∈ C.anc → β' p.1 = p.2 ∧ ∃ E cells, S'.mem p.1 = some (.box E cells)) : SatB C β' S' a w' where
  size := h.size
  defers := h.defers
  below := hbel
  ok0 := h.ok0
  slot := fun x => by rw [hslot]; exact (h.slot x).mono hheap hok fun i hi => hβ i (h.wfs x i hi)
  mem := hmem
  apart := hap
  wfs := fun x i hi => by rw [hslot] at hi; exact hused i (h.wfs x i hi)
  wfm := hwf
  keep := hkeep
  anc := hanc

def modS (m : List (Nat × Option AObj)) (S : AState) : AState :=
  { slot := S.slot, mem := fun i => match assoc i m with | some o => o | none => S.mem i, used := fun i => S.used i || hasKey i m }
theorem ap_modS (d : Option Nat) (e : Eff) (S : AState) : ap d e S = { modS e.mods S with slot := putS d e.val (modS e.mods S).slot } := rfl
theorem modS_one {i : Nat} {x : Option AObj} {j : Nat} : (modS [(i, x)] S).mem j = (if j = i then x else S.mem j) ∧ (modS [(i, x)] S).used j = (S.used j || decide (j = i)) := by
  simp only [modS, assoc, hasKey]
  by_cases h : j = i
  · subst h; simp [Nat.beq_refl]
  · have : Nat.beq j i = false := by
      cases hb : Nat.beq j i with
      | false => rfl
      | true => exact absurd (Nat.eq_of_beq_eq_true hb) h
    simp [this, h]

theorem SatB.keep_lt {β : Nat → Value} {a : Act} {w : World} (h : SatB C β S a w) {b : Nat} {x : Obj × Bool} (hx : C.keep b = some x) : b < w.heap.size := (Array.getElem?_eq_some_iff.1 (h.keep b x hx).1).1
/-- The world has grown alone. -/
theorem SatB.grow {β : Nat → Value} {a : Act} {w w' : World} (h : SatB C β S a w) (hb : Below w.heap.size w w') : SatB C β S a w' := by
  have hs := h.below.size
  have hbel : Below C.w0.heap.size C.w0 w' := h.below.trans ⟨hb.os, hb.tape, hb.output, hb.size, fun k hk => hb.block k (by omega)⟩
  have hheap : ∀ b, okS C S β w b → w'.heap[b]? = w.heap[b]? := fun b hb' => hb.block b hb'.2.1
  have hok : ∀ b, okS C S β w b → okS C S β w' b := fun b hb' => ⟨hb'.1, Nat.lt_of_lt_of_le hb'.2.1 hb.size, hb'.2.2⟩
  exact h.change hbel hheap hok (fun _ _ => rfl) rfl (fun _ h => h) (fun i o hi => (h.mem i o hi).mono (fun b hb' => hb.block b ((h.mem i o hi).lt hb').2) hheap hok rfl (fun _ _ => rfl)) h.apart h.wfm (fun b x hx => ⟨(hb.block b (h.keep_lt hx)).trans (h.keep b x hx).1, (h.keep b x hx).2⟩) h.anc
theorem SatB.fresh_ok {β : Nat → Value} {a : Act} {w w' : World} (h : SatB C β S a w) {b : Nat} (h1 : w.heap.size ≤ b) (h2 : b < w'.heap.size) : okS C S β w' b := by
  refine ⟨⟨.inr (Nat.le_trans h.below.size h1), fun x hx => by have := h.keep_lt hx; omega⟩, h2, ?_⟩
  rintro ⟨i, o, hi, hb⟩
  have := ((h.mem i o hi).lt hb).2
  omega

/-- A new object, in fresh memory. -/
theorem SatB.new {β : Nat → Value} {a : Act} {w w' : World} (h : SatB C β S a w) (i : Nat) (hu : S.used i = false) (o : AObj) (nv : Value) (hb : Below w.heap.size w w')
    (hfresh : ∀ b, blk nv = some b → w.heap.size ≤ b) (hids : ∀ j ∈ o.ids, S.used j = true)
    (hO : ∀ (ok' : Nat → Prop) (β' : Nat → Value), (∀ b, okS C S β w b → ok' b) → (∀ b, w.heap.size ≤ b → b < w'.heap.size → blk nv ≠ some b → ok' b) → β' i = nv → (∀ j, S.used j = true → β' j = β j) → ORel C ok' β' w' i o) :
    ∃ β', β' i = nv ∧ (∀ b, okS C S β w b → okS C (modS [(i, some o)] S) β' w' b) ∧ (∀ b, w.heap.size ≤ b → b < w'.heap.size → blk nv ≠ some b → okS C (modS [(i, some o)] S) β' w' b) ∧
      (∀ j, S.used j = true → β' j = β j) ∧ SatB C β' (modS [(i, some o)] S) a w' := by
  have hs := h.below.size
  have hnomem : S.mem i = none := by
    cases hm : S.mem i with
    | none => rfl
    | some q => have := (h.wfm i q hm).1; rw [hu] at this; cases this
  let β' : Nat → Value := fun j => if j = i then nv else β j
  have e1 : β' i = nv := by simp [β']
  have e2 : ∀ j, S.used j = true → β' j = β j := by
    intro j hj
    have : j ≠ i := fun e => by subst e; rw [hu] at hj; cases hj
    simp [β', this]
  have hm : ∀ j, (modS [(i, some o)] S).mem j = (if j = i then some o else S.mem j) := fun j => modS_one.1
  have hus : ∀ j, (modS [(i, some o)] S).used j = (S.used j || decide (j = i)) := fun j => modS_one.2
  have hold : ∀ j q, j ≠ i → S.mem j = some q → β' j = β j := fun j q hne hj => by simp [β', hne]
  have hbel : Below C.w0.heap.size C.w0 w' := h.below.trans ⟨hb.os, hb.tape, hb.output, hb.size, fun k hk => hb.block k (by omega)⟩
  have hheap : ∀ b, okS C S β w b → w'.heap[b]? = w.heap[b]? := fun b hb' => hb.block b hb'.2.1
  have howned : ∀ b, owned (modS [(i, some o)] S) β' b → blk nv = some b ∨ owned S β b := by
    rintro b ⟨j, q, hj, hbl⟩
    rw [hm] at hj
    split at hj
    · rename_i e; subst e; rw [e1] at hbl; exact .inl hbl
    · rename_i hne; rw [hold j q hne hj] at hbl; exact .inr ⟨j, q, hj, hbl⟩
  have hok : ∀ b, okS C S β w b → okS C (modS [(i, some o)] S) β' w' b := by
    intro b hb'
    refine ⟨hb'.1, Nat.lt_of_lt_of_le hb'.2.1 hb.size, fun ho => ?_⟩
    rcases howned b ho with h1 | h1
    · have := hfresh b h1; have := hb'.2.1; omega
    · exact hb'.2.2 h1
  have hnew : ∀ b, w.heap.size ≤ b → b < w'.heap.size → blk nv ≠ some b → okS C (modS [(i, some o)] S) β' w' b := by
    intro b h1 h2 h3
    refine ⟨⟨.inr (by omega), fun x hx => by have := h.keep_lt hx; omega⟩, h2, fun ho => ?_⟩
    rcases howned b ho with h4 | h4
    · exact h3 h4
    · obtain ⟨j, q, hj, hbl⟩ := h4
      have := ((h.mem j q hj).lt hbl).2
      omega
  have hkp : ∀ b x, C.keep b = some x → w'.heap[b]? = some x.1 ∧ ¬ owned (modS [(i, some o)] S) β' b := fun b x hx => by
    have hlt := h.keep_lt hx
    refine ⟨(hb.block b hlt).trans (h.keep b x hx).1, fun ho => ?_⟩
    rcases howned b ho with h1 | h1
    · have := hfresh b h1; omega
    · exact (h.keep b x hx).2 h1
  refine ⟨β', e1, hok, hnew, e2, h.change hbel hheap hok e2 rfl (fun j hj => by rw [hus, hj]; rfl) (fun j q hj => ?_) (fun j k q q' hj hk hne b hbj hbk => ?_) (fun j q hj => ?_) hkp (fun p hp => ?_)⟩
  · rw [hm] at hj
    split at hj
    · rename_i e; subst e; injection hj with hj; subst hj
      exact hO _ _ hok hnew e1 e2
    · rename_i hne
      exact (h.mem j q hj).mono (fun b hbl => hb.block b ((h.mem j q hj).lt hbl).2) hheap hok (hold j q hne hj) (fun x hx => e2 x ((h.wfm j q hj).2 x hx))
  · rw [hm] at hj hk
    split at hj
    · rename_i e; subst e
      split at hk
      · rename_i e'; exact hne e'.symm
      · rename_i hne'
        rw [e1] at hbj
        rw [hold k q' hne' hk] at hbk
        have h1 := hfresh b hbj
        have h2 := ((h.mem k q' hk).lt hbk).2
        omega
    · rename_i hnj
      rw [hold j q hnj hj] at hbj
      split at hk
      · rename_i e'; subst e'
        rw [e1] at hbk
        have h1 := hfresh b hbk
        have h2 := ((h.mem j q hj).lt hbj).2
        omega
      · rename_i hnk
        rw [hold k q' hnk hk] at hbk
        exact h.apart j k q q' hj hk hne b hbj hbk
  · rw [hm] at hj
    split at hj
    · rename_i e; subst e; injection hj with hj; subst hj
      exact ⟨by rw [hus]; simp, fun x hx => by rw [hus, hids x hx]; rfl⟩
    · obtain ⟨h1, h2⟩ := h.wfm j q hj
      exact ⟨by rw [hus, h1]; rfl, fun x hx => by rw [hus, h2 x hx]; rfl⟩
  · obtain ⟨g1, E, cells, g2⟩ := h.anc p hp
    have hne : p.1 ≠ i := fun e => by rw [e, hnomem] at g2; cases g2
    exact ⟨by simp [β', hne, g1], E, cells, by rw [hm, if_neg hne]; exact g2⟩

theorem below_alloc' (w : World) (o : Obj) : Below w.heap.size w (w.alloc o) := (Below.refl _ _).alloc (Nat.le_refl _) o
theorem heap_alloc_at (w : World) (o : Obj) : (w.alloc o).heap[w.heap.size]? = some o := heap_alloc_new w o

/-- The frame for an operation that makes an object: its value is a handle or a pointer. -/
theorem Step.new {val : AV} {ob : AObj} {i : Nat} (hd : dOk C.n o.dst = true) (hu : S.used i = false) (hids : ∀ j ∈ ob.ids, ∃ x ∈ o.op.operands, j ∈ (evalS S x).ids)
    (hval : ∀ j ∈ val.ids, j = i)
    (h : ∀ (β : Nat → Value) (w : World) (ok : Nat → Prop) (ρ : Operand → Value), C.w0.heap.size ≤ w.heap.size → (∀ b, ok b → b < w.heap.size) → (∀ x ∈ o.op.operands, VRel w ok β (ρ x) (evalS S x)) → (∀ v, ρ (.const v) = v) →
      ∃ v nv w', (execOp ρ o).run C.P w = .ok (.value v) w' ∧ Below w.heap.size w w' ∧ (∀ b, blk nv = some b → w.heap.size ≤ b) ∧
        (∀ (ok' : Nat → Prop) (β' : Nat → Value), (∀ b, ok b → ok' b) → (∀ b, w.heap.size ≤ b → b < w'.heap.size → blk nv ≠ some b → ok' b) → β' i = nv → (∀ j ∈ ob.ids, β' j = β j) → ORel C ok' β' w' i ob ∧ VRel w' ok' β' v val)) :
    Step C ops o S ⟨val, [(i, some ob)], []⟩ := by
  intro S₁ hs hm a w hsat
  obtain ⟨β, hb⟩ := hsat
  have hu1 : S₁.used i = false := by rw [(hm i (.inr (by simp [hasKey, Nat.beq_refl]))).2]; exact hu
  obtain ⟨v, nv, w', hr, hbel, hfr, hO⟩ := h β w (okS C S₁ β w) a.eval hb.below.size (fun b hb' => hb'.2.1) (fun x hx => by rw [← agree_eval hs hx]; exact hb.eval x) (fun _ => rfl)
  have hids1 : ∀ j ∈ ob.ids, S₁.used j = true := by
    intro j hj
    obtain ⟨x, hx, hjx⟩ := hids j hj
    rw [← agree_eval hs hx] at hjx
    cases x with
    | tmp t => exact hb.wfs t j hjx
    | _ => simp [evalS, AV.ids] at hjx
  obtain ⟨β', e1, e2, e3, e4, hsb⟩ := hb.new i hu1 ob nv hbel hfr hids1 (fun ok' β' h1 h2 h3 h4 => (hO ok' β' h1 h2 h3 (fun j hj => h4 j (hids1 j hj))).1)
  refine Oper.wp_value hr ?_
  rw [ap_modS]
  refine ⟨β', hsb.put o.dst v val (fun _ _ _ => (hO _ β' e2 e3 e1 (fun j hj => e4 j (hids1 j hj))).2) (fun x hx => .inl ?_) (fun j hj => ?_)⟩
  · rw [hx] at hd; simpa [dOk] using hd
  · rw [modS_one.2, hval j hj]; simp

theorem zeroB_spec {P : Program} {t : Nat} {zs : List Value} (h : zeroB P t = some zs) : ∃ i z, P.info? t = some i ∧ i.zero = some z ∧ z.cells.toList = zs := by
  unfold zeroB at h
  cases hi : P.info? t with
  | none => rw [hi] at h; cases h
  | some i =>
    rw [hi] at h
    cases hz : i.zero with
    | none => simp [hz] at h
    | some z => simp [hz] at h; exact ⟨i, z, rfl, hz, h⟩
/-- A variable in memory, zero. -/
theorem step_alloc {E d : Nat} {zs : List Value} (ho : o.op = .alloc E) (hdst : o.dst = some d) (hz : zeroB C.P E = some zs) (h1 : zs.all Value.oneCell' = true) (hu : S.used d = false) (hd : dOk C.n o.dst = true) :
    Step C ops o S ⟨.p d 0, [(d, some (.box E (zs.map fun z => AV.t (.v z))))], []⟩ := by
  obtain ⟨i, z, hi, hzz, rfl⟩ := zeroB_spec hz
  have hidn : ∀ j, j ∈ AV.idsL (z.cells.toList.map fun z => AV.t (.v z)) → False := by
    intro j hj
    obtain ⟨x, hx, hjx⟩ := AV.of_mem_idsL hj
    obtain ⟨y, _, rfl⟩ := List.mem_map.1 hx
    simp [AV.ids] at hjx
  refine Step.new hd hu (fun j hj => (hidn j hj).elim) (by simp [AV.ids]) fun β w ok ρ hsz hokl hρ _ => ?_
  refine ⟨.pointer (some ⟨w.heap.size, 0, none⟩), .pointer (some ⟨w.heap.size, 0, none⟩), w.alloc (.cells z.cells E), ?_, below_alloc' _ _, ?_, ?_⟩
  · simp [execOp, ho, Instr.alloc, zeroValue, typeInfo, hi, hzz, newVar, newRow, newObj, Sem.run]
  · intro b hb; simp [blk] at hb; omega
  · intro ok' β' h1' h2' h3' h4'
    refine ⟨⟨w.heap.size, z.cells, h3', hsz, heap_alloc_at _ _, by simp, fun k k1 k2 => ⟨?_, ?_⟩⟩, .p h3'⟩
    · simp only [List.getElem_map, Array.getElem_toList]; exact .t (.v _)
    · rw [List.all_eq_true] at h1; exact h1 _ (by simp)
/-- The cells of an abstract value. -/
def avCells : AV → Option (List AV)
  | .t x => some (x.cells.map AV.t)
  | .agg l => some l
  | .h i => some [.h i]
  | .p i q => some [.p i q]
  | .e i q => some [.e i q]
  | .s i z q n c => some [.s i z q n c]
  | _ => none
def AV.one : AV → Bool
  | .t x => x.one
  | .h _ | .p _ _ | .e _ _ | .s _ _ _ _ _ => true
  | _ => false
theorem VRel.one {w : World} {ok : Nat → Prop} {β : Nat → Value} {v : Value} {x : AV} (h : VRel w ok β v x) (hx : x.one = true) (hβ : ∀ i, x = .h i → (β i).oneCell' = true) : v.oneCell' = true := by
  cases h with
  | t h => exact h.one hx
  | h i => exact hβ i rfl
  | p h => rfl
  | e h => rfl
  | s h _ _ _ => rfl
  | _ => cases hx
theorem cells_of_one {v : Value} (h : v.oneCell' = true) : v.cells = #[v] := by cases v <;> first | rfl | cases h
def OneR (β : Nat → Value) : AV → Prop
  | .t y => y.one = true ∨ ∃ q, y = .agg q
  | .h i => (β i).oneCell' = true
  | _ => True
/-- A value's cells, related one by one. -/
theorem VRel.cells {w : World} {ok : Nat → Prop} {β : Nat → Value} {v : Value} {x : AV} {l : List AV} (h : VRel w ok β v x) (hl : avCells x = some l) (hone : OneR β x) :
    v.cells.size = l.length ∧ ∀ k (h1 : k < v.cells.size) (h2 : k < l.length), VRel w ok β v.cells[k] l[k] ∧ v.cells[k].oneCell' = true := by
  have single : ∀ (x : AV), VRel w ok β v x → v.oneCell' = true → v.cells.size = [x].length ∧ ∀ k (h1 : k < v.cells.size) (h2 : k < [x].length), VRel w ok β v.cells[k] [x][k] ∧ v.cells[k].oneCell' = true := by
    intro x hx ho
    have := cells_of_one ho
    refine ⟨by rw [this]; rfl, fun k h1 h2 => ?_⟩
    have hk : k = 0 := by simp at h2; exact h2
    subst hk
    have e : v.cells[0] = v := by simp [this]
    rw [e]; exact ⟨hx, ho⟩
  cases h with
  | junk v => cases hl
  | ub b => cases hl
  | t h =>
    rename_i y
    simp only [avCells, Option.some.injEq] at hl
    subst hl
    cases y with
    | agg ts =>
      obtain ⟨vs, rfl, hs, h, h1⟩ := h.aggD
      refine ⟨by simpa [Value.cells, T.cells] using hs, fun k k1 k2 => ?_⟩
      simp only [T.cells, List.length_map] at k2
      simp only [T.cells, List.getElem_map]
      exact ⟨.t (h k k1 k2), h1 k k1⟩
    | v x => exact single (.t (.v x)) (.t h) (h.one (by rcases hone with h | ⟨q, h⟩; exact h; cases h))
    | slice sz l => exact single _ (.t h) (h.one rfl)
    | clip sz l => exact single _ (.t h) (h.one rfl)
    | ptr l => exact single _ (.t h) (h.one rfl)
    | clo g l => exact single _ (.t h) (h.one rfl)
    | tup l => rcases hone with h | ⟨q, h⟩ <;> cases h
  | h i => injection hl with hl; subst hl; exact single _ (.h i) hone
  | p hp => injection hl with hl; subst hl; exact single _ (.p hp) rfl
  | e he => injection hl with hl; subst hl; exact single _ (.e he) rfl
  | s he hc hn ho => injection hl with hl; subst hl; exact single _ (.s he hc hn ho) rfl
  | agg hs h1 h =>
    injection hl with hl; subst hl
    exact ⟨hs, fun k k1 k2 => ⟨h k k1 k2, h1 k k1⟩⟩
  | tup => cases hl
def oneOk : AV → Bool
  | .t (.agg _) => true
  | .t y => y.one
  | .h _ => false
  | _ => true
theorem oneOk_spec {x : AV} {β : Nat → Value} (h : oneOk x = true) : OneR β x := by
  cases x with
  | t y => cases y <;> first | exact .inr ⟨_, rfl⟩ | exact .inl h
  | h i => cases h
  | _ => trivial
/-- A variable in memory with a value. -/
theorem step_box {E d : Nat} {x : Operand} {av : AV} {l : List AV} (ho : o.op = .box E x) (hdst : o.dst = some d) (hx : evalS S x = av) (hone : oneOk av = true) (hl : avCells av = some l) (hu : S.used d = false) (hd : dOk C.n o.dst = true) :
    Step C ops o S ⟨.p d 0, [(d, some (.box E l))], []⟩ := by
  subst hx
  have hm : x ∈ o.op.operands := by simp [ho, Op.operands]
  have hsub : ∀ j ∈ AV.idsL l, j ∈ (evalS S x).ids := by
    intro j hj
    generalize evalS S x = q at hl hone ⊢
    cases q with
    | junk => cases hl
    | ub => cases hl
    | t y => injection hl with hl; subst hl; obtain ⟨z, hz, hjz⟩ := AV.of_mem_idsL hj; obtain ⟨u, _, rfl⟩ := List.mem_map.1 hz; simp [AV.ids] at hjz
    | h i => cases hone
    | p i q => injection hl with hl; subst hl; simpa [AV.idsL, AV.ids] using hj
    | e i q => injection hl with hl; subst hl; simpa [AV.idsL, AV.ids] using hj
    | s i z q n c => injection hl with hl; subst hl; simpa [AV.idsL, AV.ids] using hj
    | agg l' => injection hl with hl; subst hl; exact hj
    | tup l' => cases hl
  refine Step.new hd hu (fun j hj => ⟨x, hm, hsub j hj⟩) (by simp [AV.ids]) fun β w ok ρ hsz hokl hρ _ => ?_
  refine ⟨.pointer (some ⟨w.heap.size, 0, none⟩), .pointer (some ⟨w.heap.size, 0, none⟩), w.alloc (.cells (ρ x).cells E), ?_, below_alloc' _ _, ?_, ?_⟩
  · simp [execOp, ho, Instr.box, newVar, newRow, newObj, Sem.run]
  · intro b hb; simp [blk] at hb; omega
  · intro ok' β' h1' h2' h3' h4'
    obtain ⟨c1, c2⟩ := (hρ x hm).cells hl (oneOk_spec hone)
    refine ⟨⟨w.heap.size, (ρ x).cells, h3', hsz, heap_alloc_at _ _, c1, fun k k1 k2 => ⟨?_, (c2 k k1 k2).2⟩⟩, .p h3'⟩
    exact (c2 k k1 k2).1.mono (fun b hb => (below_alloc' w _).block b (hokl b hb)) h1' (fun j hj => h4' j (AV.mem_idsL (List.getElem_mem k2) hj))

end Go.Proofs.Ytnemmdbafngppaa.Abs
