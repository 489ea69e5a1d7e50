/- Abstract symbolic execution, part 15: calls of functions that change what they are handed. No condition. -/
import Derived.Test.YtnemmdbafngppaaAbs14
set_option linter.unusedVariables false
set_option linter.unusedSimpArgs false
namespace Go.Proofs.Ytnemmdbafngppaa.Abs
open Go.RowKit
variable {C : Ctx} {ops : Array Oper} {o : Oper} {S : AState}

def modsG (ml ml' : List (Nat × AObj)) : List (Nat × Option AObj) := ml'.map (fun p => (p.1, some p.2)) ++ ml.map (fun p => (p.1, none))
theorem assoc_app (i : Nat) : ∀ (l1 l2 : List (Nat × Option AObj)), assoc i (l1 ++ l2) = match assoc i l1 with | some o => some o | none => assoc i l2
  | [], l2 => rfl
  | (j, o) :: r, l2 => by
    simp only [List.cons_append, assoc]
    cases Nat.beq i j with
    | true => rfl
    | false => simpa using assoc_app i r l2
theorem assoc_somes (i : Nat) : ∀ ml : List (Nat × AObj), assoc i (ml.map fun p => (p.1, some p.2)) = (lookO i ml).map some
  | [] => rfl
  | (j, o) :: r => by
    simp only [List.map_cons, assoc, lookO]
    cases Nat.beq i j with
    | true => rfl
    | false => simpa using assoc_somes i r
theorem assoc_nones (i : Nat) : ∀ ml : List (Nat × AObj), assoc i (ml.map fun p => (p.1, (none : Option AObj))) = (lookO i ml).map fun _ => none
  | [] => rfl
  | (j, o) :: r => by
    simp only [List.map_cons, assoc, lookO]
    cases Nat.beq i j with
    | true => rfl
    | false => simpa using assoc_nones i r
theorem assoc_modsG (i : Nat) (ml ml' : List (Nat × AObj)) : assoc i (modsG ml ml') = match lookO i ml' with | some o => some (some o) | none => (lookO i ml).map fun _ => none := by
  unfold modsG
  rw [assoc_app, assoc_somes, assoc_nones]
  cases lookO i ml' <;> rfl
theorem hasKey_modsG (i : Nat) (ml ml' : List (Nat × AObj)) : hasKey i (modsG ml ml') = ((lookO i ml').isSome || (lookO i ml).isSome) := by
  rw [hasKey_assoc, assoc_modsG]
  cases lookO i ml' <;> cases lookO i ml <;> rfl

def MemL (S : AState) : List (Nat × AObj) → Prop
  | [] => True
  | p :: r => S.mem p.1 = some p.2 ∧ MemL S r
theorem MemL.get {S : AState} : ∀ {ml : List (Nat × AObj)}, MemL S ml → ∀ p ∈ ml, S.mem p.1 = some p.2
  | q :: r, h, p, hp => by
    rcases List.mem_cons.1 hp with rfl | hp
    · exact h.1
    · exact MemL.get h.2 p hp
/-- How an argument may be taken. -/
inductive Pass : AV → AV → Prop
  | t {x y : T} (hc : Conv x y) : Pass (.t x) (.t y)
  | same (x : AV) : Pass x x
inductive PassL : List AV → List AV → Prop
  | nil : PassL [] []
  | cons {x y : AV} {l r : List AV} (h : Pass x y) (hl : PassL l r) : PassL (x :: l) (y :: r)
theorem PassL.refl : ∀ l : List AV, PassL l l
  | [] => .nil
  | x :: r => .cons (.same x) (PassL.refl r)
theorem PassL.len {l r : List AV} (h : PassL l r) : l.length = r.length := by induction h <;> simp [*]
theorem PassL.get {l r : List AV} (h : PassL l r) : ∀ i (h1 : i < l.length) (h2 : i < r.length), Pass l[i] r[i] := by
  induction h with
  | nil => intro i h1; simp at h1
  | cons hc _ ih =>
    intro i h1 h2
    cases i with
    | zero => exact hc
    | succ i => simpa using ih i (by simpa using h1) (by simpa using h2)
theorem Pass.rel {w : World} {ok : Nat → Prop} {β : Nat → Value} {v : Value} {x y : AV} (h : Pass x y) (hv : VRel w ok β v x) : VRel w ok β v y := by
  cases h with
  | t hc => exact .t (hc.reads hv.tD)
  | same x => exact hv
theorem ORel.ctx {C C' : Ctx} (hc : C'.w0 = C.w0) {ok : Nat → Prop} {β : Nat → Value} {w : World} {i : Nat} {o : AObj} (h : ORel C ok β w i o) : ORel C' ok β w i o := by
  cases o with
  | box E cells => obtain ⟨b, arr, h1, h2, h3⟩ := h; exact ⟨b, arr, h1, by rw [hc]; exact h2, h3⟩
  | row E sz l => obtain ⟨cells, h1, h2⟩ := h; exact ⟨cells, by rw [hc]; exact h1, h2⟩
  | buf E sz cap l => obtain ⟨g, cur, h1, h2, h3⟩ := h; exact ⟨g, cur, h1, by rw [hc]; exact h2, h3⟩
def closedB (res : AV) (ml' : List (Nat × AObj)) : Bool := (res.ids.all fun i => (lookO i ml').isSome) && ml'.all fun p => p.2.ids.all fun i => (lookO i ml').isSome

theorem step_callG {f : FuncId} {args : Array Operand} {tys : Array TypeId} {anc : List Nat} {sl : List AV} {ml ml' : List (Nat × AObj)} {res : AV} (ho : o.op = .call { callee := .value (.func f), args := args, argTypes := tys })
    (hp : PassL (args.toList.map (evalS S)) sl) (hm : MemL S ml) (hh : HasG C.P f anc sl ml res ml') (hanc : (anc.all fun i => isBox (lookO i ml)) = true) (hnew : (ml'.all fun p => anc.any (Nat.beq p.1) || !(S.used p.1)) = true)
    (hcl : closedB res ml' = true) (hca : (C.anc.all fun p => anc.any (Nat.beq p.1) || !((lookO p.1 ml).isSome)) = true) (hd : dOk C.n o.dst = true) : Step C ops o S ⟨res, modsG ml ml', []⟩ := by
  classical
  intro S₁ hs hmm a w hsat
  obtain ⟨β, hb⟩ := hsat
  have hml1 : ∀ i q, lookO i ml = some q → S₁.mem i = some q := fun i q hi => by
    rw [(hmm i (.inr (by rw [hasKey_modsG, hi]; simp))).1]
    exact hm.get (i, q) (lookO_mem hi)
  let ownM : Nat → Prop := fun b => ∃ i q, lookO i ml = some q ∧ blk (β i) = some b
  let ban : Nat → Prop := fun b => owned S₁ β b ∨ ∃ x, C.keep b = some (x, true)
  let keep' : Nat → Option (Obj × Bool) := fun b => if ownM b then none else (w.heap[b]?).map fun x => (x, decide (ban b))
  have hk1 : ∀ b x, keep' b = some x → ¬ ownM b ∧ w.heap[b]? = some x.1 ∧ x.2 = decide (ban b) := by
    intro b x hx
    simp only [keep'] at hx
    split at hx
    · cases hx
    · rename_i hno
      cases hw : w.heap[b]? with
      | none => rw [hw] at hx; cases hx
      | some y => rw [hw] at hx; injection hx with hx; subst hx; exact ⟨hno, rfl, rfl⟩
  have hk2 : ∀ b, ¬ ownM b → b < w.heap.size → ∃ y, w.heap[b]? = some y ∧ keep' b = some (y, decide (ban b)) := by
    intro b hno hlt
    obtain ⟨y, hy⟩ : ∃ y, w.heap[b]? = some y := ⟨_, Array.getElem?_eq_getElem hlt⟩
    exact ⟨y, hy, by simp only [keep', if_neg hno, hy]; rfl⟩
  have hownM : ∀ b, ownM b → owned S₁ β b := fun b ⟨i, q, hi, hbl⟩ => ⟨i, q, hml1 i q hi, hbl⟩
  have hokin : ∀ b, okS C S₁ β w b → okS ⟨C.P, C.w0, C.ok0, sl.length, keep', anc.map fun i => (i, β i)⟩ (mkS (enumA 0 sl) ml) β w b := by
    intro b hb'
    refine ⟨⟨hb'.1.1, fun x hx => ?_⟩, hb'.2.1, fun ⟨i, q, hi, hbl⟩ => hb'.2.2 ⟨i, q, hml1 i q hi, hbl⟩⟩
    obtain ⟨_, _, h3⟩ := hk1 b _ hx
    have h3 : ban b := by simpa using h3.symm
    rcases h3 with h3 | ⟨y, h3⟩
    · exact hb'.2.2 h3
    · exact hb'.1.2 y h3
  have hlen := hp.len
  simp only [List.length_map, Array.length_toList] at hlen
  have hsat' : SatB ⟨C.P, C.w0, C.ok0, sl.length, keep', anc.map fun i => (i, β i)⟩ β (mkS (enumA 0 sl) ml) ⟨args.map a.eval, []⟩ w := by
    refine ⟨by simpa using hlen, rfl, hb.below, hb.ok0, fun x => ?_, fun i q hi => ?_, fun i j q q' hi hj hne b hbi => hb.apart i j q q' (hml1 i q hi) (hml1 j q' hj) hne b hbi, fun x i hi => ?_, fun j q hj => ⟨?_, fun i hi => ?_⟩, fun b x hx => ?_, fun p hpp => ?_⟩
    · show VRel w _ β _ (lookA x (enumA 0 sl))
      rw [lookA_enum, if_pos (Nat.zero_le _), Nat.sub_zero]
      by_cases hx : x < sl.length
      · have hx' : x < args.size := by omega
        rw [List.getElem?_eq_getElem hx]
        have h1 := hp.get x (by simpa using hx') hx
        simp only [List.getElem_map, Array.getElem_toList] at h1
        have h2 := hb.eval args[x]
        rw [agree_eval hs (by simp [ho, Op.operands, Call.operands])] at h2
        have e : (args.map a.eval).getD x undef = a.eval args[x] := by simp [Array.getD, hx']
        show VRel w _ β ((args.map a.eval).getD x undef) sl[x]
        rw [e]
        exact (h1.rel h2).mono (fun _ _ => rfl) hokin (fun _ _ => rfl)
      · rw [List.getElem?_eq_none (by omega)]; exact .junk _
    · exact ((hb.mem i q (hml1 i q hi)).mono (fun _ _ => rfl) (fun _ _ => rfl) hokin rfl (fun _ _ => rfl)).ctx rfl
    · show usedBy _ ml i = true
      unfold usedBy
      rw [Bool.or_eq_true]; left
      rw [List.any_eq_true]
      have hi' : i ∈ (lookA x (enumA 0 sl)).ids := hi
      rcases lookA_mem (x := x) (sl := enumA 0 sl) with h1 | h1
      · rw [h1] at hi'; simp [AV.ids] at hi'
      · exact ⟨_, h1, any_beq.2 hi'⟩
    · show usedBy _ ml j = true
      unfold usedBy
      rw [Bool.or_eq_true]; right
      rw [List.any_eq_true]
      exact ⟨_, lookO_mem hj, by simp [Nat.beq_refl]⟩
    · show usedBy _ ml i = true
      unfold usedBy
      rw [Bool.or_eq_true]; right
      rw [List.any_eq_true]
      exact ⟨_, lookO_mem hj, by rw [Bool.or_eq_true]; exact .inr (any_beq.2 hi)⟩
    · obtain ⟨h1, h2, _⟩ := hk1 b x hx
      exact ⟨h2, fun ⟨i, q, hi, hbl⟩ => h1 ⟨i, q, hi, hbl⟩⟩
    · obtain ⟨i, hi, rfl⟩ := List.mem_map.1 hpp
      have := (List.all_eq_true.1 hanc) i hi
      refine ⟨rfl, ?_⟩
      show ∃ E cells, lookO i ml = some (.box E cells)
      generalize lookO i ml = q at this
      cases q with
      | none => cases this
      | some q => cases q with
        | box E cells => exact ⟨E, cells, rfl⟩
        | row E sz l => cases this
        | buf E sz cap l => cases this
  have hcall := hh.2 C.w0 C.ok0 keep' β (args.map a.eval) w (by simpa using hlen) ⟨β, hsat'⟩
  have hr : (execOp a.eval o).run C.P w = .ok (.enter f (args.map a.eval)) w := by
    simp only [execOp, ho, resolve, Act.eval, Deferred.ofValue, Sem.run_bind, Sem.run_pure, Result.andThen_ok, invoke, Array.empty_append, Array.append_empty, run_callFunc hh.1]
  unfold Oper.wp
  rw [hr, Oper.upon_enter]
  refine hcall.mono ?_
  rintro e w' ⟨v, rfl, β', hb'⟩
  show Sat C _ _ w'
  rw [ap_modS]
  let β'' : Nat → Value := fun i => if (lookO i ml').isSome then β' i else β i
  have hin : ∀ i q, lookO i ml' = some q → β'' i = β' i := fun i q hi => by simp [β'', hi]
  have hout : ∀ i, lookO i ml' = none → β'' i = β i := fun i hi => by simp [β'', hi]
  have hanc' : ∀ i, i ∈ anc → β' i = β i ∧ ∃ E cells, lookO i ml' = some (.box E cells) := fun i hi => hb'.anc (i, β i) (List.mem_map.2 ⟨i, hi, rfl⟩)
  have hfresh : ∀ i q, lookO i ml' = some q → S₁.used i = true → i ∈ anc := by
    intro i q hi hu
    have := (List.all_eq_true.1 hnew) _ (lookO_mem hi)
    rw [Bool.or_eq_true] at this
    rcases this with h1 | h1
    · exact any_beq.1 h1
    · rw [← (hmm i (.inr (by rw [hasKey_modsG, hi]; rfl))).2, hu] at h1; cases h1
  have hagree : ∀ i, S₁.used i = true → β'' i = β i := by
    intro i hu
    cases hi : lookO i ml' with
    | none => exact hout i hi
    | some q => rw [hin i q hi]; exact (hanc' i (hfresh i q hi hu)).1
  have hmem2 : ∀ i, (modS (modsG ml ml') S₁).mem i = match lookO i ml' with | some q => some q | none => if (lookO i ml).isSome then none else S₁.mem i := by
    intro i
    simp only [modS, assoc_modsG]
    cases lookO i ml' with
    | some q => rfl
    | none => cases lookO i ml <;> rfl
  have hused2 : ∀ i, (modS (modsG ml ml') S₁).used i = (S₁.used i || ((lookO i ml').isSome || (lookO i ml).isSome)) := fun i => by simp only [modS, hasKey_modsG]
  have hnot : ∀ i q b, S₁.mem i = some q → lookO i ml = none → blk (β i) = some b → ¬ ownM b := by
    rintro i q b hi hml hbl ⟨j, q', hj, hbj⟩
    have hne : j ≠ i := fun e => by subst e; rw [hml] at hj; cases hj
    exact hb.apart j i q' q (hml1 j q' hj) hi hne b hbj hbl
  have hkept : ∀ b, ¬ ownM b → b < w.heap.size → w'.heap[b]? = w.heap[b]? ∧ ¬ owned (mkS [(0, res)] ml') β' b := by
    intro b hno hlt
    obtain ⟨y, h1, h2⟩ := hk2 b hno hlt
    obtain ⟨h3, h4⟩ := hb'.keep b _ h2
    exact ⟨h3.trans h1.symm, h4⟩
  have howned2 : ∀ b, owned (modS (modsG ml ml') S₁) β'' b → owned (mkS [(0, res)] ml') β' b ∨ ∃ i q, lookO i ml' = none ∧ lookO i ml = none ∧ S₁.mem i = some q ∧ blk (β i) = some b := by
    rintro b ⟨i, q, hi, hbl⟩
    rw [hmem2] at hi
    cases h1 : lookO i ml' with
    | some q' => rw [h1] at hi; rw [hin i q' h1] at hbl; exact .inl ⟨i, q', h1, hbl⟩
    | none =>
      rw [h1] at hi
      rw [hout i h1] at hbl
      cases h2 : lookO i ml with
      | some q' => rw [h2] at hi; cases hi
      | none => rw [h2] at hi; exact .inr ⟨i, q, h1, h2, hi, hbl⟩
  have hlt' : ∀ b, ¬ ownM b → b < w.heap.size → b < w'.heap.size := by
    intro b hno hlt
    have := (hkept b hno hlt).1
    rw [Array.getElem?_eq_getElem hlt] at this
    exact (Array.getElem?_eq_some_iff.1 this).1
  have hok1 : ∀ b, okS C S₁ β w b → okS C (modS (modsG ml ml') S₁) β'' w' b := by
    intro b hb2
    have hno : ¬ ownM b := fun h => hb2.2.2 (hownM b h)
    refine ⟨hb2.1, hlt' b hno hb2.2.1, fun ho2 => ?_⟩
    rcases howned2 b ho2 with h1 | ⟨i, q, _, _, h3, h4⟩
    · exact (hkept b hno hb2.2.1).2 h1
    · exact hb2.2.2 ⟨i, q, h3, h4⟩
  have hok2 : ∀ b, okS ⟨C.P, C.w0, C.ok0, 1, keep', anc.map fun i => (i, β i)⟩ (mkS [(0, res)] ml') β' w' b → okS C (modS (modsG ml ml') S₁) β'' w' b := by
    intro b hb2
    have hnb : ∀ x, keep' b ≠ some (x, true) := hb2.1.2
    refine ⟨⟨hb2.1.1, fun x hx => ?_⟩, hb2.2.1, fun ho2 => ?_⟩
    · have h1 := hb.keep b _ hx
      have hno : ¬ ownM b := fun h => h1.2 (hownM b h)
      obtain ⟨y, _, h3⟩ := hk2 b hno (hb.keep_lt hx)
      rw [decide_eq_true (show ban b from .inr ⟨x, hx⟩)] at h3
      exact hnb y h3
    · rcases howned2 b ho2 with h1 | ⟨i, q, h1, h2, h3, h4⟩
      · exact hb2.2.2 h1
      · obtain ⟨y, _, h6⟩ := hk2 b (hnot i q b h3 h2 h4) ((hb.mem i q h3).lt h4).2
        rw [decide_eq_true (show ban b from .inl ⟨i, q, h3, h4⟩)] at h6
        exact hnb y h6
  have hheap : ∀ b, okS C S₁ β w b → w'.heap[b]? = w.heap[b]? := fun b hb2 => (hkept b (fun h => hb2.2.2 (hownM b h)) hb2.2.1).1
  have hcl1 : ∀ i, i ∈ res.ids → (lookO i ml').isSome = true := by
    simp only [closedB, Bool.and_eq_true, List.all_eq_true] at hcl
    exact hcl.1
  have hcl2 : ∀ j q, lookO j ml' = some q → ∀ i ∈ q.ids, (lookO i ml').isSome = true := by
    simp only [closedB, Bool.and_eq_true, List.all_eq_true] at hcl
    exact fun j q hj i hi => hcl.2 _ (lookO_mem hj) i hi
  have hin2 : ∀ i, (lookO i ml').isSome = true → β'' i = β' i := fun i hi => by simp [β'', hi]
  have hsb : SatB C β'' (modS (modsG ml ml') S₁) a w' := by
    refine hb.change hb'.below hheap hok1 hagree rfl (fun i hi => by rw [hused2, hi]; rfl) (fun i q hi => ?_) (fun i j q q' hi hj hne b hbi hbj => ?_) (fun j q hj => ?_) (fun b x hx => ?_) (fun p hpp => ?_)
    · rw [hmem2] at hi
      cases h1 : lookO i ml' with
      | some q' =>
        rw [h1] at hi; injection hi with hi; subst hi
        exact ((hb'.mem i q' h1).mono (fun _ _ => rfl) (fun _ _ => rfl) hok2 (hin i q' h1) (fun j hj => hin2 j (hcl2 i q' h1 j hj))).ctx rfl
      | none =>
        rw [h1] at hi
        cases h2 : lookO i ml with
        | some q' => rw [h2] at hi; cases hi
        | none =>
          rw [h2] at hi
          have hi' : S₁.mem i = some q := hi
          exact (hb.mem i q hi').mono (fun b hbl => (hkept b (hnot i q b hi' h2 hbl) ((hb.mem i q hi').lt hbl).2).1) hheap hok1 (hout i h1) (fun j hj => hagree j ((hb.wfm i q hi').2 j hj))
    · have clash : ∀ i j q, lookO i ml' ≠ none → lookO j ml' = none → lookO j ml = none → S₁.mem j = some q → blk (β'' i) = some b → blk (β'' j) = some b → False := by
        intro i j q h1 h2 h3 h4 h5 h6
        rw [hout j h2] at h6
        cases h7 : lookO i ml' with
        | none => exact h1 h7
        | some q' =>
          rw [hin i q' h7] at h5
          exact (hkept b (hnot j q b h4 h3 h6) ((hb.mem j q h4).lt h6).2).2 ⟨i, q', h7, h5⟩
      have hcase : ∀ i q, (modS (modsG ml ml') S₁).mem i = some q → (lookO i ml' = some q) ∨ (lookO i ml' = none ∧ lookO i ml = none ∧ S₁.mem i = some q) := by
        intro i q hi
        rw [hmem2] at hi
        cases h1 : lookO i ml' with
        | some q' => rw [h1] at hi; exact .inl hi
        | none =>
          rw [h1] at hi
          cases h2 : lookO i ml with
          | some q' => rw [h2] at hi; cases hi
          | none => rw [h2] at hi; exact .inr ⟨rfl, rfl, hi⟩
      rcases hcase i q hi with h1 | ⟨h1, h2, h3⟩ <;> rcases hcase j q' hj with g1 | ⟨g1, g2, g3⟩
      · rw [hin i q h1] at hbi
        rw [hin j q' g1] at hbj
        exact hb'.apart i j q q' h1 g1 hne b hbi hbj
      · exact clash i j q' (by rw [h1]; simp) g1 g2 g3 hbi hbj
      · exact clash j i q (by rw [g1]; simp) h1 h2 h3 hbj hbi
      · rw [hout i h1] at hbi
        rw [hout j g1] at hbj
        exact hb.apart i j q q' h3 g3 hne b hbi hbj
    · rw [hmem2] at hj
      cases h1 : lookO j ml' with
      | some q' =>
        rw [h1] at hj; injection hj with hj; subst hj
        exact ⟨by rw [hused2, h1]; simp, fun i hi => by rw [hused2, hcl2 j q' h1 i hi]; simp⟩
      | none =>
        rw [h1] at hj
        cases h2 : lookO j ml with
        | some q' => rw [h2] at hj; cases hj
        | none =>
          rw [h2] at hj
          obtain ⟨g1, g2⟩ := hb.wfm j q hj
          exact ⟨by rw [hused2, g1]; rfl, fun i hi => by rw [hused2, g2 i hi]; rfl⟩
    · obtain ⟨h1, h2⟩ := hb.keep b x hx
      have hno : ¬ ownM b := fun h => h2 (hownM b h)
      have hlt := hb.keep_lt hx
      refine ⟨(hkept b hno hlt).1.trans h1, fun ho2 => ?_⟩
      rcases howned2 b ho2 with h3 | ⟨i, q, _, _, h3, h4⟩
      · exact (hkept b hno hlt).2 h3
      · exact h2 ⟨i, q, h3, h4⟩
    · obtain ⟨h1, E, cells, h2⟩ := hb.anc p hpp
      have hu := (hb.wfm _ _ h2).1
      refine ⟨(hagree _ hu).trans h1, ?_⟩
      rw [hmem2]
      have := (List.all_eq_true.1 hca) p hpp
      rw [Bool.or_eq_true] at this
      rcases this with h3 | h3
      · obtain ⟨_, E', c', h4⟩ := hanc' _ (any_beq.1 h3)
        exact ⟨E', c', by rw [h4]⟩
      · cases h4 : lookO p.1 ml' with
        | some q =>
          obtain ⟨_, E', c', h5⟩ := hanc' _ (hfresh _ q h4 hu)
          rw [h5] at h4; injection h4 with h4
          exact ⟨E', c', by rw [← h4]⟩
        | none =>
          have h5 : lookO p.1 ml = none := by
            cases h6 : lookO p.1 ml with
            | none => rfl
            | some q => rw [h6] at h3; cases h3
          rw [h5]
          exact ⟨E, cells, h2⟩
  have hv := hb'.slot 0
  refine ⟨β'', hsb.put o.dst v res (fun _ _ _ => ?_) (fun x hx => .inl ?_) (fun i hi => ?_)⟩
  · exact VRel.mono hv (fun _ _ => rfl) hok2 (fun i hi => hin2 i (hcl1 i hi))
  · rw [hx] at hd; simpa [dOk] using hd
  · rw [hused2, hcl1 i hi]; simp

end Go.Proofs.Ytnemmdbafngppaa.Abs
