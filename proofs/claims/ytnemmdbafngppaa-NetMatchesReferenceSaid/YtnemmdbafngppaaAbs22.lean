/- Abstract symbolic execution, part 22: variables that nobody writes any more; closures over such variables. No condition. -/
import Derived.Test.YtnemmdbafngppaaAbs21
set_option linter.unusedVariables false
set_option linter.unusedSimpArgs false
namespace Go.Proofs.Ytnemmdbafngppaa.Abs
open Go.RowKit
variable {C : Ctx} {ops : Array Oper} {o : Oper} {S : AState}

/-- A variable given up, of whose cells each is a tree, reads as a pointer to these. -/
theorem SatB.free_ptr {β : Nat → Value} {a : Act} {w : World} (h : SatB C β S a w) {i E : Nat} {cells : List AV} {ts : List T} (hm : S.mem i = some (.box E cells)) (ht : trees cells = some ts) {v : Value} (hv : VRel w (okS C S β w) β v (.p i 0)) :
    Reads w (okS C (modS [(i, none)] S) β w) v (.ptr ts) := by
  have hmm : ∀ j q, (modS [(i, none)] S).mem j = some q → j ≠ i ∧ S.mem j = some q := fun j q hj => by
    have := (modS_one (i := i) (x := none) (S := S) (j := j)).1
    rw [this] at hj
    split at hj
    · cases hj
    · rename_i hne; exact ⟨hne, hj⟩
  have hok : ∀ b, okS C S β w b → okS C (modS [(i, none)] S) β w b := fun b hb => ⟨hb.1, hb.2.1, fun ⟨j, q, hj, hbl⟩ => hb.2.2 ⟨j, q, (hmm j q hj).2, hbl⟩⟩
  obtain ⟨b, h1, h2⟩ := hv.pD
  have hO := h.mem i _ hm
  have hlt := hO.lt (b := b) (by rw [h1]; rfl)
  obtain ⟨b', arr, g1, g2, g3, g4, g5⟩ := hO
  rw [h1] at g1; injection g1 with g1; injection g1 with g1; injection g1 with g1; subst g1
  have hsp := trees_spec ht; subst hsp
  have hin : ∀ k (hk : k < ts.length), ∃ hlt : k < arr.size, Reads w (okS C S β w) arr[k] ts[k] ∧ arr[k].oneCell' = true := fun k hk => by
    have hk' : k < arr.size := by rw [g4]; simpa using hk
    have := g5 k hk' (by simpa using hk)
    simp only [List.getElem_map] at this
    exact ⟨hk', this.1.tD, this.2⟩
  rw [h2]
  refine .ptr (fun k => arr.getD k undef) ⟨⟨.inr hlt.1, fun x hx => (h.keep b _ hx).2 ⟨i, _, hm, by rw [h1]; rfl⟩⟩, hlt.2, ?_⟩ (fun k hk => ?_) (fun k hk => ?_)
  · rintro ⟨j, q, hj, hbl⟩
    obtain ⟨e1, e2⟩ := hmm j q hj
    exact h.apart j i q _ e2 hm e1 b hbl (by rw [h1]; rfl)
  · obtain ⟨hk', _, h3⟩ := hin k hk
    rw [add_plain', Nat.zero_add, cell_of_block g3]
    exact ⟨by simp [Array.getD, hk'], by simpa [Array.getD, hk'] using h3⟩
  · obtain ⟨hk', h3, _⟩ := hin k hk
    simpa [Array.getD, hk'] using h3.mono (fun _ _ => rfl) hok

/-- Objects given up, one by one. -/
def freeL (S : AState) : List Nat → AState
  | [] => S
  | i :: r => freeL (modS [(i, none)] S) r
inductive PtrL (S : AState) : List Nat → List (List T) → Prop
  | nil : PtrL S [] []
  | cons {i E : Nat} {cells : List AV} {ts : List T} {r : List Nat} {tr : List (List T)} (hm : S.mem i = some (.box E cells)) (ht : trees cells = some ts) (h : PtrL S r tr) : PtrL S (i :: r) (ts :: tr)
theorem PtrL.other {S S' : AState} {r : List Nat} {tr : List (List T)} (h : PtrL S r tr) (hs : ∀ i ∈ r, S'.mem i = S.mem i) : PtrL S' r tr := by
  induction h with
  | nil => exact .nil
  | cons hm ht _ ih => exact .cons (by rw [hs _ (by simp)]; exact hm) ht (ih fun i hi => hs i (by simp [hi]))
theorem PtrL.len {S : AState} {r : List Nat} {tr : List (List T)} (h : PtrL S r tr) : r.length = tr.length := by induction h <;> simp [*]
theorem modS_free (S : AState) (i : Nat) (m : List (Nat × Option AObj)) : ∀ j, (modS m (modS [(i, none)] S)).mem j = (match assoc j m with | some o => o | none => if j = i then none else S.mem j) := by
  intro j
  simp only [modS]
  cases assoc j m with
  | some o => rfl
  | none =>
    have := (modS_one (i := i) (x := none) (S := S) (j := j)).1
    simpa [modS] using this
theorem freeL_reads {β : Nat → Value} {a : Act} {w : World} : ∀ {is : List Nat} {tss : List (List T)} {S : AState}, SatB C β S a w → PtrL S is tss → nodupB is = true → (is.all fun i => C.anc.all fun p => !(Nat.beq p.1 i)) = true →
    SatB C β (freeL S is) a w ∧ (∀ b, okS C S β w b → okS C (freeL S is) β w b) ∧ ∀ k (h1 : k < is.length) (h2 : k < tss.length) (v : Value), VRel w (okS C S β w) β v (.p is[k] 0) → Reads w (okS C (freeL S is) β w) v (.ptr tss[k])
  | [], _, S, h, hp, _, _ => by
    cases hp
    exact ⟨h, fun _ hb => hb, fun k h1 => by simp at h1⟩
  | i :: r, _, S, h, .cons (ts := ts) (tr := tr) hm ht hp, hn, ha => by
    simp only [nodupB, Bool.and_eq_true, Bool.not_eq_true'] at hn
    simp only [List.all_cons, Bool.and_eq_true] at ha
    have hf := h.free i ha.1
    have hne : ∀ j ∈ r, j ≠ i := fun j hj e => by subst e; rw [any_beq.2 hj] at hn; cases hn.1
    have hp' : PtrL (modS [(i, none)] S) r tr := hp.other fun j hj => by rw [modS_one.1, if_neg (hne j hj)]
    obtain ⟨a1, a2, a3⟩ := freeL_reads hf hp' hn.2 ha.2
    have hok : ∀ b, okS C S β w b → okS C (modS [(i, none)] S) β w b := fun b hb => ⟨hb.1, hb.2.1, fun ⟨j, q, hj, hbl⟩ => by
      rw [modS_one.1] at hj
      split at hj
      · cases hj
      · exact hb.2.2 ⟨j, q, hj, hbl⟩⟩
    refine ⟨a1, fun b hb => a2 b (hok b hb), fun k h1 h2 v hv => ?_⟩
    cases k with
    | zero => exact (h.free_ptr hm ht hv).mono (fun _ _ => rfl) a2
    | succ k => exact a3 k (by simpa using h1) (by simpa using h2) v (hv.mono (fun _ _ => rfl) hok (fun _ _ => rfl))
theorem freeL_eq (is : List Nat) : ∀ (S : AState), (∀ j, (freeL S is).mem j = (modS (is.map fun i => (i, (none : Option AObj))) S).mem j) ∧ (∀ j, (freeL S is).used j = (modS (is.map fun i => (i, (none : Option AObj))) S).used j) ∧ (freeL S is).slot = S.slot := by
  induction is with
  | nil => intro S; exact ⟨fun j => rfl, fun j => by simp [freeL, modS, hasKey], rfl⟩
  | cons i r ih =>
    intro S
    obtain ⟨h1, h2, h3⟩ := ih (modS [(i, none)] S)
    refine ⟨fun j => ?_, fun j => ?_, h3⟩
    · show (freeL (modS [(i, none)] S) r).mem j = _
      rw [h1, modS_free]
      simp only [modS, List.map_cons, assoc]
      cases hb : Nat.beq j i with
      | true =>
        have := Nat.eq_of_beq_eq_true hb
        subst this
        simp only [cond_true]
        have hany : ∀ l : List Nat, (match assoc j (l.map fun i => (i, (none : Option AObj))) with | some o => o | none => if j = j then none else S.mem j) = none := by
          intro l
          induction l with
          | nil => simp [assoc]
          | cons x l ih => simp only [List.map_cons, assoc]; cases Nat.beq j x <;> simp_all
        simpa using hany r
      | false =>
        have hne : j ≠ i := fun e => by subst e; rw [Nat.beq_refl] at hb; cases hb
        simp only [hne, if_false, cond_false]
        cases assoc j (List.map (fun i => (i, (none : Option AObj))) r) <;> rfl
    · show (freeL (modS [(i, none)] S) r).used j = _
      rw [h2]
      simp only [modS, List.map_cons, hasKey]
      cases Nat.beq j i <;> simp
/-- A closure over variables that nobody writes from then on. -/
theorem step_makeFuncP {g : FuncId} {caps : Array Operand} (is : List Nat) {tss : List (List T)} (ho : o.op = .makeFunc (.func g) #[] caps) (hc : caps.toList.map (evalS S) = is.map (fun i => AV.p i 0)) (hp : PtrL S is tss) (hn : nodupB is = true)
    (ha : (is.all fun i => C.anc.all fun p => !(Nat.beq p.1 i)) = true) (hd : dOk C.n o.dst = true) : Step C ops o S ⟨.t (.clo g (tss.map T.ptr)), is.map (fun i => (i, none)), []⟩ := by
  intro S₁ hsl hmm a w hsat
  obtain ⟨β, hb⟩ := hsat
  have hp1 : PtrL S₁ is tss := hp.other fun i hi => (hmm i (.inr (by
    rw [hasKey_iff]; exact ⟨none, List.mem_map.2 ⟨i, hi, rfl⟩⟩))).1
  obtain ⟨a1, a2, a3⟩ := freeL_reads hb hp1 hn ha
  have hlen : caps.size = is.length := by have := congrArg List.length hc; simpa using this
  have hl2 := hp1.len
  have hcap : ∀ k (h : k < caps.size), VRel w (okS C S₁ β w) β (a.eval caps[k]) (.p is[k] 0) := fun k h => by
    have hv := hb.eval caps[k]
    rw [agree_eval hsl (by simp [ho, Op.operands])] at hv
    have : (caps.toList.map (evalS S))[k]? = (is.map (fun i => AV.p i 0))[k]? := by rw [hc]
    have h' : k < is.length := by omega
    simp [h, h'] at this
    rw [this] at hv
    exact hv
  have hrun : (execOp a.eval o).run C.P w = .ok (.value (.func (.func g) #[] (caps.map a.eval))) w := by
    simp [execOp, ho, Instr.makeFunc]
  refine Oper.wp_value hrun ?_
  rw [ap_modS]
  obtain ⟨e1, e2, e3⟩ := freeL_eq is S₁
  have hS : freeL S₁ is = modS (is.map fun i => (i, (none : Option AObj))) S₁ := by
    have hm : (freeL S₁ is).mem = (modS (is.map fun i => (i, (none : Option AObj))) S₁).mem := funext e1
    have hu : (freeL S₁ is).used = (modS (is.map fun i => (i, (none : Option AObj))) S₁).used := funext e2
    have hs : (freeL S₁ is).slot = (modS (is.map fun i => (i, (none : Option AObj))) S₁).slot := e3
    cases hq : freeL S₁ is
    cases hq2 : modS (is.map fun i => (i, (none : Option AObj))) S₁
    rw [hq, hq2] at hm hu hs
    simp only at hm hu hs
    rw [hm, hu, hs]
  rw [hS] at a1 a2 a3
  refine ⟨β, a1.put o.dst _ (.t (.clo g (tss.map T.ptr))) (fun _ _ _ => .t (.clo (by simp; omega) fun k k1 k2 => ?_)) (fun z hz => .inl ?_) (by simp [AV.ids])⟩
  · have hk : k < caps.size := by simpa using k1
    simp only [List.length_map] at k2
    simp only [Array.getElem_map, List.getElem_map]
    exact a3 k (by omega) k2 _ (hcap k hk)
  · rw [hz] at hd; simpa [dOk] using hd

end Go.Proofs.Ytnemmdbafngppaa.Abs
