/- Abstract symbolic execution, part 11: contracts of functions, weakening of states. No condition. -/
import Derived.Test.YtnemmdbafngppaaAbs10
set_option linter.unusedVariables false
set_option linter.unusedSimpArgs false
namespace Go.Proofs.Ytnemmdbafngppaa.Abs
open Go.RowKit
variable {C : Ctx} {ops : Array Oper} {o : Oper} {S : AState}

/-! ### Contracts -/
def FnB (P : Program) (f : FuncId) : Prop := ∃ fn, P.funcs[f]? = some fn ∧ (fn.name == "runtime.NumGoroutine") = false ∧ fn.body.isNone = false
/-- Called with values that read as 'args' the function returns a value that reads as 'res', and changes nothing that was there. -/
def Has (P : Program) (f : FuncId) (args : List T) (res : T) : Prop := FnB P f ∧ ∀ (w : World) (ok : Nat → Prop) (vs : Array Value), (∀ b, ok b → b < w.heap.size) →
  vs.size = args.length → (∀ i (h1 : i < vs.size) (h2 : i < args.length), Reads w ok vs[i] args[i]) →
  Calls P f vs w fun e w' => ∃ v, e = .returned v ∧ Reads w' (fun b => ok b ∨ (w.heap.size ≤ b ∧ b < w'.heap.size)) v res ∧ Below w.heap.size w w'
/-- The same, where the result is a slice whose array is new and nobody else's. -/
def HasOwn (P : Program) (f : FuncId) (args : List T) (E sz : Nat) (l : List T) : Prop := FnB P f ∧ ∀ (w : World) (ok : Nat → Prop) (vs : Array Value), (∀ b, ok b → b < w.heap.size) →
  vs.size = args.length → (∀ i (h1 : i < vs.size) (h2 : i < args.length), Reads w ok vs[i] args[i]) →
  Calls P f vs w fun e w' => ∃ v cells, e = .returned v ∧ w'.ownsRow w.heap.size E sz v l.length cells ∧ (∀ k (h : k < l.length), l[k].cells.length = sz) ∧
    (∀ k (h : k < l.length) j (hj : j < l[k].cells.length), ∃ u, cells[k * sz + j]? = some u ∧ Reads w' (fun b => ok b ∨ (w.heap.size ≤ b ∧ b < w'.heap.size ∧ v.ownBlock ≠ some b)) u l[k].cells[j] ∧ u.oneCell' = true) ∧
    Below w.heap.size w w'
inductive ConvL : List T → List T → Prop
  | nil : ConvL [] []
  | cons {a b : T} {l r : List T} (h : Conv a b) (hl : ConvL l r) : ConvL (a :: l) (b :: r)
theorem ConvL.refl : ∀ l : List T, ConvL l l
  | [] => .nil
  | x :: r => .cons (.refl x) (ConvL.refl r)
theorem ConvL.len {l r : List T} (h : ConvL l r) : l.length = r.length := by induction h <;> simp [*]
theorem ConvL.get {l r : List T} (h : ConvL l r) : ∀ i (h1 : i < l.length) (h2 : i < r.length), Conv l[i] r[i] := by
  induction h with
  | nil => intro i h1; simp at h1
  | cons hc _ ih =>
    intro i h1 h2
    cases i with
    | zero => exact hc
    | succ i => simpa using ih i (by simpa using h1) (by simpa using h2)

theorem run_callFunc {P : Program} {w : World} {f : FuncId} {args : Array Value} (h : FnB P f) : (callFunc f args).run P w = .ok (.enter f args) w := by
  obtain ⟨fn, h1, h2, h3⟩ := h
  simp only [callFunc, Sem.run_bind, run_program, Result.andThen_ok, h1, h2, Bool.false_eq_true, if_false, h3, Sem.run_pure]
theorem args_reads {args : Array Operand} {ts ts' : List T} {β : Nat → Value} {w : World} {ok : Nat → Prop} {ρ : Operand → Value} (hts : trees (args.toList.map (evalS S)) = some ts) (hc : ConvL ts ts')
    (hρ : ∀ x ∈ args, VRel w ok β (ρ x) (evalS S x)) : (args.map ρ).size = ts'.length ∧ ∀ i (h1 : i < (args.map ρ).size) (h2 : i < ts'.length), Reads w ok (args.map ρ)[i] ts'[i] := by
  have hsp := trees_spec hts
  have hl : args.size = ts.length := by have := congrArg List.length hsp; simpa using this
  have hl2 := hc.len
  refine ⟨by simp; omega, fun i h1 h2 => ?_⟩
  have hi : i < args.size := by simpa using h1
  have h3 : i < ts.length := by omega
  have he : evalS S args[i] = .t ts[i] := by
    have : (args.toList.map (evalS S))[i]? = (ts.map AV.t)[i]? := by rw [hsp]
    simpa [hi, h3] using this
  have := hρ args[i] (by simp)
  rw [he] at this
  simpa using (hc.get i h3 h2).reads this.tD

theorem Step.call {res : T} {f : FuncId} (hd : dOk C.n o.dst = true)
    (h : ∀ (β : Nat → Value) (w : World) (ok : Nat → Prop) (ρ : Operand → Value), (∀ b, ok b → b < w.heap.size) → (∀ x ∈ o.op.operands, VRel w ok β (ρ x) (evalS S x)) → (∀ f, ρ (.func f) = .func (.func f) #[] #[]) →
      ∃ vs, (execOp ρ o).run C.P w = .ok (.enter f vs) w ∧ Calls C.P f vs w fun e w' => ∃ v, e = .returned v ∧ Reads w' (fun b => ok b ∨ (w.heap.size ≤ b ∧ b < w'.heap.size)) v res ∧ Below w.heap.size w w') :
    Step C ops o S ⟨.t res, [], []⟩ := by
  intro S₁ hs hm a w hsat
  obtain ⟨β, hb⟩ := hsat
  obtain ⟨vs, hr, hcall⟩ := h β w (okS C S₁ β w) a.eval (fun b hb' => hb'.2.1) (fun x hx => by rw [← agree_eval hs hx]; exact hb.eval x) (fun _ => rfl)
  unfold Oper.wp
  rw [hr, Oper.upon_enter]
  refine hcall.mono ?_
  rintro e w' ⟨v, rfl, hv, hbel⟩
  show Sat C _ _ w'
  rw [ap_pure]
  have hg := hb.grow hbel
  refine ⟨β, hg.put o.dst v (.t res) (fun _ _ _ => .t (hv.mono (fun _ _ => rfl) fun b hb' => ?_)) (fun x hx => .inl ?_) (by simp [AV.ids])⟩
  · rcases hb' with hb' | ⟨h1, h2⟩
    · exact ⟨hb'.1, Nat.lt_of_lt_of_le hb'.2.1 hbel.size, hb'.2.2⟩
    · exact hb.fresh_ok h1 h2
  · rw [hx] at hd; simpa [dOk] using hd
theorem step_call {f : FuncId} {args : Array Operand} {tys : Array TypeId} {ts ts' : List T} {res : T} (ho : o.op = .call { callee := .value (.func f), args := args, argTypes := tys })
    (hts : trees (args.toList.map (evalS S)) = some ts) (hh : Has C.P f ts' res) (hc : ConvL ts ts') (hd : dOk C.n o.dst = true) : Step C ops o S ⟨.t res, [], []⟩ := by
  refine Step.call (f := f) hd fun β w ok ρ hokl hρ hf => ?_
  obtain ⟨a1, a2⟩ := args_reads (ρ := ρ) (w := w) (ok := ok) (β := β) hts hc (fun x hx => hρ x (by simp [ho, Op.operands, Call.operands, hx]))
  refine ⟨args.map ρ, ?_, hh.2 w ok _ hokl a1 a2⟩
  simp only [execOp, ho, resolve, hf, Deferred.ofValue, Sem.run_bind, Sem.run_pure, Result.andThen_ok, invoke, Array.empty_append, Array.append_empty, run_callFunc hh.1]
/-- A call of a closure. -/
theorem step_callC {x : Operand} {g : FuncId} {x' : T} {args : Array Operand} {tys : Array TypeId} {caps ts ts' : List T} {res : T} (ho : o.op = .call { callee := .value x, args := args, argTypes := tys })
    (hx : evalS S x = .t x') (hxc : Conv x' (.clo g caps)) (hts : trees (args.toList.map (evalS S)) = some ts) (hh : Has C.P g (ts' ++ caps) res) (hc : ConvL ts ts') (hd : dOk C.n o.dst = true) : Step C ops o S ⟨.t res, [], []⟩ := by
  refine Step.call (f := g) hd fun β w ok ρ hokl hρ hf => ?_
  obtain ⟨a1, a2⟩ := args_reads (ρ := ρ) (w := w) (ok := ok) (β := β) hts hc (fun x hx => hρ x (by simp [ho, Op.operands, Call.operands, hx]))
  have hvx := hρ x (by simp [ho, Op.operands, Call.operands])
  rw [hx] at hvx
  have hr := hxc.reads hvx.tD
  obtain ⟨vs, hq, b1, b2⟩ : ∃ vs, ρ x = .func (.func g) #[] vs ∧ vs.size = caps.length ∧ ∀ i (h1 : i < vs.size) (h2 : i < caps.length), Reads w ok vs[i] caps[i] := by
    generalize ρ x = q at hr
    cases hr with | clo hl h => exact ⟨_, rfl, hl, h⟩
  refine ⟨args.map ρ ++ vs, ?_, hh.2 w ok _ hokl (by simp; have := a1; simp at this; omega) (fun i h1 h2 => ?_)⟩
  · simp only [execOp, ho, resolve, hq, Deferred.ofValue, Sem.run_bind, Sem.run_pure, Result.andThen_ok, invoke, Array.empty_append, run_callFunc hh.1]
  · rw [Array.getElem_append, List.getElem_append]
    split <;> split
    · exact a2 i _ _
    · rename_i h3 h4; exact absurd (by omega) h4
    · rename_i h3 h4; exact absurd (by omega) h3
    · have e1 : (args.map ρ ++ vs).size = (args.map ρ).size + vs.size := Array.size_append
      have e2 : (ts' ++ caps).length = ts'.length + caps.length := List.length_append
      have := b2 (i - (args.map ρ).size) (by omega) (by omega)
      simpa [a1] using this
/-- A call whose result is a row of the call's own. -/
theorem step_callH {f : FuncId} {args : Array Operand} {tys : Array TypeId} {ts ts' l : List T} {E sz d : Nat} (ho : o.op = .call { callee := .value (.func f), args := args, argTypes := tys }) (hdst : o.dst = some d)
    (hts : trees (args.toList.map (evalS S)) = some ts) (hh : HasOwn C.P f ts' E sz l) (hc : ConvL ts ts') (hu : S.used d = false) (hd : dOk C.n o.dst = true) : Step C ops o S ⟨.h d, [(d, some (.row E sz l))], []⟩ := by
  intro S₁ hs hm a w hsat
  obtain ⟨β, hb⟩ := hsat
  have hu1 : S₁.used d = false := by rw [(hm d (.inr (by simp [hasKey, Nat.beq_refl]))).2]; exact hu
  obtain ⟨a1, a2⟩ := args_reads (ρ := a.eval) (w := w) (ok := okS C S₁ β w) (β := β) hts hc (fun x hx => by rw [← agree_eval hs (by simp [ho, Op.operands, Call.operands, hx])]; exact hb.eval x)
  have hcall := hh.2 w (okS C S₁ β w) _ (fun b hb' => hb'.2.1) a1 a2
  have hr : (execOp a.eval o).run C.P w = .ok (.enter f (args.map a.eval)) w := by
    simp only [execOp, ho, resolve, Act.eval, Deferred.ofValue, Sem.run_bind, Sem.run_pure, Result.andThen_ok, invoke, Array.empty_append, Array.append_empty, run_callFunc hh.1]
  unfold Oper.wp
  rw [hr, Oper.upon_enter]
  refine hcall.mono ?_
  rintro e w' ⟨v, cells, rfl, hown, hz, hcells, hbel⟩
  show Sat C _ _ w'
  rw [ap_modS]
  have hblk := ownsRow_blk hown
  obtain ⟨β', e1, e2, e3, e4, hsb⟩ := hb.new d hu1 (.row E sz l) v hbel (fun b hb' => by rw [hblk] at hb'; exact (hown.lt b hb').1) (by simp [AObj.ids]) (fun ok' β' h1 h2 h3 h4 => by
    refine ⟨cells, by rw [h3]; exact ownsRow_base hown hb.below.size, hz, fun k hk j hj => ?_⟩
    obtain ⟨u, g1, g2, g3⟩ := hcells k hk j hj
    refine ⟨u, g1, g2.mono (fun _ _ => rfl) (fun b hb' => ?_), g3⟩
    rcases hb' with hb' | ⟨k1, k2, k3⟩
    · exact h1 b hb'
    · exact h2 b k1 k2 (by rw [hblk]; exact k3))
  refine ⟨β', hsb.put o.dst v (.h d) (fun _ _ _ => by rw [← e1]; exact .h d) (fun x hx => .inl ?_) (fun j hj => ?_)⟩
  · rw [hx] at hd; simpa [dOk] using hd
  · simp only [AV.ids, List.mem_singleton] at hj; subst hj; rw [modS_one.2]; simp

/-! ### A row read as a slice -/
theorem row_reads {β : Nat → Value} {w : World} {ok ok' : Nat → Prop} {i E sz : Nat} {l : List T} (hO : ORel C ok β w i (.row E sz l)) (hk : ∀ b, ok b → ok' b) (hb : ∀ b, blk (β i) = some b → ok' b) : Reads w ok' (β i) (.slice sz l) := by
  obtain ⟨cells, h1, h2, h3⟩ := hO
  have hcell : ∀ k (hk' : k < l.length) j (hj : j < l[k].cells.length), Reads w ok' (cells.getD (k * sz + j) undef) l[k].cells[j] := by
    intro k hk' j hj
    obtain ⟨u, e1, e2, _⟩ := h3 k hk' j hj
    rw [List.getD_eq_getElem?_getD, e1]
    exact e2.mono (fun _ _ => rfl) hk
  have hn := ownsRow_blk h1
  have hlen := h1.1
  rcases h1.2 with ⟨e, h0⟩ | ⟨g, cap, cur, e, hg1, hg2, hg3, hg4, hg5, hg6⟩
  · rw [e]
    have hl0 : l = [] := List.eq_nil_of_length_eq_zero h0
    subst hl0
    exact .slice (l := []) (fun _ => undef) (Nat.le_refl _) (Nat.zero_le _) (fun i h => by simp at h) (fun h => by simp at h) (fun i h => by simp at h)
  · rw [e]
    refine .slice (fun k => cells.getD k undef) hg3 hg4 h2 (fun hp => ⟨_, rfl, hb g (by rw [e]; rfl), fun k hk' => ?_⟩) hcell
    have h1' := h1
    rw [e] at h1'
    have hc := h1'.cellAt k hk'
    have hk2 : k < cells.length := by omega
    rw [add_plain', Nat.zero_add, hc, List.getElem?_eq_getElem hk2]
    have hz : 0 < sz := Nat.pos_of_mul_pos_left hp
    have hdiv : k / sz < l.length := Nat.div_lt_of_lt_mul (by rw [Nat.mul_comm]; exact hk')
    have hj : k % sz < l[k / sz].cells.length := by rw [h2]; exact Nat.mod_lt _ hz
    obtain ⟨u, e1, e2, e3⟩ := h3 (k / sz) hdiv (k % sz) hj
    have hkk : k / sz * sz + k % sz = k := Nat.div_add_mod' k sz
    rw [hkk, List.getElem?_eq_getElem hk2] at e1
    injection e1 with e1
    refine ⟨by simp [List.getD_eq_getElem?_getD, hk2], ?_⟩
    simp only [List.getD_eq_getElem?_getD, List.getElem?_eq_getElem hk2, Option.getD_some]
    rw [e1]; exact e3
theorem HasOwn.has {P : Program} {f : FuncId} {args l : List T} {E sz : Nat} (h : HasOwn P f args E sz l) : Has P f args (.slice sz l) := by
  refine ⟨h.1, fun w ok vs h1 h2 h3 => (h.2 w ok vs h1 h2 h3).mono ?_⟩
  rintro e w' ⟨v, cells, rfl, hown, hz, hcells, hbel⟩
  refine ⟨v, rfl, ?_, hbel⟩
  have hO : ORel ⟨P, w, ok, 0, fun _ => none, []⟩ (fun b => ok b ∨ (w.heap.size ≤ b ∧ b < w'.heap.size)) (fun _ => v) w' 0 (.row E sz l) :=
    ⟨cells, hown, hz, fun k hk j hj => by
      obtain ⟨u, g1, g2, g3⟩ := hcells k hk j hj
      exact ⟨u, g1, g2.mono (fun _ _ => rfl) (fun b hb => by rcases hb with hb | ⟨k1, k2, _⟩; exact .inl hb; exact .inr ⟨k1, k2⟩), g3⟩⟩
  exact row_reads hO (fun _ hb => hb) (fun b hb => by rw [ownsRow_blk hown] at hb; exact .inr (hown.lt b hb))

/-- A call that only looks at rows of the call's own, and hands back a leaf. -/
def borrow (S : AState) : AV → Option T
  | .t x => some x
  | .h i => match S.mem i with
    | some (.row _ sz l) => some (.slice sz l)
    | _ => none
  | _ => none
def borrows (S : AState) : List AV → Option (List T)
  | [] => some []
  | x :: r => match borrow S x with
    | some t => match borrows S r with
      | some ts => some (t :: ts)
      | none => none
    | none => none
def lookL : List AV → List Nat
  | [] => []
  | x :: r => avLook x ++ lookL r
theorem borrows_spec {S : AState} : ∀ {l : List AV} {ts : List T}, borrows S l = some ts → l.length = ts.length ∧ ∀ k (h1 : k < l.length) (h2 : k < ts.length), borrow S l[k] = some ts[k]
  | [], ts, h => by injection h with h; subst h; exact ⟨rfl, fun k h => by simp at h⟩
  | x :: r, ts, h => by
    simp only [borrows] at h
    split at h
    · rename_i t ht
      split at h
      · rename_i ts' hts
        injection h with h; subst h
        obtain ⟨h1, h2⟩ := borrows_spec hts
        refine ⟨by simp [h1], fun k k1 k2 => ?_⟩
        cases k with
        | zero => exact ht
        | succ k => simpa using h2 k (by simpa using k1) (by simpa using k2)
      · cases h
    · cases h
theorem mem_lookL : ∀ {l : List AV} {x : AV} {i : Nat}, x ∈ l → i ∈ avLook x → i ∈ lookL l
  | y :: r, x, i, h, hi => by
    simp only [lookL, List.mem_append]
    rcases List.mem_cons.1 h with rfl | h
    · exact .inl hi
    · exact .inr (mem_lookL h hi)
theorem step_callB {f : FuncId} {args : Array Operand} {tys : Array TypeId} {ts ts' : List T} {res : Value} (ho : o.op = .call { callee := .value (.func f), args := args, argTypes := tys })
    (hts : borrows S (args.toList.map (evalS S)) = some ts) (hh : Has C.P f ts' (.v res)) (hc : ConvL ts ts') (hd : dOk C.n o.dst = true) : Step C ops o S ⟨.t (.v res), [], lookL (args.toList.map (evalS S))⟩ := by
  intro S₁ hs hm a w hsat
  obtain ⟨β, hb⟩ := hsat
  obtain ⟨hl, hbr⟩ := borrows_spec hts
  have hl2 := hc.len
  have hcall := hh.2 w (fun b => b < w.heap.size) (args.map a.eval) (fun b hb' => hb') (by simp at hl ⊢; omega) (fun i h1 h2 => by
    have hi : i < args.size := by simpa using h1
    have h3 : i < ts.length := by omega
    have hbi := hbr i (by simpa using hi) h3
    simp only [List.getElem_map, Array.getElem_toList] at hbi
    have hv := hb.eval args[i]
    have hag : evalS S₁ args[i] = evalS S args[i] := agree_eval hs (by simp [ho, Op.operands, Call.operands])
    rw [hag] at hv
    refine (hc.get i h3 h2).reads ?_
    simp only [Array.getElem_map]
    generalize hq : evalS S args[i] = q at hbi hv
    cases q with
    | t x => injection hbi with hbi; rw [← hbi]; exact hv.tD.mono (fun _ _ => rfl) fun b hb' => hb'.2.1
    | h j =>
      simp only [borrow] at hbi
      split at hbi
      · rename_i E sz l hmj
        injection hbi with hbi
        have hmj1 : S₁.mem j = some (.row E sz l) := (hm j (.inl (mem_lookL (x := .h j) (List.mem_map.2 ⟨args[i], by simp, hq⟩) (by simp [avLook])))).1.trans hmj
        have hO := hb.mem j _ hmj1
        rw [← hbi, hv.hD]
        exact row_reads hO (fun b hb' => hb'.2.1) (fun b hb' => (hO.lt hb').2)
      · cases hbi
    | _ => cases hbi)
  have hr : (execOp a.eval o).run C.P w = .ok (.enter f (args.map a.eval)) w := by
    simp only [execOp, ho, resolve, Act.eval, Deferred.ofValue, Sem.run_bind, Sem.run_pure, Result.andThen_ok, invoke, Array.empty_append, Array.append_empty, run_callFunc hh.1]
  unfold Oper.wp
  rw [hr, Oper.upon_enter]
  refine hcall.mono ?_
  rintro e w' ⟨v, rfl, hv, hbel⟩
  show Sat C _ _ w'
  rw [ap_pure]
  have hg := hb.grow hbel
  cases hv
  refine ⟨β, hg.put o.dst res (.t (.v res)) (fun _ _ _ => .t (.v res)) (fun x hx => .inl ?_) (by simp [AV.ids])⟩
  rw [hx] at hd; simpa [dOk] using hd

end Go.Proofs.Ytnemmdbafngppaa.Abs
