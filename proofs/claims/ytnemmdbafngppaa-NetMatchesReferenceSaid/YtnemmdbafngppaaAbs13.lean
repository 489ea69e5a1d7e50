/- Abstract symbolic execution, part 13: shorter forms of steps, splitting on a Bool, sums without wrap, zero values with nil as the empty slice. No condition. -/
import Derived.Test.YtnemmdbafngppaaAbs12
set_option linter.unusedVariables false
set_option linter.unusedSimpArgs false
namespace Go.Proofs.Ytnemmdbafngppaa.Abs
open Go.RowKit
variable {C : Ctx} {ops : Array Oper} {o : Oper} {S : AState}

theorem putS_self {d : Nat} {v : AV} {s : Nat → AV} (h : s d = v) : putS (some d) v s = s := by
  funext x
  rcases putS_cases (some d) v s x with ⟨e, h1⟩ | ⟨e, h1⟩
  · injection e with e; subst e; rw [h1, h]
  · exact h1
/-- The two cases of a Bool in a slot; the slot holds a literal in each. -/
theorem TrC.cases {draw : Bool} {i : Nat} {l : List Oper} {done : List Item} {K : AState → Prop} {d : Nat} {b : Bool} (hs : S.slot d = .t (.v (.bool b)))
    (h1 : b = true → TrC C ops draw i l { S with slot := putS (some d) (.t (.v (.bool true))) S.slot } done K)
    (h0 : b = false → TrC C ops draw i l { S with slot := putS (some d) (.t (.v (.bool false))) S.slot } done K) : TrC C ops draw i l S done K := by
  cases b with
  | true => have := h1 rfl; rwa [putS_self hs] at this
  | false => have := h0 rfl; rwa [putS_self hs] at this
/-- A slot's value is spelled anew. -/
theorem TrC.spell {draw : Bool} {i : Nat} {l : List Oper} {done : List Item} {K : AState → Prop} (d : Nat) {x y : T} (hs : S.slot d = .t x) (he : x = y)
    (h : TrC C ops draw i l { S with slot := putS (some d) (.t y) S.slot } done K) : TrC C ops draw i l S done K := by
  subst he; rwa [putS_self hs] at h
theorem AT.spell {c : Code} {Q : Exit → AState → Prop} (d : Nat) {x y : T} (hs : S.slot d = .t x) (he : x = y) (h : AT C c Q { S with slot := putS (some d) (.t y) S.slot }) : AT C c Q S := by
  subst he; rwa [putS_self hs] at h
theorem AT.condT {c : Operand} {x y : Code} {Q : Exit → AState → Prop} (hc : evalS S c = .t (.v (.bool true))) (h : AT C x Q S) : AT C (.cond c x y) Q S :=
  AT.cond hc (fun _ => h) (fun h => by cases h)
theorem AT.condF {c : Operand} {x y : Code} {Q : Exit → AState → Prop} (hc : evalS S c = .t (.v (.bool false))) (h : AT C y Q S) : AT C (.cond c x y) Q S :=
  AT.cond hc (fun h => by cases h) (fun _ => h)

theorem step_call0 {f : FuncId} {args : Array Operand} {tys : Array TypeId} {ts : List T} {res : T} (ho : o.op = .call { callee := .value (.func f), args := args, argTypes := tys })
    (hts : trees (args.toList.map (evalS S)) = some ts) (hh : Has C.P f ts res) (hd : dOk C.n o.dst = true) : Step C ops o S ⟨.t res, [], []⟩ := step_call ho hts hh (ConvL.refl ts) hd
theorem step_callH0 {f : FuncId} {args : Array Operand} {tys : Array TypeId} {ts l : List T} {E sz d : Nat} (ho : o.op = .call { callee := .value (.func f), args := args, argTypes := tys }) (hdst : o.dst = some d)
    (hts : trees (args.toList.map (evalS S)) = some ts) (hh : HasOwn C.P f ts E sz l) (hu : S.used d = false) (hd : dOk C.n o.dst = true) : Step C ops o S ⟨.h d, [(d, some (.row E sz l))], []⟩ := step_callH ho hdst hts hh (ConvL.refl ts) hu hd

theorem wrap_in {n : Int} (h0 : -9223372036854775808 ≤ n) (h1 : n ≤ 9223372036854775807) : IntKind.i64.wrap n = n := by
  unfold IntKind.wrap
  simp only [IntKind.bits, IntKind.signed]
  simp
  omega
theorem step_addI {t t' : TypeId} {x y : Operand} {m n : Int} (ho : o.op = .binOp .add t x y t') (hx : evalS S x = .t (.v (.int .i64 m))) (hy : evalS S y = .t (.v (.int .i64 n)))
    (h0 : -9223372036854775808 ≤ m + n) (h1 : m + n ≤ 9223372036854775807) (hd : dOk C.n o.dst = true) : Step C ops o S ⟨.t (.v (.int .i64 (m + n))), [], []⟩ :=
  step_bin ho hx hy (by simp [binV, wrap_in h0 h1]) hd
theorem step_subI {t t' : TypeId} {x y : Operand} {m n : Int} (ho : o.op = .binOp .sub t x y t') (hx : evalS S x = .t (.v (.int .i64 m))) (hy : evalS S y = .t (.v (.int .i64 n)))
    (h0 : -9223372036854775808 ≤ m - n) (h1 : m - n ≤ 9223372036854775807) (hd : dOk C.n o.dst = true) : Step C ops o S ⟨.t (.v (.int .i64 (m - n))), [], []⟩ :=
  step_bin ho hx hy (by simp [binV, wrap_in h0 h1]) hd
theorem step_mulI {t t' : TypeId} {x y : Operand} {m n : Int} (ho : o.op = .binOp .mul t x y t') (hx : evalS S x = .t (.v (.int .i64 m))) (hy : evalS S y = .t (.v (.int .i64 n)))
    (h0 : -9223372036854775808 ≤ m * n) (h1 : m * n ≤ 9223372036854775807) (hd : dOk C.n o.dst = true) : Step C ops o S ⟨.t (.v (.int .i64 (m * n))), [], []⟩ :=
  step_bin ho hx hy (by simp [binV, wrap_in h0 h1]) hd
/-- '%' of numbers that are not negative. -/
theorem step_remI {t t' : TypeId} {x y : Operand} {k : IntKind} {m n : Int} (ho : o.op = .binOp .rem t x y t') (hx : evalS S x = .t (.v (.int k m))) (hy : evalS S y = .t (.v (.int k n)))
    (h0 : 0 ≤ m) (h1 : 0 < n) (hd : dOk C.n o.dst = true) : Step C ops o S ⟨.t (.v (.int k (m % n))), [], []⟩ :=
  step_bin ho hx hy (by simp [binV, show ¬ n = 0 from by omega, Int.tmod_eq_emod_of_nonneg h0]) hd
/-- A small number converted to int. -/
theorem step_convI {s d : TypeId} {x : Operand} {k : IntKind} {m : Int} (ho : o.op = .convert s d x) (hx : evalS S x = .t (.v (.int k m)))
    (hs : intB C.P s = some k) (ht : intB C.P d = some .i64) (h0 : -9223372036854775808 ≤ m) (h1 : m ≤ 9223372036854775807) (hd : dOk C.n o.dst = true) : Step C ops o S ⟨.t (.v (.int .i64 m)), [], []⟩ := by
  have := step_conv (ops := ops) ho hx hs ht hd
  rwa [wrap_in h0 h1] at this

/-! ### Zero values, nil taken as the empty slice -/
theorem ARel.zeroC {w : World} {ok : Nat → Prop} {β : Nat → Value} {z : Array Value} {zt : List T} (h1 : z.toList.all Value.oneCell' = true) (hc : ConvL (z.toList.map T.v) zt) : ARel w ok β z (zt.map AV.t) := by
  have hl := hc.len
  refine ⟨by simp at hl ⊢; omega, fun k k1 k2 => ⟨?_, ?_⟩⟩
  · have := hc.get k (by simpa using k1) (by simpa using k2)
    simp only [List.getElem_map, Array.getElem_toList] at this ⊢
    exact .t (this.reads (.v _))
  · rw [List.all_eq_true] at h1; exact h1 _ (by simp)
theorem step_allocC {E d : Nat} {zs : List Value} {zt : List T} (ho : o.op = .alloc E) (hdst : o.dst = some d) (hz : zeroB C.P E = some zs) (hc : ConvL (zs.map T.v) zt) (h1 : zs.all Value.oneCell' = true) (hu : S.used d = false) (hd : dOk C.n o.dst = true) :
    Step C ops o S ⟨.p d 0, [(d, some (.box E (zt.map AV.t)))], []⟩ := by
  obtain ⟨i, z, hi, hzz, rfl⟩ := zeroB_spec hz
  have hidn : ∀ j, j ∈ AV.idsL (zt.map AV.t) → False := by
    intro j hj
    obtain ⟨x, hx, hjx⟩ := AV.of_mem_idsL hj
    obtain ⟨y, _, rfl⟩ := List.mem_map.1 hx
    simp [AV.ids] at hjx
  refine Step.new hd hu (fun j hj => (hidn j hj).elim) (by simp [AV.ids]) fun β w ok ρ hsz hokl hρ _ => ?_
  refine ⟨.pointer (some ⟨w.heap.size, 0, none⟩), .pointer (some ⟨w.heap.size, 0, none⟩), w.alloc (.cells z.cells E), ?_, below_alloc' _ _, ?_, ?_⟩
  · simp [execOp, ho, Instr.alloc, zeroValue, typeInfo, hi, hzz, newVar, newRow, newObj, Sem.run]
  · intro b hb; simp [blk] at hb; omega
  · intro ok' β' h1' h2' h3' h4'
    have hA : ARel (w.alloc (.cells z.cells E)) ok' β' z.cells (zt.map AV.t) := ARel.zeroC h1 hc
    exact ⟨⟨w.heap.size, z.cells, h3', hsz, heap_alloc_at _ _, hA.1, hA.2⟩, .p h3'⟩
theorem build_coreC {t : TypeId} {parts : Array (Nat × Operand)} {pl : Nat → Option (Nat × Nat)} {zs : List Value} {zt : List T} {cells : List AV} (ho : o.op = .build t parts) (hz : zeroB C.P t = some zs) (hc : ConvL (zs.map T.v) zt) (h1 : zs.all Value.oneCell' = true)
    {ps : List (Nat × Nat)} (hps : plB C.P t = some ps) (hpl : pl = fun i => ps[i]?)
    (hone : onesP (evalP S parts.toList) = true) (hf : fillA pl (zt.map AV.t) (evalP S parts.toList) = some cells)
    {β : Nat → Value} {w : World} {ok : Nat → Prop} {ρ : Operand → Value} (hρ : ∀ x ∈ o.op.operands, VRel w ok β (ρ x) (evalS S x)) :
    ∃ arr, (execOp ρ o).run C.P w = .ok (.value (.agg arr)) w ∧ ARel w ok β arr cells := by
  obtain ⟨i, z, hi, hzz, rfl⟩ := zeroB_spec hz
  have hm : ∀ k (h : k < parts.size), parts[k].2 ∈ o.op.operands := by
    intro k h
    simp only [ho, Op.operands, List.mem_toArray, List.mem_map]
    exact ⟨parts[k], by simp, rfl⟩
  obtain ⟨arr, hfill, hA⟩ := fill_sound (w := w) (ok := ok) (β := β) (vs := (parts.map fun (i, x) => (i, ρ x)).toList) (ARel.zeroC h1 hc) (by rw [evalP_len]; simp)
    (fun k k1 k2 => by
      have k3 : k < parts.size := by simpa using k2
      rw [evalP_get parts.toList k k1 (by simpa using k3)]
      refine ⟨by simp, by simpa using hρ _ (hm k k3), ?_⟩
      have := onesP_get hone (β := β) k k1
      rw [evalP_get parts.toList k k1 (by simpa using k3)] at this
      exact this) hf
  refine ⟨arr, ?_, hA⟩
  subst hpl
  unfold plB at hps
  split at hps
  · rename_i fs hu
    have hr := run_places (P := C.P) (w := w) hps
    obtain ⟨fl⟩ := fs
    have hr' : ((⟨fl⟩ : Array Field).mapM fun f => (do pure (f.offset, ← sizeOf f.type) : Sem (Nat × Nat))).run C.P w = .ok ps.toArray w := by
      have : (⟨fl⟩ : Array Field) = fl.toArray := rfl
      rw [this, List.mapM_toArray]
      simp only [map_eq_pure_bind, Sem.run_bind] at hr ⊢
      simp only [hr, Result.andThen_ok, Sem.run_pure]
    have hfill' : Instr.fill (fun x => ps.toArray[x]?) z.cells (parts.map fun (i, x) => (i, ρ x)).toList = some arr := by simpa using hfill
    simp only [execOp, ho, Instr.build, Sem.run_bind, zeroValue, run_info hi, hzz, Result.andThen_ok, Sem.run_pure, run_underlying hu, hr', hfill']
  · cases hps
theorem step_buildC {t : TypeId} {parts : Array (Nat × Operand)} {ps : List (Nat × Nat)} {zs : List Value} {zt : List T} {cells : List AV} {ts : List T} (ho : o.op = .build t parts) (hz : zeroB C.P t = some zs) (hc : ConvL (zs.map T.v) zt) (h1 : zs.all Value.oneCell' = true)
    (hpl : plB C.P t = some ps) (hone : onesP (evalP S parts.toList) = true) (hf : fillA (fun i => ps[i]?) (zt.map AV.t) (evalP S parts.toList) = some cells) (ht : trees cells = some ts) (hd : dOk C.n o.dst = true) :
    Step C ops o S ⟨.t (.agg ts), [], []⟩ := by
  refine Step.pure hd (by simp [AV.ids]) fun β w ok ρ hρ _ _ => ?_
  obtain ⟨arr, hr, hA⟩ := build_coreC ho hz hc h1 hpl rfl hone hf hρ
  exact ⟨_, hr, .t (hA.aggT ht)⟩
/-- nil, taken as the empty slice. -/
theorem step_assignN {sz : Nat} (ho : o.op = .assign (.const (.slice none 0 0))) (hd : dOk C.n o.dst = true) : Step C ops o S ⟨.t (.slice sz []), [], []⟩ := by
  refine Step.pure hd (by simp [AV.ids]) fun β w ok ρ hρ hc _ => ⟨.slice none 0 0, by simp [execOp, ho, hc], .t ((Conv.nil sz).reads (.v _))⟩
/-- nil, taken as a row of the call's own. -/
theorem step_assignR {E sz d : Nat} (ho : o.op = .assign (.const (.slice none 0 0))) (hdst : o.dst = some d) (hu : S.used d = false) (hd : dOk C.n o.dst = true) : Step C ops o S ⟨.h d, [(d, some (.row E sz []))], []⟩ := by
  refine Step.new hd hu (by simp [AObj.ids]) (by simp [AV.ids]) fun β w ok ρ hw0 hokl hρ hc => ?_
  refine ⟨.slice none 0 0, .slice none 0 0, w, by simp [execOp, ho, hc], Below.refl _ _, fun b hb => by simp [blk] at hb, fun ok' β' h1' h2' h3' h4' => ⟨⟨[], by rw [h3']; exact World.ownsRow_nil w _ E sz, fun k hk => by simp at hk, fun k hk => by simp at hk⟩, by rw [← h3']; exact .h d⟩⟩

/-! ### Closing a result -/
theorem conv_eq {x y : T} (h : x = y) : Conv x y := h ▸ .refl x
theorem conv_b {a b : Bool} (h : a = b) : Conv (.v (.bool a)) (.v (.bool b)) := h ▸ .refl _
theorem conv_i {k : IntKind} {a b : Int} (h : a = b) : Conv (.v (.int k a)) (.v (.int k b)) := h ▸ .refl _
theorem Has.eq {P : Program} {f : FuncId} {args : List T} {r r' : T} (h : Has P f args r) (e : r = r') : Has P f args r' := e ▸ h
theorem Has.args {P : Program} {f : FuncId} {args args' : List T} {r : T} (h : Has P f args r) (e : args = args') : Has P f args' r := e ▸ h

end Go.Proofs.Ytnemmdbafngppaa.Abs
