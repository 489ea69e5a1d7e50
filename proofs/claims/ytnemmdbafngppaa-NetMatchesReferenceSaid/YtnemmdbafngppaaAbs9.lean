/- Abstract symbolic execution, part 9: struct and slice literals, rows of the call's own, append, calls by contract. No condition. -/
import Derived.Test.YtnemmdbafngppaaAbs8
set_option linter.unusedVariables false
set_option linter.unusedSimpArgs false
namespace Go.Proofs.Ytnemmdbafngppaa.Abs
open Go.RowKit
variable {C : Ctx} {ops : Array Oper} {o : Oper} {S : AState}

/-! ### Weaker readings: nil is an empty slice; a slice without spare room is a slice -/
inductive Conv : T → T → Prop
  | refl (t : T) : Conv t t
  | nil (sz : Nat) : Conv (.v (.slice none 0 0)) (.slice sz [])
  | clip (sz : Nat) (l : List T) : Conv (.clip sz l) (.slice sz l)
  | fn (g : FuncId) : Conv (.v (.func (.func g) #[] #[])) (.clo g [])
  | agg {l l' : List T} (hl : l.length = l'.length) (h : ∀ i (h1 : i < l.length) (h2 : i < l'.length), Conv l[i] l'[i]) : Conv (.agg l) (.agg l')
theorem Conv.reads {w : World} {ok : Nat → Prop} {t t' : T} (hc : Conv t t') : ∀ {v : Value}, Reads w ok v t → Reads w ok v t' := by
  induction hc with
  | refl t => exact fun h => h
  | nil sz =>
    intro v h; cases h
    exact .slice (l := []) (fun _ => undef) (Nat.le_refl _) (Nat.zero_le _) (fun i h => by simp at h) (fun h => by simp at h) (fun i h => by simp at h)
  | clip sz l => intro v h; cases h with | clip f hm hz ha h => exact .slice f (Nat.le_refl _) hm hz ha h
  | fn g => intro v h; cases h; exact .clo (ts := []) rfl (fun i h => by simp at h)
  | agg hl _ ih =>
    intro v h
    cases h with | agg hs h1 h => exact .agg (by omega) h1 fun i k1 k2 => ih i (by omega) k2 (h i k1 (by omega))

/-! ### Struct literals -/
def fillA (pl : Nat → Option (Nat × Nat)) : List AV → List (Nat × AV) → Option (List AV)
  | cells, [] => some cells
  | cells, (i, v) :: r => match pl i with
    | some (off, size) => match avCells v with
      | some l => bif Nat.beq l.length size && Nat.ble (off + size) cells.length then (match setSub cells off l with
        | some cells' => fillA pl cells' r
        | none => none) else none
      | none => none
    | none => none
theorem foldl_zipIdx (vs : List Value) : ∀ (arr : Array Value) (off j : Nat), ((vs.zipIdx j).foldl (fun cs (p : Value × Nat) => cs.setIfInBounds (off + p.2) p.1) arr) = setArr arr (off + j) vs := by
  induction vs with
  | nil => intro arr off j; rfl
  | cons v r ih =>
    intro arr off j
    simp only [List.zipIdx_cons, List.foldl_cons, setArr]
    rw [ih, show off + (j + 1) = off + j + 1 from by omega]
theorem fill_sound {w : World} {ok : Nat → Prop} {β : Nat → Value} {pl : Nat → Option (Nat × Nat)} : ∀ {ps : List (Nat × AV)} {vs : List (Nat × Value)} {arr : Array Value} {cells cells' : List AV},
    ARel w ok β arr cells → ps.length = vs.length → (∀ k (h1 : k < ps.length) (h2 : k < vs.length), (ps[k]).1 = (vs[k]).1 ∧ VRel w ok β (vs[k]).2 (ps[k]).2 ∧ OneR β (ps[k]).2) → fillA pl cells ps = some cells' →
    ∃ arr', Instr.fill pl arr vs = some arr' ∧ ARel w ok β arr' cells'
  | [], [], arr, cells, cells', h, _, _, hf => by injection hf with hf; subst hf; exact ⟨arr, rfl, h⟩
  | (i, x) :: ps, (i', v) :: vs, arr, cells, cells', h, hl, hv, hf => by
    have h0 := hv 0 (by simp) (by simp)
    simp only [List.getElem_cons_zero] at h0
    obtain ⟨rfl, h1, h2⟩ := h0
    simp only [fillA] at hf
    split at hf
    · rename_i off size hp
      split at hf
      · rename_i l hlc
        cases hb : (Nat.beq l.length size && Nat.ble (off + size) cells.length) with
        | false => rw [hb] at hf; cases hf
        | true =>
          rw [hb] at hf
          simp only [cond_true] at hf
          split at hf
          · rename_i c2 hs
            rw [Bool.and_eq_true] at hb
            have hsz := Nat.eq_of_beq_eq_true hb.1
            have hin := Nat.le_of_ble_eq_true hb.2
            obtain ⟨c1, cc⟩ := h1.cells hlc h2
            have hlv : v.cells.toList.length = l.length := by simpa using c1
            obtain ⟨hA, hle⟩ := h.setSub (vs := v.cells.toList) hlv (fun k k1 k2 => by simpa using cc k (by simpa using k1) k2) hs
            obtain ⟨arr', hr, hA'⟩ := fill_sound hA (by simpa using hl) (fun k k1 k2 => by have := hv (k + 1) (by simpa using k1) (by simpa using k2); simpa using this) hf
            refine ⟨arr', ?_, hA'⟩
            simp only [Instr.fill, hp]
            have e1 : v.cells.size = size := by omega
            have e2 : ¬ (off + size > arr.size) := by rw [h.1]; omega
            simp only [e1, e2, ne_eq, not_true_eq_false, decide_false, Bool.or_self, Bool.false_eq_true, if_false]
            rw [← Array.foldl_toList, Array.toList_zipIdx]
            have := foldl_zipIdx v.cells.toList arr off 0
            simp only [Nat.add_zero] at this
            rw [this]
            exact hr
          · cases hf
      · cases hf
    · cases hf
  | [], _ :: _, _, _, _, _, hl, _, _ => by cases hl
  | _ :: _, [], _, _, _, _, hl, _, _ => by cases hl


def plB (P : Program) (t : TypeId) : Option (List (Nat × Nat)) :=
  match P.underlying t with
  | some (.struct fs) => fs.toList.mapM fun f => (P.info? f.type).map fun i => (f.offset, i.size)
  | _ => none
theorem run_places {P : Program} {w : World} : ∀ {l : List Field} {ps : List (Nat × Nat)}, (l.mapM fun f => (P.info? f.type).map fun i => (f.offset, i.size)) = some ps →
    (l.mapM fun f => (do pure (f.offset, ← sizeOf f.type) : Sem (Nat × Nat))).run P w = .ok ps w
  | [], ps, h => by simp at h; subst h; simp
  | f :: r, ps, h => by
    rw [List.mapM_cons] at h
    simp only [bind, Option.bind_eq_some_iff, pure, Option.some.injEq, Option.map_eq_some_iff] at h
    obtain ⟨p, ⟨i, hi, rfl⟩, ps', hps, rfl⟩ := h
    have ih := run_places (P := P) (w := w) hps
    rw [List.mapM_cons]
    have hs : (sizeOf f.type).run P w = .ok i.size w := by simp [sizeOf, run_info hi]
    simp only [Sem.run_bind, hs, Result.andThen_ok, ih, Sem.run_pure]
def evalP (S : AState) : List (Nat × Operand) → List (Nat × AV)
  | [] => []
  | (i, x) :: r => (i, evalS S x) :: evalP S r
theorem evalP_len (l : List (Nat × Operand)) : (evalP S l).length = l.length := by induction l <;> simp [evalP, *]
theorem evalP_get (l : List (Nat × Operand)) (k : Nat) (h1 : k < (evalP S l).length) (h2 : k < l.length) : (evalP S l)[k] = ((l[k]).1, evalS S (l[k]).2) := by
  induction l generalizing k with
  | nil => simp at h2
  | cons p r ih =>
    cases k with
    | zero => rfl
    | succ k => simp only [evalP, List.getElem_cons_succ]; exact ih k _ _
def onesP : List (Nat × AV) → Bool
  | [] => true
  | (_, v) :: r => oneOk v && onesP r
theorem onesP_get {l : List (Nat × AV)} (h : onesP l = true) {β : Nat → Value} (k : Nat) (hk : k < l.length) : OneR β (l[k]).2 := by
  induction l generalizing k with
  | nil => simp at hk
  | cons p r ih =>
    simp only [onesP, Bool.and_eq_true] at h
    cases k with
    | zero => exact oneOk_spec h.1
    | succ k => simp only [List.getElem_cons_succ]; exact ih h.2 k _
theorem ARel.zero {w : World} {ok : Nat → Prop} {β : Nat → Value} {z : Array Value} (h1 : z.toList.all Value.oneCell' = true) : ARel w ok β z (z.toList.map fun v => AV.t (.v v)) := by
  refine ⟨by simp, fun k k1 k2 => ⟨?_, ?_⟩⟩
  · simp only [List.getElem_map, Array.getElem_toList]; exact .t (.v _)
  · rw [List.all_eq_true] at h1; exact h1 _ (by simp)
theorem ARel.aggT {w : World} {ok : Nat → Prop} {β : Nat → Value} {arr : Array Value} {l : List AV} {ts : List T} (h : ARel w ok β arr l) (ht : trees l = some ts) : Reads w ok (.agg arr) (.agg ts) := by
  have := trees_spec ht; subst this
  refine .agg (by simpa using h.1) (fun k hk => (h.2 k hk (by have := h.1; omega)).2) fun k k1 k2 => ?_
  have := (h.2 k k1 (by simpa using k2)).1
  simp only [List.getElem_map] at this
  exact this.tD
/-- What a struct or array literal comes to. -/
theorem build_core {t : TypeId} {parts : Array (Nat × Operand)} {pl : Nat → Option (Nat × Nat)} {zs : List Value} {cells : List AV} (ho : o.op = .build t parts) (hz : zeroB C.P t = some zs) (h1 : zs.all Value.oneCell' = true)
    (hpl : (∃ ps, plB C.P t = some ps ∧ pl = fun i => ps[i]?) ∨ ∃ n e sz, arB C.P t = some (n, e, sz) ∧ pl = fun i => some (i * sz, sz))
    (hone : onesP (evalP S parts.toList) = true) (hf : fillA pl (zs.map fun v => AV.t (.v v)) (evalP S parts.toList) = some cells)
    {β : Nat → Value} {w : World} {ok : Nat → Prop} {ρ : Operand → Value} (hρ : ∀ x ∈ o.op.operands, VRel w ok β (ρ x) (evalS S x)) :
    ∃ arr, (execOp ρ o).run C.P w = .ok (.value (.agg arr)) w ∧ ARel w ok β arr cells := by
  obtain ⟨i, z, hi, hzz, rfl⟩ := zeroB_spec hz
  have hm : ∀ k (h : k < parts.size), parts[k].2 ∈ o.op.operands := by
    intro k h
    simp only [ho, Op.operands, List.mem_toArray, List.mem_map]
    exact ⟨parts[k], by simp, rfl⟩
  obtain ⟨arr, hfill, hA⟩ := fill_sound (w := w) (ok := ok) (β := β) (vs := (parts.map fun (i, x) => (i, ρ x)).toList) (ARel.zero h1) (by rw [evalP_len]; simp)
    (fun k k1 k2 => by
      have k3 : k < parts.size := by simpa using k2
      rw [evalP_get parts.toList k k1 (by simpa using k3)]
      refine ⟨by simp, by simpa using hρ _ (hm k k3), ?_⟩
      have := onesP_get hone (β := β) k k1
      rw [evalP_get parts.toList k k1 (by simpa using k3)] at this
      exact this) hf
  refine ⟨arr, ?_, hA⟩
  rcases hpl with ⟨ps, hps, rfl⟩ | ⟨n, e, sz, har, rfl⟩
  · unfold plB at hps
    split at hps
    · rename_i fs hu
      have hr := run_places (P := C.P) (w := w) hps
      obtain ⟨fl⟩ := fs
      have hr' : ((⟨fl⟩ : Array Field).mapM fun f => (do pure (f.offset, ← sizeOf f.type) : Sem (Nat × Nat))).run C.P w = .ok ps.toArray w := by
        have : (⟨fl⟩ : Array Field) = fl.toArray := rfl
        rw [this, List.mapM_toArray]
        simp only [map_eq_pure_bind, Sem.run_bind] at hr ⊢
        simp only [hr, Result.andThen_ok, Sem.run_pure]
      have hfill' : Instr.fill (fun x => ps.toArray[x]?) z.cells (parts.map fun (i, x) => (i, ρ x)).toList = some arr := by simpa using hfill
      simp only [execOp, ho, Instr.build, Sem.run_bind, zeroValue, run_info hi, hzz, Result.andThen_ok, Sem.run_pure, run_underlying hu, hr', hfill']
    · cases hps
  · obtain ⟨hu, inf, hinf, hsz⟩ := arB_spec har
    simp only [execOp, ho, Instr.build, Sem.run_bind, zeroValue, run_info hi, hzz, Result.andThen_ok, Sem.run_pure, run_underlying hu, sizeOf, run_info hinf, hsz, hfill]
theorem step_buildS {t : TypeId} {parts : Array (Nat × Operand)} {ps : List (Nat × Nat)} {zs : List Value} {cells : List AV} {ts : List T} (ho : o.op = .build t parts) (hz : zeroB C.P t = some zs) (h1 : zs.all Value.oneCell' = true)
    (hpl : plB C.P t = some ps) (hone : onesP (evalP S parts.toList) = true) (hf : fillA (fun i => ps[i]?) (zs.map fun v => AV.t (.v v)) (evalP S parts.toList) = some cells) (ht : trees cells = some ts) (hd : dOk C.n o.dst = true) :
    Step C ops o S ⟨.t (.agg ts), [], []⟩ := by
  refine Step.pure hd (by simp [AV.ids]) fun β w ok ρ hρ _ _ => ?_
  obtain ⟨arr, hr, hA⟩ := build_core ho hz h1 (.inl ⟨ps, hpl, rfl⟩) hone hf hρ
  exact ⟨_, hr, .t (hA.aggT ht)⟩
theorem step_buildA {t : TypeId} {parts : Array (Nat × Operand)} {n e sz : Nat} {zs : List Value} {cells : List AV} {ts : List T} (ho : o.op = .build t parts) (hz : zeroB C.P t = some zs) (h1 : zs.all Value.oneCell' = true)
    (hpl : arB C.P t = some (n, e, sz)) (hone : onesP (evalP S parts.toList) = true) (hf : fillA (fun i => some (i * sz, sz)) (zs.map fun v => AV.t (.v v)) (evalP S parts.toList) = some cells) (ht : trees cells = some ts) (hd : dOk C.n o.dst = true) :
    Step C ops o S ⟨.t (.agg ts), [], []⟩ := by
  refine Step.pure hd (by simp [AV.ids]) fun β w ok ρ hρ _ _ => ?_
  obtain ⟨arr, hr, hA⟩ := build_core ho hz h1 (.inr ⟨n, e, sz, hpl, rfl⟩) hone hf hρ
  exact ⟨_, hr, .t (hA.aggT ht)⟩

/-! ### Slice literals -/
def zinit (zs : List Value) (n : Nat) : List AV := (List.range n).map fun k => AV.t (.v (zs.getD (k % zs.length) undef))
theorem ARel.zinit {w : World} {ok : Nat → Prop} {β : Nat → Value} {z : Array Value} {n : Nat} (hz : 0 < z.size) (h1 : z.toList.all Value.oneCell' = true) : ARel w ok β ((Array.range n).map (z[· % z.size]!)) (Abs.zinit z.toList n) := by
  refine ⟨by simp [Abs.zinit], fun k k1 k2 => ?_⟩
  have hk : k % z.size < z.size := Nat.mod_lt _ hz
  have e : ((Array.range n).map (z[· % z.size]!))[k] = z[k % z.size] := by simp [hk]
  have e2 : (Abs.zinit z.toList n)[k] = AV.t (.v z[k % z.size]) := by simp [Abs.zinit, hk]
  rw [e, e2]
  refine ⟨.t (.v _), ?_⟩
  rw [List.all_eq_true] at h1; exact h1 _ (by simp)
theorem flat_get : ∀ {l : List T} {sz : Nat}, (∀ k (h : k < l.length), l[k].cells.length = sz) → ∀ k (h : k < l.length) j (hj : j < l[k].cells.length), (l.flatMap T.cells)[k * sz + j]? = some (l[k].cells[j])
  | [], _, _, k, h, _, _ => by simp at h
  | x :: r, sz, hz, k, h, j, hj => by
    have h0 := hz 0 (by simp)
    simp only [List.getElem_cons_zero] at h0
    cases k with
    | zero =>
      simp only [List.getElem_cons_zero] at hj ⊢
      simp only [List.flatMap_cons, Nat.zero_mul, Nat.zero_add]
      rw [List.getElem?_append_left hj, List.getElem?_eq_getElem hj]
    | succ k =>
      simp only [List.getElem_cons_succ] at hj ⊢
      simp only [List.flatMap_cons]
      rw [show (k + 1) * sz + j = x.cells.length + (k * sz + j) from by rw [h0, Nat.add_mul]; omega, List.getElem?_append_right (by omega), Nat.add_sub_cancel_left]
      exact flat_get (fun k hk => by have := hz (k + 1) (by simpa using hk); simpa using this) k (by simpa using h) j hj
theorem flat_len {l : List T} {sz : Nat} (hz : ∀ k (h : k < l.length), l[k].cells.length = sz) : (l.flatMap T.cells).length = l.length * sz := by
  induction l with
  | nil => simp
  | cons x r ih =>
    have h0 := hz 0 (by simp)
    simp only [List.getElem_cons_zero] at h0
    rw [List.flatMap_cons, List.length_append, h0, ih (fun k hk => by have := hz (k + 1) (by simpa using hk); simpa using this), List.length_cons, Nat.add_mul]
    omega
theorem allLen {l : List T} {sz : Nat} (h : (l.all fun x => Nat.beq x.cells.length sz) = true) : ∀ k (h : k < l.length), l[k].cells.length = sz := by
  intro k hk
  rw [List.all_eq_true] at h
  exact Nat.eq_of_beq_eq_true (h _ (List.getElem_mem hk))
/-- A row in the cells of an array. -/
theorem ARel.row {w : World} {ok : Nat → Prop} {β : Nat → Value} {arr : Array Value} {cells : List AV} {ts l : List T} {sz : Nat} (h : ARel w ok β arr cells) (ht : trees cells = some ts) (hl : l.flatMap T.cells = ts)
    (hz : ∀ k (h : k < l.length), l[k].cells.length = sz) : arr.size = l.length * sz ∧ ∀ k (h : k < l.length) j (hj : j < l[k].cells.length), ∃ v, arr.toList[k * sz + j]? = some v ∧ Reads w ok v l[k].cells[j] ∧ v.oneCell' = true := by
  have := trees_spec ht; subst this
  subst hl
  have hlen := flat_len hz
  have hs := h.1
  simp only [List.length_map] at hs
  refine ⟨by omega, fun k hk j hj => ?_⟩
  have e := flat_get hz k hk j hj
  have hlt := (List.getElem?_eq_some_iff.1 e).1
  have := h.2 (k * sz + j) (by omega) (by simpa using hlt)
  refine ⟨arr[k * sz + j]'(by omega), ?_, ?_, this.2⟩
  · rw [List.getElem?_eq_getElem (by simp; omega)]; simp
  · have h2 := this.1
    simp only [List.getElem_map] at h2
    have := h2.tD
    rw [List.getElem?_eq_getElem hlt] at e
    injection e with e
    rwa [e] at this
theorem buildSlice_core {t e sz bytes len : Nat} {parts : Array (Nat × Operand)} {zs : List Value} {cells : List AV} (ho : o.op = .buildSlice t len parts) (ht : slB C.P t = some (e, sz, bytes)) (hz : zeroB C.P e = some zs) (hzl : zs.length = sz) (hsz : Nat.blt 0 sz = true)
    (h1 : zs.all Value.oneCell' = true) (hbig : Nat.ble (len * sz) 16777216 = true) (hone : onesP (evalP S parts.toList) = true) (hf : fillA (fun i => some (i * sz, sz)) (zinit zs (len * sz)) (evalP S parts.toList) = some cells)
    {β : Nat → Value} {w : World} {ok : Nat → Prop} {ρ : Operand → Value} (hρ : ∀ x ∈ o.op.operands, VRel w ok β (ρ x) (evalS S x)) :
    ∃ arr, (execOp ρ o).run C.P w = .ok (.value (.slice (some ⟨w.heap.size, 0, none⟩) len len)) (w.alloc (.cells arr e)) ∧ ARel w ok β arr cells := by
  obtain ⟨i, z, hi, hzz, rfl⟩ := zeroB_spec hz
  obtain ⟨hu, inf, hinf, hs, _⟩ := slB_spec ht
  have hii : inf = i := by rw [hi] at hinf; injection hinf with h; exact h.symm
  have hpos : 0 < sz := by simpa [Nat.blt_eq] using hsz
  have hzs : z.cells.size = sz := by simpa using hzl
  have hm : ∀ k (h : k < parts.size), parts[k].2 ∈ o.op.operands := by
    intro k h
    simp only [ho, Op.operands, List.mem_toArray, List.mem_map]
    exact ⟨parts[k], by simp, rfl⟩
  obtain ⟨arr, hfill, hA⟩ := fill_sound (w := w) (ok := ok) (β := β) (vs := (parts.map fun (i, x) => (i, ρ x)).toList) (ARel.zinit (by omega) h1) (by rw [evalP_len]; simp)
    (fun k k1 k2 => by
      have k3 : k < parts.size := by simpa using k2
      rw [evalP_get parts.toList k k1 (by simpa using k3)]
      refine ⟨by simp, by simpa using hρ _ (hm k k3), ?_⟩
      have := onesP_get hone (β := β) k k1
      rw [evalP_get parts.toList k k1 (by simpa using k3)] at this
      exact this) hf
  refine ⟨arr, ?_, hA⟩
  have hle : ¬ (len * sz > 2 ^ 24) := by have := Nat.le_of_ble_eq_true hbig; omega
  subst hii
  have hr0 : ∀ g : Nat → Value, (Array.range 0).map g = #[] := fun g => by simp
  by_cases h0 : len * sz = 0
  · rw [h0, hr0] at hfill
    simp only [execOp, ho, Instr.buildSlice, Sem.run_bind, run_underlying hu, Result.andThen_ok, sizeOf, run_info hinf, Sem.run_pure, hs, hle, if_false, h0, if_true, hr0, hfill, newRow, newObj, Sem.run]
    rfl
  · simp only [execOp, ho, Instr.buildSlice, Sem.run_bind, run_underlying hu, Result.andThen_ok, sizeOf, run_info hinf, Sem.run_pure, hs, hle, if_false, h0, zeroValue, hzz, hfill, newRow, newObj, Sem.run]
    rfl

end Go.Proofs.Ytnemmdbafngppaa.Abs
