/- Parts of this proof, one after the other; each says what it proves. No condition. -/
import Derived.Test.YtgblfhobiibeaaaMA
import Derived.Laws.CopyOwn
/- Abstract symbolic execution, part 9: struct and slice literals, rows of the call's own, append, calls by contract. No condition. -/
set_option linter.unusedVariables false
set_option linter.unusedSimpArgs false
namespace Go.Proofs.Ytgblfhobiibeaaa.Abs
open Go.RowKit
variable {C : Ctx} {ops : Array Oper} {o : Oper} {S : AState}

/-! ### Weaker readings: nil is an empty slice; a slice without spare room is a slice -/
inductive Conv : T → T → Prop
  | refl (t : T) : Conv t t
  | nil (sz : Nat) : Conv (.v (.slice none 0 0)) (.slice sz [])
  | clip (sz : Nat) (l : List T) : Conv (.clip sz l) (.slice sz l)
  | fn (g : FuncId) : Conv (.v (.func (.func g) #[] #[])) (.clo g [])
  | agg {l l' : List T} (hl : l.length = l'.length) (h : ∀ i (h1 : i < l.length) (h2 : i < l'.length), Conv l[i] l'[i]) : Conv (.agg l) (.agg l')
theorem Conv.reads {w : World} {ok : Nat → Prop} {t t' : T} (hc : Conv t t') : ∀ {v : Value}, Reads w ok v t → Reads w ok v t' := by
  induction hc with
  | refl t => exact fun h => h
  | nil sz =>
    intro v h; cases h
    exact .slice (l := []) (fun _ => undef) (Nat.le_refl _) (Nat.zero_le _) (fun i h => by simp at h) (fun h => by simp at h) (fun i h => by simp at h)
  | clip sz l => intro v h; cases h with | clip f hm hz ha h => exact .slice f (Nat.le_refl _) hm hz ha h
  | fn g => intro v h; cases h; exact .clo (ts := []) rfl (fun i h => by simp at h)
  | agg hl _ ih =>
    intro v h
    cases h with | agg hs h1 h => exact .agg (by omega) h1 fun i k1 k2 => ih i (by omega) k2 (h i k1 (by omega))

/-! ### Struct literals -/
def fillA (pl : Nat → Option (Nat × Nat)) : List AV → List (Nat × AV) → Option (List AV)
  | cells, [] => some cells
  | cells, (i, v) :: r => match pl i with
    | some (off, size) => match avCells v with
      | some l => bif Nat.beq l.length size && Nat.ble (off + size) cells.length then (match setSub cells off l with
        | some cells' => fillA pl cells' r
        | none => none) else none
      | none => none
    | none => none
theorem foldl_zipIdx (vs : List Value) : ∀ (arr : Array Value) (off j : Nat), ((vs.zipIdx j).foldl (fun cs (p : Value × Nat) => cs.setIfInBounds (off + p.2) p.1) arr) = setArr arr (off + j) vs := by
  induction vs with
  | nil => intro arr off j; rfl
  | cons v r ih =>
    intro arr off j
    simp only [List.zipIdx_cons, List.foldl_cons, setArr]
    rw [ih, show off + (j + 1) = off + j + 1 from by omega]
theorem fill_sound {w : World} {ok : Nat → Prop} {β : Nat → Value} {pl : Nat → Option (Nat × Nat)} : ∀ {ps : List (Nat × AV)} {vs : List (Nat × Value)} {arr : Array Value} {cells cells' : List AV},
    ARel w ok β arr cells → ps.length = vs.length → (∀ k (h1 : k < ps.length) (h2 : k < vs.length), (ps[k]).1 = (vs[k]).1 ∧ VRel w ok β (vs[k]).2 (ps[k]).2 ∧ OneR β (ps[k]).2) → fillA pl cells ps = some cells' →
    ∃ arr', Instr.fill pl arr vs = some arr' ∧ ARel w ok β arr' cells'
  | [], [], arr, cells, cells', h, _, _, hf => by injection hf with hf; subst hf; exact ⟨arr, rfl, h⟩
  | (i, x) :: ps, (i', v) :: vs, arr, cells, cells', h, hl, hv, hf => by
    have h0 := hv 0 (by simp) (by simp)
    simp only [List.getElem_cons_zero] at h0
    obtain ⟨rfl, h1, h2⟩ := h0
    simp only [fillA] at hf
    split at hf
    · rename_i off size hp
      split at hf
      · rename_i l hlc
        cases hb : (Nat.beq l.length size && Nat.ble (off + size) cells.length) with
        | false => rw [hb] at hf; cases hf
        | true =>
          rw [hb] at hf
          simp only [cond_true] at hf
          split at hf
          · rename_i c2 hs
            rw [Bool.and_eq_true] at hb
            have hsz := Nat.eq_of_beq_eq_true hb.1
            have hin := Nat.le_of_ble_eq_true hb.2
            obtain ⟨c1, cc⟩ := h1.cells hlc h2
            have hlv : v.cells.toList.length = l.length := by simpa using c1
            obtain ⟨hA, hle⟩ := h.setSub (vs := v.cells.toList) hlv (fun k k1 k2 => by simpa using cc k (by simpa using k1) k2) hs
            obtain ⟨arr', hr, hA'⟩ := fill_sound hA (by simpa using hl) (fun k k1 k2 => by have := hv (k + 1) (by simpa using k1) (by simpa using k2); simpa using this) hf
            refine ⟨arr', ?_, hA'⟩
            simp only [Instr.fill, hp]
            have e1 : v.cells.size = size := by omega
            have e2 : ¬ (off + size > arr.size) := by rw [h.1]; omega
            simp only [e1, e2, ne_eq, not_true_eq_false, decide_false, Bool.or_self, Bool.false_eq_true, if_false]
            rw [← Array.foldl_toList, Array.toList_zipIdx]
            have := foldl_zipIdx v.cells.toList arr off 0
            simp only [Nat.add_zero] at this
            rw [this]
            exact hr
          · cases hf
      · cases hf
    · cases hf
  | [], _ :: _, _, _, _, _, hl, _, _ => by cases hl
  | _ :: _, [], _, _, _, _, hl, _, _ => by cases hl


def plB (P : Program) (t : TypeId) : Option (List (Nat × Nat)) :=
  match P.underlying t with
  | some (.struct fs) => fs.toList.mapM fun f => (P.info? f.type).map fun i => (f.offset, i.size)
  | _ => none
theorem run_places {P : Program} {w : World} : ∀ {l : List Field} {ps : List (Nat × Nat)}, (l.mapM fun f => (P.info? f.type).map fun i => (f.offset, i.size)) = some ps →
    (l.mapM fun f => (do pure (f.offset, ← sizeOf f.type) : Sem (Nat × Nat))).run P w = .ok ps w
  | [], ps, h => by simp at h; subst h; simp
  | f :: r, ps, h => by
    rw [List.mapM_cons] at h
    simp only [bind, Option.bind_eq_some_iff, pure, Option.some.injEq, Option.map_eq_some_iff] at h
    obtain ⟨p, ⟨i, hi, rfl⟩, ps', hps, rfl⟩ := h
    have ih := run_places (P := P) (w := w) hps
    rw [List.mapM_cons]
    have hs : (sizeOf f.type).run P w = .ok i.size w := by simp [sizeOf, run_info hi]
    simp only [Sem.run_bind, hs, Result.andThen_ok, ih, Sem.run_pure]
def evalP (S : AState) : List (Nat × Operand) → List (Nat × AV)
  | [] => []
  | (i, x) :: r => (i, evalS S x) :: evalP S r
theorem evalP_len (l : List (Nat × Operand)) : (evalP S l).length = l.length := by induction l <;> simp [evalP, *]
theorem evalP_get (l : List (Nat × Operand)) (k : Nat) (h1 : k < (evalP S l).length) (h2 : k < l.length) : (evalP S l)[k] = ((l[k]).1, evalS S (l[k]).2) := by
  induction l generalizing k with
  | nil => simp at h2
  | cons p r ih =>
    cases k with
    | zero => rfl
    | succ k => simp only [evalP, List.getElem_cons_succ]; exact ih k _ _
def onesP : List (Nat × AV) → Bool
  | [] => true
  | (_, v) :: r => oneOk v && onesP r
theorem onesP_get {l : List (Nat × AV)} (h : onesP l = true) {β : Nat → Value} (k : Nat) (hk : k < l.length) : OneR β (l[k]).2 := by
  induction l generalizing k with
  | nil => simp at hk
  | cons p r ih =>
    simp only [onesP, Bool.and_eq_true] at h
    cases k with
    | zero => exact oneOk_spec h.1
    | succ k => simp only [List.getElem_cons_succ]; exact ih h.2 k _
theorem ARel.zero {w : World} {ok : Nat → Prop} {β : Nat → Value} {z : Array Value} (h1 : z.toList.all Value.oneCell' = true) : ARel w ok β z (z.toList.map fun v => AV.t (.v v)) := by
  refine ⟨by simp, fun k k1 k2 => ⟨?_, ?_⟩⟩
  · simp only [List.getElem_map, Array.getElem_toList]; exact .t (.v _)
  · rw [List.all_eq_true] at h1; exact h1 _ (by simp)
theorem ARel.aggT {w : World} {ok : Nat → Prop} {β : Nat → Value} {arr : Array Value} {l : List AV} {ts : List T} (h : ARel w ok β arr l) (ht : trees l = some ts) : Reads w ok (.agg arr) (.agg ts) := by
  have := trees_spec ht; subst this
  refine .agg (by simpa using h.1) (fun k hk => (h.2 k hk (by have := h.1; omega)).2) fun k k1 k2 => ?_
  have := (h.2 k k1 (by simpa using k2)).1
  simp only [List.getElem_map] at this
  exact this.tD
/-- What a struct or array literal comes to. -/
theorem build_core {t : TypeId} {parts : Array (Nat × Operand)} {pl : Nat → Option (Nat × Nat)} {zs : List Value} {cells : List AV} (ho : o.op = .build t parts) (hz : zeroB C.P t = some zs) (h1 : zs.all Value.oneCell' = true)
    (hpl : (∃ ps, plB C.P t = some ps ∧ pl = fun i => ps[i]?) ∨ ∃ n e sz, arB C.P t = some (n, e, sz) ∧ pl = fun i => some (i * sz, sz))
    (hone : onesP (evalP S parts.toList) = true) (hf : fillA pl (zs.map fun v => AV.t (.v v)) (evalP S parts.toList) = some cells)
    {β : Nat → Value} {w : World} {ok : Nat → Prop} {ρ : Operand → Value} (hρ : ∀ x ∈ o.op.operands, VRel w ok β (ρ x) (evalS S x)) :
    ∃ arr, (execOp ρ o).run C.P w = .ok (.value (.agg arr)) w ∧ ARel w ok β arr cells := by
  obtain ⟨i, z, hi, hzz, rfl⟩ := zeroB_spec hz
  have hm : ∀ k (h : k < parts.size), parts[k].2 ∈ o.op.operands := by
    intro k h
    simp only [ho, Op.operands, List.mem_toArray, List.mem_map]
    exact ⟨parts[k], by simp, rfl⟩
  obtain ⟨arr, hfill, hA⟩ := fill_sound (w := w) (ok := ok) (β := β) (vs := (parts.map fun (i, x) => (i, ρ x)).toList) (ARel.zero h1) (by rw [evalP_len]; simp)
    (fun k k1 k2 => by
      have k3 : k < parts.size := by simpa using k2
      rw [evalP_get parts.toList k k1 (by simpa using k3)]
      refine ⟨by simp, by simpa using hρ _ (hm k k3), ?_⟩
      have := onesP_get hone (β := β) k k1
      rw [evalP_get parts.toList k k1 (by simpa using k3)] at this
      exact this) hf
  refine ⟨arr, ?_, hA⟩
  rcases hpl with ⟨ps, hps, rfl⟩ | ⟨n, e, sz, har, rfl⟩
  · unfold plB at hps
    split at hps
    · rename_i fs hu
      have hr := run_places (P := C.P) (w := w) hps
      obtain ⟨fl⟩ := fs
      have hr' : ((⟨fl⟩ : Array Field).mapM fun f => (do pure (f.offset, ← sizeOf f.type) : Sem (Nat × Nat))).run C.P w = .ok ps.toArray w := by
        have : (⟨fl⟩ : Array Field) = fl.toArray := rfl
        rw [this, List.mapM_toArray]
        simp only [map_eq_pure_bind, Sem.run_bind] at hr ⊢
        simp only [hr, Result.andThen_ok, Sem.run_pure]
      have hfill' : Instr.fill (fun x => ps.toArray[x]?) z.cells (parts.map fun (i, x) => (i, ρ x)).toList = some arr := by simpa using hfill
      simp only [execOp, ho, Instr.build, Sem.run_bind, zeroValue, run_info hi, hzz, Result.andThen_ok, Sem.run_pure, run_underlying hu, hr', hfill']
    · cases hps
  · obtain ⟨hu, inf, hinf, hsz⟩ := arB_spec har
    simp only [execOp, ho, Instr.build, Sem.run_bind, zeroValue, run_info hi, hzz, Result.andThen_ok, Sem.run_pure, run_underlying hu, sizeOf, run_info hinf, hsz, hfill]
theorem step_buildS {t : TypeId} {parts : Array (Nat × Operand)} {ps : List (Nat × Nat)} {zs : List Value} {cells : List AV} {ts : List T} (ho : o.op = .build t parts) (hz : zeroB C.P t = some zs) (h1 : zs.all Value.oneCell' = true)
    (hpl : plB C.P t = some ps) (hone : onesP (evalP S parts.toList) = true) (hf : fillA (fun i => ps[i]?) (zs.map fun v => AV.t (.v v)) (evalP S parts.toList) = some cells) (ht : trees cells = some ts) (hd : dOk C.n o.dst = true) :
    Step C ops o S ⟨.t (.agg ts), [], []⟩ := by
  refine Step.pure hd (by simp [AV.ids]) fun β w ok ρ hρ _ _ => ?_
  obtain ⟨arr, hr, hA⟩ := build_core ho hz h1 (.inl ⟨ps, hpl, rfl⟩) hone hf hρ
  exact ⟨_, hr, .t (hA.aggT ht)⟩
theorem step_buildA {t : TypeId} {parts : Array (Nat × Operand)} {n e sz : Nat} {zs : List Value} {cells : List AV} {ts : List T} (ho : o.op = .build t parts) (hz : zeroB C.P t = some zs) (h1 : zs.all Value.oneCell' = true)
    (hpl : arB C.P t = some (n, e, sz)) (hone : onesP (evalP S parts.toList) = true) (hf : fillA (fun i => some (i * sz, sz)) (zs.map fun v => AV.t (.v v)) (evalP S parts.toList) = some cells) (ht : trees cells = some ts) (hd : dOk C.n o.dst = true) :
    Step C ops o S ⟨.t (.agg ts), [], []⟩ := by
  refine Step.pure hd (by simp [AV.ids]) fun β w ok ρ hρ _ _ => ?_
  obtain ⟨arr, hr, hA⟩ := build_core ho hz h1 (.inr ⟨n, e, sz, hpl, rfl⟩) hone hf hρ
  exact ⟨_, hr, .t (hA.aggT ht)⟩

/-! ### Slice literals -/
def zinit (zs : List Value) (n : Nat) : List AV := (List.range n).map fun k => AV.t (.v (zs.getD (k % zs.length) undef))
theorem ARel.zinit {w : World} {ok : Nat → Prop} {β : Nat → Value} {z : Array Value} {n : Nat} (hz : 0 < z.size) (h1 : z.toList.all Value.oneCell' = true) : ARel w ok β ((Array.range n).map (z[· % z.size]!)) (Abs.zinit z.toList n) := by
  refine ⟨by simp [Abs.zinit], fun k k1 k2 => ?_⟩
  have hk : k % z.size < z.size := Nat.mod_lt _ hz
  have e : ((Array.range n).map (z[· % z.size]!))[k] = z[k % z.size] := by simp [hk]
  have e2 : (Abs.zinit z.toList n)[k] = AV.t (.v z[k % z.size]) := by simp [Abs.zinit, hk]
  rw [e, e2]
  refine ⟨.t (.v _), ?_⟩
  rw [List.all_eq_true] at h1; exact h1 _ (by simp)
theorem flat_get : ∀ {l : List T} {sz : Nat}, (∀ k (h : k < l.length), l[k].cells.length = sz) → ∀ k (h : k < l.length) j (hj : j < l[k].cells.length), (l.flatMap T.cells)[k * sz + j]? = some (l[k].cells[j])
  | [], _, _, k, h, _, _ => by simp at h
  | x :: r, sz, hz, k, h, j, hj => by
    have h0 := hz 0 (by simp)
    simp only [List.getElem_cons_zero] at h0
    cases k with
    | zero =>
      simp only [List.getElem_cons_zero] at hj ⊢
      simp only [List.flatMap_cons, Nat.zero_mul, Nat.zero_add]
      rw [List.getElem?_append_left hj, List.getElem?_eq_getElem hj]
    | succ k =>
      simp only [List.getElem_cons_succ] at hj ⊢
      simp only [List.flatMap_cons]
      rw [show (k + 1) * sz + j = x.cells.length + (k * sz + j) from by rw [h0, Nat.add_mul]; omega, List.getElem?_append_right (by omega), Nat.add_sub_cancel_left]
      exact flat_get (fun k hk => by have := hz (k + 1) (by simpa using hk); simpa using this) k (by simpa using h) j hj
theorem flat_len {l : List T} {sz : Nat} (hz : ∀ k (h : k < l.length), l[k].cells.length = sz) : (l.flatMap T.cells).length = l.length * sz := by
  induction l with
  | nil => simp
  | cons x r ih =>
    have h0 := hz 0 (by simp)
    simp only [List.getElem_cons_zero] at h0
    rw [List.flatMap_cons, List.length_append, h0, ih (fun k hk => by have := hz (k + 1) (by simpa using hk); simpa using this), List.length_cons, Nat.add_mul]
    omega
theorem allLen {l : List T} {sz : Nat} (h : (l.all fun x => Nat.beq x.cells.length sz) = true) : ∀ k (h : k < l.length), l[k].cells.length = sz := by
  intro k hk
  rw [List.all_eq_true] at h
  exact Nat.eq_of_beq_eq_true (h _ (List.getElem_mem hk))
/-- A row in the cells of an array. -/
theorem ARel.row {w : World} {ok : Nat → Prop} {β : Nat → Value} {arr : Array Value} {cells : List AV} {ts l : List T} {sz : Nat} (h : ARel w ok β arr cells) (ht : trees cells = some ts) (hl : l.flatMap T.cells = ts)
    (hz : ∀ k (h : k < l.length), l[k].cells.length = sz) : arr.size = l.length * sz ∧ ∀ k (h : k < l.length) j (hj : j < l[k].cells.length), ∃ v, arr.toList[k * sz + j]? = some v ∧ Reads w ok v l[k].cells[j] ∧ v.oneCell' = true := by
  have := trees_spec ht; subst this
  subst hl
  have hlen := flat_len hz
  have hs := h.1
  simp only [List.length_map] at hs
  refine ⟨by omega, fun k hk j hj => ?_⟩
  have e := flat_get hz k hk j hj
  have hlt := (List.getElem?_eq_some_iff.1 e).1
  have := h.2 (k * sz + j) (by omega) (by simpa using hlt)
  refine ⟨arr[k * sz + j]'(by omega), ?_, ?_, this.2⟩
  · rw [List.getElem?_eq_getElem (by simp; omega)]; simp
  · have h2 := this.1
    simp only [List.getElem_map] at h2
    have := h2.tD
    rw [List.getElem?_eq_getElem hlt] at e
    injection e with e
    rwa [e] at this
theorem buildSlice_core {t e sz bytes len : Nat} {parts : Array (Nat × Operand)} {zs : List Value} {cells : List AV} (ho : o.op = .buildSlice t len parts) (ht : slB C.P t = some (e, sz, bytes)) (hz : zeroB C.P e = some zs) (hzl : zs.length = sz) (hsz : Nat.blt 0 sz = true)
    (h1 : zs.all Value.oneCell' = true) (hbig : Nat.ble (len * sz) 16777216 = true) (hone : onesP (evalP S parts.toList) = true) (hf : fillA (fun i => some (i * sz, sz)) (zinit zs (len * sz)) (evalP S parts.toList) = some cells)
    {β : Nat → Value} {w : World} {ok : Nat → Prop} {ρ : Operand → Value} (hρ : ∀ x ∈ o.op.operands, VRel w ok β (ρ x) (evalS S x)) :
    ∃ arr, (execOp ρ o).run C.P w = .ok (.value (.slice (some ⟨w.heap.size, 0, none⟩) len len)) (w.alloc (.cells arr e)) ∧ ARel w ok β arr cells := by
  obtain ⟨i, z, hi, hzz, rfl⟩ := zeroB_spec hz
  obtain ⟨hu, inf, hinf, hs, _⟩ := slB_spec ht
  have hii : inf = i := by rw [hi] at hinf; injection hinf with h; exact h.symm
  have hpos : 0 < sz := by simpa [Nat.blt_eq] using hsz
  have hzs : z.cells.size = sz := by simpa using hzl
  have hm : ∀ k (h : k < parts.size), parts[k].2 ∈ o.op.operands := by
    intro k h
    simp only [ho, Op.operands, List.mem_toArray, List.mem_map]
    exact ⟨parts[k], by simp, rfl⟩
  obtain ⟨arr, hfill, hA⟩ := fill_sound (w := w) (ok := ok) (β := β) (vs := (parts.map fun (i, x) => (i, ρ x)).toList) (ARel.zinit (by omega) h1) (by rw [evalP_len]; simp)
    (fun k k1 k2 => by
      have k3 : k < parts.size := by simpa using k2
      rw [evalP_get parts.toList k k1 (by simpa using k3)]
      refine ⟨by simp, by simpa using hρ _ (hm k k3), ?_⟩
      have := onesP_get hone (β := β) k k1
      rw [evalP_get parts.toList k k1 (by simpa using k3)] at this
      exact this) hf
  refine ⟨arr, ?_, hA⟩
  have hle : ¬ (len * sz > 2 ^ 24) := by have := Nat.le_of_ble_eq_true hbig; omega
  subst hii
  have hr0 : ∀ g : Nat → Value, (Array.range 0).map g = #[] := fun g => by simp
  by_cases h0 : len * sz = 0
  · rw [h0, hr0] at hfill
    simp only [execOp, ho, Instr.buildSlice, Sem.run_bind, run_underlying hu, Result.andThen_ok, sizeOf, run_info hinf, Sem.run_pure, hs, hle, if_false, h0, if_true, hr0, hfill, newRow, newObj, Sem.run]
    rfl
  · simp only [execOp, ho, Instr.buildSlice, Sem.run_bind, run_underlying hu, Result.andThen_ok, sizeOf, run_info hinf, Sem.run_pure, hs, hle, if_false, h0, zeroValue, hzz, hfill, newRow, newObj, Sem.run]
    rfl

end Go.Proofs.Ytgblfhobiibeaaa.Abs

/- Abstract symbolic execution, part 10: rows of the call's own, append, calls by contract. No condition. -/
set_option linter.unusedVariables false
set_option linter.unusedSimpArgs false
namespace Go.Proofs.Ytgblfhobiibeaaa.Abs
open Go.RowKit
variable {C : Ctx} {ops : Array Oper} {o : Oper} {S : AState}

/-- The frame for an operation that makes memory which nobody writes any more: its value is a tree. -/
theorem Step.newT {x : T} (hd : dOk C.n o.dst = true)
    (h : ∀ (β : Nat → Value) (w : World) (ok : Nat → Prop) (ρ : Operand → Value), C.w0.heap.size ≤ w.heap.size → (∀ b, ok b → b < w.heap.size) → (∀ x ∈ o.op.operands, VRel w ok β (ρ x) (evalS S x)) → (∀ v, ρ (.const v) = v) →
      ∃ v w', (execOp ρ o).run C.P w = .ok (.value v) w' ∧ Below w.heap.size w w' ∧ Reads w' (fun b => ok b ∨ (w.heap.size ≤ b ∧ b < w'.heap.size)) v x) :
    Step C ops o S ⟨.t x, [], []⟩ := by
  intro S₁ hs hm a w hsat
  obtain ⟨β, hb⟩ := hsat
  obtain ⟨v, w', hr, hbel, hv⟩ := h β w (okS C S₁ β w) a.eval hb.below.size (fun b hb' => hb'.2.1) (fun x hx => by rw [← agree_eval hs hx]; exact hb.eval x) (fun _ => rfl)
  refine Oper.wp_value hr ?_
  rw [ap_pure]
  have hg := hb.grow hbel
  refine ⟨β, hg.put o.dst v (.t x) (fun _ _ _ => .t (hv.mono (fun _ _ => rfl) fun b hb' => ?_)) (fun x hx => .inl ?_) (by simp [AV.ids])⟩
  · rcases hb' with hb' | ⟨h1, h2⟩
    · exact ⟨hb'.1, Nat.lt_of_lt_of_le hb'.2.1 hbel.size, hb'.2.2⟩
    · exact hb.fresh_ok h1 h2
  · rw [hx] at hd; simpa [dOk] using hd

theorem le_maxLen_of_cells {len sz : Nat} (hsz : 0 < sz) (h : len * sz ≤ 16777216) : len ≤ maxLen := by
  have : len ≤ len * sz := Nat.le_mul_of_pos_right _ hsz
  unfold maxLen; omega
/-- A slice literal that is only read from then on. -/
theorem step_buildSliceT {t e sz bytes len : Nat} {parts : Array (Nat × Operand)} {zs : List Value} {cells : List AV} {ts l : List T} (ho : o.op = .buildSlice t len parts) (ht : slB C.P t = some (e, sz, bytes)) (hz : zeroB C.P e = some zs) (hzl : zs.length = sz) (hsz : Nat.blt 0 sz = true)
    (h1 : zs.all Value.oneCell' = true) (hbig : Nat.ble (len * sz) 16777216 = true) (hone : onesP (evalP S parts.toList) = true) (hf : fillA (fun i => some (i * sz, sz)) (zinit zs (len * sz)) (evalP S parts.toList) = some cells)
    (hts : trees cells = some ts) (hel : trees ((evalP S parts.toList).map Prod.snd) = some l) (hl : l.flatMap T.cells = ts) (hlen : l.length = len) (hls : (l.all fun x => Nat.beq x.cells.length sz) = true) (hd : dOk C.n o.dst = true) :
    Step C ops o S ⟨.t (.slice sz l), [], []⟩ := by
  refine Step.newT hd fun β w ok ρ hw0 hokl hρ _ => ?_
  obtain ⟨arr, hr, hA⟩ := buildSlice_core ho ht hz hzl hsz h1 hbig hone hf hρ
  have hzz := allLen hls
  obtain ⟨r1, r2⟩ := hA.row hts hl hzz
  have hpos : 0 < sz := by simpa [Nat.blt_eq] using hsz
  refine ⟨_, _, hr, below_alloc' _ _, ?_⟩
  subst hlen
  refine .slice (fun k => arr.getD k undef) (Nat.le_refl _) (le_maxLen_of_cells hpos (Nat.le_of_ble_eq_true hbig)) hzz (fun hp => ?_) (fun i hi j hj => ?_)
  · refine ⟨_, rfl, .inr ⟨Nat.le_refl _, by simp⟩, fun k hk => ?_⟩
    rw [add_plain', cell_of_block (heap_alloc_at w _)]
    have hk' : k < arr.size := by omega
    refine ⟨by simp [Array.getD, hk'], ?_⟩
    have := (hA.2 k hk' (by have := hA.1; omega)).2
    simpa [Array.getD, hk'] using this
  · obtain ⟨v, e1, e2, _⟩ := r2 i hi j hj
    have hlt := (List.getElem?_eq_some_iff.1 e1).1
    have hlt' : i * sz + j < arr.size := by simpa using hlt
    have : arr.getD (i * sz + j) undef = v := by
      rw [List.getElem?_eq_getElem hlt] at e1
      injection e1 with e1
      simp only [Array.getElem_toList] at e1
      simp [Array.getD, hlt', e1]
    simp only [this]
    exact e2.mono (fun b hb => (below_alloc' w _).block b (hokl b hb)) fun b hb => .inl hb
/-- A slice literal that the call goes on to write or to append to. -/
theorem step_buildSliceH {t e sz bytes len d : Nat} {parts : Array (Nat × Operand)} {zs : List Value} {cells : List AV} {ts l : List T} (ho : o.op = .buildSlice t len parts) (hdst : o.dst = some d) (ht : slB C.P t = some (e, sz, bytes)) (hz : zeroB C.P e = some zs) (hzl : zs.length = sz) (hsz : Nat.blt 0 sz = true)
    (h1 : zs.all Value.oneCell' = true) (hbig : Nat.ble (len * sz) 16777216 = true) (hone : onesP (evalP S parts.toList) = true) (hf : fillA (fun i => some (i * sz, sz)) (zinit zs (len * sz)) (evalP S parts.toList) = some cells)
    (hts : trees cells = some ts) (hel : trees ((evalP S parts.toList).map Prod.snd) = some l) (hl : l.flatMap T.cells = ts) (hlen : l.length = len) (hls : (l.all fun x => Nat.beq x.cells.length sz) = true) (hu : S.used d = false) (hd : dOk C.n o.dst = true) :
    Step C ops o S ⟨.h d, [(d, some (.row e sz l))], []⟩ := by
  refine Step.new hd hu (by simp [AObj.ids]) (by simp [AV.ids]) fun β w ok ρ hw0 hokl hρ _ => ?_
  obtain ⟨arr, hr, hA⟩ := buildSlice_core ho ht hz hzl hsz h1 hbig hone hf hρ
  have hzz := allLen hls
  obtain ⟨r1, r2⟩ := hA.row hts hl hzz
  have hpos : 0 < sz := by simpa [Nat.blt_eq] using hsz
  refine ⟨_, .slice (some ⟨w.heap.size, 0, none⟩) len len, _, hr, below_alloc' _ _, fun b hb => by simp [blk] at hb; omega, fun ok' β' h1' h2' h3' h4' => ⟨?_, ?_⟩⟩
  · subst hlen
    refine ⟨arr.toList, ?_, hzz, fun k hk j hj => ?_⟩
    · rw [h3']
      exact World.ownsRow_lit w arr l.length hw0 (le_maxLen_of_cells hpos (Nat.le_of_ble_eq_true hbig)) r1
    · obtain ⟨v, e1, e2, e3⟩ := r2 k hk j hj
      exact ⟨v, e1, e2.mono (fun b hb => (below_alloc' w _).block b (hokl b hb)) h1', e3⟩
  · rw [← h3']; exact .h d

/-! ### Rows: length, elements -/
theorem step_lenH {t : TypeId} {x : Operand} {i E sz sz' bytes : Nat} {l : List T} (ho : o.op = .call { callee := .builtin .len, args := #[x], argTypes := #[t] }) (hx : evalS S x = .h i) (hm : S.mem i = some (.row E sz l))
    (ht : slB C.P t = some (E, sz', bytes)) (hd : dOk C.n o.dst = true) : Step C ops o S ⟨.t (.v (.int .i64 l.length)), [], [i]⟩ := by
  have hmx : x ∈ o.op.operands := by simp [ho, Op.operands, Call.operands]
  refine Step.read hm hd (by simp [AV.ids]) fun β w ok ρ hO hρ _ => ⟨_, ?_, .t (.v _)⟩
  obtain ⟨hu, _⟩ := slB_spec ht
  have h := hρ x hmx
  rw [hx] at h
  have h := h.hD
  obtain ⟨cells, h1, _⟩ := hO
  obtain ⟨a, cap, hq⟩ : ∃ a cap, ρ x = .slice a l.length cap := by
    rw [h]
    rcases h1.2 with ⟨h2, h3⟩ | ⟨g, cap, cur, h2, _⟩
    · exact ⟨none, 0, by rw [h2, h3]⟩
    · exact ⟨_, cap, h2⟩
  simp [execOp, ho, resolve, invoke, builtin, Builtin.len_, run_underlying hu, hq, goInt]
theorem step_indexAddrH {t : TypeId} {x ix : Operand} {i E sz bytes : Nat} {l : List T} {k : IntKind} {n : Int} (ho : o.op = .indexAddr t x ix) (hx : evalS S x = .h i) (hm : S.mem i = some (.row E sz l))
    (hi : evalS S ix = .t (.v (.int k n))) (ht : slB C.P t = some (E, sz, bytes)) (h0 : 0 ≤ n) (h1 : n < l.length) (hd : dOk C.n o.dst = true) :
    Step C ops o S ⟨.e i (n.toNat * sz), [], [i]⟩ := by
  have hmx : x ∈ o.op.operands := by simp [ho, Op.operands]
  have hmi : ix ∈ o.op.operands := by simp [ho, Op.operands]
  refine Step.read hm hd (fun j hj => .inr ⟨x, hmx, by rw [hx]; exact hj⟩) fun β w ok ρ hO hρ _ => ?_
  obtain ⟨hu, inf, hinf, hsz, _⟩ := slB_spec ht
  have e2 : ρ ix = .int k n := by have := hρ ix hmi; rw [hi] at this; exact this.toV
  have h := hρ x hmx
  rw [hx] at h
  have h := h.hD
  obtain ⟨cells, h2, _⟩ := hO
  rcases h2.2 with ⟨h3, h4⟩ | ⟨g, cap, cur, h3, _⟩
  · omega
  · have hq : ρ x = .slice (some ⟨g, 0, none⟩) l.length cap := by rw [h, h3]
    exact ⟨_, by simp [execOp, ho, hq, e2, Instr.indexAt, asIntOf, run_underlying hu, sizeOf, typeInfo, hinf, hsz, h0, h1, add_plain'], .e h3⟩
theorem row_cell {β : Nat → Value} {w : World} {ok : Nat → Prop} {i E sz : Nat} {l : List T} (hO : ORel C ok β w i (.row E sz l)) {v : Value} {off : Nat} (hv : VRel w ok β v (.e i off)) :
    ∃ g cells, v = .pointer (some ⟨g, off, none⟩) ∧ β i = .slice (some ⟨g, 0, none⟩) l.length (match β i with | .slice _ _ c => c | _ => 0) ∧ cells.length = l.length * sz ∧ w.ownsRow C.w0.heap.size E sz (β i) l.length cells ∧
      (∀ k (h : k < l.length), l[k].cells.length = sz) ∧
      ∀ k (h : k < l.length) j (hj : j < l[k].cells.length), ∃ u, w.cell? ⟨g, k * sz + j, none⟩ = some u ∧ cells[k * sz + j]? = some u ∧ Reads w ok u l[k].cells[j] ∧ u.oneCell' = true := by
  obtain ⟨cells, h1, h2, h3⟩ := hO
  obtain ⟨b, n, c, h4, h5⟩ := hv.eD
  rcases h1.2 with ⟨h6, _⟩ | ⟨g, cap, cur, h6, hrest⟩
  · rw [h6] at h4; cases h4
  · have hbg : b = g := by rw [h6] at h4; injection h4 with h4; injection h4 with h4; injection h4 with h4; exact h4.symm
    subst hbg
    refine ⟨b, cells, h5, by rw [h6], h1.1, h1, h2, fun k hk j hj => ?_⟩
    obtain ⟨u, e1, e2, e3⟩ := h3 k hk j hj
    refine ⟨u, ?_, e1, e2, e3⟩
    have h1' := h1
    rw [h6] at h1'
    have := h1'.cellAt (k * sz + j) (by have := (List.getElem?_eq_some_iff.1 e1).1; rw [h1.1] at this; exact this)
    rw [this, e1]
theorem step_loadE1 {t : TypeId} {x : Operand} {i E sz off k j : Nat} {l : List T} {v c : T} (ho : o.op = .load t x) (hx : evalS S x = .e i off) (hm : S.mem i = some (.row E sz l)) (hoff : off = k * sz + j)
    (ht : tyB C.P t = some (false, 1)) (hv : l[k]? = some v) (hc : v.cells[j]? = some c) (hd : dOk C.n o.dst = true) : Step C ops o S ⟨.t c, [], [i]⟩ := by
  have hmx : x ∈ o.op.operands := by simp [ho, Op.operands]
  refine Step.read hm hd (by simp [AV.ids]) fun β w ok ρ hO hρ _ => ?_
  have h := hρ x hmx
  rw [hx] at h
  obtain ⟨g, cells, h1, h2, h3, h4, h5, h6⟩ := row_cell hO h
  obtain ⟨hk, rfl⟩ := List.getElem?_eq_some_iff.1 hv
  obtain ⟨hj, rfl⟩ := List.getElem?_eq_some_iff.1 hc
  obtain ⟨u, e1, e2, e3, e4⟩ := h6 k hk j hj
  subst hoff
  exact ⟨u, by simp [execOp, ho, h1, Instr.loadAt, Instr.sureAddr, run_loadVar1 ht e1], .t e3⟩
theorem step_loadEN {t : TypeId} {x : Operand} {i E sz off k : Nat} {l : List T} {v : T} (ho : o.op = .load t x) (hx : evalS S x = .e i off) (hm : S.mem i = some (.row E sz l)) (hoff : off = k * sz)
    (ht : tyB C.P t = some (true, sz)) (hv : l[k]? = some v) (hd : dOk C.n o.dst = true) : Step C ops o S ⟨.t (.agg v.cells), [], [i]⟩ := by
  have hmx : x ∈ o.op.operands := by simp [ho, Op.operands]
  refine Step.read hm hd (by simp [AV.ids]) fun β w ok ρ hO hρ _ => ?_
  have h := hρ x hmx
  rw [hx] at h
  obtain ⟨g, cells, h1, h2, h3, h4, h5, h6⟩ := row_cell hO h
  obtain ⟨hk, rfl⟩ := List.getElem?_eq_some_iff.1 hv
  have hz := h5 k hk
  subst hoff
  have hcell : ∀ j, j < sz → w.cell? ((⟨g, k * sz, none⟩ : Addr).add j) = some (cells.getD (k * sz + j) undef) := fun j hj => by
    obtain ⟨u, e1, e2, e3, e4⟩ := h6 k hk j (by omega)
    rw [add_plain', e1, List.getD_eq_getElem?_getD, e2]; rfl
  refine ⟨.agg ((List.range sz).map fun j => cells.getD (k * sz + j) undef).toArray, by simp [execOp, ho, h1, Instr.loadAt, Instr.sureAddr, run_loadVarN _ ht hcell], .t (.agg (by simp [hz]) (fun j hj => ?_) fun j j1 j2 => ?_)⟩
  · have hj' : j < sz := by simpa using hj
    obtain ⟨u, e1, e2, e3, e4⟩ := h6 k hk j (by omega)
    simp [List.getD_eq_getElem?_getD, e2, e4]
  · obtain ⟨u, e1, e2, e3, e4⟩ := h6 k hk j j2
    simpa [List.getD_eq_getElem?_getD, e2] using e3

/-! ### Append -/
/-- The cells of a slice that is read, as the append law wants them. -/
theorem Reads.news {w : World} {ok : Nat → Prop} {v : Value} {sz : Nat} {r : List T} (h : Reads w ok v (.slice sz r)) :
    ∃ (a : Option Addr) (c : Nat) (cells : List Value), v = .slice a r.length c ∧ cells.length = r.length * sz ∧ (∀ u ∈ cells, u.oneCell' = true) ∧ (∀ k (h : k < r.length), r[k].cells.length = sz) ∧
      (0 < r.length * sz → ∃ ad, a = some ad ∧ ok ad.block ∧ ∀ j u, cells[j]? = some u → w.cell? (ad.add j) = some u) ∧
      ∀ k (h : k < r.length) j (hj : j < r[k].cells.length), ∃ u, cells[k * sz + j]? = some u ∧ Reads w ok u r[k].cells[j] ∧ u.oneCell' = true := by
  cases h with
  | slice f hc hm hz ha h =>
    rename_i a cap
    refine ⟨a, cap, (List.range (r.length * sz)).map f, rfl, by simp, fun u hu => ?_, hz, fun hp => ?_, fun k hk j hj => ?_⟩
    · obtain ⟨j, hj, rfl⟩ := List.mem_map.1 hu
      have hj' : j < r.length * sz := by simpa using hj
      obtain ⟨ad, e, _, hcell⟩ := ha (by omega)
      exact (hcell j hj').2
    · obtain ⟨ad, e, hok, hcell⟩ := ha hp
      refine ⟨ad, e, hok, fun j u hu => ?_⟩
      obtain ⟨hj, rfl⟩ := List.getElem?_eq_some_iff.1 hu
      simpa using (hcell j (by simpa using hj)).1
    · have hzk := hz k hk
      have hlt : k * sz + j < r.length * sz := by
        have : (k + 1) * sz ≤ r.length * sz := Nat.mul_le_mul_right _ (by omega)
        have : (k + 1) * sz = k * sz + sz := by rw [Nat.add_mul, Nat.one_mul]
        omega
      obtain ⟨ad, e, hok, hcell⟩ := ha (by omega)
      refine ⟨f (k * sz + j), by simp [hlt], h k hk j hj, (hcell _ hlt).2⟩
theorem run_append_none {P : Program} {w : World} {base t ty e size n c : Nat} {i : TypeInfo} {v : Value} {xs : List Value} (ht : P.underlying t = some (.slice e)) (hi : P.info? e = some i) (hown : w.ownsRow base e size v n xs) (a : Option Addr) :
    (Builtin.append_ #[t, t] ty #[v, .slice a 0 c]).run P w = .ok v w := by
  rcases hown.2 with ⟨rfl, rfl⟩ | ⟨g, cap, cur, rfl, _, _, hnc, _⟩
  · cases a <;> simp [Builtin.append_, run_underlying ht, sizeOf, typeInfo, hi, Builtin.lenOf, Builtin.firstCells, loadCells, loadCellsFrom]
  · cases a <;> simp [Builtin.append_, run_underlying ht, sizeOf, typeInfo, hi, Builtin.lenOf, Builtin.firstCells, hnc, storeCells, loadCells, loadCellsFrom]

/-- append, of a row of the call's own and a slice that is read. -/
theorem run_append_T {P : Program} {w : World} {base t ty e sz bytes n : Nat} {zs : List Value} {ok : Nat → Prop} {v y : Value} {xs : List Value} {r : List T} (ht : slB P t = some (e, sz, bytes)) (hz : zeroB P e = some zs) (hzl : zs.length = sz) (hsz : 0 < sz)
    (hown : w.ownsRow base e sz v n xs) (hy : Reads w ok y (.slice sz r)) (hbytes : (n + r.length) * bytes ≤ 140737488355328) (hb1 : 0 < bytes) (hbase : base ≤ w.heap.size) :
    ∃ v' w' cells, (Builtin.append_ #[t, t] ty #[v, y]).run P w = .ok v' w' ∧ w'.ownsRow base e sz v' (n + r.length) (xs ++ cells) ∧ w.grownBy w' v.ownBlock ∧
      (v'.ownBlock = v.ownBlock ∨ v'.ownBlock = some w.heap.size) ∧ cells.length = r.length * sz ∧ (∀ k (h : k < r.length), r[k].cells.length = sz) ∧
      ∀ k (h : k < r.length) j (hj : j < r[k].cells.length), ∃ u, cells[k * sz + j]? = some u ∧ Reads w ok u r[k].cells[j] ∧ u.oneCell' = true := by
  obtain ⟨hu, inf, hinf, hs, hby⟩ := slB_spec ht
  obtain ⟨i, z, hi, hzz, rfl⟩ := zeroB_spec hz
  have hii : inf = i := by rw [hi] at hinf; injection hinf with h; exact h.symm
  subst hii
  obtain ⟨a, c, cells, rfl, hl, h1, hzk, ha, hcells⟩ := hy.news
  by_cases h0 : r.length = 0
  · have hr0 : r = [] := List.eq_nil_of_length_eq_zero h0
    subst hr0
    have hc0 : cells = [] := List.eq_nil_of_length_eq_zero (by simpa using hl)
    subst hc0
    exact ⟨v, w, [], run_append_none hu hi hown a, by simpa using hown, ⟨rfl, rfl, rfl, Nat.le_refl _, fun _ _ _ => rfl⟩, .inl rfl, by simp, hzk, hcells⟩
  · obtain ⟨ad, rfl, hok, hcell⟩ := ha (Nat.mul_pos (by omega) hsz)
    have hlen : n + r.length ≤ maxLen := by
      have : n + r.length ≤ (n + r.length) * bytes := Nat.le_mul_of_pos_right _ hb1
      unfold maxLen; omega
    obtain ⟨v', w', hr, hown', hg, _, hat⟩ := run_append_own_at (P := P) w base t ty e inf z sz bytes hu hi hzz hs hby (by simpa using hzl) hsz v n xs hown ad r.length c cells hl hcell h1 hlen hbytes hbase
    exact ⟨v', w', cells, hr, hown', hg, hat, hl, hzk, hcells⟩

theorem rows_append {w : World} {ok : Nat → Prop} {sz : Nat} {l r : List T} {xs cells : List Value} (hxl : xs.length = l.length * sz) (hz1 : ∀ k (h : k < l.length), l[k].cells.length = sz) (hz2 : ∀ k (h : k < r.length), r[k].cells.length = sz)
    (h1 : ∀ k (h : k < l.length) j (hj : j < l[k].cells.length), ∃ u, xs[k * sz + j]? = some u ∧ Reads w ok u l[k].cells[j] ∧ u.oneCell' = true)
    (h2 : ∀ k (h : k < r.length) j (hj : j < r[k].cells.length), ∃ u, cells[k * sz + j]? = some u ∧ Reads w ok u r[k].cells[j] ∧ u.oneCell' = true) :
    (∀ k (h : k < (l ++ r).length), (l ++ r)[k].cells.length = sz) ∧ ∀ k (h : k < (l ++ r).length) j (hj : j < (l ++ r)[k].cells.length), ∃ u, (xs ++ cells)[k * sz + j]? = some u ∧ Reads w ok u (l ++ r)[k].cells[j] ∧ u.oneCell' = true := by
  have hz : ∀ k (h : k < (l ++ r).length), (l ++ r)[k].cells.length = sz := by
    intro k h
    rw [List.getElem_append]
    split
    · exact hz1 _ _
    · exact hz2 _ _
  refine ⟨hz, fun k h j hj => ?_⟩
  have hzk := hz k h
  by_cases hk : k < l.length
  · have e : (l ++ r)[k] = l[k] := List.getElem_append_left hk
    simp only [e] at hj ⊢
    obtain ⟨u, e1, e2⟩ := h1 k hk j hj
    exact ⟨u, by rw [List.getElem?_append_left (List.getElem?_eq_some_iff.1 e1).1]; exact e1, e2⟩
  · have hk2 : k - l.length < r.length := by simp at h; omega
    have e : (l ++ r)[k] = r[k - l.length] := List.getElem_append_right (by omega)
    simp only [e] at hj ⊢
    obtain ⟨u, e1, e2⟩ := h2 (k - l.length) hk2 j hj
    refine ⟨u, ?_, e2⟩
    have h3 : k * sz = l.length * sz + (k - l.length) * sz := by rw [← Nat.add_mul]; congr 1; omega
    rw [List.getElem?_append_right (by omega), show k * sz + j - xs.length = (k - l.length) * sz + j from by omega]
    exact e1

theorem SatB.append {β : Nat → Value} {a : Act} {w w' : World} (h : SatB C β S a w) (i d E sz : Nat) (l l' : List T) (v' : Value) (xs' : List Value) (hm : S.mem i = some (.row E sz l)) (hu : S.used d = false)
    (hg : w.grownBy w' (β i).ownBlock) (hat : v'.ownBlock = (β i).ownBlock ∨ v'.ownBlock = some w.heap.size) (hown : w'.ownsRow C.w0.heap.size E sz v' l'.length xs')
    (hz : ∀ k (h : k < l'.length), l'[k].cells.length = sz)
    (hcells : ∀ k (h : k < l'.length) j (hj : j < l'[k].cells.length), ∃ u, xs'[k * sz + j]? = some u ∧ Reads w (okS C S β w) u l'[k].cells[j] ∧ u.oneCell' = true) :
    ∃ β', β' d = v' ∧ SatB C β' (modS [(d, some (.row E sz l')), (i, none)] S) a w' := by
  have hs := h.below.size
  have hne : i ≠ d := fun e => by subst e; have := (h.wfm i _ hm).1; rw [hu] at this; cases this
  have hblk : blk (β i) = (β i).ownBlock := by obtain ⟨cs, k1, _⟩ := h.mem i _ hm; exact ownsRow_blk k1
  have hblk' : blk v' = v'.ownBlock := ownsRow_blk hown
  let β' : Nat → Value := fun j => if j = d then v' else β j
  have e1 : β' d = v' := by simp [β']
  have e2 : ∀ j, j ≠ d → β' j = β j := fun j hj => by simp [β', hj]
  have hused : ∀ j, S.used j = true → j ≠ d := fun j hj e => by subst e; rw [hu] at hj; cases hj
  have hm' : ∀ j, (modS [(d, some (.row E sz l')), (i, none)] S).mem j = (if j = d then some (.row E sz l') else if j = i then none else S.mem j) := by
    intro j
    simp only [modS, assoc]
    by_cases hd : j = d
    · subst hd; simp [Nat.beq_refl]
    · have hb : Nat.beq j d = false := by
        cases hb : Nat.beq j d with
        | false => rfl
        | true => exact absurd (Nat.eq_of_beq_eq_true hb) hd
      by_cases hi : j = i
      · subst hi; simp [hb, Nat.beq_refl, hd]
      · have hb2 : Nat.beq j i = false := by
          cases hb : Nat.beq j i with
          | false => rfl
          | true => exact absurd (Nat.eq_of_beq_eq_true hb) hi
        simp [hb, hb2, hd, hi]
  have hus : ∀ j, S.used j = true → (modS [(d, some (.row E sz l')), (i, none)] S).used j = true := fun j hj => by simp [modS, hj]
  have husd : (modS [(d, some (.row E sz l')), (i, none)] S).used d = true := by simp [modS, hasKey, Nat.beq_refl]
  have hlt : ∀ b, (β i).ownBlock = some b → C.w0.heap.size ≤ b ∧ b < w.heap.size := fun b hb => (h.mem i _ hm).lt (by rw [hblk]; exact hb)
  have hbel : Below C.w0.heap.size C.w0 w' := h.below.trans ⟨hg.os, hg.tape, hg.output, hg.size, fun k hk => hg.block k (by omega) (fun e => by have := (hlt k e.symm).1; omega)⟩
  have hnb : ∀ b, okS C S β w b → some b ≠ (β i).ownBlock := fun b hb e => hb.2.2 ⟨i, _, hm, by rw [hblk, ← e]⟩
  have hheap : ∀ b, okS C S β w b → w'.heap[b]? = w.heap[b]? := fun b hb => hg.block b hb.2.1 (hnb b hb)
  have hv' : ∀ b, v'.ownBlock = some b → (some b = (β i).ownBlock ∨ b = w.heap.size) := fun b hb => by
    rcases hat with h1 | h1
    · left; rw [← h1, hb]
    · right; rw [h1] at hb; injection hb with hb; exact hb.symm
  have hok : ∀ b, okS C S β w b → okS C (modS [(d, some (.row E sz l')), (i, none)] S) β' w' b := by
    intro b hb
    refine ⟨hb.1, Nat.lt_of_lt_of_le hb.2.1 hg.size, ?_⟩
    rintro ⟨j, q, hj, hbl⟩
    rw [hm'] at hj
    split at hj
    · rename_i e; subst e
      rw [e1, hblk'] at hbl
      rcases hv' b hbl with h2 | h2
      · exact hnb b hb h2
      · have := hb.2.1; omega
    · rename_i hjd
      split at hj
      · cases hj
      · rw [e2 j hjd] at hbl
        exact hb.2.2 ⟨j, q, hj, hbl⟩
  have hkp : ∀ b x, C.keep b = some x → w'.heap[b]? = some x.1 ∧ ¬ owned (modS [(d, some (.row E sz l')), (i, none)] S) β' b := fun b x hx => by
    have hlt := h.keep_lt hx
    have hne2 : some b ≠ (β i).ownBlock := fun e => (h.keep b x hx).2 ⟨i, _, hm, by rw [hblk, ← e]⟩
    refine ⟨(hg.block b hlt hne2).trans (h.keep b x hx).1, ?_⟩
    rintro ⟨j, q, hj, hbl⟩
    rw [hm'] at hj
    split at hj
    · rename_i e; subst e
      rw [e1, hblk'] at hbl
      rcases hv' b hbl with h2 | h2
      · exact hne2 h2
      · omega
    · rename_i hjd
      split at hj
      · cases hj
      · rw [e2 j hjd] at hbl
        exact (h.keep b x hx).2 ⟨j, q, hj, hbl⟩
  refine ⟨β', e1, h.change hbel hheap hok (fun j hj => e2 j (hused j hj)) rfl hus (fun j q hj => ?_) (fun j k q q' hj hk hjk b hbj hbk => ?_) (fun j q hj => ?_) hkp (fun p hp => ?_)⟩
  · rw [hm'] at hj
    split at hj
    · rename_i e; subst e; injection hj with hj; subst hj
      refine ⟨xs', by rw [e1]; exact hown, hz, fun k hk jj hjj => ?_⟩
      obtain ⟨u, g1, g2, g3⟩ := hcells k hk jj hjj
      exact ⟨u, g1, g2.mono hheap hok, g3⟩
    · rename_i hjd
      split at hj
      · cases hj
      · rename_i hji
        refine (h.mem j q hj).mono (fun b hbl => ?_) hheap hok (e2 j hjd) (fun x hx => e2 x (hused x ((h.wfm j q hj).2 x hx)))
        refine hg.block b ((h.mem j q hj).lt hbl).2 fun e => ?_
        exact h.apart j i q _ hj hm hji b hbl (by rw [hblk, ← e])
  · have hcase : ∀ j q, (modS [(d, some (.row E sz l')), (i, none)] S).mem j = some q → j ≠ d → j ≠ i ∧ S.mem j = some q := by
      intro j q hj hjd
      rw [hm', if_neg hjd] at hj
      split at hj
      · cases hj
      · rename_i hji; exact ⟨hji, hj⟩
    have clash : ∀ j q, (modS [(d, some (.row E sz l')), (i, none)] S).mem j = some q → j ≠ d → blk (β' j) = some b → v'.ownBlock = some b → False := by
      intro j q hj hjd hbl hvb
      obtain ⟨hji, hj'⟩ := hcase j q hj hjd
      rw [e2 j hjd] at hbl
      rcases hv' b hvb with h2 | h2
      · exact h.apart j i q _ hj' hm hji b hbl (by rw [hblk, ← h2])
      · have := ((h.mem j q hj').lt hbl).2; omega
    by_cases hjd : j = d
    · subst hjd
      rw [e1, hblk'] at hbj
      exact clash k q' hk (fun e => hjk e.symm) hbk hbj
    · by_cases hkd : k = d
      · subst hkd
        rw [e1, hblk'] at hbk
        exact clash j q hj hjd hbj hbk
      · obtain ⟨_, hj'⟩ := hcase j q hj hjd
        obtain ⟨_, hk'⟩ := hcase k q' hk hkd
        rw [e2 j hjd] at hbj
        rw [e2 k hkd] at hbk
        exact h.apart j k q q' hj' hk' hjk b hbj hbk
  · rw [hm'] at hj
    split at hj
    · rename_i e; subst e; injection hj with hj; subst hj
      exact ⟨husd, by simp [AObj.ids]⟩
    · split at hj
      · cases hj
      · obtain ⟨h1, h2⟩ := h.wfm j q hj
        exact ⟨hus _ h1, fun x hx => hus _ (h2 x hx)⟩
  · obtain ⟨g1, E', cells, g2⟩ := h.anc p hp
    have hd' : p.1 ≠ d := hused _ (h.wfm _ _ g2).1
    have hi' : p.1 ≠ i := fun e => by rw [e, hm] at g2; cases g2
    exact ⟨(e2 _ hd').trans g1, E', cells, by rw [hm', if_neg hd', if_neg hi']; exact g2⟩

theorem step_append {t : TypeId} {x y : Operand} {i d E sz bytes : Nat} {l r : List T} {y' : T} {zs : List Value} (ho : o.op = .call { callee := .builtin .append, args := #[x, y], argTypes := #[t, t] }) (hdst : o.dst = some d)
    (hx : evalS S x = .h i) (hm : S.mem i = some (.row E sz l)) (hy : evalS S y = .t y') (hc : Conv y' (.slice sz r)) (ht : slB C.P t = some (E, sz, bytes)) (hz : zeroB C.P E = some zs) (hzl : zs.length = sz) (hsz : Nat.blt 0 sz = true) (hb1 : Nat.blt 0 bytes = true)
    (hbytes : (l.length + r.length) * bytes ≤ 140737488355328) (hu : S.used d = false) (hd : dOk C.n o.dst = true) :
    Step C ops o S ⟨.h d, [(d, some (.row E sz (l ++ r))), (i, none)], []⟩ := by
  have hmx : x ∈ o.op.operands := by simp [ho, Op.operands, Call.operands]
  have hmy : y ∈ o.op.operands := by simp [ho, Op.operands, Call.operands]
  intro S₁ hsl hmm a w hsat
  obtain ⟨β, hb⟩ := hsat
  have hm1 : S₁.mem i = some (.row E sz l) := (hmm i (.inr (by simp [hasKey, Nat.beq_refl]))).1.trans hm
  have hu1 : S₁.used d = false := by rw [(hmm d (.inr (by simp [hasKey, Nat.beq_refl]))).2]; exact hu
  have hvx := hb.eval x
  have hvy := hb.eval y
  rw [agree_eval hsl hmx, hx] at hvx
  rw [agree_eval hsl hmy, hy] at hvy
  have hq := hvx.hD
  obtain ⟨cells, k1, k2, k3⟩ := hb.mem i _ hm1
  obtain ⟨v', w', cs, hr, hown, hg, hat, hl, hz2, hcs⟩ := run_append_T (ty := o.type) ht hz hzl (by simpa [Nat.blt_eq] using hsz) k1 (hc.reads hvy.tD) hbytes (by simpa [Nat.blt_eq] using hb1) hb.below.size
  obtain ⟨r1, r2⟩ := rows_append k1.1 k2 hz2 k3 hcs
  obtain ⟨β', e1, hsb⟩ := hb.append i d E sz l (l ++ r) v' (cells ++ cs) hm1 hu1 hg hat (by rw [List.length_append]; exact hown) r1 r2
  have hrun : (execOp a.eval o).run C.P w = .ok (.value v') w' := by simp [execOp, ho, resolve, invoke, builtin, hq, hr]
  refine Oper.wp_value hrun ?_
  rw [ap_modS]
  refine ⟨β', hsb.put o.dst v' (.h d) (fun _ _ _ => by rw [← e1]; exact .h d) (fun z hz' => .inl ?_) (fun j hj => ?_)⟩
  · rw [hz'] at hd; simpa [dOk] using hd
  · simp only [AV.ids, List.mem_singleton] at hj; subst hj; simp [modS, hasKey, Nat.beq_refl]
/-- append to nil. -/
theorem step_append_nil {t : TypeId} {x y : Operand} {d E sz bytes : Nat} {r : List T} {y' : T} {zs : List Value} (ho : o.op = .call { callee := .builtin .append, args := #[x, y], argTypes := #[t, t] }) (hdst : o.dst = some d)
    (hx : evalS S x = .t (.v (.slice none 0 0))) (hy : evalS S y = .t y') (hc : Conv y' (.slice sz r)) (ht : slB C.P t = some (E, sz, bytes)) (hz : zeroB C.P E = some zs) (hzl : zs.length = sz) (hsz : Nat.blt 0 sz = true) (hb1 : Nat.blt 0 bytes = true)
    (hbytes : r.length * bytes ≤ 140737488355328) (hu : S.used d = false) (hd : dOk C.n o.dst = true) :
    Step C ops o S ⟨.h d, [(d, some (.row E sz r))], []⟩ := by
  have hmx : x ∈ o.op.operands := by simp [ho, Op.operands, Call.operands]
  have hmy : y ∈ o.op.operands := by simp [ho, Op.operands, Call.operands]
  refine Step.new hd hu (by simp [AObj.ids]) (by simp [AV.ids]) fun β w ok ρ hw0 hokl hρ _ => ?_
  have e1 : ρ x = .slice none 0 0 := by have := hρ x hmx; rw [hx] at this; exact this.toV
  have hvy := hρ y hmy
  rw [hy] at hvy
  obtain ⟨v', w', cs, hr, hown, hg, hat, hl, hz2, hcs⟩ := run_append_T (base := w.heap.size) (ty := o.type) (n := 0) ht hz hzl (by simpa [Nat.blt_eq] using hsz) (World.ownsRow_nil w _ E sz) (hc.reads hvy.tD) (by simpa using hbytes) (by simpa [Nat.blt_eq] using hb1) (Nat.le_refl _)
  refine ⟨v', v', w', by simp [execOp, ho, resolve, invoke, builtin, e1, hr], ⟨hg.os, hg.tape, hg.output, hg.size, fun k hk => hg.block k hk (by simp [Value.ownBlock])⟩, fun b hb => ?_, fun ok' β' h1' h2' h3' h4' => ⟨?_, by rw [← h3']; exact .h d⟩⟩
  · rw [ownsRow_blk hown] at hb; exact (hown.lt b hb).1
  · refine ⟨cs, by rw [h3']; exact ownsRow_base (by simpa using hown) hw0, hz2, fun k hk j hj => ?_⟩
    obtain ⟨u, g1, g2, g3⟩ := hcs k hk j hj
    exact ⟨u, g1, g2.mono (fun b hb => hg.block b (hokl b hb) (by simp [Value.ownBlock])) h1', g3⟩

end Go.Proofs.Ytgblfhobiibeaaa.Abs

/- Abstract symbolic execution, part 11: contracts of functions, weakening of states. No condition. -/
set_option linter.unusedVariables false
set_option linter.unusedSimpArgs false
namespace Go.Proofs.Ytgblfhobiibeaaa.Abs
open Go.RowKit
variable {C : Ctx} {ops : Array Oper} {o : Oper} {S : AState}

/-! ### Contracts -/
def FnB (P : Program) (f : FuncId) : Prop := ∃ fn, P.funcs[f]? = some fn ∧ (fn.name == "runtime.NumGoroutine") = false ∧ fn.body.isNone = false
/-- Called with values that read as 'args' the function returns a value that reads as 'res', and changes nothing that was there. -/
def Has (P : Program) (f : FuncId) (args : List T) (res : T) : Prop := FnB P f ∧ ∀ (w : World) (ok : Nat → Prop) (vs : Array Value), (∀ b, ok b → b < w.heap.size) →
  vs.size = args.length → (∀ i (h1 : i < vs.size) (h2 : i < args.length), Reads w ok vs[i] args[i]) →
  Calls P f vs w fun e w' => ∃ v, e = .returned v ∧ Reads w' (fun b => ok b ∨ (w.heap.size ≤ b ∧ b < w'.heap.size)) v res ∧ Below w.heap.size w w'
/-- The same, where the result is a slice whose array is new and nobody else's. -/
def HasOwn (P : Program) (f : FuncId) (args : List T) (E sz : Nat) (l : List T) : Prop := FnB P f ∧ ∀ (w : World) (ok : Nat → Prop) (vs : Array Value), (∀ b, ok b → b < w.heap.size) →
  vs.size = args.length → (∀ i (h1 : i < vs.size) (h2 : i < args.length), Reads w ok vs[i] args[i]) →
  Calls P f vs w fun e w' => ∃ v cells, e = .returned v ∧ w'.ownsRow w.heap.size E sz v l.length cells ∧ (∀ k (h : k < l.length), l[k].cells.length = sz) ∧
    (∀ k (h : k < l.length) j (hj : j < l[k].cells.length), ∃ u, cells[k * sz + j]? = some u ∧ Reads w' (fun b => ok b ∨ (w.heap.size ≤ b ∧ b < w'.heap.size ∧ v.ownBlock ≠ some b)) u l[k].cells[j] ∧ u.oneCell' = true) ∧
    Below w.heap.size w w'
inductive ConvL : List T → List T → Prop
  | nil : ConvL [] []
  | cons {a b : T} {l r : List T} (h : Conv a b) (hl : ConvL l r) : ConvL (a :: l) (b :: r)
theorem ConvL.refl : ∀ l : List T, ConvL l l
  | [] => .nil
  | x :: r => .cons (.refl x) (ConvL.refl r)
theorem ConvL.len {l r : List T} (h : ConvL l r) : l.length = r.length := by induction h <;> simp [*]
theorem ConvL.get {l r : List T} (h : ConvL l r) : ∀ i (h1 : i < l.length) (h2 : i < r.length), Conv l[i] r[i] := by
  induction h with
  | nil => intro i h1; simp at h1
  | cons hc _ ih =>
    intro i h1 h2
    cases i with
    | zero => exact hc
    | succ i => simpa using ih i (by simpa using h1) (by simpa using h2)

theorem run_callFunc {P : Program} {w : World} {f : FuncId} {args : Array Value} (h : FnB P f) : (callFunc f args).run P w = .ok (.enter f args) w := by
  obtain ⟨fn, h1, h2, h3⟩ := h
  simp only [callFunc, Sem.run_bind, run_program, Result.andThen_ok, h1, h2, Bool.false_eq_true, if_false, h3, Sem.run_pure]
theorem args_reads {args : Array Operand} {ts ts' : List T} {β : Nat → Value} {w : World} {ok : Nat → Prop} {ρ : Operand → Value} (hts : trees (args.toList.map (evalS S)) = some ts) (hc : ConvL ts ts')
    (hρ : ∀ x ∈ args, VRel w ok β (ρ x) (evalS S x)) : (args.map ρ).size = ts'.length ∧ ∀ i (h1 : i < (args.map ρ).size) (h2 : i < ts'.length), Reads w ok (args.map ρ)[i] ts'[i] := by
  have hsp := trees_spec hts
  have hl : args.size = ts.length := by have := congrArg List.length hsp; simpa using this
  have hl2 := hc.len
  refine ⟨by simp; omega, fun i h1 h2 => ?_⟩
  have hi : i < args.size := by simpa using h1
  have h3 : i < ts.length := by omega
  have he : evalS S args[i] = .t ts[i] := by
    have : (args.toList.map (evalS S))[i]? = (ts.map AV.t)[i]? := by rw [hsp]
    simpa [hi, h3] using this
  have := hρ args[i] (by simp)
  rw [he] at this
  simpa using (hc.get i h3 h2).reads this.tD

theorem Step.call {res : T} {f : FuncId} (hd : dOk C.n o.dst = true)
    (h : ∀ (β : Nat → Value) (w : World) (ok : Nat → Prop) (ρ : Operand → Value), (∀ b, ok b → b < w.heap.size) → (∀ x ∈ o.op.operands, VRel w ok β (ρ x) (evalS S x)) → (∀ f, ρ (.func f) = .func (.func f) #[] #[]) →
      ∃ vs, (execOp ρ o).run C.P w = .ok (.enter f vs) w ∧ Calls C.P f vs w fun e w' => ∃ v, e = .returned v ∧ Reads w' (fun b => ok b ∨ (w.heap.size ≤ b ∧ b < w'.heap.size)) v res ∧ Below w.heap.size w w') :
    Step C ops o S ⟨.t res, [], []⟩ := by
  intro S₁ hs hm a w hsat
  obtain ⟨β, hb⟩ := hsat
  obtain ⟨vs, hr, hcall⟩ := h β w (okS C S₁ β w) a.eval (fun b hb' => hb'.2.1) (fun x hx => by rw [← agree_eval hs hx]; exact hb.eval x) (fun _ => rfl)
  unfold Oper.wp
  rw [hr, Oper.upon_enter]
  refine hcall.mono ?_
  rintro e w' ⟨v, rfl, hv, hbel⟩
  show Sat C _ _ w'
  rw [ap_pure]
  have hg := hb.grow hbel
  refine ⟨β, hg.put o.dst v (.t res) (fun _ _ _ => .t (hv.mono (fun _ _ => rfl) fun b hb' => ?_)) (fun x hx => .inl ?_) (by simp [AV.ids])⟩
  · rcases hb' with hb' | ⟨h1, h2⟩
    · exact ⟨hb'.1, Nat.lt_of_lt_of_le hb'.2.1 hbel.size, hb'.2.2⟩
    · exact hb.fresh_ok h1 h2
  · rw [hx] at hd; simpa [dOk] using hd
theorem step_call {f : FuncId} {args : Array Operand} {tys : Array TypeId} {ts ts' : List T} {res : T} (ho : o.op = .call { callee := .value (.func f), args := args, argTypes := tys })
    (hts : trees (args.toList.map (evalS S)) = some ts) (hh : Has C.P f ts' res) (hc : ConvL ts ts') (hd : dOk C.n o.dst = true) : Step C ops o S ⟨.t res, [], []⟩ := by
  refine Step.call (f := f) hd fun β w ok ρ hokl hρ hf => ?_
  obtain ⟨a1, a2⟩ := args_reads (ρ := ρ) (w := w) (ok := ok) (β := β) hts hc (fun x hx => hρ x (by simp [ho, Op.operands, Call.operands, hx]))
  refine ⟨args.map ρ, ?_, hh.2 w ok _ hokl a1 a2⟩
  simp only [execOp, ho, resolve, hf, Deferred.ofValue, Sem.run_bind, Sem.run_pure, Result.andThen_ok, invoke, Array.empty_append, Array.append_empty, run_callFunc hh.1]
/-- A call of a closure. -/
theorem step_callC {x : Operand} {g : FuncId} {x' : T} {args : Array Operand} {tys : Array TypeId} {caps ts ts' : List T} {res : T} (ho : o.op = .call { callee := .value x, args := args, argTypes := tys })
    (hx : evalS S x = .t x') (hxc : Conv x' (.clo g caps)) (hts : trees (args.toList.map (evalS S)) = some ts) (hh : Has C.P g (ts' ++ caps) res) (hc : ConvL ts ts') (hd : dOk C.n o.dst = true) : Step C ops o S ⟨.t res, [], []⟩ := by
  refine Step.call (f := g) hd fun β w ok ρ hokl hρ hf => ?_
  obtain ⟨a1, a2⟩ := args_reads (ρ := ρ) (w := w) (ok := ok) (β := β) hts hc (fun x hx => hρ x (by simp [ho, Op.operands, Call.operands, hx]))
  have hvx := hρ x (by simp [ho, Op.operands, Call.operands])
  rw [hx] at hvx
  have hr := hxc.reads hvx.tD
  obtain ⟨vs, hq, b1, b2⟩ : ∃ vs, ρ x = .func (.func g) #[] vs ∧ vs.size = caps.length ∧ ∀ i (h1 : i < vs.size) (h2 : i < caps.length), Reads w ok vs[i] caps[i] := by
    generalize ρ x = q at hr
    cases hr with | clo hl h => exact ⟨_, rfl, hl, h⟩
  refine ⟨args.map ρ ++ vs, ?_, hh.2 w ok _ hokl (by simp; have := a1; simp at this; omega) (fun i h1 h2 => ?_)⟩
  · simp only [execOp, ho, resolve, hq, Deferred.ofValue, Sem.run_bind, Sem.run_pure, Result.andThen_ok, invoke, Array.empty_append, run_callFunc hh.1]
  · rw [Array.getElem_append, List.getElem_append]
    split <;> split
    · exact a2 i _ _
    · rename_i h3 h4; exact absurd (by omega) h4
    · rename_i h3 h4; exact absurd (by omega) h3
    · have e1 : (args.map ρ ++ vs).size = (args.map ρ).size + vs.size := Array.size_append
      have e2 : (ts' ++ caps).length = ts'.length + caps.length := List.length_append
      have := b2 (i - (args.map ρ).size) (by omega) (by omega)
      simpa [a1] using this
/-- A call whose result is a row of the call's own. -/
theorem step_callH {f : FuncId} {args : Array Operand} {tys : Array TypeId} {ts ts' l : List T} {E sz d : Nat} (ho : o.op = .call { callee := .value (.func f), args := args, argTypes := tys }) (hdst : o.dst = some d)
    (hts : trees (args.toList.map (evalS S)) = some ts) (hh : HasOwn C.P f ts' E sz l) (hc : ConvL ts ts') (hu : S.used d = false) (hd : dOk C.n o.dst = true) : Step C ops o S ⟨.h d, [(d, some (.row E sz l))], []⟩ := by
  intro S₁ hs hm a w hsat
  obtain ⟨β, hb⟩ := hsat
  have hu1 : S₁.used d = false := by rw [(hm d (.inr (by simp [hasKey, Nat.beq_refl]))).2]; exact hu
  obtain ⟨a1, a2⟩ := args_reads (ρ := a.eval) (w := w) (ok := okS C S₁ β w) (β := β) hts hc (fun x hx => by rw [← agree_eval hs (by simp [ho, Op.operands, Call.operands, hx])]; exact hb.eval x)
  have hcall := hh.2 w (okS C S₁ β w) _ (fun b hb' => hb'.2.1) a1 a2
  have hr : (execOp a.eval o).run C.P w = .ok (.enter f (args.map a.eval)) w := by
    simp only [execOp, ho, resolve, Act.eval, Deferred.ofValue, Sem.run_bind, Sem.run_pure, Result.andThen_ok, invoke, Array.empty_append, Array.append_empty, run_callFunc hh.1]
  unfold Oper.wp
  rw [hr, Oper.upon_enter]
  refine hcall.mono ?_
  rintro e w' ⟨v, cells, rfl, hown, hz, hcells, hbel⟩
  show Sat C _ _ w'
  rw [ap_modS]
  have hblk := ownsRow_blk hown
  obtain ⟨β', e1, e2, e3, e4, hsb⟩ := hb.new d hu1 (.row E sz l) v hbel (fun b hb' => by rw [hblk] at hb'; exact (hown.lt b hb').1) (by simp [AObj.ids]) (fun ok' β' h1 h2 h3 h4 => by
    refine ⟨cells, by rw [h3]; exact ownsRow_base hown hb.below.size, hz, fun k hk j hj => ?_⟩
    obtain ⟨u, g1, g2, g3⟩ := hcells k hk j hj
    refine ⟨u, g1, g2.mono (fun _ _ => rfl) (fun b hb' => ?_), g3⟩
    rcases hb' with hb' | ⟨k1, k2, k3⟩
    · exact h1 b hb'
    · exact h2 b k1 k2 (by rw [hblk]; exact k3))
  refine ⟨β', hsb.put o.dst v (.h d) (fun _ _ _ => by rw [← e1]; exact .h d) (fun x hx => .inl ?_) (fun j hj => ?_)⟩
  · rw [hx] at hd; simpa [dOk] using hd
  · simp only [AV.ids, List.mem_singleton] at hj; subst hj; rw [modS_one.2]; simp

/-! ### A row read as a slice -/
theorem row_reads {β : Nat → Value} {w : World} {ok ok' : Nat → Prop} {i E sz : Nat} {l : List T} (hO : ORel C ok β w i (.row E sz l)) (hk : ∀ b, ok b → ok' b) (hb : ∀ b, blk (β i) = some b → ok' b) : Reads w ok' (β i) (.slice sz l) := by
  obtain ⟨cells, h1, h2, h3⟩ := hO
  have hcell : ∀ k (hk' : k < l.length) j (hj : j < l[k].cells.length), Reads w ok' (cells.getD (k * sz + j) undef) l[k].cells[j] := by
    intro k hk' j hj
    obtain ⟨u, e1, e2, _⟩ := h3 k hk' j hj
    rw [List.getD_eq_getElem?_getD, e1]
    exact e2.mono (fun _ _ => rfl) hk
  have hn := ownsRow_blk h1
  have hlen := h1.1
  rcases h1.2 with ⟨e, h0⟩ | ⟨g, cap, cur, e, hg1, hg2, hg3, hg4, hg5, hg6⟩
  · rw [e]
    have hl0 : l = [] := List.eq_nil_of_length_eq_zero h0
    subst hl0
    exact .slice (l := []) (fun _ => undef) (Nat.le_refl _) (Nat.zero_le _) (fun i h => by simp at h) (fun h => by simp at h) (fun i h => by simp at h)
  · rw [e]
    refine .slice (fun k => cells.getD k undef) hg3 hg4 h2 (fun hp => ⟨_, rfl, hb g (by rw [e]; rfl), fun k hk' => ?_⟩) hcell
    have h1' := h1
    rw [e] at h1'
    have hc := h1'.cellAt k hk'
    have hk2 : k < cells.length := by omega
    rw [add_plain', Nat.zero_add, hc, List.getElem?_eq_getElem hk2]
    have hz : 0 < sz := Nat.pos_of_mul_pos_left hp
    have hdiv : k / sz < l.length := Nat.div_lt_of_lt_mul (by rw [Nat.mul_comm]; exact hk')
    have hj : k % sz < l[k / sz].cells.length := by rw [h2]; exact Nat.mod_lt _ hz
    obtain ⟨u, e1, e2, e3⟩ := h3 (k / sz) hdiv (k % sz) hj
    have hkk : k / sz * sz + k % sz = k := Nat.div_add_mod' k sz
    rw [hkk, List.getElem?_eq_getElem hk2] at e1
    injection e1 with e1
    refine ⟨by simp [List.getD_eq_getElem?_getD, hk2], ?_⟩
    simp only [List.getD_eq_getElem?_getD, List.getElem?_eq_getElem hk2, Option.getD_some]
    rw [e1]; exact e3
theorem HasOwn.has {P : Program} {f : FuncId} {args l : List T} {E sz : Nat} (h : HasOwn P f args E sz l) : Has P f args (.slice sz l) := by
  refine ⟨h.1, fun w ok vs h1 h2 h3 => (h.2 w ok vs h1 h2 h3).mono ?_⟩
  rintro e w' ⟨v, cells, rfl, hown, hz, hcells, hbel⟩
  refine ⟨v, rfl, ?_, hbel⟩
  have hO : ORel ⟨P, w, ok, 0, fun _ => none, []⟩ (fun b => ok b ∨ (w.heap.size ≤ b ∧ b < w'.heap.size)) (fun _ => v) w' 0 (.row E sz l) :=
    ⟨cells, hown, hz, fun k hk j hj => by
      obtain ⟨u, g1, g2, g3⟩ := hcells k hk j hj
      exact ⟨u, g1, g2.mono (fun _ _ => rfl) (fun b hb => by rcases hb with hb | ⟨k1, k2, _⟩; exact .inl hb; exact .inr ⟨k1, k2⟩), g3⟩⟩
  exact row_reads hO (fun _ hb => hb) (fun b hb => by rw [ownsRow_blk hown] at hb; exact .inr (hown.lt b hb))

/-- A call that only looks at rows of the call's own, and hands back a leaf. -/
def borrow (S : AState) : AV → Option T
  | .t x => some x
  | .h i => match S.mem i with
    | some (.row _ sz l) => some (.slice sz l)
    | _ => none
  | _ => none
def borrows (S : AState) : List AV → Option (List T)
  | [] => some []
  | x :: r => match borrow S x with
    | some t => match borrows S r with
      | some ts => some (t :: ts)
      | none => none
    | none => none
def lookL : List AV → List Nat
  | [] => []
  | x :: r => avLook x ++ lookL r
theorem borrows_spec {S : AState} : ∀ {l : List AV} {ts : List T}, borrows S l = some ts → l.length = ts.length ∧ ∀ k (h1 : k < l.length) (h2 : k < ts.length), borrow S l[k] = some ts[k]
  | [], ts, h => by injection h with h; subst h; exact ⟨rfl, fun k h => by simp at h⟩
  | x :: r, ts, h => by
    simp only [borrows] at h
    split at h
    · rename_i t ht
      split at h
      · rename_i ts' hts
        injection h with h; subst h
        obtain ⟨h1, h2⟩ := borrows_spec hts
        refine ⟨by simp [h1], fun k k1 k2 => ?_⟩
        cases k with
        | zero => exact ht
        | succ k => simpa using h2 k (by simpa using k1) (by simpa using k2)
      · cases h
    · cases h
theorem mem_lookL : ∀ {l : List AV} {x : AV} {i : Nat}, x ∈ l → i ∈ avLook x → i ∈ lookL l
  | y :: r, x, i, h, hi => by
    simp only [lookL, List.mem_append]
    rcases List.mem_cons.1 h with rfl | h
    · exact .inl hi
    · exact .inr (mem_lookL h hi)
theorem step_callB {f : FuncId} {args : Array Operand} {tys : Array TypeId} {ts ts' : List T} {res : Value} (ho : o.op = .call { callee := .value (.func f), args := args, argTypes := tys })
    (hts : borrows S (args.toList.map (evalS S)) = some ts) (hh : Has C.P f ts' (.v res)) (hc : ConvL ts ts') (hd : dOk C.n o.dst = true) : Step C ops o S ⟨.t (.v res), [], lookL (args.toList.map (evalS S))⟩ := by
  intro S₁ hs hm a w hsat
  obtain ⟨β, hb⟩ := hsat
  obtain ⟨hl, hbr⟩ := borrows_spec hts
  have hl2 := hc.len
  have hcall := hh.2 w (fun b => b < w.heap.size) (args.map a.eval) (fun b hb' => hb') (by simp at hl ⊢; omega) (fun i h1 h2 => by
    have hi : i < args.size := by simpa using h1
    have h3 : i < ts.length := by omega
    have hbi := hbr i (by simpa using hi) h3
    simp only [List.getElem_map, Array.getElem_toList] at hbi
    have hv := hb.eval args[i]
    have hag : evalS S₁ args[i] = evalS S args[i] := agree_eval hs (by simp [ho, Op.operands, Call.operands])
    rw [hag] at hv
    refine (hc.get i h3 h2).reads ?_
    simp only [Array.getElem_map]
    generalize hq : evalS S args[i] = q at hbi hv
    cases q with
    | t x => injection hbi with hbi; rw [← hbi]; exact hv.tD.mono (fun _ _ => rfl) fun b hb' => hb'.2.1
    | h j =>
      simp only [borrow] at hbi
      split at hbi
      · rename_i E sz l hmj
        injection hbi with hbi
        have hmj1 : S₁.mem j = some (.row E sz l) := (hm j (.inl (mem_lookL (x := .h j) (List.mem_map.2 ⟨args[i], by simp, hq⟩) (by simp [avLook])))).1.trans hmj
        have hO := hb.mem j _ hmj1
        rw [← hbi, hv.hD]
        exact row_reads hO (fun b hb' => hb'.2.1) (fun b hb' => (hO.lt hb').2)
      · cases hbi
    | _ => cases hbi)
  have hr : (execOp a.eval o).run C.P w = .ok (.enter f (args.map a.eval)) w := by
    simp only [execOp, ho, resolve, Act.eval, Deferred.ofValue, Sem.run_bind, Sem.run_pure, Result.andThen_ok, invoke, Array.empty_append, Array.append_empty, run_callFunc hh.1]
  unfold Oper.wp
  rw [hr, Oper.upon_enter]
  refine hcall.mono ?_
  rintro e w' ⟨v, rfl, hv, hbel⟩
  show Sat C _ _ w'
  rw [ap_pure]
  have hg := hb.grow hbel
  cases hv
  refine ⟨β, hg.put o.dst res (.t (.v res)) (fun _ _ _ => .t (.v res)) (fun x hx => .inl ?_) (by simp [AV.ids])⟩
  rw [hx] at hd; simpa [dOk] using hd

end Go.Proofs.Ytgblfhobiibeaaa.Abs

/- Abstract symbolic execution, part 12: weakening of states, from a body to a contract. No condition. -/
set_option linter.unusedVariables false
set_option linter.unusedSimpArgs false
namespace Go.Proofs.Ytgblfhobiibeaaa.Abs
open Go.RowKit
variable {C : Ctx} {ops : Array Oper} {o : Oper} {S : AState}

/-! ### States out of lists -/
def lookA (x : Nat) : List (Nat × AV) → AV
  | [] => .junk
  | (y, v) :: r => bif Nat.beq x y then v else lookA x r
def lookO (i : Nat) : List (Nat × AObj) → Option AObj
  | [] => none
  | (j, o) :: r => bif Nat.beq i j then some o else lookO i r
def usedBy (sl : List (Nat × AV)) (ml : List (Nat × AObj)) (i : Nat) : Bool :=
  (sl.any fun p => p.2.ids.any (Nat.beq i)) || (ml.any fun p => Nat.beq i p.1 || p.2.ids.any (Nat.beq i))
def mkS (sl : List (Nat × AV)) (ml : List (Nat × AObj)) : AState := { slot := fun x => lookA x sl, mem := fun i => lookO i ml, used := usedBy sl ml }

theorem any_beq' {l : List Nat} {i : Nat} : l.any (Nat.beq i) = true ↔ i ∈ l := any_beq
theorem lookA_mem {x : Nat} {sl : List (Nat × AV)} : lookA x sl = .junk ∨ (x, lookA x sl) ∈ sl := by
  induction sl with
  | nil => exact .inl rfl
  | cons p r ih =>
    obtain ⟨y, v⟩ := p
    simp only [lookA]
    cases hb : Nat.beq x y with
    | true => have := Nat.eq_of_beq_eq_true hb; subst this; simp
    | false => simp only [cond_false]; rcases ih with h | h; exact .inl h; exact .inr (List.mem_cons_of_mem _ h)
theorem lookO_mem {i : Nat} {ml : List (Nat × AObj)} {o : AObj} (h : lookO i ml = some o) : (i, o) ∈ ml := by
  induction ml with
  | nil => cases h
  | cons p r ih =>
    obtain ⟨j, o'⟩ := p
    simp only [lookO] at h
    cases hb : Nat.beq i j with
    | true => rw [hb] at h; have := Nat.eq_of_beq_eq_true hb; subst this; injection h with h; subst h; simp
    | false => rw [hb] at h; exact List.mem_cons_of_mem _ (ih h)

/-! ### Weakening -/
def ren (ρ : List (Nat × Nat)) (i : Nat) : Nat :=
  match ρ with
  | [] => i
  | (j, k) :: r => bif Nat.beq i j then k else ren r i
/-- No object that stays is object i. -/
def gone (ρ : List (Nat × Nat)) (ml : List (Nat × AObj)) (i : Nat) : Bool := ml.all fun p => !(Nat.beq (ren ρ p.1) i)
inductive WkV (S : AState) (ρ : List (Nat × Nat)) (ml : List (Nat × AObj)) : AV → AV → Prop
  | junk (x : AV) : WkV S ρ ml x .junk
  | t {x y : T} (hc : Conv x y) : WkV S ρ ml (.t x) (.t y)
  | h {i j : Nat} (hr : ren ρ j = i) : WkV S ρ ml (.h i) (.h j)
  | p {i j q : Nat} (hr : ren ρ j = i) : WkV S ρ ml (.p i q) (.p j q)
  | e {i j q : Nat} (hr : ren ρ j = i) : WkV S ρ ml (.e i q) (.e j q)
  | s {i j z q n c : Nat} (hr : ren ρ j = i) : WkV S ρ ml (.s i z q n c) (.s j z q n c)
  | fr {i E sz : Nat} {l : List T} (hm : S.mem i = some (.row E sz l)) (hg : gone ρ ml i = true) : WkV S ρ ml (.h i) (.t (.slice sz l))
  | fp {i q n E : Nat} {cells l : List AV} {ts : List T} (hm : S.mem i = some (.box E cells)) (hs : sub cells q n = some l) (ht : trees l = some ts) (hg : gone ρ ml i = true) : WkV S ρ ml (.p i q) (.t (.ptr ts))
  | agg {l l' : List AV} (hl : l.length = l'.length) (h : ∀ k (h1 : k < l.length) (h2 : k < l'.length), WkV S ρ ml l[k] l'[k]) : WkV S ρ ml (.agg l) (.agg l')
  | aggT {l : List AV} {ts : List T} (hl : l.length = ts.length) (h : ∀ k (h1 : k < l.length) (h2 : k < ts.length), WkV S ρ ml l[k] (.t ts[k])) : WkV S ρ ml (.agg l) (.t (.agg ts))
  | tup {l l' : List AV} (hl : l.length = l'.length) (h : ∀ k (h1 : k < l.length) (h2 : k < l'.length), WkV S ρ ml l[k] l'[k]) : WkV S ρ ml (.tup l) (.tup l')
inductive WkL (S : AState) (ρ : List (Nat × Nat)) (ml : List (Nat × AObj)) : List AV → List AV → Prop
  | nil : WkL S ρ ml [] []
  | cons {x y : AV} {l r : List AV} (h : WkV S ρ ml x y) (hl : WkL S ρ ml l r) : WkL S ρ ml (x :: l) (y :: r)
theorem WkL.len {ρ : List (Nat × Nat)} {ml : List (Nat × AObj)} {l r : List AV} (h : WkL S ρ ml l r) : l.length = r.length := by induction h <;> simp [*]
theorem WkL.get {ρ : List (Nat × Nat)} {ml : List (Nat × AObj)} {l r : List AV} (h : WkL S ρ ml l r) : ∀ k (h1 : k < l.length) (h2 : k < r.length), WkV S ρ ml l[k] r[k] := by
  induction h with
  | nil => intro k h1; simp at h1
  | cons hc _ ih =>
    intro k h1 h2
    cases k with
    | zero => exact hc
    | succ k => simpa using ih k (by simpa using h1) (by simpa using h2)
theorem WkV.aggL {ρ : List (Nat × Nat)} {ml : List (Nat × AObj)} {l l' : List AV} (h : WkL S ρ ml l l') : WkV S ρ ml (.agg l) (.agg l') := .agg h.len h.get
theorem WkV.tupL {ρ : List (Nat × Nat)} {ml : List (Nat × AObj)} {l l' : List AV} (h : WkL S ρ ml l l') : WkV S ρ ml (.tup l) (.tup l') := .tup h.len h.get
theorem WkV.aggTL {ρ : List (Nat × Nat)} {ml : List (Nat × AObj)} {l : List AV} {l' : List AV} {ts : List T} (h : WkL S ρ ml l l') (ht : trees l' = some ts) : WkV S ρ ml (.agg l) (.t (.agg ts)) := by
  have := trees_spec ht; subst this
  exact .aggT (by simpa using h.len) fun k h1 h2 => by have := h.get k h1 (by simpa using h2); rwa [List.getElem_map] at this
inductive WkO (S : AState) (ρ : List (Nat × Nat)) (ml : List (Nat × AObj)) : AObj → AObj → Prop
  | row {E sz : Nat} {l l' : List T} (h : l = l') : WkO S ρ ml (.row E sz l) (.row E sz l')
  | buf {E sz cap : Nat} {l l' : List T} (h : l = l') : WkO S ρ ml (.buf E sz cap l) (.buf E sz cap l')
  | mp {es es' : Array MapEntry} {c c' : Nat} (h : es = es') (hc : c = c') : WkO S ρ ml (.mp es c) (.mp es' c')
  | box {E : Nat} {l l' : List AV} (h : WkL S ρ ml l l') : WkO S ρ ml (.box E l) (.box E l')
inductive WkS (S : AState) (ρ : List (Nat × Nat)) (ml : List (Nat × AObj)) : List (Nat × AV) → Prop
  | nil : WkS S ρ ml []
  | cons {x : Nat} {v : AV} {r : List (Nat × AV)} (h : WkV S ρ ml (S.slot x) v) (hr : WkS S ρ ml r) : WkS S ρ ml ((x, v) :: r)
inductive WkM (S : AState) (ρ : List (Nat × Nat)) (ml : List (Nat × AObj)) : List (Nat × AObj) → Prop
  | nil : WkM S ρ ml []
  | cons {j : Nat} {o o' : AObj} {r : List (Nat × AObj)} (hm : S.mem (ren ρ j) = some o) (h : WkO S ρ ml o o') (hr : WkM S ρ ml r) : WkM S ρ ml ((j, o') :: r)
theorem WkS.get {ρ : List (Nat × Nat)} {ml : List (Nat × AObj)} {sl : List (Nat × AV)} (h : WkS S ρ ml sl) : ∀ x v, (x, v) ∈ sl → WkV S ρ ml (S.slot x) v := by
  induction h with
  | nil => intro x v h; cases h
  | cons hv _ ih =>
    intro x v hm
    rcases List.mem_cons.1 hm with h | h
    · injection h with h1 h2; subst h1; subst h2; exact hv
    · exact ih x v h
theorem WkM.get {ρ : List (Nat × Nat)} {ml : List (Nat × AObj)} {m : List (Nat × AObj)} (h : WkM S ρ ml m) : ∀ j o', (j, o') ∈ m → ∃ o, S.mem (ren ρ j) = some o ∧ WkO S ρ ml o o' := by
  induction h with
  | nil => intro x v h; cases h
  | cons hm hv _ ih =>
    intro j o' h
    rcases List.mem_cons.1 h with h | h
    · injection h with h1 h2; subst h1; subst h2; exact ⟨_, hm, hv⟩
    · exact ih j o' h
def nodupB : List Nat → Bool
  | [] => true
  | x :: r => !(r.any (Nat.beq x)) && nodupB r
theorem nodupB_spec {l : List Nat} (h : nodupB l = true) : l.Nodup := by
  induction l with
  | nil => exact List.nodup_nil
  | cons x r ih =>
    simp only [nodupB, Bool.and_eq_true, Bool.not_eq_true'] at h
    refine List.nodup_cons.2 ⟨fun hm => ?_, ih h.2⟩
    rw [any_beq.2 hm] at h; cases h.1

def isBox : Option AObj → Bool
  | some (.box ..) => true
  | _ => false
/-- The anchored variables stay, under their numbers. -/
def ancB (C : Ctx) (ρ : List (Nat × Nat)) (ml : List (Nat × AObj)) : Bool := C.anc.all fun p => isBox (lookO p.1 ml) && Nat.beq (ren ρ p.1) p.1
theorem SatB.wk {β : Nat → Value} {a : Act} {w : World} (h : SatB C β S a w) (ρ : List (Nat × Nat)) (sl : List (Nat × AV)) (ml : List (Nat × AObj)) (hs : WkS S ρ ml sl) (hm : WkM S ρ ml ml)
    (hn : nodupB (ml.map fun p => ren ρ p.1) = true) (han : ancB C ρ ml = true) : SatB C (fun i => β (ren ρ i)) (mkS sl ml) a w := by
  have hinj : ∀ i j o o', lookO i ml = some o → lookO j ml = some o' → i ≠ j → ren ρ i ≠ ren ρ j := by
    intro i j o o' hi hj hne he
    have hnd := nodupB_spec hn
    obtain ⟨p, hp, hpe⟩ := List.getElem_of_mem (lookO_mem hi)
    obtain ⟨q, hq, hqe⟩ := List.getElem_of_mem (lookO_mem hj)
    have e1 : (ml.map fun p => ren ρ p.1)[p]'(by simpa using hp) = ren ρ i := by simp [hpe]
    have e2 : (ml.map fun p => ren ρ p.1)[q]'(by simpa using hq) = ren ρ j := by simp [hqe]
    have : p = q := (List.getElem_inj hnd).1 (e1.trans (he.trans e2.symm))
    subst this
    rw [hpe] at hqe; injection hqe with h1 _; exact hne h1
  have howned : ∀ b, owned (mkS sl ml) (fun i => β (ren ρ i)) b → owned S β b := by
    rintro b ⟨i, o, hi, hb⟩
    obtain ⟨o1, h1, _⟩ := hm.get i o (lookO_mem hi)
    exact ⟨_, o1, h1, hb⟩
  have hok : ∀ b, okS C S β w b → okS C (mkS sl ml) (fun i => β (ren ρ i)) w b := fun b hb => ⟨hb.1, hb.2.1, fun ho => hb.2.2 (howned b ho)⟩
  have hgone : ∀ i, gone ρ ml i = true → ∀ o, S.mem i = some o → ∀ b, blk (β i) = some b → okS C (mkS sl ml) (fun i => β (ren ρ i)) w b := by
    intro i hg o hmi b hb
    have hlt := (h.mem i o hmi).lt hb
    refine ⟨⟨.inr hlt.1, fun x hx => (h.keep b _ hx).2 ⟨i, o, hmi, hb⟩⟩, hlt.2, ?_⟩
    rintro ⟨j, o', hj, hbj⟩
    have hjm := lookO_mem hj
    obtain ⟨o1, h1, _⟩ := hm.get j o' hjm
    have hne : ren ρ j ≠ i := by
      intro he
      have := (List.all_eq_true.1 hg) _ hjm
      simp only [he, Nat.beq_refl] at this
      cases this
    exact h.apart _ i o1 o h1 hmi hne b hbj hb
  have hv : ∀ {v : Value} {x y : AV}, VRel w (okS C S β w) β v x → WkV S ρ ml x y → VRel w (okS C (mkS sl ml) (fun i => β (ren ρ i)) w) (fun i => β (ren ρ i)) v y := by
    intro v x y hvx hw
    induction hw generalizing v with
    | junk => exact .junk v
    | t hc => exact .t ((hc.reads hvx.tD).mono (fun _ _ => rfl) hok)
    | h hr => rw [hvx.hD, ← hr]; exact .h (β := fun i => β (ren ρ i)) _
    | p hr => obtain ⟨b, h1, h2⟩ := hvx.pD; rw [h2]; exact .p (by rw [hr]; exact h1)
    | e hr => obtain ⟨b, n, c, h1, h2⟩ := hvx.eD; rw [h2]; exact .e (by rw [hr]; exact h1)
    | s hr => cases hvx with | s h1 h2 h3 h4 => exact .s (by rw [hr]; exact h1) h2 h3 h4
    | fr hmi hg => rw [hvx.hD]; exact .t (row_reads (h.mem _ _ hmi) hok (hgone _ hg _ hmi))
    | @fp i q n E cells l ts hmi hs ht hg =>
      obtain ⟨b, h1, h2⟩ := hvx.pD
      obtain ⟨b', arr, g1, g2, g3, g4, g5⟩ := h.mem _ _ hmi
      rw [h1] at g1; injection g1 with g1; injection g1 with g1; injection g1 with g1; subst g1
      have := trees_spec ht; subst this
      obtain ⟨k1, k2⟩ := sub_spec hs
      simp only [List.length_map] at k1
      have hin : ∀ k (hk : k < ts.length), ∃ hlt : q + k < cells.length, cells[q + k] = .t ts[k] := fun k hk => by
        have e := k2 k (by omega)
        rw [List.getElem?_map, List.getElem?_eq_getElem hk] at e
        obtain ⟨hlt, e⟩ := List.getElem?_eq_some_iff.1 e
        exact ⟨hlt, e⟩
      rw [h2]
      refine .t (.ptr (fun k => arr.getD (q + k) undef) (hgone _ hg _ hmi b (by rw [h1]; rfl)) (fun k hk => ?_) (fun k hk => ?_))
      · obtain ⟨hlt, e⟩ := hin k hk
        rw [add_plain', cell_of_block g3]
        have hlt' : q + k < arr.size := by omega
        exact ⟨by simp [Array.getD, hlt'], by simpa [Array.getD, hlt'] using (g5 (q + k) hlt' hlt).2⟩
      · obtain ⟨hlt, e⟩ := hin k hk
        have hlt' : q + k < arr.size := by omega
        have := (g5 (q + k) hlt' hlt).1
        rw [e] at this
        simpa [Array.getD, hlt'] using this.tD.mono (fun _ _ => rfl) hok
    | agg hl _ ih =>
      obtain ⟨vs, rfl, h1, h2, h3⟩ := hvx.aggD
      exact .agg (by omega) h3 fun k k1 k2 => ih k (by omega) k2 (h2 k k1 (by omega))
    | aggT hl _ ih =>
      obtain ⟨vs, rfl, h1, h2, h3⟩ := hvx.aggD
      exact .t (.agg (by omega) h3 fun k k1 k2 => (ih k (by omega) k2 (h2 k k1 (by omega))).tD)
    | tup hl _ ih => cases hvx with | tup h1 h2 => exact .tup (by omega) fun k k1 k2 => ih k (by omega) k2 (h2 k k1 (by omega))
  refine ⟨h.size, h.defers, h.below, h.ok0, fun x => ?_, fun j o' hj => ?_, fun i j o o' hi hj hne b hbi hbj => ?_, fun x i hi => ?_, fun j o' hj => ?_, fun b x hx => ⟨(h.keep b x hx).1, fun ho => (h.keep b x hx).2 (howned b ho)⟩, fun p hp => ?_⟩
  · show VRel w _ _ _ (lookA x sl)
    rcases lookA_mem (x := x) (sl := sl) with h1 | h1
    · rw [h1]; exact .junk _
    · exact hv (h.slot x) (hs.get x _ h1)
  · obtain ⟨o1, h1, h2⟩ := hm.get j o' (lookO_mem hj)
    have hO := h.mem _ _ h1
    cases h2 with
    | row h =>
      subst h
      obtain ⟨cells, g1, g2, g3⟩ := hO
      exact ⟨cells, g1, g2, fun k hk jj hjj => by obtain ⟨u, e1, e2, e3⟩ := g3 k hk jj hjj; exact ⟨u, e1, e2.mono (fun _ _ => rfl) hok, e3⟩⟩
    | buf h =>
      subst h
      obtain ⟨g, cur, g1, g2, g3, g4, g5, g6, g7, g8⟩ := hO
      exact ⟨g, cur, g1, g2, g3, g4, g5, g6, g7, fun k hk jj hjj => by obtain ⟨u, e1, e2, e3⟩ := g8 k hk jj hjj; exact ⟨u, e1, e2.mono (fun _ _ => rfl) hok, e3⟩⟩
    | mp h hc => subst h; subst hc; exact hO
    | box hl =>
      obtain ⟨b, arr, g1, g2, g3, g4, g5⟩ := hO
      have hlen := hl.len
      exact ⟨b, arr, g1, g2, g3, by omega, fun k k1 k2 => ⟨hv (g5 k k1 (by omega)).1 (hl.get k (by omega) k2), (g5 k k1 (by omega)).2⟩⟩
  · obtain ⟨o1, h1, _⟩ := hm.get i o (lookO_mem hi)
    obtain ⟨o2, h2, _⟩ := hm.get j o' (lookO_mem hj)
    exact h.apart _ _ o1 o2 h1 h2 (hinj i j o o' hi hj hne) b hbi hbj
  · have hi' : i ∈ (lookA x sl).ids := hi
    rcases lookA_mem (x := x) (sl := sl) with h1 | h1
    · rw [h1] at hi'; simp [AV.ids] at hi'
    · show usedBy sl ml i = true
      unfold usedBy
      rw [Bool.or_eq_true]; left
      rw [List.any_eq_true]
      exact ⟨_, h1, any_beq.2 hi'⟩
  · have hjm := lookO_mem hj
    refine ⟨?_, fun i hi => ?_⟩
    · show usedBy sl ml j = true
      unfold usedBy
      rw [Bool.or_eq_true]; right
      rw [List.any_eq_true]
      exact ⟨_, hjm, by simp [Nat.beq_refl]⟩
    · show usedBy sl ml i = true
      unfold usedBy
      rw [Bool.or_eq_true]; right
      rw [List.any_eq_true]
      exact ⟨_, hjm, by rw [Bool.or_eq_true]; exact .inr (any_beq.2 hi)⟩
  · have := (List.all_eq_true.1 han) _ hp
    simp only [Bool.and_eq_true] at this
    refine ⟨?_, ?_⟩
    · show β (ren ρ p.1) = p.2
      rw [Nat.eq_of_beq_eq_true this.2]; exact (h.anc p hp).1
    · have h1 := this.1
      show ∃ E cells, lookO p.1 ml = some (.box E cells)
      generalize lookO p.1 ml = q at h1
      cases q with
      | none => cases h1
      | some q => cases q with
        | box E cells => exact ⟨E, cells, rfl⟩
        | row E sz l => cases h1
        | buf E sz cap l => cases h1
        | mp es c => cases h1
theorem Sat.wk (ρ : List (Nat × Nat)) {sl : List (Nat × AV)} {ml : List (Nat × AObj)} (hs : WkS S ρ ml sl) (hm : WkM S ρ ml ml) (hn : nodupB (ml.map fun p => ren ρ p.1) = true) (han : ancB C ρ ml = true) (a : Act) (w : World) (h : Sat C S a w) : Sat C (mkS sl ml) a w := by
  obtain ⟨β, h⟩ := h
  exact ⟨_, h.wk ρ sl ml hs hm hn han⟩
theorem AT.wk {c : Code} {Q : Exit → AState → Prop} (ρ : List (Nat × Nat)) {sl : List (Nat × AV)} {ml : List (Nat × AObj)} (hs : WkS S ρ ml sl) (hm : WkM S ρ ml ml) (hn : nodupB (ml.map fun p => ren ρ p.1) = true) (han : ancB C ρ ml = true)
    (h : AT C c Q (mkS sl ml)) : AT C c Q S := AT.weaken (Sat.wk ρ hs hm hn han) h

/-- A nil slice in a slot is taken as a row of the call's own. -/
theorem Sat.nilRow {a : Act} {w : World} (h : Sat C S a w) (x i E sz : Nat) (hx : S.slot x = .t (.v (.slice none 0 0))) (hu : S.used i = false) :
    Sat C { modS [(i, some (.row E sz []))] S with slot := putS (some x) (.h i) S.slot } a w := by
  obtain ⟨β, h⟩ := h
  obtain ⟨β', e1, e2, e3, e4, hsb⟩ := h.new i hu (.row E sz []) (.slice none 0 0) (Below.refl _ w) (fun b hb => by simp [blk] at hb) (by simp [AObj.ids])
    (fun ok' β' h1 h2 h3 h4 => ⟨[], by rw [h3]; exact World.ownsRow_nil w _ E sz, fun k hk => by simp at hk, fun k hk => by simp at hk⟩)
  refine ⟨β', { hsb with slot := fun y => ?_, wfs := fun y j hj => ?_, mem := hsb.mem, apart := hsb.apart, wfm := hsb.wfm, keep := hsb.keep, anc := hsb.anc }⟩
  · show VRel w _ β' _ (putS (some x) (.h i) S.slot y)
    rcases putS_cases (some x) (.h i) S.slot y with ⟨h1, h2⟩ | ⟨h1, h2⟩
    · rw [h2]; injection h1 with h1; subst h1
      have := h.slot x
      rw [hx] at this
      rw [this.toV, ← e1]; exact .h i
    · rw [h2]; exact hsb.slot y
  · have hj' : j ∈ (putS (some x) (.h i) S.slot y).ids := hj
    rcases putS_cases (some x) (.h i) S.slot y with ⟨h1, h2⟩ | ⟨h1, h2⟩
    · rw [h2] at hj'; simp only [AV.ids, List.mem_singleton] at hj'; subst hj'
      show (modS [(j, some (.row E sz []))] S).used j = true
      rw [modS_one.2]; simp
    · rw [h2] at hj'; exact hsb.wfs y j hj'
theorem AT.nilRow {c : Code} {Q : Exit → AState → Prop} (x i E sz : Nat) (hx : S.slot x = .t (.v (.slice none 0 0))) (hu : S.used i = false)
    (h : AT C c Q { modS [(i, some (.row E sz []))] S with slot := putS (some x) (.h i) S.slot }) : AT C c Q S := AT.weaken (fun a w hs => hs.nilRow x i E sz hx hu) h

/-! ### From a body to a contract -/
inductive ResR (C : Ctx) (S : AState) : ResultVar → T → Prop
  | tmp {t : Tmp} {x y : T} (h : S.slot t = .t x) (hc : Conv x y) : ResR C S (.tmp t) y
  | row {t : Tmp} {i E sz : Nat} {l : List T} (h : S.slot t = .h i) (hm : S.mem i = some (.row E sz l)) : ResR C S (.tmp t) (.slice sz l)
  | cellN {t : Tmp} {ty i E n : Nat} {cells l : List AV} {ts : List T} {y : T} (h : S.slot t = .p i 0) (hm : S.mem i = some (.box E cells)) (ht : tyB C.P ty = some (true, n)) (hs : sub cells 0 n = some l) (hts : trees l = some ts) (hc : Conv (.agg ts) y) :
      ResR C S (.cell t ty) y
  | cell1 {t : Tmp} {ty i E : Nat} {cells : List AV} {x y : T} (h : S.slot t = .p i 0) (hm : S.mem i = some (.box E cells)) (ht : tyB C.P ty = some (false, 1)) (hs : cells[0]? = some (.t x)) (hc : Conv x y) : ResR C S (.cell t ty) y
inductive ResL (C : Ctx) (S : AState) : List ResultVar → List T → Prop
  | nil : ResL C S [] []
  | cons {r : ResultVar} {x : T} {rs : List ResultVar} {xs : List T} (h : ResR C S r x) (hl : ResL C S rs xs) : ResL C S (r :: rs) (x :: xs)
def Ret (C : Ctx) (fn : Func) (res : T) (S : AState) : Prop := ∃ xs, ResL C S fn.results.toList xs ∧ ((xs = [res]) ∨ (xs.length ≠ 1 ∧ res = .tup xs))
def RetQ (C : Ctx) (fn : Func) (res : T) : Exit → AState → Prop
  | .normal, S => Ret C fn res S
  | .ret, S => Ret C fn res S
  | _, _ => False
theorem Ret.one {fn : Func} {r : ResultVar} {res : T} (hf : fn.results.toList = [r]) (h : ResR C S r res) : Ret C fn res S := ⟨[res], by rw [hf]; exact .cons h .nil, .inl rfl⟩
theorem Ret.many {fn : Func} {xs : List T} (h : ResL C S fn.results.toList xs) (hn : (xs.length == 1) = false) : Ret C fn (.tup xs) S := ⟨xs, h, .inr ⟨by simpa using hn, rfl⟩⟩

def S0 (args : List T) : AState := { slot := fun x => match args[x]? with | some t => .t t | none => .junk, mem := fun _ => none, used := fun _ => false }
theorem sat0 {P : Program} {w : World} {ok : Nat → Prop} {args : List T} {vs : Array Value} {n m : Nat} (hok : ∀ b, ok b → b < w.heap.size) (hl : vs.size = args.length) (hv : ∀ i (h1 : i < vs.size) (h2 : i < args.length), Reads w ok vs[i] args[i])
    (hn : args.length + m = n) : Sat ⟨P, w, ok, n, fun _ => none, []⟩ (S0 args) { tmps := vs ++ Array.replicate m undef, defers := [] } w := by
  refine ⟨fun _ => undef, ?_, rfl, Below.refl _ _, hok, fun x => ?_, fun i o h => (by cases h), fun i j o o' h => (by cases h), fun x i hi => ?_, fun j o h => (by cases h), fun b x h => (by cases h), fun p h => (by cases h)⟩
  · simp; omega
  · simp only [S0]
    split
    · rename_i t ht
      obtain ⟨hx, rfl⟩ := List.getElem?_eq_some_iff.1 ht
      have hx' : x < vs.size := by omega
      have e : (vs ++ Array.replicate m undef).getD x undef = vs[x] := by
        have : x < (vs ++ Array.replicate m undef).size := by simp; omega
        simp only [Array.getD, this, dif_pos]
        exact Array.getElem_append_left hx'
      rw [e]
      exact .t ((hv x hx' hx).mono (fun _ _ => rfl) fun b hb => ⟨⟨.inl hb, fun x h => (by cases h)⟩, hok b hb, fun ho => by obtain ⟨_, _, h, _⟩ := ho; cases h⟩)
    · exact .junk _
  · simp only [S0] at hi
    split at hi <;> simp [AV.ids] at hi

def okR (w : World) (ok : Nat → Prop) (w' : World) (b : Nat) : Prop := ok b ∨ (w.heap.size ≤ b ∧ b < w'.heap.size)
def rvSem (tmps : Array Value) : ResultVar → Sem Value
  | .tmp t => pure (tmps.getD t undef)
  | .cell b t => do loadVar t (← asAddr (tmps.getD b undef))
theorem results_eq (fn : Func) (tmps : Array Value) : results fn tmps = (do let vs ← fn.results.mapM (rvSem tmps); pure (if h : vs.size = 1 then vs[0] else .tuple vs)) := by
  unfold results
  congr 1
theorem ResR.run {β : Nat → Value} {a : Act} {w' : World} (h : SatB C β S a w') {r : ResultVar} {x : T} (hr : ResR C S r x) :
    ∃ v, (rvSem a.tmps r).run C.P w' = .ok v w' ∧ Reads w' (okR C.w0 C.ok0 w') v x := by
  have hoks : ∀ b, okS C S β w' b → okR C.w0 C.ok0 w' b := fun b hb => by rcases hb.1.1 with h1 | h1; exact .inl h1; exact .inr ⟨h1, hb.2.1⟩
  cases hr with
  | @tmp t x y h1 hc =>
    have := h.slot t
    rw [h1] at this
    exact ⟨_, by simp [rvSem], (hc.reads this.tD).mono (fun _ _ => rfl) hoks⟩
  | @row t i E sz l h1 hm =>
    have := h.slot t
    rw [h1] at this
    refine ⟨a.tmps.getD t undef, by simp [rvSem], ?_⟩
    rw [this.hD]
    exact row_reads (h.mem _ _ hm) hoks fun b hb => .inr ((h.mem _ _ hm).lt hb)
  | @cellN t ty i E n cells l ts y h1 hm ht hs hts hc =>
    have hv := h.slot t
    rw [h1] at hv
    obtain ⟨b, vs, hq, hr, h2, h3⟩ := loadP_core (h.mem _ _ hm) hs hv ht
    refine ⟨.agg vs, by simp only [rvSem, hq, asAddr, Sem.run_bind, Sem.run_pure, Result.andThen_ok]; exact hr, (hc.reads ?_).mono (fun _ _ => rfl) hoks⟩
    exact ARel.aggT (β := β) ⟨h2, h3⟩ hts
  | @cell1 t ty i E cells x y h1 hm ht hs hc =>
    have hv := h.slot t
    rw [h1] at hv
    obtain ⟨b, h2, hq⟩ := hv.pD
    obtain ⟨b', arr, g1, g2, g3, g4, g5⟩ := h.mem _ _ hm
    rw [h2] at g1; injection g1 with g1; injection g1 with g1; injection g1 with g1; subst g1
    obtain ⟨hlt, he⟩ := List.getElem?_eq_some_iff.1 hs
    have hc' : w'.cell? ⟨b, 0, none⟩ = some (arr[0]'(by omega)) := by rw [cell_of_block g3]; exact Array.getElem?_eq_getElem _
    refine ⟨_, by simp only [rvSem, hq, asAddr, Sem.run_bind, Sem.run_pure, Result.andThen_ok]; exact run_loadVar1 ht hc', ?_⟩
    have := (g5 0 (by omega) hlt).1
    rw [he] at this
    exact (hc.reads this.tD).mono (fun _ _ => rfl) hoks
theorem ResL.run {β : Nat → Value} {a : Act} {w' : World} (h : SatB C β S a w') : ∀ {rs : List ResultVar} {xs : List T}, ResL C S rs xs →
    ∃ vs : List Value, (rs.mapM (rvSem a.tmps)).run C.P w' = .ok vs w' ∧ vs.length = xs.length ∧
      ∀ i (h1 : i < vs.length) (h2 : i < xs.length), Reads w' (okR C.w0 C.ok0 w') vs[i] xs[i]
  | [], _, .nil => ⟨[], by simp, rfl, fun i h => by simp at h⟩
  | r :: rs, _, .cons hr hl => by
    obtain ⟨v, e1, e2⟩ := hr.run h
    obtain ⟨vs, e3, e4, e5⟩ := ResL.run h hl
    refine ⟨v :: vs, ?_, by simp [e4], fun i h1 h2 => ?_⟩
    · rw [List.mapM_cons]
      simp only [Sem.run_bind] at e1 e3 ⊢
      simp only [e1, Result.andThen_ok, e3, Sem.run_pure]
    · cases i with
      | zero => exact e2
      | succ i => simpa using e5 i (by simpa using h1) (by simpa using h2)

theorem Has.intro {P : Program} {f : FuncId} {fn : Func} {code : Code} {args : List T} {res : T} (n : Nat) (hf : P.funcs[f]? = some fn) (hnm : (fn.name == "runtime.NumGoroutine") = false) (hb : fn.body = some code)
    (hn : args.length + (fn.ntmps - args.length) = n) (h : ∀ (w : World) (ok : Nat → Prop), AT ⟨P, w, ok, n, fun _ => none, []⟩ code (RetQ ⟨P, w, ok, n, fun _ => none, []⟩ fn res) (S0 args)) : Has P f args res := by
  refine ⟨⟨fn, hf, hnm, by rw [hb]; rfl⟩, fun w ok vs hok hl hv => ?_⟩
  refine calls_of_wp hf hb ?_
  have hs := sat0 (P := P) (m := fn.ntmps - args.length) hok hl hv hn
  rw [hl]
  refine wp_mono (h w ok _ _ hs) ?_
  rintro e a w' ⟨S', hq, ⟨β, hs'⟩⟩
  have key : Ret ⟨P, w, ok, n, fun _ => none, []⟩ fn res S' → a.defers = [] ∧ ∃ v, (results fn a.tmps).run P w' = .ok v w' ∧ (∃ v', Ending.returned v = .returned v' ∧ Reads w' (fun b => ok b ∨ (w.heap.size ≤ b ∧ b < w'.heap.size)) v' res ∧ Below w.heap.size w w') := by
    rintro ⟨xs, hr, hx⟩
    obtain ⟨vs', e1, e2, e3⟩ := hr.run hs'
    obtain ⟨rl, hrl⟩ : ∃ rl : List ResultVar, fn.results = rl.toArray := ⟨fn.results.toList, by simp⟩
    rw [hrl] at e1
    simp only [List.toList_toArray] at e1
    have hrun : (results fn a.tmps).run P w' = .ok (if h : vs'.toArray.size = 1 then vs'.toArray[0] else .tuple vs'.toArray) w' := by
      rw [results_eq, hrl, List.mapM_toArray]
      simp only [map_eq_pure_bind, Sem.run_bind] at e1 ⊢
      simp only [e1, Result.andThen_ok, Sem.run_pure]
    refine ⟨hs'.defers, _, hrun, _, rfl, ?_, hs'.below⟩
    rcases hx with rfl | ⟨hne, rfl⟩
    · have hl1 : vs'.length = 1 := by simpa using e2
      have hsz : vs'.toArray.size = 1 := by simpa using hl1
      rw [dif_pos hsz]
      have := e3 0 (by omega) (by simp)
      rw [List.getElem_toArray]
      exact this
    · have hsz : ¬ vs'.toArray.size = 1 := by simp; omega
      rw [dif_neg hsz]
      exact .tup (by simpa using e2) fun i h1 h2 => by rw [List.getElem_toArray]; exact e3 i (by simpa using h1) h2
  cases e with
  | normal => exact key hq
  | ret => exact key hq
  | _ => exact hq.elim

/-- Results that are a row of the call's own. -/
def RetH (fn : Func) (E sz : Nat) (l : List T) (S : AState) : Prop := ∃ t i, fn.results = #[.tmp t] ∧ S.slot t = .h i ∧ S.mem i = some (.row E sz l)
def RetHQ (fn : Func) (E sz : Nat) (l : List T) : Exit → AState → Prop
  | .normal, S => RetH fn E sz l S
  | .ret, S => RetH fn E sz l S
  | _, _ => False
theorem HasOwn.intro {P : Program} {f : FuncId} {fn : Func} {code : Code} {args l : List T} {E sz : Nat} (n : Nat) (hf : P.funcs[f]? = some fn) (hnm : (fn.name == "runtime.NumGoroutine") = false) (hb : fn.body = some code)
    (hn : args.length + (fn.ntmps - args.length) = n) (h : ∀ (w : World) (ok : Nat → Prop), AT ⟨P, w, ok, n, fun _ => none, []⟩ code (RetHQ fn E sz l) (S0 args)) : HasOwn P f args E sz l := by
  refine ⟨⟨fn, hf, hnm, by rw [hb]; rfl⟩, fun w ok vs hok hl hv => ?_⟩
  refine calls_of_wp hf hb ?_
  have hs := sat0 (P := P) (m := fn.ntmps - args.length) hok hl hv hn
  rw [hl]
  refine wp_mono (h w ok _ _ hs) ?_
  rintro e a w' ⟨S', hq, ⟨β, hs'⟩⟩
  have key : RetH fn E sz l S' → a.defers = [] ∧ ∃ v, (results fn a.tmps).run P w' = .ok v w' ∧ (∃ v' cells, Ending.returned v = .returned v' ∧ w'.ownsRow w.heap.size E sz v' l.length cells ∧ (∀ k (h : k < l.length), l[k].cells.length = sz) ∧
      (∀ k (h : k < l.length) j (hj : j < l[k].cells.length), ∃ u, cells[k * sz + j]? = some u ∧ Reads w' (fun b => ok b ∨ (w.heap.size ≤ b ∧ b < w'.heap.size ∧ v'.ownBlock ≠ some b)) u l[k].cells[j] ∧ u.oneCell' = true) ∧ Below w.heap.size w w') := by
    rintro ⟨t, i, hr, h1, hm⟩
    have hv := hs'.slot t
    rw [h1] at hv
    obtain ⟨cells, k1, k2, k3⟩ := hs'.mem i _ hm
    refine ⟨hs'.defers, _, results_tmp hr a.tmps P w', _, cells, rfl, ?_, k2, fun k hk j hj => ?_, hs'.below⟩
    · rw [hv.hD]; exact k1
    · obtain ⟨u, e1, e2, e3⟩ := k3 k hk j hj
      refine ⟨u, e1, e2.mono (fun _ _ => rfl) (fun b hb => ?_), e3⟩
      rcases hb.1.1 with h2 | h2
      · exact .inl h2
      · refine .inr ⟨h2, hb.2.1, fun e => hb.2.2 ⟨i, _, hm, ?_⟩⟩
        rw [hv.hD] at e
        rw [ownsRow_blk k1]; exact e
  cases e with
  | normal => exact key hq
  | ret => exact key hq
  | _ => exact hq.elim

/-! ### Steps of a region -/
theorem TrC.take {draw : Bool} {i : Nat} {os : List Oper} {done : List Item} {K : AState → Prop} {e : Eff} (hg : Guard ops o S true) (hs : Step C ops o S e)
    (h : TrC C ops draw (i + 1) os (ap o.dst e S) ((i, o, some e) :: done) K) : TrC C ops draw i (o :: os) S done K := ⟨some e, ⟨hg, hs⟩, h⟩
theorem TrC.skip {draw : Bool} {i : Nat} {os : List Oper} {done : List Item} {K : AState → Prop} (hg : Guard ops o S false)
    (h : TrC C ops draw (i + 1) os { S with slot := putS o.dst (.t (.v undef)) S.slot } ((i, o, none) :: done) K) : TrC C ops draw i (o :: os) S done K := ⟨none, hg, h⟩
theorem TrC.done {i : Nat} {done : List Item} {K : AState → Prop} (h : K S) : TrC C ops false i [] S done K := ⟨fun h => (by cases h), h⟩
theorem TrC.doneD {i : Nat} {done : List Item} {K : AState → Prop} (hp : pairsOk ops done.reverse = true) (h : K S) : TrC C ops true i [] S done K := ⟨fun _ => hp, h⟩

end Go.Proofs.Ytgblfhobiibeaaa.Abs

/- Abstract symbolic execution, part 13: shorter forms of steps, splitting on a Bool, sums without wrap, zero values with nil as the empty slice. No condition. -/
set_option linter.unusedVariables false
set_option linter.unusedSimpArgs false
namespace Go.Proofs.Ytgblfhobiibeaaa.Abs
open Go.RowKit
variable {C : Ctx} {ops : Array Oper} {o : Oper} {S : AState}

theorem putS_self {d : Nat} {v : AV} {s : Nat → AV} (h : s d = v) : putS (some d) v s = s := by
  funext x
  rcases putS_cases (some d) v s x with ⟨e, h1⟩ | ⟨e, h1⟩
  · injection e with e; subst e; rw [h1, h]
  · exact h1
/-- The two cases of a Bool in a slot; the slot holds a literal in each. -/
theorem TrC.cases {draw : Bool} {i : Nat} {l : List Oper} {done : List Item} {K : AState → Prop} {d : Nat} {b : Bool} (hs : S.slot d = .t (.v (.bool b)))
    (h1 : b = true → TrC C ops draw i l { S with slot := putS (some d) (.t (.v (.bool true))) S.slot } done K)
    (h0 : b = false → TrC C ops draw i l { S with slot := putS (some d) (.t (.v (.bool false))) S.slot } done K) : TrC C ops draw i l S done K := by
  cases b with
  | true => have := h1 rfl; rwa [putS_self hs] at this
  | false => have := h0 rfl; rwa [putS_self hs] at this
/-- A slot's value is spelled anew. -/
theorem TrC.spell {draw : Bool} {i : Nat} {l : List Oper} {done : List Item} {K : AState → Prop} (d : Nat) {x y : T} (hs : S.slot d = .t x) (he : x = y)
    (h : TrC C ops draw i l { S with slot := putS (some d) (.t y) S.slot } done K) : TrC C ops draw i l S done K := by
  subst he; rwa [putS_self hs] at h
theorem AT.spell {c : Code} {Q : Exit → AState → Prop} (d : Nat) {x y : T} (hs : S.slot d = .t x) (he : x = y) (h : AT C c Q { S with slot := putS (some d) (.t y) S.slot }) : AT C c Q S := by
  subst he; rwa [putS_self hs] at h
theorem AT.condT {c : Operand} {x y : Code} {Q : Exit → AState → Prop} (hc : evalS S c = .t (.v (.bool true))) (h : AT C x Q S) : AT C (.cond c x y) Q S :=
  AT.cond hc (fun _ => h) (fun h => by cases h)
theorem AT.condF {c : Operand} {x y : Code} {Q : Exit → AState → Prop} (hc : evalS S c = .t (.v (.bool false))) (h : AT C y Q S) : AT C (.cond c x y) Q S :=
  AT.cond hc (fun h => by cases h) (fun _ => h)

theorem step_call0 {f : FuncId} {args : Array Operand} {tys : Array TypeId} {ts : List T} {res : T} (ho : o.op = .call { callee := .value (.func f), args := args, argTypes := tys })
    (hts : trees (args.toList.map (evalS S)) = some ts) (hh : Has C.P f ts res) (hd : dOk C.n o.dst = true) : Step C ops o S ⟨.t res, [], []⟩ := step_call ho hts hh (ConvL.refl ts) hd
theorem step_callH0 {f : FuncId} {args : Array Operand} {tys : Array TypeId} {ts l : List T} {E sz d : Nat} (ho : o.op = .call { callee := .value (.func f), args := args, argTypes := tys }) (hdst : o.dst = some d)
    (hts : trees (args.toList.map (evalS S)) = some ts) (hh : HasOwn C.P f ts E sz l) (hu : S.used d = false) (hd : dOk C.n o.dst = true) : Step C ops o S ⟨.h d, [(d, some (.row E sz l))], []⟩ := step_callH ho hdst hts hh (ConvL.refl ts) hu hd

theorem wrap_in {n : Int} (h0 : -9223372036854775808 ≤ n) (h1 : n ≤ 9223372036854775807) : IntKind.i64.wrap n = n := by
  unfold IntKind.wrap
  simp only [IntKind.bits, IntKind.signed]
  simp
  omega
theorem step_addI {t t' : TypeId} {x y : Operand} {m n : Int} (ho : o.op = .binOp .add t x y t') (hx : evalS S x = .t (.v (.int .i64 m))) (hy : evalS S y = .t (.v (.int .i64 n)))
    (h0 : -9223372036854775808 ≤ m + n) (h1 : m + n ≤ 9223372036854775807) (hd : dOk C.n o.dst = true) : Step C ops o S ⟨.t (.v (.int .i64 (m + n))), [], []⟩ :=
  step_bin ho hx hy (by simp [binV, wrap_in h0 h1]) hd
theorem step_subI {t t' : TypeId} {x y : Operand} {m n : Int} (ho : o.op = .binOp .sub t x y t') (hx : evalS S x = .t (.v (.int .i64 m))) (hy : evalS S y = .t (.v (.int .i64 n)))
    (h0 : -9223372036854775808 ≤ m - n) (h1 : m - n ≤ 9223372036854775807) (hd : dOk C.n o.dst = true) : Step C ops o S ⟨.t (.v (.int .i64 (m - n))), [], []⟩ :=
  step_bin ho hx hy (by simp [binV, wrap_in h0 h1]) hd
theorem step_mulI {t t' : TypeId} {x y : Operand} {m n : Int} (ho : o.op = .binOp .mul t x y t') (hx : evalS S x = .t (.v (.int .i64 m))) (hy : evalS S y = .t (.v (.int .i64 n)))
    (h0 : -9223372036854775808 ≤ m * n) (h1 : m * n ≤ 9223372036854775807) (hd : dOk C.n o.dst = true) : Step C ops o S ⟨.t (.v (.int .i64 (m * n))), [], []⟩ :=
  step_bin ho hx hy (by simp [binV, wrap_in h0 h1]) hd
/-- '%' of numbers that are not negative. -/
theorem step_remI {t t' : TypeId} {x y : Operand} {k : IntKind} {m n : Int} (ho : o.op = .binOp .rem t x y t') (hx : evalS S x = .t (.v (.int k m))) (hy : evalS S y = .t (.v (.int k n)))
    (h0 : 0 ≤ m) (h1 : 0 < n) (hd : dOk C.n o.dst = true) : Step C ops o S ⟨.t (.v (.int k (m % n))), [], []⟩ :=
  step_bin ho hx hy (by simp [binV, show ¬ n = 0 from by omega, Int.tmod_eq_emod_of_nonneg h0]) hd
/-- A small number converted to int. -/
theorem step_convI {s d : TypeId} {x : Operand} {k : IntKind} {m : Int} (ho : o.op = .convert s d x) (hx : evalS S x = .t (.v (.int k m)))
    (hs : intB C.P s = some k) (ht : intB C.P d = some .i64) (h0 : -9223372036854775808 ≤ m) (h1 : m ≤ 9223372036854775807) (hd : dOk C.n o.dst = true) : Step C ops o S ⟨.t (.v (.int .i64 m)), [], []⟩ := by
  have := step_conv (ops := ops) ho hx hs ht hd
  rwa [wrap_in h0 h1] at this

/-! ### Zero values, nil taken as the empty slice -/
theorem ARel.zeroC {w : World} {ok : Nat → Prop} {β : Nat → Value} {z : Array Value} {zt : List T} (h1 : z.toList.all Value.oneCell' = true) (hc : ConvL (z.toList.map T.v) zt) : ARel w ok β z (zt.map AV.t) := by
  have hl := hc.len
  refine ⟨by simp at hl ⊢; omega, fun k k1 k2 => ⟨?_, ?_⟩⟩
  · have := hc.get k (by simpa using k1) (by simpa using k2)
    simp only [List.getElem_map, Array.getElem_toList] at this ⊢
    exact .t (this.reads (.v _))
  · rw [List.all_eq_true] at h1; exact h1 _ (by simp)
theorem step_allocC {E d : Nat} {zs : List Value} {zt : List T} (ho : o.op = .alloc E) (hdst : o.dst = some d) (hz : zeroB C.P E = some zs) (hc : ConvL (zs.map T.v) zt) (h1 : zs.all Value.oneCell' = true) (hu : S.used d = false) (hd : dOk C.n o.dst = true) :
    Step C ops o S ⟨.p d 0, [(d, some (.box E (zt.map AV.t)))], []⟩ := by
  obtain ⟨i, z, hi, hzz, rfl⟩ := zeroB_spec hz
  have hidn : ∀ j, j ∈ AV.idsL (zt.map AV.t) → False := by
    intro j hj
    obtain ⟨x, hx, hjx⟩ := AV.of_mem_idsL hj
    obtain ⟨y, _, rfl⟩ := List.mem_map.1 hx
    simp [AV.ids] at hjx
  refine Step.new hd hu (fun j hj => (hidn j hj).elim) (by simp [AV.ids]) fun β w ok ρ hsz hokl hρ _ => ?_
  refine ⟨.pointer (some ⟨w.heap.size, 0, none⟩), .pointer (some ⟨w.heap.size, 0, none⟩), w.alloc (.cells z.cells E), ?_, below_alloc' _ _, ?_, ?_⟩
  · simp [execOp, ho, Instr.alloc, zeroValue, typeInfo, hi, hzz, newVar, newRow, newObj, Sem.run]
  · intro b hb; simp [blk] at hb; omega
  · intro ok' β' h1' h2' h3' h4'
    have hA : ARel (w.alloc (.cells z.cells E)) ok' β' z.cells (zt.map AV.t) := ARel.zeroC h1 hc
    exact ⟨⟨w.heap.size, z.cells, h3', hsz, heap_alloc_at _ _, hA.1, hA.2⟩, .p h3'⟩
theorem build_coreC {t : TypeId} {parts : Array (Nat × Operand)} {pl : Nat → Option (Nat × Nat)} {zs : List Value} {zt : List T} {cells : List AV} (ho : o.op = .build t parts) (hz : zeroB C.P t = some zs) (hc : ConvL (zs.map T.v) zt) (h1 : zs.all Value.oneCell' = true)
    {ps : List (Nat × Nat)} (hps : plB C.P t = some ps) (hpl : pl = fun i => ps[i]?)
    (hone : onesP (evalP S parts.toList) = true) (hf : fillA pl (zt.map AV.t) (evalP S parts.toList) = some cells)
    {β : Nat → Value} {w : World} {ok : Nat → Prop} {ρ : Operand → Value} (hρ : ∀ x ∈ o.op.operands, VRel w ok β (ρ x) (evalS S x)) :
    ∃ arr, (execOp ρ o).run C.P w = .ok (.value (.agg arr)) w ∧ ARel w ok β arr cells := by
  obtain ⟨i, z, hi, hzz, rfl⟩ := zeroB_spec hz
  have hm : ∀ k (h : k < parts.size), parts[k].2 ∈ o.op.operands := by
    intro k h
    simp only [ho, Op.operands, List.mem_toArray, List.mem_map]
    exact ⟨parts[k], by simp, rfl⟩
  obtain ⟨arr, hfill, hA⟩ := fill_sound (w := w) (ok := ok) (β := β) (vs := (parts.map fun (i, x) => (i, ρ x)).toList) (ARel.zeroC h1 hc) (by rw [evalP_len]; simp)
    (fun k k1 k2 => by
      have k3 : k < parts.size := by simpa using k2
      rw [evalP_get parts.toList k k1 (by simpa using k3)]
      refine ⟨by simp, by simpa using hρ _ (hm k k3), ?_⟩
      have := onesP_get hone (β := β) k k1
      rw [evalP_get parts.toList k k1 (by simpa using k3)] at this
      exact this) hf
  refine ⟨arr, ?_, hA⟩
  subst hpl
  unfold plB at hps
  split at hps
  · rename_i fs hu
    have hr := run_places (P := C.P) (w := w) hps
    obtain ⟨fl⟩ := fs
    have hr' : ((⟨fl⟩ : Array Field).mapM fun f => (do pure (f.offset, ← sizeOf f.type) : Sem (Nat × Nat))).run C.P w = .ok ps.toArray w := by
      have : (⟨fl⟩ : Array Field) = fl.toArray := rfl
      rw [this, List.mapM_toArray]
      simp only [map_eq_pure_bind, Sem.run_bind] at hr ⊢
      simp only [hr, Result.andThen_ok, Sem.run_pure]
    have hfill' : Instr.fill (fun x => ps.toArray[x]?) z.cells (parts.map fun (i, x) => (i, ρ x)).toList = some arr := by simpa using hfill
    simp only [execOp, ho, Instr.build, Sem.run_bind, zeroValue, run_info hi, hzz, Result.andThen_ok, Sem.run_pure, run_underlying hu, hr', hfill']
  · cases hps
theorem step_buildC {t : TypeId} {parts : Array (Nat × Operand)} {ps : List (Nat × Nat)} {zs : List Value} {zt : List T} {cells : List AV} {ts : List T} (ho : o.op = .build t parts) (hz : zeroB C.P t = some zs) (hc : ConvL (zs.map T.v) zt) (h1 : zs.all Value.oneCell' = true)
    (hpl : plB C.P t = some ps) (hone : onesP (evalP S parts.toList) = true) (hf : fillA (fun i => ps[i]?) (zt.map AV.t) (evalP S parts.toList) = some cells) (ht : trees cells = some ts) (hd : dOk C.n o.dst = true) :
    Step C ops o S ⟨.t (.agg ts), [], []⟩ := by
  refine Step.pure hd (by simp [AV.ids]) fun β w ok ρ hρ _ _ => ?_
  obtain ⟨arr, hr, hA⟩ := build_coreC ho hz hc h1 hpl rfl hone hf hρ
  exact ⟨_, hr, .t (hA.aggT ht)⟩
/-- nil, taken as the empty slice. -/
theorem step_assignN {sz : Nat} (ho : o.op = .assign (.const (.slice none 0 0))) (hd : dOk C.n o.dst = true) : Step C ops o S ⟨.t (.slice sz []), [], []⟩ := by
  refine Step.pure hd (by simp [AV.ids]) fun β w ok ρ hρ hc _ => ⟨.slice none 0 0, by simp [execOp, ho, hc], .t ((Conv.nil sz).reads (.v _))⟩
/-- nil, taken as a row of the call's own. -/
theorem step_assignR {E sz d : Nat} (ho : o.op = .assign (.const (.slice none 0 0))) (hdst : o.dst = some d) (hu : S.used d = false) (hd : dOk C.n o.dst = true) : Step C ops o S ⟨.h d, [(d, some (.row E sz []))], []⟩ := by
  refine Step.new hd hu (by simp [AObj.ids]) (by simp [AV.ids]) fun β w ok ρ hw0 hokl hρ hc => ?_
  refine ⟨.slice none 0 0, .slice none 0 0, w, by simp [execOp, ho, hc], Below.refl _ _, fun b hb => by simp [blk] at hb, fun ok' β' h1' h2' h3' h4' => ⟨⟨[], by rw [h3']; exact World.ownsRow_nil w _ E sz, fun k hk => by simp at hk, fun k hk => by simp at hk⟩, by rw [← h3']; exact .h d⟩⟩

/-! ### Closing a result -/
theorem conv_eq {x y : T} (h : x = y) : Conv x y := h ▸ .refl x
theorem conv_b {a b : Bool} (h : a = b) : Conv (.v (.bool a)) (.v (.bool b)) := h ▸ .refl _
theorem conv_i {k : IntKind} {a b : Int} (h : a = b) : Conv (.v (.int k a)) (.v (.int k b)) := h ▸ .refl _
theorem Has.eq {P : Program} {f : FuncId} {args : List T} {r r' : T} (h : Has P f args r) (e : r = r') : Has P f args r' := e ▸ h
theorem Has.args {P : Program} {f : FuncId} {args args' : List T} {r : T} (h : Has P f args r) (e : args = args') : Has P f args' r := e ▸ h

end Go.Proofs.Ytgblfhobiibeaaa.Abs

/- Abstract symbolic execution, part 14: contracts of functions that change what they are handed (rows, variables in memory). No condition. -/
set_option linter.unusedVariables false
set_option linter.unusedSimpArgs false
namespace Go.Proofs.Ytgblfhobiibeaaa.Abs
open Go.RowKit
variable {C : Ctx} {ops : Array Oper} {o : Oper} {S : AState}

def enumA : Nat → List AV → List (Nat × AV)
  | _, [] => []
  | k, x :: r => (k, x) :: enumA (k + 1) r
theorem lookA_enum : ∀ (l : List AV) (k x : Nat), lookA x (enumA k l) = (if k ≤ x then (l[x - k]?).getD .junk else .junk)
  | [], k, x => by simp [enumA, lookA]
  | y :: r, k, x => by
    simp only [enumA, lookA, lookA_enum r]
    cases hb : Nat.beq x k with
    | true => have := Nat.eq_of_beq_eq_true hb; subst this; simp
    | false =>
      have hne : x ≠ k := fun e => by subst e; rw [Nat.beq_refl] at hb; cases hb
      simp only [cond_false]
      by_cases h : k ≤ x
      · have h' : k + 1 ≤ x := by omega
        rw [if_pos h, if_pos h', show x - k = (x - (k + 1)) + 1 from by omega, List.getElem?_cons_succ]
      · rw [if_neg h, if_neg (by omega)]

/-- Handed values that are related to 'args', and the objects 'ml', the function returns what is related to 'res', and leaves the objects 'ml''. The variables 'anc' stay where they are. -/
def HasG (P : Program) (f : FuncId) (anc : List Nat) (args : List AV) (ml : List (Nat × AObj)) (res : AV) (ml' : List (Nat × AObj)) : Prop :=
  FnB P f ∧ ∀ (w0 : World) (ok0 : Nat → Prop) (keep : Nat → Option (Obj × Bool)) (av : Nat → Value) (vs : Array Value) (w : World), vs.size = args.length →
    Sat ⟨P, w0, ok0, args.length, keep, anc.map fun i => (i, av i)⟩ (mkS (enumA 0 args) ml) ⟨vs, []⟩ w →
    Calls P f vs w fun e w' => ∃ v, e = .returned v ∧ Sat ⟨P, w0, ok0, 1, keep, anc.map fun i => (i, av i)⟩ (mkS [(0, res)] ml') ⟨#[v], []⟩ w'

/-! ### From a body to a contract -/
theorem WkV.mem {S S' : AState} {ρ : List (Nat × Nat)} {ml : List (Nat × AObj)} {x y : AV} (hm : S'.mem = S.mem) (h : WkV S ρ ml x y) : WkV S' ρ ml x y := by
  induction h with
  | junk x => exact .junk x
  | t hc => exact .t hc
  | h hr => exact .h hr
  | p hr => exact .p hr
  | e hr => exact .e hr
  | s hr => exact .s hr
  | fr h1 h2 => exact .fr (by rw [hm]; exact h1) h2
  | fp h1 h2 h3 h4 => exact .fp (by rw [hm]; exact h1) h2 h3 h4
  | agg hl _ ih => exact .agg hl ih
  | aggT hl _ ih => exact .aggT hl ih
  | tup hl _ ih => exact .tup hl ih
theorem WkO.mem {S S' : AState} {ρ : List (Nat × Nat)} {ml : List (Nat × AObj)} {x y : AObj} (hm : S'.mem = S.mem) (h : WkO S ρ ml x y) : WkO S' ρ ml x y := by
  cases h with
  | row h => exact .row h
  | buf h => exact .buf h
  | mp h hc => exact .mp h hc
  | box h =>
    refine .box ?_
    induction h with
    | nil => exact .nil
    | cons h _ ih => exact .cons (h.mem hm) ih
theorem WkM.mem {S S' : AState} {ρ : List (Nat × Nat)} {ml m : List (Nat × AObj)} (hm : S'.mem = S.mem) (h : WkM S ρ ml m) : WkM S' ρ ml m := by
  induction h with
  | nil => exact .nil
  | cons h1 h2 _ ih => exact .cons (by rw [hm]; exact h1) (h2.mem hm) ih
inductive ResG (C : Ctx) (S : AState) : ResultVar → AV → Prop
  | tmp {t : Tmp} {x : AV} (h : S.slot t = x) : ResG C S (.tmp t) x
  | cellN {t : Tmp} {ty i E n : Nat} {cells l : List AV} (h : S.slot t = .p i 0) (hm : S.mem i = some (.box E cells)) (ht : tyB C.P ty = some (true, n)) (hs : sub cells 0 n = some l) : ResG C S (.cell t ty) (.agg l)
  | cell1 {t : Tmp} {ty i E : Nat} {cells : List AV} {x : AV} (h : S.slot t = .p i 0) (hm : S.mem i = some (.box E cells)) (ht : tyB C.P ty = some (false, 1)) (hs : cells[0]? = some x) : ResG C S (.cell t ty) x
inductive ResGL (C : Ctx) (S : AState) : List ResultVar → List AV → Prop
  | nil : ResGL C S [] []
  | cons {r : ResultVar} {x : AV} {rs : List ResultVar} {xs : List AV} (h : ResG C S r x) (hl : ResGL C S rs xs) : ResGL C S (r :: rs) (x :: xs)
def RetG (C : Ctx) (fn : Func) (res : AV) (ml' : List (Nat × AObj)) (S : AState) : Prop := ∃ xs X ρ, ResGL C S fn.results.toList xs ∧ ((xs = [X]) ∨ ((xs.length == 1) = false ∧ X = .tup xs)) ∧
  WkV S ρ ml' X res ∧ WkM S ρ ml' ml' ∧ nodupB (ml'.map fun p => ren ρ p.1) = true ∧ ancB C ρ ml' = true
def RetGQ (C : Ctx) (fn : Func) (res : AV) (ml' : List (Nat × AObj)) : Exit → AState → Prop
  | .normal, S => RetG C fn res ml' S
  | .ret, S => RetG C fn res ml' S
  | _, _ => False
theorem RetG.one {fn : Func} {r : ResultVar} {x res : AV} {ml' : List (Nat × AObj)} (ρ : List (Nat × Nat)) (hf : fn.results.toList = [r]) (h : ResG C S r x) (hw : WkV S ρ ml' x res) (hm : WkM S ρ ml' ml') (hn : nodupB (ml'.map fun p => ren ρ p.1) = true) (ha : ancB C ρ ml' = true) :
    RetG C fn res ml' S := ⟨[x], x, ρ, by rw [hf]; exact .cons h .nil, .inl rfl, hw, hm, hn, ha⟩
theorem RetG.many {fn : Func} {xs : List AV} {res : AV} {ml' : List (Nat × AObj)} (ρ : List (Nat × Nat)) (h : ResGL C S fn.results.toList xs) (hl : (xs.length == 1) = false) (hw : WkV S ρ ml' (.tup xs) res) (hm : WkM S ρ ml' ml') (hn : nodupB (ml'.map fun p => ren ρ p.1) = true) (ha : ancB C ρ ml' = true) :
    RetG C fn res ml' S := ⟨xs, _, ρ, h, .inr ⟨hl, rfl⟩, hw, hm, hn, ha⟩

theorem ResG.run {β : Nat → Value} {a : Act} {w' : World} (h : SatB C β S a w') {r : ResultVar} {x : AV} (hr : ResG C S r x) :
    ∃ v, (rvSem a.tmps r).run C.P w' = .ok v w' ∧ VRel w' (okS C S β w') β v x ∧ ∀ i ∈ x.ids, S.used i = true := by
  cases hr with
  | @tmp t x h1 =>
    have := h.slot t
    rw [h1] at this
    exact ⟨_, by simp [rvSem], this, fun i hi => h.wfs t i (by rw [h1]; exact hi)⟩
  | @cellN t ty i E n cells l h1 hm ht hs =>
    have hv := h.slot t
    rw [h1] at hv
    obtain ⟨b, g0, g1⟩ := hv.pD
    obtain ⟨b', arr, k1, k2, k3, k4, k5⟩ := h.mem i _ hm
    rw [g0] at k1; injection k1 with k1; injection k1 with k1; injection k1 with k1; subst k1
    obtain ⟨s1, s2⟩ := sub_spec hs
    have hin : ∀ j (hj : j < l.length), ∃ hlt : 0 + j < cells.length, cells[0 + j] = l[j] := fun j hj => by
      have e := s2 j (by omega)
      rw [List.getElem?_eq_getElem hj] at e
      exact List.getElem?_eq_some_iff.1 e
    have hcell : ∀ j, j < n → w'.cell? ((⟨b, 0, none⟩ : Addr).add j) = some (arr.getD j undef) := fun j hj => by
      obtain ⟨hlt, e⟩ := hin j (by omega)
      have hlt' : j < arr.size := by omega
      rw [add_plain', Nat.zero_add, cell_of_block k3]
      simp [Array.getD, hlt']
    refine ⟨.agg ((List.range n).map fun j => arr.getD j undef).toArray, ?_, .agg (by simp [s1]) (fun j hj => ?_) (fun j j1 j2 => ?_), fun j hj => ?_⟩
    · simp [rvSem, g1, asAddr, run_loadVarN _ ht hcell]
    · have hj' : j < n := by simpa using hj
      obtain ⟨hlt, e⟩ := hin j (by omega)
      have hlt' : j < arr.size := by omega
      simpa [Array.getD, hlt'] using (k5 j hlt' (by omega)).2
    · obtain ⟨hlt, e⟩ := hin j j2
      have hlt' : j < arr.size := by omega
      have := (k5 j hlt' (by omega)).1
      simp only [Nat.zero_add] at e
      rw [e] at this
      simpa [Array.getD, hlt'] using this
    · simp only [AV.ids] at hj
      obtain ⟨y, hy, hjy⟩ := AV.of_mem_idsL hj
      obtain ⟨q, hq, rfl⟩ := List.getElem_of_mem hy
      obtain ⟨hlt, e⟩ := hin q hq
      exact (h.wfm i _ hm).2 j (AV.mem_idsL (by rw [← e]; exact List.getElem_mem hlt) hjy)
  | @cell1 t ty i E cells x h1 hm ht hs =>
    have hv := h.slot t
    rw [h1] at hv
    obtain ⟨b, g0, g1⟩ := hv.pD
    obtain ⟨b', arr, k1, k2, k3, k4, k5⟩ := h.mem i _ hm
    rw [g0] at k1; injection k1 with k1; injection k1 with k1; injection k1 with k1; subst k1
    obtain ⟨hlt, e⟩ := List.getElem?_eq_some_iff.1 hs
    have hlt' : 0 < arr.size := by omega
    have hc : w'.cell? ⟨b, 0, none⟩ = some arr[0] := by rw [cell_of_block k3]; exact Array.getElem?_eq_getElem _
    refine ⟨arr[0], by simp [rvSem, g1, asAddr, run_loadVar1 ht hc], by have := (k5 0 hlt' hlt).1; rwa [e] at this, fun j hj => (h.wfm i _ hm).2 j (AV.mem_idsL (by rw [← e]; exact List.getElem_mem hlt) hj)⟩
theorem ResGL.run {β : Nat → Value} {a : Act} {w' : World} (h : SatB C β S a w') {rs : List ResultVar} {xs : List AV} (hr : ResGL C S rs xs) :
    ∃ vs : List Value, (rs.mapM (rvSem a.tmps)).run C.P w' = .ok vs w' ∧ vs.length = xs.length ∧ (∀ i (h1 : i < vs.length) (h2 : i < xs.length), VRel w' (okS C S β w') β vs[i] xs[i]) ∧ ∀ i ∈ AV.idsL xs, S.used i = true := by
  induction hr with
  | nil => exact ⟨[], by simp, rfl, fun i h1 => by simp at h1, fun i hi => by simp [AV.idsL] at hi⟩
  | cons hx _ ih =>
    obtain ⟨v, e1, e2, e3⟩ := hx.run h
    obtain ⟨vs, f1, f2, f3, f4⟩ := ih
    refine ⟨v :: vs, by simp [e1, f1], by simp [f2], fun i h1 h2 => ?_, fun i hi => ?_⟩
    · cases i with
      | zero => exact e2
      | succ i => simpa using f3 i (by simpa using h1) (by simpa using h2)
    · simp only [AV.idsL, List.mem_append] at hi
      rcases hi with hi | hi
      · exact e3 i hi
      · exact f4 i hi

theorem sat_enum {P : Program} {w0 w : World} {ok0 : Nat → Prop} {keep : Nat → Option (Obj × Bool)} {anc : List (Nat × Value)} {args : List AV} {ml : List (Nat × AObj)} {vs : Array Value} {n m : Nat}
    (h : Sat ⟨P, w0, ok0, args.length, keep, anc⟩ (mkS (enumA 0 args) ml) ⟨vs, []⟩ w) (hl : vs.size = args.length) (hn : args.length + m = n) :
    Sat ⟨P, w0, ok0, n, keep, anc⟩ (mkS (enumA 0 args) ml) { tmps := vs ++ Array.replicate m undef, defers := [] } w := by
  obtain ⟨β, h⟩ := h
  refine ⟨β, by simp; omega, rfl, h.below, h.ok0, fun x => ?_, h.mem, h.apart, h.wfs, h.wfm, h.keep, h.anc⟩
  have hx := h.slot x
  by_cases hlt : x < args.length
  · have e : (vs ++ Array.replicate m undef).getD x undef = vs.getD x undef := by
      have h1 : x < vs.size := by omega
      have h2 : x < (vs ++ Array.replicate m undef).size := by simp; omega
      simp only [Array.getD, h1, h2, dif_pos]
      exact Array.getElem_append_left h1
    show VRel w _ β ((vs ++ Array.replicate m undef).getD x undef) _
    rw [e]; exact hx
  · have e : (mkS (enumA 0 args) ml).slot x = .junk := by
      show lookA x (enumA 0 args) = .junk
      rw [lookA_enum]
      simp [List.getElem?_eq_none (show args.length ≤ x by omega)]
    rw [e]; exact .junk _

theorem HasG.intro {P : Program} {f : FuncId} {fn : Func} {code : Code} {anc : List Nat} {args : List AV} {ml ml' : List (Nat × AObj)} {res : AV} (n : Nat) (hf : P.funcs[f]? = some fn) (hnm : (fn.name == "runtime.NumGoroutine") = false) (hb : fn.body = some code)
    (hn : args.length + (fn.ntmps - args.length) = n) (hpos : Nat.blt 0 n = true)
    (h : ∀ (w0 : World) (ok0 : Nat → Prop) (keep : Nat → Option (Obj × Bool)) (av : Nat → Value), AT ⟨P, w0, ok0, n, keep, anc.map fun i => (i, av i)⟩ code (RetGQ ⟨P, w0, ok0, n, keep, anc.map fun i => (i, av i)⟩ fn res ml') (mkS (enumA 0 args) ml)) :
    HasG P f anc args ml res ml' := by
  refine ⟨⟨fn, hf, hnm, by rw [hb]; rfl⟩, fun w0 ok0 keep av vs w hl hsat => ?_⟩
  refine calls_of_wp hf hb ?_
  have hs := sat_enum (m := fn.ntmps - args.length) hsat hl hn
  rw [hl]
  refine wp_mono (h w0 ok0 keep av _ _ hs) ?_
  rintro e a w' ⟨S', hq, ⟨β, hs'⟩⟩
  have key : RetG ⟨P, w0, ok0, n, keep, anc.map fun i => (i, av i)⟩ fn res ml' S' → a.defers = [] ∧ ∃ v, (results fn a.tmps).run P w' = .ok v w' ∧
      (∃ v', Ending.returned v = .returned v' ∧ Sat ⟨P, w0, ok0, 1, keep, anc.map fun i => (i, av i)⟩ (mkS [(0, res)] ml') ⟨#[v'], []⟩ w') := by
    rintro ⟨xs, X, ρ, hr, hX, hw, hm, hnd, ha⟩
    obtain ⟨vs', e1, e2, e3, e4⟩ := hr.run hs'
    obtain ⟨rl, hrl⟩ : ∃ rl, fn.results = rl := ⟨_, rfl⟩
    refine ⟨hs'.defers, ?_⟩
    have hrun : ∃ v, (results fn a.tmps).run P w' = .ok v w' ∧ VRel w' (okS ⟨P, w0, ok0, n, keep, anc.map fun i => (i, av i)⟩ S' β w') β v X ∧ ∀ i ∈ X.ids, S'.used i = true := by
      rw [results_eq]
      have hmm : (fn.results.mapM (rvSem a.tmps)).run P w' = .ok vs'.toArray w' := by
        have : fn.results = fn.results.toList.toArray := by simp
        rw [this, List.mapM_toArray]
        simp only [map_eq_pure_bind, Sem.run_bind]
        have e1' : (fn.results.toList.mapM (rvSem a.tmps)).run P w' = .ok vs' w' := e1
        simp [e1']
      simp only [Sem.run_bind, hmm, Result.andThen_ok, Sem.run_pure]
      rcases hX with hX | ⟨hX, rfl⟩
      · subst hX
        have hs1 : vs'.toArray.size = 1 := by simp [e2]
        rw [dif_pos hs1]
        refine ⟨_, rfl, ?_, fun i hi => e4 i (by simpa [AV.idsL] using hi)⟩
        have := e3 0 (by simp [e2]) (by simp)
        simpa using this
      · have hs1 : ¬ vs'.toArray.size = 1 := by simpa [e2] using hX
        rw [dif_neg hs1]
        refine ⟨_, rfl, .tup (by simpa using e2) fun i h1 h2 => by rw [List.getElem_toArray]; exact e3 i (by simpa using h1) h2, fun i hi => e4 i hi⟩
    obtain ⟨v, hv1, hv2, hv3⟩ := hrun
    refine ⟨v, hv1, v, rfl, ?_⟩
    have hpos' : 0 < n := by simpa [Nat.blt_eq] using hpos
    have hp := hs'.put (some 0) v X (fun _ _ _ => hv2) (fun x hx => .inl (by injection hx with hx; subst hx; exact hpos')) hv3
    have hwk := hp.wk ρ [(0, res)] ml' (.cons (by show WkV _ ρ ml' (putS (some 0) X S'.slot 0) res; rw [putS_same]; exact WkV.mem (S := S') rfl hw) .nil) (WkM.mem (S := S') rfl hm) hnd ha
    refine ⟨_, ⟨rfl, rfl, hwk.below, hwk.ok0, fun x => ?_, hwk.mem, hwk.apart, hwk.wfs, hwk.wfm, hwk.keep, hwk.anc⟩⟩
    have hx := hwk.slot x
    cases x with
    | zero =>
      rw [put_getD_same (by rw [hs'.size]; exact hpos')] at hx
      exact hx
    | succ x => exact .junk _
  cases e with
  | normal => exact key hq
  | ret => exact key hq
  | _ => exact hq.elim

end Go.Proofs.Ytgblfhobiibeaaa.Abs

/- Abstract symbolic execution, part 15: calls of functions that change what they are handed. No condition. -/
set_option linter.unusedVariables false
set_option linter.unusedSimpArgs false
namespace Go.Proofs.Ytgblfhobiibeaaa.Abs
open Go.RowKit
variable {C : Ctx} {ops : Array Oper} {o : Oper} {S : AState}

def modsG (ml ml' : List (Nat × AObj)) : List (Nat × Option AObj) := ml'.map (fun p => (p.1, some p.2)) ++ ml.map (fun p => (p.1, none))
theorem assoc_app (i : Nat) : ∀ (l1 l2 : List (Nat × Option AObj)), assoc i (l1 ++ l2) = match assoc i l1 with | some o => some o | none => assoc i l2
  | [], l2 => rfl
  | (j, o) :: r, l2 => by
    simp only [List.cons_append, assoc]
    cases Nat.beq i j with
    | true => rfl
    | false => simpa using assoc_app i r l2
theorem assoc_somes (i : Nat) : ∀ ml : List (Nat × AObj), assoc i (ml.map fun p => (p.1, some p.2)) = (lookO i ml).map some
  | [] => rfl
  | (j, o) :: r => by
    simp only [List.map_cons, assoc, lookO]
    cases Nat.beq i j with
    | true => rfl
    | false => simpa using assoc_somes i r
theorem assoc_nones (i : Nat) : ∀ ml : List (Nat × AObj), assoc i (ml.map fun p => (p.1, (none : Option AObj))) = (lookO i ml).map fun _ => none
  | [] => rfl
  | (j, o) :: r => by
    simp only [List.map_cons, assoc, lookO]
    cases Nat.beq i j with
    | true => rfl
    | false => simpa using assoc_nones i r
theorem assoc_modsG (i : Nat) (ml ml' : List (Nat × AObj)) : assoc i (modsG ml ml') = match lookO i ml' with | some o => some (some o) | none => (lookO i ml).map fun _ => none := by
  unfold modsG
  rw [assoc_app, assoc_somes, assoc_nones]
  cases lookO i ml' <;> rfl
theorem hasKey_modsG (i : Nat) (ml ml' : List (Nat × AObj)) : hasKey i (modsG ml ml') = ((lookO i ml').isSome || (lookO i ml).isSome) := by
  rw [hasKey_assoc, assoc_modsG]
  cases lookO i ml' <;> cases lookO i ml <;> rfl

def MemL (S : AState) : List (Nat × AObj) → Prop
  | [] => True
  | p :: r => S.mem p.1 = some p.2 ∧ MemL S r
theorem MemL.get {S : AState} : ∀ {ml : List (Nat × AObj)}, MemL S ml → ∀ p ∈ ml, S.mem p.1 = some p.2
  | q :: r, h, p, hp => by
    rcases List.mem_cons.1 hp with rfl | hp
    · exact h.1
    · exact MemL.get h.2 p hp
/-- How an argument may be taken. -/
inductive Pass : AV → AV → Prop
  | t {x y : T} (hc : Conv x y) : Pass (.t x) (.t y)
  | same (x : AV) : Pass x x
inductive PassL : List AV → List AV → Prop
  | nil : PassL [] []
  | cons {x y : AV} {l r : List AV} (h : Pass x y) (hl : PassL l r) : PassL (x :: l) (y :: r)
theorem PassL.refl : ∀ l : List AV, PassL l l
  | [] => .nil
  | x :: r => .cons (.same x) (PassL.refl r)
theorem PassL.len {l r : List AV} (h : PassL l r) : l.length = r.length := by induction h <;> simp [*]
theorem PassL.get {l r : List AV} (h : PassL l r) : ∀ i (h1 : i < l.length) (h2 : i < r.length), Pass l[i] r[i] := by
  induction h with
  | nil => intro i h1; simp at h1
  | cons hc _ ih =>
    intro i h1 h2
    cases i with
    | zero => exact hc
    | succ i => simpa using ih i (by simpa using h1) (by simpa using h2)
theorem Pass.rel {w : World} {ok : Nat → Prop} {β : Nat → Value} {v : Value} {x y : AV} (h : Pass x y) (hv : VRel w ok β v x) : VRel w ok β v y := by
  cases h with
  | t hc => exact .t (hc.reads hv.tD)
  | same x => exact hv
theorem ORel.ctx {C C' : Ctx} (hc : C'.w0 = C.w0) {ok : Nat → Prop} {β : Nat → Value} {w : World} {i : Nat} {o : AObj} (h : ORel C ok β w i o) : ORel C' ok β w i o := by
  cases o with
  | box E cells => obtain ⟨b, arr, h1, h2, h3⟩ := h; exact ⟨b, arr, h1, by rw [hc]; exact h2, h3⟩
  | row E sz l => obtain ⟨cells, h1, h2⟩ := h; exact ⟨cells, by rw [hc]; exact h1, h2⟩
  | buf E sz cap l => obtain ⟨g, cur, h1, h2, h3⟩ := h; exact ⟨g, cur, h1, by rw [hc]; exact h2, h3⟩
  | mp es c => obtain ⟨b, h1, h2, h3⟩ := h; exact ⟨b, h1, by rw [hc]; exact h2, h3⟩
def closedB (res : AV) (ml' : List (Nat × AObj)) : Bool := (res.ids.all fun i => (lookO i ml').isSome) && ml'.all fun p => p.2.ids.all fun i => (lookO i ml').isSome

theorem step_callG {f : FuncId} {args : Array Operand} {tys : Array TypeId} {anc : List Nat} {sl : List AV} {ml ml' : List (Nat × AObj)} {res : AV} (ho : o.op = .call { callee := .value (.func f), args := args, argTypes := tys })
    (hp : PassL (args.toList.map (evalS S)) sl) (hm : MemL S ml) (hh : HasG C.P f anc sl ml res ml') (hanc : (anc.all fun i => isBox (lookO i ml)) = true) (hnew : (ml'.all fun p => anc.any (Nat.beq p.1) || !(S.used p.1)) = true)
    (hcl : closedB res ml' = true) (hca : (C.anc.all fun p => anc.any (Nat.beq p.1) || !((lookO p.1 ml).isSome)) = true) (hd : dOk C.n o.dst = true) : Step C ops o S ⟨res, modsG ml ml', []⟩ := by
  classical
  intro S₁ hs hmm a w hsat
  obtain ⟨β, hb⟩ := hsat
  have hml1 : ∀ i q, lookO i ml = some q → S₁.mem i = some q := fun i q hi => by
    rw [(hmm i (.inr (by rw [hasKey_modsG, hi]; simp))).1]
    exact hm.get (i, q) (lookO_mem hi)
  let ownM : Nat → Prop := fun b => ∃ i q, lookO i ml = some q ∧ blk (β i) = some b
  let ban : Nat → Prop := fun b => owned S₁ β b ∨ ∃ x, C.keep b = some (x, true)
  let keep' : Nat → Option (Obj × Bool) := fun b => if ownM b then none else (w.heap[b]?).map fun x => (x, decide (ban b))
  have hk1 : ∀ b x, keep' b = some x → ¬ ownM b ∧ w.heap[b]? = some x.1 ∧ x.2 = decide (ban b) := by
    intro b x hx
    simp only [keep'] at hx
    split at hx
    · cases hx
    · rename_i hno
      cases hw : w.heap[b]? with
      | none => rw [hw] at hx; cases hx
      | some y => rw [hw] at hx; injection hx with hx; subst hx; exact ⟨hno, rfl, rfl⟩
  have hk2 : ∀ b, ¬ ownM b → b < w.heap.size → ∃ y, w.heap[b]? = some y ∧ keep' b = some (y, decide (ban b)) := by
    intro b hno hlt
    obtain ⟨y, hy⟩ : ∃ y, w.heap[b]? = some y := ⟨_, Array.getElem?_eq_getElem hlt⟩
    exact ⟨y, hy, by simp only [keep', if_neg hno, hy]; rfl⟩
  have hownM : ∀ b, ownM b → owned S₁ β b := fun b ⟨i, q, hi, hbl⟩ => ⟨i, q, hml1 i q hi, hbl⟩
  have hokin : ∀ b, okS C S₁ β w b → okS ⟨C.P, C.w0, C.ok0, sl.length, keep', anc.map fun i => (i, β i)⟩ (mkS (enumA 0 sl) ml) β w b := by
    intro b hb'
    refine ⟨⟨hb'.1.1, fun x hx => ?_⟩, hb'.2.1, fun ⟨i, q, hi, hbl⟩ => hb'.2.2 ⟨i, q, hml1 i q hi, hbl⟩⟩
    obtain ⟨_, _, h3⟩ := hk1 b _ hx
    have h3 : ban b := by simpa using h3.symm
    rcases h3 with h3 | ⟨y, h3⟩
    · exact hb'.2.2 h3
    · exact hb'.1.2 y h3
  have hlen := hp.len
  simp only [List.length_map, Array.length_toList] at hlen
  have hsat' : SatB ⟨C.P, C.w0, C.ok0, sl.length, keep', anc.map fun i => (i, β i)⟩ β (mkS (enumA 0 sl) ml) ⟨args.map a.eval, []⟩ w := by
    refine ⟨by simpa using hlen, rfl, hb.below, hb.ok0, fun x => ?_, fun i q hi => ?_, fun i j q q' hi hj hne b hbi => hb.apart i j q q' (hml1 i q hi) (hml1 j q' hj) hne b hbi, fun x i hi => ?_, fun j q hj => ⟨?_, fun i hi => ?_⟩, fun b x hx => ?_, fun p hpp => ?_⟩
    · show VRel w _ β _ (lookA x (enumA 0 sl))
      rw [lookA_enum, if_pos (Nat.zero_le _), Nat.sub_zero]
      by_cases hx : x < sl.length
      · have hx' : x < args.size := by omega
        rw [List.getElem?_eq_getElem hx]
        have h1 := hp.get x (by simpa using hx') hx
        simp only [List.getElem_map, Array.getElem_toList] at h1
        have h2 := hb.eval args[x]
        rw [agree_eval hs (by simp [ho, Op.operands, Call.operands])] at h2
        have e : (args.map a.eval).getD x undef = a.eval args[x] := by simp [Array.getD, hx']
        show VRel w _ β ((args.map a.eval).getD x undef) sl[x]
        rw [e]
        exact (h1.rel h2).mono (fun _ _ => rfl) hokin (fun _ _ => rfl)
      · rw [List.getElem?_eq_none (by omega)]; exact .junk _
    · exact ((hb.mem i q (hml1 i q hi)).mono (fun _ _ => rfl) (fun _ _ => rfl) hokin rfl (fun _ _ => rfl)).ctx rfl
    · show usedBy _ ml i = true
      unfold usedBy
      rw [Bool.or_eq_true]; left
      rw [List.any_eq_true]
      have hi' : i ∈ (lookA x (enumA 0 sl)).ids := hi
      rcases lookA_mem (x := x) (sl := enumA 0 sl) with h1 | h1
      · rw [h1] at hi'; simp [AV.ids] at hi'
      · exact ⟨_, h1, any_beq.2 hi'⟩
    · show usedBy _ ml j = true
      unfold usedBy
      rw [Bool.or_eq_true]; right
      rw [List.any_eq_true]
      exact ⟨_, lookO_mem hj, by simp [Nat.beq_refl]⟩
    · show usedBy _ ml i = true
      unfold usedBy
      rw [Bool.or_eq_true]; right
      rw [List.any_eq_true]
      exact ⟨_, lookO_mem hj, by rw [Bool.or_eq_true]; exact .inr (any_beq.2 hi)⟩
    · obtain ⟨h1, h2, _⟩ := hk1 b x hx
      exact ⟨h2, fun ⟨i, q, hi, hbl⟩ => h1 ⟨i, q, hi, hbl⟩⟩
    · obtain ⟨i, hi, rfl⟩ := List.mem_map.1 hpp
      have := (List.all_eq_true.1 hanc) i hi
      refine ⟨rfl, ?_⟩
      show ∃ E cells, lookO i ml = some (.box E cells)
      generalize lookO i ml = q at this
      cases q with
      | none => cases this
      | some q => cases q with
        | box E cells => exact ⟨E, cells, rfl⟩
        | row E sz l => cases this
        | buf E sz cap l => cases this
        | mp es c => cases this
  have hcall := hh.2 C.w0 C.ok0 keep' β (args.map a.eval) w (by simpa using hlen) ⟨β, hsat'⟩
  have hr : (execOp a.eval o).run C.P w = .ok (.enter f (args.map a.eval)) w := by
    simp only [execOp, ho, resolve, Act.eval, Deferred.ofValue, Sem.run_bind, Sem.run_pure, Result.andThen_ok, invoke, Array.empty_append, Array.append_empty, run_callFunc hh.1]
  unfold Oper.wp
  rw [hr, Oper.upon_enter]
  refine hcall.mono ?_
  rintro e w' ⟨v, rfl, β', hb'⟩
  show Sat C _ _ w'
  rw [ap_modS]
  let β'' : Nat → Value := fun i => if (lookO i ml').isSome then β' i else β i
  have hin : ∀ i q, lookO i ml' = some q → β'' i = β' i := fun i q hi => by simp [β'', hi]
  have hout : ∀ i, lookO i ml' = none → β'' i = β i := fun i hi => by simp [β'', hi]
  have hanc' : ∀ i, i ∈ anc → β' i = β i ∧ ∃ E cells, lookO i ml' = some (.box E cells) := fun i hi => hb'.anc (i, β i) (List.mem_map.2 ⟨i, hi, rfl⟩)
  have hfresh : ∀ i q, lookO i ml' = some q → S₁.used i = true → i ∈ anc := by
    intro i q hi hu
    have := (List.all_eq_true.1 hnew) _ (lookO_mem hi)
    rw [Bool.or_eq_true] at this
    rcases this with h1 | h1
    · exact any_beq.1 h1
    · rw [← (hmm i (.inr (by rw [hasKey_modsG, hi]; rfl))).2, hu] at h1; cases h1
  have hagree : ∀ i, S₁.used i = true → β'' i = β i := by
    intro i hu
    cases hi : lookO i ml' with
    | none => exact hout i hi
    | some q => rw [hin i q hi]; exact (hanc' i (hfresh i q hi hu)).1
  have hmem2 : ∀ i, (modS (modsG ml ml') S₁).mem i = match lookO i ml' with | some q => some q | none => if (lookO i ml).isSome then none else S₁.mem i := by
    intro i
    simp only [modS, assoc_modsG]
    cases lookO i ml' with
    | some q => rfl
    | none => cases lookO i ml <;> rfl
  have hused2 : ∀ i, (modS (modsG ml ml') S₁).used i = (S₁.used i || ((lookO i ml').isSome || (lookO i ml).isSome)) := fun i => by simp only [modS, hasKey_modsG]
  have hnot : ∀ i q b, S₁.mem i = some q → lookO i ml = none → blk (β i) = some b → ¬ ownM b := by
    rintro i q b hi hml hbl ⟨j, q', hj, hbj⟩
    have hne : j ≠ i := fun e => by subst e; rw [hml] at hj; cases hj
    exact hb.apart j i q' q (hml1 j q' hj) hi hne b hbj hbl
  have hkept : ∀ b, ¬ ownM b → b < w.heap.size → w'.heap[b]? = w.heap[b]? ∧ ¬ owned (mkS [(0, res)] ml') β' b := by
    intro b hno hlt
    obtain ⟨y, h1, h2⟩ := hk2 b hno hlt
    obtain ⟨h3, h4⟩ := hb'.keep b _ h2
    exact ⟨h3.trans h1.symm, h4⟩
  have howned2 : ∀ b, owned (modS (modsG ml ml') S₁) β'' b → owned (mkS [(0, res)] ml') β' b ∨ ∃ i q, lookO i ml' = none ∧ lookO i ml = none ∧ S₁.mem i = some q ∧ blk (β i) = some b := by
    rintro b ⟨i, q, hi, hbl⟩
    rw [hmem2] at hi
    cases h1 : lookO i ml' with
    | some q' => rw [h1] at hi; rw [hin i q' h1] at hbl; exact .inl ⟨i, q', h1, hbl⟩
    | none =>
      rw [h1] at hi
      rw [hout i h1] at hbl
      cases h2 : lookO i ml with
      | some q' => rw [h2] at hi; cases hi
      | none => rw [h2] at hi; exact .inr ⟨i, q, h1, h2, hi, hbl⟩
  have hlt' : ∀ b, ¬ ownM b → b < w.heap.size → b < w'.heap.size := by
    intro b hno hlt
    have := (hkept b hno hlt).1
    rw [Array.getElem?_eq_getElem hlt] at this
    exact (Array.getElem?_eq_some_iff.1 this).1
  have hok1 : ∀ b, okS C S₁ β w b → okS C (modS (modsG ml ml') S₁) β'' w' b := by
    intro b hb2
    have hno : ¬ ownM b := fun h => hb2.2.2 (hownM b h)
    refine ⟨hb2.1, hlt' b hno hb2.2.1, fun ho2 => ?_⟩
    rcases howned2 b ho2 with h1 | ⟨i, q, _, _, h3, h4⟩
    · exact (hkept b hno hb2.2.1).2 h1
    · exact hb2.2.2 ⟨i, q, h3, h4⟩
  have hok2 : ∀ b, okS ⟨C.P, C.w0, C.ok0, 1, keep', anc.map fun i => (i, β i)⟩ (mkS [(0, res)] ml') β' w' b → okS C (modS (modsG ml ml') S₁) β'' w' b := by
    intro b hb2
    have hnb : ∀ x, keep' b ≠ some (x, true) := hb2.1.2
    refine ⟨⟨hb2.1.1, fun x hx => ?_⟩, hb2.2.1, fun ho2 => ?_⟩
    · have h1 := hb.keep b _ hx
      have hno : ¬ ownM b := fun h => h1.2 (hownM b h)
      obtain ⟨y, _, h3⟩ := hk2 b hno (hb.keep_lt hx)
      rw [decide_eq_true (show ban b from .inr ⟨x, hx⟩)] at h3
      exact hnb y h3
    · rcases howned2 b ho2 with h1 | ⟨i, q, h1, h2, h3, h4⟩
      · exact hb2.2.2 h1
      · obtain ⟨y, _, h6⟩ := hk2 b (hnot i q b h3 h2 h4) ((hb.mem i q h3).lt h4).2
        rw [decide_eq_true (show ban b from .inl ⟨i, q, h3, h4⟩)] at h6
        exact hnb y h6
  have hheap : ∀ b, okS C S₁ β w b → w'.heap[b]? = w.heap[b]? := fun b hb2 => (hkept b (fun h => hb2.2.2 (hownM b h)) hb2.2.1).1
  have hcl1 : ∀ i, i ∈ res.ids → (lookO i ml').isSome = true := by
    simp only [closedB, Bool.and_eq_true, List.all_eq_true] at hcl
    exact hcl.1
  have hcl2 : ∀ j q, lookO j ml' = some q → ∀ i ∈ q.ids, (lookO i ml').isSome = true := by
    simp only [closedB, Bool.and_eq_true, List.all_eq_true] at hcl
    exact fun j q hj i hi => hcl.2 _ (lookO_mem hj) i hi
  have hin2 : ∀ i, (lookO i ml').isSome = true → β'' i = β' i := fun i hi => by simp [β'', hi]
  have hsb : SatB C β'' (modS (modsG ml ml') S₁) a w' := by
    refine hb.change hb'.below hheap hok1 hagree rfl (fun i hi => by rw [hused2, hi]; rfl) (fun i q hi => ?_) (fun i j q q' hi hj hne b hbi hbj => ?_) (fun j q hj => ?_) (fun b x hx => ?_) (fun p hpp => ?_)
    · rw [hmem2] at hi
      cases h1 : lookO i ml' with
      | some q' =>
        rw [h1] at hi; injection hi with hi; subst hi
        exact ((hb'.mem i q' h1).mono (fun _ _ => rfl) (fun _ _ => rfl) hok2 (hin i q' h1) (fun j hj => hin2 j (hcl2 i q' h1 j hj))).ctx rfl
      | none =>
        rw [h1] at hi
        cases h2 : lookO i ml with
        | some q' => rw [h2] at hi; cases hi
        | none =>
          rw [h2] at hi
          have hi' : S₁.mem i = some q := hi
          exact (hb.mem i q hi').mono (fun b hbl => (hkept b (hnot i q b hi' h2 hbl) ((hb.mem i q hi').lt hbl).2).1) hheap hok1 (hout i h1) (fun j hj => hagree j ((hb.wfm i q hi').2 j hj))
    · have clash : ∀ i j q, lookO i ml' ≠ none → lookO j ml' = none → lookO j ml = none → S₁.mem j = some q → blk (β'' i) = some b → blk (β'' j) = some b → False := by
        intro i j q h1 h2 h3 h4 h5 h6
        rw [hout j h2] at h6
        cases h7 : lookO i ml' with
        | none => exact h1 h7
        | some q' =>
          rw [hin i q' h7] at h5
          exact (hkept b (hnot j q b h4 h3 h6) ((hb.mem j q h4).lt h6).2).2 ⟨i, q', h7, h5⟩
      have hcase : ∀ i q, (modS (modsG ml ml') S₁).mem i = some q → (lookO i ml' = some q) ∨ (lookO i ml' = none ∧ lookO i ml = none ∧ S₁.mem i = some q) := by
        intro i q hi
        rw [hmem2] at hi
        cases h1 : lookO i ml' with
        | some q' => rw [h1] at hi; exact .inl hi
        | none =>
          rw [h1] at hi
          cases h2 : lookO i ml with
          | some q' => rw [h2] at hi; cases hi
          | none => rw [h2] at hi; exact .inr ⟨rfl, rfl, hi⟩
      rcases hcase i q hi with h1 | ⟨h1, h2, h3⟩ <;> rcases hcase j q' hj with g1 | ⟨g1, g2, g3⟩
      · rw [hin i q h1] at hbi
        rw [hin j q' g1] at hbj
        exact hb'.apart i j q q' h1 g1 hne b hbi hbj
      · exact clash i j q' (by rw [h1]; simp) g1 g2 g3 hbi hbj
      · exact clash j i q (by rw [g1]; simp) h1 h2 h3 hbj hbi
      · rw [hout i h1] at hbi
        rw [hout j g1] at hbj
        exact hb.apart i j q q' h3 g3 hne b hbi hbj
    · rw [hmem2] at hj
      cases h1 : lookO j ml' with
      | some q' =>
        rw [h1] at hj; injection hj with hj; subst hj
        exact ⟨by rw [hused2, h1]; simp, fun i hi => by rw [hused2, hcl2 j q' h1 i hi]; simp⟩
      | none =>
        rw [h1] at hj
        cases h2 : lookO j ml with
        | some q' => rw [h2] at hj; cases hj
        | none =>
          rw [h2] at hj
          obtain ⟨g1, g2⟩ := hb.wfm j q hj
          exact ⟨by rw [hused2, g1]; rfl, fun i hi => by rw [hused2, g2 i hi]; rfl⟩
    · obtain ⟨h1, h2⟩ := hb.keep b x hx
      have hno : ¬ ownM b := fun h => h2 (hownM b h)
      have hlt := hb.keep_lt hx
      refine ⟨(hkept b hno hlt).1.trans h1, fun ho2 => ?_⟩
      rcases howned2 b ho2 with h3 | ⟨i, q, _, _, h3, h4⟩
      · exact (hkept b hno hlt).2 h3
      · exact h2 ⟨i, q, h3, h4⟩
    · obtain ⟨h1, E, cells, h2⟩ := hb.anc p hpp
      have hu := (hb.wfm _ _ h2).1
      refine ⟨(hagree _ hu).trans h1, ?_⟩
      rw [hmem2]
      have := (List.all_eq_true.1 hca) p hpp
      rw [Bool.or_eq_true] at this
      rcases this with h3 | h3
      · obtain ⟨_, E', c', h4⟩ := hanc' _ (any_beq.1 h3)
        exact ⟨E', c', by rw [h4]⟩
      · cases h4 : lookO p.1 ml' with
        | some q =>
          obtain ⟨_, E', c', h5⟩ := hanc' _ (hfresh _ q h4 hu)
          rw [h5] at h4; injection h4 with h4
          exact ⟨E', c', by rw [← h4]⟩
        | none =>
          have h5 : lookO p.1 ml = none := by
            cases h6 : lookO p.1 ml with
            | none => rfl
            | some q => rw [h6] at h3; cases h3
          rw [h5]
          exact ⟨E, cells, h2⟩
  have hv := hb'.slot 0
  refine ⟨β'', hsb.put o.dst v res (fun _ _ _ => ?_) (fun x hx => .inl ?_) (fun i hi => ?_)⟩
  · exact VRel.mono hv (fun _ _ => rfl) hok2 (fun i hi => hin2 i (hcl1 i hi))
  · rw [hx] at hd; simpa [dOk] using hd
  · rw [hused2, hcl1 i hi]; simp

end Go.Proofs.Ytgblfhobiibeaaa.Abs

/- Abstract symbolic execution, part 16: buffers: arrays of the call's own that are sliced, copied within, extended in place. No condition. -/
set_option linter.unusedVariables false
set_option linter.unusedSimpArgs false
namespace Go.Proofs.Ytgblfhobiibeaaa.Abs
open Go.RowKit
variable {C : Ctx} {ops : Array Oper} {o : Oper} {S : AState}

/-! ### Cells that read as a list of elements -/
def BufR (w : World) (ok : Nat → Prop) (sz : Nat) (cells : List Value) (l : List T) : Prop :=
  (∀ k (h : k < l.length), l[k].cells.length = sz) ∧ ∀ k (h : k < l.length) j (hj : j < l[k].cells.length), ∃ v, cells[k * sz + j]? = some v ∧ Reads w ok v l[k].cells[j] ∧ v.oneCell' = true
theorem idx_lt {k p j sz : Nat} (h : k < p) (hj : j < sz) : k * sz + j < p * sz := by
  have : (k + 1) * sz ≤ p * sz := Nat.mul_le_mul_right _ (by omega)
  have : (k + 1) * sz = k * sz + sz := by rw [Nat.add_mul, Nat.one_mul]
  omega
theorem BufR.mono {w w' : World} {ok ok' : Nat → Prop} {sz : Nat} {cells : List Value} {l : List T} (h : BufR w ok sz cells l) (hw : ∀ b, ok b → w'.heap[b]? = w.heap[b]?) (hk : ∀ b, ok b → ok' b) : BufR w' ok' sz cells l :=
  ⟨h.1, fun k hk' j hj => by obtain ⟨v, e1, e2, e3⟩ := h.2 k hk' j hj; exact ⟨v, e1, e2.mono hw hk, e3⟩⟩
theorem BufR.take {w : World} {ok : Nat → Prop} {sz n : Nat} {cells : List Value} {l : List T} (h : BufR w ok sz cells l) : BufR w ok sz cells (l.take n) := by
  refine ⟨fun k hk => ?_, fun k hk j hj => ?_⟩
  · simp only [List.length_take] at hk
    rw [List.getElem_take]; exact h.1 k (by omega)
  · simp only [List.length_take] at hk
    have := h.2 k (by omega) j (by rw [List.getElem_take] at hj; exact hj)
    simpa [List.getElem_take] using this
theorem BufR.part {w : World} {ok : Nat → Prop} {sz k m : Nat} {cells : List Value} {l : List T} (h : BufR w ok sz cells l) (hk : k + m ≤ l.length) : BufR w ok sz ((cells.drop (k * sz)).take (m * sz)) ((l.drop k).take m) := by
  have hlen : ((l.drop k).take m).length = m := by simp; omega
  have hget : ∀ q (hq : q < ((l.drop k).take m).length), ((l.drop k).take m)[q] = l[k + q]'(by simp at hq; omega) := fun q hq => by simp
  refine ⟨fun q hq => by rw [hget q hq]; exact h.1 _ _, fun q hq j hj => ?_⟩
  have hq' : q < m := by omega
  have hj' : j < l[k + q].cells.length := by rw [hget q hq] at hj; exact hj
  obtain ⟨v, e1, e2, e3⟩ := h.2 (k + q) (by omega) j hj'
  have hsz := h.1 (k + q) (by omega)
  refine ⟨v, ?_, ?_, e3⟩
  · rw [List.getElem?_take_of_lt (idx_lt hq' (by omega)), List.getElem?_drop, ← e1, Nat.add_mul]
    congr 1
    omega
  · simp only [hget q hq]; exact e2
/-- 'src' written from element p on. -/
def put (l : List T) (p : Nat) (src : List T) : List T := l.take p ++ src ++ l.drop (p + src.length)
theorem BufR.put {w : World} {ok : Nat → Prop} {sz p : Nat} {cells vs : List Value} {l src : List T} (h : BufR w ok sz cells l) (hs : BufR w ok sz vs src) (hv : vs.length = src.length * sz) (hp : p ≤ l.length) (hl : l.length * sz ≤ cells.length) :
    BufR w ok sz (cells.take (p * sz) ++ vs ++ cells.drop (p * sz + vs.length)) (Abs.put l p src) := by
  have hlt : (l.take p).length = p := by simp; omega
  have hcl : (cells.take (p * sz)).length = p * sz := by
    have : p * sz ≤ l.length * sz := Nat.mul_le_mul_right _ hp
    simp; omega
  have h1 : BufR w ok sz (cells.take (p * sz)) (l.take p) := by
    refine ⟨h.take.1, fun k hk j hj => ?_⟩
    obtain ⟨v, e1, e2⟩ := h.take.2 k hk j hj
    have := h.take.1 k hk
    exact ⟨v, by rw [List.getElem?_take_of_lt (idx_lt (by omega) (by omega))]; exact e1, e2⟩
  have a1 := rows_append (xs := cells.take (p * sz)) (cells := vs) (by rw [hcl, hlt]) h1.1 hs.1 h1.2 hs.2
  have h3 : BufR w ok sz (cells.drop (p * sz + vs.length)) (l.drop (p + src.length)) := by
    refine ⟨fun k hk => by rw [List.getElem_drop]; exact h.1 _ _, fun k hk j hj => ?_⟩
    have hk' : p + src.length + k < l.length := by simp at hk; omega
    obtain ⟨v, e1, e2, e3⟩ := h.2 (p + src.length + k) hk' j (by rw [List.getElem_drop] at hj; exact hj)
    refine ⟨v, ?_, by simpa [List.getElem_drop] using e2, e3⟩
    rw [List.getElem?_drop, ← e1, hv, Nat.add_mul, Nat.add_mul]
    congr 1
    omega
  have a2 := rows_append (xs := cells.take (p * sz) ++ vs) (cells := cells.drop (p * sz + vs.length)) (l := l.take p ++ src) (r := l.drop (p + src.length)) (by simp [hcl, hlt, hv, Nat.add_mul]) a1.1 h3.1 a1.2 h3.2
  exact a2
theorem put_len {l src : List T} {p : Nat} (h : p + src.length ≤ l.length) : (put l p src).length = l.length := by simp [put]; omega

/-! ### From a row to a buffer, and back -/
/-- An object takes another's place (and memory), under a new number. -/
theorem SatB.become {β : Nat → Value} {a : Act} {w : World} (h : SatB C β S a w) (i d : Nat) (ob ob' : AObj) (v' : Value) (hm : S.mem i = some ob) (hnb : isBox (some ob) = false) (hu : S.used d = false) (hblk : ∀ b, blk v' = some b → blk (β i) = some b)
    (hids : ob'.ids = []) (hO : ∀ (ok' : Nat → Prop) (β' : Nat → Value), (∀ b, okS C S β w b → ok' b) → β' d = v' → ORel C ok' β' w d ob') :
    ∃ β', β' d = v' ∧ (∀ j, S.used j = true → β' j = β j) ∧ SatB C β' (modS [(d, some ob'), (i, none)] S) a w := by
  have hne : i ≠ d := fun e => by subst e; have := (h.wfm i _ hm).1; rw [hu] at this; cases this
  let β' : Nat → Value := fun j => if j = d then v' else β j
  have e1 : β' d = v' := by simp [β']
  have e2 : ∀ j, j ≠ d → β' j = β j := fun j hj => by simp [β', hj]
  have hused : ∀ j, S.used j = true → j ≠ d := fun j hj e => by subst e; rw [hu] at hj; cases hj
  have hm' : ∀ j, (modS [(d, some ob'), (i, none)] S).mem j = (if j = d then some ob' else if j = i then none else S.mem j) := by
    intro j
    simp only [modS, assoc]
    by_cases hd : j = d
    · subst hd; simp [Nat.beq_refl]
    · have hb : Nat.beq j d = false := by
        cases hb : Nat.beq j d with
        | false => rfl
        | true => exact absurd (Nat.eq_of_beq_eq_true hb) hd
      by_cases hi : j = i
      · subst hi; simp [hb, Nat.beq_refl, hd]
      · have hb2 : Nat.beq j i = false := by
          cases hb : Nat.beq j i with
          | false => rfl
          | true => exact absurd (Nat.eq_of_beq_eq_true hb) hi
        simp [hb, hb2, hd, hi]
  have hus : ∀ j, S.used j = true → (modS [(d, some ob'), (i, none)] S).used j = true := fun j hj => by simp [modS, hj]
  have husd : (modS [(d, some ob'), (i, none)] S).used d = true := by simp [modS, hasKey, Nat.beq_refl]
  have hcase : ∀ j q, (modS [(d, some ob'), (i, none)] S).mem j = some q → (j = d ∧ q = ob') ∨ (j ≠ d ∧ j ≠ i ∧ S.mem j = some q) := by
    intro j q hj
    rw [hm'] at hj
    split at hj
    · rename_i e; injection hj with hj; exact .inl ⟨e, hj.symm⟩
    · rename_i hjd
      split at hj
      · cases hj
      · rename_i hji; exact .inr ⟨hjd, hji, hj⟩
  have howned : ∀ b, owned (modS [(d, some ob'), (i, none)] S) β' b → owned S β b := by
    rintro b ⟨j, q, hj, hbl⟩
    rcases hcase j q hj with ⟨rfl, _⟩ | ⟨h1, h2, h3⟩
    · rw [e1] at hbl; exact ⟨i, ob, hm, hblk b hbl⟩
    · rw [e2 j h1] at hbl; exact ⟨j, q, h3, hbl⟩
  have hok : ∀ b, okS C S β w b → okS C (modS [(d, some ob'), (i, none)] S) β' w b := fun b hb => ⟨hb.1, hb.2.1, fun ho => hb.2.2 (howned b ho)⟩
  refine ⟨β', e1, fun j hj => e2 j (hused j hj), h.change h.below (fun _ _ => rfl) hok (fun j hj => e2 j (hused j hj)) rfl hus (fun j q hj => ?_) (fun j k q q' hj hk hjk b hbj hbk => ?_) (fun j q hj => ?_)
    (fun b x hx => ⟨(h.keep b x hx).1, fun ho => (h.keep b x hx).2 (howned b ho)⟩) (fun p hp => ?_)⟩
  · rcases hcase j q hj with ⟨rfl, rfl⟩ | ⟨h1, h2, h3⟩
    · exact hO _ _ hok e1
    · exact (h.mem j q h3).mono (fun _ _ => rfl) (fun _ _ => rfl) hok (e2 j h1) (fun x hx => e2 x (hused x ((h.wfm j q h3).2 x hx)))
  · rcases hcase j q hj with ⟨rfl, rfl⟩ | ⟨h1, h2, h3⟩ <;> rcases hcase k q' hk with ⟨rfl, rfl⟩ | ⟨g1, g2, g3⟩
    · exact hjk rfl
    · rw [e1] at hbj; rw [e2 k g1] at hbk
      exact h.apart i k ob q' hm g3 (fun e => g2 e.symm) b (hblk b hbj) hbk
    · rw [e1] at hbk; rw [e2 j h1] at hbj
      exact h.apart i j ob q hm h3 (fun e => h2 e.symm) b (hblk b hbk) hbj
    · rw [e2 j h1] at hbj; rw [e2 k g1] at hbk
      exact h.apart j k q q' h3 g3 hjk b hbj hbk
  · rcases hcase j q hj with ⟨rfl, rfl⟩ | ⟨h1, h2, h3⟩
    · exact ⟨husd, by rw [hids]; simp⟩
    · exact ⟨hus _ (h.wfm j q h3).1, fun x hx => hus _ ((h.wfm j q h3).2 x hx)⟩
  · obtain ⟨g1, E, cells, g2⟩ := h.anc p hp
    have hd' : p.1 ≠ d := hused _ (h.wfm _ _ g2).1
    have hi' : p.1 ≠ i := fun e => by rw [e, hm] at g2; injection g2 with g2; subst g2; cases hnb
    exact ⟨(e2 _ hd').trans g1, E, cells, by rw [hm', if_neg hd', if_neg hi']; exact g2⟩
/-- A slot is given another value that its content is related to. -/
theorem SatB.reslot {β : Nat → Value} {a : Act} {w : World} (h : SatB C β S a w) (x : Nat) (av : AV) (hv : VRel w (okS C S β w) β (a.tmps.getD x undef) av) (hi : ∀ i ∈ av.ids, S.used i = true) : SatB C β { S with slot := putS (some x) av S.slot } a w := by
  refine ⟨h.size, h.defers, h.below, h.ok0, fun y => ?_, h.mem, h.apart, fun y i hy => ?_, h.wfm, h.keep, h.anc⟩
  · show VRel w _ β _ (putS (some x) av S.slot y)
    rcases putS_cases (some x) av S.slot y with ⟨h1, h2⟩ | ⟨h1, h2⟩
    · rw [h2]; injection h1 with h1; subst h1; exact hv
    · rw [h2]; exact h.slot y
  · have hy' : i ∈ (putS (some x) av S.slot y).ids := hy
    rcases putS_cases (some x) av S.slot y with ⟨h1, h2⟩ | ⟨h1, h2⟩
    · rw [h2] at hy'; exact hi i hy'
    · rw [h2] at hy'; exact h.wfs y i hy'

/-- The row in slot x is taken as a buffer. -/
theorem AT.openRow {c : Code} {Q : Exit → AState → Prop} (x i d E sz : Nat) {l : List T} (hx : S.slot x = .h i) (hm : S.mem i = some (.row E sz l)) (hpos : 0 < l.length) (hu : S.used d = false)
    (h : ∀ cap, l.length ≤ cap → cap ≤ maxLen → AT C c Q { modS [(d, some (.buf E sz cap l)), (i, none)] S with slot := putS (some x) (.s d sz 0 l.length cap) S.slot }) : AT C c Q S := by
  intro a w hsat
  obtain ⟨β, hb⟩ := hsat
  have hO := hb.mem i _ hm
  have hv := hb.slot x
  rw [hx] at hv
  obtain ⟨cells, h1, h2, h3⟩ := hO
  rcases h1.2 with ⟨_, h0⟩ | ⟨g, cap, cur, hg1, hg2, hg3, hg4, hg5, hg6, hg7⟩
  · omega
  · refine h cap hg4 hg5 a w ?_
    obtain ⟨β', e1, e2, hsb⟩ := hb.become i d _ (.buf E sz cap l) (.slice (some ⟨g, 0, none⟩) 0 cap) hm rfl hu (fun b hbl => by rw [hg1]; exact hbl) rfl (fun ok' β' h1' h2' =>
      ⟨g, cur, h2', hg2, hg3, hg5, hg6, hg4, h2, fun k hk j hj => by
        obtain ⟨u, k1, k2, k3⟩ := h3 k hk j hj
        refine ⟨u, ?_, k2.mono (fun _ _ => rfl) h1', k3⟩
        rw [← hg7, List.getElem?_take] at k1
        split at k1
        · simpa using k1
        · cases k1⟩)
    exact ⟨β', hsb.reslot x (.s d sz 0 l.length cap) (by rw [hv.hD, hg1]; exact .s e1 (by omega) hg4 (fun _ => by simp)) (fun j hj => by
      simp only [AV.ids, List.mem_singleton] at hj; subst hj; simp [modS, hasKey, Nat.beq_refl])⟩
/-- The first elements of the buffer in slot x are taken as a row. -/
theorem AT.closeRow {c : Code} {Q : Exit → AState → Prop} (x d : Nat) {i E sz n cap : Nat} {l : List T} (hx : S.slot x = .s i sz 0 n cap) (hm : S.mem i = some (.buf E sz cap l)) (hpos : 0 < cap) (hn : n ≤ l.length) (hu : S.used d = false)
    (h : AT C c Q { modS [(d, some (.row E sz (l.take n))), (i, none)] S with slot := putS (some x) (.h d) S.slot }) : AT C c Q S := by
  intro a w hsat
  refine h a w ?_
  obtain ⟨β, hb⟩ := hsat
  obtain ⟨g, cur, g1, g2, g3, g4, g5, g6, g7, g8⟩ := hb.mem i _ hm
  have hv := hb.slot x
  rw [hx] at hv
  obtain ⟨v, hve⟩ : ∃ v, a.tmps.getD x undef = v := ⟨_, rfl⟩
  rw [hve] at hv
  have hveq : v = .slice (some ⟨g, 0, none⟩) n cap := by
    cases hv with
    | s h1 h2 h3 h4 =>
      rw [g1] at h1; injection h1 with h1 _ _; injection h1 with h1; injection h1 with h1
      subst h1
      rw [h4 (by omega), Nat.zero_mul]
  have hlen : (l.take n).length = n := by simp; omega
  have hsub : (l.take n).length * sz ≤ cur.size := by rw [g5, hlen]; exact Nat.mul_le_mul_right _ (by omega)
  obtain ⟨β', e1, e2, hsb⟩ := hb.become i d _ (.row E sz (l.take n)) v hm rfl hu (fun b hbl => by rw [g1]; rw [hveq] at hbl; exact hbl) rfl (fun ok' β' h1' h2' => by
    have hB : BufR w ok' sz cur.toList (l.take n) := (BufR.take ⟨g7, fun k hk j hj => by obtain ⟨u, k1, k2, k3⟩ := g8 k hk j hj; exact ⟨u, by simpa using k1, k2, k3⟩⟩).mono (fun _ _ => rfl) h1'
    refine ⟨cur.toList.take ((l.take n).length * sz), ?_, hB.1, fun k hk j hj => ?_⟩
    · rw [h2', hveq]
      exact ⟨by simp only [List.length_take, Array.length_toList] at hsub ⊢; omega, .inr ⟨g, cap, cur, by rw [hlen], g2, g3, by omega, g4, g5, rfl⟩⟩
    · obtain ⟨u, k1, k2⟩ := hB.2 k hk j hj
      have := hB.1 k hk
      exact ⟨u, by rw [List.getElem?_take_of_lt (idx_lt hk (by omega))]; exact k1, k2⟩)
  exact ⟨β', hsb.reslot x (.h d) (by show VRel w _ β' (a.tmps.getD x undef) _; rw [hve, ← e1]; exact .h d) (fun j hj => by
    simp only [AV.ids, List.mem_singleton] at hj; subst hj; simp [modS, hasKey, Nat.beq_refl])⟩

end Go.Proofs.Ytgblfhobiibeaaa.Abs
