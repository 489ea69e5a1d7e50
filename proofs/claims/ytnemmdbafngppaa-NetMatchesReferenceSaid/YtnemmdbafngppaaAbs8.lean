/- Abstract symbolic execution, part 8: loads, stores, struct literals, calls by contract. No condition. -/
import Derived.Test.YtnemmdbafngppaaAbs7
set_option linter.unusedVariables false
set_option linter.unusedSimpArgs false
namespace Go.Proofs.Ytnemmdbafngppaa.Abs
open Go.RowKit
variable {C : Ctx} {ops : Array Oper} {o : Oper} {S : AState}

/-! ### Loads -/
theorem Step.read {val : AV} {i : Nat} {ob : AObj} (hm : S.mem i = some ob) (hd : dOk C.n o.dst = true)
    (hids : ∀ j ∈ val.ids, j ∈ ob.ids ∨ ∃ x ∈ o.op.operands, j ∈ (evalS S x).ids)
    (h : ∀ (β : Nat → Value) (w : World) (ok : Nat → Prop) (ρ : Operand → Value), ORel C ok β w i ob → (∀ x ∈ o.op.operands, VRel w ok β (ρ x) (evalS S x)) → (∀ v, ρ (.const v) = v) →
      ∃ v, (execOp ρ o).run C.P w = .ok (.value v) w ∧ VRel w ok β v val) : Step C ops o S ⟨val, [], [i]⟩ := by
  intro S₁ hs hm1 a w hsat
  obtain ⟨β, hb⟩ := hsat
  have hmi : S₁.mem i = some ob := (hm1 i (.inl (by simp))).1.trans hm
  obtain ⟨v, hr, hv⟩ := h β w (okS C S₁ β w) a.eval (hb.mem i ob hmi) (fun x hx => by rw [← agree_eval hs hx]; exact hb.eval x) (fun _ => rfl)
  refine Oper.wp_value hr ?_
  rw [ap_pure]
  refine ⟨β, hb.put o.dst v val (fun _ _ _ => hv) (fun x hx => .inl ?_) (fun j hj => ?_)⟩
  · rw [hx] at hd; simpa [dOk] using hd
  · rcases hids j hj with hj | ⟨x, hx, hjx⟩
    · exact (hb.wfm i ob hmi).2 j hj
    · rw [← agree_eval hs hx] at hjx
      cases x with
      | tmp t => exact hb.wfs t j hjx
      | _ => simp [evalS, AV.ids] at hjx

theorem run_load_cell {P : Program} {w : World} {a : Addr} {v : Value} (h : w.cell? a = some v) : (load a).run P w = .ok v w := by simp [load, Sem.run, h]
theorem run_loadCellsFrom {P : Program} {w : World} {a : Addr} (f : Nat → Value) : ∀ (n i : Nat) (acc : Array Value), (∀ k, k < n → w.cell? (a.add (i + k)) = some (f (i + k))) →
    (loadCellsFrom a i n acc).run P w = .ok (acc ++ ((List.range' i n).map f).toArray) w
  | 0, i, acc, _ => by simp [loadCellsFrom]
  | n + 1, i, acc, h => by
    have h0 := h 0 (by omega)
    simp only [Nat.add_zero] at h0
    simp only [loadCellsFrom, Sem.run_bind, run_load_cell h0, Result.andThen_ok]
    rw [run_loadCellsFrom f n (i + 1) _ (fun k hk => by have := h (k + 1) (by omega); rw [show i + 1 + k = i + (k + 1) from by omega]; exact this)]
    simp [List.range'_succ]
theorem run_loadCells {P : Program} {w : World} {a : Addr} (f : Nat → Value) {n : Nat} (h : ∀ k, k < n → w.cell? (a.add k) = some (f k)) :
    (loadCells a n).run P w = .ok ((List.range n).map f).toArray w := by
  unfold loadCells
  rw [run_loadCellsFrom f n 0 #[] (fun k hk => by simpa using h k hk)]
  simp [List.range_eq_range']
theorem run_loadVar1 {P : Program} {w : World} {t : TypeId} {a : Addr} {v : Value} (ht : tyB P t = some (false, 1)) (h : w.cell? a = some v) : (loadVar t a).run P w = .ok v w := by
  simp only [loadVar, Sem.run_bind, run_isAgg ht, Result.andThen_ok, Bool.false_eq_true, if_false, run_load_cell h]
theorem run_loadVarN {P : Program} {w : World} {t : TypeId} {a : Addr} {n : Nat} (f : Nat → Value) (ht : tyB P t = some (true, n)) (h : ∀ k, k < n → w.cell? (a.add k) = some (f k)) :
    (loadVar t a).run P w = .ok (.agg ((List.range n).map f).toArray) w := by
  simp [loadVar, run_isAgg ht, run_sizeOf' ht, run_loadCells f h]
theorem cell_of_block {w : World} {b q : Nat} {arr : Array Value} {E : TypeId} {fr : Nat × Nat} (h : w.heap[b]? = some (.cells arr E fr)) : w.cell? ⟨b, q, none⟩ = arr[q]? := by
  simp [World.cell?, h]

theorem step_loadP1 {t : TypeId} {x : Operand} {i q : Nat} {E : TypeId} {cells : List AV} {av : AV} (ho : o.op = .load t x) (hx : evalS S x = .p i q) (hm : S.mem i = some (.box E cells))
    (ht : tyB C.P t = some (false, 1)) (hv : cells[q]? = some av) (hd : dOk C.n o.dst = true) : Step C ops o S ⟨av, [], [i]⟩ := by
  have hmx : x ∈ o.op.operands := by simp [ho, Op.operands]
  refine Step.read hm hd (fun j hj => .inl (AV.mem_idsL (List.mem_of_getElem? hv) hj)) fun β w ok ρ hO hρ _ => ?_
  obtain ⟨b, arr, h1, h2, h3, h4, h5⟩ := hO
  have h := hρ x hmx
  rw [hx] at h
  obtain ⟨b', hb', hq⟩ := h.pD
  rw [h1] at hb'; injection hb' with hb'; injection hb' with hb'; injection hb' with hb'; subst hb'
  obtain ⟨hlt, rfl⟩ := List.getElem?_eq_some_iff.1 hv
  have hc : w.cell? ⟨b, q, none⟩ = some (arr[q]'(by omega)) := by rw [cell_of_block h3]; exact Array.getElem?_eq_getElem _
  exact ⟨_, by simp [execOp, ho, hq, Instr.loadAt, Instr.sureAddr, run_loadVar1 ht hc], (h5 q (by omega) hlt).1⟩
theorem loadP_core {β : Nat → Value} {w : World} {ok : Nat → Prop} {i q n : Nat} {E : TypeId} {cells l : List AV} (hO : ORel C ok β w i (.box E cells)) (hs : sub cells q n = some l) {v : Value} (hv : VRel w ok β v (.p i q))
    {t : TypeId} (ht : tyB C.P t = some (true, n)) : ∃ b vs, v = .pointer (some ⟨b, q, none⟩) ∧ (loadVar t ⟨b, q, none⟩).run C.P w = .ok (.agg vs) w ∧ vs.size = l.length ∧
      ∀ k (h1 : k < vs.size) (h2 : k < l.length), VRel w ok β vs[k] l[k] ∧ vs[k].oneCell' = true := by
  obtain ⟨b, arr, h1, h2, h3, h4, h5⟩ := hO
  obtain ⟨b', hb', hq⟩ := hv.pD
  rw [h1] at hb'; injection hb' with hb'; injection hb' with hb'; injection hb' with hb'; subst hb'
  obtain ⟨hl, hs⟩ := sub_spec hs
  have hin : ∀ k, k < n → q + k < cells.length := fun k hk => by
    have := hs k hk
    rw [List.getElem?_eq_getElem (by omega : k < l.length)] at this
    exact (List.getElem?_eq_some_iff.1 this).1
  refine ⟨b, ((List.range n).map fun k => arr.getD (q + k) undef).toArray, hq, run_loadVarN _ ht (fun k hk => ?_), by simp [hl], fun k k1 k2 => ?_⟩
  · have := hin k hk
    rw [add_plain', cell_of_block h3]
    simp [Array.getD, show q + k < arr.size from by omega]
  · have hk : k < n := by omega
    have := hin k hk
    have e := hs k hk
    rw [List.getElem?_eq_getElem k2, List.getElem?_eq_getElem this] at e
    injection e with e
    have := h5 (q + k) (by omega) this
    rw [e] at this
    simpa [Array.getD, show q + k < arr.size from by omega] using this
theorem step_loadPN {t : TypeId} {x : Operand} {i q n : Nat} {E : TypeId} {cells l : List AV} {ts : List T} (ho : o.op = .load t x) (hx : evalS S x = .p i q) (hm : S.mem i = some (.box E cells))
    (ht : tyB C.P t = some (true, n)) (hs : sub cells q n = some l) (hv : trees l = some ts) (hd : dOk C.n o.dst = true) : Step C ops o S ⟨.t (.agg ts), [], [i]⟩ := by
  have hmx : x ∈ o.op.operands := by simp [ho, Op.operands]
  refine Step.read hm hd (by simp [AV.ids]) fun β w ok ρ hO hρ _ => ?_
  have h := hρ x hmx
  rw [hx] at h
  obtain ⟨b, vs, hq, hr, h1, h2⟩ := loadP_core hO hs h ht
  have := trees_spec hv; subst this
  refine ⟨.agg vs, by simp [execOp, ho, hq, Instr.loadAt, Instr.sureAddr, hr], .t (.agg (by simpa using h1) (fun k hk => (h2 k hk (by omega)).2) fun k k1 k2 => ?_)⟩
  have := (h2 k k1 (by simpa using k2)).1
  simp only [List.getElem_map] at this
  exact this.tD
theorem mem_of_sub {α : Type} {l r : List α} {off n : Nat} (h : sub l off n = some r) {x : α} (hx : x ∈ r) : x ∈ l := by
  obtain ⟨h1, h2⟩ := sub_spec h
  obtain ⟨k, hk, rfl⟩ := List.getElem_of_mem hx
  have := h2 k (by omega)
  rw [List.getElem?_eq_getElem hk] at this
  exact List.mem_of_getElem? this
theorem step_loadPA {t : TypeId} {x : Operand} {i q n : Nat} {E : TypeId} {cells l : List AV} (ho : o.op = .load t x) (hx : evalS S x = .p i q) (hm : S.mem i = some (.box E cells))
    (ht : tyB C.P t = some (true, n)) (hs : sub cells q n = some l) (hd : dOk C.n o.dst = true) : Step C ops o S ⟨.agg l, [], [i]⟩ := by
  have hmx : x ∈ o.op.operands := by simp [ho, Op.operands]
  refine Step.read hm hd (fun j hj => .inl ?_) fun β w ok ρ hO hρ _ => ?_
  · obtain ⟨y, hy, hjy⟩ := AV.of_mem_idsL hj
    exact AV.mem_idsL (mem_of_sub hs hy) hjy
  have h := hρ x hmx
  rw [hx] at h
  obtain ⟨b, vs, hq, hr, h1, h2⟩ := loadP_core hO hs h ht
  exact ⟨.agg vs, by simp [execOp, ho, hq, Instr.loadAt, Instr.sureAddr, hr], .agg h1 (fun k hk => (h2 k hk (by omega)).2) fun k k1 k2 => (h2 k k1 k2).1⟩
/-- Loads from memory that nobody writes. -/
theorem step_loadT1 {t : TypeId} {x : Operand} {l : List T} {v : T} (ho : o.op = .load t x) (hx : evalS S x = .t (.ptr l)) (ht : tyB C.P t = some (false, 1)) (hv : l[0]? = some v) (hd : dOk C.n o.dst = true) :
    Step C ops o S ⟨.t v, [], []⟩ := by
  have hmx : x ∈ o.op.operands := by simp [ho, Op.operands]
  refine Step.pure hd (by simp [AV.ids]) fun β w ok ρ hρ _ _ => ?_
  have h := hρ x hmx
  rw [hx] at h
  have h := h.tD
  obtain ⟨a, hq⟩ := h.ptrD
  rw [hq] at h
  cases h with
  | ptr f hok ha h =>
    obtain ⟨h0, rfl⟩ := List.getElem?_eq_some_iff.1 hv
    have hc := (ha 0 h0).1
    have he : a.add 0 = a := by simp [Addr.add]
    rw [he] at hc
    exact ⟨_, by simp [execOp, ho, hq, Instr.loadAt, Instr.sureAddr, run_loadVar1 ht hc], .t (h 0 h0)⟩
theorem step_loadTN {t : TypeId} {x : Operand} {l r : List T} {n : Nat} (ho : o.op = .load t x) (hx : evalS S x = .t (.ptr l)) (ht : tyB C.P t = some (true, n)) (hs : sub l 0 n = some r) (hd : dOk C.n o.dst = true) :
    Step C ops o S ⟨.t (.agg r), [], []⟩ := by
  have hmx : x ∈ o.op.operands := by simp [ho, Op.operands]
  refine Step.pure hd (by simp [AV.ids]) fun β w ok ρ hρ _ _ => ?_
  have h := hρ x hmx
  rw [hx] at h
  have h := h.tD
  obtain ⟨a, hq⟩ := h.ptrD
  rw [hq] at h
  obtain ⟨hl, hs⟩ := sub_spec hs
  cases h with
  | ptr f hok ha h =>
    have hin : ∀ k, k < n → k < l.length := fun k hk => by
      have := hs k hk
      rw [List.getElem?_eq_getElem (by omega : k < r.length)] at this
      have := (List.getElem?_eq_some_iff.1 this).1
      omega
    refine ⟨.agg ((List.range n).map f).toArray, by simp [execOp, ho, hq, Instr.loadAt, Instr.sureAddr, run_loadVarN f ht (fun k hk => (ha k (hin k hk)).1)], .t (.agg (by simp [hl]) (fun k hk => ?_) fun k k1 k2 => ?_)⟩
    · have hk' : k < n := by simpa using hk
      simpa using (ha k (hin k hk')).2
    · have hk' : k < n := by simpa using k1
      have e := hs k hk'
      rw [List.getElem?_eq_getElem k2, Nat.zero_add, List.getElem?_eq_getElem (hin k hk')] at e
      injection e with e
      have := h k (hin k hk')
      rw [e] at this
      simpa using this

/-! ### Stores into variables -/
def setE {α : Type} : List α → Nat → α → Option (List α)
  | [], _, _ => none
  | _ :: ys, 0, x => some (x :: ys)
  | y :: ys, n + 1, x => match setE ys n x with
    | some r => some (y :: r)
    | none => none
def setSub {α : Type} (l : List α) (off : Nat) : List α → Option (List α)
  | [] => some l
  | x :: xs => match setE l off x with
    | some l' => setSub l' (off + 1) xs
    | none => none
theorem setE_spec {α : Type} : ∀ {l : List α} {n : Nat} {x : α} {r : List α}, setE l n x = some r → n < l.length ∧ r = l.set n x
  | [], n, x, r, h => by cases n <;> simp [setE] at h
  | y :: ys, 0, x, r, h => by simp [setE] at h; subst h; simp
  | y :: ys, n + 1, x, r, h => by
    simp only [setE] at h
    split at h
    · rename_i r' hr
      injection h with h; subst h
      obtain ⟨h1, rfl⟩ := setE_spec hr
      exact ⟨by simp; omega, rfl⟩
    · cases h
/-- An array related to a list of abstract cells. -/
def ARel (w : World) (ok : Nat → Prop) (β : Nat → Value) (arr : Array Value) (l : List AV) : Prop :=
  arr.size = l.length ∧ ∀ k (h1 : k < arr.size) (h2 : k < l.length), VRel w ok β arr[k] l[k] ∧ arr[k].oneCell' = true
theorem ARel.set {w : World} {ok : Nat → Prop} {β : Nat → Value} {arr : Array Value} {l : List AV} (h : ARel w ok β arr l) {q : Nat} {v : Value} {x : AV} (hv : VRel w ok β v x) (ho : v.oneCell' = true) :
    ARel w ok β (arr.setIfInBounds q v) (l.set q x) := by
  refine ⟨by simp [h.1], fun k h1 h2 => ?_⟩
  by_cases hk : q = k
  · subst hk; simp; exact ⟨hv, ho⟩
  · have := h.2 k (by simpa using h1) (by simpa using h2)
    rw [Array.getElem_setIfInBounds_ne (by simpa using h1) hk, List.getElem_set_ne hk]
    exact this

def setArr (arr : Array Value) (q : Nat) : List Value → Array Value
  | [] => arr
  | v :: r => setArr (arr.setIfInBounds q v) (q + 1) r
theorem setArr_size (vs : List Value) : ∀ (arr : Array Value) (q : Nat), (setArr arr q vs).size = arr.size := by
  induction vs with
  | nil => intro arr q; rfl
  | cons v r ih => intro arr q; simp [setArr, ih]
theorem ARel.setSub {w : World} {ok : Nat → Prop} {β : Nat → Value} : ∀ {vs : List Value} {xs : List AV} {arr : Array Value} {l l' : List AV} {q : Nat}, ARel w ok β arr l → vs.length = xs.length →
    (∀ k (h1 : k < vs.length) (h2 : k < xs.length), VRel w ok β vs[k] xs[k] ∧ vs[k].oneCell' = true) → Abs.setSub l q xs = some l' → ARel w ok β (setArr arr q vs) l' ∧ (vs = [] ∨ q + vs.length ≤ arr.size)
  | [], [], arr, l, l', q, h, _, _, hs => by injection hs with hs; subst hs; exact ⟨h, .inl rfl⟩
  | v :: vs, x :: xs, arr, l, l', q, h, hl, hv, hs => by
    simp only [Abs.setSub] at hs
    split at hs
    · rename_i l1 h1
      obtain ⟨hlt, rfl⟩ := setE_spec h1
      have h0 := hv 0 (by simp) (by simp)
      have := ARel.setSub (q := q + 1) (h.set (q := q) h0.1 h0.2) (by simpa using hl) (fun k k1 k2 => by have := hv (k + 1) (by simpa using k1) (by simpa using k2); simpa using this) hs
      refine ⟨this.1, .inr ?_⟩
      rcases this.2 with h2 | h2
      · subst h2; have := h.1; simp; omega
      · simp at h2 ⊢; omega
    · cases hs
  | [], _ :: _, _, _, _, _, _, hl, _, _ => by cases hl
  | _ :: _, [], _, _, _, _, _, hl, _, _ => by cases hl

def setBlk (w : World) (b : Nat) (arr : Array Value) (E : TypeId) : World := { w with heap := w.heap.setIfInBounds b (.cells arr E (0, 0)) }
theorem setCell_setBlk {w : World} {b q : Nat} {arr : Array Value} {E : TypeId} {v : Value} (h : w.heap[b]? = some (.cells arr E (0, 0))) :
    w.setCell ⟨b, q, none⟩ v = setBlk w b (arr.setIfInBounds q v) E := by
  unfold World.setCell setBlk
  congr 1
  apply Array.ext_getElem?
  intro k
  rw [Array.getElem?_modify]
  by_cases hk : b = k
  · subst hk
    obtain ⟨hlt, he⟩ := Array.getElem?_eq_some_iff.1 h
    simp [he, hlt]
  · simp [hk, Array.getElem?_setIfInBounds_ne]
theorem setBlk_setBlk {w : World} {b : Nat} {arr arr' : Array Value} {E : TypeId} : setBlk (setBlk w b arr E) b arr' E = setBlk w b arr' E := by
  unfold setBlk; congr 1; apply Array.ext_getElem?; intro k
  by_cases hk : b = k
  · subst hk; by_cases h : b < w.heap.size <;> simp [h]
  · simp [hk, Array.getElem?_setIfInBounds_ne]
theorem setBlk_at {w : World} {b : Nat} {arr arr' : Array Value} {E : TypeId} {fr : Nat × Nat} (h : w.heap[b]? = some (.cells arr E fr)) : (setBlk w b arr' E).heap[b]? = some (.cells arr' E (0, 0)) := by
  have hlt := (Array.getElem?_eq_some_iff.1 h).1
  simp [setBlk, hlt]
theorem setBlk_other {w : World} {b k : Nat} {arr' : Array Value} {E : TypeId} (h : k ≠ b) : (setBlk w b arr' E).heap[k]? = w.heap[k]? := by
  simp [setBlk, Array.getElem?_setIfInBounds_ne (Ne.symm h)]
theorem setBlk_self {w : World} {b : Nat} {arr : Array Value} {E : TypeId} (h : w.heap[b]? = some (.cells arr E (0, 0))) : setBlk w b arr E = w := by
  unfold setBlk
  have : w.heap.setIfInBounds b (.cells arr E (0, 0)) = w.heap := by
    apply Array.ext_getElem?; intro k
    by_cases hk : b = k
    · subst hk; have hlt := (Array.getElem?_eq_some_iff.1 h).1; simp [hlt] at h ⊢; exact h.symm
    · simp [hk, Array.getElem?_setIfInBounds_ne]
  rw [this]
theorem run_storeCells_blk {P : Program} {E : TypeId} {b : Nat} : ∀ (vs : List Value) (w : World) (arr : Array Value) (q i : Nat), w.heap[b]? = some (.cells arr E (0, 0)) → (vs = [] ∨ q + i + vs.length ≤ arr.size) →
    (∀ v ∈ vs, v.oneCell' = true) → (storeCells ⟨b, q, none⟩ vs i).run P w = .ok () (setBlk w b (setArr arr (q + i) vs) E)
  | [], w, arr, q, i, h, _, _ => by simp [storeCells, setArr, setBlk_self h]
  | v :: r, w, arr, q, i, h, hle, h1 => by
    have hle' : q + i + (r.length + 1) ≤ arr.size := by rcases hle with h' | h'; cases h'; simpa using h'
    have hc : w.cell? ⟨b, q + i, none⟩ = some (arr[q + i]'(by omega)) := by rw [cell_of_block h]; exact Array.getElem?_eq_getElem _
    have hf : w.frozen? ⟨b, q + i, none⟩ = false := by simp [World.frozen?, h]
    have hr := run_storeCells_blk (P := P) (E := E) (b := b) r (setBlk w b (arr.setIfInBounds (q + i) v) E) (arr.setIfInBounds (q + i) v) q (i + 1) (setBlk_at h) (by right; simp; omega) (fun u hu => h1 u (by simp [hu]))
    simp only [storeCells, add_plain', Sem.run_bind, run_store P w _ v .plain (h1 v (by simp)), hc, hf, Bool.false_eq_true, if_false, Result.andThen_ok, setCell_setBlk h, hr, setBlk_setBlk, setArr]
    rw [show q + i + 1 = q + (i + 1) from by omega]

theorem Oper.wp_skip {P : Program} {o : Oper} {a : Act} {w w' : World} {K : Act → World → Prop} {Q : Exit → Act → World → Prop}
    (hr : (execOp a.eval o).run P w = .ok .skip w') (hK : K (a.put o.dst undef) w') : o.wp P a w K Q := by
  unfold Oper.wp; rw [hr]; exact hK

/-- An object is changed in place, its value the same. -/
theorem SatB.inplace {β : Nat → Value} {a : Act} {w w' : World} (h : SatB C β S a w) (i : Nat) (ob ob' : AObj) (hm : S.mem i = some ob) (hbox : ∀ E cells, ob = .box E cells → ∃ E' cells', ob' = .box E' cells') (hbel : Below C.w0.heap.size C.w0 w')
    (hsz : w'.heap.size = w.heap.size) (hheap : ∀ b, blk (β i) ≠ some b → w'.heap[b]? = w.heap[b]?) (hids : ∀ j ∈ ob'.ids, S.used j = true)
    (hO : ∀ ok', (∀ b, okS C S β w b → ok' b ∧ blk (β i) ≠ some b) → ORel C ok' β w' i ob') : SatB C β (modS [(i, some ob')] S) a w' := by
  have hm' : ∀ j, (modS [(i, some ob')] S).mem j = (if j = i then some ob' else S.mem j) := fun j => modS_one.1
  have hus : ∀ j, (modS [(i, some ob')] S).used j = (S.used j || decide (j = i)) := fun j => modS_one.2
  have howned : ∀ b, owned (modS [(i, some ob')] S) β b ↔ owned S β b := by
    intro b
    constructor
    · rintro ⟨j, q, hj, hbl⟩
      rw [hm'] at hj
      split at hj
      · rename_i e; subst e; exact ⟨j, ob, hm, hbl⟩
      · exact ⟨j, q, hj, hbl⟩
    · rintro ⟨j, q, hj, hbl⟩
      by_cases e : j = i
      · subst e; exact ⟨j, ob', by rw [hm']; simp, hbl⟩
      · exact ⟨j, q, by rw [hm']; simp [e, hj], hbl⟩
  have hnb : ∀ b, okS C S β w b → blk (β i) ≠ some b := fun b hb he => hb.2.2 ⟨i, ob, hm, he⟩
  have hh : ∀ b, okS C S β w b → w'.heap[b]? = w.heap[b]? := fun b hb => hheap b (hnb b hb)
  have hok : ∀ b, okS C S β w b → okS C (modS [(i, some ob')] S) β w' b := fun b hb => ⟨hb.1, by rw [hsz]; exact hb.2.1, fun ho => hb.2.2 ((howned b).1 ho)⟩
  refine h.change hbel hh hok (fun _ _ => rfl) rfl (fun j hj => by rw [hus, hj]; rfl) (fun j q hj => ?_) (fun j k q q' hj hk hne b hbj hbk => ?_) (fun j q hj => ?_)
    (fun b x hx => ⟨(hheap b fun he => (h.keep b x hx).2 ⟨i, ob, hm, he⟩).trans (h.keep b x hx).1, fun ho => (h.keep b x hx).2 ((howned b).1 ho)⟩)
    (fun p hp => by
      obtain ⟨g1, E, cells, g2⟩ := h.anc p hp
      refine ⟨g1, ?_⟩
      rw [hm']
      split
      · rename_i e; rw [e, hm] at g2; injection g2 with g2; obtain ⟨E', c', g3⟩ := hbox _ _ g2; exact ⟨E', c', by rw [g3]⟩
      · exact ⟨E, cells, g2⟩)
  · rw [hm'] at hj
    split at hj
    · rename_i e; subst e; injection hj with hj; subst hj
      exact hO _ fun b hb => ⟨hok b hb, hnb b hb⟩
    · rename_i hne
      exact (h.mem j q hj).mono (fun b hbl => hheap b fun he => h.apart j i q ob hj hm hne b hbl he) hh hok rfl (fun _ _ => rfl)
  · have hj' : ∃ q, S.mem j = some q := by rw [hm'] at hj; split at hj; · rename_i e; subst e; exact ⟨_, hm⟩
                                           · exact ⟨_, hj⟩
    have hk' : ∃ q, S.mem k = some q := by rw [hm'] at hk; split at hk; · rename_i e; subst e; exact ⟨_, hm⟩
                                           · exact ⟨_, hk⟩
    obtain ⟨q1, hq1⟩ := hj'
    obtain ⟨q2, hq2⟩ := hk'
    exact h.apart j k q1 q2 hq1 hq2 hne b hbj hbk
  · rw [hm'] at hj
    split at hj
    · rename_i e; subst e; injection hj with hj; subst hj
      exact ⟨by rw [hus]; simp, fun x hx => by rw [hus, hids x hx]; rfl⟩
    · obtain ⟨h1, h2⟩ := h.wfm j q hj
      exact ⟨by rw [hus, h1]; rfl, fun x hx => by rw [hus, h2 x hx]; rfl⟩

theorem run_storeVar {P : Program} {w w' : World} {t : TypeId} {a : Addr} {v : Value} {b : Bool} {n : Nat} (ht : tyB P t = some (b, n)) (hn : v.cells.size = n) (hs : (storeCells a v.cells.toList).run P w = .ok () w') :
    (storeVar t a v).run P w = .ok () w' := by
  simp [storeVar, run_sizeOf' ht, hn, hs]

theorem ids_setSub {l : List AV} : ∀ {xs l' : List AV} {q : Nat} {l : List AV}, Abs.setSub l q xs = some l' → ∀ j ∈ AV.idsL l', j ∈ AV.idsL l ∨ j ∈ AV.idsL xs
  | [], l', q, l, h, j, hj => by injection h with h; subst h; exact .inl hj
  | x :: xs, l', q, l, h, j, hj => by
    simp only [Abs.setSub] at h
    split at h
    · rename_i l1 h1
      obtain ⟨hlt, rfl⟩ := setE_spec h1
      rcases ids_setSub (l := l) h j hj with h2 | h2
      · obtain ⟨y, hy, hjy⟩ := AV.of_mem_idsL h2
        rcases List.mem_or_eq_of_mem_set hy with hy | rfl
        · exact .inl (AV.mem_idsL hy hjy)
        · exact .inr (by simp [AV.idsL, hjy])
      · exact .inr (by simp [AV.idsL, h2])
    · cases h
theorem ids_avCells {x : AV} {l : List AV} (h : avCells x = some l) : ∀ j ∈ AV.idsL l, j ∈ x.ids := by
  intro j hj
  cases x with
  | junk => cases h
  | ub => cases h
  | t y => injection h with h; subst h; obtain ⟨z, hz, hjz⟩ := AV.of_mem_idsL hj; obtain ⟨u, _, rfl⟩ := List.mem_map.1 hz; simp [AV.ids] at hjz
  | h i => injection h with h; subst h; simpa [AV.idsL, AV.ids] using hj
  | p i q => injection h with h; subst h; simpa [AV.idsL, AV.ids] using hj
  | e i q => injection h with h; subst h; simpa [AV.idsL, AV.ids] using hj
  | s i z q n c => injection h with h; subst h; simpa [AV.idsL, AV.ids] using hj
  | agg l' => injection h with h; subst h; exact hj
  | tup l' => cases h

def avLook : AV → List Nat
  | .h j => [j]
  | _ => []
/-- A store: 'n' cells from cell q on of a variable in memory. A handle may be stored, too. -/
theorem step_storeP {t : TypeId} {x y : Operand} {i q n : Nat} {bb : Bool} {E : TypeId} {cells l cells' : List AV} {av : AV} (ho : o.op = .store t x y) (hx : evalS S x = .p i q) (hm : S.mem i = some (.box E cells))
    (hy : evalS S y = av) (hl : avCells av = some l) (hone : oneOk av = true ∨ ∃ j E' sz r, av = .h j ∧ S.mem j = some (.row E' sz r)) (ht : tyB C.P t = some (bb, n)) (hn : l.length = n) (hs : setSub cells q l = some cells') (hd : o.dst = none) :
    Step C ops o S ⟨.junk, [(i, some (.box E cells'))], avLook av⟩ := by
  subst hy
  have hmx : x ∈ o.op.operands := by simp [ho, Op.operands]
  have hmy : y ∈ o.op.operands := by simp [ho, Op.operands]
  intro S₁ hsl hmm a w hsat
  obtain ⟨β, hb⟩ := hsat
  have hmi : S₁.mem i = some (.box E cells) := (hmm i (.inr (by simp [hasKey, Nat.beq_refl]))).1.trans hm
  have hvx := hb.eval x
  have hvy := hb.eval y
  rw [agree_eval hsl hmx, hx] at hvx
  rw [agree_eval hsl hmy] at hvy
  obtain ⟨b, h1, h2⟩ := hvx.pD
  have hO := hb.mem i _ hmi
  obtain ⟨b', arr, g1, g2, g3, g4, g5⟩ := hO
  rw [h1] at g1; injection g1 with g1; injection g1 with g1; injection g1 with g1; subst g1
  have honeR : OneR β (evalS S y) := by
    rcases hone with h | ⟨j, E', sz, r, he, hj⟩
    · exact oneOk_spec h
    · rw [he]
      have hj1 : S₁.mem j = some (.row E' sz r) := (hmm j (.inl (by rw [he]; simp [avLook]))).1.trans hj
      obtain ⟨cs, k1, _⟩ := hb.mem j _ hj1
      rcases k1.2 with ⟨k2, _⟩ | ⟨_, _, _, k2, _⟩ <;> simp only [OneR] <;> rw [k2] <;> rfl
  obtain ⟨c1, c2⟩ := hvy.cells hl honeR
  have hA : ARel w (okS C S₁ β w) β arr cells := ⟨g4, g5⟩
  obtain ⟨hA', hle⟩ := hA.setSub (vs := (a.eval y).cells.toList) (by simpa using c1) (fun k k1 k2 => by simpa using c2 k (by simpa using k1) k2) hs
  have hrun := run_storeCells_blk (P := C.P) (E := E) (b := b) (a.eval y).cells.toList w arr q 0 g3 (by simpa using hle) (fun v hv => by
    obtain ⟨k, hk, rfl⟩ := List.getElem_of_mem hv
    have hk' : k < (a.eval y).cells.size := by simpa using hk
    simpa using (c2 k hk' (by omega)).2)
  have hr : (execOp a.eval o).run C.P w = .ok .skip (setBlk w b (setArr arr (q + 0) (a.eval y).cells.toList) E) := by
    simp [execOp, ho, h2, Instr.storeAt, Instr.sureAddr, run_storeVar ht (by omega) hrun]
  refine Oper.wp_skip hr ?_
  rw [ap_modS, hd]
  have hbel : Below C.w0.heap.size C.w0 (setBlk w b (setArr arr (q + 0) (a.eval y).cells.toList) E) :=
    hb.below.trans ⟨rfl, rfl, rfl, by simp [setBlk], fun k hk => setBlk_other (by omega)⟩
  have hfin := hb.inplace i _ (.box E cells') hmi (fun _ _ _ => ⟨_, _, rfl⟩) hbel (by simp [setBlk]) (fun k hk => setBlk_other (fun e => hk (by rw [h1, e]; rfl)))
    (fun j hj => by
      rcases ids_setSub (l := cells) hs j hj with h | h
      · exact (hb.wfm i _ hmi).2 j h
      · have hjy := ids_avCells hl j h
        rw [← agree_eval hsl hmy] at hjy
        cases y with
        | tmp t => exact hb.wfs t j hjy
        | _ => simp [evalS, AV.ids] at hjy)
    (fun ok' hok => ⟨b, _, h1, g2, setBlk_at g3, hA'.1, fun k k1 k2 => ⟨(hA'.2 k k1 k2).1.mono (fun b2 hb2 => setBlk_other (fun e => (hok b2 hb2).2 (by rw [h1, e]; rfl))) (fun b2 hb2 => (hok b2 hb2).1) (fun _ _ => rfl), (hA'.2 k k1 k2).2⟩⟩)
  refine ⟨β, ?_⟩
  have := hfin.put none undef .junk (fun _ h => by cases h) (fun _ h => by cases h) (by simp [AV.ids])
  exact this

end Go.Proofs.Ytnemmdbafngppaa.Abs
