/- Abstract symbolic execution, part 10: rows of the call's own, append, calls by contract. No condition. -/
import Derived.Test.YtnemmdbafngppaaAbs9
set_option linter.unusedVariables false
set_option linter.unusedSimpArgs false
namespace Go.Proofs.Ytnemmdbafngppaa.Abs
open Go.RowKit
variable {C : Ctx} {ops : Array Oper} {o : Oper} {S : AState}

/-- The frame for an operation that makes memory which nobody writes any more: its value is a tree. -/
theorem Step.newT {x : T} (hd : dOk C.n o.dst = true)
    (h : ∀ (β : Nat → Value) (w : World) (ok : Nat → Prop) (ρ : Operand → Value), C.w0.heap.size ≤ w.heap.size → (∀ b, ok b → b < w.heap.size) → (∀ x ∈ o.op.operands, VRel w ok β (ρ x) (evalS S x)) → (∀ v, ρ (.const v) = v) →
      ∃ v w', (execOp ρ o).run C.P w = .ok (.value v) w' ∧ Below w.heap.size w w' ∧ Reads w' (fun b => ok b ∨ (w.heap.size ≤ b ∧ b < w'.heap.size)) v x) :
    Step C ops o S ⟨.t x, [], []⟩ := by
  intro S₁ hs hm a w hsat
  obtain ⟨β, hb⟩ := hsat
  obtain ⟨v, w', hr, hbel, hv⟩ := h β w (okS C S₁ β w) a.eval hb.below.size (fun b hb' => hb'.2.1) (fun x hx => by rw [← agree_eval hs hx]; exact hb.eval x) (fun _ => rfl)
  refine Oper.wp_value hr ?_
  rw [ap_pure]
  have hg := hb.grow hbel
  refine ⟨β, hg.put o.dst v (.t x) (fun _ _ _ => .t (hv.mono (fun _ _ => rfl) fun b hb' => ?_)) (fun x hx => .inl ?_) (by simp [AV.ids])⟩
  · rcases hb' with hb' | ⟨h1, h2⟩
    · exact ⟨hb'.1, Nat.lt_of_lt_of_le hb'.2.1 hbel.size, hb'.2.2⟩
    · exact hb.fresh_ok h1 h2
  · rw [hx] at hd; simpa [dOk] using hd

theorem le_maxLen_of_cells {len sz : Nat} (hsz : 0 < sz) (h : len * sz ≤ 16777216) : len ≤ maxLen := by
  have : len ≤ len * sz := Nat.le_mul_of_pos_right _ hsz
  unfold maxLen; omega
/-- A slice literal that is only read from then on. -/
theorem step_buildSliceT {t e sz bytes len : Nat} {parts : Array (Nat × Operand)} {zs : List Value} {cells : List AV} {ts l : List T} (ho : o.op = .buildSlice t len parts) (ht : slB C.P t = some (e, sz, bytes)) (hz : zeroB C.P e = some zs) (hzl : zs.length = sz) (hsz : Nat.blt 0 sz = true)
    (h1 : zs.all Value.oneCell' = true) (hbig : Nat.ble (len * sz) 16777216 = true) (hone : onesP (evalP S parts.toList) = true) (hf : fillA (fun i => some (i * sz, sz)) (zinit zs (len * sz)) (evalP S parts.toList) = some cells)
    (hts : trees cells = some ts) (hel : trees ((evalP S parts.toList).map Prod.snd) = some l) (hl : l.flatMap T.cells = ts) (hlen : l.length = len) (hls : (l.all fun x => Nat.beq x.cells.length sz) = true) (hd : dOk C.n o.dst = true) :
    Step C ops o S ⟨.t (.slice sz l), [], []⟩ := by
  refine Step.newT hd fun β w ok ρ hw0 hokl hρ _ => ?_
  obtain ⟨arr, hr, hA⟩ := buildSlice_core ho ht hz hzl hsz h1 hbig hone hf hρ
  have hzz := allLen hls
  obtain ⟨r1, r2⟩ := hA.row hts hl hzz
  have hpos : 0 < sz := by simpa [Nat.blt_eq] using hsz
  refine ⟨_, _, hr, below_alloc' _ _, ?_⟩
  subst hlen
  refine .slice (fun k => arr.getD k undef) (Nat.le_refl _) (le_maxLen_of_cells hpos (Nat.le_of_ble_eq_true hbig)) hzz (fun hp => ?_) (fun i hi j hj => ?_)
  · refine ⟨_, rfl, .inr ⟨Nat.le_refl _, by simp⟩, fun k hk => ?_⟩
    rw [add_plain', cell_of_block (heap_alloc_at w _)]
    have hk' : k < arr.size := by omega
    refine ⟨by simp [Array.getD, hk'], ?_⟩
    have := (hA.2 k hk' (by have := hA.1; omega)).2
    simpa [Array.getD, hk'] using this
  · obtain ⟨v, e1, e2, _⟩ := r2 i hi j hj
    have hlt := (List.getElem?_eq_some_iff.1 e1).1
    have hlt' : i * sz + j < arr.size := by simpa using hlt
    have : arr.getD (i * sz + j) undef = v := by
      rw [List.getElem?_eq_getElem hlt] at e1
      injection e1 with e1
      simp only [Array.getElem_toList] at e1
      simp [Array.getD, hlt', e1]
    simp only [this]
    exact e2.mono (fun b hb => (below_alloc' w _).block b (hokl b hb)) fun b hb => .inl hb
/-- A slice literal that the call goes on to write or to append to. -/
theorem step_buildSliceH {t e sz bytes len d : Nat} {parts : Array (Nat × Operand)} {zs : List Value} {cells : List AV} {ts l : List T} (ho : o.op = .buildSlice t len parts) (hdst : o.dst = some d) (ht : slB C.P t = some (e, sz, bytes)) (hz : zeroB C.P e = some zs) (hzl : zs.length = sz) (hsz : Nat.blt 0 sz = true)
    (h1 : zs.all Value.oneCell' = true) (hbig : Nat.ble (len * sz) 16777216 = true) (hone : onesP (evalP S parts.toList) = true) (hf : fillA (fun i => some (i * sz, sz)) (zinit zs (len * sz)) (evalP S parts.toList) = some cells)
    (hts : trees cells = some ts) (hel : trees ((evalP S parts.toList).map Prod.snd) = some l) (hl : l.flatMap T.cells = ts) (hlen : l.length = len) (hls : (l.all fun x => Nat.beq x.cells.length sz) = true) (hu : S.used d = false) (hd : dOk C.n o.dst = true) :
    Step C ops o S ⟨.h d, [(d, some (.row e sz l))], []⟩ := by
  refine Step.new hd hu (by simp [AObj.ids]) (by simp [AV.ids]) fun β w ok ρ hw0 hokl hρ _ => ?_
  obtain ⟨arr, hr, hA⟩ := buildSlice_core ho ht hz hzl hsz h1 hbig hone hf hρ
  have hzz := allLen hls
  obtain ⟨r1, r2⟩ := hA.row hts hl hzz
  have hpos : 0 < sz := by simpa [Nat.blt_eq] using hsz
  refine ⟨_, .slice (some ⟨w.heap.size, 0, none⟩) len len, _, hr, below_alloc' _ _, fun b hb => by simp [blk] at hb; omega, fun ok' β' h1' h2' h3' h4' => ⟨?_, ?_⟩⟩
  · subst hlen
    refine ⟨arr.toList, ?_, hzz, fun k hk j hj => ?_⟩
    · rw [h3']
      exact World.ownsRow_lit w arr l.length hw0 (le_maxLen_of_cells hpos (Nat.le_of_ble_eq_true hbig)) r1
    · obtain ⟨v, e1, e2, e3⟩ := r2 k hk j hj
      exact ⟨v, e1, e2.mono (fun b hb => (below_alloc' w _).block b (hokl b hb)) h1', e3⟩
  · rw [← h3']; exact .h d

/-! ### Rows: length, elements -/
theorem step_lenH {t : TypeId} {x : Operand} {i E sz sz' bytes : Nat} {l : List T} (ho : o.op = .call { callee := .builtin .len, args := #[x], argTypes := #[t] }) (hx : evalS S x = .h i) (hm : S.mem i = some (.row E sz l))
    (ht : slB C.P t = some (E, sz', bytes)) (hd : dOk C.n o.dst = true) : Step C ops o S ⟨.t (.v (.int .i64 l.length)), [], [i]⟩ := by
  have hmx : x ∈ o.op.operands := by simp [ho, Op.operands, Call.operands]
  refine Step.read hm hd (by simp [AV.ids]) fun β w ok ρ hO hρ _ => ⟨_, ?_, .t (.v _)⟩
  obtain ⟨hu, _⟩ := slB_spec ht
  have h := hρ x hmx
  rw [hx] at h
  have h := h.hD
  obtain ⟨cells, h1, _⟩ := hO
  obtain ⟨a, cap, hq⟩ : ∃ a cap, ρ x = .slice a l.length cap := by
    rw [h]
    rcases h1.2 with ⟨h2, h3⟩ | ⟨g, cap, cur, h2, _⟩
    · exact ⟨none, 0, by rw [h2, h3]⟩
    · exact ⟨_, cap, h2⟩
  simp [execOp, ho, resolve, invoke, builtin, Builtin.len_, run_underlying hu, hq, goInt]
theorem step_indexAddrH {t : TypeId} {x ix : Operand} {i E sz bytes : Nat} {l : List T} {k : IntKind} {n : Int} (ho : o.op = .indexAddr t x ix) (hx : evalS S x = .h i) (hm : S.mem i = some (.row E sz l))
    (hi : evalS S ix = .t (.v (.int k n))) (ht : slB C.P t = some (E, sz, bytes)) (h0 : 0 ≤ n) (h1 : n < l.length) (hd : dOk C.n o.dst = true) :
    Step C ops o S ⟨.e i (n.toNat * sz), [], [i]⟩ := by
  have hmx : x ∈ o.op.operands := by simp [ho, Op.operands]
  have hmi : ix ∈ o.op.operands := by simp [ho, Op.operands]
  refine Step.read hm hd (fun j hj => .inr ⟨x, hmx, by rw [hx]; exact hj⟩) fun β w ok ρ hO hρ _ => ?_
  obtain ⟨hu, inf, hinf, hsz, _⟩ := slB_spec ht
  have e2 : ρ ix = .int k n := by have := hρ ix hmi; rw [hi] at this; exact this.toV
  have h := hρ x hmx
  rw [hx] at h
  have h := h.hD
  obtain ⟨cells, h2, _⟩ := hO
  rcases h2.2 with ⟨h3, h4⟩ | ⟨g, cap, cur, h3, _⟩
  · omega
  · have hq : ρ x = .slice (some ⟨g, 0, none⟩) l.length cap := by rw [h, h3]
    exact ⟨_, by simp [execOp, ho, hq, e2, Instr.indexAt, asIntOf, run_underlying hu, sizeOf, typeInfo, hinf, hsz, h0, h1, add_plain'], .e h3⟩
theorem row_cell {β : Nat → Value} {w : World} {ok : Nat → Prop} {i E sz : Nat} {l : List T} (hO : ORel C ok β w i (.row E sz l)) {v : Value} {off : Nat} (hv : VRel w ok β v (.e i off)) :
    ∃ g cells, v = .pointer (some ⟨g, off, none⟩) ∧ β i = .slice (some ⟨g, 0, none⟩) l.length (match β i with | .slice _ _ c => c | _ => 0) ∧ cells.length = l.length * sz ∧ w.ownsRow C.w0.heap.size E sz (β i) l.length cells ∧
      (∀ k (h : k < l.length), l[k].cells.length = sz) ∧
      ∀ k (h : k < l.length) j (hj : j < l[k].cells.length), ∃ u, w.cell? ⟨g, k * sz + j, none⟩ = some u ∧ cells[k * sz + j]? = some u ∧ Reads w ok u l[k].cells[j] ∧ u.oneCell' = true := by
  obtain ⟨cells, h1, h2, h3⟩ := hO
  obtain ⟨b, n, c, h4, h5⟩ := hv.eD
  rcases h1.2 with ⟨h6, _⟩ | ⟨g, cap, cur, h6, hrest⟩
  · rw [h6] at h4; cases h4
  · have hbg : b = g := by rw [h6] at h4; injection h4 with h4; injection h4 with h4; injection h4 with h4; exact h4.symm
    subst hbg
    refine ⟨b, cells, h5, by rw [h6], h1.1, h1, h2, fun k hk j hj => ?_⟩
    obtain ⟨u, e1, e2, e3⟩ := h3 k hk j hj
    refine ⟨u, ?_, e1, e2, e3⟩
    have h1' := h1
    rw [h6] at h1'
    have := h1'.cellAt (k * sz + j) (by have := (List.getElem?_eq_some_iff.1 e1).1; rw [h1.1] at this; exact this)
    rw [this, e1]
theorem step_loadE1 {t : TypeId} {x : Operand} {i E sz off k j : Nat} {l : List T} {v c : T} (ho : o.op = .load t x) (hx : evalS S x = .e i off) (hm : S.mem i = some (.row E sz l)) (hoff : off = k * sz + j)
    (ht : tyB C.P t = some (false, 1)) (hv : l[k]? = some v) (hc : v.cells[j]? = some c) (hd : dOk C.n o.dst = true) : Step C ops o S ⟨.t c, [], [i]⟩ := by
  have hmx : x ∈ o.op.operands := by simp [ho, Op.operands]
  refine Step.read hm hd (by simp [AV.ids]) fun β w ok ρ hO hρ _ => ?_
  have h := hρ x hmx
  rw [hx] at h
  obtain ⟨g, cells, h1, h2, h3, h4, h5, h6⟩ := row_cell hO h
  obtain ⟨hk, rfl⟩ := List.getElem?_eq_some_iff.1 hv
  obtain ⟨hj, rfl⟩ := List.getElem?_eq_some_iff.1 hc
  obtain ⟨u, e1, e2, e3, e4⟩ := h6 k hk j hj
  subst hoff
  exact ⟨u, by simp [execOp, ho, h1, Instr.loadAt, Instr.sureAddr, run_loadVar1 ht e1], .t e3⟩
theorem step_loadEN {t : TypeId} {x : Operand} {i E sz off k : Nat} {l : List T} {v : T} (ho : o.op = .load t x) (hx : evalS S x = .e i off) (hm : S.mem i = some (.row E sz l)) (hoff : off = k * sz)
    (ht : tyB C.P t = some (true, sz)) (hv : l[k]? = some v) (hd : dOk C.n o.dst = true) : Step C ops o S ⟨.t (.agg v.cells), [], [i]⟩ := by
  have hmx : x ∈ o.op.operands := by simp [ho, Op.operands]
  refine Step.read hm hd (by simp [AV.ids]) fun β w ok ρ hO hρ _ => ?_
  have h := hρ x hmx
  rw [hx] at h
  obtain ⟨g, cells, h1, h2, h3, h4, h5, h6⟩ := row_cell hO h
  obtain ⟨hk, rfl⟩ := List.getElem?_eq_some_iff.1 hv
  have hz := h5 k hk
  subst hoff
  have hcell : ∀ j, j < sz → w.cell? ((⟨g, k * sz, none⟩ : Addr).add j) = some (cells.getD (k * sz + j) undef) := fun j hj => by
    obtain ⟨u, e1, e2, e3, e4⟩ := h6 k hk j (by omega)
    rw [add_plain', e1, List.getD_eq_getElem?_getD, e2]; rfl
  refine ⟨.agg ((List.range sz).map fun j => cells.getD (k * sz + j) undef).toArray, by simp [execOp, ho, h1, Instr.loadAt, Instr.sureAddr, run_loadVarN _ ht hcell], .t (.agg (by simp [hz]) (fun j hj => ?_) fun j j1 j2 => ?_)⟩
  · have hj' : j < sz := by simpa using hj
    obtain ⟨u, e1, e2, e3, e4⟩ := h6 k hk j (by omega)
    simp [List.getD_eq_getElem?_getD, e2, e4]
  · obtain ⟨u, e1, e2, e3, e4⟩ := h6 k hk j j2
    simpa [List.getD_eq_getElem?_getD, e2] using e3

/-! ### Append -/
/-- The cells of a slice that is read, as the append law wants them. -/
theorem Reads.news {w : World} {ok : Nat → Prop} {v : Value} {sz : Nat} {r : List T} (h : Reads w ok v (.slice sz r)) :
    ∃ (a : Option Addr) (c : Nat) (cells : List Value), v = .slice a r.length c ∧ cells.length = r.length * sz ∧ (∀ u ∈ cells, u.oneCell' = true) ∧ (∀ k (h : k < r.length), r[k].cells.length = sz) ∧
      (0 < r.length * sz → ∃ ad, a = some ad ∧ ok ad.block ∧ ∀ j u, cells[j]? = some u → w.cell? (ad.add j) = some u) ∧
      ∀ k (h : k < r.length) j (hj : j < r[k].cells.length), ∃ u, cells[k * sz + j]? = some u ∧ Reads w ok u r[k].cells[j] ∧ u.oneCell' = true := by
  cases h with
  | slice f hc hm hz ha h =>
    rename_i a cap
    refine ⟨a, cap, (List.range (r.length * sz)).map f, rfl, by simp, fun u hu => ?_, hz, fun hp => ?_, fun k hk j hj => ?_⟩
    · obtain ⟨j, hj, rfl⟩ := List.mem_map.1 hu
      have hj' : j < r.length * sz := by simpa using hj
      obtain ⟨ad, e, _, hcell⟩ := ha (by omega)
      exact (hcell j hj').2
    · obtain ⟨ad, e, hok, hcell⟩ := ha hp
      refine ⟨ad, e, hok, fun j u hu => ?_⟩
      obtain ⟨hj, rfl⟩ := List.getElem?_eq_some_iff.1 hu
      simpa using (hcell j (by simpa using hj)).1
    · have hzk := hz k hk
      have hlt : k * sz + j < r.length * sz := by
        have : (k + 1) * sz ≤ r.length * sz := Nat.mul_le_mul_right _ (by omega)
        have : (k + 1) * sz = k * sz + sz := by rw [Nat.add_mul, Nat.one_mul]
        omega
      obtain ⟨ad, e, hok, hcell⟩ := ha (by omega)
      refine ⟨f (k * sz + j), by simp [hlt], h k hk j hj, (hcell _ hlt).2⟩
theorem run_append_none {P : Program} {w : World} {base t ty e size n c : Nat} {i : TypeInfo} {v : Value} {xs : List Value} (ht : P.underlying t = some (.slice e)) (hi : P.info? e = some i) (hown : w.ownsRow base e size v n xs) (a : Option Addr) :
    (Builtin.append_ #[t, t] ty #[v, .slice a 0 c]).run P w = .ok v w := by
  rcases hown.2 with ⟨rfl, rfl⟩ | ⟨g, cap, cur, rfl, _, _, hnc, _⟩
  · cases a <;> simp [Builtin.append_, run_underlying ht, sizeOf, typeInfo, hi, Builtin.lenOf, Builtin.firstCells, loadCells, loadCellsFrom]
  · cases a <;> simp [Builtin.append_, run_underlying ht, sizeOf, typeInfo, hi, Builtin.lenOf, Builtin.firstCells, hnc, storeCells, loadCells, loadCellsFrom]

/-- append, of a row of the call's own and a slice that is read. -/
theorem run_append_T {P : Program} {w : World} {base t ty e sz bytes n : Nat} {zs : List Value} {ok : Nat → Prop} {v y : Value} {xs : List Value} {r : List T} (ht : slB P t = some (e, sz, bytes)) (hz : zeroB P e = some zs) (hzl : zs.length = sz) (hsz : 0 < sz)
    (hown : w.ownsRow base e sz v n xs) (hy : Reads w ok y (.slice sz r)) (hbytes : (n + r.length) * bytes ≤ 140737488355328) (hb1 : 0 < bytes) (hbase : base ≤ w.heap.size) :
    ∃ v' w' cells, (Builtin.append_ #[t, t] ty #[v, y]).run P w = .ok v' w' ∧ w'.ownsRow base e sz v' (n + r.length) (xs ++ cells) ∧ w.grownBy w' v.ownBlock ∧
      (v'.ownBlock = v.ownBlock ∨ v'.ownBlock = some w.heap.size) ∧ cells.length = r.length * sz ∧ (∀ k (h : k < r.length), r[k].cells.length = sz) ∧
      ∀ k (h : k < r.length) j (hj : j < r[k].cells.length), ∃ u, cells[k * sz + j]? = some u ∧ Reads w ok u r[k].cells[j] ∧ u.oneCell' = true := by
  obtain ⟨hu, inf, hinf, hs, hby⟩ := slB_spec ht
  obtain ⟨i, z, hi, hzz, rfl⟩ := zeroB_spec hz
  have hii : inf = i := by rw [hi] at hinf; injection hinf with h; exact h.symm
  subst hii
  obtain ⟨a, c, cells, rfl, hl, h1, hzk, ha, hcells⟩ := hy.news
  by_cases h0 : r.length = 0
  · have hr0 : r = [] := List.eq_nil_of_length_eq_zero h0
    subst hr0
    have hc0 : cells = [] := List.eq_nil_of_length_eq_zero (by simpa using hl)
    subst hc0
    exact ⟨v, w, [], run_append_none hu hi hown a, by simpa using hown, ⟨rfl, rfl, rfl, Nat.le_refl _, fun _ _ _ => rfl⟩, .inl rfl, by simp, hzk, hcells⟩
  · obtain ⟨ad, rfl, hok, hcell⟩ := ha (Nat.mul_pos (by omega) hsz)
    have hlen : n + r.length ≤ maxLen := by
      have : n + r.length ≤ (n + r.length) * bytes := Nat.le_mul_of_pos_right _ hb1
      unfold maxLen; omega
    obtain ⟨v', w', hr, hown', hg, _, hat⟩ := run_append_own_at (P := P) w base t ty e inf z sz bytes hu hi hzz hs hby (by simpa using hzl) hsz v n xs hown ad r.length c cells hl hcell h1 hlen hbytes hbase
    exact ⟨v', w', cells, hr, hown', hg, hat, hl, hzk, hcells⟩

theorem rows_append {w : World} {ok : Nat → Prop} {sz : Nat} {l r : List T} {xs cells : List Value} (hxl : xs.length = l.length * sz) (hz1 : ∀ k (h : k < l.length), l[k].cells.length = sz) (hz2 : ∀ k (h : k < r.length), r[k].cells.length = sz)
    (h1 : ∀ k (h : k < l.length) j (hj : j < l[k].cells.length), ∃ u, xs[k * sz + j]? = some u ∧ Reads w ok u l[k].cells[j] ∧ u.oneCell' = true)
    (h2 : ∀ k (h : k < r.length) j (hj : j < r[k].cells.length), ∃ u, cells[k * sz + j]? = some u ∧ Reads w ok u r[k].cells[j] ∧ u.oneCell' = true) :
    (∀ k (h : k < (l ++ r).length), (l ++ r)[k].cells.length = sz) ∧ ∀ k (h : k < (l ++ r).length) j (hj : j < (l ++ r)[k].cells.length), ∃ u, (xs ++ cells)[k * sz + j]? = some u ∧ Reads w ok u (l ++ r)[k].cells[j] ∧ u.oneCell' = true := by
  have hz : ∀ k (h : k < (l ++ r).length), (l ++ r)[k].cells.length = sz := by
    intro k h
    rw [List.getElem_append]
    split
    · exact hz1 _ _
    · exact hz2 _ _
  refine ⟨hz, fun k h j hj => ?_⟩
  have hzk := hz k h
  by_cases hk : k < l.length
  · have e : (l ++ r)[k] = l[k] := List.getElem_append_left hk
    simp only [e] at hj ⊢
    obtain ⟨u, e1, e2⟩ := h1 k hk j hj
    exact ⟨u, by rw [List.getElem?_append_left (List.getElem?_eq_some_iff.1 e1).1]; exact e1, e2⟩
  · have hk2 : k - l.length < r.length := by simp at h; omega
    have e : (l ++ r)[k] = r[k - l.length] := List.getElem_append_right (by omega)
    simp only [e] at hj ⊢
    obtain ⟨u, e1, e2⟩ := h2 (k - l.length) hk2 j hj
    refine ⟨u, ?_, e2⟩
    have h3 : k * sz = l.length * sz + (k - l.length) * sz := by rw [← Nat.add_mul]; congr 1; omega
    rw [List.getElem?_append_right (by omega), show k * sz + j - xs.length = (k - l.length) * sz + j from by omega]
    exact e1

theorem SatB.append {β : Nat → Value} {a : Act} {w w' : World} (h : SatB C β S a w) (i d E sz : Nat) (l l' : List T) (v' : Value) (xs' : List Value) (hm : S.mem i = some (.row E sz l)) (hu : S.used d = false)
    (hg : w.grownBy w' (β i).ownBlock) (hat : v'.ownBlock = (β i).ownBlock ∨ v'.ownBlock = some w.heap.size) (hown : w'.ownsRow C.w0.heap.size E sz v' l'.length xs')
    (hz : ∀ k (h : k < l'.length), l'[k].cells.length = sz)
    (hcells : ∀ k (h : k < l'.length) j (hj : j < l'[k].cells.length), ∃ u, xs'[k * sz + j]? = some u ∧ Reads w (okS C S β w) u l'[k].cells[j] ∧ u.oneCell' = true) :
    ∃ β', β' d = v' ∧ SatB C β' (modS [(d, some (.row E sz l')), (i, none)] S) a w' := by
  have hs := h.below.size
  have hne : i ≠ d := fun e => by subst e; have := (h.wfm i _ hm).1; rw [hu] at this; cases this
  have hblk : blk (β i) = (β i).ownBlock := by obtain ⟨cs, k1, _⟩ := h.mem i _ hm; exact ownsRow_blk k1
  have hblk' : blk v' = v'.ownBlock := ownsRow_blk hown
  let β' : Nat → Value := fun j => if j = d then v' else β j
  have e1 : β' d = v' := by simp [β']
  have e2 : ∀ j, j ≠ d → β' j = β j := fun j hj => by simp [β', hj]
  have hused : ∀ j, S.used j = true → j ≠ d := fun j hj e => by subst e; rw [hu] at hj; cases hj
  have hm' : ∀ j, (modS [(d, some (.row E sz l')), (i, none)] S).mem j = (if j = d then some (.row E sz l') else if j = i then none else S.mem j) := by
    intro j
    simp only [modS, assoc]
    by_cases hd : j = d
    · subst hd; simp [Nat.beq_refl]
    · have hb : Nat.beq j d = false := by
        cases hb : Nat.beq j d with
        | false => rfl
        | true => exact absurd (Nat.eq_of_beq_eq_true hb) hd
      by_cases hi : j = i
      · subst hi; simp [hb, Nat.beq_refl, hd]
      · have hb2 : Nat.beq j i = false := by
          cases hb : Nat.beq j i with
          | false => rfl
          | true => exact absurd (Nat.eq_of_beq_eq_true hb) hi
        simp [hb, hb2, hd, hi]
  have hus : ∀ j, S.used j = true → (modS [(d, some (.row E sz l')), (i, none)] S).used j = true := fun j hj => by simp [modS, hj]
  have husd : (modS [(d, some (.row E sz l')), (i, none)] S).used d = true := by simp [modS, hasKey, Nat.beq_refl]
  have hlt : ∀ b, (β i).ownBlock = some b → C.w0.heap.size ≤ b ∧ b < w.heap.size := fun b hb => (h.mem i _ hm).lt (by rw [hblk]; exact hb)
  have hbel : Below C.w0.heap.size C.w0 w' := h.below.trans ⟨hg.os, hg.tape, hg.output, hg.size, fun k hk => hg.block k (by omega) (fun e => by have := (hlt k e.symm).1; omega)⟩
  have hnb : ∀ b, okS C S β w b → some b ≠ (β i).ownBlock := fun b hb e => hb.2.2 ⟨i, _, hm, by rw [hblk, ← e]⟩
  have hheap : ∀ b, okS C S β w b → w'.heap[b]? = w.heap[b]? := fun b hb => hg.block b hb.2.1 (hnb b hb)
  have hv' : ∀ b, v'.ownBlock = some b → (some b = (β i).ownBlock ∨ b = w.heap.size) := fun b hb => by
    rcases hat with h1 | h1
    · left; rw [← h1, hb]
    · right; rw [h1] at hb; injection hb with hb; exact hb.symm
  have hok : ∀ b, okS C S β w b → okS C (modS [(d, some (.row E sz l')), (i, none)] S) β' w' b := by
    intro b hb
    refine ⟨hb.1, Nat.lt_of_lt_of_le hb.2.1 hg.size, ?_⟩
    rintro ⟨j, q, hj, hbl⟩
    rw [hm'] at hj
    split at hj
    · rename_i e; subst e
      rw [e1, hblk'] at hbl
      rcases hv' b hbl with h2 | h2
      · exact hnb b hb h2
      · have := hb.2.1; omega
    · rename_i hjd
      split at hj
      · cases hj
      · rw [e2 j hjd] at hbl
        exact hb.2.2 ⟨j, q, hj, hbl⟩
  have hkp : ∀ b x, C.keep b = some x → w'.heap[b]? = some x.1 ∧ ¬ owned (modS [(d, some (.row E sz l')), (i, none)] S) β' b := fun b x hx => by
    have hlt := h.keep_lt hx
    have hne2 : some b ≠ (β i).ownBlock := fun e => (h.keep b x hx).2 ⟨i, _, hm, by rw [hblk, ← e]⟩
    refine ⟨(hg.block b hlt hne2).trans (h.keep b x hx).1, ?_⟩
    rintro ⟨j, q, hj, hbl⟩
    rw [hm'] at hj
    split at hj
    · rename_i e; subst e
      rw [e1, hblk'] at hbl
      rcases hv' b hbl with h2 | h2
      · exact hne2 h2
      · omega
    · rename_i hjd
      split at hj
      · cases hj
      · rw [e2 j hjd] at hbl
        exact (h.keep b x hx).2 ⟨j, q, hj, hbl⟩
  refine ⟨β', e1, h.change hbel hheap hok (fun j hj => e2 j (hused j hj)) rfl hus (fun j q hj => ?_) (fun j k q q' hj hk hjk b hbj hbk => ?_) (fun j q hj => ?_) hkp (fun p hp => ?_)⟩
  · rw [hm'] at hj
    split at hj
    · rename_i e; subst e; injection hj with hj; subst hj
      refine ⟨xs', by rw [e1]; exact hown, hz, fun k hk jj hjj => ?_⟩
      obtain ⟨u, g1, g2, g3⟩ := hcells k hk jj hjj
      exact ⟨u, g1, g2.mono hheap hok, g3⟩
    · rename_i hjd
      split at hj
      · cases hj
      · rename_i hji
        refine (h.mem j q hj).mono (fun b hbl => ?_) hheap hok (e2 j hjd) (fun x hx => e2 x (hused x ((h.wfm j q hj).2 x hx)))
        refine hg.block b ((h.mem j q hj).lt hbl).2 fun e => ?_
        exact h.apart j i q _ hj hm hji b hbl (by rw [hblk, ← e])
  · have hcase : ∀ j q, (modS [(d, some (.row E sz l')), (i, none)] S).mem j = some q → j ≠ d → j ≠ i ∧ S.mem j = some q := by
      intro j q hj hjd
      rw [hm', if_neg hjd] at hj
      split at hj
      · cases hj
      · rename_i hji; exact ⟨hji, hj⟩
    have clash : ∀ j q, (modS [(d, some (.row E sz l')), (i, none)] S).mem j = some q → j ≠ d → blk (β' j) = some b → v'.ownBlock = some b → False := by
      intro j q hj hjd hbl hvb
      obtain ⟨hji, hj'⟩ := hcase j q hj hjd
      rw [e2 j hjd] at hbl
      rcases hv' b hvb with h2 | h2
      · exact h.apart j i q _ hj' hm hji b hbl (by rw [hblk, ← h2])
      · have := ((h.mem j q hj').lt hbl).2; omega
    by_cases hjd : j = d
    · subst hjd
      rw [e1, hblk'] at hbj
      exact clash k q' hk (fun e => hjk e.symm) hbk hbj
    · by_cases hkd : k = d
      · subst hkd
        rw [e1, hblk'] at hbk
        exact clash j q hj hjd hbj hbk
      · obtain ⟨_, hj'⟩ := hcase j q hj hjd
        obtain ⟨_, hk'⟩ := hcase k q' hk hkd
        rw [e2 j hjd] at hbj
        rw [e2 k hkd] at hbk
        exact h.apart j k q q' hj' hk' hjk b hbj hbk
  · rw [hm'] at hj
    split at hj
    · rename_i e; subst e; injection hj with hj; subst hj
      exact ⟨husd, by simp [AObj.ids]⟩
    · split at hj
      · cases hj
      · obtain ⟨h1, h2⟩ := h.wfm j q hj
        exact ⟨hus _ h1, fun x hx => hus _ (h2 x hx)⟩
  · obtain ⟨g1, E', cells, g2⟩ := h.anc p hp
    have hd' : p.1 ≠ d := hused _ (h.wfm _ _ g2).1
    have hi' : p.1 ≠ i := fun e => by rw [e, hm] at g2; cases g2
    exact ⟨(e2 _ hd').trans g1, E', cells, by rw [hm', if_neg hd', if_neg hi']; exact g2⟩

theorem step_append {t : TypeId} {x y : Operand} {i d E sz bytes : Nat} {l r : List T} {y' : T} {zs : List Value} (ho : o.op = .call { callee := .builtin .append, args := #[x, y], argTypes := #[t, t] }) (hdst : o.dst = some d)
    (hx : evalS S x = .h i) (hm : S.mem i = some (.row E sz l)) (hy : evalS S y = .t y') (hc : Conv y' (.slice sz r)) (ht : slB C.P t = some (E, sz, bytes)) (hz : zeroB C.P E = some zs) (hzl : zs.length = sz) (hsz : Nat.blt 0 sz = true) (hb1 : Nat.blt 0 bytes = true)
    (hbytes : (l.length + r.length) * bytes ≤ 140737488355328) (hu : S.used d = false) (hd : dOk C.n o.dst = true) :
    Step C ops o S ⟨.h d, [(d, some (.row E sz (l ++ r))), (i, none)], []⟩ := by
  have hmx : x ∈ o.op.operands := by simp [ho, Op.operands, Call.operands]
  have hmy : y ∈ o.op.operands := by simp [ho, Op.operands, Call.operands]
  intro S₁ hsl hmm a w hsat
  obtain ⟨β, hb⟩ := hsat
  have hm1 : S₁.mem i = some (.row E sz l) := (hmm i (.inr (by simp [hasKey, Nat.beq_refl]))).1.trans hm
  have hu1 : S₁.used d = false := by rw [(hmm d (.inr (by simp [hasKey, Nat.beq_refl]))).2]; exact hu
  have hvx := hb.eval x
  have hvy := hb.eval y
  rw [agree_eval hsl hmx, hx] at hvx
  rw [agree_eval hsl hmy, hy] at hvy
  have hq := hvx.hD
  obtain ⟨cells, k1, k2, k3⟩ := hb.mem i _ hm1
  obtain ⟨v', w', cs, hr, hown, hg, hat, hl, hz2, hcs⟩ := run_append_T (ty := o.type) ht hz hzl (by simpa [Nat.blt_eq] using hsz) k1 (hc.reads hvy.tD) hbytes (by simpa [Nat.blt_eq] using hb1) hb.below.size
  obtain ⟨r1, r2⟩ := rows_append k1.1 k2 hz2 k3 hcs
  obtain ⟨β', e1, hsb⟩ := hb.append i d E sz l (l ++ r) v' (cells ++ cs) hm1 hu1 hg hat (by rw [List.length_append]; exact hown) r1 r2
  have hrun : (execOp a.eval o).run C.P w = .ok (.value v') w' := by simp [execOp, ho, resolve, invoke, builtin, hq, hr]
  refine Oper.wp_value hrun ?_
  rw [ap_modS]
  refine ⟨β', hsb.put o.dst v' (.h d) (fun _ _ _ => by rw [← e1]; exact .h d) (fun z hz' => .inl ?_) (fun j hj => ?_)⟩
  · rw [hz'] at hd; simpa [dOk] using hd
  · simp only [AV.ids, List.mem_singleton] at hj; subst hj; simp [modS, hasKey, Nat.beq_refl]
/-- append to nil. -/
theorem step_append_nil {t : TypeId} {x y : Operand} {d E sz bytes : Nat} {r : List T} {y' : T} {zs : List Value} (ho : o.op = .call { callee := .builtin .append, args := #[x, y], argTypes := #[t, t] }) (hdst : o.dst = some d)
    (hx : evalS S x = .t (.v (.slice none 0 0))) (hy : evalS S y = .t y') (hc : Conv y' (.slice sz r)) (ht : slB C.P t = some (E, sz, bytes)) (hz : zeroB C.P E = some zs) (hzl : zs.length = sz) (hsz : Nat.blt 0 sz = true) (hb1 : Nat.blt 0 bytes = true)
    (hbytes : r.length * bytes ≤ 140737488355328) (hu : S.used d = false) (hd : dOk C.n o.dst = true) :
    Step C ops o S ⟨.h d, [(d, some (.row E sz r))], []⟩ := by
  have hmx : x ∈ o.op.operands := by simp [ho, Op.operands, Call.operands]
  have hmy : y ∈ o.op.operands := by simp [ho, Op.operands, Call.operands]
  refine Step.new hd hu (by simp [AObj.ids]) (by simp [AV.ids]) fun β w ok ρ hw0 hokl hρ _ => ?_
  have e1 : ρ x = .slice none 0 0 := by have := hρ x hmx; rw [hx] at this; exact this.toV
  have hvy := hρ y hmy
  rw [hy] at hvy
  obtain ⟨v', w', cs, hr, hown, hg, hat, hl, hz2, hcs⟩ := run_append_T (base := w.heap.size) (ty := o.type) (n := 0) ht hz hzl (by simpa [Nat.blt_eq] using hsz) (World.ownsRow_nil w _ E sz) (hc.reads hvy.tD) (by simpa using hbytes) (by simpa [Nat.blt_eq] using hb1) (Nat.le_refl _)
  refine ⟨v', v', w', by simp [execOp, ho, resolve, invoke, builtin, e1, hr], ⟨hg.os, hg.tape, hg.output, hg.size, fun k hk => hg.block k hk (by simp [Value.ownBlock])⟩, fun b hb => ?_, fun ok' β' h1' h2' h3' h4' => ⟨?_, by rw [← h3']; exact .h d⟩⟩
  · rw [ownsRow_blk hown] at hb; exact (hown.lt b hb).1
  · refine ⟨cs, by rw [h3']; exact ownsRow_base (by simpa using hown) hw0, hz2, fun k hk j hj => ?_⟩
    obtain ⟨u, g1, g2, g3⟩ := hcs k hk j hj
    exact ⟨u, g1, g2.mono (fun b hb => hg.block b (hokl b hb) (by simp [Value.ownBlock])) h1', g3⟩

end Go.Proofs.Ytnemmdbafngppaa.Abs
