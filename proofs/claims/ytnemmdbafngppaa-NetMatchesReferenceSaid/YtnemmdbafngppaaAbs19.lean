/- Abstract symbolic execution, part 19: elements of buffers and rows read and written, slices.overlaps, copies of rows. No condition. -/
import Derived.Test.YtnemmdbafngppaaAbs18
set_option linter.unusedVariables false
set_option linter.unusedSimpArgs false
namespace Go.Proofs.Ytnemmdbafngppaa.Abs
open Go.RowKit
variable {C : Ctx} {ops : Array Oper} {o : Oper} {S : AState}

theorem step_indexAddrS {t : TypeId} {x ix : Operand} {i sz k n c E bytes : Nat} {kk : IntKind} {q : Int} (m : Nat) (ho : o.op = .indexAddr t x ix) (hx : evalS S x = .s i sz k n c)
    (hi : evalS S ix = .t (.v (.int kk q))) (hq : q = m) (ht : slB C.P t = some (E, sz, bytes)) (h1 : m < n) (hd : dOk C.n o.dst = true) :
    Step C ops o S ⟨.e i ((k + m) * sz), [], []⟩ := by
  have hmx : x ∈ o.op.operands := by simp [ho, Op.operands]
  have hmi : ix ∈ o.op.operands := by simp [ho, Op.operands]
  refine Step.pure hd (fun j hj => ⟨x, hmx, by rw [hx]; exact hj⟩) fun β w ok ρ hρ _ _ => ?_
  obtain ⟨hu, inf, hinf, hsz, _⟩ := slB_spec ht
  have e2 : ρ ix = .int kk q := by have := hρ ix hmi; rw [hi] at this; exact this.toV
  have h := hρ x hmx
  rw [hx] at h
  obtain ⟨b, off, cap, s1, s2, s3, s4, hqx⟩ := h.sD
  subst hq
  have hlt : (m : Int) < n := by omega
  refine ⟨.pointer (some ⟨b, (k + m) * sz, none⟩), ?_, .e s1⟩
  simp [execOp, ho, hqx, e2, Instr.indexAt, asIntOf, run_underlying hu, sizeOf, typeInfo, hinf, hsz, hlt, h1, Nat.not_le.2 h1, add_plain', s4 (show c ≠ 0 by omega), Nat.add_mul]

/-- A pointer into a buffer. -/
theorem buf_cell {β : Nat → Value} {w : World} {ok : Nat → Prop} {i E sz cap : Nat} {l : List T} (hO : ORel C ok β w i (.buf E sz cap l)) {v : Value} {off : Nat} (hv : VRel w ok β v (.e i off)) :
    ∃ g cur, v = .pointer (some ⟨g, off, none⟩) ∧ β i = .slice (some ⟨g, 0, none⟩) 0 cap ∧ C.w0.heap.size ≤ g ∧ w.heap[g]? = some (.cells cur E (0, 0)) ∧ cap ≤ maxLen ∧ cur.size = cap * sz ∧ l.length ≤ cap ∧ BufR w ok sz cur.toList l := by
  obtain ⟨g, cur, g1, g2, g3, g4, g5, g6, g7, g8⟩ := hO
  obtain ⟨b, n, c, h4, h5⟩ := hv.eD
  rw [g1] at h4; injection h4 with q1 _ _; injection q1 with q1; injection q1 with q1; subst q1
  exact ⟨g, cur, h5, g1, g2, g3, g4, g5, g6, g7, fun k hk j hj => by obtain ⟨u, k1, k2⟩ := g8 k hk j hj; exact ⟨u, by simpa using k1, k2⟩⟩
theorem step_loadB1 {t : TypeId} {x : Operand} {i E sz cap off k j : Nat} {l : List T} {v c : T} (ho : o.op = .load t x) (hx : evalS S x = .e i off) (hm : S.mem i = some (.buf E sz cap l)) (hoff : off = k * sz + j)
    (ht : tyB C.P t = some (false, 1)) (hv : l[k]? = some v) (hc : v.cells[j]? = some c) (hd : dOk C.n o.dst = true) : Step C ops o S ⟨.t c, [], [i]⟩ := by
  have hmx : x ∈ o.op.operands := by simp [ho, Op.operands]
  refine Step.read hm hd (by simp [AV.ids]) fun β w ok ρ hO hρ _ => ?_
  have h := hρ x hmx
  rw [hx] at h
  obtain ⟨g, cur, h1, _, _, h4, _, h5, _, h6⟩ := buf_cell hO h
  obtain ⟨hk, rfl⟩ := List.getElem?_eq_some_iff.1 hv
  obtain ⟨hj, rfl⟩ := List.getElem?_eq_some_iff.1 hc
  obtain ⟨u, e1, e2, e3⟩ := h6.2 k hk j hj
  subst hoff
  have hcell : w.cell? ⟨g, k * sz + j, none⟩ = some u := by rw [cell_of_block h4]; simpa using e1
  exact ⟨u, by simp [execOp, ho, h1, Instr.loadAt, Instr.sureAddr, run_loadVar1 ht hcell], .t e2⟩
theorem step_loadBN {t : TypeId} {x : Operand} {i E sz cap off k : Nat} {l : List T} {v : T} (ho : o.op = .load t x) (hx : evalS S x = .e i off) (hm : S.mem i = some (.buf E sz cap l)) (hoff : off = k * sz)
    (ht : tyB C.P t = some (true, sz)) (hv : l[k]? = some v) (hd : dOk C.n o.dst = true) : Step C ops o S ⟨.t (.agg v.cells), [], [i]⟩ := by
  have hmx : x ∈ o.op.operands := by simp [ho, Op.operands]
  refine Step.read hm hd (by simp [AV.ids]) fun β w ok ρ hO hρ _ => ?_
  have h := hρ x hmx
  rw [hx] at h
  obtain ⟨g, cur, h1, _, _, h4, _, h5, _, h6⟩ := buf_cell hO h
  obtain ⟨hk, rfl⟩ := List.getElem?_eq_some_iff.1 hv
  have hz := h6.1 k hk
  subst hoff
  have hcell : ∀ j, j < sz → w.cell? ((⟨g, k * sz, none⟩ : Addr).add j) = some (cur.getD (k * sz + j) undef) := fun j hj => by
    obtain ⟨u, e1, e2, e3⟩ := h6.2 k hk j (by omega)
    rw [add_plain', cell_of_block h4, Array.getD_eq_getD_getElem?]
    have e1' : cur[k * sz + j]? = some u := by simpa using e1
    rw [e1']; rfl
  refine ⟨.agg ((List.range sz).map fun j => cur.getD (k * sz + j) undef).toArray, by simp [execOp, ho, h1, Instr.loadAt, Instr.sureAddr, run_loadVarN _ ht hcell], .t (.agg (by simp [hz]) (fun j hj => ?_) fun j j1 j2 => ?_)⟩
  · have hj' : j < sz := by simpa using hj
    obtain ⟨u, e1, e2, e3⟩ := h6.2 k hk j (by omega)
    have e1' : cur[k * sz + j]? = some u := by simpa using e1
    simp [Array.getD_eq_getD_getElem?, e1', e3]
  · obtain ⟨u, e1, e2, e3⟩ := h6.2 k hk j j2
    have e1' : cur[k * sz + j]? = some u := by simpa using e1
    simpa [Array.getD_eq_getD_getElem?, e1'] using e2
/-- A whole element written. -/
theorem step_storeBN {t : TypeId} {x y : Operand} {i E sz cap off k : Nat} {l : List T} {cs : List T} {bb : Bool} (ho : o.op = .store t x y) (hx : evalS S x = .e i off) (hm : S.mem i = some (.buf E sz cap l)) (hoff : off = k * sz) (hk : k < l.length)
    (hy : evalS S y = .t (.agg cs)) (ht : tyB C.P t = some (bb, sz)) (hl : cs.length = sz) (hd : o.dst = none) : Step C ops o S ⟨.junk, [(i, some (.buf E sz cap (l.set k (.agg cs))))], []⟩ := by
  have hmx : x ∈ o.op.operands := by simp [ho, Op.operands]
  have hmy : y ∈ o.op.operands := by simp [ho, Op.operands]
  intro S₁ hsl hmm a w hsat
  obtain ⟨β, hb⟩ := hsat
  have hm1 : S₁.mem i = some (.buf E sz cap l) := (hmm i (.inr (by simp [hasKey, Nat.beq_refl]))).1.trans hm
  have hvx := hb.eval x
  have hvy := hb.eval y
  rw [agree_eval hsl hmx, hx] at hvx
  rw [agree_eval hsl hmy, hy] at hvy
  obtain ⟨g, cur, h1, g1, g2, h4, g4, h5, g6, h6⟩ := buf_cell (hb.mem i _ hm1) hvx
  obtain ⟨vs, hye, e2, e3, e4⟩ := hvy.tD.aggD
  have hB : BufR w (okS C S₁ β w) sz vs.toList [.agg cs] := by
    refine ⟨fun q hq => by simp at hq; subst hq; exact hl, fun q hq j hj => ?_⟩
    simp at hq; subst hq
    have hj' : j < cs.length := hj
    have hjv : j < vs.size := by omega
    exact ⟨vs[j], by simp [hjv], e3 j hjv hj', e4 j hjv⟩
  have hvl : vs.toList.length = [T.agg cs].length * sz := by simp; omega
  obtain ⟨w', hst, hsb⟩ := hb.putBuf (k := k) (c := cap - k) (off := off) (q := 0) hm1 g1 (by omega) (fun _ => hoff) hvl hB (by omega) (by simp; omega)
  have hput : Abs.put l k [.agg cs] = l.set k (.agg cs) := by
    unfold Abs.put
    rw [List.set_eq_take_append_cons_drop, if_pos hk]; simp
  have hr : (execOp a.eval o).run C.P w = .ok .skip w' := by
    have hst' : (storeCells ⟨g, off, none⟩ (a.eval y).cells.toList).run C.P w = .ok () w' := by rw [hye]; exact hst
    have hcs : (a.eval y).cells.size = sz := by rw [hye]; simpa [Value.cells] using hvl
    simp [execOp, ho, h1, Instr.storeAt, Instr.sureAddr, run_storeVar ht hcs hst']
  refine Oper.wp_skip hr ?_
  rw [ap_modS, hd]
  rw [hput] at hsb
  exact ⟨β, hsb.put none undef .junk (fun _ h => by cases h) (fun _ h => by cases h) (by simp [AV.ids])⟩

/-- 'slices.overlaps' of a row and a buffer. -/
theorem step_overlaps {f : FuncId} {fn : Func} {x y : Operand} {tys : Array TypeId} {t t' i j E E' sz sz' cap k n c e bytes : Nat} {l r : List T} (ho : o.op = .call { callee := .value (.func f), args := #[x, y], argTypes := tys })
    (hf : C.P.funcs[f]? = some fn) (hnm : (fn.name == "runtime.NumGoroutine") = false) (hb0 : fn.body.isNone = true) (hn : Extern.findNext fn = none) (he : Extern.find fn = some (Extern.SlicesOverlaps.overlaps #[t, t] #[t']))
    (hx : evalS S x = .h j) (hmj : S.mem j = some (.row E' sz' r)) (hr : 0 < r.length) (hy : evalS S y = .s i sz k n c) (hmi : S.mem i = some (.buf E sz cap l)) (hsz : Nat.blt 0 sz = true) (hcap : 0 < cap) (ht : slB C.P t = some (e, sz, bytes)) (hij : Nat.beq j i = false) (hd : dOk C.n o.dst = true) :
    Step C ops o S ⟨.t (.v (.bool false)), [], [i, j]⟩ := by
  have hmx : x ∈ o.op.operands := by simp [ho, Op.operands, Call.operands]
  have hmy : y ∈ o.op.operands := by simp [ho, Op.operands, Call.operands]
  have hsz' : 0 < sz := by simpa [Nat.blt_eq] using hsz
  intro S₁ hsl hmm a w hsat
  obtain ⟨β, hb⟩ := hsat
  have hm1 : S₁.mem i = some (.buf E sz cap l) := (hmm i (.inl (by simp))).1.trans hmi
  have hm2 : S₁.mem j = some (.row E' sz' r) := (hmm j (.inl (by simp))).1.trans hmj
  have hvx := hb.eval x
  have hvy := hb.eval y
  rw [agree_eval hsl hmx, hx] at hvx
  rw [agree_eval hsl hmy, hy] at hvy
  obtain ⟨g, cur, g1, g2, g3, g4, g5, g6, _⟩ := hb.mem i _ hm1
  obtain ⟨b, off, cap', s1, s2, s3, s4, hqy⟩ := hvy.sD
  rw [g1] at s1; injection s1 with q1 _ q3; injection q1 with q1; injection q1 with q1; subst q1; subst q3
  obtain ⟨cells, h1, _⟩ := hb.mem j _ hm2
  rcases h1.2 with ⟨_, h0⟩ | ⟨gr, capr, curr, hg1, hg2, hg3, _⟩
  · omega
  · have hne : gr ≠ g := by
      intro e
      have hji : j ≠ i := fun e => by subst e; rw [Nat.beq_refl] at hij; cases hij
      exact hb.apart j i _ _ hm2 hm1 hji gr (by rw [hg1]; rfl) (by rw [g1, e]; rfl)
    obtain ⟨hu, inf, hinf, hsi, _⟩ := slB_spec ht
    have hqx : a.eval x = .slice (some ⟨gr, 0, none⟩) r.length capr := by rw [hvx.hD, hg1]
    have hov := Lib.run_overlaps_apart (P := C.P) w t t' e hu sz (fun w => by simp [sizeOf, typeInfo, hinf, hsi]) ⟨gr, 0, none⟩ ⟨g, off, none⟩ r.length capr n c hne E' E curr.size cur.size
      (by simp [World.shape?, hg3]) (by simp [World.shape?, g3]) (by rw [g5]; exact Nat.mul_ne_zero (by omega) (by omega)) (by simp [World.frozen?, hg3]) (by simp [World.frozen?, hg3])
    have hcf := run_callFunc_extern (P := C.P) hf hnm hb0 hn he #[.slice (some ⟨gr, 0, none⟩) r.length capr, .slice (some ⟨g, off, none⟩) n c] w
    rw [hov] at hcf
    simp only [Result.andThen_ok] at hcf
    have hrun : (execOp a.eval o).run C.P w = .ok (.value (.bool false)) w := by
      have ex : a.eval x = .slice (some ⟨gr, 0, none⟩) r.length capr := hqx
      have ey : a.eval y = .slice (some ⟨g, off, none⟩) n c := hqy
      have ef : a.eval (.func f) = .func (.func f) #[] #[] := rfl
      simp [execOp, ho, resolve, ef, ex, ey, Deferred.ofValue, invoke, hcf]
    refine Oper.wp_value hrun ?_
    rw [ap_pure]
    refine ⟨β, hb.put o.dst _ (.t (.v (.bool false))) (fun _ _ _ => .t (.v _)) (fun z hz => .inl ?_) (by simp [AV.ids])⟩
    rw [hz] at hd; simpa [dOk] using hd

end Go.Proofs.Ytnemmdbafngppaa.Abs
