/- Abstract symbolic execution, part 18: more operations on buffers. No condition. -/
import Derived.Test.YtnemmdbafngppaaAbs17
set_option linter.unusedVariables false
set_option linter.unusedSimpArgs false
namespace Go.Proofs.Ytnemmdbafngppaa.Abs
open Go.RowKit
variable {C : Ctx} {ops : Array Oper} {o : Oper} {S : AState}

theorem BufR.prefix {w : World} {ok : Nat → Prop} {sz : Nat} {cells cells' : List Value} {l : List T} (h : BufR w ok sz cells l) (hp : ∀ q, q < l.length * sz → cells'[q]? = cells[q]?) : BufR w ok sz cells' l :=
  ⟨h.1, fun k hk j hj => by
    obtain ⟨v, e1, e2⟩ := h.2 k hk j hj
    exact ⟨v, by rw [hp _ (idx_lt hk (by rw [← h.1 k hk]; exact hj))]; exact e1, e2⟩⟩
theorem zero_ones {z : Array Value} {n : Nat} (h1 : z.toList.all Value.oneCell' = true) (hz : 0 < z.size) : ∀ v ∈ (Builtin.zeroCells z n).toList, v.oneCell' = true := by
  intro v hv
  simp only [Builtin.zeroCells, Array.toList_map, Array.toList_range, List.mem_map, List.mem_range] at hv
  obtain ⟨q, _, rfl⟩ := hv
  have hlt : q % z.size < z.size := Nat.mod_lt _ hz
  rw [List.all_eq_true] at h1
  refine h1 _ ?_
  simp [hlt]
theorem step_clearS {t : TypeId} {x : Operand} {i sz k n c E cap e bytes : Nat} {l : List T} {zs : List Value} (ho : o.op = .call { callee := .builtin .clear, args := #[x], argTypes := #[t] }) (hx : evalS S x = .s i sz k n c) (hm : S.mem i = some (.buf E sz cap l))
    (ht : slB C.P t = some (e, sz, bytes)) (hz : zeroB C.P e = some zs) (hzl : zs.length = sz) (hsz : Nat.blt 0 sz = true) (h1 : zs.all Value.oneCell' = true) (hd : dOk C.n o.dst = true) :
    Step C ops o S ⟨.junk, [(i, some (.buf E sz cap (l.take k)))], []⟩ := by
  have hmx : x ∈ o.op.operands := by simp [ho, Op.operands, Call.operands]
  have hsz' : 0 < sz := by simpa [Nat.blt_eq] using hsz
  intro S₁ hsl hmm a w hsat
  obtain ⟨β, hb⟩ := hsat
  have hm1 : S₁.mem i = some (.buf E sz cap l) := (hmm i (.inr (by simp [hasKey, Nat.beq_refl]))).1.trans hm
  have hvx := hb.eval x
  rw [agree_eval hsl hmx, hx] at hvx
  obtain ⟨g, off, cap', s1, s2, s3, s4, hqx⟩ := hvx.sD
  obtain ⟨g', cur, g1, g2, g3, g4, g5, g6, g7, g8⟩ := hb.mem i _ hm1
  rw [g1] at s1; injection s1 with q1 _ q3; injection q1 with q1; injection q1 with q1; subst q1; subst q3
  obtain ⟨hu, inf, hinf, hs, _⟩ := slB_spec ht
  obtain ⟨i', z, hi, hzz, rfl⟩ := zeroB_spec hz
  have hB : BufR w (okS C S₁ β w) sz cur.toList l := ⟨g7, fun k hk j hj => by obtain ⟨u, k1, k2⟩ := g8 k hk j hj; exact ⟨u, by simpa using k1, k2⟩⟩
  have hzs : z.cells.size = sz := by simpa using hzl
  let vs : List Value := if n = 0 then [] else (Builtin.zeroCells z.cells n).toList
  have hvl : vs.length = n * sz := by
    simp only [vs]; split
    · rename_i h; subst h; simp
    · simp [size_zeroCells, hzs]
  have hv1 : ∀ v ∈ vs, v.oneCell' = true := by
    simp only [vs]; split
    · simp
    · exact zero_ones h1 (by omega)
  have hkn : k * sz + vs.length ≤ cur.size := by rw [hvl, ← Nat.add_mul, g5]; exact Nat.mul_le_mul_right _ (by omega)
  have hv0 : c = 0 → vs = [] := by
    intro h0
    have h0' : n = 0 := by omega
    simp [vs, h0']
  have hst := run_storeBuf (P := C.P) (c := c) (k := k) (sz := sz) g3 s4 hv0 hkn hv1
  have hrun : (execOp a.eval o).run C.P w = .ok (.value (.tuple #[])) (w.setRow g' (cur.toList.take (k * sz) ++ vs ++ cur.toList.drop (k * sz + vs.length)).toArray) := by
    by_cases h0 : n = 0
    · have hvs : vs = [] := by simp [vs, h0]
      have hself : w.setRow g' (cur.toList.take (k * sz) ++ vs ++ cur.toList.drop (k * sz + vs.length)).toArray = w := by
        rw [hvs]
        simp only [List.append_nil, List.length_nil, Nat.add_zero, List.take_append_drop, Array.toArray_toList]
        exact setRow_self w g' cur E (0, 0) g3
      rw [hself]
      subst h0
      simp [execOp, ho, resolve, invoke, builtin, Builtin.clear_, run_underlying hu, hqx]
    · have hvs : vs = (Builtin.zeroCells z.cells n).toList := by simp [vs, h0]
      rw [hvs] at hst ⊢
      obtain ⟨n', rfl⟩ : ∃ n', n = n' + 1 := ⟨n - 1, by omega⟩
      simp [execOp, ho, resolve, invoke, builtin, Builtin.clear_, run_underlying hu, hqx, zeroValue, typeInfo, run_info hi, hi, hzz, hst]
  refine Oper.wp_value hrun ?_
  have hlen : (cur.toList.take (k * sz) ++ vs ++ cur.toList.drop (k * sz + vs.length)).length = cap * sz := by
    simp only [List.length_append, List.length_take, List.length_drop, Array.length_toList, g5] at hkn ⊢
    omega
  have hsb := hb.writeBuf (l' := l.take k) hm1 g1 g2 g3 g4 _ hlen (by simp; omega) (hB.take.prefix fun q hq => by
    have hq2 : q < k * sz := Nat.lt_of_lt_of_le hq (Nat.mul_le_mul_right _ (by simp; omega))
    have hq3 : q < (cur.toList.take (k * sz)).length := by simp; omega
    rw [List.append_assoc, List.getElem?_append_left hq3, List.getElem?_take_of_lt hq2])
  rw [ap_modS]
  refine ⟨β, hsb.put o.dst _ .junk (fun _ _ _ => .junk _) (fun z hz => .inr rfl) (by simp [AV.ids])⟩

/-- append of so many zeros to a view that has no room: a new row. -/
theorem step_appendZ {t ti : TypeId} {x y : Operand} {i d sz n c E cap e bytes cnt : Nat} {q : Int} {l : List T} {zs : List Value} (ze : T) (ho : o.op = .call { callee := .builtin .append, args := #[x, y], argTypes := #[t, ti] }) (hdst : o.dst = some d) (hx : evalS S x = .s i sz 0 n c) (hm : S.mem i = some (.buf E sz cap l))
    (hn : n ≤ l.length) (hy : evalS S y = .t (.v (.int .i64 q))) (hq : q = cnt) (hg : c < n + cnt) (ht : slB C.P t = some (e, sz, bytes)) (hti : intB C.P ti = some .i64) (hz : zeroB C.P e = some zs) (hzl : zs.length = sz) (hsz : Nat.blt 0 sz = true) (h1 : zs.all Value.oneCell' = true)
    (hze : ze.cells = zs.map T.v) (hb1 : Nat.blt 0 bytes = true) (hbytes : (n + cnt) * bytes ≤ 140737488355328) (hu : S.used d = false) (hd : dOk C.n o.dst = true) :
    Step C ops o S ⟨.h d, [(d, some (.row e sz (l.take n ++ List.replicate cnt ze)))], [i]⟩ := by
  have hmx : x ∈ o.op.operands := by simp [ho, Op.operands, Call.operands]
  have hmy : y ∈ o.op.operands := by simp [ho, Op.operands, Call.operands]
  have hsz' : 0 < sz := by simpa [Nat.blt_eq] using hsz
  have hb1' : 0 < bytes := by simpa [Nat.blt_eq] using hb1
  intro S₁ hsl hmm a w hsat
  obtain ⟨β, hb⟩ := hsat
  have hm1 : S₁.mem i = some (.buf E sz cap l) := (hmm i (.inl (by simp))).1.trans hm
  have hu1 : S₁.used d = false := by rw [(hmm d (.inr (by simp [hasKey, Nat.beq_refl]))).2]; exact hu
  have hvx := hb.eval x
  have hvy := hb.eval y
  rw [agree_eval hsl hmx, hx] at hvx
  rw [agree_eval hsl hmy, hy] at hvy
  have hyv : a.eval y = .int .i64 q := hvy.toV
  obtain ⟨g, off, cap', s1, s2, s3, s4, hqx⟩ := hvx.sD
  obtain ⟨g', cur, g1, g2, g3, g4, g5, g6, g7, g8⟩ := hb.mem i _ hm1
  rw [g1] at s1; injection s1 with q1 _ q3; injection q1 with q1; injection q1 with q1; subst q1; subst q3
  obtain ⟨hu', inf, hinf, hs, hby⟩ := slB_spec ht
  obtain ⟨i', z, hi, hzz, rfl⟩ := zeroB_spec hz
  have hii : inf = i' := by rw [hi] at hinf; injection hinf with h; exact h.symm
  subst hii
  have htiu : C.P.underlying ti = some (.int .i64) := by
    unfold intB at hti
    split at hti
    · rename_i k hk; injection hti with hti; subst hti; exact hk
    · cases hti
  have hB : BufR w (okS C S₁ β w) sz cur.toList l := ⟨g7, fun k hk j hj => by obtain ⟨u, k1, k2⟩ := g8 k hk j hj; exact ⟨u, by simpa using k1, k2⟩⟩
  have hzs : z.cells.size = sz := by simpa using hzl
  have hnfit : n * sz ≤ cur.size := by rw [g5]; exact Nat.mul_le_mul_right _ (by omega)
  have hcn : n + cnt ≤ (n + cnt) * bytes := Nat.le_mul_of_pos_right _ hb1'
  have hcnt0 : 0 < cnt := by omega
  -- the run
  let olds : List Value := cur.toList.take (n * sz)
  have hol : olds.length = n * sz := by simp [olds]; omega
  have hold : (Builtin.firstCells sz n (.slice (some ⟨g', off, none⟩) n c)).run C.P w.drew = .ok olds.toArray w.drew := by
    refine run_firstCells_some w.drew sz n ⟨g', off, none⟩ n c olds hol (fun j u hj => ?_)
    have hj' : j < n * sz := by rw [← hol]; exact (List.getElem?_eq_some_iff.1 hj).1
    have hc0 : c ≠ 0 := by
      intro e
      have h0' : n = 0 := by omega
      subst h0'; simp at hj'
    have h2 : w.drew.cell? ((⟨g', off, none⟩ : Addr).add j) = cur[j]? := by
      rw [add_plain', s4 hc0, Nat.zero_mul, Nat.zero_add]
      exact cell_of_block (w := w.drew) g3
    rw [h2]
    simp only [olds] at hj
    rw [List.getElem?_take_of_lt hj'] at hj
    simpa using hj
  have hw : IntKind.i64.wrap (cnt : Int) = cnt := by rw [wrap_in] <;> omega
  have hneg : ¬ ((cnt : Int) < 0) := by omega
  have h48i : ¬ (281474976710656 < (cnt : Int) * (inf.bytes : Int)) := by
    rw [← Int.natCast_mul, hby]
    have : cnt * bytes ≤ (n + cnt) * bytes := Nat.mul_le_mul_right _ (by omega)
    omega
  have hns : ¬ (cnt * inf.size = 0) := by rw [hs]; exact Nat.mul_ne_zero (by omega) (by omega)
  have hroom : ¬ (n + cnt ≤ c) := by omega
  have h63 : ¬ (9223372036854775807 < ((n : Int) + (cnt : Int))) := by omega
  have h48 : ¬ (281474976710656 < Builtin.nextslicecap (n + cnt) c * inf.bytes) := by
    rw [hby]; have := growslice_fits hg hbytes; omega
  have hold' : (Builtin.firstCells inf.size n (.slice (some ⟨g', off, none⟩) n c)).run C.P w.drew = .ok olds.toArray w.drew := by rw [hs]; exact hold
  have hrun : (execOp a.eval o).run C.P w = .ok (.value (.slice (some ⟨w.heap.size, 0, none⟩) (n + cnt) (grownCap w (n + cnt) c e)))
      (w.drew.alloc (.cells (olds.toArray ++ Builtin.zeroCells z.cells cnt ++ Builtin.zeroCells z.cells (grownCap w (n + cnt) c e - (n + cnt))) e)) := by
    simp [execOp, ho, resolve, invoke, builtin, Builtin.append_, run_underlying hu', run_underlying htiu, sizeOf, typeInfo, zeroValue, hi, hzz, asInt, asIntOf, hqx, hyv, hq, hw, hneg, hns, h48i, hroom, h63, h48, Question.forced, hold', newRow, grownCap]
  have hgc := grownCap_ge w (n + cnt) c e
  have hgm := grownCap_le_maxLen w (n + cnt) c e (by unfold maxLen; omega)
  have hbel : Below w.heap.size w (w.drew.alloc (.cells (olds.toArray ++ Builtin.zeroCells z.cells cnt ++ Builtin.zeroCells z.cells (grownCap w (n + cnt) c e - (n + cnt))) e)) :=
    ((Below.refl _ w).drew).alloc (Nat.le_refl _) _
  refine Oper.wp_value hrun ?_
  rw [ap_modS]
  have hzB : ∀ (w' : World) (ok : Nat → Prop), BufR w' ok sz (Builtin.zeroCells z.cells cnt).toList (List.replicate cnt ze) := by
    intro w' ok
    have hcl : ze.cells.length = sz := by rw [hze]; simpa using hzs
    refine ⟨fun k hk => by rw [List.getElem_replicate]; exact hcl, fun k hk j hj => ?_⟩
    have hk' : k < cnt := by simpa using hk
    rw [List.getElem_replicate] at hj
    have hj' : j < sz := by rw [← hcl]; exact hj
    have hlt : k * sz + j < cnt * sz := idx_lt hk' hj'
    have hjz : j < z.cells.size := by omega
    have hmod : (k * sz + j) % z.cells.size = j := by rw [hzs, Nat.mul_comm, Nat.mul_add_mod, Nat.mod_eq_of_lt hj']
    refine ⟨z.cells[j], ?_, ?_, ?_⟩
    · simp only [Builtin.zeroCells, Array.toList_map, Array.toList_range, List.getElem?_map, List.getElem?_range, hzs]
      rw [List.getElem?_range hlt]
      simp only [Option.map_some, ← hzs, hmod]
      simp [hjz, Nat.mod_eq_of_lt hjz]
    · simp only [List.getElem_replicate, hze, List.getElem_map, Array.getElem_toList]
      exact .v _
    · rw [List.all_eq_true] at h1; exact h1 _ (by simp)
  obtain ⟨β', e1, e2, e3, e4, hsb⟩ := hb.new d hu1 (.row e sz (l.take n ++ List.replicate cnt ze)) (.slice (some ⟨w.heap.size, 0, none⟩) (n + cnt) (grownCap w (n + cnt) c e)) hbel (fun b hbl => by simp [blk] at hbl; omega) (by simp [AObj.ids])
    (fun ok' β' k1 k2 k3 k4 => by
      have hB1 : BufR w (okS C S₁ β w) sz olds (l.take n) := hB.take.prefix fun x hx => by
        have : x < n * sz := Nat.lt_of_lt_of_le hx (Nat.mul_le_mul_right _ (by simp; omega))
        simp only [olds]; rw [List.getElem?_take_of_lt this]
      have hB1' := hB1.mono (w' := w.drew.alloc (.cells (olds.toArray ++ Builtin.zeroCells z.cells cnt ++ Builtin.zeroCells z.cells (grownCap w (n + cnt) c e - (n + cnt))) e)) (ok' := ok') (fun b hb' => hbel.block b hb'.2.1) k1
      have hz2 := hzB (w.drew.alloc (.cells (olds.toArray ++ Builtin.zeroCells z.cells cnt ++ Builtin.zeroCells z.cells (grownCap w (n + cnt) c e - (n + cnt))) e)) ok'
      have hlt : (l.take n).length = n := by simp; omega
      obtain ⟨r1, r2⟩ := rows_append (xs := olds) (cells := (Builtin.zeroCells z.cells cnt).toList) (by rw [hol, hlt]) hB1'.1 hz2.1 hB1'.2 hz2.2
      refine ⟨olds ++ (Builtin.zeroCells z.cells cnt).toList, ?_, r1, r2⟩
      rw [k3]
      refine ⟨by simp [hol, hlt, size_zeroCells, hzs, Nat.add_mul], .inr ⟨w.heap.size, grownCap w (n + cnt) c e, _, by simp [hlt], hb.below.size, heap_alloc_at _ _, by simp [hlt]; omega, hgm, ?_, ?_⟩⟩
      · simp only [Array.size_append, size_zeroCells, hzs, List.size_toArray, hol]
        rw [← Nat.add_mul, ← Nat.add_mul]
        congr 1
        omega
      · have hl2 : (l.take n ++ List.replicate cnt ze).length * sz = (olds ++ (Builtin.zeroCells z.cells cnt).toList).length := by simp [hol, hlt, size_zeroCells, hzs, Nat.add_mul]
        rw [hl2]
        simp only [Array.toList_append]
        rw [List.take_left'] <;> simp)
  refine ⟨β', hsb.put o.dst _ (.h d) (fun _ _ _ => by rw [← e1]; exact .h d) (fun z' hz' => .inl ?_) (fun j hj => ?_)⟩
  · rw [hz'] at hd; simpa [dOk] using hd
  · simp only [AV.ids, List.mem_singleton] at hj; subst hj; rw [modS_one.2]; simp

end Go.Proofs.Ytnemmdbafngppaa.Abs
