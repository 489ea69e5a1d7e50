/- Abstract symbolic execution, part 17: operations on buffers. No condition. -/
import Derived.Test.YtnemmdbafngppaaAbs16
import Derived.Lib.Overlaps
set_option linter.unusedVariables false
set_option linter.unusedSimpArgs false
namespace Go.Proofs.Ytnemmdbafngppaa.Abs
open Go.RowKit
variable {C : Ctx} {ops : Array Oper} {o : Oper} {S : AState}

theorem VRel.sD {w : World} {ok : Nat → Prop} {β : Nat → Value} {v : Value} {i sz k n c : Nat} (h : VRel w ok β v (.s i sz k n c)) :
    ∃ b off cap, β i = .slice (some ⟨b, 0, none⟩) 0 cap ∧ c + k ≤ cap ∧ n ≤ c ∧ (c ≠ 0 → off = k * sz) ∧ v = .slice (some ⟨b, off, none⟩) n c := by
  cases h with | s h1 h2 h3 h4 => exact ⟨_, _, _, h1, h2, h3, h4, rfl⟩

theorem step_lenS {t : TypeId} {x : Operand} {i sz k n c e sz' bytes : Nat} (ho : o.op = .call { callee := .builtin .len, args := #[x], argTypes := #[t] }) (hx : evalS S x = .s i sz k n c)
    (ht : slB C.P t = some (e, sz', bytes)) (hd : dOk C.n o.dst = true) : Step C ops o S ⟨.t (.v (.int .i64 n)), [], []⟩ := by
  have hmx : x ∈ o.op.operands := by simp [ho, Op.operands, Call.operands]
  refine Step.pure hd (by simp [AV.ids]) fun β w ok ρ hρ _ _ => ⟨_, ?_, .t (.v _)⟩
  obtain ⟨hu, _⟩ := slB_spec ht
  have h := hρ x hmx
  rw [hx] at h
  obtain ⟨b, off, cap, _, _, _, _, hq⟩ := h.sD
  simp [execOp, ho, resolve, invoke, builtin, Builtin.len_, run_underlying hu, hq, goInt]
theorem step_capS {t : TypeId} {x : Operand} {i sz k n c e sz' bytes : Nat} (ho : o.op = .call { callee := .builtin .cap, args := #[x], argTypes := #[t] }) (hx : evalS S x = .s i sz k n c)
    (ht : slB C.P t = some (e, sz', bytes)) (hd : dOk C.n o.dst = true) : Step C ops o S ⟨.t (.v (.int .i64 c)), [], []⟩ := by
  have hmx : x ∈ o.op.operands := by simp [ho, Op.operands, Call.operands]
  refine Step.pure hd (by simp [AV.ids]) fun β w ok ρ hρ _ _ => ⟨_, ?_, .t (.v _)⟩
  obtain ⟨hu, _⟩ := slB_spec ht
  have h := hρ x hmx
  rw [hx] at h
  obtain ⟨b, off, cap, _, _, _, _, hq⟩ := h.sD
  simp [execOp, ho, resolve, invoke, builtin, Builtin.cap_, run_underlying hu, hq, goInt]

/-- A bound of a slice expression: left out, or a number. -/
inductive BndO (S : AState) : Option Operand → Nat → Nat → Prop
  | none (d : Nat) : BndO S none d d
  | some {x : Operand} {d a : Nat} {k : IntKind} {n : Int} (h : evalS S x = .t (.v (.int k n))) (ha : n = a) : BndO S (some x) d a
theorem run_sliceBounds {P : Program} {w : World} {len cap a b e : Nat} {lo hi mx : Option Value} (hl : (lo = none ∧ a = 0) ∨ ∃ k, lo = some (.int k a)) (hh : (hi = none ∧ mx = none ∧ b = len) ∨ ∃ k, hi = some (.int k b))
    (hm : (mx = none ∧ e = cap) ∨ ∃ k, mx = some (.int k e)) (h1 : a ≤ b) (h2 : b ≤ e) (h3 : e ≤ cap) : (Instr.sliceBounds true len cap lo hi mx).run P w = .ok (a, b, e) w := by
  have e1 : (0 : Int) ≤ a ∧ (a : Int) ≤ b := ⟨by omega, by omega⟩
  have e2 : (0 : Int) ≤ b ∧ (b : Int) ≤ e := ⟨by omega, by omega⟩
  have e3 : (0 : Int) ≤ e ∧ (e : Int) ≤ cap := ⟨by omega, by omega⟩
  rcases hl with ⟨rfl, rfl⟩ | ⟨k1, rfl⟩ <;> rcases hh with ⟨rfl, hmn, rfl⟩ | ⟨k2, rfl⟩ <;> rcases hm with ⟨rfl, rfl⟩ | ⟨k3, rfl⟩ <;>
    first | (cases hmn; done) | simp [Instr.sliceBounds, Instr.sliceBound, asIntOf, e1, e2, e3, h1, h2, h3]
theorem step_sliceS {t : TypeId} {x : Operand} {lo hi mx : Option Operand} {i sz k n c e' bytes : Nat} (a b e : Nat) (ho : o.op = .slice t x lo hi mx) (hx : evalS S x = .s i sz k n c) (hlo : BndO S lo 0 a) (hhi : BndO S hi n b) (hmx : BndO S mx c e)
    (hn : hi = none → mx = none) (ht : slB C.P t = some (e', sz, bytes)) (h1 : a ≤ b) (h2 : b ≤ e) (h3 : e ≤ c) (hd : dOk C.n o.dst = true) : Step C ops o S ⟨.s i sz (k + a) (b - a) (e - a), [], []⟩ := by
  have hmm : x ∈ o.op.operands := by simp [ho, Op.operands]
  refine Step.pure hd (fun j hj => ⟨x, hmm, by rw [hx]; exact hj⟩) fun β w ok ρ hρ _ _ => ?_
  obtain ⟨hu, inf, hinf, hsz, _⟩ := slB_spec ht
  have h := hρ x hmm
  rw [hx] at h
  obtain ⟨g, off, cap, g1, g2, g3, g4, hq⟩ := h.sD
  have bl : ∀ (y : Option Operand) (d q : Nat), (∀ z, y = some z → z ∈ o.op.operands) → BndO S y d q → (y.map ρ = none ∧ y = none ∧ q = d) ∨ ∃ k, y.map ρ = some (.int k q) := by
    intro y d q hy hb
    cases hb with
    | none => exact .inl ⟨rfl, rfl, rfl⟩
    | some h ha =>
      have := hρ _ (hy _ rfl)
      rw [h] at this
      subst ha
      exact .inr ⟨_, by rw [Option.map_some, this.toV]⟩
  have b1 := bl lo 0 a (fun z hz => by subst hz; simp [ho, Op.operands]) hlo
  have b2 := bl hi n b (fun z hz => by subst hz; simp [ho, Op.operands]) hhi
  have b3 := bl mx c e (fun z hz => by subst hz; simp [ho, Op.operands]) hmx
  have hb : (Instr.sliceBounds true n c (lo.map ρ) (hi.map ρ) (mx.map ρ)).run C.P w = .ok (a, b, e) w := by
    refine run_sliceBounds ?_ ?_ ?_ h1 h2 h3
    · rcases b1 with ⟨p1, _, p3⟩ | p; exact .inl ⟨p1, p3⟩; exact .inr p
    · rcases b2 with ⟨p1, p2, p3⟩ | p; exact .inl ⟨p1, by rw [hn p2]; rfl, p3⟩; exact .inr p
    · rcases b3 with ⟨p1, _, p3⟩ | p; exact .inl ⟨p1, p3⟩; exact .inr p
  refine ⟨.slice (some ⟨g, if e = a then off else off + a * sz, none⟩) (b - a) (e - a), ?_, VRel.s (cap := cap) g1 (show (e - a) + (k + a) ≤ cap by omega) (Nat.sub_le_sub_right h2 a) (fun hc => ?_)⟩
  · simp only [execOp, ho, Instr.sliceAt, Sem.run_bind, run_underlying hu, Result.andThen_ok, hq, Instr.slice, hb, sizeOf, run_info hinf, Sem.run_pure, hsz]
    split <;> simp [add_plain']
  · rw [if_neg (by omega), g4 (by omega), Nat.add_mul]

/-! ### What copy and append read -/
inductive SrcR (S : AState) (sz m : Nat) : AV → Nat → List T → List Nat → Prop
  | s {j k n c E cap : Nat} {l : List T} (hm : S.mem j = some (.buf E sz cap l)) (hk : k + m ≤ l.length) (hn : m ≤ n) : SrcR S sz m (.s j sz k n c) n ((l.drop k).take m) [j]
  | h {j E : Nat} {l : List T} (hm : S.mem j = some (.row E sz l)) (hn : m ≤ l.length) : SrcR S sz m (.h j) l.length (l.take m) [j]
  | t {l : List T} {y : T} (hc : Conv y (.slice sz l)) (hn : m ≤ l.length) : SrcR S sz m (.t y) l.length (l.take m) []
theorem loadCells_sub {P : Program} {w : World} {ad : Addr} {vs : List Value} (h : ∀ j u, vs[j]? = some u → w.cell? (ad.add j) = some u) : (loadCells ad vs.length).run P w = .ok vs.toArray w := run_loadCells_list w ad vs h
theorem BufR.ones {w : World} {ok : Nat → Prop} {sz : Nat} {cells : List Value} {l : List T} (h : BufR w ok sz cells l) (hl : cells.length = l.length * sz) : ∀ v ∈ cells, v.oneCell' = true := by
  intro v hv
  obtain ⟨q, hq, rfl⟩ := List.getElem_of_mem hv
  have hz : 0 < sz := by
    rcases Nat.eq_zero_or_pos sz with h0 | h0
    · subst h0; simp at hl; subst hl; simp at hq
    · exact h0
  have hk : q / sz < l.length := Nat.div_lt_of_lt_mul (by rw [Nat.mul_comm, ← hl]; exact hq)
  have hj : q % sz < l[q / sz].cells.length := by rw [h.1]; exact Nat.mod_lt _ hz
  obtain ⟨u, e1, _, e3⟩ := h.2 (q / sz) hk (q % sz) hj
  rw [show q / sz * sz + q % sz = q from Nat.div_add_mod' q sz, List.getElem?_eq_getElem hq] at e1
  injection e1 with e1
  rw [e1]; exact e3
theorem SrcR.vals {S S₁ : AState} {sz m len : Nat} {y : AV} {r : List T} {looks : List Nat} (h : SrcR S sz m y len r looks) (hag : ∀ j ∈ looks, S₁.mem j = S.mem j) {β : Nat → Value} {a : Act} {w : World} (hb : SatB C β S₁ a w) {v : Value} (hv : VRel w (okS C S₁ β w) β v y) :
    ∃ ao c vs, v = .slice ao len c ∧ vs.length = m * sz ∧ r.length = m ∧ m ≤ len ∧ BufR w (okS C S₁ β w) sz vs r ∧ (Builtin.firstCells sz m v).run C.P w = .ok vs.toArray w := by
  have hfc : ∀ (ao : Option Addr) (n c : Nat) (vs : List Value), vs.length = m * sz → (0 < m * sz → ∃ ad, ao = some ad ∧ ∀ j u, vs[j]? = some u → w.cell? (ad.add j) = some u) → (Builtin.firstCells sz m (.slice ao n c)).run C.P w = .ok vs.toArray w := by
    intro ao n c vs hl ha
    by_cases h0 : 0 < m * sz
    · obtain ⟨ad, rfl, hc⟩ := ha h0
      simp only [Builtin.firstCells, ← hl]
      exact loadCells_sub hc
    · have : vs = [] := List.eq_nil_of_length_eq_zero (by omega)
      subst this
      have h0' : m * sz = 0 := by omega
      cases ao with
      | none => simp [Builtin.firstCells]
      | some ad => simp [Builtin.firstCells, h0', loadCells, loadCellsFrom]
  cases h with
  | @s j k n c E cap l hm hk hn =>
    obtain ⟨g, cur, g1, g2, g3, g4, g5, g6, g7, g8⟩ := hb.mem j _ ((hag j (by simp)).trans hm)
    obtain ⟨b, off, cap', s1, s2, s3, s4, rfl⟩ := hv.sD
    rw [g1] at s1; injection s1 with s1 _ s1'; injection s1 with s1; injection s1 with s1; subst s1; subst s1'
    have hB : BufR w (okS C S₁ β w) sz cur.toList l := ⟨g7, fun k hk j hj => by obtain ⟨u, k1, k2⟩ := g8 k hk j hj; exact ⟨u, by simpa using k1, k2⟩⟩
    have hfit : (k + m) * sz ≤ cur.size := by rw [g5]; exact Nat.mul_le_mul_right _ (by omega)
    rw [Nat.add_mul] at hfit
    refine ⟨_, _, (cur.toList.drop (k * sz)).take (m * sz), rfl, by simp; omega, by simp; omega, hn, hB.part hk, hfc _ _ _ _ (by simp; omega) (fun hp => ⟨_, rfl, fun q u hq => ?_⟩)⟩
    have hm0 : 0 < m := Nat.pos_of_mul_pos_right hp
    rw [add_plain', cell_of_block g3, s4 (by omega)]
    rw [List.getElem?_take] at hq
    split at hq
    · rw [List.getElem?_drop] at hq; simpa using hq
    · cases hq
  | @h j E l hm hn =>
    obtain ⟨cells, h1, h2, h3⟩ := hb.mem j _ ((hag j (by simp)).trans hm)
    have hB : BufR w (okS C S₁ β w) sz cells l := ⟨h2, h3⟩
    have hlen := h1.1
    have hle : m * sz ≤ cells.length := by rw [hlen]; exact Nat.mul_le_mul_right _ hn
    have hB2 := hB.part (k := 0) (m := m) (by omega)
    simp only [Nat.zero_mul, List.drop_zero] at hB2
    obtain ⟨ao, c, hq, hcell⟩ : ∃ ao c, v = .slice ao l.length c ∧ (0 < m * sz → ∃ ad, ao = some ad ∧ ∀ q u, (cells.take (m * sz))[q]? = some u → w.cell? (ad.add q) = some u) := by
      rw [hv.hD]
      rcases h1.2 with ⟨e1, e2⟩ | ⟨g, cap, cur, e1, _⟩
      · refine ⟨none, 0, by rw [e1, e2], fun hp => ?_⟩
        have : m = 0 := by omega
        subst this; simp at hp
      · refine ⟨_, cap, e1, fun hp => ⟨_, rfl, fun q u hq => ?_⟩⟩
        have h1' := h1
        rw [e1] at h1'
        rw [List.getElem?_take] at hq
        split at hq
        · have hlt : q < l.length * sz := by have := (List.getElem?_eq_some_iff.1 hq).1; omega
          rw [add_plain', Nat.zero_add, h1'.cellAt q hlt, hq]
        · cases hq
    subst hq
    exact ⟨ao, c, cells.take (m * sz), rfl, by simp; omega, by simp; omega, hn, hB2, hfc _ _ _ _ (by simp; omega) hcell⟩
  | @t l y hc hn =>
    obtain ⟨ao, c, cells, rfl, hlen, h1, h2, ha, h3⟩ := (hc.reads hv.tD).news
    have hB : BufR w (okS C S₁ β w) sz cells l := ⟨h2, h3⟩
    have hle : m * sz ≤ cells.length := by rw [hlen]; exact Nat.mul_le_mul_right _ hn
    have hB2 := hB.part (k := 0) (m := m) (by omega)
    simp only [Nat.zero_mul, List.drop_zero] at hB2
    refine ⟨ao, c, cells.take (m * sz), rfl, by simp; omega, by simp; omega, hn, hB2, hfc _ _ _ _ (by simp; omega) (fun hp => ?_)⟩
    obtain ⟨ad, e1, _, e3⟩ := ha (by omega)
    refine ⟨ad, e1, fun q u hq => e3 q u ?_⟩
    rw [List.getElem?_take] at hq
    split at hq
    · exact hq
    · cases hq

/-! ### Writes into a buffer -/
theorem run_storeBuf {P : Program} {w : World} {g off k sz c E : Nat} {cur : Array Value} {vs : List Value} (hg : w.heap[g]? = some (.cells cur E (0, 0))) (hoff : c ≠ 0 → off = k * sz) (hc : c = 0 → vs = []) (hfit : k * sz + vs.length ≤ cur.size) (h1 : ∀ v ∈ vs, v.oneCell' = true) :
    (storeCells ⟨g, off, none⟩ vs).run P w = .ok () (w.setRow g (cur.toList.take (k * sz) ++ vs ++ cur.toList.drop (k * sz + vs.length)).toArray) := by
  by_cases h0 : c = 0
  · have := hc h0; subst this
    simp only [storeCells, List.append_nil, List.length_nil, Nat.add_zero, List.take_append_drop, Array.toArray_toList]
    rw [setRow_self w g cur E (0, 0) hg]; rfl
  · have := run_storeCells_at P g (k * sz) E vs 0 cur w hg (by omega) h1
    rw [hoff h0]
    simpa using this
theorem SatB.writeBuf {β : Nat → Value} {a : Act} {w : World} (h : SatB C β S a w) {i E sz cap : Nat} {l l' : List T} (hm : S.mem i = some (.buf E sz cap l)) {g : Nat} {cur : Array Value} (hβ : β i = .slice (some ⟨g, 0, none⟩) 0 cap) (hgb : C.w0.heap.size ≤ g)
    (hg : w.heap[g]? = some (.cells cur E (0, 0))) (hcap : cap ≤ maxLen) (cells' : List Value) (hsz : cells'.length = cap * sz) (hl' : l'.length ≤ cap) (hB : BufR w (okS C S β w) sz cells' l') : SatB C β (modS [(i, some (.buf E sz cap l'))] S) a (w.setRow g cells'.toArray) := by
  refine h.inplace i _ (.buf E sz cap l') hm (fun _ _ e => by cases e) (below_setRow h.below hgb _) (by simp) (fun b hb => setRow_other w g b _ (fun e => hb (by rw [hβ, e]; rfl))) (by simp [AObj.ids]) (fun ok' hok => ?_)
  have hB' := hB.mono (w' := w.setRow g cells'.toArray) (ok' := ok') (fun b hb => setRow_other w g b _ (fun e => (hok b hb).2 (by rw [hβ, e]; rfl))) (fun b hb => (hok b hb).1)
  exact ⟨g, cells'.toArray, hβ, hgb, setRow_heap w g cur _ E _ hg, hcap, by simpa using hsz, hl', hB'.1, fun k hk j hj => by obtain ⟨u, k1, k2⟩ := hB'.2 k hk j hj; exact ⟨u, by simpa using k1, k2⟩⟩
/-- Writing elements into a view of a buffer. -/
theorem SatB.putBuf {β : Nat → Value} {a : Act} {w : World} (h : SatB C β S a w) {i E sz cap k q c off : Nat} {l r : List T} (hm : S.mem i = some (.buf E sz cap l)) {g : Nat} {cap' : Nat} (hβ : β i = .slice (some ⟨g, 0, none⟩) 0 cap') (hc : c + k ≤ cap') (hoff : c ≠ 0 → off = k * sz)
    {vs : List Value} (hv : vs.length = r.length * sz) (hr : BufR w (okS C S β w) sz vs r) (hk : k ≤ l.length) (hfit : r.length ≤ c) :
    ∃ w', (storeCells ⟨g, off, none⟩ vs).run C.P w = .ok () w' ∧ SatB C β (modS [(i, some (.buf E sz cap (Abs.put l k r)))] S) a w' := by
  obtain ⟨g', cur, g1, g2, g3, g4, g5, g6, g7, g8⟩ := h.mem i _ hm
  rw [g1] at hβ; injection hβ with h1 _ h3; injection h1 with h1; injection h1 with h1; subst h1; subst h3
  have hB : BufR w (okS C S β w) sz cur.toList l := ⟨g7, fun k hk j hj => by obtain ⟨u, k1, k2⟩ := g8 k hk j hj; exact ⟨u, by simpa using k1, k2⟩⟩
  have hle : l.length * sz ≤ cur.toList.length := by simp only [Array.length_toList, g5]; exact Nat.mul_le_mul_right _ g6
  have hks : k * sz + vs.length ≤ cur.size := by
    rw [hv, ← Nat.add_mul, g5]; exact Nat.mul_le_mul_right _ (by omega)
  refine ⟨_, run_storeBuf (c := c) (k := k) (sz := sz) g3 hoff (fun h0 => ?_) hks (hr.ones hv), h.writeBuf hm g1 g2 g3 g4 _ ?_ ?_ (hB.put hr hv hk hle)⟩
  · have : r.length = 0 := by omega
    rw [this] at hv; simp at hv; exact hv
  · simp only [List.length_append, List.length_take, List.length_drop, Array.length_toList, g5] at hks ⊢
    omega
  · simp [Abs.put]; omega

theorem step_copyS {t t' : TypeId} {x y : Operand} {i sz k n c E cap e bytes m len : Nat} {l r : List T} {looks : List Nat} (ho : o.op = .call { callee := .builtin .copy, args := #[x, y], argTypes := #[t, t'] }) (hx : evalS S x = .s i sz k n c) (hm : S.mem i = some (.buf E sz cap l))
    (hs : SrcR S sz m (evalS S y) len r looks) (hmn : m = min len n) (hk : k ≤ l.length) (ht : slB C.P t = some (e, sz, bytes)) (hd : dOk C.n o.dst = true) :
    Step C ops o S ⟨.t (.v (.int .i64 m)), [(i, some (.buf E sz cap (Abs.put l k r)))], looks⟩ := by
  have hmx : x ∈ o.op.operands := by simp [ho, Op.operands, Call.operands]
  have hmy : y ∈ o.op.operands := by simp [ho, Op.operands, Call.operands]
  intro S₁ hsl hmm a w hsat
  obtain ⟨β, hb⟩ := hsat
  have hm1 : S₁.mem i = some (.buf E sz cap l) := (hmm i (.inr (by simp [hasKey, Nat.beq_refl]))).1.trans hm
  have hvx := hb.eval x
  have hvy := hb.eval y
  rw [agree_eval hsl hmx, hx] at hvx
  rw [agree_eval hsl hmy] at hvy
  obtain ⟨ao, cc, vs, hq, hl, hrl, hml, hB, hf⟩ := hs.vals (fun j hj => (hmm j (.inl hj)).1) hb hvy
  obtain ⟨g, off, cap', s1, s2, s3, s4, hqx⟩ := hvx.sD
  obtain ⟨w', hst, hsb⟩ := hb.putBuf (c := c) (q := 0) hm1 s1 s2 s4 (by rw [hrl]; exact hl) hB hk (by rw [hrl]; omega)
  obtain ⟨hu, inf, hinf, hsz, _⟩ := slB_spec ht
  have hrun : (execOp a.eval o).run C.P w = .ok (.value (.int .i64 m)) w' := by
    rw [hq] at hf
    have hmin : Nat.min len n = m := hmn.symm
    simp [execOp, ho, resolve, invoke, builtin, Builtin.copy_, run_underlying hu, hqx, hq, Builtin.lenOf, sizeOf, run_info hinf, hsz, hmin, hf, hst, goInt]
  refine Oper.wp_value hrun ?_
  rw [ap_modS]
  refine ⟨β, hsb.put o.dst _ (.t (.v (.int .i64 m))) (fun _ _ _ => .t (.v _)) (fun z hz => .inl ?_) (by simp [AV.ids])⟩
  rw [hz] at hd; simpa [dOk] using hd

/-- append to a view that has room, of elements that may lie in the same buffer. -/
theorem step_appendS {t t' : TypeId} {x y : Operand} {i sz k n c E cap e e' bytes sz' bytes' len : Nat} {l r : List T} {looks : List Nat} (ho : o.op = .call { callee := .builtin .append, args := #[x, y], argTypes := #[t, t'] }) (hx : evalS S x = .s i sz k n c) (hm : S.mem i = some (.buf E sz cap l))
    (hs : SrcR S sz len (evalS S y) len r looks) (hk : k + n ≤ l.length) (hroom : n + len ≤ c) (ht : slB C.P t = some (e, sz, bytes)) (ht' : slB C.P t' = some (e', sz', bytes')) (hd : dOk C.n o.dst = true) :
    Step C ops o S ⟨.s i sz k (n + len) c, [(i, some (.buf E sz cap (Abs.put l (k + n) r)))], looks⟩ := by
  have hmx : x ∈ o.op.operands := by simp [ho, Op.operands, Call.operands]
  have hmy : y ∈ o.op.operands := by simp [ho, Op.operands, Call.operands]
  intro S₁ hsl hmm a w hsat
  obtain ⟨β, hb⟩ := hsat
  have hm1 : S₁.mem i = some (.buf E sz cap l) := (hmm i (.inr (by simp [hasKey, Nat.beq_refl]))).1.trans hm
  have hvx := hb.eval x
  have hvy := hb.eval y
  rw [agree_eval hsl hmx, hx] at hvx
  rw [agree_eval hsl hmy] at hvy
  obtain ⟨ao, cc, vs, hq, hl, hrl, hml, hB, hf⟩ := hs.vals (fun j hj => (hmm j (.inl hj)).1) hb hvy
  obtain ⟨g, off, cap', s1, s2, s3, s4, hqx⟩ := hvx.sD
  obtain ⟨w', hst, hsb⟩ := hb.putBuf (c := c - n) (k := k + n) (off := off + n * sz) (q := 0) hm1 s1 (by omega) (fun h0 => by rw [s4 (by omega), Nat.add_mul]) (by rw [hrl]; exact hl) hB hk (by rw [hrl]; omega)
  obtain ⟨hu, inf, hinf, hsz, _⟩ := slB_spec ht
  obtain ⟨hu', _⟩ := slB_spec ht'
  have hrun : (execOp a.eval o).run C.P w = .ok (.value (.slice (some ⟨g, off, none⟩) (n + len) c)) w' := by
    rw [hq] at hf
    simp [execOp, ho, resolve, invoke, builtin, Builtin.append_, run_underlying hu, run_underlying hu', hqx, hq, Builtin.lenOf, sizeOf, run_info hinf, hsz, hf, hroom, add_plain', hst]
  refine Oper.wp_value hrun ?_
  rw [ap_modS]
  refine ⟨β, hsb.put o.dst _ (.s i sz k (n + len) c) (fun _ _ _ => .s s1 s2 hroom s4) (fun z hz => .inl ?_) (fun j hj => ?_)⟩
  · rw [hz] at hd; simpa [dOk] using hd
  · simp only [AV.ids, List.mem_singleton] at hj; subst hj
    simp [modS, hasKey, Nat.beq_refl]

end Go.Proofs.Ytnemmdbafngppaa.Abs
