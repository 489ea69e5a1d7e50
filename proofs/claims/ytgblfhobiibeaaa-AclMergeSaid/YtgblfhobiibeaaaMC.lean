/- Parts of this proof, one after the other; each says what it proves. No condition. -/
import Derived.Test.YtgblfhobiibeaaaMB
import Derived.Lib.Overlaps
import Derived.ChangeMaps4
import Derived.ChangeArms
import Derived.OpenShut
import Derived.DataReads
/- Abstract symbolic execution, part 17: operations on buffers. No condition. -/
set_option linter.unusedVariables false
set_option linter.unusedSimpArgs false
namespace Go.Proofs.Ytgblfhobiibeaaa.Abs
open Go.RowKit
variable {C : Ctx} {ops : Array Oper} {o : Oper} {S : AState}

theorem VRel.sD {w : World} {ok : Nat → Prop} {β : Nat → Value} {v : Value} {i sz k n c : Nat} (h : VRel w ok β v (.s i sz k n c)) :
    ∃ b off cap, β i = .slice (some ⟨b, 0, none⟩) 0 cap ∧ c + k ≤ cap ∧ n ≤ c ∧ (c ≠ 0 → off = k * sz) ∧ v = .slice (some ⟨b, off, none⟩) n c := by
  cases h with | s h1 h2 h3 h4 => exact ⟨_, _, _, h1, h2, h3, h4, rfl⟩

theorem step_lenS {t : TypeId} {x : Operand} {i sz k n c e sz' bytes : Nat} (ho : o.op = .call { callee := .builtin .len, args := #[x], argTypes := #[t] }) (hx : evalS S x = .s i sz k n c)
    (ht : slB C.P t = some (e, sz', bytes)) (hd : dOk C.n o.dst = true) : Step C ops o S ⟨.t (.v (.int .i64 n)), [], []⟩ := by
  have hmx : x ∈ o.op.operands := by simp [ho, Op.operands, Call.operands]
  refine Step.pure hd (by simp [AV.ids]) fun β w ok ρ hρ _ _ => ⟨_, ?_, .t (.v _)⟩
  obtain ⟨hu, _⟩ := slB_spec ht
  have h := hρ x hmx
  rw [hx] at h
  obtain ⟨b, off, cap, _, _, _, _, hq⟩ := h.sD
  simp [execOp, ho, resolve, invoke, builtin, Builtin.len_, run_underlying hu, hq, goInt]
theorem step_capS {t : TypeId} {x : Operand} {i sz k n c e sz' bytes : Nat} (ho : o.op = .call { callee := .builtin .cap, args := #[x], argTypes := #[t] }) (hx : evalS S x = .s i sz k n c)
    (ht : slB C.P t = some (e, sz', bytes)) (hd : dOk C.n o.dst = true) : Step C ops o S ⟨.t (.v (.int .i64 c)), [], []⟩ := by
  have hmx : x ∈ o.op.operands := by simp [ho, Op.operands, Call.operands]
  refine Step.pure hd (by simp [AV.ids]) fun β w ok ρ hρ _ _ => ⟨_, ?_, .t (.v _)⟩
  obtain ⟨hu, _⟩ := slB_spec ht
  have h := hρ x hmx
  rw [hx] at h
  obtain ⟨b, off, cap, _, _, _, _, hq⟩ := h.sD
  simp [execOp, ho, resolve, invoke, builtin, Builtin.cap_, run_underlying hu, hq, goInt]

/-- A bound of a slice expression: left out, or a number. -/
inductive BndO (S : AState) : Option Operand → Nat → Nat → Prop
  | none (d : Nat) : BndO S none d d
  | some {x : Operand} {d a : Nat} {k : IntKind} {n : Int} (h : evalS S x = .t (.v (.int k n))) (ha : n = a) : BndO S (some x) d a
theorem run_sliceBounds {P : Program} {w : World} {len cap a b e : Nat} {lo hi mx : Option Value} (hl : (lo = none ∧ a = 0) ∨ ∃ k, lo = some (.int k a)) (hh : (hi = none ∧ mx = none ∧ b = len) ∨ ∃ k, hi = some (.int k b))
    (hm : (mx = none ∧ e = cap) ∨ ∃ k, mx = some (.int k e)) (h1 : a ≤ b) (h2 : b ≤ e) (h3 : e ≤ cap) : (Instr.sliceBounds true len cap lo hi mx).run P w = .ok (a, b, e) w := by
  have e1 : (0 : Int) ≤ a ∧ (a : Int) ≤ b := ⟨by omega, by omega⟩
  have e2 : (0 : Int) ≤ b ∧ (b : Int) ≤ e := ⟨by omega, by omega⟩
  have e3 : (0 : Int) ≤ e ∧ (e : Int) ≤ cap := ⟨by omega, by omega⟩
  rcases hl with ⟨rfl, rfl⟩ | ⟨k1, rfl⟩ <;> rcases hh with ⟨rfl, hmn, rfl⟩ | ⟨k2, rfl⟩ <;> rcases hm with ⟨rfl, rfl⟩ | ⟨k3, rfl⟩ <;>
    first | (cases hmn; done) | simp [Instr.sliceBounds, Instr.sliceBound, asIntOf, e1, e2, e3, h1, h2, h3]
theorem step_sliceS {t : TypeId} {x : Operand} {lo hi mx : Option Operand} {i sz k n c e' bytes : Nat} (a b e : Nat) (ho : o.op = .slice t x lo hi mx) (hx : evalS S x = .s i sz k n c) (hlo : BndO S lo 0 a) (hhi : BndO S hi n b) (hmx : BndO S mx c e)
    (hn : hi = none → mx = none) (ht : slB C.P t = some (e', sz, bytes)) (h1 : a ≤ b) (h2 : b ≤ e) (h3 : e ≤ c) (hd : dOk C.n o.dst = true) : Step C ops o S ⟨.s i sz (k + a) (b - a) (e - a), [], []⟩ := by
  have hmm : x ∈ o.op.operands := by simp [ho, Op.operands]
  refine Step.pure hd (fun j hj => ⟨x, hmm, by rw [hx]; exact hj⟩) fun β w ok ρ hρ _ _ => ?_
  obtain ⟨hu, inf, hinf, hsz, _⟩ := slB_spec ht
  have h := hρ x hmm
  rw [hx] at h
  obtain ⟨g, off, cap, g1, g2, g3, g4, hq⟩ := h.sD
  have bl : ∀ (y : Option Operand) (d q : Nat), (∀ z, y = some z → z ∈ o.op.operands) → BndO S y d q → (y.map ρ = none ∧ y = none ∧ q = d) ∨ ∃ k, y.map ρ = some (.int k q) := by
    intro y d q hy hb
    cases hb with
    | none => exact .inl ⟨rfl, rfl, rfl⟩
    | some h ha =>
      have := hρ _ (hy _ rfl)
      rw [h] at this
      subst ha
      exact .inr ⟨_, by rw [Option.map_some, this.toV]⟩
  have b1 := bl lo 0 a (fun z hz => by subst hz; simp [ho, Op.operands]) hlo
  have b2 := bl hi n b (fun z hz => by subst hz; simp [ho, Op.operands]) hhi
  have b3 := bl mx c e (fun z hz => by subst hz; simp [ho, Op.operands]) hmx
  have hb : (Instr.sliceBounds true n c (lo.map ρ) (hi.map ρ) (mx.map ρ)).run C.P w = .ok (a, b, e) w := by
    refine run_sliceBounds ?_ ?_ ?_ h1 h2 h3
    · rcases b1 with ⟨p1, _, p3⟩ | p; exact .inl ⟨p1, p3⟩; exact .inr p
    · rcases b2 with ⟨p1, p2, p3⟩ | p; exact .inl ⟨p1, by rw [hn p2]; rfl, p3⟩; exact .inr p
    · rcases b3 with ⟨p1, _, p3⟩ | p; exact .inl ⟨p1, p3⟩; exact .inr p
  refine ⟨.slice (some ⟨g, if e = a then off else off + a * sz, none⟩) (b - a) (e - a), ?_, VRel.s (cap := cap) g1 (show (e - a) + (k + a) ≤ cap by omega) (Nat.sub_le_sub_right h2 a) (fun hc => ?_)⟩
  · simp only [execOp, ho, Instr.sliceAt, Sem.run_bind, run_underlying hu, Result.andThen_ok, hq, Instr.slice, hb, sizeOf, run_info hinf, Sem.run_pure, hsz]
    split <;> simp [add_plain']
  · rw [if_neg (by omega), g4 (by omega), Nat.add_mul]

/-! ### What copy and append read -/
inductive SrcR (S : AState) (sz m : Nat) : AV → Nat → List T → List Nat → Prop
  | s {j k n c E cap : Nat} {l : List T} (hm : S.mem j = some (.buf E sz cap l)) (hk : k + m ≤ l.length) (hn : m ≤ n) : SrcR S sz m (.s j sz k n c) n ((l.drop k).take m) [j]
  | h {j E : Nat} {l : List T} (hm : S.mem j = some (.row E sz l)) (hn : m ≤ l.length) : SrcR S sz m (.h j) l.length (l.take m) [j]
  | t {l : List T} {y : T} (hc : Conv y (.slice sz l)) (hn : m ≤ l.length) : SrcR S sz m (.t y) l.length (l.take m) []
theorem loadCells_sub {P : Program} {w : World} {ad : Addr} {vs : List Value} (h : ∀ j u, vs[j]? = some u → w.cell? (ad.add j) = some u) : (loadCells ad vs.length).run P w = .ok vs.toArray w := run_loadCells_list w ad vs h
theorem BufR.ones {w : World} {ok : Nat → Prop} {sz : Nat} {cells : List Value} {l : List T} (h : BufR w ok sz cells l) (hl : cells.length = l.length * sz) : ∀ v ∈ cells, v.oneCell' = true := by
  intro v hv
  obtain ⟨q, hq, rfl⟩ := List.getElem_of_mem hv
  have hz : 0 < sz := by
    rcases Nat.eq_zero_or_pos sz with h0 | h0
    · subst h0; simp at hl; subst hl; simp at hq
    · exact h0
  have hk : q / sz < l.length := Nat.div_lt_of_lt_mul (by rw [Nat.mul_comm, ← hl]; exact hq)
  have hj : q % sz < l[q / sz].cells.length := by rw [h.1]; exact Nat.mod_lt _ hz
  obtain ⟨u, e1, _, e3⟩ := h.2 (q / sz) hk (q % sz) hj
  rw [show q / sz * sz + q % sz = q from Nat.div_add_mod' q sz, List.getElem?_eq_getElem hq] at e1
  injection e1 with e1
  rw [e1]; exact e3
theorem SrcR.vals {S S₁ : AState} {sz m len : Nat} {y : AV} {r : List T} {looks : List Nat} (h : SrcR S sz m y len r looks) (hag : ∀ j ∈ looks, S₁.mem j = S.mem j) {β : Nat → Value} {a : Act} {w : World} (hb : SatB C β S₁ a w) {v : Value} (hv : VRel w (okS C S₁ β w) β v y) :
    ∃ ao c vs, v = .slice ao len c ∧ vs.length = m * sz ∧ r.length = m ∧ m ≤ len ∧ BufR w (okS C S₁ β w) sz vs r ∧ (Builtin.firstCells sz m v).run C.P w = .ok vs.toArray w := by
  have hfc : ∀ (ao : Option Addr) (n c : Nat) (vs : List Value), vs.length = m * sz → (0 < m * sz → ∃ ad, ao = some ad ∧ ∀ j u, vs[j]? = some u → w.cell? (ad.add j) = some u) → (Builtin.firstCells sz m (.slice ao n c)).run C.P w = .ok vs.toArray w := by
    intro ao n c vs hl ha
    by_cases h0 : 0 < m * sz
    · obtain ⟨ad, rfl, hc⟩ := ha h0
      simp only [Builtin.firstCells, ← hl]
      exact loadCells_sub hc
    · have : vs = [] := List.eq_nil_of_length_eq_zero (by omega)
      subst this
      have h0' : m * sz = 0 := by omega
      cases ao with
      | none => simp [Builtin.firstCells]
      | some ad => simp [Builtin.firstCells, h0', loadCells, loadCellsFrom]
  cases h with
  | @s j k n c E cap l hm hk hn =>
    obtain ⟨g, cur, g1, g2, g3, g4, g5, g6, g7, g8⟩ := hb.mem j _ ((hag j (by simp)).trans hm)
    obtain ⟨b, off, cap', s1, s2, s3, s4, rfl⟩ := hv.sD
    rw [g1] at s1; injection s1 with s1 _ s1'; injection s1 with s1; injection s1 with s1; subst s1; subst s1'
    have hB : BufR w (okS C S₁ β w) sz cur.toList l := ⟨g7, fun k hk j hj => by obtain ⟨u, k1, k2⟩ := g8 k hk j hj; exact ⟨u, by simpa using k1, k2⟩⟩
    have hfit : (k + m) * sz ≤ cur.size := by rw [g5]; exact Nat.mul_le_mul_right _ (by omega)
    rw [Nat.add_mul] at hfit
    refine ⟨_, _, (cur.toList.drop (k * sz)).take (m * sz), rfl, by simp; omega, by simp; omega, hn, hB.part hk, hfc _ _ _ _ (by simp; omega) (fun hp => ⟨_, rfl, fun q u hq => ?_⟩)⟩
    have hm0 : 0 < m := Nat.pos_of_mul_pos_right hp
    rw [add_plain', cell_of_block g3, s4 (by omega)]
    rw [List.getElem?_take] at hq
    split at hq
    · rw [List.getElem?_drop] at hq; simpa using hq
    · cases hq
  | @h j E l hm hn =>
    obtain ⟨cells, h1, h2, h3⟩ := hb.mem j _ ((hag j (by simp)).trans hm)
    have hB : BufR w (okS C S₁ β w) sz cells l := ⟨h2, h3⟩
    have hlen := h1.1
    have hle : m * sz ≤ cells.length := by rw [hlen]; exact Nat.mul_le_mul_right _ hn
    have hB2 := hB.part (k := 0) (m := m) (by omega)
    simp only [Nat.zero_mul, List.drop_zero] at hB2
    obtain ⟨ao, c, hq, hcell⟩ : ∃ ao c, v = .slice ao l.length c ∧ (0 < m * sz → ∃ ad, ao = some ad ∧ ∀ q u, (cells.take (m * sz))[q]? = some u → w.cell? (ad.add q) = some u) := by
      rw [hv.hD]
      rcases h1.2 with ⟨e1, e2⟩ | ⟨g, cap, cur, e1, _⟩
      · refine ⟨none, 0, by rw [e1, e2], fun hp => ?_⟩
        have : m = 0 := by omega
        subst this; simp at hp
      · refine ⟨_, cap, e1, fun hp => ⟨_, rfl, fun q u hq => ?_⟩⟩
        have h1' := h1
        rw [e1] at h1'
        rw [List.getElem?_take] at hq
        split at hq
        · have hlt : q < l.length * sz := by have := (List.getElem?_eq_some_iff.1 hq).1; omega
          rw [add_plain', Nat.zero_add, h1'.cellAt q hlt, hq]
        · cases hq
    subst hq
    exact ⟨ao, c, cells.take (m * sz), rfl, by simp; omega, by simp; omega, hn, hB2, hfc _ _ _ _ (by simp; omega) hcell⟩
  | @t l y hc hn =>
    obtain ⟨ao, c, cells, rfl, hlen, h1, h2, ha, h3⟩ := (hc.reads hv.tD).news
    have hB : BufR w (okS C S₁ β w) sz cells l := ⟨h2, h3⟩
    have hle : m * sz ≤ cells.length := by rw [hlen]; exact Nat.mul_le_mul_right _ hn
    have hB2 := hB.part (k := 0) (m := m) (by omega)
    simp only [Nat.zero_mul, List.drop_zero] at hB2
    refine ⟨ao, c, cells.take (m * sz), rfl, by simp; omega, by simp; omega, hn, hB2, hfc _ _ _ _ (by simp; omega) (fun hp => ?_)⟩
    obtain ⟨ad, e1, _, e3⟩ := ha (by omega)
    refine ⟨ad, e1, fun q u hq => e3 q u ?_⟩
    rw [List.getElem?_take] at hq
    split at hq
    · exact hq
    · cases hq

/-! ### Writes into a buffer -/
theorem run_storeBuf {P : Program} {w : World} {g off k sz c E : Nat} {cur : Array Value} {vs : List Value} (hg : w.heap[g]? = some (.cells cur E (0, 0))) (hoff : c ≠ 0 → off = k * sz) (hc : c = 0 → vs = []) (hfit : k * sz + vs.length ≤ cur.size) (h1 : ∀ v ∈ vs, v.oneCell' = true) :
    (storeCells ⟨g, off, none⟩ vs).run P w = .ok () (w.setRow g (cur.toList.take (k * sz) ++ vs ++ cur.toList.drop (k * sz + vs.length)).toArray) := by
  by_cases h0 : c = 0
  · have := hc h0; subst this
    simp only [storeCells, List.append_nil, List.length_nil, Nat.add_zero, List.take_append_drop, Array.toArray_toList]
    rw [setRow_self w g cur E (0, 0) hg]; rfl
  · have := run_storeCells_at P g (k * sz) E vs 0 cur w hg (by omega) h1
    rw [hoff h0]
    simpa using this
theorem SatB.writeBuf {β : Nat → Value} {a : Act} {w : World} (h : SatB C β S a w) {i E sz cap : Nat} {l l' : List T} (hm : S.mem i = some (.buf E sz cap l)) {g : Nat} {cur : Array Value} (hβ : β i = .slice (some ⟨g, 0, none⟩) 0 cap) (hgb : C.w0.heap.size ≤ g)
    (hg : w.heap[g]? = some (.cells cur E (0, 0))) (hcap : cap ≤ maxLen) (cells' : List Value) (hsz : cells'.length = cap * sz) (hl' : l'.length ≤ cap) (hB : BufR w (okS C S β w) sz cells' l') : SatB C β (modS [(i, some (.buf E sz cap l'))] S) a (w.setRow g cells'.toArray) := by
  refine h.inplace i _ (.buf E sz cap l') hm (fun _ _ e => by cases e) (below_setRow h.below hgb _) (by simp) (fun b hb => setRow_other w g b _ (fun e => hb (by rw [hβ, e]; rfl))) (by simp [AObj.ids]) (fun ok' hok => ?_)
  have hB' := hB.mono (w' := w.setRow g cells'.toArray) (ok' := ok') (fun b hb => setRow_other w g b _ (fun e => (hok b hb).2 (by rw [hβ, e]; rfl))) (fun b hb => (hok b hb).1)
  exact ⟨g, cells'.toArray, hβ, hgb, setRow_heap w g cur _ E _ hg, hcap, by simpa using hsz, hl', hB'.1, fun k hk j hj => by obtain ⟨u, k1, k2⟩ := hB'.2 k hk j hj; exact ⟨u, by simpa using k1, k2⟩⟩
/-- Writing elements into a view of a buffer. -/
theorem SatB.putBuf {β : Nat → Value} {a : Act} {w : World} (h : SatB C β S a w) {i E sz cap k q c off : Nat} {l r : List T} (hm : S.mem i = some (.buf E sz cap l)) {g : Nat} {cap' : Nat} (hβ : β i = .slice (some ⟨g, 0, none⟩) 0 cap') (hc : c + k ≤ cap') (hoff : c ≠ 0 → off = k * sz)
    {vs : List Value} (hv : vs.length = r.length * sz) (hr : BufR w (okS C S β w) sz vs r) (hk : k ≤ l.length) (hfit : r.length ≤ c) :
    ∃ w', (storeCells ⟨g, off, none⟩ vs).run C.P w = .ok () w' ∧ SatB C β (modS [(i, some (.buf E sz cap (Abs.put l k r)))] S) a w' := by
  obtain ⟨g', cur, g1, g2, g3, g4, g5, g6, g7, g8⟩ := h.mem i _ hm
  rw [g1] at hβ; injection hβ with h1 _ h3; injection h1 with h1; injection h1 with h1; subst h1; subst h3
  have hB : BufR w (okS C S β w) sz cur.toList l := ⟨g7, fun k hk j hj => by obtain ⟨u, k1, k2⟩ := g8 k hk j hj; exact ⟨u, by simpa using k1, k2⟩⟩
  have hle : l.length * sz ≤ cur.toList.length := by simp only [Array.length_toList, g5]; exact Nat.mul_le_mul_right _ g6
  have hks : k * sz + vs.length ≤ cur.size := by
    rw [hv, ← Nat.add_mul, g5]; exact Nat.mul_le_mul_right _ (by omega)
  refine ⟨_, run_storeBuf (c := c) (k := k) (sz := sz) g3 hoff (fun h0 => ?_) hks (hr.ones hv), h.writeBuf hm g1 g2 g3 g4 _ ?_ ?_ (hB.put hr hv hk hle)⟩
  · have : r.length = 0 := by omega
    rw [this] at hv; simp at hv; exact hv
  · simp only [List.length_append, List.length_take, List.length_drop, Array.length_toList, g5] at hks ⊢
    omega
  · simp [Abs.put]; omega

theorem step_copyS {t t' : TypeId} {x y : Operand} {i sz k n c E cap e bytes m len : Nat} {l r : List T} {looks : List Nat} (ho : o.op = .call { callee := .builtin .copy, args := #[x, y], argTypes := #[t, t'] }) (hx : evalS S x = .s i sz k n c) (hm : S.mem i = some (.buf E sz cap l))
    (hs : SrcR S sz m (evalS S y) len r looks) (hmn : m = min len n) (hk : k ≤ l.length) (ht : slB C.P t = some (e, sz, bytes)) (hd : dOk C.n o.dst = true) :
    Step C ops o S ⟨.t (.v (.int .i64 m)), [(i, some (.buf E sz cap (Abs.put l k r)))], looks⟩ := by
  have hmx : x ∈ o.op.operands := by simp [ho, Op.operands, Call.operands]
  have hmy : y ∈ o.op.operands := by simp [ho, Op.operands, Call.operands]
  intro S₁ hsl hmm a w hsat
  obtain ⟨β, hb⟩ := hsat
  have hm1 : S₁.mem i = some (.buf E sz cap l) := (hmm i (.inr (by simp [hasKey, Nat.beq_refl]))).1.trans hm
  have hvx := hb.eval x
  have hvy := hb.eval y
  rw [agree_eval hsl hmx, hx] at hvx
  rw [agree_eval hsl hmy] at hvy
  obtain ⟨ao, cc, vs, hq, hl, hrl, hml, hB, hf⟩ := hs.vals (fun j hj => (hmm j (.inl hj)).1) hb hvy
  obtain ⟨g, off, cap', s1, s2, s3, s4, hqx⟩ := hvx.sD
  obtain ⟨w', hst, hsb⟩ := hb.putBuf (c := c) (q := 0) hm1 s1 s2 s4 (by rw [hrl]; exact hl) hB hk (by rw [hrl]; omega)
  obtain ⟨hu, inf, hinf, hsz, _⟩ := slB_spec ht
  have hrun : (execOp a.eval o).run C.P w = .ok (.value (.int .i64 m)) w' := by
    rw [hq] at hf
    have hmin : Nat.min len n = m := hmn.symm
    simp [execOp, ho, resolve, invoke, builtin, Builtin.copy_, run_underlying hu, hqx, hq, Builtin.lenOf, sizeOf, run_info hinf, hsz, hmin, hf, hst, goInt]
  refine Oper.wp_value hrun ?_
  rw [ap_modS]
  refine ⟨β, hsb.put o.dst _ (.t (.v (.int .i64 m))) (fun _ _ _ => .t (.v _)) (fun z hz => .inl ?_) (by simp [AV.ids])⟩
  rw [hz] at hd; simpa [dOk] using hd

/-- append to a view that has room, of elements that may lie in the same buffer. -/
theorem step_appendS {t t' : TypeId} {x y : Operand} {i sz k n c E cap e e' bytes sz' bytes' len : Nat} {l r : List T} {looks : List Nat} (ho : o.op = .call { callee := .builtin .append, args := #[x, y], argTypes := #[t, t'] }) (hx : evalS S x = .s i sz k n c) (hm : S.mem i = some (.buf E sz cap l))
    (hs : SrcR S sz len (evalS S y) len r looks) (hk : k + n ≤ l.length) (hroom : n + len ≤ c) (ht : slB C.P t = some (e, sz, bytes)) (ht' : slB C.P t' = some (e', sz', bytes')) (hd : dOk C.n o.dst = true) :
    Step C ops o S ⟨.s i sz k (n + len) c, [(i, some (.buf E sz cap (Abs.put l (k + n) r)))], looks⟩ := by
  have hmx : x ∈ o.op.operands := by simp [ho, Op.operands, Call.operands]
  have hmy : y ∈ o.op.operands := by simp [ho, Op.operands, Call.operands]
  intro S₁ hsl hmm a w hsat
  obtain ⟨β, hb⟩ := hsat
  have hm1 : S₁.mem i = some (.buf E sz cap l) := (hmm i (.inr (by simp [hasKey, Nat.beq_refl]))).1.trans hm
  have hvx := hb.eval x
  have hvy := hb.eval y
  rw [agree_eval hsl hmx, hx] at hvx
  rw [agree_eval hsl hmy] at hvy
  obtain ⟨ao, cc, vs, hq, hl, hrl, hml, hB, hf⟩ := hs.vals (fun j hj => (hmm j (.inl hj)).1) hb hvy
  obtain ⟨g, off, cap', s1, s2, s3, s4, hqx⟩ := hvx.sD
  obtain ⟨w', hst, hsb⟩ := hb.putBuf (c := c - n) (k := k + n) (off := off + n * sz) (q := 0) hm1 s1 (by omega) (fun h0 => by rw [s4 (by omega), Nat.add_mul]) (by rw [hrl]; exact hl) hB hk (by rw [hrl]; omega)
  obtain ⟨hu, inf, hinf, hsz, _⟩ := slB_spec ht
  obtain ⟨hu', _⟩ := slB_spec ht'
  have hrun : (execOp a.eval o).run C.P w = .ok (.value (.slice (some ⟨g, off, none⟩) (n + len) c)) w' := by
    rw [hq] at hf
    simp [execOp, ho, resolve, invoke, builtin, Builtin.append_, run_underlying hu, run_underlying hu', hqx, hq, Builtin.lenOf, sizeOf, run_info hinf, hsz, hf, hroom, add_plain', hst]
  refine Oper.wp_value hrun ?_
  rw [ap_modS]
  refine ⟨β, hsb.put o.dst _ (.s i sz k (n + len) c) (fun _ _ _ => .s s1 s2 hroom s4) (fun z hz => .inl ?_) (fun j hj => ?_)⟩
  · rw [hz] at hd; simpa [dOk] using hd
  · simp only [AV.ids, List.mem_singleton] at hj; subst hj
    simp [modS, hasKey, Nat.beq_refl]

end Go.Proofs.Ytgblfhobiibeaaa.Abs

/- Abstract symbolic execution, part 18: more operations on buffers. No condition. -/
set_option linter.unusedVariables false
set_option linter.unusedSimpArgs false
namespace Go.Proofs.Ytgblfhobiibeaaa.Abs
open Go.RowKit
variable {C : Ctx} {ops : Array Oper} {o : Oper} {S : AState}

theorem BufR.pfx {w : World} {ok : Nat → Prop} {sz : Nat} {cells cells' : List Value} {l : List T} (h : BufR w ok sz cells l) (hp : ∀ q, q < l.length * sz → cells'[q]? = cells[q]?) : BufR w ok sz cells' l :=
  ⟨h.1, fun k hk j hj => by
    obtain ⟨v, e1, e2⟩ := h.2 k hk j hj
    exact ⟨v, by rw [hp _ (idx_lt hk (by rw [← h.1 k hk]; exact hj))]; exact e1, e2⟩⟩
theorem zero_ones {z : Array Value} {n : Nat} (h1 : z.toList.all Value.oneCell' = true) (hz : 0 < z.size) : ∀ v ∈ (Builtin.zeroCells z n).toList, v.oneCell' = true := by
  intro v hv
  simp only [Builtin.zeroCells, Array.toList_map, Array.toList_range, List.mem_map, List.mem_range] at hv
  obtain ⟨q, _, rfl⟩ := hv
  have hlt : q % z.size < z.size := Nat.mod_lt _ hz
  rw [List.all_eq_true] at h1
  refine h1 _ ?_
  simp [hlt]
theorem step_clearS {t : TypeId} {x : Operand} {i sz k n c E cap e bytes : Nat} {l : List T} {zs : List Value} (ho : o.op = .call { callee := .builtin .clear, args := #[x], argTypes := #[t] }) (hx : evalS S x = .s i sz k n c) (hm : S.mem i = some (.buf E sz cap l))
    (ht : slB C.P t = some (e, sz, bytes)) (hz : zeroB C.P e = some zs) (hzl : zs.length = sz) (hsz : Nat.blt 0 sz = true) (h1 : zs.all Value.oneCell' = true) (hd : dOk C.n o.dst = true) :
    Step C ops o S ⟨.junk, [(i, some (.buf E sz cap (l.take k)))], []⟩ := by
  have hmx : x ∈ o.op.operands := by simp [ho, Op.operands, Call.operands]
  have hsz' : 0 < sz := by simpa [Nat.blt_eq] using hsz
  intro S₁ hsl hmm a w hsat
  obtain ⟨β, hb⟩ := hsat
  have hm1 : S₁.mem i = some (.buf E sz cap l) := (hmm i (.inr (by simp [hasKey, Nat.beq_refl]))).1.trans hm
  have hvx := hb.eval x
  rw [agree_eval hsl hmx, hx] at hvx
  obtain ⟨g, off, cap', s1, s2, s3, s4, hqx⟩ := hvx.sD
  obtain ⟨g', cur, g1, g2, g3, g4, g5, g6, g7, g8⟩ := hb.mem i _ hm1
  rw [g1] at s1; injection s1 with q1 _ q3; injection q1 with q1; injection q1 with q1; subst q1; subst q3
  obtain ⟨hu, inf, hinf, hs, _⟩ := slB_spec ht
  obtain ⟨i', z, hi, hzz, rfl⟩ := zeroB_spec hz
  have hB : BufR w (okS C S₁ β w) sz cur.toList l := ⟨g7, fun k hk j hj => by obtain ⟨u, k1, k2⟩ := g8 k hk j hj; exact ⟨u, by simpa using k1, k2⟩⟩
  have hzs : z.cells.size = sz := by simpa using hzl
  let vs : List Value := if n = 0 then [] else (Builtin.zeroCells z.cells n).toList
  have hvl : vs.length = n * sz := by
    simp only [vs]; split
    · rename_i h; subst h; simp
    · simp [size_zeroCells, hzs]
  have hv1 : ∀ v ∈ vs, v.oneCell' = true := by
    simp only [vs]; split
    · simp
    · exact zero_ones h1 (by omega)
  have hkn : k * sz + vs.length ≤ cur.size := by rw [hvl, ← Nat.add_mul, g5]; exact Nat.mul_le_mul_right _ (by omega)
  have hv0 : c = 0 → vs = [] := by
    intro h0
    have h0' : n = 0 := by omega
    simp [vs, h0']
  have hst := run_storeBuf (P := C.P) (c := c) (k := k) (sz := sz) g3 s4 hv0 hkn hv1
  have hrun : (execOp a.eval o).run C.P w = .ok (.value (.tuple #[])) (w.setRow g' (cur.toList.take (k * sz) ++ vs ++ cur.toList.drop (k * sz + vs.length)).toArray) := by
    by_cases h0 : n = 0
    · have hvs : vs = [] := by simp [vs, h0]
      have hself : w.setRow g' (cur.toList.take (k * sz) ++ vs ++ cur.toList.drop (k * sz + vs.length)).toArray = w := by
        rw [hvs]
        simp only [List.append_nil, List.length_nil, Nat.add_zero, List.take_append_drop, Array.toArray_toList]
        exact setRow_self w g' cur E (0, 0) g3
      rw [hself]
      subst h0
      simp [execOp, ho, resolve, invoke, builtin, Builtin.clear_, run_underlying hu, hqx]
    · have hvs : vs = (Builtin.zeroCells z.cells n).toList := by simp [vs, h0]
      rw [hvs] at hst ⊢
      obtain ⟨n', rfl⟩ : ∃ n', n = n' + 1 := ⟨n - 1, by omega⟩
      simp [execOp, ho, resolve, invoke, builtin, Builtin.clear_, run_underlying hu, hqx, zeroValue, typeInfo, run_info hi, hi, hzz, hst]
  refine Oper.wp_value hrun ?_
  have hlen : (cur.toList.take (k * sz) ++ vs ++ cur.toList.drop (k * sz + vs.length)).length = cap * sz := by
    simp only [List.length_append, List.length_take, List.length_drop, Array.length_toList, g5] at hkn ⊢
    omega
  have hsb := hb.writeBuf (l' := l.take k) hm1 g1 g2 g3 g4 _ hlen (by simp; omega) (hB.take.pfx fun q hq => by
    have hq2 : q < k * sz := Nat.lt_of_lt_of_le hq (Nat.mul_le_mul_right _ (by simp; omega))
    have hq3 : q < (cur.toList.take (k * sz)).length := by simp; omega
    rw [List.append_assoc, List.getElem?_append_left hq3, List.getElem?_take_of_lt hq2])
  rw [ap_modS]
  refine ⟨β, hsb.put o.dst _ .junk (fun _ _ _ => .junk _) (fun z hz => .inr rfl) (by simp [AV.ids])⟩

/-- append of so many zeros to a view that has no room: a new row. -/
theorem step_appendZ {t ti : TypeId} {x y : Operand} {i d sz n c E cap e bytes cnt : Nat} {q : Int} {l : List T} {zs : List Value} (ze : T) (ho : o.op = .call { callee := .builtin .append, args := #[x, y], argTypes := #[t, ti] }) (hdst : o.dst = some d) (hx : evalS S x = .s i sz 0 n c) (hm : S.mem i = some (.buf E sz cap l))
    (hn : n ≤ l.length) (hy : evalS S y = .t (.v (.int .i64 q))) (hq : q = cnt) (hg : c < n + cnt) (ht : slB C.P t = some (e, sz, bytes)) (hti : intB C.P ti = some .i64) (hz : zeroB C.P e = some zs) (hzl : zs.length = sz) (hsz : Nat.blt 0 sz = true) (h1 : zs.all Value.oneCell' = true)
    (hze : ze.cells = zs.map T.v) (hb1 : Nat.blt 0 bytes = true) (hbytes : (n + cnt) * bytes ≤ 140737488355328) (hu : S.used d = false) (hd : dOk C.n o.dst = true) :
    Step C ops o S ⟨.h d, [(d, some (.row e sz (l.take n ++ List.replicate cnt ze)))], [i]⟩ := by
  have hmx : x ∈ o.op.operands := by simp [ho, Op.operands, Call.operands]
  have hmy : y ∈ o.op.operands := by simp [ho, Op.operands, Call.operands]
  have hsz' : 0 < sz := by simpa [Nat.blt_eq] using hsz
  have hb1' : 0 < bytes := by simpa [Nat.blt_eq] using hb1
  intro S₁ hsl hmm a w hsat
  obtain ⟨β, hb⟩ := hsat
  have hm1 : S₁.mem i = some (.buf E sz cap l) := (hmm i (.inl (by simp))).1.trans hm
  have hu1 : S₁.used d = false := by rw [(hmm d (.inr (by simp [hasKey, Nat.beq_refl]))).2]; exact hu
  have hvx := hb.eval x
  have hvy := hb.eval y
  rw [agree_eval hsl hmx, hx] at hvx
  rw [agree_eval hsl hmy, hy] at hvy
  have hyv : a.eval y = .int .i64 q := hvy.toV
  obtain ⟨g, off, cap', s1, s2, s3, s4, hqx⟩ := hvx.sD
  obtain ⟨g', cur, g1, g2, g3, g4, g5, g6, g7, g8⟩ := hb.mem i _ hm1
  rw [g1] at s1; injection s1 with q1 _ q3; injection q1 with q1; injection q1 with q1; subst q1; subst q3
  obtain ⟨hu', inf, hinf, hs, hby⟩ := slB_spec ht
  obtain ⟨i', z, hi, hzz, rfl⟩ := zeroB_spec hz
  have hii : inf = i' := by rw [hi] at hinf; injection hinf with h; exact h.symm
  subst hii
  have htiu : C.P.underlying ti = some (.int .i64) := by
    unfold intB at hti
    split at hti
    · rename_i k hk; injection hti with hti; subst hti; exact hk
    · cases hti
  have hB : BufR w (okS C S₁ β w) sz cur.toList l := ⟨g7, fun k hk j hj => by obtain ⟨u, k1, k2⟩ := g8 k hk j hj; exact ⟨u, by simpa using k1, k2⟩⟩
  have hzs : z.cells.size = sz := by simpa using hzl
  have hnfit : n * sz ≤ cur.size := by rw [g5]; exact Nat.mul_le_mul_right _ (by omega)
  have hcn : n + cnt ≤ (n + cnt) * bytes := Nat.le_mul_of_pos_right _ hb1'
  have hcnt0 : 0 < cnt := by omega
  -- the run
  let olds : List Value := cur.toList.take (n * sz)
  have hol : olds.length = n * sz := by simp [olds]; omega
  have hold : (Builtin.firstCells sz n (.slice (some ⟨g', off, none⟩) n c)).run C.P w.drew = .ok olds.toArray w.drew := by
    refine run_firstCells_some w.drew sz n ⟨g', off, none⟩ n c olds hol (fun j u hj => ?_)
    have hj' : j < n * sz := by rw [← hol]; exact (List.getElem?_eq_some_iff.1 hj).1
    have hc0 : c ≠ 0 := by
      intro e
      have h0' : n = 0 := by omega
      subst h0'; simp at hj'
    have h2 : w.drew.cell? ((⟨g', off, none⟩ : Addr).add j) = cur[j]? := by
      rw [add_plain', s4 hc0, Nat.zero_mul, Nat.zero_add]
      exact cell_of_block (w := w.drew) g3
    rw [h2]
    simp only [olds] at hj
    rw [List.getElem?_take_of_lt hj'] at hj
    simpa using hj
  have hw : IntKind.i64.wrap (cnt : Int) = cnt := by rw [wrap_in] <;> omega
  have hneg : ¬ ((cnt : Int) < 0) := by omega
  have h48i : ¬ (281474976710656 < (cnt : Int) * (inf.bytes : Int)) := by
    rw [← Int.natCast_mul, hby]
    have : cnt * bytes ≤ (n + cnt) * bytes := Nat.mul_le_mul_right _ (by omega)
    omega
  have hns : ¬ (cnt * inf.size = 0) := by rw [hs]; exact Nat.mul_ne_zero (by omega) (by omega)
  have hroom : ¬ (n + cnt ≤ c) := by omega
  have h63 : ¬ (9223372036854775807 < ((n : Int) + (cnt : Int))) := by omega
  have h48 : ¬ (281474976710656 < Builtin.nextslicecap (n + cnt) c * inf.bytes) := by
    rw [hby]; have := growslice_fits hg hbytes; omega
  have hold' : (Builtin.firstCells inf.size n (.slice (some ⟨g', off, none⟩) n c)).run C.P w.drew = .ok olds.toArray w.drew := by rw [hs]; exact hold
  have hrun : (execOp a.eval o).run C.P w = .ok (.value (.slice (some ⟨w.heap.size, 0, none⟩) (n + cnt) (grownCap w (n + cnt) c e)))
      (w.drew.alloc (.cells (olds.toArray ++ Builtin.zeroCells z.cells cnt ++ Builtin.zeroCells z.cells (grownCap w (n + cnt) c e - (n + cnt))) e)) := by
    simp [execOp, ho, resolve, invoke, builtin, Builtin.append_, run_underlying hu', run_underlying htiu, sizeOf, typeInfo, zeroValue, hi, hzz, asInt, asIntOf, hqx, hyv, hq, hw, hneg, hns, h48i, hroom, h63, h48, Question.forced, hold', newRow, grownCap]
  have hgc := grownCap_ge w (n + cnt) c e
  have hgm := grownCap_le_maxLen w (n + cnt) c e (by unfold maxLen; omega)
  have hbel : Below w.heap.size w (w.drew.alloc (.cells (olds.toArray ++ Builtin.zeroCells z.cells cnt ++ Builtin.zeroCells z.cells (grownCap w (n + cnt) c e - (n + cnt))) e)) :=
    ((Below.refl _ w).drew).alloc (Nat.le_refl _) _
  refine Oper.wp_value hrun ?_
  rw [ap_modS]
  have hzB : ∀ (w' : World) (ok : Nat → Prop), BufR w' ok sz (Builtin.zeroCells z.cells cnt).toList (List.replicate cnt ze) := by
    intro w' ok
    have hcl : ze.cells.length = sz := by rw [hze]; simpa using hzs
    refine ⟨fun k hk => by rw [List.getElem_replicate]; exact hcl, fun k hk j hj => ?_⟩
    have hk' : k < cnt := by simpa using hk
    rw [List.getElem_replicate] at hj
    have hj' : j < sz := by rw [← hcl]; exact hj
    have hlt : k * sz + j < cnt * sz := idx_lt hk' hj'
    have hjz : j < z.cells.size := by omega
    have hmod : (k * sz + j) % z.cells.size = j := by rw [hzs, Nat.mul_comm, Nat.mul_add_mod, Nat.mod_eq_of_lt hj']
    refine ⟨z.cells[j], ?_, ?_, ?_⟩
    · simp only [Builtin.zeroCells, Array.toList_map, Array.toList_range, List.getElem?_map, List.getElem?_range, hzs]
      rw [List.getElem?_range hlt]
      simp only [Option.map_some, ← hzs, hmod]
      simp [hjz, Nat.mod_eq_of_lt hjz]
    · simp only [List.getElem_replicate, hze, List.getElem_map, Array.getElem_toList]
      exact .v _
    · rw [List.all_eq_true] at h1; exact h1 _ (by simp)
  obtain ⟨β', e1, e2, e3, e4, hsb⟩ := hb.new d hu1 (.row e sz (l.take n ++ List.replicate cnt ze)) (.slice (some ⟨w.heap.size, 0, none⟩) (n + cnt) (grownCap w (n + cnt) c e)) hbel (fun b hbl => by simp [blk] at hbl; omega) (by simp [AObj.ids])
    (fun ok' β' k1 k2 k3 k4 => by
      have hB1 : BufR w (okS C S₁ β w) sz olds (l.take n) := hB.take.pfx fun x hx => by
        have : x < n * sz := Nat.lt_of_lt_of_le hx (Nat.mul_le_mul_right _ (by simp; omega))
        simp only [olds]; rw [List.getElem?_take_of_lt this]
      have hB1' := hB1.mono (w' := w.drew.alloc (.cells (olds.toArray ++ Builtin.zeroCells z.cells cnt ++ Builtin.zeroCells z.cells (grownCap w (n + cnt) c e - (n + cnt))) e)) (ok' := ok') (fun b hb' => hbel.block b hb'.2.1) k1
      have hz2 := hzB (w.drew.alloc (.cells (olds.toArray ++ Builtin.zeroCells z.cells cnt ++ Builtin.zeroCells z.cells (grownCap w (n + cnt) c e - (n + cnt))) e)) ok'
      have hlt : (l.take n).length = n := by simp; omega
      obtain ⟨r1, r2⟩ := rows_append (xs := olds) (cells := (Builtin.zeroCells z.cells cnt).toList) (by rw [hol, hlt]) hB1'.1 hz2.1 hB1'.2 hz2.2
      refine ⟨olds ++ (Builtin.zeroCells z.cells cnt).toList, ?_, r1, r2⟩
      rw [k3]
      refine ⟨by simp [hol, hlt, size_zeroCells, hzs, Nat.add_mul], .inr ⟨w.heap.size, grownCap w (n + cnt) c e, _, by simp [hlt], hb.below.size, heap_alloc_at _ _, by simp [hlt]; omega, hgm, ?_, ?_⟩⟩
      · simp only [Array.size_append, size_zeroCells, hzs, List.size_toArray, hol]
        rw [← Nat.add_mul, ← Nat.add_mul]
        congr 1
        omega
      · have hl2 : (l.take n ++ List.replicate cnt ze).length * sz = (olds ++ (Builtin.zeroCells z.cells cnt).toList).length := by simp [hol, hlt, size_zeroCells, hzs, Nat.add_mul]
        rw [hl2]
        simp only [Array.toList_append]
        rw [List.take_left'] <;> simp)
  refine ⟨β', hsb.put o.dst _ (.h d) (fun _ _ _ => by rw [← e1]; exact .h d) (fun z' hz' => .inl ?_) (fun j hj => ?_)⟩
  · rw [hz'] at hd; simpa [dOk] using hd
  · simp only [AV.ids, List.mem_singleton] at hj; subst hj; rw [modS_one.2]; simp

end Go.Proofs.Ytgblfhobiibeaaa.Abs

/- Abstract symbolic execution, part 19: elements of buffers and rows read and written, slices.overlaps, copies of rows. No condition. -/
set_option linter.unusedVariables false
set_option linter.unusedSimpArgs false
namespace Go.Proofs.Ytgblfhobiibeaaa.Abs
open Go.RowKit
variable {C : Ctx} {ops : Array Oper} {o : Oper} {S : AState}

theorem step_indexAddrS {t : TypeId} {x ix : Operand} {i sz k n c E bytes : Nat} {kk : IntKind} {q : Int} (m : Nat) (ho : o.op = .indexAddr t x ix) (hx : evalS S x = .s i sz k n c)
    (hi : evalS S ix = .t (.v (.int kk q))) (hq : q = m) (ht : slB C.P t = some (E, sz, bytes)) (h1 : m < n) (hd : dOk C.n o.dst = true) :
    Step C ops o S ⟨.e i ((k + m) * sz), [], []⟩ := by
  have hmx : x ∈ o.op.operands := by simp [ho, Op.operands]
  have hmi : ix ∈ o.op.operands := by simp [ho, Op.operands]
  refine Step.pure hd (fun j hj => ⟨x, hmx, by rw [hx]; exact hj⟩) fun β w ok ρ hρ _ _ => ?_
  obtain ⟨hu, inf, hinf, hsz, _⟩ := slB_spec ht
  have e2 : ρ ix = .int kk q := by have := hρ ix hmi; rw [hi] at this; exact this.toV
  have h := hρ x hmx
  rw [hx] at h
  obtain ⟨b, off, cap, s1, s2, s3, s4, hqx⟩ := h.sD
  subst hq
  have hlt : (m : Int) < n := by omega
  refine ⟨.pointer (some ⟨b, (k + m) * sz, none⟩), ?_, .e s1⟩
  simp [execOp, ho, hqx, e2, Instr.indexAt, asIntOf, run_underlying hu, sizeOf, typeInfo, hinf, hsz, hlt, h1, Nat.not_le.2 h1, add_plain', s4 (show c ≠ 0 by omega), Nat.add_mul]

/-- A pointer into a buffer. -/
theorem buf_cell {β : Nat → Value} {w : World} {ok : Nat → Prop} {i E sz cap : Nat} {l : List T} (hO : ORel C ok β w i (.buf E sz cap l)) {v : Value} {off : Nat} (hv : VRel w ok β v (.e i off)) :
    ∃ g cur, v = .pointer (some ⟨g, off, none⟩) ∧ β i = .slice (some ⟨g, 0, none⟩) 0 cap ∧ C.w0.heap.size ≤ g ∧ w.heap[g]? = some (.cells cur E (0, 0)) ∧ cap ≤ maxLen ∧ cur.size = cap * sz ∧ l.length ≤ cap ∧ BufR w ok sz cur.toList l := by
  obtain ⟨g, cur, g1, g2, g3, g4, g5, g6, g7, g8⟩ := hO
  obtain ⟨b, n, c, h4, h5⟩ := hv.eD
  rw [g1] at h4; injection h4 with q1 _ _; injection q1 with q1; injection q1 with q1; subst q1
  exact ⟨g, cur, h5, g1, g2, g3, g4, g5, g6, g7, fun k hk j hj => by obtain ⟨u, k1, k2⟩ := g8 k hk j hj; exact ⟨u, by simpa using k1, k2⟩⟩
theorem step_loadB1 {t : TypeId} {x : Operand} {i E sz cap off k j : Nat} {l : List T} {v c : T} (ho : o.op = .load t x) (hx : evalS S x = .e i off) (hm : S.mem i = some (.buf E sz cap l)) (hoff : off = k * sz + j)
    (ht : tyB C.P t = some (false, 1)) (hv : l[k]? = some v) (hc : v.cells[j]? = some c) (hd : dOk C.n o.dst = true) : Step C ops o S ⟨.t c, [], [i]⟩ := by
  have hmx : x ∈ o.op.operands := by simp [ho, Op.operands]
  refine Step.read hm hd (by simp [AV.ids]) fun β w ok ρ hO hρ _ => ?_
  have h := hρ x hmx
  rw [hx] at h
  obtain ⟨g, cur, h1, _, _, h4, _, h5, _, h6⟩ := buf_cell hO h
  obtain ⟨hk, rfl⟩ := List.getElem?_eq_some_iff.1 hv
  obtain ⟨hj, rfl⟩ := List.getElem?_eq_some_iff.1 hc
  obtain ⟨u, e1, e2, e3⟩ := h6.2 k hk j hj
  subst hoff
  have hcell : w.cell? ⟨g, k * sz + j, none⟩ = some u := by rw [cell_of_block h4]; simpa using e1
  exact ⟨u, by simp [execOp, ho, h1, Instr.loadAt, Instr.sureAddr, run_loadVar1 ht hcell], .t e2⟩
theorem step_loadBN {t : TypeId} {x : Operand} {i E sz cap off k : Nat} {l : List T} {v : T} (ho : o.op = .load t x) (hx : evalS S x = .e i off) (hm : S.mem i = some (.buf E sz cap l)) (hoff : off = k * sz)
    (ht : tyB C.P t = some (true, sz)) (hv : l[k]? = some v) (hd : dOk C.n o.dst = true) : Step C ops o S ⟨.t (.agg v.cells), [], [i]⟩ := by
  have hmx : x ∈ o.op.operands := by simp [ho, Op.operands]
  refine Step.read hm hd (by simp [AV.ids]) fun β w ok ρ hO hρ _ => ?_
  have h := hρ x hmx
  rw [hx] at h
  obtain ⟨g, cur, h1, _, _, h4, _, h5, _, h6⟩ := buf_cell hO h
  obtain ⟨hk, rfl⟩ := List.getElem?_eq_some_iff.1 hv
  have hz := h6.1 k hk
  subst hoff
  have hcell : ∀ j, j < sz → w.cell? ((⟨g, k * sz, none⟩ : Addr).add j) = some (cur.getD (k * sz + j) undef) := fun j hj => by
    obtain ⟨u, e1, e2, e3⟩ := h6.2 k hk j (by omega)
    rw [add_plain', cell_of_block h4, Array.getD_eq_getD_getElem?]
    have e1' : cur[k * sz + j]? = some u := by simpa using e1
    rw [e1']; rfl
  refine ⟨.agg ((List.range sz).map fun j => cur.getD (k * sz + j) undef).toArray, by simp [execOp, ho, h1, Instr.loadAt, Instr.sureAddr, run_loadVarN _ ht hcell], .t (.agg (by simp [hz]) (fun j hj => ?_) fun j j1 j2 => ?_)⟩
  · have hj' : j < sz := by simpa using hj
    obtain ⟨u, e1, e2, e3⟩ := h6.2 k hk j (by omega)
    have e1' : cur[k * sz + j]? = some u := by simpa using e1
    simp [Array.getD_eq_getD_getElem?, e1', e3]
  · obtain ⟨u, e1, e2, e3⟩ := h6.2 k hk j j2
    have e1' : cur[k * sz + j]? = some u := by simpa using e1
    simpa [Array.getD_eq_getD_getElem?, e1'] using e2
/-- A whole element written. -/
theorem step_storeBN {t : TypeId} {x y : Operand} {i E sz cap off k : Nat} {l : List T} {cs : List T} {bb : Bool} (ho : o.op = .store t x y) (hx : evalS S x = .e i off) (hm : S.mem i = some (.buf E sz cap l)) (hoff : off = k * sz) (hk : k < l.length)
    (hy : evalS S y = .t (.agg cs)) (ht : tyB C.P t = some (bb, sz)) (hl : cs.length = sz) (hd : o.dst = none) : Step C ops o S ⟨.junk, [(i, some (.buf E sz cap (l.set k (.agg cs))))], []⟩ := by
  have hmx : x ∈ o.op.operands := by simp [ho, Op.operands]
  have hmy : y ∈ o.op.operands := by simp [ho, Op.operands]
  intro S₁ hsl hmm a w hsat
  obtain ⟨β, hb⟩ := hsat
  have hm1 : S₁.mem i = some (.buf E sz cap l) := (hmm i (.inr (by simp [hasKey, Nat.beq_refl]))).1.trans hm
  have hvx := hb.eval x
  have hvy := hb.eval y
  rw [agree_eval hsl hmx, hx] at hvx
  rw [agree_eval hsl hmy, hy] at hvy
  obtain ⟨g, cur, h1, g1, g2, h4, g4, h5, g6, h6⟩ := buf_cell (hb.mem i _ hm1) hvx
  obtain ⟨vs, hye, e2, e3, e4⟩ := hvy.tD.aggD
  have hB : BufR w (okS C S₁ β w) sz vs.toList [.agg cs] := by
    refine ⟨fun q hq => by simp at hq; subst hq; exact hl, fun q hq j hj => ?_⟩
    simp at hq; subst hq
    have hj' : j < cs.length := hj
    have hjv : j < vs.size := by omega
    exact ⟨vs[j], by simp [hjv], e3 j hjv hj', e4 j hjv⟩
  have hvl : vs.toList.length = [T.agg cs].length * sz := by simp; omega
  obtain ⟨w', hst, hsb⟩ := hb.putBuf (k := k) (c := cap - k) (off := off) (q := 0) hm1 g1 (by omega) (fun _ => hoff) hvl hB (by omega) (by simp; omega)
  have hput : Abs.put l k [.agg cs] = l.set k (.agg cs) := by
    unfold Abs.put
    rw [List.set_eq_take_append_cons_drop, if_pos hk]; simp
  have hr : (execOp a.eval o).run C.P w = .ok .skip w' := by
    have hst' : (storeCells ⟨g, off, none⟩ (a.eval y).cells.toList).run C.P w = .ok () w' := by rw [hye]; exact hst
    have hcs : (a.eval y).cells.size = sz := by rw [hye]; simpa [Value.cells] using hvl
    simp [execOp, ho, h1, Instr.storeAt, Instr.sureAddr, run_storeVar ht hcs hst']
  refine Oper.wp_skip hr ?_
  rw [ap_modS, hd]
  rw [hput] at hsb
  exact ⟨β, hsb.put none undef .junk (fun _ h => by cases h) (fun _ h => by cases h) (by simp [AV.ids])⟩

/-- 'slices.overlaps' of a row and a buffer. -/
theorem step_overlaps {f : FuncId} {fn : Func} {x y : Operand} {tys : Array TypeId} {t t' i j E E' sz sz' cap k n c e bytes : Nat} {l r : List T} (ho : o.op = .call { callee := .value (.func f), args := #[x, y], argTypes := tys })
    (hf : C.P.funcs[f]? = some fn) (hnm : (fn.name == "runtime.NumGoroutine") = false) (hb0 : fn.body.isNone = true) (hn : Extern.findNext fn = none) (he : Extern.find fn = some (Extern.SlicesOverlaps.overlaps #[t, t] #[t']))
    (hx : evalS S x = .h j) (hmj : S.mem j = some (.row E' sz' r)) (hr : 0 < r.length) (hy : evalS S y = .s i sz k n c) (hmi : S.mem i = some (.buf E sz cap l)) (hsz : Nat.blt 0 sz = true) (hcap : 0 < cap) (ht : slB C.P t = some (e, sz, bytes)) (hij : Nat.beq j i = false) (hd : dOk C.n o.dst = true) :
    Step C ops o S ⟨.t (.v (.bool false)), [], [i, j]⟩ := by
  have hmx : x ∈ o.op.operands := by simp [ho, Op.operands, Call.operands]
  have hmy : y ∈ o.op.operands := by simp [ho, Op.operands, Call.operands]
  have hsz' : 0 < sz := by simpa [Nat.blt_eq] using hsz
  intro S₁ hsl hmm a w hsat
  obtain ⟨β, hb⟩ := hsat
  have hm1 : S₁.mem i = some (.buf E sz cap l) := (hmm i (.inl (by simp))).1.trans hmi
  have hm2 : S₁.mem j = some (.row E' sz' r) := (hmm j (.inl (by simp))).1.trans hmj
  have hvx := hb.eval x
  have hvy := hb.eval y
  rw [agree_eval hsl hmx, hx] at hvx
  rw [agree_eval hsl hmy, hy] at hvy
  obtain ⟨g, cur, g1, g2, g3, g4, g5, g6, _⟩ := hb.mem i _ hm1
  obtain ⟨b, off, cap', s1, s2, s3, s4, hqy⟩ := hvy.sD
  rw [g1] at s1; injection s1 with q1 _ q3; injection q1 with q1; injection q1 with q1; subst q1; subst q3
  obtain ⟨cells, h1, _⟩ := hb.mem j _ hm2
  rcases h1.2 with ⟨_, h0⟩ | ⟨gr, capr, curr, hg1, hg2, hg3, _⟩
  · omega
  · have hne : gr ≠ g := by
      intro e
      have hji : j ≠ i := fun e => by subst e; rw [Nat.beq_refl] at hij; cases hij
      exact hb.apart j i _ _ hm2 hm1 hji gr (by rw [hg1]; rfl) (by rw [g1, e]; rfl)
    obtain ⟨hu, inf, hinf, hsi, _⟩ := slB_spec ht
    have hqx : a.eval x = .slice (some ⟨gr, 0, none⟩) r.length capr := by rw [hvx.hD, hg1]
    have hov := Lib.run_overlaps_apart (P := C.P) w t t' e hu sz (fun w => by simp [sizeOf, typeInfo, hinf, hsi]) ⟨gr, 0, none⟩ ⟨g, off, none⟩ r.length capr n c hne E' E curr.size cur.size
      (by simp [World.shape?, hg3]) (by simp [World.shape?, g3]) (by rw [g5]; exact Nat.mul_ne_zero (by omega) (by omega)) (by simp [World.frozen?, hg3]) (by simp [World.frozen?, hg3])
    have hcf := run_callFunc_extern (P := C.P) hf hnm hb0 hn he #[.slice (some ⟨gr, 0, none⟩) r.length capr, .slice (some ⟨g, off, none⟩) n c] w
    rw [hov] at hcf
    simp only [Result.andThen_ok] at hcf
    have hrun : (execOp a.eval o).run C.P w = .ok (.value (.bool false)) w := by
      have ex : a.eval x = .slice (some ⟨gr, 0, none⟩) r.length capr := hqx
      have ey : a.eval y = .slice (some ⟨g, off, none⟩) n c := hqy
      have ef : a.eval (.func f) = .func (.func f) #[] #[] := rfl
      simp [execOp, ho, resolve, ef, ex, ey, Deferred.ofValue, invoke, hcf]
    refine Oper.wp_value hrun ?_
    rw [ap_pure]
    refine ⟨β, hb.put o.dst _ (.t (.v (.bool false))) (fun _ _ _ => .t (.v _)) (fun z hz => .inl ?_) (by simp [AV.ids])⟩
    rw [hz] at hd; simpa [dOk] using hd

end Go.Proofs.Ytgblfhobiibeaaa.Abs

/- Abstract symbolic execution, part 20: slices compared with nil, branches on a Bool that is not known. No condition. -/
set_option linter.unusedVariables false
set_option linter.unusedSimpArgs false
namespace Go.Proofs.Ytgblfhobiibeaaa.Abs
open Go.RowKit
variable {C : Ctx} {ops : Array Oper} {o : Oper} {S : AState}

theorem AT.condU {c : Operand} {x y : Code} {Q : Exit → AState → Prop} (hc : evalS S c = .ub) (h1 : AT C x Q S) (h2 : AT C y Q S) : AT C (.cond c x y) Q S := by
  intro a w hs
  have hs' := hs
  obtain ⟨β, hb⟩ := hs'
  have hv := hb.eval c
  rw [hc] at hv
  obtain ⟨b, hb2⟩ : ∃ b, a.eval c = .bool b := by
    generalize a.eval c = v at hv
    cases hv with | ub b => exact ⟨b, rfl⟩
  exact wp_cond_split hb2 (fun _ => h1 a w hs) (fun _ => h2 a w hs)

theorem run_eqNil {P : Program} {w : World} {t e : TypeId} {a : Option Addr} {n c : Nat} (hu : P.underlying t = some (.slice e)) : (Op.equal t (.slice a n c) (.slice none 0 0)).run P w = .ok a.isNone w := by
  have key : ∀ d, (Op.equalIn (d + 1) t (.slice a n c) (.slice none 0 0)).run P w = .ok a.isNone w := by
    intro d
    unfold Op.equalIn
    cases a <;> simp [run_underlying hu]
  exact key 9999
theorem step_eqNil {t t' : TypeId} {x : Operand} {x' : T} {l : List T} {e sz bytes sz' : Nat} (ho : o.op = .binOp .eql t x (.const (.slice none 0 0)) t') (hx : evalS S x = .t x') (hc : Conv x' (.slice sz' l)) (ht : slB C.P t = some (e, sz, bytes)) (hd : dOk C.n o.dst = true) : Step C ops o S ⟨.ub, [], []⟩ := by
  have hmx : x ∈ o.op.operands := by simp [ho, Op.operands]
  refine Step.pure hd (by simp [AV.ids]) fun β w ok ρ hρ hcst _ => ?_
  obtain ⟨hu, _⟩ := slB_spec ht
  have h := hρ x hmx
  rw [hx] at h
  obtain ⟨a, c, cells, hq, _⟩ := (hc.reads h.tD).news
  refine ⟨.bool a.isNone, ?_, .ub _⟩
  simp only [execOp, ho, hq, hcst, Sem.run_bind, eqGuard, binOp, run_eqNil hu, Result.andThen_ok, Sem.run_pure]
  simp
theorem step_eqNilF {t t' : TypeId} {x : Operand} {x' : T} {l : List T} {e sz bytes sz' : Nat} (ho : o.op = .binOp .eql t x (.const (.slice none 0 0)) t') (hx : evalS S x = .t x') (hc : Conv x' (.slice sz' l)) (hpos : 0 < l.length) (hsz : Nat.blt 0 sz' = true) (ht : slB C.P t = some (e, sz, bytes)) (hd : dOk C.n o.dst = true) : Step C ops o S ⟨.t (.v (.bool false)), [], []⟩ := by
  have hmx : x ∈ o.op.operands := by simp [ho, Op.operands]
  refine Step.pure hd (by simp [AV.ids]) fun β w ok ρ hρ hcst _ => ?_
  obtain ⟨hu, _⟩ := slB_spec ht
  have h := hρ x hmx
  rw [hx] at h
  obtain ⟨a, c, cells, hq, _, _, _, ha, _⟩ := (hc.reads h.tD).news
  obtain ⟨ad, rfl, _⟩ := ha (Nat.mul_pos hpos (by simpa [Nat.blt_eq] using hsz))
  refine ⟨.bool false, ?_, .t (.v _)⟩
  simp only [execOp, ho, hq, hcst, Sem.run_bind, eqGuard, binOp, run_eqNil hu, Result.andThen_ok, Sem.run_pure]
  simp

/-- 's[lo:hi]' of a row of the call's own, the value not used. -/
theorem step_sliceHJ {t : TypeId} {x : Operand} {lo hi mx : Option Operand} {i E sz e' bytes : Nat} {l : List T} (a b : Nat) (ho : o.op = .slice t x lo hi mx) (hx : evalS S x = .h i) (hm : S.mem i = some (.row E sz l)) (hlo : BndO S lo 0 a) (hhi : BndO S hi l.length b) (hmx : mx = none)
    (ht : slB C.P t = some (e', sz, bytes)) (h1 : a ≤ b) (h2 : b ≤ l.length) (hd : dOk C.n o.dst = true) : Step C ops o S ⟨.junk, [], [i]⟩ := by
  subst hmx
  have hmm : x ∈ o.op.operands := by simp [ho, Op.operands]
  refine Step.read hm hd (by simp [AV.ids]) fun β w ok ρ hO hρ _ => ?_
  obtain ⟨hu, inf, hinf, hsz, _⟩ := slB_spec ht
  have h := hρ x hmm
  rw [hx] at h
  obtain ⟨ad, c, hq, hc⟩ : ∃ ad c, ρ x = .slice ad l.length c ∧ l.length ≤ c := by
    rw [h.hD]
    obtain ⟨cells, h1, _⟩ := hO
    rcases h1.2 with ⟨h2, h3⟩ | ⟨g, cap, cur, h2, _, _, h3, _⟩
    · exact ⟨none, 0, by rw [h2, h3], by omega⟩
    · exact ⟨_, cap, h2, h3⟩
  have bl : ∀ (y : Option Operand) (d q : Nat), (∀ z, y = some z → z ∈ o.op.operands) → BndO S y d q → (y.map ρ = none ∧ y = none ∧ q = d) ∨ ∃ k, y.map ρ = some (.int k q) := by
    intro y d q hy hb
    cases hb with
    | none => exact .inl ⟨rfl, rfl, rfl⟩
    | some h ha =>
      have := hρ _ (hy _ rfl)
      rw [h] at this
      subst ha
      exact .inr ⟨_, by rw [Option.map_some, this.toV]⟩
  have b1 := bl lo 0 a (fun z hz => by subst hz; simp [ho, Op.operands]) hlo
  have b2 := bl hi l.length b (fun z hz => by subst hz; simp [ho, Op.operands]) hhi
  have hb : (Instr.sliceBounds true l.length c (lo.map ρ) (hi.map ρ) none).run C.P w = .ok (a, b, c) w := by
    refine run_sliceBounds ?_ ?_ (.inl ⟨rfl, rfl⟩) h1 (by omega) (Nat.le_refl _)
    · rcases b1 with ⟨p1, _, p3⟩ | p; exact .inl ⟨p1, p3⟩; exact .inr p
    · rcases b2 with ⟨p1, p2, p3⟩ | p; exact .inl ⟨p1, rfl, p3⟩; exact .inr p
  refine ⟨.slice (if c = a then ad else ad.map (·.add (a * sz))) (b - a) (c - a), ?_, .junk _⟩
  simp only [execOp, ho, Instr.sliceAt, Sem.run_bind, run_underlying hu, Result.andThen_ok, hq, Instr.slice, Option.map_none, hb, sizeOf, run_info hinf, Sem.run_pure, hsz]

/-- A loop, with what is kept as a proposition. -/
theorem AT.loopP {c : Code} {Q : Exit → AState → Prop} {ι : Type} (P : ι → Prop) (I : ι → AState) (μ : ι → Nat) (i₀ : ι) (hp : P i₀) (h₀ : ∀ a w, Sat C S a w → Sat C (I i₀) a w)
    (round : ∀ i, P i → AT C c (nextQ (fun S' => ∃ j, P j ∧ μ j < μ i ∧ ∀ a w, Sat C S' a w → Sat C (I j) a w) Q) (I i)) : AT C (.loop c) Q S := by
  refine AT.loop (ι := { i : ι // P i }) (fun i => I i.1) (fun i => μ i.1) ⟨i₀, hp⟩ h₀ (fun i => ?_)
  refine AT.mono (round i.1 i.2) (fun e S' hq => ?_)
  cases e with
  | normal => obtain ⟨j, hj, h1, h2⟩ := hq; exact ⟨⟨j, hj⟩, h1, h2⟩
  | _ => exact hq

/-- 'AT.openRow', the elements and their number spelled anew. -/
theorem AT.openRow' {c : Code} {Q : Exit → AState → Prop} (x i d E sz : Nat) {l : List T} (hx : S.slot x = .h i) (hm : S.mem i = some (.row E sz l)) (l' : List T) (n : Nat) (hl : l = l') (hn : l'.length = n) (hpos : 0 < n) (hu : S.used d = false)
    (h : ∀ cap, n ≤ cap → cap ≤ maxLen → AT C c Q { modS [(d, some (.buf E sz cap l')), (i, none)] S with slot := putS (some x) (.s d sz 0 n cap) S.slot }) : AT C c Q S := by
  subst hl; subst hn
  exact AT.openRow x i d E sz hx hm hpos hu h

/-! ### Plain facts on lists -/
theorem findIdx_found {p : T → Bool} {l : List T} {i : Nat} (h : i < l.length) (hp : p l[i] = true) (hb : ∀ j (h : j < l.length), j < i → p l[j] = false) : l.findIdx? p = some i := by
  rw [List.findIdx?_eq_some_iff_getElem]
  exact ⟨h, hp, fun j hj => by simp [hb j (by omega) hj]⟩
theorem findIdx_no {p : T → Bool} {l : List T} (hb : ∀ j (h : j < l.length), p l[j] = false) : l.findIdx? p = none := by
  rw [List.findIdx?_eq_none_iff]
  intro x hx
  obtain ⟨j, hj, rfl⟩ := List.getElem_of_mem hx
  simp [hb j hj]
theorem filter_of_none {p : T → Bool} {l : List T} (h : l.findIdx? p = none) : l.filter (fun x => !p x) = l := by
  rw [List.findIdx?_eq_none_iff] at h
  rw [List.filter_eq_self]
  intro x hx; simp [h x hx]
theorem delete_list {l : List T} {a b : Nat} (ha : a ≤ b) (hb : b ≤ l.length) : ((Abs.put l (0 + 0 + (a - 0)) ((l.drop (0 + b)).take (l.length - b))).take (0 + (a - 0 + (l.length - b)))).take (a - 0 + (l.length - b)) = l.take a ++ l.drop b := by
  have h1 : (l.drop (0 + b)).take (l.length - b) = l.drop b := by rw [Nat.zero_add, List.take_of_length_le (by simp)]
  rw [h1, Abs.put, List.take_take, List.append_assoc]
  have h2 : (l.take (0 + 0 + (a - 0))) = l.take a := by simp
  rw [h2, ← List.append_assoc, List.take_left' (by simp; omega)]
theorem put_get {l src : List T} {p : Nat} (hp : p ≤ l.length) (q : Nat) : (Abs.put l p src)[q]? = if q < p then l[q]? else if q < p + src.length then src[q - p]? else l[q]? := by
  have hl : (l.take p).length = p := by simp; omega
  unfold Abs.put
  rw [List.append_assoc]
  by_cases h1 : q < p
  · rw [if_pos h1, List.getElem?_append_left (by omega), List.getElem?_take_of_lt h1]
  · rw [if_neg h1, List.getElem?_append_right (by omega), hl]
    by_cases h2 : q < p + src.length
    · rw [if_pos h2, List.getElem?_append_left (by omega)]
    · rw [if_neg h2, List.getElem?_append_right (by omega), List.getElem?_drop]
      congr 1; omega
theorem ins_get {l : List T} {k : Nat} {x : T} (hk : k ≤ l.length) (q : Nat) : (l.take k ++ x :: l.drop k)[q]? = if q < k then l[q]? else if q = k then some x else l[q - 1]? := by
  have hl : (l.take k).length = k := by simp; omega
  by_cases h1 : q < k
  · rw [if_pos h1, List.getElem?_append_left (by omega), List.getElem?_take_of_lt h1]
  · rw [if_neg h1, List.getElem?_append_right (by omega), hl]
    by_cases h2 : q = k
    · rw [if_pos h2]; subst h2; simp
    · rw [if_neg h2, show q - k = (q - k - 1) + 1 from by omega, List.getElem?_cons_succ, List.getElem?_drop]
      congr 1; omega
theorem insert_list1 {l : List T} {k : Nat} {x ze : T} (hk : k < l.length) :
    (Abs.put (Abs.put (l.take (k - 0) ++ List.replicate (l.length + 1 - k) ze) (0 + k) ([x].take 1)) (0 + (k + 1)) ((l.drop (0 + k)).take (l.length - k))).take (k - 0 + (l.length + 1 - k)) = l.take k ++ x :: l.drop k := by
  have hl0 : (l.take (k - 0) ++ List.replicate (l.length + 1 - k) ze).length = l.length + 1 := by simp; omega
  have hl1 : (Abs.put (l.take (k - 0) ++ List.replicate (l.length + 1 - k) ze) (0 + k) ([x].take 1)).length = l.length + 1 := by rw [put_len, hl0]; rw [hl0]; simp; omega
  have ht : [x].take 1 = [x] := rfl
  rw [ht] at hl1 ⊢
  have hd : (l.drop (0 + k)).take (l.length - k) = l.drop k := by rw [Nat.zero_add, List.take_of_length_le (by simp)]
  apply List.ext_getElem?
  intro q
  rw [ins_get (by omega), List.getElem?_take, put_get (by omega), put_get (by omega), hd]
  have hx1 : [x].length = 1 := rfl
  have hx2 : (l.drop k).length = l.length - k := by simp
  by_cases h1 : q < k
  · have : q < 0 + (k + 1) ∧ q < 0 + k ∧ q < k - 0 + (l.length + 1 - k) := by omega
    rw [if_pos this.2.2, if_pos this.1, if_pos this.2.1, if_pos h1, List.getElem?_append_left (by simp; omega), List.getElem?_take_of_lt (by omega)]
  · by_cases h2 : q = k
    · subst h2
      have : q < 0 + (q + 1) ∧ ¬ q < 0 + q ∧ q < q - 0 + (l.length + 1 - q) ∧ q < 0 + q + [x].length := by omega
      rw [if_pos this.2.2.1, if_pos this.1, if_neg this.2.1, if_pos this.2.2.2, if_neg h1, if_pos rfl]
      simp
    · rw [if_neg h1, if_neg h2]
      by_cases h3 : q < l.length + 1
      · have : q < k - 0 + (l.length + 1 - k) ∧ ¬ q < 0 + (k + 1) ∧ q < 0 + (k + 1) + (l.drop k).length := by omega
        rw [if_pos this.1, if_neg this.2.1, if_pos this.2.2, List.getElem?_drop]
        congr 1; omega
      · have : ¬ q < k - 0 + (l.length + 1 - k) := by omega
        rw [if_neg this, List.getElem?_eq_none (by omega)]
theorem insert_list2 {l : List T} {k : Nat} {x : T} (hk : k < l.length) :
    (Abs.put (Abs.put l (0 + (k + 1)) ((l.drop (0 + k)).take (l.length - k))) (0 + k) ([x].take 1)).take (l.length + 1 - 0) = l.take k ++ x :: l.drop k := by
  have hd : (l.drop (0 + k)).take (l.length - k) = l.drop k := by rw [Nat.zero_add, List.take_of_length_le (by simp)]
  have ht : [x].take 1 = [x] := rfl
  rw [hd, ht]
  have hl1 : (Abs.put l (0 + (k + 1)) (l.drop k)).length = l.length + 1 := by simp [Abs.put]; omega
  apply List.ext_getElem?
  intro q
  rw [ins_get (by omega), List.getElem?_take, put_get (by omega), put_get (by omega)]
  have hx1 : [x].length = 1 := rfl
  have hx2 : (l.drop k).length = l.length - k := by simp
  by_cases h1 : q < k
  · have : q < 0 + k ∧ q < 0 + (k + 1) ∧ q < l.length + 1 - 0 := by omega
    rw [if_pos this.2.2, if_pos this.1, if_pos this.2.1, if_pos h1]
  · by_cases h2 : q = k
    · subst h2
      have : ¬ q < 0 + q ∧ q < l.length + 1 - 0 ∧ q < 0 + q + [x].length := by omega
      rw [if_pos this.2.1, if_neg this.1, if_pos this.2.2, if_neg h1, if_pos rfl]
      simp
    · rw [if_neg h1, if_neg h2]
      by_cases h3 : q < l.length + 1
      · have : q < l.length + 1 - 0 ∧ ¬ q < 0 + k ∧ ¬ q < 0 + k + [x].length ∧ ¬ q < 0 + (k + 1) ∧ q < 0 + (k + 1) + (l.drop k).length := by omega
        rw [if_pos this.1, if_neg this.2.1, if_neg this.2.2.1, if_neg this.2.2.2.1, if_pos this.2.2.2.2, List.getElem?_drop]
        congr 1; omega
      · rw [if_neg (by omega), List.getElem?_eq_none (by omega)]

/-! ### DeleteFunc -/
structure DelInv (p : T → Bool) (l : List T) (i j : Nat) (L : List T) : Prop where
  lt : i < j
  le : j ≤ l.length
  len : L.length = l.length
  pre : L.take i = (l.take j).filter (fun x => !p x)
  post : L.drop j = l.drop j
theorem take_succ_get {l : List T} {j : Nat} (h : j < l.length) : l.take (j + 1) = l.take j ++ [l[j]] := by
  rw [List.take_add_one, List.getElem?_eq_getElem h]; rfl
theorem del_start {p : T → Bool} {l : List T} {k : Nat} (h : l.findIdx? p = some k) : l.take k = (l.take (k + 1)).filter (fun x => !p x) := by
  obtain ⟨h1, h2, h3⟩ := List.findIdx?_eq_some_iff_getElem.1 h
  rw [take_succ_get h1, List.filter_append, List.filter_eq_self.2]
  · simp [h2]
  · intro x hx
    obtain ⟨j, hj, rfl⟩ := List.getElem_of_mem hx
    simp only [List.length_take] at hj
    rw [List.getElem_take]
    simpa using h3 j (by omega)
theorem del_get {l L : List T} {j : Nat} (h : L.drop j = l.drop j) (hj : j < l.length) : L[j]? = some l[j] := by
  have : (L.drop j)[0]? = (l.drop j)[0]? := by rw [h]
  simpa [hj] using this
theorem del_drop {p : T → Bool} {l L : List T} {i j : Nat} (h : DelInv p l i j L) (hj : j < l.length) (hp : p l[j] = true) : DelInv p l i (j + 1) L := by
  refine ⟨by have := h.lt; omega, hj, h.len, ?_, ?_⟩
  · rw [take_succ_get hj, List.filter_append, h.pre]; simp [hp]
  · have : (L.drop j).drop 1 = (l.drop j).drop 1 := by rw [h.post]
    simpa [List.drop_drop] using this
theorem del_keep {p : T → Bool} {l L : List T} {i j : Nat} (h : DelInv p l i j L) (hj : j < l.length) (hp : p l[j] = false) : DelInv p l (i + 1) (j + 1) (L.set i l[j]) := by
  have hlt := h.lt
  have hlen := h.len
  refine ⟨by omega, hj, by simp [h.len], ?_, ?_⟩
  · have hi : i < (L.set i l[j]).length := by simp; omega
    rw [take_succ_get hi, List.take_set_of_le (Nat.le_refl i), h.pre, take_succ_get hj, List.filter_append]
    simp [hp]
  · rw [List.drop_set_of_lt (by omega)]
    have : (L.drop j).drop 1 = (l.drop j).drop 1 := by rw [h.post]
    simpa [List.drop_drop] using this
theorem del_end {p : T → Bool} {l L : List T} {i j : Nat} (h : DelInv p l i j L) (hj : ¬ j < l.length) : (L.take (0 + i)).take (i - 0) = l.filter (fun x => !p x) := by
  have hle := h.le
  rw [Nat.zero_add, List.take_take, Nat.sub_zero, Nat.min_self, h.pre, List.take_of_length_le (by omega)]

end Go.Proofs.Ytgblfhobiibeaaa.Abs

/- Abstract symbolic execution, part 21: rows that nobody writes any more are taken as slices that are read; contracts under other numbers. No condition. -/
set_option linter.unusedVariables false
set_option linter.unusedSimpArgs false
namespace Go.Proofs.Ytgblfhobiibeaaa.Abs
open Go.RowKit
variable {C : Ctx} {ops : Array Oper} {o : Oper} {S : AState}

/-- An object that is not anchored is given up. -/
theorem SatB.free {β : Nat → Value} {a : Act} {w : World} (h : SatB C β S a w) (i : Nat) (hi : (C.anc.all fun p => !(Nat.beq p.1 i)) = true) : SatB C β (modS [(i, none)] S) a w := by
  have hm : ∀ j, (modS [(i, none)] S).mem j = (if j = i then none else S.mem j) := fun j => modS_one.1
  have hus : ∀ j, S.used j = true → (modS [(i, none)] S).used j = true := fun j hj => by rw [modS_one.2, hj]; rfl
  have hcase : ∀ j q, (modS [(i, none)] S).mem j = some q → j ≠ i ∧ S.mem j = some q := fun j q hj => by
    rw [hm] at hj
    split at hj
    · cases hj
    · rename_i hne; exact ⟨hne, hj⟩
  have howned : ∀ b, owned (modS [(i, none)] S) β b → owned S β b := fun b ⟨j, q, hj, hb⟩ => ⟨j, q, (hcase j q hj).2, hb⟩
  have hok : ∀ b, okS C S β w b → okS C (modS [(i, none)] S) β w b := fun b hb => ⟨hb.1, hb.2.1, fun ho => hb.2.2 (howned b ho)⟩
  refine h.change h.below (fun _ _ => rfl) hok (fun _ _ => rfl) rfl hus (fun j q hj => ?_) (fun j k q q' hj hk hne b hbj => h.apart j k q q' (hcase j q hj).2 (hcase k q' hk).2 hne b hbj) (fun j q hj => ?_)
    (fun b x hx => ⟨(h.keep b x hx).1, fun ho => (h.keep b x hx).2 (howned b ho)⟩) (fun p hp => ?_)
  · exact (h.mem j q (hcase j q hj).2).mono (fun _ _ => rfl) (fun _ _ => rfl) hok rfl (fun _ _ => rfl)
  · have := h.wfm j q (hcase j q hj).2
    exact ⟨hus _ this.1, fun x hx => hus _ (this.2 x hx)⟩
  · obtain ⟨g1, E, cells, g2⟩ := h.anc p hp
    have := (List.all_eq_true.1 hi) p hp
    have hne : p.1 ≠ i := fun e => by rw [e, Nat.beq_refl] at this; cases this
    exact ⟨g1, E, cells, by rw [hm, if_neg hne]; exact g2⟩
theorem anc_row {β : Nat → Value} {a : Act} {w : World} (h : SatB C β S a w) {i E sz : Nat} {l : List T} (hm : S.mem i = some (.row E sz l)) : (C.anc.all fun p => !(Nat.beq p.1 i)) = true := by
  rw [List.all_eq_true]
  intro p hp
  obtain ⟨_, E', cells, g2⟩ := h.anc p hp
  cases hb : Nat.beq p.1 i with
  | false => rfl
  | true => have := Nat.eq_of_beq_eq_true hb; rw [this, hm] at g2; cases g2
/-- A row given up reads as a slice. -/
theorem SatB.free_reads {β : Nat → Value} {a : Act} {w : World} (h : SatB C β S a w) {i E sz : Nat} {l : List T} (hm : S.mem i = some (.row E sz l)) : Reads w (okS C (modS [(i, none)] S) β w) (β i) (.slice sz l) := by
  have hO := h.mem i _ hm
  have hmm : ∀ j q, (modS [(i, none)] S).mem j = some q → j ≠ i ∧ S.mem j = some q := fun j q hj => by
    have := (modS_one (i := i) (x := none) (S := S) (j := j)).1
    rw [this] at hj
    split at hj
    · cases hj
    · rename_i hne; exact ⟨hne, hj⟩
  refine row_reads hO (fun b hb => ⟨hb.1, hb.2.1, fun ⟨j, q, hj, hbl⟩ => hb.2.2 ⟨j, q, (hmm j q hj).2, hbl⟩⟩) (fun b hb => ?_)
  have hlt := hO.lt hb
  refine ⟨⟨.inr hlt.1, fun x hx => (h.keep b _ hx).2 ⟨i, _, hm, hb⟩⟩, hlt.2, ?_⟩
  rintro ⟨j, q, hj, hbl⟩
  obtain ⟨h1, h2⟩ := hmm j q hj
  exact h.apart j i q _ h2 hm h1 b hbl hb
theorem Sat.freeze {a : Act} {w : World} (h : Sat C S a w) (x i : Nat) {E sz : Nat} {l : List T} (hx : S.slot x = .h i) (hm : S.mem i = some (.row E sz l)) :
    Sat C { modS [(i, none)] S with slot := putS (some x) (.t (.slice sz l)) S.slot } a w := by
  obtain ⟨β, hb⟩ := h
  have hv := hb.slot x
  rw [hx] at hv
  exact ⟨β, (hb.free i (anc_row hb hm)).reslot x (.t (.slice sz l)) (.t (by rw [hv.hD]; exact hb.free_reads hm)) (by simp [AV.ids])⟩
/-- The row in slot x is only read from here on. -/
theorem AT.freeze {c : Code} {Q : Exit → AState → Prop} (x i : Nat) {E sz : Nat} {l : List T} (hx : S.slot x = .h i) (hm : S.mem i = some (.row E sz l))
    (h : AT C c Q { modS [(i, none)] S with slot := putS (some x) (.t (.slice sz l)) S.slot }) : AT C c Q S := AT.weaken (fun a w hs => hs.freeze x i hx hm) h

theorem mods_two {d : Nat} {x : Option AObj} {m : List (Nat × Option AObj)} (S : AState) : modS [(d, none)] (modS ((d, x) :: m) S) = modS ((d, none) :: m) S := by
  simp only [modS, AState.mk.injEq]
  refine ⟨trivial, ?_, ?_⟩
  · funext i
    simp only [assoc]
    cases Nat.beq i d <;> rfl
  · funext i
    simp only [hasKey]
    cases Nat.beq i d <;> simp
/-- An operation that makes a row, the row only read from then on. -/
theorem Step.toT {d E sz : Nat} {l : List T} {m : List (Nat × Option AObj)} {looks : List Nat} (h : Step C ops o S ⟨.h d, (d, some (.row E sz l)) :: m, looks⟩) (hdst : o.dst = some d) : Step C ops o S ⟨.t (.slice sz l), (d, none) :: m, looks⟩ := by
  intro S₁ hs hm a w hsat
  have htouch : ∀ i, (Eff.touches ⟨.h d, (d, some (.row E sz l)) :: m, looks⟩ i) → (Eff.touches ⟨.t (.slice sz l), (d, none) :: m, looks⟩ i) := fun i hi => hi
  refine Oper.wp_monoQ (fun a' w' hs' => ?_) (h S₁ hs (fun i hi => hm i (htouch i hi)) a w hsat)
  have hx : (ap o.dst ⟨.h d, (d, some (.row E sz l)) :: m, looks⟩ S₁).slot d = .h d := by rw [hdst]; exact putS_same d _ _
  have hmem : (ap o.dst ⟨.h d, (d, some (.row E sz l)) :: m, looks⟩ S₁).mem d = some (.row E sz l) := by
    show (match assoc d ((d, some (.row E sz l)) :: m) with | some o => o | none => S₁.mem d) = _
    simp [assoc, Nat.beq_refl]
  have hfz := hs'.freeze d d hx hmem
  refine cast ?_ hfz
  congr 1
  have e : modS [(d, none)] (ap o.dst ⟨.h d, (d, some (.row E sz l)) :: m, looks⟩ S₁) = { modS ((d, none) :: m) S₁ with slot := (ap o.dst ⟨.h d, (d, some (.row E sz l)) :: m, looks⟩ S₁).slot } := by
    have := mods_two (d := d) (x := some (.row E sz l)) (m := m) { S₁ with slot := (ap o.dst ⟨.h d, (d, some (.row E sz l)) :: m, looks⟩ S₁).slot }
    exact this
  rw [e]
  simp only [ap, hdst, AState.mk.injEq]
  refine ⟨?_, rfl, rfl⟩
  funext y
  rcases putS_cases (some d) (.t (.slice sz l)) (putS (some d) (.h d) S₁.slot) y with ⟨h1, h2⟩ | ⟨h1, h2⟩
  · rw [h2]; injection h1 with h1; subst h1; rw [putS_same]
  · rw [h2, putS_other h1, putS_other h1]

/-- A number that is not negative as uint, and its half. -/
theorem step_convU {s d : TypeId} {x : Operand} {q : Int} (m : Nat) (ho : o.op = .convert s d x) (hx : evalS S x = .t (.v (.int .i64 q))) (hq : q = m)
    (hs : intB C.P s = some .i64) (ht : intB C.P d = some .u64) (h1 : m ≤ 9223372036854775807) (hd : dOk C.n o.dst = true) : Step C ops o S ⟨.t (.v (.int .u64 m)), [], []⟩ := by
  have := step_conv (ops := ops) ho hx hs ht hd
  have hw : IntKind.u64.wrap q = m := by
    unfold IntKind.wrap
    simp only [IntKind.bits, IntKind.signed]
    simp
    omega
  rwa [hw] at this
theorem step_half {t t' : TypeId} {x y : Operand} (m : Nat) (ho : o.op = .binOp .shr t x y t') (hx : evalS S x = .t (.v (.int .u64 m))) (hy : evalS S y = .t (.v (.int .u64 1))) (hd : dOk C.n o.dst = true) :
    Step C ops o S ⟨.t (.v (.int .u64 (m / 2 : Nat))), [], []⟩ := by
  have := step_shr (ops := ops) ho hx hy (by omega) hd
  have hw : (m : Int).fdiv (2 ^ (min (1 : Int).toNat IntKind.u64.bits)) = ((m / 2 : Nat) : Int) := by
    have h1 : min (1 : Int).toNat IntKind.u64.bits = 1 := by decide
    rw [h1, Int.pow_one, Int.fdiv_eq_ediv_of_nonneg _ (by omega)]
    omega
  rwa [hw] at this

/-! ### Contracts -/
theorem HasG.toT {P : Program} {f : FuncId} {args : List AV} {ml : List (Nat × AObj)} {R E sz : Nat} {l : List T} (h : HasG P f [] args ml (.h R) [(R, .row E sz l)]) : HasG P f [] args ml (.t (.slice sz l)) [] := by
  refine ⟨h.1, fun w0 ok0 keep av vs w hl hs => (h.2 w0 ok0 keep av vs w hl hs).mono ?_⟩
  rintro e w' ⟨v, rfl, hs'⟩
  refine ⟨v, rfl, Sat.wk [] (.cons (.fr (E := E) (i := R) ?_ rfl) .nil) .nil rfl rfl _ _ hs'⟩
  show lookO R [(R, .row E sz l)] = _
  simp [lookO, Nat.beq_refl]
/-- The same contract, what is handed in under other numbers. -/
theorem HasG.pre {P : Program} {f : FuncId} {args args2 : List AV} {ml ml2 ml' : List (Nat × AObj)} {res : AV} (h : HasG P f [] args ml res ml') (ρ : List (Nat × Nat)) (hl : args2.length = args.length)
    (hs : WkS (mkS (enumA 0 args2) ml2) ρ ml (enumA 0 args)) (hm : WkM (mkS (enumA 0 args2) ml2) ρ ml ml) (hn : nodupB (ml.map fun p => ren ρ p.1) = true) : HasG P f [] args2 ml2 res ml' := by
  refine ⟨h.1, fun w0 ok0 keep av vs w hlv hsat => h.2 w0 ok0 keep av vs w (by omega) ?_⟩
  rw [hl] at hsat
  exact Sat.wk ρ hs hm hn rfl _ _ hsat

end Go.Proofs.Ytgblfhobiibeaaa.Abs

/- Abstract symbolic execution, part 22: variables that nobody writes any more; closures over such variables. No condition. -/
set_option linter.unusedVariables false
set_option linter.unusedSimpArgs false
namespace Go.Proofs.Ytgblfhobiibeaaa.Abs
open Go.RowKit
variable {C : Ctx} {ops : Array Oper} {o : Oper} {S : AState}

/-- A variable given up, of whose cells each is a tree, reads as a pointer to these. -/
theorem SatB.free_ptr {β : Nat → Value} {a : Act} {w : World} (h : SatB C β S a w) {i E : Nat} {cells : List AV} {ts : List T} (hm : S.mem i = some (.box E cells)) (ht : trees cells = some ts) {v : Value} (hv : VRel w (okS C S β w) β v (.p i 0)) :
    Reads w (okS C (modS [(i, none)] S) β w) v (.ptr ts) := by
  have hmm : ∀ j q, (modS [(i, none)] S).mem j = some q → j ≠ i ∧ S.mem j = some q := fun j q hj => by
    have := (modS_one (i := i) (x := none) (S := S) (j := j)).1
    rw [this] at hj
    split at hj
    · cases hj
    · rename_i hne; exact ⟨hne, hj⟩
  have hok : ∀ b, okS C S β w b → okS C (modS [(i, none)] S) β w b := fun b hb => ⟨hb.1, hb.2.1, fun ⟨j, q, hj, hbl⟩ => hb.2.2 ⟨j, q, (hmm j q hj).2, hbl⟩⟩
  obtain ⟨b, h1, h2⟩ := hv.pD
  have hO := h.mem i _ hm
  have hlt := hO.lt (b := b) (by rw [h1]; rfl)
  obtain ⟨b', arr, g1, g2, g3, g4, g5⟩ := hO
  rw [h1] at g1; injection g1 with g1; injection g1 with g1; injection g1 with g1; subst g1
  have hsp := trees_spec ht; subst hsp
  have hin : ∀ k (hk : k < ts.length), ∃ hlt : k < arr.size, Reads w (okS C S β w) arr[k] ts[k] ∧ arr[k].oneCell' = true := fun k hk => by
    have hk' : k < arr.size := by rw [g4]; simpa using hk
    have := g5 k hk' (by simpa using hk)
    simp only [List.getElem_map] at this
    exact ⟨hk', this.1.tD, this.2⟩
  rw [h2]
  refine .ptr (fun k => arr.getD k undef) ⟨⟨.inr hlt.1, fun x hx => (h.keep b _ hx).2 ⟨i, _, hm, by rw [h1]; rfl⟩⟩, hlt.2, ?_⟩ (fun k hk => ?_) (fun k hk => ?_)
  · rintro ⟨j, q, hj, hbl⟩
    obtain ⟨e1, e2⟩ := hmm j q hj
    exact h.apart j i q _ e2 hm e1 b hbl (by rw [h1]; rfl)
  · obtain ⟨hk', _, h3⟩ := hin k hk
    rw [add_plain', Nat.zero_add, cell_of_block g3]
    exact ⟨by simp [Array.getD, hk'], by simpa [Array.getD, hk'] using h3⟩
  · obtain ⟨hk', h3, _⟩ := hin k hk
    simpa [Array.getD, hk'] using h3.mono (fun _ _ => rfl) hok

/-- Objects given up, one by one. -/
def freeL (S : AState) : List Nat → AState
  | [] => S
  | i :: r => freeL (modS [(i, none)] S) r
inductive PtrL (S : AState) : List Nat → List (List T) → Prop
  | nil : PtrL S [] []
  | cons {i E : Nat} {cells : List AV} {ts : List T} {r : List Nat} {tr : List (List T)} (hm : S.mem i = some (.box E cells)) (ht : trees cells = some ts) (h : PtrL S r tr) : PtrL S (i :: r) (ts :: tr)
theorem PtrL.other {S S' : AState} {r : List Nat} {tr : List (List T)} (h : PtrL S r tr) (hs : ∀ i ∈ r, S'.mem i = S.mem i) : PtrL S' r tr := by
  induction h with
  | nil => exact .nil
  | cons hm ht _ ih => exact .cons (by rw [hs _ (by simp)]; exact hm) ht (ih fun i hi => hs i (by simp [hi]))
theorem PtrL.len {S : AState} {r : List Nat} {tr : List (List T)} (h : PtrL S r tr) : r.length = tr.length := by induction h <;> simp [*]
theorem modS_free (S : AState) (i : Nat) (m : List (Nat × Option AObj)) : ∀ j, (modS m (modS [(i, none)] S)).mem j = (match assoc j m with | some o => o | none => if j = i then none else S.mem j) := by
  intro j
  simp only [modS]
  cases assoc j m with
  | some o => rfl
  | none =>
    have := (modS_one (i := i) (x := none) (S := S) (j := j)).1
    simpa [modS] using this
theorem freeL_reads {β : Nat → Value} {a : Act} {w : World} : ∀ {is : List Nat} {tss : List (List T)} {S : AState}, SatB C β S a w → PtrL S is tss → nodupB is = true → (is.all fun i => C.anc.all fun p => !(Nat.beq p.1 i)) = true →
    SatB C β (freeL S is) a w ∧ (∀ b, okS C S β w b → okS C (freeL S is) β w b) ∧ ∀ k (h1 : k < is.length) (h2 : k < tss.length) (v : Value), VRel w (okS C S β w) β v (.p is[k] 0) → Reads w (okS C (freeL S is) β w) v (.ptr tss[k])
  | [], _, S, h, hp, _, _ => by
    cases hp
    exact ⟨h, fun _ hb => hb, fun k h1 => by simp at h1⟩
  | i :: r, _, S, h, .cons (ts := ts) (tr := tr) hm ht hp, hn, ha => by
    simp only [nodupB, Bool.and_eq_true, Bool.not_eq_true'] at hn
    simp only [List.all_cons, Bool.and_eq_true] at ha
    have hf := h.free i ha.1
    have hne : ∀ j ∈ r, j ≠ i := fun j hj e => by subst e; rw [any_beq.2 hj] at hn; cases hn.1
    have hp' : PtrL (modS [(i, none)] S) r tr := hp.other fun j hj => by rw [modS_one.1, if_neg (hne j hj)]
    obtain ⟨a1, a2, a3⟩ := freeL_reads hf hp' hn.2 ha.2
    have hok : ∀ b, okS C S β w b → okS C (modS [(i, none)] S) β w b := fun b hb => ⟨hb.1, hb.2.1, fun ⟨j, q, hj, hbl⟩ => by
      rw [modS_one.1] at hj
      split at hj
      · cases hj
      · exact hb.2.2 ⟨j, q, hj, hbl⟩⟩
    refine ⟨a1, fun b hb => a2 b (hok b hb), fun k h1 h2 v hv => ?_⟩
    cases k with
    | zero => exact (h.free_ptr hm ht hv).mono (fun _ _ => rfl) a2
    | succ k => exact a3 k (by simpa using h1) (by simpa using h2) v (hv.mono (fun _ _ => rfl) hok (fun _ _ => rfl))
theorem freeL_eq (is : List Nat) : ∀ (S : AState), (∀ j, (freeL S is).mem j = (modS (is.map fun i => (i, (none : Option AObj))) S).mem j) ∧ (∀ j, (freeL S is).used j = (modS (is.map fun i => (i, (none : Option AObj))) S).used j) ∧ (freeL S is).slot = S.slot := by
  induction is with
  | nil => intro S; exact ⟨fun j => rfl, fun j => by simp [freeL, modS, hasKey], rfl⟩
  | cons i r ih =>
    intro S
    obtain ⟨h1, h2, h3⟩ := ih (modS [(i, none)] S)
    refine ⟨fun j => ?_, fun j => ?_, h3⟩
    · show (freeL (modS [(i, none)] S) r).mem j = _
      rw [h1, modS_free]
      simp only [modS, List.map_cons, assoc]
      cases hb : Nat.beq j i with
      | true =>
        have := Nat.eq_of_beq_eq_true hb
        subst this
        simp only [cond_true]
        have hany : ∀ l : List Nat, (match assoc j (l.map fun i => (i, (none : Option AObj))) with | some o => o | none => if j = j then none else S.mem j) = none := by
          intro l
          induction l with
          | nil => simp [assoc]
          | cons x l ih => simp only [List.map_cons, assoc]; cases Nat.beq j x <;> simp_all
        simpa using hany r
      | false =>
        have hne : j ≠ i := fun e => by subst e; rw [Nat.beq_refl] at hb; cases hb
        simp only [hne, if_false, cond_false]
        cases assoc j (List.map (fun i => (i, (none : Option AObj))) r) <;> rfl
    · show (freeL (modS [(i, none)] S) r).used j = _
      rw [h2]
      simp only [modS, List.map_cons, hasKey]
      cases Nat.beq j i <;> simp
/-- A closure over variables that nobody writes from then on. -/
theorem step_makeFuncP {g : FuncId} {caps : Array Operand} (is : List Nat) {tss : List (List T)} (ho : o.op = .makeFunc (.func g) #[] caps) (hc : caps.toList.map (evalS S) = is.map (fun i => AV.p i 0)) (hp : PtrL S is tss) (hn : nodupB is = true)
    (ha : (is.all fun i => C.anc.all fun p => !(Nat.beq p.1 i)) = true) (hd : dOk C.n o.dst = true) : Step C ops o S ⟨.t (.clo g (tss.map T.ptr)), is.map (fun i => (i, none)), []⟩ := by
  intro S₁ hsl hmm a w hsat
  obtain ⟨β, hb⟩ := hsat
  have hp1 : PtrL S₁ is tss := hp.other fun i hi => (hmm i (.inr (by
    rw [hasKey_iff]; exact ⟨none, List.mem_map.2 ⟨i, hi, rfl⟩⟩))).1
  obtain ⟨a1, a2, a3⟩ := freeL_reads hb hp1 hn ha
  have hlen : caps.size = is.length := by have := congrArg List.length hc; simpa using this
  have hl2 := hp1.len
  have hcap : ∀ k (h : k < caps.size), VRel w (okS C S₁ β w) β (a.eval caps[k]) (.p is[k] 0) := fun k h => by
    have hv := hb.eval caps[k]
    rw [agree_eval hsl (by simp [ho, Op.operands])] at hv
    have : (caps.toList.map (evalS S))[k]? = (is.map (fun i => AV.p i 0))[k]? := by rw [hc]
    have h' : k < is.length := by omega
    simp [h, h'] at this
    rw [this] at hv
    exact hv
  have hrun : (execOp a.eval o).run C.P w = .ok (.value (.func (.func g) #[] (caps.map a.eval))) w := by
    simp [execOp, ho, Instr.makeFunc]
  refine Oper.wp_value hrun ?_
  rw [ap_modS]
  obtain ⟨e1, e2, e3⟩ := freeL_eq is S₁
  have hS : freeL S₁ is = modS (is.map fun i => (i, (none : Option AObj))) S₁ := by
    have hm : (freeL S₁ is).mem = (modS (is.map fun i => (i, (none : Option AObj))) S₁).mem := funext e1
    have hu : (freeL S₁ is).used = (modS (is.map fun i => (i, (none : Option AObj))) S₁).used := funext e2
    have hs : (freeL S₁ is).slot = (modS (is.map fun i => (i, (none : Option AObj))) S₁).slot := e3
    cases hq : freeL S₁ is
    cases hq2 : modS (is.map fun i => (i, (none : Option AObj))) S₁
    rw [hq, hq2] at hm hu hs
    simp only at hm hu hs
    rw [hm, hu, hs]
  rw [hS] at a1 a2 a3
  refine ⟨β, a1.put o.dst _ (.t (.clo g (tss.map T.ptr))) (fun _ _ _ => .t (.clo (by simp; omega) fun k k1 k2 => ?_)) (fun z hz => .inl ?_) (by simp [AV.ids])⟩
  · have hk : k < caps.size := by simpa using k1
    simp only [List.length_map] at k2
    simp only [Array.getElem_map, List.getElem_map]
    exact a3 k (by omega) k2 _ (hcap k hk)
  · rw [hz] at hd; simpa [dOk] using hd

end Go.Proofs.Ytgblfhobiibeaaa.Abs

/- Small facts for printed walks; a nil slice in a variable becomes a row of the call's own. No condition. -/
set_option linter.unusedVariables false
namespace Go.Proofs.Ytgblfhobiibeaaa.Abs
open Go.RowKit
variable {C : Ctx} {S : AState}
theorem bv {a b : Bool} (h : a = b) : T.v (.bool a) = T.v (.bool b) := congrArg (fun b => T.v (.bool b)) h
theorem iv {k : IntKind} {a b : Int} (h : a = b) : T.v (.int k a) = T.v (.int k b) := congrArg (fun b => T.v (.int k b)) h
theorem dtrue {p : Prop} [Decidable p] (h : p) : decide p = true := decide_eq_true h
theorem dfalse {p : Prop} [Decidable p] (h : ¬ p) : decide p = false := decide_eq_false h
theorem AT.cases {c : Code} {Q : Exit → AState → Prop} {d : Nat} {b : Bool} (hs : S.slot d = .t (.v (.bool b))) (h1 : b = true → AT C c Q { S with slot := putS (some d) (.t (.v (.bool true))) S.slot })
    (h0 : b = false → AT C c Q { S with slot := putS (some d) (.t (.v (.bool false))) S.slot }) : AT C c Q S := by
  cases b with
  | true => exact AT.spell d hs rfl (h1 rfl)
  | false => exact AT.spell d hs rfl (h0 rfl)

/-- A nil slice in a cell of a variable is taken as a row of the call's own. -/
theorem Sat.nilCell {a : Act} {w : World} (h : Sat C S a w) (i k j E' sz : Nat) {E : TypeId} {cells : List AV} (hm : S.mem i = some (.box E cells)) (hk : cells[k]? = some (.t (.v (.slice none 0 0)))) (hu : S.used j = false) :
    Sat C (modS [(i, some (.box E (cells.set k (.h j))))] (modS [(j, some (.row E' sz []))] S)) a w := by
  obtain ⟨β, h⟩ := h
  obtain ⟨β', e1, e2, e3, e4, hsb⟩ := h.new j hu (.row E' sz []) (.slice none 0 0) (Below.refl _ w) (fun b hb => by simp [blk] at hb) (by simp [AObj.ids])
    (fun ok' β' h1 h2 h3 h4 => ⟨[], by rw [h3]; exact World.ownsRow_nil w _ E' sz, fun k hk => by simp at hk, fun k hk => by simp at hk⟩)
  have hne : i ≠ j := fun e => by subst e; have := (h.wfm i _ hm).1; rw [hu] at this; cases this
  have hm1 : (modS [(j, some (.row E' sz []))] S).mem i = some (.box E cells) := by rw [modS_one.1, if_neg hne]; exact hm
  refine ⟨β', hsb.inplace i (.box E cells) (.box E (cells.set k (.h j))) hm1 (fun _ _ _ => ⟨_, _, rfl⟩) hsb.below rfl (fun _ _ => rfl) (fun x hx => ?_) (fun ok' hok => ?_)⟩
  · have hx : x ∈ AV.idsL (cells.set k (.h j)) := hx
    obtain ⟨y, hy, hxy⟩ := AV.of_mem_idsL hx
    rcases List.mem_or_eq_of_mem_set hy with hy | rfl
    · exact (hsb.wfm i _ hm1).2 x (AV.mem_idsL hy hxy)
    · simp only [AV.ids, List.mem_singleton] at hxy
      subst hxy
      rw [modS_one.2]; simp
  · obtain ⟨b, arr, g1, g2, g3, g4, g5⟩ := hsb.mem i _ hm1
    refine ⟨b, arr, g1, g2, g3, by simpa using g4, fun q h1 h2 => ?_⟩
    have h2' : q < cells.length := by simpa using h2
    obtain ⟨f1, f2⟩ := g5 q h1 h2'
    refine ⟨?_, f2⟩
    by_cases hq : q = k
    · subst hq
      rw [List.getElem_set_self]
      have hc : cells[q] = .t (.v (.slice none 0 0)) := by
        rw [List.getElem?_eq_getElem h2'] at hk; injection hk
      rw [hc] at f1
      rw [f1.toV, ← e1]; exact .h j
    · rw [List.getElem_set_ne (fun e => hq e.symm)]
      exact f1.mono (fun _ _ => rfl) (fun b hb => (hok b hb).1) (fun _ _ => rfl)
theorem AT.nilCell {c : Code} {Q : Exit → AState → Prop} (i k j E' sz : Nat) {E : TypeId} {cells : List AV} (hm : S.mem i = some (.box E cells)) (hk : cells[k]? = some (.t (.v (.slice none 0 0)))) (hu : S.used j = false)
    (h : AT C c Q (modS [(i, some (.box E (cells.set k (.h j))))] (modS [(j, some (.row E' sz []))] S))) : AT C c Q S := AT.weaken (fun a w hs => hs.nilCell i k j E' sz hm hk hu) h
end Go.Proofs.Ytgblfhobiibeaaa.Abs

/- Abstract symbolic execution, part 24: maps that only grow. No condition. -/
set_option linter.unusedVariables false
set_option linter.unusedSimpArgs false
namespace Go.Proofs.Ytgblfhobiibeaaa.Abs
open Go.RowKit
variable {C : Ctx} {ops : Array Oper} {o : Oper} {S : AState}

/-- The entries of a map, in the order in which they came. -/
def entsFrom (j : Nat) : List (Value × Value) → List MapEntry
  | [] => []
  | p :: r => { key := p.1, val := p.2, born := j } :: entsFrom (j + 1) r
def ents (l : List (Value × Value)) : Array MapEntry := (entsFrom 0 l).toArray
theorem entsFrom_len : ∀ (l : List (Value × Value)) (j : Nat), (entsFrom j l).length = l.length
  | [], _ => rfl
  | p :: r, j => by simp [entsFrom, entsFrom_len r]
theorem entsFrom_get : ∀ (l : List (Value × Value)) (j i : Nat) (h : i < (entsFrom j l).length) (h' : i < l.length), (entsFrom j l)[i] = { key := l[i].1, val := l[i].2, born := j + i }
  | p :: r, j, 0, _, _ => rfl
  | p :: r, j, i + 1, h, h' => by
    have := entsFrom_get r (j + 1) i (by simpa [entsFrom] using h) (by simpa using h')
    simp only [entsFrom, List.getElem_cons_succ, this, Nat.add_assoc, Nat.add_comm 1 i]
theorem entsFrom_append : ∀ (l r : List (Value × Value)) (j : Nat), entsFrom j (l ++ r) = entsFrom j l ++ entsFrom (j + l.length) r
  | [], r, j => by simp [entsFrom]
  | p :: l, r, j => by
    simp only [List.cons_append, entsFrom, entsFrom_append l r, List.length_cons]
    rw [show j + 1 + l.length = j + (l.length + 1) by omega]
theorem ents_push (l : List (Value × Value)) (k v : Value) : (ents l).push { key := k, val := v, born := l.length } = ents (l ++ [(k, v)]) := by
  unfold ents
  rw [entsFrom_append]
  simp [entsFrom]
theorem ents_modify (l : List (Value × Value)) (k v : Value) (i : Nat) : ((ents l).modify i fun e => { e with key := k, val := v }) = ents (l.set i (k, v)) := by
  apply Array.ext
  · simp [ents, entsFrom_len]
  · intro q h1 h2
    have hl : q < l.length := by simpa [ents, entsFrom_len] using h1
    simp only [Array.getElem_modify]
    have e1 : (ents l)[q]'(by simpa [ents, entsFrom_len] using hl) = { key := l[q].1, val := l[q].2, born := q } := by
      simp only [ents, List.getElem_toArray]
      rw [entsFrom_get l 0 q (by simpa [entsFrom_len] using hl) hl]; simp
    have e2 : (ents (l.set i (k, v)))[q] = { key := ((l.set i (k, v))[q]'(by simpa using hl)).1, val := ((l.set i (k, v))[q]'(by simpa using hl)).2, born := q } := by
      simp only [ents, List.getElem_toArray]
      rw [entsFrom_get (l.set i (k, v)) 0 q (by simpa [entsFrom_len] using hl) (by simpa using hl)]; simp
    rw [e2, e1]
    by_cases hq : i = q
    · subst hq; simp
    · rw [if_neg hq, List.getElem_set_ne hq]

/-- Where a key is found. -/
def KeyAt (P : Program) (kt : TypeId) (l : List (Value × Value)) (kv : Value) (r : Option Nat) : Prop :=
  (∀ i, r = some i → ∃ h : i < l.length, Instr.sameBits 10000 l[i].1 kv = true) ∧ (∀ b w, (Instr.checkKey b 10000 kt kv).run P w = .ok () w) ∧
    ∀ w, (Instr.findKey kt kv (ents l).toList).run P w = .ok (r.map fun i => (i, (l.getD i (undef, undef)).2)) w
def lookV (l : List (Value × Value)) (r : Option Nat) (z : Value) : Value :=
  match r with
  | some i => (l.getD i (undef, undef)).2
  | none => z
def putV (l : List (Value × Value)) (r : Option Nat) (k v : Value) : List (Value × Value) :=
  match r with
  | some i => l.set i (k, v)
  | none => l ++ [(k, v)]

theorem run_findAsking {P : Program} {kt : TypeId} {kv : Value} {w : World} (dec : Value × Value → Bool) : ∀ (l : List (Value × Value)) (j : Nat) (m : Nat),
    (∀ p ∈ l, (Op.equal kt kv p.1).run P w = .ok (dec p) w) → (Instr.findAsking kt kv (entsFrom m l) j).run P w = .ok ((l.findIdx? dec).map fun i => (i + j, (l.getD i (undef, undef)).2)) w
  | [], j, m, _ => by simp [entsFrom, Instr.findAsking]
  | p :: r, j, m, h => by
    have h1 := h p (by simp)
    have h2 := run_findAsking dec r (j + 1) (m + 1) fun q hq => h q (by simp [hq])
    simp only [entsFrom, Instr.findAsking, Sem.run_bind, h1, Result.andThen_ok]
    cases hd : dec p with
    | true => simp [List.findIdx?_cons, hd]
    | false =>
      simp only [Bool.false_eq_true, if_false, h2, List.findIdx?_cons, hd]
      cases r.findIdx? dec with
      | none => rfl
      | some i => simp [Nat.add_assoc, Nat.add_comm 1 j]
theorem run_findKey_struct {P : Program} {kt : TypeId} {fs : Array Field} (hu : P.underlying kt = some (.struct fs)) {kv : Value} {l : List (Value × Value)} (dec : Value × Value → Bool) {w : World}
    (heq : ∀ p ∈ l, (Op.equal kt kv p.1).run P w = .ok (dec p) w) : (Instr.findKey kt kv (ents l).toList).run P w = .ok ((l.findIdx? dec).map fun i => (i, (l.getD i (undef, undef)).2)) w := by
  have hA := run_findAsking (P := P) (w := w) dec l 0 0 heq
  unfold Instr.findKey
  simp only [Sem.run_bind, run_underlying hu, Result.andThen_ok, ents, List.toList_toArray]
  cases l with
  | nil => simp [entsFrom, Instr.findNow]
  | cons p r =>
    have : Instr.findNow (.struct fs) kv (entsFrom 0 (p :: r)) 0 = none := by simp [entsFrom, Instr.findNow, Instr.sameNow]
    rw [this]
    simpa using hA

/-- A key that is a struct of plain fields may be asked for. -/
def plainD : TypeDesc → Bool
  | .int _ => true
  | .bool => true
  | .string => true
  | _ => false
theorem run_checkKey_plain {P : Program} {w : World} {t : TypeId} {d : TypeDesc} (hu : P.underlying t = some d) (hd : plainD d = true) (b : Bool) (n : Nat) (v : Value) : (Instr.checkKey b (n + 1) t v).run P w = .ok () w := by
  unfold Instr.checkKey
  simp only [Sem.run_bind, run_underlying hu, Result.andThen_ok]
  cases d <;> first | (cases hd; done) | simp
def keyFields (P : Program) (xs : List Value) : List Field → Bool
  | [] => true
  | f :: r => (match P.underlying f.type, P.info? f.type with | some d, some i => plainD d && (match subL xs f.offset i.size with | [_] => true | _ => false) | _, _ => false) && keyFields P xs r
theorem run_checkKey_list {P : Program} {w : World} {xs : List Value} (b : Bool) (n : Nat) : ∀ (fs : List Field), keyFields P xs fs = true →
    (forIn fs PUnit.unit fun f (_ : PUnit) => (if f.name ≠ "_" then (do
      let x ← part f.type xs.toArray f.offset
      Instr.checkKey b (n + 1) f.type x
      pure (ForInStep.yield PUnit.unit)) else pure (ForInStep.yield PUnit.unit) : Sem (ForInStep PUnit))).run P w = .ok PUnit.unit w
  | [], _ => by simp
  | f :: r, h => by
    simp only [keyFields, Bool.and_eq_true] at h
    obtain ⟨h1, h2⟩ := h
    have ih := run_checkKey_list (w := w) b n r h2
    split at h1
    · rename_i d i hu hi
      simp only [Bool.and_eq_true] at h1
      obtain ⟨h3, h4⟩ := h1
      split at h4
      · rename_i v hv
        have p1 := run_part (w := w) (xs := xs) (off := f.offset) hu hi (.inr ⟨_, hv⟩)
        rw [List.forIn_cons]
        by_cases hn : f.name = "_"
        · simp only [hn, ne_eq, not_true_eq_false, if_false, Sem.run_bind, Sem.run_pure, Result.andThen_ok]
          simpa using ih
        · simp only [hn, ne_eq, not_false_eq_true, if_true, Sem.run_bind, p1, Result.andThen_ok, run_checkKey_plain hu h3 b n, Sem.run_pure]
          simpa using ih
      · cases h4
    · cases h1
theorem run_checkKey_struct {P : Program} {w : World} {t : TypeId} {fs : Array Field} (hu : P.underlying t = some (.struct fs)) {xs : List Value} (h : keyFields P xs fs.toList = true) (b : Bool) :
    (Instr.checkKey b 10000 t (.agg xs.toArray)).run P w = .ok () w := by
  show (Instr.checkKey b (9998 + 1 + 1) t (.agg xs.toArray)).run P w = .ok () w
  unfold Instr.checkKey
  simp only [Sem.run_bind, run_underlying hu, Result.andThen_ok]
  have := run_checkKey_list (P := P) (w := w) (xs := xs) b 9998 fs.toList h
  rw [← Array.forIn_toList]
  rw [this]
  simp
theorem keyAt_struct {P : Program} {kt : TypeId} {fs : Array Field} (hu : P.underlying kt = some (.struct fs)) {xs : List Value} {l : List (Value × Value)} (dec : Value × Value → Bool) (hk : keyFields P xs fs.toList = true)
    (heq : ∀ p ∈ l, ∀ w, (Op.equal kt (.agg xs.toArray) p.1).run P w = .ok (dec p) w) (hs : ∀ p ∈ l, dec p = true → Instr.sameBits 10000 p.1 (.agg xs.toArray) = true) : KeyAt P kt l (.agg xs.toArray) (l.findIdx? dec) := by
  refine ⟨fun i hi => ?_, fun b w => run_checkKey_struct hu hk b, fun w => run_findKey_struct hu dec fun p hp => heq p hp w⟩
  obtain ⟨h1, h2, _⟩ := List.findIdx?_eq_some_iff_getElem.1 hi
  exact ⟨h1, hs _ (List.getElem_mem h1) h2⟩

/-! ### Steps -/
def setObjB (w : World) (b : Nat) (o : Obj) : World := { w with heap := w.heap.setIfInBounds b o }
def mpB (P : Program) (t : TypeId) : Option (TypeId × TypeId) :=
  match P.underlying t with
  | some (.map k e) => some (k, e)
  | _ => none
theorem mpB_spec {P : Program} {t k e : TypeId} (h : mpB P t = some (k, e)) : P.underlying t = some (.map k e) := by
  unfold mpB at h
  split at h
  · rename_i k' e' hu; injection h with h; injection h with h1 h2; subst h1; subst h2; exact hu
  · cases h
def zvB (P : Program) (t : TypeId) : Option Value := (P.info? t).bind (·.zero)
theorem run_zeroValue {P : Program} {w : World} {t : TypeId} {z : Value} (h : zvB P t = some z) : (zeroValue t).run P w = .ok z w := by
  unfold zvB at h
  cases hi : P.info? t with
  | none => rw [hi] at h; cases h
  | some i =>
    rw [hi] at h
    have hz : i.zero = some z := h
    simp [zeroValue, run_info hi, hz]
/-- A key as it lies in a slot. -/
def kval : T → Option Value
  | .v x => some x
  | .agg l => (leafs l).map fun xs => .agg xs.toArray
  | _ => none
theorem kval_spec {w : World} {ok : Nat → Prop} {v kv : Value} {t : T} (h : Reads w ok v t) (hk : kval t = some kv) : v = kv := by
  cases t with
  | v x => simp only [kval, Option.some.injEq] at hk; subst hk; cases h; rfl
  | agg l =>
    simp only [kval, Option.map_eq_some_iff] at hk
    obtain ⟨xs, h1, rfl⟩ := hk
    exact h.leafD h1
  | _ => cases hk
theorem step_makeMap {t : TypeId} {d : Nat} (ho : o.op = .makeMap t none) (hdst : o.dst = some d) (hu : S.used d = false) (hd : dOk C.n o.dst = true) : Step C ops o S ⟨.h d, [(d, some (.mp (ents []) 0))], []⟩ := by
  refine Step.new hd hu (fun j hj => by simp [AObj.ids] at hj) (by simp [AV.ids]) fun β w ok ρ hsz hokl hρ _ => ?_
  refine ⟨.map (some w.heap.size), .map (some w.heap.size), w.alloc (.map #[] 0), by simp [execOp, ho, Instr.makeMap, Sem.run, newObj], below_alloc' _ _, fun b hb => ?_, fun ok' β' h1 h2 h3 h4 => ⟨?_, ?_⟩⟩
  · simp only [blk, Option.some.injEq] at hb; omega
  · exact ⟨w.heap.size, h3, hsz, heap_alloc_at _ _⟩
  · rw [← h3]; exact .h d
theorem step_lookup {t kt vt : TypeId} {m x : Operand} {i : Nat} {l : List (Value × Value)} {c : Nat} {kx : T} {kv z : Value} {r : Option Nat} (ho : o.op = .lookup t m x false) (hx : evalS S m = .h i) (hm : S.mem i = some (.mp (ents l) c))
    (hk : evalS S x = .t kx) (hkv : kval kx = some kv) (ht : mpB C.P t = some (kt, vt)) (hz : zvB C.P vt = some z) (hka : KeyAt C.P kt l kv r) (hd : dOk C.n o.dst = true) : Step C ops o S ⟨.t (.v (lookV l r z)), [], [i]⟩ := by
  refine Step.read hm hd (by simp [AV.ids]) fun β w ok ρ hO hρ _ => ?_
  obtain ⟨b, h1, h2, h3⟩ := hO
  have v1 := hρ m (by simp [ho, Op.operands])
  have v2 := hρ x (by simp [ho, Op.operands])
  rw [hx] at v1; rw [hk] at v2
  have e1 := v1.hD
  have e2 := kval_spec v2.tD hkv
  refine ⟨lookV l r z, ?_, .t (.v _)⟩
  simp only [execOp, ho, Instr.lookup, Sem.run_bind, run_underlying (mpB_spec ht), Result.andThen_ok, e1, h1, e2, MapKept.run_getObj_map h3, hka.2.1, hka.2.2, Sem.run_pure]
  cases r with
  | none => simp [run_zeroValue hz, lookV]
  | some i => simp [lookV]
theorem step_lookupOk {t kt vt : TypeId} {m x : Operand} {i : Nat} {l : List (Value × Value)} {c : Nat} {kx : T} {kv z : Value} {r : Option Nat} (ho : o.op = .lookup t m x true) (hx : evalS S m = .h i) (hm : S.mem i = some (.mp (ents l) c))
    (hk : evalS S x = .t kx) (hkv : kval kx = some kv) (ht : mpB C.P t = some (kt, vt)) (hz : zvB C.P vt = some z) (hka : KeyAt C.P kt l kv r) (hd : dOk C.n o.dst = true) : Step C ops o S ⟨.t (.tup [.v (lookV l r z), .b r.isSome]), [], [i]⟩ := by
  refine Step.read hm hd (by simp [AV.ids]) fun β w ok ρ hO hρ _ => ?_
  obtain ⟨b, h1, h2, h3⟩ := hO
  have v1 := hρ m (by simp [ho, Op.operands])
  have v2 := hρ x (by simp [ho, Op.operands])
  rw [hx] at v1; rw [hk] at v2
  have e1 := v1.hD
  have e2 := kval_spec v2.tD hkv
  refine ⟨.tuple #[lookV l r z, .bool r.isSome], ?_, .t (.tup rfl fun q g1 g2 => ?_)⟩
  · simp only [execOp, ho, Instr.lookup, Sem.run_bind, run_underlying (mpB_spec ht), Result.andThen_ok, e1, h1, e2, MapKept.run_getObj_map h3, hka.2.1, hka.2.2, Sem.run_pure]
    cases r with
    | none => simp [run_zeroValue hz, lookV]
    | some i => simp [lookV]
  · rcases q with _ | _ | q
    · exact .v _
    · exact .v _
    · simp at g1; omega
theorem setBlock_same {w : World} {b : Nat} {es : Array MapEntry} {c : Nat} (h : w.heap[b]? = some (.map es c)) (o' : Obj) : (setObjB w b o').heap[b]? = some o' := by
  obtain ⟨hlt, _⟩ := Array.getElem?_eq_some_iff.1 h
  simp [setObjB, hlt]
theorem setBlock_other' {w : World} {b k : Nat} (o' : Obj) (h : k ≠ b) : (setObjB w b o').heap[k]? = w.heap[k]? := by
  simp [setObjB, Array.getElem?_setIfInBounds_ne (Ne.symm h)]
/-- A map is changed in place. -/
theorem Step.turn {val : AV} {i : Nat} {es es' : Array MapEntry} {c c' : Nat} (hm : S.mem i = some (.mp es c)) (hd : dOk C.n o.dst = true) (hids : val.ids = [])
    (h : ∀ (β : Nat → Value) (w : World) (ok : Nat → Prop) (ρ : Operand → Value) (b : Nat), β i = .map (some b) → w.heap[b]? = some (.map es c) → (∀ x ∈ o.op.operands, VRel w ok β (ρ x) (evalS S x)) → (∀ v, ρ (.const v) = v) →
      ((execOp ρ o).run C.P w = .ok .skip (setObjB w b (.map es' c')) ∧ o.dst = none) ∨ ∃ v, (execOp ρ o).run C.P w = .ok (.value v) (setObjB w b (.map es' c')) ∧ ∀ w' ok' β', VRel w' ok' β' v val) :
    Step C ops o S ⟨val, [(i, some (.mp es' c'))], []⟩ := by
  intro S₁ hsl hmm a w hsat
  obtain ⟨β, hb⟩ := hsat
  have hmi : S₁.mem i = some (.mp es c) := (hmm i (.inr (by simp [hasKey, Nat.beq_refl]))).1.trans hm
  obtain ⟨b, h1, g2, g3⟩ := hb.mem i _ hmi
  have hbel : Below C.w0.heap.size C.w0 (setObjB w b (.map es' c')) :=
    hb.below.trans ⟨rfl, rfl, rfl, by simp [setObjB], fun k hk => setBlock_other' _ (by omega)⟩
  have hfin := hb.inplace i _ (.mp es' c') hmi (fun _ _ h => by cases h) hbel (by simp [setObjB]) (fun k hk => setBlock_other' _ (fun e => hk (by rw [h1, e]; rfl))) (by simp [AObj.ids])
    (fun ok' hok => ⟨b, h1, g2, setBlock_same g3 _⟩)
  rcases h β w (okS C S₁ β w) a.eval b h1 g3 (fun x hx => by rw [← agree_eval hsl hx]; exact hb.eval x) (fun _ => rfl) with ⟨hr, hdn⟩ | ⟨v, hr, hv⟩
  · refine Oper.wp_skip hr ?_
    rw [ap_modS, hdn]
    exact ⟨β, hfin.put none undef val (fun _ h => by cases h) (fun _ h => by cases h) (by rw [hids]; simp)⟩
  · refine Oper.wp_value hr ?_
    rw [ap_modS]
    refine ⟨β, hfin.put o.dst v val (fun _ _ _ => hv _ _ _) (fun x hx => .inl ?_) (by rw [hids]; simp)⟩
    rw [hx] at hd; simpa [dOk] using hd
theorem run_keyThatStays' {P : Program} {w : World} {old new : Value} (h : Instr.sameBits 10000 old new = true) : (Instr.keyThatStays old new).run P w = .ok new w := by
  simp [Instr.keyThatStays, h]
theorem ents_get {l : List (Value × Value)} {i : Nat} (h : i < l.length) : (ents l)[i]? = some { key := l[i].1, val := l[i].2, born := i } := by
  have h' : i < (ents l).size := by simpa [ents, entsFrom_len] using h
  rw [Array.getElem?_eq_getElem h']
  simp only [ents, List.getElem_toArray]
  rw [entsFrom_get l 0 i (by simpa [entsFrom_len] using h) h]; simp
theorem step_mapUpdate {t kt vt : TypeId} {m x y : Operand} {i : Nat} {l : List (Value × Value)} {kx ky : T} {kv yv : Value} {r : Option Nat} (ho : o.op = .mapUpdate t m x y) (hx : evalS S m = .h i) (hm : S.mem i = some (.mp (ents l) l.length))
    (hk : evalS S x = .t kx) (hkv : kval kx = some kv) (hy : evalS S y = .t ky) (hyv : kval ky = some yv) (ht : mpB C.P t = some (kt, vt)) (hka : KeyAt C.P kt l kv r) (hd : o.dst = none) :
    Step C ops o S ⟨.junk, [(i, some (.mp (ents (putV l r kv yv)) (putV l r kv yv).length))], []⟩ := by
  refine Step.turn hm (by rw [hd]; rfl) rfl fun β w ok ρ b h1 h3 hρ _ => .inl ⟨?_, hd⟩
  have v1 := hρ m (by simp [ho, Op.operands])
  have v2 := hρ x (by simp [ho, Op.operands])
  have v3 := hρ y (by simp [ho, Op.operands])
  rw [hx] at v1; rw [hk] at v2; rw [hy] at v3
  have e1 := v1.hD
  have e2 := kval_spec v2.tD hkv
  have e3 := kval_spec v3.tD hyv
  simp only [execOp, ho, Instr.mapUpdate, Sem.run_bind, run_underlying (mpB_spec ht), Result.andThen_ok, e1, h1, e2, e3, MapKept.run_getObj_map h3, hka.2.1, hka.2.2]
  cases r with
  | none => simp [MapKept.run_setObj_map _ h3, putV, ents_push, setObjB]
  | some q =>
    obtain ⟨hq, hs⟩ := hka.1 q rfl
    simp [ents_get hq, run_keyThatStays' hs, MapKept.run_setObj_map _ h3, putV, ents_modify, setObjB]
/-- 'm[k] op= ..' for a key that is not there yet: the entry, with its stamp. -/
theorem step_mapEntryNew {t kt vt : TypeId} {m x : Operand} {i : Nat} {l : List (Value × Value)} {kx : T} {kv z : Value} (ho : o.op = .mapEntry t m x) (hx : evalS S m = .h i) (hm : S.mem i = some (.mp (ents l) l.length))
    (hk : evalS S x = .t kx) (hkv : kval kx = some kv) (ht : mpB C.P t = some (kt, vt)) (hz : zvB C.P vt = some z) (hka : KeyAt C.P kt l kv none) (hd : dOk C.n o.dst = true) :
    Step C ops o S ⟨.t (.tup [.v z, .i l.length]), [(i, some (.mp (ents (l ++ [(kv, z)])) (l ++ [(kv, z)]).length))], []⟩ := by
  refine Step.turn hm hd rfl fun β w ok ρ b h1 h3 hρ _ => .inr ⟨.tuple #[z, .int .i64 l.length], ?_, fun w' ok' β' => .t (.tup rfl fun q g1 g2 => ?_)⟩
  · have v1 := hρ m (by simp [ho, Op.operands])
    have v2 := hρ x (by simp [ho, Op.operands])
    rw [hx] at v1; rw [hk] at v2
    have e1 := v1.hD
    have e2 := kval_spec v2.tD hkv
    simp only [execOp, ho, Instr.mapEntry, Sem.run_bind, run_underlying (mpB_spec ht), Result.andThen_ok, e1, h1, e2, MapKept.run_getObj_map h3, hka.2.1, hka.2.2]
    simp [run_zeroValue hz, MapKept.run_setObj_map _ h3, ents_push, setObjB, goInt]
  · rcases q with _ | _ | q
    · exact .v _
    · exact .v _
    · simp at g1; omega
theorem step_entryStore {t : TypeId} {m x y : Operand} {i : Nat} {l : List (Value × Value)} {ky : T} {yv : Value} {q : Nat} (ho : o.op = .entryStore t m x y) (hx : evalS S m = .h i) (hm : S.mem i = some (.mp (ents l) l.length))
    (hk : evalS S x = .t (.i q)) (hq : q < l.length) (hy : evalS S y = .t ky) (hyv : kval ky = some yv) (hd : o.dst = none) :
    Step C ops o S ⟨.junk, [(i, some (.mp (ents (l.set q ((l.getD q (undef, undef)).1, yv))) (l.set q ((l.getD q (undef, undef)).1, yv)).length))], []⟩ := by
  refine Step.turn hm (by rw [hd]; rfl) rfl fun β w ok ρ b h1 h3 hρ _ => .inl ⟨?_, hd⟩
  have v1 := hρ m (by simp [ho, Op.operands])
  have v2 := hρ x (by simp [ho, Op.operands])
  have v3 := hρ y (by simp [ho, Op.operands])
  rw [hx] at v1; rw [hk] at v2; rw [hy] at v3
  have e1 := v1.hD
  have e2 := v2.toV
  have e3 := kval_spec v3.tD hyv
  have hf : (ents l).findIdx? (fun e => (e.born : Int) == (q : Int)) = some q := by
    rw [Array.findIdx?_eq_some_iff_getElem]
    have hs : (ents l).size = l.length := by simp [ents, entsFrom_len]
    refine ⟨by omega, ?_, fun j hj => ?_⟩
    · have := ents_get hq
      rw [Array.getElem?_eq_getElem (by omega)] at this
      injection this with this
      rw [this]; simp
    · have := ents_get (l := l) (i := j) (by omega)
      rw [Array.getElem?_eq_getElem (by omega)] at this
      injection this with this
      rw [this]; simp; omega
  have hmod : ((ents l).modify q fun e => { e with val := yv }) = ents (l.set q ((l.getD q (undef, undef)).1, yv)) := by
    rw [← ents_modify]
    apply Array.ext
    · simp
    · intro j g1 g2
      simp only [Array.getElem_modify]
      by_cases hj : q = j
      · subst hj
        have := ents_get hq
        rw [Array.getElem?_eq_getElem (by simpa using g1)] at this
        injection this with this
        simp [this, List.getD_eq_getElem?_getD, hq]
      · simp [hj]
  have hai : (asInt (.int .i64 (q : Int))).run C.P w = .ok (q : Int) w := by simp [asInt, asIntOf]
  simp only [execOp, ho, Instr.entryStore, Sem.run_bind, Result.andThen_ok, e1, h1, e2, e3, MapKept.run_getObj_map h3, hai, Sem.run_pure, hf]
  simp [MapKept.run_setObj_map _ h3, hmod, setObjB]

/-! ### Ways that meet -/
/-- The first part ends, by whatever way, in one state; from there on it is walked once. -/
theorem AT.seqJ {x y : Code} {Q : Exit → AState → Prop} (S' : AState) (h1 : AT C x (nextQ (fun S₁ => ∀ a w, Sat C S₁ a w → Sat C S' a w) Q) S) (h2 : AT C y Q S') : AT C (.seq x y) Q S := by
  refine AT.seq (AT.mono h1 fun e S₁ hq => ?_)
  cases e with
  | normal => exact AT.weaken hq h2
  | _ => exact hq
end Go.Proofs.Ytgblfhobiibeaaa.Abs

/- Abstract symbolic execution, part 25: stores into rows of the call's own. No condition. -/
set_option linter.unusedVariables false
set_option linter.unusedSimpArgs false
namespace Go.Proofs.Ytgblfhobiibeaaa.Abs
open Go.RowKit
variable {C : Ctx} {ops : Array Oper} {o : Oper} {S : AState}

theorem setArr_get (vs : List Value) : ∀ (arr : Array Value) (q p : Nat), q + vs.length ≤ arr.size → (setArr arr q vs)[p]? = if q ≤ p ∧ p < q + vs.length then vs[p - q]? else arr[p]? := by
  induction vs with
  | nil => intro arr q p _; simp only [setArr, List.length_nil]; rw [if_neg (by omega)]
  | cons v r ih =>
    intro arr q p h
    simp only [List.length_cons] at h
    simp only [setArr]
    rw [ih _ (q + 1) p (by simp; omega)]
    simp only [List.length_cons]
    by_cases h1 : p = q
    · subst h1
      rw [if_neg (by omega), if_pos (by omega)]
      have hlt : p < arr.size := by omega
      simp [hlt]
    · by_cases h2 : q + 1 ≤ p ∧ p < q + 1 + r.length
      · rw [if_pos h2, if_pos (by omega)]
        obtain ⟨d, rfl⟩ : ∃ d, p = q + 1 + d := ⟨p - q - 1, by omega⟩
        rw [show q + 1 + d - (q + 1) = d from by omega, show q + 1 + d - q = d + 1 from by omega, List.getElem?_cons_succ]
      · rw [if_neg h2, if_neg (by omega), Array.getElem?_setIfInBounds_ne (fun e => h1 e.symm)]
theorem setSub_get {α : Type} : ∀ {xs l l' : List α} {q : Nat}, Abs.setSub l q xs = some l' → l'.length = l.length ∧ (xs = [] ∨ q + xs.length ≤ l.length) ∧ ∀ p, l'[p]? = if q ≤ p ∧ p < q + xs.length then xs[p - q]? else l[p]?
  | [], l, l', q, h => by
    simp only [Abs.setSub, Option.some.injEq] at h; subst h
    exact ⟨rfl, .inl rfl, fun p => by simp only [List.length_nil]; rw [if_neg (by omega)]⟩
  | x :: r, l, l', q, h => by
    simp only [Abs.setSub] at h
    split at h
    · rename_i l1 h1
      obtain ⟨hlt, rfl⟩ := setE_spec h1
      obtain ⟨g1, g2, g3⟩ := setSub_get h
      simp only [List.length_set] at g1 g2
      refine ⟨g1, .inr ?_, fun p => ?_⟩
      · rcases g2 with rfl | g2
        · simp; omega
        · simp only [List.length_cons]; omega
      · rw [g3 p]
        simp only [List.length_cons]
        by_cases e1 : p = q
        · subst e1
          rw [if_neg (by omega), if_pos (by omega)]
          simp [hlt]
        · by_cases e2 : q + 1 ≤ p ∧ p < q + 1 + r.length
          · rw [if_pos e2, if_pos (by omega)]
            obtain ⟨d, rfl⟩ : ∃ d, p = q + 1 + d := ⟨p - q - 1, by omega⟩
            rw [show q + 1 + d - (q + 1) = d from by omega, show q + 1 + d - q = d + 1 from by omega, List.getElem?_cons_succ]
          · rw [if_neg e2, if_neg (by omega), List.getElem?_set_ne (fun e => e1 e.symm)]
    · cases h

/-- Cells as they come out of a slot. -/
def oneT (t : T) : Bool :=
  match t with
  | .agg _ => true
  | t => t.one
theorem oneT_cells {w : World} {ok : Nat → Prop} {v : Value} {t : T} (h : Reads w ok v t) (ho : oneT t = true) : v.cells.size = t.cells.length ∧ ∀ j (h1 : j < v.cells.size) (h2 : j < t.cells.length), Reads w ok v.cells[j] t.cells[j] ∧ v.cells[j].oneCell' = true := by
  by_cases ha : ∃ l, t = .agg l
  · obtain ⟨l, rfl⟩ := ha
    obtain ⟨vs, rfl, e2, e3, e4⟩ := h.aggD
    exact ⟨e2, fun j h1 h2 => ⟨e3 j h1 h2, e4 j h1⟩⟩
  · have h1 : t.one = true := by
      cases t with
      | agg l => exact absurd ⟨l, rfl⟩ ha
      | _ => exact ho
    have hv := h.one h1
    have hc := cells_of_one hv
    have ht : t.cells = [t] := by cases t <;> first | rfl | cases h1
    simp only [hc, ht]
    refine ⟨rfl, fun j h1 h2 => ?_⟩
    have : j = 0 := by simp at h1; omega
    subst this
    exact ⟨h, hv⟩
/-- A store into an element of a row, or into a part of it. -/
theorem step_storeR {t : TypeId} {x y : Operand} {i E sz off k j n : Nat} {l : List T} {ec ec' : List T} {ty : T} {bb : Bool} (ho : o.op = .store t x y) (hx : evalS S x = .e i off) (hm : S.mem i = some (.row E sz l)) (hoff : off = k * sz + j)
    (hk : l[k]? = some (.agg ec)) (hy : evalS S y = .t ty) (hone : oneT ty = true) (hs : Abs.setSub ec j ty.cells = some ec') (ht : tyB C.P t = some (bb, n)) (hn : ty.cells.length = n) (hd : o.dst = none) :
    Step C ops o S ⟨.junk, [(i, some (.row E sz (l.set k (.agg ec'))))], []⟩ := by
  have hmx : x ∈ o.op.operands := by simp [ho, Op.operands]
  have hmy : y ∈ o.op.operands := by simp [ho, Op.operands]
  intro S₁ hsl hmm a w hsat
  obtain ⟨β, hb⟩ := hsat
  have hm1 : S₁.mem i = some (.row E sz l) := (hmm i (.inr (by simp [hasKey, Nat.beq_refl]))).1.trans hm
  have hvx := hb.eval x
  have hvy := hb.eval y
  rw [agree_eval hsl hmx, hx] at hvx
  rw [agree_eval hsl hmy, hy] at hvy
  have hO := hb.mem i _ hm1
  obtain ⟨b, n0, c0, h4, h5⟩ := hvx.eD
  obtain ⟨cells, r1, r2, r3⟩ := hO
  obtain ⟨hkl, hke⟩ := List.getElem?_eq_some_iff.1 hk
  obtain ⟨c1, c2⟩ := oneT_cells hvy.tD hone
  obtain ⟨s1, s2, s3⟩ := setSub_get hs
  have hez : ec.length = sz := by have := r2 k hkl; rw [hke] at this; exact this
  rcases r1.2 with ⟨h6, _⟩ | ⟨g, cap, cur, h6, g1, g2, g3, g4, g5, g6⟩
  · rw [h6] at h4; cases h4
  · have hbg : b = g := by rw [h6] at h4; injection h4 with h4; injection h4 with h4; injection h4 with h4; exact h4.symm
    subst hbg
    have hlsz : l.length * sz ≤ cap * sz := Nat.mul_le_mul_right _ g3
    have hksz : k * sz + sz ≤ l.length * sz := by
      have : (k + 1) * sz ≤ l.length * sz := Nat.mul_le_mul_right _ hkl
      rw [Nat.add_mul, Nat.one_mul] at this; exact this
    have hvl : (a.eval y).cells.toList.length = ty.cells.length := by simpa using c1
    have hfit : (a.eval y).cells.toList = [] ∨ off + 0 + (a.eval y).cells.toList.length ≤ cur.size := by
      rcases s2 with h | h
      · left; exact List.eq_nil_of_length_eq_zero (by rw [hvl, h]; rfl)
      · right; rw [hvl]; omega
    have hrun := run_storeCells_blk (P := C.P) (E := E) (b := b) (a.eval y).cells.toList w cur off 0 g2 hfit (fun v hv => by
      obtain ⟨q, hq, rfl⟩ := List.getElem_of_mem hv
      have hq' : q < (a.eval y).cells.size := by simpa using hq
      simpa using (c2 q hq' (by omega)).2)
    have hr : (execOp a.eval o).run C.P w = .ok .skip (setBlk w b (setArr cur (off + 0) (a.eval y).cells.toList) E) := by
      simp [execOp, ho, h5, Instr.storeAt, Instr.sureAddr, run_storeVar ht (by omega) hrun]
    refine Oper.wp_skip hr ?_
    rw [ap_modS, hd]
    have hbel : Below C.w0.heap.size C.w0 (setBlk w b (setArr cur (off + 0) (a.eval y).cells.toList) E) :=
      hb.below.trans ⟨rfl, rfl, rfl, by simp [setBlk], fun q hq => setBlk_other (by omega)⟩
    have hblk : blk (β i) = some b := by rw [h6]; rfl
    have hfin := hb.inplace i _ (.row E sz (l.set k (.agg ec'))) hm1 (fun _ _ h => by cases h) hbel (by simp [setBlk]) (fun q hq => setBlk_other (fun e => hq (by rw [hblk, e]))) (by simp [AObj.ids])
      (fun ok' hok => by
        have hlen : (l.set k (.agg ec')).length = l.length := by simp
        have hsz5 : (setArr cur (off + 0) (a.eval y).cells.toList).toList.length = cap * sz := by simp [setArr_size, g5]
        refine ⟨(setArr cur (off + 0) (a.eval y).cells.toList).toList.take (l.length * sz), ⟨by rw [hlen, List.length_take, hsz5]; omega, .inr ⟨b, cap, setArr cur (off + 0) (a.eval y).cells.toList, by rw [hlen]; exact h6, g1, setBlk_at g2, by rw [hlen]; exact g3, g4, by rw [setArr_size]; exact g5, by rw [hlen]⟩⟩, ?_, ?_⟩
        · intro q hq
          by_cases hqk : q = k
          · subst hqk; rw [List.getElem_set_self]; show ec'.length = sz; omega
          · rw [List.getElem_set_ne (fun e => hqk e.symm)]; exact r2 q (by omega)
        · intro q hq jj hjj
          have hq' : q < l.length := by omega
          have hcell : ∀ p, p < l.length * sz → ((setArr cur (off + 0) (a.eval y).cells.toList).toList.take (l.length * sz))[p]? = if off ≤ p ∧ p < off + ty.cells.length then (a.eval y).cells.toList[p - off]? else cells[p]? := by
            intro p hp
            rw [List.getElem?_take_of_lt hp, Array.getElem?_toList]
            have hcp : cells[p]? = cur[p]? := by rw [← g6, List.getElem?_take_of_lt hp, Array.getElem?_toList]
            rcases hfit with he | he
            · have h0 : ty.cells.length = 0 := by rw [← hvl, he]; rfl
              rw [he, if_neg (by omega), hcp]; rfl
            · rw [setArr_get _ _ _ _ he, hvl, Nat.add_zero, hcp]
          have hmono : ∀ {u : Value} {x : T}, Reads w (okS C S₁ β w) u x → Reads (setBlk w b (setArr cur (off + 0) (a.eval y).cells.toList) E) ok' u x := fun hu =>
            hu.mono (fun b2 hb2 => setBlk_other (fun e => (hok b2 hb2).2 (by rw [hblk, e]))) (fun b2 hb2 => (hok b2 hb2).1)
          have hjsz : jj < sz := by
            by_cases hqk : q = k
            · subst hqk; simp only [List.getElem_set_self] at hjj; have : jj < ec'.length := hjj; omega
            · simp only [List.getElem_set_ne (fun e => hqk e.symm)] at hjj; rw [r2 q hq'] at hjj; exact hjj
          have hpl : q * sz + jj < l.length * sz := idx_lt hq' hjsz
          rw [hcell _ hpl]
          by_cases hqk : q = k
          · subst hqk
            simp only [List.getElem_set_self]
            have hjj' : jj < ec'.length := by omega
            have e3 := s3 jj
            rw [List.getElem?_eq_getElem hjj'] at e3
            by_cases hin : j ≤ jj ∧ jj < j + ty.cells.length
            · rw [if_pos hin] at e3
              rw [if_pos (by omega)]
              have hd1 : jj - j < ty.cells.length := by omega
              rw [List.getElem?_eq_getElem hd1] at e3
              injection e3 with e3
              have hd2 : jj - j < (a.eval y).cells.size := by omega
              refine ⟨(a.eval y).cells[jj - j], ?_, ?_, (c2 _ hd2 hd1).2⟩
              · rw [show q * sz + jj - off = jj - j by omega]; simp [hd2]
              · show Reads _ _ _ ec'[jj]
                rw [e3]; exact hmono (c2 _ hd2 hd1).1
            · rw [if_neg hin] at e3
              rw [if_neg (by omega)]
              have hjec : jj < ec.length := by omega
              rw [List.getElem?_eq_getElem hjec] at e3
              injection e3 with e3
              have hjl : jj < (l[q]).cells.length := by rw [hke]; exact hjec
              obtain ⟨u, u1, u2, u3⟩ := r3 q hq' jj hjl
              refine ⟨u, u1, ?_, u3⟩
              show Reads _ _ _ ec'[jj]
              rw [e3]
              have : (l[q]).cells[jj] = ec[jj] := by simp only [hke]; rfl
              rw [← this]; exact hmono u2
          · simp only [List.getElem_set_ne (fun e => hqk e.symm)] at hjj ⊢
            have hno : ¬ (off ≤ q * sz + jj ∧ q * sz + jj < off + ty.cells.length) := by
              rintro ⟨o1, o2⟩
              rcases s2 with h | h
              · rw [h] at o2; simp at o2; omega
              · rcases Nat.lt_or_gt_of_ne hqk with h7 | h7
                · have : (q + 1) * sz ≤ k * sz := Nat.mul_le_mul_right _ h7
                  rw [Nat.add_mul, Nat.one_mul] at this; omega
                · have : (k + 1) * sz ≤ q * sz := Nat.mul_le_mul_right _ h7
                  rw [Nat.add_mul, Nat.one_mul] at this; omega
            rw [if_neg hno]
            obtain ⟨u, u1, u2, u3⟩ := r3 q hq' jj hjj
            exact ⟨u, u1, hmono u2, u3⟩)
    exact ⟨β, hfin.put none undef .junk (fun _ h => by cases h) (fun _ h => by cases h) (by simp [AV.ids])⟩
end Go.Proofs.Ytgblfhobiibeaaa.Abs

/- Abstract symbolic execution, part 26: growing a nil slice; the head of a row as a row. No condition. -/
set_option linter.unusedVariables false
set_option linter.unusedSimpArgs false
namespace Go.Proofs.Ytgblfhobiibeaaa.Abs
open Go.RowKit
variable {C : Ctx} {ops : Array Oper} {o : Oper} {S : AState}

theorem step_lenN {t rt : TypeId} {x : Operand} {e sz bytes : Nat} (ho : o.op = .call { callee := .builtin .len, args := #[x], argTypes := #[t] }) (hx : evalS S x = .t (.v (.slice none 0 0))) (ht : slB C.P t = some (e, sz, bytes)) (hd : dOk C.n o.dst = true) : Step C ops o S ⟨.t (.i 0), [], []⟩ := by
  refine Step.pure hd (by simp [AV.ids]) fun β w ok ρ hρ _ _ => ?_
  obtain ⟨hu, inf, hinf, hsz, _⟩ := slB_spec ht
  have h := hρ x (by simp [ho, Op.operands, Call.operands])
  rw [hx] at h
  exact ⟨_, by simp [execOp, ho, resolve, invoke, builtin, Builtin.len_, run_underlying hu, h.toV, goInt], .t (.v _)⟩
theorem step_capN {t rt : TypeId} {x : Operand} {e sz bytes : Nat} (ho : o.op = .call { callee := .builtin .cap, args := #[x], argTypes := #[t] }) (hx : evalS S x = .t (.v (.slice none 0 0))) (ht : slB C.P t = some (e, sz, bytes)) (hd : dOk C.n o.dst = true) : Step C ops o S ⟨.t (.i 0), [], []⟩ := by
  refine Step.pure hd (by simp [AV.ids]) fun β w ok ρ hρ _ _ => ?_
  obtain ⟨hu, inf, hinf, hsz, _⟩ := slB_spec ht
  have h := hρ x (by simp [ho, Op.operands, Call.operands])
  rw [hx] at h
  exact ⟨_, by simp [execOp, ho, resolve, invoke, builtin, Builtin.cap_, run_underlying hu, h.toV, goInt], .t (.v _)⟩
/-- A nil slice up to its capacity. -/
theorem step_sliceN {t : TypeId} {x y : Operand} {e sz bytes : Nat} {k : IntKind} (ho : o.op = .slice t x none (some y) none) (hx : evalS S x = .t (.v (.slice none 0 0))) (hy : evalS S y = .t (.v (.int k 0))) (ht : slB C.P t = some (e, sz, bytes)) (hd : dOk C.n o.dst = true) :
    Step C ops o S ⟨.t (.v (.slice none 0 0)), [], []⟩ := by
  refine Step.pure hd (by simp [AV.ids]) fun β w ok ρ hρ _ _ => ?_
  obtain ⟨hu, inf, hinf, hsz, _⟩ := slB_spec ht
  have h := hρ x (by simp [ho, Op.operands])
  have h2 := hρ y (by simp [ho, Op.operands])
  rw [hx] at h; rw [hy] at h2
  have e1 := h.toV
  have e2 := h2.toV
  have hb : (Instr.sliceBounds true 0 0 none (some (.int k 0)) none).run C.P w = .ok (0, 0, 0) w := run_sliceBounds (.inl ⟨rfl, rfl⟩) (.inr ⟨k, rfl⟩) (.inl ⟨rfl, rfl⟩) (Nat.le_refl _) (Nat.le_refl _) (Nat.le_refl _)
  refine ⟨.slice none 0 0, ?_, .t (.v _)⟩
  simp only [execOp, ho, Instr.sliceAt, Sem.run_bind, run_underlying hu, Result.andThen_ok, e1, e2, Instr.slice, Option.map_none, Option.map_some, hb, sizeOf, run_info hinf, Sem.run_pure]
  rfl
/-- append of so many zeros to nil: a new row. -/
theorem step_appendZN {t ti : TypeId} {x y : Operand} {d sz e bytes cnt : Nat} {q : Int} {zs : List Value} (ze : T) (ho : o.op = .call { callee := .builtin .append, args := #[x, y], argTypes := #[t, ti] }) (hdst : o.dst = some d) (hx : evalS S x = .t (.v (.slice none 0 0)))
    (hy : evalS S y = .t (.v (.int .i64 q))) (hq : q = cnt) (hg : 0 < cnt) (ht : slB C.P t = some (e, sz, bytes)) (hti : intB C.P ti = some .i64) (hz : zeroB C.P e = some zs) (hzl : zs.length = sz) (hsz : Nat.blt 0 sz = true) (h1 : zs.all Value.oneCell' = true)
    (hze : ze.cells = zs.map T.v) (hb1 : Nat.blt 0 bytes = true) (hbytes : cnt * bytes ≤ 140737488355328) (hu : S.used d = false) (hd : dOk C.n o.dst = true) :
    Step C ops o S ⟨.h d, [(d, some (.row e sz (List.replicate cnt ze)))], []⟩ := by
  have hmx : x ∈ o.op.operands := by simp [ho, Op.operands, Call.operands]
  have hmy : y ∈ o.op.operands := by simp [ho, Op.operands, Call.operands]
  have hsz' : 0 < sz := by simpa [Nat.blt_eq] using hsz
  have hb1' : 0 < bytes := by simpa [Nat.blt_eq] using hb1
  refine Step.new hd hu (by simp [AObj.ids]) (by simp [AV.ids]) fun β w ok ρ hw0 hokl hρ _ => ?_
  have hqx : ρ x = .slice none 0 0 := by have := hρ x hmx; rw [hx] at this; exact this.toV
  have hyv : ρ y = .int .i64 q := by have := hρ y hmy; rw [hy] at this; exact this.toV
  obtain ⟨hu', inf, hinf, hs, hby⟩ := slB_spec ht
  obtain ⟨i', z, hi, hzz, rfl⟩ := zeroB_spec hz
  have hii : inf = i' := by rw [hi] at hinf; injection hinf with h; exact h.symm
  subst hii
  have htiu : C.P.underlying ti = some (.int .i64) := by
    unfold intB at hti
    split at hti
    · rename_i k hk; injection hti with hti; subst hti; exact hk
    · cases hti
  have hzs : z.cells.size = sz := by simpa using hzl
  have hcn : cnt ≤ cnt * bytes := Nat.le_mul_of_pos_right _ hb1'
  have hw : IntKind.i64.wrap (cnt : Int) = cnt := by rw [wrap_in] <;> omega
  have hneg : ¬ ((cnt : Int) < 0) := by omega
  have h48i : ¬ (281474976710656 < (cnt : Int) * (inf.bytes : Int)) := by
    rw [← Int.natCast_mul, hby]; omega
  have hns : ¬ (cnt * inf.size = 0) := by rw [hs]; exact Nat.mul_ne_zero (by omega) (by omega)
  have hroom : ¬ (cnt = 0) := by omega
  have h63 : ¬ (9223372036854775807 < (cnt : Int)) := by omega
  have h48 : ¬ (281474976710656 < Builtin.nextslicecap cnt 0 * inf.bytes) := by
    rw [hby]; have := growslice_fits (need := cnt) (old := 0) (by omega) hbytes; omega
  have hrun : (execOp ρ o).run C.P w = .ok (.value (.slice (some ⟨w.heap.size, 0, none⟩) cnt (grownCap w cnt 0 e)))
      (w.drew.alloc (.cells (Builtin.zeroCells z.cells cnt ++ Builtin.zeroCells z.cells (grownCap w cnt 0 e - cnt)) e)) := by
    simp [execOp, ho, resolve, invoke, builtin, Builtin.append_, Builtin.firstCells, run_underlying hu', run_underlying htiu, sizeOf, typeInfo, zeroValue, hi, hzz, asInt, asIntOf, hqx, hyv, hq, hw, hneg, hns, h48i, hroom, h63, h48, Question.forced, newRow, grownCap]
  have hgc := grownCap_ge w cnt 0 e
  have hgm := grownCap_le_maxLen w cnt 0 e (by unfold maxLen; omega)
  have hbel : Below w.heap.size w (w.drew.alloc (.cells (Builtin.zeroCells z.cells cnt ++ Builtin.zeroCells z.cells (grownCap w cnt 0 e - cnt)) e)) :=
    ((Below.refl _ w).drew).alloc (Nat.le_refl _) _
  refine ⟨_, .slice (some ⟨w.heap.size, 0, none⟩) cnt (grownCap w cnt 0 e), _, hrun, hbel, fun b hbl => by simp [blk] at hbl; omega, fun ok' β' k1 k2 k3 k4 => ⟨?_, by rw [← k3]; exact .h d⟩⟩
  have hcl : ze.cells.length = sz := by rw [hze]; simpa using hzs
  refine ⟨(Builtin.zeroCells z.cells cnt).toList, ?_, fun k hk => by rw [List.getElem_replicate]; exact hcl, fun k hk j hj => ?_⟩
  · rw [k3]
    refine ⟨by simp [size_zeroCells, hzs], .inr ⟨w.heap.size, grownCap w cnt 0 e, _, by simp, hw0, heap_alloc_at _ _, by simp; omega, hgm, ?_, ?_⟩⟩
    · simp only [Array.size_append, size_zeroCells, hzs]
      rw [← Nat.add_mul]
      congr 1
      omega
    · have hl2 : (List.replicate cnt ze).length * sz = (Builtin.zeroCells z.cells cnt).toList.length := by simp [size_zeroCells, hzs]
      rw [hl2]
      simp only [Array.toList_append]
      rw [List.take_left'] <;> simp
  · have hk' : k < cnt := by simpa using hk
    rw [List.getElem_replicate] at hj
    have hj' : j < sz := by rw [← hcl]; exact hj
    have hlt : k * sz + j < cnt * sz := idx_lt hk' hj'
    have hjz : j < z.cells.size := by omega
    have hmod : (k * sz + j) % z.cells.size = j := by rw [hzs, Nat.mul_comm, Nat.mul_add_mod, Nat.mod_eq_of_lt hj']
    refine ⟨z.cells[j], ?_, ?_, ?_⟩
    · simp only [Builtin.zeroCells, Array.toList_map, Array.toList_range, List.getElem?_map, List.getElem?_range, hzs]
      rw [List.getElem?_range hlt]
      simp only [Option.map_some, ← hzs, hmod]
      simp [hjz, Nat.mod_eq_of_lt hjz]
    · simp only [List.getElem_replicate, hze, List.getElem_map, Array.getElem_toList]
      exact .v _
    · rw [List.all_eq_true] at h1; exact h1 _ (by simp)
/-- The head of a row, in the same memory. -/
theorem step_sliceTake {t : TypeId} {x y : Operand} {i d E sz bytes b : Nat} {q : Int} {k : IntKind} {l : List T} (ho : o.op = .slice t x none (some y) none) (hdst : o.dst = some d) (hx : evalS S x = .h i) (hm : S.mem i = some (.row E sz l)) (hy : evalS S y = .t (.v (.int k q))) (hq : q = b) (hb : b ≤ l.length)
    (ht : slB C.P t = some (E, sz, bytes)) (hu : S.used d = false) (hd : dOk C.n o.dst = true) : Step C ops o S ⟨.h d, [(d, some (.row E sz (l.take b))), (i, none)], []⟩ := by
  have hmx : x ∈ o.op.operands := by simp [ho, Op.operands]
  have hmy : y ∈ o.op.operands := by simp [ho, Op.operands]
  intro S₁ hsl hmm a w hsat
  obtain ⟨β, hbb⟩ := hsat
  have hm1 : S₁.mem i = some (.row E sz l) := (hmm i (.inr (by simp [hasKey, Nat.beq_refl]))).1.trans hm
  have hu1 : S₁.used d = false := by rw [(hmm d (.inr (by simp [hasKey, Nat.beq_refl]))).2]; exact hu
  have hvx := hbb.eval x
  have hvy := hbb.eval y
  rw [agree_eval hsl hmx, hx] at hvx
  rw [agree_eval hsl hmy, hy] at hvy
  have e1 := hvx.hD
  have e2 := hvy.toV
  obtain ⟨hut, inf, hinf, hsz, _⟩ := slB_spec ht
  obtain ⟨cells, r1, r2, r3⟩ := hbb.mem i _ hm1
  have htl : (l.take b).length = b := by simp; omega
  have key : ∃ v', (execOp a.eval o).run C.P w = .ok (.value v') w ∧ (∀ bl, blk v' = some bl → blk (β i) = some bl) ∧ w.ownsRow C.w0.heap.size E sz v' b (cells.take (b * sz)) := by
    rcases r1.2 with ⟨h6, h7⟩ | ⟨g, cap, cur, h6, g1, g2, g3, g4, g5, g6⟩
    · have hb0 : b = 0 := by omega
      subst hb0
      have hbd : (Instr.sliceBounds true 0 0 none (some (.int k q)) none).run C.P w = .ok (0, 0, 0) w := run_sliceBounds (.inl ⟨rfl, rfl⟩) (.inr ⟨k, by rw [hq]⟩) (.inl ⟨rfl, rfl⟩) (Nat.le_refl _) (Nat.le_refl _) (Nat.le_refl _)
      refine ⟨.slice none 0 0, ?_, fun bl h => by simp [blk] at h, ⟨by simp, .inl ⟨rfl, rfl⟩⟩⟩
      simp only [execOp, ho, Instr.sliceAt, Sem.run_bind, run_underlying hut, Result.andThen_ok, e1, h6, e2, Instr.slice, Option.map_none, Option.map_some, hbd, sizeOf, run_info hinf, Sem.run_pure]
      rfl
    · have hbd : (Instr.sliceBounds true l.length cap none (some (.int k q)) none).run C.P w = .ok (0, b, cap) w := run_sliceBounds (.inl ⟨rfl, rfl⟩) (.inr ⟨k, by rw [hq]⟩) (.inl ⟨rfl, rfl⟩) (by omega) (by omega) (Nat.le_refl _)
      refine ⟨.slice (some ⟨g, 0, none⟩) b cap, ?_, fun bl h => by rw [h6]; exact h, ⟨?_, .inr ⟨g, cap, cur, rfl, g1, g2, by omega, g4, g5, ?_⟩⟩⟩
      · simp only [execOp, ho, Instr.sliceAt, Sem.run_bind, run_underlying hut, Result.andThen_ok, e1, h6, e2, Instr.slice, Option.map_none, Option.map_some, hbd, sizeOf, run_info hinf, Sem.run_pure]
        simp [add_plain']
      · have : b * sz ≤ l.length * sz := Nat.mul_le_mul_right _ hb
        rw [List.length_take, r1.1]; omega
      · rw [← g6, List.take_take]
        congr 1
        have : b * sz ≤ l.length * sz := Nat.mul_le_mul_right _ hb
        omega
  obtain ⟨v', hrun, hblk, hown⟩ := key
  obtain ⟨β', f1, f2, hsb⟩ := hbb.become i d _ (.row E sz (l.take b)) v' hm1 rfl hu1 hblk rfl (fun ok' β' h1' h2' =>
    ⟨cells.take (b * sz), by rw [h2', htl]; exact hown, fun q hq' => by rw [List.getElem_take]; exact r2 q (by simp at hq'; omega), fun q hq' j hj => by
      rw [List.getElem_take] at hj
      have hql : q < l.length := by simp at hq'; omega
      have hqb : q < b := by simp at hq'; omega
      obtain ⟨u, u1, u2, u3⟩ := r3 q hql j hj
      have hjs : j < sz := by rw [r2 q hql] at hj; exact hj
      refine ⟨u, ?_, by simp only [List.getElem_take]; exact u2.mono (fun _ _ => rfl) h1', u3⟩
      rw [List.getElem?_take_of_lt (idx_lt hqb hjs)]; exact u1⟩)
  refine Oper.wp_value hrun ?_
  rw [ap_modS]
  refine ⟨β', hsb.put o.dst v' (.h d) (fun _ _ _ => by rw [← f1]; exact .h d) (fun z' hz' => .inl ?_) (fun j hj => ?_)⟩
  · rw [hz'] at hd; simpa [dOk] using hd
  · simp only [AV.ids, List.mem_singleton] at hj; subst hj; simp [modS, hasKey, Nat.beq_refl]
end Go.Proofs.Ytgblfhobiibeaaa.Abs

/- What an argument that a caller hands in reads as: from the kit's reading of arguments to tree values. No condition. -/
set_option linter.unusedVariables false
set_option linter.unusedSimpArgs false
namespace Go.Proofs.Ytgblfhobiibeaaa.Abs
open Go.RowKit

/-- The parts of a struct or an array: where each begins, and its type. -/
def partsOf (P : Program) (t : TypeId) : Option (List (Nat × TypeId)) :=
  match P.underlying t with
  | some (.struct fs) => some (fs.toList.map fun f => (f.offset, f.type))
  | some (.array n e) => some ((List.range n).map fun i => (i * P.cellsOf e, e))
  | _ => none
inductive Fits (P : Program) : TypeId → List T → Prop
  | int {t : TypeId} {k : IntKind} {n : Int} (ht : P.underlying t = some (.int k)) (hw : (Lit.int k n).wf = true) : Fits P t [.v (.int k n)]
  | bool {t : TypeId} {b : Bool} (ht : P.underlying t = some .bool) : Fits P t [.v (.bool b)]
  | str {t : TypeId} {s : ByteArray} (ht : P.underlying t = some .string) (hs : s.size ≤ maxLen) : Fits P t [.v (.string s)]
  | slice {t e : TypeId} {xs : List T} (ht : P.underlying t = some (.slice e)) (hl : xs.length ≤ maxLen) (hx : ∀ x ∈ xs, Fits P e x.cells) (ha : ∀ x ∈ xs, (∃ l, x = .agg l) ↔ (partsOf P e).isSome = true) : Fits P t [.slice (P.cellsOf e) xs]
  | agg {t : TypeId} {pl : List (Nat × TypeId)} {ts : List T} (hp : partsOf P t = some pl) (hl : ts.length = P.cellsOf t) (h : ∀ p ∈ pl, Fits P p.2 ((ts.drop p.1).take (P.cellsOf p.2))) : Fits P t ts

def tiles (P : Program) : Nat → Nat → List (Nat × TypeId) → Bool
  | o, n, [] => Nat.beq o n
  | o, n, p :: r => Nat.beq p.1 o && tiles P (o + P.cellsOf p.2) n r
def okTy (P : Program) : Nat → TypeId → Bool
  | 0, _ => false
  | n + 1, t =>
    match P.underlying t with
    | some (.int _) => true
    | some .bool => true
    | some .string => true
    | some (.slice e) => okTy P n e
    | _ => match partsOf P t with
      | some pl => tiles P 0 (P.cellsOf t) pl && pl.all fun p => okTy P n p.2
      | none => false

def okW (w : World) (b : Nat) : Prop := b < w.heap.size
/-- A list of cells reads as a list of trees. -/
def ReadsL (w : World) (cs : List Value) (ts : List T) : Prop := cs.length = ts.length ∧ ∀ i (h1 : i < cs.length) (h2 : i < ts.length), Reads w (okW w) cs[i] ts[i] ∧ ts[i].one = true
theorem ReadsL.append {w : World} {a b : List Value} {x y : List T} (h1 : ReadsL w a x) (h2 : ReadsL w b y) : ReadsL w (a ++ b) (x ++ y) := by
  refine ⟨by simp [h1.1, h2.1], fun i h3 h4 => ?_⟩
  have hl := h1.1
  by_cases hi : i < a.length
  · rw [List.getElem_append_left hi, List.getElem_append_left (by omega)]; exact h1.2 i hi (by omega)
  · rw [List.getElem_append_right (by omega), List.getElem_append_right (by omega)]
    simp only [List.length_append] at h3 h4
    have := h2.2 (i - a.length) (by omega) (by omega)
    simp only [hl] at this ⊢
    exact this
theorem ReadsL.one {w : World} {v : Value} {t : T} (h : Reads w (okW w) v t) (ho : t.one = true) : ReadsL w [v] [t] := by
  refine ⟨rfl, fun i h1 h2 => ?_⟩
  have : i = 0 := by simp at h1; omega
  subst this; exact ⟨h, ho⟩

theorem tile_reads {P : Program} {w : World} {cs : List Value} : ∀ (pl : List (Nat × TypeId)) (o : Nat), tiles P o cs.length pl = true → o ≤ cs.length →
    (∀ p ∈ pl, ∃ ts, ReadsL w ((cs.drop p.1).take (P.cellsOf p.2)) ts ∧ Fits P p.2 ts) →
    ∃ ts, ReadsL w (cs.drop o) ts ∧ ∀ p ∈ pl, o ≤ p.1 ∧ Fits P p.2 ((ts.drop (p.1 - o)).take (P.cellsOf p.2))
  | [], o, ht, ho, _ => by
    have : o = cs.length := Nat.eq_of_beq_eq_true ht
    subst this
    exact ⟨[], ⟨by simp, fun i h => by simp at h⟩, fun p hp => by simp at hp⟩
  | p :: r, o, ht, ho, h => by
    simp only [tiles, Bool.and_eq_true] at ht
    obtain ⟨h1, h2⟩ := ht
    have h1 : p.1 = o := Nat.eq_of_beq_eq_true h1
    have hle : ∀ (pl : List (Nat × TypeId)) (o n : Nat), tiles P o n pl = true → o ≤ n := by
      intro pl
      induction pl with
      | nil => intro o n h; exact Nat.le_of_eq (Nat.eq_of_beq_eq_true h)
      | cons q r ih =>
        intro o n h
        simp only [tiles, Bool.and_eq_true] at h
        have := ih _ _ h.2
        omega
    have hon := hle _ _ _ h2
    obtain ⟨t1, r1, f1⟩ := h p (by simp)
    obtain ⟨t2, r2, f2⟩ := tile_reads r (o + P.cellsOf p.2) h2 hon fun q hq => h q (by simp [hq])
    have hl1 : t1.length = P.cellsOf p.2 := by rw [← r1.1]; simp; omega
    refine ⟨t1 ++ t2, ?_, fun q hq => ?_⟩
    · have e : cs.drop o = (cs.drop p.1).take (P.cellsOf p.2) ++ cs.drop (o + P.cellsOf p.2) := by
        rw [h1, ← List.drop_drop, List.take_append_drop]
      rw [e]
      exact r1.append r2
    · rcases List.mem_cons.1 hq with rfl | hq
      · refine ⟨by omega, ?_⟩
        rw [h1, Nat.sub_self, List.drop_zero, List.take_append_of_le_length (by omega), List.take_of_length_le (by omega)]
        exact f1
      · obtain ⟨g1, g2⟩ := f2 q hq
        refine ⟨by omega, ?_⟩
        rw [List.drop_append, List.drop_of_length_le (by omega), List.nil_append, show q.1 - o - t1.length = q.1 - (o + P.cellsOf p.2) by omega]
        exact g2

theorem trod_parts {H : Type} {enc : TypeId × Value → H} {P : Program} {w : World} {base fuel : Nat} {spare : Nat → Bool} {held : Bool} {t : TypeId} {cs : List Value} {x : DataW H × List MemPlace} {pl : List (Nat × TypeId)}
    (hp : partsOf P t = some pl) (h : DataW.trod enc P w base spare held fuel t cs = some x) : cs.length = P.cellsOf t ∧ ∃ m, ∀ p ∈ pl, ∃ y, DataW.trod enc P w base spare held m p.2 ((cs.drop p.1).take (P.cellsOf p.2)) = some y := by
  unfold partsOf at hp
  split at hp
  · rename_i fs hu
    injection hp with hp; subst hp
    obtain ⟨xs, n, _, _, hl, hx, hf⟩ := DataW.trod_struct hu h
    refine ⟨hl, n, fun p hp => ?_⟩
    simp only [List.mem_map] at hp
    obtain ⟨f, hf1, rfl⟩ := hp
    obtain ⟨i, hi, rfl⟩ := List.getElem_of_mem hf1
    have hi' : i < fs.size := by simpa using hi
    have := hf i fs[i] (by simp [hi'])
    refine ⟨xs[i]'(by omega), ?_⟩
    simp only [Array.getElem_toList]
    rw [this]; simp
  · rename_i n e hu
    injection hp with hp; subst hp
    obtain ⟨xs, m, _, _, hl, hx, hf⟩ := DataW.trod_array hu h
    refine ⟨hl, m, fun p hp => ?_⟩
    simp only [List.mem_map, List.mem_range] at hp
    obtain ⟨i, hi, rfl⟩ := hp
    refine ⟨xs[i]'(by omega), ?_⟩
    rw [hf i hi]; simp
  · cases hp

theorem trod_bool' {H : Type} {enc : TypeId × Value → H} {P : Program} {w : World} {base fuel : Nat} {spare : Nat → Bool} {held : Bool} {t : TypeId} {cs : List Value} {x : DataW H × List MemPlace}
    (ht : P.underlying t = some .bool) (h : DataW.trod enc P w base spare held fuel t cs = some x) : ∃ b, cs = [.bool b] := by
  cases fuel with
  | zero => simp [DataW.trod] at h
  | succ n =>
    unfold DataW.trod at h
    rw [ht] at h
    split at h <;> simp_all

theorem cell_lt {w : World} {a : Addr} {v : Value} (h : w.cell? a = some v) : a.block < w.heap.size := by
  unfold World.cell? at h
  cases hb : w.heap[a.block]? with
  | none => rw [hb] at h; simp at h
  | some o => exact (Array.getElem?_eq_some_iff.1 hb).1

theorem trod_reads {H : Type} {enc : TypeId × Value → H} {P : Program} {w : World} {base : Nat} {spare : Nat → Bool} {held : Bool} : ∀ (n : Nat) (t : TypeId), okTy P n t = true → ∀ (fuel : Nat) (cs : List Value) (x : DataW H × List MemPlace),
    DataW.trod enc P w base spare held fuel t cs = some x → ∃ ts, ReadsL w cs ts ∧ Fits P t ts := by
  intro n
  induction n with
  | zero => intro t h; cases h
  | succ n ih =>
    intro t hok fuel cs x h
    have hparts : ∀ pl, partsOf P t = some pl → (tiles P 0 (P.cellsOf t) pl && pl.all fun p => okTy P n p.2) = true → ∃ ts, ReadsL w cs ts ∧ Fits P t ts := by
      intro pl hp hok
      simp only [Bool.and_eq_true, List.all_eq_true] at hok
      obtain ⟨hl, m, hm⟩ := trod_parts hp h
      obtain ⟨ts, h1, h2⟩ := tile_reads (P := P) (w := w) (cs := cs) pl 0 (by rw [hl]; exact hok.1) (Nat.zero_le _) fun p hpm => by
        obtain ⟨y, hy⟩ := hm p hpm
        exact ih p.2 (hok.2 p hpm) m _ y hy
      rw [List.drop_zero] at h1
      refine ⟨ts, h1, .agg hp (by rw [← h1.1, hl]) fun p hpm => ?_⟩
      exact (h2 p hpm).2
    unfold okTy at hok
    split at hok
    · rename_i k hu
      obtain ⟨m, rfl, _, hw⟩ := DataW.trod_int hu h
      exact ⟨[.v (.int k m)], ReadsL.one (.v _) rfl, .int hu hw⟩
    · rename_i hu
      obtain ⟨b, rfl⟩ := trod_bool' hu h
      exact ⟨[.v (.bool b)], ReadsL.one (.v _) rfl, .bool hu⟩
    · rename_i hu
      obtain ⟨s, rfl, _, hs⟩ := DataW.trod_string hu h
      exact ⟨[.v (.string s)], ReadsL.one (.v _) rfl, .str hu hs⟩
    · rename_i e hu
      rcases DataW.trod_slice hu h with ⟨rfl, _⟩ | ⟨a, len, cap, elems, rest, m, _, rfl, _, hb, hl, hm, hlen, hel, _, _⟩
      · refine ⟨[.slice (P.cellsOf e) []], ReadsL.one ?_ rfl, .slice hu (Nat.zero_le _) (fun x hx => by simp at hx) (fun x hx => by simp at hx)⟩
        exact .slice (a := none) (cap := 0) (l := []) (fun _ => undef) (Nat.zero_le _) (Nat.zero_le _) (fun i h => by simp at h) (fun h => by simp at h) (fun i h => by simp at h)
      · have each : ∀ i, i < len → ∃ t : T, t.cells.length = P.cellsOf e ∧ Fits P e t.cells ∧ ((∃ l, t = .agg l) ↔ (partsOf P e).isSome = true) ∧
            ∀ j (hj : j < t.cells.length), ∃ v, w.cell? (a.add (i * P.cellsOf e + j)) = some v ∧ Reads w (okW w) v t.cells[j] ∧ t.cells[j].one = true := by
          intro i hi
          have h1 := hel i hi
          rw [List.getElem?_eq_getElem (by omega), Option.bind_eq_some_iff] at h1
          obtain ⟨cs', hcs, hy⟩ := h1
          obtain ⟨ts, ⟨r1, r2⟩, f1⟩ := ih e hok m cs' _ hy
          obtain ⟨_, hcl, hcell⟩ := World.cells?_some hcs
          have hcl2 : ts.length = P.cellsOf e := by omega
          have hread : ∀ j (hj : j < ts.length), ∃ v, w.cell? (a.add (i * P.cellsOf e + j)) = some v ∧ Reads w (okW w) v ts[j] ∧ ts[j].one = true := by
            intro j hj
            have h3 := hcell j (by omega)
            rw [Addr.add_add, List.getElem?_eq_getElem (by omega)] at h3
            exact ⟨_, h3, (r2 j (by omega) hj).1, (r2 j (by omega) hj).2⟩
          cases hp : partsOf P e with
          | some pl => exact ⟨.agg ts, hcl2, f1, ⟨fun _ => rfl, fun _ => ⟨ts, rfl⟩⟩, hread⟩
          | none =>
            have hone : ∃ t, ts = [t] := by
              cases f1 with
              | int => exact ⟨_, rfl⟩
              | bool => exact ⟨_, rfl⟩
              | str => exact ⟨_, rfl⟩
              | slice => exact ⟨_, rfl⟩
              | agg hp' => rw [hp] at hp'; cases hp'
            obtain ⟨t, rfl⟩ := hone
            have h1 : t.one = true := by have := (hread 0 (by simp)).choose_spec.2.2; simpa using this
            have ht : t.cells = [t] := by cases t <;> first | rfl | cases h1
            refine ⟨t, by rw [ht]; exact hcl2, by rw [ht]; exact f1, ⟨fun ⟨l, hl⟩ => (by subst hl; cases h1), fun h => (by simp at h)⟩, ?_⟩
            intro j hj
            have hj' : j < [t].length := by rw [← ht]; exact hj
            obtain ⟨v, g1, g2, g3⟩ := hread j hj'
            refine ⟨v, g1, ?_, ?_⟩
            · simp only [ht]; exact g2
            · simp only [ht]; exact g3
        obtain ⟨g, hg⟩ : ∃ g : Nat → T, ∀ i, i < len → (g i).cells.length = P.cellsOf e ∧ Fits P e (g i).cells ∧ ((∃ l, g i = .agg l) ↔ (partsOf P e).isSome = true) ∧
            ∀ j (hj : j < (g i).cells.length), ∃ v, w.cell? (a.add (i * P.cellsOf e + j)) = some v ∧ Reads w (okW w) v (g i).cells[j] ∧ (g i).cells[j].one = true := by
          refine ⟨fun i => if h : i < len then (each i h).choose else .v undef, fun i hi => ?_⟩
          simp only [hi, dif_pos]
          exact (each i hi).choose_spec
        have hgl : ((List.range len).map g).length = len := by simp
        refine ⟨[.slice (P.cellsOf e) ((List.range len).map g)], ReadsL.one ?_ rfl, .slice hu (by rw [hgl]; omega) (fun x hx => ?_) (fun x hx => ?_)⟩
        · have key := Reads.slice (w := w) (ok := okW w) (a := some a) (cap := cap) (sz := P.cellsOf e) (l := (List.range len).map g) (fun k => (w.cell? (a.add k)).getD undef) (by rw [hgl]; exact hl) hm
            (fun i hi => by simp only [List.getElem_map, List.getElem_range]; exact (hg i (by simpa using hi)).1) ?_ ?_
          · rw [hgl] at key; exact key
          · intro hpos
            rw [hgl] at hpos ⊢
            have hc0 : 0 < P.cellsOf e := Nat.pos_of_ne_zero (fun h0 => by rw [h0, Nat.mul_zero] at hpos; exact absurd hpos (Nat.lt_irrefl 0))
            have hall : ∀ k, k < len * P.cellsOf e → ∃ v, w.cell? (a.add k) = some v ∧ v.oneCell' = true := by
              intro k hk
              have hi : k / P.cellsOf e < len := Nat.div_lt_of_lt_mul (by rw [Nat.mul_comm]; exact hk)
              obtain ⟨h1, _, _, h4⟩ := hg _ hi
              obtain ⟨v, g1, g2, g3⟩ := h4 (k % P.cellsOf e) (by rw [h1]; exact Nat.mod_lt _ hc0)
              rw [Nat.mul_comm, Nat.div_add_mod] at g1
              exact ⟨v, g1, g2.one g3⟩
            refine ⟨a, rfl, ?_, fun k hk => ?_⟩
            · obtain ⟨v, h1, _⟩ := hall 0 hpos
              have := cell_lt h1
              rw [Addr.add_block] at this; exact this
            · obtain ⟨v, h1, h2⟩ := hall k hk
              simp only [h1, Option.getD_some]; exact ⟨trivial, h2⟩
          · intro i hi j hj
            have hi' : i < len := by simpa using hi
            simp only [List.getElem_map, List.getElem_range] at hj ⊢
            obtain ⟨v, g1, g2, _⟩ := (hg i hi').2.2.2 j hj
            simp only [g1, Option.getD_some]; exact g2
        · simp only [List.mem_map, List.mem_range] at hx
          obtain ⟨i, hi, rfl⟩ := hx
          exact (hg i hi).2.1
        · simp only [List.mem_map, List.mem_range] at hx
          obtain ⟨i, hi, rfl⟩ := hx
          exact (hg i hi).2.2.1
    · split at hok
      · rename_i pl hp; exact hparts pl hp hok
      · cases hok

/-- The tree of a whole value. -/
theorem Trod_reads {H : Type} {enc : TypeId × Value → H} {P : Program} {w : World} {base b0 : Nat} {spare : Nat → Bool} {held : Bool} {r : Reach} (n : Nat) {t : TypeId} (hok : okTy P n t = true) {v : Value} {d : DataW H} {ps : List MemPlace}
    (hv : Value.okWide P w r b0 t v) (h : DataW.Trod enc P w base spare held t v d ps) : ∃ x : T, Reads w (okW w) v x ∧ Fits P t x.cells ∧ ((∃ l, x = .agg l) ↔ (partsOf P t).isSome = true) := by
  obtain ⟨fuel, hf⟩ := h
  obtain ⟨ts, ⟨h1, h2⟩, hfit⟩ := trod_reads n t hok fuel _ _ hf
  cases hp : partsOf P t with
  | some pl =>
    have : ∃ cs, v = .agg cs := by
      unfold partsOf at hp
      unfold Value.okWide at hv
      split at hp
      · rename_i hu; rw [hu] at hv; obtain ⟨cs, hcs, _⟩ := hv; exact ⟨cs, hcs⟩
      · rename_i hu; rw [hu] at hv; obtain ⟨cs, hcs, _⟩ := hv; exact ⟨cs, hcs⟩
      · cases hp
    obtain ⟨cs, rfl⟩ := this
    simp only [Value.cells] at h1 h2
    refine ⟨.agg ts, .agg (by simpa using h1) (fun i h => ?_) (fun i h3 h4 => ?_), hfit, ⟨fun _ => rfl, fun _ => ⟨ts, rfl⟩⟩⟩
    · have := h2 i (by simpa using h) (by rw [← h1]; simpa using h)
      simpa using this.1.one this.2
    · have := (h2 i (by simpa using h3) h4).1
      simpa using this
  | none =>
    have hone : ∃ t, ts = [t] := by
      cases hfit with
      | int => exact ⟨_, rfl⟩
      | bool => exact ⟨_, rfl⟩
      | str => exact ⟨_, rfl⟩
      | slice => exact ⟨_, rfl⟩
      | agg hp' => rw [hp] at hp'; cases hp'
    obtain ⟨t', rfl⟩ := hone
    have hc : v.cells.toList.length = 1 := by rw [h1]; rfl
    obtain ⟨g1, g2⟩ := h2 0 (by omega) (by simp)
    simp only [List.getElem_cons_zero] at g1 g2
    have ht' : t'.cells = [t'] := by cases t' <;> first | rfl | cases g2
    have hvc : v.cells.toList[0] = v := by
      have hna : ∀ cs, v ≠ .agg cs := by
        rintro cs rfl
        unfold Value.okWide at hv
        unfold partsOf at hp
        split at hp
        · cases hp
        · cases hp
        · rename_i hn1 hn2
          split at hv
          · rename_i fs hu; exact hn1 _ hu
          · rename_i m e hu; exact hn2 _ _ hu
          · unfold Cell.okWide at hv
            cases hfit with
            | int ht => rw [ht] at hv; simp [Cell.ok, ht] at hv
            | bool ht => rw [ht] at hv; simp [Cell.ok, ht] at hv
            | str ht => rw [ht] at hv; simp [Cell.ok, ht] at hv
            | slice ht => rw [ht] at hv; simp [Cell.ok, ht] at hv
            | agg hp' => unfold partsOf at hp'; split at hp' <;> simp_all
      cases v <;> first | rfl | (exact absurd rfl (hna _))
    rw [hvc] at g1
    exact ⟨t', g1, by rw [ht']; exact hfit, ⟨fun ⟨l, hl⟩ => (by subst hl; cases g2), fun h => (by simp at h)⟩⟩

/-! ### What fits -/
theorem Fits.intD {P : Program} {t : TypeId} {k : IntKind} {ts : List T} (h : Fits P t ts) (ht : P.underlying t = some (.int k)) : ∃ n, ts = [.v (.int k n)] ∧ k.min ≤ n ∧ n ≤ k.max := by
  cases h with
  | @int _ k' n ht' hw =>
    rw [ht] at ht'; injection ht' with ht'; injection ht' with ht'; subst ht'
    simp only [Lit.wf, Bool.and_eq_true, decide_eq_true_eq] at hw
    exact ⟨n, rfl, hw.1, hw.2⟩
  | bool ht' => rw [ht] at ht'; cases ht'
  | str ht' => rw [ht] at ht'; cases ht'
  | slice ht' => rw [ht] at ht'; cases ht'
  | agg hp => unfold partsOf at hp; rw [ht] at hp; cases hp
theorem Fits.boolD {P : Program} {t : TypeId} {ts : List T} (h : Fits P t ts) (ht : P.underlying t = some .bool) : ∃ b, ts = [.v (.bool b)] := by
  cases h with
  | bool ht' => exact ⟨_, rfl⟩
  | int ht' => rw [ht] at ht'; cases ht'
  | str ht' => rw [ht] at ht'; cases ht'
  | slice ht' => rw [ht] at ht'; cases ht'
  | agg hp => unfold partsOf at hp; rw [ht] at hp; cases hp
theorem Fits.sliceD {P : Program} {t e : TypeId} {ts : List T} (h : Fits P t ts) (ht : P.underlying t = some (.slice e)) :
    ∃ xs, ts = [.slice (P.cellsOf e) xs] ∧ xs.length ≤ maxLen ∧ (∀ x ∈ xs, Fits P e x.cells) ∧ ∀ x ∈ xs, (∃ l, x = .agg l) ↔ (partsOf P e).isSome = true := by
  cases h with
  | @slice _ e' xs ht' hl hx ha =>
    rw [ht] at ht'; injection ht' with ht'; injection ht' with ht'; subst ht'
    exact ⟨xs, rfl, hl, hx, ha⟩
  | bool ht' => rw [ht] at ht'; cases ht'
  | str ht' => rw [ht] at ht'; cases ht'
  | int ht' => rw [ht] at ht'; cases ht'
  | agg hp => unfold partsOf at hp; rw [ht] at hp; cases hp
theorem Fits.aggD {P : Program} {t : TypeId} {ts : List T} {pl : List (Nat × TypeId)} (h : Fits P t ts) (hp : partsOf P t = some pl) :
    ts.length = P.cellsOf t ∧ ∀ p ∈ pl, Fits P p.2 ((ts.drop p.1).take (P.cellsOf p.2)) := by
  cases h with
  | agg hp' hl hx => rw [hp] at hp'; injection hp' with hp'; subst hp'; exact ⟨hl, hx⟩
  | bool ht' => unfold partsOf at hp; rw [ht'] at hp; cases hp
  | str ht' => unfold partsOf at hp; rw [ht'] at hp; cases hp
  | int ht' => unfold partsOf at hp; rw [ht'] at hp; cases hp
  | slice ht' => unfold partsOf at hp; rw [ht'] at hp; cases hp
/-- A list whose every element is the picture of something is a picture. -/
theorem list_map {α β : Type} {f : α → β} : ∀ {l : List β}, (∀ x ∈ l, ∃ a, x = f a) → ∃ m : List α, l = m.map f
  | [], _ => ⟨[], rfl⟩
  | x :: r, h => by
    obtain ⟨a, rfl⟩ := h x (by simp)
    obtain ⟨m, rfl⟩ := list_map (f := f) (l := r) fun y hy => h y (by simp [hy])
    exact ⟨a :: m, rfl⟩

theorem cell_single {x t : T} (h : x.cells = [t]) (hn : ¬ ∃ l, x = .agg l) : x = t := by
  cases x with
  | agg l => exact absurd ⟨l, rfl⟩ hn
  | _ => simpa [T.cells] using h
def intK (P : Program) (t : TypeId) (k : IntKind) : Bool :=
  match P.underlying t with
  | some (.int k') => k' == k
  | _ => false
theorem intK_spec {P : Program} {t : TypeId} {k : IntKind} (h : intK P t k = true) : P.underlying t = some (.int k) := by
  unfold intK at h
  split at h
  · rename_i k' hu; rw [hu, beq_iff_eq.1 h]
  · cases h
/-- Structs and arrays whose parts are all of one integer kind. -/
def flatB (P : Program) (t : TypeId) (k : IntKind) (n : Nat) : Bool :=
  match partsOf P t with
  | some pl => (pl.all fun p => intK P p.2 k && Nat.beq (P.cellsOf p.2) 1) && (pl.map (·.1) == List.range n) && Nat.beq (P.cellsOf t) n
  | none => false
theorem Fits.flat {P : Program} {t : TypeId} {k : IntKind} {n : Nat} {ts : List T} (h : Fits P t ts) (hb : flatB P t k n = true) :
    ∃ ns : List Int, ns.length = n ∧ ts = ns.map (fun m => T.v (.int k m)) ∧ ∀ m ∈ ns, k.min ≤ m ∧ m ≤ k.max := by
  unfold flatB at hb
  split at hb
  · rename_i pl hp
    simp only [Bool.and_eq_true, List.all_eq_true, beq_iff_eq] at hb
    obtain ⟨⟨h1, h2⟩, h3⟩ := hb
    have h3 := Nat.eq_of_beq_eq_true h3
    obtain ⟨hl, hx⟩ := h.aggD hp
    have each : ∀ x ∈ ts, ∃ m : {m : Int // k.min ≤ m ∧ m ≤ k.max}, x = T.v (.int k m.1) := by
      intro x hxm
      obtain ⟨i, hi, rfl⟩ := List.getElem_of_mem hxm
      have hi2 : i ∈ pl.map (·.1) := by rw [h2]; simp; omega
      obtain ⟨p, hpm, rfl⟩ := List.mem_map.1 hi2
      obtain ⟨g1, g2⟩ := h1 p hpm
      have g2 := Nat.eq_of_beq_eq_true g2
      have := hx p hpm
      rw [g2] at this
      obtain ⟨m, e, b⟩ := this.intD (intK_spec g1)
      rw [List.drop_eq_getElem_cons hi, List.take_succ_cons] at e
      injection e with e _
      exact ⟨⟨m, b⟩, e⟩
    obtain ⟨ms, rfl⟩ := list_map (f := fun m : {m : Int // k.min ≤ m ∧ m ≤ k.max} => T.v (.int k m.1)) each
    refine ⟨ms.map (·.1), by simpa using hl.trans h3, by simp, fun m hm => ?_⟩
    obtain ⟨q, _, rfl⟩ := List.mem_map.1 hm
    exact q.2
  · cases hb
/-- A whole value of a flat type. -/
theorem flatV {P : Program} {t : TypeId} {k : IntKind} {n : Nat} {x : T} (f : Fits P t x.cells) (a : (∃ l, x = .agg l) ↔ (partsOf P t).isSome = true) (hb : flatB P t k n = true) :
    ∃ ns : List Int, ns.length = n ∧ x = .agg (ns.map (fun m => T.v (.int k m))) ∧ ∀ m ∈ ns, k.min ≤ m ∧ m ≤ k.max := by
  have hs : (partsOf P t).isSome = true := by
    unfold flatB at hb
    split at hb
    · rename_i pl hp; rw [hp]; rfl
    · cases hb
  obtain ⟨l, rfl⟩ := a.2 hs
  obtain ⟨ns, h1, h2, h3⟩ := f.flat hb
  exact ⟨ns, h1, congrArg T.agg h2, h3⟩
theorem intV {P : Program} {t : TypeId} {k : IntKind} {x : T} (f : Fits P t x.cells) (a : (∃ l, x = .agg l) ↔ (partsOf P t).isSome = true) (ht : P.underlying t = some (.int k)) : ∃ n, x = .v (.int k n) ∧ k.min ≤ n ∧ n ≤ k.max := by
  obtain ⟨n, h1, h2⟩ := f.intD ht
  refine ⟨n, cell_single h1 fun h => ?_, h2⟩
  have := a.1 h
  unfold partsOf at this; rw [ht] at this; cases this
theorem boolV {P : Program} {t : TypeId} {x : T} (f : Fits P t x.cells) (a : (∃ l, x = .agg l) ↔ (partsOf P t).isSome = true) (ht : P.underlying t = some .bool) : ∃ b, x = .v (.bool b) := by
  obtain ⟨b, h1⟩ := f.boolD ht
  refine ⟨b, cell_single h1 fun h => ?_⟩
  have := a.1 h
  unfold partsOf at this; rw [ht] at this; cases this
theorem sliceV {P : Program} {t e : TypeId} {x : T} (f : Fits P t x.cells) (a : (∃ l, x = .agg l) ↔ (partsOf P t).isSome = true) (ht : P.underlying t = some (.slice e)) :
    ∃ xs, x = .slice (P.cellsOf e) xs ∧ xs.length ≤ maxLen ∧ (∀ x ∈ xs, Fits P e x.cells) ∧ ∀ x ∈ xs, (∃ l, x = .agg l) ↔ (partsOf P e).isSome = true := by
  obtain ⟨xs, h1, h2⟩ := f.sliceD ht
  refine ⟨xs, cell_single h1 fun h => ?_, h2⟩
  have := a.1 h
  unfold partsOf at this; rw [ht] at this; cases this
theorem list_two {α : Type} {l : List α} (h : l.length = 2) : ∃ a b, l = [a, b] := by
  match l, h with | [a, b], _ => exact ⟨a, b, rfl⟩
theorem list_three {α : Type} {l : List α} (h : l.length = 3) : ∃ a b c, l = [a, b, c] := by
  match l, h with | [a, b, c], _ => exact ⟨a, b, c, rfl⟩
theorem list_four {α : Type} {l : List α} (h : l.length = 4) : ∃ a b c d, l = [a, b, c, d] := by
  match l, h with | [a, b, c, d], _ => exact ⟨a, b, c, d, rfl⟩
end Go.Proofs.Ytgblfhobiibeaaa.Abs
