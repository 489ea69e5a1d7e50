/- Abstract symbolic execution, part 6: equality of structs, structs that are built, slices that are read, closures. No condition. -/
import Derived.Test.YtnemmdbafngppaaAbs5
set_option linter.unusedVariables false
set_option linter.unusedSimpArgs false
namespace Go.Proofs.Ytnemmdbafngppaa.Abs
open Go.RowKit
variable {C : Ctx} {ops : Array Oper} {o : Oper} {S : AState}

def leafs : List T → Option (List Value)
  | [] => some []
  | .v x :: r => match leafs r with
    | some l => some (x :: l)
    | none => none
  | _ :: _ => none
theorem leafs_spec : ∀ {l : List T} {vs : List Value}, leafs l = some vs → l = vs.map T.v
  | [], vs, h => by injection h with h; subst h; rfl
  | .v x :: r, vs, h => by
    simp only [leafs] at h
    split at h
    · rename_i l hl; injection h with h; subst h; rw [leafs_spec hl]; rfl
    · cases h
  | .agg _ :: _, _, h | .slice _ _ :: _, _, h | .clip _ _ :: _, _, h | .ptr _ :: _, _, h | .clo _ _ :: _, _, h | .tup _ :: _, _, h => by simp [leafs] at h
theorem Reads.leafD {w : World} {ok : Nat → Prop} {v : Value} {l : List T} {xs : List Value} (h : Reads w ok v (.agg l)) (hl : leafs l = some xs) : v = .agg xs.toArray := by
  obtain ⟨vs, rfl, hs, h, _⟩ := h.aggD
  have := leafs_spec hl; subst this
  congr 1
  apply Array.ext
  · simpa using hs
  · intro i h1 h2
    have := h i h1 (by simpa using h2)
    simp only [List.getElem_map] at this
    generalize hq : vs[i] = q at this
    cases this
    simp

theorem run_eqa {P : Program} {w : World} {t : TypeId} {xs ys : List Value} {b : Bool} {n : Nat} (h : eqP P 10000 t xs ys = some b) (ht : tyB P t = some (true, n)) :
    (Op.equal t (.agg xs.toArray) (.agg ys.toArray)).run P w = .ok b w := by
  have := run_eqP (P := P) 10000 w t xs ys b h
  unfold ofCells at this
  rw [ht] at this
  exact this
theorem run_eqGuard_agg {P : Program} {w : World} {op : BinOp} {t : TypeId} {x y : Operand} {a b : Array Value} (h : P.eqGuardType P.depth t = false) :
    (eqGuard op t x y (.agg a) (.agg b)).run P w = .ok () w := by
  cases op <;> simp [eqGuard, run_program, h]
/-- '==' of structs and arrays. -/
theorem step_eqa {t t' : TypeId} {x y : Operand} {l l' : List T} {xs ys : List Value} {b : Bool} {n : Nat} (ho : o.op = .binOp .eql t x y t')
    (hx : evalS S x = .t (.agg l)) (hy : evalS S y = .t (.agg l')) (h1 : leafs l = some xs) (h2 : leafs l' = some ys) (ht : tyB C.P t = some (true, n))
    (hg : C.P.eqGuardType C.P.depth t = false) (hb : eqP C.P 10000 t xs ys = some b) (hd : dOk C.n o.dst = true) : Step C ops o S ⟨.t (.v (.bool b)), [], []⟩ := by
  have hmx : x ∈ o.op.operands := by simp [ho, Op.operands]
  have hmy : y ∈ o.op.operands := by simp [ho, Op.operands]
  refine Step.pure hd (by simp [AV.ids]) fun β w ok ρ hρ _ _ => ⟨_, ?_, .t (.v _)⟩
  have e1 : ρ x = .agg xs.toArray := by have := hρ x hmx; rw [hx] at this; exact this.tD.leafD h1
  have e2 : ρ y = .agg ys.toArray := by have := hρ y hmy; rw [hy] at this; exact this.tD.leafD h2
  simp only [execOp, ho, e1, e2, Sem.run_bind, run_eqGuard_agg hg, Result.andThen_ok, binOp, run_eqa hb ht, Sem.run_pure]
theorem step_nea {t t' : TypeId} {x y : Operand} {l l' : List T} {xs ys : List Value} {b : Bool} {n : Nat} (ho : o.op = .binOp .neq t x y t')
    (hx : evalS S x = .t (.agg l)) (hy : evalS S y = .t (.agg l')) (h1 : leafs l = some xs) (h2 : leafs l' = some ys) (ht : tyB C.P t = some (true, n))
    (hg : C.P.eqGuardType C.P.depth t = false) (hb : eqP C.P 10000 t xs ys = some b) (hd : dOk C.n o.dst = true) : Step C ops o S ⟨.t (.v (.bool (!b))), [], []⟩ := by
  have hmx : x ∈ o.op.operands := by simp [ho, Op.operands]
  have hmy : y ∈ o.op.operands := by simp [ho, Op.operands]
  refine Step.pure hd (by simp [AV.ids]) fun β w ok ρ hρ _ _ => ⟨_, ?_, .t (.v _)⟩
  have e1 : ρ x = .agg xs.toArray := by have := hρ x hmx; rw [hx] at this; exact this.tD.leafD h1
  have e2 : ρ y = .agg ys.toArray := by have := hρ y hmy; rw [hy] at this; exact this.tD.leafD h2
  simp only [execOp, ho, e1, e2, Sem.run_bind, run_eqGuard_agg hg, Result.andThen_ok, binOp, run_eqa hb ht, Sem.run_pure]
theorem step_eqbool {t t' : TypeId} {x y : Operand} {m n : Bool} (ho : o.op = .binOp .eql t x y t')
    (hx : evalS S x = .t (.v (.bool m))) (hy : evalS S y = .t (.v (.bool n))) (ht : C.P.underlying t = some .bool) (hd : dOk C.n o.dst = true) :
    Step C ops o S ⟨.t (.v (.bool (m == n))), [], []⟩ := step_eqb (b := false) ho hx hy ht hd
theorem step_nebool {t t' : TypeId} {x y : Operand} {m n : Bool} (ho : o.op = .binOp .neq t x y t')
    (hx : evalS S x = .t (.v (.bool m))) (hy : evalS S y = .t (.v (.bool n))) (ht : C.P.underlying t = some .bool) (hd : dOk C.n o.dst = true) :
    Step C ops o S ⟨.t (.v (.bool (m != n))), [], []⟩ := step_eqb (b := true) ho hx hy ht hd

/-! ### Slices that are read -/
theorem slB_spec {P : Program} {t e sz bytes : Nat} (h : slB P t = some (e, sz, bytes)) : P.underlying t = some (.slice e) ∧ ∃ i, P.info? e = some i ∧ i.size = sz ∧ i.bytes = bytes := by
  unfold slB at h
  split at h
  · rename_i e' hu
    cases hi : P.info? e' with
    | none => rw [hi] at h; cases h
    | some i =>
      rw [hi] at h
      simp only [Option.map_some, Option.some.injEq, Prod.mk.injEq] at h
      obtain ⟨rfl, h2, h3⟩ := h
      exact ⟨hu, i, hi, h2, h3⟩
  · cases h
theorem arB_spec {P : Program} {t n e sz : Nat} (h : arB P t = some (n, e, sz)) : P.underlying t = some (.array n e) ∧ ∃ i, P.info? e = some i ∧ i.size = sz := by
  unfold arB at h
  split at h
  · rename_i n' e' hu
    cases hi : P.info? e' with
    | none => rw [hi] at h; cases h
    | some i =>
      rw [hi] at h
      simp only [Option.map_some, Option.some.injEq, Prod.mk.injEq] at h
      obtain ⟨rfl, rfl, h3⟩ := h
      exact ⟨hu, i, hi, h3⟩
  · cases h

theorem cells_ne_nil_of_pos {v : T} (h : 0 < v.cells.length) : v.cells ≠ [] := by intro e; rw [e] at h; simp at h
/-- The address of an element of a slice that is read. -/
theorem Reads.elem {w : World} {ok : Nat → Prop} {a : Option Addr} {n cap sz : Nat} {l : List T} {i : Nat} {v : T} (h : Reads w ok (.slice a n cap) (.slice sz l)) (hv : l[i]? = some v) (hz : 0 < sz) :
    n = l.length ∧ ∃ ad, a = some ad ∧ Reads w ok (.pointer (some (ad.add (i * sz)))) (.ptr v.cells) := by
  cases h with
  | slice f hc hm hzz ha h =>
    refine ⟨rfl, ?_⟩
    obtain ⟨hi, rfl⟩ := List.getElem?_eq_some_iff.1 hv
    have hpos : 0 < l.length * sz := Nat.mul_pos (by omega) hz
    obtain ⟨ad, rfl, ho, hcell⟩ := ha hpos
    refine ⟨ad, rfl, .ptr (fun j => f (i * sz + j)) (by rw [Addr.add_block]; exact ho) (fun k hk => ?_) (fun k hk => h i hi k hk)⟩
    have hzi := hzz i hi
    rw [Addr.add_add]
    refine hcell _ ?_
    have : (i + 1) * sz ≤ l.length * sz := Nat.mul_le_mul_right _ (by omega)
    have : (i + 1) * sz = i * sz + sz := by rw [Nat.add_mul, Nat.one_mul]
    omega
theorem step_indexAddrT {t : TypeId} {x ix : Operand} {e sz bytes : Nat} {l : List T} {k : IntKind} {i : Int} {v : T} (ho : o.op = .indexAddr t x ix) (hx : evalS S x = .t (.slice sz l))
    (hi : evalS S ix = .t (.v (.int k i))) (ht : slB C.P t = some (e, sz, bytes)) (h0 : 0 ≤ i) (hv : l[i.toNat]? = some v) (hz : Nat.blt 0 sz = true) (hd : dOk C.n o.dst = true) :
    Step C ops o S ⟨.t (.ptr v.cells), [], []⟩ := by
  have hmx : x ∈ o.op.operands := by simp [ho, Op.operands]
  have hmi : ix ∈ o.op.operands := by simp [ho, Op.operands]
  refine Step.pure hd (by simp [AV.ids]) fun β w ok ρ hρ _ _ => ?_
  obtain ⟨hu, inf, hinf, hsz, _⟩ := slB_spec ht
  have e2 : ρ ix = .int k i := by have := hρ ix hmi; rw [hi] at this; exact this.toV
  have h := hρ x hmx
  rw [hx] at h
  have h := h.tD
  obtain ⟨a, n, cap, hq⟩ : ∃ a n cap, ρ x = .slice a n cap := by
    generalize ρ x = q at h
    cases h; exact ⟨_, _, _, rfl⟩
  rw [hq] at h
  obtain ⟨rfl, ad, rfl, hr⟩ := h.elem hv (by simpa [Nat.blt_eq] using hz)
  have hlt : i.toNat < l.length := (List.getElem?_eq_some_iff.1 hv).1
  refine ⟨_, ?_, .t hr⟩
  simp [execOp, ho, hq, e2, Instr.indexAt, asIntOf, run_underlying hu, sizeOf, typeInfo, hinf, hsz, h0, show i < (l.length : Int) from by omega]
/-- An element's address in an array variable. -/
theorem step_indexAddrP {t : TypeId} {x ix : Operand} {n e sz q : Nat} {j : Nat} {k : IntKind} {i : Int} (ho : o.op = .indexAddr t x ix) (hx : evalS S x = .p j q)
    (hi : evalS S ix = .t (.v (.int k i))) (ht : arB C.P t = some (n, e, sz)) (h0 : 0 ≤ i) (h1 : i < n) (hd : dOk C.n o.dst = true) :
    Step C ops o S ⟨.p j (q + i.toNat * sz), [], []⟩ := by
  have hmx : x ∈ o.op.operands := by simp [ho, Op.operands]
  have hmi : ix ∈ o.op.operands := by simp [ho, Op.operands]
  refine Step.pure hd (fun j' hj => ⟨x, hmx, by rw [hx]; exact hj⟩) fun β w ok ρ hρ _ _ => ?_
  obtain ⟨hu, inf, hinf, hsz⟩ := arB_spec ht
  have e2 : ρ ix = .int k i := by have := hρ ix hmi; rw [hi] at this; exact this.toV
  have h := hρ x hmx
  rw [hx] at h
  obtain ⟨b, h, hq⟩ := h.pD
  exact ⟨_, by simp [execOp, ho, hq, e2, Instr.indexAt, asIntOf, run_underlying hu, sizeOf, typeInfo, hinf, hsz, h0, h1, Instr.sureAddr, add_plain'], .p h⟩
/-- An element's address in an array that nobody writes. -/
theorem step_indexAddrA {t : TypeId} {x ix : Operand} {n e sz : Nat} {l r : List T} {k : IntKind} {i : Int} (ho : o.op = .indexAddr t x ix) (hx : evalS S x = .t (.ptr l))
    (hi : evalS S ix = .t (.v (.int k i))) (ht : arB C.P t = some (n, e, sz)) (h0 : 0 ≤ i) (h1 : i < n) (hs : sub l (i.toNat * sz) sz = some r) (hd : dOk C.n o.dst = true) :
    Step C ops o S ⟨.t (.ptr r), [], []⟩ := by
  have hmx : x ∈ o.op.operands := by simp [ho, Op.operands]
  have hmi : ix ∈ o.op.operands := by simp [ho, Op.operands]
  refine Step.pure hd (by simp [AV.ids]) fun β w ok ρ hρ _ _ => ?_
  obtain ⟨hu, inf, hinf, hsz⟩ := arB_spec ht
  have e2 : ρ ix = .int k i := by have := hρ ix hmi; rw [hi] at this; exact this.toV
  have h := hρ x hmx
  rw [hx] at h
  have h' := h.tD
  obtain ⟨a, hq⟩ := h'.ptrD
  rw [hq] at h'
  exact ⟨_, by simp [execOp, ho, hq, e2, Instr.indexAt, asIntOf, run_underlying hu, sizeOf, typeInfo, hinf, hsz, h0, h1, Instr.sureAddr], .t (h'.ptr_drop hs)⟩

theorem Reads.drop_take {w : World} {ok : Nat → Prop} {a : Option Addr} {n cap sz : Nat} {l : List T} {lo hi : Nat} (h : Reads w ok (.slice a n cap) (.slice sz l)) (h1 : lo ≤ hi) (h2 : hi ≤ l.length) (a' : Option Addr)
    (ha' : ∀ ad, a = some ad → lo < hi → a' = some (ad.add (lo * sz))) : Reads w ok (.slice a' (hi - lo) (cap - lo)) (.slice sz ((l.take hi).drop lo)) := by
  cases h with
  | slice f hc hm hz ha h =>
    have hlen : ((l.take hi).drop lo).length = hi - lo := by simp; omega
    have hget : ∀ i (hi' : i < ((l.take hi).drop lo).length), ((l.take hi).drop lo)[i] = l[lo + i]'(by omega) := by
      intro i hi'; simp
    have := Reads.slice (w := w) (ok := ok) (a := a') (cap := cap - lo) (sz := sz) (l := (l.take hi).drop lo) (fun k => f (lo * sz + k)) (by omega) (by omega)
      (fun i hi' => by rw [hget]; exact hz _ _) (fun hp => ?_) (fun i hi' j hj => ?_)
    · rw [hlen] at this; exact this
    · rw [hlen] at hp
      have hpos : 0 < (hi - lo) := Nat.pos_of_mul_pos_right hp
      have hz' : 0 < sz := Nat.pos_of_mul_pos_left hp
      obtain ⟨ad, e, ho, hcell⟩ := ha (Nat.mul_pos (by omega) hz')
      refine ⟨ad.add (lo * sz), ha' ad e (by omega), by rw [Addr.add_block]; exact ho, fun k hk => ?_⟩
      rw [Addr.add_add]
      apply hcell
      rw [hlen] at hk
      have h3 : lo * sz + (hi - lo) * sz = hi * sz := by rw [← Nat.add_mul]; congr 1; omega
      have h4 : hi * sz ≤ l.length * sz := Nat.mul_le_mul_right _ h2
      omega
    · have := h (lo + i) (by omega) j (by rw [hget] at hj; exact hj)
      have h3 : (lo + i) * sz + j = lo * sz + (i * sz + j) := by rw [Nat.add_mul]; omega
      rw [h3] at this
      simp only [hget]
      exact this

theorem run_sliceBound {P : Program} {w : World} {k : IntKind} {i : Int} {y : Nat} {c : BoundsCode} (h0 : 0 ≤ i) (h1 : i ≤ y) : (Instr.sliceBound (.int k i) y c).run P w = .ok i.toNat w := by
  simp [Instr.sliceBound, asIntOf, h0, h1]
def intO (S : AState) : Option Operand → Option (Option Int)
  | none => some none
  | some x => match evalS S x with
    | .t (.v (.int _ n)) => some (some n)
    | _ => none
/-- 'xs[lo:hi]' of a slice that is read. -/
theorem step_sliceT {t : TypeId} {x : Operand} {lo hi : Option Operand} {e sz bytes : Nat} {l : List T} {m n : Option Int} (ho : o.op = .slice t x lo hi none) (hx : evalS S x = .t (.slice sz l))
    (hlo : intO S lo = some m) (hhi : intO S hi = some n) (ht : slB C.P t = some (e, sz, bytes)) (h0 : 0 ≤ m.getD 0) (h1 : m.getD 0 ≤ n.getD l.length) (h2 : n.getD l.length ≤ l.length)
    (hd : dOk C.n o.dst = true) : Step C ops o S ⟨.t (.slice sz ((l.take (n.getD l.length).toNat).drop (m.getD 0).toNat)), [], []⟩ := by
  have hmx : x ∈ o.op.operands := by simp [ho, Op.operands]
  refine Step.pure hd (by simp [AV.ids]) fun β w ok ρ hρ _ _ => ?_
  obtain ⟨hu, inf, hinf, hsz, _⟩ := slB_spec ht
  have h := hρ x hmx
  rw [hx] at h
  have h := h.tD
  obtain ⟨a, cap, hc, hq⟩ : ∃ a cap, l.length ≤ cap ∧ ρ x = .slice a l.length cap := by
    generalize ρ x = q at h
    cases h with | slice f hc hm hz ha h => exact ⟨_, _, hc, rfl⟩
  rw [hq] at h
  have el : ∀ y, lo = some y → ∃ k q, m = some q ∧ ρ y = .int k q := by
    intro y hy; subst hy
    have := hρ y (by simp [ho, Op.operands])
    simp only [intO] at hlo
    split at hlo
    · rename_i k q he
      injection hlo with hlo
      rw [he] at this
      exact ⟨k, q, hlo.symm, this.toV⟩
    · cases hlo
  have eh : ∀ y, hi = some y → ∃ k q, n = some q ∧ ρ y = .int k q := by
    intro y hy; subst hy
    have := hρ y (by simp [ho, Op.operands])
    simp only [intO] at hhi
    split at hhi
    · rename_i k q he
      injection hhi with hhi
      rw [he] at this
      exact ⟨k, q, hhi.symm, this.toV⟩
    · cases hhi
  have hlon : lo = none → m = none := by intro e; subst e; simp [intO] at hlo; exact hlo.symm
  have hhin : hi = none → n = none := by intro e; subst e; simp [intO] at hhi; exact hhi.symm
  have key : (execOp ρ o).run C.P w = .ok (.value (.slice (if cap = (m.getD 0).toNat then a else a.map (·.add ((m.getD 0).toNat * sz))) ((n.getD l.length).toNat - (m.getD 0).toNat) (cap - (m.getD 0).toNat))) w := by
    have hb : (Instr.sliceBounds true l.length cap (lo.map ρ) (hi.map ρ) none).run C.P w = .ok ((m.getD 0).toNat, (n.getD l.length).toNat, cap) w := by
      cases hi with
      | none =>
        have := hhin rfl; subst this
        cases lo with
        | none => have := hlon rfl; subst this; simp [Instr.sliceBounds]
        | some y =>
          obtain ⟨k, q, rfl, hy⟩ := el y rfl
          simp only [Option.getD_some, Option.getD_none] at h0 h1 h2
          simp [Instr.sliceBounds, hy, run_sliceBound h0 h1]
      | some z =>
        obtain ⟨k', q', rfl, hz⟩ := eh z rfl
        simp only [Option.getD_some] at h0 h1 h2
        have hzb : ∀ c, (Instr.sliceBound (.int k' q') cap c).run C.P w = .ok q'.toNat w := fun c => run_sliceBound (by omega) (by omega)
        cases lo with
        | none => have := hlon rfl; subst this; simp [Instr.sliceBounds, hz, hzb]
        | some y =>
          obtain ⟨k, q, rfl, hy⟩ := el y rfl
          simp only [Option.getD_some] at h0 h1
          have hyb : ∀ c, (Instr.sliceBound (.int k q) q'.toNat c).run C.P w = .ok q.toNat w := fun c => run_sliceBound (by omega) (by omega)
          simp [Instr.sliceBounds, hz, hzb, hy, hyb]
    simp only [execOp, ho, Instr.sliceAt, Sem.run_bind, run_underlying hu, Result.andThen_ok, hq, Instr.slice, Option.map_none, hb, sizeOf, run_info hinf, Sem.run_pure, hsz]
  refine ⟨_, key, .t (h.drop_take (by omega) (by omega) _ fun ad hd' hlt => ?_)⟩
  rw [if_neg (by omega), hd']
  rfl

theorem step_lenT {t rt : TypeId} {x : Operand} {e sz bytes sz' : Nat} {l : List T} (ho : o.op = .call { callee := .builtin .len, args := #[x], argTypes := #[t] }) (hx : evalS S x = .t (.slice sz' l))
    (ht : slB C.P t = some (e, sz, bytes)) (hd : dOk C.n o.dst = true) : Step C ops o S ⟨.t (.v (.int .i64 l.length)), [], []⟩ := by
  have hmx : x ∈ o.op.operands := by simp [ho, Op.operands, Call.operands]
  refine Step.pure hd (by simp [AV.ids]) fun β w ok ρ hρ _ _ => ⟨_, ?_, .t (.v _)⟩
  obtain ⟨hu, _⟩ := slB_spec ht
  have h := hρ x hmx
  rw [hx] at h
  have h := h.tD
  obtain ⟨a, cap, hq⟩ : ∃ a cap, ρ x = .slice a l.length cap := by
    generalize ρ x = q at h
    cases h with | slice f hc hm hz ha h => exact ⟨_, _, rfl⟩
  simp [execOp, ho, resolve, invoke, builtin, Builtin.len_, run_underlying hu, hq, goInt]
theorem step_lenV {t : TypeId} {x : Operand} {s : ByteArray} (ho : o.op = .call { callee := .builtin .len, args := #[x], argTypes := #[t] }) (hx : evalS S x = .t (.v (.string s)))
    (ht : C.P.underlying t = some .string) (hd : dOk C.n o.dst = true) : Step C ops o S ⟨.t (.v (.int .i64 s.size)), [], []⟩ := by
  have hmx : x ∈ o.op.operands := by simp [ho, Op.operands, Call.operands]
  refine Step.pure hd (by simp [AV.ids]) fun β w ok ρ hρ _ _ => ⟨_, ?_, .t (.v _)⟩
  have e1 : ρ x = .string s := by have := hρ x hmx; rw [hx] at this; exact this.toV
  simp [execOp, ho, resolve, invoke, builtin, Builtin.len_, run_underlying ht, e1, goInt]
theorem step_max {t t' : TypeId} {x y : Operand} {k : IntKind} {m n : Int} (ho : o.op = .call { callee := .builtin .max, args := #[x, y], argTypes := #[t, t'] })
    (hx : evalS S x = .t (.v (.int k m))) (hy : evalS S y = .t (.v (.int k n))) (hd : dOk C.n o.dst = true) : Step C ops o S ⟨.t (.v (.int k (max m n))), [], []⟩ := by
  have hmx : x ∈ o.op.operands := by simp [ho, Op.operands, Call.operands]
  have hmy : y ∈ o.op.operands := by simp [ho, Op.operands, Call.operands]
  refine Step.pure hd (by simp [AV.ids]) fun β w ok ρ hρ _ _ => ⟨_, ?_, .t (.v _)⟩
  have e1 : ρ x = .int k m := by have := hρ x hmx; rw [hx] at this; exact this.toV
  have e2 : ρ y = .int k n := by have := hρ y hmy; rw [hy] at this; exact this.toV
  have : (if n > m then n else m) = max m n := by split <;> omega
  simp [execOp, ho, resolve, invoke, builtin, Builtin.max_, Builtin.max2, e1, e2, this]
theorem step_min {t t' : TypeId} {x y : Operand} {k : IntKind} {m n : Int} (ho : o.op = .call { callee := .builtin .min, args := #[x, y], argTypes := #[t, t'] })
    (hx : evalS S x = .t (.v (.int k m))) (hy : evalS S y = .t (.v (.int k n))) (hd : dOk C.n o.dst = true) : Step C ops o S ⟨.t (.v (.int k (min m n))), [], []⟩ := by
  have hmx : x ∈ o.op.operands := by simp [ho, Op.operands, Call.operands]
  have hmy : y ∈ o.op.operands := by simp [ho, Op.operands, Call.operands]
  refine Step.pure hd (by simp [AV.ids]) fun β w ok ρ hρ _ _ => ⟨_, ?_, .t (.v _)⟩
  have e1 : ρ x = .int k m := by have := hρ x hmx; rw [hx] at this; exact this.toV
  have e2 : ρ y = .int k n := by have := hρ y hmy; rw [hy] at this; exact this.toV
  have : (if n < m then n else m) = min m n := by split <;> omega
  simp [execOp, ho, resolve, invoke, builtin, Builtin.min_, Builtin.min2, e1, e2, this]

/-! ### Closures over variables that nobody writes any more -/
theorem step_makeFunc {g : FuncId} {caps : Array Operand} {ts : List T} (ho : o.op = .makeFunc (.func g) #[] caps) (hc : trees (caps.toList.map (evalS S)) = some ts) (hd : dOk C.n o.dst = true) :
    Step C ops o S ⟨.t (.clo g ts), [], []⟩ := by
  refine Step.pure hd (by simp [AV.ids]) fun β w ok ρ hρ _ _ => ?_
  have hsp := trees_spec hc
  have hlen : caps.size = ts.length := by
    have := congrArg List.length hsp
    simpa using this
  refine ⟨.func (.func g) #[] (caps.map ρ), by simp [execOp, ho, Instr.makeFunc], .t (.clo (by simpa using hlen) fun i h1 h2 => ?_)⟩
  have hic : i < caps.size := by simpa using h1
  have hm : caps[i] ∈ o.op.operands := by simp [ho, Op.operands]
  have := hρ _ hm
  have he : evalS S caps[i] = .t ts[i] := by
    have : (caps.toList.map (evalS S))[i]? = (ts.map AV.t)[i]? := by rw [hsp]
    simpa [hic, h2] using this
  rw [he] at this
  simpa using this.tD

end Go.Proofs.Ytnemmdbafngppaa.Abs
