/- Abstract symbolic execution, part 4: operations that leave the memory alone. No condition. -/
import Derived.Test.YtnemmdbafngppaaAbs3
set_option linter.unusedVariables false
set_option linter.unusedSimpArgs false
namespace Go.Proofs.Ytnemmdbafngppaa.Abs
open Go.RowKit

/-! ### The table of types, as closed facts -/
def isAggD : TypeDesc → Bool
  | .struct _ => true
  | .array _ _ => true
  | _ => false
/-- (is it a struct or an array, its cells) -/
def tyB (P : Program) (t : TypeId) : Option (Bool × Nat) :=
  match P.underlying t, P.info? t with
  | some d, some i => some (isAggD d, i.size)
  | _, _ => none
/-- of a slice type: (element type, its cells, its bytes) -/
def slB (P : Program) (t : TypeId) : Option (TypeId × Nat × Nat) :=
  match P.underlying t with
  | some (.slice e) => (P.info? e).map fun i => (e, i.size, i.bytes)
  | _ => none
/-- of a struct type's field: (offset, type, cells) -/
def fdB (P : Program) (s f : Nat) : Option (Nat × TypeId × Nat) :=
  match P.underlying s with
  | some (.struct fs) => match fs[f]? with
    | some f => (P.info? f.type).map fun i => (f.offset, f.type, i.size)
    | none => none
  | _ => none
/-- of an array type: (length, element type, its cells) -/
def arB (P : Program) (t : TypeId) : Option (Nat × TypeId × Nat) :=
  match P.underlying t with
  | some (.array n e) => (P.info? e).map fun i => (n, e, i.size)
  | _ => none
def intB (P : Program) (t : TypeId) : Option IntKind :=
  match P.underlying t with
  | some (.int k) => some k
  | _ => none
def zeroB (P : Program) (t : TypeId) : Option (List Value) := (P.info? t).bind fun i => i.zero.map fun z => z.cells.toList

section
variable {P : Program} {w : World}
theorem run_isAgg {t : TypeId} {b : Bool} {n : Nat} (h : tyB P t = some (b, n)) : (isAgg t).run P w = .ok b w := by
  unfold tyB at h
  split at h
  · rename_i d i hu hi
    injection h with h
    injection h with h1 h2
    simp only [isAgg, Sem.run_bind, run_underlying hu, Result.andThen_ok]
    subst h1; cases d <;> simp [isAggD]
  · cases h
theorem run_sizeOf' {t : TypeId} {b : Bool} {n : Nat} (h : tyB P t = some (b, n)) : (sizeOf t).run P w = .ok n w := by
  unfold tyB at h
  split at h
  · rename_i d i hu hi
    injection h with h
    injection h with h1 h2
    simp [sizeOf, typeInfo, hi, h2]
  · cases h
theorem run_info {t : TypeId} {i : TypeInfo} (h : P.info? t = some i) : (typeInfo t).run P w = .ok i w := by simp [typeInfo, h]
end

/-! ### Lists, evaluated -/
def sub {α : Type} (l : List α) (off : Nat) : Nat → Option (List α)
  | 0 => some []
  | n + 1 => match l[off]? with
    | some a => match sub l (off + 1) n with
      | some r => some (a :: r)
      | none => none
    | none => none
theorem sub_spec {α : Type} {l : List α} : ∀ {n off : Nat} {r : List α}, sub l off n = some r → r.length = n ∧ ∀ k, k < n → l[off + k]? = r[k]?
  | 0, off, r, h => by injection h with h; subst h; exact ⟨rfl, fun k hk => by omega⟩
  | n + 1, off, r, h => by
    simp only [sub] at h
    split at h
    · rename_i a ha
      split at h
      · rename_i r' hr
        injection h with h; subst h
        obtain ⟨h1, h2⟩ := sub_spec hr
        refine ⟨by simp [h1], fun k hk => ?_⟩
        cases k with
        | zero => simpa using ha
        | succ k => have := h2 k (by omega); rw [show off + (k + 1) = off + 1 + k from by omega]; simpa using this
      · cases h
    · cases h
def cellT : AV → Option T
  | .t x => some x
  | _ => none
def trees : List AV → Option (List T)
  | [] => some []
  | x :: xs => match cellT x with
    | some t => match trees xs with
      | some ts => some (t :: ts)
      | none => none
    | none => none
theorem trees_spec : ∀ {l : List AV} {ts : List T}, trees l = some ts → l = ts.map AV.t
  | [], ts, h => by injection h with h; subst h; rfl
  | x :: xs, ts, h => by
    simp only [trees] at h
    split at h
    · rename_i t ht
      split at h
      · rename_i ts' hts
        injection h with h; subst h
        rw [trees_spec hts]
        cases x <;> simp [cellT] at ht
        subst ht; rfl
      · cases h
    · cases h
def dOk (n : Nat) : Option Nat → Bool
  | none => true
  | some d => Nat.blt d n

/-! ### Steps -/
theorem VRel.tD {w : World} {ok : Nat → Prop} {β : Nat → Value} {v : Value} {x : T} (h : VRel w ok β v (.t x)) : Reads w ok v x := by
  cases h with
  | t h => exact h
theorem VRel.pD {w : World} {ok : Nat → Prop} {β : Nat → Value} {v : Value} {i off : Nat} (h : VRel w ok β v (.p i off)) :
    ∃ b, β i = .pointer (some ⟨b, 0, none⟩) ∧ v = .pointer (some ⟨b, off, none⟩) := by
  cases h with
  | p h => exact ⟨_, h, rfl⟩
theorem VRel.eD {w : World} {ok : Nat → Prop} {β : Nat → Value} {v : Value} {i off : Nat} (h : VRel w ok β v (.e i off)) :
    ∃ b n c, β i = .slice (some ⟨b, 0, none⟩) n c ∧ v = .pointer (some ⟨b, off, none⟩) := by
  cases h with
  | e h => exact ⟨_, _, _, h, rfl⟩
theorem VRel.hD {w : World} {ok : Nat → Prop} {β : Nat → Value} {v : Value} {i : Nat} (h : VRel w ok β v (.h i)) : v = β i := by
  cases h; rfl
theorem VRel.aggD {w : World} {ok : Nat → Prop} {β : Nat → Value} {v : Value} {l : List AV} (h : VRel w ok β v (.agg l)) :
    ∃ vs : Array Value, v = .agg vs ∧ vs.size = l.length ∧ (∀ i (h1 : i < vs.size) (h2 : i < l.length), VRel w ok β vs[i] l[i]) ∧ ∀ i (h : i < vs.size), vs[i].oneCell' = true := by
  cases h with
  | agg hl h1 h => exact ⟨_, rfl, hl, h, h1⟩
theorem VRel.tupD {w : World} {ok : Nat → Prop} {β : Nat → Value} {v : Value} {l : List AV} (h : VRel w ok β v (.tup l)) :
    ∃ vs : Array Value, v = .tuple vs ∧ vs.size = l.length ∧ ∀ i (h1 : i < vs.size) (h2 : i < l.length), VRel w ok β vs[i] l[i] := by
  cases h with
  | tup hl h => exact ⟨_, rfl, hl, h⟩
theorem Reads.aggD {w : World} {ok : Nat → Prop} {v : Value} {l : List T} (h : Reads w ok v (.agg l)) :
    ∃ vs : Array Value, v = .agg vs ∧ vs.size = l.length ∧ (∀ i (h1 : i < vs.size) (h2 : i < l.length), Reads w ok vs[i] l[i]) ∧ ∀ i (h : i < vs.size), vs[i].oneCell' = true := by
  cases h with | agg hl h1 h => exact ⟨_, rfl, hl, h, h1⟩
theorem Reads.tupD {w : World} {ok : Nat → Prop} {v : Value} {l : List T} (h : Reads w ok v (.tup l)) :
    ∃ vs : Array Value, v = .tuple vs ∧ vs.size = l.length ∧ ∀ i (h1 : i < vs.size) (h2 : i < l.length), Reads w ok vs[i] l[i] := by
  cases h with | tup hl h => exact ⟨_, rfl, hl, h⟩
theorem Reads.ptrD {w : World} {ok : Nat → Prop} {v : Value} {l : List T} (h : Reads w ok v (.ptr l)) : ∃ a, v = .pointer (some a) := by
  cases h; exact ⟨_, rfl⟩

theorem agree_eval {ops : Array Oper} {o : Oper} {S S₁ : AState} (h : ∀ x ∈ o.looksAt ops, S₁.slot x = S.slot x) {x : Operand} (hx : x ∈ o.op.operands) :
    evalS S₁ x = evalS S x := by
  cases x with
  | tmp t => exact h t (List.mem_append_left _ (List.mem_filterMap.2 ⟨.tmp t, by simpa using hx, rfl⟩))
  | _ => rfl

theorem Oper.wp_value {P : Program} {o : Oper} {a : Act} {w w' : World} {v : Value} {K : Act → World → Prop} {Q : Exit → Act → World → Prop}
    (hr : (execOp a.eval o).run P w = .ok (.value v) w') (hK : K (a.put o.dst v) w') : o.wp P a w K Q := by
  unfold Oper.wp; rw [hr]; exact hK

theorem ap_pure (d : Option Nat) (v : AV) (S : AState) (looks : List Nat) : ap d ⟨v, [], looks⟩ S = { S with slot := putS d v S.slot } := by
  simp only [ap, assoc, hasKey, Bool.or_false]

/-- A value out of operands alone. -/
theorem Step.pure {C : Ctx} {ops : Array Oper} {o : Oper} {S : AState} {val : AV} (hd : dOk C.n o.dst = true)
    (hids : ∀ i ∈ val.ids, ∃ x ∈ o.op.operands, i ∈ (evalS S x).ids)
    (h : ∀ (β : Nat → Value) (w : World) (ok : Nat → Prop) (ρ : Operand → Value), (∀ x ∈ o.op.operands, VRel w ok β (ρ x) (evalS S x)) → (∀ v, ρ (.const v) = v) → (∀ f, ρ (.func f) = .func (.func f) #[] #[]) →
      ∃ v, (execOp ρ o).run C.P w = .ok (.value v) w ∧ VRel w ok β v val) : Step C ops o S ⟨val, [], []⟩ := by
  intro S₁ hs hm a w hsat
  obtain ⟨β, hb⟩ := hsat
  obtain ⟨v, hr, hv⟩ := h β w (okS C S₁ β w) a.eval (fun x hx => by rw [← agree_eval hs hx]; exact hb.eval x) (fun _ => rfl) (fun _ => rfl)
  refine Oper.wp_value hr ?_
  rw [ap_pure]
  refine ⟨β, hb.put o.dst v val (fun _ _ _ => hv) (fun x hx => .inl ?_) (fun i hi => ?_)⟩
  · rw [hx] at hd; simpa [dOk] using hd
  · obtain ⟨x, hx, hi'⟩ := hids i hi
    rw [← agree_eval hs hx] at hi'
    cases x with
    | tmp t => exact hb.wfs t i hi'
    | _ => simp [evalS, AV.ids] at hi'

variable {C : Ctx} {ops : Array Oper} {o : Oper} {S : AState}

theorem step_move {x : Operand} {v : AV} (ho : o.op = .move x) (hx : evalS S x = v) (hd : dOk C.n o.dst = true) : Step C ops o S ⟨v, [], []⟩ := by
  subst hx
  have hm : x ∈ o.op.operands := by simp [ho, Op.operands]
  refine Step.pure hd (fun i hi => ⟨x, hm, hi⟩) fun β w ok ρ hρ _ _ => ⟨ρ x, ?_, hρ x hm⟩
  simp [execOp, ho]
theorem step_assign {x : Operand} {v : AV} (ho : o.op = .assign x) (hx : evalS S x = v) (hd : dOk C.n o.dst = true) : Step C ops o S ⟨v, [], []⟩ := by
  subst hx
  have hm : x ∈ o.op.operands := by simp [ho, Op.operands]
  refine Step.pure hd (fun i hi => ⟨x, hm, hi⟩) fun β w ok ρ hρ _ _ => ⟨ρ x, ?_, hρ x hm⟩
  simp [execOp, ho]
theorem step_pick {c x y : Operand} {b : Bool} {v : AV} (ho : o.op = .pick c x y) (hc : evalS S c = .t (.v (.bool b))) (hx : evalS S (bif b then x else y) = v)
    (hd : dOk C.n o.dst = true) : Step C ops o S ⟨v, [], []⟩ := by
  subst hx
  have hmc : c ∈ o.op.operands := by simp [ho, Op.operands]
  have hm : (bif b then x else y) ∈ o.op.operands := by cases b <;> simp [ho, Op.operands]
  refine Step.pure hd (fun i hi => ⟨_, hm, hi⟩) fun β w ok ρ hρ _ _ => ⟨ρ (bif b then x else y), ?_, hρ _ hm⟩
  have hcv : ρ c = .bool b := by have := hρ c hmc; rw [hc] at this; exact this.toV
  cases b <;> simp [execOp, ho, hcv, asBool]

/-- Whole numbers. -/
def binV (op : BinOp) (k : IntKind) (m : Int) (k' : IntKind) (n : Int) : Option Value :=
  match op with
  | .add => if k = k' then some (.int k (k.wrap (m + n))) else none
  | .sub => if k = k' then some (.int k (k.wrap (m - n))) else none
  | .mul => if k = k' then some (.int k (k.wrap (m * n))) else none
  | .quo => if k = k' then (if n = 0 then none else some (.int k (k.wrap (m.tdiv n)))) else none
  | .rem => if k = k' then (if n = 0 then none else some (.int k (m.tmod n))) else none
  | .and => if k = k' then some (.int k (k.wrap (BitVec.ofInt k.bits m &&& BitVec.ofInt k.bits n).toNat)) else none
  | .or => if k = k' then some (.int k (k.wrap (BitVec.ofInt k.bits m ||| BitVec.ofInt k.bits n).toNat)) else none
  | .xor => if k = k' then some (.int k (k.wrap (BitVec.ofInt k.bits m ^^^ BitVec.ofInt k.bits n).toNat)) else none
  | .andNot => if k = k' then some (.int k (k.wrap (BitVec.ofInt k.bits m &&& ~~~ BitVec.ofInt k.bits n).toNat)) else none
  | .eql => if k = k' then some (.bool (m == n)) else none
  | .neq => if k = k' then some (.bool (m != n)) else none
  | .lss => if k = k' then some (.bool (decide (m < n))) else none
  | .leq => if k = k' then some (.bool (decide (m ≤ n))) else none
  | .gtr => if k = k' then some (.bool (decide (m > n))) else none
  | .geq => if k = k' then some (.bool (decide (m ≥ n))) else none
  | _ => none
theorem run_binV {P : Program} {w : World} {op : BinOp} {t : TypeId} {k k' : IntKind} {m n : Int} {v : Value} (h : binV op k m k' n = some v) :
    (binOp op t (.int k m) (.int k' n)).run P w = .ok v w := by
  cases op <;> simp only [binV] at h <;> first
    | (cases h; done)
    | (split at h
       · rename_i hk; subst hk
         first
           | (injection h with h; subst h; simp [binOp, Op.intArith, Op.intBits, Op.intCmp]; done)
           | (split at h
              · cases h
              · rename_i hn
                injection h with h; subst h
                simp [binOp, Op.intDiv, hn])
       · cases h)
theorem run_eqGuard_int {P : Program} {w : World} {op : BinOp} {t : TypeId} {x y : Operand} {k k' : IntKind} {m n : Int} :
    (eqGuard op t x y (.int k m) (.int k' n)).run P w = .ok () w := by
  unfold eqGuard; split <;> simp
theorem step_bin {op : BinOp} {t t' : TypeId} {x y : Operand} {k k' : IntKind} {m n : Int} {v : Value} (ho : o.op = .binOp op t x y t')
    (hx : evalS S x = .t (.v (.int k m))) (hy : evalS S y = .t (.v (.int k' n))) (hv : binV op k m k' n = some v) (hd : dOk C.n o.dst = true) : Step C ops o S ⟨.t (.v v), [], []⟩ := by
  have hmx : x ∈ o.op.operands := by simp [ho, Op.operands]
  have hmy : y ∈ o.op.operands := by simp [ho, Op.operands]
  refine Step.pure hd (by simp [AV.ids]) fun β w ok ρ hρ _ _ => ⟨v, ?_, .t (.v v)⟩
  have e1 : ρ x = .int k m := by have := hρ x hmx; rw [hx] at this; exact this.toV
  have e2 : ρ y = .int k' n := by have := hρ y hmy; rw [hy] at this; exact this.toV
  simp only [execOp, ho, e1, e2, Sem.run_bind, run_eqGuard_int, Result.andThen_ok, run_binV hv, Sem.run_pure]
/-- A shift by a count that isn't negative. -/
theorem step_shr {t t' : TypeId} {x y : Operand} {k k' : IntKind} {m n : Int} (ho : o.op = .binOp .shr t x y t')
    (hx : evalS S x = .t (.v (.int k m))) (hy : evalS S y = .t (.v (.int k' n))) (h0 : 0 ≤ n) (hd : dOk C.n o.dst = true) :
    Step C ops o S ⟨.t (.v (.int k (m.fdiv (2 ^ (min n.toNat k.bits))))), [], []⟩ := by
  have hmx : x ∈ o.op.operands := by simp [ho, Op.operands]
  have hmy : y ∈ o.op.operands := by simp [ho, Op.operands]
  refine Step.pure hd (by simp [AV.ids]) fun β w ok ρ hρ _ _ => ⟨_, ?_, .t (.v _)⟩
  have e1 : ρ x = .int k m := by have := hρ x hmx; rw [hx] at this; exact this.toV
  have e2 : ρ y = .int k' n := by have := hρ y hmy; rw [hy] at this; exact this.toV
  simp [execOp, ho, e1, e2, eqGuard, binOp, Op.shift, show ¬ n < 0 from by omega]
theorem step_shl {t t' : TypeId} {x y : Operand} {k k' : IntKind} {m n : Int} (ho : o.op = .binOp .shl t x y t')
    (hx : evalS S x = .t (.v (.int k m))) (hy : evalS S y = .t (.v (.int k' n))) (h0 : 0 ≤ n) (hd : dOk C.n o.dst = true) :
    Step C ops o S ⟨.t (.v (.int k (k.wrap (m * 2 ^ (min n.toNat k.bits))))), [], []⟩ := by
  have hmx : x ∈ o.op.operands := by simp [ho, Op.operands]
  have hmy : y ∈ o.op.operands := by simp [ho, Op.operands]
  refine Step.pure hd (by simp [AV.ids]) fun β w ok ρ hρ _ _ => ⟨_, ?_, .t (.v _)⟩
  have e1 : ρ x = .int k m := by have := hρ x hmx; rw [hx] at this; exact this.toV
  have e2 : ρ y = .int k' n := by have := hρ y hmy; rw [hy] at this; exact this.toV
  simp [execOp, ho, e1, e2, eqGuard, binOp, Op.shift, show ¬ n < 0 from by omega]
theorem run_equal_bool {P : Program} {w : World} {t : TypeId} (ht : P.underlying t = some .bool) (m n : Bool) : (Op.equal t (.bool m) (.bool n)).run P w = .ok (m == n) w := by
  have key : ∀ d, (Op.equalIn (d + 1) t (.bool m) (.bool n)).run P w = .ok (m == n) w := by
    intro d
    simp only [Op.equalIn, Sem.run_bind, run_underlying ht, Result.andThen_ok, Sem.run_pure]
  exact key 9999
/-- '==' and '!=' of bools. -/
theorem step_eqb {b : Bool} {t t' : TypeId} {x y : Operand} {m n : Bool} (ho : o.op = .binOp (bif b then .neq else .eql) t x y t')
    (hx : evalS S x = .t (.v (.bool m))) (hy : evalS S y = .t (.v (.bool n))) (ht : C.P.underlying t = some .bool) (hd : dOk C.n o.dst = true) :
    Step C ops o S ⟨.t (.v (.bool (bif b then m != n else m == n))), [], []⟩ := by
  have hmx : x ∈ o.op.operands := by simp [ho, Op.operands]
  have hmy : y ∈ o.op.operands := by simp [ho, Op.operands]
  refine Step.pure hd (by simp [AV.ids]) fun β w ok ρ hρ _ _ => ⟨_, ?_, .t (.v _)⟩
  have e1 : ρ x = .bool m := by have := hρ x hmx; rw [hx] at this; exact this.toV
  have e2 : ρ y = .bool n := by have := hρ y hmy; rw [hy] at this; exact this.toV
  cases b <;> simp only [cond_true, cond_false] at ho ⊢ <;> simp only [execOp, ho, e1, e2, eqGuard, binOp, Sem.run_bind, Sem.run_pure, run_equal_bool ht, Result.andThen_ok] <;> rfl
theorem step_not {t : TypeId} {x : Operand} {m : Bool} (ho : o.op = .unOp .not t x) (hx : evalS S x = .t (.v (.bool m))) (hd : dOk C.n o.dst = true) :
    Step C ops o S ⟨.t (.v (.bool (!m))), [], []⟩ := by
  have hmx : x ∈ o.op.operands := by simp [ho, Op.operands]
  refine Step.pure hd (by simp [AV.ids]) fun β w ok ρ hρ _ _ => ⟨_, ?_, .t (.v _)⟩
  have e1 : ρ x = .bool m := by have := hρ x hmx; rw [hx] at this; exact this.toV
  simp [execOp, ho, e1, Op.unary]
theorem step_neg {t : TypeId} {x : Operand} {k : IntKind} {m : Int} (ho : o.op = .unOp .neg t x) (hx : evalS S x = .t (.v (.int k m))) (hd : dOk C.n o.dst = true) :
    Step C ops o S ⟨.t (.v (.int k (k.wrap (0 - m)))), [], []⟩ := by
  have hmx : x ∈ o.op.operands := by simp [ho, Op.operands]
  refine Step.pure hd (by simp [AV.ids]) fun β w ok ρ hρ _ _ => ⟨_, ?_, .t (.v _)⟩
  have e1 : ρ x = .int k m := by have := hρ x hmx; rw [hx] at this; exact this.toV
  simp [execOp, ho, e1, Op.unary, Op.intArith]
theorem step_conv {s d : TypeId} {x : Operand} {k k' : IntKind} {m : Int} (ho : o.op = .convert s d x) (hx : evalS S x = .t (.v (.int k m)))
    (hs : intB C.P s = some k) (ht : intB C.P d = some k') (hd : dOk C.n o.dst = true) : Step C ops o S ⟨.t (.v (.int k' (k'.wrap m))), [], []⟩ := by
  have hmx : x ∈ o.op.operands := by simp [ho, Op.operands]
  refine Step.pure hd (by simp [AV.ids]) fun β w ok ρ hρ _ _ => ⟨_, ?_, .t (.v _)⟩
  have e1 : ρ x = .int k m := by have := hρ x hmx; rw [hx] at this; exact this.toV
  have u1 : C.P.underlying s = some (.int k) := by unfold intB at hs; split at hs <;> simp_all
  have u2 : C.P.underlying d = some (.int k') := by unfold intB at ht; split at ht <;> simp_all
  simp [execOp, ho, e1, convert, run_underlying u1, run_underlying u2, Conv.intToInt]
theorem step_extract {x : Operand} {i : Nat} {l : List T} {v : T} (ho : o.op = .extract x i) (hx : evalS S x = .t (.tup l)) (hv : l[i]? = some v)
    (hd : dOk C.n o.dst = true) : Step C ops o S ⟨.t v, [], []⟩ := by
  have hmx : x ∈ o.op.operands := by simp [ho, Op.operands]
  refine Step.pure hd (by simp [AV.ids]) fun β w ok ρ hρ _ _ => ?_
  have h := hρ x hmx
  rw [hx] at h
  obtain ⟨vs, hq, hl, h⟩ := h.tD.tupD
  have hi : i < l.length := (List.getElem?_eq_some_iff.1 hv).1
  have hiv : i < vs.size := by omega
  refine ⟨vs[i], ?_, .t ?_⟩
  · simp [execOp, ho, hq, Instr.extract, hiv]
  · have := h i hiv hi
    rw [List.getElem?_eq_getElem hi] at hv; injection hv with hv; rwa [hv] at this
theorem step_extractA {x : Operand} {i : Nat} {l : List AV} {v : AV} (ho : o.op = .extract x i) (hx : evalS S x = .tup l) (hv : l[i]? = some v)
    (hd : dOk C.n o.dst = true) : Step C ops o S ⟨v, [], []⟩ := by
  have hmx : x ∈ o.op.operands := by simp [ho, Op.operands]
  refine Step.pure hd (fun j hj => ⟨x, hmx, ?_⟩) fun β w ok ρ hρ _ _ => ?_
  · rw [hx]; exact AV.mem_idsL (List.mem_of_getElem? hv) hj
  have h := hρ x hmx
  rw [hx] at h
  obtain ⟨vs, hq, hl, h⟩ := h.tupD
  have hi : i < l.length := (List.getElem?_eq_some_iff.1 hv).1
  have hiv : i < vs.size := by omega
  refine ⟨vs[i], ?_, ?_⟩
  · simp [execOp, ho, hq, Instr.extract, hiv]
  · have := h i hiv hi
    rw [List.getElem?_eq_getElem hi] at hv; injection hv with hv; rwa [hv] at this

theorem fdB_spec {P : Program} {s f off ft n : Nat} (h : fdB P s f = some (off, ft, n)) :
    ∃ fs fd i, P.underlying s = some (.struct fs) ∧ fs[f]? = some fd ∧ fd.offset = off ∧ fd.type = ft ∧ P.info? ft = some i ∧ i.size = n := by
  unfold fdB at h
  split at h
  · rename_i fs hu
    split at h
    · rename_i fd hf
      cases hi : P.info? fd.type with
      | none => rw [hi] at h; cases h
      | some i =>
        rw [hi] at h
        simp only [Option.map_some, Option.some.injEq, Prod.mk.injEq] at h
        obtain ⟨h1, h2, h3⟩ := h
        exact ⟨fs, fd, i, hu, hf, h1, h2, by rw [← h2]; exact hi, h3⟩
    · cases h
  · cases h
/-- A field's cells of a struct value: one cell. -/
theorem step_field1 {s f : Nat} {x : Operand} {l : List T} {off ft : Nat} {v : T} (ho : o.op = .field s x f) (hx : evalS S x = .t (.agg l)) (hf : fdB C.P s f = some (off, ft, 1))
    (ht : tyB C.P ft = some (false, 1)) (hv : l[off]? = some v) (hd : dOk C.n o.dst = true) : Step C ops o S ⟨.t v, [], []⟩ := by
  have hmx : x ∈ o.op.operands := by simp [ho, Op.operands]
  refine Step.pure hd (by simp [AV.ids]) fun β w ok ρ hρ _ _ => ?_
  obtain ⟨fs, fd, i, hu, hff, rfl, rfl, hi, hn⟩ := fdB_spec hf
  have h := hρ x hmx
  rw [hx] at h
  obtain ⟨vs, hq, hl, h, hone⟩ := h.tD.aggD
  have hi : fd.offset < l.length := (List.getElem?_eq_some_iff.1 hv).1
  have hiv : fd.offset < vs.size := by omega
  refine ⟨vs[fd.offset], ?_, .t ?_⟩
  · simp [execOp, ho, hq, Instr.field, run_underlying hu, hff, asAgg, part, run_isAgg ht, hiv]
  · have := h _ hiv hi
    rw [List.getElem?_eq_getElem hi] at hv; injection hv with hv; rwa [hv] at this
theorem step_fieldN {s f : Nat} {x : Operand} {l r : List T} {off ft n : Nat} (ho : o.op = .field s x f) (hx : evalS S x = .t (.agg l)) (hf : fdB C.P s f = some (off, ft, n))
    (ht : tyB C.P ft = some (true, n)) (hv : sub l off n = some r) (hd : dOk C.n o.dst = true) : Step C ops o S ⟨.t (.agg r), [], []⟩ := by
  have hmx : x ∈ o.op.operands := by simp [ho, Op.operands]
  refine Step.pure hd (by simp [AV.ids]) fun β w ok ρ hρ _ _ => ?_
  obtain ⟨fs, fd, i, hu, hff, rfl, rfl, hi, hn⟩ := fdB_spec hf
  obtain ⟨hr, hs⟩ := sub_spec hv
  have h := hρ x hmx
  rw [hx] at h
  obtain ⟨vs, hq, hl, h, hone⟩ := h.tD.aggD
  refine ⟨.agg (vs.extract fd.offset (fd.offset + n)), ?_, .t (.agg ?_ (fun k h => by simp only [Array.getElem_extract]; exact hone _ _) fun k h1 h2 => ?_)⟩
  · simp [execOp, ho, hq, Instr.field, run_underlying hu, hff, asAgg, part, run_isAgg ht, run_sizeOf' ht]
  · have key : n = 0 ∨ fd.offset + n ≤ l.length := by
      rcases Nat.eq_zero_or_pos n with h0 | h0
      · exact .inl h0
      · right
        have := hs (n - 1) (by omega)
        rw [List.getElem?_eq_getElem (by omega : n - 1 < r.length)] at this
        have := (List.getElem?_eq_some_iff.1 this).1
        omega
    simp; omega
  · have h3 : k < n := by omega
    have := hs k h3
    rw [List.getElem?_eq_getElem h2] at this
    obtain ⟨h4, h5⟩ := List.getElem?_eq_some_iff.1 this
    have := h (fd.offset + k) (by omega) h4
    rw [h5] at this
    simpa using this
def isPtr : AV → Bool
  | .p _ _ => true
  | .e _ _ => true
  | .t (.ptr _) => true
  | _ => false
theorem VRel.isPtr {w : World} {ok : Nat → Prop} {β : Nat → Value} {v : Value} {x : AV} (h : VRel w ok β v x) (hv : isPtr x = true) : ∃ a, v = .pointer (some a) := by
  cases h with
  | p h => exact ⟨_, rfl⟩
  | e h => exact ⟨_, rfl⟩
  | t h =>
    rename_i x'
    cases x' with
    | ptr l => exact h.ptrD
    | _ => cases hv
  | _ => cases hv
theorem step_nilCheck {x : Operand} {v : AV} (ho : o.op = .nilCheck x) (hx : evalS S x = v) (hv : isPtr v = true)
    (hd : dOk C.n o.dst = true) : Step C ops o S ⟨v, [], []⟩ := by
  subst hx
  have hm : x ∈ o.op.operands := by simp [ho, Op.operands]
  refine Step.pure hd (fun i hi => ⟨x, hm, hi⟩) fun β w ok ρ hρ _ _ => ⟨ρ x, ?_, hρ x hm⟩
  have this := (hρ x hm).isPtr hv
  obtain ⟨a, ha⟩ := this
  simp [execOp, ho, ha]
theorem add_plain' (g b j : Nat) : (⟨g, b, none⟩ : Addr).add j = ⟨g, b + j, none⟩ := by unfold Addr.add; split <;> simp_all
theorem run_fieldPlace {P : Program} {w : World} {a : Addr} {fd : Field} {i : TypeInfo} (hi : P.info? fd.type = some i) (hn : i.size ≠ 0) : (fieldPlace a fd).run P w = .ok (a.add fd.offset) w := by
  simp [fieldPlace, sizeOf, typeInfo, hi, hn]
/-- A field's address: in a variable of the call's own. -/
theorem step_fieldAddrP {s f : Nat} {x : Operand} {i q off ft n : Nat} (ho : o.op = .fieldAddr s x f) (hx : evalS S x = .p i q) (hf : fdB C.P s f = some (off, ft, n)) (hn : (n == 0) = false)
    (hd : dOk C.n o.dst = true) : Step C ops o S ⟨.p i (q + off), [], []⟩ := by
  have hm : x ∈ o.op.operands := by simp [ho, Op.operands]
  refine Step.pure hd (fun j hj => ⟨x, hm, by rw [hx]; exact hj⟩) fun β w ok ρ hρ _ _ => ?_
  obtain ⟨fs, fd, i', hu, hff, rfl, rfl, hi, rfl⟩ := fdB_spec hf
  have h := hρ x hm
  rw [hx] at h
  obtain ⟨b, h, hq⟩ := h.pD
  exact ⟨_, by simp [execOp, ho, hq, Instr.fieldAt, run_underlying hu, hff, Instr.sureAddr, run_fieldPlace hi (by simpa using hn), add_plain'], .p h⟩
theorem step_fieldAddrE {s f : Nat} {x : Operand} {i q off ft n : Nat} (ho : o.op = .fieldAddr s x f) (hx : evalS S x = .e i q) (hf : fdB C.P s f = some (off, ft, n)) (hn : (n == 0) = false)
    (hd : dOk C.n o.dst = true) : Step C ops o S ⟨.e i (q + off), [], []⟩ := by
  have hm : x ∈ o.op.operands := by simp [ho, Op.operands]
  refine Step.pure hd (fun j hj => ⟨x, hm, by rw [hx]; exact hj⟩) fun β w ok ρ hρ _ _ => ?_
  obtain ⟨fs, fd, i', hu, hff, rfl, rfl, hi, rfl⟩ := fdB_spec hf
  have h := hρ x hm
  rw [hx] at h
  obtain ⟨b, n', c', h, hq⟩ := h.eD
  exact ⟨_, by simp [execOp, ho, hq, Instr.fieldAt, run_underlying hu, hff, Instr.sureAddr, run_fieldPlace hi (by simpa using hn), add_plain'], .e h⟩
theorem Addr.add_add (a : Addr) (i j : Nat) : (a.add i).add j = a.add (i + j) := by
  unfold Addr.add
  by_cases h1 : i = 0 <;> by_cases h2 : j = 0 <;> simp [h1, h2, Nat.add_assoc]
theorem Addr.add_block (a : Addr) (i : Nat) : (a.add i).block = a.block := by unfold Addr.add; split <;> rfl
/-- .. in memory that nobody writes: the cells from there on. -/
theorem Reads.ptr_drop {w : World} {ok : Nat → Prop} {a : Addr} {l r : List T} {off n : Nat} (h : Reads w ok (.pointer (some a)) (.ptr l)) (hs : sub l off n = some r) :
    Reads w ok (.pointer (some (a.add off))) (.ptr r) := by
  cases h with
  | ptr f hok ha h =>
    obtain ⟨hr, hs⟩ := sub_spec hs
    refine .ptr (fun k => f (off + k)) (by rw [Addr.add_block]; exact hok) (fun k hk => ?_) (fun k hk => ?_)
    · have := hs k (by omega)
      rw [List.getElem?_eq_getElem hk] at this
      have := (List.getElem?_eq_some_iff.1 this).1
      rw [Addr.add_add]; exact ha _ this
    · have := hs k (by omega)
      rw [List.getElem?_eq_getElem hk] at this
      obtain ⟨h1, h2⟩ := List.getElem?_eq_some_iff.1 this
      have := h (off + k) h1
      rwa [h2] at this
theorem step_fieldAddrT {s f : Nat} {x : Operand} {l r : List T} {off ft n : Nat} (ho : o.op = .fieldAddr s x f) (hx : evalS S x = .t (.ptr l)) (hf : fdB C.P s f = some (off, ft, n)) (hn : (n == 0) = false)
    (hs : sub l off n = some r) (hd : dOk C.n o.dst = true) : Step C ops o S ⟨.t (.ptr r), [], []⟩ := by
  have hm : x ∈ o.op.operands := by simp [ho, Op.operands]
  refine Step.pure hd (by simp [AV.ids]) fun β w ok ρ hρ _ _ => ?_
  obtain ⟨fs, fd, i', hu, hff, rfl, rfl, hi, rfl⟩ := fdB_spec hf
  have h := hρ x hm
  rw [hx] at h
  have h' := h.tD
  obtain ⟨a, hq⟩ := h'.ptrD
  rw [hq] at h'
  exact ⟨_, by simp [execOp, ho, hq, Instr.fieldAt, run_underlying hu, hff, Instr.sureAddr, run_fieldPlace hi (by simpa using hn)], .t (h'.ptr_drop hs)⟩

end Go.Proofs.Ytnemmdbafngppaa.Abs
