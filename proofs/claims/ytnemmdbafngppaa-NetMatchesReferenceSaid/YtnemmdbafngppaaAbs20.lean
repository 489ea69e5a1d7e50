/- Abstract symbolic execution, part 20: slices compared with nil, branches on a Bool that is not known. No condition. -/
import Derived.Test.YtnemmdbafngppaaAbs19
set_option linter.unusedVariables false
set_option linter.unusedSimpArgs false
namespace Go.Proofs.Ytnemmdbafngppaa.Abs
open Go.RowKit
variable {C : Ctx} {ops : Array Oper} {o : Oper} {S : AState}

theorem AT.condU {c : Operand} {x y : Code} {Q : Exit → AState → Prop} (hc : evalS S c = .ub) (h1 : AT C x Q S) (h2 : AT C y Q S) : AT C (.cond c x y) Q S := by
  intro a w hs
  have hs' := hs
  obtain ⟨β, hb⟩ := hs'
  have hv := hb.eval c
  rw [hc] at hv
  obtain ⟨b, hb2⟩ : ∃ b, a.eval c = .bool b := by
    generalize a.eval c = v at hv
    cases hv with | ub b => exact ⟨b, rfl⟩
  exact wp_cond_split hb2 (fun _ => h1 a w hs) (fun _ => h2 a w hs)

theorem run_eqNil {P : Program} {w : World} {t e : TypeId} {a : Option Addr} {n c : Nat} (hu : P.underlying t = some (.slice e)) : (Op.equal t (.slice a n c) (.slice none 0 0)).run P w = .ok a.isNone w := by
  have key : ∀ d, (Op.equalIn (d + 1) t (.slice a n c) (.slice none 0 0)).run P w = .ok a.isNone w := by
    intro d
    unfold Op.equalIn
    cases a <;> simp [run_underlying hu]
  exact key 9999
theorem step_eqNil {t t' : TypeId} {x : Operand} {x' : T} {l : List T} {e sz bytes sz' : Nat} (ho : o.op = .binOp .eql t x (.const (.slice none 0 0)) t') (hx : evalS S x = .t x') (hc : Conv x' (.slice sz' l)) (ht : slB C.P t = some (e, sz, bytes)) (hd : dOk C.n o.dst = true) : Step C ops o S ⟨.ub, [], []⟩ := by
  have hmx : x ∈ o.op.operands := by simp [ho, Op.operands]
  refine Step.pure hd (by simp [AV.ids]) fun β w ok ρ hρ hcst _ => ?_
  obtain ⟨hu, _⟩ := slB_spec ht
  have h := hρ x hmx
  rw [hx] at h
  obtain ⟨a, c, cells, hq, _⟩ := (hc.reads h.tD).news
  refine ⟨.bool a.isNone, ?_, .ub _⟩
  simp only [execOp, ho, hq, hcst, Sem.run_bind, eqGuard, binOp, run_eqNil hu, Result.andThen_ok, Sem.run_pure]
  simp
theorem step_eqNilF {t t' : TypeId} {x : Operand} {x' : T} {l : List T} {e sz bytes sz' : Nat} (ho : o.op = .binOp .eql t x (.const (.slice none 0 0)) t') (hx : evalS S x = .t x') (hc : Conv x' (.slice sz' l)) (hpos : 0 < l.length) (hsz : Nat.blt 0 sz' = true) (ht : slB C.P t = some (e, sz, bytes)) (hd : dOk C.n o.dst = true) : Step C ops o S ⟨.t (.v (.bool false)), [], []⟩ := by
  have hmx : x ∈ o.op.operands := by simp [ho, Op.operands]
  refine Step.pure hd (by simp [AV.ids]) fun β w ok ρ hρ hcst _ => ?_
  obtain ⟨hu, _⟩ := slB_spec ht
  have h := hρ x hmx
  rw [hx] at h
  obtain ⟨a, c, cells, hq, _, _, _, ha, _⟩ := (hc.reads h.tD).news
  obtain ⟨ad, rfl, _⟩ := ha (Nat.mul_pos hpos (by simpa [Nat.blt_eq] using hsz))
  refine ⟨.bool false, ?_, .t (.v _)⟩
  simp only [execOp, ho, hq, hcst, Sem.run_bind, eqGuard, binOp, run_eqNil hu, Result.andThen_ok, Sem.run_pure]
  simp

/-- 's[lo:hi]' of a row of the call's own, the value not used. -/
theorem step_sliceHJ {t : TypeId} {x : Operand} {lo hi mx : Option Operand} {i E sz e' bytes : Nat} {l : List T} (a b : Nat) (ho : o.op = .slice t x lo hi mx) (hx : evalS S x = .h i) (hm : S.mem i = some (.row E sz l)) (hlo : BndO S lo 0 a) (hhi : BndO S hi l.length b) (hmx : mx = none)
    (ht : slB C.P t = some (e', sz, bytes)) (h1 : a ≤ b) (h2 : b ≤ l.length) (hd : dOk C.n o.dst = true) : Step C ops o S ⟨.junk, [], [i]⟩ := by
  subst hmx
  have hmm : x ∈ o.op.operands := by simp [ho, Op.operands]
  refine Step.read hm hd (by simp [AV.ids]) fun β w ok ρ hO hρ _ => ?_
  obtain ⟨hu, inf, hinf, hsz, _⟩ := slB_spec ht
  have h := hρ x hmm
  rw [hx] at h
  obtain ⟨ad, c, hq, hc⟩ : ∃ ad c, ρ x = .slice ad l.length c ∧ l.length ≤ c := by
    rw [h.hD]
    obtain ⟨cells, h1, _⟩ := hO
    rcases h1.2 with ⟨h2, h3⟩ | ⟨g, cap, cur, h2, _, _, h3, _⟩
    · exact ⟨none, 0, by rw [h2, h3], by omega⟩
    · exact ⟨_, cap, h2, h3⟩
  have bl : ∀ (y : Option Operand) (d q : Nat), (∀ z, y = some z → z ∈ o.op.operands) → BndO S y d q → (y.map ρ = none ∧ y = none ∧ q = d) ∨ ∃ k, y.map ρ = some (.int k q) := by
    intro y d q hy hb
    cases hb with
    | none => exact .inl ⟨rfl, rfl, rfl⟩
    | some h ha =>
      have := hρ _ (hy _ rfl)
      rw [h] at this
      subst ha
      exact .inr ⟨_, by rw [Option.map_some, this.toV]⟩
  have b1 := bl lo 0 a (fun z hz => by subst hz; simp [ho, Op.operands]) hlo
  have b2 := bl hi l.length b (fun z hz => by subst hz; simp [ho, Op.operands]) hhi
  have hb : (Instr.sliceBounds true l.length c (lo.map ρ) (hi.map ρ) none).run C.P w = .ok (a, b, c) w := by
    refine run_sliceBounds ?_ ?_ (.inl ⟨rfl, rfl⟩) h1 (by omega) (Nat.le_refl _)
    · rcases b1 with ⟨p1, _, p3⟩ | p; exact .inl ⟨p1, p3⟩; exact .inr p
    · rcases b2 with ⟨p1, p2, p3⟩ | p; exact .inl ⟨p1, rfl, p3⟩; exact .inr p
  refine ⟨.slice (if c = a then ad else ad.map (·.add (a * sz))) (b - a) (c - a), ?_, .junk _⟩
  simp only [execOp, ho, Instr.sliceAt, Sem.run_bind, run_underlying hu, Result.andThen_ok, hq, Instr.slice, Option.map_none, hb, sizeOf, run_info hinf, Sem.run_pure, hsz]

/-- A loop, with what is kept as a proposition. -/
theorem AT.loopP {c : Code} {Q : Exit → AState → Prop} {ι : Type} (P : ι → Prop) (I : ι → AState) (μ : ι → Nat) (i₀ : ι) (hp : P i₀) (h₀ : ∀ a w, Sat C S a w → Sat C (I i₀) a w)
    (round : ∀ i, P i → AT C c (nextQ (fun S' => ∃ j, P j ∧ μ j < μ i ∧ ∀ a w, Sat C S' a w → Sat C (I j) a w) Q) (I i)) : AT C (.loop c) Q S := by
  refine AT.loop (ι := { i : ι // P i }) (fun i => I i.1) (fun i => μ i.1) ⟨i₀, hp⟩ h₀ (fun i => ?_)
  refine AT.mono (round i.1 i.2) (fun e S' hq => ?_)
  cases e with
  | normal => obtain ⟨j, hj, h1, h2⟩ := hq; exact ⟨⟨j, hj⟩, h1, h2⟩
  | _ => exact hq

/-- 'AT.openRow', the elements and their number spelled anew. -/
theorem AT.openRow' {c : Code} {Q : Exit → AState → Prop} (x i d E sz : Nat) {l : List T} (hx : S.slot x = .h i) (hm : S.mem i = some (.row E sz l)) (l' : List T) (n : Nat) (hl : l = l') (hn : l'.length = n) (hpos : 0 < n) (hu : S.used d = false)
    (h : ∀ cap, n ≤ cap → cap ≤ maxLen → AT C c Q { modS [(d, some (.buf E sz cap l')), (i, none)] S with slot := putS (some x) (.s d sz 0 n cap) S.slot }) : AT C c Q S := by
  subst hl; subst hn
  exact AT.openRow x i d E sz hx hm hpos hu h

/-! ### Plain facts on lists -/
theorem findIdx_found {p : T → Bool} {l : List T} {i : Nat} (h : i < l.length) (hp : p l[i] = true) (hb : ∀ j (h : j < l.length), j < i → p l[j] = false) : l.findIdx? p = some i := by
  rw [List.findIdx?_eq_some_iff_getElem]
  exact ⟨h, hp, fun j hj => by simp [hb j (by omega) hj]⟩
theorem findIdx_no {p : T → Bool} {l : List T} (hb : ∀ j (h : j < l.length), p l[j] = false) : l.findIdx? p = none := by
  rw [List.findIdx?_eq_none_iff]
  intro x hx
  obtain ⟨j, hj, rfl⟩ := List.getElem_of_mem hx
  simp [hb j hj]
theorem filter_of_none {p : T → Bool} {l : List T} (h : l.findIdx? p = none) : l.filter (fun x => !p x) = l := by
  rw [List.findIdx?_eq_none_iff] at h
  rw [List.filter_eq_self]
  intro x hx; simp [h x hx]
theorem delete_list {l : List T} {a b : Nat} (ha : a ≤ b) (hb : b ≤ l.length) : ((Abs.put l (0 + 0 + (a - 0)) ((l.drop (0 + b)).take (l.length - b))).take (0 + (a - 0 + (l.length - b)))).take (a - 0 + (l.length - b)) = l.take a ++ l.drop b := by
  have h1 : (l.drop (0 + b)).take (l.length - b) = l.drop b := by rw [Nat.zero_add, List.take_of_length_le (by simp)]
  rw [h1, Abs.put, List.take_take, List.append_assoc]
  have h2 : (l.take (0 + 0 + (a - 0))) = l.take a := by simp
  rw [h2, ← List.append_assoc, List.take_left' (by simp; omega)]
theorem put_get {l src : List T} {p : Nat} (hp : p ≤ l.length) (q : Nat) : (Abs.put l p src)[q]? = if q < p then l[q]? else if q < p + src.length then src[q - p]? else l[q]? := by
  have hl : (l.take p).length = p := by simp; omega
  unfold Abs.put
  rw [List.append_assoc]
  by_cases h1 : q < p
  · rw [if_pos h1, List.getElem?_append_left (by omega), List.getElem?_take_of_lt h1]
  · rw [if_neg h1, List.getElem?_append_right (by omega), hl]
    by_cases h2 : q < p + src.length
    · rw [if_pos h2, List.getElem?_append_left (by omega)]
    · rw [if_neg h2, List.getElem?_append_right (by omega), List.getElem?_drop]
      congr 1; omega
theorem ins_get {l : List T} {k : Nat} {x : T} (hk : k ≤ l.length) (q : Nat) : (l.take k ++ x :: l.drop k)[q]? = if q < k then l[q]? else if q = k then some x else l[q - 1]? := by
  have hl : (l.take k).length = k := by simp; omega
  by_cases h1 : q < k
  · rw [if_pos h1, List.getElem?_append_left (by omega), List.getElem?_take_of_lt h1]
  · rw [if_neg h1, List.getElem?_append_right (by omega), hl]
    by_cases h2 : q = k
    · rw [if_pos h2]; subst h2; simp
    · rw [if_neg h2, show q - k = (q - k - 1) + 1 from by omega, List.getElem?_cons_succ, List.getElem?_drop]
      congr 1; omega
theorem insert_list1 {l : List T} {k : Nat} {x ze : T} (hk : k < l.length) :
    (Abs.put (Abs.put (l.take (k - 0) ++ List.replicate (l.length + 1 - k) ze) (0 + k) ([x].take 1)) (0 + (k + 1)) ((l.drop (0 + k)).take (l.length - k))).take (k - 0 + (l.length + 1 - k)) = l.take k ++ x :: l.drop k := by
  have hl0 : (l.take (k - 0) ++ List.replicate (l.length + 1 - k) ze).length = l.length + 1 := by simp; omega
  have hl1 : (Abs.put (l.take (k - 0) ++ List.replicate (l.length + 1 - k) ze) (0 + k) ([x].take 1)).length = l.length + 1 := by rw [put_len, hl0]; rw [hl0]; simp; omega
  have ht : [x].take 1 = [x] := rfl
  rw [ht] at hl1 ⊢
  have hd : (l.drop (0 + k)).take (l.length - k) = l.drop k := by rw [Nat.zero_add, List.take_of_length_le (by simp)]
  apply List.ext_getElem?
  intro q
  rw [ins_get (by omega), List.getElem?_take, put_get (by omega), put_get (by omega), hd]
  have hx1 : [x].length = 1 := rfl
  have hx2 : (l.drop k).length = l.length - k := by simp
  by_cases h1 : q < k
  · have : q < 0 + (k + 1) ∧ q < 0 + k ∧ q < k - 0 + (l.length + 1 - k) := by omega
    rw [if_pos this.2.2, if_pos this.1, if_pos this.2.1, if_pos h1, List.getElem?_append_left (by simp; omega), List.getElem?_take_of_lt (by omega)]
  · by_cases h2 : q = k
    · subst h2
      have : q < 0 + (q + 1) ∧ ¬ q < 0 + q ∧ q < q - 0 + (l.length + 1 - q) ∧ q < 0 + q + [x].length := by omega
      rw [if_pos this.2.2.1, if_pos this.1, if_neg this.2.1, if_pos this.2.2.2, if_neg h1, if_pos rfl]
      simp
    · rw [if_neg h1, if_neg h2]
      by_cases h3 : q < l.length + 1
      · have : q < k - 0 + (l.length + 1 - k) ∧ ¬ q < 0 + (k + 1) ∧ q < 0 + (k + 1) + (l.drop k).length := by omega
        rw [if_pos this.1, if_neg this.2.1, if_pos this.2.2, List.getElem?_drop]
        congr 1; omega
      · have : ¬ q < k - 0 + (l.length + 1 - k) := by omega
        rw [if_neg this, List.getElem?_eq_none (by omega)]
theorem insert_list2 {l : List T} {k : Nat} {x : T} (hk : k < l.length) :
    (Abs.put (Abs.put l (0 + (k + 1)) ((l.drop (0 + k)).take (l.length - k))) (0 + k) ([x].take 1)).take (l.length + 1 - 0) = l.take k ++ x :: l.drop k := by
  have hd : (l.drop (0 + k)).take (l.length - k) = l.drop k := by rw [Nat.zero_add, List.take_of_length_le (by simp)]
  have ht : [x].take 1 = [x] := rfl
  rw [hd, ht]
  have hl1 : (Abs.put l (0 + (k + 1)) (l.drop k)).length = l.length + 1 := by simp [Abs.put]; omega
  apply List.ext_getElem?
  intro q
  rw [ins_get (by omega), List.getElem?_take, put_get (by omega), put_get (by omega)]
  have hx1 : [x].length = 1 := rfl
  have hx2 : (l.drop k).length = l.length - k := by simp
  by_cases h1 : q < k
  · have : q < 0 + k ∧ q < 0 + (k + 1) ∧ q < l.length + 1 - 0 := by omega
    rw [if_pos this.2.2, if_pos this.1, if_pos this.2.1, if_pos h1]
  · by_cases h2 : q = k
    · subst h2
      have : ¬ q < 0 + q ∧ q < l.length + 1 - 0 ∧ q < 0 + q + [x].length := by omega
      rw [if_pos this.2.1, if_neg this.1, if_pos this.2.2, if_neg h1, if_pos rfl]
      simp
    · rw [if_neg h1, if_neg h2]
      by_cases h3 : q < l.length + 1
      · have : q < l.length + 1 - 0 ∧ ¬ q < 0 + k ∧ ¬ q < 0 + k + [x].length ∧ ¬ q < 0 + (k + 1) ∧ q < 0 + (k + 1) + (l.drop k).length := by omega
        rw [if_pos this.1, if_neg this.2.1, if_neg this.2.2.1, if_neg this.2.2.2.1, if_pos this.2.2.2.2, List.getElem?_drop]
        congr 1; omega
      · rw [if_neg (by omega), List.getElem?_eq_none (by omega)]

/-! ### DeleteFunc -/
structure DelInv (p : T → Bool) (l : List T) (i j : Nat) (L : List T) : Prop where
  lt : i < j
  le : j ≤ l.length
  len : L.length = l.length
  pre : L.take i = (l.take j).filter (fun x => !p x)
  post : L.drop j = l.drop j
theorem take_succ_get {l : List T} {j : Nat} (h : j < l.length) : l.take (j + 1) = l.take j ++ [l[j]] := by
  rw [List.take_succ, List.getElem?_eq_getElem h]; rfl
theorem del_start {p : T → Bool} {l : List T} {k : Nat} (h : l.findIdx? p = some k) : l.take k = (l.take (k + 1)).filter (fun x => !p x) := by
  obtain ⟨h1, h2, h3⟩ := List.findIdx?_eq_some_iff_getElem.1 h
  rw [take_succ_get h1, List.filter_append, List.filter_eq_self.2]
  · simp [h2]
  · intro x hx
    obtain ⟨j, hj, rfl⟩ := List.getElem_of_mem hx
    simp only [List.length_take] at hj
    rw [List.getElem_take]
    simpa using h3 j (by omega)
theorem del_get {l L : List T} {j : Nat} (h : L.drop j = l.drop j) (hj : j < l.length) : L[j]? = some l[j] := by
  have : (L.drop j)[0]? = (l.drop j)[0]? := by rw [h]
  simpa [hj] using this
theorem del_drop {p : T → Bool} {l L : List T} {i j : Nat} (h : DelInv p l i j L) (hj : j < l.length) (hp : p l[j] = true) : DelInv p l i (j + 1) L := by
  refine ⟨by have := h.lt; omega, hj, h.len, ?_, ?_⟩
  · rw [take_succ_get hj, List.filter_append, h.pre]; simp [hp]
  · have : (L.drop j).drop 1 = (l.drop j).drop 1 := by rw [h.post]
    simpa [List.drop_drop] using this
theorem del_keep {p : T → Bool} {l L : List T} {i j : Nat} (h : DelInv p l i j L) (hj : j < l.length) (hp : p l[j] = false) : DelInv p l (i + 1) (j + 1) (L.set i l[j]) := by
  have hlt := h.lt
  have hlen := h.len
  refine ⟨by omega, hj, by simp [h.len], ?_, ?_⟩
  · have hi : i < (L.set i l[j]).length := by simp; omega
    rw [take_succ_get hi, List.take_set_of_le (Nat.le_refl i), h.pre, take_succ_get hj, List.filter_append]
    simp [hp]
  · rw [List.drop_set_of_lt (by omega)]
    have : (L.drop j).drop 1 = (l.drop j).drop 1 := by rw [h.post]
    simpa [List.drop_drop] using this
theorem del_end {p : T → Bool} {l L : List T} {i j : Nat} (h : DelInv p l i j L) (hj : ¬ j < l.length) : (L.take (0 + i)).take (i - 0) = l.filter (fun x => !p x) := by
  have hle := h.le
  rw [Nat.zero_add, List.take_take, Nat.sub_zero, Nat.min_self, h.pre, List.take_of_length_le (by omega)]

end Go.Proofs.Ytnemmdbafngppaa.Abs
