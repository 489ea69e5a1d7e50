/- Parts of this proof, one after the other; each says what it proves. No condition. -/
import Derived.Test.YtnemmdbafngppaaMD
import Derived.Test.YtnemmdbafngppaaMC
import Derived.Test.YtnemmdbafngppaaME
/- Valid nets stay valid; plain Lean, no program in sight. No condition. -/
set_option linter.unusedVariables false
namespace Go.Proofs.Ytnemmdbafngppaa.Net

/-- A valid net, in words that are easy to use. -/
structure VN (n : Net) : Prop where
  nl : n.fl.length ≤ 200
  cl : n.cuts.length ≤ 200
  n1 : 1 ≤ n.next
  n2 : n.next ≤ 1000000000
  idl : ∀ i (h : i < n.fl.length), 1 ≤ n.fl[i].id ∧ n.fl[i].id < n.next
  pt : ∀ i (h : i < n.fl.length), parts n.fl[i].fr n.fl[i].to = true
  sp : SortP n
  pc : ∀ i (h : i < n.cuts.length), parts n.cuts[i].1 n.cuts[i].2 = true ∧ n.cuts[i].1 ≤ n.cuts[i].2
  sc : SortC n
open Go.Proofs.Ytnemmdbafngppaa.Abs in
/-- Three bytes. -/
def encB (x : Int × Int × Int) : T := .agg [.u8 x.1, .u8 x.2.1, .u8 x.2.2]
theorem take_snoc {α : Type} {l : List α} {j : Nat} (h : j < l.length) : l.take (j + 1) = l.take j ++ [l[j]] := by
  rw [List.take_add_one, List.getElem?_eq_getElem h]; rfl
theorem adj_sortP {n : Net} (h : ∀ i (h : i + 1 < n.fl.length), n.fl[i].id < n.fl[i + 1].id) : SortP n := by
  intro i j hi hj hij
  obtain ⟨d, rfl⟩ : ∃ d, j = i + 1 + d := ⟨j - i - 1, by omega⟩
  induction d with
  | zero => exact h i hj
  | succ d ih =>
    have h1 := ih (by omega) (by omega)
    have h2 := h (i + 1 + d) hj
    simp only [Nat.add_assoc] at h1 h2 ⊢
    omega
theorem adj_sortC {n : Net} (h : ∀ i (h : i + 1 < n.cuts.length), less n.cuts[i] n.cuts[i + 1] = true) : SortC n := by
  intro i j hi hj hij
  obtain ⟨d, rfl⟩ : ∃ d, j = i + 1 + d := ⟨j - i - 1, by omega⟩
  induction d with
  | zero => exact h i hj
  | succ d ih =>
    have h1 := ih (by omega) (by omega)
    have h2 := h (i + 1 + d) hj
    exact less_trans h1 h2
theorem valid_iff (n : Net) : valid n = true ↔ VN n := by
  constructor
  · intro h
    simp only [valid, Bool.and_eq_true, decide_eq_true_eq] at h
    obtain ⟨⟨⟨⟨⟨h1, h2⟩, h3⟩, h4⟩, h5⟩, h6⟩ := h
    have hp : ∀ i (hi : i < n.fl.length), 1 ≤ n.fl[i].id ∧ n.fl[i].id < n.next ∧ parts n.fl[i].fr n.fl[i].to = true ∧ (i = 0 ∨ (n.fl.getD (i - 1) p0).id < n.fl[i].id) := fun i hi => by
      have := h1 i hi
      unfold okP at this
      rw [getP hi] at this
      simp only [Bool.and_eq_true, Bool.or_eq_true, decide_eq_true_eq] at this
      exact ⟨this.1.1.1, this.1.1.2, this.1.2, this.2⟩
    have hc : ∀ i (hi : i < n.cuts.length), parts n.cuts[i].1 n.cuts[i].2 = true ∧ n.cuts[i].1 ≤ n.cuts[i].2 ∧ (i = 0 ∨ less (n.cuts.getD (i - 1) (0, 0)) n.cuts[i] = true) := fun i hi => by
      have := h2 i hi
      unfold okC at this
      rw [getC hi] at this
      simp only [Bool.and_eq_true, Bool.or_eq_true, decide_eq_true_eq] at this
      exact ⟨this.1.1, this.1.2, this.2⟩
    refine ⟨h3, h4, h5, h6, fun i hi => ⟨(hp i hi).1, (hp i hi).2.1⟩, fun i hi => (hp i hi).2.2.1, adj_sortP fun i hi => ?_, fun i hi => ⟨(hc i hi).1, (hc i hi).2.1⟩, adj_sortC fun i hi => ?_⟩
    · rcases (hp (i + 1) hi).2.2.2 with h | h
      · omega
      · rw [show i + 1 - 1 = i from rfl, getP (by omega)] at h; exact h
    · rcases (hc (i + 1) hi).2.2 with h | h
      · omega
      · rw [show i + 1 - 1 = i from rfl, getC (by omega)] at h; exact h
  · intro h
    simp only [valid, Bool.and_eq_true, decide_eq_true_eq]
    refine ⟨⟨⟨⟨⟨fun i hi => ?_, fun i hi => ?_⟩, h.nl⟩, h.cl⟩, h.n1⟩, h.n2⟩
    · unfold okP
      rw [getP hi]
      simp only [Bool.and_eq_true, Bool.or_eq_true, decide_eq_true_eq]
      refine ⟨⟨h.idl i hi, h.pt i hi⟩, ?_⟩
      rcases Nat.eq_zero_or_pos i with h0 | h0
      · exact .inl h0
      · right; rw [getP (by omega)]; exact h.sp _ _ _ _ (by omega)
    · unfold okC
      rw [getC hi]
      simp only [Bool.and_eq_true, Bool.or_eq_true, decide_eq_true_eq]
      refine ⟨h.pc i hi, ?_⟩
      rcases Nat.eq_zero_or_pos i with h0 | h0
      · exact .inl h0
      · right; rw [getC (by omega)]; exact h.sc _ _ _ _ (by omega)

/-- The number of the packet before the i-th, 0 if there is none. -/
def lastId (n : Net) (i : Nat) : Int := if i = 0 then 0 else (n.fl.getD (i - 1) p0).id
theorem okP_iff {n : Net} {i : Nat} (hi : i < n.fl.length) : okP n i = true ↔ 1 ≤ n.fl[i].id ∧ n.fl[i].id < n.next ∧ parts n.fl[i].fr n.fl[i].to = true ∧ (i = 0 ∨ lastId n i < n.fl[i].id) := by
  unfold okP lastId
  rw [getP hi]
  simp only [Bool.and_eq_true, Bool.or_eq_true, decide_eq_true_eq]
  by_cases h : i = 0 <;> simp [h, and_assoc]
theorem lastId_nonneg {n : Net} {i : Nat} (hi : i ≤ n.fl.length) (h : ∀ j, j < i → okP n j = true) : 0 ≤ lastId n i := by
  unfold lastId
  split
  · omega
  · have h1 := (okP_iff (n := n) (i := i - 1) (by omega)).1 (h _ (by omega))
    rw [getP (by omega)]; omega
theorem okP_alt {n : Net} {i : Nat} (hi : i < n.fl.length) (h : ∀ j, j < i → okP n j = true) : okP n i = true ↔ lastId n i < n.fl[i].id ∧ n.fl[i].id < n.next ∧ parts n.fl[i].fr n.fl[i].to = true := by
  rw [okP_iff hi]
  have h0 := lastId_nonneg (by omega) h
  constructor
  · rintro ⟨h1, h2, h3, h4⟩
    refine ⟨?_, h2, h3⟩
    rcases h4 with h4 | h4
    · subst h4; simp [lastId]; omega
    · exact h4
  · rintro ⟨h1, h2, h3⟩
    exact ⟨by omega, h2, h3, .inr h1⟩
theorem okC_iff {n : Net} {i : Nat} (hi : i < n.cuts.length) : okC n i = true ↔ parts n.cuts[i].1 n.cuts[i].2 = true ∧ n.cuts[i] = pr n.cuts[i].1 n.cuts[i].2 ∧ (i = 0 ∨ less (n.cuts.getD (i - 1) (0, 0)) n.cuts[i] = true) := by
  unfold okC
  rw [getC hi]
  simp only [Bool.and_eq_true, Bool.or_eq_true, decide_eq_true_eq, pr, Prod.ext_iff]
  constructor
  · rintro ⟨⟨h1, h2⟩, h3⟩; exact ⟨h1, ⟨by omega, by omega⟩, h3⟩
  · rintro ⟨h1, ⟨h2, h4⟩, h3⟩; exact ⟨⟨h1, by omega⟩, h3⟩

end Go.Proofs.Ytnemmdbafngppaa.Net

/- Operations keep nets valid; plain Lean. No condition. -/
set_option linter.unusedVariables false
namespace Go.Proofs.Ytnemmdbafngppaa.Net

theorem VN.made0 : VN ⟨[], [], 1⟩ := by
  refine ⟨by simp, by simp, by simp, by simp, fun i h => by simp at h, fun i h => by simp at h, fun i j h => by simp at h, fun i h => by simp at h, fun i j h => by simp at h⟩
theorem VN.send {n : Net} (h : VN n) (a b : Int) : VN (send n a b).n := by
  unfold Net.send
  split
  · rename_i hp
    split
    · exact h
    · rename_i hb
      have hnl := h.nl
      have hn2 := h.n2
      have hn1 := h.n1
      have hg : ∀ i (hi : i < (n.fl ++ [(⟨n.next, a, b⟩ : Pk)]).length), (∃ hj : i < n.fl.length, (n.fl ++ [(⟨n.next, a, b⟩ : Pk)])[i] = n.fl[i]) ∨ (i = n.fl.length ∧ (n.fl ++ [(⟨n.next, a, b⟩ : Pk)])[i] = (⟨n.next, a, b⟩ : Pk)) := by
        intro i hi
        by_cases hj : i < n.fl.length
        · exact .inl ⟨hj, List.getElem_append_left hj⟩
        · right
          have : i = n.fl.length := by simp at hi; omega
          subst this
          exact ⟨rfl, by simp⟩
      refine ⟨by simp; omega, h.cl, by show 1 ≤ n.next + 1; omega, by show n.next + 1 ≤ _; omega, fun i hi => ?_, fun i hi => ?_, fun i j hi hj hij => ?_, h.pc, h.sc⟩
      · rcases hg i hi with ⟨hj, e⟩ | ⟨_, e⟩
        · show 1 ≤ ((n.fl ++ [(⟨n.next, a, b⟩ : Pk)])[i]).id ∧ ((n.fl ++ [(⟨n.next, a, b⟩ : Pk)])[i]).id < n.next + 1
          rw [e]; have := h.idl i hj; omega
        · show 1 ≤ ((n.fl ++ [(⟨n.next, a, b⟩ : Pk)])[i]).id ∧ ((n.fl ++ [(⟨n.next, a, b⟩ : Pk)])[i]).id < n.next + 1
          rw [e]; simp only; omega
      · rcases hg i hi with ⟨hj, e⟩ | ⟨_, e⟩
        · show parts ((n.fl ++ [(⟨n.next, a, b⟩ : Pk)])[i]).fr ((n.fl ++ [(⟨n.next, a, b⟩ : Pk)])[i]).to = true
          rw [e]; exact h.pt i hj
        · show parts ((n.fl ++ [(⟨n.next, a, b⟩ : Pk)])[i]).fr ((n.fl ++ [(⟨n.next, a, b⟩ : Pk)])[i]).to = true
          rw [e]; exact hp
      · show ((n.fl ++ [(⟨n.next, a, b⟩ : Pk)])[i]).id < ((n.fl ++ [(⟨n.next, a, b⟩ : Pk)])[j]).id
        rcases hg i hi with ⟨hi', e⟩ | ⟨hi', e⟩ <;> rcases hg j hj with ⟨hj', e'⟩ | ⟨hj', e'⟩
        · rw [e, e']; exact h.sp i j hi' hj' hij
        · rw [e, e']; exact (h.idl i hi').2
        · omega
        · omega
  · exact h
theorem erase_get {α : Type} {l : List α} {k : Nat} (hk : k < l.length) : ∀ i (hi : i < (l.take k ++ l.drop (k + 1)).length), ∃ j, ∃ hj : j < l.length, (l.take k ++ l.drop (k + 1))[i] = l[j] ∧ j = (if i < k then i else i + 1) := by
  intro i hi
  have hl : (l.take k).length = k := by simp; omega
  have hlen : (l.take k ++ l.drop (k + 1)).length = l.length - 1 := by simp; omega
  by_cases h : i < k
  · refine ⟨i, by omega, ?_, by rw [if_pos h]⟩
    rw [List.getElem_append_left (by omega), List.getElem_take]
  · refine ⟨i + 1, by omega, ?_, by rw [if_neg h]⟩
    rw [List.getElem_append_right (by omega), List.getElem_drop]
    congr 1; omega
theorem VN.without {n : Net} (h : VN n) {k : Nat} (hk : k < n.fl.length) : VN (without n k) := by
  have hg := erase_get hk
  have hlen : (n.fl.take k ++ n.fl.drop (k + 1)).length = n.fl.length - 1 := by simp; omega
  have hnl := h.nl
  refine ⟨by show (n.fl.take k ++ n.fl.drop (k + 1)).length ≤ 200; omega, h.cl, h.n1, h.n2, fun i hi => ?_, fun i hi => ?_, fun i j hi hj hij => ?_, h.pc, h.sc⟩
  · obtain ⟨q, hq, e, _⟩ := hg i hi
    show 1 ≤ ((n.fl.take k ++ n.fl.drop (k + 1))[i]).id ∧ ((n.fl.take k ++ n.fl.drop (k + 1))[i]).id < n.next
    rw [e]; exact h.idl q hq
  · obtain ⟨q, hq, e, _⟩ := hg i hi
    show parts ((n.fl.take k ++ n.fl.drop (k + 1))[i]).fr ((n.fl.take k ++ n.fl.drop (k + 1))[i]).to = true
    rw [e]; exact h.pt q hq
  · obtain ⟨q, hq, e, eq⟩ := hg i hi
    obtain ⟨r, hr, e', er⟩ := hg j hj
    show ((n.fl.take k ++ n.fl.drop (k + 1))[i]).id < ((n.fl.take k ++ n.fl.drop (k + 1))[j]).id
    rw [e, e']
    refine h.sp q r hq hr ?_
    subst eq; subst er
    split <;> split <;> omega

end Go.Proofs.Ytnemmdbafngppaa.Net

/- Operations keep nets valid, part 2; plain Lean. No condition. -/
set_option linter.unusedVariables false
namespace Go.Proofs.Ytnemmdbafngppaa.Net

theorem find_lt {n : Net} {id : Int} {i : Nat} (h : findIx n id = some i) : i < n.fl.length := (List.findIdx?_eq_some_iff_getElem.1 h).1
theorem cut_lt {n : Net} {a b : Int} {i : Nat} (h : cutIx n a b = some i) : i < n.cuts.length := (List.findIdx?_eq_some_iff_getElem.1 h).1
theorem VN.lose {n : Net} (h : VN n) (id : Int) : VN (lose n id).n := by
  unfold Net.lose
  cases hf : findIx n id with
  | none => exact h
  | some i => exact h.without (find_lt hf)
theorem VN.take {n : Net} (h : VN n) (id : Int) : VN (take n id).n := by
  unfold Net.take
  cases hf : findIx n id with
  | none => exact h
  | some i =>
    simp only
    split
    · exact h.without (find_lt hf)
    · exact h
theorem VN.double {n : Net} (h : VN n) (id : Int) : VN (double n id).n := by
  unfold Net.double
  cases hf : findIx n id with
  | none => exact h
  | some i => exact h.send _ _
theorem VN.heal {n : Net} (h : VN n) (a b : Int) : VN (heal n a b).n := by
  unfold Net.heal
  split
  · cases hf : cutIx n a b with
    | none => exact h
    | some k =>
      have hk := cut_lt hf
      have hg := erase_get hk
      have hcl := h.cl
      have hlen : (n.cuts.take k ++ n.cuts.drop (k + 1)).length = n.cuts.length - 1 := by simp; omega
      refine ⟨h.nl, by show (n.cuts.take k ++ n.cuts.drop (k + 1)).length ≤ 200; omega, h.n1, h.n2, h.idl, h.pt, h.sp, fun i hi => ?_, fun i j hi hj hij => ?_⟩
      · obtain ⟨q, hq, e, _⟩ := hg i hi
        show parts ((n.cuts.take k ++ n.cuts.drop (k + 1))[i]).1 ((n.cuts.take k ++ n.cuts.drop (k + 1))[i]).2 = true ∧ ((n.cuts.take k ++ n.cuts.drop (k + 1))[i]).1 ≤ ((n.cuts.take k ++ n.cuts.drop (k + 1))[i]).2
        rw [e]; exact h.pc q hq
      · obtain ⟨q, hq, e, eq⟩ := hg i hi
        obtain ⟨r, hr, e', er⟩ := hg j hj
        show less ((n.cuts.take k ++ n.cuts.drop (k + 1))[i]) ((n.cuts.take k ++ n.cuts.drop (k + 1))[j]) = true
        rw [e, e']
        refine h.sc q r hq hr ?_
        subst eq; subst er
        split <;> split <;> omega
  · exact h

end Go.Proofs.Ytnemmdbafngppaa.Net

/- Operations keep nets valid, part 3: severing, steps; plain Lean. No condition. -/
set_option linter.unusedVariables false
namespace Go.Proofs.Ytnemmdbafngppaa.Net

theorem ins_cases {α : Type} {l : List α} {k : Nat} {x : α} (hk : k ≤ l.length) : ∀ i (hi : i < (l.take k ++ x :: l.drop k).length),
    (∃ hj : i < l.length, i < k ∧ (l.take k ++ x :: l.drop k)[i] = l[i]) ∨ (i = k ∧ (l.take k ++ x :: l.drop k)[i] = x) ∨ (∃ hj : i - 1 < l.length, k < i ∧ (l.take k ++ x :: l.drop k)[i] = l[i - 1]) := by
  intro i hi
  have hl : (l.take k).length = k := by simp; omega
  by_cases h : i < k
  · left
    refine ⟨by omega, h, ?_⟩
    rw [List.getElem_append_left (by omega), List.getElem_take]
  · right
    by_cases h2 : i = k
    · left; subst h2
      refine ⟨rfl, ?_⟩
      rw [List.getElem_append_right (by omega)]
      simp [hl]
    · right
      have hlen : (l.take k ++ x :: l.drop k).length = l.length + 1 := by simp; omega
      refine ⟨by omega, by omega, ?_⟩
      rw [List.getElem_append_right (by omega)]
      obtain ⟨d, hd⟩ : ∃ d, i - (l.take k).length = d + 1 := ⟨i - k - 1, by omega⟩
      simp only [hd, List.getElem_cons_succ, List.getElem_drop]
      congr 1; omega
theorem VN.sever {n : Net} (h : VN n) (a b : Int) : VN (sever n a b).n := by
  unfold Net.sever
  split
  · rename_i hp
    split
    · rename_i hr
      split
      · exact h
      · rename_i hb
        obtain ⟨k, h1, h2, h3⟩ := cut_k h.sc a b
        have hx := insAt_k h1 h2
        rw [hx]
        have hcl := h.cl
        have hlen : (n.cuts.take k ++ pr a b :: n.cuts.drop k).length = n.cuts.length + 1 := by simp; omega
        have hg := ins_cases (x := pr a b) h1
        have hpr : parts (pr a b).1 (pr a b).2 = true ∧ (pr a b).1 ≤ (pr a b).2 := by
          simp only [parts, part, Bool.and_eq_true, decide_eq_true_eq] at hp ⊢
          have e1 : (pr a b).1 = min a b := rfl
          have e2 : (pr a b).2 = max a b := rfl
          rw [e1, e2]
          have h1 : (min a b = a ∧ max a b = b) ∨ (min a b = b ∧ max a b = a) := by omega
          rcases h1 with ⟨m1, m2⟩ | ⟨m1, m2⟩ <;> rw [m1, m2] <;> refine ⟨⟨⟨⟨?_, ?_⟩, ?_, ?_⟩, ?_⟩, ?_⟩ <;> omega
        have hno : ∀ i (hi : i < n.cuts.length), n.cuts[i] ≠ pr a b := by
          intro i hi he
          unfold reach at hr
          cases hf : cutIx n a b with
          | none =>
            unfold cutIx at hf
            rw [List.findIdx?_eq_none_iff] at hf
            have := hf _ (List.getElem_mem hi)
            simp [he] at this
          | some q => rw [hf] at hr; simp at hr
        have hlo : ∀ i (hi : i < n.cuts.length), i < k → less n.cuts[i] (pr a b) = true := fun i hi hik => (order_neg _ _).1 ((h2 i hi).2 hik)
        have hhi : ∀ i (hi : i < n.cuts.length), k ≤ i → less (pr a b) n.cuts[i] = true := fun i hi hik => by
          refine less_total (hno i hi) ?_
          cases hb : less n.cuts[i] (pr a b) with
          | false => rfl
          | true => have := (h2 i hi).1 ((order_neg _ _).2 hb); omega
        refine ⟨h.nl, by show (n.cuts.take k ++ pr a b :: n.cuts.drop k).length ≤ 200; omega, h.n1, h.n2, h.idl, h.pt, h.sp, fun i hi => ?_, fun i j hi hj hij => ?_⟩
        · show parts ((n.cuts.take k ++ pr a b :: n.cuts.drop k)[i]).1 ((n.cuts.take k ++ pr a b :: n.cuts.drop k)[i]).2 = true ∧ ((n.cuts.take k ++ pr a b :: n.cuts.drop k)[i]).1 ≤ ((n.cuts.take k ++ pr a b :: n.cuts.drop k)[i]).2
          rcases hg i hi with ⟨q, _, e⟩ | ⟨_, e⟩ | ⟨q, _, e⟩ <;> rw [e]
          · exact h.pc _ q
          · exact hpr
          · exact h.pc _ q
        · show less ((n.cuts.take k ++ pr a b :: n.cuts.drop k)[i]) ((n.cuts.take k ++ pr a b :: n.cuts.drop k)[j]) = true
          rcases hg i hi with ⟨q, hq, e⟩ | ⟨hq, e⟩ | ⟨q, hq, e⟩ <;> rcases hg j hj with ⟨r, hr', e'⟩ | ⟨hr', e'⟩ | ⟨r, hr', e'⟩ <;> rw [e, e']
          · exact h.sc _ _ q r hij
          · exact hlo _ q hq
          · exact h.sc _ _ q r (by omega)
          · omega
          · omega
          · exact hhi _ r (by omega)
          · omega
          · omega
          · exact h.sc _ _ q r (by omega)
    · exact h
  · exact h
theorem VN.doneN {n : Net} (h : VN n) (w a b : Int) : VN (doneN n w a b).n := by
  unfold Net.doneN
  split
  · exact h.lose a
  · split
    · exact h.double a
    · split
      · exact h.sever a b
      · exact h.heal a b
theorem VN.step {n : Net} (h : VN n) (x : Int × Int × Int) : VN (step n x) := by
  unfold Net.step
  simp only
  split
  · exact h.send _ _
  · split
    · exact h.take _
    · split
      · exact h.lose _
      · split
        · exact h.double _
        · split
          · exact h.sever _ _
          · exact h.heal _ _
theorem VN.steps {n : Net} (h : VN n) : ∀ l : List (Int × Int × Int), VN (l.foldl Net.step n)
  | [] => h
  | x :: r => VN.steps (h.step x) r
theorem VN.made (l : List (Int × Int × Int)) : VN (made l) := VN.made0.steps _

end Go.Proofs.Ytnemmdbafngppaa.Net

/- What the laws on nets need of sending, taking, severing and healing; plain Lean. No condition. -/
set_option linter.unusedVariables false
set_option linter.unusedSimpArgs false
namespace Go.Proofs.Ytnemmdbafngppaa.Net

theorem find_at {n : Net} (h : SortP n) {k : Nat} (hk : k < n.fl.length) : findIx n n.fl[k].id = some k :=
  ix_found hk (by simp) (fun j hj hjk => by have := h j k hj hk hjk; simp; omega)
theorem find_gone {n : Net} (h : SortP n) {k : Nat} (hk : k < n.fl.length) : findIx (without n k) n.fl[k].id = none :=
  ix_none (fun j hj => by
    obtain ⟨q, hq, e, eq⟩ := erase_get hk j hj
    show decide (((n.fl.take k ++ n.fl.drop (k + 1))[j]).id = n.fl[k].id) = false
    rw [e]
    have hne : q ≠ k := by subst eq; split <;> omega
    rcases Nat.lt_or_gt_of_ne hne with h1 | h1
    · have := h q k hq hk h1; simp; omega
    · have := h k q hk hq h1; simp; omega)
theorem take_at {n : Net} (h : SortP n) {k : Nat} (hk : k < n.fl.length) (hr : reach n n.fl[k].fr n.fl[k].to = true) : take n n.fl[k].id = ⟨without n k, n.fl[k], 0⟩ := by
  unfold take; rw [find_at h hk]; simp only [getP hk]; rw [if_pos hr]
theorem take_cut {n : Net} (h : SortP n) {k : Nat} (hk : k < n.fl.length) (hr : reach n n.fl[k].fr n.fl[k].to = false) : take n n.fl[k].id = ⟨n, p0, 320⟩ := by
  unfold take; rw [find_at h hk]; simp only [getP hk]; rw [if_neg (by simp [hr])]
theorem take_none {n : Net} {id : Int} (h : findIx n id = none) : take n id = ⟨n, p0, 90⟩ := by unfold take; rw [h]
theorem lose_none {n : Net} {id : Int} (h : findIx n id = none) : lose n id = ⟨n, p0, 90⟩ := by unfold lose; rw [h]
theorem double_none {n : Net} {id : Int} (h : findIx n id = none) : double n id = ⟨n, p0, 90⟩ := by unfold double; rw [h]
theorem lose_at {n : Net} (h : SortP n) {k : Nat} (hk : k < n.fl.length) : lose n n.fl[k].id = ⟨without n k, p0, 0⟩ := by
  unfold lose; rw [find_at h hk]
theorem without_len {n : Net} {k : Nat} (hk : k < n.fl.length) : (without n k).fl.length = n.fl.length - 1 := by
  show (n.fl.take k ++ n.fl.drop (k + 1)).length = _
  simp; omega
theorem reach_iff {n : Net} {a b : Int} : reach n a b = true ↔ ∀ c ∈ n.cuts, c ≠ pr a b := by
  unfold reach cutIx
  rw [Option.isNone_iff_eq_none, List.findIdx?_eq_none_iff]
  constructor
  · intro h c hc; simpa using h c hc
  · intro h c hc; simpa using h c hc
theorem reach_not {n : Net} {a b : Int} : reach n a b = false ↔ pr a b ∈ n.cuts := by
  rw [Bool.eq_false_iff, ne_eq, reach_iff]
  constructor
  · intro h
    have := Classical.byContradiction (p := pr a b ∈ n.cuts) fun hn => h fun c hc he => hn (he ▸ hc)
    exact this
  · intro h hn; exact hn _ h rfl
theorem reach_eq {n m : Net} {a b : Int} (h : pr a b ∈ n.cuts ↔ pr a b ∈ m.cuts) : reach n a b = reach m a b := by
  cases h1 : reach m a b with
  | false => rw [reach_not] at h1 ⊢; exact h.2 h1
  | true =>
    cases h2 : reach n a b with
    | true => rfl
    | false => rw [reach_not] at h2; rw [reach_iff] at h1; exact absurd rfl (h1 _ (h.1 h2))
theorem reach_nil {n : Net} (h : n.cuts = []) (a b : Int) : reach n a b = true := by rw [reach_iff, h]; intro c hc; cases hc
theorem pr_comm (a b : Int) : pr b a = pr a b := by unfold pr; rw [Prod.ext_iff]; simp only; omega
theorem pr_eq {a b c d : Int} : pr a b = pr c d ↔ (a = c ∧ b = d) ∨ (a = d ∧ b = c) := by unfold pr; rw [Prod.ext_iff]; simp only; omega
theorem parts_comm (a b : Int) : parts b a = parts a b := by
  rw [Bool.eq_iff_iff]; simp only [parts, part, Bool.and_eq_true, decide_eq_true_eq, ne_eq]; omega
theorem reach_comm (n : Net) (a b : Int) : reach n b a = reach n a b := by rw [Bool.eq_iff_iff, reach_iff, reach_iff, pr_comm]
theorem reach_self {n : Net} (h : VN n) (a : Int) : reach n a a = true := by
  rw [reach_iff]
  intro c hc he
  obtain ⟨i, hi, rfl⟩ := List.getElem_of_mem hc
  have := (h.pc i hi).1
  rw [he] at this
  simp [parts, pr] at this
theorem sever_facts {n : Net} (h : VN n) {a b : Int} (hp : parts a b = true) (hl : n.cuts.length < 200) :
    (sever n a b).e = 0 ∧ (sever n a b).p = p0 ∧ (sever n a b).n.fl = n.fl ∧ (sever n a b).n.next = n.next ∧ (∀ c, c ∈ (sever n a b).n.cuts ↔ c ∈ n.cuts ∨ c = pr a b) ∧
      (sever n a b).n.cuts.filter (fun c => !decide (c = pr a b)) = n.cuts.filter (fun c => !decide (c = pr a b)) := by
  unfold sever
  rw [if_pos hp]
  cases hr : reach n a b with
  | false =>
    rw [if_neg (by simp)]
    refine ⟨rfl, rfl, rfl, rfl, fun c => ⟨.inl, fun hc => ?_⟩, rfl⟩
    rcases hc with hc | rfl
    · exact hc
    · exact reach_not.1 hr
  | true =>
    rw [if_pos rfl, if_neg (by omega)]
    refine ⟨rfl, rfl, rfl, rfl, fun c => ?_, ?_⟩
    · simp only [List.mem_append, List.mem_cons]
      conv => rhs; rw [← List.take_append_drop (insAt n.cuts (pr a b)) n.cuts]
      simp only [List.mem_append]
      constructor
      · rintro (h | h | h) <;> simp_all
      · rintro ((h | h) | h) <;> simp_all
    · simp only [List.filter_append]
      rw [List.filter_cons_of_neg (by simp), ← List.filter_append, List.take_append_drop]
theorem heal_facts {n : Net} (h : VN n) {a b : Int} (hp : parts a b = true) :
    (heal n a b).e = 0 ∧ (heal n a b).p = p0 ∧ (heal n a b).n.fl = n.fl ∧ (heal n a b).n.next = n.next ∧ (∀ c, c ∈ (heal n a b).n.cuts ↔ c ∈ n.cuts ∧ c ≠ pr a b) := by
  rw [heal_filter hp h.sc]
  refine ⟨rfl, rfl, rfl, rfl, fun c => ?_⟩
  simp [List.mem_filter]
theorem sever_again {n : Net} {a b : Int} (hp : parts a b = true) (hr : pr a b ∈ n.cuts) : sever n b a = ⟨n, p0, 0⟩ := by
  unfold sever
  rw [if_pos (by rw [parts_comm]; exact hp), if_neg]
  rw [reach_comm, Bool.not_eq_true, reach_not]; exact hr
theorem heal_sever {n : Net} (h : VN n) {a b : Int} (hp : parts a b = true) (hl : n.cuts.length < 200) : (heal (sever n a b).n a b).n = (heal n b a).n := by
  have hs := sever_facts h hp hl
  rw [heal_filter hp (h.sever a b).sc, heal_filter (by rw [parts_comm]; exact hp) h.sc, pr_comm a b]
  simp only [hs.2.2.1, hs.2.2.2.1, hs.2.2.2.2.2]

/-! ### Counting -/
theorem send_cases (n : Net) (a b : Int) : ((send n a b).e = 0 ∧ (send n a b).n.fl = n.fl ++ [⟨n.next, a, b⟩] ∧ (send n a b).n.next = n.next + 1 ∧ (send n a b).n.cuts = n.cuts ∧ (send n a b).id = n.next) ∨ ((send n a b).e ≠ 0 ∧ (send n a b).n = n) := by
  unfold send
  split
  · split
    · exact .inr ⟨by simp, rfl⟩
    · exact .inl ⟨rfl, rfl, rfl, rfl, rfl⟩
  · exact .inr ⟨by simp, rfl⟩
theorem take_cases (n : Net) (id : Int) : ((take n id).e = 0 ∧ ∃ k, k < n.fl.length ∧ (take n id).n = without n k) ∨ ((take n id).e ≠ 0 ∧ (take n id).n = n) := by
  unfold take
  cases hf : findIx n id with
  | none => exact .inr ⟨by simp, rfl⟩
  | some i =>
    simp only
    split
    · exact .inl ⟨rfl, i, find_lt hf, rfl⟩
    · exact .inr ⟨by simp, rfl⟩
theorem lose_cases (n : Net) (id : Int) : ((lose n id).e = 0 ∧ ∃ k, k < n.fl.length ∧ (lose n id).n = without n k) ∨ ((lose n id).e ≠ 0 ∧ (lose n id).n = n) := by
  unfold lose
  cases hf : findIx n id with
  | none => exact .inr ⟨by simp, rfl⟩
  | some i => exact .inl ⟨rfl, i, find_lt hf, rfl⟩
theorem double_cases (n : Net) (id : Int) : ((double n id).e = 0 ∧ (double n id).n.fl.length = n.fl.length + 1 ∧ (double n id).n.next = n.next + 1) ∨ ((double n id).e ≠ 0 ∧ (double n id).n = n) := by
  unfold double
  cases hf : findIx n id with
  | none => exact .inr ⟨by simp, rfl⟩
  | some i =>
    rcases send_cases n (n.fl.getD i p0).fr (n.fl.getD i p0).to with ⟨h1, h2, h3, _⟩ | ⟨h1, h2⟩
    · exact .inl ⟨h1, by simp only [h2]; simp, h3⟩
    · exact .inr ⟨h1, h2⟩
theorem sever_cases (n : Net) (a b : Int) : (sever n a b).n.fl = n.fl ∧ (sever n a b).n.next = n.next ∧ ((sever n a b).e ≠ 0 → (sever n a b).n = n) ∧ (sever n a b).n.cuts.length ≤ n.cuts.length + 1 := by
  unfold sever
  split
  · split
    · split
      · exact ⟨rfl, rfl, fun _ => rfl, by simp⟩
      · refine ⟨rfl, rfl, fun h => absurd rfl h, ?_⟩
        simp; omega
    · exact ⟨rfl, rfl, fun _ => rfl, by simp⟩
  · exact ⟨rfl, rfl, fun _ => rfl, by simp⟩
theorem heal_cases (n : Net) (a b : Int) : (heal n a b).n.fl = n.fl ∧ (heal n a b).n.next = n.next ∧ ((heal n a b).e ≠ 0 → (heal n a b).n = n) ∧ (heal n a b).n.cuts.length ≤ n.cuts.length := by
  unfold heal
  split
  · cases hf : cutIx n a b with
    | none => exact ⟨rfl, rfl, fun _ => rfl, by simp⟩
    | some k => refine ⟨rfl, rfl, fun h => absurd rfl h, ?_⟩; simp; omega
  · exact ⟨rfl, rfl, fun _ => rfl, by simp⟩
theorem step_facts (n : Net) (x : Int × Int × Int) : n.next ≤ (step n x).next ∧ (step n x).next ≤ n.next + 1 ∧ (step n x).cuts.length ≤ n.cuts.length + 1 := by
  have hw : ∀ k, (without n k).next = n.next ∧ (without n k).cuts = n.cuts := fun k => ⟨rfl, rfl⟩
  unfold step
  simp only
  split
  · rcases send_cases n (x.2.1 % 5) (x.2.2 % 5) with ⟨h1, h2, h3, h4, _⟩ | ⟨h1, h2⟩
    · rw [h3, h4]; omega
    · rw [h2]; omega
  · split
    · rcases take_cases n (x.2.1 % 16) with ⟨h1, k, h2, h3⟩ | ⟨h1, h2⟩
      · rw [h3, (hw k).1, (hw k).2]; omega
      · rw [h2]; omega
    · split
      · rcases lose_cases n (x.2.1 % 16) with ⟨h1, k, h2, h3⟩ | ⟨h1, h2⟩
        · rw [h3, (hw k).1, (hw k).2]; omega
        · rw [h2]; omega
      · split
        · have hc : (double n (x.2.1 % 16)).n.cuts = n.cuts := by
            unfold double
            cases findIx n (x.2.1 % 16) with
            | none => rfl
            | some i =>
              rcases send_cases n (n.fl.getD i p0).fr (n.fl.getD i p0).to with ⟨_, _, _, h4, _⟩ | ⟨_, h2⟩
              · exact h4
              · simp only [h2]
          rw [hc]
          rcases double_cases n (x.2.1 % 16) with ⟨h1, h2, h3⟩ | ⟨h1, h2⟩
          · rw [h3]; omega
          · rw [h2]; omega
        · split
          · have := sever_cases n (x.2.1 % 5) (x.2.2 % 5); rw [this.2.1]; omega
          · have := heal_cases n (x.2.1 % 5) (x.2.2 % 5); rw [this.2.1]; omega
theorem steps_facts (l : List (Int × Int × Int)) : ∀ n : Net, n.next ≤ (l.foldl step n).next ∧ (l.foldl step n).next ≤ n.next + l.length ∧ (l.foldl step n).cuts.length ≤ n.cuts.length + l.length := by
  induction l with
  | nil => intro n; simp
  | cons x r ih =>
    intro n
    have h1 := ih (step n x)
    have h2 := step_facts n x
    simp only [List.foldl_cons, List.length_cons]
    omega
theorem made_facts (l : List (Int × Int × Int)) : (made l).next ≤ 21 ∧ (made l).cuts.length ≤ 20 := by
  have h := steps_facts (l.take 20) ⟨[], [], 1⟩
  have h2 : (l.take 20).length ≤ 20 := by simp; omega
  unfold made
  simp only [List.length_nil] at h
  omega
theorem VN.valid {n : Net} (h : VN n) : valid n = true := (valid_iff n).2 h
end Go.Proofs.Ytnemmdbafngppaa.Net

/- What the arguments of the laws on nets look like. No condition. -/
set_option linter.unusedVariables false
namespace Go.Proofs.Ytnemmdbafngppaa.Net
open Go.Proofs.Ytnemmdbafngppaa.Abs Go.RowKit

def inB (m : Int) : Prop := 0 ≤ m ∧ m ≤ 255
def inI (m : Int) : Prop := -9223372036854775808 ≤ m ∧ m ≤ 9223372036854775807
theorem minB : IntKind.u8.min = 0 := rfl
theorem maxB : IntKind.u8.max = 255 := rfl
theorem minI : IntKind.i64.min = -9223372036854775808 := rfl
theorem maxI : IntKind.i64.max = 9223372036854775807 := rfl
def encB2 (x : Int × Int) : T := .agg [.u8 x.1, .u8 x.2]
def encB1 (x : Int) : T := .u8 x
/-- A slice of arrays of three bytes. -/
theorem fitB3 {t e : TypeId} {x : T} (f : Fits Try.prog t x.cells) (a : (∃ l, x = .agg l) ↔ (partsOf Try.prog t).isSome = true) (ht : Try.prog.underlying t = some (.slice e)) (hb : flatB Try.prog e .u8 3 = true) (hc : Try.prog.cellsOf e = 3) :
    ∃ l : List (Int × Int × Int), x = .slice 3 (l.map encB) ∧ l.length ≤ maxLen ∧ ∀ y ∈ l, (0 ≤ y.1 ∧ y.1 ≤ 255) ∧ (0 ≤ y.2.1 ∧ y.2.1 ≤ 255) ∧ (0 ≤ y.2.2 ∧ y.2.2 ≤ 255) := by
  obtain ⟨xs, rfl, hl, h1, h2⟩ := sliceV f a ht
  rw [hc]
  have each : ∀ y ∈ xs, ∃ m : {m : Int × Int × Int // (0 ≤ m.1 ∧ m.1 ≤ 255) ∧ (0 ≤ m.2.1 ∧ m.2.1 ≤ 255) ∧ (0 ≤ m.2.2 ∧ m.2.2 ≤ 255)}, y = encB m.1 := by
    intro y hy
    obtain ⟨ns, g1, rfl, g3⟩ := flatV (h1 y hy) (h2 y hy) hb
    obtain ⟨p, q, r, rfl⟩ := list_three g1
    have b1 := g3 p (by simp); have b2 := g3 q (by simp); have b3 := g3 r (by simp)
    exact ⟨⟨(p, q, r), b1, b2, b3⟩, rfl⟩
  obtain ⟨m, rfl⟩ := list_map (f := fun m : {m : Int × Int × Int // (0 ≤ m.1 ∧ m.1 ≤ 255) ∧ (0 ≤ m.2.1 ∧ m.2.1 ≤ 255) ∧ (0 ≤ m.2.2 ∧ m.2.2 ≤ 255)} => encB m.1) each
  refine ⟨m.map (·.1), by simp [Function.comp_def], by simpa using hl, fun y hy => ?_⟩
  obtain ⟨q, _, rfl⟩ := List.mem_map.1 hy
  exact q.2
theorem fitB2 {t e : TypeId} {x : T} (f : Fits Try.prog t x.cells) (a : (∃ l, x = .agg l) ↔ (partsOf Try.prog t).isSome = true) (ht : Try.prog.underlying t = some (.slice e)) (hb : flatB Try.prog e .u8 2 = true) (hc : Try.prog.cellsOf e = 2) :
    ∃ l : List (Int × Int), x = .slice 2 (l.map encB2) ∧ l.length ≤ maxLen ∧ ∀ y ∈ l, (0 ≤ y.1 ∧ y.1 ≤ 255) ∧ (0 ≤ y.2 ∧ y.2 ≤ 255) := by
  obtain ⟨xs, rfl, hl, h1, h2⟩ := sliceV f a ht
  rw [hc]
  have each : ∀ y ∈ xs, ∃ m : {m : Int × Int // (0 ≤ m.1 ∧ m.1 ≤ 255) ∧ (0 ≤ m.2 ∧ m.2 ≤ 255)}, y = encB2 m.1 := by
    intro y hy
    obtain ⟨ns, g1, rfl, g3⟩ := flatV (h1 y hy) (h2 y hy) hb
    obtain ⟨p, q, rfl⟩ := list_two g1
    have b1 := g3 p (by simp); have b2 := g3 q (by simp)
    exact ⟨⟨(p, q), b1, b2⟩, rfl⟩
  obtain ⟨m, rfl⟩ := list_map (f := fun m : {m : Int × Int // (0 ≤ m.1 ∧ m.1 ≤ 255) ∧ (0 ≤ m.2 ∧ m.2 ≤ 255)} => encB2 m.1) each
  refine ⟨m.map (·.1), by simp [Function.comp_def], by simpa using hl, fun y hy => ?_⟩
  obtain ⟨q, _, rfl⟩ := List.mem_map.1 hy
  exact q.2
/-- A slice of bytes. -/
theorem fitB1 {t e : TypeId} {x : T} (f : Fits Try.prog t x.cells) (a : (∃ l, x = .agg l) ↔ (partsOf Try.prog t).isSome = true) (ht : Try.prog.underlying t = some (.slice e)) (he : Try.prog.underlying e = some (.int .u8)) (hc : Try.prog.cellsOf e = 1) :
    ∃ l : List Int, x = .slice 1 (l.map encB1) ∧ l.length ≤ maxLen ∧ ∀ y ∈ l, 0 ≤ y ∧ y ≤ 255 := by
  obtain ⟨xs, rfl, hl, h1, h2⟩ := sliceV f a ht
  rw [hc]
  have each : ∀ y ∈ xs, ∃ m : {m : Int // 0 ≤ m ∧ m ≤ 255}, y = encB1 m.1 := by
    intro y hy
    obtain ⟨n, rfl, b⟩ := intV (h1 y hy) (h2 y hy) he
    exact ⟨⟨n, b⟩, rfl⟩
  obtain ⟨m, rfl⟩ := list_map (f := fun m : {m : Int // 0 ≤ m ∧ m ≤ 255} => encB1 m.1) each
  refine ⟨m.map (·.1), by simp [Function.comp_def], by simpa using hl, fun y hy => ?_⟩
  obtain ⟨q, _, rfl⟩ := List.mem_map.1 hy
  exact q.2
end Go.Proofs.Ytnemmdbafngppaa.Net

/- Contracts of functions of this translation. Printed by wip/tools/gen.py out of wip/net/ann.py. No condition. -/
set_option linter.unusedVariables false
set_option linter.unusedSimpArgs false
namespace Go.Proofs.Ytnemmdbafngppaa.Net
open Go.Proofs.Ytnemmdbafngppaa.Abs
set_option maxRecDepth 100000
set_option maxHeartbeats 4000000
theorem C13 (n : Net) (a b : Int) (hl : n.fl.length ≤ 1000000) (h0 : -1000000000000 ≤ n.next) : Has Try.prog 13 [encN n, .i a, .i b] (encSent (send n a b)) := by   -- burgage/burgagelaw32.sent
  refine Has.intro 22 Try.func13 (by kernel_rfl) rfl rfl fun w ok => ?_
  refine AT.seq ?_
  refine AT.region ?_   -- region 0 law.go:11
  refine TrC.take rfl (step_box rfl rfl rfl rfl rfl rfl rfl) ?_   -- 0
  refine TrC.take rfl (step_allocC rfl rfl ze35 zc35 rfl rfl rfl) ?_   -- 1
  refine TrC.done ?_
  refine AT.seq ?_
  refine AT.region ?_   -- region 1 law.go:12
  refine TrC.take rfl (step_loadPN rfl rfl rfl ty30 rfl rfl rfl) ?_   -- 0
  refine TrC.take rfl (step_move rfl rfl rfl) ?_   -- 1
  refine TrC.take rfl (step_move rfl rfl rfl) ?_   -- 2
  refine TrC.take rfl (step_call0 rfl rfl (C29 n a b hl h0) rfl) ?_   -- 3
  refine TrC.take rfl (step_move rfl rfl rfl) ?_   -- 4
  refine TrC.take rfl (step_extract rfl rfl rfl rfl) ?_   -- 5
  refine TrC.take rfl (step_extract rfl rfl rfl rfl) ?_   -- 6
  refine TrC.take rfl (step_extract rfl rfl rfl rfl) ?_   -- 7
  refine TrC.take rfl (step_allocC rfl rfl ze30 zc30 rfl rfl rfl) ?_   -- 8
  refine TrC.take rfl (step_storeP rfl rfl rfl rfl rfl (.inl rfl) ty30 rfl rfl rfl) ?_   -- 9
  refine TrC.take rfl (step_assign rfl rfl rfl) ?_   -- 10
  refine TrC.take rfl (step_assign rfl rfl rfl) ?_   -- 11
  refine TrC.done ?_
  refine AT.seq ?_
  refine AT.region ?_   -- region 2 law.go:13
  refine TrC.take rfl (step_loadPN rfl rfl rfl ty30 rfl rfl rfl) ?_   -- 0
  refine TrC.take rfl (step_move rfl rfl rfl) ?_   -- 1
  refine TrC.take rfl (step_move rfl rfl rfl) ?_   -- 2
  refine TrC.take rfl (step_buildC rfl ze35 zc35 rfl pl35 rfl rfl rfl rfl) ?_   -- 3
  refine TrC.take rfl (step_storeP rfl rfl rfl rfl rfl (.inl rfl) ty35 rfl rfl rfl) ?_   -- 4
  refine TrC.done ?_
  refine AT.ret ?_
  exact Ret.one rfl (ResR.cellN rfl rfl ty35 rfl rfl (.refl _))

theorem C17 (n : Net) (id : Int) (hl : n.fl.length ≤ 1000000) (hc : n.cuts.length ≤ 1000000) (hS : SortP n) (hC : SortC n) : Has Try.prog 17 [encN n, .i id] (encTaken (take n id)) := by   -- burgage/burgagelaw32.taken
  refine Has.intro 19 Try.func17 (by kernel_rfl) rfl rfl fun w ok => ?_
  refine AT.seq ?_
  refine AT.region ?_   -- region 0 law.go:17
  refine TrC.take rfl (step_box rfl rfl rfl rfl rfl rfl rfl) ?_   -- 0
  refine TrC.take rfl (step_allocC rfl rfl ze40 zc40 rfl rfl rfl) ?_   -- 1
  refine TrC.done ?_
  refine AT.seq ?_
  refine AT.region ?_   -- region 1 law.go:18
  refine TrC.take rfl (step_loadPN rfl rfl rfl ty30 rfl rfl rfl) ?_   -- 0
  refine TrC.take rfl (step_move rfl rfl rfl) ?_   -- 1
  refine TrC.take rfl (step_call0 rfl rfl (C31 n id hl hc hS hC) rfl) ?_   -- 2
  refine TrC.take rfl (step_move rfl rfl rfl) ?_   -- 3
  refine TrC.take rfl (step_extract rfl rfl rfl rfl) ?_   -- 4
  refine TrC.take rfl (step_extract rfl rfl rfl rfl) ?_   -- 5
  refine TrC.take rfl (step_extract rfl rfl rfl rfl) ?_   -- 6
  refine TrC.take rfl (step_allocC rfl rfl ze30 zc30 rfl rfl rfl) ?_   -- 7
  refine TrC.take rfl (step_alloc rfl rfl ze25 rfl rfl rfl) ?_   -- 8
  refine TrC.take rfl (step_storeP rfl rfl rfl rfl rfl (.inl rfl) ty30 rfl rfl rfl) ?_   -- 9
  refine TrC.take rfl (step_storeP rfl rfl rfl rfl rfl (.inl rfl) ty25 rfl rfl rfl) ?_   -- 10
  refine TrC.take rfl (step_assign rfl rfl rfl) ?_   -- 11
  refine TrC.done ?_
  refine AT.seq ?_
  refine AT.region ?_   -- region 2 law.go:19
  refine TrC.take rfl (step_loadPN rfl rfl rfl ty30 rfl rfl rfl) ?_   -- 0
  refine TrC.take rfl (step_loadPN rfl rfl rfl ty25 rfl rfl rfl) ?_   -- 1
  refine TrC.take rfl (step_move rfl rfl rfl) ?_   -- 2
  refine TrC.take rfl (step_buildC rfl ze40 zc40 rfl pl40 rfl rfl rfl rfl) ?_   -- 3
  refine TrC.take rfl (step_storeP rfl rfl rfl rfl rfl (.inl rfl) ty40 rfl rfl rfl) ?_   -- 4
  refine TrC.done ?_
  refine AT.ret ?_
  exact Ret.one rfl (ResR.cellN rfl rfl ty40 rfl rfl (.refl _))

end Go.Proofs.Ytnemmdbafngppaa.Net

/- Contracts of functions of this translation. Printed by wip/tools/gen.py out of wip/net/ann.py. No condition. -/
set_option linter.unusedVariables false
set_option linter.unusedSimpArgs false
namespace Go.Proofs.Ytnemmdbafngppaa.Net
open Go.Proofs.Ytnemmdbafngppaa.Abs
set_option maxRecDepth 100000
set_option maxHeartbeats 4000000
theorem C28 (n : Net) (x y z : Int) (hx : 0 ≤ x ∧ x ≤ 255) (hy : 0 ≤ y ∧ y ≤ 255) (hz : 0 ≤ z ∧ z ≤ 255) (hl : n.fl.length ≤ 1000000) (hc : n.cuts.length ≤ 1000000) (h0 : -1000000000000 ≤ n.next) : Has Try.prog 28 [encN n, .agg [.u8 x, .u8 y, .u8 z]] (encN (step n (x, y, z))) := by   -- burgage/burgageref32.Step
  refine Has.intro 66 Try.func28 (by kernel_rfl) rfl rfl fun w ok => ?_
  refine AT.seq ?_
  refine AT.region ?_   -- region 0 ref.go:173
  refine TrC.take rfl (step_box rfl rfl rfl rfl rfl rfl rfl) ?_   -- 0
  refine TrC.take rfl (step_box rfl rfl rfl rfl rfl rfl rfl) ?_   -- 1
  refine TrC.take rfl (step_allocC rfl rfl ze30 zc30 rfl rfl rfl) ?_   -- 2
  refine TrC.done ?_
  refine AT.seq ?_
  refine AT.regionD mixed rfl ?_   -- region 1 ref.go:174
  refine TrC.take rfl (step_indexAddrP rfl rfl rfl ar47 (by decide) (by decide) rfl) ?_   -- 0
  refine TrC.take rfl (step_loadP1 rfl rfl rfl ty5 rfl rfl) ?_   -- 1
  first | refine TrC.take rfl (step_remI rfl rfl rfl (by omega) (by omega) rfl) ?_ | refine TrC.take rfl (step_bin rfl rfl rfl rfl rfl) ?_   -- 2
  refine TrC.take rfl (step_convI rfl rfl in5 in3 (by omega) (by omega) rfl) ?_   -- 3
  refine TrC.take rfl (step_indexAddrP rfl rfl rfl ar47 (by decide) (by decide) rfl) ?_   -- 4
  refine TrC.take rfl (step_loadP1 rfl rfl rfl ty5 rfl rfl) ?_   -- 5
  first | refine TrC.take rfl (step_remI rfl rfl rfl (by omega) (by omega) rfl) ?_ | refine TrC.take rfl (step_bin rfl rfl rfl rfl rfl) ?_   -- 6
  refine TrC.take rfl (step_convI rfl rfl in5 in3 (by omega) (by omega) rfl) ?_   -- 7
  refine TrC.take rfl (step_assign rfl rfl rfl) ?_   -- 8
  refine TrC.take rfl (step_assign rfl rfl rfl) ?_   -- 9
  refine TrC.doneD rfl ?_
  refine AT.seq ?_
  refine AT.seq ?_
  refine AT.region ?_   -- region 2 ref.go:175
  refine TrC.take rfl (step_indexAddrP rfl rfl rfl ar47 (by decide) (by decide) rfl) ?_   -- 0
  refine TrC.take rfl (step_loadP1 rfl rfl rfl ty5 rfl rfl) ?_   -- 1
  first | refine TrC.take rfl (step_remI rfl rfl rfl (by omega) (by omega) rfl) ?_ | refine TrC.take rfl (step_bin rfl rfl rfl rfl rfl) ?_   -- 2
  refine TrC.done ?_
  refine AT.block ?_   -- block 0
  refine AT.seq ?_
  refine AT.seq ?_
  refine AT.region ?_   -- region 3 ref.go:176
  refine TrC.take rfl (step_bin rfl rfl rfl rfl rfl) ?_   -- 0
  refine TrC.take rfl (step_assign rfl rfl rfl) ?_   -- 1
  refine TrC.done ?_
  refine AT.cond rfl (fun h18 => ?_) (fun h18 => ?_)   -- t18
  · -- true
    refine AT.spell 18 rfl (congrArg (fun b => T.v (.bool b)) h18) ?_
    refine AT.skip ?_
    refine AT.condT rfl ?_   -- t18
    refine AT.seq ?_
    refine AT.region ?_   -- region 6 ref.go:177
    refine TrC.take rfl (step_loadPN rfl rfl rfl ty30 rfl rfl rfl) ?_   -- 0
    refine TrC.take rfl (step_move rfl rfl rfl) ?_   -- 1
    refine TrC.take rfl (step_move rfl rfl rfl) ?_   -- 2
    refine TrC.take rfl (step_call0 rfl rfl (C14 n (y % 5) (z % 5) hl h0) rfl) ?_   -- 3
    refine TrC.take rfl (step_fieldN rfl rfl fd35_0 ty30 rfl rfl) ?_   -- 4
    refine TrC.take rfl (step_storeP rfl rfl rfl rfl rfl (.inl rfl) ty30 rfl rfl rfl) ?_   -- 5
    refine TrC.done ?_
    refine AT.ret ?_
    exact Ret.one rfl (ResR.cellN rfl rfl ty30 rfl rfl (conv_eq (by unfold step; simp_all [encN])))
  · -- false
    refine AT.spell 18 rfl (congrArg (fun b => T.v (.bool b)) h18) ?_
    refine AT.seq ?_
    refine AT.region ?_   -- region 4 ref.go:176
    refine TrC.take rfl (step_bin rfl rfl rfl rfl rfl) ?_   -- 0
    refine TrC.take rfl (step_assign rfl rfl rfl) ?_   -- 1
    refine TrC.done ?_
    refine AT.cond rfl (fun h18 => ?_) (fun h18 => ?_)   -- t18
    · -- true
      refine AT.spell 18 rfl (congrArg (fun b => T.v (.bool b)) h18) ?_
      refine AT.skip ?_
      refine AT.condT rfl ?_   -- t18
      refine AT.seq ?_
      refine AT.region ?_   -- region 6 ref.go:177
      refine TrC.take rfl (step_loadPN rfl rfl rfl ty30 rfl rfl rfl) ?_   -- 0
      refine TrC.take rfl (step_move rfl rfl rfl) ?_   -- 1
      refine TrC.take rfl (step_move rfl rfl rfl) ?_   -- 2
      refine TrC.take rfl (step_call0 rfl rfl (C14 n (y % 5) (z % 5) hl h0) rfl) ?_   -- 3
      refine TrC.take rfl (step_fieldN rfl rfl fd35_0 ty30 rfl rfl) ?_   -- 4
      refine TrC.take rfl (step_storeP rfl rfl rfl rfl rfl (.inl rfl) ty30 rfl rfl rfl) ?_   -- 5
      refine TrC.done ?_
      refine AT.ret ?_
      exact Ret.one rfl (ResR.cellN rfl rfl ty30 rfl rfl (conv_eq (by unfold step; simp_all [encN])))
    · -- false
      refine AT.spell 18 rfl (congrArg (fun b => T.v (.bool b)) h18) ?_
      refine AT.region ?_   -- region 5 ref.go:176
      refine TrC.take rfl (step_bin rfl rfl rfl rfl rfl) ?_   -- 0
      refine TrC.take rfl (step_assign rfl rfl rfl) ?_   -- 1
      refine TrC.done ?_
      refine AT.cond rfl (fun h18 => ?_) (fun h18 => ?_)   -- t18
      · -- true
        refine AT.spell 18 rfl (congrArg (fun b => T.v (.bool b)) h18) ?_
        refine AT.seq ?_
        refine AT.region ?_   -- region 6 ref.go:177
        refine TrC.take rfl (step_loadPN rfl rfl rfl ty30 rfl rfl rfl) ?_   -- 0
        refine TrC.take rfl (step_move rfl rfl rfl) ?_   -- 1
        refine TrC.take rfl (step_move rfl rfl rfl) ?_   -- 2
        refine TrC.take rfl (step_call0 rfl rfl (C14 n (y % 5) (z % 5) hl h0) rfl) ?_   -- 3
        refine TrC.take rfl (step_fieldN rfl rfl fd35_0 ty30 rfl rfl) ?_   -- 4
        refine TrC.take rfl (step_storeP rfl rfl rfl rfl rfl (.inl rfl) ty30 rfl rfl rfl) ?_   -- 5
        refine TrC.done ?_
        refine AT.ret ?_
        exact Ret.one rfl (ResR.cellN rfl rfl ty30 rfl rfl (conv_eq (by unfold step; simp_all [encN])))
      · -- false
        refine AT.spell 18 rfl (congrArg (fun b => T.v (.bool b)) h18) ?_
        refine AT.seq ?_
        refine AT.region ?_   -- region 7 ref.go:178
        refine TrC.take rfl (step_bin rfl rfl rfl rfl rfl) ?_   -- 0
        refine TrC.take rfl (step_assign rfl rfl rfl) ?_   -- 1
        refine TrC.done ?_
        refine AT.cond rfl (fun h27 => ?_) (fun h27 => ?_)   -- t27
        · -- true
          refine AT.seq ?_
          refine AT.region ?_   -- region 8 ref.go:179
          refine TrC.take rfl (step_loadPN rfl rfl rfl ty30 rfl rfl rfl) ?_   -- 0
          refine TrC.take rfl (step_indexAddrP rfl rfl rfl ar47 (by decide) (by decide) rfl) ?_   -- 1
          refine TrC.take rfl (step_loadP1 rfl rfl rfl ty5 rfl rfl) ?_   -- 2
          first | refine TrC.take rfl (step_remI rfl rfl rfl (by omega) (by omega) rfl) ?_ | refine TrC.take rfl (step_bin rfl rfl rfl rfl rfl) ?_   -- 3
          refine TrC.take rfl (step_convI rfl rfl in5 in3 (by omega) (by omega) rfl) ?_   -- 4
          refine TrC.take rfl (step_call0 rfl rfl (C18 n (y % 16) hl hc) rfl) ?_   -- 5
          refine TrC.take rfl (step_fieldN rfl rfl fd40_0 ty30 rfl rfl) ?_   -- 6
          refine TrC.take rfl (step_storeP rfl rfl rfl rfl rfl (.inl rfl) ty30 rfl rfl rfl) ?_   -- 7
          refine TrC.done ?_
          refine AT.ret ?_
          exact Ret.one rfl (ResR.cellN rfl rfl ty30 rfl rfl (conv_eq (by unfold step; simp_all [encN])))
        · -- false
          refine AT.seq ?_
          refine AT.region ?_   -- region 9 ref.go:180
          refine TrC.take rfl (step_bin rfl rfl rfl rfl rfl) ?_   -- 0
          refine TrC.take rfl (step_assign rfl rfl rfl) ?_   -- 1
          refine TrC.done ?_
          refine AT.cond rfl (fun h36 => ?_) (fun h36 => ?_)   -- t36
          · -- true
            refine AT.seq ?_
            refine AT.region ?_   -- region 10 ref.go:181
            refine TrC.take rfl (step_loadPN rfl rfl rfl ty30 rfl rfl rfl) ?_   -- 0
            refine TrC.take rfl (step_indexAddrP rfl rfl rfl ar47 (by decide) (by decide) rfl) ?_   -- 1
            refine TrC.take rfl (step_loadP1 rfl rfl rfl ty5 rfl rfl) ?_   -- 2
            first | refine TrC.take rfl (step_remI rfl rfl rfl (by omega) (by omega) rfl) ?_ | refine TrC.take rfl (step_bin rfl rfl rfl rfl rfl) ?_   -- 3
            refine TrC.take rfl (step_convI rfl rfl in5 in3 (by omega) (by omega) rfl) ?_   -- 4
            refine TrC.take rfl (step_call0 rfl rfl (C22 n (y % 16) hl) rfl) ?_   -- 5
            refine TrC.take rfl (step_fieldN rfl rfl fd40_0 ty30 rfl rfl) ?_   -- 6
            refine TrC.take rfl (step_storeP rfl rfl rfl rfl rfl (.inl rfl) ty30 rfl rfl rfl) ?_   -- 7
            refine TrC.done ?_
            refine AT.ret ?_
            exact Ret.one rfl (ResR.cellN rfl rfl ty30 rfl rfl (conv_eq (by unfold step; simp_all [encN])))
          · -- false
            refine AT.seq ?_
            refine AT.region ?_   -- region 11 ref.go:182
            refine TrC.take rfl (step_bin rfl rfl rfl rfl rfl) ?_   -- 0
            refine TrC.take rfl (step_assign rfl rfl rfl) ?_   -- 1
            refine TrC.done ?_
            refine AT.cond rfl (fun h45 => ?_) (fun h45 => ?_)   -- t45
            · -- true
              refine AT.seq ?_
              refine AT.region ?_   -- region 12 ref.go:183
              refine TrC.take rfl (step_loadPN rfl rfl rfl ty30 rfl rfl rfl) ?_   -- 0
              refine TrC.take rfl (step_indexAddrP rfl rfl rfl ar47 (by decide) (by decide) rfl) ?_   -- 1
              refine TrC.take rfl (step_loadP1 rfl rfl rfl ty5 rfl rfl) ?_   -- 2
              first | refine TrC.take rfl (step_remI rfl rfl rfl (by omega) (by omega) rfl) ?_ | refine TrC.take rfl (step_bin rfl rfl rfl rfl rfl) ?_   -- 3
              refine TrC.take rfl (step_convI rfl rfl in5 in3 (by omega) (by omega) rfl) ?_   -- 4
              refine TrC.take rfl (step_call0 rfl rfl (C23 n (y % 16) hl h0) rfl) ?_   -- 5
              refine TrC.take rfl (step_fieldN rfl rfl fd40_0 ty30 rfl rfl) ?_   -- 6
              refine TrC.take rfl (step_storeP rfl rfl rfl rfl rfl (.inl rfl) ty30 rfl rfl rfl) ?_   -- 7
              refine TrC.done ?_
              refine AT.ret ?_
              exact Ret.one rfl (ResR.cellN rfl rfl ty30 rfl rfl (conv_eq (by unfold step; simp_all [encN])))
            · -- false
              refine AT.seq ?_
              refine AT.region ?_   -- region 13 ref.go:184
              refine TrC.take rfl (step_bin rfl rfl rfl rfl rfl) ?_   -- 0
              refine TrC.take rfl (step_assign rfl rfl rfl) ?_   -- 1
              refine TrC.done ?_
              refine AT.cond rfl (fun h54 => ?_) (fun h54 => ?_)   -- t54
              · -- true
                refine AT.seq ?_
                refine AT.region ?_   -- region 14 ref.go:185
                refine TrC.take rfl (step_loadPN rfl rfl rfl ty30 rfl rfl rfl) ?_   -- 0
                refine TrC.take rfl (step_move rfl rfl rfl) ?_   -- 1
                refine TrC.take rfl (step_move rfl rfl rfl) ?_   -- 2
                refine TrC.take rfl (step_call0 rfl rfl (C24 n (y % 5) (z % 5) hc) rfl) ?_   -- 3
                refine TrC.take rfl (step_fieldN rfl rfl fd40_0 ty30 rfl rfl) ?_   -- 4
                refine TrC.take rfl (step_storeP rfl rfl rfl rfl rfl (.inl rfl) ty30 rfl rfl rfl) ?_   -- 5
                refine TrC.done ?_
                refine AT.ret ?_
                exact Ret.one rfl (ResR.cellN rfl rfl ty30 rfl rfl (conv_eq (by unfold step; simp_all [encN])))
              · -- false
                refine AT.skip ?_
                refine AT.seq ?_
                refine AT.region ?_   -- region 15 ref.go:187
                refine TrC.take rfl (step_loadPN rfl rfl rfl ty30 rfl rfl rfl) ?_   -- 0
                refine TrC.take rfl (step_move rfl rfl rfl) ?_   -- 1
                refine TrC.take rfl (step_move rfl rfl rfl) ?_   -- 2
                refine TrC.take rfl (step_call0 rfl rfl (C25 n (y % 5) (z % 5) hc) rfl) ?_   -- 3
                refine TrC.take rfl (step_fieldN rfl rfl fd40_0 ty30 rfl rfl) ?_   -- 4
                refine TrC.take rfl (step_storeP rfl rfl rfl rfl rfl (.inl rfl) ty30 rfl rfl rfl) ?_   -- 5
                refine TrC.done ?_
                refine AT.ret ?_
                exact Ret.one rfl (ResR.cellN rfl rfl ty30 rfl rfl (conv_eq (by unfold step; simp_all [encN])))

end Go.Proofs.Ytnemmdbafngppaa.Net

/- Contracts of functions of this translation. Printed by wip/tools/gen.py out of wip/net/ann.py. No condition. -/
set_option linter.unusedVariables false
set_option linter.unusedSimpArgs false
namespace Go.Proofs.Ytnemmdbafngppaa.Net
open Go.Proofs.Ytnemmdbafngppaa.Abs
set_option maxRecDepth 100000
set_option maxHeartbeats 4000000
theorem C21 (n : Net) (w : Int) (a b : Int) (hl : n.fl.length ≤ 1000000) (hc : n.cuts.length ≤ 1000000) (h0 : -1000000000000 ≤ n.next) (hS : SortP n) (hC : SortC n) (hP : ∀ i (h : i < n.fl.length), parts n.fl[i].fr n.fl[i].to = true) : Has Try.prog 21 [encN n, .i w, .agg [.i a, .i b]] (encTaken (doneN n w a b)) := by   -- burgage/burgagelaw32.done
  refine Has.intro 52 Try.func21 (by kernel_rfl) rfl rfl fun w ok => ?_
  refine AT.seq ?_
  refine AT.region ?_   -- region 0 law.go:23
  refine TrC.take rfl (step_box rfl rfl rfl rfl rfl rfl rfl) ?_   -- 0
  refine TrC.take rfl (step_box rfl rfl rfl rfl rfl rfl rfl) ?_   -- 1
  refine TrC.take rfl (step_allocC rfl rfl ze40 zc40 rfl rfl rfl) ?_   -- 2
  refine TrC.done ?_
  refine AT.seq ?_
  refine AT.region ?_   -- region 1 law.go:24
  refine TrC.take rfl (step_loadPN rfl rfl rfl ty30 rfl rfl rfl) ?_   -- 0
  refine TrC.take rfl (step_allocC rfl rfl ze30 zc30 rfl rfl rfl) ?_   -- 1
  refine TrC.take rfl (step_storeP rfl rfl rfl rfl rfl (.inl rfl) ty30 rfl rfl rfl) ?_   -- 2
  refine TrC.take rfl (step_assign rfl rfl rfl) ?_   -- 3
  refine TrC.done ?_
  refine AT.seq ?_
  refine AT.seq ?_
  refine AT.region ?_   -- region 2 law.go:25
  refine TrC.take rfl (step_move rfl rfl rfl) ?_   -- 0
  refine TrC.done ?_
  refine AT.block ?_   -- block 0
  refine AT.seq ?_
  refine AT.region ?_   -- region 4 law.go:26
  refine TrC.take rfl (step_bin rfl rfl rfl rfl rfl) ?_   -- 0
  refine TrC.take rfl (step_assign rfl rfl rfl) ?_   -- 1
  refine TrC.done ?_
  refine AT.cond rfl (fun h20 => ?_) (fun h20 => ?_)   -- t20
  · -- true
    refine AT.region ?_   -- region 5 law.go:27
    refine TrC.take rfl (step_loadPN rfl rfl rfl ty30 rfl rfl rfl) ?_   -- 0
    refine TrC.take rfl (step_indexAddrP rfl rfl rfl ar32 (by decide) (by decide) rfl) ?_   -- 1
    refine TrC.take rfl (step_loadP1 rfl rfl rfl ty3 rfl rfl) ?_   -- 2
    refine TrC.take rfl (step_call0 rfl rfl (C38 n a hl hS) rfl) ?_   -- 3
    refine TrC.take rfl (step_move rfl rfl rfl) ?_   -- 4
    refine TrC.take rfl (step_extract rfl rfl rfl rfl) ?_   -- 5
    refine TrC.take rfl (step_extract rfl rfl rfl rfl) ?_   -- 6
    refine TrC.take rfl (step_storeP rfl rfl rfl rfl rfl (.inl rfl) ty30 rfl rfl rfl) ?_   -- 7
    refine TrC.take rfl (step_assign rfl rfl rfl) ?_   -- 8
    refine TrC.done ?_
    refine AT.seq ?_
    refine AT.region ?_   -- region 10 law.go:35
    refine TrC.take rfl (step_loadPN rfl rfl rfl ty30 rfl rfl rfl) ?_   -- 0
    refine TrC.take rfl (step_move rfl rfl rfl) ?_   -- 1
    refine TrC.take rfl (step_buildC rfl ze40 zc40 rfl pl40 rfl rfl rfl rfl) ?_   -- 2
    refine TrC.take rfl (step_storeP rfl rfl rfl rfl rfl (.inl rfl) ty40 rfl rfl rfl) ?_   -- 3
    refine TrC.done ?_
    refine AT.ret ?_
    exact Ret.one rfl (ResR.cellN rfl rfl ty40 rfl rfl (conv_eq (by unfold doneN; simp_all [encTaken, encN, p0])))
  · -- false
    refine AT.seq ?_
    refine AT.region ?_   -- region 6 law.go:28
    refine TrC.take rfl (step_bin rfl rfl rfl rfl rfl) ?_   -- 0
    refine TrC.take rfl (step_assign rfl rfl rfl) ?_   -- 1
    refine TrC.done ?_
    refine AT.cond rfl (fun h29 => ?_) (fun h29 => ?_)   -- t29
    · -- true
      refine AT.region ?_   -- region 7 law.go:29
      refine TrC.take rfl (step_loadPN rfl rfl rfl ty30 rfl rfl rfl) ?_   -- 0
      refine TrC.take rfl (step_indexAddrP rfl rfl rfl ar32 (by decide) (by decide) rfl) ?_   -- 1
      refine TrC.take rfl (step_loadP1 rfl rfl rfl ty3 rfl rfl) ?_   -- 2
      refine TrC.take rfl (step_call0 rfl rfl (C39 n a hl h0 hS hP) rfl) ?_   -- 3
      refine TrC.take rfl (step_move rfl rfl rfl) ?_   -- 4
      refine TrC.take rfl (step_extract rfl rfl rfl rfl) ?_   -- 5
      refine TrC.take rfl (step_extract rfl rfl rfl rfl) ?_   -- 6
      refine TrC.take rfl (step_storeP rfl rfl rfl rfl rfl (.inl rfl) ty30 rfl rfl rfl) ?_   -- 7
      refine TrC.take rfl (step_assign rfl rfl rfl) ?_   -- 8
      refine TrC.done ?_
      refine AT.seq ?_
      refine AT.region ?_   -- region 10 law.go:35
      refine TrC.take rfl (step_loadPN rfl rfl rfl ty30 rfl rfl rfl) ?_   -- 0
      refine TrC.take rfl (step_move rfl rfl rfl) ?_   -- 1
      refine TrC.take rfl (step_buildC rfl ze40 zc40 rfl pl40 rfl rfl rfl rfl) ?_   -- 2
      refine TrC.take rfl (step_storeP rfl rfl rfl rfl rfl (.inl rfl) ty40 rfl rfl rfl) ?_   -- 3
      refine TrC.done ?_
      refine AT.ret ?_
      exact Ret.one rfl (ResR.cellN rfl rfl ty40 rfl rfl (conv_eq (by unfold doneN; simp_all [encTaken, encN, p0])))
    · -- false
      refine AT.seq ?_
      refine AT.region ?_   -- region 8 law.go:30
      refine TrC.take rfl (step_bin rfl rfl rfl rfl rfl) ?_   -- 0
      refine TrC.take rfl (step_assign rfl rfl rfl) ?_   -- 1
      refine TrC.done ?_
      refine AT.cond rfl (fun h38 => ?_) (fun h38 => ?_)   -- t38
      · -- true
        refine AT.region ?_   -- region 9 law.go:31
        refine TrC.take rfl (step_loadPN rfl rfl rfl ty30 rfl rfl rfl) ?_   -- 0
        refine TrC.take rfl (step_indexAddrP rfl rfl rfl ar32 (by decide) (by decide) rfl) ?_   -- 1
        refine TrC.take rfl (step_loadP1 rfl rfl rfl ty3 rfl rfl) ?_   -- 2
        refine TrC.take rfl (step_indexAddrP rfl rfl rfl ar32 (by decide) (by decide) rfl) ?_   -- 3
        refine TrC.take rfl (step_loadP1 rfl rfl rfl ty3 rfl rfl) ?_   -- 4
        refine TrC.take rfl (step_call0 rfl rfl (C40 n a b hc hC) rfl) ?_   -- 5
        refine TrC.take rfl (step_move rfl rfl rfl) ?_   -- 6
        refine TrC.take rfl (step_extract rfl rfl rfl rfl) ?_   -- 7
        refine TrC.take rfl (step_extract rfl rfl rfl rfl) ?_   -- 8
        refine TrC.take rfl (step_storeP rfl rfl rfl rfl rfl (.inl rfl) ty30 rfl rfl rfl) ?_   -- 9
        refine TrC.take rfl (step_assign rfl rfl rfl) ?_   -- 10
        refine TrC.done ?_
        refine AT.seq ?_
        refine AT.region ?_   -- region 10 law.go:35
        refine TrC.take rfl (step_loadPN rfl rfl rfl ty30 rfl rfl rfl) ?_   -- 0
        refine TrC.take rfl (step_move rfl rfl rfl) ?_   -- 1
        refine TrC.take rfl (step_buildC rfl ze40 zc40 rfl pl40 rfl rfl rfl rfl) ?_   -- 2
        refine TrC.take rfl (step_storeP rfl rfl rfl rfl rfl (.inl rfl) ty40 rfl rfl rfl) ?_   -- 3
        refine TrC.done ?_
        refine AT.ret ?_
        exact Ret.one rfl (ResR.cellN rfl rfl ty40 rfl rfl (conv_eq (by unfold doneN; simp_all [encTaken, encN, p0])))
      · -- false
        refine AT.region ?_   -- region 3 law.go:33
        refine TrC.take rfl (step_loadPN rfl rfl rfl ty30 rfl rfl rfl) ?_   -- 0
        refine TrC.take rfl (step_indexAddrP rfl rfl rfl ar32 (by decide) (by decide) rfl) ?_   -- 1
        refine TrC.take rfl (step_loadP1 rfl rfl rfl ty3 rfl rfl) ?_   -- 2
        refine TrC.take rfl (step_indexAddrP rfl rfl rfl ar32 (by decide) (by decide) rfl) ?_   -- 3
        refine TrC.take rfl (step_loadP1 rfl rfl rfl ty3 rfl rfl) ?_   -- 4
        refine TrC.take rfl (step_call0 rfl rfl (C41 n a b hc hC) rfl) ?_   -- 5
        refine TrC.take rfl (step_move rfl rfl rfl) ?_   -- 6
        refine TrC.take rfl (step_extract rfl rfl rfl rfl) ?_   -- 7
        refine TrC.take rfl (step_extract rfl rfl rfl rfl) ?_   -- 8
        refine TrC.take rfl (step_storeP rfl rfl rfl rfl rfl (.inl rfl) ty30 rfl rfl rfl) ?_   -- 9
        refine TrC.take rfl (step_assign rfl rfl rfl) ?_   -- 10
        refine TrC.done ?_
        refine AT.seq ?_
        refine AT.region ?_   -- region 10 law.go:35
        refine TrC.take rfl (step_loadPN rfl rfl rfl ty30 rfl rfl rfl) ?_   -- 0
        refine TrC.take rfl (step_move rfl rfl rfl) ?_   -- 1
        refine TrC.take rfl (step_buildC rfl ze40 zc40 rfl pl40 rfl rfl rfl rfl) ?_   -- 2
        refine TrC.take rfl (step_storeP rfl rfl rfl rfl rfl (.inl rfl) ty40 rfl rfl rfl) ?_   -- 3
        refine TrC.done ?_
        refine AT.ret ?_
        exact Ret.one rfl (ResR.cellN rfl rfl ty40 rfl rfl (conv_eq (by unfold doneN; simp_all [encTaken, encN, p0])))

end Go.Proofs.Ytnemmdbafngppaa.Net

/- Contracts of functions of this translation. Printed by wip/tools/gen.py out of wip/net/ann.py. No condition. -/
set_option linter.unusedVariables false
set_option linter.unusedSimpArgs false
namespace Go.Proofs.Ytnemmdbafngppaa.Net
open Go.Proofs.Ytnemmdbafngppaa.Abs
set_option maxRecDepth 100000
set_option maxHeartbeats 4000000
theorem C12 (l : List (Int × Int × Int)) (hb : ∀ x ∈ l, (0 ≤ x.1 ∧ x.1 ≤ 255) ∧ (0 ≤ x.2.1 ∧ x.2.1 ≤ 255) ∧ (0 ≤ x.2.2 ∧ x.2.2 ≤ 255)) : Has Try.prog 12 [.slice 3 (l.map encB)] (encN (made l)) := by   -- burgage/burgageref32.Made
  refine Has.intro 23 Try.func12 (by kernel_rfl) rfl rfl fun w ok => ?_
  refine AT.seq ?_
  refine AT.region ?_   -- region 0 ref.go:191
  refine TrC.take rfl (step_allocC rfl rfl ze30 zc30 rfl rfl rfl) ?_   -- 0
  refine TrC.done ?_
  refine AT.seq ?_
  refine AT.region ?_   -- region 1 ref.go:192
  refine TrC.take rfl (step_buildC rfl ze30 zc30 rfl pl30 rfl rfl rfl rfl) ?_   -- 0
  refine TrC.take rfl (step_allocC rfl rfl ze30 zc30 rfl rfl rfl) ?_   -- 1
  refine TrC.take rfl (step_storeP rfl rfl rfl rfl rfl (.inl rfl) ty30 rfl rfl rfl) ?_   -- 2
  refine TrC.done ?_
  refine AT.seq ?_
  refine AT.seq ?_
  refine AT.region ?_   -- region 2 ref.go:193
  refine TrC.take rfl (step_assign rfl rfl rfl) ?_   -- 0
  refine TrC.done ?_
  refine AT.block ?_   -- block 0
  refine AT.loopP (fun i : Nat => i ≤ l.length ∧ i ≤ 20) (fun i => mkS [(0, .t (.slice 3 (l.map encB))), (2, .p 2 0), (3, .p 3 0), (4, .t (.i i))] [(2, .box 30 [.t (.slice 3 []), .t (.slice 2 []), .t (.i 0)]), (3, .box 30 [.t (.slice 3 (((l.take i).foldl step ⟨[], [], 1⟩).fl.map encP)), .t (.slice 2 (((l.take i).foldl step ⟨[], [], 1⟩).cuts.map encC)), .t (.i ((l.take i).foldl step ⟨[], [], 1⟩).next)])]) (fun i => 20 - i) (0) (⟨by omega, by omega⟩) (fun a w hs => Sat.wk [] (.cons (.t (.refl _)) (.cons (.p rfl) (.cons (.p rfl) (.cons (.t (.refl _)) (.nil))))) (.cons rfl (.box (.cons (.t (.refl _)) (.cons (.t (.refl _)) (.cons (.t (.refl _)) (.nil))))) (.cons rfl (.box (.cons (.t (.refl _)) (.cons (.t (.refl _)) (.cons (.t (.refl _)) (.nil))))) (.nil))) rfl rfl a w hs) (fun ix hix => ?_)
  obtain ⟨hi, h20⟩ := hix
  have hv : VN ((l.take ix).foldl step ⟨[], [], 1⟩) := VN.made0.steps _
  refine AT.seq ?_
  refine AT.seq ?_
  refine AT.region ?_   -- region 3 ref.go:193
  refine TrC.take rfl (step_move rfl rfl rfl) ?_   -- 0
  refine TrC.take rfl (step_move rfl rfl rfl) ?_   -- 1
  refine TrC.take rfl (step_lenT (rt := 0) rfl rfl sl22 rfl) ?_   -- 2
  refine TrC.take rfl (step_bin rfl rfl rfl rfl rfl) ?_   -- 3
  refine TrC.take rfl (step_move rfl rfl rfl) ?_   -- 4
  refine TrC.cases (d := 10) rfl (fun h10 => ?_) (fun h10 => ?_)
  · -- t10 = true
    have hlt : ix < l.length := by have h := h10; simp at h; omega
    refine TrC.take ⟨_, _, rfl, rfl, rfl⟩ (step_move rfl rfl rfl) ?_   -- 5
    refine TrC.take ⟨_, _, rfl, rfl, rfl⟩ (step_bin rfl rfl rfl rfl rfl) ?_   -- 6
    refine TrC.take rfl (step_pick rfl rfl rfl rfl) ?_   -- 7
    refine TrC.done ?_
    refine AT.cond rfl (fun h13 => ?_) (fun h13 => ?_)   -- t13
    · -- true
      have hlt2 : ix < 20 := by have h := h13; simp at h; omega
      have hget : (l.map encB)[ix]? = some (.agg [.u8 l[ix].1, .u8 l[ix].2.1, .u8 l[ix].2.2]) := by rw [List.getElem?_map, List.getElem?_eq_getElem hlt]; rfl
      have hbx := hb _ (List.getElem_mem hlt)
      refine AT.skip ?_
      refine AT.seq ?_
      refine AT.block ?_   -- block 1
      refine AT.regionD mixed rfl ?_   -- region 5 ref.go:194
      refine TrC.take rfl (step_loadPN rfl rfl rfl ty30 rfl rfl rfl) ?_   -- 0
      refine TrC.take rfl (step_move rfl rfl rfl) ?_   -- 1
      refine TrC.take rfl (step_move rfl rfl rfl) ?_   -- 2
      refine TrC.take rfl (step_indexAddrT (v := .agg [.u8 l[ix].1, .u8 l[ix].2.1, .u8 l[ix].2.2]) rfl rfl rfl sl22 (by omega) (by first | exact hget | simpa using hget) rfl rfl) ?_   -- 3
      refine TrC.take rfl (step_loadTN rfl rfl ty47 rfl rfl) ?_   -- 4
      refine TrC.take rfl (step_call0 rfl rfl (C28 ((l.take ix).foldl step ⟨[], [], 1⟩) l[ix].1 l[ix].2.1 l[ix].2.2 hbx.1 hbx.2.1 hbx.2.2 (by have := hv.nl; omega) (by have := hv.cl; omega) (by have := hv.n1; omega)) rfl) ?_   -- 5
      refine TrC.take rfl (step_storeP rfl rfl rfl rfl rfl (.inl rfl) ty30 rfl rfl rfl) ?_   -- 6
      refine TrC.doneD rfl ?_
      refine AT.region ?_   -- region 4 ref.go:193
      refine TrC.take rfl (step_move rfl rfl rfl) ?_   -- 0
      refine TrC.take rfl (step_addI rfl rfl rfl (by omega) (by omega) rfl) ?_   -- 1
      refine TrC.take rfl (step_assign rfl rfl rfl) ?_   -- 2
      refine TrC.done ?_
      have hst : (l.take (ix + 1)).foldl step ⟨[], [], 1⟩ = step ((l.take ix).foldl step ⟨[], [], 1⟩) l[ix] := by rw [take_snoc hlt, List.foldl_append]; rfl
      exact ⟨ix + 1, ⟨by omega, by omega⟩, by show 20 - (ix + 1) < 20 - ix; omega, Sat.wk [] (.cons (.t (.refl _)) (.cons (.p rfl) (.cons (.p rfl) (.cons (.t (conv_i (by simp))) (.nil))))) (.cons rfl (.box (.cons (.t (.refl _)) (.cons (.t (.refl _)) (.cons (.t (.refl _)) (.nil))))) (.cons rfl (.box (.cons (.t (conv_eq (by rw [hst]))) (.cons (.t (conv_eq (by rw [hst]))) (.cons (.t (conv_eq (by rw [hst]))) .nil)))) (.nil))) rfl rfl⟩
    · -- false
      have hge2 : ¬ ix < 20 := by have h := h13; simp at h; omega
      refine AT.exit (Or.inl ⟨rfl, ?_⟩)   -- exit 0
      refine AT.seq ?_
      refine AT.region ?_   -- region 6 ref.go:196
      refine TrC.take rfl (step_loadPN rfl rfl rfl ty30 rfl rfl rfl) ?_   -- 0
      refine TrC.take rfl (step_storeP rfl rfl rfl rfl rfl (.inl rfl) ty30 rfl rfl rfl) ?_   -- 1
      refine TrC.done ?_
      refine AT.ret ?_
      have hm : made l = (l.take ix).foldl step ⟨[], [], 1⟩ := by
        unfold made; congr 1
        first
        | (have : ix = 20 := by omega
           rw [this])
        | (rw [List.take_of_length_le (by omega), List.take_of_length_le (by omega)])
      exact Ret.one rfl (ResR.cellN rfl rfl ty30 rfl rfl (conv_eq (by rw [hm]; rfl)))
  · -- t10 = false
    have hge : ¬ ix < l.length := by have h := h10; simp at h; omega
    refine TrC.skip ⟨_, _, rfl, rfl, rfl⟩ ?_   -- 5
    refine TrC.skip ⟨_, _, rfl, rfl, rfl⟩ ?_   -- 6
    refine TrC.take rfl (step_pick rfl rfl rfl rfl) ?_   -- 7
    refine TrC.done ?_
    refine AT.condF rfl ?_   -- t13
    refine AT.exit (Or.inl ⟨rfl, ?_⟩)   -- exit 0
    refine AT.seq ?_
    refine AT.region ?_   -- region 6 ref.go:196
    refine TrC.take rfl (step_loadPN rfl rfl rfl ty30 rfl rfl rfl) ?_   -- 0
    refine TrC.take rfl (step_storeP rfl rfl rfl rfl rfl (.inl rfl) ty30 rfl rfl rfl) ?_   -- 1
    refine TrC.done ?_
    refine AT.ret ?_
    have hm : made l = (l.take ix).foldl step ⟨[], [], 1⟩ := by
      unfold made; congr 1
      first
      | (have : ix = 20 := by omega
         rw [this])
      | (rw [List.take_of_length_le (by omega), List.take_of_length_le (by omega)])
    exact Ret.one rfl (ResR.cellN rfl rfl ty30 rfl rfl (conv_eq (by rw [hm]; rfl)))

end Go.Proofs.Ytnemmdbafngppaa.Net

/- Contracts of functions of this translation. Printed by wip/tools/gen.py out of wip/net/ann.py. No condition. -/
set_option linter.unusedVariables false
set_option linter.unusedSimpArgs false
namespace Go.Proofs.Ytnemmdbafngppaa.Net
open Go.Proofs.Ytnemmdbafngppaa.Abs
set_option maxRecDepth 100000
set_option maxHeartbeats 4000000
theorem C26 (n : Net) (hl : n.fl.length ≤ 1000000) (hl' : n.cuts.length ≤ 1000000) : Has Try.prog 26 [encN n] (.b (valid n)) := by   -- burgage/net.Valid
  refine Has.intro 94 Try.func26 (by kernel_rfl) rfl rfl fun w ok => ?_
  refine AT.seq ?_
  refine AT.region ?_   -- region 0 net.go:25
  refine TrC.take rfl (step_box rfl rfl rfl rfl rfl rfl rfl) ?_   -- 0
  refine TrC.take rfl (step_assign rfl rfl rfl) ?_   -- 1
  refine TrC.done ?_
  refine AT.seq ?_
  refine AT.region ?_   -- region 1 net.go:26
  refine TrC.take rfl (step_assign rfl rfl rfl) ?_   -- 0
  refine TrC.done ?_
  refine AT.seq ?_
  refine AT.seq ?_
  refine AT.region ?_   -- region 2 net.go:27
  refine TrC.take rfl (step_fieldAddrP rfl rfl fd30_0 rfl rfl) ?_   -- 0
  refine TrC.take rfl (step_loadP1 rfl rfl rfl ty27 rfl rfl) ?_   -- 1
  refine TrC.take rfl (step_lenT (rt := 0) rfl rfl sl27 rfl) ?_   -- 2
  refine TrC.take rfl (step_move rfl rfl rfl) ?_   -- 3
  refine TrC.done ?_
  refine AT.block ?_   -- block 0
  refine AT.loopP (fun i : Nat => i ≤ n.fl.length ∧ ∀ j, j < i → okP n j = true) (fun i => mkS [(1, .p 1 0), (3, .t (.i (lastId n i))), (9, .t (.slice 3 (n.fl.map encP))), (10, .t (.i n.fl.length)), (11, .t (.i i))] [(1, .box 30 [.t (.slice 3 (n.fl.map encP)), .t (.slice 2 (n.cuts.map encC)), .t (.i n.next)])]) (fun i => n.fl.length - i) (0) (⟨by omega, fun j hj => by omega⟩) (fun a w hs => Sat.wk [] (.cons (.p rfl) (.cons (.t (conv_i (by simp [lastId]))) (.cons (.t (.refl _)) (.cons (.t (conv_i (by simp))) (.cons (.t (conv_i (by simp))) (.nil)))))) (.cons rfl (.box (.cons (.t (.refl _)) (.cons (.t (.refl _)) (.cons (.t (.refl _)) (.nil))))) (.nil)) rfl rfl a w hs) (fun ix hix => ?_)
  obtain ⟨hi, hpre⟩ := hix
  refine AT.seq ?_
  refine AT.region ?_   -- region 3 net.go:27
  refine TrC.take rfl (step_bin rfl rfl rfl rfl rfl) ?_   -- 0
  refine TrC.done ?_
  refine AT.seq ?_
  refine AT.cond rfl (fun h12 => ?_) (fun h12 => ?_)   -- t12
  · -- true
    have hlt : ix < n.fl.length := by simpa using h12
    have hget : (n.fl.map encP)[ix]? = some (.agg [.i n.fl[ix].id, .i n.fl[ix].fr, .i n.fl[ix].to]) := by simp [hlt, encP]
    refine AT.skip ?_
    refine AT.seq ?_
    refine AT.block ?_   -- block 1
    refine AT.seq ?_
    refine AT.region ?_   -- region 4 net.go:27
    refine TrC.take rfl (step_indexAddrT (v := .agg [.i n.fl[ix].id, .i n.fl[ix].fr, .i n.fl[ix].to]) rfl rfl rfl sl27 (by omega) (by simpa using hget) rfl rfl) ?_   -- 0
    refine TrC.take rfl (step_loadTN rfl rfl ty25 rfl rfl) ?_   -- 1
    refine TrC.take rfl (step_alloc rfl rfl ze25 rfl rfl rfl) ?_   -- 2
    refine TrC.take rfl (step_storeP rfl rfl rfl rfl rfl (.inl rfl) ty25 rfl rfl rfl) ?_   -- 3
    refine TrC.done ?_
    refine AT.seq ?_
    refine AT.seq ?_
    refine AT.region ?_   -- region 5 net.go:28
    refine TrC.take rfl (step_fieldAddrP rfl rfl fd25_0 rfl rfl) ?_   -- 0
    refine TrC.take rfl (step_loadP1 rfl rfl rfl ty3 rfl rfl) ?_   -- 1
    refine TrC.take rfl (step_move rfl rfl rfl) ?_   -- 2
    refine TrC.take rfl (step_bin rfl rfl rfl rfl rfl) ?_   -- 3
    refine TrC.take rfl (step_move rfl rfl rfl) ?_   -- 4
    refine TrC.cases (d := 19) rfl (fun h19 => ?_) (fun h19 => ?_)
    · -- t19 = true
      have hs : valid n = false := by
        refine valid_badP hlt ?_
        rw [Bool.eq_false_iff]; intro hg
        rw [okP_alt hlt hpre] at hg
        obtain ⟨g1, g2, g3⟩ := hg
        have h := h19; simp at h; omega
      refine TrC.skip ⟨_, _, rfl, rfl, rfl⟩ ?_   -- 5
      refine TrC.skip ⟨_, _, rfl, rfl, rfl⟩ ?_   -- 6
      refine TrC.skip ⟨_, _, rfl, rfl, rfl⟩ ?_   -- 7
      refine TrC.skip ⟨_, _, rfl, rfl, rfl⟩ ?_   -- 8
      refine TrC.skip ⟨_, _, rfl, rfl, rfl⟩ ?_   -- 9
      refine TrC.take rfl (step_pick rfl rfl rfl rfl) ?_   -- 10
      refine TrC.take rfl (step_move rfl rfl rfl) ?_   -- 11
      refine TrC.skip ⟨_, _, rfl, rfl, rfl⟩ ?_   -- 12
      refine TrC.skip ⟨_, _, rfl, rfl, rfl⟩ ?_   -- 13
      refine TrC.skip ⟨_, _, rfl, rfl, rfl⟩ ?_   -- 14
      refine TrC.skip ⟨_, _, rfl, rfl, rfl⟩ ?_   -- 15
      refine TrC.skip ⟨_, _, rfl, rfl, rfl⟩ ?_   -- 16
      refine TrC.skip ⟨_, _, rfl, rfl, rfl⟩ ?_   -- 17
      refine TrC.take rfl (step_pick rfl rfl rfl rfl) ?_   -- 18
      refine TrC.done ?_
      refine AT.condT rfl ?_   -- t33
      refine AT.seq ?_
      refine AT.region ?_   -- region 6 net.go:29
      refine TrC.take rfl (step_assign rfl rfl rfl) ?_   -- 0
      refine TrC.done ?_
      refine AT.ret ?_
      exact Ret.one rfl (ResR.tmp rfl (conv_b hs.symm))
    · -- t19 = false
      refine TrC.take ⟨_, _, rfl, rfl, rfl⟩ (step_fieldAddrP rfl rfl fd25_0 rfl rfl) ?_   -- 5
      refine TrC.take ⟨_, _, rfl, rfl, rfl⟩ (step_loadP1 rfl rfl rfl ty3 rfl rfl) ?_   -- 6
      refine TrC.take ⟨_, _, rfl, rfl, rfl⟩ (step_fieldAddrP rfl rfl fd30_2 rfl rfl) ?_   -- 7
      refine TrC.take ⟨_, _, rfl, rfl, rfl⟩ (step_loadP1 rfl rfl rfl ty3 rfl rfl) ?_   -- 8
      refine TrC.take ⟨_, _, rfl, rfl, rfl⟩ (step_bin rfl rfl rfl rfl rfl) ?_   -- 9
      refine TrC.take rfl (step_pick rfl rfl rfl rfl) ?_   -- 10
      refine TrC.take rfl (step_move rfl rfl rfl) ?_   -- 11
      refine TrC.cases (d := 26) rfl (fun h26 => ?_) (fun h26 => ?_)
      · -- t26 = true
        have hs : valid n = false := by
          refine valid_badP hlt ?_
          rw [Bool.eq_false_iff]; intro hg
          rw [okP_alt hlt hpre] at hg
          obtain ⟨g1, g2, g3⟩ := hg
          have h := h26; simp at h; omega
        refine TrC.skip ⟨_, _, rfl, rfl, rfl⟩ ?_   -- 12
        refine TrC.skip ⟨_, _, rfl, rfl, rfl⟩ ?_   -- 13
        refine TrC.skip ⟨_, _, rfl, rfl, rfl⟩ ?_   -- 14
        refine TrC.skip ⟨_, _, rfl, rfl, rfl⟩ ?_   -- 15
        refine TrC.skip ⟨_, _, rfl, rfl, rfl⟩ ?_   -- 16
        refine TrC.skip ⟨_, _, rfl, rfl, rfl⟩ ?_   -- 17
        refine TrC.take rfl (step_pick rfl rfl rfl rfl) ?_   -- 18
        refine TrC.done ?_
        refine AT.condT rfl ?_   -- t33
        refine AT.seq ?_
        refine AT.region ?_   -- region 6 net.go:29
        refine TrC.take rfl (step_assign rfl rfl rfl) ?_   -- 0
        refine TrC.done ?_
        refine AT.ret ?_
        exact Ret.one rfl (ResR.tmp rfl (conv_b hs.symm))
      · -- t26 = false
        refine TrC.take ⟨_, _, rfl, rfl, rfl⟩ (step_fieldAddrP rfl rfl fd25_1 rfl rfl) ?_   -- 12
        refine TrC.take ⟨_, _, rfl, rfl, rfl⟩ (step_loadP1 rfl rfl rfl ty3 rfl rfl) ?_   -- 13
        refine TrC.take ⟨_, _, rfl, rfl, rfl⟩ (step_fieldAddrP rfl rfl fd25_2 rfl rfl) ?_   -- 14
        refine TrC.take ⟨_, _, rfl, rfl, rfl⟩ (step_loadP1 rfl rfl rfl ty3 rfl rfl) ?_   -- 15
        refine TrC.take ⟨_, _, rfl, rfl, rfl⟩ (step_call0 rfl rfl (C43 n.fl[ix].fr n.fl[ix].to) rfl) ?_   -- 16
        refine TrC.take ⟨_, _, rfl, rfl, rfl⟩ (step_not rfl rfl rfl) ?_   -- 17
        refine TrC.take rfl (step_pick rfl rfl rfl rfl) ?_   -- 18
        refine TrC.done ?_
        refine AT.cond rfl (fun h33 => ?_) (fun h33 => ?_)   -- t33
        · -- true
          have hs : valid n = false := by
            refine valid_badP hlt ?_
            rw [Bool.eq_false_iff]; intro hg
            rw [okP_alt hlt hpre] at hg
            obtain ⟨g1, g2, g3⟩ := hg
            simp [g3] at h33
          refine AT.seq ?_
          refine AT.region ?_   -- region 6 net.go:29
          refine TrC.take rfl (step_assign rfl rfl rfl) ?_   -- 0
          refine TrC.done ?_
          refine AT.ret ?_
          exact Ret.one rfl (ResR.tmp rfl (conv_b hs.symm))
        · -- false
          refine AT.skip ?_
          refine AT.region ?_   -- region 7 net.go:31
          refine TrC.take rfl (step_fieldAddrP rfl rfl fd25_0 rfl rfl) ?_   -- 0
          refine TrC.take rfl (step_loadP1 rfl rfl rfl ty3 rfl rfl) ?_   -- 1
          refine TrC.take rfl (step_assign rfl rfl rfl) ?_   -- 2
          refine TrC.done ?_
          refine AT.region ?_   -- region 8 net.go:27
          refine TrC.take rfl (step_addI rfl rfl rfl (by omega) (by omega) rfl) ?_   -- 0
          refine TrC.take rfl (step_move rfl rfl rfl) ?_   -- 1
          refine TrC.done ?_
          have hgood : okP n ix = true := (okP_alt hlt hpre).2 ⟨by have h := h19; simp at h; omega, by have h := h26; simp at h; omega, by simpa using h33⟩
          exact ⟨ix + 1, ⟨by omega, fun j hji => by
            by_cases he : j = ix
            · subst he; exact hgood
            · exact hpre j (by omega)⟩, by show n.fl.length - (ix + 1) < n.fl.length - ix; omega, Sat.wk [] (.cons (.p rfl) (.cons (.t (conv_i (by simp [lastId, hlt]))) (.cons (.t (.refl _)) (.cons (.t (.refl _)) (.cons (.t (conv_i (by simp))) (.nil)))))) (.cons rfl (.box (.cons (.t (.refl _)) (.cons (.t (.refl _)) (.cons (.t (.refl _)) (.nil))))) (.nil)) rfl rfl⟩
  · -- false
    have hge : ¬ ix < n.fl.length := by simpa using h12
    have hA : ∀ i, i < n.fl.length → okP n i = true := fun i hi => hpre i (by omega)
    refine AT.exit (Or.inl ⟨rfl, ?_⟩)   -- exit 0
    refine AT.seq ?_
    refine AT.seq ?_
    refine AT.region ?_   -- region 9 net.go:33
    refine TrC.take rfl (step_fieldAddrP rfl rfl fd30_1 rfl rfl) ?_   -- 0
    refine TrC.take rfl (step_loadP1 rfl rfl rfl ty28 rfl rfl) ?_   -- 1
    refine TrC.take rfl (step_lenT (rt := 0) rfl rfl sl28 rfl) ?_   -- 2
    refine TrC.take rfl (step_move rfl rfl rfl) ?_   -- 3
    refine TrC.done ?_
    refine AT.block ?_   -- block 2
    refine AT.loopP (fun i : Nat => i ≤ n.cuts.length ∧ ∀ j, j < i → okC n j = true) (fun i => mkS [(1, .p 1 0), (38, .t (.slice 2 (n.cuts.map encC))), (39, .t (.i n.cuts.length)), (40, .t (.i i))] [(1, .box 30 [.t (.slice 3 (n.fl.map encP)), .t (.slice 2 (n.cuts.map encC)), .t (.i n.next)])]) (fun i => n.cuts.length - i) (0) (⟨by omega, fun j hj => by omega⟩) (fun a w hs => Sat.wk [] (.cons (.p rfl) (.cons (.t (.refl _)) (.cons (.t (conv_i (by simp))) (.cons (.t (conv_i (by simp))) (.nil))))) (.cons rfl (.box (.cons (.t (.refl _)) (.cons (.t (.refl _)) (.cons (.t (.refl _)) (.nil))))) (.nil)) rfl rfl a w hs) (fun iy hiy => ?_)
    obtain ⟨hyi, hypre⟩ := hiy
    refine AT.seq ?_
    refine AT.region ?_   -- region 10 net.go:33
    refine TrC.take rfl (step_bin rfl rfl rfl rfl rfl) ?_   -- 0
    refine TrC.done ?_
    refine AT.seq ?_
    refine AT.cond rfl (fun h41 => ?_) (fun h41 => ?_)   -- t41
    · -- true
      have hlt : iy < n.cuts.length := by simpa using h41
      have hget : (n.cuts.map encC)[iy]? = some (.agg [.i n.cuts[iy].1, .i n.cuts[iy].2]) := by simp [hlt, encC]
      refine AT.skip ?_
      refine AT.seq ?_
      refine AT.block ?_   -- block 3
      refine AT.seq ?_
      refine AT.region ?_   -- region 11 net.go:33
      refine TrC.take rfl (step_move rfl rfl rfl) ?_   -- 0
      refine TrC.take rfl (step_indexAddrT (v := .agg [.i n.cuts[iy].1, .i n.cuts[iy].2]) rfl rfl rfl sl28 (by omega) (by simpa using hget) rfl rfl) ?_   -- 1
      refine TrC.take rfl (step_loadTN rfl rfl ty32 rfl rfl) ?_   -- 2
      refine TrC.take rfl (step_alloc rfl rfl ze32 rfl rfl rfl) ?_   -- 3
      refine TrC.take rfl (step_assign rfl rfl rfl) ?_   -- 4
      refine TrC.take rfl (step_storeP rfl rfl rfl rfl rfl (.inl rfl) ty32 rfl rfl rfl) ?_   -- 5
      refine TrC.done ?_
      refine AT.seq ?_
      refine AT.regionD mixed rfl ?_   -- region 12 net.go:34
      refine TrC.take rfl (step_indexAddrP rfl rfl rfl ar32 (by decide) (by decide) rfl) ?_   -- 0
      refine TrC.take rfl (step_loadP1 rfl rfl rfl ty3 rfl rfl) ?_   -- 1
      refine TrC.take rfl (step_indexAddrP rfl rfl rfl ar32 (by decide) (by decide) rfl) ?_   -- 2
      refine TrC.take rfl (step_loadP1 rfl rfl rfl ty3 rfl rfl) ?_   -- 3
      refine TrC.take rfl (step_call0 rfl rfl (C43 n.cuts[iy].1 n.cuts[iy].2) rfl) ?_   -- 4
      refine TrC.take rfl (step_not rfl rfl rfl) ?_   -- 5
      refine TrC.take rfl (step_move rfl rfl rfl) ?_   -- 6
      refine TrC.cases (d := 51) rfl (fun h51 => ?_) (fun h51 => ?_)
      · -- t51 = true
        have hs : valid n = false := by
          refine valid_badC hlt ?_
          rw [Bool.eq_false_iff]; intro hg
          rw [okC_iff hlt] at hg
          simp [hg.1] at h51
        refine TrC.skip ⟨_, _, rfl, rfl, rfl⟩ ?_   -- 7
        refine TrC.skip ⟨_, _, rfl, rfl, rfl⟩ ?_   -- 8
        refine TrC.skip ⟨_, _, rfl, rfl, rfl⟩ ?_   -- 9
        refine TrC.skip ⟨_, _, rfl, rfl, rfl⟩ ?_   -- 10
        refine TrC.skip ⟨_, _, rfl, rfl, rfl⟩ ?_   -- 11
        refine TrC.skip ⟨_, _, rfl, rfl, rfl⟩ ?_   -- 12
        refine TrC.skip ⟨_, _, rfl, rfl, rfl⟩ ?_   -- 13
        refine TrC.take rfl (step_pick rfl rfl rfl rfl) ?_   -- 14
        refine TrC.take rfl (step_move rfl rfl rfl) ?_   -- 15
        refine TrC.skip ⟨_, _, rfl, rfl, rfl⟩ ?_   -- 16
        refine TrC.skip ⟨_, _, rfl, rfl, rfl⟩ ?_   -- 17
        refine TrC.skip ⟨_, _, rfl, rfl, rfl⟩ ?_   -- 18
        refine TrC.skip ⟨_, _, rfl, rfl, rfl⟩ ?_   -- 19
        refine TrC.skip ⟨_, _, rfl, rfl, rfl⟩ ?_   -- 20
        refine TrC.skip ⟨_, _, rfl, rfl, rfl⟩ ?_   -- 21
        refine TrC.skip ⟨_, _, rfl, rfl, rfl⟩ ?_   -- 22
        refine TrC.skip ⟨_, _, rfl, rfl, rfl⟩ ?_   -- 23
        refine TrC.skip ⟨_, _, rfl, rfl, rfl⟩ ?_   -- 24
        refine TrC.skip ⟨_, _, rfl, rfl, rfl⟩ ?_   -- 25
        refine TrC.skip ⟨_, _, rfl, rfl, rfl⟩ ?_   -- 26
        refine TrC.skip ⟨_, _, rfl, rfl, rfl⟩ ?_   -- 27
        refine TrC.skip ⟨_, _, rfl, rfl, rfl⟩ ?_   -- 28
        refine TrC.take rfl (step_pick rfl rfl rfl rfl) ?_   -- 29
        refine TrC.doneD rfl ?_
        refine AT.condT rfl ?_   -- t74
        refine AT.seq ?_
        refine AT.region ?_   -- region 13 net.go:35
        refine TrC.take rfl (step_assign rfl rfl rfl) ?_   -- 0
        refine TrC.done ?_
        refine AT.ret ?_
        exact Ret.one rfl (ResR.tmp rfl (conv_b hs.symm))
      · -- t51 = false
        refine TrC.take ⟨_, _, rfl, rfl, rfl⟩ (step_loadPN rfl rfl rfl ty32 rfl rfl rfl) ?_   -- 7
        refine TrC.take ⟨_, _, rfl, rfl, rfl⟩ (step_indexAddrP rfl rfl rfl ar32 (by decide) (by decide) rfl) ?_   -- 8
        refine TrC.take ⟨_, _, rfl, rfl, rfl⟩ (step_loadP1 rfl rfl rfl ty3 rfl rfl) ?_   -- 9
        refine TrC.take ⟨_, _, rfl, rfl, rfl⟩ (step_indexAddrP rfl rfl rfl ar32 (by decide) (by decide) rfl) ?_   -- 10
        refine TrC.take ⟨_, _, rfl, rfl, rfl⟩ (step_loadP1 rfl rfl rfl ty3 rfl rfl) ?_   -- 11
        refine TrC.take ⟨_, _, rfl, rfl, rfl⟩ (step_call0 rfl rfl (C35 n.cuts[iy].1 n.cuts[iy].2) rfl) ?_   -- 12
        refine TrC.take ⟨_, _, rfl, rfl, rfl⟩ (step_nea rfl rfl rfl rfl rfl ty32 eg32 (eq32 _ _ _ _) rfl) ?_   -- 13
        refine TrC.take rfl (step_pick rfl rfl rfl rfl) ?_   -- 14
        refine TrC.take rfl (step_move rfl rfl rfl) ?_   -- 15
        refine TrC.cases (d := 60) rfl (fun h60 => ?_) (fun h60 => ?_)
        · -- t60 = true
          have hs : valid n = false := by
            refine valid_badC hlt ?_
            rw [Bool.eq_false_iff]; intro hg
            rw [okC_iff hlt] at hg
            have g2 := Prod.ext_iff.1 hg.2.1
            simp [← g2.1, ← g2.2] at h60
          refine TrC.skip ⟨_, _, rfl, rfl, rfl⟩ ?_   -- 16
          refine TrC.skip ⟨_, _, rfl, rfl, rfl⟩ ?_   -- 17
          refine TrC.skip ⟨_, _, rfl, rfl, rfl⟩ ?_   -- 18
          refine TrC.skip ⟨_, _, rfl, rfl, rfl⟩ ?_   -- 19
          refine TrC.skip ⟨_, _, rfl, rfl, rfl⟩ ?_   -- 20
          refine TrC.skip ⟨_, _, rfl, rfl, rfl⟩ ?_   -- 21
          refine TrC.skip ⟨_, _, rfl, rfl, rfl⟩ ?_   -- 22
          refine TrC.skip ⟨_, _, rfl, rfl, rfl⟩ ?_   -- 23
          refine TrC.skip ⟨_, _, rfl, rfl, rfl⟩ ?_   -- 24
          refine TrC.skip ⟨_, _, rfl, rfl, rfl⟩ ?_   -- 25
          refine TrC.skip ⟨_, _, rfl, rfl, rfl⟩ ?_   -- 26
          refine TrC.skip ⟨_, _, rfl, rfl, rfl⟩ ?_   -- 27
          refine TrC.skip ⟨_, _, rfl, rfl, rfl⟩ ?_   -- 28
          refine TrC.take rfl (step_pick rfl rfl rfl rfl) ?_   -- 29
          refine TrC.doneD rfl ?_
          refine AT.condT rfl ?_   -- t74
          refine AT.seq ?_
          refine AT.region ?_   -- region 13 net.go:35
          refine TrC.take rfl (step_assign rfl rfl rfl) ?_   -- 0
          refine TrC.done ?_
          refine AT.ret ?_
          exact Ret.one rfl (ResR.tmp rfl (conv_b hs.symm))
        · -- t60 = false
          refine TrC.take ⟨_, _, rfl, rfl, rfl⟩ (step_move rfl rfl rfl) ?_   -- 16
          refine TrC.take ⟨_, _, rfl, rfl, rfl⟩ (step_bin rfl rfl rfl rfl rfl) ?_   -- 17
          refine TrC.take ⟨_, _, rfl, rfl, rfl⟩ (step_move rfl rfl rfl) ?_   -- 18
          refine TrC.cases (d := 63) rfl (fun h63 => ?_) (fun h63 => ?_)
          · -- t63 = true
            have hpos : 0 < iy := by have h := h63; simp at h; omega
            have hq := getC (n := n) (i := iy - 1) (by omega)
            have hget2 : (n.cuts.map encC)[iy - 1]? = some (.agg [.i n.cuts[iy - 1].1, .i n.cuts[iy - 1].2]) := by rw [List.getElem?_map, List.getElem?_eq_getElem (by omega)]; rfl
            refine TrC.take ⟨_, _, rfl, rfl, rfl⟩ (step_fieldAddrP rfl rfl fd30_1 rfl rfl) ?_   -- 19
            refine TrC.take ⟨_, _, rfl, rfl, rfl⟩ (step_loadP1 rfl rfl rfl ty28 rfl rfl) ?_   -- 20
            refine TrC.take ⟨_, _, rfl, rfl, rfl⟩ (step_move rfl rfl rfl) ?_   -- 21
            refine TrC.take ⟨_, _, rfl, rfl, rfl⟩ (step_subI rfl rfl rfl (by omega) (by omega) rfl) ?_   -- 22
            refine TrC.take ⟨_, _, rfl, rfl, rfl⟩ (step_indexAddrT (v := .agg [.i n.cuts[iy - 1].1, .i n.cuts[iy - 1].2]) rfl rfl rfl sl28 (by omega) (by rw [show ((iy : Int) - 1).toNat = iy - 1 from by omega]; exact hget2) rfl rfl) ?_   -- 23
            refine TrC.take ⟨_, _, rfl, rfl, rfl⟩ (step_loadTN rfl rfl ty32 rfl rfl) ?_   -- 24
            refine TrC.take ⟨_, _, rfl, rfl, rfl⟩ (step_loadPN rfl rfl rfl ty32 rfl rfl rfl) ?_   -- 25
            refine TrC.take ⟨_, _, rfl, rfl, rfl⟩ (step_call0 rfl rfl (C36 n.cuts[iy - 1] n.cuts[iy]) rfl) ?_   -- 26
            refine TrC.take ⟨_, _, rfl, rfl, rfl⟩ (step_bin rfl rfl rfl rfl rfl) ?_   -- 27
            refine TrC.take ⟨_, _, rfl, rfl, rfl⟩ (step_pick rfl rfl rfl rfl) ?_   -- 28
            refine TrC.take rfl (step_pick rfl rfl rfl rfl) ?_   -- 29
            refine TrC.doneD rfl ?_
            refine AT.cond rfl (fun h74 => ?_) (fun h74 => ?_)   -- t74
            · -- true
              have hs : valid n = false := by
                refine valid_badC hlt ?_
                rw [Bool.eq_false_iff]; intro hg
                rw [okC_iff hlt] at hg
                obtain ⟨g1, g2, g3⟩ := hg
                rcases g3 with g3 | g3
                · omega
                · rw [hq] at g3; have := (order_neg _ _).2 g3; have h := h74; simp at h; omega
              refine AT.seq ?_
              refine AT.region ?_   -- region 13 net.go:35
              refine TrC.take rfl (step_assign rfl rfl rfl) ?_   -- 0
              refine TrC.done ?_
              refine AT.ret ?_
              exact Ret.one rfl (ResR.tmp rfl (conv_b hs.symm))
            · -- false
              refine AT.skip ?_
              refine AT.region ?_   -- region 14 net.go:33
              refine TrC.take rfl (step_addI rfl rfl rfl (by omega) (by omega) rfl) ?_   -- 0
              refine TrC.take rfl (step_move rfl rfl rfl) ?_   -- 1
              refine TrC.done ?_
              have hgood : okC n iy = true := by
                rw [okC_iff hlt]
                refine ⟨by simpa using h51, by rw [Prod.ext_iff]; simpa using h60, ?_⟩
                first
                | (right; rw [hq, ← Bool.not_eq_false]; intro hle; have := order_neg n.cuts[iy - 1] n.cuts[iy]; rw [hle] at this; have h := h74; simp at h; simp at this; omega)
                | exact .inl hz
              exact ⟨iy + 1, ⟨by omega, fun j hji => by
                by_cases he : j = iy
                · subst he; exact hgood
                · exact hypre j (by omega)⟩, by show n.cuts.length - (iy + 1) < n.cuts.length - iy; omega, Sat.wk [] (.cons (.p rfl) (.cons (.t (.refl _)) (.cons (.t (.refl _)) (.cons (.t (conv_i (by simp))) (.nil))))) (.cons rfl (.box (.cons (.t (.refl _)) (.cons (.t (.refl _)) (.cons (.t (.refl _)) (.nil))))) (.nil)) rfl rfl⟩
          · -- t63 = false
            have hz : iy = 0 := by have h := h63; simp at h; omega
            refine TrC.skip ⟨_, _, rfl, rfl, rfl⟩ ?_   -- 19
            refine TrC.skip ⟨_, _, rfl, rfl, rfl⟩ ?_   -- 20
            refine TrC.skip ⟨_, _, rfl, rfl, rfl⟩ ?_   -- 21
            refine TrC.skip ⟨_, _, rfl, rfl, rfl⟩ ?_   -- 22
            refine TrC.skip ⟨_, _, rfl, rfl, rfl⟩ ?_   -- 23
            refine TrC.skip ⟨_, _, rfl, rfl, rfl⟩ ?_   -- 24
            refine TrC.skip ⟨_, _, rfl, rfl, rfl⟩ ?_   -- 25
            refine TrC.skip ⟨_, _, rfl, rfl, rfl⟩ ?_   -- 26
            refine TrC.skip ⟨_, _, rfl, rfl, rfl⟩ ?_   -- 27
            refine TrC.take ⟨_, _, rfl, rfl, rfl⟩ (step_pick rfl rfl rfl rfl) ?_   -- 28
            refine TrC.take rfl (step_pick rfl rfl rfl rfl) ?_   -- 29
            refine TrC.doneD rfl ?_
            refine AT.condF rfl ?_   -- t74
            refine AT.skip ?_
            refine AT.region ?_   -- region 14 net.go:33
            refine TrC.take rfl (step_addI rfl rfl rfl (by omega) (by omega) rfl) ?_   -- 0
            refine TrC.take rfl (step_move rfl rfl rfl) ?_   -- 1
            refine TrC.done ?_
            have hgood : okC n iy = true := by
              rw [okC_iff hlt]
              refine ⟨by simpa using h51, by rw [Prod.ext_iff]; simpa using h60, ?_⟩
              first
              | (right; rw [hq, ← Bool.not_eq_false]; intro hle; have := order_neg n.cuts[iy - 1] n.cuts[iy]; rw [hle] at this; have h := h74; simp at h; simp at this; omega)
              | exact .inl hz
            exact ⟨iy + 1, ⟨by omega, fun j hji => by
              by_cases he : j = iy
              · subst he; exact hgood
              · exact hypre j (by omega)⟩, by show n.cuts.length - (iy + 1) < n.cuts.length - iy; omega, Sat.wk [] (.cons (.p rfl) (.cons (.t (.refl _)) (.cons (.t (.refl _)) (.cons (.t (conv_i (by simp))) (.nil))))) (.cons rfl (.box (.cons (.t (.refl _)) (.cons (.t (.refl _)) (.cons (.t (.refl _)) (.nil))))) (.nil)) rfl rfl⟩
    · -- false
      have hge : ¬ iy < n.cuts.length := by simpa using h41
      have hB : ∀ i, i < n.cuts.length → okC n i = true := fun i hi => hypre i (by omega)
      refine AT.exit (Or.inl ⟨rfl, ?_⟩)   -- exit 2
      refine AT.seq ?_
      have hs : valid n = (decide (n.fl.length ≤ 200) && decide (n.cuts.length ≤ 200) && decide (1 ≤ n.next) && decide (n.next ≤ 1000000000)) := by unfold valid; rw [decide_eq_true hA, decide_eq_true hB]; rfl
      refine AT.region ?_   -- region 15 net.go:38
      refine TrC.take rfl (step_fieldAddrP rfl rfl fd30_0 rfl rfl) ?_   -- 0
      refine TrC.take rfl (step_loadP1 rfl rfl rfl ty27 rfl rfl) ?_   -- 1
      refine TrC.take rfl (step_lenT (rt := 0) rfl rfl sl27 rfl) ?_   -- 2
      refine TrC.take rfl (step_fieldAddrP rfl rfl fd30_1 rfl rfl) ?_   -- 3
      refine TrC.take rfl (step_loadP1 rfl rfl rfl ty28 rfl rfl) ?_   -- 4
      refine TrC.take rfl (step_lenT (rt := 0) rfl rfl sl28 rfl) ?_   -- 5
      refine TrC.take rfl (step_max rfl rfl rfl rfl) ?_   -- 6
      refine TrC.take rfl (step_bin rfl rfl rfl rfl rfl) ?_   -- 7
      refine TrC.take rfl (step_move rfl rfl rfl) ?_   -- 8
      refine TrC.cases (d := 84) rfl (fun h84 => ?_) (fun h84 => ?_)
      · -- t84 = true
        refine TrC.take ⟨_, _, rfl, rfl, rfl⟩ (step_fieldAddrP rfl rfl fd30_2 rfl rfl) ?_   -- 9
        refine TrC.take ⟨_, _, rfl, rfl, rfl⟩ (step_loadP1 rfl rfl rfl ty3 rfl rfl) ?_   -- 10
        refine TrC.take ⟨_, _, rfl, rfl, rfl⟩ (step_bin rfl rfl rfl rfl rfl) ?_   -- 11
        refine TrC.take rfl (step_pick rfl rfl rfl rfl) ?_   -- 12
        refine TrC.take rfl (step_move rfl rfl rfl) ?_   -- 13
        refine TrC.cases (d := 89) rfl (fun h89 => ?_) (fun h89 => ?_)
        · -- t89 = true
          refine TrC.take ⟨_, _, rfl, rfl, rfl⟩ (step_fieldAddrP rfl rfl fd30_2 rfl rfl) ?_   -- 14
          refine TrC.take ⟨_, _, rfl, rfl, rfl⟩ (step_loadP1 rfl rfl rfl ty3 rfl rfl) ?_   -- 15
          refine TrC.take ⟨_, _, rfl, rfl, rfl⟩ (step_bin rfl rfl rfl rfl rfl) ?_   -- 16
          refine TrC.take rfl (step_pick rfl rfl rfl rfl) ?_   -- 17
          refine TrC.take rfl (step_assign rfl rfl rfl) ?_   -- 18
          refine TrC.done ?_
          refine AT.ret ?_
          exact Ret.one rfl (ResR.tmp rfl (conv_b (by rw [hs]; first | (simp_all; done) | (rw [Bool.eq_iff_iff]; simp_all <;> omega))))
        · -- t89 = false
          refine TrC.skip ⟨_, _, rfl, rfl, rfl⟩ ?_   -- 14
          refine TrC.skip ⟨_, _, rfl, rfl, rfl⟩ ?_   -- 15
          refine TrC.skip ⟨_, _, rfl, rfl, rfl⟩ ?_   -- 16
          refine TrC.take rfl (step_pick rfl rfl rfl rfl) ?_   -- 17
          refine TrC.take rfl (step_assign rfl rfl rfl) ?_   -- 18
          refine TrC.done ?_
          refine AT.ret ?_
          exact Ret.one rfl (ResR.tmp rfl (conv_b (by rw [hs]; first | (simp_all; done) | (rw [Bool.eq_iff_iff]; simp_all <;> omega))))
      · -- t84 = false
        refine TrC.skip ⟨_, _, rfl, rfl, rfl⟩ ?_   -- 9
        refine TrC.skip ⟨_, _, rfl, rfl, rfl⟩ ?_   -- 10
        refine TrC.skip ⟨_, _, rfl, rfl, rfl⟩ ?_   -- 11
        refine TrC.take rfl (step_pick rfl rfl rfl rfl) ?_   -- 12
        refine TrC.take rfl (step_move rfl rfl rfl) ?_   -- 13
        refine TrC.skip ⟨_, _, rfl, rfl, rfl⟩ ?_   -- 14
        refine TrC.skip ⟨_, _, rfl, rfl, rfl⟩ ?_   -- 15
        refine TrC.skip ⟨_, _, rfl, rfl, rfl⟩ ?_   -- 16
        refine TrC.take rfl (step_pick rfl rfl rfl rfl) ?_   -- 17
        refine TrC.take rfl (step_assign rfl rfl rfl) ?_   -- 18
        refine TrC.done ?_
        refine AT.ret ?_
        exact Ret.one rfl (ResR.tmp rfl (conv_b (by rw [hs]; first | (simp_all; done) | (rw [Bool.eq_iff_iff]; simp_all <;> omega))))

end Go.Proofs.Ytnemmdbafngppaa.Net

/- Contracts of the net functions for valid nets. No condition. -/
set_option linter.unusedVariables false
namespace Go.Proofs.Ytnemmdbafngppaa.Net
open Go.Proofs.Ytnemmdbafngppaa.Abs
variable {n m : Net} (h : VN n) (hm : VN m) (a b : Int)
include h
theorem VN.l1 : n.fl.length ≤ 1000000 := by have := h.nl; omega
theorem VN.l2 : n.cuts.length ≤ 1000000 := by have := h.cl; omega
theorem VN.x0 : -1000000000000 ≤ n.next := by have := h.n1; omega
theorem D13 : Has Try.prog 13 [encN n, .i a, .i b] (encSent (send n a b)) := C13 n a b h.l1 h.x0
theorem D14 : Has Try.prog 14 [encN n, .i a, .i b] (encSent (send n a b)) := C14 n a b h.l1 h.x0
theorem D15 (m : Net) : Has Try.prog 15 [encN n, encN m] (.b (decide (n = m))) := C15 n m h.l1 h.l2
theorem D17 : Has Try.prog 17 [encN n, .i a] (encTaken (take n a)) := C17 n a h.l1 h.l2 h.sp h.sc
theorem D18 : Has Try.prog 18 [encN n, .i a] (encTaken (take n a)) := C18 n a h.l1 h.l2
theorem D19 : Has Try.prog 19 [encN n, .i a, .i b] (.b (reach n a b)) := C19 n a b h.l2 h.sc
theorem D20 : Has Try.prog 20 [encN n, .i a, .i b] (.b (reach n a b)) := C20 n a b h.l2
theorem D21 (w : Int) : Has Try.prog 21 [encN n, .i w, .agg [.i a, .i b]] (encTaken (doneN n w a b)) := C21 n w a b h.l1 h.l2 h.x0 h.sp h.sc h.pt
theorem D22 : Has Try.prog 22 [encN n, .i a] (encTaken (lose n a)) := C22 n a h.l1
theorem D23 : Has Try.prog 23 [encN n, .i a] (encTaken (double n a)) := C23 n a h.l1 h.x0
theorem D24 : Has Try.prog 24 [encN n, .i a, .i b] (encTaken (sever n a b)) := C24 n a b h.l2
theorem D25 : Has Try.prog 25 [encN n, .i a, .i b] (encTaken (heal n a b)) := C25 n a b h.l2
theorem D26 : Has Try.prog 26 [encN n] (.b true) := (C26 n h.l1 h.l2).eq (bv h.valid)
theorem D27 : Has Try.prog 27 [encN n] (.b true) := (C27 n h.l1 h.l2).eq (bv h.valid)
omit h
theorem vn {n : Net} (h : valid n = true) : VN n := (valid_iff n).1 h
theorem es {x y : Sent} (h : x = y) : encSent x = encSent y := congrArg encSent h
theorem et {x y : Taken} (h : x = y) : encTaken x = encTaken y := congrArg encTaken h
theorem lose_p (n : Net) (a : Int) : (lose n a).p = p0 := by unfold lose; cases findIx n a <;> rfl
theorem double_p (n : Net) (a : Int) : (double n a).p = p0 := by unfold double; cases findIx n a <;> rfl
theorem sever_p (n : Net) (a b : Int) : (sever n a b).p = p0 := by
  unfold sever
  split
  · split
    · split <;> rfl
    · rfl
  · rfl
theorem heal_p (n : Net) (a b : Int) : (heal n a b).p = p0 := by
  unfold heal
  split
  · cases cutIx n a b <;> rfl
  · rfl
theorem tk_ext {x : Taken} (h : x.p = p0) : (⟨x.n, p0, x.e⟩ : Taken) = x := by cases x; simp_all
theorem dn0 (n : Net) (a b : Int) : doneN n 0 a b = lose n a := tk_ext (lose_p n a)
theorem dn1 (n : Net) (a b : Int) : doneN n 1 a b = double n a := tk_ext (double_p n a)
theorem dn2 (n : Net) (a b : Int) : doneN n 2 a b = sever n a b := tk_ext (sever_p n a b)
theorem dn3 (n : Net) (a b : Int) : doneN n 3 a b = heal n a b := tk_ext (heal_p n a b)
/-! ### The nets of the fixed examples -/
def xA : Net := ⟨[⟨1, 1, 2⟩], [], 2⟩
def xB : Net := ⟨[⟨1, 1, 2⟩, ⟨2, 1, 2⟩], [], 3⟩
def xC : Net := ⟨[⟨1, 1, 2⟩, ⟨2, 1, 2⟩], [(1, 2)], 3⟩
def xT : Net := ⟨[⟨2, 1, 2⟩], [], 3⟩
def xD : Net := ⟨[⟨1, 1, 2⟩, ⟨2, 1, 2⟩, ⟨3, 1, 2⟩], [], 4⟩
def xL : Net := ⟨[⟨1, 1, 2⟩, ⟨3, 1, 2⟩], [], 4⟩
theorem vA : VN xA := vn (by decide)
theorem vB : VN xB := vn (by decide)
theorem vC : VN xC := vn (by decide)
theorem vT : VN xT := vn (by decide)
theorem vD : VN xD := vn (by decide)
theorem vL : VN xL := vn (by decide)
theorem k1 : send ⟨[], [], 1⟩ 1 2 = ⟨xA, 1, 0⟩ := by decide
theorem k2 : send xA 1 2 = ⟨xB, 2, 0⟩ := by decide
theorem k3 : doneN xB 2 2 1 = ⟨xC, p0, 0⟩ := by decide
theorem k4 : take xC 1 = ⟨xC, p0, 320⟩ := by decide
theorem k5 : doneN xC 3 1 2 = ⟨xB, p0, 0⟩ := by decide
theorem k6 : take xB 1 = ⟨xT, ⟨1, 1, 2⟩, 0⟩ := by decide
theorem k7 : doneN xB 1 2 0 = ⟨xD, p0, 0⟩ := by decide
theorem k8 : doneN xD 0 2 0 = ⟨xL, p0, 0⟩ := by decide
theorem k9 : take xT 1 = ⟨xT, p0, 90⟩ := by decide
theorem k10 : take xL 3 = ⟨⟨[⟨1, 1, 2⟩], [], 4⟩, ⟨3, 1, 2⟩, 0⟩ := by decide
theorem k11 : send xB 1 1 = ⟨xB, 0, 1⟩ := by decide
theorem k12 : reach xC 1 2 = false := by decide
theorem k13 : reach xC 1 3 = true := by decide
theorem k14 : valid ⟨[], [], 0⟩ = false := by decide
end Go.Proofs.Ytnemmdbafngppaa.Net

/- Contracts of functions of this translation. Printed by wip/tools/gen.py out of wip/net/ann.py. No condition. -/
set_option linter.unusedVariables false
set_option linter.unusedSimpArgs false
namespace Go.Proofs.Ytnemmdbafngppaa.Net
open Go.Proofs.Ytnemmdbafngppaa.Abs
set_option maxRecDepth 100000
set_option maxHeartbeats 4000000
theorem C11 : Has Try.prog 11 [] (.b true) := by   -- burgage/burgagelaw32.sanity
  refine Has.intro 163 Try.func11 (by kernel_rfl) rfl rfl fun w ok => ?_
  refine AT.seq ?_
  refine AT.region ?_   -- region 0 law.go:39
  refine TrC.take rfl (step_assign rfl rfl rfl) ?_   -- 0
  refine TrC.done ?_
  refine AT.seq ?_
  refine AT.region ?_   -- region 1 law.go:40
  refine TrC.take rfl (step_buildC rfl ze30 zc30 rfl pl30 rfl rfl rfl rfl) ?_   -- 0
  refine TrC.take rfl (step_call0 rfl rfl ((D13 VN.made0 1 2).eq (es k1)) rfl) ?_   -- 1
  refine TrC.take rfl (step_allocC rfl rfl ze35 zc35 rfl rfl rfl) ?_   -- 2
  refine TrC.take rfl (step_storeP rfl rfl rfl rfl rfl (.inl rfl) ty35 rfl rfl rfl) ?_   -- 3
  refine TrC.done ?_
  refine AT.seq ?_
  refine AT.seq ?_
  refine AT.region ?_   -- region 2 law.go:41
  refine TrC.take rfl (step_fieldAddrP rfl rfl fd35_2 rfl rfl) ?_   -- 0
  refine TrC.take rfl (step_loadP1 rfl rfl rfl ty33 rfl rfl) ?_   -- 1
  refine TrC.take rfl (step_bin rfl rfl rfl rfl rfl) ?_   -- 2
  refine TrC.spell 12 rfl (bv (b := false) (by decide)) ?_
  refine TrC.take rfl (step_move rfl rfl rfl) ?_   -- 3
  refine TrC.take ⟨_, _, rfl, rfl, rfl⟩ (step_fieldAddrP rfl rfl fd35_1 rfl rfl) ?_   -- 4
  refine TrC.take ⟨_, _, rfl, rfl, rfl⟩ (step_loadP1 rfl rfl rfl ty3 rfl rfl) ?_   -- 5
  refine TrC.take ⟨_, _, rfl, rfl, rfl⟩ (step_bin rfl rfl rfl rfl rfl) ?_   -- 6
  refine TrC.spell 16 rfl (bv (b := false) (by decide)) ?_
  refine TrC.take rfl (step_pick rfl rfl rfl rfl) ?_   -- 7
  refine TrC.take rfl (step_move rfl rfl rfl) ?_   -- 8
  refine TrC.take ⟨_, _, rfl, rfl, rfl⟩ (step_fieldAddrP rfl rfl fd35_0 rfl rfl) ?_   -- 9
  refine TrC.take ⟨_, _, rfl, rfl, rfl⟩ (step_loadPN rfl rfl rfl ty30 rfl rfl rfl) ?_   -- 10
  refine TrC.take ⟨_, _, rfl, rfl, rfl⟩ (step_call0 rfl rfl (D27 vA) rfl) ?_   -- 11
  refine TrC.spell 21 rfl (bv (b := true) (rfl)) ?_
  refine TrC.take ⟨_, _, rfl, rfl, rfl⟩ (step_not rfl rfl rfl) ?_   -- 12
  refine TrC.take rfl (step_pick rfl rfl rfl rfl) ?_   -- 13
  refine TrC.done ?_
  refine AT.condF rfl ?_   -- t23
  refine AT.skip ?_
  refine AT.seq ?_
  refine AT.region ?_   -- region 4 law.go:44
  refine TrC.take rfl (step_fieldAddrP rfl rfl fd35_0 rfl rfl) ?_   -- 0
  refine TrC.take rfl (step_loadPN rfl rfl rfl ty30 rfl rfl rfl) ?_   -- 1
  refine TrC.take rfl (step_call0 rfl rfl ((D13 vA 1 2).eq (es k2)) rfl) ?_   -- 2
  refine TrC.take rfl (step_allocC rfl rfl ze35 zc35 rfl rfl rfl) ?_   -- 3
  refine TrC.take rfl (step_storeP rfl rfl rfl rfl rfl (.inl rfl) ty35 rfl rfl rfl) ?_   -- 4
  refine TrC.done ?_
  refine AT.seq ?_
  refine AT.seq ?_
  refine AT.region ?_   -- region 5 law.go:45
  refine TrC.take rfl (step_fieldAddrP rfl rfl fd35_2 rfl rfl) ?_   -- 0
  refine TrC.take rfl (step_loadP1 rfl rfl rfl ty33 rfl rfl) ?_   -- 1
  refine TrC.take rfl (step_bin rfl rfl rfl rfl rfl) ?_   -- 2
  refine TrC.spell 29 rfl (bv (b := false) (by decide)) ?_
  refine TrC.take rfl (step_move rfl rfl rfl) ?_   -- 3
  refine TrC.take ⟨_, _, rfl, rfl, rfl⟩ (step_fieldAddrP rfl rfl fd35_1 rfl rfl) ?_   -- 4
  refine TrC.take ⟨_, _, rfl, rfl, rfl⟩ (step_loadP1 rfl rfl rfl ty3 rfl rfl) ?_   -- 5
  refine TrC.take ⟨_, _, rfl, rfl, rfl⟩ (step_bin rfl rfl rfl rfl rfl) ?_   -- 6
  refine TrC.spell 33 rfl (bv (b := false) (by decide)) ?_
  refine TrC.take rfl (step_pick rfl rfl rfl rfl) ?_   -- 7
  refine TrC.take rfl (step_move rfl rfl rfl) ?_   -- 8
  refine TrC.take ⟨_, _, rfl, rfl, rfl⟩ (step_fieldAddrP rfl rfl fd35_0 rfl rfl) ?_   -- 9
  refine TrC.take ⟨_, _, rfl, rfl, rfl⟩ (step_loadPN rfl rfl rfl ty30 rfl rfl rfl) ?_   -- 10
  refine TrC.take ⟨_, _, rfl, rfl, rfl⟩ (step_call0 rfl rfl (D27 vB) rfl) ?_   -- 11
  refine TrC.spell 38 rfl (bv (b := true) (rfl)) ?_
  refine TrC.take ⟨_, _, rfl, rfl, rfl⟩ (step_not rfl rfl rfl) ?_   -- 12
  refine TrC.take rfl (step_pick rfl rfl rfl rfl) ?_   -- 13
  refine TrC.done ?_
  refine AT.condF rfl ?_   -- t40
  refine AT.skip ?_
  refine AT.seq ?_
  refine AT.region ?_   -- region 7 law.go:48
  refine TrC.take rfl (step_fieldAddrP rfl rfl fd35_0 rfl rfl) ?_   -- 0
  refine TrC.take rfl (step_loadPN rfl rfl rfl ty30 rfl rfl rfl) ?_   -- 1
  refine TrC.take rfl (step_buildA rfl ze32 rfl ar32 rfl rfl rfl rfl) ?_   -- 2
  refine TrC.take rfl (step_call0 rfl rfl ((D21 vB 2 1 2).eq (et k3)) rfl) ?_   -- 3
  refine TrC.take rfl (step_allocC rfl rfl ze40 zc40 rfl rfl rfl) ?_   -- 4
  refine TrC.take rfl (step_storeP rfl rfl rfl rfl rfl (.inl rfl) ty40 rfl rfl rfl) ?_   -- 5
  refine TrC.done ?_
  refine AT.seq ?_
  refine AT.seq ?_
  refine AT.region ?_   -- region 8 law.go:49
  refine TrC.take rfl (step_fieldAddrP rfl rfl fd40_2 rfl rfl) ?_   -- 0
  refine TrC.take rfl (step_loadP1 rfl rfl rfl ty33 rfl rfl) ?_   -- 1
  refine TrC.take rfl (step_bin rfl rfl rfl rfl rfl) ?_   -- 2
  refine TrC.spell 47 rfl (bv (b := false) (by decide)) ?_
  refine TrC.take rfl (step_move rfl rfl rfl) ?_   -- 3
  refine TrC.take ⟨_, _, rfl, rfl, rfl⟩ (step_fieldAddrP rfl rfl fd40_0 rfl rfl) ?_   -- 4
  refine TrC.take ⟨_, _, rfl, rfl, rfl⟩ (step_loadPN rfl rfl rfl ty30 rfl rfl rfl) ?_   -- 5
  refine TrC.take ⟨_, _, rfl, rfl, rfl⟩ (step_call0 rfl rfl (D27 vC) rfl) ?_   -- 6
  refine TrC.spell 51 rfl (bv (b := true) (rfl)) ?_
  refine TrC.take ⟨_, _, rfl, rfl, rfl⟩ (step_not rfl rfl rfl) ?_   -- 7
  refine TrC.take rfl (step_pick rfl rfl rfl rfl) ?_   -- 8
  refine TrC.take rfl (step_move rfl rfl rfl) ?_   -- 9
  refine TrC.take ⟨_, _, rfl, rfl, rfl⟩ (step_fieldAddrP rfl rfl fd40_0 rfl rfl) ?_   -- 10
  refine TrC.take ⟨_, _, rfl, rfl, rfl⟩ (step_loadPN rfl rfl rfl ty30 rfl rfl rfl) ?_   -- 11
  refine TrC.take ⟨_, _, rfl, rfl, rfl⟩ (step_call0 rfl rfl ((D17 vC 1).eq (et k4)) rfl) ?_   -- 12
  refine TrC.take ⟨_, _, rfl, rfl, rfl⟩ (step_field1 rfl rfl fd40_2 ty33 rfl rfl) ?_   -- 13
  refine TrC.take ⟨_, _, rfl, rfl, rfl⟩ (step_bin rfl rfl rfl rfl rfl) ?_   -- 14
  refine TrC.spell 59 rfl (bv (b := false) (by decide)) ?_
  refine TrC.take rfl (step_pick rfl rfl rfl rfl) ?_   -- 15
  refine TrC.done ?_
  refine AT.condF rfl ?_   -- t60
  refine AT.skip ?_
  refine AT.seq ?_
  refine AT.region ?_   -- region 10 law.go:52
  refine TrC.take rfl (step_fieldAddrP rfl rfl fd40_0 rfl rfl) ?_   -- 0
  refine TrC.take rfl (step_loadPN rfl rfl rfl ty30 rfl rfl rfl) ?_   -- 1
  refine TrC.take rfl (step_buildA rfl ze32 rfl ar32 rfl rfl rfl rfl) ?_   -- 2
  refine TrC.take rfl (step_call0 rfl rfl ((D21 vC 1 2 3).eq (et k5)) rfl) ?_   -- 3
  refine TrC.take rfl (step_allocC rfl rfl ze40 zc40 rfl rfl rfl) ?_   -- 4
  refine TrC.take rfl (step_storeP rfl rfl rfl rfl rfl (.inl rfl) ty40 rfl rfl rfl) ?_   -- 5
  refine TrC.done ?_
  refine AT.seq ?_
  refine AT.seq ?_
  refine AT.region ?_   -- region 11 law.go:53
  refine TrC.take rfl (step_fieldAddrP rfl rfl fd40_2 rfl rfl) ?_   -- 0
  refine TrC.take rfl (step_loadP1 rfl rfl rfl ty33 rfl rfl) ?_   -- 1
  refine TrC.take rfl (step_bin rfl rfl rfl rfl rfl) ?_   -- 2
  refine TrC.spell 67 rfl (bv (b := false) (by decide)) ?_
  refine TrC.take rfl (step_move rfl rfl rfl) ?_   -- 3
  refine TrC.take ⟨_, _, rfl, rfl, rfl⟩ (step_fieldAddrP rfl rfl fd40_0 rfl rfl) ?_   -- 4
  refine TrC.take ⟨_, _, rfl, rfl, rfl⟩ (step_loadPN rfl rfl rfl ty30 rfl rfl rfl) ?_   -- 5
  refine TrC.take ⟨_, _, rfl, rfl, rfl⟩ (step_fieldAddrP rfl rfl fd35_0 rfl rfl) ?_   -- 6
  refine TrC.take ⟨_, _, rfl, rfl, rfl⟩ (step_loadPN rfl rfl rfl ty30 rfl rfl rfl) ?_   -- 7
  refine TrC.take ⟨_, _, rfl, rfl, rfl⟩ (step_call0 rfl rfl (D15 vB xB) rfl) ?_   -- 8
  refine TrC.spell 73 rfl (bv (b := true) (by decide)) ?_
  refine TrC.take ⟨_, _, rfl, rfl, rfl⟩ (step_not rfl rfl rfl) ?_   -- 9
  refine TrC.take rfl (step_pick rfl rfl rfl rfl) ?_   -- 10
  refine TrC.done ?_
  refine AT.condF rfl ?_   -- t75
  refine AT.skip ?_
  refine AT.seq ?_
  refine AT.regionD mixed rfl ?_   -- region 13 law.go:56
  refine TrC.take rfl (step_fieldAddrP rfl rfl fd35_0 rfl rfl) ?_   -- 0
  refine TrC.take rfl (step_loadPN rfl rfl rfl ty30 rfl rfl rfl) ?_   -- 1
  refine TrC.take rfl (step_call0 rfl rfl ((D17 vB 1).eq (et k6)) rfl) ?_   -- 2
  refine TrC.take rfl (step_fieldAddrP rfl rfl fd35_0 rfl rfl) ?_   -- 3
  refine TrC.take rfl (step_loadPN rfl rfl rfl ty30 rfl rfl rfl) ?_   -- 4
  refine TrC.take rfl (step_buildA rfl ze32 rfl ar32 rfl rfl rfl rfl) ?_   -- 5
  refine TrC.take rfl (step_call0 rfl rfl ((D21 vB 2 0 1).eq (et k7)) rfl) ?_   -- 6
  refine TrC.take rfl (step_allocC rfl rfl ze40 zc40 rfl rfl rfl) ?_   -- 7
  refine TrC.take rfl (step_allocC rfl rfl ze40 zc40 rfl rfl rfl) ?_   -- 8
  refine TrC.take rfl (step_storeP rfl rfl rfl rfl rfl (.inl rfl) ty40 rfl rfl rfl) ?_   -- 9
  refine TrC.take rfl (step_storeP rfl rfl rfl rfl rfl (.inl rfl) ty40 rfl rfl rfl) ?_   -- 10
  refine TrC.doneD rfl ?_
  refine AT.seq ?_
  refine AT.seq ?_
  refine AT.region ?_   -- region 14 law.go:57
  refine TrC.take rfl (step_fieldAddrP rfl rfl fd40_2 rfl rfl) ?_   -- 0
  refine TrC.take rfl (step_loadP1 rfl rfl rfl ty33 rfl rfl) ?_   -- 1
  refine TrC.take rfl (step_bin rfl rfl rfl rfl rfl) ?_   -- 2
  refine TrC.spell 85 rfl (bv (b := false) (by decide)) ?_
  refine TrC.take rfl (step_move rfl rfl rfl) ?_   -- 3
  refine TrC.take ⟨_, _, rfl, rfl, rfl⟩ (step_fieldAddrP rfl rfl fd40_1 rfl rfl) ?_   -- 4
  refine TrC.take ⟨_, _, rfl, rfl, rfl⟩ (step_loadPN rfl rfl rfl ty25 rfl rfl rfl) ?_   -- 5
  refine TrC.take ⟨_, _, rfl, rfl, rfl⟩ (step_buildS rfl ze25 rfl pl25 rfl rfl rfl rfl) ?_   -- 6
  refine TrC.take ⟨_, _, rfl, rfl, rfl⟩ (step_nea rfl rfl rfl rfl rfl ty25 eg25 (eq25 _ _ _ _ _ _) rfl) ?_   -- 7
  refine TrC.spell 90 rfl (bv (b := false) (by decide)) ?_
  refine TrC.take rfl (step_pick rfl rfl rfl rfl) ?_   -- 8
  refine TrC.take rfl (step_move rfl rfl rfl) ?_   -- 9
  refine TrC.take ⟨_, _, rfl, rfl, rfl⟩ (step_fieldAddrP rfl rfl fd40_0 rfl rfl) ?_   -- 10
  refine TrC.take ⟨_, _, rfl, rfl, rfl⟩ (step_loadPN rfl rfl rfl ty30 rfl rfl rfl) ?_   -- 11
  refine TrC.take ⟨_, _, rfl, rfl, rfl⟩ (step_call0 rfl rfl (D27 vT) rfl) ?_   -- 12
  refine TrC.spell 95 rfl (bv (b := true) (rfl)) ?_
  refine TrC.take ⟨_, _, rfl, rfl, rfl⟩ (step_not rfl rfl rfl) ?_   -- 13
  refine TrC.take rfl (step_pick rfl rfl rfl rfl) ?_   -- 14
  refine TrC.take rfl (step_move rfl rfl rfl) ?_   -- 15
  refine TrC.take ⟨_, _, rfl, rfl, rfl⟩ (step_fieldAddrP rfl rfl fd40_2 rfl rfl) ?_   -- 16
  refine TrC.take ⟨_, _, rfl, rfl, rfl⟩ (step_loadP1 rfl rfl rfl ty33 rfl rfl) ?_   -- 17
  refine TrC.take ⟨_, _, rfl, rfl, rfl⟩ (step_bin rfl rfl rfl rfl rfl) ?_   -- 18
  refine TrC.spell 101 rfl (bv (b := false) (by decide)) ?_
  refine TrC.take rfl (step_pick rfl rfl rfl rfl) ?_   -- 19
  refine TrC.take rfl (step_move rfl rfl rfl) ?_   -- 20
  refine TrC.take ⟨_, _, rfl, rfl, rfl⟩ (step_fieldAddrP rfl rfl fd40_0 rfl rfl) ?_   -- 21
  refine TrC.take ⟨_, _, rfl, rfl, rfl⟩ (step_loadPN rfl rfl rfl ty30 rfl rfl rfl) ?_   -- 22
  refine TrC.take ⟨_, _, rfl, rfl, rfl⟩ (step_call0 rfl rfl (D27 vD) rfl) ?_   -- 23
  refine TrC.spell 106 rfl (bv (b := true) (rfl)) ?_
  refine TrC.take ⟨_, _, rfl, rfl, rfl⟩ (step_not rfl rfl rfl) ?_   -- 24
  refine TrC.take rfl (step_pick rfl rfl rfl rfl) ?_   -- 25
  refine TrC.done ?_
  refine AT.condF rfl ?_   -- t108
  refine AT.skip ?_
  refine AT.seq ?_
  refine AT.region ?_   -- region 16 law.go:60
  refine TrC.take rfl (step_fieldAddrP rfl rfl fd40_0 rfl rfl) ?_   -- 0
  refine TrC.take rfl (step_loadPN rfl rfl rfl ty30 rfl rfl rfl) ?_   -- 1
  refine TrC.take rfl (step_buildA rfl ze32 rfl ar32 rfl rfl rfl rfl) ?_   -- 2
  refine TrC.take rfl (step_call0 rfl rfl ((D21 vD 2 0 0).eq (et k8)) rfl) ?_   -- 3
  refine TrC.take rfl (step_allocC rfl rfl ze40 zc40 rfl rfl rfl) ?_   -- 4
  refine TrC.take rfl (step_storeP rfl rfl rfl rfl rfl (.inl rfl) ty40 rfl rfl rfl) ?_   -- 5
  refine TrC.done ?_
  refine AT.seq ?_
  refine AT.seq ?_
  refine AT.region ?_   -- region 17 law.go:61
  refine TrC.take rfl (step_fieldAddrP rfl rfl fd40_2 rfl rfl) ?_   -- 0
  refine TrC.take rfl (step_loadP1 rfl rfl rfl ty33 rfl rfl) ?_   -- 1
  refine TrC.take rfl (step_bin rfl rfl rfl rfl rfl) ?_   -- 2
  refine TrC.spell 115 rfl (bv (b := false) (by decide)) ?_
  refine TrC.take rfl (step_move rfl rfl rfl) ?_   -- 3
  refine TrC.take ⟨_, _, rfl, rfl, rfl⟩ (step_fieldAddrP rfl rfl fd40_0 rfl rfl) ?_   -- 4
  refine TrC.take ⟨_, _, rfl, rfl, rfl⟩ (step_loadPN rfl rfl rfl ty30 rfl rfl rfl) ?_   -- 5
  refine TrC.take ⟨_, _, rfl, rfl, rfl⟩ (step_call0 rfl rfl (D27 vL) rfl) ?_   -- 6
  refine TrC.spell 119 rfl (bv (b := true) (rfl)) ?_
  refine TrC.take ⟨_, _, rfl, rfl, rfl⟩ (step_not rfl rfl rfl) ?_   -- 7
  refine TrC.take rfl (step_pick rfl rfl rfl rfl) ?_   -- 8
  refine TrC.done ?_
  refine AT.condF rfl ?_   -- t121
  refine AT.skip ?_
  refine AT.seq ?_
  refine AT.region ?_   -- region 19 law.go:64
  refine TrC.take rfl (step_fieldAddrP rfl rfl fd40_0 rfl rfl) ?_   -- 0
  refine TrC.take rfl (step_loadPN rfl rfl rfl ty30 rfl rfl rfl) ?_   -- 1
  refine TrC.take rfl (step_call0 rfl rfl ((D17 vT 1).eq (et k9)) rfl) ?_   -- 2
  refine TrC.take rfl (step_field1 rfl rfl fd40_2 ty33 rfl rfl) ?_   -- 3
  refine TrC.take rfl (step_bin rfl rfl rfl rfl rfl) ?_   -- 4
  refine TrC.spell 126 rfl (bv (b := true) (by decide)) ?_
  refine TrC.take rfl (step_move rfl rfl rfl) ?_   -- 5
  refine TrC.take ⟨_, _, rfl, rfl, rfl⟩ (step_fieldAddrP rfl rfl fd40_0 rfl rfl) ?_   -- 6
  refine TrC.take ⟨_, _, rfl, rfl, rfl⟩ (step_loadPN rfl rfl rfl ty30 rfl rfl rfl) ?_   -- 7
  refine TrC.take ⟨_, _, rfl, rfl, rfl⟩ (step_call0 rfl rfl ((D17 vL 3).eq (et k10)) rfl) ?_   -- 8
  refine TrC.take ⟨_, _, rfl, rfl, rfl⟩ (step_fieldN rfl rfl fd40_1 ty25 rfl rfl) ?_   -- 9
  refine TrC.take ⟨_, _, rfl, rfl, rfl⟩ (step_buildS rfl ze25 rfl pl25 rfl rfl rfl rfl) ?_   -- 10
  refine TrC.take ⟨_, _, rfl, rfl, rfl⟩ (step_eqa rfl rfl rfl rfl rfl ty25 eg25 (eq25 _ _ _ _ _ _) rfl) ?_   -- 11
  refine TrC.spell 133 rfl (bv (b := true) (by decide)) ?_
  refine TrC.take rfl (step_pick rfl rfl rfl rfl) ?_   -- 12
  refine TrC.take rfl (step_move rfl rfl rfl) ?_   -- 13
  refine TrC.take ⟨_, _, rfl, rfl, rfl⟩ (step_fieldAddrP rfl rfl fd35_0 rfl rfl) ?_   -- 14
  refine TrC.take ⟨_, _, rfl, rfl, rfl⟩ (step_loadPN rfl rfl rfl ty30 rfl rfl rfl) ?_   -- 15
  refine TrC.take ⟨_, _, rfl, rfl, rfl⟩ (step_call0 rfl rfl ((D13 vB 1 1).eq (es k11)) rfl) ?_   -- 16
  refine TrC.take ⟨_, _, rfl, rfl, rfl⟩ (step_field1 rfl rfl fd35_2 ty33 rfl rfl) ?_   -- 17
  refine TrC.take ⟨_, _, rfl, rfl, rfl⟩ (step_bin rfl rfl rfl rfl rfl) ?_   -- 18
  refine TrC.spell 140 rfl (bv (b := true) (by decide)) ?_
  refine TrC.take rfl (step_pick rfl rfl rfl rfl) ?_   -- 19
  refine TrC.take rfl (step_move rfl rfl rfl) ?_   -- 20
  refine TrC.take ⟨_, _, rfl, rfl, rfl⟩ (step_fieldAddrP rfl rfl fd40_0 rfl rfl) ?_   -- 21
  refine TrC.take ⟨_, _, rfl, rfl, rfl⟩ (step_loadPN rfl rfl rfl ty30 rfl rfl rfl) ?_   -- 22
  refine TrC.take ⟨_, _, rfl, rfl, rfl⟩ (step_call0 rfl rfl (D19 vC 1 2) rfl) ?_   -- 23
  refine TrC.spell 145 rfl (bv (b := false) (k12)) ?_
  refine TrC.take ⟨_, _, rfl, rfl, rfl⟩ (step_not rfl rfl rfl) ?_   -- 24
  refine TrC.take rfl (step_pick rfl rfl rfl rfl) ?_   -- 25
  refine TrC.take rfl (step_move rfl rfl rfl) ?_   -- 26
  refine TrC.take ⟨_, _, rfl, rfl, rfl⟩ (step_fieldAddrP rfl rfl fd40_0 rfl rfl) ?_   -- 27
  refine TrC.take ⟨_, _, rfl, rfl, rfl⟩ (step_loadPN rfl rfl rfl ty30 rfl rfl rfl) ?_   -- 28
  refine TrC.take ⟨_, _, rfl, rfl, rfl⟩ (step_call0 rfl rfl (D19 vC 1 3) rfl) ?_   -- 29
  refine TrC.spell 151 rfl (bv (b := true) (k13)) ?_
  refine TrC.take rfl (step_pick rfl rfl rfl rfl) ?_   -- 30
  refine TrC.take rfl (step_move rfl rfl rfl) ?_   -- 31
  refine TrC.take ⟨_, _, rfl, rfl, rfl⟩ (step_fieldAddrP rfl rfl fd35_0 rfl rfl) ?_   -- 32
  refine TrC.take ⟨_, _, rfl, rfl, rfl⟩ (step_loadPN rfl rfl rfl ty30 rfl rfl rfl) ?_   -- 33
  refine TrC.take ⟨_, _, rfl, rfl, rfl⟩ (step_call0 rfl rfl (D26 vB) rfl) ?_   -- 34
  refine TrC.spell 156 rfl (bv (b := true) (rfl)) ?_
  refine TrC.take rfl (step_pick rfl rfl rfl rfl) ?_   -- 35
  refine TrC.take rfl (step_move rfl rfl rfl) ?_   -- 36
  refine TrC.take ⟨_, _, rfl, rfl, rfl⟩ (step_buildC rfl ze30 zc30 rfl pl30 rfl rfl rfl rfl) ?_   -- 37
  refine TrC.take ⟨_, _, rfl, rfl, rfl⟩ (step_call0 rfl rfl (C26 ⟨[], [], 0⟩ (by decide) (by decide)) rfl) ?_   -- 38
  refine TrC.spell 160 rfl (bv (b := false) (k14)) ?_
  refine TrC.take ⟨_, _, rfl, rfl, rfl⟩ (step_not rfl rfl rfl) ?_   -- 39
  refine TrC.take rfl (step_pick rfl rfl rfl rfl) ?_   -- 40
  refine TrC.take rfl (step_assign rfl rfl rfl) ?_   -- 41
  refine TrC.done ?_
  refine AT.ret ?_
  exact Ret.one rfl (ResR.tmp rfl (conv_b (by first | rfl | decide)))

end Go.Proofs.Ytnemmdbafngppaa.Net
