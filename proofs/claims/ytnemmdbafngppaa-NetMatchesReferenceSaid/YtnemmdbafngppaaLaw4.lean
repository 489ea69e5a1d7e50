/- Operations keep nets valid, part 3: severing, steps; plain Lean. No condition. -/
import Derived.Test.YtnemmdbafngppaaLaw3
set_option linter.unusedVariables false
namespace Go.Proofs.Ytnemmdbafngppaa.Net

theorem ins_cases {α : Type} {l : List α} {k : Nat} {x : α} (hk : k ≤ l.length) : ∀ i (hi : i < (l.take k ++ x :: l.drop k).length),
    (∃ hj : i < l.length, i < k ∧ (l.take k ++ x :: l.drop k)[i] = l[i]) ∨ (i = k ∧ (l.take k ++ x :: l.drop k)[i] = x) ∨ (∃ hj : i - 1 < l.length, k < i ∧ (l.take k ++ x :: l.drop k)[i] = l[i - 1]) := by
  intro i hi
  have hl : (l.take k).length = k := by simp; omega
  by_cases h : i < k
  · left
    refine ⟨by omega, h, ?_⟩
    rw [List.getElem_append_left (by omega), List.getElem_take]
  · right
    by_cases h2 : i = k
    · left; subst h2
      refine ⟨rfl, ?_⟩
      rw [List.getElem_append_right (by omega)]
      simp [hl]
    · right
      have hlen : (l.take k ++ x :: l.drop k).length = l.length + 1 := by simp; omega
      refine ⟨by omega, by omega, ?_⟩
      rw [List.getElem_append_right (by omega)]
      obtain ⟨d, hd⟩ : ∃ d, i - (l.take k).length = d + 1 := ⟨i - k - 1, by omega⟩
      simp only [hd, List.getElem_cons_succ, List.getElem_drop]
      congr 1; omega
theorem VN.sever {n : Net} (h : VN n) (a b : Int) : VN (sever n a b).n := by
  unfold Net.sever
  split
  · rename_i hp
    split
    · rename_i hr
      split
      · exact h
      · rename_i hb
        obtain ⟨k, h1, h2, h3⟩ := cut_k h.sc a b
        have hx := insAt_k h1 h2
        rw [hx]
        have hcl := h.cl
        have hlen : (n.cuts.take k ++ pr a b :: n.cuts.drop k).length = n.cuts.length + 1 := by simp; omega
        have hg := ins_cases (x := pr a b) h1
        have hpr : parts (pr a b).1 (pr a b).2 = true ∧ (pr a b).1 ≤ (pr a b).2 := by
          simp only [parts, part, Bool.and_eq_true, decide_eq_true_eq] at hp ⊢
          have e1 : (pr a b).1 = min a b := rfl
          have e2 : (pr a b).2 = max a b := rfl
          rw [e1, e2]
          have h1 : (min a b = a ∧ max a b = b) ∨ (min a b = b ∧ max a b = a) := by omega
          rcases h1 with ⟨m1, m2⟩ | ⟨m1, m2⟩ <;> rw [m1, m2] <;> refine ⟨⟨⟨⟨?_, ?_⟩, ?_, ?_⟩, ?_⟩, ?_⟩ <;> omega
        have hno : ∀ i (hi : i < n.cuts.length), n.cuts[i] ≠ pr a b := by
          intro i hi he
          unfold reach at hr
          cases hf : cutIx n a b with
          | none =>
            unfold cutIx at hf
            rw [List.findIdx?_eq_none_iff] at hf
            have := hf _ (List.getElem_mem hi)
            simp [he] at this
          | some q => rw [hf] at hr; simp at hr
        have hlo : ∀ i (hi : i < n.cuts.length), i < k → less n.cuts[i] (pr a b) = true := fun i hi hik => (order_neg _ _).1 ((h2 i hi).2 hik)
        have hhi : ∀ i (hi : i < n.cuts.length), k ≤ i → less (pr a b) n.cuts[i] = true := fun i hi hik => by
          refine less_total (hno i hi) ?_
          cases hb : less n.cuts[i] (pr a b) with
          | false => rfl
          | true => have := (h2 i hi).1 ((order_neg _ _).2 hb); omega
        refine ⟨h.nl, by show (n.cuts.take k ++ pr a b :: n.cuts.drop k).length ≤ 200; omega, h.n1, h.n2, h.idl, h.pt, h.sp, fun i hi => ?_, fun i j hi hj hij => ?_⟩
        · show parts ((n.cuts.take k ++ pr a b :: n.cuts.drop k)[i]).1 ((n.cuts.take k ++ pr a b :: n.cuts.drop k)[i]).2 = true ∧ ((n.cuts.take k ++ pr a b :: n.cuts.drop k)[i]).1 ≤ ((n.cuts.take k ++ pr a b :: n.cuts.drop k)[i]).2
          rcases hg i hi with ⟨q, _, e⟩ | ⟨_, e⟩ | ⟨q, _, e⟩ <;> rw [e]
          · exact h.pc _ q
          · exact hpr
          · exact h.pc _ q
        · show less ((n.cuts.take k ++ pr a b :: n.cuts.drop k)[i]) ((n.cuts.take k ++ pr a b :: n.cuts.drop k)[j]) = true
          rcases hg i hi with ⟨q, hq, e⟩ | ⟨hq, e⟩ | ⟨q, hq, e⟩ <;> rcases hg j hj with ⟨r, hr', e'⟩ | ⟨hr', e'⟩ | ⟨r, hr', e'⟩ <;> rw [e, e']
          · exact h.sc _ _ q r hij
          · exact hlo _ q hq
          · exact h.sc _ _ q r (by omega)
          · omega
          · omega
          · exact hhi _ r (by omega)
          · omega
          · omega
          · exact h.sc _ _ q r (by omega)
    · exact h
  · exact h
theorem VN.doneN {n : Net} (h : VN n) (w a b : Int) : VN (doneN n w a b).n := by
  unfold Net.doneN
  split
  · exact h.lose a
  · split
    · exact h.double a
    · split
      · exact h.sever a b
      · exact h.heal a b
theorem VN.step {n : Net} (h : VN n) (x : Int × Int × Int) : VN (step n x) := by
  unfold Net.step
  simp only
  split
  · exact h.send _ _
  · split
    · exact h.take _
    · split
      · exact h.lose _
      · split
        · exact h.double _
        · split
          · exact h.sever _ _
          · exact h.heal _ _
theorem VN.steps {n : Net} (h : VN n) : ∀ l : List (Int × Int × Int), VN (l.foldl Net.step n)
  | [] => h
  | x :: r => VN.steps (h.step x) r
theorem VN.made (l : List (Int × Int × Int)) : VN (made l) := VN.made0.steps _

end Go.Proofs.Ytnemmdbafngppaa.Net
