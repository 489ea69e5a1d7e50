/- Operations keep nets valid; plain Lean. No condition. -/
import Derived.Test.YtnemmdbafngppaaLaw1
set_option linter.unusedVariables false
namespace Go.Proofs.Ytnemmdbafngppaa.Net

theorem VN.made0 : VN ⟨[], [], 1⟩ := by
  refine ⟨by simp, by simp, by simp, by simp, fun i h => by simp at h, fun i h => by simp at h, fun i j h => by simp at h, fun i h => by simp at h, fun i j h => by simp at h⟩
theorem VN.send {n : Net} (h : VN n) (a b : Int) : VN (send n a b).n := by
  unfold Net.send
  split
  · rename_i hp
    split
    · exact h
    · rename_i hb
      have hnl := h.nl
      have hn2 := h.n2
      have hn1 := h.n1
      have hg : ∀ i (hi : i < (n.fl ++ [(⟨n.next, a, b⟩ : Pk)]).length), (∃ hj : i < n.fl.length, (n.fl ++ [(⟨n.next, a, b⟩ : Pk)])[i] = n.fl[i]) ∨ (i = n.fl.length ∧ (n.fl ++ [(⟨n.next, a, b⟩ : Pk)])[i] = (⟨n.next, a, b⟩ : Pk)) := by
        intro i hi
        by_cases hj : i < n.fl.length
        · exact .inl ⟨hj, List.getElem_append_left hj⟩
        · right
          have : i = n.fl.length := by simp at hi; omega
          subst this
          exact ⟨rfl, by simp⟩
      refine ⟨by simp; omega, h.cl, by show 1 ≤ n.next + 1; omega, by show n.next + 1 ≤ _; omega, fun i hi => ?_, fun i hi => ?_, fun i j hi hj hij => ?_, h.pc, h.sc⟩
      · rcases hg i hi with ⟨hj, e⟩ | ⟨_, e⟩
        · show 1 ≤ ((n.fl ++ [(⟨n.next, a, b⟩ : Pk)])[i]).id ∧ ((n.fl ++ [(⟨n.next, a, b⟩ : Pk)])[i]).id < n.next + 1
          rw [e]; have := h.idl i hj; omega
        · show 1 ≤ ((n.fl ++ [(⟨n.next, a, b⟩ : Pk)])[i]).id ∧ ((n.fl ++ [(⟨n.next, a, b⟩ : Pk)])[i]).id < n.next + 1
          rw [e]; simp only; omega
      · rcases hg i hi with ⟨hj, e⟩ | ⟨_, e⟩
        · show parts ((n.fl ++ [(⟨n.next, a, b⟩ : Pk)])[i]).fr ((n.fl ++ [(⟨n.next, a, b⟩ : Pk)])[i]).to = true
          rw [e]; exact h.pt i hj
        · show parts ((n.fl ++ [(⟨n.next, a, b⟩ : Pk)])[i]).fr ((n.fl ++ [(⟨n.next, a, b⟩ : Pk)])[i]).to = true
          rw [e]; exact hp
      · show ((n.fl ++ [(⟨n.next, a, b⟩ : Pk)])[i]).id < ((n.fl ++ [(⟨n.next, a, b⟩ : Pk)])[j]).id
        rcases hg i hi with ⟨hi', e⟩ | ⟨hi', e⟩ <;> rcases hg j hj with ⟨hj', e'⟩ | ⟨hj', e'⟩
        · rw [e, e']; exact h.sp i j hi' hj' hij
        · rw [e, e']; exact (h.idl i hi').2
        · omega
        · omega
  · exact h
theorem erase_get {α : Type} {l : List α} {k : Nat} (hk : k < l.length) : ∀ i (hi : i < (l.take k ++ l.drop (k + 1)).length), ∃ j, ∃ hj : j < l.length, (l.take k ++ l.drop (k + 1))[i] = l[j] ∧ j = (if i < k then i else i + 1) := by
  intro i hi
  have hl : (l.take k).length = k := by simp; omega
  have hlen : (l.take k ++ l.drop (k + 1)).length = l.length - 1 := by simp; omega
  by_cases h : i < k
  · refine ⟨i, by omega, ?_, by rw [if_pos h]⟩
    rw [List.getElem_append_left (by omega), List.getElem_take]
  · refine ⟨i + 1, by omega, ?_, by rw [if_neg h]⟩
    rw [List.getElem_append_right (by omega), List.getElem_drop]
    congr 1; omega
theorem VN.without {n : Net} (h : VN n) {k : Nat} (hk : k < n.fl.length) : VN (without n k) := by
  have hg := erase_get hk
  have hlen : (n.fl.take k ++ n.fl.drop (k + 1)).length = n.fl.length - 1 := by simp; omega
  have hnl := h.nl
  refine ⟨by show (n.fl.take k ++ n.fl.drop (k + 1)).length ≤ 200; omega, h.cl, h.n1, h.n2, fun i hi => ?_, fun i hi => ?_, fun i j hi hj hij => ?_, h.pc, h.sc⟩
  · obtain ⟨q, hq, e, _⟩ := hg i hi
    show 1 ≤ ((n.fl.take k ++ n.fl.drop (k + 1))[i]).id ∧ ((n.fl.take k ++ n.fl.drop (k + 1))[i]).id < n.next
    rw [e]; exact h.idl q hq
  · obtain ⟨q, hq, e, _⟩ := hg i hi
    show parts ((n.fl.take k ++ n.fl.drop (k + 1))[i]).fr ((n.fl.take k ++ n.fl.drop (k + 1))[i]).to = true
    rw [e]; exact h.pt q hq
  · obtain ⟨q, hq, e, eq⟩ := hg i hi
    obtain ⟨r, hr, e', er⟩ := hg j hj
    show ((n.fl.take k ++ n.fl.drop (k + 1))[i]).id < ((n.fl.take k ++ n.fl.drop (k + 1))[j]).id
    rw [e, e']
    refine h.sp q r hq hr ?_
    subst eq; subst er
    split <;> split <;> omega

end Go.Proofs.Ytnemmdbafngppaa.Net
