/- What the laws on nets need of sending, taking, severing and healing; plain Lean. No condition. -/
import Derived.Test.YtnemmdbafngppaaLaw4
set_option linter.unusedVariables false
set_option linter.unusedSimpArgs false
namespace Go.Proofs.Ytnemmdbafngppaa.Net

theorem find_at {n : Net} (h : SortP n) {k : Nat} (hk : k < n.fl.length) : findIx n n.fl[k].id = some k :=
  ix_found hk (by simp) (fun j hj hjk => by have := h j k hj hk hjk; simp; omega)
theorem find_gone {n : Net} (h : SortP n) {k : Nat} (hk : k < n.fl.length) : findIx (without n k) n.fl[k].id = none :=
  ix_none (fun j hj => by
    obtain ⟨q, hq, e, eq⟩ := erase_get hk j hj
    show decide (((n.fl.take k ++ n.fl.drop (k + 1))[j]).id = n.fl[k].id) = false
    rw [e]
    have hne : q ≠ k := by subst eq; split <;> omega
    rcases Nat.lt_or_gt_of_ne hne with h1 | h1
    · have := h q k hq hk h1; simp; omega
    · have := h k q hk hq h1; simp; omega)
theorem take_at {n : Net} (h : SortP n) {k : Nat} (hk : k < n.fl.length) (hr : reach n n.fl[k].fr n.fl[k].to = true) : take n n.fl[k].id = ⟨without n k, n.fl[k], 0⟩ := by
  unfold take; rw [find_at h hk]; simp only [getP hk]; rw [if_pos hr]
theorem take_cut {n : Net} (h : SortP n) {k : Nat} (hk : k < n.fl.length) (hr : reach n n.fl[k].fr n.fl[k].to = false) : take n n.fl[k].id = ⟨n, p0, 320⟩ := by
  unfold take; rw [find_at h hk]; simp only [getP hk]; rw [if_neg (by simp [hr])]
theorem take_none {n : Net} {id : Int} (h : findIx n id = none) : take n id = ⟨n, p0, 90⟩ := by unfold take; rw [h]
theorem lose_none {n : Net} {id : Int} (h : findIx n id = none) : lose n id = ⟨n, p0, 90⟩ := by unfold lose; rw [h]
theorem double_none {n : Net} {id : Int} (h : findIx n id = none) : double n id = ⟨n, p0, 90⟩ := by unfold double; rw [h]
theorem lose_at {n : Net} (h : SortP n) {k : Nat} (hk : k < n.fl.length) : lose n n.fl[k].id = ⟨without n k, p0, 0⟩ := by
  unfold lose; rw [find_at h hk]
theorem without_len {n : Net} {k : Nat} (hk : k < n.fl.length) : (without n k).fl.length = n.fl.length - 1 := by
  show (n.fl.take k ++ n.fl.drop (k + 1)).length = _
  simp; omega
theorem reach_iff {n : Net} {a b : Int} : reach n a b = true ↔ ∀ c ∈ n.cuts, c ≠ pr a b := by
  unfold reach cutIx
  rw [Option.isNone_iff_eq_none, List.findIdx?_eq_none_iff]
  constructor
  · intro h c hc; simpa using h c hc
  · intro h c hc; simpa using h c hc
theorem reach_not {n : Net} {a b : Int} : reach n a b = false ↔ pr a b ∈ n.cuts := by
  rw [Bool.eq_false_iff, ne_eq, reach_iff]
  constructor
  · intro h
    have := Classical.byContradiction (p := pr a b ∈ n.cuts) fun hn => h fun c hc he => hn (he ▸ hc)
    exact this
  · intro h hn; exact hn _ h rfl
theorem reach_eq {n m : Net} {a b : Int} (h : pr a b ∈ n.cuts ↔ pr a b ∈ m.cuts) : reach n a b = reach m a b := by
  cases h1 : reach m a b with
  | false => rw [reach_not] at h1 ⊢; exact h.2 h1
  | true =>
    cases h2 : reach n a b with
    | true => rfl
    | false => rw [reach_not] at h2; rw [reach_iff] at h1; exact absurd rfl (h1 _ (h.1 h2))
theorem reach_nil {n : Net} (h : n.cuts = []) (a b : Int) : reach n a b = true := by rw [reach_iff, h]; intro c hc; cases hc
theorem pr_comm (a b : Int) : pr b a = pr a b := by unfold pr; rw [Prod.ext_iff]; simp only; omega
theorem pr_eq {a b c d : Int} : pr a b = pr c d ↔ (a = c ∧ b = d) ∨ (a = d ∧ b = c) := by unfold pr; rw [Prod.ext_iff]; simp only; omega
theorem parts_comm (a b : Int) : parts b a = parts a b := by
  rw [Bool.eq_iff_iff]; simp only [parts, part, Bool.and_eq_true, decide_eq_true_eq, ne_eq]; omega
theorem reach_comm (n : Net) (a b : Int) : reach n b a = reach n a b := by rw [Bool.eq_iff_iff, reach_iff, reach_iff, pr_comm]
theorem reach_self {n : Net} (h : VN n) (a : Int) : reach n a a = true := by
  rw [reach_iff]
  intro c hc he
  obtain ⟨i, hi, rfl⟩ := List.getElem_of_mem hc
  have := (h.pc i hi).1
  rw [he] at this
  simp [parts, pr] at this
theorem sever_facts {n : Net} (h : VN n) {a b : Int} (hp : parts a b = true) (hl : n.cuts.length < 200) :
    (sever n a b).e = 0 ∧ (sever n a b).p = p0 ∧ (sever n a b).n.fl = n.fl ∧ (sever n a b).n.next = n.next ∧ (∀ c, c ∈ (sever n a b).n.cuts ↔ c ∈ n.cuts ∨ c = pr a b) ∧
      (sever n a b).n.cuts.filter (fun c => !decide (c = pr a b)) = n.cuts.filter (fun c => !decide (c = pr a b)) := by
  unfold sever
  rw [if_pos hp]
  cases hr : reach n a b with
  | false =>
    rw [if_neg (by simp)]
    refine ⟨rfl, rfl, rfl, rfl, fun c => ⟨.inl, fun hc => ?_⟩, rfl⟩
    rcases hc with hc | rfl
    · exact hc
    · exact reach_not.1 hr
  | true =>
    rw [if_pos rfl, if_neg (by omega)]
    refine ⟨rfl, rfl, rfl, rfl, fun c => ?_, ?_⟩
    · simp only [List.mem_append, List.mem_cons]
      conv => rhs; rw [← List.take_append_drop (insAt n.cuts (pr a b)) n.cuts]
      simp only [List.mem_append]
      constructor
      · rintro (h | h | h) <;> simp_all
      · rintro ((h | h) | h) <;> simp_all
    · simp only [List.filter_append]
      rw [List.filter_cons_of_neg (by simp), ← List.filter_append, List.take_append_drop]
theorem heal_facts {n : Net} (h : VN n) {a b : Int} (hp : parts a b = true) :
    (heal n a b).e = 0 ∧ (heal n a b).p = p0 ∧ (heal n a b).n.fl = n.fl ∧ (heal n a b).n.next = n.next ∧ (∀ c, c ∈ (heal n a b).n.cuts ↔ c ∈ n.cuts ∧ c ≠ pr a b) := by
  rw [heal_filter hp h.sc]
  refine ⟨rfl, rfl, rfl, rfl, fun c => ?_⟩
  simp [List.mem_filter]
theorem sever_again {n : Net} {a b : Int} (hp : parts a b = true) (hr : pr a b ∈ n.cuts) : sever n b a = ⟨n, p0, 0⟩ := by
  unfold sever
  rw [if_pos (by rw [parts_comm]; exact hp), if_neg]
  rw [reach_comm, Bool.not_eq_true, reach_not]; exact hr
theorem heal_sever {n : Net} (h : VN n) {a b : Int} (hp : parts a b = true) (hl : n.cuts.length < 200) : (heal (sever n a b).n a b).n = (heal n b a).n := by
  have hs := sever_facts h hp hl
  rw [heal_filter hp (h.sever a b).sc, heal_filter (by rw [parts_comm]; exact hp) h.sc, pr_comm a b]
  simp only [hs.2.2.1, hs.2.2.2.1, hs.2.2.2.2.2]

/-! ### Counting -/
theorem send_cases (n : Net) (a b : Int) : ((send n a b).e = 0 ∧ (send n a b).n.fl = n.fl ++ [⟨n.next, a, b⟩] ∧ (send n a b).n.next = n.next + 1 ∧ (send n a b).n.cuts = n.cuts ∧ (send n a b).id = n.next) ∨ ((send n a b).e ≠ 0 ∧ (send n a b).n = n) := by
  unfold send
  split
  · split
    · exact .inr ⟨by simp, rfl⟩
    · exact .inl ⟨rfl, rfl, rfl, rfl, rfl⟩
  · exact .inr ⟨by simp, rfl⟩
theorem take_cases (n : Net) (id : Int) : ((take n id).e = 0 ∧ ∃ k, k < n.fl.length ∧ (take n id).n = without n k) ∨ ((take n id).e ≠ 0 ∧ (take n id).n = n) := by
  unfold take
  cases hf : findIx n id with
  | none => exact .inr ⟨by simp, rfl⟩
  | some i =>
    simp only
    split
    · exact .inl ⟨rfl, i, find_lt hf, rfl⟩
    · exact .inr ⟨by simp, rfl⟩
theorem lose_cases (n : Net) (id : Int) : ((lose n id).e = 0 ∧ ∃ k, k < n.fl.length ∧ (lose n id).n = without n k) ∨ ((lose n id).e ≠ 0 ∧ (lose n id).n = n) := by
  unfold lose
  cases hf : findIx n id with
  | none => exact .inr ⟨by simp, rfl⟩
  | some i => exact .inl ⟨rfl, i, find_lt hf, rfl⟩
theorem double_cases (n : Net) (id : Int) : ((double n id).e = 0 ∧ (double n id).n.fl.length = n.fl.length + 1 ∧ (double n id).n.next = n.next + 1) ∨ ((double n id).e ≠ 0 ∧ (double n id).n = n) := by
  unfold double
  cases hf : findIx n id with
  | none => exact .inr ⟨by simp, rfl⟩
  | some i =>
    rcases send_cases n (n.fl.getD i p0).fr (n.fl.getD i p0).to with ⟨h1, h2, h3, _⟩ | ⟨h1, h2⟩
    · exact .inl ⟨h1, by simp only [h2]; simp, h3⟩
    · exact .inr ⟨h1, h2⟩
theorem sever_cases (n : Net) (a b : Int) : (sever n a b).n.fl = n.fl ∧ (sever n a b).n.next = n.next ∧ ((sever n a b).e ≠ 0 → (sever n a b).n = n) ∧ (sever n a b).n.cuts.length ≤ n.cuts.length + 1 := by
  unfold sever
  split
  · split
    · split
      · exact ⟨rfl, rfl, fun _ => rfl, by simp⟩
      · refine ⟨rfl, rfl, fun h => absurd rfl h, ?_⟩
        simp; omega
    · exact ⟨rfl, rfl, fun _ => rfl, by simp⟩
  · exact ⟨rfl, rfl, fun _ => rfl, by simp⟩
theorem heal_cases (n : Net) (a b : Int) : (heal n a b).n.fl = n.fl ∧ (heal n a b).n.next = n.next ∧ ((heal n a b).e ≠ 0 → (heal n a b).n = n) ∧ (heal n a b).n.cuts.length ≤ n.cuts.length := by
  unfold heal
  split
  · cases hf : cutIx n a b with
    | none => exact ⟨rfl, rfl, fun _ => rfl, by simp⟩
    | some k => refine ⟨rfl, rfl, fun h => absurd rfl h, ?_⟩; simp; omega
  · exact ⟨rfl, rfl, fun _ => rfl, by simp⟩
theorem step_facts (n : Net) (x : Int × Int × Int) : n.next ≤ (step n x).next ∧ (step n x).next ≤ n.next + 1 ∧ (step n x).cuts.length ≤ n.cuts.length + 1 := by
  have hw : ∀ k, (without n k).next = n.next ∧ (without n k).cuts = n.cuts := fun k => ⟨rfl, rfl⟩
  unfold step
  simp only
  split
  · rcases send_cases n (x.2.1 % 5) (x.2.2 % 5) with ⟨h1, h2, h3, h4, _⟩ | ⟨h1, h2⟩
    · rw [h3, h4]; omega
    · rw [h2]; omega
  · split
    · rcases take_cases n (x.2.1 % 16) with ⟨h1, k, h2, h3⟩ | ⟨h1, h2⟩
      · rw [h3, (hw k).1, (hw k).2]; omega
      · rw [h2]; omega
    · split
      · rcases lose_cases n (x.2.1 % 16) with ⟨h1, k, h2, h3⟩ | ⟨h1, h2⟩
        · rw [h3, (hw k).1, (hw k).2]; omega
        · rw [h2]; omega
      · split
        · have hc : (double n (x.2.1 % 16)).n.cuts = n.cuts := by
            unfold double
            cases findIx n (x.2.1 % 16) with
            | none => rfl
            | some i =>
              rcases send_cases n (n.fl.getD i p0).fr (n.fl.getD i p0).to with ⟨_, _, _, h4, _⟩ | ⟨_, h2⟩
              · exact h4
              · simp only [h2]
          rw [hc]
          rcases double_cases n (x.2.1 % 16) with ⟨h1, h2, h3⟩ | ⟨h1, h2⟩
          · rw [h3]; omega
          · rw [h2]; omega
        · split
          · have := sever_cases n (x.2.1 % 5) (x.2.2 % 5); rw [this.2.1]; omega
          · have := heal_cases n (x.2.1 % 5) (x.2.2 % 5); rw [this.2.1]; omega
theorem steps_facts (l : List (Int × Int × Int)) : ∀ n : Net, n.next ≤ (l.foldl step n).next ∧ (l.foldl step n).next ≤ n.next + l.length ∧ (l.foldl step n).cuts.length ≤ n.cuts.length + l.length := by
  induction l with
  | nil => intro n; simp
  | cons x r ih =>
    intro n
    have h1 := ih (step n x)
    have h2 := step_facts n x
    simp only [List.foldl_cons, List.length_cons]
    omega
theorem made_facts (l : List (Int × Int × Int)) : (made l).next ≤ 21 ∧ (made l).cuts.length ≤ 20 := by
  have h := steps_facts (l.take 20) ⟨[], [], 1⟩
  have h2 : (l.take 20).length ≤ 20 := by simp; omega
  unfold made
  simp only [List.length_nil] at h
  omega
theorem VN.valid {n : Net} (h : VN n) : valid n = true := (valid_iff n).2 h
end Go.Proofs.Ytnemmdbafngppaa.Net
