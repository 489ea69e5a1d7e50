/- Valid nets stay valid; plain Lean, no program in sight. No condition. -/
import Derived.Test.YtnemmdbafngppaaSpec
set_option linter.unusedVariables false
namespace Go.Proofs.Ytnemmdbafngppaa.Net

/-- A valid net, in words that are easy to use. -/
structure VN (n : Net) : Prop where
  nl : n.fl.length ≤ 200
  cl : n.cuts.length ≤ 200
  n1 : 1 ≤ n.next
  n2 : n.next ≤ 1000000000
  idl : ∀ i (h : i < n.fl.length), 1 ≤ n.fl[i].id ∧ n.fl[i].id < n.next
  pt : ∀ i (h : i < n.fl.length), parts n.fl[i].fr n.fl[i].to = true
  sp : SortP n
  pc : ∀ i (h : i < n.cuts.length), parts n.cuts[i].1 n.cuts[i].2 = true ∧ n.cuts[i].1 ≤ n.cuts[i].2
  sc : SortC n
open Go.Proofs.Ytnemmdbafngppaa.Abs in
/-- Three bytes. -/
def encB (x : Int × Int × Int) : T := .agg [.u8 x.1, .u8 x.2.1, .u8 x.2.2]
theorem take_snoc {α : Type} {l : List α} {j : Nat} (h : j < l.length) : l.take (j + 1) = l.take j ++ [l[j]] := by
  rw [List.take_succ, List.getElem?_eq_getElem h]; rfl
theorem adj_sortP {n : Net} (h : ∀ i (h : i + 1 < n.fl.length), n.fl[i].id < n.fl[i + 1].id) : SortP n := by
  intro i j hi hj hij
  obtain ⟨d, rfl⟩ : ∃ d, j = i + 1 + d := ⟨j - i - 1, by omega⟩
  induction d with
  | zero => exact h i hj
  | succ d ih =>
    have h1 := ih (by omega) (by omega)
    have h2 := h (i + 1 + d) hj
    simp only [Nat.add_assoc] at h1 h2 ⊢
    omega
theorem adj_sortC {n : Net} (h : ∀ i (h : i + 1 < n.cuts.length), less n.cuts[i] n.cuts[i + 1] = true) : SortC n := by
  intro i j hi hj hij
  obtain ⟨d, rfl⟩ : ∃ d, j = i + 1 + d := ⟨j - i - 1, by omega⟩
  induction d with
  | zero => exact h i hj
  | succ d ih =>
    have h1 := ih (by omega) (by omega)
    have h2 := h (i + 1 + d) hj
    exact less_trans h1 h2
theorem valid_iff (n : Net) : valid n = true ↔ VN n := by
  constructor
  · intro h
    simp only [valid, Bool.and_eq_true, decide_eq_true_eq] at h
    obtain ⟨⟨⟨⟨⟨h1, h2⟩, h3⟩, h4⟩, h5⟩, h6⟩ := h
    have hp : ∀ i (hi : i < n.fl.length), 1 ≤ n.fl[i].id ∧ n.fl[i].id < n.next ∧ parts n.fl[i].fr n.fl[i].to = true ∧ (i = 0 ∨ (n.fl.getD (i - 1) p0).id < n.fl[i].id) := fun i hi => by
      have := h1 i hi
      unfold okP at this
      rw [getP hi] at this
      simp only [Bool.and_eq_true, Bool.or_eq_true, decide_eq_true_eq] at this
      exact ⟨this.1.1.1, this.1.1.2, this.1.2, this.2⟩
    have hc : ∀ i (hi : i < n.cuts.length), parts n.cuts[i].1 n.cuts[i].2 = true ∧ n.cuts[i].1 ≤ n.cuts[i].2 ∧ (i = 0 ∨ less (n.cuts.getD (i - 1) (0, 0)) n.cuts[i] = true) := fun i hi => by
      have := h2 i hi
      unfold okC at this
      rw [getC hi] at this
      simp only [Bool.and_eq_true, Bool.or_eq_true, decide_eq_true_eq] at this
      exact ⟨this.1.1, this.1.2, this.2⟩
    refine ⟨h3, h4, h5, h6, fun i hi => ⟨(hp i hi).1, (hp i hi).2.1⟩, fun i hi => (hp i hi).2.2.1, adj_sortP fun i hi => ?_, fun i hi => ⟨(hc i hi).1, (hc i hi).2.1⟩, adj_sortC fun i hi => ?_⟩
    · rcases (hp (i + 1) hi).2.2.2 with h | h
      · omega
      · rw [show i + 1 - 1 = i from rfl, getP (by omega)] at h; exact h
    · rcases (hc (i + 1) hi).2.2 with h | h
      · omega
      · rw [show i + 1 - 1 = i from rfl, getC (by omega)] at h; exact h
  · intro h
    simp only [valid, Bool.and_eq_true, decide_eq_true_eq]
    refine ⟨⟨⟨⟨⟨fun i hi => ?_, fun i hi => ?_⟩, h.nl⟩, h.cl⟩, h.n1⟩, h.n2⟩
    · unfold okP
      rw [getP hi]
      simp only [Bool.and_eq_true, Bool.or_eq_true, decide_eq_true_eq]
      refine ⟨⟨h.idl i hi, h.pt i hi⟩, ?_⟩
      rcases Nat.eq_zero_or_pos i with h0 | h0
      · exact .inl h0
      · right; rw [getP (by omega)]; exact h.sp _ _ _ _ (by omega)
    · unfold okC
      rw [getC hi]
      simp only [Bool.and_eq_true, Bool.or_eq_true, decide_eq_true_eq]
      refine ⟨h.pc i hi, ?_⟩
      rcases Nat.eq_zero_or_pos i with h0 | h0
      · exact .inl h0
      · right; rw [getC (by omega)]; exact h.sc _ _ _ _ (by omega)

/-- The number of the packet before the i-th, 0 if there is none. -/
def lastId (n : Net) (i : Nat) : Int := if i = 0 then 0 else (n.fl.getD (i - 1) p0).id
theorem okP_iff {n : Net} {i : Nat} (hi : i < n.fl.length) : okP n i = true ↔ 1 ≤ n.fl[i].id ∧ n.fl[i].id < n.next ∧ parts n.fl[i].fr n.fl[i].to = true ∧ (i = 0 ∨ lastId n i < n.fl[i].id) := by
  unfold okP lastId
  rw [getP hi]
  simp only [Bool.and_eq_true, Bool.or_eq_true, decide_eq_true_eq]
  by_cases h : i = 0 <;> simp [h, and_assoc]
theorem lastId_nonneg {n : Net} {i : Nat} (hi : i ≤ n.fl.length) (h : ∀ j, j < i → okP n j = true) : 0 ≤ lastId n i := by
  unfold lastId
  split
  · omega
  · have h1 := (okP_iff (n := n) (i := i - 1) (by omega)).1 (h _ (by omega))
    rw [getP (by omega)]; omega
theorem okP_alt {n : Net} {i : Nat} (hi : i < n.fl.length) (h : ∀ j, j < i → okP n j = true) : okP n i = true ↔ lastId n i < n.fl[i].id ∧ n.fl[i].id < n.next ∧ parts n.fl[i].fr n.fl[i].to = true := by
  rw [okP_iff hi]
  have h0 := lastId_nonneg (by omega) h
  constructor
  · rintro ⟨h1, h2, h3, h4⟩
    refine ⟨?_, h2, h3⟩
    rcases h4 with h4 | h4
    · subst h4; simp [lastId]; omega
    · exact h4
  · rintro ⟨h1, h2, h3⟩
    exact ⟨by omega, h2, h3, .inr h1⟩
theorem okC_iff {n : Net} {i : Nat} (hi : i < n.cuts.length) : okC n i = true ↔ parts n.cuts[i].1 n.cuts[i].2 = true ∧ n.cuts[i] = pr n.cuts[i].1 n.cuts[i].2 ∧ (i = 0 ∨ less (n.cuts.getD (i - 1) (0, 0)) n.cuts[i] = true) := by
  unfold okC
  rw [getC hi]
  simp only [Bool.and_eq_true, Bool.or_eq_true, decide_eq_true_eq, pr, Prod.ext_iff]
  constructor
  · rintro ⟨⟨h1, h2⟩, h3⟩; exact ⟨h1, ⟨by omega, by omega⟩, h3⟩
  · rintro ⟨h1, ⟨h2, h4⟩, h3⟩; exact ⟨⟨h1, by omega⟩, h3⟩

end Go.Proofs.Ytnemmdbafngppaa.Net
