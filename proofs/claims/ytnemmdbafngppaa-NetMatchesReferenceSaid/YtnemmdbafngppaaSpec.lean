/- What the functions of the chapter on nets compute, in plain Lean. No condition. -/
import Derived.Test.YtnemmdbafngppaaLib
set_option linter.unusedVariables false
namespace Go.Proofs.Ytnemmdbafngppaa.Net
open Go.Proofs.Ytnemmdbafngppaa.Abs

structure Pk where
  id : Int
  fr : Int
  to : Int
  deriving DecidableEq
structure Net where
  fl : List Pk
  cuts : List (Int × Int)
  next : Int
  deriving DecidableEq
def encP (p : Pk) : T := .agg [.i p.id, .i p.fr, .i p.to]
def encC (c : Int × Int) : T := .agg [.i c.1, .i c.2]
def encN (n : Net) : T := .agg [.slice 3 (n.fl.map encP), .slice 2 (n.cuts.map encC), .i n.next]

def part (a : Int) : Bool := decide (a ≥ 0) && decide (a ≤ 1000000000)
def parts (a b : Int) : Bool := part a && part b && decide (a ≠ b)
def less (a b : Int × Int) : Bool := decide (a.1 < b.1) || (decide (a.1 = b.1) && decide (a.2 < b.2))
def cmpI (a b : Int) : Int := if a < b then -1 else if a > b then 1 else 0
def order (x y : Int × Int) : Int := if cmpI x.1 y.1 ≠ 0 then cmpI x.1 y.1 else cmpI x.2 y.2
def pr (a b : Int) : Int × Int := (min a b, max a b)
def cutIx (n : Net) (a b : Int) : Option Nat := n.cuts.findIdx? (fun c => decide (c = pr a b))
def ixI : Option Nat → Int
  | some i => i
  | none => -1
def reach (n : Net) (a b : Int) : Bool := (cutIx n a b).isNone
def findIx (n : Net) (id : Int) : Option Nat := n.fl.findIdx? (fun p => decide (p.id = id))
/-- The result of Send. -/
structure Sent where
  n : Net
  id : Int
  e : Int
  deriving DecidableEq
structure Taken where
  n : Net
  p : Pk
  e : Int
  deriving DecidableEq
def encSent (s : Sent) : T := .agg [.slice 3 (s.n.fl.map encP), .slice 2 (s.n.cuts.map encC), .i s.n.next, .i s.id, .i s.e]
def encTaken (s : Taken) : T := .agg [.slice 3 (s.n.fl.map encP), .slice 2 (s.n.cuts.map encC), .i s.n.next, .i s.p.id, .i s.p.fr, .i s.p.to, .i s.e]
def p0 : Pk := ⟨0, 0, 0⟩
def send (n : Net) (a b : Int) : Sent :=
  if parts a b then
    if 200 ≤ n.fl.length ∨ 1000000000 ≤ n.next then ⟨n, 0, 2⟩
    else ⟨⟨n.fl ++ [⟨n.next, a, b⟩], n.cuts, n.next + 1⟩, n.next, 0⟩
  else ⟨n, 0, 1⟩
def without (n : Net) (i : Nat) : Net := ⟨n.fl.take i ++ n.fl.drop (i + 1), n.cuts, n.next⟩
def take (n : Net) (id : Int) : Taken :=
  match findIx n id with
  | none => ⟨n, p0, 90⟩
  | some i => if reach n (n.fl.getD i p0).fr (n.fl.getD i p0).to then ⟨without n i, n.fl.getD i p0, 0⟩ else ⟨n, p0, 320⟩
def lose (n : Net) (id : Int) : Taken :=
  match findIx n id with
  | none => ⟨n, p0, 90⟩
  | some i => ⟨without n i, p0, 0⟩
def double (n : Net) (id : Int) : Taken :=
  match findIx n id with
  | none => ⟨n, p0, 90⟩
  | some i => let s := send n (n.fl.getD i p0).fr (n.fl.getD i p0).to; ⟨s.n, p0, s.e⟩
def insAt (l : List (Int × Int)) (x : Int × Int) : Nat := (l.takeWhile (fun c => less c x)).length
def sever (n : Net) (a b : Int) : Taken :=
  if parts a b then
    if reach n a b then
      if 200 ≤ n.cuts.length then ⟨n, p0, 2⟩
      else ⟨⟨n.fl, n.cuts.take (insAt n.cuts (pr a b)) ++ pr a b :: n.cuts.drop (insAt n.cuts (pr a b)), n.next⟩, p0, 0⟩
    else ⟨n, p0, 0⟩
  else ⟨n, p0, 1⟩
def heal (n : Net) (a b : Int) : Taken :=
  if parts a b then
    match cutIx n a b with
    | none => ⟨n, p0, 0⟩
    | some i => ⟨⟨n.fl, n.cuts.take i ++ n.cuts.drop (i + 1), n.next⟩, p0, 0⟩
  else ⟨n, p0, 1⟩
def okP (n : Net) (i : Nat) : Bool := decide (1 ≤ (n.fl.getD i p0).id) && decide ((n.fl.getD i p0).id < n.next) && parts (n.fl.getD i p0).fr (n.fl.getD i p0).to && (decide (i = 0) || decide ((n.fl.getD (i - 1) p0).id < (n.fl.getD i p0).id))
def okC (n : Net) (i : Nat) : Bool := parts (n.cuts.getD i (0, 0)).1 (n.cuts.getD i (0, 0)).2 && decide ((n.cuts.getD i (0, 0)).1 ≤ (n.cuts.getD i (0, 0)).2) && (decide (i = 0) || less (n.cuts.getD (i - 1) (0, 0)) (n.cuts.getD i (0, 0)))
def valid (n : Net) : Bool := decide (∀ i, i < n.fl.length → okP n i = true) && decide (∀ i, i < n.cuts.length → okC n i = true) && decide (n.fl.length ≤ 200) && decide (n.cuts.length ≤ 200) && decide (1 ≤ n.next) && decide (n.next ≤ 1000000000)
/-- A step that three numbers (of a byte each) describe. -/
def step (n : Net) (x : Int × Int × Int) : Net :=
  let a := x.2.1 % 5
  let b := x.2.2 % 5
  let k := x.1 % 8
  if k = 0 ∨ k = 1 ∨ k = 2 then (send n a b).n
  else if k = 3 then (take n (x.2.1 % 16)).n
  else if k = 4 then (lose n (x.2.1 % 16)).n
  else if k = 5 then (double n (x.2.1 % 16)).n
  else if k = 6 then (sever n a b).n
  else (heal n a b).n
def made (l : List (Int × Int × Int)) : Net := (l.take 20).foldl step ⟨[], [], 1⟩

/-! ### Finding -/
theorem reach_dec (o : Option Nat) : decide (ixI o < 0) = o.isNone := by
  cases o with
  | none => rfl
  | some i => exact decide_eq_false (by simp only [ixI]; omega)
theorem ix_found {α : Type} {p : α → Bool} {l : List α} {i : Nat} (h : i < l.length) (hp : p l[i] = true) (hb : ∀ j (h : j < l.length), j < i → p l[j] = false) : l.findIdx? p = some i := by
  rw [List.findIdx?_eq_some_iff_getElem]
  exact ⟨h, hp, fun j hj => by simp [hb j (by omega) hj]⟩
theorem ix_none {α : Type} {p : α → Bool} {l : List α} (hb : ∀ j (h : j < l.length), p l[j] = false) : l.findIdx? p = none := by
  rw [List.findIdx?_eq_none_iff]
  intro x hx
  obtain ⟨j, hj, rfl⟩ := List.getElem_of_mem hx
  simp [hb j hj]

theorem ix_neg {o : Option Nat} (h : ixI o < 0) : o = none := by
  cases o with
  | none => rfl
  | some i => simp only [ixI] at h; omega
theorem find_pos {n : Net} {id : Int} (h : 0 ≤ ixI (findIx n id)) : ∃ i, findIx n id = some i ∧ i < n.fl.length := by
  cases hf : findIx n id with
  | none => rw [hf] at h; simp [ixI] at h
  | some i => exact ⟨i, rfl, (List.findIdx?_eq_some_iff_getElem.1 hf).1⟩
theorem cut_pos {n : Net} {a b : Int} (h : 0 ≤ ixI (cutIx n a b)) : ∃ i, cutIx n a b = some i ∧ i < n.cuts.length := by
  cases hf : cutIx n a b with
  | none => rw [hf] at h; simp [ixI] at h
  | some i => exact ⟨i, rfl, (List.findIdx?_eq_some_iff_getElem.1 hf).1⟩

theorem valid_badP {n : Net} {i : Nat} (hi : i < n.fl.length) (h : okP n i = false) : valid n = false := by
  have : ¬ ∀ i, i < n.fl.length → okP n i = true := fun ha => by rw [ha i hi] at h; cases h
  simp [valid, this]
theorem valid_badC {n : Net} {i : Nat} (hi : i < n.cuts.length) (h : okC n i = false) : valid n = false := by
  have : ¬ ∀ i, i < n.cuts.length → okC n i = true := fun ha => by rw [ha i hi] at h; cases h
  simp [valid, this]
theorem getP {n : Net} {i : Nat} (hi : i < n.fl.length) : n.fl.getD i p0 = n.fl[i] := by simp [List.getD_eq_getElem?_getD, hi]
theorem getC {n : Net} {i : Nat} (hi : i < n.cuts.length) : n.cuts.getD i (0, 0) = n.cuts[i] := by simp [List.getD_eq_getElem?_getD, hi]
theorem pk_eq {x y : Pk} (h : x.id = y.id ∧ x.fr = y.fr ∧ x.to = y.to) : x = y := by
  cases x; cases y; simp_all
theorem tk_eq (x y : Taken) : decide (x = y) = (decide (x.n = y.n) && (decide (x.p.id = y.p.id ∧ x.p.fr = y.p.fr ∧ x.p.to = y.p.to) && decide (x.e = y.e))) := by
  rw [Bool.eq_iff_iff]
  simp only [decide_eq_true_eq, Bool.and_eq_true]
  constructor
  · intro h; subst h; simp
  · rintro ⟨h1, h2, h3⟩
    have := pk_eq h2
    cases x; cases y; simp_all
/-! ### Where a pair goes -/
theorem tw_all {α : Type} {p : α → Bool} : ∀ {l : List α}, (∀ x ∈ l, p x = true) → l.takeWhile p = l
  | [], _ => rfl
  | x :: r, h => by rw [List.takeWhile_cons_of_pos (h x (by simp)), tw_all fun y hy => h y (by simp [hy])]
theorem insAt_end {l : List (Int × Int)} {x : Int × Int} (h : ∀ j (hj : j < l.length), less l[j] x = true) : insAt l x = l.length := by
  unfold insAt
  congr 1
  refine tw_all fun y hy => ?_
  obtain ⟨j, hj, rfl⟩ := List.getElem_of_mem hy
  exact h j hj
theorem insAt_stop {l : List (Int × Int)} {x : Int × Int} {i : Nat} (hi : i < l.length) (h : ∀ j (hj : j < l.length), j < i → less l[j] x = true) (hn : less l[i] x = false) : insAt l x = i := by
  have e : l = l.take i ++ l[i] :: l.drop (i + 1) := by rw [List.getElem_cons_drop, List.take_append_drop]
  unfold insAt
  have h1 : (l.take i).takeWhile (fun c => less c x) = l.take i := by
    refine tw_all fun y hy => ?_
    obtain ⟨j, hj, rfl⟩ := List.getElem_of_mem hy
    simp only [List.length_take] at hj
    rw [List.getElem_take]
    exact h j (by omega) (by omega)
  have h2 : l.takeWhile (fun c => less c x) = l.take i := by
    conv => lhs; rw [e]
    rw [List.takeWhile_append_of_pos, List.takeWhile_cons_of_neg]
    · simp
    · simp [hn]
    · intro y hy
      obtain ⟨j, hj, rfl⟩ := List.getElem_of_mem hy
      simp only [List.length_take] at hj
      rw [List.getElem_take]
      exact h j (by omega) (by omega)
  rw [h2]; simp; omega

/-! ### Searching in what is sorted -/
theorem bs_k {α : Type} (l : List α) (f : α → Int) (hm : ∀ i j (hi : i < l.length) (hj : j < l.length), i < j → 0 ≤ f l[i] → 0 < f l[j]) :
    ∃ k, k ≤ l.length ∧ (∀ i (h : i < l.length), f l[i] < 0 ↔ i < k) ∧ l.findIdx? (fun x => decide (f x = 0)) = (match l[k]? with | some y => if f y = 0 then some k else none | none => none) := by
  refine ⟨l.findIdx (fun x => decide (0 ≤ f x)), List.findIdx_le_length, ?_, ?_⟩
  · intro i h
    constructor
    · intro hn
      rcases Nat.lt_or_ge i (l.findIdx (fun x => decide (0 ≤ f x))) with hlt | hge
      · exact hlt
      · exfalso
        have hk : l.findIdx (fun x => decide (0 ≤ f x)) < l.length := by omega
        have hp := List.findIdx_getElem (w := hk)
        simp only [decide_eq_true_eq] at hp
        rcases Nat.lt_or_eq_of_le hge with h2 | h2
        · have := hm _ i hk h h2 hp; omega
        · simp only [h2] at hp; omega
    · intro hlt
      have := List.not_of_lt_findIdx hlt
      simpa using this
  · rcases Nat.lt_or_ge (l.findIdx (fun x => decide (0 ≤ f x))) l.length with hk | hk
    · rw [List.getElem?_eq_getElem hk]
      have hp := List.findIdx_getElem (w := hk)
      simp only [decide_eq_true_eq] at hp
      have hbefore : ∀ j (h : j < l.length), j < l.findIdx (fun x => decide (0 ≤ f x)) → f l[j] < 0 := fun j h hj => by simpa using List.not_of_lt_findIdx hj
      by_cases h0 : f l[l.findIdx (fun x => decide (0 ≤ f x))] = 0
      · simp only [if_pos h0]
        exact ix_found hk (by simpa using h0) (fun j h hj => by have := hbefore j h hj; simp; omega)
      · simp only [if_neg h0]
        refine ix_none fun j h => ?_
        rcases Nat.lt_trichotomy j (l.findIdx (fun x => decide (0 ≤ f x))) with h1 | h1 | h1
        · have := hbefore j h h1; simp; omega
        · simp only [h1]; simpa using h0
        · have := hm _ j hk h h1 hp; simp; omega
    · rw [List.getElem?_eq_none hk]
      refine ix_none fun j h => ?_
      have : f l[j] < 0 := by simpa using List.not_of_lt_findIdx (show j < l.findIdx (fun x => decide (0 ≤ f x)) by omega)
      simp; omega
theorem cmpI_zero (a b : Int) : cmpI a b = 0 ↔ a = b := by unfold cmpI; split <;> (try split) <;> omega
theorem cmpI_neg (a b : Int) : cmpI a b < 0 ↔ a < b := by unfold cmpI; split <;> (try split) <;> omega
theorem cmpI_pos (a b : Int) : 0 ≤ cmpI a b ↔ b ≤ a := by unfold cmpI; split <;> (try split) <;> omega
theorem order_zero (x y : Int × Int) : order x y = 0 ↔ x = y := by
  unfold order
  have h1 := cmpI_zero x.1 y.1
  have h2 := cmpI_zero x.2 y.2
  rw [Prod.ext_iff]
  split <;> simp_all
theorem order_neg (x y : Int × Int) : order x y < 0 ↔ less x y = true := by
  unfold order less
  have h1 := cmpI_zero x.1 y.1
  have h2 := cmpI_neg x.1 y.1
  have h3 := cmpI_neg x.2 y.2
  simp only [Bool.or_eq_true, Bool.and_eq_true, decide_eq_true_eq]
  split
  · rename_i h; rw [h2]; constructor
    · exact .inl
    · rintro (h | ⟨h, _⟩); exact h; exact absurd (h1.2 h) (by assumption)
  · rename_i h
    have h : cmpI x.1 y.1 = 0 := by simpa using h
    rw [h3]; have := h1.1 h; constructor
    · intro h'; exact .inr ⟨this, h'⟩
    · rintro (h' | ⟨_, h'⟩); omega; exact h'
def SortP (n : Net) : Prop := ∀ i j (hi : i < n.fl.length) (hj : j < n.fl.length), i < j → n.fl[i].id < n.fl[j].id
def SortC (n : Net) : Prop := ∀ i j (hi : i < n.cuts.length) (hj : j < n.cuts.length), i < j → less n.cuts[i] n.cuts[j] = true
theorem less_trans {x y z : Int × Int} (h1 : less x y = true) (h2 : less y z = true) : less x z = true := by
  simp only [less, Bool.or_eq_true, Bool.and_eq_true, decide_eq_true_eq] at *; omega
theorem less_irrefl {x : Int × Int} : less x x = false := by simp [less]
theorem less_total {x y : Int × Int} (h : x ≠ y) (hn : less x y = false) : less y x = true := by
  simp only [less, Bool.or_eq_true, Bool.and_eq_true, decide_eq_true_eq, Bool.or_eq_false_iff, Bool.and_eq_false_iff, decide_eq_false_iff_not, ne_eq, Prod.ext_iff] at *; omega
theorem find_k {n : Net} (h : SortP n) (id : Int) : ∃ k, k ≤ n.fl.length ∧ (∀ i (h : i < n.fl.length), cmpI n.fl[i].id id < 0 ↔ i < k) ∧ findIx n id = (match n.fl[k]? with | some y => if cmpI y.id id = 0 then some k else none | none => none) := by
  obtain ⟨k, h1, h2, h3⟩ := bs_k n.fl (fun p => cmpI p.id id) (fun i j hi hj hij h0 => by
    have h4 := h i j hi hj hij
    rw [cmpI_pos] at h0
    have h5 := cmpI_neg n.fl[j].id id
    have h6 := cmpI_zero n.fl[j].id id
    omega)
  refine ⟨k, h1, h2, ?_⟩
  have e : findIx n id = n.fl.findIdx? (fun p => decide (cmpI p.id id = 0)) := by
    unfold findIx
    congr 1; funext p
    rw [Bool.eq_iff_iff]; simp [cmpI_zero]
  rw [e, h3]; cases n.fl[k]? <;> rfl
theorem cut_k {n : Net} (h : SortC n) (a b : Int) : ∃ k, k ≤ n.cuts.length ∧ (∀ i (h : i < n.cuts.length), order n.cuts[i] (pr a b) < 0 ↔ i < k) ∧ cutIx n a b = (match n.cuts[k]? with | some y => if order y (pr a b) = 0 then some k else none | none => none) := by
  obtain ⟨k, h1, h2, h3⟩ := bs_k n.cuts (fun c => order c (pr a b)) (fun i j hi hj hij h0 => by
    have h4 := h i j hi hj hij
    have h5 := order_neg n.cuts[j] (pr a b)
    have h6 := order_zero n.cuts[j] (pr a b)
    have h7 := order_neg n.cuts[i] (pr a b)
    have h8 : ¬ less n.cuts[i] (pr a b) = true := fun h => by have := h7.2 h; omega
    rcases Int.lt_trichotomy (order n.cuts[j] (pr a b)) 0 with h9 | h9 | h9
    · exact absurd (less_trans h4 (h5.1 h9)) h8
    · rw [h6.1 h9] at h4; exact absurd h4 h8
    · exact h9)
  refine ⟨k, h1, h2, ?_⟩
  have e : cutIx n a b = n.cuts.findIdx? (fun c => decide (order c (pr a b) = 0)) := by
    unfold cutIx
    congr 1; funext p
    rw [Bool.eq_iff_iff]; simp [order_zero]
  rw [e, h3]; cases n.cuts[k]? <;> rfl

theorem send_err {n : Net} {a b : Int} (hp : parts a b = true) (h : (send n a b).e ≠ 0) : send n a b = ⟨n, 0, (send n a b).e⟩ := by
  unfold send at *
  rw [if_pos hp] at *
  split
  · rfl
  · rename_i hb; rw [if_neg hb] at h; exact absurd rfl h
theorem send_ok {n : Net} {a b : Int} (hp : parts a b = true) (h : (send n a b).e = 0) : (send n a b).id = n.next ∧ (send n a b).e = 0 := by
  refine ⟨?_, h⟩
  unfold send at *
  rw [if_pos hp] at *
  split
  · rename_i hb; rw [if_pos hb] at h; simp at h
  · rfl

theorem insAt_k {l : List (Int × Int)} {x : Int × Int} {k : Nat} (h1 : k ≤ l.length) (h2 : ∀ i (h : i < l.length), order l[i] x < 0 ↔ i < k) : insAt l x = k := by
  rcases Nat.lt_or_ge k l.length with h | h
  · refine insAt_stop h (fun j hj hjk => (order_neg _ _).1 ((h2 j hj).2 hjk)) ?_
    cases hb : less l[k] x with
    | false => rfl
    | true => have := (h2 k h).1 ((order_neg _ _).2 hb); omega
  · have : k = l.length := by omega
    subst this
    exact insAt_end fun j hj => (order_neg _ _).1 ((h2 j hj).2 hj)
theorem sever_no {n : Net} {a b : Int} {k : Nat} (h : cutIx n a b = (match n.cuts[k]? with | some y => if order y (pr a b) = 0 then some k else none | none => none)) (hb : (match n.cuts[k]? with | some y => decide (order y (pr a b) = 0) | none => false) = true) : ¬ reach n a b = true := by
  unfold reach
  rw [h]
  cases hg : n.cuts[k]? with
  | none => rw [hg] at hb; simp at hb
  | some y => rw [hg] at hb; simp at hb; simp [hb]
theorem sever_yes {n : Net} {a b : Int} {k : Nat} (h : cutIx n a b = (match n.cuts[k]? with | some y => if order y (pr a b) = 0 then some k else none | none => none)) (hb : (match n.cuts[k]? with | some y => decide (order y (pr a b) = 0) | none => false) = false) : reach n a b = true := by
  unfold reach
  rw [h]
  cases hg : n.cuts[k]? with
  | none => rfl
  | some y => rw [hg] at hb; simp at hb; simp [hb]

theorem encC_inj {c d : Int × Int} : encC c = encC d ↔ c = d := by
  constructor
  · intro h
    unfold encC at h
    simp only [T.agg.injEq, List.cons.injEq, T.v.injEq, Value.int.injEq, true_and, and_true] at h
    exact Prod.ext_iff.2 h
  · rintro rfl; rfl
def isC (x : Int × Int) : T → Bool
  | .agg [.v (.int .i64 c), .v (.int .i64 d)] => decide ((c, d) = x)
  | _ => false
theorem isC_enc (x c : Int × Int) : isC x (encC c) = decide (c = x) := rfl
theorem filter_enc (x : Int × Int) (l : List (Int × Int)) : (l.map encC).filter (fun y => !isC x y) = (l.filter (fun c => !decide (c = x))).map encC := by
  induction l with
  | nil => rfl
  | cons c r ih =>
    simp only [List.map_cons, List.filter_cons, isC_enc, ih]
    cases decide (c = x) <;> rfl
theorem heal_filter {n : Net} {a b : Int} (hp : parts a b = true) (hS : SortC n) : heal n a b = ⟨⟨n.fl, n.cuts.filter (fun c => !decide (c = pr a b)), n.next⟩, p0, 0⟩ := by
  unfold heal
  rw [if_pos hp]
  cases hf : cutIx n a b with
  | none =>
    have : n.cuts.filter (fun c => !decide (c = pr a b)) = n.cuts := by
      rw [List.filter_eq_self]
      intro c hc
      unfold cutIx at hf
      rw [List.findIdx?_eq_none_iff] at hf
      have := hf c hc
      simp only [this, Bool.not_false]
    simp only [this]
  | some i =>
    obtain ⟨h1, h2, h3⟩ := List.findIdx?_eq_some_iff_getElem.1 hf
    have h2 : n.cuts[i] = pr a b := by simpa using h2
    have e : n.cuts = n.cuts.take i ++ n.cuts[i] :: n.cuts.drop (i + 1) := by rw [List.getElem_cons_drop, List.take_append_drop]
    have e1 : (n.cuts.take i).filter (fun c => !decide (c = pr a b)) = n.cuts.take i := by
      rw [List.filter_eq_self]
      intro c hc
      obtain ⟨j, hj, rfl⟩ := List.getElem_of_mem hc
      simp only [List.length_take] at hj
      rw [List.getElem_take]
      simpa using h3 j (by omega)
    have e2 : (n.cuts.drop (i + 1)).filter (fun c => !decide (c = pr a b)) = n.cuts.drop (i + 1) := by
      rw [List.filter_eq_self]
      intro c hc
      obtain ⟨j, hj, rfl⟩ := List.getElem_of_mem hc
      simp only [List.length_drop] at hj
      rw [List.getElem_drop]
      have := hS i (i + 1 + j) h1 (by omega) (by omega)
      rw [h2] at this
      have hne : n.cuts[i + 1 + j] ≠ pr a b := fun he => by rw [he, less_irrefl] at this; cases this
      simpa using hne
    have : n.cuts.filter (fun c => !decide (c = pr a b)) = n.cuts.take i ++ n.cuts.drop (i + 1) := by
      conv => lhs; rw [e]
      rw [List.filter_append, e1, List.filter_cons_of_neg (by simp [h2]), e2]
    simp only [this]

/-- Lose (0), Double (1), Sever (2) or Heal: the law's helper forgets the packet. -/
def doneN (n : Net) (w a b : Int) : Taken :=
  if w = 0 then ⟨(lose n a).n, p0, (lose n a).e⟩
  else if w = 1 then ⟨(double n a).n, p0, (double n a).e⟩
  else if w = 2 then ⟨(sever n a b).n, p0, (sever n a b).e⟩
  else ⟨(heal n a b).n, p0, (heal n a b).e⟩

end Go.Proofs.Ytnemmdbafngppaa.Net
