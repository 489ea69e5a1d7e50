/- Abstract symbolic execution, part 3: regions (in the text's order, and in any order), and the rules for code. No condition. -/
import Derived.Test.YtnemmdbafngppaaAbs2
set_option linter.unusedVariables false
set_option linter.unusedSimpArgs false
namespace Go.Proofs.Ytnemmdbafngppaa.Abs
open Go.RowKit

abbrev Item := Nat × Oper × Option Eff
def Good (C : Ctx) (ops : Array Oper) : List Item → AState → Prop
  | [], _ => True
  | it :: r, S => GStep C ops it.2.1 S it.2.2 ∧ Good C ops r (apx it.2.1 it.2.2 S)
def fin : List Item → AState → AState
  | [], S => S
  | it :: r, S => fin r (apx it.2.1 it.2.2 S)

theorem bubble {C : Ctx} {ops : Array Oper} {y : Item} {post : List Item} : ∀ (pre : List Item) (S : AState), (∀ p ∈ pre, Indep ops p.2 y.2) →
    Good C ops (pre ++ y :: post) S → GStep C ops y.2.1 S y.2.2 ∧ Good C ops (pre ++ post) (apx y.2.1 y.2.2 S) ∧ fin (pre ++ post) (apx y.2.1 y.2.2 S) = fin (pre ++ y :: post) S
  | [], S, _, h => ⟨h.1, h.2, rfl⟩
  | p :: pre, S, hi, h => by
    have hp := hi p (by simp)
    obtain ⟨h1, h2, h3⟩ := bubble pre (apx p.2.1 p.2.2 S) (fun q hq => hi q (by simp [hq])) h.2
    have hc := apx_comm (S := S) hp
    refine ⟨GStep.unswap hp h1, ⟨GStep.swap hp.symm h.1, ?_⟩, ?_⟩
    · rw [hc]; exact h2
    · simp only [List.cons_append, fin]
      rw [hc]; exact h3

def ancOf (ops : Array Oper) : Nat → Nat → Nat → Bool
  | 0, _, _ => false
  | n + 1, i, j => match ops[i]? with
    | none => false
    | some o => o.after.toList.any fun e => Region.binds .any e && (Nat.beq e.on j || ancOf ops n e.on j)
def pairsOk (ops : Array Oper) : List Item → Bool
  | [] => true
  | it :: r => (r.all fun y => indep ops it.2 y.2 || ancOf ops ops.size y.1 it.1) && pairsOk ops r
def edgesFrom (k : Nat) : List Oper → Bool
  | [] => true
  | o :: r => (o.after.toList.all fun e => !(Region.binds .any e) || Nat.blt e.on k) && edgesFrom (k + 1) r

def ClosedL (ops : Array Oper) (listed : Array Bool) : Prop :=
  ∀ i o, listed.getD i false = true → ops[i]? = some o → ∀ e ∈ o.after, Region.binds .any e = true → listed.getD e.on false = true

theorem anc_listed {ops : Array Oper} {listed : Array Bool} (hc : ClosedL ops listed) : ∀ n i j o, ops[i]? = some o →
    (∀ e ∈ o.after, Region.binds .any e = true → listed.getD e.on false = true) → ancOf ops n i j = true → listed.getD j false = true
  | 0, _, _, _, _, _, h => by cases h
  | n + 1, i, j, o, ho, hp, h => by
    simp only [ancOf, ho, List.any_eq_true, Bool.and_eq_true, Bool.or_eq_true] at h
    obtain ⟨e, he, hb, h⟩ := h
    have he' : e ∈ o.after := by simpa using he
    have hl := hp e he' hb
    rcases h with h | h
    · rw [Nat.eq_of_beq_eq_true h] at hl; exact hl
    · cases ho' : ops[e.on]? with
      | none => cases n <;> simp [ancOf, ho'] at h
      | some o' => exact anc_listed hc n e.on j o' ho' (hc _ _ hl ho') h

theorem edgesFrom_spec : ∀ (l : List Oper) (k : Nat), edgesFrom k l = true → ∀ j o, l[j]? = some o → ∀ e ∈ o.after, Region.binds .any e = true → e.on < k + j
  | [], _, _, _, _, h, _, _, _ => by simp at h
  | o' :: r, k, h, j, o, hj, e, he, hb => by
    simp only [edgesFrom, Bool.and_eq_true, List.all_eq_true, Bool.or_eq_true, Bool.not_eq_true'] at h
    cases j with
    | zero =>
      simp only [List.getElem?_cons_zero, Option.some.injEq] at hj
      subst hj
      rcases h.1 e (by simpa using he) with h' | h'
      · rw [hb] at h'; cases h'
      · simpa [Nat.blt_eq] using h'
    | succ j =>
      have := edgesFrom_spec r (k + 1) h.2 j o (by simpa using hj) e he hb
      omega

theorem Oper.wp_monoQ {P : Program} {o : Oper} {a : Act} {w : World} {K K' : Act → World → Prop} {Q : Exit → Act → World → Prop}
    (h : ∀ a w, K a w → K' a w) (hh : o.wp P a w K (fun _ _ _ => False)) : o.wp P a w K' Q := by
  unfold Oper.wp at *
  generalize (execOp a.eval o).run P w = r at *
  cases r with
  | ok n w' =>
    cases n <;> simp only [Oper.upon] at hh ⊢ <;>
      first
        | exact h _ _ hh
        | exact Calls.mono hh (fun e w'' he => by cases e <;> first | exact h _ _ he | exact he.elim | (obtain ⟨_, _, hf⟩ := he; exact hf.elim))
        | exact Rows.mono hh (fun _ _ he => h _ _ he)
  | halt x w' => cases x <;> simp only [Oper.upon] at hh ⊢

theorem eval_tmp_getD (a : Act) (x : Nat) : a.eval (.tmp x) = a.tmps.getD x undef := rfl
theorem put_getD_other {a : Act} {d : Option Nat} {v : Value} {x : Nat} (h : d ≠ some x) : (a.put d v).tmps.getD x undef = a.tmps.getD x undef := by
  cases d with
  | none => rfl
  | some d =>
    have hne : d ≠ x := fun e => h (by rw [e])
    simp [Act.put, Array.getElem?_setIfInBounds_ne hne]
theorem put_getD_same {a : Act} {d : Nat} {v : Value} (h : d < a.tmps.size) : (a.put (some d) v).tmps.getD d undef = v := by
  simp [Act.put, h]
theorem put_size (a : Act) (d : Option Nat) (v : Value) : (a.put d v).tmps.size = a.tmps.size := by cases d <;> simp [Act.put]
theorem put_defers' (a : Act) (d : Option Nat) (v : Value) : (a.put d v).defers = a.defers := by cases d <;> rfl

/-- Only slots have changed, and the world not at all. -/
theorem SatB.put {C : Ctx} {β : Nat → Value} {S : AState} {a : Act} {w : World} (h : SatB C β S a w) (d : Option Nat) (v : Value) (av : AV)
    (hv : ∀ x, d = some x → x < C.n → VRel w (okS C S β w) β v av) (hn : ∀ x, d = some x → x < C.n ∨ av = .junk) (hi : ∀ i ∈ av.ids, S.used i = true) :
    SatB C β { S with slot := putS d av S.slot } (a.put d v) w where
  size := (put_size ..).trans h.size
  defers := (put_defers' ..).trans h.defers
  below := h.below
  ok0 := h.ok0
  slot := fun x => by
    rcases putS_cases d av S.slot x with ⟨e1, h1⟩ | ⟨e1, h1⟩
    · show VRel w _ β _ (putS d av S.slot x)
      rw [h1]; subst e1
      rcases hn x rfl with hx | hx
      · rw [put_getD_same (by rw [h.size]; exact hx)]; exact hv x rfl hx
      · rw [hx]; exact .junk _
    · show VRel w _ β _ (putS d av S.slot x)
      rw [h1, put_getD_other e1]; exact h.slot x
  mem := h.mem
  apart := h.apart
  wfs := fun x i hi' => by
    rcases putS_cases d av S.slot x with ⟨e1, h1⟩ | ⟨e1, h1⟩
    · have : i ∈ (putS d av S.slot x).ids := hi'
      rw [h1] at this; exact hi i this
    · have : i ∈ (putS d av S.slot x).ids := hi'
      rw [h1] at this; exact h.wfs x i this
  wfm := h.wfm
  keep := h.keep
  anc := h.anc

theorem SatB.put' {C : Ctx} {β : Nat → Value} {S : AState} {a : Act} {w : World} (h : SatB C β S a w) (d : Option Nat) : SatB C β { S with slot := putS d (.t (.v undef)) S.slot } (a.put d undef) w where
  size := (put_size ..).trans h.size
  defers := (put_defers' ..).trans h.defers
  below := h.below
  ok0 := h.ok0
  slot := fun x => by
    rcases putS_cases d (.t (.v undef)) S.slot x with ⟨e1, h1⟩ | ⟨e1, h1⟩
    · show VRel w _ β _ (putS d _ S.slot x)
      rw [h1]; subst e1
      have : (a.put (some x) undef).tmps.getD x undef = undef := by
        by_cases hx : x < a.tmps.size
        · exact put_getD_same hx
        · simp [Act.put, Array.getD_eq_getD_getElem?, hx]
      rw [this]; exact .t (.v undef)
    · show VRel w _ β _ (putS d _ S.slot x)
      rw [h1, put_getD_other e1]; exact h.slot x
  mem := h.mem
  apart := h.apart
  wfs := fun x i hi' => by
    rcases putS_cases d (.t (.v undef)) S.slot x with ⟨e1, h1⟩ | ⟨e1, h1⟩
    · have : i ∈ (putS d (.t (.v undef)) S.slot x).ids := hi'
      rw [h1] at this; simp [AV.ids] at this
    · have : i ∈ (putS d (.t (.v undef)) S.slot x).ids := hi'
      rw [h1] at this; exact h.wfs x i this
  wfm := h.wfm
  keep := h.keep
  anc := h.anc

theorem Sat.junk {C : Ctx} {S : AState} {a : Act} {w : World} (h : Sat C S a w) (d : Option Nat) (v : Value) :
    Sat C { S with slot := putS d .junk S.slot } (a.put d v) w := by
  obtain ⟨β, h⟩ := h
  exact ⟨β, h.put d v .junk (fun _ _ _ => .junk _) (fun _ _ => .inr rfl) (by simp [AV.ids])⟩
theorem Sat.skipped {C : Ctx} {S : AState} {a : Act} {w : World} (h : Sat C S a w) (d : Option Nat) : Sat C { S with slot := putS d (.t (.v undef)) S.slot } (a.put d undef) w := by
  obtain ⟨β, h⟩ := h
  refine ⟨β, h.put' d⟩
theorem Sat.drew {C : Ctx} {S : AState} {a : Act} {w : World} (h : Sat C S a w) (n : Nat) : Sat C S a { w with drawn := n } := by
  obtain ⟨β, h⟩ := h
  exact ⟨β, { h with below := ⟨h.below.os, h.below.tape, h.below.output, h.below.size, h.below.block⟩
                     slot := fun x => (h.slot x).mono (fun _ _ => rfl) (fun _ hb => hb) (fun _ _ => rfl)
                     mem := fun i o hi => by
                       have hm := h.mem i o hi
                       cases o with
                       | box E cells =>
                         obtain ⟨b, arr, h1, h2, h3, h4, h5⟩ := hm
                         exact ⟨b, arr, h1, h2, h3, h4, fun k k1 k2 => ⟨(h5 k k1 k2).1.mono (fun _ _ => rfl) (fun _ hb => hb) (fun _ _ => rfl), (h5 k k1 k2).2⟩⟩
                       | row E sz l =>
                         obtain ⟨cells, h1, h2, h3⟩ := hm
                         exact ⟨cells, h1, h2, fun k hk j hj => by obtain ⟨v, e, hr, ho⟩ := h3 k hk j hj; exact ⟨v, e, hr.mono (fun _ _ => rfl) (fun _ hb => hb), ho⟩⟩
                       | buf E sz cap l =>
                         obtain ⟨g, cur, h1, h2, h3, h4, h5, h6, h7, h8⟩ := hm
                         exact ⟨g, cur, h1, h2, h3, h4, h5, h6, h7, fun k hk j hj => by obtain ⟨v, e, hr, ho⟩ := h8 k hk j hj; exact ⟨v, e, hr.mono (fun _ _ => rfl) (fun _ hb => hb), ho⟩⟩ }⟩

theorem getD_bool {xs : Array Value} {d : Nat} {b : Bool} (h : xs.getD d undef = .bool b) : xs[d]? = some (.bool b) := by
  by_cases hd : d < xs.size
  · simp [Array.getD, hd] at h; simp [hd, h]
  · simp [Array.getD, hd, undef] at h

theorem Guard.wanted {C : Ctx} {ops : Array Oper} {o : Oper} {S : AState} {b : Bool} {a : Act} {w : World} (h : Guard ops o S b) (hs : Sat C S a w) :
    Region.wanted o (yielded ops a.tmps) = b := by
  unfold Guard at h
  unfold Region.wanted
  cases hg : o.guard with
  | none => simp only [hg] at h ⊢; exact h.symm
  | some gw =>
    obtain ⟨g, want⟩ := gw
    simp only [hg] at h ⊢
    obtain ⟨d, v', hd, hsl, rfl⟩ := h
    obtain ⟨β, hs⟩ := hs
    have hv := hs.slot d
    rw [hsl] at hv
    generalize hq : a.tmps.getD d undef = q at hv
    cases hv with
    | t hr =>
      cases hr
      simp only [yielded, hd, Option.bind_some]
      by_cases hb : ∃ b', v' = .bool b'
      · obtain ⟨b', rfl⟩ := hb
        have := getD_bool hq
        simp only [this]
        cases b' <;> cases want <;> rfl
      · have hgv : gv v' want = false := by
          cases v' <;> first | rfl | exact absurd ⟨_, rfl⟩ hb
        rw [hgv]
        cases ht : a.tmps[d]? with
        | none => rfl
        | some u =>
          have hu : u = v' := by rw [← hq]; simp [Array.getD_eq_getD_getElem?, ht]
          subst hu
          cases u <;> first | rfl | exact absurd ⟨_, rfl⟩ hb

theorem step_sound {C : Ctx} {ops : Array Oper} {Q : Exit → Act → World → Prop} {o : Oper} {x : Option Eff} {S : AState} {K : Act → World → Prop} {a : Act} {w : World}
    (h : GStep C ops o S x) (hs : Sat C S a w) (hK : ∀ a w, Sat C (apx o x S) a w → K a w) :
    if Region.wanted o (yielded ops a.tmps) then o.wp C.P a w K Q ∨ (o.asks C.P a w ∧ LetsOut Q) else K (a.put o.dst undef) w := by
  cases x with
  | none =>
    rw [Guard.wanted h hs]
    simp only [Bool.false_eq_true, if_false]
    exact hK _ _ (hs.skipped o.dst)
  | some e =>
    rw [Guard.wanted h.1 hs]
    simp only [if_true]
    exact .inl (Oper.wp_monoQ hK (h.2 S (fun _ _ => rfl) (fun _ _ => ⟨rfl, rfl⟩) a w hs))

theorem text_sound {C : Ctx} {ops : Array Oper} {Q : Exit → Act → World → Prop} : ∀ (R : List Item) (S : AState) (a : Act) (w : World), Good C ops R S → Sat C S a w →
    (∀ a w, Sat C (fin R S) a w → Q .normal a w) → wpList C.P ops Q (R.map (·.2.1)) a w
  | [], S, a, w, _, hs, hQ => hQ a w hs
  | it :: r, S, a, w, hg, hs, hQ => by
    simp only [List.map_cons, wpList]
    exact step_sound hg.1 hs fun a w hs' => text_sound r _ a w hg.2 hs' hQ

theorem any_sound {C : Ctx} {ops : Array Oper} {Q : Exit → Act → World → Prop} (hE : edgesFrom 0 ops.toList = true) :
    ∀ (fuel : Nat) (listed : Array Bool) (R : List Item) (S : AState) (a : Act) (w : World),
      R.length = fuel → (∀ it ∈ R, ops[it.1]? = some it.2.1) → R.Pairwise (fun x y => x.1 < y.1) →
      (∀ i, i < ops.size → listed.getD i false = true ∨ ∃ it ∈ R, it.1 = i) → (∀ it ∈ R, listed.getD it.1 true = false) → ClosedL ops listed →
      pairsOk ops R = true → Good C ops R S → Sat C S a w → (∀ a w, Sat C (fin R S) a w → Q .normal a w) → wpAny C.P .any ops Q fuel listed a w := by
  have hedge : ∀ j o, ops[j]? = some o → ∀ e ∈ o.after, Region.binds .any e = true → e.on < j := by
    intro j o hj e he hb
    have := edgesFrom_spec ops.toList 0 hE j o (by simpa using hj) e he hb
    omega
  intro fuel
  induction fuel with
  | zero =>
    intro listed R S a w hl hops hord hall hun hcl hok hg hs hQ
    obtain rfl : R = [] := List.eq_nil_of_length_eq_zero hl
    refine ⟨?_, hQ a w hs⟩
    apply List.eq_nil_iff_forall_not_mem.2
    intro j hj
    rw [mem_ready] at hj
    obtain ⟨h0, o, ho, _⟩ := hj
    have hlt : j < ops.size := (Array.getElem?_eq_some_iff.1 ho).1
    rcases hall j hlt with h | ⟨it, hit, _⟩
    · by_cases hjs : j < listed.size
      · simp [Array.getD, hjs] at h h0; rw [h] at h0; cases h0
      · simp [Array.getD, hjs] at h
    · cases hit
  | succ fuel ih =>
    intro listed R S a w hl hops hord hall hun hcl hok hg hs hQ
    constructor
    · intro hr
      exfalso
      cases R with
      | nil => cases hl
      | cons it r =>
        have : it.1 ∈ Region.ready .any ops listed := by
          rw [mem_ready]
          refine ⟨hun it (by simp), it.2.1, hops it (by simp), fun e he hb => ?_⟩
          have hlt := hedge _ _ (hops it (by simp)) e he hb
          have hsz : it.1 < ops.size := (Array.getElem?_eq_some_iff.1 (hops it (by simp))).1
          rcases hall e.on (by omega) with h | ⟨y, hy, hyi⟩
          · exact h
          · exfalso
            rcases List.mem_cons.1 hy with rfl | hy
            · omega
            · have := (List.pairwise_cons.1 hord).1 y hy
              omega
        rw [hr] at this; cases this
    · intro i hi
      have hr := mem_ready.1 hi
      obtain ⟨h0, o, ho, hpre⟩ := hr
      have hlt : i < ops.size := (Array.getElem?_eq_some_iff.1 ho).1
      have hnl : listed.getD i false = false := by
        by_cases his : i < listed.size
        · simp [Array.getD, his] at h0 ⊢; exact h0
        · simp [Array.getD, his]
      obtain ⟨it, hit, hii⟩ : ∃ it ∈ R, it.1 = i := by
        rcases hall i hlt with h | h
        · rw [hnl] at h; cases h
        · exact h
      obtain ⟨pre, post, rfl⟩ := List.append_of_mem hit
      have hoi : it.2.1 = o := by have := hops it hit; rw [hii, ho] at this; injection this with this; exact this.symm
      have hpairs : ∀ p ∈ pre, Indep ops p.2 it.2 := by
        intro p hp
        have key : ∀ (l : List Item), pairsOk ops (l ++ it :: post) = true → p ∈ l → (indep ops p.2 it.2 || ancOf ops ops.size it.1 p.1) = true := by
          intro l
          induction l with
          | nil => intro _ h; cases h
          | cons q l ihl =>
            intro h hpl
            simp only [List.cons_append, pairsOk, Bool.and_eq_true, List.all_eq_true] at h
            rcases List.mem_cons.1 hpl with rfl | hpl
            · exact h.1 it (by simp)
            · exact ihl h.2 hpl
        have hk := key pre hok hp
        rw [Bool.or_eq_true] at hk
        rcases hk with hk | hk
        · exact indep_spec hk
        · exfalso
          have hl' := anc_listed hcl _ _ _ o (by rw [hii]; exact ho) hpre hk
          have hpu := hun p (by simp [hp])
          by_cases his : p.1 < listed.size
          · simp [Array.getD, his] at hl' hpu; rw [hl'] at hpu; cases hpu
          · simp [Array.getD, his] at hl'
      obtain ⟨g1, g2, g3⟩ := bubble pre S hpairs hg
      unfold wpOp
      simp only [ho]
      subst hoi
      refine step_sound g1 hs fun a' w' hs' => ?_
      refine ih (listed.setIfInBounds i true) (pre ++ post) (apx it.2.1 it.2.2 S) a' w' ?_ ?_ ?_ ?_ ?_ ?_ ?_ g2 hs' (by rw [g3]; exact hQ)
      · simp at hl ⊢; omega
      · intro q hq; exact hops q (by simp at hq ⊢; rcases hq with h | h <;> simp [h])
      · have := hord; rw [List.pairwise_append] at this ⊢
        obtain ⟨p1, p2, p3⟩ := this
        exact ⟨p1, (List.pairwise_cons.1 p2).2, fun x hx y hy => p3 x hx y (by simp [hy])⟩
      · intro j hj
        by_cases hji : i = j
        · subst hji
          by_cases his : i < listed.size
          · left; simp [his]
          · simp [Array.getD, his] at h0
        · rcases hall j hj with h | ⟨q, hq, hqj⟩
          · left; rw [getD_set_ne false hji]; exact h
          · right
            refine ⟨q, ?_, hqj⟩
            simp at hq ⊢
            rcases hq with h | rfl | h
            · exact .inl h
            · exact absurd (hii.symm.trans hqj) hji
            · exact .inr h
      · intro q hq
        have hne : i ≠ q.1 := by
          intro he
          have hord' := hord
          rw [List.pairwise_append] at hord'
          simp at hq
          rcases hq with h | h
          · have := hord'.2.2 q h it (by simp); omega
          · have := (List.pairwise_cons.1 hord'.2.1).1 q h; omega
        rw [getD_set_ne true hne]
        exact hun q (by simp at hq ⊢; rcases hq with h | h <;> simp [h])
      · intro j oj hj hoj e he hb
        by_cases hji : i = j
        · subst hji
          rw [ho] at hoj; injection hoj with hoj; subst hoj
          exact getD_set_true (hpre e he hb)
        · rw [getD_set_ne false hji] at hj
          exact getD_set_true (hcl j oj hj hoj e he hb)
      · have key : ∀ (l : List Item), pairsOk ops (l ++ it :: post) = true → pairsOk ops (l ++ post) = true := by
          intro l
          induction l with
          | nil => intro h; simp only [List.nil_append, pairsOk, Bool.and_eq_true] at h; exact h.2
          | cons q l ihl =>
            intro h
            simp only [List.cons_append, pairsOk, Bool.and_eq_true, List.all_eq_true] at h ⊢
            exact ⟨fun x hx => h.1 x (by simp at hx ⊢; rcases hx with h' | h' <;> simp [h']), ihl h.2⟩
        exact key pre hok

/-! ### A region, step by step in the text's order -/
def TrC (C : Ctx) (ops : Array Oper) (draw : Bool) : Nat → List Oper → AState → List Item → (AState → Prop) → Prop
  | _, [], S, done, K => (draw = true → pairsOk ops done.reverse = true) ∧ K S
  | i, o :: os, S, done, K => ∃ x, GStep C ops o S x ∧ TrC C ops draw (i + 1) os (apx o x S) ((i, o, x) :: done) K

theorem TrC.list {C : Ctx} {ops : Array Oper} {draw : Bool} {K : AState → Prop} : ∀ (os : List Oper) (i : Nat) (S : AState) (done : List Item), TrC C ops draw i os S done K →
    ∃ R : List Item, R.map (·.2.1) = os ∧ R.map (·.1) = List.range' i os.length ∧ Good C ops R S ∧ (draw = true → pairsOk ops (done.reverse ++ R) = true) ∧ K (fin R S)
  | [], i, S, done, h => ⟨[], rfl, rfl, trivial, by simpa using h.1, h.2⟩
  | o :: os, i, S, done, h => by
    obtain ⟨x, hg, h⟩ := h
    obtain ⟨R, r1, r2, r3, r4, r5⟩ := TrC.list os (i + 1) _ _ h
    refine ⟨(i, o, x) :: R, by simp [r1], by simp [r2, List.range'_succ], ⟨hg, r3⟩, fun hd => ?_, r5⟩
    have := r4 hd
    simpa using this

/-- The judgement: from the state S the code comes to an exit and a state of which Q holds. -/
def AT (C : Ctx) (c : Code) (Q : Exit → AState → Prop) (S : AState) : Prop :=
  ∀ a w, Sat C S a w → c.wp C.P (fun e a' w' => ∃ S', Q e S' ∧ Sat C S' a' w') a w
def nextQ (K : AState → Prop) (Q : Exit → AState → Prop) : Exit → AState → Prop
  | .normal, S => K S
  | e, S => Q e S
def blockQ (id : Nat) (Q : Exit → AState → Prop) : Exit → AState → Prop
  | .exit id', S => (id' = id ∧ Q .normal S) ∨ (id' ≠ id ∧ Q (.exit id') S)
  | e, S => Q e S

theorem AT.skip {C : Ctx} {Q : Exit → AState → Prop} {S : AState} (h : Q .normal S) : AT C .skip Q S := fun _ _ hs => wp_skip ⟨S, h, hs⟩
theorem AT.ret {C : Ctx} {Q : Exit → AState → Prop} {S : AState} (h : Q .ret S) : AT C .ret Q S := fun _ _ hs => wp_ret ⟨S, h, hs⟩
theorem AT.exit {C : Ctx} {Q : Exit → AState → Prop} {S : AState} {id : Nat} (h : Q (.exit id) S) : AT C (.exit id) Q S := fun _ _ hs => wp_exit ⟨S, h, hs⟩
theorem AT.mono {C : Ctx} {c : Code} {Q Q' : Exit → AState → Prop} {S : AState} (h : AT C c Q S) (hq : ∀ e S, Q e S → Q' e S) : AT C c Q' S :=
  fun a w hs => wp_mono (h a w hs) fun e a w ⟨S', q, s⟩ => ⟨S', hq _ _ q, s⟩
theorem AT.weaken {C : Ctx} {c : Code} {Q : Exit → AState → Prop} {S S' : AState} (hw : ∀ a w, Sat C S a w → Sat C S' a w) (h : AT C c Q S') : AT C c Q S :=
  fun a w hs => h a w (hw a w hs)
theorem AT.seq {C : Ctx} {x y : Code} {Q : Exit → AState → Prop} {S : AState} (h : AT C x (nextQ (AT C y Q) Q) S) : AT C (.seq x y) Q S := by
  intro a w hs
  refine wp_seq (wp_mono (h a w hs) ?_)
  rintro e a' w' ⟨S', q, s⟩
  cases e <;> first | exact q a' w' s | exact ⟨S', q, s⟩
theorem AT.block {C : Ctx} {id : Nat} {c : Code} {Q : Exit → AState → Prop} {S : AState} (h : AT C c (blockQ id Q) S) : AT C (.block id c) Q S := by
  intro a w hs
  refine wp_block (wp_mono (h a w hs) ?_)
  rintro e a' w' ⟨S', q, s⟩
  cases e with
  | exit id' =>
    rcases q with ⟨rfl, q⟩ | ⟨hne, q⟩
    · simp only [Exit.inBlock, if_true]; exact ⟨S', q, s⟩
    · simp only [Exit.inBlock, hne, if_false]; exact ⟨S', q, s⟩
  | _ => exact ⟨S', q, s⟩

def evalS (S : AState) : Operand → AV
  | .tmp t => S.slot t
  | .const v => .t (.v v)
  | .global g => .t (.v (.pointer (some ⟨g, 0, none⟩)))
  | .func f => .t (.v (.func (.func f) #[] #[]))
theorem SatB.eval {C : Ctx} {β : Nat → Value} {S : AState} {a : Act} {w : World} (h : SatB C β S a w) (x : Operand) : VRel w (okS C S β w) β (a.eval x) (evalS S x) := by
  cases x with
  | tmp t => exact h.slot t
  | const v => exact .t (.v v)
  | global g => exact .t (.v _)
  | func f => exact .t (.v _)
theorem VRel.toV {w : World} {ok : Nat → Prop} {β : Nat → Value} {v x : Value} (h : VRel w ok β v (.t (.v x))) : v = x := by
  cases h with | t h => cases h; rfl
theorem SatB.evalV {C : Ctx} {β : Nat → Value} {S : AState} {a : Act} {w : World} (h : SatB C β S a w) {x : Operand} {v : Value} (hx : evalS S x = .t (.v v)) : a.eval x = v := by
  have := h.eval x; rw [hx] at this; exact this.toV

theorem AT.cond {C : Ctx} {c : Operand} {x y : Code} {Q : Exit → AState → Prop} {S : AState} {t : Bool} (hc : evalS S c = .t (.v (.bool t)))
    (h1 : t = true → AT C x Q S) (h2 : t = false → AT C y Q S) : AT C (.cond c x y) Q S := by
  intro a w hs
  have hs' := hs
  obtain ⟨β, hb⟩ := hs'
  exact wp_cond_split (hb.evalV hc) (fun h => h1 h a w hs) (fun h => h2 h a w hs)

theorem AT.region {C : Ctx} {id : Nat} {l : List Oper} {Q : Exit → AState → Prop} {S : AState} (h : TrC C l.toArray false 0 l S [] (Q .normal)) : AT C (.region id l.toArray false) Q S := by
  intro a w hs
  obtain ⟨R, r1, r2, r3, r4, r5⟩ := TrC.list _ _ _ _ h
  refine wp_region_lit ?_
  have := text_sound (Q := fun e a' w' => ∃ S', Q e S' ∧ Sat C S' a' w') R S a w r3 hs fun a w hs' => ⟨_, r5, hs'⟩
  rw [r1] at this
  exact this

theorem range'_sorted (s n : Nat) : (List.range' s n).Pairwise (· < ·) := List.pairwise_lt_range'
theorem AT.regionD {C : Ctx} {id : Nat} {l : List Oper} {Q : Exit → AState → Prop} {S : AState} (hm : C.P.follows .mixedOrders = true) (hE : edgesFrom 0 l = true)
    (h : TrC C l.toArray true 0 l S [] (Q .normal)) : AT C (.region id l.toArray true) Q S := by
  intro a w hs
  obtain ⟨R, r1, r2, r3, r4, r5⟩ := TrC.list _ _ _ _ h
  have hlen : R.length = l.length := by rw [← r1]; simp
  have hidx : ∀ (k : Nat) (hk : k < R.length), R[k].1 = k ∧ l[k]? = some R[k].2.1 := by
    intro k hk
    constructor
    · have : (R.map (·.1))[k]? = (List.range' 0 l.length)[k]? := by rw [r2]
      rw [List.getElem?_map, List.getElem?_eq_getElem hk, List.getElem?_range' (by omega)] at this
      simpa using this
    · have : (R.map (·.2.1))[k]? = l[k]? := by rw [r1]
      rw [List.getElem?_map, List.getElem?_eq_getElem hk] at this
      simpa using this.symm
  refine wp_region_any hm ?_
  refine any_sound (by simpa using hE) _ _ R S a _ (by simp [hlen]) ?_ ?_ ?_ ?_ ?_ (by simpa using r4 rfl) r3 (hs.drew _) (fun a w hs' => ⟨_, r5, hs'⟩)
  · intro it hit
    obtain ⟨k, hk, rfl⟩ := List.getElem_of_mem hit
    have := hidx k hk
    rw [this.1]; simpa using this.2
  · have : (R.map (·.1)).Pairwise (· < ·) := by rw [r2]; exact range'_sorted _ _
    rw [List.pairwise_map] at this
    exact this
  · intro i hi
    right
    have hk : i < R.length := by simpa [hlen] using hi
    exact ⟨R[i], List.getElem_mem hk, (hidx i hk).1⟩
  · intro it hit
    obtain ⟨k, hk, rfl⟩ := List.getElem_of_mem hit
    rw [(hidx k hk).1]
    have : k < l.length := by omega
    simp [Array.getD, this]
  · intro i o h
    by_cases hi : i < l.length <;> simp [Array.getD, hi] at h

/-- A loop: a family of states with a measure. -/
theorem AT.loop {C : Ctx} {c : Code} {Q : Exit → AState → Prop} {S : AState} {ι : Type} (I : ι → AState) (μ : ι → Nat) (i₀ : ι)
    (h₀ : ∀ a w, Sat C S a w → Sat C (I i₀) a w)
    (round : ∀ i, AT C c (nextQ (fun S' => ∃ j, μ j < μ i ∧ ∀ a w, Sat C S' a w → Sat C (I j) a w) Q) (I i)) : AT C (.loop c) Q S := by
  intro a w hs
  intro b k cs
  have key : ∀ n i a w, μ i = n → Sat C (I i) a w →
      ∃ e a' w', (∃ S', Q e S' ∧ Sat C S' a' w') ∧ Arrives C.P (lone (b.at a (.code c :: .inLoop c :: k)) cs w) b k cs e a' w' := by
    intro n
    induction n using Nat.strongRecOn with
    | _ n ih =>
      intro i a w hn hI
      obtain ⟨e, a₁, w₁, ⟨S', hq, hs'⟩, harr⟩ := round i a w hI b (.inLoop c :: k) cs
      cases e with
      | normal =>
        obtain ⟨j, hlt, hw⟩ := hq
        obtain ⟨e₂, a₂, w₂, hq₂, harr₂⟩ := ih (μ j) (hn ▸ hlt) j a₁ w₁ rfl (hw _ _ hs')
        exact ⟨e₂, a₂, w₂, hq₂, .of_steps (Steps.trans harr (.one step_inLoop)) harr₂⟩
      | exit id => exact ⟨_, a₁, w₁, ⟨S', hq, hs'⟩, .pass (x := .inLoop c) rfl (fun _ _ => .inl (by simp)) harr⟩
      | goto l => exact ⟨_, a₁, w₁, ⟨S', hq, hs'⟩, .pass (x := .inLoop c) rfl (fun _ _ => .inl (by simp)) harr⟩
      | ret => exact ⟨_, a₁, w₁, ⟨S', hq, hs'⟩, .pass (x := .inLoop c) rfl (fun _ _ => .inl (by simp)) harr⟩
      | panic ch => exact ⟨_, a₁, w₁, ⟨S', hq, hs'⟩, .pass (x := .inLoop c) rfl (fun _ _ => .inl (by simp)) harr⟩
      | outgrown => exact ⟨_, a₁, w₁, ⟨S', hq, hs'⟩, .pass (x := .inLoop c) rfl (fun _ _ => .inl (by simp)) harr⟩
  obtain ⟨e, a', w', hq, harr⟩ := key _ i₀ a w rfl (h₀ a w hs)
  exact ⟨e, a', w', hq, .of_steps (.one step_loop) harr⟩

end Go.Proofs.Ytnemmdbafngppaa.Abs
