/- Abstract symbolic execution, part 12: weakening of states, from a body to a contract. No condition. -/
import Derived.Test.YtnemmdbafngppaaAbs11
set_option linter.unusedVariables false
set_option linter.unusedSimpArgs false
namespace Go.Proofs.Ytnemmdbafngppaa.Abs
open Go.RowKit
variable {C : Ctx} {ops : Array Oper} {o : Oper} {S : AState}

/-! ### States out of lists -/
def lookA (x : Nat) : List (Nat × AV) → AV
  | [] => .junk
  | (y, v) :: r => bif Nat.beq x y then v else lookA x r
def lookO (i : Nat) : List (Nat × AObj) → Option AObj
  | [] => none
  | (j, o) :: r => bif Nat.beq i j then some o else lookO i r
def usedBy (sl : List (Nat × AV)) (ml : List (Nat × AObj)) (i : Nat) : Bool :=
  (sl.any fun p => p.2.ids.any (Nat.beq i)) || (ml.any fun p => Nat.beq i p.1 || p.2.ids.any (Nat.beq i))
def mkS (sl : List (Nat × AV)) (ml : List (Nat × AObj)) : AState := { slot := fun x => lookA x sl, mem := fun i => lookO i ml, used := usedBy sl ml }

theorem any_beq' {l : List Nat} {i : Nat} : l.any (Nat.beq i) = true ↔ i ∈ l := any_beq
theorem lookA_mem {x : Nat} {sl : List (Nat × AV)} : lookA x sl = .junk ∨ (x, lookA x sl) ∈ sl := by
  induction sl with
  | nil => exact .inl rfl
  | cons p r ih =>
    obtain ⟨y, v⟩ := p
    simp only [lookA]
    cases hb : Nat.beq x y with
    | true => have := Nat.eq_of_beq_eq_true hb; subst this; simp
    | false => simp only [cond_false]; rcases ih with h | h; exact .inl h; exact .inr (List.mem_cons_of_mem _ h)
theorem lookO_mem {i : Nat} {ml : List (Nat × AObj)} {o : AObj} (h : lookO i ml = some o) : (i, o) ∈ ml := by
  induction ml with
  | nil => cases h
  | cons p r ih =>
    obtain ⟨j, o'⟩ := p
    simp only [lookO] at h
    cases hb : Nat.beq i j with
    | true => rw [hb] at h; have := Nat.eq_of_beq_eq_true hb; subst this; injection h with h; subst h; simp
    | false => rw [hb] at h; exact List.mem_cons_of_mem _ (ih h)

/-! ### Weakening -/
def ren (ρ : List (Nat × Nat)) (i : Nat) : Nat :=
  match ρ with
  | [] => i
  | (j, k) :: r => bif Nat.beq i j then k else ren r i
/-- No object that stays is object i. -/
def gone (ρ : List (Nat × Nat)) (ml : List (Nat × AObj)) (i : Nat) : Bool := ml.all fun p => !(Nat.beq (ren ρ p.1) i)
inductive WkV (S : AState) (ρ : List (Nat × Nat)) (ml : List (Nat × AObj)) : AV → AV → Prop
  | junk (x : AV) : WkV S ρ ml x .junk
  | t {x y : T} (hc : Conv x y) : WkV S ρ ml (.t x) (.t y)
  | h {i j : Nat} (hr : ren ρ j = i) : WkV S ρ ml (.h i) (.h j)
  | p {i j q : Nat} (hr : ren ρ j = i) : WkV S ρ ml (.p i q) (.p j q)
  | e {i j q : Nat} (hr : ren ρ j = i) : WkV S ρ ml (.e i q) (.e j q)
  | s {i j z q n c : Nat} (hr : ren ρ j = i) : WkV S ρ ml (.s i z q n c) (.s j z q n c)
  | fr {i E sz : Nat} {l : List T} (hm : S.mem i = some (.row E sz l)) (hg : gone ρ ml i = true) : WkV S ρ ml (.h i) (.t (.slice sz l))
  | fp {i q n E : Nat} {cells l : List AV} {ts : List T} (hm : S.mem i = some (.box E cells)) (hs : sub cells q n = some l) (ht : trees l = some ts) (hg : gone ρ ml i = true) : WkV S ρ ml (.p i q) (.t (.ptr ts))
  | agg {l l' : List AV} (hl : l.length = l'.length) (h : ∀ k (h1 : k < l.length) (h2 : k < l'.length), WkV S ρ ml l[k] l'[k]) : WkV S ρ ml (.agg l) (.agg l')
  | aggT {l : List AV} {ts : List T} (hl : l.length = ts.length) (h : ∀ k (h1 : k < l.length) (h2 : k < ts.length), WkV S ρ ml l[k] (.t ts[k])) : WkV S ρ ml (.agg l) (.t (.agg ts))
  | tup {l l' : List AV} (hl : l.length = l'.length) (h : ∀ k (h1 : k < l.length) (h2 : k < l'.length), WkV S ρ ml l[k] l'[k]) : WkV S ρ ml (.tup l) (.tup l')
inductive WkL (S : AState) (ρ : List (Nat × Nat)) (ml : List (Nat × AObj)) : List AV → List AV → Prop
  | nil : WkL S ρ ml [] []
  | cons {x y : AV} {l r : List AV} (h : WkV S ρ ml x y) (hl : WkL S ρ ml l r) : WkL S ρ ml (x :: l) (y :: r)
theorem WkL.len {ρ : List (Nat × Nat)} {ml : List (Nat × AObj)} {l r : List AV} (h : WkL S ρ ml l r) : l.length = r.length := by induction h <;> simp [*]
theorem WkL.get {ρ : List (Nat × Nat)} {ml : List (Nat × AObj)} {l r : List AV} (h : WkL S ρ ml l r) : ∀ k (h1 : k < l.length) (h2 : k < r.length), WkV S ρ ml l[k] r[k] := by
  induction h with
  | nil => intro k h1; simp at h1
  | cons hc _ ih =>
    intro k h1 h2
    cases k with
    | zero => exact hc
    | succ k => simpa using ih k (by simpa using h1) (by simpa using h2)
theorem WkV.aggL {ρ : List (Nat × Nat)} {ml : List (Nat × AObj)} {l l' : List AV} (h : WkL S ρ ml l l') : WkV S ρ ml (.agg l) (.agg l') := .agg h.len h.get
theorem WkV.tupL {ρ : List (Nat × Nat)} {ml : List (Nat × AObj)} {l l' : List AV} (h : WkL S ρ ml l l') : WkV S ρ ml (.tup l) (.tup l') := .tup h.len h.get
theorem WkV.aggTL {ρ : List (Nat × Nat)} {ml : List (Nat × AObj)} {l : List AV} {l' : List AV} {ts : List T} (h : WkL S ρ ml l l') (ht : trees l' = some ts) : WkV S ρ ml (.agg l) (.t (.agg ts)) := by
  have := trees_spec ht; subst this
  exact .aggT (by simpa using h.len) fun k h1 h2 => by have := h.get k h1 (by simpa using h2); rwa [List.getElem_map] at this
inductive WkO (S : AState) (ρ : List (Nat × Nat)) (ml : List (Nat × AObj)) : AObj → AObj → Prop
  | row {E sz : Nat} {l l' : List T} (h : l = l') : WkO S ρ ml (.row E sz l) (.row E sz l')
  | buf {E sz cap : Nat} {l l' : List T} (h : l = l') : WkO S ρ ml (.buf E sz cap l) (.buf E sz cap l')
  | box {E : Nat} {l l' : List AV} (h : WkL S ρ ml l l') : WkO S ρ ml (.box E l) (.box E l')
inductive WkS (S : AState) (ρ : List (Nat × Nat)) (ml : List (Nat × AObj)) : List (Nat × AV) → Prop
  | nil : WkS S ρ ml []
  | cons {x : Nat} {v : AV} {r : List (Nat × AV)} (h : WkV S ρ ml (S.slot x) v) (hr : WkS S ρ ml r) : WkS S ρ ml ((x, v) :: r)
inductive WkM (S : AState) (ρ : List (Nat × Nat)) (ml : List (Nat × AObj)) : List (Nat × AObj) → Prop
  | nil : WkM S ρ ml []
  | cons {j : Nat} {o o' : AObj} {r : List (Nat × AObj)} (hm : S.mem (ren ρ j) = some o) (h : WkO S ρ ml o o') (hr : WkM S ρ ml r) : WkM S ρ ml ((j, o') :: r)
theorem WkS.get {ρ : List (Nat × Nat)} {ml : List (Nat × AObj)} {sl : List (Nat × AV)} (h : WkS S ρ ml sl) : ∀ x v, (x, v) ∈ sl → WkV S ρ ml (S.slot x) v := by
  induction h with
  | nil => intro x v h; cases h
  | cons hv _ ih =>
    intro x v hm
    rcases List.mem_cons.1 hm with h | h
    · injection h with h1 h2; subst h1; subst h2; exact hv
    · exact ih x v h
theorem WkM.get {ρ : List (Nat × Nat)} {ml : List (Nat × AObj)} {m : List (Nat × AObj)} (h : WkM S ρ ml m) : ∀ j o', (j, o') ∈ m → ∃ o, S.mem (ren ρ j) = some o ∧ WkO S ρ ml o o' := by
  induction h with
  | nil => intro x v h; cases h
  | cons hm hv _ ih =>
    intro j o' h
    rcases List.mem_cons.1 h with h | h
    · injection h with h1 h2; subst h1; subst h2; exact ⟨_, hm, hv⟩
    · exact ih j o' h
def nodupB : List Nat → Bool
  | [] => true
  | x :: r => !(r.any (Nat.beq x)) && nodupB r
theorem nodupB_spec {l : List Nat} (h : nodupB l = true) : l.Nodup := by
  induction l with
  | nil => exact List.nodup_nil
  | cons x r ih =>
    simp only [nodupB, Bool.and_eq_true, Bool.not_eq_true'] at h
    refine List.nodup_cons.2 ⟨fun hm => ?_, ih h.2⟩
    rw [any_beq.2 hm] at h; cases h.1

def isBox : Option AObj → Bool
  | some (.box ..) => true
  | _ => false
/-- The anchored variables stay, under their numbers. -/
def ancB (C : Ctx) (ρ : List (Nat × Nat)) (ml : List (Nat × AObj)) : Bool := C.anc.all fun p => isBox (lookO p.1 ml) && Nat.beq (ren ρ p.1) p.1
theorem SatB.wk {β : Nat → Value} {a : Act} {w : World} (h : SatB C β S a w) (ρ : List (Nat × Nat)) (sl : List (Nat × AV)) (ml : List (Nat × AObj)) (hs : WkS S ρ ml sl) (hm : WkM S ρ ml ml)
    (hn : nodupB (ml.map fun p => ren ρ p.1) = true) (han : ancB C ρ ml = true) : SatB C (fun i => β (ren ρ i)) (mkS sl ml) a w := by
  have hinj : ∀ i j o o', lookO i ml = some o → lookO j ml = some o' → i ≠ j → ren ρ i ≠ ren ρ j := by
    intro i j o o' hi hj hne he
    have hnd := nodupB_spec hn
    obtain ⟨p, hp, hpe⟩ := List.getElem_of_mem (lookO_mem hi)
    obtain ⟨q, hq, hqe⟩ := List.getElem_of_mem (lookO_mem hj)
    have e1 : (ml.map fun p => ren ρ p.1)[p]'(by simpa using hp) = ren ρ i := by simp [hpe]
    have e2 : (ml.map fun p => ren ρ p.1)[q]'(by simpa using hq) = ren ρ j := by simp [hqe]
    have : p = q := (List.getElem_inj hnd).1 (e1.trans (he.trans e2.symm))
    subst this
    rw [hpe] at hqe; injection hqe with h1 _; exact hne h1
  have howned : ∀ b, owned (mkS sl ml) (fun i => β (ren ρ i)) b → owned S β b := by
    rintro b ⟨i, o, hi, hb⟩
    obtain ⟨o1, h1, _⟩ := hm.get i o (lookO_mem hi)
    exact ⟨_, o1, h1, hb⟩
  have hok : ∀ b, okS C S β w b → okS C (mkS sl ml) (fun i => β (ren ρ i)) w b := fun b hb => ⟨hb.1, hb.2.1, fun ho => hb.2.2 (howned b ho)⟩
  have hgone : ∀ i, gone ρ ml i = true → ∀ o, S.mem i = some o → ∀ b, blk (β i) = some b → okS C (mkS sl ml) (fun i => β (ren ρ i)) w b := by
    intro i hg o hmi b hb
    have hlt := (h.mem i o hmi).lt hb
    refine ⟨⟨.inr hlt.1, fun x hx => (h.keep b _ hx).2 ⟨i, o, hmi, hb⟩⟩, hlt.2, ?_⟩
    rintro ⟨j, o', hj, hbj⟩
    have hjm := lookO_mem hj
    obtain ⟨o1, h1, _⟩ := hm.get j o' hjm
    have hne : ren ρ j ≠ i := by
      intro he
      have := (List.all_eq_true.1 hg) _ hjm
      simp only [he, Nat.beq_refl] at this
      cases this
    exact h.apart _ i o1 o h1 hmi hne b hbj hb
  have hv : ∀ {v : Value} {x y : AV}, VRel w (okS C S β w) β v x → WkV S ρ ml x y → VRel w (okS C (mkS sl ml) (fun i => β (ren ρ i)) w) (fun i => β (ren ρ i)) v y := by
    intro v x y hvx hw
    induction hw generalizing v with
    | junk => exact .junk v
    | t hc => exact .t ((hc.reads hvx.tD).mono (fun _ _ => rfl) hok)
    | h hr => rw [hvx.hD, ← hr]; exact .h (β := fun i => β (ren ρ i)) _
    | p hr => obtain ⟨b, h1, h2⟩ := hvx.pD; rw [h2]; exact .p (by rw [hr]; exact h1)
    | e hr => obtain ⟨b, n, c, h1, h2⟩ := hvx.eD; rw [h2]; exact .e (by rw [hr]; exact h1)
    | s hr => cases hvx with | s h1 h2 h3 h4 => exact .s (by rw [hr]; exact h1) h2 h3 h4
    | fr hmi hg => rw [hvx.hD]; exact .t (row_reads (h.mem _ _ hmi) hok (hgone _ hg _ hmi))
    | @fp i q n E cells l ts hmi hs ht hg =>
      obtain ⟨b, h1, h2⟩ := hvx.pD
      obtain ⟨b', arr, g1, g2, g3, g4, g5⟩ := h.mem _ _ hmi
      rw [h1] at g1; injection g1 with g1; injection g1 with g1; injection g1 with g1; subst g1
      have := trees_spec ht; subst this
      obtain ⟨k1, k2⟩ := sub_spec hs
      simp only [List.length_map] at k1
      have hin : ∀ k (hk : k < ts.length), ∃ hlt : q + k < cells.length, cells[q + k] = .t ts[k] := fun k hk => by
        have e := k2 k (by omega)
        rw [List.getElem?_map, List.getElem?_eq_getElem hk] at e
        obtain ⟨hlt, e⟩ := List.getElem?_eq_some_iff.1 e
        exact ⟨hlt, e⟩
      rw [h2]
      refine .t (.ptr (fun k => arr.getD (q + k) undef) (hgone _ hg _ hmi b (by rw [h1]; rfl)) (fun k hk => ?_) (fun k hk => ?_))
      · obtain ⟨hlt, e⟩ := hin k hk
        rw [add_plain', cell_of_block g3]
        have hlt' : q + k < arr.size := by omega
        exact ⟨by simp [Array.getD, hlt'], by simpa [Array.getD, hlt'] using (g5 (q + k) hlt' hlt).2⟩
      · obtain ⟨hlt, e⟩ := hin k hk
        have hlt' : q + k < arr.size := by omega
        have := (g5 (q + k) hlt' hlt).1
        rw [e] at this
        simpa [Array.getD, hlt'] using this.tD.mono (fun _ _ => rfl) hok
    | agg hl _ ih =>
      obtain ⟨vs, rfl, h1, h2, h3⟩ := hvx.aggD
      exact .agg (by omega) h3 fun k k1 k2 => ih k (by omega) k2 (h2 k k1 (by omega))
    | aggT hl _ ih =>
      obtain ⟨vs, rfl, h1, h2, h3⟩ := hvx.aggD
      exact .t (.agg (by omega) h3 fun k k1 k2 => (ih k (by omega) k2 (h2 k k1 (by omega))).tD)
    | tup hl _ ih => cases hvx with | tup h1 h2 => exact .tup (by omega) fun k k1 k2 => ih k (by omega) k2 (h2 k k1 (by omega))
  refine ⟨h.size, h.defers, h.below, h.ok0, fun x => ?_, fun j o' hj => ?_, fun i j o o' hi hj hne b hbi hbj => ?_, fun x i hi => ?_, fun j o' hj => ?_, fun b x hx => ⟨(h.keep b x hx).1, fun ho => (h.keep b x hx).2 (howned b ho)⟩, fun p hp => ?_⟩
  · show VRel w _ _ _ (lookA x sl)
    rcases lookA_mem (x := x) (sl := sl) with h1 | h1
    · rw [h1]; exact .junk _
    · exact hv (h.slot x) (hs.get x _ h1)
  · obtain ⟨o1, h1, h2⟩ := hm.get j o' (lookO_mem hj)
    have hO := h.mem _ _ h1
    cases h2 with
    | row h =>
      subst h
      obtain ⟨cells, g1, g2, g3⟩ := hO
      exact ⟨cells, g1, g2, fun k hk jj hjj => by obtain ⟨u, e1, e2, e3⟩ := g3 k hk jj hjj; exact ⟨u, e1, e2.mono (fun _ _ => rfl) hok, e3⟩⟩
    | buf h =>
      subst h
      obtain ⟨g, cur, g1, g2, g3, g4, g5, g6, g7, g8⟩ := hO
      exact ⟨g, cur, g1, g2, g3, g4, g5, g6, g7, fun k hk jj hjj => by obtain ⟨u, e1, e2, e3⟩ := g8 k hk jj hjj; exact ⟨u, e1, e2.mono (fun _ _ => rfl) hok, e3⟩⟩
    | box hl =>
      obtain ⟨b, arr, g1, g2, g3, g4, g5⟩ := hO
      have hlen := hl.len
      exact ⟨b, arr, g1, g2, g3, by omega, fun k k1 k2 => ⟨hv (g5 k k1 (by omega)).1 (hl.get k (by omega) k2), (g5 k k1 (by omega)).2⟩⟩
  · obtain ⟨o1, h1, _⟩ := hm.get i o (lookO_mem hi)
    obtain ⟨o2, h2, _⟩ := hm.get j o' (lookO_mem hj)
    exact h.apart _ _ o1 o2 h1 h2 (hinj i j o o' hi hj hne) b hbi hbj
  · have hi' : i ∈ (lookA x sl).ids := hi
    rcases lookA_mem (x := x) (sl := sl) with h1 | h1
    · rw [h1] at hi'; simp [AV.ids] at hi'
    · show usedBy sl ml i = true
      unfold usedBy
      rw [Bool.or_eq_true]; left
      rw [List.any_eq_true]
      exact ⟨_, h1, any_beq.2 hi'⟩
  · have hjm := lookO_mem hj
    refine ⟨?_, fun i hi => ?_⟩
    · show usedBy sl ml j = true
      unfold usedBy
      rw [Bool.or_eq_true]; right
      rw [List.any_eq_true]
      exact ⟨_, hjm, by simp [Nat.beq_refl]⟩
    · show usedBy sl ml i = true
      unfold usedBy
      rw [Bool.or_eq_true]; right
      rw [List.any_eq_true]
      exact ⟨_, hjm, by rw [Bool.or_eq_true]; exact .inr (any_beq.2 hi)⟩
  · have := (List.all_eq_true.1 han) _ hp
    simp only [Bool.and_eq_true] at this
    refine ⟨?_, ?_⟩
    · show β (ren ρ p.1) = p.2
      rw [Nat.eq_of_beq_eq_true this.2]; exact (h.anc p hp).1
    · have h1 := this.1
      show ∃ E cells, lookO p.1 ml = some (.box E cells)
      generalize lookO p.1 ml = q at h1
      cases q with
      | none => cases h1
      | some q => cases q with
        | box E cells => exact ⟨E, cells, rfl⟩
        | row E sz l => cases h1
        | buf E sz cap l => cases h1
theorem Sat.wk (ρ : List (Nat × Nat)) {sl : List (Nat × AV)} {ml : List (Nat × AObj)} (hs : WkS S ρ ml sl) (hm : WkM S ρ ml ml) (hn : nodupB (ml.map fun p => ren ρ p.1) = true) (han : ancB C ρ ml = true) (a : Act) (w : World) (h : Sat C S a w) : Sat C (mkS sl ml) a w := by
  obtain ⟨β, h⟩ := h
  exact ⟨_, h.wk ρ sl ml hs hm hn han⟩
theorem AT.wk {c : Code} {Q : Exit → AState → Prop} (ρ : List (Nat × Nat)) {sl : List (Nat × AV)} {ml : List (Nat × AObj)} (hs : WkS S ρ ml sl) (hm : WkM S ρ ml ml) (hn : nodupB (ml.map fun p => ren ρ p.1) = true) (han : ancB C ρ ml = true)
    (h : AT C c Q (mkS sl ml)) : AT C c Q S := AT.weaken (Sat.wk ρ hs hm hn han) h

/-- A nil slice in a slot is taken as a row of the call's own. -/
theorem Sat.nilRow {a : Act} {w : World} (h : Sat C S a w) (x i E sz : Nat) (hx : S.slot x = .t (.v (.slice none 0 0))) (hu : S.used i = false) :
    Sat C { modS [(i, some (.row E sz []))] S with slot := putS (some x) (.h i) S.slot } a w := by
  obtain ⟨β, h⟩ := h
  obtain ⟨β', e1, e2, e3, e4, hsb⟩ := h.new i hu (.row E sz []) (.slice none 0 0) (Below.refl _ w) (fun b hb => by simp [blk] at hb) (by simp [AObj.ids])
    (fun ok' β' h1 h2 h3 h4 => ⟨[], by rw [h3]; exact World.ownsRow_nil w _ E sz, fun k hk => by simp at hk, fun k hk => by simp at hk⟩)
  refine ⟨β', { hsb with slot := fun y => ?_, wfs := fun y j hj => ?_, mem := hsb.mem, apart := hsb.apart, wfm := hsb.wfm, keep := hsb.keep, anc := hsb.anc }⟩
  · show VRel w _ β' _ (putS (some x) (.h i) S.slot y)
    rcases putS_cases (some x) (.h i) S.slot y with ⟨h1, h2⟩ | ⟨h1, h2⟩
    · rw [h2]; injection h1 with h1; subst h1
      have := h.slot x
      rw [hx] at this
      rw [this.toV, ← e1]; exact .h i
    · rw [h2]; exact hsb.slot y
  · have hj' : j ∈ (putS (some x) (.h i) S.slot y).ids := hj
    rcases putS_cases (some x) (.h i) S.slot y with ⟨h1, h2⟩ | ⟨h1, h2⟩
    · rw [h2] at hj'; simp only [AV.ids, List.mem_singleton] at hj'; subst hj'
      show (modS [(j, some (.row E sz []))] S).used j = true
      rw [modS_one.2]; simp
    · rw [h2] at hj'; exact hsb.wfs y j hj'
theorem AT.nilRow {c : Code} {Q : Exit → AState → Prop} (x i E sz : Nat) (hx : S.slot x = .t (.v (.slice none 0 0))) (hu : S.used i = false)
    (h : AT C c Q { modS [(i, some (.row E sz []))] S with slot := putS (some x) (.h i) S.slot }) : AT C c Q S := AT.weaken (fun a w hs => hs.nilRow x i E sz hx hu) h

/-! ### From a body to a contract -/
inductive ResR (C : Ctx) (S : AState) : ResultVar → T → Prop
  | tmp {t : Tmp} {x y : T} (h : S.slot t = .t x) (hc : Conv x y) : ResR C S (.tmp t) y
  | row {t : Tmp} {i E sz : Nat} {l : List T} (h : S.slot t = .h i) (hm : S.mem i = some (.row E sz l)) : ResR C S (.tmp t) (.slice sz l)
  | cellN {t : Tmp} {ty i E n : Nat} {cells l : List AV} {ts : List T} {y : T} (h : S.slot t = .p i 0) (hm : S.mem i = some (.box E cells)) (ht : tyB C.P ty = some (true, n)) (hs : sub cells 0 n = some l) (hts : trees l = some ts) (hc : Conv (.agg ts) y) :
      ResR C S (.cell t ty) y
  | cell1 {t : Tmp} {ty i E : Nat} {cells : List AV} {x y : T} (h : S.slot t = .p i 0) (hm : S.mem i = some (.box E cells)) (ht : tyB C.P ty = some (false, 1)) (hs : cells[0]? = some (.t x)) (hc : Conv x y) : ResR C S (.cell t ty) y
inductive ResL (C : Ctx) (S : AState) : List ResultVar → List T → Prop
  | nil : ResL C S [] []
  | cons {r : ResultVar} {x : T} {rs : List ResultVar} {xs : List T} (h : ResR C S r x) (hl : ResL C S rs xs) : ResL C S (r :: rs) (x :: xs)
def Ret (C : Ctx) (fn : Func) (res : T) (S : AState) : Prop := ∃ xs, ResL C S fn.results.toList xs ∧ ((xs = [res]) ∨ (xs.length ≠ 1 ∧ res = .tup xs))
def RetQ (C : Ctx) (fn : Func) (res : T) : Exit → AState → Prop
  | .normal, S => Ret C fn res S
  | .ret, S => Ret C fn res S
  | _, _ => False
theorem Ret.one {fn : Func} {r : ResultVar} {res : T} (hf : fn.results.toList = [r]) (h : ResR C S r res) : Ret C fn res S := ⟨[res], by rw [hf]; exact .cons h .nil, .inl rfl⟩
theorem Ret.many {fn : Func} {xs : List T} (h : ResL C S fn.results.toList xs) (hn : (xs.length == 1) = false) : Ret C fn (.tup xs) S := ⟨xs, h, .inr ⟨by simpa using hn, rfl⟩⟩

def S0 (args : List T) : AState := { slot := fun x => match args[x]? with | some t => .t t | none => .junk, mem := fun _ => none, used := fun _ => false }
theorem sat0 {P : Program} {w : World} {ok : Nat → Prop} {args : List T} {vs : Array Value} {n m : Nat} (hok : ∀ b, ok b → b < w.heap.size) (hl : vs.size = args.length) (hv : ∀ i (h1 : i < vs.size) (h2 : i < args.length), Reads w ok vs[i] args[i])
    (hn : args.length + m = n) : Sat ⟨P, w, ok, n, fun _ => none, []⟩ (S0 args) { tmps := vs ++ Array.replicate m undef, defers := [] } w := by
  refine ⟨fun _ => undef, ?_, rfl, Below.refl _ _, hok, fun x => ?_, fun i o h => (by cases h), fun i j o o' h => (by cases h), fun x i hi => ?_, fun j o h => (by cases h), fun b x h => (by cases h), fun p h => (by cases h)⟩
  · simp; omega
  · simp only [S0]
    split
    · rename_i t ht
      obtain ⟨hx, rfl⟩ := List.getElem?_eq_some_iff.1 ht
      have hx' : x < vs.size := by omega
      have e : (vs ++ Array.replicate m undef).getD x undef = vs[x] := by
        have : x < (vs ++ Array.replicate m undef).size := by simp; omega
        simp only [Array.getD, this, dif_pos]
        exact Array.getElem_append_left hx'
      rw [e]
      exact .t ((hv x hx' hx).mono (fun _ _ => rfl) fun b hb => ⟨⟨.inl hb, fun x h => (by cases h)⟩, hok b hb, fun ho => by obtain ⟨_, _, h, _⟩ := ho; cases h⟩)
    · exact .junk _
  · simp only [S0] at hi
    split at hi <;> simp [AV.ids] at hi

def okR (w : World) (ok : Nat → Prop) (w' : World) (b : Nat) : Prop := ok b ∨ (w.heap.size ≤ b ∧ b < w'.heap.size)
def rvSem (tmps : Array Value) : ResultVar → Sem Value
  | .tmp t => pure (tmps.getD t undef)
  | .cell b t => do loadVar t (← asAddr (tmps.getD b undef))
theorem results_eq (fn : Func) (tmps : Array Value) : results fn tmps = (do let vs ← fn.results.mapM (rvSem tmps); pure (if h : vs.size = 1 then vs[0] else .tuple vs)) := by
  unfold results
  congr 1
theorem ResR.run {β : Nat → Value} {a : Act} {w' : World} (h : SatB C β S a w') {r : ResultVar} {x : T} (hr : ResR C S r x) :
    ∃ v, (rvSem a.tmps r).run C.P w' = .ok v w' ∧ Reads w' (okR C.w0 C.ok0 w') v x := by
  have hoks : ∀ b, okS C S β w' b → okR C.w0 C.ok0 w' b := fun b hb => by rcases hb.1.1 with h1 | h1; exact .inl h1; exact .inr ⟨h1, hb.2.1⟩
  cases hr with
  | @tmp t x y h1 hc =>
    have := h.slot t
    rw [h1] at this
    exact ⟨_, by simp [rvSem], (hc.reads this.tD).mono (fun _ _ => rfl) hoks⟩
  | @row t i E sz l h1 hm =>
    have := h.slot t
    rw [h1] at this
    refine ⟨a.tmps.getD t undef, by simp [rvSem], ?_⟩
    rw [this.hD]
    exact row_reads (h.mem _ _ hm) hoks fun b hb => .inr ((h.mem _ _ hm).lt hb)
  | @cellN t ty i E n cells l ts y h1 hm ht hs hts hc =>
    have hv := h.slot t
    rw [h1] at hv
    obtain ⟨b, vs, hq, hr, h2, h3⟩ := loadP_core (h.mem _ _ hm) hs hv ht
    refine ⟨.agg vs, by simp only [rvSem, hq, asAddr, Sem.run_bind, Sem.run_pure, Result.andThen_ok]; exact hr, (hc.reads ?_).mono (fun _ _ => rfl) hoks⟩
    exact ARel.aggT (β := β) ⟨h2, h3⟩ hts
  | @cell1 t ty i E cells x y h1 hm ht hs hc =>
    have hv := h.slot t
    rw [h1] at hv
    obtain ⟨b, h2, hq⟩ := hv.pD
    obtain ⟨b', arr, g1, g2, g3, g4, g5⟩ := h.mem _ _ hm
    rw [h2] at g1; injection g1 with g1; injection g1 with g1; injection g1 with g1; subst g1
    obtain ⟨hlt, he⟩ := List.getElem?_eq_some_iff.1 hs
    have hc' : w'.cell? ⟨b, 0, none⟩ = some (arr[0]'(by omega)) := by rw [cell_of_block g3]; exact Array.getElem?_eq_getElem _
    refine ⟨_, by simp only [rvSem, hq, asAddr, Sem.run_bind, Sem.run_pure, Result.andThen_ok]; exact run_loadVar1 ht hc', ?_⟩
    have := (g5 0 (by omega) hlt).1
    rw [he] at this
    exact (hc.reads this.tD).mono (fun _ _ => rfl) hoks
theorem ResL.run {β : Nat → Value} {a : Act} {w' : World} (h : SatB C β S a w') : ∀ {rs : List ResultVar} {xs : List T}, ResL C S rs xs →
    ∃ vs : List Value, (rs.mapM (rvSem a.tmps)).run C.P w' = .ok vs w' ∧ vs.length = xs.length ∧
      ∀ i (h1 : i < vs.length) (h2 : i < xs.length), Reads w' (okR C.w0 C.ok0 w') vs[i] xs[i]
  | [], _, .nil => ⟨[], by simp, rfl, fun i h => by simp at h⟩
  | r :: rs, _, .cons hr hl => by
    obtain ⟨v, e1, e2⟩ := hr.run h
    obtain ⟨vs, e3, e4, e5⟩ := ResL.run h hl
    refine ⟨v :: vs, ?_, by simp [e4], fun i h1 h2 => ?_⟩
    · rw [List.mapM_cons]
      simp only [Sem.run_bind] at e1 e3 ⊢
      simp only [e1, Result.andThen_ok, e3, Sem.run_pure]
    · cases i with
      | zero => exact e2
      | succ i => simpa using e5 i (by simpa using h1) (by simpa using h2)

theorem Has.intro {P : Program} {f : FuncId} {fn : Func} {code : Code} {args : List T} {res : T} (n : Nat) (hf : P.funcs[f]? = some fn) (hnm : (fn.name == "runtime.NumGoroutine") = false) (hb : fn.body = some code)
    (hn : args.length + (fn.ntmps - args.length) = n) (h : ∀ (w : World) (ok : Nat → Prop), AT ⟨P, w, ok, n, fun _ => none, []⟩ code (RetQ ⟨P, w, ok, n, fun _ => none, []⟩ fn res) (S0 args)) : Has P f args res := by
  refine ⟨⟨fn, hf, hnm, by rw [hb]; rfl⟩, fun w ok vs hok hl hv => ?_⟩
  refine calls_of_wp hf hb ?_
  have hs := sat0 (P := P) (m := fn.ntmps - args.length) hok hl hv hn
  rw [hl]
  refine wp_mono (h w ok _ _ hs) ?_
  rintro e a w' ⟨S', hq, ⟨β, hs'⟩⟩
  have key : Ret ⟨P, w, ok, n, fun _ => none, []⟩ fn res S' → a.defers = [] ∧ ∃ v, (results fn a.tmps).run P w' = .ok v w' ∧ (∃ v', Ending.returned v = .returned v' ∧ Reads w' (fun b => ok b ∨ (w.heap.size ≤ b ∧ b < w'.heap.size)) v' res ∧ Below w.heap.size w w') := by
    rintro ⟨xs, hr, hx⟩
    obtain ⟨vs', e1, e2, e3⟩ := hr.run hs'
    obtain ⟨rl, hrl⟩ : ∃ rl : List ResultVar, fn.results = rl.toArray := ⟨fn.results.toList, by simp⟩
    rw [hrl] at e1
    simp only [List.toList_toArray] at e1
    have hrun : (results fn a.tmps).run P w' = .ok (if h : vs'.toArray.size = 1 then vs'.toArray[0] else .tuple vs'.toArray) w' := by
      rw [results_eq, hrl, List.mapM_toArray]
      simp only [map_eq_pure_bind, Sem.run_bind] at e1 ⊢
      simp only [e1, Result.andThen_ok, Sem.run_pure]
    refine ⟨hs'.defers, _, hrun, _, rfl, ?_, hs'.below⟩
    rcases hx with rfl | ⟨hne, rfl⟩
    · have hl1 : vs'.length = 1 := by simpa using e2
      have hsz : vs'.toArray.size = 1 := by simpa using hl1
      rw [dif_pos hsz]
      have := e3 0 (by omega) (by simp)
      rw [List.getElem_toArray]
      exact this
    · have hsz : ¬ vs'.toArray.size = 1 := by simp; omega
      rw [dif_neg hsz]
      exact .tup (by simpa using e2) fun i h1 h2 => by rw [List.getElem_toArray]; exact e3 i (by simpa using h1) h2
  cases e with
  | normal => exact key hq
  | ret => exact key hq
  | _ => exact hq.elim

/-- Results that are a row of the call's own. -/
def RetH (fn : Func) (E sz : Nat) (l : List T) (S : AState) : Prop := ∃ t i, fn.results = #[.tmp t] ∧ S.slot t = .h i ∧ S.mem i = some (.row E sz l)
def RetHQ (fn : Func) (E sz : Nat) (l : List T) : Exit → AState → Prop
  | .normal, S => RetH fn E sz l S
  | .ret, S => RetH fn E sz l S
  | _, _ => False
theorem HasOwn.intro {P : Program} {f : FuncId} {fn : Func} {code : Code} {args l : List T} {E sz : Nat} (n : Nat) (hf : P.funcs[f]? = some fn) (hnm : (fn.name == "runtime.NumGoroutine") = false) (hb : fn.body = some code)
    (hn : args.length + (fn.ntmps - args.length) = n) (h : ∀ (w : World) (ok : Nat → Prop), AT ⟨P, w, ok, n, fun _ => none, []⟩ code (RetHQ fn E sz l) (S0 args)) : HasOwn P f args E sz l := by
  refine ⟨⟨fn, hf, hnm, by rw [hb]; rfl⟩, fun w ok vs hok hl hv => ?_⟩
  refine calls_of_wp hf hb ?_
  have hs := sat0 (P := P) (m := fn.ntmps - args.length) hok hl hv hn
  rw [hl]
  refine wp_mono (h w ok _ _ hs) ?_
  rintro e a w' ⟨S', hq, ⟨β, hs'⟩⟩
  have key : RetH fn E sz l S' → a.defers = [] ∧ ∃ v, (results fn a.tmps).run P w' = .ok v w' ∧ (∃ v' cells, Ending.returned v = .returned v' ∧ w'.ownsRow w.heap.size E sz v' l.length cells ∧ (∀ k (h : k < l.length), l[k].cells.length = sz) ∧
      (∀ k (h : k < l.length) j (hj : j < l[k].cells.length), ∃ u, cells[k * sz + j]? = some u ∧ Reads w' (fun b => ok b ∨ (w.heap.size ≤ b ∧ b < w'.heap.size ∧ v'.ownBlock ≠ some b)) u l[k].cells[j] ∧ u.oneCell' = true) ∧ Below w.heap.size w w') := by
    rintro ⟨t, i, hr, h1, hm⟩
    have hv := hs'.slot t
    rw [h1] at hv
    obtain ⟨cells, k1, k2, k3⟩ := hs'.mem i _ hm
    refine ⟨hs'.defers, _, results_tmp hr a.tmps P w', _, cells, rfl, ?_, k2, fun k hk j hj => ?_, hs'.below⟩
    · rw [hv.hD]; exact k1
    · obtain ⟨u, e1, e2, e3⟩ := k3 k hk j hj
      refine ⟨u, e1, e2.mono (fun _ _ => rfl) (fun b hb => ?_), e3⟩
      rcases hb.1.1 with h2 | h2
      · exact .inl h2
      · refine .inr ⟨h2, hb.2.1, fun e => hb.2.2 ⟨i, _, hm, ?_⟩⟩
        rw [hv.hD] at e
        rw [ownsRow_blk k1]; exact e
  cases e with
  | normal => exact key hq
  | ret => exact key hq
  | _ => exact hq.elim

/-! ### Steps of a region -/
theorem TrC.take {draw : Bool} {i : Nat} {os : List Oper} {done : List Item} {K : AState → Prop} {e : Eff} (hg : Guard ops o S true) (hs : Step C ops o S e)
    (h : TrC C ops draw (i + 1) os (ap o.dst e S) ((i, o, some e) :: done) K) : TrC C ops draw i (o :: os) S done K := ⟨some e, ⟨hg, hs⟩, h⟩
theorem TrC.skip {draw : Bool} {i : Nat} {os : List Oper} {done : List Item} {K : AState → Prop} (hg : Guard ops o S false)
    (h : TrC C ops draw (i + 1) os { S with slot := putS o.dst (.t (.v undef)) S.slot } ((i, o, none) :: done) K) : TrC C ops draw i (o :: os) S done K := ⟨none, hg, h⟩
theorem TrC.done {i : Nat} {done : List Item} {K : AState → Prop} (h : K S) : TrC C ops false i [] S done K := ⟨fun h => (by cases h), h⟩
theorem TrC.doneD {i : Nat} {done : List Item} {K : AState → Prop} (hp : pairsOk ops done.reverse = true) (h : K S) : TrC C ops true i [] S done K := ⟨fun _ => hp, h⟩

end Go.Proofs.Ytnemmdbafngppaa.Abs
