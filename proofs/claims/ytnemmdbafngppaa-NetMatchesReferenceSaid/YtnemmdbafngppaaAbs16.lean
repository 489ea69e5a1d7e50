/- Abstract symbolic execution, part 16: buffers: arrays of the call's own that are sliced, copied within, extended in place. No condition. -/
import Derived.Test.YtnemmdbafngppaaAbs15
import Derived.Laws.CopyOwn
set_option linter.unusedVariables false
set_option linter.unusedSimpArgs false
namespace Go.Proofs.Ytnemmdbafngppaa.Abs
open Go.RowKit
variable {C : Ctx} {ops : Array Oper} {o : Oper} {S : AState}

/-! ### Cells that read as a list of elements -/
def BufR (w : World) (ok : Nat → Prop) (sz : Nat) (cells : List Value) (l : List T) : Prop :=
  (∀ k (h : k < l.length), l[k].cells.length = sz) ∧ ∀ k (h : k < l.length) j (hj : j < l[k].cells.length), ∃ v, cells[k * sz + j]? = some v ∧ Reads w ok v l[k].cells[j] ∧ v.oneCell' = true
theorem idx_lt {k p j sz : Nat} (h : k < p) (hj : j < sz) : k * sz + j < p * sz := by
  have : (k + 1) * sz ≤ p * sz := Nat.mul_le_mul_right _ (by omega)
  have : (k + 1) * sz = k * sz + sz := by rw [Nat.add_mul, Nat.one_mul]
  omega
theorem BufR.mono {w w' : World} {ok ok' : Nat → Prop} {sz : Nat} {cells : List Value} {l : List T} (h : BufR w ok sz cells l) (hw : ∀ b, ok b → w'.heap[b]? = w.heap[b]?) (hk : ∀ b, ok b → ok' b) : BufR w' ok' sz cells l :=
  ⟨h.1, fun k hk' j hj => by obtain ⟨v, e1, e2, e3⟩ := h.2 k hk' j hj; exact ⟨v, e1, e2.mono hw hk, e3⟩⟩
theorem BufR.take {w : World} {ok : Nat → Prop} {sz n : Nat} {cells : List Value} {l : List T} (h : BufR w ok sz cells l) : BufR w ok sz cells (l.take n) := by
  refine ⟨fun k hk => ?_, fun k hk j hj => ?_⟩
  · simp only [List.length_take] at hk
    rw [List.getElem_take]; exact h.1 k (by omega)
  · simp only [List.length_take] at hk
    have := h.2 k (by omega) j (by rw [List.getElem_take] at hj; exact hj)
    simpa [List.getElem_take] using this
theorem BufR.part {w : World} {ok : Nat → Prop} {sz k m : Nat} {cells : List Value} {l : List T} (h : BufR w ok sz cells l) (hk : k + m ≤ l.length) : BufR w ok sz ((cells.drop (k * sz)).take (m * sz)) ((l.drop k).take m) := by
  have hlen : ((l.drop k).take m).length = m := by simp; omega
  have hget : ∀ q (hq : q < ((l.drop k).take m).length), ((l.drop k).take m)[q] = l[k + q]'(by simp at hq; omega) := fun q hq => by simp
  refine ⟨fun q hq => by rw [hget q hq]; exact h.1 _ _, fun q hq j hj => ?_⟩
  have hq' : q < m := by omega
  have hj' : j < l[k + q].cells.length := by rw [hget q hq] at hj; exact hj
  obtain ⟨v, e1, e2, e3⟩ := h.2 (k + q) (by omega) j hj'
  have hsz := h.1 (k + q) (by omega)
  refine ⟨v, ?_, ?_, e3⟩
  · rw [List.getElem?_take_of_lt (idx_lt hq' (by omega)), List.getElem?_drop, ← e1, Nat.add_mul]
    congr 1
    omega
  · simp only [hget q hq]; exact e2
/-- 'src' written from element p on. -/
def put (l : List T) (p : Nat) (src : List T) : List T := l.take p ++ src ++ l.drop (p + src.length)
theorem BufR.put {w : World} {ok : Nat → Prop} {sz p : Nat} {cells vs : List Value} {l src : List T} (h : BufR w ok sz cells l) (hs : BufR w ok sz vs src) (hv : vs.length = src.length * sz) (hp : p ≤ l.length) (hl : l.length * sz ≤ cells.length) :
    BufR w ok sz (cells.take (p * sz) ++ vs ++ cells.drop (p * sz + vs.length)) (Abs.put l p src) := by
  have hlt : (l.take p).length = p := by simp; omega
  have hcl : (cells.take (p * sz)).length = p * sz := by
    have : p * sz ≤ l.length * sz := Nat.mul_le_mul_right _ hp
    simp; omega
  have h1 : BufR w ok sz (cells.take (p * sz)) (l.take p) := by
    refine ⟨h.take.1, fun k hk j hj => ?_⟩
    obtain ⟨v, e1, e2⟩ := h.take.2 k hk j hj
    have := h.take.1 k hk
    exact ⟨v, by rw [List.getElem?_take_of_lt (idx_lt (by omega) (by omega))]; exact e1, e2⟩
  have a1 := rows_append (xs := cells.take (p * sz)) (cells := vs) (by rw [hcl, hlt]) h1.1 hs.1 h1.2 hs.2
  have h3 : BufR w ok sz (cells.drop (p * sz + vs.length)) (l.drop (p + src.length)) := by
    refine ⟨fun k hk => by rw [List.getElem_drop]; exact h.1 _ _, fun k hk j hj => ?_⟩
    have hk' : p + src.length + k < l.length := by simp at hk; omega
    obtain ⟨v, e1, e2, e3⟩ := h.2 (p + src.length + k) hk' j (by rw [List.getElem_drop] at hj; exact hj)
    refine ⟨v, ?_, by simpa [List.getElem_drop] using e2, e3⟩
    rw [List.getElem?_drop, ← e1, hv, Nat.add_mul, Nat.add_mul]
    congr 1
    omega
  have a2 := rows_append (xs := cells.take (p * sz) ++ vs) (cells := cells.drop (p * sz + vs.length)) (l := l.take p ++ src) (r := l.drop (p + src.length)) (by simp [hcl, hlt, hv, Nat.add_mul]) a1.1 h3.1 a1.2 h3.2
  exact a2
theorem put_len {l src : List T} {p : Nat} (h : p + src.length ≤ l.length) : (put l p src).length = l.length := by simp [put]; omega

/-! ### From a row to a buffer, and back -/
/-- An object takes another's place (and memory), under a new number. -/
theorem SatB.become {β : Nat → Value} {a : Act} {w : World} (h : SatB C β S a w) (i d : Nat) (ob ob' : AObj) (v' : Value) (hm : S.mem i = some ob) (hnb : isBox (some ob) = false) (hu : S.used d = false) (hblk : ∀ b, blk v' = some b → blk (β i) = some b)
    (hids : ob'.ids = []) (hO : ∀ (ok' : Nat → Prop) (β' : Nat → Value), (∀ b, okS C S β w b → ok' b) → β' d = v' → ORel C ok' β' w d ob') :
    ∃ β', β' d = v' ∧ (∀ j, S.used j = true → β' j = β j) ∧ SatB C β' (modS [(d, some ob'), (i, none)] S) a w := by
  have hne : i ≠ d := fun e => by subst e; have := (h.wfm i _ hm).1; rw [hu] at this; cases this
  let β' : Nat → Value := fun j => if j = d then v' else β j
  have e1 : β' d = v' := by simp [β']
  have e2 : ∀ j, j ≠ d → β' j = β j := fun j hj => by simp [β', hj]
  have hused : ∀ j, S.used j = true → j ≠ d := fun j hj e => by subst e; rw [hu] at hj; cases hj
  have hm' : ∀ j, (modS [(d, some ob'), (i, none)] S).mem j = (if j = d then some ob' else if j = i then none else S.mem j) := by
    intro j
    simp only [modS, assoc]
    by_cases hd : j = d
    · subst hd; simp [Nat.beq_refl]
    · have hb : Nat.beq j d = false := by
        cases hb : Nat.beq j d with
        | false => rfl
        | true => exact absurd (Nat.eq_of_beq_eq_true hb) hd
      by_cases hi : j = i
      · subst hi; simp [hb, Nat.beq_refl, hd]
      · have hb2 : Nat.beq j i = false := by
          cases hb : Nat.beq j i with
          | false => rfl
          | true => exact absurd (Nat.eq_of_beq_eq_true hb) hi
        simp [hb, hb2, hd, hi]
  have hus : ∀ j, S.used j = true → (modS [(d, some ob'), (i, none)] S).used j = true := fun j hj => by simp [modS, hj]
  have husd : (modS [(d, some ob'), (i, none)] S).used d = true := by simp [modS, hasKey, Nat.beq_refl]
  have hcase : ∀ j q, (modS [(d, some ob'), (i, none)] S).mem j = some q → (j = d ∧ q = ob') ∨ (j ≠ d ∧ j ≠ i ∧ S.mem j = some q) := by
    intro j q hj
    rw [hm'] at hj
    split at hj
    · rename_i e; injection hj with hj; exact .inl ⟨e, hj.symm⟩
    · rename_i hjd
      split at hj
      · cases hj
      · rename_i hji; exact .inr ⟨hjd, hji, hj⟩
  have howned : ∀ b, owned (modS [(d, some ob'), (i, none)] S) β' b → owned S β b := by
    rintro b ⟨j, q, hj, hbl⟩
    rcases hcase j q hj with ⟨rfl, _⟩ | ⟨h1, h2, h3⟩
    · rw [e1] at hbl; exact ⟨i, ob, hm, hblk b hbl⟩
    · rw [e2 j h1] at hbl; exact ⟨j, q, h3, hbl⟩
  have hok : ∀ b, okS C S β w b → okS C (modS [(d, some ob'), (i, none)] S) β' w b := fun b hb => ⟨hb.1, hb.2.1, fun ho => hb.2.2 (howned b ho)⟩
  refine ⟨β', e1, fun j hj => e2 j (hused j hj), h.change h.below (fun _ _ => rfl) hok (fun j hj => e2 j (hused j hj)) rfl hus (fun j q hj => ?_) (fun j k q q' hj hk hjk b hbj hbk => ?_) (fun j q hj => ?_)
    (fun b x hx => ⟨(h.keep b x hx).1, fun ho => (h.keep b x hx).2 (howned b ho)⟩) (fun p hp => ?_)⟩
  · rcases hcase j q hj with ⟨rfl, rfl⟩ | ⟨h1, h2, h3⟩
    · exact hO _ _ hok e1
    · exact (h.mem j q h3).mono (fun _ _ => rfl) (fun _ _ => rfl) hok (e2 j h1) (fun x hx => e2 x (hused x ((h.wfm j q h3).2 x hx)))
  · rcases hcase j q hj with ⟨rfl, rfl⟩ | ⟨h1, h2, h3⟩ <;> rcases hcase k q' hk with ⟨rfl, rfl⟩ | ⟨g1, g2, g3⟩
    · exact hjk rfl
    · rw [e1] at hbj; rw [e2 k g1] at hbk
      exact h.apart i k ob q' hm g3 (fun e => g2 e.symm) b (hblk b hbj) hbk
    · rw [e1] at hbk; rw [e2 j h1] at hbj
      exact h.apart i j ob q hm h3 (fun e => h2 e.symm) b (hblk b hbk) hbj
    · rw [e2 j h1] at hbj; rw [e2 k g1] at hbk
      exact h.apart j k q q' h3 g3 hjk b hbj hbk
  · rcases hcase j q hj with ⟨rfl, rfl⟩ | ⟨h1, h2, h3⟩
    · exact ⟨husd, by rw [hids]; simp⟩
    · exact ⟨hus _ (h.wfm j q h3).1, fun x hx => hus _ ((h.wfm j q h3).2 x hx)⟩
  · obtain ⟨g1, E, cells, g2⟩ := h.anc p hp
    have hd' : p.1 ≠ d := hused _ (h.wfm _ _ g2).1
    have hi' : p.1 ≠ i := fun e => by rw [e, hm] at g2; injection g2 with g2; subst g2; cases hnb
    exact ⟨(e2 _ hd').trans g1, E, cells, by rw [hm', if_neg hd', if_neg hi']; exact g2⟩
/-- A slot is given another value that its content is related to. -/
theorem SatB.reslot {β : Nat → Value} {a : Act} {w : World} (h : SatB C β S a w) (x : Nat) (av : AV) (hv : VRel w (okS C S β w) β (a.tmps.getD x undef) av) (hi : ∀ i ∈ av.ids, S.used i = true) : SatB C β { S with slot := putS (some x) av S.slot } a w := by
  refine ⟨h.size, h.defers, h.below, h.ok0, fun y => ?_, h.mem, h.apart, fun y i hy => ?_, h.wfm, h.keep, h.anc⟩
  · show VRel w _ β _ (putS (some x) av S.slot y)
    rcases putS_cases (some x) av S.slot y with ⟨h1, h2⟩ | ⟨h1, h2⟩
    · rw [h2]; injection h1 with h1; subst h1; exact hv
    · rw [h2]; exact h.slot y
  · have hy' : i ∈ (putS (some x) av S.slot y).ids := hy
    rcases putS_cases (some x) av S.slot y with ⟨h1, h2⟩ | ⟨h1, h2⟩
    · rw [h2] at hy'; exact hi i hy'
    · rw [h2] at hy'; exact h.wfs y i hy'

/-- The row in slot x is taken as a buffer. -/
theorem AT.openRow {c : Code} {Q : Exit → AState → Prop} (x i d E sz : Nat) {l : List T} (hx : S.slot x = .h i) (hm : S.mem i = some (.row E sz l)) (hpos : 0 < l.length) (hu : S.used d = false)
    (h : ∀ cap, l.length ≤ cap → cap ≤ maxLen → AT C c Q { modS [(d, some (.buf E sz cap l)), (i, none)] S with slot := putS (some x) (.s d sz 0 l.length cap) S.slot }) : AT C c Q S := by
  intro a w hsat
  obtain ⟨β, hb⟩ := hsat
  have hO := hb.mem i _ hm
  have hv := hb.slot x
  rw [hx] at hv
  obtain ⟨cells, h1, h2, h3⟩ := hO
  rcases h1.2 with ⟨_, h0⟩ | ⟨g, cap, cur, hg1, hg2, hg3, hg4, hg5, hg6, hg7⟩
  · omega
  · refine h cap hg4 hg5 a w ?_
    obtain ⟨β', e1, e2, hsb⟩ := hb.become i d _ (.buf E sz cap l) (.slice (some ⟨g, 0, none⟩) 0 cap) hm rfl hu (fun b hbl => by rw [hg1]; exact hbl) rfl (fun ok' β' h1' h2' =>
      ⟨g, cur, h2', hg2, hg3, hg5, hg6, hg4, h2, fun k hk j hj => by
        obtain ⟨u, k1, k2, k3⟩ := h3 k hk j hj
        refine ⟨u, ?_, k2.mono (fun _ _ => rfl) h1', k3⟩
        rw [← hg7, List.getElem?_take] at k1
        split at k1
        · simpa using k1
        · cases k1⟩)
    exact ⟨β', hsb.reslot x (.s d sz 0 l.length cap) (by rw [hv.hD, hg1]; exact .s e1 (by omega) hg4 (fun _ => by simp)) (fun j hj => by
      simp only [AV.ids, List.mem_singleton] at hj; subst hj; simp [modS, hasKey, Nat.beq_refl])⟩
/-- The first elements of the buffer in slot x are taken as a row. -/
theorem AT.closeRow {c : Code} {Q : Exit → AState → Prop} (x d : Nat) {i E sz n cap : Nat} {l : List T} (hx : S.slot x = .s i sz 0 n cap) (hm : S.mem i = some (.buf E sz cap l)) (hpos : 0 < cap) (hn : n ≤ l.length) (hu : S.used d = false)
    (h : AT C c Q { modS [(d, some (.row E sz (l.take n))), (i, none)] S with slot := putS (some x) (.h d) S.slot }) : AT C c Q S := by
  intro a w hsat
  refine h a w ?_
  obtain ⟨β, hb⟩ := hsat
  obtain ⟨g, cur, g1, g2, g3, g4, g5, g6, g7, g8⟩ := hb.mem i _ hm
  have hv := hb.slot x
  rw [hx] at hv
  obtain ⟨v, hve⟩ : ∃ v, a.tmps.getD x undef = v := ⟨_, rfl⟩
  rw [hve] at hv
  have hveq : v = .slice (some ⟨g, 0, none⟩) n cap := by
    cases hv with
    | s h1 h2 h3 h4 =>
      rw [g1] at h1; injection h1 with h1 _ _; injection h1 with h1; injection h1 with h1
      subst h1
      rw [h4 (by omega), Nat.zero_mul]
  have hlen : (l.take n).length = n := by simp; omega
  have hsub : (l.take n).length * sz ≤ cur.size := by rw [g5, hlen]; exact Nat.mul_le_mul_right _ (by omega)
  obtain ⟨β', e1, e2, hsb⟩ := hb.become i d _ (.row E sz (l.take n)) v hm rfl hu (fun b hbl => by rw [g1]; rw [hveq] at hbl; exact hbl) rfl (fun ok' β' h1' h2' => by
    have hB : BufR w ok' sz cur.toList (l.take n) := (BufR.take ⟨g7, fun k hk j hj => by obtain ⟨u, k1, k2, k3⟩ := g8 k hk j hj; exact ⟨u, by simpa using k1, k2, k3⟩⟩).mono (fun _ _ => rfl) h1'
    refine ⟨cur.toList.take ((l.take n).length * sz), ?_, hB.1, fun k hk j hj => ?_⟩
    · rw [h2', hveq]
      exact ⟨by simp only [List.length_take, Array.length_toList] at hsub ⊢; omega, .inr ⟨g, cap, cur, by rw [hlen], g2, g3, by omega, g4, g5, rfl⟩⟩
    · obtain ⟨u, k1, k2⟩ := hB.2 k hk j hj
      have := hB.1 k hk
      exact ⟨u, by rw [List.getElem?_take_of_lt (idx_lt hk (by omega))]; exact k1, k2⟩)
  exact ⟨β', hsb.reslot x (.h d) (by show VRel w _ β' (a.tmps.getD x undef) _; rw [hve, ← e1]; exact .h d) (fun j hj => by
    simp only [AV.ids, List.mem_singleton] at hj; subst hj; simp [modS, hasKey, Nat.beq_refl])⟩

end Go.Proofs.Ytnemmdbafngppaa.Abs
