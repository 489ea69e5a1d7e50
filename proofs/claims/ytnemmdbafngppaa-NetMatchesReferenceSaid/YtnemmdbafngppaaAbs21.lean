/- Abstract symbolic execution, part 21: rows that nobody writes any more are taken as slices that are read; contracts under other numbers. No condition. -/
import Derived.Test.YtnemmdbafngppaaAbs20
set_option linter.unusedVariables false
set_option linter.unusedSimpArgs false
namespace Go.Proofs.Ytnemmdbafngppaa.Abs
open Go.RowKit
variable {C : Ctx} {ops : Array Oper} {o : Oper} {S : AState}

/-- An object that is not anchored is given up. -/
theorem SatB.free {β : Nat → Value} {a : Act} {w : World} (h : SatB C β S a w) (i : Nat) (hi : (C.anc.all fun p => !(Nat.beq p.1 i)) = true) : SatB C β (modS [(i, none)] S) a w := by
  have hm : ∀ j, (modS [(i, none)] S).mem j = (if j = i then none else S.mem j) := fun j => modS_one.1
  have hus : ∀ j, S.used j = true → (modS [(i, none)] S).used j = true := fun j hj => by rw [modS_one.2, hj]; rfl
  have hcase : ∀ j q, (modS [(i, none)] S).mem j = some q → j ≠ i ∧ S.mem j = some q := fun j q hj => by
    rw [hm] at hj
    split at hj
    · cases hj
    · rename_i hne; exact ⟨hne, hj⟩
  have howned : ∀ b, owned (modS [(i, none)] S) β b → owned S β b := fun b ⟨j, q, hj, hb⟩ => ⟨j, q, (hcase j q hj).2, hb⟩
  have hok : ∀ b, okS C S β w b → okS C (modS [(i, none)] S) β w b := fun b hb => ⟨hb.1, hb.2.1, fun ho => hb.2.2 (howned b ho)⟩
  refine h.change h.below (fun _ _ => rfl) hok (fun _ _ => rfl) rfl hus (fun j q hj => ?_) (fun j k q q' hj hk hne b hbj => h.apart j k q q' (hcase j q hj).2 (hcase k q' hk).2 hne b hbj) (fun j q hj => ?_)
    (fun b x hx => ⟨(h.keep b x hx).1, fun ho => (h.keep b x hx).2 (howned b ho)⟩) (fun p hp => ?_)
  · exact (h.mem j q (hcase j q hj).2).mono (fun _ _ => rfl) (fun _ _ => rfl) hok rfl (fun _ _ => rfl)
  · have := h.wfm j q (hcase j q hj).2
    exact ⟨hus _ this.1, fun x hx => hus _ (this.2 x hx)⟩
  · obtain ⟨g1, E, cells, g2⟩ := h.anc p hp
    have := (List.all_eq_true.1 hi) p hp
    have hne : p.1 ≠ i := fun e => by rw [e, Nat.beq_refl] at this; cases this
    exact ⟨g1, E, cells, by rw [hm, if_neg hne]; exact g2⟩
theorem anc_row {β : Nat → Value} {a : Act} {w : World} (h : SatB C β S a w) {i E sz : Nat} {l : List T} (hm : S.mem i = some (.row E sz l)) : (C.anc.all fun p => !(Nat.beq p.1 i)) = true := by
  rw [List.all_eq_true]
  intro p hp
  obtain ⟨_, E', cells, g2⟩ := h.anc p hp
  cases hb : Nat.beq p.1 i with
  | false => rfl
  | true => have := Nat.eq_of_beq_eq_true hb; rw [this, hm] at g2; cases g2
/-- A row given up reads as a slice. -/
theorem SatB.free_reads {β : Nat → Value} {a : Act} {w : World} (h : SatB C β S a w) {i E sz : Nat} {l : List T} (hm : S.mem i = some (.row E sz l)) : Reads w (okS C (modS [(i, none)] S) β w) (β i) (.slice sz l) := by
  have hO := h.mem i _ hm
  have hmm : ∀ j q, (modS [(i, none)] S).mem j = some q → j ≠ i ∧ S.mem j = some q := fun j q hj => by
    have := (modS_one (i := i) (x := none) (S := S) (j := j)).1
    rw [this] at hj
    split at hj
    · cases hj
    · rename_i hne; exact ⟨hne, hj⟩
  refine row_reads hO (fun b hb => ⟨hb.1, hb.2.1, fun ⟨j, q, hj, hbl⟩ => hb.2.2 ⟨j, q, (hmm j q hj).2, hbl⟩⟩) (fun b hb => ?_)
  have hlt := hO.lt hb
  refine ⟨⟨.inr hlt.1, fun x hx => (h.keep b _ hx).2 ⟨i, _, hm, hb⟩⟩, hlt.2, ?_⟩
  rintro ⟨j, q, hj, hbl⟩
  obtain ⟨h1, h2⟩ := hmm j q hj
  exact h.apart j i q _ h2 hm h1 b hbl hb
theorem Sat.freeze {a : Act} {w : World} (h : Sat C S a w) (x i : Nat) {E sz : Nat} {l : List T} (hx : S.slot x = .h i) (hm : S.mem i = some (.row E sz l)) :
    Sat C { modS [(i, none)] S with slot := putS (some x) (.t (.slice sz l)) S.slot } a w := by
  obtain ⟨β, hb⟩ := h
  have hv := hb.slot x
  rw [hx] at hv
  exact ⟨β, (hb.free i (anc_row hb hm)).reslot x (.t (.slice sz l)) (.t (by rw [hv.hD]; exact hb.free_reads hm)) (by simp [AV.ids])⟩
/-- The row in slot x is only read from here on. -/
theorem AT.freeze {c : Code} {Q : Exit → AState → Prop} (x i : Nat) {E sz : Nat} {l : List T} (hx : S.slot x = .h i) (hm : S.mem i = some (.row E sz l))
    (h : AT C c Q { modS [(i, none)] S with slot := putS (some x) (.t (.slice sz l)) S.slot }) : AT C c Q S := AT.weaken (fun a w hs => hs.freeze x i hx hm) h

theorem mods_two {d : Nat} {x : Option AObj} {m : List (Nat × Option AObj)} (S : AState) : modS [(d, none)] (modS ((d, x) :: m) S) = modS ((d, none) :: m) S := by
  simp only [modS, AState.mk.injEq]
  refine ⟨trivial, ?_, ?_⟩
  · funext i
    simp only [assoc]
    cases Nat.beq i d <;> rfl
  · funext i
    simp only [hasKey]
    cases Nat.beq i d <;> simp
/-- An operation that makes a row, the row only read from then on. -/
theorem Step.toT {d E sz : Nat} {l : List T} {m : List (Nat × Option AObj)} {looks : List Nat} (h : Step C ops o S ⟨.h d, (d, some (.row E sz l)) :: m, looks⟩) (hdst : o.dst = some d) : Step C ops o S ⟨.t (.slice sz l), (d, none) :: m, looks⟩ := by
  intro S₁ hs hm a w hsat
  have htouch : ∀ i, (Eff.touches ⟨.h d, (d, some (.row E sz l)) :: m, looks⟩ i) → (Eff.touches ⟨.t (.slice sz l), (d, none) :: m, looks⟩ i) := fun i hi => hi
  refine Oper.wp_monoQ (fun a' w' hs' => ?_) (h S₁ hs (fun i hi => hm i (htouch i hi)) a w hsat)
  have hx : (ap o.dst ⟨.h d, (d, some (.row E sz l)) :: m, looks⟩ S₁).slot d = .h d := by rw [hdst]; exact putS_same d _ _
  have hmem : (ap o.dst ⟨.h d, (d, some (.row E sz l)) :: m, looks⟩ S₁).mem d = some (.row E sz l) := by
    show (match assoc d ((d, some (.row E sz l)) :: m) with | some o => o | none => S₁.mem d) = _
    simp [assoc, Nat.beq_refl]
  have hfz := hs'.freeze d d hx hmem
  refine cast ?_ hfz
  congr 1
  have e : modS [(d, none)] (ap o.dst ⟨.h d, (d, some (.row E sz l)) :: m, looks⟩ S₁) = { modS ((d, none) :: m) S₁ with slot := (ap o.dst ⟨.h d, (d, some (.row E sz l)) :: m, looks⟩ S₁).slot } := by
    have := mods_two (d := d) (x := some (.row E sz l)) (m := m) { S₁ with slot := (ap o.dst ⟨.h d, (d, some (.row E sz l)) :: m, looks⟩ S₁).slot }
    exact this
  rw [e]
  simp only [ap, hdst, AState.mk.injEq]
  refine ⟨?_, rfl, rfl⟩
  funext y
  rcases putS_cases (some d) (.t (.slice sz l)) (putS (some d) (.h d) S₁.slot) y with ⟨h1, h2⟩ | ⟨h1, h2⟩
  · rw [h2]; injection h1 with h1; subst h1; rw [putS_same]
  · rw [h2, putS_other h1, putS_other h1]

/-- A number that is not negative as uint, and its half. -/
theorem step_convU {s d : TypeId} {x : Operand} {q : Int} (m : Nat) (ho : o.op = .convert s d x) (hx : evalS S x = .t (.v (.int .i64 q))) (hq : q = m)
    (hs : intB C.P s = some .i64) (ht : intB C.P d = some .u64) (h1 : m ≤ 9223372036854775807) (hd : dOk C.n o.dst = true) : Step C ops o S ⟨.t (.v (.int .u64 m)), [], []⟩ := by
  have := step_conv (ops := ops) ho hx hs ht hd
  have hw : IntKind.u64.wrap q = m := by
    unfold IntKind.wrap
    simp only [IntKind.bits, IntKind.signed]
    simp
    omega
  rwa [hw] at this
theorem step_half {t t' : TypeId} {x y : Operand} (m : Nat) (ho : o.op = .binOp .shr t x y t') (hx : evalS S x = .t (.v (.int .u64 m))) (hy : evalS S y = .t (.v (.int .u64 1))) (hd : dOk C.n o.dst = true) :
    Step C ops o S ⟨.t (.v (.int .u64 (m / 2 : Nat))), [], []⟩ := by
  have := step_shr (ops := ops) ho hx hy (by omega) hd
  have hw : (m : Int).fdiv (2 ^ (min (1 : Int).toNat IntKind.u64.bits)) = ((m / 2 : Nat) : Int) := by
    have h1 : min (1 : Int).toNat IntKind.u64.bits = 1 := by decide
    rw [h1, Int.pow_one, Int.fdiv_eq_ediv_of_nonneg _ (by omega)]
    omega
  rwa [hw] at this

/-! ### Contracts -/
theorem HasG.toT {P : Program} {f : FuncId} {args : List AV} {ml : List (Nat × AObj)} {R E sz : Nat} {l : List T} (h : HasG P f [] args ml (.h R) [(R, .row E sz l)]) : HasG P f [] args ml (.t (.slice sz l)) [] := by
  refine ⟨h.1, fun w0 ok0 keep av vs w hl hs => (h.2 w0 ok0 keep av vs w hl hs).mono ?_⟩
  rintro e w' ⟨v, rfl, hs'⟩
  refine ⟨v, rfl, Sat.wk [] (.cons (.fr (E := E) (i := R) ?_ rfl) .nil) .nil rfl rfl _ _ hs'⟩
  show lookO R [(R, .row E sz l)] = _
  simp [lookO, Nat.beq_refl]
/-- The same contract, what is handed in under other numbers. -/
theorem HasG.pre {P : Program} {f : FuncId} {args args2 : List AV} {ml ml2 ml' : List (Nat × AObj)} {res : AV} (h : HasG P f [] args ml res ml') (ρ : List (Nat × Nat)) (hl : args2.length = args.length)
    (hs : WkS (mkS (enumA 0 args2) ml2) ρ ml (enumA 0 args)) (hm : WkM (mkS (enumA 0 args2) ml2) ρ ml ml) (hn : nodupB (ml.map fun p => ren ρ p.1) = true) : HasG P f [] args2 ml2 res ml' := by
  refine ⟨h.1, fun w0 ok0 keep av vs w hlv hsat => h.2 w0 ok0 keep av vs w (by omega) ?_⟩
  rw [hl] at hsat
  exact Sat.wk ρ hs hm hn rfl _ _ hsat

end Go.Proofs.Ytnemmdbafngppaa.Abs
