/- Abstract symbolic execution, part 5: more operations that leave the memory alone: equality of structs, building structs, slices that are read, closures. No condition. -/
import Derived.Test.YtnemmdbafngppaaAbs4
import Derived.ChangeKeysEq
set_option linter.unusedVariables false
set_option linter.unusedSimpArgs false
namespace Go.Proofs.Ytnemmdbafngppaa.Abs
open Go.RowKit

/-! ### '==' of structs and arrays of whole numbers, bools and strings -/
def andO : Option Bool → Option Bool → Option Bool
  | some a, some b => some (a && b)
  | _, _ => none
def subL (l : List Value) (off n : Nat) : List Value := (l.drop off).take n
def eqF (P : Program) (rec' : TypeId → List Value → List Value → Option Bool) (xs ys : List Value) : List Field → Option Bool
  | [] => some true
  | f :: r => if f.name = "_" then none else
    match P.info? f.type with
    | none => none
    | some i => andO (rec' f.type (subL xs f.offset i.size) (subL ys f.offset i.size)) (eqF P rec' xs ys r)
def eqI (rec' : List Value → List Value → Option Bool) (n : Nat) (xs ys : List Value) : List Nat → Option Bool
  | [] => some true
  | j :: r => andO (rec' (subL xs (j * n) n) (subL ys (j * n) n)) (eqI rec' n xs ys r)
def eqP (P : Program) : Nat → TypeId → List Value → List Value → Option Bool
  | 0, _, _, _ => none
  | d + 1, t, xs, ys =>
    match P.underlying t with
    | some .bool => match xs, ys with | [.bool a], [.bool b] => some (a == b) | _, _ => none
    | some (.int _) => match xs, ys with | [.int k a], [.int k' b] => if k = k' then some (a == b) else none | _, _ => none
    | some .string => match xs, ys with | [.string a], [.string b] => some (a == b) | _, _ => none
    | some (.struct fs) => if P.stoodInHeld t then none else eqF P (eqP P d) xs ys fs.toList
    | some (.array n e) =>
      match P.info? e with
      | none => none
      | some i => eqI (eqP P d e) i.size xs ys (List.range n)
    | _ => none
/-- A value of a type out of its cells. -/
def ofCells (P : Program) (t : TypeId) (l : List Value) : Value :=
  match tyB P t with
  | some (true, _) => .agg l.toArray
  | _ => l.headD undef

theorem andO_some {a b : Option Bool} {r : Bool} (h : andO a b = some r) : ∃ x y, a = some x ∧ b = some y ∧ r = (x && y) := by
  cases a <;> cases b <;> simp [andO] at h
  exact ⟨_, _, rfl, rfl, h.symm⟩

theorem tyB_of_struct {P : Program} {t : TypeId} {d : TypeDesc} {i : TypeInfo} (hu : P.underlying t = some d) (hi : P.info? t = some i) :
    tyB P t = some (isAggD d, i.size) := by
  unfold tyB; rw [hu, hi]
theorem ofCells_plain {P : Program} {t : TypeId} {d : TypeDesc} (hu : P.underlying t = some d) (hd : isAggD d = false) (v : Value) : ofCells P t [v] = v := by
  unfold ofCells tyB
  rw [hu]
  cases hi : P.info? t <;> simp [hd]
theorem ofCells_agg {P : Program} {t : TypeId} {d : TypeDesc} {i : TypeInfo} (hu : P.underlying t = some d) (hi : P.info? t = some i) (hd : isAggD d = true) (l : List Value) :
    ofCells P t l = .agg l.toArray := by
  unfold ofCells tyB
  rw [hu, hi]
  simp [hd]
theorem run_part {P : Program} {w : World} {t : TypeId} {i : TypeInfo} {xs : List Value} {off : Nat} {d : TypeDesc} (hu : P.underlying t = some d) (hi : P.info? t = some i)
    (h1 : isAggD d = true ∨ ∃ v, subL xs off i.size = [v]) :
    (part t xs.toArray off).run P w = .ok (ofCells P t (subL xs off i.size)) w := by
  have ht := tyB_of_struct hu hi
  have ha := run_isAgg (w := w) ht
  have hs := run_sizeOf' (w := w) ht
  unfold ofCells
  rw [ht]
  cases hb : isAggD d with
  | true =>
    rw [hb] at ha
    simp only [part, Sem.run_bind, ha, Result.andThen_ok, if_true, hs, Sem.run_pure]
    simp only [subL]
    congr 2
    simp [List.extract_eq_take_drop]
  | false =>
    rw [hb] at ha h1
    rcases h1 with h1 | ⟨v, hv⟩
    · cases h1
    · have : xs.toArray[off]? = some v := by
        simp only [List.getElem?_toArray]
        have e0 : (subL xs off i.size)[0]? = some v := by rw [hv]; rfl
        have hn : 0 < i.size := by
          rcases Nat.eq_zero_or_pos i.size with h0 | h0
          · rw [subL, h0] at hv; simp at hv
          · exact h0
        simp only [subL] at e0
        rw [List.getElem?_take_of_lt hn, List.getElem?_drop] at e0
        simpa using e0
      simp [part, ha, this, hv]

theorem eqP_shape {P : Program} {d : Nat} {t : TypeId} {xs ys : List Value} {b : Bool} (h : eqP P d t xs ys = some b) {dd : TypeDesc} (hu : P.underlying t = some dd) :
    isAggD dd = true ∨ ((∃ v, xs = [v]) ∧ ∃ v, ys = [v]) := by
  cases d with
  | zero => cases h
  | succ d =>
    unfold eqP at h
    rw [hu] at h
    cases dd <;> simp only at h <;> first
      | exact .inl rfl
      | (right; split at h <;> first | exact ⟨⟨_, rfl⟩, ⟨_, rfl⟩⟩ | cases h)
      | cases h

def EqIH (P : Program) (d : Nat) : Prop := ∀ (w : World) (t : TypeId) (xs ys : List Value) (b : Bool), eqP P d t xs ys = some b →
  (Op.equalIn d t (ofCells P t xs) (ofCells P t ys)).run P w = .ok b w
theorem eqP_type {P : Program} {d : Nat} {t : TypeId} {xs ys : List Value} {b : Bool} (h : eqP P d t xs ys = some b) : ∃ dd, P.underlying t = some dd := by
  cases hu : P.underlying t with
  | some dd => exact ⟨dd, rfl⟩
  | none => cases d <;> simp [eqP, hu] at h
theorem run_eqF {P : Program} {w : World} {d : Nat} {xs ys : List Value} (IH : EqIH P d) : ∀ (fs : List Field) (b : Bool), eqF P (eqP P d) xs ys fs = some b →
    (Op.eqFields d xs.toArray ys.toArray fs).run P w = .ok b w
  | [], b, h => by
    simp only [eqF, Option.some.injEq] at h; subst h
    simp [Op.eqFields]
  | f :: r, b, h => by
    simp only [eqF] at h
    split at h
    · cases h
    · rename_i hn
      split at h
      · cases h
      · rename_i i hi
        obtain ⟨p, q, h1, h2, rfl⟩ := andO_some h
        have hr := IH w _ _ _ _ h1
        obtain ⟨dd, hu⟩ := eqP_type h1
        have sh := eqP_shape h1 hu
        have p1 := run_part (w := w) (xs := xs) (off := f.offset) hu hi (sh.imp id (fun h => h.1))
        have p2 := run_part (w := w) (xs := ys) (off := f.offset) hu hi (sh.imp id (fun h => h.2))
        simp only [Op.eqFields, hn, ne_eq, not_false_eq_true, if_true, Sem.run_bind, p1, Result.andThen_ok, p2, hr]
        cases p with
        | false => simp
        | true => simpa using run_eqF IH r q h2
theorem run_eqI {P : Program} {w : World} {d : Nat} {e : TypeId} {n : Nat} {i : TypeInfo} (hi : P.info? e = some i) {xs ys : List Value} (IH : EqIH P d) : ∀ (l : List Nat) (b : Bool), eqI (eqP P d e) i.size xs ys l = some b →
    (Op.eqItems d e i.size xs.toArray ys.toArray l).run P w = .ok b w
  | [], b, h => by
    simp only [eqI, Option.some.injEq] at h; subst h
    simp [Op.eqItems]
  | j :: r, b, h => by
    simp only [eqI] at h
    obtain ⟨p, q, h1, h2, rfl⟩ := andO_some h
    have hr := IH w _ _ _ _ h1
    obtain ⟨dd, hu⟩ := eqP_type h1
    have sh := eqP_shape h1 hu
    have p1 := run_part (w := w) (xs := xs) (off := j * i.size) hu hi (sh.imp id (fun h => h.1))
    have p2 := run_part (w := w) (xs := ys) (off := j * i.size) hu hi (sh.imp id (fun h => h.2))
    simp only [Op.eqItems, Sem.run_bind, p1, Result.andThen_ok, p2, hr]
    cases p with
    | false => simp
    | true => simpa using run_eqI (n := n) hi IH r q h2
theorem run_eqP {P : Program} : ∀ d, EqIH P d
  | 0, _, _, _, _, _, h => by cases h
  | d + 1, w, t, xs, ys, b, h => by
    have IH := run_eqP (P := P) d
    have hh := h
    unfold eqP at h
    split at h
    · rename_i hu
      split at h
      · injection h with h; subst h
        rw [ofCells_plain hu rfl, ofCells_plain hu rfl]
        simp [Op.equalIn, run_underlying hu]
      · cases h
    · rename_i k0 hu
      split at h
      · split at h
        · rename_i hk; subst hk
          injection h with h; subst h
          rw [ofCells_plain hu rfl, ofCells_plain hu rfl]
          simp [Op.equalIn, run_underlying hu]
        · cases h
      · cases h
    · rename_i hu
      split at h
      · injection h with h; subst h
        rw [ofCells_plain hu rfl, ofCells_plain hu rfl]
        simp [Op.equalIn, run_underlying hu]
      · cases h
    · rename_i fs hu
      split at h
      · cases h
      · rename_i hs
        obtain ⟨i, hi⟩ := info_of_underlying hu
        have hf : P.fieldsOf t = fs := by simp [Program.fieldsOf, hu]
        have := run_equalIn_struct w d t xs.toArray ys.toArray (by rw [hf]; exact hu) (by simpa using hs)
        rw [hf] at this
        rw [ofCells_agg hu hi rfl, ofCells_agg hu hi rfl, this]
        exact run_eqF IH _ _ h
    · rename_i n e hu
      split at h
      · cases h
      · rename_i i hi
        obtain ⟨i', hi'⟩ := info_of_underlying hu
        have := run_equalIn_array w d xs.toArray ys.toArray hu hi
        rw [ofCells_agg hu hi' rfl, ofCells_agg hu hi' rfl, this]
        have hc : P.cellsOf e = i.size := by simp [Program.cellsOf, hi]
        rw [hc]
        exact run_eqI (n := n) hi IH _ _ h
    · cases h

end Go.Proofs.Ytnemmdbafngppaa.Abs
