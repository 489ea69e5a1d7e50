/- What the arguments of the laws on nets look like. No condition. -/
import Derived.Test.YtnemmdbafngppaaOpen
import Derived.Test.YtnemmdbafngppaaLaw5
set_option linter.unusedVariables false
namespace Go.Proofs.Ytnemmdbafngppaa.Net
open Go.Proofs.Ytnemmdbafngppaa.Abs Go.RowKit

def inB (m : Int) : Prop := 0 ≤ m ∧ m ≤ 255
def inI (m : Int) : Prop := -9223372036854775808 ≤ m ∧ m ≤ 9223372036854775807
theorem minB : IntKind.u8.min = 0 := rfl
theorem maxB : IntKind.u8.max = 255 := rfl
theorem minI : IntKind.i64.min = -9223372036854775808 := rfl
theorem maxI : IntKind.i64.max = 9223372036854775807 := rfl
def encB2 (x : Int × Int) : T := .agg [.u8 x.1, .u8 x.2]
def encB1 (x : Int) : T := .u8 x
/-- A slice of arrays of three bytes. -/
theorem fitB3 {t e : TypeId} {x : T} (f : Fits Try.prog t x.cells) (a : (∃ l, x = .agg l) ↔ (partsOf Try.prog t).isSome = true) (ht : Try.prog.underlying t = some (.slice e)) (hb : flatB Try.prog e .u8 3 = true) (hc : Try.prog.cellsOf e = 3) :
    ∃ l : List (Int × Int × Int), x = .slice 3 (l.map encB) ∧ l.length ≤ maxLen ∧ ∀ y ∈ l, (0 ≤ y.1 ∧ y.1 ≤ 255) ∧ (0 ≤ y.2.1 ∧ y.2.1 ≤ 255) ∧ (0 ≤ y.2.2 ∧ y.2.2 ≤ 255) := by
  obtain ⟨xs, rfl, hl, h1, h2⟩ := sliceV f a ht
  rw [hc]
  have each : ∀ y ∈ xs, ∃ m : {m : Int × Int × Int // (0 ≤ m.1 ∧ m.1 ≤ 255) ∧ (0 ≤ m.2.1 ∧ m.2.1 ≤ 255) ∧ (0 ≤ m.2.2 ∧ m.2.2 ≤ 255)}, y = encB m.1 := by
    intro y hy
    obtain ⟨ns, g1, rfl, g3⟩ := flatV (h1 y hy) (h2 y hy) hb
    obtain ⟨p, q, r, rfl⟩ := list_three g1
    have b1 := g3 p (by simp); have b2 := g3 q (by simp); have b3 := g3 r (by simp)
    exact ⟨⟨(p, q, r), b1, b2, b3⟩, rfl⟩
  obtain ⟨m, rfl⟩ := list_map (f := fun m : {m : Int × Int × Int // (0 ≤ m.1 ∧ m.1 ≤ 255) ∧ (0 ≤ m.2.1 ∧ m.2.1 ≤ 255) ∧ (0 ≤ m.2.2 ∧ m.2.2 ≤ 255)} => encB m.1) each
  refine ⟨m.map (·.1), by simp [Function.comp_def], by simpa using hl, fun y hy => ?_⟩
  obtain ⟨q, _, rfl⟩ := List.mem_map.1 hy
  exact q.2
theorem fitB2 {t e : TypeId} {x : T} (f : Fits Try.prog t x.cells) (a : (∃ l, x = .agg l) ↔ (partsOf Try.prog t).isSome = true) (ht : Try.prog.underlying t = some (.slice e)) (hb : flatB Try.prog e .u8 2 = true) (hc : Try.prog.cellsOf e = 2) :
    ∃ l : List (Int × Int), x = .slice 2 (l.map encB2) ∧ l.length ≤ maxLen ∧ ∀ y ∈ l, (0 ≤ y.1 ∧ y.1 ≤ 255) ∧ (0 ≤ y.2 ∧ y.2 ≤ 255) := by
  obtain ⟨xs, rfl, hl, h1, h2⟩ := sliceV f a ht
  rw [hc]
  have each : ∀ y ∈ xs, ∃ m : {m : Int × Int // (0 ≤ m.1 ∧ m.1 ≤ 255) ∧ (0 ≤ m.2 ∧ m.2 ≤ 255)}, y = encB2 m.1 := by
    intro y hy
    obtain ⟨ns, g1, rfl, g3⟩ := flatV (h1 y hy) (h2 y hy) hb
    obtain ⟨p, q, rfl⟩ := list_two g1
    have b1 := g3 p (by simp); have b2 := g3 q (by simp)
    exact ⟨⟨(p, q), b1, b2⟩, rfl⟩
  obtain ⟨m, rfl⟩ := list_map (f := fun m : {m : Int × Int // (0 ≤ m.1 ∧ m.1 ≤ 255) ∧ (0 ≤ m.2 ∧ m.2 ≤ 255)} => encB2 m.1) each
  refine ⟨m.map (·.1), by simp [Function.comp_def], by simpa using hl, fun y hy => ?_⟩
  obtain ⟨q, _, rfl⟩ := List.mem_map.1 hy
  exact q.2
/-- A slice of bytes. -/
theorem fitB1 {t e : TypeId} {x : T} (f : Fits Try.prog t x.cells) (a : (∃ l, x = .agg l) ↔ (partsOf Try.prog t).isSome = true) (ht : Try.prog.underlying t = some (.slice e)) (he : Try.prog.underlying e = some (.int .u8)) (hc : Try.prog.cellsOf e = 1) :
    ∃ l : List Int, x = .slice 1 (l.map encB1) ∧ l.length ≤ maxLen ∧ ∀ y ∈ l, 0 ≤ y ∧ y ≤ 255 := by
  obtain ⟨xs, rfl, hl, h1, h2⟩ := sliceV f a ht
  rw [hc]
  have each : ∀ y ∈ xs, ∃ m : {m : Int // 0 ≤ m ∧ m ≤ 255}, y = encB1 m.1 := by
    intro y hy
    obtain ⟨n, rfl, b⟩ := intV (h1 y hy) (h2 y hy) he
    exact ⟨⟨n, b⟩, rfl⟩
  obtain ⟨m, rfl⟩ := list_map (f := fun m : {m : Int // 0 ≤ m ∧ m ≤ 255} => encB1 m.1) each
  refine ⟨m.map (·.1), by simp [Function.comp_def], by simpa using hl, fun y hy => ?_⟩
  obtain ⟨q, _, rfl⟩ := List.mem_map.1 hy
  exact q.2
end Go.Proofs.Ytnemmdbafngppaa.Net
