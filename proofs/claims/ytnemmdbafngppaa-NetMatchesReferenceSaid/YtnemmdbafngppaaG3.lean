/- NetMatchesReference: from the function's contract to arguments as they come. No condition. -/
import Derived.Test.YtnemmdbafngppaaFit
import Derived.Test.YtnemmdbafngppaaF19
set_option linter.unusedVariables false
namespace Go.Proofs.Ytnemmdbafngppaa.netMatchesReference
open Go.Proofs.Ytnemmdbafngppaa.Abs Go.Proofs.Ytnemmdbafngppaa.Net Go.RowKit
theorem NetMatchesReference_has (x0 x1 x2 : T) (f0 : Fits Try.prog 22 x0.cells) (a0 : (∃ l, x0 = .agg l) ↔ (partsOf Try.prog 22).isSome = true) (f1 : Fits Try.prog 23 x1.cells) (a1 : (∃ l, x1 = .agg l) ↔ (partsOf Try.prog 23).isSome = true)
    (f2 : Fits Try.prog 25 x2.cells) (a2 : (∃ l, x2 = .agg l) ↔ (partsOf Try.prog 25).isSome = true) : Has Try.prog 3 [x0, x1, x2] (.b true) := by
  obtain ⟨l, rfl, _, hb⟩ := fitB3 f0 a0 (e := 47) (by kernel_rfl) (by kernel_rfl) (by kernel_rfl)
  obtain ⟨ns, g1, rfl, _⟩ := flatV (k := .i64) (n := 3) f1 a1 (by kernel_rfl)
  obtain ⟨w0, w1, w2, rfl⟩ := list_three g1
  obtain ⟨ms, g2, rfl, _⟩ := flatV (k := .i64) (n := 3) f2 a2 (by kernel_rfl)
  obtain ⟨p, q, r, rfl⟩ := list_three g2
  exact C3 l hb w0 w1 w2 ⟨p, q, r⟩
end Go.Proofs.Ytnemmdbafngppaa.netMatchesReference
