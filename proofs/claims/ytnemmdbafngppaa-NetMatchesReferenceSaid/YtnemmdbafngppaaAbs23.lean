/- Small facts for printed walks. No condition. -/
import Derived.Test.YtnemmdbafngppaaAbs22
set_option linter.unusedVariables false
namespace Go.Proofs.Ytnemmdbafngppaa.Abs
theorem bv {a b : Bool} (h : a = b) : T.v (.bool a) = T.v (.bool b) := congrArg (fun b => T.v (.bool b)) h
theorem iv {k : IntKind} {a b : Int} (h : a = b) : T.v (.int k a) = T.v (.int k b) := congrArg (fun b => T.v (.int k b)) h
theorem dtrue {p : Prop} [Decidable p] (h : p) : decide p = true := decide_eq_true h
theorem dfalse {p : Prop} [Decidable p] (h : ¬ p) : decide p = false := decide_eq_false h
end Go.Proofs.Ytnemmdbafngppaa.Abs
