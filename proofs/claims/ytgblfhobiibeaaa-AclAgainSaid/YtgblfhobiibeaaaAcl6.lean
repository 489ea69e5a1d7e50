/- Parts of this proof, one after the other; each says what it proves. No condition. -/
import Derived.Test.YtgblfhobiibeaaaMG
import Derived.Test.YtgblfhobiibeaaaMD
import Derived.Test.YtgblfhobiibeaaaRows
import Derived.Test.YtgblfhobiibeaaaMC
import Derived.WalkKit
import Derived.ProofKit
import Derived.OpenShut
import Derived.ShutString
import Derived.ChangeOld
import Derived.Below
import Derived.Carry
import Derived.SizedLaws
/- Contracts of functions of this translation. Printed by wip/tools/gen.py out of wip/acl/ann.py. No condition. -/
set_option linter.unusedVariables false
set_option linter.unusedSimpArgs false
namespace Go.Proofs.Ytgblfhobiibeaaa.Acl
open Go.Proofs.Ytgblfhobiibeaaa.Abs
set_option maxRecDepth 100000
set_option maxHeartbeats 4000000
theorem C6 (m1 m2 : List (Int × Int × Int)) (hb1 : ∀ x ∈ m1, (0 ≤ x.1 ∧ x.1 ≤ 255) ∧ (0 ≤ x.2.1 ∧ x.2.1 ≤ 255) ∧ (0 ≤ x.2.2 ∧ x.2.2 ≤ 255)) (hb2 : ∀ x ∈ m2, (0 ≤ x.1 ∧ x.1 ≤ 255) ∧ (0 ≤ x.2.1 ∧ x.2.1 ≤ 255) ∧ (0 ≤ x.2.2 ∧ x.2.2 ≤ 255)) (d : Bool) : Has Try.prog 6 [.slice 3 (m1.map encB), .slice 3 (m2.map encB), .b d] (.b true) := by   -- burgage/burgagelaw02.AclAgain
  refine Exists.elim (show ∃ z1, z1 = listA m1 from ⟨_, rfl⟩) (fun z1 hz1 => ?_)
  have hvz1 : VL z1 := hz1 ▸ listA_VL m1
  have hlz1 : z1.length ≤ 12 := hz1 ▸ (listA_len m1).1
  refine Exists.elim (show ∃ z2, z2 = listA m2 from ⟨_, rfl⟩) (fun z2 hz2 => ?_)
  have hvz2 : VL z2 := hz2 ▸ listA_VL m2
  have hlz2 : z2.length ≤ 12 := hz2 ▸ (listA_len m2).1
  refine Exists.elim (show ∃ r, r = own z1 false ++ child z2 d from ⟨_, rfl⟩) (fun r hr => ?_)
  have hlr : r.length ≤ 24 := by have := again_len z1 z2 d; rw [hr]; omega
  have ho1 : own r false = own z1 false := by rw [hr, own_again]
  have ho2 : own r true = child z2 d := by rw [hr, own_again1]
  have ho3 := own_len z1 false
  have ho4 := own_len r false
  have ho5 := own_len r true
  refine Has.intro 57 Try.func6 (by kernel_rfl) rfl rfl fun w ok => ?_
  refine AT.seq ?_
  refine AT.region ?_   -- region 0 law.go:115
  refine TrC.take rfl (step_assign rfl rfl rfl) ?_   -- 0
  refine TrC.done ?_
  refine AT.seq ?_
  refine AT.region ?_   -- region 1 law.go:116
  refine TrC.take rfl (step_call0 rfl rfl (C10) rfl) ?_   -- 0
  refine TrC.spell 11 rfl (bv (b := true) (rfl)) ?_
  refine TrC.take rfl (step_assign rfl rfl rfl) ?_   -- 1
  refine TrC.done ?_
  refine AT.seq ?_
  refine AT.region ?_   -- region 2 law.go:117
  refine TrC.take rfl (step_move rfl rfl rfl) ?_   -- 0
  refine TrC.take rfl (step_call0 rfl rfl ((C12 m1 hb1).eq (congrArg (fun l : List Ace => T.slice 5 (l.map encA)) hz1.symm)) rfl) ?_   -- 1
  refine TrC.take rfl (step_move rfl rfl rfl) ?_   -- 2
  refine TrC.take rfl (step_call0 rfl rfl ((C12 m2 hb2).eq (congrArg (fun l : List Ace => T.slice 5 (l.map encA)) hz2.symm)) rfl) ?_   -- 3
  refine TrC.take rfl (step_assign rfl rfl rfl) ?_   -- 4
  refine TrC.take rfl (step_assign rfl rfl rfl) ?_   -- 5
  refine TrC.done ?_
  refine AT.seq ?_
  refine AT.region ?_   -- region 3 law.go:118
  refine TrC.take rfl (step_move rfl rfl rfl) ?_   -- 0
  refine TrC.take rfl (step_move rfl rfl rfl) ?_   -- 1
  refine TrC.take rfl (step_move rfl rfl rfl) ?_   -- 2
  refine TrC.take rfl (step_call0 rfl rfl ((C23 z1 z2 d (by omega) (by omega)).eq (congrArg (fun l : List Ace => T.slice 5 (l.map encA)) hr.symm)) rfl) ?_   -- 3
  refine TrC.take rfl (step_assign rfl rfl rfl) ?_   -- 4
  refine TrC.done ?_
  refine AT.seq ?_
  refine AT.seq ?_
  refine AT.region ?_   -- region 4 law.go:119
  refine TrC.take rfl (step_move rfl rfl rfl) ?_   -- 0
  refine TrC.take rfl (step_lenT (rt := 0) rfl rfl sl22 rfl) ?_   -- 1
  refine TrC.take rfl (step_bin rfl rfl rfl rfl rfl) ?_   -- 2
  refine TrC.spell 22 rfl (bv (b := false) (by simp; omega)) ?_
  refine TrC.take rfl (step_move rfl rfl rfl) ?_   -- 3
  refine TrC.take ⟨_, _, rfl, rfl, rfl⟩ (step_move rfl rfl rfl) ?_   -- 4
  refine TrC.take ⟨_, _, rfl, rfl, rfl⟩ (step_call0 rfl rfl (HasOwn.has (C30 r false (by omega))) rfl) ?_   -- 5
  refine TrC.take ⟨_, _, rfl, rfl, rfl⟩ (step_move rfl rfl rfl) ?_   -- 6
  refine TrC.take ⟨_, _, rfl, rfl, rfl⟩ (step_call0 rfl rfl (HasOwn.has (C30 z1 false (by omega))) rfl) ?_   -- 7
  refine TrC.take ⟨_, _, rfl, rfl, rfl⟩ (step_call0 rfl rfl (C20 (own r false) (own z1 false) (by omega)) rfl) ?_   -- 8
  refine TrC.spell 28 rfl (bv (b := true) (dtrue ho1)) ?_
  refine TrC.take ⟨_, _, rfl, rfl, rfl⟩ (step_not rfl rfl rfl) ?_   -- 9
  refine TrC.take rfl (step_pick rfl rfl rfl rfl) ?_   -- 10
  refine TrC.take rfl (step_move rfl rfl rfl) ?_   -- 11
  refine TrC.take ⟨_, _, rfl, rfl, rfl⟩ (step_move rfl rfl rfl) ?_   -- 12
  refine TrC.take ⟨_, _, rfl, rfl, rfl⟩ (step_call0 rfl rfl (HasOwn.has (C30 r true (by omega))) rfl) ?_   -- 13
  refine TrC.take ⟨_, _, rfl, rfl, rfl⟩ (step_move rfl rfl rfl) ?_   -- 14
  refine TrC.take ⟨_, _, rfl, rfl, rfl⟩ (step_move rfl rfl rfl) ?_   -- 15
  refine TrC.take ⟨_, _, rfl, rfl, rfl⟩ (step_call0 rfl rfl (C21 z2 d (by omega)) rfl) ?_   -- 16
  refine TrC.take ⟨_, _, rfl, rfl, rfl⟩ (step_call0 rfl rfl (C20 (own r true) (child z2 d) (by omega)) rfl) ?_   -- 17
  refine TrC.spell 37 rfl (bv (b := true) (dtrue ho2)) ?_
  refine TrC.take ⟨_, _, rfl, rfl, rfl⟩ (step_not rfl rfl rfl) ?_   -- 18
  refine TrC.take rfl (step_pick rfl rfl rfl rfl) ?_   -- 19
  refine TrC.done ?_
  refine AT.condF rfl ?_   -- t39
  refine AT.skip ?_
  refine AT.seq ?_
  refine AT.region ?_   -- region 6 law.go:122
  refine TrC.take rfl (step_move rfl rfl rfl) ?_   -- 0
  refine TrC.take rfl (step_move rfl rfl rfl) ?_   -- 1
  refine TrC.take rfl (step_move rfl rfl rfl) ?_   -- 2
  refine TrC.take rfl (step_call0 rfl rfl ((C23 r z2 d (by omega) (by omega)).eq (congrArg (fun l : List Ace => T.slice 5 (l.map encA)) ((congrArg (· ++ child z2 d) ho1).trans hr.symm))) rfl) ?_   -- 3
  refine TrC.take rfl (step_move rfl rfl rfl) ?_   -- 4
  refine TrC.take rfl (step_call0 rfl rfl (C20 r r (by omega)) rfl) ?_   -- 5
  refine TrC.spell 45 rfl (bv (b := true) (by simp)) ?_
  refine TrC.take rfl (step_move rfl rfl rfl) ?_   -- 6
  refine TrC.take ⟨_, _, rfl, rfl, rfl⟩ (step_move rfl rfl rfl) ?_   -- 7
  refine TrC.take ⟨_, _, rfl, rfl, rfl⟩ (step_move rfl rfl rfl) ?_   -- 8
  refine TrC.take ⟨_, _, rfl, rfl, rfl⟩ (step_call rfl rfl (C23 z1 [] d (by omega) (by decide)) (.cons (.refl _) (.cons (.nil _) (.cons (.refl _) .nil))) rfl) ?_   -- 9
  refine TrC.take ⟨_, _, rfl, rfl, rfl⟩ (step_move rfl rfl rfl) ?_   -- 10
  refine TrC.take ⟨_, _, rfl, rfl, rfl⟩ (step_call0 rfl rfl (HasOwn.has (C30 z1 false (by omega))) rfl) ?_   -- 11
  refine TrC.take ⟨_, _, rfl, rfl, rfl⟩ (step_call0 rfl rfl (C20 (own z1 false ++ child [] d) (own z1 false) (by rw [child_nil, List.append_nil]; omega)) rfl) ?_   -- 12
  refine TrC.spell 52 rfl (bv (b := true) (dtrue (by rw [child_nil, List.append_nil]))) ?_
  refine TrC.take rfl (step_pick rfl rfl rfl rfl) ?_   -- 13
  refine TrC.take rfl (step_move rfl rfl rfl) ?_   -- 14
  refine TrC.take ⟨_, _, rfl, rfl, rfl⟩ (step_move rfl rfl rfl) ?_   -- 15
  refine TrC.take rfl (step_pick rfl rfl rfl rfl) ?_   -- 16
  refine TrC.take rfl (step_assign rfl rfl rfl) ?_   -- 17
  refine TrC.done ?_
  refine AT.ret ?_
  exact Ret.one rfl (ResR.tmp rfl (conv_b rfl))

end Go.Proofs.Ytgblfhobiibeaaa.Acl

/- AclAgain: from the function's contract to arguments as they come. No condition. -/
set_option linter.unusedVariables false
namespace Go.Proofs.Ytgblfhobiibeaaa.aclAgain
open Go.Proofs.Ytgblfhobiibeaaa.Abs Go.Proofs.Ytgblfhobiibeaaa.Acl Go.RowKit
theorem AclAgain_has (x0 x1 x2 : T) (f0 : Fits Try.prog 23 x0.cells) (a0 : (∃ l, x0 = .agg l) ↔ (partsOf Try.prog 23).isSome = true) (f1 : Fits Try.prog 23 x1.cells) (a1 : (∃ l, x1 = .agg l) ↔ (partsOf Try.prog 23).isSome = true) (f2 : Fits Try.prog 4 x2.cells) (a2 : (∃ l, x2 = .agg l) ↔ (partsOf Try.prog 4).isSome = true) : Has Try.prog 6 [x0, x1, x2] (.b true) := by
  obtain ⟨m1, rfl, hb1⟩ := fitB3 f0 a0 (e := 45) (by kernel_rfl) (by kernel_rfl) (by kernel_rfl)
  obtain ⟨m2, rfl, hb2⟩ := fitB3 f1 a1 (e := 45) (by kernel_rfl) (by kernel_rfl) (by kernel_rfl)
  obtain ⟨d, rfl⟩ := boolV f2 a2 (by kernel_rfl)
  exact C6 m1 m2 hb1 hb2 d
end Go.Proofs.Ytgblfhobiibeaaa.aclAgain

/- The statement AclAgainSaid is proved here: the law's function returns true for all its arguments and panics for none. No condition. -/
namespace Go.Proofs.Ytgblfhobiibeaaa.aclAgain
open Go.ChangeShapes Go.WideShapes Go.ChangeAt Go.RowKit
open Go.Proofs.Ytgblfhobiibeaaa.Abs
set_option linter.unusedVariables false
theorem own : ownKnob Try.prog.godebug = none := by kernel_rfl
theorem laidOut : laidOutB Try.prog = true := by kernel_rfl
set_option maxRecDepth 100000 in
theorem lifted (os : Os) (started : os.Started) (H : Type) (enc : TypeId × Value → H) :
    ReturnsInHanded {} Try.checked os 6 .any (Rows.aclAgainSpec.pre6 enc Try.prog Try.f6 Rows.aclAgainRow.domain false) (Rows.aclAgainSpec.post enc Try.prog Try.f6 false true false false) := by
  refine returnsInHanded_of_change_sized (C := Try.checked) own started (by kernel_rfl) Try.func6
    (ChangeSpec.witness6 (enc := enc) (C := Try.checked) false ⟨#[], #[.slice none 0 0, .slice none 0 0, .bool false], []⟩ 8 (by kernel_rfl) (by kernel_rfl) (by kernel_rfl) (by kernel_rfl)) ?_
  intro W base args ds gs before hval0 hW hcnd hsz0 _
  have hval : ∀ (j : Nat) t v, Try.f6.params[j]? = some t → args[j]? = some v → Value.okWide Try.prog W .any base t v := hval0
  have hW' := hW
  obtain ⟨p, q, hA0, hV, rfl, hfz, hnd⟩ := hW
  have hA : DataW.TrodAll enc Try.prog W 0 (fun _ => true) true Try.f6.params.toList args.toList ds p := hA0
  rw [show Try.f6.params = #[23, 23, 4] from by kernel_rfl] at hA hval
  obtain ⟨v0, vs0, d0, ds0, p0, q0, hargs, rfl, rfl, h0, r0⟩ := trodAll_cons hA
  obtain ⟨v1, vs1, d1, ds1, p1, q1, rfl, rfl, rfl, h1, r1⟩ := trodAll_cons r0
  obtain ⟨v2, vs2, d2, ds2, p2, q2, rfl, rfl, rfl, h2, r2⟩ := trodAll_cons r1
  obtain ⟨rfl, rfl, rfl⟩ := trodAll_nil r2
  obtain rfl : args = #[v0, v1, v2] := by cases args; simp_all
  obtain ⟨rfl, rfl⟩ := trodVars_none hV
  have lt0 : ∀ x ∈ p0, x.block < W.heap.size := by obtain ⟨m, hm⟩ := h0; exact DataW.trod_lt m _ _ _ hm
  obtain ⟨x0, rd0, ft0, ag0⟩ := Trod_reads 8 (by kernel_rfl) (hval 0 23 v0 rfl rfl) h0
  have lt1 : ∀ x ∈ p1, x.block < W.heap.size := by obtain ⟨m, hm⟩ := h1; exact DataW.trod_lt m _ _ _ hm
  obtain ⟨x1, rd1, ft1, ag1⟩ := Trod_reads 8 (by kernel_rfl) (hval 1 23 v1 rfl rfl) h1
  have lt2 : ∀ x ∈ p2, x.block < W.heap.size := by obtain ⟨m, hm⟩ := h2; exact DataW.trod_lt m _ _ _ hm
  obtain ⟨x2, rd2, ft2, ag2⟩ := Trod_reads 8 (by kernel_rfl) (hval 2 4 v2 rfl rfl) h2
  have hh := AclAgain_has x0 x1 x2 ft0 ag0 ft1 ag1 ft2 ag2
  refine (hh.2 W (okW W) #[v0, v1, v2] (fun _ h => h) rfl ?_).mono fun e W' hx => ?_
  · intro i h1 h2
    rcases i with _ | i; exact rd0; rcases i with _ | i; exact rd1; rcases i with _ | i; exact rd2; simp at h1 <;> omega
  · obtain ⟨v, he, hr, bel⟩ := hx
    subst he
    cases hr with
    | v _ =>
      exact ⟨_, rfl, _, _, _, [], _, [], hW', trodAll_mk1 (shut_bool (show Try.prog.underlying 4 = some .bool by kernel_rfl) _), (trodAll_cons_mk (Below.trod laidOut (by kernel_rfl) (of_decide_eq_true (by kernel_rfl)) h0 bel lt0) (trodAll_cons_mk (Below.trod laidOut (by kernel_rfl) (of_decide_eq_true (by kernel_rfl)) h1 bel lt1) (trodAll_cons_mk (Below.trod laidOut (by kernel_rfl) (of_decide_eq_true (by kernel_rfl)) h2 bel lt2) trodAll_mk0))), rfl, bel.frame _, fun h => by cases h⟩
theorem over : Rows.aclAgainRow.holds Try.pinned (OpenSpec.ofChange Rows.aclAgainSpec) :=
  OpenClaim.holds_of_wide 6 Try.f6 rfl rfl rfl rfl rfl rfl rfl ⟨rfl, rfl, rfl, rfl, rfl⟩ rfl rfl rfl rfl rfl (by kernel_rfl) Try.func6 (by kernel_rfl)
    (of_decide_eq_true (by kernel_rfl)) (by unfold Func.isWrapper; first | (rw [if_pos (by decide +kernel)]; kernel_rfl) | (rw [if_neg (by decide +kernel)]; exact ⟨rfl, rfl⟩))
    (fun os started H enc _ => lifted os started H enc)
theorem proved : Rows.AclAgainSaid := over
#print axioms proved
end Go.Proofs.Ytgblfhobiibeaaa.aclAgain
namespace Go.Proofs.Ytgblfhobiibeaaa
/-- The row, under a short name, for the claim. -/
theorem aclAgain_holds : Rows.AclAgainSaid := aclAgain.proved
end Go.Proofs.Ytgblfhobiibeaaa

