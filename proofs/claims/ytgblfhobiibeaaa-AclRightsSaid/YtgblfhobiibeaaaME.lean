/- Parts of this proof, one after the other; each says what it proves. No condition. -/
import Derived.Test.YtgblfhobiibeaaaMD
/- Contracts of functions of this translation. Printed by wip/tools/gen.py out of wip/acl/ann.py. No condition. -/
set_option linter.unusedVariables false
set_option linter.unusedSimpArgs false
namespace Go.Proofs.Ytgblfhobiibeaaa.Acl
open Go.Proofs.Ytgblfhobiibeaaa.Abs
set_option maxRecDepth 100000
set_option maxHeartbeats 4000000
theorem C32 (a b : Ace) : Has Try.prog 32 [encA a, encA b] (.b (marked a b)) := by   -- burgage/burgageref02.Marked
  refine Has.intro 31 Try.func32 (by kernel_rfl) rfl rfl fun w ok => ?_
  refine AT.seq ?_
  refine AT.region ?_   -- region 0 ref.go:12
  refine TrC.take rfl (step_box rfl rfl rfl rfl rfl rfl rfl) ?_   -- 0
  refine TrC.take rfl (step_box rfl rfl rfl rfl rfl rfl rfl) ?_   -- 1
  refine TrC.take rfl (step_assign rfl rfl rfl) ?_   -- 2
  refine TrC.done ?_
  refine AT.seq ?_
  refine AT.region ?_   -- region 1 ref.go:13
  refine TrC.take rfl (step_fieldAddrP rfl rfl fd31_0 rfl rfl) ?_   -- 0
  refine TrC.take rfl (step_loadP1 rfl rfl rfl ty3 rfl rfl) ?_   -- 1
  refine TrC.take rfl (step_fieldAddrP rfl rfl fd31_0 rfl rfl) ?_   -- 2
  refine TrC.take rfl (step_loadP1 rfl rfl rfl ty3 rfl rfl) ?_   -- 3
  refine TrC.take rfl (step_bin rfl rfl rfl rfl rfl) ?_   -- 4
  refine TrC.take rfl (step_move rfl rfl rfl) ?_   -- 5
  refine TrC.cases (d := 10) rfl (fun h10 => ?_) (fun h10 => ?_)
  · -- t10 = true
    refine TrC.take ⟨_, _, rfl, rfl, rfl⟩ (step_fieldAddrP rfl rfl fd31_1 rfl rfl) ?_   -- 6
    refine TrC.take ⟨_, _, rfl, rfl, rfl⟩ (step_loadP1 rfl rfl rfl ty4 rfl rfl) ?_   -- 7
    refine TrC.take ⟨_, _, rfl, rfl, rfl⟩ (step_fieldAddrP rfl rfl fd31_1 rfl rfl) ?_   -- 8
    refine TrC.take ⟨_, _, rfl, rfl, rfl⟩ (step_loadP1 rfl rfl rfl ty4 rfl rfl) ?_   -- 9
    refine TrC.take ⟨_, _, rfl, rfl, rfl⟩ (step_eqbool rfl rfl rfl bo4 rfl) ?_   -- 10
    refine TrC.take rfl (step_pick rfl rfl rfl rfl) ?_   -- 11
    refine TrC.take rfl (step_move rfl rfl rfl) ?_   -- 12
    refine TrC.cases (d := 17) rfl (fun h17 => ?_) (fun h17 => ?_)
    · -- t17 = true
      refine TrC.take ⟨_, _, rfl, rfl, rfl⟩ (step_fieldAddrP rfl rfl fd31_3 rfl rfl) ?_   -- 13
      refine TrC.take ⟨_, _, rfl, rfl, rfl⟩ (step_loadP1 rfl rfl rfl ty3 rfl rfl) ?_   -- 14
      refine TrC.take ⟨_, _, rfl, rfl, rfl⟩ (step_fieldAddrP rfl rfl fd31_3 rfl rfl) ?_   -- 15
      refine TrC.take ⟨_, _, rfl, rfl, rfl⟩ (step_loadP1 rfl rfl rfl ty3 rfl rfl) ?_   -- 16
      refine TrC.take ⟨_, _, rfl, rfl, rfl⟩ (step_bin rfl rfl rfl rfl rfl) ?_   -- 17
      refine TrC.take rfl (step_pick rfl rfl rfl rfl) ?_   -- 18
      refine TrC.take rfl (step_move rfl rfl rfl) ?_   -- 19
      refine TrC.cases (d := 24) rfl (fun h24 => ?_) (fun h24 => ?_)
      · -- t24 = true
        refine TrC.take ⟨_, _, rfl, rfl, rfl⟩ (step_fieldAddrP rfl rfl fd31_4 rfl rfl) ?_   -- 20
        refine TrC.take ⟨_, _, rfl, rfl, rfl⟩ (step_loadP1 rfl rfl rfl ty4 rfl rfl) ?_   -- 21
        refine TrC.take ⟨_, _, rfl, rfl, rfl⟩ (step_fieldAddrP rfl rfl fd31_4 rfl rfl) ?_   -- 22
        refine TrC.take ⟨_, _, rfl, rfl, rfl⟩ (step_loadP1 rfl rfl rfl ty4 rfl rfl) ?_   -- 23
        refine TrC.take ⟨_, _, rfl, rfl, rfl⟩ (step_eqbool rfl rfl rfl bo4 rfl) ?_   -- 24
        refine TrC.take rfl (step_pick rfl rfl rfl rfl) ?_   -- 25
        refine TrC.take rfl (step_assign rfl rfl rfl) ?_   -- 26
        refine TrC.done ?_
        refine AT.ret ?_
        exact Ret.one rfl (ResR.tmp rfl (conv_b (by unfold marked; rw [mk_eq]; first | (simp_all; done) | (rw [Bool.eq_iff_iff]; simp_all; done))))
      · -- t24 = false
        refine TrC.skip ⟨_, _, rfl, rfl, rfl⟩ ?_   -- 20
        refine TrC.skip ⟨_, _, rfl, rfl, rfl⟩ ?_   -- 21
        refine TrC.skip ⟨_, _, rfl, rfl, rfl⟩ ?_   -- 22
        refine TrC.skip ⟨_, _, rfl, rfl, rfl⟩ ?_   -- 23
        refine TrC.skip ⟨_, _, rfl, rfl, rfl⟩ ?_   -- 24
        refine TrC.take rfl (step_pick rfl rfl rfl rfl) ?_   -- 25
        refine TrC.take rfl (step_assign rfl rfl rfl) ?_   -- 26
        refine TrC.done ?_
        refine AT.ret ?_
        exact Ret.one rfl (ResR.tmp rfl (conv_b (by unfold marked; rw [mk_eq]; first | (simp_all; done) | (rw [Bool.eq_iff_iff]; simp_all; done))))
    · -- t17 = false
      refine TrC.skip ⟨_, _, rfl, rfl, rfl⟩ ?_   -- 13
      refine TrC.skip ⟨_, _, rfl, rfl, rfl⟩ ?_   -- 14
      refine TrC.skip ⟨_, _, rfl, rfl, rfl⟩ ?_   -- 15
      refine TrC.skip ⟨_, _, rfl, rfl, rfl⟩ ?_   -- 16
      refine TrC.skip ⟨_, _, rfl, rfl, rfl⟩ ?_   -- 17
      refine TrC.take rfl (step_pick rfl rfl rfl rfl) ?_   -- 18
      refine TrC.take rfl (step_move rfl rfl rfl) ?_   -- 19
      refine TrC.skip ⟨_, _, rfl, rfl, rfl⟩ ?_   -- 20
      refine TrC.skip ⟨_, _, rfl, rfl, rfl⟩ ?_   -- 21
      refine TrC.skip ⟨_, _, rfl, rfl, rfl⟩ ?_   -- 22
      refine TrC.skip ⟨_, _, rfl, rfl, rfl⟩ ?_   -- 23
      refine TrC.skip ⟨_, _, rfl, rfl, rfl⟩ ?_   -- 24
      refine TrC.take rfl (step_pick rfl rfl rfl rfl) ?_   -- 25
      refine TrC.take rfl (step_assign rfl rfl rfl) ?_   -- 26
      refine TrC.done ?_
      refine AT.ret ?_
      exact Ret.one rfl (ResR.tmp rfl (conv_b (by unfold marked; rw [mk_eq]; first | (simp_all; done) | (rw [Bool.eq_iff_iff]; simp_all; done))))
  · -- t10 = false
    refine TrC.skip ⟨_, _, rfl, rfl, rfl⟩ ?_   -- 6
    refine TrC.skip ⟨_, _, rfl, rfl, rfl⟩ ?_   -- 7
    refine TrC.skip ⟨_, _, rfl, rfl, rfl⟩ ?_   -- 8
    refine TrC.skip ⟨_, _, rfl, rfl, rfl⟩ ?_   -- 9
    refine TrC.skip ⟨_, _, rfl, rfl, rfl⟩ ?_   -- 10
    refine TrC.take rfl (step_pick rfl rfl rfl rfl) ?_   -- 11
    refine TrC.take rfl (step_move rfl rfl rfl) ?_   -- 12
    refine TrC.skip ⟨_, _, rfl, rfl, rfl⟩ ?_   -- 13
    refine TrC.skip ⟨_, _, rfl, rfl, rfl⟩ ?_   -- 14
    refine TrC.skip ⟨_, _, rfl, rfl, rfl⟩ ?_   -- 15
    refine TrC.skip ⟨_, _, rfl, rfl, rfl⟩ ?_   -- 16
    refine TrC.skip ⟨_, _, rfl, rfl, rfl⟩ ?_   -- 17
    refine TrC.take rfl (step_pick rfl rfl rfl rfl) ?_   -- 18
    refine TrC.take rfl (step_move rfl rfl rfl) ?_   -- 19
    refine TrC.skip ⟨_, _, rfl, rfl, rfl⟩ ?_   -- 20
    refine TrC.skip ⟨_, _, rfl, rfl, rfl⟩ ?_   -- 21
    refine TrC.skip ⟨_, _, rfl, rfl, rfl⟩ ?_   -- 22
    refine TrC.skip ⟨_, _, rfl, rfl, rfl⟩ ?_   -- 23
    refine TrC.skip ⟨_, _, rfl, rfl, rfl⟩ ?_   -- 24
    refine TrC.take rfl (step_pick rfl rfl rfl rfl) ?_   -- 25
    refine TrC.take rfl (step_assign rfl rfl rfl) ?_   -- 26
    refine TrC.done ?_
    refine AT.ret ?_
    exact Ret.one rfl (ResR.tmp rfl (conv_b (by unfold marked; rw [mk_eq]; first | (simp_all; done) | (rw [Bool.eq_iff_iff]; simp_all; done))))

theorem C33 (a : Ace) : Has Try.prog 33 [encA a] (.b (right a)) := by   -- burgage/acl.right
  refine Has.intro 31 Try.func33 (by kernel_rfl) rfl rfl fun w ok => ?_
  refine AT.seq ?_
  refine AT.region ?_   -- region 0 acl.go:23
  refine TrC.take rfl (step_box rfl rfl rfl rfl rfl rfl rfl) ?_   -- 0
  refine TrC.take rfl (step_assign rfl rfl rfl) ?_   -- 1
  refine TrC.done ?_
  refine AT.seq ?_
  refine AT.region ?_   -- region 1 acl.go:24
  refine TrC.take rfl (step_fieldAddrP rfl rfl fd31_0 rfl rfl) ?_   -- 0
  refine TrC.take rfl (step_loadP1 rfl rfl rfl ty3 rfl rfl) ?_   -- 1
  refine TrC.take rfl (step_bin rfl rfl rfl rfl rfl) ?_   -- 2
  refine TrC.take rfl (step_move rfl rfl rfl) ?_   -- 3
  refine TrC.cases (d := 6) rfl (fun h6 => ?_) (fun h6 => ?_)
  · -- t6 = true
    refine TrC.take ⟨_, _, rfl, rfl, rfl⟩ (step_fieldAddrP rfl rfl fd31_0 rfl rfl) ?_   -- 4
    refine TrC.take ⟨_, _, rfl, rfl, rfl⟩ (step_loadP1 rfl rfl rfl ty3 rfl rfl) ?_   -- 5
    refine TrC.take ⟨_, _, rfl, rfl, rfl⟩ (step_bin rfl rfl rfl rfl rfl) ?_   -- 6
    refine TrC.take rfl (step_pick rfl rfl rfl rfl) ?_   -- 7
    refine TrC.take rfl (step_move rfl rfl rfl) ?_   -- 8
    refine TrC.cases (d := 11) rfl (fun h11 => ?_) (fun h11 => ?_)
    · -- t11 = true
      refine TrC.take ⟨_, _, rfl, rfl, rfl⟩ (step_fieldAddrP rfl rfl fd31_2 rfl rfl) ?_   -- 9
      refine TrC.take ⟨_, _, rfl, rfl, rfl⟩ (step_loadP1 rfl rfl rfl ty3 rfl rfl) ?_   -- 10
      refine TrC.take ⟨_, _, rfl, rfl, rfl⟩ (step_bin rfl rfl rfl rfl rfl) ?_   -- 11
      refine TrC.take rfl (step_pick rfl rfl rfl rfl) ?_   -- 12
      refine TrC.take rfl (step_move rfl rfl rfl) ?_   -- 13
      refine TrC.cases (d := 16) rfl (fun h16 => ?_) (fun h16 => ?_)
      · -- t16 = true
        refine TrC.take ⟨_, _, rfl, rfl, rfl⟩ (step_fieldAddrP rfl rfl fd31_2 rfl rfl) ?_   -- 14
        refine TrC.take ⟨_, _, rfl, rfl, rfl⟩ (step_loadP1 rfl rfl rfl ty3 rfl rfl) ?_   -- 15
        refine TrC.take ⟨_, _, rfl, rfl, rfl⟩ (step_bin rfl rfl rfl rfl rfl) ?_   -- 16
        refine TrC.take rfl (step_pick rfl rfl rfl rfl) ?_   -- 17
        refine TrC.take rfl (step_move rfl rfl rfl) ?_   -- 18
        refine TrC.cases (d := 21) rfl (fun h21 => ?_) (fun h21 => ?_)
        · -- t21 = true
          refine TrC.take ⟨_, _, rfl, rfl, rfl⟩ (step_fieldAddrP rfl rfl fd31_3 rfl rfl) ?_   -- 19
          refine TrC.take ⟨_, _, rfl, rfl, rfl⟩ (step_loadP1 rfl rfl rfl ty3 rfl rfl) ?_   -- 20
          refine TrC.take ⟨_, _, rfl, rfl, rfl⟩ (step_bin rfl rfl rfl rfl rfl) ?_   -- 21
          refine TrC.take rfl (step_pick rfl rfl rfl rfl) ?_   -- 22
          refine TrC.take rfl (step_move rfl rfl rfl) ?_   -- 23
          refine TrC.cases (d := 26) rfl (fun h26 => ?_) (fun h26 => ?_)
          · -- t26 = true
            refine TrC.take ⟨_, _, rfl, rfl, rfl⟩ (step_fieldAddrP rfl rfl fd31_3 rfl rfl) ?_   -- 24
            refine TrC.take ⟨_, _, rfl, rfl, rfl⟩ (step_loadP1 rfl rfl rfl ty3 rfl rfl) ?_   -- 25
            refine TrC.take ⟨_, _, rfl, rfl, rfl⟩ (step_bin rfl rfl rfl rfl rfl) ?_   -- 26
            refine TrC.take rfl (step_pick rfl rfl rfl rfl) ?_   -- 27
            refine TrC.take rfl (step_assign rfl rfl rfl) ?_   -- 28
            refine TrC.done ?_
            refine AT.ret ?_
            exact Ret.one rfl (ResR.tmp rfl (conv_b (by first | (simp_all [right]; done) | (simp_all [right] <;> intros <;> omega) | (rw [Bool.eq_iff_iff]; simp_all [right]; done) | (rw [Bool.eq_iff_iff]; simp_all [right] <;> omega))))
          · -- t26 = false
            refine TrC.skip ⟨_, _, rfl, rfl, rfl⟩ ?_   -- 24
            refine TrC.skip ⟨_, _, rfl, rfl, rfl⟩ ?_   -- 25
            refine TrC.skip ⟨_, _, rfl, rfl, rfl⟩ ?_   -- 26
            refine TrC.take rfl (step_pick rfl rfl rfl rfl) ?_   -- 27
            refine TrC.take rfl (step_assign rfl rfl rfl) ?_   -- 28
            refine TrC.done ?_
            refine AT.ret ?_
            exact Ret.one rfl (ResR.tmp rfl (conv_b (by first | (simp_all [right]; done) | (simp_all [right] <;> intros <;> omega) | (rw [Bool.eq_iff_iff]; simp_all [right]; done) | (rw [Bool.eq_iff_iff]; simp_all [right] <;> omega))))
        · -- t21 = false
          refine TrC.skip ⟨_, _, rfl, rfl, rfl⟩ ?_   -- 19
          refine TrC.skip ⟨_, _, rfl, rfl, rfl⟩ ?_   -- 20
          refine TrC.skip ⟨_, _, rfl, rfl, rfl⟩ ?_   -- 21
          refine TrC.take rfl (step_pick rfl rfl rfl rfl) ?_   -- 22
          refine TrC.take rfl (step_move rfl rfl rfl) ?_   -- 23
          refine TrC.skip ⟨_, _, rfl, rfl, rfl⟩ ?_   -- 24
          refine TrC.skip ⟨_, _, rfl, rfl, rfl⟩ ?_   -- 25
          refine TrC.skip ⟨_, _, rfl, rfl, rfl⟩ ?_   -- 26
          refine TrC.take rfl (step_pick rfl rfl rfl rfl) ?_   -- 27
          refine TrC.take rfl (step_assign rfl rfl rfl) ?_   -- 28
          refine TrC.done ?_
          refine AT.ret ?_
          exact Ret.one rfl (ResR.tmp rfl (conv_b (by first | (simp_all [right]; done) | (simp_all [right] <;> intros <;> omega) | (rw [Bool.eq_iff_iff]; simp_all [right]; done) | (rw [Bool.eq_iff_iff]; simp_all [right] <;> omega))))
      · -- t16 = false
        refine TrC.skip ⟨_, _, rfl, rfl, rfl⟩ ?_   -- 14
        refine TrC.skip ⟨_, _, rfl, rfl, rfl⟩ ?_   -- 15
        refine TrC.skip ⟨_, _, rfl, rfl, rfl⟩ ?_   -- 16
        refine TrC.take rfl (step_pick rfl rfl rfl rfl) ?_   -- 17
        refine TrC.take rfl (step_move rfl rfl rfl) ?_   -- 18
        refine TrC.skip ⟨_, _, rfl, rfl, rfl⟩ ?_   -- 19
        refine TrC.skip ⟨_, _, rfl, rfl, rfl⟩ ?_   -- 20
        refine TrC.skip ⟨_, _, rfl, rfl, rfl⟩ ?_   -- 21
        refine TrC.take rfl (step_pick rfl rfl rfl rfl) ?_   -- 22
        refine TrC.take rfl (step_move rfl rfl rfl) ?_   -- 23
        refine TrC.skip ⟨_, _, rfl, rfl, rfl⟩ ?_   -- 24
        refine TrC.skip ⟨_, _, rfl, rfl, rfl⟩ ?_   -- 25
        refine TrC.skip ⟨_, _, rfl, rfl, rfl⟩ ?_   -- 26
        refine TrC.take rfl (step_pick rfl rfl rfl rfl) ?_   -- 27
        refine TrC.take rfl (step_assign rfl rfl rfl) ?_   -- 28
        refine TrC.done ?_
        refine AT.ret ?_
        exact Ret.one rfl (ResR.tmp rfl (conv_b (by first | (simp_all [right]; done) | (simp_all [right] <;> intros <;> omega) | (rw [Bool.eq_iff_iff]; simp_all [right]; done) | (rw [Bool.eq_iff_iff]; simp_all [right] <;> omega))))
    · -- t11 = false
      refine TrC.skip ⟨_, _, rfl, rfl, rfl⟩ ?_   -- 9
      refine TrC.skip ⟨_, _, rfl, rfl, rfl⟩ ?_   -- 10
      refine TrC.skip ⟨_, _, rfl, rfl, rfl⟩ ?_   -- 11
      refine TrC.take rfl (step_pick rfl rfl rfl rfl) ?_   -- 12
      refine TrC.take rfl (step_move rfl rfl rfl) ?_   -- 13
      refine TrC.skip ⟨_, _, rfl, rfl, rfl⟩ ?_   -- 14
      refine TrC.skip ⟨_, _, rfl, rfl, rfl⟩ ?_   -- 15
      refine TrC.skip ⟨_, _, rfl, rfl, rfl⟩ ?_   -- 16
      refine TrC.take rfl (step_pick rfl rfl rfl rfl) ?_   -- 17
      refine TrC.take rfl (step_move rfl rfl rfl) ?_   -- 18
      refine TrC.skip ⟨_, _, rfl, rfl, rfl⟩ ?_   -- 19
      refine TrC.skip ⟨_, _, rfl, rfl, rfl⟩ ?_   -- 20
      refine TrC.skip ⟨_, _, rfl, rfl, rfl⟩ ?_   -- 21
      refine TrC.take rfl (step_pick rfl rfl rfl rfl) ?_   -- 22
      refine TrC.take rfl (step_move rfl rfl rfl) ?_   -- 23
      refine TrC.skip ⟨_, _, rfl, rfl, rfl⟩ ?_   -- 24
      refine TrC.skip ⟨_, _, rfl, rfl, rfl⟩ ?_   -- 25
      refine TrC.skip ⟨_, _, rfl, rfl, rfl⟩ ?_   -- 26
      refine TrC.take rfl (step_pick rfl rfl rfl rfl) ?_   -- 27
      refine TrC.take rfl (step_assign rfl rfl rfl) ?_   -- 28
      refine TrC.done ?_
      refine AT.ret ?_
      exact Ret.one rfl (ResR.tmp rfl (conv_b (by first | (simp_all [right]; done) | (simp_all [right] <;> intros <;> omega) | (rw [Bool.eq_iff_iff]; simp_all [right]; done) | (rw [Bool.eq_iff_iff]; simp_all [right] <;> omega))))
  · -- t6 = false
    refine TrC.skip ⟨_, _, rfl, rfl, rfl⟩ ?_   -- 4
    refine TrC.skip ⟨_, _, rfl, rfl, rfl⟩ ?_   -- 5
    refine TrC.skip ⟨_, _, rfl, rfl, rfl⟩ ?_   -- 6
    refine TrC.take rfl (step_pick rfl rfl rfl rfl) ?_   -- 7
    refine TrC.take rfl (step_move rfl rfl rfl) ?_   -- 8
    refine TrC.skip ⟨_, _, rfl, rfl, rfl⟩ ?_   -- 9
    refine TrC.skip ⟨_, _, rfl, rfl, rfl⟩ ?_   -- 10
    refine TrC.skip ⟨_, _, rfl, rfl, rfl⟩ ?_   -- 11
    refine TrC.take rfl (step_pick rfl rfl rfl rfl) ?_   -- 12
    refine TrC.take rfl (step_move rfl rfl rfl) ?_   -- 13
    refine TrC.skip ⟨_, _, rfl, rfl, rfl⟩ ?_   -- 14
    refine TrC.skip ⟨_, _, rfl, rfl, rfl⟩ ?_   -- 15
    refine TrC.skip ⟨_, _, rfl, rfl, rfl⟩ ?_   -- 16
    refine TrC.take rfl (step_pick rfl rfl rfl rfl) ?_   -- 17
    refine TrC.take rfl (step_move rfl rfl rfl) ?_   -- 18
    refine TrC.skip ⟨_, _, rfl, rfl, rfl⟩ ?_   -- 19
    refine TrC.skip ⟨_, _, rfl, rfl, rfl⟩ ?_   -- 20
    refine TrC.skip ⟨_, _, rfl, rfl, rfl⟩ ?_   -- 21
    refine TrC.take rfl (step_pick rfl rfl rfl rfl) ?_   -- 22
    refine TrC.take rfl (step_move rfl rfl rfl) ?_   -- 23
    refine TrC.skip ⟨_, _, rfl, rfl, rfl⟩ ?_   -- 24
    refine TrC.skip ⟨_, _, rfl, rfl, rfl⟩ ?_   -- 25
    refine TrC.skip ⟨_, _, rfl, rfl, rfl⟩ ?_   -- 26
    refine TrC.take rfl (step_pick rfl rfl rfl rfl) ?_   -- 27
    refine TrC.take rfl (step_assign rfl rfl rfl) ?_   -- 28
    refine TrC.done ?_
    refine AT.ret ?_
    exact Ret.one rfl (ResR.tmp rfl (conv_b (by first | (simp_all [right]; done) | (simp_all [right] <;> intros <;> omega) | (rw [Bool.eq_iff_iff]; simp_all [right]; done) | (rw [Bool.eq_iff_iff]; simp_all [right] <;> omega))))

theorem C35 (a : Ace) : Has Try.prog 35 [encA a] (.b (right a)) := by   -- burgage/burgageref02.Right
  refine Has.intro 31 Try.func35 (by kernel_rfl) rfl rfl fun w ok => ?_
  refine AT.seq ?_
  refine AT.region ?_   -- region 0 ref.go:7
  refine TrC.take rfl (step_box rfl rfl rfl rfl rfl rfl rfl) ?_   -- 0
  refine TrC.take rfl (step_assign rfl rfl rfl) ?_   -- 1
  refine TrC.done ?_
  refine AT.seq ?_
  refine AT.region ?_   -- region 1 ref.go:8
  refine TrC.take rfl (step_fieldAddrP rfl rfl fd31_0 rfl rfl) ?_   -- 0
  refine TrC.take rfl (step_loadP1 rfl rfl rfl ty3 rfl rfl) ?_   -- 1
  refine TrC.take rfl (step_bin rfl rfl rfl rfl rfl) ?_   -- 2
  refine TrC.take rfl (step_move rfl rfl rfl) ?_   -- 3
  refine TrC.cases (d := 6) rfl (fun h6 => ?_) (fun h6 => ?_)
  · -- t6 = true
    refine TrC.take ⟨_, _, rfl, rfl, rfl⟩ (step_fieldAddrP rfl rfl fd31_0 rfl rfl) ?_   -- 4
    refine TrC.take ⟨_, _, rfl, rfl, rfl⟩ (step_loadP1 rfl rfl rfl ty3 rfl rfl) ?_   -- 5
    refine TrC.take ⟨_, _, rfl, rfl, rfl⟩ (step_bin rfl rfl rfl rfl rfl) ?_   -- 6
    refine TrC.take rfl (step_pick rfl rfl rfl rfl) ?_   -- 7
    refine TrC.take rfl (step_move rfl rfl rfl) ?_   -- 8
    refine TrC.cases (d := 11) rfl (fun h11 => ?_) (fun h11 => ?_)
    · -- t11 = true
      refine TrC.take ⟨_, _, rfl, rfl, rfl⟩ (step_fieldAddrP rfl rfl fd31_2 rfl rfl) ?_   -- 9
      refine TrC.take ⟨_, _, rfl, rfl, rfl⟩ (step_loadP1 rfl rfl rfl ty3 rfl rfl) ?_   -- 10
      refine TrC.take ⟨_, _, rfl, rfl, rfl⟩ (step_bin rfl rfl rfl rfl rfl) ?_   -- 11
      refine TrC.take rfl (step_pick rfl rfl rfl rfl) ?_   -- 12
      refine TrC.take rfl (step_move rfl rfl rfl) ?_   -- 13
      refine TrC.cases (d := 16) rfl (fun h16 => ?_) (fun h16 => ?_)
      · -- t16 = true
        refine TrC.take ⟨_, _, rfl, rfl, rfl⟩ (step_fieldAddrP rfl rfl fd31_2 rfl rfl) ?_   -- 14
        refine TrC.take ⟨_, _, rfl, rfl, rfl⟩ (step_loadP1 rfl rfl rfl ty3 rfl rfl) ?_   -- 15
        refine TrC.take ⟨_, _, rfl, rfl, rfl⟩ (step_bin rfl rfl rfl rfl rfl) ?_   -- 16
        refine TrC.take rfl (step_pick rfl rfl rfl rfl) ?_   -- 17
        refine TrC.take rfl (step_move rfl rfl rfl) ?_   -- 18
        refine TrC.cases (d := 21) rfl (fun h21 => ?_) (fun h21 => ?_)
        · -- t21 = true
          refine TrC.take ⟨_, _, rfl, rfl, rfl⟩ (step_fieldAddrP rfl rfl fd31_3 rfl rfl) ?_   -- 19
          refine TrC.take ⟨_, _, rfl, rfl, rfl⟩ (step_loadP1 rfl rfl rfl ty3 rfl rfl) ?_   -- 20
          refine TrC.take ⟨_, _, rfl, rfl, rfl⟩ (step_bin rfl rfl rfl rfl rfl) ?_   -- 21
          refine TrC.take rfl (step_pick rfl rfl rfl rfl) ?_   -- 22
          refine TrC.take rfl (step_move rfl rfl rfl) ?_   -- 23
          refine TrC.cases (d := 26) rfl (fun h26 => ?_) (fun h26 => ?_)
          · -- t26 = true
            refine TrC.take ⟨_, _, rfl, rfl, rfl⟩ (step_fieldAddrP rfl rfl fd31_3 rfl rfl) ?_   -- 24
            refine TrC.take ⟨_, _, rfl, rfl, rfl⟩ (step_loadP1 rfl rfl rfl ty3 rfl rfl) ?_   -- 25
            refine TrC.take ⟨_, _, rfl, rfl, rfl⟩ (step_bin rfl rfl rfl rfl rfl) ?_   -- 26
            refine TrC.take rfl (step_pick rfl rfl rfl rfl) ?_   -- 27
            refine TrC.take rfl (step_assign rfl rfl rfl) ?_   -- 28
            refine TrC.done ?_
            refine AT.ret ?_
            exact Ret.one rfl (ResR.tmp rfl (conv_b (by first | (simp_all [right]; done) | (simp_all [right] <;> intros <;> omega) | (rw [Bool.eq_iff_iff]; simp_all [right]; done) | (rw [Bool.eq_iff_iff]; simp_all [right] <;> omega))))
          · -- t26 = false
            refine TrC.skip ⟨_, _, rfl, rfl, rfl⟩ ?_   -- 24
            refine TrC.skip ⟨_, _, rfl, rfl, rfl⟩ ?_   -- 25
            refine TrC.skip ⟨_, _, rfl, rfl, rfl⟩ ?_   -- 26
            refine TrC.take rfl (step_pick rfl rfl rfl rfl) ?_   -- 27
            refine TrC.take rfl (step_assign rfl rfl rfl) ?_   -- 28
            refine TrC.done ?_
            refine AT.ret ?_
            exact Ret.one rfl (ResR.tmp rfl (conv_b (by first | (simp_all [right]; done) | (simp_all [right] <;> intros <;> omega) | (rw [Bool.eq_iff_iff]; simp_all [right]; done) | (rw [Bool.eq_iff_iff]; simp_all [right] <;> omega))))
        · -- t21 = false
          refine TrC.skip ⟨_, _, rfl, rfl, rfl⟩ ?_   -- 19
          refine TrC.skip ⟨_, _, rfl, rfl, rfl⟩ ?_   -- 20
          refine TrC.skip ⟨_, _, rfl, rfl, rfl⟩ ?_   -- 21
          refine TrC.take rfl (step_pick rfl rfl rfl rfl) ?_   -- 22
          refine TrC.take rfl (step_move rfl rfl rfl) ?_   -- 23
          refine TrC.skip ⟨_, _, rfl, rfl, rfl⟩ ?_   -- 24
          refine TrC.skip ⟨_, _, rfl, rfl, rfl⟩ ?_   -- 25
          refine TrC.skip ⟨_, _, rfl, rfl, rfl⟩ ?_   -- 26
          refine TrC.take rfl (step_pick rfl rfl rfl rfl) ?_   -- 27
          refine TrC.take rfl (step_assign rfl rfl rfl) ?_   -- 28
          refine TrC.done ?_
          refine AT.ret ?_
          exact Ret.one rfl (ResR.tmp rfl (conv_b (by first | (simp_all [right]; done) | (simp_all [right] <;> intros <;> omega) | (rw [Bool.eq_iff_iff]; simp_all [right]; done) | (rw [Bool.eq_iff_iff]; simp_all [right] <;> omega))))
      · -- t16 = false
        refine TrC.skip ⟨_, _, rfl, rfl, rfl⟩ ?_   -- 14
        refine TrC.skip ⟨_, _, rfl, rfl, rfl⟩ ?_   -- 15
        refine TrC.skip ⟨_, _, rfl, rfl, rfl⟩ ?_   -- 16
        refine TrC.take rfl (step_pick rfl rfl rfl rfl) ?_   -- 17
        refine TrC.take rfl (step_move rfl rfl rfl) ?_   -- 18
        refine TrC.skip ⟨_, _, rfl, rfl, rfl⟩ ?_   -- 19
        refine TrC.skip ⟨_, _, rfl, rfl, rfl⟩ ?_   -- 20
        refine TrC.skip ⟨_, _, rfl, rfl, rfl⟩ ?_   -- 21
        refine TrC.take rfl (step_pick rfl rfl rfl rfl) ?_   -- 22
        refine TrC.take rfl (step_move rfl rfl rfl) ?_   -- 23
        refine TrC.skip ⟨_, _, rfl, rfl, rfl⟩ ?_   -- 24
        refine TrC.skip ⟨_, _, rfl, rfl, rfl⟩ ?_   -- 25
        refine TrC.skip ⟨_, _, rfl, rfl, rfl⟩ ?_   -- 26
        refine TrC.take rfl (step_pick rfl rfl rfl rfl) ?_   -- 27
        refine TrC.take rfl (step_assign rfl rfl rfl) ?_   -- 28
        refine TrC.done ?_
        refine AT.ret ?_
        exact Ret.one rfl (ResR.tmp rfl (conv_b (by first | (simp_all [right]; done) | (simp_all [right] <;> intros <;> omega) | (rw [Bool.eq_iff_iff]; simp_all [right]; done) | (rw [Bool.eq_iff_iff]; simp_all [right] <;> omega))))
    · -- t11 = false
      refine TrC.skip ⟨_, _, rfl, rfl, rfl⟩ ?_   -- 9
      refine TrC.skip ⟨_, _, rfl, rfl, rfl⟩ ?_   -- 10
      refine TrC.skip ⟨_, _, rfl, rfl, rfl⟩ ?_   -- 11
      refine TrC.take rfl (step_pick rfl rfl rfl rfl) ?_   -- 12
      refine TrC.take rfl (step_move rfl rfl rfl) ?_   -- 13
      refine TrC.skip ⟨_, _, rfl, rfl, rfl⟩ ?_   -- 14
      refine TrC.skip ⟨_, _, rfl, rfl, rfl⟩ ?_   -- 15
      refine TrC.skip ⟨_, _, rfl, rfl, rfl⟩ ?_   -- 16
      refine TrC.take rfl (step_pick rfl rfl rfl rfl) ?_   -- 17
      refine TrC.take rfl (step_move rfl rfl rfl) ?_   -- 18
      refine TrC.skip ⟨_, _, rfl, rfl, rfl⟩ ?_   -- 19
      refine TrC.skip ⟨_, _, rfl, rfl, rfl⟩ ?_   -- 20
      refine TrC.skip ⟨_, _, rfl, rfl, rfl⟩ ?_   -- 21
      refine TrC.take rfl (step_pick rfl rfl rfl rfl) ?_   -- 22
      refine TrC.take rfl (step_move rfl rfl rfl) ?_   -- 23
      refine TrC.skip ⟨_, _, rfl, rfl, rfl⟩ ?_   -- 24
      refine TrC.skip ⟨_, _, rfl, rfl, rfl⟩ ?_   -- 25
      refine TrC.skip ⟨_, _, rfl, rfl, rfl⟩ ?_   -- 26
      refine TrC.take rfl (step_pick rfl rfl rfl rfl) ?_   -- 27
      refine TrC.take rfl (step_assign rfl rfl rfl) ?_   -- 28
      refine TrC.done ?_
      refine AT.ret ?_
      exact Ret.one rfl (ResR.tmp rfl (conv_b (by first | (simp_all [right]; done) | (simp_all [right] <;> intros <;> omega) | (rw [Bool.eq_iff_iff]; simp_all [right]; done) | (rw [Bool.eq_iff_iff]; simp_all [right] <;> omega))))
  · -- t6 = false
    refine TrC.skip ⟨_, _, rfl, rfl, rfl⟩ ?_   -- 4
    refine TrC.skip ⟨_, _, rfl, rfl, rfl⟩ ?_   -- 5
    refine TrC.skip ⟨_, _, rfl, rfl, rfl⟩ ?_   -- 6
    refine TrC.take rfl (step_pick rfl rfl rfl rfl) ?_   -- 7
    refine TrC.take rfl (step_move rfl rfl rfl) ?_   -- 8
    refine TrC.skip ⟨_, _, rfl, rfl, rfl⟩ ?_   -- 9
    refine TrC.skip ⟨_, _, rfl, rfl, rfl⟩ ?_   -- 10
    refine TrC.skip ⟨_, _, rfl, rfl, rfl⟩ ?_   -- 11
    refine TrC.take rfl (step_pick rfl rfl rfl rfl) ?_   -- 12
    refine TrC.take rfl (step_move rfl rfl rfl) ?_   -- 13
    refine TrC.skip ⟨_, _, rfl, rfl, rfl⟩ ?_   -- 14
    refine TrC.skip ⟨_, _, rfl, rfl, rfl⟩ ?_   -- 15
    refine TrC.skip ⟨_, _, rfl, rfl, rfl⟩ ?_   -- 16
    refine TrC.take rfl (step_pick rfl rfl rfl rfl) ?_   -- 17
    refine TrC.take rfl (step_move rfl rfl rfl) ?_   -- 18
    refine TrC.skip ⟨_, _, rfl, rfl, rfl⟩ ?_   -- 19
    refine TrC.skip ⟨_, _, rfl, rfl, rfl⟩ ?_   -- 20
    refine TrC.skip ⟨_, _, rfl, rfl, rfl⟩ ?_   -- 21
    refine TrC.take rfl (step_pick rfl rfl rfl rfl) ?_   -- 22
    refine TrC.take rfl (step_move rfl rfl rfl) ?_   -- 23
    refine TrC.skip ⟨_, _, rfl, rfl, rfl⟩ ?_   -- 24
    refine TrC.skip ⟨_, _, rfl, rfl, rfl⟩ ?_   -- 25
    refine TrC.skip ⟨_, _, rfl, rfl, rfl⟩ ?_   -- 26
    refine TrC.take rfl (step_pick rfl rfl rfl rfl) ?_   -- 27
    refine TrC.take rfl (step_assign rfl rfl rfl) ?_   -- 28
    refine TrC.done ?_
    refine AT.ret ?_
    exact Ret.one rfl (ResR.tmp rfl (conv_b (by first | (simp_all [right]; done) | (simp_all [right] <;> intros <;> omega) | (rw [Bool.eq_iff_iff]; simp_all [right]; done) | (rw [Bool.eq_iff_iff]; simp_all [right] <;> omega))))

theorem C34 (a : Ace) : Has Try.prog 34 [encA a] (encM (mk a)) := by   -- burgage/acl.of
  refine Has.intro 12 Try.func34 (by kernel_rfl) rfl rfl fun w ok => ?_
  refine AT.seq ?_
  refine AT.region ?_   -- region 0 acl.go:20
  refine TrC.take rfl (step_box rfl rfl rfl rfl rfl rfl rfl) ?_   -- 0
  refine TrC.take rfl (step_alloc rfl rfl ze60 rfl rfl rfl) ?_   -- 1
  refine TrC.done ?_
  refine AT.seq ?_
  refine AT.region ?_   -- region 1 acl.go:20
  refine TrC.take rfl (step_fieldAddrP rfl rfl fd31_0 rfl rfl) ?_   -- 0
  refine TrC.take rfl (step_loadP1 rfl rfl rfl ty3 rfl rfl) ?_   -- 1
  refine TrC.take rfl (step_fieldAddrP rfl rfl fd31_1 rfl rfl) ?_   -- 2
  refine TrC.take rfl (step_loadP1 rfl rfl rfl ty4 rfl rfl) ?_   -- 3
  refine TrC.take rfl (step_fieldAddrP rfl rfl fd31_4 rfl rfl) ?_   -- 4
  refine TrC.take rfl (step_loadP1 rfl rfl rfl ty4 rfl rfl) ?_   -- 5
  refine TrC.take rfl (step_fieldAddrP rfl rfl fd31_3 rfl rfl) ?_   -- 6
  refine TrC.take rfl (step_loadP1 rfl rfl rfl ty3 rfl rfl) ?_   -- 7
  refine TrC.take rfl (step_buildS rfl ze60 rfl pl60 rfl rfl rfl rfl) ?_   -- 8
  refine TrC.take rfl (step_storeP rfl rfl rfl rfl rfl (.inl rfl) ty60 rfl rfl rfl) ?_   -- 9
  refine TrC.done ?_
  refine AT.ret ?_
  exact Ret.one rfl (ResR.cellN rfl rfl ty60 rfl rfl (.refl _))

theorem C40 (a : Ace) : Has Try.prog 40 [encA a] (.b a.gv) := by   -- burgage/acl.given
  refine Has.intro 5 Try.func40 (by kernel_rfl) rfl rfl fun w ok => ?_
  refine AT.seq ?_
  refine AT.region ?_   -- region 0 acl.go:28
  refine TrC.take rfl (step_box rfl rfl rfl rfl rfl rfl rfl) ?_   -- 0
  refine TrC.take rfl (step_assign rfl rfl rfl) ?_   -- 1
  refine TrC.done ?_
  refine AT.seq ?_
  refine AT.region ?_   -- region 1 acl.go:28
  refine TrC.take rfl (step_fieldAddrP rfl rfl fd31_4 rfl rfl) ?_   -- 0
  refine TrC.take rfl (step_loadP1 rfl rfl rfl ty4 rfl rfl) ?_   -- 1
  refine TrC.take rfl (step_assign rfl rfl rfl) ?_   -- 2
  refine TrC.done ?_
  refine AT.ret ?_
  exact Ret.one rfl (ResR.tmp rfl (.refl _))

theorem C52 (a : Ace) : Has Try.prog 52 [encA a] (.b (!a.gv)) := by   -- burgage/acl.own
  refine Has.intro 6 Try.func52 (by kernel_rfl) rfl rfl fun w ok => ?_
  refine AT.seq ?_
  refine AT.region ?_   -- region 0 acl.go:30
  refine TrC.take rfl (step_box rfl rfl rfl rfl rfl rfl rfl) ?_   -- 0
  refine TrC.take rfl (step_assign rfl rfl rfl) ?_   -- 1
  refine TrC.done ?_
  refine AT.seq ?_
  refine AT.region ?_   -- region 1 acl.go:30
  refine TrC.take rfl (step_fieldAddrP rfl rfl fd31_4 rfl rfl) ?_   -- 0
  refine TrC.take rfl (step_loadP1 rfl rfl rfl ty4 rfl rfl) ?_   -- 1
  refine TrC.take rfl (step_not rfl rfl rfl) ?_   -- 2
  refine TrC.take rfl (step_assign rfl rfl rfl) ?_   -- 3
  refine TrC.done ?_
  refine AT.ret ?_
  exact Ret.one rfl (ResR.tmp rfl (.refl _))

theorem C41 (a e : Ace) : Has Try.prog 41 [encA a, .ptr [.i e.who, .b e.al, .i e.rt, .i e.rc, .b e.gv]] (.b (marked a e)) := by   -- burgage/acl.Put$1
  refine Has.intro 9 Try.func41 (by kernel_rfl) rfl rfl fun w ok => ?_
  refine AT.seq ?_
  refine AT.region ?_   -- region 0 acl.go:105
  refine TrC.take rfl (step_box rfl rfl rfl rfl rfl rfl rfl) ?_   -- 0
  refine TrC.take rfl (step_assign rfl rfl rfl) ?_   -- 1
  refine TrC.done ?_
  refine AT.seq ?_
  refine AT.regionD mixed rfl ?_   -- region 1 acl.go:105
  refine TrC.take rfl (step_loadPN rfl rfl rfl ty31 rfl rfl rfl) ?_   -- 0
  refine TrC.take rfl (step_call0 rfl rfl (C34 a) rfl) ?_   -- 1
  first | refine TrC.take rfl (step_loadPN rfl rfl rfl ty31 rfl rfl rfl) ?_ | refine TrC.take rfl (step_loadTN rfl rfl ty31 rfl rfl) ?_ | refine TrC.take rfl (step_loadEN rfl rfl rfl HOFF ty31 HV rfl) ?_   -- 2
  refine TrC.take rfl (step_call0 rfl rfl (C34 e) rfl) ?_   -- 3
  refine TrC.take rfl (step_eqa rfl rfl rfl rfl rfl ty60 eg60 (eq60 _ _ _ _ _ _ _ _) rfl) ?_   -- 4
  refine TrC.take rfl (step_assign rfl rfl rfl) ?_   -- 5
  refine TrC.doneD rfl ?_
  refine AT.ret ?_
  exact Ret.one rfl (ResR.tmp rfl (conv_b (by unfold marked; rw [Bool.eq_iff_iff]; simp [mk])))

theorem C38 (a b : Ace) : Has Try.prog 38 [encA a, encA b] (.b (decide (a = b))) := by   -- burgage/acl.Same$1
  refine Has.intro 8 Try.func38 (by kernel_rfl) rfl rfl fun w ok => ?_
  refine AT.seq ?_
  refine AT.region ?_   -- region 0 acl.go:164
  refine TrC.take rfl (step_box rfl rfl rfl rfl rfl rfl rfl) ?_   -- 0
  refine TrC.take rfl (step_box rfl rfl rfl rfl rfl rfl rfl) ?_   -- 1
  refine TrC.take rfl (step_assign rfl rfl rfl) ?_   -- 2
  refine TrC.done ?_
  refine AT.seq ?_
  refine AT.region ?_   -- region 1 acl.go:164
  refine TrC.take rfl (step_loadPN rfl rfl rfl ty31 rfl rfl rfl) ?_   -- 0
  refine TrC.take rfl (step_loadPN rfl rfl rfl ty31 rfl rfl rfl) ?_   -- 1
  refine TrC.take rfl (step_eqa rfl rfl rfl rfl rfl ty31 eg31 (eq31 _ _ _ _ _ _ _ _ _ _) rfl) ?_   -- 2
  refine TrC.take rfl (step_assign rfl rfl rfl) ?_   -- 3
  refine TrC.done ?_
  refine AT.ret ?_
  exact Ret.one rfl (ResR.tmp rfl (conv_b (by rw [Bool.eq_iff_iff]; cases a; cases b; simp)))

theorem C46 (a : Ace) (who owner : Int) : Has Try.prog 46 [encA a, .i who, .i owner] (.b (counts a who owner)) := by   -- burgage/burgageref02.counts
  refine Has.intro 36 Try.func46 (by kernel_rfl) rfl rfl fun w ok => ?_
  refine AT.seq ?_
  refine AT.region ?_   -- region 0 ref.go:32
  refine TrC.take rfl (step_box rfl rfl rfl rfl rfl rfl rfl) ?_   -- 0
  refine TrC.take rfl (step_assign rfl rfl rfl) ?_   -- 1
  refine TrC.done ?_
  refine AT.seq ?_
  refine AT.region ?_   -- region 1 ref.go:33
  refine TrC.take rfl (step_fieldAddrP rfl rfl fd31_3 rfl rfl) ?_   -- 0
  refine TrC.take rfl (step_loadP1 rfl rfl rfl ty3 rfl rfl) ?_   -- 1
  refine TrC.take rfl (step_bin rfl rfl rfl rfl rfl) ?_   -- 2
  refine TrC.take rfl (step_move rfl rfl rfl) ?_   -- 3
  refine TrC.cases (d := 10) rfl (fun h10 => ?_) (fun h10 => ?_)
  · -- t10 = true
    refine TrC.skip ⟨_, _, rfl, rfl, rfl⟩ ?_   -- 4
    refine TrC.skip ⟨_, _, rfl, rfl, rfl⟩ ?_   -- 5
    refine TrC.skip ⟨_, _, rfl, rfl, rfl⟩ ?_   -- 6
    refine TrC.take rfl (step_pick rfl rfl rfl rfl) ?_   -- 7
    refine TrC.take rfl (step_move rfl rfl rfl) ?_   -- 8
    refine TrC.take ⟨_, _, rfl, rfl, rfl⟩ (step_fieldAddrP rfl rfl fd31_0 rfl rfl) ?_   -- 9
    refine TrC.take ⟨_, _, rfl, rfl, rfl⟩ (step_loadP1 rfl rfl rfl ty3 rfl rfl) ?_   -- 10
    refine TrC.take ⟨_, _, rfl, rfl, rfl⟩ (step_move rfl rfl rfl) ?_   -- 11
    refine TrC.take ⟨_, _, rfl, rfl, rfl⟩ (step_bin rfl rfl rfl rfl rfl) ?_   -- 12
    refine TrC.take ⟨_, _, rfl, rfl, rfl⟩ (step_move rfl rfl rfl) ?_   -- 13
    refine TrC.cases (d := 20) rfl (fun h20 => ?_) (fun h20 => ?_)
    · -- t20 = true
      refine TrC.skip ⟨_, _, rfl, rfl, rfl⟩ ?_   -- 14
      refine TrC.skip ⟨_, _, rfl, rfl, rfl⟩ ?_   -- 15
      refine TrC.skip ⟨_, _, rfl, rfl, rfl⟩ ?_   -- 16
      refine TrC.take ⟨_, _, rfl, rfl, rfl⟩ (step_pick rfl rfl rfl rfl) ?_   -- 17
      refine TrC.take ⟨_, _, rfl, rfl, rfl⟩ (step_move rfl rfl rfl) ?_   -- 18
      refine TrC.skip ⟨_, _, rfl, rfl, rfl⟩ ?_   -- 19
      refine TrC.skip ⟨_, _, rfl, rfl, rfl⟩ ?_   -- 20
      refine TrC.skip ⟨_, _, rfl, rfl, rfl⟩ ?_   -- 21
      refine TrC.skip ⟨_, _, rfl, rfl, rfl⟩ ?_   -- 22
      refine TrC.skip ⟨_, _, rfl, rfl, rfl⟩ ?_   -- 23
      refine TrC.skip ⟨_, _, rfl, rfl, rfl⟩ ?_   -- 24
      refine TrC.skip ⟨_, _, rfl, rfl, rfl⟩ ?_   -- 25
      refine TrC.skip ⟨_, _, rfl, rfl, rfl⟩ ?_   -- 26
      refine TrC.take ⟨_, _, rfl, rfl, rfl⟩ (step_pick rfl rfl rfl rfl) ?_   -- 27
      refine TrC.take rfl (step_pick rfl rfl rfl rfl) ?_   -- 28
      refine TrC.take rfl (step_assign rfl rfl rfl) ?_   -- 29
      refine TrC.done ?_
      refine AT.ret ?_
      exact Ret.one rfl (ResR.tmp rfl (conv_b (by first | (simp_all [counts]; done) | (simp_all [counts] <;> intros <;> omega) | (rw [Bool.eq_iff_iff]; simp_all [counts]; done) | (rw [Bool.eq_iff_iff]; simp_all [counts] <;> omega))))
    · -- t20 = false
      refine TrC.take ⟨_, _, rfl, rfl, rfl⟩ (step_fieldAddrP rfl rfl fd31_0 rfl rfl) ?_   -- 14
      refine TrC.take ⟨_, _, rfl, rfl, rfl⟩ (step_loadP1 rfl rfl rfl ty3 rfl rfl) ?_   -- 15
      refine TrC.take ⟨_, _, rfl, rfl, rfl⟩ (step_bin rfl rfl rfl rfl rfl) ?_   -- 16
      refine TrC.take ⟨_, _, rfl, rfl, rfl⟩ (step_pick rfl rfl rfl rfl) ?_   -- 17
      refine TrC.take ⟨_, _, rfl, rfl, rfl⟩ (step_move rfl rfl rfl) ?_   -- 18
      refine TrC.cases (d := 25) rfl (fun h25 => ?_) (fun h25 => ?_)
      · -- t25 = true
        refine TrC.skip ⟨_, _, rfl, rfl, rfl⟩ ?_   -- 19
        refine TrC.skip ⟨_, _, rfl, rfl, rfl⟩ ?_   -- 20
        refine TrC.skip ⟨_, _, rfl, rfl, rfl⟩ ?_   -- 21
        refine TrC.skip ⟨_, _, rfl, rfl, rfl⟩ ?_   -- 22
        refine TrC.skip ⟨_, _, rfl, rfl, rfl⟩ ?_   -- 23
        refine TrC.skip ⟨_, _, rfl, rfl, rfl⟩ ?_   -- 24
        refine TrC.skip ⟨_, _, rfl, rfl, rfl⟩ ?_   -- 25
        refine TrC.skip ⟨_, _, rfl, rfl, rfl⟩ ?_   -- 26
        refine TrC.take ⟨_, _, rfl, rfl, rfl⟩ (step_pick rfl rfl rfl rfl) ?_   -- 27
        refine TrC.take rfl (step_pick rfl rfl rfl rfl) ?_   -- 28
        refine TrC.take rfl (step_assign rfl rfl rfl) ?_   -- 29
        refine TrC.done ?_
        refine AT.ret ?_
        exact Ret.one rfl (ResR.tmp rfl (conv_b (by first | (simp_all [counts]; done) | (simp_all [counts] <;> intros <;> omega) | (rw [Bool.eq_iff_iff]; simp_all [counts]; done) | (rw [Bool.eq_iff_iff]; simp_all [counts] <;> omega))))
      · -- t25 = false
        refine TrC.take ⟨_, _, rfl, rfl, rfl⟩ (step_fieldAddrP rfl rfl fd31_0 rfl rfl) ?_   -- 19
        refine TrC.take ⟨_, _, rfl, rfl, rfl⟩ (step_loadP1 rfl rfl rfl ty3 rfl rfl) ?_   -- 20
        refine TrC.take ⟨_, _, rfl, rfl, rfl⟩ (step_bin rfl rfl rfl rfl rfl) ?_   -- 21
        refine TrC.take ⟨_, _, rfl, rfl, rfl⟩ (step_move rfl rfl rfl) ?_   -- 22
        refine TrC.cases (d := 29) rfl (fun h29 => ?_) (fun h29 => ?_)
        · -- t29 = true
          refine TrC.take ⟨_, _, rfl, rfl, rfl⟩ (step_move rfl rfl rfl) ?_   -- 23
          refine TrC.take ⟨_, _, rfl, rfl, rfl⟩ (step_move rfl rfl rfl) ?_   -- 24
          refine TrC.take ⟨_, _, rfl, rfl, rfl⟩ (step_bin rfl rfl rfl rfl rfl) ?_   -- 25
          refine TrC.take ⟨_, _, rfl, rfl, rfl⟩ (step_pick rfl rfl rfl rfl) ?_   -- 26
          refine TrC.take ⟨_, _, rfl, rfl, rfl⟩ (step_pick rfl rfl rfl rfl) ?_   -- 27
          refine TrC.take rfl (step_pick rfl rfl rfl rfl) ?_   -- 28
          refine TrC.take rfl (step_assign rfl rfl rfl) ?_   -- 29
          refine TrC.done ?_
          refine AT.ret ?_
          exact Ret.one rfl (ResR.tmp rfl (conv_b (by first | (simp_all [counts]; done) | (simp_all [counts] <;> intros <;> omega) | (rw [Bool.eq_iff_iff]; simp_all [counts]; done) | (rw [Bool.eq_iff_iff]; simp_all [counts] <;> omega))))
        · -- t29 = false
          refine TrC.skip ⟨_, _, rfl, rfl, rfl⟩ ?_   -- 23
          refine TrC.skip ⟨_, _, rfl, rfl, rfl⟩ ?_   -- 24
          refine TrC.skip ⟨_, _, rfl, rfl, rfl⟩ ?_   -- 25
          refine TrC.take ⟨_, _, rfl, rfl, rfl⟩ (step_pick rfl rfl rfl rfl) ?_   -- 26
          refine TrC.take ⟨_, _, rfl, rfl, rfl⟩ (step_pick rfl rfl rfl rfl) ?_   -- 27
          refine TrC.take rfl (step_pick rfl rfl rfl rfl) ?_   -- 28
          refine TrC.take rfl (step_assign rfl rfl rfl) ?_   -- 29
          refine TrC.done ?_
          refine AT.ret ?_
          exact Ret.one rfl (ResR.tmp rfl (conv_b (by first | (simp_all [counts]; done) | (simp_all [counts] <;> intros <;> omega) | (rw [Bool.eq_iff_iff]; simp_all [counts]; done) | (rw [Bool.eq_iff_iff]; simp_all [counts] <;> omega))))
  · -- t10 = false
    refine TrC.take ⟨_, _, rfl, rfl, rfl⟩ (step_fieldAddrP rfl rfl fd31_3 rfl rfl) ?_   -- 4
    refine TrC.take ⟨_, _, rfl, rfl, rfl⟩ (step_loadP1 rfl rfl rfl ty3 rfl rfl) ?_   -- 5
    refine TrC.take ⟨_, _, rfl, rfl, rfl⟩ (step_bin rfl rfl rfl rfl rfl) ?_   -- 6
    refine TrC.take rfl (step_pick rfl rfl rfl rfl) ?_   -- 7
    refine TrC.take rfl (step_move rfl rfl rfl) ?_   -- 8
    refine TrC.cases (d := 15) rfl (fun h15 => ?_) (fun h15 => ?_)
    · -- t15 = true
      refine TrC.take ⟨_, _, rfl, rfl, rfl⟩ (step_fieldAddrP rfl rfl fd31_0 rfl rfl) ?_   -- 9
      refine TrC.take ⟨_, _, rfl, rfl, rfl⟩ (step_loadP1 rfl rfl rfl ty3 rfl rfl) ?_   -- 10
      refine TrC.take ⟨_, _, rfl, rfl, rfl⟩ (step_move rfl rfl rfl) ?_   -- 11
      refine TrC.take ⟨_, _, rfl, rfl, rfl⟩ (step_bin rfl rfl rfl rfl rfl) ?_   -- 12
      refine TrC.take ⟨_, _, rfl, rfl, rfl⟩ (step_move rfl rfl rfl) ?_   -- 13
      refine TrC.cases (d := 20) rfl (fun h20 => ?_) (fun h20 => ?_)
      · -- t20 = true
        refine TrC.skip ⟨_, _, rfl, rfl, rfl⟩ ?_   -- 14
        refine TrC.skip ⟨_, _, rfl, rfl, rfl⟩ ?_   -- 15
        refine TrC.skip ⟨_, _, rfl, rfl, rfl⟩ ?_   -- 16
        refine TrC.take ⟨_, _, rfl, rfl, rfl⟩ (step_pick rfl rfl rfl rfl) ?_   -- 17
        refine TrC.take ⟨_, _, rfl, rfl, rfl⟩ (step_move rfl rfl rfl) ?_   -- 18
        refine TrC.skip ⟨_, _, rfl, rfl, rfl⟩ ?_   -- 19
        refine TrC.skip ⟨_, _, rfl, rfl, rfl⟩ ?_   -- 20
        refine TrC.skip ⟨_, _, rfl, rfl, rfl⟩ ?_   -- 21
        refine TrC.skip ⟨_, _, rfl, rfl, rfl⟩ ?_   -- 22
        refine TrC.skip ⟨_, _, rfl, rfl, rfl⟩ ?_   -- 23
        refine TrC.skip ⟨_, _, rfl, rfl, rfl⟩ ?_   -- 24
        refine TrC.skip ⟨_, _, rfl, rfl, rfl⟩ ?_   -- 25
        refine TrC.skip ⟨_, _, rfl, rfl, rfl⟩ ?_   -- 26
        refine TrC.take ⟨_, _, rfl, rfl, rfl⟩ (step_pick rfl rfl rfl rfl) ?_   -- 27
        refine TrC.take rfl (step_pick rfl rfl rfl rfl) ?_   -- 28
        refine TrC.take rfl (step_assign rfl rfl rfl) ?_   -- 29
        refine TrC.done ?_
        refine AT.ret ?_
        exact Ret.one rfl (ResR.tmp rfl (conv_b (by first | (simp_all [counts]; done) | (simp_all [counts] <;> intros <;> omega) | (rw [Bool.eq_iff_iff]; simp_all [counts]; done) | (rw [Bool.eq_iff_iff]; simp_all [counts] <;> omega))))
      · -- t20 = false
        refine TrC.take ⟨_, _, rfl, rfl, rfl⟩ (step_fieldAddrP rfl rfl fd31_0 rfl rfl) ?_   -- 14
        refine TrC.take ⟨_, _, rfl, rfl, rfl⟩ (step_loadP1 rfl rfl rfl ty3 rfl rfl) ?_   -- 15
        refine TrC.take ⟨_, _, rfl, rfl, rfl⟩ (step_bin rfl rfl rfl rfl rfl) ?_   -- 16
        refine TrC.take ⟨_, _, rfl, rfl, rfl⟩ (step_pick rfl rfl rfl rfl) ?_   -- 17
        refine TrC.take ⟨_, _, rfl, rfl, rfl⟩ (step_move rfl rfl rfl) ?_   -- 18
        refine TrC.cases (d := 25) rfl (fun h25 => ?_) (fun h25 => ?_)
        · -- t25 = true
          refine TrC.skip ⟨_, _, rfl, rfl, rfl⟩ ?_   -- 19
          refine TrC.skip ⟨_, _, rfl, rfl, rfl⟩ ?_   -- 20
          refine TrC.skip ⟨_, _, rfl, rfl, rfl⟩ ?_   -- 21
          refine TrC.skip ⟨_, _, rfl, rfl, rfl⟩ ?_   -- 22
          refine TrC.skip ⟨_, _, rfl, rfl, rfl⟩ ?_   -- 23
          refine TrC.skip ⟨_, _, rfl, rfl, rfl⟩ ?_   -- 24
          refine TrC.skip ⟨_, _, rfl, rfl, rfl⟩ ?_   -- 25
          refine TrC.skip ⟨_, _, rfl, rfl, rfl⟩ ?_   -- 26
          refine TrC.take ⟨_, _, rfl, rfl, rfl⟩ (step_pick rfl rfl rfl rfl) ?_   -- 27
          refine TrC.take rfl (step_pick rfl rfl rfl rfl) ?_   -- 28
          refine TrC.take rfl (step_assign rfl rfl rfl) ?_   -- 29
          refine TrC.done ?_
          refine AT.ret ?_
          exact Ret.one rfl (ResR.tmp rfl (conv_b (by first | (simp_all [counts]; done) | (simp_all [counts] <;> intros <;> omega) | (rw [Bool.eq_iff_iff]; simp_all [counts]; done) | (rw [Bool.eq_iff_iff]; simp_all [counts] <;> omega))))
        · -- t25 = false
          refine TrC.take ⟨_, _, rfl, rfl, rfl⟩ (step_fieldAddrP rfl rfl fd31_0 rfl rfl) ?_   -- 19
          refine TrC.take ⟨_, _, rfl, rfl, rfl⟩ (step_loadP1 rfl rfl rfl ty3 rfl rfl) ?_   -- 20
          refine TrC.take ⟨_, _, rfl, rfl, rfl⟩ (step_bin rfl rfl rfl rfl rfl) ?_   -- 21
          refine TrC.take ⟨_, _, rfl, rfl, rfl⟩ (step_move rfl rfl rfl) ?_   -- 22
          refine TrC.cases (d := 29) rfl (fun h29 => ?_) (fun h29 => ?_)
          · -- t29 = true
            refine TrC.take ⟨_, _, rfl, rfl, rfl⟩ (step_move rfl rfl rfl) ?_   -- 23
            refine TrC.take ⟨_, _, rfl, rfl, rfl⟩ (step_move rfl rfl rfl) ?_   -- 24
            refine TrC.take ⟨_, _, rfl, rfl, rfl⟩ (step_bin rfl rfl rfl rfl rfl) ?_   -- 25
            refine TrC.take ⟨_, _, rfl, rfl, rfl⟩ (step_pick rfl rfl rfl rfl) ?_   -- 26
            refine TrC.take ⟨_, _, rfl, rfl, rfl⟩ (step_pick rfl rfl rfl rfl) ?_   -- 27
            refine TrC.take rfl (step_pick rfl rfl rfl rfl) ?_   -- 28
            refine TrC.take rfl (step_assign rfl rfl rfl) ?_   -- 29
            refine TrC.done ?_
            refine AT.ret ?_
            exact Ret.one rfl (ResR.tmp rfl (conv_b (by first | (simp_all [counts]; done) | (simp_all [counts] <;> intros <;> omega) | (rw [Bool.eq_iff_iff]; simp_all [counts]; done) | (rw [Bool.eq_iff_iff]; simp_all [counts] <;> omega))))
          · -- t29 = false
            refine TrC.skip ⟨_, _, rfl, rfl, rfl⟩ ?_   -- 23
            refine TrC.skip ⟨_, _, rfl, rfl, rfl⟩ ?_   -- 24
            refine TrC.skip ⟨_, _, rfl, rfl, rfl⟩ ?_   -- 25
            refine TrC.take ⟨_, _, rfl, rfl, rfl⟩ (step_pick rfl rfl rfl rfl) ?_   -- 26
            refine TrC.take ⟨_, _, rfl, rfl, rfl⟩ (step_pick rfl rfl rfl rfl) ?_   -- 27
            refine TrC.take rfl (step_pick rfl rfl rfl rfl) ?_   -- 28
            refine TrC.take rfl (step_assign rfl rfl rfl) ?_   -- 29
            refine TrC.done ?_
            refine AT.ret ?_
            exact Ret.one rfl (ResR.tmp rfl (conv_b (by first | (simp_all [counts]; done) | (simp_all [counts] <;> intros <;> omega) | (rw [Bool.eq_iff_iff]; simp_all [counts]; done) | (rw [Bool.eq_iff_iff]; simp_all [counts] <;> omega))))
    · -- t15 = false
      refine TrC.skip ⟨_, _, rfl, rfl, rfl⟩ ?_   -- 9
      refine TrC.skip ⟨_, _, rfl, rfl, rfl⟩ ?_   -- 10
      refine TrC.skip ⟨_, _, rfl, rfl, rfl⟩ ?_   -- 11
      refine TrC.skip ⟨_, _, rfl, rfl, rfl⟩ ?_   -- 12
      refine TrC.skip ⟨_, _, rfl, rfl, rfl⟩ ?_   -- 13
      refine TrC.skip ⟨_, _, rfl, rfl, rfl⟩ ?_   -- 14
      refine TrC.skip ⟨_, _, rfl, rfl, rfl⟩ ?_   -- 15
      refine TrC.skip ⟨_, _, rfl, rfl, rfl⟩ ?_   -- 16
      refine TrC.skip ⟨_, _, rfl, rfl, rfl⟩ ?_   -- 17
      refine TrC.skip ⟨_, _, rfl, rfl, rfl⟩ ?_   -- 18
      refine TrC.skip ⟨_, _, rfl, rfl, rfl⟩ ?_   -- 19
      refine TrC.skip ⟨_, _, rfl, rfl, rfl⟩ ?_   -- 20
      refine TrC.skip ⟨_, _, rfl, rfl, rfl⟩ ?_   -- 21
      refine TrC.skip ⟨_, _, rfl, rfl, rfl⟩ ?_   -- 22
      refine TrC.skip ⟨_, _, rfl, rfl, rfl⟩ ?_   -- 23
      refine TrC.skip ⟨_, _, rfl, rfl, rfl⟩ ?_   -- 24
      refine TrC.skip ⟨_, _, rfl, rfl, rfl⟩ ?_   -- 25
      refine TrC.skip ⟨_, _, rfl, rfl, rfl⟩ ?_   -- 26
      refine TrC.skip ⟨_, _, rfl, rfl, rfl⟩ ?_   -- 27
      refine TrC.take rfl (step_pick rfl rfl rfl rfl) ?_   -- 28
      refine TrC.take rfl (step_assign rfl rfl rfl) ?_   -- 29
      refine TrC.done ?_
      refine AT.ret ?_
      exact Ret.one rfl (ResR.tmp rfl (conv_b (by first | (simp_all [counts]; done) | (simp_all [counts] <;> intros <;> omega) | (rw [Bool.eq_iff_iff]; simp_all [counts]; done) | (rw [Bool.eq_iff_iff]; simp_all [counts] <;> omega))))

end Go.Proofs.Ytgblfhobiibeaaa.Acl

/- Contracts of functions of this translation. Printed by wip/tools/gen.py out of wip/acl/ann.py. No condition. -/
set_option linter.unusedVariables false
set_option linter.unusedSimpArgs false
namespace Go.Proofs.Ytgblfhobiibeaaa.Acl
open Go.Proofs.Ytgblfhobiibeaaa.Abs
set_option maxRecDepth 100000
set_option maxHeartbeats 4000000
theorem C31 (l : List Ace) (e : Ace) (hl : l.length ≤ 1000000) : Has Try.prog 31 [.slice 5 (l.map encA), encA e] (.i (at' l e)) := by   -- burgage/burgageref02.At
  refine Has.intro 23 Try.func31 (by kernel_rfl) rfl rfl fun w ok => ?_
  refine AT.seq ?_
  refine AT.region ?_   -- region 0 ref.go:103
  refine TrC.take rfl (step_box rfl rfl rfl rfl rfl rfl rfl) ?_   -- 0
  refine TrC.take rfl (step_assign rfl rfl rfl) ?_   -- 1
  refine TrC.done ?_
  refine AT.seq ?_
  refine AT.seq ?_
  refine AT.region ?_   -- region 1 ref.go:104
  refine TrC.take rfl (step_assign rfl rfl rfl) ?_   -- 0
  refine TrC.done ?_
  refine AT.block ?_   -- block 0
  refine AT.loopP (fun i : Nat => i ≤ l.length ∧ ∀ j (h : j < l.length), j < i → marked l[j] e = false) (fun i => mkS [(0, .t (.slice 5 (l.map encA))), (3, .p 3 0), (5, .t (.i i))] [(3, .box 31 [.t (.i e.who), .t (.b e.al), .t (.i e.rt), .t (.i e.rc), .t (.b e.gv)])]) (fun i => l.length - i) (0) (⟨by omega, fun j h hj => by omega⟩) (fun a w hs => Sat.wk [] (.cons (.t (.refl _)) (.cons (.p rfl) (.cons (.t (.refl _)) (.nil)))) (.cons rfl (.box (.cons (.t (.refl _)) (.cons (.t (.refl _)) (.cons (.t (.refl _)) (.cons (.t (.refl _)) (.cons (.t (.refl _)) (.nil))))))) (.nil)) rfl rfl a w hs) (fun ix hix => ?_)
  obtain ⟨hi, hpre⟩ := hix
  refine AT.seq ?_
  refine AT.seq ?_
  refine AT.region ?_   -- region 2 ref.go:104
  refine TrC.take rfl (step_move rfl rfl rfl) ?_   -- 0
  refine TrC.take rfl (step_move rfl rfl rfl) ?_   -- 1
  refine TrC.take rfl (step_lenT (rt := 0) rfl rfl sl22 rfl) ?_   -- 2
  refine TrC.take rfl (step_bin rfl rfl rfl rfl rfl) ?_   -- 3
  refine TrC.done ?_
  refine AT.cond rfl (fun h9 => ?_) (fun h9 => ?_)   -- t9
  · -- true
    have hlt : ix < l.length := by simpa using h9
    refine Exists.elim (show ∃ a, a = l[ix] from ⟨_, rfl⟩) (fun a ha => ?_)
    have hget : (l.map encA)[ix]? = some (.agg [.i a.who, .b a.al, .i a.rt, .i a.rc, .b a.gv]) := by rw [List.getElem?_map, List.getElem?_eq_getElem hlt, ha]; rfl
    refine AT.skip ?_
    refine AT.seq ?_
    refine AT.block ?_   -- block 1
    refine AT.seq ?_
    refine AT.regionD mixed rfl ?_   -- region 4 ref.go:105
    refine TrC.take rfl (step_move rfl rfl rfl) ?_   -- 0
    refine TrC.take rfl (step_move rfl rfl rfl) ?_   -- 1
    refine TrC.take rfl (step_indexAddrT (v := .agg [.i a.who, .b a.al, .i a.rt, .i a.rc, .b a.gv]) rfl rfl rfl sl22 (by omega) (by first | exact hget | simpa using hget) rfl rfl) ?_   -- 2
    refine TrC.take rfl (step_loadTN rfl rfl ty31 rfl rfl) ?_   -- 3
    refine TrC.take rfl (step_loadPN rfl rfl rfl ty31 rfl rfl rfl) ?_   -- 4
    refine TrC.take rfl (step_call0 rfl rfl (C32 a e) rfl) ?_   -- 5
    refine TrC.doneD rfl ?_
    refine AT.cond rfl (fun h17 => ?_) (fun h17 => ?_)   -- t17
    · -- true
      have hr : at' l e = a.rt := by unfold at'; rw [find_found hlt (by rw [← ha]; exact h17) hpre, ha]
      refine AT.seq ?_
      refine AT.region ?_   -- region 5 ref.go:106
      refine TrC.take rfl (step_move rfl rfl rfl) ?_   -- 0
      refine TrC.take rfl (step_move rfl rfl rfl) ?_   -- 1
      refine TrC.take rfl (step_indexAddrT (v := .agg [.i a.who, .b a.al, .i a.rt, .i a.rc, .b a.gv]) rfl rfl rfl sl22 (by omega) (by first | exact hget | simpa using hget) rfl rfl) ?_   -- 2
      refine TrC.take rfl (step_fieldAddrT rfl rfl fd31_2 rfl rfl rfl) ?_   -- 3
      refine TrC.take rfl (step_loadT1 rfl rfl ty3 rfl rfl) ?_   -- 4
      refine TrC.take rfl (step_assign rfl rfl rfl) ?_   -- 5
      refine TrC.done ?_
      refine AT.ret ?_
      exact Ret.one rfl (ResR.tmp rfl (conv_i hr.symm))
    · -- false
      refine AT.skip ?_
      refine AT.region ?_   -- region 3 ref.go:104
      refine TrC.take rfl (step_move rfl rfl rfl) ?_   -- 0
      refine TrC.take rfl (step_addI rfl rfl rfl (by first | omega | (simp; done) | (simp; omega)) (by first | omega | (simp; done) | (simp; omega)) rfl) ?_   -- 1
      refine TrC.take rfl (step_assign rfl rfl rfl) ?_   -- 2
      refine TrC.done ?_
      exact ⟨ix + 1, ⟨by omega, fun j hj hji => by
        by_cases he : j = ix
        · subst he; exact ha ▸ h17
        · exact hpre j hj (by omega)⟩, by show l.length - (ix + 1) < l.length - ix; omega, Sat.wk [] (.cons (.t (.refl _)) (.cons (.p rfl) (.cons (.t (conv_i (by simp))) (.nil)))) (.cons rfl (.box (.cons (.t (.refl _)) (.cons (.t (.refl _)) (.cons (.t (.refl _)) (.cons (.t (.refl _)) (.cons (.t (.refl _)) (.nil))))))) (.nil)) rfl rfl⟩
  · -- false
    have hge : ¬ ix < l.length := by simpa using h9
    have hr : at' l e = 0 := by unfold at'; rw [find_no (fun j hj => hpre j hj (by omega))]
    refine AT.exit (Or.inl ⟨rfl, ?_⟩)   -- exit 0
    refine AT.seq ?_
    refine AT.region ?_   -- region 6 ref.go:109
    refine TrC.take rfl (step_assign rfl rfl rfl) ?_   -- 0
    refine TrC.done ?_
    refine AT.ret ?_
    exact Ret.one rfl (ResR.tmp rfl (conv_i hr.symm))

theorem C30 (l : List Ace) (g : Bool) (hl : l.length ≤ 1000000) : HasOwn Try.prog 30 [.slice 5 (l.map encA), .b g] 31 5 ((own l g).map encA) := by   -- burgage/burgageref02.Own
  refine HasOwn.intro 29 Try.func30 (by kernel_rfl) rfl rfl fun w ok => ?_
  refine AT.seq ?_
  refine AT.region ?_   -- region 0 ref.go:87
  refine TrC.take rfl (step_assignN (sz := 5) rfl rfl) ?_   -- 0
  refine TrC.done ?_
  refine AT.seq ?_
  refine AT.region ?_   -- region 1 ref.go:88
  refine TrC.take rfl (step_buildSliceH rfl rfl sl22 ze31 rfl rfl rfl rfl rfl rfl rfl rfl rfl rfl rfl rfl rfl) ?_   -- 0
  refine TrC.take rfl (step_assign rfl rfl rfl) ?_   -- 1
  refine TrC.done ?_
  refine AT.seq ?_
  refine AT.seq ?_
  refine AT.region ?_   -- region 2 ref.go:89
  refine TrC.take rfl (step_assign rfl rfl rfl) ?_   -- 0
  refine TrC.done ?_
  refine AT.block ?_   -- block 0
  refine AT.loopP (fun i : Nat => i ≤ l.length) (fun i => mkS [(0, .t (.slice 5 (l.map encA))), (1, .t (.b g)), (5, .h 50), (6, .t (.i i))] [(50, .row 31 5 ((own (l.take i) g).map encA))]) (fun i => l.length - i) (0) (Nat.zero_le _) (fun a w hs => Sat.wk [(50, 7)] (.cons (.t (.refl _)) (.cons (.t (.refl _)) (.cons (.h (j := 50) rfl) (.cons (.t (.refl _)) (.nil))))) (.cons rfl (.row rfl) (.nil)) rfl rfl a w hs) (fun ix hix => ?_)
  refine AT.seq ?_
  refine AT.seq ?_
  refine AT.region ?_   -- region 3 ref.go:89
  refine TrC.take rfl (step_move rfl rfl rfl) ?_   -- 0
  refine TrC.take rfl (step_move rfl rfl rfl) ?_   -- 1
  refine TrC.take rfl (step_lenT (rt := 0) rfl rfl sl22 rfl) ?_   -- 2
  refine TrC.take rfl (step_bin rfl rfl rfl rfl rfl) ?_   -- 3
  refine TrC.done ?_
  refine AT.cond rfl (fun h11 => ?_) (fun h11 => ?_)   -- t11
  · -- true
    have hlt : ix < l.length := by simpa using h11
    refine Exists.elim (show ∃ a, a = l[ix] from ⟨_, rfl⟩) (fun a ha => ?_)
    have hget : (l.map encA)[ix]? = some (.agg [.i a.who, .b a.al, .i a.rt, .i a.rc, .b a.gv]) := by rw [List.getElem?_map, List.getElem?_eq_getElem hlt, ha]; rfl
    have hlen : (own (l.take ix) g).length ≤ 1000000 := by unfold own; have h1 := List.length_filter_le (fun a : Ace => a.gv == g) (l.take ix); have h2 := List.length_take_le ix l; omega
    refine AT.skip ?_
    refine AT.seq ?_
    refine AT.block ?_   -- block 1
    refine AT.seq ?_
    refine AT.region ?_   -- region 5 ref.go:90
    refine TrC.take rfl (step_move rfl rfl rfl) ?_   -- 0
    refine TrC.take rfl (step_move rfl rfl rfl) ?_   -- 1
    refine TrC.take rfl (step_indexAddrT (v := .agg [.i a.who, .b a.al, .i a.rt, .i a.rc, .b a.gv]) rfl rfl rfl sl22 (by omega) (by first | exact hget | simpa using hget) rfl rfl) ?_   -- 2
    refine TrC.take rfl (step_fieldAddrT rfl rfl fd31_4 rfl rfl rfl) ?_   -- 3
    refine TrC.take rfl (step_loadT1 rfl rfl ty4 rfl rfl) ?_   -- 4
    refine TrC.take rfl (step_move rfl rfl rfl) ?_   -- 5
    refine TrC.take rfl (step_eqbool rfl rfl rfl bo4 rfl) ?_   -- 6
    refine TrC.done ?_
    refine AT.cond rfl (fun h20 => ?_) (fun h20 => ?_)   -- t20
    · -- true
      refine AT.region ?_   -- region 6 ref.go:91
      refine TrC.take rfl (step_move rfl rfl rfl) ?_   -- 0
      refine TrC.take rfl (step_move rfl rfl rfl) ?_   -- 1
      refine TrC.take rfl (step_move rfl rfl rfl) ?_   -- 2
      refine TrC.take rfl (step_indexAddrT (v := .agg [.i a.who, .b a.al, .i a.rt, .i a.rc, .b a.gv]) rfl rfl rfl sl22 (by omega) (by first | exact hget | simpa using hget) rfl rfl) ?_   -- 3
      refine TrC.take rfl (step_loadTN rfl rfl ty31 rfl rfl) ?_   -- 4
      refine TrC.take rfl (step_buildSliceT rfl sl22 ze31 rfl rfl rfl rfl rfl rfl rfl rfl rfl rfl rfl rfl) ?_   -- 5
      refine TrC.take rfl (step_append rfl rfl rfl rfl rfl (.refl _) sl22 ze31 rfl rfl rfl (by first | (simp; done) | (simp; omega) | omega) rfl rfl) ?_   -- 6
      refine TrC.take rfl (step_assign rfl rfl rfl) ?_   -- 7
      refine TrC.done ?_
      refine AT.region ?_   -- region 4 ref.go:89
      refine TrC.take rfl (step_move rfl rfl rfl) ?_   -- 0
      refine TrC.take rfl (step_addI rfl rfl rfl (by first | omega | (simp; done) | (simp; omega)) (by first | omega | (simp; done) | (simp; omega)) rfl) ?_   -- 1
      refine TrC.take rfl (step_assign rfl rfl rfl) ?_   -- 2
      refine TrC.done ?_
      exact ⟨ix + 1, hlt, by show l.length - (ix + 1) < l.length - ix; omega, Sat.wk [(50, 27)] (.cons (.t (.refl _)) (.cons (.t (.refl _)) (.cons (.h (j := 50) rfl) (.cons (.t (conv_i (by simp))) (.nil))))) (.cons rfl (.row (by rw [take_snoc hlt]; simp [own, ← ha, h20, encA])) (.nil)) rfl rfl⟩
    · -- false
      refine AT.skip ?_
      refine AT.region ?_   -- region 4 ref.go:89
      refine TrC.take rfl (step_move rfl rfl rfl) ?_   -- 0
      refine TrC.take rfl (step_addI rfl rfl rfl (by first | omega | (simp; done) | (simp; omega)) (by first | omega | (simp; done) | (simp; omega)) rfl) ?_   -- 1
      refine TrC.take rfl (step_assign rfl rfl rfl) ?_   -- 2
      refine TrC.done ?_
      exact ⟨ix + 1, hlt, by show l.length - (ix + 1) < l.length - ix; omega, Sat.wk [] (.cons (.t (.refl _)) (.cons (.t (.refl _)) (.cons (.h rfl) (.cons (.t (conv_i (by simp))) (.nil))))) (.cons rfl (.row (by rw [take_snoc hlt]; simp [own, ← ha, h20])) (.nil)) rfl rfl⟩
  · -- false
    have hge : ¬ ix < l.length := by simpa using h11
    have hr : own (l.take ix) g = own l g := by rw [List.take_of_length_le (by omega)]
    refine AT.exit (Or.inl ⟨rfl, ?_⟩)   -- exit 0
    refine AT.seq ?_
    refine AT.region ?_   -- region 7 ref.go:94
    refine TrC.take rfl (step_move rfl rfl rfl) ?_   -- 0
    refine TrC.take rfl (step_assign rfl rfl rfl) ?_   -- 1
    refine TrC.done ?_
    refine AT.ret ?_
    exact ⟨_, _, rfl, rfl, by rw [← hr]; rfl⟩

theorem C36 (l : List Ace) (who owner r : Int) (hl : l.length ≤ 1000000) : Has Try.prog 36 [.slice 5 (l.map encA), .i who, .i owner, .i r] (.b (has l who owner r)) := by   -- burgage/burgageref02.has
  refine Has.intro 38 Try.func36 (by kernel_rfl) rfl rfl fun w ok => ?_
  refine AT.seq ?_
  refine AT.region ?_   -- region 0 ref.go:37
  refine TrC.take rfl (step_assign rfl rfl rfl) ?_   -- 0
  refine TrC.done ?_
  refine AT.seq ?_
  refine AT.seq ?_
  refine AT.region ?_   -- region 1 ref.go:38
  refine TrC.take rfl (step_assign rfl rfl rfl) ?_   -- 0
  refine TrC.done ?_
  refine AT.block ?_   -- block 0
  refine AT.loopP (fun i : Nat => i ≤ l.length ∧ ∀ j (h : j < l.length), j < i → hasP who owner r l[j] = false) (fun i => mkS [(0, .t (.slice 5 (l.map encA))), (1, .t (.i who)), (2, .t (.i owner)), (3, .t (.i r)), (9, .t (.i i))] []) (fun i => l.length - i) (0) (⟨by omega, fun j h hj => by omega⟩) (fun a w hs => Sat.wk [] (.cons (.t (.refl _)) (.cons (.t (.refl _)) (.cons (.t (.refl _)) (.cons (.t (.refl _)) (.cons (.t (.refl _)) (.nil)))))) (.nil) rfl rfl a w hs) (fun ix hix => ?_)
  obtain ⟨hi, hpre⟩ := hix
  refine AT.seq ?_
  refine AT.seq ?_
  refine AT.region ?_   -- region 2 ref.go:38
  refine TrC.take rfl (step_move rfl rfl rfl) ?_   -- 0
  refine TrC.take rfl (step_move rfl rfl rfl) ?_   -- 1
  refine TrC.take rfl (step_lenT (rt := 0) rfl rfl sl22 rfl) ?_   -- 2
  refine TrC.take rfl (step_bin rfl rfl rfl rfl rfl) ?_   -- 3
  refine TrC.done ?_
  refine AT.cond rfl (fun h13 => ?_) (fun h13 => ?_)   -- t13
  · -- true
    have hlt : ix < l.length := by simpa using h13
    refine Exists.elim (show ∃ a, a = l[ix] from ⟨_, rfl⟩) (fun a ha => ?_)
    have hget : (l.map encA)[ix]? = some (.agg [.i a.who, .b a.al, .i a.rt, .i a.rc, .b a.gv]) := by rw [List.getElem?_map, List.getElem?_eq_getElem hlt, ha]; rfl
    refine AT.skip ?_
    refine AT.seq ?_
    refine AT.block ?_   -- block 1
    refine AT.seq ?_
    refine AT.region ?_   -- region 4 ref.go:39
    refine TrC.take rfl (step_move rfl rfl rfl) ?_   -- 0
    refine TrC.take rfl (step_move rfl rfl rfl) ?_   -- 1
    refine TrC.take rfl (step_indexAddrT (v := .agg [.i a.who, .b a.al, .i a.rt, .i a.rc, .b a.gv]) rfl rfl rfl sl22 (by omega) (by first | exact hget | simpa using hget) rfl rfl) ?_   -- 2
    refine TrC.take rfl (step_loadTN rfl rfl ty31 rfl rfl) ?_   -- 3
    refine TrC.take rfl (step_move rfl rfl rfl) ?_   -- 4
    refine TrC.take rfl (step_move rfl rfl rfl) ?_   -- 5
    refine TrC.take rfl (step_call0 rfl rfl (C46 a who owner) rfl) ?_   -- 6
    refine TrC.take rfl (step_move rfl rfl rfl) ?_   -- 7
    refine TrC.cases (d := 23) rfl (fun h23 => ?_) (fun h23 => ?_)
    · -- t23 = true
      refine TrC.take ⟨_, _, rfl, rfl, rfl⟩ (step_move rfl rfl rfl) ?_   -- 8
      refine TrC.take ⟨_, _, rfl, rfl, rfl⟩ (step_move rfl rfl rfl) ?_   -- 9
      refine TrC.take ⟨_, _, rfl, rfl, rfl⟩ (step_indexAddrT (v := .agg [.i a.who, .b a.al, .i a.rt, .i a.rc, .b a.gv]) rfl rfl rfl sl22 (by omega) (by first | exact hget | simpa using hget) rfl rfl) ?_   -- 10
      refine TrC.take ⟨_, _, rfl, rfl, rfl⟩ (step_fieldAddrT rfl rfl fd31_2 rfl rfl rfl) ?_   -- 11
      refine TrC.take ⟨_, _, rfl, rfl, rfl⟩ (step_loadT1 rfl rfl ty3 rfl rfl) ?_   -- 12
      refine TrC.take ⟨_, _, rfl, rfl, rfl⟩ (step_move rfl rfl rfl) ?_   -- 13
      refine TrC.take ⟨_, _, rfl, rfl, rfl⟩ (step_bin rfl rfl rfl rfl rfl) ?_   -- 14
      refine TrC.take ⟨_, _, rfl, rfl, rfl⟩ (step_bin rfl rfl rfl rfl rfl) ?_   -- 15
      refine TrC.take rfl (step_pick rfl rfl rfl rfl) ?_   -- 16
      refine TrC.done ?_
      refine AT.cond rfl (fun h32 => ?_) (fun h32 => ?_)   -- t32
      · -- true
        have hr : has l who owner r = a.al := by
          have hp : hasP who owner r l[ix] = true := by rw [← ha]; unfold hasP; first | (simp_all [iAnd]; done) | (rw [Bool.eq_iff_iff]; simp_all [iAnd]; done)
          unfold has; rw [find_found hlt hp hpre, ha]
        refine AT.seq ?_
        refine AT.region ?_   -- region 5 ref.go:40
        refine TrC.take rfl (step_move rfl rfl rfl) ?_   -- 0
        refine TrC.take rfl (step_move rfl rfl rfl) ?_   -- 1
        refine TrC.take rfl (step_indexAddrT (v := .agg [.i a.who, .b a.al, .i a.rt, .i a.rc, .b a.gv]) rfl rfl rfl sl22 (by omega) (by first | exact hget | simpa using hget) rfl rfl) ?_   -- 2
        refine TrC.take rfl (step_fieldAddrT rfl rfl fd31_1 rfl rfl rfl) ?_   -- 3
        refine TrC.take rfl (step_loadT1 rfl rfl ty4 rfl rfl) ?_   -- 4
        refine TrC.take rfl (step_assign rfl rfl rfl) ?_   -- 5
        refine TrC.done ?_
        refine AT.ret ?_
        exact Ret.one rfl (ResR.tmp rfl (conv_b hr.symm))
      · -- false
        refine AT.skip ?_
        refine AT.region ?_   -- region 3 ref.go:38
        refine TrC.take rfl (step_move rfl rfl rfl) ?_   -- 0
        refine TrC.take rfl (step_addI rfl rfl rfl (by first | omega | (simp; done) | (simp; omega)) (by first | omega | (simp; done) | (simp; omega)) rfl) ?_   -- 1
        refine TrC.take rfl (step_assign rfl rfl rfl) ?_   -- 2
        refine TrC.done ?_
        exact ⟨ix + 1, ⟨by omega, fun j hj hji => by
          by_cases he : j = ix
          · subst he; rw [← ha]; unfold hasP; first | (simp_all [iAnd]; done) | (rw [Bool.eq_iff_iff]; simp_all [iAnd]; done)
          · exact hpre j hj (by omega)⟩, by show l.length - (ix + 1) < l.length - ix; omega, Sat.wk [] (.cons (.t (.refl _)) (.cons (.t (.refl _)) (.cons (.t (.refl _)) (.cons (.t (.refl _)) (.cons (.t (conv_i (by simp))) (.nil)))))) .nil rfl rfl⟩
    · -- t23 = false
      refine TrC.skip ⟨_, _, rfl, rfl, rfl⟩ ?_   -- 8
      refine TrC.skip ⟨_, _, rfl, rfl, rfl⟩ ?_   -- 9
      refine TrC.skip ⟨_, _, rfl, rfl, rfl⟩ ?_   -- 10
      refine TrC.skip ⟨_, _, rfl, rfl, rfl⟩ ?_   -- 11
      refine TrC.skip ⟨_, _, rfl, rfl, rfl⟩ ?_   -- 12
      refine TrC.skip ⟨_, _, rfl, rfl, rfl⟩ ?_   -- 13
      refine TrC.skip ⟨_, _, rfl, rfl, rfl⟩ ?_   -- 14
      refine TrC.skip ⟨_, _, rfl, rfl, rfl⟩ ?_   -- 15
      refine TrC.take rfl (step_pick rfl rfl rfl rfl) ?_   -- 16
      refine TrC.done ?_
      refine AT.condF rfl ?_   -- t32
      refine AT.skip ?_
      refine AT.region ?_   -- region 3 ref.go:38
      refine TrC.take rfl (step_move rfl rfl rfl) ?_   -- 0
      refine TrC.take rfl (step_addI rfl rfl rfl (by first | omega | (simp; done) | (simp; omega)) (by first | omega | (simp; done) | (simp; omega)) rfl) ?_   -- 1
      refine TrC.take rfl (step_assign rfl rfl rfl) ?_   -- 2
      refine TrC.done ?_
      exact ⟨ix + 1, ⟨by omega, fun j hj hji => by
        by_cases he : j = ix
        · subst he; rw [← ha]; unfold hasP; first | (simp_all [iAnd]; done) | (rw [Bool.eq_iff_iff]; simp_all [iAnd]; done)
        · exact hpre j hj (by omega)⟩, by show l.length - (ix + 1) < l.length - ix; omega, Sat.wk [] (.cons (.t (.refl _)) (.cons (.t (.refl _)) (.cons (.t (.refl _)) (.cons (.t (.refl _)) (.cons (.t (conv_i (by simp))) (.nil)))))) .nil rfl rfl⟩
  · -- false
    have hge : ¬ ix < l.length := by simpa using h13
    have hr : has l who owner r = false := by unfold has; rw [find_no (fun j hj => hpre j hj (by omega))]
    refine AT.exit (Or.inl ⟨rfl, ?_⟩)   -- exit 0
    refine AT.seq ?_
    refine AT.region ?_   -- region 6 ref.go:43
    refine TrC.take rfl (step_assign rfl rfl rfl) ?_   -- 0
    refine TrC.done ?_
    refine AT.ret ?_
    exact Ret.one rfl (ResR.tmp rfl (conv_b hr.symm))

theorem C16 (l : List Ace) (who owner : Int) (hl : l.length ≤ 1000000) : Has Try.prog 16 [.slice 5 (l.map encA), .i who, .i owner] (.i (rights l who owner)) := by   -- burgage/burgageref02.Rights
  refine Has.intro 35 Try.func16 (by kernel_rfl) rfl rfl fun w ok => ?_
  refine AT.seq ?_
  refine AT.region ?_   -- region 0 ref.go:47
  refine TrC.take rfl (step_assign rfl rfl rfl) ?_   -- 0
  refine TrC.done ?_
  refine AT.seq ?_
  refine AT.region ?_   -- region 1 ref.go:48
  refine TrC.take rfl (step_assign rfl rfl rfl) ?_   -- 0
  refine TrC.done ?_
  refine AT.seq ?_
  refine AT.seq ?_
  refine AT.region ?_   -- region 2 ref.go:49
  refine TrC.take rfl (step_assign rfl rfl rfl) ?_   -- 0
  refine TrC.done ?_
  refine AT.block ?_   -- block 0
  refine AT.loopP (fun i : Nat => i ≤ 4) (fun i => mkS [(0, .t (.slice 5 (l.map encA))), (1, .t (.i who)), (2, .t (.i owner)), (7, .t (.i (rsum l who owner i))), (8, .t (.i (pw i)))] []) (fun i => 4 - i) (0) (by omega) (fun a w hs => Sat.wk [] (.cons (.t (.refl _)) (.cons (.t (.refl _)) (.cons (.t (.refl _)) (.cons (.t (.refl _)) (.cons (.t (.refl _)) (.nil)))))) (.nil) rfl rfl a w hs) (fun ix hix => ?_)
  have hb1 := pw_bound ix
  have hb2 := rsum_bound l who owner ix hix
  refine AT.seq ?_
  refine AT.seq ?_
  refine AT.region ?_   -- region 3 ref.go:49
  refine TrC.take rfl (step_move rfl rfl rfl) ?_   -- 0
  refine TrC.take rfl (step_bin rfl rfl rfl rfl rfl) ?_   -- 1
  refine TrC.done ?_
  refine AT.cond rfl (fun h10 => ?_) (fun h10 => ?_)   -- t10
  · -- true
    have h4 : ix < 4 := pw_le hix (by simpa using h10)
    refine AT.skip ?_
    refine AT.seq ?_
    refine AT.block ?_   -- block 1
    refine AT.seqJ (mkS [(0, .t (.slice 5 (l.map encA))), (1, .t (.i who)), (2, .t (.i owner)), (7, .t (.i (rsum l who owner ix))), (8, .t (.i (pw ix))), (30, .t (.b (hasR l who owner (pw ix))))] []) ?_ ?_
    ·
      refine AT.region ?_   -- region 5 ref.go:50
      refine TrC.take rfl (step_move rfl rfl rfl) ?_   -- 0
      refine TrC.take rfl (step_move rfl rfl rfl) ?_   -- 1
      refine TrC.take rfl (step_move rfl rfl rfl) ?_   -- 2
      refine TrC.take rfl (step_move rfl rfl rfl) ?_   -- 3
      refine TrC.take rfl (step_call0 rfl rfl (C36 l who owner (pw ix) hl) rfl) ?_   -- 4
      refine TrC.take rfl (step_move rfl rfl rfl) ?_   -- 5
      refine TrC.cases (d := 18) rfl (fun h18 => ?_) (fun h18 => ?_)
      · -- t18 = true
        refine TrC.skip ⟨_, _, rfl, rfl, rfl⟩ ?_   -- 6
        refine TrC.skip ⟨_, _, rfl, rfl, rfl⟩ ?_   -- 7
        refine TrC.take rfl (step_pick rfl rfl rfl rfl) ?_   -- 8
        refine TrC.take rfl (step_move rfl rfl rfl) ?_   -- 9
        refine TrC.skip ⟨_, _, rfl, rfl, rfl⟩ ?_   -- 10
        refine TrC.skip ⟨_, _, rfl, rfl, rfl⟩ ?_   -- 11
        refine TrC.skip ⟨_, _, rfl, rfl, rfl⟩ ?_   -- 12
        refine TrC.skip ⟨_, _, rfl, rfl, rfl⟩ ?_   -- 13
        refine TrC.skip ⟨_, _, rfl, rfl, rfl⟩ ?_   -- 14
        refine TrC.skip ⟨_, _, rfl, rfl, rfl⟩ ?_   -- 15
        refine TrC.skip ⟨_, _, rfl, rfl, rfl⟩ ?_   -- 16
        refine TrC.take rfl (step_pick rfl rfl rfl rfl) ?_   -- 17
        refine TrC.done ?_
        exact Sat.wk [] (.cons (.t (.refl _)) (.cons (.t (.refl _)) (.cons (.t (.refl _)) (.cons (.t (.refl _)) (.cons (.t (.refl _)) (.cons (.t (conv_b (by unfold hasR; first | (simp_all; done) | (rw [Bool.eq_iff_iff]; simp_all; done)))) (.nil))))))) (.nil) rfl rfl
      · -- t18 = false
        refine TrC.take ⟨_, _, rfl, rfl, rfl⟩ (step_move rfl rfl rfl) ?_   -- 6
        refine TrC.take ⟨_, _, rfl, rfl, rfl⟩ (step_bin rfl rfl rfl rfl rfl) ?_   -- 7
        refine TrC.take rfl (step_pick rfl rfl rfl rfl) ?_   -- 8
        refine TrC.take rfl (step_move rfl rfl rfl) ?_   -- 9
        refine TrC.cases (d := 22) rfl (fun h22 => ?_) (fun h22 => ?_)
        · -- t22 = true
          refine TrC.skip ⟨_, _, rfl, rfl, rfl⟩ ?_   -- 10
          refine TrC.skip ⟨_, _, rfl, rfl, rfl⟩ ?_   -- 11
          refine TrC.skip ⟨_, _, rfl, rfl, rfl⟩ ?_   -- 12
          refine TrC.skip ⟨_, _, rfl, rfl, rfl⟩ ?_   -- 13
          refine TrC.skip ⟨_, _, rfl, rfl, rfl⟩ ?_   -- 14
          refine TrC.skip ⟨_, _, rfl, rfl, rfl⟩ ?_   -- 15
          refine TrC.skip ⟨_, _, rfl, rfl, rfl⟩ ?_   -- 16
          refine TrC.take rfl (step_pick rfl rfl rfl rfl) ?_   -- 17
          refine TrC.done ?_
          exact Sat.wk [] (.cons (.t (.refl _)) (.cons (.t (.refl _)) (.cons (.t (.refl _)) (.cons (.t (.refl _)) (.cons (.t (.refl _)) (.cons (.t (conv_b (by unfold hasR; first | (simp_all; done) | (rw [Bool.eq_iff_iff]; simp_all; done)))) (.nil))))))) (.nil) rfl rfl
        · -- t22 = false
          refine TrC.take ⟨_, _, rfl, rfl, rfl⟩ (step_move rfl rfl rfl) ?_   -- 10
          refine TrC.take ⟨_, _, rfl, rfl, rfl⟩ (step_bin rfl rfl rfl rfl rfl) ?_   -- 11
          refine TrC.take ⟨_, _, rfl, rfl, rfl⟩ (step_move rfl rfl rfl) ?_   -- 12
          refine TrC.cases (d := 25) rfl (fun h25 => ?_) (fun h25 => ?_)
          · -- t25 = true
            refine TrC.take ⟨_, _, rfl, rfl, rfl⟩ (step_move rfl rfl rfl) ?_   -- 13
            refine TrC.take ⟨_, _, rfl, rfl, rfl⟩ (step_move rfl rfl rfl) ?_   -- 14
            refine TrC.take ⟨_, _, rfl, rfl, rfl⟩ (step_bin rfl rfl rfl rfl rfl) ?_   -- 15
            refine TrC.take ⟨_, _, rfl, rfl, rfl⟩ (step_pick rfl rfl rfl rfl) ?_   -- 16
            refine TrC.take rfl (step_pick rfl rfl rfl rfl) ?_   -- 17
            refine TrC.done ?_
            exact Sat.wk [] (.cons (.t (.refl _)) (.cons (.t (.refl _)) (.cons (.t (.refl _)) (.cons (.t (.refl _)) (.cons (.t (.refl _)) (.cons (.t (conv_b (by unfold hasR; first | (simp_all; done) | (rw [Bool.eq_iff_iff]; simp_all; done)))) (.nil))))))) (.nil) rfl rfl
          · -- t25 = false
            refine TrC.skip ⟨_, _, rfl, rfl, rfl⟩ ?_   -- 13
            refine TrC.skip ⟨_, _, rfl, rfl, rfl⟩ ?_   -- 14
            refine TrC.skip ⟨_, _, rfl, rfl, rfl⟩ ?_   -- 15
            refine TrC.take ⟨_, _, rfl, rfl, rfl⟩ (step_pick rfl rfl rfl rfl) ?_   -- 16
            refine TrC.take rfl (step_pick rfl rfl rfl rfl) ?_   -- 17
            refine TrC.done ?_
            exact Sat.wk [] (.cons (.t (.refl _)) (.cons (.t (.refl _)) (.cons (.t (.refl _)) (.cons (.t (.refl _)) (.cons (.t (.refl _)) (.cons (.t (conv_b (by unfold hasR; first | (simp_all; done) | (rw [Bool.eq_iff_iff]; simp_all; done)))) (.nil))))))) (.nil) rfl rfl
    ·
      refine AT.cond rfl (fun h30 => ?_) (fun h30 => ?_)   -- t30
      · -- true
        refine AT.region ?_   -- region 6 ref.go:51
        refine TrC.take rfl (step_move rfl rfl rfl) ?_   -- 0
        refine TrC.take rfl (step_move rfl rfl rfl) ?_   -- 1
        refine TrC.take rfl (step_addI rfl rfl rfl (by first | omega | (simp; done) | (simp; omega)) (by first | omega | (simp; done) | (simp; omega)) rfl) ?_   -- 2
        refine TrC.take rfl (step_assign rfl rfl rfl) ?_   -- 3
        refine TrC.done ?_
        refine AT.region ?_   -- region 4 ref.go:49
        refine TrC.take rfl (step_move rfl rfl rfl) ?_   -- 0
        refine TrC.take rfl (step_mulI rfl rfl rfl (by first | omega | (simp; done) | (simp; omega)) (by first | omega | (simp; done) | (simp; omega)) rfl) ?_   -- 1
        refine TrC.take rfl (step_assign rfl rfl rfl) ?_   -- 2
        refine TrC.done ?_
        exact ⟨ix + 1, by show ix + 1 ≤ 4; omega, by show 4 - (ix + 1) < 4 - ix; omega, Sat.wk [] (.cons (.t (.refl _)) (.cons (.t (.refl _)) (.cons (.t (.refl _)) (.cons (.t (conv_i (by simp only [rsum]; simp_all))) (.cons (.t (conv_i ((pw_double h4).symm))) (.nil)))))) .nil rfl rfl⟩
      · -- false
        refine AT.skip ?_
        refine AT.region ?_   -- region 4 ref.go:49
        refine TrC.take rfl (step_move rfl rfl rfl) ?_   -- 0
        refine TrC.take rfl (step_mulI rfl rfl rfl (by first | omega | (simp; done) | (simp; omega)) (by first | omega | (simp; done) | (simp; omega)) rfl) ?_   -- 1
        refine TrC.take rfl (step_assign rfl rfl rfl) ?_   -- 2
        refine TrC.done ?_
        exact ⟨ix + 1, by show ix + 1 ≤ 4; omega, by show 4 - (ix + 1) < 4 - ix; omega, Sat.wk [] (.cons (.t (.refl _)) (.cons (.t (.refl _)) (.cons (.t (.refl _)) (.cons (.t (conv_i (by simp only [rsum]; simp_all))) (.cons (.t (conv_i ((pw_double h4).symm))) (.nil)))))) .nil rfl rfl⟩
  · -- false
    have h4 : ix = 4 := pw_gt hix (by have h := h10; simp at h; omega)
    refine AT.exit (Or.inl ⟨rfl, ?_⟩)   -- exit 0
    refine AT.seq ?_
    refine AT.region ?_   -- region 7 ref.go:54
    refine TrC.take rfl (step_move rfl rfl rfl) ?_   -- 0
    refine TrC.take rfl (step_assign rfl rfl rfl) ?_   -- 1
    refine TrC.done ?_
    refine AT.ret ?_
    exact Ret.one rfl (ResR.tmp rfl (conv_i (by rw [h4]; rfl)))

theorem C18 (l : List Ace) (who owner w : Int) (hl : l.length ≤ 1000000) : Has Try.prog 18 [.slice 5 (l.map encA), .i who, .i owner, .i w] (.b (allows l who owner w)) := by   -- burgage/burgageref02.Allows
  refine Has.intro 16 Try.func18 (by kernel_rfl) rfl rfl fun w ok => ?_
  refine AT.seq ?_
  refine AT.region ?_   -- region 0 ref.go:58
  refine TrC.take rfl (step_assign rfl rfl rfl) ?_   -- 0
  refine TrC.done ?_
  refine AT.seq ?_
  refine AT.region ?_   -- region 1 ref.go:58
  refine TrC.take rfl (step_move rfl rfl rfl) ?_   -- 0
  refine TrC.take rfl (step_move rfl rfl rfl) ?_   -- 1
  refine TrC.take rfl (step_move rfl rfl rfl) ?_   -- 2
  refine TrC.take rfl (step_move rfl rfl rfl) ?_   -- 3
  refine TrC.take rfl (step_call0 rfl rfl (C16 l who owner hl) rfl) ?_   -- 4
  refine TrC.take rfl (step_bin rfl rfl rfl rfl rfl) ?_   -- 5
  refine TrC.take rfl (step_bin rfl rfl rfl rfl rfl) ?_   -- 6
  refine TrC.take rfl (step_assign rfl rfl rfl) ?_   -- 7
  refine TrC.done ?_
  refine AT.ret ?_
  exact Ret.one rfl (ResR.tmp rfl (conv_b rfl))

end Go.Proofs.Ytgblfhobiibeaaa.Acl

/- Contracts of functions of this translation. Printed by wip/tools/gen.py out of wip/acl/ann.py. No condition. -/
set_option linter.unusedVariables false
set_option linter.unusedSimpArgs false
namespace Go.Proofs.Ytgblfhobiibeaaa.Acl
open Go.Proofs.Ytgblfhobiibeaaa.Abs
set_option maxRecDepth 100000
set_option maxHeartbeats 4000000
theorem C15 (l : List Ace) (who owner : Int) (hl : l.length ≤ 1000000) : Has Try.prog 15 [.slice 5 (l.map encA), .i who, .i owner] (.i (rights l who owner)) := by   -- burgage/acl.Rights
  refine Has.intro 70 Try.func15 (by kernel_rfl) rfl rfl fun w ok => ?_
  refine AT.seq ?_
  refine AT.region ?_   -- region 0 acl.go:44
  refine TrC.take rfl (step_assign rfl rfl rfl) ?_   -- 0
  refine TrC.done ?_
  refine AT.seq ?_
  refine AT.seq ?_
  refine AT.region ?_   -- region 1 acl.go:45
  refine TrC.take rfl (step_move rfl rfl rfl) ?_   -- 0
  refine TrC.take rfl (step_bin rfl rfl rfl rfl rfl) ?_   -- 1
  refine TrC.done ?_
  refine AT.cond rfl (fun h13 => ?_) (fun h13 => ?_)   -- t13
  · -- true
    have hr : rights l who owner = 15 := by rw [← rights_eq]; unfold rightsA; rw [if_pos (by simpa using h13)]
    refine AT.seq ?_
    refine AT.region ?_   -- region 2 acl.go:46
    refine TrC.take rfl (step_assign rfl rfl rfl) ?_   -- 0
    refine TrC.done ?_
    refine AT.ret ?_
    exact Ret.one rfl (ResR.tmp rfl (conv_i hr.symm))
  · -- false
    have hw0 : ¬ who = 0 := by simpa using h13
    refine AT.skip ?_
    refine AT.seq ?_
    refine AT.region ?_   -- region 3 acl.go:48
    refine TrC.take rfl (step_assign rfl rfl rfl) ?_   -- 0
    refine TrC.take rfl (step_assign rfl rfl rfl) ?_   -- 1
    refine TrC.done ?_
    refine AT.seq ?_
    refine AT.seq ?_
    refine AT.region ?_   -- region 4 acl.go:49
    refine TrC.take rfl (step_move rfl rfl rfl) ?_   -- 0
    refine TrC.take rfl (step_lenT (rt := 0) rfl rfl sl22 rfl) ?_   -- 1
    refine TrC.take rfl (step_move rfl rfl rfl) ?_   -- 2
    refine TrC.done ?_
    refine AT.block ?_   -- block 0
    refine AT.loopP (fun p : Nat × Int × Int => p.1 ≤ l.length ∧ (l.take p.1).foldl (rstep who owner) (0, 15) = p.2) (fun (i, r, q) => mkS [(1, .t (.i who)), (2, .t (.i owner)), (7, .t (.i r)), (8, .t (.i q)), (14, .t (.slice 5 (l.map encA))), (15, .t (.i l.length)), (16, .t (.i i))] []) (fun p => l.length - p.1) ((0, 0, 15)) (⟨Nat.zero_le _, rfl⟩) (fun a w hs => Sat.wk [] (.cons (.t (.refl _)) (.cons (.t (.refl _)) (.cons (.t (.refl _)) (.cons (.t (.refl _)) (.cons (.t (.refl _)) (.cons (.t (conv_i (by simp))) (.cons (.t (.refl _)) (.nil)))))))) (.nil) rfl rfl a w hs) (fun ix hix => ?_)
    obtain ⟨i, r, q⟩ := ix
    obtain ⟨hi, hf⟩ := hix
    simp only at hi hf
    refine AT.seq ?_
    refine AT.region ?_   -- region 5 acl.go:49
    refine TrC.take rfl (step_bin rfl rfl rfl rfl rfl) ?_   -- 0
    refine TrC.done ?_
    refine AT.seq ?_
    refine AT.cond rfl (fun h17 => ?_) (fun h17 => ?_)   -- t17
    · -- true
      have hlt : i < l.length := by simpa using h17
      refine Exists.elim (show ∃ e, e = l[i] from ⟨_, rfl⟩) (fun e he => ?_)
      have hget : (l.map encA)[i]? = some (.agg [.i e.who, .b e.al, .i e.rt, .i e.rc, .b e.gv]) := by rw [List.getElem?_map, List.getElem?_eq_getElem hlt, he]; rfl
      refine AT.skip ?_
      refine AT.seq ?_
      refine AT.block ?_   -- block 1
      refine AT.seq ?_
      refine AT.region ?_   -- region 6 acl.go:49
      refine TrC.take rfl (step_indexAddrT (v := .agg [.i e.who, .b e.al, .i e.rt, .i e.rc, .b e.gv]) rfl rfl rfl sl22 (by omega) (by first | exact hget | simpa using hget) rfl rfl) ?_   -- 0
      refine TrC.take rfl (step_loadTN rfl rfl ty31 rfl rfl) ?_   -- 1
      refine TrC.take rfl (step_alloc rfl rfl ze31 rfl rfl rfl) ?_   -- 2
      refine TrC.take rfl (step_storeP rfl rfl rfl rfl rfl (.inl rfl) ty31 rfl rfl rfl) ?_   -- 3
      refine TrC.done ?_
      refine AT.seqJ (mkS [(1, .t (.i who)), (2, .t (.i owner)), (7, .t (.i r)), (8, .t (.i q)), (10, .p 10 0), (11, .t (.b (decide (e.who = who) || decide (e.who = -1) || decide (e.who = -2) && decide (who = owner)))), (14, .t (.slice 5 (l.map encA))), (15, .t (.i l.length)), (16, .t (.i i))] [(10, .box 31 [.t (.i e.who), .t (.b e.al), .t (.i e.rt), .t (.i e.rc), .t (.b e.gv)])]) ?_ ?_
      ·
        refine AT.region ?_   -- region 7 acl.go:50
        refine TrC.take rfl (step_fieldAddrP rfl rfl fd31_0 rfl rfl) ?_   -- 0
        refine TrC.take rfl (step_loadP1 rfl rfl rfl ty3 rfl rfl) ?_   -- 1
        refine TrC.take rfl (step_move rfl rfl rfl) ?_   -- 2
        refine TrC.take rfl (step_bin rfl rfl rfl rfl rfl) ?_   -- 3
        refine TrC.take rfl (step_move rfl rfl rfl) ?_   -- 4
        refine TrC.cases (d := 24) rfl (fun h24 => ?_) (fun h24 => ?_)
        · -- t24 = true
          refine TrC.skip ⟨_, _, rfl, rfl, rfl⟩ ?_   -- 5
          refine TrC.skip ⟨_, _, rfl, rfl, rfl⟩ ?_   -- 6
          refine TrC.skip ⟨_, _, rfl, rfl, rfl⟩ ?_   -- 7
          refine TrC.take rfl (step_pick rfl rfl rfl rfl) ?_   -- 8
          refine TrC.take rfl (step_move rfl rfl rfl) ?_   -- 9
          refine TrC.skip ⟨_, _, rfl, rfl, rfl⟩ ?_   -- 10
          refine TrC.skip ⟨_, _, rfl, rfl, rfl⟩ ?_   -- 11
          refine TrC.skip ⟨_, _, rfl, rfl, rfl⟩ ?_   -- 12
          refine TrC.skip ⟨_, _, rfl, rfl, rfl⟩ ?_   -- 13
          refine TrC.skip ⟨_, _, rfl, rfl, rfl⟩ ?_   -- 14
          refine TrC.skip ⟨_, _, rfl, rfl, rfl⟩ ?_   -- 15
          refine TrC.skip ⟨_, _, rfl, rfl, rfl⟩ ?_   -- 16
          refine TrC.skip ⟨_, _, rfl, rfl, rfl⟩ ?_   -- 17
          refine TrC.take rfl (step_pick rfl rfl rfl rfl) ?_   -- 18
          refine TrC.take rfl (step_assign rfl rfl rfl) ?_   -- 19
          refine TrC.done ?_
          exact Sat.wk [] (.cons (.t (.refl _)) (.cons (.t (.refl _)) (.cons (.t (.refl _)) (.cons (.t (.refl _)) (.cons (.p rfl) (.cons (.t (conv_b (by first | (simp_all; done) | (rw [Bool.eq_iff_iff]; simp_all; done)))) (.cons (.t (.refl _)) (.cons (.t (.refl _)) (.cons (.t (.refl _)) (.nil)))))))))) (.cons rfl (.box (.cons (.t (.refl _)) (.cons (.t (.refl _)) (.cons (.t (.refl _)) (.cons (.t (.refl _)) (.cons (.t (.refl _)) (.nil))))))) (.nil)) rfl rfl
        · -- t24 = false
          refine TrC.take ⟨_, _, rfl, rfl, rfl⟩ (step_fieldAddrP rfl rfl fd31_0 rfl rfl) ?_   -- 5
          refine TrC.take ⟨_, _, rfl, rfl, rfl⟩ (step_loadP1 rfl rfl rfl ty3 rfl rfl) ?_   -- 6
          refine TrC.take ⟨_, _, rfl, rfl, rfl⟩ (step_bin rfl rfl rfl rfl rfl) ?_   -- 7
          refine TrC.take rfl (step_pick rfl rfl rfl rfl) ?_   -- 8
          refine TrC.take rfl (step_move rfl rfl rfl) ?_   -- 9
          refine TrC.cases (d := 29) rfl (fun h29 => ?_) (fun h29 => ?_)
          · -- t29 = true
            refine TrC.skip ⟨_, _, rfl, rfl, rfl⟩ ?_   -- 10
            refine TrC.skip ⟨_, _, rfl, rfl, rfl⟩ ?_   -- 11
            refine TrC.skip ⟨_, _, rfl, rfl, rfl⟩ ?_   -- 12
            refine TrC.skip ⟨_, _, rfl, rfl, rfl⟩ ?_   -- 13
            refine TrC.skip ⟨_, _, rfl, rfl, rfl⟩ ?_   -- 14
            refine TrC.skip ⟨_, _, rfl, rfl, rfl⟩ ?_   -- 15
            refine TrC.skip ⟨_, _, rfl, rfl, rfl⟩ ?_   -- 16
            refine TrC.skip ⟨_, _, rfl, rfl, rfl⟩ ?_   -- 17
            refine TrC.take rfl (step_pick rfl rfl rfl rfl) ?_   -- 18
            refine TrC.take rfl (step_assign rfl rfl rfl) ?_   -- 19
            refine TrC.done ?_
            exact Sat.wk [] (.cons (.t (.refl _)) (.cons (.t (.refl _)) (.cons (.t (.refl _)) (.cons (.t (.refl _)) (.cons (.p rfl) (.cons (.t (conv_b (by first | (simp_all; done) | (rw [Bool.eq_iff_iff]; simp_all; done)))) (.cons (.t (.refl _)) (.cons (.t (.refl _)) (.cons (.t (.refl _)) (.nil)))))))))) (.cons rfl (.box (.cons (.t (.refl _)) (.cons (.t (.refl _)) (.cons (.t (.refl _)) (.cons (.t (.refl _)) (.cons (.t (.refl _)) (.nil))))))) (.nil)) rfl rfl
          · -- t29 = false
            refine TrC.take ⟨_, _, rfl, rfl, rfl⟩ (step_fieldAddrP rfl rfl fd31_0 rfl rfl) ?_   -- 10
            refine TrC.take ⟨_, _, rfl, rfl, rfl⟩ (step_loadP1 rfl rfl rfl ty3 rfl rfl) ?_   -- 11
            refine TrC.take ⟨_, _, rfl, rfl, rfl⟩ (step_bin rfl rfl rfl rfl rfl) ?_   -- 12
            refine TrC.take ⟨_, _, rfl, rfl, rfl⟩ (step_move rfl rfl rfl) ?_   -- 13
            refine TrC.cases (d := 33) rfl (fun h33 => ?_) (fun h33 => ?_)
            · -- t33 = true
              refine TrC.take ⟨_, _, rfl, rfl, rfl⟩ (step_move rfl rfl rfl) ?_   -- 14
              refine TrC.take ⟨_, _, rfl, rfl, rfl⟩ (step_move rfl rfl rfl) ?_   -- 15
              refine TrC.take ⟨_, _, rfl, rfl, rfl⟩ (step_bin rfl rfl rfl rfl rfl) ?_   -- 16
              refine TrC.take ⟨_, _, rfl, rfl, rfl⟩ (step_pick rfl rfl rfl rfl) ?_   -- 17
              refine TrC.take rfl (step_pick rfl rfl rfl rfl) ?_   -- 18
              refine TrC.take rfl (step_assign rfl rfl rfl) ?_   -- 19
              refine TrC.done ?_
              exact Sat.wk [] (.cons (.t (.refl _)) (.cons (.t (.refl _)) (.cons (.t (.refl _)) (.cons (.t (.refl _)) (.cons (.p rfl) (.cons (.t (conv_b (by first | (simp_all; done) | (rw [Bool.eq_iff_iff]; simp_all; done)))) (.cons (.t (.refl _)) (.cons (.t (.refl _)) (.cons (.t (.refl _)) (.nil)))))))))) (.cons rfl (.box (.cons (.t (.refl _)) (.cons (.t (.refl _)) (.cons (.t (.refl _)) (.cons (.t (.refl _)) (.cons (.t (.refl _)) (.nil))))))) (.nil)) rfl rfl
            · -- t33 = false
              refine TrC.skip ⟨_, _, rfl, rfl, rfl⟩ ?_   -- 14
              refine TrC.skip ⟨_, _, rfl, rfl, rfl⟩ ?_   -- 15
              refine TrC.skip ⟨_, _, rfl, rfl, rfl⟩ ?_   -- 16
              refine TrC.take ⟨_, _, rfl, rfl, rfl⟩ (step_pick rfl rfl rfl rfl) ?_   -- 17
              refine TrC.take rfl (step_pick rfl rfl rfl rfl) ?_   -- 18
              refine TrC.take rfl (step_assign rfl rfl rfl) ?_   -- 19
              refine TrC.done ?_
              exact Sat.wk [] (.cons (.t (.refl _)) (.cons (.t (.refl _)) (.cons (.t (.refl _)) (.cons (.t (.refl _)) (.cons (.p rfl) (.cons (.t (conv_b (by first | (simp_all; done) | (rw [Bool.eq_iff_iff]; simp_all; done)))) (.cons (.t (.refl _)) (.cons (.t (.refl _)) (.cons (.t (.refl _)) (.nil)))))))))) (.cons rfl (.box (.cons (.t (.refl _)) (.cons (.t (.refl _)) (.cons (.t (.refl _)) (.cons (.t (.refl _)) (.cons (.t (.refl _)) (.nil))))))) (.nil)) rfl rfl
      ·
        refine Exists.elim (show ∃ mn, mn = (decide (e.who = who) || decide (e.who = -1) || decide (e.who = -2) && decide (who = owner)) from ⟨_, rfl⟩) (fun mn hmn => ?_)
        refine AT.spell 11 rfl (bv (b := mn) hmn.symm) ?_
        have hce : counts e who owner = ((decide (e.rc = 1) || decide (e.rc = 2)) && mn) := by rw [hmn]; rfl
        clear hmn
        refine AT.seq ?_
        refine AT.seqJ (mkS [(1, .t (.i who)), (2, .t (.i owner)), (7, .t (.i r)), (8, .t (.i q)), (10, .p 10 0), (14, .t (.slice 5 (l.map encA))), (15, .t (.i l.length)), (16, .t (.i i)), (50, .t (.b (!counts e who owner)))] [(10, .box 31 [.t (.i e.who), .t (.b e.al), .t (.i e.rt), .t (.i e.rc), .t (.b e.gv)])]) ?_ ?_
        ·
          refine AT.region ?_   -- region 8 acl.go:51
          refine TrC.take rfl (step_move rfl rfl rfl) ?_   -- 0
          refine TrC.take rfl (step_not rfl rfl rfl) ?_   -- 1
          refine TrC.take rfl (step_move rfl rfl rfl) ?_   -- 2
          refine TrC.cases (d := 41) rfl (fun h41 => ?_) (fun h41 => ?_)
          · -- t41 = true
            refine TrC.skip ⟨_, _, rfl, rfl, rfl⟩ ?_   -- 3
            refine TrC.skip ⟨_, _, rfl, rfl, rfl⟩ ?_   -- 4
            refine TrC.skip ⟨_, _, rfl, rfl, rfl⟩ ?_   -- 5
            refine TrC.skip ⟨_, _, rfl, rfl, rfl⟩ ?_   -- 6
            refine TrC.skip ⟨_, _, rfl, rfl, rfl⟩ ?_   -- 7
            refine TrC.skip ⟨_, _, rfl, rfl, rfl⟩ ?_   -- 8
            refine TrC.skip ⟨_, _, rfl, rfl, rfl⟩ ?_   -- 9
            refine TrC.skip ⟨_, _, rfl, rfl, rfl⟩ ?_   -- 10
            refine TrC.take rfl (step_pick rfl rfl rfl rfl) ?_   -- 11
            refine TrC.done ?_
            exact Sat.wk [] (.cons (.t (.refl _)) (.cons (.t (.refl _)) (.cons (.t (.refl _)) (.cons (.t (.refl _)) (.cons (.p rfl) (.cons (.t (.refl _)) (.cons (.t (.refl _)) (.cons (.t (.refl _)) (.cons (.t (conv_b (by rw [hce]; first | (simp_all; done) | (rw [Bool.eq_iff_iff]; simp_all; done)))) (.nil)))))))))) (.cons rfl (.box (.cons (.t (.refl _)) (.cons (.t (.refl _)) (.cons (.t (.refl _)) (.cons (.t (.refl _)) (.cons (.t (.refl _)) (.nil))))))) (.nil)) rfl rfl
          · -- t41 = false
            refine TrC.take ⟨_, _, rfl, rfl, rfl⟩ (step_fieldAddrP rfl rfl fd31_3 rfl rfl) ?_   -- 3
            refine TrC.take ⟨_, _, rfl, rfl, rfl⟩ (step_loadP1 rfl rfl rfl ty3 rfl rfl) ?_   -- 4
            refine TrC.take ⟨_, _, rfl, rfl, rfl⟩ (step_bin rfl rfl rfl rfl rfl) ?_   -- 5
            refine TrC.take ⟨_, _, rfl, rfl, rfl⟩ (step_move rfl rfl rfl) ?_   -- 6
            refine TrC.cases (d := 45) rfl (fun h45 => ?_) (fun h45 => ?_)
            · -- t45 = true
              refine TrC.take ⟨_, _, rfl, rfl, rfl⟩ (step_fieldAddrP rfl rfl fd31_3 rfl rfl) ?_   -- 7
              refine TrC.take ⟨_, _, rfl, rfl, rfl⟩ (step_loadP1 rfl rfl rfl ty3 rfl rfl) ?_   -- 8
              refine TrC.take ⟨_, _, rfl, rfl, rfl⟩ (step_bin rfl rfl rfl rfl rfl) ?_   -- 9
              refine TrC.take ⟨_, _, rfl, rfl, rfl⟩ (step_pick rfl rfl rfl rfl) ?_   -- 10
              refine TrC.take rfl (step_pick rfl rfl rfl rfl) ?_   -- 11
              refine TrC.done ?_
              exact Sat.wk [] (.cons (.t (.refl _)) (.cons (.t (.refl _)) (.cons (.t (.refl _)) (.cons (.t (.refl _)) (.cons (.p rfl) (.cons (.t (.refl _)) (.cons (.t (.refl _)) (.cons (.t (.refl _)) (.cons (.t (conv_b (by rw [hce]; first | (simp_all; done) | (rw [Bool.eq_iff_iff]; simp_all; done)))) (.nil)))))))))) (.cons rfl (.box (.cons (.t (.refl _)) (.cons (.t (.refl _)) (.cons (.t (.refl _)) (.cons (.t (.refl _)) (.cons (.t (.refl _)) (.nil))))))) (.nil)) rfl rfl
            · -- t45 = false
              refine TrC.skip ⟨_, _, rfl, rfl, rfl⟩ ?_   -- 7
              refine TrC.skip ⟨_, _, rfl, rfl, rfl⟩ ?_   -- 8
              refine TrC.skip ⟨_, _, rfl, rfl, rfl⟩ ?_   -- 9
              refine TrC.take ⟨_, _, rfl, rfl, rfl⟩ (step_pick rfl rfl rfl rfl) ?_   -- 10
              refine TrC.take rfl (step_pick rfl rfl rfl rfl) ?_   -- 11
              refine TrC.done ?_
              exact Sat.wk [] (.cons (.t (.refl _)) (.cons (.t (.refl _)) (.cons (.t (.refl _)) (.cons (.t (.refl _)) (.cons (.p rfl) (.cons (.t (.refl _)) (.cons (.t (.refl _)) (.cons (.t (.refl _)) (.cons (.t (conv_b (by rw [hce]; first | (simp_all; done) | (rw [Bool.eq_iff_iff]; simp_all; done)))) (.nil)))))))))) (.cons rfl (.box (.cons (.t (.refl _)) (.cons (.t (.refl _)) (.cons (.t (.refl _)) (.cons (.t (.refl _)) (.cons (.t (.refl _)) (.nil))))))) (.nil)) rfl rfl
        ·
          refine AT.cond rfl (fun h50 => ?_) (fun h50 => ?_)   -- t50
          · -- true
            have hcf : counts e who owner = false := by simpa using h50
            refine AT.exit (Or.inl ⟨rfl, ?_⟩)   -- exit 1
            refine AT.region ?_   -- region 12 acl.go:49
            refine TrC.take rfl (step_addI rfl rfl rfl (by first | omega | (simp; done) | (simp; omega)) (by first | omega | (simp; done) | (simp; omega)) rfl) ?_   -- 0
            refine TrC.take rfl (step_move rfl rfl rfl) ?_   -- 1
            refine TrC.done ?_
            exact ⟨(i + 1, r, q), ⟨hlt, by show (l.take (i + 1)).foldl (rstep who owner) (0, 15) = (r, q); rw [take_snoc hlt, List.foldl_append, hf, ← he]; unfold rstep; simp [hcf]⟩, by show l.length - (i + 1) < l.length - i; omega, Sat.wk [] (.cons (.t (.refl _)) (.cons (.t (.refl _)) (.cons (.t (.refl _)) (.cons (.t (.refl _)) (.cons (.t (.refl _)) (.cons (.t (.refl _)) (.cons (.t (conv_i (by simp))) (.nil)))))))) .nil rfl rfl⟩
          · -- false
            have hcf : counts e who owner = true := by simpa using h50
            refine AT.skip ?_
            refine AT.seq ?_
            refine AT.seq ?_
            refine AT.region ?_   -- region 9 acl.go:54
            refine TrC.take rfl (step_fieldAddrP rfl rfl fd31_1 rfl rfl) ?_   -- 0
            refine TrC.take rfl (step_loadP1 rfl rfl rfl ty4 rfl rfl) ?_   -- 1
            refine TrC.done ?_
            refine AT.cond rfl (fun h52 => ?_) (fun h52 => ?_)   -- t52
            · -- true
              refine AT.region ?_   -- region 10 acl.go:55
              refine TrC.take rfl (step_move rfl rfl rfl) ?_   -- 0
              refine TrC.take rfl (step_move rfl rfl rfl) ?_   -- 1
              refine TrC.take rfl (step_fieldAddrP rfl rfl fd31_2 rfl rfl) ?_   -- 2
              refine TrC.take rfl (step_loadP1 rfl rfl rfl ty3 rfl rfl) ?_   -- 3
              refine TrC.take rfl (step_bin rfl rfl rfl rfl rfl) ?_   -- 4
              refine TrC.take rfl (step_bin rfl rfl rfl rfl rfl) ?_   -- 5
              refine TrC.take rfl (step_assign rfl rfl rfl) ?_   -- 6
              refine TrC.done ?_
              refine AT.region ?_   -- region 11 acl.go:57
              refine TrC.take rfl (step_move rfl rfl rfl) ?_   -- 0
              refine TrC.take rfl (step_fieldAddrP rfl rfl fd31_2 rfl rfl) ?_   -- 1
              refine TrC.take rfl (step_loadP1 rfl rfl rfl ty3 rfl rfl) ?_   -- 2
              refine TrC.take rfl (step_bin rfl rfl rfl rfl rfl) ?_   -- 3
              refine TrC.take rfl (step_assign rfl rfl rfl) ?_   -- 4
              refine TrC.done ?_
              refine AT.region ?_   -- region 12 acl.go:49
              refine TrC.take rfl (step_addI rfl rfl rfl (by first | omega | (simp; done) | (simp; omega)) (by first | omega | (simp; done) | (simp; omega)) rfl) ?_   -- 0
              refine TrC.take rfl (step_move rfl rfl rfl) ?_   -- 1
              refine TrC.done ?_
              exact ⟨(i + 1, (if e.al then iOr r (iAnd q e.rt) else r), iAndNot q e.rt), ⟨hlt, by show (l.take (i + 1)).foldl (rstep who owner) (0, 15) = _; rw [take_snoc hlt, List.foldl_append, hf]; show rstep who owner (r, q) l[i] = _; rw [← he]; unfold rstep; rw [if_pos hcf]⟩, by show l.length - (i + 1) < l.length - i; omega, Sat.wk [] (.cons (.t (.refl _)) (.cons (.t (.refl _)) (.cons (.t (conv_i (by simp [h52, iOr, iAnd]))) (.cons (.t (conv_i (rfl))) (.cons (.t (.refl _)) (.cons (.t (.refl _)) (.cons (.t (conv_i (by simp))) (.nil)))))))) .nil rfl rfl⟩
            · -- false
              refine AT.skip ?_
              refine AT.region ?_   -- region 11 acl.go:57
              refine TrC.take rfl (step_move rfl rfl rfl) ?_   -- 0
              refine TrC.take rfl (step_fieldAddrP rfl rfl fd31_2 rfl rfl) ?_   -- 1
              refine TrC.take rfl (step_loadP1 rfl rfl rfl ty3 rfl rfl) ?_   -- 2
              refine TrC.take rfl (step_bin rfl rfl rfl rfl rfl) ?_   -- 3
              refine TrC.take rfl (step_assign rfl rfl rfl) ?_   -- 4
              refine TrC.done ?_
              refine AT.region ?_   -- region 12 acl.go:49
              refine TrC.take rfl (step_addI rfl rfl rfl (by first | omega | (simp; done) | (simp; omega)) (by first | omega | (simp; done) | (simp; omega)) rfl) ?_   -- 0
              refine TrC.take rfl (step_move rfl rfl rfl) ?_   -- 1
              refine TrC.done ?_
              exact ⟨(i + 1, (if e.al then iOr r (iAnd q e.rt) else r), iAndNot q e.rt), ⟨hlt, by show (l.take (i + 1)).foldl (rstep who owner) (0, 15) = _; rw [take_snoc hlt, List.foldl_append, hf]; show rstep who owner (r, q) l[i] = _; rw [← he]; unfold rstep; rw [if_pos hcf]⟩, by show l.length - (i + 1) < l.length - i; omega, Sat.wk [] (.cons (.t (.refl _)) (.cons (.t (.refl _)) (.cons (.t (conv_i (by simp [h52, iOr, iAnd]))) (.cons (.t (conv_i (rfl))) (.cons (.t (.refl _)) (.cons (.t (.refl _)) (.cons (.t (conv_i (by simp))) (.nil)))))))) .nil rfl rfl⟩
    · -- false
      have hge : ¬ i < l.length := by simpa using h17
      have hf2 : l.foldl (rstep who owner) (0, 15) = (r, q) := by rw [← hf, List.take_of_length_le (by omega)]
      refine AT.exit (Or.inl ⟨rfl, ?_⟩)   -- exit 0
      refine AT.seq ?_
      refine AT.seq ?_
      refine AT.region ?_   -- region 13 acl.go:59
      refine TrC.take rfl (step_move rfl rfl rfl) ?_   -- 0
      refine TrC.take rfl (step_move rfl rfl rfl) ?_   -- 1
      refine TrC.take rfl (step_bin rfl rfl rfl rfl rfl) ?_   -- 2
      refine TrC.done ?_
      refine AT.cond rfl (fun h66 => ?_) (fun h66 => ?_)   -- t66
      · -- true
        have hr : rights l who owner = iOr r 8 := by rw [← rights_eq]; unfold rightsA; rw [if_neg hw0, if_pos (by simpa using h66), hf2]
        refine AT.region ?_   -- region 14 acl.go:60
        refine TrC.take rfl (step_move rfl rfl rfl) ?_   -- 0
        refine TrC.take rfl (step_bin rfl rfl rfl rfl rfl) ?_   -- 1
        refine TrC.take rfl (step_assign rfl rfl rfl) ?_   -- 2
        refine TrC.done ?_
        refine AT.seq ?_
        refine AT.region ?_   -- region 15 acl.go:62
        refine TrC.take rfl (step_move rfl rfl rfl) ?_   -- 0
        refine TrC.take rfl (step_assign rfl rfl rfl) ?_   -- 1
        refine TrC.done ?_
        refine AT.ret ?_
        exact Ret.one rfl (ResR.tmp rfl (conv_i (by rw [hr]; rfl)))
      · -- false
        have hr : rights l who owner = r := by rw [← rights_eq]; unfold rightsA; rw [if_neg hw0, if_neg (by simpa using h66), hf2]
        refine AT.skip ?_
        refine AT.seq ?_
        refine AT.region ?_   -- region 15 acl.go:62
        refine TrC.take rfl (step_move rfl rfl rfl) ?_   -- 0
        refine TrC.take rfl (step_assign rfl rfl rfl) ?_   -- 1
        refine TrC.done ?_
        refine AT.ret ?_
        exact Ret.one rfl (ResR.tmp rfl (conv_i hr.symm))

theorem C17 (l : List Ace) (who owner w : Int) (hl : l.length ≤ 1000000) : Has Try.prog 17 [.slice 5 (l.map encA), .i who, .i owner, .i w] (.b (allows l who owner w)) := by   -- burgage/acl.Allows
  refine Has.intro 16 Try.func17 (by kernel_rfl) rfl rfl fun w ok => ?_
  refine AT.seq ?_
  refine AT.region ?_   -- region 0 acl.go:65
  refine TrC.take rfl (step_assign rfl rfl rfl) ?_   -- 0
  refine TrC.done ?_
  refine AT.seq ?_
  refine AT.region ?_   -- region 1 acl.go:65
  refine TrC.take rfl (step_move rfl rfl rfl) ?_   -- 0
  refine TrC.take rfl (step_move rfl rfl rfl) ?_   -- 1
  refine TrC.take rfl (step_move rfl rfl rfl) ?_   -- 2
  refine TrC.take rfl (step_move rfl rfl rfl) ?_   -- 3
  refine TrC.take rfl (step_call0 rfl rfl (C15 l who owner hl) rfl) ?_   -- 4
  refine TrC.take rfl (step_bin rfl rfl rfl rfl rfl) ?_   -- 5
  refine TrC.take rfl (step_bin rfl rfl rfl rfl rfl) ?_   -- 6
  refine TrC.take rfl (step_assign rfl rfl rfl) ?_   -- 7
  refine TrC.done ?_
  refine AT.ret ?_
  exact Ret.one rfl (ResR.tmp rfl (conv_b rfl))

end Go.Proofs.Ytgblfhobiibeaaa.Acl

/- Contracts of functions of this translation. Printed by wip/tools/gen.py out of wip/acl/ann.py. No condition. -/
set_option linter.unusedVariables false
set_option linter.unusedSimpArgs false
namespace Go.Proofs.Ytgblfhobiibeaaa.Acl
open Go.Proofs.Ytgblfhobiibeaaa.Abs
set_option maxRecDepth 100000
set_option maxHeartbeats 4000000
theorem C20 (a b : List Ace) (hl : a.length ≤ 1000000) : Has Try.prog 20 [.slice 5 (a.map encA), .slice 5 (b.map encA)] (.b (decide (a = b))) := by   -- burgage/burgageref02.Same
  refine Has.intro 26 Try.func20 (by kernel_rfl) rfl rfl fun w ok => ?_
  refine AT.seq ?_
  refine AT.region ?_   -- region 0 ref.go:194
  refine TrC.take rfl (step_assign rfl rfl rfl) ?_   -- 0
  refine TrC.done ?_
  refine AT.seq ?_
  refine AT.seq ?_
  refine AT.region ?_   -- region 1 ref.go:195
  refine TrC.take rfl (step_move rfl rfl rfl) ?_   -- 0
  refine TrC.take rfl (step_lenT (rt := 0) rfl rfl sl22 rfl) ?_   -- 1
  refine TrC.take rfl (step_move rfl rfl rfl) ?_   -- 2
  refine TrC.take rfl (step_lenT (rt := 0) rfl rfl sl22 rfl) ?_   -- 3
  refine TrC.take rfl (step_bin rfl rfl rfl rfl rfl) ?_   -- 4
  refine TrC.done ?_
  refine AT.cond rfl (fun h10 => ?_) (fun h10 => ?_)   -- t10
  · -- true
    have hs : decide (a = b) = false := decide_eq_false (fun he => by subst he; simp at h10)
    refine AT.seq ?_
    refine AT.region ?_   -- region 2 ref.go:196
    refine TrC.take rfl (step_assign rfl rfl rfl) ?_   -- 0
    refine TrC.done ?_
    refine AT.ret ?_
    exact Ret.one rfl (ResR.tmp rfl (conv_b hs.symm))
  · -- false
    have e1 : a.length = b.length := by have h := h10; simp at h; omega
    refine AT.skip ?_
    refine AT.seq ?_
    refine AT.seq ?_
    refine AT.region ?_   -- region 3 ref.go:198
    refine TrC.take rfl (step_assign rfl rfl rfl) ?_   -- 0
    refine TrC.done ?_
    refine AT.block ?_   -- block 0
    refine AT.loopP (fun i : Nat => i ≤ a.length ∧ ∀ j (h : j < a.length) (h' : j < b.length), j < i → a[j] = b[j]) (fun i => mkS [(0, .t (.slice 5 (a.map encA))), (1, .t (.slice 5 (b.map encA))), (5, .t (.i i))] []) (fun i => a.length - i) (0) (⟨by omega, fun j h h' hj => by omega⟩) (fun a w hs => Sat.wk [] (.cons (.t (.refl _)) (.cons (.t (.refl _)) (.cons (.t (.refl _)) (.nil)))) (.nil) rfl rfl a w hs) (fun ix hix => ?_)
    obtain ⟨hi, hpre⟩ := hix
    refine AT.seq ?_
    refine AT.seq ?_
    refine AT.region ?_   -- region 4 ref.go:198
    refine TrC.take rfl (step_move rfl rfl rfl) ?_   -- 0
    refine TrC.take rfl (step_move rfl rfl rfl) ?_   -- 1
    refine TrC.take rfl (step_lenT (rt := 0) rfl rfl sl22 rfl) ?_   -- 2
    refine TrC.take rfl (step_bin rfl rfl rfl rfl rfl) ?_   -- 3
    refine TrC.done ?_
    refine AT.cond rfl (fun h14 => ?_) (fun h14 => ?_)   -- t14
    · -- true
      have hlt : ix < a.length := by simpa using h14
      have hlt2 : ix < b.length := by omega
      refine Exists.elim (show ∃ x, x = a[ix] from ⟨_, rfl⟩) (fun x hx => ?_)
      have hget : (a.map encA)[ix]? = some (.agg [.i x.who, .b x.al, .i x.rt, .i x.rc, .b x.gv]) := by rw [List.getElem?_map, List.getElem?_eq_getElem hlt, hx]; rfl
      refine Exists.elim (show ∃ y, y = b[ix] from ⟨_, rfl⟩) (fun y hy => ?_)
      have hget2 : (b.map encA)[ix]? = some (.agg [.i y.who, .b y.al, .i y.rt, .i y.rc, .b y.gv]) := by rw [List.getElem?_map, List.getElem?_eq_getElem hlt2, hy]; rfl
      refine AT.skip ?_
      refine AT.seq ?_
      refine AT.block ?_   -- block 1
      refine AT.seq ?_
      refine AT.regionD mixed rfl ?_   -- region 6 ref.go:199
      refine TrC.take rfl (step_move rfl rfl rfl) ?_   -- 0
      refine TrC.take rfl (step_move rfl rfl rfl) ?_   -- 1
      refine TrC.take rfl (step_indexAddrT (v := .agg [.i x.who, .b x.al, .i x.rt, .i x.rc, .b x.gv]) rfl rfl rfl sl22 (by omega) (by first | exact hget | simpa using hget) rfl rfl) ?_   -- 2
      refine TrC.take rfl (step_loadTN rfl rfl ty31 rfl rfl) ?_   -- 3
      refine TrC.take rfl (step_move rfl rfl rfl) ?_   -- 4
      refine TrC.take rfl (step_move rfl rfl rfl) ?_   -- 5
      refine TrC.take rfl (step_indexAddrT (v := .agg [.i y.who, .b y.al, .i y.rt, .i y.rc, .b y.gv]) rfl rfl rfl sl22 (by omega) (by first | exact hget2 | simpa using hget2) rfl rfl) ?_   -- 6
      refine TrC.take rfl (step_loadTN rfl rfl ty31 rfl rfl) ?_   -- 7
      refine TrC.take rfl (step_nea rfl rfl rfl rfl rfl ty31 eg31 (eq31 _ _ _ _ _ _ _ _ _ _) rfl) ?_   -- 8
      refine TrC.doneD rfl ?_
      refine AT.cond rfl (fun h25 => ?_) (fun h25 => ?_)   -- t25
      · -- true
        have hs : decide (a = b) = false := decide_eq_false (fun he => by subst he; rw [hx, hy] at h25; simp at h25)
        refine AT.seq ?_
        refine AT.region ?_   -- region 7 ref.go:200
        refine TrC.take rfl (step_assign rfl rfl rfl) ?_   -- 0
        refine TrC.done ?_
        refine AT.ret ?_
        exact Ret.one rfl (ResR.tmp rfl (conv_b hs.symm))
      · -- false
        have heq : a[ix] = b[ix] := by rw [← hx, ← hy]; cases x; cases y; simpa using h25
        refine AT.skip ?_
        refine AT.region ?_   -- region 5 ref.go:198
        refine TrC.take rfl (step_move rfl rfl rfl) ?_   -- 0
        refine TrC.take rfl (step_addI rfl rfl rfl (by first | omega | (simp; done) | (simp; omega)) (by first | omega | (simp; done) | (simp; omega)) rfl) ?_   -- 1
        refine TrC.take rfl (step_assign rfl rfl rfl) ?_   -- 2
        refine TrC.done ?_
        exact ⟨ix + 1, ⟨by omega, fun j hj hj' hji => by
          by_cases he : j = ix
          · subst he; exact heq
          · exact hpre j hj hj' (by omega)⟩, by show a.length - (ix + 1) < a.length - ix; omega, Sat.wk [] (.cons (.t (.refl _)) (.cons (.t (.refl _)) (.cons (.t (conv_i (by simp))) (.nil)))) (.nil) rfl rfl⟩
    · -- false
      have hs : decide (a = b) = true := decide_eq_true (by
        have hge : ¬ ix < a.length := by simpa using h14
        exact List.ext_getElem e1 fun j h h' => hpre j h h' (by omega))
      refine AT.exit (Or.inl ⟨rfl, ?_⟩)   -- exit 0
      refine AT.seq ?_
      refine AT.region ?_   -- region 8 ref.go:203
      refine TrC.take rfl (step_assign rfl rfl rfl) ?_   -- 0
      refine TrC.done ?_
      refine AT.ret ?_
      exact Ret.one rfl (ResR.tmp rfl (conv_b hs.symm))

theorem C37 (a b : List Ace) (hl : a.length ≤ 1000000) : Has Try.prog 37 [.slice 5 (a.map encA), .slice 5 (b.map encA), .clo 38 []] (.b (decide (a = b))) := by   -- slices.EqualFunc[[]burgage/api.Ace,[]burgage/api.Ace,burgage/api.Ace,burgage/api.Ace]
  refine Has.intro 32 Try.func37 (by kernel_rfl) rfl rfl fun w ok => ?_
  refine AT.seq ?_
  refine AT.region ?_   -- region 0 slices.go:37
  refine TrC.take rfl (step_assign rfl rfl rfl) ?_   -- 0
  refine TrC.done ?_
  refine AT.seq ?_
  refine AT.seq ?_
  refine AT.region ?_   -- region 1 slices.go:38
  refine TrC.take rfl (step_move rfl rfl rfl) ?_   -- 0
  refine TrC.take rfl (step_lenT (rt := 0) rfl rfl sl22 rfl) ?_   -- 1
  refine TrC.take rfl (step_move rfl rfl rfl) ?_   -- 2
  refine TrC.take rfl (step_lenT (rt := 0) rfl rfl sl22 rfl) ?_   -- 3
  refine TrC.take rfl (step_bin rfl rfl rfl rfl rfl) ?_   -- 4
  refine TrC.done ?_
  refine AT.cond rfl (fun h14 => ?_) (fun h14 => ?_)   -- t14
  · -- true
    have hs : decide (a = b) = false := decide_eq_false (fun he => by subst he; simp at h14)
    refine AT.seq ?_
    refine AT.region ?_   -- region 2 slices.go:39
    refine TrC.take rfl (step_assign rfl rfl rfl) ?_   -- 0
    refine TrC.done ?_
    refine AT.ret ?_
    exact Ret.one rfl (ResR.tmp rfl (conv_b hs.symm))
  · -- false
    have e1 : a.length = b.length := by have h := h14; simp at h; omega
    refine AT.skip ?_
    refine AT.seq ?_
    refine AT.seq ?_
    refine AT.region ?_   -- region 3 slices.go:41
    refine TrC.take rfl (step_move rfl rfl rfl) ?_   -- 0
    refine TrC.take rfl (step_lenT (rt := 0) rfl rfl sl22 rfl) ?_   -- 1
    refine TrC.take rfl (step_move rfl rfl rfl) ?_   -- 2
    refine TrC.done ?_
    refine AT.block ?_   -- block 0
    refine AT.loopP (fun i : Nat => i ≤ a.length ∧ ∀ j (h : j < a.length) (h' : j < b.length), j < i → a[j] = b[j]) (fun i => mkS [(1, .t (.slice 5 (b.map encA))), (2, .t (.clo 38 [])), (15, .t (.slice 5 (a.map encA))), (16, .t (.i a.length)), (17, .t (.i i))] []) (fun i => a.length - i) (0) (⟨by omega, fun j h h' hj => by omega⟩) (fun a w hs => Sat.wk [] (.cons (.t (.refl _)) (.cons (.t (.refl _)) (.cons (.t (.refl _)) (.cons (.t (conv_i (by simp))) (.cons (.t (.refl _)) (.nil)))))) (.nil) rfl rfl a w hs) (fun ix hix => ?_)
    obtain ⟨hi, hpre⟩ := hix
    refine AT.seq ?_
    refine AT.region ?_   -- region 4 slices.go:41
    refine TrC.take rfl (step_bin rfl rfl rfl rfl rfl) ?_   -- 0
    refine TrC.done ?_
    refine AT.seq ?_
    refine AT.cond rfl (fun h18 => ?_) (fun h18 => ?_)   -- t18
    · -- true
      have hlt : ix < a.length := by simpa using h18
      have hlt2 : ix < b.length := by omega
      refine Exists.elim (show ∃ x, x = a[ix] from ⟨_, rfl⟩) (fun x hx => ?_)
      have hget : (a.map encA)[ix]? = some (.agg [.i x.who, .b x.al, .i x.rt, .i x.rc, .b x.gv]) := by rw [List.getElem?_map, List.getElem?_eq_getElem hlt, hx]; rfl
      refine Exists.elim (show ∃ y, y = b[ix] from ⟨_, rfl⟩) (fun y hy => ?_)
      have hget2 : (b.map encA)[ix]? = some (.agg [.i y.who, .b y.al, .i y.rt, .i y.rc, .b y.gv]) := by rw [List.getElem?_map, List.getElem?_eq_getElem hlt2, hy]; rfl
      refine AT.skip ?_
      refine AT.seq ?_
      refine AT.block ?_   -- block 1
      refine AT.seq ?_
      refine AT.region ?_   -- region 5 slices.go:41
      refine TrC.take rfl (step_move rfl rfl rfl) ?_   -- 0
      refine TrC.take rfl (step_indexAddrT (v := .agg [.i x.who, .b x.al, .i x.rt, .i x.rc, .b x.gv]) rfl rfl rfl sl22 (by omega) (by first | exact hget | simpa using hget) rfl rfl) ?_   -- 1
      refine TrC.take rfl (step_loadTN rfl rfl ty31 rfl rfl) ?_   -- 2
      refine TrC.take rfl (step_alloc rfl rfl ze31 rfl rfl rfl) ?_   -- 3
      refine TrC.take rfl (step_assign rfl rfl rfl) ?_   -- 4
      refine TrC.take rfl (step_storeP rfl rfl rfl rfl rfl (.inl rfl) ty31 rfl rfl rfl) ?_   -- 5
      refine TrC.done ?_
      refine AT.seq ?_
      refine AT.region ?_   -- region 6 slices.go:42
      refine TrC.take rfl (step_move rfl rfl rfl) ?_   -- 0
      refine TrC.take rfl (step_move rfl rfl rfl) ?_   -- 1
      refine TrC.take rfl (step_indexAddrT (v := .agg [.i y.who, .b y.al, .i y.rt, .i y.rc, .b y.gv]) rfl rfl rfl sl22 (by omega) (by first | exact hget2 | simpa using hget2) rfl rfl) ?_   -- 2
      refine TrC.take rfl (step_loadTN rfl rfl ty31 rfl rfl) ?_   -- 3
      refine TrC.take rfl (step_alloc rfl rfl ze31 rfl rfl rfl) ?_   -- 4
      refine TrC.take rfl (step_storeP rfl rfl rfl rfl rfl (.inl rfl) ty31 rfl rfl rfl) ?_   -- 5
      refine TrC.done ?_
      refine AT.seq ?_
      refine AT.region ?_   -- region 7 slices.go:43
      refine TrC.take rfl (step_move rfl rfl rfl) ?_   -- 0
      refine TrC.take rfl (step_loadPN rfl rfl rfl ty31 rfl rfl rfl) ?_   -- 1
      refine TrC.take rfl (step_loadPN rfl rfl rfl ty31 rfl rfl rfl) ?_   -- 2
      refine TrC.take rfl (step_callC rfl rfl (.refl _) rfl (C38 x y) (ConvL.refl _) rfl) ?_   -- 3
      refine TrC.take rfl (step_not rfl rfl rfl) ?_   -- 4
      refine TrC.done ?_
      refine AT.cond rfl (fun h30 => ?_) (fun h30 => ?_)   -- t30
      · -- true
        have hs : decide (a = b) = false := decide_eq_false (fun he => by subst he; rw [hx, hy] at h30; simp at h30)
        refine AT.seq ?_
        refine AT.region ?_   -- region 8 slices.go:44
        refine TrC.take rfl (step_assign rfl rfl rfl) ?_   -- 0
        refine TrC.done ?_
        refine AT.ret ?_
        exact Ret.one rfl (ResR.tmp rfl (conv_b hs.symm))
      · -- false
        have heq : a[ix] = b[ix] := by rw [← hx, ← hy]; simpa using h30
        refine AT.skip ?_
        refine AT.region ?_   -- region 9 slices.go:41
        refine TrC.take rfl (step_addI rfl rfl rfl (by first | omega | (simp; done) | (simp; omega)) (by first | omega | (simp; done) | (simp; omega)) rfl) ?_   -- 0
        refine TrC.take rfl (step_move rfl rfl rfl) ?_   -- 1
        refine TrC.done ?_
        exact ⟨ix + 1, ⟨by omega, fun j hj hj' hji => by
          by_cases he : j = ix
          · subst he; exact heq
          · exact hpre j hj hj' (by omega)⟩, by show a.length - (ix + 1) < a.length - ix; omega, Sat.wk [] (.cons (.t (.refl _)) (.cons (.t (.refl _)) (.cons (.t (.refl _)) (.cons (.t (.refl _)) (.cons (.t (conv_i (by simp))) (.nil)))))) (.nil) rfl rfl⟩
    · -- false
      have hs : decide (a = b) = true := decide_eq_true (by
        have hge : ¬ ix < a.length := by simpa using h18
        exact List.ext_getElem e1 fun j h h' => hpre j h h' (by omega))
      refine AT.exit (Or.inl ⟨rfl, ?_⟩)   -- exit 0
      refine AT.seq ?_
      refine AT.region ?_   -- region 10 slices.go:47
      refine TrC.take rfl (step_assign rfl rfl rfl) ?_   -- 0
      refine TrC.done ?_
      refine AT.ret ?_
      exact Ret.one rfl (ResR.tmp rfl (conv_b hs.symm))

end Go.Proofs.Ytgblfhobiibeaaa.Acl

/- Contracts of functions of this translation. Printed by wip/tools/gen.py out of wip/acl/ann.py. No condition. -/
set_option linter.unusedVariables false
set_option linter.unusedSimpArgs false
namespace Go.Proofs.Ytgblfhobiibeaaa.Acl
open Go.Proofs.Ytgblfhobiibeaaa.Abs
set_option maxRecDepth 100000
set_option maxHeartbeats 4000000
theorem C14 (l : List Ace) (hl : l.length ≤ 1000000) : Has Try.prog 14 [.slice 5 (l.map encA)] (.b (valid l)) := by   -- burgage/burgageref02.Valid
  refine Has.intro 54 Try.func14 (by kernel_rfl) rfl rfl fun w ok => ?_
  refine AT.seq ?_
  refine AT.region ?_   -- region 0 ref.go:17
  refine TrC.take rfl (step_assign rfl rfl rfl) ?_   -- 0
  refine TrC.done ?_
  refine AT.seq ?_
  refine AT.seq ?_
  refine AT.region ?_   -- region 1 ref.go:18
  refine TrC.take rfl (step_assign rfl rfl rfl) ?_   -- 0
  refine TrC.done ?_
  refine AT.block ?_   -- block 0
  refine AT.loopP (fun i : Nat => i ≤ l.length ∧ ∀ j, j < i → okA l j = true) (fun i => mkS [(0, .t (.slice 5 (l.map encA))), (3, .t (.i i))] []) (fun i => l.length - i) (0) (⟨Nat.zero_le _, fun j hj => by omega⟩) (fun a w hs => Sat.wk [] (.cons (.t (.refl _)) (.cons (.t (.refl _)) (.nil))) (.nil) rfl rfl a w hs) (fun ix hix => ?_)
  obtain ⟨hi, hpre⟩ := hix
  refine AT.seq ?_
  refine AT.seq ?_
  refine AT.region ?_   -- region 2 ref.go:18
  refine TrC.take rfl (step_move rfl rfl rfl) ?_   -- 0
  refine TrC.take rfl (step_move rfl rfl rfl) ?_   -- 1
  refine TrC.take rfl (step_lenT (rt := 0) rfl rfl sl22 rfl) ?_   -- 2
  refine TrC.take rfl (step_bin rfl rfl rfl rfl rfl) ?_   -- 3
  refine TrC.done ?_
  refine AT.cond rfl (fun h8 => ?_) (fun h8 => ?_)   -- t8
  · -- true
    have hlt : ix < l.length := by simpa using h8
    refine Exists.elim (show ∃ e, e = l[ix] from ⟨_, rfl⟩) (fun e he => ?_)
    have hget : (l.map encA)[ix]? = some (.agg [.i e.who, .b e.al, .i e.rt, .i e.rc, .b e.gv]) := by rw [List.getElem?_map, List.getElem?_eq_getElem hlt, he]; rfl
    refine AT.skip ?_
    refine AT.seq ?_
    refine AT.block ?_   -- block 1
    refine AT.seq ?_
    refine AT.seqJ (mkS [(0, .t (.slice 5 (l.map encA))), (3, .t (.i ix)), (36, .t (.b (!(right e && !(lastG l ix && !e.gv)))))] []) ?_ ?_
    ·
      refine AT.region ?_   -- region 4 ref.go:19
      refine TrC.take rfl (step_move rfl rfl rfl) ?_   -- 0
      refine TrC.take rfl (step_move rfl rfl rfl) ?_   -- 1
      refine TrC.take rfl (step_indexAddrT (v := .agg [.i e.who, .b e.al, .i e.rt, .i e.rc, .b e.gv]) rfl rfl rfl sl22 (by omega) (by first | exact hget | simpa using hget) rfl rfl) ?_   -- 2
      refine TrC.take rfl (step_loadTN rfl rfl ty31 rfl rfl) ?_   -- 3
      refine TrC.take rfl (step_call0 rfl rfl (C35 e) rfl) ?_   -- 4
      refine TrC.take rfl (step_not rfl rfl rfl) ?_   -- 5
      refine TrC.take rfl (step_move rfl rfl rfl) ?_   -- 6
      refine TrC.cases (d := 17) rfl (fun h17 => ?_) (fun h17 => ?_)
      · -- t17 = true
        refine TrC.skip ⟨_, _, rfl, rfl, rfl⟩ ?_   -- 7
        refine TrC.skip ⟨_, _, rfl, rfl, rfl⟩ ?_   -- 8
        refine TrC.skip ⟨_, _, rfl, rfl, rfl⟩ ?_   -- 9
        refine TrC.skip ⟨_, _, rfl, rfl, rfl⟩ ?_   -- 10
        refine TrC.skip ⟨_, _, rfl, rfl, rfl⟩ ?_   -- 11
        refine TrC.skip ⟨_, _, rfl, rfl, rfl⟩ ?_   -- 12
        refine TrC.skip ⟨_, _, rfl, rfl, rfl⟩ ?_   -- 13
        refine TrC.skip ⟨_, _, rfl, rfl, rfl⟩ ?_   -- 14
        refine TrC.skip ⟨_, _, rfl, rfl, rfl⟩ ?_   -- 15
        refine TrC.skip ⟨_, _, rfl, rfl, rfl⟩ ?_   -- 16
        refine TrC.skip ⟨_, _, rfl, rfl, rfl⟩ ?_   -- 17
        refine TrC.skip ⟨_, _, rfl, rfl, rfl⟩ ?_   -- 18
        refine TrC.skip ⟨_, _, rfl, rfl, rfl⟩ ?_   -- 19
        refine TrC.skip ⟨_, _, rfl, rfl, rfl⟩ ?_   -- 20
        refine TrC.skip ⟨_, _, rfl, rfl, rfl⟩ ?_   -- 21
        refine TrC.skip ⟨_, _, rfl, rfl, rfl⟩ ?_   -- 22
        refine TrC.skip ⟨_, _, rfl, rfl, rfl⟩ ?_   -- 23
        refine TrC.skip ⟨_, _, rfl, rfl, rfl⟩ ?_   -- 24
        refine TrC.take rfl (step_pick rfl rfl rfl rfl) ?_   -- 25
        refine TrC.done ?_
        exact Sat.wk [] (.cons (.t (.refl _)) (.cons (.t (.refl _)) (.cons (.t (conv_b (by first | (simp_all; done) | (rw [Bool.eq_iff_iff]; simp_all; done)))) (.nil)))) (.nil) rfl rfl
      · -- t17 = false
        refine TrC.take ⟨_, _, rfl, rfl, rfl⟩ (step_move rfl rfl rfl) ?_   -- 7
        refine TrC.take ⟨_, _, rfl, rfl, rfl⟩ (step_bin rfl rfl rfl rfl rfl) ?_   -- 8
        refine TrC.take ⟨_, _, rfl, rfl, rfl⟩ (step_move rfl rfl rfl) ?_   -- 9
        refine TrC.cases (d := 20) rfl (fun h20 => ?_) (fun h20 => ?_)
        · -- t20 = true
          have hpos : 0 < ix := by have h := h20; simp at h; omega
          have hlg : lastG l ix = l[ix - 1].gv := by unfold lastG; rw [if_neg (by omega), getA_lt (by omega)]
          refine Exists.elim (show ∃ e1, e1 = l[ix - 1] from ⟨_, rfl⟩) (fun e1 he1 => ?_)
          have hget1 : (l.map encA)[ix - 1]? = some (.agg [.i e1.who, .b e1.al, .i e1.rt, .i e1.rc, .b e1.gv]) := by rw [List.getElem?_map, List.getElem?_eq_getElem (by omega), he1]; rfl
          rw [← he1] at hlg
          refine TrC.take ⟨_, _, rfl, rfl, rfl⟩ (step_move rfl rfl rfl) ?_   -- 10
          refine TrC.take ⟨_, _, rfl, rfl, rfl⟩ (step_move rfl rfl rfl) ?_   -- 11
          refine TrC.take ⟨_, _, rfl, rfl, rfl⟩ (step_subI rfl rfl rfl (by first | omega | (simp; done) | (simp; omega)) (by first | omega | (simp; done) | (simp; omega)) rfl) ?_   -- 12
          refine TrC.take ⟨_, _, rfl, rfl, rfl⟩ (step_indexAddrT (v := .agg [.i e1.who, .b e1.al, .i e1.rt, .i e1.rc, .b e1.gv]) rfl rfl rfl sl22 (by omega) (by rw [show ((ix : Int) - 1).toNat = ix - 1 from by omega]; exact hget1) rfl rfl) ?_   -- 13
          refine TrC.take ⟨_, _, rfl, rfl, rfl⟩ (step_fieldAddrT rfl rfl fd31_4 rfl rfl rfl) ?_   -- 14
          refine TrC.take ⟨_, _, rfl, rfl, rfl⟩ (step_loadT1 rfl rfl ty4 rfl rfl) ?_   -- 15
          refine TrC.take ⟨_, _, rfl, rfl, rfl⟩ (step_pick rfl rfl rfl rfl) ?_   -- 16
          refine TrC.take ⟨_, _, rfl, rfl, rfl⟩ (step_move rfl rfl rfl) ?_   -- 17
          refine TrC.cases (d := 28) rfl (fun h28 => ?_) (fun h28 => ?_)
          · -- t28 = true
            refine TrC.take ⟨_, _, rfl, rfl, rfl⟩ (step_move rfl rfl rfl) ?_   -- 18
            refine TrC.take ⟨_, _, rfl, rfl, rfl⟩ (step_move rfl rfl rfl) ?_   -- 19
            refine TrC.take ⟨_, _, rfl, rfl, rfl⟩ (step_indexAddrT (v := .agg [.i e.who, .b e.al, .i e.rt, .i e.rc, .b e.gv]) rfl rfl rfl sl22 (by omega) (by first | exact hget | simpa using hget) rfl rfl) ?_   -- 20
            refine TrC.take ⟨_, _, rfl, rfl, rfl⟩ (step_fieldAddrT rfl rfl fd31_4 rfl rfl rfl) ?_   -- 21
            refine TrC.take ⟨_, _, rfl, rfl, rfl⟩ (step_loadT1 rfl rfl ty4 rfl rfl) ?_   -- 22
            refine TrC.take ⟨_, _, rfl, rfl, rfl⟩ (step_not rfl rfl rfl) ?_   -- 23
            refine TrC.take ⟨_, _, rfl, rfl, rfl⟩ (step_pick rfl rfl rfl rfl) ?_   -- 24
            refine TrC.take rfl (step_pick rfl rfl rfl rfl) ?_   -- 25
            refine TrC.done ?_
            exact Sat.wk [] (.cons (.t (.refl _)) (.cons (.t (.refl _)) (.cons (.t (conv_b (by first | (simp_all; done) | (rw [Bool.eq_iff_iff]; simp_all; done)))) (.nil)))) (.nil) rfl rfl
          · -- t28 = false
            refine TrC.skip ⟨_, _, rfl, rfl, rfl⟩ ?_   -- 18
            refine TrC.skip ⟨_, _, rfl, rfl, rfl⟩ ?_   -- 19
            refine TrC.skip ⟨_, _, rfl, rfl, rfl⟩ ?_   -- 20
            refine TrC.skip ⟨_, _, rfl, rfl, rfl⟩ ?_   -- 21
            refine TrC.skip ⟨_, _, rfl, rfl, rfl⟩ ?_   -- 22
            refine TrC.skip ⟨_, _, rfl, rfl, rfl⟩ ?_   -- 23
            refine TrC.take ⟨_, _, rfl, rfl, rfl⟩ (step_pick rfl rfl rfl rfl) ?_   -- 24
            refine TrC.take rfl (step_pick rfl rfl rfl rfl) ?_   -- 25
            refine TrC.done ?_
            exact Sat.wk [] (.cons (.t (.refl _)) (.cons (.t (.refl _)) (.cons (.t (conv_b (by first | (simp_all; done) | (rw [Bool.eq_iff_iff]; simp_all; done)))) (.nil)))) (.nil) rfl rfl
        · -- t20 = false
          have hlg : lastG l ix = false := by unfold lastG; rw [if_pos (by have h := h20; simp at h; omega)]
          refine TrC.skip ⟨_, _, rfl, rfl, rfl⟩ ?_   -- 10
          refine TrC.skip ⟨_, _, rfl, rfl, rfl⟩ ?_   -- 11
          refine TrC.skip ⟨_, _, rfl, rfl, rfl⟩ ?_   -- 12
          refine TrC.skip ⟨_, _, rfl, rfl, rfl⟩ ?_   -- 13
          refine TrC.skip ⟨_, _, rfl, rfl, rfl⟩ ?_   -- 14
          refine TrC.skip ⟨_, _, rfl, rfl, rfl⟩ ?_   -- 15
          refine TrC.take ⟨_, _, rfl, rfl, rfl⟩ (step_pick rfl rfl rfl rfl) ?_   -- 16
          refine TrC.take ⟨_, _, rfl, rfl, rfl⟩ (step_move rfl rfl rfl) ?_   -- 17
          refine TrC.skip ⟨_, _, rfl, rfl, rfl⟩ ?_   -- 18
          refine TrC.skip ⟨_, _, rfl, rfl, rfl⟩ ?_   -- 19
          refine TrC.skip ⟨_, _, rfl, rfl, rfl⟩ ?_   -- 20
          refine TrC.skip ⟨_, _, rfl, rfl, rfl⟩ ?_   -- 21
          refine TrC.skip ⟨_, _, rfl, rfl, rfl⟩ ?_   -- 22
          refine TrC.skip ⟨_, _, rfl, rfl, rfl⟩ ?_   -- 23
          refine TrC.take ⟨_, _, rfl, rfl, rfl⟩ (step_pick rfl rfl rfl rfl) ?_   -- 24
          refine TrC.take rfl (step_pick rfl rfl rfl rfl) ?_   -- 25
          refine TrC.done ?_
          exact Sat.wk [] (.cons (.t (.refl _)) (.cons (.t (.refl _)) (.cons (.t (conv_b (by first | (simp_all; done) | (rw [Bool.eq_iff_iff]; simp_all; done)))) (.nil)))) (.nil) rfl rfl
    ·
      refine AT.cond rfl (fun h36 => ?_) (fun h36 => ?_)   -- t36
      · -- true
        have hs : valid l = false := valid_bad hlt (by rw [okA_eq hlt, ← he, show (right e && !(lastG l ix && !e.gv)) = false from not_t h36]; rfl)
        refine AT.seq ?_
        refine AT.region ?_   -- region 5 ref.go:20
        refine TrC.take rfl (step_assign rfl rfl rfl) ?_   -- 0
        refine TrC.done ?_
        refine AT.ret ?_
        exact Ret.one rfl (ResR.tmp rfl (conv_b hs.symm))
      · -- false
        have hX : (right e && !(lastG l ix && !e.gv)) = true := not_f h36
        refine AT.skip ?_
        refine AT.seq ?_
        refine AT.region ?_   -- region 6 ref.go:22
        refine TrC.take rfl (step_assign rfl rfl rfl) ?_   -- 0
        refine TrC.done ?_
        refine AT.block ?_   -- block 2
        refine AT.loopP (fun k : Nat => k ≤ ix ∧ ∀ j (h : j < l.length), j < k → marked l[j] e = false) (fun k => mkS [(0, .t (.slice 5 (l.map encA))), (3, .t (.i ix)), (4, .t (.i k))] []) (fun k => ix - k) (0) (⟨Nat.zero_le _, fun j h hj => by omega⟩) (fun a w hs => Sat.wk [] (.cons (.t (.refl _)) (.cons (.t (.refl _)) (.cons (.t (.refl _)) (.nil)))) (.nil) rfl rfl a w hs) (fun k hk => ?_)
        obtain ⟨hk, hkpre⟩ := hk
        refine AT.seq ?_
        refine AT.seq ?_
        refine AT.region ?_   -- region 7 ref.go:22
        refine TrC.take rfl (step_move rfl rfl rfl) ?_   -- 0
        refine TrC.take rfl (step_move rfl rfl rfl) ?_   -- 1
        refine TrC.take rfl (step_bin rfl rfl rfl rfl rfl) ?_   -- 2
        refine TrC.done ?_
        refine AT.cond rfl (fun h39 => ?_) (fun h39 => ?_)   -- t39
        · -- true
          have hki : k < ix := by simpa using h39
          refine Exists.elim (show ∃ b, b = l[k] from ⟨_, rfl⟩) (fun b hb => ?_)
          have hget2 : (l.map encA)[k]? = some (.agg [.i b.who, .b b.al, .i b.rt, .i b.rc, .b b.gv]) := by rw [List.getElem?_map, List.getElem?_eq_getElem (by omega), hb]; rfl
          refine AT.skip ?_
          refine AT.seq ?_
          refine AT.block ?_   -- block 3
          refine AT.seq ?_
          refine AT.regionD mixed rfl ?_   -- region 9 ref.go:23
          refine TrC.take rfl (step_move rfl rfl rfl) ?_   -- 0
          refine TrC.take rfl (step_move rfl rfl rfl) ?_   -- 1
          refine TrC.take rfl (step_indexAddrT (v := .agg [.i b.who, .b b.al, .i b.rt, .i b.rc, .b b.gv]) rfl rfl rfl sl22 (by omega) (by first | exact hget2 | simpa using hget2) rfl rfl) ?_   -- 2
          refine TrC.take rfl (step_loadTN rfl rfl ty31 rfl rfl) ?_   -- 3
          refine TrC.take rfl (step_move rfl rfl rfl) ?_   -- 4
          refine TrC.take rfl (step_move rfl rfl rfl) ?_   -- 5
          refine TrC.take rfl (step_indexAddrT (v := .agg [.i e.who, .b e.al, .i e.rt, .i e.rc, .b e.gv]) rfl rfl rfl sl22 (by omega) (by first | exact hget | simpa using hget) rfl rfl) ?_   -- 6
          refine TrC.take rfl (step_loadTN rfl rfl ty31 rfl rfl) ?_   -- 7
          refine TrC.take rfl (step_call0 rfl rfl (C32 b e) rfl) ?_   -- 8
          refine TrC.doneD rfl ?_
          refine AT.cond rfl (fun h50 => ?_) (fun h50 => ?_)   -- t50
          · -- true
            have hs : valid l = false := valid_bad hlt (okA_mark hlt hki (by rw [← hb, ← he]; exact h50))
            refine AT.seq ?_
            refine AT.region ?_   -- region 10 ref.go:24
            refine TrC.take rfl (step_assign rfl rfl rfl) ?_   -- 0
            refine TrC.done ?_
            refine AT.ret ?_
            exact Ret.one rfl (ResR.tmp rfl (conv_b hs.symm))
          · -- false
            refine AT.skip ?_
            refine AT.region ?_   -- region 8 ref.go:22
            refine TrC.take rfl (step_move rfl rfl rfl) ?_   -- 0
            refine TrC.take rfl (step_addI rfl rfl rfl (by first | omega | (simp; done) | (simp; omega)) (by first | omega | (simp; done) | (simp; omega)) rfl) ?_   -- 1
            refine TrC.take rfl (step_assign rfl rfl rfl) ?_   -- 2
            refine TrC.done ?_
            exact ⟨k + 1, ⟨by omega, fun j hj hji => by
              by_cases he' : j = k
              · subst he'; rw [← hb]; exact h50
              · exact hkpre j hj (by omega)⟩, by show ix - (k + 1) < ix - k; omega, Sat.wk [] (.cons (.t (.refl _)) (.cons (.t (.refl _)) (.cons (.t (conv_i (by simp))) (.nil)))) .nil rfl rfl⟩
        · -- false
          have hki : k = ix := by have h := h39; simp at h; omega
          refine AT.exit (Or.inl ⟨rfl, ?_⟩)   -- exit 2
          refine AT.region ?_   -- region 3 ref.go:18
          refine TrC.take rfl (step_move rfl rfl rfl) ?_   -- 0
          refine TrC.take rfl (step_addI rfl rfl rfl (by first | omega | (simp; done) | (simp; omega)) (by first | omega | (simp; done) | (simp; omega)) rfl) ?_   -- 1
          refine TrC.take rfl (step_assign rfl rfl rfl) ?_   -- 2
          refine TrC.done ?_
          have hok : okA l ix = true := okA_good hlt (by rw [← he]; exact hX) (fun j hj hji => by rw [← he]; exact hkpre j hj (by omega))
          exact ⟨ix + 1, ⟨hlt, fun j hji => by
            by_cases hj : j = ix
            · subst hj; exact hok
            · exact hpre j (by omega)⟩, by show l.length - (ix + 1) < l.length - ix; omega, Sat.wk [] (.cons (.t (.refl _)) (.cons (.t (conv_i (by simp))) (.nil))) (.nil) rfl rfl⟩
  · -- false
    have hge : ¬ ix < l.length := by simpa using h8
    have hA : ∀ i, i < l.length → okA l i = true := fun i hi => hpre i (by omega)
    refine AT.exit (Or.inl ⟨rfl, ?_⟩)   -- exit 0
    refine AT.seq ?_
    refine AT.region ?_   -- region 11 ref.go:28
    refine TrC.take rfl (step_move rfl rfl rfl) ?_   -- 0
    refine TrC.take rfl (step_lenT (rt := 0) rfl rfl sl22 rfl) ?_   -- 1
    refine TrC.take rfl (step_bin rfl rfl rfl rfl rfl) ?_   -- 2
    refine TrC.take rfl (step_assign rfl rfl rfl) ?_   -- 3
    refine TrC.done ?_
    refine AT.ret ?_
    exact Ret.one rfl (ResR.tmp rfl (conv_b (by unfold valid; rw [decide_eq_true hA]; simp; try omega)))

end Go.Proofs.Ytgblfhobiibeaaa.Acl

/- Contracts of functions of this translation. Printed by wip/tools/gen.py out of wip/acl/ann.py. No condition. -/
set_option linter.unusedVariables false
set_option linter.unusedSimpArgs false
namespace Go.Proofs.Ytgblfhobiibeaaa.Acl
open Go.Proofs.Ytgblfhobiibeaaa.Abs
set_option maxRecDepth 100000
set_option maxHeartbeats 4000000
theorem C13 (l : List Ace) (hl : l.length ≤ 1000000) : Has Try.prog 13 [.slice 5 (l.map encA)] (.b (valid l)) := by   -- burgage/acl.Valid
  refine Has.intro 42 Try.func13 (by kernel_rfl) rfl rfl fun w ok => ?_
  refine AT.seq ?_
  refine AT.region ?_   -- region 0 acl.go:32
  refine TrC.take rfl (step_assign rfl rfl rfl) ?_   -- 0
  refine TrC.done ?_
  refine AT.seq ?_
  refine AT.region ?_   -- region 1 acl.go:33
  refine TrC.take rfl (step_makeMap rfl rfl rfl rfl) ?_   -- 0
  refine TrC.take rfl (step_assign rfl rfl rfl) ?_   -- 1
  refine TrC.done ?_
  refine AT.seq ?_
  refine AT.region ?_   -- region 2 acl.go:34
  refine TrC.take rfl (step_assign rfl rfl rfl) ?_   -- 0
  refine TrC.done ?_
  refine AT.seq ?_
  refine AT.seq ?_
  refine AT.region ?_   -- region 3 acl.go:35
  refine TrC.take rfl (step_move rfl rfl rfl) ?_   -- 0
  refine TrC.take rfl (step_lenT (rt := 0) rfl rfl sl22 rfl) ?_   -- 1
  refine TrC.take rfl (step_move rfl rfl rfl) ?_   -- 2
  refine TrC.done ?_
  refine AT.block ?_   -- block 0
  refine AT.loopP (fun i : Nat => i ≤ l.length ∧ ∀ j, j < i → okA l j = true) (fun i => mkS [(0, .t (.slice 5 (l.map encA))), (3, .h 60), (4, .t (.b (lastG l i))), (8, .t (.slice 5 (l.map encA))), (9, .t (.i l.length)), (10, .t (.i i))] [(60, .mp (ents (gm (sn l i))) (gm (sn l i)).length)]) (fun i => l.length - i) (0) (⟨Nat.zero_le _, fun j hj => by omega⟩) (fun a w hs => Sat.wk [(60, 7)] (.cons (.t (.refl _)) (.cons (.h (j := 60) rfl) (.cons (.t (conv_b (rfl))) (.cons (.t (.refl _)) (.cons (.t (conv_i (by simp))) (.cons (.t (.refl _)) (.nil))))))) (.cons rfl (.mp rfl rfl) (.nil)) rfl rfl a w hs) (fun ix hix => ?_)
  obtain ⟨hi, hpre⟩ := hix
  refine AT.seq ?_
  refine AT.region ?_   -- region 4 acl.go:35
  refine TrC.take rfl (step_bin rfl rfl rfl rfl rfl) ?_   -- 0
  refine TrC.done ?_
  refine AT.seq ?_
  refine AT.cond rfl (fun h11 => ?_) (fun h11 => ?_)   -- t11
  · -- true
    have hlt : ix < l.length := by simpa using h11
    refine Exists.elim (show ∃ e, e = l[ix] from ⟨_, rfl⟩) (fun e he => ?_)
    have hget : (l.map encA)[ix]? = some (.agg [.i e.who, .b e.al, .i e.rt, .i e.rc, .b e.gv]) := by rw [List.getElem?_map, List.getElem?_eq_getElem hlt, he]; rfl
    refine Exists.elim (show ∃ an, an = ((l.take ix).any fun a => decide (mk a = mk e)) from ⟨_, rfl⟩) (fun an han => ?_)
    have hoe : okA l ix = ((right e && !(lastG l ix && !e.gv)) && !an) := by rw [okA_eq hlt, ← he, han]
    refine AT.skip ?_
    refine AT.seq ?_
    refine AT.block ?_   -- block 1
    refine AT.seq ?_
    refine AT.region ?_   -- region 5 acl.go:35
    refine TrC.take rfl (step_indexAddrT (v := .agg [.i e.who, .b e.al, .i e.rt, .i e.rc, .b e.gv]) rfl rfl rfl sl22 (by omega) (by first | exact hget | simpa using hget) rfl rfl) ?_   -- 0
    refine TrC.take rfl (step_loadTN rfl rfl ty31 rfl rfl) ?_   -- 1
    refine TrC.take rfl (step_alloc rfl rfl ze31 rfl rfl rfl) ?_   -- 2
    refine TrC.take rfl (step_storeP rfl rfl rfl rfl rfl (.inl rfl) ty31 rfl rfl rfl) ?_   -- 3
    refine TrC.done ?_
    refine AT.seq ?_
    refine AT.seqJ (mkS [(0, .t (.slice 5 (l.map encA))), (3, .h 60), (4, .t (.b (lastG l ix))), (6, .p 6 0), (8, .t (.slice 5 (l.map encA))), (9, .t (.i l.length)), (10, .t (.i ix)), (30, .t (.b (!okA l ix)))] [(6, .box 31 [.t (.i e.who), .t (.b e.al), .t (.i e.rt), .t (.i e.rc), .t (.b e.gv)]), (60, .mp (ents (gm (sn l ix))) (gm (sn l ix)).length)]) ?_ ?_
    ·
      refine AT.region ?_   -- region 6 acl.go:36
      refine TrC.take rfl (step_loadPN rfl rfl rfl ty31 rfl rfl rfl) ?_   -- 0
      refine TrC.take rfl (step_call0 rfl rfl (C33 e) rfl) ?_   -- 1
      refine TrC.take rfl (step_not rfl rfl rfl) ?_   -- 2
      refine TrC.take rfl (step_move rfl rfl rfl) ?_   -- 3
      refine TrC.cases (d := 17) rfl (fun h17 => ?_) (fun h17 => ?_)
      · -- t17 = true
        refine TrC.skip ⟨_, _, rfl, rfl, rfl⟩ ?_   -- 4
        refine TrC.skip ⟨_, _, rfl, rfl, rfl⟩ ?_   -- 5
        refine TrC.skip ⟨_, _, rfl, rfl, rfl⟩ ?_   -- 6
        refine TrC.skip ⟨_, _, rfl, rfl, rfl⟩ ?_   -- 7
        refine TrC.take rfl (step_pick rfl rfl rfl rfl) ?_   -- 8
        refine TrC.take rfl (step_move rfl rfl rfl) ?_   -- 9
        refine TrC.skip ⟨_, _, rfl, rfl, rfl⟩ ?_   -- 10
        refine TrC.skip ⟨_, _, rfl, rfl, rfl⟩ ?_   -- 11
        refine TrC.skip ⟨_, _, rfl, rfl, rfl⟩ ?_   -- 12
        refine TrC.skip ⟨_, _, rfl, rfl, rfl⟩ ?_   -- 13
        refine TrC.skip ⟨_, _, rfl, rfl, rfl⟩ ?_   -- 14
        refine TrC.skip ⟨_, _, rfl, rfl, rfl⟩ ?_   -- 15
        refine TrC.take rfl (step_pick rfl rfl rfl rfl) ?_   -- 16
        refine TrC.done ?_
        exact Sat.wk [] (.cons (.t (.refl _)) (.cons (.h rfl) (.cons (.t (.refl _)) (.cons (.p rfl) (.cons (.t (.refl _)) (.cons (.t (.refl _)) (.cons (.t (.refl _)) (.cons (.t (conv_b (by clear han; rw [hoe]; first | (simp_all; done) | (rw [Bool.eq_iff_iff]; simp_all; done)))) (.nil))))))))) (.cons rfl (.box (.cons (.t (.refl _)) (.cons (.t (.refl _)) (.cons (.t (.refl _)) (.cons (.t (.refl _)) (.cons (.t (.refl _)) (.nil))))))) (.cons rfl (.mp rfl rfl) (.nil))) rfl rfl
      · -- t17 = false
        refine TrC.take ⟨_, _, rfl, rfl, rfl⟩ (step_move rfl rfl rfl) ?_   -- 4
        refine TrC.take ⟨_, _, rfl, rfl, rfl⟩ (step_loadPN rfl rfl rfl ty31 rfl rfl rfl) ?_   -- 5
        refine TrC.take ⟨_, _, rfl, rfl, rfl⟩ (step_call0 rfl rfl (C34 e) rfl) ?_   -- 6
        refine TrC.take ⟨_, _, rfl, rfl, rfl⟩ (step_lookup rfl rfl rfl rfl rfl mp57 zv4 (keyAt (sn l ix) (mk e)) rfl) ?_   -- 7
        refine TrC.spell 21 rfl (congrArg T.v ((look_gm _ _ _).trans ((sn_look _ _ _).trans (congrArg Value.bool han.symm)))) ?_
        refine TrC.take rfl (step_pick rfl rfl rfl rfl) ?_   -- 8
        refine TrC.take rfl (step_move rfl rfl rfl) ?_   -- 9
        refine TrC.cases (d := 23) rfl (fun h23 => ?_) (fun h23 => ?_)
        · -- t23 = true
          refine TrC.skip ⟨_, _, rfl, rfl, rfl⟩ ?_   -- 10
          refine TrC.skip ⟨_, _, rfl, rfl, rfl⟩ ?_   -- 11
          refine TrC.skip ⟨_, _, rfl, rfl, rfl⟩ ?_   -- 12
          refine TrC.skip ⟨_, _, rfl, rfl, rfl⟩ ?_   -- 13
          refine TrC.skip ⟨_, _, rfl, rfl, rfl⟩ ?_   -- 14
          refine TrC.skip ⟨_, _, rfl, rfl, rfl⟩ ?_   -- 15
          refine TrC.take rfl (step_pick rfl rfl rfl rfl) ?_   -- 16
          refine TrC.done ?_
          exact Sat.wk [] (.cons (.t (.refl _)) (.cons (.h rfl) (.cons (.t (.refl _)) (.cons (.p rfl) (.cons (.t (.refl _)) (.cons (.t (.refl _)) (.cons (.t (.refl _)) (.cons (.t (conv_b (by clear han; rw [hoe]; first | (simp_all; done) | (rw [Bool.eq_iff_iff]; simp_all; done)))) (.nil))))))))) (.cons rfl (.box (.cons (.t (.refl _)) (.cons (.t (.refl _)) (.cons (.t (.refl _)) (.cons (.t (.refl _)) (.cons (.t (.refl _)) (.nil))))))) (.cons rfl (.mp rfl rfl) (.nil))) rfl rfl
        · -- t23 = false
          refine TrC.take ⟨_, _, rfl, rfl, rfl⟩ (step_move rfl rfl rfl) ?_   -- 10
          refine TrC.take ⟨_, _, rfl, rfl, rfl⟩ (step_move rfl rfl rfl) ?_   -- 11
          refine TrC.cases (d := 25) rfl (fun h25 => ?_) (fun h25 => ?_)
          · -- t25 = true
            refine TrC.take ⟨_, _, rfl, rfl, rfl⟩ (step_fieldAddrP rfl rfl fd31_4 rfl rfl) ?_   -- 12
            refine TrC.take ⟨_, _, rfl, rfl, rfl⟩ (step_loadP1 rfl rfl rfl ty4 rfl rfl) ?_   -- 13
            refine TrC.take ⟨_, _, rfl, rfl, rfl⟩ (step_not rfl rfl rfl) ?_   -- 14
            refine TrC.take ⟨_, _, rfl, rfl, rfl⟩ (step_pick rfl rfl rfl rfl) ?_   -- 15
            refine TrC.take rfl (step_pick rfl rfl rfl rfl) ?_   -- 16
            refine TrC.done ?_
            exact Sat.wk [] (.cons (.t (.refl _)) (.cons (.h rfl) (.cons (.t (.refl _)) (.cons (.p rfl) (.cons (.t (.refl _)) (.cons (.t (.refl _)) (.cons (.t (.refl _)) (.cons (.t (conv_b (by clear han; rw [hoe]; first | (simp_all; done) | (rw [Bool.eq_iff_iff]; simp_all; done)))) (.nil))))))))) (.cons rfl (.box (.cons (.t (.refl _)) (.cons (.t (.refl _)) (.cons (.t (.refl _)) (.cons (.t (.refl _)) (.cons (.t (.refl _)) (.nil))))))) (.cons rfl (.mp rfl rfl) (.nil))) rfl rfl
          · -- t25 = false
            refine TrC.skip ⟨_, _, rfl, rfl, rfl⟩ ?_   -- 12
            refine TrC.skip ⟨_, _, rfl, rfl, rfl⟩ ?_   -- 13
            refine TrC.skip ⟨_, _, rfl, rfl, rfl⟩ ?_   -- 14
            refine TrC.take ⟨_, _, rfl, rfl, rfl⟩ (step_pick rfl rfl rfl rfl) ?_   -- 15
            refine TrC.take rfl (step_pick rfl rfl rfl rfl) ?_   -- 16
            refine TrC.done ?_
            exact Sat.wk [] (.cons (.t (.refl _)) (.cons (.h rfl) (.cons (.t (.refl _)) (.cons (.p rfl) (.cons (.t (.refl _)) (.cons (.t (.refl _)) (.cons (.t (.refl _)) (.cons (.t (conv_b (by clear han; rw [hoe]; first | (simp_all; done) | (rw [Bool.eq_iff_iff]; simp_all; done)))) (.nil))))))))) (.cons rfl (.box (.cons (.t (.refl _)) (.cons (.t (.refl _)) (.cons (.t (.refl _)) (.cons (.t (.refl _)) (.cons (.t (.refl _)) (.nil))))))) (.cons rfl (.mp rfl rfl) (.nil))) rfl rfl
    ·
      refine AT.cond rfl (fun h30 => ?_) (fun h30 => ?_)   -- t30
      · -- true
        have hs : valid l = false := valid_bad hlt (by simpa using h30)
        refine AT.seq ?_
        refine AT.region ?_   -- region 7 acl.go:37
        refine TrC.take rfl (step_assign rfl rfl rfl) ?_   -- 0
        refine TrC.done ?_
        refine AT.ret ?_
        exact Ret.one rfl (ResR.tmp rfl (conv_b hs.symm))
      · -- false
        have hok : okA l ix = true := by simpa using h30
        have hno : ((l.take ix).any fun a => decide (mk a = mk e)) = false := by rw [← han]; rw [hoe] at hok; cases an; rfl; simp at hok
        have hka : KeyAt Try.prog 60 (gm (sn l ix)) (vM (mk e)) none := by have h := keyAt (sn l ix) (mk e); rw [sn_find hno] at h; exact h
        refine AT.skip ?_
        refine AT.regionD mixed rfl ?_   -- region 8 acl.go:39
        refine TrC.take rfl (step_move rfl rfl rfl) ?_   -- 0
        refine TrC.take rfl (step_loadPN rfl rfl rfl ty31 rfl rfl rfl) ?_   -- 1
        refine TrC.take rfl (step_call0 rfl rfl (C34 e) rfl) ?_   -- 2
        refine TrC.take rfl (step_fieldAddrP rfl rfl fd31_4 rfl rfl) ?_   -- 3
        refine TrC.take rfl (step_loadP1 rfl rfl rfl ty4 rfl rfl) ?_   -- 4
        refine TrC.take rfl (step_mapEntryNew (z := .bool false) rfl rfl rfl rfl rfl mp57 zv4 hka rfl) ?_   -- 5
        refine TrC.take rfl (step_extract rfl rfl rfl rfl) ?_   -- 6
        refine TrC.take rfl (step_entryStore (q := (gm (sn l ix)).length) rfl rfl rfl rfl (by simp) rfl rfl rfl) ?_   -- 7
        refine TrC.take rfl (step_assign rfl rfl rfl) ?_   -- 8
        refine TrC.doneD rfl ?_
        refine AT.region ?_   -- region 9 acl.go:35
        refine TrC.take rfl (step_addI rfl rfl rfl (by first | omega | (simp; done) | (simp; omega)) (by first | omega | (simp; done) | (simp; omega)) rfl) ?_   -- 0
        refine TrC.take rfl (step_move rfl rfl rfl) ?_   -- 1
        refine TrC.done ?_
        exact ⟨ix + 1, ⟨hlt, fun j hji => by
          by_cases hj : j = ix
          · subst hj; exact hok
          · exact hpre j (by omega)⟩, by show l.length - (ix + 1) < l.length - ix; omega, Sat.wk [] (.cons (.t (.refl _)) (.cons (.h rfl) (.cons (.t (conv_b (by unfold lastG; simp [getA_lt hlt, he]))) (.cons (.t (.refl _)) (.cons (.t (.refl _)) (.cons (.t (conv_i (by simp))) (.nil))))))) (.cons rfl (.mp (congrArg ents (by rw [he]; exact sn_next hlt)) (congrArg List.length (by rw [he]; exact sn_next hlt))) (.nil)) rfl rfl⟩
  · -- false
    have hge : ¬ ix < l.length := by simpa using h11
    have hA : ∀ i, i < l.length → okA l i = true := fun i hi => hpre i (by omega)
    refine AT.exit (Or.inl ⟨rfl, ?_⟩)   -- exit 0
    refine AT.seq ?_
    refine AT.region ?_   -- region 10 acl.go:41
    refine TrC.take rfl (step_move rfl rfl rfl) ?_   -- 0
    refine TrC.take rfl (step_lenT (rt := 0) rfl rfl sl22 rfl) ?_   -- 1
    refine TrC.take rfl (step_bin rfl rfl rfl rfl rfl) ?_   -- 2
    refine TrC.take rfl (step_assign rfl rfl rfl) ?_   -- 3
    refine TrC.done ?_
    refine AT.ret ?_
    exact Ret.one rfl (ResR.tmp rfl (conv_b (by unfold valid; rw [decide_eq_true hA]; simp; try omega)))

end Go.Proofs.Ytgblfhobiibeaaa.Acl

/- Contracts of functions of this translation. Printed by wip/tools/gen.py out of wip/acl/ann.py. No condition. -/
set_option linter.unusedVariables false
set_option linter.unusedSimpArgs false
namespace Go.Proofs.Ytgblfhobiibeaaa.Acl
open Go.Proofs.Ytgblfhobiibeaaa.Abs
set_option maxRecDepth 100000
set_option maxHeartbeats 4000000
theorem C19 (a b : List Ace) (hl : a.length ≤ 1000000) : Has Try.prog 19 [.slice 5 (a.map encA), .slice 5 (b.map encA)] (.b (decide (a = b))) := by   -- burgage/acl.Same
  refine Has.intro 8 Try.func19 (by kernel_rfl) rfl rfl fun w ok => ?_
  refine AT.seq ?_
  refine AT.region ?_   -- region 0 acl.go:163
  refine TrC.take rfl (step_assign rfl rfl rfl) ?_   -- 0
  refine TrC.done ?_
  refine AT.seq ?_
  refine AT.region ?_   -- region 1 acl.go:164
  refine TrC.take rfl (step_move rfl rfl rfl) ?_   -- 0
  refine TrC.take rfl (step_move rfl rfl rfl) ?_   -- 1
  refine TrC.take rfl (step_call rfl rfl (C37 a b hl) (.cons (.refl _) (.cons (.refl _) (.cons (.fn _) .nil))) rfl) ?_   -- 2
  refine TrC.take rfl (step_assign rfl rfl rfl) ?_   -- 3
  refine TrC.done ?_
  refine AT.ret ?_
  exact Ret.one rfl (ResR.tmp rfl (.refl _))

theorem C39 (l : List Ace) (g : FuncId) (caps : List T) (p : Ace → Bool) (hl : l.length ≤ 1000000) (hp : ∀ a, Has Try.prog g ([encA a] ++ caps) (.b (p a))) : HasOwn Try.prog 39 [.slice 5 (l.map encA), .clo g caps] 31 5 ((l.filter (fun a => !p a)).map encA) := by   -- burgage/acl.without
  refine HasOwn.intro 9 Try.func39 (by kernel_rfl) rfl rfl fun w ok => ?_
  refine AT.seq ?_
  refine AT.region ?_   -- region 0 acl.go:89
  refine TrC.take rfl (step_assignN (sz := 5) rfl rfl) ?_   -- 0
  refine TrC.done ?_
  refine AT.seq ?_
  refine AT.region ?_   -- region 1 acl.go:90
  refine TrC.take rfl (step_move rfl rfl rfl) ?_   -- 0
  refine TrC.take rfl (step_callH0 rfl rfl rfl (C43 (l.map encA) (by simp; omega)) rfl rfl) ?_   -- 1
  refine TrC.take rfl (step_move rfl rfl rfl) ?_   -- 2
  refine TrC.take rfl (step_callG (ml := [(6, _)]) rfl (PassL.refl _) ⟨rfl, trivial⟩ ((C47 (l.map encA) g caps (fun x => p (decA x)) (by simp; omega) (fun x hx => by obtain ⟨c, _, rfl⟩ := List.mem_map.1 hx; exact ⟨_, rfl, rfl⟩) (fun x hx => by obtain ⟨c, _, rfl⟩ := List.mem_map.1 hx; exact hp c)).pre [(100, 6)] rfl (.cons (.h rfl) (.cons (.t (.refl _)) .nil)) (.cons rfl (.row rfl) .nil) rfl) rfl rfl rfl rfl rfl) ?_   -- 3
  refine TrC.take rfl (step_assign rfl rfl rfl) ?_   -- 4
  refine TrC.done ?_
  refine AT.ret ?_
  exact ⟨_, _, rfl, rfl, by rw [← filter_dec]; rfl⟩

end Go.Proofs.Ytgblfhobiibeaaa.Acl

/- Contracts of functions of this translation. Printed by wip/tools/gen.py out of wip/acl/ann.py. No condition. -/
set_option linter.unusedVariables false
set_option linter.unusedSimpArgs false
namespace Go.Proofs.Ytgblfhobiibeaaa.Acl
open Go.Proofs.Ytgblfhobiibeaaa.Abs
set_option maxRecDepth 100000
set_option maxHeartbeats 4000000
theorem C22 (l : List Ace) (d : Bool) (hl : l.length ≤ 1000000) : Has Try.prog 22 [.slice 5 (l.map encA), .b d] (.slice 5 ((child l d).map encA)) := by   -- burgage/burgageref02.Child
  refine Has.intro 64 Try.func22 (by kernel_rfl) rfl rfl fun w ok => ?_
  refine AT.seq ?_
  refine AT.region ?_   -- region 0 ref.go:61
  refine TrC.take rfl (step_assignN (sz := 5) rfl rfl) ?_   -- 0
  refine TrC.done ?_
  refine AT.seq ?_
  refine AT.region ?_   -- region 1 ref.go:62
  refine TrC.take rfl (step_buildSliceH rfl rfl sl22 ze31 rfl rfl rfl rfl rfl rfl rfl rfl rfl rfl rfl rfl rfl) ?_   -- 0
  refine TrC.take rfl (step_assign rfl rfl rfl) ?_   -- 1
  refine TrC.done ?_
  refine AT.seq ?_
  refine AT.seq ?_
  refine AT.region ?_   -- region 2 ref.go:63
  refine TrC.take rfl (step_assign rfl rfl rfl) ?_   -- 0
  refine TrC.done ?_
  refine AT.block ?_   -- block 0
  refine AT.loopP (fun p : Nat × List Ace => p.1 ≤ l.length ∧ (l.take p.1).foldl (cstep d) [] = p.2) (fun (i, out) => mkS [(0, .t (.slice 5 (l.map encA))), (1, .t (.b d)), (5, .h 50), (6, .t (.i i))] [(50, .row 31 5 (out.map encA))]) (fun p => l.length - p.1) ((0, [])) (⟨Nat.zero_le _, rfl⟩) (fun a w hs => Sat.wk (sl := [(0, .t (.slice 5 (l.map encA))), (1, .t (.b d)), (5, .h 50), (6, .t (.i ((0 : Nat) : Int)))]) (ml := [(50, .row 31 5 (([] : List Ace).map encA))]) [(50, 10)] (.cons (.t (.refl _)) (.cons (.t (.refl _)) (.cons (.h (j := 50) rfl) (.cons (.t (.refl _)) (.nil))))) (.cons rfl (.row rfl) (.nil)) rfl rfl a w hs) (fun ix hix => ?_)
  obtain ⟨i, out⟩ := ix
  obtain ⟨hi, ho⟩ := hix
  simp only at hi ho
  have hol : out.length ≤ i := by have h1 := fold_len d (l.take i) []; rw [ho] at h1; simp at h1; omega
  refine AT.seq ?_
  refine AT.seq ?_
  refine AT.region ?_   -- region 3 ref.go:63
  refine TrC.take rfl (step_move rfl rfl rfl) ?_   -- 0
  refine TrC.take rfl (step_move rfl rfl rfl) ?_   -- 1
  refine TrC.take rfl (step_lenT (rt := 0) rfl rfl sl22 rfl) ?_   -- 2
  refine TrC.take rfl (step_bin rfl rfl rfl rfl rfl) ?_   -- 3
  refine TrC.done ?_
  refine AT.cond rfl (fun h14 => ?_) (fun h14 => ?_)   -- t14
  · -- true
    have hlt : i < l.length := by simpa using h14
    refine Exists.elim (show ∃ e, e = l[i] from ⟨_, rfl⟩) (fun e he => ?_)
    have hget : (l.map encA)[i]? = some (.agg [.i e.who, .b e.al, .i e.rt, .i e.rc, .b e.gv]) := by rw [List.getElem?_map, List.getElem?_eq_getElem hlt, he]; rfl
    refine AT.skip ?_
    refine AT.seq ?_
    refine AT.block ?_   -- block 1
    refine AT.seq ?_
    refine AT.region ?_   -- region 5 ref.go:64
    refine TrC.take rfl (step_move rfl rfl rfl) ?_   -- 0
    refine TrC.take rfl (step_move rfl rfl rfl) ?_   -- 1
    refine TrC.take rfl (step_indexAddrT (v := .agg [.i e.who, .b e.al, .i e.rt, .i e.rc, .b e.gv]) rfl rfl rfl sl22 (by omega) (by first | exact hget | simpa using hget) rfl rfl) ?_   -- 2
    refine TrC.take rfl (step_loadTN rfl rfl ty31 rfl rfl) ?_   -- 3
    refine TrC.take rfl (step_alloc rfl rfl ze31 rfl rfl rfl) ?_   -- 4
    refine TrC.take rfl (step_storeP rfl rfl rfl rfl rfl (.inl rfl) ty31 rfl rfl rfl) ?_   -- 5
    refine TrC.done ?_
    refine AT.seq ?_
    refine AT.seqJ (mkS [(0, .t (.slice 5 (l.map encA))), (1, .t (.b d)), (5, .h 50), (6, .t (.i i)), (7, .p 7 0), (28, .t (.b (!inh e)))] [(7, .box 31 [.t (.i e.who), .t (.b e.al), .t (.i e.rt), .t (.i e.rc), .t (.b e.gv)]), (50, .row 31 5 (out.map encA))]) ?_ ?_
    ·
      refine AT.region ?_   -- region 6 ref.go:65
      refine TrC.take rfl (step_fieldAddrP rfl rfl fd31_3 rfl rfl) ?_   -- 0
      refine TrC.take rfl (step_loadP1 rfl rfl rfl ty3 rfl rfl) ?_   -- 1
      refine TrC.take rfl (step_bin rfl rfl rfl rfl rfl) ?_   -- 2
      refine TrC.take rfl (step_move rfl rfl rfl) ?_   -- 3
      refine TrC.cases (d := 24) rfl (fun h24 => ?_) (fun h24 => ?_)
      · -- t24 = true
        refine TrC.take ⟨_, _, rfl, rfl, rfl⟩ (step_fieldAddrP rfl rfl fd31_3 rfl rfl) ?_   -- 4
        refine TrC.take ⟨_, _, rfl, rfl, rfl⟩ (step_loadP1 rfl rfl rfl ty3 rfl rfl) ?_   -- 5
        refine TrC.take ⟨_, _, rfl, rfl, rfl⟩ (step_bin rfl rfl rfl rfl rfl) ?_   -- 6
        refine TrC.take rfl (step_pick rfl rfl rfl rfl) ?_   -- 7
        refine TrC.done ?_
        exact Sat.wk [] (.cons (.t (.refl _)) (.cons (.t (.refl _)) (.cons (.h rfl) (.cons (.t (.refl _)) (.cons (.p rfl) (.cons (.t (conv_b (by unfold inh; first | (simp_all; done) | (rw [Bool.eq_iff_iff]; simp_all; done)))) (.nil))))))) (.cons rfl (.box (.cons (.t (.refl _)) (.cons (.t (.refl _)) (.cons (.t (.refl _)) (.cons (.t (.refl _)) (.cons (.t (.refl _)) (.nil))))))) (.cons rfl (.row rfl) (.nil))) rfl rfl
      · -- t24 = false
        refine TrC.skip ⟨_, _, rfl, rfl, rfl⟩ ?_   -- 4
        refine TrC.skip ⟨_, _, rfl, rfl, rfl⟩ ?_   -- 5
        refine TrC.skip ⟨_, _, rfl, rfl, rfl⟩ ?_   -- 6
        refine TrC.take rfl (step_pick rfl rfl rfl rfl) ?_   -- 7
        refine TrC.done ?_
        exact Sat.wk [] (.cons (.t (.refl _)) (.cons (.t (.refl _)) (.cons (.h rfl) (.cons (.t (.refl _)) (.cons (.p rfl) (.cons (.t (conv_b (by unfold inh; first | (simp_all; done) | (rw [Bool.eq_iff_iff]; simp_all; done)))) (.nil))))))) (.cons rfl (.box (.cons (.t (.refl _)) (.cons (.t (.refl _)) (.cons (.t (.refl _)) (.cons (.t (.refl _)) (.cons (.t (.refl _)) (.nil))))))) (.cons rfl (.row rfl) (.nil))) rfl rfl
    ·
      refine AT.cond rfl (fun h28 => ?_) (fun h28 => ?_)   -- t28
      · -- true
        have hni : inh e = false := not_t h28
        refine AT.exit (Or.inl ⟨rfl, ?_⟩)   -- exit 1
        refine AT.region ?_   -- region 4 ref.go:63
        refine TrC.take rfl (step_move rfl rfl rfl) ?_   -- 0
        refine TrC.take rfl (step_addI rfl rfl rfl (by first | omega | (simp; done) | (simp; omega)) (by first | omega | (simp; done) | (simp; omega)) rfl) ?_   -- 1
        refine TrC.take rfl (step_assign rfl rfl rfl) ?_   -- 2
        refine TrC.done ?_
        exact ⟨(i + 1, out), ⟨hlt, by show (l.take (i + 1)).foldl (cstep d) [] = _; rw [take_snoc hlt, List.foldl_append, ho, ← he]; show cstep d out e = _; unfold cstep; rw [hni]; rfl⟩, by show l.length - (i + 1) < l.length - i; omega, Sat.wk [] (.cons (.t (.refl _)) (.cons (.t (.refl _)) (.cons (.h rfl) (.cons (.t (conv_i (by simp))) (.nil))))) (.cons rfl (.row rfl) (.nil)) rfl rfl⟩
      · -- false
        have hin : inh e = true := not_f h28
        refine AT.skip ?_
        refine AT.seq ?_
        refine AT.region ?_   -- region 7 ref.go:68
        refine TrC.take rfl (step_fieldAddrP rfl rfl fd31_4 rfl rfl) ?_   -- 0
        refine TrC.take rfl (step_storeP rfl rfl rfl rfl rfl (.inl rfl) ty4 rfl rfl rfl) ?_   -- 1
        refine TrC.take rfl (step_fieldAddrP rfl rfl fd31_3 rfl rfl) ?_   -- 2
        refine TrC.take rfl (step_storeP rfl rfl rfl rfl rfl (.inl rfl) ty3 rfl rfl rfl) ?_   -- 3
        refine TrC.done ?_
        refine AT.seqJ (mkS [(0, .t (.slice 5 (l.map encA))), (1, .t (.b d)), (5, .h 50), (6, .t (.i i)), (7, .p 7 0)] [(7, .box 31 [.t (.i (cE d e).who), .t (.b (cE d e).al), .t (.i (cE d e).rt), .t (.i (cE d e).rc), .t (.b (cE d e).gv)]), (50, .row 31 5 (out.map encA))]) ?_ ?_
        ·
          refine AT.seq ?_
          refine AT.region ?_   -- region 8 ref.go:69
          refine TrC.take rfl (step_move rfl rfl rfl) ?_   -- 0
          refine TrC.done ?_
          refine AT.cond rfl (fun h31 => ?_) (fun h31 => ?_)   -- t31
          · -- true
            refine AT.region ?_   -- region 9 ref.go:70
            refine TrC.take rfl (step_fieldAddrP rfl rfl fd31_3 rfl rfl) ?_   -- 0
            refine TrC.take rfl (step_storeP rfl rfl rfl rfl rfl (.inl rfl) ty3 rfl rfl rfl) ?_   -- 1
            refine TrC.done ?_
            exact Sat.wk [] (.cons (.t (.refl _)) (.cons (.t (.refl _)) (.cons (.h rfl) (.cons (.t (.refl _)) (.cons (.p rfl) (.nil)))))) (.cons rfl (.box (.cons (.t (.refl _)) (.cons (.t (.refl _)) (.cons (.t (.refl _)) (.cons (.t (conv_i (by have h := h31; simp [cE, h]))) (.cons (.t (conv_b (rfl))) (.nil))))))) (.cons rfl (.row rfl) (.nil))) rfl rfl
          · -- false
            refine AT.skip ?_
            exact Sat.wk [] (.cons (.t (.refl _)) (.cons (.t (.refl _)) (.cons (.h rfl) (.cons (.t (.refl _)) (.cons (.p rfl) (.nil)))))) (.cons rfl (.box (.cons (.t (.refl _)) (.cons (.t (.refl _)) (.cons (.t (.refl _)) (.cons (.t (conv_i (by have h := h31; simp [cE, h]))) (.cons (.t (conv_b (rfl))) (.nil))))))) (.cons rfl (.row rfl) (.nil))) rfl rfl
        ·
          refine Exists.elim (show ∃ x, x = cE d e from ⟨_, rfl⟩) (fun x hx => ?_)
          refine AT.wk (sl := [(0, .t (.slice 5 (l.map encA))), (1, .t (.b d)), (5, .h 50), (6, .t (.i i)), (7, .p 7 0)]) (ml := [(7, .box 31 [.t (.i x.who), .t (.b x.al), .t (.i x.rt), .t (.i x.rc), .t (.b x.gv)]), (50, .row 31 5 (out.map encA))]) [] (.cons (.t (.refl _)) (.cons (.t (.refl _)) (.cons (.h rfl) (.cons (.t (.refl _)) (.cons (.p rfl) (.nil)))))) (.cons rfl (.box (.cons (.t (conv_i (by rw [hx]))) (.cons (.t (conv_b (by rw [hx]))) (.cons (.t (conv_i (by rw [hx]))) (.cons (.t (conv_i (by rw [hx]))) (.cons (.t (conv_b (by rw [hx]))) (.nil))))))) (.cons rfl (.row rfl) (.nil))) rfl rfl ?_
          refine AT.seq ?_
          refine AT.region ?_   -- region 10 ref.go:72
          refine TrC.take rfl (step_assign rfl rfl rfl) ?_   -- 0
          refine TrC.done ?_
          refine AT.seq ?_
          refine AT.seq ?_
          refine AT.region ?_   -- region 11 ref.go:73
          refine TrC.take rfl (step_assign rfl rfl rfl) ?_   -- 0
          refine TrC.done ?_
          refine AT.block ?_   -- block 2
          refine AT.loopP (fun k : Nat => k ≤ out.length) (fun k => mkS [(0, .t (.slice 5 (l.map encA))), (1, .t (.b d)), (5, .h 50), (6, .t (.i i)), (7, .p 7 0), (8, .t (.b ((out.take k).any fun a => marked a x))), (9, .t (.i k))] [(7, .box 31 [.t (.i x.who), .t (.b x.al), .t (.i x.rt), .t (.i x.rc), .t (.b x.gv)]), (50, .row 31 5 ((half (upd1 x) out k).map encA))]) (fun k => out.length - k) (0) (Nat.zero_le _) (fun a w hs => Sat.wk [] (.cons (.t (.refl _)) (.cons (.t (.refl _)) (.cons (.h rfl) (.cons (.t (.refl _)) (.cons (.p rfl) (.cons (.t (conv_b (by simp))) (.cons (.t (.refl _)) (.nil)))))))) (.cons rfl (.box (.cons (.t (.refl _)) (.cons (.t (.refl _)) (.cons (.t (.refl _)) (.cons (.t (.refl _)) (.cons (.t (.refl _)) (.nil))))))) (.cons rfl (.row (by rw [half_zero])) (.nil))) rfl rfl a w hs) (fun k hk => ?_)
          have hhl := half_len (upd1 x) out k
          refine AT.seq ?_
          refine AT.seq ?_
          refine AT.region ?_   -- region 12 ref.go:73
          refine TrC.take rfl (step_move rfl rfl rfl) ?_   -- 0
          refine TrC.take rfl (step_move rfl rfl rfl) ?_   -- 1
          refine TrC.take rfl (step_lenH rfl rfl rfl sl22 rfl) ?_   -- 2
          refine TrC.take rfl (step_bin rfl rfl rfl rfl rfl) ?_   -- 3
          refine TrC.done ?_
          refine AT.cond rfl (fun h36 => ?_) (fun h36 => ?_)   -- t36
          · -- true
            have hk2 : k < out.length := by have h := h36; simp [hhl] at h; omega
            refine Exists.elim (show ∃ a, a = out[k] from ⟨_, rfl⟩) (fun a ha => ?_)
            have hga : ((half (upd1 x) out k).map encA)[k]? = some (encA a) := by rw [List.getElem?_map, half_get hk2, ha]; rfl
            refine AT.skip ?_
            refine AT.seq ?_
            refine AT.block ?_   -- block 3
            refine AT.seq ?_
            refine AT.regionD mixed rfl ?_   -- region 14 ref.go:74
            refine TrC.take rfl (step_move rfl rfl rfl) ?_   -- 0
            refine TrC.take rfl (step_move rfl rfl rfl) ?_   -- 1
            refine TrC.take rfl (step_indexAddrH rfl rfl rfl rfl sl22 (by omega) (by simp [hhl]; omega) rfl) ?_   -- 2
            refine TrC.take rfl (step_loadEN (k := k) rfl rfl rfl (by omega) ty31 hga rfl) ?_   -- 3
            refine TrC.take rfl (step_loadPN rfl rfl rfl ty31 rfl rfl rfl) ?_   -- 4
            refine TrC.take rfl (step_call0 rfl rfl (C32 a x) rfl) ?_   -- 5
            refine TrC.doneD rfl ?_
            refine AT.cond rfl (fun h44 => ?_) (fun h44 => ?_)   -- t44
            · -- true
              refine AT.seq ?_
              refine AT.regionD mixed rfl ?_   -- region 15 ref.go:75
              refine TrC.take rfl (step_move rfl rfl rfl) ?_   -- 0
              refine TrC.take rfl (step_move rfl rfl rfl) ?_   -- 1
              refine TrC.take rfl (step_move rfl rfl rfl) ?_   -- 2
              refine TrC.take rfl (step_move rfl rfl rfl) ?_   -- 3
              refine TrC.take rfl (step_indexAddrH rfl rfl rfl rfl sl22 (by omega) (by simp [hhl]; omega) rfl) ?_   -- 4
              refine TrC.take rfl (step_fieldAddrE rfl rfl fd31_2 rfl rfl) ?_   -- 5
              refine TrC.take rfl (step_loadE1 (k := k) (j := 2) rfl rfl rfl (by omega) ty3 hga rfl rfl) ?_   -- 6
              refine TrC.take rfl (step_fieldAddrP rfl rfl fd31_2 rfl rfl) ?_   -- 7
              refine TrC.take rfl (step_loadP1 rfl rfl rfl ty3 rfl rfl) ?_   -- 8
              refine TrC.take rfl (step_bin rfl rfl rfl rfl rfl) ?_   -- 9
              refine TrC.take rfl (step_indexAddrH rfl rfl rfl rfl sl22 (by omega) (by simp [hhl]; omega) rfl) ?_   -- 10
              refine TrC.take rfl (step_fieldAddrE rfl rfl fd31_2 rfl rfl) ?_   -- 11
              refine TrC.take rfl (step_storeR (k := k) (j := 2) rfl rfl rfl (by omega) hga rfl rfl rfl ty3 rfl rfl) ?_   -- 12
              refine TrC.doneD rfl ?_
              refine AT.region ?_   -- region 16 ref.go:76
              refine TrC.take rfl (step_assign rfl rfl rfl) ?_   -- 0
              refine TrC.done ?_
              refine AT.region ?_   -- region 13 ref.go:73
              refine TrC.take rfl (step_move rfl rfl rfl) ?_   -- 0
              refine TrC.take rfl (step_addI rfl rfl rfl (by first | omega | (simp; done) | (simp; omega)) (by first | omega | (simp; done) | (simp; omega)) rfl) ?_   -- 1
              refine TrC.take rfl (step_assign rfl rfl rfl) ?_   -- 2
              refine TrC.done ?_
              exact ⟨k + 1, hk2, by show out.length - (k + 1) < out.length - k; omega, Sat.wk [] (.cons (.t (.refl _)) (.cons (.t (.refl _)) (.cons (.h rfl) (.cons (.t (.refl _)) (.cons (.p rfl) (.cons (.t (conv_b (by rw [take_snoc hk2]; simp [← ha, h44]))) (.cons (.t (conv_i (by simp))) (.nil)))))))) (.cons rfl (.box (.cons (.t (.refl _)) (.cons (.t (.refl _)) (.cons (.t (.refl _)) (.cons (.t (.refl _)) (.cons (.t (.refl _)) (.nil))))))) (.cons rfl (.row (by rw [← half_enc_set hk2, ← ha, upd1_yes h44]; rfl)) (.nil))) rfl rfl⟩
            · -- false
              refine AT.skip ?_
              refine AT.region ?_   -- region 13 ref.go:73
              refine TrC.take rfl (step_move rfl rfl rfl) ?_   -- 0
              refine TrC.take rfl (step_addI rfl rfl rfl (by first | omega | (simp; done) | (simp; omega)) (by first | omega | (simp; done) | (simp; omega)) rfl) ?_   -- 1
              refine TrC.take rfl (step_assign rfl rfl rfl) ?_   -- 2
              refine TrC.done ?_
              exact ⟨k + 1, hk2, by show out.length - (k + 1) < out.length - k; omega, Sat.wk [] (.cons (.t (.refl _)) (.cons (.t (.refl _)) (.cons (.h rfl) (.cons (.t (.refl _)) (.cons (.p rfl) (.cons (.t (conv_b (by rw [take_snoc hk2]; simp [← ha, h44]))) (.cons (.t (conv_i (by simp))) (.nil)))))))) (.cons rfl (.box (.cons (.t (.refl _)) (.cons (.t (.refl _)) (.cons (.t (.refl _)) (.cons (.t (.refl _)) (.cons (.t (.refl _)) (.nil))))))) (.cons rfl (.row (by rw [half_skip hk2 (by rw [← ha]; exact upd1_no h44)])) (.nil))) rfl rfl⟩
          · -- false
            have hk2 : k = out.length := by have h := h36; simp [hhl] at h; omega
            have hany : ((out.take k).any fun a => marked a x) = hasM out x := by rw [hk2, List.take_length]; rfl
            have hrow : (half (upd1 x) out k).map encA = (out.map (upd1 x)).map encA := by rw [hk2, half_end]
            refine AT.exit (Or.inl ⟨rfl, ?_⟩)   -- exit 2
            refine AT.seq ?_
            refine AT.wk (sl := [(0, .t (.slice 5 (l.map encA))), (1, .t (.b d)), (5, .h 50), (6, .t (.i i)), (7, .p 7 0), (8, .t (.b (hasM out x)))]) (ml := [(7, .box 31 [.t (.i x.who), .t (.b x.al), .t (.i x.rt), .t (.i x.rc), .t (.b x.gv)]), (50, .row 31 5 ((out.map (upd1 x)).map encA))]) [] (.cons (.t (.refl _)) (.cons (.t (.refl _)) (.cons (.h rfl) (.cons (.t (.refl _)) (.cons (.p rfl) (.cons (.t (conv_b (hany))) (.nil))))))) (.cons rfl (.box (.cons (.t (.refl _)) (.cons (.t (.refl _)) (.cons (.t (.refl _)) (.cons (.t (.refl _)) (.cons (.t (.refl _)) (.nil))))))) (.cons rfl (.row hrow) (.nil))) rfl rfl ?_
            refine AT.region ?_   -- region 17 ref.go:79
            refine TrC.take rfl (step_move rfl rfl rfl) ?_   -- 0
            refine TrC.take rfl (step_not rfl rfl rfl) ?_   -- 1
            refine TrC.done ?_
            refine AT.cond rfl (fun h58 => ?_) (fun h58 => ?_)   -- t58
            · -- true
              have hno : hasM out x = false := not_t h58
              have hsame : out.map (upd1 x) = out := map_upd_no hno
              refine AT.wk (sl := [(0, .t (.slice 5 (l.map encA))), (1, .t (.b d)), (5, .h 50), (6, .t (.i i)), (7, .p 7 0)]) (ml := [(7, .box 31 [.t (.i x.who), .t (.b x.al), .t (.i x.rt), .t (.i x.rc), .t (.b x.gv)]), (50, .row 31 5 (out.map encA))]) [] (.cons (.t (.refl _)) (.cons (.t (.refl _)) (.cons (.h rfl) (.cons (.t (.refl _)) (.cons (.p rfl) (.nil)))))) (.cons rfl (.box (.cons (.t (.refl _)) (.cons (.t (.refl _)) (.cons (.t (.refl _)) (.cons (.t (.refl _)) (.cons (.t (.refl _)) (.nil))))))) (.cons rfl (.row (by rw [hsame])) (.nil))) rfl rfl ?_
              refine AT.region ?_   -- region 18 ref.go:80
              refine TrC.take rfl (step_move rfl rfl rfl) ?_   -- 0
              refine TrC.take rfl (step_loadPN rfl rfl rfl ty31 rfl rfl rfl) ?_   -- 1
              refine TrC.take rfl (step_buildSliceT rfl sl22 ze31 rfl rfl rfl rfl rfl rfl rfl rfl rfl rfl rfl rfl) ?_   -- 2
              refine TrC.take rfl (step_append rfl rfl rfl rfl rfl (.refl _) sl22 ze31 rfl rfl rfl (by first | (simp; done) | (simp; omega) | omega) rfl rfl) ?_   -- 3
              refine TrC.take rfl (step_assign rfl rfl rfl) ?_   -- 4
              refine TrC.done ?_
              refine AT.region ?_   -- region 4 ref.go:63
              refine TrC.take rfl (step_move rfl rfl rfl) ?_   -- 0
              refine TrC.take rfl (step_addI rfl rfl rfl (by first | omega | (simp; done) | (simp; omega)) (by first | omega | (simp; done) | (simp; omega)) rfl) ?_   -- 1
              refine TrC.take rfl (step_assign rfl rfl rfl) ?_   -- 2
              refine TrC.done ?_
              exact ⟨(i + 1, out ++ [x]), ⟨hlt, by show (l.take (i + 1)).foldl (cstep d) [] = _; rw [take_snoc hlt, List.foldl_append, ho, ← he]; show cstep d out e = _; unfold cstep; rw [if_pos hin, ← hx, hno]; rfl⟩, by show l.length - (i + 1) < l.length - i; omega, Sat.wk (sl := [(0, .t (.slice 5 (l.map encA))), (1, .t (.b d)), (5, .h 50), (6, .t (.i ((i + 1 : Nat) : Int)))]) (ml := [(50, .row 31 5 ((out ++ [x]).map encA))]) [(50, 62)] (.cons (.t (.refl _)) (.cons (.t (.refl _)) (.cons (.h (j := 50) rfl) (.cons (.t (conv_i (by simp))) (.nil))))) (.cons rfl (.row (by simp [encA])) (.nil)) rfl rfl⟩
            · -- false
              have hyes : hasM out x = true := not_f h58
              refine AT.skip ?_
              refine AT.region ?_   -- region 4 ref.go:63
              refine TrC.take rfl (step_move rfl rfl rfl) ?_   -- 0
              refine TrC.take rfl (step_addI rfl rfl rfl (by first | omega | (simp; done) | (simp; omega)) (by first | omega | (simp; done) | (simp; omega)) rfl) ?_   -- 1
              refine TrC.take rfl (step_assign rfl rfl rfl) ?_   -- 2
              refine TrC.done ?_
              exact ⟨(i + 1, out.map (upd1 x)), ⟨hlt, by show (l.take (i + 1)).foldl (cstep d) [] = _; rw [take_snoc hlt, List.foldl_append, ho, ← he]; show cstep d out e = _; unfold cstep; rw [if_pos hin, ← hx, hyes]; rfl⟩, by show l.length - (i + 1) < l.length - i; omega, Sat.wk [] (.cons (.t (.refl _)) (.cons (.t (.refl _)) (.cons (.h rfl) (.cons (.t (conv_i (by simp))) (.nil))))) (.cons rfl (.row rfl) (.nil)) rfl rfl⟩
  · -- false
    have hge : ¬ i < l.length := by simpa using h14
    have hr : out = child l d := by rw [← ho, List.take_of_length_le (by omega)]; rfl
    refine AT.exit (Or.inl ⟨rfl, ?_⟩)   -- exit 0
    refine AT.seq ?_
    refine AT.region ?_   -- region 19 ref.go:83
    refine TrC.take rfl (step_move rfl rfl rfl) ?_   -- 0
    refine TrC.take rfl (step_assign rfl rfl rfl) ?_   -- 1
    refine TrC.done ?_
    refine AT.ret ?_
    exact Ret.one rfl (ResR.row rfl (by rw [← hr]; rfl))

end Go.Proofs.Ytgblfhobiibeaaa.Acl

/- Contracts of functions of this translation. Printed by wip/tools/gen.py out of wip/acl/ann.py. No condition. -/
set_option linter.unusedVariables false
set_option linter.unusedSimpArgs false
namespace Go.Proofs.Ytgblfhobiibeaaa.Acl
open Go.Proofs.Ytgblfhobiibeaaa.Abs
set_option maxRecDepth 100000
set_option maxHeartbeats 4000000
theorem C21 (l : List Ace) (d : Bool) (hl : l.length ≤ 1000000) : Has Try.prog 21 [.slice 5 (l.map encA), .b d] (.slice 5 ((child l d).map encA)) := by   -- burgage/acl.Child
  refine Has.intro 59 Try.func21 (by kernel_rfl) rfl rfl fun w ok => ?_
  refine AT.seq ?_
  refine AT.region ?_   -- region 0 acl.go:67
  refine TrC.take rfl (step_assignN (sz := 5) rfl rfl) ?_   -- 0
  refine TrC.done ?_
  refine AT.seq ?_
  refine AT.region ?_   -- region 1 acl.go:68
  refine TrC.take rfl (step_assignR (E := 31) (sz := 5) rfl rfl rfl rfl) ?_   -- 0
  refine TrC.done ?_
  refine AT.seq ?_
  refine AT.region ?_   -- region 2 acl.go:69
  refine TrC.take rfl (step_makeMap rfl rfl rfl rfl) ?_   -- 0
  refine TrC.take rfl (step_assign rfl rfl rfl) ?_   -- 1
  refine TrC.done ?_
  refine AT.seq ?_
  refine AT.seq ?_
  refine AT.region ?_   -- region 3 acl.go:70
  refine TrC.take rfl (step_move rfl rfl rfl) ?_   -- 0
  refine TrC.take rfl (step_lenT (rt := 0) rfl rfl sl22 rfl) ?_   -- 1
  refine TrC.take rfl (step_move rfl rfl rfl) ?_   -- 2
  refine TrC.done ?_
  refine AT.block ?_   -- block 0
  refine AT.loopP (fun p : Nat × List Ace => p.1 ≤ l.length ∧ (l.take p.1).foldl (cstep d) [] = p.2) (fun (i, out) => mkS [(1, .t (.b d)), (5, .h 50), (6, .h 60), (12, .t (.slice 5 (l.map encA))), (13, .t (.i l.length)), (14, .t (.i i))] [(50, .row 31 5 ((out).map encA)), (60, .mp (ents (gm (cm (out)))) (gm (cm (out))).length)]) (fun p => l.length - p.1) ((0, [])) (⟨Nat.zero_le _, rfl⟩) (fun a w hs => Sat.wk (sl := [(1, .t (.b d)), (5, .h 50), (6, .h 60), (12, .t (.slice 5 (l.map encA))), (13, .t (.i l.length)), (14, .t (.i ((0 : Nat) : Int)))]) (ml := [(50, .row 31 5 ((([] : List Ace)).map encA)), (60, .mp (ents (gm (cm (([] : List Ace))))) (gm (cm (([] : List Ace)))).length)]) [(50, 5), (60, 11)] (.cons (.t (.refl _)) (.cons (.h (j := 50) rfl) (.cons (.h (j := 60) rfl) (.cons (.t (.refl _)) (.cons (.t (conv_i (by simp))) (.cons (.t (.refl _)) (.nil))))))) (.cons rfl (.row rfl) (.cons rfl (.mp rfl rfl) (.nil))) rfl rfl a w hs) (fun ix hix => ?_)
  obtain ⟨i, out⟩ := ix
  obtain ⟨hi, ho⟩ := hix
  simp only at hi ho
  have hol : out.length ≤ i := by have h1 := fold_len d (l.take i) []; rw [ho] at h1; simp at h1; omega
  have hu : Uniq out := by rw [← ho]; exact Uniq.fold d (by simp [Uniq])
  refine AT.seq ?_
  refine AT.region ?_   -- region 4 acl.go:70
  refine TrC.take rfl (step_bin rfl rfl rfl rfl rfl) ?_   -- 0
  refine TrC.done ?_
  refine AT.seq ?_
  refine AT.cond rfl (fun h15 => ?_) (fun h15 => ?_)   -- t15
  · -- true
    have hlt : i < l.length := by simpa using h15
    refine Exists.elim (show ∃ e, e = l[i] from ⟨_, rfl⟩) (fun e he => ?_)
    have hget : (l.map encA)[i]? = some (.agg [.i e.who, .b e.al, .i e.rt, .i e.rc, .b e.gv]) := by rw [List.getElem?_map, List.getElem?_eq_getElem hlt, he]; rfl
    refine AT.skip ?_
    refine AT.seq ?_
    refine AT.block ?_   -- block 1
    refine AT.seq ?_
    refine AT.region ?_   -- region 5 acl.go:70
    refine TrC.take rfl (step_indexAddrT (v := .agg [.i e.who, .b e.al, .i e.rt, .i e.rc, .b e.gv]) rfl rfl rfl sl22 (by omega) (by first | exact hget | simpa using hget) rfl rfl) ?_   -- 0
    refine TrC.take rfl (step_loadTN rfl rfl ty31 rfl rfl) ?_   -- 1
    refine TrC.take rfl (step_alloc rfl rfl ze31 rfl rfl rfl) ?_   -- 2
    refine TrC.take rfl (step_storeP rfl rfl rfl rfl rfl (.inl rfl) ty31 rfl rfl rfl) ?_   -- 3
    refine TrC.done ?_
    refine AT.seq ?_
    refine AT.seqJ (mkS [(1, .t (.b d)), (5, .h 50), (6, .h 60), (12, .t (.slice 5 (l.map encA))), (13, .t (.i l.length)), (14, .t (.i i)), (8, .p 8 0), (25, .t (.b (!inh e)))] [(8, .box 31 [.t (.i e.who), .t (.b e.al), .t (.i e.rt), .t (.i e.rc), .t (.b e.gv)]), (50, .row 31 5 ((out).map encA)), (60, .mp (ents (gm (cm (out)))) (gm (cm (out))).length)]) ?_ ?_
    ·
      refine AT.region ?_   -- region 6 acl.go:71
      refine TrC.take rfl (step_fieldAddrP rfl rfl fd31_3 rfl rfl) ?_   -- 0
      refine TrC.take rfl (step_loadP1 rfl rfl rfl ty3 rfl rfl) ?_   -- 1
      refine TrC.take rfl (step_bin rfl rfl rfl rfl rfl) ?_   -- 2
      refine TrC.take rfl (step_move rfl rfl rfl) ?_   -- 3
      refine TrC.cases (d := 21) rfl (fun h21 => ?_) (fun h21 => ?_)
      · -- t21 = true
        refine TrC.take ⟨_, _, rfl, rfl, rfl⟩ (step_fieldAddrP rfl rfl fd31_3 rfl rfl) ?_   -- 4
        refine TrC.take ⟨_, _, rfl, rfl, rfl⟩ (step_loadP1 rfl rfl rfl ty3 rfl rfl) ?_   -- 5
        refine TrC.take ⟨_, _, rfl, rfl, rfl⟩ (step_bin rfl rfl rfl rfl rfl) ?_   -- 6
        refine TrC.take rfl (step_pick rfl rfl rfl rfl) ?_   -- 7
        refine TrC.done ?_
        exact Sat.wk [] (.cons (.t (.refl _)) (.cons (.h rfl) (.cons (.h rfl) (.cons (.t (.refl _)) (.cons (.t (.refl _)) (.cons (.t (.refl _)) (.cons (.p rfl) (.cons (.t (conv_b (by unfold inh; first | (simp_all; done) | (rw [Bool.eq_iff_iff]; simp_all; done)))) (.nil))))))))) (.cons rfl (.box (.cons (.t (.refl _)) (.cons (.t (.refl _)) (.cons (.t (.refl _)) (.cons (.t (.refl _)) (.cons (.t (.refl _)) (.nil))))))) (.cons rfl (.row rfl) (.cons rfl (.mp rfl rfl) (.nil)))) rfl rfl
      · -- t21 = false
        refine TrC.skip ⟨_, _, rfl, rfl, rfl⟩ ?_   -- 4
        refine TrC.skip ⟨_, _, rfl, rfl, rfl⟩ ?_   -- 5
        refine TrC.skip ⟨_, _, rfl, rfl, rfl⟩ ?_   -- 6
        refine TrC.take rfl (step_pick rfl rfl rfl rfl) ?_   -- 7
        refine TrC.done ?_
        exact Sat.wk [] (.cons (.t (.refl _)) (.cons (.h rfl) (.cons (.h rfl) (.cons (.t (.refl _)) (.cons (.t (.refl _)) (.cons (.t (.refl _)) (.cons (.p rfl) (.cons (.t (conv_b (by unfold inh; first | (simp_all; done) | (rw [Bool.eq_iff_iff]; simp_all; done)))) (.nil))))))))) (.cons rfl (.box (.cons (.t (.refl _)) (.cons (.t (.refl _)) (.cons (.t (.refl _)) (.cons (.t (.refl _)) (.cons (.t (.refl _)) (.nil))))))) (.cons rfl (.row rfl) (.cons rfl (.mp rfl rfl) (.nil)))) rfl rfl
    ·
      refine AT.cond rfl (fun h25 => ?_) (fun h25 => ?_)   -- t25
      · -- true
        have hni : inh e = false := not_t h25
        refine AT.exit (Or.inl ⟨rfl, ?_⟩)   -- exit 1
        refine AT.region ?_   -- region 15 acl.go:70
        refine TrC.take rfl (step_addI rfl rfl rfl (by first | omega | (simp; done) | (simp; omega)) (by first | omega | (simp; done) | (simp; omega)) rfl) ?_   -- 0
        refine TrC.take rfl (step_move rfl rfl rfl) ?_   -- 1
        refine TrC.done ?_
        exact ⟨(i + 1, out), ⟨hlt, by show (l.take (i + 1)).foldl (cstep d) [] = _; rw [take_snoc hlt, List.foldl_append, ho, ← he]; show cstep d out e = _; unfold cstep; rw [hni]; rfl⟩, by show l.length - (i + 1) < l.length - i; omega, Sat.wk [] (.cons (.t (.refl _)) (.cons (.h rfl) (.cons (.h rfl) (.cons (.t (.refl _)) (.cons (.t (.refl _)) (.cons (.t (conv_i (by simp))) (.nil))))))) (.cons rfl (.row rfl) (.cons rfl (.mp rfl rfl) (.nil))) rfl rfl⟩
      · -- false
        have hin : inh e = true := not_f h25
        refine AT.skip ?_
        refine AT.seq ?_
        refine AT.region ?_   -- region 7 acl.go:74
        refine TrC.take rfl (step_fieldAddrP rfl rfl fd31_4 rfl rfl) ?_   -- 0
        refine TrC.take rfl (step_storeP rfl rfl rfl rfl rfl (.inl rfl) ty4 rfl rfl rfl) ?_   -- 1
        refine TrC.take rfl (step_fieldAddrP rfl rfl fd31_3 rfl rfl) ?_   -- 2
        refine TrC.take rfl (step_storeP rfl rfl rfl rfl rfl (.inl rfl) ty3 rfl rfl rfl) ?_   -- 3
        refine TrC.done ?_
        refine AT.seqJ (mkS [(1, .t (.b d)), (5, .h 50), (6, .h 60), (12, .t (.slice 5 (l.map encA))), (13, .t (.i l.length)), (14, .t (.i i)), (8, .p 8 0)] [(8, .box 31 [.t (.i (cE d e).who), .t (.b (cE d e).al), .t (.i (cE d e).rt), .t (.i (cE d e).rc), .t (.b (cE d e).gv)]), (50, .row 31 5 ((out).map encA)), (60, .mp (ents (gm (cm (out)))) (gm (cm (out))).length)]) ?_ ?_
        ·
          refine AT.seq ?_
          refine AT.region ?_   -- region 8 acl.go:75
          refine TrC.take rfl (step_move rfl rfl rfl) ?_   -- 0
          refine TrC.done ?_
          refine AT.cond rfl (fun h28 => ?_) (fun h28 => ?_)   -- t28
          · -- true
            refine AT.region ?_   -- region 9 acl.go:76
            refine TrC.take rfl (step_fieldAddrP rfl rfl fd31_3 rfl rfl) ?_   -- 0
            refine TrC.take rfl (step_storeP rfl rfl rfl rfl rfl (.inl rfl) ty3 rfl rfl rfl) ?_   -- 1
            refine TrC.done ?_
            exact Sat.wk [] (.cons (.t (.refl _)) (.cons (.h rfl) (.cons (.h rfl) (.cons (.t (.refl _)) (.cons (.t (.refl _)) (.cons (.t (.refl _)) (.cons (.p rfl) (.nil)))))))) (.cons rfl (.box (.cons (.t (.refl _)) (.cons (.t (.refl _)) (.cons (.t (.refl _)) (.cons (.t (conv_i (by have h := h28; simp [cE, h]))) (.cons (.t (conv_b (rfl))) (.nil))))))) (.cons rfl (.row rfl) (.cons rfl (.mp rfl rfl) (.nil)))) rfl rfl
          · -- false
            refine AT.skip ?_
            exact Sat.wk [] (.cons (.t (.refl _)) (.cons (.h rfl) (.cons (.h rfl) (.cons (.t (.refl _)) (.cons (.t (.refl _)) (.cons (.t (.refl _)) (.cons (.p rfl) (.nil)))))))) (.cons rfl (.box (.cons (.t (.refl _)) (.cons (.t (.refl _)) (.cons (.t (.refl _)) (.cons (.t (conv_i (by have h := h28; simp [cE, h]))) (.cons (.t (conv_b (rfl))) (.nil))))))) (.cons rfl (.row rfl) (.cons rfl (.mp rfl rfl) (.nil)))) rfl rfl
        ·
          refine Exists.elim (show ∃ x, x = cE d e from ⟨_, rfl⟩) (fun x hx => ?_)
          refine AT.wk (sl := [(1, .t (.b d)), (5, .h 50), (6, .h 60), (12, .t (.slice 5 (l.map encA))), (13, .t (.i l.length)), (14, .t (.i i)), (8, .p 8 0)]) (ml := [(8, .box 31 [.t (.i x.who), .t (.b x.al), .t (.i x.rt), .t (.i x.rc), .t (.b x.gv)]), (50, .row 31 5 ((out).map encA)), (60, .mp (ents (gm (cm (out)))) (gm (cm (out))).length)]) [] (.cons (.t (.refl _)) (.cons (.h rfl) (.cons (.h rfl) (.cons (.t (.refl _)) (.cons (.t (.refl _)) (.cons (.t (.refl _)) (.cons (.p rfl) (.nil)))))))) (.cons rfl (.box (.cons (.t (conv_i (by rw [hx]))) (.cons (.t (conv_b (by rw [hx]))) (.cons (.t (conv_i (by rw [hx]))) (.cons (.t (conv_i (by rw [hx]))) (.cons (.t (conv_b (by rw [hx]))) (.nil))))))) (.cons rfl (.row rfl) (.cons rfl (.mp rfl rfl) (.nil)))) rfl rfl ?_
          refine AT.seq ?_
          refine AT.seq ?_
          refine AT.region ?_   -- region 10 acl.go:78
          refine TrC.take rfl (step_move rfl rfl rfl) ?_   -- 0
          refine TrC.take rfl (step_loadPN rfl rfl rfl ty31 rfl rfl rfl) ?_   -- 1
          refine TrC.take rfl (step_call0 rfl rfl (C34 x) rfl) ?_   -- 2
          refine TrC.take rfl (step_lookupOk rfl rfl rfl rfl rfl mp63 zv3 (keyAt (cm out) (mk x)) rfl) ?_   -- 3
          refine TrC.take rfl (step_move rfl rfl rfl) ?_   -- 4
          refine TrC.take rfl (step_extract rfl rfl rfl rfl) ?_   -- 5
          refine TrC.take rfl (step_extract rfl rfl rfl rfl) ?_   -- 6
          refine TrC.take rfl (step_assign rfl rfl rfl) ?_   -- 7
          refine TrC.take rfl (step_assign rfl rfl rfl) ?_   -- 8
          refine TrC.done ?_
          refine AT.spell 10 rfl (bv (b := hasM out x) (by rw [cm_find]; exact find_isSome out x)) ?_
          refine AT.seq ?_
          refine AT.region ?_   -- region 11 acl.go:78
          refine TrC.take rfl (step_move rfl rfl rfl) ?_   -- 0
          refine TrC.done ?_
          refine AT.cond rfl (fun h37 => ?_) (fun h37 => ?_)   -- t37
          · -- true
            have hyes : hasM out x = true := h37
            refine Exists.elim (has_idx hyes) (fun q hq0 => ?_)
            have hq : q < out.length := hq0.choose
            have hqf := hq0.choose_spec.1
            have hqm : marked out[q] x = true := hq0.choose_spec.2
            refine Exists.elim (show ∃ a, a = out[q] from ⟨_, rfl⟩) (fun a ha => ?_)
            have hga : (out.map encA)[q]? = some (encA a) := by rw [List.getElem?_map, List.getElem?_eq_getElem hq, ha]; rfl
            refine AT.spell 9 rfl (show T.v _ = T.i q from congrArg T.v (cm_look hq hqf)) ?_
            refine AT.seq ?_
            refine AT.regionD mixed rfl ?_   -- region 12 acl.go:79
            refine TrC.take rfl (step_move rfl rfl rfl) ?_   -- 0
            refine TrC.take rfl (step_move rfl rfl rfl) ?_   -- 1
            refine TrC.take rfl (step_indexAddrH rfl rfl rfl rfl sl22 (by omega) (by simp; omega) rfl) ?_   -- 2
            refine TrC.take rfl (step_fieldAddrE rfl rfl fd31_2 rfl rfl) ?_   -- 3
            refine TrC.take rfl (step_loadE1 (k := q) (j := 2) rfl rfl rfl (by omega) ty3 hga rfl rfl) ?_   -- 4
            refine TrC.take rfl (step_fieldAddrP rfl rfl fd31_2 rfl rfl) ?_   -- 5
            refine TrC.take rfl (step_loadP1 rfl rfl rfl ty3 rfl rfl) ?_   -- 6
            refine TrC.take rfl (step_bin rfl rfl rfl rfl rfl) ?_   -- 7
            refine TrC.take rfl (step_indexAddrH rfl rfl rfl rfl sl22 (by omega) (by simp; omega) rfl) ?_   -- 8
            refine TrC.take rfl (step_fieldAddrE rfl rfl fd31_2 rfl rfl) ?_   -- 9
            refine TrC.take rfl (step_storeR (k := q) (j := 2) rfl rfl rfl (by omega) hga rfl rfl rfl ty3 rfl rfl) ?_   -- 10
            refine TrC.doneD rfl ?_
            refine AT.exit (Or.inl ⟨rfl, ?_⟩)   -- exit 1
            refine AT.region ?_   -- region 15 acl.go:70
            refine TrC.take rfl (step_addI rfl rfl rfl (by first | omega | (simp; done) | (simp; omega)) (by first | omega | (simp; done) | (simp; omega)) rfl) ?_   -- 0
            refine TrC.take rfl (step_move rfl rfl rfl) ?_   -- 1
            refine TrC.done ?_
            exact ⟨(i + 1, out.map (upd1 x)), ⟨hlt, by show (l.take (i + 1)).foldl (cstep d) [] = _; rw [take_snoc hlt, List.foldl_append, ho, ← he]; show cstep d out e = _; unfold cstep; rw [if_pos hin, ← hx, hyes]; rfl⟩, by show l.length - (i + 1) < l.length - i; omega, Sat.wk [] (.cons (.t (.refl _)) (.cons (.h rfl) (.cons (.h rfl) (.cons (.t (.refl _)) (.cons (.t (.refl _)) (.cons (.t (conv_i (by simp))) (.nil))))))) (.cons rfl (.row (by rw [← upd_row hu hq hqm, ← ha]; rfl)) (.cons rfl (.mp (by rw [cm_map]) (by rw [cm_map])) (.nil))) rfl rfl⟩
          · -- false
            have hno : hasM out x = false := h37
            have hka : KeyAt Try.prog 60 (gm (cm out)) (vM (mk x)) none := by have h := keyAt (cm out) (mk x); rw [cm_none hno] at h; exact h
            refine AT.skip ?_
            refine AT.seq ?_
            refine AT.region ?_   -- region 13 acl.go:82
            refine TrC.take rfl (step_move rfl rfl rfl) ?_   -- 0
            refine TrC.take rfl (step_loadPN rfl rfl rfl ty31 rfl rfl rfl) ?_   -- 1
            refine TrC.take rfl (step_call0 rfl rfl (C34 x) rfl) ?_   -- 2
            refine TrC.take rfl (step_move rfl rfl rfl) ?_   -- 3
            refine TrC.take rfl (step_lenH rfl rfl rfl sl22 rfl) ?_   -- 4
            refine TrC.take rfl (step_mapUpdate rfl rfl rfl rfl rfl rfl rfl mp63 hka rfl) ?_   -- 5
            refine TrC.done ?_
            refine AT.region ?_   -- region 14 acl.go:83
            refine TrC.take rfl (step_move rfl rfl rfl) ?_   -- 0
            refine TrC.take rfl (step_loadPN rfl rfl rfl ty31 rfl rfl rfl) ?_   -- 1
            refine TrC.take rfl (step_buildSliceT rfl sl22 ze31 rfl rfl rfl rfl rfl rfl rfl rfl rfl rfl rfl rfl) ?_   -- 2
            refine TrC.take rfl (step_append rfl rfl rfl rfl rfl (.refl _) sl22 ze31 rfl rfl rfl (by first | (simp; done) | (simp; omega) | omega) rfl rfl) ?_   -- 3
            refine TrC.take rfl (step_assign rfl rfl rfl) ?_   -- 4
            refine TrC.done ?_
            refine AT.region ?_   -- region 15 acl.go:70
            refine TrC.take rfl (step_addI rfl rfl rfl (by first | omega | (simp; done) | (simp; omega)) (by first | omega | (simp; done) | (simp; omega)) rfl) ?_   -- 0
            refine TrC.take rfl (step_move rfl rfl rfl) ?_   -- 1
            refine TrC.done ?_
            exact ⟨(i + 1, out ++ [x]), ⟨hlt, by show (l.take (i + 1)).foldl (cstep d) [] = _; rw [take_snoc hlt, List.foldl_append, ho, ← he]; show cstep d out e = _; unfold cstep; rw [if_pos hin, ← hx, hno]; rfl⟩, by show l.length - (i + 1) < l.length - i; omega, Sat.wk (sl := [(1, .t (.b d)), (5, .h 50), (6, .h 60), (12, .t (.slice 5 (l.map encA))), (13, .t (.i l.length)), (14, .t (.i ((i + 1 : Nat) : Int)))]) (ml := [(50, .row 31 5 ((out ++ [x]).map encA)), (60, .mp (ents (gm (cm (out ++ [x])))) (gm (cm (out ++ [x]))).length)]) [(50, 56)] (.cons (.t (.refl _)) (.cons (.h (j := 50) rfl) (.cons (.h (j := 60) rfl) (.cons (.t (.refl _)) (.cons (.t (.refl _)) (.cons (.t (conv_i (by simp))) (.nil))))))) (.cons rfl (.row (by simp [encA])) (.cons rfl (.mp (congrArg ents (by rw [cm_snoc]; simp [gm, putV]; rfl)) (congrArg List.length (by rw [cm_snoc]; simp [gm, putV]; rfl))) (.nil))) rfl rfl⟩
  · -- false
    have hge : ¬ i < l.length := by simpa using h15
    have hr : out = child l d := by rw [← ho, List.take_of_length_le (by omega)]; rfl
    refine AT.exit (Or.inl ⟨rfl, ?_⟩)   -- exit 0
    refine AT.seq ?_
    refine AT.region ?_   -- region 16 acl.go:85
    refine TrC.take rfl (step_move rfl rfl rfl) ?_   -- 0
    refine TrC.take rfl (step_assign rfl rfl rfl) ?_   -- 1
    refine TrC.done ?_
    refine AT.ret ?_
    exact Ret.one rfl (ResR.row rfl (by rw [← hr]; rfl))

end Go.Proofs.Ytgblfhobiibeaaa.Acl

/- Contracts of functions of this translation. Printed by wip/tools/gen.py out of wip/acl/ann.py. No condition. -/
set_option linter.unusedVariables false
set_option linter.unusedSimpArgs false
namespace Go.Proofs.Ytgblfhobiibeaaa.Acl
open Go.Proofs.Ytgblfhobiibeaaa.Abs
set_option maxRecDepth 100000
set_option maxHeartbeats 4000000
theorem C23 (l m : List Ace) (d : Bool) (hl : l.length ≤ 1000000) (hm : m.length ≤ 1000000) : Has Try.prog 23 [.slice 5 (l.map encA), .slice 5 (m.map encA), .b d] (.slice 5 ((own l false ++ child m d).map encA)) := by   -- burgage/acl.Again
  have hc := child_len m d
  have ho : (l.filter (fun a : Ace => !a.gv)).length ≤ l.length := List.length_filter_le _ _
  refine Has.intro 13 Try.func23 (by kernel_rfl) rfl rfl fun w ok => ?_
  refine AT.seq ?_
  refine AT.region ?_   -- region 0 acl.go:93
  refine TrC.take rfl (step_assignN (sz := 5) rfl rfl) ?_   -- 0
  refine TrC.done ?_
  refine AT.seq ?_
  refine AT.region ?_   -- region 1 acl.go:94
  refine TrC.take rfl (step_move rfl rfl rfl) ?_   -- 0
  refine TrC.take rfl (step_callH rfl rfl rfl (C39 l 40 [] (fun a => a.gv) hl (fun a => C40 a)) (.cons (.refl _) (.cons (.fn _) .nil)) rfl rfl) ?_   -- 1
  refine TrC.take rfl (step_move rfl rfl rfl) ?_   -- 2
  refine TrC.take rfl (step_move rfl rfl rfl) ?_   -- 3
  refine TrC.take rfl (step_call0 rfl rfl (C21 m d hm) rfl) ?_   -- 4
  refine TrC.take rfl (Step.toT (step_append rfl rfl rfl rfl rfl (.refl _) sl22 ze31 rfl rfl rfl (by first | (simp; done) | (simp; omega) | omega) rfl rfl) rfl) ?_   -- 5
  refine TrC.take rfl (step_assign rfl rfl rfl) ?_   -- 6
  refine TrC.done ?_
  refine AT.ret ?_
  exact Ret.one rfl (ResR.tmp rfl (conv_eq (by rw [own_eq]; simp)))

theorem C24 (l m : List Ace) (d : Bool) (hl : l.length ≤ 1000000) (hm : m.length ≤ 1000000) : Has Try.prog 24 [.slice 5 (l.map encA), .slice 5 (m.map encA), .b d] (.slice 5 ((own l false ++ child m d).map encA)) := by   -- burgage/burgageref02.Again
  have hc := child_len m d
  have ho := own_len l false
  refine Has.intro 13 Try.func24 (by kernel_rfl) rfl rfl fun w ok => ?_
  refine AT.seq ?_
  refine AT.region ?_   -- region 0 ref.go:98
  refine TrC.take rfl (step_assignN (sz := 5) rfl rfl) ?_   -- 0
  refine TrC.done ?_
  refine AT.seq ?_
  refine AT.region ?_   -- region 1 ref.go:99
  refine TrC.take rfl (step_move rfl rfl rfl) ?_   -- 0
  refine TrC.take rfl (step_callH0 rfl rfl rfl (C30 l false hl) rfl rfl) ?_   -- 1
  refine TrC.take rfl (step_move rfl rfl rfl) ?_   -- 2
  refine TrC.take rfl (step_move rfl rfl rfl) ?_   -- 3
  refine TrC.take rfl (step_call0 rfl rfl (C22 m d hm) rfl) ?_   -- 4
  refine TrC.take rfl (Step.toT (step_append rfl rfl rfl rfl rfl (.refl _) sl22 ze31 rfl rfl rfl (by first | (simp; done) | (simp; omega) | omega) rfl rfl) rfl) ?_   -- 5
  refine TrC.take rfl (step_assign rfl rfl rfl) ?_   -- 6
  refine TrC.done ?_
  refine AT.ret ?_
  exact Ret.one rfl (ResR.tmp rfl (conv_eq (by simp)))

end Go.Proofs.Ytgblfhobiibeaaa.Acl
