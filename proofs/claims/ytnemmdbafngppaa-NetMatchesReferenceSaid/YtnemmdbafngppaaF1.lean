/- Contracts of functions of this translation. Printed by wip/tools/gen.py out of wip/net/ann.py. No condition. -/
import Derived.Test.YtnemmdbafngppaaSpec
set_option linter.unusedVariables false
set_option linter.unusedSimpArgs false
namespace Go.Proofs.Ytnemmdbafngppaa.Net
open Go.Proofs.Ytnemmdbafngppaa.Abs
set_option maxRecDepth 100000
set_option maxHeartbeats 4000000
theorem C45 (a : Int) : Has Try.prog 45 [.i a] (.b (part a)) := by   -- burgage/burgageref32.part
  refine Has.intro 9 Try.func45 (by kernel_rfl) rfl rfl fun w ok => ?_
  refine AT.seq ?_
  refine AT.region ?_   -- region 0 ref.go:7
  refine TrC.take rfl (step_assign rfl rfl rfl) ?_   -- 0
  refine TrC.done ?_
  refine AT.seq ?_
  refine AT.region ?_   -- region 1 ref.go:7
  refine TrC.take rfl (step_move rfl rfl rfl) ?_   -- 0
  refine TrC.take rfl (step_bin rfl rfl rfl rfl rfl) ?_   -- 1
  refine TrC.take rfl (step_move rfl rfl rfl) ?_   -- 2
  refine TrC.cases (d := 5) rfl (fun h5 => ?_) (fun h5 => ?_)
  · -- t5 = true
    refine TrC.take ⟨_, _, rfl, rfl, rfl⟩ (step_move rfl rfl rfl) ?_   -- 3
    refine TrC.take ⟨_, _, rfl, rfl, rfl⟩ (step_bin rfl rfl rfl rfl rfl) ?_   -- 4
    refine TrC.take rfl (step_pick rfl rfl rfl rfl) ?_   -- 5
    refine TrC.take rfl (step_assign rfl rfl rfl) ?_   -- 6
    refine TrC.done ?_
    refine AT.ret ?_
    exact Ret.one rfl (ResR.tmp rfl (conv_b (by first | (simp_all [part]; done) | (simp_all [part] <;> intros <;> omega) | (rw [Bool.eq_iff_iff]; simp_all [part]; done) | (rw [Bool.eq_iff_iff]; simp_all [part] <;> omega))))
  · -- t5 = false
    refine TrC.skip ⟨_, _, rfl, rfl, rfl⟩ ?_   -- 3
    refine TrC.skip ⟨_, _, rfl, rfl, rfl⟩ ?_   -- 4
    refine TrC.take rfl (step_pick rfl rfl rfl rfl) ?_   -- 5
    refine TrC.take rfl (step_assign rfl rfl rfl) ?_   -- 6
    refine TrC.done ?_
    refine AT.ret ?_
    exact Ret.one rfl (ResR.tmp rfl (conv_b (by first | (simp_all [part]; done) | (simp_all [part] <;> intros <;> omega) | (rw [Bool.eq_iff_iff]; simp_all [part]; done) | (rw [Bool.eq_iff_iff]; simp_all [part] <;> omega))))

theorem C30 (a b : Int) : Has Try.prog 30 [.i a, .i b] (.b (parts a b)) := by   -- burgage/burgageref32.parts
  refine Has.intro 16 Try.func30 (by kernel_rfl) rfl rfl fun w ok => ?_
  refine AT.seq ?_
  refine AT.region ?_   -- region 0 ref.go:10
  refine TrC.take rfl (step_assign rfl rfl rfl) ?_   -- 0
  refine TrC.done ?_
  refine AT.seq ?_
  refine AT.region ?_   -- region 1 ref.go:10
  refine TrC.take rfl (step_move rfl rfl rfl) ?_   -- 0
  refine TrC.take rfl (step_call0 rfl rfl (C45 a) rfl) ?_   -- 1
  refine TrC.take rfl (step_move rfl rfl rfl) ?_   -- 2
  refine TrC.cases (d := 7) rfl (fun h7 => ?_) (fun h7 => ?_)
  · -- t7 = true
    refine TrC.take ⟨_, _, rfl, rfl, rfl⟩ (step_move rfl rfl rfl) ?_   -- 3
    refine TrC.take ⟨_, _, rfl, rfl, rfl⟩ (step_call0 rfl rfl (C45 b) rfl) ?_   -- 4
    refine TrC.take rfl (step_pick rfl rfl rfl rfl) ?_   -- 5
    refine TrC.take rfl (step_move rfl rfl rfl) ?_   -- 6
    refine TrC.cases (d := 11) rfl (fun h11 => ?_) (fun h11 => ?_)
    · -- t11 = true
      refine TrC.take ⟨_, _, rfl, rfl, rfl⟩ (step_move rfl rfl rfl) ?_   -- 7
      refine TrC.take ⟨_, _, rfl, rfl, rfl⟩ (step_move rfl rfl rfl) ?_   -- 8
      refine TrC.take ⟨_, _, rfl, rfl, rfl⟩ (step_bin rfl rfl rfl rfl rfl) ?_   -- 9
      refine TrC.take rfl (step_pick rfl rfl rfl rfl) ?_   -- 10
      refine TrC.take rfl (step_assign rfl rfl rfl) ?_   -- 11
      refine TrC.done ?_
      refine AT.ret ?_
      exact Ret.one rfl (ResR.tmp rfl (conv_b (by first | (simp_all [parts]; done) | (simp_all [parts] <;> intros <;> omega) | (rw [Bool.eq_iff_iff]; simp_all [parts]; done) | (rw [Bool.eq_iff_iff]; simp_all [parts] <;> omega))))
    · -- t11 = false
      refine TrC.skip ⟨_, _, rfl, rfl, rfl⟩ ?_   -- 7
      refine TrC.skip ⟨_, _, rfl, rfl, rfl⟩ ?_   -- 8
      refine TrC.skip ⟨_, _, rfl, rfl, rfl⟩ ?_   -- 9
      refine TrC.take rfl (step_pick rfl rfl rfl rfl) ?_   -- 10
      refine TrC.take rfl (step_assign rfl rfl rfl) ?_   -- 11
      refine TrC.done ?_
      refine AT.ret ?_
      exact Ret.one rfl (ResR.tmp rfl (conv_b (by first | (simp_all [parts]; done) | (simp_all [parts] <;> intros <;> omega) | (rw [Bool.eq_iff_iff]; simp_all [parts]; done) | (rw [Bool.eq_iff_iff]; simp_all [parts] <;> omega))))
  · -- t7 = false
    refine TrC.skip ⟨_, _, rfl, rfl, rfl⟩ ?_   -- 3
    refine TrC.skip ⟨_, _, rfl, rfl, rfl⟩ ?_   -- 4
    refine TrC.take rfl (step_pick rfl rfl rfl rfl) ?_   -- 5
    refine TrC.take rfl (step_move rfl rfl rfl) ?_   -- 6
    refine TrC.skip ⟨_, _, rfl, rfl, rfl⟩ ?_   -- 7
    refine TrC.skip ⟨_, _, rfl, rfl, rfl⟩ ?_   -- 8
    refine TrC.skip ⟨_, _, rfl, rfl, rfl⟩ ?_   -- 9
    refine TrC.take rfl (step_pick rfl rfl rfl rfl) ?_   -- 10
    refine TrC.take rfl (step_assign rfl rfl rfl) ?_   -- 11
    refine TrC.done ?_
    refine AT.ret ?_
    exact Ret.one rfl (ResR.tmp rfl (conv_b (by first | (simp_all [parts]; done) | (simp_all [parts] <;> intros <;> omega) | (rw [Bool.eq_iff_iff]; simp_all [parts]; done) | (rw [Bool.eq_iff_iff]; simp_all [parts] <;> omega))))

theorem C43 (a b : Int) : Has Try.prog 43 [.i a, .i b] (.b (parts a b)) := by   -- burgage/net.parts
  refine Has.intro 24 Try.func43 (by kernel_rfl) rfl rfl fun w ok => ?_
  refine AT.seq ?_
  refine AT.region ?_   -- region 0 net.go:15
  refine TrC.take rfl (step_assign rfl rfl rfl) ?_   -- 0
  refine TrC.done ?_
  refine AT.seq ?_
  refine AT.region ?_   -- region 1 net.go:16
  refine TrC.take rfl (step_move rfl rfl rfl) ?_   -- 0
  refine TrC.take rfl (step_bin rfl rfl rfl rfl rfl) ?_   -- 1
  refine TrC.take rfl (step_move rfl rfl rfl) ?_   -- 2
  refine TrC.cases (d := 7) rfl (fun h7 => ?_) (fun h7 => ?_)
  · -- t7 = true
    refine TrC.take ⟨_, _, rfl, rfl, rfl⟩ (step_move rfl rfl rfl) ?_   -- 3
    refine TrC.take ⟨_, _, rfl, rfl, rfl⟩ (step_bin rfl rfl rfl rfl rfl) ?_   -- 4
    refine TrC.take rfl (step_pick rfl rfl rfl rfl) ?_   -- 5
    refine TrC.take rfl (step_move rfl rfl rfl) ?_   -- 6
    refine TrC.cases (d := 11) rfl (fun h11 => ?_) (fun h11 => ?_)
    · -- t11 = true
      refine TrC.take ⟨_, _, rfl, rfl, rfl⟩ (step_move rfl rfl rfl) ?_   -- 7
      refine TrC.take ⟨_, _, rfl, rfl, rfl⟩ (step_bin rfl rfl rfl rfl rfl) ?_   -- 8
      refine TrC.take rfl (step_pick rfl rfl rfl rfl) ?_   -- 9
      refine TrC.take rfl (step_move rfl rfl rfl) ?_   -- 10
      refine TrC.cases (d := 15) rfl (fun h15 => ?_) (fun h15 => ?_)
      · -- t15 = true
        refine TrC.take ⟨_, _, rfl, rfl, rfl⟩ (step_move rfl rfl rfl) ?_   -- 11
        refine TrC.take ⟨_, _, rfl, rfl, rfl⟩ (step_bin rfl rfl rfl rfl rfl) ?_   -- 12
        refine TrC.take rfl (step_pick rfl rfl rfl rfl) ?_   -- 13
        refine TrC.take rfl (step_move rfl rfl rfl) ?_   -- 14
        refine TrC.cases (d := 19) rfl (fun h19 => ?_) (fun h19 => ?_)
        · -- t19 = true
          refine TrC.take ⟨_, _, rfl, rfl, rfl⟩ (step_move rfl rfl rfl) ?_   -- 15
          refine TrC.take ⟨_, _, rfl, rfl, rfl⟩ (step_move rfl rfl rfl) ?_   -- 16
          refine TrC.take ⟨_, _, rfl, rfl, rfl⟩ (step_bin rfl rfl rfl rfl rfl) ?_   -- 17
          refine TrC.take rfl (step_pick rfl rfl rfl rfl) ?_   -- 18
          refine TrC.take rfl (step_assign rfl rfl rfl) ?_   -- 19
          refine TrC.done ?_
          refine AT.ret ?_
          exact Ret.one rfl (ResR.tmp rfl (conv_b (by first | (simp_all [parts, part]; done) | (simp_all [parts, part] <;> intros <;> omega) | (rw [Bool.eq_iff_iff]; simp_all [parts, part]; done) | (rw [Bool.eq_iff_iff]; simp_all [parts, part] <;> omega))))
        · -- t19 = false
          refine TrC.skip ⟨_, _, rfl, rfl, rfl⟩ ?_   -- 15
          refine TrC.skip ⟨_, _, rfl, rfl, rfl⟩ ?_   -- 16
          refine TrC.skip ⟨_, _, rfl, rfl, rfl⟩ ?_   -- 17
          refine TrC.take rfl (step_pick rfl rfl rfl rfl) ?_   -- 18
          refine TrC.take rfl (step_assign rfl rfl rfl) ?_   -- 19
          refine TrC.done ?_
          refine AT.ret ?_
          exact Ret.one rfl (ResR.tmp rfl (conv_b (by first | (simp_all [parts, part]; done) | (simp_all [parts, part] <;> intros <;> omega) | (rw [Bool.eq_iff_iff]; simp_all [parts, part]; done) | (rw [Bool.eq_iff_iff]; simp_all [parts, part] <;> omega))))
      · -- t15 = false
        refine TrC.skip ⟨_, _, rfl, rfl, rfl⟩ ?_   -- 11
        refine TrC.skip ⟨_, _, rfl, rfl, rfl⟩ ?_   -- 12
        refine TrC.take rfl (step_pick rfl rfl rfl rfl) ?_   -- 13
        refine TrC.take rfl (step_move rfl rfl rfl) ?_   -- 14
        refine TrC.skip ⟨_, _, rfl, rfl, rfl⟩ ?_   -- 15
        refine TrC.skip ⟨_, _, rfl, rfl, rfl⟩ ?_   -- 16
        refine TrC.skip ⟨_, _, rfl, rfl, rfl⟩ ?_   -- 17
        refine TrC.take rfl (step_pick rfl rfl rfl rfl) ?_   -- 18
        refine TrC.take rfl (step_assign rfl rfl rfl) ?_   -- 19
        refine TrC.done ?_
        refine AT.ret ?_
        exact Ret.one rfl (ResR.tmp rfl (conv_b (by first | (simp_all [parts, part]; done) | (simp_all [parts, part] <;> intros <;> omega) | (rw [Bool.eq_iff_iff]; simp_all [parts, part]; done) | (rw [Bool.eq_iff_iff]; simp_all [parts, part] <;> omega))))
    · -- t11 = false
      refine TrC.skip ⟨_, _, rfl, rfl, rfl⟩ ?_   -- 7
      refine TrC.skip ⟨_, _, rfl, rfl, rfl⟩ ?_   -- 8
      refine TrC.take rfl (step_pick rfl rfl rfl rfl) ?_   -- 9
      refine TrC.take rfl (step_move rfl rfl rfl) ?_   -- 10
      refine TrC.skip ⟨_, _, rfl, rfl, rfl⟩ ?_   -- 11
      refine TrC.skip ⟨_, _, rfl, rfl, rfl⟩ ?_   -- 12
      refine TrC.take rfl (step_pick rfl rfl rfl rfl) ?_   -- 13
      refine TrC.take rfl (step_move rfl rfl rfl) ?_   -- 14
      refine TrC.skip ⟨_, _, rfl, rfl, rfl⟩ ?_   -- 15
      refine TrC.skip ⟨_, _, rfl, rfl, rfl⟩ ?_   -- 16
      refine TrC.skip ⟨_, _, rfl, rfl, rfl⟩ ?_   -- 17
      refine TrC.take rfl (step_pick rfl rfl rfl rfl) ?_   -- 18
      refine TrC.take rfl (step_assign rfl rfl rfl) ?_   -- 19
      refine TrC.done ?_
      refine AT.ret ?_
      exact Ret.one rfl (ResR.tmp rfl (conv_b (by first | (simp_all [parts, part]; done) | (simp_all [parts, part] <;> intros <;> omega) | (rw [Bool.eq_iff_iff]; simp_all [parts, part]; done) | (rw [Bool.eq_iff_iff]; simp_all [parts, part] <;> omega))))
  · -- t7 = false
    refine TrC.skip ⟨_, _, rfl, rfl, rfl⟩ ?_   -- 3
    refine TrC.skip ⟨_, _, rfl, rfl, rfl⟩ ?_   -- 4
    refine TrC.take rfl (step_pick rfl rfl rfl rfl) ?_   -- 5
    refine TrC.take rfl (step_move rfl rfl rfl) ?_   -- 6
    refine TrC.skip ⟨_, _, rfl, rfl, rfl⟩ ?_   -- 7
    refine TrC.skip ⟨_, _, rfl, rfl, rfl⟩ ?_   -- 8
    refine TrC.take rfl (step_pick rfl rfl rfl rfl) ?_   -- 9
    refine TrC.take rfl (step_move rfl rfl rfl) ?_   -- 10
    refine TrC.skip ⟨_, _, rfl, rfl, rfl⟩ ?_   -- 11
    refine TrC.skip ⟨_, _, rfl, rfl, rfl⟩ ?_   -- 12
    refine TrC.take rfl (step_pick rfl rfl rfl rfl) ?_   -- 13
    refine TrC.take rfl (step_move rfl rfl rfl) ?_   -- 14
    refine TrC.skip ⟨_, _, rfl, rfl, rfl⟩ ?_   -- 15
    refine TrC.skip ⟨_, _, rfl, rfl, rfl⟩ ?_   -- 16
    refine TrC.skip ⟨_, _, rfl, rfl, rfl⟩ ?_   -- 17
    refine TrC.take rfl (step_pick rfl rfl rfl rfl) ?_   -- 18
    refine TrC.take rfl (step_assign rfl rfl rfl) ?_   -- 19
    refine TrC.done ?_
    refine AT.ret ?_
    exact Ret.one rfl (ResR.tmp rfl (conv_b (by first | (simp_all [parts, part]; done) | (simp_all [parts, part] <;> intros <;> omega) | (rw [Bool.eq_iff_iff]; simp_all [parts, part]; done) | (rw [Bool.eq_iff_iff]; simp_all [parts, part] <;> omega))))

theorem C42 (a b : Int × Int) : Has Try.prog 42 [encC a, encC b] (.b (less a b)) := by   -- burgage/burgageref32.less
  refine Has.intro 24 Try.func42 (by kernel_rfl) rfl rfl fun w ok => ?_
  refine AT.seq ?_
  refine AT.region ?_   -- region 0 ref.go:13
  refine TrC.take rfl (step_box rfl rfl rfl rfl rfl rfl rfl) ?_   -- 0
  refine TrC.take rfl (step_box rfl rfl rfl rfl rfl rfl rfl) ?_   -- 1
  refine TrC.take rfl (step_assign rfl rfl rfl) ?_   -- 2
  refine TrC.done ?_
  refine AT.seq ?_
  refine AT.region ?_   -- region 1 ref.go:13
  refine TrC.take rfl (step_indexAddrP rfl rfl rfl ar32 (by decide) (by decide) rfl) ?_   -- 0
  refine TrC.take rfl (step_loadP1 rfl rfl rfl ty3 rfl rfl) ?_   -- 1
  refine TrC.take rfl (step_indexAddrP rfl rfl rfl ar32 (by decide) (by decide) rfl) ?_   -- 2
  refine TrC.take rfl (step_loadP1 rfl rfl rfl ty3 rfl rfl) ?_   -- 3
  refine TrC.take rfl (step_bin rfl rfl rfl rfl rfl) ?_   -- 4
  refine TrC.take rfl (step_move rfl rfl rfl) ?_   -- 5
  refine TrC.cases (d := 10) rfl (fun h10 => ?_) (fun h10 => ?_)
  · -- t10 = true
    refine TrC.skip ⟨_, _, rfl, rfl, rfl⟩ ?_   -- 6
    refine TrC.skip ⟨_, _, rfl, rfl, rfl⟩ ?_   -- 7
    refine TrC.skip ⟨_, _, rfl, rfl, rfl⟩ ?_   -- 8
    refine TrC.skip ⟨_, _, rfl, rfl, rfl⟩ ?_   -- 9
    refine TrC.skip ⟨_, _, rfl, rfl, rfl⟩ ?_   -- 10
    refine TrC.skip ⟨_, _, rfl, rfl, rfl⟩ ?_   -- 11
    refine TrC.skip ⟨_, _, rfl, rfl, rfl⟩ ?_   -- 12
    refine TrC.skip ⟨_, _, rfl, rfl, rfl⟩ ?_   -- 13
    refine TrC.skip ⟨_, _, rfl, rfl, rfl⟩ ?_   -- 14
    refine TrC.skip ⟨_, _, rfl, rfl, rfl⟩ ?_   -- 15
    refine TrC.skip ⟨_, _, rfl, rfl, rfl⟩ ?_   -- 16
    refine TrC.skip ⟨_, _, rfl, rfl, rfl⟩ ?_   -- 17
    refine TrC.take rfl (step_pick rfl rfl rfl rfl) ?_   -- 18
    refine TrC.take rfl (step_assign rfl rfl rfl) ?_   -- 19
    refine TrC.done ?_
    refine AT.ret ?_
    exact Ret.one rfl (ResR.tmp rfl (conv_b (by first | (simp_all [less]; done) | (simp_all [less] <;> intros <;> omega) | (rw [Bool.eq_iff_iff]; simp_all [less]; done) | (rw [Bool.eq_iff_iff]; simp_all [less] <;> omega))))
  · -- t10 = false
    refine TrC.take ⟨_, _, rfl, rfl, rfl⟩ (step_indexAddrP rfl rfl rfl ar32 (by decide) (by decide) rfl) ?_   -- 6
    refine TrC.take ⟨_, _, rfl, rfl, rfl⟩ (step_loadP1 rfl rfl rfl ty3 rfl rfl) ?_   -- 7
    refine TrC.take ⟨_, _, rfl, rfl, rfl⟩ (step_indexAddrP rfl rfl rfl ar32 (by decide) (by decide) rfl) ?_   -- 8
    refine TrC.take ⟨_, _, rfl, rfl, rfl⟩ (step_loadP1 rfl rfl rfl ty3 rfl rfl) ?_   -- 9
    refine TrC.take ⟨_, _, rfl, rfl, rfl⟩ (step_bin rfl rfl rfl rfl rfl) ?_   -- 10
    refine TrC.take ⟨_, _, rfl, rfl, rfl⟩ (step_move rfl rfl rfl) ?_   -- 11
    refine TrC.cases (d := 16) rfl (fun h16 => ?_) (fun h16 => ?_)
    · -- t16 = true
      refine TrC.take ⟨_, _, rfl, rfl, rfl⟩ (step_indexAddrP rfl rfl rfl ar32 (by decide) (by decide) rfl) ?_   -- 12
      refine TrC.take ⟨_, _, rfl, rfl, rfl⟩ (step_loadP1 rfl rfl rfl ty3 rfl rfl) ?_   -- 13
      refine TrC.take ⟨_, _, rfl, rfl, rfl⟩ (step_indexAddrP rfl rfl rfl ar32 (by decide) (by decide) rfl) ?_   -- 14
      refine TrC.take ⟨_, _, rfl, rfl, rfl⟩ (step_loadP1 rfl rfl rfl ty3 rfl rfl) ?_   -- 15
      refine TrC.take ⟨_, _, rfl, rfl, rfl⟩ (step_bin rfl rfl rfl rfl rfl) ?_   -- 16
      refine TrC.take ⟨_, _, rfl, rfl, rfl⟩ (step_pick rfl rfl rfl rfl) ?_   -- 17
      refine TrC.take rfl (step_pick rfl rfl rfl rfl) ?_   -- 18
      refine TrC.take rfl (step_assign rfl rfl rfl) ?_   -- 19
      refine TrC.done ?_
      refine AT.ret ?_
      exact Ret.one rfl (ResR.tmp rfl (conv_b (by first | (simp_all [less]; done) | (simp_all [less] <;> intros <;> omega) | (rw [Bool.eq_iff_iff]; simp_all [less]; done) | (rw [Bool.eq_iff_iff]; simp_all [less] <;> omega))))
    · -- t16 = false
      refine TrC.skip ⟨_, _, rfl, rfl, rfl⟩ ?_   -- 12
      refine TrC.skip ⟨_, _, rfl, rfl, rfl⟩ ?_   -- 13
      refine TrC.skip ⟨_, _, rfl, rfl, rfl⟩ ?_   -- 14
      refine TrC.skip ⟨_, _, rfl, rfl, rfl⟩ ?_   -- 15
      refine TrC.skip ⟨_, _, rfl, rfl, rfl⟩ ?_   -- 16
      refine TrC.take ⟨_, _, rfl, rfl, rfl⟩ (step_pick rfl rfl rfl rfl) ?_   -- 17
      refine TrC.take rfl (step_pick rfl rfl rfl rfl) ?_   -- 18
      refine TrC.take rfl (step_assign rfl rfl rfl) ?_   -- 19
      refine TrC.done ?_
      refine AT.ret ?_
      exact Ret.one rfl (ResR.tmp rfl (conv_b (by first | (simp_all [less]; done) | (simp_all [less] <;> intros <;> omega) | (rw [Bool.eq_iff_iff]; simp_all [less]; done) | (rw [Bool.eq_iff_iff]; simp_all [less] <;> omega))))

theorem C57 (a : Int) : Has Try.prog 57 [.i a] (.b false) := by   -- cmp.isNaN[int]
  refine Has.intro 6 Try.func57 (by kernel_rfl) rfl rfl fun w ok => ?_
  refine AT.seq ?_
  refine AT.region ?_   -- region 0 cmp.go:63
  refine TrC.take rfl (step_assign rfl rfl rfl) ?_   -- 0
  refine TrC.done ?_
  refine AT.seq ?_
  refine AT.region ?_   -- region 1 cmp.go:64
  refine TrC.take rfl (step_move rfl rfl rfl) ?_   -- 0
  refine TrC.take rfl (step_move rfl rfl rfl) ?_   -- 1
  refine TrC.take rfl (step_bin rfl rfl rfl rfl rfl) ?_   -- 2
  refine TrC.take rfl (step_assign rfl rfl rfl) ?_   -- 3
  refine TrC.done ?_
  refine AT.ret ?_
  exact Ret.one rfl (ResR.tmp rfl (conv_b (by simp)))

theorem C48 (a b : Int) : Has Try.prog 48 [.i a, .i b] (.i (cmpI a b)) := by   -- cmp.Compare[int]
  refine Has.intro 20 Try.func48 (by kernel_rfl) rfl rfl fun w ok => ?_
  refine AT.seq ?_
  refine AT.region ?_   -- region 0 cmp.go:40
  refine TrC.take rfl (step_assign rfl rfl rfl) ?_   -- 0
  refine TrC.done ?_
  refine AT.seq ?_
  refine AT.region ?_   -- region 1 cmp.go:41
  refine TrC.take rfl (step_move rfl rfl rfl) ?_   -- 0
  refine TrC.take rfl (step_call0 rfl rfl (C57 a) rfl) ?_   -- 1
  refine TrC.take rfl (step_assign rfl rfl rfl) ?_   -- 2
  refine TrC.done ?_
  refine AT.seq ?_
  refine AT.region ?_   -- region 2 cmp.go:42
  refine TrC.take rfl (step_move rfl rfl rfl) ?_   -- 0
  refine TrC.take rfl (step_call0 rfl rfl (C57 b) rfl) ?_   -- 1
  refine TrC.take rfl (step_assign rfl rfl rfl) ?_   -- 2
  refine TrC.done ?_
  refine AT.seq ?_
  refine AT.seq ?_
  refine AT.region ?_   -- region 3 cmp.go:43
  refine TrC.take rfl (step_move rfl rfl rfl) ?_   -- 0
  refine TrC.done ?_
  refine AT.cond rfl (fun h11 => ?_) (fun h11 => ?_)   -- t11
  · -- true
    refine AT.seq ?_
    refine AT.seq ?_
    refine AT.region ?_   -- region 4 cmp.go:44
    refine TrC.take rfl (step_move rfl rfl rfl) ?_   -- 0
    refine TrC.done ?_
    refine AT.cond rfl (fun h12 => ?_) (fun h12 => ?_)   -- t12
    · -- true
      refine AT.seq ?_
      refine AT.region ?_   -- region 5 cmp.go:45
      refine TrC.take rfl (step_assign rfl rfl rfl) ?_   -- 0
      refine TrC.done ?_
      refine AT.ret ?_
      exact Ret.one rfl (ResR.tmp rfl (conv_i (by simp_all [cmpI] <;> omega)))
    · -- false
      refine AT.skip ?_
      refine AT.seq ?_
      refine AT.region ?_   -- region 6 cmp.go:47
      refine TrC.take rfl (step_assign rfl rfl rfl) ?_   -- 0
      refine TrC.done ?_
      refine AT.ret ?_
      exact Ret.one rfl (ResR.tmp rfl (conv_i (by simp_all [cmpI] <;> omega)))
  · -- false
    refine AT.skip ?_
    refine AT.seq ?_
    refine AT.seq ?_
    refine AT.region ?_   -- region 7 cmp.go:49
    refine TrC.take rfl (step_move rfl rfl rfl) ?_   -- 0
    refine TrC.done ?_
    refine AT.cond rfl (fun h13 => ?_) (fun h13 => ?_)   -- t13
    · -- true
      refine AT.seq ?_
      refine AT.region ?_   -- region 8 cmp.go:50
      refine TrC.take rfl (step_assign rfl rfl rfl) ?_   -- 0
      refine TrC.done ?_
      refine AT.ret ?_
      exact Ret.one rfl (ResR.tmp rfl (conv_i (by simp_all [cmpI] <;> omega)))
    · -- false
      refine AT.skip ?_
      refine AT.seq ?_
      refine AT.seq ?_
      refine AT.region ?_   -- region 9 cmp.go:52
      refine TrC.take rfl (step_move rfl rfl rfl) ?_   -- 0
      refine TrC.take rfl (step_move rfl rfl rfl) ?_   -- 1
      refine TrC.take rfl (step_bin rfl rfl rfl rfl rfl) ?_   -- 2
      refine TrC.done ?_
      refine AT.cond rfl (fun h16 => ?_) (fun h16 => ?_)   -- t16
      · -- true
        refine AT.seq ?_
        refine AT.region ?_   -- region 10 cmp.go:53
        refine TrC.take rfl (step_assign rfl rfl rfl) ?_   -- 0
        refine TrC.done ?_
        refine AT.ret ?_
        exact Ret.one rfl (ResR.tmp rfl (conv_i (by simp_all [cmpI] <;> omega)))
      · -- false
        refine AT.skip ?_
        refine AT.seq ?_
        refine AT.seq ?_
        refine AT.region ?_   -- region 11 cmp.go:55
        refine TrC.take rfl (step_move rfl rfl rfl) ?_   -- 0
        refine TrC.take rfl (step_move rfl rfl rfl) ?_   -- 1
        refine TrC.take rfl (step_bin rfl rfl rfl rfl rfl) ?_   -- 2
        refine TrC.done ?_
        refine AT.cond rfl (fun h19 => ?_) (fun h19 => ?_)   -- t19
        · -- true
          refine AT.seq ?_
          refine AT.region ?_   -- region 12 cmp.go:56
          refine TrC.take rfl (step_assign rfl rfl rfl) ?_   -- 0
          refine TrC.done ?_
          refine AT.ret ?_
          exact Ret.one rfl (ResR.tmp rfl (conv_i (by simp_all [cmpI] <;> omega)))
        · -- false
          refine AT.skip ?_
          refine AT.seq ?_
          refine AT.region ?_   -- region 13 cmp.go:58
          refine TrC.take rfl (step_assign rfl rfl rfl) ?_   -- 0
          refine TrC.done ?_
          refine AT.ret ?_
          exact Ret.one rfl (ResR.tmp rfl (conv_i (by simp_all [cmpI] <;> omega)))

theorem C35 (a b : Int) : Has Try.prog 35 [.i a, .i b] (encC (pr a b)) := by   -- burgage/net.of
  refine Has.intro 12 Try.func35 (by kernel_rfl) rfl rfl fun w ok => ?_
  refine AT.seq ?_
  refine AT.region ?_   -- region 0 net.go:20
  refine TrC.take rfl (step_alloc rfl rfl ze32 rfl rfl rfl) ?_   -- 0
  refine TrC.done ?_
  refine AT.seq ?_
  refine AT.region ?_   -- region 1 net.go:20
  refine TrC.take rfl (step_move rfl rfl rfl) ?_   -- 0
  refine TrC.take rfl (step_move rfl rfl rfl) ?_   -- 1
  refine TrC.take rfl (step_min rfl rfl rfl rfl) ?_   -- 2
  refine TrC.take rfl (step_move rfl rfl rfl) ?_   -- 3
  refine TrC.take rfl (step_move rfl rfl rfl) ?_   -- 4
  refine TrC.take rfl (step_max rfl rfl rfl rfl) ?_   -- 5
  refine TrC.take rfl (step_buildA rfl ze32 rfl ar32 rfl rfl rfl rfl) ?_   -- 6
  refine TrC.take rfl (step_storeP rfl rfl rfl rfl rfl (.inl rfl) ty32 rfl rfl rfl) ?_   -- 7
  refine TrC.done ?_
  refine AT.ret ?_
  exact Ret.one rfl (ResR.cellN rfl rfl ty32 rfl rfl (conv_eq rfl))

end Go.Proofs.Ytnemmdbafngppaa.Net
