/- Contracts of functions of this translation. Printed by wip/tools/gen.py out of wip/net/ann.py. No condition. -/
import Derived.Test.YtnemmdbafngppaaF13
set_option linter.unusedVariables false
set_option linter.unusedSimpArgs false
namespace Go.Proofs.Ytnemmdbafngppaa.Net
open Go.Proofs.Ytnemmdbafngppaa.Abs
set_option maxRecDepth 100000
set_option maxHeartbeats 4000000
theorem C28 (n : Net) (x y z : Int) (hx : 0 ≤ x ∧ x ≤ 255) (hy : 0 ≤ y ∧ y ≤ 255) (hz : 0 ≤ z ∧ z ≤ 255) (hl : n.fl.length ≤ 1000000) (hc : n.cuts.length ≤ 1000000) (h0 : -1000000000000 ≤ n.next) : Has Try.prog 28 [encN n, .agg [.u8 x, .u8 y, .u8 z]] (encN (step n (x, y, z))) := by   -- burgage/burgageref32.Step
  refine Has.intro 66 Try.func28 (by kernel_rfl) rfl rfl fun w ok => ?_
  refine AT.seq ?_
  refine AT.region ?_   -- region 0 ref.go:173
  refine TrC.take rfl (step_box rfl rfl rfl rfl rfl rfl rfl) ?_   -- 0
  refine TrC.take rfl (step_box rfl rfl rfl rfl rfl rfl rfl) ?_   -- 1
  refine TrC.take rfl (step_allocC rfl rfl ze30 zc30 rfl rfl rfl) ?_   -- 2
  refine TrC.done ?_
  refine AT.seq ?_
  refine AT.regionD mixed rfl ?_   -- region 1 ref.go:174
  refine TrC.take rfl (step_indexAddrP rfl rfl rfl ar47 (by decide) (by decide) rfl) ?_   -- 0
  refine TrC.take rfl (step_loadP1 rfl rfl rfl ty5 rfl rfl) ?_   -- 1
  first | refine TrC.take rfl (step_remI rfl rfl rfl (by omega) (by omega) rfl) ?_ | refine TrC.take rfl (step_bin rfl rfl rfl rfl rfl) ?_   -- 2
  refine TrC.take rfl (step_convI rfl rfl in5 in3 (by omega) (by omega) rfl) ?_   -- 3
  refine TrC.take rfl (step_indexAddrP rfl rfl rfl ar47 (by decide) (by decide) rfl) ?_   -- 4
  refine TrC.take rfl (step_loadP1 rfl rfl rfl ty5 rfl rfl) ?_   -- 5
  first | refine TrC.take rfl (step_remI rfl rfl rfl (by omega) (by omega) rfl) ?_ | refine TrC.take rfl (step_bin rfl rfl rfl rfl rfl) ?_   -- 6
  refine TrC.take rfl (step_convI rfl rfl in5 in3 (by omega) (by omega) rfl) ?_   -- 7
  refine TrC.take rfl (step_assign rfl rfl rfl) ?_   -- 8
  refine TrC.take rfl (step_assign rfl rfl rfl) ?_   -- 9
  refine TrC.doneD rfl ?_
  refine AT.seq ?_
  refine AT.seq ?_
  refine AT.region ?_   -- region 2 ref.go:175
  refine TrC.take rfl (step_indexAddrP rfl rfl rfl ar47 (by decide) (by decide) rfl) ?_   -- 0
  refine TrC.take rfl (step_loadP1 rfl rfl rfl ty5 rfl rfl) ?_   -- 1
  first | refine TrC.take rfl (step_remI rfl rfl rfl (by omega) (by omega) rfl) ?_ | refine TrC.take rfl (step_bin rfl rfl rfl rfl rfl) ?_   -- 2
  refine TrC.done ?_
  refine AT.block ?_   -- block 0
  refine AT.seq ?_
  refine AT.seq ?_
  refine AT.region ?_   -- region 3 ref.go:176
  refine TrC.take rfl (step_bin rfl rfl rfl rfl rfl) ?_   -- 0
  refine TrC.take rfl (step_assign rfl rfl rfl) ?_   -- 1
  refine TrC.done ?_
  refine AT.cond rfl (fun h18 => ?_) (fun h18 => ?_)   -- t18
  · -- true
    refine AT.spell 18 rfl (congrArg (fun b => T.v (.bool b)) h18) ?_
    refine AT.skip ?_
    refine AT.condT rfl ?_   -- t18
    refine AT.seq ?_
    refine AT.region ?_   -- region 6 ref.go:177
    refine TrC.take rfl (step_loadPN rfl rfl rfl ty30 rfl rfl rfl) ?_   -- 0
    refine TrC.take rfl (step_move rfl rfl rfl) ?_   -- 1
    refine TrC.take rfl (step_move rfl rfl rfl) ?_   -- 2
    refine TrC.take rfl (step_call0 rfl rfl (C14 n (y % 5) (z % 5) hl h0) rfl) ?_   -- 3
    refine TrC.take rfl (step_fieldN rfl rfl fd35_0 ty30 rfl rfl) ?_   -- 4
    refine TrC.take rfl (step_storeP rfl rfl rfl rfl rfl (.inl rfl) ty30 rfl rfl rfl) ?_   -- 5
    refine TrC.done ?_
    refine AT.ret ?_
    exact Ret.one rfl (ResR.cellN rfl rfl ty30 rfl rfl (conv_eq (by unfold step; simp_all [encN])))
  · -- false
    refine AT.spell 18 rfl (congrArg (fun b => T.v (.bool b)) h18) ?_
    refine AT.seq ?_
    refine AT.region ?_   -- region 4 ref.go:176
    refine TrC.take rfl (step_bin rfl rfl rfl rfl rfl) ?_   -- 0
    refine TrC.take rfl (step_assign rfl rfl rfl) ?_   -- 1
    refine TrC.done ?_
    refine AT.cond rfl (fun h18 => ?_) (fun h18 => ?_)   -- t18
    · -- true
      refine AT.spell 18 rfl (congrArg (fun b => T.v (.bool b)) h18) ?_
      refine AT.skip ?_
      refine AT.condT rfl ?_   -- t18
      refine AT.seq ?_
      refine AT.region ?_   -- region 6 ref.go:177
      refine TrC.take rfl (step_loadPN rfl rfl rfl ty30 rfl rfl rfl) ?_   -- 0
      refine TrC.take rfl (step_move rfl rfl rfl) ?_   -- 1
      refine TrC.take rfl (step_move rfl rfl rfl) ?_   -- 2
      refine TrC.take rfl (step_call0 rfl rfl (C14 n (y % 5) (z % 5) hl h0) rfl) ?_   -- 3
      refine TrC.take rfl (step_fieldN rfl rfl fd35_0 ty30 rfl rfl) ?_   -- 4
      refine TrC.take rfl (step_storeP rfl rfl rfl rfl rfl (.inl rfl) ty30 rfl rfl rfl) ?_   -- 5
      refine TrC.done ?_
      refine AT.ret ?_
      exact Ret.one rfl (ResR.cellN rfl rfl ty30 rfl rfl (conv_eq (by unfold step; simp_all [encN])))
    · -- false
      refine AT.spell 18 rfl (congrArg (fun b => T.v (.bool b)) h18) ?_
      refine AT.region ?_   -- region 5 ref.go:176
      refine TrC.take rfl (step_bin rfl rfl rfl rfl rfl) ?_   -- 0
      refine TrC.take rfl (step_assign rfl rfl rfl) ?_   -- 1
      refine TrC.done ?_
      refine AT.cond rfl (fun h18 => ?_) (fun h18 => ?_)   -- t18
      · -- true
        refine AT.spell 18 rfl (congrArg (fun b => T.v (.bool b)) h18) ?_
        refine AT.seq ?_
        refine AT.region ?_   -- region 6 ref.go:177
        refine TrC.take rfl (step_loadPN rfl rfl rfl ty30 rfl rfl rfl) ?_   -- 0
        refine TrC.take rfl (step_move rfl rfl rfl) ?_   -- 1
        refine TrC.take rfl (step_move rfl rfl rfl) ?_   -- 2
        refine TrC.take rfl (step_call0 rfl rfl (C14 n (y % 5) (z % 5) hl h0) rfl) ?_   -- 3
        refine TrC.take rfl (step_fieldN rfl rfl fd35_0 ty30 rfl rfl) ?_   -- 4
        refine TrC.take rfl (step_storeP rfl rfl rfl rfl rfl (.inl rfl) ty30 rfl rfl rfl) ?_   -- 5
        refine TrC.done ?_
        refine AT.ret ?_
        exact Ret.one rfl (ResR.cellN rfl rfl ty30 rfl rfl (conv_eq (by unfold step; simp_all [encN])))
      · -- false
        refine AT.spell 18 rfl (congrArg (fun b => T.v (.bool b)) h18) ?_
        refine AT.seq ?_
        refine AT.region ?_   -- region 7 ref.go:178
        refine TrC.take rfl (step_bin rfl rfl rfl rfl rfl) ?_   -- 0
        refine TrC.take rfl (step_assign rfl rfl rfl) ?_   -- 1
        refine TrC.done ?_
        refine AT.cond rfl (fun h27 => ?_) (fun h27 => ?_)   -- t27
        · -- true
          refine AT.seq ?_
          refine AT.region ?_   -- region 8 ref.go:179
          refine TrC.take rfl (step_loadPN rfl rfl rfl ty30 rfl rfl rfl) ?_   -- 0
          refine TrC.take rfl (step_indexAddrP rfl rfl rfl ar47 (by decide) (by decide) rfl) ?_   -- 1
          refine TrC.take rfl (step_loadP1 rfl rfl rfl ty5 rfl rfl) ?_   -- 2
          first | refine TrC.take rfl (step_remI rfl rfl rfl (by omega) (by omega) rfl) ?_ | refine TrC.take rfl (step_bin rfl rfl rfl rfl rfl) ?_   -- 3
          refine TrC.take rfl (step_convI rfl rfl in5 in3 (by omega) (by omega) rfl) ?_   -- 4
          refine TrC.take rfl (step_call0 rfl rfl (C18 n (y % 16) hl hc) rfl) ?_   -- 5
          refine TrC.take rfl (step_fieldN rfl rfl fd40_0 ty30 rfl rfl) ?_   -- 6
          refine TrC.take rfl (step_storeP rfl rfl rfl rfl rfl (.inl rfl) ty30 rfl rfl rfl) ?_   -- 7
          refine TrC.done ?_
          refine AT.ret ?_
          exact Ret.one rfl (ResR.cellN rfl rfl ty30 rfl rfl (conv_eq (by unfold step; simp_all [encN])))
        · -- false
          refine AT.seq ?_
          refine AT.region ?_   -- region 9 ref.go:180
          refine TrC.take rfl (step_bin rfl rfl rfl rfl rfl) ?_   -- 0
          refine TrC.take rfl (step_assign rfl rfl rfl) ?_   -- 1
          refine TrC.done ?_
          refine AT.cond rfl (fun h36 => ?_) (fun h36 => ?_)   -- t36
          · -- true
            refine AT.seq ?_
            refine AT.region ?_   -- region 10 ref.go:181
            refine TrC.take rfl (step_loadPN rfl rfl rfl ty30 rfl rfl rfl) ?_   -- 0
            refine TrC.take rfl (step_indexAddrP rfl rfl rfl ar47 (by decide) (by decide) rfl) ?_   -- 1
            refine TrC.take rfl (step_loadP1 rfl rfl rfl ty5 rfl rfl) ?_   -- 2
            first | refine TrC.take rfl (step_remI rfl rfl rfl (by omega) (by omega) rfl) ?_ | refine TrC.take rfl (step_bin rfl rfl rfl rfl rfl) ?_   -- 3
            refine TrC.take rfl (step_convI rfl rfl in5 in3 (by omega) (by omega) rfl) ?_   -- 4
            refine TrC.take rfl (step_call0 rfl rfl (C22 n (y % 16) hl) rfl) ?_   -- 5
            refine TrC.take rfl (step_fieldN rfl rfl fd40_0 ty30 rfl rfl) ?_   -- 6
            refine TrC.take rfl (step_storeP rfl rfl rfl rfl rfl (.inl rfl) ty30 rfl rfl rfl) ?_   -- 7
            refine TrC.done ?_
            refine AT.ret ?_
            exact Ret.one rfl (ResR.cellN rfl rfl ty30 rfl rfl (conv_eq (by unfold step; simp_all [encN])))
          · -- false
            refine AT.seq ?_
            refine AT.region ?_   -- region 11 ref.go:182
            refine TrC.take rfl (step_bin rfl rfl rfl rfl rfl) ?_   -- 0
            refine TrC.take rfl (step_assign rfl rfl rfl) ?_   -- 1
            refine TrC.done ?_
            refine AT.cond rfl (fun h45 => ?_) (fun h45 => ?_)   -- t45
            · -- true
              refine AT.seq ?_
              refine AT.region ?_   -- region 12 ref.go:183
              refine TrC.take rfl (step_loadPN rfl rfl rfl ty30 rfl rfl rfl) ?_   -- 0
              refine TrC.take rfl (step_indexAddrP rfl rfl rfl ar47 (by decide) (by decide) rfl) ?_   -- 1
              refine TrC.take rfl (step_loadP1 rfl rfl rfl ty5 rfl rfl) ?_   -- 2
              first | refine TrC.take rfl (step_remI rfl rfl rfl (by omega) (by omega) rfl) ?_ | refine TrC.take rfl (step_bin rfl rfl rfl rfl rfl) ?_   -- 3
              refine TrC.take rfl (step_convI rfl rfl in5 in3 (by omega) (by omega) rfl) ?_   -- 4
              refine TrC.take rfl (step_call0 rfl rfl (C23 n (y % 16) hl h0) rfl) ?_   -- 5
              refine TrC.take rfl (step_fieldN rfl rfl fd40_0 ty30 rfl rfl) ?_   -- 6
              refine TrC.take rfl (step_storeP rfl rfl rfl rfl rfl (.inl rfl) ty30 rfl rfl rfl) ?_   -- 7
              refine TrC.done ?_
              refine AT.ret ?_
              exact Ret.one rfl (ResR.cellN rfl rfl ty30 rfl rfl (conv_eq (by unfold step; simp_all [encN])))
            · -- false
              refine AT.seq ?_
              refine AT.region ?_   -- region 13 ref.go:184
              refine TrC.take rfl (step_bin rfl rfl rfl rfl rfl) ?_   -- 0
              refine TrC.take rfl (step_assign rfl rfl rfl) ?_   -- 1
              refine TrC.done ?_
              refine AT.cond rfl (fun h54 => ?_) (fun h54 => ?_)   -- t54
              · -- true
                refine AT.seq ?_
                refine AT.region ?_   -- region 14 ref.go:185
                refine TrC.take rfl (step_loadPN rfl rfl rfl ty30 rfl rfl rfl) ?_   -- 0
                refine TrC.take rfl (step_move rfl rfl rfl) ?_   -- 1
                refine TrC.take rfl (step_move rfl rfl rfl) ?_   -- 2
                refine TrC.take rfl (step_call0 rfl rfl (C24 n (y % 5) (z % 5) hc) rfl) ?_   -- 3
                refine TrC.take rfl (step_fieldN rfl rfl fd40_0 ty30 rfl rfl) ?_   -- 4
                refine TrC.take rfl (step_storeP rfl rfl rfl rfl rfl (.inl rfl) ty30 rfl rfl rfl) ?_   -- 5
                refine TrC.done ?_
                refine AT.ret ?_
                exact Ret.one rfl (ResR.cellN rfl rfl ty30 rfl rfl (conv_eq (by unfold step; simp_all [encN])))
              · -- false
                refine AT.skip ?_
                refine AT.seq ?_
                refine AT.region ?_   -- region 15 ref.go:187
                refine TrC.take rfl (step_loadPN rfl rfl rfl ty30 rfl rfl rfl) ?_   -- 0
                refine TrC.take rfl (step_move rfl rfl rfl) ?_   -- 1
                refine TrC.take rfl (step_move rfl rfl rfl) ?_   -- 2
                refine TrC.take rfl (step_call0 rfl rfl (C25 n (y % 5) (z % 5) hc) rfl) ?_   -- 3
                refine TrC.take rfl (step_fieldN rfl rfl fd40_0 ty30 rfl rfl) ?_   -- 4
                refine TrC.take rfl (step_storeP rfl rfl rfl rfl rfl (.inl rfl) ty30 rfl rfl rfl) ?_   -- 5
                refine TrC.done ?_
                refine AT.ret ?_
                exact Ret.one rfl (ResR.cellN rfl rfl ty30 rfl rfl (conv_eq (by unfold step; simp_all [encN])))

end Go.Proofs.Ytnemmdbafngppaa.Net
