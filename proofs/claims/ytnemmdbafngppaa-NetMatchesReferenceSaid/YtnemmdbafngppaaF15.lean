/- Contracts of functions of this translation. Printed by wip/tools/gen.py out of wip/net/ann.py. No condition. -/
import Derived.Test.YtnemmdbafngppaaF12
set_option linter.unusedVariables false
set_option linter.unusedSimpArgs false
namespace Go.Proofs.Ytnemmdbafngppaa.Net
open Go.Proofs.Ytnemmdbafngppaa.Abs
set_option maxRecDepth 100000
set_option maxHeartbeats 4000000
theorem C21 (n : Net) (w : Int) (a b : Int) (hl : n.fl.length ≤ 1000000) (hc : n.cuts.length ≤ 1000000) (h0 : -1000000000000 ≤ n.next) (hS : SortP n) (hC : SortC n) (hP : ∀ i (h : i < n.fl.length), parts n.fl[i].fr n.fl[i].to = true) : Has Try.prog 21 [encN n, .i w, .agg [.i a, .i b]] (encTaken (doneN n w a b)) := by   -- burgage/burgagelaw32.done
  refine Has.intro 52 Try.func21 (by kernel_rfl) rfl rfl fun w ok => ?_
  refine AT.seq ?_
  refine AT.region ?_   -- region 0 law.go:23
  refine TrC.take rfl (step_box rfl rfl rfl rfl rfl rfl rfl) ?_   -- 0
  refine TrC.take rfl (step_box rfl rfl rfl rfl rfl rfl rfl) ?_   -- 1
  refine TrC.take rfl (step_allocC rfl rfl ze40 zc40 rfl rfl rfl) ?_   -- 2
  refine TrC.done ?_
  refine AT.seq ?_
  refine AT.region ?_   -- region 1 law.go:24
  refine TrC.take rfl (step_loadPN rfl rfl rfl ty30 rfl rfl rfl) ?_   -- 0
  refine TrC.take rfl (step_allocC rfl rfl ze30 zc30 rfl rfl rfl) ?_   -- 1
  refine TrC.take rfl (step_storeP rfl rfl rfl rfl rfl (.inl rfl) ty30 rfl rfl rfl) ?_   -- 2
  refine TrC.take rfl (step_assign rfl rfl rfl) ?_   -- 3
  refine TrC.done ?_
  refine AT.seq ?_
  refine AT.seq ?_
  refine AT.region ?_   -- region 2 law.go:25
  refine TrC.take rfl (step_move rfl rfl rfl) ?_   -- 0
  refine TrC.done ?_
  refine AT.block ?_   -- block 0
  refine AT.seq ?_
  refine AT.region ?_   -- region 4 law.go:26
  refine TrC.take rfl (step_bin rfl rfl rfl rfl rfl) ?_   -- 0
  refine TrC.take rfl (step_assign rfl rfl rfl) ?_   -- 1
  refine TrC.done ?_
  refine AT.cond rfl (fun h20 => ?_) (fun h20 => ?_)   -- t20
  · -- true
    refine AT.region ?_   -- region 5 law.go:27
    refine TrC.take rfl (step_loadPN rfl rfl rfl ty30 rfl rfl rfl) ?_   -- 0
    refine TrC.take rfl (step_indexAddrP rfl rfl rfl ar32 (by decide) (by decide) rfl) ?_   -- 1
    refine TrC.take rfl (step_loadP1 rfl rfl rfl ty3 rfl rfl) ?_   -- 2
    refine TrC.take rfl (step_call0 rfl rfl (C38 n a hl hS) rfl) ?_   -- 3
    refine TrC.take rfl (step_move rfl rfl rfl) ?_   -- 4
    refine TrC.take rfl (step_extract rfl rfl rfl rfl) ?_   -- 5
    refine TrC.take rfl (step_extract rfl rfl rfl rfl) ?_   -- 6
    refine TrC.take rfl (step_storeP rfl rfl rfl rfl rfl (.inl rfl) ty30 rfl rfl rfl) ?_   -- 7
    refine TrC.take rfl (step_assign rfl rfl rfl) ?_   -- 8
    refine TrC.done ?_
    refine AT.seq ?_
    refine AT.region ?_   -- region 10 law.go:35
    refine TrC.take rfl (step_loadPN rfl rfl rfl ty30 rfl rfl rfl) ?_   -- 0
    refine TrC.take rfl (step_move rfl rfl rfl) ?_   -- 1
    refine TrC.take rfl (step_buildC rfl ze40 zc40 rfl pl40 rfl rfl rfl rfl) ?_   -- 2
    refine TrC.take rfl (step_storeP rfl rfl rfl rfl rfl (.inl rfl) ty40 rfl rfl rfl) ?_   -- 3
    refine TrC.done ?_
    refine AT.ret ?_
    exact Ret.one rfl (ResR.cellN rfl rfl ty40 rfl rfl (conv_eq (by unfold doneN; simp_all [encTaken, encN, p0])))
  · -- false
    refine AT.seq ?_
    refine AT.region ?_   -- region 6 law.go:28
    refine TrC.take rfl (step_bin rfl rfl rfl rfl rfl) ?_   -- 0
    refine TrC.take rfl (step_assign rfl rfl rfl) ?_   -- 1
    refine TrC.done ?_
    refine AT.cond rfl (fun h29 => ?_) (fun h29 => ?_)   -- t29
    · -- true
      refine AT.region ?_   -- region 7 law.go:29
      refine TrC.take rfl (step_loadPN rfl rfl rfl ty30 rfl rfl rfl) ?_   -- 0
      refine TrC.take rfl (step_indexAddrP rfl rfl rfl ar32 (by decide) (by decide) rfl) ?_   -- 1
      refine TrC.take rfl (step_loadP1 rfl rfl rfl ty3 rfl rfl) ?_   -- 2
      refine TrC.take rfl (step_call0 rfl rfl (C39 n a hl h0 hS hP) rfl) ?_   -- 3
      refine TrC.take rfl (step_move rfl rfl rfl) ?_   -- 4
      refine TrC.take rfl (step_extract rfl rfl rfl rfl) ?_   -- 5
      refine TrC.take rfl (step_extract rfl rfl rfl rfl) ?_   -- 6
      refine TrC.take rfl (step_storeP rfl rfl rfl rfl rfl (.inl rfl) ty30 rfl rfl rfl) ?_   -- 7
      refine TrC.take rfl (step_assign rfl rfl rfl) ?_   -- 8
      refine TrC.done ?_
      refine AT.seq ?_
      refine AT.region ?_   -- region 10 law.go:35
      refine TrC.take rfl (step_loadPN rfl rfl rfl ty30 rfl rfl rfl) ?_   -- 0
      refine TrC.take rfl (step_move rfl rfl rfl) ?_   -- 1
      refine TrC.take rfl (step_buildC rfl ze40 zc40 rfl pl40 rfl rfl rfl rfl) ?_   -- 2
      refine TrC.take rfl (step_storeP rfl rfl rfl rfl rfl (.inl rfl) ty40 rfl rfl rfl) ?_   -- 3
      refine TrC.done ?_
      refine AT.ret ?_
      exact Ret.one rfl (ResR.cellN rfl rfl ty40 rfl rfl (conv_eq (by unfold doneN; simp_all [encTaken, encN, p0])))
    · -- false
      refine AT.seq ?_
      refine AT.region ?_   -- region 8 law.go:30
      refine TrC.take rfl (step_bin rfl rfl rfl rfl rfl) ?_   -- 0
      refine TrC.take rfl (step_assign rfl rfl rfl) ?_   -- 1
      refine TrC.done ?_
      refine AT.cond rfl (fun h38 => ?_) (fun h38 => ?_)   -- t38
      · -- true
        refine AT.region ?_   -- region 9 law.go:31
        refine TrC.take rfl (step_loadPN rfl rfl rfl ty30 rfl rfl rfl) ?_   -- 0
        refine TrC.take rfl (step_indexAddrP rfl rfl rfl ar32 (by decide) (by decide) rfl) ?_   -- 1
        refine TrC.take rfl (step_loadP1 rfl rfl rfl ty3 rfl rfl) ?_   -- 2
        refine TrC.take rfl (step_indexAddrP rfl rfl rfl ar32 (by decide) (by decide) rfl) ?_   -- 3
        refine TrC.take rfl (step_loadP1 rfl rfl rfl ty3 rfl rfl) ?_   -- 4
        refine TrC.take rfl (step_call0 rfl rfl (C40 n a b hc hC) rfl) ?_   -- 5
        refine TrC.take rfl (step_move rfl rfl rfl) ?_   -- 6
        refine TrC.take rfl (step_extract rfl rfl rfl rfl) ?_   -- 7
        refine TrC.take rfl (step_extract rfl rfl rfl rfl) ?_   -- 8
        refine TrC.take rfl (step_storeP rfl rfl rfl rfl rfl (.inl rfl) ty30 rfl rfl rfl) ?_   -- 9
        refine TrC.take rfl (step_assign rfl rfl rfl) ?_   -- 10
        refine TrC.done ?_
        refine AT.seq ?_
        refine AT.region ?_   -- region 10 law.go:35
        refine TrC.take rfl (step_loadPN rfl rfl rfl ty30 rfl rfl rfl) ?_   -- 0
        refine TrC.take rfl (step_move rfl rfl rfl) ?_   -- 1
        refine TrC.take rfl (step_buildC rfl ze40 zc40 rfl pl40 rfl rfl rfl rfl) ?_   -- 2
        refine TrC.take rfl (step_storeP rfl rfl rfl rfl rfl (.inl rfl) ty40 rfl rfl rfl) ?_   -- 3
        refine TrC.done ?_
        refine AT.ret ?_
        exact Ret.one rfl (ResR.cellN rfl rfl ty40 rfl rfl (conv_eq (by unfold doneN; simp_all [encTaken, encN, p0])))
      · -- false
        refine AT.region ?_   -- region 3 law.go:33
        refine TrC.take rfl (step_loadPN rfl rfl rfl ty30 rfl rfl rfl) ?_   -- 0
        refine TrC.take rfl (step_indexAddrP rfl rfl rfl ar32 (by decide) (by decide) rfl) ?_   -- 1
        refine TrC.take rfl (step_loadP1 rfl rfl rfl ty3 rfl rfl) ?_   -- 2
        refine TrC.take rfl (step_indexAddrP rfl rfl rfl ar32 (by decide) (by decide) rfl) ?_   -- 3
        refine TrC.take rfl (step_loadP1 rfl rfl rfl ty3 rfl rfl) ?_   -- 4
        refine TrC.take rfl (step_call0 rfl rfl (C41 n a b hc hC) rfl) ?_   -- 5
        refine TrC.take rfl (step_move rfl rfl rfl) ?_   -- 6
        refine TrC.take rfl (step_extract rfl rfl rfl rfl) ?_   -- 7
        refine TrC.take rfl (step_extract rfl rfl rfl rfl) ?_   -- 8
        refine TrC.take rfl (step_storeP rfl rfl rfl rfl rfl (.inl rfl) ty30 rfl rfl rfl) ?_   -- 9
        refine TrC.take rfl (step_assign rfl rfl rfl) ?_   -- 10
        refine TrC.done ?_
        refine AT.seq ?_
        refine AT.region ?_   -- region 10 law.go:35
        refine TrC.take rfl (step_loadPN rfl rfl rfl ty30 rfl rfl rfl) ?_   -- 0
        refine TrC.take rfl (step_move rfl rfl rfl) ?_   -- 1
        refine TrC.take rfl (step_buildC rfl ze40 zc40 rfl pl40 rfl rfl rfl rfl) ?_   -- 2
        refine TrC.take rfl (step_storeP rfl rfl rfl rfl rfl (.inl rfl) ty40 rfl rfl rfl) ?_   -- 3
        refine TrC.done ?_
        refine AT.ret ?_
        exact Ret.one rfl (ResR.cellN rfl rfl ty40 rfl rfl (conv_eq (by unfold doneN; simp_all [encTaken, encN, p0])))

end Go.Proofs.Ytnemmdbafngppaa.Net
