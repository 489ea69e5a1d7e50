/- Contracts of functions of this translation. Printed by wip/tools/gen.py out of wip/net/ann.py. No condition. -/
import Derived.Test.YtnemmdbafngppaaF12
import Derived.Test.YtnemmdbafngppaaF7
set_option linter.unusedVariables false
set_option linter.unusedSimpArgs false
namespace Go.Proofs.Ytnemmdbafngppaa.Net
open Go.Proofs.Ytnemmdbafngppaa.Abs
set_option maxRecDepth 100000
set_option maxHeartbeats 4000000
theorem C13 (n : Net) (a b : Int) (hl : n.fl.length ≤ 1000000) (h0 : -1000000000000 ≤ n.next) : Has Try.prog 13 [encN n, .i a, .i b] (encSent (send n a b)) := by   -- burgage/burgagelaw32.sent
  refine Has.intro 22 Try.func13 (by kernel_rfl) rfl rfl fun w ok => ?_
  refine AT.seq ?_
  refine AT.region ?_   -- region 0 law.go:11
  refine TrC.take rfl (step_box rfl rfl rfl rfl rfl rfl rfl) ?_   -- 0
  refine TrC.take rfl (step_allocC rfl rfl ze35 zc35 rfl rfl rfl) ?_   -- 1
  refine TrC.done ?_
  refine AT.seq ?_
  refine AT.region ?_   -- region 1 law.go:12
  refine TrC.take rfl (step_loadPN rfl rfl rfl ty30 rfl rfl rfl) ?_   -- 0
  refine TrC.take rfl (step_move rfl rfl rfl) ?_   -- 1
  refine TrC.take rfl (step_move rfl rfl rfl) ?_   -- 2
  refine TrC.take rfl (step_call0 rfl rfl (C29 n a b hl h0) rfl) ?_   -- 3
  refine TrC.take rfl (step_move rfl rfl rfl) ?_   -- 4
  refine TrC.take rfl (step_extract rfl rfl rfl rfl) ?_   -- 5
  refine TrC.take rfl (step_extract rfl rfl rfl rfl) ?_   -- 6
  refine TrC.take rfl (step_extract rfl rfl rfl rfl) ?_   -- 7
  refine TrC.take rfl (step_allocC rfl rfl ze30 zc30 rfl rfl rfl) ?_   -- 8
  refine TrC.take rfl (step_storeP rfl rfl rfl rfl rfl (.inl rfl) ty30 rfl rfl rfl) ?_   -- 9
  refine TrC.take rfl (step_assign rfl rfl rfl) ?_   -- 10
  refine TrC.take rfl (step_assign rfl rfl rfl) ?_   -- 11
  refine TrC.done ?_
  refine AT.seq ?_
  refine AT.region ?_   -- region 2 law.go:13
  refine TrC.take rfl (step_loadPN rfl rfl rfl ty30 rfl rfl rfl) ?_   -- 0
  refine TrC.take rfl (step_move rfl rfl rfl) ?_   -- 1
  refine TrC.take rfl (step_move rfl rfl rfl) ?_   -- 2
  refine TrC.take rfl (step_buildC rfl ze35 zc35 rfl pl35 rfl rfl rfl rfl) ?_   -- 3
  refine TrC.take rfl (step_storeP rfl rfl rfl rfl rfl (.inl rfl) ty35 rfl rfl rfl) ?_   -- 4
  refine TrC.done ?_
  refine AT.ret ?_
  exact Ret.one rfl (ResR.cellN rfl rfl ty35 rfl rfl (.refl _))

theorem C17 (n : Net) (id : Int) (hl : n.fl.length ≤ 1000000) (hc : n.cuts.length ≤ 1000000) (hS : SortP n) (hC : SortC n) : Has Try.prog 17 [encN n, .i id] (encTaken (take n id)) := by   -- burgage/burgagelaw32.taken
  refine Has.intro 19 Try.func17 (by kernel_rfl) rfl rfl fun w ok => ?_
  refine AT.seq ?_
  refine AT.region ?_   -- region 0 law.go:17
  refine TrC.take rfl (step_box rfl rfl rfl rfl rfl rfl rfl) ?_   -- 0
  refine TrC.take rfl (step_allocC rfl rfl ze40 zc40 rfl rfl rfl) ?_   -- 1
  refine TrC.done ?_
  refine AT.seq ?_
  refine AT.region ?_   -- region 1 law.go:18
  refine TrC.take rfl (step_loadPN rfl rfl rfl ty30 rfl rfl rfl) ?_   -- 0
  refine TrC.take rfl (step_move rfl rfl rfl) ?_   -- 1
  refine TrC.take rfl (step_call0 rfl rfl (C31 n id hl hc hS hC) rfl) ?_   -- 2
  refine TrC.take rfl (step_move rfl rfl rfl) ?_   -- 3
  refine TrC.take rfl (step_extract rfl rfl rfl rfl) ?_   -- 4
  refine TrC.take rfl (step_extract rfl rfl rfl rfl) ?_   -- 5
  refine TrC.take rfl (step_extract rfl rfl rfl rfl) ?_   -- 6
  refine TrC.take rfl (step_allocC rfl rfl ze30 zc30 rfl rfl rfl) ?_   -- 7
  refine TrC.take rfl (step_alloc rfl rfl ze25 rfl rfl rfl) ?_   -- 8
  refine TrC.take rfl (step_storeP rfl rfl rfl rfl rfl (.inl rfl) ty30 rfl rfl rfl) ?_   -- 9
  refine TrC.take rfl (step_storeP rfl rfl rfl rfl rfl (.inl rfl) ty25 rfl rfl rfl) ?_   -- 10
  refine TrC.take rfl (step_assign rfl rfl rfl) ?_   -- 11
  refine TrC.done ?_
  refine AT.seq ?_
  refine AT.region ?_   -- region 2 law.go:19
  refine TrC.take rfl (step_loadPN rfl rfl rfl ty30 rfl rfl rfl) ?_   -- 0
  refine TrC.take rfl (step_loadPN rfl rfl rfl ty25 rfl rfl rfl) ?_   -- 1
  refine TrC.take rfl (step_move rfl rfl rfl) ?_   -- 2
  refine TrC.take rfl (step_buildC rfl ze40 zc40 rfl pl40 rfl rfl rfl rfl) ?_   -- 3
  refine TrC.take rfl (step_storeP rfl rfl rfl rfl rfl (.inl rfl) ty40 rfl rfl rfl) ?_   -- 4
  refine TrC.done ?_
  refine AT.ret ?_
  exact Ret.one rfl (ResR.cellN rfl rfl ty40 rfl rfl (.refl _))

end Go.Proofs.Ytnemmdbafngppaa.Net
