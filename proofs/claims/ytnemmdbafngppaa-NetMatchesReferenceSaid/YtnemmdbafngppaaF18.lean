/- Contracts of functions of this translation. Printed by wip/tools/gen.py out of wip/net/ann.py. No condition. -/
import Derived.Test.YtnemmdbafngppaaSan
set_option linter.unusedVariables false
set_option linter.unusedSimpArgs false
namespace Go.Proofs.Ytnemmdbafngppaa.Net
open Go.Proofs.Ytnemmdbafngppaa.Abs
set_option maxRecDepth 100000
set_option maxHeartbeats 4000000
theorem C11 : Has Try.prog 11 [] (.b true) := by   -- burgage/burgagelaw32.sanity
  refine Has.intro 163 Try.func11 (by kernel_rfl) rfl rfl fun w ok => ?_
  refine AT.seq ?_
  refine AT.region ?_   -- region 0 law.go:39
  refine TrC.take rfl (step_assign rfl rfl rfl) ?_   -- 0
  refine TrC.done ?_
  refine AT.seq ?_
  refine AT.region ?_   -- region 1 law.go:40
  refine TrC.take rfl (step_buildC rfl ze30 zc30 rfl pl30 rfl rfl rfl rfl) ?_   -- 0
  refine TrC.take rfl (step_call0 rfl rfl ((D13 VN.made0 1 2).eq (es k1)) rfl) ?_   -- 1
  refine TrC.take rfl (step_allocC rfl rfl ze35 zc35 rfl rfl rfl) ?_   -- 2
  refine TrC.take rfl (step_storeP rfl rfl rfl rfl rfl (.inl rfl) ty35 rfl rfl rfl) ?_   -- 3
  refine TrC.done ?_
  refine AT.seq ?_
  refine AT.seq ?_
  refine AT.region ?_   -- region 2 law.go:41
  refine TrC.take rfl (step_fieldAddrP rfl rfl fd35_2 rfl rfl) ?_   -- 0
  refine TrC.take rfl (step_loadP1 rfl rfl rfl ty33 rfl rfl) ?_   -- 1
  refine TrC.take rfl (step_bin rfl rfl rfl rfl rfl) ?_   -- 2
  refine TrC.spell 12 rfl (bv (b := false) (by decide)) ?_
  refine TrC.take rfl (step_move rfl rfl rfl) ?_   -- 3
  refine TrC.take ⟨_, _, rfl, rfl, rfl⟩ (step_fieldAddrP rfl rfl fd35_1 rfl rfl) ?_   -- 4
  refine TrC.take ⟨_, _, rfl, rfl, rfl⟩ (step_loadP1 rfl rfl rfl ty3 rfl rfl) ?_   -- 5
  refine TrC.take ⟨_, _, rfl, rfl, rfl⟩ (step_bin rfl rfl rfl rfl rfl) ?_   -- 6
  refine TrC.spell 16 rfl (bv (b := false) (by decide)) ?_
  refine TrC.take rfl (step_pick rfl rfl rfl rfl) ?_   -- 7
  refine TrC.take rfl (step_move rfl rfl rfl) ?_   -- 8
  refine TrC.take ⟨_, _, rfl, rfl, rfl⟩ (step_fieldAddrP rfl rfl fd35_0 rfl rfl) ?_   -- 9
  refine TrC.take ⟨_, _, rfl, rfl, rfl⟩ (step_loadPN rfl rfl rfl ty30 rfl rfl rfl) ?_   -- 10
  refine TrC.take ⟨_, _, rfl, rfl, rfl⟩ (step_call0 rfl rfl (D27 vA) rfl) ?_   -- 11
  refine TrC.spell 21 rfl (bv (b := true) (rfl)) ?_
  refine TrC.take ⟨_, _, rfl, rfl, rfl⟩ (step_not rfl rfl rfl) ?_   -- 12
  refine TrC.take rfl (step_pick rfl rfl rfl rfl) ?_   -- 13
  refine TrC.done ?_
  refine AT.condF rfl ?_   -- t23
  refine AT.skip ?_
  refine AT.seq ?_
  refine AT.region ?_   -- region 4 law.go:44
  refine TrC.take rfl (step_fieldAddrP rfl rfl fd35_0 rfl rfl) ?_   -- 0
  refine TrC.take rfl (step_loadPN rfl rfl rfl ty30 rfl rfl rfl) ?_   -- 1
  refine TrC.take rfl (step_call0 rfl rfl ((D13 vA 1 2).eq (es k2)) rfl) ?_   -- 2
  refine TrC.take rfl (step_allocC rfl rfl ze35 zc35 rfl rfl rfl) ?_   -- 3
  refine TrC.take rfl (step_storeP rfl rfl rfl rfl rfl (.inl rfl) ty35 rfl rfl rfl) ?_   -- 4
  refine TrC.done ?_
  refine AT.seq ?_
  refine AT.seq ?_
  refine AT.region ?_   -- region 5 law.go:45
  refine TrC.take rfl (step_fieldAddrP rfl rfl fd35_2 rfl rfl) ?_   -- 0
  refine TrC.take rfl (step_loadP1 rfl rfl rfl ty33 rfl rfl) ?_   -- 1
  refine TrC.take rfl (step_bin rfl rfl rfl rfl rfl) ?_   -- 2
  refine TrC.spell 29 rfl (bv (b := false) (by decide)) ?_
  refine TrC.take rfl (step_move rfl rfl rfl) ?_   -- 3
  refine TrC.take ⟨_, _, rfl, rfl, rfl⟩ (step_fieldAddrP rfl rfl fd35_1 rfl rfl) ?_   -- 4
  refine TrC.take ⟨_, _, rfl, rfl, rfl⟩ (step_loadP1 rfl rfl rfl ty3 rfl rfl) ?_   -- 5
  refine TrC.take ⟨_, _, rfl, rfl, rfl⟩ (step_bin rfl rfl rfl rfl rfl) ?_   -- 6
  refine TrC.spell 33 rfl (bv (b := false) (by decide)) ?_
  refine TrC.take rfl (step_pick rfl rfl rfl rfl) ?_   -- 7
  refine TrC.take rfl (step_move rfl rfl rfl) ?_   -- 8
  refine TrC.take ⟨_, _, rfl, rfl, rfl⟩ (step_fieldAddrP rfl rfl fd35_0 rfl rfl) ?_   -- 9
  refine TrC.take ⟨_, _, rfl, rfl, rfl⟩ (step_loadPN rfl rfl rfl ty30 rfl rfl rfl) ?_   -- 10
  refine TrC.take ⟨_, _, rfl, rfl, rfl⟩ (step_call0 rfl rfl (D27 vB) rfl) ?_   -- 11
  refine TrC.spell 38 rfl (bv (b := true) (rfl)) ?_
  refine TrC.take ⟨_, _, rfl, rfl, rfl⟩ (step_not rfl rfl rfl) ?_   -- 12
  refine TrC.take rfl (step_pick rfl rfl rfl rfl) ?_   -- 13
  refine TrC.done ?_
  refine AT.condF rfl ?_   -- t40
  refine AT.skip ?_
  refine AT.seq ?_
  refine AT.region ?_   -- region 7 law.go:48
  refine TrC.take rfl (step_fieldAddrP rfl rfl fd35_0 rfl rfl) ?_   -- 0
  refine TrC.take rfl (step_loadPN rfl rfl rfl ty30 rfl rfl rfl) ?_   -- 1
  refine TrC.take rfl (step_buildA rfl ze32 rfl ar32 rfl rfl rfl rfl) ?_   -- 2
  refine TrC.take rfl (step_call0 rfl rfl ((D21 vB 2 1 2).eq (et k3)) rfl) ?_   -- 3
  refine TrC.take rfl (step_allocC rfl rfl ze40 zc40 rfl rfl rfl) ?_   -- 4
  refine TrC.take rfl (step_storeP rfl rfl rfl rfl rfl (.inl rfl) ty40 rfl rfl rfl) ?_   -- 5
  refine TrC.done ?_
  refine AT.seq ?_
  refine AT.seq ?_
  refine AT.region ?_   -- region 8 law.go:49
  refine TrC.take rfl (step_fieldAddrP rfl rfl fd40_2 rfl rfl) ?_   -- 0
  refine TrC.take rfl (step_loadP1 rfl rfl rfl ty33 rfl rfl) ?_   -- 1
  refine TrC.take rfl (step_bin rfl rfl rfl rfl rfl) ?_   -- 2
  refine TrC.spell 47 rfl (bv (b := false) (by decide)) ?_
  refine TrC.take rfl (step_move rfl rfl rfl) ?_   -- 3
  refine TrC.take ⟨_, _, rfl, rfl, rfl⟩ (step_fieldAddrP rfl rfl fd40_0 rfl rfl) ?_   -- 4
  refine TrC.take ⟨_, _, rfl, rfl, rfl⟩ (step_loadPN rfl rfl rfl ty30 rfl rfl rfl) ?_   -- 5
  refine TrC.take ⟨_, _, rfl, rfl, rfl⟩ (step_call0 rfl rfl (D27 vC) rfl) ?_   -- 6
  refine TrC.spell 51 rfl (bv (b := true) (rfl)) ?_
  refine TrC.take ⟨_, _, rfl, rfl, rfl⟩ (step_not rfl rfl rfl) ?_   -- 7
  refine TrC.take rfl (step_pick rfl rfl rfl rfl) ?_   -- 8
  refine TrC.take rfl (step_move rfl rfl rfl) ?_   -- 9
  refine TrC.take ⟨_, _, rfl, rfl, rfl⟩ (step_fieldAddrP rfl rfl fd40_0 rfl rfl) ?_   -- 10
  refine TrC.take ⟨_, _, rfl, rfl, rfl⟩ (step_loadPN rfl rfl rfl ty30 rfl rfl rfl) ?_   -- 11
  refine TrC.take ⟨_, _, rfl, rfl, rfl⟩ (step_call0 rfl rfl ((D17 vC 1).eq (et k4)) rfl) ?_   -- 12
  refine TrC.take ⟨_, _, rfl, rfl, rfl⟩ (step_field1 rfl rfl fd40_2 ty33 rfl rfl) ?_   -- 13
  refine TrC.take ⟨_, _, rfl, rfl, rfl⟩ (step_bin rfl rfl rfl rfl rfl) ?_   -- 14
  refine TrC.spell 59 rfl (bv (b := false) (by decide)) ?_
  refine TrC.take rfl (step_pick rfl rfl rfl rfl) ?_   -- 15
  refine TrC.done ?_
  refine AT.condF rfl ?_   -- t60
  refine AT.skip ?_
  refine AT.seq ?_
  refine AT.region ?_   -- region 10 law.go:52
  refine TrC.take rfl (step_fieldAddrP rfl rfl fd40_0 rfl rfl) ?_   -- 0
  refine TrC.take rfl (step_loadPN rfl rfl rfl ty30 rfl rfl rfl) ?_   -- 1
  refine TrC.take rfl (step_buildA rfl ze32 rfl ar32 rfl rfl rfl rfl) ?_   -- 2
  refine TrC.take rfl (step_call0 rfl rfl ((D21 vC 1 2 3).eq (et k5)) rfl) ?_   -- 3
  refine TrC.take rfl (step_allocC rfl rfl ze40 zc40 rfl rfl rfl) ?_   -- 4
  refine TrC.take rfl (step_storeP rfl rfl rfl rfl rfl (.inl rfl) ty40 rfl rfl rfl) ?_   -- 5
  refine TrC.done ?_
  refine AT.seq ?_
  refine AT.seq ?_
  refine AT.region ?_   -- region 11 law.go:53
  refine TrC.take rfl (step_fieldAddrP rfl rfl fd40_2 rfl rfl) ?_   -- 0
  refine TrC.take rfl (step_loadP1 rfl rfl rfl ty33 rfl rfl) ?_   -- 1
  refine TrC.take rfl (step_bin rfl rfl rfl rfl rfl) ?_   -- 2
  refine TrC.spell 67 rfl (bv (b := false) (by decide)) ?_
  refine TrC.take rfl (step_move rfl rfl rfl) ?_   -- 3
  refine TrC.take ⟨_, _, rfl, rfl, rfl⟩ (step_fieldAddrP rfl rfl fd40_0 rfl rfl) ?_   -- 4
  refine TrC.take ⟨_, _, rfl, rfl, rfl⟩ (step_loadPN rfl rfl rfl ty30 rfl rfl rfl) ?_   -- 5
  refine TrC.take ⟨_, _, rfl, rfl, rfl⟩ (step_fieldAddrP rfl rfl fd35_0 rfl rfl) ?_   -- 6
  refine TrC.take ⟨_, _, rfl, rfl, rfl⟩ (step_loadPN rfl rfl rfl ty30 rfl rfl rfl) ?_   -- 7
  refine TrC.take ⟨_, _, rfl, rfl, rfl⟩ (step_call0 rfl rfl (D15 vB xB) rfl) ?_   -- 8
  refine TrC.spell 73 rfl (bv (b := true) (by decide)) ?_
  refine TrC.take ⟨_, _, rfl, rfl, rfl⟩ (step_not rfl rfl rfl) ?_   -- 9
  refine TrC.take rfl (step_pick rfl rfl rfl rfl) ?_   -- 10
  refine TrC.done ?_
  refine AT.condF rfl ?_   -- t75
  refine AT.skip ?_
  refine AT.seq ?_
  refine AT.regionD mixed rfl ?_   -- region 13 law.go:56
  refine TrC.take rfl (step_fieldAddrP rfl rfl fd35_0 rfl rfl) ?_   -- 0
  refine TrC.take rfl (step_loadPN rfl rfl rfl ty30 rfl rfl rfl) ?_   -- 1
  refine TrC.take rfl (step_call0 rfl rfl ((D17 vB 1).eq (et k6)) rfl) ?_   -- 2
  refine TrC.take rfl (step_fieldAddrP rfl rfl fd35_0 rfl rfl) ?_   -- 3
  refine TrC.take rfl (step_loadPN rfl rfl rfl ty30 rfl rfl rfl) ?_   -- 4
  refine TrC.take rfl (step_buildA rfl ze32 rfl ar32 rfl rfl rfl rfl) ?_   -- 5
  refine TrC.take rfl (step_call0 rfl rfl ((D21 vB 2 0 1).eq (et k7)) rfl) ?_   -- 6
  refine TrC.take rfl (step_allocC rfl rfl ze40 zc40 rfl rfl rfl) ?_   -- 7
  refine TrC.take rfl (step_allocC rfl rfl ze40 zc40 rfl rfl rfl) ?_   -- 8
  refine TrC.take rfl (step_storeP rfl rfl rfl rfl rfl (.inl rfl) ty40 rfl rfl rfl) ?_   -- 9
  refine TrC.take rfl (step_storeP rfl rfl rfl rfl rfl (.inl rfl) ty40 rfl rfl rfl) ?_   -- 10
  refine TrC.doneD rfl ?_
  refine AT.seq ?_
  refine AT.seq ?_
  refine AT.region ?_   -- region 14 law.go:57
  refine TrC.take rfl (step_fieldAddrP rfl rfl fd40_2 rfl rfl) ?_   -- 0
  refine TrC.take rfl (step_loadP1 rfl rfl rfl ty33 rfl rfl) ?_   -- 1
  refine TrC.take rfl (step_bin rfl rfl rfl rfl rfl) ?_   -- 2
  refine TrC.spell 85 rfl (bv (b := false) (by decide)) ?_
  refine TrC.take rfl (step_move rfl rfl rfl) ?_   -- 3
  refine TrC.take ⟨_, _, rfl, rfl, rfl⟩ (step_fieldAddrP rfl rfl fd40_1 rfl rfl) ?_   -- 4
  refine TrC.take ⟨_, _, rfl, rfl, rfl⟩ (step_loadPN rfl rfl rfl ty25 rfl rfl rfl) ?_   -- 5
  refine TrC.take ⟨_, _, rfl, rfl, rfl⟩ (step_buildS rfl ze25 rfl pl25 rfl rfl rfl rfl) ?_   -- 6
  refine TrC.take ⟨_, _, rfl, rfl, rfl⟩ (step_nea rfl rfl rfl rfl rfl ty25 eg25 (eq25 _ _ _ _ _ _) rfl) ?_   -- 7
  refine TrC.spell 90 rfl (bv (b := false) (by decide)) ?_
  refine TrC.take rfl (step_pick rfl rfl rfl rfl) ?_   -- 8
  refine TrC.take rfl (step_move rfl rfl rfl) ?_   -- 9
  refine TrC.take ⟨_, _, rfl, rfl, rfl⟩ (step_fieldAddrP rfl rfl fd40_0 rfl rfl) ?_   -- 10
  refine TrC.take ⟨_, _, rfl, rfl, rfl⟩ (step_loadPN rfl rfl rfl ty30 rfl rfl rfl) ?_   -- 11
  refine TrC.take ⟨_, _, rfl, rfl, rfl⟩ (step_call0 rfl rfl (D27 vT) rfl) ?_   -- 12
  refine TrC.spell 95 rfl (bv (b := true) (rfl)) ?_
  refine TrC.take ⟨_, _, rfl, rfl, rfl⟩ (step_not rfl rfl rfl) ?_   -- 13
  refine TrC.take rfl (step_pick rfl rfl rfl rfl) ?_   -- 14
  refine TrC.take rfl (step_move rfl rfl rfl) ?_   -- 15
  refine TrC.take ⟨_, _, rfl, rfl, rfl⟩ (step_fieldAddrP rfl rfl fd40_2 rfl rfl) ?_   -- 16
  refine TrC.take ⟨_, _, rfl, rfl, rfl⟩ (step_loadP1 rfl rfl rfl ty33 rfl rfl) ?_   -- 17
  refine TrC.take ⟨_, _, rfl, rfl, rfl⟩ (step_bin rfl rfl rfl rfl rfl) ?_   -- 18
  refine TrC.spell 101 rfl (bv (b := false) (by decide)) ?_
  refine TrC.take rfl (step_pick rfl rfl rfl rfl) ?_   -- 19
  refine TrC.take rfl (step_move rfl rfl rfl) ?_   -- 20
  refine TrC.take ⟨_, _, rfl, rfl, rfl⟩ (step_fieldAddrP rfl rfl fd40_0 rfl rfl) ?_   -- 21
  refine TrC.take ⟨_, _, rfl, rfl, rfl⟩ (step_loadPN rfl rfl rfl ty30 rfl rfl rfl) ?_   -- 22
  refine TrC.take ⟨_, _, rfl, rfl, rfl⟩ (step_call0 rfl rfl (D27 vD) rfl) ?_   -- 23
  refine TrC.spell 106 rfl (bv (b := true) (rfl)) ?_
  refine TrC.take ⟨_, _, rfl, rfl, rfl⟩ (step_not rfl rfl rfl) ?_   -- 24
  refine TrC.take rfl (step_pick rfl rfl rfl rfl) ?_   -- 25
  refine TrC.done ?_
  refine AT.condF rfl ?_   -- t108
  refine AT.skip ?_
  refine AT.seq ?_
  refine AT.region ?_   -- region 16 law.go:60
  refine TrC.take rfl (step_fieldAddrP rfl rfl fd40_0 rfl rfl) ?_   -- 0
  refine TrC.take rfl (step_loadPN rfl rfl rfl ty30 rfl rfl rfl) ?_   -- 1
  refine TrC.take rfl (step_buildA rfl ze32 rfl ar32 rfl rfl rfl rfl) ?_   -- 2
  refine TrC.take rfl (step_call0 rfl rfl ((D21 vD 2 0 0).eq (et k8)) rfl) ?_   -- 3
  refine TrC.take rfl (step_allocC rfl rfl ze40 zc40 rfl rfl rfl) ?_   -- 4
  refine TrC.take rfl (step_storeP rfl rfl rfl rfl rfl (.inl rfl) ty40 rfl rfl rfl) ?_   -- 5
  refine TrC.done ?_
  refine AT.seq ?_
  refine AT.seq ?_
  refine AT.region ?_   -- region 17 law.go:61
  refine TrC.take rfl (step_fieldAddrP rfl rfl fd40_2 rfl rfl) ?_   -- 0
  refine TrC.take rfl (step_loadP1 rfl rfl rfl ty33 rfl rfl) ?_   -- 1
  refine TrC.take rfl (step_bin rfl rfl rfl rfl rfl) ?_   -- 2
  refine TrC.spell 115 rfl (bv (b := false) (by decide)) ?_
  refine TrC.take rfl (step_move rfl rfl rfl) ?_   -- 3
  refine TrC.take ⟨_, _, rfl, rfl, rfl⟩ (step_fieldAddrP rfl rfl fd40_0 rfl rfl) ?_   -- 4
  refine TrC.take ⟨_, _, rfl, rfl, rfl⟩ (step_loadPN rfl rfl rfl ty30 rfl rfl rfl) ?_   -- 5
  refine TrC.take ⟨_, _, rfl, rfl, rfl⟩ (step_call0 rfl rfl (D27 vL) rfl) ?_   -- 6
  refine TrC.spell 119 rfl (bv (b := true) (rfl)) ?_
  refine TrC.take ⟨_, _, rfl, rfl, rfl⟩ (step_not rfl rfl rfl) ?_   -- 7
  refine TrC.take rfl (step_pick rfl rfl rfl rfl) ?_   -- 8
  refine TrC.done ?_
  refine AT.condF rfl ?_   -- t121
  refine AT.skip ?_
  refine AT.seq ?_
  refine AT.region ?_   -- region 19 law.go:64
  refine TrC.take rfl (step_fieldAddrP rfl rfl fd40_0 rfl rfl) ?_   -- 0
  refine TrC.take rfl (step_loadPN rfl rfl rfl ty30 rfl rfl rfl) ?_   -- 1
  refine TrC.take rfl (step_call0 rfl rfl ((D17 vT 1).eq (et k9)) rfl) ?_   -- 2
  refine TrC.take rfl (step_field1 rfl rfl fd40_2 ty33 rfl rfl) ?_   -- 3
  refine TrC.take rfl (step_bin rfl rfl rfl rfl rfl) ?_   -- 4
  refine TrC.spell 126 rfl (bv (b := true) (by decide)) ?_
  refine TrC.take rfl (step_move rfl rfl rfl) ?_   -- 5
  refine TrC.take ⟨_, _, rfl, rfl, rfl⟩ (step_fieldAddrP rfl rfl fd40_0 rfl rfl) ?_   -- 6
  refine TrC.take ⟨_, _, rfl, rfl, rfl⟩ (step_loadPN rfl rfl rfl ty30 rfl rfl rfl) ?_   -- 7
  refine TrC.take ⟨_, _, rfl, rfl, rfl⟩ (step_call0 rfl rfl ((D17 vL 3).eq (et k10)) rfl) ?_   -- 8
  refine TrC.take ⟨_, _, rfl, rfl, rfl⟩ (step_fieldN rfl rfl fd40_1 ty25 rfl rfl) ?_   -- 9
  refine TrC.take ⟨_, _, rfl, rfl, rfl⟩ (step_buildS rfl ze25 rfl pl25 rfl rfl rfl rfl) ?_   -- 10
  refine TrC.take ⟨_, _, rfl, rfl, rfl⟩ (step_eqa rfl rfl rfl rfl rfl ty25 eg25 (eq25 _ _ _ _ _ _) rfl) ?_   -- 11
  refine TrC.spell 133 rfl (bv (b := true) (by decide)) ?_
  refine TrC.take rfl (step_pick rfl rfl rfl rfl) ?_   -- 12
  refine TrC.take rfl (step_move rfl rfl rfl) ?_   -- 13
  refine TrC.take ⟨_, _, rfl, rfl, rfl⟩ (step_fieldAddrP rfl rfl fd35_0 rfl rfl) ?_   -- 14
  refine TrC.take ⟨_, _, rfl, rfl, rfl⟩ (step_loadPN rfl rfl rfl ty30 rfl rfl rfl) ?_   -- 15
  refine TrC.take ⟨_, _, rfl, rfl, rfl⟩ (step_call0 rfl rfl ((D13 vB 1 1).eq (es k11)) rfl) ?_   -- 16
  refine TrC.take ⟨_, _, rfl, rfl, rfl⟩ (step_field1 rfl rfl fd35_2 ty33 rfl rfl) ?_   -- 17
  refine TrC.take ⟨_, _, rfl, rfl, rfl⟩ (step_bin rfl rfl rfl rfl rfl) ?_   -- 18
  refine TrC.spell 140 rfl (bv (b := true) (by decide)) ?_
  refine TrC.take rfl (step_pick rfl rfl rfl rfl) ?_   -- 19
  refine TrC.take rfl (step_move rfl rfl rfl) ?_   -- 20
  refine TrC.take ⟨_, _, rfl, rfl, rfl⟩ (step_fieldAddrP rfl rfl fd40_0 rfl rfl) ?_   -- 21
  refine TrC.take ⟨_, _, rfl, rfl, rfl⟩ (step_loadPN rfl rfl rfl ty30 rfl rfl rfl) ?_   -- 22
  refine TrC.take ⟨_, _, rfl, rfl, rfl⟩ (step_call0 rfl rfl (D19 vC 1 2) rfl) ?_   -- 23
  refine TrC.spell 145 rfl (bv (b := false) (k12)) ?_
  refine TrC.take ⟨_, _, rfl, rfl, rfl⟩ (step_not rfl rfl rfl) ?_   -- 24
  refine TrC.take rfl (step_pick rfl rfl rfl rfl) ?_   -- 25
  refine TrC.take rfl (step_move rfl rfl rfl) ?_   -- 26
  refine TrC.take ⟨_, _, rfl, rfl, rfl⟩ (step_fieldAddrP rfl rfl fd40_0 rfl rfl) ?_   -- 27
  refine TrC.take ⟨_, _, rfl, rfl, rfl⟩ (step_loadPN rfl rfl rfl ty30 rfl rfl rfl) ?_   -- 28
  refine TrC.take ⟨_, _, rfl, rfl, rfl⟩ (step_call0 rfl rfl (D19 vC 1 3) rfl) ?_   -- 29
  refine TrC.spell 151 rfl (bv (b := true) (k13)) ?_
  refine TrC.take rfl (step_pick rfl rfl rfl rfl) ?_   -- 30
  refine TrC.take rfl (step_move rfl rfl rfl) ?_   -- 31
  refine TrC.take ⟨_, _, rfl, rfl, rfl⟩ (step_fieldAddrP rfl rfl fd35_0 rfl rfl) ?_   -- 32
  refine TrC.take ⟨_, _, rfl, rfl, rfl⟩ (step_loadPN rfl rfl rfl ty30 rfl rfl rfl) ?_   -- 33
  refine TrC.take ⟨_, _, rfl, rfl, rfl⟩ (step_call0 rfl rfl (D26 vB) rfl) ?_   -- 34
  refine TrC.spell 156 rfl (bv (b := true) (rfl)) ?_
  refine TrC.take rfl (step_pick rfl rfl rfl rfl) ?_   -- 35
  refine TrC.take rfl (step_move rfl rfl rfl) ?_   -- 36
  refine TrC.take ⟨_, _, rfl, rfl, rfl⟩ (step_buildC rfl ze30 zc30 rfl pl30 rfl rfl rfl rfl) ?_   -- 37
  refine TrC.take ⟨_, _, rfl, rfl, rfl⟩ (step_call0 rfl rfl (C26 ⟨[], [], 0⟩ (by decide) (by decide)) rfl) ?_   -- 38
  refine TrC.spell 160 rfl (bv (b := false) (k14)) ?_
  refine TrC.take ⟨_, _, rfl, rfl, rfl⟩ (step_not rfl rfl rfl) ?_   -- 39
  refine TrC.take rfl (step_pick rfl rfl rfl rfl) ?_   -- 40
  refine TrC.take rfl (step_assign rfl rfl rfl) ?_   -- 41
  refine TrC.done ?_
  refine AT.ret ?_
  exact Ret.one rfl (ResR.tmp rfl (conv_b (by first | rfl | decide)))

end Go.Proofs.Ytnemmdbafngppaa.Net
