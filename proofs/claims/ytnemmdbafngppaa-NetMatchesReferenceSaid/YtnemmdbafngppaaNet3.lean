/- Parts of this proof, one after the other; each says what it proves. No condition. -/
import Derived.Test.YtnemmdbafngppaaMF
import Derived.Test.YtnemmdbafngppaaRows
import Derived.Test.YtnemmdbafngppaaMC
import Derived.WalkKit
import Derived.ProofKit
import Derived.OpenShut
import Derived.ShutString
import Derived.ChangeOld
import Derived.Below
import Derived.Carry
import Derived.SizedLaws
/- Contracts of functions of this translation. Printed by wip/tools/gen.py out of wip/net/ann.py. No condition. -/
set_option linter.unusedVariables false
set_option linter.unusedSimpArgs false
namespace Go.Proofs.Ytnemmdbafngppaa.Net
open Go.Proofs.Ytnemmdbafngppaa.Abs
set_option maxRecDepth 100000
set_option maxHeartbeats 4000000
theorem C3 (l : List (Int × Int × Int)) (hb : ∀ x ∈ l, (0 ≤ x.1 ∧ x.1 ≤ 255) ∧ (0 ≤ x.2.1 ∧ x.2.1 ≤ 255) ∧ (0 ≤ x.2.2 ∧ x.2.2 ≤ 255)) (w0 w1 w2 : Int) (x : Pk) : Has Try.prog 3 [.slice 3 (l.map encB), .agg [.i w0, .i w1, .i w2], encP x] (.b true) := by   -- burgage/burgagelaw32.NetMatchesReference
  have hv := VN.made l
  have hvl := hv.nl
  have hvc := hv.cl
  refine Has.intro 176 Try.func3 (by kernel_rfl) rfl rfl fun w ok => ?_
  refine AT.seq ?_
  refine AT.region ?_   -- region 0 law.go:68
  refine TrC.take rfl (step_box rfl rfl rfl rfl rfl rfl rfl) ?_   -- 0
  refine TrC.take rfl (step_box rfl rfl rfl rfl rfl rfl rfl) ?_   -- 1
  refine TrC.take rfl (step_assign rfl rfl rfl) ?_   -- 2
  refine TrC.done ?_
  refine AT.seq ?_
  refine AT.region ?_   -- region 1 law.go:69
  refine TrC.take rfl (step_call0 rfl rfl (C11) rfl) ?_   -- 0
  refine TrC.take rfl (step_assign rfl rfl rfl) ?_   -- 1
  refine TrC.done ?_
  refine AT.seq ?_
  refine AT.region ?_   -- region 2 law.go:70
  refine TrC.take rfl (step_move rfl rfl rfl) ?_   -- 0
  refine TrC.take rfl (step_call0 rfl rfl (C12 l hb) rfl) ?_   -- 1
  refine TrC.take rfl (step_allocC rfl rfl ze30 zc30 rfl rfl rfl) ?_   -- 2
  refine TrC.take rfl (step_storeP rfl rfl rfl rfl rfl (.inl rfl) ty30 rfl rfl rfl) ?_   -- 3
  refine TrC.done ?_
  refine AT.seq ?_
  refine AT.regionD mixed rfl ?_   -- region 3 law.go:71
  refine TrC.take rfl (step_indexAddrP rfl rfl rfl ar23 (by decide) (by decide) rfl) ?_   -- 0
  refine TrC.take rfl (step_loadP1 rfl rfl rfl ty3 rfl rfl) ?_   -- 1
  refine TrC.take rfl (step_indexAddrP rfl rfl rfl ar23 (by decide) (by decide) rfl) ?_   -- 2
  refine TrC.take rfl (step_loadP1 rfl rfl rfl ty3 rfl rfl) ?_   -- 3
  refine TrC.take rfl (step_buildA rfl ze32 rfl ar32 rfl rfl rfl rfl) ?_   -- 4
  refine TrC.take rfl (step_loadPN rfl rfl rfl ty30 rfl rfl rfl) ?_   -- 5
  refine TrC.take rfl (step_alloc rfl rfl ze32 rfl rfl rfl) ?_   -- 6
  refine TrC.take rfl (step_allocC rfl rfl ze30 zc30 rfl rfl rfl) ?_   -- 7
  refine TrC.take rfl (step_storeP rfl rfl rfl rfl rfl (.inl rfl) ty32 rfl rfl rfl) ?_   -- 8
  refine TrC.take rfl (step_storeP rfl rfl rfl rfl rfl (.inl rfl) ty30 rfl rfl rfl) ?_   -- 9
  refine TrC.doneD rfl ?_
  refine AT.seq ?_
  refine AT.regionD mixed rfl ?_   -- region 4 law.go:72
  refine TrC.take rfl (step_buildSliceH rfl rfl sl27 ze25 rfl rfl rfl rfl rfl rfl rfl rfl rfl rfl rfl rfl rfl) ?_   -- 0
  refine TrC.take rfl (step_fieldAddrP rfl rfl fd30_0 rfl rfl) ?_   -- 1
  refine TrC.take rfl (step_loadP1 rfl rfl rfl ty27 rfl rfl) ?_   -- 2
  refine TrC.take rfl (step_append rfl rfl rfl rfl rfl (.refl _) sl27 ze25 rfl rfl rfl (by first | (simp; done) | (simp; omega) | omega) rfl rfl) ?_   -- 3
  refine TrC.take rfl (step_loadPN rfl rfl rfl ty25 rfl rfl rfl) ?_   -- 4
  refine TrC.take rfl (step_buildSliceT rfl sl27 ze25 rfl rfl rfl rfl rfl rfl rfl rfl rfl rfl rfl rfl) ?_   -- 5
  refine TrC.take rfl (Step.toT (step_append rfl rfl rfl rfl rfl (.refl _) sl27 ze25 rfl rfl rfl (by first | (simp; done) | (simp; omega) | omega) rfl rfl) rfl) ?_   -- 6
  refine TrC.take rfl (step_fieldAddrP rfl rfl fd30_0 rfl rfl) ?_   -- 7
  refine TrC.take rfl (step_storeP rfl rfl rfl rfl rfl (.inl rfl) ty27 rfl rfl rfl) ?_   -- 8
  refine TrC.doneD rfl ?_
  refine AT.seq ?_
  refine AT.regionD mixed rfl ?_   -- region 5 law.go:73
  refine TrC.take rfl (step_buildSliceH rfl rfl sl28 ze32 rfl rfl rfl rfl rfl rfl rfl rfl rfl rfl rfl rfl rfl) ?_   -- 0
  refine TrC.take rfl (step_fieldAddrP rfl rfl fd30_1 rfl rfl) ?_   -- 1
  refine TrC.take rfl (step_loadP1 rfl rfl rfl ty28 rfl rfl) ?_   -- 2
  refine TrC.take rfl (step_append rfl rfl rfl rfl rfl (.refl _) sl28 ze32 rfl rfl rfl (by first | (simp; done) | (simp; omega) | omega) rfl rfl) ?_   -- 3
  refine TrC.take rfl (step_loadPN rfl rfl rfl ty32 rfl rfl rfl) ?_   -- 4
  refine TrC.take rfl (step_buildSliceT rfl sl28 ze32 rfl rfl rfl rfl rfl rfl rfl rfl rfl rfl rfl rfl) ?_   -- 5
  refine TrC.take rfl (Step.toT (step_append rfl rfl rfl rfl rfl (.refl _) sl28 ze32 rfl rfl rfl (by first | (simp; done) | (simp; omega) | omega) rfl rfl) rfl) ?_   -- 6
  refine TrC.take rfl (step_fieldAddrP rfl rfl fd30_1 rfl rfl) ?_   -- 7
  refine TrC.take rfl (step_storeP rfl rfl rfl rfl rfl (.inl rfl) ty28 rfl rfl rfl) ?_   -- 8
  refine TrC.doneD rfl ?_
  refine AT.seq ?_
  refine AT.region ?_   -- region 6 law.go:74
  refine TrC.take rfl (step_loadPN rfl rfl rfl ty30 rfl rfl rfl) ?_   -- 0
  refine TrC.take rfl (step_allocC rfl rfl ze30 zc30 rfl rfl rfl) ?_   -- 1
  refine TrC.take rfl (step_storeP rfl rfl rfl rfl rfl (.inl rfl) ty30 rfl rfl rfl) ?_   -- 2
  refine TrC.done ?_
  refine AT.seq ?_
  refine AT.region ?_   -- region 7 law.go:75
  refine TrC.take rfl (step_indexAddrP rfl rfl rfl ar23 (by decide) (by decide) rfl) ?_   -- 0
  refine TrC.take rfl (step_loadP1 rfl rfl rfl ty3 rfl rfl) ?_   -- 1
  refine TrC.take rfl (step_fieldAddrP rfl rfl fd30_2 rfl rfl) ?_   -- 2
  refine TrC.take rfl (step_storeP rfl rfl rfl rfl rfl (.inl rfl) ty3 rfl rfl rfl) ?_   -- 3
  refine TrC.done ?_
  refine AT.seq ?_
  refine AT.regionD mixed rfl ?_   -- region 8 law.go:76
  refine TrC.take rfl (step_loadPN rfl rfl rfl ty30 rfl rfl rfl) ?_   -- 0
  refine TrC.take rfl (step_indexAddrP rfl rfl rfl ar23 (by decide) (by decide) rfl) ?_   -- 1
  refine TrC.take rfl (step_loadP1 rfl rfl rfl ty3 rfl rfl) ?_   -- 2
  refine TrC.take rfl (step_indexAddrP rfl rfl rfl ar23 (by decide) (by decide) rfl) ?_   -- 3
  refine TrC.take rfl (step_loadP1 rfl rfl rfl ty3 rfl rfl) ?_   -- 4
  refine TrC.take rfl (step_call0 rfl rfl (D13 hv w0 w1) rfl) ?_   -- 5
  refine TrC.take rfl (step_loadPN rfl rfl rfl ty30 rfl rfl rfl) ?_   -- 6
  refine TrC.take rfl (step_indexAddrP rfl rfl rfl ar23 (by decide) (by decide) rfl) ?_   -- 7
  refine TrC.take rfl (step_loadP1 rfl rfl rfl ty3 rfl rfl) ?_   -- 8
  refine TrC.take rfl (step_indexAddrP rfl rfl rfl ar23 (by decide) (by decide) rfl) ?_   -- 9
  refine TrC.take rfl (step_loadP1 rfl rfl rfl ty3 rfl rfl) ?_   -- 10
  refine TrC.take rfl (step_call0 rfl rfl (D14 hv w0 w1) rfl) ?_   -- 11
  refine TrC.take rfl (step_allocC rfl rfl ze35 zc35 rfl rfl rfl) ?_   -- 12
  refine TrC.take rfl (step_allocC rfl rfl ze35 zc35 rfl rfl rfl) ?_   -- 13
  refine TrC.take rfl (step_storeP rfl rfl rfl rfl rfl (.inl rfl) ty35 rfl rfl rfl) ?_   -- 14
  refine TrC.take rfl (step_storeP rfl rfl rfl rfl rfl (.inl rfl) ty35 rfl rfl rfl) ?_   -- 15
  refine TrC.doneD rfl ?_
  refine AT.seq ?_
  refine AT.seq ?_
  refine AT.regionD mixed rfl ?_   -- region 9 law.go:77
  refine TrC.take rfl (step_fieldAddrP rfl rfl fd35_0 rfl rfl) ?_   -- 0
  refine TrC.take rfl (step_loadPN rfl rfl rfl ty30 rfl rfl rfl) ?_   -- 1
  refine TrC.take rfl (step_fieldAddrP rfl rfl fd35_0 rfl rfl) ?_   -- 2
  refine TrC.take rfl (step_loadPN rfl rfl rfl ty30 rfl rfl rfl) ?_   -- 3
  refine TrC.take rfl (step_call0 rfl rfl (D15 (hv.send w0 w1) (send (made l) w0 w1).n) rfl) ?_   -- 4
  refine TrC.spell 61 rfl (bv (b := true) (by simp)) ?_
  refine TrC.take rfl (step_not rfl rfl rfl) ?_   -- 5
  refine TrC.take rfl (step_move rfl rfl rfl) ?_   -- 6
  refine TrC.take ⟨_, _, rfl, rfl, rfl⟩ (step_fieldAddrP rfl rfl fd35_1 rfl rfl) ?_   -- 7
  refine TrC.take ⟨_, _, rfl, rfl, rfl⟩ (step_loadP1 rfl rfl rfl ty3 rfl rfl) ?_   -- 8
  refine TrC.take ⟨_, _, rfl, rfl, rfl⟩ (step_fieldAddrP rfl rfl fd35_1 rfl rfl) ?_   -- 9
  refine TrC.take ⟨_, _, rfl, rfl, rfl⟩ (step_loadP1 rfl rfl rfl ty3 rfl rfl) ?_   -- 10
  refine TrC.take ⟨_, _, rfl, rfl, rfl⟩ (step_bin rfl rfl rfl rfl rfl) ?_   -- 11
  refine TrC.spell 68 rfl (bv (b := false) (by simp)) ?_
  refine TrC.take rfl (step_pick rfl rfl rfl rfl) ?_   -- 12
  refine TrC.take rfl (step_move rfl rfl rfl) ?_   -- 13
  refine TrC.take ⟨_, _, rfl, rfl, rfl⟩ (step_fieldAddrP rfl rfl fd35_2 rfl rfl) ?_   -- 14
  refine TrC.take ⟨_, _, rfl, rfl, rfl⟩ (step_loadP1 rfl rfl rfl ty33 rfl rfl) ?_   -- 15
  refine TrC.take ⟨_, _, rfl, rfl, rfl⟩ (step_fieldAddrP rfl rfl fd35_2 rfl rfl) ?_   -- 16
  refine TrC.take ⟨_, _, rfl, rfl, rfl⟩ (step_loadP1 rfl rfl rfl ty33 rfl rfl) ?_   -- 17
  refine TrC.take ⟨_, _, rfl, rfl, rfl⟩ (step_bin rfl rfl rfl rfl rfl) ?_   -- 18
  refine TrC.spell 75 rfl (bv (b := false) (by simp)) ?_
  refine TrC.take rfl (step_pick rfl rfl rfl rfl) ?_   -- 19
  refine TrC.take rfl (step_move rfl rfl rfl) ?_   -- 20
  refine TrC.take ⟨_, _, rfl, rfl, rfl⟩ (step_loadPN rfl rfl rfl ty30 rfl rfl rfl) ?_   -- 21
  refine TrC.take ⟨_, _, rfl, rfl, rfl⟩ (step_indexAddrP rfl rfl rfl ar23 (by decide) (by decide) rfl) ?_   -- 22
  refine TrC.take ⟨_, _, rfl, rfl, rfl⟩ (step_loadP1 rfl rfl rfl ty3 rfl rfl) ?_   -- 23
  refine TrC.take ⟨_, _, rfl, rfl, rfl⟩ (step_call0 rfl rfl (D17 hv w2) rfl) ?_   -- 24
  refine TrC.take ⟨_, _, rfl, rfl, rfl⟩ (step_loadPN rfl rfl rfl ty30 rfl rfl rfl) ?_   -- 25
  refine TrC.take ⟨_, _, rfl, rfl, rfl⟩ (step_indexAddrP rfl rfl rfl ar23 (by decide) (by decide) rfl) ?_   -- 26
  refine TrC.take ⟨_, _, rfl, rfl, rfl⟩ (step_loadP1 rfl rfl rfl ty3 rfl rfl) ?_   -- 27
  refine TrC.take ⟨_, _, rfl, rfl, rfl⟩ (step_call0 rfl rfl (D18 hv w2) rfl) ?_   -- 28
  refine TrC.take ⟨_, _, rfl, rfl, rfl⟩ (step_call0 rfl rfl (C16 (take (made l) w2) (take (made l) w2) (hv.take w2).l1 (hv.take w2).l2) rfl) ?_   -- 29
  refine TrC.spell 86 rfl (bv (b := true) (by simp)) ?_
  refine TrC.take ⟨_, _, rfl, rfl, rfl⟩ (step_not rfl rfl rfl) ?_   -- 30
  refine TrC.take rfl (step_pick rfl rfl rfl rfl) ?_   -- 31
  refine TrC.take rfl (step_move rfl rfl rfl) ?_   -- 32
  refine TrC.take ⟨_, _, rfl, rfl, rfl⟩ (step_loadPN rfl rfl rfl ty30 rfl rfl rfl) ?_   -- 33
  refine TrC.take ⟨_, _, rfl, rfl, rfl⟩ (step_indexAddrP rfl rfl rfl ar23 (by decide) (by decide) rfl) ?_   -- 34
  refine TrC.take ⟨_, _, rfl, rfl, rfl⟩ (step_loadP1 rfl rfl rfl ty3 rfl rfl) ?_   -- 35
  refine TrC.take ⟨_, _, rfl, rfl, rfl⟩ (step_indexAddrP rfl rfl rfl ar23 (by decide) (by decide) rfl) ?_   -- 36
  refine TrC.take ⟨_, _, rfl, rfl, rfl⟩ (step_loadP1 rfl rfl rfl ty3 rfl rfl) ?_   -- 37
  refine TrC.take ⟨_, _, rfl, rfl, rfl⟩ (step_call0 rfl rfl (D19 hv w0 w1) rfl) ?_   -- 38
  refine TrC.take ⟨_, _, rfl, rfl, rfl⟩ (step_loadPN rfl rfl rfl ty30 rfl rfl rfl) ?_   -- 39
  refine TrC.take ⟨_, _, rfl, rfl, rfl⟩ (step_indexAddrP rfl rfl rfl ar23 (by decide) (by decide) rfl) ?_   -- 40
  refine TrC.take ⟨_, _, rfl, rfl, rfl⟩ (step_loadP1 rfl rfl rfl ty3 rfl rfl) ?_   -- 41
  refine TrC.take ⟨_, _, rfl, rfl, rfl⟩ (step_indexAddrP rfl rfl rfl ar23 (by decide) (by decide) rfl) ?_   -- 42
  refine TrC.take ⟨_, _, rfl, rfl, rfl⟩ (step_loadP1 rfl rfl rfl ty3 rfl rfl) ?_   -- 43
  refine TrC.take ⟨_, _, rfl, rfl, rfl⟩ (step_call0 rfl rfl (D20 hv w0 w1) rfl) ?_   -- 44
  refine TrC.take ⟨_, _, rfl, rfl, rfl⟩ (step_nebool rfl rfl rfl bo4 rfl) ?_   -- 45
  refine TrC.spell 102 rfl (bv (b := false) (by simp)) ?_
  refine TrC.take rfl (step_pick rfl rfl rfl rfl) ?_   -- 46
  refine TrC.doneD rfl ?_
  refine AT.condF rfl ?_   -- t103
  refine AT.skip ?_
  refine AT.seq ?_
  refine AT.regionD mixed rfl ?_   -- region 11 law.go:80
  refine TrC.take rfl (step_loadPN rfl rfl rfl ty30 rfl rfl rfl) ?_   -- 0
  refine TrC.take rfl (step_indexAddrP rfl rfl rfl ar23 (by decide) (by decide) rfl) ?_   -- 1
  refine TrC.take rfl (step_loadP1 rfl rfl rfl ty3 rfl rfl) ?_   -- 2
  refine TrC.take rfl (step_buildA rfl ze32 rfl ar32 rfl rfl rfl rfl) ?_   -- 3
  refine TrC.take rfl (step_call0 rfl rfl ((D21 hv w2 0 0).eq (et (dn0 _ _ _))) rfl) ?_   -- 4
  refine TrC.take rfl (step_loadPN rfl rfl rfl ty30 rfl rfl rfl) ?_   -- 5
  refine TrC.take rfl (step_indexAddrP rfl rfl rfl ar23 (by decide) (by decide) rfl) ?_   -- 6
  refine TrC.take rfl (step_loadP1 rfl rfl rfl ty3 rfl rfl) ?_   -- 7
  refine TrC.take rfl (step_call0 rfl rfl (D22 hv w2) rfl) ?_   -- 8
  refine TrC.take rfl (step_call0 rfl rfl (C16 (lose (made l) w2) (lose (made l) w2) (hv.lose w2).l1 (hv.lose w2).l2) rfl) ?_   -- 9
  refine TrC.spell 113 rfl (bv (b := true) (by simp)) ?_
  refine TrC.take rfl (step_move rfl rfl rfl) ?_   -- 10
  refine TrC.take ⟨_, _, rfl, rfl, rfl⟩ (step_loadPN rfl rfl rfl ty30 rfl rfl rfl) ?_   -- 11
  refine TrC.take ⟨_, _, rfl, rfl, rfl⟩ (step_indexAddrP rfl rfl rfl ar23 (by decide) (by decide) rfl) ?_   -- 12
  refine TrC.take ⟨_, _, rfl, rfl, rfl⟩ (step_loadP1 rfl rfl rfl ty3 rfl rfl) ?_   -- 13
  refine TrC.take ⟨_, _, rfl, rfl, rfl⟩ (step_buildA rfl ze32 rfl ar32 rfl rfl rfl rfl) ?_   -- 14
  refine TrC.take ⟨_, _, rfl, rfl, rfl⟩ (step_call0 rfl rfl ((D21 hv w2 0 1).eq (et (dn1 _ _ _))) rfl) ?_   -- 15
  refine TrC.take ⟨_, _, rfl, rfl, rfl⟩ (step_loadPN rfl rfl rfl ty30 rfl rfl rfl) ?_   -- 16
  refine TrC.take ⟨_, _, rfl, rfl, rfl⟩ (step_indexAddrP rfl rfl rfl ar23 (by decide) (by decide) rfl) ?_   -- 17
  refine TrC.take ⟨_, _, rfl, rfl, rfl⟩ (step_loadP1 rfl rfl rfl ty3 rfl rfl) ?_   -- 18
  refine TrC.take ⟨_, _, rfl, rfl, rfl⟩ (step_call0 rfl rfl (D23 hv w2) rfl) ?_   -- 19
  refine TrC.take ⟨_, _, rfl, rfl, rfl⟩ (step_call0 rfl rfl (C16 (double (made l) w2) (double (made l) w2) (hv.double w2).l1 (hv.double w2).l2) rfl) ?_   -- 20
  refine TrC.spell 124 rfl (bv (b := true) (by simp)) ?_
  refine TrC.take rfl (step_pick rfl rfl rfl rfl) ?_   -- 21
  refine TrC.take rfl (step_assign rfl rfl rfl) ?_   -- 22
  refine TrC.doneD rfl ?_
  refine AT.seq ?_
  refine AT.regionD mixed rfl ?_   -- region 12 law.go:81
  refine TrC.take rfl (step_loadPN rfl rfl rfl ty30 rfl rfl rfl) ?_   -- 0
  refine TrC.take rfl (step_loadPN rfl rfl rfl ty32 rfl rfl rfl) ?_   -- 1
  refine TrC.take rfl (step_call0 rfl rfl ((D21 hv w0 w1 2).eq (et (dn2 _ _ _))) rfl) ?_   -- 2
  refine TrC.take rfl (step_loadPN rfl rfl rfl ty30 rfl rfl rfl) ?_   -- 3
  refine TrC.take rfl (step_indexAddrP rfl rfl rfl ar23 (by decide) (by decide) rfl) ?_   -- 4
  refine TrC.take rfl (step_loadP1 rfl rfl rfl ty3 rfl rfl) ?_   -- 5
  refine TrC.take rfl (step_indexAddrP rfl rfl rfl ar23 (by decide) (by decide) rfl) ?_   -- 6
  refine TrC.take rfl (step_loadP1 rfl rfl rfl ty3 rfl rfl) ?_   -- 7
  refine TrC.take rfl (step_call0 rfl rfl (D24 hv w0 w1) rfl) ?_   -- 8
  refine TrC.take rfl (step_call0 rfl rfl (C16 (sever (made l) w0 w1) (sever (made l) w0 w1) (hv.sever w0 w1).l1 (hv.sever w0 w1).l2) rfl) ?_   -- 9
  refine TrC.spell 135 rfl (bv (b := true) (by simp)) ?_
  refine TrC.take rfl (step_move rfl rfl rfl) ?_   -- 10
  refine TrC.take ⟨_, _, rfl, rfl, rfl⟩ (step_loadPN rfl rfl rfl ty30 rfl rfl rfl) ?_   -- 11
  refine TrC.take ⟨_, _, rfl, rfl, rfl⟩ (step_loadPN rfl rfl rfl ty32 rfl rfl rfl) ?_   -- 12
  refine TrC.take ⟨_, _, rfl, rfl, rfl⟩ (step_call0 rfl rfl ((D21 hv w0 w1 3).eq (et (dn3 _ _ _))) rfl) ?_   -- 13
  refine TrC.take ⟨_, _, rfl, rfl, rfl⟩ (step_loadPN rfl rfl rfl ty30 rfl rfl rfl) ?_   -- 14
  refine TrC.take ⟨_, _, rfl, rfl, rfl⟩ (step_indexAddrP rfl rfl rfl ar23 (by decide) (by decide) rfl) ?_   -- 15
  refine TrC.take ⟨_, _, rfl, rfl, rfl⟩ (step_loadP1 rfl rfl rfl ty3 rfl rfl) ?_   -- 16
  refine TrC.take ⟨_, _, rfl, rfl, rfl⟩ (step_indexAddrP rfl rfl rfl ar23 (by decide) (by decide) rfl) ?_   -- 17
  refine TrC.take ⟨_, _, rfl, rfl, rfl⟩ (step_loadP1 rfl rfl rfl ty3 rfl rfl) ?_   -- 18
  refine TrC.take ⟨_, _, rfl, rfl, rfl⟩ (step_call0 rfl rfl (D25 hv w0 w1) rfl) ?_   -- 19
  refine TrC.take ⟨_, _, rfl, rfl, rfl⟩ (step_call0 rfl rfl (C16 (heal (made l) w0 w1) (heal (made l) w0 w1) (hv.heal w0 w1).l1 (hv.heal w0 w1).l2) rfl) ?_   -- 20
  refine TrC.spell 146 rfl (bv (b := true) (by simp)) ?_
  refine TrC.take rfl (step_pick rfl rfl rfl rfl) ?_   -- 21
  refine TrC.take rfl (step_assign rfl rfl rfl) ?_   -- 22
  refine TrC.doneD rfl ?_
  refine AT.seq ?_
  refine AT.regionD mixed rfl ?_   -- region 13 law.go:82
  refine TrC.take rfl (step_move rfl rfl rfl) ?_   -- 0
  refine TrC.take rfl (step_move rfl rfl rfl) ?_   -- 1
  refine TrC.take ⟨_, _, rfl, rfl, rfl⟩ (step_move rfl rfl rfl) ?_   -- 2
  refine TrC.take rfl (step_pick rfl rfl rfl rfl) ?_   -- 3
  refine TrC.take rfl (step_move rfl rfl rfl) ?_   -- 4
  refine TrC.take ⟨_, _, rfl, rfl, rfl⟩ (step_loadPN rfl rfl rfl ty30 rfl rfl rfl) ?_   -- 5
  refine TrC.take ⟨_, _, rfl, rfl, rfl⟩ (step_call0 rfl rfl (D26 hv) rfl) ?_   -- 6
  refine TrC.take ⟨_, _, rfl, rfl, rfl⟩ (step_loadPN rfl rfl rfl ty30 rfl rfl rfl) ?_   -- 7
  refine TrC.take ⟨_, _, rfl, rfl, rfl⟩ (step_call0 rfl rfl (D27 hv) rfl) ?_   -- 8
  refine TrC.take ⟨_, _, rfl, rfl, rfl⟩ (step_eqbool rfl rfl rfl bo4 rfl) ?_   -- 9
  refine TrC.spell 157 rfl (bv (b := true) (by simp)) ?_
  refine TrC.take rfl (step_pick rfl rfl rfl rfl) ?_   -- 10
  refine TrC.take rfl (step_move rfl rfl rfl) ?_   -- 11
  refine TrC.take ⟨_, _, rfl, rfl, rfl⟩ (step_loadPN rfl rfl rfl ty30 rfl rfl rfl) ?_   -- 12
  refine TrC.take ⟨_, _, rfl, rfl, rfl⟩ (step_call0 rfl rfl ((C26 ⟨(made l).fl ++ [x], (made l).cuts ++ [(w0, w1)], (made l).next⟩ (by have := hv.nl; simp; omega) (by have := hv.cl; simp; omega)).args (by simp [encN, encP, encC])) rfl) ?_   -- 13
  refine TrC.take ⟨_, _, rfl, rfl, rfl⟩ (step_loadPN rfl rfl rfl ty30 rfl rfl rfl) ?_   -- 14
  refine TrC.take ⟨_, _, rfl, rfl, rfl⟩ (step_call0 rfl rfl ((C27 ⟨(made l).fl ++ [x], (made l).cuts ++ [(w0, w1)], (made l).next⟩ (by have := hv.nl; simp; omega) (by have := hv.cl; simp; omega)).args (by simp [encN, encP, encC])) rfl) ?_   -- 15
  refine TrC.take ⟨_, _, rfl, rfl, rfl⟩ (step_eqbool rfl rfl rfl bo4 rfl) ?_   -- 16
  refine TrC.spell 164 rfl (bv (b := true) (by simp)) ?_
  refine TrC.take rfl (step_pick rfl rfl rfl rfl) ?_   -- 17
  refine TrC.take rfl (step_move rfl rfl rfl) ?_   -- 18
  refine TrC.take ⟨_, _, rfl, rfl, rfl⟩ (step_loadPN rfl rfl rfl ty30 rfl rfl rfl) ?_   -- 19
  refine TrC.take ⟨_, _, rfl, rfl, rfl⟩ (step_call0 rfl rfl (C26 ⟨(made l).fl, (made l).cuts, w2⟩ hv.l1 hv.l2) rfl) ?_   -- 20
  refine TrC.take ⟨_, _, rfl, rfl, rfl⟩ (step_loadPN rfl rfl rfl ty30 rfl rfl rfl) ?_   -- 21
  refine TrC.take ⟨_, _, rfl, rfl, rfl⟩ (step_call0 rfl rfl (C27 ⟨(made l).fl, (made l).cuts, w2⟩ hv.l1 hv.l2) rfl) ?_   -- 22
  refine TrC.take ⟨_, _, rfl, rfl, rfl⟩ (step_eqbool rfl rfl rfl bo4 rfl) ?_   -- 23
  refine TrC.spell 171 rfl (bv (b := true) (by simp)) ?_
  refine TrC.take rfl (step_pick rfl rfl rfl rfl) ?_   -- 24
  refine TrC.take rfl (step_move rfl rfl rfl) ?_   -- 25
  refine TrC.take ⟨_, _, rfl, rfl, rfl⟩ (step_move rfl rfl rfl) ?_   -- 26
  refine TrC.take rfl (step_pick rfl rfl rfl rfl) ?_   -- 27
  refine TrC.take rfl (step_assign rfl rfl rfl) ?_   -- 28
  refine TrC.doneD rfl ?_
  refine AT.ret ?_
  exact Ret.one rfl (ResR.tmp rfl (conv_b rfl))

end Go.Proofs.Ytnemmdbafngppaa.Net

/- NetMatchesReference: from the function's contract to arguments as they come. No condition. -/
set_option linter.unusedVariables false
namespace Go.Proofs.Ytnemmdbafngppaa.netMatchesReference
open Go.Proofs.Ytnemmdbafngppaa.Abs Go.Proofs.Ytnemmdbafngppaa.Net Go.RowKit
theorem NetMatchesReference_has (x0 x1 x2 : T) (f0 : Fits Try.prog 22 x0.cells) (a0 : (∃ l, x0 = .agg l) ↔ (partsOf Try.prog 22).isSome = true) (f1 : Fits Try.prog 23 x1.cells) (a1 : (∃ l, x1 = .agg l) ↔ (partsOf Try.prog 23).isSome = true)
    (f2 : Fits Try.prog 25 x2.cells) (a2 : (∃ l, x2 = .agg l) ↔ (partsOf Try.prog 25).isSome = true) : Has Try.prog 3 [x0, x1, x2] (.b true) := by
  obtain ⟨l, rfl, _, hb⟩ := fitB3 f0 a0 (e := 47) (by kernel_rfl) (by kernel_rfl) (by kernel_rfl)
  obtain ⟨ns, g1, rfl, _⟩ := flatV (k := .i64) (n := 3) f1 a1 (by kernel_rfl)
  obtain ⟨w0, w1, w2, rfl⟩ := list_three g1
  obtain ⟨ms, g2, rfl, _⟩ := flatV (k := .i64) (n := 3) f2 a2 (by kernel_rfl)
  obtain ⟨p, q, r, rfl⟩ := list_three g2
  exact C3 l hb w0 w1 w2 ⟨p, q, r⟩
end Go.Proofs.Ytnemmdbafngppaa.netMatchesReference

/- The statement NetMatchesReferenceSaid is proved here: the law's function returns true for all its arguments and panics for none. No condition. -/
namespace Go.Proofs.Ytnemmdbafngppaa.netMatchesReference
open Go.ChangeShapes Go.WideShapes Go.ChangeAt Go.RowKit
open Go.Proofs.Ytnemmdbafngppaa.Abs
set_option linter.unusedVariables false
theorem own : ownKnob Try.prog.godebug = none := by kernel_rfl
theorem laidOut : laidOutB Try.prog = true := by kernel_rfl
set_option maxRecDepth 100000 in
theorem lifted (os : Os) (started : os.Started) (H : Type) (enc : TypeId × Value → H) :
    ReturnsInHanded {} Try.checked os 3 .any (Rows.netMatchesReferenceSpec.pre6 enc Try.prog Try.f3 Rows.netMatchesReferenceRow.domain false) (Rows.netMatchesReferenceSpec.post enc Try.prog Try.f3 false true false false) := by
  refine returnsInHanded_of_change_sized (C := Try.checked) own started (by kernel_rfl) Try.func3
    (ChangeSpec.witness6 (enc := enc) (C := Try.checked) false ⟨#[], #[.slice none 0 0, .agg #[.int .i64 0, .int .i64 0, .int .i64 0], .agg #[.int .i64 0, .int .i64 0, .int .i64 0]], []⟩ 8 (by kernel_rfl) (by kernel_rfl) (by kernel_rfl) (by kernel_rfl)) ?_
  intro W base args ds gs before hval0 hW hcnd hsz0 _
  have hval : ∀ (j : Nat) t v, Try.f3.params[j]? = some t → args[j]? = some v → Value.okWide Try.prog W .any base t v := hval0
  have hW' := hW
  obtain ⟨p, q, hA0, hV, rfl, hfz, hnd⟩ := hW
  have hA : DataW.TrodAll enc Try.prog W 0 (fun _ => true) true Try.f3.params.toList args.toList ds p := hA0
  rw [show Try.f3.params = #[22, 23, 25] from by kernel_rfl] at hA hval
  obtain ⟨v0, vs0, d0, ds0, p0, q0, hargs, rfl, rfl, h0, r0⟩ := trodAll_cons hA
  obtain ⟨v1, vs1, d1, ds1, p1, q1, rfl, rfl, rfl, h1, r1⟩ := trodAll_cons r0
  obtain ⟨v2, vs2, d2, ds2, p2, q2, rfl, rfl, rfl, h2, r2⟩ := trodAll_cons r1
  obtain ⟨rfl, rfl, rfl⟩ := trodAll_nil r2
  obtain rfl : args = #[v0, v1, v2] := by cases args; simp_all
  obtain ⟨rfl, rfl⟩ := trodVars_none hV
  have lt0 : ∀ x ∈ p0, x.block < W.heap.size := by obtain ⟨m, hm⟩ := h0; exact DataW.trod_lt m _ _ _ hm
  obtain ⟨x0, rd0, ft0, ag0⟩ := Trod_reads 8 (by kernel_rfl) (hval 0 22 v0 rfl rfl) h0
  have lt1 : ∀ x ∈ p1, x.block < W.heap.size := by obtain ⟨m, hm⟩ := h1; exact DataW.trod_lt m _ _ _ hm
  obtain ⟨x1, rd1, ft1, ag1⟩ := Trod_reads 8 (by kernel_rfl) (hval 1 23 v1 rfl rfl) h1
  have lt2 : ∀ x ∈ p2, x.block < W.heap.size := by obtain ⟨m, hm⟩ := h2; exact DataW.trod_lt m _ _ _ hm
  obtain ⟨x2, rd2, ft2, ag2⟩ := Trod_reads 8 (by kernel_rfl) (hval 2 25 v2 rfl rfl) h2
  have hh := NetMatchesReference_has x0 x1 x2 ft0 ag0 ft1 ag1 ft2 ag2
  refine (hh.2 W (okW W) #[v0, v1, v2] (fun _ h => h) rfl ?_).mono fun e W' hx => ?_
  · intro i h1 h2
    rcases i with _ | i; exact rd0; rcases i with _ | i; exact rd1; rcases i with _ | i; exact rd2; simp at h1; omega
  · obtain ⟨v, he, hr, bel⟩ := hx
    subst he
    cases hr with
    | v _ =>
      exact ⟨_, rfl, _, _, _, [], _, [], hW', trodAll_mk1 (shut_bool (show Try.prog.underlying 4 = some .bool by kernel_rfl) _), (trodAll_cons_mk (Below.trod laidOut (by kernel_rfl) (of_decide_eq_true (by kernel_rfl)) h0 bel lt0) (trodAll_cons_mk (Below.trod laidOut (by kernel_rfl) (of_decide_eq_true (by kernel_rfl)) h1 bel lt1) (trodAll_cons_mk (Below.trod laidOut (by kernel_rfl) (of_decide_eq_true (by kernel_rfl)) h2 bel lt2) trodAll_mk0))), rfl, bel.frame _, fun h => by cases h⟩
theorem over : Rows.netMatchesReferenceRow.holds Try.pinned (OpenSpec.ofChange Rows.netMatchesReferenceSpec) :=
  OpenClaim.holds_of_wide 3 Try.f3 rfl rfl rfl rfl rfl rfl rfl ⟨rfl, rfl, rfl, rfl, rfl⟩ rfl rfl rfl rfl rfl (by kernel_rfl) Try.func3 (by kernel_rfl)
    (of_decide_eq_true (by kernel_rfl)) (by unfold Func.isWrapper; first | (rw [if_pos (by decide +kernel)]; kernel_rfl) | (rw [if_neg (by decide +kernel)]; exact ⟨rfl, rfl⟩))
    (fun os started H enc _ => lifted os started H enc)
theorem proved : Rows.NetMatchesReferenceSaid := over
#print axioms proved
end Go.Proofs.Ytnemmdbafngppaa.netMatchesReference
namespace Go.Proofs.Ytnemmdbafngppaa
/-- The row, under a short name, for the claim. -/
theorem netMatchesReference_holds : Rows.NetMatchesReferenceSaid := netMatchesReference.proved
end Go.Proofs.Ytnemmdbafngppaa

