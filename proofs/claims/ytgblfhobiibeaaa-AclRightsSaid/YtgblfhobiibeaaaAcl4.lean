/- Parts of this proof, one after the other; each says what it proves. No condition. -/
import Derived.Test.YtgblfhobiibeaaaMG
import Derived.Test.YtgblfhobiibeaaaME
import Derived.Test.YtgblfhobiibeaaaMD
import Derived.Test.YtgblfhobiibeaaaRows
import Derived.Test.YtgblfhobiibeaaaMC
import Derived.WalkKit
import Derived.ProofKit
import Derived.OpenShut
import Derived.ShutString
import Derived.ChangeOld
import Derived.Below
import Derived.Carry
import Derived.SizedLaws
/- Contracts of functions of this translation. Printed by wip/tools/gen.py out of wip/acl/ann.py. No condition. -/
set_option linter.unusedVariables false
set_option linter.unusedSimpArgs false
namespace Go.Proofs.Ytgblfhobiibeaaa.Acl
open Go.Proofs.Ytgblfhobiibeaaa.Abs
set_option maxRecDepth 100000
set_option maxHeartbeats 4000000
theorem C4 (m1 : List (Int × Int × Int)) (hb1 : ∀ x ∈ m1, (0 ≤ x.1 ∧ x.1 ≤ 255) ∧ (0 ≤ x.2.1 ∧ x.2.1 ≤ 255) ∧ (0 ≤ x.2.2 ∧ x.2.2 ≤ 255)) (w0 w1 w2 : Int) (g0 : 0 ≤ w0 ∧ w0 ≤ 255) (g1 : 0 ≤ w1 ∧ w1 ≤ 255) (g2 : 0 ≤ w2 ∧ w2 ≤ 255) (y0 y1 : Int) (q0 : 0 ≤ y0 ∧ y0 ≤ 255) (q1 : 0 ≤ y1 ∧ y1 ≤ 255) : Has Try.prog 4 [.slice 3 (m1.map encB), .agg [.u8 w0, .u8 w1, .u8 w2], .agg [.u8 y0, .u8 y1]] (.b true) := by   -- burgage/burgagelaw02.AclRights
  refine Exists.elim (show ∃ z, z = listA m1 from ⟨_, rfl⟩) (fun z hz => ?_)
  have hvz : VL z := hz ▸ listA_VL m1
  have hlz : z.length ≤ 12 := hz ▸ (listA_len m1).1
  refine Exists.elim (show ∃ e, e = ace (w0, w1, w2) from ⟨_, rfl⟩) (fun e he => ?_)
  have her : right e = true := he ▸ ace_right _
  have hrt : 0 ≤ e.rt ∧ e.rt ≤ 15 := by simp only [right, Bool.and_eq_true, decide_eq_true_eq] at her; omega
  have hrc : 1 ≤ e.rc ∧ e.rc ≤ 3 := by simp only [right, Bool.and_eq_true, decide_eq_true_eq] at her; omega
  refine Exists.elim (show ∃ who, who = y0 % 5 from ⟨_, rfl⟩) (fun who hwho => ?_)
  refine Exists.elim (show ∃ owner, owner = y1 % 5 from ⟨_, rfl⟩) (fun owner howner => ?_)
  have hrr := rights_range z who owner
  refine Has.intro 157 Try.func4 (by kernel_rfl) rfl rfl fun w ok => ?_
  refine AT.seq ?_
  refine AT.region ?_   -- region 0 law.go:56
  refine TrC.take rfl (step_box rfl rfl rfl rfl rfl rfl rfl) ?_   -- 0
  refine TrC.take rfl (step_box rfl rfl rfl rfl rfl rfl rfl) ?_   -- 1
  refine TrC.take rfl (step_assign rfl rfl rfl) ?_   -- 2
  refine TrC.done ?_
  refine AT.seq ?_
  refine AT.region ?_   -- region 1 law.go:57
  refine TrC.take rfl (step_call0 rfl rfl (C10) rfl) ?_   -- 0
  refine TrC.spell 17 rfl (bv (b := true) (rfl)) ?_
  refine TrC.take rfl (step_assign rfl rfl rfl) ?_   -- 1
  refine TrC.done ?_
  refine AT.seq ?_
  refine AT.regionD mixed rfl ?_   -- region 2 law.go:58
  refine TrC.take rfl (step_move rfl rfl rfl) ?_   -- 0
  refine TrC.take rfl (step_call0 rfl rfl ((C12 m1 hb1).eq (congrArg (fun l : List Ace => T.slice 5 (l.map encA)) hz.symm)) rfl) ?_   -- 1
  refine TrC.take rfl (step_loadPN rfl rfl rfl ty45 rfl rfl rfl) ?_   -- 2
  refine TrC.take rfl (step_call0 rfl rfl ((C29 w0 w1 w2 g0 g1 g2).eq (congrArg encA he.symm)) rfl) ?_   -- 3
  refine TrC.take rfl (step_alloc rfl rfl ze31 rfl rfl rfl) ?_   -- 4
  refine TrC.take rfl (step_assign rfl rfl rfl) ?_   -- 5
  refine TrC.take rfl (step_storeP rfl rfl rfl rfl rfl (.inl rfl) ty31 rfl rfl rfl) ?_   -- 6
  refine TrC.doneD rfl ?_
  refine AT.seq ?_
  refine AT.regionD mixed rfl ?_   -- region 3 law.go:59
  refine TrC.take rfl (step_indexAddrP rfl rfl rfl ar46 (by decide) (by decide) rfl) ?_   -- 0
  refine TrC.take rfl (step_loadP1 rfl rfl rfl ty5 rfl rfl) ?_   -- 1
  first | refine TrC.take rfl (step_remI rfl rfl rfl (by omega) (by first | omega | (simp; done) | (simp; omega)) rfl) ?_ | refine TrC.take rfl (step_bin rfl rfl rfl rfl rfl) ?_   -- 2
  refine TrC.take rfl (step_convI rfl rfl in5 in3 (by omega) (by omega) rfl) ?_   -- 3
  refine TrC.take rfl (step_indexAddrP rfl rfl rfl ar46 (by decide) (by decide) rfl) ?_   -- 4
  refine TrC.take rfl (step_loadP1 rfl rfl rfl ty5 rfl rfl) ?_   -- 5
  first | refine TrC.take rfl (step_remI rfl rfl rfl (by omega) (by first | omega | (simp; done) | (simp; omega)) rfl) ?_ | refine TrC.take rfl (step_bin rfl rfl rfl rfl rfl) ?_   -- 6
  refine TrC.take rfl (step_convI rfl rfl in5 in3 (by omega) (by omega) rfl) ?_   -- 7
  refine TrC.take rfl (step_assign rfl rfl rfl) ?_   -- 8
  refine TrC.take rfl (step_assign rfl rfl rfl) ?_   -- 9
  refine TrC.doneD rfl ?_
  refine AT.seq ?_
  refine AT.regionD mixed rfl ?_   -- region 4 law.go:60
  refine TrC.take rfl (step_buildSliceH rfl rfl sl22 ze31 rfl rfl rfl rfl rfl rfl rfl rfl rfl rfl rfl rfl rfl) ?_   -- 0
  refine TrC.take rfl (step_move rfl rfl rfl) ?_   -- 1
  refine TrC.take rfl (step_append rfl rfl rfl rfl rfl (.refl _) sl22 ze31 rfl rfl rfl (by first | (simp; done) | (simp; omega) | omega) rfl rfl) ?_   -- 2
  refine TrC.take rfl (step_loadPN rfl rfl rfl ty31 rfl rfl rfl) ?_   -- 3
  refine TrC.take rfl (step_buildSliceT rfl sl22 ze31 rfl rfl rfl rfl rfl rfl rfl rfl rfl rfl rfl rfl) ?_   -- 4
  refine TrC.take rfl (Step.toT (step_append rfl rfl rfl rfl rfl (.refl _) sl22 ze31 rfl rfl rfl (by first | (simp; done) | (simp; omega) | omega) rfl rfl) rfl) ?_   -- 5
  refine TrC.take rfl (step_loadPN rfl rfl rfl ty31 rfl rfl rfl) ?_   -- 6
  refine TrC.take rfl (step_buildSliceH rfl rfl sl22 ze31 rfl rfl rfl rfl rfl rfl rfl rfl rfl rfl rfl rfl rfl) ?_   -- 7
  refine TrC.take rfl (step_move rfl rfl rfl) ?_   -- 8
  refine TrC.take rfl (Step.toT (step_append rfl rfl rfl rfl rfl (.refl _) sl22 ze31 rfl rfl rfl (by first | (simp; done) | (simp; omega) | omega) rfl rfl) rfl) ?_   -- 9
  refine TrC.take rfl (step_assign rfl rfl rfl) ?_   -- 10
  refine TrC.take rfl (step_assign rfl rfl rfl) ?_   -- 11
  refine TrC.doneD rfl ?_
  refine AT.wk (sl := [(7, .t (.b true)), (8, .t (.slice 5 (z.map encA))), (9, .p 9 0), (10, .t (.i who)), (11, .t (.i owner)), (12, .t (.slice 5 ((z ++ [e]).map encA))), (13, .t (.slice 5 ((e :: z).map encA)))]) (ml := [(9, .box 31 [.t (.i e.who), .t (.b e.al), .t (.i e.rt), .t (.i e.rc), .t (.b e.gv)])]) [] (.cons (.t (.refl _)) (.cons (.t (.refl _)) (.cons (.p rfl) (.cons (.t (conv_i (hwho.symm))) (.cons (.t (conv_i (howner.symm))) (.cons (.t (conv_eq (by simp [encA]))) (.cons (.t (conv_eq (by simp [encA]))) (.nil)))))))) (.cons rfl (.box (.cons (.t (.refl _)) (.cons (.t (.refl _)) (.cons (.t (.refl _)) (.cons (.t (.refl _)) (.cons (.t (.refl _)) (.nil))))))) (.nil)) rfl rfl ?_
  refine AT.seq ?_
  refine AT.region ?_   -- region 5 law.go:61
  refine TrC.take rfl (step_move rfl rfl rfl) ?_   -- 0
  refine TrC.take rfl (step_move rfl rfl rfl) ?_   -- 1
  refine TrC.take rfl (step_move rfl rfl rfl) ?_   -- 2
  refine TrC.take rfl (step_call0 rfl rfl (C15 z who owner (by omega)) rfl) ?_   -- 3
  refine TrC.take rfl (step_move rfl rfl rfl) ?_   -- 4
  refine TrC.take rfl (step_move rfl rfl rfl) ?_   -- 5
  refine TrC.take rfl (step_move rfl rfl rfl) ?_   -- 6
  refine TrC.take rfl (step_call0 rfl rfl (C15 (z ++ [e]) who owner (by simp; omega)) rfl) ?_   -- 7
  refine TrC.take rfl (step_move rfl rfl rfl) ?_   -- 8
  refine TrC.take rfl (step_move rfl rfl rfl) ?_   -- 9
  refine TrC.take rfl (step_move rfl rfl rfl) ?_   -- 10
  refine TrC.take rfl (step_call0 rfl rfl (C15 (e :: z) who owner (by simp; omega)) rfl) ?_   -- 11
  refine TrC.take rfl (step_assign rfl rfl rfl) ?_   -- 12
  refine TrC.take rfl (step_assign rfl rfl rfl) ?_   -- 13
  refine TrC.take rfl (step_assign rfl rfl rfl) ?_   -- 14
  refine TrC.done ?_
  refine AT.seq ?_
  refine AT.seq ?_
  refine AT.region ?_   -- region 6 law.go:62
  refine TrC.take rfl (step_move rfl rfl rfl) ?_   -- 0
  refine TrC.take rfl (step_move rfl rfl rfl) ?_   -- 1
  refine TrC.take rfl (step_call0 rfl rfl (C15 z 0 owner (by omega)) rfl) ?_   -- 2
  refine TrC.take rfl (step_bin rfl rfl rfl rfl rfl) ?_   -- 3
  refine TrC.spell 55 rfl (bv (b := false) (by rw [rights_zero]; simp)) ?_
  refine TrC.take rfl (step_move rfl rfl rfl) ?_   -- 4
  refine TrC.take ⟨_, _, rfl, rfl, rfl⟩ (step_move rfl rfl rfl) ?_   -- 5
  refine TrC.take ⟨_, _, rfl, rfl, rfl⟩ (step_move rfl rfl rfl) ?_   -- 6
  refine TrC.take ⟨_, _, rfl, rfl, rfl⟩ (step_move rfl rfl rfl) ?_   -- 7
  refine TrC.take ⟨_, _, rfl, rfl, rfl⟩ (step_call0 rfl rfl (C15 z owner owner (by omega)) rfl) ?_   -- 8
  refine TrC.take ⟨_, _, rfl, rfl, rfl⟩ (step_bin rfl rfl rfl rfl rfl) ?_   -- 9
  refine TrC.take ⟨_, _, rfl, rfl, rfl⟩ (step_bin rfl rfl rfl rfl rfl) ?_   -- 10
  refine TrC.spell 62 rfl (bv (b := false) (dfalse (by show ¬ iAnd (rights z owner owner) 8 = 0; rw [and8 (.inr rfl)]; decide))) ?_
  refine TrC.take rfl (step_pick rfl rfl rfl rfl) ?_   -- 11
  refine TrC.take rfl (step_move rfl rfl rfl) ?_   -- 12
  refine TrC.take ⟨_, _, rfl, rfl, rfl⟩ (step_move rfl rfl rfl) ?_   -- 13
  refine TrC.take ⟨_, _, rfl, rfl, rfl⟩ (step_bin rfl rfl rfl rfl rfl) ?_   -- 14
  refine TrC.spell 66 rfl (bv (b := false) (by simp; omega)) ?_
  refine TrC.take rfl (step_pick rfl rfl rfl rfl) ?_   -- 15
  refine TrC.take rfl (step_move rfl rfl rfl) ?_   -- 16
  refine TrC.take ⟨_, _, rfl, rfl, rfl⟩ (step_move rfl rfl rfl) ?_   -- 17
  refine TrC.take ⟨_, _, rfl, rfl, rfl⟩ (step_bin rfl rfl rfl rfl rfl) ?_   -- 18
  refine TrC.spell 70 rfl (bv (b := false) (by simp; omega)) ?_
  refine TrC.take rfl (step_pick rfl rfl rfl rfl) ?_   -- 19
  refine TrC.done ?_
  refine AT.condF rfl ?_   -- t71
  refine AT.skip ?_
  refine AT.seq ?_
  refine AT.seq ?_
  refine AT.region ?_   -- region 8 law.go:65
  refine TrC.take rfl (step_move rfl rfl rfl) ?_   -- 0
  refine TrC.take rfl (step_bin rfl rfl rfl rfl rfl) ?_   -- 1
  refine TrC.take rfl (step_move rfl rfl rfl) ?_   -- 2
  refine TrC.cases (d := 74) rfl (fun h74 => ?_) (fun h74 => ?_)
  · -- t74 = true
    refine TrC.skip ⟨_, _, rfl, rfl, rfl⟩ ?_   -- 3
    refine TrC.skip ⟨_, _, rfl, rfl, rfl⟩ ?_   -- 4
    refine TrC.skip ⟨_, _, rfl, rfl, rfl⟩ ?_   -- 5
    refine TrC.take rfl (step_pick rfl rfl rfl rfl) ?_   -- 6
    refine TrC.done ?_
    refine AT.condT rfl ?_   -- t78
    refine AT.seq ?_
    have hw : who = 0 ∨ who = owner := by simp_all
    have h88 := and8 (l := z) hw
    refine AT.region ?_   -- region 9 law.go:66
    refine TrC.take rfl (step_move rfl rfl rfl) ?_   -- 0
    refine TrC.take rfl (step_bin rfl rfl rfl rfl rfl) ?_   -- 1
    refine TrC.take rfl (step_bin rfl rfl rfl rfl rfl) ?_   -- 2
    refine TrC.spell 81 rfl (bv (b := true) (dtrue h88)) ?_
    refine TrC.take rfl (step_move rfl rfl rfl) ?_   -- 3
    refine TrC.take ⟨_, _, rfl, rfl, rfl⟩ (step_move rfl rfl rfl) ?_   -- 4
    refine TrC.take rfl (step_pick rfl rfl rfl rfl) ?_   -- 5
    refine TrC.take rfl (step_assign rfl rfl rfl) ?_   -- 6
    refine TrC.done ?_
    refine AT.ret ?_
    exact Ret.one rfl (ResR.tmp rfl (conv_b rfl))
  · -- t74 = false
    refine TrC.take ⟨_, _, rfl, rfl, rfl⟩ (step_move rfl rfl rfl) ?_   -- 3
    refine TrC.take ⟨_, _, rfl, rfl, rfl⟩ (step_move rfl rfl rfl) ?_   -- 4
    refine TrC.take ⟨_, _, rfl, rfl, rfl⟩ (step_bin rfl rfl rfl rfl rfl) ?_   -- 5
    refine TrC.take rfl (step_pick rfl rfl rfl rfl) ?_   -- 6
    refine TrC.done ?_
    refine AT.cond rfl (fun h78 => ?_) (fun h78 => ?_)   -- t78
    · -- true
      refine AT.seq ?_
      have hw : who = 0 ∨ who = owner := by simp_all
      have h88 := and8 (l := z) hw
      refine AT.region ?_   -- region 9 law.go:66
      refine TrC.take rfl (step_move rfl rfl rfl) ?_   -- 0
      refine TrC.take rfl (step_bin rfl rfl rfl rfl rfl) ?_   -- 1
      refine TrC.take rfl (step_bin rfl rfl rfl rfl rfl) ?_   -- 2
      refine TrC.spell 81 rfl (bv (b := true) (dtrue h88)) ?_
      refine TrC.take rfl (step_move rfl rfl rfl) ?_   -- 3
      refine TrC.take ⟨_, _, rfl, rfl, rfl⟩ (step_move rfl rfl rfl) ?_   -- 4
      refine TrC.take rfl (step_pick rfl rfl rfl rfl) ?_   -- 5
      refine TrC.take rfl (step_assign rfl rfl rfl) ?_   -- 6
      refine TrC.done ?_
      refine AT.ret ?_
      exact Ret.one rfl (ResR.tmp rfl (conv_b rfl))
    · -- false
      refine AT.skip ?_
      refine AT.seq ?_
      refine AT.seq ?_
      have h0 : who ≠ 0 := by simp_all
      have ho : who ≠ owner := by simp_all
      have hk := last_keeps (z := z) (e := e) h0 ho
      refine AT.region ?_   -- region 10 law.go:68
      refine TrC.take rfl (step_move rfl rfl rfl) ?_   -- 0
      refine TrC.take rfl (step_move rfl rfl rfl) ?_   -- 1
      refine TrC.take rfl (step_bin rfl rfl rfl rfl rfl) ?_   -- 2
      refine TrC.take rfl (step_bin rfl rfl rfl rfl rfl) ?_   -- 3
      refine TrC.spell 88 rfl (bv (b := false) (by show (!decide (iAndNot (rights z who owner) (rights (z ++ [e]) who owner) = 0)) = false; rw [hk]; rfl)) ?_
      refine TrC.take rfl (step_move rfl rfl rfl) ?_   -- 4
      refine TrC.skip ⟨_, _, rfl, rfl, rfl⟩ ?_   -- 5
      refine TrC.skip ⟨_, _, rfl, rfl, rfl⟩ ?_   -- 6
      refine TrC.skip ⟨_, _, rfl, rfl, rfl⟩ ?_   -- 7
      refine TrC.skip ⟨_, _, rfl, rfl, rfl⟩ ?_   -- 8
      refine TrC.skip ⟨_, _, rfl, rfl, rfl⟩ ?_   -- 9
      refine TrC.skip ⟨_, _, rfl, rfl, rfl⟩ ?_   -- 10
      refine TrC.skip ⟨_, _, rfl, rfl, rfl⟩ ?_   -- 11
      refine TrC.skip ⟨_, _, rfl, rfl, rfl⟩ ?_   -- 12
      refine TrC.skip ⟨_, _, rfl, rfl, rfl⟩ ?_   -- 13
      refine TrC.skip ⟨_, _, rfl, rfl, rfl⟩ ?_   -- 14
      refine TrC.skip ⟨_, _, rfl, rfl, rfl⟩ ?_   -- 15
      refine TrC.take rfl (step_pick rfl rfl rfl rfl) ?_   -- 16
      refine TrC.take rfl (step_move rfl rfl rfl) ?_   -- 17
      refine TrC.take ⟨_, _, rfl, rfl, rfl⟩ (step_fieldAddrP rfl rfl fd31_1 rfl rfl) ?_   -- 18
      refine TrC.take ⟨_, _, rfl, rfl, rfl⟩ (step_loadP1 rfl rfl rfl ty4 rfl rfl) ?_   -- 19
      refine TrC.take ⟨_, _, rfl, rfl, rfl⟩ (step_not rfl rfl rfl) ?_   -- 20
      refine TrC.take ⟨_, _, rfl, rfl, rfl⟩ (step_move rfl rfl rfl) ?_   -- 21
      refine TrC.cases (d := 106) rfl (fun h106 => ?_) (fun h106 => ?_)
      · -- t106 = true
        refine TrC.take ⟨_, _, rfl, rfl, rfl⟩ (step_move rfl rfl rfl) ?_   -- 22
        refine TrC.take ⟨_, _, rfl, rfl, rfl⟩ (step_move rfl rfl rfl) ?_   -- 23
        refine TrC.take ⟨_, _, rfl, rfl, rfl⟩ (step_bin rfl rfl rfl rfl rfl) ?_   -- 24
        refine TrC.spell 109 rfl (bv (b := false) (by rw [last_deny h0 ho (by simpa using h106)]; simp)) ?_
        refine TrC.take ⟨_, _, rfl, rfl, rfl⟩ (step_pick rfl rfl rfl rfl) ?_   -- 25
        refine TrC.take rfl (step_pick rfl rfl rfl rfl) ?_   -- 26
        refine TrC.done ?_
        refine AT.condF rfl ?_   -- t111
        refine AT.skip ?_
        refine AT.seq ?_
        refine AT.seq ?_
        refine AT.region ?_   -- region 12 law.go:71
        refine TrC.take rfl (step_fieldAddrP rfl rfl fd31_3 rfl rfl) ?_   -- 0
        refine TrC.take rfl (step_loadP1 rfl rfl rfl ty3 rfl rfl) ?_   -- 1
        refine TrC.take rfl (step_bin rfl rfl rfl rfl rfl) ?_   -- 2
        refine TrC.take rfl (step_move rfl rfl rfl) ?_   -- 3
        refine TrC.cases (d := 115) rfl (fun h115 => ?_) (fun h115 => ?_)
        · -- t115 = true
          refine TrC.skip ⟨_, _, rfl, rfl, rfl⟩ ?_   -- 4
          refine TrC.skip ⟨_, _, rfl, rfl, rfl⟩ ?_   -- 5
          refine TrC.skip ⟨_, _, rfl, rfl, rfl⟩ ?_   -- 6
          refine TrC.skip ⟨_, _, rfl, rfl, rfl⟩ ?_   -- 7
          refine TrC.skip ⟨_, _, rfl, rfl, rfl⟩ ?_   -- 8
          refine TrC.skip ⟨_, _, rfl, rfl, rfl⟩ ?_   -- 9
          refine TrC.skip ⟨_, _, rfl, rfl, rfl⟩ ?_   -- 10
          refine TrC.skip ⟨_, _, rfl, rfl, rfl⟩ ?_   -- 11
          refine TrC.skip ⟨_, _, rfl, rfl, rfl⟩ ?_   -- 12
          refine TrC.take rfl (step_pick rfl rfl rfl rfl) ?_   -- 13
          refine TrC.done ?_
          refine AT.condT rfl ?_   -- t125
          refine AT.seq ?_
          have hnc : counts e who owner = false := by unfold counts; first | (simp_all; done) | (simp_all <;> omega)
          have hb1 := last_other (z := z) h0 ho hnc
          have hc1 := first_other (z := z) h0 ho hnc
          refine AT.region ?_   -- region 13 law.go:72
          refine TrC.take rfl (step_move rfl rfl rfl) ?_   -- 0
          refine TrC.take rfl (step_move rfl rfl rfl) ?_   -- 1
          refine TrC.take rfl (step_bin rfl rfl rfl rfl rfl) ?_   -- 2
          refine TrC.spell 128 rfl (bv (b := true) (dtrue hc1)) ?_
          refine TrC.take rfl (step_move rfl rfl rfl) ?_   -- 3
          refine TrC.take ⟨_, _, rfl, rfl, rfl⟩ (step_move rfl rfl rfl) ?_   -- 4
          refine TrC.take ⟨_, _, rfl, rfl, rfl⟩ (step_move rfl rfl rfl) ?_   -- 5
          refine TrC.take ⟨_, _, rfl, rfl, rfl⟩ (step_bin rfl rfl rfl rfl rfl) ?_   -- 6
          refine TrC.spell 132 rfl (bv (b := true) (dtrue hb1)) ?_
          refine TrC.take rfl (step_pick rfl rfl rfl rfl) ?_   -- 7
          refine TrC.take rfl (step_move rfl rfl rfl) ?_   -- 8
          refine TrC.take ⟨_, _, rfl, rfl, rfl⟩ (step_move rfl rfl rfl) ?_   -- 9
          refine TrC.take rfl (step_pick rfl rfl rfl rfl) ?_   -- 10
          refine TrC.take rfl (step_assign rfl rfl rfl) ?_   -- 11
          refine TrC.done ?_
          refine AT.ret ?_
          exact Ret.one rfl (ResR.tmp rfl (conv_b rfl))
        · -- t115 = false
          refine TrC.take ⟨_, _, rfl, rfl, rfl⟩ (step_fieldAddrP rfl rfl fd31_0 rfl rfl) ?_   -- 4
          refine TrC.take ⟨_, _, rfl, rfl, rfl⟩ (step_loadP1 rfl rfl rfl ty3 rfl rfl) ?_   -- 5
          refine TrC.take ⟨_, _, rfl, rfl, rfl⟩ (step_move rfl rfl rfl) ?_   -- 6
          refine TrC.take ⟨_, _, rfl, rfl, rfl⟩ (step_bin rfl rfl rfl rfl rfl) ?_   -- 7
          refine TrC.take ⟨_, _, rfl, rfl, rfl⟩ (step_move rfl rfl rfl) ?_   -- 8
          refine TrC.cases (d := 120) rfl (fun h120 => ?_) (fun h120 => ?_)
          · -- t120 = true
            refine TrC.take ⟨_, _, rfl, rfl, rfl⟩ (step_fieldAddrP rfl rfl fd31_0 rfl rfl) ?_   -- 9
            refine TrC.take ⟨_, _, rfl, rfl, rfl⟩ (step_loadP1 rfl rfl rfl ty3 rfl rfl) ?_   -- 10
            refine TrC.take ⟨_, _, rfl, rfl, rfl⟩ (step_bin rfl rfl rfl rfl rfl) ?_   -- 11
            refine TrC.take ⟨_, _, rfl, rfl, rfl⟩ (step_pick rfl rfl rfl rfl) ?_   -- 12
            refine TrC.take rfl (step_pick rfl rfl rfl rfl) ?_   -- 13
            refine TrC.done ?_
            refine AT.cond rfl (fun h125 => ?_) (fun h125 => ?_)   -- t125
            · -- true
              refine AT.seq ?_
              have hnc : counts e who owner = false := by unfold counts; first | (simp_all; done) | (simp_all <;> omega)
              have hb1 := last_other (z := z) h0 ho hnc
              have hc1 := first_other (z := z) h0 ho hnc
              refine AT.region ?_   -- region 13 law.go:72
              refine TrC.take rfl (step_move rfl rfl rfl) ?_   -- 0
              refine TrC.take rfl (step_move rfl rfl rfl) ?_   -- 1
              refine TrC.take rfl (step_bin rfl rfl rfl rfl rfl) ?_   -- 2
              refine TrC.spell 128 rfl (bv (b := true) (dtrue hc1)) ?_
              refine TrC.take rfl (step_move rfl rfl rfl) ?_   -- 3
              refine TrC.take ⟨_, _, rfl, rfl, rfl⟩ (step_move rfl rfl rfl) ?_   -- 4
              refine TrC.take ⟨_, _, rfl, rfl, rfl⟩ (step_move rfl rfl rfl) ?_   -- 5
              refine TrC.take ⟨_, _, rfl, rfl, rfl⟩ (step_bin rfl rfl rfl rfl rfl) ?_   -- 6
              refine TrC.spell 132 rfl (bv (b := true) (dtrue hb1)) ?_
              refine TrC.take rfl (step_pick rfl rfl rfl rfl) ?_   -- 7
              refine TrC.take rfl (step_move rfl rfl rfl) ?_   -- 8
              refine TrC.take ⟨_, _, rfl, rfl, rfl⟩ (step_move rfl rfl rfl) ?_   -- 9
              refine TrC.take rfl (step_pick rfl rfl rfl rfl) ?_   -- 10
              refine TrC.take rfl (step_assign rfl rfl rfl) ?_   -- 11
              refine TrC.done ?_
              refine AT.ret ?_
              exact Ret.one rfl (ResR.tmp rfl (conv_b rfl))
            · -- false
              refine AT.skip ?_
              refine AT.seq ?_
              refine AT.seq ?_
              have hyc : counts e who owner = true := by unfold counts; first | (simp_all; done) | (simp_all <;> omega)
              refine AT.region ?_   -- region 14 law.go:74
              refine TrC.take rfl (step_fieldAddrP rfl rfl fd31_1 rfl rfl) ?_   -- 0
              refine TrC.take rfl (step_loadP1 rfl rfl rfl ty4 rfl rfl) ?_   -- 1
              refine TrC.done ?_
              refine AT.cond rfl (fun h138 => ?_) (fun h138 => ?_)   -- t138
              · -- true
                refine AT.seq ?_
                refine AT.region ?_   -- region 15 law.go:75
                refine TrC.take rfl (step_move rfl rfl rfl) ?_   -- 0
                refine TrC.take rfl (step_move rfl rfl rfl) ?_   -- 1
                refine TrC.take rfl (step_fieldAddrP rfl rfl fd31_2 rfl rfl) ?_   -- 2
                refine TrC.take rfl (step_loadP1 rfl rfl rfl ty3 rfl rfl) ?_   -- 3
                refine TrC.take rfl (step_bin rfl rfl rfl rfl rfl) ?_   -- 4
                refine TrC.take rfl (step_bin rfl rfl rfl rfl rfl) ?_   -- 5
                refine TrC.spell 144 rfl (bv (b := true) (dtrue (first_allow h0 ho hyc (by simpa using h138) hrt))) ?_
                refine TrC.take rfl (step_move rfl rfl rfl) ?_   -- 6
                refine TrC.take ⟨_, _, rfl, rfl, rfl⟩ (step_move rfl rfl rfl) ?_   -- 7
                refine TrC.take rfl (step_pick rfl rfl rfl rfl) ?_   -- 8
                refine TrC.take rfl (step_assign rfl rfl rfl) ?_   -- 9
                refine TrC.done ?_
                refine AT.ret ?_
                exact Ret.one rfl (ResR.tmp rfl (conv_b rfl))
              · -- false
                refine AT.skip ?_
                refine AT.seq ?_
                refine AT.region ?_   -- region 16 law.go:77
                refine TrC.take rfl (step_move rfl rfl rfl) ?_   -- 0
                refine TrC.take rfl (step_move rfl rfl rfl) ?_   -- 1
                refine TrC.take rfl (step_fieldAddrP rfl rfl fd31_2 rfl rfl) ?_   -- 2
                refine TrC.take rfl (step_loadP1 rfl rfl rfl ty3 rfl rfl) ?_   -- 3
                refine TrC.take rfl (step_bin rfl rfl rfl rfl rfl) ?_   -- 4
                refine TrC.take rfl (step_bin rfl rfl rfl rfl rfl) ?_   -- 5
                refine TrC.spell 153 rfl (bv (b := true) (dtrue (first_deny h0 ho hyc (by simpa using h138) hrt))) ?_
                refine TrC.take rfl (step_move rfl rfl rfl) ?_   -- 6
                refine TrC.take ⟨_, _, rfl, rfl, rfl⟩ (step_move rfl rfl rfl) ?_   -- 7
                refine TrC.take rfl (step_pick rfl rfl rfl rfl) ?_   -- 8
                refine TrC.take rfl (step_assign rfl rfl rfl) ?_   -- 9
                refine TrC.done ?_
                refine AT.ret ?_
                exact Ret.one rfl (ResR.tmp rfl (conv_b rfl))
          · -- t120 = false
            refine TrC.skip ⟨_, _, rfl, rfl, rfl⟩ ?_   -- 9
            refine TrC.skip ⟨_, _, rfl, rfl, rfl⟩ ?_   -- 10
            refine TrC.skip ⟨_, _, rfl, rfl, rfl⟩ ?_   -- 11
            refine TrC.take ⟨_, _, rfl, rfl, rfl⟩ (step_pick rfl rfl rfl rfl) ?_   -- 12
            refine TrC.take rfl (step_pick rfl rfl rfl rfl) ?_   -- 13
            refine TrC.done ?_
            refine AT.condF rfl ?_   -- t125
            refine AT.skip ?_
            refine AT.seq ?_
            refine AT.seq ?_
            have hyc : counts e who owner = true := by unfold counts; first | (simp_all; done) | (simp_all <;> omega)
            refine AT.region ?_   -- region 14 law.go:74
            refine TrC.take rfl (step_fieldAddrP rfl rfl fd31_1 rfl rfl) ?_   -- 0
            refine TrC.take rfl (step_loadP1 rfl rfl rfl ty4 rfl rfl) ?_   -- 1
            refine TrC.done ?_
            refine AT.cond rfl (fun h138 => ?_) (fun h138 => ?_)   -- t138
            · -- true
              refine AT.seq ?_
              refine AT.region ?_   -- region 15 law.go:75
              refine TrC.take rfl (step_move rfl rfl rfl) ?_   -- 0
              refine TrC.take rfl (step_move rfl rfl rfl) ?_   -- 1
              refine TrC.take rfl (step_fieldAddrP rfl rfl fd31_2 rfl rfl) ?_   -- 2
              refine TrC.take rfl (step_loadP1 rfl rfl rfl ty3 rfl rfl) ?_   -- 3
              refine TrC.take rfl (step_bin rfl rfl rfl rfl rfl) ?_   -- 4
              refine TrC.take rfl (step_bin rfl rfl rfl rfl rfl) ?_   -- 5
              refine TrC.spell 144 rfl (bv (b := true) (dtrue (first_allow h0 ho hyc (by simpa using h138) hrt))) ?_
              refine TrC.take rfl (step_move rfl rfl rfl) ?_   -- 6
              refine TrC.take ⟨_, _, rfl, rfl, rfl⟩ (step_move rfl rfl rfl) ?_   -- 7
              refine TrC.take rfl (step_pick rfl rfl rfl rfl) ?_   -- 8
              refine TrC.take rfl (step_assign rfl rfl rfl) ?_   -- 9
              refine TrC.done ?_
              refine AT.ret ?_
              exact Ret.one rfl (ResR.tmp rfl (conv_b rfl))
            · -- false
              refine AT.skip ?_
              refine AT.seq ?_
              refine AT.region ?_   -- region 16 law.go:77
              refine TrC.take rfl (step_move rfl rfl rfl) ?_   -- 0
              refine TrC.take rfl (step_move rfl rfl rfl) ?_   -- 1
              refine TrC.take rfl (step_fieldAddrP rfl rfl fd31_2 rfl rfl) ?_   -- 2
              refine TrC.take rfl (step_loadP1 rfl rfl rfl ty3 rfl rfl) ?_   -- 3
              refine TrC.take rfl (step_bin rfl rfl rfl rfl rfl) ?_   -- 4
              refine TrC.take rfl (step_bin rfl rfl rfl rfl rfl) ?_   -- 5
              refine TrC.spell 153 rfl (bv (b := true) (dtrue (first_deny h0 ho hyc (by simpa using h138) hrt))) ?_
              refine TrC.take rfl (step_move rfl rfl rfl) ?_   -- 6
              refine TrC.take ⟨_, _, rfl, rfl, rfl⟩ (step_move rfl rfl rfl) ?_   -- 7
              refine TrC.take rfl (step_pick rfl rfl rfl rfl) ?_   -- 8
              refine TrC.take rfl (step_assign rfl rfl rfl) ?_   -- 9
              refine TrC.done ?_
              refine AT.ret ?_
              exact Ret.one rfl (ResR.tmp rfl (conv_b rfl))
      · -- t106 = false
        refine TrC.skip ⟨_, _, rfl, rfl, rfl⟩ ?_   -- 22
        refine TrC.skip ⟨_, _, rfl, rfl, rfl⟩ ?_   -- 23
        refine TrC.skip ⟨_, _, rfl, rfl, rfl⟩ ?_   -- 24
        refine TrC.take ⟨_, _, rfl, rfl, rfl⟩ (step_pick rfl rfl rfl rfl) ?_   -- 25
        refine TrC.take rfl (step_pick rfl rfl rfl rfl) ?_   -- 26
        refine TrC.done ?_
        refine AT.condF rfl ?_   -- t111
        refine AT.skip ?_
        refine AT.seq ?_
        refine AT.seq ?_
        refine AT.region ?_   -- region 12 law.go:71
        refine TrC.take rfl (step_fieldAddrP rfl rfl fd31_3 rfl rfl) ?_   -- 0
        refine TrC.take rfl (step_loadP1 rfl rfl rfl ty3 rfl rfl) ?_   -- 1
        refine TrC.take rfl (step_bin rfl rfl rfl rfl rfl) ?_   -- 2
        refine TrC.take rfl (step_move rfl rfl rfl) ?_   -- 3
        refine TrC.cases (d := 115) rfl (fun h115 => ?_) (fun h115 => ?_)
        · -- t115 = true
          refine TrC.skip ⟨_, _, rfl, rfl, rfl⟩ ?_   -- 4
          refine TrC.skip ⟨_, _, rfl, rfl, rfl⟩ ?_   -- 5
          refine TrC.skip ⟨_, _, rfl, rfl, rfl⟩ ?_   -- 6
          refine TrC.skip ⟨_, _, rfl, rfl, rfl⟩ ?_   -- 7
          refine TrC.skip ⟨_, _, rfl, rfl, rfl⟩ ?_   -- 8
          refine TrC.skip ⟨_, _, rfl, rfl, rfl⟩ ?_   -- 9
          refine TrC.skip ⟨_, _, rfl, rfl, rfl⟩ ?_   -- 10
          refine TrC.skip ⟨_, _, rfl, rfl, rfl⟩ ?_   -- 11
          refine TrC.skip ⟨_, _, rfl, rfl, rfl⟩ ?_   -- 12
          refine TrC.take rfl (step_pick rfl rfl rfl rfl) ?_   -- 13
          refine TrC.done ?_
          refine AT.condT rfl ?_   -- t125
          refine AT.seq ?_
          have hnc : counts e who owner = false := by unfold counts; first | (simp_all; done) | (simp_all <;> omega)
          have hb1 := last_other (z := z) h0 ho hnc
          have hc1 := first_other (z := z) h0 ho hnc
          refine AT.region ?_   -- region 13 law.go:72
          refine TrC.take rfl (step_move rfl rfl rfl) ?_   -- 0
          refine TrC.take rfl (step_move rfl rfl rfl) ?_   -- 1
          refine TrC.take rfl (step_bin rfl rfl rfl rfl rfl) ?_   -- 2
          refine TrC.spell 128 rfl (bv (b := true) (dtrue hc1)) ?_
          refine TrC.take rfl (step_move rfl rfl rfl) ?_   -- 3
          refine TrC.take ⟨_, _, rfl, rfl, rfl⟩ (step_move rfl rfl rfl) ?_   -- 4
          refine TrC.take ⟨_, _, rfl, rfl, rfl⟩ (step_move rfl rfl rfl) ?_   -- 5
          refine TrC.take ⟨_, _, rfl, rfl, rfl⟩ (step_bin rfl rfl rfl rfl rfl) ?_   -- 6
          refine TrC.spell 132 rfl (bv (b := true) (dtrue hb1)) ?_
          refine TrC.take rfl (step_pick rfl rfl rfl rfl) ?_   -- 7
          refine TrC.take rfl (step_move rfl rfl rfl) ?_   -- 8
          refine TrC.take ⟨_, _, rfl, rfl, rfl⟩ (step_move rfl rfl rfl) ?_   -- 9
          refine TrC.take rfl (step_pick rfl rfl rfl rfl) ?_   -- 10
          refine TrC.take rfl (step_assign rfl rfl rfl) ?_   -- 11
          refine TrC.done ?_
          refine AT.ret ?_
          exact Ret.one rfl (ResR.tmp rfl (conv_b rfl))
        · -- t115 = false
          refine TrC.take ⟨_, _, rfl, rfl, rfl⟩ (step_fieldAddrP rfl rfl fd31_0 rfl rfl) ?_   -- 4
          refine TrC.take ⟨_, _, rfl, rfl, rfl⟩ (step_loadP1 rfl rfl rfl ty3 rfl rfl) ?_   -- 5
          refine TrC.take ⟨_, _, rfl, rfl, rfl⟩ (step_move rfl rfl rfl) ?_   -- 6
          refine TrC.take ⟨_, _, rfl, rfl, rfl⟩ (step_bin rfl rfl rfl rfl rfl) ?_   -- 7
          refine TrC.take ⟨_, _, rfl, rfl, rfl⟩ (step_move rfl rfl rfl) ?_   -- 8
          refine TrC.cases (d := 120) rfl (fun h120 => ?_) (fun h120 => ?_)
          · -- t120 = true
            refine TrC.take ⟨_, _, rfl, rfl, rfl⟩ (step_fieldAddrP rfl rfl fd31_0 rfl rfl) ?_   -- 9
            refine TrC.take ⟨_, _, rfl, rfl, rfl⟩ (step_loadP1 rfl rfl rfl ty3 rfl rfl) ?_   -- 10
            refine TrC.take ⟨_, _, rfl, rfl, rfl⟩ (step_bin rfl rfl rfl rfl rfl) ?_   -- 11
            refine TrC.take ⟨_, _, rfl, rfl, rfl⟩ (step_pick rfl rfl rfl rfl) ?_   -- 12
            refine TrC.take rfl (step_pick rfl rfl rfl rfl) ?_   -- 13
            refine TrC.done ?_
            refine AT.cond rfl (fun h125 => ?_) (fun h125 => ?_)   -- t125
            · -- true
              refine AT.seq ?_
              have hnc : counts e who owner = false := by unfold counts; first | (simp_all; done) | (simp_all <;> omega)
              have hb1 := last_other (z := z) h0 ho hnc
              have hc1 := first_other (z := z) h0 ho hnc
              refine AT.region ?_   -- region 13 law.go:72
              refine TrC.take rfl (step_move rfl rfl rfl) ?_   -- 0
              refine TrC.take rfl (step_move rfl rfl rfl) ?_   -- 1
              refine TrC.take rfl (step_bin rfl rfl rfl rfl rfl) ?_   -- 2
              refine TrC.spell 128 rfl (bv (b := true) (dtrue hc1)) ?_
              refine TrC.take rfl (step_move rfl rfl rfl) ?_   -- 3
              refine TrC.take ⟨_, _, rfl, rfl, rfl⟩ (step_move rfl rfl rfl) ?_   -- 4
              refine TrC.take ⟨_, _, rfl, rfl, rfl⟩ (step_move rfl rfl rfl) ?_   -- 5
              refine TrC.take ⟨_, _, rfl, rfl, rfl⟩ (step_bin rfl rfl rfl rfl rfl) ?_   -- 6
              refine TrC.spell 132 rfl (bv (b := true) (dtrue hb1)) ?_
              refine TrC.take rfl (step_pick rfl rfl rfl rfl) ?_   -- 7
              refine TrC.take rfl (step_move rfl rfl rfl) ?_   -- 8
              refine TrC.take ⟨_, _, rfl, rfl, rfl⟩ (step_move rfl rfl rfl) ?_   -- 9
              refine TrC.take rfl (step_pick rfl rfl rfl rfl) ?_   -- 10
              refine TrC.take rfl (step_assign rfl rfl rfl) ?_   -- 11
              refine TrC.done ?_
              refine AT.ret ?_
              exact Ret.one rfl (ResR.tmp rfl (conv_b rfl))
            · -- false
              refine AT.skip ?_
              refine AT.seq ?_
              refine AT.seq ?_
              have hyc : counts e who owner = true := by unfold counts; first | (simp_all; done) | (simp_all <;> omega)
              refine AT.region ?_   -- region 14 law.go:74
              refine TrC.take rfl (step_fieldAddrP rfl rfl fd31_1 rfl rfl) ?_   -- 0
              refine TrC.take rfl (step_loadP1 rfl rfl rfl ty4 rfl rfl) ?_   -- 1
              refine TrC.done ?_
              refine AT.cond rfl (fun h138 => ?_) (fun h138 => ?_)   -- t138
              · -- true
                refine AT.seq ?_
                refine AT.region ?_   -- region 15 law.go:75
                refine TrC.take rfl (step_move rfl rfl rfl) ?_   -- 0
                refine TrC.take rfl (step_move rfl rfl rfl) ?_   -- 1
                refine TrC.take rfl (step_fieldAddrP rfl rfl fd31_2 rfl rfl) ?_   -- 2
                refine TrC.take rfl (step_loadP1 rfl rfl rfl ty3 rfl rfl) ?_   -- 3
                refine TrC.take rfl (step_bin rfl rfl rfl rfl rfl) ?_   -- 4
                refine TrC.take rfl (step_bin rfl rfl rfl rfl rfl) ?_   -- 5
                refine TrC.spell 144 rfl (bv (b := true) (dtrue (first_allow h0 ho hyc (by simpa using h138) hrt))) ?_
                refine TrC.take rfl (step_move rfl rfl rfl) ?_   -- 6
                refine TrC.take ⟨_, _, rfl, rfl, rfl⟩ (step_move rfl rfl rfl) ?_   -- 7
                refine TrC.take rfl (step_pick rfl rfl rfl rfl) ?_   -- 8
                refine TrC.take rfl (step_assign rfl rfl rfl) ?_   -- 9
                refine TrC.done ?_
                refine AT.ret ?_
                exact Ret.one rfl (ResR.tmp rfl (conv_b rfl))
              · -- false
                refine AT.skip ?_
                refine AT.seq ?_
                refine AT.region ?_   -- region 16 law.go:77
                refine TrC.take rfl (step_move rfl rfl rfl) ?_   -- 0
                refine TrC.take rfl (step_move rfl rfl rfl) ?_   -- 1
                refine TrC.take rfl (step_fieldAddrP rfl rfl fd31_2 rfl rfl) ?_   -- 2
                refine TrC.take rfl (step_loadP1 rfl rfl rfl ty3 rfl rfl) ?_   -- 3
                refine TrC.take rfl (step_bin rfl rfl rfl rfl rfl) ?_   -- 4
                refine TrC.take rfl (step_bin rfl rfl rfl rfl rfl) ?_   -- 5
                refine TrC.spell 153 rfl (bv (b := true) (dtrue (first_deny h0 ho hyc (by simpa using h138) hrt))) ?_
                refine TrC.take rfl (step_move rfl rfl rfl) ?_   -- 6
                refine TrC.take ⟨_, _, rfl, rfl, rfl⟩ (step_move rfl rfl rfl) ?_   -- 7
                refine TrC.take rfl (step_pick rfl rfl rfl rfl) ?_   -- 8
                refine TrC.take rfl (step_assign rfl rfl rfl) ?_   -- 9
                refine TrC.done ?_
                refine AT.ret ?_
                exact Ret.one rfl (ResR.tmp rfl (conv_b rfl))
          · -- t120 = false
            refine TrC.skip ⟨_, _, rfl, rfl, rfl⟩ ?_   -- 9
            refine TrC.skip ⟨_, _, rfl, rfl, rfl⟩ ?_   -- 10
            refine TrC.skip ⟨_, _, rfl, rfl, rfl⟩ ?_   -- 11
            refine TrC.take ⟨_, _, rfl, rfl, rfl⟩ (step_pick rfl rfl rfl rfl) ?_   -- 12
            refine TrC.take rfl (step_pick rfl rfl rfl rfl) ?_   -- 13
            refine TrC.done ?_
            refine AT.condF rfl ?_   -- t125
            refine AT.skip ?_
            refine AT.seq ?_
            refine AT.seq ?_
            have hyc : counts e who owner = true := by unfold counts; first | (simp_all; done) | (simp_all <;> omega)
            refine AT.region ?_   -- region 14 law.go:74
            refine TrC.take rfl (step_fieldAddrP rfl rfl fd31_1 rfl rfl) ?_   -- 0
            refine TrC.take rfl (step_loadP1 rfl rfl rfl ty4 rfl rfl) ?_   -- 1
            refine TrC.done ?_
            refine AT.cond rfl (fun h138 => ?_) (fun h138 => ?_)   -- t138
            · -- true
              refine AT.seq ?_
              refine AT.region ?_   -- region 15 law.go:75
              refine TrC.take rfl (step_move rfl rfl rfl) ?_   -- 0
              refine TrC.take rfl (step_move rfl rfl rfl) ?_   -- 1
              refine TrC.take rfl (step_fieldAddrP rfl rfl fd31_2 rfl rfl) ?_   -- 2
              refine TrC.take rfl (step_loadP1 rfl rfl rfl ty3 rfl rfl) ?_   -- 3
              refine TrC.take rfl (step_bin rfl rfl rfl rfl rfl) ?_   -- 4
              refine TrC.take rfl (step_bin rfl rfl rfl rfl rfl) ?_   -- 5
              refine TrC.spell 144 rfl (bv (b := true) (dtrue (first_allow h0 ho hyc (by simpa using h138) hrt))) ?_
              refine TrC.take rfl (step_move rfl rfl rfl) ?_   -- 6
              refine TrC.take ⟨_, _, rfl, rfl, rfl⟩ (step_move rfl rfl rfl) ?_   -- 7
              refine TrC.take rfl (step_pick rfl rfl rfl rfl) ?_   -- 8
              refine TrC.take rfl (step_assign rfl rfl rfl) ?_   -- 9
              refine TrC.done ?_
              refine AT.ret ?_
              exact Ret.one rfl (ResR.tmp rfl (conv_b rfl))
            · -- false
              refine AT.skip ?_
              refine AT.seq ?_
              refine AT.region ?_   -- region 16 law.go:77
              refine TrC.take rfl (step_move rfl rfl rfl) ?_   -- 0
              refine TrC.take rfl (step_move rfl rfl rfl) ?_   -- 1
              refine TrC.take rfl (step_fieldAddrP rfl rfl fd31_2 rfl rfl) ?_   -- 2
              refine TrC.take rfl (step_loadP1 rfl rfl rfl ty3 rfl rfl) ?_   -- 3
              refine TrC.take rfl (step_bin rfl rfl rfl rfl rfl) ?_   -- 4
              refine TrC.take rfl (step_bin rfl rfl rfl rfl rfl) ?_   -- 5
              refine TrC.spell 153 rfl (bv (b := true) (dtrue (first_deny h0 ho hyc (by simpa using h138) hrt))) ?_
              refine TrC.take rfl (step_move rfl rfl rfl) ?_   -- 6
              refine TrC.take ⟨_, _, rfl, rfl, rfl⟩ (step_move rfl rfl rfl) ?_   -- 7
              refine TrC.take rfl (step_pick rfl rfl rfl rfl) ?_   -- 8
              refine TrC.take rfl (step_assign rfl rfl rfl) ?_   -- 9
              refine TrC.done ?_
              refine AT.ret ?_
              exact Ret.one rfl (ResR.tmp rfl (conv_b rfl))

end Go.Proofs.Ytgblfhobiibeaaa.Acl

/- AclRights: from the function's contract to arguments as they come. No condition. -/
set_option linter.unusedVariables false
namespace Go.Proofs.Ytgblfhobiibeaaa.aclRights
open Go.Proofs.Ytgblfhobiibeaaa.Abs Go.Proofs.Ytgblfhobiibeaaa.Acl Go.RowKit
theorem AclRights_has (x0 x1 x2 : T) (f0 : Fits Try.prog 23 x0.cells) (a0 : (∃ l, x0 = .agg l) ↔ (partsOf Try.prog 23).isSome = true) (f1 : Fits Try.prog 45 x1.cells) (a1 : (∃ l, x1 = .agg l) ↔ (partsOf Try.prog 45).isSome = true) (f2 : Fits Try.prog 46 x2.cells) (a2 : (∃ l, x2 = .agg l) ↔ (partsOf Try.prog 46).isSome = true) : Has Try.prog 4 [x0, x1, x2] (.b true) := by
  obtain ⟨m1, rfl, hb1⟩ := fitB3 f0 a0 (e := 45) (by kernel_rfl) (by kernel_rfl) (by kernel_rfl)
  obtain ⟨ns, g1, rfl, g3⟩ := flatV (k := .u8) (n := 3) f1 a1 (by kernel_rfl)
  obtain ⟨w0, w1, w2, rfl⟩ := list_three g1
  obtain ⟨ns, j1, rfl, j3⟩ := flatV (k := .u8) (n := 2) f2 a2 (by kernel_rfl)
  obtain ⟨y0, y1, rfl⟩ := list_two j1
  exact C4 m1 hb1 w0 w1 w2 (g3 w0 (by simp)) (g3 w1 (by simp)) (g3 w2 (by simp)) y0 y1 (j3 y0 (by simp)) (j3 y1 (by simp))
end Go.Proofs.Ytgblfhobiibeaaa.aclRights

/- The statement AclRightsSaid is proved here: the law's function returns true for all its arguments and panics for none. No condition. -/
namespace Go.Proofs.Ytgblfhobiibeaaa.aclRights
open Go.ChangeShapes Go.WideShapes Go.ChangeAt Go.RowKit
open Go.Proofs.Ytgblfhobiibeaaa.Abs
set_option linter.unusedVariables false
theorem own : ownKnob Try.prog.godebug = none := by kernel_rfl
theorem laidOut : laidOutB Try.prog = true := by kernel_rfl
set_option maxRecDepth 100000 in
theorem lifted (os : Os) (started : os.Started) (H : Type) (enc : TypeId × Value → H) :
    ReturnsInHanded {} Try.checked os 4 .any (Rows.aclRightsSpec.pre6 enc Try.prog Try.f4 Rows.aclRightsRow.domain false) (Rows.aclRightsSpec.post enc Try.prog Try.f4 false true false false) := by
  refine returnsInHanded_of_change_sized (C := Try.checked) own started (by kernel_rfl) Try.func4
    (ChangeSpec.witness6 (enc := enc) (C := Try.checked) false ⟨#[], #[.slice none 0 0, .agg #[.int .u8 0, .int .u8 0, .int .u8 0], .agg #[.int .u8 0, .int .u8 0]], []⟩ 8 (by kernel_rfl) (by kernel_rfl) (by kernel_rfl) (by kernel_rfl)) ?_
  intro W base args ds gs before hval0 hW hcnd hsz0 _
  have hval : ∀ (j : Nat) t v, Try.f4.params[j]? = some t → args[j]? = some v → Value.okWide Try.prog W .any base t v := hval0
  have hW' := hW
  obtain ⟨p, q, hA0, hV, rfl, hfz, hnd⟩ := hW
  have hA : DataW.TrodAll enc Try.prog W 0 (fun _ => true) true Try.f4.params.toList args.toList ds p := hA0
  rw [show Try.f4.params = #[23, 45, 46] from by kernel_rfl] at hA hval
  obtain ⟨v0, vs0, d0, ds0, p0, q0, hargs, rfl, rfl, h0, r0⟩ := trodAll_cons hA
  obtain ⟨v1, vs1, d1, ds1, p1, q1, rfl, rfl, rfl, h1, r1⟩ := trodAll_cons r0
  obtain ⟨v2, vs2, d2, ds2, p2, q2, rfl, rfl, rfl, h2, r2⟩ := trodAll_cons r1
  obtain ⟨rfl, rfl, rfl⟩ := trodAll_nil r2
  obtain rfl : args = #[v0, v1, v2] := by cases args; simp_all
  obtain ⟨rfl, rfl⟩ := trodVars_none hV
  have lt0 : ∀ x ∈ p0, x.block < W.heap.size := by obtain ⟨m, hm⟩ := h0; exact DataW.trod_lt m _ _ _ hm
  obtain ⟨x0, rd0, ft0, ag0⟩ := Trod_reads 8 (by kernel_rfl) (hval 0 23 v0 rfl rfl) h0
  have lt1 : ∀ x ∈ p1, x.block < W.heap.size := by obtain ⟨m, hm⟩ := h1; exact DataW.trod_lt m _ _ _ hm
  obtain ⟨x1, rd1, ft1, ag1⟩ := Trod_reads 8 (by kernel_rfl) (hval 1 45 v1 rfl rfl) h1
  have lt2 : ∀ x ∈ p2, x.block < W.heap.size := by obtain ⟨m, hm⟩ := h2; exact DataW.trod_lt m _ _ _ hm
  obtain ⟨x2, rd2, ft2, ag2⟩ := Trod_reads 8 (by kernel_rfl) (hval 2 46 v2 rfl rfl) h2
  have hh := AclRights_has x0 x1 x2 ft0 ag0 ft1 ag1 ft2 ag2
  refine (hh.2 W (okW W) #[v0, v1, v2] (fun _ h => h) rfl ?_).mono fun e W' hx => ?_
  · intro i h1 h2
    rcases i with _ | i; exact rd0; rcases i with _ | i; exact rd1; rcases i with _ | i; exact rd2; simp at h1 <;> omega
  · obtain ⟨v, he, hr, bel⟩ := hx
    subst he
    cases hr with
    | v _ =>
      exact ⟨_, rfl, _, _, _, [], _, [], hW', trodAll_mk1 (shut_bool (show Try.prog.underlying 4 = some .bool by kernel_rfl) _), (trodAll_cons_mk (Below.trod laidOut (by kernel_rfl) (of_decide_eq_true (by kernel_rfl)) h0 bel lt0) (trodAll_cons_mk (Below.trod laidOut (by kernel_rfl) (of_decide_eq_true (by kernel_rfl)) h1 bel lt1) (trodAll_cons_mk (Below.trod laidOut (by kernel_rfl) (of_decide_eq_true (by kernel_rfl)) h2 bel lt2) trodAll_mk0))), rfl, bel.frame _, fun h => by cases h⟩
theorem over : Rows.aclRightsRow.holds Try.pinned (OpenSpec.ofChange Rows.aclRightsSpec) :=
  OpenClaim.holds_of_wide 4 Try.f4 rfl rfl rfl rfl rfl rfl rfl ⟨rfl, rfl, rfl, rfl, rfl⟩ rfl rfl rfl rfl rfl (by kernel_rfl) Try.func4 (by kernel_rfl)
    (of_decide_eq_true (by kernel_rfl)) (by unfold Func.isWrapper; first | (rw [if_pos (by decide +kernel)]; kernel_rfl) | (rw [if_neg (by decide +kernel)]; exact ⟨rfl, rfl⟩))
    (fun os started H enc _ => lifted os started H enc)
theorem proved : Rows.AclRightsSaid := over
#print axioms proved
end Go.Proofs.Ytgblfhobiibeaaa.aclRights
namespace Go.Proofs.Ytgblfhobiibeaaa
/-- The row, under a short name, for the claim. -/
theorem aclRights_holds : Rows.AclRightsSaid := aclRights.proved
end Go.Proofs.Ytgblfhobiibeaaa

