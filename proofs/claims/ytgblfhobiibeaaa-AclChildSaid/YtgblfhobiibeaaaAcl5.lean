/- Parts of this proof, one after the other; each says what it proves. No condition. -/
import Derived.Test.YtgblfhobiibeaaaMG
import Derived.Test.YtgblfhobiibeaaaME
import Derived.Test.YtgblfhobiibeaaaMD
import Derived.Test.YtgblfhobiibeaaaRows
import Derived.Test.YtgblfhobiibeaaaMC
import Derived.WalkKit
import Derived.ProofKit
import Derived.OpenShut
import Derived.ShutString
import Derived.ChangeOld
import Derived.Below
import Derived.Carry
import Derived.SizedLaws
/- Contracts of functions of this translation. Printed by wip/tools/gen.py out of wip/acl/ann.py. No condition. -/
set_option linter.unusedVariables false
set_option linter.unusedSimpArgs false
namespace Go.Proofs.Ytgblfhobiibeaaa.Acl
open Go.Proofs.Ytgblfhobiibeaaa.Abs
set_option maxRecDepth 100000
set_option maxHeartbeats 4000000
theorem C5 (m1 : List (Int × Int × Int)) (hb1 : ∀ x ∈ m1, (0 ≤ x.1 ∧ x.1 ≤ 255) ∧ (0 ≤ x.2.1 ∧ x.2.1 ≤ 255) ∧ (0 ≤ x.2.2 ∧ x.2.2 ≤ 255)) (d : Bool) : Has Try.prog 5 [.slice 3 (m1.map encB), .b d] (.b true) := by   -- burgage/burgagelaw02.AclChild
  refine Exists.elim (show ∃ z, z = listA m1 from ⟨_, rfl⟩) (fun z hz => ?_)
  have hvz : VL z := hz ▸ listA_VL m1
  have hlz : z.length ≤ 12 := hz ▸ (listA_len m1).1
  refine Exists.elim (show ∃ c, c = child z d from ⟨_, rfl⟩) (fun c hc => ?_)
  have hcl : c.length ≤ z.length := hc ▸ child_len z d
  have hcv : VL c := hc ▸ child_VL hvz d
  have hcg : ∀ a ∈ c, a.gv = true := hc ▸ child_gv z d
  have hcr : ∀ a ∈ c, a.rc = rcOf d := fun a ha => (child_ok hvz d a (hc ▸ ha)).2
  have hcvv : valid c = true := (valid_VL c).2 hcv
  have hct := child_len z true
  refine Has.intro 179 Try.func5 (by kernel_rfl) rfl rfl fun w ok => ?_
  refine AT.seq ?_
  refine AT.region ?_   -- region 0 law.go:81
  refine TrC.take rfl (step_assign rfl rfl rfl) ?_   -- 0
  refine TrC.done ?_
  refine AT.seq ?_
  refine AT.region ?_   -- region 1 law.go:82
  refine TrC.take rfl (step_call0 rfl rfl (C10) rfl) ?_   -- 0
  refine TrC.spell 13 rfl (bv (b := true) (rfl)) ?_
  refine TrC.take rfl (step_assign rfl rfl rfl) ?_   -- 1
  refine TrC.done ?_
  refine AT.seq ?_
  refine AT.region ?_   -- region 2 law.go:83
  refine TrC.take rfl (step_move rfl rfl rfl) ?_   -- 0
  refine TrC.take rfl (step_call0 rfl rfl ((C12 m1 hb1).eq (congrArg (fun l : List Ace => T.slice 5 (l.map encA)) hz.symm)) rfl) ?_   -- 1
  refine TrC.take rfl (step_assign rfl rfl rfl) ?_   -- 2
  refine TrC.done ?_
  refine AT.seq ?_
  refine AT.region ?_   -- region 3 law.go:84
  refine TrC.take rfl (step_move rfl rfl rfl) ?_   -- 0
  refine TrC.take rfl (step_move rfl rfl rfl) ?_   -- 1
  refine TrC.take rfl (step_call0 rfl rfl ((C21 z d (by omega)).eq (congrArg (fun l : List Ace => T.slice 5 (l.map encA)) hc.symm)) rfl) ?_   -- 2
  refine TrC.take rfl (step_assign rfl rfl rfl) ?_   -- 3
  refine TrC.done ?_
  refine AT.seq ?_
  refine AT.seq ?_
  refine AT.region ?_   -- region 4 law.go:85
  refine TrC.take rfl (step_move rfl rfl rfl) ?_   -- 0
  refine TrC.take rfl (step_lenT (rt := 0) rfl rfl sl22 rfl) ?_   -- 1
  refine TrC.take rfl (step_move rfl rfl rfl) ?_   -- 2
  refine TrC.take rfl (step_lenT (rt := 0) rfl rfl sl22 rfl) ?_   -- 3
  refine TrC.take rfl (step_bin rfl rfl rfl rfl rfl) ?_   -- 4
  refine TrC.spell 23 rfl (bv (b := false) (by simp; omega)) ?_
  refine TrC.take rfl (step_move rfl rfl rfl) ?_   -- 5
  refine TrC.take ⟨_, _, rfl, rfl, rfl⟩ (step_move rfl rfl rfl) ?_   -- 6
  refine TrC.take ⟨_, _, rfl, rfl, rfl⟩ (step_call0 rfl rfl (C13 c (by omega)) rfl) ?_   -- 7
  refine TrC.spell 26 rfl (bv (b := true) (hcvv)) ?_
  refine TrC.take ⟨_, _, rfl, rfl, rfl⟩ (step_not rfl rfl rfl) ?_   -- 8
  refine TrC.take rfl (step_pick rfl rfl rfl rfl) ?_   -- 9
  refine TrC.done ?_
  refine AT.condF rfl ?_   -- t28
  refine AT.skip ?_
  refine AT.seq ?_
  refine AT.region ?_   -- region 6 law.go:88
  refine TrC.take rfl (step_buildA rfl ze49 rfl ar49 rfl rfl rfl rfl) ?_   -- 0
  refine TrC.take rfl (step_buildA rfl ze49 rfl ar49 rfl rfl rfl rfl) ?_   -- 1
  refine TrC.take rfl (step_alloc rfl rfl ze49 rfl rfl rfl) ?_   -- 2
  refine TrC.take rfl (step_alloc rfl rfl ze49 rfl rfl rfl) ?_   -- 3
  refine TrC.take rfl (step_assign rfl rfl rfl) ?_   -- 4
  refine TrC.take rfl (step_storeP rfl rfl rfl rfl rfl (.inl rfl) ty49 rfl rfl rfl) ?_   -- 5
  refine TrC.take rfl (step_storeP rfl rfl rfl rfl rfl (.inl rfl) ty49 rfl rfl rfl) ?_   -- 6
  refine TrC.done ?_
  refine AT.seqJ (mkS [(1, .t (.b d)), (5, .t (.b true)), (6, .t (.slice 5 (z.map encA))), (7, .t (.slice 5 (c.map encA))), (8, .t (.i (rcOf d))), (9, .p 9 0), (10, .p 10 0)] [(9, .box 49 [.t (.i (0)), .t (.i (0))]), (10, .box 49 [.t (.i (0)), .t (.i (0))])]) ?_ ?_
  ·
    refine AT.seq ?_
    refine AT.region ?_   -- region 7 law.go:89
    refine TrC.take rfl (step_move rfl rfl rfl) ?_   -- 0
    refine TrC.done ?_
    refine AT.cond rfl (fun h31 => ?_) (fun h31 => ?_)   -- t31
    · -- true
      refine AT.region ?_   -- region 8 law.go:90
      refine TrC.take rfl (step_assign rfl rfl rfl) ?_   -- 0
      refine TrC.done ?_
      exact Sat.wk [] (.cons (.t (.refl _)) (.cons (.t (.refl _)) (.cons (.t (.refl _)) (.cons (.t (.refl _)) (.cons (.t (conv_i (by first | (simp_all [rcOf]; done) | rfl))) (.cons (.p rfl) (.cons (.p rfl) (.nil)))))))) (.cons rfl (.box (.cons (.t (.refl _)) (.cons (.t (.refl _)) (.nil)))) (.cons rfl (.box (.cons (.t (.refl _)) (.cons (.t (.refl _)) (.nil)))) (.nil))) rfl rfl
    · -- false
      refine AT.skip ?_
      exact Sat.wk [] (.cons (.t (.refl _)) (.cons (.t (.refl _)) (.cons (.t (.refl _)) (.cons (.t (.refl _)) (.cons (.t (conv_i (by first | (simp_all [rcOf]; done) | rfl))) (.cons (.p rfl) (.cons (.p rfl) (.nil)))))))) (.cons rfl (.box (.cons (.t (.refl _)) (.cons (.t (.refl _)) (.nil)))) (.cons rfl (.box (.cons (.t (.refl _)) (.cons (.t (.refl _)) (.nil)))) (.nil))) rfl rfl
  ·
    refine AT.seq ?_
    refine AT.seq ?_
    refine AT.region ?_   -- region 9 law.go:92
    refine TrC.take rfl (step_assign rfl rfl rfl) ?_   -- 0
    refine TrC.done ?_
    refine AT.block ?_   -- block 0
    refine AT.loopP (fun i : Nat => i ≤ c.length) (fun i => mkS [(1, .t (.b d)), (5, .t (.b true)), (6, .t (.slice 5 (z.map encA))), (7, .t (.slice 5 (c.map encA))), (8, .t (.i (rcOf d))), (9, .p 9 0), (10, .p 10 0), (11, .t (.i i))] [(9, .box 49 [.t (.i (orS (pWA (-1) true) (c.take i))), .t (.i (orS (pWA 1 false) (c.take i)))]), (10, .box 49 [.t (.i (0)), .t (.i (0))])]) (fun i => c.length - i) (0) (Nat.zero_le _) (fun a w hs => Sat.wk [] (.cons (.t (.refl _)) (.cons (.t (.refl _)) (.cons (.t (.refl _)) (.cons (.t (.refl _)) (.cons (.t (.refl _)) (.cons (.p rfl) (.cons (.p rfl) (.cons (.t (.refl _)) (.nil))))))))) (.cons rfl (.box (.cons (.t (.refl _)) (.cons (.t (.refl _)) (.nil)))) (.cons rfl (.box (.cons (.t (.refl _)) (.cons (.t (.refl _)) (.nil)))) (.nil))) rfl rfl a w hs) (fun i hi => ?_)
    refine AT.seq ?_
    refine AT.seq ?_
    refine AT.region ?_   -- region 10 law.go:92
    refine TrC.take rfl (step_move rfl rfl rfl) ?_   -- 0
    refine TrC.take rfl (step_move rfl rfl rfl) ?_   -- 1
    refine TrC.take rfl (step_lenT (rt := 0) rfl rfl sl22 rfl) ?_   -- 2
    refine TrC.take rfl (step_bin rfl rfl rfl rfl rfl) ?_   -- 3
    refine TrC.done ?_
    refine AT.cond rfl (fun h35 => ?_) (fun h35 => ?_)   -- t35
    · -- true
      have hlt : i < c.length := by have h := h35; simp at h; omega
      refine Exists.elim (show ∃ a, a = c[i] from ⟨_, rfl⟩) (fun a ha => ?_)
      have hget : (c.map encA)[i]? = some (.agg [.i a.who, .b a.al, .i a.rt, .i a.rc, .b a.gv]) := by rw [List.getElem?_map, List.getElem?_eq_getElem hlt, ha]; rfl
      have hag : a.gv = true := hcg a (ha ▸ List.getElem_mem hlt)
      have har : a.rc = rcOf d := hcr a (ha ▸ List.getElem_mem hlt)
      have hwA : pWA (-1) true a = ((a.who == -1) && a.al) := by unfold pWA; rw [Bool.eq_iff_iff]; simp
      have hwB : pWA 1 false a = ((a.who == 1) && !a.al) := by unfold pWA; rw [Bool.eq_iff_iff]; simp
      have hnA : orS (pWA (-1) true) (c.take (i + 1)) = if pWA (-1) true a then iOr (orS (pWA (-1) true) (c.take i)) a.rt else orS (pWA (-1) true) (c.take i) := by rw [take_snoc hlt, orS_snoc, ← ha]
      have hnB : orS (pWA 1 false) (c.take (i + 1)) = if pWA 1 false a then iOr (orS (pWA 1 false) (c.take i)) a.rt else orS (pWA 1 false) (c.take i) := by rw [take_snoc hlt, orS_snoc, ← ha]
      refine AT.skip ?_
      refine AT.seq ?_
      refine AT.block ?_   -- block 1
      refine AT.seq ?_
      refine AT.seq ?_
      refine AT.region ?_   -- region 12 law.go:93
      refine TrC.take rfl (step_move rfl rfl rfl) ?_   -- 0
      refine TrC.take rfl (step_move rfl rfl rfl) ?_   -- 1
      refine TrC.take rfl (step_indexAddrT (v := .agg [.i a.who, .b a.al, .i a.rt, .i a.rc, .b a.gv]) rfl rfl rfl sl22 (by omega) (by first | exact hget | simpa using hget) rfl rfl) ?_   -- 2
      refine TrC.take rfl (step_fieldAddrT rfl rfl fd31_4 rfl rfl rfl) ?_   -- 3
      refine TrC.take rfl (step_loadT1 rfl rfl ty4 rfl rfl) ?_   -- 4
      refine TrC.take rfl (step_not rfl rfl rfl) ?_   -- 5
      refine TrC.spell 43 rfl (bv (b := false) (by simp [hag])) ?_
      refine TrC.take rfl (step_move rfl rfl rfl) ?_   -- 6
      refine TrC.take ⟨_, _, rfl, rfl, rfl⟩ (step_move rfl rfl rfl) ?_   -- 7
      refine TrC.take ⟨_, _, rfl, rfl, rfl⟩ (step_move rfl rfl rfl) ?_   -- 8
      refine TrC.take ⟨_, _, rfl, rfl, rfl⟩ (step_indexAddrT (v := .agg [.i a.who, .b a.al, .i a.rt, .i a.rc, .b a.gv]) rfl rfl rfl sl22 (by omega) (by first | exact hget | simpa using hget) rfl rfl) ?_   -- 9
      refine TrC.take ⟨_, _, rfl, rfl, rfl⟩ (step_fieldAddrT rfl rfl fd31_3 rfl rfl rfl) ?_   -- 10
      refine TrC.take ⟨_, _, rfl, rfl, rfl⟩ (step_loadT1 rfl rfl ty3 rfl rfl) ?_   -- 11
      refine TrC.take ⟨_, _, rfl, rfl, rfl⟩ (step_move rfl rfl rfl) ?_   -- 12
      refine TrC.take ⟨_, _, rfl, rfl, rfl⟩ (step_bin rfl rfl rfl rfl rfl) ?_   -- 13
      refine TrC.spell 51 rfl (bv (b := false) (by simp [har])) ?_
      refine TrC.take rfl (step_pick rfl rfl rfl rfl) ?_   -- 14
      refine TrC.done ?_
      refine AT.condF rfl ?_   -- t52
      refine AT.skip ?_
      refine AT.seq ?_
      refine AT.seq ?_
      refine AT.region ?_   -- region 14 law.go:96
      refine TrC.take rfl (step_move rfl rfl rfl) ?_   -- 0
      refine TrC.take rfl (step_move rfl rfl rfl) ?_   -- 1
      refine TrC.take rfl (step_indexAddrT (v := .agg [.i a.who, .b a.al, .i a.rt, .i a.rc, .b a.gv]) rfl rfl rfl sl22 (by omega) (by first | exact hget | simpa using hget) rfl rfl) ?_   -- 2
      refine TrC.take rfl (step_fieldAddrT rfl rfl fd31_0 rfl rfl rfl) ?_   -- 3
      refine TrC.take rfl (step_loadT1 rfl rfl ty3 rfl rfl) ?_   -- 4
      refine TrC.take rfl (step_bin rfl rfl rfl rfl rfl) ?_   -- 5
      refine TrC.take rfl (step_move rfl rfl rfl) ?_   -- 6
      refine TrC.cases (d := 59) rfl (fun h59 => ?_) (fun h59 => ?_)
      · -- t59 = true
        refine TrC.take ⟨_, _, rfl, rfl, rfl⟩ (step_move rfl rfl rfl) ?_   -- 7
        refine TrC.take ⟨_, _, rfl, rfl, rfl⟩ (step_move rfl rfl rfl) ?_   -- 8
        refine TrC.take ⟨_, _, rfl, rfl, rfl⟩ (step_indexAddrT (v := .agg [.i a.who, .b a.al, .i a.rt, .i a.rc, .b a.gv]) rfl rfl rfl sl22 (by omega) (by first | exact hget | simpa using hget) rfl rfl) ?_   -- 9
        refine TrC.take ⟨_, _, rfl, rfl, rfl⟩ (step_fieldAddrT rfl rfl fd31_1 rfl rfl rfl) ?_   -- 10
        refine TrC.take ⟨_, _, rfl, rfl, rfl⟩ (step_loadT1 rfl rfl ty4 rfl rfl) ?_   -- 11
        refine TrC.take rfl (step_pick rfl rfl rfl rfl) ?_   -- 12
        refine TrC.done ?_
        refine AT.cond rfl (fun h65 => ?_) (fun h65 => ?_)   -- t65
        · -- true
          refine AT.regionD mixed rfl ?_   -- region 15 law.go:97
          refine TrC.take rfl (step_indexAddrP rfl rfl rfl ar49 (by decide) (by decide) rfl) ?_   -- 0
          refine TrC.take rfl (step_loadP1 rfl rfl rfl ty3 rfl rfl) ?_   -- 1
          refine TrC.take rfl (step_move rfl rfl rfl) ?_   -- 2
          refine TrC.take rfl (step_move rfl rfl rfl) ?_   -- 3
          refine TrC.take rfl (step_indexAddrT (v := .agg [.i a.who, .b a.al, .i a.rt, .i a.rc, .b a.gv]) rfl rfl rfl sl22 (by omega) (by first | exact hget | simpa using hget) rfl rfl) ?_   -- 4
          refine TrC.take rfl (step_fieldAddrT rfl rfl fd31_2 rfl rfl rfl) ?_   -- 5
          refine TrC.take rfl (step_loadT1 rfl rfl ty3 rfl rfl) ?_   -- 6
          refine TrC.take rfl (step_bin rfl rfl rfl rfl rfl) ?_   -- 7
          refine TrC.spell 73 rfl (iv (b := iOr (orS (pWA (-1) true) (c.take i)) a.rt) rfl) ?_
          refine TrC.take rfl (step_indexAddrP rfl rfl rfl ar49 (by decide) (by decide) rfl) ?_   -- 8
          refine TrC.take rfl (step_storeP rfl rfl rfl rfl rfl (.inl rfl) ty3 rfl rfl rfl) ?_   -- 9
          refine TrC.doneD rfl ?_
          refine AT.seq ?_
          refine AT.region ?_   -- region 16 law.go:99
          refine TrC.take rfl (step_move rfl rfl rfl) ?_   -- 0
          refine TrC.take rfl (step_move rfl rfl rfl) ?_   -- 1
          refine TrC.take rfl (step_indexAddrT (v := .agg [.i a.who, .b a.al, .i a.rt, .i a.rc, .b a.gv]) rfl rfl rfl sl22 (by omega) (by first | exact hget | simpa using hget) rfl rfl) ?_   -- 2
          refine TrC.take rfl (step_fieldAddrT rfl rfl fd31_0 rfl rfl rfl) ?_   -- 3
          refine TrC.take rfl (step_loadT1 rfl rfl ty3 rfl rfl) ?_   -- 4
          refine TrC.take rfl (step_bin rfl rfl rfl rfl rfl) ?_   -- 5
          refine TrC.take rfl (step_move rfl rfl rfl) ?_   -- 6
          refine TrC.cases (d := 81) rfl (fun h81 => ?_) (fun h81 => ?_)
          · -- t81 = true
            refine TrC.take ⟨_, _, rfl, rfl, rfl⟩ (step_move rfl rfl rfl) ?_   -- 7
            refine TrC.take ⟨_, _, rfl, rfl, rfl⟩ (step_move rfl rfl rfl) ?_   -- 8
            refine TrC.take ⟨_, _, rfl, rfl, rfl⟩ (step_indexAddrT (v := .agg [.i a.who, .b a.al, .i a.rt, .i a.rc, .b a.gv]) rfl rfl rfl sl22 (by omega) (by first | exact hget | simpa using hget) rfl rfl) ?_   -- 9
            refine TrC.take ⟨_, _, rfl, rfl, rfl⟩ (step_fieldAddrT rfl rfl fd31_1 rfl rfl rfl) ?_   -- 10
            refine TrC.take ⟨_, _, rfl, rfl, rfl⟩ (step_loadT1 rfl rfl ty4 rfl rfl) ?_   -- 11
            refine TrC.take ⟨_, _, rfl, rfl, rfl⟩ (step_not rfl rfl rfl) ?_   -- 12
            refine TrC.take rfl (step_pick rfl rfl rfl rfl) ?_   -- 13
            refine TrC.done ?_
            refine AT.cond rfl (fun h88 => ?_) (fun h88 => ?_)   -- t88
            · -- true
              refine AT.regionD mixed rfl ?_   -- region 17 law.go:100
              refine TrC.take rfl (step_indexAddrP rfl rfl rfl ar49 (by decide) (by decide) rfl) ?_   -- 0
              refine TrC.take rfl (step_loadP1 rfl rfl rfl ty3 rfl rfl) ?_   -- 1
              refine TrC.take rfl (step_move rfl rfl rfl) ?_   -- 2
              refine TrC.take rfl (step_move rfl rfl rfl) ?_   -- 3
              refine TrC.take rfl (step_indexAddrT (v := .agg [.i a.who, .b a.al, .i a.rt, .i a.rc, .b a.gv]) rfl rfl rfl sl22 (by omega) (by first | exact hget | simpa using hget) rfl rfl) ?_   -- 4
              refine TrC.take rfl (step_fieldAddrT rfl rfl fd31_2 rfl rfl rfl) ?_   -- 5
              refine TrC.take rfl (step_loadT1 rfl rfl ty3 rfl rfl) ?_   -- 6
              refine TrC.take rfl (step_bin rfl rfl rfl rfl rfl) ?_   -- 7
              refine TrC.spell 96 rfl (iv (b := iOr (orS (pWA 1 false) (c.take i)) a.rt) rfl) ?_
              refine TrC.take rfl (step_indexAddrP rfl rfl rfl ar49 (by decide) (by decide) rfl) ?_   -- 8
              refine TrC.take rfl (step_storeP rfl rfl rfl rfl rfl (.inl rfl) ty3 rfl rfl rfl) ?_   -- 9
              refine TrC.doneD rfl ?_
              refine AT.region ?_   -- region 11 law.go:92
              refine TrC.take rfl (step_move rfl rfl rfl) ?_   -- 0
              refine TrC.take rfl (step_addI rfl rfl rfl (by first | omega | (simp; done) | (simp; omega)) (by first | omega | (simp; done) | (simp; omega)) rfl) ?_   -- 1
              refine TrC.take rfl (step_assign rfl rfl rfl) ?_   -- 2
              refine TrC.done ?_
              exact ⟨i + 1, by show i + 1 ≤ c.length; omega, by show c.length - (i + 1) < c.length - i; omega, Sat.wk [] (.cons (.t (.refl _)) (.cons (.t (.refl _)) (.cons (.t (.refl _)) (.cons (.t (.refl _)) (.cons (.t (.refl _)) (.cons (.p rfl) (.cons (.p rfl) (.cons (.t (conv_i (by simp))) (.nil))))))))) (.cons rfl (.box (.cons (.t (conv_i (by first | (rw [hnA, hwA, h59, h65]; rfl) | (rw [hnA, hwA, h59]; rfl)))) (.cons (.t (conv_i (by first | (rw [hnB, hwB, h81, h88]; rfl) | (rw [hnB, hwB, h81]; rfl)))) (.nil)))) (.cons rfl (.box (.cons (.t (.refl _)) (.cons (.t (.refl _)) (.nil)))) (.nil))) rfl rfl⟩
            · -- false
              refine AT.skip ?_
              refine AT.region ?_   -- region 11 law.go:92
              refine TrC.take rfl (step_move rfl rfl rfl) ?_   -- 0
              refine TrC.take rfl (step_addI rfl rfl rfl (by first | omega | (simp; done) | (simp; omega)) (by first | omega | (simp; done) | (simp; omega)) rfl) ?_   -- 1
              refine TrC.take rfl (step_assign rfl rfl rfl) ?_   -- 2
              refine TrC.done ?_
              exact ⟨i + 1, by show i + 1 ≤ c.length; omega, by show c.length - (i + 1) < c.length - i; omega, Sat.wk [] (.cons (.t (.refl _)) (.cons (.t (.refl _)) (.cons (.t (.refl _)) (.cons (.t (.refl _)) (.cons (.t (.refl _)) (.cons (.p rfl) (.cons (.p rfl) (.cons (.t (conv_i (by simp))) (.nil))))))))) (.cons rfl (.box (.cons (.t (conv_i (by first | (rw [hnA, hwA, h59, h65]; rfl) | (rw [hnA, hwA, h59]; rfl)))) (.cons (.t (conv_i (by first | (rw [hnB, hwB, h81, h88]; rfl) | (rw [hnB, hwB, h81]; rfl)))) (.nil)))) (.cons rfl (.box (.cons (.t (.refl _)) (.cons (.t (.refl _)) (.nil)))) (.nil))) rfl rfl⟩
          · -- t81 = false
            refine TrC.skip ⟨_, _, rfl, rfl, rfl⟩ ?_   -- 7
            refine TrC.skip ⟨_, _, rfl, rfl, rfl⟩ ?_   -- 8
            refine TrC.skip ⟨_, _, rfl, rfl, rfl⟩ ?_   -- 9
            refine TrC.skip ⟨_, _, rfl, rfl, rfl⟩ ?_   -- 10
            refine TrC.skip ⟨_, _, rfl, rfl, rfl⟩ ?_   -- 11
            refine TrC.skip ⟨_, _, rfl, rfl, rfl⟩ ?_   -- 12
            refine TrC.take rfl (step_pick rfl rfl rfl rfl) ?_   -- 13
            refine TrC.done ?_
            refine AT.condF rfl ?_   -- t88
            refine AT.skip ?_
            refine AT.region ?_   -- region 11 law.go:92
            refine TrC.take rfl (step_move rfl rfl rfl) ?_   -- 0
            refine TrC.take rfl (step_addI rfl rfl rfl (by first | omega | (simp; done) | (simp; omega)) (by first | omega | (simp; done) | (simp; omega)) rfl) ?_   -- 1
            refine TrC.take rfl (step_assign rfl rfl rfl) ?_   -- 2
            refine TrC.done ?_
            exact ⟨i + 1, by show i + 1 ≤ c.length; omega, by show c.length - (i + 1) < c.length - i; omega, Sat.wk [] (.cons (.t (.refl _)) (.cons (.t (.refl _)) (.cons (.t (.refl _)) (.cons (.t (.refl _)) (.cons (.t (.refl _)) (.cons (.p rfl) (.cons (.p rfl) (.cons (.t (conv_i (by simp))) (.nil))))))))) (.cons rfl (.box (.cons (.t (conv_i (by first | (rw [hnA, hwA, h59, h65]; rfl) | (rw [hnA, hwA, h59]; rfl)))) (.cons (.t (conv_i (by first | (rw [hnB, hwB, h81, h88]; rfl) | (rw [hnB, hwB, h81]; rfl)))) (.nil)))) (.cons rfl (.box (.cons (.t (.refl _)) (.cons (.t (.refl _)) (.nil)))) (.nil))) rfl rfl⟩
        · -- false
          refine AT.skip ?_
          refine AT.seq ?_
          refine AT.region ?_   -- region 16 law.go:99
          refine TrC.take rfl (step_move rfl rfl rfl) ?_   -- 0
          refine TrC.take rfl (step_move rfl rfl rfl) ?_   -- 1
          refine TrC.take rfl (step_indexAddrT (v := .agg [.i a.who, .b a.al, .i a.rt, .i a.rc, .b a.gv]) rfl rfl rfl sl22 (by omega) (by first | exact hget | simpa using hget) rfl rfl) ?_   -- 2
          refine TrC.take rfl (step_fieldAddrT rfl rfl fd31_0 rfl rfl rfl) ?_   -- 3
          refine TrC.take rfl (step_loadT1 rfl rfl ty3 rfl rfl) ?_   -- 4
          refine TrC.take rfl (step_bin rfl rfl rfl rfl rfl) ?_   -- 5
          refine TrC.take rfl (step_move rfl rfl rfl) ?_   -- 6
          refine TrC.cases (d := 81) rfl (fun h81 => ?_) (fun h81 => ?_)
          · -- t81 = true
            refine TrC.take ⟨_, _, rfl, rfl, rfl⟩ (step_move rfl rfl rfl) ?_   -- 7
            refine TrC.take ⟨_, _, rfl, rfl, rfl⟩ (step_move rfl rfl rfl) ?_   -- 8
            refine TrC.take ⟨_, _, rfl, rfl, rfl⟩ (step_indexAddrT (v := .agg [.i a.who, .b a.al, .i a.rt, .i a.rc, .b a.gv]) rfl rfl rfl sl22 (by omega) (by first | exact hget | simpa using hget) rfl rfl) ?_   -- 9
            refine TrC.take ⟨_, _, rfl, rfl, rfl⟩ (step_fieldAddrT rfl rfl fd31_1 rfl rfl rfl) ?_   -- 10
            refine TrC.take ⟨_, _, rfl, rfl, rfl⟩ (step_loadT1 rfl rfl ty4 rfl rfl) ?_   -- 11
            refine TrC.take ⟨_, _, rfl, rfl, rfl⟩ (step_not rfl rfl rfl) ?_   -- 12
            refine TrC.take rfl (step_pick rfl rfl rfl rfl) ?_   -- 13
            refine TrC.done ?_
            refine AT.cond rfl (fun h88 => ?_) (fun h88 => ?_)   -- t88
            · -- true
              refine AT.regionD mixed rfl ?_   -- region 17 law.go:100
              refine TrC.take rfl (step_indexAddrP rfl rfl rfl ar49 (by decide) (by decide) rfl) ?_   -- 0
              refine TrC.take rfl (step_loadP1 rfl rfl rfl ty3 rfl rfl) ?_   -- 1
              refine TrC.take rfl (step_move rfl rfl rfl) ?_   -- 2
              refine TrC.take rfl (step_move rfl rfl rfl) ?_   -- 3
              refine TrC.take rfl (step_indexAddrT (v := .agg [.i a.who, .b a.al, .i a.rt, .i a.rc, .b a.gv]) rfl rfl rfl sl22 (by omega) (by first | exact hget | simpa using hget) rfl rfl) ?_   -- 4
              refine TrC.take rfl (step_fieldAddrT rfl rfl fd31_2 rfl rfl rfl) ?_   -- 5
              refine TrC.take rfl (step_loadT1 rfl rfl ty3 rfl rfl) ?_   -- 6
              refine TrC.take rfl (step_bin rfl rfl rfl rfl rfl) ?_   -- 7
              refine TrC.spell 96 rfl (iv (b := iOr (orS (pWA 1 false) (c.take i)) a.rt) rfl) ?_
              refine TrC.take rfl (step_indexAddrP rfl rfl rfl ar49 (by decide) (by decide) rfl) ?_   -- 8
              refine TrC.take rfl (step_storeP rfl rfl rfl rfl rfl (.inl rfl) ty3 rfl rfl rfl) ?_   -- 9
              refine TrC.doneD rfl ?_
              refine AT.region ?_   -- region 11 law.go:92
              refine TrC.take rfl (step_move rfl rfl rfl) ?_   -- 0
              refine TrC.take rfl (step_addI rfl rfl rfl (by first | omega | (simp; done) | (simp; omega)) (by first | omega | (simp; done) | (simp; omega)) rfl) ?_   -- 1
              refine TrC.take rfl (step_assign rfl rfl rfl) ?_   -- 2
              refine TrC.done ?_
              exact ⟨i + 1, by show i + 1 ≤ c.length; omega, by show c.length - (i + 1) < c.length - i; omega, Sat.wk [] (.cons (.t (.refl _)) (.cons (.t (.refl _)) (.cons (.t (.refl _)) (.cons (.t (.refl _)) (.cons (.t (.refl _)) (.cons (.p rfl) (.cons (.p rfl) (.cons (.t (conv_i (by simp))) (.nil))))))))) (.cons rfl (.box (.cons (.t (conv_i (by first | (rw [hnA, hwA, h59, h65]; rfl) | (rw [hnA, hwA, h59]; rfl)))) (.cons (.t (conv_i (by first | (rw [hnB, hwB, h81, h88]; rfl) | (rw [hnB, hwB, h81]; rfl)))) (.nil)))) (.cons rfl (.box (.cons (.t (.refl _)) (.cons (.t (.refl _)) (.nil)))) (.nil))) rfl rfl⟩
            · -- false
              refine AT.skip ?_
              refine AT.region ?_   -- region 11 law.go:92
              refine TrC.take rfl (step_move rfl rfl rfl) ?_   -- 0
              refine TrC.take rfl (step_addI rfl rfl rfl (by first | omega | (simp; done) | (simp; omega)) (by first | omega | (simp; done) | (simp; omega)) rfl) ?_   -- 1
              refine TrC.take rfl (step_assign rfl rfl rfl) ?_   -- 2
              refine TrC.done ?_
              exact ⟨i + 1, by show i + 1 ≤ c.length; omega, by show c.length - (i + 1) < c.length - i; omega, Sat.wk [] (.cons (.t (.refl _)) (.cons (.t (.refl _)) (.cons (.t (.refl _)) (.cons (.t (.refl _)) (.cons (.t (.refl _)) (.cons (.p rfl) (.cons (.p rfl) (.cons (.t (conv_i (by simp))) (.nil))))))))) (.cons rfl (.box (.cons (.t (conv_i (by first | (rw [hnA, hwA, h59, h65]; rfl) | (rw [hnA, hwA, h59]; rfl)))) (.cons (.t (conv_i (by first | (rw [hnB, hwB, h81, h88]; rfl) | (rw [hnB, hwB, h81]; rfl)))) (.nil)))) (.cons rfl (.box (.cons (.t (.refl _)) (.cons (.t (.refl _)) (.nil)))) (.nil))) rfl rfl⟩
          · -- t81 = false
            refine TrC.skip ⟨_, _, rfl, rfl, rfl⟩ ?_   -- 7
            refine TrC.skip ⟨_, _, rfl, rfl, rfl⟩ ?_   -- 8
            refine TrC.skip ⟨_, _, rfl, rfl, rfl⟩ ?_   -- 9
            refine TrC.skip ⟨_, _, rfl, rfl, rfl⟩ ?_   -- 10
            refine TrC.skip ⟨_, _, rfl, rfl, rfl⟩ ?_   -- 11
            refine TrC.skip ⟨_, _, rfl, rfl, rfl⟩ ?_   -- 12
            refine TrC.take rfl (step_pick rfl rfl rfl rfl) ?_   -- 13
            refine TrC.done ?_
            refine AT.condF rfl ?_   -- t88
            refine AT.skip ?_
            refine AT.region ?_   -- region 11 law.go:92
            refine TrC.take rfl (step_move rfl rfl rfl) ?_   -- 0
            refine TrC.take rfl (step_addI rfl rfl rfl (by first | omega | (simp; done) | (simp; omega)) (by first | omega | (simp; done) | (simp; omega)) rfl) ?_   -- 1
            refine TrC.take rfl (step_assign rfl rfl rfl) ?_   -- 2
            refine TrC.done ?_
            exact ⟨i + 1, by show i + 1 ≤ c.length; omega, by show c.length - (i + 1) < c.length - i; omega, Sat.wk [] (.cons (.t (.refl _)) (.cons (.t (.refl _)) (.cons (.t (.refl _)) (.cons (.t (.refl _)) (.cons (.t (.refl _)) (.cons (.p rfl) (.cons (.p rfl) (.cons (.t (conv_i (by simp))) (.nil))))))))) (.cons rfl (.box (.cons (.t (conv_i (by first | (rw [hnA, hwA, h59, h65]; rfl) | (rw [hnA, hwA, h59]; rfl)))) (.cons (.t (conv_i (by first | (rw [hnB, hwB, h81, h88]; rfl) | (rw [hnB, hwB, h81]; rfl)))) (.nil)))) (.cons rfl (.box (.cons (.t (.refl _)) (.cons (.t (.refl _)) (.nil)))) (.nil))) rfl rfl⟩
      · -- t59 = false
        refine TrC.skip ⟨_, _, rfl, rfl, rfl⟩ ?_   -- 7
        refine TrC.skip ⟨_, _, rfl, rfl, rfl⟩ ?_   -- 8
        refine TrC.skip ⟨_, _, rfl, rfl, rfl⟩ ?_   -- 9
        refine TrC.skip ⟨_, _, rfl, rfl, rfl⟩ ?_   -- 10
        refine TrC.skip ⟨_, _, rfl, rfl, rfl⟩ ?_   -- 11
        refine TrC.take rfl (step_pick rfl rfl rfl rfl) ?_   -- 12
        refine TrC.done ?_
        refine AT.condF rfl ?_   -- t65
        refine AT.skip ?_
        refine AT.seq ?_
        refine AT.region ?_   -- region 16 law.go:99
        refine TrC.take rfl (step_move rfl rfl rfl) ?_   -- 0
        refine TrC.take rfl (step_move rfl rfl rfl) ?_   -- 1
        refine TrC.take rfl (step_indexAddrT (v := .agg [.i a.who, .b a.al, .i a.rt, .i a.rc, .b a.gv]) rfl rfl rfl sl22 (by omega) (by first | exact hget | simpa using hget) rfl rfl) ?_   -- 2
        refine TrC.take rfl (step_fieldAddrT rfl rfl fd31_0 rfl rfl rfl) ?_   -- 3
        refine TrC.take rfl (step_loadT1 rfl rfl ty3 rfl rfl) ?_   -- 4
        refine TrC.take rfl (step_bin rfl rfl rfl rfl rfl) ?_   -- 5
        refine TrC.take rfl (step_move rfl rfl rfl) ?_   -- 6
        refine TrC.cases (d := 81) rfl (fun h81 => ?_) (fun h81 => ?_)
        · -- t81 = true
          refine TrC.take ⟨_, _, rfl, rfl, rfl⟩ (step_move rfl rfl rfl) ?_   -- 7
          refine TrC.take ⟨_, _, rfl, rfl, rfl⟩ (step_move rfl rfl rfl) ?_   -- 8
          refine TrC.take ⟨_, _, rfl, rfl, rfl⟩ (step_indexAddrT (v := .agg [.i a.who, .b a.al, .i a.rt, .i a.rc, .b a.gv]) rfl rfl rfl sl22 (by omega) (by first | exact hget | simpa using hget) rfl rfl) ?_   -- 9
          refine TrC.take ⟨_, _, rfl, rfl, rfl⟩ (step_fieldAddrT rfl rfl fd31_1 rfl rfl rfl) ?_   -- 10
          refine TrC.take ⟨_, _, rfl, rfl, rfl⟩ (step_loadT1 rfl rfl ty4 rfl rfl) ?_   -- 11
          refine TrC.take ⟨_, _, rfl, rfl, rfl⟩ (step_not rfl rfl rfl) ?_   -- 12
          refine TrC.take rfl (step_pick rfl rfl rfl rfl) ?_   -- 13
          refine TrC.done ?_
          refine AT.cond rfl (fun h88 => ?_) (fun h88 => ?_)   -- t88
          · -- true
            refine AT.regionD mixed rfl ?_   -- region 17 law.go:100
            refine TrC.take rfl (step_indexAddrP rfl rfl rfl ar49 (by decide) (by decide) rfl) ?_   -- 0
            refine TrC.take rfl (step_loadP1 rfl rfl rfl ty3 rfl rfl) ?_   -- 1
            refine TrC.take rfl (step_move rfl rfl rfl) ?_   -- 2
            refine TrC.take rfl (step_move rfl rfl rfl) ?_   -- 3
            refine TrC.take rfl (step_indexAddrT (v := .agg [.i a.who, .b a.al, .i a.rt, .i a.rc, .b a.gv]) rfl rfl rfl sl22 (by omega) (by first | exact hget | simpa using hget) rfl rfl) ?_   -- 4
            refine TrC.take rfl (step_fieldAddrT rfl rfl fd31_2 rfl rfl rfl) ?_   -- 5
            refine TrC.take rfl (step_loadT1 rfl rfl ty3 rfl rfl) ?_   -- 6
            refine TrC.take rfl (step_bin rfl rfl rfl rfl rfl) ?_   -- 7
            refine TrC.spell 96 rfl (iv (b := iOr (orS (pWA 1 false) (c.take i)) a.rt) rfl) ?_
            refine TrC.take rfl (step_indexAddrP rfl rfl rfl ar49 (by decide) (by decide) rfl) ?_   -- 8
            refine TrC.take rfl (step_storeP rfl rfl rfl rfl rfl (.inl rfl) ty3 rfl rfl rfl) ?_   -- 9
            refine TrC.doneD rfl ?_
            refine AT.region ?_   -- region 11 law.go:92
            refine TrC.take rfl (step_move rfl rfl rfl) ?_   -- 0
            refine TrC.take rfl (step_addI rfl rfl rfl (by first | omega | (simp; done) | (simp; omega)) (by first | omega | (simp; done) | (simp; omega)) rfl) ?_   -- 1
            refine TrC.take rfl (step_assign rfl rfl rfl) ?_   -- 2
            refine TrC.done ?_
            exact ⟨i + 1, by show i + 1 ≤ c.length; omega, by show c.length - (i + 1) < c.length - i; omega, Sat.wk [] (.cons (.t (.refl _)) (.cons (.t (.refl _)) (.cons (.t (.refl _)) (.cons (.t (.refl _)) (.cons (.t (.refl _)) (.cons (.p rfl) (.cons (.p rfl) (.cons (.t (conv_i (by simp))) (.nil))))))))) (.cons rfl (.box (.cons (.t (conv_i (by first | (rw [hnA, hwA, h59, h65]; rfl) | (rw [hnA, hwA, h59]; rfl)))) (.cons (.t (conv_i (by first | (rw [hnB, hwB, h81, h88]; rfl) | (rw [hnB, hwB, h81]; rfl)))) (.nil)))) (.cons rfl (.box (.cons (.t (.refl _)) (.cons (.t (.refl _)) (.nil)))) (.nil))) rfl rfl⟩
          · -- false
            refine AT.skip ?_
            refine AT.region ?_   -- region 11 law.go:92
            refine TrC.take rfl (step_move rfl rfl rfl) ?_   -- 0
            refine TrC.take rfl (step_addI rfl rfl rfl (by first | omega | (simp; done) | (simp; omega)) (by first | omega | (simp; done) | (simp; omega)) rfl) ?_   -- 1
            refine TrC.take rfl (step_assign rfl rfl rfl) ?_   -- 2
            refine TrC.done ?_
            exact ⟨i + 1, by show i + 1 ≤ c.length; omega, by show c.length - (i + 1) < c.length - i; omega, Sat.wk [] (.cons (.t (.refl _)) (.cons (.t (.refl _)) (.cons (.t (.refl _)) (.cons (.t (.refl _)) (.cons (.t (.refl _)) (.cons (.p rfl) (.cons (.p rfl) (.cons (.t (conv_i (by simp))) (.nil))))))))) (.cons rfl (.box (.cons (.t (conv_i (by first | (rw [hnA, hwA, h59, h65]; rfl) | (rw [hnA, hwA, h59]; rfl)))) (.cons (.t (conv_i (by first | (rw [hnB, hwB, h81, h88]; rfl) | (rw [hnB, hwB, h81]; rfl)))) (.nil)))) (.cons rfl (.box (.cons (.t (.refl _)) (.cons (.t (.refl _)) (.nil)))) (.nil))) rfl rfl⟩
        · -- t81 = false
          refine TrC.skip ⟨_, _, rfl, rfl, rfl⟩ ?_   -- 7
          refine TrC.skip ⟨_, _, rfl, rfl, rfl⟩ ?_   -- 8
          refine TrC.skip ⟨_, _, rfl, rfl, rfl⟩ ?_   -- 9
          refine TrC.skip ⟨_, _, rfl, rfl, rfl⟩ ?_   -- 10
          refine TrC.skip ⟨_, _, rfl, rfl, rfl⟩ ?_   -- 11
          refine TrC.skip ⟨_, _, rfl, rfl, rfl⟩ ?_   -- 12
          refine TrC.take rfl (step_pick rfl rfl rfl rfl) ?_   -- 13
          refine TrC.done ?_
          refine AT.condF rfl ?_   -- t88
          refine AT.skip ?_
          refine AT.region ?_   -- region 11 law.go:92
          refine TrC.take rfl (step_move rfl rfl rfl) ?_   -- 0
          refine TrC.take rfl (step_addI rfl rfl rfl (by first | omega | (simp; done) | (simp; omega)) (by first | omega | (simp; done) | (simp; omega)) rfl) ?_   -- 1
          refine TrC.take rfl (step_assign rfl rfl rfl) ?_   -- 2
          refine TrC.done ?_
          exact ⟨i + 1, by show i + 1 ≤ c.length; omega, by show c.length - (i + 1) < c.length - i; omega, Sat.wk [] (.cons (.t (.refl _)) (.cons (.t (.refl _)) (.cons (.t (.refl _)) (.cons (.t (.refl _)) (.cons (.t (.refl _)) (.cons (.p rfl) (.cons (.p rfl) (.cons (.t (conv_i (by simp))) (.nil))))))))) (.cons rfl (.box (.cons (.t (conv_i (by first | (rw [hnA, hwA, h59, h65]; rfl) | (rw [hnA, hwA, h59]; rfl)))) (.cons (.t (conv_i (by first | (rw [hnB, hwB, h81, h88]; rfl) | (rw [hnB, hwB, h81]; rfl)))) (.nil)))) (.cons rfl (.box (.cons (.t (.refl _)) (.cons (.t (.refl _)) (.nil)))) (.nil))) rfl rfl⟩
    · -- false
      have hcend : c.take i = c := List.take_of_length_le (by have h := h35; simp at h; omega)
      refine AT.exit (Or.inl ⟨rfl, ?_⟩)   -- exit 0
      refine AT.seq ?_
      refine AT.seq ?_
      refine AT.region ?_   -- region 18 law.go:103
      refine TrC.take rfl (step_assign rfl rfl rfl) ?_   -- 0
      refine TrC.done ?_
      refine AT.block ?_   -- block 2
      refine AT.loopP (fun k : Nat => k ≤ z.length) (fun k => mkS [(1, .t (.b d)), (5, .t (.b true)), (6, .t (.slice 5 (z.map encA))), (7, .t (.slice 5 (c.map encA))), (8, .t (.i (rcOf d))), (9, .p 9 0), (10, .p 10 0), (12, .t (.i k))] [(9, .box 49 [.t (.i (orS (pWA (-1) true) c)), .t (.i (orS (pWA 1 false) c))]), (10, .box 49 [.t (.i (orS (fun a => inh a && pWA (-1) true a) (z.take k))), .t (.i (orS (fun a => inh a && pWA 1 false a) (z.take k)))])]) (fun k => z.length - k) (0) (Nat.zero_le _) (fun a w hs => Sat.wk [] (.cons (.t (.refl _)) (.cons (.t (.refl _)) (.cons (.t (.refl _)) (.cons (.t (.refl _)) (.cons (.t (.refl _)) (.cons (.p rfl) (.cons (.p rfl) (.cons (.t (.refl _)) (.nil))))))))) (.cons rfl (.box (.cons (.t (conv_i (by rw [hcend]))) (.cons (.t (conv_i (by rw [hcend]))) (.nil)))) (.cons rfl (.box (.cons (.t (.refl _)) (.cons (.t (.refl _)) (.nil)))) (.nil))) rfl rfl a w hs) (fun k hk => ?_)
      refine AT.seq ?_
      refine AT.seq ?_
      refine AT.region ?_   -- region 19 law.go:103
      refine TrC.take rfl (step_move rfl rfl rfl) ?_   -- 0
      refine TrC.take rfl (step_move rfl rfl rfl) ?_   -- 1
      refine TrC.take rfl (step_lenT (rt := 0) rfl rfl sl22 rfl) ?_   -- 2
      refine TrC.take rfl (step_bin rfl rfl rfl rfl rfl) ?_   -- 3
      refine TrC.done ?_
      refine AT.cond rfl (fun h101 => ?_) (fun h101 => ?_)   -- t101
      · -- true
        have hlt : k < z.length := by have h := h101; simp at h; omega
        refine Exists.elim (show ∃ a, a = z[k] from ⟨_, rfl⟩) (fun a ha => ?_)
        have hget : (z.map encA)[k]? = some (.agg [.i a.who, .b a.al, .i a.rt, .i a.rc, .b a.gv]) := by rw [List.getElem?_map, List.getElem?_eq_getElem hlt, ha]; rfl
        have hin : inh a = decide (a.rc ≠ 1) := inh_rc (hvz.rt a (ha ▸ List.getElem_mem hlt))
        have hwA : (inh a && pWA (-1) true a) = ((a.rc != 1) && ((a.who == -1) && a.al)) := by rw [hin]; unfold pWA; rw [Bool.eq_iff_iff]; simp
        have hwB : (inh a && pWA 1 false a) = ((a.rc != 1) && ((a.who == 1) && !a.al)) := by rw [hin]; unfold pWA; rw [Bool.eq_iff_iff]; simp
        have hnA : orS (fun a => inh a && pWA (-1) true a) (z.take (k + 1)) = if inh a && pWA (-1) true a then iOr (orS (fun a => inh a && pWA (-1) true a) (z.take k)) a.rt else orS (fun a => inh a && pWA (-1) true a) (z.take k) := by rw [take_snoc hlt, orS_snoc, ← ha]
        have hnB : orS (fun a => inh a && pWA 1 false a) (z.take (k + 1)) = if inh a && pWA 1 false a then iOr (orS (fun a => inh a && pWA 1 false a) (z.take k)) a.rt else orS (fun a => inh a && pWA 1 false a) (z.take k) := by rw [take_snoc hlt, orS_snoc, ← ha]
        refine AT.skip ?_
        refine AT.seq ?_
        refine AT.block ?_   -- block 3
        refine AT.seq ?_
        refine AT.seq ?_
        refine AT.region ?_   -- region 21 law.go:104
        refine TrC.take rfl (step_move rfl rfl rfl) ?_   -- 0
        refine TrC.take rfl (step_move rfl rfl rfl) ?_   -- 1
        refine TrC.take rfl (step_indexAddrT (v := .agg [.i a.who, .b a.al, .i a.rt, .i a.rc, .b a.gv]) rfl rfl rfl sl22 (by omega) (by first | exact hget | simpa using hget) rfl rfl) ?_   -- 2
        refine TrC.take rfl (step_fieldAddrT rfl rfl fd31_3 rfl rfl rfl) ?_   -- 3
        refine TrC.take rfl (step_loadT1 rfl rfl ty3 rfl rfl) ?_   -- 4
        refine TrC.take rfl (step_bin rfl rfl rfl rfl rfl) ?_   -- 5
        refine TrC.take rfl (step_move rfl rfl rfl) ?_   -- 6
        refine TrC.cases (d := 110) rfl (fun h110 => ?_) (fun h110 => ?_)
        · -- t110 = true
          refine TrC.take ⟨_, _, rfl, rfl, rfl⟩ (step_move rfl rfl rfl) ?_   -- 7
          refine TrC.take ⟨_, _, rfl, rfl, rfl⟩ (step_move rfl rfl rfl) ?_   -- 8
          refine TrC.take ⟨_, _, rfl, rfl, rfl⟩ (step_indexAddrT (v := .agg [.i a.who, .b a.al, .i a.rt, .i a.rc, .b a.gv]) rfl rfl rfl sl22 (by omega) (by first | exact hget | simpa using hget) rfl rfl) ?_   -- 9
          refine TrC.take ⟨_, _, rfl, rfl, rfl⟩ (step_fieldAddrT rfl rfl fd31_0 rfl rfl rfl) ?_   -- 10
          refine TrC.take ⟨_, _, rfl, rfl, rfl⟩ (step_loadT1 rfl rfl ty3 rfl rfl) ?_   -- 11
          refine TrC.take ⟨_, _, rfl, rfl, rfl⟩ (step_bin rfl rfl rfl rfl rfl) ?_   -- 12
          refine TrC.take rfl (step_pick rfl rfl rfl rfl) ?_   -- 13
          refine TrC.take rfl (step_move rfl rfl rfl) ?_   -- 14
          refine TrC.cases (d := 118) rfl (fun h118 => ?_) (fun h118 => ?_)
          · -- t118 = true
            refine TrC.take ⟨_, _, rfl, rfl, rfl⟩ (step_move rfl rfl rfl) ?_   -- 15
            refine TrC.take ⟨_, _, rfl, rfl, rfl⟩ (step_move rfl rfl rfl) ?_   -- 16
            refine TrC.take ⟨_, _, rfl, rfl, rfl⟩ (step_indexAddrT (v := .agg [.i a.who, .b a.al, .i a.rt, .i a.rc, .b a.gv]) rfl rfl rfl sl22 (by omega) (by first | exact hget | simpa using hget) rfl rfl) ?_   -- 17
            refine TrC.take ⟨_, _, rfl, rfl, rfl⟩ (step_fieldAddrT rfl rfl fd31_1 rfl rfl rfl) ?_   -- 18
            refine TrC.take ⟨_, _, rfl, rfl, rfl⟩ (step_loadT1 rfl rfl ty4 rfl rfl) ?_   -- 19
            refine TrC.take rfl (step_pick rfl rfl rfl rfl) ?_   -- 20
            refine TrC.done ?_
            refine AT.cond rfl (fun h124 => ?_) (fun h124 => ?_)   -- t124
            · -- true
              refine AT.regionD mixed rfl ?_   -- region 22 law.go:105
              refine TrC.take rfl (step_indexAddrP rfl rfl rfl ar49 (by decide) (by decide) rfl) ?_   -- 0
              refine TrC.take rfl (step_loadP1 rfl rfl rfl ty3 rfl rfl) ?_   -- 1
              refine TrC.take rfl (step_move rfl rfl rfl) ?_   -- 2
              refine TrC.take rfl (step_move rfl rfl rfl) ?_   -- 3
              refine TrC.take rfl (step_indexAddrT (v := .agg [.i a.who, .b a.al, .i a.rt, .i a.rc, .b a.gv]) rfl rfl rfl sl22 (by omega) (by first | exact hget | simpa using hget) rfl rfl) ?_   -- 4
              refine TrC.take rfl (step_fieldAddrT rfl rfl fd31_2 rfl rfl rfl) ?_   -- 5
              refine TrC.take rfl (step_loadT1 rfl rfl ty3 rfl rfl) ?_   -- 6
              refine TrC.take rfl (step_bin rfl rfl rfl rfl rfl) ?_   -- 7
              refine TrC.spell 132 rfl (iv (b := iOr (orS (fun a => inh a && pWA (-1) true a) (z.take k)) a.rt) rfl) ?_
              refine TrC.take rfl (step_indexAddrP rfl rfl rfl ar49 (by decide) (by decide) rfl) ?_   -- 8
              refine TrC.take rfl (step_storeP rfl rfl rfl rfl rfl (.inl rfl) ty3 rfl rfl rfl) ?_   -- 9
              refine TrC.doneD rfl ?_
              refine AT.seq ?_
              refine AT.region ?_   -- region 23 law.go:107
              refine TrC.take rfl (step_move rfl rfl rfl) ?_   -- 0
              refine TrC.take rfl (step_move rfl rfl rfl) ?_   -- 1
              refine TrC.take rfl (step_indexAddrT (v := .agg [.i a.who, .b a.al, .i a.rt, .i a.rc, .b a.gv]) rfl rfl rfl sl22 (by omega) (by first | exact hget | simpa using hget) rfl rfl) ?_   -- 2
              refine TrC.take rfl (step_fieldAddrT rfl rfl fd31_3 rfl rfl rfl) ?_   -- 3
              refine TrC.take rfl (step_loadT1 rfl rfl ty3 rfl rfl) ?_   -- 4
              refine TrC.take rfl (step_bin rfl rfl rfl rfl rfl) ?_   -- 5
              refine TrC.take rfl (step_move rfl rfl rfl) ?_   -- 6
              refine TrC.cases (d := 140) rfl (fun h140 => ?_) (fun h140 => ?_)
              · -- t140 = true
                refine TrC.take ⟨_, _, rfl, rfl, rfl⟩ (step_move rfl rfl rfl) ?_   -- 7
                refine TrC.take ⟨_, _, rfl, rfl, rfl⟩ (step_move rfl rfl rfl) ?_   -- 8
                refine TrC.take ⟨_, _, rfl, rfl, rfl⟩ (step_indexAddrT (v := .agg [.i a.who, .b a.al, .i a.rt, .i a.rc, .b a.gv]) rfl rfl rfl sl22 (by omega) (by first | exact hget | simpa using hget) rfl rfl) ?_   -- 9
                refine TrC.take ⟨_, _, rfl, rfl, rfl⟩ (step_fieldAddrT rfl rfl fd31_0 rfl rfl rfl) ?_   -- 10
                refine TrC.take ⟨_, _, rfl, rfl, rfl⟩ (step_loadT1 rfl rfl ty3 rfl rfl) ?_   -- 11
                refine TrC.take ⟨_, _, rfl, rfl, rfl⟩ (step_bin rfl rfl rfl rfl rfl) ?_   -- 12
                refine TrC.take rfl (step_pick rfl rfl rfl rfl) ?_   -- 13
                refine TrC.take rfl (step_move rfl rfl rfl) ?_   -- 14
                refine TrC.cases (d := 148) rfl (fun h148 => ?_) (fun h148 => ?_)
                · -- t148 = true
                  refine TrC.take ⟨_, _, rfl, rfl, rfl⟩ (step_move rfl rfl rfl) ?_   -- 15
                  refine TrC.take ⟨_, _, rfl, rfl, rfl⟩ (step_move rfl rfl rfl) ?_   -- 16
                  refine TrC.take ⟨_, _, rfl, rfl, rfl⟩ (step_indexAddrT (v := .agg [.i a.who, .b a.al, .i a.rt, .i a.rc, .b a.gv]) rfl rfl rfl sl22 (by omega) (by first | exact hget | simpa using hget) rfl rfl) ?_   -- 17
                  refine TrC.take ⟨_, _, rfl, rfl, rfl⟩ (step_fieldAddrT rfl rfl fd31_1 rfl rfl rfl) ?_   -- 18
                  refine TrC.take ⟨_, _, rfl, rfl, rfl⟩ (step_loadT1 rfl rfl ty4 rfl rfl) ?_   -- 19
                  refine TrC.take ⟨_, _, rfl, rfl, rfl⟩ (step_not rfl rfl rfl) ?_   -- 20
                  refine TrC.take rfl (step_pick rfl rfl rfl rfl) ?_   -- 21
                  refine TrC.done ?_
                  refine AT.cond rfl (fun h155 => ?_) (fun h155 => ?_)   -- t155
                  · -- true
                    refine AT.regionD mixed rfl ?_   -- region 24 law.go:108
                    refine TrC.take rfl (step_indexAddrP rfl rfl rfl ar49 (by decide) (by decide) rfl) ?_   -- 0
                    refine TrC.take rfl (step_loadP1 rfl rfl rfl ty3 rfl rfl) ?_   -- 1
                    refine TrC.take rfl (step_move rfl rfl rfl) ?_   -- 2
                    refine TrC.take rfl (step_move rfl rfl rfl) ?_   -- 3
                    refine TrC.take rfl (step_indexAddrT (v := .agg [.i a.who, .b a.al, .i a.rt, .i a.rc, .b a.gv]) rfl rfl rfl sl22 (by omega) (by first | exact hget | simpa using hget) rfl rfl) ?_   -- 4
                    refine TrC.take rfl (step_fieldAddrT rfl rfl fd31_2 rfl rfl rfl) ?_   -- 5
                    refine TrC.take rfl (step_loadT1 rfl rfl ty3 rfl rfl) ?_   -- 6
                    refine TrC.take rfl (step_bin rfl rfl rfl rfl rfl) ?_   -- 7
                    refine TrC.spell 163 rfl (iv (b := iOr (orS (fun a => inh a && pWA 1 false a) (z.take k)) a.rt) rfl) ?_
                    refine TrC.take rfl (step_indexAddrP rfl rfl rfl ar49 (by decide) (by decide) rfl) ?_   -- 8
                    refine TrC.take rfl (step_storeP rfl rfl rfl rfl rfl (.inl rfl) ty3 rfl rfl rfl) ?_   -- 9
                    refine TrC.doneD rfl ?_
                    refine AT.region ?_   -- region 20 law.go:103
                    refine TrC.take rfl (step_move rfl rfl rfl) ?_   -- 0
                    refine TrC.take rfl (step_addI rfl rfl rfl (by first | omega | (simp; done) | (simp; omega)) (by first | omega | (simp; done) | (simp; omega)) rfl) ?_   -- 1
                    refine TrC.take rfl (step_assign rfl rfl rfl) ?_   -- 2
                    refine TrC.done ?_
                    exact ⟨k + 1, by show k + 1 ≤ z.length; omega, by show z.length - (k + 1) < z.length - k; omega, Sat.wk [] (.cons (.t (.refl _)) (.cons (.t (.refl _)) (.cons (.t (.refl _)) (.cons (.t (.refl _)) (.cons (.t (.refl _)) (.cons (.p rfl) (.cons (.p rfl) (.cons (.t (conv_i (by simp))) (.nil))))))))) (.cons rfl (.box (.cons (.t (.refl _)) (.cons (.t (.refl _)) (.nil)))) (.cons rfl (.box (.cons (.t (conv_i (by first | (rw [hnA, hwA, h110, h118, h124]; rfl) | (rw [hnA, hwA, h110, h118]; rfl) | (rw [hnA, hwA, h110]; rfl)))) (.cons (.t (conv_i (by first | (rw [hnB, hwB, h140, h148, h155]; rfl) | (rw [hnB, hwB, h140, h148]; rfl) | (rw [hnB, hwB, h140]; rfl)))) (.nil)))) (.nil))) rfl rfl⟩
                  · -- false
                    refine AT.skip ?_
                    refine AT.region ?_   -- region 20 law.go:103
                    refine TrC.take rfl (step_move rfl rfl rfl) ?_   -- 0
                    refine TrC.take rfl (step_addI rfl rfl rfl (by first | omega | (simp; done) | (simp; omega)) (by first | omega | (simp; done) | (simp; omega)) rfl) ?_   -- 1
                    refine TrC.take rfl (step_assign rfl rfl rfl) ?_   -- 2
                    refine TrC.done ?_
                    exact ⟨k + 1, by show k + 1 ≤ z.length; omega, by show z.length - (k + 1) < z.length - k; omega, Sat.wk [] (.cons (.t (.refl _)) (.cons (.t (.refl _)) (.cons (.t (.refl _)) (.cons (.t (.refl _)) (.cons (.t (.refl _)) (.cons (.p rfl) (.cons (.p rfl) (.cons (.t (conv_i (by simp))) (.nil))))))))) (.cons rfl (.box (.cons (.t (.refl _)) (.cons (.t (.refl _)) (.nil)))) (.cons rfl (.box (.cons (.t (conv_i (by first | (rw [hnA, hwA, h110, h118, h124]; rfl) | (rw [hnA, hwA, h110, h118]; rfl) | (rw [hnA, hwA, h110]; rfl)))) (.cons (.t (conv_i (by first | (rw [hnB, hwB, h140, h148, h155]; rfl) | (rw [hnB, hwB, h140, h148]; rfl) | (rw [hnB, hwB, h140]; rfl)))) (.nil)))) (.nil))) rfl rfl⟩
                · -- t148 = false
                  refine TrC.skip ⟨_, _, rfl, rfl, rfl⟩ ?_   -- 15
                  refine TrC.skip ⟨_, _, rfl, rfl, rfl⟩ ?_   -- 16
                  refine TrC.skip ⟨_, _, rfl, rfl, rfl⟩ ?_   -- 17
                  refine TrC.skip ⟨_, _, rfl, rfl, rfl⟩ ?_   -- 18
                  refine TrC.skip ⟨_, _, rfl, rfl, rfl⟩ ?_   -- 19
                  refine TrC.skip ⟨_, _, rfl, rfl, rfl⟩ ?_   -- 20
                  refine TrC.take rfl (step_pick rfl rfl rfl rfl) ?_   -- 21
                  refine TrC.done ?_
                  refine AT.condF rfl ?_   -- t155
                  refine AT.skip ?_
                  refine AT.region ?_   -- region 20 law.go:103
                  refine TrC.take rfl (step_move rfl rfl rfl) ?_   -- 0
                  refine TrC.take rfl (step_addI rfl rfl rfl (by first | omega | (simp; done) | (simp; omega)) (by first | omega | (simp; done) | (simp; omega)) rfl) ?_   -- 1
                  refine TrC.take rfl (step_assign rfl rfl rfl) ?_   -- 2
                  refine TrC.done ?_
                  exact ⟨k + 1, by show k + 1 ≤ z.length; omega, by show z.length - (k + 1) < z.length - k; omega, Sat.wk [] (.cons (.t (.refl _)) (.cons (.t (.refl _)) (.cons (.t (.refl _)) (.cons (.t (.refl _)) (.cons (.t (.refl _)) (.cons (.p rfl) (.cons (.p rfl) (.cons (.t (conv_i (by simp))) (.nil))))))))) (.cons rfl (.box (.cons (.t (.refl _)) (.cons (.t (.refl _)) (.nil)))) (.cons rfl (.box (.cons (.t (conv_i (by first | (rw [hnA, hwA, h110, h118, h124]; rfl) | (rw [hnA, hwA, h110, h118]; rfl) | (rw [hnA, hwA, h110]; rfl)))) (.cons (.t (conv_i (by first | (rw [hnB, hwB, h140, h148, h155]; rfl) | (rw [hnB, hwB, h140, h148]; rfl) | (rw [hnB, hwB, h140]; rfl)))) (.nil)))) (.nil))) rfl rfl⟩
              · -- t140 = false
                refine TrC.skip ⟨_, _, rfl, rfl, rfl⟩ ?_   -- 7
                refine TrC.skip ⟨_, _, rfl, rfl, rfl⟩ ?_   -- 8
                refine TrC.skip ⟨_, _, rfl, rfl, rfl⟩ ?_   -- 9
                refine TrC.skip ⟨_, _, rfl, rfl, rfl⟩ ?_   -- 10
                refine TrC.skip ⟨_, _, rfl, rfl, rfl⟩ ?_   -- 11
                refine TrC.skip ⟨_, _, rfl, rfl, rfl⟩ ?_   -- 12
                refine TrC.take rfl (step_pick rfl rfl rfl rfl) ?_   -- 13
                refine TrC.take rfl (step_move rfl rfl rfl) ?_   -- 14
                refine TrC.skip ⟨_, _, rfl, rfl, rfl⟩ ?_   -- 15
                refine TrC.skip ⟨_, _, rfl, rfl, rfl⟩ ?_   -- 16
                refine TrC.skip ⟨_, _, rfl, rfl, rfl⟩ ?_   -- 17
                refine TrC.skip ⟨_, _, rfl, rfl, rfl⟩ ?_   -- 18
                refine TrC.skip ⟨_, _, rfl, rfl, rfl⟩ ?_   -- 19
                refine TrC.skip ⟨_, _, rfl, rfl, rfl⟩ ?_   -- 20
                refine TrC.take rfl (step_pick rfl rfl rfl rfl) ?_   -- 21
                refine TrC.done ?_
                refine AT.condF rfl ?_   -- t155
                refine AT.skip ?_
                refine AT.region ?_   -- region 20 law.go:103
                refine TrC.take rfl (step_move rfl rfl rfl) ?_   -- 0
                refine TrC.take rfl (step_addI rfl rfl rfl (by first | omega | (simp; done) | (simp; omega)) (by first | omega | (simp; done) | (simp; omega)) rfl) ?_   -- 1
                refine TrC.take rfl (step_assign rfl rfl rfl) ?_   -- 2
                refine TrC.done ?_
                exact ⟨k + 1, by show k + 1 ≤ z.length; omega, by show z.length - (k + 1) < z.length - k; omega, Sat.wk [] (.cons (.t (.refl _)) (.cons (.t (.refl _)) (.cons (.t (.refl _)) (.cons (.t (.refl _)) (.cons (.t (.refl _)) (.cons (.p rfl) (.cons (.p rfl) (.cons (.t (conv_i (by simp))) (.nil))))))))) (.cons rfl (.box (.cons (.t (.refl _)) (.cons (.t (.refl _)) (.nil)))) (.cons rfl (.box (.cons (.t (conv_i (by first | (rw [hnA, hwA, h110, h118, h124]; rfl) | (rw [hnA, hwA, h110, h118]; rfl) | (rw [hnA, hwA, h110]; rfl)))) (.cons (.t (conv_i (by first | (rw [hnB, hwB, h140, h148, h155]; rfl) | (rw [hnB, hwB, h140, h148]; rfl) | (rw [hnB, hwB, h140]; rfl)))) (.nil)))) (.nil))) rfl rfl⟩
            · -- false
              refine AT.skip ?_
              refine AT.seq ?_
              refine AT.region ?_   -- region 23 law.go:107
              refine TrC.take rfl (step_move rfl rfl rfl) ?_   -- 0
              refine TrC.take rfl (step_move rfl rfl rfl) ?_   -- 1
              refine TrC.take rfl (step_indexAddrT (v := .agg [.i a.who, .b a.al, .i a.rt, .i a.rc, .b a.gv]) rfl rfl rfl sl22 (by omega) (by first | exact hget | simpa using hget) rfl rfl) ?_   -- 2
              refine TrC.take rfl (step_fieldAddrT rfl rfl fd31_3 rfl rfl rfl) ?_   -- 3
              refine TrC.take rfl (step_loadT1 rfl rfl ty3 rfl rfl) ?_   -- 4
              refine TrC.take rfl (step_bin rfl rfl rfl rfl rfl) ?_   -- 5
              refine TrC.take rfl (step_move rfl rfl rfl) ?_   -- 6
              refine TrC.cases (d := 140) rfl (fun h140 => ?_) (fun h140 => ?_)
              · -- t140 = true
                refine TrC.take ⟨_, _, rfl, rfl, rfl⟩ (step_move rfl rfl rfl) ?_   -- 7
                refine TrC.take ⟨_, _, rfl, rfl, rfl⟩ (step_move rfl rfl rfl) ?_   -- 8
                refine TrC.take ⟨_, _, rfl, rfl, rfl⟩ (step_indexAddrT (v := .agg [.i a.who, .b a.al, .i a.rt, .i a.rc, .b a.gv]) rfl rfl rfl sl22 (by omega) (by first | exact hget | simpa using hget) rfl rfl) ?_   -- 9
                refine TrC.take ⟨_, _, rfl, rfl, rfl⟩ (step_fieldAddrT rfl rfl fd31_0 rfl rfl rfl) ?_   -- 10
                refine TrC.take ⟨_, _, rfl, rfl, rfl⟩ (step_loadT1 rfl rfl ty3 rfl rfl) ?_   -- 11
                refine TrC.take ⟨_, _, rfl, rfl, rfl⟩ (step_bin rfl rfl rfl rfl rfl) ?_   -- 12
                refine TrC.take rfl (step_pick rfl rfl rfl rfl) ?_   -- 13
                refine TrC.take rfl (step_move rfl rfl rfl) ?_   -- 14
                refine TrC.cases (d := 148) rfl (fun h148 => ?_) (fun h148 => ?_)
                · -- t148 = true
                  refine TrC.take ⟨_, _, rfl, rfl, rfl⟩ (step_move rfl rfl rfl) ?_   -- 15
                  refine TrC.take ⟨_, _, rfl, rfl, rfl⟩ (step_move rfl rfl rfl) ?_   -- 16
                  refine TrC.take ⟨_, _, rfl, rfl, rfl⟩ (step_indexAddrT (v := .agg [.i a.who, .b a.al, .i a.rt, .i a.rc, .b a.gv]) rfl rfl rfl sl22 (by omega) (by first | exact hget | simpa using hget) rfl rfl) ?_   -- 17
                  refine TrC.take ⟨_, _, rfl, rfl, rfl⟩ (step_fieldAddrT rfl rfl fd31_1 rfl rfl rfl) ?_   -- 18
                  refine TrC.take ⟨_, _, rfl, rfl, rfl⟩ (step_loadT1 rfl rfl ty4 rfl rfl) ?_   -- 19
                  refine TrC.take ⟨_, _, rfl, rfl, rfl⟩ (step_not rfl rfl rfl) ?_   -- 20
                  refine TrC.take rfl (step_pick rfl rfl rfl rfl) ?_   -- 21
                  refine TrC.done ?_
                  refine AT.cond rfl (fun h155 => ?_) (fun h155 => ?_)   -- t155
                  · -- true
                    refine AT.regionD mixed rfl ?_   -- region 24 law.go:108
                    refine TrC.take rfl (step_indexAddrP rfl rfl rfl ar49 (by decide) (by decide) rfl) ?_   -- 0
                    refine TrC.take rfl (step_loadP1 rfl rfl rfl ty3 rfl rfl) ?_   -- 1
                    refine TrC.take rfl (step_move rfl rfl rfl) ?_   -- 2
                    refine TrC.take rfl (step_move rfl rfl rfl) ?_   -- 3
                    refine TrC.take rfl (step_indexAddrT (v := .agg [.i a.who, .b a.al, .i a.rt, .i a.rc, .b a.gv]) rfl rfl rfl sl22 (by omega) (by first | exact hget | simpa using hget) rfl rfl) ?_   -- 4
                    refine TrC.take rfl (step_fieldAddrT rfl rfl fd31_2 rfl rfl rfl) ?_   -- 5
                    refine TrC.take rfl (step_loadT1 rfl rfl ty3 rfl rfl) ?_   -- 6
                    refine TrC.take rfl (step_bin rfl rfl rfl rfl rfl) ?_   -- 7
                    refine TrC.spell 163 rfl (iv (b := iOr (orS (fun a => inh a && pWA 1 false a) (z.take k)) a.rt) rfl) ?_
                    refine TrC.take rfl (step_indexAddrP rfl rfl rfl ar49 (by decide) (by decide) rfl) ?_   -- 8
                    refine TrC.take rfl (step_storeP rfl rfl rfl rfl rfl (.inl rfl) ty3 rfl rfl rfl) ?_   -- 9
                    refine TrC.doneD rfl ?_
                    refine AT.region ?_   -- region 20 law.go:103
                    refine TrC.take rfl (step_move rfl rfl rfl) ?_   -- 0
                    refine TrC.take rfl (step_addI rfl rfl rfl (by first | omega | (simp; done) | (simp; omega)) (by first | omega | (simp; done) | (simp; omega)) rfl) ?_   -- 1
                    refine TrC.take rfl (step_assign rfl rfl rfl) ?_   -- 2
                    refine TrC.done ?_
                    exact ⟨k + 1, by show k + 1 ≤ z.length; omega, by show z.length - (k + 1) < z.length - k; omega, Sat.wk [] (.cons (.t (.refl _)) (.cons (.t (.refl _)) (.cons (.t (.refl _)) (.cons (.t (.refl _)) (.cons (.t (.refl _)) (.cons (.p rfl) (.cons (.p rfl) (.cons (.t (conv_i (by simp))) (.nil))))))))) (.cons rfl (.box (.cons (.t (.refl _)) (.cons (.t (.refl _)) (.nil)))) (.cons rfl (.box (.cons (.t (conv_i (by first | (rw [hnA, hwA, h110, h118, h124]; rfl) | (rw [hnA, hwA, h110, h118]; rfl) | (rw [hnA, hwA, h110]; rfl)))) (.cons (.t (conv_i (by first | (rw [hnB, hwB, h140, h148, h155]; rfl) | (rw [hnB, hwB, h140, h148]; rfl) | (rw [hnB, hwB, h140]; rfl)))) (.nil)))) (.nil))) rfl rfl⟩
                  · -- false
                    refine AT.skip ?_
                    refine AT.region ?_   -- region 20 law.go:103
                    refine TrC.take rfl (step_move rfl rfl rfl) ?_   -- 0
                    refine TrC.take rfl (step_addI rfl rfl rfl (by first | omega | (simp; done) | (simp; omega)) (by first | omega | (simp; done) | (simp; omega)) rfl) ?_   -- 1
                    refine TrC.take rfl (step_assign rfl rfl rfl) ?_   -- 2
                    refine TrC.done ?_
                    exact ⟨k + 1, by show k + 1 ≤ z.length; omega, by show z.length - (k + 1) < z.length - k; omega, Sat.wk [] (.cons (.t (.refl _)) (.cons (.t (.refl _)) (.cons (.t (.refl _)) (.cons (.t (.refl _)) (.cons (.t (.refl _)) (.cons (.p rfl) (.cons (.p rfl) (.cons (.t (conv_i (by simp))) (.nil))))))))) (.cons rfl (.box (.cons (.t (.refl _)) (.cons (.t (.refl _)) (.nil)))) (.cons rfl (.box (.cons (.t (conv_i (by first | (rw [hnA, hwA, h110, h118, h124]; rfl) | (rw [hnA, hwA, h110, h118]; rfl) | (rw [hnA, hwA, h110]; rfl)))) (.cons (.t (conv_i (by first | (rw [hnB, hwB, h140, h148, h155]; rfl) | (rw [hnB, hwB, h140, h148]; rfl) | (rw [hnB, hwB, h140]; rfl)))) (.nil)))) (.nil))) rfl rfl⟩
                · -- t148 = false
                  refine TrC.skip ⟨_, _, rfl, rfl, rfl⟩ ?_   -- 15
                  refine TrC.skip ⟨_, _, rfl, rfl, rfl⟩ ?_   -- 16
                  refine TrC.skip ⟨_, _, rfl, rfl, rfl⟩ ?_   -- 17
                  refine TrC.skip ⟨_, _, rfl, rfl, rfl⟩ ?_   -- 18
                  refine TrC.skip ⟨_, _, rfl, rfl, rfl⟩ ?_   -- 19
                  refine TrC.skip ⟨_, _, rfl, rfl, rfl⟩ ?_   -- 20
                  refine TrC.take rfl (step_pick rfl rfl rfl rfl) ?_   -- 21
                  refine TrC.done ?_
                  refine AT.condF rfl ?_   -- t155
                  refine AT.skip ?_
                  refine AT.region ?_   -- region 20 law.go:103
                  refine TrC.take rfl (step_move rfl rfl rfl) ?_   -- 0
                  refine TrC.take rfl (step_addI rfl rfl rfl (by first | omega | (simp; done) | (simp; omega)) (by first | omega | (simp; done) | (simp; omega)) rfl) ?_   -- 1
                  refine TrC.take rfl (step_assign rfl rfl rfl) ?_   -- 2
                  refine TrC.done ?_
                  exact ⟨k + 1, by show k + 1 ≤ z.length; omega, by show z.length - (k + 1) < z.length - k; omega, Sat.wk [] (.cons (.t (.refl _)) (.cons (.t (.refl _)) (.cons (.t (.refl _)) (.cons (.t (.refl _)) (.cons (.t (.refl _)) (.cons (.p rfl) (.cons (.p rfl) (.cons (.t (conv_i (by simp))) (.nil))))))))) (.cons rfl (.box (.cons (.t (.refl _)) (.cons (.t (.refl _)) (.nil)))) (.cons rfl (.box (.cons (.t (conv_i (by first | (rw [hnA, hwA, h110, h118, h124]; rfl) | (rw [hnA, hwA, h110, h118]; rfl) | (rw [hnA, hwA, h110]; rfl)))) (.cons (.t (conv_i (by first | (rw [hnB, hwB, h140, h148, h155]; rfl) | (rw [hnB, hwB, h140, h148]; rfl) | (rw [hnB, hwB, h140]; rfl)))) (.nil)))) (.nil))) rfl rfl⟩
              · -- t140 = false
                refine TrC.skip ⟨_, _, rfl, rfl, rfl⟩ ?_   -- 7
                refine TrC.skip ⟨_, _, rfl, rfl, rfl⟩ ?_   -- 8
                refine TrC.skip ⟨_, _, rfl, rfl, rfl⟩ ?_   -- 9
                refine TrC.skip ⟨_, _, rfl, rfl, rfl⟩ ?_   -- 10
                refine TrC.skip ⟨_, _, rfl, rfl, rfl⟩ ?_   -- 11
                refine TrC.skip ⟨_, _, rfl, rfl, rfl⟩ ?_   -- 12
                refine TrC.take rfl (step_pick rfl rfl rfl rfl) ?_   -- 13
                refine TrC.take rfl (step_move rfl rfl rfl) ?_   -- 14
                refine TrC.skip ⟨_, _, rfl, rfl, rfl⟩ ?_   -- 15
                refine TrC.skip ⟨_, _, rfl, rfl, rfl⟩ ?_   -- 16
                refine TrC.skip ⟨_, _, rfl, rfl, rfl⟩ ?_   -- 17
                refine TrC.skip ⟨_, _, rfl, rfl, rfl⟩ ?_   -- 18
                refine TrC.skip ⟨_, _, rfl, rfl, rfl⟩ ?_   -- 19
                refine TrC.skip ⟨_, _, rfl, rfl, rfl⟩ ?_   -- 20
                refine TrC.take rfl (step_pick rfl rfl rfl rfl) ?_   -- 21
                refine TrC.done ?_
                refine AT.condF rfl ?_   -- t155
                refine AT.skip ?_
                refine AT.region ?_   -- region 20 law.go:103
                refine TrC.take rfl (step_move rfl rfl rfl) ?_   -- 0
                refine TrC.take rfl (step_addI rfl rfl rfl (by first | omega | (simp; done) | (simp; omega)) (by first | omega | (simp; done) | (simp; omega)) rfl) ?_   -- 1
                refine TrC.take rfl (step_assign rfl rfl rfl) ?_   -- 2
                refine TrC.done ?_
                exact ⟨k + 1, by show k + 1 ≤ z.length; omega, by show z.length - (k + 1) < z.length - k; omega, Sat.wk [] (.cons (.t (.refl _)) (.cons (.t (.refl _)) (.cons (.t (.refl _)) (.cons (.t (.refl _)) (.cons (.t (.refl _)) (.cons (.p rfl) (.cons (.p rfl) (.cons (.t (conv_i (by simp))) (.nil))))))))) (.cons rfl (.box (.cons (.t (.refl _)) (.cons (.t (.refl _)) (.nil)))) (.cons rfl (.box (.cons (.t (conv_i (by first | (rw [hnA, hwA, h110, h118, h124]; rfl) | (rw [hnA, hwA, h110, h118]; rfl) | (rw [hnA, hwA, h110]; rfl)))) (.cons (.t (conv_i (by first | (rw [hnB, hwB, h140, h148, h155]; rfl) | (rw [hnB, hwB, h140, h148]; rfl) | (rw [hnB, hwB, h140]; rfl)))) (.nil)))) (.nil))) rfl rfl⟩
          · -- t118 = false
            refine TrC.skip ⟨_, _, rfl, rfl, rfl⟩ ?_   -- 15
            refine TrC.skip ⟨_, _, rfl, rfl, rfl⟩ ?_   -- 16
            refine TrC.skip ⟨_, _, rfl, rfl, rfl⟩ ?_   -- 17
            refine TrC.skip ⟨_, _, rfl, rfl, rfl⟩ ?_   -- 18
            refine TrC.skip ⟨_, _, rfl, rfl, rfl⟩ ?_   -- 19
            refine TrC.take rfl (step_pick rfl rfl rfl rfl) ?_   -- 20
            refine TrC.done ?_
            refine AT.condF rfl ?_   -- t124
            refine AT.skip ?_
            refine AT.seq ?_
            refine AT.region ?_   -- region 23 law.go:107
            refine TrC.take rfl (step_move rfl rfl rfl) ?_   -- 0
            refine TrC.take rfl (step_move rfl rfl rfl) ?_   -- 1
            refine TrC.take rfl (step_indexAddrT (v := .agg [.i a.who, .b a.al, .i a.rt, .i a.rc, .b a.gv]) rfl rfl rfl sl22 (by omega) (by first | exact hget | simpa using hget) rfl rfl) ?_   -- 2
            refine TrC.take rfl (step_fieldAddrT rfl rfl fd31_3 rfl rfl rfl) ?_   -- 3
            refine TrC.take rfl (step_loadT1 rfl rfl ty3 rfl rfl) ?_   -- 4
            refine TrC.take rfl (step_bin rfl rfl rfl rfl rfl) ?_   -- 5
            refine TrC.take rfl (step_move rfl rfl rfl) ?_   -- 6
            refine TrC.cases (d := 140) rfl (fun h140 => ?_) (fun h140 => ?_)
            · -- t140 = true
              refine TrC.take ⟨_, _, rfl, rfl, rfl⟩ (step_move rfl rfl rfl) ?_   -- 7
              refine TrC.take ⟨_, _, rfl, rfl, rfl⟩ (step_move rfl rfl rfl) ?_   -- 8
              refine TrC.take ⟨_, _, rfl, rfl, rfl⟩ (step_indexAddrT (v := .agg [.i a.who, .b a.al, .i a.rt, .i a.rc, .b a.gv]) rfl rfl rfl sl22 (by omega) (by first | exact hget | simpa using hget) rfl rfl) ?_   -- 9
              refine TrC.take ⟨_, _, rfl, rfl, rfl⟩ (step_fieldAddrT rfl rfl fd31_0 rfl rfl rfl) ?_   -- 10
              refine TrC.take ⟨_, _, rfl, rfl, rfl⟩ (step_loadT1 rfl rfl ty3 rfl rfl) ?_   -- 11
              refine TrC.take ⟨_, _, rfl, rfl, rfl⟩ (step_bin rfl rfl rfl rfl rfl) ?_   -- 12
              refine TrC.take rfl (step_pick rfl rfl rfl rfl) ?_   -- 13
              refine TrC.take rfl (step_move rfl rfl rfl) ?_   -- 14
              refine TrC.cases (d := 148) rfl (fun h148 => ?_) (fun h148 => ?_)
              · -- t148 = true
                refine TrC.take ⟨_, _, rfl, rfl, rfl⟩ (step_move rfl rfl rfl) ?_   -- 15
                refine TrC.take ⟨_, _, rfl, rfl, rfl⟩ (step_move rfl rfl rfl) ?_   -- 16
                refine TrC.take ⟨_, _, rfl, rfl, rfl⟩ (step_indexAddrT (v := .agg [.i a.who, .b a.al, .i a.rt, .i a.rc, .b a.gv]) rfl rfl rfl sl22 (by omega) (by first | exact hget | simpa using hget) rfl rfl) ?_   -- 17
                refine TrC.take ⟨_, _, rfl, rfl, rfl⟩ (step_fieldAddrT rfl rfl fd31_1 rfl rfl rfl) ?_   -- 18
                refine TrC.take ⟨_, _, rfl, rfl, rfl⟩ (step_loadT1 rfl rfl ty4 rfl rfl) ?_   -- 19
                refine TrC.take ⟨_, _, rfl, rfl, rfl⟩ (step_not rfl rfl rfl) ?_   -- 20
                refine TrC.take rfl (step_pick rfl rfl rfl rfl) ?_   -- 21
                refine TrC.done ?_
                refine AT.cond rfl (fun h155 => ?_) (fun h155 => ?_)   -- t155
                · -- true
                  refine AT.regionD mixed rfl ?_   -- region 24 law.go:108
                  refine TrC.take rfl (step_indexAddrP rfl rfl rfl ar49 (by decide) (by decide) rfl) ?_   -- 0
                  refine TrC.take rfl (step_loadP1 rfl rfl rfl ty3 rfl rfl) ?_   -- 1
                  refine TrC.take rfl (step_move rfl rfl rfl) ?_   -- 2
                  refine TrC.take rfl (step_move rfl rfl rfl) ?_   -- 3
                  refine TrC.take rfl (step_indexAddrT (v := .agg [.i a.who, .b a.al, .i a.rt, .i a.rc, .b a.gv]) rfl rfl rfl sl22 (by omega) (by first | exact hget | simpa using hget) rfl rfl) ?_   -- 4
                  refine TrC.take rfl (step_fieldAddrT rfl rfl fd31_2 rfl rfl rfl) ?_   -- 5
                  refine TrC.take rfl (step_loadT1 rfl rfl ty3 rfl rfl) ?_   -- 6
                  refine TrC.take rfl (step_bin rfl rfl rfl rfl rfl) ?_   -- 7
                  refine TrC.spell 163 rfl (iv (b := iOr (orS (fun a => inh a && pWA 1 false a) (z.take k)) a.rt) rfl) ?_
                  refine TrC.take rfl (step_indexAddrP rfl rfl rfl ar49 (by decide) (by decide) rfl) ?_   -- 8
                  refine TrC.take rfl (step_storeP rfl rfl rfl rfl rfl (.inl rfl) ty3 rfl rfl rfl) ?_   -- 9
                  refine TrC.doneD rfl ?_
                  refine AT.region ?_   -- region 20 law.go:103
                  refine TrC.take rfl (step_move rfl rfl rfl) ?_   -- 0
                  refine TrC.take rfl (step_addI rfl rfl rfl (by first | omega | (simp; done) | (simp; omega)) (by first | omega | (simp; done) | (simp; omega)) rfl) ?_   -- 1
                  refine TrC.take rfl (step_assign rfl rfl rfl) ?_   -- 2
                  refine TrC.done ?_
                  exact ⟨k + 1, by show k + 1 ≤ z.length; omega, by show z.length - (k + 1) < z.length - k; omega, Sat.wk [] (.cons (.t (.refl _)) (.cons (.t (.refl _)) (.cons (.t (.refl _)) (.cons (.t (.refl _)) (.cons (.t (.refl _)) (.cons (.p rfl) (.cons (.p rfl) (.cons (.t (conv_i (by simp))) (.nil))))))))) (.cons rfl (.box (.cons (.t (.refl _)) (.cons (.t (.refl _)) (.nil)))) (.cons rfl (.box (.cons (.t (conv_i (by first | (rw [hnA, hwA, h110, h118, h124]; rfl) | (rw [hnA, hwA, h110, h118]; rfl) | (rw [hnA, hwA, h110]; rfl)))) (.cons (.t (conv_i (by first | (rw [hnB, hwB, h140, h148, h155]; rfl) | (rw [hnB, hwB, h140, h148]; rfl) | (rw [hnB, hwB, h140]; rfl)))) (.nil)))) (.nil))) rfl rfl⟩
                · -- false
                  refine AT.skip ?_
                  refine AT.region ?_   -- region 20 law.go:103
                  refine TrC.take rfl (step_move rfl rfl rfl) ?_   -- 0
                  refine TrC.take rfl (step_addI rfl rfl rfl (by first | omega | (simp; done) | (simp; omega)) (by first | omega | (simp; done) | (simp; omega)) rfl) ?_   -- 1
                  refine TrC.take rfl (step_assign rfl rfl rfl) ?_   -- 2
                  refine TrC.done ?_
                  exact ⟨k + 1, by show k + 1 ≤ z.length; omega, by show z.length - (k + 1) < z.length - k; omega, Sat.wk [] (.cons (.t (.refl _)) (.cons (.t (.refl _)) (.cons (.t (.refl _)) (.cons (.t (.refl _)) (.cons (.t (.refl _)) (.cons (.p rfl) (.cons (.p rfl) (.cons (.t (conv_i (by simp))) (.nil))))))))) (.cons rfl (.box (.cons (.t (.refl _)) (.cons (.t (.refl _)) (.nil)))) (.cons rfl (.box (.cons (.t (conv_i (by first | (rw [hnA, hwA, h110, h118, h124]; rfl) | (rw [hnA, hwA, h110, h118]; rfl) | (rw [hnA, hwA, h110]; rfl)))) (.cons (.t (conv_i (by first | (rw [hnB, hwB, h140, h148, h155]; rfl) | (rw [hnB, hwB, h140, h148]; rfl) | (rw [hnB, hwB, h140]; rfl)))) (.nil)))) (.nil))) rfl rfl⟩
              · -- t148 = false
                refine TrC.skip ⟨_, _, rfl, rfl, rfl⟩ ?_   -- 15
                refine TrC.skip ⟨_, _, rfl, rfl, rfl⟩ ?_   -- 16
                refine TrC.skip ⟨_, _, rfl, rfl, rfl⟩ ?_   -- 17
                refine TrC.skip ⟨_, _, rfl, rfl, rfl⟩ ?_   -- 18
                refine TrC.skip ⟨_, _, rfl, rfl, rfl⟩ ?_   -- 19
                refine TrC.skip ⟨_, _, rfl, rfl, rfl⟩ ?_   -- 20
                refine TrC.take rfl (step_pick rfl rfl rfl rfl) ?_   -- 21
                refine TrC.done ?_
                refine AT.condF rfl ?_   -- t155
                refine AT.skip ?_
                refine AT.region ?_   -- region 20 law.go:103
                refine TrC.take rfl (step_move rfl rfl rfl) ?_   -- 0
                refine TrC.take rfl (step_addI rfl rfl rfl (by first | omega | (simp; done) | (simp; omega)) (by first | omega | (simp; done) | (simp; omega)) rfl) ?_   -- 1
                refine TrC.take rfl (step_assign rfl rfl rfl) ?_   -- 2
                refine TrC.done ?_
                exact ⟨k + 1, by show k + 1 ≤ z.length; omega, by show z.length - (k + 1) < z.length - k; omega, Sat.wk [] (.cons (.t (.refl _)) (.cons (.t (.refl _)) (.cons (.t (.refl _)) (.cons (.t (.refl _)) (.cons (.t (.refl _)) (.cons (.p rfl) (.cons (.p rfl) (.cons (.t (conv_i (by simp))) (.nil))))))))) (.cons rfl (.box (.cons (.t (.refl _)) (.cons (.t (.refl _)) (.nil)))) (.cons rfl (.box (.cons (.t (conv_i (by first | (rw [hnA, hwA, h110, h118, h124]; rfl) | (rw [hnA, hwA, h110, h118]; rfl) | (rw [hnA, hwA, h110]; rfl)))) (.cons (.t (conv_i (by first | (rw [hnB, hwB, h140, h148, h155]; rfl) | (rw [hnB, hwB, h140, h148]; rfl) | (rw [hnB, hwB, h140]; rfl)))) (.nil)))) (.nil))) rfl rfl⟩
            · -- t140 = false
              refine TrC.skip ⟨_, _, rfl, rfl, rfl⟩ ?_   -- 7
              refine TrC.skip ⟨_, _, rfl, rfl, rfl⟩ ?_   -- 8
              refine TrC.skip ⟨_, _, rfl, rfl, rfl⟩ ?_   -- 9
              refine TrC.skip ⟨_, _, rfl, rfl, rfl⟩ ?_   -- 10
              refine TrC.skip ⟨_, _, rfl, rfl, rfl⟩ ?_   -- 11
              refine TrC.skip ⟨_, _, rfl, rfl, rfl⟩ ?_   -- 12
              refine TrC.take rfl (step_pick rfl rfl rfl rfl) ?_   -- 13
              refine TrC.take rfl (step_move rfl rfl rfl) ?_   -- 14
              refine TrC.skip ⟨_, _, rfl, rfl, rfl⟩ ?_   -- 15
              refine TrC.skip ⟨_, _, rfl, rfl, rfl⟩ ?_   -- 16
              refine TrC.skip ⟨_, _, rfl, rfl, rfl⟩ ?_   -- 17
              refine TrC.skip ⟨_, _, rfl, rfl, rfl⟩ ?_   -- 18
              refine TrC.skip ⟨_, _, rfl, rfl, rfl⟩ ?_   -- 19
              refine TrC.skip ⟨_, _, rfl, rfl, rfl⟩ ?_   -- 20
              refine TrC.take rfl (step_pick rfl rfl rfl rfl) ?_   -- 21
              refine TrC.done ?_
              refine AT.condF rfl ?_   -- t155
              refine AT.skip ?_
              refine AT.region ?_   -- region 20 law.go:103
              refine TrC.take rfl (step_move rfl rfl rfl) ?_   -- 0
              refine TrC.take rfl (step_addI rfl rfl rfl (by first | omega | (simp; done) | (simp; omega)) (by first | omega | (simp; done) | (simp; omega)) rfl) ?_   -- 1
              refine TrC.take rfl (step_assign rfl rfl rfl) ?_   -- 2
              refine TrC.done ?_
              exact ⟨k + 1, by show k + 1 ≤ z.length; omega, by show z.length - (k + 1) < z.length - k; omega, Sat.wk [] (.cons (.t (.refl _)) (.cons (.t (.refl _)) (.cons (.t (.refl _)) (.cons (.t (.refl _)) (.cons (.t (.refl _)) (.cons (.p rfl) (.cons (.p rfl) (.cons (.t (conv_i (by simp))) (.nil))))))))) (.cons rfl (.box (.cons (.t (.refl _)) (.cons (.t (.refl _)) (.nil)))) (.cons rfl (.box (.cons (.t (conv_i (by first | (rw [hnA, hwA, h110, h118, h124]; rfl) | (rw [hnA, hwA, h110, h118]; rfl) | (rw [hnA, hwA, h110]; rfl)))) (.cons (.t (conv_i (by first | (rw [hnB, hwB, h140, h148, h155]; rfl) | (rw [hnB, hwB, h140, h148]; rfl) | (rw [hnB, hwB, h140]; rfl)))) (.nil)))) (.nil))) rfl rfl⟩
        · -- t110 = false
          refine TrC.skip ⟨_, _, rfl, rfl, rfl⟩ ?_   -- 7
          refine TrC.skip ⟨_, _, rfl, rfl, rfl⟩ ?_   -- 8
          refine TrC.skip ⟨_, _, rfl, rfl, rfl⟩ ?_   -- 9
          refine TrC.skip ⟨_, _, rfl, rfl, rfl⟩ ?_   -- 10
          refine TrC.skip ⟨_, _, rfl, rfl, rfl⟩ ?_   -- 11
          refine TrC.skip ⟨_, _, rfl, rfl, rfl⟩ ?_   -- 12
          refine TrC.take rfl (step_pick rfl rfl rfl rfl) ?_   -- 13
          refine TrC.take rfl (step_move rfl rfl rfl) ?_   -- 14
          refine TrC.skip ⟨_, _, rfl, rfl, rfl⟩ ?_   -- 15
          refine TrC.skip ⟨_, _, rfl, rfl, rfl⟩ ?_   -- 16
          refine TrC.skip ⟨_, _, rfl, rfl, rfl⟩ ?_   -- 17
          refine TrC.skip ⟨_, _, rfl, rfl, rfl⟩ ?_   -- 18
          refine TrC.skip ⟨_, _, rfl, rfl, rfl⟩ ?_   -- 19
          refine TrC.take rfl (step_pick rfl rfl rfl rfl) ?_   -- 20
          refine TrC.done ?_
          refine AT.condF rfl ?_   -- t124
          refine AT.skip ?_
          refine AT.seq ?_
          refine AT.region ?_   -- region 23 law.go:107
          refine TrC.take rfl (step_move rfl rfl rfl) ?_   -- 0
          refine TrC.take rfl (step_move rfl rfl rfl) ?_   -- 1
          refine TrC.take rfl (step_indexAddrT (v := .agg [.i a.who, .b a.al, .i a.rt, .i a.rc, .b a.gv]) rfl rfl rfl sl22 (by omega) (by first | exact hget | simpa using hget) rfl rfl) ?_   -- 2
          refine TrC.take rfl (step_fieldAddrT rfl rfl fd31_3 rfl rfl rfl) ?_   -- 3
          refine TrC.take rfl (step_loadT1 rfl rfl ty3 rfl rfl) ?_   -- 4
          refine TrC.take rfl (step_bin rfl rfl rfl rfl rfl) ?_   -- 5
          refine TrC.take rfl (step_move rfl rfl rfl) ?_   -- 6
          refine TrC.cases (d := 140) rfl (fun h140 => ?_) (fun h140 => ?_)
          · -- t140 = true
            refine TrC.take ⟨_, _, rfl, rfl, rfl⟩ (step_move rfl rfl rfl) ?_   -- 7
            refine TrC.take ⟨_, _, rfl, rfl, rfl⟩ (step_move rfl rfl rfl) ?_   -- 8
            refine TrC.take ⟨_, _, rfl, rfl, rfl⟩ (step_indexAddrT (v := .agg [.i a.who, .b a.al, .i a.rt, .i a.rc, .b a.gv]) rfl rfl rfl sl22 (by omega) (by first | exact hget | simpa using hget) rfl rfl) ?_   -- 9
            refine TrC.take ⟨_, _, rfl, rfl, rfl⟩ (step_fieldAddrT rfl rfl fd31_0 rfl rfl rfl) ?_   -- 10
            refine TrC.take ⟨_, _, rfl, rfl, rfl⟩ (step_loadT1 rfl rfl ty3 rfl rfl) ?_   -- 11
            refine TrC.take ⟨_, _, rfl, rfl, rfl⟩ (step_bin rfl rfl rfl rfl rfl) ?_   -- 12
            refine TrC.take rfl (step_pick rfl rfl rfl rfl) ?_   -- 13
            refine TrC.take rfl (step_move rfl rfl rfl) ?_   -- 14
            refine TrC.cases (d := 148) rfl (fun h148 => ?_) (fun h148 => ?_)
            · -- t148 = true
              refine TrC.take ⟨_, _, rfl, rfl, rfl⟩ (step_move rfl rfl rfl) ?_   -- 15
              refine TrC.take ⟨_, _, rfl, rfl, rfl⟩ (step_move rfl rfl rfl) ?_   -- 16
              refine TrC.take ⟨_, _, rfl, rfl, rfl⟩ (step_indexAddrT (v := .agg [.i a.who, .b a.al, .i a.rt, .i a.rc, .b a.gv]) rfl rfl rfl sl22 (by omega) (by first | exact hget | simpa using hget) rfl rfl) ?_   -- 17
              refine TrC.take ⟨_, _, rfl, rfl, rfl⟩ (step_fieldAddrT rfl rfl fd31_1 rfl rfl rfl) ?_   -- 18
              refine TrC.take ⟨_, _, rfl, rfl, rfl⟩ (step_loadT1 rfl rfl ty4 rfl rfl) ?_   -- 19
              refine TrC.take ⟨_, _, rfl, rfl, rfl⟩ (step_not rfl rfl rfl) ?_   -- 20
              refine TrC.take rfl (step_pick rfl rfl rfl rfl) ?_   -- 21
              refine TrC.done ?_
              refine AT.cond rfl (fun h155 => ?_) (fun h155 => ?_)   -- t155
              · -- true
                refine AT.regionD mixed rfl ?_   -- region 24 law.go:108
                refine TrC.take rfl (step_indexAddrP rfl rfl rfl ar49 (by decide) (by decide) rfl) ?_   -- 0
                refine TrC.take rfl (step_loadP1 rfl rfl rfl ty3 rfl rfl) ?_   -- 1
                refine TrC.take rfl (step_move rfl rfl rfl) ?_   -- 2
                refine TrC.take rfl (step_move rfl rfl rfl) ?_   -- 3
                refine TrC.take rfl (step_indexAddrT (v := .agg [.i a.who, .b a.al, .i a.rt, .i a.rc, .b a.gv]) rfl rfl rfl sl22 (by omega) (by first | exact hget | simpa using hget) rfl rfl) ?_   -- 4
                refine TrC.take rfl (step_fieldAddrT rfl rfl fd31_2 rfl rfl rfl) ?_   -- 5
                refine TrC.take rfl (step_loadT1 rfl rfl ty3 rfl rfl) ?_   -- 6
                refine TrC.take rfl (step_bin rfl rfl rfl rfl rfl) ?_   -- 7
                refine TrC.spell 163 rfl (iv (b := iOr (orS (fun a => inh a && pWA 1 false a) (z.take k)) a.rt) rfl) ?_
                refine TrC.take rfl (step_indexAddrP rfl rfl rfl ar49 (by decide) (by decide) rfl) ?_   -- 8
                refine TrC.take rfl (step_storeP rfl rfl rfl rfl rfl (.inl rfl) ty3 rfl rfl rfl) ?_   -- 9
                refine TrC.doneD rfl ?_
                refine AT.region ?_   -- region 20 law.go:103
                refine TrC.take rfl (step_move rfl rfl rfl) ?_   -- 0
                refine TrC.take rfl (step_addI rfl rfl rfl (by first | omega | (simp; done) | (simp; omega)) (by first | omega | (simp; done) | (simp; omega)) rfl) ?_   -- 1
                refine TrC.take rfl (step_assign rfl rfl rfl) ?_   -- 2
                refine TrC.done ?_
                exact ⟨k + 1, by show k + 1 ≤ z.length; omega, by show z.length - (k + 1) < z.length - k; omega, Sat.wk [] (.cons (.t (.refl _)) (.cons (.t (.refl _)) (.cons (.t (.refl _)) (.cons (.t (.refl _)) (.cons (.t (.refl _)) (.cons (.p rfl) (.cons (.p rfl) (.cons (.t (conv_i (by simp))) (.nil))))))))) (.cons rfl (.box (.cons (.t (.refl _)) (.cons (.t (.refl _)) (.nil)))) (.cons rfl (.box (.cons (.t (conv_i (by first | (rw [hnA, hwA, h110, h118, h124]; rfl) | (rw [hnA, hwA, h110, h118]; rfl) | (rw [hnA, hwA, h110]; rfl)))) (.cons (.t (conv_i (by first | (rw [hnB, hwB, h140, h148, h155]; rfl) | (rw [hnB, hwB, h140, h148]; rfl) | (rw [hnB, hwB, h140]; rfl)))) (.nil)))) (.nil))) rfl rfl⟩
              · -- false
                refine AT.skip ?_
                refine AT.region ?_   -- region 20 law.go:103
                refine TrC.take rfl (step_move rfl rfl rfl) ?_   -- 0
                refine TrC.take rfl (step_addI rfl rfl rfl (by first | omega | (simp; done) | (simp; omega)) (by first | omega | (simp; done) | (simp; omega)) rfl) ?_   -- 1
                refine TrC.take rfl (step_assign rfl rfl rfl) ?_   -- 2
                refine TrC.done ?_
                exact ⟨k + 1, by show k + 1 ≤ z.length; omega, by show z.length - (k + 1) < z.length - k; omega, Sat.wk [] (.cons (.t (.refl _)) (.cons (.t (.refl _)) (.cons (.t (.refl _)) (.cons (.t (.refl _)) (.cons (.t (.refl _)) (.cons (.p rfl) (.cons (.p rfl) (.cons (.t (conv_i (by simp))) (.nil))))))))) (.cons rfl (.box (.cons (.t (.refl _)) (.cons (.t (.refl _)) (.nil)))) (.cons rfl (.box (.cons (.t (conv_i (by first | (rw [hnA, hwA, h110, h118, h124]; rfl) | (rw [hnA, hwA, h110, h118]; rfl) | (rw [hnA, hwA, h110]; rfl)))) (.cons (.t (conv_i (by first | (rw [hnB, hwB, h140, h148, h155]; rfl) | (rw [hnB, hwB, h140, h148]; rfl) | (rw [hnB, hwB, h140]; rfl)))) (.nil)))) (.nil))) rfl rfl⟩
            · -- t148 = false
              refine TrC.skip ⟨_, _, rfl, rfl, rfl⟩ ?_   -- 15
              refine TrC.skip ⟨_, _, rfl, rfl, rfl⟩ ?_   -- 16
              refine TrC.skip ⟨_, _, rfl, rfl, rfl⟩ ?_   -- 17
              refine TrC.skip ⟨_, _, rfl, rfl, rfl⟩ ?_   -- 18
              refine TrC.skip ⟨_, _, rfl, rfl, rfl⟩ ?_   -- 19
              refine TrC.skip ⟨_, _, rfl, rfl, rfl⟩ ?_   -- 20
              refine TrC.take rfl (step_pick rfl rfl rfl rfl) ?_   -- 21
              refine TrC.done ?_
              refine AT.condF rfl ?_   -- t155
              refine AT.skip ?_
              refine AT.region ?_   -- region 20 law.go:103
              refine TrC.take rfl (step_move rfl rfl rfl) ?_   -- 0
              refine TrC.take rfl (step_addI rfl rfl rfl (by first | omega | (simp; done) | (simp; omega)) (by first | omega | (simp; done) | (simp; omega)) rfl) ?_   -- 1
              refine TrC.take rfl (step_assign rfl rfl rfl) ?_   -- 2
              refine TrC.done ?_
              exact ⟨k + 1, by show k + 1 ≤ z.length; omega, by show z.length - (k + 1) < z.length - k; omega, Sat.wk [] (.cons (.t (.refl _)) (.cons (.t (.refl _)) (.cons (.t (.refl _)) (.cons (.t (.refl _)) (.cons (.t (.refl _)) (.cons (.p rfl) (.cons (.p rfl) (.cons (.t (conv_i (by simp))) (.nil))))))))) (.cons rfl (.box (.cons (.t (.refl _)) (.cons (.t (.refl _)) (.nil)))) (.cons rfl (.box (.cons (.t (conv_i (by first | (rw [hnA, hwA, h110, h118, h124]; rfl) | (rw [hnA, hwA, h110, h118]; rfl) | (rw [hnA, hwA, h110]; rfl)))) (.cons (.t (conv_i (by first | (rw [hnB, hwB, h140, h148, h155]; rfl) | (rw [hnB, hwB, h140, h148]; rfl) | (rw [hnB, hwB, h140]; rfl)))) (.nil)))) (.nil))) rfl rfl⟩
          · -- t140 = false
            refine TrC.skip ⟨_, _, rfl, rfl, rfl⟩ ?_   -- 7
            refine TrC.skip ⟨_, _, rfl, rfl, rfl⟩ ?_   -- 8
            refine TrC.skip ⟨_, _, rfl, rfl, rfl⟩ ?_   -- 9
            refine TrC.skip ⟨_, _, rfl, rfl, rfl⟩ ?_   -- 10
            refine TrC.skip ⟨_, _, rfl, rfl, rfl⟩ ?_   -- 11
            refine TrC.skip ⟨_, _, rfl, rfl, rfl⟩ ?_   -- 12
            refine TrC.take rfl (step_pick rfl rfl rfl rfl) ?_   -- 13
            refine TrC.take rfl (step_move rfl rfl rfl) ?_   -- 14
            refine TrC.skip ⟨_, _, rfl, rfl, rfl⟩ ?_   -- 15
            refine TrC.skip ⟨_, _, rfl, rfl, rfl⟩ ?_   -- 16
            refine TrC.skip ⟨_, _, rfl, rfl, rfl⟩ ?_   -- 17
            refine TrC.skip ⟨_, _, rfl, rfl, rfl⟩ ?_   -- 18
            refine TrC.skip ⟨_, _, rfl, rfl, rfl⟩ ?_   -- 19
            refine TrC.skip ⟨_, _, rfl, rfl, rfl⟩ ?_   -- 20
            refine TrC.take rfl (step_pick rfl rfl rfl rfl) ?_   -- 21
            refine TrC.done ?_
            refine AT.condF rfl ?_   -- t155
            refine AT.skip ?_
            refine AT.region ?_   -- region 20 law.go:103
            refine TrC.take rfl (step_move rfl rfl rfl) ?_   -- 0
            refine TrC.take rfl (step_addI rfl rfl rfl (by first | omega | (simp; done) | (simp; omega)) (by first | omega | (simp; done) | (simp; omega)) rfl) ?_   -- 1
            refine TrC.take rfl (step_assign rfl rfl rfl) ?_   -- 2
            refine TrC.done ?_
            exact ⟨k + 1, by show k + 1 ≤ z.length; omega, by show z.length - (k + 1) < z.length - k; omega, Sat.wk [] (.cons (.t (.refl _)) (.cons (.t (.refl _)) (.cons (.t (.refl _)) (.cons (.t (.refl _)) (.cons (.t (.refl _)) (.cons (.p rfl) (.cons (.p rfl) (.cons (.t (conv_i (by simp))) (.nil))))))))) (.cons rfl (.box (.cons (.t (.refl _)) (.cons (.t (.refl _)) (.nil)))) (.cons rfl (.box (.cons (.t (conv_i (by first | (rw [hnA, hwA, h110, h118, h124]; rfl) | (rw [hnA, hwA, h110, h118]; rfl) | (rw [hnA, hwA, h110]; rfl)))) (.cons (.t (conv_i (by first | (rw [hnB, hwB, h140, h148, h155]; rfl) | (rw [hnB, hwB, h140, h148]; rfl) | (rw [hnB, hwB, h140]; rfl)))) (.nil)))) (.nil))) rfl rfl⟩
      · -- false
        have hzend : z.take k = z := List.take_of_length_le (by have h := h101; simp at h; omega)
        have e1 : orS (pWA (-1) true) c = orS (fun a => inh a && pWA (-1) true a) (z.take k) := by rw [hzend, hc]; exact child_orS _ _ _ _
        have e2 : orS (pWA 1 false) c = orS (fun a => inh a && pWA 1 false a) (z.take k) := by rw [hzend, hc]; exact child_orS _ _ _ _
        refine AT.exit (Or.inl ⟨rfl, ?_⟩)   -- exit 2
        refine AT.seq ?_
        refine AT.region ?_   -- region 25 law.go:111
        refine TrC.take rfl (step_loadPN rfl rfl rfl ty49 rfl rfl rfl) ?_   -- 0
        refine TrC.take rfl (step_loadPN rfl rfl rfl ty49 rfl rfl rfl) ?_   -- 1
        refine TrC.take rfl (step_eqa rfl rfl rfl rfl rfl ty49 eg49 (eq49 _ _ _ _) rfl) ?_   -- 2
        refine TrC.spell 167 rfl (bv (b := true) (by rw [e1, e2]; simp)) ?_
        refine TrC.take rfl (step_move rfl rfl rfl) ?_   -- 3
        refine TrC.take ⟨_, _, rfl, rfl, rfl⟩ (step_move rfl rfl rfl) ?_   -- 4
        refine TrC.take ⟨_, _, rfl, rfl, rfl⟩ (step_call0 rfl rfl (C21 z true (by omega)) rfl) ?_   -- 5
        refine TrC.take ⟨_, _, rfl, rfl, rfl⟩ (step_move rfl rfl rfl) ?_   -- 6
        refine TrC.take ⟨_, _, rfl, rfl, rfl⟩ (step_call0 rfl rfl ((C21 (child z true) d (by omega)).eq (congrArg (fun l : List Ace => T.slice 5 (l.map encA)) ((child_child z d).trans hc.symm))) rfl) ?_   -- 7
        refine TrC.take ⟨_, _, rfl, rfl, rfl⟩ (step_move rfl rfl rfl) ?_   -- 8
        refine TrC.take ⟨_, _, rfl, rfl, rfl⟩ (step_call0 rfl rfl (C20 c c (by omega)) rfl) ?_   -- 9
        refine TrC.spell 174 rfl (bv (b := true) (by simp)) ?_
        refine TrC.take rfl (step_pick rfl rfl rfl rfl) ?_   -- 10
        refine TrC.take rfl (step_move rfl rfl rfl) ?_   -- 11
        refine TrC.take ⟨_, _, rfl, rfl, rfl⟩ (step_move rfl rfl rfl) ?_   -- 12
        refine TrC.take rfl (step_pick rfl rfl rfl rfl) ?_   -- 13
        refine TrC.take rfl (step_assign rfl rfl rfl) ?_   -- 14
        refine TrC.done ?_
        refine AT.ret ?_
        exact Ret.one rfl (ResR.tmp rfl (conv_b rfl))

end Go.Proofs.Ytgblfhobiibeaaa.Acl

/- AclChild: from the function's contract to arguments as they come. No condition. -/
set_option linter.unusedVariables false
namespace Go.Proofs.Ytgblfhobiibeaaa.aclChild
open Go.Proofs.Ytgblfhobiibeaaa.Abs Go.Proofs.Ytgblfhobiibeaaa.Acl Go.RowKit
theorem AclChild_has (x0 x1 : T) (f0 : Fits Try.prog 23 x0.cells) (a0 : (∃ l, x0 = .agg l) ↔ (partsOf Try.prog 23).isSome = true) (f1 : Fits Try.prog 4 x1.cells) (a1 : (∃ l, x1 = .agg l) ↔ (partsOf Try.prog 4).isSome = true) : Has Try.prog 5 [x0, x1] (.b true) := by
  obtain ⟨m1, rfl, hb1⟩ := fitB3 f0 a0 (e := 45) (by kernel_rfl) (by kernel_rfl) (by kernel_rfl)
  obtain ⟨d, rfl⟩ := boolV f1 a1 (by kernel_rfl)
  exact C5 m1 hb1 d
end Go.Proofs.Ytgblfhobiibeaaa.aclChild

/- The statement AclChildSaid is proved here: the law's function returns true for all its arguments and panics for none. No condition. -/
namespace Go.Proofs.Ytgblfhobiibeaaa.aclChild
open Go.ChangeShapes Go.WideShapes Go.ChangeAt Go.RowKit
open Go.Proofs.Ytgblfhobiibeaaa.Abs
set_option linter.unusedVariables false
theorem own : ownKnob Try.prog.godebug = none := by kernel_rfl
theorem laidOut : laidOutB Try.prog = true := by kernel_rfl
set_option maxRecDepth 100000 in
theorem lifted (os : Os) (started : os.Started) (H : Type) (enc : TypeId × Value → H) :
    ReturnsInHanded {} Try.checked os 5 .any (Rows.aclChildSpec.pre6 enc Try.prog Try.f5 Rows.aclChildRow.domain false) (Rows.aclChildSpec.post enc Try.prog Try.f5 false true false false) := by
  refine returnsInHanded_of_change_sized (C := Try.checked) own started (by kernel_rfl) Try.func5
    (ChangeSpec.witness6 (enc := enc) (C := Try.checked) false ⟨#[], #[.slice none 0 0, .bool false], []⟩ 8 (by kernel_rfl) (by kernel_rfl) (by kernel_rfl) (by kernel_rfl)) ?_
  intro W base args ds gs before hval0 hW hcnd hsz0 _
  have hval : ∀ (j : Nat) t v, Try.f5.params[j]? = some t → args[j]? = some v → Value.okWide Try.prog W .any base t v := hval0
  have hW' := hW
  obtain ⟨p, q, hA0, hV, rfl, hfz, hnd⟩ := hW
  have hA : DataW.TrodAll enc Try.prog W 0 (fun _ => true) true Try.f5.params.toList args.toList ds p := hA0
  rw [show Try.f5.params = #[23, 4] from by kernel_rfl] at hA hval
  obtain ⟨v0, vs0, d0, ds0, p0, q0, hargs, rfl, rfl, h0, r0⟩ := trodAll_cons hA
  obtain ⟨v1, vs1, d1, ds1, p1, q1, rfl, rfl, rfl, h1, r1⟩ := trodAll_cons r0
  obtain ⟨rfl, rfl, rfl⟩ := trodAll_nil r1
  obtain rfl : args = #[v0, v1] := by cases args; simp_all
  obtain ⟨rfl, rfl⟩ := trodVars_none hV
  have lt0 : ∀ x ∈ p0, x.block < W.heap.size := by obtain ⟨m, hm⟩ := h0; exact DataW.trod_lt m _ _ _ hm
  obtain ⟨x0, rd0, ft0, ag0⟩ := Trod_reads 8 (by kernel_rfl) (hval 0 23 v0 rfl rfl) h0
  have lt1 : ∀ x ∈ p1, x.block < W.heap.size := by obtain ⟨m, hm⟩ := h1; exact DataW.trod_lt m _ _ _ hm
  obtain ⟨x1, rd1, ft1, ag1⟩ := Trod_reads 8 (by kernel_rfl) (hval 1 4 v1 rfl rfl) h1
  have hh := AclChild_has x0 x1 ft0 ag0 ft1 ag1
  refine (hh.2 W (okW W) #[v0, v1] (fun _ h => h) rfl ?_).mono fun e W' hx => ?_
  · intro i h1 h2
    rcases i with _ | i; exact rd0; rcases i with _ | i; exact rd1; simp at h1 <;> omega
  · obtain ⟨v, he, hr, bel⟩ := hx
    subst he
    cases hr with
    | v _ =>
      exact ⟨_, rfl, _, _, _, [], _, [], hW', trodAll_mk1 (shut_bool (show Try.prog.underlying 4 = some .bool by kernel_rfl) _), (trodAll_cons_mk (Below.trod laidOut (by kernel_rfl) (of_decide_eq_true (by kernel_rfl)) h0 bel lt0) (trodAll_cons_mk (Below.trod laidOut (by kernel_rfl) (of_decide_eq_true (by kernel_rfl)) h1 bel lt1) trodAll_mk0)), rfl, bel.frame _, fun h => by cases h⟩
theorem over : Rows.aclChildRow.holds Try.pinned (OpenSpec.ofChange Rows.aclChildSpec) :=
  OpenClaim.holds_of_wide 5 Try.f5 rfl rfl rfl rfl rfl rfl rfl ⟨rfl, rfl, rfl, rfl, rfl⟩ rfl rfl rfl rfl rfl (by kernel_rfl) Try.func5 (by kernel_rfl)
    (of_decide_eq_true (by kernel_rfl)) (by unfold Func.isWrapper; first | (rw [if_pos (by decide +kernel)]; kernel_rfl) | (rw [if_neg (by decide +kernel)]; exact ⟨rfl, rfl⟩))
    (fun os started H enc _ => lifted os started H enc)
theorem proved : Rows.AclChildSaid := over
#print axioms proved
end Go.Proofs.Ytgblfhobiibeaaa.aclChild
namespace Go.Proofs.Ytgblfhobiibeaaa
/-- The row, under a short name, for the claim. -/
theorem aclChild_holds : Rows.AclChildSaid := aclChild.proved
end Go.Proofs.Ytgblfhobiibeaaa

