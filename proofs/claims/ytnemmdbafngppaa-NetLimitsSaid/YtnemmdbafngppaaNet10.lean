/- Parts of this proof, one after the other; each says what it proves. No condition. -/
import Derived.Test.YtnemmdbafngppaaMF
import Derived.Test.YtnemmdbafngppaaMG
import Derived.Test.YtnemmdbafngppaaRows
import Derived.Test.YtnemmdbafngppaaMC
import Derived.WalkKit
import Derived.ProofKit
import Derived.OpenShut
import Derived.ShutString
import Derived.ChangeOld
import Derived.Below
import Derived.Carry
import Derived.SizedLaws
/- Contracts of functions of this translation. Printed by wip/tools/gen.py out of wip/net/ann.py. No condition. -/
set_option linter.unusedVariables false
set_option linter.unusedSimpArgs false
namespace Go.Proofs.Ytnemmdbafngppaa.Net
open Go.Proofs.Ytnemmdbafngppaa.Abs
set_option maxRecDepth 100000
set_option maxHeartbeats 4000000
theorem C10 (w0 w1 : Int) (m : Int) (hm : 0 ≤ m ∧ m ≤ 255) : Has Try.prog 10 [.agg [.i w0, .i w1], .u8 m] (.b true) := by   -- burgage/burgagelaw32.NetLimits
  refine Has.intro 173 Try.func10 (by kernel_rfl) rfl rfl fun w ok => ?_
  refine AT.seq ?_
  refine AT.region ?_   -- region 0 law.go:263
  refine TrC.take rfl (step_box rfl rfl rfl rfl rfl rfl rfl) ?_   -- 0
  refine TrC.take rfl (step_assign rfl rfl rfl) ?_   -- 1
  refine TrC.done ?_
  refine AT.seq ?_
  refine AT.region ?_   -- region 1 law.go:264
  refine TrC.take rfl (step_call0 rfl rfl (C11) rfl) ?_   -- 0
  refine TrC.take rfl (step_assign rfl rfl rfl) ?_   -- 1
  refine TrC.done ?_
  refine AT.seq ?_
  refine AT.region ?_   -- region 2 law.go:265
  refine TrC.take rfl (step_move rfl rfl rfl) ?_   -- 0
  refine TrC.take rfl (step_convI rfl rfl in5 in3 (by omega) (by omega) rfl) ?_   -- 1
  refine TrC.take rfl (step_addI rfl rfl rfl (by first | omega | (simp; done) | (simp; omega)) (by first | omega | (simp; done) | (simp; omega)) rfl) ?_   -- 2
  refine TrC.take rfl (step_buildS rfl ze30 rfl pl30 rfl rfl rfl rfl) ?_   -- 3
  refine TrC.take rfl (step_allocC rfl rfl ze30 zc30 rfl rfl rfl) ?_   -- 4
  refine TrC.take rfl (step_storeP rfl rfl rfl rfl rfl (.inl rfl) ty30 rfl rfl rfl) ?_   -- 5
  refine TrC.done ?_
  refine AT.seq ?_
  refine AT.seq ?_
  refine AT.nilCell 6 0 100 25 3 rfl rfl rfl ?_
  refine AT.nilCell 6 1 101 32 2 rfl rfl rfl ?_
  refine AT.region ?_   -- region 3 law.go:266
  refine TrC.take rfl (step_assign rfl rfl rfl) ?_   -- 0
  refine TrC.done ?_
  refine AT.block ?_   -- block 0
  refine AT.loopP (fun i : Nat => i ≤ 200) (fun i => mkS [(2, .p 2 0), (5, .t (.b true)), (6, .p 6 0), (7, .t (.i i))] [(2, .box 32 [.t (.i w0), .t (.i w1)]), (6, .box 30 [.h 100, .h 101, .t (.i (1 + m + i))]), (100, .row 25 3 ((fN m i).fl.map encP)), (101, .row 32 2 ((fN m i).cuts.map encC))]) (fun i => 200 - i) (0) (Nat.zero_le _) (fun a w hs => Sat.wk [] (.cons (.p rfl) (.cons (.t (.refl _)) (.cons (.p rfl) (.cons (.t (.refl _)) (.nil))))) (.cons rfl (.box (.cons (.t (.refl _)) (.cons (.t (.refl _)) (.nil)))) (.cons rfl (.box (.cons (.h rfl) (.cons (.h rfl) (.cons (.t (conv_i (by simp))) .nil)))) (.cons rfl (.row rfl) (.cons rfl (.row rfl) (.nil))))) rfl rfl a w hs) (fun ix hix => ?_)
  have hln0 := fN_len m ix
  refine AT.seq ?_
  refine AT.seq ?_
  refine AT.region ?_   -- region 4 law.go:266
  refine TrC.take rfl (step_move rfl rfl rfl) ?_   -- 0
  refine TrC.take rfl (step_bin rfl rfl rfl rfl rfl) ?_   -- 1
  refine TrC.done ?_
  refine AT.cond rfl (fun h18 => ?_) (fun h18 => ?_)   -- t18
  · -- true
    have hlt : ix < 200 := by have h := h18; simp at h; omega
    refine AT.skip ?_
    refine AT.seq ?_
    refine AT.block ?_   -- block 1
    refine AT.seq ?_
    refine AT.region ?_   -- region 6 law.go:267
    refine TrC.take rfl (step_fieldAddrP rfl rfl fd30_0 rfl rfl) ?_   -- 0
    refine TrC.take rfl (step_loadP1 rfl rfl rfl ty27 rfl rfl) ?_   -- 1
    refine TrC.take rfl (step_fieldAddrP rfl rfl fd30_2 rfl rfl) ?_   -- 2
    refine TrC.take rfl (step_loadP1 rfl rfl rfl ty3 rfl rfl) ?_   -- 3
    refine TrC.take rfl (step_move rfl rfl rfl) ?_   -- 4
    refine TrC.take rfl (step_move rfl rfl rfl) ?_   -- 5
    refine TrC.take rfl (step_addI rfl rfl rfl (by first | omega | (simp; done) | (simp; omega)) (by first | omega | (simp; done) | (simp; omega)) rfl) ?_   -- 6
    refine TrC.take rfl (step_buildS rfl ze25 rfl pl25 rfl rfl rfl rfl) ?_   -- 7
    refine TrC.take rfl (step_buildSliceT rfl sl27 ze25 rfl rfl rfl rfl rfl rfl rfl rfl rfl rfl rfl rfl) ?_   -- 8
    first | refine TrC.take rfl (step_append rfl rfl rfl rfl rfl (.refl _) sl27 ze25 rfl rfl rfl (by first | (simp; done) | (simp; omega) | omega) rfl rfl) ?_ | refine TrC.take rfl (step_append_nil rfl rfl rfl rfl (.refl _) sl27 ze25 rfl rfl rfl (by first | (simp; done) | (simp; omega) | omega) rfl rfl) ?_   -- 9
    refine TrC.take rfl (step_fieldAddrP rfl rfl fd30_0 rfl rfl) ?_   -- 10
    refine TrC.take rfl (step_storeP rfl rfl rfl rfl rfl (.inr ⟨_, _, _, _, rfl, rfl⟩) ty27 rfl rfl rfl) ?_   -- 11
    refine TrC.done ?_
    refine AT.seq ?_
    refine AT.region ?_   -- region 7 law.go:268
    refine TrC.take rfl (step_fieldAddrP rfl rfl fd30_1 rfl rfl) ?_   -- 0
    refine TrC.take rfl (step_loadP1 rfl rfl rfl ty28 rfl rfl) ?_   -- 1
    refine TrC.take rfl (step_move rfl rfl rfl) ?_   -- 2
    refine TrC.take rfl (step_move rfl rfl rfl) ?_   -- 3
    refine TrC.take rfl (step_addI rfl rfl rfl (by first | omega | (simp; done) | (simp; omega)) (by first | omega | (simp; done) | (simp; omega)) rfl) ?_   -- 4
    refine TrC.take rfl (step_buildA rfl ze32 rfl ar32 rfl rfl rfl rfl) ?_   -- 5
    refine TrC.take rfl (step_buildSliceT rfl sl28 ze32 rfl rfl rfl rfl rfl rfl rfl rfl rfl rfl rfl rfl) ?_   -- 6
    first | refine TrC.take rfl (step_append rfl rfl rfl rfl rfl (.refl _) sl28 ze32 rfl rfl rfl (by first | (simp; done) | (simp; omega) | omega) rfl rfl) ?_ | refine TrC.take rfl (step_append_nil rfl rfl rfl rfl (.refl _) sl28 ze32 rfl rfl rfl (by first | (simp; done) | (simp; omega) | omega) rfl rfl) ?_   -- 7
    refine TrC.take rfl (step_fieldAddrP rfl rfl fd30_1 rfl rfl) ?_   -- 8
    refine TrC.take rfl (step_storeP rfl rfl rfl rfl rfl (.inr ⟨_, _, _, _, rfl, rfl⟩) ty28 rfl rfl rfl) ?_   -- 9
    refine TrC.done ?_
    refine AT.region ?_   -- region 8 law.go:269
    refine TrC.take rfl (step_fieldAddrP rfl rfl fd30_2 rfl rfl) ?_   -- 0
    refine TrC.take rfl (step_loadP1 rfl rfl rfl ty3 rfl rfl) ?_   -- 1
    refine TrC.take rfl (step_addI rfl rfl rfl (by first | omega | (simp; done) | (simp; omega)) (by first | omega | (simp; done) | (simp; omega)) rfl) ?_   -- 2
    refine TrC.take rfl (step_fieldAddrP rfl rfl fd30_2 rfl rfl) ?_   -- 3
    refine TrC.take rfl (step_storeP rfl rfl rfl rfl rfl (.inl rfl) ty3 rfl rfl rfl) ?_   -- 4
    refine TrC.done ?_
    refine AT.region ?_   -- region 5 law.go:266
    refine TrC.take rfl (step_move rfl rfl rfl) ?_   -- 0
    refine TrC.take rfl (step_addI rfl rfl rfl (by first | omega | (simp; done) | (simp; omega)) (by first | omega | (simp; done) | (simp; omega)) rfl) ?_   -- 1
    refine TrC.take rfl (step_assign rfl rfl rfl) ?_   -- 2
    refine TrC.done ?_
    exact ⟨ix + 1, by show ix + 1 ≤ 200; omega, by show 200 - (ix + 1) < 200 - ix; omega, Sat.wk [(100, 30), (101, 39)] (.cons (.p rfl) (.cons (.t (.refl _)) (.cons (.p rfl) (.cons (.t (conv_i (by simp))) (.nil))))) (.cons rfl (.box (.cons (.t (.refl _)) (.cons (.t (.refl _)) (.nil)))) (.cons rfl (.box (.cons (.h rfl) (.cons (.h rfl) (.cons (.t (conv_i (by simp; omega))) .nil)))) (.cons rfl (.row (by simp [fN, List.range_succ, encP, fP])) (.cons rfl (.row (by simp [fN, List.range_succ, encC, fC])) (.nil))))) rfl rfl⟩
  · -- false
    have h200 : ix = 200 := by have h := h18; simp at h; omega
    refine AT.exit (Or.inl ⟨rfl, ?_⟩)   -- exit 0
    refine AT.seq ?_
    refine AT.seq ?_
    have hv : VN (fN m ix) := fN_vn hm (by omega)
    have hln := fN_len m ix
    refine Exists.elim (show ∃ F, F = fN m ix from ⟨_, rfl⟩) (fun F hF => ?_)
    rw [← hF] at hv hln
    have hn2 := hv.n2
    refine AT.wk (sl := [(2, .p 2 0), (5, .t (.b true)), (6, .p 6 0)]) (ml := [(2, .box 32 [.t (.i w0), .t (.i w1)]), (6, .box 30 [.t (.slice 3 ((fN m ix).fl.map encP)), .t (.slice 2 ((fN m ix).cuts.map encC)), .t (.i (fN m ix).next)])]) [] (.cons (.p rfl) (.cons (.t (.refl _)) (.cons (.p rfl) (.nil)))) (.cons rfl (.box (.cons (.t (.refl _)) (.cons (.t (.refl _)) (.nil)))) (.cons rfl (.box (.cons (.fr rfl rfl) (.cons (.fr rfl rfl) (.cons (.t (.refl _)) .nil)))) (.nil))) rfl rfl ?_
    refine AT.wk (sl := [(2, .p 2 0), (5, .t (.b true)), (6, .p 6 0)]) (ml := [(2, .box 32 [.t (.i w0), .t (.i w1)]), (6, .box 30 [.t (.slice 3 (F.fl.map encP)), .t (.slice 2 (F.cuts.map encC)), .t (.i F.next)])]) [] (.cons (.p rfl) (.cons (.t (.refl _)) (.cons (.p rfl) (.nil)))) (.cons rfl (.box (.cons (.t (.refl _)) (.cons (.t (.refl _)) (.nil)))) (.cons rfl (.box (.cons (.t (conv_eq (by subst hF; rfl))) (.cons (.t (conv_eq (by subst hF; rfl))) (.cons (.t (conv_eq (by subst hF; rfl))) .nil)))) (.nil))) rfl rfl ?_
    have h0 : 0 < F.fl.length := by omega
    have hget : (F.fl.map encP)[0]? = some (.agg [.i F.fl[0].id, .i F.fl[0].fr, .i F.fl[0].to]) := by rw [List.getElem?_map, List.getElem?_eq_getElem h0]; rfl
    refine AT.region ?_   -- region 9 law.go:271
    first | refine TrC.take rfl (step_loadPN rfl rfl rfl ty30 rfl rfl rfl) ?_ | refine TrC.take rfl (step_loadPA rfl rfl rfl ty30 rfl rfl) ?_   -- 0
    refine TrC.take rfl (step_call0 rfl rfl (D26 hv) rfl) ?_   -- 1
    refine TrC.spell 46 rfl (bv (b := true) (rfl)) ?_
    refine TrC.take rfl (step_not rfl rfl rfl) ?_   -- 2
    refine TrC.take rfl (step_move rfl rfl rfl) ?_   -- 3
    first | refine TrC.take ⟨_, _, rfl, rfl, rfl⟩ (step_loadPN rfl rfl rfl ty30 rfl rfl rfl) ?_ | refine TrC.take ⟨_, _, rfl, rfl, rfl⟩ (step_loadPA rfl rfl rfl ty30 rfl rfl) ?_   -- 4
    refine TrC.take ⟨_, _, rfl, rfl, rfl⟩ (step_call0 rfl rfl (D27 hv) rfl) ?_   -- 5
    refine TrC.spell 50 rfl (bv (b := true) (rfl)) ?_
    refine TrC.take ⟨_, _, rfl, rfl, rfl⟩ (step_not rfl rfl rfl) ?_   -- 6
    refine TrC.take rfl (step_pick rfl rfl rfl rfl) ?_   -- 7
    refine TrC.done ?_
    refine AT.condF rfl ?_   -- t52
    refine AT.skip ?_
    refine AT.seq ?_
    refine AT.region ?_   -- region 11 law.go:274
    refine TrC.take rfl (step_indexAddrP rfl rfl rfl ar32 (by decide) (by decide) rfl) ?_   -- 0
    refine TrC.take rfl (step_loadP1 rfl rfl rfl ty3 rfl rfl) ?_   -- 1
    refine TrC.take rfl (step_bin rfl rfl rfl rfl rfl) ?_   -- 2
    refine TrC.take rfl (step_move rfl rfl rfl) ?_   -- 3
    refine TrC.cases (d := 56) rfl (fun h56 => ?_) (fun h56 => ?_)
    · -- t56 = true
      refine TrC.take ⟨_, _, rfl, rfl, rfl⟩ (step_indexAddrP rfl rfl rfl ar32 (by decide) (by decide) rfl) ?_   -- 4
      refine TrC.take ⟨_, _, rfl, rfl, rfl⟩ (step_loadP1 rfl rfl rfl ty3 rfl rfl) ?_   -- 5
      refine TrC.take ⟨_, _, rfl, rfl, rfl⟩ (step_bin rfl rfl rfl rfl rfl) ?_   -- 6
      refine TrC.take rfl (step_pick rfl rfl rfl rfl) ?_   -- 7
      refine TrC.take rfl (step_move rfl rfl rfl) ?_   -- 8
      refine TrC.cases (d := 61) rfl (fun h61 => ?_) (fun h61 => ?_)
      · -- t61 = true
        refine TrC.take ⟨_, _, rfl, rfl, rfl⟩ (step_indexAddrP rfl rfl rfl ar32 (by decide) (by decide) rfl) ?_   -- 9
        refine TrC.take ⟨_, _, rfl, rfl, rfl⟩ (step_loadP1 rfl rfl rfl ty3 rfl rfl) ?_   -- 10
        refine TrC.take ⟨_, _, rfl, rfl, rfl⟩ (step_bin rfl rfl rfl rfl rfl) ?_   -- 11
        refine TrC.take rfl (step_pick rfl rfl rfl rfl) ?_   -- 12
        refine TrC.take rfl (step_move rfl rfl rfl) ?_   -- 13
        refine TrC.cases (d := 66) rfl (fun h66 => ?_) (fun h66 => ?_)
        · -- t66 = true
          refine TrC.take ⟨_, _, rfl, rfl, rfl⟩ (step_indexAddrP rfl rfl rfl ar32 (by decide) (by decide) rfl) ?_   -- 14
          refine TrC.take ⟨_, _, rfl, rfl, rfl⟩ (step_loadP1 rfl rfl rfl ty3 rfl rfl) ?_   -- 15
          refine TrC.take ⟨_, _, rfl, rfl, rfl⟩ (step_bin rfl rfl rfl rfl rfl) ?_   -- 16
          refine TrC.take rfl (step_pick rfl rfl rfl rfl) ?_   -- 17
          refine TrC.take rfl (step_move rfl rfl rfl) ?_   -- 18
          refine TrC.cases (d := 71) rfl (fun h71 => ?_) (fun h71 => ?_)
          · -- t71 = true
            refine TrC.take ⟨_, _, rfl, rfl, rfl⟩ (step_indexAddrP rfl rfl rfl ar32 (by decide) (by decide) rfl) ?_   -- 19
            refine TrC.take ⟨_, _, rfl, rfl, rfl⟩ (step_loadP1 rfl rfl rfl ty3 rfl rfl) ?_   -- 20
            refine TrC.take ⟨_, _, rfl, rfl, rfl⟩ (step_indexAddrP rfl rfl rfl ar32 (by decide) (by decide) rfl) ?_   -- 21
            refine TrC.take ⟨_, _, rfl, rfl, rfl⟩ (step_loadP1 rfl rfl rfl ty3 rfl rfl) ?_   -- 22
            refine TrC.take ⟨_, _, rfl, rfl, rfl⟩ (step_bin rfl rfl rfl rfl rfl) ?_   -- 23
            refine TrC.take rfl (step_pick rfl rfl rfl rfl) ?_   -- 24
            refine TrC.take rfl (step_assign rfl rfl rfl) ?_   -- 25
            refine TrC.done ?_
            refine AT.spell 8 rfl (bv (b := parts w0 w1) (by first | (simp_all [parts, part, bne]; done) | (simp_all [parts, part, bne] <;> intros <;> omega) | (rw [Bool.eq_iff_iff]; simp_all [parts, part, bne]; done) | (rw [Bool.eq_iff_iff]; simp_all [parts, part, bne] <;> omega))) ?_
            refine AT.seq ?_
            refine AT.regionD mixed rfl ?_   -- region 12 law.go:275
            first | refine TrC.take rfl (step_loadPN rfl rfl rfl ty30 rfl rfl rfl) ?_ | refine TrC.take rfl (step_loadPA rfl rfl rfl ty30 rfl rfl) ?_   -- 0
            refine TrC.take rfl (step_indexAddrP rfl rfl rfl ar32 (by decide) (by decide) rfl) ?_   -- 1
            refine TrC.take rfl (step_loadP1 rfl rfl rfl ty3 rfl rfl) ?_   -- 2
            refine TrC.take rfl (step_indexAddrP rfl rfl rfl ar32 (by decide) (by decide) rfl) ?_   -- 3
            refine TrC.take rfl (step_loadP1 rfl rfl rfl ty3 rfl rfl) ?_   -- 4
            refine TrC.take rfl (step_call0 rfl rfl (D13 hv w0 w1) rfl) ?_   -- 5
            first | refine TrC.take rfl (step_loadPN rfl rfl rfl ty30 rfl rfl rfl) ?_ | refine TrC.take rfl (step_loadPA rfl rfl rfl ty30 rfl rfl) ?_   -- 6
            refine TrC.take rfl (step_loadPN rfl rfl rfl ty32 rfl rfl rfl) ?_   -- 7
            refine TrC.take rfl (step_call0 rfl rfl ((D21 hv w0 w1 2).eq (et (dn2 _ _ _))) rfl) ?_   -- 8
            refine TrC.take rfl (step_buildC rfl ze30 zc30 rfl pl30 rfl rfl rfl rfl) ?_   -- 9
            refine TrC.take rfl (step_indexAddrP rfl rfl rfl ar32 (by decide) (by decide) rfl) ?_   -- 10
            refine TrC.take rfl (step_loadP1 rfl rfl rfl ty3 rfl rfl) ?_   -- 11
            refine TrC.take rfl (step_indexAddrP rfl rfl rfl ar32 (by decide) (by decide) rfl) ?_   -- 12
            refine TrC.take rfl (step_loadP1 rfl rfl rfl ty3 rfl rfl) ?_   -- 13
            refine TrC.take rfl (step_call0 rfl rfl (D13 VN.made0 w0 w1) rfl) ?_   -- 14
            refine TrC.take rfl (step_allocC rfl rfl ze35 zc35 rfl rfl rfl) ?_   -- 15
            refine TrC.take rfl (step_allocC rfl rfl ze40 zc40 rfl rfl rfl) ?_   -- 16
            refine TrC.take rfl (step_allocC rfl rfl ze35 zc35 rfl rfl rfl) ?_   -- 17
            refine TrC.take rfl (step_storeP rfl rfl rfl rfl rfl (.inl rfl) ty35 rfl rfl rfl) ?_   -- 18
            refine TrC.take rfl (step_storeP rfl rfl rfl rfl rfl (.inl rfl) ty40 rfl rfl rfl) ?_   -- 19
            refine TrC.take rfl (step_storeP rfl rfl rfl rfl rfl (.inl rfl) ty35 rfl rfl rfl) ?_   -- 20
            refine TrC.doneD rfl ?_
            refine AT.seq ?_
            refine AT.seq ?_
            refine AT.region ?_   -- region 13 law.go:276
            refine TrC.take rfl (step_move rfl rfl rfl) ?_   -- 0
            refine TrC.take rfl (step_not rfl rfl rfl) ?_   -- 1
            refine TrC.done ?_
            refine AT.cond rfl (fun h94 => ?_) (fun h94 => ?_)   -- t94
            · -- true
              have hnp : parts w0 w1 = false := by simpa using h94
              refine AT.seq ?_
              refine AT.region ?_   -- region 14 law.go:277
              refine TrC.take rfl (step_fieldAddrP rfl rfl fd35_2 rfl rfl) ?_   -- 0
              refine TrC.take rfl (step_loadP1 rfl rfl rfl ty33 rfl rfl) ?_   -- 1
              refine TrC.take rfl (step_bin rfl rfl rfl rfl rfl) ?_   -- 2
              refine TrC.spell 97 rfl (bv (b := true) (by simp [send_np hnp])) ?_
              refine TrC.take rfl (step_move rfl rfl rfl) ?_   -- 3
              refine TrC.take ⟨_, _, rfl, rfl, rfl⟩ (step_fieldAddrP rfl rfl fd40_2 rfl rfl) ?_   -- 4
              refine TrC.take ⟨_, _, rfl, rfl, rfl⟩ (step_loadP1 rfl rfl rfl ty33 rfl rfl) ?_   -- 5
              refine TrC.take ⟨_, _, rfl, rfl, rfl⟩ (step_bin rfl rfl rfl rfl rfl) ?_   -- 6
              refine TrC.spell 101 rfl (bv (b := true) (by simp [sever_np hnp])) ?_
              refine TrC.take rfl (step_pick rfl rfl rfl rfl) ?_   -- 7
              refine TrC.take rfl (step_move rfl rfl rfl) ?_   -- 8
              first | refine TrC.take ⟨_, _, rfl, rfl, rfl⟩ (step_loadPN rfl rfl rfl ty30 rfl rfl rfl) ?_ | refine TrC.take ⟨_, _, rfl, rfl, rfl⟩ (step_loadPA rfl rfl rfl ty30 rfl rfl) ?_   -- 9
              refine TrC.take ⟨_, _, rfl, rfl, rfl⟩ (step_loadPN rfl rfl rfl ty32 rfl rfl rfl) ?_   -- 10
              refine TrC.take ⟨_, _, rfl, rfl, rfl⟩ (step_call0 rfl rfl ((D21 hv w0 w1 3).eq (et (dn3 _ _ _))) rfl) ?_   -- 11
              refine TrC.take ⟨_, _, rfl, rfl, rfl⟩ (step_field1 rfl rfl fd40_2 ty33 rfl rfl) ?_   -- 12
              refine TrC.take ⟨_, _, rfl, rfl, rfl⟩ (step_bin rfl rfl rfl rfl rfl) ?_   -- 13
              refine TrC.spell 108 rfl (bv (b := true) (by simp [heal_np hnp])) ?_
              refine TrC.take rfl (step_pick rfl rfl rfl rfl) ?_   -- 14
              refine TrC.take rfl (step_move rfl rfl rfl) ?_   -- 15
              refine TrC.take ⟨_, _, rfl, rfl, rfl⟩ (step_fieldAddrP rfl rfl fd35_2 rfl rfl) ?_   -- 16
              refine TrC.take ⟨_, _, rfl, rfl, rfl⟩ (step_loadP1 rfl rfl rfl ty33 rfl rfl) ?_   -- 17
              refine TrC.take ⟨_, _, rfl, rfl, rfl⟩ (step_bin rfl rfl rfl rfl rfl) ?_   -- 18
              refine TrC.spell 113 rfl (bv (b := true) (by simp [send_np hnp])) ?_
              refine TrC.take rfl (step_pick rfl rfl rfl rfl) ?_   -- 19
              refine TrC.take rfl (step_move rfl rfl rfl) ?_   -- 20
              refine TrC.take ⟨_, _, rfl, rfl, rfl⟩ (step_fieldAddrP rfl rfl fd35_0 rfl rfl) ?_   -- 21
              first | refine TrC.take ⟨_, _, rfl, rfl, rfl⟩ (step_loadPN rfl rfl rfl ty30 rfl rfl rfl) ?_ | refine TrC.take ⟨_, _, rfl, rfl, rfl⟩ (step_loadPA rfl rfl rfl ty30 rfl rfl) ?_   -- 22
              first | refine TrC.take ⟨_, _, rfl, rfl, rfl⟩ (step_loadPN rfl rfl rfl ty30 rfl rfl rfl) ?_ | refine TrC.take ⟨_, _, rfl, rfl, rfl⟩ (step_loadPA rfl rfl rfl ty30 rfl rfl) ?_   -- 23
              refine TrC.take ⟨_, _, rfl, rfl, rfl⟩ (step_call0 rfl rfl (D15 (hv.send w0 w1) F) rfl) ?_   -- 24
              refine TrC.spell 119 rfl (bv (b := true) (by simp [send_np hnp])) ?_
              refine TrC.take rfl (step_pick rfl rfl rfl rfl) ?_   -- 25
              refine TrC.take rfl (step_move rfl rfl rfl) ?_   -- 26
              refine TrC.take ⟨_, _, rfl, rfl, rfl⟩ (step_move rfl rfl rfl) ?_   -- 27
              refine TrC.take rfl (step_pick rfl rfl rfl rfl) ?_   -- 28
              refine TrC.take rfl (step_assign rfl rfl rfl) ?_   -- 29
              refine TrC.done ?_
              refine AT.ret ?_
              exact Ret.one rfl (ResR.tmp rfl (conv_b rfl))
            · -- false
              have hp : parts w0 w1 = true := by simpa using h94
              refine AT.skip ?_
              refine AT.seq ?_
              refine AT.seq ?_
              refine AT.regionD mixed rfl ?_   -- region 15 law.go:279
              refine TrC.take rfl (step_fieldAddrP rfl rfl fd35_2 rfl rfl) ?_   -- 0
              refine TrC.take rfl (step_loadP1 rfl rfl rfl ty33 rfl rfl) ?_   -- 1
              refine TrC.take rfl (step_bin rfl rfl rfl rfl rfl) ?_   -- 2
              refine TrC.spell 126 rfl (bv (b := false) (by simp [send_big hp (.inl (show 200 ≤ F.fl.length by omega))])) ?_
              refine TrC.take rfl (step_move rfl rfl rfl) ?_   -- 3
              refine TrC.take ⟨_, _, rfl, rfl, rfl⟩ (step_fieldAddrP rfl rfl fd35_2 rfl rfl) ?_   -- 4
              refine TrC.take ⟨_, _, rfl, rfl, rfl⟩ (step_loadP1 rfl rfl rfl ty33 rfl rfl) ?_   -- 5
              refine TrC.take ⟨_, _, rfl, rfl, rfl⟩ (step_bin rfl rfl rfl rfl rfl) ?_   -- 6
              refine TrC.spell 130 rfl (bv (b := false) (by simp [send_one hp])) ?_
              refine TrC.take rfl (step_pick rfl rfl rfl rfl) ?_   -- 7
              refine TrC.take rfl (step_move rfl rfl rfl) ?_   -- 8
              first | refine TrC.take ⟨_, _, rfl, rfl, rfl⟩ (step_loadPN rfl rfl rfl ty30 rfl rfl rfl) ?_ | refine TrC.take ⟨_, _, rfl, rfl, rfl⟩ (step_loadPA rfl rfl rfl ty30 rfl rfl) ?_   -- 9
              refine TrC.take ⟨_, _, rfl, rfl, rfl⟩ (step_fieldAddrP rfl rfl fd30_0 rfl rfl) ?_   -- 10
              refine TrC.take ⟨_, _, rfl, rfl, rfl⟩ (step_loadP1 rfl rfl rfl ty27 rfl rfl) ?_   -- 11
              refine TrC.take ⟨_, _, rfl, rfl, rfl⟩ (step_indexAddrT (v := .agg [.i F.fl[0].id, .i F.fl[0].fr, .i F.fl[0].to]) rfl rfl rfl sl27 (by decide) (by exact hget) rfl rfl) ?_   -- 12
              first | refine TrC.take ⟨_, _, rfl, rfl, rfl⟩ (step_fieldAddrP rfl rfl fd25_0 rfl rfl) ?_ | refine TrC.take ⟨_, _, rfl, rfl, rfl⟩ (step_fieldAddrT rfl rfl fd25_0 rfl rfl rfl) ?_ | refine TrC.take ⟨_, _, rfl, rfl, rfl⟩ (step_fieldAddrE rfl rfl fd25_0 rfl rfl) ?_   -- 13
              first | refine TrC.take ⟨_, _, rfl, rfl, rfl⟩ (step_loadP1 rfl rfl rfl ty3 rfl rfl) ?_ | refine TrC.take ⟨_, _, rfl, rfl, rfl⟩ (step_loadT1 rfl rfl ty3 rfl rfl) ?_ | refine TrC.take ⟨_, _, rfl, rfl, rfl⟩ (step_loadE1 rfl rfl rfl HOFF ty3 HV rfl rfl) ?_   -- 14
              refine TrC.take ⟨_, _, rfl, rfl, rfl⟩ (step_buildA rfl ze32 rfl ar32 rfl rfl rfl rfl) ?_   -- 15
              refine TrC.take ⟨_, _, rfl, rfl, rfl⟩ (step_call0 rfl rfl ((D21 hv F.fl[0].id 0 1).eq (et ((dn1 _ _ _).trans (double_big hv h0 (by omega))))) rfl) ?_   -- 16
              refine TrC.take ⟨_, _, rfl, rfl, rfl⟩ (step_field1 rfl rfl fd40_2 ty33 rfl rfl) ?_   -- 17
              refine TrC.take ⟨_, _, rfl, rfl, rfl⟩ (step_bin rfl rfl rfl rfl rfl) ?_   -- 18
              refine TrC.spell 142 rfl (bv (b := false) (by simp)) ?_
              refine TrC.take rfl (step_pick rfl rfl rfl rfl) ?_   -- 19
              refine TrC.take rfl (step_move rfl rfl rfl) ?_   -- 20
              refine TrC.take ⟨_, _, rfl, rfl, rfl⟩ (step_buildC rfl ze30 zc30 rfl pl30 rfl rfl rfl rfl) ?_   -- 21
              refine TrC.take ⟨_, _, rfl, rfl, rfl⟩ (step_indexAddrP rfl rfl rfl ar32 (by decide) (by decide) rfl) ?_   -- 22
              refine TrC.take ⟨_, _, rfl, rfl, rfl⟩ (step_loadP1 rfl rfl rfl ty3 rfl rfl) ?_   -- 23
              refine TrC.take ⟨_, _, rfl, rfl, rfl⟩ (step_indexAddrP rfl rfl rfl ar32 (by decide) (by decide) rfl) ?_   -- 24
              refine TrC.take ⟨_, _, rfl, rfl, rfl⟩ (step_loadP1 rfl rfl rfl ty3 rfl rfl) ?_   -- 25
              refine TrC.take ⟨_, _, rfl, rfl, rfl⟩ (step_call0 rfl rfl (D13 (n := ⟨[], [], 1000000000⟩) (vn (by decide)) w0 w1) rfl) ?_   -- 26
              refine TrC.take ⟨_, _, rfl, rfl, rfl⟩ (step_field1 rfl rfl fd35_2 ty33 rfl rfl) ?_   -- 27
              refine TrC.take ⟨_, _, rfl, rfl, rfl⟩ (step_bin rfl rfl rfl rfl rfl) ?_   -- 28
              refine TrC.spell 152 rfl (bv (b := false) (by simp [send_big (n := ⟨[], [], 1000000000⟩) hp (.inr (Int.le_refl _))])) ?_
              refine TrC.take rfl (step_pick rfl rfl rfl rfl) ?_   -- 29
              refine TrC.doneD rfl ?_
              refine AT.condF rfl ?_   -- t153
              refine AT.skip ?_
              refine AT.seq ?_
              refine AT.regionD mixed rfl ?_   -- region 17 law.go:282
              refine TrC.take rfl (step_fieldAddrP rfl rfl fd40_2 rfl rfl) ?_   -- 0
              refine TrC.take rfl (step_loadP1 rfl rfl rfl ty33 rfl rfl) ?_   -- 1
              refine TrC.take rfl (step_bin rfl rfl rfl rfl rfl) ?_   -- 2
              first | refine TrC.take rfl (step_loadPN rfl rfl rfl ty30 rfl rfl rfl) ?_ | refine TrC.take rfl (step_loadPA rfl rfl rfl ty30 rfl rfl) ?_   -- 3
              refine TrC.take rfl (step_indexAddrP rfl rfl rfl ar32 (by decide) (by decide) rfl) ?_   -- 4
              refine TrC.take rfl (step_loadP1 rfl rfl rfl ty3 rfl rfl) ?_   -- 5
              refine TrC.take rfl (step_indexAddrP rfl rfl rfl ar32 (by decide) (by decide) rfl) ?_   -- 6
              refine TrC.take rfl (step_loadP1 rfl rfl rfl ty3 rfl rfl) ?_   -- 7
              refine TrC.take rfl (step_call0 rfl rfl (D19 hv w0 w1) rfl) ?_   -- 8
              refine TrC.take rfl (step_eqbool rfl rfl rfl bo4 rfl) ?_   -- 9
              refine TrC.spell 163 rfl (bv (b := true) (by rw [← (sever_big hp (show 200 ≤ F.cuts.length by omega)).2]; simp; rfl)) ?_
              refine TrC.take rfl (step_move rfl rfl rfl) ?_   -- 10
              refine TrC.take ⟨_, _, rfl, rfl, rfl⟩ (step_fieldAddrP rfl rfl fd40_0 rfl rfl) ?_   -- 11
              first | refine TrC.take ⟨_, _, rfl, rfl, rfl⟩ (step_loadPN rfl rfl rfl ty30 rfl rfl rfl) ?_ | refine TrC.take ⟨_, _, rfl, rfl, rfl⟩ (step_loadPA rfl rfl rfl ty30 rfl rfl) ?_   -- 12
              first | refine TrC.take ⟨_, _, rfl, rfl, rfl⟩ (step_loadPN rfl rfl rfl ty30 rfl rfl rfl) ?_ | refine TrC.take ⟨_, _, rfl, rfl, rfl⟩ (step_loadPA rfl rfl rfl ty30 rfl rfl) ?_   -- 13
              refine TrC.take ⟨_, _, rfl, rfl, rfl⟩ (step_call0 rfl rfl (D15 (hv.sever w0 w1) F) rfl) ?_   -- 14
              refine TrC.spell 168 rfl (bv (b := true) (dtrue (sever_big hp (show 200 ≤ F.cuts.length by omega)).1)) ?_
              refine TrC.take rfl (step_pick rfl rfl rfl rfl) ?_   -- 15
              refine TrC.take rfl (step_move rfl rfl rfl) ?_   -- 16
              refine TrC.take ⟨_, _, rfl, rfl, rfl⟩ (step_move rfl rfl rfl) ?_   -- 17
              refine TrC.take rfl (step_pick rfl rfl rfl rfl) ?_   -- 18
              refine TrC.take rfl (step_assign rfl rfl rfl) ?_   -- 19
              refine TrC.doneD rfl ?_
              refine AT.ret ?_
              exact Ret.one rfl (ResR.tmp rfl (conv_b rfl))
          · -- t71 = false
            refine TrC.skip ⟨_, _, rfl, rfl, rfl⟩ ?_   -- 19
            refine TrC.skip ⟨_, _, rfl, rfl, rfl⟩ ?_   -- 20
            refine TrC.skip ⟨_, _, rfl, rfl, rfl⟩ ?_   -- 21
            refine TrC.skip ⟨_, _, rfl, rfl, rfl⟩ ?_   -- 22
            refine TrC.skip ⟨_, _, rfl, rfl, rfl⟩ ?_   -- 23
            refine TrC.take rfl (step_pick rfl rfl rfl rfl) ?_   -- 24
            refine TrC.take rfl (step_assign rfl rfl rfl) ?_   -- 25
            refine TrC.done ?_
            refine AT.spell 8 rfl (bv (b := parts w0 w1) (by first | (simp_all [parts, part, bne]; done) | (simp_all [parts, part, bne] <;> intros <;> omega) | (rw [Bool.eq_iff_iff]; simp_all [parts, part, bne]; done) | (rw [Bool.eq_iff_iff]; simp_all [parts, part, bne] <;> omega))) ?_
            refine AT.seq ?_
            refine AT.regionD mixed rfl ?_   -- region 12 law.go:275
            first | refine TrC.take rfl (step_loadPN rfl rfl rfl ty30 rfl rfl rfl) ?_ | refine TrC.take rfl (step_loadPA rfl rfl rfl ty30 rfl rfl) ?_   -- 0
            refine TrC.take rfl (step_indexAddrP rfl rfl rfl ar32 (by decide) (by decide) rfl) ?_   -- 1
            refine TrC.take rfl (step_loadP1 rfl rfl rfl ty3 rfl rfl) ?_   -- 2
            refine TrC.take rfl (step_indexAddrP rfl rfl rfl ar32 (by decide) (by decide) rfl) ?_   -- 3
            refine TrC.take rfl (step_loadP1 rfl rfl rfl ty3 rfl rfl) ?_   -- 4
            refine TrC.take rfl (step_call0 rfl rfl (D13 hv w0 w1) rfl) ?_   -- 5
            first | refine TrC.take rfl (step_loadPN rfl rfl rfl ty30 rfl rfl rfl) ?_ | refine TrC.take rfl (step_loadPA rfl rfl rfl ty30 rfl rfl) ?_   -- 6
            refine TrC.take rfl (step_loadPN rfl rfl rfl ty32 rfl rfl rfl) ?_   -- 7
            refine TrC.take rfl (step_call0 rfl rfl ((D21 hv w0 w1 2).eq (et (dn2 _ _ _))) rfl) ?_   -- 8
            refine TrC.take rfl (step_buildC rfl ze30 zc30 rfl pl30 rfl rfl rfl rfl) ?_   -- 9
            refine TrC.take rfl (step_indexAddrP rfl rfl rfl ar32 (by decide) (by decide) rfl) ?_   -- 10
            refine TrC.take rfl (step_loadP1 rfl rfl rfl ty3 rfl rfl) ?_   -- 11
            refine TrC.take rfl (step_indexAddrP rfl rfl rfl ar32 (by decide) (by decide) rfl) ?_   -- 12
            refine TrC.take rfl (step_loadP1 rfl rfl rfl ty3 rfl rfl) ?_   -- 13
            refine TrC.take rfl (step_call0 rfl rfl (D13 VN.made0 w0 w1) rfl) ?_   -- 14
            refine TrC.take rfl (step_allocC rfl rfl ze35 zc35 rfl rfl rfl) ?_   -- 15
            refine TrC.take rfl (step_allocC rfl rfl ze40 zc40 rfl rfl rfl) ?_   -- 16
            refine TrC.take rfl (step_allocC rfl rfl ze35 zc35 rfl rfl rfl) ?_   -- 17
            refine TrC.take rfl (step_storeP rfl rfl rfl rfl rfl (.inl rfl) ty35 rfl rfl rfl) ?_   -- 18
            refine TrC.take rfl (step_storeP rfl rfl rfl rfl rfl (.inl rfl) ty40 rfl rfl rfl) ?_   -- 19
            refine TrC.take rfl (step_storeP rfl rfl rfl rfl rfl (.inl rfl) ty35 rfl rfl rfl) ?_   -- 20
            refine TrC.doneD rfl ?_
            refine AT.seq ?_
            refine AT.seq ?_
            refine AT.region ?_   -- region 13 law.go:276
            refine TrC.take rfl (step_move rfl rfl rfl) ?_   -- 0
            refine TrC.take rfl (step_not rfl rfl rfl) ?_   -- 1
            refine TrC.done ?_
            refine AT.cond rfl (fun h94 => ?_) (fun h94 => ?_)   -- t94
            · -- true
              have hnp : parts w0 w1 = false := by simpa using h94
              refine AT.seq ?_
              refine AT.region ?_   -- region 14 law.go:277
              refine TrC.take rfl (step_fieldAddrP rfl rfl fd35_2 rfl rfl) ?_   -- 0
              refine TrC.take rfl (step_loadP1 rfl rfl rfl ty33 rfl rfl) ?_   -- 1
              refine TrC.take rfl (step_bin rfl rfl rfl rfl rfl) ?_   -- 2
              refine TrC.spell 97 rfl (bv (b := true) (by simp [send_np hnp])) ?_
              refine TrC.take rfl (step_move rfl rfl rfl) ?_   -- 3
              refine TrC.take ⟨_, _, rfl, rfl, rfl⟩ (step_fieldAddrP rfl rfl fd40_2 rfl rfl) ?_   -- 4
              refine TrC.take ⟨_, _, rfl, rfl, rfl⟩ (step_loadP1 rfl rfl rfl ty33 rfl rfl) ?_   -- 5
              refine TrC.take ⟨_, _, rfl, rfl, rfl⟩ (step_bin rfl rfl rfl rfl rfl) ?_   -- 6
              refine TrC.spell 101 rfl (bv (b := true) (by simp [sever_np hnp])) ?_
              refine TrC.take rfl (step_pick rfl rfl rfl rfl) ?_   -- 7
              refine TrC.take rfl (step_move rfl rfl rfl) ?_   -- 8
              first | refine TrC.take ⟨_, _, rfl, rfl, rfl⟩ (step_loadPN rfl rfl rfl ty30 rfl rfl rfl) ?_ | refine TrC.take ⟨_, _, rfl, rfl, rfl⟩ (step_loadPA rfl rfl rfl ty30 rfl rfl) ?_   -- 9
              refine TrC.take ⟨_, _, rfl, rfl, rfl⟩ (step_loadPN rfl rfl rfl ty32 rfl rfl rfl) ?_   -- 10
              refine TrC.take ⟨_, _, rfl, rfl, rfl⟩ (step_call0 rfl rfl ((D21 hv w0 w1 3).eq (et (dn3 _ _ _))) rfl) ?_   -- 11
              refine TrC.take ⟨_, _, rfl, rfl, rfl⟩ (step_field1 rfl rfl fd40_2 ty33 rfl rfl) ?_   -- 12
              refine TrC.take ⟨_, _, rfl, rfl, rfl⟩ (step_bin rfl rfl rfl rfl rfl) ?_   -- 13
              refine TrC.spell 108 rfl (bv (b := true) (by simp [heal_np hnp])) ?_
              refine TrC.take rfl (step_pick rfl rfl rfl rfl) ?_   -- 14
              refine TrC.take rfl (step_move rfl rfl rfl) ?_   -- 15
              refine TrC.take ⟨_, _, rfl, rfl, rfl⟩ (step_fieldAddrP rfl rfl fd35_2 rfl rfl) ?_   -- 16
              refine TrC.take ⟨_, _, rfl, rfl, rfl⟩ (step_loadP1 rfl rfl rfl ty33 rfl rfl) ?_   -- 17
              refine TrC.take ⟨_, _, rfl, rfl, rfl⟩ (step_bin rfl rfl rfl rfl rfl) ?_   -- 18
              refine TrC.spell 113 rfl (bv (b := true) (by simp [send_np hnp])) ?_
              refine TrC.take rfl (step_pick rfl rfl rfl rfl) ?_   -- 19
              refine TrC.take rfl (step_move rfl rfl rfl) ?_   -- 20
              refine TrC.take ⟨_, _, rfl, rfl, rfl⟩ (step_fieldAddrP rfl rfl fd35_0 rfl rfl) ?_   -- 21
              first | refine TrC.take ⟨_, _, rfl, rfl, rfl⟩ (step_loadPN rfl rfl rfl ty30 rfl rfl rfl) ?_ | refine TrC.take ⟨_, _, rfl, rfl, rfl⟩ (step_loadPA rfl rfl rfl ty30 rfl rfl) ?_   -- 22
              first | refine TrC.take ⟨_, _, rfl, rfl, rfl⟩ (step_loadPN rfl rfl rfl ty30 rfl rfl rfl) ?_ | refine TrC.take ⟨_, _, rfl, rfl, rfl⟩ (step_loadPA rfl rfl rfl ty30 rfl rfl) ?_   -- 23
              refine TrC.take ⟨_, _, rfl, rfl, rfl⟩ (step_call0 rfl rfl (D15 (hv.send w0 w1) F) rfl) ?_   -- 24
              refine TrC.spell 119 rfl (bv (b := true) (by simp [send_np hnp])) ?_
              refine TrC.take rfl (step_pick rfl rfl rfl rfl) ?_   -- 25
              refine TrC.take rfl (step_move rfl rfl rfl) ?_   -- 26
              refine TrC.take ⟨_, _, rfl, rfl, rfl⟩ (step_move rfl rfl rfl) ?_   -- 27
              refine TrC.take rfl (step_pick rfl rfl rfl rfl) ?_   -- 28
              refine TrC.take rfl (step_assign rfl rfl rfl) ?_   -- 29
              refine TrC.done ?_
              refine AT.ret ?_
              exact Ret.one rfl (ResR.tmp rfl (conv_b rfl))
            · -- false
              have hp : parts w0 w1 = true := by simpa using h94
              refine AT.skip ?_
              refine AT.seq ?_
              refine AT.seq ?_
              refine AT.regionD mixed rfl ?_   -- region 15 law.go:279
              refine TrC.take rfl (step_fieldAddrP rfl rfl fd35_2 rfl rfl) ?_   -- 0
              refine TrC.take rfl (step_loadP1 rfl rfl rfl ty33 rfl rfl) ?_   -- 1
              refine TrC.take rfl (step_bin rfl rfl rfl rfl rfl) ?_   -- 2
              refine TrC.spell 126 rfl (bv (b := false) (by simp [send_big hp (.inl (show 200 ≤ F.fl.length by omega))])) ?_
              refine TrC.take rfl (step_move rfl rfl rfl) ?_   -- 3
              refine TrC.take ⟨_, _, rfl, rfl, rfl⟩ (step_fieldAddrP rfl rfl fd35_2 rfl rfl) ?_   -- 4
              refine TrC.take ⟨_, _, rfl, rfl, rfl⟩ (step_loadP1 rfl rfl rfl ty33 rfl rfl) ?_   -- 5
              refine TrC.take ⟨_, _, rfl, rfl, rfl⟩ (step_bin rfl rfl rfl rfl rfl) ?_   -- 6
              refine TrC.spell 130 rfl (bv (b := false) (by simp [send_one hp])) ?_
              refine TrC.take rfl (step_pick rfl rfl rfl rfl) ?_   -- 7
              refine TrC.take rfl (step_move rfl rfl rfl) ?_   -- 8
              first | refine TrC.take ⟨_, _, rfl, rfl, rfl⟩ (step_loadPN rfl rfl rfl ty30 rfl rfl rfl) ?_ | refine TrC.take ⟨_, _, rfl, rfl, rfl⟩ (step_loadPA rfl rfl rfl ty30 rfl rfl) ?_   -- 9
              refine TrC.take ⟨_, _, rfl, rfl, rfl⟩ (step_fieldAddrP rfl rfl fd30_0 rfl rfl) ?_   -- 10
              refine TrC.take ⟨_, _, rfl, rfl, rfl⟩ (step_loadP1 rfl rfl rfl ty27 rfl rfl) ?_   -- 11
              refine TrC.take ⟨_, _, rfl, rfl, rfl⟩ (step_indexAddrT (v := .agg [.i F.fl[0].id, .i F.fl[0].fr, .i F.fl[0].to]) rfl rfl rfl sl27 (by decide) (by exact hget) rfl rfl) ?_   -- 12
              first | refine TrC.take ⟨_, _, rfl, rfl, rfl⟩ (step_fieldAddrP rfl rfl fd25_0 rfl rfl) ?_ | refine TrC.take ⟨_, _, rfl, rfl, rfl⟩ (step_fieldAddrT rfl rfl fd25_0 rfl rfl rfl) ?_ | refine TrC.take ⟨_, _, rfl, rfl, rfl⟩ (step_fieldAddrE rfl rfl fd25_0 rfl rfl) ?_   -- 13
              first | refine TrC.take ⟨_, _, rfl, rfl, rfl⟩ (step_loadP1 rfl rfl rfl ty3 rfl rfl) ?_ | refine TrC.take ⟨_, _, rfl, rfl, rfl⟩ (step_loadT1 rfl rfl ty3 rfl rfl) ?_ | refine TrC.take ⟨_, _, rfl, rfl, rfl⟩ (step_loadE1 rfl rfl rfl HOFF ty3 HV rfl rfl) ?_   -- 14
              refine TrC.take ⟨_, _, rfl, rfl, rfl⟩ (step_buildA rfl ze32 rfl ar32 rfl rfl rfl rfl) ?_   -- 15
              refine TrC.take ⟨_, _, rfl, rfl, rfl⟩ (step_call0 rfl rfl ((D21 hv F.fl[0].id 0 1).eq (et ((dn1 _ _ _).trans (double_big hv h0 (by omega))))) rfl) ?_   -- 16
              refine TrC.take ⟨_, _, rfl, rfl, rfl⟩ (step_field1 rfl rfl fd40_2 ty33 rfl rfl) ?_   -- 17
              refine TrC.take ⟨_, _, rfl, rfl, rfl⟩ (step_bin rfl rfl rfl rfl rfl) ?_   -- 18
              refine TrC.spell 142 rfl (bv (b := false) (by simp)) ?_
              refine TrC.take rfl (step_pick rfl rfl rfl rfl) ?_   -- 19
              refine TrC.take rfl (step_move rfl rfl rfl) ?_   -- 20
              refine TrC.take ⟨_, _, rfl, rfl, rfl⟩ (step_buildC rfl ze30 zc30 rfl pl30 rfl rfl rfl rfl) ?_   -- 21
              refine TrC.take ⟨_, _, rfl, rfl, rfl⟩ (step_indexAddrP rfl rfl rfl ar32 (by decide) (by decide) rfl) ?_   -- 22
              refine TrC.take ⟨_, _, rfl, rfl, rfl⟩ (step_loadP1 rfl rfl rfl ty3 rfl rfl) ?_   -- 23
              refine TrC.take ⟨_, _, rfl, rfl, rfl⟩ (step_indexAddrP rfl rfl rfl ar32 (by decide) (by decide) rfl) ?_   -- 24
              refine TrC.take ⟨_, _, rfl, rfl, rfl⟩ (step_loadP1 rfl rfl rfl ty3 rfl rfl) ?_   -- 25
              refine TrC.take ⟨_, _, rfl, rfl, rfl⟩ (step_call0 rfl rfl (D13 (n := ⟨[], [], 1000000000⟩) (vn (by decide)) w0 w1) rfl) ?_   -- 26
              refine TrC.take ⟨_, _, rfl, rfl, rfl⟩ (step_field1 rfl rfl fd35_2 ty33 rfl rfl) ?_   -- 27
              refine TrC.take ⟨_, _, rfl, rfl, rfl⟩ (step_bin rfl rfl rfl rfl rfl) ?_   -- 28
              refine TrC.spell 152 rfl (bv (b := false) (by simp [send_big (n := ⟨[], [], 1000000000⟩) hp (.inr (Int.le_refl _))])) ?_
              refine TrC.take rfl (step_pick rfl rfl rfl rfl) ?_   -- 29
              refine TrC.doneD rfl ?_
              refine AT.condF rfl ?_   -- t153
              refine AT.skip ?_
              refine AT.seq ?_
              refine AT.regionD mixed rfl ?_   -- region 17 law.go:282
              refine TrC.take rfl (step_fieldAddrP rfl rfl fd40_2 rfl rfl) ?_   -- 0
              refine TrC.take rfl (step_loadP1 rfl rfl rfl ty33 rfl rfl) ?_   -- 1
              refine TrC.take rfl (step_bin rfl rfl rfl rfl rfl) ?_   -- 2
              first | refine TrC.take rfl (step_loadPN rfl rfl rfl ty30 rfl rfl rfl) ?_ | refine TrC.take rfl (step_loadPA rfl rfl rfl ty30 rfl rfl) ?_   -- 3
              refine TrC.take rfl (step_indexAddrP rfl rfl rfl ar32 (by decide) (by decide) rfl) ?_   -- 4
              refine TrC.take rfl (step_loadP1 rfl rfl rfl ty3 rfl rfl) ?_   -- 5
              refine TrC.take rfl (step_indexAddrP rfl rfl rfl ar32 (by decide) (by decide) rfl) ?_   -- 6
              refine TrC.take rfl (step_loadP1 rfl rfl rfl ty3 rfl rfl) ?_   -- 7
              refine TrC.take rfl (step_call0 rfl rfl (D19 hv w0 w1) rfl) ?_   -- 8
              refine TrC.take rfl (step_eqbool rfl rfl rfl bo4 rfl) ?_   -- 9
              refine TrC.spell 163 rfl (bv (b := true) (by rw [← (sever_big hp (show 200 ≤ F.cuts.length by omega)).2]; simp; rfl)) ?_
              refine TrC.take rfl (step_move rfl rfl rfl) ?_   -- 10
              refine TrC.take ⟨_, _, rfl, rfl, rfl⟩ (step_fieldAddrP rfl rfl fd40_0 rfl rfl) ?_   -- 11
              first | refine TrC.take ⟨_, _, rfl, rfl, rfl⟩ (step_loadPN rfl rfl rfl ty30 rfl rfl rfl) ?_ | refine TrC.take ⟨_, _, rfl, rfl, rfl⟩ (step_loadPA rfl rfl rfl ty30 rfl rfl) ?_   -- 12
              first | refine TrC.take ⟨_, _, rfl, rfl, rfl⟩ (step_loadPN rfl rfl rfl ty30 rfl rfl rfl) ?_ | refine TrC.take ⟨_, _, rfl, rfl, rfl⟩ (step_loadPA rfl rfl rfl ty30 rfl rfl) ?_   -- 13
              refine TrC.take ⟨_, _, rfl, rfl, rfl⟩ (step_call0 rfl rfl (D15 (hv.sever w0 w1) F) rfl) ?_   -- 14
              refine TrC.spell 168 rfl (bv (b := true) (dtrue (sever_big hp (show 200 ≤ F.cuts.length by omega)).1)) ?_
              refine TrC.take rfl (step_pick rfl rfl rfl rfl) ?_   -- 15
              refine TrC.take rfl (step_move rfl rfl rfl) ?_   -- 16
              refine TrC.take ⟨_, _, rfl, rfl, rfl⟩ (step_move rfl rfl rfl) ?_   -- 17
              refine TrC.take rfl (step_pick rfl rfl rfl rfl) ?_   -- 18
              refine TrC.take rfl (step_assign rfl rfl rfl) ?_   -- 19
              refine TrC.doneD rfl ?_
              refine AT.ret ?_
              exact Ret.one rfl (ResR.tmp rfl (conv_b rfl))
        · -- t66 = false
          refine TrC.skip ⟨_, _, rfl, rfl, rfl⟩ ?_   -- 14
          refine TrC.skip ⟨_, _, rfl, rfl, rfl⟩ ?_   -- 15
          refine TrC.skip ⟨_, _, rfl, rfl, rfl⟩ ?_   -- 16
          refine TrC.take rfl (step_pick rfl rfl rfl rfl) ?_   -- 17
          refine TrC.take rfl (step_move rfl rfl rfl) ?_   -- 18
          refine TrC.skip ⟨_, _, rfl, rfl, rfl⟩ ?_   -- 19
          refine TrC.skip ⟨_, _, rfl, rfl, rfl⟩ ?_   -- 20
          refine TrC.skip ⟨_, _, rfl, rfl, rfl⟩ ?_   -- 21
          refine TrC.skip ⟨_, _, rfl, rfl, rfl⟩ ?_   -- 22
          refine TrC.skip ⟨_, _, rfl, rfl, rfl⟩ ?_   -- 23
          refine TrC.take rfl (step_pick rfl rfl rfl rfl) ?_   -- 24
          refine TrC.take rfl (step_assign rfl rfl rfl) ?_   -- 25
          refine TrC.done ?_
          refine AT.spell 8 rfl (bv (b := parts w0 w1) (by first | (simp_all [parts, part, bne]; done) | (simp_all [parts, part, bne] <;> intros <;> omega) | (rw [Bool.eq_iff_iff]; simp_all [parts, part, bne]; done) | (rw [Bool.eq_iff_iff]; simp_all [parts, part, bne] <;> omega))) ?_
          refine AT.seq ?_
          refine AT.regionD mixed rfl ?_   -- region 12 law.go:275
          first | refine TrC.take rfl (step_loadPN rfl rfl rfl ty30 rfl rfl rfl) ?_ | refine TrC.take rfl (step_loadPA rfl rfl rfl ty30 rfl rfl) ?_   -- 0
          refine TrC.take rfl (step_indexAddrP rfl rfl rfl ar32 (by decide) (by decide) rfl) ?_   -- 1
          refine TrC.take rfl (step_loadP1 rfl rfl rfl ty3 rfl rfl) ?_   -- 2
          refine TrC.take rfl (step_indexAddrP rfl rfl rfl ar32 (by decide) (by decide) rfl) ?_   -- 3
          refine TrC.take rfl (step_loadP1 rfl rfl rfl ty3 rfl rfl) ?_   -- 4
          refine TrC.take rfl (step_call0 rfl rfl (D13 hv w0 w1) rfl) ?_   -- 5
          first | refine TrC.take rfl (step_loadPN rfl rfl rfl ty30 rfl rfl rfl) ?_ | refine TrC.take rfl (step_loadPA rfl rfl rfl ty30 rfl rfl) ?_   -- 6
          refine TrC.take rfl (step_loadPN rfl rfl rfl ty32 rfl rfl rfl) ?_   -- 7
          refine TrC.take rfl (step_call0 rfl rfl ((D21 hv w0 w1 2).eq (et (dn2 _ _ _))) rfl) ?_   -- 8
          refine TrC.take rfl (step_buildC rfl ze30 zc30 rfl pl30 rfl rfl rfl rfl) ?_   -- 9
          refine TrC.take rfl (step_indexAddrP rfl rfl rfl ar32 (by decide) (by decide) rfl) ?_   -- 10
          refine TrC.take rfl (step_loadP1 rfl rfl rfl ty3 rfl rfl) ?_   -- 11
          refine TrC.take rfl (step_indexAddrP rfl rfl rfl ar32 (by decide) (by decide) rfl) ?_   -- 12
          refine TrC.take rfl (step_loadP1 rfl rfl rfl ty3 rfl rfl) ?_   -- 13
          refine TrC.take rfl (step_call0 rfl rfl (D13 VN.made0 w0 w1) rfl) ?_   -- 14
          refine TrC.take rfl (step_allocC rfl rfl ze35 zc35 rfl rfl rfl) ?_   -- 15
          refine TrC.take rfl (step_allocC rfl rfl ze40 zc40 rfl rfl rfl) ?_   -- 16
          refine TrC.take rfl (step_allocC rfl rfl ze35 zc35 rfl rfl rfl) ?_   -- 17
          refine TrC.take rfl (step_storeP rfl rfl rfl rfl rfl (.inl rfl) ty35 rfl rfl rfl) ?_   -- 18
          refine TrC.take rfl (step_storeP rfl rfl rfl rfl rfl (.inl rfl) ty40 rfl rfl rfl) ?_   -- 19
          refine TrC.take rfl (step_storeP rfl rfl rfl rfl rfl (.inl rfl) ty35 rfl rfl rfl) ?_   -- 20
          refine TrC.doneD rfl ?_
          refine AT.seq ?_
          refine AT.seq ?_
          refine AT.region ?_   -- region 13 law.go:276
          refine TrC.take rfl (step_move rfl rfl rfl) ?_   -- 0
          refine TrC.take rfl (step_not rfl rfl rfl) ?_   -- 1
          refine TrC.done ?_
          refine AT.cond rfl (fun h94 => ?_) (fun h94 => ?_)   -- t94
          · -- true
            have hnp : parts w0 w1 = false := by simpa using h94
            refine AT.seq ?_
            refine AT.region ?_   -- region 14 law.go:277
            refine TrC.take rfl (step_fieldAddrP rfl rfl fd35_2 rfl rfl) ?_   -- 0
            refine TrC.take rfl (step_loadP1 rfl rfl rfl ty33 rfl rfl) ?_   -- 1
            refine TrC.take rfl (step_bin rfl rfl rfl rfl rfl) ?_   -- 2
            refine TrC.spell 97 rfl (bv (b := true) (by simp [send_np hnp])) ?_
            refine TrC.take rfl (step_move rfl rfl rfl) ?_   -- 3
            refine TrC.take ⟨_, _, rfl, rfl, rfl⟩ (step_fieldAddrP rfl rfl fd40_2 rfl rfl) ?_   -- 4
            refine TrC.take ⟨_, _, rfl, rfl, rfl⟩ (step_loadP1 rfl rfl rfl ty33 rfl rfl) ?_   -- 5
            refine TrC.take ⟨_, _, rfl, rfl, rfl⟩ (step_bin rfl rfl rfl rfl rfl) ?_   -- 6
            refine TrC.spell 101 rfl (bv (b := true) (by simp [sever_np hnp])) ?_
            refine TrC.take rfl (step_pick rfl rfl rfl rfl) ?_   -- 7
            refine TrC.take rfl (step_move rfl rfl rfl) ?_   -- 8
            first | refine TrC.take ⟨_, _, rfl, rfl, rfl⟩ (step_loadPN rfl rfl rfl ty30 rfl rfl rfl) ?_ | refine TrC.take ⟨_, _, rfl, rfl, rfl⟩ (step_loadPA rfl rfl rfl ty30 rfl rfl) ?_   -- 9
            refine TrC.take ⟨_, _, rfl, rfl, rfl⟩ (step_loadPN rfl rfl rfl ty32 rfl rfl rfl) ?_   -- 10
            refine TrC.take ⟨_, _, rfl, rfl, rfl⟩ (step_call0 rfl rfl ((D21 hv w0 w1 3).eq (et (dn3 _ _ _))) rfl) ?_   -- 11
            refine TrC.take ⟨_, _, rfl, rfl, rfl⟩ (step_field1 rfl rfl fd40_2 ty33 rfl rfl) ?_   -- 12
            refine TrC.take ⟨_, _, rfl, rfl, rfl⟩ (step_bin rfl rfl rfl rfl rfl) ?_   -- 13
            refine TrC.spell 108 rfl (bv (b := true) (by simp [heal_np hnp])) ?_
            refine TrC.take rfl (step_pick rfl rfl rfl rfl) ?_   -- 14
            refine TrC.take rfl (step_move rfl rfl rfl) ?_   -- 15
            refine TrC.take ⟨_, _, rfl, rfl, rfl⟩ (step_fieldAddrP rfl rfl fd35_2 rfl rfl) ?_   -- 16
            refine TrC.take ⟨_, _, rfl, rfl, rfl⟩ (step_loadP1 rfl rfl rfl ty33 rfl rfl) ?_   -- 17
            refine TrC.take ⟨_, _, rfl, rfl, rfl⟩ (step_bin rfl rfl rfl rfl rfl) ?_   -- 18
            refine TrC.spell 113 rfl (bv (b := true) (by simp [send_np hnp])) ?_
            refine TrC.take rfl (step_pick rfl rfl rfl rfl) ?_   -- 19
            refine TrC.take rfl (step_move rfl rfl rfl) ?_   -- 20
            refine TrC.take ⟨_, _, rfl, rfl, rfl⟩ (step_fieldAddrP rfl rfl fd35_0 rfl rfl) ?_   -- 21
            first | refine TrC.take ⟨_, _, rfl, rfl, rfl⟩ (step_loadPN rfl rfl rfl ty30 rfl rfl rfl) ?_ | refine TrC.take ⟨_, _, rfl, rfl, rfl⟩ (step_loadPA rfl rfl rfl ty30 rfl rfl) ?_   -- 22
            first | refine TrC.take ⟨_, _, rfl, rfl, rfl⟩ (step_loadPN rfl rfl rfl ty30 rfl rfl rfl) ?_ | refine TrC.take ⟨_, _, rfl, rfl, rfl⟩ (step_loadPA rfl rfl rfl ty30 rfl rfl) ?_   -- 23
            refine TrC.take ⟨_, _, rfl, rfl, rfl⟩ (step_call0 rfl rfl (D15 (hv.send w0 w1) F) rfl) ?_   -- 24
            refine TrC.spell 119 rfl (bv (b := true) (by simp [send_np hnp])) ?_
            refine TrC.take rfl (step_pick rfl rfl rfl rfl) ?_   -- 25
            refine TrC.take rfl (step_move rfl rfl rfl) ?_   -- 26
            refine TrC.take ⟨_, _, rfl, rfl, rfl⟩ (step_move rfl rfl rfl) ?_   -- 27
            refine TrC.take rfl (step_pick rfl rfl rfl rfl) ?_   -- 28
            refine TrC.take rfl (step_assign rfl rfl rfl) ?_   -- 29
            refine TrC.done ?_
            refine AT.ret ?_
            exact Ret.one rfl (ResR.tmp rfl (conv_b rfl))
          · -- false
            have hp : parts w0 w1 = true := by simpa using h94
            refine AT.skip ?_
            refine AT.seq ?_
            refine AT.seq ?_
            refine AT.regionD mixed rfl ?_   -- region 15 law.go:279
            refine TrC.take rfl (step_fieldAddrP rfl rfl fd35_2 rfl rfl) ?_   -- 0
            refine TrC.take rfl (step_loadP1 rfl rfl rfl ty33 rfl rfl) ?_   -- 1
            refine TrC.take rfl (step_bin rfl rfl rfl rfl rfl) ?_   -- 2
            refine TrC.spell 126 rfl (bv (b := false) (by simp [send_big hp (.inl (show 200 ≤ F.fl.length by omega))])) ?_
            refine TrC.take rfl (step_move rfl rfl rfl) ?_   -- 3
            refine TrC.take ⟨_, _, rfl, rfl, rfl⟩ (step_fieldAddrP rfl rfl fd35_2 rfl rfl) ?_   -- 4
            refine TrC.take ⟨_, _, rfl, rfl, rfl⟩ (step_loadP1 rfl rfl rfl ty33 rfl rfl) ?_   -- 5
            refine TrC.take ⟨_, _, rfl, rfl, rfl⟩ (step_bin rfl rfl rfl rfl rfl) ?_   -- 6
            refine TrC.spell 130 rfl (bv (b := false) (by simp [send_one hp])) ?_
            refine TrC.take rfl (step_pick rfl rfl rfl rfl) ?_   -- 7
            refine TrC.take rfl (step_move rfl rfl rfl) ?_   -- 8
            first | refine TrC.take ⟨_, _, rfl, rfl, rfl⟩ (step_loadPN rfl rfl rfl ty30 rfl rfl rfl) ?_ | refine TrC.take ⟨_, _, rfl, rfl, rfl⟩ (step_loadPA rfl rfl rfl ty30 rfl rfl) ?_   -- 9
            refine TrC.take ⟨_, _, rfl, rfl, rfl⟩ (step_fieldAddrP rfl rfl fd30_0 rfl rfl) ?_   -- 10
            refine TrC.take ⟨_, _, rfl, rfl, rfl⟩ (step_loadP1 rfl rfl rfl ty27 rfl rfl) ?_   -- 11
            refine TrC.take ⟨_, _, rfl, rfl, rfl⟩ (step_indexAddrT (v := .agg [.i F.fl[0].id, .i F.fl[0].fr, .i F.fl[0].to]) rfl rfl rfl sl27 (by decide) (by exact hget) rfl rfl) ?_   -- 12
            first | refine TrC.take ⟨_, _, rfl, rfl, rfl⟩ (step_fieldAddrP rfl rfl fd25_0 rfl rfl) ?_ | refine TrC.take ⟨_, _, rfl, rfl, rfl⟩ (step_fieldAddrT rfl rfl fd25_0 rfl rfl rfl) ?_ | refine TrC.take ⟨_, _, rfl, rfl, rfl⟩ (step_fieldAddrE rfl rfl fd25_0 rfl rfl) ?_   -- 13
            first | refine TrC.take ⟨_, _, rfl, rfl, rfl⟩ (step_loadP1 rfl rfl rfl ty3 rfl rfl) ?_ | refine TrC.take ⟨_, _, rfl, rfl, rfl⟩ (step_loadT1 rfl rfl ty3 rfl rfl) ?_ | refine TrC.take ⟨_, _, rfl, rfl, rfl⟩ (step_loadE1 rfl rfl rfl HOFF ty3 HV rfl rfl) ?_   -- 14
            refine TrC.take ⟨_, _, rfl, rfl, rfl⟩ (step_buildA rfl ze32 rfl ar32 rfl rfl rfl rfl) ?_   -- 15
            refine TrC.take ⟨_, _, rfl, rfl, rfl⟩ (step_call0 rfl rfl ((D21 hv F.fl[0].id 0 1).eq (et ((dn1 _ _ _).trans (double_big hv h0 (by omega))))) rfl) ?_   -- 16
            refine TrC.take ⟨_, _, rfl, rfl, rfl⟩ (step_field1 rfl rfl fd40_2 ty33 rfl rfl) ?_   -- 17
            refine TrC.take ⟨_, _, rfl, rfl, rfl⟩ (step_bin rfl rfl rfl rfl rfl) ?_   -- 18
            refine TrC.spell 142 rfl (bv (b := false) (by simp)) ?_
            refine TrC.take rfl (step_pick rfl rfl rfl rfl) ?_   -- 19
            refine TrC.take rfl (step_move rfl rfl rfl) ?_   -- 20
            refine TrC.take ⟨_, _, rfl, rfl, rfl⟩ (step_buildC rfl ze30 zc30 rfl pl30 rfl rfl rfl rfl) ?_   -- 21
            refine TrC.take ⟨_, _, rfl, rfl, rfl⟩ (step_indexAddrP rfl rfl rfl ar32 (by decide) (by decide) rfl) ?_   -- 22
            refine TrC.take ⟨_, _, rfl, rfl, rfl⟩ (step_loadP1 rfl rfl rfl ty3 rfl rfl) ?_   -- 23
            refine TrC.take ⟨_, _, rfl, rfl, rfl⟩ (step_indexAddrP rfl rfl rfl ar32 (by decide) (by decide) rfl) ?_   -- 24
            refine TrC.take ⟨_, _, rfl, rfl, rfl⟩ (step_loadP1 rfl rfl rfl ty3 rfl rfl) ?_   -- 25
            refine TrC.take ⟨_, _, rfl, rfl, rfl⟩ (step_call0 rfl rfl (D13 (n := ⟨[], [], 1000000000⟩) (vn (by decide)) w0 w1) rfl) ?_   -- 26
            refine TrC.take ⟨_, _, rfl, rfl, rfl⟩ (step_field1 rfl rfl fd35_2 ty33 rfl rfl) ?_   -- 27
            refine TrC.take ⟨_, _, rfl, rfl, rfl⟩ (step_bin rfl rfl rfl rfl rfl) ?_   -- 28
            refine TrC.spell 152 rfl (bv (b := false) (by simp [send_big (n := ⟨[], [], 1000000000⟩) hp (.inr (Int.le_refl _))])) ?_
            refine TrC.take rfl (step_pick rfl rfl rfl rfl) ?_   -- 29
            refine TrC.doneD rfl ?_
            refine AT.condF rfl ?_   -- t153
            refine AT.skip ?_
            refine AT.seq ?_
            refine AT.regionD mixed rfl ?_   -- region 17 law.go:282
            refine TrC.take rfl (step_fieldAddrP rfl rfl fd40_2 rfl rfl) ?_   -- 0
            refine TrC.take rfl (step_loadP1 rfl rfl rfl ty33 rfl rfl) ?_   -- 1
            refine TrC.take rfl (step_bin rfl rfl rfl rfl rfl) ?_   -- 2
            first | refine TrC.take rfl (step_loadPN rfl rfl rfl ty30 rfl rfl rfl) ?_ | refine TrC.take rfl (step_loadPA rfl rfl rfl ty30 rfl rfl) ?_   -- 3
            refine TrC.take rfl (step_indexAddrP rfl rfl rfl ar32 (by decide) (by decide) rfl) ?_   -- 4
            refine TrC.take rfl (step_loadP1 rfl rfl rfl ty3 rfl rfl) ?_   -- 5
            refine TrC.take rfl (step_indexAddrP rfl rfl rfl ar32 (by decide) (by decide) rfl) ?_   -- 6
            refine TrC.take rfl (step_loadP1 rfl rfl rfl ty3 rfl rfl) ?_   -- 7
            refine TrC.take rfl (step_call0 rfl rfl (D19 hv w0 w1) rfl) ?_   -- 8
            refine TrC.take rfl (step_eqbool rfl rfl rfl bo4 rfl) ?_   -- 9
            refine TrC.spell 163 rfl (bv (b := true) (by rw [← (sever_big hp (show 200 ≤ F.cuts.length by omega)).2]; simp; rfl)) ?_
            refine TrC.take rfl (step_move rfl rfl rfl) ?_   -- 10
            refine TrC.take ⟨_, _, rfl, rfl, rfl⟩ (step_fieldAddrP rfl rfl fd40_0 rfl rfl) ?_   -- 11
            first | refine TrC.take ⟨_, _, rfl, rfl, rfl⟩ (step_loadPN rfl rfl rfl ty30 rfl rfl rfl) ?_ | refine TrC.take ⟨_, _, rfl, rfl, rfl⟩ (step_loadPA rfl rfl rfl ty30 rfl rfl) ?_   -- 12
            first | refine TrC.take ⟨_, _, rfl, rfl, rfl⟩ (step_loadPN rfl rfl rfl ty30 rfl rfl rfl) ?_ | refine TrC.take ⟨_, _, rfl, rfl, rfl⟩ (step_loadPA rfl rfl rfl ty30 rfl rfl) ?_   -- 13
            refine TrC.take ⟨_, _, rfl, rfl, rfl⟩ (step_call0 rfl rfl (D15 (hv.sever w0 w1) F) rfl) ?_   -- 14
            refine TrC.spell 168 rfl (bv (b := true) (dtrue (sever_big hp (show 200 ≤ F.cuts.length by omega)).1)) ?_
            refine TrC.take rfl (step_pick rfl rfl rfl rfl) ?_   -- 15
            refine TrC.take rfl (step_move rfl rfl rfl) ?_   -- 16
            refine TrC.take ⟨_, _, rfl, rfl, rfl⟩ (step_move rfl rfl rfl) ?_   -- 17
            refine TrC.take rfl (step_pick rfl rfl rfl rfl) ?_   -- 18
            refine TrC.take rfl (step_assign rfl rfl rfl) ?_   -- 19
            refine TrC.doneD rfl ?_
            refine AT.ret ?_
            exact Ret.one rfl (ResR.tmp rfl (conv_b rfl))
      · -- t61 = false
        refine TrC.skip ⟨_, _, rfl, rfl, rfl⟩ ?_   -- 9
        refine TrC.skip ⟨_, _, rfl, rfl, rfl⟩ ?_   -- 10
        refine TrC.skip ⟨_, _, rfl, rfl, rfl⟩ ?_   -- 11
        refine TrC.take rfl (step_pick rfl rfl rfl rfl) ?_   -- 12
        refine TrC.take rfl (step_move rfl rfl rfl) ?_   -- 13
        refine TrC.skip ⟨_, _, rfl, rfl, rfl⟩ ?_   -- 14
        refine TrC.skip ⟨_, _, rfl, rfl, rfl⟩ ?_   -- 15
        refine TrC.skip ⟨_, _, rfl, rfl, rfl⟩ ?_   -- 16
        refine TrC.take rfl (step_pick rfl rfl rfl rfl) ?_   -- 17
        refine TrC.take rfl (step_move rfl rfl rfl) ?_   -- 18
        refine TrC.skip ⟨_, _, rfl, rfl, rfl⟩ ?_   -- 19
        refine TrC.skip ⟨_, _, rfl, rfl, rfl⟩ ?_   -- 20
        refine TrC.skip ⟨_, _, rfl, rfl, rfl⟩ ?_   -- 21
        refine TrC.skip ⟨_, _, rfl, rfl, rfl⟩ ?_   -- 22
        refine TrC.skip ⟨_, _, rfl, rfl, rfl⟩ ?_   -- 23
        refine TrC.take rfl (step_pick rfl rfl rfl rfl) ?_   -- 24
        refine TrC.take rfl (step_assign rfl rfl rfl) ?_   -- 25
        refine TrC.done ?_
        refine AT.spell 8 rfl (bv (b := parts w0 w1) (by first | (simp_all [parts, part, bne]; done) | (simp_all [parts, part, bne] <;> intros <;> omega) | (rw [Bool.eq_iff_iff]; simp_all [parts, part, bne]; done) | (rw [Bool.eq_iff_iff]; simp_all [parts, part, bne] <;> omega))) ?_
        refine AT.seq ?_
        refine AT.regionD mixed rfl ?_   -- region 12 law.go:275
        first | refine TrC.take rfl (step_loadPN rfl rfl rfl ty30 rfl rfl rfl) ?_ | refine TrC.take rfl (step_loadPA rfl rfl rfl ty30 rfl rfl) ?_   -- 0
        refine TrC.take rfl (step_indexAddrP rfl rfl rfl ar32 (by decide) (by decide) rfl) ?_   -- 1
        refine TrC.take rfl (step_loadP1 rfl rfl rfl ty3 rfl rfl) ?_   -- 2
        refine TrC.take rfl (step_indexAddrP rfl rfl rfl ar32 (by decide) (by decide) rfl) ?_   -- 3
        refine TrC.take rfl (step_loadP1 rfl rfl rfl ty3 rfl rfl) ?_   -- 4
        refine TrC.take rfl (step_call0 rfl rfl (D13 hv w0 w1) rfl) ?_   -- 5
        first | refine TrC.take rfl (step_loadPN rfl rfl rfl ty30 rfl rfl rfl) ?_ | refine TrC.take rfl (step_loadPA rfl rfl rfl ty30 rfl rfl) ?_   -- 6
        refine TrC.take rfl (step_loadPN rfl rfl rfl ty32 rfl rfl rfl) ?_   -- 7
        refine TrC.take rfl (step_call0 rfl rfl ((D21 hv w0 w1 2).eq (et (dn2 _ _ _))) rfl) ?_   -- 8
        refine TrC.take rfl (step_buildC rfl ze30 zc30 rfl pl30 rfl rfl rfl rfl) ?_   -- 9
        refine TrC.take rfl (step_indexAddrP rfl rfl rfl ar32 (by decide) (by decide) rfl) ?_   -- 10
        refine TrC.take rfl (step_loadP1 rfl rfl rfl ty3 rfl rfl) ?_   -- 11
        refine TrC.take rfl (step_indexAddrP rfl rfl rfl ar32 (by decide) (by decide) rfl) ?_   -- 12
        refine TrC.take rfl (step_loadP1 rfl rfl rfl ty3 rfl rfl) ?_   -- 13
        refine TrC.take rfl (step_call0 rfl rfl (D13 VN.made0 w0 w1) rfl) ?_   -- 14
        refine TrC.take rfl (step_allocC rfl rfl ze35 zc35 rfl rfl rfl) ?_   -- 15
        refine TrC.take rfl (step_allocC rfl rfl ze40 zc40 rfl rfl rfl) ?_   -- 16
        refine TrC.take rfl (step_allocC rfl rfl ze35 zc35 rfl rfl rfl) ?_   -- 17
        refine TrC.take rfl (step_storeP rfl rfl rfl rfl rfl (.inl rfl) ty35 rfl rfl rfl) ?_   -- 18
        refine TrC.take rfl (step_storeP rfl rfl rfl rfl rfl (.inl rfl) ty40 rfl rfl rfl) ?_   -- 19
        refine TrC.take rfl (step_storeP rfl rfl rfl rfl rfl (.inl rfl) ty35 rfl rfl rfl) ?_   -- 20
        refine TrC.doneD rfl ?_
        refine AT.seq ?_
        refine AT.seq ?_
        refine AT.region ?_   -- region 13 law.go:276
        refine TrC.take rfl (step_move rfl rfl rfl) ?_   -- 0
        refine TrC.take rfl (step_not rfl rfl rfl) ?_   -- 1
        refine TrC.done ?_
        refine AT.cond rfl (fun h94 => ?_) (fun h94 => ?_)   -- t94
        · -- true
          have hnp : parts w0 w1 = false := by simpa using h94
          refine AT.seq ?_
          refine AT.region ?_   -- region 14 law.go:277
          refine TrC.take rfl (step_fieldAddrP rfl rfl fd35_2 rfl rfl) ?_   -- 0
          refine TrC.take rfl (step_loadP1 rfl rfl rfl ty33 rfl rfl) ?_   -- 1
          refine TrC.take rfl (step_bin rfl rfl rfl rfl rfl) ?_   -- 2
          refine TrC.spell 97 rfl (bv (b := true) (by simp [send_np hnp])) ?_
          refine TrC.take rfl (step_move rfl rfl rfl) ?_   -- 3
          refine TrC.take ⟨_, _, rfl, rfl, rfl⟩ (step_fieldAddrP rfl rfl fd40_2 rfl rfl) ?_   -- 4
          refine TrC.take ⟨_, _, rfl, rfl, rfl⟩ (step_loadP1 rfl rfl rfl ty33 rfl rfl) ?_   -- 5
          refine TrC.take ⟨_, _, rfl, rfl, rfl⟩ (step_bin rfl rfl rfl rfl rfl) ?_   -- 6
          refine TrC.spell 101 rfl (bv (b := true) (by simp [sever_np hnp])) ?_
          refine TrC.take rfl (step_pick rfl rfl rfl rfl) ?_   -- 7
          refine TrC.take rfl (step_move rfl rfl rfl) ?_   -- 8
          first | refine TrC.take ⟨_, _, rfl, rfl, rfl⟩ (step_loadPN rfl rfl rfl ty30 rfl rfl rfl) ?_ | refine TrC.take ⟨_, _, rfl, rfl, rfl⟩ (step_loadPA rfl rfl rfl ty30 rfl rfl) ?_   -- 9
          refine TrC.take ⟨_, _, rfl, rfl, rfl⟩ (step_loadPN rfl rfl rfl ty32 rfl rfl rfl) ?_   -- 10
          refine TrC.take ⟨_, _, rfl, rfl, rfl⟩ (step_call0 rfl rfl ((D21 hv w0 w1 3).eq (et (dn3 _ _ _))) rfl) ?_   -- 11
          refine TrC.take ⟨_, _, rfl, rfl, rfl⟩ (step_field1 rfl rfl fd40_2 ty33 rfl rfl) ?_   -- 12
          refine TrC.take ⟨_, _, rfl, rfl, rfl⟩ (step_bin rfl rfl rfl rfl rfl) ?_   -- 13
          refine TrC.spell 108 rfl (bv (b := true) (by simp [heal_np hnp])) ?_
          refine TrC.take rfl (step_pick rfl rfl rfl rfl) ?_   -- 14
          refine TrC.take rfl (step_move rfl rfl rfl) ?_   -- 15
          refine TrC.take ⟨_, _, rfl, rfl, rfl⟩ (step_fieldAddrP rfl rfl fd35_2 rfl rfl) ?_   -- 16
          refine TrC.take ⟨_, _, rfl, rfl, rfl⟩ (step_loadP1 rfl rfl rfl ty33 rfl rfl) ?_   -- 17
          refine TrC.take ⟨_, _, rfl, rfl, rfl⟩ (step_bin rfl rfl rfl rfl rfl) ?_   -- 18
          refine TrC.spell 113 rfl (bv (b := true) (by simp [send_np hnp])) ?_
          refine TrC.take rfl (step_pick rfl rfl rfl rfl) ?_   -- 19
          refine TrC.take rfl (step_move rfl rfl rfl) ?_   -- 20
          refine TrC.take ⟨_, _, rfl, rfl, rfl⟩ (step_fieldAddrP rfl rfl fd35_0 rfl rfl) ?_   -- 21
          first | refine TrC.take ⟨_, _, rfl, rfl, rfl⟩ (step_loadPN rfl rfl rfl ty30 rfl rfl rfl) ?_ | refine TrC.take ⟨_, _, rfl, rfl, rfl⟩ (step_loadPA rfl rfl rfl ty30 rfl rfl) ?_   -- 22
          first | refine TrC.take ⟨_, _, rfl, rfl, rfl⟩ (step_loadPN rfl rfl rfl ty30 rfl rfl rfl) ?_ | refine TrC.take ⟨_, _, rfl, rfl, rfl⟩ (step_loadPA rfl rfl rfl ty30 rfl rfl) ?_   -- 23
          refine TrC.take ⟨_, _, rfl, rfl, rfl⟩ (step_call0 rfl rfl (D15 (hv.send w0 w1) F) rfl) ?_   -- 24
          refine TrC.spell 119 rfl (bv (b := true) (by simp [send_np hnp])) ?_
          refine TrC.take rfl (step_pick rfl rfl rfl rfl) ?_   -- 25
          refine TrC.take rfl (step_move rfl rfl rfl) ?_   -- 26
          refine TrC.take ⟨_, _, rfl, rfl, rfl⟩ (step_move rfl rfl rfl) ?_   -- 27
          refine TrC.take rfl (step_pick rfl rfl rfl rfl) ?_   -- 28
          refine TrC.take rfl (step_assign rfl rfl rfl) ?_   -- 29
          refine TrC.done ?_
          refine AT.ret ?_
          exact Ret.one rfl (ResR.tmp rfl (conv_b rfl))
        · -- false
          have hp : parts w0 w1 = true := by simpa using h94
          refine AT.skip ?_
          refine AT.seq ?_
          refine AT.seq ?_
          refine AT.regionD mixed rfl ?_   -- region 15 law.go:279
          refine TrC.take rfl (step_fieldAddrP rfl rfl fd35_2 rfl rfl) ?_   -- 0
          refine TrC.take rfl (step_loadP1 rfl rfl rfl ty33 rfl rfl) ?_   -- 1
          refine TrC.take rfl (step_bin rfl rfl rfl rfl rfl) ?_   -- 2
          refine TrC.spell 126 rfl (bv (b := false) (by simp [send_big hp (.inl (show 200 ≤ F.fl.length by omega))])) ?_
          refine TrC.take rfl (step_move rfl rfl rfl) ?_   -- 3
          refine TrC.take ⟨_, _, rfl, rfl, rfl⟩ (step_fieldAddrP rfl rfl fd35_2 rfl rfl) ?_   -- 4
          refine TrC.take ⟨_, _, rfl, rfl, rfl⟩ (step_loadP1 rfl rfl rfl ty33 rfl rfl) ?_   -- 5
          refine TrC.take ⟨_, _, rfl, rfl, rfl⟩ (step_bin rfl rfl rfl rfl rfl) ?_   -- 6
          refine TrC.spell 130 rfl (bv (b := false) (by simp [send_one hp])) ?_
          refine TrC.take rfl (step_pick rfl rfl rfl rfl) ?_   -- 7
          refine TrC.take rfl (step_move rfl rfl rfl) ?_   -- 8
          first | refine TrC.take ⟨_, _, rfl, rfl, rfl⟩ (step_loadPN rfl rfl rfl ty30 rfl rfl rfl) ?_ | refine TrC.take ⟨_, _, rfl, rfl, rfl⟩ (step_loadPA rfl rfl rfl ty30 rfl rfl) ?_   -- 9
          refine TrC.take ⟨_, _, rfl, rfl, rfl⟩ (step_fieldAddrP rfl rfl fd30_0 rfl rfl) ?_   -- 10
          refine TrC.take ⟨_, _, rfl, rfl, rfl⟩ (step_loadP1 rfl rfl rfl ty27 rfl rfl) ?_   -- 11
          refine TrC.take ⟨_, _, rfl, rfl, rfl⟩ (step_indexAddrT (v := .agg [.i F.fl[0].id, .i F.fl[0].fr, .i F.fl[0].to]) rfl rfl rfl sl27 (by decide) (by exact hget) rfl rfl) ?_   -- 12
          first | refine TrC.take ⟨_, _, rfl, rfl, rfl⟩ (step_fieldAddrP rfl rfl fd25_0 rfl rfl) ?_ | refine TrC.take ⟨_, _, rfl, rfl, rfl⟩ (step_fieldAddrT rfl rfl fd25_0 rfl rfl rfl) ?_ | refine TrC.take ⟨_, _, rfl, rfl, rfl⟩ (step_fieldAddrE rfl rfl fd25_0 rfl rfl) ?_   -- 13
          first | refine TrC.take ⟨_, _, rfl, rfl, rfl⟩ (step_loadP1 rfl rfl rfl ty3 rfl rfl) ?_ | refine TrC.take ⟨_, _, rfl, rfl, rfl⟩ (step_loadT1 rfl rfl ty3 rfl rfl) ?_ | refine TrC.take ⟨_, _, rfl, rfl, rfl⟩ (step_loadE1 rfl rfl rfl HOFF ty3 HV rfl rfl) ?_   -- 14
          refine TrC.take ⟨_, _, rfl, rfl, rfl⟩ (step_buildA rfl ze32 rfl ar32 rfl rfl rfl rfl) ?_   -- 15
          refine TrC.take ⟨_, _, rfl, rfl, rfl⟩ (step_call0 rfl rfl ((D21 hv F.fl[0].id 0 1).eq (et ((dn1 _ _ _).trans (double_big hv h0 (by omega))))) rfl) ?_   -- 16
          refine TrC.take ⟨_, _, rfl, rfl, rfl⟩ (step_field1 rfl rfl fd40_2 ty33 rfl rfl) ?_   -- 17
          refine TrC.take ⟨_, _, rfl, rfl, rfl⟩ (step_bin rfl rfl rfl rfl rfl) ?_   -- 18
          refine TrC.spell 142 rfl (bv (b := false) (by simp)) ?_
          refine TrC.take rfl (step_pick rfl rfl rfl rfl) ?_   -- 19
          refine TrC.take rfl (step_move rfl rfl rfl) ?_   -- 20
          refine TrC.take ⟨_, _, rfl, rfl, rfl⟩ (step_buildC rfl ze30 zc30 rfl pl30 rfl rfl rfl rfl) ?_   -- 21
          refine TrC.take ⟨_, _, rfl, rfl, rfl⟩ (step_indexAddrP rfl rfl rfl ar32 (by decide) (by decide) rfl) ?_   -- 22
          refine TrC.take ⟨_, _, rfl, rfl, rfl⟩ (step_loadP1 rfl rfl rfl ty3 rfl rfl) ?_   -- 23
          refine TrC.take ⟨_, _, rfl, rfl, rfl⟩ (step_indexAddrP rfl rfl rfl ar32 (by decide) (by decide) rfl) ?_   -- 24
          refine TrC.take ⟨_, _, rfl, rfl, rfl⟩ (step_loadP1 rfl rfl rfl ty3 rfl rfl) ?_   -- 25
          refine TrC.take ⟨_, _, rfl, rfl, rfl⟩ (step_call0 rfl rfl (D13 (n := ⟨[], [], 1000000000⟩) (vn (by decide)) w0 w1) rfl) ?_   -- 26
          refine TrC.take ⟨_, _, rfl, rfl, rfl⟩ (step_field1 rfl rfl fd35_2 ty33 rfl rfl) ?_   -- 27
          refine TrC.take ⟨_, _, rfl, rfl, rfl⟩ (step_bin rfl rfl rfl rfl rfl) ?_   -- 28
          refine TrC.spell 152 rfl (bv (b := false) (by simp [send_big (n := ⟨[], [], 1000000000⟩) hp (.inr (Int.le_refl _))])) ?_
          refine TrC.take rfl (step_pick rfl rfl rfl rfl) ?_   -- 29
          refine TrC.doneD rfl ?_
          refine AT.condF rfl ?_   -- t153
          refine AT.skip ?_
          refine AT.seq ?_
          refine AT.regionD mixed rfl ?_   -- region 17 law.go:282
          refine TrC.take rfl (step_fieldAddrP rfl rfl fd40_2 rfl rfl) ?_   -- 0
          refine TrC.take rfl (step_loadP1 rfl rfl rfl ty33 rfl rfl) ?_   -- 1
          refine TrC.take rfl (step_bin rfl rfl rfl rfl rfl) ?_   -- 2
          first | refine TrC.take rfl (step_loadPN rfl rfl rfl ty30 rfl rfl rfl) ?_ | refine TrC.take rfl (step_loadPA rfl rfl rfl ty30 rfl rfl) ?_   -- 3
          refine TrC.take rfl (step_indexAddrP rfl rfl rfl ar32 (by decide) (by decide) rfl) ?_   -- 4
          refine TrC.take rfl (step_loadP1 rfl rfl rfl ty3 rfl rfl) ?_   -- 5
          refine TrC.take rfl (step_indexAddrP rfl rfl rfl ar32 (by decide) (by decide) rfl) ?_   -- 6
          refine TrC.take rfl (step_loadP1 rfl rfl rfl ty3 rfl rfl) ?_   -- 7
          refine TrC.take rfl (step_call0 rfl rfl (D19 hv w0 w1) rfl) ?_   -- 8
          refine TrC.take rfl (step_eqbool rfl rfl rfl bo4 rfl) ?_   -- 9
          refine TrC.spell 163 rfl (bv (b := true) (by rw [← (sever_big hp (show 200 ≤ F.cuts.length by omega)).2]; simp; rfl)) ?_
          refine TrC.take rfl (step_move rfl rfl rfl) ?_   -- 10
          refine TrC.take ⟨_, _, rfl, rfl, rfl⟩ (step_fieldAddrP rfl rfl fd40_0 rfl rfl) ?_   -- 11
          first | refine TrC.take ⟨_, _, rfl, rfl, rfl⟩ (step_loadPN rfl rfl rfl ty30 rfl rfl rfl) ?_ | refine TrC.take ⟨_, _, rfl, rfl, rfl⟩ (step_loadPA rfl rfl rfl ty30 rfl rfl) ?_   -- 12
          first | refine TrC.take ⟨_, _, rfl, rfl, rfl⟩ (step_loadPN rfl rfl rfl ty30 rfl rfl rfl) ?_ | refine TrC.take ⟨_, _, rfl, rfl, rfl⟩ (step_loadPA rfl rfl rfl ty30 rfl rfl) ?_   -- 13
          refine TrC.take ⟨_, _, rfl, rfl, rfl⟩ (step_call0 rfl rfl (D15 (hv.sever w0 w1) F) rfl) ?_   -- 14
          refine TrC.spell 168 rfl (bv (b := true) (dtrue (sever_big hp (show 200 ≤ F.cuts.length by omega)).1)) ?_
          refine TrC.take rfl (step_pick rfl rfl rfl rfl) ?_   -- 15
          refine TrC.take rfl (step_move rfl rfl rfl) ?_   -- 16
          refine TrC.take ⟨_, _, rfl, rfl, rfl⟩ (step_move rfl rfl rfl) ?_   -- 17
          refine TrC.take rfl (step_pick rfl rfl rfl rfl) ?_   -- 18
          refine TrC.take rfl (step_assign rfl rfl rfl) ?_   -- 19
          refine TrC.doneD rfl ?_
          refine AT.ret ?_
          exact Ret.one rfl (ResR.tmp rfl (conv_b rfl))
    · -- t56 = false
      refine TrC.skip ⟨_, _, rfl, rfl, rfl⟩ ?_   -- 4
      refine TrC.skip ⟨_, _, rfl, rfl, rfl⟩ ?_   -- 5
      refine TrC.skip ⟨_, _, rfl, rfl, rfl⟩ ?_   -- 6
      refine TrC.take rfl (step_pick rfl rfl rfl rfl) ?_   -- 7
      refine TrC.take rfl (step_move rfl rfl rfl) ?_   -- 8
      refine TrC.skip ⟨_, _, rfl, rfl, rfl⟩ ?_   -- 9
      refine TrC.skip ⟨_, _, rfl, rfl, rfl⟩ ?_   -- 10
      refine TrC.skip ⟨_, _, rfl, rfl, rfl⟩ ?_   -- 11
      refine TrC.take rfl (step_pick rfl rfl rfl rfl) ?_   -- 12
      refine TrC.take rfl (step_move rfl rfl rfl) ?_   -- 13
      refine TrC.skip ⟨_, _, rfl, rfl, rfl⟩ ?_   -- 14
      refine TrC.skip ⟨_, _, rfl, rfl, rfl⟩ ?_   -- 15
      refine TrC.skip ⟨_, _, rfl, rfl, rfl⟩ ?_   -- 16
      refine TrC.take rfl (step_pick rfl rfl rfl rfl) ?_   -- 17
      refine TrC.take rfl (step_move rfl rfl rfl) ?_   -- 18
      refine TrC.skip ⟨_, _, rfl, rfl, rfl⟩ ?_   -- 19
      refine TrC.skip ⟨_, _, rfl, rfl, rfl⟩ ?_   -- 20
      refine TrC.skip ⟨_, _, rfl, rfl, rfl⟩ ?_   -- 21
      refine TrC.skip ⟨_, _, rfl, rfl, rfl⟩ ?_   -- 22
      refine TrC.skip ⟨_, _, rfl, rfl, rfl⟩ ?_   -- 23
      refine TrC.take rfl (step_pick rfl rfl rfl rfl) ?_   -- 24
      refine TrC.take rfl (step_assign rfl rfl rfl) ?_   -- 25
      refine TrC.done ?_
      refine AT.spell 8 rfl (bv (b := parts w0 w1) (by first | (simp_all [parts, part, bne]; done) | (simp_all [parts, part, bne] <;> intros <;> omega) | (rw [Bool.eq_iff_iff]; simp_all [parts, part, bne]; done) | (rw [Bool.eq_iff_iff]; simp_all [parts, part, bne] <;> omega))) ?_
      refine AT.seq ?_
      refine AT.regionD mixed rfl ?_   -- region 12 law.go:275
      first | refine TrC.take rfl (step_loadPN rfl rfl rfl ty30 rfl rfl rfl) ?_ | refine TrC.take rfl (step_loadPA rfl rfl rfl ty30 rfl rfl) ?_   -- 0
      refine TrC.take rfl (step_indexAddrP rfl rfl rfl ar32 (by decide) (by decide) rfl) ?_   -- 1
      refine TrC.take rfl (step_loadP1 rfl rfl rfl ty3 rfl rfl) ?_   -- 2
      refine TrC.take rfl (step_indexAddrP rfl rfl rfl ar32 (by decide) (by decide) rfl) ?_   -- 3
      refine TrC.take rfl (step_loadP1 rfl rfl rfl ty3 rfl rfl) ?_   -- 4
      refine TrC.take rfl (step_call0 rfl rfl (D13 hv w0 w1) rfl) ?_   -- 5
      first | refine TrC.take rfl (step_loadPN rfl rfl rfl ty30 rfl rfl rfl) ?_ | refine TrC.take rfl (step_loadPA rfl rfl rfl ty30 rfl rfl) ?_   -- 6
      refine TrC.take rfl (step_loadPN rfl rfl rfl ty32 rfl rfl rfl) ?_   -- 7
      refine TrC.take rfl (step_call0 rfl rfl ((D21 hv w0 w1 2).eq (et (dn2 _ _ _))) rfl) ?_   -- 8
      refine TrC.take rfl (step_buildC rfl ze30 zc30 rfl pl30 rfl rfl rfl rfl) ?_   -- 9
      refine TrC.take rfl (step_indexAddrP rfl rfl rfl ar32 (by decide) (by decide) rfl) ?_   -- 10
      refine TrC.take rfl (step_loadP1 rfl rfl rfl ty3 rfl rfl) ?_   -- 11
      refine TrC.take rfl (step_indexAddrP rfl rfl rfl ar32 (by decide) (by decide) rfl) ?_   -- 12
      refine TrC.take rfl (step_loadP1 rfl rfl rfl ty3 rfl rfl) ?_   -- 13
      refine TrC.take rfl (step_call0 rfl rfl (D13 VN.made0 w0 w1) rfl) ?_   -- 14
      refine TrC.take rfl (step_allocC rfl rfl ze35 zc35 rfl rfl rfl) ?_   -- 15
      refine TrC.take rfl (step_allocC rfl rfl ze40 zc40 rfl rfl rfl) ?_   -- 16
      refine TrC.take rfl (step_allocC rfl rfl ze35 zc35 rfl rfl rfl) ?_   -- 17
      refine TrC.take rfl (step_storeP rfl rfl rfl rfl rfl (.inl rfl) ty35 rfl rfl rfl) ?_   -- 18
      refine TrC.take rfl (step_storeP rfl rfl rfl rfl rfl (.inl rfl) ty40 rfl rfl rfl) ?_   -- 19
      refine TrC.take rfl (step_storeP rfl rfl rfl rfl rfl (.inl rfl) ty35 rfl rfl rfl) ?_   -- 20
      refine TrC.doneD rfl ?_
      refine AT.seq ?_
      refine AT.seq ?_
      refine AT.region ?_   -- region 13 law.go:276
      refine TrC.take rfl (step_move rfl rfl rfl) ?_   -- 0
      refine TrC.take rfl (step_not rfl rfl rfl) ?_   -- 1
      refine TrC.done ?_
      refine AT.cond rfl (fun h94 => ?_) (fun h94 => ?_)   -- t94
      · -- true
        have hnp : parts w0 w1 = false := by simpa using h94
        refine AT.seq ?_
        refine AT.region ?_   -- region 14 law.go:277
        refine TrC.take rfl (step_fieldAddrP rfl rfl fd35_2 rfl rfl) ?_   -- 0
        refine TrC.take rfl (step_loadP1 rfl rfl rfl ty33 rfl rfl) ?_   -- 1
        refine TrC.take rfl (step_bin rfl rfl rfl rfl rfl) ?_   -- 2
        refine TrC.spell 97 rfl (bv (b := true) (by simp [send_np hnp])) ?_
        refine TrC.take rfl (step_move rfl rfl rfl) ?_   -- 3
        refine TrC.take ⟨_, _, rfl, rfl, rfl⟩ (step_fieldAddrP rfl rfl fd40_2 rfl rfl) ?_   -- 4
        refine TrC.take ⟨_, _, rfl, rfl, rfl⟩ (step_loadP1 rfl rfl rfl ty33 rfl rfl) ?_   -- 5
        refine TrC.take ⟨_, _, rfl, rfl, rfl⟩ (step_bin rfl rfl rfl rfl rfl) ?_   -- 6
        refine TrC.spell 101 rfl (bv (b := true) (by simp [sever_np hnp])) ?_
        refine TrC.take rfl (step_pick rfl rfl rfl rfl) ?_   -- 7
        refine TrC.take rfl (step_move rfl rfl rfl) ?_   -- 8
        first | refine TrC.take ⟨_, _, rfl, rfl, rfl⟩ (step_loadPN rfl rfl rfl ty30 rfl rfl rfl) ?_ | refine TrC.take ⟨_, _, rfl, rfl, rfl⟩ (step_loadPA rfl rfl rfl ty30 rfl rfl) ?_   -- 9
        refine TrC.take ⟨_, _, rfl, rfl, rfl⟩ (step_loadPN rfl rfl rfl ty32 rfl rfl rfl) ?_   -- 10
        refine TrC.take ⟨_, _, rfl, rfl, rfl⟩ (step_call0 rfl rfl ((D21 hv w0 w1 3).eq (et (dn3 _ _ _))) rfl) ?_   -- 11
        refine TrC.take ⟨_, _, rfl, rfl, rfl⟩ (step_field1 rfl rfl fd40_2 ty33 rfl rfl) ?_   -- 12
        refine TrC.take ⟨_, _, rfl, rfl, rfl⟩ (step_bin rfl rfl rfl rfl rfl) ?_   -- 13
        refine TrC.spell 108 rfl (bv (b := true) (by simp [heal_np hnp])) ?_
        refine TrC.take rfl (step_pick rfl rfl rfl rfl) ?_   -- 14
        refine TrC.take rfl (step_move rfl rfl rfl) ?_   -- 15
        refine TrC.take ⟨_, _, rfl, rfl, rfl⟩ (step_fieldAddrP rfl rfl fd35_2 rfl rfl) ?_   -- 16
        refine TrC.take ⟨_, _, rfl, rfl, rfl⟩ (step_loadP1 rfl rfl rfl ty33 rfl rfl) ?_   -- 17
        refine TrC.take ⟨_, _, rfl, rfl, rfl⟩ (step_bin rfl rfl rfl rfl rfl) ?_   -- 18
        refine TrC.spell 113 rfl (bv (b := true) (by simp [send_np hnp])) ?_
        refine TrC.take rfl (step_pick rfl rfl rfl rfl) ?_   -- 19
        refine TrC.take rfl (step_move rfl rfl rfl) ?_   -- 20
        refine TrC.take ⟨_, _, rfl, rfl, rfl⟩ (step_fieldAddrP rfl rfl fd35_0 rfl rfl) ?_   -- 21
        first | refine TrC.take ⟨_, _, rfl, rfl, rfl⟩ (step_loadPN rfl rfl rfl ty30 rfl rfl rfl) ?_ | refine TrC.take ⟨_, _, rfl, rfl, rfl⟩ (step_loadPA rfl rfl rfl ty30 rfl rfl) ?_   -- 22
        first | refine TrC.take ⟨_, _, rfl, rfl, rfl⟩ (step_loadPN rfl rfl rfl ty30 rfl rfl rfl) ?_ | refine TrC.take ⟨_, _, rfl, rfl, rfl⟩ (step_loadPA rfl rfl rfl ty30 rfl rfl) ?_   -- 23
        refine TrC.take ⟨_, _, rfl, rfl, rfl⟩ (step_call0 rfl rfl (D15 (hv.send w0 w1) F) rfl) ?_   -- 24
        refine TrC.spell 119 rfl (bv (b := true) (by simp [send_np hnp])) ?_
        refine TrC.take rfl (step_pick rfl rfl rfl rfl) ?_   -- 25
        refine TrC.take rfl (step_move rfl rfl rfl) ?_   -- 26
        refine TrC.take ⟨_, _, rfl, rfl, rfl⟩ (step_move rfl rfl rfl) ?_   -- 27
        refine TrC.take rfl (step_pick rfl rfl rfl rfl) ?_   -- 28
        refine TrC.take rfl (step_assign rfl rfl rfl) ?_   -- 29
        refine TrC.done ?_
        refine AT.ret ?_
        exact Ret.one rfl (ResR.tmp rfl (conv_b rfl))
      · -- false
        have hp : parts w0 w1 = true := by simpa using h94
        refine AT.skip ?_
        refine AT.seq ?_
        refine AT.seq ?_
        refine AT.regionD mixed rfl ?_   -- region 15 law.go:279
        refine TrC.take rfl (step_fieldAddrP rfl rfl fd35_2 rfl rfl) ?_   -- 0
        refine TrC.take rfl (step_loadP1 rfl rfl rfl ty33 rfl rfl) ?_   -- 1
        refine TrC.take rfl (step_bin rfl rfl rfl rfl rfl) ?_   -- 2
        refine TrC.spell 126 rfl (bv (b := false) (by simp [send_big hp (.inl (show 200 ≤ F.fl.length by omega))])) ?_
        refine TrC.take rfl (step_move rfl rfl rfl) ?_   -- 3
        refine TrC.take ⟨_, _, rfl, rfl, rfl⟩ (step_fieldAddrP rfl rfl fd35_2 rfl rfl) ?_   -- 4
        refine TrC.take ⟨_, _, rfl, rfl, rfl⟩ (step_loadP1 rfl rfl rfl ty33 rfl rfl) ?_   -- 5
        refine TrC.take ⟨_, _, rfl, rfl, rfl⟩ (step_bin rfl rfl rfl rfl rfl) ?_   -- 6
        refine TrC.spell 130 rfl (bv (b := false) (by simp [send_one hp])) ?_
        refine TrC.take rfl (step_pick rfl rfl rfl rfl) ?_   -- 7
        refine TrC.take rfl (step_move rfl rfl rfl) ?_   -- 8
        first | refine TrC.take ⟨_, _, rfl, rfl, rfl⟩ (step_loadPN rfl rfl rfl ty30 rfl rfl rfl) ?_ | refine TrC.take ⟨_, _, rfl, rfl, rfl⟩ (step_loadPA rfl rfl rfl ty30 rfl rfl) ?_   -- 9
        refine TrC.take ⟨_, _, rfl, rfl, rfl⟩ (step_fieldAddrP rfl rfl fd30_0 rfl rfl) ?_   -- 10
        refine TrC.take ⟨_, _, rfl, rfl, rfl⟩ (step_loadP1 rfl rfl rfl ty27 rfl rfl) ?_   -- 11
        refine TrC.take ⟨_, _, rfl, rfl, rfl⟩ (step_indexAddrT (v := .agg [.i F.fl[0].id, .i F.fl[0].fr, .i F.fl[0].to]) rfl rfl rfl sl27 (by decide) (by exact hget) rfl rfl) ?_   -- 12
        first | refine TrC.take ⟨_, _, rfl, rfl, rfl⟩ (step_fieldAddrP rfl rfl fd25_0 rfl rfl) ?_ | refine TrC.take ⟨_, _, rfl, rfl, rfl⟩ (step_fieldAddrT rfl rfl fd25_0 rfl rfl rfl) ?_ | refine TrC.take ⟨_, _, rfl, rfl, rfl⟩ (step_fieldAddrE rfl rfl fd25_0 rfl rfl) ?_   -- 13
        first | refine TrC.take ⟨_, _, rfl, rfl, rfl⟩ (step_loadP1 rfl rfl rfl ty3 rfl rfl) ?_ | refine TrC.take ⟨_, _, rfl, rfl, rfl⟩ (step_loadT1 rfl rfl ty3 rfl rfl) ?_ | refine TrC.take ⟨_, _, rfl, rfl, rfl⟩ (step_loadE1 rfl rfl rfl HOFF ty3 HV rfl rfl) ?_   -- 14
        refine TrC.take ⟨_, _, rfl, rfl, rfl⟩ (step_buildA rfl ze32 rfl ar32 rfl rfl rfl rfl) ?_   -- 15
        refine TrC.take ⟨_, _, rfl, rfl, rfl⟩ (step_call0 rfl rfl ((D21 hv F.fl[0].id 0 1).eq (et ((dn1 _ _ _).trans (double_big hv h0 (by omega))))) rfl) ?_   -- 16
        refine TrC.take ⟨_, _, rfl, rfl, rfl⟩ (step_field1 rfl rfl fd40_2 ty33 rfl rfl) ?_   -- 17
        refine TrC.take ⟨_, _, rfl, rfl, rfl⟩ (step_bin rfl rfl rfl rfl rfl) ?_   -- 18
        refine TrC.spell 142 rfl (bv (b := false) (by simp)) ?_
        refine TrC.take rfl (step_pick rfl rfl rfl rfl) ?_   -- 19
        refine TrC.take rfl (step_move rfl rfl rfl) ?_   -- 20
        refine TrC.take ⟨_, _, rfl, rfl, rfl⟩ (step_buildC rfl ze30 zc30 rfl pl30 rfl rfl rfl rfl) ?_   -- 21
        refine TrC.take ⟨_, _, rfl, rfl, rfl⟩ (step_indexAddrP rfl rfl rfl ar32 (by decide) (by decide) rfl) ?_   -- 22
        refine TrC.take ⟨_, _, rfl, rfl, rfl⟩ (step_loadP1 rfl rfl rfl ty3 rfl rfl) ?_   -- 23
        refine TrC.take ⟨_, _, rfl, rfl, rfl⟩ (step_indexAddrP rfl rfl rfl ar32 (by decide) (by decide) rfl) ?_   -- 24
        refine TrC.take ⟨_, _, rfl, rfl, rfl⟩ (step_loadP1 rfl rfl rfl ty3 rfl rfl) ?_   -- 25
        refine TrC.take ⟨_, _, rfl, rfl, rfl⟩ (step_call0 rfl rfl (D13 (n := ⟨[], [], 1000000000⟩) (vn (by decide)) w0 w1) rfl) ?_   -- 26
        refine TrC.take ⟨_, _, rfl, rfl, rfl⟩ (step_field1 rfl rfl fd35_2 ty33 rfl rfl) ?_   -- 27
        refine TrC.take ⟨_, _, rfl, rfl, rfl⟩ (step_bin rfl rfl rfl rfl rfl) ?_   -- 28
        refine TrC.spell 152 rfl (bv (b := false) (by simp [send_big (n := ⟨[], [], 1000000000⟩) hp (.inr (Int.le_refl _))])) ?_
        refine TrC.take rfl (step_pick rfl rfl rfl rfl) ?_   -- 29
        refine TrC.doneD rfl ?_
        refine AT.condF rfl ?_   -- t153
        refine AT.skip ?_
        refine AT.seq ?_
        refine AT.regionD mixed rfl ?_   -- region 17 law.go:282
        refine TrC.take rfl (step_fieldAddrP rfl rfl fd40_2 rfl rfl) ?_   -- 0
        refine TrC.take rfl (step_loadP1 rfl rfl rfl ty33 rfl rfl) ?_   -- 1
        refine TrC.take rfl (step_bin rfl rfl rfl rfl rfl) ?_   -- 2
        first | refine TrC.take rfl (step_loadPN rfl rfl rfl ty30 rfl rfl rfl) ?_ | refine TrC.take rfl (step_loadPA rfl rfl rfl ty30 rfl rfl) ?_   -- 3
        refine TrC.take rfl (step_indexAddrP rfl rfl rfl ar32 (by decide) (by decide) rfl) ?_   -- 4
        refine TrC.take rfl (step_loadP1 rfl rfl rfl ty3 rfl rfl) ?_   -- 5
        refine TrC.take rfl (step_indexAddrP rfl rfl rfl ar32 (by decide) (by decide) rfl) ?_   -- 6
        refine TrC.take rfl (step_loadP1 rfl rfl rfl ty3 rfl rfl) ?_   -- 7
        refine TrC.take rfl (step_call0 rfl rfl (D19 hv w0 w1) rfl) ?_   -- 8
        refine TrC.take rfl (step_eqbool rfl rfl rfl bo4 rfl) ?_   -- 9
        refine TrC.spell 163 rfl (bv (b := true) (by rw [← (sever_big hp (show 200 ≤ F.cuts.length by omega)).2]; simp; rfl)) ?_
        refine TrC.take rfl (step_move rfl rfl rfl) ?_   -- 10
        refine TrC.take ⟨_, _, rfl, rfl, rfl⟩ (step_fieldAddrP rfl rfl fd40_0 rfl rfl) ?_   -- 11
        first | refine TrC.take ⟨_, _, rfl, rfl, rfl⟩ (step_loadPN rfl rfl rfl ty30 rfl rfl rfl) ?_ | refine TrC.take ⟨_, _, rfl, rfl, rfl⟩ (step_loadPA rfl rfl rfl ty30 rfl rfl) ?_   -- 12
        first | refine TrC.take ⟨_, _, rfl, rfl, rfl⟩ (step_loadPN rfl rfl rfl ty30 rfl rfl rfl) ?_ | refine TrC.take ⟨_, _, rfl, rfl, rfl⟩ (step_loadPA rfl rfl rfl ty30 rfl rfl) ?_   -- 13
        refine TrC.take ⟨_, _, rfl, rfl, rfl⟩ (step_call0 rfl rfl (D15 (hv.sever w0 w1) F) rfl) ?_   -- 14
        refine TrC.spell 168 rfl (bv (b := true) (dtrue (sever_big hp (show 200 ≤ F.cuts.length by omega)).1)) ?_
        refine TrC.take rfl (step_pick rfl rfl rfl rfl) ?_   -- 15
        refine TrC.take rfl (step_move rfl rfl rfl) ?_   -- 16
        refine TrC.take ⟨_, _, rfl, rfl, rfl⟩ (step_move rfl rfl rfl) ?_   -- 17
        refine TrC.take rfl (step_pick rfl rfl rfl rfl) ?_   -- 18
        refine TrC.take rfl (step_assign rfl rfl rfl) ?_   -- 19
        refine TrC.doneD rfl ?_
        refine AT.ret ?_
        exact Ret.one rfl (ResR.tmp rfl (conv_b rfl))

end Go.Proofs.Ytnemmdbafngppaa.Net

/- NetLimits: from the function's contract to arguments as they come. No condition. -/
set_option linter.unusedVariables false
namespace Go.Proofs.Ytnemmdbafngppaa.netLimits
open Go.Proofs.Ytnemmdbafngppaa.Abs Go.Proofs.Ytnemmdbafngppaa.Net Go.RowKit
theorem NetLimits_has (x0 x1 : T) (f0 : Fits Try.prog 32 x0.cells) (a0 : (∃ l, x0 = .agg l) ↔ (partsOf Try.prog 32).isSome = true) (f1 : Fits Try.prog 5 x1.cells) (a1 : (∃ l, x1 = .agg l) ↔ (partsOf Try.prog 5).isSome = true) : Has Try.prog 10 [x0, x1] (.b true) := by
  obtain ⟨ns, g1, rfl, _⟩ := flatV (k := .i64) (n := 2) f0 a0 (by kernel_rfl)
  obtain ⟨w0, w1, rfl⟩ := list_two g1
  obtain ⟨m, rfl, hm⟩ := intV (k := .u8) f1 a1 (by kernel_rfl)
  exact C10 w0 w1 m hm
end Go.Proofs.Ytnemmdbafngppaa.netLimits

/- The statement NetLimitsSaid is proved here: the law's function returns true for all its arguments and panics for none. No condition. -/
namespace Go.Proofs.Ytnemmdbafngppaa.netLimits
open Go.ChangeShapes Go.WideShapes Go.ChangeAt Go.RowKit
open Go.Proofs.Ytnemmdbafngppaa.Abs
set_option linter.unusedVariables false
theorem own : ownKnob Try.prog.godebug = none := by kernel_rfl
theorem laidOut : laidOutB Try.prog = true := by kernel_rfl
set_option maxRecDepth 100000 in
theorem lifted (os : Os) (started : os.Started) (H : Type) (enc : TypeId × Value → H) :
    ReturnsInHanded {} Try.checked os 10 .any (Rows.netLimitsSpec.pre6 enc Try.prog Try.f10 Rows.netLimitsRow.domain false) (Rows.netLimitsSpec.post enc Try.prog Try.f10 false true false false) := by
  refine returnsInHanded_of_change_sized (C := Try.checked) own started (by kernel_rfl) Try.func10
    (ChangeSpec.witness6 (enc := enc) (C := Try.checked) false ⟨#[], #[.agg #[.int .i64 0, .int .i64 0], .int .u8 0], []⟩ 8 (by kernel_rfl) (by kernel_rfl) (by kernel_rfl) (by kernel_rfl)) ?_
  intro W base args ds gs before hval0 hW hcnd hsz0 _
  have hval : ∀ (j : Nat) t v, Try.f10.params[j]? = some t → args[j]? = some v → Value.okWide Try.prog W .any base t v := hval0
  have hW' := hW
  obtain ⟨p, q, hA0, hV, rfl, hfz, hnd⟩ := hW
  have hA : DataW.TrodAll enc Try.prog W 0 (fun _ => true) true Try.f10.params.toList args.toList ds p := hA0
  rw [show Try.f10.params = #[32, 5] from by kernel_rfl] at hA hval
  obtain ⟨v0, vs0, d0, ds0, p0, q0, hargs, rfl, rfl, h0, r0⟩ := trodAll_cons hA
  obtain ⟨v1, vs1, d1, ds1, p1, q1, rfl, rfl, rfl, h1, r1⟩ := trodAll_cons r0
  obtain ⟨rfl, rfl, rfl⟩ := trodAll_nil r1
  obtain rfl : args = #[v0, v1] := by cases args; simp_all
  obtain ⟨rfl, rfl⟩ := trodVars_none hV
  have lt0 : ∀ x ∈ p0, x.block < W.heap.size := by obtain ⟨m, hm⟩ := h0; exact DataW.trod_lt m _ _ _ hm
  obtain ⟨x0, rd0, ft0, ag0⟩ := Trod_reads 8 (by kernel_rfl) (hval 0 32 v0 rfl rfl) h0
  have lt1 : ∀ x ∈ p1, x.block < W.heap.size := by obtain ⟨m, hm⟩ := h1; exact DataW.trod_lt m _ _ _ hm
  obtain ⟨x1, rd1, ft1, ag1⟩ := Trod_reads 8 (by kernel_rfl) (hval 1 5 v1 rfl rfl) h1
  have hh := NetLimits_has x0 x1 ft0 ag0 ft1 ag1
  refine (hh.2 W (okW W) #[v0, v1] (fun _ h => h) rfl ?_).mono fun e W' hx => ?_
  · intro i h1 h2
    rcases i with _ | i; exact rd0; rcases i with _ | i; exact rd1; simp at h1 <;> omega
  · obtain ⟨v, he, hr, bel⟩ := hx
    subst he
    cases hr with
    | v _ =>
      exact ⟨_, rfl, _, _, _, [], _, [], hW', trodAll_mk1 (shut_bool (show Try.prog.underlying 4 = some .bool by kernel_rfl) _), (trodAll_cons_mk (Below.trod laidOut (by kernel_rfl) (of_decide_eq_true (by kernel_rfl)) h0 bel lt0) (trodAll_cons_mk (Below.trod laidOut (by kernel_rfl) (of_decide_eq_true (by kernel_rfl)) h1 bel lt1) trodAll_mk0)), rfl, bel.frame _, fun h => by cases h⟩
theorem over : Rows.netLimitsRow.holds Try.pinned (OpenSpec.ofChange Rows.netLimitsSpec) :=
  OpenClaim.holds_of_wide 10 Try.f10 rfl rfl rfl rfl rfl rfl rfl ⟨rfl, rfl, rfl, rfl, rfl⟩ rfl rfl rfl rfl rfl (by kernel_rfl) Try.func10 (by kernel_rfl)
    (of_decide_eq_true (by kernel_rfl)) (by unfold Func.isWrapper; first | (rw [if_pos (by decide +kernel)]; kernel_rfl) | (rw [if_neg (by decide +kernel)]; exact ⟨rfl, rfl⟩))
    (fun os started H enc _ => lifted os started H enc)
theorem proved : Rows.NetLimitsSaid := over
#print axioms proved
end Go.Proofs.Ytnemmdbafngppaa.netLimits
namespace Go.Proofs.Ytnemmdbafngppaa
/-- The row, under a short name, for the claim. -/
theorem netLimits_holds : Rows.NetLimitsSaid := netLimits.proved
end Go.Proofs.Ytnemmdbafngppaa

