/- Parts of this proof, one after the other; each says what it proves. No condition. -/
import Derived.Test.YtnemmdbafngppaaMF
import Derived.Test.YtnemmdbafngppaaRows
import Derived.Test.YtnemmdbafngppaaMC
import Derived.WalkKit
import Derived.ProofKit
import Derived.OpenShut
import Derived.ShutString
import Derived.ChangeOld
import Derived.Below
import Derived.Carry
import Derived.SizedLaws
/- Contracts of functions of this translation. Printed by wip/tools/gen.py out of wip/net/ann.py. No condition. -/
set_option linter.unusedVariables false
set_option linter.unusedSimpArgs false
namespace Go.Proofs.Ytnemmdbafngppaa.Net
open Go.Proofs.Ytnemmdbafngppaa.Abs
set_option maxRecDepth 100000
set_option maxHeartbeats 4000000
theorem C7 (l : List (Int × Int × Int)) (hb : ∀ x ∈ l, (0 ≤ x.1 ∧ x.1 ≤ 255) ∧ (0 ≤ x.2.1 ∧ x.2.1 ≤ 255) ∧ (0 ≤ x.2.2 ∧ x.2.2 ≤ 255)) (k : Int) (hk : 0 ≤ k ∧ k ≤ 255) : Has Try.prog 7 [.slice 3 (l.map encB), .u8 k] (.b true) := by   -- burgage/burgagelaw32.NetLoses
  obtain ⟨n, hn⟩ : ∃ n, n = made l := ⟨_, rfl⟩
  have hv : VN n := hn ▸ VN.made l
  have hvl := hv.nl
  have hvc := hv.cl
  have hmf : n.cuts.length ≤ 20 := hn ▸ (made_facts l).2
  refine Has.intro 133 Try.func7 (by kernel_rfl) rfl rfl fun w ok => ?_
  refine AT.seq ?_
  refine AT.region ?_   -- region 0 law.go:175
  refine TrC.take rfl (step_assign rfl rfl rfl) ?_   -- 0
  refine TrC.done ?_
  refine AT.seq ?_
  refine AT.region ?_   -- region 1 law.go:176
  refine TrC.take rfl (step_call0 rfl rfl (C11) rfl) ?_   -- 0
  refine TrC.take rfl (step_assign rfl rfl rfl) ?_   -- 1
  refine TrC.done ?_
  refine AT.seq ?_
  refine AT.region ?_   -- region 2 law.go:177
  refine TrC.take rfl (step_move rfl rfl rfl) ?_   -- 0
  refine TrC.take rfl (step_call0 rfl rfl ((C12 l hb).eq (congrArg encN hn.symm)) rfl) ?_   -- 1
  refine TrC.take rfl (step_allocC rfl rfl ze30 zc30 rfl rfl rfl) ?_   -- 2
  refine TrC.take rfl (step_storeP rfl rfl rfl rfl rfl (.inl rfl) ty30 rfl rfl rfl) ?_   -- 3
  refine TrC.done ?_
  refine AT.seq ?_
  refine AT.seq ?_
  refine AT.region ?_   -- region 3 law.go:178
  refine TrC.take rfl (step_fieldAddrP rfl rfl fd30_0 rfl rfl) ?_   -- 0
  refine TrC.take rfl (step_loadP1 rfl rfl rfl ty27 rfl rfl) ?_   -- 1
  refine TrC.take rfl (step_lenT (rt := 0) rfl rfl sl27 rfl) ?_   -- 2
  refine TrC.take rfl (step_bin rfl rfl rfl rfl rfl) ?_   -- 3
  refine TrC.done ?_
  refine AT.cond rfl (fun h18 => ?_) (fun h18 => ?_)   -- t18
  · -- true
    have hnil : n.fl = [] := by simpa using h18
    have hnone : findIx n k = none := by unfold findIx; rw [hnil]; rfl
    refine AT.seq ?_
    refine AT.region ?_   -- region 4 law.go:179
    refine TrC.take rfl (step_loadPN rfl rfl rfl ty30 rfl rfl rfl) ?_   -- 0
    refine TrC.take rfl (step_move rfl rfl rfl) ?_   -- 1
    refine TrC.take rfl (step_convI rfl rfl in5 in3 (by omega) (by omega) rfl) ?_   -- 2
    refine TrC.take rfl (step_buildA rfl ze32 rfl ar32 rfl rfl rfl rfl) ?_   -- 3
    refine TrC.take rfl (step_call0 rfl rfl ((D21 hv k 0 0).eq (et ((dn0 _ _ _).trans (lose_none hnone)))) rfl) ?_   -- 4
    refine TrC.take rfl (step_field1 rfl rfl fd40_2 ty33 rfl rfl) ?_   -- 5
    refine TrC.take rfl (step_bin rfl rfl rfl rfl rfl) ?_   -- 6
    refine TrC.spell 25 rfl (bv (b := true) (by simp)) ?_
    refine TrC.take rfl (step_move rfl rfl rfl) ?_   -- 7
    refine TrC.take ⟨_, _, rfl, rfl, rfl⟩ (step_move rfl rfl rfl) ?_   -- 8
    refine TrC.take rfl (step_pick rfl rfl rfl rfl) ?_   -- 9
    refine TrC.take rfl (step_assign rfl rfl rfl) ?_   -- 10
    refine TrC.done ?_
    refine AT.ret ?_
    exact Ret.one rfl (ResR.tmp rfl (conv_b rfl))
  · -- false
    have hpos : 0 < n.fl.length := by have h := h18; simp at h; exact List.length_pos_iff.2 h
    obtain ⟨i, hi, hik⟩ : ∃ i : Nat, i < n.fl.length ∧ k % (n.fl.length : Int) = i := ⟨(k % (n.fl.length : Int)).toNat, by have h1 := Int.emod_nonneg k (show (n.fl.length : Int) ≠ 0 by omega); have h2 := Int.emod_lt_of_pos k (show 0 < (n.fl.length : Int) by omega); omega, by have h1 := Int.emod_nonneg k (show (n.fl.length : Int) ≠ 0 by omega); omega⟩
    have hw : VN (without n i) := hv.without hi
    have hg := find_gone hv.sp hi
    have hwl := without_len hi
    have hget : (n.fl.map encP)[i]? = some (.agg [.i n.fl[i].id, .i n.fl[i].fr, .i n.fl[i].to]) := by simp [hi, encP]
    refine AT.skip ?_
    refine AT.seq ?_
    refine AT.region ?_   -- region 5 law.go:181
    refine TrC.take rfl (step_move rfl rfl rfl) ?_   -- 0
    refine TrC.take rfl (step_convI rfl rfl in5 in3 (by omega) (by omega) rfl) ?_   -- 1
    refine TrC.take rfl (step_fieldAddrP rfl rfl fd30_0 rfl rfl) ?_   -- 2
    refine TrC.take rfl (step_loadP1 rfl rfl rfl ty27 rfl rfl) ?_   -- 3
    refine TrC.take rfl (step_lenT (rt := 0) rfl rfl sl27 rfl) ?_   -- 4
    first | refine TrC.take rfl (step_remI rfl rfl rfl (by omega) (by first | omega | (simp; done) | (simp; omega)) rfl) ?_ | refine TrC.take rfl (step_bin rfl rfl rfl rfl rfl) ?_   -- 5
    refine TrC.take rfl (step_assign rfl rfl rfl) ?_   -- 6
    refine TrC.done ?_
    refine AT.spell 7 rfl (iv (b := (i : Int)) (by simpa using hik)) ?_
    refine AT.seq ?_
    refine AT.regionD mixed rfl ?_   -- region 6 law.go:182
    refine TrC.take rfl (step_loadPN rfl rfl rfl ty30 rfl rfl rfl) ?_   -- 0
    refine TrC.take rfl (step_fieldAddrP rfl rfl fd30_0 rfl rfl) ?_   -- 1
    refine TrC.take rfl (step_loadP1 rfl rfl rfl ty27 rfl rfl) ?_   -- 2
    refine TrC.take rfl (step_move rfl rfl rfl) ?_   -- 3
    refine TrC.take rfl (step_indexAddrT (v := .agg [.i n.fl[i].id, .i n.fl[i].fr, .i n.fl[i].to]) rfl rfl rfl sl27 (by omega) (by simpa using hget) rfl rfl) ?_   -- 4
    refine TrC.take rfl (step_fieldAddrT rfl rfl fd25_0 rfl rfl rfl) ?_   -- 5
    refine TrC.take rfl (step_loadT1 rfl rfl ty3 rfl rfl) ?_   -- 6
    refine TrC.take rfl (step_buildA rfl ze32 rfl ar32 rfl rfl rfl rfl) ?_   -- 7
    refine TrC.take rfl (step_call0 rfl rfl ((D21 hv n.fl[i].id 0 0).eq (et ((dn0 _ _ _).trans (lose_at hv.sp hi)))) rfl) ?_   -- 8
    refine TrC.take rfl (step_allocC rfl rfl ze40 zc40 rfl rfl rfl) ?_   -- 9
    refine TrC.take rfl (step_storeP rfl rfl rfl rfl rfl (.inl rfl) ty40 rfl rfl rfl) ?_   -- 10
    refine TrC.doneD rfl ?_
    refine AT.seq ?_
    refine AT.seq ?_
    refine AT.region ?_   -- region 7 law.go:183
    refine TrC.take rfl (step_fieldAddrP rfl rfl fd40_2 rfl rfl) ?_   -- 0
    refine TrC.take rfl (step_loadP1 rfl rfl rfl ty33 rfl rfl) ?_   -- 1
    refine TrC.take rfl (step_bin rfl rfl rfl rfl rfl) ?_   -- 2
    refine TrC.spell 46 rfl (bv (b := false) (by simp)) ?_
    refine TrC.take rfl (step_move rfl rfl rfl) ?_   -- 3
    refine TrC.take ⟨_, _, rfl, rfl, rfl⟩ (step_fieldAddrP rfl rfl fd40_0 rfl rfl) ?_   -- 4
    refine TrC.take ⟨_, _, rfl, rfl, rfl⟩ (step_loadPN rfl rfl rfl ty30 rfl rfl rfl) ?_   -- 5
    refine TrC.take ⟨_, _, rfl, rfl, rfl⟩ (step_call0 rfl rfl (D27 hw) rfl) ?_   -- 6
    refine TrC.spell 50 rfl (bv (b := true) (rfl)) ?_
    refine TrC.take ⟨_, _, rfl, rfl, rfl⟩ (step_not rfl rfl rfl) ?_   -- 7
    refine TrC.take rfl (step_pick rfl rfl rfl rfl) ?_   -- 8
    refine TrC.take rfl (step_move rfl rfl rfl) ?_   -- 9
    refine TrC.take ⟨_, _, rfl, rfl, rfl⟩ (step_fieldAddrP rfl rfl fd40_0 rfl rfl) ?_   -- 10
    refine TrC.take ⟨_, _, rfl, rfl, rfl⟩ (step_fieldAddrP rfl rfl fd30_0 rfl rfl) ?_   -- 11
    refine TrC.take ⟨_, _, rfl, rfl, rfl⟩ (step_loadP1 rfl rfl rfl ty27 rfl rfl) ?_   -- 12
    refine TrC.take ⟨_, _, rfl, rfl, rfl⟩ (step_lenT (rt := 0) rfl rfl sl27 rfl) ?_   -- 13
    refine TrC.take ⟨_, _, rfl, rfl, rfl⟩ (step_fieldAddrP rfl rfl fd30_0 rfl rfl) ?_   -- 14
    refine TrC.take ⟨_, _, rfl, rfl, rfl⟩ (step_loadP1 rfl rfl rfl ty27 rfl rfl) ?_   -- 15
    refine TrC.take ⟨_, _, rfl, rfl, rfl⟩ (step_lenT (rt := 0) rfl rfl sl27 rfl) ?_   -- 16
    refine TrC.take ⟨_, _, rfl, rfl, rfl⟩ (step_subI rfl rfl rfl (by first | omega | (simp; done) | (simp; omega)) (by first | omega | (simp; done) | (simp; omega)) rfl) ?_   -- 17
    refine TrC.take ⟨_, _, rfl, rfl, rfl⟩ (step_bin rfl rfl rfl rfl rfl) ?_   -- 18
    refine TrC.spell 62 rfl (bv (b := false) (by simp [hwl]; omega)) ?_
    refine TrC.take rfl (step_pick rfl rfl rfl rfl) ?_   -- 19
    refine TrC.take rfl (step_move rfl rfl rfl) ?_   -- 20
    refine TrC.take ⟨_, _, rfl, rfl, rfl⟩ (step_fieldAddrP rfl rfl fd40_0 rfl rfl) ?_   -- 21
    refine TrC.take ⟨_, _, rfl, rfl, rfl⟩ (step_fieldAddrP rfl rfl fd30_1 rfl rfl) ?_   -- 22
    refine TrC.take ⟨_, _, rfl, rfl, rfl⟩ (step_loadP1 rfl rfl rfl ty28 rfl rfl) ?_   -- 23
    refine TrC.take ⟨_, _, rfl, rfl, rfl⟩ (step_lenT (rt := 0) rfl rfl sl28 rfl) ?_   -- 24
    refine TrC.take ⟨_, _, rfl, rfl, rfl⟩ (step_fieldAddrP rfl rfl fd30_1 rfl rfl) ?_   -- 25
    refine TrC.take ⟨_, _, rfl, rfl, rfl⟩ (step_loadP1 rfl rfl rfl ty28 rfl rfl) ?_   -- 26
    refine TrC.take ⟨_, _, rfl, rfl, rfl⟩ (step_lenT (rt := 0) rfl rfl sl28 rfl) ?_   -- 27
    refine TrC.take ⟨_, _, rfl, rfl, rfl⟩ (step_bin rfl rfl rfl rfl rfl) ?_   -- 28
    refine TrC.spell 72 rfl (bv (b := false) (by simp [without])) ?_
    refine TrC.take rfl (step_pick rfl rfl rfl rfl) ?_   -- 29
    refine TrC.done ?_
    refine AT.condF rfl ?_   -- t73
    refine AT.skip ?_
    refine AT.seq ?_
    refine AT.seq ?_
    refine AT.region ?_   -- region 9 law.go:186
    refine TrC.take rfl (step_assign rfl rfl rfl) ?_   -- 0
    refine TrC.done ?_
    refine AT.block ?_   -- block 0
    refine AT.loopP (fun j : Nat => j ≤ (without n i).fl.length) (fun j => mkS [(5, .t (.b true)), (6, .p 6 0), (7, .t (.i i)), (8, .p 8 0), (9, .t (.i j))] [(6, .box 30 [.t (.slice 3 (n.fl.map encP)), .t (.slice 2 (n.cuts.map encC)), .t (.i n.next)]), (8, .box 40 [.t (.slice 3 ((without n i).fl.map encP)), .t (.slice 2 ((without n i).cuts.map encC)), .t (.i (without n i).next), .t (.i 0), .t (.i 0), .t (.i 0), .t (.i 0)])]) (fun j => (without n i).fl.length - j) (0) (Nat.zero_le _) (fun a w hs => Sat.wk [] (.cons (.t (.refl _)) (.cons (.p rfl) (.cons (.t (.refl _)) (.cons (.p rfl) (.cons (.t (.refl _)) (.nil)))))) (.cons rfl (.box (.cons (.t (.refl _)) (.cons (.t (.refl _)) (.cons (.t (.refl _)) (.nil))))) (.cons rfl (.box (.cons (.t (.refl _)) (.cons (.t (.refl _)) (.cons (.t (.refl _)) (.cons (.t (.refl _)) (.cons (.t (.refl _)) (.cons (.t (.refl _)) (.cons (.t (.refl _)) (.nil))))))))) (.nil))) rfl rfl a w hs) (fun jx hjx => ?_)
    refine AT.seq ?_
    refine AT.seq ?_
    refine AT.region ?_   -- region 10 law.go:186
    refine TrC.take rfl (step_move rfl rfl rfl) ?_   -- 0
    refine TrC.take rfl (step_fieldAddrP rfl rfl fd40_0 rfl rfl) ?_   -- 1
    refine TrC.take rfl (step_fieldAddrP rfl rfl fd30_0 rfl rfl) ?_   -- 2
    refine TrC.take rfl (step_loadP1 rfl rfl rfl ty27 rfl rfl) ?_   -- 3
    refine TrC.take rfl (step_lenT (rt := 0) rfl rfl sl27 rfl) ?_   -- 4
    refine TrC.take rfl (step_bin rfl rfl rfl rfl rfl) ?_   -- 5
    refine TrC.done ?_
    refine AT.cond rfl (fun h79 => ?_) (fun h79 => ?_)   -- t79
    · -- true
      have hlt : jx < (without n i).fl.length := by simpa using h79
      obtain ⟨q, hq, heq, hqd⟩ := erase_get hi jx hlt
      have heq : (without n i).fl[jx] = n.fl[q] := heq
      have hgw : ((without n i).fl.map encP)[jx]? = some (.agg [.i (without n i).fl[jx].id, .i (without n i).fl[jx].fr, .i (without n i).fl[jx].to]) := by rw [List.getElem?_map, List.getElem?_eq_getElem hlt]; rfl
      have hgq : (n.fl.map encP)[q]? = some (.agg [.i n.fl[q].id, .i n.fl[q].fr, .i n.fl[q].to]) := by rw [List.getElem?_map, List.getElem?_eq_getElem hq]; rfl
      refine AT.skip ?_
      refine AT.seq ?_
      refine AT.block ?_   -- block 1
      refine AT.seq ?_
      refine AT.region ?_   -- region 12 law.go:187
      refine TrC.take rfl (step_move rfl rfl rfl) ?_   -- 0
      refine TrC.take rfl (step_assign rfl rfl rfl) ?_   -- 1
      refine TrC.done ?_
      refine AT.seq ?_
      refine AT.seq ?_
      refine AT.region ?_   -- region 13 law.go:188
      refine TrC.take rfl (step_move rfl rfl rfl) ?_   -- 0
      refine TrC.take rfl (step_move rfl rfl rfl) ?_   -- 1
      refine TrC.take rfl (step_bin rfl rfl rfl rfl rfl) ?_   -- 2
      refine TrC.done ?_
      refine AT.cond rfl (fun h85 => ?_) (fun h85 => ?_)   -- t85
      · -- true
        refine AT.region ?_   -- region 14 law.go:189
        refine TrC.take rfl (step_move rfl rfl rfl) ?_   -- 0
        refine TrC.take rfl (step_addI rfl rfl rfl (by first | omega | (simp; done) | (simp; omega)) (by first | omega | (simp; done) | (simp; omega)) rfl) ?_   -- 1
        refine TrC.take rfl (step_assign rfl rfl rfl) ?_   -- 2
        refine TrC.done ?_
        refine AT.seq ?_
        refine AT.spell 10 rfl (iv (b := (q : Int)) (by have h := h85; simp at h; rw [hqd]; split <;> omega)) ?_
        refine AT.regionD mixed rfl ?_   -- region 15 law.go:191
        refine TrC.take rfl (step_fieldAddrP rfl rfl fd40_0 rfl rfl) ?_   -- 0
        refine TrC.take rfl (step_fieldAddrP rfl rfl fd30_0 rfl rfl) ?_   -- 1
        refine TrC.take rfl (step_loadP1 rfl rfl rfl ty27 rfl rfl) ?_   -- 2
        refine TrC.take rfl (step_move rfl rfl rfl) ?_   -- 3
        refine TrC.take rfl (step_indexAddrT (v := .agg [.i (without n i).fl[jx].id, .i (without n i).fl[jx].fr, .i (without n i).fl[jx].to]) rfl rfl rfl sl27 (by omega) (by first | exact hgw | simpa using hgw) rfl rfl) ?_   -- 4
        refine TrC.take rfl (step_loadTN rfl rfl ty25 rfl rfl) ?_   -- 5
        refine TrC.take rfl (step_fieldAddrP rfl rfl fd30_0 rfl rfl) ?_   -- 6
        refine TrC.take rfl (step_loadP1 rfl rfl rfl ty27 rfl rfl) ?_   -- 7
        refine TrC.take rfl (step_move rfl rfl rfl) ?_   -- 8
        refine TrC.take rfl (step_indexAddrT (v := .agg [.i n.fl[q].id, .i n.fl[q].fr, .i n.fl[q].to]) rfl rfl rfl sl27 (by omega) (by first | exact hgq | simpa using hgq) rfl rfl) ?_   -- 9
        refine TrC.take rfl (step_loadTN rfl rfl ty25 rfl rfl) ?_   -- 10
        refine TrC.take rfl (step_nea rfl rfl rfl rfl rfl ty25 eg25 (eq25 _ _ _ _ _ _) rfl) ?_   -- 11
        refine TrC.spell 99 rfl (bv (b := false) (by simp [heq])) ?_
        refine TrC.doneD rfl ?_
        refine AT.condF rfl ?_   -- t99
        refine AT.skip ?_
        refine AT.region ?_   -- region 11 law.go:186
        refine TrC.take rfl (step_move rfl rfl rfl) ?_   -- 0
        refine TrC.take rfl (step_addI rfl rfl rfl (by first | omega | (simp; done) | (simp; omega)) (by first | omega | (simp; done) | (simp; omega)) rfl) ?_   -- 1
        refine TrC.take rfl (step_assign rfl rfl rfl) ?_   -- 2
        refine TrC.done ?_
        exact ⟨jx + 1, by omega, by show (without n i).fl.length - (jx + 1) < (without n i).fl.length - jx; omega, Sat.wk [] (.cons (.t (.refl _)) (.cons (.p rfl) (.cons (.t (.refl _)) (.cons (.p rfl) (.cons (.t (conv_i (by simp))) (.nil)))))) (.cons rfl (.box (.cons (.t (.refl _)) (.cons (.t (.refl _)) (.cons (.t (.refl _)) (.nil))))) (.cons rfl (.box (.cons (.t (.refl _)) (.cons (.t (.refl _)) (.cons (.t (.refl _)) (.cons (.t (.refl _)) (.cons (.t (.refl _)) (.cons (.t (.refl _)) (.cons (.t (.refl _)) (.nil))))))))) (.nil))) rfl rfl⟩
      · -- false
        refine AT.skip ?_
        refine AT.seq ?_
        refine AT.spell 10 rfl (iv (b := (q : Int)) (by have h := h85; simp at h; rw [hqd]; split <;> omega)) ?_
        refine AT.regionD mixed rfl ?_   -- region 15 law.go:191
        refine TrC.take rfl (step_fieldAddrP rfl rfl fd40_0 rfl rfl) ?_   -- 0
        refine TrC.take rfl (step_fieldAddrP rfl rfl fd30_0 rfl rfl) ?_   -- 1
        refine TrC.take rfl (step_loadP1 rfl rfl rfl ty27 rfl rfl) ?_   -- 2
        refine TrC.take rfl (step_move rfl rfl rfl) ?_   -- 3
        refine TrC.take rfl (step_indexAddrT (v := .agg [.i (without n i).fl[jx].id, .i (without n i).fl[jx].fr, .i (without n i).fl[jx].to]) rfl rfl rfl sl27 (by omega) (by first | exact hgw | simpa using hgw) rfl rfl) ?_   -- 4
        refine TrC.take rfl (step_loadTN rfl rfl ty25 rfl rfl) ?_   -- 5
        refine TrC.take rfl (step_fieldAddrP rfl rfl fd30_0 rfl rfl) ?_   -- 6
        refine TrC.take rfl (step_loadP1 rfl rfl rfl ty27 rfl rfl) ?_   -- 7
        refine TrC.take rfl (step_move rfl rfl rfl) ?_   -- 8
        refine TrC.take rfl (step_indexAddrT (v := .agg [.i n.fl[q].id, .i n.fl[q].fr, .i n.fl[q].to]) rfl rfl rfl sl27 (by omega) (by first | exact hgq | simpa using hgq) rfl rfl) ?_   -- 9
        refine TrC.take rfl (step_loadTN rfl rfl ty25 rfl rfl) ?_   -- 10
        refine TrC.take rfl (step_nea rfl rfl rfl rfl rfl ty25 eg25 (eq25 _ _ _ _ _ _) rfl) ?_   -- 11
        refine TrC.spell 99 rfl (bv (b := false) (by simp [heq])) ?_
        refine TrC.doneD rfl ?_
        refine AT.condF rfl ?_   -- t99
        refine AT.skip ?_
        refine AT.region ?_   -- region 11 law.go:186
        refine TrC.take rfl (step_move rfl rfl rfl) ?_   -- 0
        refine TrC.take rfl (step_addI rfl rfl rfl (by first | omega | (simp; done) | (simp; omega)) (by first | omega | (simp; done) | (simp; omega)) rfl) ?_   -- 1
        refine TrC.take rfl (step_assign rfl rfl rfl) ?_   -- 2
        refine TrC.done ?_
        exact ⟨jx + 1, by omega, by show (without n i).fl.length - (jx + 1) < (without n i).fl.length - jx; omega, Sat.wk [] (.cons (.t (.refl _)) (.cons (.p rfl) (.cons (.t (.refl _)) (.cons (.p rfl) (.cons (.t (conv_i (by simp))) (.nil)))))) (.cons rfl (.box (.cons (.t (.refl _)) (.cons (.t (.refl _)) (.cons (.t (.refl _)) (.nil))))) (.cons rfl (.box (.cons (.t (.refl _)) (.cons (.t (.refl _)) (.cons (.t (.refl _)) (.cons (.t (.refl _)) (.cons (.t (.refl _)) (.cons (.t (.refl _)) (.cons (.t (.refl _)) (.nil))))))))) (.nil))) rfl rfl⟩
    · -- false
      refine AT.exit (Or.inl ⟨rfl, ?_⟩)   -- exit 0
      refine AT.seq ?_
      refine AT.region ?_   -- region 17 law.go:195
      refine TrC.take rfl (step_fieldAddrP rfl rfl fd30_0 rfl rfl) ?_   -- 0
      refine TrC.take rfl (step_loadP1 rfl rfl rfl ty27 rfl rfl) ?_   -- 1
      refine TrC.take rfl (step_move rfl rfl rfl) ?_   -- 2
      refine TrC.take rfl (step_indexAddrT (v := .agg [.i n.fl[i].id, .i n.fl[i].fr, .i n.fl[i].to]) rfl rfl rfl sl27 (by omega) (by simpa using hget) rfl rfl) ?_   -- 3
      refine TrC.take rfl (step_fieldAddrT rfl rfl fd25_0 rfl rfl rfl) ?_   -- 4
      refine TrC.take rfl (step_loadT1 rfl rfl ty3 rfl rfl) ?_   -- 5
      refine TrC.take rfl (step_assign rfl rfl rfl) ?_   -- 6
      refine TrC.done ?_
      refine AT.seq ?_
      refine AT.region ?_   -- region 18 law.go:196
      refine TrC.take rfl (step_fieldAddrP rfl rfl fd40_0 rfl rfl) ?_   -- 0
      refine TrC.take rfl (step_loadPN rfl rfl rfl ty30 rfl rfl rfl) ?_   -- 1
      refine TrC.take rfl (step_move rfl rfl rfl) ?_   -- 2
      refine TrC.take rfl (step_call0 rfl rfl ((D17 hw n.fl[i].id).eq (et (take_none hg))) rfl) ?_   -- 3
      refine TrC.take rfl (step_field1 rfl rfl fd40_2 ty33 rfl rfl) ?_   -- 4
      refine TrC.take rfl (step_bin rfl rfl rfl rfl rfl) ?_   -- 5
      refine TrC.spell 111 rfl (bv (b := true) (by simp)) ?_
      refine TrC.take rfl (step_move rfl rfl rfl) ?_   -- 6
      refine TrC.take ⟨_, _, rfl, rfl, rfl⟩ (step_fieldAddrP rfl rfl fd40_0 rfl rfl) ?_   -- 7
      refine TrC.take ⟨_, _, rfl, rfl, rfl⟩ (step_loadPN rfl rfl rfl ty30 rfl rfl rfl) ?_   -- 8
      refine TrC.take ⟨_, _, rfl, rfl, rfl⟩ (step_move rfl rfl rfl) ?_   -- 9
      refine TrC.take ⟨_, _, rfl, rfl, rfl⟩ (step_buildA rfl ze32 rfl ar32 rfl rfl rfl rfl) ?_   -- 10
      refine TrC.take ⟨_, _, rfl, rfl, rfl⟩ (step_call0 rfl rfl ((D21 hw n.fl[i].id 0 0).eq (et ((dn0 _ _ _).trans (lose_none hg)))) rfl) ?_   -- 11
      refine TrC.take ⟨_, _, rfl, rfl, rfl⟩ (step_field1 rfl rfl fd40_2 ty33 rfl rfl) ?_   -- 12
      refine TrC.take ⟨_, _, rfl, rfl, rfl⟩ (step_bin rfl rfl rfl rfl rfl) ?_   -- 13
      refine TrC.spell 119 rfl (bv (b := true) (by simp)) ?_
      refine TrC.take rfl (step_pick rfl rfl rfl rfl) ?_   -- 14
      refine TrC.take rfl (step_move rfl rfl rfl) ?_   -- 15
      refine TrC.take ⟨_, _, rfl, rfl, rfl⟩ (step_fieldAddrP rfl rfl fd40_0 rfl rfl) ?_   -- 16
      refine TrC.take ⟨_, _, rfl, rfl, rfl⟩ (step_loadPN rfl rfl rfl ty30 rfl rfl rfl) ?_   -- 17
      refine TrC.take ⟨_, _, rfl, rfl, rfl⟩ (step_move rfl rfl rfl) ?_   -- 18
      refine TrC.take ⟨_, _, rfl, rfl, rfl⟩ (step_buildA rfl ze32 rfl ar32 rfl rfl rfl rfl) ?_   -- 19
      refine TrC.take ⟨_, _, rfl, rfl, rfl⟩ (step_call0 rfl rfl ((D21 hw n.fl[i].id 0 1).eq (et ((dn1 _ _ _).trans (double_none hg)))) rfl) ?_   -- 20
      refine TrC.take ⟨_, _, rfl, rfl, rfl⟩ (step_field1 rfl rfl fd40_2 ty33 rfl rfl) ?_   -- 21
      refine TrC.take ⟨_, _, rfl, rfl, rfl⟩ (step_bin rfl rfl rfl rfl rfl) ?_   -- 22
      refine TrC.spell 128 rfl (bv (b := true) (by simp)) ?_
      refine TrC.take rfl (step_pick rfl rfl rfl rfl) ?_   -- 23
      refine TrC.take rfl (step_move rfl rfl rfl) ?_   -- 24
      refine TrC.take ⟨_, _, rfl, rfl, rfl⟩ (step_move rfl rfl rfl) ?_   -- 25
      refine TrC.take rfl (step_pick rfl rfl rfl rfl) ?_   -- 26
      refine TrC.take rfl (step_assign rfl rfl rfl) ?_   -- 27
      refine TrC.done ?_
      refine AT.ret ?_
      exact Ret.one rfl (ResR.tmp rfl (conv_b rfl))

end Go.Proofs.Ytnemmdbafngppaa.Net

/- NetLoses: from the function's contract to arguments as they come. No condition. -/
set_option linter.unusedVariables false
namespace Go.Proofs.Ytnemmdbafngppaa.netLoses
open Go.Proofs.Ytnemmdbafngppaa.Abs Go.Proofs.Ytnemmdbafngppaa.Net Go.RowKit
theorem NetLoses_has (x0 x1 : T) (f0 : Fits Try.prog 22 x0.cells) (a0 : (∃ l, x0 = .agg l) ↔ (partsOf Try.prog 22).isSome = true) (f1 : Fits Try.prog 5 x1.cells) (a1 : (∃ l, x1 = .agg l) ↔ (partsOf Try.prog 5).isSome = true) : Has Try.prog 7 [x0, x1] (.b true) := by
  obtain ⟨l, rfl, _, hb⟩ := fitB3 f0 a0 (e := 47) (by kernel_rfl) (by kernel_rfl) (by kernel_rfl)
  obtain ⟨k, rfl, hk⟩ := intV (k := .u8) f1 a1 (by kernel_rfl)
  exact C7 l hb k hk
end Go.Proofs.Ytnemmdbafngppaa.netLoses

/- The statement NetLosesSaid is proved here: the law's function returns true for all its arguments and panics for none. No condition. -/
namespace Go.Proofs.Ytnemmdbafngppaa.netLoses
open Go.ChangeShapes Go.WideShapes Go.ChangeAt Go.RowKit
open Go.Proofs.Ytnemmdbafngppaa.Abs
set_option linter.unusedVariables false
theorem own : ownKnob Try.prog.godebug = none := by kernel_rfl
theorem laidOut : laidOutB Try.prog = true := by kernel_rfl
set_option maxRecDepth 100000 in
theorem lifted (os : Os) (started : os.Started) (H : Type) (enc : TypeId × Value → H) :
    ReturnsInHanded {} Try.checked os 7 .any (Rows.netLosesSpec.pre6 enc Try.prog Try.f7 Rows.netLosesRow.domain false) (Rows.netLosesSpec.post enc Try.prog Try.f7 false true false false) := by
  refine returnsInHanded_of_change_sized (C := Try.checked) own started (by kernel_rfl) Try.func7
    (ChangeSpec.witness6 (enc := enc) (C := Try.checked) false ⟨#[], #[.slice none 0 0, .int .u8 0], []⟩ 8 (by kernel_rfl) (by kernel_rfl) (by kernel_rfl) (by kernel_rfl)) ?_
  intro W base args ds gs before hval0 hW hcnd hsz0 _
  have hval : ∀ (j : Nat) t v, Try.f7.params[j]? = some t → args[j]? = some v → Value.okWide Try.prog W .any base t v := hval0
  have hW' := hW
  obtain ⟨p, q, hA0, hV, rfl, hfz, hnd⟩ := hW
  have hA : DataW.TrodAll enc Try.prog W 0 (fun _ => true) true Try.f7.params.toList args.toList ds p := hA0
  rw [show Try.f7.params = #[22, 5] from by kernel_rfl] at hA hval
  obtain ⟨v0, vs0, d0, ds0, p0, q0, hargs, rfl, rfl, h0, r0⟩ := trodAll_cons hA
  obtain ⟨v1, vs1, d1, ds1, p1, q1, rfl, rfl, rfl, h1, r1⟩ := trodAll_cons r0
  obtain ⟨rfl, rfl, rfl⟩ := trodAll_nil r1
  obtain rfl : args = #[v0, v1] := by cases args; simp_all
  obtain ⟨rfl, rfl⟩ := trodVars_none hV
  have lt0 : ∀ x ∈ p0, x.block < W.heap.size := by obtain ⟨m, hm⟩ := h0; exact DataW.trod_lt m _ _ _ hm
  obtain ⟨x0, rd0, ft0, ag0⟩ := Trod_reads 8 (by kernel_rfl) (hval 0 22 v0 rfl rfl) h0
  have lt1 : ∀ x ∈ p1, x.block < W.heap.size := by obtain ⟨m, hm⟩ := h1; exact DataW.trod_lt m _ _ _ hm
  obtain ⟨x1, rd1, ft1, ag1⟩ := Trod_reads 8 (by kernel_rfl) (hval 1 5 v1 rfl rfl) h1
  have hh := NetLoses_has x0 x1 ft0 ag0 ft1 ag1
  refine (hh.2 W (okW W) #[v0, v1] (fun _ h => h) rfl ?_).mono fun e W' hx => ?_
  · intro i h1 h2
    rcases i with _ | i; exact rd0; rcases i with _ | i; exact rd1; simp at h1 <;> omega
  · obtain ⟨v, he, hr, bel⟩ := hx
    subst he
    cases hr with
    | v _ =>
      exact ⟨_, rfl, _, _, _, [], _, [], hW', trodAll_mk1 (shut_bool (show Try.prog.underlying 4 = some .bool by kernel_rfl) _), (trodAll_cons_mk (Below.trod laidOut (by kernel_rfl) (of_decide_eq_true (by kernel_rfl)) h0 bel lt0) (trodAll_cons_mk (Below.trod laidOut (by kernel_rfl) (of_decide_eq_true (by kernel_rfl)) h1 bel lt1) trodAll_mk0)), rfl, bel.frame _, fun h => by cases h⟩
theorem over : Rows.netLosesRow.holds Try.pinned (OpenSpec.ofChange Rows.netLosesSpec) :=
  OpenClaim.holds_of_wide 7 Try.f7 rfl rfl rfl rfl rfl rfl rfl ⟨rfl, rfl, rfl, rfl, rfl⟩ rfl rfl rfl rfl rfl (by kernel_rfl) Try.func7 (by kernel_rfl)
    (of_decide_eq_true (by kernel_rfl)) (by unfold Func.isWrapper; first | (rw [if_pos (by decide +kernel)]; kernel_rfl) | (rw [if_neg (by decide +kernel)]; exact ⟨rfl, rfl⟩))
    (fun os started H enc _ => lifted os started H enc)
theorem proved : Rows.NetLosesSaid := over
#print axioms proved
end Go.Proofs.Ytnemmdbafngppaa.netLoses
namespace Go.Proofs.Ytnemmdbafngppaa
/-- The row, under a short name, for the claim. -/
theorem netLoses_holds : Rows.NetLosesSaid := netLoses.proved
end Go.Proofs.Ytnemmdbafngppaa

