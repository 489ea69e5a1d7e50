/- Parts of this proof, one after the other; each says what it proves. No condition. -/
import Derived.Test.YtnemmdbafngppaaMF
import Derived.Test.YtnemmdbafngppaaMG
import Derived.Test.YtnemmdbafngppaaRows
import Derived.Test.YtnemmdbafngppaaMC
import Derived.WalkKit
import Derived.ProofKit
import Derived.OpenShut
import Derived.ShutString
import Derived.ChangeOld
import Derived.Below
import Derived.Carry
import Derived.SizedLaws
/- Contracts of functions of this translation. Printed by wip/tools/gen.py out of wip/net/ann.py. No condition. -/
set_option linter.unusedVariables false
set_option linter.unusedSimpArgs false
namespace Go.Proofs.Ytnemmdbafngppaa.Net
open Go.Proofs.Ytnemmdbafngppaa.Abs
set_option maxRecDepth 100000
set_option maxHeartbeats 4000000
theorem C8 (f t : Int) (hf : 0 ≤ f ∧ f ≤ 255) (ht : 0 ≤ t ∧ t ≤ 255) (l : List Int) (hb : ∀ y ∈ l, 0 ≤ y ∧ y ≤ 255) : Has Try.prog 8 [.u8 f, .u8 t, .slice 1 (l.map encB1)] (.b true) := by   -- burgage/burgagelaw32.NetDoubles
  have hp : parts f (300 + t) = true := by simp [parts, part]; omega
  have v5 : VN ⟨[], [], 5⟩ := vn (by decide)
  refine Has.intro 130 Try.func8 (by kernel_rfl) rfl rfl fun w ok => ?_
  refine AT.seq ?_
  refine AT.region ?_   -- region 0 law.go:200
  refine TrC.take rfl (step_assign rfl rfl rfl) ?_   -- 0
  refine TrC.done ?_
  refine AT.seq ?_
  refine AT.region ?_   -- region 1 law.go:201
  refine TrC.take rfl (step_call0 rfl rfl (C11) rfl) ?_   -- 0
  refine TrC.take rfl (step_assign rfl rfl rfl) ?_   -- 1
  refine TrC.done ?_
  refine AT.seq ?_
  refine AT.region ?_   -- region 2 law.go:202
  refine TrC.take rfl (step_buildC rfl ze30 zc30 rfl pl30 rfl rfl rfl rfl) ?_   -- 0
  refine TrC.take rfl (step_allocC rfl rfl ze30 zc30 rfl rfl rfl) ?_   -- 1
  refine TrC.take rfl (step_storeP rfl rfl rfl rfl rfl (.inl rfl) ty30 rfl rfl rfl) ?_   -- 2
  refine TrC.take rfl (step_assign rfl rfl rfl) ?_   -- 3
  refine TrC.done ?_
  refine AT.seq ?_
  refine AT.region ?_   -- region 3 law.go:203
  refine TrC.take rfl (step_loadPN rfl rfl rfl ty30 rfl rfl rfl) ?_   -- 0
  refine TrC.take rfl (step_move rfl rfl rfl) ?_   -- 1
  refine TrC.take rfl (step_convI rfl rfl in5 in3 (by omega) (by omega) rfl) ?_   -- 2
  refine TrC.take rfl (step_move rfl rfl rfl) ?_   -- 3
  refine TrC.take rfl (step_convI rfl rfl in5 in3 (by omega) (by omega) rfl) ?_   -- 4
  refine TrC.take rfl (step_addI rfl rfl rfl (by first | omega | (simp; done) | (simp; omega)) (by first | omega | (simp; done) | (simp; omega)) rfl) ?_   -- 5
  refine TrC.take rfl (step_call0 rfl rfl ((D13 v5 f (300 + t)).eq (es (nD_send hp))) rfl) ?_   -- 6
  refine TrC.take rfl (step_allocC rfl rfl ze35 zc35 rfl rfl rfl) ?_   -- 7
  refine TrC.take rfl (step_storeP rfl rfl rfl rfl rfl (.inl rfl) ty35 rfl rfl rfl) ?_   -- 8
  refine TrC.done ?_
  refine AT.seq ?_
  refine AT.seq ?_
  refine AT.region ?_   -- region 4 law.go:204
  refine TrC.take rfl (step_fieldAddrP rfl rfl fd35_2 rfl rfl) ?_   -- 0
  refine TrC.take rfl (step_loadP1 rfl rfl rfl ty33 rfl rfl) ?_   -- 1
  refine TrC.take rfl (step_bin rfl rfl rfl rfl rfl) ?_   -- 2
  refine TrC.spell 26 rfl (bv (b := false) (by simp)) ?_
  refine TrC.take rfl (step_move rfl rfl rfl) ?_   -- 3
  refine TrC.take ⟨_, _, rfl, rfl, rfl⟩ (step_fieldAddrP rfl rfl fd35_1 rfl rfl) ?_   -- 4
  refine TrC.take ⟨_, _, rfl, rfl, rfl⟩ (step_loadP1 rfl rfl rfl ty3 rfl rfl) ?_   -- 5
  refine TrC.take ⟨_, _, rfl, rfl, rfl⟩ (step_bin rfl rfl rfl rfl rfl) ?_   -- 6
  refine TrC.spell 30 rfl (bv (b := false) (by simp)) ?_
  refine TrC.take rfl (step_pick rfl rfl rfl rfl) ?_   -- 7
  refine TrC.take rfl (step_move rfl rfl rfl) ?_   -- 8
  refine TrC.take ⟨_, _, rfl, rfl, rfl⟩ (step_fieldAddrP rfl rfl fd35_0 rfl rfl) ?_   -- 9
  refine TrC.take ⟨_, _, rfl, rfl, rfl⟩ (step_loadPN rfl rfl rfl ty30 rfl rfl rfl) ?_   -- 10
  refine TrC.take ⟨_, _, rfl, rfl, rfl⟩ (step_call0 rfl rfl (D27 (nD_vn (i := 0) (c := 1) hp (by omega))) rfl) ?_   -- 11
  refine TrC.spell 35 rfl (bv (b := true) (rfl)) ?_
  refine TrC.take ⟨_, _, rfl, rfl, rfl⟩ (step_not rfl rfl rfl) ?_   -- 12
  refine TrC.take rfl (step_pick rfl rfl rfl rfl) ?_   -- 13
  refine TrC.done ?_
  refine AT.condF rfl ?_   -- t37
  refine AT.skip ?_
  refine AT.seq ?_
  refine AT.region ?_   -- region 6 law.go:207
  refine TrC.take rfl (step_fieldAddrP rfl rfl fd35_0 rfl rfl) ?_   -- 0
  refine TrC.take rfl (step_loadPN rfl rfl rfl ty30 rfl rfl rfl) ?_   -- 1
  refine TrC.take rfl (step_storeP rfl rfl rfl rfl rfl (.inl rfl) ty30 rfl rfl rfl) ?_   -- 2
  refine TrC.done ?_
  refine AT.seq ?_
  refine AT.seq ?_
  refine AT.region ?_   -- region 7 law.go:208
  refine TrC.take rfl (step_assign rfl rfl rfl) ?_   -- 0
  refine TrC.done ?_
  refine AT.block ?_   -- block 0
  refine AT.loopP (fun i : Nat => i ≤ l.length ∧ i ≤ 10) (fun i => mkS [(0, .t (.u8 f)), (1, .t (.u8 t)), (2, .t (.slice 1 (l.map encB1))), (7, .t (.b true)), (8, .p 8 0), (9, .t (.i ((i + 1 : Nat) : Int))), (11, .t (.i i))] [(8, .box 30 [.t (.slice 3 ((nD f (300 + t) 0 (i + 1)).fl.map encP)), .t (.slice 2 ((nD f (300 + t) 0 (i + 1)).cuts.map encC)), .t (.i (nD f (300 + t) 0 (i + 1)).next)])]) (fun i => 10 - i) (0) (⟨by omega, by omega⟩) (fun a w hs => Sat.wk [] (.cons (.t (.refl _)) (.cons (.t (.refl _)) (.cons (.t (.refl _)) (.cons (.t (.refl _)) (.cons (.p rfl) (.cons (.t (conv_i (by first | omega | (simp; done) | (simp; omega)))) (.cons (.t (.refl _)) (.nil)))))))) (.cons rfl (.box (.cons (.t (.refl _)) (.cons (.t (.refl _)) (.cons (.t (.refl _)) (.nil))))) (.nil)) rfl rfl a w hs) (fun ix hix => ?_)
  obtain ⟨hi, h10⟩ := hix
  have hvn : VN (nD f (300 + t) 0 (ix + 1)) := nD_vn hp (by omega)
  refine AT.seq ?_
  refine AT.seq ?_
  refine AT.region ?_   -- region 8 law.go:208
  refine TrC.take rfl (step_move rfl rfl rfl) ?_   -- 0
  refine TrC.take rfl (step_move rfl rfl rfl) ?_   -- 1
  refine TrC.take rfl (step_lenT (rt := 0) rfl rfl sl51 rfl) ?_   -- 2
  refine TrC.take rfl (step_bin rfl rfl rfl rfl rfl) ?_   -- 3
  refine TrC.take rfl (step_move rfl rfl rfl) ?_   -- 4
  refine TrC.cases (d := 44) rfl (fun h44 => ?_) (fun h44 => ?_)
  · -- t44 = true
    have hlt : ix < l.length := by have h := h44; simp at h; omega
    refine TrC.take ⟨_, _, rfl, rfl, rfl⟩ (step_move rfl rfl rfl) ?_   -- 5
    refine TrC.take ⟨_, _, rfl, rfl, rfl⟩ (step_bin rfl rfl rfl rfl rfl) ?_   -- 6
    refine TrC.take rfl (step_pick rfl rfl rfl rfl) ?_   -- 7
    refine TrC.done ?_
    refine AT.cond rfl (fun h47 => ?_) (fun h47 => ?_)   -- t47
    · -- true
      have hlt2 : ix < 10 := by have h := h47; simp at h; omega
      have hget : (l.map encB1)[ix]? = some (.v (.int .u8 l[ix])) := by rw [List.getElem?_map, List.getElem?_eq_getElem hlt]; rfl
      have hbx := hb _ (List.getElem_mem hlt)
      have hm1 := Int.emod_nonneg l[ix] (show ((ix + 1 : Nat) : Int) ≠ 0 by omega)
      have hm2 := Int.emod_lt_of_pos l[ix] (show 0 < ((ix + 1 : Nat) : Int) by omega)
      refine AT.skip ?_
      refine AT.seq ?_
      refine AT.block ?_   -- block 1
      refine AT.seq ?_
      refine AT.regionD mixed rfl ?_   -- region 10 law.go:209
      refine TrC.take rfl (step_loadPN rfl rfl rfl ty30 rfl rfl rfl) ?_   -- 0
      refine TrC.take rfl (step_move rfl rfl rfl) ?_   -- 1
      refine TrC.take rfl (step_move rfl rfl rfl) ?_   -- 2
      refine TrC.take rfl (step_indexAddrT (v := .v (.int .u8 l[ix])) rfl rfl rfl sl51 (by omega) (by first | exact hget | simpa using hget) rfl rfl) ?_   -- 3
      refine TrC.take rfl (step_loadT1 rfl rfl ty5 rfl rfl) ?_   -- 4
      refine TrC.take rfl (step_convI rfl rfl in5 in3 (by omega) (by omega) rfl) ?_   -- 5
      refine TrC.take rfl (step_move rfl rfl rfl) ?_   -- 6
      first | refine TrC.take rfl (step_remI rfl rfl rfl (by omega) (by first | omega | (simp; done) | (simp; omega)) rfl) ?_ | refine TrC.take rfl (step_bin rfl rfl rfl rfl rfl) ?_   -- 7
      refine TrC.take rfl (step_addI rfl rfl rfl (by first | omega | (simp; done) | (simp; omega)) (by first | omega | (simp; done) | (simp; omega)) rfl) ?_   -- 8
      refine TrC.take rfl (step_buildA rfl ze32 rfl ar32 rfl rfl rfl rfl) ?_   -- 9
      refine TrC.take rfl (step_call0 rfl rfl ((D21 hvn (5 + l[ix] % ((ix + 1 : Nat) : Int)) 0 1).eq (et ((dn1 _ _ _).trans (nD_double hp (by omega) hm1 hm2)))) rfl) ?_   -- 10
      refine TrC.take rfl (step_allocC rfl rfl ze40 zc40 rfl rfl rfl) ?_   -- 11
      refine TrC.take rfl (step_storeP rfl rfl rfl rfl rfl (.inl rfl) ty40 rfl rfl rfl) ?_   -- 12
      refine TrC.doneD rfl ?_
      refine AT.seq ?_
      refine AT.seq ?_
      refine AT.region ?_   -- region 11 law.go:210
      refine TrC.take rfl (step_fieldAddrP rfl rfl fd40_2 rfl rfl) ?_   -- 0
      refine TrC.take rfl (step_loadP1 rfl rfl rfl ty33 rfl rfl) ?_   -- 1
      refine TrC.take rfl (step_bin rfl rfl rfl rfl rfl) ?_   -- 2
      refine TrC.spell 63 rfl (bv (b := false) (by simp)) ?_
      refine TrC.take rfl (step_move rfl rfl rfl) ?_   -- 3
      refine TrC.take ⟨_, _, rfl, rfl, rfl⟩ (step_fieldAddrP rfl rfl fd40_0 rfl rfl) ?_   -- 4
      refine TrC.take ⟨_, _, rfl, rfl, rfl⟩ (step_loadPN rfl rfl rfl ty30 rfl rfl rfl) ?_   -- 5
      refine TrC.take ⟨_, _, rfl, rfl, rfl⟩ (step_call0 rfl rfl (D27 (nD_vn (i := 0) (c := ix + 1 + 1) hp (by omega))) rfl) ?_   -- 6
      refine TrC.spell 67 rfl (bv (b := true) (rfl)) ?_
      refine TrC.take ⟨_, _, rfl, rfl, rfl⟩ (step_not rfl rfl rfl) ?_   -- 7
      refine TrC.take rfl (step_pick rfl rfl rfl rfl) ?_   -- 8
      refine TrC.take rfl (step_move rfl rfl rfl) ?_   -- 9
      refine TrC.take ⟨_, _, rfl, rfl, rfl⟩ (step_fieldAddrP rfl rfl fd40_0 rfl rfl) ?_   -- 10
      refine TrC.take ⟨_, _, rfl, rfl, rfl⟩ (step_fieldAddrP rfl rfl fd30_0 rfl rfl) ?_   -- 11
      refine TrC.take ⟨_, _, rfl, rfl, rfl⟩ (step_loadP1 rfl rfl rfl ty27 rfl rfl) ?_   -- 12
      refine TrC.take ⟨_, _, rfl, rfl, rfl⟩ (step_lenT (rt := 0) rfl rfl sl27 rfl) ?_   -- 13
      refine TrC.take ⟨_, _, rfl, rfl, rfl⟩ (step_move rfl rfl rfl) ?_   -- 14
      refine TrC.take ⟨_, _, rfl, rfl, rfl⟩ (step_addI rfl rfl rfl (by first | omega | (simp; done) | (simp; omega)) (by first | omega | (simp; done) | (simp; omega)) rfl) ?_   -- 15
      refine TrC.take ⟨_, _, rfl, rfl, rfl⟩ (step_bin rfl rfl rfl rfl rfl) ?_   -- 16
      refine TrC.spell 77 rfl (bv (b := false) (by simp [nD_len] <;> omega)) ?_
      refine TrC.take rfl (step_pick rfl rfl rfl rfl) ?_   -- 17
      refine TrC.done ?_
      refine AT.condF rfl ?_   -- t78
      refine AT.skip ?_
      refine AT.region ?_   -- region 13 law.go:213
      refine TrC.take rfl (step_fieldAddrP rfl rfl fd40_0 rfl rfl) ?_   -- 0
      refine TrC.take rfl (step_loadPN rfl rfl rfl ty30 rfl rfl rfl) ?_   -- 1
      refine TrC.take rfl (step_move rfl rfl rfl) ?_   -- 2
      refine TrC.take rfl (step_addI rfl rfl rfl (by first | omega | (simp; done) | (simp; omega)) (by first | omega | (simp; done) | (simp; omega)) rfl) ?_   -- 3
      refine TrC.take rfl (step_storeP rfl rfl rfl rfl rfl (.inl rfl) ty30 rfl rfl rfl) ?_   -- 4
      refine TrC.take rfl (step_assign rfl rfl rfl) ?_   -- 5
      refine TrC.done ?_
      refine AT.region ?_   -- region 9 law.go:208
      refine TrC.take rfl (step_move rfl rfl rfl) ?_   -- 0
      refine TrC.take rfl (step_addI rfl rfl rfl (by first | omega | (simp; done) | (simp; omega)) (by first | omega | (simp; done) | (simp; omega)) rfl) ?_   -- 1
      refine TrC.take rfl (step_assign rfl rfl rfl) ?_   -- 2
      refine TrC.done ?_
      exact ⟨ix + 1, ⟨by omega, by omega⟩, by show 10 - (ix + 1) < 10 - ix; omega, Sat.wk [] (.cons (.t (.refl _)) (.cons (.t (.refl _)) (.cons (.t (.refl _)) (.cons (.t (.refl _)) (.cons (.p rfl) (.cons (.t (conv_i (by first | omega | (simp; done) | (simp; omega)))) (.cons (.t (conv_i (by simp))) (.nil)))))))) (.cons rfl (.box (.cons (.t (.refl _)) (.cons (.t (.refl _)) (.cons (.t (.refl _)) (.nil))))) (.nil)) rfl rfl⟩
    · -- false
      refine AT.exit (Or.inl ⟨rfl, ?_⟩)   -- exit 0
      refine AT.seq ?_
      refine AT.seq ?_
      refine AT.region ?_   -- region 14 law.go:215
      refine TrC.take rfl (step_assign rfl rfl rfl) ?_   -- 0
      refine TrC.done ?_
      refine AT.block ?_   -- block 2
      refine AT.loopP (fun j : Nat => j ≤ ix + 1) (fun j => mkS [(0, .t (.u8 f)), (1, .t (.u8 t)), (7, .t (.b true)), (8, .p 8 0), (9, .t (.i ((ix + 1 : Nat) : Int))), (13, .t (.i j))] [(8, .box 30 [.t (.slice 3 ((nD f (300 + t) j (ix + 1)).fl.map encP)), .t (.slice 2 ((nD f (300 + t) j (ix + 1)).cuts.map encC)), .t (.i (nD f (300 + t) j (ix + 1)).next)])]) (fun j => ix + 1 - j) (0) (by omega) (fun a w hs => Sat.wk [] (.cons (.t (.refl _)) (.cons (.t (.refl _)) (.cons (.t (.refl _)) (.cons (.p rfl) (.cons (.t (.refl _)) (.cons (.t (.refl _)) (.nil))))))) (.cons rfl (.box (.cons (.t (.refl _)) (.cons (.t (.refl _)) (.cons (.t (.refl _)) (.nil))))) (.nil)) rfl rfl a w hs) (fun jx hjx => ?_)
      refine AT.seq ?_
      refine AT.seq ?_
      refine AT.region ?_   -- region 15 law.go:215
      refine TrC.take rfl (step_move rfl rfl rfl) ?_   -- 0
      refine TrC.take rfl (step_move rfl rfl rfl) ?_   -- 1
      refine TrC.take rfl (step_bin rfl rfl rfl rfl rfl) ?_   -- 2
      refine TrC.done ?_
      refine AT.cond rfl (fun h85 => ?_) (fun h85 => ?_)   -- t85
      · -- true
        have hlj : jx < ix + 1 := by have h := h85; simp at h; omega
        refine AT.skip ?_
        refine AT.seq ?_
        refine AT.block ?_   -- block 3
        refine AT.seq ?_
        refine AT.region ?_   -- region 17 law.go:216
        refine TrC.take rfl (step_loadPN rfl rfl rfl ty30 rfl rfl rfl) ?_   -- 0
        refine TrC.take rfl (step_move rfl rfl rfl) ?_   -- 1
        refine TrC.take rfl (step_addI rfl rfl rfl (by first | omega | (simp; done) | (simp; omega)) (by first | omega | (simp; done) | (simp; omega)) rfl) ?_   -- 2
        refine TrC.take rfl (step_call0 rfl rfl ((D17 (nD_vn (i := jx) (c := ix + 1) hp (by omega)) (5 + (jx : Int))).eq (et (nD_take hp (by omega) hlj))) rfl) ?_   -- 3
        refine TrC.take rfl (step_allocC rfl rfl ze40 zc40 rfl rfl rfl) ?_   -- 4
        refine TrC.take rfl (step_storeP rfl rfl rfl rfl rfl (.inl rfl) ty40 rfl rfl rfl) ?_   -- 5
        refine TrC.done ?_
        refine AT.seq ?_
        refine AT.seq ?_
        refine AT.region ?_   -- region 18 law.go:217
        refine TrC.take rfl (step_fieldAddrP rfl rfl fd40_2 rfl rfl) ?_   -- 0
        refine TrC.take rfl (step_loadP1 rfl rfl rfl ty33 rfl rfl) ?_   -- 1
        refine TrC.take rfl (step_bin rfl rfl rfl rfl rfl) ?_   -- 2
        refine TrC.spell 94 rfl (bv (b := false) (by simp)) ?_
        refine TrC.take rfl (step_move rfl rfl rfl) ?_   -- 3
        refine TrC.take ⟨_, _, rfl, rfl, rfl⟩ (step_fieldAddrP rfl rfl fd40_1 rfl rfl) ?_   -- 4
        refine TrC.take ⟨_, _, rfl, rfl, rfl⟩ (step_loadPN rfl rfl rfl ty25 rfl rfl rfl) ?_   -- 5
        refine TrC.take ⟨_, _, rfl, rfl, rfl⟩ (step_move rfl rfl rfl) ?_   -- 6
        refine TrC.take ⟨_, _, rfl, rfl, rfl⟩ (step_addI rfl rfl rfl (by first | omega | (simp; done) | (simp; omega)) (by first | omega | (simp; done) | (simp; omega)) rfl) ?_   -- 7
        refine TrC.take ⟨_, _, rfl, rfl, rfl⟩ (step_move rfl rfl rfl) ?_   -- 8
        refine TrC.take ⟨_, _, rfl, rfl, rfl⟩ (step_convI rfl rfl in5 in3 (by omega) (by omega) rfl) ?_   -- 9
        refine TrC.take ⟨_, _, rfl, rfl, rfl⟩ (step_move rfl rfl rfl) ?_   -- 10
        refine TrC.take ⟨_, _, rfl, rfl, rfl⟩ (step_convI rfl rfl in5 in3 (by omega) (by omega) rfl) ?_   -- 11
        refine TrC.take ⟨_, _, rfl, rfl, rfl⟩ (step_addI rfl rfl rfl (by first | omega | (simp; done) | (simp; omega)) (by first | omega | (simp; done) | (simp; omega)) rfl) ?_   -- 12
        refine TrC.take ⟨_, _, rfl, rfl, rfl⟩ (step_buildS rfl ze25 rfl pl25 rfl rfl rfl rfl) ?_   -- 13
        refine TrC.take ⟨_, _, rfl, rfl, rfl⟩ (step_nea rfl rfl rfl rfl rfl ty25 eg25 (eq25 _ _ _ _ _ _) rfl) ?_   -- 14
        refine TrC.spell 106 rfl (bv (b := false) (by simp)) ?_
        refine TrC.take rfl (step_pick rfl rfl rfl rfl) ?_   -- 15
        refine TrC.take rfl (step_move rfl rfl rfl) ?_   -- 16
        refine TrC.take ⟨_, _, rfl, rfl, rfl⟩ (step_fieldAddrP rfl rfl fd40_0 rfl rfl) ?_   -- 17
        refine TrC.take ⟨_, _, rfl, rfl, rfl⟩ (step_loadPN rfl rfl rfl ty30 rfl rfl rfl) ?_   -- 18
        refine TrC.take ⟨_, _, rfl, rfl, rfl⟩ (step_call0 rfl rfl (D27 (nD_vn (i := jx + 1) (c := ix + 1) hp (by omega))) rfl) ?_   -- 19
        refine TrC.spell 111 rfl (bv (b := true) (rfl)) ?_
        refine TrC.take ⟨_, _, rfl, rfl, rfl⟩ (step_not rfl rfl rfl) ?_   -- 20
        refine TrC.take rfl (step_pick rfl rfl rfl rfl) ?_   -- 21
        refine TrC.done ?_
        refine AT.condF rfl ?_   -- t113
        refine AT.skip ?_
        refine AT.region ?_   -- region 20 law.go:220
        refine TrC.take rfl (step_fieldAddrP rfl rfl fd40_0 rfl rfl) ?_   -- 0
        refine TrC.take rfl (step_loadPN rfl rfl rfl ty30 rfl rfl rfl) ?_   -- 1
        refine TrC.take rfl (step_storeP rfl rfl rfl rfl rfl (.inl rfl) ty30 rfl rfl rfl) ?_   -- 2
        refine TrC.done ?_
        refine AT.region ?_   -- region 16 law.go:215
        refine TrC.take rfl (step_move rfl rfl rfl) ?_   -- 0
        refine TrC.take rfl (step_addI rfl rfl rfl (by first | omega | (simp; done) | (simp; omega)) (by first | omega | (simp; done) | (simp; omega)) rfl) ?_   -- 1
        refine TrC.take rfl (step_assign rfl rfl rfl) ?_   -- 2
        refine TrC.done ?_
        exact ⟨jx + 1, by show jx + 1 ≤ ix + 1; omega, by show ix + 1 - (jx + 1) < ix + 1 - jx; omega, Sat.wk [] (.cons (.t (.refl _)) (.cons (.t (.refl _)) (.cons (.t (.refl _)) (.cons (.p rfl) (.cons (.t (.refl _)) (.cons (.t (conv_i (by simp))) (.nil))))))) (.cons rfl (.box (.cons (.t (.refl _)) (.cons (.t (.refl _)) (.cons (.t (.refl _)) (.nil))))) (.nil)) rfl rfl⟩
      · -- false
        have hje : jx = ix + 1 := by have h := h85; simp at h; omega
        refine AT.exit (Or.inl ⟨rfl, ?_⟩)   -- exit 2
        refine AT.seq ?_
        refine AT.region ?_   -- region 21 law.go:222
        refine TrC.take rfl (step_fieldAddrP rfl rfl fd30_0 rfl rfl) ?_   -- 0
        refine TrC.take rfl (step_loadP1 rfl rfl rfl ty27 rfl rfl) ?_   -- 1
        refine TrC.take rfl (step_lenT (rt := 0) rfl rfl sl27 rfl) ?_   -- 2
        refine TrC.take rfl (step_bin rfl rfl rfl rfl rfl) ?_   -- 3
        refine TrC.spell 119 rfl (bv (b := true) (by simp [nD_len] <;> omega)) ?_
        refine TrC.take rfl (step_move rfl rfl rfl) ?_   -- 4
        refine TrC.take ⟨_, _, rfl, rfl, rfl⟩ (step_fieldAddrP rfl rfl fd30_2 rfl rfl) ?_   -- 5
        refine TrC.take ⟨_, _, rfl, rfl, rfl⟩ (step_loadP1 rfl rfl rfl ty3 rfl rfl) ?_   -- 6
        refine TrC.take ⟨_, _, rfl, rfl, rfl⟩ (step_move rfl rfl rfl) ?_   -- 7
        refine TrC.take ⟨_, _, rfl, rfl, rfl⟩ (step_addI rfl rfl rfl (by first | omega | (simp; done) | (simp; omega)) (by first | omega | (simp; done) | (simp; omega)) rfl) ?_   -- 8
        refine TrC.take ⟨_, _, rfl, rfl, rfl⟩ (step_bin rfl rfl rfl rfl rfl) ?_   -- 9
        refine TrC.spell 125 rfl (bv (b := true) (by simp [nD])) ?_
        refine TrC.take rfl (step_pick rfl rfl rfl rfl) ?_   -- 10
        refine TrC.take rfl (step_move rfl rfl rfl) ?_   -- 11
        refine TrC.take ⟨_, _, rfl, rfl, rfl⟩ (step_move rfl rfl rfl) ?_   -- 12
        refine TrC.take rfl (step_pick rfl rfl rfl rfl) ?_   -- 13
        refine TrC.take rfl (step_assign rfl rfl rfl) ?_   -- 14
        refine TrC.done ?_
        refine AT.ret ?_
        exact Ret.one rfl (ResR.tmp rfl (conv_b rfl))
  · -- t44 = false
    refine TrC.skip ⟨_, _, rfl, rfl, rfl⟩ ?_   -- 5
    refine TrC.skip ⟨_, _, rfl, rfl, rfl⟩ ?_   -- 6
    refine TrC.take rfl (step_pick rfl rfl rfl rfl) ?_   -- 7
    refine TrC.done ?_
    refine AT.condF rfl ?_   -- t47
    refine AT.exit (Or.inl ⟨rfl, ?_⟩)   -- exit 0
    refine AT.seq ?_
    refine AT.seq ?_
    refine AT.region ?_   -- region 14 law.go:215
    refine TrC.take rfl (step_assign rfl rfl rfl) ?_   -- 0
    refine TrC.done ?_
    refine AT.block ?_   -- block 2
    refine AT.loopP (fun j : Nat => j ≤ ix + 1) (fun j => mkS [(0, .t (.u8 f)), (1, .t (.u8 t)), (7, .t (.b true)), (8, .p 8 0), (9, .t (.i ((ix + 1 : Nat) : Int))), (13, .t (.i j))] [(8, .box 30 [.t (.slice 3 ((nD f (300 + t) j (ix + 1)).fl.map encP)), .t (.slice 2 ((nD f (300 + t) j (ix + 1)).cuts.map encC)), .t (.i (nD f (300 + t) j (ix + 1)).next)])]) (fun j => ix + 1 - j) (0) (by omega) (fun a w hs => Sat.wk [] (.cons (.t (.refl _)) (.cons (.t (.refl _)) (.cons (.t (.refl _)) (.cons (.p rfl) (.cons (.t (.refl _)) (.cons (.t (.refl _)) (.nil))))))) (.cons rfl (.box (.cons (.t (.refl _)) (.cons (.t (.refl _)) (.cons (.t (.refl _)) (.nil))))) (.nil)) rfl rfl a w hs) (fun jx hjx => ?_)
    refine AT.seq ?_
    refine AT.seq ?_
    refine AT.region ?_   -- region 15 law.go:215
    refine TrC.take rfl (step_move rfl rfl rfl) ?_   -- 0
    refine TrC.take rfl (step_move rfl rfl rfl) ?_   -- 1
    refine TrC.take rfl (step_bin rfl rfl rfl rfl rfl) ?_   -- 2
    refine TrC.done ?_
    refine AT.cond rfl (fun h85 => ?_) (fun h85 => ?_)   -- t85
    · -- true
      have hlj : jx < ix + 1 := by have h := h85; simp at h; omega
      refine AT.skip ?_
      refine AT.seq ?_
      refine AT.block ?_   -- block 3
      refine AT.seq ?_
      refine AT.region ?_   -- region 17 law.go:216
      refine TrC.take rfl (step_loadPN rfl rfl rfl ty30 rfl rfl rfl) ?_   -- 0
      refine TrC.take rfl (step_move rfl rfl rfl) ?_   -- 1
      refine TrC.take rfl (step_addI rfl rfl rfl (by first | omega | (simp; done) | (simp; omega)) (by first | omega | (simp; done) | (simp; omega)) rfl) ?_   -- 2
      refine TrC.take rfl (step_call0 rfl rfl ((D17 (nD_vn (i := jx) (c := ix + 1) hp (by omega)) (5 + (jx : Int))).eq (et (nD_take hp (by omega) hlj))) rfl) ?_   -- 3
      refine TrC.take rfl (step_allocC rfl rfl ze40 zc40 rfl rfl rfl) ?_   -- 4
      refine TrC.take rfl (step_storeP rfl rfl rfl rfl rfl (.inl rfl) ty40 rfl rfl rfl) ?_   -- 5
      refine TrC.done ?_
      refine AT.seq ?_
      refine AT.seq ?_
      refine AT.region ?_   -- region 18 law.go:217
      refine TrC.take rfl (step_fieldAddrP rfl rfl fd40_2 rfl rfl) ?_   -- 0
      refine TrC.take rfl (step_loadP1 rfl rfl rfl ty33 rfl rfl) ?_   -- 1
      refine TrC.take rfl (step_bin rfl rfl rfl rfl rfl) ?_   -- 2
      refine TrC.spell 94 rfl (bv (b := false) (by simp)) ?_
      refine TrC.take rfl (step_move rfl rfl rfl) ?_   -- 3
      refine TrC.take ⟨_, _, rfl, rfl, rfl⟩ (step_fieldAddrP rfl rfl fd40_1 rfl rfl) ?_   -- 4
      refine TrC.take ⟨_, _, rfl, rfl, rfl⟩ (step_loadPN rfl rfl rfl ty25 rfl rfl rfl) ?_   -- 5
      refine TrC.take ⟨_, _, rfl, rfl, rfl⟩ (step_move rfl rfl rfl) ?_   -- 6
      refine TrC.take ⟨_, _, rfl, rfl, rfl⟩ (step_addI rfl rfl rfl (by first | omega | (simp; done) | (simp; omega)) (by first | omega | (simp; done) | (simp; omega)) rfl) ?_   -- 7
      refine TrC.take ⟨_, _, rfl, rfl, rfl⟩ (step_move rfl rfl rfl) ?_   -- 8
      refine TrC.take ⟨_, _, rfl, rfl, rfl⟩ (step_convI rfl rfl in5 in3 (by omega) (by omega) rfl) ?_   -- 9
      refine TrC.take ⟨_, _, rfl, rfl, rfl⟩ (step_move rfl rfl rfl) ?_   -- 10
      refine TrC.take ⟨_, _, rfl, rfl, rfl⟩ (step_convI rfl rfl in5 in3 (by omega) (by omega) rfl) ?_   -- 11
      refine TrC.take ⟨_, _, rfl, rfl, rfl⟩ (step_addI rfl rfl rfl (by first | omega | (simp; done) | (simp; omega)) (by first | omega | (simp; done) | (simp; omega)) rfl) ?_   -- 12
      refine TrC.take ⟨_, _, rfl, rfl, rfl⟩ (step_buildS rfl ze25 rfl pl25 rfl rfl rfl rfl) ?_   -- 13
      refine TrC.take ⟨_, _, rfl, rfl, rfl⟩ (step_nea rfl rfl rfl rfl rfl ty25 eg25 (eq25 _ _ _ _ _ _) rfl) ?_   -- 14
      refine TrC.spell 106 rfl (bv (b := false) (by simp)) ?_
      refine TrC.take rfl (step_pick rfl rfl rfl rfl) ?_   -- 15
      refine TrC.take rfl (step_move rfl rfl rfl) ?_   -- 16
      refine TrC.take ⟨_, _, rfl, rfl, rfl⟩ (step_fieldAddrP rfl rfl fd40_0 rfl rfl) ?_   -- 17
      refine TrC.take ⟨_, _, rfl, rfl, rfl⟩ (step_loadPN rfl rfl rfl ty30 rfl rfl rfl) ?_   -- 18
      refine TrC.take ⟨_, _, rfl, rfl, rfl⟩ (step_call0 rfl rfl (D27 (nD_vn (i := jx + 1) (c := ix + 1) hp (by omega))) rfl) ?_   -- 19
      refine TrC.spell 111 rfl (bv (b := true) (rfl)) ?_
      refine TrC.take ⟨_, _, rfl, rfl, rfl⟩ (step_not rfl rfl rfl) ?_   -- 20
      refine TrC.take rfl (step_pick rfl rfl rfl rfl) ?_   -- 21
      refine TrC.done ?_
      refine AT.condF rfl ?_   -- t113
      refine AT.skip ?_
      refine AT.region ?_   -- region 20 law.go:220
      refine TrC.take rfl (step_fieldAddrP rfl rfl fd40_0 rfl rfl) ?_   -- 0
      refine TrC.take rfl (step_loadPN rfl rfl rfl ty30 rfl rfl rfl) ?_   -- 1
      refine TrC.take rfl (step_storeP rfl rfl rfl rfl rfl (.inl rfl) ty30 rfl rfl rfl) ?_   -- 2
      refine TrC.done ?_
      refine AT.region ?_   -- region 16 law.go:215
      refine TrC.take rfl (step_move rfl rfl rfl) ?_   -- 0
      refine TrC.take rfl (step_addI rfl rfl rfl (by first | omega | (simp; done) | (simp; omega)) (by first | omega | (simp; done) | (simp; omega)) rfl) ?_   -- 1
      refine TrC.take rfl (step_assign rfl rfl rfl) ?_   -- 2
      refine TrC.done ?_
      exact ⟨jx + 1, by show jx + 1 ≤ ix + 1; omega, by show ix + 1 - (jx + 1) < ix + 1 - jx; omega, Sat.wk [] (.cons (.t (.refl _)) (.cons (.t (.refl _)) (.cons (.t (.refl _)) (.cons (.p rfl) (.cons (.t (.refl _)) (.cons (.t (conv_i (by simp))) (.nil))))))) (.cons rfl (.box (.cons (.t (.refl _)) (.cons (.t (.refl _)) (.cons (.t (.refl _)) (.nil))))) (.nil)) rfl rfl⟩
    · -- false
      have hje : jx = ix + 1 := by have h := h85; simp at h; omega
      refine AT.exit (Or.inl ⟨rfl, ?_⟩)   -- exit 2
      refine AT.seq ?_
      refine AT.region ?_   -- region 21 law.go:222
      refine TrC.take rfl (step_fieldAddrP rfl rfl fd30_0 rfl rfl) ?_   -- 0
      refine TrC.take rfl (step_loadP1 rfl rfl rfl ty27 rfl rfl) ?_   -- 1
      refine TrC.take rfl (step_lenT (rt := 0) rfl rfl sl27 rfl) ?_   -- 2
      refine TrC.take rfl (step_bin rfl rfl rfl rfl rfl) ?_   -- 3
      refine TrC.spell 119 rfl (bv (b := true) (by simp [nD_len] <;> omega)) ?_
      refine TrC.take rfl (step_move rfl rfl rfl) ?_   -- 4
      refine TrC.take ⟨_, _, rfl, rfl, rfl⟩ (step_fieldAddrP rfl rfl fd30_2 rfl rfl) ?_   -- 5
      refine TrC.take ⟨_, _, rfl, rfl, rfl⟩ (step_loadP1 rfl rfl rfl ty3 rfl rfl) ?_   -- 6
      refine TrC.take ⟨_, _, rfl, rfl, rfl⟩ (step_move rfl rfl rfl) ?_   -- 7
      refine TrC.take ⟨_, _, rfl, rfl, rfl⟩ (step_addI rfl rfl rfl (by first | omega | (simp; done) | (simp; omega)) (by first | omega | (simp; done) | (simp; omega)) rfl) ?_   -- 8
      refine TrC.take ⟨_, _, rfl, rfl, rfl⟩ (step_bin rfl rfl rfl rfl rfl) ?_   -- 9
      refine TrC.spell 125 rfl (bv (b := true) (by simp [nD])) ?_
      refine TrC.take rfl (step_pick rfl rfl rfl rfl) ?_   -- 10
      refine TrC.take rfl (step_move rfl rfl rfl) ?_   -- 11
      refine TrC.take ⟨_, _, rfl, rfl, rfl⟩ (step_move rfl rfl rfl) ?_   -- 12
      refine TrC.take rfl (step_pick rfl rfl rfl rfl) ?_   -- 13
      refine TrC.take rfl (step_assign rfl rfl rfl) ?_   -- 14
      refine TrC.done ?_
      refine AT.ret ?_
      exact Ret.one rfl (ResR.tmp rfl (conv_b rfl))

end Go.Proofs.Ytnemmdbafngppaa.Net

/- NetDoubles: from the function's contract to arguments as they come. No condition. -/
set_option linter.unusedVariables false
namespace Go.Proofs.Ytnemmdbafngppaa.netDoubles
open Go.Proofs.Ytnemmdbafngppaa.Abs Go.Proofs.Ytnemmdbafngppaa.Net Go.RowKit
theorem NetDoubles_has (x0 x1 x2 : T) (f0 : Fits Try.prog 5 x0.cells) (a0 : (∃ l, x0 = .agg l) ↔ (partsOf Try.prog 5).isSome = true) (f1 : Fits Try.prog 5 x1.cells) (a1 : (∃ l, x1 = .agg l) ↔ (partsOf Try.prog 5).isSome = true) (f2 : Fits Try.prog 51 x2.cells) (a2 : (∃ l, x2 = .agg l) ↔ (partsOf Try.prog 51).isSome = true) : Has Try.prog 8 [x0, x1, x2] (.b true) := by
  obtain ⟨f, rfl, hf⟩ := intV (k := .u8) f0 a0 (by kernel_rfl)
  obtain ⟨t, rfl, ht⟩ := intV (k := .u8) f1 a1 (by kernel_rfl)
  obtain ⟨l, rfl, _, hb⟩ := fitB1 f2 a2 (e := 5) (by kernel_rfl) (by kernel_rfl) (by kernel_rfl)
  exact C8 f t hf ht l hb
end Go.Proofs.Ytnemmdbafngppaa.netDoubles

/- The statement NetDoublesSaid is proved here: the law's function returns true for all its arguments and panics for none. No condition. -/
namespace Go.Proofs.Ytnemmdbafngppaa.netDoubles
open Go.ChangeShapes Go.WideShapes Go.ChangeAt Go.RowKit
open Go.Proofs.Ytnemmdbafngppaa.Abs
set_option linter.unusedVariables false
theorem own : ownKnob Try.prog.godebug = none := by kernel_rfl
theorem laidOut : laidOutB Try.prog = true := by kernel_rfl
set_option maxRecDepth 100000 in
theorem lifted (os : Os) (started : os.Started) (H : Type) (enc : TypeId × Value → H) :
    ReturnsInHanded {} Try.checked os 8 .any (Rows.netDoublesSpec.pre6 enc Try.prog Try.f8 Rows.netDoublesRow.domain false) (Rows.netDoublesSpec.post enc Try.prog Try.f8 false true false false) := by
  refine returnsInHanded_of_change_sized (C := Try.checked) own started (by kernel_rfl) Try.func8
    (ChangeSpec.witness6 (enc := enc) (C := Try.checked) false ⟨#[], #[.int .u8 0, .int .u8 0, .slice none 0 0], []⟩ 8 (by kernel_rfl) (by kernel_rfl) (by kernel_rfl) (by kernel_rfl)) ?_
  intro W base args ds gs before hval0 hW hcnd hsz0 _
  have hval : ∀ (j : Nat) t v, Try.f8.params[j]? = some t → args[j]? = some v → Value.okWide Try.prog W .any base t v := hval0
  have hW' := hW
  obtain ⟨p, q, hA0, hV, rfl, hfz, hnd⟩ := hW
  have hA : DataW.TrodAll enc Try.prog W 0 (fun _ => true) true Try.f8.params.toList args.toList ds p := hA0
  rw [show Try.f8.params = #[5, 5, 51] from by kernel_rfl] at hA hval
  obtain ⟨v0, vs0, d0, ds0, p0, q0, hargs, rfl, rfl, h0, r0⟩ := trodAll_cons hA
  obtain ⟨v1, vs1, d1, ds1, p1, q1, rfl, rfl, rfl, h1, r1⟩ := trodAll_cons r0
  obtain ⟨v2, vs2, d2, ds2, p2, q2, rfl, rfl, rfl, h2, r2⟩ := trodAll_cons r1
  obtain ⟨rfl, rfl, rfl⟩ := trodAll_nil r2
  obtain rfl : args = #[v0, v1, v2] := by cases args; simp_all
  obtain ⟨rfl, rfl⟩ := trodVars_none hV
  have lt0 : ∀ x ∈ p0, x.block < W.heap.size := by obtain ⟨m, hm⟩ := h0; exact DataW.trod_lt m _ _ _ hm
  obtain ⟨x0, rd0, ft0, ag0⟩ := Trod_reads 8 (by kernel_rfl) (hval 0 5 v0 rfl rfl) h0
  have lt1 : ∀ x ∈ p1, x.block < W.heap.size := by obtain ⟨m, hm⟩ := h1; exact DataW.trod_lt m _ _ _ hm
  obtain ⟨x1, rd1, ft1, ag1⟩ := Trod_reads 8 (by kernel_rfl) (hval 1 5 v1 rfl rfl) h1
  have lt2 : ∀ x ∈ p2, x.block < W.heap.size := by obtain ⟨m, hm⟩ := h2; exact DataW.trod_lt m _ _ _ hm
  obtain ⟨x2, rd2, ft2, ag2⟩ := Trod_reads 8 (by kernel_rfl) (hval 2 51 v2 rfl rfl) h2
  have hh := NetDoubles_has x0 x1 x2 ft0 ag0 ft1 ag1 ft2 ag2
  refine (hh.2 W (okW W) #[v0, v1, v2] (fun _ h => h) rfl ?_).mono fun e W' hx => ?_
  · intro i h1 h2
    rcases i with _ | i; exact rd0; rcases i with _ | i; exact rd1; rcases i with _ | i; exact rd2; simp at h1 <;> omega
  · obtain ⟨v, he, hr, bel⟩ := hx
    subst he
    cases hr with
    | v _ =>
      exact ⟨_, rfl, _, _, _, [], _, [], hW', trodAll_mk1 (shut_bool (show Try.prog.underlying 4 = some .bool by kernel_rfl) _), (trodAll_cons_mk (Below.trod laidOut (by kernel_rfl) (of_decide_eq_true (by kernel_rfl)) h0 bel lt0) (trodAll_cons_mk (Below.trod laidOut (by kernel_rfl) (of_decide_eq_true (by kernel_rfl)) h1 bel lt1) (trodAll_cons_mk (Below.trod laidOut (by kernel_rfl) (of_decide_eq_true (by kernel_rfl)) h2 bel lt2) trodAll_mk0))), rfl, bel.frame _, fun h => by cases h⟩
theorem over : Rows.netDoublesRow.holds Try.pinned (OpenSpec.ofChange Rows.netDoublesSpec) :=
  OpenClaim.holds_of_wide 8 Try.f8 rfl rfl rfl rfl rfl rfl rfl ⟨rfl, rfl, rfl, rfl, rfl⟩ rfl rfl rfl rfl rfl (by kernel_rfl) Try.func8 (by kernel_rfl)
    (of_decide_eq_true (by kernel_rfl)) (by unfold Func.isWrapper; first | (rw [if_pos (by decide +kernel)]; kernel_rfl) | (rw [if_neg (by decide +kernel)]; exact ⟨rfl, rfl⟩))
    (fun os started H enc _ => lifted os started H enc)
theorem proved : Rows.NetDoublesSaid := over
#print axioms proved
end Go.Proofs.Ytnemmdbafngppaa.netDoubles
namespace Go.Proofs.Ytnemmdbafngppaa
/-- The row, under a short name, for the claim. -/
theorem netDoubles_holds : Rows.NetDoublesSaid := netDoubles.proved
end Go.Proofs.Ytnemmdbafngppaa

