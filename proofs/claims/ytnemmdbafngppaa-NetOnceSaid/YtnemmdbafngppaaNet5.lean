/- Parts of this proof, one after the other; each says what it proves. No condition. -/
import Derived.Test.YtnemmdbafngppaaMF
import Derived.Test.YtnemmdbafngppaaMG
import Derived.Test.YtnemmdbafngppaaRows
import Derived.Test.YtnemmdbafngppaaMC
import Derived.WalkKit
import Derived.ProofKit
import Derived.OpenShut
import Derived.ShutString
import Derived.ChangeOld
import Derived.Below
import Derived.Carry
import Derived.SizedLaws
/- Contracts of functions of this translation. Printed by wip/tools/gen.py out of wip/net/ann.py. No condition. -/
set_option linter.unusedVariables false
set_option linter.unusedSimpArgs false
namespace Go.Proofs.Ytnemmdbafngppaa.Net
open Go.Proofs.Ytnemmdbafngppaa.Abs
set_option maxRecDepth 100000
set_option maxHeartbeats 4000000
theorem C5 (l : List (Int × Int)) (hb : ∀ y ∈ l, (0 ≤ y.1 ∧ y.1 ≤ 255) ∧ (0 ≤ y.2 ∧ y.2 ≤ 255)) (o : List Int) (ho : ∀ y ∈ o, 0 ≤ y ∧ y ≤ 255) : Has Try.prog 5 [.slice 2 (l.map encB2), .slice 1 (o.map encB1)] (.b true) := by   -- burgage/burgagelaw32.NetOnce
  refine Has.intro 163 Try.func5 (by kernel_rfl) rfl rfl fun w ok => ?_
  refine AT.seq ?_
  refine AT.region ?_   -- region 0 law.go:111
  refine TrC.take rfl (step_assign rfl rfl rfl) ?_   -- 0
  refine TrC.done ?_
  refine AT.seq ?_
  refine AT.region ?_   -- region 1 law.go:112
  refine TrC.take rfl (step_call0 rfl rfl (C11) rfl) ?_   -- 0
  refine TrC.take rfl (step_assign rfl rfl rfl) ?_   -- 1
  refine TrC.done ?_
  refine AT.seq ?_
  refine AT.region ?_   -- region 2 law.go:113
  refine TrC.take rfl (step_buildC rfl ze30 zc30 rfl pl30 rfl rfl rfl rfl) ?_   -- 0
  refine TrC.take rfl (step_buildSliceH rfl rfl sl27 ze25 rfl rfl rfl rfl rfl rfl rfl rfl rfl rfl rfl rfl rfl) ?_   -- 1
  refine TrC.take rfl (step_allocC rfl rfl ze30 zc30 rfl rfl rfl) ?_   -- 2
  refine TrC.take rfl (step_storeP rfl rfl rfl rfl rfl (.inl rfl) ty30 rfl rfl rfl) ?_   -- 3
  refine TrC.take rfl (step_assign rfl rfl rfl) ?_   -- 4
  refine TrC.done ?_
  refine AT.seq ?_
  refine AT.seq ?_
  refine AT.region ?_   -- region 3 law.go:114
  refine TrC.take rfl (step_assign rfl rfl rfl) ?_   -- 0
  refine TrC.done ?_
  refine AT.block ?_   -- block 0
  refine AT.loopP (fun p : Nat × Net => p.1 ≤ l.length ∧ p.1 ≤ 12 ∧ VN p.2 ∧ p.2.cuts = [] ∧ p.2.fl.length ≤ p.1 ∧ p.2.next ≤ 1 + p.1) (fun (i, N) => mkS [(0, .t (.slice 2 (l.map encB2))), (1, .t (.slice 1 (o.map encB1))), (5, .t (.b true)), (6, .p 6 0), (7, .h 50), (8, .t (.i i))] [(6, .box 30 [.t (.slice 3 (N.fl.map encP)), .t (.slice 2 (N.cuts.map encC)), .t (.i N.next)]), (50, .row 25 3 (N.fl.map encP))]) (fun p => 12 - p.1) ((0, ⟨[], [], 1⟩)) (⟨by simp, by simp, VN.made0, rfl, by simp, by simp⟩) (fun a w hs => Sat.wk (sl := [(0, .t (.slice 2 (l.map encB2))), (1, .t (.slice 1 (o.map encB1))), (5, .t (.b true)), (6, .p 6 0), (7, .h 50), (8, .t (.i ((0 : Nat) : Int)))]) (ml := [(6, .box 30 [.t (.slice 3 ((⟨[], [], 1⟩ : Net).fl.map encP)), .t (.slice 2 ((⟨[], [], 1⟩ : Net).cuts.map encC)), .t (.i (⟨[], [], 1⟩ : Net).next)]), (50, .row 25 3 ((⟨[], [], 1⟩ : Net).fl.map encP))]) [(50, 18)] (.cons (.t (.refl _)) (.cons (.t (.refl _)) (.cons (.t (.refl _)) (.cons (.p (j := 6) rfl) (.cons (.h (j := 50) rfl) (.cons (.t (.refl _)) (.nil))))))) (.cons rfl (.box (.cons (.t (.refl _)) (.cons (.t (.refl _)) (.cons (.t (.refl _)) (.nil))))) (.cons rfl (.row rfl) (.nil))) rfl rfl a w hs) (fun ix hix => ?_)
  obtain ⟨i, N⟩ := ix
  obtain ⟨hi, h12, hv, hcut, hnl, hnx⟩ := hix
  simp only at hi h12 hv hcut hnl hnx
  refine AT.seq ?_
  refine AT.seq ?_
  refine AT.region ?_   -- region 4 law.go:114
  refine TrC.take rfl (step_move rfl rfl rfl) ?_   -- 0
  refine TrC.take rfl (step_move rfl rfl rfl) ?_   -- 1
  refine TrC.take rfl (step_lenT (rt := 0) rfl rfl sl50 rfl) ?_   -- 2
  refine TrC.take rfl (step_bin rfl rfl rfl rfl rfl) ?_   -- 3
  refine TrC.take rfl (step_move rfl rfl rfl) ?_   -- 4
  refine TrC.cases (d := 23) rfl (fun h23 => ?_) (fun h23 => ?_)
  · -- t23 = true
    have hlt : i < l.length := by have h := h23; simp at h; omega
    refine TrC.take ⟨_, _, rfl, rfl, rfl⟩ (step_move rfl rfl rfl) ?_   -- 5
    refine TrC.take ⟨_, _, rfl, rfl, rfl⟩ (step_bin rfl rfl rfl rfl rfl) ?_   -- 6
    refine TrC.take rfl (step_pick rfl rfl rfl rfl) ?_   -- 7
    refine TrC.done ?_
    refine AT.cond rfl (fun h26 => ?_) (fun h26 => ?_)   -- t26
    · -- true
      have hlt2 : i < 12 := by have h := h26; simp at h; omega
      refine Exists.elim (show ∃ u v, l[i] = (u, v) from ⟨_, _, rfl⟩) (fun u hx => ?_)
      refine Exists.elim hx (fun v hx => ?_)
      have hget : (l.map encB2)[i]? = some (.agg [.u8 u, .u8 v]) := by rw [List.getElem?_map, List.getElem?_eq_getElem hlt, hx]; rfl
      have hbx := hb _ (List.getElem_mem hlt)
      rw [hx] at hbx
      have hu := hbx.1
      have hv' := hbx.2
      simp only at hu hv'
      refine Exists.elim (show ∃ Z, Z = send N (u % 6) (v % 6) from ⟨_, rfl⟩) (fun Z hZ => ?_)
      have hw : VN Z.n := hZ ▸ hv.send _ _
      refine AT.skip ?_
      refine AT.seq ?_
      refine AT.block ?_   -- block 1
      refine AT.seq ?_
      refine AT.regionD mixed rfl ?_   -- region 6 law.go:115
      refine TrC.take rfl (step_move rfl rfl rfl) ?_   -- 0
      refine TrC.take rfl (step_move rfl rfl rfl) ?_   -- 1
      refine TrC.take rfl (step_indexAddrT (v := .agg [.u8 u, .u8 v]) rfl rfl rfl sl50 (by omega) (by first | exact hget | simpa using hget) rfl rfl) ?_   -- 2
      refine TrC.take rfl (step_indexAddrA rfl rfl rfl ar52 (by decide) (by decide) rfl rfl) ?_   -- 3
      refine TrC.take rfl (step_loadT1 rfl rfl ty5 rfl rfl) ?_   -- 4
      first | refine TrC.take rfl (step_remI rfl rfl rfl (by omega) (by first | omega | (simp; done) | (simp; omega)) rfl) ?_ | refine TrC.take rfl (step_bin rfl rfl rfl rfl rfl) ?_   -- 5
      refine TrC.take rfl (step_convI rfl rfl in5 in3 (by omega) (by omega) rfl) ?_   -- 6
      refine TrC.take rfl (step_move rfl rfl rfl) ?_   -- 7
      refine TrC.take rfl (step_move rfl rfl rfl) ?_   -- 8
      refine TrC.take rfl (step_indexAddrT (v := .agg [.u8 u, .u8 v]) rfl rfl rfl sl50 (by omega) (by first | exact hget | simpa using hget) rfl rfl) ?_   -- 9
      refine TrC.take rfl (step_indexAddrA rfl rfl rfl ar52 (by decide) (by decide) rfl rfl) ?_   -- 10
      refine TrC.take rfl (step_loadT1 rfl rfl ty5 rfl rfl) ?_   -- 11
      first | refine TrC.take rfl (step_remI rfl rfl rfl (by omega) (by first | omega | (simp; done) | (simp; omega)) rfl) ?_ | refine TrC.take rfl (step_bin rfl rfl rfl rfl rfl) ?_   -- 12
      refine TrC.take rfl (step_convI rfl rfl in5 in3 (by omega) (by omega) rfl) ?_   -- 13
      refine TrC.take rfl (step_assign rfl rfl rfl) ?_   -- 14
      refine TrC.take rfl (step_assign rfl rfl rfl) ?_   -- 15
      refine TrC.doneD rfl ?_
      refine AT.seq ?_
      refine AT.region ?_   -- region 7 law.go:116
      refine TrC.take rfl (step_loadPN rfl rfl rfl ty30 rfl rfl rfl) ?_   -- 0
      refine TrC.take rfl (step_move rfl rfl rfl) ?_   -- 1
      refine TrC.take rfl (step_move rfl rfl rfl) ?_   -- 2
      refine TrC.take rfl (step_call0 rfl rfl ((D13 hv (u % 6) (v % 6)).eq (es hZ.symm)) rfl) ?_   -- 3
      refine TrC.take rfl (step_allocC rfl rfl ze35 zc35 rfl rfl rfl) ?_   -- 4
      refine TrC.take rfl (step_storeP rfl rfl rfl rfl rfl (.inl rfl) ty35 rfl rfl rfl) ?_   -- 5
      refine TrC.done ?_
      refine AT.seq ?_
      refine AT.seq ?_
      refine AT.region ?_   -- region 8 law.go:117
      refine TrC.take rfl (step_move rfl rfl rfl) ?_   -- 0
      refine TrC.take rfl (step_move rfl rfl rfl) ?_   -- 1
      refine TrC.take rfl (step_bin rfl rfl rfl rfl rfl) ?_   -- 2
      refine TrC.done ?_
      refine AT.cond rfl (fun h49 => ?_) (fun h49 => ?_)   -- t49
      · -- true
        have hnp : parts (u % 6) (v % 6) = false := by have h := h49; simp at h; simp [parts, h]
        have hs : Z = ⟨N, 0, 1⟩ := hZ.trans (send_np hnp)
        refine AT.seq ?_
        refine AT.seq ?_
        refine AT.region ?_   -- region 9 law.go:118
        refine TrC.take rfl (step_fieldAddrP rfl rfl fd35_2 rfl rfl) ?_   -- 0
        refine TrC.take rfl (step_loadP1 rfl rfl rfl ty33 rfl rfl) ?_   -- 1
        refine TrC.take rfl (step_bin rfl rfl rfl rfl rfl) ?_   -- 2
        refine TrC.spell 52 rfl (bv (b := false) (by simp [hs])) ?_
        refine TrC.take rfl (step_move rfl rfl rfl) ?_   -- 3
        refine TrC.take ⟨_, _, rfl, rfl, rfl⟩ (step_fieldAddrP rfl rfl fd35_0 rfl rfl) ?_   -- 4
        refine TrC.take ⟨_, _, rfl, rfl, rfl⟩ (step_loadPN rfl rfl rfl ty30 rfl rfl rfl) ?_   -- 5
        refine TrC.take ⟨_, _, rfl, rfl, rfl⟩ (step_loadPN rfl rfl rfl ty30 rfl rfl rfl) ?_   -- 6
        refine TrC.take ⟨_, _, rfl, rfl, rfl⟩ (step_call0 rfl rfl (D15 hw N) rfl) ?_   -- 7
        refine TrC.spell 57 rfl (bv (b := true) (by simp [hs])) ?_
        refine TrC.take ⟨_, _, rfl, rfl, rfl⟩ (step_not rfl rfl rfl) ?_   -- 8
        refine TrC.take rfl (step_pick rfl rfl rfl rfl) ?_   -- 9
        refine TrC.done ?_
        refine AT.condF rfl ?_   -- t59
        refine AT.skip ?_
        refine AT.exit (Or.inl ⟨rfl, ?_⟩)   -- exit 1
        refine AT.region ?_   -- region 5 law.go:114
        refine TrC.take rfl (step_move rfl rfl rfl) ?_   -- 0
        refine TrC.take rfl (step_addI rfl rfl rfl (by first | omega | (simp; done) | (simp; omega)) (by first | omega | (simp; done) | (simp; omega)) rfl) ?_   -- 1
        refine TrC.take rfl (step_assign rfl rfl rfl) ?_   -- 2
        refine TrC.done ?_
        exact ⟨(i + 1, N), ⟨by show i + 1 ≤ l.length; omega, by show i + 1 ≤ 12; omega, hv, hcut, by show N.fl.length ≤ i + 1; omega, by show N.next ≤ 1 + ((i + 1 : Nat) : Int); omega⟩, by show 12 - (i + 1) < 12 - i; omega, Sat.wk [] (.cons (.t (.refl _)) (.cons (.t (.refl _)) (.cons (.t (.refl _)) (.cons (.p rfl) (.cons (.h (j := 50) rfl) (.cons (.t (conv_i (by simp))) (.nil))))))) (.cons rfl (.box (.cons (.t (.refl _)) (.cons (.t (.refl _)) (.cons (.t (.refl _)) (.nil))))) (.cons rfl (.row rfl) (.nil))) rfl rfl⟩
      · -- false
        have hp : parts (u % 6) (v % 6) = true := by have h := h49; simp at h; simp [parts, part, h]; omega
        have hs : Z = ⟨⟨N.fl ++ [⟨N.next, u % 6, v % 6⟩], N.cuts, N.next + 1⟩, N.next, 0⟩ := hZ.trans (send_small hp (by omega) (by omega))
        refine AT.skip ?_
        refine AT.seq ?_
        refine AT.seq ?_
        refine AT.region ?_   -- region 11 law.go:123
        refine TrC.take rfl (step_fieldAddrP rfl rfl fd35_2 rfl rfl) ?_   -- 0
        refine TrC.take rfl (step_loadP1 rfl rfl rfl ty33 rfl rfl) ?_   -- 1
        refine TrC.take rfl (step_bin rfl rfl rfl rfl rfl) ?_   -- 2
        refine TrC.spell 62 rfl (bv (b := false) (by simp [hs])) ?_
        refine TrC.take rfl (step_move rfl rfl rfl) ?_   -- 3
        refine TrC.take ⟨_, _, rfl, rfl, rfl⟩ (step_fieldAddrP rfl rfl fd35_0 rfl rfl) ?_   -- 4
        refine TrC.take ⟨_, _, rfl, rfl, rfl⟩ (step_loadPN rfl rfl rfl ty30 rfl rfl rfl) ?_   -- 5
        refine TrC.take ⟨_, _, rfl, rfl, rfl⟩ (step_call0 rfl rfl (D27 hw) rfl) ?_   -- 6
        refine TrC.spell 66 rfl (bv (b := true) (rfl)) ?_
        refine TrC.take ⟨_, _, rfl, rfl, rfl⟩ (step_not rfl rfl rfl) ?_   -- 7
        refine TrC.take rfl (step_pick rfl rfl rfl rfl) ?_   -- 8
        refine TrC.done ?_
        refine AT.condF rfl ?_   -- t68
        refine AT.skip ?_
        refine AT.regionD mixed rfl ?_   -- region 13 law.go:126
        refine TrC.take rfl (step_fieldAddrP rfl rfl fd35_0 rfl rfl) ?_   -- 0
        refine TrC.take rfl (step_loadPN rfl rfl rfl ty30 rfl rfl rfl) ?_   -- 1
        refine TrC.take rfl (step_move rfl rfl rfl) ?_   -- 2
        refine TrC.take rfl (step_fieldAddrP rfl rfl fd35_1 rfl rfl) ?_   -- 3
        refine TrC.take rfl (step_loadP1 rfl rfl rfl ty3 rfl rfl) ?_   -- 4
        refine TrC.take rfl (step_move rfl rfl rfl) ?_   -- 5
        refine TrC.take rfl (step_move rfl rfl rfl) ?_   -- 6
        refine TrC.take rfl (step_buildS rfl ze25 rfl pl25 rfl rfl rfl rfl) ?_   -- 7
        refine TrC.take rfl (step_buildSliceT rfl sl27 ze25 rfl rfl rfl rfl rfl rfl rfl rfl rfl rfl rfl rfl) ?_   -- 8
        refine TrC.take rfl (step_append rfl rfl rfl rfl rfl (.refl _) sl27 ze25 rfl rfl rfl (by first | (simp; done) | (simp; omega) | omega) rfl rfl) ?_   -- 9
        refine TrC.take rfl (step_storeP rfl rfl rfl rfl rfl (.inl rfl) ty30 rfl rfl rfl) ?_   -- 10
        refine TrC.take rfl (step_assign rfl rfl rfl) ?_   -- 11
        refine TrC.doneD rfl ?_
        refine AT.region ?_   -- region 5 law.go:114
        refine TrC.take rfl (step_move rfl rfl rfl) ?_   -- 0
        refine TrC.take rfl (step_addI rfl rfl rfl (by first | omega | (simp; done) | (simp; omega)) (by first | omega | (simp; done) | (simp; omega)) rfl) ?_   -- 1
        refine TrC.take rfl (step_assign rfl rfl rfl) ?_   -- 2
        refine TrC.done ?_
        exact ⟨(i + 1, Z.n), ⟨by show i + 1 ≤ l.length; omega, by show i + 1 ≤ 12; omega, hw, by rw [hs]; exact hcut, by show Z.n.fl.length ≤ i + 1; rw [hs]; simp; omega, by show Z.n.next ≤ 1 + ((i + 1 : Nat) : Int); rw [hs]; show N.next + 1 ≤ _; omega⟩, by show 12 - (i + 1) < 12 - i; omega, Sat.wk (sl := [(0, .t (.slice 2 (l.map encB2))), (1, .t (.slice 1 (o.map encB1))), (5, .t (.b true)), (6, .p 6 0), (7, .h 50), (8, .t (.i ((i + 1 : Nat) : Int)))]) (ml := [(6, .box 30 [.t (.slice 3 (Z.n.fl.map encP)), .t (.slice 2 (Z.n.cuts.map encC)), .t (.i Z.n.next)]), (50, .row 25 3 (Z.n.fl.map encP))]) [(50, 78)] (.cons (.t (.refl _)) (.cons (.t (.refl _)) (.cons (.t (.refl _)) (.cons (.p (j := 6) rfl) (.cons (.h (j := 50) rfl) (.cons (.t (conv_i (by simp))) (.nil))))))) (.cons rfl (.box (.cons (.t (.refl _)) (.cons (.t (.refl _)) (.cons (.t (.refl _)) (.nil))))) (.cons rfl (.row (by rw [hs]; simp [encP])) (.nil))) rfl rfl⟩
    · -- false
      refine AT.exit (Or.inl ⟨rfl, ?_⟩)   -- exit 0
      refine AT.seq ?_
      refine AT.seq ?_
      refine AT.region ?_   -- region 14 law.go:128
      refine TrC.take rfl (step_assign rfl rfl rfl) ?_   -- 0
      refine TrC.done ?_
      refine AT.block ?_   -- block 2
      refine AT.loopP (fun p : Nat × Net => VN p.2 ∧ p.2.cuts = [] ∧ p.1 + p.2.fl.length ≤ 12) (fun (j, M) => mkS [(1, .t (.slice 1 (o.map encB1))), (5, .t (.b true)), (6, .p 6 0), (7, .t (.slice 3 (M.fl.map encP))), (12, .t (.i j))] [(6, .box 30 [.t (.slice 3 (M.fl.map encP)), .t (.slice 2 (M.cuts.map encC)), .t (.i M.next)])]) (fun p => p.2.fl.length) ((0, N)) (⟨hv, hcut, by show 0 + N.fl.length ≤ 12; omega⟩) (fun a w hs => Sat.wk [] (.cons (.t (.refl _)) (.cons (.t (.refl _)) (.cons (.p rfl) (.cons (.fr rfl rfl) (.cons (.t (.refl _)) (.nil)))))) (.cons rfl (.box (.cons (.t (.refl _)) (.cons (.t (.refl _)) (.cons (.t (.refl _)) (.nil))))) (.nil)) rfl rfl a w hs) (fun iy hiy => ?_)
      obtain ⟨j, M⟩ := iy
      obtain ⟨hv, hcut, hjm⟩ := hiy
      simp only at hv hcut hjm
      have hvl := hv.nl
      refine AT.seq ?_
      refine AT.seq ?_
      refine AT.region ?_   -- region 15 law.go:128
      refine TrC.take rfl (step_move rfl rfl rfl) ?_   -- 0
      refine TrC.take rfl (step_lenT (rt := 0) rfl rfl sl27 rfl) ?_   -- 1
      refine TrC.take rfl (step_bin rfl rfl rfl rfl rfl) ?_   -- 2
      refine TrC.done ?_
      refine AT.cond rfl (fun h81 => ?_) (fun h81 => ?_)   -- t81
      · -- true
        have hpos : 0 < M.fl.length := by simpa using h81
        refine AT.skip ?_
        refine AT.seq ?_
        refine AT.block ?_   -- block 3
        refine AT.seq ?_
        refine AT.region ?_   -- region 17 law.go:129
        refine TrC.take rfl (step_assign rfl rfl rfl) ?_   -- 0
        refine TrC.done ?_
        refine AT.seq ?_
        refine AT.seq ?_
        refine AT.region ?_   -- region 18 law.go:130
        refine TrC.take rfl (step_move rfl rfl rfl) ?_   -- 0
        refine TrC.take rfl (step_move rfl rfl rfl) ?_   -- 1
        refine TrC.take rfl (step_lenT (rt := 0) rfl rfl sl51 rfl) ?_   -- 2
        refine TrC.take rfl (step_bin rfl rfl rfl rfl rfl) ?_   -- 3
        refine TrC.done ?_
        refine AT.cond rfl (fun h87 => ?_) (fun h87 => ?_)   -- t87
        · -- true
          have hjo : j < o.length := by have h := h87; simp at h; omega
          have hgo : (o.map encB1)[j]? = some (.v (.int .u8 o[j])) := by rw [List.getElem?_map, List.getElem?_eq_getElem hjo]; rfl
          have hob := ho _ (List.getElem_mem hjo)
          refine AT.region ?_   -- region 19 law.go:131
          refine TrC.take rfl (step_move rfl rfl rfl) ?_   -- 0
          refine TrC.take rfl (step_move rfl rfl rfl) ?_   -- 1
          refine TrC.take rfl (step_indexAddrT (v := .v (.int .u8 o[j])) rfl rfl rfl sl51 (by omega) (by first | exact hgo | simpa using hgo) rfl rfl) ?_   -- 2
          refine TrC.take rfl (step_loadT1 rfl rfl ty5 rfl rfl) ?_   -- 3
          refine TrC.take rfl (step_convI rfl rfl in5 in3 (by omega) (by omega) rfl) ?_   -- 4
          refine TrC.take rfl (step_move rfl rfl rfl) ?_   -- 5
          refine TrC.take rfl (step_lenT (rt := 0) rfl rfl sl27 rfl) ?_   -- 6
          first | refine TrC.take rfl (step_remI rfl rfl rfl (by omega) (by first | omega | (simp; done) | (simp; omega)) rfl) ?_ | refine TrC.take rfl (step_bin rfl rfl rfl rfl rfl) ?_   -- 7
          refine TrC.take rfl (step_assign rfl rfl rfl) ?_   -- 8
          refine TrC.done ?_
          refine Exists.elim (modk (q := o[j]) hob.1 hpos) (fun k hk => ?_)
          refine AT.spell 13 rfl (iv (b := (k : Int)) (by simpa using hk.2)) ?_
          refine AT.seq ?_
          have hkl := hk.1
          have hgk : (M.fl.map encP)[k]? = some (.agg [.i M.fl[k].id, .i M.fl[k].fr, .i M.fl[k].to]) := by rw [List.getElem?_map, List.getElem?_eq_getElem hkl]; rfl
          have hw : VN (without M k) := hv.without hkl
          have hwl := without_len hkl
          have hg := find_gone hv.sp hkl
          refine AT.regionD mixed rfl ?_   -- region 20 law.go:133
          refine TrC.take rfl (step_loadPN rfl rfl rfl ty30 rfl rfl rfl) ?_   -- 0
          refine TrC.take rfl (step_move rfl rfl rfl) ?_   -- 1
          refine TrC.take rfl (step_move rfl rfl rfl) ?_   -- 2
          refine TrC.take rfl (step_indexAddrT (v := .agg [.i M.fl[k].id, .i M.fl[k].fr, .i M.fl[k].to]) rfl rfl rfl sl27 (by omega) (by first | exact hgk | simpa using hgk) rfl rfl) ?_   -- 3
          refine TrC.take rfl (step_fieldAddrT rfl rfl fd25_0 rfl rfl rfl) ?_   -- 4
          refine TrC.take rfl (step_loadT1 rfl rfl ty3 rfl rfl) ?_   -- 5
          refine TrC.take rfl (step_call0 rfl rfl ((D17 hv M.fl[k].id).eq (et (take_at hv.sp hkl (reach_nil hcut _ _)))) rfl) ?_   -- 6
          refine TrC.take rfl (step_allocC rfl rfl ze40 zc40 rfl rfl rfl) ?_   -- 7
          refine TrC.take rfl (step_storeP rfl rfl rfl rfl rfl (.inl rfl) ty40 rfl rfl rfl) ?_   -- 8
          refine TrC.doneD rfl ?_
          refine AT.seq ?_
          refine AT.seq ?_
          refine AT.regionD mixed rfl ?_   -- region 21 law.go:134
          refine TrC.take rfl (step_fieldAddrP rfl rfl fd40_2 rfl rfl) ?_   -- 0
          refine TrC.take rfl (step_loadP1 rfl rfl rfl ty33 rfl rfl) ?_   -- 1
          refine TrC.take rfl (step_bin rfl rfl rfl rfl rfl) ?_   -- 2
          refine TrC.spell 105 rfl (bv (b := false) (by simp)) ?_
          refine TrC.take rfl (step_move rfl rfl rfl) ?_   -- 3
          refine TrC.take ⟨_, _, rfl, rfl, rfl⟩ (step_fieldAddrP rfl rfl fd40_1 rfl rfl) ?_   -- 4
          refine TrC.take ⟨_, _, rfl, rfl, rfl⟩ (step_loadPN rfl rfl rfl ty25 rfl rfl rfl) ?_   -- 5
          refine TrC.take ⟨_, _, rfl, rfl, rfl⟩ (step_move rfl rfl rfl) ?_   -- 6
          refine TrC.take ⟨_, _, rfl, rfl, rfl⟩ (step_move rfl rfl rfl) ?_   -- 7
          refine TrC.take ⟨_, _, rfl, rfl, rfl⟩ (step_indexAddrT (v := .agg [.i M.fl[k].id, .i M.fl[k].fr, .i M.fl[k].to]) rfl rfl rfl sl27 (by omega) (by first | exact hgk | simpa using hgk) rfl rfl) ?_   -- 8
          refine TrC.take ⟨_, _, rfl, rfl, rfl⟩ (step_loadTN rfl rfl ty25 rfl rfl) ?_   -- 9
          refine TrC.take ⟨_, _, rfl, rfl, rfl⟩ (step_nea rfl rfl rfl rfl rfl ty25 eg25 (eq25 _ _ _ _ _ _) rfl) ?_   -- 10
          refine TrC.spell 113 rfl (bv (b := false) (by simp)) ?_
          refine TrC.take rfl (step_pick rfl rfl rfl rfl) ?_   -- 11
          refine TrC.take rfl (step_move rfl rfl rfl) ?_   -- 12
          refine TrC.take ⟨_, _, rfl, rfl, rfl⟩ (step_fieldAddrP rfl rfl fd40_0 rfl rfl) ?_   -- 13
          refine TrC.take ⟨_, _, rfl, rfl, rfl⟩ (step_loadPN rfl rfl rfl ty30 rfl rfl rfl) ?_   -- 14
          refine TrC.take ⟨_, _, rfl, rfl, rfl⟩ (step_call0 rfl rfl (D27 hw) rfl) ?_   -- 15
          refine TrC.spell 118 rfl (bv (b := true) (rfl)) ?_
          refine TrC.take ⟨_, _, rfl, rfl, rfl⟩ (step_not rfl rfl rfl) ?_   -- 16
          refine TrC.take rfl (step_pick rfl rfl rfl rfl) ?_   -- 17
          refine TrC.take rfl (step_move rfl rfl rfl) ?_   -- 18
          refine TrC.take ⟨_, _, rfl, rfl, rfl⟩ (step_fieldAddrP rfl rfl fd40_0 rfl rfl) ?_   -- 19
          refine TrC.take ⟨_, _, rfl, rfl, rfl⟩ (step_loadPN rfl rfl rfl ty30 rfl rfl rfl) ?_   -- 20
          refine TrC.take ⟨_, _, rfl, rfl, rfl⟩ (step_move rfl rfl rfl) ?_   -- 21
          refine TrC.take ⟨_, _, rfl, rfl, rfl⟩ (step_move rfl rfl rfl) ?_   -- 22
          refine TrC.take ⟨_, _, rfl, rfl, rfl⟩ (step_indexAddrT (v := .agg [.i M.fl[k].id, .i M.fl[k].fr, .i M.fl[k].to]) rfl rfl rfl sl27 (by omega) (by first | exact hgk | simpa using hgk) rfl rfl) ?_   -- 23
          refine TrC.take ⟨_, _, rfl, rfl, rfl⟩ (step_fieldAddrT rfl rfl fd25_0 rfl rfl rfl) ?_   -- 24
          refine TrC.take ⟨_, _, rfl, rfl, rfl⟩ (step_loadT1 rfl rfl ty3 rfl rfl) ?_   -- 25
          refine TrC.take ⟨_, _, rfl, rfl, rfl⟩ (step_call0 rfl rfl ((D17 hw M.fl[k].id).eq (et (take_none hg))) rfl) ?_   -- 26
          refine TrC.take ⟨_, _, rfl, rfl, rfl⟩ (step_field1 rfl rfl fd40_2 ty33 rfl rfl) ?_   -- 27
          refine TrC.take ⟨_, _, rfl, rfl, rfl⟩ (step_bin rfl rfl rfl rfl rfl) ?_   -- 28
          refine TrC.spell 131 rfl (bv (b := false) (by simp)) ?_
          refine TrC.take rfl (step_pick rfl rfl rfl rfl) ?_   -- 29
          refine TrC.take rfl (step_move rfl rfl rfl) ?_   -- 30
          refine TrC.take ⟨_, _, rfl, rfl, rfl⟩ (step_fieldAddrP rfl rfl fd40_0 rfl rfl) ?_   -- 31
          refine TrC.take ⟨_, _, rfl, rfl, rfl⟩ (step_fieldAddrP rfl rfl fd30_0 rfl rfl) ?_   -- 32
          refine TrC.take ⟨_, _, rfl, rfl, rfl⟩ (step_loadP1 rfl rfl rfl ty27 rfl rfl) ?_   -- 33
          refine TrC.take ⟨_, _, rfl, rfl, rfl⟩ (step_lenT (rt := 0) rfl rfl sl27 rfl) ?_   -- 34
          refine TrC.take ⟨_, _, rfl, rfl, rfl⟩ (step_move rfl rfl rfl) ?_   -- 35
          refine TrC.take ⟨_, _, rfl, rfl, rfl⟩ (step_lenT (rt := 0) rfl rfl sl27 rfl) ?_   -- 36
          refine TrC.take ⟨_, _, rfl, rfl, rfl⟩ (step_subI rfl rfl rfl (by first | omega | (simp; done) | (simp; omega)) (by first | omega | (simp; done) | (simp; omega)) rfl) ?_   -- 37
          refine TrC.take ⟨_, _, rfl, rfl, rfl⟩ (step_bin rfl rfl rfl rfl rfl) ?_   -- 38
          refine TrC.spell 141 rfl (bv (b := false) (by simp [hwl]; omega)) ?_
          refine TrC.take rfl (step_pick rfl rfl rfl rfl) ?_   -- 39
          refine TrC.doneD rfl ?_
          refine AT.condF rfl ?_   -- t142
          refine AT.skip ?_
          refine AT.seq ?_
          refine AT.region ?_   -- region 23 law.go:137
          refine TrC.take rfl (step_buildSliceH rfl rfl sl27 ze25 rfl rfl rfl rfl rfl rfl rfl rfl rfl rfl rfl rfl rfl) ?_   -- 0
          refine TrC.take rfl (step_move rfl rfl rfl) ?_   -- 1
          refine TrC.take rfl (step_move rfl rfl rfl) ?_   -- 2
          refine TrC.take rfl (step_sliceT rfl rfl rfl rfl sl27 (by first | (simp; done) | (simp; omega) | omega) (by first | (simp; done) | (simp; omega) | omega) (by first | (simp; done) | (simp; omega) | omega) rfl) ?_   -- 3
          refine TrC.take rfl (step_append rfl rfl rfl rfl rfl (.refl _) sl27 ze25 rfl rfl rfl (by first | (simp; done) | (simp; omega) | omega) rfl rfl) ?_   -- 4
          refine TrC.take rfl (step_assign rfl rfl rfl) ?_   -- 5
          refine TrC.done ?_
          refine AT.regionD mixed rfl ?_   -- region 24 law.go:138
          refine TrC.take rfl (step_fieldAddrP rfl rfl fd40_0 rfl rfl) ?_   -- 0
          refine TrC.take rfl (step_loadPN rfl rfl rfl ty30 rfl rfl rfl) ?_   -- 1
          refine TrC.take rfl (step_move rfl rfl rfl) ?_   -- 2
          refine TrC.take rfl (step_move rfl rfl rfl) ?_   -- 3
          refine TrC.take rfl (step_move rfl rfl rfl) ?_   -- 4
          refine TrC.take rfl (step_addI rfl rfl rfl (by first | omega | (simp; done) | (simp; omega)) (by first | omega | (simp; done) | (simp; omega)) rfl) ?_   -- 5
          refine TrC.take rfl (step_sliceT rfl rfl rfl rfl sl27 (by first | (simp; done) | (simp; omega) | omega) (by first | (simp; done) | (simp; omega) | omega) (by first | (simp; done) | (simp; omega) | omega) rfl) ?_   -- 6
          refine TrC.take rfl (Step.toT (step_append rfl rfl rfl rfl rfl (.refl _) sl27 ze25 rfl rfl rfl (by first | (simp; done) | (simp; omega) | omega) rfl rfl) rfl) ?_   -- 7
          refine TrC.take rfl (step_storeP rfl rfl rfl rfl rfl (.inl rfl) ty30 rfl rfl rfl) ?_   -- 8
          refine TrC.take rfl (step_assign rfl rfl rfl) ?_   -- 9
          refine TrC.doneD rfl ?_
          refine AT.region ?_   -- region 16 law.go:128
          refine TrC.take rfl (step_move rfl rfl rfl) ?_   -- 0
          refine TrC.take rfl (step_addI rfl rfl rfl (by first | omega | (simp; done) | (simp; omega)) (by first | omega | (simp; done) | (simp; omega)) rfl) ?_   -- 1
          refine TrC.take rfl (step_assign rfl rfl rfl) ?_   -- 2
          refine TrC.done ?_
          exact ⟨(j + 1, without M k), ⟨hw, hcut, by show j + 1 + (without M k).fl.length ≤ 12; omega⟩, by show (without M k).fl.length < M.fl.length; omega, Sat.wk [] (.cons (.t (.refl _)) (.cons (.t (.refl _)) (.cons (.p rfl) (.cons (.t (conv_eq (by simp [without, List.map_take, List.map_drop, List.take_of_length_le]))) (.cons (.t (conv_i (by simp))) (.nil)))))) (.cons rfl (.box (.cons (.t (.refl _)) (.cons (.t (.refl _)) (.cons (.t (.refl _)) (.nil))))) (.nil)) rfl rfl⟩
        · -- false
          refine Exists.elim (show ∃ k : Nat, k < M.fl.length ∧ (0 : Int) = k from ⟨0, hpos, rfl⟩) (fun k hk => ?_)
          refine AT.spell 13 rfl (iv (b := (k : Int)) hk.2) ?_
          refine AT.skip ?_
          refine AT.seq ?_
          have hkl := hk.1
          have hgk : (M.fl.map encP)[k]? = some (.agg [.i M.fl[k].id, .i M.fl[k].fr, .i M.fl[k].to]) := by rw [List.getElem?_map, List.getElem?_eq_getElem hkl]; rfl
          have hw : VN (without M k) := hv.without hkl
          have hwl := without_len hkl
          have hg := find_gone hv.sp hkl
          refine AT.regionD mixed rfl ?_   -- region 20 law.go:133
          refine TrC.take rfl (step_loadPN rfl rfl rfl ty30 rfl rfl rfl) ?_   -- 0
          refine TrC.take rfl (step_move rfl rfl rfl) ?_   -- 1
          refine TrC.take rfl (step_move rfl rfl rfl) ?_   -- 2
          refine TrC.take rfl (step_indexAddrT (v := .agg [.i M.fl[k].id, .i M.fl[k].fr, .i M.fl[k].to]) rfl rfl rfl sl27 (by omega) (by first | exact hgk | simpa using hgk) rfl rfl) ?_   -- 3
          refine TrC.take rfl (step_fieldAddrT rfl rfl fd25_0 rfl rfl rfl) ?_   -- 4
          refine TrC.take rfl (step_loadT1 rfl rfl ty3 rfl rfl) ?_   -- 5
          refine TrC.take rfl (step_call0 rfl rfl ((D17 hv M.fl[k].id).eq (et (take_at hv.sp hkl (reach_nil hcut _ _)))) rfl) ?_   -- 6
          refine TrC.take rfl (step_allocC rfl rfl ze40 zc40 rfl rfl rfl) ?_   -- 7
          refine TrC.take rfl (step_storeP rfl rfl rfl rfl rfl (.inl rfl) ty40 rfl rfl rfl) ?_   -- 8
          refine TrC.doneD rfl ?_
          refine AT.seq ?_
          refine AT.seq ?_
          refine AT.regionD mixed rfl ?_   -- region 21 law.go:134
          refine TrC.take rfl (step_fieldAddrP rfl rfl fd40_2 rfl rfl) ?_   -- 0
          refine TrC.take rfl (step_loadP1 rfl rfl rfl ty33 rfl rfl) ?_   -- 1
          refine TrC.take rfl (step_bin rfl rfl rfl rfl rfl) ?_   -- 2
          refine TrC.spell 105 rfl (bv (b := false) (by simp)) ?_
          refine TrC.take rfl (step_move rfl rfl rfl) ?_   -- 3
          refine TrC.take ⟨_, _, rfl, rfl, rfl⟩ (step_fieldAddrP rfl rfl fd40_1 rfl rfl) ?_   -- 4
          refine TrC.take ⟨_, _, rfl, rfl, rfl⟩ (step_loadPN rfl rfl rfl ty25 rfl rfl rfl) ?_   -- 5
          refine TrC.take ⟨_, _, rfl, rfl, rfl⟩ (step_move rfl rfl rfl) ?_   -- 6
          refine TrC.take ⟨_, _, rfl, rfl, rfl⟩ (step_move rfl rfl rfl) ?_   -- 7
          refine TrC.take ⟨_, _, rfl, rfl, rfl⟩ (step_indexAddrT (v := .agg [.i M.fl[k].id, .i M.fl[k].fr, .i M.fl[k].to]) rfl rfl rfl sl27 (by omega) (by first | exact hgk | simpa using hgk) rfl rfl) ?_   -- 8
          refine TrC.take ⟨_, _, rfl, rfl, rfl⟩ (step_loadTN rfl rfl ty25 rfl rfl) ?_   -- 9
          refine TrC.take ⟨_, _, rfl, rfl, rfl⟩ (step_nea rfl rfl rfl rfl rfl ty25 eg25 (eq25 _ _ _ _ _ _) rfl) ?_   -- 10
          refine TrC.spell 113 rfl (bv (b := false) (by simp)) ?_
          refine TrC.take rfl (step_pick rfl rfl rfl rfl) ?_   -- 11
          refine TrC.take rfl (step_move rfl rfl rfl) ?_   -- 12
          refine TrC.take ⟨_, _, rfl, rfl, rfl⟩ (step_fieldAddrP rfl rfl fd40_0 rfl rfl) ?_   -- 13
          refine TrC.take ⟨_, _, rfl, rfl, rfl⟩ (step_loadPN rfl rfl rfl ty30 rfl rfl rfl) ?_   -- 14
          refine TrC.take ⟨_, _, rfl, rfl, rfl⟩ (step_call0 rfl rfl (D27 hw) rfl) ?_   -- 15
          refine TrC.spell 118 rfl (bv (b := true) (rfl)) ?_
          refine TrC.take ⟨_, _, rfl, rfl, rfl⟩ (step_not rfl rfl rfl) ?_   -- 16
          refine TrC.take rfl (step_pick rfl rfl rfl rfl) ?_   -- 17
          refine TrC.take rfl (step_move rfl rfl rfl) ?_   -- 18
          refine TrC.take ⟨_, _, rfl, rfl, rfl⟩ (step_fieldAddrP rfl rfl fd40_0 rfl rfl) ?_   -- 19
          refine TrC.take ⟨_, _, rfl, rfl, rfl⟩ (step_loadPN rfl rfl rfl ty30 rfl rfl rfl) ?_   -- 20
          refine TrC.take ⟨_, _, rfl, rfl, rfl⟩ (step_move rfl rfl rfl) ?_   -- 21
          refine TrC.take ⟨_, _, rfl, rfl, rfl⟩ (step_move rfl rfl rfl) ?_   -- 22
          refine TrC.take ⟨_, _, rfl, rfl, rfl⟩ (step_indexAddrT (v := .agg [.i M.fl[k].id, .i M.fl[k].fr, .i M.fl[k].to]) rfl rfl rfl sl27 (by omega) (by first | exact hgk | simpa using hgk) rfl rfl) ?_   -- 23
          refine TrC.take ⟨_, _, rfl, rfl, rfl⟩ (step_fieldAddrT rfl rfl fd25_0 rfl rfl rfl) ?_   -- 24
          refine TrC.take ⟨_, _, rfl, rfl, rfl⟩ (step_loadT1 rfl rfl ty3 rfl rfl) ?_   -- 25
          refine TrC.take ⟨_, _, rfl, rfl, rfl⟩ (step_call0 rfl rfl ((D17 hw M.fl[k].id).eq (et (take_none hg))) rfl) ?_   -- 26
          refine TrC.take ⟨_, _, rfl, rfl, rfl⟩ (step_field1 rfl rfl fd40_2 ty33 rfl rfl) ?_   -- 27
          refine TrC.take ⟨_, _, rfl, rfl, rfl⟩ (step_bin rfl rfl rfl rfl rfl) ?_   -- 28
          refine TrC.spell 131 rfl (bv (b := false) (by simp)) ?_
          refine TrC.take rfl (step_pick rfl rfl rfl rfl) ?_   -- 29
          refine TrC.take rfl (step_move rfl rfl rfl) ?_   -- 30
          refine TrC.take ⟨_, _, rfl, rfl, rfl⟩ (step_fieldAddrP rfl rfl fd40_0 rfl rfl) ?_   -- 31
          refine TrC.take ⟨_, _, rfl, rfl, rfl⟩ (step_fieldAddrP rfl rfl fd30_0 rfl rfl) ?_   -- 32
          refine TrC.take ⟨_, _, rfl, rfl, rfl⟩ (step_loadP1 rfl rfl rfl ty27 rfl rfl) ?_   -- 33
          refine TrC.take ⟨_, _, rfl, rfl, rfl⟩ (step_lenT (rt := 0) rfl rfl sl27 rfl) ?_   -- 34
          refine TrC.take ⟨_, _, rfl, rfl, rfl⟩ (step_move rfl rfl rfl) ?_   -- 35
          refine TrC.take ⟨_, _, rfl, rfl, rfl⟩ (step_lenT (rt := 0) rfl rfl sl27 rfl) ?_   -- 36
          refine TrC.take ⟨_, _, rfl, rfl, rfl⟩ (step_subI rfl rfl rfl (by first | omega | (simp; done) | (simp; omega)) (by first | omega | (simp; done) | (simp; omega)) rfl) ?_   -- 37
          refine TrC.take ⟨_, _, rfl, rfl, rfl⟩ (step_bin rfl rfl rfl rfl rfl) ?_   -- 38
          refine TrC.spell 141 rfl (bv (b := false) (by simp [hwl]; omega)) ?_
          refine TrC.take rfl (step_pick rfl rfl rfl rfl) ?_   -- 39
          refine TrC.doneD rfl ?_
          refine AT.condF rfl ?_   -- t142
          refine AT.skip ?_
          refine AT.seq ?_
          refine AT.region ?_   -- region 23 law.go:137
          refine TrC.take rfl (step_buildSliceH rfl rfl sl27 ze25 rfl rfl rfl rfl rfl rfl rfl rfl rfl rfl rfl rfl rfl) ?_   -- 0
          refine TrC.take rfl (step_move rfl rfl rfl) ?_   -- 1
          refine TrC.take rfl (step_move rfl rfl rfl) ?_   -- 2
          refine TrC.take rfl (step_sliceT rfl rfl rfl rfl sl27 (by first | (simp; done) | (simp; omega) | omega) (by first | (simp; done) | (simp; omega) | omega) (by first | (simp; done) | (simp; omega) | omega) rfl) ?_   -- 3
          refine TrC.take rfl (step_append rfl rfl rfl rfl rfl (.refl _) sl27 ze25 rfl rfl rfl (by first | (simp; done) | (simp; omega) | omega) rfl rfl) ?_   -- 4
          refine TrC.take rfl (step_assign rfl rfl rfl) ?_   -- 5
          refine TrC.done ?_
          refine AT.regionD mixed rfl ?_   -- region 24 law.go:138
          refine TrC.take rfl (step_fieldAddrP rfl rfl fd40_0 rfl rfl) ?_   -- 0
          refine TrC.take rfl (step_loadPN rfl rfl rfl ty30 rfl rfl rfl) ?_   -- 1
          refine TrC.take rfl (step_move rfl rfl rfl) ?_   -- 2
          refine TrC.take rfl (step_move rfl rfl rfl) ?_   -- 3
          refine TrC.take rfl (step_move rfl rfl rfl) ?_   -- 4
          refine TrC.take rfl (step_addI rfl rfl rfl (by first | omega | (simp; done) | (simp; omega)) (by first | omega | (simp; done) | (simp; omega)) rfl) ?_   -- 5
          refine TrC.take rfl (step_sliceT rfl rfl rfl rfl sl27 (by first | (simp; done) | (simp; omega) | omega) (by first | (simp; done) | (simp; omega) | omega) (by first | (simp; done) | (simp; omega) | omega) rfl) ?_   -- 6
          refine TrC.take rfl (Step.toT (step_append rfl rfl rfl rfl rfl (.refl _) sl27 ze25 rfl rfl rfl (by first | (simp; done) | (simp; omega) | omega) rfl rfl) rfl) ?_   -- 7
          refine TrC.take rfl (step_storeP rfl rfl rfl rfl rfl (.inl rfl) ty30 rfl rfl rfl) ?_   -- 8
          refine TrC.take rfl (step_assign rfl rfl rfl) ?_   -- 9
          refine TrC.doneD rfl ?_
          refine AT.region ?_   -- region 16 law.go:128
          refine TrC.take rfl (step_move rfl rfl rfl) ?_   -- 0
          refine TrC.take rfl (step_addI rfl rfl rfl (by first | omega | (simp; done) | (simp; omega)) (by first | omega | (simp; done) | (simp; omega)) rfl) ?_   -- 1
          refine TrC.take rfl (step_assign rfl rfl rfl) ?_   -- 2
          refine TrC.done ?_
          exact ⟨(j + 1, without M k), ⟨hw, hcut, by show j + 1 + (without M k).fl.length ≤ 12; omega⟩, by show (without M k).fl.length < M.fl.length; omega, Sat.wk [] (.cons (.t (.refl _)) (.cons (.t (.refl _)) (.cons (.p rfl) (.cons (.t (conv_eq (by simp [without, List.map_take, List.map_drop, List.take_of_length_le]))) (.cons (.t (conv_i (by simp))) (.nil)))))) (.cons rfl (.box (.cons (.t (.refl _)) (.cons (.t (.refl _)) (.cons (.t (.refl _)) (.nil))))) (.nil)) rfl rfl⟩
      · -- false
        have hz : M.fl = [] := by have h := h81; simp at h; exact h
        refine AT.exit (Or.inl ⟨rfl, ?_⟩)   -- exit 2
        refine AT.seq ?_
        refine AT.region ?_   -- region 25 law.go:140
        refine TrC.take rfl (step_fieldAddrP rfl rfl fd30_0 rfl rfl) ?_   -- 0
        refine TrC.take rfl (step_loadP1 rfl rfl rfl ty27 rfl rfl) ?_   -- 1
        refine TrC.take rfl (step_lenT (rt := 0) rfl rfl sl27 rfl) ?_   -- 2
        refine TrC.take rfl (step_bin rfl rfl rfl rfl rfl) ?_   -- 3
        refine TrC.spell 159 rfl (bv (b := true) (by simp [hz])) ?_
        refine TrC.take rfl (step_move rfl rfl rfl) ?_   -- 4
        refine TrC.take ⟨_, _, rfl, rfl, rfl⟩ (step_move rfl rfl rfl) ?_   -- 5
        refine TrC.take rfl (step_pick rfl rfl rfl rfl) ?_   -- 6
        refine TrC.take rfl (step_assign rfl rfl rfl) ?_   -- 7
        refine TrC.done ?_
        refine AT.ret ?_
        exact Ret.one rfl (ResR.tmp rfl (conv_b rfl))
  · -- t23 = false
    refine TrC.skip ⟨_, _, rfl, rfl, rfl⟩ ?_   -- 5
    refine TrC.skip ⟨_, _, rfl, rfl, rfl⟩ ?_   -- 6
    refine TrC.take rfl (step_pick rfl rfl rfl rfl) ?_   -- 7
    refine TrC.done ?_
    refine AT.condF rfl ?_   -- t26
    refine AT.exit (Or.inl ⟨rfl, ?_⟩)   -- exit 0
    refine AT.seq ?_
    refine AT.seq ?_
    refine AT.region ?_   -- region 14 law.go:128
    refine TrC.take rfl (step_assign rfl rfl rfl) ?_   -- 0
    refine TrC.done ?_
    refine AT.block ?_   -- block 2
    refine AT.loopP (fun p : Nat × Net => VN p.2 ∧ p.2.cuts = [] ∧ p.1 + p.2.fl.length ≤ 12) (fun (j, M) => mkS [(1, .t (.slice 1 (o.map encB1))), (5, .t (.b true)), (6, .p 6 0), (7, .t (.slice 3 (M.fl.map encP))), (12, .t (.i j))] [(6, .box 30 [.t (.slice 3 (M.fl.map encP)), .t (.slice 2 (M.cuts.map encC)), .t (.i M.next)])]) (fun p => p.2.fl.length) ((0, N)) (⟨hv, hcut, by show 0 + N.fl.length ≤ 12; omega⟩) (fun a w hs => Sat.wk [] (.cons (.t (.refl _)) (.cons (.t (.refl _)) (.cons (.p rfl) (.cons (.fr rfl rfl) (.cons (.t (.refl _)) (.nil)))))) (.cons rfl (.box (.cons (.t (.refl _)) (.cons (.t (.refl _)) (.cons (.t (.refl _)) (.nil))))) (.nil)) rfl rfl a w hs) (fun iy hiy => ?_)
    obtain ⟨j, M⟩ := iy
    obtain ⟨hv, hcut, hjm⟩ := hiy
    simp only at hv hcut hjm
    have hvl := hv.nl
    refine AT.seq ?_
    refine AT.seq ?_
    refine AT.region ?_   -- region 15 law.go:128
    refine TrC.take rfl (step_move rfl rfl rfl) ?_   -- 0
    refine TrC.take rfl (step_lenT (rt := 0) rfl rfl sl27 rfl) ?_   -- 1
    refine TrC.take rfl (step_bin rfl rfl rfl rfl rfl) ?_   -- 2
    refine TrC.done ?_
    refine AT.cond rfl (fun h81 => ?_) (fun h81 => ?_)   -- t81
    · -- true
      have hpos : 0 < M.fl.length := by simpa using h81
      refine AT.skip ?_
      refine AT.seq ?_
      refine AT.block ?_   -- block 3
      refine AT.seq ?_
      refine AT.region ?_   -- region 17 law.go:129
      refine TrC.take rfl (step_assign rfl rfl rfl) ?_   -- 0
      refine TrC.done ?_
      refine AT.seq ?_
      refine AT.seq ?_
      refine AT.region ?_   -- region 18 law.go:130
      refine TrC.take rfl (step_move rfl rfl rfl) ?_   -- 0
      refine TrC.take rfl (step_move rfl rfl rfl) ?_   -- 1
      refine TrC.take rfl (step_lenT (rt := 0) rfl rfl sl51 rfl) ?_   -- 2
      refine TrC.take rfl (step_bin rfl rfl rfl rfl rfl) ?_   -- 3
      refine TrC.done ?_
      refine AT.cond rfl (fun h87 => ?_) (fun h87 => ?_)   -- t87
      · -- true
        have hjo : j < o.length := by have h := h87; simp at h; omega
        have hgo : (o.map encB1)[j]? = some (.v (.int .u8 o[j])) := by rw [List.getElem?_map, List.getElem?_eq_getElem hjo]; rfl
        have hob := ho _ (List.getElem_mem hjo)
        refine AT.region ?_   -- region 19 law.go:131
        refine TrC.take rfl (step_move rfl rfl rfl) ?_   -- 0
        refine TrC.take rfl (step_move rfl rfl rfl) ?_   -- 1
        refine TrC.take rfl (step_indexAddrT (v := .v (.int .u8 o[j])) rfl rfl rfl sl51 (by omega) (by first | exact hgo | simpa using hgo) rfl rfl) ?_   -- 2
        refine TrC.take rfl (step_loadT1 rfl rfl ty5 rfl rfl) ?_   -- 3
        refine TrC.take rfl (step_convI rfl rfl in5 in3 (by omega) (by omega) rfl) ?_   -- 4
        refine TrC.take rfl (step_move rfl rfl rfl) ?_   -- 5
        refine TrC.take rfl (step_lenT (rt := 0) rfl rfl sl27 rfl) ?_   -- 6
        first | refine TrC.take rfl (step_remI rfl rfl rfl (by omega) (by first | omega | (simp; done) | (simp; omega)) rfl) ?_ | refine TrC.take rfl (step_bin rfl rfl rfl rfl rfl) ?_   -- 7
        refine TrC.take rfl (step_assign rfl rfl rfl) ?_   -- 8
        refine TrC.done ?_
        refine Exists.elim (modk (q := o[j]) hob.1 hpos) (fun k hk => ?_)
        refine AT.spell 13 rfl (iv (b := (k : Int)) (by simpa using hk.2)) ?_
        refine AT.seq ?_
        have hkl := hk.1
        have hgk : (M.fl.map encP)[k]? = some (.agg [.i M.fl[k].id, .i M.fl[k].fr, .i M.fl[k].to]) := by rw [List.getElem?_map, List.getElem?_eq_getElem hkl]; rfl
        have hw : VN (without M k) := hv.without hkl
        have hwl := without_len hkl
        have hg := find_gone hv.sp hkl
        refine AT.regionD mixed rfl ?_   -- region 20 law.go:133
        refine TrC.take rfl (step_loadPN rfl rfl rfl ty30 rfl rfl rfl) ?_   -- 0
        refine TrC.take rfl (step_move rfl rfl rfl) ?_   -- 1
        refine TrC.take rfl (step_move rfl rfl rfl) ?_   -- 2
        refine TrC.take rfl (step_indexAddrT (v := .agg [.i M.fl[k].id, .i M.fl[k].fr, .i M.fl[k].to]) rfl rfl rfl sl27 (by omega) (by first | exact hgk | simpa using hgk) rfl rfl) ?_   -- 3
        refine TrC.take rfl (step_fieldAddrT rfl rfl fd25_0 rfl rfl rfl) ?_   -- 4
        refine TrC.take rfl (step_loadT1 rfl rfl ty3 rfl rfl) ?_   -- 5
        refine TrC.take rfl (step_call0 rfl rfl ((D17 hv M.fl[k].id).eq (et (take_at hv.sp hkl (reach_nil hcut _ _)))) rfl) ?_   -- 6
        refine TrC.take rfl (step_allocC rfl rfl ze40 zc40 rfl rfl rfl) ?_   -- 7
        refine TrC.take rfl (step_storeP rfl rfl rfl rfl rfl (.inl rfl) ty40 rfl rfl rfl) ?_   -- 8
        refine TrC.doneD rfl ?_
        refine AT.seq ?_
        refine AT.seq ?_
        refine AT.regionD mixed rfl ?_   -- region 21 law.go:134
        refine TrC.take rfl (step_fieldAddrP rfl rfl fd40_2 rfl rfl) ?_   -- 0
        refine TrC.take rfl (step_loadP1 rfl rfl rfl ty33 rfl rfl) ?_   -- 1
        refine TrC.take rfl (step_bin rfl rfl rfl rfl rfl) ?_   -- 2
        refine TrC.spell 105 rfl (bv (b := false) (by simp)) ?_
        refine TrC.take rfl (step_move rfl rfl rfl) ?_   -- 3
        refine TrC.take ⟨_, _, rfl, rfl, rfl⟩ (step_fieldAddrP rfl rfl fd40_1 rfl rfl) ?_   -- 4
        refine TrC.take ⟨_, _, rfl, rfl, rfl⟩ (step_loadPN rfl rfl rfl ty25 rfl rfl rfl) ?_   -- 5
        refine TrC.take ⟨_, _, rfl, rfl, rfl⟩ (step_move rfl rfl rfl) ?_   -- 6
        refine TrC.take ⟨_, _, rfl, rfl, rfl⟩ (step_move rfl rfl rfl) ?_   -- 7
        refine TrC.take ⟨_, _, rfl, rfl, rfl⟩ (step_indexAddrT (v := .agg [.i M.fl[k].id, .i M.fl[k].fr, .i M.fl[k].to]) rfl rfl rfl sl27 (by omega) (by first | exact hgk | simpa using hgk) rfl rfl) ?_   -- 8
        refine TrC.take ⟨_, _, rfl, rfl, rfl⟩ (step_loadTN rfl rfl ty25 rfl rfl) ?_   -- 9
        refine TrC.take ⟨_, _, rfl, rfl, rfl⟩ (step_nea rfl rfl rfl rfl rfl ty25 eg25 (eq25 _ _ _ _ _ _) rfl) ?_   -- 10
        refine TrC.spell 113 rfl (bv (b := false) (by simp)) ?_
        refine TrC.take rfl (step_pick rfl rfl rfl rfl) ?_   -- 11
        refine TrC.take rfl (step_move rfl rfl rfl) ?_   -- 12
        refine TrC.take ⟨_, _, rfl, rfl, rfl⟩ (step_fieldAddrP rfl rfl fd40_0 rfl rfl) ?_   -- 13
        refine TrC.take ⟨_, _, rfl, rfl, rfl⟩ (step_loadPN rfl rfl rfl ty30 rfl rfl rfl) ?_   -- 14
        refine TrC.take ⟨_, _, rfl, rfl, rfl⟩ (step_call0 rfl rfl (D27 hw) rfl) ?_   -- 15
        refine TrC.spell 118 rfl (bv (b := true) (rfl)) ?_
        refine TrC.take ⟨_, _, rfl, rfl, rfl⟩ (step_not rfl rfl rfl) ?_   -- 16
        refine TrC.take rfl (step_pick rfl rfl rfl rfl) ?_   -- 17
        refine TrC.take rfl (step_move rfl rfl rfl) ?_   -- 18
        refine TrC.take ⟨_, _, rfl, rfl, rfl⟩ (step_fieldAddrP rfl rfl fd40_0 rfl rfl) ?_   -- 19
        refine TrC.take ⟨_, _, rfl, rfl, rfl⟩ (step_loadPN rfl rfl rfl ty30 rfl rfl rfl) ?_   -- 20
        refine TrC.take ⟨_, _, rfl, rfl, rfl⟩ (step_move rfl rfl rfl) ?_   -- 21
        refine TrC.take ⟨_, _, rfl, rfl, rfl⟩ (step_move rfl rfl rfl) ?_   -- 22
        refine TrC.take ⟨_, _, rfl, rfl, rfl⟩ (step_indexAddrT (v := .agg [.i M.fl[k].id, .i M.fl[k].fr, .i M.fl[k].to]) rfl rfl rfl sl27 (by omega) (by first | exact hgk | simpa using hgk) rfl rfl) ?_   -- 23
        refine TrC.take ⟨_, _, rfl, rfl, rfl⟩ (step_fieldAddrT rfl rfl fd25_0 rfl rfl rfl) ?_   -- 24
        refine TrC.take ⟨_, _, rfl, rfl, rfl⟩ (step_loadT1 rfl rfl ty3 rfl rfl) ?_   -- 25
        refine TrC.take ⟨_, _, rfl, rfl, rfl⟩ (step_call0 rfl rfl ((D17 hw M.fl[k].id).eq (et (take_none hg))) rfl) ?_   -- 26
        refine TrC.take ⟨_, _, rfl, rfl, rfl⟩ (step_field1 rfl rfl fd40_2 ty33 rfl rfl) ?_   -- 27
        refine TrC.take ⟨_, _, rfl, rfl, rfl⟩ (step_bin rfl rfl rfl rfl rfl) ?_   -- 28
        refine TrC.spell 131 rfl (bv (b := false) (by simp)) ?_
        refine TrC.take rfl (step_pick rfl rfl rfl rfl) ?_   -- 29
        refine TrC.take rfl (step_move rfl rfl rfl) ?_   -- 30
        refine TrC.take ⟨_, _, rfl, rfl, rfl⟩ (step_fieldAddrP rfl rfl fd40_0 rfl rfl) ?_   -- 31
        refine TrC.take ⟨_, _, rfl, rfl, rfl⟩ (step_fieldAddrP rfl rfl fd30_0 rfl rfl) ?_   -- 32
        refine TrC.take ⟨_, _, rfl, rfl, rfl⟩ (step_loadP1 rfl rfl rfl ty27 rfl rfl) ?_   -- 33
        refine TrC.take ⟨_, _, rfl, rfl, rfl⟩ (step_lenT (rt := 0) rfl rfl sl27 rfl) ?_   -- 34
        refine TrC.take ⟨_, _, rfl, rfl, rfl⟩ (step_move rfl rfl rfl) ?_   -- 35
        refine TrC.take ⟨_, _, rfl, rfl, rfl⟩ (step_lenT (rt := 0) rfl rfl sl27 rfl) ?_   -- 36
        refine TrC.take ⟨_, _, rfl, rfl, rfl⟩ (step_subI rfl rfl rfl (by first | omega | (simp; done) | (simp; omega)) (by first | omega | (simp; done) | (simp; omega)) rfl) ?_   -- 37
        refine TrC.take ⟨_, _, rfl, rfl, rfl⟩ (step_bin rfl rfl rfl rfl rfl) ?_   -- 38
        refine TrC.spell 141 rfl (bv (b := false) (by simp [hwl]; omega)) ?_
        refine TrC.take rfl (step_pick rfl rfl rfl rfl) ?_   -- 39
        refine TrC.doneD rfl ?_
        refine AT.condF rfl ?_   -- t142
        refine AT.skip ?_
        refine AT.seq ?_
        refine AT.region ?_   -- region 23 law.go:137
        refine TrC.take rfl (step_buildSliceH rfl rfl sl27 ze25 rfl rfl rfl rfl rfl rfl rfl rfl rfl rfl rfl rfl rfl) ?_   -- 0
        refine TrC.take rfl (step_move rfl rfl rfl) ?_   -- 1
        refine TrC.take rfl (step_move rfl rfl rfl) ?_   -- 2
        refine TrC.take rfl (step_sliceT rfl rfl rfl rfl sl27 (by first | (simp; done) | (simp; omega) | omega) (by first | (simp; done) | (simp; omega) | omega) (by first | (simp; done) | (simp; omega) | omega) rfl) ?_   -- 3
        refine TrC.take rfl (step_append rfl rfl rfl rfl rfl (.refl _) sl27 ze25 rfl rfl rfl (by first | (simp; done) | (simp; omega) | omega) rfl rfl) ?_   -- 4
        refine TrC.take rfl (step_assign rfl rfl rfl) ?_   -- 5
        refine TrC.done ?_
        refine AT.regionD mixed rfl ?_   -- region 24 law.go:138
        refine TrC.take rfl (step_fieldAddrP rfl rfl fd40_0 rfl rfl) ?_   -- 0
        refine TrC.take rfl (step_loadPN rfl rfl rfl ty30 rfl rfl rfl) ?_   -- 1
        refine TrC.take rfl (step_move rfl rfl rfl) ?_   -- 2
        refine TrC.take rfl (step_move rfl rfl rfl) ?_   -- 3
        refine TrC.take rfl (step_move rfl rfl rfl) ?_   -- 4
        refine TrC.take rfl (step_addI rfl rfl rfl (by first | omega | (simp; done) | (simp; omega)) (by first | omega | (simp; done) | (simp; omega)) rfl) ?_   -- 5
        refine TrC.take rfl (step_sliceT rfl rfl rfl rfl sl27 (by first | (simp; done) | (simp; omega) | omega) (by first | (simp; done) | (simp; omega) | omega) (by first | (simp; done) | (simp; omega) | omega) rfl) ?_   -- 6
        refine TrC.take rfl (Step.toT (step_append rfl rfl rfl rfl rfl (.refl _) sl27 ze25 rfl rfl rfl (by first | (simp; done) | (simp; omega) | omega) rfl rfl) rfl) ?_   -- 7
        refine TrC.take rfl (step_storeP rfl rfl rfl rfl rfl (.inl rfl) ty30 rfl rfl rfl) ?_   -- 8
        refine TrC.take rfl (step_assign rfl rfl rfl) ?_   -- 9
        refine TrC.doneD rfl ?_
        refine AT.region ?_   -- region 16 law.go:128
        refine TrC.take rfl (step_move rfl rfl rfl) ?_   -- 0
        refine TrC.take rfl (step_addI rfl rfl rfl (by first | omega | (simp; done) | (simp; omega)) (by first | omega | (simp; done) | (simp; omega)) rfl) ?_   -- 1
        refine TrC.take rfl (step_assign rfl rfl rfl) ?_   -- 2
        refine TrC.done ?_
        exact ⟨(j + 1, without M k), ⟨hw, hcut, by show j + 1 + (without M k).fl.length ≤ 12; omega⟩, by show (without M k).fl.length < M.fl.length; omega, Sat.wk [] (.cons (.t (.refl _)) (.cons (.t (.refl _)) (.cons (.p rfl) (.cons (.t (conv_eq (by simp [without, List.map_take, List.map_drop, List.take_of_length_le]))) (.cons (.t (conv_i (by simp))) (.nil)))))) (.cons rfl (.box (.cons (.t (.refl _)) (.cons (.t (.refl _)) (.cons (.t (.refl _)) (.nil))))) (.nil)) rfl rfl⟩
      · -- false
        refine Exists.elim (show ∃ k : Nat, k < M.fl.length ∧ (0 : Int) = k from ⟨0, hpos, rfl⟩) (fun k hk => ?_)
        refine AT.spell 13 rfl (iv (b := (k : Int)) hk.2) ?_
        refine AT.skip ?_
        refine AT.seq ?_
        have hkl := hk.1
        have hgk : (M.fl.map encP)[k]? = some (.agg [.i M.fl[k].id, .i M.fl[k].fr, .i M.fl[k].to]) := by rw [List.getElem?_map, List.getElem?_eq_getElem hkl]; rfl
        have hw : VN (without M k) := hv.without hkl
        have hwl := without_len hkl
        have hg := find_gone hv.sp hkl
        refine AT.regionD mixed rfl ?_   -- region 20 law.go:133
        refine TrC.take rfl (step_loadPN rfl rfl rfl ty30 rfl rfl rfl) ?_   -- 0
        refine TrC.take rfl (step_move rfl rfl rfl) ?_   -- 1
        refine TrC.take rfl (step_move rfl rfl rfl) ?_   -- 2
        refine TrC.take rfl (step_indexAddrT (v := .agg [.i M.fl[k].id, .i M.fl[k].fr, .i M.fl[k].to]) rfl rfl rfl sl27 (by omega) (by first | exact hgk | simpa using hgk) rfl rfl) ?_   -- 3
        refine TrC.take rfl (step_fieldAddrT rfl rfl fd25_0 rfl rfl rfl) ?_   -- 4
        refine TrC.take rfl (step_loadT1 rfl rfl ty3 rfl rfl) ?_   -- 5
        refine TrC.take rfl (step_call0 rfl rfl ((D17 hv M.fl[k].id).eq (et (take_at hv.sp hkl (reach_nil hcut _ _)))) rfl) ?_   -- 6
        refine TrC.take rfl (step_allocC rfl rfl ze40 zc40 rfl rfl rfl) ?_   -- 7
        refine TrC.take rfl (step_storeP rfl rfl rfl rfl rfl (.inl rfl) ty40 rfl rfl rfl) ?_   -- 8
        refine TrC.doneD rfl ?_
        refine AT.seq ?_
        refine AT.seq ?_
        refine AT.regionD mixed rfl ?_   -- region 21 law.go:134
        refine TrC.take rfl (step_fieldAddrP rfl rfl fd40_2 rfl rfl) ?_   -- 0
        refine TrC.take rfl (step_loadP1 rfl rfl rfl ty33 rfl rfl) ?_   -- 1
        refine TrC.take rfl (step_bin rfl rfl rfl rfl rfl) ?_   -- 2
        refine TrC.spell 105 rfl (bv (b := false) (by simp)) ?_
        refine TrC.take rfl (step_move rfl rfl rfl) ?_   -- 3
        refine TrC.take ⟨_, _, rfl, rfl, rfl⟩ (step_fieldAddrP rfl rfl fd40_1 rfl rfl) ?_   -- 4
        refine TrC.take ⟨_, _, rfl, rfl, rfl⟩ (step_loadPN rfl rfl rfl ty25 rfl rfl rfl) ?_   -- 5
        refine TrC.take ⟨_, _, rfl, rfl, rfl⟩ (step_move rfl rfl rfl) ?_   -- 6
        refine TrC.take ⟨_, _, rfl, rfl, rfl⟩ (step_move rfl rfl rfl) ?_   -- 7
        refine TrC.take ⟨_, _, rfl, rfl, rfl⟩ (step_indexAddrT (v := .agg [.i M.fl[k].id, .i M.fl[k].fr, .i M.fl[k].to]) rfl rfl rfl sl27 (by omega) (by first | exact hgk | simpa using hgk) rfl rfl) ?_   -- 8
        refine TrC.take ⟨_, _, rfl, rfl, rfl⟩ (step_loadTN rfl rfl ty25 rfl rfl) ?_   -- 9
        refine TrC.take ⟨_, _, rfl, rfl, rfl⟩ (step_nea rfl rfl rfl rfl rfl ty25 eg25 (eq25 _ _ _ _ _ _) rfl) ?_   -- 10
        refine TrC.spell 113 rfl (bv (b := false) (by simp)) ?_
        refine TrC.take rfl (step_pick rfl rfl rfl rfl) ?_   -- 11
        refine TrC.take rfl (step_move rfl rfl rfl) ?_   -- 12
        refine TrC.take ⟨_, _, rfl, rfl, rfl⟩ (step_fieldAddrP rfl rfl fd40_0 rfl rfl) ?_   -- 13
        refine TrC.take ⟨_, _, rfl, rfl, rfl⟩ (step_loadPN rfl rfl rfl ty30 rfl rfl rfl) ?_   -- 14
        refine TrC.take ⟨_, _, rfl, rfl, rfl⟩ (step_call0 rfl rfl (D27 hw) rfl) ?_   -- 15
        refine TrC.spell 118 rfl (bv (b := true) (rfl)) ?_
        refine TrC.take ⟨_, _, rfl, rfl, rfl⟩ (step_not rfl rfl rfl) ?_   -- 16
        refine TrC.take rfl (step_pick rfl rfl rfl rfl) ?_   -- 17
        refine TrC.take rfl (step_move rfl rfl rfl) ?_   -- 18
        refine TrC.take ⟨_, _, rfl, rfl, rfl⟩ (step_fieldAddrP rfl rfl fd40_0 rfl rfl) ?_   -- 19
        refine TrC.take ⟨_, _, rfl, rfl, rfl⟩ (step_loadPN rfl rfl rfl ty30 rfl rfl rfl) ?_   -- 20
        refine TrC.take ⟨_, _, rfl, rfl, rfl⟩ (step_move rfl rfl rfl) ?_   -- 21
        refine TrC.take ⟨_, _, rfl, rfl, rfl⟩ (step_move rfl rfl rfl) ?_   -- 22
        refine TrC.take ⟨_, _, rfl, rfl, rfl⟩ (step_indexAddrT (v := .agg [.i M.fl[k].id, .i M.fl[k].fr, .i M.fl[k].to]) rfl rfl rfl sl27 (by omega) (by first | exact hgk | simpa using hgk) rfl rfl) ?_   -- 23
        refine TrC.take ⟨_, _, rfl, rfl, rfl⟩ (step_fieldAddrT rfl rfl fd25_0 rfl rfl rfl) ?_   -- 24
        refine TrC.take ⟨_, _, rfl, rfl, rfl⟩ (step_loadT1 rfl rfl ty3 rfl rfl) ?_   -- 25
        refine TrC.take ⟨_, _, rfl, rfl, rfl⟩ (step_call0 rfl rfl ((D17 hw M.fl[k].id).eq (et (take_none hg))) rfl) ?_   -- 26
        refine TrC.take ⟨_, _, rfl, rfl, rfl⟩ (step_field1 rfl rfl fd40_2 ty33 rfl rfl) ?_   -- 27
        refine TrC.take ⟨_, _, rfl, rfl, rfl⟩ (step_bin rfl rfl rfl rfl rfl) ?_   -- 28
        refine TrC.spell 131 rfl (bv (b := false) (by simp)) ?_
        refine TrC.take rfl (step_pick rfl rfl rfl rfl) ?_   -- 29
        refine TrC.take rfl (step_move rfl rfl rfl) ?_   -- 30
        refine TrC.take ⟨_, _, rfl, rfl, rfl⟩ (step_fieldAddrP rfl rfl fd40_0 rfl rfl) ?_   -- 31
        refine TrC.take ⟨_, _, rfl, rfl, rfl⟩ (step_fieldAddrP rfl rfl fd30_0 rfl rfl) ?_   -- 32
        refine TrC.take ⟨_, _, rfl, rfl, rfl⟩ (step_loadP1 rfl rfl rfl ty27 rfl rfl) ?_   -- 33
        refine TrC.take ⟨_, _, rfl, rfl, rfl⟩ (step_lenT (rt := 0) rfl rfl sl27 rfl) ?_   -- 34
        refine TrC.take ⟨_, _, rfl, rfl, rfl⟩ (step_move rfl rfl rfl) ?_   -- 35
        refine TrC.take ⟨_, _, rfl, rfl, rfl⟩ (step_lenT (rt := 0) rfl rfl sl27 rfl) ?_   -- 36
        refine TrC.take ⟨_, _, rfl, rfl, rfl⟩ (step_subI rfl rfl rfl (by first | omega | (simp; done) | (simp; omega)) (by first | omega | (simp; done) | (simp; omega)) rfl) ?_   -- 37
        refine TrC.take ⟨_, _, rfl, rfl, rfl⟩ (step_bin rfl rfl rfl rfl rfl) ?_   -- 38
        refine TrC.spell 141 rfl (bv (b := false) (by simp [hwl]; omega)) ?_
        refine TrC.take rfl (step_pick rfl rfl rfl rfl) ?_   -- 39
        refine TrC.doneD rfl ?_
        refine AT.condF rfl ?_   -- t142
        refine AT.skip ?_
        refine AT.seq ?_
        refine AT.region ?_   -- region 23 law.go:137
        refine TrC.take rfl (step_buildSliceH rfl rfl sl27 ze25 rfl rfl rfl rfl rfl rfl rfl rfl rfl rfl rfl rfl rfl) ?_   -- 0
        refine TrC.take rfl (step_move rfl rfl rfl) ?_   -- 1
        refine TrC.take rfl (step_move rfl rfl rfl) ?_   -- 2
        refine TrC.take rfl (step_sliceT rfl rfl rfl rfl sl27 (by first | (simp; done) | (simp; omega) | omega) (by first | (simp; done) | (simp; omega) | omega) (by first | (simp; done) | (simp; omega) | omega) rfl) ?_   -- 3
        refine TrC.take rfl (step_append rfl rfl rfl rfl rfl (.refl _) sl27 ze25 rfl rfl rfl (by first | (simp; done) | (simp; omega) | omega) rfl rfl) ?_   -- 4
        refine TrC.take rfl (step_assign rfl rfl rfl) ?_   -- 5
        refine TrC.done ?_
        refine AT.regionD mixed rfl ?_   -- region 24 law.go:138
        refine TrC.take rfl (step_fieldAddrP rfl rfl fd40_0 rfl rfl) ?_   -- 0
        refine TrC.take rfl (step_loadPN rfl rfl rfl ty30 rfl rfl rfl) ?_   -- 1
        refine TrC.take rfl (step_move rfl rfl rfl) ?_   -- 2
        refine TrC.take rfl (step_move rfl rfl rfl) ?_   -- 3
        refine TrC.take rfl (step_move rfl rfl rfl) ?_   -- 4
        refine TrC.take rfl (step_addI rfl rfl rfl (by first | omega | (simp; done) | (simp; omega)) (by first | omega | (simp; done) | (simp; omega)) rfl) ?_   -- 5
        refine TrC.take rfl (step_sliceT rfl rfl rfl rfl sl27 (by first | (simp; done) | (simp; omega) | omega) (by first | (simp; done) | (simp; omega) | omega) (by first | (simp; done) | (simp; omega) | omega) rfl) ?_   -- 6
        refine TrC.take rfl (Step.toT (step_append rfl rfl rfl rfl rfl (.refl _) sl27 ze25 rfl rfl rfl (by first | (simp; done) | (simp; omega) | omega) rfl rfl) rfl) ?_   -- 7
        refine TrC.take rfl (step_storeP rfl rfl rfl rfl rfl (.inl rfl) ty30 rfl rfl rfl) ?_   -- 8
        refine TrC.take rfl (step_assign rfl rfl rfl) ?_   -- 9
        refine TrC.doneD rfl ?_
        refine AT.region ?_   -- region 16 law.go:128
        refine TrC.take rfl (step_move rfl rfl rfl) ?_   -- 0
        refine TrC.take rfl (step_addI rfl rfl rfl (by first | omega | (simp; done) | (simp; omega)) (by first | omega | (simp; done) | (simp; omega)) rfl) ?_   -- 1
        refine TrC.take rfl (step_assign rfl rfl rfl) ?_   -- 2
        refine TrC.done ?_
        exact ⟨(j + 1, without M k), ⟨hw, hcut, by show j + 1 + (without M k).fl.length ≤ 12; omega⟩, by show (without M k).fl.length < M.fl.length; omega, Sat.wk [] (.cons (.t (.refl _)) (.cons (.t (.refl _)) (.cons (.p rfl) (.cons (.t (conv_eq (by simp [without, List.map_take, List.map_drop, List.take_of_length_le]))) (.cons (.t (conv_i (by simp))) (.nil)))))) (.cons rfl (.box (.cons (.t (.refl _)) (.cons (.t (.refl _)) (.cons (.t (.refl _)) (.nil))))) (.nil)) rfl rfl⟩
    · -- false
      have hz : M.fl = [] := by have h := h81; simp at h; exact h
      refine AT.exit (Or.inl ⟨rfl, ?_⟩)   -- exit 2
      refine AT.seq ?_
      refine AT.region ?_   -- region 25 law.go:140
      refine TrC.take rfl (step_fieldAddrP rfl rfl fd30_0 rfl rfl) ?_   -- 0
      refine TrC.take rfl (step_loadP1 rfl rfl rfl ty27 rfl rfl) ?_   -- 1
      refine TrC.take rfl (step_lenT (rt := 0) rfl rfl sl27 rfl) ?_   -- 2
      refine TrC.take rfl (step_bin rfl rfl rfl rfl rfl) ?_   -- 3
      refine TrC.spell 159 rfl (bv (b := true) (by simp [hz])) ?_
      refine TrC.take rfl (step_move rfl rfl rfl) ?_   -- 4
      refine TrC.take ⟨_, _, rfl, rfl, rfl⟩ (step_move rfl rfl rfl) ?_   -- 5
      refine TrC.take rfl (step_pick rfl rfl rfl rfl) ?_   -- 6
      refine TrC.take rfl (step_assign rfl rfl rfl) ?_   -- 7
      refine TrC.done ?_
      refine AT.ret ?_
      exact Ret.one rfl (ResR.tmp rfl (conv_b rfl))

end Go.Proofs.Ytnemmdbafngppaa.Net

/- NetOnce: from the function's contract to arguments as they come. No condition. -/
set_option linter.unusedVariables false
namespace Go.Proofs.Ytnemmdbafngppaa.netOnce
open Go.Proofs.Ytnemmdbafngppaa.Abs Go.Proofs.Ytnemmdbafngppaa.Net Go.RowKit
theorem NetOnce_has (x0 x1 : T) (f0 : Fits Try.prog 50 x0.cells) (a0 : (∃ l, x0 = .agg l) ↔ (partsOf Try.prog 50).isSome = true) (f1 : Fits Try.prog 51 x1.cells) (a1 : (∃ l, x1 = .agg l) ↔ (partsOf Try.prog 51).isSome = true) : Has Try.prog 5 [x0, x1] (.b true) := by
  obtain ⟨l, rfl, _, hb⟩ := fitB2 f0 a0 (e := 52) (by kernel_rfl) (by kernel_rfl) (by kernel_rfl)
  obtain ⟨o, rfl, _, ho⟩ := fitB1 f1 a1 (e := 5) (by kernel_rfl) (by kernel_rfl) (by kernel_rfl)
  exact C5 l hb o ho
end Go.Proofs.Ytnemmdbafngppaa.netOnce

/- The statement NetOnceSaid is proved here: the law's function returns true for all its arguments and panics for none. No condition. -/
namespace Go.Proofs.Ytnemmdbafngppaa.netOnce
open Go.ChangeShapes Go.WideShapes Go.ChangeAt Go.RowKit
open Go.Proofs.Ytnemmdbafngppaa.Abs
set_option linter.unusedVariables false
theorem own : ownKnob Try.prog.godebug = none := by kernel_rfl
theorem laidOut : laidOutB Try.prog = true := by kernel_rfl
set_option maxRecDepth 100000 in
theorem lifted (os : Os) (started : os.Started) (H : Type) (enc : TypeId × Value → H) :
    ReturnsInHanded {} Try.checked os 5 .any (Rows.netOnceSpec.pre6 enc Try.prog Try.f5 Rows.netOnceRow.domain false) (Rows.netOnceSpec.post enc Try.prog Try.f5 false true false false) := by
  refine returnsInHanded_of_change_sized (C := Try.checked) own started (by kernel_rfl) Try.func5
    (ChangeSpec.witness6 (enc := enc) (C := Try.checked) false ⟨#[], #[.slice none 0 0, .slice none 0 0], []⟩ 8 (by kernel_rfl) (by kernel_rfl) (by kernel_rfl) (by kernel_rfl)) ?_
  intro W base args ds gs before hval0 hW hcnd hsz0 _
  have hval : ∀ (j : Nat) t v, Try.f5.params[j]? = some t → args[j]? = some v → Value.okWide Try.prog W .any base t v := hval0
  have hW' := hW
  obtain ⟨p, q, hA0, hV, rfl, hfz, hnd⟩ := hW
  have hA : DataW.TrodAll enc Try.prog W 0 (fun _ => true) true Try.f5.params.toList args.toList ds p := hA0
  rw [show Try.f5.params = #[50, 51] from by kernel_rfl] at hA hval
  obtain ⟨v0, vs0, d0, ds0, p0, q0, hargs, rfl, rfl, h0, r0⟩ := trodAll_cons hA
  obtain ⟨v1, vs1, d1, ds1, p1, q1, rfl, rfl, rfl, h1, r1⟩ := trodAll_cons r0
  obtain ⟨rfl, rfl, rfl⟩ := trodAll_nil r1
  obtain rfl : args = #[v0, v1] := by cases args; simp_all
  obtain ⟨rfl, rfl⟩ := trodVars_none hV
  have lt0 : ∀ x ∈ p0, x.block < W.heap.size := by obtain ⟨m, hm⟩ := h0; exact DataW.trod_lt m _ _ _ hm
  obtain ⟨x0, rd0, ft0, ag0⟩ := Trod_reads 8 (by kernel_rfl) (hval 0 50 v0 rfl rfl) h0
  have lt1 : ∀ x ∈ p1, x.block < W.heap.size := by obtain ⟨m, hm⟩ := h1; exact DataW.trod_lt m _ _ _ hm
  obtain ⟨x1, rd1, ft1, ag1⟩ := Trod_reads 8 (by kernel_rfl) (hval 1 51 v1 rfl rfl) h1
  have hh := NetOnce_has x0 x1 ft0 ag0 ft1 ag1
  refine (hh.2 W (okW W) #[v0, v1] (fun _ h => h) rfl ?_).mono fun e W' hx => ?_
  · intro i h1 h2
    rcases i with _ | i; exact rd0; rcases i with _ | i; exact rd1; simp at h1 <;> omega
  · obtain ⟨v, he, hr, bel⟩ := hx
    subst he
    cases hr with
    | v _ =>
      exact ⟨_, rfl, _, _, _, [], _, [], hW', trodAll_mk1 (shut_bool (show Try.prog.underlying 4 = some .bool by kernel_rfl) _), (trodAll_cons_mk (Below.trod laidOut (by kernel_rfl) (of_decide_eq_true (by kernel_rfl)) h0 bel lt0) (trodAll_cons_mk (Below.trod laidOut (by kernel_rfl) (of_decide_eq_true (by kernel_rfl)) h1 bel lt1) trodAll_mk0)), rfl, bel.frame _, fun h => by cases h⟩
theorem over : Rows.netOnceRow.holds Try.pinned (OpenSpec.ofChange Rows.netOnceSpec) :=
  OpenClaim.holds_of_wide 5 Try.f5 rfl rfl rfl rfl rfl rfl rfl ⟨rfl, rfl, rfl, rfl, rfl⟩ rfl rfl rfl rfl rfl (by kernel_rfl) Try.func5 (by kernel_rfl)
    (of_decide_eq_true (by kernel_rfl)) (by unfold Func.isWrapper; first | (rw [if_pos (by decide +kernel)]; kernel_rfl) | (rw [if_neg (by decide +kernel)]; exact ⟨rfl, rfl⟩))
    (fun os started H enc _ => lifted os started H enc)
theorem proved : Rows.NetOnceSaid := over
#print axioms proved
end Go.Proofs.Ytnemmdbafngppaa.netOnce
namespace Go.Proofs.Ytnemmdbafngppaa
/-- The row, under a short name, for the claim. -/
theorem netOnce_holds : Rows.NetOnceSaid := netOnce.proved
end Go.Proofs.Ytnemmdbafngppaa

