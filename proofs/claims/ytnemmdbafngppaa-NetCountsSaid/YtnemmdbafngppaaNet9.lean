/- Parts of this proof, one after the other; each says what it proves. No condition. -/
import Derived.Test.YtnemmdbafngppaaMF
import Derived.Test.YtnemmdbafngppaaMG
import Derived.Test.YtnemmdbafngppaaRows
import Derived.Test.YtnemmdbafngppaaMC
import Derived.WalkKit
import Derived.ProofKit
import Derived.OpenShut
import Derived.ShutString
import Derived.ChangeOld
import Derived.Below
import Derived.Carry
import Derived.SizedLaws
/- Contracts of functions of this translation. Printed by wip/tools/gen.py out of wip/net/ann.py. No condition. -/
set_option linter.unusedVariables false
set_option linter.unusedSimpArgs false
namespace Go.Proofs.Ytnemmdbafngppaa.Net
open Go.Proofs.Ytnemmdbafngppaa.Abs
set_option maxRecDepth 100000
set_option maxHeartbeats 4000000
theorem C9 (l : List (Int × Int × Int)) (hb : ∀ x ∈ l, (0 ≤ x.1 ∧ x.1 ≤ 255) ∧ (0 ≤ x.2.1 ∧ x.2.1 ≤ 255) ∧ (0 ≤ x.2.2 ∧ x.2.2 ≤ 255)) : Has Try.prog 9 [.slice 3 (l.map encB)] (.b true) := by   -- burgage/burgagelaw32.NetCounts
  refine Has.intro 109 Try.func9 (by kernel_rfl) rfl rfl fun w ok => ?_
  refine AT.seq ?_
  refine AT.region ?_   -- region 0 law.go:226
  refine TrC.take rfl (step_assign rfl rfl rfl) ?_   -- 0
  refine TrC.done ?_
  refine AT.seq ?_
  refine AT.region ?_   -- region 1 law.go:227
  refine TrC.take rfl (step_call0 rfl rfl (C11) rfl) ?_   -- 0
  refine TrC.take rfl (step_assign rfl rfl rfl) ?_   -- 1
  refine TrC.done ?_
  refine AT.seq ?_
  refine AT.region ?_   -- region 2 law.go:228
  refine TrC.take rfl (step_buildC rfl ze30 zc30 rfl pl30 rfl rfl rfl rfl) ?_   -- 0
  refine TrC.take rfl (step_allocC rfl rfl ze30 zc30 rfl rfl rfl) ?_   -- 1
  refine TrC.take rfl (step_storeP rfl rfl rfl rfl rfl (.inl rfl) ty30 rfl rfl rfl) ?_   -- 2
  refine TrC.take rfl (step_assign rfl rfl rfl) ?_   -- 3
  refine TrC.done ?_
  refine AT.seq ?_
  refine AT.seq ?_
  refine AT.region ?_   -- region 3 law.go:229
  refine TrC.take rfl (step_assign rfl rfl rfl) ?_   -- 0
  refine TrC.done ?_
  refine AT.block ?_   -- block 0
  refine AT.loopP (fun p : Nat × Net => p.1 ≤ l.length ∧ p.1 ≤ 30 ∧ VN p.2) (fun (i, N) => mkS [(0, .t (.slice 3 (l.map encB))), (3, .t (.b true)), (4, .p 4 0), (5, .t (.i N.fl.length)), (6, .t (.i i))] [(4, .box 30 [.t (.slice 3 (N.fl.map encP)), .t (.slice 2 (N.cuts.map encC)), .t (.i N.next)])]) (fun p => 30 - p.1) ((0, ⟨[], [], 1⟩)) (⟨by simp, by simp, VN.made0⟩) (fun a w hs => Sat.wk [] (.cons (.t (.refl _)) (.cons (.t (.refl _)) (.cons (.p rfl) (.cons (.t (.refl _)) (.cons (.t (.refl _)) (.nil)))))) (.cons rfl (.box (.cons (.t (.refl _)) (.cons (.t (.refl _)) (.cons (.t (.refl _)) (.nil))))) (.nil)) rfl rfl a w hs) (fun ix hix => ?_)
  obtain ⟨i, N⟩ := ix
  obtain ⟨hi, h30, hv⟩ := hix
  simp only at hi h30 hv
  have hvl := hv.nl
  have hvc := hv.cl
  refine AT.seq ?_
  refine AT.seq ?_
  refine AT.region ?_   -- region 4 law.go:229
  refine TrC.take rfl (step_move rfl rfl rfl) ?_   -- 0
  refine TrC.take rfl (step_move rfl rfl rfl) ?_   -- 1
  refine TrC.take rfl (step_lenT (rt := 0) rfl rfl sl22 rfl) ?_   -- 2
  refine TrC.take rfl (step_bin rfl rfl rfl rfl rfl) ?_   -- 3
  refine TrC.take rfl (step_move rfl rfl rfl) ?_   -- 4
  refine TrC.cases (d := 19) rfl (fun h19 => ?_) (fun h19 => ?_)
  · -- t19 = true
    have hlt : i < l.length := by have h := h19; simp at h; omega
    refine TrC.take ⟨_, _, rfl, rfl, rfl⟩ (step_move rfl rfl rfl) ?_   -- 5
    refine TrC.take ⟨_, _, rfl, rfl, rfl⟩ (step_bin rfl rfl rfl rfl rfl) ?_   -- 6
    refine TrC.take rfl (step_pick rfl rfl rfl rfl) ?_   -- 7
    refine TrC.done ?_
    refine AT.cond rfl (fun h22 => ?_) (fun h22 => ?_)   -- t22
    · -- true
      have hlt2 : i < 30 := by have h := h22; simp at h; omega
      obtain ⟨x0, x1, x2, hx⟩ : ∃ x0 x1 x2, l[i] = (x0, x1, x2) := ⟨_, _, _, rfl⟩
      have hget : (l.map encB)[i]? = some (.agg [.u8 x0, .u8 x1, .u8 x2]) := by rw [List.getElem?_map, List.getElem?_eq_getElem hlt, hx]; rfl
      obtain ⟨hx0, hx1, hx2⟩ := hb _ (List.getElem_mem hlt)
      rw [hx] at hx0 hx1 hx2
      simp only at hx0 hx1 hx2
      refine Exists.elim (show ∃ Z, Z = send N (x1 % 5) (x2 % 5) from ⟨_, rfl⟩) (fun Z hZ => ?_)
      refine Exists.elim (show ∃ Q, Q = take N (x1 % 16) from ⟨_, rfl⟩) (fun Q hQ => ?_)
      refine Exists.elim (show ∃ U, U = lose N (x1 % 16) from ⟨_, rfl⟩) (fun U hU => ?_)
      refine Exists.elim (show ∃ V, V = double N (x1 % 16) from ⟨_, rfl⟩) (fun V hV => ?_)
      refine Exists.elim (show ∃ W, W = doneN N (2 + x2 % 2) (x1 % 5) (x2 % 5) from ⟨_, rfl⟩) (fun W hW => ?_)
      refine AT.skip ?_
      refine AT.seq ?_
      refine AT.block ?_   -- block 1
      refine AT.seq ?_
      refine AT.region ?_   -- region 6 law.go:230
      refine TrC.take rfl (step_move rfl rfl rfl) ?_   -- 0
      refine TrC.take rfl (step_move rfl rfl rfl) ?_   -- 1
      refine TrC.take rfl (step_indexAddrT (v := .agg [.u8 x0, .u8 x1, .u8 x2]) rfl rfl rfl sl22 (by omega) (by first | exact hget | simpa using hget) rfl rfl) ?_   -- 2
      refine TrC.take rfl (step_loadTN rfl rfl ty47 rfl rfl) ?_   -- 3
      refine TrC.take rfl (step_alloc rfl rfl ze47 rfl rfl rfl) ?_   -- 4
      refine TrC.take rfl (step_storeP rfl rfl rfl rfl rfl (.inl rfl) ty47 rfl rfl rfl) ?_   -- 5
      refine TrC.done ?_
      refine AT.seq ?_
      refine AT.regionD mixed rfl ?_   -- region 7 law.go:231
      refine TrC.take rfl (step_indexAddrP rfl rfl rfl ar47 (by decide) (by decide) rfl) ?_   -- 0
      refine TrC.take rfl (step_loadP1 rfl rfl rfl ty5 rfl rfl) ?_   -- 1
      first | refine TrC.take rfl (step_remI rfl rfl rfl (by omega) (by first | omega | (simp; done) | (simp; omega)) rfl) ?_ | refine TrC.take rfl (step_bin rfl rfl rfl rfl rfl) ?_   -- 2
      refine TrC.take rfl (step_convI rfl rfl in5 in3 (by omega) (by omega) rfl) ?_   -- 3
      refine TrC.take rfl (step_indexAddrP rfl rfl rfl ar47 (by decide) (by decide) rfl) ?_   -- 4
      refine TrC.take rfl (step_loadP1 rfl rfl rfl ty5 rfl rfl) ?_   -- 5
      first | refine TrC.take rfl (step_remI rfl rfl rfl (by omega) (by first | omega | (simp; done) | (simp; omega)) rfl) ?_ | refine TrC.take rfl (step_bin rfl rfl rfl rfl rfl) ?_   -- 6
      refine TrC.take rfl (step_convI rfl rfl in5 in3 (by omega) (by omega) rfl) ?_   -- 7
      refine TrC.take rfl (step_indexAddrP rfl rfl rfl ar47 (by decide) (by decide) rfl) ?_   -- 8
      refine TrC.take rfl (step_loadP1 rfl rfl rfl ty5 rfl rfl) ?_   -- 9
      first | refine TrC.take rfl (step_remI rfl rfl rfl (by omega) (by first | omega | (simp; done) | (simp; omega)) rfl) ?_ | refine TrC.take rfl (step_bin rfl rfl rfl rfl rfl) ?_   -- 10
      refine TrC.take rfl (step_convI rfl rfl in5 in3 (by omega) (by omega) rfl) ?_   -- 11
      refine TrC.take rfl (step_buildA rfl ze32 rfl ar32 rfl rfl rfl rfl) ?_   -- 12
      refine TrC.take rfl (step_alloc rfl rfl ze32 rfl rfl rfl) ?_   -- 13
      refine TrC.take rfl (step_assign rfl rfl rfl) ?_   -- 14
      refine TrC.take rfl (step_storeP rfl rfl rfl rfl rfl (.inl rfl) ty32 rfl rfl rfl) ?_   -- 15
      refine TrC.doneD rfl ?_
      refine AT.seq ?_
      refine AT.region ?_   -- region 8 law.go:232
      refine TrC.take rfl (step_loadPN rfl rfl rfl ty30 rfl rfl rfl) ?_   -- 0
      refine TrC.take rfl (step_buildC rfl ze40 zc40 rfl pl40 rfl rfl rfl rfl) ?_   -- 1
      refine TrC.take rfl (step_allocC rfl rfl ze40 zc40 rfl rfl rfl) ?_   -- 2
      refine TrC.take rfl (step_storeP rfl rfl rfl rfl rfl (.inl rfl) ty40 rfl rfl rfl) ?_   -- 3
      refine TrC.take rfl (step_assign rfl rfl rfl) ?_   -- 4
      refine TrC.done ?_
      refine AT.seq ?_
      refine AT.seq ?_
      refine AT.region ?_   -- region 9 law.go:233
      refine TrC.take rfl (step_indexAddrP rfl rfl rfl ar47 (by decide) (by decide) rfl) ?_   -- 0
      refine TrC.take rfl (step_loadP1 rfl rfl rfl ty5 rfl rfl) ?_   -- 1
      first | refine TrC.take rfl (step_remI rfl rfl rfl (by omega) (by first | omega | (simp; done) | (simp; omega)) rfl) ?_ | refine TrC.take rfl (step_bin rfl rfl rfl rfl rfl) ?_   -- 2
      refine TrC.done ?_
      refine AT.block ?_   -- block 2
      refine AT.seq ?_
      refine AT.seq ?_
      refine AT.region ?_   -- region 11 law.go:234
      refine TrC.take rfl (step_bin rfl rfl rfl rfl rfl) ?_   -- 0
      refine TrC.take rfl (step_assign rfl rfl rfl) ?_   -- 1
      refine TrC.done ?_
      refine AT.cond rfl (fun h55 => ?_) (fun h55 => ?_)   -- t55
      · -- true
        refine AT.spell 55 rfl (congrArg (fun b => T.v (.bool b)) h55) ?_
        refine AT.skip ?_
        refine AT.condT rfl ?_   -- t55
        refine AT.seq ?_
        refine AT.region ?_   -- region 13 law.go:235
        refine TrC.take rfl (step_loadPN rfl rfl rfl ty30 rfl rfl rfl) ?_   -- 0
        refine TrC.take rfl (step_indexAddrP rfl rfl rfl ar32 (by decide) (by decide) rfl) ?_   -- 1
        refine TrC.take rfl (step_loadP1 rfl rfl rfl ty3 rfl rfl) ?_   -- 2
        refine TrC.take rfl (step_indexAddrP rfl rfl rfl ar32 (by decide) (by decide) rfl) ?_   -- 3
        refine TrC.take rfl (step_loadP1 rfl rfl rfl ty3 rfl rfl) ?_   -- 4
        refine TrC.take rfl (step_call0 rfl rfl ((D13 hv (x1 % 5) (x2 % 5)).eq (es hZ.symm)) rfl) ?_   -- 5
        refine TrC.take rfl (step_allocC rfl rfl ze35 zc35 rfl rfl rfl) ?_   -- 6
        refine TrC.take rfl (step_storeP rfl rfl rfl rfl rfl (.inl rfl) ty35 rfl rfl rfl) ?_   -- 7
        refine TrC.done ?_
        refine AT.region ?_   -- region 14 law.go:236
        refine TrC.take rfl (step_fieldAddrP rfl rfl fd35_0 rfl rfl) ?_   -- 0
        refine TrC.take rfl (step_loadPN rfl rfl rfl ty30 rfl rfl rfl) ?_   -- 1
        refine TrC.take rfl (step_fieldAddrP rfl rfl fd35_2 rfl rfl) ?_   -- 2
        refine TrC.take rfl (step_loadP1 rfl rfl rfl ty33 rfl rfl) ?_   -- 3
        refine TrC.take rfl (step_buildC rfl ze40 zc40 rfl pl40 rfl rfl rfl rfl) ?_   -- 4
        refine TrC.take rfl (step_storeP rfl rfl rfl rfl rfl (.inl rfl) ty40 rfl rfl rfl) ?_   -- 5
        refine TrC.take rfl (step_assign rfl rfl rfl) ?_   -- 6
        refine TrC.done ?_
        show AT _ _ _ _
        refine Exists.elim (show ∃ R : Taken, R = ⟨Z.n, p0, Z.e⟩ from ⟨_, rfl⟩) (fun R hR => ?_)
        refine Exists.elim (show ∃ c : Int, c = 1 from ⟨_, rfl⟩) (fun c hc => ?_)
        have hcn : Cnt N R c := by rw [hR, hc]; exact hZ ▸ cnt_send hv _ _
        have hw := hcn.1
        have hcs := hcn.2
        have hcb : -1 ≤ c ∧ c ≤ 1 := by omega
        refine AT.wk (sl := [(0, .t (.slice 3 (l.map encB))), (3, .t (.b true)), (4, .p 4 0), (5, .t (.i N.fl.length)), (6, .t (.i i)), (10, .p 10 0), (11, .t (.i c))]) (ml := [(4, .box 30 [.t (.slice 3 (N.fl.map encP)), .t (.slice 2 (N.cuts.map encC)), .t (.i N.next)]), (10, .box 40 [.t (.slice 3 (R.n.fl.map encP)), .t (.slice 2 (R.n.cuts.map encC)), .t (.i R.n.next), .t (.i R.p.id), .t (.i R.p.fr), .t (.i R.p.to), .t (.i R.e)])]) [] (.cons (.t (.refl _)) (.cons (.t (.refl _)) (.cons (.p rfl) (.cons (.t (.refl _)) (.cons (.t (.refl _)) (.cons (.p rfl) (.cons (.t (conv_i hc.symm)) (.nil)))))))) (.cons rfl (.box (.cons (.t (.refl _)) (.cons (.t (.refl _)) (.cons (.t (.refl _)) (.nil))))) (.cons rfl (.box (.cons (.t (conv_eq (by subst hR; rfl))) (.cons (.t (conv_eq (by subst hR; rfl))) (.cons (.t (conv_eq (by subst hR; rfl))) (.cons (.t (conv_eq (by subst hR; rfl))) (.cons (.t (conv_eq (by subst hR; rfl))) (.cons (.t (conv_eq (by subst hR; rfl))) (.cons (.t (conv_eq (by subst hR; rfl))) (.nil))))))))) (.nil))) rfl rfl ?_
        refine AT.seq ?_
        refine AT.seq ?_
        refine AT.region ?_   -- region 21 law.go:246
        refine TrC.take rfl (step_fieldAddrP rfl rfl fd40_0 rfl rfl) ?_   -- 0
        refine TrC.take rfl (step_loadPN rfl rfl rfl ty30 rfl rfl rfl) ?_   -- 1
        refine TrC.take rfl (step_call0 rfl rfl (D27 hw) rfl) ?_   -- 2
        refine TrC.spell 88 rfl (bv (b := true) (rfl)) ?_
        refine TrC.take rfl (step_not rfl rfl rfl) ?_   -- 3
        refine TrC.done ?_
        refine AT.condF rfl ?_   -- t89
        refine AT.skip ?_
        refine AT.seq ?_
        refine AT.seq ?_
        refine AT.region ?_   -- region 23 law.go:249
        refine TrC.take rfl (step_fieldAddrP rfl rfl fd40_2 rfl rfl) ?_   -- 0
        refine TrC.take rfl (step_loadP1 rfl rfl rfl ty33 rfl rfl) ?_   -- 1
        refine TrC.take rfl (step_bin rfl rfl rfl rfl rfl) ?_   -- 2
        refine TrC.done ?_
        refine AT.cond rfl (fun h92 => ?_) (fun h92 => ?_)   -- t92
        · -- true
          have he : R.e = 0 := by simpa using h92
          have hlen : (R.n.fl.length : Int) = N.fl.length + c := (hcs.resolve_right (fun h => h.1 he)).2
          refine AT.region ?_   -- region 24 law.go:250
          refine TrC.take rfl (step_move rfl rfl rfl) ?_   -- 0
          refine TrC.take rfl (step_move rfl rfl rfl) ?_   -- 1
          refine TrC.take rfl (step_addI rfl rfl rfl (by first | omega | (simp; done) | (simp; omega)) (by first | omega | (simp; done) | (simp; omega)) rfl) ?_   -- 2
          refine TrC.take rfl (step_assign rfl rfl rfl) ?_   -- 3
          refine TrC.done ?_
          refine AT.seq ?_
          refine AT.region ?_   -- region 27 law.go:254
          refine TrC.take rfl (step_fieldAddrP rfl rfl fd40_0 rfl rfl) ?_   -- 0
          refine TrC.take rfl (step_loadPN rfl rfl rfl ty30 rfl rfl rfl) ?_   -- 1
          refine TrC.take rfl (step_storeP rfl rfl rfl rfl rfl (.inl rfl) ty30 rfl rfl rfl) ?_   -- 2
          refine TrC.done ?_
          refine AT.seq ?_
          refine AT.region ?_   -- region 28 law.go:255
          refine TrC.take rfl (step_fieldAddrP rfl rfl fd30_0 rfl rfl) ?_   -- 0
          refine TrC.take rfl (step_loadP1 rfl rfl rfl ty27 rfl rfl) ?_   -- 1
          refine TrC.take rfl (step_lenT (rt := 0) rfl rfl sl27 rfl) ?_   -- 2
          refine TrC.take rfl (step_move rfl rfl rfl) ?_   -- 3
          refine TrC.take rfl (step_bin rfl rfl rfl rfl rfl) ?_   -- 4
          refine TrC.spell 107 rfl (bv (b := false) (by first | (simp [hlen]; done) | (simp [hsame]; done))) ?_
          refine TrC.done ?_
          refine AT.condF rfl ?_   -- t107
          refine AT.skip ?_
          refine AT.region ?_   -- region 5 law.go:229
          refine TrC.take rfl (step_move rfl rfl rfl) ?_   -- 0
          refine TrC.take rfl (step_addI rfl rfl rfl (by first | omega | (simp; done) | (simp; omega)) (by first | omega | (simp; done) | (simp; omega)) rfl) ?_   -- 1
          refine TrC.take rfl (step_assign rfl rfl rfl) ?_   -- 2
          refine TrC.done ?_
          exact ⟨(i + 1, R.n), ⟨by show i + 1 ≤ l.length; omega, by show i + 1 ≤ 30; omega, hw⟩, by show 30 - (i + 1) < 30 - i; omega, Sat.wk [] (.cons (.t (.refl _)) (.cons (.t (.refl _)) (.cons (.p rfl) (.cons (.t (conv_i (by first | exact hlen.symm | rw [hsame]))) (.cons (.t (conv_i (by simp))) (.nil)))))) (.cons rfl (.box (.cons (.t (.refl _)) (.cons (.t (.refl _)) (.cons (.t (.refl _)) (.nil))))) (.nil)) rfl rfl⟩
        · -- false
          have he : ¬ R.e = 0 := by simpa using h92
          have hsame : R.n = N := (hcs.resolve_left (fun h => he h.1)).2
          refine AT.seq ?_
          refine AT.region ?_   -- region 25 law.go:251
          refine TrC.take rfl (step_fieldAddrP rfl rfl fd40_0 rfl rfl) ?_   -- 0
          refine TrC.take rfl (step_loadPN rfl rfl rfl ty30 rfl rfl rfl) ?_   -- 1
          refine TrC.take rfl (step_loadPN rfl rfl rfl ty30 rfl rfl rfl) ?_   -- 2
          refine TrC.take rfl (step_call0 rfl rfl (D15 hw N) rfl) ?_   -- 3
          refine TrC.spell 99 rfl (bv (b := true) (dtrue hsame)) ?_
          refine TrC.take rfl (step_not rfl rfl rfl) ?_   -- 4
          refine TrC.done ?_
          refine AT.condF rfl ?_   -- t100
          refine AT.skip ?_
          refine AT.seq ?_
          refine AT.region ?_   -- region 27 law.go:254
          refine TrC.take rfl (step_fieldAddrP rfl rfl fd40_0 rfl rfl) ?_   -- 0
          refine TrC.take rfl (step_loadPN rfl rfl rfl ty30 rfl rfl rfl) ?_   -- 1
          refine TrC.take rfl (step_storeP rfl rfl rfl rfl rfl (.inl rfl) ty30 rfl rfl rfl) ?_   -- 2
          refine TrC.done ?_
          refine AT.seq ?_
          refine AT.region ?_   -- region 28 law.go:255
          refine TrC.take rfl (step_fieldAddrP rfl rfl fd30_0 rfl rfl) ?_   -- 0
          refine TrC.take rfl (step_loadP1 rfl rfl rfl ty27 rfl rfl) ?_   -- 1
          refine TrC.take rfl (step_lenT (rt := 0) rfl rfl sl27 rfl) ?_   -- 2
          refine TrC.take rfl (step_move rfl rfl rfl) ?_   -- 3
          refine TrC.take rfl (step_bin rfl rfl rfl rfl rfl) ?_   -- 4
          refine TrC.spell 107 rfl (bv (b := false) (by first | (simp [hlen]; done) | (simp [hsame]; done))) ?_
          refine TrC.done ?_
          refine AT.condF rfl ?_   -- t107
          refine AT.skip ?_
          refine AT.region ?_   -- region 5 law.go:229
          refine TrC.take rfl (step_move rfl rfl rfl) ?_   -- 0
          refine TrC.take rfl (step_addI rfl rfl rfl (by first | omega | (simp; done) | (simp; omega)) (by first | omega | (simp; done) | (simp; omega)) rfl) ?_   -- 1
          refine TrC.take rfl (step_assign rfl rfl rfl) ?_   -- 2
          refine TrC.done ?_
          exact ⟨(i + 1, R.n), ⟨by show i + 1 ≤ l.length; omega, by show i + 1 ≤ 30; omega, hw⟩, by show 30 - (i + 1) < 30 - i; omega, Sat.wk [] (.cons (.t (.refl _)) (.cons (.t (.refl _)) (.cons (.p rfl) (.cons (.t (conv_i (by first | exact hlen.symm | rw [hsame]))) (.cons (.t (conv_i (by simp))) (.nil)))))) (.cons rfl (.box (.cons (.t (.refl _)) (.cons (.t (.refl _)) (.cons (.t (.refl _)) (.nil))))) (.nil)) rfl rfl⟩
      · -- false
        refine AT.spell 55 rfl (congrArg (fun b => T.v (.bool b)) h55) ?_
        refine AT.region ?_   -- region 12 law.go:234
        refine TrC.take rfl (step_bin rfl rfl rfl rfl rfl) ?_   -- 0
        refine TrC.take rfl (step_assign rfl rfl rfl) ?_   -- 1
        refine TrC.done ?_
        refine AT.cond rfl (fun h55 => ?_) (fun h55 => ?_)   -- t55
        · -- true
          refine AT.spell 55 rfl (congrArg (fun b => T.v (.bool b)) h55) ?_
          refine AT.seq ?_
          refine AT.region ?_   -- region 13 law.go:235
          refine TrC.take rfl (step_loadPN rfl rfl rfl ty30 rfl rfl rfl) ?_   -- 0
          refine TrC.take rfl (step_indexAddrP rfl rfl rfl ar32 (by decide) (by decide) rfl) ?_   -- 1
          refine TrC.take rfl (step_loadP1 rfl rfl rfl ty3 rfl rfl) ?_   -- 2
          refine TrC.take rfl (step_indexAddrP rfl rfl rfl ar32 (by decide) (by decide) rfl) ?_   -- 3
          refine TrC.take rfl (step_loadP1 rfl rfl rfl ty3 rfl rfl) ?_   -- 4
          refine TrC.take rfl (step_call0 rfl rfl ((D13 hv (x1 % 5) (x2 % 5)).eq (es hZ.symm)) rfl) ?_   -- 5
          refine TrC.take rfl (step_allocC rfl rfl ze35 zc35 rfl rfl rfl) ?_   -- 6
          refine TrC.take rfl (step_storeP rfl rfl rfl rfl rfl (.inl rfl) ty35 rfl rfl rfl) ?_   -- 7
          refine TrC.done ?_
          refine AT.region ?_   -- region 14 law.go:236
          refine TrC.take rfl (step_fieldAddrP rfl rfl fd35_0 rfl rfl) ?_   -- 0
          refine TrC.take rfl (step_loadPN rfl rfl rfl ty30 rfl rfl rfl) ?_   -- 1
          refine TrC.take rfl (step_fieldAddrP rfl rfl fd35_2 rfl rfl) ?_   -- 2
          refine TrC.take rfl (step_loadP1 rfl rfl rfl ty33 rfl rfl) ?_   -- 3
          refine TrC.take rfl (step_buildC rfl ze40 zc40 rfl pl40 rfl rfl rfl rfl) ?_   -- 4
          refine TrC.take rfl (step_storeP rfl rfl rfl rfl rfl (.inl rfl) ty40 rfl rfl rfl) ?_   -- 5
          refine TrC.take rfl (step_assign rfl rfl rfl) ?_   -- 6
          refine TrC.done ?_
          show AT _ _ _ _
          refine Exists.elim (show ∃ R : Taken, R = ⟨Z.n, p0, Z.e⟩ from ⟨_, rfl⟩) (fun R hR => ?_)
          refine Exists.elim (show ∃ c : Int, c = 1 from ⟨_, rfl⟩) (fun c hc => ?_)
          have hcn : Cnt N R c := by rw [hR, hc]; exact hZ ▸ cnt_send hv _ _
          have hw := hcn.1
          have hcs := hcn.2
          have hcb : -1 ≤ c ∧ c ≤ 1 := by omega
          refine AT.wk (sl := [(0, .t (.slice 3 (l.map encB))), (3, .t (.b true)), (4, .p 4 0), (5, .t (.i N.fl.length)), (6, .t (.i i)), (10, .p 10 0), (11, .t (.i c))]) (ml := [(4, .box 30 [.t (.slice 3 (N.fl.map encP)), .t (.slice 2 (N.cuts.map encC)), .t (.i N.next)]), (10, .box 40 [.t (.slice 3 (R.n.fl.map encP)), .t (.slice 2 (R.n.cuts.map encC)), .t (.i R.n.next), .t (.i R.p.id), .t (.i R.p.fr), .t (.i R.p.to), .t (.i R.e)])]) [] (.cons (.t (.refl _)) (.cons (.t (.refl _)) (.cons (.p rfl) (.cons (.t (.refl _)) (.cons (.t (.refl _)) (.cons (.p rfl) (.cons (.t (conv_i hc.symm)) (.nil)))))))) (.cons rfl (.box (.cons (.t (.refl _)) (.cons (.t (.refl _)) (.cons (.t (.refl _)) (.nil))))) (.cons rfl (.box (.cons (.t (conv_eq (by subst hR; rfl))) (.cons (.t (conv_eq (by subst hR; rfl))) (.cons (.t (conv_eq (by subst hR; rfl))) (.cons (.t (conv_eq (by subst hR; rfl))) (.cons (.t (conv_eq (by subst hR; rfl))) (.cons (.t (conv_eq (by subst hR; rfl))) (.cons (.t (conv_eq (by subst hR; rfl))) (.nil))))))))) (.nil))) rfl rfl ?_
          refine AT.seq ?_
          refine AT.seq ?_
          refine AT.region ?_   -- region 21 law.go:246
          refine TrC.take rfl (step_fieldAddrP rfl rfl fd40_0 rfl rfl) ?_   -- 0
          refine TrC.take rfl (step_loadPN rfl rfl rfl ty30 rfl rfl rfl) ?_   -- 1
          refine TrC.take rfl (step_call0 rfl rfl (D27 hw) rfl) ?_   -- 2
          refine TrC.spell 88 rfl (bv (b := true) (rfl)) ?_
          refine TrC.take rfl (step_not rfl rfl rfl) ?_   -- 3
          refine TrC.done ?_
          refine AT.condF rfl ?_   -- t89
          refine AT.skip ?_
          refine AT.seq ?_
          refine AT.seq ?_
          refine AT.region ?_   -- region 23 law.go:249
          refine TrC.take rfl (step_fieldAddrP rfl rfl fd40_2 rfl rfl) ?_   -- 0
          refine TrC.take rfl (step_loadP1 rfl rfl rfl ty33 rfl rfl) ?_   -- 1
          refine TrC.take rfl (step_bin rfl rfl rfl rfl rfl) ?_   -- 2
          refine TrC.done ?_
          refine AT.cond rfl (fun h92 => ?_) (fun h92 => ?_)   -- t92
          · -- true
            have he : R.e = 0 := by simpa using h92
            have hlen : (R.n.fl.length : Int) = N.fl.length + c := (hcs.resolve_right (fun h => h.1 he)).2
            refine AT.region ?_   -- region 24 law.go:250
            refine TrC.take rfl (step_move rfl rfl rfl) ?_   -- 0
            refine TrC.take rfl (step_move rfl rfl rfl) ?_   -- 1
            refine TrC.take rfl (step_addI rfl rfl rfl (by first | omega | (simp; done) | (simp; omega)) (by first | omega | (simp; done) | (simp; omega)) rfl) ?_   -- 2
            refine TrC.take rfl (step_assign rfl rfl rfl) ?_   -- 3
            refine TrC.done ?_
            refine AT.seq ?_
            refine AT.region ?_   -- region 27 law.go:254
            refine TrC.take rfl (step_fieldAddrP rfl rfl fd40_0 rfl rfl) ?_   -- 0
            refine TrC.take rfl (step_loadPN rfl rfl rfl ty30 rfl rfl rfl) ?_   -- 1
            refine TrC.take rfl (step_storeP rfl rfl rfl rfl rfl (.inl rfl) ty30 rfl rfl rfl) ?_   -- 2
            refine TrC.done ?_
            refine AT.seq ?_
            refine AT.region ?_   -- region 28 law.go:255
            refine TrC.take rfl (step_fieldAddrP rfl rfl fd30_0 rfl rfl) ?_   -- 0
            refine TrC.take rfl (step_loadP1 rfl rfl rfl ty27 rfl rfl) ?_   -- 1
            refine TrC.take rfl (step_lenT (rt := 0) rfl rfl sl27 rfl) ?_   -- 2
            refine TrC.take rfl (step_move rfl rfl rfl) ?_   -- 3
            refine TrC.take rfl (step_bin rfl rfl rfl rfl rfl) ?_   -- 4
            refine TrC.spell 107 rfl (bv (b := false) (by first | (simp [hlen]; done) | (simp [hsame]; done))) ?_
            refine TrC.done ?_
            refine AT.condF rfl ?_   -- t107
            refine AT.skip ?_
            refine AT.region ?_   -- region 5 law.go:229
            refine TrC.take rfl (step_move rfl rfl rfl) ?_   -- 0
            refine TrC.take rfl (step_addI rfl rfl rfl (by first | omega | (simp; done) | (simp; omega)) (by first | omega | (simp; done) | (simp; omega)) rfl) ?_   -- 1
            refine TrC.take rfl (step_assign rfl rfl rfl) ?_   -- 2
            refine TrC.done ?_
            exact ⟨(i + 1, R.n), ⟨by show i + 1 ≤ l.length; omega, by show i + 1 ≤ 30; omega, hw⟩, by show 30 - (i + 1) < 30 - i; omega, Sat.wk [] (.cons (.t (.refl _)) (.cons (.t (.refl _)) (.cons (.p rfl) (.cons (.t (conv_i (by first | exact hlen.symm | rw [hsame]))) (.cons (.t (conv_i (by simp))) (.nil)))))) (.cons rfl (.box (.cons (.t (.refl _)) (.cons (.t (.refl _)) (.cons (.t (.refl _)) (.nil))))) (.nil)) rfl rfl⟩
          · -- false
            have he : ¬ R.e = 0 := by simpa using h92
            have hsame : R.n = N := (hcs.resolve_left (fun h => he h.1)).2
            refine AT.seq ?_
            refine AT.region ?_   -- region 25 law.go:251
            refine TrC.take rfl (step_fieldAddrP rfl rfl fd40_0 rfl rfl) ?_   -- 0
            refine TrC.take rfl (step_loadPN rfl rfl rfl ty30 rfl rfl rfl) ?_   -- 1
            refine TrC.take rfl (step_loadPN rfl rfl rfl ty30 rfl rfl rfl) ?_   -- 2
            refine TrC.take rfl (step_call0 rfl rfl (D15 hw N) rfl) ?_   -- 3
            refine TrC.spell 99 rfl (bv (b := true) (dtrue hsame)) ?_
            refine TrC.take rfl (step_not rfl rfl rfl) ?_   -- 4
            refine TrC.done ?_
            refine AT.condF rfl ?_   -- t100
            refine AT.skip ?_
            refine AT.seq ?_
            refine AT.region ?_   -- region 27 law.go:254
            refine TrC.take rfl (step_fieldAddrP rfl rfl fd40_0 rfl rfl) ?_   -- 0
            refine TrC.take rfl (step_loadPN rfl rfl rfl ty30 rfl rfl rfl) ?_   -- 1
            refine TrC.take rfl (step_storeP rfl rfl rfl rfl rfl (.inl rfl) ty30 rfl rfl rfl) ?_   -- 2
            refine TrC.done ?_
            refine AT.seq ?_
            refine AT.region ?_   -- region 28 law.go:255
            refine TrC.take rfl (step_fieldAddrP rfl rfl fd30_0 rfl rfl) ?_   -- 0
            refine TrC.take rfl (step_loadP1 rfl rfl rfl ty27 rfl rfl) ?_   -- 1
            refine TrC.take rfl (step_lenT (rt := 0) rfl rfl sl27 rfl) ?_   -- 2
            refine TrC.take rfl (step_move rfl rfl rfl) ?_   -- 3
            refine TrC.take rfl (step_bin rfl rfl rfl rfl rfl) ?_   -- 4
            refine TrC.spell 107 rfl (bv (b := false) (by first | (simp [hlen]; done) | (simp [hsame]; done))) ?_
            refine TrC.done ?_
            refine AT.condF rfl ?_   -- t107
            refine AT.skip ?_
            refine AT.region ?_   -- region 5 law.go:229
            refine TrC.take rfl (step_move rfl rfl rfl) ?_   -- 0
            refine TrC.take rfl (step_addI rfl rfl rfl (by first | omega | (simp; done) | (simp; omega)) (by first | omega | (simp; done) | (simp; omega)) rfl) ?_   -- 1
            refine TrC.take rfl (step_assign rfl rfl rfl) ?_   -- 2
            refine TrC.done ?_
            exact ⟨(i + 1, R.n), ⟨by show i + 1 ≤ l.length; omega, by show i + 1 ≤ 30; omega, hw⟩, by show 30 - (i + 1) < 30 - i; omega, Sat.wk [] (.cons (.t (.refl _)) (.cons (.t (.refl _)) (.cons (.p rfl) (.cons (.t (conv_i (by first | exact hlen.symm | rw [hsame]))) (.cons (.t (conv_i (by simp))) (.nil)))))) (.cons rfl (.box (.cons (.t (.refl _)) (.cons (.t (.refl _)) (.cons (.t (.refl _)) (.nil))))) (.nil)) rfl rfl⟩
        · -- false
          refine AT.spell 55 rfl (congrArg (fun b => T.v (.bool b)) h55) ?_
          refine AT.seq ?_
          refine AT.region ?_   -- region 15 law.go:237
          refine TrC.take rfl (step_bin rfl rfl rfl rfl rfl) ?_   -- 0
          refine TrC.take rfl (step_assign rfl rfl rfl) ?_   -- 1
          refine TrC.done ?_
          refine AT.cond rfl (fun h69 => ?_) (fun h69 => ?_)   -- t69
          · -- true
            refine AT.region ?_   -- region 16 law.go:238
            refine TrC.take rfl (step_loadPN rfl rfl rfl ty30 rfl rfl rfl) ?_   -- 0
            refine TrC.take rfl (step_move rfl rfl rfl) ?_   -- 1
            refine TrC.take rfl (step_call0 rfl rfl ((D17 hv (x1 % 16)).eq (et hQ.symm)) rfl) ?_   -- 2
            refine TrC.take rfl (step_storeP rfl rfl rfl rfl rfl (.inl rfl) ty40 rfl rfl rfl) ?_   -- 3
            refine TrC.take rfl (step_assign rfl rfl rfl) ?_   -- 4
            refine TrC.done ?_
            show AT _ _ _ _
            refine Exists.elim (show ∃ R : Taken, R = Q from ⟨_, rfl⟩) (fun R hR => ?_)
            refine Exists.elim (show ∃ c : Int, c = -1 from ⟨_, rfl⟩) (fun c hc => ?_)
            have hcn : Cnt N R c := by rw [hR, hc]; exact hQ ▸ cnt_take hv _
            have hw := hcn.1
            have hcs := hcn.2
            have hcb : -1 ≤ c ∧ c ≤ 1 := by omega
            refine AT.wk (sl := [(0, .t (.slice 3 (l.map encB))), (3, .t (.b true)), (4, .p 4 0), (5, .t (.i N.fl.length)), (6, .t (.i i)), (10, .p 10 0), (11, .t (.i c))]) (ml := [(4, .box 30 [.t (.slice 3 (N.fl.map encP)), .t (.slice 2 (N.cuts.map encC)), .t (.i N.next)]), (10, .box 40 [.t (.slice 3 (R.n.fl.map encP)), .t (.slice 2 (R.n.cuts.map encC)), .t (.i R.n.next), .t (.i R.p.id), .t (.i R.p.fr), .t (.i R.p.to), .t (.i R.e)])]) [] (.cons (.t (.refl _)) (.cons (.t (.refl _)) (.cons (.p rfl) (.cons (.t (.refl _)) (.cons (.t (.refl _)) (.cons (.p rfl) (.cons (.t (conv_i hc.symm)) (.nil)))))))) (.cons rfl (.box (.cons (.t (.refl _)) (.cons (.t (.refl _)) (.cons (.t (.refl _)) (.nil))))) (.cons rfl (.box (.cons (.t (conv_eq (by subst hR; rfl))) (.cons (.t (conv_eq (by subst hR; rfl))) (.cons (.t (conv_eq (by subst hR; rfl))) (.cons (.t (conv_eq (by subst hR; rfl))) (.cons (.t (conv_eq (by subst hR; rfl))) (.cons (.t (conv_eq (by subst hR; rfl))) (.cons (.t (conv_eq (by subst hR; rfl))) (.nil))))))))) (.nil))) rfl rfl ?_
            refine AT.seq ?_
            refine AT.seq ?_
            refine AT.region ?_   -- region 21 law.go:246
            refine TrC.take rfl (step_fieldAddrP rfl rfl fd40_0 rfl rfl) ?_   -- 0
            refine TrC.take rfl (step_loadPN rfl rfl rfl ty30 rfl rfl rfl) ?_   -- 1
            refine TrC.take rfl (step_call0 rfl rfl (D27 hw) rfl) ?_   -- 2
            refine TrC.spell 88 rfl (bv (b := true) (rfl)) ?_
            refine TrC.take rfl (step_not rfl rfl rfl) ?_   -- 3
            refine TrC.done ?_
            refine AT.condF rfl ?_   -- t89
            refine AT.skip ?_
            refine AT.seq ?_
            refine AT.seq ?_
            refine AT.region ?_   -- region 23 law.go:249
            refine TrC.take rfl (step_fieldAddrP rfl rfl fd40_2 rfl rfl) ?_   -- 0
            refine TrC.take rfl (step_loadP1 rfl rfl rfl ty33 rfl rfl) ?_   -- 1
            refine TrC.take rfl (step_bin rfl rfl rfl rfl rfl) ?_   -- 2
            refine TrC.done ?_
            refine AT.cond rfl (fun h92 => ?_) (fun h92 => ?_)   -- t92
            · -- true
              have he : R.e = 0 := by simpa using h92
              have hlen : (R.n.fl.length : Int) = N.fl.length + c := (hcs.resolve_right (fun h => h.1 he)).2
              refine AT.region ?_   -- region 24 law.go:250
              refine TrC.take rfl (step_move rfl rfl rfl) ?_   -- 0
              refine TrC.take rfl (step_move rfl rfl rfl) ?_   -- 1
              refine TrC.take rfl (step_addI rfl rfl rfl (by first | omega | (simp; done) | (simp; omega)) (by first | omega | (simp; done) | (simp; omega)) rfl) ?_   -- 2
              refine TrC.take rfl (step_assign rfl rfl rfl) ?_   -- 3
              refine TrC.done ?_
              refine AT.seq ?_
              refine AT.region ?_   -- region 27 law.go:254
              refine TrC.take rfl (step_fieldAddrP rfl rfl fd40_0 rfl rfl) ?_   -- 0
              refine TrC.take rfl (step_loadPN rfl rfl rfl ty30 rfl rfl rfl) ?_   -- 1
              refine TrC.take rfl (step_storeP rfl rfl rfl rfl rfl (.inl rfl) ty30 rfl rfl rfl) ?_   -- 2
              refine TrC.done ?_
              refine AT.seq ?_
              refine AT.region ?_   -- region 28 law.go:255
              refine TrC.take rfl (step_fieldAddrP rfl rfl fd30_0 rfl rfl) ?_   -- 0
              refine TrC.take rfl (step_loadP1 rfl rfl rfl ty27 rfl rfl) ?_   -- 1
              refine TrC.take rfl (step_lenT (rt := 0) rfl rfl sl27 rfl) ?_   -- 2
              refine TrC.take rfl (step_move rfl rfl rfl) ?_   -- 3
              refine TrC.take rfl (step_bin rfl rfl rfl rfl rfl) ?_   -- 4
              refine TrC.spell 107 rfl (bv (b := false) (by first | (simp [hlen]; done) | (simp [hsame]; done))) ?_
              refine TrC.done ?_
              refine AT.condF rfl ?_   -- t107
              refine AT.skip ?_
              refine AT.region ?_   -- region 5 law.go:229
              refine TrC.take rfl (step_move rfl rfl rfl) ?_   -- 0
              refine TrC.take rfl (step_addI rfl rfl rfl (by first | omega | (simp; done) | (simp; omega)) (by first | omega | (simp; done) | (simp; omega)) rfl) ?_   -- 1
              refine TrC.take rfl (step_assign rfl rfl rfl) ?_   -- 2
              refine TrC.done ?_
              exact ⟨(i + 1, R.n), ⟨by show i + 1 ≤ l.length; omega, by show i + 1 ≤ 30; omega, hw⟩, by show 30 - (i + 1) < 30 - i; omega, Sat.wk [] (.cons (.t (.refl _)) (.cons (.t (.refl _)) (.cons (.p rfl) (.cons (.t (conv_i (by first | exact hlen.symm | rw [hsame]))) (.cons (.t (conv_i (by simp))) (.nil)))))) (.cons rfl (.box (.cons (.t (.refl _)) (.cons (.t (.refl _)) (.cons (.t (.refl _)) (.nil))))) (.nil)) rfl rfl⟩
            · -- false
              have he : ¬ R.e = 0 := by simpa using h92
              have hsame : R.n = N := (hcs.resolve_left (fun h => he h.1)).2
              refine AT.seq ?_
              refine AT.region ?_   -- region 25 law.go:251
              refine TrC.take rfl (step_fieldAddrP rfl rfl fd40_0 rfl rfl) ?_   -- 0
              refine TrC.take rfl (step_loadPN rfl rfl rfl ty30 rfl rfl rfl) ?_   -- 1
              refine TrC.take rfl (step_loadPN rfl rfl rfl ty30 rfl rfl rfl) ?_   -- 2
              refine TrC.take rfl (step_call0 rfl rfl (D15 hw N) rfl) ?_   -- 3
              refine TrC.spell 99 rfl (bv (b := true) (dtrue hsame)) ?_
              refine TrC.take rfl (step_not rfl rfl rfl) ?_   -- 4
              refine TrC.done ?_
              refine AT.condF rfl ?_   -- t100
              refine AT.skip ?_
              refine AT.seq ?_
              refine AT.region ?_   -- region 27 law.go:254
              refine TrC.take rfl (step_fieldAddrP rfl rfl fd40_0 rfl rfl) ?_   -- 0
              refine TrC.take rfl (step_loadPN rfl rfl rfl ty30 rfl rfl rfl) ?_   -- 1
              refine TrC.take rfl (step_storeP rfl rfl rfl rfl rfl (.inl rfl) ty30 rfl rfl rfl) ?_   -- 2
              refine TrC.done ?_
              refine AT.seq ?_
              refine AT.region ?_   -- region 28 law.go:255
              refine TrC.take rfl (step_fieldAddrP rfl rfl fd30_0 rfl rfl) ?_   -- 0
              refine TrC.take rfl (step_loadP1 rfl rfl rfl ty27 rfl rfl) ?_   -- 1
              refine TrC.take rfl (step_lenT (rt := 0) rfl rfl sl27 rfl) ?_   -- 2
              refine TrC.take rfl (step_move rfl rfl rfl) ?_   -- 3
              refine TrC.take rfl (step_bin rfl rfl rfl rfl rfl) ?_   -- 4
              refine TrC.spell 107 rfl (bv (b := false) (by first | (simp [hlen]; done) | (simp [hsame]; done))) ?_
              refine TrC.done ?_
              refine AT.condF rfl ?_   -- t107
              refine AT.skip ?_
              refine AT.region ?_   -- region 5 law.go:229
              refine TrC.take rfl (step_move rfl rfl rfl) ?_   -- 0
              refine TrC.take rfl (step_addI rfl rfl rfl (by first | omega | (simp; done) | (simp; omega)) (by first | omega | (simp; done) | (simp; omega)) rfl) ?_   -- 1
              refine TrC.take rfl (step_assign rfl rfl rfl) ?_   -- 2
              refine TrC.done ?_
              exact ⟨(i + 1, R.n), ⟨by show i + 1 ≤ l.length; omega, by show i + 1 ≤ 30; omega, hw⟩, by show 30 - (i + 1) < 30 - i; omega, Sat.wk [] (.cons (.t (.refl _)) (.cons (.t (.refl _)) (.cons (.p rfl) (.cons (.t (conv_i (by first | exact hlen.symm | rw [hsame]))) (.cons (.t (conv_i (by simp))) (.nil)))))) (.cons rfl (.box (.cons (.t (.refl _)) (.cons (.t (.refl _)) (.cons (.t (.refl _)) (.nil))))) (.nil)) rfl rfl⟩
          · -- false
            refine AT.seq ?_
            refine AT.region ?_   -- region 17 law.go:239
            refine TrC.take rfl (step_bin rfl rfl rfl rfl rfl) ?_   -- 0
            refine TrC.take rfl (step_assign rfl rfl rfl) ?_   -- 1
            refine TrC.done ?_
            refine AT.cond rfl (fun h74 => ?_) (fun h74 => ?_)   -- t74
            · -- true
              refine AT.region ?_   -- region 18 law.go:240
              refine TrC.take rfl (step_loadPN rfl rfl rfl ty30 rfl rfl rfl) ?_   -- 0
              refine TrC.take rfl (step_move rfl rfl rfl) ?_   -- 1
              refine TrC.take rfl (step_buildA rfl ze32 rfl ar32 rfl rfl rfl rfl) ?_   -- 2
              refine TrC.take rfl (step_call0 rfl rfl ((D21 hv (x1 % 16) 0 0).eq (et ((dn0 _ _ _).trans hU.symm))) rfl) ?_   -- 3
              refine TrC.take rfl (step_storeP rfl rfl rfl rfl rfl (.inl rfl) ty40 rfl rfl rfl) ?_   -- 4
              refine TrC.take rfl (step_assign rfl rfl rfl) ?_   -- 5
              refine TrC.done ?_
              show AT _ _ _ _
              refine Exists.elim (show ∃ R : Taken, R = U from ⟨_, rfl⟩) (fun R hR => ?_)
              refine Exists.elim (show ∃ c : Int, c = -1 from ⟨_, rfl⟩) (fun c hc => ?_)
              have hcn : Cnt N R c := by rw [hR, hc]; exact hU ▸ cnt_lose hv _
              have hw := hcn.1
              have hcs := hcn.2
              have hcb : -1 ≤ c ∧ c ≤ 1 := by omega
              refine AT.wk (sl := [(0, .t (.slice 3 (l.map encB))), (3, .t (.b true)), (4, .p 4 0), (5, .t (.i N.fl.length)), (6, .t (.i i)), (10, .p 10 0), (11, .t (.i c))]) (ml := [(4, .box 30 [.t (.slice 3 (N.fl.map encP)), .t (.slice 2 (N.cuts.map encC)), .t (.i N.next)]), (10, .box 40 [.t (.slice 3 (R.n.fl.map encP)), .t (.slice 2 (R.n.cuts.map encC)), .t (.i R.n.next), .t (.i R.p.id), .t (.i R.p.fr), .t (.i R.p.to), .t (.i R.e)])]) [] (.cons (.t (.refl _)) (.cons (.t (.refl _)) (.cons (.p rfl) (.cons (.t (.refl _)) (.cons (.t (.refl _)) (.cons (.p rfl) (.cons (.t (conv_i hc.symm)) (.nil)))))))) (.cons rfl (.box (.cons (.t (.refl _)) (.cons (.t (.refl _)) (.cons (.t (.refl _)) (.nil))))) (.cons rfl (.box (.cons (.t (conv_eq (by subst hR; rfl))) (.cons (.t (conv_eq (by subst hR; rfl))) (.cons (.t (conv_eq (by subst hR; rfl))) (.cons (.t (conv_eq (by subst hR; rfl))) (.cons (.t (conv_eq (by subst hR; rfl))) (.cons (.t (conv_eq (by subst hR; rfl))) (.cons (.t (conv_eq (by subst hR; rfl))) (.nil))))))))) (.nil))) rfl rfl ?_
              refine AT.seq ?_
              refine AT.seq ?_
              refine AT.region ?_   -- region 21 law.go:246
              refine TrC.take rfl (step_fieldAddrP rfl rfl fd40_0 rfl rfl) ?_   -- 0
              refine TrC.take rfl (step_loadPN rfl rfl rfl ty30 rfl rfl rfl) ?_   -- 1
              refine TrC.take rfl (step_call0 rfl rfl (D27 hw) rfl) ?_   -- 2
              refine TrC.spell 88 rfl (bv (b := true) (rfl)) ?_
              refine TrC.take rfl (step_not rfl rfl rfl) ?_   -- 3
              refine TrC.done ?_
              refine AT.condF rfl ?_   -- t89
              refine AT.skip ?_
              refine AT.seq ?_
              refine AT.seq ?_
              refine AT.region ?_   -- region 23 law.go:249
              refine TrC.take rfl (step_fieldAddrP rfl rfl fd40_2 rfl rfl) ?_   -- 0
              refine TrC.take rfl (step_loadP1 rfl rfl rfl ty33 rfl rfl) ?_   -- 1
              refine TrC.take rfl (step_bin rfl rfl rfl rfl rfl) ?_   -- 2
              refine TrC.done ?_
              refine AT.cond rfl (fun h92 => ?_) (fun h92 => ?_)   -- t92
              · -- true
                have he : R.e = 0 := by simpa using h92
                have hlen : (R.n.fl.length : Int) = N.fl.length + c := (hcs.resolve_right (fun h => h.1 he)).2
                refine AT.region ?_   -- region 24 law.go:250
                refine TrC.take rfl (step_move rfl rfl rfl) ?_   -- 0
                refine TrC.take rfl (step_move rfl rfl rfl) ?_   -- 1
                refine TrC.take rfl (step_addI rfl rfl rfl (by first | omega | (simp; done) | (simp; omega)) (by first | omega | (simp; done) | (simp; omega)) rfl) ?_   -- 2
                refine TrC.take rfl (step_assign rfl rfl rfl) ?_   -- 3
                refine TrC.done ?_
                refine AT.seq ?_
                refine AT.region ?_   -- region 27 law.go:254
                refine TrC.take rfl (step_fieldAddrP rfl rfl fd40_0 rfl rfl) ?_   -- 0
                refine TrC.take rfl (step_loadPN rfl rfl rfl ty30 rfl rfl rfl) ?_   -- 1
                refine TrC.take rfl (step_storeP rfl rfl rfl rfl rfl (.inl rfl) ty30 rfl rfl rfl) ?_   -- 2
                refine TrC.done ?_
                refine AT.seq ?_
                refine AT.region ?_   -- region 28 law.go:255
                refine TrC.take rfl (step_fieldAddrP rfl rfl fd30_0 rfl rfl) ?_   -- 0
                refine TrC.take rfl (step_loadP1 rfl rfl rfl ty27 rfl rfl) ?_   -- 1
                refine TrC.take rfl (step_lenT (rt := 0) rfl rfl sl27 rfl) ?_   -- 2
                refine TrC.take rfl (step_move rfl rfl rfl) ?_   -- 3
                refine TrC.take rfl (step_bin rfl rfl rfl rfl rfl) ?_   -- 4
                refine TrC.spell 107 rfl (bv (b := false) (by first | (simp [hlen]; done) | (simp [hsame]; done))) ?_
                refine TrC.done ?_
                refine AT.condF rfl ?_   -- t107
                refine AT.skip ?_
                refine AT.region ?_   -- region 5 law.go:229
                refine TrC.take rfl (step_move rfl rfl rfl) ?_   -- 0
                refine TrC.take rfl (step_addI rfl rfl rfl (by first | omega | (simp; done) | (simp; omega)) (by first | omega | (simp; done) | (simp; omega)) rfl) ?_   -- 1
                refine TrC.take rfl (step_assign rfl rfl rfl) ?_   -- 2
                refine TrC.done ?_
                exact ⟨(i + 1, R.n), ⟨by show i + 1 ≤ l.length; omega, by show i + 1 ≤ 30; omega, hw⟩, by show 30 - (i + 1) < 30 - i; omega, Sat.wk [] (.cons (.t (.refl _)) (.cons (.t (.refl _)) (.cons (.p rfl) (.cons (.t (conv_i (by first | exact hlen.symm | rw [hsame]))) (.cons (.t (conv_i (by simp))) (.nil)))))) (.cons rfl (.box (.cons (.t (.refl _)) (.cons (.t (.refl _)) (.cons (.t (.refl _)) (.nil))))) (.nil)) rfl rfl⟩
              · -- false
                have he : ¬ R.e = 0 := by simpa using h92
                have hsame : R.n = N := (hcs.resolve_left (fun h => he h.1)).2
                refine AT.seq ?_
                refine AT.region ?_   -- region 25 law.go:251
                refine TrC.take rfl (step_fieldAddrP rfl rfl fd40_0 rfl rfl) ?_   -- 0
                refine TrC.take rfl (step_loadPN rfl rfl rfl ty30 rfl rfl rfl) ?_   -- 1
                refine TrC.take rfl (step_loadPN rfl rfl rfl ty30 rfl rfl rfl) ?_   -- 2
                refine TrC.take rfl (step_call0 rfl rfl (D15 hw N) rfl) ?_   -- 3
                refine TrC.spell 99 rfl (bv (b := true) (dtrue hsame)) ?_
                refine TrC.take rfl (step_not rfl rfl rfl) ?_   -- 4
                refine TrC.done ?_
                refine AT.condF rfl ?_   -- t100
                refine AT.skip ?_
                refine AT.seq ?_
                refine AT.region ?_   -- region 27 law.go:254
                refine TrC.take rfl (step_fieldAddrP rfl rfl fd40_0 rfl rfl) ?_   -- 0
                refine TrC.take rfl (step_loadPN rfl rfl rfl ty30 rfl rfl rfl) ?_   -- 1
                refine TrC.take rfl (step_storeP rfl rfl rfl rfl rfl (.inl rfl) ty30 rfl rfl rfl) ?_   -- 2
                refine TrC.done ?_
                refine AT.seq ?_
                refine AT.region ?_   -- region 28 law.go:255
                refine TrC.take rfl (step_fieldAddrP rfl rfl fd30_0 rfl rfl) ?_   -- 0
                refine TrC.take rfl (step_loadP1 rfl rfl rfl ty27 rfl rfl) ?_   -- 1
                refine TrC.take rfl (step_lenT (rt := 0) rfl rfl sl27 rfl) ?_   -- 2
                refine TrC.take rfl (step_move rfl rfl rfl) ?_   -- 3
                refine TrC.take rfl (step_bin rfl rfl rfl rfl rfl) ?_   -- 4
                refine TrC.spell 107 rfl (bv (b := false) (by first | (simp [hlen]; done) | (simp [hsame]; done))) ?_
                refine TrC.done ?_
                refine AT.condF rfl ?_   -- t107
                refine AT.skip ?_
                refine AT.region ?_   -- region 5 law.go:229
                refine TrC.take rfl (step_move rfl rfl rfl) ?_   -- 0
                refine TrC.take rfl (step_addI rfl rfl rfl (by first | omega | (simp; done) | (simp; omega)) (by first | omega | (simp; done) | (simp; omega)) rfl) ?_   -- 1
                refine TrC.take rfl (step_assign rfl rfl rfl) ?_   -- 2
                refine TrC.done ?_
                exact ⟨(i + 1, R.n), ⟨by show i + 1 ≤ l.length; omega, by show i + 1 ≤ 30; omega, hw⟩, by show 30 - (i + 1) < 30 - i; omega, Sat.wk [] (.cons (.t (.refl _)) (.cons (.t (.refl _)) (.cons (.p rfl) (.cons (.t (conv_i (by first | exact hlen.symm | rw [hsame]))) (.cons (.t (conv_i (by simp))) (.nil)))))) (.cons rfl (.box (.cons (.t (.refl _)) (.cons (.t (.refl _)) (.cons (.t (.refl _)) (.nil))))) (.nil)) rfl rfl⟩
            · -- false
              refine AT.seq ?_
              refine AT.region ?_   -- region 19 law.go:241
              refine TrC.take rfl (step_bin rfl rfl rfl rfl rfl) ?_   -- 0
              refine TrC.take rfl (step_assign rfl rfl rfl) ?_   -- 1
              refine TrC.done ?_
              refine AT.cond rfl (fun h80 => ?_) (fun h80 => ?_)   -- t80
              · -- true
                refine AT.region ?_   -- region 20 law.go:242
                refine TrC.take rfl (step_loadPN rfl rfl rfl ty30 rfl rfl rfl) ?_   -- 0
                refine TrC.take rfl (step_move rfl rfl rfl) ?_   -- 1
                refine TrC.take rfl (step_buildA rfl ze32 rfl ar32 rfl rfl rfl rfl) ?_   -- 2
                refine TrC.take rfl (step_call0 rfl rfl ((D21 hv (x1 % 16) 0 1).eq (et ((dn1 _ _ _).trans hV.symm))) rfl) ?_   -- 3
                refine TrC.take rfl (step_storeP rfl rfl rfl rfl rfl (.inl rfl) ty40 rfl rfl rfl) ?_   -- 4
                refine TrC.take rfl (step_assign rfl rfl rfl) ?_   -- 5
                refine TrC.done ?_
                show AT _ _ _ _
                refine Exists.elim (show ∃ R : Taken, R = V from ⟨_, rfl⟩) (fun R hR => ?_)
                refine Exists.elim (show ∃ c : Int, c = 1 from ⟨_, rfl⟩) (fun c hc => ?_)
                have hcn : Cnt N R c := by rw [hR, hc]; exact hV ▸ cnt_double hv _
                have hw := hcn.1
                have hcs := hcn.2
                have hcb : -1 ≤ c ∧ c ≤ 1 := by omega
                refine AT.wk (sl := [(0, .t (.slice 3 (l.map encB))), (3, .t (.b true)), (4, .p 4 0), (5, .t (.i N.fl.length)), (6, .t (.i i)), (10, .p 10 0), (11, .t (.i c))]) (ml := [(4, .box 30 [.t (.slice 3 (N.fl.map encP)), .t (.slice 2 (N.cuts.map encC)), .t (.i N.next)]), (10, .box 40 [.t (.slice 3 (R.n.fl.map encP)), .t (.slice 2 (R.n.cuts.map encC)), .t (.i R.n.next), .t (.i R.p.id), .t (.i R.p.fr), .t (.i R.p.to), .t (.i R.e)])]) [] (.cons (.t (.refl _)) (.cons (.t (.refl _)) (.cons (.p rfl) (.cons (.t (.refl _)) (.cons (.t (.refl _)) (.cons (.p rfl) (.cons (.t (conv_i hc.symm)) (.nil)))))))) (.cons rfl (.box (.cons (.t (.refl _)) (.cons (.t (.refl _)) (.cons (.t (.refl _)) (.nil))))) (.cons rfl (.box (.cons (.t (conv_eq (by subst hR; rfl))) (.cons (.t (conv_eq (by subst hR; rfl))) (.cons (.t (conv_eq (by subst hR; rfl))) (.cons (.t (conv_eq (by subst hR; rfl))) (.cons (.t (conv_eq (by subst hR; rfl))) (.cons (.t (conv_eq (by subst hR; rfl))) (.cons (.t (conv_eq (by subst hR; rfl))) (.nil))))))))) (.nil))) rfl rfl ?_
                refine AT.seq ?_
                refine AT.seq ?_
                refine AT.region ?_   -- region 21 law.go:246
                refine TrC.take rfl (step_fieldAddrP rfl rfl fd40_0 rfl rfl) ?_   -- 0
                refine TrC.take rfl (step_loadPN rfl rfl rfl ty30 rfl rfl rfl) ?_   -- 1
                refine TrC.take rfl (step_call0 rfl rfl (D27 hw) rfl) ?_   -- 2
                refine TrC.spell 88 rfl (bv (b := true) (rfl)) ?_
                refine TrC.take rfl (step_not rfl rfl rfl) ?_   -- 3
                refine TrC.done ?_
                refine AT.condF rfl ?_   -- t89
                refine AT.skip ?_
                refine AT.seq ?_
                refine AT.seq ?_
                refine AT.region ?_   -- region 23 law.go:249
                refine TrC.take rfl (step_fieldAddrP rfl rfl fd40_2 rfl rfl) ?_   -- 0
                refine TrC.take rfl (step_loadP1 rfl rfl rfl ty33 rfl rfl) ?_   -- 1
                refine TrC.take rfl (step_bin rfl rfl rfl rfl rfl) ?_   -- 2
                refine TrC.done ?_
                refine AT.cond rfl (fun h92 => ?_) (fun h92 => ?_)   -- t92
                · -- true
                  have he : R.e = 0 := by simpa using h92
                  have hlen : (R.n.fl.length : Int) = N.fl.length + c := (hcs.resolve_right (fun h => h.1 he)).2
                  refine AT.region ?_   -- region 24 law.go:250
                  refine TrC.take rfl (step_move rfl rfl rfl) ?_   -- 0
                  refine TrC.take rfl (step_move rfl rfl rfl) ?_   -- 1
                  refine TrC.take rfl (step_addI rfl rfl rfl (by first | omega | (simp; done) | (simp; omega)) (by first | omega | (simp; done) | (simp; omega)) rfl) ?_   -- 2
                  refine TrC.take rfl (step_assign rfl rfl rfl) ?_   -- 3
                  refine TrC.done ?_
                  refine AT.seq ?_
                  refine AT.region ?_   -- region 27 law.go:254
                  refine TrC.take rfl (step_fieldAddrP rfl rfl fd40_0 rfl rfl) ?_   -- 0
                  refine TrC.take rfl (step_loadPN rfl rfl rfl ty30 rfl rfl rfl) ?_   -- 1
                  refine TrC.take rfl (step_storeP rfl rfl rfl rfl rfl (.inl rfl) ty30 rfl rfl rfl) ?_   -- 2
                  refine TrC.done ?_
                  refine AT.seq ?_
                  refine AT.region ?_   -- region 28 law.go:255
                  refine TrC.take rfl (step_fieldAddrP rfl rfl fd30_0 rfl rfl) ?_   -- 0
                  refine TrC.take rfl (step_loadP1 rfl rfl rfl ty27 rfl rfl) ?_   -- 1
                  refine TrC.take rfl (step_lenT (rt := 0) rfl rfl sl27 rfl) ?_   -- 2
                  refine TrC.take rfl (step_move rfl rfl rfl) ?_   -- 3
                  refine TrC.take rfl (step_bin rfl rfl rfl rfl rfl) ?_   -- 4
                  refine TrC.spell 107 rfl (bv (b := false) (by first | (simp [hlen]; done) | (simp [hsame]; done))) ?_
                  refine TrC.done ?_
                  refine AT.condF rfl ?_   -- t107
                  refine AT.skip ?_
                  refine AT.region ?_   -- region 5 law.go:229
                  refine TrC.take rfl (step_move rfl rfl rfl) ?_   -- 0
                  refine TrC.take rfl (step_addI rfl rfl rfl (by first | omega | (simp; done) | (simp; omega)) (by first | omega | (simp; done) | (simp; omega)) rfl) ?_   -- 1
                  refine TrC.take rfl (step_assign rfl rfl rfl) ?_   -- 2
                  refine TrC.done ?_
                  exact ⟨(i + 1, R.n), ⟨by show i + 1 ≤ l.length; omega, by show i + 1 ≤ 30; omega, hw⟩, by show 30 - (i + 1) < 30 - i; omega, Sat.wk [] (.cons (.t (.refl _)) (.cons (.t (.refl _)) (.cons (.p rfl) (.cons (.t (conv_i (by first | exact hlen.symm | rw [hsame]))) (.cons (.t (conv_i (by simp))) (.nil)))))) (.cons rfl (.box (.cons (.t (.refl _)) (.cons (.t (.refl _)) (.cons (.t (.refl _)) (.nil))))) (.nil)) rfl rfl⟩
                · -- false
                  have he : ¬ R.e = 0 := by simpa using h92
                  have hsame : R.n = N := (hcs.resolve_left (fun h => he h.1)).2
                  refine AT.seq ?_
                  refine AT.region ?_   -- region 25 law.go:251
                  refine TrC.take rfl (step_fieldAddrP rfl rfl fd40_0 rfl rfl) ?_   -- 0
                  refine TrC.take rfl (step_loadPN rfl rfl rfl ty30 rfl rfl rfl) ?_   -- 1
                  refine TrC.take rfl (step_loadPN rfl rfl rfl ty30 rfl rfl rfl) ?_   -- 2
                  refine TrC.take rfl (step_call0 rfl rfl (D15 hw N) rfl) ?_   -- 3
                  refine TrC.spell 99 rfl (bv (b := true) (dtrue hsame)) ?_
                  refine TrC.take rfl (step_not rfl rfl rfl) ?_   -- 4
                  refine TrC.done ?_
                  refine AT.condF rfl ?_   -- t100
                  refine AT.skip ?_
                  refine AT.seq ?_
                  refine AT.region ?_   -- region 27 law.go:254
                  refine TrC.take rfl (step_fieldAddrP rfl rfl fd40_0 rfl rfl) ?_   -- 0
                  refine TrC.take rfl (step_loadPN rfl rfl rfl ty30 rfl rfl rfl) ?_   -- 1
                  refine TrC.take rfl (step_storeP rfl rfl rfl rfl rfl (.inl rfl) ty30 rfl rfl rfl) ?_   -- 2
                  refine TrC.done ?_
                  refine AT.seq ?_
                  refine AT.region ?_   -- region 28 law.go:255
                  refine TrC.take rfl (step_fieldAddrP rfl rfl fd30_0 rfl rfl) ?_   -- 0
                  refine TrC.take rfl (step_loadP1 rfl rfl rfl ty27 rfl rfl) ?_   -- 1
                  refine TrC.take rfl (step_lenT (rt := 0) rfl rfl sl27 rfl) ?_   -- 2
                  refine TrC.take rfl (step_move rfl rfl rfl) ?_   -- 3
                  refine TrC.take rfl (step_bin rfl rfl rfl rfl rfl) ?_   -- 4
                  refine TrC.spell 107 rfl (bv (b := false) (by first | (simp [hlen]; done) | (simp [hsame]; done))) ?_
                  refine TrC.done ?_
                  refine AT.condF rfl ?_   -- t107
                  refine AT.skip ?_
                  refine AT.region ?_   -- region 5 law.go:229
                  refine TrC.take rfl (step_move rfl rfl rfl) ?_   -- 0
                  refine TrC.take rfl (step_addI rfl rfl rfl (by first | omega | (simp; done) | (simp; omega)) (by first | omega | (simp; done) | (simp; omega)) rfl) ?_   -- 1
                  refine TrC.take rfl (step_assign rfl rfl rfl) ?_   -- 2
                  refine TrC.done ?_
                  exact ⟨(i + 1, R.n), ⟨by show i + 1 ≤ l.length; omega, by show i + 1 ≤ 30; omega, hw⟩, by show 30 - (i + 1) < 30 - i; omega, Sat.wk [] (.cons (.t (.refl _)) (.cons (.t (.refl _)) (.cons (.p rfl) (.cons (.t (conv_i (by first | exact hlen.symm | rw [hsame]))) (.cons (.t (conv_i (by simp))) (.nil)))))) (.cons rfl (.box (.cons (.t (.refl _)) (.cons (.t (.refl _)) (.cons (.t (.refl _)) (.nil))))) (.nil)) rfl rfl⟩
              · -- false
                refine AT.region ?_   -- region 10 law.go:244
                refine TrC.take rfl (step_loadPN rfl rfl rfl ty30 rfl rfl rfl) ?_   -- 0
                refine TrC.take rfl (step_indexAddrP rfl rfl rfl ar47 (by decide) (by decide) rfl) ?_   -- 1
                refine TrC.take rfl (step_loadP1 rfl rfl rfl ty5 rfl rfl) ?_   -- 2
                first | refine TrC.take rfl (step_remI rfl rfl rfl (by omega) (by first | omega | (simp; done) | (simp; omega)) rfl) ?_ | refine TrC.take rfl (step_bin rfl rfl rfl rfl rfl) ?_   -- 3
                refine TrC.take rfl (step_convI rfl rfl in5 in3 (by omega) (by omega) rfl) ?_   -- 4
                refine TrC.take rfl (step_addI rfl rfl rfl (by first | omega | (simp; done) | (simp; omega)) (by first | omega | (simp; done) | (simp; omega)) rfl) ?_   -- 5
                refine TrC.take rfl (step_loadPN rfl rfl rfl ty32 rfl rfl rfl) ?_   -- 6
                refine TrC.take rfl (step_call0 rfl rfl ((D21 hv (x1 % 5) (x2 % 5) (2 + x2 % 2)).eq (et hW.symm)) rfl) ?_   -- 7
                refine TrC.take rfl (step_storeP rfl rfl rfl rfl rfl (.inl rfl) ty40 rfl rfl rfl) ?_   -- 8
                refine TrC.done ?_
                show AT _ _ _ _
                refine Exists.elim (show ∃ R : Taken, R = W from ⟨_, rfl⟩) (fun R hR => ?_)
                refine Exists.elim (show ∃ c : Int, c = 0 from ⟨_, rfl⟩) (fun c hc => ?_)
                have hcn : Cnt N R c := by rw [hR, hc]; exact hW ▸ cnt_done hv _ _ _ (by omega)
                have hw := hcn.1
                have hcs := hcn.2
                have hcb : -1 ≤ c ∧ c ≤ 1 := by omega
                refine AT.wk (sl := [(0, .t (.slice 3 (l.map encB))), (3, .t (.b true)), (4, .p 4 0), (5, .t (.i N.fl.length)), (6, .t (.i i)), (10, .p 10 0), (11, .t (.i c))]) (ml := [(4, .box 30 [.t (.slice 3 (N.fl.map encP)), .t (.slice 2 (N.cuts.map encC)), .t (.i N.next)]), (10, .box 40 [.t (.slice 3 (R.n.fl.map encP)), .t (.slice 2 (R.n.cuts.map encC)), .t (.i R.n.next), .t (.i R.p.id), .t (.i R.p.fr), .t (.i R.p.to), .t (.i R.e)])]) [] (.cons (.t (.refl _)) (.cons (.t (.refl _)) (.cons (.p rfl) (.cons (.t (.refl _)) (.cons (.t (.refl _)) (.cons (.p rfl) (.cons (.t (conv_i hc.symm)) (.nil)))))))) (.cons rfl (.box (.cons (.t (.refl _)) (.cons (.t (.refl _)) (.cons (.t (.refl _)) (.nil))))) (.cons rfl (.box (.cons (.t (conv_eq (by subst hR; rfl))) (.cons (.t (conv_eq (by subst hR; rfl))) (.cons (.t (conv_eq (by subst hR; rfl))) (.cons (.t (conv_eq (by subst hR; rfl))) (.cons (.t (conv_eq (by subst hR; rfl))) (.cons (.t (conv_eq (by subst hR; rfl))) (.cons (.t (conv_eq (by subst hR; rfl))) (.nil))))))))) (.nil))) rfl rfl ?_
                refine AT.seq ?_
                refine AT.seq ?_
                refine AT.region ?_   -- region 21 law.go:246
                refine TrC.take rfl (step_fieldAddrP rfl rfl fd40_0 rfl rfl) ?_   -- 0
                refine TrC.take rfl (step_loadPN rfl rfl rfl ty30 rfl rfl rfl) ?_   -- 1
                refine TrC.take rfl (step_call0 rfl rfl (D27 hw) rfl) ?_   -- 2
                refine TrC.spell 88 rfl (bv (b := true) (rfl)) ?_
                refine TrC.take rfl (step_not rfl rfl rfl) ?_   -- 3
                refine TrC.done ?_
                refine AT.condF rfl ?_   -- t89
                refine AT.skip ?_
                refine AT.seq ?_
                refine AT.seq ?_
                refine AT.region ?_   -- region 23 law.go:249
                refine TrC.take rfl (step_fieldAddrP rfl rfl fd40_2 rfl rfl) ?_   -- 0
                refine TrC.take rfl (step_loadP1 rfl rfl rfl ty33 rfl rfl) ?_   -- 1
                refine TrC.take rfl (step_bin rfl rfl rfl rfl rfl) ?_   -- 2
                refine TrC.done ?_
                refine AT.cond rfl (fun h92 => ?_) (fun h92 => ?_)   -- t92
                · -- true
                  have he : R.e = 0 := by simpa using h92
                  have hlen : (R.n.fl.length : Int) = N.fl.length + c := (hcs.resolve_right (fun h => h.1 he)).2
                  refine AT.region ?_   -- region 24 law.go:250
                  refine TrC.take rfl (step_move rfl rfl rfl) ?_   -- 0
                  refine TrC.take rfl (step_move rfl rfl rfl) ?_   -- 1
                  refine TrC.take rfl (step_addI rfl rfl rfl (by first | omega | (simp; done) | (simp; omega)) (by first | omega | (simp; done) | (simp; omega)) rfl) ?_   -- 2
                  refine TrC.take rfl (step_assign rfl rfl rfl) ?_   -- 3
                  refine TrC.done ?_
                  refine AT.seq ?_
                  refine AT.region ?_   -- region 27 law.go:254
                  refine TrC.take rfl (step_fieldAddrP rfl rfl fd40_0 rfl rfl) ?_   -- 0
                  refine TrC.take rfl (step_loadPN rfl rfl rfl ty30 rfl rfl rfl) ?_   -- 1
                  refine TrC.take rfl (step_storeP rfl rfl rfl rfl rfl (.inl rfl) ty30 rfl rfl rfl) ?_   -- 2
                  refine TrC.done ?_
                  refine AT.seq ?_
                  refine AT.region ?_   -- region 28 law.go:255
                  refine TrC.take rfl (step_fieldAddrP rfl rfl fd30_0 rfl rfl) ?_   -- 0
                  refine TrC.take rfl (step_loadP1 rfl rfl rfl ty27 rfl rfl) ?_   -- 1
                  refine TrC.take rfl (step_lenT (rt := 0) rfl rfl sl27 rfl) ?_   -- 2
                  refine TrC.take rfl (step_move rfl rfl rfl) ?_   -- 3
                  refine TrC.take rfl (step_bin rfl rfl rfl rfl rfl) ?_   -- 4
                  refine TrC.spell 107 rfl (bv (b := false) (by first | (simp [hlen]; done) | (simp [hsame]; done))) ?_
                  refine TrC.done ?_
                  refine AT.condF rfl ?_   -- t107
                  refine AT.skip ?_
                  refine AT.region ?_   -- region 5 law.go:229
                  refine TrC.take rfl (step_move rfl rfl rfl) ?_   -- 0
                  refine TrC.take rfl (step_addI rfl rfl rfl (by first | omega | (simp; done) | (simp; omega)) (by first | omega | (simp; done) | (simp; omega)) rfl) ?_   -- 1
                  refine TrC.take rfl (step_assign rfl rfl rfl) ?_   -- 2
                  refine TrC.done ?_
                  exact ⟨(i + 1, R.n), ⟨by show i + 1 ≤ l.length; omega, by show i + 1 ≤ 30; omega, hw⟩, by show 30 - (i + 1) < 30 - i; omega, Sat.wk [] (.cons (.t (.refl _)) (.cons (.t (.refl _)) (.cons (.p rfl) (.cons (.t (conv_i (by first | exact hlen.symm | rw [hsame]))) (.cons (.t (conv_i (by simp))) (.nil)))))) (.cons rfl (.box (.cons (.t (.refl _)) (.cons (.t (.refl _)) (.cons (.t (.refl _)) (.nil))))) (.nil)) rfl rfl⟩
                · -- false
                  have he : ¬ R.e = 0 := by simpa using h92
                  have hsame : R.n = N := (hcs.resolve_left (fun h => he h.1)).2
                  refine AT.seq ?_
                  refine AT.region ?_   -- region 25 law.go:251
                  refine TrC.take rfl (step_fieldAddrP rfl rfl fd40_0 rfl rfl) ?_   -- 0
                  refine TrC.take rfl (step_loadPN rfl rfl rfl ty30 rfl rfl rfl) ?_   -- 1
                  refine TrC.take rfl (step_loadPN rfl rfl rfl ty30 rfl rfl rfl) ?_   -- 2
                  refine TrC.take rfl (step_call0 rfl rfl (D15 hw N) rfl) ?_   -- 3
                  refine TrC.spell 99 rfl (bv (b := true) (dtrue hsame)) ?_
                  refine TrC.take rfl (step_not rfl rfl rfl) ?_   -- 4
                  refine TrC.done ?_
                  refine AT.condF rfl ?_   -- t100
                  refine AT.skip ?_
                  refine AT.seq ?_
                  refine AT.region ?_   -- region 27 law.go:254
                  refine TrC.take rfl (step_fieldAddrP rfl rfl fd40_0 rfl rfl) ?_   -- 0
                  refine TrC.take rfl (step_loadPN rfl rfl rfl ty30 rfl rfl rfl) ?_   -- 1
                  refine TrC.take rfl (step_storeP rfl rfl rfl rfl rfl (.inl rfl) ty30 rfl rfl rfl) ?_   -- 2
                  refine TrC.done ?_
                  refine AT.seq ?_
                  refine AT.region ?_   -- region 28 law.go:255
                  refine TrC.take rfl (step_fieldAddrP rfl rfl fd30_0 rfl rfl) ?_   -- 0
                  refine TrC.take rfl (step_loadP1 rfl rfl rfl ty27 rfl rfl) ?_   -- 1
                  refine TrC.take rfl (step_lenT (rt := 0) rfl rfl sl27 rfl) ?_   -- 2
                  refine TrC.take rfl (step_move rfl rfl rfl) ?_   -- 3
                  refine TrC.take rfl (step_bin rfl rfl rfl rfl rfl) ?_   -- 4
                  refine TrC.spell 107 rfl (bv (b := false) (by first | (simp [hlen]; done) | (simp [hsame]; done))) ?_
                  refine TrC.done ?_
                  refine AT.condF rfl ?_   -- t107
                  refine AT.skip ?_
                  refine AT.region ?_   -- region 5 law.go:229
                  refine TrC.take rfl (step_move rfl rfl rfl) ?_   -- 0
                  refine TrC.take rfl (step_addI rfl rfl rfl (by first | omega | (simp; done) | (simp; omega)) (by first | omega | (simp; done) | (simp; omega)) rfl) ?_   -- 1
                  refine TrC.take rfl (step_assign rfl rfl rfl) ?_   -- 2
                  refine TrC.done ?_
                  exact ⟨(i + 1, R.n), ⟨by show i + 1 ≤ l.length; omega, by show i + 1 ≤ 30; omega, hw⟩, by show 30 - (i + 1) < 30 - i; omega, Sat.wk [] (.cons (.t (.refl _)) (.cons (.t (.refl _)) (.cons (.p rfl) (.cons (.t (conv_i (by first | exact hlen.symm | rw [hsame]))) (.cons (.t (conv_i (by simp))) (.nil)))))) (.cons rfl (.box (.cons (.t (.refl _)) (.cons (.t (.refl _)) (.cons (.t (.refl _)) (.nil))))) (.nil)) rfl rfl⟩
    · -- false
      refine AT.exit (Or.inl ⟨rfl, ?_⟩)   -- exit 0
      refine AT.seq ?_
      refine AT.region ?_   -- region 30 law.go:259
      refine TrC.take rfl (step_move rfl rfl rfl) ?_   -- 0
      refine TrC.take rfl (step_assign rfl rfl rfl) ?_   -- 1
      refine TrC.done ?_
      refine AT.ret ?_
      exact Ret.one rfl (ResR.tmp rfl (conv_b rfl))
  · -- t19 = false
    refine TrC.skip ⟨_, _, rfl, rfl, rfl⟩ ?_   -- 5
    refine TrC.skip ⟨_, _, rfl, rfl, rfl⟩ ?_   -- 6
    refine TrC.take rfl (step_pick rfl rfl rfl rfl) ?_   -- 7
    refine TrC.done ?_
    refine AT.condF rfl ?_   -- t22
    refine AT.exit (Or.inl ⟨rfl, ?_⟩)   -- exit 0
    refine AT.seq ?_
    refine AT.region ?_   -- region 30 law.go:259
    refine TrC.take rfl (step_move rfl rfl rfl) ?_   -- 0
    refine TrC.take rfl (step_assign rfl rfl rfl) ?_   -- 1
    refine TrC.done ?_
    refine AT.ret ?_
    exact Ret.one rfl (ResR.tmp rfl (conv_b rfl))

end Go.Proofs.Ytnemmdbafngppaa.Net

/- NetCounts: from the function's contract to arguments as they come. No condition. -/
set_option linter.unusedVariables false
namespace Go.Proofs.Ytnemmdbafngppaa.netCounts
open Go.Proofs.Ytnemmdbafngppaa.Abs Go.Proofs.Ytnemmdbafngppaa.Net Go.RowKit
theorem NetCounts_has (x0 : T) (f0 : Fits Try.prog 22 x0.cells) (a0 : (∃ l, x0 = .agg l) ↔ (partsOf Try.prog 22).isSome = true) : Has Try.prog 9 [x0] (.b true) := by
  obtain ⟨l, rfl, _, hb⟩ := fitB3 f0 a0 (e := 47) (by kernel_rfl) (by kernel_rfl) (by kernel_rfl)
  exact C9 l hb
end Go.Proofs.Ytnemmdbafngppaa.netCounts

/- The statement NetCountsSaid is proved here: the law's function returns true for all its arguments and panics for none. No condition. -/
namespace Go.Proofs.Ytnemmdbafngppaa.netCounts
open Go.ChangeShapes Go.WideShapes Go.ChangeAt Go.RowKit
open Go.Proofs.Ytnemmdbafngppaa.Abs
set_option linter.unusedVariables false
theorem own : ownKnob Try.prog.godebug = none := by kernel_rfl
theorem laidOut : laidOutB Try.prog = true := by kernel_rfl
set_option maxRecDepth 100000 in
theorem lifted (os : Os) (started : os.Started) (H : Type) (enc : TypeId × Value → H) :
    ReturnsInHanded {} Try.checked os 9 .any (Rows.netCountsSpec.pre6 enc Try.prog Try.f9 Rows.netCountsRow.domain false) (Rows.netCountsSpec.post enc Try.prog Try.f9 false true false false) := by
  refine returnsInHanded_of_change_sized (C := Try.checked) own started (by kernel_rfl) Try.func9
    (ChangeSpec.witness6 (enc := enc) (C := Try.checked) false ⟨#[], #[.slice none 0 0], []⟩ 8 (by kernel_rfl) (by kernel_rfl) (by kernel_rfl) (by kernel_rfl)) ?_
  intro W base args ds gs before hval0 hW hcnd hsz0 _
  have hval : ∀ (j : Nat) t v, Try.f9.params[j]? = some t → args[j]? = some v → Value.okWide Try.prog W .any base t v := hval0
  have hW' := hW
  obtain ⟨p, q, hA0, hV, rfl, hfz, hnd⟩ := hW
  have hA : DataW.TrodAll enc Try.prog W 0 (fun _ => true) true Try.f9.params.toList args.toList ds p := hA0
  rw [show Try.f9.params = #[22] from by kernel_rfl] at hA hval
  obtain ⟨v0, vs0, d0, ds0, p0, q0, hargs, rfl, rfl, h0, r0⟩ := trodAll_cons hA
  obtain ⟨rfl, rfl, rfl⟩ := trodAll_nil r0
  obtain rfl : args = #[v0] := by cases args; simp_all
  obtain ⟨rfl, rfl⟩ := trodVars_none hV
  have lt0 : ∀ x ∈ p0, x.block < W.heap.size := by obtain ⟨m, hm⟩ := h0; exact DataW.trod_lt m _ _ _ hm
  obtain ⟨x0, rd0, ft0, ag0⟩ := Trod_reads 8 (by kernel_rfl) (hval 0 22 v0 rfl rfl) h0
  have hh := NetCounts_has x0 ft0 ag0
  refine (hh.2 W (okW W) #[v0] (fun _ h => h) rfl ?_).mono fun e W' hx => ?_
  · intro i h1 h2
    rcases i with _ | i; exact rd0; simp at h1 <;> omega
  · obtain ⟨v, he, hr, bel⟩ := hx
    subst he
    cases hr with
    | v _ =>
      exact ⟨_, rfl, _, _, _, [], _, [], hW', trodAll_mk1 (shut_bool (show Try.prog.underlying 4 = some .bool by kernel_rfl) _), (trodAll_cons_mk (Below.trod laidOut (by kernel_rfl) (of_decide_eq_true (by kernel_rfl)) h0 bel lt0) trodAll_mk0), rfl, bel.frame _, fun h => by cases h⟩
theorem over : Rows.netCountsRow.holds Try.pinned (OpenSpec.ofChange Rows.netCountsSpec) :=
  OpenClaim.holds_of_wide 9 Try.f9 rfl rfl rfl rfl rfl rfl rfl ⟨rfl, rfl, rfl, rfl, rfl⟩ rfl rfl rfl rfl rfl (by kernel_rfl) Try.func9 (by kernel_rfl)
    (of_decide_eq_true (by kernel_rfl)) (by unfold Func.isWrapper; first | (rw [if_pos (by decide +kernel)]; kernel_rfl) | (rw [if_neg (by decide +kernel)]; exact ⟨rfl, rfl⟩))
    (fun os started H enc _ => lifted os started H enc)
theorem proved : Rows.NetCountsSaid := over
#print axioms proved
end Go.Proofs.Ytnemmdbafngppaa.netCounts
namespace Go.Proofs.Ytnemmdbafngppaa
/-- The row, under a short name, for the claim. -/
theorem netCounts_holds : Rows.NetCountsSaid := netCounts.proved
end Go.Proofs.Ytnemmdbafngppaa

