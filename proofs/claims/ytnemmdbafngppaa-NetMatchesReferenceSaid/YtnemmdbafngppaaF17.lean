/- Contracts of functions of this translation. Printed by wip/tools/gen.py out of wip/net/ann.py. No condition. -/
import Derived.Test.YtnemmdbafngppaaF12
import Derived.Test.YtnemmdbafngppaaLaw1
set_option linter.unusedVariables false
set_option linter.unusedSimpArgs false
namespace Go.Proofs.Ytnemmdbafngppaa.Net
open Go.Proofs.Ytnemmdbafngppaa.Abs
set_option maxRecDepth 100000
set_option maxHeartbeats 4000000
theorem C26 (n : Net) (hl : n.fl.length ≤ 1000000) (hl' : n.cuts.length ≤ 1000000) : Has Try.prog 26 [encN n] (.b (valid n)) := by   -- burgage/net.Valid
  refine Has.intro 94 Try.func26 (by kernel_rfl) rfl rfl fun w ok => ?_
  refine AT.seq ?_
  refine AT.region ?_   -- region 0 net.go:25
  refine TrC.take rfl (step_box rfl rfl rfl rfl rfl rfl rfl) ?_   -- 0
  refine TrC.take rfl (step_assign rfl rfl rfl) ?_   -- 1
  refine TrC.done ?_
  refine AT.seq ?_
  refine AT.region ?_   -- region 1 net.go:26
  refine TrC.take rfl (step_assign rfl rfl rfl) ?_   -- 0
  refine TrC.done ?_
  refine AT.seq ?_
  refine AT.seq ?_
  refine AT.region ?_   -- region 2 net.go:27
  refine TrC.take rfl (step_fieldAddrP rfl rfl fd30_0 rfl rfl) ?_   -- 0
  refine TrC.take rfl (step_loadP1 rfl rfl rfl ty27 rfl rfl) ?_   -- 1
  refine TrC.take rfl (step_lenT (rt := 0) rfl rfl sl27 rfl) ?_   -- 2
  refine TrC.take rfl (step_move rfl rfl rfl) ?_   -- 3
  refine TrC.done ?_
  refine AT.block ?_   -- block 0
  refine AT.loopP (fun i : Nat => i ≤ n.fl.length ∧ ∀ j, j < i → okP n j = true) (fun i => mkS [(1, .p 1 0), (3, .t (.i (lastId n i))), (9, .t (.slice 3 (n.fl.map encP))), (10, .t (.i n.fl.length)), (11, .t (.i i))] [(1, .box 30 [.t (.slice 3 (n.fl.map encP)), .t (.slice 2 (n.cuts.map encC)), .t (.i n.next)])]) (fun i => n.fl.length - i) (0) (⟨by omega, fun j hj => by omega⟩) (fun a w hs => Sat.wk [] (.cons (.p rfl) (.cons (.t (conv_i (by simp [lastId]))) (.cons (.t (.refl _)) (.cons (.t (conv_i (by simp))) (.cons (.t (conv_i (by simp))) (.nil)))))) (.cons rfl (.box (.cons (.t (.refl _)) (.cons (.t (.refl _)) (.cons (.t (.refl _)) (.nil))))) (.nil)) rfl rfl a w hs) (fun ix hix => ?_)
  obtain ⟨hi, hpre⟩ := hix
  refine AT.seq ?_
  refine AT.region ?_   -- region 3 net.go:27
  refine TrC.take rfl (step_bin rfl rfl rfl rfl rfl) ?_   -- 0
  refine TrC.done ?_
  refine AT.seq ?_
  refine AT.cond rfl (fun h12 => ?_) (fun h12 => ?_)   -- t12
  · -- true
    have hlt : ix < n.fl.length := by simpa using h12
    have hget : (n.fl.map encP)[ix]? = some (.agg [.i n.fl[ix].id, .i n.fl[ix].fr, .i n.fl[ix].to]) := by simp [hlt, encP]
    refine AT.skip ?_
    refine AT.seq ?_
    refine AT.block ?_   -- block 1
    refine AT.seq ?_
    refine AT.region ?_   -- region 4 net.go:27
    refine TrC.take rfl (step_indexAddrT (v := .agg [.i n.fl[ix].id, .i n.fl[ix].fr, .i n.fl[ix].to]) rfl rfl rfl sl27 (by omega) (by simpa using hget) rfl rfl) ?_   -- 0
    refine TrC.take rfl (step_loadTN rfl rfl ty25 rfl rfl) ?_   -- 1
    refine TrC.take rfl (step_alloc rfl rfl ze25 rfl rfl rfl) ?_   -- 2
    refine TrC.take rfl (step_storeP rfl rfl rfl rfl rfl (.inl rfl) ty25 rfl rfl rfl) ?_   -- 3
    refine TrC.done ?_
    refine AT.seq ?_
    refine AT.seq ?_
    refine AT.region ?_   -- region 5 net.go:28
    refine TrC.take rfl (step_fieldAddrP rfl rfl fd25_0 rfl rfl) ?_   -- 0
    refine TrC.take rfl (step_loadP1 rfl rfl rfl ty3 rfl rfl) ?_   -- 1
    refine TrC.take rfl (step_move rfl rfl rfl) ?_   -- 2
    refine TrC.take rfl (step_bin rfl rfl rfl rfl rfl) ?_   -- 3
    refine TrC.take rfl (step_move rfl rfl rfl) ?_   -- 4
    refine TrC.cases (d := 19) rfl (fun h19 => ?_) (fun h19 => ?_)
    · -- t19 = true
      have hs : valid n = false := by
        refine valid_badP hlt ?_
        rw [Bool.eq_false_iff]; intro hg
        rw [okP_alt hlt hpre] at hg
        obtain ⟨g1, g2, g3⟩ := hg
        have h := h19; simp at h; omega
      refine TrC.skip ⟨_, _, rfl, rfl, rfl⟩ ?_   -- 5
      refine TrC.skip ⟨_, _, rfl, rfl, rfl⟩ ?_   -- 6
      refine TrC.skip ⟨_, _, rfl, rfl, rfl⟩ ?_   -- 7
      refine TrC.skip ⟨_, _, rfl, rfl, rfl⟩ ?_   -- 8
      refine TrC.skip ⟨_, _, rfl, rfl, rfl⟩ ?_   -- 9
      refine TrC.take rfl (step_pick rfl rfl rfl rfl) ?_   -- 10
      refine TrC.take rfl (step_move rfl rfl rfl) ?_   -- 11
      refine TrC.skip ⟨_, _, rfl, rfl, rfl⟩ ?_   -- 12
      refine TrC.skip ⟨_, _, rfl, rfl, rfl⟩ ?_   -- 13
      refine TrC.skip ⟨_, _, rfl, rfl, rfl⟩ ?_   -- 14
      refine TrC.skip ⟨_, _, rfl, rfl, rfl⟩ ?_   -- 15
      refine TrC.skip ⟨_, _, rfl, rfl, rfl⟩ ?_   -- 16
      refine TrC.skip ⟨_, _, rfl, rfl, rfl⟩ ?_   -- 17
      refine TrC.take rfl (step_pick rfl rfl rfl rfl) ?_   -- 18
      refine TrC.done ?_
      refine AT.condT rfl ?_   -- t33
      refine AT.seq ?_
      refine AT.region ?_   -- region 6 net.go:29
      refine TrC.take rfl (step_assign rfl rfl rfl) ?_   -- 0
      refine TrC.done ?_
      refine AT.ret ?_
      exact Ret.one rfl (ResR.tmp rfl (conv_b hs.symm))
    · -- t19 = false
      refine TrC.take ⟨_, _, rfl, rfl, rfl⟩ (step_fieldAddrP rfl rfl fd25_0 rfl rfl) ?_   -- 5
      refine TrC.take ⟨_, _, rfl, rfl, rfl⟩ (step_loadP1 rfl rfl rfl ty3 rfl rfl) ?_   -- 6
      refine TrC.take ⟨_, _, rfl, rfl, rfl⟩ (step_fieldAddrP rfl rfl fd30_2 rfl rfl) ?_   -- 7
      refine TrC.take ⟨_, _, rfl, rfl, rfl⟩ (step_loadP1 rfl rfl rfl ty3 rfl rfl) ?_   -- 8
      refine TrC.take ⟨_, _, rfl, rfl, rfl⟩ (step_bin rfl rfl rfl rfl rfl) ?_   -- 9
      refine TrC.take rfl (step_pick rfl rfl rfl rfl) ?_   -- 10
      refine TrC.take rfl (step_move rfl rfl rfl) ?_   -- 11
      refine TrC.cases (d := 26) rfl (fun h26 => ?_) (fun h26 => ?_)
      · -- t26 = true
        have hs : valid n = false := by
          refine valid_badP hlt ?_
          rw [Bool.eq_false_iff]; intro hg
          rw [okP_alt hlt hpre] at hg
          obtain ⟨g1, g2, g3⟩ := hg
          have h := h26; simp at h; omega
        refine TrC.skip ⟨_, _, rfl, rfl, rfl⟩ ?_   -- 12
        refine TrC.skip ⟨_, _, rfl, rfl, rfl⟩ ?_   -- 13
        refine TrC.skip ⟨_, _, rfl, rfl, rfl⟩ ?_   -- 14
        refine TrC.skip ⟨_, _, rfl, rfl, rfl⟩ ?_   -- 15
        refine TrC.skip ⟨_, _, rfl, rfl, rfl⟩ ?_   -- 16
        refine TrC.skip ⟨_, _, rfl, rfl, rfl⟩ ?_   -- 17
        refine TrC.take rfl (step_pick rfl rfl rfl rfl) ?_   -- 18
        refine TrC.done ?_
        refine AT.condT rfl ?_   -- t33
        refine AT.seq ?_
        refine AT.region ?_   -- region 6 net.go:29
        refine TrC.take rfl (step_assign rfl rfl rfl) ?_   -- 0
        refine TrC.done ?_
        refine AT.ret ?_
        exact Ret.one rfl (ResR.tmp rfl (conv_b hs.symm))
      · -- t26 = false
        refine TrC.take ⟨_, _, rfl, rfl, rfl⟩ (step_fieldAddrP rfl rfl fd25_1 rfl rfl) ?_   -- 12
        refine TrC.take ⟨_, _, rfl, rfl, rfl⟩ (step_loadP1 rfl rfl rfl ty3 rfl rfl) ?_   -- 13
        refine TrC.take ⟨_, _, rfl, rfl, rfl⟩ (step_fieldAddrP rfl rfl fd25_2 rfl rfl) ?_   -- 14
        refine TrC.take ⟨_, _, rfl, rfl, rfl⟩ (step_loadP1 rfl rfl rfl ty3 rfl rfl) ?_   -- 15
        refine TrC.take ⟨_, _, rfl, rfl, rfl⟩ (step_call0 rfl rfl (C43 n.fl[ix].fr n.fl[ix].to) rfl) ?_   -- 16
        refine TrC.take ⟨_, _, rfl, rfl, rfl⟩ (step_not rfl rfl rfl) ?_   -- 17
        refine TrC.take rfl (step_pick rfl rfl rfl rfl) ?_   -- 18
        refine TrC.done ?_
        refine AT.cond rfl (fun h33 => ?_) (fun h33 => ?_)   -- t33
        · -- true
          have hs : valid n = false := by
            refine valid_badP hlt ?_
            rw [Bool.eq_false_iff]; intro hg
            rw [okP_alt hlt hpre] at hg
            obtain ⟨g1, g2, g3⟩ := hg
            simp [g3] at h33
          refine AT.seq ?_
          refine AT.region ?_   -- region 6 net.go:29
          refine TrC.take rfl (step_assign rfl rfl rfl) ?_   -- 0
          refine TrC.done ?_
          refine AT.ret ?_
          exact Ret.one rfl (ResR.tmp rfl (conv_b hs.symm))
        · -- false
          refine AT.skip ?_
          refine AT.region ?_   -- region 7 net.go:31
          refine TrC.take rfl (step_fieldAddrP rfl rfl fd25_0 rfl rfl) ?_   -- 0
          refine TrC.take rfl (step_loadP1 rfl rfl rfl ty3 rfl rfl) ?_   -- 1
          refine TrC.take rfl (step_assign rfl rfl rfl) ?_   -- 2
          refine TrC.done ?_
          refine AT.region ?_   -- region 8 net.go:27
          refine TrC.take rfl (step_addI rfl rfl rfl (by omega) (by omega) rfl) ?_   -- 0
          refine TrC.take rfl (step_move rfl rfl rfl) ?_   -- 1
          refine TrC.done ?_
          have hgood : okP n ix = true := (okP_alt hlt hpre).2 ⟨by have h := h19; simp at h; omega, by have h := h26; simp at h; omega, by simpa using h33⟩
          exact ⟨ix + 1, ⟨by omega, fun j hji => by
            by_cases he : j = ix
            · subst he; exact hgood
            · exact hpre j (by omega)⟩, by show n.fl.length - (ix + 1) < n.fl.length - ix; omega, Sat.wk [] (.cons (.p rfl) (.cons (.t (conv_i (by simp [lastId, hlt]))) (.cons (.t (.refl _)) (.cons (.t (.refl _)) (.cons (.t (conv_i (by simp))) (.nil)))))) (.cons rfl (.box (.cons (.t (.refl _)) (.cons (.t (.refl _)) (.cons (.t (.refl _)) (.nil))))) (.nil)) rfl rfl⟩
  · -- false
    have hge : ¬ ix < n.fl.length := by simpa using h12
    have hA : ∀ i, i < n.fl.length → okP n i = true := fun i hi => hpre i (by omega)
    refine AT.exit (Or.inl ⟨rfl, ?_⟩)   -- exit 0
    refine AT.seq ?_
    refine AT.seq ?_
    refine AT.region ?_   -- region 9 net.go:33
    refine TrC.take rfl (step_fieldAddrP rfl rfl fd30_1 rfl rfl) ?_   -- 0
    refine TrC.take rfl (step_loadP1 rfl rfl rfl ty28 rfl rfl) ?_   -- 1
    refine TrC.take rfl (step_lenT (rt := 0) rfl rfl sl28 rfl) ?_   -- 2
    refine TrC.take rfl (step_move rfl rfl rfl) ?_   -- 3
    refine TrC.done ?_
    refine AT.block ?_   -- block 2
    refine AT.loopP (fun i : Nat => i ≤ n.cuts.length ∧ ∀ j, j < i → okC n j = true) (fun i => mkS [(1, .p 1 0), (38, .t (.slice 2 (n.cuts.map encC))), (39, .t (.i n.cuts.length)), (40, .t (.i i))] [(1, .box 30 [.t (.slice 3 (n.fl.map encP)), .t (.slice 2 (n.cuts.map encC)), .t (.i n.next)])]) (fun i => n.cuts.length - i) (0) (⟨by omega, fun j hj => by omega⟩) (fun a w hs => Sat.wk [] (.cons (.p rfl) (.cons (.t (.refl _)) (.cons (.t (conv_i (by simp))) (.cons (.t (conv_i (by simp))) (.nil))))) (.cons rfl (.box (.cons (.t (.refl _)) (.cons (.t (.refl _)) (.cons (.t (.refl _)) (.nil))))) (.nil)) rfl rfl a w hs) (fun iy hiy => ?_)
    obtain ⟨hyi, hypre⟩ := hiy
    refine AT.seq ?_
    refine AT.region ?_   -- region 10 net.go:33
    refine TrC.take rfl (step_bin rfl rfl rfl rfl rfl) ?_   -- 0
    refine TrC.done ?_
    refine AT.seq ?_
    refine AT.cond rfl (fun h41 => ?_) (fun h41 => ?_)   -- t41
    · -- true
      have hlt : iy < n.cuts.length := by simpa using h41
      have hget : (n.cuts.map encC)[iy]? = some (.agg [.i n.cuts[iy].1, .i n.cuts[iy].2]) := by simp [hlt, encC]
      refine AT.skip ?_
      refine AT.seq ?_
      refine AT.block ?_   -- block 3
      refine AT.seq ?_
      refine AT.region ?_   -- region 11 net.go:33
      refine TrC.take rfl (step_move rfl rfl rfl) ?_   -- 0
      refine TrC.take rfl (step_indexAddrT (v := .agg [.i n.cuts[iy].1, .i n.cuts[iy].2]) rfl rfl rfl sl28 (by omega) (by simpa using hget) rfl rfl) ?_   -- 1
      refine TrC.take rfl (step_loadTN rfl rfl ty32 rfl rfl) ?_   -- 2
      refine TrC.take rfl (step_alloc rfl rfl ze32 rfl rfl rfl) ?_   -- 3
      refine TrC.take rfl (step_assign rfl rfl rfl) ?_   -- 4
      refine TrC.take rfl (step_storeP rfl rfl rfl rfl rfl (.inl rfl) ty32 rfl rfl rfl) ?_   -- 5
      refine TrC.done ?_
      refine AT.seq ?_
      refine AT.regionD mixed rfl ?_   -- region 12 net.go:34
      refine TrC.take rfl (step_indexAddrP rfl rfl rfl ar32 (by decide) (by decide) rfl) ?_   -- 0
      refine TrC.take rfl (step_loadP1 rfl rfl rfl ty3 rfl rfl) ?_   -- 1
      refine TrC.take rfl (step_indexAddrP rfl rfl rfl ar32 (by decide) (by decide) rfl) ?_   -- 2
      refine TrC.take rfl (step_loadP1 rfl rfl rfl ty3 rfl rfl) ?_   -- 3
      refine TrC.take rfl (step_call0 rfl rfl (C43 n.cuts[iy].1 n.cuts[iy].2) rfl) ?_   -- 4
      refine TrC.take rfl (step_not rfl rfl rfl) ?_   -- 5
      refine TrC.take rfl (step_move rfl rfl rfl) ?_   -- 6
      refine TrC.cases (d := 51) rfl (fun h51 => ?_) (fun h51 => ?_)
      · -- t51 = true
        have hs : valid n = false := by
          refine valid_badC hlt ?_
          rw [Bool.eq_false_iff]; intro hg
          rw [okC_iff hlt] at hg
          simp [hg.1] at h51
        refine TrC.skip ⟨_, _, rfl, rfl, rfl⟩ ?_   -- 7
        refine TrC.skip ⟨_, _, rfl, rfl, rfl⟩ ?_   -- 8
        refine TrC.skip ⟨_, _, rfl, rfl, rfl⟩ ?_   -- 9
        refine TrC.skip ⟨_, _, rfl, rfl, rfl⟩ ?_   -- 10
        refine TrC.skip ⟨_, _, rfl, rfl, rfl⟩ ?_   -- 11
        refine TrC.skip ⟨_, _, rfl, rfl, rfl⟩ ?_   -- 12
        refine TrC.skip ⟨_, _, rfl, rfl, rfl⟩ ?_   -- 13
        refine TrC.take rfl (step_pick rfl rfl rfl rfl) ?_   -- 14
        refine TrC.take rfl (step_move rfl rfl rfl) ?_   -- 15
        refine TrC.skip ⟨_, _, rfl, rfl, rfl⟩ ?_   -- 16
        refine TrC.skip ⟨_, _, rfl, rfl, rfl⟩ ?_   -- 17
        refine TrC.skip ⟨_, _, rfl, rfl, rfl⟩ ?_   -- 18
        refine TrC.skip ⟨_, _, rfl, rfl, rfl⟩ ?_   -- 19
        refine TrC.skip ⟨_, _, rfl, rfl, rfl⟩ ?_   -- 20
        refine TrC.skip ⟨_, _, rfl, rfl, rfl⟩ ?_   -- 21
        refine TrC.skip ⟨_, _, rfl, rfl, rfl⟩ ?_   -- 22
        refine TrC.skip ⟨_, _, rfl, rfl, rfl⟩ ?_   -- 23
        refine TrC.skip ⟨_, _, rfl, rfl, rfl⟩ ?_   -- 24
        refine TrC.skip ⟨_, _, rfl, rfl, rfl⟩ ?_   -- 25
        refine TrC.skip ⟨_, _, rfl, rfl, rfl⟩ ?_   -- 26
        refine TrC.skip ⟨_, _, rfl, rfl, rfl⟩ ?_   -- 27
        refine TrC.skip ⟨_, _, rfl, rfl, rfl⟩ ?_   -- 28
        refine TrC.take rfl (step_pick rfl rfl rfl rfl) ?_   -- 29
        refine TrC.doneD rfl ?_
        refine AT.condT rfl ?_   -- t74
        refine AT.seq ?_
        refine AT.region ?_   -- region 13 net.go:35
        refine TrC.take rfl (step_assign rfl rfl rfl) ?_   -- 0
        refine TrC.done ?_
        refine AT.ret ?_
        exact Ret.one rfl (ResR.tmp rfl (conv_b hs.symm))
      · -- t51 = false
        refine TrC.take ⟨_, _, rfl, rfl, rfl⟩ (step_loadPN rfl rfl rfl ty32 rfl rfl rfl) ?_   -- 7
        refine TrC.take ⟨_, _, rfl, rfl, rfl⟩ (step_indexAddrP rfl rfl rfl ar32 (by decide) (by decide) rfl) ?_   -- 8
        refine TrC.take ⟨_, _, rfl, rfl, rfl⟩ (step_loadP1 rfl rfl rfl ty3 rfl rfl) ?_   -- 9
        refine TrC.take ⟨_, _, rfl, rfl, rfl⟩ (step_indexAddrP rfl rfl rfl ar32 (by decide) (by decide) rfl) ?_   -- 10
        refine TrC.take ⟨_, _, rfl, rfl, rfl⟩ (step_loadP1 rfl rfl rfl ty3 rfl rfl) ?_   -- 11
        refine TrC.take ⟨_, _, rfl, rfl, rfl⟩ (step_call0 rfl rfl (C35 n.cuts[iy].1 n.cuts[iy].2) rfl) ?_   -- 12
        refine TrC.take ⟨_, _, rfl, rfl, rfl⟩ (step_nea rfl rfl rfl rfl rfl ty32 eg32 (eq32 _ _ _ _) rfl) ?_   -- 13
        refine TrC.take rfl (step_pick rfl rfl rfl rfl) ?_   -- 14
        refine TrC.take rfl (step_move rfl rfl rfl) ?_   -- 15
        refine TrC.cases (d := 60) rfl (fun h60 => ?_) (fun h60 => ?_)
        · -- t60 = true
          have hs : valid n = false := by
            refine valid_badC hlt ?_
            rw [Bool.eq_false_iff]; intro hg
            rw [okC_iff hlt] at hg
            have g2 := Prod.ext_iff.1 hg.2.1
            simp [← g2.1, ← g2.2] at h60
          refine TrC.skip ⟨_, _, rfl, rfl, rfl⟩ ?_   -- 16
          refine TrC.skip ⟨_, _, rfl, rfl, rfl⟩ ?_   -- 17
          refine TrC.skip ⟨_, _, rfl, rfl, rfl⟩ ?_   -- 18
          refine TrC.skip ⟨_, _, rfl, rfl, rfl⟩ ?_   -- 19
          refine TrC.skip ⟨_, _, rfl, rfl, rfl⟩ ?_   -- 20
          refine TrC.skip ⟨_, _, rfl, rfl, rfl⟩ ?_   -- 21
          refine TrC.skip ⟨_, _, rfl, rfl, rfl⟩ ?_   -- 22
          refine TrC.skip ⟨_, _, rfl, rfl, rfl⟩ ?_   -- 23
          refine TrC.skip ⟨_, _, rfl, rfl, rfl⟩ ?_   -- 24
          refine TrC.skip ⟨_, _, rfl, rfl, rfl⟩ ?_   -- 25
          refine TrC.skip ⟨_, _, rfl, rfl, rfl⟩ ?_   -- 26
          refine TrC.skip ⟨_, _, rfl, rfl, rfl⟩ ?_   -- 27
          refine TrC.skip ⟨_, _, rfl, rfl, rfl⟩ ?_   -- 28
          refine TrC.take rfl (step_pick rfl rfl rfl rfl) ?_   -- 29
          refine TrC.doneD rfl ?_
          refine AT.condT rfl ?_   -- t74
          refine AT.seq ?_
          refine AT.region ?_   -- region 13 net.go:35
          refine TrC.take rfl (step_assign rfl rfl rfl) ?_   -- 0
          refine TrC.done ?_
          refine AT.ret ?_
          exact Ret.one rfl (ResR.tmp rfl (conv_b hs.symm))
        · -- t60 = false
          refine TrC.take ⟨_, _, rfl, rfl, rfl⟩ (step_move rfl rfl rfl) ?_   -- 16
          refine TrC.take ⟨_, _, rfl, rfl, rfl⟩ (step_bin rfl rfl rfl rfl rfl) ?_   -- 17
          refine TrC.take ⟨_, _, rfl, rfl, rfl⟩ (step_move rfl rfl rfl) ?_   -- 18
          refine TrC.cases (d := 63) rfl (fun h63 => ?_) (fun h63 => ?_)
          · -- t63 = true
            have hpos : 0 < iy := by have h := h63; simp at h; omega
            have hq := getC (n := n) (i := iy - 1) (by omega)
            have hget2 : (n.cuts.map encC)[iy - 1]? = some (.agg [.i n.cuts[iy - 1].1, .i n.cuts[iy - 1].2]) := by rw [List.getElem?_map, List.getElem?_eq_getElem (by omega)]; rfl
            refine TrC.take ⟨_, _, rfl, rfl, rfl⟩ (step_fieldAddrP rfl rfl fd30_1 rfl rfl) ?_   -- 19
            refine TrC.take ⟨_, _, rfl, rfl, rfl⟩ (step_loadP1 rfl rfl rfl ty28 rfl rfl) ?_   -- 20
            refine TrC.take ⟨_, _, rfl, rfl, rfl⟩ (step_move rfl rfl rfl) ?_   -- 21
            refine TrC.take ⟨_, _, rfl, rfl, rfl⟩ (step_subI rfl rfl rfl (by omega) (by omega) rfl) ?_   -- 22
            refine TrC.take ⟨_, _, rfl, rfl, rfl⟩ (step_indexAddrT (v := .agg [.i n.cuts[iy - 1].1, .i n.cuts[iy - 1].2]) rfl rfl rfl sl28 (by omega) (by rw [show ((iy : Int) - 1).toNat = iy - 1 from by omega]; exact hget2) rfl rfl) ?_   -- 23
            refine TrC.take ⟨_, _, rfl, rfl, rfl⟩ (step_loadTN rfl rfl ty32 rfl rfl) ?_   -- 24
            refine TrC.take ⟨_, _, rfl, rfl, rfl⟩ (step_loadPN rfl rfl rfl ty32 rfl rfl rfl) ?_   -- 25
            refine TrC.take ⟨_, _, rfl, rfl, rfl⟩ (step_call0 rfl rfl (C36 n.cuts[iy - 1] n.cuts[iy]) rfl) ?_   -- 26
            refine TrC.take ⟨_, _, rfl, rfl, rfl⟩ (step_bin rfl rfl rfl rfl rfl) ?_   -- 27
            refine TrC.take ⟨_, _, rfl, rfl, rfl⟩ (step_pick rfl rfl rfl rfl) ?_   -- 28
            refine TrC.take rfl (step_pick rfl rfl rfl rfl) ?_   -- 29
            refine TrC.doneD rfl ?_
            refine AT.cond rfl (fun h74 => ?_) (fun h74 => ?_)   -- t74
            · -- true
              have hs : valid n = false := by
                refine valid_badC hlt ?_
                rw [Bool.eq_false_iff]; intro hg
                rw [okC_iff hlt] at hg
                obtain ⟨g1, g2, g3⟩ := hg
                rcases g3 with g3 | g3
                · omega
                · rw [hq] at g3; have := (order_neg _ _).2 g3; have h := h74; simp at h; omega
              refine AT.seq ?_
              refine AT.region ?_   -- region 13 net.go:35
              refine TrC.take rfl (step_assign rfl rfl rfl) ?_   -- 0
              refine TrC.done ?_
              refine AT.ret ?_
              exact Ret.one rfl (ResR.tmp rfl (conv_b hs.symm))
            · -- false
              refine AT.skip ?_
              refine AT.region ?_   -- region 14 net.go:33
              refine TrC.take rfl (step_addI rfl rfl rfl (by omega) (by omega) rfl) ?_   -- 0
              refine TrC.take rfl (step_move rfl rfl rfl) ?_   -- 1
              refine TrC.done ?_
              have hgood : okC n iy = true := by
                rw [okC_iff hlt]
                refine ⟨by simpa using h51, by rw [Prod.ext_iff]; simpa using h60, ?_⟩
                first
                | (right; rw [hq, ← Bool.not_eq_false]; intro hle; have := order_neg n.cuts[iy - 1] n.cuts[iy]; rw [hle] at this; have h := h74; simp at h; simp at this; omega)
                | exact .inl hz
              exact ⟨iy + 1, ⟨by omega, fun j hji => by
                by_cases he : j = iy
                · subst he; exact hgood
                · exact hypre j (by omega)⟩, by show n.cuts.length - (iy + 1) < n.cuts.length - iy; omega, Sat.wk [] (.cons (.p rfl) (.cons (.t (.refl _)) (.cons (.t (.refl _)) (.cons (.t (conv_i (by simp))) (.nil))))) (.cons rfl (.box (.cons (.t (.refl _)) (.cons (.t (.refl _)) (.cons (.t (.refl _)) (.nil))))) (.nil)) rfl rfl⟩
          · -- t63 = false
            have hz : iy = 0 := by have h := h63; simp at h; omega
            refine TrC.skip ⟨_, _, rfl, rfl, rfl⟩ ?_   -- 19
            refine TrC.skip ⟨_, _, rfl, rfl, rfl⟩ ?_   -- 20
            refine TrC.skip ⟨_, _, rfl, rfl, rfl⟩ ?_   -- 21
            refine TrC.skip ⟨_, _, rfl, rfl, rfl⟩ ?_   -- 22
            refine TrC.skip ⟨_, _, rfl, rfl, rfl⟩ ?_   -- 23
            refine TrC.skip ⟨_, _, rfl, rfl, rfl⟩ ?_   -- 24
            refine TrC.skip ⟨_, _, rfl, rfl, rfl⟩ ?_   -- 25
            refine TrC.skip ⟨_, _, rfl, rfl, rfl⟩ ?_   -- 26
            refine TrC.skip ⟨_, _, rfl, rfl, rfl⟩ ?_   -- 27
            refine TrC.take ⟨_, _, rfl, rfl, rfl⟩ (step_pick rfl rfl rfl rfl) ?_   -- 28
            refine TrC.take rfl (step_pick rfl rfl rfl rfl) ?_   -- 29
            refine TrC.doneD rfl ?_
            refine AT.condF rfl ?_   -- t74
            refine AT.skip ?_
            refine AT.region ?_   -- region 14 net.go:33
            refine TrC.take rfl (step_addI rfl rfl rfl (by omega) (by omega) rfl) ?_   -- 0
            refine TrC.take rfl (step_move rfl rfl rfl) ?_   -- 1
            refine TrC.done ?_
            have hgood : okC n iy = true := by
              rw [okC_iff hlt]
              refine ⟨by simpa using h51, by rw [Prod.ext_iff]; simpa using h60, ?_⟩
              first
              | (right; rw [hq, ← Bool.not_eq_false]; intro hle; have := order_neg n.cuts[iy - 1] n.cuts[iy]; rw [hle] at this; have h := h74; simp at h; simp at this; omega)
              | exact .inl hz
            exact ⟨iy + 1, ⟨by omega, fun j hji => by
              by_cases he : j = iy
              · subst he; exact hgood
              · exact hypre j (by omega)⟩, by show n.cuts.length - (iy + 1) < n.cuts.length - iy; omega, Sat.wk [] (.cons (.p rfl) (.cons (.t (.refl _)) (.cons (.t (.refl _)) (.cons (.t (conv_i (by simp))) (.nil))))) (.cons rfl (.box (.cons (.t (.refl _)) (.cons (.t (.refl _)) (.cons (.t (.refl _)) (.nil))))) (.nil)) rfl rfl⟩
    · -- false
      have hge : ¬ iy < n.cuts.length := by simpa using h41
      have hB : ∀ i, i < n.cuts.length → okC n i = true := fun i hi => hypre i (by omega)
      refine AT.exit (Or.inl ⟨rfl, ?_⟩)   -- exit 2
      refine AT.seq ?_
      have hs : valid n = (decide (n.fl.length ≤ 200) && decide (n.cuts.length ≤ 200) && decide (1 ≤ n.next) && decide (n.next ≤ 1000000000)) := by unfold valid; rw [decide_eq_true hA, decide_eq_true hB]; rfl
      refine AT.region ?_   -- region 15 net.go:38
      refine TrC.take rfl (step_fieldAddrP rfl rfl fd30_0 rfl rfl) ?_   -- 0
      refine TrC.take rfl (step_loadP1 rfl rfl rfl ty27 rfl rfl) ?_   -- 1
      refine TrC.take rfl (step_lenT (rt := 0) rfl rfl sl27 rfl) ?_   -- 2
      refine TrC.take rfl (step_fieldAddrP rfl rfl fd30_1 rfl rfl) ?_   -- 3
      refine TrC.take rfl (step_loadP1 rfl rfl rfl ty28 rfl rfl) ?_   -- 4
      refine TrC.take rfl (step_lenT (rt := 0) rfl rfl sl28 rfl) ?_   -- 5
      refine TrC.take rfl (step_max rfl rfl rfl rfl) ?_   -- 6
      refine TrC.take rfl (step_bin rfl rfl rfl rfl rfl) ?_   -- 7
      refine TrC.take rfl (step_move rfl rfl rfl) ?_   -- 8
      refine TrC.cases (d := 84) rfl (fun h84 => ?_) (fun h84 => ?_)
      · -- t84 = true
        refine TrC.take ⟨_, _, rfl, rfl, rfl⟩ (step_fieldAddrP rfl rfl fd30_2 rfl rfl) ?_   -- 9
        refine TrC.take ⟨_, _, rfl, rfl, rfl⟩ (step_loadP1 rfl rfl rfl ty3 rfl rfl) ?_   -- 10
        refine TrC.take ⟨_, _, rfl, rfl, rfl⟩ (step_bin rfl rfl rfl rfl rfl) ?_   -- 11
        refine TrC.take rfl (step_pick rfl rfl rfl rfl) ?_   -- 12
        refine TrC.take rfl (step_move rfl rfl rfl) ?_   -- 13
        refine TrC.cases (d := 89) rfl (fun h89 => ?_) (fun h89 => ?_)
        · -- t89 = true
          refine TrC.take ⟨_, _, rfl, rfl, rfl⟩ (step_fieldAddrP rfl rfl fd30_2 rfl rfl) ?_   -- 14
          refine TrC.take ⟨_, _, rfl, rfl, rfl⟩ (step_loadP1 rfl rfl rfl ty3 rfl rfl) ?_   -- 15
          refine TrC.take ⟨_, _, rfl, rfl, rfl⟩ (step_bin rfl rfl rfl rfl rfl) ?_   -- 16
          refine TrC.take rfl (step_pick rfl rfl rfl rfl) ?_   -- 17
          refine TrC.take rfl (step_assign rfl rfl rfl) ?_   -- 18
          refine TrC.done ?_
          refine AT.ret ?_
          exact Ret.one rfl (ResR.tmp rfl (conv_b (by rw [hs]; first | (simp_all; done) | (rw [Bool.eq_iff_iff]; simp_all <;> omega))))
        · -- t89 = false
          refine TrC.skip ⟨_, _, rfl, rfl, rfl⟩ ?_   -- 14
          refine TrC.skip ⟨_, _, rfl, rfl, rfl⟩ ?_   -- 15
          refine TrC.skip ⟨_, _, rfl, rfl, rfl⟩ ?_   -- 16
          refine TrC.take rfl (step_pick rfl rfl rfl rfl) ?_   -- 17
          refine TrC.take rfl (step_assign rfl rfl rfl) ?_   -- 18
          refine TrC.done ?_
          refine AT.ret ?_
          exact Ret.one rfl (ResR.tmp rfl (conv_b (by rw [hs]; first | (simp_all; done) | (rw [Bool.eq_iff_iff]; simp_all <;> omega))))
      · -- t84 = false
        refine TrC.skip ⟨_, _, rfl, rfl, rfl⟩ ?_   -- 9
        refine TrC.skip ⟨_, _, rfl, rfl, rfl⟩ ?_   -- 10
        refine TrC.skip ⟨_, _, rfl, rfl, rfl⟩ ?_   -- 11
        refine TrC.take rfl (step_pick rfl rfl rfl rfl) ?_   -- 12
        refine TrC.take rfl (step_move rfl rfl rfl) ?_   -- 13
        refine TrC.skip ⟨_, _, rfl, rfl, rfl⟩ ?_   -- 14
        refine TrC.skip ⟨_, _, rfl, rfl, rfl⟩ ?_   -- 15
        refine TrC.skip ⟨_, _, rfl, rfl, rfl⟩ ?_   -- 16
        refine TrC.take rfl (step_pick rfl rfl rfl rfl) ?_   -- 17
        refine TrC.take rfl (step_assign rfl rfl rfl) ?_   -- 18
        refine TrC.done ?_
        refine AT.ret ?_
        exact Ret.one rfl (ResR.tmp rfl (conv_b (by rw [hs]; first | (simp_all; done) | (rw [Bool.eq_iff_iff]; simp_all <;> omega))))

end Go.Proofs.Ytnemmdbafngppaa.Net
