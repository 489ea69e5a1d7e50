/- Contracts of functions of this translation. Printed by wip/tools/gen.py out of wip/net/ann.py. No condition. -/
import Derived.Test.YtnemmdbafngppaaF5
set_option linter.unusedVariables false
set_option linter.unusedSimpArgs false
namespace Go.Proofs.Ytnemmdbafngppaa.Net
open Go.Proofs.Ytnemmdbafngppaa.Abs
set_option maxRecDepth 100000
set_option maxHeartbeats 4000000
theorem C15 (m n : Net) (hl : m.fl.length ≤ 1000000) (hl' : m.cuts.length ≤ 1000000) : Has Try.prog 15 [encN m, encN n] (.b (decide (m = n))) := by   -- burgage/burgageref32.Same
  refine Has.intro 66 Try.func15 (by kernel_rfl) rfl rfl fun w ok => ?_
  refine AT.seq ?_
  refine AT.region ?_   -- region 0 ref.go:152
  refine TrC.take rfl (step_box rfl rfl rfl rfl rfl rfl rfl) ?_   -- 0
  refine TrC.take rfl (step_box rfl rfl rfl rfl rfl rfl rfl) ?_   -- 1
  refine TrC.take rfl (step_assign rfl rfl rfl) ?_   -- 2
  refine TrC.done ?_
  refine AT.seq ?_
  refine AT.seq ?_
  refine AT.region ?_   -- region 1 ref.go:153
  refine TrC.take rfl (step_fieldAddrP rfl rfl fd30_0 rfl rfl) ?_   -- 0
  refine TrC.take rfl (step_loadP1 rfl rfl rfl ty27 rfl rfl) ?_   -- 1
  refine TrC.take rfl (step_lenT (rt := 0) rfl rfl sl27 rfl) ?_   -- 2
  refine TrC.take rfl (step_fieldAddrP rfl rfl fd30_0 rfl rfl) ?_   -- 3
  refine TrC.take rfl (step_loadP1 rfl rfl rfl ty27 rfl rfl) ?_   -- 4
  refine TrC.take rfl (step_lenT (rt := 0) rfl rfl sl27 rfl) ?_   -- 5
  refine TrC.take rfl (step_bin rfl rfl rfl rfl rfl) ?_   -- 6
  refine TrC.take rfl (step_move rfl rfl rfl) ?_   -- 7
  refine TrC.cases (d := 14) rfl (fun h14 => ?_) (fun h14 => ?_)
  · -- t14 = true
    refine TrC.skip ⟨_, _, rfl, rfl, rfl⟩ ?_   -- 8
    refine TrC.skip ⟨_, _, rfl, rfl, rfl⟩ ?_   -- 9
    refine TrC.skip ⟨_, _, rfl, rfl, rfl⟩ ?_   -- 10
    refine TrC.skip ⟨_, _, rfl, rfl, rfl⟩ ?_   -- 11
    refine TrC.skip ⟨_, _, rfl, rfl, rfl⟩ ?_   -- 12
    refine TrC.skip ⟨_, _, rfl, rfl, rfl⟩ ?_   -- 13
    refine TrC.skip ⟨_, _, rfl, rfl, rfl⟩ ?_   -- 14
    refine TrC.take rfl (step_pick rfl rfl rfl rfl) ?_   -- 15
    refine TrC.take rfl (step_move rfl rfl rfl) ?_   -- 16
    refine TrC.skip ⟨_, _, rfl, rfl, rfl⟩ ?_   -- 17
    refine TrC.skip ⟨_, _, rfl, rfl, rfl⟩ ?_   -- 18
    refine TrC.skip ⟨_, _, rfl, rfl, rfl⟩ ?_   -- 19
    refine TrC.skip ⟨_, _, rfl, rfl, rfl⟩ ?_   -- 20
    refine TrC.skip ⟨_, _, rfl, rfl, rfl⟩ ?_   -- 21
    refine TrC.take rfl (step_pick rfl rfl rfl rfl) ?_   -- 22
    refine TrC.done ?_
    refine AT.condT rfl ?_   -- t29
    refine AT.seq ?_
    have hs : decide (m = n) = false := decide_eq_false (fun he => by subst he; first | (simp at h29; done) | (simp at h23; done) | (simp at h14; done))
    refine AT.region ?_   -- region 2 ref.go:154
    refine TrC.take rfl (step_assign rfl rfl rfl) ?_   -- 0
    refine TrC.done ?_
    refine AT.ret ?_
    exact Ret.one rfl (ResR.tmp rfl (conv_b hs.symm))
  · -- t14 = false
    refine TrC.take ⟨_, _, rfl, rfl, rfl⟩ (step_fieldAddrP rfl rfl fd30_1 rfl rfl) ?_   -- 8
    refine TrC.take ⟨_, _, rfl, rfl, rfl⟩ (step_loadP1 rfl rfl rfl ty28 rfl rfl) ?_   -- 9
    refine TrC.take ⟨_, _, rfl, rfl, rfl⟩ (step_lenT (rt := 0) rfl rfl sl28 rfl) ?_   -- 10
    refine TrC.take ⟨_, _, rfl, rfl, rfl⟩ (step_fieldAddrP rfl rfl fd30_1 rfl rfl) ?_   -- 11
    refine TrC.take ⟨_, _, rfl, rfl, rfl⟩ (step_loadP1 rfl rfl rfl ty28 rfl rfl) ?_   -- 12
    refine TrC.take ⟨_, _, rfl, rfl, rfl⟩ (step_lenT (rt := 0) rfl rfl sl28 rfl) ?_   -- 13
    refine TrC.take ⟨_, _, rfl, rfl, rfl⟩ (step_bin rfl rfl rfl rfl rfl) ?_   -- 14
    refine TrC.take rfl (step_pick rfl rfl rfl rfl) ?_   -- 15
    refine TrC.take rfl (step_move rfl rfl rfl) ?_   -- 16
    refine TrC.cases (d := 23) rfl (fun h23 => ?_) (fun h23 => ?_)
    · -- t23 = true
      refine TrC.skip ⟨_, _, rfl, rfl, rfl⟩ ?_   -- 17
      refine TrC.skip ⟨_, _, rfl, rfl, rfl⟩ ?_   -- 18
      refine TrC.skip ⟨_, _, rfl, rfl, rfl⟩ ?_   -- 19
      refine TrC.skip ⟨_, _, rfl, rfl, rfl⟩ ?_   -- 20
      refine TrC.skip ⟨_, _, rfl, rfl, rfl⟩ ?_   -- 21
      refine TrC.take rfl (step_pick rfl rfl rfl rfl) ?_   -- 22
      refine TrC.done ?_
      refine AT.condT rfl ?_   -- t29
      refine AT.seq ?_
      have hs : decide (m = n) = false := decide_eq_false (fun he => by subst he; first | (simp at h29; done) | (simp at h23; done) | (simp at h14; done))
      refine AT.region ?_   -- region 2 ref.go:154
      refine TrC.take rfl (step_assign rfl rfl rfl) ?_   -- 0
      refine TrC.done ?_
      refine AT.ret ?_
      exact Ret.one rfl (ResR.tmp rfl (conv_b hs.symm))
    · -- t23 = false
      refine TrC.take ⟨_, _, rfl, rfl, rfl⟩ (step_fieldAddrP rfl rfl fd30_2 rfl rfl) ?_   -- 17
      refine TrC.take ⟨_, _, rfl, rfl, rfl⟩ (step_loadP1 rfl rfl rfl ty3 rfl rfl) ?_   -- 18
      refine TrC.take ⟨_, _, rfl, rfl, rfl⟩ (step_fieldAddrP rfl rfl fd30_2 rfl rfl) ?_   -- 19
      refine TrC.take ⟨_, _, rfl, rfl, rfl⟩ (step_loadP1 rfl rfl rfl ty3 rfl rfl) ?_   -- 20
      refine TrC.take ⟨_, _, rfl, rfl, rfl⟩ (step_bin rfl rfl rfl rfl rfl) ?_   -- 21
      refine TrC.take rfl (step_pick rfl rfl rfl rfl) ?_   -- 22
      refine TrC.done ?_
      refine AT.cond rfl (fun h29 => ?_) (fun h29 => ?_)   -- t29
      · -- true
        refine AT.seq ?_
        have hs : decide (m = n) = false := decide_eq_false (fun he => by subst he; first | (simp at h29; done) | (simp at h23; done) | (simp at h14; done))
        refine AT.region ?_   -- region 2 ref.go:154
        refine TrC.take rfl (step_assign rfl rfl rfl) ?_   -- 0
        refine TrC.done ?_
        refine AT.ret ?_
        exact Ret.one rfl (ResR.tmp rfl (conv_b hs.symm))
      · -- false
        refine AT.skip ?_
        refine AT.seq ?_
        refine AT.seq ?_
        have e1 : m.fl.length = n.fl.length := by have h := h14; simp at h; omega
        have e2 : m.cuts.length = n.cuts.length := by have h := h23; simp at h; omega
        have e3 : m.next = n.next := by have h := h29; simp at h; omega
        refine AT.region ?_   -- region 3 ref.go:156
        refine TrC.take rfl (step_assign rfl rfl rfl) ?_   -- 0
        refine TrC.done ?_
        refine AT.block ?_   -- block 0
        refine AT.loopP (fun i : Nat => i ≤ m.fl.length ∧ ∀ j (h : j < m.fl.length) (h' : j < n.fl.length), j < i → m.fl[j] = n.fl[j]) (fun i => mkS [(2, .p 2 0), (3, .p 3 0), (5, .t (.i i))] [(2, .box 30 [.t (.slice 3 (m.fl.map encP)), .t (.slice 2 (m.cuts.map encC)), .t (.i m.next)]), (3, .box 30 [.t (.slice 3 (n.fl.map encP)), .t (.slice 2 (n.cuts.map encC)), .t (.i n.next)])]) (fun i => m.fl.length - i) (0) (⟨by omega, fun j h h' hj => by omega⟩) (fun a w hs => Sat.wk [] (.cons (.p rfl) (.cons (.p rfl) (.cons (.t (.refl _)) (.nil)))) (.cons rfl (.box (.cons (.t (.refl _)) (.cons (.t (.refl _)) (.cons (.t (.refl _)) (.nil))))) (.cons rfl (.box (.cons (.t (.refl _)) (.cons (.t (.refl _)) (.cons (.t (.refl _)) (.nil))))) (.nil))) rfl rfl a w hs) (fun ix hix => ?_)
        obtain ⟨hi, hpre⟩ := hix
        refine AT.seq ?_
        refine AT.seq ?_
        refine AT.region ?_   -- region 4 ref.go:156
        refine TrC.take rfl (step_move rfl rfl rfl) ?_   -- 0
        refine TrC.take rfl (step_fieldAddrP rfl rfl fd30_0 rfl rfl) ?_   -- 1
        refine TrC.take rfl (step_loadP1 rfl rfl rfl ty27 rfl rfl) ?_   -- 2
        refine TrC.take rfl (step_lenT (rt := 0) rfl rfl sl27 rfl) ?_   -- 3
        refine TrC.take rfl (step_bin rfl rfl rfl rfl rfl) ?_   -- 4
        refine TrC.done ?_
        refine AT.cond rfl (fun h34 => ?_) (fun h34 => ?_)   -- t34
        · -- true
          have hlt : ix < m.fl.length := by simpa using h34
          have hlt2 : ix < n.fl.length := by omega
          have hget : (m.fl.map encP)[ix]? = some (.agg [.i m.fl[ix].id, .i m.fl[ix].fr, .i m.fl[ix].to]) := by simp [hlt, encP]
          have hget2 : (n.fl.map encP)[ix]? = some (.agg [.i n.fl[ix].id, .i n.fl[ix].fr, .i n.fl[ix].to]) := by simp [hlt2, encP]
          refine AT.skip ?_
          refine AT.seq ?_
          refine AT.block ?_   -- block 1
          refine AT.seq ?_
          refine AT.regionD mixed rfl ?_   -- region 6 ref.go:157
          refine TrC.take rfl (step_fieldAddrP rfl rfl fd30_0 rfl rfl) ?_   -- 0
          refine TrC.take rfl (step_loadP1 rfl rfl rfl ty27 rfl rfl) ?_   -- 1
          refine TrC.take rfl (step_move rfl rfl rfl) ?_   -- 2
          refine TrC.take rfl (step_indexAddrT (v := .agg [.i m.fl[ix].id, .i m.fl[ix].fr, .i m.fl[ix].to]) rfl rfl rfl sl27 (by omega) (by simpa using hget) rfl rfl) ?_   -- 3
          refine TrC.take rfl (step_loadTN rfl rfl ty25 rfl rfl) ?_   -- 4
          refine TrC.take rfl (step_fieldAddrP rfl rfl fd30_0 rfl rfl) ?_   -- 5
          refine TrC.take rfl (step_loadP1 rfl rfl rfl ty27 rfl rfl) ?_   -- 6
          refine TrC.take rfl (step_move rfl rfl rfl) ?_   -- 7
          refine TrC.take rfl (step_indexAddrT (v := .agg [.i n.fl[ix].id, .i n.fl[ix].fr, .i n.fl[ix].to]) rfl rfl rfl sl27 (by omega) (by simpa using hget2) rfl rfl) ?_   -- 8
          refine TrC.take rfl (step_loadTN rfl rfl ty25 rfl rfl) ?_   -- 9
          refine TrC.take rfl (step_nea rfl rfl rfl rfl rfl ty25 eg25 (eq25 _ _ _ _ _ _) rfl) ?_   -- 10
          refine TrC.doneD rfl ?_
          refine AT.cond rfl (fun h47 => ?_) (fun h47 => ?_)   -- t47
          · -- true
            have hs : decide (m = n) = false := decide_eq_false (fun he => by subst he; simp at h47)
            refine AT.seq ?_
            refine AT.region ?_   -- region 7 ref.go:158
            refine TrC.take rfl (step_assign rfl rfl rfl) ?_   -- 0
            refine TrC.done ?_
            refine AT.ret ?_
            exact Ret.one rfl (ResR.tmp rfl (conv_b hs.symm))
          · -- false
            have heq : m.fl[ix] = n.fl[ix] := pk_eq (by simpa using h47)
            refine AT.skip ?_
            refine AT.region ?_   -- region 5 ref.go:156
            refine TrC.take rfl (step_move rfl rfl rfl) ?_   -- 0
            refine TrC.take rfl (step_addI rfl rfl rfl (by omega) (by omega) rfl) ?_   -- 1
            refine TrC.take rfl (step_assign rfl rfl rfl) ?_   -- 2
            refine TrC.done ?_
            exact ⟨ix + 1, ⟨by omega, fun j hj hj' hji => by
              by_cases he : j = ix
              · subst he; exact heq
              · exact hpre j hj hj' (by omega)⟩, by show m.fl.length - (ix + 1) < m.fl.length - ix; omega, Sat.wk [] (.cons (.p rfl) (.cons (.p rfl) (.cons (.t (conv_i (by simp))) (.nil)))) (.cons rfl (.box (.cons (.t (.refl _)) (.cons (.t (.refl _)) (.cons (.t (.refl _)) (.nil))))) (.cons rfl (.box (.cons (.t (.refl _)) (.cons (.t (.refl _)) (.cons (.t (.refl _)) (.nil))))) (.nil))) rfl rfl⟩
        · -- false
          have hf : m.fl = n.fl := by
            have hge : ¬ ix < m.fl.length := by simpa using h34
            exact List.ext_getElem e1 fun j h h' => hpre j h h' (by omega)
          refine AT.exit (Or.inl ⟨rfl, ?_⟩)   -- exit 0
          refine AT.seq ?_
          refine AT.seq ?_
          refine AT.region ?_   -- region 8 ref.go:161
          refine TrC.take rfl (step_assign rfl rfl rfl) ?_   -- 0
          refine TrC.done ?_
          refine AT.block ?_   -- block 2
          refine AT.loopP (fun i : Nat => i ≤ m.cuts.length ∧ ∀ j (h : j < m.cuts.length) (h' : j < n.cuts.length), j < i → m.cuts[j] = n.cuts[j]) (fun i => mkS [(2, .p 2 0), (3, .p 3 0), (6, .t (.i i))] [(2, .box 30 [.t (.slice 3 (m.fl.map encP)), .t (.slice 2 (m.cuts.map encC)), .t (.i m.next)]), (3, .box 30 [.t (.slice 3 (n.fl.map encP)), .t (.slice 2 (n.cuts.map encC)), .t (.i n.next)])]) (fun i => m.cuts.length - i) (0) (⟨by omega, fun j h h' hj => by omega⟩) (fun a w hs => Sat.wk [] (.cons (.p rfl) (.cons (.p rfl) (.cons (.t (.refl _)) (.nil)))) (.cons rfl (.box (.cons (.t (.refl _)) (.cons (.t (.refl _)) (.cons (.t (.refl _)) (.nil))))) (.cons rfl (.box (.cons (.t (.refl _)) (.cons (.t (.refl _)) (.cons (.t (.refl _)) (.nil))))) (.nil))) rfl rfl a w hs) (fun iy hiy => ?_)
          obtain ⟨hyi, hypre⟩ := hiy
          refine AT.seq ?_
          refine AT.seq ?_
          refine AT.region ?_   -- region 9 ref.go:161
          refine TrC.take rfl (step_move rfl rfl rfl) ?_   -- 0
          refine TrC.take rfl (step_fieldAddrP rfl rfl fd30_1 rfl rfl) ?_   -- 1
          refine TrC.take rfl (step_loadP1 rfl rfl rfl ty28 rfl rfl) ?_   -- 2
          refine TrC.take rfl (step_lenT (rt := 0) rfl rfl sl28 rfl) ?_   -- 3
          refine TrC.take rfl (step_bin rfl rfl rfl rfl rfl) ?_   -- 4
          refine TrC.done ?_
          refine AT.cond rfl (fun h52 => ?_) (fun h52 => ?_)   -- t52
          · -- true
            have hlt : iy < m.cuts.length := by simpa using h52
            have hlt2 : iy < n.cuts.length := by omega
            have hget : (m.cuts.map encC)[iy]? = some (.agg [.i m.cuts[iy].1, .i m.cuts[iy].2]) := by simp [hlt, encC]
            have hget2 : (n.cuts.map encC)[iy]? = some (.agg [.i n.cuts[iy].1, .i n.cuts[iy].2]) := by simp [hlt2, encC]
            refine AT.skip ?_
            refine AT.seq ?_
            refine AT.block ?_   -- block 3
            refine AT.seq ?_
            refine AT.regionD mixed rfl ?_   -- region 11 ref.go:162
            refine TrC.take rfl (step_fieldAddrP rfl rfl fd30_1 rfl rfl) ?_   -- 0
            refine TrC.take rfl (step_loadP1 rfl rfl rfl ty28 rfl rfl) ?_   -- 1
            refine TrC.take rfl (step_move rfl rfl rfl) ?_   -- 2
            refine TrC.take rfl (step_indexAddrT (v := .agg [.i m.cuts[iy].1, .i m.cuts[iy].2]) rfl rfl rfl sl28 (by omega) (by simpa using hget) rfl rfl) ?_   -- 3
            refine TrC.take rfl (step_loadTN rfl rfl ty32 rfl rfl) ?_   -- 4
            refine TrC.take rfl (step_fieldAddrP rfl rfl fd30_1 rfl rfl) ?_   -- 5
            refine TrC.take rfl (step_loadP1 rfl rfl rfl ty28 rfl rfl) ?_   -- 6
            refine TrC.take rfl (step_move rfl rfl rfl) ?_   -- 7
            refine TrC.take rfl (step_indexAddrT (v := .agg [.i n.cuts[iy].1, .i n.cuts[iy].2]) rfl rfl rfl sl28 (by omega) (by simpa using hget2) rfl rfl) ?_   -- 8
            refine TrC.take rfl (step_loadTN rfl rfl ty32 rfl rfl) ?_   -- 9
            refine TrC.take rfl (step_nea rfl rfl rfl rfl rfl ty32 eg32 (eq32 _ _ _ _) rfl) ?_   -- 10
            refine TrC.doneD rfl ?_
            refine AT.cond rfl (fun h65 => ?_) (fun h65 => ?_)   -- t65
            · -- true
              have hs : decide (m = n) = false := decide_eq_false (fun he => by subst he; simp at h65)
              refine AT.seq ?_
              refine AT.region ?_   -- region 12 ref.go:163
              refine TrC.take rfl (step_assign rfl rfl rfl) ?_   -- 0
              refine TrC.done ?_
              refine AT.ret ?_
              exact Ret.one rfl (ResR.tmp rfl (conv_b hs.symm))
            · -- false
              have heq : m.cuts[iy] = n.cuts[iy] := Prod.ext_iff.2 (by simpa using h65)
              refine AT.skip ?_
              refine AT.region ?_   -- region 10 ref.go:161
              refine TrC.take rfl (step_move rfl rfl rfl) ?_   -- 0
              refine TrC.take rfl (step_addI rfl rfl rfl (by omega) (by omega) rfl) ?_   -- 1
              refine TrC.take rfl (step_assign rfl rfl rfl) ?_   -- 2
              refine TrC.done ?_
              exact ⟨iy + 1, ⟨by omega, fun j hj hj' hji => by
                by_cases he : j = iy
                · subst he; exact heq
                · exact hypre j hj hj' (by omega)⟩, by show m.cuts.length - (iy + 1) < m.cuts.length - iy; omega, Sat.wk [] (.cons (.p rfl) (.cons (.p rfl) (.cons (.t (conv_i (by simp))) (.nil)))) (.cons rfl (.box (.cons (.t (.refl _)) (.cons (.t (.refl _)) (.cons (.t (.refl _)) (.nil))))) (.cons rfl (.box (.cons (.t (.refl _)) (.cons (.t (.refl _)) (.cons (.t (.refl _)) (.nil))))) (.nil))) rfl rfl⟩
          · -- false
            have hg : m.cuts = n.cuts := by
              have hge : ¬ iy < m.cuts.length := by simpa using h52
              exact List.ext_getElem e2 fun j h h' => hypre j h h' (by omega)
            have hs : decide (m = n) = true := decide_eq_true (by cases m; cases n; simp_all)
            refine AT.exit (Or.inl ⟨rfl, ?_⟩)   -- exit 2
            refine AT.seq ?_
            refine AT.region ?_   -- region 13 ref.go:166
            refine TrC.take rfl (step_assign rfl rfl rfl) ?_   -- 0
            refine TrC.done ?_
            refine AT.ret ?_
            exact Ret.one rfl (ResR.tmp rfl (conv_b hs.symm))

theorem C16 (x y : Taken) (hl : x.n.fl.length ≤ 1000000) (hl' : x.n.cuts.length ≤ 1000000) : Has Try.prog 16 [encTaken x, encTaken y] (.b (decide (x = y))) := by   -- burgage/burgageref32.SameTaken
  refine Has.intro 24 Try.func16 (by kernel_rfl) rfl rfl fun w ok => ?_
  refine AT.seq ?_
  refine AT.region ?_   -- region 0 ref.go:170
  refine TrC.take rfl (step_box rfl rfl rfl rfl rfl rfl rfl) ?_   -- 0
  refine TrC.take rfl (step_box rfl rfl rfl rfl rfl rfl rfl) ?_   -- 1
  refine TrC.take rfl (step_assign rfl rfl rfl) ?_   -- 2
  refine TrC.done ?_
  refine AT.seq ?_
  refine AT.region ?_   -- region 1 ref.go:170
  refine TrC.take rfl (step_fieldAddrP rfl rfl fd40_0 rfl rfl) ?_   -- 0
  refine TrC.take rfl (step_loadPN rfl rfl rfl ty30 rfl rfl rfl) ?_   -- 1
  refine TrC.take rfl (step_fieldAddrP rfl rfl fd40_0 rfl rfl) ?_   -- 2
  refine TrC.take rfl (step_loadPN rfl rfl rfl ty30 rfl rfl rfl) ?_   -- 3
  refine TrC.take rfl (step_call0 rfl rfl (C15 x.n y.n hl hl') rfl) ?_   -- 4
  refine TrC.take rfl (step_move rfl rfl rfl) ?_   -- 5
  refine TrC.cases (d := 10) rfl (fun h10 => ?_) (fun h10 => ?_)
  · -- t10 = true
    refine TrC.take ⟨_, _, rfl, rfl, rfl⟩ (step_fieldAddrP rfl rfl fd40_1 rfl rfl) ?_   -- 6
    refine TrC.take ⟨_, _, rfl, rfl, rfl⟩ (step_loadPN rfl rfl rfl ty25 rfl rfl rfl) ?_   -- 7
    refine TrC.take ⟨_, _, rfl, rfl, rfl⟩ (step_fieldAddrP rfl rfl fd40_1 rfl rfl) ?_   -- 8
    refine TrC.take ⟨_, _, rfl, rfl, rfl⟩ (step_loadPN rfl rfl rfl ty25 rfl rfl rfl) ?_   -- 9
    refine TrC.take ⟨_, _, rfl, rfl, rfl⟩ (step_eqa rfl rfl rfl rfl rfl ty25 eg25 (eq25 _ _ _ _ _ _) rfl) ?_   -- 10
    refine TrC.take rfl (step_pick rfl rfl rfl rfl) ?_   -- 11
    refine TrC.take rfl (step_move rfl rfl rfl) ?_   -- 12
    refine TrC.cases (d := 17) rfl (fun h17 => ?_) (fun h17 => ?_)
    · -- t17 = true
      refine TrC.take ⟨_, _, rfl, rfl, rfl⟩ (step_fieldAddrP rfl rfl fd40_2 rfl rfl) ?_   -- 13
      refine TrC.take ⟨_, _, rfl, rfl, rfl⟩ (step_loadP1 rfl rfl rfl ty33 rfl rfl) ?_   -- 14
      refine TrC.take ⟨_, _, rfl, rfl, rfl⟩ (step_fieldAddrP rfl rfl fd40_2 rfl rfl) ?_   -- 15
      refine TrC.take ⟨_, _, rfl, rfl, rfl⟩ (step_loadP1 rfl rfl rfl ty33 rfl rfl) ?_   -- 16
      refine TrC.take ⟨_, _, rfl, rfl, rfl⟩ (step_bin rfl rfl rfl rfl rfl) ?_   -- 17
      refine TrC.take rfl (step_pick rfl rfl rfl rfl) ?_   -- 18
      refine TrC.take rfl (step_assign rfl rfl rfl) ?_   -- 19
      refine TrC.done ?_
      refine AT.ret ?_
      exact Ret.one rfl (ResR.tmp rfl (conv_b (by rw [tk_eq]; first | (simp_all; done) | (rw [Bool.eq_iff_iff]; simp_all; done))))
    · -- t17 = false
      refine TrC.skip ⟨_, _, rfl, rfl, rfl⟩ ?_   -- 13
      refine TrC.skip ⟨_, _, rfl, rfl, rfl⟩ ?_   -- 14
      refine TrC.skip ⟨_, _, rfl, rfl, rfl⟩ ?_   -- 15
      refine TrC.skip ⟨_, _, rfl, rfl, rfl⟩ ?_   -- 16
      refine TrC.skip ⟨_, _, rfl, rfl, rfl⟩ ?_   -- 17
      refine TrC.take rfl (step_pick rfl rfl rfl rfl) ?_   -- 18
      refine TrC.take rfl (step_assign rfl rfl rfl) ?_   -- 19
      refine TrC.done ?_
      refine AT.ret ?_
      exact Ret.one rfl (ResR.tmp rfl (conv_b (by rw [tk_eq]; first | (simp_all; done) | (rw [Bool.eq_iff_iff]; simp_all; done))))
  · -- t10 = false
    refine TrC.skip ⟨_, _, rfl, rfl, rfl⟩ ?_   -- 6
    refine TrC.skip ⟨_, _, rfl, rfl, rfl⟩ ?_   -- 7
    refine TrC.skip ⟨_, _, rfl, rfl, rfl⟩ ?_   -- 8
    refine TrC.skip ⟨_, _, rfl, rfl, rfl⟩ ?_   -- 9
    refine TrC.skip ⟨_, _, rfl, rfl, rfl⟩ ?_   -- 10
    refine TrC.take rfl (step_pick rfl rfl rfl rfl) ?_   -- 11
    refine TrC.take rfl (step_move rfl rfl rfl) ?_   -- 12
    refine TrC.skip ⟨_, _, rfl, rfl, rfl⟩ ?_   -- 13
    refine TrC.skip ⟨_, _, rfl, rfl, rfl⟩ ?_   -- 14
    refine TrC.skip ⟨_, _, rfl, rfl, rfl⟩ ?_   -- 15
    refine TrC.skip ⟨_, _, rfl, rfl, rfl⟩ ?_   -- 16
    refine TrC.skip ⟨_, _, rfl, rfl, rfl⟩ ?_   -- 17
    refine TrC.take rfl (step_pick rfl rfl rfl rfl) ?_   -- 18
    refine TrC.take rfl (step_assign rfl rfl rfl) ?_   -- 19
    refine TrC.done ?_
    refine AT.ret ?_
    exact Ret.one rfl (ResR.tmp rfl (conv_b (by rw [tk_eq]; first | (simp_all; done) | (rw [Bool.eq_iff_iff]; simp_all; done))))

end Go.Proofs.Ytnemmdbafngppaa.Net
