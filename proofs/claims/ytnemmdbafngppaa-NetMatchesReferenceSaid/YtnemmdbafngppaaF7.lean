/- Contracts of functions of this translation. Printed by wip/tools/gen.py out of wip/net/ann.py. No condition. -/
import Derived.Test.YtnemmdbafngppaaF6
set_option linter.unusedVariables false
set_option linter.unusedSimpArgs false
namespace Go.Proofs.Ytnemmdbafngppaa.Net
open Go.Proofs.Ytnemmdbafngppaa.Abs
set_option maxRecDepth 100000
set_option maxHeartbeats 4000000
theorem C27 (n : Net) (hl : n.fl.length ≤ 1000000) (hl' : n.cuts.length ≤ 1000000) : Has Try.prog 27 [encN n] (.b (valid n)) := by   -- burgage/burgageref32.Valid
  refine Has.intro 113 Try.func27 (by kernel_rfl) rfl rfl fun w ok => ?_
  refine AT.seq ?_
  refine AT.region ?_   -- region 0 ref.go:16
  refine TrC.take rfl (step_box rfl rfl rfl rfl rfl rfl rfl) ?_   -- 0
  refine TrC.take rfl (step_assign rfl rfl rfl) ?_   -- 1
  refine TrC.done ?_
  refine AT.seq ?_
  refine AT.seq ?_
  refine AT.region ?_   -- region 1 ref.go:17
  refine TrC.take rfl (step_assign rfl rfl rfl) ?_   -- 0
  refine TrC.done ?_
  refine AT.block ?_   -- block 0
  refine AT.loopP (fun i : Nat => i ≤ n.fl.length ∧ ∀ j, j < i → okP n j = true) (fun i => mkS [(1, .p 1 0), (3, .t (.i i))] [(1, .box 30 [.t (.slice 3 (n.fl.map encP)), .t (.slice 2 (n.cuts.map encC)), .t (.i n.next)])]) (fun i => n.fl.length - i) (0) (⟨by omega, fun j hj => by omega⟩) (fun a w hs => Sat.wk [] (.cons (.p rfl) (.cons (.t (.refl _)) (.nil))) (.cons rfl (.box (.cons (.t (.refl _)) (.cons (.t (.refl _)) (.cons (.t (.refl _)) (.nil))))) (.nil)) rfl rfl a w hs) (fun ix hix => ?_)
  obtain ⟨hi, hpre⟩ := hix
  refine AT.seq ?_
  refine AT.seq ?_
  refine AT.region ?_   -- region 2 ref.go:17
  refine TrC.take rfl (step_move rfl rfl rfl) ?_   -- 0
  refine TrC.take rfl (step_fieldAddrP rfl rfl fd30_0 rfl rfl) ?_   -- 1
  refine TrC.take rfl (step_loadP1 rfl rfl rfl ty27 rfl rfl) ?_   -- 2
  refine TrC.take rfl (step_lenT (rt := 0) rfl rfl sl27 rfl) ?_   -- 3
  refine TrC.take rfl (step_bin rfl rfl rfl rfl rfl) ?_   -- 4
  refine TrC.done ?_
  refine AT.cond rfl (fun h11 => ?_) (fun h11 => ?_)   -- t11
  · -- true
    have hlt : ix < n.fl.length := by simpa using h11
    have hget : (n.fl.map encP)[ix]? = some (.agg [.i n.fl[ix].id, .i n.fl[ix].fr, .i n.fl[ix].to]) := by simp [hlt, encP]
    refine AT.skip ?_
    refine AT.seq ?_
    refine AT.block ?_   -- block 1
    refine AT.seq ?_
    refine AT.region ?_   -- region 4 ref.go:18
    refine TrC.take rfl (step_fieldAddrP rfl rfl fd30_0 rfl rfl) ?_   -- 0
    refine TrC.take rfl (step_loadP1 rfl rfl rfl ty27 rfl rfl) ?_   -- 1
    refine TrC.take rfl (step_move rfl rfl rfl) ?_   -- 2
    refine TrC.take rfl (step_indexAddrT (v := .agg [.i n.fl[ix].id, .i n.fl[ix].fr, .i n.fl[ix].to]) rfl rfl rfl sl27 (by omega) (by simpa using hget) rfl rfl) ?_   -- 3
    refine TrC.take rfl (step_loadTN rfl rfl ty25 rfl rfl) ?_   -- 4
    refine TrC.take rfl (step_alloc rfl rfl ze25 rfl rfl rfl) ?_   -- 5
    refine TrC.take rfl (step_storeP rfl rfl rfl rfl rfl (.inl rfl) ty25 rfl rfl rfl) ?_   -- 6
    refine TrC.done ?_
    refine AT.seq ?_
    refine AT.regionD mixed rfl ?_   -- region 5 ref.go:19
    refine TrC.take rfl (step_fieldAddrP rfl rfl fd25_0 rfl rfl) ?_   -- 0
    refine TrC.take rfl (step_loadP1 rfl rfl rfl ty3 rfl rfl) ?_   -- 1
    refine TrC.take rfl (step_bin rfl rfl rfl rfl rfl) ?_   -- 2
    refine TrC.take rfl (step_move rfl rfl rfl) ?_   -- 3
    refine TrC.cases (d := 22) rfl (fun h22 => ?_) (fun h22 => ?_)
    · -- t22 = true
      refine TrC.skip ⟨_, _, rfl, rfl, rfl⟩ ?_   -- 4
      refine TrC.skip ⟨_, _, rfl, rfl, rfl⟩ ?_   -- 5
      refine TrC.skip ⟨_, _, rfl, rfl, rfl⟩ ?_   -- 6
      refine TrC.skip ⟨_, _, rfl, rfl, rfl⟩ ?_   -- 7
      refine TrC.skip ⟨_, _, rfl, rfl, rfl⟩ ?_   -- 8
      refine TrC.take rfl (step_pick rfl rfl rfl rfl) ?_   -- 9
      refine TrC.take rfl (step_move rfl rfl rfl) ?_   -- 10
      refine TrC.skip ⟨_, _, rfl, rfl, rfl⟩ ?_   -- 11
      refine TrC.skip ⟨_, _, rfl, rfl, rfl⟩ ?_   -- 12
      refine TrC.skip ⟨_, _, rfl, rfl, rfl⟩ ?_   -- 13
      refine TrC.skip ⟨_, _, rfl, rfl, rfl⟩ ?_   -- 14
      refine TrC.skip ⟨_, _, rfl, rfl, rfl⟩ ?_   -- 15
      refine TrC.skip ⟨_, _, rfl, rfl, rfl⟩ ?_   -- 16
      refine TrC.take rfl (step_pick rfl rfl rfl rfl) ?_   -- 17
      refine TrC.take rfl (step_move rfl rfl rfl) ?_   -- 18
      refine TrC.skip ⟨_, _, rfl, rfl, rfl⟩ ?_   -- 19
      refine TrC.skip ⟨_, _, rfl, rfl, rfl⟩ ?_   -- 20
      refine TrC.skip ⟨_, _, rfl, rfl, rfl⟩ ?_   -- 21
      refine TrC.skip ⟨_, _, rfl, rfl, rfl⟩ ?_   -- 22
      refine TrC.skip ⟨_, _, rfl, rfl, rfl⟩ ?_   -- 23
      refine TrC.skip ⟨_, _, rfl, rfl, rfl⟩ ?_   -- 24
      refine TrC.skip ⟨_, _, rfl, rfl, rfl⟩ ?_   -- 25
      refine TrC.skip ⟨_, _, rfl, rfl, rfl⟩ ?_   -- 26
      refine TrC.skip ⟨_, _, rfl, rfl, rfl⟩ ?_   -- 27
      refine TrC.skip ⟨_, _, rfl, rfl, rfl⟩ ?_   -- 28
      refine TrC.skip ⟨_, _, rfl, rfl, rfl⟩ ?_   -- 29
      refine TrC.skip ⟨_, _, rfl, rfl, rfl⟩ ?_   -- 30
      refine TrC.skip ⟨_, _, rfl, rfl, rfl⟩ ?_   -- 31
      refine TrC.skip ⟨_, _, rfl, rfl, rfl⟩ ?_   -- 32
      refine TrC.take rfl (step_pick rfl rfl rfl rfl) ?_   -- 33
      refine TrC.doneD rfl ?_
      refine AT.condT rfl ?_   -- t52
      refine AT.seq ?_
      have hs : valid n = false := by
        refine valid_badP hlt ?_
        unfold okP; rw [getP hlt]
        first | (simp_all; done) | (simp_all <;> omega)
      refine AT.region ?_   -- region 6 ref.go:20
      refine TrC.take rfl (step_assign rfl rfl rfl) ?_   -- 0
      refine TrC.done ?_
      refine AT.ret ?_
      exact Ret.one rfl (ResR.tmp rfl (conv_b hs.symm))
    · -- t22 = false
      refine TrC.take ⟨_, _, rfl, rfl, rfl⟩ (step_fieldAddrP rfl rfl fd25_0 rfl rfl) ?_   -- 4
      refine TrC.take ⟨_, _, rfl, rfl, rfl⟩ (step_loadP1 rfl rfl rfl ty3 rfl rfl) ?_   -- 5
      refine TrC.take ⟨_, _, rfl, rfl, rfl⟩ (step_fieldAddrP rfl rfl fd30_2 rfl rfl) ?_   -- 6
      refine TrC.take ⟨_, _, rfl, rfl, rfl⟩ (step_loadP1 rfl rfl rfl ty3 rfl rfl) ?_   -- 7
      refine TrC.take ⟨_, _, rfl, rfl, rfl⟩ (step_bin rfl rfl rfl rfl rfl) ?_   -- 8
      refine TrC.take rfl (step_pick rfl rfl rfl rfl) ?_   -- 9
      refine TrC.take rfl (step_move rfl rfl rfl) ?_   -- 10
      refine TrC.cases (d := 29) rfl (fun h29 => ?_) (fun h29 => ?_)
      · -- t29 = true
        refine TrC.skip ⟨_, _, rfl, rfl, rfl⟩ ?_   -- 11
        refine TrC.skip ⟨_, _, rfl, rfl, rfl⟩ ?_   -- 12
        refine TrC.skip ⟨_, _, rfl, rfl, rfl⟩ ?_   -- 13
        refine TrC.skip ⟨_, _, rfl, rfl, rfl⟩ ?_   -- 14
        refine TrC.skip ⟨_, _, rfl, rfl, rfl⟩ ?_   -- 15
        refine TrC.skip ⟨_, _, rfl, rfl, rfl⟩ ?_   -- 16
        refine TrC.take rfl (step_pick rfl rfl rfl rfl) ?_   -- 17
        refine TrC.take rfl (step_move rfl rfl rfl) ?_   -- 18
        refine TrC.skip ⟨_, _, rfl, rfl, rfl⟩ ?_   -- 19
        refine TrC.skip ⟨_, _, rfl, rfl, rfl⟩ ?_   -- 20
        refine TrC.skip ⟨_, _, rfl, rfl, rfl⟩ ?_   -- 21
        refine TrC.skip ⟨_, _, rfl, rfl, rfl⟩ ?_   -- 22
        refine TrC.skip ⟨_, _, rfl, rfl, rfl⟩ ?_   -- 23
        refine TrC.skip ⟨_, _, rfl, rfl, rfl⟩ ?_   -- 24
        refine TrC.skip ⟨_, _, rfl, rfl, rfl⟩ ?_   -- 25
        refine TrC.skip ⟨_, _, rfl, rfl, rfl⟩ ?_   -- 26
        refine TrC.skip ⟨_, _, rfl, rfl, rfl⟩ ?_   -- 27
        refine TrC.skip ⟨_, _, rfl, rfl, rfl⟩ ?_   -- 28
        refine TrC.skip ⟨_, _, rfl, rfl, rfl⟩ ?_   -- 29
        refine TrC.skip ⟨_, _, rfl, rfl, rfl⟩ ?_   -- 30
        refine TrC.skip ⟨_, _, rfl, rfl, rfl⟩ ?_   -- 31
        refine TrC.skip ⟨_, _, rfl, rfl, rfl⟩ ?_   -- 32
        refine TrC.take rfl (step_pick rfl rfl rfl rfl) ?_   -- 33
        refine TrC.doneD rfl ?_
        refine AT.condT rfl ?_   -- t52
        refine AT.seq ?_
        have hs : valid n = false := by
          refine valid_badP hlt ?_
          unfold okP; rw [getP hlt]
          first | (simp_all; done) | (simp_all <;> omega)
        refine AT.region ?_   -- region 6 ref.go:20
        refine TrC.take rfl (step_assign rfl rfl rfl) ?_   -- 0
        refine TrC.done ?_
        refine AT.ret ?_
        exact Ret.one rfl (ResR.tmp rfl (conv_b hs.symm))
      · -- t29 = false
        refine TrC.take ⟨_, _, rfl, rfl, rfl⟩ (step_fieldAddrP rfl rfl fd25_1 rfl rfl) ?_   -- 11
        refine TrC.take ⟨_, _, rfl, rfl, rfl⟩ (step_loadP1 rfl rfl rfl ty3 rfl rfl) ?_   -- 12
        refine TrC.take ⟨_, _, rfl, rfl, rfl⟩ (step_fieldAddrP rfl rfl fd25_2 rfl rfl) ?_   -- 13
        refine TrC.take ⟨_, _, rfl, rfl, rfl⟩ (step_loadP1 rfl rfl rfl ty3 rfl rfl) ?_   -- 14
        refine TrC.take ⟨_, _, rfl, rfl, rfl⟩ (step_call0 rfl rfl (C30 n.fl[ix].fr n.fl[ix].to) rfl) ?_   -- 15
        refine TrC.take ⟨_, _, rfl, rfl, rfl⟩ (step_not rfl rfl rfl) ?_   -- 16
        refine TrC.take rfl (step_pick rfl rfl rfl rfl) ?_   -- 17
        refine TrC.take rfl (step_move rfl rfl rfl) ?_   -- 18
        refine TrC.cases (d := 37) rfl (fun h37 => ?_) (fun h37 => ?_)
        · -- t37 = true
          refine TrC.skip ⟨_, _, rfl, rfl, rfl⟩ ?_   -- 19
          refine TrC.skip ⟨_, _, rfl, rfl, rfl⟩ ?_   -- 20
          refine TrC.skip ⟨_, _, rfl, rfl, rfl⟩ ?_   -- 21
          refine TrC.skip ⟨_, _, rfl, rfl, rfl⟩ ?_   -- 22
          refine TrC.skip ⟨_, _, rfl, rfl, rfl⟩ ?_   -- 23
          refine TrC.skip ⟨_, _, rfl, rfl, rfl⟩ ?_   -- 24
          refine TrC.skip ⟨_, _, rfl, rfl, rfl⟩ ?_   -- 25
          refine TrC.skip ⟨_, _, rfl, rfl, rfl⟩ ?_   -- 26
          refine TrC.skip ⟨_, _, rfl, rfl, rfl⟩ ?_   -- 27
          refine TrC.skip ⟨_, _, rfl, rfl, rfl⟩ ?_   -- 28
          refine TrC.skip ⟨_, _, rfl, rfl, rfl⟩ ?_   -- 29
          refine TrC.skip ⟨_, _, rfl, rfl, rfl⟩ ?_   -- 30
          refine TrC.skip ⟨_, _, rfl, rfl, rfl⟩ ?_   -- 31
          refine TrC.skip ⟨_, _, rfl, rfl, rfl⟩ ?_   -- 32
          refine TrC.take rfl (step_pick rfl rfl rfl rfl) ?_   -- 33
          refine TrC.doneD rfl ?_
          refine AT.condT rfl ?_   -- t52
          refine AT.seq ?_
          have hs : valid n = false := by
            refine valid_badP hlt ?_
            unfold okP; rw [getP hlt]
            first | (simp_all; done) | (simp_all <;> omega)
          refine AT.region ?_   -- region 6 ref.go:20
          refine TrC.take rfl (step_assign rfl rfl rfl) ?_   -- 0
          refine TrC.done ?_
          refine AT.ret ?_
          exact Ret.one rfl (ResR.tmp rfl (conv_b hs.symm))
        · -- t37 = false
          refine TrC.take ⟨_, _, rfl, rfl, rfl⟩ (step_move rfl rfl rfl) ?_   -- 19
          refine TrC.take ⟨_, _, rfl, rfl, rfl⟩ (step_bin rfl rfl rfl rfl rfl) ?_   -- 20
          refine TrC.take ⟨_, _, rfl, rfl, rfl⟩ (step_move rfl rfl rfl) ?_   -- 21
          refine TrC.cases (d := 40) rfl (fun h40 => ?_) (fun h40 => ?_)
          · -- t40 = true
            have hpos : 0 < ix := by have h := h40; simp at h; omega
            have hq := getP (n := n) (i := ix - 1) (by omega)
            have hget2 : (n.fl.map encP)[ix - 1]? = some (.agg [.i n.fl[ix - 1].id, .i n.fl[ix - 1].fr, .i n.fl[ix - 1].to]) := by rw [List.getElem?_map, List.getElem?_eq_getElem (by omega)]; rfl
            refine TrC.take ⟨_, _, rfl, rfl, rfl⟩ (step_fieldAddrP rfl rfl fd30_0 rfl rfl) ?_   -- 22
            refine TrC.take ⟨_, _, rfl, rfl, rfl⟩ (step_loadP1 rfl rfl rfl ty27 rfl rfl) ?_   -- 23
            refine TrC.take ⟨_, _, rfl, rfl, rfl⟩ (step_move rfl rfl rfl) ?_   -- 24
            refine TrC.take ⟨_, _, rfl, rfl, rfl⟩ (step_subI rfl rfl rfl (by omega) (by omega) rfl) ?_   -- 25
            refine TrC.take ⟨_, _, rfl, rfl, rfl⟩ (step_indexAddrT (v := .agg [.i n.fl[ix - 1].id, .i n.fl[ix - 1].fr, .i n.fl[ix - 1].to]) rfl rfl rfl sl27 (by omega) (by rw [show ((ix : Int) - 1).toNat = ix - 1 from by omega]; exact hget2) rfl rfl) ?_   -- 26
            refine TrC.take ⟨_, _, rfl, rfl, rfl⟩ (step_fieldAddrT rfl rfl fd25_0 rfl rfl rfl) ?_   -- 27
            refine TrC.take ⟨_, _, rfl, rfl, rfl⟩ (step_loadT1 rfl rfl ty3 rfl rfl) ?_   -- 28
            refine TrC.take ⟨_, _, rfl, rfl, rfl⟩ (step_fieldAddrP rfl rfl fd25_0 rfl rfl) ?_   -- 29
            refine TrC.take ⟨_, _, rfl, rfl, rfl⟩ (step_loadP1 rfl rfl rfl ty3 rfl rfl) ?_   -- 30
            refine TrC.take ⟨_, _, rfl, rfl, rfl⟩ (step_bin rfl rfl rfl rfl rfl) ?_   -- 31
            refine TrC.take ⟨_, _, rfl, rfl, rfl⟩ (step_pick rfl rfl rfl rfl) ?_   -- 32
            refine TrC.take rfl (step_pick rfl rfl rfl rfl) ?_   -- 33
            refine TrC.doneD rfl ?_
            refine AT.cond rfl (fun h52 => ?_) (fun h52 => ?_)   -- t52
            · -- true
              refine AT.seq ?_
              have hs : valid n = false := by
                refine valid_badP hlt ?_
                unfold okP; rw [getP hlt]
                first | (simp_all; done) | (simp_all <;> omega)
              refine AT.region ?_   -- region 6 ref.go:20
              refine TrC.take rfl (step_assign rfl rfl rfl) ?_   -- 0
              refine TrC.done ?_
              refine AT.ret ?_
              exact Ret.one rfl (ResR.tmp rfl (conv_b hs.symm))
            · -- false
              refine AT.skip ?_
              refine AT.region ?_   -- region 3 ref.go:17
              refine TrC.take rfl (step_move rfl rfl rfl) ?_   -- 0
              refine TrC.take rfl (step_addI rfl rfl rfl (by omega) (by omega) rfl) ?_   -- 1
              refine TrC.take rfl (step_assign rfl rfl rfl) ?_   -- 2
              refine TrC.done ?_
              have hgood : okP n ix = true := by
                unfold okP; rw [getP hlt]
                first | (simp_all; done) | (simp_all <;> omega)
              exact ⟨ix + 1, ⟨by omega, fun j hji => by
                by_cases he : j = ix
                · subst he; exact hgood
                · exact hpre j (by omega)⟩, by show n.fl.length - (ix + 1) < n.fl.length - ix; omega, Sat.wk [] (.cons (.p rfl) (.cons (.t (conv_i (by simp))) (.nil))) (.cons rfl (.box (.cons (.t (.refl _)) (.cons (.t (.refl _)) (.cons (.t (.refl _)) (.nil))))) (.nil)) rfl rfl⟩
          · -- t40 = false
            have hz : ix = 0 := by have h := h40; simp at h; omega
            refine TrC.skip ⟨_, _, rfl, rfl, rfl⟩ ?_   -- 22
            refine TrC.skip ⟨_, _, rfl, rfl, rfl⟩ ?_   -- 23
            refine TrC.skip ⟨_, _, rfl, rfl, rfl⟩ ?_   -- 24
            refine TrC.skip ⟨_, _, rfl, rfl, rfl⟩ ?_   -- 25
            refine TrC.skip ⟨_, _, rfl, rfl, rfl⟩ ?_   -- 26
            refine TrC.skip ⟨_, _, rfl, rfl, rfl⟩ ?_   -- 27
            refine TrC.skip ⟨_, _, rfl, rfl, rfl⟩ ?_   -- 28
            refine TrC.skip ⟨_, _, rfl, rfl, rfl⟩ ?_   -- 29
            refine TrC.skip ⟨_, _, rfl, rfl, rfl⟩ ?_   -- 30
            refine TrC.skip ⟨_, _, rfl, rfl, rfl⟩ ?_   -- 31
            refine TrC.take ⟨_, _, rfl, rfl, rfl⟩ (step_pick rfl rfl rfl rfl) ?_   -- 32
            refine TrC.take rfl (step_pick rfl rfl rfl rfl) ?_   -- 33
            refine TrC.doneD rfl ?_
            refine AT.condF rfl ?_   -- t52
            refine AT.skip ?_
            refine AT.region ?_   -- region 3 ref.go:17
            refine TrC.take rfl (step_move rfl rfl rfl) ?_   -- 0
            refine TrC.take rfl (step_addI rfl rfl rfl (by omega) (by omega) rfl) ?_   -- 1
            refine TrC.take rfl (step_assign rfl rfl rfl) ?_   -- 2
            refine TrC.done ?_
            have hgood : okP n ix = true := by
              unfold okP; rw [getP hlt]
              first | (simp_all; done) | (simp_all <;> omega)
            exact ⟨ix + 1, ⟨by omega, fun j hji => by
              by_cases he : j = ix
              · subst he; exact hgood
              · exact hpre j (by omega)⟩, by show n.fl.length - (ix + 1) < n.fl.length - ix; omega, Sat.wk [] (.cons (.p rfl) (.cons (.t (conv_i (by simp))) (.nil))) (.cons rfl (.box (.cons (.t (.refl _)) (.cons (.t (.refl _)) (.cons (.t (.refl _)) (.nil))))) (.nil)) rfl rfl⟩
  · -- false
    have hge : ¬ ix < n.fl.length := by simpa using h11
    have hA : ∀ i, i < n.fl.length → okP n i = true := fun i hi => hpre i (by omega)
    refine AT.exit (Or.inl ⟨rfl, ?_⟩)   -- exit 0
    refine AT.seq ?_
    refine AT.seq ?_
    refine AT.region ?_   -- region 7 ref.go:23
    refine TrC.take rfl (step_assign rfl rfl rfl) ?_   -- 0
    refine TrC.done ?_
    refine AT.block ?_   -- block 2
    refine AT.loopP (fun i : Nat => i ≤ n.cuts.length ∧ ∀ j, j < i → okC n j = true) (fun i => mkS [(1, .p 1 0), (5, .t (.i i))] [(1, .box 30 [.t (.slice 3 (n.fl.map encP)), .t (.slice 2 (n.cuts.map encC)), .t (.i n.next)])]) (fun i => n.cuts.length - i) (0) (⟨by omega, fun j hj => by omega⟩) (fun a w hs => Sat.wk [] (.cons (.p rfl) (.cons (.t (.refl _)) (.nil))) (.cons rfl (.box (.cons (.t (.refl _)) (.cons (.t (.refl _)) (.cons (.t (.refl _)) (.nil))))) (.nil)) rfl rfl a w hs) (fun iy hiy => ?_)
    obtain ⟨hyi, hypre⟩ := hiy
    refine AT.seq ?_
    refine AT.seq ?_
    refine AT.region ?_   -- region 8 ref.go:23
    refine TrC.take rfl (step_move rfl rfl rfl) ?_   -- 0
    refine TrC.take rfl (step_fieldAddrP rfl rfl fd30_1 rfl rfl) ?_   -- 1
    refine TrC.take rfl (step_loadP1 rfl rfl rfl ty28 rfl rfl) ?_   -- 2
    refine TrC.take rfl (step_lenT (rt := 0) rfl rfl sl28 rfl) ?_   -- 3
    refine TrC.take rfl (step_bin rfl rfl rfl rfl rfl) ?_   -- 4
    refine TrC.done ?_
    refine AT.cond rfl (fun h57 => ?_) (fun h57 => ?_)   -- t57
    · -- true
      have hlt : iy < n.cuts.length := by simpa using h57
      have hget : (n.cuts.map encC)[iy]? = some (.agg [.i n.cuts[iy].1, .i n.cuts[iy].2]) := by simp [hlt, encC]
      refine AT.skip ?_
      refine AT.seq ?_
      refine AT.block ?_   -- block 3
      refine AT.seq ?_
      refine AT.region ?_   -- region 10 ref.go:24
      refine TrC.take rfl (step_fieldAddrP rfl rfl fd30_1 rfl rfl) ?_   -- 0
      refine TrC.take rfl (step_loadP1 rfl rfl rfl ty28 rfl rfl) ?_   -- 1
      refine TrC.take rfl (step_move rfl rfl rfl) ?_   -- 2
      refine TrC.take rfl (step_indexAddrT (v := .agg [.i n.cuts[iy].1, .i n.cuts[iy].2]) rfl rfl rfl sl28 (by omega) (by simpa using hget) rfl rfl) ?_   -- 3
      refine TrC.take rfl (step_loadTN rfl rfl ty32 rfl rfl) ?_   -- 4
      refine TrC.take rfl (step_alloc rfl rfl ze32 rfl rfl rfl) ?_   -- 5
      refine TrC.take rfl (step_storeP rfl rfl rfl rfl rfl (.inl rfl) ty32 rfl rfl rfl) ?_   -- 6
      refine TrC.done ?_
      refine AT.seq ?_
      refine AT.regionD mixed rfl ?_   -- region 11 ref.go:25
      refine TrC.take rfl (step_indexAddrP rfl rfl rfl ar32 (by decide) (by decide) rfl) ?_   -- 0
      refine TrC.take rfl (step_loadP1 rfl rfl rfl ty3 rfl rfl) ?_   -- 1
      refine TrC.take rfl (step_indexAddrP rfl rfl rfl ar32 (by decide) (by decide) rfl) ?_   -- 2
      refine TrC.take rfl (step_loadP1 rfl rfl rfl ty3 rfl rfl) ?_   -- 3
      refine TrC.take rfl (step_call0 rfl rfl (C30 n.cuts[iy].1 n.cuts[iy].2) rfl) ?_   -- 4
      refine TrC.take rfl (step_not rfl rfl rfl) ?_   -- 5
      refine TrC.take rfl (step_move rfl rfl rfl) ?_   -- 6
      refine TrC.cases (d := 71) rfl (fun h71 => ?_) (fun h71 => ?_)
      · -- t71 = true
        refine TrC.skip ⟨_, _, rfl, rfl, rfl⟩ ?_   -- 7
        refine TrC.skip ⟨_, _, rfl, rfl, rfl⟩ ?_   -- 8
        refine TrC.skip ⟨_, _, rfl, rfl, rfl⟩ ?_   -- 9
        refine TrC.skip ⟨_, _, rfl, rfl, rfl⟩ ?_   -- 10
        refine TrC.skip ⟨_, _, rfl, rfl, rfl⟩ ?_   -- 11
        refine TrC.take rfl (step_pick rfl rfl rfl rfl) ?_   -- 12
        refine TrC.take rfl (step_move rfl rfl rfl) ?_   -- 13
        refine TrC.skip ⟨_, _, rfl, rfl, rfl⟩ ?_   -- 14
        refine TrC.skip ⟨_, _, rfl, rfl, rfl⟩ ?_   -- 15
        refine TrC.skip ⟨_, _, rfl, rfl, rfl⟩ ?_   -- 16
        refine TrC.skip ⟨_, _, rfl, rfl, rfl⟩ ?_   -- 17
        refine TrC.skip ⟨_, _, rfl, rfl, rfl⟩ ?_   -- 18
        refine TrC.skip ⟨_, _, rfl, rfl, rfl⟩ ?_   -- 19
        refine TrC.skip ⟨_, _, rfl, rfl, rfl⟩ ?_   -- 20
        refine TrC.skip ⟨_, _, rfl, rfl, rfl⟩ ?_   -- 21
        refine TrC.skip ⟨_, _, rfl, rfl, rfl⟩ ?_   -- 22
        refine TrC.skip ⟨_, _, rfl, rfl, rfl⟩ ?_   -- 23
        refine TrC.skip ⟨_, _, rfl, rfl, rfl⟩ ?_   -- 24
        refine TrC.skip ⟨_, _, rfl, rfl, rfl⟩ ?_   -- 25
        refine TrC.skip ⟨_, _, rfl, rfl, rfl⟩ ?_   -- 26
        refine TrC.take rfl (step_pick rfl rfl rfl rfl) ?_   -- 27
        refine TrC.doneD rfl ?_
        refine AT.condT rfl ?_   -- t92
        refine AT.seq ?_
        have hs : valid n = false := by
          refine valid_badC hlt ?_
          unfold okC; rw [getC hlt]
          first | (simp_all; done) | (simp_all <;> omega)
        refine AT.region ?_   -- region 12 ref.go:26
        refine TrC.take rfl (step_assign rfl rfl rfl) ?_   -- 0
        refine TrC.done ?_
        refine AT.ret ?_
        exact Ret.one rfl (ResR.tmp rfl (conv_b hs.symm))
      · -- t71 = false
        refine TrC.take ⟨_, _, rfl, rfl, rfl⟩ (step_indexAddrP rfl rfl rfl ar32 (by decide) (by decide) rfl) ?_   -- 7
        refine TrC.take ⟨_, _, rfl, rfl, rfl⟩ (step_loadP1 rfl rfl rfl ty3 rfl rfl) ?_   -- 8
        refine TrC.take ⟨_, _, rfl, rfl, rfl⟩ (step_indexAddrP rfl rfl rfl ar32 (by decide) (by decide) rfl) ?_   -- 9
        refine TrC.take ⟨_, _, rfl, rfl, rfl⟩ (step_loadP1 rfl rfl rfl ty3 rfl rfl) ?_   -- 10
        refine TrC.take ⟨_, _, rfl, rfl, rfl⟩ (step_bin rfl rfl rfl rfl rfl) ?_   -- 11
        refine TrC.take rfl (step_pick rfl rfl rfl rfl) ?_   -- 12
        refine TrC.take rfl (step_move rfl rfl rfl) ?_   -- 13
        refine TrC.cases (d := 78) rfl (fun h78 => ?_) (fun h78 => ?_)
        · -- t78 = true
          refine TrC.skip ⟨_, _, rfl, rfl, rfl⟩ ?_   -- 14
          refine TrC.skip ⟨_, _, rfl, rfl, rfl⟩ ?_   -- 15
          refine TrC.skip ⟨_, _, rfl, rfl, rfl⟩ ?_   -- 16
          refine TrC.skip ⟨_, _, rfl, rfl, rfl⟩ ?_   -- 17
          refine TrC.skip ⟨_, _, rfl, rfl, rfl⟩ ?_   -- 18
          refine TrC.skip ⟨_, _, rfl, rfl, rfl⟩ ?_   -- 19
          refine TrC.skip ⟨_, _, rfl, rfl, rfl⟩ ?_   -- 20
          refine TrC.skip ⟨_, _, rfl, rfl, rfl⟩ ?_   -- 21
          refine TrC.skip ⟨_, _, rfl, rfl, rfl⟩ ?_   -- 22
          refine TrC.skip ⟨_, _, rfl, rfl, rfl⟩ ?_   -- 23
          refine TrC.skip ⟨_, _, rfl, rfl, rfl⟩ ?_   -- 24
          refine TrC.skip ⟨_, _, rfl, rfl, rfl⟩ ?_   -- 25
          refine TrC.skip ⟨_, _, rfl, rfl, rfl⟩ ?_   -- 26
          refine TrC.take rfl (step_pick rfl rfl rfl rfl) ?_   -- 27
          refine TrC.doneD rfl ?_
          refine AT.condT rfl ?_   -- t92
          refine AT.seq ?_
          have hs : valid n = false := by
            refine valid_badC hlt ?_
            unfold okC; rw [getC hlt]
            first | (simp_all; done) | (simp_all <;> omega)
          refine AT.region ?_   -- region 12 ref.go:26
          refine TrC.take rfl (step_assign rfl rfl rfl) ?_   -- 0
          refine TrC.done ?_
          refine AT.ret ?_
          exact Ret.one rfl (ResR.tmp rfl (conv_b hs.symm))
        · -- t78 = false
          refine TrC.take ⟨_, _, rfl, rfl, rfl⟩ (step_move rfl rfl rfl) ?_   -- 14
          refine TrC.take ⟨_, _, rfl, rfl, rfl⟩ (step_bin rfl rfl rfl rfl rfl) ?_   -- 15
          refine TrC.take ⟨_, _, rfl, rfl, rfl⟩ (step_move rfl rfl rfl) ?_   -- 16
          refine TrC.cases (d := 81) rfl (fun h81 => ?_) (fun h81 => ?_)
          · -- t81 = true
            have hpos : 0 < iy := by have h := h81; simp at h; omega
            have hq := getC (n := n) (i := iy - 1) (by omega)
            have hget2 : (n.cuts.map encC)[iy - 1]? = some (.agg [.i n.cuts[iy - 1].1, .i n.cuts[iy - 1].2]) := by rw [List.getElem?_map, List.getElem?_eq_getElem (by omega)]; rfl
            refine TrC.take ⟨_, _, rfl, rfl, rfl⟩ (step_fieldAddrP rfl rfl fd30_1 rfl rfl) ?_   -- 17
            refine TrC.take ⟨_, _, rfl, rfl, rfl⟩ (step_loadP1 rfl rfl rfl ty28 rfl rfl) ?_   -- 18
            refine TrC.take ⟨_, _, rfl, rfl, rfl⟩ (step_move rfl rfl rfl) ?_   -- 19
            refine TrC.take ⟨_, _, rfl, rfl, rfl⟩ (step_subI rfl rfl rfl (by omega) (by omega) rfl) ?_   -- 20
            refine TrC.take ⟨_, _, rfl, rfl, rfl⟩ (step_indexAddrT (v := .agg [.i n.cuts[iy - 1].1, .i n.cuts[iy - 1].2]) rfl rfl rfl sl28 (by omega) (by rw [show ((iy : Int) - 1).toNat = iy - 1 from by omega]; exact hget2) rfl rfl) ?_   -- 21
            refine TrC.take ⟨_, _, rfl, rfl, rfl⟩ (step_loadTN rfl rfl ty32 rfl rfl) ?_   -- 22
            refine TrC.take ⟨_, _, rfl, rfl, rfl⟩ (step_loadPN rfl rfl rfl ty32 rfl rfl rfl) ?_   -- 23
            refine TrC.take ⟨_, _, rfl, rfl, rfl⟩ (step_call0 rfl rfl (C42 n.cuts[iy - 1] n.cuts[iy]) rfl) ?_   -- 24
            refine TrC.take ⟨_, _, rfl, rfl, rfl⟩ (step_not rfl rfl rfl) ?_   -- 25
            refine TrC.take ⟨_, _, rfl, rfl, rfl⟩ (step_pick rfl rfl rfl rfl) ?_   -- 26
            refine TrC.take rfl (step_pick rfl rfl rfl rfl) ?_   -- 27
            refine TrC.doneD rfl ?_
            refine AT.cond rfl (fun h92 => ?_) (fun h92 => ?_)   -- t92
            · -- true
              refine AT.seq ?_
              have hs : valid n = false := by
                refine valid_badC hlt ?_
                unfold okC; rw [getC hlt]
                first | (simp_all; done) | (simp_all <;> omega)
              refine AT.region ?_   -- region 12 ref.go:26
              refine TrC.take rfl (step_assign rfl rfl rfl) ?_   -- 0
              refine TrC.done ?_
              refine AT.ret ?_
              exact Ret.one rfl (ResR.tmp rfl (conv_b hs.symm))
            · -- false
              refine AT.skip ?_
              refine AT.region ?_   -- region 9 ref.go:23
              refine TrC.take rfl (step_move rfl rfl rfl) ?_   -- 0
              refine TrC.take rfl (step_addI rfl rfl rfl (by omega) (by omega) rfl) ?_   -- 1
              refine TrC.take rfl (step_assign rfl rfl rfl) ?_   -- 2
              refine TrC.done ?_
              have hgood : okC n iy = true := by
                unfold okC; rw [getC hlt]
                first | (simp_all; done) | (simp_all <;> omega)
              exact ⟨iy + 1, ⟨by omega, fun j hji => by
                by_cases he : j = iy
                · subst he; exact hgood
                · exact hypre j (by omega)⟩, by show n.cuts.length - (iy + 1) < n.cuts.length - iy; omega, Sat.wk [] (.cons (.p rfl) (.cons (.t (conv_i (by simp))) (.nil))) (.cons rfl (.box (.cons (.t (.refl _)) (.cons (.t (.refl _)) (.cons (.t (.refl _)) (.nil))))) (.nil)) rfl rfl⟩
          · -- t81 = false
            have hz : iy = 0 := by have h := h81; simp at h; omega
            refine TrC.skip ⟨_, _, rfl, rfl, rfl⟩ ?_   -- 17
            refine TrC.skip ⟨_, _, rfl, rfl, rfl⟩ ?_   -- 18
            refine TrC.skip ⟨_, _, rfl, rfl, rfl⟩ ?_   -- 19
            refine TrC.skip ⟨_, _, rfl, rfl, rfl⟩ ?_   -- 20
            refine TrC.skip ⟨_, _, rfl, rfl, rfl⟩ ?_   -- 21
            refine TrC.skip ⟨_, _, rfl, rfl, rfl⟩ ?_   -- 22
            refine TrC.skip ⟨_, _, rfl, rfl, rfl⟩ ?_   -- 23
            refine TrC.skip ⟨_, _, rfl, rfl, rfl⟩ ?_   -- 24
            refine TrC.skip ⟨_, _, rfl, rfl, rfl⟩ ?_   -- 25
            refine TrC.take ⟨_, _, rfl, rfl, rfl⟩ (step_pick rfl rfl rfl rfl) ?_   -- 26
            refine TrC.take rfl (step_pick rfl rfl rfl rfl) ?_   -- 27
            refine TrC.doneD rfl ?_
            refine AT.condF rfl ?_   -- t92
            refine AT.skip ?_
            refine AT.region ?_   -- region 9 ref.go:23
            refine TrC.take rfl (step_move rfl rfl rfl) ?_   -- 0
            refine TrC.take rfl (step_addI rfl rfl rfl (by omega) (by omega) rfl) ?_   -- 1
            refine TrC.take rfl (step_assign rfl rfl rfl) ?_   -- 2
            refine TrC.done ?_
            have hgood : okC n iy = true := by
              unfold okC; rw [getC hlt]
              first | (simp_all; done) | (simp_all <;> omega)
            exact ⟨iy + 1, ⟨by omega, fun j hji => by
              by_cases he : j = iy
              · subst he; exact hgood
              · exact hypre j (by omega)⟩, by show n.cuts.length - (iy + 1) < n.cuts.length - iy; omega, Sat.wk [] (.cons (.p rfl) (.cons (.t (conv_i (by simp))) (.nil))) (.cons rfl (.box (.cons (.t (.refl _)) (.cons (.t (.refl _)) (.cons (.t (.refl _)) (.nil))))) (.nil)) rfl rfl⟩
    · -- false
      have hge : ¬ iy < n.cuts.length := by simpa using h57
      have hB : ∀ i, i < n.cuts.length → okC n i = true := fun i hi => hypre i (by omega)
      refine AT.exit (Or.inl ⟨rfl, ?_⟩)   -- exit 2
      refine AT.seq ?_
      have hs : valid n = (decide (n.fl.length ≤ 200) && decide (n.cuts.length ≤ 200) && decide (1 ≤ n.next) && decide (n.next ≤ 1000000000)) := by unfold valid; rw [decide_eq_true hA, decide_eq_true hB]; rfl
      refine AT.region ?_   -- region 13 ref.go:29
      refine TrC.take rfl (step_fieldAddrP rfl rfl fd30_0 rfl rfl) ?_   -- 0
      refine TrC.take rfl (step_loadP1 rfl rfl rfl ty27 rfl rfl) ?_   -- 1
      refine TrC.take rfl (step_lenT (rt := 0) rfl rfl sl27 rfl) ?_   -- 2
      refine TrC.take rfl (step_bin rfl rfl rfl rfl rfl) ?_   -- 3
      refine TrC.take rfl (step_move rfl rfl rfl) ?_   -- 4
      refine TrC.cases (d := 97) rfl (fun h97 => ?_) (fun h97 => ?_)
      · -- t97 = true
        refine TrC.take ⟨_, _, rfl, rfl, rfl⟩ (step_fieldAddrP rfl rfl fd30_1 rfl rfl) ?_   -- 5
        refine TrC.take ⟨_, _, rfl, rfl, rfl⟩ (step_loadP1 rfl rfl rfl ty28 rfl rfl) ?_   -- 6
        refine TrC.take ⟨_, _, rfl, rfl, rfl⟩ (step_lenT (rt := 0) rfl rfl sl28 rfl) ?_   -- 7
        refine TrC.take ⟨_, _, rfl, rfl, rfl⟩ (step_bin rfl rfl rfl rfl rfl) ?_   -- 8
        refine TrC.take rfl (step_pick rfl rfl rfl rfl) ?_   -- 9
        refine TrC.take rfl (step_move rfl rfl rfl) ?_   -- 10
        refine TrC.cases (d := 103) rfl (fun h103 => ?_) (fun h103 => ?_)
        · -- t103 = true
          refine TrC.take ⟨_, _, rfl, rfl, rfl⟩ (step_fieldAddrP rfl rfl fd30_2 rfl rfl) ?_   -- 11
          refine TrC.take ⟨_, _, rfl, rfl, rfl⟩ (step_loadP1 rfl rfl rfl ty3 rfl rfl) ?_   -- 12
          refine TrC.take ⟨_, _, rfl, rfl, rfl⟩ (step_bin rfl rfl rfl rfl rfl) ?_   -- 13
          refine TrC.take rfl (step_pick rfl rfl rfl rfl) ?_   -- 14
          refine TrC.take rfl (step_move rfl rfl rfl) ?_   -- 15
          refine TrC.cases (d := 108) rfl (fun h108 => ?_) (fun h108 => ?_)
          · -- t108 = true
            refine TrC.take ⟨_, _, rfl, rfl, rfl⟩ (step_fieldAddrP rfl rfl fd30_2 rfl rfl) ?_   -- 16
            refine TrC.take ⟨_, _, rfl, rfl, rfl⟩ (step_loadP1 rfl rfl rfl ty3 rfl rfl) ?_   -- 17
            refine TrC.take ⟨_, _, rfl, rfl, rfl⟩ (step_bin rfl rfl rfl rfl rfl) ?_   -- 18
            refine TrC.take rfl (step_pick rfl rfl rfl rfl) ?_   -- 19
            refine TrC.take rfl (step_assign rfl rfl rfl) ?_   -- 20
            refine TrC.done ?_
            refine AT.ret ?_
            exact Ret.one rfl (ResR.tmp rfl (conv_b (by rw [hs]; first | (simp_all; done) | (rw [Bool.eq_iff_iff]; simp_all <;> omega))))
          · -- t108 = false
            refine TrC.skip ⟨_, _, rfl, rfl, rfl⟩ ?_   -- 16
            refine TrC.skip ⟨_, _, rfl, rfl, rfl⟩ ?_   -- 17
            refine TrC.skip ⟨_, _, rfl, rfl, rfl⟩ ?_   -- 18
            refine TrC.take rfl (step_pick rfl rfl rfl rfl) ?_   -- 19
            refine TrC.take rfl (step_assign rfl rfl rfl) ?_   -- 20
            refine TrC.done ?_
            refine AT.ret ?_
            exact Ret.one rfl (ResR.tmp rfl (conv_b (by rw [hs]; first | (simp_all; done) | (rw [Bool.eq_iff_iff]; simp_all <;> omega))))
        · -- t103 = false
          refine TrC.skip ⟨_, _, rfl, rfl, rfl⟩ ?_   -- 11
          refine TrC.skip ⟨_, _, rfl, rfl, rfl⟩ ?_   -- 12
          refine TrC.skip ⟨_, _, rfl, rfl, rfl⟩ ?_   -- 13
          refine TrC.take rfl (step_pick rfl rfl rfl rfl) ?_   -- 14
          refine TrC.take rfl (step_move rfl rfl rfl) ?_   -- 15
          refine TrC.skip ⟨_, _, rfl, rfl, rfl⟩ ?_   -- 16
          refine TrC.skip ⟨_, _, rfl, rfl, rfl⟩ ?_   -- 17
          refine TrC.skip ⟨_, _, rfl, rfl, rfl⟩ ?_   -- 18
          refine TrC.take rfl (step_pick rfl rfl rfl rfl) ?_   -- 19
          refine TrC.take rfl (step_assign rfl rfl rfl) ?_   -- 20
          refine TrC.done ?_
          refine AT.ret ?_
          exact Ret.one rfl (ResR.tmp rfl (conv_b (by rw [hs]; first | (simp_all; done) | (rw [Bool.eq_iff_iff]; simp_all <;> omega))))
      · -- t97 = false
        refine TrC.skip ⟨_, _, rfl, rfl, rfl⟩ ?_   -- 5
        refine TrC.skip ⟨_, _, rfl, rfl, rfl⟩ ?_   -- 6
        refine TrC.skip ⟨_, _, rfl, rfl, rfl⟩ ?_   -- 7
        refine TrC.skip ⟨_, _, rfl, rfl, rfl⟩ ?_   -- 8
        refine TrC.take rfl (step_pick rfl rfl rfl rfl) ?_   -- 9
        refine TrC.take rfl (step_move rfl rfl rfl) ?_   -- 10
        refine TrC.skip ⟨_, _, rfl, rfl, rfl⟩ ?_   -- 11
        refine TrC.skip ⟨_, _, rfl, rfl, rfl⟩ ?_   -- 12
        refine TrC.skip ⟨_, _, rfl, rfl, rfl⟩ ?_   -- 13
        refine TrC.take rfl (step_pick rfl rfl rfl rfl) ?_   -- 14
        refine TrC.take rfl (step_move rfl rfl rfl) ?_   -- 15
        refine TrC.skip ⟨_, _, rfl, rfl, rfl⟩ ?_   -- 16
        refine TrC.skip ⟨_, _, rfl, rfl, rfl⟩ ?_   -- 17
        refine TrC.skip ⟨_, _, rfl, rfl, rfl⟩ ?_   -- 18
        refine TrC.take rfl (step_pick rfl rfl rfl rfl) ?_   -- 19
        refine TrC.take rfl (step_assign rfl rfl rfl) ?_   -- 20
        refine TrC.done ?_
        refine AT.ret ?_
        exact Ret.one rfl (ResR.tmp rfl (conv_b (by rw [hs]; first | (simp_all; done) | (rw [Bool.eq_iff_iff]; simp_all <;> omega))))

end Go.Proofs.Ytnemmdbafngppaa.Net
