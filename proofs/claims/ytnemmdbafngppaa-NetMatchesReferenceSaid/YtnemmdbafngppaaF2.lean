/- Contracts of functions of this translation. Printed by wip/tools/gen.py out of wip/net/ann.py. No condition. -/
import Derived.Test.YtnemmdbafngppaaF1
set_option linter.unusedVariables false
set_option linter.unusedSimpArgs false
namespace Go.Proofs.Ytnemmdbafngppaa.Net
open Go.Proofs.Ytnemmdbafngppaa.Abs
set_option maxRecDepth 100000
set_option maxHeartbeats 4000000
theorem C37 (n : Net) (a b : Int) (hl : n.cuts.length ≤ 1000000) : Has Try.prog 37 [encN n, .i a, .i b] (.i (ixI (cutIx n a b))) := by   -- burgage/burgageref32.cut
  refine Has.intro 29 Try.func37 (by kernel_rfl) rfl rfl fun w ok => ?_
  refine AT.seq ?_
  refine AT.region ?_   -- region 0 ref.go:33
  refine TrC.take rfl (step_box rfl rfl rfl rfl rfl rfl rfl) ?_   -- 0
  refine TrC.take rfl (step_assign rfl rfl rfl) ?_   -- 1
  refine TrC.done ?_
  refine AT.seq ?_
  refine AT.seq ?_
  refine AT.region ?_   -- region 1 ref.go:34
  refine TrC.take rfl (step_assign rfl rfl rfl) ?_   -- 0
  refine TrC.done ?_
  refine AT.block ?_   -- block 0
  refine AT.loopP (fun i : Nat => i ≤ n.cuts.length ∧ ∀ j (h : j < n.cuts.length), j < i → n.cuts[j] ≠ pr a b) (fun i => mkS [(1, .t (.i a)), (2, .t (.i b)), (3, .p 3 0), (7, .t (.i i))] [(3, .box 30 [.t (.slice 3 (n.fl.map encP)), .t (.slice 2 (n.cuts.map encC)), .t (.i n.next)])]) (fun i => n.cuts.length - i) (0) (⟨by omega, fun j h hj => by omega⟩) (fun a w hs => Sat.wk [] (.cons (.t (.refl _)) (.cons (.t (.refl _)) (.cons (.p rfl) (.cons (.t (.refl _)) (.nil))))) (.cons rfl (.box (.cons (.t (.refl _)) (.cons (.t (.refl _)) (.cons (.t (.refl _)) .nil)))) .nil) rfl rfl a w hs) (fun ix hix => ?_)
  obtain ⟨hi, hpre⟩ := hix
  refine AT.seq ?_
  refine AT.seq ?_
  refine AT.region ?_   -- region 2 ref.go:34
  refine TrC.take rfl (step_move rfl rfl rfl) ?_   -- 0
  refine TrC.take rfl (step_fieldAddrP rfl rfl fd30_1 rfl rfl) ?_   -- 1
  refine TrC.take rfl (step_loadP1 rfl rfl rfl ty28 rfl rfl) ?_   -- 2
  refine TrC.take rfl (step_lenT (rt := 0) rfl rfl sl28 rfl) ?_   -- 3
  refine TrC.take rfl (step_bin rfl rfl rfl rfl rfl) ?_   -- 4
  refine TrC.done ?_
  refine AT.cond rfl (fun h12 => ?_) (fun h12 => ?_)   -- t12
  · -- true
    have hlt : ix < n.cuts.length := by simpa using h12
    have hget : (n.cuts.map encC)[ix]? = some (.agg [.i n.cuts[ix].1, .i n.cuts[ix].2]) := by simp [hlt, encC]
    refine AT.skip ?_
    refine AT.seq ?_
    refine AT.block ?_   -- block 1
    refine AT.seq ?_
    refine AT.region ?_   -- region 4 ref.go:35
    refine TrC.take rfl (step_fieldAddrP rfl rfl fd30_1 rfl rfl) ?_   -- 0
    refine TrC.take rfl (step_loadP1 rfl rfl rfl ty28 rfl rfl) ?_   -- 1
    refine TrC.take rfl (step_move rfl rfl rfl) ?_   -- 2
    refine TrC.take rfl (step_indexAddrT (v := .agg [.i n.cuts[ix].1, .i n.cuts[ix].2]) rfl rfl rfl sl28 (by omega) (by simpa using hget) rfl rfl) ?_   -- 3
    refine TrC.take rfl (step_loadTN rfl rfl ty32 rfl rfl) ?_   -- 4
    refine TrC.take rfl (step_move rfl rfl rfl) ?_   -- 5
    refine TrC.take rfl (step_move rfl rfl rfl) ?_   -- 6
    refine TrC.take rfl (step_min rfl rfl rfl rfl) ?_   -- 7
    refine TrC.take rfl (step_move rfl rfl rfl) ?_   -- 8
    refine TrC.take rfl (step_move rfl rfl rfl) ?_   -- 9
    refine TrC.take rfl (step_max rfl rfl rfl rfl) ?_   -- 10
    refine TrC.take rfl (step_buildA rfl ze32 rfl ar32 rfl rfl rfl rfl) ?_   -- 11
    refine TrC.take rfl (step_eqa rfl rfl rfl rfl rfl ty32 eg32 (eq32 _ _ _ _) rfl) ?_   -- 12
    refine TrC.done ?_
    refine AT.cond rfl (fun h27 => ?_) (fun h27 => ?_)   -- t27
    · -- true
      have he : n.cuts[ix] = pr a b := by simpa [pr, Prod.ext_iff] using h27
      have hr : cutIx n a b = some ix := ix_found hlt (by simpa using he) (fun j hj hji => by simpa using hpre j hj hji)
      refine AT.seq ?_
      refine AT.region ?_   -- region 5 ref.go:36
      refine TrC.take rfl (step_move rfl rfl rfl) ?_   -- 0
      refine TrC.take rfl (step_assign rfl rfl rfl) ?_   -- 1
      refine TrC.done ?_
      refine AT.ret ?_
      exact Ret.one rfl (ResR.tmp rfl (conv_i (by rw [hr]; rfl)))
    · -- false
      have hne : n.cuts[ix] ≠ pr a b := by intro he; rw [Bool.eq_false_iff] at h27; exact h27 (by simp [he, pr])
      refine AT.skip ?_
      refine AT.region ?_   -- region 3 ref.go:34
      refine TrC.take rfl (step_move rfl rfl rfl) ?_   -- 0
      refine TrC.take rfl (step_addI rfl rfl rfl (by omega) (by omega) rfl) ?_   -- 1
      refine TrC.take rfl (step_assign rfl rfl rfl) ?_   -- 2
      refine TrC.done ?_
      exact ⟨ix + 1, ⟨by omega, fun j hj hji => by
        by_cases he : j = ix
        · subst he; exact hne
        · exact hpre j hj (by omega)⟩, by show n.cuts.length - (ix + 1) < n.cuts.length - ix; omega, Sat.wk [] (.cons (.t (.refl _)) (.cons (.t (.refl _)) (.cons (.p rfl) (.cons (.t (conv_i (by simp))) (.nil))))) (.cons rfl (.box (.cons (.t (.refl _)) (.cons (.t (.refl _)) (.cons (.t (.refl _)) .nil)))) .nil) rfl rfl⟩
  · -- false
    have hge : ¬ ix < n.cuts.length := by simpa using h12
    have hr : cutIx n a b = none := ix_none (fun j hj => by simpa using hpre j hj (by omega))
    refine AT.exit (Or.inl ⟨rfl, ?_⟩)   -- exit 0
    refine AT.seq ?_
    refine AT.region ?_   -- region 6 ref.go:39
    refine TrC.take rfl (step_assign rfl rfl rfl) ?_   -- 0
    refine TrC.done ?_
    refine AT.ret ?_
    exact Ret.one rfl (ResR.tmp rfl (conv_i (by rw [hr]; rfl)))

theorem C32 (n : Net) (id : Int) (hl : n.fl.length ≤ 1000000) : Has Try.prog 32 [encN n, .i id] (.i (ixI (findIx n id))) := by   -- burgage/burgageref32.find
  refine Has.intro 22 Try.func32 (by kernel_rfl) rfl rfl fun w ok => ?_
  refine AT.seq ?_
  refine AT.region ?_   -- region 0 ref.go:65
  refine TrC.take rfl (step_box rfl rfl rfl rfl rfl rfl rfl) ?_   -- 0
  refine TrC.take rfl (step_assign rfl rfl rfl) ?_   -- 1
  refine TrC.done ?_
  refine AT.seq ?_
  refine AT.seq ?_
  refine AT.region ?_   -- region 1 ref.go:66
  refine TrC.take rfl (step_assign rfl rfl rfl) ?_   -- 0
  refine TrC.done ?_
  refine AT.block ?_   -- block 0
  refine AT.loopP (fun i : Nat => i ≤ n.fl.length ∧ ∀ j (h : j < n.fl.length), j < i → n.fl[j].id ≠ id) (fun i => mkS [(1, .t (.i id)), (2, .p 2 0), (5, .t (.i i))] [(2, .box 30 [.t (.slice 3 (n.fl.map encP)), .t (.slice 2 (n.cuts.map encC)), .t (.i n.next)])]) (fun i => n.fl.length - i) (0) (⟨by omega, fun j h hj => by omega⟩) (fun a w hs => Sat.wk [] (.cons (.t (.refl _)) (.cons (.p rfl) (.cons (.t (.refl _)) (.nil)))) (.cons rfl (.box (.cons (.t (.refl _)) (.cons (.t (.refl _)) (.cons (.t (.refl _)) .nil)))) .nil) rfl rfl a w hs) (fun ix hix => ?_)
  obtain ⟨hi, hpre⟩ := hix
  refine AT.seq ?_
  refine AT.seq ?_
  refine AT.region ?_   -- region 2 ref.go:66
  refine TrC.take rfl (step_move rfl rfl rfl) ?_   -- 0
  refine TrC.take rfl (step_fieldAddrP rfl rfl fd30_0 rfl rfl) ?_   -- 1
  refine TrC.take rfl (step_loadP1 rfl rfl rfl ty27 rfl rfl) ?_   -- 2
  refine TrC.take rfl (step_lenT (rt := 0) rfl rfl sl27 rfl) ?_   -- 3
  refine TrC.take rfl (step_bin rfl rfl rfl rfl rfl) ?_   -- 4
  refine TrC.done ?_
  refine AT.cond rfl (fun h10 => ?_) (fun h10 => ?_)   -- t10
  · -- true
    have hlt : ix < n.fl.length := by simpa using h10
    have hget : (n.fl.map encP)[ix]? = some (.agg [.i n.fl[ix].id, .i n.fl[ix].fr, .i n.fl[ix].to]) := by simp [hlt, encP]
    refine AT.skip ?_
    refine AT.seq ?_
    refine AT.block ?_   -- block 1
    refine AT.seq ?_
    refine AT.region ?_   -- region 4 ref.go:67
    refine TrC.take rfl (step_fieldAddrP rfl rfl fd30_0 rfl rfl) ?_   -- 0
    refine TrC.take rfl (step_loadP1 rfl rfl rfl ty27 rfl rfl) ?_   -- 1
    refine TrC.take rfl (step_move rfl rfl rfl) ?_   -- 2
    refine TrC.take rfl (step_indexAddrT (v := .agg [.i n.fl[ix].id, .i n.fl[ix].fr, .i n.fl[ix].to]) rfl rfl rfl sl27 (by omega) (by simpa using hget) rfl rfl) ?_   -- 3
    refine TrC.take rfl (step_fieldAddrT rfl rfl fd25_0 rfl rfl rfl) ?_   -- 4
    refine TrC.take rfl (step_loadT1 rfl rfl ty3 rfl rfl) ?_   -- 5
    refine TrC.take rfl (step_move rfl rfl rfl) ?_   -- 6
    refine TrC.take rfl (step_bin rfl rfl rfl rfl rfl) ?_   -- 7
    refine TrC.done ?_
    refine AT.cond rfl (fun h20 => ?_) (fun h20 => ?_)   -- t20
    · -- true
      have he : n.fl[ix].id = id := by simpa using h20
      have hr : findIx n id = some ix := ix_found hlt (by simpa using he) (fun j hj hji => by simpa using hpre j hj hji)
      refine AT.seq ?_
      refine AT.region ?_   -- region 5 ref.go:68
      refine TrC.take rfl (step_move rfl rfl rfl) ?_   -- 0
      refine TrC.take rfl (step_assign rfl rfl rfl) ?_   -- 1
      refine TrC.done ?_
      refine AT.ret ?_
      exact Ret.one rfl (ResR.tmp rfl (conv_i (by rw [hr]; rfl)))
    · -- false
      have hne : n.fl[ix].id ≠ id := by simpa using h20
      refine AT.skip ?_
      refine AT.region ?_   -- region 3 ref.go:66
      refine TrC.take rfl (step_move rfl rfl rfl) ?_   -- 0
      refine TrC.take rfl (step_addI rfl rfl rfl (by omega) (by omega) rfl) ?_   -- 1
      refine TrC.take rfl (step_assign rfl rfl rfl) ?_   -- 2
      refine TrC.done ?_
      exact ⟨ix + 1, ⟨by omega, fun j hj hji => by
        by_cases he : j = ix
        · subst he; exact hne
        · exact hpre j hj (by omega)⟩, by show n.fl.length - (ix + 1) < n.fl.length - ix; omega, Sat.wk [] (.cons (.t (.refl _)) (.cons (.p rfl) (.cons (.t (conv_i (by simp))) (.nil)))) (.cons rfl (.box (.cons (.t (.refl _)) (.cons (.t (.refl _)) (.cons (.t (.refl _)) .nil)))) .nil) rfl rfl⟩
  · -- false
    have hge : ¬ ix < n.fl.length := by simpa using h10
    have hr : findIx n id = none := ix_none (fun j hj => by simpa using hpre j hj (by omega))
    refine AT.exit (Or.inl ⟨rfl, ?_⟩)   -- exit 0
    refine AT.seq ?_
    refine AT.region ?_   -- region 6 ref.go:71
    refine TrC.take rfl (step_assign rfl rfl rfl) ?_   -- 0
    refine TrC.done ?_
    refine AT.ret ?_
    exact Ret.one rfl (ResR.tmp rfl (conv_i (by rw [hr]; rfl)))

theorem C20 (n : Net) (a b : Int) (hl : n.cuts.length ≤ 1000000) : Has Try.prog 20 [encN n, .i a, .i b] (.b (reach n a b)) := by   -- burgage/burgageref32.Reach
  refine Has.intro 12 Try.func20 (by kernel_rfl) rfl rfl fun w ok => ?_
  refine AT.seq ?_
  refine AT.region ?_   -- region 0 ref.go:43
  refine TrC.take rfl (step_box rfl rfl rfl rfl rfl rfl rfl) ?_   -- 0
  refine TrC.take rfl (step_assign rfl rfl rfl) ?_   -- 1
  refine TrC.done ?_
  refine AT.seq ?_
  refine AT.region ?_   -- region 1 ref.go:43
  refine TrC.take rfl (step_loadPN rfl rfl rfl ty30 rfl rfl rfl) ?_   -- 0
  refine TrC.take rfl (step_move rfl rfl rfl) ?_   -- 1
  refine TrC.take rfl (step_move rfl rfl rfl) ?_   -- 2
  refine TrC.take rfl (step_call0 rfl rfl (C37 n a b hl) rfl) ?_   -- 3
  refine TrC.take rfl (step_bin rfl rfl rfl rfl rfl) ?_   -- 4
  refine TrC.take rfl (step_assign rfl rfl rfl) ?_   -- 5
  refine TrC.done ?_
  refine AT.ret ?_
  exact Ret.one rfl (ResR.tmp rfl (conv_b (by unfold reach; exact reach_dec _)))

end Go.Proofs.Ytnemmdbafngppaa.Net
