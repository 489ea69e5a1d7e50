/- Contracts of functions of this translation. Printed by wip/tools/gen.py out of wip/net/ann.py. No condition. -/
import Derived.Test.YtnemmdbafngppaaF2
set_option linter.unusedVariables false
set_option linter.unusedSimpArgs false
namespace Go.Proofs.Ytnemmdbafngppaa.Net
open Go.Proofs.Ytnemmdbafngppaa.Abs
set_option maxRecDepth 100000
set_option maxHeartbeats 4000000
theorem C47 (a b : Int) : Has Try.prog 47 [.slice 1 [.i a, .i b]] (.i (if a ≠ 0 then a else b)) := by   -- cmp.Or[int]
  refine Has.intro 18 Try.func47 (by kernel_rfl) rfl rfl fun w ok => ?_
  refine AT.seq ?_
  refine AT.region ?_   -- region 0 cmp.go:69
  refine TrC.take rfl (step_assign rfl rfl rfl) ?_   -- 0
  refine TrC.done ?_
  refine AT.seq ?_
  refine AT.region ?_   -- region 1 cmp.go:70
  refine TrC.take rfl (step_assign rfl rfl rfl) ?_   -- 0
  refine TrC.done ?_
  refine AT.seq ?_
  refine AT.seq ?_
  refine AT.region ?_   -- region 2 cmp.go:71
  refine TrC.take rfl (step_move rfl rfl rfl) ?_   -- 0
  refine TrC.take rfl (step_lenT (rt := 0) rfl rfl sl88 rfl) ?_   -- 1
  refine TrC.take rfl (step_move rfl rfl rfl) ?_   -- 2
  refine TrC.done ?_
  refine AT.block ?_   -- block 0
  refine AT.loopP (fun i : Nat => i = 0 ∨ (i = 1 ∧ a = 0) ∨ (i = 2 ∧ a = 0 ∧ b = 0)) (fun i => mkS [(3, .t (.i 0)), (6, .t (.slice 1 [.i a, .i b])), (7, .t (.i 2)), (8, .t (.i i))] []) (fun i => 2 - i) (0) (.inl rfl) (fun a w hs => Sat.wk [] (.cons (.t (.refl _)) (.cons (.t (.refl _)) (.cons (.t (.refl _)) (.cons (.t (.refl _)) (.nil))))) (.nil) rfl rfl a w hs) (fun ix hix => ?_)
  refine AT.seq ?_
  refine AT.region ?_   -- region 3 cmp.go:71
  refine TrC.take rfl (step_bin rfl rfl rfl rfl rfl) ?_   -- 0
  refine TrC.done ?_
  refine AT.seq ?_
  refine AT.cond rfl (fun h9 => ?_) (fun h9 => ?_)   -- t9
  · -- true
    have hlt : ix < 2 := by
      have h9' : (ix : Int) < 2 := by simpa using h9
      omega
    obtain ⟨u, hu⟩ : ∃ u, u = (if ix = 0 then a else b) := ⟨_, rfl⟩
    have hget : ([.i a, .i b] : List T)[ix]? = some (.v (.int .i64 u)) := by
      rcases hix with rfl | ⟨rfl, _⟩ | ⟨rfl, _⟩
      · simp [hu]
      · simp [hu]
      · omega
    refine AT.skip ?_
    refine AT.seq ?_
    refine AT.block ?_   -- block 1
    refine AT.seq ?_
    refine AT.region ?_   -- region 4 cmp.go:71
    refine TrC.take rfl (step_indexAddrT (v := .v (.int .i64 u)) rfl rfl rfl sl88 (by omega) (by simpa using hget) rfl rfl) ?_   -- 0
    refine TrC.take rfl (step_loadT1 rfl rfl ty3 rfl rfl) ?_   -- 1
    refine TrC.take rfl (step_assign rfl rfl rfl) ?_   -- 2
    refine TrC.done ?_
    refine AT.seq ?_
    refine AT.region ?_   -- region 5 cmp.go:72
    refine TrC.take rfl (step_move rfl rfl rfl) ?_   -- 0
    refine TrC.take rfl (step_move rfl rfl rfl) ?_   -- 1
    refine TrC.take rfl (step_bin rfl rfl rfl rfl rfl) ?_   -- 2
    refine TrC.done ?_
    refine AT.cond rfl (fun h14 => ?_) (fun h14 => ?_)   -- t14
    · -- true
      have hne : u ≠ 0 := by simpa using h14
      have hr : (if a ≠ 0 then a else b) = u := by
        rcases hix with rfl | ⟨rfl, h1⟩ | ⟨rfl, _⟩
        · simp at hu; subst hu; simp [hne]
        · simp at hu; simp [h1, hu]
        · omega
      refine AT.seq ?_
      refine AT.region ?_   -- region 6 cmp.go:73
      refine TrC.take rfl (step_move rfl rfl rfl) ?_   -- 0
      refine TrC.take rfl (step_assign rfl rfl rfl) ?_   -- 1
      refine TrC.done ?_
      refine AT.ret ?_
      exact Ret.one rfl (ResR.tmp rfl (conv_i (by rw [hr])))
    · -- false
      have he : u = 0 := by simpa using h14
      have hnx : ix + 1 = 0 ∨ (ix + 1 = 1 ∧ a = 0) ∨ (ix + 1 = 2 ∧ a = 0 ∧ b = 0) := by
        rcases hix with rfl | ⟨rfl, h1⟩ | ⟨rfl, _⟩
        · simp at hu; simp [← hu, he]
        · simp at hu; simp [h1, ← hu, he]
        · omega
      refine AT.skip ?_
      refine AT.region ?_   -- region 7 cmp.go:71
      refine TrC.take rfl (step_addI rfl rfl rfl (by omega) (by omega) rfl) ?_   -- 0
      refine TrC.take rfl (step_move rfl rfl rfl) ?_   -- 1
      refine TrC.done ?_
      exact ⟨ix + 1, hnx, by show 2 - (ix + 1) < 2 - ix; omega, Sat.wk [] (.cons (.t (.refl _)) (.cons (.t (.refl _)) (.cons (.t (.refl _)) (.cons (.t (conv_i (by simp))) (.nil))))) .nil rfl rfl⟩
  · -- false
    have hge : ¬ (ix : Int) < 2 := by simpa using h9
    have hr : (if a ≠ 0 then a else b) = 0 := by rcases hix with rfl | ⟨rfl, _⟩ | ⟨_, h1, h2⟩ <;> first | omega | simp [h1, h2]
    refine AT.exit (Or.inl ⟨rfl, ?_⟩)   -- exit 0
    refine AT.seq ?_
    refine AT.region ?_   -- region 8 cmp.go:76
    refine TrC.take rfl (step_move rfl rfl rfl) ?_   -- 0
    refine TrC.take rfl (step_assign rfl rfl rfl) ?_   -- 1
    refine TrC.done ?_
    refine AT.ret ?_
    exact Ret.one rfl (ResR.tmp rfl (conv_i (by rw [hr])))

theorem C36 (x y : Int × Int) : Has Try.prog 36 [encC x, encC y] (.i (order x y)) := by   -- burgage/net.order
  refine Has.intro 17 Try.func36 (by kernel_rfl) rfl rfl fun w ok => ?_
  refine AT.seq ?_
  refine AT.region ?_   -- region 0 net.go:23
  refine TrC.take rfl (step_box rfl rfl rfl rfl rfl rfl rfl) ?_   -- 0
  refine TrC.take rfl (step_box rfl rfl rfl rfl rfl rfl rfl) ?_   -- 1
  refine TrC.take rfl (step_assign rfl rfl rfl) ?_   -- 2
  refine TrC.done ?_
  refine AT.seq ?_
  refine AT.regionD mixed rfl ?_   -- region 1 net.go:23
  refine TrC.take rfl (step_indexAddrP rfl rfl rfl ar32 (by decide) (by decide) rfl) ?_   -- 0
  refine TrC.take rfl (step_loadP1 rfl rfl rfl ty3 rfl rfl) ?_   -- 1
  refine TrC.take rfl (step_indexAddrP rfl rfl rfl ar32 (by decide) (by decide) rfl) ?_   -- 2
  refine TrC.take rfl (step_loadP1 rfl rfl rfl ty3 rfl rfl) ?_   -- 3
  refine TrC.take rfl (step_call0 rfl rfl (C48 x.1 y.1) rfl) ?_   -- 4
  refine TrC.take rfl (step_indexAddrP rfl rfl rfl ar32 (by decide) (by decide) rfl) ?_   -- 5
  refine TrC.take rfl (step_loadP1 rfl rfl rfl ty3 rfl rfl) ?_   -- 6
  refine TrC.take rfl (step_indexAddrP rfl rfl rfl ar32 (by decide) (by decide) rfl) ?_   -- 7
  refine TrC.take rfl (step_loadP1 rfl rfl rfl ty3 rfl rfl) ?_   -- 8
  refine TrC.take rfl (step_call0 rfl rfl (C48 x.2 y.2) rfl) ?_   -- 9
  refine TrC.take rfl (step_buildSliceT rfl sl88 ze3 rfl rfl rfl rfl rfl rfl rfl rfl rfl rfl rfl rfl) ?_   -- 10
  refine TrC.take rfl (step_call0 rfl rfl (C47 (cmpI x.1 y.1) (cmpI x.2 y.2)) rfl) ?_   -- 11
  refine TrC.take rfl (step_assign rfl rfl rfl) ?_   -- 12
  refine TrC.doneD rfl ?_
  refine AT.ret ?_
  exact Ret.one rfl (ResR.tmp rfl (.refl _))

theorem C33 (n : Net) (i : Nat) (hi : i < n.fl.length) (hl : n.fl.length ≤ 1000000) : Has Try.prog 33 [encN n, .i i] (encN (without n i)) := by   -- burgage/burgageref32.without
  refine Has.intro 24 Try.func33 (by kernel_rfl) rfl rfl fun w ok => ?_
  refine AT.seq ?_
  refine AT.region ?_   -- region 0 ref.go:82
  refine TrC.take rfl (step_box rfl rfl rfl rfl rfl rfl rfl) ?_   -- 0
  refine TrC.take rfl (step_allocC rfl rfl ze30 zc30 rfl rfl rfl) ?_   -- 1
  refine TrC.done ?_
  refine AT.seq ?_
  refine AT.region ?_   -- region 1 ref.go:83
  refine TrC.take rfl (step_buildSliceH rfl rfl sl27 ze25 rfl rfl rfl rfl rfl rfl rfl rfl rfl rfl rfl rfl rfl) ?_   -- 0
  refine TrC.take rfl (step_fieldAddrP rfl rfl fd30_0 rfl rfl) ?_   -- 1
  refine TrC.take rfl (step_loadP1 rfl rfl rfl ty27 rfl rfl) ?_   -- 2
  refine TrC.take rfl (step_move rfl rfl rfl) ?_   -- 3
  refine TrC.take rfl (step_sliceT rfl rfl rfl rfl sl27 (by first | (simp; done) | (simp; omega) | omega) (by first | (simp; done) | (simp; omega) | omega) (by first | (simp; done) | (simp; omega) | omega) rfl) ?_   -- 4
  refine TrC.take rfl (step_append rfl rfl rfl rfl rfl (.refl _) sl27 ze25 rfl rfl rfl (by first | (simp; done) | (simp; omega) | omega) rfl rfl) ?_   -- 5
  refine TrC.take rfl (step_assign rfl rfl rfl) ?_   -- 6
  refine TrC.done ?_
  refine AT.seq ?_
  refine AT.regionD mixed rfl ?_   -- region 2 ref.go:84
  refine TrC.take rfl (step_move rfl rfl rfl) ?_   -- 0
  refine TrC.take rfl (step_fieldAddrP rfl rfl fd30_0 rfl rfl) ?_   -- 1
  refine TrC.take rfl (step_loadP1 rfl rfl rfl ty27 rfl rfl) ?_   -- 2
  refine TrC.take rfl (step_move rfl rfl rfl) ?_   -- 3
  refine TrC.take rfl (step_addI rfl rfl rfl (by omega) (by omega) rfl) ?_   -- 4
  refine TrC.take rfl (step_sliceT rfl rfl rfl rfl sl27 (by first | (simp; done) | (simp; omega) | omega) (by first | (simp; done) | (simp; omega) | omega) (by first | (simp; done) | (simp; omega) | omega) rfl) ?_   -- 5
  refine TrC.take rfl (Step.toT (step_append rfl rfl rfl rfl rfl (.refl _) sl27 ze25 rfl rfl rfl (by first | (simp; done) | (simp; omega) | omega) rfl rfl) rfl) ?_   -- 6
  refine TrC.take rfl (step_fieldAddrP rfl rfl fd30_1 rfl rfl) ?_   -- 7
  refine TrC.take rfl (step_loadP1 rfl rfl rfl ty28 rfl rfl) ?_   -- 8
  refine TrC.take rfl (step_fieldAddrP rfl rfl fd30_2 rfl rfl) ?_   -- 9
  refine TrC.take rfl (step_loadP1 rfl rfl rfl ty3 rfl rfl) ?_   -- 10
  refine TrC.take rfl (step_buildC rfl ze30 zc30 rfl pl30 rfl rfl rfl rfl) ?_   -- 11
  refine TrC.take rfl (step_storeP rfl rfl rfl rfl rfl (.inl rfl) ty30 rfl rfl rfl) ?_   -- 12
  refine TrC.doneD rfl ?_
  refine AT.ret ?_
  exact Ret.one rfl (ResR.cellN rfl rfl ty30 rfl rfl (conv_eq (by simp [encN, without, List.map_take, List.map_drop, List.take_of_length_le])))

end Go.Proofs.Ytnemmdbafngppaa.Net
