/- Contracts of functions of this translation. Printed by wip/tools/gen.py out of wip/net/ann.py. No condition. -/
import Derived.Test.YtnemmdbafngppaaF4
set_option linter.unusedVariables false
set_option linter.unusedSimpArgs false
namespace Go.Proofs.Ytnemmdbafngppaa.Net
open Go.Proofs.Ytnemmdbafngppaa.Abs
set_option maxRecDepth 100000
set_option maxHeartbeats 4000000
theorem C25 (n : Net) (a b : Int) (hl : n.cuts.length ≤ 1000000) : Has Try.prog 25 [encN n, .i a, .i b] (encTaken (heal n a b)) := by   -- burgage/burgageref32.Heal
  refine Has.intro 42 Try.func25 (by kernel_rfl) rfl rfl fun w ok => ?_
  refine AT.seq ?_
  refine AT.region ?_   -- region 0 ref.go:139
  refine TrC.take rfl (step_box rfl rfl rfl rfl rfl rfl rfl) ?_   -- 0
  refine TrC.take rfl (step_allocC rfl rfl ze40 zc40 rfl rfl rfl) ?_   -- 1
  refine TrC.done ?_
  refine AT.seq ?_
  refine AT.seq ?_
  refine AT.region ?_   -- region 1 ref.go:140
  refine TrC.take rfl (step_move rfl rfl rfl) ?_   -- 0
  refine TrC.take rfl (step_move rfl rfl rfl) ?_   -- 1
  refine TrC.take rfl (step_call0 rfl rfl (C30 a b) rfl) ?_   -- 2
  refine TrC.take rfl (step_not rfl rfl rfl) ?_   -- 3
  refine TrC.done ?_
  refine AT.cond rfl (fun h12 => ?_) (fun h12 => ?_)   -- t12
  · -- true
    have hs : heal n a b = ⟨n, p0, 1⟩ := by unfold heal; rw [if_neg (by simpa using h12)]
    refine AT.seq ?_
    refine AT.region ?_   -- region 2 ref.go:141
    refine TrC.take rfl (step_loadPN rfl rfl rfl ty30 rfl rfl rfl) ?_   -- 0
    refine TrC.take rfl (step_buildC rfl ze40 zc40 rfl pl40 rfl rfl rfl rfl) ?_   -- 1
    refine TrC.take rfl (step_storeP rfl rfl rfl rfl rfl (.inl rfl) ty40 rfl rfl rfl) ?_   -- 2
    refine TrC.done ?_
    refine AT.ret ?_
    exact Ret.one rfl (ResR.cellN rfl rfl ty40 rfl rfl (conv_eq (by rw [hs]; simp [encTaken, p0, encN, encC, pr, List.map_take, List.map_drop, List.take_of_length_le])))
  · -- false
    refine AT.skip ?_
    refine AT.seq ?_
    refine AT.region ?_   -- region 3 ref.go:143
    refine TrC.take rfl (step_loadPN rfl rfl rfl ty30 rfl rfl rfl) ?_   -- 0
    refine TrC.take rfl (step_move rfl rfl rfl) ?_   -- 1
    refine TrC.take rfl (step_move rfl rfl rfl) ?_   -- 2
    refine TrC.take rfl (step_call0 rfl rfl (C37 n a b hl) rfl) ?_   -- 3
    refine TrC.take rfl (step_assign rfl rfl rfl) ?_   -- 4
    refine TrC.done ?_
    refine AT.seq ?_
    refine AT.seq ?_
    refine AT.region ?_   -- region 4 ref.go:144
    refine TrC.take rfl (step_move rfl rfl rfl) ?_   -- 0
    refine TrC.take rfl (step_bin rfl rfl rfl rfl rfl) ?_   -- 1
    refine TrC.done ?_
    refine AT.cond rfl (fun h20 => ?_) (fun h20 => ?_)   -- t20
    · -- true
      have hn : cutIx n a b = none := ix_neg (by simpa using h20)
      have hs : heal n a b = ⟨n, p0, 0⟩ := by unfold heal; rw [if_pos (by simpa using h12), hn]
      refine AT.seq ?_
      refine AT.region ?_   -- region 5 ref.go:145
      refine TrC.take rfl (step_loadPN rfl rfl rfl ty30 rfl rfl rfl) ?_   -- 0
      refine TrC.take rfl (step_buildC rfl ze40 zc40 rfl pl40 rfl rfl rfl rfl) ?_   -- 1
      refine TrC.take rfl (step_storeP rfl rfl rfl rfl rfl (.inl rfl) ty40 rfl rfl rfl) ?_   -- 2
      refine TrC.done ?_
      refine AT.ret ?_
      exact Ret.one rfl (ResR.cellN rfl rfl ty40 rfl rfl (conv_eq (by rw [hs]; simp [encTaken, p0, encN, encC, pr, List.map_take, List.map_drop, List.take_of_length_le])))
    · -- false
      obtain ⟨i, hf, hi⟩ := cut_pos (by simpa using h20)
      refine AT.spell 7 rfl (show T.v (.int .i64 (ixI (cutIx n a b))) = .v (.int .i64 i) by rw [hf]; rfl) ?_
      have hs : heal n a b = ⟨⟨n.fl, n.cuts.take i ++ n.cuts.drop (i + 1), n.next⟩, p0, 0⟩ := by unfold heal; rw [if_pos (by simpa using h12), hf]
      refine AT.skip ?_
      refine AT.seq ?_
      refine AT.region ?_   -- region 6 ref.go:147
      refine TrC.take rfl (step_buildSliceH rfl rfl sl28 ze32 rfl rfl rfl rfl rfl rfl rfl rfl rfl rfl rfl rfl rfl) ?_   -- 0
      refine TrC.take rfl (step_fieldAddrP rfl rfl fd30_1 rfl rfl) ?_   -- 1
      refine TrC.take rfl (step_loadP1 rfl rfl rfl ty28 rfl rfl) ?_   -- 2
      refine TrC.take rfl (step_move rfl rfl rfl) ?_   -- 3
      refine TrC.take rfl (step_sliceT rfl rfl rfl rfl sl28 (by first | (simp; done) | (simp; omega) | omega) (by first | (simp; done) | (simp; omega) | omega) (by first | (simp; done) | (simp; omega) | omega) rfl) ?_   -- 4
      refine TrC.take rfl (step_append rfl rfl rfl rfl rfl (.refl _) sl28 ze32 rfl rfl rfl (by first | (simp; done) | (simp; omega) | omega) rfl rfl) ?_   -- 5
      refine TrC.take rfl (step_assign rfl rfl rfl) ?_   -- 6
      refine TrC.done ?_
      refine AT.seq ?_
      refine AT.regionD mixed rfl ?_   -- region 7 ref.go:148
      refine TrC.take rfl (step_fieldAddrP rfl rfl fd30_0 rfl rfl) ?_   -- 0
      refine TrC.take rfl (step_loadP1 rfl rfl rfl ty27 rfl rfl) ?_   -- 1
      refine TrC.take rfl (step_move rfl rfl rfl) ?_   -- 2
      refine TrC.take rfl (step_fieldAddrP rfl rfl fd30_1 rfl rfl) ?_   -- 3
      refine TrC.take rfl (step_loadP1 rfl rfl rfl ty28 rfl rfl) ?_   -- 4
      refine TrC.take rfl (step_move rfl rfl rfl) ?_   -- 5
      refine TrC.take rfl (step_addI rfl rfl rfl (by omega) (by omega) rfl) ?_   -- 6
      refine TrC.take rfl (step_sliceT rfl rfl rfl rfl sl28 (by first | (simp; done) | (simp; omega) | omega) (by first | (simp; done) | (simp; omega) | omega) (by first | (simp; done) | (simp; omega) | omega) rfl) ?_   -- 7
      refine TrC.take rfl (Step.toT (step_append rfl rfl rfl rfl rfl (.refl _) sl28 ze32 rfl rfl rfl (by first | (simp; done) | (simp; omega) | omega) rfl rfl) rfl) ?_   -- 8
      refine TrC.take rfl (step_fieldAddrP rfl rfl fd30_2 rfl rfl) ?_   -- 9
      refine TrC.take rfl (step_loadP1 rfl rfl rfl ty3 rfl rfl) ?_   -- 10
      refine TrC.take rfl (step_buildC rfl ze30 zc30 rfl pl30 rfl rfl rfl rfl) ?_   -- 11
      refine TrC.take rfl (step_buildC rfl ze40 zc40 rfl pl40 rfl rfl rfl rfl) ?_   -- 12
      refine TrC.take rfl (step_storeP rfl rfl rfl rfl rfl (.inl rfl) ty40 rfl rfl rfl) ?_   -- 13
      refine TrC.doneD rfl ?_
      refine AT.ret ?_
      exact Ret.one rfl (ResR.cellN rfl rfl ty40 rfl rfl (conv_eq (by rw [hs]; simp [encTaken, p0, encN, encC, pr, List.map_take, List.map_drop, List.take_of_length_le])))

theorem C24 (n : Net) (a b : Int) (hl : n.cuts.length ≤ 1000000) : Has Try.prog 24 [encN n, .i a, .i b] (encTaken (sever n a b)) := by   -- burgage/burgageref32.Sever
  refine Has.intro 73 Try.func24 (by kernel_rfl) rfl rfl fun w ok => ?_
  refine AT.seq ?_
  refine AT.region ?_   -- region 0 ref.go:120
  refine TrC.take rfl (step_box rfl rfl rfl rfl rfl rfl rfl) ?_   -- 0
  refine TrC.take rfl (step_allocC rfl rfl ze40 zc40 rfl rfl rfl) ?_   -- 1
  refine TrC.done ?_
  refine AT.seq ?_
  refine AT.seq ?_
  refine AT.region ?_   -- region 1 ref.go:121
  refine TrC.take rfl (step_move rfl rfl rfl) ?_   -- 0
  refine TrC.take rfl (step_move rfl rfl rfl) ?_   -- 1
  refine TrC.take rfl (step_call0 rfl rfl (C30 a b) rfl) ?_   -- 2
  refine TrC.take rfl (step_not rfl rfl rfl) ?_   -- 3
  refine TrC.done ?_
  refine AT.cond rfl (fun h13 => ?_) (fun h13 => ?_)   -- t13
  · -- true
    refine AT.seq ?_
    have hs : sever n a b = ⟨n, p0, 1⟩ := by unfold sever; rw [if_neg (by simpa using h13)]
    refine AT.region ?_   -- region 2 ref.go:122
    refine TrC.take rfl (step_loadPN rfl rfl rfl ty30 rfl rfl rfl) ?_   -- 0
    refine TrC.take rfl (step_buildC rfl ze40 zc40 rfl pl40 rfl rfl rfl rfl) ?_   -- 1
    refine TrC.take rfl (step_storeP rfl rfl rfl rfl rfl (.inl rfl) ty40 rfl rfl rfl) ?_   -- 2
    refine TrC.done ?_
    refine AT.ret ?_
    exact Ret.one rfl (ResR.cellN rfl rfl ty40 rfl rfl (conv_eq (by rw [hs]; simp [encTaken, p0, encN, encC, pr, List.map_take, List.map_drop, List.take_of_length_le])))
  · -- false
    refine AT.skip ?_
    refine AT.seq ?_
    refine AT.seq ?_
    refine AT.region ?_   -- region 3 ref.go:124
    refine TrC.take rfl (step_loadPN rfl rfl rfl ty30 rfl rfl rfl) ?_   -- 0
    refine TrC.take rfl (step_move rfl rfl rfl) ?_   -- 1
    refine TrC.take rfl (step_move rfl rfl rfl) ?_   -- 2
    refine TrC.take rfl (step_call0 rfl rfl (C20 n a b hl) rfl) ?_   -- 3
    refine TrC.take rfl (step_not rfl rfl rfl) ?_   -- 4
    refine TrC.done ?_
    refine AT.cond rfl (fun h20 => ?_) (fun h20 => ?_)   -- t20
    · -- true
      refine AT.seq ?_
      have hs : sever n a b = ⟨n, p0, 0⟩ := by unfold sever; rw [if_pos (by simpa using h13), if_neg (by simpa using h20)]
      refine AT.region ?_   -- region 4 ref.go:125
      refine TrC.take rfl (step_loadPN rfl rfl rfl ty30 rfl rfl rfl) ?_   -- 0
      refine TrC.take rfl (step_buildC rfl ze40 zc40 rfl pl40 rfl rfl rfl rfl) ?_   -- 1
      refine TrC.take rfl (step_storeP rfl rfl rfl rfl rfl (.inl rfl) ty40 rfl rfl rfl) ?_   -- 2
      refine TrC.done ?_
      refine AT.ret ?_
      exact Ret.one rfl (ResR.cellN rfl rfl ty40 rfl rfl (conv_eq (by rw [hs]; simp [encTaken, p0, encN, encC, pr, List.map_take, List.map_drop, List.take_of_length_le])))
    · -- false
      refine AT.skip ?_
      refine AT.seq ?_
      refine AT.seq ?_
      refine AT.region ?_   -- region 5 ref.go:127
      refine TrC.take rfl (step_fieldAddrP rfl rfl fd30_1 rfl rfl) ?_   -- 0
      refine TrC.take rfl (step_loadP1 rfl rfl rfl ty28 rfl rfl) ?_   -- 1
      refine TrC.take rfl (step_lenT (rt := 0) rfl rfl sl28 rfl) ?_   -- 2
      refine TrC.take rfl (step_bin rfl rfl rfl rfl rfl) ?_   -- 3
      refine TrC.done ?_
      refine AT.cond rfl (fun h26 => ?_) (fun h26 => ?_)   -- t26
      · -- true
        refine AT.seq ?_
        have hs : sever n a b = ⟨n, p0, 2⟩ := by unfold sever; rw [if_pos (by simpa using h13), if_pos (by simpa using h20), if_pos (by have h := h26; simp at h; omega)]
        refine AT.region ?_   -- region 6 ref.go:128
        refine TrC.take rfl (step_loadPN rfl rfl rfl ty30 rfl rfl rfl) ?_   -- 0
        refine TrC.take rfl (step_buildC rfl ze40 zc40 rfl pl40 rfl rfl rfl rfl) ?_   -- 1
        refine TrC.take rfl (step_storeP rfl rfl rfl rfl rfl (.inl rfl) ty40 rfl rfl rfl) ?_   -- 2
        refine TrC.done ?_
        refine AT.ret ?_
        exact Ret.one rfl (ResR.cellN rfl rfl ty40 rfl rfl (conv_eq (by rw [hs]; simp [encTaken, p0, encN, encC, pr, List.map_take, List.map_drop, List.take_of_length_le])))
      · -- false
        refine AT.skip ?_
        refine AT.seq ?_
        refine AT.region ?_   -- region 7 ref.go:130
        refine TrC.take rfl (step_move rfl rfl rfl) ?_   -- 0
        refine TrC.take rfl (step_move rfl rfl rfl) ?_   -- 1
        refine TrC.take rfl (step_min rfl rfl rfl rfl) ?_   -- 2
        refine TrC.take rfl (step_move rfl rfl rfl) ?_   -- 3
        refine TrC.take rfl (step_move rfl rfl rfl) ?_   -- 4
        refine TrC.take rfl (step_max rfl rfl rfl rfl) ?_   -- 5
        refine TrC.take rfl (step_buildA rfl ze32 rfl ar32 rfl rfl rfl rfl) ?_   -- 6
        refine TrC.take rfl (step_alloc rfl rfl ze32 rfl rfl rfl) ?_   -- 7
        refine TrC.take rfl (step_storeP rfl rfl rfl rfl rfl (.inl rfl) ty32 rfl rfl rfl) ?_   -- 8
        refine TrC.take rfl (step_assign rfl rfl rfl) ?_   -- 9
        refine TrC.done ?_
        refine AT.seq ?_
        refine AT.block ?_   -- block 0
        refine AT.loopP (fun i : Nat => i ≤ n.cuts.length ∧ ∀ j (h : j < n.cuts.length), j < i → less n.cuts[j] (pr a b) = true) (fun i => mkS [(3, .p 3 0), (6, .p 6 0), (7, .p 7 0), (8, .t (.i i))] [(3, .box 30 [.t (.slice 3 (n.fl.map encP)), .t (.slice 2 (n.cuts.map encC)), .t (.i n.next)]), (6, .box 40 [.t (.slice 3 []), .t (.slice 2 []), .t (.i 0), .t (.i 0), .t (.i 0), .t (.i 0), .t (.i 0)]), (7, .box 32 [.t (.i (min a b)), .t (.i (max a b))])]) (fun i => n.cuts.length - i) (0) (⟨by omega, fun j h hj => by omega⟩) (fun a w hs => Sat.wk [] (.cons (.p rfl) (.cons (.p rfl) (.cons (.p rfl) (.cons (.t (.refl _)) (.nil))))) (.cons rfl (.box (.cons (.t (.refl _)) (.cons (.t (.refl _)) (.cons (.t (.refl _)) (.nil))))) (.cons rfl (.box (.cons (.t (.refl _)) (.cons (.t (.refl _)) (.cons (.t (.refl _)) (.cons (.t (.refl _)) (.cons (.t (.refl _)) (.cons (.t (.refl _)) (.cons (.t (.refl _)) (.nil))))))))) (.cons rfl (.box (.cons (.t (.refl _)) (.cons (.t (.refl _)) (.nil)))) (.nil)))) rfl rfl a w hs) (fun ix hix => ?_)
        obtain ⟨hi, hpre⟩ := hix
        refine AT.seq ?_
        refine AT.seq ?_
        refine AT.regionD mixed rfl ?_   -- region 8 ref.go:131
        refine TrC.take rfl (step_move rfl rfl rfl) ?_   -- 0
        refine TrC.take rfl (step_fieldAddrP rfl rfl fd30_1 rfl rfl) ?_   -- 1
        refine TrC.take rfl (step_loadP1 rfl rfl rfl ty28 rfl rfl) ?_   -- 2
        refine TrC.take rfl (step_lenT (rt := 0) rfl rfl sl28 rfl) ?_   -- 3
        refine TrC.take rfl (step_bin rfl rfl rfl rfl rfl) ?_   -- 4
        refine TrC.take rfl (step_move rfl rfl rfl) ?_   -- 5
        refine TrC.cases (d := 41) rfl (fun h41 => ?_) (fun h41 => ?_)
        · -- t41 = true
          have hlt : ix < n.cuts.length := by simpa using h41
          have hget : (n.cuts.map encC)[ix]? = some (.agg [.i n.cuts[ix].1, .i n.cuts[ix].2]) := by simp [hlt, encC]
          refine TrC.take ⟨_, _, rfl, rfl, rfl⟩ (step_fieldAddrP rfl rfl fd30_1 rfl rfl) ?_   -- 6
          refine TrC.take ⟨_, _, rfl, rfl, rfl⟩ (step_loadP1 rfl rfl rfl ty28 rfl rfl) ?_   -- 7
          refine TrC.take ⟨_, _, rfl, rfl, rfl⟩ (step_move rfl rfl rfl) ?_   -- 8
          refine TrC.take ⟨_, _, rfl, rfl, rfl⟩ (step_indexAddrT (v := .agg [.i n.cuts[ix].1, .i n.cuts[ix].2]) rfl rfl rfl sl28 (by omega) (by simpa using hget) rfl rfl) ?_   -- 9
          refine TrC.take ⟨_, _, rfl, rfl, rfl⟩ (step_loadTN rfl rfl ty32 rfl rfl) ?_   -- 10
          refine TrC.take ⟨_, _, rfl, rfl, rfl⟩ (step_loadPN rfl rfl rfl ty32 rfl rfl rfl) ?_   -- 11
          refine TrC.take ⟨_, _, rfl, rfl, rfl⟩ (step_call0 rfl rfl (C42 n.cuts[ix] (pr a b)) rfl) ?_   -- 12
          refine TrC.take rfl (step_pick rfl rfl rfl rfl) ?_   -- 13
          refine TrC.doneD rfl ?_
          refine AT.cond rfl (fun h49 => ?_) (fun h49 => ?_)   -- t49
          · -- true
            refine AT.skip ?_
            refine AT.block ?_   -- block 1
            refine AT.region ?_   -- region 9 ref.go:132
            refine TrC.take rfl (step_move rfl rfl rfl) ?_   -- 0
            refine TrC.take rfl (step_addI rfl rfl rfl (by omega) (by omega) rfl) ?_   -- 1
            refine TrC.take rfl (step_assign rfl rfl rfl) ?_   -- 2
            refine TrC.done ?_
            exact ⟨ix + 1, ⟨by omega, fun j hj hji => by
              by_cases he : j = ix
              · subst he; exact h49
              · exact hpre j hj (by omega)⟩, by show n.cuts.length - (ix + 1) < n.cuts.length - ix; omega, Sat.wk [] (.cons (.p rfl) (.cons (.p rfl) (.cons (.p rfl) (.cons (.t (conv_i (by simp))) (.nil))))) (.cons rfl (.box (.cons (.t (.refl _)) (.cons (.t (.refl _)) (.cons (.t (.refl _)) (.nil))))) (.cons rfl (.box (.cons (.t (.refl _)) (.cons (.t (.refl _)) (.cons (.t (.refl _)) (.cons (.t (.refl _)) (.cons (.t (.refl _)) (.cons (.t (.refl _)) (.cons (.t (.refl _)) (.nil))))))))) (.cons rfl (.box (.cons (.t (.refl _)) (.cons (.t (.refl _)) (.nil)))) (.nil)))) rfl rfl⟩
          · -- false
            have hx : insAt n.cuts (pr a b) = ix := insAt_stop hlt hpre h49
            refine AT.exit (Or.inl ⟨rfl, ?_⟩)   -- exit 0
            refine AT.seq ?_
            have hs : sever n a b = ⟨⟨n.fl, n.cuts.take ix ++ pr a b :: n.cuts.drop ix, n.next⟩, p0, 0⟩ := by unfold sever; rw [if_pos (by simpa using h13), if_pos (by simpa using h20), if_neg (by have h := h26; simp at h; omega), hx]
            refine AT.regionD mixed rfl ?_   -- region 10 ref.go:134
            refine TrC.take rfl (step_buildSliceH rfl rfl sl28 ze32 rfl rfl rfl rfl rfl rfl rfl rfl rfl rfl rfl rfl rfl) ?_   -- 0
            refine TrC.take rfl (step_fieldAddrP rfl rfl fd30_1 rfl rfl) ?_   -- 1
            refine TrC.take rfl (step_loadP1 rfl rfl rfl ty28 rfl rfl) ?_   -- 2
            refine TrC.take rfl (step_move rfl rfl rfl) ?_   -- 3
            refine TrC.take rfl (step_sliceT rfl rfl rfl rfl sl28 (by first | (simp; done) | (simp; omega) | omega) (by first | (simp; done) | (simp; omega) | omega) (by first | (simp; done) | (simp; omega) | omega) rfl) ?_   -- 4
            refine TrC.take rfl (step_append rfl rfl rfl rfl rfl (.refl _) sl28 ze32 rfl rfl rfl (by first | (simp; done) | (simp; omega) | omega) rfl rfl) ?_   -- 5
            refine TrC.take rfl (step_loadPN rfl rfl rfl ty32 rfl rfl rfl) ?_   -- 6
            refine TrC.take rfl (step_buildSliceT rfl sl28 ze32 rfl rfl rfl rfl rfl rfl rfl rfl rfl rfl rfl rfl) ?_   -- 7
            refine TrC.take rfl (step_append rfl rfl rfl rfl rfl (.refl _) sl28 ze32 rfl rfl rfl (by first | (simp; done) | (simp; omega) | omega) rfl rfl) ?_   -- 8
            refine TrC.take rfl (step_assign rfl rfl rfl) ?_   -- 9
            refine TrC.doneD rfl ?_
            refine AT.seq ?_
            refine AT.regionD mixed rfl ?_   -- region 11 ref.go:135
            refine TrC.take rfl (step_fieldAddrP rfl rfl fd30_0 rfl rfl) ?_   -- 0
            refine TrC.take rfl (step_loadP1 rfl rfl rfl ty27 rfl rfl) ?_   -- 1
            refine TrC.take rfl (step_move rfl rfl rfl) ?_   -- 2
            refine TrC.take rfl (step_fieldAddrP rfl rfl fd30_1 rfl rfl) ?_   -- 3
            refine TrC.take rfl (step_loadP1 rfl rfl rfl ty28 rfl rfl) ?_   -- 4
            refine TrC.take rfl (step_move rfl rfl rfl) ?_   -- 5
            refine TrC.take rfl (step_sliceT rfl rfl rfl rfl sl28 (by first | (simp; done) | (simp; omega) | omega) (by first | (simp; done) | (simp; omega) | omega) (by first | (simp; done) | (simp; omega) | omega) rfl) ?_   -- 6
            refine TrC.take rfl (Step.toT (step_append rfl rfl rfl rfl rfl (.refl _) sl28 ze32 rfl rfl rfl (by first | (simp; done) | (simp; omega) | omega) rfl rfl) rfl) ?_   -- 7
            refine TrC.take rfl (step_fieldAddrP rfl rfl fd30_2 rfl rfl) ?_   -- 8
            refine TrC.take rfl (step_loadP1 rfl rfl rfl ty3 rfl rfl) ?_   -- 9
            refine TrC.take rfl (step_buildC rfl ze30 zc30 rfl pl30 rfl rfl rfl rfl) ?_   -- 10
            refine TrC.take rfl (step_buildC rfl ze40 zc40 rfl pl40 rfl rfl rfl rfl) ?_   -- 11
            refine TrC.take rfl (step_storeP rfl rfl rfl rfl rfl (.inl rfl) ty40 rfl rfl rfl) ?_   -- 12
            refine TrC.doneD rfl ?_
            refine AT.ret ?_
            exact Ret.one rfl (ResR.cellN rfl rfl ty40 rfl rfl (conv_eq (by rw [hs]; simp [encTaken, p0, encN, encC, pr, List.map_take, List.map_drop, List.take_of_length_le])))
        · -- t41 = false
          have hge : ¬ ix < n.cuts.length := by simpa using h41
          have hx : insAt n.cuts (pr a b) = ix := by
            have : ix = n.cuts.length := by omega
            rw [this]; exact insAt_end fun j hj => hpre j hj (by omega)
          refine TrC.skip ⟨_, _, rfl, rfl, rfl⟩ ?_   -- 6
          refine TrC.skip ⟨_, _, rfl, rfl, rfl⟩ ?_   -- 7
          refine TrC.skip ⟨_, _, rfl, rfl, rfl⟩ ?_   -- 8
          refine TrC.skip ⟨_, _, rfl, rfl, rfl⟩ ?_   -- 9
          refine TrC.skip ⟨_, _, rfl, rfl, rfl⟩ ?_   -- 10
          refine TrC.skip ⟨_, _, rfl, rfl, rfl⟩ ?_   -- 11
          refine TrC.skip ⟨_, _, rfl, rfl, rfl⟩ ?_   -- 12
          refine TrC.take rfl (step_pick rfl rfl rfl rfl) ?_   -- 13
          refine TrC.doneD rfl ?_
          refine AT.condF rfl ?_   -- t49
          refine AT.exit (Or.inl ⟨rfl, ?_⟩)   -- exit 0
          refine AT.seq ?_
          have hs : sever n a b = ⟨⟨n.fl, n.cuts.take ix ++ pr a b :: n.cuts.drop ix, n.next⟩, p0, 0⟩ := by unfold sever; rw [if_pos (by simpa using h13), if_pos (by simpa using h20), if_neg (by have h := h26; simp at h; omega), hx]
          refine AT.regionD mixed rfl ?_   -- region 10 ref.go:134
          refine TrC.take rfl (step_buildSliceH rfl rfl sl28 ze32 rfl rfl rfl rfl rfl rfl rfl rfl rfl rfl rfl rfl rfl) ?_   -- 0
          refine TrC.take rfl (step_fieldAddrP rfl rfl fd30_1 rfl rfl) ?_   -- 1
          refine TrC.take rfl (step_loadP1 rfl rfl rfl ty28 rfl rfl) ?_   -- 2
          refine TrC.take rfl (step_move rfl rfl rfl) ?_   -- 3
          refine TrC.take rfl (step_sliceT rfl rfl rfl rfl sl28 (by first | (simp; done) | (simp; omega) | omega) (by first | (simp; done) | (simp; omega) | omega) (by first | (simp; done) | (simp; omega) | omega) rfl) ?_   -- 4
          refine TrC.take rfl (step_append rfl rfl rfl rfl rfl (.refl _) sl28 ze32 rfl rfl rfl (by first | (simp; done) | (simp; omega) | omega) rfl rfl) ?_   -- 5
          refine TrC.take rfl (step_loadPN rfl rfl rfl ty32 rfl rfl rfl) ?_   -- 6
          refine TrC.take rfl (step_buildSliceT rfl sl28 ze32 rfl rfl rfl rfl rfl rfl rfl rfl rfl rfl rfl rfl) ?_   -- 7
          refine TrC.take rfl (step_append rfl rfl rfl rfl rfl (.refl _) sl28 ze32 rfl rfl rfl (by first | (simp; done) | (simp; omega) | omega) rfl rfl) ?_   -- 8
          refine TrC.take rfl (step_assign rfl rfl rfl) ?_   -- 9
          refine TrC.doneD rfl ?_
          refine AT.seq ?_
          refine AT.regionD mixed rfl ?_   -- region 11 ref.go:135
          refine TrC.take rfl (step_fieldAddrP rfl rfl fd30_0 rfl rfl) ?_   -- 0
          refine TrC.take rfl (step_loadP1 rfl rfl rfl ty27 rfl rfl) ?_   -- 1
          refine TrC.take rfl (step_move rfl rfl rfl) ?_   -- 2
          refine TrC.take rfl (step_fieldAddrP rfl rfl fd30_1 rfl rfl) ?_   -- 3
          refine TrC.take rfl (step_loadP1 rfl rfl rfl ty28 rfl rfl) ?_   -- 4
          refine TrC.take rfl (step_move rfl rfl rfl) ?_   -- 5
          refine TrC.take rfl (step_sliceT rfl rfl rfl rfl sl28 (by first | (simp; done) | (simp; omega) | omega) (by first | (simp; done) | (simp; omega) | omega) (by first | (simp; done) | (simp; omega) | omega) rfl) ?_   -- 6
          refine TrC.take rfl (Step.toT (step_append rfl rfl rfl rfl rfl (.refl _) sl28 ze32 rfl rfl rfl (by first | (simp; done) | (simp; omega) | omega) rfl rfl) rfl) ?_   -- 7
          refine TrC.take rfl (step_fieldAddrP rfl rfl fd30_2 rfl rfl) ?_   -- 8
          refine TrC.take rfl (step_loadP1 rfl rfl rfl ty3 rfl rfl) ?_   -- 9
          refine TrC.take rfl (step_buildC rfl ze30 zc30 rfl pl30 rfl rfl rfl rfl) ?_   -- 10
          refine TrC.take rfl (step_buildC rfl ze40 zc40 rfl pl40 rfl rfl rfl rfl) ?_   -- 11
          refine TrC.take rfl (step_storeP rfl rfl rfl rfl rfl (.inl rfl) ty40 rfl rfl rfl) ?_   -- 12
          refine TrC.doneD rfl ?_
          refine AT.ret ?_
          exact Ret.one rfl (ResR.cellN rfl rfl ty40 rfl rfl (conv_eq (by rw [hs]; simp [encTaken, p0, encN, encC, pr, List.map_take, List.map_drop, List.take_of_length_le])))

end Go.Proofs.Ytnemmdbafngppaa.Net
