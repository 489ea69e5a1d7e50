/- Parts of this proof, one after the other; each says what it proves. No condition. -/
import Derived.Test.YtnemmdbafngppaaMD
import Derived.Test.YtnemmdbafngppaaMC
/- Contracts of functions of this translation. Printed by wip/tools/gen.py out of wip/net/ann.py. No condition. -/
set_option linter.unusedVariables false
set_option linter.unusedSimpArgs false
namespace Go.Proofs.Ytnemmdbafngppaa.Net
open Go.Proofs.Ytnemmdbafngppaa.Abs
set_option maxRecDepth 100000
set_option maxHeartbeats 4000000
theorem C25 (n : Net) (a b : Int) (hl : n.cuts.length ≤ 1000000) : Has Try.prog 25 [encN n, .i a, .i b] (encTaken (heal n a b)) := by   -- burgage/burgageref32.Heal
  refine Has.intro 42 Try.func25 (by kernel_rfl) rfl rfl fun w ok => ?_
  refine AT.seq ?_
  refine AT.region ?_   -- region 0 ref.go:139
  refine TrC.take rfl (step_box rfl rfl rfl rfl rfl rfl rfl) ?_   -- 0
  refine TrC.take rfl (step_allocC rfl rfl ze40 zc40 rfl rfl rfl) ?_   -- 1
  refine TrC.done ?_
  refine AT.seq ?_
  refine AT.seq ?_
  refine AT.region ?_   -- region 1 ref.go:140
  refine TrC.take rfl (step_move rfl rfl rfl) ?_   -- 0
  refine TrC.take rfl (step_move rfl rfl rfl) ?_   -- 1
  refine TrC.take rfl (step_call0 rfl rfl (C30 a b) rfl) ?_   -- 2
  refine TrC.take rfl (step_not rfl rfl rfl) ?_   -- 3
  refine TrC.done ?_
  refine AT.cond rfl (fun h12 => ?_) (fun h12 => ?_)   -- t12
  · -- true
    have hs : heal n a b = ⟨n, p0, 1⟩ := by unfold heal; rw [if_neg (by simpa using h12)]
    refine AT.seq ?_
    refine AT.region ?_   -- region 2 ref.go:141
    refine TrC.take rfl (step_loadPN rfl rfl rfl ty30 rfl rfl rfl) ?_   -- 0
    refine TrC.take rfl (step_buildC rfl ze40 zc40 rfl pl40 rfl rfl rfl rfl) ?_   -- 1
    refine TrC.take rfl (step_storeP rfl rfl rfl rfl rfl (.inl rfl) ty40 rfl rfl rfl) ?_   -- 2
    refine TrC.done ?_
    refine AT.ret ?_
    exact Ret.one rfl (ResR.cellN rfl rfl ty40 rfl rfl (conv_eq (by rw [hs]; simp [encTaken, p0, encN, encC, pr, List.map_take, List.map_drop, List.take_of_length_le])))
  · -- false
    refine AT.skip ?_
    refine AT.seq ?_
    refine AT.region ?_   -- region 3 ref.go:143
    refine TrC.take rfl (step_loadPN rfl rfl rfl ty30 rfl rfl rfl) ?_   -- 0
    refine TrC.take rfl (step_move rfl rfl rfl) ?_   -- 1
    refine TrC.take rfl (step_move rfl rfl rfl) ?_   -- 2
    refine TrC.take rfl (step_call0 rfl rfl (C37 n a b hl) rfl) ?_   -- 3
    refine TrC.take rfl (step_assign rfl rfl rfl) ?_   -- 4
    refine TrC.done ?_
    refine AT.seq ?_
    refine AT.seq ?_
    refine AT.region ?_   -- region 4 ref.go:144
    refine TrC.take rfl (step_move rfl rfl rfl) ?_   -- 0
    refine TrC.take rfl (step_bin rfl rfl rfl rfl rfl) ?_   -- 1
    refine TrC.done ?_
    refine AT.cond rfl (fun h20 => ?_) (fun h20 => ?_)   -- t20
    · -- true
      have hn : cutIx n a b = none := ix_neg (by simpa using h20)
      have hs : heal n a b = ⟨n, p0, 0⟩ := by unfold heal; rw [if_pos (by simpa using h12), hn]
      refine AT.seq ?_
      refine AT.region ?_   -- region 5 ref.go:145
      refine TrC.take rfl (step_loadPN rfl rfl rfl ty30 rfl rfl rfl) ?_   -- 0
      refine TrC.take rfl (step_buildC rfl ze40 zc40 rfl pl40 rfl rfl rfl rfl) ?_   -- 1
      refine TrC.take rfl (step_storeP rfl rfl rfl rfl rfl (.inl rfl) ty40 rfl rfl rfl) ?_   -- 2
      refine TrC.done ?_
      refine AT.ret ?_
      exact Ret.one rfl (ResR.cellN rfl rfl ty40 rfl rfl (conv_eq (by rw [hs]; simp [encTaken, p0, encN, encC, pr, List.map_take, List.map_drop, List.take_of_length_le])))
    · -- false
      obtain ⟨i, hf, hi⟩ := cut_pos (by simpa using h20)
      refine AT.spell 7 rfl (show T.v (.int .i64 (ixI (cutIx n a b))) = .v (.int .i64 i) by rw [hf]; rfl) ?_
      have hs : heal n a b = ⟨⟨n.fl, n.cuts.take i ++ n.cuts.drop (i + 1), n.next⟩, p0, 0⟩ := by unfold heal; rw [if_pos (by simpa using h12), hf]
      refine AT.skip ?_
      refine AT.seq ?_
      refine AT.region ?_   -- region 6 ref.go:147
      refine TrC.take rfl (step_buildSliceH rfl rfl sl28 ze32 rfl rfl rfl rfl rfl rfl rfl rfl rfl rfl rfl rfl rfl) ?_   -- 0
      refine TrC.take rfl (step_fieldAddrP rfl rfl fd30_1 rfl rfl) ?_   -- 1
      refine TrC.take rfl (step_loadP1 rfl rfl rfl ty28 rfl rfl) ?_   -- 2
      refine TrC.take rfl (step_move rfl rfl rfl) ?_   -- 3
      refine TrC.take rfl (step_sliceT rfl rfl rfl rfl sl28 (by first | (simp; done) | (simp; omega) | omega) (by first | (simp; done) | (simp; omega) | omega) (by first | (simp; done) | (simp; omega) | omega) rfl) ?_   -- 4
      refine TrC.take rfl (step_append rfl rfl rfl rfl rfl (.refl _) sl28 ze32 rfl rfl rfl (by first | (simp; done) | (simp; omega) | omega) rfl rfl) ?_   -- 5
      refine TrC.take rfl (step_assign rfl rfl rfl) ?_   -- 6
      refine TrC.done ?_
      refine AT.seq ?_
      refine AT.regionD mixed rfl ?_   -- region 7 ref.go:148
      refine TrC.take rfl (step_fieldAddrP rfl rfl fd30_0 rfl rfl) ?_   -- 0
      refine TrC.take rfl (step_loadP1 rfl rfl rfl ty27 rfl rfl) ?_   -- 1
      refine TrC.take rfl (step_move rfl rfl rfl) ?_   -- 2
      refine TrC.take rfl (step_fieldAddrP rfl rfl fd30_1 rfl rfl) ?_   -- 3
      refine TrC.take rfl (step_loadP1 rfl rfl rfl ty28 rfl rfl) ?_   -- 4
      refine TrC.take rfl (step_move rfl rfl rfl) ?_   -- 5
      refine TrC.take rfl (step_addI rfl rfl rfl (by omega) (by omega) rfl) ?_   -- 6
      refine TrC.take rfl (step_sliceT rfl rfl rfl rfl sl28 (by first | (simp; done) | (simp; omega) | omega) (by first | (simp; done) | (simp; omega) | omega) (by first | (simp; done) | (simp; omega) | omega) rfl) ?_   -- 7
      refine TrC.take rfl (Step.toT (step_append rfl rfl rfl rfl rfl (.refl _) sl28 ze32 rfl rfl rfl (by first | (simp; done) | (simp; omega) | omega) rfl rfl) rfl) ?_   -- 8
      refine TrC.take rfl (step_fieldAddrP rfl rfl fd30_2 rfl rfl) ?_   -- 9
      refine TrC.take rfl (step_loadP1 rfl rfl rfl ty3 rfl rfl) ?_   -- 10
      refine TrC.take rfl (step_buildC rfl ze30 zc30 rfl pl30 rfl rfl rfl rfl) ?_   -- 11
      refine TrC.take rfl (step_buildC rfl ze40 zc40 rfl pl40 rfl rfl rfl rfl) ?_   -- 12
      refine TrC.take rfl (step_storeP rfl rfl rfl rfl rfl (.inl rfl) ty40 rfl rfl rfl) ?_   -- 13
      refine TrC.doneD rfl ?_
      refine AT.ret ?_
      exact Ret.one rfl (ResR.cellN rfl rfl ty40 rfl rfl (conv_eq (by rw [hs]; simp [encTaken, p0, encN, encC, pr, List.map_take, List.map_drop, List.take_of_length_le])))

theorem C24 (n : Net) (a b : Int) (hl : n.cuts.length ≤ 1000000) : Has Try.prog 24 [encN n, .i a, .i b] (encTaken (sever n a b)) := by   -- burgage/burgageref32.Sever
  refine Has.intro 73 Try.func24 (by kernel_rfl) rfl rfl fun w ok => ?_
  refine AT.seq ?_
  refine AT.region ?_   -- region 0 ref.go:120
  refine TrC.take rfl (step_box rfl rfl rfl rfl rfl rfl rfl) ?_   -- 0
  refine TrC.take rfl (step_allocC rfl rfl ze40 zc40 rfl rfl rfl) ?_   -- 1
  refine TrC.done ?_
  refine AT.seq ?_
  refine AT.seq ?_
  refine AT.region ?_   -- region 1 ref.go:121
  refine TrC.take rfl (step_move rfl rfl rfl) ?_   -- 0
  refine TrC.take rfl (step_move rfl rfl rfl) ?_   -- 1
  refine TrC.take rfl (step_call0 rfl rfl (C30 a b) rfl) ?_   -- 2
  refine TrC.take rfl (step_not rfl rfl rfl) ?_   -- 3
  refine TrC.done ?_
  refine AT.cond rfl (fun h13 => ?_) (fun h13 => ?_)   -- t13
  · -- true
    refine AT.seq ?_
    have hs : sever n a b = ⟨n, p0, 1⟩ := by unfold sever; rw [if_neg (by simpa using h13)]
    refine AT.region ?_   -- region 2 ref.go:122
    refine TrC.take rfl (step_loadPN rfl rfl rfl ty30 rfl rfl rfl) ?_   -- 0
    refine TrC.take rfl (step_buildC rfl ze40 zc40 rfl pl40 rfl rfl rfl rfl) ?_   -- 1
    refine TrC.take rfl (step_storeP rfl rfl rfl rfl rfl (.inl rfl) ty40 rfl rfl rfl) ?_   -- 2
    refine TrC.done ?_
    refine AT.ret ?_
    exact Ret.one rfl (ResR.cellN rfl rfl ty40 rfl rfl (conv_eq (by rw [hs]; simp [encTaken, p0, encN, encC, pr, List.map_take, List.map_drop, List.take_of_length_le])))
  · -- false
    refine AT.skip ?_
    refine AT.seq ?_
    refine AT.seq ?_
    refine AT.region ?_   -- region 3 ref.go:124
    refine TrC.take rfl (step_loadPN rfl rfl rfl ty30 rfl rfl rfl) ?_   -- 0
    refine TrC.take rfl (step_move rfl rfl rfl) ?_   -- 1
    refine TrC.take rfl (step_move rfl rfl rfl) ?_   -- 2
    refine TrC.take rfl (step_call0 rfl rfl (C20 n a b hl) rfl) ?_   -- 3
    refine TrC.take rfl (step_not rfl rfl rfl) ?_   -- 4
    refine TrC.done ?_
    refine AT.cond rfl (fun h20 => ?_) (fun h20 => ?_)   -- t20
    · -- true
      refine AT.seq ?_
      have hs : sever n a b = ⟨n, p0, 0⟩ := by unfold sever; rw [if_pos (by simpa using h13), if_neg (by simpa using h20)]
      refine AT.region ?_   -- region 4 ref.go:125
      refine TrC.take rfl (step_loadPN rfl rfl rfl ty30 rfl rfl rfl) ?_   -- 0
      refine TrC.take rfl (step_buildC rfl ze40 zc40 rfl pl40 rfl rfl rfl rfl) ?_   -- 1
      refine TrC.take rfl (step_storeP rfl rfl rfl rfl rfl (.inl rfl) ty40 rfl rfl rfl) ?_   -- 2
      refine TrC.done ?_
      refine AT.ret ?_
      exact Ret.one rfl (ResR.cellN rfl rfl ty40 rfl rfl (conv_eq (by rw [hs]; simp [encTaken, p0, encN, encC, pr, List.map_take, List.map_drop, List.take_of_length_le])))
    · -- false
      refine AT.skip ?_
      refine AT.seq ?_
      refine AT.seq ?_
      refine AT.region ?_   -- region 5 ref.go:127
      refine TrC.take rfl (step_fieldAddrP rfl rfl fd30_1 rfl rfl) ?_   -- 0
      refine TrC.take rfl (step_loadP1 rfl rfl rfl ty28 rfl rfl) ?_   -- 1
      refine TrC.take rfl (step_lenT (rt := 0) rfl rfl sl28 rfl) ?_   -- 2
      refine TrC.take rfl (step_bin rfl rfl rfl rfl rfl) ?_   -- 3
      refine TrC.done ?_
      refine AT.cond rfl (fun h26 => ?_) (fun h26 => ?_)   -- t26
      · -- true
        refine AT.seq ?_
        have hs : sever n a b = ⟨n, p0, 2⟩ := by unfold sever; rw [if_pos (by simpa using h13), if_pos (by simpa using h20), if_pos (by have h := h26; simp at h; omega)]
        refine AT.region ?_   -- region 6 ref.go:128
        refine TrC.take rfl (step_loadPN rfl rfl rfl ty30 rfl rfl rfl) ?_   -- 0
        refine TrC.take rfl (step_buildC rfl ze40 zc40 rfl pl40 rfl rfl rfl rfl) ?_   -- 1
        refine TrC.take rfl (step_storeP rfl rfl rfl rfl rfl (.inl rfl) ty40 rfl rfl rfl) ?_   -- 2
        refine TrC.done ?_
        refine AT.ret ?_
        exact Ret.one rfl (ResR.cellN rfl rfl ty40 rfl rfl (conv_eq (by rw [hs]; simp [encTaken, p0, encN, encC, pr, List.map_take, List.map_drop, List.take_of_length_le])))
      · -- false
        refine AT.skip ?_
        refine AT.seq ?_
        refine AT.region ?_   -- region 7 ref.go:130
        refine TrC.take rfl (step_move rfl rfl rfl) ?_   -- 0
        refine TrC.take rfl (step_move rfl rfl rfl) ?_   -- 1
        refine TrC.take rfl (step_min rfl rfl rfl rfl) ?_   -- 2
        refine TrC.take rfl (step_move rfl rfl rfl) ?_   -- 3
        refine TrC.take rfl (step_move rfl rfl rfl) ?_   -- 4
        refine TrC.take rfl (step_max rfl rfl rfl rfl) ?_   -- 5
        refine TrC.take rfl (step_buildA rfl ze32 rfl ar32 rfl rfl rfl rfl) ?_   -- 6
        refine TrC.take rfl (step_alloc rfl rfl ze32 rfl rfl rfl) ?_   -- 7
        refine TrC.take rfl (step_storeP rfl rfl rfl rfl rfl (.inl rfl) ty32 rfl rfl rfl) ?_   -- 8
        refine TrC.take rfl (step_assign rfl rfl rfl) ?_   -- 9
        refine TrC.done ?_
        refine AT.seq ?_
        refine AT.block ?_   -- block 0
        refine AT.loopP (fun i : Nat => i ≤ n.cuts.length ∧ ∀ j (h : j < n.cuts.length), j < i → less n.cuts[j] (pr a b) = true) (fun i => mkS [(3, .p 3 0), (6, .p 6 0), (7, .p 7 0), (8, .t (.i i))] [(3, .box 30 [.t (.slice 3 (n.fl.map encP)), .t (.slice 2 (n.cuts.map encC)), .t (.i n.next)]), (6, .box 40 [.t (.slice 3 []), .t (.slice 2 []), .t (.i 0), .t (.i 0), .t (.i 0), .t (.i 0), .t (.i 0)]), (7, .box 32 [.t (.i (min a b)), .t (.i (max a b))])]) (fun i => n.cuts.length - i) (0) (⟨by omega, fun j h hj => by omega⟩) (fun a w hs => Sat.wk [] (.cons (.p rfl) (.cons (.p rfl) (.cons (.p rfl) (.cons (.t (.refl _)) (.nil))))) (.cons rfl (.box (.cons (.t (.refl _)) (.cons (.t (.refl _)) (.cons (.t (.refl _)) (.nil))))) (.cons rfl (.box (.cons (.t (.refl _)) (.cons (.t (.refl _)) (.cons (.t (.refl _)) (.cons (.t (.refl _)) (.cons (.t (.refl _)) (.cons (.t (.refl _)) (.cons (.t (.refl _)) (.nil))))))))) (.cons rfl (.box (.cons (.t (.refl _)) (.cons (.t (.refl _)) (.nil)))) (.nil)))) rfl rfl a w hs) (fun ix hix => ?_)
        obtain ⟨hi, hpre⟩ := hix
        refine AT.seq ?_
        refine AT.seq ?_
        refine AT.regionD mixed rfl ?_   -- region 8 ref.go:131
        refine TrC.take rfl (step_move rfl rfl rfl) ?_   -- 0
        refine TrC.take rfl (step_fieldAddrP rfl rfl fd30_1 rfl rfl) ?_   -- 1
        refine TrC.take rfl (step_loadP1 rfl rfl rfl ty28 rfl rfl) ?_   -- 2
        refine TrC.take rfl (step_lenT (rt := 0) rfl rfl sl28 rfl) ?_   -- 3
        refine TrC.take rfl (step_bin rfl rfl rfl rfl rfl) ?_   -- 4
        refine TrC.take rfl (step_move rfl rfl rfl) ?_   -- 5
        refine TrC.cases (d := 41) rfl (fun h41 => ?_) (fun h41 => ?_)
        · -- t41 = true
          have hlt : ix < n.cuts.length := by simpa using h41
          have hget : (n.cuts.map encC)[ix]? = some (.agg [.i n.cuts[ix].1, .i n.cuts[ix].2]) := by simp [hlt, encC]
          refine TrC.take ⟨_, _, rfl, rfl, rfl⟩ (step_fieldAddrP rfl rfl fd30_1 rfl rfl) ?_   -- 6
          refine TrC.take ⟨_, _, rfl, rfl, rfl⟩ (step_loadP1 rfl rfl rfl ty28 rfl rfl) ?_   -- 7
          refine TrC.take ⟨_, _, rfl, rfl, rfl⟩ (step_move rfl rfl rfl) ?_   -- 8
          refine TrC.take ⟨_, _, rfl, rfl, rfl⟩ (step_indexAddrT (v := .agg [.i n.cuts[ix].1, .i n.cuts[ix].2]) rfl rfl rfl sl28 (by omega) (by simpa using hget) rfl rfl) ?_   -- 9
          refine TrC.take ⟨_, _, rfl, rfl, rfl⟩ (step_loadTN rfl rfl ty32 rfl rfl) ?_   -- 10
          refine TrC.take ⟨_, _, rfl, rfl, rfl⟩ (step_loadPN rfl rfl rfl ty32 rfl rfl rfl) ?_   -- 11
          refine TrC.take ⟨_, _, rfl, rfl, rfl⟩ (step_call0 rfl rfl (C42 n.cuts[ix] (pr a b)) rfl) ?_   -- 12
          refine TrC.take rfl (step_pick rfl rfl rfl rfl) ?_   -- 13
          refine TrC.doneD rfl ?_
          refine AT.cond rfl (fun h49 => ?_) (fun h49 => ?_)   -- t49
          · -- true
            refine AT.skip ?_
            refine AT.block ?_   -- block 1
            refine AT.region ?_   -- region 9 ref.go:132
            refine TrC.take rfl (step_move rfl rfl rfl) ?_   -- 0
            refine TrC.take rfl (step_addI rfl rfl rfl (by omega) (by omega) rfl) ?_   -- 1
            refine TrC.take rfl (step_assign rfl rfl rfl) ?_   -- 2
            refine TrC.done ?_
            exact ⟨ix + 1, ⟨by omega, fun j hj hji => by
              by_cases he : j = ix
              · subst he; exact h49
              · exact hpre j hj (by omega)⟩, by show n.cuts.length - (ix + 1) < n.cuts.length - ix; omega, Sat.wk [] (.cons (.p rfl) (.cons (.p rfl) (.cons (.p rfl) (.cons (.t (conv_i (by simp))) (.nil))))) (.cons rfl (.box (.cons (.t (.refl _)) (.cons (.t (.refl _)) (.cons (.t (.refl _)) (.nil))))) (.cons rfl (.box (.cons (.t (.refl _)) (.cons (.t (.refl _)) (.cons (.t (.refl _)) (.cons (.t (.refl _)) (.cons (.t (.refl _)) (.cons (.t (.refl _)) (.cons (.t (.refl _)) (.nil))))))))) (.cons rfl (.box (.cons (.t (.refl _)) (.cons (.t (.refl _)) (.nil)))) (.nil)))) rfl rfl⟩
          · -- false
            have hx : insAt n.cuts (pr a b) = ix := insAt_stop hlt hpre h49
            refine AT.exit (Or.inl ⟨rfl, ?_⟩)   -- exit 0
            refine AT.seq ?_
            have hs : sever n a b = ⟨⟨n.fl, n.cuts.take ix ++ pr a b :: n.cuts.drop ix, n.next⟩, p0, 0⟩ := by unfold sever; rw [if_pos (by simpa using h13), if_pos (by simpa using h20), if_neg (by have h := h26; simp at h; omega), hx]
            refine AT.regionD mixed rfl ?_   -- region 10 ref.go:134
            refine TrC.take rfl (step_buildSliceH rfl rfl sl28 ze32 rfl rfl rfl rfl rfl rfl rfl rfl rfl rfl rfl rfl rfl) ?_   -- 0
            refine TrC.take rfl (step_fieldAddrP rfl rfl fd30_1 rfl rfl) ?_   -- 1
            refine TrC.take rfl (step_loadP1 rfl rfl rfl ty28 rfl rfl) ?_   -- 2
            refine TrC.take rfl (step_move rfl rfl rfl) ?_   -- 3
            refine TrC.take rfl (step_sliceT rfl rfl rfl rfl sl28 (by first | (simp; done) | (simp; omega) | omega) (by first | (simp; done) | (simp; omega) | omega) (by first | (simp; done) | (simp; omega) | omega) rfl) ?_   -- 4
            refine TrC.take rfl (step_append rfl rfl rfl rfl rfl (.refl _) sl28 ze32 rfl rfl rfl (by first | (simp; done) | (simp; omega) | omega) rfl rfl) ?_   -- 5
            refine TrC.take rfl (step_loadPN rfl rfl rfl ty32 rfl rfl rfl) ?_   -- 6
            refine TrC.take rfl (step_buildSliceT rfl sl28 ze32 rfl rfl rfl rfl rfl rfl rfl rfl rfl rfl rfl rfl) ?_   -- 7
            refine TrC.take rfl (step_append rfl rfl rfl rfl rfl (.refl _) sl28 ze32 rfl rfl rfl (by first | (simp; done) | (simp; omega) | omega) rfl rfl) ?_   -- 8
            refine TrC.take rfl (step_assign rfl rfl rfl) ?_   -- 9
            refine TrC.doneD rfl ?_
            refine AT.seq ?_
            refine AT.regionD mixed rfl ?_   -- region 11 ref.go:135
            refine TrC.take rfl (step_fieldAddrP rfl rfl fd30_0 rfl rfl) ?_   -- 0
            refine TrC.take rfl (step_loadP1 rfl rfl rfl ty27 rfl rfl) ?_   -- 1
            refine TrC.take rfl (step_move rfl rfl rfl) ?_   -- 2
            refine TrC.take rfl (step_fieldAddrP rfl rfl fd30_1 rfl rfl) ?_   -- 3
            refine TrC.take rfl (step_loadP1 rfl rfl rfl ty28 rfl rfl) ?_   -- 4
            refine TrC.take rfl (step_move rfl rfl rfl) ?_   -- 5
            refine TrC.take rfl (step_sliceT rfl rfl rfl rfl sl28 (by first | (simp; done) | (simp; omega) | omega) (by first | (simp; done) | (simp; omega) | omega) (by first | (simp; done) | (simp; omega) | omega) rfl) ?_   -- 6
            refine TrC.take rfl (Step.toT (step_append rfl rfl rfl rfl rfl (.refl _) sl28 ze32 rfl rfl rfl (by first | (simp; done) | (simp; omega) | omega) rfl rfl) rfl) ?_   -- 7
            refine TrC.take rfl (step_fieldAddrP rfl rfl fd30_2 rfl rfl) ?_   -- 8
            refine TrC.take rfl (step_loadP1 rfl rfl rfl ty3 rfl rfl) ?_   -- 9
            refine TrC.take rfl (step_buildC rfl ze30 zc30 rfl pl30 rfl rfl rfl rfl) ?_   -- 10
            refine TrC.take rfl (step_buildC rfl ze40 zc40 rfl pl40 rfl rfl rfl rfl) ?_   -- 11
            refine TrC.take rfl (step_storeP rfl rfl rfl rfl rfl (.inl rfl) ty40 rfl rfl rfl) ?_   -- 12
            refine TrC.doneD rfl ?_
            refine AT.ret ?_
            exact Ret.one rfl (ResR.cellN rfl rfl ty40 rfl rfl (conv_eq (by rw [hs]; simp [encTaken, p0, encN, encC, pr, List.map_take, List.map_drop, List.take_of_length_le])))
        · -- t41 = false
          have hge : ¬ ix < n.cuts.length := by simpa using h41
          have hx : insAt n.cuts (pr a b) = ix := by
            have : ix = n.cuts.length := by omega
            rw [this]; exact insAt_end fun j hj => hpre j hj (by omega)
          refine TrC.skip ⟨_, _, rfl, rfl, rfl⟩ ?_   -- 6
          refine TrC.skip ⟨_, _, rfl, rfl, rfl⟩ ?_   -- 7
          refine TrC.skip ⟨_, _, rfl, rfl, rfl⟩ ?_   -- 8
          refine TrC.skip ⟨_, _, rfl, rfl, rfl⟩ ?_   -- 9
          refine TrC.skip ⟨_, _, rfl, rfl, rfl⟩ ?_   -- 10
          refine TrC.skip ⟨_, _, rfl, rfl, rfl⟩ ?_   -- 11
          refine TrC.skip ⟨_, _, rfl, rfl, rfl⟩ ?_   -- 12
          refine TrC.take rfl (step_pick rfl rfl rfl rfl) ?_   -- 13
          refine TrC.doneD rfl ?_
          refine AT.condF rfl ?_   -- t49
          refine AT.exit (Or.inl ⟨rfl, ?_⟩)   -- exit 0
          refine AT.seq ?_
          have hs : sever n a b = ⟨⟨n.fl, n.cuts.take ix ++ pr a b :: n.cuts.drop ix, n.next⟩, p0, 0⟩ := by unfold sever; rw [if_pos (by simpa using h13), if_pos (by simpa using h20), if_neg (by have h := h26; simp at h; omega), hx]
          refine AT.regionD mixed rfl ?_   -- region 10 ref.go:134
          refine TrC.take rfl (step_buildSliceH rfl rfl sl28 ze32 rfl rfl rfl rfl rfl rfl rfl rfl rfl rfl rfl rfl rfl) ?_   -- 0
          refine TrC.take rfl (step_fieldAddrP rfl rfl fd30_1 rfl rfl) ?_   -- 1
          refine TrC.take rfl (step_loadP1 rfl rfl rfl ty28 rfl rfl) ?_   -- 2
          refine TrC.take rfl (step_move rfl rfl rfl) ?_   -- 3
          refine TrC.take rfl (step_sliceT rfl rfl rfl rfl sl28 (by first | (simp; done) | (simp; omega) | omega) (by first | (simp; done) | (simp; omega) | omega) (by first | (simp; done) | (simp; omega) | omega) rfl) ?_   -- 4
          refine TrC.take rfl (step_append rfl rfl rfl rfl rfl (.refl _) sl28 ze32 rfl rfl rfl (by first | (simp; done) | (simp; omega) | omega) rfl rfl) ?_   -- 5
          refine TrC.take rfl (step_loadPN rfl rfl rfl ty32 rfl rfl rfl) ?_   -- 6
          refine TrC.take rfl (step_buildSliceT rfl sl28 ze32 rfl rfl rfl rfl rfl rfl rfl rfl rfl rfl rfl rfl) ?_   -- 7
          refine TrC.take rfl (step_append rfl rfl rfl rfl rfl (.refl _) sl28 ze32 rfl rfl rfl (by first | (simp; done) | (simp; omega) | omega) rfl rfl) ?_   -- 8
          refine TrC.take rfl (step_assign rfl rfl rfl) ?_   -- 9
          refine TrC.doneD rfl ?_
          refine AT.seq ?_
          refine AT.regionD mixed rfl ?_   -- region 11 ref.go:135
          refine TrC.take rfl (step_fieldAddrP rfl rfl fd30_0 rfl rfl) ?_   -- 0
          refine TrC.take rfl (step_loadP1 rfl rfl rfl ty27 rfl rfl) ?_   -- 1
          refine TrC.take rfl (step_move rfl rfl rfl) ?_   -- 2
          refine TrC.take rfl (step_fieldAddrP rfl rfl fd30_1 rfl rfl) ?_   -- 3
          refine TrC.take rfl (step_loadP1 rfl rfl rfl ty28 rfl rfl) ?_   -- 4
          refine TrC.take rfl (step_move rfl rfl rfl) ?_   -- 5
          refine TrC.take rfl (step_sliceT rfl rfl rfl rfl sl28 (by first | (simp; done) | (simp; omega) | omega) (by first | (simp; done) | (simp; omega) | omega) (by first | (simp; done) | (simp; omega) | omega) rfl) ?_   -- 6
          refine TrC.take rfl (Step.toT (step_append rfl rfl rfl rfl rfl (.refl _) sl28 ze32 rfl rfl rfl (by first | (simp; done) | (simp; omega) | omega) rfl rfl) rfl) ?_   -- 7
          refine TrC.take rfl (step_fieldAddrP rfl rfl fd30_2 rfl rfl) ?_   -- 8
          refine TrC.take rfl (step_loadP1 rfl rfl rfl ty3 rfl rfl) ?_   -- 9
          refine TrC.take rfl (step_buildC rfl ze30 zc30 rfl pl30 rfl rfl rfl rfl) ?_   -- 10
          refine TrC.take rfl (step_buildC rfl ze40 zc40 rfl pl40 rfl rfl rfl rfl) ?_   -- 11
          refine TrC.take rfl (step_storeP rfl rfl rfl rfl rfl (.inl rfl) ty40 rfl rfl rfl) ?_   -- 12
          refine TrC.doneD rfl ?_
          refine AT.ret ?_
          exact Ret.one rfl (ResR.cellN rfl rfl ty40 rfl rfl (conv_eq (by rw [hs]; simp [encTaken, p0, encN, encC, pr, List.map_take, List.map_drop, List.take_of_length_le])))

end Go.Proofs.Ytnemmdbafngppaa.Net

/- Contracts of functions of this translation. Printed by wip/tools/gen.py out of wip/net/ann.py. No condition. -/
set_option linter.unusedVariables false
set_option linter.unusedSimpArgs false
namespace Go.Proofs.Ytnemmdbafngppaa.Net
open Go.Proofs.Ytnemmdbafngppaa.Abs
set_option maxRecDepth 100000
set_option maxHeartbeats 4000000
theorem C15 (m n : Net) (hl : m.fl.length ≤ 1000000) (hl' : m.cuts.length ≤ 1000000) : Has Try.prog 15 [encN m, encN n] (.b (decide (m = n))) := by   -- burgage/burgageref32.Same
  refine Has.intro 66 Try.func15 (by kernel_rfl) rfl rfl fun w ok => ?_
  refine AT.seq ?_
  refine AT.region ?_   -- region 0 ref.go:152
  refine TrC.take rfl (step_box rfl rfl rfl rfl rfl rfl rfl) ?_   -- 0
  refine TrC.take rfl (step_box rfl rfl rfl rfl rfl rfl rfl) ?_   -- 1
  refine TrC.take rfl (step_assign rfl rfl rfl) ?_   -- 2
  refine TrC.done ?_
  refine AT.seq ?_
  refine AT.seq ?_
  refine AT.region ?_   -- region 1 ref.go:153
  refine TrC.take rfl (step_fieldAddrP rfl rfl fd30_0 rfl rfl) ?_   -- 0
  refine TrC.take rfl (step_loadP1 rfl rfl rfl ty27 rfl rfl) ?_   -- 1
  refine TrC.take rfl (step_lenT (rt := 0) rfl rfl sl27 rfl) ?_   -- 2
  refine TrC.take rfl (step_fieldAddrP rfl rfl fd30_0 rfl rfl) ?_   -- 3
  refine TrC.take rfl (step_loadP1 rfl rfl rfl ty27 rfl rfl) ?_   -- 4
  refine TrC.take rfl (step_lenT (rt := 0) rfl rfl sl27 rfl) ?_   -- 5
  refine TrC.take rfl (step_bin rfl rfl rfl rfl rfl) ?_   -- 6
  refine TrC.take rfl (step_move rfl rfl rfl) ?_   -- 7
  refine TrC.cases (d := 14) rfl (fun h14 => ?_) (fun h14 => ?_)
  · -- t14 = true
    refine TrC.skip ⟨_, _, rfl, rfl, rfl⟩ ?_   -- 8
    refine TrC.skip ⟨_, _, rfl, rfl, rfl⟩ ?_   -- 9
    refine TrC.skip ⟨_, _, rfl, rfl, rfl⟩ ?_   -- 10
    refine TrC.skip ⟨_, _, rfl, rfl, rfl⟩ ?_   -- 11
    refine TrC.skip ⟨_, _, rfl, rfl, rfl⟩ ?_   -- 12
    refine TrC.skip ⟨_, _, rfl, rfl, rfl⟩ ?_   -- 13
    refine TrC.skip ⟨_, _, rfl, rfl, rfl⟩ ?_   -- 14
    refine TrC.take rfl (step_pick rfl rfl rfl rfl) ?_   -- 15
    refine TrC.take rfl (step_move rfl rfl rfl) ?_   -- 16
    refine TrC.skip ⟨_, _, rfl, rfl, rfl⟩ ?_   -- 17
    refine TrC.skip ⟨_, _, rfl, rfl, rfl⟩ ?_   -- 18
    refine TrC.skip ⟨_, _, rfl, rfl, rfl⟩ ?_   -- 19
    refine TrC.skip ⟨_, _, rfl, rfl, rfl⟩ ?_   -- 20
    refine TrC.skip ⟨_, _, rfl, rfl, rfl⟩ ?_   -- 21
    refine TrC.take rfl (step_pick rfl rfl rfl rfl) ?_   -- 22
    refine TrC.done ?_
    refine AT.condT rfl ?_   -- t29
    refine AT.seq ?_
    have hs : decide (m = n) = false := decide_eq_false (fun he => by subst he; first | (simp at h29; done) | (simp at h23; done) | (simp at h14; done))
    refine AT.region ?_   -- region 2 ref.go:154
    refine TrC.take rfl (step_assign rfl rfl rfl) ?_   -- 0
    refine TrC.done ?_
    refine AT.ret ?_
    exact Ret.one rfl (ResR.tmp rfl (conv_b hs.symm))
  · -- t14 = false
    refine TrC.take ⟨_, _, rfl, rfl, rfl⟩ (step_fieldAddrP rfl rfl fd30_1 rfl rfl) ?_   -- 8
    refine TrC.take ⟨_, _, rfl, rfl, rfl⟩ (step_loadP1 rfl rfl rfl ty28 rfl rfl) ?_   -- 9
    refine TrC.take ⟨_, _, rfl, rfl, rfl⟩ (step_lenT (rt := 0) rfl rfl sl28 rfl) ?_   -- 10
    refine TrC.take ⟨_, _, rfl, rfl, rfl⟩ (step_fieldAddrP rfl rfl fd30_1 rfl rfl) ?_   -- 11
    refine TrC.take ⟨_, _, rfl, rfl, rfl⟩ (step_loadP1 rfl rfl rfl ty28 rfl rfl) ?_   -- 12
    refine TrC.take ⟨_, _, rfl, rfl, rfl⟩ (step_lenT (rt := 0) rfl rfl sl28 rfl) ?_   -- 13
    refine TrC.take ⟨_, _, rfl, rfl, rfl⟩ (step_bin rfl rfl rfl rfl rfl) ?_   -- 14
    refine TrC.take rfl (step_pick rfl rfl rfl rfl) ?_   -- 15
    refine TrC.take rfl (step_move rfl rfl rfl) ?_   -- 16
    refine TrC.cases (d := 23) rfl (fun h23 => ?_) (fun h23 => ?_)
    · -- t23 = true
      refine TrC.skip ⟨_, _, rfl, rfl, rfl⟩ ?_   -- 17
      refine TrC.skip ⟨_, _, rfl, rfl, rfl⟩ ?_   -- 18
      refine TrC.skip ⟨_, _, rfl, rfl, rfl⟩ ?_   -- 19
      refine TrC.skip ⟨_, _, rfl, rfl, rfl⟩ ?_   -- 20
      refine TrC.skip ⟨_, _, rfl, rfl, rfl⟩ ?_   -- 21
      refine TrC.take rfl (step_pick rfl rfl rfl rfl) ?_   -- 22
      refine TrC.done ?_
      refine AT.condT rfl ?_   -- t29
      refine AT.seq ?_
      have hs : decide (m = n) = false := decide_eq_false (fun he => by subst he; first | (simp at h29; done) | (simp at h23; done) | (simp at h14; done))
      refine AT.region ?_   -- region 2 ref.go:154
      refine TrC.take rfl (step_assign rfl rfl rfl) ?_   -- 0
      refine TrC.done ?_
      refine AT.ret ?_
      exact Ret.one rfl (ResR.tmp rfl (conv_b hs.symm))
    · -- t23 = false
      refine TrC.take ⟨_, _, rfl, rfl, rfl⟩ (step_fieldAddrP rfl rfl fd30_2 rfl rfl) ?_   -- 17
      refine TrC.take ⟨_, _, rfl, rfl, rfl⟩ (step_loadP1 rfl rfl rfl ty3 rfl rfl) ?_   -- 18
      refine TrC.take ⟨_, _, rfl, rfl, rfl⟩ (step_fieldAddrP rfl rfl fd30_2 rfl rfl) ?_   -- 19
      refine TrC.take ⟨_, _, rfl, rfl, rfl⟩ (step_loadP1 rfl rfl rfl ty3 rfl rfl) ?_   -- 20
      refine TrC.take ⟨_, _, rfl, rfl, rfl⟩ (step_bin rfl rfl rfl rfl rfl) ?_   -- 21
      refine TrC.take rfl (step_pick rfl rfl rfl rfl) ?_   -- 22
      refine TrC.done ?_
      refine AT.cond rfl (fun h29 => ?_) (fun h29 => ?_)   -- t29
      · -- true
        refine AT.seq ?_
        have hs : decide (m = n) = false := decide_eq_false (fun he => by subst he; first | (simp at h29; done) | (simp at h23; done) | (simp at h14; done))
        refine AT.region ?_   -- region 2 ref.go:154
        refine TrC.take rfl (step_assign rfl rfl rfl) ?_   -- 0
        refine TrC.done ?_
        refine AT.ret ?_
        exact Ret.one rfl (ResR.tmp rfl (conv_b hs.symm))
      · -- false
        refine AT.skip ?_
        refine AT.seq ?_
        refine AT.seq ?_
        have e1 : m.fl.length = n.fl.length := by have h := h14; simp at h; omega
        have e2 : m.cuts.length = n.cuts.length := by have h := h23; simp at h; omega
        have e3 : m.next = n.next := by have h := h29; simp at h; omega
        refine AT.region ?_   -- region 3 ref.go:156
        refine TrC.take rfl (step_assign rfl rfl rfl) ?_   -- 0
        refine TrC.done ?_
        refine AT.block ?_   -- block 0
        refine AT.loopP (fun i : Nat => i ≤ m.fl.length ∧ ∀ j (h : j < m.fl.length) (h' : j < n.fl.length), j < i → m.fl[j] = n.fl[j]) (fun i => mkS [(2, .p 2 0), (3, .p 3 0), (5, .t (.i i))] [(2, .box 30 [.t (.slice 3 (m.fl.map encP)), .t (.slice 2 (m.cuts.map encC)), .t (.i m.next)]), (3, .box 30 [.t (.slice 3 (n.fl.map encP)), .t (.slice 2 (n.cuts.map encC)), .t (.i n.next)])]) (fun i => m.fl.length - i) (0) (⟨by omega, fun j h h' hj => by omega⟩) (fun a w hs => Sat.wk [] (.cons (.p rfl) (.cons (.p rfl) (.cons (.t (.refl _)) (.nil)))) (.cons rfl (.box (.cons (.t (.refl _)) (.cons (.t (.refl _)) (.cons (.t (.refl _)) (.nil))))) (.cons rfl (.box (.cons (.t (.refl _)) (.cons (.t (.refl _)) (.cons (.t (.refl _)) (.nil))))) (.nil))) rfl rfl a w hs) (fun ix hix => ?_)
        obtain ⟨hi, hpre⟩ := hix
        refine AT.seq ?_
        refine AT.seq ?_
        refine AT.region ?_   -- region 4 ref.go:156
        refine TrC.take rfl (step_move rfl rfl rfl) ?_   -- 0
        refine TrC.take rfl (step_fieldAddrP rfl rfl fd30_0 rfl rfl) ?_   -- 1
        refine TrC.take rfl (step_loadP1 rfl rfl rfl ty27 rfl rfl) ?_   -- 2
        refine TrC.take rfl (step_lenT (rt := 0) rfl rfl sl27 rfl) ?_   -- 3
        refine TrC.take rfl (step_bin rfl rfl rfl rfl rfl) ?_   -- 4
        refine TrC.done ?_
        refine AT.cond rfl (fun h34 => ?_) (fun h34 => ?_)   -- t34
        · -- true
          have hlt : ix < m.fl.length := by simpa using h34
          have hlt2 : ix < n.fl.length := by omega
          have hget : (m.fl.map encP)[ix]? = some (.agg [.i m.fl[ix].id, .i m.fl[ix].fr, .i m.fl[ix].to]) := by simp [hlt, encP]
          have hget2 : (n.fl.map encP)[ix]? = some (.agg [.i n.fl[ix].id, .i n.fl[ix].fr, .i n.fl[ix].to]) := by simp [hlt2, encP]
          refine AT.skip ?_
          refine AT.seq ?_
          refine AT.block ?_   -- block 1
          refine AT.seq ?_
          refine AT.regionD mixed rfl ?_   -- region 6 ref.go:157
          refine TrC.take rfl (step_fieldAddrP rfl rfl fd30_0 rfl rfl) ?_   -- 0
          refine TrC.take rfl (step_loadP1 rfl rfl rfl ty27 rfl rfl) ?_   -- 1
          refine TrC.take rfl (step_move rfl rfl rfl) ?_   -- 2
          refine TrC.take rfl (step_indexAddrT (v := .agg [.i m.fl[ix].id, .i m.fl[ix].fr, .i m.fl[ix].to]) rfl rfl rfl sl27 (by omega) (by simpa using hget) rfl rfl) ?_   -- 3
          refine TrC.take rfl (step_loadTN rfl rfl ty25 rfl rfl) ?_   -- 4
          refine TrC.take rfl (step_fieldAddrP rfl rfl fd30_0 rfl rfl) ?_   -- 5
          refine TrC.take rfl (step_loadP1 rfl rfl rfl ty27 rfl rfl) ?_   -- 6
          refine TrC.take rfl (step_move rfl rfl rfl) ?_   -- 7
          refine TrC.take rfl (step_indexAddrT (v := .agg [.i n.fl[ix].id, .i n.fl[ix].fr, .i n.fl[ix].to]) rfl rfl rfl sl27 (by omega) (by simpa using hget2) rfl rfl) ?_   -- 8
          refine TrC.take rfl (step_loadTN rfl rfl ty25 rfl rfl) ?_   -- 9
          refine TrC.take rfl (step_nea rfl rfl rfl rfl rfl ty25 eg25 (eq25 _ _ _ _ _ _) rfl) ?_   -- 10
          refine TrC.doneD rfl ?_
          refine AT.cond rfl (fun h47 => ?_) (fun h47 => ?_)   -- t47
          · -- true
            have hs : decide (m = n) = false := decide_eq_false (fun he => by subst he; simp at h47)
            refine AT.seq ?_
            refine AT.region ?_   -- region 7 ref.go:158
            refine TrC.take rfl (step_assign rfl rfl rfl) ?_   -- 0
            refine TrC.done ?_
            refine AT.ret ?_
            exact Ret.one rfl (ResR.tmp rfl (conv_b hs.symm))
          · -- false
            have heq : m.fl[ix] = n.fl[ix] := pk_eq (by simpa using h47)
            refine AT.skip ?_
            refine AT.region ?_   -- region 5 ref.go:156
            refine TrC.take rfl (step_move rfl rfl rfl) ?_   -- 0
            refine TrC.take rfl (step_addI rfl rfl rfl (by omega) (by omega) rfl) ?_   -- 1
            refine TrC.take rfl (step_assign rfl rfl rfl) ?_   -- 2
            refine TrC.done ?_
            exact ⟨ix + 1, ⟨by omega, fun j hj hj' hji => by
              by_cases he : j = ix
              · subst he; exact heq
              · exact hpre j hj hj' (by omega)⟩, by show m.fl.length - (ix + 1) < m.fl.length - ix; omega, Sat.wk [] (.cons (.p rfl) (.cons (.p rfl) (.cons (.t (conv_i (by simp))) (.nil)))) (.cons rfl (.box (.cons (.t (.refl _)) (.cons (.t (.refl _)) (.cons (.t (.refl _)) (.nil))))) (.cons rfl (.box (.cons (.t (.refl _)) (.cons (.t (.refl _)) (.cons (.t (.refl _)) (.nil))))) (.nil))) rfl rfl⟩
        · -- false
          have hf : m.fl = n.fl := by
            have hge : ¬ ix < m.fl.length := by simpa using h34
            exact List.ext_getElem e1 fun j h h' => hpre j h h' (by omega)
          refine AT.exit (Or.inl ⟨rfl, ?_⟩)   -- exit 0
          refine AT.seq ?_
          refine AT.seq ?_
          refine AT.region ?_   -- region 8 ref.go:161
          refine TrC.take rfl (step_assign rfl rfl rfl) ?_   -- 0
          refine TrC.done ?_
          refine AT.block ?_   -- block 2
          refine AT.loopP (fun i : Nat => i ≤ m.cuts.length ∧ ∀ j (h : j < m.cuts.length) (h' : j < n.cuts.length), j < i → m.cuts[j] = n.cuts[j]) (fun i => mkS [(2, .p 2 0), (3, .p 3 0), (6, .t (.i i))] [(2, .box 30 [.t (.slice 3 (m.fl.map encP)), .t (.slice 2 (m.cuts.map encC)), .t (.i m.next)]), (3, .box 30 [.t (.slice 3 (n.fl.map encP)), .t (.slice 2 (n.cuts.map encC)), .t (.i n.next)])]) (fun i => m.cuts.length - i) (0) (⟨by omega, fun j h h' hj => by omega⟩) (fun a w hs => Sat.wk [] (.cons (.p rfl) (.cons (.p rfl) (.cons (.t (.refl _)) (.nil)))) (.cons rfl (.box (.cons (.t (.refl _)) (.cons (.t (.refl _)) (.cons (.t (.refl _)) (.nil))))) (.cons rfl (.box (.cons (.t (.refl _)) (.cons (.t (.refl _)) (.cons (.t (.refl _)) (.nil))))) (.nil))) rfl rfl a w hs) (fun iy hiy => ?_)
          obtain ⟨hyi, hypre⟩ := hiy
          refine AT.seq ?_
          refine AT.seq ?_
          refine AT.region ?_   -- region 9 ref.go:161
          refine TrC.take rfl (step_move rfl rfl rfl) ?_   -- 0
          refine TrC.take rfl (step_fieldAddrP rfl rfl fd30_1 rfl rfl) ?_   -- 1
          refine TrC.take rfl (step_loadP1 rfl rfl rfl ty28 rfl rfl) ?_   -- 2
          refine TrC.take rfl (step_lenT (rt := 0) rfl rfl sl28 rfl) ?_   -- 3
          refine TrC.take rfl (step_bin rfl rfl rfl rfl rfl) ?_   -- 4
          refine TrC.done ?_
          refine AT.cond rfl (fun h52 => ?_) (fun h52 => ?_)   -- t52
          · -- true
            have hlt : iy < m.cuts.length := by simpa using h52
            have hlt2 : iy < n.cuts.length := by omega
            have hget : (m.cuts.map encC)[iy]? = some (.agg [.i m.cuts[iy].1, .i m.cuts[iy].2]) := by simp [hlt, encC]
            have hget2 : (n.cuts.map encC)[iy]? = some (.agg [.i n.cuts[iy].1, .i n.cuts[iy].2]) := by simp [hlt2, encC]
            refine AT.skip ?_
            refine AT.seq ?_
            refine AT.block ?_   -- block 3
            refine AT.seq ?_
            refine AT.regionD mixed rfl ?_   -- region 11 ref.go:162
            refine TrC.take rfl (step_fieldAddrP rfl rfl fd30_1 rfl rfl) ?_   -- 0
            refine TrC.take rfl (step_loadP1 rfl rfl rfl ty28 rfl rfl) ?_   -- 1
            refine TrC.take rfl (step_move rfl rfl rfl) ?_   -- 2
            refine TrC.take rfl (step_indexAddrT (v := .agg [.i m.cuts[iy].1, .i m.cuts[iy].2]) rfl rfl rfl sl28 (by omega) (by simpa using hget) rfl rfl) ?_   -- 3
            refine TrC.take rfl (step_loadTN rfl rfl ty32 rfl rfl) ?_   -- 4
            refine TrC.take rfl (step_fieldAddrP rfl rfl fd30_1 rfl rfl) ?_   -- 5
            refine TrC.take rfl (step_loadP1 rfl rfl rfl ty28 rfl rfl) ?_   -- 6
            refine TrC.take rfl (step_move rfl rfl rfl) ?_   -- 7
            refine TrC.take rfl (step_indexAddrT (v := .agg [.i n.cuts[iy].1, .i n.cuts[iy].2]) rfl rfl rfl sl28 (by omega) (by simpa using hget2) rfl rfl) ?_   -- 8
            refine TrC.take rfl (step_loadTN rfl rfl ty32 rfl rfl) ?_   -- 9
            refine TrC.take rfl (step_nea rfl rfl rfl rfl rfl ty32 eg32 (eq32 _ _ _ _) rfl) ?_   -- 10
            refine TrC.doneD rfl ?_
            refine AT.cond rfl (fun h65 => ?_) (fun h65 => ?_)   -- t65
            · -- true
              have hs : decide (m = n) = false := decide_eq_false (fun he => by subst he; simp at h65)
              refine AT.seq ?_
              refine AT.region ?_   -- region 12 ref.go:163
              refine TrC.take rfl (step_assign rfl rfl rfl) ?_   -- 0
              refine TrC.done ?_
              refine AT.ret ?_
              exact Ret.one rfl (ResR.tmp rfl (conv_b hs.symm))
            · -- false
              have heq : m.cuts[iy] = n.cuts[iy] := Prod.ext_iff.2 (by simpa using h65)
              refine AT.skip ?_
              refine AT.region ?_   -- region 10 ref.go:161
              refine TrC.take rfl (step_move rfl rfl rfl) ?_   -- 0
              refine TrC.take rfl (step_addI rfl rfl rfl (by omega) (by omega) rfl) ?_   -- 1
              refine TrC.take rfl (step_assign rfl rfl rfl) ?_   -- 2
              refine TrC.done ?_
              exact ⟨iy + 1, ⟨by omega, fun j hj hj' hji => by
                by_cases he : j = iy
                · subst he; exact heq
                · exact hypre j hj hj' (by omega)⟩, by show m.cuts.length - (iy + 1) < m.cuts.length - iy; omega, Sat.wk [] (.cons (.p rfl) (.cons (.p rfl) (.cons (.t (conv_i (by simp))) (.nil)))) (.cons rfl (.box (.cons (.t (.refl _)) (.cons (.t (.refl _)) (.cons (.t (.refl _)) (.nil))))) (.cons rfl (.box (.cons (.t (.refl _)) (.cons (.t (.refl _)) (.cons (.t (.refl _)) (.nil))))) (.nil))) rfl rfl⟩
          · -- false
            have hg : m.cuts = n.cuts := by
              have hge : ¬ iy < m.cuts.length := by simpa using h52
              exact List.ext_getElem e2 fun j h h' => hypre j h h' (by omega)
            have hs : decide (m = n) = true := decide_eq_true (by cases m; cases n; simp_all)
            refine AT.exit (Or.inl ⟨rfl, ?_⟩)   -- exit 2
            refine AT.seq ?_
            refine AT.region ?_   -- region 13 ref.go:166
            refine TrC.take rfl (step_assign rfl rfl rfl) ?_   -- 0
            refine TrC.done ?_
            refine AT.ret ?_
            exact Ret.one rfl (ResR.tmp rfl (conv_b hs.symm))

theorem C16 (x y : Taken) (hl : x.n.fl.length ≤ 1000000) (hl' : x.n.cuts.length ≤ 1000000) : Has Try.prog 16 [encTaken x, encTaken y] (.b (decide (x = y))) := by   -- burgage/burgageref32.SameTaken
  refine Has.intro 24 Try.func16 (by kernel_rfl) rfl rfl fun w ok => ?_
  refine AT.seq ?_
  refine AT.region ?_   -- region 0 ref.go:170
  refine TrC.take rfl (step_box rfl rfl rfl rfl rfl rfl rfl) ?_   -- 0
  refine TrC.take rfl (step_box rfl rfl rfl rfl rfl rfl rfl) ?_   -- 1
  refine TrC.take rfl (step_assign rfl rfl rfl) ?_   -- 2
  refine TrC.done ?_
  refine AT.seq ?_
  refine AT.region ?_   -- region 1 ref.go:170
  refine TrC.take rfl (step_fieldAddrP rfl rfl fd40_0 rfl rfl) ?_   -- 0
  refine TrC.take rfl (step_loadPN rfl rfl rfl ty30 rfl rfl rfl) ?_   -- 1
  refine TrC.take rfl (step_fieldAddrP rfl rfl fd40_0 rfl rfl) ?_   -- 2
  refine TrC.take rfl (step_loadPN rfl rfl rfl ty30 rfl rfl rfl) ?_   -- 3
  refine TrC.take rfl (step_call0 rfl rfl (C15 x.n y.n hl hl') rfl) ?_   -- 4
  refine TrC.take rfl (step_move rfl rfl rfl) ?_   -- 5
  refine TrC.cases (d := 10) rfl (fun h10 => ?_) (fun h10 => ?_)
  · -- t10 = true
    refine TrC.take ⟨_, _, rfl, rfl, rfl⟩ (step_fieldAddrP rfl rfl fd40_1 rfl rfl) ?_   -- 6
    refine TrC.take ⟨_, _, rfl, rfl, rfl⟩ (step_loadPN rfl rfl rfl ty25 rfl rfl rfl) ?_   -- 7
    refine TrC.take ⟨_, _, rfl, rfl, rfl⟩ (step_fieldAddrP rfl rfl fd40_1 rfl rfl) ?_   -- 8
    refine TrC.take ⟨_, _, rfl, rfl, rfl⟩ (step_loadPN rfl rfl rfl ty25 rfl rfl rfl) ?_   -- 9
    refine TrC.take ⟨_, _, rfl, rfl, rfl⟩ (step_eqa rfl rfl rfl rfl rfl ty25 eg25 (eq25 _ _ _ _ _ _) rfl) ?_   -- 10
    refine TrC.take rfl (step_pick rfl rfl rfl rfl) ?_   -- 11
    refine TrC.take rfl (step_move rfl rfl rfl) ?_   -- 12
    refine TrC.cases (d := 17) rfl (fun h17 => ?_) (fun h17 => ?_)
    · -- t17 = true
      refine TrC.take ⟨_, _, rfl, rfl, rfl⟩ (step_fieldAddrP rfl rfl fd40_2 rfl rfl) ?_   -- 13
      refine TrC.take ⟨_, _, rfl, rfl, rfl⟩ (step_loadP1 rfl rfl rfl ty33 rfl rfl) ?_   -- 14
      refine TrC.take ⟨_, _, rfl, rfl, rfl⟩ (step_fieldAddrP rfl rfl fd40_2 rfl rfl) ?_   -- 15
      refine TrC.take ⟨_, _, rfl, rfl, rfl⟩ (step_loadP1 rfl rfl rfl ty33 rfl rfl) ?_   -- 16
      refine TrC.take ⟨_, _, rfl, rfl, rfl⟩ (step_bin rfl rfl rfl rfl rfl) ?_   -- 17
      refine TrC.take rfl (step_pick rfl rfl rfl rfl) ?_   -- 18
      refine TrC.take rfl (step_assign rfl rfl rfl) ?_   -- 19
      refine TrC.done ?_
      refine AT.ret ?_
      exact Ret.one rfl (ResR.tmp rfl (conv_b (by rw [tk_eq]; first | (simp_all; done) | (rw [Bool.eq_iff_iff]; simp_all; done))))
    · -- t17 = false
      refine TrC.skip ⟨_, _, rfl, rfl, rfl⟩ ?_   -- 13
      refine TrC.skip ⟨_, _, rfl, rfl, rfl⟩ ?_   -- 14
      refine TrC.skip ⟨_, _, rfl, rfl, rfl⟩ ?_   -- 15
      refine TrC.skip ⟨_, _, rfl, rfl, rfl⟩ ?_   -- 16
      refine TrC.skip ⟨_, _, rfl, rfl, rfl⟩ ?_   -- 17
      refine TrC.take rfl (step_pick rfl rfl rfl rfl) ?_   -- 18
      refine TrC.take rfl (step_assign rfl rfl rfl) ?_   -- 19
      refine TrC.done ?_
      refine AT.ret ?_
      exact Ret.one rfl (ResR.tmp rfl (conv_b (by rw [tk_eq]; first | (simp_all; done) | (rw [Bool.eq_iff_iff]; simp_all; done))))
  · -- t10 = false
    refine TrC.skip ⟨_, _, rfl, rfl, rfl⟩ ?_   -- 6
    refine TrC.skip ⟨_, _, rfl, rfl, rfl⟩ ?_   -- 7
    refine TrC.skip ⟨_, _, rfl, rfl, rfl⟩ ?_   -- 8
    refine TrC.skip ⟨_, _, rfl, rfl, rfl⟩ ?_   -- 9
    refine TrC.skip ⟨_, _, rfl, rfl, rfl⟩ ?_   -- 10
    refine TrC.take rfl (step_pick rfl rfl rfl rfl) ?_   -- 11
    refine TrC.take rfl (step_move rfl rfl rfl) ?_   -- 12
    refine TrC.skip ⟨_, _, rfl, rfl, rfl⟩ ?_   -- 13
    refine TrC.skip ⟨_, _, rfl, rfl, rfl⟩ ?_   -- 14
    refine TrC.skip ⟨_, _, rfl, rfl, rfl⟩ ?_   -- 15
    refine TrC.skip ⟨_, _, rfl, rfl, rfl⟩ ?_   -- 16
    refine TrC.skip ⟨_, _, rfl, rfl, rfl⟩ ?_   -- 17
    refine TrC.take rfl (step_pick rfl rfl rfl rfl) ?_   -- 18
    refine TrC.take rfl (step_assign rfl rfl rfl) ?_   -- 19
    refine TrC.done ?_
    refine AT.ret ?_
    exact Ret.one rfl (ResR.tmp rfl (conv_b (by rw [tk_eq]; first | (simp_all; done) | (rw [Bool.eq_iff_iff]; simp_all; done))))

end Go.Proofs.Ytnemmdbafngppaa.Net

/- Contracts of functions of this translation. Printed by wip/tools/gen.py out of wip/net/ann.py. No condition. -/
set_option linter.unusedVariables false
set_option linter.unusedSimpArgs false
namespace Go.Proofs.Ytnemmdbafngppaa.Net
open Go.Proofs.Ytnemmdbafngppaa.Abs
set_option maxRecDepth 100000
set_option maxHeartbeats 4000000
theorem C27 (n : Net) (hl : n.fl.length ≤ 1000000) (hl' : n.cuts.length ≤ 1000000) : Has Try.prog 27 [encN n] (.b (valid n)) := by   -- burgage/burgageref32.Valid
  refine Has.intro 113 Try.func27 (by kernel_rfl) rfl rfl fun w ok => ?_
  refine AT.seq ?_
  refine AT.region ?_   -- region 0 ref.go:16
  refine TrC.take rfl (step_box rfl rfl rfl rfl rfl rfl rfl) ?_   -- 0
  refine TrC.take rfl (step_assign rfl rfl rfl) ?_   -- 1
  refine TrC.done ?_
  refine AT.seq ?_
  refine AT.seq ?_
  refine AT.region ?_   -- region 1 ref.go:17
  refine TrC.take rfl (step_assign rfl rfl rfl) ?_   -- 0
  refine TrC.done ?_
  refine AT.block ?_   -- block 0
  refine AT.loopP (fun i : Nat => i ≤ n.fl.length ∧ ∀ j, j < i → okP n j = true) (fun i => mkS [(1, .p 1 0), (3, .t (.i i))] [(1, .box 30 [.t (.slice 3 (n.fl.map encP)), .t (.slice 2 (n.cuts.map encC)), .t (.i n.next)])]) (fun i => n.fl.length - i) (0) (⟨by omega, fun j hj => by omega⟩) (fun a w hs => Sat.wk [] (.cons (.p rfl) (.cons (.t (.refl _)) (.nil))) (.cons rfl (.box (.cons (.t (.refl _)) (.cons (.t (.refl _)) (.cons (.t (.refl _)) (.nil))))) (.nil)) rfl rfl a w hs) (fun ix hix => ?_)
  obtain ⟨hi, hpre⟩ := hix
  refine AT.seq ?_
  refine AT.seq ?_
  refine AT.region ?_   -- region 2 ref.go:17
  refine TrC.take rfl (step_move rfl rfl rfl) ?_   -- 0
  refine TrC.take rfl (step_fieldAddrP rfl rfl fd30_0 rfl rfl) ?_   -- 1
  refine TrC.take rfl (step_loadP1 rfl rfl rfl ty27 rfl rfl) ?_   -- 2
  refine TrC.take rfl (step_lenT (rt := 0) rfl rfl sl27 rfl) ?_   -- 3
  refine TrC.take rfl (step_bin rfl rfl rfl rfl rfl) ?_   -- 4
  refine TrC.done ?_
  refine AT.cond rfl (fun h11 => ?_) (fun h11 => ?_)   -- t11
  · -- true
    have hlt : ix < n.fl.length := by simpa using h11
    have hget : (n.fl.map encP)[ix]? = some (.agg [.i n.fl[ix].id, .i n.fl[ix].fr, .i n.fl[ix].to]) := by simp [hlt, encP]
    refine AT.skip ?_
    refine AT.seq ?_
    refine AT.block ?_   -- block 1
    refine AT.seq ?_
    refine AT.region ?_   -- region 4 ref.go:18
    refine TrC.take rfl (step_fieldAddrP rfl rfl fd30_0 rfl rfl) ?_   -- 0
    refine TrC.take rfl (step_loadP1 rfl rfl rfl ty27 rfl rfl) ?_   -- 1
    refine TrC.take rfl (step_move rfl rfl rfl) ?_   -- 2
    refine TrC.take rfl (step_indexAddrT (v := .agg [.i n.fl[ix].id, .i n.fl[ix].fr, .i n.fl[ix].to]) rfl rfl rfl sl27 (by omega) (by simpa using hget) rfl rfl) ?_   -- 3
    refine TrC.take rfl (step_loadTN rfl rfl ty25 rfl rfl) ?_   -- 4
    refine TrC.take rfl (step_alloc rfl rfl ze25 rfl rfl rfl) ?_   -- 5
    refine TrC.take rfl (step_storeP rfl rfl rfl rfl rfl (.inl rfl) ty25 rfl rfl rfl) ?_   -- 6
    refine TrC.done ?_
    refine AT.seq ?_
    refine AT.regionD mixed rfl ?_   -- region 5 ref.go:19
    refine TrC.take rfl (step_fieldAddrP rfl rfl fd25_0 rfl rfl) ?_   -- 0
    refine TrC.take rfl (step_loadP1 rfl rfl rfl ty3 rfl rfl) ?_   -- 1
    refine TrC.take rfl (step_bin rfl rfl rfl rfl rfl) ?_   -- 2
    refine TrC.take rfl (step_move rfl rfl rfl) ?_   -- 3
    refine TrC.cases (d := 22) rfl (fun h22 => ?_) (fun h22 => ?_)
    · -- t22 = true
      refine TrC.skip ⟨_, _, rfl, rfl, rfl⟩ ?_   -- 4
      refine TrC.skip ⟨_, _, rfl, rfl, rfl⟩ ?_   -- 5
      refine TrC.skip ⟨_, _, rfl, rfl, rfl⟩ ?_   -- 6
      refine TrC.skip ⟨_, _, rfl, rfl, rfl⟩ ?_   -- 7
      refine TrC.skip ⟨_, _, rfl, rfl, rfl⟩ ?_   -- 8
      refine TrC.take rfl (step_pick rfl rfl rfl rfl) ?_   -- 9
      refine TrC.take rfl (step_move rfl rfl rfl) ?_   -- 10
      refine TrC.skip ⟨_, _, rfl, rfl, rfl⟩ ?_   -- 11
      refine TrC.skip ⟨_, _, rfl, rfl, rfl⟩ ?_   -- 12
      refine TrC.skip ⟨_, _, rfl, rfl, rfl⟩ ?_   -- 13
      refine TrC.skip ⟨_, _, rfl, rfl, rfl⟩ ?_   -- 14
      refine TrC.skip ⟨_, _, rfl, rfl, rfl⟩ ?_   -- 15
      refine TrC.skip ⟨_, _, rfl, rfl, rfl⟩ ?_   -- 16
      refine TrC.take rfl (step_pick rfl rfl rfl rfl) ?_   -- 17
      refine TrC.take rfl (step_move rfl rfl rfl) ?_   -- 18
      refine TrC.skip ⟨_, _, rfl, rfl, rfl⟩ ?_   -- 19
      refine TrC.skip ⟨_, _, rfl, rfl, rfl⟩ ?_   -- 20
      refine TrC.skip ⟨_, _, rfl, rfl, rfl⟩ ?_   -- 21
      refine TrC.skip ⟨_, _, rfl, rfl, rfl⟩ ?_   -- 22
      refine TrC.skip ⟨_, _, rfl, rfl, rfl⟩ ?_   -- 23
      refine TrC.skip ⟨_, _, rfl, rfl, rfl⟩ ?_   -- 24
      refine TrC.skip ⟨_, _, rfl, rfl, rfl⟩ ?_   -- 25
      refine TrC.skip ⟨_, _, rfl, rfl, rfl⟩ ?_   -- 26
      refine TrC.skip ⟨_, _, rfl, rfl, rfl⟩ ?_   -- 27
      refine TrC.skip ⟨_, _, rfl, rfl, rfl⟩ ?_   -- 28
      refine TrC.skip ⟨_, _, rfl, rfl, rfl⟩ ?_   -- 29
      refine TrC.skip ⟨_, _, rfl, rfl, rfl⟩ ?_   -- 30
      refine TrC.skip ⟨_, _, rfl, rfl, rfl⟩ ?_   -- 31
      refine TrC.skip ⟨_, _, rfl, rfl, rfl⟩ ?_   -- 32
      refine TrC.take rfl (step_pick rfl rfl rfl rfl) ?_   -- 33
      refine TrC.doneD rfl ?_
      refine AT.condT rfl ?_   -- t52
      refine AT.seq ?_
      have hs : valid n = false := by
        refine valid_badP hlt ?_
        unfold okP; rw [getP hlt]
        first | (simp_all; done) | (simp_all <;> omega)
      refine AT.region ?_   -- region 6 ref.go:20
      refine TrC.take rfl (step_assign rfl rfl rfl) ?_   -- 0
      refine TrC.done ?_
      refine AT.ret ?_
      exact Ret.one rfl (ResR.tmp rfl (conv_b hs.symm))
    · -- t22 = false
      refine TrC.take ⟨_, _, rfl, rfl, rfl⟩ (step_fieldAddrP rfl rfl fd25_0 rfl rfl) ?_   -- 4
      refine TrC.take ⟨_, _, rfl, rfl, rfl⟩ (step_loadP1 rfl rfl rfl ty3 rfl rfl) ?_   -- 5
      refine TrC.take ⟨_, _, rfl, rfl, rfl⟩ (step_fieldAddrP rfl rfl fd30_2 rfl rfl) ?_   -- 6
      refine TrC.take ⟨_, _, rfl, rfl, rfl⟩ (step_loadP1 rfl rfl rfl ty3 rfl rfl) ?_   -- 7
      refine TrC.take ⟨_, _, rfl, rfl, rfl⟩ (step_bin rfl rfl rfl rfl rfl) ?_   -- 8
      refine TrC.take rfl (step_pick rfl rfl rfl rfl) ?_   -- 9
      refine TrC.take rfl (step_move rfl rfl rfl) ?_   -- 10
      refine TrC.cases (d := 29) rfl (fun h29 => ?_) (fun h29 => ?_)
      · -- t29 = true
        refine TrC.skip ⟨_, _, rfl, rfl, rfl⟩ ?_   -- 11
        refine TrC.skip ⟨_, _, rfl, rfl, rfl⟩ ?_   -- 12
        refine TrC.skip ⟨_, _, rfl, rfl, rfl⟩ ?_   -- 13
        refine TrC.skip ⟨_, _, rfl, rfl, rfl⟩ ?_   -- 14
        refine TrC.skip ⟨_, _, rfl, rfl, rfl⟩ ?_   -- 15
        refine TrC.skip ⟨_, _, rfl, rfl, rfl⟩ ?_   -- 16
        refine TrC.take rfl (step_pick rfl rfl rfl rfl) ?_   -- 17
        refine TrC.take rfl (step_move rfl rfl rfl) ?_   -- 18
        refine TrC.skip ⟨_, _, rfl, rfl, rfl⟩ ?_   -- 19
        refine TrC.skip ⟨_, _, rfl, rfl, rfl⟩ ?_   -- 20
        refine TrC.skip ⟨_, _, rfl, rfl, rfl⟩ ?_   -- 21
        refine TrC.skip ⟨_, _, rfl, rfl, rfl⟩ ?_   -- 22
        refine TrC.skip ⟨_, _, rfl, rfl, rfl⟩ ?_   -- 23
        refine TrC.skip ⟨_, _, rfl, rfl, rfl⟩ ?_   -- 24
        refine TrC.skip ⟨_, _, rfl, rfl, rfl⟩ ?_   -- 25
        refine TrC.skip ⟨_, _, rfl, rfl, rfl⟩ ?_   -- 26
        refine TrC.skip ⟨_, _, rfl, rfl, rfl⟩ ?_   -- 27
        refine TrC.skip ⟨_, _, rfl, rfl, rfl⟩ ?_   -- 28
        refine TrC.skip ⟨_, _, rfl, rfl, rfl⟩ ?_   -- 29
        refine TrC.skip ⟨_, _, rfl, rfl, rfl⟩ ?_   -- 30
        refine TrC.skip ⟨_, _, rfl, rfl, rfl⟩ ?_   -- 31
        refine TrC.skip ⟨_, _, rfl, rfl, rfl⟩ ?_   -- 32
        refine TrC.take rfl (step_pick rfl rfl rfl rfl) ?_   -- 33
        refine TrC.doneD rfl ?_
        refine AT.condT rfl ?_   -- t52
        refine AT.seq ?_
        have hs : valid n = false := by
          refine valid_badP hlt ?_
          unfold okP; rw [getP hlt]
          first | (simp_all; done) | (simp_all <;> omega)
        refine AT.region ?_   -- region 6 ref.go:20
        refine TrC.take rfl (step_assign rfl rfl rfl) ?_   -- 0
        refine TrC.done ?_
        refine AT.ret ?_
        exact Ret.one rfl (ResR.tmp rfl (conv_b hs.symm))
      · -- t29 = false
        refine TrC.take ⟨_, _, rfl, rfl, rfl⟩ (step_fieldAddrP rfl rfl fd25_1 rfl rfl) ?_   -- 11
        refine TrC.take ⟨_, _, rfl, rfl, rfl⟩ (step_loadP1 rfl rfl rfl ty3 rfl rfl) ?_   -- 12
        refine TrC.take ⟨_, _, rfl, rfl, rfl⟩ (step_fieldAddrP rfl rfl fd25_2 rfl rfl) ?_   -- 13
        refine TrC.take ⟨_, _, rfl, rfl, rfl⟩ (step_loadP1 rfl rfl rfl ty3 rfl rfl) ?_   -- 14
        refine TrC.take ⟨_, _, rfl, rfl, rfl⟩ (step_call0 rfl rfl (C30 n.fl[ix].fr n.fl[ix].to) rfl) ?_   -- 15
        refine TrC.take ⟨_, _, rfl, rfl, rfl⟩ (step_not rfl rfl rfl) ?_   -- 16
        refine TrC.take rfl (step_pick rfl rfl rfl rfl) ?_   -- 17
        refine TrC.take rfl (step_move rfl rfl rfl) ?_   -- 18
        refine TrC.cases (d := 37) rfl (fun h37 => ?_) (fun h37 => ?_)
        · -- t37 = true
          refine TrC.skip ⟨_, _, rfl, rfl, rfl⟩ ?_   -- 19
          refine TrC.skip ⟨_, _, rfl, rfl, rfl⟩ ?_   -- 20
          refine TrC.skip ⟨_, _, rfl, rfl, rfl⟩ ?_   -- 21
          refine TrC.skip ⟨_, _, rfl, rfl, rfl⟩ ?_   -- 22
          refine TrC.skip ⟨_, _, rfl, rfl, rfl⟩ ?_   -- 23
          refine TrC.skip ⟨_, _, rfl, rfl, rfl⟩ ?_   -- 24
          refine TrC.skip ⟨_, _, rfl, rfl, rfl⟩ ?_   -- 25
          refine TrC.skip ⟨_, _, rfl, rfl, rfl⟩ ?_   -- 26
          refine TrC.skip ⟨_, _, rfl, rfl, rfl⟩ ?_   -- 27
          refine TrC.skip ⟨_, _, rfl, rfl, rfl⟩ ?_   -- 28
          refine TrC.skip ⟨_, _, rfl, rfl, rfl⟩ ?_   -- 29
          refine TrC.skip ⟨_, _, rfl, rfl, rfl⟩ ?_   -- 30
          refine TrC.skip ⟨_, _, rfl, rfl, rfl⟩ ?_   -- 31
          refine TrC.skip ⟨_, _, rfl, rfl, rfl⟩ ?_   -- 32
          refine TrC.take rfl (step_pick rfl rfl rfl rfl) ?_   -- 33
          refine TrC.doneD rfl ?_
          refine AT.condT rfl ?_   -- t52
          refine AT.seq ?_
          have hs : valid n = false := by
            refine valid_badP hlt ?_
            unfold okP; rw [getP hlt]
            first | (simp_all; done) | (simp_all <;> omega)
          refine AT.region ?_   -- region 6 ref.go:20
          refine TrC.take rfl (step_assign rfl rfl rfl) ?_   -- 0
          refine TrC.done ?_
          refine AT.ret ?_
          exact Ret.one rfl (ResR.tmp rfl (conv_b hs.symm))
        · -- t37 = false
          refine TrC.take ⟨_, _, rfl, rfl, rfl⟩ (step_move rfl rfl rfl) ?_   -- 19
          refine TrC.take ⟨_, _, rfl, rfl, rfl⟩ (step_bin rfl rfl rfl rfl rfl) ?_   -- 20
          refine TrC.take ⟨_, _, rfl, rfl, rfl⟩ (step_move rfl rfl rfl) ?_   -- 21
          refine TrC.cases (d := 40) rfl (fun h40 => ?_) (fun h40 => ?_)
          · -- t40 = true
            have hpos : 0 < ix := by have h := h40; simp at h; omega
            have hq := getP (n := n) (i := ix - 1) (by omega)
            have hget2 : (n.fl.map encP)[ix - 1]? = some (.agg [.i n.fl[ix - 1].id, .i n.fl[ix - 1].fr, .i n.fl[ix - 1].to]) := by rw [List.getElem?_map, List.getElem?_eq_getElem (by omega)]; rfl
            refine TrC.take ⟨_, _, rfl, rfl, rfl⟩ (step_fieldAddrP rfl rfl fd30_0 rfl rfl) ?_   -- 22
            refine TrC.take ⟨_, _, rfl, rfl, rfl⟩ (step_loadP1 rfl rfl rfl ty27 rfl rfl) ?_   -- 23
            refine TrC.take ⟨_, _, rfl, rfl, rfl⟩ (step_move rfl rfl rfl) ?_   -- 24
            refine TrC.take ⟨_, _, rfl, rfl, rfl⟩ (step_subI rfl rfl rfl (by omega) (by omega) rfl) ?_   -- 25
            refine TrC.take ⟨_, _, rfl, rfl, rfl⟩ (step_indexAddrT (v := .agg [.i n.fl[ix - 1].id, .i n.fl[ix - 1].fr, .i n.fl[ix - 1].to]) rfl rfl rfl sl27 (by omega) (by rw [show ((ix : Int) - 1).toNat = ix - 1 from by omega]; exact hget2) rfl rfl) ?_   -- 26
            refine TrC.take ⟨_, _, rfl, rfl, rfl⟩ (step_fieldAddrT rfl rfl fd25_0 rfl rfl rfl) ?_   -- 27
            refine TrC.take ⟨_, _, rfl, rfl, rfl⟩ (step_loadT1 rfl rfl ty3 rfl rfl) ?_   -- 28
            refine TrC.take ⟨_, _, rfl, rfl, rfl⟩ (step_fieldAddrP rfl rfl fd25_0 rfl rfl) ?_   -- 29
            refine TrC.take ⟨_, _, rfl, rfl, rfl⟩ (step_loadP1 rfl rfl rfl ty3 rfl rfl) ?_   -- 30
            refine TrC.take ⟨_, _, rfl, rfl, rfl⟩ (step_bin rfl rfl rfl rfl rfl) ?_   -- 31
            refine TrC.take ⟨_, _, rfl, rfl, rfl⟩ (step_pick rfl rfl rfl rfl) ?_   -- 32
            refine TrC.take rfl (step_pick rfl rfl rfl rfl) ?_   -- 33
            refine TrC.doneD rfl ?_
            refine AT.cond rfl (fun h52 => ?_) (fun h52 => ?_)   -- t52
            · -- true
              refine AT.seq ?_
              have hs : valid n = false := by
                refine valid_badP hlt ?_
                unfold okP; rw [getP hlt]
                first | (simp_all; done) | (simp_all <;> omega)
              refine AT.region ?_   -- region 6 ref.go:20
              refine TrC.take rfl (step_assign rfl rfl rfl) ?_   -- 0
              refine TrC.done ?_
              refine AT.ret ?_
              exact Ret.one rfl (ResR.tmp rfl (conv_b hs.symm))
            · -- false
              refine AT.skip ?_
              refine AT.region ?_   -- region 3 ref.go:17
              refine TrC.take rfl (step_move rfl rfl rfl) ?_   -- 0
              refine TrC.take rfl (step_addI rfl rfl rfl (by omega) (by omega) rfl) ?_   -- 1
              refine TrC.take rfl (step_assign rfl rfl rfl) ?_   -- 2
              refine TrC.done ?_
              have hgood : okP n ix = true := by
                unfold okP; rw [getP hlt]
                first | (simp_all; done) | (simp_all <;> omega)
              exact ⟨ix + 1, ⟨by omega, fun j hji => by
                by_cases he : j = ix
                · subst he; exact hgood
                · exact hpre j (by omega)⟩, by show n.fl.length - (ix + 1) < n.fl.length - ix; omega, Sat.wk [] (.cons (.p rfl) (.cons (.t (conv_i (by simp))) (.nil))) (.cons rfl (.box (.cons (.t (.refl _)) (.cons (.t (.refl _)) (.cons (.t (.refl _)) (.nil))))) (.nil)) rfl rfl⟩
          · -- t40 = false
            have hz : ix = 0 := by have h := h40; simp at h; omega
            refine TrC.skip ⟨_, _, rfl, rfl, rfl⟩ ?_   -- 22
            refine TrC.skip ⟨_, _, rfl, rfl, rfl⟩ ?_   -- 23
            refine TrC.skip ⟨_, _, rfl, rfl, rfl⟩ ?_   -- 24
            refine TrC.skip ⟨_, _, rfl, rfl, rfl⟩ ?_   -- 25
            refine TrC.skip ⟨_, _, rfl, rfl, rfl⟩ ?_   -- 26
            refine TrC.skip ⟨_, _, rfl, rfl, rfl⟩ ?_   -- 27
            refine TrC.skip ⟨_, _, rfl, rfl, rfl⟩ ?_   -- 28
            refine TrC.skip ⟨_, _, rfl, rfl, rfl⟩ ?_   -- 29
            refine TrC.skip ⟨_, _, rfl, rfl, rfl⟩ ?_   -- 30
            refine TrC.skip ⟨_, _, rfl, rfl, rfl⟩ ?_   -- 31
            refine TrC.take ⟨_, _, rfl, rfl, rfl⟩ (step_pick rfl rfl rfl rfl) ?_   -- 32
            refine TrC.take rfl (step_pick rfl rfl rfl rfl) ?_   -- 33
            refine TrC.doneD rfl ?_
            refine AT.condF rfl ?_   -- t52
            refine AT.skip ?_
            refine AT.region ?_   -- region 3 ref.go:17
            refine TrC.take rfl (step_move rfl rfl rfl) ?_   -- 0
            refine TrC.take rfl (step_addI rfl rfl rfl (by omega) (by omega) rfl) ?_   -- 1
            refine TrC.take rfl (step_assign rfl rfl rfl) ?_   -- 2
            refine TrC.done ?_
            have hgood : okP n ix = true := by
              unfold okP; rw [getP hlt]
              first | (simp_all; done) | (simp_all <;> omega)
            exact ⟨ix + 1, ⟨by omega, fun j hji => by
              by_cases he : j = ix
              · subst he; exact hgood
              · exact hpre j (by omega)⟩, by show n.fl.length - (ix + 1) < n.fl.length - ix; omega, Sat.wk [] (.cons (.p rfl) (.cons (.t (conv_i (by simp))) (.nil))) (.cons rfl (.box (.cons (.t (.refl _)) (.cons (.t (.refl _)) (.cons (.t (.refl _)) (.nil))))) (.nil)) rfl rfl⟩
  · -- false
    have hge : ¬ ix < n.fl.length := by simpa using h11
    have hA : ∀ i, i < n.fl.length → okP n i = true := fun i hi => hpre i (by omega)
    refine AT.exit (Or.inl ⟨rfl, ?_⟩)   -- exit 0
    refine AT.seq ?_
    refine AT.seq ?_
    refine AT.region ?_   -- region 7 ref.go:23
    refine TrC.take rfl (step_assign rfl rfl rfl) ?_   -- 0
    refine TrC.done ?_
    refine AT.block ?_   -- block 2
    refine AT.loopP (fun i : Nat => i ≤ n.cuts.length ∧ ∀ j, j < i → okC n j = true) (fun i => mkS [(1, .p 1 0), (5, .t (.i i))] [(1, .box 30 [.t (.slice 3 (n.fl.map encP)), .t (.slice 2 (n.cuts.map encC)), .t (.i n.next)])]) (fun i => n.cuts.length - i) (0) (⟨by omega, fun j hj => by omega⟩) (fun a w hs => Sat.wk [] (.cons (.p rfl) (.cons (.t (.refl _)) (.nil))) (.cons rfl (.box (.cons (.t (.refl _)) (.cons (.t (.refl _)) (.cons (.t (.refl _)) (.nil))))) (.nil)) rfl rfl a w hs) (fun iy hiy => ?_)
    obtain ⟨hyi, hypre⟩ := hiy
    refine AT.seq ?_
    refine AT.seq ?_
    refine AT.region ?_   -- region 8 ref.go:23
    refine TrC.take rfl (step_move rfl rfl rfl) ?_   -- 0
    refine TrC.take rfl (step_fieldAddrP rfl rfl fd30_1 rfl rfl) ?_   -- 1
    refine TrC.take rfl (step_loadP1 rfl rfl rfl ty28 rfl rfl) ?_   -- 2
    refine TrC.take rfl (step_lenT (rt := 0) rfl rfl sl28 rfl) ?_   -- 3
    refine TrC.take rfl (step_bin rfl rfl rfl rfl rfl) ?_   -- 4
    refine TrC.done ?_
    refine AT.cond rfl (fun h57 => ?_) (fun h57 => ?_)   -- t57
    · -- true
      have hlt : iy < n.cuts.length := by simpa using h57
      have hget : (n.cuts.map encC)[iy]? = some (.agg [.i n.cuts[iy].1, .i n.cuts[iy].2]) := by simp [hlt, encC]
      refine AT.skip ?_
      refine AT.seq ?_
      refine AT.block ?_   -- block 3
      refine AT.seq ?_
      refine AT.region ?_   -- region 10 ref.go:24
      refine TrC.take rfl (step_fieldAddrP rfl rfl fd30_1 rfl rfl) ?_   -- 0
      refine TrC.take rfl (step_loadP1 rfl rfl rfl ty28 rfl rfl) ?_   -- 1
      refine TrC.take rfl (step_move rfl rfl rfl) ?_   -- 2
      refine TrC.take rfl (step_indexAddrT (v := .agg [.i n.cuts[iy].1, .i n.cuts[iy].2]) rfl rfl rfl sl28 (by omega) (by simpa using hget) rfl rfl) ?_   -- 3
      refine TrC.take rfl (step_loadTN rfl rfl ty32 rfl rfl) ?_   -- 4
      refine TrC.take rfl (step_alloc rfl rfl ze32 rfl rfl rfl) ?_   -- 5
      refine TrC.take rfl (step_storeP rfl rfl rfl rfl rfl (.inl rfl) ty32 rfl rfl rfl) ?_   -- 6
      refine TrC.done ?_
      refine AT.seq ?_
      refine AT.regionD mixed rfl ?_   -- region 11 ref.go:25
      refine TrC.take rfl (step_indexAddrP rfl rfl rfl ar32 (by decide) (by decide) rfl) ?_   -- 0
      refine TrC.take rfl (step_loadP1 rfl rfl rfl ty3 rfl rfl) ?_   -- 1
      refine TrC.take rfl (step_indexAddrP rfl rfl rfl ar32 (by decide) (by decide) rfl) ?_   -- 2
      refine TrC.take rfl (step_loadP1 rfl rfl rfl ty3 rfl rfl) ?_   -- 3
      refine TrC.take rfl (step_call0 rfl rfl (C30 n.cuts[iy].1 n.cuts[iy].2) rfl) ?_   -- 4
      refine TrC.take rfl (step_not rfl rfl rfl) ?_   -- 5
      refine TrC.take rfl (step_move rfl rfl rfl) ?_   -- 6
      refine TrC.cases (d := 71) rfl (fun h71 => ?_) (fun h71 => ?_)
      · -- t71 = true
        refine TrC.skip ⟨_, _, rfl, rfl, rfl⟩ ?_   -- 7
        refine TrC.skip ⟨_, _, rfl, rfl, rfl⟩ ?_   -- 8
        refine TrC.skip ⟨_, _, rfl, rfl, rfl⟩ ?_   -- 9
        refine TrC.skip ⟨_, _, rfl, rfl, rfl⟩ ?_   -- 10
        refine TrC.skip ⟨_, _, rfl, rfl, rfl⟩ ?_   -- 11
        refine TrC.take rfl (step_pick rfl rfl rfl rfl) ?_   -- 12
        refine TrC.take rfl (step_move rfl rfl rfl) ?_   -- 13
        refine TrC.skip ⟨_, _, rfl, rfl, rfl⟩ ?_   -- 14
        refine TrC.skip ⟨_, _, rfl, rfl, rfl⟩ ?_   -- 15
        refine TrC.skip ⟨_, _, rfl, rfl, rfl⟩ ?_   -- 16
        refine TrC.skip ⟨_, _, rfl, rfl, rfl⟩ ?_   -- 17
        refine TrC.skip ⟨_, _, rfl, rfl, rfl⟩ ?_   -- 18
        refine TrC.skip ⟨_, _, rfl, rfl, rfl⟩ ?_   -- 19
        refine TrC.skip ⟨_, _, rfl, rfl, rfl⟩ ?_   -- 20
        refine TrC.skip ⟨_, _, rfl, rfl, rfl⟩ ?_   -- 21
        refine TrC.skip ⟨_, _, rfl, rfl, rfl⟩ ?_   -- 22
        refine TrC.skip ⟨_, _, rfl, rfl, rfl⟩ ?_   -- 23
        refine TrC.skip ⟨_, _, rfl, rfl, rfl⟩ ?_   -- 24
        refine TrC.skip ⟨_, _, rfl, rfl, rfl⟩ ?_   -- 25
        refine TrC.skip ⟨_, _, rfl, rfl, rfl⟩ ?_   -- 26
        refine TrC.take rfl (step_pick rfl rfl rfl rfl) ?_   -- 27
        refine TrC.doneD rfl ?_
        refine AT.condT rfl ?_   -- t92
        refine AT.seq ?_
        have hs : valid n = false := by
          refine valid_badC hlt ?_
          unfold okC; rw [getC hlt]
          first | (simp_all; done) | (simp_all <;> omega)
        refine AT.region ?_   -- region 12 ref.go:26
        refine TrC.take rfl (step_assign rfl rfl rfl) ?_   -- 0
        refine TrC.done ?_
        refine AT.ret ?_
        exact Ret.one rfl (ResR.tmp rfl (conv_b hs.symm))
      · -- t71 = false
        refine TrC.take ⟨_, _, rfl, rfl, rfl⟩ (step_indexAddrP rfl rfl rfl ar32 (by decide) (by decide) rfl) ?_   -- 7
        refine TrC.take ⟨_, _, rfl, rfl, rfl⟩ (step_loadP1 rfl rfl rfl ty3 rfl rfl) ?_   -- 8
        refine TrC.take ⟨_, _, rfl, rfl, rfl⟩ (step_indexAddrP rfl rfl rfl ar32 (by decide) (by decide) rfl) ?_   -- 9
        refine TrC.take ⟨_, _, rfl, rfl, rfl⟩ (step_loadP1 rfl rfl rfl ty3 rfl rfl) ?_   -- 10
        refine TrC.take ⟨_, _, rfl, rfl, rfl⟩ (step_bin rfl rfl rfl rfl rfl) ?_   -- 11
        refine TrC.take rfl (step_pick rfl rfl rfl rfl) ?_   -- 12
        refine TrC.take rfl (step_move rfl rfl rfl) ?_   -- 13
        refine TrC.cases (d := 78) rfl (fun h78 => ?_) (fun h78 => ?_)
        · -- t78 = true
          refine TrC.skip ⟨_, _, rfl, rfl, rfl⟩ ?_   -- 14
          refine TrC.skip ⟨_, _, rfl, rfl, rfl⟩ ?_   -- 15
          refine TrC.skip ⟨_, _, rfl, rfl, rfl⟩ ?_   -- 16
          refine TrC.skip ⟨_, _, rfl, rfl, rfl⟩ ?_   -- 17
          refine TrC.skip ⟨_, _, rfl, rfl, rfl⟩ ?_   -- 18
          refine TrC.skip ⟨_, _, rfl, rfl, rfl⟩ ?_   -- 19
          refine TrC.skip ⟨_, _, rfl, rfl, rfl⟩ ?_   -- 20
          refine TrC.skip ⟨_, _, rfl, rfl, rfl⟩ ?_   -- 21
          refine TrC.skip ⟨_, _, rfl, rfl, rfl⟩ ?_   -- 22
          refine TrC.skip ⟨_, _, rfl, rfl, rfl⟩ ?_   -- 23
          refine TrC.skip ⟨_, _, rfl, rfl, rfl⟩ ?_   -- 24
          refine TrC.skip ⟨_, _, rfl, rfl, rfl⟩ ?_   -- 25
          refine TrC.skip ⟨_, _, rfl, rfl, rfl⟩ ?_   -- 26
          refine TrC.take rfl (step_pick rfl rfl rfl rfl) ?_   -- 27
          refine TrC.doneD rfl ?_
          refine AT.condT rfl ?_   -- t92
          refine AT.seq ?_
          have hs : valid n = false := by
            refine valid_badC hlt ?_
            unfold okC; rw [getC hlt]
            first | (simp_all; done) | (simp_all <;> omega)
          refine AT.region ?_   -- region 12 ref.go:26
          refine TrC.take rfl (step_assign rfl rfl rfl) ?_   -- 0
          refine TrC.done ?_
          refine AT.ret ?_
          exact Ret.one rfl (ResR.tmp rfl (conv_b hs.symm))
        · -- t78 = false
          refine TrC.take ⟨_, _, rfl, rfl, rfl⟩ (step_move rfl rfl rfl) ?_   -- 14
          refine TrC.take ⟨_, _, rfl, rfl, rfl⟩ (step_bin rfl rfl rfl rfl rfl) ?_   -- 15
          refine TrC.take ⟨_, _, rfl, rfl, rfl⟩ (step_move rfl rfl rfl) ?_   -- 16
          refine TrC.cases (d := 81) rfl (fun h81 => ?_) (fun h81 => ?_)
          · -- t81 = true
            have hpos : 0 < iy := by have h := h81; simp at h; omega
            have hq := getC (n := n) (i := iy - 1) (by omega)
            have hget2 : (n.cuts.map encC)[iy - 1]? = some (.agg [.i n.cuts[iy - 1].1, .i n.cuts[iy - 1].2]) := by rw [List.getElem?_map, List.getElem?_eq_getElem (by omega)]; rfl
            refine TrC.take ⟨_, _, rfl, rfl, rfl⟩ (step_fieldAddrP rfl rfl fd30_1 rfl rfl) ?_   -- 17
            refine TrC.take ⟨_, _, rfl, rfl, rfl⟩ (step_loadP1 rfl rfl rfl ty28 rfl rfl) ?_   -- 18
            refine TrC.take ⟨_, _, rfl, rfl, rfl⟩ (step_move rfl rfl rfl) ?_   -- 19
            refine TrC.take ⟨_, _, rfl, rfl, rfl⟩ (step_subI rfl rfl rfl (by omega) (by omega) rfl) ?_   -- 20
            refine TrC.take ⟨_, _, rfl, rfl, rfl⟩ (step_indexAddrT (v := .agg [.i n.cuts[iy - 1].1, .i n.cuts[iy - 1].2]) rfl rfl rfl sl28 (by omega) (by rw [show ((iy : Int) - 1).toNat = iy - 1 from by omega]; exact hget2) rfl rfl) ?_   -- 21
            refine TrC.take ⟨_, _, rfl, rfl, rfl⟩ (step_loadTN rfl rfl ty32 rfl rfl) ?_   -- 22
            refine TrC.take ⟨_, _, rfl, rfl, rfl⟩ (step_loadPN rfl rfl rfl ty32 rfl rfl rfl) ?_   -- 23
            refine TrC.take ⟨_, _, rfl, rfl, rfl⟩ (step_call0 rfl rfl (C42 n.cuts[iy - 1] n.cuts[iy]) rfl) ?_   -- 24
            refine TrC.take ⟨_, _, rfl, rfl, rfl⟩ (step_not rfl rfl rfl) ?_   -- 25
            refine TrC.take ⟨_, _, rfl, rfl, rfl⟩ (step_pick rfl rfl rfl rfl) ?_   -- 26
            refine TrC.take rfl (step_pick rfl rfl rfl rfl) ?_   -- 27
            refine TrC.doneD rfl ?_
            refine AT.cond rfl (fun h92 => ?_) (fun h92 => ?_)   -- t92
            · -- true
              refine AT.seq ?_
              have hs : valid n = false := by
                refine valid_badC hlt ?_
                unfold okC; rw [getC hlt]
                first | (simp_all; done) | (simp_all <;> omega)
              refine AT.region ?_   -- region 12 ref.go:26
              refine TrC.take rfl (step_assign rfl rfl rfl) ?_   -- 0
              refine TrC.done ?_
              refine AT.ret ?_
              exact Ret.one rfl (ResR.tmp rfl (conv_b hs.symm))
            · -- false
              refine AT.skip ?_
              refine AT.region ?_   -- region 9 ref.go:23
              refine TrC.take rfl (step_move rfl rfl rfl) ?_   -- 0
              refine TrC.take rfl (step_addI rfl rfl rfl (by omega) (by omega) rfl) ?_   -- 1
              refine TrC.take rfl (step_assign rfl rfl rfl) ?_   -- 2
              refine TrC.done ?_
              have hgood : okC n iy = true := by
                unfold okC; rw [getC hlt]
                first | (simp_all; done) | (simp_all <;> omega)
              exact ⟨iy + 1, ⟨by omega, fun j hji => by
                by_cases he : j = iy
                · subst he; exact hgood
                · exact hypre j (by omega)⟩, by show n.cuts.length - (iy + 1) < n.cuts.length - iy; omega, Sat.wk [] (.cons (.p rfl) (.cons (.t (conv_i (by simp))) (.nil))) (.cons rfl (.box (.cons (.t (.refl _)) (.cons (.t (.refl _)) (.cons (.t (.refl _)) (.nil))))) (.nil)) rfl rfl⟩
          · -- t81 = false
            have hz : iy = 0 := by have h := h81; simp at h; omega
            refine TrC.skip ⟨_, _, rfl, rfl, rfl⟩ ?_   -- 17
            refine TrC.skip ⟨_, _, rfl, rfl, rfl⟩ ?_   -- 18
            refine TrC.skip ⟨_, _, rfl, rfl, rfl⟩ ?_   -- 19
            refine TrC.skip ⟨_, _, rfl, rfl, rfl⟩ ?_   -- 20
            refine TrC.skip ⟨_, _, rfl, rfl, rfl⟩ ?_   -- 21
            refine TrC.skip ⟨_, _, rfl, rfl, rfl⟩ ?_   -- 22
            refine TrC.skip ⟨_, _, rfl, rfl, rfl⟩ ?_   -- 23
            refine TrC.skip ⟨_, _, rfl, rfl, rfl⟩ ?_   -- 24
            refine TrC.skip ⟨_, _, rfl, rfl, rfl⟩ ?_   -- 25
            refine TrC.take ⟨_, _, rfl, rfl, rfl⟩ (step_pick rfl rfl rfl rfl) ?_   -- 26
            refine TrC.take rfl (step_pick rfl rfl rfl rfl) ?_   -- 27
            refine TrC.doneD rfl ?_
            refine AT.condF rfl ?_   -- t92
            refine AT.skip ?_
            refine AT.region ?_   -- region 9 ref.go:23
            refine TrC.take rfl (step_move rfl rfl rfl) ?_   -- 0
            refine TrC.take rfl (step_addI rfl rfl rfl (by omega) (by omega) rfl) ?_   -- 1
            refine TrC.take rfl (step_assign rfl rfl rfl) ?_   -- 2
            refine TrC.done ?_
            have hgood : okC n iy = true := by
              unfold okC; rw [getC hlt]
              first | (simp_all; done) | (simp_all <;> omega)
            exact ⟨iy + 1, ⟨by omega, fun j hji => by
              by_cases he : j = iy
              · subst he; exact hgood
              · exact hypre j (by omega)⟩, by show n.cuts.length - (iy + 1) < n.cuts.length - iy; omega, Sat.wk [] (.cons (.p rfl) (.cons (.t (conv_i (by simp))) (.nil))) (.cons rfl (.box (.cons (.t (.refl _)) (.cons (.t (.refl _)) (.cons (.t (.refl _)) (.nil))))) (.nil)) rfl rfl⟩
    · -- false
      have hge : ¬ iy < n.cuts.length := by simpa using h57
      have hB : ∀ i, i < n.cuts.length → okC n i = true := fun i hi => hypre i (by omega)
      refine AT.exit (Or.inl ⟨rfl, ?_⟩)   -- exit 2
      refine AT.seq ?_
      have hs : valid n = (decide (n.fl.length ≤ 200) && decide (n.cuts.length ≤ 200) && decide (1 ≤ n.next) && decide (n.next ≤ 1000000000)) := by unfold valid; rw [decide_eq_true hA, decide_eq_true hB]; rfl
      refine AT.region ?_   -- region 13 ref.go:29
      refine TrC.take rfl (step_fieldAddrP rfl rfl fd30_0 rfl rfl) ?_   -- 0
      refine TrC.take rfl (step_loadP1 rfl rfl rfl ty27 rfl rfl) ?_   -- 1
      refine TrC.take rfl (step_lenT (rt := 0) rfl rfl sl27 rfl) ?_   -- 2
      refine TrC.take rfl (step_bin rfl rfl rfl rfl rfl) ?_   -- 3
      refine TrC.take rfl (step_move rfl rfl rfl) ?_   -- 4
      refine TrC.cases (d := 97) rfl (fun h97 => ?_) (fun h97 => ?_)
      · -- t97 = true
        refine TrC.take ⟨_, _, rfl, rfl, rfl⟩ (step_fieldAddrP rfl rfl fd30_1 rfl rfl) ?_   -- 5
        refine TrC.take ⟨_, _, rfl, rfl, rfl⟩ (step_loadP1 rfl rfl rfl ty28 rfl rfl) ?_   -- 6
        refine TrC.take ⟨_, _, rfl, rfl, rfl⟩ (step_lenT (rt := 0) rfl rfl sl28 rfl) ?_   -- 7
        refine TrC.take ⟨_, _, rfl, rfl, rfl⟩ (step_bin rfl rfl rfl rfl rfl) ?_   -- 8
        refine TrC.take rfl (step_pick rfl rfl rfl rfl) ?_   -- 9
        refine TrC.take rfl (step_move rfl rfl rfl) ?_   -- 10
        refine TrC.cases (d := 103) rfl (fun h103 => ?_) (fun h103 => ?_)
        · -- t103 = true
          refine TrC.take ⟨_, _, rfl, rfl, rfl⟩ (step_fieldAddrP rfl rfl fd30_2 rfl rfl) ?_   -- 11
          refine TrC.take ⟨_, _, rfl, rfl, rfl⟩ (step_loadP1 rfl rfl rfl ty3 rfl rfl) ?_   -- 12
          refine TrC.take ⟨_, _, rfl, rfl, rfl⟩ (step_bin rfl rfl rfl rfl rfl) ?_   -- 13
          refine TrC.take rfl (step_pick rfl rfl rfl rfl) ?_   -- 14
          refine TrC.take rfl (step_move rfl rfl rfl) ?_   -- 15
          refine TrC.cases (d := 108) rfl (fun h108 => ?_) (fun h108 => ?_)
          · -- t108 = true
            refine TrC.take ⟨_, _, rfl, rfl, rfl⟩ (step_fieldAddrP rfl rfl fd30_2 rfl rfl) ?_   -- 16
            refine TrC.take ⟨_, _, rfl, rfl, rfl⟩ (step_loadP1 rfl rfl rfl ty3 rfl rfl) ?_   -- 17
            refine TrC.take ⟨_, _, rfl, rfl, rfl⟩ (step_bin rfl rfl rfl rfl rfl) ?_   -- 18
            refine TrC.take rfl (step_pick rfl rfl rfl rfl) ?_   -- 19
            refine TrC.take rfl (step_assign rfl rfl rfl) ?_   -- 20
            refine TrC.done ?_
            refine AT.ret ?_
            exact Ret.one rfl (ResR.tmp rfl (conv_b (by rw [hs]; first | (simp_all; done) | (rw [Bool.eq_iff_iff]; simp_all <;> omega))))
          · -- t108 = false
            refine TrC.skip ⟨_, _, rfl, rfl, rfl⟩ ?_   -- 16
            refine TrC.skip ⟨_, _, rfl, rfl, rfl⟩ ?_   -- 17
            refine TrC.skip ⟨_, _, rfl, rfl, rfl⟩ ?_   -- 18
            refine TrC.take rfl (step_pick rfl rfl rfl rfl) ?_   -- 19
            refine TrC.take rfl (step_assign rfl rfl rfl) ?_   -- 20
            refine TrC.done ?_
            refine AT.ret ?_
            exact Ret.one rfl (ResR.tmp rfl (conv_b (by rw [hs]; first | (simp_all; done) | (rw [Bool.eq_iff_iff]; simp_all <;> omega))))
        · -- t103 = false
          refine TrC.skip ⟨_, _, rfl, rfl, rfl⟩ ?_   -- 11
          refine TrC.skip ⟨_, _, rfl, rfl, rfl⟩ ?_   -- 12
          refine TrC.skip ⟨_, _, rfl, rfl, rfl⟩ ?_   -- 13
          refine TrC.take rfl (step_pick rfl rfl rfl rfl) ?_   -- 14
          refine TrC.take rfl (step_move rfl rfl rfl) ?_   -- 15
          refine TrC.skip ⟨_, _, rfl, rfl, rfl⟩ ?_   -- 16
          refine TrC.skip ⟨_, _, rfl, rfl, rfl⟩ ?_   -- 17
          refine TrC.skip ⟨_, _, rfl, rfl, rfl⟩ ?_   -- 18
          refine TrC.take rfl (step_pick rfl rfl rfl rfl) ?_   -- 19
          refine TrC.take rfl (step_assign rfl rfl rfl) ?_   -- 20
          refine TrC.done ?_
          refine AT.ret ?_
          exact Ret.one rfl (ResR.tmp rfl (conv_b (by rw [hs]; first | (simp_all; done) | (rw [Bool.eq_iff_iff]; simp_all <;> omega))))
      · -- t97 = false
        refine TrC.skip ⟨_, _, rfl, rfl, rfl⟩ ?_   -- 5
        refine TrC.skip ⟨_, _, rfl, rfl, rfl⟩ ?_   -- 6
        refine TrC.skip ⟨_, _, rfl, rfl, rfl⟩ ?_   -- 7
        refine TrC.skip ⟨_, _, rfl, rfl, rfl⟩ ?_   -- 8
        refine TrC.take rfl (step_pick rfl rfl rfl rfl) ?_   -- 9
        refine TrC.take rfl (step_move rfl rfl rfl) ?_   -- 10
        refine TrC.skip ⟨_, _, rfl, rfl, rfl⟩ ?_   -- 11
        refine TrC.skip ⟨_, _, rfl, rfl, rfl⟩ ?_   -- 12
        refine TrC.skip ⟨_, _, rfl, rfl, rfl⟩ ?_   -- 13
        refine TrC.take rfl (step_pick rfl rfl rfl rfl) ?_   -- 14
        refine TrC.take rfl (step_move rfl rfl rfl) ?_   -- 15
        refine TrC.skip ⟨_, _, rfl, rfl, rfl⟩ ?_   -- 16
        refine TrC.skip ⟨_, _, rfl, rfl, rfl⟩ ?_   -- 17
        refine TrC.skip ⟨_, _, rfl, rfl, rfl⟩ ?_   -- 18
        refine TrC.take rfl (step_pick rfl rfl rfl rfl) ?_   -- 19
        refine TrC.take rfl (step_assign rfl rfl rfl) ?_   -- 20
        refine TrC.done ?_
        refine AT.ret ?_
        exact Ret.one rfl (ResR.tmp rfl (conv_b (by rw [hs]; first | (simp_all; done) | (rw [Bool.eq_iff_iff]; simp_all <;> omega))))

end Go.Proofs.Ytnemmdbafngppaa.Net

/- Contracts of functions of this translation. Printed by wip/tools/gen.py out of wip/net/ann.py. No condition. -/
set_option linter.unusedVariables false
set_option linter.unusedSimpArgs false
namespace Go.Proofs.Ytnemmdbafngppaa.Net
open Go.Proofs.Ytnemmdbafngppaa.Abs
set_option maxRecDepth 100000
set_option maxHeartbeats 4000000
theorem C56 (p : Pk) (id : Int) : Has Try.prog 56 [encP p, .i id] (.i (cmpI p.id id)) := by   -- burgage/net.find$1
  refine Has.intro 9 Try.func56 (by kernel_rfl) rfl rfl fun w ok => ?_
  refine AT.seq ?_
  refine AT.region ?_   -- region 0 net.go:69
  refine TrC.take rfl (step_box rfl rfl rfl rfl rfl rfl rfl) ?_   -- 0
  refine TrC.take rfl (step_assign rfl rfl rfl) ?_   -- 1
  refine TrC.done ?_
  refine AT.seq ?_
  refine AT.region ?_   -- region 1 net.go:69
  refine TrC.take rfl (step_fieldAddrP rfl rfl fd25_0 rfl rfl) ?_   -- 0
  refine TrC.take rfl (step_loadP1 rfl rfl rfl ty3 rfl rfl) ?_   -- 1
  refine TrC.take rfl (step_move rfl rfl rfl) ?_   -- 2
  refine TrC.take rfl (step_call0 rfl rfl (C48 p.id id) rfl) ?_   -- 3
  refine TrC.take rfl (step_assign rfl rfl rfl) ?_   -- 4
  refine TrC.done ?_
  refine AT.ret ?_
  exact Ret.one rfl (ResR.tmp rfl (.refl _))

theorem C34 (cs : List (Int × Int)) (x : Int × Int) (k : Nat) (hl : cs.length ≤ 1000000) (hk : k ≤ cs.length) (hs : ∀ i (h : i < cs.length), order cs[i] x < 0 ↔ i < k) : Has Try.prog 34 [.slice 2 (cs.map encC), encC x, .clo 36 []] (.tup [.i k, .b (match cs[k]? with | some y => decide (order y x = 0) | none => false)]) := by   -- slices.BinarySearchFunc[[][2]int,[2]int,[2]int]
  refine Has.intro 49 Try.func34 (by kernel_rfl) rfl rfl fun w ok => ?_
  refine AT.seq ?_
  refine AT.region ?_   -- region 0 sort.go:152
  refine TrC.take rfl (step_box rfl rfl rfl rfl rfl rfl rfl) ?_   -- 0
  refine TrC.take rfl (step_assign rfl rfl rfl) ?_   -- 1
  refine TrC.take rfl (step_assign rfl rfl rfl) ?_   -- 2
  refine TrC.done ?_
  refine AT.seq ?_
  refine AT.region ?_   -- region 1 sort.go:153
  refine TrC.take rfl (step_move rfl rfl rfl) ?_   -- 0
  refine TrC.take rfl (step_lenT (rt := 0) rfl rfl sl28 rfl) ?_   -- 1
  refine TrC.take rfl (step_assign rfl rfl rfl) ?_   -- 2
  refine TrC.done ?_
  refine AT.seq ?_
  refine AT.region ?_   -- region 2 sort.go:156
  refine TrC.take rfl (step_move rfl rfl rfl) ?_   -- 0
  refine TrC.take rfl (step_assign rfl rfl rfl) ?_   -- 1
  refine TrC.take rfl (step_assign rfl rfl rfl) ?_   -- 2
  refine TrC.done ?_
  refine AT.seq ?_
  refine AT.block ?_   -- block 0
  refine AT.loopP (fun x : Nat × Nat => x.1 ≤ k ∧ k ≤ x.2 ∧ x.2 ≤ cs.length) (fun (i, j) => mkS [(0, .t (.slice 2 (cs.map encC))), (4, .p 4 0), (2, .t (.clo 36 [])), (8, .t (.i cs.length)), (9, .t (.i i)), (10, .t (.i j))] [(4, .box 32 [.t (.i x.1), .t (.i x.2)])]) (fun x => x.2 - x.1) ((0, cs.length)) (⟨Nat.zero_le _, hk, Nat.le_refl _⟩) (fun a w hs => Sat.wk [] (.cons (.t (.refl _)) (.cons (.p rfl) (.cons (.t (.refl _)) (.cons (.t (conv_i (by simp))) (.cons (.t (conv_i (by simp))) (.cons (.t (conv_i (by simp))) (.nil))))))) (.cons rfl (.box (.cons (.t (.refl _)) (.cons (.t (.refl _)) (.nil)))) (.nil)) rfl rfl a w hs) (fun ix hix => ?_)
  obtain ⟨i, j⟩ := ix
  obtain ⟨hi, hj, hn⟩ := hix
  simp only at hi hj hn
  refine AT.seq ?_
  refine AT.seq ?_
  refine AT.region ?_   -- region 3 sort.go:157
  refine TrC.take rfl (step_move rfl rfl rfl) ?_   -- 0
  refine TrC.take rfl (step_move rfl rfl rfl) ?_   -- 1
  refine TrC.take rfl (step_bin rfl rfl rfl rfl rfl) ?_   -- 2
  refine TrC.done ?_
  refine AT.cond rfl (fun h17 => ?_) (fun h17 => ?_)   -- t17
  · -- true
    have hij : i < j := by have h := h17; simp at h; omega
    have hlt : (i + j) / 2 < cs.length := by omega
    have hget : (cs.map encC)[(i + j) / 2]? = some (.agg [.i cs[(i + j) / 2].1, .i cs[(i + j) / 2].2]) := by rw [List.getElem?_map, List.getElem?_eq_getElem hlt]; rfl
    refine AT.skip ?_
    refine AT.block ?_   -- block 1
    refine AT.seq ?_
    refine AT.region ?_   -- region 4 sort.go:158
    refine TrC.take rfl (step_move rfl rfl rfl) ?_   -- 0
    refine TrC.take rfl (step_move rfl rfl rfl) ?_   -- 1
    refine TrC.take rfl (step_addI rfl rfl rfl (by omega) (by omega) rfl) ?_   -- 2
    refine TrC.take rfl (step_convU (i + j) rfl rfl (by omega) in3 in77 (by omega) rfl) ?_   -- 3
    refine TrC.take rfl (step_half (i + j) rfl rfl rfl rfl) ?_   -- 4
    refine TrC.take rfl (step_convI rfl rfl in77 in3 (by omega) (by omega) rfl) ?_   -- 5
    refine TrC.take rfl (step_assign rfl rfl rfl) ?_   -- 6
    refine TrC.done ?_
    refine AT.seq ?_
    refine AT.regionD mixed rfl ?_   -- region 5 sort.go:160
    refine TrC.take rfl (step_move rfl rfl rfl) ?_   -- 0
    refine TrC.take rfl (step_move rfl rfl rfl) ?_   -- 1
    refine TrC.take rfl (step_move rfl rfl rfl) ?_   -- 2
    refine TrC.take rfl (step_indexAddrT (v := .agg [.i cs[(i + j) / 2].1, .i cs[(i + j) / 2].2]) rfl rfl rfl sl28 (by omega) (by first | exact hget | simpa using hget) rfl rfl) ?_   -- 3
    refine TrC.take rfl (step_loadTN rfl rfl ty32 rfl rfl) ?_   -- 4
    refine TrC.take rfl (step_loadPN rfl rfl rfl ty32 rfl rfl rfl) ?_   -- 5
    refine TrC.take rfl (step_callC rfl rfl (.refl _) rfl (C36 cs[(i + j) / 2] x) (ConvL.refl _) rfl) ?_   -- 6
    refine TrC.take rfl (step_bin rfl rfl rfl rfl rfl) ?_   -- 7
    refine TrC.doneD rfl ?_
    refine AT.cond rfl (fun h31 => ?_) (fun h31 => ?_)   -- t31
    · -- true
      refine AT.region ?_   -- region 6 sort.go:161
      refine TrC.take rfl (step_move rfl rfl rfl) ?_   -- 0
      refine TrC.take rfl (step_addI rfl rfl rfl (by omega) (by omega) rfl) ?_   -- 1
      refine TrC.take rfl (step_assign rfl rfl rfl) ?_   -- 2
      refine TrC.done ?_
      have hlk : (i + j) / 2 < k := (hs _ hlt).1 (by simpa using h31)
      exact ⟨((i + j) / 2 + 1, j), ⟨by show (i + j) / 2 + 1 ≤ k; omega, hj, hn⟩, by show j - ((i + j) / 2 + 1) < j - i; omega, Sat.wk [] (.cons (.t (.refl _)) (.cons (.p rfl) (.cons (.t (.refl _)) (.cons (.t (conv_i (by simp))) (.cons (.t (conv_i (by simp))) (.cons (.t (.refl _)) (.nil))))))) (.cons rfl (.box (.cons (.t (.refl _)) (.cons (.t (.refl _)) (.nil)))) (.nil)) rfl rfl⟩
    · -- false
      refine AT.region ?_   -- region 7 sort.go:163
      refine TrC.take rfl (step_move rfl rfl rfl) ?_   -- 0
      refine TrC.take rfl (step_assign rfl rfl rfl) ?_   -- 1
      refine TrC.done ?_
      have hlk : ¬ (i + j) / 2 < k := fun h => by have h2 := (hs _ hlt).2 h; simp at h31; omega
      exact ⟨(i, (i + j) / 2), ⟨hi, by show k ≤ (i + j) / 2; omega, by show (i + j) / 2 ≤ _; omega⟩, by show (i + j) / 2 - i < j - i; omega, Sat.wk [] (.cons (.t (.refl _)) (.cons (.p rfl) (.cons (.t (.refl _)) (.cons (.t (conv_i (by simp))) (.cons (.t (.refl _)) (.cons (.t (.refl _)) (.nil))))))) (.cons rfl (.box (.cons (.t (.refl _)) (.cons (.t (.refl _)) (.nil)))) (.nil)) rfl rfl⟩
  · -- false
    have hij : ¬ i < j := by have h := h17; simp at h; omega
    obtain rfl : i = k := by omega
    refine AT.exit (Or.inl ⟨rfl, ?_⟩)   -- exit 0
    refine AT.seq ?_
    refine AT.regionD mixed rfl ?_   -- region 8 sort.go:167
    refine TrC.take rfl (step_move rfl rfl rfl) ?_   -- 0
    refine TrC.take rfl (step_move rfl rfl rfl) ?_   -- 1
    refine TrC.take rfl (step_move rfl rfl rfl) ?_   -- 2
    refine TrC.take rfl (step_bin rfl rfl rfl rfl rfl) ?_   -- 3
    refine TrC.take rfl (step_move rfl rfl rfl) ?_   -- 4
    refine TrC.cases (d := 39) rfl (fun h39 => ?_) (fun h39 => ?_)
    · -- t39 = true
      have hlt : i < cs.length := by have h := h39; simp at h; omega
      have hget : (cs.map encC)[i]? = some (.agg [.i cs[i].1, .i cs[i].2]) := by rw [List.getElem?_map, List.getElem?_eq_getElem hlt]; rfl
      have hq : cs[i]? = some cs[i] := List.getElem?_eq_getElem hlt
      refine TrC.take ⟨_, _, rfl, rfl, rfl⟩ (step_move rfl rfl rfl) ?_   -- 5
      refine TrC.take ⟨_, _, rfl, rfl, rfl⟩ (step_move rfl rfl rfl) ?_   -- 6
      refine TrC.take ⟨_, _, rfl, rfl, rfl⟩ (step_move rfl rfl rfl) ?_   -- 7
      refine TrC.take ⟨_, _, rfl, rfl, rfl⟩ (step_indexAddrT (v := .agg [.i cs[i].1, .i cs[i].2]) rfl rfl rfl sl28 (by omega) (by first | exact hget | simpa using hget) rfl rfl) ?_   -- 8
      refine TrC.take ⟨_, _, rfl, rfl, rfl⟩ (step_loadTN rfl rfl ty32 rfl rfl) ?_   -- 9
      refine TrC.take ⟨_, _, rfl, rfl, rfl⟩ (step_loadPN rfl rfl rfl ty32 rfl rfl rfl) ?_   -- 10
      refine TrC.take ⟨_, _, rfl, rfl, rfl⟩ (step_callC rfl rfl (.refl _) rfl (C36 cs[i] x) (ConvL.refl _) rfl) ?_   -- 11
      refine TrC.take ⟨_, _, rfl, rfl, rfl⟩ (step_bin rfl rfl rfl rfl rfl) ?_   -- 12
      refine TrC.take rfl (step_pick rfl rfl rfl rfl) ?_   -- 13
      refine TrC.take rfl (step_assign rfl rfl rfl) ?_   -- 14
      refine TrC.take rfl (step_assign rfl rfl rfl) ?_   -- 15
      refine TrC.doneD rfl ?_
      refine AT.ret ?_
      exact Ret.many (.cons (.tmp rfl (.refl _)) (.cons (.tmp rfl (conv_b (by rw [hq] <;> first | rfl | (rw [Bool.eq_iff_iff]; simp)))) .nil)) rfl
    · -- t39 = false
      have hq : cs[i]? = none := by
        have hge : ¬ i < cs.length := by have h := h39; simp at h; omega
        exact List.getElem?_eq_none (by omega)
      refine TrC.skip ⟨_, _, rfl, rfl, rfl⟩ ?_   -- 5
      refine TrC.skip ⟨_, _, rfl, rfl, rfl⟩ ?_   -- 6
      refine TrC.skip ⟨_, _, rfl, rfl, rfl⟩ ?_   -- 7
      refine TrC.skip ⟨_, _, rfl, rfl, rfl⟩ ?_   -- 8
      refine TrC.skip ⟨_, _, rfl, rfl, rfl⟩ ?_   -- 9
      refine TrC.skip ⟨_, _, rfl, rfl, rfl⟩ ?_   -- 10
      refine TrC.skip ⟨_, _, rfl, rfl, rfl⟩ ?_   -- 11
      refine TrC.skip ⟨_, _, rfl, rfl, rfl⟩ ?_   -- 12
      refine TrC.take rfl (step_pick rfl rfl rfl rfl) ?_   -- 13
      refine TrC.take rfl (step_assign rfl rfl rfl) ?_   -- 14
      refine TrC.take rfl (step_assign rfl rfl rfl) ?_   -- 15
      refine TrC.doneD rfl ?_
      refine AT.ret ?_
      exact Ret.many (.cons (.tmp rfl (.refl _)) (.cons (.tmp rfl (conv_b (by rw [hq] <;> first | rfl | (rw [Bool.eq_iff_iff]; simp)))) .nil)) rfl

theorem C55 (fl : List Pk) (id : Int) (k : Nat) (hl : fl.length ≤ 1000000) (hk : k ≤ fl.length) (hs : ∀ i (h : i < fl.length), cmpI fl[i].id id < 0 ↔ i < k) : Has Try.prog 55 [.slice 3 (fl.map encP), .i id, .clo 56 []] (.tup [.i k, .b (match fl[k]? with | some y => decide (cmpI y.id id = 0) | none => false)]) := by   -- slices.BinarySearchFunc[[]burgage/api.Packet,burgage/api.Packet,int]
  refine Has.intro 49 Try.func55 (by kernel_rfl) rfl rfl fun w ok => ?_
  refine AT.seq ?_
  refine AT.region ?_   -- region 0 sort.go:152
  refine TrC.take rfl (step_assign rfl rfl rfl) ?_   -- 0
  refine TrC.take rfl (step_assign rfl rfl rfl) ?_   -- 1
  refine TrC.done ?_
  refine AT.seq ?_
  refine AT.region ?_   -- region 1 sort.go:153
  refine TrC.take rfl (step_move rfl rfl rfl) ?_   -- 0
  refine TrC.take rfl (step_lenT (rt := 0) rfl rfl sl27 rfl) ?_   -- 1
  refine TrC.take rfl (step_assign rfl rfl rfl) ?_   -- 2
  refine TrC.done ?_
  refine AT.seq ?_
  refine AT.region ?_   -- region 2 sort.go:156
  refine TrC.take rfl (step_move rfl rfl rfl) ?_   -- 0
  refine TrC.take rfl (step_assign rfl rfl rfl) ?_   -- 1
  refine TrC.take rfl (step_assign rfl rfl rfl) ?_   -- 2
  refine TrC.done ?_
  refine AT.seq ?_
  refine AT.block ?_   -- block 0
  refine AT.loopP (fun x : Nat × Nat => x.1 ≤ k ∧ k ≤ x.2 ∧ x.2 ≤ fl.length) (fun (i, j) => mkS [(0, .t (.slice 3 (fl.map encP))), (1, .t (.i id)), (2, .t (.clo 56 [])), (8, .t (.i fl.length)), (9, .t (.i i)), (10, .t (.i j))] []) (fun x => x.2 - x.1) ((0, fl.length)) (⟨Nat.zero_le _, hk, Nat.le_refl _⟩) (fun a w hs => Sat.wk [] (.cons (.t (.refl _)) (.cons (.t (.refl _)) (.cons (.t (.refl _)) (.cons (.t (conv_i (by simp))) (.cons (.t (conv_i (by simp))) (.cons (.t (conv_i (by simp))) (.nil))))))) (.nil) rfl rfl a w hs) (fun ix hix => ?_)
  obtain ⟨i, j⟩ := ix
  obtain ⟨hi, hj, hn⟩ := hix
  simp only at hi hj hn
  refine AT.seq ?_
  refine AT.seq ?_
  refine AT.region ?_   -- region 3 sort.go:157
  refine TrC.take rfl (step_move rfl rfl rfl) ?_   -- 0
  refine TrC.take rfl (step_move rfl rfl rfl) ?_   -- 1
  refine TrC.take rfl (step_bin rfl rfl rfl rfl rfl) ?_   -- 2
  refine TrC.done ?_
  refine AT.cond rfl (fun h17 => ?_) (fun h17 => ?_)   -- t17
  · -- true
    have hij : i < j := by have h := h17; simp at h; omega
    have hlt : (i + j) / 2 < fl.length := by omega
    have hget : (fl.map encP)[(i + j) / 2]? = some (.agg [.i fl[(i + j) / 2].id, .i fl[(i + j) / 2].fr, .i fl[(i + j) / 2].to]) := by rw [List.getElem?_map, List.getElem?_eq_getElem hlt]; rfl
    refine AT.skip ?_
    refine AT.block ?_   -- block 1
    refine AT.seq ?_
    refine AT.region ?_   -- region 4 sort.go:158
    refine TrC.take rfl (step_move rfl rfl rfl) ?_   -- 0
    refine TrC.take rfl (step_move rfl rfl rfl) ?_   -- 1
    refine TrC.take rfl (step_addI rfl rfl rfl (by omega) (by omega) rfl) ?_   -- 2
    refine TrC.take rfl (step_convU (i + j) rfl rfl (by omega) in3 in77 (by omega) rfl) ?_   -- 3
    refine TrC.take rfl (step_half (i + j) rfl rfl rfl rfl) ?_   -- 4
    refine TrC.take rfl (step_convI rfl rfl in77 in3 (by omega) (by omega) rfl) ?_   -- 5
    refine TrC.take rfl (step_assign rfl rfl rfl) ?_   -- 6
    refine TrC.done ?_
    refine AT.seq ?_
    refine AT.region ?_   -- region 5 sort.go:160
    refine TrC.take rfl (step_move rfl rfl rfl) ?_   -- 0
    refine TrC.take rfl (step_move rfl rfl rfl) ?_   -- 1
    refine TrC.take rfl (step_move rfl rfl rfl) ?_   -- 2
    refine TrC.take rfl (step_indexAddrT (v := .agg [.i fl[(i + j) / 2].id, .i fl[(i + j) / 2].fr, .i fl[(i + j) / 2].to]) rfl rfl rfl sl27 (by omega) (by first | exact hget | simpa using hget) rfl rfl) ?_   -- 3
    refine TrC.take rfl (step_loadTN rfl rfl ty25 rfl rfl) ?_   -- 4
    refine TrC.take rfl (step_move rfl rfl rfl) ?_   -- 5
    refine TrC.take rfl (step_callC rfl rfl (.refl _) rfl (C56 fl[(i + j) / 2] id) (ConvL.refl _) rfl) ?_   -- 6
    refine TrC.take rfl (step_bin rfl rfl rfl rfl rfl) ?_   -- 7
    refine TrC.done ?_
    refine AT.cond rfl (fun h31 => ?_) (fun h31 => ?_)   -- t31
    · -- true
      refine AT.region ?_   -- region 6 sort.go:161
      refine TrC.take rfl (step_move rfl rfl rfl) ?_   -- 0
      refine TrC.take rfl (step_addI rfl rfl rfl (by omega) (by omega) rfl) ?_   -- 1
      refine TrC.take rfl (step_assign rfl rfl rfl) ?_   -- 2
      refine TrC.done ?_
      have hlk : (i + j) / 2 < k := (hs _ hlt).1 (by simpa using h31)
      exact ⟨((i + j) / 2 + 1, j), ⟨by show (i + j) / 2 + 1 ≤ k; omega, hj, hn⟩, by show j - ((i + j) / 2 + 1) < j - i; omega, Sat.wk [] (.cons (.t (.refl _)) (.cons (.t (.refl _)) (.cons (.t (.refl _)) (.cons (.t (conv_i (by simp))) (.cons (.t (conv_i (by simp))) (.cons (.t (.refl _)) (.nil))))))) (.nil) rfl rfl⟩
    · -- false
      refine AT.region ?_   -- region 7 sort.go:163
      refine TrC.take rfl (step_move rfl rfl rfl) ?_   -- 0
      refine TrC.take rfl (step_assign rfl rfl rfl) ?_   -- 1
      refine TrC.done ?_
      have hlk : ¬ (i + j) / 2 < k := fun h => by have h2 := (hs _ hlt).2 h; simp at h31; omega
      exact ⟨(i, (i + j) / 2), ⟨hi, by show k ≤ (i + j) / 2; omega, by show (i + j) / 2 ≤ _; omega⟩, by show (i + j) / 2 - i < j - i; omega, Sat.wk [] (.cons (.t (.refl _)) (.cons (.t (.refl _)) (.cons (.t (.refl _)) (.cons (.t (conv_i (by simp))) (.cons (.t (.refl _)) (.cons (.t (.refl _)) (.nil))))))) (.nil) rfl rfl⟩
  · -- false
    have hij : ¬ i < j := by have h := h17; simp at h; omega
    obtain rfl : i = k := by omega
    refine AT.exit (Or.inl ⟨rfl, ?_⟩)   -- exit 0
    refine AT.seq ?_
    refine AT.region ?_   -- region 8 sort.go:167
    refine TrC.take rfl (step_move rfl rfl rfl) ?_   -- 0
    refine TrC.take rfl (step_move rfl rfl rfl) ?_   -- 1
    refine TrC.take rfl (step_move rfl rfl rfl) ?_   -- 2
    refine TrC.take rfl (step_bin rfl rfl rfl rfl rfl) ?_   -- 3
    refine TrC.take rfl (step_move rfl rfl rfl) ?_   -- 4
    refine TrC.cases (d := 39) rfl (fun h39 => ?_) (fun h39 => ?_)
    · -- t39 = true
      have hlt : i < fl.length := by have h := h39; simp at h; omega
      have hget : (fl.map encP)[i]? = some (.agg [.i fl[i].id, .i fl[i].fr, .i fl[i].to]) := by rw [List.getElem?_map, List.getElem?_eq_getElem hlt]; rfl
      have hq : fl[i]? = some fl[i] := List.getElem?_eq_getElem hlt
      refine TrC.take ⟨_, _, rfl, rfl, rfl⟩ (step_move rfl rfl rfl) ?_   -- 5
      refine TrC.take ⟨_, _, rfl, rfl, rfl⟩ (step_move rfl rfl rfl) ?_   -- 6
      refine TrC.take ⟨_, _, rfl, rfl, rfl⟩ (step_move rfl rfl rfl) ?_   -- 7
      refine TrC.take ⟨_, _, rfl, rfl, rfl⟩ (step_indexAddrT (v := .agg [.i fl[i].id, .i fl[i].fr, .i fl[i].to]) rfl rfl rfl sl27 (by omega) (by first | exact hget | simpa using hget) rfl rfl) ?_   -- 8
      refine TrC.take ⟨_, _, rfl, rfl, rfl⟩ (step_loadTN rfl rfl ty25 rfl rfl) ?_   -- 9
      refine TrC.take ⟨_, _, rfl, rfl, rfl⟩ (step_move rfl rfl rfl) ?_   -- 10
      refine TrC.take ⟨_, _, rfl, rfl, rfl⟩ (step_callC rfl rfl (.refl _) rfl (C56 fl[i] id) (ConvL.refl _) rfl) ?_   -- 11
      refine TrC.take ⟨_, _, rfl, rfl, rfl⟩ (step_bin rfl rfl rfl rfl rfl) ?_   -- 12
      refine TrC.take rfl (step_pick rfl rfl rfl rfl) ?_   -- 13
      refine TrC.take rfl (step_assign rfl rfl rfl) ?_   -- 14
      refine TrC.take rfl (step_assign rfl rfl rfl) ?_   -- 15
      refine TrC.done ?_
      refine AT.ret ?_
      exact Ret.many (.cons (.tmp rfl (.refl _)) (.cons (.tmp rfl (conv_b (by rw [hq] <;> first | rfl | (rw [Bool.eq_iff_iff]; simp)))) .nil)) rfl
    · -- t39 = false
      have hq : fl[i]? = none := by
        have hge : ¬ i < fl.length := by have h := h39; simp at h; omega
        exact List.getElem?_eq_none (by omega)
      refine TrC.skip ⟨_, _, rfl, rfl, rfl⟩ ?_   -- 5
      refine TrC.skip ⟨_, _, rfl, rfl, rfl⟩ ?_   -- 6
      refine TrC.skip ⟨_, _, rfl, rfl, rfl⟩ ?_   -- 7
      refine TrC.skip ⟨_, _, rfl, rfl, rfl⟩ ?_   -- 8
      refine TrC.skip ⟨_, _, rfl, rfl, rfl⟩ ?_   -- 9
      refine TrC.skip ⟨_, _, rfl, rfl, rfl⟩ ?_   -- 10
      refine TrC.skip ⟨_, _, rfl, rfl, rfl⟩ ?_   -- 11
      refine TrC.skip ⟨_, _, rfl, rfl, rfl⟩ ?_   -- 12
      refine TrC.take rfl (step_pick rfl rfl rfl rfl) ?_   -- 13
      refine TrC.take rfl (step_assign rfl rfl rfl) ?_   -- 14
      refine TrC.take rfl (step_assign rfl rfl rfl) ?_   -- 15
      refine TrC.done ?_
      refine AT.ret ?_
      exact Ret.many (.cons (.tmp rfl (.refl _)) (.cons (.tmp rfl (conv_b (by rw [hq] <;> first | rfl | (rw [Bool.eq_iff_iff]; simp)))) .nil)) rfl

end Go.Proofs.Ytnemmdbafngppaa.Net

/- Contracts of functions of this translation. Printed by wip/tools/gen.py out of wip/net/ann.py. No condition. -/
set_option linter.unusedVariables false
set_option linter.unusedSimpArgs false
namespace Go.Proofs.Ytnemmdbafngppaa.Net
open Go.Proofs.Ytnemmdbafngppaa.Abs
set_option maxRecDepth 100000
set_option maxHeartbeats 4000000
theorem C46 (n : Net) (id : Int) (hl : n.fl.length ≤ 1000000) (hS : SortP n) : Has Try.prog 46 [encN n, .i id] (.tup [.i (match findIx n id with | some i => (i : Int) | none => 0), .i (match findIx n id with | some _ => 0 | none => 90)]) := by   -- burgage/net.find
  obtain ⟨k, hk1, hk2, hk3⟩ := find_k hS id
  refine Has.intro 18 Try.func46 (by kernel_rfl) rfl rfl fun w ok => ?_
  refine AT.seq ?_
  refine AT.region ?_   -- region 0 net.go:68
  refine TrC.take rfl (step_box rfl rfl rfl rfl rfl rfl rfl) ?_   -- 0
  refine TrC.take rfl (step_assign rfl rfl rfl) ?_   -- 1
  refine TrC.take rfl (step_assign rfl rfl rfl) ?_   -- 2
  refine TrC.done ?_
  refine AT.seq ?_
  refine AT.region ?_   -- region 1 net.go:69
  refine TrC.take rfl (step_fieldAddrP rfl rfl fd30_0 rfl rfl) ?_   -- 0
  refine TrC.take rfl (step_loadP1 rfl rfl rfl ty27 rfl rfl) ?_   -- 1
  refine TrC.take rfl (step_move rfl rfl rfl) ?_   -- 2
  refine TrC.take rfl (step_call rfl rfl (C55 n.fl id k hl hk1 hk2) (.cons (.refl _) (.cons (.refl _) (.cons (.fn _) .nil))) rfl) ?_   -- 3
  refine TrC.take rfl (step_move rfl rfl rfl) ?_   -- 4
  refine TrC.take rfl (step_extract rfl rfl rfl rfl) ?_   -- 5
  refine TrC.take rfl (step_extract rfl rfl rfl rfl) ?_   -- 6
  refine TrC.take rfl (step_assign rfl rfl rfl) ?_   -- 7
  refine TrC.take rfl (step_assign rfl rfl rfl) ?_   -- 8
  refine TrC.done ?_
  refine AT.seq ?_
  refine AT.seq ?_
  refine AT.region ?_   -- region 2 net.go:70
  refine TrC.take rfl (step_move rfl rfl rfl) ?_   -- 0
  refine TrC.take rfl (step_not rfl rfl rfl) ?_   -- 1
  refine TrC.done ?_
  refine AT.cond rfl (fun h16 => ?_) (fun h16 => ?_)   -- t16
  · -- true
    have hs : findIx n id = none := by
      rw [hk3]; cases hg : n.fl[k]? with
      | none => rfl
      | some y => rw [hg] at h16; simp at h16; simp [h16]
    refine AT.seq ?_
    refine AT.region ?_   -- region 3 net.go:71
    refine TrC.take rfl (step_assign rfl rfl rfl) ?_   -- 0
    refine TrC.take rfl (step_assign rfl rfl rfl) ?_   -- 1
    refine TrC.done ?_
    refine AT.ret ?_
    exact Ret.many (.cons (.tmp rfl (conv_i (by rw [hs]))) (.cons (.tmp rfl (conv_i (by rw [hs]))) .nil)) rfl
  · -- false
    have hs : findIx n id = some k := by
      rw [hk3]; cases hg : n.fl[k]? with
      | none => rw [hg] at h16; simp at h16
      | some y => rw [hg] at h16; simp at h16; simp [h16]
    refine AT.skip ?_
    refine AT.seq ?_
    refine AT.region ?_   -- region 4 net.go:73
    refine TrC.take rfl (step_move rfl rfl rfl) ?_   -- 0
    refine TrC.take rfl (step_assign rfl rfl rfl) ?_   -- 1
    refine TrC.take rfl (step_assign rfl rfl rfl) ?_   -- 2
    refine TrC.done ?_
    refine AT.ret ?_
    exact Ret.many (.cons (.tmp rfl (conv_i (by rw [hs]))) (.cons (.tmp rfl (conv_i (by rw [hs]))) .nil)) rfl

theorem C19 (n : Net) (a b : Int) (hl : n.cuts.length ≤ 1000000) (hS : SortC n) : Has Try.prog 19 [encN n, .i a, .i b] (.b (reach n a b)) := by   -- burgage/net.Reach
  obtain ⟨k, hk1, hk2, hk3⟩ := cut_k hS a b
  refine Has.intro 20 Try.func19 (by kernel_rfl) rfl rfl fun w ok => ?_
  refine AT.seq ?_
  refine AT.region ?_   -- region 0 net.go:41
  refine TrC.take rfl (step_box rfl rfl rfl rfl rfl rfl rfl) ?_   -- 0
  refine TrC.take rfl (step_assign rfl rfl rfl) ?_   -- 1
  refine TrC.done ?_
  refine AT.seq ?_
  refine AT.regionD mixed rfl ?_   -- region 1 net.go:42
  refine TrC.take rfl (step_fieldAddrP rfl rfl fd30_1 rfl rfl) ?_   -- 0
  refine TrC.take rfl (step_loadP1 rfl rfl rfl ty28 rfl rfl) ?_   -- 1
  refine TrC.take rfl (step_move rfl rfl rfl) ?_   -- 2
  refine TrC.take rfl (step_move rfl rfl rfl) ?_   -- 3
  refine TrC.take rfl (step_call0 rfl rfl (C35 a b) rfl) ?_   -- 4
  refine TrC.take rfl (step_call rfl rfl (C34 n.cuts (pr a b) k hl hk1 hk2) (.cons (.refl _) (.cons (.refl _) (.cons (.fn _) .nil))) rfl) ?_   -- 5
  refine TrC.take rfl (step_move rfl rfl rfl) ?_   -- 6
  refine TrC.take rfl (step_extract rfl rfl rfl rfl) ?_   -- 7
  refine TrC.take rfl (step_extract rfl rfl rfl rfl) ?_   -- 8
  refine TrC.take rfl (step_assign rfl rfl rfl) ?_   -- 9
  refine TrC.take rfl (step_assign rfl rfl rfl) ?_   -- 10
  refine TrC.doneD rfl ?_
  refine AT.seq ?_
  refine AT.region ?_   -- region 2 net.go:43
  refine TrC.take rfl (step_move rfl rfl rfl) ?_   -- 0
  refine TrC.take rfl (step_not rfl rfl rfl) ?_   -- 1
  refine TrC.take rfl (step_assign rfl rfl rfl) ?_   -- 2
  refine TrC.done ?_
  refine AT.ret ?_
  exact Ret.one rfl (ResR.tmp rfl (conv_b (by
    unfold reach; rw [hk3]; cases hg : n.cuts[k]? with
    | none => rfl
    | some y => by_cases hy : order y (pr a b) = 0 <;> simp [hy])))

theorem C44 (n : Net) (a b : Int) (hp : parts a b = true) (hl : n.fl.length ≤ 1000000) (h0 : -1000000000000 ≤ n.next) : Has Try.prog 44 [encN n, .i a, .i b] (.tup [encN (send n a b).n, .i (send n a b).e]) := by   -- burgage/net.add
  refine Has.intro 34 Try.func44 (by kernel_rfl) rfl rfl fun w ok => ?_
  refine AT.seq ?_
  refine AT.region ?_   -- region 0 net.go:47
  refine TrC.take rfl (step_box rfl rfl rfl rfl rfl rfl rfl) ?_   -- 0
  refine TrC.take rfl (step_allocC rfl rfl ze30 zc30 rfl rfl rfl) ?_   -- 1
  refine TrC.take rfl (step_assign rfl rfl rfl) ?_   -- 2
  refine TrC.done ?_
  refine AT.seq ?_
  refine AT.seq ?_
  refine AT.region ?_   -- region 1 net.go:48
  refine TrC.take rfl (step_fieldAddrP rfl rfl fd30_0 rfl rfl) ?_   -- 0
  refine TrC.take rfl (step_loadP1 rfl rfl rfl ty27 rfl rfl) ?_   -- 1
  refine TrC.take rfl (step_lenT (rt := 0) rfl rfl sl27 rfl) ?_   -- 2
  refine TrC.take rfl (step_bin rfl rfl rfl rfl rfl) ?_   -- 3
  refine TrC.take rfl (step_move rfl rfl rfl) ?_   -- 4
  refine TrC.cases (d := 12) rfl (fun h12 => ?_) (fun h12 => ?_)
  · -- t12 = true
    refine TrC.skip ⟨_, _, rfl, rfl, rfl⟩ ?_   -- 5
    refine TrC.skip ⟨_, _, rfl, rfl, rfl⟩ ?_   -- 6
    refine TrC.skip ⟨_, _, rfl, rfl, rfl⟩ ?_   -- 7
    refine TrC.take rfl (step_pick rfl rfl rfl rfl) ?_   -- 8
    refine TrC.done ?_
    refine AT.condT rfl ?_   -- t16
    refine AT.seq ?_
    have hb : 200 ≤ n.fl.length ∨ 1000000000 ≤ n.next := by first | (have h := h16; simp at h; omega) | (have h := h12; simp at h; omega)
    have hs : send n a b = ⟨n, 0, 2⟩ := by unfold send; rw [if_pos hp, if_pos hb]
    refine AT.region ?_   -- region 2 net.go:49
    refine TrC.take rfl (step_loadPN rfl rfl rfl ty30 rfl rfl rfl) ?_   -- 0
    refine TrC.take rfl (step_storeP rfl rfl rfl rfl rfl (.inl rfl) ty30 rfl rfl rfl) ?_   -- 1
    refine TrC.take rfl (step_assign rfl rfl rfl) ?_   -- 2
    refine TrC.done ?_
    refine AT.ret ?_
    exact Ret.many (.cons (.cellN rfl rfl ty30 rfl rfl (conv_eq (by rw [hs]; simp [encN, encP]))) (.cons (.tmp rfl (conv_i (by rw [hs]))) .nil)) rfl
  · -- t12 = false
    refine TrC.take ⟨_, _, rfl, rfl, rfl⟩ (step_fieldAddrP rfl rfl fd30_2 rfl rfl) ?_   -- 5
    refine TrC.take ⟨_, _, rfl, rfl, rfl⟩ (step_loadP1 rfl rfl rfl ty3 rfl rfl) ?_   -- 6
    refine TrC.take ⟨_, _, rfl, rfl, rfl⟩ (step_bin rfl rfl rfl rfl rfl) ?_   -- 7
    refine TrC.take rfl (step_pick rfl rfl rfl rfl) ?_   -- 8
    refine TrC.done ?_
    refine AT.cond rfl (fun h16 => ?_) (fun h16 => ?_)   -- t16
    · -- true
      refine AT.seq ?_
      have hb : 200 ≤ n.fl.length ∨ 1000000000 ≤ n.next := by first | (have h := h16; simp at h; omega) | (have h := h12; simp at h; omega)
      have hs : send n a b = ⟨n, 0, 2⟩ := by unfold send; rw [if_pos hp, if_pos hb]
      refine AT.region ?_   -- region 2 net.go:49
      refine TrC.take rfl (step_loadPN rfl rfl rfl ty30 rfl rfl rfl) ?_   -- 0
      refine TrC.take rfl (step_storeP rfl rfl rfl rfl rfl (.inl rfl) ty30 rfl rfl rfl) ?_   -- 1
      refine TrC.take rfl (step_assign rfl rfl rfl) ?_   -- 2
      refine TrC.done ?_
      refine AT.ret ?_
      exact Ret.many (.cons (.cellN rfl rfl ty30 rfl rfl (conv_eq (by rw [hs]; simp [encN, encP]))) (.cons (.tmp rfl (conv_i (by rw [hs]))) .nil)) rfl
    · -- false
      have hlt : n.next < 1000000000 := by simpa using h16
      refine AT.skip ?_
      refine AT.seq ?_
      have hb : ¬ (200 ≤ n.fl.length ∨ 1000000000 ≤ n.next) := by have h := h12; simp at h; omega
      have hs : send n a b = ⟨⟨n.fl ++ [⟨n.next, a, b⟩], n.cuts, n.next + 1⟩, n.next, 0⟩ := by unfold send; rw [if_pos hp, if_neg hb]
      refine AT.regionD mixed rfl ?_   -- region 3 net.go:51
      refine TrC.take rfl (step_fieldAddrP rfl rfl fd30_0 rfl rfl) ?_   -- 0
      refine TrC.take rfl (step_loadP1 rfl rfl rfl ty27 rfl rfl) ?_   -- 1
      refine TrC.take rfl (step_callH0 rfl rfl rfl (C50 (n.fl.map encP) (by simp; omega)) rfl rfl) ?_   -- 2
      refine TrC.take rfl (step_fieldAddrP rfl rfl fd30_2 rfl rfl) ?_   -- 3
      refine TrC.take rfl (step_loadP1 rfl rfl rfl ty3 rfl rfl) ?_   -- 4
      refine TrC.take rfl (step_move rfl rfl rfl) ?_   -- 5
      refine TrC.take rfl (step_move rfl rfl rfl) ?_   -- 6
      refine TrC.take rfl (step_buildS rfl ze25 rfl pl25 rfl rfl rfl rfl) ?_   -- 7
      refine TrC.take rfl (step_buildSliceT rfl sl27 ze25 rfl rfl rfl rfl rfl rfl rfl rfl rfl rfl rfl rfl) ?_   -- 8
      refine TrC.take rfl (Step.toT (step_append rfl rfl rfl rfl rfl (.refl _) sl27 ze25 rfl rfl rfl (by first | (simp; done) | (simp; omega) | omega) rfl rfl) rfl) ?_   -- 9
      refine TrC.take rfl (step_fieldAddrP rfl rfl fd30_0 rfl rfl) ?_   -- 10
      refine TrC.take rfl (step_storeP rfl rfl rfl rfl rfl (.inl rfl) ty27 rfl rfl rfl) ?_   -- 11
      refine TrC.doneD rfl ?_
      refine AT.seq ?_
      refine AT.region ?_   -- region 4 net.go:52
      refine TrC.take rfl (step_fieldAddrP rfl rfl fd30_2 rfl rfl) ?_   -- 0
      refine TrC.take rfl (step_loadP1 rfl rfl rfl ty3 rfl rfl) ?_   -- 1
      refine TrC.take rfl (step_addI rfl rfl rfl (by omega) (by omega) rfl) ?_   -- 2
      refine TrC.take rfl (step_fieldAddrP rfl rfl fd30_2 rfl rfl) ?_   -- 3
      refine TrC.take rfl (step_storeP rfl rfl rfl rfl rfl (.inl rfl) ty3 rfl rfl rfl) ?_   -- 4
      refine TrC.done ?_
      refine AT.seq ?_
      refine AT.region ?_   -- region 5 net.go:53
      refine TrC.take rfl (step_loadPN rfl rfl rfl ty30 rfl rfl rfl) ?_   -- 0
      refine TrC.take rfl (step_storeP rfl rfl rfl rfl rfl (.inl rfl) ty30 rfl rfl rfl) ?_   -- 1
      refine TrC.take rfl (step_assign rfl rfl rfl) ?_   -- 2
      refine TrC.done ?_
      refine AT.ret ?_
      exact Ret.many (.cons (.cellN rfl rfl ty30 rfl rfl (conv_eq (by rw [hs]; simp [encN, encP]))) (.cons (.tmp rfl (conv_i (by rw [hs]))) .nil)) rfl

end Go.Proofs.Ytnemmdbafngppaa.Net

/- Contracts of functions of this translation. Printed by wip/tools/gen.py out of wip/net/ann.py. No condition. -/
set_option linter.unusedVariables false
set_option linter.unusedSimpArgs false
namespace Go.Proofs.Ytnemmdbafngppaa.Net
open Go.Proofs.Ytnemmdbafngppaa.Abs
set_option maxRecDepth 100000
set_option maxHeartbeats 4000000
theorem C29 (n : Net) (a b : Int) (hl : n.fl.length ≤ 1000000) (h0 : -1000000000000 ≤ n.next) : Has Try.prog 29 [encN n, .i a, .i b] (.tup [encN (send n a b).n, .i (send n a b).id, .i (send n a b).e]) := by   -- burgage/net.Send
  refine Has.intro 30 Try.func29 (by kernel_rfl) rfl rfl fun w ok => ?_
  refine AT.seq ?_
  refine AT.region ?_   -- region 0 net.go:56
  refine TrC.take rfl (step_box rfl rfl rfl rfl rfl rfl rfl) ?_   -- 0
  refine TrC.take rfl (step_allocC rfl rfl ze30 zc30 rfl rfl rfl) ?_   -- 1
  refine TrC.take rfl (step_assign rfl rfl rfl) ?_   -- 2
  refine TrC.take rfl (step_assign rfl rfl rfl) ?_   -- 3
  refine TrC.done ?_
  refine AT.seq ?_
  refine AT.seq ?_
  refine AT.region ?_   -- region 1 net.go:57
  refine TrC.take rfl (step_move rfl rfl rfl) ?_   -- 0
  refine TrC.take rfl (step_move rfl rfl rfl) ?_   -- 1
  refine TrC.take rfl (step_call0 rfl rfl (C43 a b) rfl) ?_   -- 2
  refine TrC.take rfl (step_not rfl rfl rfl) ?_   -- 3
  refine TrC.done ?_
  refine AT.cond rfl (fun h14 => ?_) (fun h14 => ?_)   -- t14
  · -- true
    have hs : send n a b = ⟨n, 0, 1⟩ := by unfold send; rw [if_neg (by simpa using h14)]
    refine AT.seq ?_
    refine AT.region ?_   -- region 2 net.go:58
    refine TrC.take rfl (step_loadPN rfl rfl rfl ty30 rfl rfl rfl) ?_   -- 0
    refine TrC.take rfl (step_storeP rfl rfl rfl rfl rfl (.inl rfl) ty30 rfl rfl rfl) ?_   -- 1
    refine TrC.take rfl (step_assign rfl rfl rfl) ?_   -- 2
    refine TrC.take rfl (step_assign rfl rfl rfl) ?_   -- 3
    refine TrC.done ?_
    refine AT.ret ?_
    exact Ret.many (.cons (.cellN rfl rfl ty30 rfl rfl (conv_eq (by rw [hs]; rfl))) (.cons (.tmp rfl (conv_i (by rw [hs]))) (.cons (.tmp rfl (conv_i (by rw [hs]))) (.nil)))) rfl
  · -- false
    have hp : parts a b = true := by simpa using h14
    refine AT.skip ?_
    refine AT.seq ?_
    refine AT.region ?_   -- region 3 net.go:60
    refine TrC.take rfl (step_loadPN rfl rfl rfl ty30 rfl rfl rfl) ?_   -- 0
    refine TrC.take rfl (step_move rfl rfl rfl) ?_   -- 1
    refine TrC.take rfl (step_move rfl rfl rfl) ?_   -- 2
    refine TrC.take rfl (step_call0 rfl rfl (C44 n a b hp hl h0) rfl) ?_   -- 3
    refine TrC.take rfl (step_move rfl rfl rfl) ?_   -- 4
    refine TrC.take rfl (step_extract rfl rfl rfl rfl) ?_   -- 5
    refine TrC.take rfl (step_extract rfl rfl rfl rfl) ?_   -- 6
    refine TrC.take rfl (step_allocC rfl rfl ze30 zc30 rfl rfl rfl) ?_   -- 7
    refine TrC.take rfl (step_storeP rfl rfl rfl rfl rfl (.inl rfl) ty30 rfl rfl rfl) ?_   -- 8
    refine TrC.take rfl (step_assign rfl rfl rfl) ?_   -- 9
    refine TrC.done ?_
    refine AT.seq ?_
    refine AT.seq ?_
    refine AT.region ?_   -- region 4 net.go:61
    refine TrC.take rfl (step_move rfl rfl rfl) ?_   -- 0
    refine TrC.take rfl (step_bin rfl rfl rfl rfl rfl) ?_   -- 1
    refine TrC.done ?_
    refine AT.cond rfl (fun h24 => ?_) (fun h24 => ?_)   -- t24
    · -- true
      have hs : send n a b = ⟨n, 0, (send n a b).e⟩ := send_err hp (by simpa using h24)
      refine AT.seq ?_
      refine AT.region ?_   -- region 5 net.go:62
      refine TrC.take rfl (step_loadPN rfl rfl rfl ty30 rfl rfl rfl) ?_   -- 0
      refine TrC.take rfl (step_move rfl rfl rfl) ?_   -- 1
      refine TrC.take rfl (step_storeP rfl rfl rfl rfl rfl (.inl rfl) ty30 rfl rfl rfl) ?_   -- 2
      refine TrC.take rfl (step_assign rfl rfl rfl) ?_   -- 3
      refine TrC.take rfl (step_assign rfl rfl rfl) ?_   -- 4
      refine TrC.done ?_
      refine AT.ret ?_
      exact Ret.many (.cons (.cellN rfl rfl ty30 rfl rfl (conv_eq (by rw [hs]; rfl))) (.cons (.tmp rfl (conv_i (by rw [hs]))) (.cons (.tmp rfl (.refl _)) (.nil)))) rfl
    · -- false
      have hs : (send n a b).id = n.next ∧ (send n a b).e = 0 := send_ok hp (by simpa using h24)
      refine AT.skip ?_
      refine AT.seq ?_
      refine AT.regionD mixed rfl ?_   -- region 6 net.go:64
      refine TrC.take rfl (step_loadPN rfl rfl rfl ty30 rfl rfl rfl) ?_   -- 0
      refine TrC.take rfl (step_fieldAddrP rfl rfl fd30_2 rfl rfl) ?_   -- 1
      refine TrC.take rfl (step_loadP1 rfl rfl rfl ty3 rfl rfl) ?_   -- 2
      refine TrC.take rfl (step_storeP rfl rfl rfl rfl rfl (.inl rfl) ty30 rfl rfl rfl) ?_   -- 3
      refine TrC.take rfl (step_assign rfl rfl rfl) ?_   -- 4
      refine TrC.take rfl (step_assign rfl rfl rfl) ?_   -- 5
      refine TrC.doneD rfl ?_
      refine AT.ret ?_
      exact Ret.many (.cons (.cellN rfl rfl ty30 rfl rfl (.refl _)) (.cons (.tmp rfl (conv_i hs.1.symm)) (.cons (.tmp rfl (conv_i hs.2.symm)) (.nil)))) rfl

theorem C38 (n : Net) (id : Int) (hl : n.fl.length ≤ 1000000) (hS : SortP n) : Has Try.prog 38 [encN n, .i id] (.tup [encN (lose n id).n, .i (lose n id).e]) := by   -- burgage/net.Lose
  refine Has.intro 27 Try.func38 (by kernel_rfl) rfl rfl fun w ok => ?_
  refine AT.seq ?_
  refine AT.region ?_   -- region 0 net.go:89
  refine TrC.take rfl (step_box rfl rfl rfl rfl rfl rfl rfl) ?_   -- 0
  refine TrC.take rfl (step_allocC rfl rfl ze30 zc30 rfl rfl rfl) ?_   -- 1
  refine TrC.take rfl (step_assign rfl rfl rfl) ?_   -- 2
  refine TrC.done ?_
  refine AT.seq ?_
  refine AT.region ?_   -- region 1 net.go:90
  refine TrC.take rfl (step_loadPN rfl rfl rfl ty30 rfl rfl rfl) ?_   -- 0
  refine TrC.take rfl (step_move rfl rfl rfl) ?_   -- 1
  refine TrC.take rfl (step_call0 rfl rfl (C46 n id hl hS) rfl) ?_   -- 2
  refine TrC.take rfl (step_move rfl rfl rfl) ?_   -- 3
  refine TrC.take rfl (step_extract rfl rfl rfl rfl) ?_   -- 4
  refine TrC.take rfl (step_extract rfl rfl rfl rfl) ?_   -- 5
  refine TrC.take rfl (step_assign rfl rfl rfl) ?_   -- 6
  refine TrC.take rfl (step_assign rfl rfl rfl) ?_   -- 7
  refine TrC.done ?_
  refine AT.seq ?_
  refine AT.seq ?_
  refine AT.region ?_   -- region 2 net.go:91
  refine TrC.take rfl (step_move rfl rfl rfl) ?_   -- 0
  refine TrC.take rfl (step_bin rfl rfl rfl rfl rfl) ?_   -- 1
  refine TrC.done ?_
  refine AT.cond rfl (fun h15 => ?_) (fun h15 => ?_)   -- t15
  · -- true
    have hf : findIx n id = none := by cases hg : findIx n id with
      | none => rfl
      | some i => rw [hg] at h15; simp at h15
    have hs : lose n id = ⟨n, p0, 90⟩ := by unfold lose; rw [hf]
    refine AT.seq ?_
    refine AT.region ?_   -- region 3 net.go:92
    refine TrC.take rfl (step_loadPN rfl rfl rfl ty30 rfl rfl rfl) ?_   -- 0
    refine TrC.take rfl (step_move rfl rfl rfl) ?_   -- 1
    refine TrC.take rfl (step_storeP rfl rfl rfl rfl rfl (.inl rfl) ty30 rfl rfl rfl) ?_   -- 2
    refine TrC.take rfl (step_assign rfl rfl rfl) ?_   -- 3
    refine TrC.done ?_
    refine AT.ret ?_
    exact Ret.many (.cons (.cellN rfl rfl ty30 rfl rfl (conv_eq (by rw [hs]; rfl))) (.cons (.tmp rfl (conv_i (by rw [hs, hf]))) (.nil))) rfl
  · -- false
    obtain ⟨i, hf, hi⟩ : ∃ i, findIx n id = some i ∧ i < n.fl.length := by
      cases hg : findIx n id with
      | none => rw [hg] at h15; simp at h15
      | some i => exact ⟨i, rfl, (List.findIdx?_eq_some_iff_getElem.1 hg).1⟩
    refine AT.spell 6 rfl (show T.v (.int .i64 (match findIx n id with | some i => (i : Int) | none => 0)) = .v (.int .i64 i) by rw [hf]) ?_
    have hs : lose n id = ⟨without n i, p0, 0⟩ := by unfold lose; rw [hf]
    refine AT.skip ?_
    refine AT.seq ?_
    refine AT.region ?_   -- region 4 net.go:94
    refine TrC.take rfl (step_fieldAddrP rfl rfl fd30_0 rfl rfl) ?_   -- 0
    refine TrC.take rfl (step_loadP1 rfl rfl rfl ty27 rfl rfl) ?_   -- 1
    refine TrC.take rfl (step_callH0 rfl rfl rfl (C50 (n.fl.map encP) (by simp; omega)) rfl rfl) ?_   -- 2
    refine TrC.take rfl (step_move rfl rfl rfl) ?_   -- 3
    refine TrC.take rfl (step_move rfl rfl rfl) ?_   -- 4
    refine TrC.take rfl (step_addI rfl rfl rfl (by omega) (by omega) rfl) ?_   -- 5
    refine TrC.take rfl (step_callG (ml := [(20, _)]) rfl (PassL.refl _) ⟨rfl, trivial⟩ ((C49 (n.fl.map encP) i (i + 1) (by omega) (by simp; omega)).toT.pre [(100, 20)] rfl (.cons (.h rfl) (.cons (.t (.refl _)) (.cons (.t (conv_i (by simp))) .nil))) (.cons rfl (.row rfl) .nil) rfl) rfl rfl rfl rfl rfl) ?_   -- 6
    refine TrC.take rfl (step_fieldAddrP rfl rfl fd30_0 rfl rfl) ?_   -- 7
    refine TrC.take rfl (step_storeP rfl rfl rfl rfl rfl (.inl rfl) ty27 rfl rfl rfl) ?_   -- 8
    refine TrC.done ?_
    refine AT.seq ?_
    refine AT.region ?_   -- region 5 net.go:95
    refine TrC.take rfl (step_loadPN rfl rfl rfl ty30 rfl rfl rfl) ?_   -- 0
    refine TrC.take rfl (step_storeP rfl rfl rfl rfl rfl (.inl rfl) ty30 rfl rfl rfl) ?_   -- 1
    refine TrC.take rfl (step_assign rfl rfl rfl) ?_   -- 2
    refine TrC.done ?_
    refine AT.ret ?_
    exact Ret.many (.cons (.cellN rfl rfl ty30 rfl rfl (conv_eq (by rw [hs]; simp [encN, without, List.map_take, List.map_drop]))) (.cons (.tmp rfl (conv_i (by rw [hs]))) (.nil))) rfl

theorem C31 (n : Net) (id : Int) (hl : n.fl.length ≤ 1000000) (hc : n.cuts.length ≤ 1000000) (hS : SortP n) (hC : SortC n) : Has Try.prog 31 [encN n, .i id] (.tup [encN (take n id).n, encP (take n id).p, .i (take n id).e]) := by   -- burgage/net.Take
  refine Has.intro 43 Try.func31 (by kernel_rfl) rfl rfl fun w ok => ?_
  refine AT.seq ?_
  refine AT.region ?_   -- region 0 net.go:76
  refine TrC.take rfl (step_box rfl rfl rfl rfl rfl rfl rfl) ?_   -- 0
  refine TrC.take rfl (step_allocC rfl rfl ze30 zc30 rfl rfl rfl) ?_   -- 1
  refine TrC.take rfl (step_alloc rfl rfl ze25 rfl rfl rfl) ?_   -- 2
  refine TrC.take rfl (step_assign rfl rfl rfl) ?_   -- 3
  refine TrC.done ?_
  refine AT.seq ?_
  refine AT.region ?_   -- region 1 net.go:77
  refine TrC.take rfl (step_loadPN rfl rfl rfl ty30 rfl rfl rfl) ?_   -- 0
  refine TrC.take rfl (step_move rfl rfl rfl) ?_   -- 1
  refine TrC.take rfl (step_call0 rfl rfl (C46 n id hl hS) rfl) ?_   -- 2
  refine TrC.take rfl (step_move rfl rfl rfl) ?_   -- 3
  refine TrC.take rfl (step_extract rfl rfl rfl rfl) ?_   -- 4
  refine TrC.take rfl (step_extract rfl rfl rfl rfl) ?_   -- 5
  refine TrC.take rfl (step_assign rfl rfl rfl) ?_   -- 6
  refine TrC.take rfl (step_assign rfl rfl rfl) ?_   -- 7
  refine TrC.done ?_
  refine AT.seq ?_
  refine AT.seq ?_
  refine AT.region ?_   -- region 2 net.go:78
  refine TrC.take rfl (step_move rfl rfl rfl) ?_   -- 0
  refine TrC.take rfl (step_bin rfl rfl rfl rfl rfl) ?_   -- 1
  refine TrC.done ?_
  refine AT.cond rfl (fun h17 => ?_) (fun h17 => ?_)   -- t17
  · -- true
    have hf : findIx n id = none := by cases hg : findIx n id with
      | none => rfl
      | some i => rw [hg] at h17; simp at h17
    have hs : take n id = ⟨n, p0, 90⟩ := by unfold take; rw [hf]
    refine AT.seq ?_
    refine AT.region ?_   -- region 3 net.go:79
    refine TrC.take rfl (step_loadPN rfl rfl rfl ty30 rfl rfl rfl) ?_   -- 0
    refine TrC.take rfl (step_buildS rfl ze25 rfl pl25 rfl rfl rfl rfl) ?_   -- 1
    refine TrC.take rfl (step_move rfl rfl rfl) ?_   -- 2
    refine TrC.take rfl (step_storeP rfl rfl rfl rfl rfl (.inl rfl) ty30 rfl rfl rfl) ?_   -- 3
    refine TrC.take rfl (step_storeP rfl rfl rfl rfl rfl (.inl rfl) ty25 rfl rfl rfl) ?_   -- 4
    refine TrC.take rfl (step_assign rfl rfl rfl) ?_   -- 5
    refine TrC.done ?_
    refine AT.ret ?_
    exact Ret.many (.cons (.cellN rfl rfl ty30 rfl rfl (conv_eq (by rw [hs]; rfl))) (.cons (.cellN rfl rfl ty25 rfl rfl (conv_eq (by rw [hs]; rfl))) (.cons (.tmp rfl (conv_i (by rw [hs, hf]))) (.nil)))) rfl
  · -- false
    obtain ⟨i, hf, hi⟩ : ∃ i, findIx n id = some i ∧ i < n.fl.length := by
      cases hg : findIx n id with
      | none => rw [hg] at h17; simp at h17
      | some i => exact ⟨i, rfl, (List.findIdx?_eq_some_iff_getElem.1 hg).1⟩
    refine AT.spell 7 rfl (show T.v (.int .i64 (match findIx n id with | some i => (i : Int) | none => 0)) = .v (.int .i64 i) by rw [hf]) ?_
    have hq : n.fl.getD i p0 = n.fl[i] := getP hi
    have hget : (n.fl.map encP)[i]? = some (.agg [.i n.fl[i].id, .i n.fl[i].fr, .i n.fl[i].to]) := by simp [hi, encP]
    refine AT.skip ?_
    refine AT.seq ?_
    refine AT.region ?_   -- region 4 net.go:81
    refine TrC.take rfl (step_fieldAddrP rfl rfl fd30_0 rfl rfl) ?_   -- 0
    refine TrC.take rfl (step_loadP1 rfl rfl rfl ty27 rfl rfl) ?_   -- 1
    refine TrC.take rfl (step_move rfl rfl rfl) ?_   -- 2
    refine TrC.take rfl (step_indexAddrT (v := .agg [.i n.fl[i].id, .i n.fl[i].fr, .i n.fl[i].to]) rfl rfl rfl sl27 (by omega) (by first | exact hget | simpa using hget) rfl rfl) ?_   -- 3
    refine TrC.take rfl (step_loadTN rfl rfl ty25 rfl rfl) ?_   -- 4
    refine TrC.take rfl (step_alloc rfl rfl ze25 rfl rfl rfl) ?_   -- 5
    refine TrC.take rfl (step_storeP rfl rfl rfl rfl rfl (.inl rfl) ty25 rfl rfl rfl) ?_   -- 6
    refine TrC.done ?_
    refine AT.seq ?_
    refine AT.seq ?_
    refine AT.region ?_   -- region 5 net.go:82
    refine TrC.take rfl (step_loadPN rfl rfl rfl ty30 rfl rfl rfl) ?_   -- 0
    refine TrC.take rfl (step_fieldAddrP rfl rfl fd25_1 rfl rfl) ?_   -- 1
    refine TrC.take rfl (step_loadP1 rfl rfl rfl ty3 rfl rfl) ?_   -- 2
    refine TrC.take rfl (step_fieldAddrP rfl rfl fd25_2 rfl rfl) ?_   -- 3
    refine TrC.take rfl (step_loadP1 rfl rfl rfl ty3 rfl rfl) ?_   -- 4
    refine TrC.take rfl (step_call0 rfl rfl (C19 n n.fl[i].fr n.fl[i].to hc hC) rfl) ?_   -- 5
    refine TrC.take rfl (step_not rfl rfl rfl) ?_   -- 6
    refine TrC.done ?_
    refine AT.cond rfl (fun h32 => ?_) (fun h32 => ?_)   -- t32
    · -- true
      have hs : take n id = ⟨n, p0, 320⟩ := by unfold take; rw [hf]; simp only [hq]; rw [if_neg (by simpa using h32)]
      refine AT.seq ?_
      refine AT.region ?_   -- region 6 net.go:83
      refine TrC.take rfl (step_loadPN rfl rfl rfl ty30 rfl rfl rfl) ?_   -- 0
      refine TrC.take rfl (step_buildS rfl ze25 rfl pl25 rfl rfl rfl rfl) ?_   -- 1
      refine TrC.take rfl (step_storeP rfl rfl rfl rfl rfl (.inl rfl) ty30 rfl rfl rfl) ?_   -- 2
      refine TrC.take rfl (step_storeP rfl rfl rfl rfl rfl (.inl rfl) ty25 rfl rfl rfl) ?_   -- 3
      refine TrC.take rfl (step_assign rfl rfl rfl) ?_   -- 4
      refine TrC.done ?_
      refine AT.ret ?_
      exact Ret.many (.cons (.cellN rfl rfl ty30 rfl rfl (conv_eq (by rw [hs]; rfl))) (.cons (.cellN rfl rfl ty25 rfl rfl (conv_eq (by rw [hs]; rfl))) (.cons (.tmp rfl (conv_i (by rw [hs]))) (.nil)))) rfl
    · -- false
      have hs : take n id = ⟨without n i, n.fl[i], 0⟩ := by unfold take; rw [hf]; simp only [hq]; rw [if_pos (by simpa using h32)]
      have hs2 : lose n id = ⟨without n i, p0, 0⟩ := by unfold lose; rw [hf]
      refine AT.skip ?_
      refine AT.seq ?_
      refine AT.region ?_   -- region 7 net.go:85
      refine TrC.take rfl (step_loadPN rfl rfl rfl ty30 rfl rfl rfl) ?_   -- 0
      refine TrC.take rfl (step_move rfl rfl rfl) ?_   -- 1
      refine TrC.take rfl (step_call0 rfl rfl (C38 n id hl hS) rfl) ?_   -- 2
      refine TrC.take rfl (step_move rfl rfl rfl) ?_   -- 3
      refine TrC.take rfl (step_extract rfl rfl rfl rfl) ?_   -- 4
      refine TrC.take rfl (step_extract rfl rfl rfl rfl) ?_   -- 5
      refine TrC.take rfl (step_storeP rfl rfl rfl rfl rfl (.inl rfl) ty30 rfl rfl rfl) ?_   -- 6
      refine TrC.done ?_
      refine AT.seq ?_
      refine AT.regionD mixed rfl ?_   -- region 8 net.go:86
      refine TrC.take rfl (step_loadPN rfl rfl rfl ty30 rfl rfl rfl) ?_   -- 0
      refine TrC.take rfl (step_loadPN rfl rfl rfl ty25 rfl rfl rfl) ?_   -- 1
      refine TrC.take rfl (step_storeP rfl rfl rfl rfl rfl (.inl rfl) ty30 rfl rfl rfl) ?_   -- 2
      refine TrC.take rfl (step_storeP rfl rfl rfl rfl rfl (.inl rfl) ty25 rfl rfl rfl) ?_   -- 3
      refine TrC.take rfl (step_assign rfl rfl rfl) ?_   -- 4
      refine TrC.doneD rfl ?_
      refine AT.ret ?_
      exact Ret.many (.cons (.cellN rfl rfl ty30 rfl rfl (conv_eq (by rw [hs, hs2]; rfl))) (.cons (.cellN rfl rfl ty25 rfl rfl (conv_eq (by rw [hs]; rfl))) (.cons (.tmp rfl (conv_i (by rw [hs]))) (.nil)))) rfl

theorem C39 (n : Net) (id : Int) (hl : n.fl.length ≤ 1000000) (h0 : -1000000000000 ≤ n.next) (hS : SortP n) (hP : ∀ i (h : i < n.fl.length), parts n.fl[i].fr n.fl[i].to = true) : Has Try.prog 39 [encN n, .i id] (.tup [encN (double n id).n, .i (double n id).e]) := by   -- burgage/net.Double
  refine Has.intro 34 Try.func39 (by kernel_rfl) rfl rfl fun w ok => ?_
  refine AT.seq ?_
  refine AT.region ?_   -- region 0 net.go:98
  refine TrC.take rfl (step_box rfl rfl rfl rfl rfl rfl rfl) ?_   -- 0
  refine TrC.take rfl (step_allocC rfl rfl ze30 zc30 rfl rfl rfl) ?_   -- 1
  refine TrC.take rfl (step_assign rfl rfl rfl) ?_   -- 2
  refine TrC.done ?_
  refine AT.seq ?_
  refine AT.region ?_   -- region 1 net.go:99
  refine TrC.take rfl (step_loadPN rfl rfl rfl ty30 rfl rfl rfl) ?_   -- 0
  refine TrC.take rfl (step_move rfl rfl rfl) ?_   -- 1
  refine TrC.take rfl (step_call0 rfl rfl (C46 n id hl hS) rfl) ?_   -- 2
  refine TrC.take rfl (step_move rfl rfl rfl) ?_   -- 3
  refine TrC.take rfl (step_extract rfl rfl rfl rfl) ?_   -- 4
  refine TrC.take rfl (step_extract rfl rfl rfl rfl) ?_   -- 5
  refine TrC.take rfl (step_assign rfl rfl rfl) ?_   -- 6
  refine TrC.take rfl (step_assign rfl rfl rfl) ?_   -- 7
  refine TrC.done ?_
  refine AT.seq ?_
  refine AT.seq ?_
  refine AT.region ?_   -- region 2 net.go:100
  refine TrC.take rfl (step_move rfl rfl rfl) ?_   -- 0
  refine TrC.take rfl (step_bin rfl rfl rfl rfl rfl) ?_   -- 1
  refine TrC.done ?_
  refine AT.cond rfl (fun h15 => ?_) (fun h15 => ?_)   -- t15
  · -- true
    have hf : findIx n id = none := by cases hg : findIx n id with
      | none => rfl
      | some i => rw [hg] at h15; simp at h15
    have hs : double n id = ⟨n, p0, 90⟩ := by unfold double; rw [hf]
    refine AT.seq ?_
    refine AT.region ?_   -- region 3 net.go:101
    refine TrC.take rfl (step_loadPN rfl rfl rfl ty30 rfl rfl rfl) ?_   -- 0
    refine TrC.take rfl (step_move rfl rfl rfl) ?_   -- 1
    refine TrC.take rfl (step_storeP rfl rfl rfl rfl rfl (.inl rfl) ty30 rfl rfl rfl) ?_   -- 2
    refine TrC.take rfl (step_assign rfl rfl rfl) ?_   -- 3
    refine TrC.done ?_
    refine AT.ret ?_
    exact Ret.many (.cons (.cellN rfl rfl ty30 rfl rfl (conv_eq (by rw [hs]; rfl))) (.cons (.tmp rfl (conv_i (by rw [hs, hf]))) (.nil))) rfl
  · -- false
    obtain ⟨i, hf, hi⟩ : ∃ i, findIx n id = some i ∧ i < n.fl.length := by
      cases hg : findIx n id with
      | none => rw [hg] at h15; simp at h15
      | some i => exact ⟨i, rfl, (List.findIdx?_eq_some_iff_getElem.1 hg).1⟩
    refine AT.spell 6 rfl (show T.v (.int .i64 (match findIx n id with | some i => (i : Int) | none => 0)) = .v (.int .i64 i) by rw [hf]) ?_
    have hq : n.fl.getD i p0 = n.fl[i] := getP hi
    have hget : (n.fl.map encP)[i]? = some (.agg [.i n.fl[i].id, .i n.fl[i].fr, .i n.fl[i].to]) := by simp [hi, encP]
    have hs : double n id = ⟨(send n n.fl[i].fr n.fl[i].to).n, p0, (send n n.fl[i].fr n.fl[i].to).e⟩ := by unfold double; rw [hf]; simp only [hq]
    refine AT.skip ?_
    refine AT.seq ?_
    refine AT.regionD mixed rfl ?_   -- region 4 net.go:103
    refine TrC.take rfl (step_loadPN rfl rfl rfl ty30 rfl rfl rfl) ?_   -- 0
    refine TrC.take rfl (step_fieldAddrP rfl rfl fd30_0 rfl rfl) ?_   -- 1
    refine TrC.take rfl (step_loadP1 rfl rfl rfl ty27 rfl rfl) ?_   -- 2
    refine TrC.take rfl (step_move rfl rfl rfl) ?_   -- 3
    refine TrC.take rfl (step_indexAddrT (v := .agg [.i n.fl[i].id, .i n.fl[i].fr, .i n.fl[i].to]) rfl rfl rfl sl27 (by omega) (by first | exact hget | simpa using hget) rfl rfl) ?_   -- 4
    refine TrC.take rfl (step_fieldAddrT rfl rfl fd25_1 rfl rfl rfl) ?_   -- 5
    refine TrC.take rfl (step_loadT1 rfl rfl ty3 rfl rfl) ?_   -- 6
    refine TrC.take rfl (step_fieldAddrP rfl rfl fd30_0 rfl rfl) ?_   -- 7
    refine TrC.take rfl (step_loadP1 rfl rfl rfl ty27 rfl rfl) ?_   -- 8
    refine TrC.take rfl (step_move rfl rfl rfl) ?_   -- 9
    refine TrC.take rfl (step_indexAddrT (v := .agg [.i n.fl[i].id, .i n.fl[i].fr, .i n.fl[i].to]) rfl rfl rfl sl27 (by omega) (by first | exact hget | simpa using hget) rfl rfl) ?_   -- 10
    refine TrC.take rfl (step_fieldAddrT rfl rfl fd25_2 rfl rfl rfl) ?_   -- 11
    refine TrC.take rfl (step_loadT1 rfl rfl ty3 rfl rfl) ?_   -- 12
    refine TrC.take rfl (step_call0 rfl rfl (C44 n n.fl[i].fr n.fl[i].to (hP i hi) hl h0) rfl) ?_   -- 13
    refine TrC.take rfl (step_extract rfl rfl rfl rfl) ?_   -- 14
    refine TrC.take rfl (step_extract rfl rfl rfl rfl) ?_   -- 15
    refine TrC.take rfl (step_storeP rfl rfl rfl rfl rfl (.inl rfl) ty30 rfl rfl rfl) ?_   -- 16
    refine TrC.take rfl (step_assign rfl rfl rfl) ?_   -- 17
    refine TrC.doneD rfl ?_
    refine AT.ret ?_
    exact Ret.many (.cons (.cellN rfl rfl ty30 rfl rfl (conv_eq (by rw [hs]; rfl))) (.cons (.tmp rfl (conv_i (by rw [hs]))) (.nil))) rfl

end Go.Proofs.Ytnemmdbafngppaa.Net

/- Contracts of functions of this translation. Printed by wip/tools/gen.py out of wip/net/ann.py. No condition. -/
set_option linter.unusedVariables false
set_option linter.unusedSimpArgs false
namespace Go.Proofs.Ytnemmdbafngppaa.Net
open Go.Proofs.Ytnemmdbafngppaa.Abs
set_option maxRecDepth 100000
set_option maxHeartbeats 4000000
theorem C40 (n : Net) (a b : Int) (hl : n.cuts.length ≤ 1000000) (hS : SortC n) : Has Try.prog 40 [encN n, .i a, .i b] (.tup [encN (sever n a b).n, .i (sever n a b).e]) := by   -- burgage/net.Sever
  obtain ⟨k, hk1, hk2, hk3⟩ := cut_k hS a b
  refine Has.intro 44 Try.func40 (by kernel_rfl) rfl rfl fun w ok => ?_
  refine AT.seq ?_
  refine AT.region ?_   -- region 0 net.go:106
  refine TrC.take rfl (step_box rfl rfl rfl rfl rfl rfl rfl) ?_   -- 0
  refine TrC.take rfl (step_allocC rfl rfl ze30 zc30 rfl rfl rfl) ?_   -- 1
  refine TrC.take rfl (step_assign rfl rfl rfl) ?_   -- 2
  refine TrC.done ?_
  refine AT.seq ?_
  refine AT.seq ?_
  refine AT.region ?_   -- region 1 net.go:107
  refine TrC.take rfl (step_move rfl rfl rfl) ?_   -- 0
  refine TrC.take rfl (step_move rfl rfl rfl) ?_   -- 1
  refine TrC.take rfl (step_call0 rfl rfl (C43 a b) rfl) ?_   -- 2
  refine TrC.take rfl (step_not rfl rfl rfl) ?_   -- 3
  refine TrC.done ?_
  refine AT.cond rfl (fun h13 => ?_) (fun h13 => ?_)   -- t13
  · -- true
    refine AT.seq ?_
    have hs : sever n a b = ⟨n, p0, 1⟩ := by unfold sever; rw [if_neg (by simpa using h13)]
    refine AT.region ?_   -- region 2 net.go:108
    refine TrC.take rfl (step_loadPN rfl rfl rfl ty30 rfl rfl rfl) ?_   -- 0
    refine TrC.take rfl (step_storeP rfl rfl rfl rfl rfl (.inl rfl) ty30 rfl rfl rfl) ?_   -- 1
    refine TrC.take rfl (step_assign rfl rfl rfl) ?_   -- 2
    refine TrC.done ?_
    refine AT.ret ?_
    exact Ret.many (.cons (.cellN rfl rfl ty30 rfl rfl (conv_eq (by rw [hs]; rfl))) (.cons (.tmp rfl (conv_i (by rw [hs]))) (.nil))) rfl
  · -- false
    refine AT.skip ?_
    refine AT.seq ?_
    have hp : parts a b = true := by simpa using h13
    refine AT.regionD mixed rfl ?_   -- region 3 net.go:110
    refine TrC.take rfl (step_fieldAddrP rfl rfl fd30_1 rfl rfl) ?_   -- 0
    refine TrC.take rfl (step_loadP1 rfl rfl rfl ty28 rfl rfl) ?_   -- 1
    refine TrC.take rfl (step_move rfl rfl rfl) ?_   -- 2
    refine TrC.take rfl (step_move rfl rfl rfl) ?_   -- 3
    refine TrC.take rfl (step_call0 rfl rfl (C35 a b) rfl) ?_   -- 4
    refine TrC.take rfl (step_call rfl rfl (C34 n.cuts (pr a b) k hl hk1 hk2) (.cons (.refl _) (.cons (.refl _) (.cons (.fn _) .nil))) rfl) ?_   -- 5
    refine TrC.take rfl (step_move rfl rfl rfl) ?_   -- 6
    refine TrC.take rfl (step_extract rfl rfl rfl rfl) ?_   -- 7
    refine TrC.take rfl (step_extract rfl rfl rfl rfl) ?_   -- 8
    refine TrC.take rfl (step_assign rfl rfl rfl) ?_   -- 9
    refine TrC.take rfl (step_assign rfl rfl rfl) ?_   -- 10
    refine TrC.doneD rfl ?_
    refine AT.seq ?_
    refine AT.block ?_   -- block 0
    refine AT.seq ?_
    refine AT.region ?_   -- region 4 net.go:112
    refine TrC.take rfl (step_move rfl rfl rfl) ?_   -- 0
    refine TrC.take rfl (step_assign rfl rfl rfl) ?_   -- 1
    refine TrC.done ?_
    refine AT.cond rfl (fun h24 => ?_) (fun h24 => ?_)   -- t24
    · -- true
      have hr : ¬ reach n a b = true := sever_no hk3 h24
      have hs : sever n a b = ⟨n, p0, 0⟩ := by unfold sever; rw [if_pos hp, if_neg hr]
      refine AT.seq ?_
      refine AT.region ?_   -- region 5 net.go:113
      refine TrC.take rfl (step_loadPN rfl rfl rfl ty30 rfl rfl rfl) ?_   -- 0
      refine TrC.take rfl (step_storeP rfl rfl rfl rfl rfl (.inl rfl) ty30 rfl rfl rfl) ?_   -- 1
      refine TrC.take rfl (step_assign rfl rfl rfl) ?_   -- 2
      refine TrC.done ?_
      refine AT.ret ?_
      exact Ret.many (.cons (.cellN rfl rfl ty30 rfl rfl (conv_eq (by rw [hs]; rfl))) (.cons (.tmp rfl (conv_i (by rw [hs]))) (.nil))) rfl
    · -- false
      have hr : reach n a b = true := sever_yes hk3 h24
      refine AT.seq ?_
      refine AT.region ?_   -- region 6 net.go:114
      refine TrC.take rfl (step_fieldAddrP rfl rfl fd30_1 rfl rfl) ?_   -- 0
      refine TrC.take rfl (step_loadP1 rfl rfl rfl ty28 rfl rfl) ?_   -- 1
      refine TrC.take rfl (step_lenT (rt := 0) rfl rfl sl28 rfl) ?_   -- 2
      refine TrC.take rfl (step_bin rfl rfl rfl rfl rfl) ?_   -- 3
      refine TrC.take rfl (step_assign rfl rfl rfl) ?_   -- 4
      refine TrC.done ?_
      refine AT.cond rfl (fun h27 => ?_) (fun h27 => ?_)   -- t27
      · -- true
        have hs : sever n a b = ⟨n, p0, 2⟩ := by unfold sever; rw [if_pos hp, if_pos hr, if_pos (by have h := h27; simp at h; omega)]
        refine AT.seq ?_
        refine AT.region ?_   -- region 7 net.go:115
        refine TrC.take rfl (step_loadPN rfl rfl rfl ty30 rfl rfl rfl) ?_   -- 0
        refine TrC.take rfl (step_storeP rfl rfl rfl rfl rfl (.inl rfl) ty30 rfl rfl rfl) ?_   -- 1
        refine TrC.take rfl (step_assign rfl rfl rfl) ?_   -- 2
        refine TrC.done ?_
        refine AT.ret ?_
        exact Ret.many (.cons (.cellN rfl rfl ty30 rfl rfl (conv_eq (by rw [hs]; rfl))) (.cons (.tmp rfl (conv_i (by rw [hs]))) (.nil))) rfl
      · -- false
        have hx : insAt n.cuts (pr a b) = k := insAt_k hk1 hk2
        have hs : sever n a b = ⟨⟨n.fl, n.cuts.take k ++ pr a b :: n.cuts.drop k, n.next⟩, p0, 0⟩ := by unfold sever; rw [if_pos hp, if_pos hr, if_neg (by have h := h27; simp at h; omega), hx]
        refine AT.skip ?_
        refine AT.seq ?_
        refine AT.region ?_   -- region 8 net.go:117
        refine TrC.take rfl (step_fieldAddrP rfl rfl fd30_1 rfl rfl) ?_   -- 0
        refine TrC.take rfl (step_loadP1 rfl rfl rfl ty28 rfl rfl) ?_   -- 1
        refine TrC.take rfl (step_callH0 rfl rfl rfl (C52 (n.cuts.map encC) (by simp; omega)) rfl rfl) ?_   -- 2
        refine TrC.take rfl (step_move rfl rfl rfl) ?_   -- 3
        refine TrC.take rfl (step_move rfl rfl rfl) ?_   -- 4
        refine TrC.take rfl (step_move rfl rfl rfl) ?_   -- 5
        refine TrC.take rfl (step_call0 rfl rfl (C35 a b) rfl) ?_   -- 6
        refine TrC.take rfl (step_buildSliceH rfl rfl sl28 ze32 rfl rfl rfl rfl rfl rfl rfl rfl rfl rfl rfl rfl rfl) ?_   -- 7
        refine TrC.take rfl (step_callG (ml := [(35, _), (40, _)]) rfl (PassL.refl _) ⟨rfl, rfl, trivial⟩ ((C51 (n.cuts.map encC) k (encC (pr a b)) (by simpa using hk1) (by simp; omega)).toT.pre [(100, 35), (102, 40)] rfl (.cons (.h rfl) (.cons (.t (.refl _)) (.cons (.h rfl) .nil))) (.cons rfl (.row rfl) (.cons rfl (.row rfl) .nil)) rfl) rfl rfl rfl rfl rfl) ?_   -- 8
        refine TrC.take rfl (step_fieldAddrP rfl rfl fd30_1 rfl rfl) ?_   -- 9
        refine TrC.take rfl (step_storeP rfl rfl rfl rfl rfl (.inl rfl) ty28 rfl rfl rfl) ?_   -- 10
        refine TrC.done ?_
        refine AT.seq ?_
        refine AT.region ?_   -- region 9 net.go:118
        refine TrC.take rfl (step_loadPN rfl rfl rfl ty30 rfl rfl rfl) ?_   -- 0
        refine TrC.take rfl (step_storeP rfl rfl rfl rfl rfl (.inl rfl) ty30 rfl rfl rfl) ?_   -- 1
        refine TrC.take rfl (step_assign rfl rfl rfl) ?_   -- 2
        refine TrC.done ?_
        refine AT.ret ?_
        exact Ret.many (.cons (.cellN rfl rfl ty30 rfl rfl (conv_eq (by rw [hs]; simp [encN, List.map_take, List.map_drop]))) (.cons (.tmp rfl (conv_i (by rw [hs]))) (.nil))) rfl

end Go.Proofs.Ytnemmdbafngppaa.Net

/- Contracts of functions of this translation. Printed by wip/tools/gen.py out of wip/net/ann.py. No condition. -/
set_option linter.unusedVariables false
set_option linter.unusedSimpArgs false
namespace Go.Proofs.Ytnemmdbafngppaa.Net
open Go.Proofs.Ytnemmdbafngppaa.Abs
set_option maxRecDepth 100000
set_option maxHeartbeats 4000000
theorem C54 (c : Int × Int) (a b : Int) : Has Try.prog 54 [encC c, .ptr [.i a], .ptr [.i b]] (.b (decide (c = pr a b))) := by   -- burgage/net.Heal$1
  refine Has.intro 10 Try.func54 (by kernel_rfl) rfl rfl fun w ok => ?_
  refine AT.seq ?_
  refine AT.region ?_   -- region 0 net.go:125
  refine TrC.take rfl (step_box rfl rfl rfl rfl rfl rfl rfl) ?_   -- 0
  refine TrC.take rfl (step_assign rfl rfl rfl) ?_   -- 1
  refine TrC.done ?_
  refine AT.seq ?_
  refine AT.regionD mixed rfl ?_   -- region 1 net.go:125
  refine TrC.take rfl (step_loadPN rfl rfl rfl ty32 rfl rfl rfl) ?_   -- 0
  first | refine TrC.take rfl (step_loadP1 rfl rfl rfl ty3 rfl rfl) ?_ | refine TrC.take rfl (step_loadT1 rfl rfl ty3 rfl rfl) ?_ | refine TrC.take rfl (step_loadE1 rfl rfl rfl HOFF ty3 HV rfl rfl) ?_   -- 1
  first | refine TrC.take rfl (step_loadP1 rfl rfl rfl ty3 rfl rfl) ?_ | refine TrC.take rfl (step_loadT1 rfl rfl ty3 rfl rfl) ?_ | refine TrC.take rfl (step_loadE1 rfl rfl rfl HOFF ty3 HV rfl rfl) ?_   -- 2
  refine TrC.take rfl (step_call0 rfl rfl (C35 a b) rfl) ?_   -- 3
  refine TrC.take rfl (step_eqa rfl rfl rfl rfl rfl ty32 eg32 (eq32 _ _ _ _) rfl) ?_   -- 4
  refine TrC.take rfl (step_assign rfl rfl rfl) ?_   -- 5
  refine TrC.doneD rfl ?_
  refine AT.ret ?_
  exact Ret.one rfl (ResR.tmp rfl (conv_b (by rw [Bool.eq_iff_iff]; simp [pr, Prod.ext_iff])))

theorem C41 (n : Net) (a b : Int) (hl : n.cuts.length ≤ 1000000) (hS : SortC n) : Has Try.prog 41 [encN n, .i a, .i b] (.tup [encN (heal n a b).n, .i (heal n a b).e]) := by   -- burgage/net.Heal
  refine Has.intro 20 Try.func41 (by kernel_rfl) rfl rfl fun w ok => ?_
  refine AT.seq ?_
  refine AT.region ?_   -- region 0 net.go:121
  refine TrC.take rfl (step_box rfl rfl rfl rfl rfl rfl rfl) ?_   -- 0
  refine TrC.take rfl (step_box rfl rfl rfl rfl rfl rfl rfl) ?_   -- 1
  refine TrC.take rfl (step_box rfl rfl rfl rfl rfl rfl rfl) ?_   -- 2
  refine TrC.take rfl (step_allocC rfl rfl ze30 zc30 rfl rfl rfl) ?_   -- 3
  refine TrC.take rfl (step_assign rfl rfl rfl) ?_   -- 4
  refine TrC.done ?_
  refine AT.seq ?_
  refine AT.seq ?_
  refine AT.region ?_   -- region 1 net.go:122
  refine TrC.take rfl (step_loadP1 rfl rfl rfl ty3 rfl rfl) ?_   -- 0
  refine TrC.take rfl (step_loadP1 rfl rfl rfl ty3 rfl rfl) ?_   -- 1
  refine TrC.take rfl (step_call0 rfl rfl (C43 a b) rfl) ?_   -- 2
  refine TrC.take rfl (step_not rfl rfl rfl) ?_   -- 3
  refine TrC.done ?_
  refine AT.cond rfl (fun h11 => ?_) (fun h11 => ?_)   -- t11
  · -- true
    refine AT.seq ?_
    have hs : heal n a b = ⟨n, p0, 1⟩ := by unfold heal; rw [if_neg (by simpa using h11)]
    refine AT.region ?_   -- region 2 net.go:123
    refine TrC.take rfl (step_loadPN rfl rfl rfl ty30 rfl rfl rfl) ?_   -- 0
    refine TrC.take rfl (step_storeP rfl rfl rfl rfl rfl (.inl rfl) ty30 rfl rfl rfl) ?_   -- 1
    refine TrC.take rfl (step_assign rfl rfl rfl) ?_   -- 2
    refine TrC.done ?_
    refine AT.ret ?_
    exact Ret.many (.cons (.cellN rfl rfl ty30 rfl rfl (conv_eq (by rw [hs]; rfl))) (.cons (.tmp rfl (conv_i (by rw [hs]))) (.nil))) rfl
  · -- false
    refine AT.skip ?_
    refine AT.seq ?_
    have hp : parts a b = true := by simpa using h11
    have hs := heal_filter hp hS
    refine AT.region ?_   -- region 3 net.go:125
    refine TrC.take rfl (step_fieldAddrP rfl rfl fd30_1 rfl rfl) ?_   -- 0
    refine TrC.take rfl (step_loadP1 rfl rfl rfl ty28 rfl rfl) ?_   -- 1
    refine TrC.take rfl (step_callH0 rfl rfl rfl (C52 (n.cuts.map encC) (by simp; omega)) rfl rfl) ?_   -- 2
    refine TrC.take rfl (step_makeFuncP [4, 5] rfl rfl (.cons rfl rfl (.cons rfl rfl .nil)) rfl rfl rfl) ?_   -- 3
    refine TrC.take rfl (step_callG (ml := [(15, _)]) rfl (PassL.refl _) ⟨rfl, trivial⟩ ((C53 (n.cuts.map encC) 54 [.ptr [.i a], .ptr [.i b]] (isC (pr a b)) (by simp; omega) (fun x hx => by obtain ⟨c, _, rfl⟩ := List.mem_map.1 hx; exact ⟨_, rfl, rfl⟩) (fun x hx => by obtain ⟨c, _, rfl⟩ := List.mem_map.1 hx; exact C54 c a b)).toT.pre [(100, 15)] rfl (.cons (.h rfl) (.cons (.t (.refl _)) .nil)) (.cons rfl (.row rfl) .nil) rfl) rfl rfl rfl rfl rfl) ?_   -- 4
    refine TrC.take rfl (step_fieldAddrP rfl rfl fd30_1 rfl rfl) ?_   -- 5
    refine TrC.take rfl (step_storeP rfl rfl rfl rfl rfl (.inl rfl) ty28 rfl rfl rfl) ?_   -- 6
    refine TrC.done ?_
    refine AT.seq ?_
    refine AT.region ?_   -- region 4 net.go:126
    refine TrC.take rfl (step_loadPN rfl rfl rfl ty30 rfl rfl rfl) ?_   -- 0
    refine TrC.take rfl (step_storeP rfl rfl rfl rfl rfl (.inl rfl) ty30 rfl rfl rfl) ?_   -- 1
    refine TrC.take rfl (step_assign rfl rfl rfl) ?_   -- 2
    refine TrC.done ?_
    refine AT.ret ?_
    exact Ret.many (.cons (.cellN rfl rfl ty30 rfl rfl (conv_eq (by rw [hs]; simp [encN, filter_enc]))) (.cons (.tmp rfl (conv_i (by rw [hs]))) (.nil))) rfl

end Go.Proofs.Ytnemmdbafngppaa.Net
