/- Contracts of functions of this translation. Printed by wip/tools/gen.py out of wip/net/ann.py. No condition. -/
import Derived.Test.YtnemmdbafngppaaF3
set_option linter.unusedVariables false
set_option linter.unusedSimpArgs false
namespace Go.Proofs.Ytnemmdbafngppaa.Net
open Go.Proofs.Ytnemmdbafngppaa.Abs
set_option maxRecDepth 100000
set_option maxHeartbeats 4000000
theorem C14 (n : Net) (a b : Int) (hl : n.fl.length ≤ 1000000) (h0 : -1000000000000 ≤ n.next) : Has Try.prog 14 [encN n, .i a, .i b] (encSent (send n a b)) := by   -- burgage/burgageref32.Send
  refine Has.intro 46 Try.func14 (by kernel_rfl) rfl rfl fun w ok => ?_
  refine AT.seq ?_
  refine AT.region ?_   -- region 0 ref.go:53
  refine TrC.take rfl (step_box rfl rfl rfl rfl rfl rfl rfl) ?_   -- 0
  refine TrC.take rfl (step_allocC rfl rfl ze35 zc35 rfl rfl rfl) ?_   -- 1
  refine TrC.done ?_
  refine AT.seq ?_
  refine AT.seq ?_
  refine AT.region ?_   -- region 1 ref.go:54
  refine TrC.take rfl (step_move rfl rfl rfl) ?_   -- 0
  refine TrC.take rfl (step_move rfl rfl rfl) ?_   -- 1
  refine TrC.take rfl (step_call0 rfl rfl (C30 a b) rfl) ?_   -- 2
  refine TrC.take rfl (step_not rfl rfl rfl) ?_   -- 3
  refine TrC.done ?_
  refine AT.cond rfl (fun h11 => ?_) (fun h11 => ?_)   -- t11
  · -- true
    refine AT.seq ?_
    refine AT.region ?_   -- region 2 ref.go:55
    refine TrC.take rfl (step_loadPN rfl rfl rfl ty30 rfl rfl rfl) ?_   -- 0
    refine TrC.take rfl (step_buildC rfl ze35 zc35 rfl pl35 rfl rfl rfl rfl) ?_   -- 1
    refine TrC.take rfl (step_storeP rfl rfl rfl rfl rfl (.inl rfl) ty35 rfl rfl rfl) ?_   -- 2
    refine TrC.done ?_
    refine AT.ret ?_
    exact Ret.one rfl (ResR.cellN rfl rfl ty35 rfl rfl (conv_eq (by first | (simp_all [encSent, send, encP]; done) | (simp_all [encSent, send, encP] <;> omega))))
  · -- false
    refine AT.skip ?_
    refine AT.seq ?_
    refine AT.seq ?_
    refine AT.region ?_   -- region 3 ref.go:57
    refine TrC.take rfl (step_fieldAddrP rfl rfl fd30_0 rfl rfl) ?_   -- 0
    refine TrC.take rfl (step_loadP1 rfl rfl rfl ty27 rfl rfl) ?_   -- 1
    refine TrC.take rfl (step_lenT (rt := 0) rfl rfl sl27 rfl) ?_   -- 2
    refine TrC.take rfl (step_bin rfl rfl rfl rfl rfl) ?_   -- 3
    refine TrC.take rfl (step_move rfl rfl rfl) ?_   -- 4
    refine TrC.cases (d := 18) rfl (fun h18 => ?_) (fun h18 => ?_)
    · -- t18 = true
      refine TrC.skip ⟨_, _, rfl, rfl, rfl⟩ ?_   -- 5
      refine TrC.skip ⟨_, _, rfl, rfl, rfl⟩ ?_   -- 6
      refine TrC.skip ⟨_, _, rfl, rfl, rfl⟩ ?_   -- 7
      refine TrC.take rfl (step_pick rfl rfl rfl rfl) ?_   -- 8
      refine TrC.done ?_
      refine AT.condT rfl ?_   -- t22
      refine AT.seq ?_
      have hb : 200 ≤ n.fl.length ∨ 1000000000 ≤ n.next := by first | (have h := h22; simp at h; omega) | (have h := h18; simp at h; omega)
      refine AT.region ?_   -- region 4 ref.go:58
      refine TrC.take rfl (step_loadPN rfl rfl rfl ty30 rfl rfl rfl) ?_   -- 0
      refine TrC.take rfl (step_buildC rfl ze35 zc35 rfl pl35 rfl rfl rfl rfl) ?_   -- 1
      refine TrC.take rfl (step_storeP rfl rfl rfl rfl rfl (.inl rfl) ty35 rfl rfl rfl) ?_   -- 2
      refine TrC.done ?_
      refine AT.ret ?_
      exact Ret.one rfl (ResR.cellN rfl rfl ty35 rfl rfl (conv_eq (by first | (simp_all [encSent, send, encP]; done) | (simp_all [encSent, send, encP] <;> omega))))
    · -- t18 = false
      refine TrC.take ⟨_, _, rfl, rfl, rfl⟩ (step_fieldAddrP rfl rfl fd30_2 rfl rfl) ?_   -- 5
      refine TrC.take ⟨_, _, rfl, rfl, rfl⟩ (step_loadP1 rfl rfl rfl ty3 rfl rfl) ?_   -- 6
      refine TrC.take ⟨_, _, rfl, rfl, rfl⟩ (step_bin rfl rfl rfl rfl rfl) ?_   -- 7
      refine TrC.take rfl (step_pick rfl rfl rfl rfl) ?_   -- 8
      refine TrC.done ?_
      refine AT.cond rfl (fun h22 => ?_) (fun h22 => ?_)   -- t22
      · -- true
        refine AT.seq ?_
        have hb : 200 ≤ n.fl.length ∨ 1000000000 ≤ n.next := by first | (have h := h22; simp at h; omega) | (have h := h18; simp at h; omega)
        refine AT.region ?_   -- region 4 ref.go:58
        refine TrC.take rfl (step_loadPN rfl rfl rfl ty30 rfl rfl rfl) ?_   -- 0
        refine TrC.take rfl (step_buildC rfl ze35 zc35 rfl pl35 rfl rfl rfl rfl) ?_   -- 1
        refine TrC.take rfl (step_storeP rfl rfl rfl rfl rfl (.inl rfl) ty35 rfl rfl rfl) ?_   -- 2
        refine TrC.done ?_
        refine AT.ret ?_
        exact Ret.one rfl (ResR.cellN rfl rfl ty35 rfl rfl (conv_eq (by first | (simp_all [encSent, send, encP]; done) | (simp_all [encSent, send, encP] <;> omega))))
      · -- false
        have hlt : n.next < 1000000000 := by simpa using h22
        refine AT.skip ?_
        refine AT.seq ?_
        have hb : ¬ (200 ≤ n.fl.length ∨ 1000000000 ≤ n.next) := by have h := h18; simp at h; omega
        have hs : send n a b = ⟨⟨n.fl ++ [⟨n.next, a, b⟩], n.cuts, n.next + 1⟩, n.next, 0⟩ := by unfold send; rw [if_pos (by simpa using h11), if_neg hb]
        refine AT.regionD mixed rfl ?_   -- region 5 ref.go:60
        refine TrC.take rfl (step_buildSliceH rfl rfl sl27 ze25 rfl rfl rfl rfl rfl rfl rfl rfl rfl rfl rfl rfl rfl) ?_   -- 0
        refine TrC.take rfl (step_fieldAddrP rfl rfl fd30_0 rfl rfl) ?_   -- 1
        refine TrC.take rfl (step_loadP1 rfl rfl rfl ty27 rfl rfl) ?_   -- 2
        refine TrC.take rfl (step_append rfl rfl rfl rfl rfl (.refl _) sl27 ze25 rfl rfl rfl (by first | (simp; done) | (simp; omega) | omega) rfl rfl) ?_   -- 3
        refine TrC.take rfl (step_fieldAddrP rfl rfl fd30_2 rfl rfl) ?_   -- 4
        refine TrC.take rfl (step_loadP1 rfl rfl rfl ty3 rfl rfl) ?_   -- 5
        refine TrC.take rfl (step_move rfl rfl rfl) ?_   -- 6
        refine TrC.take rfl (step_move rfl rfl rfl) ?_   -- 7
        refine TrC.take rfl (step_buildS rfl ze25 rfl pl25 rfl rfl rfl rfl) ?_   -- 8
        refine TrC.take rfl (step_buildSliceT rfl sl27 ze25 rfl rfl rfl rfl rfl rfl rfl rfl rfl rfl rfl rfl) ?_   -- 9
        refine TrC.take rfl (Step.toT (step_append rfl rfl rfl rfl rfl (.refl _) sl27 ze25 rfl rfl rfl (by first | (simp; done) | (simp; omega) | omega) rfl rfl) rfl) ?_   -- 10
        refine TrC.take rfl (step_assign rfl rfl rfl) ?_   -- 11
        refine TrC.doneD rfl ?_
        refine AT.seq ?_
        refine AT.region ?_   -- region 6 ref.go:61
        refine TrC.take rfl (step_move rfl rfl rfl) ?_   -- 0
        refine TrC.take rfl (step_fieldAddrP rfl rfl fd30_1 rfl rfl) ?_   -- 1
        refine TrC.take rfl (step_loadP1 rfl rfl rfl ty28 rfl rfl) ?_   -- 2
        refine TrC.take rfl (step_fieldAddrP rfl rfl fd30_2 rfl rfl) ?_   -- 3
        refine TrC.take rfl (step_loadP1 rfl rfl rfl ty3 rfl rfl) ?_   -- 4
        refine TrC.take rfl (step_addI rfl rfl rfl (by omega) (by omega) rfl) ?_   -- 5
        refine TrC.take rfl (step_buildC rfl ze30 zc30 rfl pl30 rfl rfl rfl rfl) ?_   -- 6
        refine TrC.take rfl (step_fieldAddrP rfl rfl fd30_2 rfl rfl) ?_   -- 7
        refine TrC.take rfl (step_loadP1 rfl rfl rfl ty3 rfl rfl) ?_   -- 8
        refine TrC.take rfl (step_buildC rfl ze35 zc35 rfl pl35 rfl rfl rfl rfl) ?_   -- 9
        refine TrC.take rfl (step_storeP rfl rfl rfl rfl rfl (.inl rfl) ty35 rfl rfl rfl) ?_   -- 10
        refine TrC.done ?_
        refine AT.ret ?_
        exact Ret.one rfl (ResR.cellN rfl rfl ty35 rfl rfl (conv_eq (by simp [encSent, hs, encP])))

theorem C22 (n : Net) (id : Int) (hl : n.fl.length ≤ 1000000) : Has Try.prog 22 [encN n, .i id] (encTaken (lose n id)) := by   -- burgage/burgageref32.Lose
  refine Has.intro 17 Try.func22 (by kernel_rfl) rfl rfl fun w ok => ?_
  refine AT.seq ?_
  refine AT.region ?_   -- region 0 ref.go:101
  refine TrC.take rfl (step_box rfl rfl rfl rfl rfl rfl rfl) ?_   -- 0
  refine TrC.take rfl (step_allocC rfl rfl ze40 zc40 rfl rfl rfl) ?_   -- 1
  refine TrC.done ?_
  refine AT.seq ?_
  refine AT.region ?_   -- region 1 ref.go:102
  refine TrC.take rfl (step_loadPN rfl rfl rfl ty30 rfl rfl rfl) ?_   -- 0
  refine TrC.take rfl (step_move rfl rfl rfl) ?_   -- 1
  refine TrC.take rfl (step_call0 rfl rfl (C32 n id hl) rfl) ?_   -- 2
  refine TrC.take rfl (step_assign rfl rfl rfl) ?_   -- 3
  refine TrC.done ?_
  refine AT.seq ?_
  refine AT.seq ?_
  refine AT.region ?_   -- region 2 ref.go:103
  refine TrC.take rfl (step_move rfl rfl rfl) ?_   -- 0
  refine TrC.take rfl (step_bin rfl rfl rfl rfl rfl) ?_   -- 1
  refine TrC.done ?_
  refine AT.cond rfl (fun h10 => ?_) (fun h10 => ?_)   -- t10
  · -- true
    have hn : findIx n id = none := ix_neg (by simpa using h10)
    refine AT.seq ?_
    refine AT.region ?_   -- region 3 ref.go:104
    refine TrC.take rfl (step_loadPN rfl rfl rfl ty30 rfl rfl rfl) ?_   -- 0
    refine TrC.take rfl (step_buildC rfl ze40 zc40 rfl pl40 rfl rfl rfl rfl) ?_   -- 1
    refine TrC.take rfl (step_storeP rfl rfl rfl rfl rfl (.inl rfl) ty40 rfl rfl rfl) ?_   -- 2
    refine TrC.done ?_
    refine AT.ret ?_
    exact Ret.one rfl (ResR.cellN rfl rfl ty40 rfl rfl (conv_eq (by first | (simp_all [encTaken, lose, p0, encN, without]; done) | (simp_all [encTaken, lose, p0, encN, without] <;> omega))))
  · -- false
    obtain ⟨i, hf, hi⟩ := find_pos (by simpa using h10)
    refine AT.spell 5 rfl (show T.v (.int .i64 (ixI (findIx n id))) = .v (.int .i64 i) by rw [hf]; rfl) ?_
    refine AT.skip ?_
    refine AT.seq ?_
    refine AT.region ?_   -- region 4 ref.go:106
    refine TrC.take rfl (step_loadPN rfl rfl rfl ty30 rfl rfl rfl) ?_   -- 0
    refine TrC.take rfl (step_move rfl rfl rfl) ?_   -- 1
    refine TrC.take rfl (step_call0 rfl rfl (C33 n i hi hl) rfl) ?_   -- 2
    refine TrC.take rfl (step_buildC rfl ze40 zc40 rfl pl40 rfl rfl rfl rfl) ?_   -- 3
    refine TrC.take rfl (step_storeP rfl rfl rfl rfl rfl (.inl rfl) ty40 rfl rfl rfl) ?_   -- 4
    refine TrC.done ?_
    refine AT.ret ?_
    exact Ret.one rfl (ResR.cellN rfl rfl ty40 rfl rfl (conv_eq (by first | (simp_all [encTaken, lose, p0, encN, without]; done) | (simp_all [encTaken, lose, p0, encN, without] <;> omega))))

theorem C18 (n : Net) (id : Int) (hl : n.fl.length ≤ 1000000) (hc : n.cuts.length ≤ 1000000) : Has Try.prog 18 [encN n, .i id] (encTaken (take n id)) := by   -- burgage/burgageref32.Take
  refine Has.intro 33 Try.func18 (by kernel_rfl) rfl rfl fun w ok => ?_
  refine AT.seq ?_
  refine AT.region ?_   -- region 0 ref.go:88
  refine TrC.take rfl (step_box rfl rfl rfl rfl rfl rfl rfl) ?_   -- 0
  refine TrC.take rfl (step_allocC rfl rfl ze40 zc40 rfl rfl rfl) ?_   -- 1
  refine TrC.done ?_
  refine AT.seq ?_
  refine AT.region ?_   -- region 1 ref.go:89
  refine TrC.take rfl (step_loadPN rfl rfl rfl ty30 rfl rfl rfl) ?_   -- 0
  refine TrC.take rfl (step_move rfl rfl rfl) ?_   -- 1
  refine TrC.take rfl (step_call0 rfl rfl (C32 n id hl) rfl) ?_   -- 2
  refine TrC.take rfl (step_assign rfl rfl rfl) ?_   -- 3
  refine TrC.done ?_
  refine AT.seq ?_
  refine AT.seq ?_
  refine AT.region ?_   -- region 2 ref.go:90
  refine TrC.take rfl (step_move rfl rfl rfl) ?_   -- 0
  refine TrC.take rfl (step_bin rfl rfl rfl rfl rfl) ?_   -- 1
  refine TrC.done ?_
  refine AT.cond rfl (fun h11 => ?_) (fun h11 => ?_)   -- t11
  · -- true
    have hn : findIx n id = none := ix_neg (by simpa using h11)
    refine AT.seq ?_
    refine AT.region ?_   -- region 3 ref.go:91
    refine TrC.take rfl (step_loadPN rfl rfl rfl ty30 rfl rfl rfl) ?_   -- 0
    refine TrC.take rfl (step_buildC rfl ze40 zc40 rfl pl40 rfl rfl rfl rfl) ?_   -- 1
    refine TrC.take rfl (step_storeP rfl rfl rfl rfl rfl (.inl rfl) ty40 rfl rfl rfl) ?_   -- 2
    refine TrC.done ?_
    refine AT.ret ?_
    exact Ret.one rfl (ResR.cellN rfl rfl ty40 rfl rfl (conv_eq (by first | (simp_all [encTaken, take, p0, encN, without]; done) | (simp_all [encTaken, take, p0, encN, without] <;> omega))))
  · -- false
    obtain ⟨i, hf, hi⟩ := find_pos (by simpa using h11)
    refine AT.spell 5 rfl (show T.v (.int .i64 (ixI (findIx n id))) = .v (.int .i64 i) by rw [hf]; rfl) ?_
    have hget : (n.fl.map encP)[i]? = some (.agg [.i n.fl[i].id, .i n.fl[i].fr, .i n.fl[i].to]) := by simp [hi, encP]
    refine AT.skip ?_
    refine AT.seq ?_
    refine AT.region ?_   -- region 4 ref.go:93
    refine TrC.take rfl (step_fieldAddrP rfl rfl fd30_0 rfl rfl) ?_   -- 0
    refine TrC.take rfl (step_loadP1 rfl rfl rfl ty27 rfl rfl) ?_   -- 1
    refine TrC.take rfl (step_move rfl rfl rfl) ?_   -- 2
    refine TrC.take rfl (step_indexAddrT (v := .agg [.i n.fl[i].id, .i n.fl[i].fr, .i n.fl[i].to]) rfl rfl rfl sl27 (by omega) (by simpa using hget) rfl rfl) ?_   -- 3
    refine TrC.take rfl (step_loadTN rfl rfl ty25 rfl rfl) ?_   -- 4
    refine TrC.take rfl (step_alloc rfl rfl ze25 rfl rfl rfl) ?_   -- 5
    refine TrC.take rfl (step_storeP rfl rfl rfl rfl rfl (.inl rfl) ty25 rfl rfl rfl) ?_   -- 6
    refine TrC.done ?_
    refine AT.seq ?_
    refine AT.seq ?_
    refine AT.region ?_   -- region 5 ref.go:94
    refine TrC.take rfl (step_loadPN rfl rfl rfl ty30 rfl rfl rfl) ?_   -- 0
    refine TrC.take rfl (step_fieldAddrP rfl rfl fd25_1 rfl rfl) ?_   -- 1
    refine TrC.take rfl (step_loadP1 rfl rfl rfl ty3 rfl rfl) ?_   -- 2
    refine TrC.take rfl (step_fieldAddrP rfl rfl fd25_2 rfl rfl) ?_   -- 3
    refine TrC.take rfl (step_loadP1 rfl rfl rfl ty3 rfl rfl) ?_   -- 4
    refine TrC.take rfl (step_call0 rfl rfl (C20 n n.fl[i].fr n.fl[i].to hc) rfl) ?_   -- 5
    refine TrC.take rfl (step_not rfl rfl rfl) ?_   -- 6
    refine TrC.done ?_
    refine AT.cond rfl (fun h25 => ?_) (fun h25 => ?_)   -- t25
    · -- true
      refine AT.seq ?_
      refine AT.region ?_   -- region 6 ref.go:95
      refine TrC.take rfl (step_loadPN rfl rfl rfl ty30 rfl rfl rfl) ?_   -- 0
      refine TrC.take rfl (step_buildC rfl ze40 zc40 rfl pl40 rfl rfl rfl rfl) ?_   -- 1
      refine TrC.take rfl (step_storeP rfl rfl rfl rfl rfl (.inl rfl) ty40 rfl rfl rfl) ?_   -- 2
      refine TrC.done ?_
      refine AT.ret ?_
      exact Ret.one rfl (ResR.cellN rfl rfl ty40 rfl rfl (conv_eq (by first | (simp_all [encTaken, take, p0, encN, without]; done) | (simp_all [encTaken, take, p0, encN, without] <;> omega))))
    · -- false
      refine AT.skip ?_
      refine AT.seq ?_
      refine AT.regionD mixed rfl ?_   -- region 7 ref.go:97
      refine TrC.take rfl (step_loadPN rfl rfl rfl ty30 rfl rfl rfl) ?_   -- 0
      refine TrC.take rfl (step_move rfl rfl rfl) ?_   -- 1
      refine TrC.take rfl (step_call0 rfl rfl (C33 n i hi hl) rfl) ?_   -- 2
      refine TrC.take rfl (step_loadPN rfl rfl rfl ty25 rfl rfl rfl) ?_   -- 3
      refine TrC.take rfl (step_buildC rfl ze40 zc40 rfl pl40 rfl rfl rfl rfl) ?_   -- 4
      refine TrC.take rfl (step_storeP rfl rfl rfl rfl rfl (.inl rfl) ty40 rfl rfl rfl) ?_   -- 5
      refine TrC.doneD rfl ?_
      refine AT.ret ?_
      exact Ret.one rfl (ResR.cellN rfl rfl ty40 rfl rfl (conv_eq (by first | (simp_all [encTaken, take, p0, encN, without]; done) | (simp_all [encTaken, take, p0, encN, without] <;> omega))))

theorem C23 (n : Net) (id : Int) (hl : n.fl.length ≤ 1000000) (h0 : -1000000000000 ≤ n.next) : Has Try.prog 23 [encN n, .i id] (encTaken (double n id)) := by   -- burgage/burgageref32.Double
  refine Has.intro 33 Try.func23 (by kernel_rfl) rfl rfl fun w ok => ?_
  refine AT.seq ?_
  refine AT.region ?_   -- region 0 ref.go:110
  refine TrC.take rfl (step_box rfl rfl rfl rfl rfl rfl rfl) ?_   -- 0
  refine TrC.take rfl (step_allocC rfl rfl ze40 zc40 rfl rfl rfl) ?_   -- 1
  refine TrC.done ?_
  refine AT.seq ?_
  refine AT.region ?_   -- region 1 ref.go:111
  refine TrC.take rfl (step_loadPN rfl rfl rfl ty30 rfl rfl rfl) ?_   -- 0
  refine TrC.take rfl (step_move rfl rfl rfl) ?_   -- 1
  refine TrC.take rfl (step_call0 rfl rfl (C32 n id hl) rfl) ?_   -- 2
  refine TrC.take rfl (step_assign rfl rfl rfl) ?_   -- 3
  refine TrC.done ?_
  refine AT.seq ?_
  refine AT.seq ?_
  refine AT.region ?_   -- region 2 ref.go:112
  refine TrC.take rfl (step_move rfl rfl rfl) ?_   -- 0
  refine TrC.take rfl (step_bin rfl rfl rfl rfl rfl) ?_   -- 1
  refine TrC.done ?_
  refine AT.cond rfl (fun h11 => ?_) (fun h11 => ?_)   -- t11
  · -- true
    have hn : findIx n id = none := ix_neg (by simpa using h11)
    refine AT.seq ?_
    refine AT.region ?_   -- region 3 ref.go:113
    refine TrC.take rfl (step_loadPN rfl rfl rfl ty30 rfl rfl rfl) ?_   -- 0
    refine TrC.take rfl (step_buildC rfl ze40 zc40 rfl pl40 rfl rfl rfl rfl) ?_   -- 1
    refine TrC.take rfl (step_storeP rfl rfl rfl rfl rfl (.inl rfl) ty40 rfl rfl rfl) ?_   -- 2
    refine TrC.done ?_
    refine AT.ret ?_
    exact Ret.one rfl (ResR.cellN rfl rfl ty40 rfl rfl (conv_eq (by first | (simp_all [encTaken, double, p0, encSent]; done) | (simp_all [encTaken, double, p0, encSent] <;> omega))))
  · -- false
    obtain ⟨i, hf, hi⟩ := find_pos (by simpa using h11)
    refine AT.spell 5 rfl (show T.v (.int .i64 (ixI (findIx n id))) = .v (.int .i64 i) by rw [hf]; rfl) ?_
    have hget : (n.fl.map encP)[i]? = some (.agg [.i n.fl[i].id, .i n.fl[i].fr, .i n.fl[i].to]) := by simp [hi, encP]
    refine AT.skip ?_
    refine AT.seq ?_
    refine AT.regionD mixed rfl ?_   -- region 4 ref.go:115
    refine TrC.take rfl (step_loadPN rfl rfl rfl ty30 rfl rfl rfl) ?_   -- 0
    refine TrC.take rfl (step_fieldAddrP rfl rfl fd30_0 rfl rfl) ?_   -- 1
    refine TrC.take rfl (step_loadP1 rfl rfl rfl ty27 rfl rfl) ?_   -- 2
    refine TrC.take rfl (step_move rfl rfl rfl) ?_   -- 3
    refine TrC.take rfl (step_indexAddrT (v := .agg [.i n.fl[i].id, .i n.fl[i].fr, .i n.fl[i].to]) rfl rfl rfl sl27 (by omega) (by simpa using hget) rfl rfl) ?_   -- 4
    refine TrC.take rfl (step_fieldAddrT rfl rfl fd25_1 rfl rfl rfl) ?_   -- 5
    refine TrC.take rfl (step_loadT1 rfl rfl ty3 rfl rfl) ?_   -- 6
    refine TrC.take rfl (step_fieldAddrP rfl rfl fd30_0 rfl rfl) ?_   -- 7
    refine TrC.take rfl (step_loadP1 rfl rfl rfl ty27 rfl rfl) ?_   -- 8
    refine TrC.take rfl (step_move rfl rfl rfl) ?_   -- 9
    refine TrC.take rfl (step_indexAddrT (v := .agg [.i n.fl[i].id, .i n.fl[i].fr, .i n.fl[i].to]) rfl rfl rfl sl27 (by omega) (by simpa using hget) rfl rfl) ?_   -- 10
    refine TrC.take rfl (step_fieldAddrT rfl rfl fd25_2 rfl rfl rfl) ?_   -- 11
    refine TrC.take rfl (step_loadT1 rfl rfl ty3 rfl rfl) ?_   -- 12
    refine TrC.take rfl (step_call0 rfl rfl (C14 n n.fl[i].fr n.fl[i].to hl h0) rfl) ?_   -- 13
    refine TrC.take rfl (step_allocC rfl rfl ze35 zc35 rfl rfl rfl) ?_   -- 14
    refine TrC.take rfl (step_storeP rfl rfl rfl rfl rfl (.inl rfl) ty35 rfl rfl rfl) ?_   -- 15
    refine TrC.doneD rfl ?_
    refine AT.seq ?_
    refine AT.region ?_   -- region 5 ref.go:116
    refine TrC.take rfl (step_fieldAddrP rfl rfl fd35_0 rfl rfl) ?_   -- 0
    refine TrC.take rfl (step_loadPN rfl rfl rfl ty30 rfl rfl rfl) ?_   -- 1
    refine TrC.take rfl (step_fieldAddrP rfl rfl fd35_2 rfl rfl) ?_   -- 2
    refine TrC.take rfl (step_loadP1 rfl rfl rfl ty33 rfl rfl) ?_   -- 3
    refine TrC.take rfl (step_buildC rfl ze40 zc40 rfl pl40 rfl rfl rfl rfl) ?_   -- 4
    refine TrC.take rfl (step_storeP rfl rfl rfl rfl rfl (.inl rfl) ty40 rfl rfl rfl) ?_   -- 5
    refine TrC.done ?_
    refine AT.ret ?_
    exact Ret.one rfl (ResR.cellN rfl rfl ty40 rfl rfl (conv_eq (by first | (simp_all [encTaken, double, p0, encSent]; done) | (simp_all [encTaken, double, p0, encSent] <;> omega))))

end Go.Proofs.Ytnemmdbafngppaa.Net
