/- Contracts of functions of this translation. Printed by wip/tools/gen.py out of wip/net/ann.py. No condition. -/
import Derived.Test.YtnemmdbafngppaaF8
set_option linter.unusedVariables false
set_option linter.unusedSimpArgs false
namespace Go.Proofs.Ytnemmdbafngppaa.Net
open Go.Proofs.Ytnemmdbafngppaa.Abs
set_option maxRecDepth 100000
set_option maxHeartbeats 4000000
theorem C46 (n : Net) (id : Int) (hl : n.fl.length ≤ 1000000) (hS : SortP n) : Has Try.prog 46 [encN n, .i id] (.tup [.i (match findIx n id with | some i => (i : Int) | none => 0), .i (match findIx n id with | some _ => 0 | none => 90)]) := by   -- burgage/net.find
  obtain ⟨k, hk1, hk2, hk3⟩ := find_k hS id
  refine Has.intro 18 Try.func46 (by kernel_rfl) rfl rfl fun w ok => ?_
  refine AT.seq ?_
  refine AT.region ?_   -- region 0 net.go:68
  refine TrC.take rfl (step_box rfl rfl rfl rfl rfl rfl rfl) ?_   -- 0
  refine TrC.take rfl (step_assign rfl rfl rfl) ?_   -- 1
  refine TrC.take rfl (step_assign rfl rfl rfl) ?_   -- 2
  refine TrC.done ?_
  refine AT.seq ?_
  refine AT.region ?_   -- region 1 net.go:69
  refine TrC.take rfl (step_fieldAddrP rfl rfl fd30_0 rfl rfl) ?_   -- 0
  refine TrC.take rfl (step_loadP1 rfl rfl rfl ty27 rfl rfl) ?_   -- 1
  refine TrC.take rfl (step_move rfl rfl rfl) ?_   -- 2
  refine TrC.take rfl (step_call rfl rfl (C55 n.fl id k hl hk1 hk2) (.cons (.refl _) (.cons (.refl _) (.cons (.fn _) .nil))) rfl) ?_   -- 3
  refine TrC.take rfl (step_move rfl rfl rfl) ?_   -- 4
  refine TrC.take rfl (step_extract rfl rfl rfl rfl) ?_   -- 5
  refine TrC.take rfl (step_extract rfl rfl rfl rfl) ?_   -- 6
  refine TrC.take rfl (step_assign rfl rfl rfl) ?_   -- 7
  refine TrC.take rfl (step_assign rfl rfl rfl) ?_   -- 8
  refine TrC.done ?_
  refine AT.seq ?_
  refine AT.seq ?_
  refine AT.region ?_   -- region 2 net.go:70
  refine TrC.take rfl (step_move rfl rfl rfl) ?_   -- 0
  refine TrC.take rfl (step_not rfl rfl rfl) ?_   -- 1
  refine TrC.done ?_
  refine AT.cond rfl (fun h16 => ?_) (fun h16 => ?_)   -- t16
  · -- true
    have hs : findIx n id = none := by
      rw [hk3]; cases hg : n.fl[k]? with
      | none => rfl
      | some y => rw [hg] at h16; simp at h16; simp [h16]
    refine AT.seq ?_
    refine AT.region ?_   -- region 3 net.go:71
    refine TrC.take rfl (step_assign rfl rfl rfl) ?_   -- 0
    refine TrC.take rfl (step_assign rfl rfl rfl) ?_   -- 1
    refine TrC.done ?_
    refine AT.ret ?_
    exact Ret.many (.cons (.tmp rfl (conv_i (by rw [hs]))) (.cons (.tmp rfl (conv_i (by rw [hs]))) .nil)) rfl
  · -- false
    have hs : findIx n id = some k := by
      rw [hk3]; cases hg : n.fl[k]? with
      | none => rw [hg] at h16; simp at h16
      | some y => rw [hg] at h16; simp at h16; simp [h16]
    refine AT.skip ?_
    refine AT.seq ?_
    refine AT.region ?_   -- region 4 net.go:73
    refine TrC.take rfl (step_move rfl rfl rfl) ?_   -- 0
    refine TrC.take rfl (step_assign rfl rfl rfl) ?_   -- 1
    refine TrC.take rfl (step_assign rfl rfl rfl) ?_   -- 2
    refine TrC.done ?_
    refine AT.ret ?_
    exact Ret.many (.cons (.tmp rfl (conv_i (by rw [hs]))) (.cons (.tmp rfl (conv_i (by rw [hs]))) .nil)) rfl

theorem C19 (n : Net) (a b : Int) (hl : n.cuts.length ≤ 1000000) (hS : SortC n) : Has Try.prog 19 [encN n, .i a, .i b] (.b (reach n a b)) := by   -- burgage/net.Reach
  obtain ⟨k, hk1, hk2, hk3⟩ := cut_k hS a b
  refine Has.intro 20 Try.func19 (by kernel_rfl) rfl rfl fun w ok => ?_
  refine AT.seq ?_
  refine AT.region ?_   -- region 0 net.go:41
  refine TrC.take rfl (step_box rfl rfl rfl rfl rfl rfl rfl) ?_   -- 0
  refine TrC.take rfl (step_assign rfl rfl rfl) ?_   -- 1
  refine TrC.done ?_
  refine AT.seq ?_
  refine AT.regionD mixed rfl ?_   -- region 1 net.go:42
  refine TrC.take rfl (step_fieldAddrP rfl rfl fd30_1 rfl rfl) ?_   -- 0
  refine TrC.take rfl (step_loadP1 rfl rfl rfl ty28 rfl rfl) ?_   -- 1
  refine TrC.take rfl (step_move rfl rfl rfl) ?_   -- 2
  refine TrC.take rfl (step_move rfl rfl rfl) ?_   -- 3
  refine TrC.take rfl (step_call0 rfl rfl (C35 a b) rfl) ?_   -- 4
  refine TrC.take rfl (step_call rfl rfl (C34 n.cuts (pr a b) k hl hk1 hk2) (.cons (.refl _) (.cons (.refl _) (.cons (.fn _) .nil))) rfl) ?_   -- 5
  refine TrC.take rfl (step_move rfl rfl rfl) ?_   -- 6
  refine TrC.take rfl (step_extract rfl rfl rfl rfl) ?_   -- 7
  refine TrC.take rfl (step_extract rfl rfl rfl rfl) ?_   -- 8
  refine TrC.take rfl (step_assign rfl rfl rfl) ?_   -- 9
  refine TrC.take rfl (step_assign rfl rfl rfl) ?_   -- 10
  refine TrC.doneD rfl ?_
  refine AT.seq ?_
  refine AT.region ?_   -- region 2 net.go:43
  refine TrC.take rfl (step_move rfl rfl rfl) ?_   -- 0
  refine TrC.take rfl (step_not rfl rfl rfl) ?_   -- 1
  refine TrC.take rfl (step_assign rfl rfl rfl) ?_   -- 2
  refine TrC.done ?_
  refine AT.ret ?_
  exact Ret.one rfl (ResR.tmp rfl (conv_b (by
    unfold reach; rw [hk3]; cases hg : n.cuts[k]? with
    | none => rfl
    | some y => by_cases hy : order y (pr a b) = 0 <;> simp [hy])))

theorem C44 (n : Net) (a b : Int) (hp : parts a b = true) (hl : n.fl.length ≤ 1000000) (h0 : -1000000000000 ≤ n.next) : Has Try.prog 44 [encN n, .i a, .i b] (.tup [encN (send n a b).n, .i (send n a b).e]) := by   -- burgage/net.add
  refine Has.intro 34 Try.func44 (by kernel_rfl) rfl rfl fun w ok => ?_
  refine AT.seq ?_
  refine AT.region ?_   -- region 0 net.go:47
  refine TrC.take rfl (step_box rfl rfl rfl rfl rfl rfl rfl) ?_   -- 0
  refine TrC.take rfl (step_allocC rfl rfl ze30 zc30 rfl rfl rfl) ?_   -- 1
  refine TrC.take rfl (step_assign rfl rfl rfl) ?_   -- 2
  refine TrC.done ?_
  refine AT.seq ?_
  refine AT.seq ?_
  refine AT.region ?_   -- region 1 net.go:48
  refine TrC.take rfl (step_fieldAddrP rfl rfl fd30_0 rfl rfl) ?_   -- 0
  refine TrC.take rfl (step_loadP1 rfl rfl rfl ty27 rfl rfl) ?_   -- 1
  refine TrC.take rfl (step_lenT (rt := 0) rfl rfl sl27 rfl) ?_   -- 2
  refine TrC.take rfl (step_bin rfl rfl rfl rfl rfl) ?_   -- 3
  refine TrC.take rfl (step_move rfl rfl rfl) ?_   -- 4
  refine TrC.cases (d := 12) rfl (fun h12 => ?_) (fun h12 => ?_)
  · -- t12 = true
    refine TrC.skip ⟨_, _, rfl, rfl, rfl⟩ ?_   -- 5
    refine TrC.skip ⟨_, _, rfl, rfl, rfl⟩ ?_   -- 6
    refine TrC.skip ⟨_, _, rfl, rfl, rfl⟩ ?_   -- 7
    refine TrC.take rfl (step_pick rfl rfl rfl rfl) ?_   -- 8
    refine TrC.done ?_
    refine AT.condT rfl ?_   -- t16
    refine AT.seq ?_
    have hb : 200 ≤ n.fl.length ∨ 1000000000 ≤ n.next := by first | (have h := h16; simp at h; omega) | (have h := h12; simp at h; omega)
    have hs : send n a b = ⟨n, 0, 2⟩ := by unfold send; rw [if_pos hp, if_pos hb]
    refine AT.region ?_   -- region 2 net.go:49
    refine TrC.take rfl (step_loadPN rfl rfl rfl ty30 rfl rfl rfl) ?_   -- 0
    refine TrC.take rfl (step_storeP rfl rfl rfl rfl rfl (.inl rfl) ty30 rfl rfl rfl) ?_   -- 1
    refine TrC.take rfl (step_assign rfl rfl rfl) ?_   -- 2
    refine TrC.done ?_
    refine AT.ret ?_
    exact Ret.many (.cons (.cellN rfl rfl ty30 rfl rfl (conv_eq (by rw [hs]; simp [encN, encP]))) (.cons (.tmp rfl (conv_i (by rw [hs]))) .nil)) rfl
  · -- t12 = false
    refine TrC.take ⟨_, _, rfl, rfl, rfl⟩ (step_fieldAddrP rfl rfl fd30_2 rfl rfl) ?_   -- 5
    refine TrC.take ⟨_, _, rfl, rfl, rfl⟩ (step_loadP1 rfl rfl rfl ty3 rfl rfl) ?_   -- 6
    refine TrC.take ⟨_, _, rfl, rfl, rfl⟩ (step_bin rfl rfl rfl rfl rfl) ?_   -- 7
    refine TrC.take rfl (step_pick rfl rfl rfl rfl) ?_   -- 8
    refine TrC.done ?_
    refine AT.cond rfl (fun h16 => ?_) (fun h16 => ?_)   -- t16
    · -- true
      refine AT.seq ?_
      have hb : 200 ≤ n.fl.length ∨ 1000000000 ≤ n.next := by first | (have h := h16; simp at h; omega) | (have h := h12; simp at h; omega)
      have hs : send n a b = ⟨n, 0, 2⟩ := by unfold send; rw [if_pos hp, if_pos hb]
      refine AT.region ?_   -- region 2 net.go:49
      refine TrC.take rfl (step_loadPN rfl rfl rfl ty30 rfl rfl rfl) ?_   -- 0
      refine TrC.take rfl (step_storeP rfl rfl rfl rfl rfl (.inl rfl) ty30 rfl rfl rfl) ?_   -- 1
      refine TrC.take rfl (step_assign rfl rfl rfl) ?_   -- 2
      refine TrC.done ?_
      refine AT.ret ?_
      exact Ret.many (.cons (.cellN rfl rfl ty30 rfl rfl (conv_eq (by rw [hs]; simp [encN, encP]))) (.cons (.tmp rfl (conv_i (by rw [hs]))) .nil)) rfl
    · -- false
      have hlt : n.next < 1000000000 := by simpa using h16
      refine AT.skip ?_
      refine AT.seq ?_
      have hb : ¬ (200 ≤ n.fl.length ∨ 1000000000 ≤ n.next) := by have h := h12; simp at h; omega
      have hs : send n a b = ⟨⟨n.fl ++ [⟨n.next, a, b⟩], n.cuts, n.next + 1⟩, n.next, 0⟩ := by unfold send; rw [if_pos hp, if_neg hb]
      refine AT.regionD mixed rfl ?_   -- region 3 net.go:51
      refine TrC.take rfl (step_fieldAddrP rfl rfl fd30_0 rfl rfl) ?_   -- 0
      refine TrC.take rfl (step_loadP1 rfl rfl rfl ty27 rfl rfl) ?_   -- 1
      refine TrC.take rfl (step_callH0 rfl rfl rfl (C50 (n.fl.map encP) (by simp; omega)) rfl rfl) ?_   -- 2
      refine TrC.take rfl (step_fieldAddrP rfl rfl fd30_2 rfl rfl) ?_   -- 3
      refine TrC.take rfl (step_loadP1 rfl rfl rfl ty3 rfl rfl) ?_   -- 4
      refine TrC.take rfl (step_move rfl rfl rfl) ?_   -- 5
      refine TrC.take rfl (step_move rfl rfl rfl) ?_   -- 6
      refine TrC.take rfl (step_buildS rfl ze25 rfl pl25 rfl rfl rfl rfl) ?_   -- 7
      refine TrC.take rfl (step_buildSliceT rfl sl27 ze25 rfl rfl rfl rfl rfl rfl rfl rfl rfl rfl rfl rfl) ?_   -- 8
      refine TrC.take rfl (Step.toT (step_append rfl rfl rfl rfl rfl (.refl _) sl27 ze25 rfl rfl rfl (by first | (simp; done) | (simp; omega) | omega) rfl rfl) rfl) ?_   -- 9
      refine TrC.take rfl (step_fieldAddrP rfl rfl fd30_0 rfl rfl) ?_   -- 10
      refine TrC.take rfl (step_storeP rfl rfl rfl rfl rfl (.inl rfl) ty27 rfl rfl rfl) ?_   -- 11
      refine TrC.doneD rfl ?_
      refine AT.seq ?_
      refine AT.region ?_   -- region 4 net.go:52
      refine TrC.take rfl (step_fieldAddrP rfl rfl fd30_2 rfl rfl) ?_   -- 0
      refine TrC.take rfl (step_loadP1 rfl rfl rfl ty3 rfl rfl) ?_   -- 1
      refine TrC.take rfl (step_addI rfl rfl rfl (by omega) (by omega) rfl) ?_   -- 2
      refine TrC.take rfl (step_fieldAddrP rfl rfl fd30_2 rfl rfl) ?_   -- 3
      refine TrC.take rfl (step_storeP rfl rfl rfl rfl rfl (.inl rfl) ty3 rfl rfl rfl) ?_   -- 4
      refine TrC.done ?_
      refine AT.seq ?_
      refine AT.region ?_   -- region 5 net.go:53
      refine TrC.take rfl (step_loadPN rfl rfl rfl ty30 rfl rfl rfl) ?_   -- 0
      refine TrC.take rfl (step_storeP rfl rfl rfl rfl rfl (.inl rfl) ty30 rfl rfl rfl) ?_   -- 1
      refine TrC.take rfl (step_assign rfl rfl rfl) ?_   -- 2
      refine TrC.done ?_
      refine AT.ret ?_
      exact Ret.many (.cons (.cellN rfl rfl ty30 rfl rfl (conv_eq (by rw [hs]; simp [encN, encP]))) (.cons (.tmp rfl (conv_i (by rw [hs]))) .nil)) rfl

end Go.Proofs.Ytnemmdbafngppaa.Net
