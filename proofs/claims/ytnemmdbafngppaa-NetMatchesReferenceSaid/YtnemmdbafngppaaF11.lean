/- Contracts of functions of this translation. Printed by wip/tools/gen.py out of wip/net/ann.py. No condition. -/
import Derived.Test.YtnemmdbafngppaaF10
set_option linter.unusedVariables false
set_option linter.unusedSimpArgs false
namespace Go.Proofs.Ytnemmdbafngppaa.Net
open Go.Proofs.Ytnemmdbafngppaa.Abs
set_option maxRecDepth 100000
set_option maxHeartbeats 4000000
theorem C40 (n : Net) (a b : Int) (hl : n.cuts.length ≤ 1000000) (hS : SortC n) : Has Try.prog 40 [encN n, .i a, .i b] (.tup [encN (sever n a b).n, .i (sever n a b).e]) := by   -- burgage/net.Sever
  obtain ⟨k, hk1, hk2, hk3⟩ := cut_k hS a b
  refine Has.intro 44 Try.func40 (by kernel_rfl) rfl rfl fun w ok => ?_
  refine AT.seq ?_
  refine AT.region ?_   -- region 0 net.go:106
  refine TrC.take rfl (step_box rfl rfl rfl rfl rfl rfl rfl) ?_   -- 0
  refine TrC.take rfl (step_allocC rfl rfl ze30 zc30 rfl rfl rfl) ?_   -- 1
  refine TrC.take rfl (step_assign rfl rfl rfl) ?_   -- 2
  refine TrC.done ?_
  refine AT.seq ?_
  refine AT.seq ?_
  refine AT.region ?_   -- region 1 net.go:107
  refine TrC.take rfl (step_move rfl rfl rfl) ?_   -- 0
  refine TrC.take rfl (step_move rfl rfl rfl) ?_   -- 1
  refine TrC.take rfl (step_call0 rfl rfl (C43 a b) rfl) ?_   -- 2
  refine TrC.take rfl (step_not rfl rfl rfl) ?_   -- 3
  refine TrC.done ?_
  refine AT.cond rfl (fun h13 => ?_) (fun h13 => ?_)   -- t13
  · -- true
    refine AT.seq ?_
    have hs : sever n a b = ⟨n, p0, 1⟩ := by unfold sever; rw [if_neg (by simpa using h13)]
    refine AT.region ?_   -- region 2 net.go:108
    refine TrC.take rfl (step_loadPN rfl rfl rfl ty30 rfl rfl rfl) ?_   -- 0
    refine TrC.take rfl (step_storeP rfl rfl rfl rfl rfl (.inl rfl) ty30 rfl rfl rfl) ?_   -- 1
    refine TrC.take rfl (step_assign rfl rfl rfl) ?_   -- 2
    refine TrC.done ?_
    refine AT.ret ?_
    exact Ret.many (.cons (.cellN rfl rfl ty30 rfl rfl (conv_eq (by rw [hs]; rfl))) (.cons (.tmp rfl (conv_i (by rw [hs]))) (.nil))) rfl
  · -- false
    refine AT.skip ?_
    refine AT.seq ?_
    have hp : parts a b = true := by simpa using h13
    refine AT.regionD mixed rfl ?_   -- region 3 net.go:110
    refine TrC.take rfl (step_fieldAddrP rfl rfl fd30_1 rfl rfl) ?_   -- 0
    refine TrC.take rfl (step_loadP1 rfl rfl rfl ty28 rfl rfl) ?_   -- 1
    refine TrC.take rfl (step_move rfl rfl rfl) ?_   -- 2
    refine TrC.take rfl (step_move rfl rfl rfl) ?_   -- 3
    refine TrC.take rfl (step_call0 rfl rfl (C35 a b) rfl) ?_   -- 4
    refine TrC.take rfl (step_call rfl rfl (C34 n.cuts (pr a b) k hl hk1 hk2) (.cons (.refl _) (.cons (.refl _) (.cons (.fn _) .nil))) rfl) ?_   -- 5
    refine TrC.take rfl (step_move rfl rfl rfl) ?_   -- 6
    refine TrC.take rfl (step_extract rfl rfl rfl rfl) ?_   -- 7
    refine TrC.take rfl (step_extract rfl rfl rfl rfl) ?_   -- 8
    refine TrC.take rfl (step_assign rfl rfl rfl) ?_   -- 9
    refine TrC.take rfl (step_assign rfl rfl rfl) ?_   -- 10
    refine TrC.doneD rfl ?_
    refine AT.seq ?_
    refine AT.block ?_   -- block 0
    refine AT.seq ?_
    refine AT.region ?_   -- region 4 net.go:112
    refine TrC.take rfl (step_move rfl rfl rfl) ?_   -- 0
    refine TrC.take rfl (step_assign rfl rfl rfl) ?_   -- 1
    refine TrC.done ?_
    refine AT.cond rfl (fun h24 => ?_) (fun h24 => ?_)   -- t24
    · -- true
      have hr : ¬ reach n a b = true := sever_no hk3 h24
      have hs : sever n a b = ⟨n, p0, 0⟩ := by unfold sever; rw [if_pos hp, if_neg hr]
      refine AT.seq ?_
      refine AT.region ?_   -- region 5 net.go:113
      refine TrC.take rfl (step_loadPN rfl rfl rfl ty30 rfl rfl rfl) ?_   -- 0
      refine TrC.take rfl (step_storeP rfl rfl rfl rfl rfl (.inl rfl) ty30 rfl rfl rfl) ?_   -- 1
      refine TrC.take rfl (step_assign rfl rfl rfl) ?_   -- 2
      refine TrC.done ?_
      refine AT.ret ?_
      exact Ret.many (.cons (.cellN rfl rfl ty30 rfl rfl (conv_eq (by rw [hs]; rfl))) (.cons (.tmp rfl (conv_i (by rw [hs]))) (.nil))) rfl
    · -- false
      have hr : reach n a b = true := sever_yes hk3 h24
      refine AT.seq ?_
      refine AT.region ?_   -- region 6 net.go:114
      refine TrC.take rfl (step_fieldAddrP rfl rfl fd30_1 rfl rfl) ?_   -- 0
      refine TrC.take rfl (step_loadP1 rfl rfl rfl ty28 rfl rfl) ?_   -- 1
      refine TrC.take rfl (step_lenT (rt := 0) rfl rfl sl28 rfl) ?_   -- 2
      refine TrC.take rfl (step_bin rfl rfl rfl rfl rfl) ?_   -- 3
      refine TrC.take rfl (step_assign rfl rfl rfl) ?_   -- 4
      refine TrC.done ?_
      refine AT.cond rfl (fun h27 => ?_) (fun h27 => ?_)   -- t27
      · -- true
        have hs : sever n a b = ⟨n, p0, 2⟩ := by unfold sever; rw [if_pos hp, if_pos hr, if_pos (by have h := h27; simp at h; omega)]
        refine AT.seq ?_
        refine AT.region ?_   -- region 7 net.go:115
        refine TrC.take rfl (step_loadPN rfl rfl rfl ty30 rfl rfl rfl) ?_   -- 0
        refine TrC.take rfl (step_storeP rfl rfl rfl rfl rfl (.inl rfl) ty30 rfl rfl rfl) ?_   -- 1
        refine TrC.take rfl (step_assign rfl rfl rfl) ?_   -- 2
        refine TrC.done ?_
        refine AT.ret ?_
        exact Ret.many (.cons (.cellN rfl rfl ty30 rfl rfl (conv_eq (by rw [hs]; rfl))) (.cons (.tmp rfl (conv_i (by rw [hs]))) (.nil))) rfl
      · -- false
        have hx : insAt n.cuts (pr a b) = k := insAt_k hk1 hk2
        have hs : sever n a b = ⟨⟨n.fl, n.cuts.take k ++ pr a b :: n.cuts.drop k, n.next⟩, p0, 0⟩ := by unfold sever; rw [if_pos hp, if_pos hr, if_neg (by have h := h27; simp at h; omega), hx]
        refine AT.skip ?_
        refine AT.seq ?_
        refine AT.region ?_   -- region 8 net.go:117
        refine TrC.take rfl (step_fieldAddrP rfl rfl fd30_1 rfl rfl) ?_   -- 0
        refine TrC.take rfl (step_loadP1 rfl rfl rfl ty28 rfl rfl) ?_   -- 1
        refine TrC.take rfl (step_callH0 rfl rfl rfl (C52 (n.cuts.map encC) (by simp; omega)) rfl rfl) ?_   -- 2
        refine TrC.take rfl (step_move rfl rfl rfl) ?_   -- 3
        refine TrC.take rfl (step_move rfl rfl rfl) ?_   -- 4
        refine TrC.take rfl (step_move rfl rfl rfl) ?_   -- 5
        refine TrC.take rfl (step_call0 rfl rfl (C35 a b) rfl) ?_   -- 6
        refine TrC.take rfl (step_buildSliceH rfl rfl sl28 ze32 rfl rfl rfl rfl rfl rfl rfl rfl rfl rfl rfl rfl rfl) ?_   -- 7
        refine TrC.take rfl (step_callG (ml := [(35, _), (40, _)]) rfl (PassL.refl _) ⟨rfl, rfl, trivial⟩ ((C51 (n.cuts.map encC) k (encC (pr a b)) (by simpa using hk1) (by simp; omega)).toT.pre [(100, 35), (102, 40)] rfl (.cons (.h rfl) (.cons (.t (.refl _)) (.cons (.h rfl) .nil))) (.cons rfl (.row rfl) (.cons rfl (.row rfl) .nil)) rfl) rfl rfl rfl rfl rfl) ?_   -- 8
        refine TrC.take rfl (step_fieldAddrP rfl rfl fd30_1 rfl rfl) ?_   -- 9
        refine TrC.take rfl (step_storeP rfl rfl rfl rfl rfl (.inl rfl) ty28 rfl rfl rfl) ?_   -- 10
        refine TrC.done ?_
        refine AT.seq ?_
        refine AT.region ?_   -- region 9 net.go:118
        refine TrC.take rfl (step_loadPN rfl rfl rfl ty30 rfl rfl rfl) ?_   -- 0
        refine TrC.take rfl (step_storeP rfl rfl rfl rfl rfl (.inl rfl) ty30 rfl rfl rfl) ?_   -- 1
        refine TrC.take rfl (step_assign rfl rfl rfl) ?_   -- 2
        refine TrC.done ?_
        refine AT.ret ?_
        exact Ret.many (.cons (.cellN rfl rfl ty30 rfl rfl (conv_eq (by rw [hs]; simp [encN, List.map_take, List.map_drop]))) (.cons (.tmp rfl (conv_i (by rw [hs]))) (.nil))) rfl

end Go.Proofs.Ytnemmdbafngppaa.Net
