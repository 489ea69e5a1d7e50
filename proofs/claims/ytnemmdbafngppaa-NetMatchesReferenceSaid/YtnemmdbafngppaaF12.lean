/- Contracts of functions of this translation. Printed by wip/tools/gen.py out of wip/net/ann.py. No condition. -/
import Derived.Test.YtnemmdbafngppaaF11
import Derived.Test.YtnemmdbafngppaaAbs22
set_option linter.unusedVariables false
set_option linter.unusedSimpArgs false
namespace Go.Proofs.Ytnemmdbafngppaa.Net
open Go.Proofs.Ytnemmdbafngppaa.Abs
set_option maxRecDepth 100000
set_option maxHeartbeats 4000000
theorem C54 (c : Int × Int) (a b : Int) : Has Try.prog 54 [encC c, .ptr [.i a], .ptr [.i b]] (.b (decide (c = pr a b))) := by   -- burgage/net.Heal$1
  refine Has.intro 10 Try.func54 (by kernel_rfl) rfl rfl fun w ok => ?_
  refine AT.seq ?_
  refine AT.region ?_   -- region 0 net.go:125
  refine TrC.take rfl (step_box rfl rfl rfl rfl rfl rfl rfl) ?_   -- 0
  refine TrC.take rfl (step_assign rfl rfl rfl) ?_   -- 1
  refine TrC.done ?_
  refine AT.seq ?_
  refine AT.regionD mixed rfl ?_   -- region 1 net.go:125
  refine TrC.take rfl (step_loadPN rfl rfl rfl ty32 rfl rfl rfl) ?_   -- 0
  first | refine TrC.take rfl (step_loadP1 rfl rfl rfl ty3 rfl rfl) ?_ | refine TrC.take rfl (step_loadT1 rfl rfl ty3 rfl rfl) ?_ | refine TrC.take rfl (step_loadE1 rfl rfl rfl HOFF ty3 HV rfl rfl) ?_   -- 1
  first | refine TrC.take rfl (step_loadP1 rfl rfl rfl ty3 rfl rfl) ?_ | refine TrC.take rfl (step_loadT1 rfl rfl ty3 rfl rfl) ?_ | refine TrC.take rfl (step_loadE1 rfl rfl rfl HOFF ty3 HV rfl rfl) ?_   -- 2
  refine TrC.take rfl (step_call0 rfl rfl (C35 a b) rfl) ?_   -- 3
  refine TrC.take rfl (step_eqa rfl rfl rfl rfl rfl ty32 eg32 (eq32 _ _ _ _) rfl) ?_   -- 4
  refine TrC.take rfl (step_assign rfl rfl rfl) ?_   -- 5
  refine TrC.doneD rfl ?_
  refine AT.ret ?_
  exact Ret.one rfl (ResR.tmp rfl (conv_b (by rw [Bool.eq_iff_iff]; simp [pr, Prod.ext_iff])))

theorem C41 (n : Net) (a b : Int) (hl : n.cuts.length ≤ 1000000) (hS : SortC n) : Has Try.prog 41 [encN n, .i a, .i b] (.tup [encN (heal n a b).n, .i (heal n a b).e]) := by   -- burgage/net.Heal
  refine Has.intro 20 Try.func41 (by kernel_rfl) rfl rfl fun w ok => ?_
  refine AT.seq ?_
  refine AT.region ?_   -- region 0 net.go:121
  refine TrC.take rfl (step_box rfl rfl rfl rfl rfl rfl rfl) ?_   -- 0
  refine TrC.take rfl (step_box rfl rfl rfl rfl rfl rfl rfl) ?_   -- 1
  refine TrC.take rfl (step_box rfl rfl rfl rfl rfl rfl rfl) ?_   -- 2
  refine TrC.take rfl (step_allocC rfl rfl ze30 zc30 rfl rfl rfl) ?_   -- 3
  refine TrC.take rfl (step_assign rfl rfl rfl) ?_   -- 4
  refine TrC.done ?_
  refine AT.seq ?_
  refine AT.seq ?_
  refine AT.region ?_   -- region 1 net.go:122
  refine TrC.take rfl (step_loadP1 rfl rfl rfl ty3 rfl rfl) ?_   -- 0
  refine TrC.take rfl (step_loadP1 rfl rfl rfl ty3 rfl rfl) ?_   -- 1
  refine TrC.take rfl (step_call0 rfl rfl (C43 a b) rfl) ?_   -- 2
  refine TrC.take rfl (step_not rfl rfl rfl) ?_   -- 3
  refine TrC.done ?_
  refine AT.cond rfl (fun h11 => ?_) (fun h11 => ?_)   -- t11
  · -- true
    refine AT.seq ?_
    have hs : heal n a b = ⟨n, p0, 1⟩ := by unfold heal; rw [if_neg (by simpa using h11)]
    refine AT.region ?_   -- region 2 net.go:123
    refine TrC.take rfl (step_loadPN rfl rfl rfl ty30 rfl rfl rfl) ?_   -- 0
    refine TrC.take rfl (step_storeP rfl rfl rfl rfl rfl (.inl rfl) ty30 rfl rfl rfl) ?_   -- 1
    refine TrC.take rfl (step_assign rfl rfl rfl) ?_   -- 2
    refine TrC.done ?_
    refine AT.ret ?_
    exact Ret.many (.cons (.cellN rfl rfl ty30 rfl rfl (conv_eq (by rw [hs]; rfl))) (.cons (.tmp rfl (conv_i (by rw [hs]))) (.nil))) rfl
  · -- false
    refine AT.skip ?_
    refine AT.seq ?_
    have hp : parts a b = true := by simpa using h11
    have hs := heal_filter hp hS
    refine AT.region ?_   -- region 3 net.go:125
    refine TrC.take rfl (step_fieldAddrP rfl rfl fd30_1 rfl rfl) ?_   -- 0
    refine TrC.take rfl (step_loadP1 rfl rfl rfl ty28 rfl rfl) ?_   -- 1
    refine TrC.take rfl (step_callH0 rfl rfl rfl (C52 (n.cuts.map encC) (by simp; omega)) rfl rfl) ?_   -- 2
    refine TrC.take rfl (step_makeFuncP [4, 5] rfl rfl (.cons rfl rfl (.cons rfl rfl .nil)) rfl rfl rfl) ?_   -- 3
    refine TrC.take rfl (step_callG (ml := [(15, _)]) rfl (PassL.refl _) ⟨rfl, trivial⟩ ((C53 (n.cuts.map encC) 54 [.ptr [.i a], .ptr [.i b]] (isC (pr a b)) (by simp; omega) (fun x hx => by obtain ⟨c, _, rfl⟩ := List.mem_map.1 hx; exact ⟨_, rfl, rfl⟩) (fun x hx => by obtain ⟨c, _, rfl⟩ := List.mem_map.1 hx; exact C54 c a b)).toT.pre [(100, 15)] rfl (.cons (.h rfl) (.cons (.t (.refl _)) .nil)) (.cons rfl (.row rfl) .nil) rfl) rfl rfl rfl rfl rfl) ?_   -- 4
    refine TrC.take rfl (step_fieldAddrP rfl rfl fd30_1 rfl rfl) ?_   -- 5
    refine TrC.take rfl (step_storeP rfl rfl rfl rfl rfl (.inl rfl) ty28 rfl rfl rfl) ?_   -- 6
    refine TrC.done ?_
    refine AT.seq ?_
    refine AT.region ?_   -- region 4 net.go:126
    refine TrC.take rfl (step_loadPN rfl rfl rfl ty30 rfl rfl rfl) ?_   -- 0
    refine TrC.take rfl (step_storeP rfl rfl rfl rfl rfl (.inl rfl) ty30 rfl rfl rfl) ?_   -- 1
    refine TrC.take rfl (step_assign rfl rfl rfl) ?_   -- 2
    refine TrC.done ?_
    refine AT.ret ?_
    exact Ret.many (.cons (.cellN rfl rfl ty30 rfl rfl (conv_eq (by rw [hs]; simp [encN, filter_enc]))) (.cons (.tmp rfl (conv_i (by rw [hs]))) (.nil))) rfl

end Go.Proofs.Ytnemmdbafngppaa.Net
