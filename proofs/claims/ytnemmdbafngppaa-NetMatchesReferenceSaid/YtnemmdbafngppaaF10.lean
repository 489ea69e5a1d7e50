/- Contracts of functions of this translation. Printed by wip/tools/gen.py out of wip/net/ann.py. No condition. -/
import Derived.Test.YtnemmdbafngppaaF9
set_option linter.unusedVariables false
set_option linter.unusedSimpArgs false
namespace Go.Proofs.Ytnemmdbafngppaa.Net
open Go.Proofs.Ytnemmdbafngppaa.Abs
set_option maxRecDepth 100000
set_option maxHeartbeats 4000000
theorem C29 (n : Net) (a b : Int) (hl : n.fl.length ≤ 1000000) (h0 : -1000000000000 ≤ n.next) : Has Try.prog 29 [encN n, .i a, .i b] (.tup [encN (send n a b).n, .i (send n a b).id, .i (send n a b).e]) := by   -- burgage/net.Send
  refine Has.intro 30 Try.func29 (by kernel_rfl) rfl rfl fun w ok => ?_
  refine AT.seq ?_
  refine AT.region ?_   -- region 0 net.go:56
  refine TrC.take rfl (step_box rfl rfl rfl rfl rfl rfl rfl) ?_   -- 0
  refine TrC.take rfl (step_allocC rfl rfl ze30 zc30 rfl rfl rfl) ?_   -- 1
  refine TrC.take rfl (step_assign rfl rfl rfl) ?_   -- 2
  refine TrC.take rfl (step_assign rfl rfl rfl) ?_   -- 3
  refine TrC.done ?_
  refine AT.seq ?_
  refine AT.seq ?_
  refine AT.region ?_   -- region 1 net.go:57
  refine TrC.take rfl (step_move rfl rfl rfl) ?_   -- 0
  refine TrC.take rfl (step_move rfl rfl rfl) ?_   -- 1
  refine TrC.take rfl (step_call0 rfl rfl (C43 a b) rfl) ?_   -- 2
  refine TrC.take rfl (step_not rfl rfl rfl) ?_   -- 3
  refine TrC.done ?_
  refine AT.cond rfl (fun h14 => ?_) (fun h14 => ?_)   -- t14
  · -- true
    have hs : send n a b = ⟨n, 0, 1⟩ := by unfold send; rw [if_neg (by simpa using h14)]
    refine AT.seq ?_
    refine AT.region ?_   -- region 2 net.go:58
    refine TrC.take rfl (step_loadPN rfl rfl rfl ty30 rfl rfl rfl) ?_   -- 0
    refine TrC.take rfl (step_storeP rfl rfl rfl rfl rfl (.inl rfl) ty30 rfl rfl rfl) ?_   -- 1
    refine TrC.take rfl (step_assign rfl rfl rfl) ?_   -- 2
    refine TrC.take rfl (step_assign rfl rfl rfl) ?_   -- 3
    refine TrC.done ?_
    refine AT.ret ?_
    exact Ret.many (.cons (.cellN rfl rfl ty30 rfl rfl (conv_eq (by rw [hs]; rfl))) (.cons (.tmp rfl (conv_i (by rw [hs]))) (.cons (.tmp rfl (conv_i (by rw [hs]))) (.nil)))) rfl
  · -- false
    have hp : parts a b = true := by simpa using h14
    refine AT.skip ?_
    refine AT.seq ?_
    refine AT.region ?_   -- region 3 net.go:60
    refine TrC.take rfl (step_loadPN rfl rfl rfl ty30 rfl rfl rfl) ?_   -- 0
    refine TrC.take rfl (step_move rfl rfl rfl) ?_   -- 1
    refine TrC.take rfl (step_move rfl rfl rfl) ?_   -- 2
    refine TrC.take rfl (step_call0 rfl rfl (C44 n a b hp hl h0) rfl) ?_   -- 3
    refine TrC.take rfl (step_move rfl rfl rfl) ?_   -- 4
    refine TrC.take rfl (step_extract rfl rfl rfl rfl) ?_   -- 5
    refine TrC.take rfl (step_extract rfl rfl rfl rfl) ?_   -- 6
    refine TrC.take rfl (step_allocC rfl rfl ze30 zc30 rfl rfl rfl) ?_   -- 7
    refine TrC.take rfl (step_storeP rfl rfl rfl rfl rfl (.inl rfl) ty30 rfl rfl rfl) ?_   -- 8
    refine TrC.take rfl (step_assign rfl rfl rfl) ?_   -- 9
    refine TrC.done ?_
    refine AT.seq ?_
    refine AT.seq ?_
    refine AT.region ?_   -- region 4 net.go:61
    refine TrC.take rfl (step_move rfl rfl rfl) ?_   -- 0
    refine TrC.take rfl (step_bin rfl rfl rfl rfl rfl) ?_   -- 1
    refine TrC.done ?_
    refine AT.cond rfl (fun h24 => ?_) (fun h24 => ?_)   -- t24
    · -- true
      have hs : send n a b = ⟨n, 0, (send n a b).e⟩ := send_err hp (by simpa using h24)
      refine AT.seq ?_
      refine AT.region ?_   -- region 5 net.go:62
      refine TrC.take rfl (step_loadPN rfl rfl rfl ty30 rfl rfl rfl) ?_   -- 0
      refine TrC.take rfl (step_move rfl rfl rfl) ?_   -- 1
      refine TrC.take rfl (step_storeP rfl rfl rfl rfl rfl (.inl rfl) ty30 rfl rfl rfl) ?_   -- 2
      refine TrC.take rfl (step_assign rfl rfl rfl) ?_   -- 3
      refine TrC.take rfl (step_assign rfl rfl rfl) ?_   -- 4
      refine TrC.done ?_
      refine AT.ret ?_
      exact Ret.many (.cons (.cellN rfl rfl ty30 rfl rfl (conv_eq (by rw [hs]; rfl))) (.cons (.tmp rfl (conv_i (by rw [hs]))) (.cons (.tmp rfl (.refl _)) (.nil)))) rfl
    · -- false
      have hs : (send n a b).id = n.next ∧ (send n a b).e = 0 := send_ok hp (by simpa using h24)
      refine AT.skip ?_
      refine AT.seq ?_
      refine AT.regionD mixed rfl ?_   -- region 6 net.go:64
      refine TrC.take rfl (step_loadPN rfl rfl rfl ty30 rfl rfl rfl) ?_   -- 0
      refine TrC.take rfl (step_fieldAddrP rfl rfl fd30_2 rfl rfl) ?_   -- 1
      refine TrC.take rfl (step_loadP1 rfl rfl rfl ty3 rfl rfl) ?_   -- 2
      refine TrC.take rfl (step_storeP rfl rfl rfl rfl rfl (.inl rfl) ty30 rfl rfl rfl) ?_   -- 3
      refine TrC.take rfl (step_assign rfl rfl rfl) ?_   -- 4
      refine TrC.take rfl (step_assign rfl rfl rfl) ?_   -- 5
      refine TrC.doneD rfl ?_
      refine AT.ret ?_
      exact Ret.many (.cons (.cellN rfl rfl ty30 rfl rfl (.refl _)) (.cons (.tmp rfl (conv_i hs.1.symm)) (.cons (.tmp rfl (conv_i hs.2.symm)) (.nil)))) rfl

theorem C38 (n : Net) (id : Int) (hl : n.fl.length ≤ 1000000) (hS : SortP n) : Has Try.prog 38 [encN n, .i id] (.tup [encN (lose n id).n, .i (lose n id).e]) := by   -- burgage/net.Lose
  refine Has.intro 27 Try.func38 (by kernel_rfl) rfl rfl fun w ok => ?_
  refine AT.seq ?_
  refine AT.region ?_   -- region 0 net.go:89
  refine TrC.take rfl (step_box rfl rfl rfl rfl rfl rfl rfl) ?_   -- 0
  refine TrC.take rfl (step_allocC rfl rfl ze30 zc30 rfl rfl rfl) ?_   -- 1
  refine TrC.take rfl (step_assign rfl rfl rfl) ?_   -- 2
  refine TrC.done ?_
  refine AT.seq ?_
  refine AT.region ?_   -- region 1 net.go:90
  refine TrC.take rfl (step_loadPN rfl rfl rfl ty30 rfl rfl rfl) ?_   -- 0
  refine TrC.take rfl (step_move rfl rfl rfl) ?_   -- 1
  refine TrC.take rfl (step_call0 rfl rfl (C46 n id hl hS) rfl) ?_   -- 2
  refine TrC.take rfl (step_move rfl rfl rfl) ?_   -- 3
  refine TrC.take rfl (step_extract rfl rfl rfl rfl) ?_   -- 4
  refine TrC.take rfl (step_extract rfl rfl rfl rfl) ?_   -- 5
  refine TrC.take rfl (step_assign rfl rfl rfl) ?_   -- 6
  refine TrC.take rfl (step_assign rfl rfl rfl) ?_   -- 7
  refine TrC.done ?_
  refine AT.seq ?_
  refine AT.seq ?_
  refine AT.region ?_   -- region 2 net.go:91
  refine TrC.take rfl (step_move rfl rfl rfl) ?_   -- 0
  refine TrC.take rfl (step_bin rfl rfl rfl rfl rfl) ?_   -- 1
  refine TrC.done ?_
  refine AT.cond rfl (fun h15 => ?_) (fun h15 => ?_)   -- t15
  · -- true
    have hf : findIx n id = none := by cases hg : findIx n id with
      | none => rfl
      | some i => rw [hg] at h15; simp at h15
    have hs : lose n id = ⟨n, p0, 90⟩ := by unfold lose; rw [hf]
    refine AT.seq ?_
    refine AT.region ?_   -- region 3 net.go:92
    refine TrC.take rfl (step_loadPN rfl rfl rfl ty30 rfl rfl rfl) ?_   -- 0
    refine TrC.take rfl (step_move rfl rfl rfl) ?_   -- 1
    refine TrC.take rfl (step_storeP rfl rfl rfl rfl rfl (.inl rfl) ty30 rfl rfl rfl) ?_   -- 2
    refine TrC.take rfl (step_assign rfl rfl rfl) ?_   -- 3
    refine TrC.done ?_
    refine AT.ret ?_
    exact Ret.many (.cons (.cellN rfl rfl ty30 rfl rfl (conv_eq (by rw [hs]; rfl))) (.cons (.tmp rfl (conv_i (by rw [hs, hf]))) (.nil))) rfl
  · -- false
    obtain ⟨i, hf, hi⟩ : ∃ i, findIx n id = some i ∧ i < n.fl.length := by
      cases hg : findIx n id with
      | none => rw [hg] at h15; simp at h15
      | some i => exact ⟨i, rfl, (List.findIdx?_eq_some_iff_getElem.1 hg).1⟩
    refine AT.spell 6 rfl (show T.v (.int .i64 (match findIx n id with | some i => (i : Int) | none => 0)) = .v (.int .i64 i) by rw [hf]) ?_
    have hs : lose n id = ⟨without n i, p0, 0⟩ := by unfold lose; rw [hf]
    refine AT.skip ?_
    refine AT.seq ?_
    refine AT.region ?_   -- region 4 net.go:94
    refine TrC.take rfl (step_fieldAddrP rfl rfl fd30_0 rfl rfl) ?_   -- 0
    refine TrC.take rfl (step_loadP1 rfl rfl rfl ty27 rfl rfl) ?_   -- 1
    refine TrC.take rfl (step_callH0 rfl rfl rfl (C50 (n.fl.map encP) (by simp; omega)) rfl rfl) ?_   -- 2
    refine TrC.take rfl (step_move rfl rfl rfl) ?_   -- 3
    refine TrC.take rfl (step_move rfl rfl rfl) ?_   -- 4
    refine TrC.take rfl (step_addI rfl rfl rfl (by omega) (by omega) rfl) ?_   -- 5
    refine TrC.take rfl (step_callG (ml := [(20, _)]) rfl (PassL.refl _) ⟨rfl, trivial⟩ ((C49 (n.fl.map encP) i (i + 1) (by omega) (by simp; omega)).toT.pre [(100, 20)] rfl (.cons (.h rfl) (.cons (.t (.refl _)) (.cons (.t (conv_i (by simp))) .nil))) (.cons rfl (.row rfl) .nil) rfl) rfl rfl rfl rfl rfl) ?_   -- 6
    refine TrC.take rfl (step_fieldAddrP rfl rfl fd30_0 rfl rfl) ?_   -- 7
    refine TrC.take rfl (step_storeP rfl rfl rfl rfl rfl (.inl rfl) ty27 rfl rfl rfl) ?_   -- 8
    refine TrC.done ?_
    refine AT.seq ?_
    refine AT.region ?_   -- region 5 net.go:95
    refine TrC.take rfl (step_loadPN rfl rfl rfl ty30 rfl rfl rfl) ?_   -- 0
    refine TrC.take rfl (step_storeP rfl rfl rfl rfl rfl (.inl rfl) ty30 rfl rfl rfl) ?_   -- 1
    refine TrC.take rfl (step_assign rfl rfl rfl) ?_   -- 2
    refine TrC.done ?_
    refine AT.ret ?_
    exact Ret.many (.cons (.cellN rfl rfl ty30 rfl rfl (conv_eq (by rw [hs]; simp [encN, without, List.map_take, List.map_drop]))) (.cons (.tmp rfl (conv_i (by rw [hs]))) (.nil))) rfl

theorem C31 (n : Net) (id : Int) (hl : n.fl.length ≤ 1000000) (hc : n.cuts.length ≤ 1000000) (hS : SortP n) (hC : SortC n) : Has Try.prog 31 [encN n, .i id] (.tup [encN (take n id).n, encP (take n id).p, .i (take n id).e]) := by   -- burgage/net.Take
  refine Has.intro 43 Try.func31 (by kernel_rfl) rfl rfl fun w ok => ?_
  refine AT.seq ?_
  refine AT.region ?_   -- region 0 net.go:76
  refine TrC.take rfl (step_box rfl rfl rfl rfl rfl rfl rfl) ?_   -- 0
  refine TrC.take rfl (step_allocC rfl rfl ze30 zc30 rfl rfl rfl) ?_   -- 1
  refine TrC.take rfl (step_alloc rfl rfl ze25 rfl rfl rfl) ?_   -- 2
  refine TrC.take rfl (step_assign rfl rfl rfl) ?_   -- 3
  refine TrC.done ?_
  refine AT.seq ?_
  refine AT.region ?_   -- region 1 net.go:77
  refine TrC.take rfl (step_loadPN rfl rfl rfl ty30 rfl rfl rfl) ?_   -- 0
  refine TrC.take rfl (step_move rfl rfl rfl) ?_   -- 1
  refine TrC.take rfl (step_call0 rfl rfl (C46 n id hl hS) rfl) ?_   -- 2
  refine TrC.take rfl (step_move rfl rfl rfl) ?_   -- 3
  refine TrC.take rfl (step_extract rfl rfl rfl rfl) ?_   -- 4
  refine TrC.take rfl (step_extract rfl rfl rfl rfl) ?_   -- 5
  refine TrC.take rfl (step_assign rfl rfl rfl) ?_   -- 6
  refine TrC.take rfl (step_assign rfl rfl rfl) ?_   -- 7
  refine TrC.done ?_
  refine AT.seq ?_
  refine AT.seq ?_
  refine AT.region ?_   -- region 2 net.go:78
  refine TrC.take rfl (step_move rfl rfl rfl) ?_   -- 0
  refine TrC.take rfl (step_bin rfl rfl rfl rfl rfl) ?_   -- 1
  refine TrC.done ?_
  refine AT.cond rfl (fun h17 => ?_) (fun h17 => ?_)   -- t17
  · -- true
    have hf : findIx n id = none := by cases hg : findIx n id with
      | none => rfl
      | some i => rw [hg] at h17; simp at h17
    have hs : take n id = ⟨n, p0, 90⟩ := by unfold take; rw [hf]
    refine AT.seq ?_
    refine AT.region ?_   -- region 3 net.go:79
    refine TrC.take rfl (step_loadPN rfl rfl rfl ty30 rfl rfl rfl) ?_   -- 0
    refine TrC.take rfl (step_buildS rfl ze25 rfl pl25 rfl rfl rfl rfl) ?_   -- 1
    refine TrC.take rfl (step_move rfl rfl rfl) ?_   -- 2
    refine TrC.take rfl (step_storeP rfl rfl rfl rfl rfl (.inl rfl) ty30 rfl rfl rfl) ?_   -- 3
    refine TrC.take rfl (step_storeP rfl rfl rfl rfl rfl (.inl rfl) ty25 rfl rfl rfl) ?_   -- 4
    refine TrC.take rfl (step_assign rfl rfl rfl) ?_   -- 5
    refine TrC.done ?_
    refine AT.ret ?_
    exact Ret.many (.cons (.cellN rfl rfl ty30 rfl rfl (conv_eq (by rw [hs]; rfl))) (.cons (.cellN rfl rfl ty25 rfl rfl (conv_eq (by rw [hs]; rfl))) (.cons (.tmp rfl (conv_i (by rw [hs, hf]))) (.nil)))) rfl
  · -- false
    obtain ⟨i, hf, hi⟩ : ∃ i, findIx n id = some i ∧ i < n.fl.length := by
      cases hg : findIx n id with
      | none => rw [hg] at h17; simp at h17
      | some i => exact ⟨i, rfl, (List.findIdx?_eq_some_iff_getElem.1 hg).1⟩
    refine AT.spell 7 rfl (show T.v (.int .i64 (match findIx n id with | some i => (i : Int) | none => 0)) = .v (.int .i64 i) by rw [hf]) ?_
    have hq : n.fl.getD i p0 = n.fl[i] := getP hi
    have hget : (n.fl.map encP)[i]? = some (.agg [.i n.fl[i].id, .i n.fl[i].fr, .i n.fl[i].to]) := by simp [hi, encP]
    refine AT.skip ?_
    refine AT.seq ?_
    refine AT.region ?_   -- region 4 net.go:81
    refine TrC.take rfl (step_fieldAddrP rfl rfl fd30_0 rfl rfl) ?_   -- 0
    refine TrC.take rfl (step_loadP1 rfl rfl rfl ty27 rfl rfl) ?_   -- 1
    refine TrC.take rfl (step_move rfl rfl rfl) ?_   -- 2
    refine TrC.take rfl (step_indexAddrT (v := .agg [.i n.fl[i].id, .i n.fl[i].fr, .i n.fl[i].to]) rfl rfl rfl sl27 (by omega) (by first | exact hget | simpa using hget) rfl rfl) ?_   -- 3
    refine TrC.take rfl (step_loadTN rfl rfl ty25 rfl rfl) ?_   -- 4
    refine TrC.take rfl (step_alloc rfl rfl ze25 rfl rfl rfl) ?_   -- 5
    refine TrC.take rfl (step_storeP rfl rfl rfl rfl rfl (.inl rfl) ty25 rfl rfl rfl) ?_   -- 6
    refine TrC.done ?_
    refine AT.seq ?_
    refine AT.seq ?_
    refine AT.region ?_   -- region 5 net.go:82
    refine TrC.take rfl (step_loadPN rfl rfl rfl ty30 rfl rfl rfl) ?_   -- 0
    refine TrC.take rfl (step_fieldAddrP rfl rfl fd25_1 rfl rfl) ?_   -- 1
    refine TrC.take rfl (step_loadP1 rfl rfl rfl ty3 rfl rfl) ?_   -- 2
    refine TrC.take rfl (step_fieldAddrP rfl rfl fd25_2 rfl rfl) ?_   -- 3
    refine TrC.take rfl (step_loadP1 rfl rfl rfl ty3 rfl rfl) ?_   -- 4
    refine TrC.take rfl (step_call0 rfl rfl (C19 n n.fl[i].fr n.fl[i].to hc hC) rfl) ?_   -- 5
    refine TrC.take rfl (step_not rfl rfl rfl) ?_   -- 6
    refine TrC.done ?_
    refine AT.cond rfl (fun h32 => ?_) (fun h32 => ?_)   -- t32
    · -- true
      have hs : take n id = ⟨n, p0, 320⟩ := by unfold take; rw [hf]; simp only [hq]; rw [if_neg (by simpa using h32)]
      refine AT.seq ?_
      refine AT.region ?_   -- region 6 net.go:83
      refine TrC.take rfl (step_loadPN rfl rfl rfl ty30 rfl rfl rfl) ?_   -- 0
      refine TrC.take rfl (step_buildS rfl ze25 rfl pl25 rfl rfl rfl rfl) ?_   -- 1
      refine TrC.take rfl (step_storeP rfl rfl rfl rfl rfl (.inl rfl) ty30 rfl rfl rfl) ?_   -- 2
      refine TrC.take rfl (step_storeP rfl rfl rfl rfl rfl (.inl rfl) ty25 rfl rfl rfl) ?_   -- 3
      refine TrC.take rfl (step_assign rfl rfl rfl) ?_   -- 4
      refine TrC.done ?_
      refine AT.ret ?_
      exact Ret.many (.cons (.cellN rfl rfl ty30 rfl rfl (conv_eq (by rw [hs]; rfl))) (.cons (.cellN rfl rfl ty25 rfl rfl (conv_eq (by rw [hs]; rfl))) (.cons (.tmp rfl (conv_i (by rw [hs]))) (.nil)))) rfl
    · -- false
      have hs : take n id = ⟨without n i, n.fl[i], 0⟩ := by unfold take; rw [hf]; simp only [hq]; rw [if_pos (by simpa using h32)]
      have hs2 : lose n id = ⟨without n i, p0, 0⟩ := by unfold lose; rw [hf]
      refine AT.skip ?_
      refine AT.seq ?_
      refine AT.region ?_   -- region 7 net.go:85
      refine TrC.take rfl (step_loadPN rfl rfl rfl ty30 rfl rfl rfl) ?_   -- 0
      refine TrC.take rfl (step_move rfl rfl rfl) ?_   -- 1
      refine TrC.take rfl (step_call0 rfl rfl (C38 n id hl hS) rfl) ?_   -- 2
      refine TrC.take rfl (step_move rfl rfl rfl) ?_   -- 3
      refine TrC.take rfl (step_extract rfl rfl rfl rfl) ?_   -- 4
      refine TrC.take rfl (step_extract rfl rfl rfl rfl) ?_   -- 5
      refine TrC.take rfl (step_storeP rfl rfl rfl rfl rfl (.inl rfl) ty30 rfl rfl rfl) ?_   -- 6
      refine TrC.done ?_
      refine AT.seq ?_
      refine AT.regionD mixed rfl ?_   -- region 8 net.go:86
      refine TrC.take rfl (step_loadPN rfl rfl rfl ty30 rfl rfl rfl) ?_   -- 0
      refine TrC.take rfl (step_loadPN rfl rfl rfl ty25 rfl rfl rfl) ?_   -- 1
      refine TrC.take rfl (step_storeP rfl rfl rfl rfl rfl (.inl rfl) ty30 rfl rfl rfl) ?_   -- 2
      refine TrC.take rfl (step_storeP rfl rfl rfl rfl rfl (.inl rfl) ty25 rfl rfl rfl) ?_   -- 3
      refine TrC.take rfl (step_assign rfl rfl rfl) ?_   -- 4
      refine TrC.doneD rfl ?_
      refine AT.ret ?_
      exact Ret.many (.cons (.cellN rfl rfl ty30 rfl rfl (conv_eq (by rw [hs, hs2]; rfl))) (.cons (.cellN rfl rfl ty25 rfl rfl (conv_eq (by rw [hs]; rfl))) (.cons (.tmp rfl (conv_i (by rw [hs]))) (.nil)))) rfl

theorem C39 (n : Net) (id : Int) (hl : n.fl.length ≤ 1000000) (h0 : -1000000000000 ≤ n.next) (hS : SortP n) (hP : ∀ i (h : i < n.fl.length), parts n.fl[i].fr n.fl[i].to = true) : Has Try.prog 39 [encN n, .i id] (.tup [encN (double n id).n, .i (double n id).e]) := by   -- burgage/net.Double
  refine Has.intro 34 Try.func39 (by kernel_rfl) rfl rfl fun w ok => ?_
  refine AT.seq ?_
  refine AT.region ?_   -- region 0 net.go:98
  refine TrC.take rfl (step_box rfl rfl rfl rfl rfl rfl rfl) ?_   -- 0
  refine TrC.take rfl (step_allocC rfl rfl ze30 zc30 rfl rfl rfl) ?_   -- 1
  refine TrC.take rfl (step_assign rfl rfl rfl) ?_   -- 2
  refine TrC.done ?_
  refine AT.seq ?_
  refine AT.region ?_   -- region 1 net.go:99
  refine TrC.take rfl (step_loadPN rfl rfl rfl ty30 rfl rfl rfl) ?_   -- 0
  refine TrC.take rfl (step_move rfl rfl rfl) ?_   -- 1
  refine TrC.take rfl (step_call0 rfl rfl (C46 n id hl hS) rfl) ?_   -- 2
  refine TrC.take rfl (step_move rfl rfl rfl) ?_   -- 3
  refine TrC.take rfl (step_extract rfl rfl rfl rfl) ?_   -- 4
  refine TrC.take rfl (step_extract rfl rfl rfl rfl) ?_   -- 5
  refine TrC.take rfl (step_assign rfl rfl rfl) ?_   -- 6
  refine TrC.take rfl (step_assign rfl rfl rfl) ?_   -- 7
  refine TrC.done ?_
  refine AT.seq ?_
  refine AT.seq ?_
  refine AT.region ?_   -- region 2 net.go:100
  refine TrC.take rfl (step_move rfl rfl rfl) ?_   -- 0
  refine TrC.take rfl (step_bin rfl rfl rfl rfl rfl) ?_   -- 1
  refine TrC.done ?_
  refine AT.cond rfl (fun h15 => ?_) (fun h15 => ?_)   -- t15
  · -- true
    have hf : findIx n id = none := by cases hg : findIx n id with
      | none => rfl
      | some i => rw [hg] at h15; simp at h15
    have hs : double n id = ⟨n, p0, 90⟩ := by unfold double; rw [hf]
    refine AT.seq ?_
    refine AT.region ?_   -- region 3 net.go:101
    refine TrC.take rfl (step_loadPN rfl rfl rfl ty30 rfl rfl rfl) ?_   -- 0
    refine TrC.take rfl (step_move rfl rfl rfl) ?_   -- 1
    refine TrC.take rfl (step_storeP rfl rfl rfl rfl rfl (.inl rfl) ty30 rfl rfl rfl) ?_   -- 2
    refine TrC.take rfl (step_assign rfl rfl rfl) ?_   -- 3
    refine TrC.done ?_
    refine AT.ret ?_
    exact Ret.many (.cons (.cellN rfl rfl ty30 rfl rfl (conv_eq (by rw [hs]; rfl))) (.cons (.tmp rfl (conv_i (by rw [hs, hf]))) (.nil))) rfl
  · -- false
    obtain ⟨i, hf, hi⟩ : ∃ i, findIx n id = some i ∧ i < n.fl.length := by
      cases hg : findIx n id with
      | none => rw [hg] at h15; simp at h15
      | some i => exact ⟨i, rfl, (List.findIdx?_eq_some_iff_getElem.1 hg).1⟩
    refine AT.spell 6 rfl (show T.v (.int .i64 (match findIx n id with | some i => (i : Int) | none => 0)) = .v (.int .i64 i) by rw [hf]) ?_
    have hq : n.fl.getD i p0 = n.fl[i] := getP hi
    have hget : (n.fl.map encP)[i]? = some (.agg [.i n.fl[i].id, .i n.fl[i].fr, .i n.fl[i].to]) := by simp [hi, encP]
    have hs : double n id = ⟨(send n n.fl[i].fr n.fl[i].to).n, p0, (send n n.fl[i].fr n.fl[i].to).e⟩ := by unfold double; rw [hf]; simp only [hq]
    refine AT.skip ?_
    refine AT.seq ?_
    refine AT.regionD mixed rfl ?_   -- region 4 net.go:103
    refine TrC.take rfl (step_loadPN rfl rfl rfl ty30 rfl rfl rfl) ?_   -- 0
    refine TrC.take rfl (step_fieldAddrP rfl rfl fd30_0 rfl rfl) ?_   -- 1
    refine TrC.take rfl (step_loadP1 rfl rfl rfl ty27 rfl rfl) ?_   -- 2
    refine TrC.take rfl (step_move rfl rfl rfl) ?_   -- 3
    refine TrC.take rfl (step_indexAddrT (v := .agg [.i n.fl[i].id, .i n.fl[i].fr, .i n.fl[i].to]) rfl rfl rfl sl27 (by omega) (by first | exact hget | simpa using hget) rfl rfl) ?_   -- 4
    refine TrC.take rfl (step_fieldAddrT rfl rfl fd25_1 rfl rfl rfl) ?_   -- 5
    refine TrC.take rfl (step_loadT1 rfl rfl ty3 rfl rfl) ?_   -- 6
    refine TrC.take rfl (step_fieldAddrP rfl rfl fd30_0 rfl rfl) ?_   -- 7
    refine TrC.take rfl (step_loadP1 rfl rfl rfl ty27 rfl rfl) ?_   -- 8
    refine TrC.take rfl (step_move rfl rfl rfl) ?_   -- 9
    refine TrC.take rfl (step_indexAddrT (v := .agg [.i n.fl[i].id, .i n.fl[i].fr, .i n.fl[i].to]) rfl rfl rfl sl27 (by omega) (by first | exact hget | simpa using hget) rfl rfl) ?_   -- 10
    refine TrC.take rfl (step_fieldAddrT rfl rfl fd25_2 rfl rfl rfl) ?_   -- 11
    refine TrC.take rfl (step_loadT1 rfl rfl ty3 rfl rfl) ?_   -- 12
    refine TrC.take rfl (step_call0 rfl rfl (C44 n n.fl[i].fr n.fl[i].to (hP i hi) hl h0) rfl) ?_   -- 13
    refine TrC.take rfl (step_extract rfl rfl rfl rfl) ?_   -- 14
    refine TrC.take rfl (step_extract rfl rfl rfl rfl) ?_   -- 15
    refine TrC.take rfl (step_storeP rfl rfl rfl rfl rfl (.inl rfl) ty30 rfl rfl rfl) ?_   -- 16
    refine TrC.take rfl (step_assign rfl rfl rfl) ?_   -- 17
    refine TrC.doneD rfl ?_
    refine AT.ret ?_
    exact Ret.many (.cons (.cellN rfl rfl ty30 rfl rfl (conv_eq (by rw [hs]; rfl))) (.cons (.tmp rfl (conv_i (by rw [hs]))) (.nil))) rfl

end Go.Proofs.Ytnemmdbafngppaa.Net
