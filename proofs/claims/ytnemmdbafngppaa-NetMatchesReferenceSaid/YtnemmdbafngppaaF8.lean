/- Contracts of functions of this translation. Printed by wip/tools/gen.py out of wip/net/ann.py. No condition. -/
import Derived.Test.YtnemmdbafngppaaF3
set_option linter.unusedVariables false
set_option linter.unusedSimpArgs false
namespace Go.Proofs.Ytnemmdbafngppaa.Net
open Go.Proofs.Ytnemmdbafngppaa.Abs
set_option maxRecDepth 100000
set_option maxHeartbeats 4000000
theorem C56 (p : Pk) (id : Int) : Has Try.prog 56 [encP p, .i id] (.i (cmpI p.id id)) := by   -- burgage/net.find$1
  refine Has.intro 9 Try.func56 (by kernel_rfl) rfl rfl fun w ok => ?_
  refine AT.seq ?_
  refine AT.region ?_   -- region 0 net.go:69
  refine TrC.take rfl (step_box rfl rfl rfl rfl rfl rfl rfl) ?_   -- 0
  refine TrC.take rfl (step_assign rfl rfl rfl) ?_   -- 1
  refine TrC.done ?_
  refine AT.seq ?_
  refine AT.region ?_   -- region 1 net.go:69
  refine TrC.take rfl (step_fieldAddrP rfl rfl fd25_0 rfl rfl) ?_   -- 0
  refine TrC.take rfl (step_loadP1 rfl rfl rfl ty3 rfl rfl) ?_   -- 1
  refine TrC.take rfl (step_move rfl rfl rfl) ?_   -- 2
  refine TrC.take rfl (step_call0 rfl rfl (C48 p.id id) rfl) ?_   -- 3
  refine TrC.take rfl (step_assign rfl rfl rfl) ?_   -- 4
  refine TrC.done ?_
  refine AT.ret ?_
  exact Ret.one rfl (ResR.tmp rfl (.refl _))

theorem C34 (cs : List (Int × Int)) (x : Int × Int) (k : Nat) (hl : cs.length ≤ 1000000) (hk : k ≤ cs.length) (hs : ∀ i (h : i < cs.length), order cs[i] x < 0 ↔ i < k) : Has Try.prog 34 [.slice 2 (cs.map encC), encC x, .clo 36 []] (.tup [.i k, .b (match cs[k]? with | some y => decide (order y x = 0) | none => false)]) := by   -- slices.BinarySearchFunc[[][2]int,[2]int,[2]int]
  refine Has.intro 49 Try.func34 (by kernel_rfl) rfl rfl fun w ok => ?_
  refine AT.seq ?_
  refine AT.region ?_   -- region 0 sort.go:152
  refine TrC.take rfl (step_box rfl rfl rfl rfl rfl rfl rfl) ?_   -- 0
  refine TrC.take rfl (step_assign rfl rfl rfl) ?_   -- 1
  refine TrC.take rfl (step_assign rfl rfl rfl) ?_   -- 2
  refine TrC.done ?_
  refine AT.seq ?_
  refine AT.region ?_   -- region 1 sort.go:153
  refine TrC.take rfl (step_move rfl rfl rfl) ?_   -- 0
  refine TrC.take rfl (step_lenT (rt := 0) rfl rfl sl28 rfl) ?_   -- 1
  refine TrC.take rfl (step_assign rfl rfl rfl) ?_   -- 2
  refine TrC.done ?_
  refine AT.seq ?_
  refine AT.region ?_   -- region 2 sort.go:156
  refine TrC.take rfl (step_move rfl rfl rfl) ?_   -- 0
  refine TrC.take rfl (step_assign rfl rfl rfl) ?_   -- 1
  refine TrC.take rfl (step_assign rfl rfl rfl) ?_   -- 2
  refine TrC.done ?_
  refine AT.seq ?_
  refine AT.block ?_   -- block 0
  refine AT.loopP (fun x : Nat × Nat => x.1 ≤ k ∧ k ≤ x.2 ∧ x.2 ≤ cs.length) (fun (i, j) => mkS [(0, .t (.slice 2 (cs.map encC))), (4, .p 4 0), (2, .t (.clo 36 [])), (8, .t (.i cs.length)), (9, .t (.i i)), (10, .t (.i j))] [(4, .box 32 [.t (.i x.1), .t (.i x.2)])]) (fun x => x.2 - x.1) ((0, cs.length)) (⟨Nat.zero_le _, hk, Nat.le_refl _⟩) (fun a w hs => Sat.wk [] (.cons (.t (.refl _)) (.cons (.p rfl) (.cons (.t (.refl _)) (.cons (.t (conv_i (by simp))) (.cons (.t (conv_i (by simp))) (.cons (.t (conv_i (by simp))) (.nil))))))) (.cons rfl (.box (.cons (.t (.refl _)) (.cons (.t (.refl _)) (.nil)))) (.nil)) rfl rfl a w hs) (fun ix hix => ?_)
  obtain ⟨i, j⟩ := ix
  obtain ⟨hi, hj, hn⟩ := hix
  simp only at hi hj hn
  refine AT.seq ?_
  refine AT.seq ?_
  refine AT.region ?_   -- region 3 sort.go:157
  refine TrC.take rfl (step_move rfl rfl rfl) ?_   -- 0
  refine TrC.take rfl (step_move rfl rfl rfl) ?_   -- 1
  refine TrC.take rfl (step_bin rfl rfl rfl rfl rfl) ?_   -- 2
  refine TrC.done ?_
  refine AT.cond rfl (fun h17 => ?_) (fun h17 => ?_)   -- t17
  · -- true
    have hij : i < j := by have h := h17; simp at h; omega
    have hlt : (i + j) / 2 < cs.length := by omega
    have hget : (cs.map encC)[(i + j) / 2]? = some (.agg [.i cs[(i + j) / 2].1, .i cs[(i + j) / 2].2]) := by rw [List.getElem?_map, List.getElem?_eq_getElem hlt]; rfl
    refine AT.skip ?_
    refine AT.block ?_   -- block 1
    refine AT.seq ?_
    refine AT.region ?_   -- region 4 sort.go:158
    refine TrC.take rfl (step_move rfl rfl rfl) ?_   -- 0
    refine TrC.take rfl (step_move rfl rfl rfl) ?_   -- 1
    refine TrC.take rfl (step_addI rfl rfl rfl (by omega) (by omega) rfl) ?_   -- 2
    refine TrC.take rfl (step_convU (i + j) rfl rfl (by omega) in3 in77 (by omega) rfl) ?_   -- 3
    refine TrC.take rfl (step_half (i + j) rfl rfl rfl rfl) ?_   -- 4
    refine TrC.take rfl (step_convI rfl rfl in77 in3 (by omega) (by omega) rfl) ?_   -- 5
    refine TrC.take rfl (step_assign rfl rfl rfl) ?_   -- 6
    refine TrC.done ?_
    refine AT.seq ?_
    refine AT.regionD mixed rfl ?_   -- region 5 sort.go:160
    refine TrC.take rfl (step_move rfl rfl rfl) ?_   -- 0
    refine TrC.take rfl (step_move rfl rfl rfl) ?_   -- 1
    refine TrC.take rfl (step_move rfl rfl rfl) ?_   -- 2
    refine TrC.take rfl (step_indexAddrT (v := .agg [.i cs[(i + j) / 2].1, .i cs[(i + j) / 2].2]) rfl rfl rfl sl28 (by omega) (by first | exact hget | simpa using hget) rfl rfl) ?_   -- 3
    refine TrC.take rfl (step_loadTN rfl rfl ty32 rfl rfl) ?_   -- 4
    refine TrC.take rfl (step_loadPN rfl rfl rfl ty32 rfl rfl rfl) ?_   -- 5
    refine TrC.take rfl (step_callC rfl rfl (.refl _) rfl (C36 cs[(i + j) / 2] x) (ConvL.refl _) rfl) ?_   -- 6
    refine TrC.take rfl (step_bin rfl rfl rfl rfl rfl) ?_   -- 7
    refine TrC.doneD rfl ?_
    refine AT.cond rfl (fun h31 => ?_) (fun h31 => ?_)   -- t31
    · -- true
      refine AT.region ?_   -- region 6 sort.go:161
      refine TrC.take rfl (step_move rfl rfl rfl) ?_   -- 0
      refine TrC.take rfl (step_addI rfl rfl rfl (by omega) (by omega) rfl) ?_   -- 1
      refine TrC.take rfl (step_assign rfl rfl rfl) ?_   -- 2
      refine TrC.done ?_
      have hlk : (i + j) / 2 < k := (hs _ hlt).1 (by simpa using h31)
      exact ⟨((i + j) / 2 + 1, j), ⟨by show (i + j) / 2 + 1 ≤ k; omega, hj, hn⟩, by show j - ((i + j) / 2 + 1) < j - i; omega, Sat.wk [] (.cons (.t (.refl _)) (.cons (.p rfl) (.cons (.t (.refl _)) (.cons (.t (conv_i (by simp))) (.cons (.t (conv_i (by simp))) (.cons (.t (.refl _)) (.nil))))))) (.cons rfl (.box (.cons (.t (.refl _)) (.cons (.t (.refl _)) (.nil)))) (.nil)) rfl rfl⟩
    · -- false
      refine AT.region ?_   -- region 7 sort.go:163
      refine TrC.take rfl (step_move rfl rfl rfl) ?_   -- 0
      refine TrC.take rfl (step_assign rfl rfl rfl) ?_   -- 1
      refine TrC.done ?_
      have hlk : ¬ (i + j) / 2 < k := fun h => by have h2 := (hs _ hlt).2 h; simp at h31; omega
      exact ⟨(i, (i + j) / 2), ⟨hi, by show k ≤ (i + j) / 2; omega, by show (i + j) / 2 ≤ _; omega⟩, by show (i + j) / 2 - i < j - i; omega, Sat.wk [] (.cons (.t (.refl _)) (.cons (.p rfl) (.cons (.t (.refl _)) (.cons (.t (conv_i (by simp))) (.cons (.t (.refl _)) (.cons (.t (.refl _)) (.nil))))))) (.cons rfl (.box (.cons (.t (.refl _)) (.cons (.t (.refl _)) (.nil)))) (.nil)) rfl rfl⟩
  · -- false
    have hij : ¬ i < j := by have h := h17; simp at h; omega
    obtain rfl : i = k := by omega
    refine AT.exit (Or.inl ⟨rfl, ?_⟩)   -- exit 0
    refine AT.seq ?_
    refine AT.regionD mixed rfl ?_   -- region 8 sort.go:167
    refine TrC.take rfl (step_move rfl rfl rfl) ?_   -- 0
    refine TrC.take rfl (step_move rfl rfl rfl) ?_   -- 1
    refine TrC.take rfl (step_move rfl rfl rfl) ?_   -- 2
    refine TrC.take rfl (step_bin rfl rfl rfl rfl rfl) ?_   -- 3
    refine TrC.take rfl (step_move rfl rfl rfl) ?_   -- 4
    refine TrC.cases (d := 39) rfl (fun h39 => ?_) (fun h39 => ?_)
    · -- t39 = true
      have hlt : i < cs.length := by have h := h39; simp at h; omega
      have hget : (cs.map encC)[i]? = some (.agg [.i cs[i].1, .i cs[i].2]) := by rw [List.getElem?_map, List.getElem?_eq_getElem hlt]; rfl
      have hq : cs[i]? = some cs[i] := List.getElem?_eq_getElem hlt
      refine TrC.take ⟨_, _, rfl, rfl, rfl⟩ (step_move rfl rfl rfl) ?_   -- 5
      refine TrC.take ⟨_, _, rfl, rfl, rfl⟩ (step_move rfl rfl rfl) ?_   -- 6
      refine TrC.take ⟨_, _, rfl, rfl, rfl⟩ (step_move rfl rfl rfl) ?_   -- 7
      refine TrC.take ⟨_, _, rfl, rfl, rfl⟩ (step_indexAddrT (v := .agg [.i cs[i].1, .i cs[i].2]) rfl rfl rfl sl28 (by omega) (by first | exact hget | simpa using hget) rfl rfl) ?_   -- 8
      refine TrC.take ⟨_, _, rfl, rfl, rfl⟩ (step_loadTN rfl rfl ty32 rfl rfl) ?_   -- 9
      refine TrC.take ⟨_, _, rfl, rfl, rfl⟩ (step_loadPN rfl rfl rfl ty32 rfl rfl rfl) ?_   -- 10
      refine TrC.take ⟨_, _, rfl, rfl, rfl⟩ (step_callC rfl rfl (.refl _) rfl (C36 cs[i] x) (ConvL.refl _) rfl) ?_   -- 11
      refine TrC.take ⟨_, _, rfl, rfl, rfl⟩ (step_bin rfl rfl rfl rfl rfl) ?_   -- 12
      refine TrC.take rfl (step_pick rfl rfl rfl rfl) ?_   -- 13
      refine TrC.take rfl (step_assign rfl rfl rfl) ?_   -- 14
      refine TrC.take rfl (step_assign rfl rfl rfl) ?_   -- 15
      refine TrC.doneD rfl ?_
      refine AT.ret ?_
      exact Ret.many (.cons (.tmp rfl (.refl _)) (.cons (.tmp rfl (conv_b (by rw [hq] <;> first | rfl | (rw [Bool.eq_iff_iff]; simp)))) .nil)) rfl
    · -- t39 = false
      have hq : cs[i]? = none := by
        have hge : ¬ i < cs.length := by have h := h39; simp at h; omega
        exact List.getElem?_eq_none (by omega)
      refine TrC.skip ⟨_, _, rfl, rfl, rfl⟩ ?_   -- 5
      refine TrC.skip ⟨_, _, rfl, rfl, rfl⟩ ?_   -- 6
      refine TrC.skip ⟨_, _, rfl, rfl, rfl⟩ ?_   -- 7
      refine TrC.skip ⟨_, _, rfl, rfl, rfl⟩ ?_   -- 8
      refine TrC.skip ⟨_, _, rfl, rfl, rfl⟩ ?_   -- 9
      refine TrC.skip ⟨_, _, rfl, rfl, rfl⟩ ?_   -- 10
      refine TrC.skip ⟨_, _, rfl, rfl, rfl⟩ ?_   -- 11
      refine TrC.skip ⟨_, _, rfl, rfl, rfl⟩ ?_   -- 12
      refine TrC.take rfl (step_pick rfl rfl rfl rfl) ?_   -- 13
      refine TrC.take rfl (step_assign rfl rfl rfl) ?_   -- 14
      refine TrC.take rfl (step_assign rfl rfl rfl) ?_   -- 15
      refine TrC.doneD rfl ?_
      refine AT.ret ?_
      exact Ret.many (.cons (.tmp rfl (.refl _)) (.cons (.tmp rfl (conv_b (by rw [hq] <;> first | rfl | (rw [Bool.eq_iff_iff]; simp)))) .nil)) rfl

theorem C55 (fl : List Pk) (id : Int) (k : Nat) (hl : fl.length ≤ 1000000) (hk : k ≤ fl.length) (hs : ∀ i (h : i < fl.length), cmpI fl[i].id id < 0 ↔ i < k) : Has Try.prog 55 [.slice 3 (fl.map encP), .i id, .clo 56 []] (.tup [.i k, .b (match fl[k]? with | some y => decide (cmpI y.id id = 0) | none => false)]) := by   -- slices.BinarySearchFunc[[]burgage/api.Packet,burgage/api.Packet,int]
  refine Has.intro 49 Try.func55 (by kernel_rfl) rfl rfl fun w ok => ?_
  refine AT.seq ?_
  refine AT.region ?_   -- region 0 sort.go:152
  refine TrC.take rfl (step_assign rfl rfl rfl) ?_   -- 0
  refine TrC.take rfl (step_assign rfl rfl rfl) ?_   -- 1
  refine TrC.done ?_
  refine AT.seq ?_
  refine AT.region ?_   -- region 1 sort.go:153
  refine TrC.take rfl (step_move rfl rfl rfl) ?_   -- 0
  refine TrC.take rfl (step_lenT (rt := 0) rfl rfl sl27 rfl) ?_   -- 1
  refine TrC.take rfl (step_assign rfl rfl rfl) ?_   -- 2
  refine TrC.done ?_
  refine AT.seq ?_
  refine AT.region ?_   -- region 2 sort.go:156
  refine TrC.take rfl (step_move rfl rfl rfl) ?_   -- 0
  refine TrC.take rfl (step_assign rfl rfl rfl) ?_   -- 1
  refine TrC.take rfl (step_assign rfl rfl rfl) ?_   -- 2
  refine TrC.done ?_
  refine AT.seq ?_
  refine AT.block ?_   -- block 0
  refine AT.loopP (fun x : Nat × Nat => x.1 ≤ k ∧ k ≤ x.2 ∧ x.2 ≤ fl.length) (fun (i, j) => mkS [(0, .t (.slice 3 (fl.map encP))), (1, .t (.i id)), (2, .t (.clo 56 [])), (8, .t (.i fl.length)), (9, .t (.i i)), (10, .t (.i j))] []) (fun x => x.2 - x.1) ((0, fl.length)) (⟨Nat.zero_le _, hk, Nat.le_refl _⟩) (fun a w hs => Sat.wk [] (.cons (.t (.refl _)) (.cons (.t (.refl _)) (.cons (.t (.refl _)) (.cons (.t (conv_i (by simp))) (.cons (.t (conv_i (by simp))) (.cons (.t (conv_i (by simp))) (.nil))))))) (.nil) rfl rfl a w hs) (fun ix hix => ?_)
  obtain ⟨i, j⟩ := ix
  obtain ⟨hi, hj, hn⟩ := hix
  simp only at hi hj hn
  refine AT.seq ?_
  refine AT.seq ?_
  refine AT.region ?_   -- region 3 sort.go:157
  refine TrC.take rfl (step_move rfl rfl rfl) ?_   -- 0
  refine TrC.take rfl (step_move rfl rfl rfl) ?_   -- 1
  refine TrC.take rfl (step_bin rfl rfl rfl rfl rfl) ?_   -- 2
  refine TrC.done ?_
  refine AT.cond rfl (fun h17 => ?_) (fun h17 => ?_)   -- t17
  · -- true
    have hij : i < j := by have h := h17; simp at h; omega
    have hlt : (i + j) / 2 < fl.length := by omega
    have hget : (fl.map encP)[(i + j) / 2]? = some (.agg [.i fl[(i + j) / 2].id, .i fl[(i + j) / 2].fr, .i fl[(i + j) / 2].to]) := by rw [List.getElem?_map, List.getElem?_eq_getElem hlt]; rfl
    refine AT.skip ?_
    refine AT.block ?_   -- block 1
    refine AT.seq ?_
    refine AT.region ?_   -- region 4 sort.go:158
    refine TrC.take rfl (step_move rfl rfl rfl) ?_   -- 0
    refine TrC.take rfl (step_move rfl rfl rfl) ?_   -- 1
    refine TrC.take rfl (step_addI rfl rfl rfl (by omega) (by omega) rfl) ?_   -- 2
    refine TrC.take rfl (step_convU (i + j) rfl rfl (by omega) in3 in77 (by omega) rfl) ?_   -- 3
    refine TrC.take rfl (step_half (i + j) rfl rfl rfl rfl) ?_   -- 4
    refine TrC.take rfl (step_convI rfl rfl in77 in3 (by omega) (by omega) rfl) ?_   -- 5
    refine TrC.take rfl (step_assign rfl rfl rfl) ?_   -- 6
    refine TrC.done ?_
    refine AT.seq ?_
    refine AT.region ?_   -- region 5 sort.go:160
    refine TrC.take rfl (step_move rfl rfl rfl) ?_   -- 0
    refine TrC.take rfl (step_move rfl rfl rfl) ?_   -- 1
    refine TrC.take rfl (step_move rfl rfl rfl) ?_   -- 2
    refine TrC.take rfl (step_indexAddrT (v := .agg [.i fl[(i + j) / 2].id, .i fl[(i + j) / 2].fr, .i fl[(i + j) / 2].to]) rfl rfl rfl sl27 (by omega) (by first | exact hget | simpa using hget) rfl rfl) ?_   -- 3
    refine TrC.take rfl (step_loadTN rfl rfl ty25 rfl rfl) ?_   -- 4
    refine TrC.take rfl (step_move rfl rfl rfl) ?_   -- 5
    refine TrC.take rfl (step_callC rfl rfl (.refl _) rfl (C56 fl[(i + j) / 2] id) (ConvL.refl _) rfl) ?_   -- 6
    refine TrC.take rfl (step_bin rfl rfl rfl rfl rfl) ?_   -- 7
    refine TrC.done ?_
    refine AT.cond rfl (fun h31 => ?_) (fun h31 => ?_)   -- t31
    · -- true
      refine AT.region ?_   -- region 6 sort.go:161
      refine TrC.take rfl (step_move rfl rfl rfl) ?_   -- 0
      refine TrC.take rfl (step_addI rfl rfl rfl (by omega) (by omega) rfl) ?_   -- 1
      refine TrC.take rfl (step_assign rfl rfl rfl) ?_   -- 2
      refine TrC.done ?_
      have hlk : (i + j) / 2 < k := (hs _ hlt).1 (by simpa using h31)
      exact ⟨((i + j) / 2 + 1, j), ⟨by show (i + j) / 2 + 1 ≤ k; omega, hj, hn⟩, by show j - ((i + j) / 2 + 1) < j - i; omega, Sat.wk [] (.cons (.t (.refl _)) (.cons (.t (.refl _)) (.cons (.t (.refl _)) (.cons (.t (conv_i (by simp))) (.cons (.t (conv_i (by simp))) (.cons (.t (.refl _)) (.nil))))))) (.nil) rfl rfl⟩
    · -- false
      refine AT.region ?_   -- region 7 sort.go:163
      refine TrC.take rfl (step_move rfl rfl rfl) ?_   -- 0
      refine TrC.take rfl (step_assign rfl rfl rfl) ?_   -- 1
      refine TrC.done ?_
      have hlk : ¬ (i + j) / 2 < k := fun h => by have h2 := (hs _ hlt).2 h; simp at h31; omega
      exact ⟨(i, (i + j) / 2), ⟨hi, by show k ≤ (i + j) / 2; omega, by show (i + j) / 2 ≤ _; omega⟩, by show (i + j) / 2 - i < j - i; omega, Sat.wk [] (.cons (.t (.refl _)) (.cons (.t (.refl _)) (.cons (.t (.refl _)) (.cons (.t (conv_i (by simp))) (.cons (.t (.refl _)) (.cons (.t (.refl _)) (.nil))))))) (.nil) rfl rfl⟩
  · -- false
    have hij : ¬ i < j := by have h := h17; simp at h; omega
    obtain rfl : i = k := by omega
    refine AT.exit (Or.inl ⟨rfl, ?_⟩)   -- exit 0
    refine AT.seq ?_
    refine AT.region ?_   -- region 8 sort.go:167
    refine TrC.take rfl (step_move rfl rfl rfl) ?_   -- 0
    refine TrC.take rfl (step_move rfl rfl rfl) ?_   -- 1
    refine TrC.take rfl (step_move rfl rfl rfl) ?_   -- 2
    refine TrC.take rfl (step_bin rfl rfl rfl rfl rfl) ?_   -- 3
    refine TrC.take rfl (step_move rfl rfl rfl) ?_   -- 4
    refine TrC.cases (d := 39) rfl (fun h39 => ?_) (fun h39 => ?_)
    · -- t39 = true
      have hlt : i < fl.length := by have h := h39; simp at h; omega
      have hget : (fl.map encP)[i]? = some (.agg [.i fl[i].id, .i fl[i].fr, .i fl[i].to]) := by rw [List.getElem?_map, List.getElem?_eq_getElem hlt]; rfl
      have hq : fl[i]? = some fl[i] := List.getElem?_eq_getElem hlt
      refine TrC.take ⟨_, _, rfl, rfl, rfl⟩ (step_move rfl rfl rfl) ?_   -- 5
      refine TrC.take ⟨_, _, rfl, rfl, rfl⟩ (step_move rfl rfl rfl) ?_   -- 6
      refine TrC.take ⟨_, _, rfl, rfl, rfl⟩ (step_move rfl rfl rfl) ?_   -- 7
      refine TrC.take ⟨_, _, rfl, rfl, rfl⟩ (step_indexAddrT (v := .agg [.i fl[i].id, .i fl[i].fr, .i fl[i].to]) rfl rfl rfl sl27 (by omega) (by first | exact hget | simpa using hget) rfl rfl) ?_   -- 8
      refine TrC.take ⟨_, _, rfl, rfl, rfl⟩ (step_loadTN rfl rfl ty25 rfl rfl) ?_   -- 9
      refine TrC.take ⟨_, _, rfl, rfl, rfl⟩ (step_move rfl rfl rfl) ?_   -- 10
      refine TrC.take ⟨_, _, rfl, rfl, rfl⟩ (step_callC rfl rfl (.refl _) rfl (C56 fl[i] id) (ConvL.refl _) rfl) ?_   -- 11
      refine TrC.take ⟨_, _, rfl, rfl, rfl⟩ (step_bin rfl rfl rfl rfl rfl) ?_   -- 12
      refine TrC.take rfl (step_pick rfl rfl rfl rfl) ?_   -- 13
      refine TrC.take rfl (step_assign rfl rfl rfl) ?_   -- 14
      refine TrC.take rfl (step_assign rfl rfl rfl) ?_   -- 15
      refine TrC.done ?_
      refine AT.ret ?_
      exact Ret.many (.cons (.tmp rfl (.refl _)) (.cons (.tmp rfl (conv_b (by rw [hq] <;> first | rfl | (rw [Bool.eq_iff_iff]; simp)))) .nil)) rfl
    · -- t39 = false
      have hq : fl[i]? = none := by
        have hge : ¬ i < fl.length := by have h := h39; simp at h; omega
        exact List.getElem?_eq_none (by omega)
      refine TrC.skip ⟨_, _, rfl, rfl, rfl⟩ ?_   -- 5
      refine TrC.skip ⟨_, _, rfl, rfl, rfl⟩ ?_   -- 6
      refine TrC.skip ⟨_, _, rfl, rfl, rfl⟩ ?_   -- 7
      refine TrC.skip ⟨_, _, rfl, rfl, rfl⟩ ?_   -- 8
      refine TrC.skip ⟨_, _, rfl, rfl, rfl⟩ ?_   -- 9
      refine TrC.skip ⟨_, _, rfl, rfl, rfl⟩ ?_   -- 10
      refine TrC.skip ⟨_, _, rfl, rfl, rfl⟩ ?_   -- 11
      refine TrC.skip ⟨_, _, rfl, rfl, rfl⟩ ?_   -- 12
      refine TrC.take rfl (step_pick rfl rfl rfl rfl) ?_   -- 13
      refine TrC.take rfl (step_assign rfl rfl rfl) ?_   -- 14
      refine TrC.take rfl (step_assign rfl rfl rfl) ?_   -- 15
      refine TrC.done ?_
      refine AT.ret ?_
      exact Ret.many (.cons (.tmp rfl (.refl _)) (.cons (.tmp rfl (conv_b (by rw [hq] <;> first | rfl | (rw [Bool.eq_iff_iff]; simp)))) .nil)) rfl

end Go.Proofs.Ytnemmdbafngppaa.Net
