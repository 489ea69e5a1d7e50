/- Contracts of functions of this translation. Printed by wip/tools/gen.py out of wip/net/ann.py. No condition. -/
import Derived.Test.YtnemmdbafngppaaF14
import Derived.Test.YtnemmdbafngppaaLaw4
set_option linter.unusedVariables false
set_option linter.unusedSimpArgs false
namespace Go.Proofs.Ytnemmdbafngppaa.Net
open Go.Proofs.Ytnemmdbafngppaa.Abs
set_option maxRecDepth 100000
set_option maxHeartbeats 4000000
theorem C12 (l : List (Int × Int × Int)) (hb : ∀ x ∈ l, (0 ≤ x.1 ∧ x.1 ≤ 255) ∧ (0 ≤ x.2.1 ∧ x.2.1 ≤ 255) ∧ (0 ≤ x.2.2 ∧ x.2.2 ≤ 255)) : Has Try.prog 12 [.slice 3 (l.map encB)] (encN (made l)) := by   -- burgage/burgageref32.Made
  refine Has.intro 23 Try.func12 (by kernel_rfl) rfl rfl fun w ok => ?_
  refine AT.seq ?_
  refine AT.region ?_   -- region 0 ref.go:191
  refine TrC.take rfl (step_allocC rfl rfl ze30 zc30 rfl rfl rfl) ?_   -- 0
  refine TrC.done ?_
  refine AT.seq ?_
  refine AT.region ?_   -- region 1 ref.go:192
  refine TrC.take rfl (step_buildC rfl ze30 zc30 rfl pl30 rfl rfl rfl rfl) ?_   -- 0
  refine TrC.take rfl (step_allocC rfl rfl ze30 zc30 rfl rfl rfl) ?_   -- 1
  refine TrC.take rfl (step_storeP rfl rfl rfl rfl rfl (.inl rfl) ty30 rfl rfl rfl) ?_   -- 2
  refine TrC.done ?_
  refine AT.seq ?_
  refine AT.seq ?_
  refine AT.region ?_   -- region 2 ref.go:193
  refine TrC.take rfl (step_assign rfl rfl rfl) ?_   -- 0
  refine TrC.done ?_
  refine AT.block ?_   -- block 0
  refine AT.loopP (fun i : Nat => i ≤ l.length ∧ i ≤ 20) (fun i => mkS [(0, .t (.slice 3 (l.map encB))), (2, .p 2 0), (3, .p 3 0), (4, .t (.i i))] [(2, .box 30 [.t (.slice 3 []), .t (.slice 2 []), .t (.i 0)]), (3, .box 30 [.t (.slice 3 (((l.take i).foldl step ⟨[], [], 1⟩).fl.map encP)), .t (.slice 2 (((l.take i).foldl step ⟨[], [], 1⟩).cuts.map encC)), .t (.i ((l.take i).foldl step ⟨[], [], 1⟩).next)])]) (fun i => 20 - i) (0) (⟨by omega, by omega⟩) (fun a w hs => Sat.wk [] (.cons (.t (.refl _)) (.cons (.p rfl) (.cons (.p rfl) (.cons (.t (.refl _)) (.nil))))) (.cons rfl (.box (.cons (.t (.refl _)) (.cons (.t (.refl _)) (.cons (.t (.refl _)) (.nil))))) (.cons rfl (.box (.cons (.t (.refl _)) (.cons (.t (.refl _)) (.cons (.t (.refl _)) (.nil))))) (.nil))) rfl rfl a w hs) (fun ix hix => ?_)
  obtain ⟨hi, h20⟩ := hix
  have hv : VN ((l.take ix).foldl step ⟨[], [], 1⟩) := VN.made0.steps _
  refine AT.seq ?_
  refine AT.seq ?_
  refine AT.region ?_   -- region 3 ref.go:193
  refine TrC.take rfl (step_move rfl rfl rfl) ?_   -- 0
  refine TrC.take rfl (step_move rfl rfl rfl) ?_   -- 1
  refine TrC.take rfl (step_lenT (rt := 0) rfl rfl sl22 rfl) ?_   -- 2
  refine TrC.take rfl (step_bin rfl rfl rfl rfl rfl) ?_   -- 3
  refine TrC.take rfl (step_move rfl rfl rfl) ?_   -- 4
  refine TrC.cases (d := 10) rfl (fun h10 => ?_) (fun h10 => ?_)
  · -- t10 = true
    have hlt : ix < l.length := by have h := h10; simp at h; omega
    refine TrC.take ⟨_, _, rfl, rfl, rfl⟩ (step_move rfl rfl rfl) ?_   -- 5
    refine TrC.take ⟨_, _, rfl, rfl, rfl⟩ (step_bin rfl rfl rfl rfl rfl) ?_   -- 6
    refine TrC.take rfl (step_pick rfl rfl rfl rfl) ?_   -- 7
    refine TrC.done ?_
    refine AT.cond rfl (fun h13 => ?_) (fun h13 => ?_)   -- t13
    · -- true
      have hlt2 : ix < 20 := by have h := h13; simp at h; omega
      have hget : (l.map encB)[ix]? = some (.agg [.u8 l[ix].1, .u8 l[ix].2.1, .u8 l[ix].2.2]) := by rw [List.getElem?_map, List.getElem?_eq_getElem hlt]; rfl
      have hbx := hb _ (List.getElem_mem hlt)
      refine AT.skip ?_
      refine AT.seq ?_
      refine AT.block ?_   -- block 1
      refine AT.regionD mixed rfl ?_   -- region 5 ref.go:194
      refine TrC.take rfl (step_loadPN rfl rfl rfl ty30 rfl rfl rfl) ?_   -- 0
      refine TrC.take rfl (step_move rfl rfl rfl) ?_   -- 1
      refine TrC.take rfl (step_move rfl rfl rfl) ?_   -- 2
      refine TrC.take rfl (step_indexAddrT (v := .agg [.u8 l[ix].1, .u8 l[ix].2.1, .u8 l[ix].2.2]) rfl rfl rfl sl22 (by omega) (by first | exact hget | simpa using hget) rfl rfl) ?_   -- 3
      refine TrC.take rfl (step_loadTN rfl rfl ty47 rfl rfl) ?_   -- 4
      refine TrC.take rfl (step_call0 rfl rfl (C28 ((l.take ix).foldl step ⟨[], [], 1⟩) l[ix].1 l[ix].2.1 l[ix].2.2 hbx.1 hbx.2.1 hbx.2.2 (by have := hv.nl; omega) (by have := hv.cl; omega) (by have := hv.n1; omega)) rfl) ?_   -- 5
      refine TrC.take rfl (step_storeP rfl rfl rfl rfl rfl (.inl rfl) ty30 rfl rfl rfl) ?_   -- 6
      refine TrC.doneD rfl ?_
      refine AT.region ?_   -- region 4 ref.go:193
      refine TrC.take rfl (step_move rfl rfl rfl) ?_   -- 0
      refine TrC.take rfl (step_addI rfl rfl rfl (by omega) (by omega) rfl) ?_   -- 1
      refine TrC.take rfl (step_assign rfl rfl rfl) ?_   -- 2
      refine TrC.done ?_
      have hst : (l.take (ix + 1)).foldl step ⟨[], [], 1⟩ = step ((l.take ix).foldl step ⟨[], [], 1⟩) l[ix] := by rw [take_snoc hlt, List.foldl_append]; rfl
      exact ⟨ix + 1, ⟨by omega, by omega⟩, by show 20 - (ix + 1) < 20 - ix; omega, Sat.wk [] (.cons (.t (.refl _)) (.cons (.p rfl) (.cons (.p rfl) (.cons (.t (conv_i (by simp))) (.nil))))) (.cons rfl (.box (.cons (.t (.refl _)) (.cons (.t (.refl _)) (.cons (.t (.refl _)) (.nil))))) (.cons rfl (.box (.cons (.t (conv_eq (by rw [hst]))) (.cons (.t (conv_eq (by rw [hst]))) (.cons (.t (conv_eq (by rw [hst]))) .nil)))) (.nil))) rfl rfl⟩
    · -- false
      have hge2 : ¬ ix < 20 := by have h := h13; simp at h; omega
      refine AT.exit (Or.inl ⟨rfl, ?_⟩)   -- exit 0
      refine AT.seq ?_
      refine AT.region ?_   -- region 6 ref.go:196
      refine TrC.take rfl (step_loadPN rfl rfl rfl ty30 rfl rfl rfl) ?_   -- 0
      refine TrC.take rfl (step_storeP rfl rfl rfl rfl rfl (.inl rfl) ty30 rfl rfl rfl) ?_   -- 1
      refine TrC.done ?_
      refine AT.ret ?_
      have hm : made l = (l.take ix).foldl step ⟨[], [], 1⟩ := by
        unfold made; congr 1
        first
        | (have : ix = 20 := by omega
           rw [this])
        | (rw [List.take_of_length_le (by omega), List.take_of_length_le (by omega)])
      exact Ret.one rfl (ResR.cellN rfl rfl ty30 rfl rfl (conv_eq (by rw [hm]; rfl)))
  · -- t10 = false
    have hge : ¬ ix < l.length := by have h := h10; simp at h; omega
    refine TrC.skip ⟨_, _, rfl, rfl, rfl⟩ ?_   -- 5
    refine TrC.skip ⟨_, _, rfl, rfl, rfl⟩ ?_   -- 6
    refine TrC.take rfl (step_pick rfl rfl rfl rfl) ?_   -- 7
    refine TrC.done ?_
    refine AT.condF rfl ?_   -- t13
    refine AT.exit (Or.inl ⟨rfl, ?_⟩)   -- exit 0
    refine AT.seq ?_
    refine AT.region ?_   -- region 6 ref.go:196
    refine TrC.take rfl (step_loadPN rfl rfl rfl ty30 rfl rfl rfl) ?_   -- 0
    refine TrC.take rfl (step_storeP rfl rfl rfl rfl rfl (.inl rfl) ty30 rfl rfl rfl) ?_   -- 1
    refine TrC.done ?_
    refine AT.ret ?_
    have hm : made l = (l.take ix).foldl step ⟨[], [], 1⟩ := by
      unfold made; congr 1
      first
      | (have : ix = 20 := by omega
         rw [this])
      | (rw [List.take_of_length_le (by omega), List.take_of_length_le (by omega)])
    exact Ret.one rfl (ResR.cellN rfl rfl ty30 rfl rfl (conv_eq (by rw [hm]; rfl)))

end Go.Proofs.Ytnemmdbafngppaa.Net
