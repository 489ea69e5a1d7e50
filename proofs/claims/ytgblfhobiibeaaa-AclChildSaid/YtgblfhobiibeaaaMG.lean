/- Parts of this proof, one after the other; each says what it proves. No condition. -/
import Derived.Test.YtgblfhobiibeaaaME
import Derived.Test.YtgblfhobiibeaaaMD
import Derived.Test.YtgblfhobiibeaaaMF
/- Contracts of functions of this translation. Printed by wip/tools/gen.py out of wip/acl/ann.py. No condition. -/
set_option linter.unusedVariables false
set_option linter.unusedSimpArgs false
namespace Go.Proofs.Ytgblfhobiibeaaa.Acl
open Go.Proofs.Ytgblfhobiibeaaa.Abs
set_option maxRecDepth 100000
set_option maxHeartbeats 4000000
theorem C29 (x0 x1 x2 : Int) (h0 : 0 ≤ x0 ∧ x0 ≤ 255) (h1 : 0 ≤ x1 ∧ x1 ≤ 255) (h2 : 0 ≤ x2 ∧ x2 ≤ 255) : Has Try.prog 29 [.agg [.u8 x0, .u8 x1, .u8 x2]] (encA (ace (x0, x1, x2))) := by   -- burgage/burgageref02.Ace
  obtain ⟨i, hi, hik⟩ : ∃ i : Nat, i < 6 ∧ x0 % 6 = i := ⟨(x0 % 6).toNat, by omega, by omega⟩
  have hw : (ace (x0, x1, x2)).who = whos.getD i 0 := by simp [ace, hik]
  have hq0 := quo8 (n := 6) h0 (by omega)
  have hq2 := quo8 (n := 3) h2 (by omega)
  refine Has.intro 33 Try.func29 (by kernel_rfl) rfl rfl fun w ok => ?_
  refine AT.seq ?_
  refine AT.region ?_   -- region 0 ref.go:207
  refine TrC.take rfl (step_box rfl rfl rfl rfl rfl rfl rfl) ?_   -- 0
  refine TrC.take rfl (step_alloc rfl rfl ze31 rfl rfl rfl) ?_   -- 1
  refine TrC.done ?_
  refine AT.seq ?_
  refine AT.region ?_   -- region 1 ref.go:208
  refine TrC.take rfl (step_buildSliceT rfl sl70 ze3 rfl rfl rfl rfl rfl rfl rfl rfl rfl rfl rfl rfl) ?_   -- 0
  refine TrC.take rfl (step_indexAddrP rfl rfl rfl ar45 (by decide) (by decide) rfl) ?_   -- 1
  refine TrC.take rfl (step_loadP1 rfl rfl rfl ty5 rfl rfl) ?_   -- 2
  refine TrC.take rfl (step_convI rfl rfl in5 in3 (by omega) (by omega) rfl) ?_   -- 3
  first | refine TrC.take rfl (step_remI rfl rfl rfl (by omega) (by first | omega | (simp; done) | (simp; omega)) rfl) ?_ | refine TrC.take rfl (step_bin rfl rfl rfl rfl rfl) ?_   -- 4
  refine TrC.spell 8 rfl (iv hik) ?_
  refine TrC.take rfl (step_indexAddrT (v := .i (whos.getD i 0)) rfl rfl rfl sl70 (by omega) (by first | exact whos_at hi | (simp only [Int.toNat_natCast]; exact whos_at hi)) rfl rfl) ?_   -- 5
  refine TrC.take rfl (step_loadT1 rfl rfl ty3 rfl rfl) ?_   -- 6
  refine TrC.take rfl (step_assign rfl rfl rfl) ?_   -- 7
  refine TrC.done ?_
  refine AT.seq ?_
  refine AT.region ?_   -- region 2 ref.go:209
  refine TrC.take rfl (step_move rfl rfl rfl) ?_   -- 0
  refine TrC.take rfl (step_indexAddrP rfl rfl rfl ar45 (by decide) (by decide) rfl) ?_   -- 1
  refine TrC.take rfl (step_loadP1 rfl rfl rfl ty5 rfl rfl) ?_   -- 2
  refine TrC.take rfl (step_bin rfl rfl rfl rfl rfl) ?_   -- 3
  refine TrC.spell 14 rfl (iv hq0) ?_
  first | refine TrC.take rfl (step_remI rfl rfl rfl (by omega) (by first | omega | (simp; done) | (simp; omega)) rfl) ?_ | refine TrC.take rfl (step_bin rfl rfl rfl rfl rfl) ?_   -- 4
  refine TrC.take rfl (step_bin rfl rfl rfl rfl rfl) ?_   -- 5
  refine TrC.take rfl (step_indexAddrP rfl rfl rfl ar45 (by decide) (by decide) rfl) ?_   -- 6
  refine TrC.take rfl (step_loadP1 rfl rfl rfl ty5 rfl rfl) ?_   -- 7
  refine TrC.take rfl (step_convI rfl rfl in5 in3 (by omega) (by omega) rfl) ?_   -- 8
  first | refine TrC.take rfl (step_remI rfl rfl rfl (by omega) (by first | omega | (simp; done) | (simp; omega)) rfl) ?_ | refine TrC.take rfl (step_bin rfl rfl rfl rfl rfl) ?_   -- 9
  refine TrC.take rfl (step_addI rfl rfl rfl (by first | omega | (simp; done) | (simp; omega)) (by first | omega | (simp; done) | (simp; omega)) rfl) ?_   -- 10
  refine TrC.take rfl (step_indexAddrP rfl rfl rfl ar45 (by decide) (by decide) rfl) ?_   -- 11
  refine TrC.take rfl (step_loadP1 rfl rfl rfl ty5 rfl rfl) ?_   -- 12
  refine TrC.take rfl (step_convI rfl rfl in5 in3 (by omega) (by omega) rfl) ?_   -- 13
  first | refine TrC.take rfl (step_remI rfl rfl rfl (by omega) (by first | omega | (simp; done) | (simp; omega)) rfl) ?_ | refine TrC.take rfl (step_bin rfl rfl rfl rfl rfl) ?_   -- 14
  refine TrC.take rfl (step_addI rfl rfl rfl (by first | omega | (simp; done) | (simp; omega)) (by first | omega | (simp; done) | (simp; omega)) rfl) ?_   -- 15
  refine TrC.take rfl (step_indexAddrP rfl rfl rfl ar45 (by decide) (by decide) rfl) ?_   -- 16
  refine TrC.take rfl (step_loadP1 rfl rfl rfl ty5 rfl rfl) ?_   -- 17
  refine TrC.take rfl (step_bin rfl rfl rfl rfl rfl) ?_   -- 18
  refine TrC.spell 29 rfl (iv hq2) ?_
  first | refine TrC.take rfl (step_remI rfl rfl rfl (by omega) (by first | omega | (simp; done) | (simp; omega)) rfl) ?_ | refine TrC.take rfl (step_bin rfl rfl rfl rfl rfl) ?_   -- 19
  refine TrC.take rfl (step_bin rfl rfl rfl rfl rfl) ?_   -- 20
  refine TrC.take rfl (step_buildS rfl ze31 rfl pl31 rfl rfl rfl rfl) ?_   -- 21
  refine TrC.take rfl (step_storeP rfl rfl rfl rfl rfl (.inl rfl) ty31 rfl rfl rfl) ?_   -- 22
  refine TrC.done ?_
  refine AT.ret ?_
  exact Ret.one rfl (ResR.cellN rfl rfl ty31 rfl rfl (conv_eq (by rw [← hw]; rfl)))

end Go.Proofs.Ytgblfhobiibeaaa.Acl

/- Contracts of functions of this translation. Printed by wip/tools/gen.py out of wip/acl/ann.py. No condition. -/
set_option linter.unusedVariables false
set_option linter.unusedSimpArgs false
namespace Go.Proofs.Ytgblfhobiibeaaa.Acl
open Go.Proofs.Ytgblfhobiibeaaa.Abs
set_option maxRecDepth 100000
set_option maxHeartbeats 4000000
theorem C12 (l : List (Int × Int × Int)) (hb : ∀ x ∈ l, (0 ≤ x.1 ∧ x.1 ≤ 255) ∧ (0 ≤ x.2.1 ∧ x.2.1 ≤ 255) ∧ (0 ≤ x.2.2 ∧ x.2.2 ≤ 255)) : Has Try.prog 12 [.slice 3 (l.map encB)] (.slice 5 ((listA l).map encA)) := by   -- burgage/burgageref02.List
  refine Has.intro 35 Try.func12 (by kernel_rfl) rfl rfl fun w ok => ?_
  refine AT.seq ?_
  refine AT.region ?_   -- region 0 ref.go:213
  refine TrC.take rfl (step_assignN (sz := 5) rfl rfl) ?_   -- 0
  refine TrC.done ?_
  refine AT.seq ?_
  refine AT.region ?_   -- region 1 ref.go:214
  refine TrC.take rfl (step_buildSliceH rfl rfl sl22 ze31 rfl rfl rfl rfl rfl rfl rfl rfl rfl rfl rfl rfl rfl) ?_   -- 0
  refine TrC.take rfl (step_assign rfl rfl rfl) ?_   -- 1
  refine TrC.done ?_
  refine AT.seq ?_
  refine AT.seq ?_
  refine AT.region ?_   -- region 2 ref.go:215
  refine TrC.take rfl (step_assign rfl rfl rfl) ?_   -- 0
  refine TrC.done ?_
  refine AT.block ?_   -- block 0
  refine AT.loopP (fun i : Nat => i ≤ l.length ∧ i ≤ 12) (fun i => mkS [(0, .t (.slice 3 (l.map encB))), (3, .h 50), (4, .t (.i i))] [(50, .row 31 5 ((gath l i).map encA))]) (fun i => 12 - i) (0) (⟨by omega, by omega⟩) (fun a w hs => Sat.wk [(50, 6)] (.cons (.t (.refl _)) (.cons (.h (j := 50) rfl) (.cons (.t (.refl _)) (.nil)))) (.cons rfl (.row rfl) (.nil)) rfl rfl a w hs) (fun i hi => ?_)
  obtain ⟨hi, h12⟩ := hi
  have hgl := gath_len l i
  refine AT.seq ?_
  refine AT.seq ?_
  refine AT.region ?_   -- region 3 ref.go:215
  refine TrC.take rfl (step_move rfl rfl rfl) ?_   -- 0
  refine TrC.take rfl (step_move rfl rfl rfl) ?_   -- 1
  refine TrC.take rfl (step_lenT (rt := 0) rfl rfl sl23 rfl) ?_   -- 2
  refine TrC.take rfl (step_bin rfl rfl rfl rfl rfl) ?_   -- 3
  refine TrC.take rfl (step_move rfl rfl rfl) ?_   -- 4
  refine TrC.cases (d := 11) rfl (fun h11 => ?_) (fun h11 => ?_)
  · -- t11 = true
    have hlt : i < l.length := by have h := h11; simp at h; omega
    refine TrC.take ⟨_, _, rfl, rfl, rfl⟩ (step_move rfl rfl rfl) ?_   -- 5
    refine TrC.take ⟨_, _, rfl, rfl, rfl⟩ (step_bin rfl rfl rfl rfl rfl) ?_   -- 6
    refine TrC.take rfl (step_pick rfl rfl rfl rfl) ?_   -- 7
    refine TrC.done ?_
    refine AT.cond rfl (fun h14 => ?_) (fun h14 => ?_)   -- t14
    · -- true
      have hlt2 : i < 12 := by have h := h14; simp at h; omega
      obtain ⟨x0, x1, x2, hx⟩ : ∃ x0 x1 x2, l[i] = (x0, x1, x2) := ⟨_, _, _, rfl⟩
      have hget : (l.map encB)[i]? = some (.agg [.u8 x0, .u8 x1, .u8 x2]) := by rw [List.getElem?_map, List.getElem?_eq_getElem hlt, hx]; rfl
      obtain ⟨hx0, hx1, hx2⟩ := hb _ (List.getElem_mem hlt)
      rw [hx] at hx0 hx1 hx2
      simp only at hx0 hx1 hx2
      refine Exists.elim (show ∃ e, e = ace (x0, x1, x2) from ⟨_, rfl⟩) (fun e he => ?_)
      have hle : ace l[i] = e := by rw [hx, he]
      refine AT.skip ?_
      refine AT.seq ?_
      refine AT.block ?_   -- block 1
      refine AT.seq ?_
      refine AT.region ?_   -- region 5 ref.go:216
      refine TrC.take rfl (step_move rfl rfl rfl) ?_   -- 0
      refine TrC.take rfl (step_move rfl rfl rfl) ?_   -- 1
      refine TrC.take rfl (step_indexAddrT (v := .agg [.u8 x0, .u8 x1, .u8 x2]) rfl rfl rfl sl23 (by omega) (by first | exact hget | simpa using hget) rfl rfl) ?_   -- 2
      refine TrC.take rfl (step_loadTN rfl rfl ty45 rfl rfl) ?_   -- 3
      refine TrC.take rfl (step_call0 rfl rfl ((C29 x0 x1 x2 hx0 hx1 hx2).eq (congrArg encA he.symm)) rfl) ?_   -- 4
      refine TrC.take rfl (step_alloc rfl rfl ze31 rfl rfl rfl) ?_   -- 5
      refine TrC.take rfl (step_storeP rfl rfl rfl rfl rfl (.inl rfl) ty31 rfl rfl rfl) ?_   -- 6
      refine TrC.done ?_
      refine AT.seq ?_
      refine AT.region ?_   -- region 6 ref.go:217
      refine TrC.take rfl (step_move rfl rfl rfl) ?_   -- 0
      refine TrC.take rfl (step_loadPN rfl rfl rfl ty31 rfl rfl rfl) ?_   -- 1
      refine TrC.take rfl (step_callB rfl rfl (C31 (gath l i) e (by omega)) (ConvL.refl _) rfl) ?_   -- 2
      refine TrC.take rfl (step_bin rfl rfl rfl rfl rfl) ?_   -- 3
      refine TrC.done ?_
      refine AT.cond rfl (fun h25 => ?_) (fun h25 => ?_)   -- t25
      · -- true
        have hz : at' (gath l i) (ace l[i]) = 0 := by rw [hle]; simpa using h25
        refine AT.region ?_   -- region 7 ref.go:218
        refine TrC.take rfl (step_move rfl rfl rfl) ?_   -- 0
        refine TrC.take rfl (step_loadPN rfl rfl rfl ty31 rfl rfl rfl) ?_   -- 1
        refine TrC.take rfl (step_buildSliceT rfl sl22 ze31 rfl rfl rfl rfl rfl rfl rfl rfl rfl rfl rfl rfl) ?_   -- 2
        refine TrC.take rfl (step_append rfl rfl rfl rfl rfl (.refl _) sl22 ze31 rfl rfl rfl (by first | (simp; done) | (simp; omega) | omega) rfl rfl) ?_   -- 3
        refine TrC.take rfl (step_assign rfl rfl rfl) ?_   -- 4
        refine TrC.done ?_
        refine AT.region ?_   -- region 4 ref.go:215
        refine TrC.take rfl (step_move rfl rfl rfl) ?_   -- 0
        refine TrC.take rfl (step_addI rfl rfl rfl (by first | omega | (simp; done) | (simp; omega)) (by first | omega | (simp; done) | (simp; omega)) rfl) ?_   -- 1
        refine TrC.take rfl (step_assign rfl rfl rfl) ?_   -- 2
        refine TrC.done ?_
        exact ⟨i + 1, ⟨by omega, by omega⟩, by show 12 - (i + 1) < 12 - i; omega, Sat.wk [(50, 29)] (.cons (.t (.refl _)) (.cons (.h (j := 50) rfl) (.cons (.t (conv_i (by simp))) (.nil)))) (.cons rfl (.row (by rw [gath_new hlt hz, hle]; simp [encA])) (.nil)) rfl rfl⟩
      · -- false
        have hz : at' (gath l i) (ace l[i]) ≠ 0 := by rw [hle]; simpa using h25
        refine AT.skip ?_
        refine AT.region ?_   -- region 4 ref.go:215
        refine TrC.take rfl (step_move rfl rfl rfl) ?_   -- 0
        refine TrC.take rfl (step_addI rfl rfl rfl (by first | omega | (simp; done) | (simp; omega)) (by first | omega | (simp; done) | (simp; omega)) rfl) ?_   -- 1
        refine TrC.take rfl (step_assign rfl rfl rfl) ?_   -- 2
        refine TrC.done ?_
        exact ⟨i + 1, ⟨by omega, by omega⟩, by show 12 - (i + 1) < 12 - i; omega, Sat.wk [] (.cons (.t (.refl _)) (.cons (.h rfl) (.cons (.t (conv_i (by simp))) (.nil)))) (.cons rfl (.row (by rw [gath_old hlt hz])) (.nil)) rfl rfl⟩
    · -- false
      refine AT.exit (Or.inl ⟨rfl, ?_⟩)   -- exit 0
      refine AT.seq ?_
      have hend : gath l i = gath l 12 := gath_end hi h12 (by first | exact .inl hge | (right; have h := h14; simp at h; omega))
      refine AT.wk (sl := [(3, .t (.slice 5 ((gath l i).map encA)))]) (ml := []) [] (.cons (.fr rfl rfl) (.nil)) (.nil) rfl rfl ?_
      refine AT.wk (sl := [(3, .t (.slice 5 ((gath l 12).map encA)))]) (ml := []) [] (.cons (.t (conv_eq (by rw [hend]))) (.nil)) (.nil) rfl rfl ?_
      have hg12 := gath_len l 12
      have hf1 := own_len (gath l 12) false
      have hf2 := own_len (gath l 12) true
      refine AT.region ?_   -- region 8 ref.go:221
      refine TrC.take rfl (step_move rfl rfl rfl) ?_   -- 0
      refine TrC.take rfl (step_callH0 rfl rfl rfl (C30 (gath l 12) false (by omega)) rfl rfl) ?_   -- 1
      refine TrC.take rfl (step_move rfl rfl rfl) ?_   -- 2
      refine TrC.take rfl (step_call0 rfl rfl (HasOwn.has (C30 (gath l 12) true (by omega))) rfl) ?_   -- 3
      refine TrC.take rfl (Step.toT (step_append rfl rfl rfl rfl rfl (.refl _) sl22 ze31 rfl rfl rfl (by first | (simp; done) | (simp; omega) | omega) rfl rfl) rfl) ?_   -- 4
      refine TrC.take rfl (step_assign rfl rfl rfl) ?_   -- 5
      refine TrC.done ?_
      refine AT.ret ?_
      exact Ret.one rfl (ResR.tmp rfl (conv_eq (by simp [listA, parted])))
  · -- t11 = false
    have hge : ¬ i < l.length := by have h := h11; simp at h; omega
    refine TrC.skip ⟨_, _, rfl, rfl, rfl⟩ ?_   -- 5
    refine TrC.skip ⟨_, _, rfl, rfl, rfl⟩ ?_   -- 6
    refine TrC.take rfl (step_pick rfl rfl rfl rfl) ?_   -- 7
    refine TrC.done ?_
    refine AT.condF rfl ?_   -- t14
    refine AT.exit (Or.inl ⟨rfl, ?_⟩)   -- exit 0
    refine AT.seq ?_
    have hend : gath l i = gath l 12 := gath_end hi h12 (by first | exact .inl hge | (right; have h := h14; simp at h; omega))
    refine AT.wk (sl := [(3, .t (.slice 5 ((gath l i).map encA)))]) (ml := []) [] (.cons (.fr rfl rfl) (.nil)) (.nil) rfl rfl ?_
    refine AT.wk (sl := [(3, .t (.slice 5 ((gath l 12).map encA)))]) (ml := []) [] (.cons (.t (conv_eq (by rw [hend]))) (.nil)) (.nil) rfl rfl ?_
    have hg12 := gath_len l 12
    have hf1 := own_len (gath l 12) false
    have hf2 := own_len (gath l 12) true
    refine AT.region ?_   -- region 8 ref.go:221
    refine TrC.take rfl (step_move rfl rfl rfl) ?_   -- 0
    refine TrC.take rfl (step_callH0 rfl rfl rfl (C30 (gath l 12) false (by omega)) rfl rfl) ?_   -- 1
    refine TrC.take rfl (step_move rfl rfl rfl) ?_   -- 2
    refine TrC.take rfl (step_call0 rfl rfl (HasOwn.has (C30 (gath l 12) true (by omega))) rfl) ?_   -- 3
    refine TrC.take rfl (Step.toT (step_append rfl rfl rfl rfl rfl (.refl _) sl22 ze31 rfl rfl rfl (by first | (simp; done) | (simp; omega) | omega) rfl rfl) rfl) ?_   -- 4
    refine TrC.take rfl (step_assign rfl rfl rfl) ?_   -- 5
    refine TrC.done ?_
    refine AT.ret ?_
    exact Ret.one rfl (ResR.tmp rfl (conv_eq (by simp [listA, parted])))

end Go.Proofs.Ytgblfhobiibeaaa.Acl

/- Contracts of functions of this translation. Printed by wip/tools/gen.py out of wip/acl/ann.py. No condition. -/
set_option linter.unusedVariables false
set_option linter.unusedSimpArgs false
namespace Go.Proofs.Ytgblfhobiibeaaa.Acl
open Go.Proofs.Ytgblfhobiibeaaa.Abs
set_option maxRecDepth 100000
set_option maxHeartbeats 4000000
theorem C11 (l : List Ace) : Has Try.prog 11 [.slice 5 (l.map encA)] (.slice 5 ((l.take 20).map encA)) := by   -- burgage/burgagelaw02.short
  refine Has.intro 10 Try.func11 (by kernel_rfl) rfl rfl fun w ok => ?_
  refine AT.seq ?_
  refine AT.region ?_   -- region 0 law.go:30
  refine TrC.take rfl (step_assignN (sz := 5) rfl rfl) ?_   -- 0
  refine TrC.done ?_
  refine AT.seq ?_
  refine AT.region ?_   -- region 1 law.go:30
  refine TrC.take rfl (step_buildSliceH rfl rfl sl22 ze31 rfl rfl rfl rfl rfl rfl rfl rfl rfl rfl rfl rfl rfl) ?_   -- 0
  refine TrC.take rfl (step_move rfl rfl rfl) ?_   -- 1
  refine TrC.take rfl (step_move rfl rfl rfl) ?_   -- 2
  refine TrC.take rfl (step_lenT (rt := 0) rfl rfl sl22 rfl) ?_   -- 3
  refine TrC.take rfl (step_min rfl rfl rfl rfl) ?_   -- 4
  refine TrC.take rfl (step_sliceT rfl rfl rfl rfl sl22 (by first | (simp; done) | (simp; omega) | omega) (by first | (simp; done) | (simp; omega) | omega) (by first | (simp; done) | (simp; omega) | omega) rfl) ?_   -- 5
  refine TrC.take rfl (Step.toT (step_append rfl rfl rfl rfl rfl (.refl _) sl22 ze31 rfl rfl rfl (by first | (simp; done) | (simp; omega) | omega) rfl rfl) rfl) ?_   -- 6
  refine TrC.take rfl (step_assign rfl rfl rfl) ?_   -- 7
  refine TrC.done ?_
  refine AT.ret ?_
  exact Ret.one rfl (ResR.tmp rfl (conv_eq (by congr 2; simp; omega)))

end Go.Proofs.Ytgblfhobiibeaaa.Acl

/- Contracts of functions of this translation. Printed by wip/tools/gen.py out of wip/acl/ann.py. No condition. -/
set_option linter.unusedVariables false
set_option linter.unusedSimpArgs false
namespace Go.Proofs.Ytgblfhobiibeaaa.Acl
open Go.Proofs.Ytgblfhobiibeaaa.Abs
set_option maxRecDepth 100000
set_option maxHeartbeats 4000000
theorem C10 : Has Try.prog 10 [] (.b true) := by   -- burgage/burgagelaw02.sanity
  have k1 : put [⟨5, true, 1, 3, false⟩] ⟨5, true, 6, 3, false⟩ = ([⟨5, true, 6, 3, false⟩], 0) := by decide +kernel
  have k2 : put [⟨5, true, 1, 3, false⟩] ⟨5, true, 0, 3, false⟩ = ([], 0) := by decide +kernel
  have k3 : put [⟨5, true, 1, 3, false⟩] ⟨5, true, 6, 3, true⟩ = ([], 20) := by decide +kernel
  have k4 : merge ⟨[⟨5, true, 1, 3, false⟩], [⟨5, true, 6, 3, false⟩], [⟨5, false, 2, 2, false⟩, ⟨-1, true, 3, 2, false⟩]⟩ = ([], false) := by decide +kernel
  have v1 : VL [⟨5, false, 2, 2, false⟩, ⟨-1, true, 3, 2, false⟩] := (valid_VL _).1 (by decide +kernel)
  have v2 : VL [⟨5, true, 1, 3, false⟩] := (valid_VL _).1 (by decide +kernel)
  have v3 : VL [⟨5, true, 6, 3, false⟩] := (valid_VL _).1 (by decide +kernel)
  refine Has.intro 153 Try.func10 (by kernel_rfl) rfl rfl fun w ok => ?_
  refine AT.seq ?_
  refine AT.region ?_   -- region 0 law.go:17
  refine TrC.take rfl (step_assign rfl rfl rfl) ?_   -- 0
  refine TrC.done ?_
  refine AT.seq ?_
  refine AT.region ?_   -- region 1 law.go:18
  refine TrC.take rfl (step_buildS rfl ze31 rfl pl31 rfl rfl rfl rfl) ?_   -- 0
  refine TrC.take rfl (step_buildS rfl ze31 rfl pl31 rfl rfl rfl rfl) ?_   -- 1
  refine TrC.take rfl (step_buildSliceT rfl sl22 ze31 rfl rfl rfl rfl rfl rfl rfl rfl rfl rfl rfl rfl) ?_   -- 2
  refine TrC.take rfl (step_assign rfl rfl rfl) ?_   -- 3
  refine TrC.done ?_
  refine AT.seq ?_
  refine AT.region ?_   -- region 2 law.go:19
  refine TrC.take rfl (step_buildS rfl ze31 rfl pl31 rfl rfl rfl rfl) ?_   -- 0
  refine TrC.take rfl (step_buildSliceT rfl sl22 ze31 rfl rfl rfl rfl rfl rfl rfl rfl rfl rfl rfl rfl) ?_   -- 1
  refine TrC.take rfl (step_assign rfl rfl rfl) ?_   -- 2
  refine TrC.done ?_
  refine AT.seq ?_
  refine AT.region ?_   -- region 3 law.go:20
  refine TrC.take rfl (step_buildS rfl ze31 rfl pl31 rfl rfl rfl rfl) ?_   -- 0
  refine TrC.take rfl (step_buildSliceT rfl sl22 ze31 rfl rfl rfl rfl rfl rfl rfl rfl rfl rfl rfl rfl) ?_   -- 1
  refine TrC.take rfl (step_assign rfl rfl rfl) ?_   -- 2
  refine TrC.done ?_
  refine AT.seq ?_
  refine AT.region ?_   -- region 4 law.go:21
  refine TrC.take rfl (step_move rfl rfl rfl) ?_   -- 0
  refine TrC.take rfl (step_call0 rfl rfl (C15 [⟨5, false, 2, 2, false⟩, ⟨-1, true, 3, 2, false⟩] 5 9 (by decide)) rfl) ?_   -- 1
  refine TrC.take rfl (step_bin rfl rfl rfl rfl rfl) ?_   -- 2
  refine TrC.spell 21 rfl (bv (b := true) (by decide +kernel)) ?_
  refine TrC.take rfl (step_move rfl rfl rfl) ?_   -- 3
  refine TrC.take ⟨_, _, rfl, rfl, rfl⟩ (step_move rfl rfl rfl) ?_   -- 4
  refine TrC.take ⟨_, _, rfl, rfl, rfl⟩ (step_call0 rfl rfl (C15 [⟨5, false, 2, 2, false⟩, ⟨-1, true, 3, 2, false⟩] 6 9 (by decide)) rfl) ?_   -- 5
  refine TrC.take ⟨_, _, rfl, rfl, rfl⟩ (step_bin rfl rfl rfl rfl rfl) ?_   -- 6
  refine TrC.spell 25 rfl (bv (b := true) (by decide +kernel)) ?_
  refine TrC.take rfl (step_pick rfl rfl rfl rfl) ?_   -- 7
  refine TrC.take rfl (step_move rfl rfl rfl) ?_   -- 8
  refine TrC.take ⟨_, _, rfl, rfl, rfl⟩ (step_move rfl rfl rfl) ?_   -- 9
  refine TrC.take ⟨_, _, rfl, rfl, rfl⟩ (step_call0 rfl rfl (C15 [⟨5, false, 2, 2, false⟩, ⟨-1, true, 3, 2, false⟩] 9 9 (by decide)) rfl) ?_   -- 10
  refine TrC.take ⟨_, _, rfl, rfl, rfl⟩ (step_bin rfl rfl rfl rfl rfl) ?_   -- 11
  refine TrC.spell 30 rfl (bv (b := true) (by decide +kernel)) ?_
  refine TrC.take rfl (step_pick rfl rfl rfl rfl) ?_   -- 12
  refine TrC.take rfl (step_move rfl rfl rfl) ?_   -- 13
  refine TrC.take ⟨_, _, rfl, rfl, rfl⟩ (step_call rfl rfl (C15 [] 0 9 (by decide)) (.cons (.nil _) (.cons (.refl _) (.cons (.refl _) .nil))) rfl) ?_   -- 14
  refine TrC.take ⟨_, _, rfl, rfl, rfl⟩ (step_bin rfl rfl rfl rfl rfl) ?_   -- 15
  refine TrC.spell 34 rfl (bv (b := true) (by decide +kernel)) ?_
  refine TrC.take rfl (step_pick rfl rfl rfl rfl) ?_   -- 16
  refine TrC.take rfl (step_move rfl rfl rfl) ?_   -- 17
  refine TrC.take ⟨_, _, rfl, rfl, rfl⟩ (step_move rfl rfl rfl) ?_   -- 18
  refine TrC.take ⟨_, _, rfl, rfl, rfl⟩ (step_call0 rfl rfl (C15 [⟨5, true, 1, 3, false⟩] 5 9 (by decide)) rfl) ?_   -- 19
  refine TrC.take ⟨_, _, rfl, rfl, rfl⟩ (step_bin rfl rfl rfl rfl rfl) ?_   -- 20
  refine TrC.spell 39 rfl (bv (b := true) (by decide +kernel)) ?_
  refine TrC.take rfl (step_pick rfl rfl rfl rfl) ?_   -- 21
  refine TrC.take rfl (step_move rfl rfl rfl) ?_   -- 22
  refine TrC.take ⟨_, _, rfl, rfl, rfl⟩ (step_move rfl rfl rfl) ?_   -- 23
  refine TrC.take ⟨_, _, rfl, rfl, rfl⟩ (step_call0 rfl rfl (C17 [⟨5, false, 2, 2, false⟩, ⟨-1, true, 3, 2, false⟩] 6 9 3 (by decide)) rfl) ?_   -- 24
  refine TrC.spell 43 rfl (bv (b := true) (by decide +kernel)) ?_
  refine TrC.take rfl (step_pick rfl rfl rfl rfl) ?_   -- 25
  refine TrC.take rfl (step_move rfl rfl rfl) ?_   -- 26
  refine TrC.take ⟨_, _, rfl, rfl, rfl⟩ (step_move rfl rfl rfl) ?_   -- 27
  refine TrC.take ⟨_, _, rfl, rfl, rfl⟩ (step_call0 rfl rfl (C17 [⟨5, false, 2, 2, false⟩, ⟨-1, true, 3, 2, false⟩] 6 9 4 (by decide)) rfl) ?_   -- 28
  refine TrC.spell 47 rfl (bv (b := false) (by decide +kernel)) ?_
  refine TrC.take ⟨_, _, rfl, rfl, rfl⟩ (step_not rfl rfl rfl) ?_   -- 29
  refine TrC.take rfl (step_pick rfl rfl rfl rfl) ?_   -- 30
  refine TrC.take rfl (step_assign rfl rfl rfl) ?_   -- 31
  refine TrC.done ?_
  refine AT.seq ?_
  refine AT.region ?_   -- region 5 law.go:22
  refine TrC.take rfl (step_move rfl rfl rfl) ?_   -- 0
  refine TrC.take rfl (step_buildS rfl ze31 rfl pl31 rfl rfl rfl rfl) ?_   -- 1
  refine TrC.take rfl (step_call0 rfl rfl ((C25 [⟨5, true, 1, 3, false⟩] ⟨5, true, 6, 3, false⟩ (by decide)).eq (show _ = T.tup [.slice 5 (([⟨5, true, 6, 3, false⟩] : List Ace).map encA), .i 0] from by rw [k1])) rfl) ?_   -- 2
  refine TrC.take rfl (step_move rfl rfl rfl) ?_   -- 3
  refine TrC.take rfl (step_extract rfl rfl rfl rfl) ?_   -- 4
  refine TrC.take rfl (step_extract rfl rfl rfl rfl) ?_   -- 5
  refine TrC.take rfl (step_assign rfl rfl rfl) ?_   -- 6
  refine TrC.take rfl (step_assign rfl rfl rfl) ?_   -- 7
  refine TrC.done ?_
  refine AT.seq ?_
  refine AT.region ?_   -- region 6 law.go:23
  refine TrC.take rfl (step_move rfl rfl rfl) ?_   -- 0
  refine TrC.take rfl (step_buildS rfl ze31 rfl pl31 rfl rfl rfl rfl) ?_   -- 1
  refine TrC.take rfl (step_call0 rfl rfl ((C25 [⟨5, true, 1, 3, false⟩] ⟨5, true, 0, 3, false⟩ (by decide)).eq (show _ = T.tup [.slice 5 (([] : List Ace).map encA), .i 0] from by rw [k2])) rfl) ?_   -- 2
  refine TrC.take rfl (step_move rfl rfl rfl) ?_   -- 3
  refine TrC.take rfl (step_extract rfl rfl rfl rfl) ?_   -- 4
  refine TrC.take rfl (step_extract rfl rfl rfl rfl) ?_   -- 5
  refine TrC.take rfl (step_assign rfl rfl rfl) ?_   -- 6
  refine TrC.take rfl (step_assign rfl rfl rfl) ?_   -- 7
  refine TrC.done ?_
  refine AT.seq ?_
  refine AT.region ?_   -- region 7 law.go:24
  refine TrC.take rfl (step_move rfl rfl rfl) ?_   -- 0
  refine TrC.take rfl (step_buildS rfl ze31 rfl pl31 rfl rfl rfl rfl) ?_   -- 1
  refine TrC.take rfl (step_call0 rfl rfl ((C25 [⟨5, true, 1, 3, false⟩] ⟨5, true, 6, 3, true⟩ (by decide)).eq (show _ = T.tup [.slice 5 (([] : List Ace).map encA), .i 20] from by rw [k3])) rfl) ?_   -- 2
  refine TrC.take rfl (step_move rfl rfl rfl) ?_   -- 3
  refine TrC.take rfl (step_extract rfl rfl rfl rfl) ?_   -- 4
  refine TrC.take rfl (step_extract rfl rfl rfl rfl) ?_   -- 5
  refine TrC.take rfl (step_assign rfl rfl rfl) ?_   -- 6
  refine TrC.take rfl (step_assign rfl rfl rfl) ?_   -- 7
  refine TrC.done ?_
  refine AT.seq ?_
  refine AT.region ?_   -- region 8 law.go:25
  refine TrC.take rfl (step_move rfl rfl rfl) ?_   -- 0
  refine TrC.take rfl (step_move rfl rfl rfl) ?_   -- 1
  refine TrC.take rfl (step_move rfl rfl rfl) ?_   -- 2
  refine TrC.take rfl (step_call0 rfl rfl ((C27 ⟨[⟨5, true, 1, 3, false⟩], [⟨5, true, 6, 3, false⟩], [⟨5, false, 2, 2, false⟩, ⟨-1, true, 3, 2, false⟩]⟩ v2 v3 v1).eq (show _ = T.agg [.slice 5 (([] : List Ace).map encA), .b false] from by rw [k4]; rfl)) rfl) ?_   -- 3
  refine TrC.take rfl (step_allocC rfl rfl ze42 zc42 rfl rfl rfl) ?_   -- 4
  refine TrC.take rfl (step_storeP rfl rfl rfl rfl rfl (.inl rfl) ty42 rfl rfl rfl) ?_   -- 5
  refine TrC.done ?_
  refine AT.seq ?_
  refine AT.regionD mixed rfl ?_   -- region 9 law.go:26
  refine TrC.take rfl (step_move rfl rfl rfl) ?_   -- 0
  refine TrC.take rfl (step_move rfl rfl rfl) ?_   -- 1
  refine TrC.take ⟨_, _, rfl, rfl, rfl⟩ (step_move rfl rfl rfl) ?_   -- 2
  refine TrC.take ⟨_, _, rfl, rfl, rfl⟩ (step_call0 rfl rfl (C21 [⟨5, true, 1, 3, false⟩] false (by decide)) rfl) ?_   -- 3
  refine TrC.take ⟨_, _, rfl, rfl, rfl⟩ (step_move rfl rfl rfl) ?_   -- 4
  refine TrC.take ⟨_, _, rfl, rfl, rfl⟩ (step_call0 rfl rfl (C20 (child [⟨5, true, 1, 3, false⟩] false) [⟨5, true, 1, 1, true⟩] (by decide +kernel)) rfl) ?_   -- 5
  refine TrC.spell 77 rfl (bv (b := true) (by decide +kernel)) ?_
  refine TrC.take rfl (step_pick rfl rfl rfl rfl) ?_   -- 6
  refine TrC.take rfl (step_move rfl rfl rfl) ?_   -- 7
  refine TrC.take ⟨_, _, rfl, rfl, rfl⟩ (step_move rfl rfl rfl) ?_   -- 8
  refine TrC.take ⟨_, _, rfl, rfl, rfl⟩ (step_bin rfl rfl rfl rfl rfl) ?_   -- 9
  refine TrC.spell 81 rfl (bv (b := true) (by decide +kernel)) ?_
  refine TrC.take rfl (step_pick rfl rfl rfl rfl) ?_   -- 10
  refine TrC.take rfl (step_move rfl rfl rfl) ?_   -- 11
  refine TrC.take ⟨_, _, rfl, rfl, rfl⟩ (step_move rfl rfl rfl) ?_   -- 12
  refine TrC.take ⟨_, _, rfl, rfl, rfl⟩ (step_lenT (rt := 0) rfl rfl sl22 rfl) ?_   -- 13
  refine TrC.take ⟨_, _, rfl, rfl, rfl⟩ (step_bin rfl rfl rfl rfl rfl) ?_   -- 14
  refine TrC.spell 86 rfl (bv (b := true) (by decide +kernel)) ?_
  refine TrC.take rfl (step_pick rfl rfl rfl rfl) ?_   -- 15
  refine TrC.take rfl (step_move rfl rfl rfl) ?_   -- 16
  refine TrC.take ⟨_, _, rfl, rfl, rfl⟩ (step_move rfl rfl rfl) ?_   -- 17
  refine TrC.take ⟨_, _, rfl, rfl, rfl⟩ (step_indexAddrT (v := .agg [.i 5, .b true, .i 6, .i 3, .b false]) rfl rfl rfl sl22 (by decide) rfl rfl rfl) ?_   -- 18
  refine TrC.take ⟨_, _, rfl, rfl, rfl⟩ (step_fieldAddrT rfl rfl fd31_2 rfl rfl rfl) ?_   -- 19
  refine TrC.take ⟨_, _, rfl, rfl, rfl⟩ (step_loadT1 rfl rfl ty3 rfl rfl) ?_   -- 20
  refine TrC.take ⟨_, _, rfl, rfl, rfl⟩ (step_bin rfl rfl rfl rfl rfl) ?_   -- 21
  refine TrC.spell 93 rfl (bv (b := true) (by decide +kernel)) ?_
  refine TrC.take rfl (step_pick rfl rfl rfl rfl) ?_   -- 22
  refine TrC.take rfl (step_move rfl rfl rfl) ?_   -- 23
  refine TrC.take ⟨_, _, rfl, rfl, rfl⟩ (step_move rfl rfl rfl) ?_   -- 24
  refine TrC.take ⟨_, _, rfl, rfl, rfl⟩ (step_bin rfl rfl rfl rfl rfl) ?_   -- 25
  refine TrC.spell 97 rfl (bv (b := true) (by decide +kernel)) ?_
  refine TrC.take rfl (step_pick rfl rfl rfl rfl) ?_   -- 26
  refine TrC.take rfl (step_move rfl rfl rfl) ?_   -- 27
  refine TrC.take ⟨_, _, rfl, rfl, rfl⟩ (step_move rfl rfl rfl) ?_   -- 28
  refine TrC.take ⟨_, _, rfl, rfl, rfl⟩ (step_lenT (rt := 0) rfl rfl sl22 rfl) ?_   -- 29
  refine TrC.take ⟨_, _, rfl, rfl, rfl⟩ (step_bin rfl rfl rfl rfl rfl) ?_   -- 30
  refine TrC.spell 102 rfl (bv (b := true) (by decide +kernel)) ?_
  refine TrC.take rfl (step_pick rfl rfl rfl rfl) ?_   -- 31
  refine TrC.take rfl (step_move rfl rfl rfl) ?_   -- 32
  refine TrC.take ⟨_, _, rfl, rfl, rfl⟩ (step_move rfl rfl rfl) ?_   -- 33
  refine TrC.take ⟨_, _, rfl, rfl, rfl⟩ (step_bin rfl rfl rfl rfl rfl) ?_   -- 34
  refine TrC.spell 106 rfl (bv (b := true) (by decide +kernel)) ?_
  refine TrC.take rfl (step_pick rfl rfl rfl rfl) ?_   -- 35
  refine TrC.take rfl (step_move rfl rfl rfl) ?_   -- 36
  refine TrC.take ⟨_, _, rfl, rfl, rfl⟩ (step_fieldAddrP rfl rfl fd42_1 rfl rfl) ?_   -- 37
  refine TrC.take ⟨_, _, rfl, rfl, rfl⟩ (step_loadP1 rfl rfl rfl ty4 rfl rfl) ?_   -- 38
  refine TrC.spell 110 rfl (bv (b := false) (rfl)) ?_
  refine TrC.take ⟨_, _, rfl, rfl, rfl⟩ (step_not rfl rfl rfl) ?_   -- 39
  refine TrC.take rfl (step_pick rfl rfl rfl rfl) ?_   -- 40
  refine TrC.take rfl (step_move rfl rfl rfl) ?_   -- 41
  refine TrC.take ⟨_, _, rfl, rfl, rfl⟩ (step_fieldAddrP rfl rfl fd42_0 rfl rfl) ?_   -- 42
  refine TrC.take ⟨_, _, rfl, rfl, rfl⟩ (step_loadP1 rfl rfl rfl ty22 rfl rfl) ?_   -- 43
  refine TrC.take ⟨_, _, rfl, rfl, rfl⟩ (step_lenT (rt := 0) rfl rfl sl22 rfl) ?_   -- 44
  refine TrC.take ⟨_, _, rfl, rfl, rfl⟩ (step_bin rfl rfl rfl rfl rfl) ?_   -- 45
  refine TrC.spell 117 rfl (bv (b := true) (by decide +kernel)) ?_
  refine TrC.take rfl (step_pick rfl rfl rfl rfl) ?_   -- 46
  refine TrC.take rfl (step_move rfl rfl rfl) ?_   -- 47
  refine TrC.take ⟨_, _, rfl, rfl, rfl⟩ (step_move rfl rfl rfl) ?_   -- 48
  refine TrC.take ⟨_, _, rfl, rfl, rfl⟩ (step_call0 rfl rfl (C13 [⟨5, false, 2, 2, false⟩, ⟨-1, true, 3, 2, false⟩] (by decide)) rfl) ?_   -- 49
  refine TrC.spell 121 rfl (bv (b := true) (by decide +kernel)) ?_
  refine TrC.take rfl (step_pick rfl rfl rfl rfl) ?_   -- 50
  refine TrC.take rfl (step_move rfl rfl rfl) ?_   -- 51
  refine TrC.take ⟨_, _, rfl, rfl, rfl⟩ (step_call rfl rfl (C13 [] (by decide)) (.cons (.nil _) .nil) rfl) ?_   -- 52
  refine TrC.spell 124 rfl (bv (b := true) (by decide +kernel)) ?_
  refine TrC.take rfl (step_pick rfl rfl rfl rfl) ?_   -- 53
  refine TrC.take rfl (step_move rfl rfl rfl) ?_   -- 54
  refine TrC.take ⟨_, _, rfl, rfl, rfl⟩ (step_move rfl rfl rfl) ?_   -- 55
  refine TrC.take ⟨_, _, rfl, rfl, rfl⟩ (step_indexAddrT (v := .agg [.i 5, .b false, .i 2, .i 2, .b false]) rfl rfl rfl sl22 (by decide) rfl rfl rfl) ?_   -- 56
  refine TrC.take ⟨_, _, rfl, rfl, rfl⟩ (step_loadTN rfl rfl ty31 rfl rfl) ?_   -- 57
  refine TrC.take ⟨_, _, rfl, rfl, rfl⟩ (step_move rfl rfl rfl) ?_   -- 58
  refine TrC.take ⟨_, _, rfl, rfl, rfl⟩ (step_indexAddrT (v := .agg [.i 5, .b false, .i 2, .i 2, .b false]) rfl rfl rfl sl22 (by decide) rfl rfl rfl) ?_   -- 59
  refine TrC.take ⟨_, _, rfl, rfl, rfl⟩ (step_loadTN rfl rfl ty31 rfl rfl) ?_   -- 60
  refine TrC.take ⟨_, _, rfl, rfl, rfl⟩ (step_buildSliceT rfl sl22 ze31 rfl rfl rfl rfl rfl rfl rfl rfl rfl rfl rfl rfl) ?_   -- 61
  refine TrC.take ⟨_, _, rfl, rfl, rfl⟩ (step_call0 rfl rfl (C13 [⟨5, false, 2, 2, false⟩, ⟨5, false, 2, 2, false⟩] (by decide)) rfl) ?_   -- 62
  refine TrC.spell 134 rfl (bv (b := false) (by decide +kernel)) ?_
  refine TrC.take ⟨_, _, rfl, rfl, rfl⟩ (step_not rfl rfl rfl) ?_   -- 63
  refine TrC.take rfl (step_pick rfl rfl rfl rfl) ?_   -- 64
  refine TrC.take rfl (step_move rfl rfl rfl) ?_   -- 65
  refine TrC.take ⟨_, _, rfl, rfl, rfl⟩ (step_move rfl rfl rfl) ?_   -- 66
  refine TrC.take ⟨_, _, rfl, rfl, rfl⟩ (step_move rfl rfl rfl) ?_   -- 67
  refine TrC.take ⟨_, _, rfl, rfl, rfl⟩ (step_call0 rfl rfl (C23 [⟨5, false, 2, 2, false⟩, ⟨-1, true, 3, 2, false⟩] [⟨5, true, 1, 3, false⟩] false (by decide) (by decide)) rfl) ?_   -- 68
  refine TrC.take ⟨_, _, rfl, rfl, rfl⟩ (step_move rfl rfl rfl) ?_   -- 69
  refine TrC.take ⟨_, _, rfl, rfl, rfl⟩ (step_indexAddrT (v := .agg [.i 5, .b false, .i 2, .i 2, .b false]) rfl rfl rfl sl22 (by decide) rfl rfl rfl) ?_   -- 70
  refine TrC.take ⟨_, _, rfl, rfl, rfl⟩ (step_loadTN rfl rfl ty31 rfl rfl) ?_   -- 71
  refine TrC.take ⟨_, _, rfl, rfl, rfl⟩ (step_move rfl rfl rfl) ?_   -- 72
  refine TrC.take ⟨_, _, rfl, rfl, rfl⟩ (step_indexAddrT (v := .agg [.i (-1), .b true, .i 3, .i 2, .b false]) rfl rfl rfl sl22 (by decide) rfl rfl rfl) ?_   -- 73
  refine TrC.take ⟨_, _, rfl, rfl, rfl⟩ (step_loadTN rfl rfl ty31 rfl rfl) ?_   -- 74
  refine TrC.take ⟨_, _, rfl, rfl, rfl⟩ (step_move rfl rfl rfl) ?_   -- 75
  refine TrC.take ⟨_, _, rfl, rfl, rfl⟩ (step_indexAddrT (v := .agg [.i 5, .b true, .i 1, .i 1, .b true]) rfl rfl rfl sl22 (by decide) rfl rfl rfl) ?_   -- 76
  refine TrC.take ⟨_, _, rfl, rfl, rfl⟩ (step_loadTN rfl rfl ty31 rfl rfl) ?_   -- 77
  refine TrC.take ⟨_, _, rfl, rfl, rfl⟩ (step_buildSliceT rfl sl22 ze31 rfl rfl rfl rfl rfl rfl rfl rfl rfl rfl rfl rfl) ?_   -- 78
  refine TrC.take ⟨_, _, rfl, rfl, rfl⟩ (step_call0 rfl rfl (C19 (own [⟨5, false, 2, 2, false⟩, ⟨-1, true, 3, 2, false⟩] false ++ child [⟨5, true, 1, 3, false⟩] false) [⟨5, false, 2, 2, false⟩, ⟨-1, true, 3, 2, false⟩, ⟨5, true, 1, 1, true⟩] (by decide +kernel)) rfl) ?_   -- 79
  refine TrC.spell 151 rfl (bv (b := true) (by decide +kernel)) ?_
  refine TrC.take rfl (step_pick rfl rfl rfl rfl) ?_   -- 80
  refine TrC.take rfl (step_assign rfl rfl rfl) ?_   -- 81
  refine TrC.doneD rfl ?_
  refine AT.ret ?_
  exact Ret.one rfl (ResR.tmp rfl (conv_b rfl))

end Go.Proofs.Ytgblfhobiibeaaa.Acl
