/- Parts of this proof, one after the other; each says what it proves. No condition. -/
import Derived.Test.YtgblfhobiibeaaaMG
import Derived.Test.YtgblfhobiibeaaaMF
import Derived.Test.YtgblfhobiibeaaaMD
import Derived.Test.YtgblfhobiibeaaaRows
import Derived.Test.YtgblfhobiibeaaaMC
import Derived.WalkKit
import Derived.ProofKit
import Derived.OpenShut
import Derived.ShutString
import Derived.ChangeOld
import Derived.Below
import Derived.Carry
import Derived.SizedLaws
/- Contracts of functions of this translation. Printed by wip/tools/gen.py out of wip/acl/ann.py. No condition. -/
set_option linter.unusedVariables false
set_option linter.unusedSimpArgs false
namespace Go.Proofs.Ytgblfhobiibeaaa.Acl
open Go.Proofs.Ytgblfhobiibeaaa.Abs
set_option maxRecDepth 100000
set_option maxHeartbeats 4000000
theorem C7 (m1 : List (Int × Int × Int)) (hb1 : ∀ x ∈ m1, (0 ≤ x.1 ∧ x.1 ≤ 255) ∧ (0 ≤ x.2.1 ∧ x.2.1 ≤ 255) ∧ (0 ≤ x.2.2 ∧ x.2.2 ≤ 255)) (w0 w1 w2 : Int) (g0 : 0 ≤ w0 ∧ w0 ≤ 255) (g1 : 0 ≤ w1 ∧ w1 ≤ 255) (g2 : 0 ≤ w2 ∧ w2 ≤ 255) (d : Bool) : Has Try.prog 7 [.slice 3 (m1.map encB), .agg [.u8 w0, .u8 w1, .u8 w2], .b d] (.b true) := by   -- burgage/burgagelaw02.AclPut
  refine Exists.elim (show ∃ z, z = listA m1 from ⟨_, rfl⟩) (fun z hz => ?_)
  have hvz : VL z := hz ▸ listA_VL m1
  have hlz : z.length ≤ 12 := hz ▸ (listA_len m1).1
  refine Exists.elim (show ∃ c, c = ace (w0, w1, w2) from ⟨_, rfl⟩) (fun c hc => ?_)
  refine Exists.elim (show ∃ e, e = pE (w0, w1, w2) d from ⟨_, rfl⟩) (fun e he => ?_)
  obtain ⟨hp, hp2⟩ := put_good hvz hlz (show e.gv = false from he ▸ rfl) (show right (e1 e 1) = true from he ▸ pE_right _ d)
  refine Exists.elim (show ∃ r, r = (put z e).1 from ⟨_, rfl⟩) (fun r hr => ?_)
  rw [← hr] at hp
  have hrl := hp.ln
  have hra := hp.again
  have hrv : valid r = true := (valid_VL r).2 hp.vl
  refine Has.intro 121 Try.func7 (by kernel_rfl) rfl rfl fun w ok => ?_
  refine AT.seq ?_
  refine AT.region ?_   -- region 0 law.go:126
  refine TrC.take rfl (step_box rfl rfl rfl rfl rfl rfl rfl) ?_   -- 0
  refine TrC.take rfl (step_assign rfl rfl rfl) ?_   -- 1
  refine TrC.done ?_
  refine AT.seq ?_
  refine AT.region ?_   -- region 1 law.go:127
  refine TrC.take rfl (step_call0 rfl rfl (C10) rfl) ?_   -- 0
  refine TrC.spell 16 rfl (bv (b := true) (rfl)) ?_
  refine TrC.take rfl (step_assign rfl rfl rfl) ?_   -- 1
  refine TrC.done ?_
  refine AT.seq ?_
  refine AT.regionD mixed rfl ?_   -- region 2 law.go:128
  refine TrC.take rfl (step_move rfl rfl rfl) ?_   -- 0
  refine TrC.take rfl (step_call0 rfl rfl ((C12 m1 hb1).eq (congrArg (fun l : List Ace => T.slice 5 (l.map encA)) hz.symm)) rfl) ?_   -- 1
  refine TrC.take rfl (step_loadPN rfl rfl rfl ty45 rfl rfl rfl) ?_   -- 2
  refine TrC.take rfl (step_call0 rfl rfl ((C29 w0 w1 w2 g0 g1 g2).eq (congrArg encA hc.symm)) rfl) ?_   -- 3
  refine TrC.take rfl (step_alloc rfl rfl ze31 rfl rfl rfl) ?_   -- 4
  refine TrC.take rfl (step_assign rfl rfl rfl) ?_   -- 5
  refine TrC.take rfl (step_storeP rfl rfl rfl rfl rfl (.inl rfl) ty31 rfl rfl rfl) ?_   -- 6
  refine TrC.doneD rfl ?_
  refine AT.seq ?_
  refine AT.region ?_   -- region 3 law.go:129
  refine TrC.take rfl (step_fieldAddrP rfl rfl fd31_4 rfl rfl) ?_   -- 0
  refine TrC.take rfl (step_storeP rfl rfl rfl rfl rfl (.inl rfl) ty4 rfl rfl rfl) ?_   -- 1
  refine TrC.done ?_
  refine AT.seqJ (mkS [(7, .t (.b true)), (8, .t (.slice 5 (z.map encA))), (9, .p 9 0)] [(9, .box 31 [.t (.i e.who), .t (.b e.al), .t (.i e.rt), .t (.i e.rc), .t (.b e.gv)])]) ?_ ?_
  ·
    refine AT.seq ?_
    refine AT.region ?_   -- region 4 law.go:130
    refine TrC.take rfl (step_move rfl rfl rfl) ?_   -- 0
    refine TrC.done ?_
    refine AT.cond rfl (fun h22 => ?_) (fun h22 => ?_)   -- t22
    · -- true
      refine AT.region ?_   -- region 5 law.go:131
      refine TrC.take rfl (step_fieldAddrP rfl rfl fd31_2 rfl rfl) ?_   -- 0
      refine TrC.take rfl (step_storeP rfl rfl rfl rfl rfl (.inl rfl) ty3 rfl rfl rfl) ?_   -- 1
      refine TrC.done ?_
      exact Sat.wk [] (.cons (.t (.refl _)) (.cons (.t (.refl _)) (.cons (.p rfl) (.nil)))) (.cons rfl (.box (.cons (.t (conv_i (by subst he; subst hc; rfl))) (.cons (.t (conv_b (by subst he; subst hc; rfl))) (.cons (.t (conv_i (by subst he; subst hc; unfold pE; first | (simp_all; done) | simp))) (.cons (.t (conv_i (by subst he; subst hc; rfl))) (.cons (.t (conv_b (by subst he; subst hc; rfl))) (.nil))))))) (.nil)) rfl rfl
    · -- false
      refine AT.skip ?_
      exact Sat.wk [] (.cons (.t (.refl _)) (.cons (.t (.refl _)) (.cons (.p rfl) (.nil)))) (.cons rfl (.box (.cons (.t (conv_i (by subst he; subst hc; rfl))) (.cons (.t (conv_b (by subst he; subst hc; rfl))) (.cons (.t (conv_i (by subst he; subst hc; unfold pE; first | (simp_all; done) | simp))) (.cons (.t (conv_i (by subst he; subst hc; rfl))) (.cons (.t (conv_b (by subst he; subst hc; rfl))) (.nil))))))) (.nil)) rfl rfl
  ·
    refine AT.seq ?_
    refine AT.region ?_   -- region 6 law.go:133
    refine TrC.take rfl (step_move rfl rfl rfl) ?_   -- 0
    refine TrC.take rfl (step_loadPN rfl rfl rfl ty31 rfl rfl rfl) ?_   -- 1
    refine TrC.take rfl (step_call0 rfl rfl ((C25 z e (by omega)).eq (show _ = T.tup [.slice 5 (r.map encA), .i 0] from by rw [hr, hp2])) rfl) ?_   -- 2
    refine TrC.take rfl (step_move rfl rfl rfl) ?_   -- 3
    refine TrC.take rfl (step_extract rfl rfl rfl rfl) ?_   -- 4
    refine TrC.take rfl (step_extract rfl rfl rfl rfl) ?_   -- 5
    refine TrC.take rfl (step_assign rfl rfl rfl) ?_   -- 6
    refine TrC.take rfl (step_assign rfl rfl rfl) ?_   -- 7
    refine TrC.done ?_
    refine AT.seq ?_
    refine AT.seq ?_
    refine AT.regionD mixed rfl ?_   -- region 7 law.go:134
    refine TrC.take rfl (step_move rfl rfl rfl) ?_   -- 0
    refine TrC.take rfl (step_bin rfl rfl rfl rfl rfl) ?_   -- 1
    refine TrC.spell 31 rfl (bv (b := false) (by simp)) ?_
    refine TrC.take rfl (step_move rfl rfl rfl) ?_   -- 2
    refine TrC.take ⟨_, _, rfl, rfl, rfl⟩ (step_move rfl rfl rfl) ?_   -- 3
    refine TrC.take ⟨_, _, rfl, rfl, rfl⟩ (step_lenT (rt := 0) rfl rfl sl22 rfl) ?_   -- 4
    refine TrC.take ⟨_, _, rfl, rfl, rfl⟩ (step_bin rfl rfl rfl rfl rfl) ?_   -- 5
    refine TrC.spell 35 rfl (bv (b := false) (by simp; omega)) ?_
    refine TrC.take rfl (step_pick rfl rfl rfl rfl) ?_   -- 6
    refine TrC.take rfl (step_move rfl rfl rfl) ?_   -- 7
    refine TrC.take ⟨_, _, rfl, rfl, rfl⟩ (step_move rfl rfl rfl) ?_   -- 8
    refine TrC.take ⟨_, _, rfl, rfl, rfl⟩ (step_call0 rfl rfl (C13 r (by omega)) rfl) ?_   -- 9
    refine TrC.spell 39 rfl (bv (b := true) (hrv)) ?_
    refine TrC.take ⟨_, _, rfl, rfl, rfl⟩ (step_not rfl rfl rfl) ?_   -- 10
    refine TrC.take rfl (step_pick rfl rfl rfl rfl) ?_   -- 11
    refine TrC.take rfl (step_move rfl rfl rfl) ?_   -- 12
    refine TrC.take ⟨_, _, rfl, rfl, rfl⟩ (step_move rfl rfl rfl) ?_   -- 13
    refine TrC.take ⟨_, _, rfl, rfl, rfl⟩ (step_call0 rfl rfl (C14 r (by omega)) rfl) ?_   -- 14
    refine TrC.spell 44 rfl (bv (b := true) (hrv)) ?_
    refine TrC.take ⟨_, _, rfl, rfl, rfl⟩ (step_not rfl rfl rfl) ?_   -- 15
    refine TrC.take rfl (step_pick rfl rfl rfl rfl) ?_   -- 16
    refine TrC.take rfl (step_move rfl rfl rfl) ?_   -- 17
    refine TrC.take ⟨_, _, rfl, rfl, rfl⟩ (step_move rfl rfl rfl) ?_   -- 18
    refine TrC.take ⟨_, _, rfl, rfl, rfl⟩ (step_loadPN rfl rfl rfl ty31 rfl rfl rfl) ?_   -- 19
    refine TrC.take ⟨_, _, rfl, rfl, rfl⟩ (step_call0 rfl rfl (C31 r e (by omega)) rfl) ?_   -- 20
    refine TrC.take ⟨_, _, rfl, rfl, rfl⟩ (step_fieldAddrP rfl rfl fd31_2 rfl rfl) ?_   -- 21
    refine TrC.take ⟨_, _, rfl, rfl, rfl⟩ (step_loadP1 rfl rfl rfl ty3 rfl rfl) ?_   -- 22
    refine TrC.take ⟨_, _, rfl, rfl, rfl⟩ (step_bin rfl rfl rfl rfl rfl) ?_   -- 23
    refine TrC.spell 53 rfl (bv (b := false) (by simp [hp.rt])) ?_
    refine TrC.take rfl (step_pick rfl rfl rfl rfl) ?_   -- 24
    refine TrC.doneD rfl ?_
    refine AT.condF rfl ?_   -- t54
    refine AT.skip ?_
    refine AT.seq ?_
    refine AT.region ?_   -- region 9 law.go:137
    refine TrC.take rfl (step_assign rfl rfl rfl) ?_   -- 0
    refine TrC.done ?_
    refine AT.seq ?_
    refine AT.seq ?_
    refine AT.region ?_   -- region 10 law.go:138
    refine TrC.take rfl (step_assign rfl rfl rfl) ?_   -- 0
    refine TrC.done ?_
    refine AT.block ?_   -- block 0
    refine AT.loopP (fun p : Nat × Nat => p.1 ≤ z.length ∧ p.2 ≤ r.length ∧ rst e r p.2 = rst e z p.1) (fun (i, j) => mkS [(7, .t (.b true)), (8, .t (.slice 5 (z.map encA))), (9, .p 9 0), (10, .t (.slice 5 (r.map encA))), (12, .t (.i j)), (13, .t (.i i))] [(9, .box 31 [.t (.i e.who), .t (.b e.al), .t (.i e.rt), .t (.i e.rc), .t (.b e.gv)])]) (fun p => z.length - p.1) ((0, 0)) (⟨Nat.zero_le _, Nat.zero_le _, by rw [rst_zero, rst_zero]; exact hp.rest⟩) (fun a w hs => Sat.wk [] (.cons (.t (.refl _)) (.cons (.t (.refl _)) (.cons (.p rfl) (.cons (.t (.refl _)) (.cons (.t (.refl _)) (.cons (.t (.refl _)) (.nil))))))) (.cons rfl (.box (.cons (.t (.refl _)) (.cons (.t (.refl _)) (.cons (.t (.refl _)) (.cons (.t (.refl _)) (.cons (.t (.refl _)) (.nil))))))) (.nil)) rfl rfl a w hs) (fun ij hij => ?_)
    obtain ⟨i, j⟩ := ij
    obtain ⟨hi, hj, hinv⟩ := hij
    simp only at hi hj hinv
    refine AT.seq ?_
    refine AT.seq ?_
    refine AT.region ?_   -- region 11 law.go:138
    refine TrC.take rfl (step_move rfl rfl rfl) ?_   -- 0
    refine TrC.take rfl (step_move rfl rfl rfl) ?_   -- 1
    refine TrC.take rfl (step_lenT (rt := 0) rfl rfl sl22 rfl) ?_   -- 2
    refine TrC.take rfl (step_bin rfl rfl rfl rfl rfl) ?_   -- 3
    refine TrC.done ?_
    refine AT.cond rfl (fun h58 => ?_) (fun h58 => ?_)   -- t58
    · -- true
      have hlt : i < z.length := by have h := h58; simp at h; omega
      refine Exists.elim (show ∃ a, a = z[i] from ⟨_, rfl⟩) (fun a ha => ?_)
      have hget : (z.map encA)[i]? = some (.agg [.i a.who, .b a.al, .i a.rt, .i a.rc, .b a.gv]) := by rw [List.getElem?_map, List.getElem?_eq_getElem hlt, ha]; rfl
      refine AT.skip ?_
      refine AT.seq ?_
      refine AT.block ?_   -- block 1
      refine AT.seq ?_
      refine AT.seq ?_
      refine AT.regionD mixed rfl ?_   -- region 13 law.go:139
      refine TrC.take rfl (step_move rfl rfl rfl) ?_   -- 0
      refine TrC.take rfl (step_move rfl rfl rfl) ?_   -- 1
      refine TrC.take rfl (step_indexAddrT (v := .agg [.i a.who, .b a.al, .i a.rt, .i a.rc, .b a.gv]) rfl rfl rfl sl22 (by omega) (by first | exact hget | simpa using hget) rfl rfl) ?_   -- 2
      refine TrC.take rfl (step_loadTN rfl rfl ty31 rfl rfl) ?_   -- 3
      refine TrC.take rfl (step_loadPN rfl rfl rfl ty31 rfl rfl rfl) ?_   -- 4
      refine TrC.take rfl (step_call0 rfl rfl (C32 a e) rfl) ?_   -- 5
      refine TrC.doneD rfl ?_
      refine AT.cond rfl (fun h66 => ?_) (fun h66 => ?_)   -- t66
      · -- true
        refine AT.exit (Or.inl ⟨rfl, ?_⟩)   -- exit 1
        refine AT.region ?_   -- region 12 law.go:138
        refine TrC.take rfl (step_move rfl rfl rfl) ?_   -- 0
        refine TrC.take rfl (step_addI rfl rfl rfl (by first | omega | (simp; done) | (simp; omega)) (by first | omega | (simp; done) | (simp; omega)) rfl) ?_   -- 1
        refine TrC.take rfl (step_assign rfl rfl rfl) ?_   -- 2
        refine TrC.done ?_
        exact ⟨(i + 1, j), ⟨by show i + 1 ≤ z.length; omega, hj, hinv.trans (rst_mark hlt (by rw [← ha]; exact h66)).symm⟩, by show z.length - (i + 1) < z.length - i; omega, Sat.wk [] (.cons (.t (.refl _)) (.cons (.t (.refl _)) (.cons (.p rfl) (.cons (.t (.refl _)) (.cons (.t (.refl _)) (.cons (.t (conv_i (by simp))) (.nil))))))) (.cons rfl (.box (.cons (.t (.refl _)) (.cons (.t (.refl _)) (.cons (.t (.refl _)) (.cons (.t (.refl _)) (.cons (.t (.refl _)) (.nil))))))) (.nil)) rfl rfl⟩
      · -- false
        have hna : marked z[i] e = false := by rw [← ha]; exact h66
        refine AT.skip ?_
        refine AT.seq ?_
        refine AT.block ?_   -- block 2
        refine AT.loopP (fun k : Nat => k ≤ r.length ∧ rst e r k = rst e z i) (fun k => mkS [(7, .t (.b true)), (8, .t (.slice 5 (z.map encA))), (9, .p 9 0), (10, .t (.slice 5 (r.map encA))), (12, .t (.i k)), (13, .t (.i i))] [(9, .box 31 [.t (.i e.who), .t (.b e.al), .t (.i e.rt), .t (.i e.rc), .t (.b e.gv)])]) (fun k => r.length - k) (j) (⟨hj, hinv⟩) (fun a w hs => Sat.wk [] (.cons (.t (.refl _)) (.cons (.t (.refl _)) (.cons (.p rfl) (.cons (.t (.refl _)) (.cons (.t (.refl _)) (.cons (.t (.refl _)) (.nil))))))) (.cons rfl (.box (.cons (.t (.refl _)) (.cons (.t (.refl _)) (.cons (.t (.refl _)) (.cons (.t (.refl _)) (.cons (.t (.refl _)) (.nil))))))) (.nil)) rfl rfl a w hs) (fun k hk => ?_)
        obtain ⟨hk, hkinv⟩ := hk
        refine AT.seq ?_
        refine AT.seq ?_
        refine AT.regionD mixed rfl ?_   -- region 14 law.go:142
        refine TrC.take rfl (step_move rfl rfl rfl) ?_   -- 0
        refine TrC.take rfl (step_move rfl rfl rfl) ?_   -- 1
        refine TrC.take rfl (step_lenT (rt := 0) rfl rfl sl22 rfl) ?_   -- 2
        refine TrC.take rfl (step_bin rfl rfl rfl rfl rfl) ?_   -- 3
        refine TrC.take rfl (step_move rfl rfl rfl) ?_   -- 4
        refine TrC.cases (d := 71) rfl (fun h71 => ?_) (fun h71 => ?_)
        · -- t71 = true
          have hlb : k < r.length := by have h := h71; simp at h; omega
          refine Exists.elim (show ∃ b, b = r[k] from ⟨_, rfl⟩) (fun b hbb => ?_)
          have hgetb : (r.map encA)[k]? = some (.agg [.i b.who, .b b.al, .i b.rt, .i b.rc, .b b.gv]) := by rw [List.getElem?_map, List.getElem?_eq_getElem hlb, hbb]; rfl
          refine TrC.take ⟨_, _, rfl, rfl, rfl⟩ (step_move rfl rfl rfl) ?_   -- 5
          refine TrC.take ⟨_, _, rfl, rfl, rfl⟩ (step_move rfl rfl rfl) ?_   -- 6
          refine TrC.take ⟨_, _, rfl, rfl, rfl⟩ (step_indexAddrT (v := .agg [.i b.who, .b b.al, .i b.rt, .i b.rc, .b b.gv]) rfl rfl rfl sl22 (by omega) (by first | exact hgetb | simpa using hgetb) rfl rfl) ?_   -- 7
          refine TrC.take ⟨_, _, rfl, rfl, rfl⟩ (step_loadTN rfl rfl ty31 rfl rfl) ?_   -- 8
          refine TrC.take ⟨_, _, rfl, rfl, rfl⟩ (step_loadPN rfl rfl rfl ty31 rfl rfl rfl) ?_   -- 9
          refine TrC.take ⟨_, _, rfl, rfl, rfl⟩ (step_call0 rfl rfl (C32 b e) rfl) ?_   -- 10
          refine TrC.take rfl (step_pick rfl rfl rfl rfl) ?_   -- 11
          refine TrC.doneD rfl ?_
          refine AT.cond rfl (fun h78 => ?_) (fun h78 => ?_)   -- t78
          · -- true
            refine AT.skip ?_
            refine AT.block ?_   -- block 3
            refine AT.region ?_   -- region 15 law.go:143
            refine TrC.take rfl (step_move rfl rfl rfl) ?_   -- 0
            refine TrC.take rfl (step_addI rfl rfl rfl (by first | omega | (simp; done) | (simp; omega)) (by first | omega | (simp; done) | (simp; omega)) rfl) ?_   -- 1
            refine TrC.take rfl (step_assign rfl rfl rfl) ?_   -- 2
            refine TrC.done ?_
            exact ⟨k + 1, ⟨by omega, (rst_mark hlb (by rw [← hbb]; simpa using h78)).trans hkinv⟩, by show r.length - (k + 1) < r.length - k; omega, Sat.wk [] (.cons (.t (.refl _)) (.cons (.t (.refl _)) (.cons (.p rfl) (.cons (.t (.refl _)) (.cons (.t (conv_i (by simp))) (.cons (.t (.refl _)) (.nil))))))) (.cons rfl (.box (.cons (.t (.refl _)) (.cons (.t (.refl _)) (.cons (.t (.refl _)) (.cons (.t (.refl _)) (.cons (.t (.refl _)) (.nil))))))) (.nil)) rfl rfl⟩
          · -- false
            refine AT.exit (Or.inl ⟨rfl, ?_⟩)   -- exit 2
            refine AT.seq ?_
            refine AT.seq ?_
            have hkl : k < r.length := rst_lt hlt hna hkinv
            have hnb : marked r[k] e = false := by first | exact absurd hkl hlb | (rw [← hbb]; simpa using h78)
            have hst := rst_step hlt hna hkinv hkl hnb
            have hgetc : (r.map encA)[k]? = some (.agg [.i a.who, .b a.al, .i a.rt, .i a.rc, .b a.gv]) := by rw [List.getElem?_map, List.getElem?_eq_getElem hkl, hst.1, ← ha]; rfl
            refine AT.regionD mixed rfl ?_   -- region 16 law.go:145
            refine TrC.take rfl (step_move rfl rfl rfl) ?_   -- 0
            refine TrC.take rfl (step_move rfl rfl rfl) ?_   -- 1
            refine TrC.take rfl (step_lenT (rt := 0) rfl rfl sl22 rfl) ?_   -- 2
            refine TrC.take rfl (step_bin rfl rfl rfl rfl rfl) ?_   -- 3
            refine TrC.spell 84 rfl (bv (b := false) (by simp; omega)) ?_
            refine TrC.take rfl (step_move rfl rfl rfl) ?_   -- 4
            refine TrC.take ⟨_, _, rfl, rfl, rfl⟩ (step_move rfl rfl rfl) ?_   -- 5
            refine TrC.take ⟨_, _, rfl, rfl, rfl⟩ (step_move rfl rfl rfl) ?_   -- 6
            refine TrC.take ⟨_, _, rfl, rfl, rfl⟩ (step_indexAddrT (v := .agg [.i a.who, .b a.al, .i a.rt, .i a.rc, .b a.gv]) rfl rfl rfl sl22 (by omega) (by first | exact hgetc | simpa using hgetc) rfl rfl) ?_   -- 7
            refine TrC.take ⟨_, _, rfl, rfl, rfl⟩ (step_loadTN rfl rfl ty31 rfl rfl) ?_   -- 8
            refine TrC.take ⟨_, _, rfl, rfl, rfl⟩ (step_move rfl rfl rfl) ?_   -- 9
            refine TrC.take ⟨_, _, rfl, rfl, rfl⟩ (step_move rfl rfl rfl) ?_   -- 10
            refine TrC.take ⟨_, _, rfl, rfl, rfl⟩ (step_indexAddrT (v := .agg [.i a.who, .b a.al, .i a.rt, .i a.rc, .b a.gv]) rfl rfl rfl sl22 (by omega) (by first | exact hget | simpa using hget) rfl rfl) ?_   -- 11
            refine TrC.take ⟨_, _, rfl, rfl, rfl⟩ (step_loadTN rfl rfl ty31 rfl rfl) ?_   -- 12
            refine TrC.take ⟨_, _, rfl, rfl, rfl⟩ (step_nea rfl rfl rfl rfl rfl ty31 eg31 (eq31 _ _ _ _ _ _ _ _ _ _) rfl) ?_   -- 13
            refine TrC.spell 94 rfl (bv (b := false) (by simp)) ?_
            refine TrC.take rfl (step_pick rfl rfl rfl rfl) ?_   -- 14
            refine TrC.doneD rfl ?_
            refine AT.condF rfl ?_   -- t95
            refine AT.skip ?_
            refine AT.region ?_   -- region 18 law.go:148
            refine TrC.take rfl (step_move rfl rfl rfl) ?_   -- 0
            refine TrC.take rfl (step_addI rfl rfl rfl (by first | omega | (simp; done) | (simp; omega)) (by first | omega | (simp; done) | (simp; omega)) rfl) ?_   -- 1
            refine TrC.take rfl (step_assign rfl rfl rfl) ?_   -- 2
            refine TrC.done ?_
            refine AT.region ?_   -- region 12 law.go:138
            refine TrC.take rfl (step_move rfl rfl rfl) ?_   -- 0
            refine TrC.take rfl (step_addI rfl rfl rfl (by first | omega | (simp; done) | (simp; omega)) (by first | omega | (simp; done) | (simp; omega)) rfl) ?_   -- 1
            refine TrC.take rfl (step_assign rfl rfl rfl) ?_   -- 2
            refine TrC.done ?_
            exact ⟨(i + 1, k + 1), ⟨by show i + 1 ≤ z.length; omega, by show k + 1 ≤ r.length; omega, hst.2⟩, by show z.length - (i + 1) < z.length - i; omega, Sat.wk [] (.cons (.t (.refl _)) (.cons (.t (.refl _)) (.cons (.p rfl) (.cons (.t (.refl _)) (.cons (.t (conv_i (by simp))) (.cons (.t (conv_i (by simp))) (.nil))))))) (.cons rfl (.box (.cons (.t (.refl _)) (.cons (.t (.refl _)) (.cons (.t (.refl _)) (.cons (.t (.refl _)) (.cons (.t (.refl _)) (.nil))))))) (.nil)) rfl rfl⟩
        · -- t71 = false
          have hlb : ¬ k < r.length := by have h := h71; simp at h; omega
          refine TrC.skip ⟨_, _, rfl, rfl, rfl⟩ ?_   -- 5
          refine TrC.skip ⟨_, _, rfl, rfl, rfl⟩ ?_   -- 6
          refine TrC.skip ⟨_, _, rfl, rfl, rfl⟩ ?_   -- 7
          refine TrC.skip ⟨_, _, rfl, rfl, rfl⟩ ?_   -- 8
          refine TrC.skip ⟨_, _, rfl, rfl, rfl⟩ ?_   -- 9
          refine TrC.skip ⟨_, _, rfl, rfl, rfl⟩ ?_   -- 10
          refine TrC.take rfl (step_pick rfl rfl rfl rfl) ?_   -- 11
          refine TrC.doneD rfl ?_
          refine AT.condF rfl ?_   -- t78
          refine AT.exit (Or.inl ⟨rfl, ?_⟩)   -- exit 2
          refine AT.seq ?_
          refine AT.seq ?_
          have hkl : k < r.length := rst_lt hlt hna hkinv
          have hnb : marked r[k] e = false := by first | exact absurd hkl hlb | (rw [← hbb]; simpa using h78)
          have hst := rst_step hlt hna hkinv hkl hnb
          have hgetc : (r.map encA)[k]? = some (.agg [.i a.who, .b a.al, .i a.rt, .i a.rc, .b a.gv]) := by rw [List.getElem?_map, List.getElem?_eq_getElem hkl, hst.1, ← ha]; rfl
          refine AT.regionD mixed rfl ?_   -- region 16 law.go:145
          refine TrC.take rfl (step_move rfl rfl rfl) ?_   -- 0
          refine TrC.take rfl (step_move rfl rfl rfl) ?_   -- 1
          refine TrC.take rfl (step_lenT (rt := 0) rfl rfl sl22 rfl) ?_   -- 2
          refine TrC.take rfl (step_bin rfl rfl rfl rfl rfl) ?_   -- 3
          refine TrC.spell 84 rfl (bv (b := false) (by simp; omega)) ?_
          refine TrC.take rfl (step_move rfl rfl rfl) ?_   -- 4
          refine TrC.take ⟨_, _, rfl, rfl, rfl⟩ (step_move rfl rfl rfl) ?_   -- 5
          refine TrC.take ⟨_, _, rfl, rfl, rfl⟩ (step_move rfl rfl rfl) ?_   -- 6
          refine TrC.take ⟨_, _, rfl, rfl, rfl⟩ (step_indexAddrT (v := .agg [.i a.who, .b a.al, .i a.rt, .i a.rc, .b a.gv]) rfl rfl rfl sl22 (by omega) (by first | exact hgetc | simpa using hgetc) rfl rfl) ?_   -- 7
          refine TrC.take ⟨_, _, rfl, rfl, rfl⟩ (step_loadTN rfl rfl ty31 rfl rfl) ?_   -- 8
          refine TrC.take ⟨_, _, rfl, rfl, rfl⟩ (step_move rfl rfl rfl) ?_   -- 9
          refine TrC.take ⟨_, _, rfl, rfl, rfl⟩ (step_move rfl rfl rfl) ?_   -- 10
          refine TrC.take ⟨_, _, rfl, rfl, rfl⟩ (step_indexAddrT (v := .agg [.i a.who, .b a.al, .i a.rt, .i a.rc, .b a.gv]) rfl rfl rfl sl22 (by omega) (by first | exact hget | simpa using hget) rfl rfl) ?_   -- 11
          refine TrC.take ⟨_, _, rfl, rfl, rfl⟩ (step_loadTN rfl rfl ty31 rfl rfl) ?_   -- 12
          refine TrC.take ⟨_, _, rfl, rfl, rfl⟩ (step_nea rfl rfl rfl rfl rfl ty31 eg31 (eq31 _ _ _ _ _ _ _ _ _ _) rfl) ?_   -- 13
          refine TrC.spell 94 rfl (bv (b := false) (by simp)) ?_
          refine TrC.take rfl (step_pick rfl rfl rfl rfl) ?_   -- 14
          refine TrC.doneD rfl ?_
          refine AT.condF rfl ?_   -- t95
          refine AT.skip ?_
          refine AT.region ?_   -- region 18 law.go:148
          refine TrC.take rfl (step_move rfl rfl rfl) ?_   -- 0
          refine TrC.take rfl (step_addI rfl rfl rfl (by first | omega | (simp; done) | (simp; omega)) (by first | omega | (simp; done) | (simp; omega)) rfl) ?_   -- 1
          refine TrC.take rfl (step_assign rfl rfl rfl) ?_   -- 2
          refine TrC.done ?_
          refine AT.region ?_   -- region 12 law.go:138
          refine TrC.take rfl (step_move rfl rfl rfl) ?_   -- 0
          refine TrC.take rfl (step_addI rfl rfl rfl (by first | omega | (simp; done) | (simp; omega)) (by first | omega | (simp; done) | (simp; omega)) rfl) ?_   -- 1
          refine TrC.take rfl (step_assign rfl rfl rfl) ?_   -- 2
          refine TrC.done ?_
          exact ⟨(i + 1, k + 1), ⟨by show i + 1 ≤ z.length; omega, by show k + 1 ≤ r.length; omega, hst.2⟩, by show z.length - (i + 1) < z.length - i; omega, Sat.wk [] (.cons (.t (.refl _)) (.cons (.t (.refl _)) (.cons (.p rfl) (.cons (.t (.refl _)) (.cons (.t (conv_i (by simp))) (.cons (.t (conv_i (by simp))) (.nil))))))) (.cons rfl (.box (.cons (.t (.refl _)) (.cons (.t (.refl _)) (.cons (.t (.refl _)) (.cons (.t (.refl _)) (.cons (.t (.refl _)) (.nil))))))) (.nil)) rfl rfl⟩
    · -- false
      have hge : ¬ i < z.length := by have h := h58; simp at h; omega
      have hend := rst_end hge hp.vl.un hj hinv
      refine AT.exit (Or.inl ⟨rfl, ?_⟩)   -- exit 0
      refine AT.seq ?_
      refine AT.region ?_   -- region 19 law.go:150
      refine TrC.take rfl (step_move rfl rfl rfl) ?_   -- 0
      refine TrC.take rfl (step_loadPN rfl rfl rfl ty31 rfl rfl rfl) ?_   -- 1
      refine TrC.take rfl (step_call0 rfl rfl ((C25 r e (by omega)).eq (show _ = T.tup [.slice 5 (r.map encA), .i 0] from by rw [hra.1, hra.2])) rfl) ?_   -- 2
      refine TrC.take rfl (step_move rfl rfl rfl) ?_   -- 3
      refine TrC.take rfl (step_extract rfl rfl rfl rfl) ?_   -- 4
      refine TrC.take rfl (step_extract rfl rfl rfl rfl) ?_   -- 5
      refine TrC.take rfl (step_assign rfl rfl rfl) ?_   -- 6
      refine TrC.take rfl (step_assign rfl rfl rfl) ?_   -- 7
      refine TrC.done ?_
      refine AT.seq ?_
      refine AT.region ?_   -- region 20 law.go:151
      refine TrC.take rfl (step_move rfl rfl rfl) ?_   -- 0
      refine TrC.take rfl (step_lenT (rt := 0) rfl rfl sl22 rfl) ?_   -- 1
      refine TrC.take rfl (step_move rfl rfl rfl) ?_   -- 2
      refine TrC.take rfl (step_subI rfl rfl rfl (by first | omega | (simp; done) | (simp; omega)) (by first | omega | (simp; done) | (simp; omega)) rfl) ?_   -- 3
      refine TrC.take rfl (step_bin rfl rfl rfl rfl rfl) ?_   -- 4
      refine TrC.spell 108 rfl (bv (b := true) (by simp; omega)) ?_
      refine TrC.take rfl (step_move rfl rfl rfl) ?_   -- 5
      refine TrC.take ⟨_, _, rfl, rfl, rfl⟩ (step_move rfl rfl rfl) ?_   -- 6
      refine TrC.take ⟨_, _, rfl, rfl, rfl⟩ (step_bin rfl rfl rfl rfl rfl) ?_   -- 7
      refine TrC.spell 111 rfl (bv (b := true) (by simp)) ?_
      refine TrC.take rfl (step_pick rfl rfl rfl rfl) ?_   -- 8
      refine TrC.take rfl (step_move rfl rfl rfl) ?_   -- 9
      refine TrC.take ⟨_, _, rfl, rfl, rfl⟩ (step_move rfl rfl rfl) ?_   -- 10
      refine TrC.take ⟨_, _, rfl, rfl, rfl⟩ (step_move rfl rfl rfl) ?_   -- 11
      refine TrC.take ⟨_, _, rfl, rfl, rfl⟩ (step_call0 rfl rfl (C20 r r (by omega)) rfl) ?_   -- 12
      refine TrC.spell 116 rfl (bv (b := true) (by simp)) ?_
      refine TrC.take rfl (step_pick rfl rfl rfl rfl) ?_   -- 13
      refine TrC.take rfl (step_move rfl rfl rfl) ?_   -- 14
      refine TrC.take ⟨_, _, rfl, rfl, rfl⟩ (step_move rfl rfl rfl) ?_   -- 15
      refine TrC.take rfl (step_pick rfl rfl rfl rfl) ?_   -- 16
      refine TrC.take rfl (step_assign rfl rfl rfl) ?_   -- 17
      refine TrC.done ?_
      refine AT.ret ?_
      exact Ret.one rfl (ResR.tmp rfl (conv_b rfl))

end Go.Proofs.Ytgblfhobiibeaaa.Acl

/- AclPut: from the function's contract to arguments as they come. No condition. -/
set_option linter.unusedVariables false
namespace Go.Proofs.Ytgblfhobiibeaaa.aclPut
open Go.Proofs.Ytgblfhobiibeaaa.Abs Go.Proofs.Ytgblfhobiibeaaa.Acl Go.RowKit
theorem AclPut_has (x0 x1 x2 : T) (f0 : Fits Try.prog 23 x0.cells) (a0 : (∃ l, x0 = .agg l) ↔ (partsOf Try.prog 23).isSome = true) (f1 : Fits Try.prog 45 x1.cells) (a1 : (∃ l, x1 = .agg l) ↔ (partsOf Try.prog 45).isSome = true) (f2 : Fits Try.prog 4 x2.cells) (a2 : (∃ l, x2 = .agg l) ↔ (partsOf Try.prog 4).isSome = true) : Has Try.prog 7 [x0, x1, x2] (.b true) := by
  obtain ⟨m1, rfl, hb1⟩ := fitB3 f0 a0 (e := 45) (by kernel_rfl) (by kernel_rfl) (by kernel_rfl)
  obtain ⟨ns, g1, rfl, g3⟩ := flatV (k := .u8) (n := 3) f1 a1 (by kernel_rfl)
  obtain ⟨w0, w1, w2, rfl⟩ := list_three g1
  obtain ⟨d, rfl⟩ := boolV f2 a2 (by kernel_rfl)
  exact C7 m1 hb1 w0 w1 w2 (g3 w0 (by simp)) (g3 w1 (by simp)) (g3 w2 (by simp)) d
end Go.Proofs.Ytgblfhobiibeaaa.aclPut

/- The statement AclPutSaid is proved here: the law's function returns true for all its arguments and panics for none. No condition. -/
namespace Go.Proofs.Ytgblfhobiibeaaa.aclPut
open Go.ChangeShapes Go.WideShapes Go.ChangeAt Go.RowKit
open Go.Proofs.Ytgblfhobiibeaaa.Abs
set_option linter.unusedVariables false
theorem own : ownKnob Try.prog.godebug = none := by kernel_rfl
theorem laidOut : laidOutB Try.prog = true := by kernel_rfl
set_option maxRecDepth 100000 in
theorem lifted (os : Os) (started : os.Started) (H : Type) (enc : TypeId × Value → H) :
    ReturnsInHanded {} Try.checked os 7 .any (Rows.aclPutSpec.pre6 enc Try.prog Try.f7 Rows.aclPutRow.domain false) (Rows.aclPutSpec.post enc Try.prog Try.f7 false true false false) := by
  refine returnsInHanded_of_change_sized (C := Try.checked) own started (by kernel_rfl) Try.func7
    (ChangeSpec.witness6 (enc := enc) (C := Try.checked) false ⟨#[], #[.slice none 0 0, .agg #[.int .u8 0, .int .u8 0, .int .u8 0], .bool false], []⟩ 8 (by kernel_rfl) (by kernel_rfl) (by kernel_rfl) (by kernel_rfl)) ?_
  intro W base args ds gs before hval0 hW hcnd hsz0 _
  have hval : ∀ (j : Nat) t v, Try.f7.params[j]? = some t → args[j]? = some v → Value.okWide Try.prog W .any base t v := hval0
  have hW' := hW
  obtain ⟨p, q, hA0, hV, rfl, hfz, hnd⟩ := hW
  have hA : DataW.TrodAll enc Try.prog W 0 (fun _ => true) true Try.f7.params.toList args.toList ds p := hA0
  rw [show Try.f7.params = #[23, 45, 4] from by kernel_rfl] at hA hval
  obtain ⟨v0, vs0, d0, ds0, p0, q0, hargs, rfl, rfl, h0, r0⟩ := trodAll_cons hA
  obtain ⟨v1, vs1, d1, ds1, p1, q1, rfl, rfl, rfl, h1, r1⟩ := trodAll_cons r0
  obtain ⟨v2, vs2, d2, ds2, p2, q2, rfl, rfl, rfl, h2, r2⟩ := trodAll_cons r1
  obtain ⟨rfl, rfl, rfl⟩ := trodAll_nil r2
  obtain rfl : args = #[v0, v1, v2] := by cases args; simp_all
  obtain ⟨rfl, rfl⟩ := trodVars_none hV
  have lt0 : ∀ x ∈ p0, x.block < W.heap.size := by obtain ⟨m, hm⟩ := h0; exact DataW.trod_lt m _ _ _ hm
  obtain ⟨x0, rd0, ft0, ag0⟩ := Trod_reads 8 (by kernel_rfl) (hval 0 23 v0 rfl rfl) h0
  have lt1 : ∀ x ∈ p1, x.block < W.heap.size := by obtain ⟨m, hm⟩ := h1; exact DataW.trod_lt m _ _ _ hm
  obtain ⟨x1, rd1, ft1, ag1⟩ := Trod_reads 8 (by kernel_rfl) (hval 1 45 v1 rfl rfl) h1
  have lt2 : ∀ x ∈ p2, x.block < W.heap.size := by obtain ⟨m, hm⟩ := h2; exact DataW.trod_lt m _ _ _ hm
  obtain ⟨x2, rd2, ft2, ag2⟩ := Trod_reads 8 (by kernel_rfl) (hval 2 4 v2 rfl rfl) h2
  have hh := AclPut_has x0 x1 x2 ft0 ag0 ft1 ag1 ft2 ag2
  refine (hh.2 W (okW W) #[v0, v1, v2] (fun _ h => h) rfl ?_).mono fun e W' hx => ?_
  · intro i h1 h2
    rcases i with _ | i; exact rd0; rcases i with _ | i; exact rd1; rcases i with _ | i; exact rd2; simp at h1 <;> omega
  · obtain ⟨v, he, hr, bel⟩ := hx
    subst he
    cases hr with
    | v _ =>
      exact ⟨_, rfl, _, _, _, [], _, [], hW', trodAll_mk1 (shut_bool (show Try.prog.underlying 4 = some .bool by kernel_rfl) _), (trodAll_cons_mk (Below.trod laidOut (by kernel_rfl) (of_decide_eq_true (by kernel_rfl)) h0 bel lt0) (trodAll_cons_mk (Below.trod laidOut (by kernel_rfl) (of_decide_eq_true (by kernel_rfl)) h1 bel lt1) (trodAll_cons_mk (Below.trod laidOut (by kernel_rfl) (of_decide_eq_true (by kernel_rfl)) h2 bel lt2) trodAll_mk0))), rfl, bel.frame _, fun h => by cases h⟩
theorem over : Rows.aclPutRow.holds Try.pinned (OpenSpec.ofChange Rows.aclPutSpec) :=
  OpenClaim.holds_of_wide 7 Try.f7 rfl rfl rfl rfl rfl rfl rfl ⟨rfl, rfl, rfl, rfl, rfl⟩ rfl rfl rfl rfl rfl (by kernel_rfl) Try.func7 (by kernel_rfl)
    (of_decide_eq_true (by kernel_rfl)) (by unfold Func.isWrapper; first | (rw [if_pos (by decide +kernel)]; kernel_rfl) | (rw [if_neg (by decide +kernel)]; exact ⟨rfl, rfl⟩))
    (fun os started H enc _ => lifted os started H enc)
theorem proved : Rows.AclPutSaid := over
#print axioms proved
end Go.Proofs.Ytgblfhobiibeaaa.aclPut
namespace Go.Proofs.Ytgblfhobiibeaaa
/-- The row, under a short name, for the claim. -/
theorem aclPut_holds : Rows.AclPutSaid := aclPut.proved
end Go.Proofs.Ytgblfhobiibeaaa

