/- Parts of this proof, one after the other; each says what it proves. No condition. -/
import Derived.Test.YtgblfhobiibeaaaMG
import Derived.Test.YtgblfhobiibeaaaMF
import Derived.Test.YtgblfhobiibeaaaME
import Derived.Test.YtgblfhobiibeaaaMD
import Derived.Test.YtgblfhobiibeaaaRows
import Derived.Test.YtgblfhobiibeaaaMC
import Derived.WalkKit
import Derived.ProofKit
import Derived.OpenShut
import Derived.ShutString
import Derived.ChangeOld
import Derived.Below
import Derived.Carry
import Derived.SizedLaws
/- Contracts of functions of this translation. Printed by wip/tools/gen.py out of wip/acl/ann.py. No condition. -/
set_option linter.unusedVariables false
set_option linter.unusedSimpArgs false
namespace Go.Proofs.Ytgblfhobiibeaaa.Acl
open Go.Proofs.Ytgblfhobiibeaaa.Abs
set_option maxRecDepth 100000
set_option maxHeartbeats 4000000
theorem C9 (k : Int) (hk : 0 ≤ k ∧ k ≤ 255) (e : Ace) : Has Try.prog 9 [.u8 k, encA e] (.b true) := by   -- burgage/burgagelaw02.AclLimits
  obtain ⟨n, hn, hn20⟩ : ∃ n : Nat, k % 20 = n ∧ n < 20 := ⟨(k % 20).toNat, by omega, by omega⟩
  have hlv := lim_valid n hn20
  have hlp := lim_put n hn20
  have hll := lim_len n
  refine Has.intro 114 Try.func9 (by kernel_rfl) rfl rfl fun w ok => ?_
  refine AT.seq ?_
  refine AT.region ?_   -- region 0 law.go:183
  refine TrC.take rfl (step_box rfl rfl rfl rfl rfl rfl rfl) ?_   -- 0
  refine TrC.take rfl (step_assign rfl rfl rfl) ?_   -- 1
  refine TrC.done ?_
  refine AT.seq ?_
  refine AT.region ?_   -- region 1 law.go:184
  refine TrC.take rfl (step_call0 rfl rfl (C10) rfl) ?_   -- 0
  refine TrC.spell 12 rfl (bv (b := true) (rfl)) ?_
  refine TrC.take rfl (step_assign rfl rfl rfl) ?_   -- 1
  refine TrC.done ?_
  refine AT.seq ?_
  refine AT.region ?_   -- region 2 law.go:185
  refine TrC.take rfl (step_buildSliceH rfl rfl sl22 ze31 rfl rfl rfl rfl rfl rfl rfl rfl rfl rfl rfl rfl rfl) ?_   -- 0
  refine TrC.take rfl (step_assign rfl rfl rfl) ?_   -- 1
  refine TrC.done ?_
  refine AT.seq ?_
  refine AT.seq ?_
  refine AT.region ?_   -- region 3 law.go:186
  refine TrC.take rfl (step_assign rfl rfl rfl) ?_   -- 0
  refine TrC.done ?_
  refine AT.block ?_   -- block 0
  refine AT.loopP (fun i : Nat => i ≤ n) (fun i => mkS [(0, .t (.u8 k)), (3, .p 3 0), (5, .t (.b true)), (6, .h 50), (7, .t (.i i))] [(3, .box 31 [.t (.i e.who), .t (.b e.al), .t (.i e.rt), .t (.i e.rc), .t (.b e.gv)]), (50, .row 31 5 ((limL i).map encA))]) (fun i => n - i) (0) (Nat.zero_le _) (fun a w hs => Sat.wk [(50, 13)] (.cons (.t (.refl _)) (.cons (.p (j := 3) rfl) (.cons (.t (.refl _)) (.cons (.h (j := 50) rfl) (.cons (.t (.refl _)) (.nil)))))) (.cons rfl (.box (.cons (.t (.refl _)) (.cons (.t (.refl _)) (.cons (.t (.refl _)) (.cons (.t (.refl _)) (.cons (.t (.refl _)) (.nil))))))) (.cons rfl (.row rfl) (.nil))) rfl rfl a w hs) (fun i hi => ?_)
  have hli := lim_len i
  refine AT.seq ?_
  refine AT.seq ?_
  refine AT.region ?_   -- region 4 law.go:186
  refine TrC.take rfl (step_move rfl rfl rfl) ?_   -- 0
  refine TrC.take rfl (step_move rfl rfl rfl) ?_   -- 1
  first | refine TrC.take rfl (step_remI rfl rfl rfl (by omega) (by first | omega | (simp; done) | (simp; omega)) rfl) ?_ | refine TrC.take rfl (step_bin rfl rfl rfl rfl rfl) ?_   -- 2
  refine TrC.take rfl (step_convI rfl rfl in5 in3 (by omega) (by omega) rfl) ?_   -- 3
  refine TrC.spell 17 rfl (iv hn) ?_
  refine TrC.take rfl (step_bin rfl rfl rfl rfl rfl) ?_   -- 4
  refine TrC.done ?_
  refine AT.cond rfl (fun h18 => ?_) (fun h18 => ?_)   -- t18
  · -- true
    have hlt : i < n := by have h := h18; simp at h; omega
    refine AT.skip ?_
    refine AT.seq ?_
    refine AT.block ?_   -- block 1
    refine AT.region ?_   -- region 6 law.go:187
    refine TrC.take rfl (step_move rfl rfl rfl) ?_   -- 0
    refine TrC.take rfl (step_move rfl rfl rfl) ?_   -- 1
    refine TrC.take rfl (step_addI rfl rfl rfl (by first | omega | (simp; done) | (simp; omega)) (by first | omega | (simp; done) | (simp; omega)) rfl) ?_   -- 2
    refine TrC.take rfl (step_move rfl rfl rfl) ?_   -- 3
    first | refine TrC.take rfl (step_remI rfl rfl rfl (by omega) (by first | omega | (simp; done) | (simp; omega)) rfl) ?_ | refine TrC.take rfl (step_bin rfl rfl rfl rfl rfl) ?_   -- 4
    refine TrC.take rfl (step_addI rfl rfl rfl (by first | omega | (simp; done) | (simp; omega)) (by first | omega | (simp; done) | (simp; omega)) rfl) ?_   -- 5
    refine TrC.take rfl (step_move rfl rfl rfl) ?_   -- 6
    first | refine TrC.take rfl (step_remI rfl rfl rfl (by omega) (by first | omega | (simp; done) | (simp; omega)) rfl) ?_ | refine TrC.take rfl (step_bin rfl rfl rfl rfl rfl) ?_   -- 7
    refine TrC.take rfl (step_addI rfl rfl rfl (by first | omega | (simp; done) | (simp; omega)) (by first | omega | (simp; done) | (simp; omega)) rfl) ?_   -- 8
    refine TrC.take rfl (step_move rfl rfl rfl) ?_   -- 9
    refine TrC.take rfl (step_bin rfl rfl rfl rfl rfl) ?_   -- 10
    refine TrC.take rfl (step_buildS rfl ze31 rfl pl31 rfl rfl rfl rfl) ?_   -- 11
    refine TrC.take rfl (step_buildSliceT rfl sl22 ze31 rfl rfl rfl rfl rfl rfl rfl rfl rfl rfl rfl rfl) ?_   -- 12
    refine TrC.take rfl (step_append rfl rfl rfl rfl rfl (.refl _) sl22 ze31 rfl rfl rfl (by first | (simp; done) | (simp; omega) | omega) rfl rfl) ?_   -- 13
    refine TrC.take rfl (step_assign rfl rfl rfl) ?_   -- 14
    refine TrC.done ?_
    refine AT.region ?_   -- region 5 law.go:186
    refine TrC.take rfl (step_move rfl rfl rfl) ?_   -- 0
    refine TrC.take rfl (step_addI rfl rfl rfl (by first | omega | (simp; done) | (simp; omega)) (by first | omega | (simp; done) | (simp; omega)) rfl) ?_   -- 1
    refine TrC.take rfl (step_assign rfl rfl rfl) ?_   -- 2
    refine TrC.done ?_
    exact ⟨i + 1, by show i + 1 ≤ n; omega, by show n - (i + 1) < n - i; omega, Sat.wk [(50, 34)] (.cons (.t (.refl _)) (.cons (.p (j := 3) rfl) (.cons (.t (.refl _)) (.cons (.h (j := 50) rfl) (.cons (.t (conv_i (by simp))) (.nil)))))) (.cons rfl (.box (.cons (.t (.refl _)) (.cons (.t (.refl _)) (.cons (.t (.refl _)) (.cons (.t (.refl _)) (.cons (.t (.refl _)) (.nil))))))) (.cons rfl (.row (by rw [limL_succ, List.map_append]; rfl)) (.nil))) rfl rfl⟩
  · -- false
    have hge : i = n := by have h := h18; simp at h; omega
    refine AT.exit (Or.inl ⟨rfl, ?_⟩)   -- exit 0
    refine AT.seqJ (mkS [(3, .p 3 0), (5, .t (.b true)), (6, .t (.slice 5 ((limL n).map encA))), (8, .t (.b (right e)))] [(3, .box 31 [.t (.i e.who), .t (.b e.al), .t (.i e.rt), .t (.i e.rc), .t (.b e.gv)])]) ?_ ?_
    ·
      refine AT.wk (sl := [(3, .p 3 0), (5, .t (.b true)), (6, .t (.slice 5 ((limL i).map encA)))]) (ml := [(3, .box 31 [.t (.i e.who), .t (.b e.al), .t (.i e.rt), .t (.i e.rc), .t (.b e.gv)])]) [] (.cons (.p rfl) (.cons (.t (.refl _)) (.cons (.fr rfl rfl) (.nil)))) (.cons rfl (.box (.cons (.t (.refl _)) (.cons (.t (.refl _)) (.cons (.t (.refl _)) (.cons (.t (.refl _)) (.cons (.t (.refl _)) (.nil))))))) (.nil)) rfl rfl ?_
      refine AT.wk (sl := [(3, .p 3 0), (5, .t (.b true)), (6, .t (.slice 5 ((limL n).map encA)))]) (ml := [(3, .box 31 [.t (.i e.who), .t (.b e.al), .t (.i e.rt), .t (.i e.rc), .t (.b e.gv)])]) [] (.cons (.p rfl) (.cons (.t (.refl _)) (.cons (.t (conv_eq (by rw [hge]))) (.nil)))) (.cons rfl (.box (.cons (.t (.refl _)) (.cons (.t (.refl _)) (.cons (.t (.refl _)) (.cons (.t (.refl _)) (.cons (.t (.refl _)) (.nil))))))) (.nil)) rfl rfl ?_
      refine AT.region ?_   -- region 7 law.go:189
      refine TrC.take rfl (step_fieldAddrP rfl rfl fd31_0 rfl rfl) ?_   -- 0
      refine TrC.take rfl (step_loadP1 rfl rfl rfl ty3 rfl rfl) ?_   -- 1
      refine TrC.take rfl (step_bin rfl rfl rfl rfl rfl) ?_   -- 2
      refine TrC.take rfl (step_move rfl rfl rfl) ?_   -- 3
      refine TrC.cases (d := 38) rfl (fun h38 => ?_) (fun h38 => ?_)
      · -- t38 = true
        refine TrC.take ⟨_, _, rfl, rfl, rfl⟩ (step_fieldAddrP rfl rfl fd31_0 rfl rfl) ?_   -- 4
        refine TrC.take ⟨_, _, rfl, rfl, rfl⟩ (step_loadP1 rfl rfl rfl ty3 rfl rfl) ?_   -- 5
        refine TrC.take ⟨_, _, rfl, rfl, rfl⟩ (step_bin rfl rfl rfl rfl rfl) ?_   -- 6
        refine TrC.take rfl (step_pick rfl rfl rfl rfl) ?_   -- 7
        refine TrC.take rfl (step_move rfl rfl rfl) ?_   -- 8
        refine TrC.cases (d := 43) rfl (fun h43 => ?_) (fun h43 => ?_)
        · -- t43 = true
          refine TrC.take ⟨_, _, rfl, rfl, rfl⟩ (step_fieldAddrP rfl rfl fd31_2 rfl rfl) ?_   -- 9
          refine TrC.take ⟨_, _, rfl, rfl, rfl⟩ (step_loadP1 rfl rfl rfl ty3 rfl rfl) ?_   -- 10
          refine TrC.take ⟨_, _, rfl, rfl, rfl⟩ (step_bin rfl rfl rfl rfl rfl) ?_   -- 11
          refine TrC.take rfl (step_pick rfl rfl rfl rfl) ?_   -- 12
          refine TrC.take rfl (step_move rfl rfl rfl) ?_   -- 13
          refine TrC.cases (d := 48) rfl (fun h48 => ?_) (fun h48 => ?_)
          · -- t48 = true
            refine TrC.take ⟨_, _, rfl, rfl, rfl⟩ (step_fieldAddrP rfl rfl fd31_2 rfl rfl) ?_   -- 14
            refine TrC.take ⟨_, _, rfl, rfl, rfl⟩ (step_loadP1 rfl rfl rfl ty3 rfl rfl) ?_   -- 15
            refine TrC.take ⟨_, _, rfl, rfl, rfl⟩ (step_bin rfl rfl rfl rfl rfl) ?_   -- 16
            refine TrC.take rfl (step_pick rfl rfl rfl rfl) ?_   -- 17
            refine TrC.take rfl (step_move rfl rfl rfl) ?_   -- 18
            refine TrC.cases (d := 53) rfl (fun h53 => ?_) (fun h53 => ?_)
            · -- t53 = true
              refine TrC.take ⟨_, _, rfl, rfl, rfl⟩ (step_fieldAddrP rfl rfl fd31_3 rfl rfl) ?_   -- 19
              refine TrC.take ⟨_, _, rfl, rfl, rfl⟩ (step_loadP1 rfl rfl rfl ty3 rfl rfl) ?_   -- 20
              refine TrC.take ⟨_, _, rfl, rfl, rfl⟩ (step_bin rfl rfl rfl rfl rfl) ?_   -- 21
              refine TrC.take rfl (step_pick rfl rfl rfl rfl) ?_   -- 22
              refine TrC.take rfl (step_move rfl rfl rfl) ?_   -- 23
              refine TrC.cases (d := 58) rfl (fun h58 => ?_) (fun h58 => ?_)
              · -- t58 = true
                refine TrC.take ⟨_, _, rfl, rfl, rfl⟩ (step_fieldAddrP rfl rfl fd31_3 rfl rfl) ?_   -- 24
                refine TrC.take ⟨_, _, rfl, rfl, rfl⟩ (step_loadP1 rfl rfl rfl ty3 rfl rfl) ?_   -- 25
                refine TrC.take ⟨_, _, rfl, rfl, rfl⟩ (step_bin rfl rfl rfl rfl rfl) ?_   -- 26
                refine TrC.take rfl (step_pick rfl rfl rfl rfl) ?_   -- 27
                refine TrC.take rfl (step_assign rfl rfl rfl) ?_   -- 28
                refine TrC.done ?_
                exact Sat.wk [] (.cons (.p rfl) (.cons (.t (.refl _)) (.cons (.t (.refl _)) (.cons (.t (conv_b (by unfold right; first | (simp_all; done) | (rw [Bool.eq_iff_iff]; simp_all; done) | (rw [Bool.eq_iff_iff]; simp_all <;> omega)))) (.nil))))) (.cons rfl (.box (.cons (.t (.refl _)) (.cons (.t (.refl _)) (.cons (.t (.refl _)) (.cons (.t (.refl _)) (.cons (.t (.refl _)) (.nil))))))) (.nil)) rfl rfl
              · -- t58 = false
                refine TrC.skip ⟨_, _, rfl, rfl, rfl⟩ ?_   -- 24
                refine TrC.skip ⟨_, _, rfl, rfl, rfl⟩ ?_   -- 25
                refine TrC.skip ⟨_, _, rfl, rfl, rfl⟩ ?_   -- 26
                refine TrC.take rfl (step_pick rfl rfl rfl rfl) ?_   -- 27
                refine TrC.take rfl (step_assign rfl rfl rfl) ?_   -- 28
                refine TrC.done ?_
                exact Sat.wk [] (.cons (.p rfl) (.cons (.t (.refl _)) (.cons (.t (.refl _)) (.cons (.t (conv_b (by unfold right; first | (simp_all; done) | (rw [Bool.eq_iff_iff]; simp_all; done) | (rw [Bool.eq_iff_iff]; simp_all <;> omega)))) (.nil))))) (.cons rfl (.box (.cons (.t (.refl _)) (.cons (.t (.refl _)) (.cons (.t (.refl _)) (.cons (.t (.refl _)) (.cons (.t (.refl _)) (.nil))))))) (.nil)) rfl rfl
            · -- t53 = false
              refine TrC.skip ⟨_, _, rfl, rfl, rfl⟩ ?_   -- 19
              refine TrC.skip ⟨_, _, rfl, rfl, rfl⟩ ?_   -- 20
              refine TrC.skip ⟨_, _, rfl, rfl, rfl⟩ ?_   -- 21
              refine TrC.take rfl (step_pick rfl rfl rfl rfl) ?_   -- 22
              refine TrC.take rfl (step_move rfl rfl rfl) ?_   -- 23
              refine TrC.skip ⟨_, _, rfl, rfl, rfl⟩ ?_   -- 24
              refine TrC.skip ⟨_, _, rfl, rfl, rfl⟩ ?_   -- 25
              refine TrC.skip ⟨_, _, rfl, rfl, rfl⟩ ?_   -- 26
              refine TrC.take rfl (step_pick rfl rfl rfl rfl) ?_   -- 27
              refine TrC.take rfl (step_assign rfl rfl rfl) ?_   -- 28
              refine TrC.done ?_
              exact Sat.wk [] (.cons (.p rfl) (.cons (.t (.refl _)) (.cons (.t (.refl _)) (.cons (.t (conv_b (by unfold right; first | (simp_all; done) | (rw [Bool.eq_iff_iff]; simp_all; done) | (rw [Bool.eq_iff_iff]; simp_all <;> omega)))) (.nil))))) (.cons rfl (.box (.cons (.t (.refl _)) (.cons (.t (.refl _)) (.cons (.t (.refl _)) (.cons (.t (.refl _)) (.cons (.t (.refl _)) (.nil))))))) (.nil)) rfl rfl
          · -- t48 = false
            refine TrC.skip ⟨_, _, rfl, rfl, rfl⟩ ?_   -- 14
            refine TrC.skip ⟨_, _, rfl, rfl, rfl⟩ ?_   -- 15
            refine TrC.skip ⟨_, _, rfl, rfl, rfl⟩ ?_   -- 16
            refine TrC.take rfl (step_pick rfl rfl rfl rfl) ?_   -- 17
            refine TrC.take rfl (step_move rfl rfl rfl) ?_   -- 18
            refine TrC.skip ⟨_, _, rfl, rfl, rfl⟩ ?_   -- 19
            refine TrC.skip ⟨_, _, rfl, rfl, rfl⟩ ?_   -- 20
            refine TrC.skip ⟨_, _, rfl, rfl, rfl⟩ ?_   -- 21
            refine TrC.take rfl (step_pick rfl rfl rfl rfl) ?_   -- 22
            refine TrC.take rfl (step_move rfl rfl rfl) ?_   -- 23
            refine TrC.skip ⟨_, _, rfl, rfl, rfl⟩ ?_   -- 24
            refine TrC.skip ⟨_, _, rfl, rfl, rfl⟩ ?_   -- 25
            refine TrC.skip ⟨_, _, rfl, rfl, rfl⟩ ?_   -- 26
            refine TrC.take rfl (step_pick rfl rfl rfl rfl) ?_   -- 27
            refine TrC.take rfl (step_assign rfl rfl rfl) ?_   -- 28
            refine TrC.done ?_
            exact Sat.wk [] (.cons (.p rfl) (.cons (.t (.refl _)) (.cons (.t (.refl _)) (.cons (.t (conv_b (by unfold right; first | (simp_all; done) | (rw [Bool.eq_iff_iff]; simp_all; done) | (rw [Bool.eq_iff_iff]; simp_all <;> omega)))) (.nil))))) (.cons rfl (.box (.cons (.t (.refl _)) (.cons (.t (.refl _)) (.cons (.t (.refl _)) (.cons (.t (.refl _)) (.cons (.t (.refl _)) (.nil))))))) (.nil)) rfl rfl
        · -- t43 = false
          refine TrC.skip ⟨_, _, rfl, rfl, rfl⟩ ?_   -- 9
          refine TrC.skip ⟨_, _, rfl, rfl, rfl⟩ ?_   -- 10
          refine TrC.skip ⟨_, _, rfl, rfl, rfl⟩ ?_   -- 11
          refine TrC.take rfl (step_pick rfl rfl rfl rfl) ?_   -- 12
          refine TrC.take rfl (step_move rfl rfl rfl) ?_   -- 13
          refine TrC.skip ⟨_, _, rfl, rfl, rfl⟩ ?_   -- 14
          refine TrC.skip ⟨_, _, rfl, rfl, rfl⟩ ?_   -- 15
          refine TrC.skip ⟨_, _, rfl, rfl, rfl⟩ ?_   -- 16
          refine TrC.take rfl (step_pick rfl rfl rfl rfl) ?_   -- 17
          refine TrC.take rfl (step_move rfl rfl rfl) ?_   -- 18
          refine TrC.skip ⟨_, _, rfl, rfl, rfl⟩ ?_   -- 19
          refine TrC.skip ⟨_, _, rfl, rfl, rfl⟩ ?_   -- 20
          refine TrC.skip ⟨_, _, rfl, rfl, rfl⟩ ?_   -- 21
          refine TrC.take rfl (step_pick rfl rfl rfl rfl) ?_   -- 22
          refine TrC.take rfl (step_move rfl rfl rfl) ?_   -- 23
          refine TrC.skip ⟨_, _, rfl, rfl, rfl⟩ ?_   -- 24
          refine TrC.skip ⟨_, _, rfl, rfl, rfl⟩ ?_   -- 25
          refine TrC.skip ⟨_, _, rfl, rfl, rfl⟩ ?_   -- 26
          refine TrC.take rfl (step_pick rfl rfl rfl rfl) ?_   -- 27
          refine TrC.take rfl (step_assign rfl rfl rfl) ?_   -- 28
          refine TrC.done ?_
          exact Sat.wk [] (.cons (.p rfl) (.cons (.t (.refl _)) (.cons (.t (.refl _)) (.cons (.t (conv_b (by unfold right; first | (simp_all; done) | (rw [Bool.eq_iff_iff]; simp_all; done) | (rw [Bool.eq_iff_iff]; simp_all <;> omega)))) (.nil))))) (.cons rfl (.box (.cons (.t (.refl _)) (.cons (.t (.refl _)) (.cons (.t (.refl _)) (.cons (.t (.refl _)) (.cons (.t (.refl _)) (.nil))))))) (.nil)) rfl rfl
      · -- t38 = false
        refine TrC.skip ⟨_, _, rfl, rfl, rfl⟩ ?_   -- 4
        refine TrC.skip ⟨_, _, rfl, rfl, rfl⟩ ?_   -- 5
        refine TrC.skip ⟨_, _, rfl, rfl, rfl⟩ ?_   -- 6
        refine TrC.take rfl (step_pick rfl rfl rfl rfl) ?_   -- 7
        refine TrC.take rfl (step_move rfl rfl rfl) ?_   -- 8
        refine TrC.skip ⟨_, _, rfl, rfl, rfl⟩ ?_   -- 9
        refine TrC.skip ⟨_, _, rfl, rfl, rfl⟩ ?_   -- 10
        refine TrC.skip ⟨_, _, rfl, rfl, rfl⟩ ?_   -- 11
        refine TrC.take rfl (step_pick rfl rfl rfl rfl) ?_   -- 12
        refine TrC.take rfl (step_move rfl rfl rfl) ?_   -- 13
        refine TrC.skip ⟨_, _, rfl, rfl, rfl⟩ ?_   -- 14
        refine TrC.skip ⟨_, _, rfl, rfl, rfl⟩ ?_   -- 15
        refine TrC.skip ⟨_, _, rfl, rfl, rfl⟩ ?_   -- 16
        refine TrC.take rfl (step_pick rfl rfl rfl rfl) ?_   -- 17
        refine TrC.take rfl (step_move rfl rfl rfl) ?_   -- 18
        refine TrC.skip ⟨_, _, rfl, rfl, rfl⟩ ?_   -- 19
        refine TrC.skip ⟨_, _, rfl, rfl, rfl⟩ ?_   -- 20
        refine TrC.skip ⟨_, _, rfl, rfl, rfl⟩ ?_   -- 21
        refine TrC.take rfl (step_pick rfl rfl rfl rfl) ?_   -- 22
        refine TrC.take rfl (step_move rfl rfl rfl) ?_   -- 23
        refine TrC.skip ⟨_, _, rfl, rfl, rfl⟩ ?_   -- 24
        refine TrC.skip ⟨_, _, rfl, rfl, rfl⟩ ?_   -- 25
        refine TrC.skip ⟨_, _, rfl, rfl, rfl⟩ ?_   -- 26
        refine TrC.take rfl (step_pick rfl rfl rfl rfl) ?_   -- 27
        refine TrC.take rfl (step_assign rfl rfl rfl) ?_   -- 28
        refine TrC.done ?_
        exact Sat.wk [] (.cons (.p rfl) (.cons (.t (.refl _)) (.cons (.t (.refl _)) (.cons (.t (conv_b (by unfold right; first | (simp_all; done) | (rw [Bool.eq_iff_iff]; simp_all; done) | (rw [Bool.eq_iff_iff]; simp_all <;> omega)))) (.nil))))) (.cons rfl (.box (.cons (.t (.refl _)) (.cons (.t (.refl _)) (.cons (.t (.refl _)) (.cons (.t (.refl _)) (.cons (.t (.refl _)) (.nil))))))) (.nil)) rfl rfl
    ·
      refine AT.seq ?_
      refine AT.seq ?_
      refine AT.regionD mixed rfl ?_   -- region 8 law.go:190
      refine TrC.take rfl (step_move rfl rfl rfl) ?_   -- 0
      refine TrC.take rfl (step_call0 rfl rfl (C13 (limL n) (by omega)) rfl) ?_   -- 1
      refine TrC.take rfl (step_move rfl rfl rfl) ?_   -- 2
      refine TrC.take rfl (step_lenT (rt := 0) rfl rfl sl22 rfl) ?_   -- 3
      refine TrC.take rfl (step_bin rfl rfl rfl rfl rfl) ?_   -- 4
      refine TrC.take rfl (step_nebool rfl rfl rfl bo4 rfl) ?_   -- 5
      refine TrC.spell 68 rfl (bv (b := false) (by rw [hlv]; simp [lim_len]; omega)) ?_
      refine TrC.take rfl (step_move rfl rfl rfl) ?_   -- 6
      refine TrC.take ⟨_, _, rfl, rfl, rfl⟩ (step_loadPN rfl rfl rfl ty31 rfl rfl rfl) ?_   -- 7
      refine TrC.take ⟨_, _, rfl, rfl, rfl⟩ (step_buildSliceT rfl sl22 ze31 rfl rfl rfl rfl rfl rfl rfl rfl rfl rfl rfl rfl) ?_   -- 8
      refine TrC.take ⟨_, _, rfl, rfl, rfl⟩ (step_call0 rfl rfl (C13 [e] (by simp)) rfl) ?_   -- 9
      refine TrC.take ⟨_, _, rfl, rfl, rfl⟩ (step_move rfl rfl rfl) ?_   -- 10
      refine TrC.take ⟨_, _, rfl, rfl, rfl⟩ (step_nebool rfl rfl rfl bo4 rfl) ?_   -- 11
      refine TrC.spell 74 rfl (bv (b := false) (by rw [valid_one]; simp)) ?_
      refine TrC.take rfl (step_pick rfl rfl rfl rfl) ?_   -- 12
      refine TrC.take rfl (step_move rfl rfl rfl) ?_   -- 13
      refine TrC.take ⟨_, _, rfl, rfl, rfl⟩ (step_move rfl rfl rfl) ?_   -- 14
      refine TrC.take ⟨_, _, rfl, rfl, rfl⟩ (step_lenT (rt := 0) rfl rfl sl22 rfl) ?_   -- 15
      refine TrC.take ⟨_, _, rfl, rfl, rfl⟩ (step_bin rfl rfl rfl rfl rfl) ?_   -- 16
      refine TrC.take ⟨_, _, rfl, rfl, rfl⟩ (step_move rfl rfl rfl) ?_   -- 17
      refine TrC.cases (d := 80) rfl (fun h80 => ?_) (fun h80 => ?_)
      · -- t80 = true
        obtain ⟨m, hm, hm10⟩ : ∃ m, n = m + 1 ∧ 10 ≤ m := ⟨n - 1, by have h := h80; simp [lim_len] at h; omega, by have h := h80; simp [lim_len] at h; omega⟩
        have hget : ((limL n).map encA)[m]? = some (.agg [.i (limE m).who, .b (limE m).al, .i (limE m).rt, .i (limE m).rc, .b (limE m).gv]) := by rw [List.getElem?_map, lim_get (by omega)]; rfl
        have hget0 : ((limL n).map encA)[0]? = some (.agg [.i (limE 0).who, .b (limE 0).al, .i (limE 0).rt, .i (limE 0).rc, .b (limE 0).gv]) := by rw [List.getElem?_map, lim_get (by omega)]; rfl
        refine TrC.take ⟨_, _, rfl, rfl, rfl⟩ (step_move rfl rfl rfl) ?_   -- 18
        refine TrC.take ⟨_, _, rfl, rfl, rfl⟩ (step_move rfl rfl rfl) ?_   -- 19
        refine TrC.take ⟨_, _, rfl, rfl, rfl⟩ (step_lenT (rt := 0) rfl rfl sl22 rfl) ?_   -- 20
        refine TrC.take ⟨_, _, rfl, rfl, rfl⟩ (step_subI rfl rfl rfl (by first | omega | (simp; done) | (simp; omega)) (by first | omega | (simp; done) | (simp; omega)) rfl) ?_   -- 21
        refine TrC.spell 84 rfl (iv (b := (m : Int)) (by simp [lim_len]; omega)) ?_
        refine TrC.take ⟨_, _, rfl, rfl, rfl⟩ (step_indexAddrT (v := .agg [.i (limE m).who, .b (limE m).al, .i (limE m).rt, .i (limE m).rc, .b (limE m).gv]) rfl rfl rfl sl22 (by omega) (by first | exact hget | simpa using hget) rfl rfl) ?_   -- 22
        refine TrC.take ⟨_, _, rfl, rfl, rfl⟩ (step_loadTN rfl rfl ty31 rfl rfl) ?_   -- 23
        refine TrC.take ⟨_, _, rfl, rfl, rfl⟩ (step_buildSliceH rfl rfl sl22 ze31 rfl rfl rfl rfl rfl rfl rfl rfl rfl rfl rfl rfl rfl) ?_   -- 24
        refine TrC.take ⟨_, _, rfl, rfl, rfl⟩ (step_move rfl rfl rfl) ?_   -- 25
        refine TrC.take ⟨_, _, rfl, rfl, rfl⟩ (step_indexAddrT (v := .agg [.i (limE 0).who, .b (limE 0).al, .i (limE 0).rt, .i (limE 0).rc, .b (limE 0).gv]) rfl rfl rfl sl22 (by decide) (by first | exact hget0 | simpa using hget0) rfl rfl) ?_   -- 26
        refine TrC.take ⟨_, _, rfl, rfl, rfl⟩ (step_loadTN rfl rfl ty31 rfl rfl) ?_   -- 27
        refine TrC.take ⟨_, _, rfl, rfl, rfl⟩ (step_buildSliceT rfl sl22 ze31 rfl rfl rfl rfl rfl rfl rfl rfl rfl rfl rfl rfl) ?_   -- 28
        refine TrC.take ⟨_, _, rfl, rfl, rfl⟩ (Step.toT (step_append rfl rfl rfl rfl rfl (.refl _) sl22 ze31 rfl rfl rfl (by first | (simp; done) | (simp; omega) | omega) rfl rfl) rfl) ?_   -- 29
        refine TrC.take ⟨_, _, rfl, rfl, rfl⟩ (step_call0 rfl rfl (C13 [limE m, limE 0] (by simp)) rfl) ?_   -- 30
        refine TrC.spell 93 rfl (bv (b := false) (lim_order m (by omega) hm10)) ?_
        refine TrC.take ⟨_, _, rfl, rfl, rfl⟩ (step_pick rfl rfl rfl rfl) ?_   -- 31
        refine TrC.take rfl (step_pick rfl rfl rfl rfl) ?_   -- 32
        refine TrC.doneD rfl ?_
        refine AT.condF rfl ?_   -- t95
        refine AT.skip ?_
        refine AT.seq ?_
        refine AT.region ?_   -- region 10 law.go:193
        refine TrC.take rfl (step_move rfl rfl rfl) ?_   -- 0
        refine TrC.take rfl (step_buildS rfl ze31 rfl pl31 rfl rfl rfl rfl) ?_   -- 1
        refine TrC.take rfl (step_call0 rfl rfl (C25 (limL n) limP (by omega)) rfl) ?_   -- 2
        refine TrC.take rfl (step_move rfl rfl rfl) ?_   -- 3
        refine TrC.take rfl (step_extract rfl rfl rfl rfl) ?_   -- 4
        refine TrC.take rfl (step_extract rfl rfl rfl rfl) ?_   -- 5
        refine TrC.take rfl (step_assign rfl rfl rfl) ?_   -- 6
        refine TrC.take rfl (step_assign rfl rfl rfl) ?_   -- 7
        refine TrC.done ?_
        refine AT.seq ?_
        refine AT.region ?_   -- region 11 law.go:194
        refine TrC.take rfl (step_assign rfl rfl rfl) ?_   -- 0
        refine TrC.done ?_
        refine AT.seq ?_
        refine AT.seq ?_
        refine AT.region ?_   -- region 12 law.go:195
        refine TrC.take rfl (step_move rfl rfl rfl) ?_   -- 0
        refine TrC.take rfl (step_lenT (rt := 0) rfl rfl sl22 rfl) ?_   -- 1
        refine TrC.take rfl (step_bin rfl rfl rfl rfl rfl) ?_   -- 2
        refine TrC.done ?_
        refine AT.cond rfl (fun h104 => ?_) (fun h104 => ?_)   -- t104
        · -- true
          have c1 : n = 16 := by have h := h104; simp [lim_len] at h; omega
          refine AT.region ?_   -- region 13 law.go:196
          refine TrC.take rfl (step_assign rfl rfl rfl) ?_   -- 0
          refine TrC.done ?_
          refine AT.seq ?_
          refine AT.region ?_   -- region 16 law.go:200
          refine TrC.take rfl (step_move rfl rfl rfl) ?_   -- 0
          refine TrC.take rfl (step_move rfl rfl rfl) ?_   -- 1
          refine TrC.take rfl (step_bin rfl rfl rfl rfl rfl) ?_   -- 2
          refine TrC.spell 110 rfl (bv (b := true) (dtrue (by rw [hlp]; first | rw [if_pos c1] | rw [if_neg c1, if_pos c2] | rw [if_neg c1, if_neg c2]))) ?_
          refine TrC.take rfl (step_move rfl rfl rfl) ?_   -- 3
          refine TrC.take ⟨_, _, rfl, rfl, rfl⟩ (step_move rfl rfl rfl) ?_   -- 4
          refine TrC.take rfl (step_pick rfl rfl rfl rfl) ?_   -- 5
          refine TrC.take rfl (step_assign rfl rfl rfl) ?_   -- 6
          refine TrC.done ?_
          refine AT.ret ?_
          exact Ret.one rfl (ResR.tmp rfl (conv_b rfl))
        · -- false
          have c1 : ¬ n = 16 := by have h := h104; simp [lim_len] at h; omega
          refine AT.seq ?_
          refine AT.region ?_   -- region 14 law.go:197
          refine TrC.take rfl (step_move rfl rfl rfl) ?_   -- 0
          refine TrC.take rfl (step_lenT (rt := 0) rfl rfl sl22 rfl) ?_   -- 1
          refine TrC.take rfl (step_bin rfl rfl rfl rfl rfl) ?_   -- 2
          refine TrC.done ?_
          refine AT.cond rfl (fun h107 => ?_) (fun h107 => ?_)   -- t107
          · -- true
            have c2 : 16 < n := by have h := h107; simp [lim_len] at h; omega
            refine AT.region ?_   -- region 15 law.go:198
            refine TrC.take rfl (step_assign rfl rfl rfl) ?_   -- 0
            refine TrC.done ?_
            refine AT.seq ?_
            refine AT.region ?_   -- region 16 law.go:200
            refine TrC.take rfl (step_move rfl rfl rfl) ?_   -- 0
            refine TrC.take rfl (step_move rfl rfl rfl) ?_   -- 1
            refine TrC.take rfl (step_bin rfl rfl rfl rfl rfl) ?_   -- 2
            refine TrC.spell 110 rfl (bv (b := true) (dtrue (by rw [hlp]; first | rw [if_pos c1] | rw [if_neg c1, if_pos c2] | rw [if_neg c1, if_neg c2]))) ?_
            refine TrC.take rfl (step_move rfl rfl rfl) ?_   -- 3
            refine TrC.take ⟨_, _, rfl, rfl, rfl⟩ (step_move rfl rfl rfl) ?_   -- 4
            refine TrC.take rfl (step_pick rfl rfl rfl rfl) ?_   -- 5
            refine TrC.take rfl (step_assign rfl rfl rfl) ?_   -- 6
            refine TrC.done ?_
            refine AT.ret ?_
            exact Ret.one rfl (ResR.tmp rfl (conv_b rfl))
          · -- false
            have c2 : ¬ 16 < n := by have h := h107; simp [lim_len] at h; omega
            refine AT.skip ?_
            refine AT.seq ?_
            refine AT.region ?_   -- region 16 law.go:200
            refine TrC.take rfl (step_move rfl rfl rfl) ?_   -- 0
            refine TrC.take rfl (step_move rfl rfl rfl) ?_   -- 1
            refine TrC.take rfl (step_bin rfl rfl rfl rfl rfl) ?_   -- 2
            refine TrC.spell 110 rfl (bv (b := true) (dtrue (by rw [hlp]; first | rw [if_pos c1] | rw [if_neg c1, if_pos c2] | rw [if_neg c1, if_neg c2]))) ?_
            refine TrC.take rfl (step_move rfl rfl rfl) ?_   -- 3
            refine TrC.take ⟨_, _, rfl, rfl, rfl⟩ (step_move rfl rfl rfl) ?_   -- 4
            refine TrC.take rfl (step_pick rfl rfl rfl rfl) ?_   -- 5
            refine TrC.take rfl (step_assign rfl rfl rfl) ?_   -- 6
            refine TrC.done ?_
            refine AT.ret ?_
            exact Ret.one rfl (ResR.tmp rfl (conv_b rfl))
      · -- t80 = false
        refine TrC.skip ⟨_, _, rfl, rfl, rfl⟩ ?_   -- 18
        refine TrC.skip ⟨_, _, rfl, rfl, rfl⟩ ?_   -- 19
        refine TrC.skip ⟨_, _, rfl, rfl, rfl⟩ ?_   -- 20
        refine TrC.skip ⟨_, _, rfl, rfl, rfl⟩ ?_   -- 21
        refine TrC.skip ⟨_, _, rfl, rfl, rfl⟩ ?_   -- 22
        refine TrC.skip ⟨_, _, rfl, rfl, rfl⟩ ?_   -- 23
        refine TrC.skip ⟨_, _, rfl, rfl, rfl⟩ ?_   -- 24
        refine TrC.skip ⟨_, _, rfl, rfl, rfl⟩ ?_   -- 25
        refine TrC.skip ⟨_, _, rfl, rfl, rfl⟩ ?_   -- 26
        refine TrC.skip ⟨_, _, rfl, rfl, rfl⟩ ?_   -- 27
        refine TrC.skip ⟨_, _, rfl, rfl, rfl⟩ ?_   -- 28
        refine TrC.skip ⟨_, _, rfl, rfl, rfl⟩ ?_   -- 29
        refine TrC.skip ⟨_, _, rfl, rfl, rfl⟩ ?_   -- 30
        refine TrC.take ⟨_, _, rfl, rfl, rfl⟩ (step_pick rfl rfl rfl rfl) ?_   -- 31
        refine TrC.take rfl (step_pick rfl rfl rfl rfl) ?_   -- 32
        refine TrC.doneD rfl ?_
        refine AT.condF rfl ?_   -- t95
        refine AT.skip ?_
        refine AT.seq ?_
        refine AT.region ?_   -- region 10 law.go:193
        refine TrC.take rfl (step_move rfl rfl rfl) ?_   -- 0
        refine TrC.take rfl (step_buildS rfl ze31 rfl pl31 rfl rfl rfl rfl) ?_   -- 1
        refine TrC.take rfl (step_call0 rfl rfl (C25 (limL n) limP (by omega)) rfl) ?_   -- 2
        refine TrC.take rfl (step_move rfl rfl rfl) ?_   -- 3
        refine TrC.take rfl (step_extract rfl rfl rfl rfl) ?_   -- 4
        refine TrC.take rfl (step_extract rfl rfl rfl rfl) ?_   -- 5
        refine TrC.take rfl (step_assign rfl rfl rfl) ?_   -- 6
        refine TrC.take rfl (step_assign rfl rfl rfl) ?_   -- 7
        refine TrC.done ?_
        refine AT.seq ?_
        refine AT.region ?_   -- region 11 law.go:194
        refine TrC.take rfl (step_assign rfl rfl rfl) ?_   -- 0
        refine TrC.done ?_
        refine AT.seq ?_
        refine AT.seq ?_
        refine AT.region ?_   -- region 12 law.go:195
        refine TrC.take rfl (step_move rfl rfl rfl) ?_   -- 0
        refine TrC.take rfl (step_lenT (rt := 0) rfl rfl sl22 rfl) ?_   -- 1
        refine TrC.take rfl (step_bin rfl rfl rfl rfl rfl) ?_   -- 2
        refine TrC.done ?_
        refine AT.cond rfl (fun h104 => ?_) (fun h104 => ?_)   -- t104
        · -- true
          have c1 : n = 16 := by have h := h104; simp [lim_len] at h; omega
          refine AT.region ?_   -- region 13 law.go:196
          refine TrC.take rfl (step_assign rfl rfl rfl) ?_   -- 0
          refine TrC.done ?_
          refine AT.seq ?_
          refine AT.region ?_   -- region 16 law.go:200
          refine TrC.take rfl (step_move rfl rfl rfl) ?_   -- 0
          refine TrC.take rfl (step_move rfl rfl rfl) ?_   -- 1
          refine TrC.take rfl (step_bin rfl rfl rfl rfl rfl) ?_   -- 2
          refine TrC.spell 110 rfl (bv (b := true) (dtrue (by rw [hlp]; first | rw [if_pos c1] | rw [if_neg c1, if_pos c2] | rw [if_neg c1, if_neg c2]))) ?_
          refine TrC.take rfl (step_move rfl rfl rfl) ?_   -- 3
          refine TrC.take ⟨_, _, rfl, rfl, rfl⟩ (step_move rfl rfl rfl) ?_   -- 4
          refine TrC.take rfl (step_pick rfl rfl rfl rfl) ?_   -- 5
          refine TrC.take rfl (step_assign rfl rfl rfl) ?_   -- 6
          refine TrC.done ?_
          refine AT.ret ?_
          exact Ret.one rfl (ResR.tmp rfl (conv_b rfl))
        · -- false
          have c1 : ¬ n = 16 := by have h := h104; simp [lim_len] at h; omega
          refine AT.seq ?_
          refine AT.region ?_   -- region 14 law.go:197
          refine TrC.take rfl (step_move rfl rfl rfl) ?_   -- 0
          refine TrC.take rfl (step_lenT (rt := 0) rfl rfl sl22 rfl) ?_   -- 1
          refine TrC.take rfl (step_bin rfl rfl rfl rfl rfl) ?_   -- 2
          refine TrC.done ?_
          refine AT.cond rfl (fun h107 => ?_) (fun h107 => ?_)   -- t107
          · -- true
            have c2 : 16 < n := by have h := h107; simp [lim_len] at h; omega
            refine AT.region ?_   -- region 15 law.go:198
            refine TrC.take rfl (step_assign rfl rfl rfl) ?_   -- 0
            refine TrC.done ?_
            refine AT.seq ?_
            refine AT.region ?_   -- region 16 law.go:200
            refine TrC.take rfl (step_move rfl rfl rfl) ?_   -- 0
            refine TrC.take rfl (step_move rfl rfl rfl) ?_   -- 1
            refine TrC.take rfl (step_bin rfl rfl rfl rfl rfl) ?_   -- 2
            refine TrC.spell 110 rfl (bv (b := true) (dtrue (by rw [hlp]; first | rw [if_pos c1] | rw [if_neg c1, if_pos c2] | rw [if_neg c1, if_neg c2]))) ?_
            refine TrC.take rfl (step_move rfl rfl rfl) ?_   -- 3
            refine TrC.take ⟨_, _, rfl, rfl, rfl⟩ (step_move rfl rfl rfl) ?_   -- 4
            refine TrC.take rfl (step_pick rfl rfl rfl rfl) ?_   -- 5
            refine TrC.take rfl (step_assign rfl rfl rfl) ?_   -- 6
            refine TrC.done ?_
            refine AT.ret ?_
            exact Ret.one rfl (ResR.tmp rfl (conv_b rfl))
          · -- false
            have c2 : ¬ 16 < n := by have h := h107; simp [lim_len] at h; omega
            refine AT.skip ?_
            refine AT.seq ?_
            refine AT.region ?_   -- region 16 law.go:200
            refine TrC.take rfl (step_move rfl rfl rfl) ?_   -- 0
            refine TrC.take rfl (step_move rfl rfl rfl) ?_   -- 1
            refine TrC.take rfl (step_bin rfl rfl rfl rfl rfl) ?_   -- 2
            refine TrC.spell 110 rfl (bv (b := true) (dtrue (by rw [hlp]; first | rw [if_pos c1] | rw [if_neg c1, if_pos c2] | rw [if_neg c1, if_neg c2]))) ?_
            refine TrC.take rfl (step_move rfl rfl rfl) ?_   -- 3
            refine TrC.take ⟨_, _, rfl, rfl, rfl⟩ (step_move rfl rfl rfl) ?_   -- 4
            refine TrC.take rfl (step_pick rfl rfl rfl rfl) ?_   -- 5
            refine TrC.take rfl (step_assign rfl rfl rfl) ?_   -- 6
            refine TrC.done ?_
            refine AT.ret ?_
            exact Ret.one rfl (ResR.tmp rfl (conv_b rfl))

end Go.Proofs.Ytgblfhobiibeaaa.Acl

/- AclLimits: from the function's contract to arguments as they come. No condition. -/
set_option linter.unusedVariables false
namespace Go.Proofs.Ytgblfhobiibeaaa.aclLimits
open Go.Proofs.Ytgblfhobiibeaaa.Abs Go.Proofs.Ytgblfhobiibeaaa.Acl Go.RowKit
theorem AclLimits_has (x0 x1 : T) (f0 : Fits Try.prog 5 x0.cells) (a0 : (∃ l, x0 = .agg l) ↔ (partsOf Try.prog 5).isSome = true) (f1 : Fits Try.prog 31 x1.cells) (a1 : (∃ l, x1 = .agg l) ↔ (partsOf Try.prog 31).isSome = true) : Has Try.prog 9 [x0, x1] (.b true) := by
  obtain ⟨k, rfl, hk⟩ := intV (k := .u8) f0 a0 (by kernel_rfl)
  obtain ⟨e, rfl⟩ := fitA f1 a1 (ti := 3) (tb := 4) (by kernel_rfl) (by kernel_rfl) (by kernel_rfl) (by kernel_rfl) (by kernel_rfl) (by kernel_rfl)
  exact C9 k hk e
end Go.Proofs.Ytgblfhobiibeaaa.aclLimits

/- The statement AclLimitsSaid is proved here: the law's function returns true for all its arguments and panics for none. No condition. -/
namespace Go.Proofs.Ytgblfhobiibeaaa.aclLimits
open Go.ChangeShapes Go.WideShapes Go.ChangeAt Go.RowKit
open Go.Proofs.Ytgblfhobiibeaaa.Abs
set_option linter.unusedVariables false
theorem own : ownKnob Try.prog.godebug = none := by kernel_rfl
theorem laidOut : laidOutB Try.prog = true := by kernel_rfl
set_option maxRecDepth 100000 in
theorem lifted (os : Os) (started : os.Started) (H : Type) (enc : TypeId × Value → H) :
    ReturnsInHanded {} Try.checked os 9 .any (Rows.aclLimitsSpec.pre6 enc Try.prog Try.f9 Rows.aclLimitsRow.domain false) (Rows.aclLimitsSpec.post enc Try.prog Try.f9 false true false false) := by
  refine returnsInHanded_of_change_sized (C := Try.checked) own started (by kernel_rfl) Try.func9
    (ChangeSpec.witness6 (enc := enc) (C := Try.checked) false ⟨#[], #[.int .u8 0, .agg #[.int .i64 0, .bool false, .int .i64 0, .int .i64 0, .bool false]], []⟩ 8 (by kernel_rfl) (by kernel_rfl) (by kernel_rfl) (by kernel_rfl)) ?_
  intro W base args ds gs before hval0 hW hcnd hsz0 _
  have hval : ∀ (j : Nat) t v, Try.f9.params[j]? = some t → args[j]? = some v → Value.okWide Try.prog W .any base t v := hval0
  have hW' := hW
  obtain ⟨p, q, hA0, hV, rfl, hfz, hnd⟩ := hW
  have hA : DataW.TrodAll enc Try.prog W 0 (fun _ => true) true Try.f9.params.toList args.toList ds p := hA0
  rw [show Try.f9.params = #[5, 31] from by kernel_rfl] at hA hval
  obtain ⟨v0, vs0, d0, ds0, p0, q0, hargs, rfl, rfl, h0, r0⟩ := trodAll_cons hA
  obtain ⟨v1, vs1, d1, ds1, p1, q1, rfl, rfl, rfl, h1, r1⟩ := trodAll_cons r0
  obtain ⟨rfl, rfl, rfl⟩ := trodAll_nil r1
  obtain rfl : args = #[v0, v1] := by cases args; simp_all
  obtain ⟨rfl, rfl⟩ := trodVars_none hV
  have lt0 : ∀ x ∈ p0, x.block < W.heap.size := by obtain ⟨m, hm⟩ := h0; exact DataW.trod_lt m _ _ _ hm
  obtain ⟨x0, rd0, ft0, ag0⟩ := Trod_reads 8 (by kernel_rfl) (hval 0 5 v0 rfl rfl) h0
  have lt1 : ∀ x ∈ p1, x.block < W.heap.size := by obtain ⟨m, hm⟩ := h1; exact DataW.trod_lt m _ _ _ hm
  obtain ⟨x1, rd1, ft1, ag1⟩ := Trod_reads 8 (by kernel_rfl) (hval 1 31 v1 rfl rfl) h1
  have hh := AclLimits_has x0 x1 ft0 ag0 ft1 ag1
  refine (hh.2 W (okW W) #[v0, v1] (fun _ h => h) rfl ?_).mono fun e W' hx => ?_
  · intro i h1 h2
    rcases i with _ | i; exact rd0; rcases i with _ | i; exact rd1; simp at h1 <;> omega
  · obtain ⟨v, he, hr, bel⟩ := hx
    subst he
    cases hr with
    | v _ =>
      exact ⟨_, rfl, _, _, _, [], _, [], hW', trodAll_mk1 (shut_bool (show Try.prog.underlying 4 = some .bool by kernel_rfl) _), (trodAll_cons_mk (Below.trod laidOut (by kernel_rfl) (of_decide_eq_true (by kernel_rfl)) h0 bel lt0) (trodAll_cons_mk (Below.trod laidOut (by kernel_rfl) (of_decide_eq_true (by kernel_rfl)) h1 bel lt1) trodAll_mk0)), rfl, bel.frame _, fun h => by cases h⟩
theorem over : Rows.aclLimitsRow.holds Try.pinned (OpenSpec.ofChange Rows.aclLimitsSpec) :=
  OpenClaim.holds_of_wide 9 Try.f9 rfl rfl rfl rfl rfl rfl rfl ⟨rfl, rfl, rfl, rfl, rfl⟩ rfl rfl rfl rfl rfl (by kernel_rfl) Try.func9 (by kernel_rfl)
    (of_decide_eq_true (by kernel_rfl)) (by unfold Func.isWrapper; first | (rw [if_pos (by decide +kernel)]; kernel_rfl) | (rw [if_neg (by decide +kernel)]; exact ⟨rfl, rfl⟩))
    (fun os started H enc _ => lifted os started H enc)
theorem proved : Rows.AclLimitsSaid := over
#print axioms proved
end Go.Proofs.Ytgblfhobiibeaaa.aclLimits
namespace Go.Proofs.Ytgblfhobiibeaaa
/-- The row, under a short name, for the claim. -/
theorem aclLimits_holds : Rows.AclLimitsSaid := aclLimits.proved
end Go.Proofs.Ytgblfhobiibeaaa

