/- Parts of this proof, one after the other; each says what it proves. No condition. -/
import Derived.Test.YtnemmdbafngppaaMF
import Derived.Test.YtnemmdbafngppaaRows
import Derived.Test.YtnemmdbafngppaaMC
import Derived.WalkKit
import Derived.ProofKit
import Derived.OpenShut
import Derived.ShutString
import Derived.ChangeOld
import Derived.Below
import Derived.Carry
import Derived.SizedLaws
/- Contracts of functions of this translation. Printed by wip/tools/gen.py out of wip/net/ann.py. No condition. -/
set_option linter.unusedVariables false
set_option linter.unusedSimpArgs false
namespace Go.Proofs.Ytnemmdbafngppaa.Net
open Go.Proofs.Ytnemmdbafngppaa.Abs
set_option maxRecDepth 100000
set_option maxHeartbeats 4000000
theorem C4 (l : List (Int × Int × Int)) (hb : ∀ x ∈ l, (0 ≤ x.1 ∧ x.1 ≤ 255) ∧ (0 ≤ x.2.1 ∧ x.2.1 ≤ 255) ∧ (0 ≤ x.2.2 ∧ x.2.2 ≤ 255)) : Has Try.prog 4 [.slice 3 (l.map encB)] (.b true) := by   -- burgage/burgagelaw32.NetScripts
  refine Has.intro 117 Try.func4 (by kernel_rfl) rfl rfl fun w ok => ?_
  refine AT.seq ?_
  refine AT.region ?_   -- region 0 law.go:86
  refine TrC.take rfl (step_assign rfl rfl rfl) ?_   -- 0
  refine TrC.done ?_
  refine AT.seq ?_
  refine AT.region ?_   -- region 1 law.go:87
  refine TrC.take rfl (step_call0 rfl rfl (C11) rfl) ?_   -- 0
  refine TrC.take rfl (step_assign rfl rfl rfl) ?_   -- 1
  refine TrC.done ?_
  refine AT.seq ?_
  refine AT.region ?_   -- region 2 law.go:88
  refine TrC.take rfl (step_buildC rfl ze30 zc30 rfl pl30 rfl rfl rfl rfl) ?_   -- 0
  refine TrC.take rfl (step_buildC rfl ze30 zc30 rfl pl30 rfl rfl rfl rfl) ?_   -- 1
  refine TrC.take rfl (step_allocC rfl rfl ze30 zc30 rfl rfl rfl) ?_   -- 2
  refine TrC.take rfl (step_allocC rfl rfl ze30 zc30 rfl rfl rfl) ?_   -- 3
  refine TrC.take rfl (step_storeP rfl rfl rfl rfl rfl (.inl rfl) ty30 rfl rfl rfl) ?_   -- 4
  refine TrC.take rfl (step_storeP rfl rfl rfl rfl rfl (.inl rfl) ty30 rfl rfl rfl) ?_   -- 5
  refine TrC.done ?_
  refine AT.seq ?_
  refine AT.seq ?_
  refine AT.region ?_   -- region 3 law.go:89
  refine TrC.take rfl (step_assign rfl rfl rfl) ?_   -- 0
  refine TrC.done ?_
  refine AT.block ?_   -- block 0
  refine AT.loopP (fun p : Nat × Net => p.1 ≤ l.length ∧ p.1 ≤ 30 ∧ (l.take p.1).foldl step ⟨[], [], 1⟩ = p.2) (fun (i, N) => mkS [(0, .t (.slice 3 (l.map encB))), (3, .t (.b true)), (4, .p 4 0), (5, .p 5 0), (6, .t (.i i))] [(4, .box 30 [.t (.slice 3 (N.fl.map encP)), .t (.slice 2 (N.cuts.map encC)), .t (.i N.next)]), (5, .box 30 [.t (.slice 3 (N.fl.map encP)), .t (.slice 2 (N.cuts.map encC)), .t (.i N.next)])]) (fun p => 30 - p.1) ((0, ⟨[], [], 1⟩)) (⟨by simp, by simp, rfl⟩) (fun a w hs => Sat.wk [] (.cons (.t (.refl _)) (.cons (.t (.refl _)) (.cons (.p rfl) (.cons (.p rfl) (.cons (.t (.refl _)) (.nil)))))) (.cons rfl (.box (.cons (.t (.refl _)) (.cons (.t (.refl _)) (.cons (.t (.refl _)) (.nil))))) (.cons rfl (.box (.cons (.t (.refl _)) (.cons (.t (.refl _)) (.cons (.t (.refl _)) (.nil))))) (.nil))) rfl rfl a w hs) (fun ix hix => ?_)
  obtain ⟨i, N⟩ := ix
  obtain ⟨hi, h30, hN⟩ := hix
  simp only at hi h30 hN
  have hv : VN N := hN ▸ VN.made0.steps _
  have hn1 := hv.n1
  have hn2 := hv.n2
  refine AT.seq ?_
  refine AT.seq ?_
  refine AT.region ?_   -- region 4 law.go:89
  refine TrC.take rfl (step_move rfl rfl rfl) ?_   -- 0
  refine TrC.take rfl (step_move rfl rfl rfl) ?_   -- 1
  refine TrC.take rfl (step_lenT (rt := 0) rfl rfl sl22 rfl) ?_   -- 2
  refine TrC.take rfl (step_bin rfl rfl rfl rfl rfl) ?_   -- 3
  refine TrC.take rfl (step_move rfl rfl rfl) ?_   -- 4
  refine TrC.cases (d := 18) rfl (fun h18 => ?_) (fun h18 => ?_)
  · -- t18 = true
    have hlt : i < l.length := by have h := h18; simp at h; omega
    refine TrC.take ⟨_, _, rfl, rfl, rfl⟩ (step_move rfl rfl rfl) ?_   -- 5
    refine TrC.take ⟨_, _, rfl, rfl, rfl⟩ (step_bin rfl rfl rfl rfl rfl) ?_   -- 6
    refine TrC.take rfl (step_pick rfl rfl rfl rfl) ?_   -- 7
    refine TrC.done ?_
    refine AT.cond rfl (fun h21 => ?_) (fun h21 => ?_)   -- t21
    · -- true
      have hlt2 : i < 30 := by have h := h21; simp at h; omega
      obtain ⟨x0, x1, x2, hx⟩ : ∃ x0 x1 x2, l[i] = (x0, x1, x2) := ⟨_, _, _, rfl⟩
      have hget : (l.map encB)[i]? = some (.agg [.u8 x0, .u8 x1, .u8 x2]) := by rw [List.getElem?_map, List.getElem?_eq_getElem hlt, hx]; rfl
      obtain ⟨hx0, hx1, hx2⟩ := hb _ (List.getElem_mem hlt)
      rw [hx] at hx0 hx1 hx2
      simp only at hx0 hx1 hx2
      have hw : VN (step N (x0, x1, x2)) := hv.step _
      have hw1 := hw.n1
      have hw2 := hw.n2
      refine AT.skip ?_
      refine AT.seq ?_
      refine AT.block ?_   -- block 1
      refine AT.seq ?_
      refine AT.regionD mixed rfl ?_   -- region 6 law.go:90
      refine TrC.take rfl (step_move rfl rfl rfl) ?_   -- 0
      refine TrC.take rfl (step_move rfl rfl rfl) ?_   -- 1
      refine TrC.take rfl (step_indexAddrT (v := .agg [.u8 x0, .u8 x1, .u8 x2]) rfl rfl rfl sl22 (by omega) (by first | exact hget | simpa using hget) rfl rfl) ?_   -- 2
      refine TrC.take rfl (step_loadTN rfl rfl ty47 rfl rfl) ?_   -- 3
      refine TrC.take rfl (step_fieldAddrP rfl rfl fd30_2 rfl rfl) ?_   -- 4
      refine TrC.take rfl (step_loadP1 rfl rfl rfl ty3 rfl rfl) ?_   -- 5
      refine TrC.take rfl (step_alloc rfl rfl ze47 rfl rfl rfl) ?_   -- 6
      refine TrC.take rfl (step_storeP rfl rfl rfl rfl rfl (.inl rfl) ty47 rfl rfl rfl) ?_   -- 7
      refine TrC.take rfl (step_assign rfl rfl rfl) ?_   -- 8
      refine TrC.doneD rfl ?_
      refine AT.seq ?_
      refine AT.regionD mixed rfl ?_   -- region 7 law.go:91
      refine TrC.take rfl (step_indexAddrP rfl rfl rfl ar47 (by decide) (by decide) rfl) ?_   -- 0
      refine TrC.take rfl (step_loadP1 rfl rfl rfl ty5 rfl rfl) ?_   -- 1
      first | refine TrC.take rfl (step_remI rfl rfl rfl (by omega) (by first | omega | (simp; done) | (simp; omega)) rfl) ?_ | refine TrC.take rfl (step_bin rfl rfl rfl rfl rfl) ?_   -- 2
      refine TrC.take rfl (step_convI rfl rfl in5 in3 (by omega) (by omega) rfl) ?_   -- 3
      refine TrC.take rfl (step_indexAddrP rfl rfl rfl ar47 (by decide) (by decide) rfl) ?_   -- 4
      refine TrC.take rfl (step_loadP1 rfl rfl rfl ty5 rfl rfl) ?_   -- 5
      first | refine TrC.take rfl (step_remI rfl rfl rfl (by omega) (by first | omega | (simp; done) | (simp; omega)) rfl) ?_ | refine TrC.take rfl (step_bin rfl rfl rfl rfl rfl) ?_   -- 6
      refine TrC.take rfl (step_convI rfl rfl in5 in3 (by omega) (by omega) rfl) ?_   -- 7
      refine TrC.take rfl (step_assign rfl rfl rfl) ?_   -- 8
      refine TrC.take rfl (step_assign rfl rfl rfl) ?_   -- 9
      refine TrC.doneD rfl ?_
      refine AT.seq ?_
      refine AT.seq ?_
      refine AT.region ?_   -- region 8 law.go:92
      refine TrC.take rfl (step_indexAddrP rfl rfl rfl ar47 (by decide) (by decide) rfl) ?_   -- 0
      refine TrC.take rfl (step_loadP1 rfl rfl rfl ty5 rfl rfl) ?_   -- 1
      first | refine TrC.take rfl (step_remI rfl rfl rfl (by omega) (by first | omega | (simp; done) | (simp; omega)) rfl) ?_ | refine TrC.take rfl (step_bin rfl rfl rfl rfl rfl) ?_   -- 2
      refine TrC.done ?_
      refine AT.block ?_   -- block 2
      refine AT.seq ?_
      refine AT.seq ?_
      refine AT.region ?_   -- region 10 law.go:93
      refine TrC.take rfl (step_bin rfl rfl rfl rfl rfl) ?_   -- 0
      refine TrC.take rfl (step_assign rfl rfl rfl) ?_   -- 1
      refine TrC.done ?_
      refine AT.cond rfl (fun h52 => ?_) (fun h52 => ?_)   -- t52
      · -- true
        refine AT.spell 52 rfl (congrArg (fun b => T.v (.bool b)) h52) ?_
        refine AT.skip ?_
        refine AT.condT rfl ?_   -- t52
        refine AT.region ?_   -- region 13 law.go:94
        refine TrC.take rfl (step_loadPN rfl rfl rfl ty30 rfl rfl rfl) ?_   -- 0
        refine TrC.take rfl (step_move rfl rfl rfl) ?_   -- 1
        refine TrC.take rfl (step_move rfl rfl rfl) ?_   -- 2
        refine TrC.take rfl (step_call0 rfl rfl (D13 hv (x1 % 5) (x2 % 5)) rfl) ?_   -- 3
        refine TrC.take rfl (step_fieldN rfl rfl fd35_0 ty30 rfl rfl) ?_   -- 4
        refine TrC.take rfl (step_storeP rfl rfl rfl rfl rfl (.inl rfl) ty30 rfl rfl rfl) ?_   -- 5
        refine TrC.done ?_
        refine AT.seq ?_
        refine AT.wk (sl := [(0, .t (.slice 3 (l.map encB))), (3, .t (.b true)), (4, .p 4 0), (5, .p 5 0), (6, .t (.i i)), (7, .p 7 0), (8, .t (.i N.next))]) (ml := [(4, .box 30 [.t (.slice 3 ((step N (x0, x1, x2)).fl.map encP)), .t (.slice 2 ((step N (x0, x1, x2)).cuts.map encC)), .t (.i (step N (x0, x1, x2)).next)]), (5, .box 30 [.t (.slice 3 (N.fl.map encP)), .t (.slice 2 (N.cuts.map encC)), .t (.i N.next)]), (7, .box 47 [.t (.u8 x0), .t (.u8 x1), .t (.u8 x2)])]) [] (.cons (.t (.refl _)) (.cons (.t (.refl _)) (.cons (.p rfl) (.cons (.p rfl) (.cons (.t (.refl _)) (.cons (.p rfl) (.cons (.t (.refl _)) (.nil)))))))) (.cons rfl (.box (.cons (.t (conv_eq (by rcases (show x0 % 8 = 0 ∨ x0 % 8 = 1 ∨ x0 % 8 = 2 ∨ x0 % 8 = 3 ∨ x0 % 8 = 4 ∨ x0 % 8 = 5 ∨ x0 % 8 = 6 ∨ x0 % 8 = 7 from by omega) with h8 | h8 | h8 | h8 | h8 | h8 | h8 | h8 <;> simp_all [step, doneN]))) (.cons (.t (conv_eq (by rcases (show x0 % 8 = 0 ∨ x0 % 8 = 1 ∨ x0 % 8 = 2 ∨ x0 % 8 = 3 ∨ x0 % 8 = 4 ∨ x0 % 8 = 5 ∨ x0 % 8 = 6 ∨ x0 % 8 = 7 from by omega) with h8 | h8 | h8 | h8 | h8 | h8 | h8 | h8 <;> simp_all [step, doneN]))) (.cons (.t (conv_eq (by rcases (show x0 % 8 = 0 ∨ x0 % 8 = 1 ∨ x0 % 8 = 2 ∨ x0 % 8 = 3 ∨ x0 % 8 = 4 ∨ x0 % 8 = 5 ∨ x0 % 8 = 6 ∨ x0 % 8 = 7 from by omega) with h8 | h8 | h8 | h8 | h8 | h8 | h8 | h8 <;> simp_all [step, doneN]))) (.nil))))) (.cons rfl (.box (.cons (.t (.refl _)) (.cons (.t (.refl _)) (.cons (.t (.refl _)) (.nil))))) (.cons rfl (.box (.cons (.t (.refl _)) (.cons (.t (.refl _)) (.cons (.t (.refl _)) (.nil))))) (.nil)))) rfl rfl ?_
        refine AT.region ?_   -- region 19 law.go:102
        refine TrC.take rfl (step_loadPN rfl rfl rfl ty30 rfl rfl rfl) ?_   -- 0
        refine TrC.take rfl (step_loadPN rfl rfl rfl ty47 rfl rfl rfl) ?_   -- 1
        refine TrC.take rfl (step_call0 rfl rfl (C28 N x0 x1 x2 hx0 hx1 hx2 hv.l1 hv.l2 hv.x0) rfl) ?_   -- 2
        refine TrC.take rfl (step_storeP rfl rfl rfl rfl rfl (.inl rfl) ty30 rfl rfl rfl) ?_   -- 3
        refine TrC.done ?_
        refine AT.seq ?_
        refine AT.region ?_   -- region 20 law.go:103
        refine TrC.take rfl (step_loadPN rfl rfl rfl ty30 rfl rfl rfl) ?_   -- 0
        refine TrC.take rfl (step_call0 rfl rfl (D27 hw) rfl) ?_   -- 1
        refine TrC.spell 90 rfl (bv (b := true) (rfl)) ?_
        refine TrC.take rfl (step_not rfl rfl rfl) ?_   -- 2
        refine TrC.take rfl (step_move rfl rfl rfl) ?_   -- 3
        refine TrC.take ⟨_, _, rfl, rfl, rfl⟩ (step_loadPN rfl rfl rfl ty30 rfl rfl rfl) ?_   -- 4
        refine TrC.take ⟨_, _, rfl, rfl, rfl⟩ (step_call0 rfl rfl (D26 hw) rfl) ?_   -- 5
        refine TrC.spell 94 rfl (bv (b := true) (rfl)) ?_
        refine TrC.take ⟨_, _, rfl, rfl, rfl⟩ (step_not rfl rfl rfl) ?_   -- 6
        refine TrC.take rfl (step_pick rfl rfl rfl rfl) ?_   -- 7
        refine TrC.take rfl (step_move rfl rfl rfl) ?_   -- 8
        refine TrC.take ⟨_, _, rfl, rfl, rfl⟩ (step_loadPN rfl rfl rfl ty30 rfl rfl rfl) ?_   -- 9
        refine TrC.take ⟨_, _, rfl, rfl, rfl⟩ (step_loadPN rfl rfl rfl ty30 rfl rfl rfl) ?_   -- 10
        refine TrC.take ⟨_, _, rfl, rfl, rfl⟩ (step_call0 rfl rfl (D15 hw (step N (x0, x1, x2))) rfl) ?_   -- 11
        refine TrC.spell 100 rfl (bv (b := true) (by simp)) ?_
        refine TrC.take ⟨_, _, rfl, rfl, rfl⟩ (step_not rfl rfl rfl) ?_   -- 12
        refine TrC.take rfl (step_pick rfl rfl rfl rfl) ?_   -- 13
        refine TrC.take rfl (step_move rfl rfl rfl) ?_   -- 14
        refine TrC.take ⟨_, _, rfl, rfl, rfl⟩ (step_fieldAddrP rfl rfl fd30_2 rfl rfl) ?_   -- 15
        refine TrC.take ⟨_, _, rfl, rfl, rfl⟩ (step_loadP1 rfl rfl rfl ty3 rfl rfl) ?_   -- 16
        refine TrC.take ⟨_, _, rfl, rfl, rfl⟩ (step_move rfl rfl rfl) ?_   -- 17
        refine TrC.take ⟨_, _, rfl, rfl, rfl⟩ (step_bin rfl rfl rfl rfl rfl) ?_   -- 18
        refine TrC.spell 107 rfl (bv (b := false) (by have := step_facts N (x0, x1, x2); simp; omega)) ?_
        refine TrC.take rfl (step_pick rfl rfl rfl rfl) ?_   -- 19
        refine TrC.take rfl (step_move rfl rfl rfl) ?_   -- 20
        refine TrC.take ⟨_, _, rfl, rfl, rfl⟩ (step_fieldAddrP rfl rfl fd30_2 rfl rfl) ?_   -- 21
        refine TrC.take ⟨_, _, rfl, rfl, rfl⟩ (step_loadP1 rfl rfl rfl ty3 rfl rfl) ?_   -- 22
        refine TrC.take ⟨_, _, rfl, rfl, rfl⟩ (step_move rfl rfl rfl) ?_   -- 23
        refine TrC.take ⟨_, _, rfl, rfl, rfl⟩ (step_addI rfl rfl rfl (by first | omega | (simp; done) | (simp; omega)) (by first | omega | (simp; done) | (simp; omega)) rfl) ?_   -- 24
        refine TrC.take ⟨_, _, rfl, rfl, rfl⟩ (step_bin rfl rfl rfl rfl rfl) ?_   -- 25
        refine TrC.spell 114 rfl (bv (b := false) (by have := step_facts N (x0, x1, x2); simp; omega)) ?_
        refine TrC.take rfl (step_pick rfl rfl rfl rfl) ?_   -- 26
        refine TrC.done ?_
        refine AT.condF rfl ?_   -- t115
        refine AT.skip ?_
        refine AT.region ?_   -- region 5 law.go:89
        refine TrC.take rfl (step_move rfl rfl rfl) ?_   -- 0
        refine TrC.take rfl (step_addI rfl rfl rfl (by first | omega | (simp; done) | (simp; omega)) (by first | omega | (simp; done) | (simp; omega)) rfl) ?_   -- 1
        refine TrC.take rfl (step_assign rfl rfl rfl) ?_   -- 2
        refine TrC.done ?_
        exact ⟨(i + 1, (step N (x0, x1, x2))), ⟨by show i + 1 ≤ l.length; omega, by show i + 1 ≤ 30; omega, by show (l.take (i + 1)).foldl step ⟨[], [], 1⟩ = _; rw [take_snoc hlt, List.foldl_append, hN, hx]; rfl⟩, by show 30 - (i + 1) < 30 - i; omega, Sat.wk [] (.cons (.t (.refl _)) (.cons (.t (.refl _)) (.cons (.p rfl) (.cons (.p rfl) (.cons (.t (conv_i (by simp))) (.nil)))))) (.cons rfl (.box (.cons (.t (.refl _)) (.cons (.t (.refl _)) (.cons (.t (.refl _)) (.nil))))) (.cons rfl (.box (.cons (.t (.refl _)) (.cons (.t (.refl _)) (.cons (.t (.refl _)) (.nil))))) (.nil))) rfl rfl⟩
      · -- false
        refine AT.spell 52 rfl (congrArg (fun b => T.v (.bool b)) h52) ?_
        refine AT.seq ?_
        refine AT.region ?_   -- region 11 law.go:93
        refine TrC.take rfl (step_bin rfl rfl rfl rfl rfl) ?_   -- 0
        refine TrC.take rfl (step_assign rfl rfl rfl) ?_   -- 1
        refine TrC.done ?_
        refine AT.cond rfl (fun h52 => ?_) (fun h52 => ?_)   -- t52
        · -- true
          refine AT.spell 52 rfl (congrArg (fun b => T.v (.bool b)) h52) ?_
          refine AT.skip ?_
          refine AT.condT rfl ?_   -- t52
          refine AT.region ?_   -- region 13 law.go:94
          refine TrC.take rfl (step_loadPN rfl rfl rfl ty30 rfl rfl rfl) ?_   -- 0
          refine TrC.take rfl (step_move rfl rfl rfl) ?_   -- 1
          refine TrC.take rfl (step_move rfl rfl rfl) ?_   -- 2
          refine TrC.take rfl (step_call0 rfl rfl (D13 hv (x1 % 5) (x2 % 5)) rfl) ?_   -- 3
          refine TrC.take rfl (step_fieldN rfl rfl fd35_0 ty30 rfl rfl) ?_   -- 4
          refine TrC.take rfl (step_storeP rfl rfl rfl rfl rfl (.inl rfl) ty30 rfl rfl rfl) ?_   -- 5
          refine TrC.done ?_
          refine AT.seq ?_
          refine AT.wk (sl := [(0, .t (.slice 3 (l.map encB))), (3, .t (.b true)), (4, .p 4 0), (5, .p 5 0), (6, .t (.i i)), (7, .p 7 0), (8, .t (.i N.next))]) (ml := [(4, .box 30 [.t (.slice 3 ((step N (x0, x1, x2)).fl.map encP)), .t (.slice 2 ((step N (x0, x1, x2)).cuts.map encC)), .t (.i (step N (x0, x1, x2)).next)]), (5, .box 30 [.t (.slice 3 (N.fl.map encP)), .t (.slice 2 (N.cuts.map encC)), .t (.i N.next)]), (7, .box 47 [.t (.u8 x0), .t (.u8 x1), .t (.u8 x2)])]) [] (.cons (.t (.refl _)) (.cons (.t (.refl _)) (.cons (.p rfl) (.cons (.p rfl) (.cons (.t (.refl _)) (.cons (.p rfl) (.cons (.t (.refl _)) (.nil)))))))) (.cons rfl (.box (.cons (.t (conv_eq (by rcases (show x0 % 8 = 0 ∨ x0 % 8 = 1 ∨ x0 % 8 = 2 ∨ x0 % 8 = 3 ∨ x0 % 8 = 4 ∨ x0 % 8 = 5 ∨ x0 % 8 = 6 ∨ x0 % 8 = 7 from by omega) with h8 | h8 | h8 | h8 | h8 | h8 | h8 | h8 <;> simp_all [step, doneN]))) (.cons (.t (conv_eq (by rcases (show x0 % 8 = 0 ∨ x0 % 8 = 1 ∨ x0 % 8 = 2 ∨ x0 % 8 = 3 ∨ x0 % 8 = 4 ∨ x0 % 8 = 5 ∨ x0 % 8 = 6 ∨ x0 % 8 = 7 from by omega) with h8 | h8 | h8 | h8 | h8 | h8 | h8 | h8 <;> simp_all [step, doneN]))) (.cons (.t (conv_eq (by rcases (show x0 % 8 = 0 ∨ x0 % 8 = 1 ∨ x0 % 8 = 2 ∨ x0 % 8 = 3 ∨ x0 % 8 = 4 ∨ x0 % 8 = 5 ∨ x0 % 8 = 6 ∨ x0 % 8 = 7 from by omega) with h8 | h8 | h8 | h8 | h8 | h8 | h8 | h8 <;> simp_all [step, doneN]))) (.nil))))) (.cons rfl (.box (.cons (.t (.refl _)) (.cons (.t (.refl _)) (.cons (.t (.refl _)) (.nil))))) (.cons rfl (.box (.cons (.t (.refl _)) (.cons (.t (.refl _)) (.cons (.t (.refl _)) (.nil))))) (.nil)))) rfl rfl ?_
          refine AT.region ?_   -- region 19 law.go:102
          refine TrC.take rfl (step_loadPN rfl rfl rfl ty30 rfl rfl rfl) ?_   -- 0
          refine TrC.take rfl (step_loadPN rfl rfl rfl ty47 rfl rfl rfl) ?_   -- 1
          refine TrC.take rfl (step_call0 rfl rfl (C28 N x0 x1 x2 hx0 hx1 hx2 hv.l1 hv.l2 hv.x0) rfl) ?_   -- 2
          refine TrC.take rfl (step_storeP rfl rfl rfl rfl rfl (.inl rfl) ty30 rfl rfl rfl) ?_   -- 3
          refine TrC.done ?_
          refine AT.seq ?_
          refine AT.region ?_   -- region 20 law.go:103
          refine TrC.take rfl (step_loadPN rfl rfl rfl ty30 rfl rfl rfl) ?_   -- 0
          refine TrC.take rfl (step_call0 rfl rfl (D27 hw) rfl) ?_   -- 1
          refine TrC.spell 90 rfl (bv (b := true) (rfl)) ?_
          refine TrC.take rfl (step_not rfl rfl rfl) ?_   -- 2
          refine TrC.take rfl (step_move rfl rfl rfl) ?_   -- 3
          refine TrC.take ⟨_, _, rfl, rfl, rfl⟩ (step_loadPN rfl rfl rfl ty30 rfl rfl rfl) ?_   -- 4
          refine TrC.take ⟨_, _, rfl, rfl, rfl⟩ (step_call0 rfl rfl (D26 hw) rfl) ?_   -- 5
          refine TrC.spell 94 rfl (bv (b := true) (rfl)) ?_
          refine TrC.take ⟨_, _, rfl, rfl, rfl⟩ (step_not rfl rfl rfl) ?_   -- 6
          refine TrC.take rfl (step_pick rfl rfl rfl rfl) ?_   -- 7
          refine TrC.take rfl (step_move rfl rfl rfl) ?_   -- 8
          refine TrC.take ⟨_, _, rfl, rfl, rfl⟩ (step_loadPN rfl rfl rfl ty30 rfl rfl rfl) ?_   -- 9
          refine TrC.take ⟨_, _, rfl, rfl, rfl⟩ (step_loadPN rfl rfl rfl ty30 rfl rfl rfl) ?_   -- 10
          refine TrC.take ⟨_, _, rfl, rfl, rfl⟩ (step_call0 rfl rfl (D15 hw (step N (x0, x1, x2))) rfl) ?_   -- 11
          refine TrC.spell 100 rfl (bv (b := true) (by simp)) ?_
          refine TrC.take ⟨_, _, rfl, rfl, rfl⟩ (step_not rfl rfl rfl) ?_   -- 12
          refine TrC.take rfl (step_pick rfl rfl rfl rfl) ?_   -- 13
          refine TrC.take rfl (step_move rfl rfl rfl) ?_   -- 14
          refine TrC.take ⟨_, _, rfl, rfl, rfl⟩ (step_fieldAddrP rfl rfl fd30_2 rfl rfl) ?_   -- 15
          refine TrC.take ⟨_, _, rfl, rfl, rfl⟩ (step_loadP1 rfl rfl rfl ty3 rfl rfl) ?_   -- 16
          refine TrC.take ⟨_, _, rfl, rfl, rfl⟩ (step_move rfl rfl rfl) ?_   -- 17
          refine TrC.take ⟨_, _, rfl, rfl, rfl⟩ (step_bin rfl rfl rfl rfl rfl) ?_   -- 18
          refine TrC.spell 107 rfl (bv (b := false) (by have := step_facts N (x0, x1, x2); simp; omega)) ?_
          refine TrC.take rfl (step_pick rfl rfl rfl rfl) ?_   -- 19
          refine TrC.take rfl (step_move rfl rfl rfl) ?_   -- 20
          refine TrC.take ⟨_, _, rfl, rfl, rfl⟩ (step_fieldAddrP rfl rfl fd30_2 rfl rfl) ?_   -- 21
          refine TrC.take ⟨_, _, rfl, rfl, rfl⟩ (step_loadP1 rfl rfl rfl ty3 rfl rfl) ?_   -- 22
          refine TrC.take ⟨_, _, rfl, rfl, rfl⟩ (step_move rfl rfl rfl) ?_   -- 23
          refine TrC.take ⟨_, _, rfl, rfl, rfl⟩ (step_addI rfl rfl rfl (by first | omega | (simp; done) | (simp; omega)) (by first | omega | (simp; done) | (simp; omega)) rfl) ?_   -- 24
          refine TrC.take ⟨_, _, rfl, rfl, rfl⟩ (step_bin rfl rfl rfl rfl rfl) ?_   -- 25
          refine TrC.spell 114 rfl (bv (b := false) (by have := step_facts N (x0, x1, x2); simp; omega)) ?_
          refine TrC.take rfl (step_pick rfl rfl rfl rfl) ?_   -- 26
          refine TrC.done ?_
          refine AT.condF rfl ?_   -- t115
          refine AT.skip ?_
          refine AT.region ?_   -- region 5 law.go:89
          refine TrC.take rfl (step_move rfl rfl rfl) ?_   -- 0
          refine TrC.take rfl (step_addI rfl rfl rfl (by first | omega | (simp; done) | (simp; omega)) (by first | omega | (simp; done) | (simp; omega)) rfl) ?_   -- 1
          refine TrC.take rfl (step_assign rfl rfl rfl) ?_   -- 2
          refine TrC.done ?_
          exact ⟨(i + 1, (step N (x0, x1, x2))), ⟨by show i + 1 ≤ l.length; omega, by show i + 1 ≤ 30; omega, by show (l.take (i + 1)).foldl step ⟨[], [], 1⟩ = _; rw [take_snoc hlt, List.foldl_append, hN, hx]; rfl⟩, by show 30 - (i + 1) < 30 - i; omega, Sat.wk [] (.cons (.t (.refl _)) (.cons (.t (.refl _)) (.cons (.p rfl) (.cons (.p rfl) (.cons (.t (conv_i (by simp))) (.nil)))))) (.cons rfl (.box (.cons (.t (.refl _)) (.cons (.t (.refl _)) (.cons (.t (.refl _)) (.nil))))) (.cons rfl (.box (.cons (.t (.refl _)) (.cons (.t (.refl _)) (.cons (.t (.refl _)) (.nil))))) (.nil))) rfl rfl⟩
        · -- false
          refine AT.spell 52 rfl (congrArg (fun b => T.v (.bool b)) h52) ?_
          refine AT.region ?_   -- region 12 law.go:93
          refine TrC.take rfl (step_bin rfl rfl rfl rfl rfl) ?_   -- 0
          refine TrC.take rfl (step_assign rfl rfl rfl) ?_   -- 1
          refine TrC.done ?_
          refine AT.cond rfl (fun h52 => ?_) (fun h52 => ?_)   -- t52
          · -- true
            refine AT.spell 52 rfl (congrArg (fun b => T.v (.bool b)) h52) ?_
            refine AT.region ?_   -- region 13 law.go:94
            refine TrC.take rfl (step_loadPN rfl rfl rfl ty30 rfl rfl rfl) ?_   -- 0
            refine TrC.take rfl (step_move rfl rfl rfl) ?_   -- 1
            refine TrC.take rfl (step_move rfl rfl rfl) ?_   -- 2
            refine TrC.take rfl (step_call0 rfl rfl (D13 hv (x1 % 5) (x2 % 5)) rfl) ?_   -- 3
            refine TrC.take rfl (step_fieldN rfl rfl fd35_0 ty30 rfl rfl) ?_   -- 4
            refine TrC.take rfl (step_storeP rfl rfl rfl rfl rfl (.inl rfl) ty30 rfl rfl rfl) ?_   -- 5
            refine TrC.done ?_
            refine AT.seq ?_
            refine AT.wk (sl := [(0, .t (.slice 3 (l.map encB))), (3, .t (.b true)), (4, .p 4 0), (5, .p 5 0), (6, .t (.i i)), (7, .p 7 0), (8, .t (.i N.next))]) (ml := [(4, .box 30 [.t (.slice 3 ((step N (x0, x1, x2)).fl.map encP)), .t (.slice 2 ((step N (x0, x1, x2)).cuts.map encC)), .t (.i (step N (x0, x1, x2)).next)]), (5, .box 30 [.t (.slice 3 (N.fl.map encP)), .t (.slice 2 (N.cuts.map encC)), .t (.i N.next)]), (7, .box 47 [.t (.u8 x0), .t (.u8 x1), .t (.u8 x2)])]) [] (.cons (.t (.refl _)) (.cons (.t (.refl _)) (.cons (.p rfl) (.cons (.p rfl) (.cons (.t (.refl _)) (.cons (.p rfl) (.cons (.t (.refl _)) (.nil)))))))) (.cons rfl (.box (.cons (.t (conv_eq (by rcases (show x0 % 8 = 0 ∨ x0 % 8 = 1 ∨ x0 % 8 = 2 ∨ x0 % 8 = 3 ∨ x0 % 8 = 4 ∨ x0 % 8 = 5 ∨ x0 % 8 = 6 ∨ x0 % 8 = 7 from by omega) with h8 | h8 | h8 | h8 | h8 | h8 | h8 | h8 <;> simp_all [step, doneN]))) (.cons (.t (conv_eq (by rcases (show x0 % 8 = 0 ∨ x0 % 8 = 1 ∨ x0 % 8 = 2 ∨ x0 % 8 = 3 ∨ x0 % 8 = 4 ∨ x0 % 8 = 5 ∨ x0 % 8 = 6 ∨ x0 % 8 = 7 from by omega) with h8 | h8 | h8 | h8 | h8 | h8 | h8 | h8 <;> simp_all [step, doneN]))) (.cons (.t (conv_eq (by rcases (show x0 % 8 = 0 ∨ x0 % 8 = 1 ∨ x0 % 8 = 2 ∨ x0 % 8 = 3 ∨ x0 % 8 = 4 ∨ x0 % 8 = 5 ∨ x0 % 8 = 6 ∨ x0 % 8 = 7 from by omega) with h8 | h8 | h8 | h8 | h8 | h8 | h8 | h8 <;> simp_all [step, doneN]))) (.nil))))) (.cons rfl (.box (.cons (.t (.refl _)) (.cons (.t (.refl _)) (.cons (.t (.refl _)) (.nil))))) (.cons rfl (.box (.cons (.t (.refl _)) (.cons (.t (.refl _)) (.cons (.t (.refl _)) (.nil))))) (.nil)))) rfl rfl ?_
            refine AT.region ?_   -- region 19 law.go:102
            refine TrC.take rfl (step_loadPN rfl rfl rfl ty30 rfl rfl rfl) ?_   -- 0
            refine TrC.take rfl (step_loadPN rfl rfl rfl ty47 rfl rfl rfl) ?_   -- 1
            refine TrC.take rfl (step_call0 rfl rfl (C28 N x0 x1 x2 hx0 hx1 hx2 hv.l1 hv.l2 hv.x0) rfl) ?_   -- 2
            refine TrC.take rfl (step_storeP rfl rfl rfl rfl rfl (.inl rfl) ty30 rfl rfl rfl) ?_   -- 3
            refine TrC.done ?_
            refine AT.seq ?_
            refine AT.region ?_   -- region 20 law.go:103
            refine TrC.take rfl (step_loadPN rfl rfl rfl ty30 rfl rfl rfl) ?_   -- 0
            refine TrC.take rfl (step_call0 rfl rfl (D27 hw) rfl) ?_   -- 1
            refine TrC.spell 90 rfl (bv (b := true) (rfl)) ?_
            refine TrC.take rfl (step_not rfl rfl rfl) ?_   -- 2
            refine TrC.take rfl (step_move rfl rfl rfl) ?_   -- 3
            refine TrC.take ⟨_, _, rfl, rfl, rfl⟩ (step_loadPN rfl rfl rfl ty30 rfl rfl rfl) ?_   -- 4
            refine TrC.take ⟨_, _, rfl, rfl, rfl⟩ (step_call0 rfl rfl (D26 hw) rfl) ?_   -- 5
            refine TrC.spell 94 rfl (bv (b := true) (rfl)) ?_
            refine TrC.take ⟨_, _, rfl, rfl, rfl⟩ (step_not rfl rfl rfl) ?_   -- 6
            refine TrC.take rfl (step_pick rfl rfl rfl rfl) ?_   -- 7
            refine TrC.take rfl (step_move rfl rfl rfl) ?_   -- 8
            refine TrC.take ⟨_, _, rfl, rfl, rfl⟩ (step_loadPN rfl rfl rfl ty30 rfl rfl rfl) ?_   -- 9
            refine TrC.take ⟨_, _, rfl, rfl, rfl⟩ (step_loadPN rfl rfl rfl ty30 rfl rfl rfl) ?_   -- 10
            refine TrC.take ⟨_, _, rfl, rfl, rfl⟩ (step_call0 rfl rfl (D15 hw (step N (x0, x1, x2))) rfl) ?_   -- 11
            refine TrC.spell 100 rfl (bv (b := true) (by simp)) ?_
            refine TrC.take ⟨_, _, rfl, rfl, rfl⟩ (step_not rfl rfl rfl) ?_   -- 12
            refine TrC.take rfl (step_pick rfl rfl rfl rfl) ?_   -- 13
            refine TrC.take rfl (step_move rfl rfl rfl) ?_   -- 14
            refine TrC.take ⟨_, _, rfl, rfl, rfl⟩ (step_fieldAddrP rfl rfl fd30_2 rfl rfl) ?_   -- 15
            refine TrC.take ⟨_, _, rfl, rfl, rfl⟩ (step_loadP1 rfl rfl rfl ty3 rfl rfl) ?_   -- 16
            refine TrC.take ⟨_, _, rfl, rfl, rfl⟩ (step_move rfl rfl rfl) ?_   -- 17
            refine TrC.take ⟨_, _, rfl, rfl, rfl⟩ (step_bin rfl rfl rfl rfl rfl) ?_   -- 18
            refine TrC.spell 107 rfl (bv (b := false) (by have := step_facts N (x0, x1, x2); simp; omega)) ?_
            refine TrC.take rfl (step_pick rfl rfl rfl rfl) ?_   -- 19
            refine TrC.take rfl (step_move rfl rfl rfl) ?_   -- 20
            refine TrC.take ⟨_, _, rfl, rfl, rfl⟩ (step_fieldAddrP rfl rfl fd30_2 rfl rfl) ?_   -- 21
            refine TrC.take ⟨_, _, rfl, rfl, rfl⟩ (step_loadP1 rfl rfl rfl ty3 rfl rfl) ?_   -- 22
            refine TrC.take ⟨_, _, rfl, rfl, rfl⟩ (step_move rfl rfl rfl) ?_   -- 23
            refine TrC.take ⟨_, _, rfl, rfl, rfl⟩ (step_addI rfl rfl rfl (by first | omega | (simp; done) | (simp; omega)) (by first | omega | (simp; done) | (simp; omega)) rfl) ?_   -- 24
            refine TrC.take ⟨_, _, rfl, rfl, rfl⟩ (step_bin rfl rfl rfl rfl rfl) ?_   -- 25
            refine TrC.spell 114 rfl (bv (b := false) (by have := step_facts N (x0, x1, x2); simp; omega)) ?_
            refine TrC.take rfl (step_pick rfl rfl rfl rfl) ?_   -- 26
            refine TrC.done ?_
            refine AT.condF rfl ?_   -- t115
            refine AT.skip ?_
            refine AT.region ?_   -- region 5 law.go:89
            refine TrC.take rfl (step_move rfl rfl rfl) ?_   -- 0
            refine TrC.take rfl (step_addI rfl rfl rfl (by first | omega | (simp; done) | (simp; omega)) (by first | omega | (simp; done) | (simp; omega)) rfl) ?_   -- 1
            refine TrC.take rfl (step_assign rfl rfl rfl) ?_   -- 2
            refine TrC.done ?_
            exact ⟨(i + 1, (step N (x0, x1, x2))), ⟨by show i + 1 ≤ l.length; omega, by show i + 1 ≤ 30; omega, by show (l.take (i + 1)).foldl step ⟨[], [], 1⟩ = _; rw [take_snoc hlt, List.foldl_append, hN, hx]; rfl⟩, by show 30 - (i + 1) < 30 - i; omega, Sat.wk [] (.cons (.t (.refl _)) (.cons (.t (.refl _)) (.cons (.p rfl) (.cons (.p rfl) (.cons (.t (conv_i (by simp))) (.nil)))))) (.cons rfl (.box (.cons (.t (.refl _)) (.cons (.t (.refl _)) (.cons (.t (.refl _)) (.nil))))) (.cons rfl (.box (.cons (.t (.refl _)) (.cons (.t (.refl _)) (.cons (.t (.refl _)) (.nil))))) (.nil))) rfl rfl⟩
          · -- false
            refine AT.spell 52 rfl (congrArg (fun b => T.v (.bool b)) h52) ?_
            refine AT.seq ?_
            refine AT.region ?_   -- region 14 law.go:95
            refine TrC.take rfl (step_bin rfl rfl rfl rfl rfl) ?_   -- 0
            refine TrC.take rfl (step_assign rfl rfl rfl) ?_   -- 1
            refine TrC.done ?_
            refine AT.cond rfl (fun h61 => ?_) (fun h61 => ?_)   -- t61
            · -- true
              refine AT.region ?_   -- region 15 law.go:96
              refine TrC.take rfl (step_loadPN rfl rfl rfl ty30 rfl rfl rfl) ?_   -- 0
              refine TrC.take rfl (step_indexAddrP rfl rfl rfl ar47 (by decide) (by decide) rfl) ?_   -- 1
              refine TrC.take rfl (step_loadP1 rfl rfl rfl ty5 rfl rfl) ?_   -- 2
              first | refine TrC.take rfl (step_remI rfl rfl rfl (by omega) (by first | omega | (simp; done) | (simp; omega)) rfl) ?_ | refine TrC.take rfl (step_bin rfl rfl rfl rfl rfl) ?_   -- 3
              refine TrC.take rfl (step_convI rfl rfl in5 in3 (by omega) (by omega) rfl) ?_   -- 4
              refine TrC.take rfl (step_call0 rfl rfl (D17 hv (x1 % 16)) rfl) ?_   -- 5
              refine TrC.take rfl (step_fieldN rfl rfl fd40_0 ty30 rfl rfl) ?_   -- 6
              refine TrC.take rfl (step_storeP rfl rfl rfl rfl rfl (.inl rfl) ty30 rfl rfl rfl) ?_   -- 7
              refine TrC.done ?_
              refine AT.seq ?_
              refine AT.wk (sl := [(0, .t (.slice 3 (l.map encB))), (3, .t (.b true)), (4, .p 4 0), (5, .p 5 0), (6, .t (.i i)), (7, .p 7 0), (8, .t (.i N.next))]) (ml := [(4, .box 30 [.t (.slice 3 ((step N (x0, x1, x2)).fl.map encP)), .t (.slice 2 ((step N (x0, x1, x2)).cuts.map encC)), .t (.i (step N (x0, x1, x2)).next)]), (5, .box 30 [.t (.slice 3 (N.fl.map encP)), .t (.slice 2 (N.cuts.map encC)), .t (.i N.next)]), (7, .box 47 [.t (.u8 x0), .t (.u8 x1), .t (.u8 x2)])]) [] (.cons (.t (.refl _)) (.cons (.t (.refl _)) (.cons (.p rfl) (.cons (.p rfl) (.cons (.t (.refl _)) (.cons (.p rfl) (.cons (.t (.refl _)) (.nil)))))))) (.cons rfl (.box (.cons (.t (conv_eq (by rcases (show x0 % 8 = 0 ∨ x0 % 8 = 1 ∨ x0 % 8 = 2 ∨ x0 % 8 = 3 ∨ x0 % 8 = 4 ∨ x0 % 8 = 5 ∨ x0 % 8 = 6 ∨ x0 % 8 = 7 from by omega) with h8 | h8 | h8 | h8 | h8 | h8 | h8 | h8 <;> simp_all [step, doneN]))) (.cons (.t (conv_eq (by rcases (show x0 % 8 = 0 ∨ x0 % 8 = 1 ∨ x0 % 8 = 2 ∨ x0 % 8 = 3 ∨ x0 % 8 = 4 ∨ x0 % 8 = 5 ∨ x0 % 8 = 6 ∨ x0 % 8 = 7 from by omega) with h8 | h8 | h8 | h8 | h8 | h8 | h8 | h8 <;> simp_all [step, doneN]))) (.cons (.t (conv_eq (by rcases (show x0 % 8 = 0 ∨ x0 % 8 = 1 ∨ x0 % 8 = 2 ∨ x0 % 8 = 3 ∨ x0 % 8 = 4 ∨ x0 % 8 = 5 ∨ x0 % 8 = 6 ∨ x0 % 8 = 7 from by omega) with h8 | h8 | h8 | h8 | h8 | h8 | h8 | h8 <;> simp_all [step, doneN]))) (.nil))))) (.cons rfl (.box (.cons (.t (.refl _)) (.cons (.t (.refl _)) (.cons (.t (.refl _)) (.nil))))) (.cons rfl (.box (.cons (.t (.refl _)) (.cons (.t (.refl _)) (.cons (.t (.refl _)) (.nil))))) (.nil)))) rfl rfl ?_
              refine AT.region ?_   -- region 19 law.go:102
              refine TrC.take rfl (step_loadPN rfl rfl rfl ty30 rfl rfl rfl) ?_   -- 0
              refine TrC.take rfl (step_loadPN rfl rfl rfl ty47 rfl rfl rfl) ?_   -- 1
              refine TrC.take rfl (step_call0 rfl rfl (C28 N x0 x1 x2 hx0 hx1 hx2 hv.l1 hv.l2 hv.x0) rfl) ?_   -- 2
              refine TrC.take rfl (step_storeP rfl rfl rfl rfl rfl (.inl rfl) ty30 rfl rfl rfl) ?_   -- 3
              refine TrC.done ?_
              refine AT.seq ?_
              refine AT.region ?_   -- region 20 law.go:103
              refine TrC.take rfl (step_loadPN rfl rfl rfl ty30 rfl rfl rfl) ?_   -- 0
              refine TrC.take rfl (step_call0 rfl rfl (D27 hw) rfl) ?_   -- 1
              refine TrC.spell 90 rfl (bv (b := true) (rfl)) ?_
              refine TrC.take rfl (step_not rfl rfl rfl) ?_   -- 2
              refine TrC.take rfl (step_move rfl rfl rfl) ?_   -- 3
              refine TrC.take ⟨_, _, rfl, rfl, rfl⟩ (step_loadPN rfl rfl rfl ty30 rfl rfl rfl) ?_   -- 4
              refine TrC.take ⟨_, _, rfl, rfl, rfl⟩ (step_call0 rfl rfl (D26 hw) rfl) ?_   -- 5
              refine TrC.spell 94 rfl (bv (b := true) (rfl)) ?_
              refine TrC.take ⟨_, _, rfl, rfl, rfl⟩ (step_not rfl rfl rfl) ?_   -- 6
              refine TrC.take rfl (step_pick rfl rfl rfl rfl) ?_   -- 7
              refine TrC.take rfl (step_move rfl rfl rfl) ?_   -- 8
              refine TrC.take ⟨_, _, rfl, rfl, rfl⟩ (step_loadPN rfl rfl rfl ty30 rfl rfl rfl) ?_   -- 9
              refine TrC.take ⟨_, _, rfl, rfl, rfl⟩ (step_loadPN rfl rfl rfl ty30 rfl rfl rfl) ?_   -- 10
              refine TrC.take ⟨_, _, rfl, rfl, rfl⟩ (step_call0 rfl rfl (D15 hw (step N (x0, x1, x2))) rfl) ?_   -- 11
              refine TrC.spell 100 rfl (bv (b := true) (by simp)) ?_
              refine TrC.take ⟨_, _, rfl, rfl, rfl⟩ (step_not rfl rfl rfl) ?_   -- 12
              refine TrC.take rfl (step_pick rfl rfl rfl rfl) ?_   -- 13
              refine TrC.take rfl (step_move rfl rfl rfl) ?_   -- 14
              refine TrC.take ⟨_, _, rfl, rfl, rfl⟩ (step_fieldAddrP rfl rfl fd30_2 rfl rfl) ?_   -- 15
              refine TrC.take ⟨_, _, rfl, rfl, rfl⟩ (step_loadP1 rfl rfl rfl ty3 rfl rfl) ?_   -- 16
              refine TrC.take ⟨_, _, rfl, rfl, rfl⟩ (step_move rfl rfl rfl) ?_   -- 17
              refine TrC.take ⟨_, _, rfl, rfl, rfl⟩ (step_bin rfl rfl rfl rfl rfl) ?_   -- 18
              refine TrC.spell 107 rfl (bv (b := false) (by have := step_facts N (x0, x1, x2); simp; omega)) ?_
              refine TrC.take rfl (step_pick rfl rfl rfl rfl) ?_   -- 19
              refine TrC.take rfl (step_move rfl rfl rfl) ?_   -- 20
              refine TrC.take ⟨_, _, rfl, rfl, rfl⟩ (step_fieldAddrP rfl rfl fd30_2 rfl rfl) ?_   -- 21
              refine TrC.take ⟨_, _, rfl, rfl, rfl⟩ (step_loadP1 rfl rfl rfl ty3 rfl rfl) ?_   -- 22
              refine TrC.take ⟨_, _, rfl, rfl, rfl⟩ (step_move rfl rfl rfl) ?_   -- 23
              refine TrC.take ⟨_, _, rfl, rfl, rfl⟩ (step_addI rfl rfl rfl (by first | omega | (simp; done) | (simp; omega)) (by first | omega | (simp; done) | (simp; omega)) rfl) ?_   -- 24
              refine TrC.take ⟨_, _, rfl, rfl, rfl⟩ (step_bin rfl rfl rfl rfl rfl) ?_   -- 25
              refine TrC.spell 114 rfl (bv (b := false) (by have := step_facts N (x0, x1, x2); simp; omega)) ?_
              refine TrC.take rfl (step_pick rfl rfl rfl rfl) ?_   -- 26
              refine TrC.done ?_
              refine AT.condF rfl ?_   -- t115
              refine AT.skip ?_
              refine AT.region ?_   -- region 5 law.go:89
              refine TrC.take rfl (step_move rfl rfl rfl) ?_   -- 0
              refine TrC.take rfl (step_addI rfl rfl rfl (by first | omega | (simp; done) | (simp; omega)) (by first | omega | (simp; done) | (simp; omega)) rfl) ?_   -- 1
              refine TrC.take rfl (step_assign rfl rfl rfl) ?_   -- 2
              refine TrC.done ?_
              exact ⟨(i + 1, (step N (x0, x1, x2))), ⟨by show i + 1 ≤ l.length; omega, by show i + 1 ≤ 30; omega, by show (l.take (i + 1)).foldl step ⟨[], [], 1⟩ = _; rw [take_snoc hlt, List.foldl_append, hN, hx]; rfl⟩, by show 30 - (i + 1) < 30 - i; omega, Sat.wk [] (.cons (.t (.refl _)) (.cons (.t (.refl _)) (.cons (.p rfl) (.cons (.p rfl) (.cons (.t (conv_i (by simp))) (.nil)))))) (.cons rfl (.box (.cons (.t (.refl _)) (.cons (.t (.refl _)) (.cons (.t (.refl _)) (.nil))))) (.cons rfl (.box (.cons (.t (.refl _)) (.cons (.t (.refl _)) (.cons (.t (.refl _)) (.nil))))) (.nil))) rfl rfl⟩
            · -- false
              refine AT.seq ?_
              refine AT.seq ?_
              refine AT.region ?_   -- region 16 law.go:97
              refine TrC.take rfl (step_bin rfl rfl rfl rfl rfl) ?_   -- 0
              refine TrC.take rfl (step_assign rfl rfl rfl) ?_   -- 1
              refine TrC.done ?_
              refine AT.cond rfl (fun h70 => ?_) (fun h70 => ?_)   -- t70
              · -- true
                refine AT.spell 70 rfl (congrArg (fun b => T.v (.bool b)) h70) ?_
                refine AT.skip ?_
                refine AT.condT rfl ?_   -- t70
                refine AT.region ?_   -- region 18 law.go:98
                refine TrC.take rfl (step_loadPN rfl rfl rfl ty30 rfl rfl rfl) ?_   -- 0
                refine TrC.take rfl (step_indexAddrP rfl rfl rfl ar47 (by decide) (by decide) rfl) ?_   -- 1
                refine TrC.take rfl (step_loadP1 rfl rfl rfl ty5 rfl rfl) ?_   -- 2
                first | refine TrC.take rfl (step_remI rfl rfl rfl (by omega) (by first | omega | (simp; done) | (simp; omega)) rfl) ?_ | refine TrC.take rfl (step_bin rfl rfl rfl rfl rfl) ?_   -- 3
                refine TrC.take rfl (step_convI rfl rfl in5 in3 (by omega) (by omega) rfl) ?_   -- 4
                refine TrC.take rfl (step_subI rfl rfl rfl (by first | omega | (simp; done) | (simp; omega)) (by first | omega | (simp; done) | (simp; omega)) rfl) ?_   -- 5
                refine TrC.take rfl (step_indexAddrP rfl rfl rfl ar47 (by decide) (by decide) rfl) ?_   -- 6
                refine TrC.take rfl (step_loadP1 rfl rfl rfl ty5 rfl rfl) ?_   -- 7
                first | refine TrC.take rfl (step_remI rfl rfl rfl (by omega) (by first | omega | (simp; done) | (simp; omega)) rfl) ?_ | refine TrC.take rfl (step_bin rfl rfl rfl rfl rfl) ?_   -- 8
                refine TrC.take rfl (step_convI rfl rfl in5 in3 (by omega) (by omega) rfl) ?_   -- 9
                refine TrC.take rfl (step_buildA rfl ze32 rfl ar32 rfl rfl rfl rfl) ?_   -- 10
                refine TrC.take rfl (step_call0 rfl rfl (D21 hv (x1 % 16) 0 (x0 % 8 - 4)) rfl) ?_   -- 11
                refine TrC.take rfl (step_fieldN rfl rfl fd40_0 ty30 rfl rfl) ?_   -- 12
                refine TrC.take rfl (step_storeP rfl rfl rfl rfl rfl (.inl rfl) ty30 rfl rfl rfl) ?_   -- 13
                refine TrC.done ?_
                refine AT.seq ?_
                refine AT.wk (sl := [(0, .t (.slice 3 (l.map encB))), (3, .t (.b true)), (4, .p 4 0), (5, .p 5 0), (6, .t (.i i)), (7, .p 7 0), (8, .t (.i N.next))]) (ml := [(4, .box 30 [.t (.slice 3 ((step N (x0, x1, x2)).fl.map encP)), .t (.slice 2 ((step N (x0, x1, x2)).cuts.map encC)), .t (.i (step N (x0, x1, x2)).next)]), (5, .box 30 [.t (.slice 3 (N.fl.map encP)), .t (.slice 2 (N.cuts.map encC)), .t (.i N.next)]), (7, .box 47 [.t (.u8 x0), .t (.u8 x1), .t (.u8 x2)])]) [] (.cons (.t (.refl _)) (.cons (.t (.refl _)) (.cons (.p rfl) (.cons (.p rfl) (.cons (.t (.refl _)) (.cons (.p rfl) (.cons (.t (.refl _)) (.nil)))))))) (.cons rfl (.box (.cons (.t (conv_eq (by rcases (show x0 % 8 = 0 ∨ x0 % 8 = 1 ∨ x0 % 8 = 2 ∨ x0 % 8 = 3 ∨ x0 % 8 = 4 ∨ x0 % 8 = 5 ∨ x0 % 8 = 6 ∨ x0 % 8 = 7 from by omega) with h8 | h8 | h8 | h8 | h8 | h8 | h8 | h8 <;> simp_all [step, doneN]))) (.cons (.t (conv_eq (by rcases (show x0 % 8 = 0 ∨ x0 % 8 = 1 ∨ x0 % 8 = 2 ∨ x0 % 8 = 3 ∨ x0 % 8 = 4 ∨ x0 % 8 = 5 ∨ x0 % 8 = 6 ∨ x0 % 8 = 7 from by omega) with h8 | h8 | h8 | h8 | h8 | h8 | h8 | h8 <;> simp_all [step, doneN]))) (.cons (.t (conv_eq (by rcases (show x0 % 8 = 0 ∨ x0 % 8 = 1 ∨ x0 % 8 = 2 ∨ x0 % 8 = 3 ∨ x0 % 8 = 4 ∨ x0 % 8 = 5 ∨ x0 % 8 = 6 ∨ x0 % 8 = 7 from by omega) with h8 | h8 | h8 | h8 | h8 | h8 | h8 | h8 <;> simp_all [step, doneN]))) (.nil))))) (.cons rfl (.box (.cons (.t (.refl _)) (.cons (.t (.refl _)) (.cons (.t (.refl _)) (.nil))))) (.cons rfl (.box (.cons (.t (.refl _)) (.cons (.t (.refl _)) (.cons (.t (.refl _)) (.nil))))) (.nil)))) rfl rfl ?_
                refine AT.region ?_   -- region 19 law.go:102
                refine TrC.take rfl (step_loadPN rfl rfl rfl ty30 rfl rfl rfl) ?_   -- 0
                refine TrC.take rfl (step_loadPN rfl rfl rfl ty47 rfl rfl rfl) ?_   -- 1
                refine TrC.take rfl (step_call0 rfl rfl (C28 N x0 x1 x2 hx0 hx1 hx2 hv.l1 hv.l2 hv.x0) rfl) ?_   -- 2
                refine TrC.take rfl (step_storeP rfl rfl rfl rfl rfl (.inl rfl) ty30 rfl rfl rfl) ?_   -- 3
                refine TrC.done ?_
                refine AT.seq ?_
                refine AT.region ?_   -- region 20 law.go:103
                refine TrC.take rfl (step_loadPN rfl rfl rfl ty30 rfl rfl rfl) ?_   -- 0
                refine TrC.take rfl (step_call0 rfl rfl (D27 hw) rfl) ?_   -- 1
                refine TrC.spell 90 rfl (bv (b := true) (rfl)) ?_
                refine TrC.take rfl (step_not rfl rfl rfl) ?_   -- 2
                refine TrC.take rfl (step_move rfl rfl rfl) ?_   -- 3
                refine TrC.take ⟨_, _, rfl, rfl, rfl⟩ (step_loadPN rfl rfl rfl ty30 rfl rfl rfl) ?_   -- 4
                refine TrC.take ⟨_, _, rfl, rfl, rfl⟩ (step_call0 rfl rfl (D26 hw) rfl) ?_   -- 5
                refine TrC.spell 94 rfl (bv (b := true) (rfl)) ?_
                refine TrC.take ⟨_, _, rfl, rfl, rfl⟩ (step_not rfl rfl rfl) ?_   -- 6
                refine TrC.take rfl (step_pick rfl rfl rfl rfl) ?_   -- 7
                refine TrC.take rfl (step_move rfl rfl rfl) ?_   -- 8
                refine TrC.take ⟨_, _, rfl, rfl, rfl⟩ (step_loadPN rfl rfl rfl ty30 rfl rfl rfl) ?_   -- 9
                refine TrC.take ⟨_, _, rfl, rfl, rfl⟩ (step_loadPN rfl rfl rfl ty30 rfl rfl rfl) ?_   -- 10
                refine TrC.take ⟨_, _, rfl, rfl, rfl⟩ (step_call0 rfl rfl (D15 hw (step N (x0, x1, x2))) rfl) ?_   -- 11
                refine TrC.spell 100 rfl (bv (b := true) (by simp)) ?_
                refine TrC.take ⟨_, _, rfl, rfl, rfl⟩ (step_not rfl rfl rfl) ?_   -- 12
                refine TrC.take rfl (step_pick rfl rfl rfl rfl) ?_   -- 13
                refine TrC.take rfl (step_move rfl rfl rfl) ?_   -- 14
                refine TrC.take ⟨_, _, rfl, rfl, rfl⟩ (step_fieldAddrP rfl rfl fd30_2 rfl rfl) ?_   -- 15
                refine TrC.take ⟨_, _, rfl, rfl, rfl⟩ (step_loadP1 rfl rfl rfl ty3 rfl rfl) ?_   -- 16
                refine TrC.take ⟨_, _, rfl, rfl, rfl⟩ (step_move rfl rfl rfl) ?_   -- 17
                refine TrC.take ⟨_, _, rfl, rfl, rfl⟩ (step_bin rfl rfl rfl rfl rfl) ?_   -- 18
                refine TrC.spell 107 rfl (bv (b := false) (by have := step_facts N (x0, x1, x2); simp; omega)) ?_
                refine TrC.take rfl (step_pick rfl rfl rfl rfl) ?_   -- 19
                refine TrC.take rfl (step_move rfl rfl rfl) ?_   -- 20
                refine TrC.take ⟨_, _, rfl, rfl, rfl⟩ (step_fieldAddrP rfl rfl fd30_2 rfl rfl) ?_   -- 21
                refine TrC.take ⟨_, _, rfl, rfl, rfl⟩ (step_loadP1 rfl rfl rfl ty3 rfl rfl) ?_   -- 22
                refine TrC.take ⟨_, _, rfl, rfl, rfl⟩ (step_move rfl rfl rfl) ?_   -- 23
                refine TrC.take ⟨_, _, rfl, rfl, rfl⟩ (step_addI rfl rfl rfl (by first | omega | (simp; done) | (simp; omega)) (by first | omega | (simp; done) | (simp; omega)) rfl) ?_   -- 24
                refine TrC.take ⟨_, _, rfl, rfl, rfl⟩ (step_bin rfl rfl rfl rfl rfl) ?_   -- 25
                refine TrC.spell 114 rfl (bv (b := false) (by have := step_facts N (x0, x1, x2); simp; omega)) ?_
                refine TrC.take rfl (step_pick rfl rfl rfl rfl) ?_   -- 26
                refine TrC.done ?_
                refine AT.condF rfl ?_   -- t115
                refine AT.skip ?_
                refine AT.region ?_   -- region 5 law.go:89
                refine TrC.take rfl (step_move rfl rfl rfl) ?_   -- 0
                refine TrC.take rfl (step_addI rfl rfl rfl (by first | omega | (simp; done) | (simp; omega)) (by first | omega | (simp; done) | (simp; omega)) rfl) ?_   -- 1
                refine TrC.take rfl (step_assign rfl rfl rfl) ?_   -- 2
                refine TrC.done ?_
                exact ⟨(i + 1, (step N (x0, x1, x2))), ⟨by show i + 1 ≤ l.length; omega, by show i + 1 ≤ 30; omega, by show (l.take (i + 1)).foldl step ⟨[], [], 1⟩ = _; rw [take_snoc hlt, List.foldl_append, hN, hx]; rfl⟩, by show 30 - (i + 1) < 30 - i; omega, Sat.wk [] (.cons (.t (.refl _)) (.cons (.t (.refl _)) (.cons (.p rfl) (.cons (.p rfl) (.cons (.t (conv_i (by simp))) (.nil)))))) (.cons rfl (.box (.cons (.t (.refl _)) (.cons (.t (.refl _)) (.cons (.t (.refl _)) (.nil))))) (.cons rfl (.box (.cons (.t (.refl _)) (.cons (.t (.refl _)) (.cons (.t (.refl _)) (.nil))))) (.nil))) rfl rfl⟩
              · -- false
                refine AT.spell 70 rfl (congrArg (fun b => T.v (.bool b)) h70) ?_
                refine AT.region ?_   -- region 17 law.go:97
                refine TrC.take rfl (step_bin rfl rfl rfl rfl rfl) ?_   -- 0
                refine TrC.take rfl (step_assign rfl rfl rfl) ?_   -- 1
                refine TrC.done ?_
                refine AT.cond rfl (fun h70 => ?_) (fun h70 => ?_)   -- t70
                · -- true
                  refine AT.spell 70 rfl (congrArg (fun b => T.v (.bool b)) h70) ?_
                  refine AT.region ?_   -- region 18 law.go:98
                  refine TrC.take rfl (step_loadPN rfl rfl rfl ty30 rfl rfl rfl) ?_   -- 0
                  refine TrC.take rfl (step_indexAddrP rfl rfl rfl ar47 (by decide) (by decide) rfl) ?_   -- 1
                  refine TrC.take rfl (step_loadP1 rfl rfl rfl ty5 rfl rfl) ?_   -- 2
                  first | refine TrC.take rfl (step_remI rfl rfl rfl (by omega) (by first | omega | (simp; done) | (simp; omega)) rfl) ?_ | refine TrC.take rfl (step_bin rfl rfl rfl rfl rfl) ?_   -- 3
                  refine TrC.take rfl (step_convI rfl rfl in5 in3 (by omega) (by omega) rfl) ?_   -- 4
                  refine TrC.take rfl (step_subI rfl rfl rfl (by first | omega | (simp; done) | (simp; omega)) (by first | omega | (simp; done) | (simp; omega)) rfl) ?_   -- 5
                  refine TrC.take rfl (step_indexAddrP rfl rfl rfl ar47 (by decide) (by decide) rfl) ?_   -- 6
                  refine TrC.take rfl (step_loadP1 rfl rfl rfl ty5 rfl rfl) ?_   -- 7
                  first | refine TrC.take rfl (step_remI rfl rfl rfl (by omega) (by first | omega | (simp; done) | (simp; omega)) rfl) ?_ | refine TrC.take rfl (step_bin rfl rfl rfl rfl rfl) ?_   -- 8
                  refine TrC.take rfl (step_convI rfl rfl in5 in3 (by omega) (by omega) rfl) ?_   -- 9
                  refine TrC.take rfl (step_buildA rfl ze32 rfl ar32 rfl rfl rfl rfl) ?_   -- 10
                  refine TrC.take rfl (step_call0 rfl rfl (D21 hv (x1 % 16) 0 (x0 % 8 - 4)) rfl) ?_   -- 11
                  refine TrC.take rfl (step_fieldN rfl rfl fd40_0 ty30 rfl rfl) ?_   -- 12
                  refine TrC.take rfl (step_storeP rfl rfl rfl rfl rfl (.inl rfl) ty30 rfl rfl rfl) ?_   -- 13
                  refine TrC.done ?_
                  refine AT.seq ?_
                  refine AT.wk (sl := [(0, .t (.slice 3 (l.map encB))), (3, .t (.b true)), (4, .p 4 0), (5, .p 5 0), (6, .t (.i i)), (7, .p 7 0), (8, .t (.i N.next))]) (ml := [(4, .box 30 [.t (.slice 3 ((step N (x0, x1, x2)).fl.map encP)), .t (.slice 2 ((step N (x0, x1, x2)).cuts.map encC)), .t (.i (step N (x0, x1, x2)).next)]), (5, .box 30 [.t (.slice 3 (N.fl.map encP)), .t (.slice 2 (N.cuts.map encC)), .t (.i N.next)]), (7, .box 47 [.t (.u8 x0), .t (.u8 x1), .t (.u8 x2)])]) [] (.cons (.t (.refl _)) (.cons (.t (.refl _)) (.cons (.p rfl) (.cons (.p rfl) (.cons (.t (.refl _)) (.cons (.p rfl) (.cons (.t (.refl _)) (.nil)))))))) (.cons rfl (.box (.cons (.t (conv_eq (by rcases (show x0 % 8 = 0 ∨ x0 % 8 = 1 ∨ x0 % 8 = 2 ∨ x0 % 8 = 3 ∨ x0 % 8 = 4 ∨ x0 % 8 = 5 ∨ x0 % 8 = 6 ∨ x0 % 8 = 7 from by omega) with h8 | h8 | h8 | h8 | h8 | h8 | h8 | h8 <;> simp_all [step, doneN]))) (.cons (.t (conv_eq (by rcases (show x0 % 8 = 0 ∨ x0 % 8 = 1 ∨ x0 % 8 = 2 ∨ x0 % 8 = 3 ∨ x0 % 8 = 4 ∨ x0 % 8 = 5 ∨ x0 % 8 = 6 ∨ x0 % 8 = 7 from by omega) with h8 | h8 | h8 | h8 | h8 | h8 | h8 | h8 <;> simp_all [step, doneN]))) (.cons (.t (conv_eq (by rcases (show x0 % 8 = 0 ∨ x0 % 8 = 1 ∨ x0 % 8 = 2 ∨ x0 % 8 = 3 ∨ x0 % 8 = 4 ∨ x0 % 8 = 5 ∨ x0 % 8 = 6 ∨ x0 % 8 = 7 from by omega) with h8 | h8 | h8 | h8 | h8 | h8 | h8 | h8 <;> simp_all [step, doneN]))) (.nil))))) (.cons rfl (.box (.cons (.t (.refl _)) (.cons (.t (.refl _)) (.cons (.t (.refl _)) (.nil))))) (.cons rfl (.box (.cons (.t (.refl _)) (.cons (.t (.refl _)) (.cons (.t (.refl _)) (.nil))))) (.nil)))) rfl rfl ?_
                  refine AT.region ?_   -- region 19 law.go:102
                  refine TrC.take rfl (step_loadPN rfl rfl rfl ty30 rfl rfl rfl) ?_   -- 0
                  refine TrC.take rfl (step_loadPN rfl rfl rfl ty47 rfl rfl rfl) ?_   -- 1
                  refine TrC.take rfl (step_call0 rfl rfl (C28 N x0 x1 x2 hx0 hx1 hx2 hv.l1 hv.l2 hv.x0) rfl) ?_   -- 2
                  refine TrC.take rfl (step_storeP rfl rfl rfl rfl rfl (.inl rfl) ty30 rfl rfl rfl) ?_   -- 3
                  refine TrC.done ?_
                  refine AT.seq ?_
                  refine AT.region ?_   -- region 20 law.go:103
                  refine TrC.take rfl (step_loadPN rfl rfl rfl ty30 rfl rfl rfl) ?_   -- 0
                  refine TrC.take rfl (step_call0 rfl rfl (D27 hw) rfl) ?_   -- 1
                  refine TrC.spell 90 rfl (bv (b := true) (rfl)) ?_
                  refine TrC.take rfl (step_not rfl rfl rfl) ?_   -- 2
                  refine TrC.take rfl (step_move rfl rfl rfl) ?_   -- 3
                  refine TrC.take ⟨_, _, rfl, rfl, rfl⟩ (step_loadPN rfl rfl rfl ty30 rfl rfl rfl) ?_   -- 4
                  refine TrC.take ⟨_, _, rfl, rfl, rfl⟩ (step_call0 rfl rfl (D26 hw) rfl) ?_   -- 5
                  refine TrC.spell 94 rfl (bv (b := true) (rfl)) ?_
                  refine TrC.take ⟨_, _, rfl, rfl, rfl⟩ (step_not rfl rfl rfl) ?_   -- 6
                  refine TrC.take rfl (step_pick rfl rfl rfl rfl) ?_   -- 7
                  refine TrC.take rfl (step_move rfl rfl rfl) ?_   -- 8
                  refine TrC.take ⟨_, _, rfl, rfl, rfl⟩ (step_loadPN rfl rfl rfl ty30 rfl rfl rfl) ?_   -- 9
                  refine TrC.take ⟨_, _, rfl, rfl, rfl⟩ (step_loadPN rfl rfl rfl ty30 rfl rfl rfl) ?_   -- 10
                  refine TrC.take ⟨_, _, rfl, rfl, rfl⟩ (step_call0 rfl rfl (D15 hw (step N (x0, x1, x2))) rfl) ?_   -- 11
                  refine TrC.spell 100 rfl (bv (b := true) (by simp)) ?_
                  refine TrC.take ⟨_, _, rfl, rfl, rfl⟩ (step_not rfl rfl rfl) ?_   -- 12
                  refine TrC.take rfl (step_pick rfl rfl rfl rfl) ?_   -- 13
                  refine TrC.take rfl (step_move rfl rfl rfl) ?_   -- 14
                  refine TrC.take ⟨_, _, rfl, rfl, rfl⟩ (step_fieldAddrP rfl rfl fd30_2 rfl rfl) ?_   -- 15
                  refine TrC.take ⟨_, _, rfl, rfl, rfl⟩ (step_loadP1 rfl rfl rfl ty3 rfl rfl) ?_   -- 16
                  refine TrC.take ⟨_, _, rfl, rfl, rfl⟩ (step_move rfl rfl rfl) ?_   -- 17
                  refine TrC.take ⟨_, _, rfl, rfl, rfl⟩ (step_bin rfl rfl rfl rfl rfl) ?_   -- 18
                  refine TrC.spell 107 rfl (bv (b := false) (by have := step_facts N (x0, x1, x2); simp; omega)) ?_
                  refine TrC.take rfl (step_pick rfl rfl rfl rfl) ?_   -- 19
                  refine TrC.take rfl (step_move rfl rfl rfl) ?_   -- 20
                  refine TrC.take ⟨_, _, rfl, rfl, rfl⟩ (step_fieldAddrP rfl rfl fd30_2 rfl rfl) ?_   -- 21
                  refine TrC.take ⟨_, _, rfl, rfl, rfl⟩ (step_loadP1 rfl rfl rfl ty3 rfl rfl) ?_   -- 22
                  refine TrC.take ⟨_, _, rfl, rfl, rfl⟩ (step_move rfl rfl rfl) ?_   -- 23
                  refine TrC.take ⟨_, _, rfl, rfl, rfl⟩ (step_addI rfl rfl rfl (by first | omega | (simp; done) | (simp; omega)) (by first | omega | (simp; done) | (simp; omega)) rfl) ?_   -- 24
                  refine TrC.take ⟨_, _, rfl, rfl, rfl⟩ (step_bin rfl rfl rfl rfl rfl) ?_   -- 25
                  refine TrC.spell 114 rfl (bv (b := false) (by have := step_facts N (x0, x1, x2); simp; omega)) ?_
                  refine TrC.take rfl (step_pick rfl rfl rfl rfl) ?_   -- 26
                  refine TrC.done ?_
                  refine AT.condF rfl ?_   -- t115
                  refine AT.skip ?_
                  refine AT.region ?_   -- region 5 law.go:89
                  refine TrC.take rfl (step_move rfl rfl rfl) ?_   -- 0
                  refine TrC.take rfl (step_addI rfl rfl rfl (by first | omega | (simp; done) | (simp; omega)) (by first | omega | (simp; done) | (simp; omega)) rfl) ?_   -- 1
                  refine TrC.take rfl (step_assign rfl rfl rfl) ?_   -- 2
                  refine TrC.done ?_
                  exact ⟨(i + 1, (step N (x0, x1, x2))), ⟨by show i + 1 ≤ l.length; omega, by show i + 1 ≤ 30; omega, by show (l.take (i + 1)).foldl step ⟨[], [], 1⟩ = _; rw [take_snoc hlt, List.foldl_append, hN, hx]; rfl⟩, by show 30 - (i + 1) < 30 - i; omega, Sat.wk [] (.cons (.t (.refl _)) (.cons (.t (.refl _)) (.cons (.p rfl) (.cons (.p rfl) (.cons (.t (conv_i (by simp))) (.nil)))))) (.cons rfl (.box (.cons (.t (.refl _)) (.cons (.t (.refl _)) (.cons (.t (.refl _)) (.nil))))) (.cons rfl (.box (.cons (.t (.refl _)) (.cons (.t (.refl _)) (.cons (.t (.refl _)) (.nil))))) (.nil))) rfl rfl⟩
                · -- false
                  refine AT.spell 70 rfl (congrArg (fun b => T.v (.bool b)) h70) ?_
                  refine AT.region ?_   -- region 9 law.go:100
                  refine TrC.take rfl (step_loadPN rfl rfl rfl ty30 rfl rfl rfl) ?_   -- 0
                  refine TrC.take rfl (step_indexAddrP rfl rfl rfl ar47 (by decide) (by decide) rfl) ?_   -- 1
                  refine TrC.take rfl (step_loadP1 rfl rfl rfl ty5 rfl rfl) ?_   -- 2
                  first | refine TrC.take rfl (step_remI rfl rfl rfl (by omega) (by first | omega | (simp; done) | (simp; omega)) rfl) ?_ | refine TrC.take rfl (step_bin rfl rfl rfl rfl rfl) ?_   -- 3
                  refine TrC.take rfl (step_convI rfl rfl in5 in3 (by omega) (by omega) rfl) ?_   -- 4
                  refine TrC.take rfl (step_subI rfl rfl rfl (by first | omega | (simp; done) | (simp; omega)) (by first | omega | (simp; done) | (simp; omega)) rfl) ?_   -- 5
                  refine TrC.take rfl (step_move rfl rfl rfl) ?_   -- 6
                  refine TrC.take rfl (step_move rfl rfl rfl) ?_   -- 7
                  refine TrC.take rfl (step_buildA rfl ze32 rfl ar32 rfl rfl rfl rfl) ?_   -- 8
                  refine TrC.take rfl (step_call0 rfl rfl (D21 hv (x1 % 5) (x2 % 5) (x0 % 8 - 4)) rfl) ?_   -- 9
                  refine TrC.take rfl (step_fieldN rfl rfl fd40_0 ty30 rfl rfl) ?_   -- 10
                  refine TrC.take rfl (step_storeP rfl rfl rfl rfl rfl (.inl rfl) ty30 rfl rfl rfl) ?_   -- 11
                  refine TrC.done ?_
                  refine AT.seq ?_
                  refine AT.wk (sl := [(0, .t (.slice 3 (l.map encB))), (3, .t (.b true)), (4, .p 4 0), (5, .p 5 0), (6, .t (.i i)), (7, .p 7 0), (8, .t (.i N.next))]) (ml := [(4, .box 30 [.t (.slice 3 ((step N (x0, x1, x2)).fl.map encP)), .t (.slice 2 ((step N (x0, x1, x2)).cuts.map encC)), .t (.i (step N (x0, x1, x2)).next)]), (5, .box 30 [.t (.slice 3 (N.fl.map encP)), .t (.slice 2 (N.cuts.map encC)), .t (.i N.next)]), (7, .box 47 [.t (.u8 x0), .t (.u8 x1), .t (.u8 x2)])]) [] (.cons (.t (.refl _)) (.cons (.t (.refl _)) (.cons (.p rfl) (.cons (.p rfl) (.cons (.t (.refl _)) (.cons (.p rfl) (.cons (.t (.refl _)) (.nil)))))))) (.cons rfl (.box (.cons (.t (conv_eq (by rcases (show x0 % 8 = 0 ∨ x0 % 8 = 1 ∨ x0 % 8 = 2 ∨ x0 % 8 = 3 ∨ x0 % 8 = 4 ∨ x0 % 8 = 5 ∨ x0 % 8 = 6 ∨ x0 % 8 = 7 from by omega) with h8 | h8 | h8 | h8 | h8 | h8 | h8 | h8 <;> simp_all [step, doneN]))) (.cons (.t (conv_eq (by rcases (show x0 % 8 = 0 ∨ x0 % 8 = 1 ∨ x0 % 8 = 2 ∨ x0 % 8 = 3 ∨ x0 % 8 = 4 ∨ x0 % 8 = 5 ∨ x0 % 8 = 6 ∨ x0 % 8 = 7 from by omega) with h8 | h8 | h8 | h8 | h8 | h8 | h8 | h8 <;> simp_all [step, doneN]))) (.cons (.t (conv_eq (by rcases (show x0 % 8 = 0 ∨ x0 % 8 = 1 ∨ x0 % 8 = 2 ∨ x0 % 8 = 3 ∨ x0 % 8 = 4 ∨ x0 % 8 = 5 ∨ x0 % 8 = 6 ∨ x0 % 8 = 7 from by omega) with h8 | h8 | h8 | h8 | h8 | h8 | h8 | h8 <;> simp_all [step, doneN]))) (.nil))))) (.cons rfl (.box (.cons (.t (.refl _)) (.cons (.t (.refl _)) (.cons (.t (.refl _)) (.nil))))) (.cons rfl (.box (.cons (.t (.refl _)) (.cons (.t (.refl _)) (.cons (.t (.refl _)) (.nil))))) (.nil)))) rfl rfl ?_
                  refine AT.region ?_   -- region 19 law.go:102
                  refine TrC.take rfl (step_loadPN rfl rfl rfl ty30 rfl rfl rfl) ?_   -- 0
                  refine TrC.take rfl (step_loadPN rfl rfl rfl ty47 rfl rfl rfl) ?_   -- 1
                  refine TrC.take rfl (step_call0 rfl rfl (C28 N x0 x1 x2 hx0 hx1 hx2 hv.l1 hv.l2 hv.x0) rfl) ?_   -- 2
                  refine TrC.take rfl (step_storeP rfl rfl rfl rfl rfl (.inl rfl) ty30 rfl rfl rfl) ?_   -- 3
                  refine TrC.done ?_
                  refine AT.seq ?_
                  refine AT.region ?_   -- region 20 law.go:103
                  refine TrC.take rfl (step_loadPN rfl rfl rfl ty30 rfl rfl rfl) ?_   -- 0
                  refine TrC.take rfl (step_call0 rfl rfl (D27 hw) rfl) ?_   -- 1
                  refine TrC.spell 90 rfl (bv (b := true) (rfl)) ?_
                  refine TrC.take rfl (step_not rfl rfl rfl) ?_   -- 2
                  refine TrC.take rfl (step_move rfl rfl rfl) ?_   -- 3
                  refine TrC.take ⟨_, _, rfl, rfl, rfl⟩ (step_loadPN rfl rfl rfl ty30 rfl rfl rfl) ?_   -- 4
                  refine TrC.take ⟨_, _, rfl, rfl, rfl⟩ (step_call0 rfl rfl (D26 hw) rfl) ?_   -- 5
                  refine TrC.spell 94 rfl (bv (b := true) (rfl)) ?_
                  refine TrC.take ⟨_, _, rfl, rfl, rfl⟩ (step_not rfl rfl rfl) ?_   -- 6
                  refine TrC.take rfl (step_pick rfl rfl rfl rfl) ?_   -- 7
                  refine TrC.take rfl (step_move rfl rfl rfl) ?_   -- 8
                  refine TrC.take ⟨_, _, rfl, rfl, rfl⟩ (step_loadPN rfl rfl rfl ty30 rfl rfl rfl) ?_   -- 9
                  refine TrC.take ⟨_, _, rfl, rfl, rfl⟩ (step_loadPN rfl rfl rfl ty30 rfl rfl rfl) ?_   -- 10
                  refine TrC.take ⟨_, _, rfl, rfl, rfl⟩ (step_call0 rfl rfl (D15 hw (step N (x0, x1, x2))) rfl) ?_   -- 11
                  refine TrC.spell 100 rfl (bv (b := true) (by simp)) ?_
                  refine TrC.take ⟨_, _, rfl, rfl, rfl⟩ (step_not rfl rfl rfl) ?_   -- 12
                  refine TrC.take rfl (step_pick rfl rfl rfl rfl) ?_   -- 13
                  refine TrC.take rfl (step_move rfl rfl rfl) ?_   -- 14
                  refine TrC.take ⟨_, _, rfl, rfl, rfl⟩ (step_fieldAddrP rfl rfl fd30_2 rfl rfl) ?_   -- 15
                  refine TrC.take ⟨_, _, rfl, rfl, rfl⟩ (step_loadP1 rfl rfl rfl ty3 rfl rfl) ?_   -- 16
                  refine TrC.take ⟨_, _, rfl, rfl, rfl⟩ (step_move rfl rfl rfl) ?_   -- 17
                  refine TrC.take ⟨_, _, rfl, rfl, rfl⟩ (step_bin rfl rfl rfl rfl rfl) ?_   -- 18
                  refine TrC.spell 107 rfl (bv (b := false) (by have := step_facts N (x0, x1, x2); simp; omega)) ?_
                  refine TrC.take rfl (step_pick rfl rfl rfl rfl) ?_   -- 19
                  refine TrC.take rfl (step_move rfl rfl rfl) ?_   -- 20
                  refine TrC.take ⟨_, _, rfl, rfl, rfl⟩ (step_fieldAddrP rfl rfl fd30_2 rfl rfl) ?_   -- 21
                  refine TrC.take ⟨_, _, rfl, rfl, rfl⟩ (step_loadP1 rfl rfl rfl ty3 rfl rfl) ?_   -- 22
                  refine TrC.take ⟨_, _, rfl, rfl, rfl⟩ (step_move rfl rfl rfl) ?_   -- 23
                  refine TrC.take ⟨_, _, rfl, rfl, rfl⟩ (step_addI rfl rfl rfl (by first | omega | (simp; done) | (simp; omega)) (by first | omega | (simp; done) | (simp; omega)) rfl) ?_   -- 24
                  refine TrC.take ⟨_, _, rfl, rfl, rfl⟩ (step_bin rfl rfl rfl rfl rfl) ?_   -- 25
                  refine TrC.spell 114 rfl (bv (b := false) (by have := step_facts N (x0, x1, x2); simp; omega)) ?_
                  refine TrC.take rfl (step_pick rfl rfl rfl rfl) ?_   -- 26
                  refine TrC.done ?_
                  refine AT.condF rfl ?_   -- t115
                  refine AT.skip ?_
                  refine AT.region ?_   -- region 5 law.go:89
                  refine TrC.take rfl (step_move rfl rfl rfl) ?_   -- 0
                  refine TrC.take rfl (step_addI rfl rfl rfl (by first | omega | (simp; done) | (simp; omega)) (by first | omega | (simp; done) | (simp; omega)) rfl) ?_   -- 1
                  refine TrC.take rfl (step_assign rfl rfl rfl) ?_   -- 2
                  refine TrC.done ?_
                  exact ⟨(i + 1, (step N (x0, x1, x2))), ⟨by show i + 1 ≤ l.length; omega, by show i + 1 ≤ 30; omega, by show (l.take (i + 1)).foldl step ⟨[], [], 1⟩ = _; rw [take_snoc hlt, List.foldl_append, hN, hx]; rfl⟩, by show 30 - (i + 1) < 30 - i; omega, Sat.wk [] (.cons (.t (.refl _)) (.cons (.t (.refl _)) (.cons (.p rfl) (.cons (.p rfl) (.cons (.t (conv_i (by simp))) (.nil)))))) (.cons rfl (.box (.cons (.t (.refl _)) (.cons (.t (.refl _)) (.cons (.t (.refl _)) (.nil))))) (.cons rfl (.box (.cons (.t (.refl _)) (.cons (.t (.refl _)) (.cons (.t (.refl _)) (.nil))))) (.nil))) rfl rfl⟩
    · -- false
      refine AT.exit (Or.inl ⟨rfl, ?_⟩)   -- exit 0
      refine AT.seq ?_
      refine AT.region ?_   -- region 22 law.go:107
      refine TrC.take rfl (step_move rfl rfl rfl) ?_   -- 0
      refine TrC.take rfl (step_assign rfl rfl rfl) ?_   -- 1
      refine TrC.done ?_
      refine AT.ret ?_
      exact Ret.one rfl (ResR.tmp rfl (conv_b rfl))
  · -- t18 = false
    have hge : ¬ i < l.length := by have h := h18; simp at h; omega
    refine TrC.skip ⟨_, _, rfl, rfl, rfl⟩ ?_   -- 5
    refine TrC.skip ⟨_, _, rfl, rfl, rfl⟩ ?_   -- 6
    refine TrC.take rfl (step_pick rfl rfl rfl rfl) ?_   -- 7
    refine TrC.done ?_
    refine AT.condF rfl ?_   -- t21
    refine AT.exit (Or.inl ⟨rfl, ?_⟩)   -- exit 0
    refine AT.seq ?_
    refine AT.region ?_   -- region 22 law.go:107
    refine TrC.take rfl (step_move rfl rfl rfl) ?_   -- 0
    refine TrC.take rfl (step_assign rfl rfl rfl) ?_   -- 1
    refine TrC.done ?_
    refine AT.ret ?_
    exact Ret.one rfl (ResR.tmp rfl (conv_b rfl))

end Go.Proofs.Ytnemmdbafngppaa.Net

/- NetScripts: from the function's contract to arguments as they come. No condition. -/
set_option linter.unusedVariables false
namespace Go.Proofs.Ytnemmdbafngppaa.netScripts
open Go.Proofs.Ytnemmdbafngppaa.Abs Go.Proofs.Ytnemmdbafngppaa.Net Go.RowKit
theorem NetScripts_has (x0 : T) (f0 : Fits Try.prog 22 x0.cells) (a0 : (∃ l, x0 = .agg l) ↔ (partsOf Try.prog 22).isSome = true) : Has Try.prog 4 [x0] (.b true) := by
  obtain ⟨l, rfl, _, hb⟩ := fitB3 f0 a0 (e := 47) (by kernel_rfl) (by kernel_rfl) (by kernel_rfl)
  exact C4 l hb
end Go.Proofs.Ytnemmdbafngppaa.netScripts

/- The statement NetScriptsSaid is proved here: the law's function returns true for all its arguments and panics for none. No condition. -/
namespace Go.Proofs.Ytnemmdbafngppaa.netScripts
open Go.ChangeShapes Go.WideShapes Go.ChangeAt Go.RowKit
open Go.Proofs.Ytnemmdbafngppaa.Abs
set_option linter.unusedVariables false
theorem own : ownKnob Try.prog.godebug = none := by kernel_rfl
theorem laidOut : laidOutB Try.prog = true := by kernel_rfl
set_option maxRecDepth 100000 in
theorem lifted (os : Os) (started : os.Started) (H : Type) (enc : TypeId × Value → H) :
    ReturnsInHanded {} Try.checked os 4 .any (Rows.netScriptsSpec.pre6 enc Try.prog Try.f4 Rows.netScriptsRow.domain false) (Rows.netScriptsSpec.post enc Try.prog Try.f4 false true false false) := by
  refine returnsInHanded_of_change_sized (C := Try.checked) own started (by kernel_rfl) Try.func4
    (ChangeSpec.witness6 (enc := enc) (C := Try.checked) false ⟨#[], #[.slice none 0 0], []⟩ 8 (by kernel_rfl) (by kernel_rfl) (by kernel_rfl) (by kernel_rfl)) ?_
  intro W base args ds gs before hval0 hW hcnd hsz0 _
  have hval : ∀ (j : Nat) t v, Try.f4.params[j]? = some t → args[j]? = some v → Value.okWide Try.prog W .any base t v := hval0
  have hW' := hW
  obtain ⟨p, q, hA0, hV, rfl, hfz, hnd⟩ := hW
  have hA : DataW.TrodAll enc Try.prog W 0 (fun _ => true) true Try.f4.params.toList args.toList ds p := hA0
  rw [show Try.f4.params = #[22] from by kernel_rfl] at hA hval
  obtain ⟨v0, vs0, d0, ds0, p0, q0, hargs, rfl, rfl, h0, r0⟩ := trodAll_cons hA
  obtain ⟨rfl, rfl, rfl⟩ := trodAll_nil r0
  obtain rfl : args = #[v0] := by cases args; simp_all
  obtain ⟨rfl, rfl⟩ := trodVars_none hV
  have lt0 : ∀ x ∈ p0, x.block < W.heap.size := by obtain ⟨m, hm⟩ := h0; exact DataW.trod_lt m _ _ _ hm
  obtain ⟨x0, rd0, ft0, ag0⟩ := Trod_reads 8 (by kernel_rfl) (hval 0 22 v0 rfl rfl) h0
  have hh := NetScripts_has x0 ft0 ag0
  refine (hh.2 W (okW W) #[v0] (fun _ h => h) rfl ?_).mono fun e W' hx => ?_
  · intro i h1 h2
    rcases i with _ | i; exact rd0; simp at h1 <;> omega
  · obtain ⟨v, he, hr, bel⟩ := hx
    subst he
    cases hr with
    | v _ =>
      exact ⟨_, rfl, _, _, _, [], _, [], hW', trodAll_mk1 (shut_bool (show Try.prog.underlying 4 = some .bool by kernel_rfl) _), (trodAll_cons_mk (Below.trod laidOut (by kernel_rfl) (of_decide_eq_true (by kernel_rfl)) h0 bel lt0) trodAll_mk0), rfl, bel.frame _, fun h => by cases h⟩
theorem over : Rows.netScriptsRow.holds Try.pinned (OpenSpec.ofChange Rows.netScriptsSpec) :=
  OpenClaim.holds_of_wide 4 Try.f4 rfl rfl rfl rfl rfl rfl rfl ⟨rfl, rfl, rfl, rfl, rfl⟩ rfl rfl rfl rfl rfl (by kernel_rfl) Try.func4 (by kernel_rfl)
    (of_decide_eq_true (by kernel_rfl)) (by unfold Func.isWrapper; first | (rw [if_pos (by decide +kernel)]; kernel_rfl) | (rw [if_neg (by decide +kernel)]; exact ⟨rfl, rfl⟩))
    (fun os started H enc _ => lifted os started H enc)
theorem proved : Rows.NetScriptsSaid := over
#print axioms proved
end Go.Proofs.Ytnemmdbafngppaa.netScripts
namespace Go.Proofs.Ytnemmdbafngppaa
/-- The row, under a short name, for the claim. -/
theorem netScripts_holds : Rows.NetScriptsSaid := netScripts.proved
end Go.Proofs.Ytnemmdbafngppaa

