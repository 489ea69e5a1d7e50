/- Parts of this proof, one after the other; each says what it proves. No condition. -/
import Derived.Test.YtgblfhobiibeaaaMG
import Derived.Test.YtgblfhobiibeaaaME
import Derived.Test.YtgblfhobiibeaaaMD
import Derived.Test.YtgblfhobiibeaaaRows
import Derived.Test.YtgblfhobiibeaaaMC
import Derived.WalkKit
import Derived.ProofKit
import Derived.OpenShut
import Derived.ShutString
import Derived.ChangeOld
import Derived.Below
import Derived.Carry
import Derived.SizedLaws
/- Contracts of functions of this translation. Printed by wip/tools/gen.py out of wip/acl/ann.py. No condition. -/
set_option linter.unusedVariables false
set_option linter.unusedSimpArgs false
namespace Go.Proofs.Ytgblfhobiibeaaa.Acl
open Go.Proofs.Ytgblfhobiibeaaa.Abs
set_option maxRecDepth 100000
set_option maxHeartbeats 4000000
theorem C8 (m1 m2 m3 : List (Int × Int × Int)) (hb1 : ∀ x ∈ m1, (0 ≤ x.1 ∧ x.1 ≤ 255) ∧ (0 ≤ x.2.1 ∧ x.2.1 ≤ 255) ∧ (0 ≤ x.2.2 ∧ x.2.2 ≤ 255)) (hb2 : ∀ x ∈ m2, (0 ≤ x.1 ∧ x.1 ≤ 255) ∧ (0 ≤ x.2.1 ∧ x.2.1 ≤ 255) ∧ (0 ≤ x.2.2 ∧ x.2.2 ≤ 255)) (hb3 : ∀ x ∈ m3, (0 ≤ x.1 ∧ x.1 ≤ 255) ∧ (0 ≤ x.2.1 ∧ x.2.1 ≤ 255) ∧ (0 ≤ x.2.2 ∧ x.2.2 ≤ 255)) : Has Try.prog 8 [.agg [.slice 3 (m1.map encB), .slice 3 (m2.map encB), .slice 3 (m3.map encB)]] (.b true) := by   -- burgage/burgagelaw02.AclMerge
  refine Exists.elim (show ∃ z1, z1 = listA (m1.take 8) from ⟨_, rfl⟩) (fun z1 hz1 => ?_)
  have hvz1 : VL z1 := hz1 ▸ listA_VL _
  have hlz1 : z1.length ≤ 8 := by have := (listA_len (m1.take 8)).2; have := List.length_take_le 8 m1; rw [hz1]; omega
  have hb18 : ∀ x ∈ m1.take 8, (0 ≤ x.1 ∧ x.1 ≤ 255) ∧ (0 ≤ x.2.1 ∧ x.2.1 ≤ 255) ∧ (0 ≤ x.2.2 ∧ x.2.2 ≤ 255) := fun x hx => hb1 x (List.mem_of_mem_take hx)
  refine Exists.elim (show ∃ z2, z2 = listA (m2.take 8) from ⟨_, rfl⟩) (fun z2 hz2 => ?_)
  have hvz2 : VL z2 := hz2 ▸ listA_VL _
  have hlz2 : z2.length ≤ 8 := by have := (listA_len (m2.take 8)).2; have := List.length_take_le 8 m2; rw [hz2]; omega
  have hb28 : ∀ x ∈ m2.take 8, (0 ≤ x.1 ∧ x.1 ≤ 255) ∧ (0 ≤ x.2.1 ∧ x.2.1 ≤ 255) ∧ (0 ≤ x.2.2 ∧ x.2.2 ≤ 255) := fun x hx => hb2 x (List.mem_of_mem_take hx)
  refine Exists.elim (show ∃ z3, z3 = listA (m3.take 8) from ⟨_, rfl⟩) (fun z3 hz3 => ?_)
  have hvz3 : VL z3 := hz3 ▸ listA_VL _
  have hlz3 : z3.length ≤ 8 := by have := (listA_len (m3.take 8)).2; have := List.length_take_le 8 m3; rw [hz3]; omega
  have hb38 : ∀ x ∈ m3.take 8, (0 ≤ x.1 ∧ x.1 ≤ 255) ∧ (0 ≤ x.2.1 ∧ x.2.1 ≤ 255) ∧ (0 ≤ x.2.2 ∧ x.2.2 ≤ 255) := fun x hx => hb3 x (List.mem_of_mem_take hx)
  refine Exists.elim (show ∃ x, x = (⟨z1, z2, z3⟩ : Tri) from ⟨_, rfl⟩) (fun x hx => ?_)
  refine Exists.elim (show ∃ al, al = z1 ++ z2 ++ z3 from ⟨_, rfl⟩) (fun al hal0 => ?_)
  have hal : ∀ e, hasM (allE x) e = hasM al e := fun e => by rw [hasM_all, hal0, hasM_append, hasM_append, hx]; show (hasM z2 e || hasM z3 e || hasM z1 e) = _; cases hasM z1 e <;> cases hasM z2 e <;> cases hasM z3 e <;> rfl
  have har : ∀ a ∈ al, 1 ≤ a.rt := by
    intro a ha; rw [hal0, List.mem_append, List.mem_append] at ha
    rcases ha with (h | h) | h
    · exact (hvz1.rt1 h).1
    · exact (hvz2.rt1 h).1
    · exact (hvz3.rt1 h).1
  have hll : al.length ≤ 24 := by rw [hal0]; simp; omega
  refine Exists.elim (show ∃ p, p = merge x from ⟨_, rfl⟩) (fun p hp => ?_)
  refine Exists.elim (show ∃ q, q = merge (swp x) from ⟨_, rfl⟩) (fun q hq => ?_)
  have hP : MG x al p := hp ▸ merge_MG (hx ▸ hvz1) (hx ▸ hvz2) (hx ▸ hvz3) (by rw [hx]; show z2.length + z3.length ≤ 16; omega) hal
  have hQ : MG x al q := hq ▸ MG_swap hal (merge_MG (x := swp x) (hx ▸ hvz1) (hx ▸ hvz3) (hx ▸ hvz2) (by rw [hx]; show z3.length + z2.length ≤ 16; omega) (fun e => (swp_has x e).trans (hal e)))
  have hpq := MG_len hP hQ
  have hpl := hP.vl.ln
  have hql := hQ.vl.ln
  have hpv : valid p.1 = true := (valid_VL _).2 hP.vl
  have he2 : p.2 = q.2 := hP.ok.trans hQ.ok.symm
  refine Has.intro 205 Try.func8 (by kernel_rfl) rfl rfl fun w ok => ?_
  refine AT.seq ?_
  refine AT.region ?_   -- region 0 law.go:155
  refine TrC.take rfl (step_box rfl rfl rfl rfl rfl rfl rfl) ?_   -- 0
  refine TrC.take rfl (step_assign rfl rfl rfl) ?_   -- 1
  refine TrC.done ?_
  refine AT.seq ?_
  refine AT.region ?_   -- region 1 law.go:156
  refine TrC.take rfl (step_call0 rfl rfl (C10) rfl) ?_   -- 0
  refine TrC.spell 17 rfl (bv (b := true) (rfl)) ?_
  refine TrC.take rfl (step_assign rfl rfl rfl) ?_   -- 1
  refine TrC.done ?_
  refine AT.seq ?_
  refine AT.regionD mixed rfl ?_   -- region 2 law.go:157
  refine TrC.take rfl (step_indexAddrP rfl rfl rfl ar24 (by decide) (by decide) rfl) ?_   -- 0
  refine TrC.take rfl (step_loadP1 rfl rfl rfl ty23 rfl rfl) ?_   -- 1
  refine TrC.take rfl (step_indexAddrP rfl rfl rfl ar24 (by decide) (by decide) rfl) ?_   -- 2
  refine TrC.take rfl (step_loadP1 rfl rfl rfl ty23 rfl rfl) ?_   -- 3
  refine TrC.take rfl (step_lenT (rt := 0) rfl rfl sl23 rfl) ?_   -- 4
  refine TrC.take rfl (step_min rfl rfl rfl rfl) ?_   -- 5
  refine TrC.take rfl (step_sliceT rfl rfl rfl rfl sl23 (by first | (simp; done) | (simp; omega) | omega) (by first | (simp; done) | (simp; omega) | omega) (by first | (simp; done) | (simp; omega) | omega) rfl) ?_   -- 6
  refine TrC.spell 24 rfl (show T.slice 3 _ = T.slice 3 ((m1.take 8).map encB) from by congr 1; simp; omega) ?_
  refine TrC.take rfl (step_call0 rfl rfl ((C12 (m1.take 8) hb18).eq (congrArg (fun l : List Ace => T.slice 5 (l.map encA)) hz1.symm)) rfl) ?_   -- 7
  refine TrC.take rfl (step_indexAddrP rfl rfl rfl ar24 (by decide) (by decide) rfl) ?_   -- 8
  refine TrC.take rfl (step_loadP1 rfl rfl rfl ty23 rfl rfl) ?_   -- 9
  refine TrC.take rfl (step_indexAddrP rfl rfl rfl ar24 (by decide) (by decide) rfl) ?_   -- 10
  refine TrC.take rfl (step_loadP1 rfl rfl rfl ty23 rfl rfl) ?_   -- 11
  refine TrC.take rfl (step_lenT (rt := 0) rfl rfl sl23 rfl) ?_   -- 12
  refine TrC.take rfl (step_min rfl rfl rfl rfl) ?_   -- 13
  refine TrC.take rfl (step_sliceT rfl rfl rfl rfl sl23 (by first | (simp; done) | (simp; omega) | omega) (by first | (simp; done) | (simp; omega) | omega) (by first | (simp; done) | (simp; omega) | omega) rfl) ?_   -- 14
  refine TrC.spell 32 rfl (show T.slice 3 _ = T.slice 3 ((m2.take 8).map encB) from by congr 1; simp; omega) ?_
  refine TrC.take rfl (step_call0 rfl rfl ((C12 (m2.take 8) hb28).eq (congrArg (fun l : List Ace => T.slice 5 (l.map encA)) hz2.symm)) rfl) ?_   -- 15
  refine TrC.take rfl (step_indexAddrP rfl rfl rfl ar24 (by decide) (by decide) rfl) ?_   -- 16
  refine TrC.take rfl (step_loadP1 rfl rfl rfl ty23 rfl rfl) ?_   -- 17
  refine TrC.take rfl (step_indexAddrP rfl rfl rfl ar24 (by decide) (by decide) rfl) ?_   -- 18
  refine TrC.take rfl (step_loadP1 rfl rfl rfl ty23 rfl rfl) ?_   -- 19
  refine TrC.take rfl (step_lenT (rt := 0) rfl rfl sl23 rfl) ?_   -- 20
  refine TrC.take rfl (step_min rfl rfl rfl rfl) ?_   -- 21
  refine TrC.take rfl (step_sliceT rfl rfl rfl rfl sl23 (by first | (simp; done) | (simp; omega) | omega) (by first | (simp; done) | (simp; omega) | omega) (by first | (simp; done) | (simp; omega) | omega) rfl) ?_   -- 22
  refine TrC.spell 40 rfl (show T.slice 3 _ = T.slice 3 ((m3.take 8).map encB) from by congr 1; simp; omega) ?_
  refine TrC.take rfl (step_call0 rfl rfl ((C12 (m3.take 8) hb38).eq (congrArg (fun l : List Ace => T.slice 5 (l.map encA)) hz3.symm)) rfl) ?_   -- 23
  refine TrC.take rfl (step_assign rfl rfl rfl) ?_   -- 24
  refine TrC.take rfl (step_assign rfl rfl rfl) ?_   -- 25
  refine TrC.take rfl (step_assign rfl rfl rfl) ?_   -- 26
  refine TrC.doneD rfl ?_
  refine AT.seq ?_
  refine AT.region ?_   -- region 3 law.go:158
  refine TrC.take rfl (step_move rfl rfl rfl) ?_   -- 0
  refine TrC.take rfl (step_move rfl rfl rfl) ?_   -- 1
  refine TrC.take rfl (step_move rfl rfl rfl) ?_   -- 2
  refine TrC.take rfl (step_call0 rfl rfl ((C27 ⟨z1, z2, z3⟩ hvz1 hvz2 hvz3).eq (congrArg encMg ((congrArg merge hx.symm).trans hp.symm))) rfl) ?_   -- 3
  refine TrC.take rfl (step_move rfl rfl rfl) ?_   -- 4
  refine TrC.take rfl (step_move rfl rfl rfl) ?_   -- 5
  refine TrC.take rfl (step_move rfl rfl rfl) ?_   -- 6
  refine TrC.take rfl (step_call0 rfl rfl ((C27 ⟨z1, z3, z2⟩ hvz1 hvz3 hvz2).eq (congrArg encMg ((congrArg (fun x => merge (swp x)) hx.symm).trans hq.symm))) rfl) ?_   -- 7
  refine TrC.take rfl (step_allocC rfl rfl ze42 zc42 rfl rfl rfl) ?_   -- 8
  refine TrC.take rfl (step_allocC rfl rfl ze42 zc42 rfl rfl rfl) ?_   -- 9
  refine TrC.take rfl (step_storeP rfl rfl rfl rfl rfl (.inl rfl) ty42 rfl rfl rfl) ?_   -- 10
  refine TrC.take rfl (step_storeP rfl rfl rfl rfl rfl (.inl rfl) ty42 rfl rfl rfl) ?_   -- 11
  refine TrC.done ?_
  refine AT.seq ?_
  refine AT.seqJ (mkS [(3, .t (.b true)), (4, .t (.slice 5 (z1.map encA))), (5, .t (.slice 5 (z2.map encA))), (6, .t (.slice 5 (z3.map encA))), (7, .p 7 0), (8, .p 8 0), (88, .t (.b false))] [(7, .box 42 [.t (.slice 5 (p.1.map encA)), .t (.b p.2)]), (8, .box 42 [.t (.slice 5 (q.1.map encA)), .t (.b q.2)])]) ?_ ?_
  ·
    refine AT.region ?_   -- region 4 law.go:159
    refine TrC.take rfl (step_fieldAddrP rfl rfl fd42_1 rfl rfl) ?_   -- 0
    refine TrC.take rfl (step_loadP1 rfl rfl rfl ty4 rfl rfl) ?_   -- 1
    refine TrC.take rfl (step_fieldAddrP rfl rfl fd42_1 rfl rfl) ?_   -- 2
    refine TrC.take rfl (step_loadP1 rfl rfl rfl ty4 rfl rfl) ?_   -- 3
    refine TrC.take rfl (step_nebool rfl rfl rfl bo4 rfl) ?_   -- 4
    refine TrC.spell 54 rfl (bv (b := false) (by rw [he2]; simp)) ?_
    refine TrC.take rfl (step_move rfl rfl rfl) ?_   -- 5
    refine TrC.take ⟨_, _, rfl, rfl, rfl⟩ (step_fieldAddrP rfl rfl fd42_1 rfl rfl) ?_   -- 6
    refine TrC.take ⟨_, _, rfl, rfl, rfl⟩ (step_loadP1 rfl rfl rfl ty4 rfl rfl) ?_   -- 7
    refine TrC.take ⟨_, _, rfl, rfl, rfl⟩ (step_not rfl rfl rfl) ?_   -- 8
    refine TrC.take ⟨_, _, rfl, rfl, rfl⟩ (step_move rfl rfl rfl) ?_   -- 9
    refine TrC.cases (d := 59) rfl (fun h59 => ?_) (fun h59 => ?_)
    · -- t59 = true
      refine TrC.take ⟨_, _, rfl, rfl, rfl⟩ (step_fieldAddrP rfl rfl fd42_0 rfl rfl) ?_   -- 10
      refine TrC.take ⟨_, _, rfl, rfl, rfl⟩ (step_loadP1 rfl rfl rfl ty22 rfl rfl) ?_   -- 11
      refine TrC.take ⟨_, _, rfl, rfl, rfl⟩ (step_lenT (rt := 0) rfl rfl sl22 rfl) ?_   -- 12
      refine TrC.take ⟨_, _, rfl, rfl, rfl⟩ (step_fieldAddrP rfl rfl fd42_0 rfl rfl) ?_   -- 13
      refine TrC.take ⟨_, _, rfl, rfl, rfl⟩ (step_loadP1 rfl rfl rfl ty22 rfl rfl) ?_   -- 14
      refine TrC.take ⟨_, _, rfl, rfl, rfl⟩ (step_lenT (rt := 0) rfl rfl sl22 rfl) ?_   -- 15
      refine TrC.take ⟨_, _, rfl, rfl, rfl⟩ (step_addI rfl rfl rfl (by first | omega | (simp; done) | (simp; omega)) (by first | omega | (simp; done) | (simp; omega)) rfl) ?_   -- 16
      refine TrC.take ⟨_, _, rfl, rfl, rfl⟩ (step_bin rfl rfl rfl rfl rfl) ?_   -- 17
      refine TrC.spell 67 rfl (bv (b := false) (by have h1 : p.2 = false := (by simpa using h59); rw [hP.nil h1, hQ.nil (he2 ▸ h1)]; simp)) ?_
      refine TrC.take ⟨_, _, rfl, rfl, rfl⟩ (step_pick rfl rfl rfl rfl) ?_   -- 18
      refine TrC.take rfl (step_pick rfl rfl rfl rfl) ?_   -- 19
      refine TrC.take rfl (step_move rfl rfl rfl) ?_   -- 20
      refine TrC.take ⟨_, _, rfl, rfl, rfl⟩ (step_fieldAddrP rfl rfl fd42_0 rfl rfl) ?_   -- 21
      refine TrC.take ⟨_, _, rfl, rfl, rfl⟩ (step_loadP1 rfl rfl rfl ty22 rfl rfl) ?_   -- 22
      refine TrC.take ⟨_, _, rfl, rfl, rfl⟩ (step_lenT (rt := 0) rfl rfl sl22 rfl) ?_   -- 23
      refine TrC.take ⟨_, _, rfl, rfl, rfl⟩ (step_fieldAddrP rfl rfl fd42_0 rfl rfl) ?_   -- 24
      refine TrC.take ⟨_, _, rfl, rfl, rfl⟩ (step_loadP1 rfl rfl rfl ty22 rfl rfl) ?_   -- 25
      refine TrC.take ⟨_, _, rfl, rfl, rfl⟩ (step_lenT (rt := 0) rfl rfl sl22 rfl) ?_   -- 26
      refine TrC.take ⟨_, _, rfl, rfl, rfl⟩ (step_bin rfl rfl rfl rfl rfl) ?_   -- 27
      refine TrC.spell 77 rfl (bv (b := false) (by simp [hpq])) ?_
      refine TrC.take rfl (step_pick rfl rfl rfl rfl) ?_   -- 28
      refine TrC.take rfl (step_move rfl rfl rfl) ?_   -- 29
      refine TrC.take ⟨_, _, rfl, rfl, rfl⟩ (step_fieldAddrP rfl rfl fd42_1 rfl rfl) ?_   -- 30
      refine TrC.take ⟨_, _, rfl, rfl, rfl⟩ (step_loadP1 rfl rfl rfl ty4 rfl rfl) ?_   -- 31
      refine TrC.take ⟨_, _, rfl, rfl, rfl⟩ (step_move rfl rfl rfl) ?_   -- 32
      refine TrC.cases (d := 82) rfl (fun h82 => ?_) (fun h82 => ?_)
      · -- t82 = true
        refine TrC.take ⟨_, _, rfl, rfl, rfl⟩ (step_fieldAddrP rfl rfl fd42_0 rfl rfl) ?_   -- 33
        refine TrC.take ⟨_, _, rfl, rfl, rfl⟩ (step_loadP1 rfl rfl rfl ty22 rfl rfl) ?_   -- 34
        refine TrC.take ⟨_, _, rfl, rfl, rfl⟩ (step_call0 rfl rfl (C14 p.1 (by omega)) rfl) ?_   -- 35
        refine TrC.spell 85 rfl (bv (b := true) (hpv)) ?_
        refine TrC.take ⟨_, _, rfl, rfl, rfl⟩ (step_not rfl rfl rfl) ?_   -- 36
        refine TrC.take ⟨_, _, rfl, rfl, rfl⟩ (step_pick rfl rfl rfl rfl) ?_   -- 37
        refine TrC.take rfl (step_pick rfl rfl rfl rfl) ?_   -- 38
        refine TrC.done ?_
        exact Sat.wk [] (.cons (.t (.refl _)) (.cons (.t (.refl _)) (.cons (.t (.refl _)) (.cons (.t (.refl _)) (.cons (.p rfl) (.cons (.p rfl) (.cons (.t (conv_b (rfl))) (.nil)))))))) (.cons rfl (.box (.cons (.t (.refl _)) (.cons (.t (.refl _)) (.nil)))) (.cons rfl (.box (.cons (.t (.refl _)) (.cons (.t (.refl _)) (.nil)))) (.nil))) rfl rfl
      · -- t82 = false
        refine TrC.skip ⟨_, _, rfl, rfl, rfl⟩ ?_   -- 33
        refine TrC.skip ⟨_, _, rfl, rfl, rfl⟩ ?_   -- 34
        refine TrC.skip ⟨_, _, rfl, rfl, rfl⟩ ?_   -- 35
        refine TrC.skip ⟨_, _, rfl, rfl, rfl⟩ ?_   -- 36
        refine TrC.take ⟨_, _, rfl, rfl, rfl⟩ (step_pick rfl rfl rfl rfl) ?_   -- 37
        refine TrC.take rfl (step_pick rfl rfl rfl rfl) ?_   -- 38
        refine TrC.done ?_
        exact Sat.wk [] (.cons (.t (.refl _)) (.cons (.t (.refl _)) (.cons (.t (.refl _)) (.cons (.t (.refl _)) (.cons (.p rfl) (.cons (.p rfl) (.cons (.t (conv_b (rfl))) (.nil)))))))) (.cons rfl (.box (.cons (.t (.refl _)) (.cons (.t (.refl _)) (.nil)))) (.cons rfl (.box (.cons (.t (.refl _)) (.cons (.t (.refl _)) (.nil)))) (.nil))) rfl rfl
    · -- t59 = false
      refine TrC.skip ⟨_, _, rfl, rfl, rfl⟩ ?_   -- 10
      refine TrC.skip ⟨_, _, rfl, rfl, rfl⟩ ?_   -- 11
      refine TrC.skip ⟨_, _, rfl, rfl, rfl⟩ ?_   -- 12
      refine TrC.skip ⟨_, _, rfl, rfl, rfl⟩ ?_   -- 13
      refine TrC.skip ⟨_, _, rfl, rfl, rfl⟩ ?_   -- 14
      refine TrC.skip ⟨_, _, rfl, rfl, rfl⟩ ?_   -- 15
      refine TrC.skip ⟨_, _, rfl, rfl, rfl⟩ ?_   -- 16
      refine TrC.skip ⟨_, _, rfl, rfl, rfl⟩ ?_   -- 17
      refine TrC.take ⟨_, _, rfl, rfl, rfl⟩ (step_pick rfl rfl rfl rfl) ?_   -- 18
      refine TrC.take rfl (step_pick rfl rfl rfl rfl) ?_   -- 19
      refine TrC.take rfl (step_move rfl rfl rfl) ?_   -- 20
      refine TrC.take ⟨_, _, rfl, rfl, rfl⟩ (step_fieldAddrP rfl rfl fd42_0 rfl rfl) ?_   -- 21
      refine TrC.take ⟨_, _, rfl, rfl, rfl⟩ (step_loadP1 rfl rfl rfl ty22 rfl rfl) ?_   -- 22
      refine TrC.take ⟨_, _, rfl, rfl, rfl⟩ (step_lenT (rt := 0) rfl rfl sl22 rfl) ?_   -- 23
      refine TrC.take ⟨_, _, rfl, rfl, rfl⟩ (step_fieldAddrP rfl rfl fd42_0 rfl rfl) ?_   -- 24
      refine TrC.take ⟨_, _, rfl, rfl, rfl⟩ (step_loadP1 rfl rfl rfl ty22 rfl rfl) ?_   -- 25
      refine TrC.take ⟨_, _, rfl, rfl, rfl⟩ (step_lenT (rt := 0) rfl rfl sl22 rfl) ?_   -- 26
      refine TrC.take ⟨_, _, rfl, rfl, rfl⟩ (step_bin rfl rfl rfl rfl rfl) ?_   -- 27
      refine TrC.spell 77 rfl (bv (b := false) (by simp [hpq])) ?_
      refine TrC.take rfl (step_pick rfl rfl rfl rfl) ?_   -- 28
      refine TrC.take rfl (step_move rfl rfl rfl) ?_   -- 29
      refine TrC.take ⟨_, _, rfl, rfl, rfl⟩ (step_fieldAddrP rfl rfl fd42_1 rfl rfl) ?_   -- 30
      refine TrC.take ⟨_, _, rfl, rfl, rfl⟩ (step_loadP1 rfl rfl rfl ty4 rfl rfl) ?_   -- 31
      refine TrC.take ⟨_, _, rfl, rfl, rfl⟩ (step_move rfl rfl rfl) ?_   -- 32
      refine TrC.cases (d := 82) rfl (fun h82 => ?_) (fun h82 => ?_)
      · -- t82 = true
        refine TrC.take ⟨_, _, rfl, rfl, rfl⟩ (step_fieldAddrP rfl rfl fd42_0 rfl rfl) ?_   -- 33
        refine TrC.take ⟨_, _, rfl, rfl, rfl⟩ (step_loadP1 rfl rfl rfl ty22 rfl rfl) ?_   -- 34
        refine TrC.take ⟨_, _, rfl, rfl, rfl⟩ (step_call0 rfl rfl (C14 p.1 (by omega)) rfl) ?_   -- 35
        refine TrC.spell 85 rfl (bv (b := true) (hpv)) ?_
        refine TrC.take ⟨_, _, rfl, rfl, rfl⟩ (step_not rfl rfl rfl) ?_   -- 36
        refine TrC.take ⟨_, _, rfl, rfl, rfl⟩ (step_pick rfl rfl rfl rfl) ?_   -- 37
        refine TrC.take rfl (step_pick rfl rfl rfl rfl) ?_   -- 38
        refine TrC.done ?_
        exact Sat.wk [] (.cons (.t (.refl _)) (.cons (.t (.refl _)) (.cons (.t (.refl _)) (.cons (.t (.refl _)) (.cons (.p rfl) (.cons (.p rfl) (.cons (.t (conv_b (rfl))) (.nil)))))))) (.cons rfl (.box (.cons (.t (.refl _)) (.cons (.t (.refl _)) (.nil)))) (.cons rfl (.box (.cons (.t (.refl _)) (.cons (.t (.refl _)) (.nil)))) (.nil))) rfl rfl
      · -- t82 = false
        refine TrC.skip ⟨_, _, rfl, rfl, rfl⟩ ?_   -- 33
        refine TrC.skip ⟨_, _, rfl, rfl, rfl⟩ ?_   -- 34
        refine TrC.skip ⟨_, _, rfl, rfl, rfl⟩ ?_   -- 35
        refine TrC.skip ⟨_, _, rfl, rfl, rfl⟩ ?_   -- 36
        refine TrC.take ⟨_, _, rfl, rfl, rfl⟩ (step_pick rfl rfl rfl rfl) ?_   -- 37
        refine TrC.take rfl (step_pick rfl rfl rfl rfl) ?_   -- 38
        refine TrC.done ?_
        exact Sat.wk [] (.cons (.t (.refl _)) (.cons (.t (.refl _)) (.cons (.t (.refl _)) (.cons (.t (.refl _)) (.cons (.p rfl) (.cons (.p rfl) (.cons (.t (conv_b (rfl))) (.nil)))))))) (.cons rfl (.box (.cons (.t (.refl _)) (.cons (.t (.refl _)) (.nil)))) (.cons rfl (.box (.cons (.t (.refl _)) (.cons (.t (.refl _)) (.nil)))) (.nil))) rfl rfl
  ·
    refine AT.condF rfl ?_   -- t88
    refine AT.skip ?_
    refine AT.seq ?_
    refine AT.region ?_   -- region 6 law.go:162
    refine TrC.take rfl (step_buildSliceH rfl rfl sl22 ze31 rfl rfl rfl rfl rfl rfl rfl rfl rfl rfl rfl rfl rfl) ?_   -- 0
    refine TrC.take rfl (step_move rfl rfl rfl) ?_   -- 1
    refine TrC.take rfl (step_append rfl rfl rfl rfl rfl (.refl _) sl22 ze31 rfl rfl rfl (by first | (simp; done) | (simp; omega) | omega) rfl rfl) ?_   -- 2
    refine TrC.take rfl (step_move rfl rfl rfl) ?_   -- 3
    refine TrC.take rfl (step_append rfl rfl rfl rfl rfl (.refl _) sl22 ze31 rfl rfl rfl (by first | (simp; done) | (simp; omega) | omega) rfl rfl) ?_   -- 4
    refine TrC.take rfl (step_move rfl rfl rfl) ?_   -- 5
    refine TrC.take rfl (Step.toT (step_append rfl rfl rfl rfl rfl (.refl _) sl22 ze31 rfl rfl rfl (by first | (simp; done) | (simp; omega) | omega) rfl rfl) rfl) ?_   -- 6
    refine TrC.take rfl (step_assign rfl rfl rfl) ?_   -- 7
    refine TrC.take rfl (step_assign rfl rfl rfl) ?_   -- 8
    refine TrC.done ?_
    refine AT.wk (sl := [(3, .t (.b true)), (4, .t (.slice 5 (z1.map encA))), (5, .t (.slice 5 (z2.map encA))), (6, .t (.slice 5 (z3.map encA))), (7, .p 7 0), (8, .p 8 0), (9, .t (.slice 5 (al.map encA))), (10, .t (.b false))]) (ml := [(7, .box 42 [.t (.slice 5 (p.1.map encA)), .t (.b p.2)]), (8, .box 42 [.t (.slice 5 (q.1.map encA)), .t (.b q.2)])]) [] (.cons (.t (.refl _)) (.cons (.t (.refl _)) (.cons (.t (.refl _)) (.cons (.t (.refl _)) (.cons (.p rfl) (.cons (.p rfl) (.cons (.t (conv_eq (by rw [hal0]; simp))) (.cons (.t (.refl _)) (.nil))))))))) (.cons rfl (.box (.cons (.t (.refl _)) (.cons (.t (.refl _)) (.nil)))) (.cons rfl (.box (.cons (.t (.refl _)) (.cons (.t (.refl _)) (.nil)))) (.nil))) rfl rfl ?_
    refine AT.seq ?_
    refine AT.seq ?_
    refine AT.region ?_   -- region 7 law.go:163
    refine TrC.take rfl (step_assign rfl rfl rfl) ?_   -- 0
    refine TrC.done ?_
    refine AT.block ?_   -- block 0
    refine AT.loopP (fun k : Nat => k ≤ al.length) (fun k => mkS [(3, .t (.b true)), (4, .t (.slice 5 (z1.map encA))), (5, .t (.slice 5 (z2.map encA))), (6, .t (.slice 5 (z3.map encA))), (7, .p 7 0), (8, .p 8 0), (9, .t (.slice 5 (al.map encA))), (10, .t (.b ((al.take k).any (clash x)))), (11, .t (.i k))] [(7, .box 42 [.t (.slice 5 (p.1.map encA)), .t (.b p.2)]), (8, .box 42 [.t (.slice 5 (q.1.map encA)), .t (.b q.2)])]) (fun k => al.length - k) (0) (Nat.zero_le _) (fun a w hs => Sat.wk [] (.cons (.t (.refl _)) (.cons (.t (.refl _)) (.cons (.t (.refl _)) (.cons (.t (.refl _)) (.cons (.p rfl) (.cons (.p rfl) (.cons (.t (.refl _)) (.cons (.t (conv_b (rfl))) (.cons (.t (.refl _)) (.nil)))))))))) (.cons rfl (.box (.cons (.t (.refl _)) (.cons (.t (.refl _)) (.nil)))) (.cons rfl (.box (.cons (.t (.refl _)) (.cons (.t (.refl _)) (.nil)))) (.nil))) rfl rfl a w hs) (fun k hk => ?_)
    refine AT.seq ?_
    refine AT.seq ?_
    refine AT.region ?_   -- region 8 law.go:163
    refine TrC.take rfl (step_move rfl rfl rfl) ?_   -- 0
    refine TrC.take rfl (step_move rfl rfl rfl) ?_   -- 1
    refine TrC.take rfl (step_lenT (rt := 0) rfl rfl sl22 rfl) ?_   -- 2
    refine TrC.take rfl (step_bin rfl rfl rfl rfl rfl) ?_   -- 3
    refine TrC.done ?_
    refine AT.cond rfl (fun h99 => ?_) (fun h99 => ?_)   -- t99
    · -- true
      have hlt : k < al.length := by have h := h99; simp at h; omega
      refine Exists.elim (show ∃ e, e = al[k] from ⟨_, rfl⟩) (fun e he => ?_)
      have hget : (al.map encA)[k]? = some (.agg [.i e.who, .b e.al, .i e.rt, .i e.rc, .b e.gv]) := by rw [List.getElem?_map, List.getElem?_eq_getElem hlt, he]; rfl
      have hbad : (al.take (k + 1)).any (clash x) = ((al.take k).any (clash x) || clash x e) := by rw [take_snoc hlt, any_snoc, ← he]
      have hclash : clash x e = ((at' z2 e != at' z1 e) && ((at' z3 e != at' z1 e) && (at' z2 e != at' z3 e))) := by unfold clash; rw [hx, Bool.eq_iff_iff]; simp [and_assoc]
      refine AT.skip ?_
      refine AT.seq ?_
      refine AT.block ?_   -- block 1
      refine AT.seq ?_
      refine AT.regionD mixed rfl ?_   -- region 10 law.go:164
      refine TrC.take rfl (step_move rfl rfl rfl) ?_   -- 0
      refine TrC.take rfl (step_move rfl rfl rfl) ?_   -- 1
      refine TrC.take rfl (step_move rfl rfl rfl) ?_   -- 2
      refine TrC.take rfl (step_indexAddrT (v := .agg [.i e.who, .b e.al, .i e.rt, .i e.rc, .b e.gv]) rfl rfl rfl sl22 (by omega) (by first | exact hget | simpa using hget) rfl rfl) ?_   -- 3
      refine TrC.take rfl (step_loadTN rfl rfl ty31 rfl rfl) ?_   -- 4
      refine TrC.take rfl (step_call0 rfl rfl (C31 z1 e (by omega)) rfl) ?_   -- 5
      refine TrC.take rfl (step_move rfl rfl rfl) ?_   -- 6
      refine TrC.take rfl (step_move rfl rfl rfl) ?_   -- 7
      refine TrC.take rfl (step_move rfl rfl rfl) ?_   -- 8
      refine TrC.take rfl (step_indexAddrT (v := .agg [.i e.who, .b e.al, .i e.rt, .i e.rc, .b e.gv]) rfl rfl rfl sl22 (by omega) (by first | exact hget | simpa using hget) rfl rfl) ?_   -- 9
      refine TrC.take rfl (step_loadTN rfl rfl ty31 rfl rfl) ?_   -- 10
      refine TrC.take rfl (step_call0 rfl rfl (C31 z2 e (by omega)) rfl) ?_   -- 11
      refine TrC.take rfl (step_move rfl rfl rfl) ?_   -- 12
      refine TrC.take rfl (step_move rfl rfl rfl) ?_   -- 13
      refine TrC.take rfl (step_move rfl rfl rfl) ?_   -- 14
      refine TrC.take rfl (step_indexAddrT (v := .agg [.i e.who, .b e.al, .i e.rt, .i e.rc, .b e.gv]) rfl rfl rfl sl22 (by omega) (by first | exact hget | simpa using hget) rfl rfl) ?_   -- 15
      refine TrC.take rfl (step_loadTN rfl rfl ty31 rfl rfl) ?_   -- 16
      refine TrC.take rfl (step_call0 rfl rfl (C31 z3 e (by omega)) rfl) ?_   -- 17
      refine TrC.take rfl (step_assign rfl rfl rfl) ?_   -- 18
      refine TrC.take rfl (step_assign rfl rfl rfl) ?_   -- 19
      refine TrC.take rfl (step_assign rfl rfl rfl) ?_   -- 20
      refine TrC.doneD rfl ?_
      refine AT.seqJ (mkS [(3, .t (.b true)), (4, .t (.slice 5 (z1.map encA))), (5, .t (.slice 5 (z2.map encA))), (6, .t (.slice 5 (z3.map encA))), (7, .p 7 0), (8, .p 8 0), (9, .t (.slice 5 (al.map encA))), (10, .t (.b ((al.take (k + 1)).any (clash x)))), (11, .t (.i k)), (12, .t (.i (at' z1 e))), (13, .t (.i (at' z2 e))), (14, .t (.i (at' z3 e)))] [(7, .box 42 [.t (.slice 5 (p.1.map encA)), .t (.b p.2)]), (8, .box 42 [.t (.slice 5 (q.1.map encA)), .t (.b q.2)])]) ?_ ?_
      ·
        refine AT.region ?_   -- region 11 law.go:165
        refine TrC.take rfl (step_move rfl rfl rfl) ?_   -- 0
        refine TrC.take rfl (step_move rfl rfl rfl) ?_   -- 1
        refine TrC.cases (d := 121) rfl (fun h121 => ?_) (fun h121 => ?_)
        · -- t121 = true
          refine TrC.skip ⟨_, _, rfl, rfl, rfl⟩ ?_   -- 2
          refine TrC.skip ⟨_, _, rfl, rfl, rfl⟩ ?_   -- 3
          refine TrC.skip ⟨_, _, rfl, rfl, rfl⟩ ?_   -- 4
          refine TrC.skip ⟨_, _, rfl, rfl, rfl⟩ ?_   -- 5
          refine TrC.skip ⟨_, _, rfl, rfl, rfl⟩ ?_   -- 6
          refine TrC.skip ⟨_, _, rfl, rfl, rfl⟩ ?_   -- 7
          refine TrC.skip ⟨_, _, rfl, rfl, rfl⟩ ?_   -- 8
          refine TrC.skip ⟨_, _, rfl, rfl, rfl⟩ ?_   -- 9
          refine TrC.skip ⟨_, _, rfl, rfl, rfl⟩ ?_   -- 10
          refine TrC.skip ⟨_, _, rfl, rfl, rfl⟩ ?_   -- 11
          refine TrC.skip ⟨_, _, rfl, rfl, rfl⟩ ?_   -- 12
          refine TrC.skip ⟨_, _, rfl, rfl, rfl⟩ ?_   -- 13
          refine TrC.skip ⟨_, _, rfl, rfl, rfl⟩ ?_   -- 14
          refine TrC.take rfl (step_pick rfl rfl rfl rfl) ?_   -- 15
          refine TrC.take rfl (step_assign rfl rfl rfl) ?_   -- 16
          refine TrC.done ?_
          exact Sat.wk [] (.cons (.t (.refl _)) (.cons (.t (.refl _)) (.cons (.t (.refl _)) (.cons (.t (.refl _)) (.cons (.p rfl) (.cons (.p rfl) (.cons (.t (.refl _)) (.cons (.t (conv_b (by first | (rw [hbad, h121]; rfl) | (rw [hbad, h121, hclash, h125, h130]; rfl) | (rw [hbad, h121, hclash, h125]; rfl)))) (.cons (.t (.refl _)) (.cons (.t (.refl _)) (.cons (.t (.refl _)) (.cons (.t (.refl _)) (.nil))))))))))))) (.cons rfl (.box (.cons (.t (.refl _)) (.cons (.t (.refl _)) (.nil)))) (.cons rfl (.box (.cons (.t (.refl _)) (.cons (.t (.refl _)) (.nil)))) (.nil))) rfl rfl
        · -- t121 = false
          refine TrC.take ⟨_, _, rfl, rfl, rfl⟩ (step_move rfl rfl rfl) ?_   -- 2
          refine TrC.take ⟨_, _, rfl, rfl, rfl⟩ (step_move rfl rfl rfl) ?_   -- 3
          refine TrC.take ⟨_, _, rfl, rfl, rfl⟩ (step_bin rfl rfl rfl rfl rfl) ?_   -- 4
          refine TrC.take ⟨_, _, rfl, rfl, rfl⟩ (step_move rfl rfl rfl) ?_   -- 5
          refine TrC.cases (d := 125) rfl (fun h125 => ?_) (fun h125 => ?_)
          · -- t125 = true
            refine TrC.take ⟨_, _, rfl, rfl, rfl⟩ (step_move rfl rfl rfl) ?_   -- 6
            refine TrC.take ⟨_, _, rfl, rfl, rfl⟩ (step_move rfl rfl rfl) ?_   -- 7
            refine TrC.take ⟨_, _, rfl, rfl, rfl⟩ (step_bin rfl rfl rfl rfl rfl) ?_   -- 8
            refine TrC.take ⟨_, _, rfl, rfl, rfl⟩ (step_pick rfl rfl rfl rfl) ?_   -- 9
            refine TrC.take ⟨_, _, rfl, rfl, rfl⟩ (step_move rfl rfl rfl) ?_   -- 10
            refine TrC.cases (d := 130) rfl (fun h130 => ?_) (fun h130 => ?_)
            · -- t130 = true
              refine TrC.take ⟨_, _, rfl, rfl, rfl⟩ (step_move rfl rfl rfl) ?_   -- 11
              refine TrC.take ⟨_, _, rfl, rfl, rfl⟩ (step_move rfl rfl rfl) ?_   -- 12
              refine TrC.take ⟨_, _, rfl, rfl, rfl⟩ (step_bin rfl rfl rfl rfl rfl) ?_   -- 13
              refine TrC.take ⟨_, _, rfl, rfl, rfl⟩ (step_pick rfl rfl rfl rfl) ?_   -- 14
              refine TrC.take rfl (step_pick rfl rfl rfl rfl) ?_   -- 15
              refine TrC.take rfl (step_assign rfl rfl rfl) ?_   -- 16
              refine TrC.done ?_
              exact Sat.wk [] (.cons (.t (.refl _)) (.cons (.t (.refl _)) (.cons (.t (.refl _)) (.cons (.t (.refl _)) (.cons (.p rfl) (.cons (.p rfl) (.cons (.t (.refl _)) (.cons (.t (conv_b (by first | (rw [hbad, h121]; rfl) | (rw [hbad, h121, hclash, h125, h130]; rfl) | (rw [hbad, h121, hclash, h125]; rfl)))) (.cons (.t (.refl _)) (.cons (.t (.refl _)) (.cons (.t (.refl _)) (.cons (.t (.refl _)) (.nil))))))))))))) (.cons rfl (.box (.cons (.t (.refl _)) (.cons (.t (.refl _)) (.nil)))) (.cons rfl (.box (.cons (.t (.refl _)) (.cons (.t (.refl _)) (.nil)))) (.nil))) rfl rfl
            · -- t130 = false
              refine TrC.skip ⟨_, _, rfl, rfl, rfl⟩ ?_   -- 11
              refine TrC.skip ⟨_, _, rfl, rfl, rfl⟩ ?_   -- 12
              refine TrC.skip ⟨_, _, rfl, rfl, rfl⟩ ?_   -- 13
              refine TrC.take ⟨_, _, rfl, rfl, rfl⟩ (step_pick rfl rfl rfl rfl) ?_   -- 14
              refine TrC.take rfl (step_pick rfl rfl rfl rfl) ?_   -- 15
              refine TrC.take rfl (step_assign rfl rfl rfl) ?_   -- 16
              refine TrC.done ?_
              exact Sat.wk [] (.cons (.t (.refl _)) (.cons (.t (.refl _)) (.cons (.t (.refl _)) (.cons (.t (.refl _)) (.cons (.p rfl) (.cons (.p rfl) (.cons (.t (.refl _)) (.cons (.t (conv_b (by first | (rw [hbad, h121]; rfl) | (rw [hbad, h121, hclash, h125, h130]; rfl) | (rw [hbad, h121, hclash, h125]; rfl)))) (.cons (.t (.refl _)) (.cons (.t (.refl _)) (.cons (.t (.refl _)) (.cons (.t (.refl _)) (.nil))))))))))))) (.cons rfl (.box (.cons (.t (.refl _)) (.cons (.t (.refl _)) (.nil)))) (.cons rfl (.box (.cons (.t (.refl _)) (.cons (.t (.refl _)) (.nil)))) (.nil))) rfl rfl
          · -- t125 = false
            refine TrC.skip ⟨_, _, rfl, rfl, rfl⟩ ?_   -- 6
            refine TrC.skip ⟨_, _, rfl, rfl, rfl⟩ ?_   -- 7
            refine TrC.skip ⟨_, _, rfl, rfl, rfl⟩ ?_   -- 8
            refine TrC.take ⟨_, _, rfl, rfl, rfl⟩ (step_pick rfl rfl rfl rfl) ?_   -- 9
            refine TrC.take ⟨_, _, rfl, rfl, rfl⟩ (step_move rfl rfl rfl) ?_   -- 10
            refine TrC.skip ⟨_, _, rfl, rfl, rfl⟩ ?_   -- 11
            refine TrC.skip ⟨_, _, rfl, rfl, rfl⟩ ?_   -- 12
            refine TrC.skip ⟨_, _, rfl, rfl, rfl⟩ ?_   -- 13
            refine TrC.take ⟨_, _, rfl, rfl, rfl⟩ (step_pick rfl rfl rfl rfl) ?_   -- 14
            refine TrC.take rfl (step_pick rfl rfl rfl rfl) ?_   -- 15
            refine TrC.take rfl (step_assign rfl rfl rfl) ?_   -- 16
            refine TrC.done ?_
            exact Sat.wk [] (.cons (.t (.refl _)) (.cons (.t (.refl _)) (.cons (.t (.refl _)) (.cons (.t (.refl _)) (.cons (.p rfl) (.cons (.p rfl) (.cons (.t (.refl _)) (.cons (.t (conv_b (by first | (rw [hbad, h121]; rfl) | (rw [hbad, h121, hclash, h125, h130]; rfl) | (rw [hbad, h121, hclash, h125]; rfl)))) (.cons (.t (.refl _)) (.cons (.t (.refl _)) (.cons (.t (.refl _)) (.cons (.t (.refl _)) (.nil))))))))))))) (.cons rfl (.box (.cons (.t (.refl _)) (.cons (.t (.refl _)) (.nil)))) (.cons rfl (.box (.cons (.t (.refl _)) (.cons (.t (.refl _)) (.nil)))) (.nil))) rfl rfl
      ·
        refine AT.seq ?_
        refine AT.region ?_   -- region 12 law.go:166
        refine TrC.take rfl (step_move rfl rfl rfl) ?_   -- 0
        refine TrC.take rfl (step_assign rfl rfl rfl) ?_   -- 1
        refine TrC.done ?_
        refine AT.seqJ (mkS [(3, .t (.b true)), (4, .t (.slice 5 (z1.map encA))), (5, .t (.slice 5 (z2.map encA))), (6, .t (.slice 5 (z3.map encA))), (7, .p 7 0), (8, .p 8 0), (9, .t (.slice 5 (al.map encA))), (10, .t (.b ((al.take (k + 1)).any (clash x)))), (11, .t (.i k)), (12, .t (.i (at' z1 e))), (13, .t (.i (at' z2 e))), (14, .t (.i (at' z3 e))), (15, .t (.i (newRt x e)))] [(7, .box 42 [.t (.slice 5 (p.1.map encA)), .t (.b p.2)]), (8, .box 42 [.t (.slice 5 (q.1.map encA)), .t (.b q.2)])]) ?_ ?_
        ·
          refine AT.seq ?_
          refine AT.region ?_   -- region 13 law.go:167
          refine TrC.take rfl (step_move rfl rfl rfl) ?_   -- 0
          refine TrC.take rfl (step_move rfl rfl rfl) ?_   -- 1
          refine TrC.take rfl (step_bin rfl rfl rfl rfl rfl) ?_   -- 2
          refine TrC.done ?_
          refine AT.cond rfl (fun h139 => ?_) (fun h139 => ?_)   -- t139
          · -- true
            refine AT.region ?_   -- region 14 law.go:168
            refine TrC.take rfl (step_move rfl rfl rfl) ?_   -- 0
            refine TrC.take rfl (step_assign rfl rfl rfl) ?_   -- 1
            refine TrC.done ?_
            exact Sat.wk [] (.cons (.t (.refl _)) (.cons (.t (.refl _)) (.cons (.t (.refl _)) (.cons (.t (.refl _)) (.cons (.p rfl) (.cons (.p rfl) (.cons (.t (.refl _)) (.cons (.t (.refl _)) (.cons (.t (.refl _)) (.cons (.t (.refl _)) (.cons (.t (.refl _)) (.cons (.t (.refl _)) (.cons (.t (conv_i (by unfold newRt; rw [hx]; first | (rw [if_pos (by simpa using h139)]; done) | (rw [if_neg (by simpa using h139)]; done)))) (.nil)))))))))))))) (.cons rfl (.box (.cons (.t (.refl _)) (.cons (.t (.refl _)) (.nil)))) (.cons rfl (.box (.cons (.t (.refl _)) (.cons (.t (.refl _)) (.nil)))) (.nil))) rfl rfl
          · -- false
            refine AT.skip ?_
            exact Sat.wk [] (.cons (.t (.refl _)) (.cons (.t (.refl _)) (.cons (.t (.refl _)) (.cons (.t (.refl _)) (.cons (.p rfl) (.cons (.p rfl) (.cons (.t (.refl _)) (.cons (.t (.refl _)) (.cons (.t (.refl _)) (.cons (.t (.refl _)) (.cons (.t (.refl _)) (.cons (.t (.refl _)) (.cons (.t (conv_i (by unfold newRt; rw [hx]; first | (rw [if_pos (by simpa using h139)]; done) | (rw [if_neg (by simpa using h139)]; done)))) (.nil)))))))))))))) (.cons rfl (.box (.cons (.t (.refl _)) (.cons (.t (.refl _)) (.nil)))) (.cons rfl (.box (.cons (.t (.refl _)) (.cons (.t (.refl _)) (.nil)))) (.nil))) rfl rfl
        ·
          refine AT.seq ?_
          refine AT.regionD mixed rfl ?_   -- region 15 law.go:170
          refine TrC.take rfl (step_fieldAddrP rfl rfl fd42_1 rfl rfl) ?_   -- 0
          refine TrC.take rfl (step_loadP1 rfl rfl rfl ty4 rfl rfl) ?_   -- 1
          refine TrC.take rfl (step_move rfl rfl rfl) ?_   -- 2
          refine TrC.cases (d := 143) rfl (fun h143 => ?_) (fun h143 => ?_)
          · -- t143 = true
            refine TrC.take ⟨_, _, rfl, rfl, rfl⟩ (step_fieldAddrP rfl rfl fd42_0 rfl rfl) ?_   -- 3
            refine TrC.take ⟨_, _, rfl, rfl, rfl⟩ (step_loadP1 rfl rfl rfl ty22 rfl rfl) ?_   -- 4
            refine TrC.take ⟨_, _, rfl, rfl, rfl⟩ (step_move rfl rfl rfl) ?_   -- 5
            refine TrC.take ⟨_, _, rfl, rfl, rfl⟩ (step_move rfl rfl rfl) ?_   -- 6
            refine TrC.take ⟨_, _, rfl, rfl, rfl⟩ (step_indexAddrT (v := .agg [.i e.who, .b e.al, .i e.rt, .i e.rc, .b e.gv]) rfl rfl rfl sl22 (by omega) (by first | exact hget | simpa using hget) rfl rfl) ?_   -- 7
            refine TrC.take ⟨_, _, rfl, rfl, rfl⟩ (step_loadTN rfl rfl ty31 rfl rfl) ?_   -- 8
            refine TrC.take ⟨_, _, rfl, rfl, rfl⟩ (step_call0 rfl rfl (C31 p.1 e (by omega)) rfl) ?_   -- 9
            refine TrC.take ⟨_, _, rfl, rfl, rfl⟩ (step_move rfl rfl rfl) ?_   -- 10
            refine TrC.take ⟨_, _, rfl, rfl, rfl⟩ (step_bin rfl rfl rfl rfl rfl) ?_   -- 11
            refine TrC.spell 152 rfl (bv (b := false) (by rw [hP.at1 (by simpa using h143)]; simp)) ?_
            refine TrC.take ⟨_, _, rfl, rfl, rfl⟩ (step_move rfl rfl rfl) ?_   -- 12
            refine TrC.take ⟨_, _, rfl, rfl, rfl⟩ (step_fieldAddrP rfl rfl fd42_0 rfl rfl) ?_   -- 13
            refine TrC.take ⟨_, _, rfl, rfl, rfl⟩ (step_loadP1 rfl rfl rfl ty22 rfl rfl) ?_   -- 14
            refine TrC.take ⟨_, _, rfl, rfl, rfl⟩ (step_move rfl rfl rfl) ?_   -- 15
            refine TrC.take ⟨_, _, rfl, rfl, rfl⟩ (step_move rfl rfl rfl) ?_   -- 16
            refine TrC.take ⟨_, _, rfl, rfl, rfl⟩ (step_indexAddrT (v := .agg [.i e.who, .b e.al, .i e.rt, .i e.rc, .b e.gv]) rfl rfl rfl sl22 (by omega) (by first | exact hget | simpa using hget) rfl rfl) ?_   -- 17
            refine TrC.take ⟨_, _, rfl, rfl, rfl⟩ (step_loadTN rfl rfl ty31 rfl rfl) ?_   -- 18
            refine TrC.take ⟨_, _, rfl, rfl, rfl⟩ (step_call0 rfl rfl (C31 q.1 e (by omega)) rfl) ?_   -- 19
            refine TrC.take ⟨_, _, rfl, rfl, rfl⟩ (step_move rfl rfl rfl) ?_   -- 20
            refine TrC.take ⟨_, _, rfl, rfl, rfl⟩ (step_bin rfl rfl rfl rfl rfl) ?_   -- 21
            refine TrC.spell 162 rfl (bv (b := false) (by rw [hQ.at1 (he2 ▸ (by simpa using h143))]; simp)) ?_
            refine TrC.take ⟨_, _, rfl, rfl, rfl⟩ (step_pick rfl rfl rfl rfl) ?_   -- 22
            refine TrC.take rfl (step_pick rfl rfl rfl rfl) ?_   -- 23
            refine TrC.doneD rfl ?_
            refine AT.condF rfl ?_   -- t164
            refine AT.skip ?_
            refine AT.region ?_   -- region 9 law.go:163
            refine TrC.take rfl (step_move rfl rfl rfl) ?_   -- 0
            refine TrC.take rfl (step_addI rfl rfl rfl (by first | omega | (simp; done) | (simp; omega)) (by first | omega | (simp; done) | (simp; omega)) rfl) ?_   -- 1
            refine TrC.take rfl (step_assign rfl rfl rfl) ?_   -- 2
            refine TrC.done ?_
            exact ⟨k + 1, by show k + 1 ≤ al.length; omega, by show al.length - (k + 1) < al.length - k; omega, Sat.wk [] (.cons (.t (.refl _)) (.cons (.t (.refl _)) (.cons (.t (.refl _)) (.cons (.t (.refl _)) (.cons (.p rfl) (.cons (.p rfl) (.cons (.t (.refl _)) (.cons (.t (.refl _)) (.cons (.t (conv_i (by simp))) (.nil)))))))))) (.cons rfl (.box (.cons (.t (.refl _)) (.cons (.t (.refl _)) (.nil)))) (.cons rfl (.box (.cons (.t (.refl _)) (.cons (.t (.refl _)) (.nil)))) (.nil))) rfl rfl⟩
          · -- t143 = false
            refine TrC.skip ⟨_, _, rfl, rfl, rfl⟩ ?_   -- 3
            refine TrC.skip ⟨_, _, rfl, rfl, rfl⟩ ?_   -- 4
            refine TrC.skip ⟨_, _, rfl, rfl, rfl⟩ ?_   -- 5
            refine TrC.skip ⟨_, _, rfl, rfl, rfl⟩ ?_   -- 6
            refine TrC.skip ⟨_, _, rfl, rfl, rfl⟩ ?_   -- 7
            refine TrC.skip ⟨_, _, rfl, rfl, rfl⟩ ?_   -- 8
            refine TrC.skip ⟨_, _, rfl, rfl, rfl⟩ ?_   -- 9
            refine TrC.skip ⟨_, _, rfl, rfl, rfl⟩ ?_   -- 10
            refine TrC.skip ⟨_, _, rfl, rfl, rfl⟩ ?_   -- 11
            refine TrC.skip ⟨_, _, rfl, rfl, rfl⟩ ?_   -- 12
            refine TrC.skip ⟨_, _, rfl, rfl, rfl⟩ ?_   -- 13
            refine TrC.skip ⟨_, _, rfl, rfl, rfl⟩ ?_   -- 14
            refine TrC.skip ⟨_, _, rfl, rfl, rfl⟩ ?_   -- 15
            refine TrC.skip ⟨_, _, rfl, rfl, rfl⟩ ?_   -- 16
            refine TrC.skip ⟨_, _, rfl, rfl, rfl⟩ ?_   -- 17
            refine TrC.skip ⟨_, _, rfl, rfl, rfl⟩ ?_   -- 18
            refine TrC.skip ⟨_, _, rfl, rfl, rfl⟩ ?_   -- 19
            refine TrC.skip ⟨_, _, rfl, rfl, rfl⟩ ?_   -- 20
            refine TrC.skip ⟨_, _, rfl, rfl, rfl⟩ ?_   -- 21
            refine TrC.skip ⟨_, _, rfl, rfl, rfl⟩ ?_   -- 22
            refine TrC.take rfl (step_pick rfl rfl rfl rfl) ?_   -- 23
            refine TrC.doneD rfl ?_
            refine AT.condF rfl ?_   -- t164
            refine AT.skip ?_
            refine AT.region ?_   -- region 9 law.go:163
            refine TrC.take rfl (step_move rfl rfl rfl) ?_   -- 0
            refine TrC.take rfl (step_addI rfl rfl rfl (by first | omega | (simp; done) | (simp; omega)) (by first | omega | (simp; done) | (simp; omega)) rfl) ?_   -- 1
            refine TrC.take rfl (step_assign rfl rfl rfl) ?_   -- 2
            refine TrC.done ?_
            exact ⟨k + 1, by show k + 1 ≤ al.length; omega, by show al.length - (k + 1) < al.length - k; omega, Sat.wk [] (.cons (.t (.refl _)) (.cons (.t (.refl _)) (.cons (.t (.refl _)) (.cons (.t (.refl _)) (.cons (.p rfl) (.cons (.p rfl) (.cons (.t (.refl _)) (.cons (.t (.refl _)) (.cons (.t (conv_i (by simp))) (.nil)))))))))) (.cons rfl (.box (.cons (.t (.refl _)) (.cons (.t (.refl _)) (.nil)))) (.cons rfl (.box (.cons (.t (.refl _)) (.cons (.t (.refl _)) (.nil)))) (.nil))) rfl rfl⟩
    · -- false
      have hend : al.take k = al := List.take_of_length_le (by have h := h99; simp at h; omega)
      refine AT.exit (Or.inl ⟨rfl, ?_⟩)   -- exit 0
      refine AT.seq ?_
      refine AT.seq ?_
      refine AT.region ?_   -- region 17 law.go:174
      refine TrC.take rfl (step_assign rfl rfl rfl) ?_   -- 0
      refine TrC.done ?_
      refine AT.block ?_   -- block 2
      refine AT.loopP (fun j : Nat => j ≤ p.1.length) (fun j => mkS [(3, .t (.b true)), (4, .t (.slice 5 (z1.map encA))), (5, .t (.slice 5 (z2.map encA))), (6, .t (.slice 5 (z3.map encA))), (7, .p 7 0), (8, .p 8 0), (9, .t (.slice 5 (al.map encA))), (10, .t (.b (al.any (clash x)))), (16, .t (.i j))] [(7, .box 42 [.t (.slice 5 (p.1.map encA)), .t (.b p.2)]), (8, .box 42 [.t (.slice 5 (q.1.map encA)), .t (.b q.2)])]) (fun j => p.1.length - j) (0) (Nat.zero_le _) (fun a w hs => Sat.wk [] (.cons (.t (.refl _)) (.cons (.t (.refl _)) (.cons (.t (.refl _)) (.cons (.t (.refl _)) (.cons (.p rfl) (.cons (.p rfl) (.cons (.t (.refl _)) (.cons (.t (conv_b (by rw [hend]))) (.cons (.t (.refl _)) (.nil)))))))))) (.cons rfl (.box (.cons (.t (.refl _)) (.cons (.t (.refl _)) (.nil)))) (.cons rfl (.box (.cons (.t (.refl _)) (.cons (.t (.refl _)) (.nil)))) (.nil))) rfl rfl a w hs) (fun j hj => ?_)
      refine AT.seq ?_
      refine AT.seq ?_
      refine AT.region ?_   -- region 18 law.go:174
      refine TrC.take rfl (step_move rfl rfl rfl) ?_   -- 0
      refine TrC.take rfl (step_fieldAddrP rfl rfl fd42_0 rfl rfl) ?_   -- 1
      refine TrC.take rfl (step_loadP1 rfl rfl rfl ty22 rfl rfl) ?_   -- 2
      refine TrC.take rfl (step_lenT (rt := 0) rfl rfl sl22 rfl) ?_   -- 3
      refine TrC.take rfl (step_bin rfl rfl rfl rfl rfl) ?_   -- 4
      refine TrC.done ?_
      refine AT.cond rfl (fun h169 => ?_) (fun h169 => ?_)   -- t169
      · -- true
        have hlt : j < p.1.length := by have h := h169; simp at h; omega
        refine Exists.elim (show ∃ e, e = p.1[j] from ⟨_, rfl⟩) (fun e he => ?_)
        have hget : (p.1.map encA)[j]? = some (.agg [.i e.who, .b e.al, .i e.rt, .i e.rc, .b e.gv]) := by rw [List.getElem?_map, List.getElem?_eq_getElem hlt, he]; rfl
        have hin := MG_in hP hal har (a := e) (he ▸ List.getElem_mem hlt)
        refine AT.skip ?_
        refine AT.seq ?_
        refine AT.block ?_   -- block 3
        refine AT.seq ?_
        refine AT.region ?_   -- region 20 law.go:175
        refine TrC.take rfl (step_move rfl rfl rfl) ?_   -- 0
        refine TrC.take rfl (step_fieldAddrP rfl rfl fd42_0 rfl rfl) ?_   -- 1
        refine TrC.take rfl (step_loadP1 rfl rfl rfl ty22 rfl rfl) ?_   -- 2
        refine TrC.take rfl (step_move rfl rfl rfl) ?_   -- 3
        refine TrC.take rfl (step_indexAddrT (v := .agg [.i e.who, .b e.al, .i e.rt, .i e.rc, .b e.gv]) rfl rfl rfl sl22 (by omega) (by first | exact hget | simpa using hget) rfl rfl) ?_   -- 4
        refine TrC.take rfl (step_loadTN rfl rfl ty31 rfl rfl) ?_   -- 5
        refine TrC.take rfl (step_call0 rfl rfl (C31 al e (by omega)) rfl) ?_   -- 6
        refine TrC.take rfl (step_bin rfl rfl rfl rfl rfl) ?_   -- 7
        refine TrC.spell 179 rfl (bv (b := false) (dfalse hin)) ?_
        refine TrC.done ?_
        refine AT.condF rfl ?_   -- t179
        refine AT.skip ?_
        refine AT.region ?_   -- region 19 law.go:174
        refine TrC.take rfl (step_move rfl rfl rfl) ?_   -- 0
        refine TrC.take rfl (step_addI rfl rfl rfl (by first | omega | (simp; done) | (simp; omega)) (by first | omega | (simp; done) | (simp; omega)) rfl) ?_   -- 1
        refine TrC.take rfl (step_assign rfl rfl rfl) ?_   -- 2
        refine TrC.done ?_
        exact ⟨j + 1, by show j + 1 ≤ p.1.length; omega, by show p.1.length - (j + 1) < p.1.length - j; omega, Sat.wk [] (.cons (.t (.refl _)) (.cons (.t (.refl _)) (.cons (.t (.refl _)) (.cons (.t (.refl _)) (.cons (.p rfl) (.cons (.p rfl) (.cons (.t (.refl _)) (.cons (.t (.refl _)) (.cons (.t (conv_i (by simp))) (.nil)))))))))) (.cons rfl (.box (.cons (.t (.refl _)) (.cons (.t (.refl _)) (.nil)))) (.cons rfl (.box (.cons (.t (.refl _)) (.cons (.t (.refl _)) (.nil)))) (.nil))) rfl rfl⟩
      · -- false
        refine AT.exit (Or.inl ⟨rfl, ?_⟩)   -- exit 2
        refine AT.seq ?_
        refine AT.region ?_   -- region 22 law.go:179
        refine TrC.take rfl (step_fieldAddrP rfl rfl fd42_1 rfl rfl) ?_   -- 0
        refine TrC.take rfl (step_loadP1 rfl rfl rfl ty4 rfl rfl) ?_   -- 1
        refine TrC.take rfl (step_move rfl rfl rfl) ?_   -- 2
        refine TrC.take rfl (step_nebool rfl rfl rfl bo4 rfl) ?_   -- 3
        refine TrC.spell 183 rfl (bv (b := true) (by rw [hP.ok]; cases al.any (clash x) <;> rfl)) ?_
        refine TrC.take rfl (step_move rfl rfl rfl) ?_   -- 4
        refine TrC.take ⟨_, _, rfl, rfl, rfl⟩ (step_move rfl rfl rfl) ?_   -- 5
        refine TrC.take ⟨_, _, rfl, rfl, rfl⟩ (step_move rfl rfl rfl) ?_   -- 6
        refine TrC.take ⟨_, _, rfl, rfl, rfl⟩ (step_move rfl rfl rfl) ?_   -- 7
        refine TrC.take ⟨_, _, rfl, rfl, rfl⟩ (step_call0 rfl rfl ((C27 ⟨z1, z1, z3⟩ hvz1 hvz1 hvz3).eq (show _ = T.agg [.slice 5 (z3.map encA), .b true] from by rw [m_one rfl]; rfl)) rfl) ?_   -- 8
        refine TrC.take ⟨_, _, rfl, rfl, rfl⟩ (step_field1 rfl rfl fd42_0 ty22 rfl rfl) ?_   -- 9
        refine TrC.take ⟨_, _, rfl, rfl, rfl⟩ (step_move rfl rfl rfl) ?_   -- 10
        refine TrC.take ⟨_, _, rfl, rfl, rfl⟩ (step_call0 rfl rfl (C20 z3 z3 (by omega)) rfl) ?_   -- 11
        refine TrC.spell 191 rfl (bv (b := true) (by simp)) ?_
        refine TrC.take rfl (step_pick rfl rfl rfl rfl) ?_   -- 12
        refine TrC.take rfl (step_move rfl rfl rfl) ?_   -- 13
        refine TrC.take ⟨_, _, rfl, rfl, rfl⟩ (step_move rfl rfl rfl) ?_   -- 14
        refine TrC.take ⟨_, _, rfl, rfl, rfl⟩ (step_move rfl rfl rfl) ?_   -- 15
        refine TrC.take ⟨_, _, rfl, rfl, rfl⟩ (step_move rfl rfl rfl) ?_   -- 16
        refine TrC.take ⟨_, _, rfl, rfl, rfl⟩ (step_call0 rfl rfl ((C27 ⟨z1, z2, z1⟩ hvz1 hvz2 hvz1).eq (show _ = T.agg [.slice 5 (z2.map encA), .b true] from by rw [merge_back]; rfl)) rfl) ?_   -- 17
        refine TrC.take ⟨_, _, rfl, rfl, rfl⟩ (step_field1 rfl rfl fd42_0 ty22 rfl rfl) ?_   -- 18
        refine TrC.take ⟨_, _, rfl, rfl, rfl⟩ (step_move rfl rfl rfl) ?_   -- 19
        refine TrC.take ⟨_, _, rfl, rfl, rfl⟩ (step_call0 rfl rfl (C20 z2 z2 (by omega)) rfl) ?_   -- 20
        refine TrC.spell 200 rfl (bv (b := true) (by simp)) ?_
        refine TrC.take rfl (step_pick rfl rfl rfl rfl) ?_   -- 21
        refine TrC.take rfl (step_move rfl rfl rfl) ?_   -- 22
        refine TrC.take ⟨_, _, rfl, rfl, rfl⟩ (step_move rfl rfl rfl) ?_   -- 23
        refine TrC.take rfl (step_pick rfl rfl rfl rfl) ?_   -- 24
        refine TrC.take rfl (step_assign rfl rfl rfl) ?_   -- 25
        refine TrC.done ?_
        refine AT.ret ?_
        exact Ret.one rfl (ResR.tmp rfl (conv_b rfl))

end Go.Proofs.Ytgblfhobiibeaaa.Acl

/- AclMerge: from the function's contract to arguments as they come. No condition. -/
set_option linter.unusedVariables false
namespace Go.Proofs.Ytgblfhobiibeaaa.aclMerge
open Go.Proofs.Ytgblfhobiibeaaa.Abs Go.Proofs.Ytgblfhobiibeaaa.Acl Go.RowKit
theorem AclMerge_has (x0 : T) (f0 : Fits Try.prog 24 x0.cells) (a0 : (∃ l, x0 = .agg l) ↔ (partsOf Try.prog 24).isSome = true) : Has Try.prog 8 [x0] (.b true) := by
  obtain ⟨m1, m2, m3, rfl, hb1, hb2, hb3⟩ := fit24 f0 a0 (ts := 23) (e := 45) (by kernel_rfl) (by kernel_rfl) (by kernel_rfl) (by kernel_rfl) (by kernel_rfl) (by kernel_rfl)
  exact C8 m1 m2 m3 hb1 hb2 hb3
end Go.Proofs.Ytgblfhobiibeaaa.aclMerge

/- The statement AclMergeSaid is proved here: the law's function returns true for all its arguments and panics for none. No condition. -/
namespace Go.Proofs.Ytgblfhobiibeaaa.aclMerge
open Go.ChangeShapes Go.WideShapes Go.ChangeAt Go.RowKit
open Go.Proofs.Ytgblfhobiibeaaa.Abs
set_option linter.unusedVariables false
theorem own : ownKnob Try.prog.godebug = none := by kernel_rfl
theorem laidOut : laidOutB Try.prog = true := by kernel_rfl
set_option maxRecDepth 100000 in
theorem lifted (os : Os) (started : os.Started) (H : Type) (enc : TypeId × Value → H) :
    ReturnsInHanded {} Try.checked os 8 .any (Rows.aclMergeSpec.pre6 enc Try.prog Try.f8 Rows.aclMergeRow.domain false) (Rows.aclMergeSpec.post enc Try.prog Try.f8 false true false false) := by
  refine returnsInHanded_of_change_sized (C := Try.checked) own started (by kernel_rfl) Try.func8
    (ChangeSpec.witness6 (enc := enc) (C := Try.checked) false ⟨#[], #[.agg #[.slice none 0 0, .slice none 0 0, .slice none 0 0]], []⟩ 8 (by kernel_rfl) (by kernel_rfl) (by kernel_rfl) (by kernel_rfl)) ?_
  intro W base args ds gs before hval0 hW hcnd hsz0 _
  have hval : ∀ (j : Nat) t v, Try.f8.params[j]? = some t → args[j]? = some v → Value.okWide Try.prog W .any base t v := hval0
  have hW' := hW
  obtain ⟨p, q, hA0, hV, rfl, hfz, hnd⟩ := hW
  have hA : DataW.TrodAll enc Try.prog W 0 (fun _ => true) true Try.f8.params.toList args.toList ds p := hA0
  rw [show Try.f8.params = #[24] from by kernel_rfl] at hA hval
  obtain ⟨v0, vs0, d0, ds0, p0, q0, hargs, rfl, rfl, h0, r0⟩ := trodAll_cons hA
  obtain ⟨rfl, rfl, rfl⟩ := trodAll_nil r0
  obtain rfl : args = #[v0] := by cases args; simp_all
  obtain ⟨rfl, rfl⟩ := trodVars_none hV
  have lt0 : ∀ x ∈ p0, x.block < W.heap.size := by obtain ⟨m, hm⟩ := h0; exact DataW.trod_lt m _ _ _ hm
  obtain ⟨x0, rd0, ft0, ag0⟩ := Trod_reads 8 (by kernel_rfl) (hval 0 24 v0 rfl rfl) h0
  have hh := AclMerge_has x0 ft0 ag0
  refine (hh.2 W (okW W) #[v0] (fun _ h => h) rfl ?_).mono fun e W' hx => ?_
  · intro i h1 h2
    rcases i with _ | i; exact rd0; simp at h1 <;> omega
  · obtain ⟨v, he, hr, bel⟩ := hx
    subst he
    cases hr with
    | v _ =>
      exact ⟨_, rfl, _, _, _, [], _, [], hW', trodAll_mk1 (shut_bool (show Try.prog.underlying 4 = some .bool by kernel_rfl) _), (trodAll_cons_mk (Below.trod laidOut (by kernel_rfl) (of_decide_eq_true (by kernel_rfl)) h0 bel lt0) trodAll_mk0), rfl, bel.frame _, fun h => by cases h⟩
theorem over : Rows.aclMergeRow.holds Try.pinned (OpenSpec.ofChange Rows.aclMergeSpec) :=
  OpenClaim.holds_of_wide 8 Try.f8 rfl rfl rfl rfl rfl rfl rfl ⟨rfl, rfl, rfl, rfl, rfl⟩ rfl rfl rfl rfl rfl (by kernel_rfl) Try.func8 (by kernel_rfl)
    (of_decide_eq_true (by kernel_rfl)) (by unfold Func.isWrapper; first | (rw [if_pos (by decide +kernel)]; kernel_rfl) | (rw [if_neg (by decide +kernel)]; exact ⟨rfl, rfl⟩))
    (fun os started H enc _ => lifted os started H enc)
theorem proved : Rows.AclMergeSaid := over
#print axioms proved
end Go.Proofs.Ytgblfhobiibeaaa.aclMerge
namespace Go.Proofs.Ytgblfhobiibeaaa
/-- The row, under a short name, for the claim. -/
theorem aclMerge_holds : Rows.AclMergeSaid := aclMerge.proved
end Go.Proofs.Ytgblfhobiibeaaa

