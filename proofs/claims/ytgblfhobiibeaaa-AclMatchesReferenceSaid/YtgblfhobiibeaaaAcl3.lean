/- Parts of this proof, one after the other; each says what it proves. No condition. -/
import Derived.Test.YtgblfhobiibeaaaMG
import Derived.Test.YtgblfhobiibeaaaMD
import Derived.Test.YtgblfhobiibeaaaMF
import Derived.Test.YtgblfhobiibeaaaRows
import Derived.Test.YtgblfhobiibeaaaMC
import Derived.WalkKit
import Derived.ProofKit
import Derived.OpenShut
import Derived.ShutString
import Derived.ChangeOld
import Derived.Below
import Derived.Carry
import Derived.SizedLaws
/- Contracts of functions of this translation. Printed by wip/tools/gen.py out of wip/acl/ann.py. No condition. -/
set_option linter.unusedVariables false
set_option linter.unusedSimpArgs false
namespace Go.Proofs.Ytgblfhobiibeaaa.Acl
open Go.Proofs.Ytgblfhobiibeaaa.Abs
set_option maxRecDepth 100000
set_option maxHeartbeats 4000000
theorem C3 (l0 : List Ace) (m1 m2 m3 : List (Int × Int × Int)) (hb1 : ∀ x ∈ m1, (0 ≤ x.1 ∧ x.1 ≤ 255) ∧ (0 ≤ x.2.1 ∧ x.2.1 ≤ 255) ∧ (0 ≤ x.2.2 ∧ x.2.2 ≤ 255)) (hb2 : ∀ x ∈ m2, (0 ≤ x.1 ∧ x.1 ≤ 255) ∧ (0 ≤ x.2.1 ∧ x.2.1 ≤ 255) ∧ (0 ≤ x.2.2 ∧ x.2.2 ≤ 255)) (hb3 : ∀ x ∈ m3, (0 ≤ x.1 ∧ x.1 ≤ 255) ∧ (0 ≤ x.2.1 ∧ x.2.1 ≤ 255) ∧ (0 ≤ x.2.2 ∧ x.2.2 ≤ 255)) (w0 w1 w2 w3 : Int) : Has Try.prog 3 [.slice 5 (l0.map encA), .agg [.slice 3 (m1.map encB), .slice 3 (m2.map encB), .slice 3 (m3.map encB)], .agg [.i w0, .i w1, .i w2, .i w3]] (.b true) := by   -- burgage/burgagelaw02.AclMatchesReference
  refine Exists.elim (show ∃ z0, z0 = l0.take 20 from ⟨_, rfl⟩) (fun z0 hz0 => ?_)
  have hlz0 : z0.length ≤ 20 := by rw [hz0]; exact List.length_take_le 20 l0
  refine Exists.elim (show ∃ z1, z1 = listA m1 from ⟨_, rfl⟩) (fun z1 hz1 => ?_)
  have hvz1 : VL z1 := hz1 ▸ listA_VL m1
  have hlz1 : z1.length ≤ 12 := hz1 ▸ (listA_len m1).1
  refine Exists.elim (show ∃ z2, z2 = listA m2 from ⟨_, rfl⟩) (fun z2 hz2 => ?_)
  have hvz2 : VL z2 := hz2 ▸ listA_VL m2
  have hlz2 : z2.length ≤ 12 := hz2 ▸ (listA_len m2).1
  refine Exists.elim (show ∃ z3, z3 = listA m3 from ⟨_, rfl⟩) (fun z3 hz3 => ?_)
  have hvz3 : VL z3 := hz3 ▸ listA_VL m3
  have hlz3 : z3.length ≤ 12 := hz3 ▸ (listA_len m3).1
  refine Exists.elim (show ∃ Ls, Ls = [z0, z1, z2, z3] from ⟨_, rfl⟩) (fun Ls hLs => ?_)
  have hLs4 : Ls.length = 4 := by rw [hLs]; rfl
  have hLa : ∀ s ∈ Ls, s.length ≤ 20 := by rw [hLs]; simp; omega
  refine Exists.elim (show ∃ e, e = (⟨w0, decide (w1.tmod 2 = 0), w2, w3, false⟩ : Ace) from ⟨_, rfl⟩) (fun e he => ?_)
  refine Exists.elim (show ∃ x, x = (⟨z1, z2, z3⟩ : Tri) from ⟨_, rfl⟩) (fun x hx => ?_)
  have hxb : VL x.base := hx ▸ hvz1
  have hxm : VL x.mine := hx ▸ hvz2
  have hxt : VL x.theirs := hx ▸ hvz3
  have hml := merge_len hxm hxt
  refine Has.intro 194 Try.func3 (by kernel_rfl) rfl rfl fun w ok => ?_
  refine AT.seq ?_
  refine AT.region ?_   -- region 0 law.go:33
  refine TrC.take rfl (step_box rfl rfl rfl rfl rfl rfl rfl) ?_   -- 0
  refine TrC.take rfl (step_box rfl rfl rfl rfl rfl rfl rfl) ?_   -- 1
  refine TrC.take rfl (step_assign rfl rfl rfl) ?_   -- 2
  refine TrC.done ?_
  refine AT.seq ?_
  refine AT.region ?_   -- region 1 law.go:34
  refine TrC.take rfl (step_call0 rfl rfl (C10) rfl) ?_   -- 0
  refine TrC.spell 18 rfl (bv (b := true) (rfl)) ?_
  refine TrC.take rfl (step_assign rfl rfl rfl) ?_   -- 1
  refine TrC.done ?_
  refine AT.seq ?_
  refine AT.regionD mixed rfl ?_   -- region 2 law.go:35
  refine TrC.take rfl (step_move rfl rfl rfl) ?_   -- 0
  refine TrC.take rfl (step_call0 rfl rfl ((C11 l0).eq (congrArg (fun l : List Ace => T.slice 5 (l.map encA)) hz0.symm)) rfl) ?_   -- 1
  refine TrC.take rfl (step_indexAddrP rfl rfl rfl ar24 (by decide) (by decide) rfl) ?_   -- 2
  refine TrC.take rfl (step_loadP1 rfl rfl rfl ty23 rfl rfl) ?_   -- 3
  refine TrC.take rfl (step_call0 rfl rfl ((C12 m1 hb1).eq (congrArg (fun l : List Ace => T.slice 5 (l.map encA)) hz1.symm)) rfl) ?_   -- 4
  refine TrC.take rfl (step_indexAddrP rfl rfl rfl ar24 (by decide) (by decide) rfl) ?_   -- 5
  refine TrC.take rfl (step_loadP1 rfl rfl rfl ty23 rfl rfl) ?_   -- 6
  refine TrC.take rfl (step_call0 rfl rfl ((C12 m2 hb2).eq (congrArg (fun l : List Ace => T.slice 5 (l.map encA)) hz2.symm)) rfl) ?_   -- 7
  refine TrC.take rfl (step_indexAddrP rfl rfl rfl ar24 (by decide) (by decide) rfl) ?_   -- 8
  refine TrC.take rfl (step_loadP1 rfl rfl rfl ty23 rfl rfl) ?_   -- 9
  refine TrC.take rfl (step_call0 rfl rfl ((C12 m3 hb3).eq (congrArg (fun l : List Ace => T.slice 5 (l.map encA)) hz3.symm)) rfl) ?_   -- 10
  refine TrC.take rfl (step_buildSliceT rfl sl29 ze22 rfl rfl rfl rfl rfl rfl rfl rfl rfl rfl rfl rfl) ?_   -- 11
  refine TrC.take rfl (step_assign rfl rfl rfl) ?_   -- 12
  refine TrC.doneD rfl ?_
  refine AT.seq ?_
  refine AT.region ?_   -- region 3 law.go:36
  refine TrC.take rfl (step_indexAddrP rfl rfl rfl ar25 (by decide) (by decide) rfl) ?_   -- 0
  refine TrC.take rfl (step_loadP1 rfl rfl rfl ty3 rfl rfl) ?_   -- 1
  refine TrC.take rfl (step_indexAddrP rfl rfl rfl ar25 (by decide) (by decide) rfl) ?_   -- 2
  refine TrC.take rfl (step_loadP1 rfl rfl rfl ty3 rfl rfl) ?_   -- 3
  first | refine TrC.take rfl (step_remI rfl rfl rfl (by omega) (by first | omega | (simp; done) | (simp; omega)) rfl) ?_ | refine TrC.take rfl (step_bin rfl rfl rfl rfl rfl) ?_   -- 4
  refine TrC.take rfl (step_bin rfl rfl rfl rfl rfl) ?_   -- 5
  refine TrC.take rfl (step_indexAddrP rfl rfl rfl ar25 (by decide) (by decide) rfl) ?_   -- 6
  refine TrC.take rfl (step_loadP1 rfl rfl rfl ty3 rfl rfl) ?_   -- 7
  refine TrC.take rfl (step_indexAddrP rfl rfl rfl ar25 (by decide) (by decide) rfl) ?_   -- 8
  refine TrC.take rfl (step_loadP1 rfl rfl rfl ty3 rfl rfl) ?_   -- 9
  refine TrC.take rfl (step_buildS rfl ze31 rfl pl31 rfl rfl rfl rfl) ?_   -- 10
  refine TrC.take rfl (step_alloc rfl rfl ze31 rfl rfl rfl) ?_   -- 11
  refine TrC.take rfl (step_storeP rfl rfl rfl rfl rfl (.inl rfl) ty31 rfl rfl rfl) ?_   -- 12
  refine TrC.done ?_
  refine AT.seq ?_
  refine AT.seq ?_
  refine AT.region ?_   -- region 4 law.go:37
  refine TrC.take rfl (step_assign rfl rfl rfl) ?_   -- 0
  refine TrC.done ?_
  refine AT.block ?_   -- block 0
  refine AT.loopP (fun i : Nat => i ≤ 4) (fun i => mkS [(5, .p 5 0), (7, .t (.b true)), (8, .t (.slice 1 (Ls.map (fun l : List Ace => T.slice 5 (l.map encA))))), (9, .p 9 0), (10, .t (.i i))] [(5, .box 25 [.t (.i w0), .t (.i w1), .t (.i w2), .t (.i w3)]), (9, .box 31 [.t (.i e.who), .t (.b e.al), .t (.i e.rt), .t (.i e.rc), .t (.b e.gv)])]) (fun i => 4 - i) (0) (by omega) (fun a w hs => Sat.wk [] (.cons (.p rfl) (.cons (.t (.refl _)) (.cons (.t (conv_eq (by rw [hLs]; rfl))) (.cons (.p rfl) (.cons (.t (.refl _)) (.nil)))))) (.cons rfl (.box (.cons (.t (.refl _)) (.cons (.t (.refl _)) (.cons (.t (.refl _)) (.cons (.t (.refl _)) (.nil)))))) (.cons rfl (.box (.cons (.t (conv_i (by subst he; rfl))) (.cons (.t (conv_b (by subst he; rfl))) (.cons (.t (conv_i (by subst he; rfl))) (.cons (.t (conv_i (by subst he; rfl))) (.cons (.t (conv_b (by subst he; rfl))) (.nil))))))) (.nil))) rfl rfl a w hs) (fun i hi => ?_)
  refine AT.seq ?_
  refine AT.seq ?_
  refine AT.region ?_   -- region 5 law.go:37
  refine TrC.take rfl (step_move rfl rfl rfl) ?_   -- 0
  refine TrC.take rfl (step_bin rfl rfl rfl rfl rfl) ?_   -- 1
  refine TrC.done ?_
  refine AT.cond rfl (fun h43 => ?_) (fun h43 => ?_)   -- t43
  · -- true
    have hlt : i < Ls.length := by have h := h43; simp at h; omega
    refine Exists.elim (show ∃ s, s = Ls[i] from ⟨_, rfl⟩) (fun s hs => ?_)
    have hget : (Ls.map (fun l : List Ace => T.slice 5 (l.map encA)))[i]? = some (.slice 5 (s.map encA)) := by rw [List.getElem?_map, List.getElem?_eq_getElem hlt, hs]; rfl
    have hsl : s.length ≤ 20 := hs ▸ hLa _ (List.getElem_mem hlt)
    have hcl := child_len s true
    have hcl2 := child_len s false
    have hpl := put_len s e
    have hal := again_len s z1 (decide (w0.tmod 2 = 0))
    refine AT.skip ?_
    refine AT.seq ?_
    refine AT.block ?_   -- block 1
    refine AT.seq ?_
    refine AT.region ?_   -- region 7 law.go:38
    refine TrC.take rfl (step_move rfl rfl rfl) ?_   -- 0
    refine TrC.take rfl (step_move rfl rfl rfl) ?_   -- 1
    refine TrC.take rfl (step_indexAddrT (v := .slice 5 (s.map encA)) rfl rfl rfl sl29 (by first | omega | decide) (by first | exact hget | rfl) rfl rfl) ?_   -- 2
    refine TrC.take rfl (step_loadT1 rfl rfl ty22 rfl rfl) ?_   -- 3
    refine TrC.take rfl (step_assign rfl rfl rfl) ?_   -- 4
    refine TrC.done ?_
    refine AT.seq ?_
    refine AT.seq ?_
    refine AT.regionD mixed rfl ?_   -- region 8 law.go:39
    refine TrC.take rfl (step_move rfl rfl rfl) ?_   -- 0
    refine TrC.take rfl (step_call0 rfl rfl (C13 s (by omega)) rfl) ?_   -- 1
    refine TrC.take rfl (step_move rfl rfl rfl) ?_   -- 2
    refine TrC.take rfl (step_call0 rfl rfl (C14 s (by omega)) rfl) ?_   -- 3
    refine TrC.take rfl (step_nebool rfl rfl rfl bo4 rfl) ?_   -- 4
    refine TrC.spell 54 rfl (bv (b := false) (by simp)) ?_
    refine TrC.take rfl (step_move rfl rfl rfl) ?_   -- 5
    refine TrC.take ⟨_, _, rfl, rfl, rfl⟩ (step_move rfl rfl rfl) ?_   -- 6
    refine TrC.take ⟨_, _, rfl, rfl, rfl⟩ (step_indexAddrP rfl rfl rfl ar25 (by decide) (by decide) rfl) ?_   -- 7
    refine TrC.take ⟨_, _, rfl, rfl, rfl⟩ (step_loadP1 rfl rfl rfl ty3 rfl rfl) ?_   -- 8
    refine TrC.take ⟨_, _, rfl, rfl, rfl⟩ (step_indexAddrP rfl rfl rfl ar25 (by decide) (by decide) rfl) ?_   -- 9
    refine TrC.take ⟨_, _, rfl, rfl, rfl⟩ (step_loadP1 rfl rfl rfl ty3 rfl rfl) ?_   -- 10
    refine TrC.take ⟨_, _, rfl, rfl, rfl⟩ (step_call0 rfl rfl (C15 s w0 w1 (by omega)) rfl) ?_   -- 11
    refine TrC.take ⟨_, _, rfl, rfl, rfl⟩ (step_move rfl rfl rfl) ?_   -- 12
    refine TrC.take ⟨_, _, rfl, rfl, rfl⟩ (step_indexAddrP rfl rfl rfl ar25 (by decide) (by decide) rfl) ?_   -- 13
    refine TrC.take ⟨_, _, rfl, rfl, rfl⟩ (step_loadP1 rfl rfl rfl ty3 rfl rfl) ?_   -- 14
    refine TrC.take ⟨_, _, rfl, rfl, rfl⟩ (step_indexAddrP rfl rfl rfl ar25 (by decide) (by decide) rfl) ?_   -- 15
    refine TrC.take ⟨_, _, rfl, rfl, rfl⟩ (step_loadP1 rfl rfl rfl ty3 rfl rfl) ?_   -- 16
    refine TrC.take ⟨_, _, rfl, rfl, rfl⟩ (step_call0 rfl rfl (C16 s w0 w1 (by omega)) rfl) ?_   -- 17
    refine TrC.take ⟨_, _, rfl, rfl, rfl⟩ (step_bin rfl rfl rfl rfl rfl) ?_   -- 18
    refine TrC.spell 68 rfl (bv (b := false) (by simp)) ?_
    refine TrC.take rfl (step_pick rfl rfl rfl rfl) ?_   -- 19
    refine TrC.take rfl (step_move rfl rfl rfl) ?_   -- 20
    refine TrC.take ⟨_, _, rfl, rfl, rfl⟩ (step_move rfl rfl rfl) ?_   -- 21
    refine TrC.take ⟨_, _, rfl, rfl, rfl⟩ (step_indexAddrP rfl rfl rfl ar25 (by decide) (by decide) rfl) ?_   -- 22
    refine TrC.take ⟨_, _, rfl, rfl, rfl⟩ (step_loadP1 rfl rfl rfl ty3 rfl rfl) ?_   -- 23
    refine TrC.take ⟨_, _, rfl, rfl, rfl⟩ (step_indexAddrP rfl rfl rfl ar25 (by decide) (by decide) rfl) ?_   -- 24
    refine TrC.take ⟨_, _, rfl, rfl, rfl⟩ (step_loadP1 rfl rfl rfl ty3 rfl rfl) ?_   -- 25
    refine TrC.take ⟨_, _, rfl, rfl, rfl⟩ (step_indexAddrP rfl rfl rfl ar25 (by decide) (by decide) rfl) ?_   -- 26
    refine TrC.take ⟨_, _, rfl, rfl, rfl⟩ (step_loadP1 rfl rfl rfl ty3 rfl rfl) ?_   -- 27
    refine TrC.take ⟨_, _, rfl, rfl, rfl⟩ (step_call0 rfl rfl (C17 s w0 w1 w2 (by omega)) rfl) ?_   -- 28
    refine TrC.take ⟨_, _, rfl, rfl, rfl⟩ (step_move rfl rfl rfl) ?_   -- 29
    refine TrC.take ⟨_, _, rfl, rfl, rfl⟩ (step_indexAddrP rfl rfl rfl ar25 (by decide) (by decide) rfl) ?_   -- 30
    refine TrC.take ⟨_, _, rfl, rfl, rfl⟩ (step_loadP1 rfl rfl rfl ty3 rfl rfl) ?_   -- 31
    refine TrC.take ⟨_, _, rfl, rfl, rfl⟩ (step_indexAddrP rfl rfl rfl ar25 (by decide) (by decide) rfl) ?_   -- 32
    refine TrC.take ⟨_, _, rfl, rfl, rfl⟩ (step_loadP1 rfl rfl rfl ty3 rfl rfl) ?_   -- 33
    refine TrC.take ⟨_, _, rfl, rfl, rfl⟩ (step_indexAddrP rfl rfl rfl ar25 (by decide) (by decide) rfl) ?_   -- 34
    refine TrC.take ⟨_, _, rfl, rfl, rfl⟩ (step_loadP1 rfl rfl rfl ty3 rfl rfl) ?_   -- 35
    refine TrC.take ⟨_, _, rfl, rfl, rfl⟩ (step_call0 rfl rfl (C18 s w0 w1 w2 (by omega)) rfl) ?_   -- 36
    refine TrC.take ⟨_, _, rfl, rfl, rfl⟩ (step_nebool rfl rfl rfl bo4 rfl) ?_   -- 37
    refine TrC.spell 87 rfl (bv (b := false) (by simp)) ?_
    refine TrC.take rfl (step_pick rfl rfl rfl rfl) ?_   -- 38
    refine TrC.take rfl (step_move rfl rfl rfl) ?_   -- 39
    refine TrC.take ⟨_, _, rfl, rfl, rfl⟩ (step_move rfl rfl rfl) ?_   -- 40
    refine TrC.take ⟨_, _, rfl, rfl, rfl⟩ (step_move rfl rfl rfl) ?_   -- 41
    refine TrC.take ⟨_, _, rfl, rfl, rfl⟩ (step_indexAddrT (v := .slice 5 (z0.map encA)) rfl rfl rfl sl29 (by decide) (by rw [hLs]; rfl) rfl rfl) ?_   -- 42
    refine TrC.take ⟨_, _, rfl, rfl, rfl⟩ (step_loadT1 rfl rfl ty22 rfl rfl) ?_   -- 43
    refine TrC.take ⟨_, _, rfl, rfl, rfl⟩ (step_call0 rfl rfl (C19 s z0 (by omega)) rfl) ?_   -- 44
    refine TrC.take ⟨_, _, rfl, rfl, rfl⟩ (step_move rfl rfl rfl) ?_   -- 45
    refine TrC.take ⟨_, _, rfl, rfl, rfl⟩ (step_move rfl rfl rfl) ?_   -- 46
    refine TrC.take ⟨_, _, rfl, rfl, rfl⟩ (step_indexAddrT (v := .slice 5 (z0.map encA)) rfl rfl rfl sl29 (by decide) (by rw [hLs]; rfl) rfl rfl) ?_   -- 47
    refine TrC.take ⟨_, _, rfl, rfl, rfl⟩ (step_loadT1 rfl rfl ty22 rfl rfl) ?_   -- 48
    refine TrC.take ⟨_, _, rfl, rfl, rfl⟩ (step_call0 rfl rfl (C20 s z0 (by omega)) rfl) ?_   -- 49
    refine TrC.take ⟨_, _, rfl, rfl, rfl⟩ (step_nebool rfl rfl rfl bo4 rfl) ?_   -- 50
    refine TrC.spell 100 rfl (bv (b := false) (by simp)) ?_
    refine TrC.take rfl (step_pick rfl rfl rfl rfl) ?_   -- 51
    refine TrC.doneD rfl ?_
    refine AT.condF rfl ?_   -- t101
    refine AT.skip ?_
    refine AT.seq ?_
    refine AT.seq ?_
    refine AT.regionD mixed rfl ?_   -- region 10 law.go:42
    refine TrC.take rfl (step_move rfl rfl rfl) ?_   -- 0
    refine TrC.take rfl (step_call0 rfl rfl (C21 s true (by omega)) rfl) ?_   -- 1
    refine TrC.take rfl (step_move rfl rfl rfl) ?_   -- 2
    refine TrC.take rfl (step_call0 rfl rfl (C22 s true (by omega)) rfl) ?_   -- 3
    refine TrC.take rfl (step_call0 rfl rfl (C20 (child s true) (child s true) (by omega)) rfl) ?_   -- 4
    refine TrC.spell 106 rfl (bv (b := true) (by simp)) ?_
    refine TrC.take rfl (step_not rfl rfl rfl) ?_   -- 5
    refine TrC.take rfl (step_move rfl rfl rfl) ?_   -- 6
    refine TrC.take ⟨_, _, rfl, rfl, rfl⟩ (step_move rfl rfl rfl) ?_   -- 7
    refine TrC.take ⟨_, _, rfl, rfl, rfl⟩ (step_call0 rfl rfl (C21 s false (by omega)) rfl) ?_   -- 8
    refine TrC.take ⟨_, _, rfl, rfl, rfl⟩ (step_move rfl rfl rfl) ?_   -- 9
    refine TrC.take ⟨_, _, rfl, rfl, rfl⟩ (step_call0 rfl rfl (C22 s false (by omega)) rfl) ?_   -- 10
    refine TrC.take ⟨_, _, rfl, rfl, rfl⟩ (step_call0 rfl rfl (C20 (child s false) (child s false) (by omega)) rfl) ?_   -- 11
    refine TrC.spell 113 rfl (bv (b := true) (by simp)) ?_
    refine TrC.take ⟨_, _, rfl, rfl, rfl⟩ (step_not rfl rfl rfl) ?_   -- 12
    refine TrC.take rfl (step_pick rfl rfl rfl rfl) ?_   -- 13
    refine TrC.take rfl (step_move rfl rfl rfl) ?_   -- 14
    refine TrC.take ⟨_, _, rfl, rfl, rfl⟩ (step_move rfl rfl rfl) ?_   -- 15
    refine TrC.take ⟨_, _, rfl, rfl, rfl⟩ (step_move rfl rfl rfl) ?_   -- 16
    refine TrC.take ⟨_, _, rfl, rfl, rfl⟩ (step_indexAddrT (v := .slice 5 (z1.map encA)) rfl rfl rfl sl29 (by decide) (by rw [hLs]; rfl) rfl rfl) ?_   -- 17
    refine TrC.take ⟨_, _, rfl, rfl, rfl⟩ (step_loadT1 rfl rfl ty22 rfl rfl) ?_   -- 18
    refine TrC.take ⟨_, _, rfl, rfl, rfl⟩ (step_indexAddrP rfl rfl rfl ar25 (by decide) (by decide) rfl) ?_   -- 19
    refine TrC.take ⟨_, _, rfl, rfl, rfl⟩ (step_loadP1 rfl rfl rfl ty3 rfl rfl) ?_   -- 20
    first | refine TrC.take ⟨_, _, rfl, rfl, rfl⟩ (step_remI rfl rfl rfl (by omega) (by first | omega | (simp; done) | (simp; omega)) rfl) ?_ | refine TrC.take ⟨_, _, rfl, rfl, rfl⟩ (step_bin rfl rfl rfl rfl rfl) ?_   -- 21
    refine TrC.take ⟨_, _, rfl, rfl, rfl⟩ (step_bin rfl rfl rfl rfl rfl) ?_   -- 22
    refine TrC.take ⟨_, _, rfl, rfl, rfl⟩ (step_call0 rfl rfl (C23 s z1 (decide (w0.tmod 2 = 0)) (by omega) (by omega)) rfl) ?_   -- 23
    refine TrC.take ⟨_, _, rfl, rfl, rfl⟩ (step_move rfl rfl rfl) ?_   -- 24
    refine TrC.take ⟨_, _, rfl, rfl, rfl⟩ (step_move rfl rfl rfl) ?_   -- 25
    refine TrC.take ⟨_, _, rfl, rfl, rfl⟩ (step_indexAddrT (v := .slice 5 (z1.map encA)) rfl rfl rfl sl29 (by decide) (by rw [hLs]; rfl) rfl rfl) ?_   -- 26
    refine TrC.take ⟨_, _, rfl, rfl, rfl⟩ (step_loadT1 rfl rfl ty22 rfl rfl) ?_   -- 27
    refine TrC.take ⟨_, _, rfl, rfl, rfl⟩ (step_indexAddrP rfl rfl rfl ar25 (by decide) (by decide) rfl) ?_   -- 28
    refine TrC.take ⟨_, _, rfl, rfl, rfl⟩ (step_loadP1 rfl rfl rfl ty3 rfl rfl) ?_   -- 29
    first | refine TrC.take ⟨_, _, rfl, rfl, rfl⟩ (step_remI rfl rfl rfl (by omega) (by first | omega | (simp; done) | (simp; omega)) rfl) ?_ | refine TrC.take ⟨_, _, rfl, rfl, rfl⟩ (step_bin rfl rfl rfl rfl rfl) ?_   -- 30
    refine TrC.take ⟨_, _, rfl, rfl, rfl⟩ (step_bin rfl rfl rfl rfl rfl) ?_   -- 31
    refine TrC.take ⟨_, _, rfl, rfl, rfl⟩ (step_call0 rfl rfl (C24 s z1 (decide (w0.tmod 2 = 0)) (by omega) (by omega)) rfl) ?_   -- 32
    refine TrC.take ⟨_, _, rfl, rfl, rfl⟩ (step_call0 rfl rfl (C20 (own s false ++ child z1 (decide (w0.tmod 2 = 0))) (own s false ++ child z1 (decide (w0.tmod 2 = 0))) (by omega)) rfl) ?_   -- 33
    refine TrC.spell 135 rfl (bv (b := true) (by simp)) ?_
    refine TrC.take ⟨_, _, rfl, rfl, rfl⟩ (step_not rfl rfl rfl) ?_   -- 34
    refine TrC.take rfl (step_pick rfl rfl rfl rfl) ?_   -- 35
    refine TrC.doneD rfl ?_
    refine AT.condF rfl ?_   -- t137
    refine AT.skip ?_
    refine AT.seq ?_
    refine AT.region ?_   -- region 12 law.go:45
    refine TrC.take rfl (step_move rfl rfl rfl) ?_   -- 0
    refine TrC.take rfl (step_loadPN rfl rfl rfl ty31 rfl rfl rfl) ?_   -- 1
    refine TrC.take rfl (step_call0 rfl rfl (C25 s e (by omega)) rfl) ?_   -- 2
    refine TrC.take rfl (step_move rfl rfl rfl) ?_   -- 3
    refine TrC.take rfl (step_extract rfl rfl rfl rfl) ?_   -- 4
    refine TrC.take rfl (step_extract rfl rfl rfl rfl) ?_   -- 5
    refine TrC.take rfl (step_assign rfl rfl rfl) ?_   -- 6
    refine TrC.take rfl (step_assign rfl rfl rfl) ?_   -- 7
    refine TrC.done ?_
    refine AT.seq ?_
    refine AT.region ?_   -- region 13 law.go:46
    refine TrC.take rfl (step_move rfl rfl rfl) ?_   -- 0
    refine TrC.take rfl (step_loadPN rfl rfl rfl ty31 rfl rfl rfl) ?_   -- 1
    refine TrC.take rfl (step_call0 rfl rfl (C26 s e (by omega)) rfl) ?_   -- 2
    refine TrC.take rfl (step_move rfl rfl rfl) ?_   -- 3
    refine TrC.take rfl (step_extract rfl rfl rfl rfl) ?_   -- 4
    refine TrC.take rfl (step_extract rfl rfl rfl rfl) ?_   -- 5
    refine TrC.take rfl (step_assign rfl rfl rfl) ?_   -- 6
    refine TrC.take rfl (step_assign rfl rfl rfl) ?_   -- 7
    refine TrC.done ?_
    refine AT.seq ?_
    refine AT.region ?_   -- region 14 law.go:47
    refine TrC.take rfl (step_move rfl rfl rfl) ?_   -- 0
    refine TrC.take rfl (step_move rfl rfl rfl) ?_   -- 1
    refine TrC.take rfl (step_call0 rfl rfl (C20 (put s e).1 (put s e).1 (by omega)) rfl) ?_   -- 2
    refine TrC.spell 152 rfl (bv (b := true) (by simp)) ?_
    refine TrC.take rfl (step_not rfl rfl rfl) ?_   -- 3
    refine TrC.take rfl (step_move rfl rfl rfl) ?_   -- 4
    refine TrC.take ⟨_, _, rfl, rfl, rfl⟩ (step_move rfl rfl rfl) ?_   -- 5
    refine TrC.take ⟨_, _, rfl, rfl, rfl⟩ (step_move rfl rfl rfl) ?_   -- 6
    refine TrC.take ⟨_, _, rfl, rfl, rfl⟩ (step_bin rfl rfl rfl rfl rfl) ?_   -- 7
    refine TrC.spell 157 rfl (bv (b := false) (by simp)) ?_
    refine TrC.take rfl (step_pick rfl rfl rfl rfl) ?_   -- 8
    refine TrC.done ?_
    refine AT.condF rfl ?_   -- t158
    refine AT.skip ?_
    refine AT.region ?_   -- region 6 law.go:37
    refine TrC.take rfl (step_move rfl rfl rfl) ?_   -- 0
    refine TrC.take rfl (step_addI rfl rfl rfl (by first | omega | (simp; done) | (simp; omega)) (by first | omega | (simp; done) | (simp; omega)) rfl) ?_   -- 1
    refine TrC.take rfl (step_assign rfl rfl rfl) ?_   -- 2
    refine TrC.done ?_
    exact ⟨i + 1, by show i + 1 ≤ 4; omega, by show 4 - (i + 1) < 4 - i; omega, Sat.wk [] (.cons (.p rfl) (.cons (.t (.refl _)) (.cons (.t (.refl _)) (.cons (.p rfl) (.cons (.t (conv_i (by simp))) (.nil)))))) (.cons rfl (.box (.cons (.t (.refl _)) (.cons (.t (.refl _)) (.cons (.t (.refl _)) (.cons (.t (.refl _)) (.nil)))))) (.cons rfl (.box (.cons (.t (.refl _)) (.cons (.t (.refl _)) (.cons (.t (.refl _)) (.cons (.t (.refl _)) (.cons (.t (.refl _)) (.nil))))))) (.nil))) rfl rfl⟩
  · -- false
    refine AT.exit (Or.inl ⟨rfl, ?_⟩)   -- exit 0
    refine AT.seq ?_
    refine AT.regionD mixed rfl ?_   -- region 16 law.go:51
    refine TrC.take rfl (step_move rfl rfl rfl) ?_   -- 0
    refine TrC.take rfl (step_indexAddrT (v := .slice 5 (z1.map encA)) rfl rfl rfl sl29 (by decide) (by rw [hLs]; rfl) rfl rfl) ?_   -- 1
    refine TrC.take rfl (step_loadT1 rfl rfl ty22 rfl rfl) ?_   -- 2
    refine TrC.take rfl (step_move rfl rfl rfl) ?_   -- 3
    refine TrC.take rfl (step_indexAddrT (v := .slice 5 (z2.map encA)) rfl rfl rfl sl29 (by decide) (by rw [hLs]; rfl) rfl rfl) ?_   -- 4
    refine TrC.take rfl (step_loadT1 rfl rfl ty22 rfl rfl) ?_   -- 5
    refine TrC.take rfl (step_move rfl rfl rfl) ?_   -- 6
    refine TrC.take rfl (step_indexAddrT (v := .slice 5 (z3.map encA)) rfl rfl rfl sl29 (by decide) (by rw [hLs]; rfl) rfl rfl) ?_   -- 7
    refine TrC.take rfl (step_loadT1 rfl rfl ty22 rfl rfl) ?_   -- 8
    refine TrC.take rfl (step_call0 rfl rfl ((C27 ⟨z1, z2, z3⟩ hvz1 hvz2 hvz3).eq (congrArg (fun x => encMg (merge x)) hx.symm)) rfl) ?_   -- 9
    refine TrC.take rfl (step_move rfl rfl rfl) ?_   -- 10
    refine TrC.take rfl (step_indexAddrT (v := .slice 5 (z1.map encA)) rfl rfl rfl sl29 (by decide) (by rw [hLs]; rfl) rfl rfl) ?_   -- 11
    refine TrC.take rfl (step_loadT1 rfl rfl ty22 rfl rfl) ?_   -- 12
    refine TrC.take rfl (step_move rfl rfl rfl) ?_   -- 13
    refine TrC.take rfl (step_indexAddrT (v := .slice 5 (z2.map encA)) rfl rfl rfl sl29 (by decide) (by rw [hLs]; rfl) rfl rfl) ?_   -- 14
    refine TrC.take rfl (step_loadT1 rfl rfl ty22 rfl rfl) ?_   -- 15
    refine TrC.take rfl (step_move rfl rfl rfl) ?_   -- 16
    refine TrC.take rfl (step_indexAddrT (v := .slice 5 (z3.map encA)) rfl rfl rfl sl29 (by decide) (by rw [hLs]; rfl) rfl rfl) ?_   -- 17
    refine TrC.take rfl (step_loadT1 rfl rfl ty22 rfl rfl) ?_   -- 18
    refine TrC.take rfl (step_call0 rfl rfl ((C28 ⟨z1, z2, z3⟩ hvz1 hvz2 hvz3).eq (congrArg (fun x => encMg (merge x)) hx.symm)) rfl) ?_   -- 19
    refine TrC.take rfl (step_allocC rfl rfl ze42 zc42 rfl rfl rfl) ?_   -- 20
    refine TrC.take rfl (step_allocC rfl rfl ze42 zc42 rfl rfl rfl) ?_   -- 21
    refine TrC.take rfl (step_storeP rfl rfl rfl rfl rfl (.inl rfl) ty42 rfl rfl rfl) ?_   -- 22
    refine TrC.take rfl (step_storeP rfl rfl rfl rfl rfl (.inl rfl) ty42 rfl rfl rfl) ?_   -- 23
    refine TrC.doneD rfl ?_
    refine AT.seq ?_
    refine AT.region ?_   -- region 17 law.go:52
    refine TrC.take rfl (step_fieldAddrP rfl rfl fd42_0 rfl rfl) ?_   -- 0
    refine TrC.take rfl (step_loadP1 rfl rfl rfl ty22 rfl rfl) ?_   -- 1
    refine TrC.take rfl (step_fieldAddrP rfl rfl fd42_0 rfl rfl) ?_   -- 2
    refine TrC.take rfl (step_loadP1 rfl rfl rfl ty22 rfl rfl) ?_   -- 3
    refine TrC.take rfl (step_call0 rfl rfl (C20 (merge x).1 (merge x).1 (by omega)) rfl) ?_   -- 4
    refine TrC.spell 183 rfl (bv (b := true) (by simp)) ?_
    refine TrC.take rfl (step_move rfl rfl rfl) ?_   -- 5
    refine TrC.take ⟨_, _, rfl, rfl, rfl⟩ (step_fieldAddrP rfl rfl fd42_1 rfl rfl) ?_   -- 6
    refine TrC.take ⟨_, _, rfl, rfl, rfl⟩ (step_loadP1 rfl rfl rfl ty4 rfl rfl) ?_   -- 7
    refine TrC.take ⟨_, _, rfl, rfl, rfl⟩ (step_fieldAddrP rfl rfl fd42_1 rfl rfl) ?_   -- 8
    refine TrC.take ⟨_, _, rfl, rfl, rfl⟩ (step_loadP1 rfl rfl rfl ty4 rfl rfl) ?_   -- 9
    refine TrC.take ⟨_, _, rfl, rfl, rfl⟩ (step_eqbool rfl rfl rfl bo4 rfl) ?_   -- 10
    refine TrC.spell 189 rfl (bv (b := true) (by simp)) ?_
    refine TrC.take rfl (step_pick rfl rfl rfl rfl) ?_   -- 11
    refine TrC.take rfl (step_move rfl rfl rfl) ?_   -- 12
    refine TrC.take ⟨_, _, rfl, rfl, rfl⟩ (step_move rfl rfl rfl) ?_   -- 13
    refine TrC.take rfl (step_pick rfl rfl rfl rfl) ?_   -- 14
    refine TrC.take rfl (step_assign rfl rfl rfl) ?_   -- 15
    refine TrC.done ?_
    refine AT.ret ?_
    exact Ret.one rfl (ResR.tmp rfl (conv_b rfl))

end Go.Proofs.Ytgblfhobiibeaaa.Acl

/- AclMatchesReference: from the function's contract to arguments as they come. No condition. -/
set_option linter.unusedVariables false
namespace Go.Proofs.Ytgblfhobiibeaaa.aclMatchesReference
open Go.Proofs.Ytgblfhobiibeaaa.Abs Go.Proofs.Ytgblfhobiibeaaa.Acl Go.RowKit
theorem AclMatchesReference_has (x0 x1 x2 : T) (f0 : Fits Try.prog 22 x0.cells) (a0 : (∃ l, x0 = .agg l) ↔ (partsOf Try.prog 22).isSome = true) (f1 : Fits Try.prog 24 x1.cells) (a1 : (∃ l, x1 = .agg l) ↔ (partsOf Try.prog 24).isSome = true) (f2 : Fits Try.prog 25 x2.cells) (a2 : (∃ l, x2 = .agg l) ↔ (partsOf Try.prog 25).isSome = true) : Has Try.prog 3 [x0, x1, x2] (.b true) := by
  obtain ⟨l0, rfl⟩ := fitAs f0 a0 (te := 31) (ti := 3) (tb := 4) (by kernel_rfl) (by kernel_rfl) (by kernel_rfl) (by kernel_rfl) (by kernel_rfl) (by kernel_rfl) (by kernel_rfl)
  obtain ⟨m1, m2, m3, rfl, hb1, hb2, hb3⟩ := fit24 f1 a1 (ts := 23) (e := 45) (by kernel_rfl) (by kernel_rfl) (by kernel_rfl) (by kernel_rfl) (by kernel_rfl) (by kernel_rfl)
  obtain ⟨ns, g1, rfl, _⟩ := flatV (k := .i64) (n := 4) f2 a2 (by kernel_rfl)
  obtain ⟨w0, w1, w2, w3, rfl⟩ := list_four g1
  exact C3 l0 m1 m2 m3 hb1 hb2 hb3 w0 w1 w2 w3
end Go.Proofs.Ytgblfhobiibeaaa.aclMatchesReference

/- The statement AclMatchesReferenceSaid is proved here: the law's function returns true for all its arguments and panics for none. No condition. -/
namespace Go.Proofs.Ytgblfhobiibeaaa.aclMatchesReference
open Go.ChangeShapes Go.WideShapes Go.ChangeAt Go.RowKit
open Go.Proofs.Ytgblfhobiibeaaa.Abs
set_option linter.unusedVariables false
theorem own : ownKnob Try.prog.godebug = none := by kernel_rfl
theorem laidOut : laidOutB Try.prog = true := by kernel_rfl
set_option maxRecDepth 100000 in
theorem lifted (os : Os) (started : os.Started) (H : Type) (enc : TypeId × Value → H) :
    ReturnsInHanded {} Try.checked os 3 .any (Rows.aclMatchesReferenceSpec.pre6 enc Try.prog Try.f3 Rows.aclMatchesReferenceRow.domain false) (Rows.aclMatchesReferenceSpec.post enc Try.prog Try.f3 false true false false) := by
  refine returnsInHanded_of_change_sized (C := Try.checked) own started (by kernel_rfl) Try.func3
    (ChangeSpec.witness6 (enc := enc) (C := Try.checked) false ⟨#[], #[.slice none 0 0, .agg #[.slice none 0 0, .slice none 0 0, .slice none 0 0], .agg #[.int .i64 0, .int .i64 0, .int .i64 0, .int .i64 0]], []⟩ 8 (by kernel_rfl) (by kernel_rfl) (by kernel_rfl) (by kernel_rfl)) ?_
  intro W base args ds gs before hval0 hW hcnd hsz0 _
  have hval : ∀ (j : Nat) t v, Try.f3.params[j]? = some t → args[j]? = some v → Value.okWide Try.prog W .any base t v := hval0
  have hW' := hW
  obtain ⟨p, q, hA0, hV, rfl, hfz, hnd⟩ := hW
  have hA : DataW.TrodAll enc Try.prog W 0 (fun _ => true) true Try.f3.params.toList args.toList ds p := hA0
  rw [show Try.f3.params = #[22, 24, 25] from by kernel_rfl] at hA hval
  obtain ⟨v0, vs0, d0, ds0, p0, q0, hargs, rfl, rfl, h0, r0⟩ := trodAll_cons hA
  obtain ⟨v1, vs1, d1, ds1, p1, q1, rfl, rfl, rfl, h1, r1⟩ := trodAll_cons r0
  obtain ⟨v2, vs2, d2, ds2, p2, q2, rfl, rfl, rfl, h2, r2⟩ := trodAll_cons r1
  obtain ⟨rfl, rfl, rfl⟩ := trodAll_nil r2
  obtain rfl : args = #[v0, v1, v2] := by cases args; simp_all
  obtain ⟨rfl, rfl⟩ := trodVars_none hV
  have lt0 : ∀ x ∈ p0, x.block < W.heap.size := by obtain ⟨m, hm⟩ := h0; exact DataW.trod_lt m _ _ _ hm
  obtain ⟨x0, rd0, ft0, ag0⟩ := Trod_reads 8 (by kernel_rfl) (hval 0 22 v0 rfl rfl) h0
  have lt1 : ∀ x ∈ p1, x.block < W.heap.size := by obtain ⟨m, hm⟩ := h1; exact DataW.trod_lt m _ _ _ hm
  obtain ⟨x1, rd1, ft1, ag1⟩ := Trod_reads 8 (by kernel_rfl) (hval 1 24 v1 rfl rfl) h1
  have lt2 : ∀ x ∈ p2, x.block < W.heap.size := by obtain ⟨m, hm⟩ := h2; exact DataW.trod_lt m _ _ _ hm
  obtain ⟨x2, rd2, ft2, ag2⟩ := Trod_reads 8 (by kernel_rfl) (hval 2 25 v2 rfl rfl) h2
  have hh := AclMatchesReference_has x0 x1 x2 ft0 ag0 ft1 ag1 ft2 ag2
  refine (hh.2 W (okW W) #[v0, v1, v2] (fun _ h => h) rfl ?_).mono fun e W' hx => ?_
  · intro i h1 h2
    rcases i with _ | i; exact rd0; rcases i with _ | i; exact rd1; rcases i with _ | i; exact rd2; simp at h1 <;> omega
  · obtain ⟨v, he, hr, bel⟩ := hx
    subst he
    cases hr with
    | v _ =>
      exact ⟨_, rfl, _, _, _, [], _, [], hW', trodAll_mk1 (shut_bool (show Try.prog.underlying 4 = some .bool by kernel_rfl) _), (trodAll_cons_mk (Below.trod laidOut (by kernel_rfl) (of_decide_eq_true (by kernel_rfl)) h0 bel lt0) (trodAll_cons_mk (Below.trod laidOut (by kernel_rfl) (of_decide_eq_true (by kernel_rfl)) h1 bel lt1) (trodAll_cons_mk (Below.trod laidOut (by kernel_rfl) (of_decide_eq_true (by kernel_rfl)) h2 bel lt2) trodAll_mk0))), rfl, bel.frame _, fun h => by cases h⟩
theorem over : Rows.aclMatchesReferenceRow.holds Try.pinned (OpenSpec.ofChange Rows.aclMatchesReferenceSpec) :=
  OpenClaim.holds_of_wide 3 Try.f3 rfl rfl rfl rfl rfl rfl rfl ⟨rfl, rfl, rfl, rfl, rfl⟩ rfl rfl rfl rfl rfl (by kernel_rfl) Try.func3 (by kernel_rfl)
    (of_decide_eq_true (by kernel_rfl)) (by unfold Func.isWrapper; first | (rw [if_pos (by decide +kernel)]; kernel_rfl) | (rw [if_neg (by decide +kernel)]; exact ⟨rfl, rfl⟩))
    (fun os started H enc _ => lifted os started H enc)
theorem proved : Rows.AclMatchesReferenceSaid := over
#print axioms proved
end Go.Proofs.Ytgblfhobiibeaaa.aclMatchesReference
namespace Go.Proofs.Ytgblfhobiibeaaa
/-- The row, under a short name, for the claim. -/
theorem aclMatchesReference_holds : Rows.AclMatchesReferenceSaid := aclMatchesReference.proved
end Go.Proofs.Ytgblfhobiibeaaa

