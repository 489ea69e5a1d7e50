/- Parts of this proof, one after the other; each says what it proves. No condition. -/
import Derived.Test.YtnemmdbafngppaaMF
import Derived.Test.YtnemmdbafngppaaMG
import Derived.Test.YtnemmdbafngppaaRows
import Derived.Test.YtnemmdbafngppaaMC
import Derived.WalkKit
import Derived.ProofKit
import Derived.OpenShut
import Derived.ShutString
import Derived.ChangeOld
import Derived.Below
import Derived.Carry
import Derived.SizedLaws
/- Contracts of functions of this translation. Printed by wip/tools/gen.py out of wip/net/ann.py. No condition. -/
set_option linter.unusedVariables false
set_option linter.unusedSimpArgs false
namespace Go.Proofs.Ytnemmdbafngppaa.Net
open Go.Proofs.Ytnemmdbafngppaa.Abs
set_option maxRecDepth 100000
set_option maxHeartbeats 4000000
theorem C6 (l : List (Int × Int × Int)) (hb : ∀ x ∈ l, (0 ≤ x.1 ∧ x.1 ≤ 255) ∧ (0 ≤ x.2.1 ∧ x.2.1 ≤ 255) ∧ (0 ≤ x.2.2 ∧ x.2.2 ≤ 255)) (w0 w1 : Int) (h0 : 0 ≤ w0 ∧ w0 ≤ 255) (h1 : 0 ≤ w1 ∧ w1 ≤ 255) : Has Try.prog 6 [.slice 3 (l.map encB), .agg [.u8 w0, .u8 w1]] (.b true) := by   -- burgage/burgagelaw32.NetCuts
  obtain ⟨n, hn⟩ : ∃ n, n = made l := ⟨_, rfl⟩
  have hv : VN n := hn ▸ VN.made l
  have hvl := hv.nl
  have hvc := hv.cl
  have hmf : n.cuts.length ≤ 20 := hn ▸ (made_facts l).2
  have ha5 : 0 ≤ w0 % 5 ∧ w0 % 5 < 5 := by omega
  have hb5 : 0 ≤ w1 % 5 ∧ w1 % 5 < 5 := by omega
  refine Has.intro 289 Try.func6 (by kernel_rfl) rfl rfl fun w ok => ?_
  refine AT.seq ?_
  refine AT.region ?_   -- region 0 law.go:144
  refine TrC.take rfl (step_box rfl rfl rfl rfl rfl rfl rfl) ?_   -- 0
  refine TrC.take rfl (step_assign rfl rfl rfl) ?_   -- 1
  refine TrC.done ?_
  refine AT.seq ?_
  refine AT.region ?_   -- region 1 law.go:145
  refine TrC.take rfl (step_call0 rfl rfl (C11) rfl) ?_   -- 0
  refine TrC.take rfl (step_assign rfl rfl rfl) ?_   -- 1
  refine TrC.done ?_
  refine AT.seq ?_
  refine AT.regionD mixed rfl ?_   -- region 2 law.go:146
  refine TrC.take rfl (step_move rfl rfl rfl) ?_   -- 0
  refine TrC.take rfl (step_call0 rfl rfl ((C12 l hb).eq (congrArg encN hn.symm)) rfl) ?_   -- 1
  refine TrC.take rfl (step_indexAddrP rfl rfl rfl ar52 (by decide) (by decide) rfl) ?_   -- 2
  refine TrC.take rfl (step_loadP1 rfl rfl rfl ty5 rfl rfl) ?_   -- 3
  first | refine TrC.take rfl (step_remI rfl rfl rfl (by omega) (by first | omega | (simp; done) | (simp; omega)) rfl) ?_ | refine TrC.take rfl (step_bin rfl rfl rfl rfl rfl) ?_   -- 4
  refine TrC.take rfl (step_convI rfl rfl in5 in3 (by omega) (by omega) rfl) ?_   -- 5
  refine TrC.take rfl (step_indexAddrP rfl rfl rfl ar52 (by decide) (by decide) rfl) ?_   -- 6
  refine TrC.take rfl (step_loadP1 rfl rfl rfl ty5 rfl rfl) ?_   -- 7
  first | refine TrC.take rfl (step_remI rfl rfl rfl (by omega) (by first | omega | (simp; done) | (simp; omega)) rfl) ?_ | refine TrC.take rfl (step_bin rfl rfl rfl rfl rfl) ?_   -- 8
  refine TrC.take rfl (step_convI rfl rfl in5 in3 (by omega) (by omega) rfl) ?_   -- 9
  refine TrC.take rfl (step_allocC rfl rfl ze30 zc30 rfl rfl rfl) ?_   -- 10
  refine TrC.take rfl (step_storeP rfl rfl rfl rfl rfl (.inl rfl) ty30 rfl rfl rfl) ?_   -- 11
  refine TrC.take rfl (step_assign rfl rfl rfl) ?_   -- 12
  refine TrC.take rfl (step_assign rfl rfl rfl) ?_   -- 13
  refine TrC.doneD rfl ?_
  refine AT.seq ?_
  refine AT.seq ?_
  refine Exists.elim (show ∃ a, a = w0 % 5 from ⟨_, rfl⟩) (fun a ha => ?_)
  refine Exists.elim (show ∃ b, b = w1 % 5 from ⟨_, rfl⟩) (fun b hb' => ?_)
  rw [← ha] at ha5
  rw [← hb'] at hb5
  refine AT.spell 7 rfl (iv (b := a) ha.symm) ?_
  refine AT.spell 8 rfl (iv (b := b) hb'.symm) ?_
  refine AT.region ?_   -- region 3 law.go:147
  refine TrC.take rfl (step_move rfl rfl rfl) ?_   -- 0
  refine TrC.take rfl (step_move rfl rfl rfl) ?_   -- 1
  refine TrC.take rfl (step_bin rfl rfl rfl rfl rfl) ?_   -- 2
  refine TrC.done ?_
  refine AT.cond rfl (fun h34 => ?_) (fun h34 => ?_)   -- t34
  · -- true
    have hab : a = b := by simpa using h34
    have hnp : parts a b = false := by simp [parts, hab]
    refine AT.seq ?_
    refine AT.region ?_   -- region 4 law.go:148
    refine TrC.take rfl (step_loadPN rfl rfl rfl ty30 rfl rfl rfl) ?_   -- 0
    refine TrC.take rfl (step_move rfl rfl rfl) ?_   -- 1
    refine TrC.take rfl (step_move rfl rfl rfl) ?_   -- 2
    refine TrC.take rfl (step_buildA rfl ze32 rfl ar32 rfl rfl rfl rfl) ?_   -- 3
    refine TrC.take rfl (step_call0 rfl rfl ((D21 hv a b 2).eq (et ((dn2 _ _ _).trans (sever_np hnp)))) rfl) ?_   -- 4
    refine TrC.take rfl (step_field1 rfl rfl fd40_2 ty33 rfl rfl) ?_   -- 5
    refine TrC.take rfl (step_bin rfl rfl rfl rfl rfl) ?_   -- 6
    refine TrC.spell 41 rfl (bv (b := true) (by simp)) ?_
    refine TrC.take rfl (step_move rfl rfl rfl) ?_   -- 7
    refine TrC.take ⟨_, _, rfl, rfl, rfl⟩ (step_loadPN rfl rfl rfl ty30 rfl rfl rfl) ?_   -- 8
    refine TrC.take ⟨_, _, rfl, rfl, rfl⟩ (step_move rfl rfl rfl) ?_   -- 9
    refine TrC.take ⟨_, _, rfl, rfl, rfl⟩ (step_move rfl rfl rfl) ?_   -- 10
    refine TrC.take ⟨_, _, rfl, rfl, rfl⟩ (step_buildA rfl ze32 rfl ar32 rfl rfl rfl rfl) ?_   -- 11
    refine TrC.take ⟨_, _, rfl, rfl, rfl⟩ (step_call0 rfl rfl ((D21 hv a b 3).eq (et ((dn3 _ _ _).trans (heal_np hnp)))) rfl) ?_   -- 12
    refine TrC.take ⟨_, _, rfl, rfl, rfl⟩ (step_field1 rfl rfl fd40_2 ty33 rfl rfl) ?_   -- 13
    refine TrC.take ⟨_, _, rfl, rfl, rfl⟩ (step_bin rfl rfl rfl rfl rfl) ?_   -- 14
    refine TrC.spell 49 rfl (bv (b := true) (by simp)) ?_
    refine TrC.take rfl (step_pick rfl rfl rfl rfl) ?_   -- 15
    refine TrC.take rfl (step_move rfl rfl rfl) ?_   -- 16
    refine TrC.take ⟨_, _, rfl, rfl, rfl⟩ (step_loadPN rfl rfl rfl ty30 rfl rfl rfl) ?_   -- 17
    refine TrC.take ⟨_, _, rfl, rfl, rfl⟩ (step_move rfl rfl rfl) ?_   -- 18
    refine TrC.take ⟨_, _, rfl, rfl, rfl⟩ (step_move rfl rfl rfl) ?_   -- 19
    refine TrC.take ⟨_, _, rfl, rfl, rfl⟩ (step_call0 rfl rfl (D19 hv a b) rfl) ?_   -- 20
    refine TrC.spell 55 rfl (bv (b := true) (by rw [← hab]; exact reach_self hv a)) ?_
    refine TrC.take rfl (step_pick rfl rfl rfl rfl) ?_   -- 21
    refine TrC.take rfl (step_move rfl rfl rfl) ?_   -- 22
    refine TrC.take ⟨_, _, rfl, rfl, rfl⟩ (step_move rfl rfl rfl) ?_   -- 23
    refine TrC.take rfl (step_pick rfl rfl rfl rfl) ?_   -- 24
    refine TrC.take rfl (step_assign rfl rfl rfl) ?_   -- 25
    refine TrC.done ?_
    refine AT.ret ?_
    exact Ret.one rfl (ResR.tmp rfl (conv_b rfl))
  · -- false
    have hab : ¬ a = b := by simpa using h34
    have hp : parts a b = true := by simp [parts, part, hab]; omega
    refine Exists.elim (show ∃ X, X = sever n a b from ⟨_, rfl⟩) (fun X hX => ?_)
    refine Exists.elim (show ∃ Y, Y = heal n b a from ⟨_, rfl⟩) (fun Y hY => ?_)
    have hsf := sever_facts hv hp (by omega)
    have hhf := heal_facts hv (a := b) (b := a) (by rw [parts_comm]; exact hp)
    have hre := reach_sever hv hp (show n.cuts.length < 200 by omega)
    have hrh := reach_heal hv hp
    have hpk := fun (i : Nat) (hi : i < n.fl.length) => cut_packet hv hp (show n.cuts.length < 200 by omega) hi
    have hbk := heal_sever hv hp (show n.cuts.length < 200 by omega)
    have hag := sever_again (n := (sever n a b).n) hp ((hsf.2.2.2.2.1 _).2 (.inr rfl))
    have hvX := hv.sever a b
    have hvY := hv.heal b a
    rw [← hX] at hsf hre hpk hbk hag hvX
    rw [← hY] at hhf hrh hpk hbk hvY
    have hXe := hsf.1
    have hYe := hhf.1
    refine AT.skip ?_
    refine AT.seq ?_
    refine AT.regionD mixed rfl ?_   -- region 5 law.go:150
    refine TrC.take rfl (step_loadPN rfl rfl rfl ty30 rfl rfl rfl) ?_   -- 0
    refine TrC.take rfl (step_move rfl rfl rfl) ?_   -- 1
    refine TrC.take rfl (step_move rfl rfl rfl) ?_   -- 2
    refine TrC.take rfl (step_buildA rfl ze32 rfl ar32 rfl rfl rfl rfl) ?_   -- 3
    refine TrC.take rfl (step_call0 rfl rfl ((D21 hv a b 2).eq (et ((dn2 _ _ _).trans hX.symm))) rfl) ?_   -- 4
    refine TrC.take rfl (step_loadPN rfl rfl rfl ty30 rfl rfl rfl) ?_   -- 5
    refine TrC.take rfl (step_move rfl rfl rfl) ?_   -- 6
    refine TrC.take rfl (step_move rfl rfl rfl) ?_   -- 7
    refine TrC.take rfl (step_buildA rfl ze32 rfl ar32 rfl rfl rfl rfl) ?_   -- 8
    refine TrC.take rfl (step_call0 rfl rfl ((D21 hv b a 3).eq (et ((dn3 _ _ _).trans hY.symm))) rfl) ?_   -- 9
    refine TrC.take rfl (step_allocC rfl rfl ze40 zc40 rfl rfl rfl) ?_   -- 10
    refine TrC.take rfl (step_allocC rfl rfl ze40 zc40 rfl rfl rfl) ?_   -- 11
    refine TrC.take rfl (step_storeP rfl rfl rfl rfl rfl (.inl rfl) ty40 rfl rfl rfl) ?_   -- 12
    refine TrC.take rfl (step_storeP rfl rfl rfl rfl rfl (.inl rfl) ty40 rfl rfl rfl) ?_   -- 13
    refine TrC.doneD rfl ?_
    refine AT.seq ?_
    refine AT.seq ?_
    refine AT.region ?_   -- region 6 law.go:151
    refine TrC.take rfl (step_fieldAddrP rfl rfl fd40_2 rfl rfl) ?_   -- 0
    refine TrC.take rfl (step_loadP1 rfl rfl rfl ty33 rfl rfl) ?_   -- 1
    refine TrC.take rfl (step_bin rfl rfl rfl rfl rfl) ?_   -- 2
    refine TrC.spell 72 rfl (bv (b := false) (by simp [hXe])) ?_
    refine TrC.take rfl (step_move rfl rfl rfl) ?_   -- 3
    refine TrC.take ⟨_, _, rfl, rfl, rfl⟩ (step_fieldAddrP rfl rfl fd40_2 rfl rfl) ?_   -- 4
    refine TrC.take ⟨_, _, rfl, rfl, rfl⟩ (step_loadP1 rfl rfl rfl ty33 rfl rfl) ?_   -- 5
    refine TrC.take ⟨_, _, rfl, rfl, rfl⟩ (step_bin rfl rfl rfl rfl rfl) ?_   -- 6
    refine TrC.spell 76 rfl (bv (b := false) (by simp [hYe])) ?_
    refine TrC.take rfl (step_pick rfl rfl rfl rfl) ?_   -- 7
    refine TrC.take rfl (step_move rfl rfl rfl) ?_   -- 8
    refine TrC.take ⟨_, _, rfl, rfl, rfl⟩ (step_fieldAddrP rfl rfl fd40_0 rfl rfl) ?_   -- 9
    refine TrC.take ⟨_, _, rfl, rfl, rfl⟩ (step_loadPN rfl rfl rfl ty30 rfl rfl rfl) ?_   -- 10
    refine TrC.take ⟨_, _, rfl, rfl, rfl⟩ (step_call0 rfl rfl (D27 hvX) rfl) ?_   -- 11
    refine TrC.spell 81 rfl (bv (b := true) (rfl)) ?_
    refine TrC.take ⟨_, _, rfl, rfl, rfl⟩ (step_not rfl rfl rfl) ?_   -- 12
    refine TrC.take rfl (step_pick rfl rfl rfl rfl) ?_   -- 13
    refine TrC.take rfl (step_move rfl rfl rfl) ?_   -- 14
    refine TrC.take ⟨_, _, rfl, rfl, rfl⟩ (step_fieldAddrP rfl rfl fd40_0 rfl rfl) ?_   -- 15
    refine TrC.take ⟨_, _, rfl, rfl, rfl⟩ (step_loadPN rfl rfl rfl ty30 rfl rfl rfl) ?_   -- 16
    refine TrC.take ⟨_, _, rfl, rfl, rfl⟩ (step_call0 rfl rfl (D27 hvY) rfl) ?_   -- 17
    refine TrC.spell 87 rfl (bv (b := true) (rfl)) ?_
    refine TrC.take ⟨_, _, rfl, rfl, rfl⟩ (step_not rfl rfl rfl) ?_   -- 18
    refine TrC.take rfl (step_pick rfl rfl rfl rfl) ?_   -- 19
    refine TrC.take rfl (step_move rfl rfl rfl) ?_   -- 20
    refine TrC.take ⟨_, _, rfl, rfl, rfl⟩ (step_fieldAddrP rfl rfl fd40_0 rfl rfl) ?_   -- 21
    refine TrC.take ⟨_, _, rfl, rfl, rfl⟩ (step_loadPN rfl rfl rfl ty30 rfl rfl rfl) ?_   -- 22
    refine TrC.take ⟨_, _, rfl, rfl, rfl⟩ (step_move rfl rfl rfl) ?_   -- 23
    refine TrC.take ⟨_, _, rfl, rfl, rfl⟩ (step_move rfl rfl rfl) ?_   -- 24
    refine TrC.take ⟨_, _, rfl, rfl, rfl⟩ (step_call0 rfl rfl (D19 hvX a b) rfl) ?_   -- 25
    refine TrC.spell 95 rfl (bv (b := false) ((hre a b).1 rfl)) ?_
    refine TrC.take rfl (step_pick rfl rfl rfl rfl) ?_   -- 26
    refine TrC.take rfl (step_move rfl rfl rfl) ?_   -- 27
    refine TrC.take ⟨_, _, rfl, rfl, rfl⟩ (step_fieldAddrP rfl rfl fd40_0 rfl rfl) ?_   -- 28
    refine TrC.take ⟨_, _, rfl, rfl, rfl⟩ (step_loadPN rfl rfl rfl ty30 rfl rfl rfl) ?_   -- 29
    refine TrC.take ⟨_, _, rfl, rfl, rfl⟩ (step_move rfl rfl rfl) ?_   -- 30
    refine TrC.take ⟨_, _, rfl, rfl, rfl⟩ (step_move rfl rfl rfl) ?_   -- 31
    refine TrC.take ⟨_, _, rfl, rfl, rfl⟩ (step_call0 rfl rfl (D19 hvX b a) rfl) ?_   -- 32
    refine TrC.spell 102 rfl (bv (b := false) ((hre b a).1 (pr_comm a b))) ?_
    refine TrC.take rfl (step_pick rfl rfl rfl rfl) ?_   -- 33
    refine TrC.take rfl (step_move rfl rfl rfl) ?_   -- 34
    refine TrC.take ⟨_, _, rfl, rfl, rfl⟩ (step_fieldAddrP rfl rfl fd40_0 rfl rfl) ?_   -- 35
    refine TrC.take ⟨_, _, rfl, rfl, rfl⟩ (step_loadPN rfl rfl rfl ty30 rfl rfl rfl) ?_   -- 36
    refine TrC.take ⟨_, _, rfl, rfl, rfl⟩ (step_move rfl rfl rfl) ?_   -- 37
    refine TrC.take ⟨_, _, rfl, rfl, rfl⟩ (step_move rfl rfl rfl) ?_   -- 38
    refine TrC.take ⟨_, _, rfl, rfl, rfl⟩ (step_call0 rfl rfl (D19 hvY a b) rfl) ?_   -- 39
    refine TrC.spell 109 rfl (bv (b := true) ((hrh a b).1 rfl)) ?_
    refine TrC.take ⟨_, _, rfl, rfl, rfl⟩ (step_not rfl rfl rfl) ?_   -- 40
    refine TrC.take rfl (step_pick rfl rfl rfl rfl) ?_   -- 41
    refine TrC.take rfl (step_move rfl rfl rfl) ?_   -- 42
    refine TrC.take ⟨_, _, rfl, rfl, rfl⟩ (step_fieldAddrP rfl rfl fd40_0 rfl rfl) ?_   -- 43
    refine TrC.take ⟨_, _, rfl, rfl, rfl⟩ (step_loadPN rfl rfl rfl ty30 rfl rfl rfl) ?_   -- 44
    refine TrC.take ⟨_, _, rfl, rfl, rfl⟩ (step_move rfl rfl rfl) ?_   -- 45
    refine TrC.take ⟨_, _, rfl, rfl, rfl⟩ (step_move rfl rfl rfl) ?_   -- 46
    refine TrC.take ⟨_, _, rfl, rfl, rfl⟩ (step_call0 rfl rfl (D19 hvY b a) rfl) ?_   -- 47
    refine TrC.spell 117 rfl (bv (b := true) ((hrh b a).1 (pr_comm a b))) ?_
    refine TrC.take ⟨_, _, rfl, rfl, rfl⟩ (step_not rfl rfl rfl) ?_   -- 48
    refine TrC.take rfl (step_pick rfl rfl rfl rfl) ?_   -- 49
    refine TrC.done ?_
    refine AT.condF rfl ?_   -- t119
    refine AT.skip ?_
    refine AT.seq ?_
    refine AT.seq ?_
    refine AT.region ?_   -- region 8 law.go:154
    refine TrC.take rfl (step_assign rfl rfl rfl) ?_   -- 0
    refine TrC.done ?_
    refine AT.block ?_   -- block 0
    refine AT.loopP (fun i : Nat => i ≤ n.fl.length) (fun i => mkS [(5, .t (.b true)), (6, .p 6 0), (7, .t (.i a)), (8, .t (.i b)), (9, .p 9 0), (10, .p 10 0), (11, .t (.i i))] [(6, .box 30 [.t (.slice 3 (n.fl.map encP)), .t (.slice 2 (n.cuts.map encC)), .t (.i n.next)]), (9, .box 40 [.t (.slice 3 (X.n.fl.map encP)), .t (.slice 2 (X.n.cuts.map encC)), .t (.i X.n.next), .t (.i X.p.id), .t (.i X.p.fr), .t (.i X.p.to), .t (.i X.e)]), (10, .box 40 [.t (.slice 3 (Y.n.fl.map encP)), .t (.slice 2 (Y.n.cuts.map encC)), .t (.i Y.n.next), .t (.i Y.p.id), .t (.i Y.p.fr), .t (.i Y.p.to), .t (.i Y.e)])]) (fun i => n.fl.length - i) (0) (Nat.zero_le _) (fun a w hs => Sat.wk [] (.cons (.t (.refl _)) (.cons (.p rfl) (.cons (.t (.refl _)) (.cons (.t (.refl _)) (.cons (.p rfl) (.cons (.p rfl) (.cons (.t (.refl _)) (.nil)))))))) (.cons rfl (.box (.cons (.t (.refl _)) (.cons (.t (.refl _)) (.cons (.t (.refl _)) (.nil))))) (.cons rfl (.box (.cons (.t (.refl _)) (.cons (.t (.refl _)) (.cons (.t (.refl _)) (.cons (.t (.refl _)) (.cons (.t (.refl _)) (.cons (.t (.refl _)) (.cons (.t (.refl _)) (.nil))))))))) (.cons rfl (.box (.cons (.t (.refl _)) (.cons (.t (.refl _)) (.cons (.t (.refl _)) (.cons (.t (.refl _)) (.cons (.t (.refl _)) (.cons (.t (.refl _)) (.cons (.t (.refl _)) (.nil))))))))) (.nil)))) rfl rfl a w hs) (fun i hi => ?_)
    refine AT.seq ?_
    refine AT.seq ?_
    refine AT.region ?_   -- region 9 law.go:154
    refine TrC.take rfl (step_move rfl rfl rfl) ?_   -- 0
    refine TrC.take rfl (step_fieldAddrP rfl rfl fd30_0 rfl rfl) ?_   -- 1
    refine TrC.take rfl (step_loadP1 rfl rfl rfl ty27 rfl rfl) ?_   -- 2
    refine TrC.take rfl (step_lenT (rt := 0) rfl rfl sl27 rfl) ?_   -- 3
    refine TrC.take rfl (step_bin rfl rfl rfl rfl rfl) ?_   -- 4
    refine TrC.done ?_
    refine AT.cond rfl (fun h124 => ?_) (fun h124 => ?_)   -- t124
    · -- true
      have hlt : i < n.fl.length := by simpa using h124
      have hget : (n.fl.map encP)[i]? = some (.agg [.i n.fl[i].id, .i n.fl[i].fr, .i n.fl[i].to]) := by rw [List.getElem?_map, List.getElem?_eq_getElem hlt]; rfl
      have hpi := hpk i hlt
      refine Exists.elim (show ∃ p, p = n.fl[i] from ⟨_, rfl⟩) (fun p hp' => ?_)
      rw [← hp'] at hget hpi
      refine Exists.elim (show ∃ A, A = take X.n p.id from ⟨_, rfl⟩) (fun A hA => ?_)
      refine Exists.elim (show ∃ B, B = take Y.n p.id from ⟨_, rfl⟩) (fun B hB => ?_)
      refine Exists.elim (show ∃ D, D = take n p.id from ⟨_, rfl⟩) (fun D hD => ?_)
      rw [← hA, ← hB, ← hD] at hpi
      have hvA : VN A.n := hA ▸ hvX.take _
      refine AT.skip ?_
      refine AT.seq ?_
      refine AT.block ?_   -- block 1
      refine AT.seq ?_
      refine AT.region ?_   -- region 11 law.go:155
      refine TrC.take rfl (step_fieldAddrP rfl rfl fd30_0 rfl rfl) ?_   -- 0
      refine TrC.take rfl (step_loadP1 rfl rfl rfl ty27 rfl rfl) ?_   -- 1
      refine TrC.take rfl (step_move rfl rfl rfl) ?_   -- 2
      refine TrC.take rfl (step_indexAddrT (v := .agg [.i p.id, .i p.fr, .i p.to]) rfl rfl rfl sl27 (by omega) (by first | exact hget | simpa using hget) rfl rfl) ?_   -- 3
      refine TrC.take rfl (step_loadTN rfl rfl ty25 rfl rfl) ?_   -- 4
      refine TrC.take rfl (step_alloc rfl rfl ze25 rfl rfl rfl) ?_   -- 5
      refine TrC.take rfl (step_storeP rfl rfl rfl rfl rfl (.inl rfl) ty25 rfl rfl rfl) ?_   -- 6
      refine TrC.done ?_
      refine AT.seq ?_
      refine AT.region ?_   -- region 12 law.go:156
      refine TrC.take rfl (step_fieldAddrP rfl rfl fd25_1 rfl rfl) ?_   -- 0
      refine TrC.take rfl (step_loadP1 rfl rfl rfl ty3 rfl rfl) ?_   -- 1
      refine TrC.take rfl (step_move rfl rfl rfl) ?_   -- 2
      refine TrC.take rfl (step_bin rfl rfl rfl rfl rfl) ?_   -- 3
      refine TrC.take rfl (step_move rfl rfl rfl) ?_   -- 4
      refine TrC.cases (d := 136) rfl (fun h136 => ?_) (fun h136 => ?_)
      · -- t136 = true
        refine TrC.take ⟨_, _, rfl, rfl, rfl⟩ (step_fieldAddrP rfl rfl fd25_2 rfl rfl) ?_   -- 5
        refine TrC.take ⟨_, _, rfl, rfl, rfl⟩ (step_loadP1 rfl rfl rfl ty3 rfl rfl) ?_   -- 6
        refine TrC.take ⟨_, _, rfl, rfl, rfl⟩ (step_move rfl rfl rfl) ?_   -- 7
        refine TrC.take ⟨_, _, rfl, rfl, rfl⟩ (step_bin rfl rfl rfl rfl rfl) ?_   -- 8
        refine TrC.take rfl (step_pick rfl rfl rfl rfl) ?_   -- 9
        refine TrC.take rfl (step_move rfl rfl rfl) ?_   -- 10
        refine TrC.cases (d := 142) rfl (fun h142 => ?_) (fun h142 => ?_)
        · -- t142 = true
          refine TrC.skip ⟨_, _, rfl, rfl, rfl⟩ ?_   -- 11
          refine TrC.skip ⟨_, _, rfl, rfl, rfl⟩ ?_   -- 12
          refine TrC.skip ⟨_, _, rfl, rfl, rfl⟩ ?_   -- 13
          refine TrC.skip ⟨_, _, rfl, rfl, rfl⟩ ?_   -- 14
          refine TrC.skip ⟨_, _, rfl, rfl, rfl⟩ ?_   -- 15
          refine TrC.skip ⟨_, _, rfl, rfl, rfl⟩ ?_   -- 16
          refine TrC.skip ⟨_, _, rfl, rfl, rfl⟩ ?_   -- 17
          refine TrC.skip ⟨_, _, rfl, rfl, rfl⟩ ?_   -- 18
          refine TrC.skip ⟨_, _, rfl, rfl, rfl⟩ ?_   -- 19
          refine TrC.skip ⟨_, _, rfl, rfl, rfl⟩ ?_   -- 20
          refine TrC.take rfl (step_pick rfl rfl rfl rfl) ?_   -- 21
          refine TrC.take rfl (step_assign rfl rfl rfl) ?_   -- 22
          refine TrC.done ?_
          refine AT.spell 13 rfl (bv (b := decide (pr p.fr p.to = pr a b)) (by simp only [pr_eq]; first | (simp_all; done) | (rw [Bool.eq_iff_iff]; simp_all; done) | (rw [Bool.eq_iff_iff]; simp_all <;> omega))) ?_
          refine AT.seq ?_
          refine AT.regionD mixed rfl ?_   -- region 13 law.go:157
          refine TrC.take rfl (step_fieldAddrP rfl rfl fd40_0 rfl rfl) ?_   -- 0
          refine TrC.take rfl (step_loadPN rfl rfl rfl ty30 rfl rfl rfl) ?_   -- 1
          refine TrC.take rfl (step_fieldAddrP rfl rfl fd25_0 rfl rfl) ?_   -- 2
          refine TrC.take rfl (step_loadP1 rfl rfl rfl ty3 rfl rfl) ?_   -- 3
          refine TrC.take rfl (step_call0 rfl rfl ((D17 hvX p.id).eq (et hA.symm)) rfl) ?_   -- 4
          refine TrC.take rfl (step_fieldAddrP rfl rfl fd40_0 rfl rfl) ?_   -- 5
          refine TrC.take rfl (step_loadPN rfl rfl rfl ty30 rfl rfl rfl) ?_   -- 6
          refine TrC.take rfl (step_fieldAddrP rfl rfl fd25_0 rfl rfl) ?_   -- 7
          refine TrC.take rfl (step_loadP1 rfl rfl rfl ty3 rfl rfl) ?_   -- 8
          refine TrC.take rfl (step_call0 rfl rfl ((D17 hvY p.id).eq (et hB.symm)) rfl) ?_   -- 9
          refine TrC.take rfl (step_loadPN rfl rfl rfl ty30 rfl rfl rfl) ?_   -- 10
          refine TrC.take rfl (step_fieldAddrP rfl rfl fd25_0 rfl rfl) ?_   -- 11
          refine TrC.take rfl (step_loadP1 rfl rfl rfl ty3 rfl rfl) ?_   -- 12
          refine TrC.take rfl (step_call0 rfl rfl ((D17 hv p.id).eq (et hD.symm)) rfl) ?_   -- 13
          refine TrC.take rfl (step_allocC rfl rfl ze40 zc40 rfl rfl rfl) ?_   -- 14
          refine TrC.take rfl (step_allocC rfl rfl ze40 zc40 rfl rfl rfl) ?_   -- 15
          refine TrC.take rfl (step_allocC rfl rfl ze40 zc40 rfl rfl rfl) ?_   -- 16
          refine TrC.take rfl (step_storeP rfl rfl rfl rfl rfl (.inl rfl) ty40 rfl rfl rfl) ?_   -- 17
          refine TrC.take rfl (step_storeP rfl rfl rfl rfl rfl (.inl rfl) ty40 rfl rfl rfl) ?_   -- 18
          refine TrC.take rfl (step_storeP rfl rfl rfl rfl rfl (.inl rfl) ty40 rfl rfl rfl) ?_   -- 19
          refine TrC.doneD rfl ?_
          refine AT.seq ?_
          refine AT.cases (d := 13) rfl (fun h13 => ?_) (fun h13 => ?_)
          · -- t13 = true
            refine AT.region ?_   -- region 14 law.go:158
            refine TrC.take rfl (step_move rfl rfl rfl) ?_   -- 0
            refine TrC.take rfl (step_move rfl rfl rfl) ?_   -- 1
            refine TrC.take ⟨_, _, rfl, rfl, rfl⟩ (step_fieldAddrP rfl rfl fd40_2 rfl rfl) ?_   -- 2
            refine TrC.take ⟨_, _, rfl, rfl, rfl⟩ (step_loadP1 rfl rfl rfl ty33 rfl rfl) ?_   -- 3
            refine TrC.take ⟨_, _, rfl, rfl, rfl⟩ (step_bin rfl rfl rfl rfl rfl) ?_   -- 4
            refine TrC.spell 172 rfl (bv (b := false) (by simp [(hpi.1 (by simpa using h13)).1])) ?_
            refine TrC.take ⟨_, _, rfl, rfl, rfl⟩ (step_move rfl rfl rfl) ?_   -- 5
            refine TrC.take ⟨_, _, rfl, rfl, rfl⟩ (step_fieldAddrP rfl rfl fd40_0 rfl rfl) ?_   -- 6
            refine TrC.take ⟨_, _, rfl, rfl, rfl⟩ (step_loadPN rfl rfl rfl ty30 rfl rfl rfl) ?_   -- 7
            refine TrC.take ⟨_, _, rfl, rfl, rfl⟩ (step_fieldAddrP rfl rfl fd40_0 rfl rfl) ?_   -- 8
            refine TrC.take ⟨_, _, rfl, rfl, rfl⟩ (step_loadPN rfl rfl rfl ty30 rfl rfl rfl) ?_   -- 9
            refine TrC.take ⟨_, _, rfl, rfl, rfl⟩ (step_call0 rfl rfl (D15 hvA X.n) rfl) ?_   -- 10
            refine TrC.spell 178 rfl (bv (b := true) (by simp [(hpi.1 (by simpa using h13)).1])) ?_
            refine TrC.take ⟨_, _, rfl, rfl, rfl⟩ (step_not rfl rfl rfl) ?_   -- 11
            refine TrC.take ⟨_, _, rfl, rfl, rfl⟩ (step_pick rfl rfl rfl rfl) ?_   -- 12
            refine TrC.take ⟨_, _, rfl, rfl, rfl⟩ (step_move rfl rfl rfl) ?_   -- 13
            refine TrC.take ⟨_, _, rfl, rfl, rfl⟩ (step_fieldAddrP rfl rfl fd40_2 rfl rfl) ?_   -- 14
            refine TrC.take ⟨_, _, rfl, rfl, rfl⟩ (step_loadP1 rfl rfl rfl ty33 rfl rfl) ?_   -- 15
            refine TrC.take ⟨_, _, rfl, rfl, rfl⟩ (step_bin rfl rfl rfl rfl rfl) ?_   -- 16
            refine TrC.spell 184 rfl (bv (b := false) (by simp [(hpi.1 (by simpa using h13)).2.1])) ?_
            refine TrC.take ⟨_, _, rfl, rfl, rfl⟩ (step_pick rfl rfl rfl rfl) ?_   -- 17
            refine TrC.take ⟨_, _, rfl, rfl, rfl⟩ (step_move rfl rfl rfl) ?_   -- 18
            refine TrC.take ⟨_, _, rfl, rfl, rfl⟩ (step_fieldAddrP rfl rfl fd40_1 rfl rfl) ?_   -- 19
            refine TrC.take ⟨_, _, rfl, rfl, rfl⟩ (step_loadPN rfl rfl rfl ty25 rfl rfl rfl) ?_   -- 20
            refine TrC.take ⟨_, _, rfl, rfl, rfl⟩ (step_loadPN rfl rfl rfl ty25 rfl rfl rfl) ?_   -- 21
            refine TrC.take ⟨_, _, rfl, rfl, rfl⟩ (step_nea rfl rfl rfl rfl rfl ty25 eg25 (eq25 _ _ _ _ _ _) rfl) ?_   -- 22
            refine TrC.spell 190 rfl (bv (b := false) (by simp [(hpi.1 (by simpa using h13)).2.2])) ?_
            refine TrC.take ⟨_, _, rfl, rfl, rfl⟩ (step_pick rfl rfl rfl rfl) ?_   -- 23
            refine TrC.take rfl (step_pick rfl rfl rfl rfl) ?_   -- 24
            refine TrC.take rfl (step_move rfl rfl rfl) ?_   -- 25
            refine TrC.take ⟨_, _, rfl, rfl, rfl⟩ (step_move rfl rfl rfl) ?_   -- 26
            refine TrC.take ⟨_, _, rfl, rfl, rfl⟩ (step_not rfl rfl rfl) ?_   -- 27
            refine TrC.take ⟨_, _, rfl, rfl, rfl⟩ (step_move rfl rfl rfl) ?_   -- 28
            refine TrC.skip ⟨_, _, rfl, rfl, rfl⟩ ?_   -- 29
            refine TrC.skip ⟨_, _, rfl, rfl, rfl⟩ ?_   -- 30
            refine TrC.skip ⟨_, _, rfl, rfl, rfl⟩ ?_   -- 31
            refine TrC.skip ⟨_, _, rfl, rfl, rfl⟩ ?_   -- 32
            refine TrC.skip ⟨_, _, rfl, rfl, rfl⟩ ?_   -- 33
            refine TrC.skip ⟨_, _, rfl, rfl, rfl⟩ ?_   -- 34
            refine TrC.skip ⟨_, _, rfl, rfl, rfl⟩ ?_   -- 35
            refine TrC.skip ⟨_, _, rfl, rfl, rfl⟩ ?_   -- 36
            refine TrC.skip ⟨_, _, rfl, rfl, rfl⟩ ?_   -- 37
            refine TrC.skip ⟨_, _, rfl, rfl, rfl⟩ ?_   -- 38
            refine TrC.skip ⟨_, _, rfl, rfl, rfl⟩ ?_   -- 39
            refine TrC.skip ⟨_, _, rfl, rfl, rfl⟩ ?_   -- 40
            refine TrC.take ⟨_, _, rfl, rfl, rfl⟩ (step_pick rfl rfl rfl rfl) ?_   -- 41
            refine TrC.take rfl (step_pick rfl rfl rfl rfl) ?_   -- 42
            refine TrC.done ?_
            refine AT.condF rfl ?_   -- t210
            refine AT.skip ?_
            refine AT.region ?_   -- region 10 law.go:154
            refine TrC.take rfl (step_move rfl rfl rfl) ?_   -- 0
            refine TrC.take rfl (step_addI rfl rfl rfl (by first | omega | (simp; done) | (simp; omega)) (by first | omega | (simp; done) | (simp; omega)) rfl) ?_   -- 1
            refine TrC.take rfl (step_assign rfl rfl rfl) ?_   -- 2
            refine TrC.done ?_
            exact ⟨i + 1, by show i + 1 ≤ n.fl.length; omega, by show n.fl.length - (i + 1) < n.fl.length - i; omega, Sat.wk [] (.cons (.t (.refl _)) (.cons (.p rfl) (.cons (.t (.refl _)) (.cons (.t (.refl _)) (.cons (.p rfl) (.cons (.p rfl) (.cons (.t (conv_i (by simp))) (.nil)))))))) (.cons rfl (.box (.cons (.t (.refl _)) (.cons (.t (.refl _)) (.cons (.t (.refl _)) (.nil))))) (.cons rfl (.box (.cons (.t (.refl _)) (.cons (.t (.refl _)) (.cons (.t (.refl _)) (.cons (.t (.refl _)) (.cons (.t (.refl _)) (.cons (.t (.refl _)) (.cons (.t (.refl _)) (.nil))))))))) (.cons rfl (.box (.cons (.t (.refl _)) (.cons (.t (.refl _)) (.cons (.t (.refl _)) (.cons (.t (.refl _)) (.cons (.t (.refl _)) (.cons (.t (.refl _)) (.cons (.t (.refl _)) (.nil))))))))) (.nil)))) rfl rfl⟩
          · -- t13 = false
            refine AT.region ?_   -- region 14 law.go:158
            refine TrC.take rfl (step_move rfl rfl rfl) ?_   -- 0
            refine TrC.take rfl (step_move rfl rfl rfl) ?_   -- 1
            refine TrC.skip ⟨_, _, rfl, rfl, rfl⟩ ?_   -- 2
            refine TrC.skip ⟨_, _, rfl, rfl, rfl⟩ ?_   -- 3
            refine TrC.skip ⟨_, _, rfl, rfl, rfl⟩ ?_   -- 4
            refine TrC.skip ⟨_, _, rfl, rfl, rfl⟩ ?_   -- 5
            refine TrC.skip ⟨_, _, rfl, rfl, rfl⟩ ?_   -- 6
            refine TrC.skip ⟨_, _, rfl, rfl, rfl⟩ ?_   -- 7
            refine TrC.skip ⟨_, _, rfl, rfl, rfl⟩ ?_   -- 8
            refine TrC.skip ⟨_, _, rfl, rfl, rfl⟩ ?_   -- 9
            refine TrC.skip ⟨_, _, rfl, rfl, rfl⟩ ?_   -- 10
            refine TrC.skip ⟨_, _, rfl, rfl, rfl⟩ ?_   -- 11
            refine TrC.skip ⟨_, _, rfl, rfl, rfl⟩ ?_   -- 12
            refine TrC.skip ⟨_, _, rfl, rfl, rfl⟩ ?_   -- 13
            refine TrC.skip ⟨_, _, rfl, rfl, rfl⟩ ?_   -- 14
            refine TrC.skip ⟨_, _, rfl, rfl, rfl⟩ ?_   -- 15
            refine TrC.skip ⟨_, _, rfl, rfl, rfl⟩ ?_   -- 16
            refine TrC.skip ⟨_, _, rfl, rfl, rfl⟩ ?_   -- 17
            refine TrC.skip ⟨_, _, rfl, rfl, rfl⟩ ?_   -- 18
            refine TrC.skip ⟨_, _, rfl, rfl, rfl⟩ ?_   -- 19
            refine TrC.skip ⟨_, _, rfl, rfl, rfl⟩ ?_   -- 20
            refine TrC.skip ⟨_, _, rfl, rfl, rfl⟩ ?_   -- 21
            refine TrC.skip ⟨_, _, rfl, rfl, rfl⟩ ?_   -- 22
            refine TrC.skip ⟨_, _, rfl, rfl, rfl⟩ ?_   -- 23
            refine TrC.take rfl (step_pick rfl rfl rfl rfl) ?_   -- 24
            refine TrC.take rfl (step_move rfl rfl rfl) ?_   -- 25
            refine TrC.take ⟨_, _, rfl, rfl, rfl⟩ (step_move rfl rfl rfl) ?_   -- 26
            refine TrC.take ⟨_, _, rfl, rfl, rfl⟩ (step_not rfl rfl rfl) ?_   -- 27
            refine TrC.take ⟨_, _, rfl, rfl, rfl⟩ (step_move rfl rfl rfl) ?_   -- 28
            refine TrC.take ⟨_, _, rfl, rfl, rfl⟩ (step_fieldAddrP rfl rfl fd40_2 rfl rfl) ?_   -- 29
            refine TrC.take ⟨_, _, rfl, rfl, rfl⟩ (step_loadP1 rfl rfl rfl ty33 rfl rfl) ?_   -- 30
            refine TrC.take ⟨_, _, rfl, rfl, rfl⟩ (step_fieldAddrP rfl rfl fd40_2 rfl rfl) ?_   -- 31
            refine TrC.take ⟨_, _, rfl, rfl, rfl⟩ (step_loadP1 rfl rfl rfl ty33 rfl rfl) ?_   -- 32
            refine TrC.take ⟨_, _, rfl, rfl, rfl⟩ (step_bin rfl rfl rfl rfl rfl) ?_   -- 33
            refine TrC.spell 201 rfl (bv (b := false) (by simp [(hpi.2 (by simpa using h13)).1])) ?_
            refine TrC.take ⟨_, _, rfl, rfl, rfl⟩ (step_move rfl rfl rfl) ?_   -- 34
            refine TrC.take ⟨_, _, rfl, rfl, rfl⟩ (step_fieldAddrP rfl rfl fd40_2 rfl rfl) ?_   -- 35
            refine TrC.take ⟨_, _, rfl, rfl, rfl⟩ (step_loadP1 rfl rfl rfl ty33 rfl rfl) ?_   -- 36
            refine TrC.take ⟨_, _, rfl, rfl, rfl⟩ (step_fieldAddrP rfl rfl fd40_2 rfl rfl) ?_   -- 37
            refine TrC.take ⟨_, _, rfl, rfl, rfl⟩ (step_loadP1 rfl rfl rfl ty33 rfl rfl) ?_   -- 38
            refine TrC.take ⟨_, _, rfl, rfl, rfl⟩ (step_bin rfl rfl rfl rfl rfl) ?_   -- 39
            refine TrC.spell 207 rfl (bv (b := false) (by simp [(hpi.2 (by simpa using h13)).2])) ?_
            refine TrC.take ⟨_, _, rfl, rfl, rfl⟩ (step_pick rfl rfl rfl rfl) ?_   -- 40
            refine TrC.take ⟨_, _, rfl, rfl, rfl⟩ (step_pick rfl rfl rfl rfl) ?_   -- 41
            refine TrC.take rfl (step_pick rfl rfl rfl rfl) ?_   -- 42
            refine TrC.done ?_
            refine AT.condF rfl ?_   -- t210
            refine AT.skip ?_
            refine AT.region ?_   -- region 10 law.go:154
            refine TrC.take rfl (step_move rfl rfl rfl) ?_   -- 0
            refine TrC.take rfl (step_addI rfl rfl rfl (by first | omega | (simp; done) | (simp; omega)) (by first | omega | (simp; done) | (simp; omega)) rfl) ?_   -- 1
            refine TrC.take rfl (step_assign rfl rfl rfl) ?_   -- 2
            refine TrC.done ?_
            exact ⟨i + 1, by show i + 1 ≤ n.fl.length; omega, by show n.fl.length - (i + 1) < n.fl.length - i; omega, Sat.wk [] (.cons (.t (.refl _)) (.cons (.p rfl) (.cons (.t (.refl _)) (.cons (.t (.refl _)) (.cons (.p rfl) (.cons (.p rfl) (.cons (.t (conv_i (by simp))) (.nil)))))))) (.cons rfl (.box (.cons (.t (.refl _)) (.cons (.t (.refl _)) (.cons (.t (.refl _)) (.nil))))) (.cons rfl (.box (.cons (.t (.refl _)) (.cons (.t (.refl _)) (.cons (.t (.refl _)) (.cons (.t (.refl _)) (.cons (.t (.refl _)) (.cons (.t (.refl _)) (.cons (.t (.refl _)) (.nil))))))))) (.cons rfl (.box (.cons (.t (.refl _)) (.cons (.t (.refl _)) (.cons (.t (.refl _)) (.cons (.t (.refl _)) (.cons (.t (.refl _)) (.cons (.t (.refl _)) (.cons (.t (.refl _)) (.nil))))))))) (.nil)))) rfl rfl⟩
        · -- t142 = false
          refine TrC.take ⟨_, _, rfl, rfl, rfl⟩ (step_fieldAddrP rfl rfl fd25_1 rfl rfl) ?_   -- 11
          refine TrC.take ⟨_, _, rfl, rfl, rfl⟩ (step_loadP1 rfl rfl rfl ty3 rfl rfl) ?_   -- 12
          refine TrC.take ⟨_, _, rfl, rfl, rfl⟩ (step_move rfl rfl rfl) ?_   -- 13
          refine TrC.take ⟨_, _, rfl, rfl, rfl⟩ (step_bin rfl rfl rfl rfl rfl) ?_   -- 14
          refine TrC.take ⟨_, _, rfl, rfl, rfl⟩ (step_move rfl rfl rfl) ?_   -- 15
          refine TrC.cases (d := 147) rfl (fun h147 => ?_) (fun h147 => ?_)
          · -- t147 = true
            refine TrC.take ⟨_, _, rfl, rfl, rfl⟩ (step_fieldAddrP rfl rfl fd25_2 rfl rfl) ?_   -- 16
            refine TrC.take ⟨_, _, rfl, rfl, rfl⟩ (step_loadP1 rfl rfl rfl ty3 rfl rfl) ?_   -- 17
            refine TrC.take ⟨_, _, rfl, rfl, rfl⟩ (step_move rfl rfl rfl) ?_   -- 18
            refine TrC.take ⟨_, _, rfl, rfl, rfl⟩ (step_bin rfl rfl rfl rfl rfl) ?_   -- 19
            refine TrC.take ⟨_, _, rfl, rfl, rfl⟩ (step_pick rfl rfl rfl rfl) ?_   -- 20
            refine TrC.take rfl (step_pick rfl rfl rfl rfl) ?_   -- 21
            refine TrC.take rfl (step_assign rfl rfl rfl) ?_   -- 22
            refine TrC.done ?_
            refine AT.spell 13 rfl (bv (b := decide (pr p.fr p.to = pr a b)) (by simp only [pr_eq]; first | (simp_all; done) | (rw [Bool.eq_iff_iff]; simp_all; done) | (rw [Bool.eq_iff_iff]; simp_all <;> omega))) ?_
            refine AT.seq ?_
            refine AT.regionD mixed rfl ?_   -- region 13 law.go:157
            refine TrC.take rfl (step_fieldAddrP rfl rfl fd40_0 rfl rfl) ?_   -- 0
            refine TrC.take rfl (step_loadPN rfl rfl rfl ty30 rfl rfl rfl) ?_   -- 1
            refine TrC.take rfl (step_fieldAddrP rfl rfl fd25_0 rfl rfl) ?_   -- 2
            refine TrC.take rfl (step_loadP1 rfl rfl rfl ty3 rfl rfl) ?_   -- 3
            refine TrC.take rfl (step_call0 rfl rfl ((D17 hvX p.id).eq (et hA.symm)) rfl) ?_   -- 4
            refine TrC.take rfl (step_fieldAddrP rfl rfl fd40_0 rfl rfl) ?_   -- 5
            refine TrC.take rfl (step_loadPN rfl rfl rfl ty30 rfl rfl rfl) ?_   -- 6
            refine TrC.take rfl (step_fieldAddrP rfl rfl fd25_0 rfl rfl) ?_   -- 7
            refine TrC.take rfl (step_loadP1 rfl rfl rfl ty3 rfl rfl) ?_   -- 8
            refine TrC.take rfl (step_call0 rfl rfl ((D17 hvY p.id).eq (et hB.symm)) rfl) ?_   -- 9
            refine TrC.take rfl (step_loadPN rfl rfl rfl ty30 rfl rfl rfl) ?_   -- 10
            refine TrC.take rfl (step_fieldAddrP rfl rfl fd25_0 rfl rfl) ?_   -- 11
            refine TrC.take rfl (step_loadP1 rfl rfl rfl ty3 rfl rfl) ?_   -- 12
            refine TrC.take rfl (step_call0 rfl rfl ((D17 hv p.id).eq (et hD.symm)) rfl) ?_   -- 13
            refine TrC.take rfl (step_allocC rfl rfl ze40 zc40 rfl rfl rfl) ?_   -- 14
            refine TrC.take rfl (step_allocC rfl rfl ze40 zc40 rfl rfl rfl) ?_   -- 15
            refine TrC.take rfl (step_allocC rfl rfl ze40 zc40 rfl rfl rfl) ?_   -- 16
            refine TrC.take rfl (step_storeP rfl rfl rfl rfl rfl (.inl rfl) ty40 rfl rfl rfl) ?_   -- 17
            refine TrC.take rfl (step_storeP rfl rfl rfl rfl rfl (.inl rfl) ty40 rfl rfl rfl) ?_   -- 18
            refine TrC.take rfl (step_storeP rfl rfl rfl rfl rfl (.inl rfl) ty40 rfl rfl rfl) ?_   -- 19
            refine TrC.doneD rfl ?_
            refine AT.seq ?_
            refine AT.cases (d := 13) rfl (fun h13 => ?_) (fun h13 => ?_)
            · -- t13 = true
              refine AT.region ?_   -- region 14 law.go:158
              refine TrC.take rfl (step_move rfl rfl rfl) ?_   -- 0
              refine TrC.take rfl (step_move rfl rfl rfl) ?_   -- 1
              refine TrC.take ⟨_, _, rfl, rfl, rfl⟩ (step_fieldAddrP rfl rfl fd40_2 rfl rfl) ?_   -- 2
              refine TrC.take ⟨_, _, rfl, rfl, rfl⟩ (step_loadP1 rfl rfl rfl ty33 rfl rfl) ?_   -- 3
              refine TrC.take ⟨_, _, rfl, rfl, rfl⟩ (step_bin rfl rfl rfl rfl rfl) ?_   -- 4
              refine TrC.spell 172 rfl (bv (b := false) (by simp [(hpi.1 (by simpa using h13)).1])) ?_
              refine TrC.take ⟨_, _, rfl, rfl, rfl⟩ (step_move rfl rfl rfl) ?_   -- 5
              refine TrC.take ⟨_, _, rfl, rfl, rfl⟩ (step_fieldAddrP rfl rfl fd40_0 rfl rfl) ?_   -- 6
              refine TrC.take ⟨_, _, rfl, rfl, rfl⟩ (step_loadPN rfl rfl rfl ty30 rfl rfl rfl) ?_   -- 7
              refine TrC.take ⟨_, _, rfl, rfl, rfl⟩ (step_fieldAddrP rfl rfl fd40_0 rfl rfl) ?_   -- 8
              refine TrC.take ⟨_, _, rfl, rfl, rfl⟩ (step_loadPN rfl rfl rfl ty30 rfl rfl rfl) ?_   -- 9
              refine TrC.take ⟨_, _, rfl, rfl, rfl⟩ (step_call0 rfl rfl (D15 hvA X.n) rfl) ?_   -- 10
              refine TrC.spell 178 rfl (bv (b := true) (by simp [(hpi.1 (by simpa using h13)).1])) ?_
              refine TrC.take ⟨_, _, rfl, rfl, rfl⟩ (step_not rfl rfl rfl) ?_   -- 11
              refine TrC.take ⟨_, _, rfl, rfl, rfl⟩ (step_pick rfl rfl rfl rfl) ?_   -- 12
              refine TrC.take ⟨_, _, rfl, rfl, rfl⟩ (step_move rfl rfl rfl) ?_   -- 13
              refine TrC.take ⟨_, _, rfl, rfl, rfl⟩ (step_fieldAddrP rfl rfl fd40_2 rfl rfl) ?_   -- 14
              refine TrC.take ⟨_, _, rfl, rfl, rfl⟩ (step_loadP1 rfl rfl rfl ty33 rfl rfl) ?_   -- 15
              refine TrC.take ⟨_, _, rfl, rfl, rfl⟩ (step_bin rfl rfl rfl rfl rfl) ?_   -- 16
              refine TrC.spell 184 rfl (bv (b := false) (by simp [(hpi.1 (by simpa using h13)).2.1])) ?_
              refine TrC.take ⟨_, _, rfl, rfl, rfl⟩ (step_pick rfl rfl rfl rfl) ?_   -- 17
              refine TrC.take ⟨_, _, rfl, rfl, rfl⟩ (step_move rfl rfl rfl) ?_   -- 18
              refine TrC.take ⟨_, _, rfl, rfl, rfl⟩ (step_fieldAddrP rfl rfl fd40_1 rfl rfl) ?_   -- 19
              refine TrC.take ⟨_, _, rfl, rfl, rfl⟩ (step_loadPN rfl rfl rfl ty25 rfl rfl rfl) ?_   -- 20
              refine TrC.take ⟨_, _, rfl, rfl, rfl⟩ (step_loadPN rfl rfl rfl ty25 rfl rfl rfl) ?_   -- 21
              refine TrC.take ⟨_, _, rfl, rfl, rfl⟩ (step_nea rfl rfl rfl rfl rfl ty25 eg25 (eq25 _ _ _ _ _ _) rfl) ?_   -- 22
              refine TrC.spell 190 rfl (bv (b := false) (by simp [(hpi.1 (by simpa using h13)).2.2])) ?_
              refine TrC.take ⟨_, _, rfl, rfl, rfl⟩ (step_pick rfl rfl rfl rfl) ?_   -- 23
              refine TrC.take rfl (step_pick rfl rfl rfl rfl) ?_   -- 24
              refine TrC.take rfl (step_move rfl rfl rfl) ?_   -- 25
              refine TrC.take ⟨_, _, rfl, rfl, rfl⟩ (step_move rfl rfl rfl) ?_   -- 26
              refine TrC.take ⟨_, _, rfl, rfl, rfl⟩ (step_not rfl rfl rfl) ?_   -- 27
              refine TrC.take ⟨_, _, rfl, rfl, rfl⟩ (step_move rfl rfl rfl) ?_   -- 28
              refine TrC.skip ⟨_, _, rfl, rfl, rfl⟩ ?_   -- 29
              refine TrC.skip ⟨_, _, rfl, rfl, rfl⟩ ?_   -- 30
              refine TrC.skip ⟨_, _, rfl, rfl, rfl⟩ ?_   -- 31
              refine TrC.skip ⟨_, _, rfl, rfl, rfl⟩ ?_   -- 32
              refine TrC.skip ⟨_, _, rfl, rfl, rfl⟩ ?_   -- 33
              refine TrC.skip ⟨_, _, rfl, rfl, rfl⟩ ?_   -- 34
              refine TrC.skip ⟨_, _, rfl, rfl, rfl⟩ ?_   -- 35
              refine TrC.skip ⟨_, _, rfl, rfl, rfl⟩ ?_   -- 36
              refine TrC.skip ⟨_, _, rfl, rfl, rfl⟩ ?_   -- 37
              refine TrC.skip ⟨_, _, rfl, rfl, rfl⟩ ?_   -- 38
              refine TrC.skip ⟨_, _, rfl, rfl, rfl⟩ ?_   -- 39
              refine TrC.skip ⟨_, _, rfl, rfl, rfl⟩ ?_   -- 40
              refine TrC.take ⟨_, _, rfl, rfl, rfl⟩ (step_pick rfl rfl rfl rfl) ?_   -- 41
              refine TrC.take rfl (step_pick rfl rfl rfl rfl) ?_   -- 42
              refine TrC.done ?_
              refine AT.condF rfl ?_   -- t210
              refine AT.skip ?_
              refine AT.region ?_   -- region 10 law.go:154
              refine TrC.take rfl (step_move rfl rfl rfl) ?_   -- 0
              refine TrC.take rfl (step_addI rfl rfl rfl (by first | omega | (simp; done) | (simp; omega)) (by first | omega | (simp; done) | (simp; omega)) rfl) ?_   -- 1
              refine TrC.take rfl (step_assign rfl rfl rfl) ?_   -- 2
              refine TrC.done ?_
              exact ⟨i + 1, by show i + 1 ≤ n.fl.length; omega, by show n.fl.length - (i + 1) < n.fl.length - i; omega, Sat.wk [] (.cons (.t (.refl _)) (.cons (.p rfl) (.cons (.t (.refl _)) (.cons (.t (.refl _)) (.cons (.p rfl) (.cons (.p rfl) (.cons (.t (conv_i (by simp))) (.nil)))))))) (.cons rfl (.box (.cons (.t (.refl _)) (.cons (.t (.refl _)) (.cons (.t (.refl _)) (.nil))))) (.cons rfl (.box (.cons (.t (.refl _)) (.cons (.t (.refl _)) (.cons (.t (.refl _)) (.cons (.t (.refl _)) (.cons (.t (.refl _)) (.cons (.t (.refl _)) (.cons (.t (.refl _)) (.nil))))))))) (.cons rfl (.box (.cons (.t (.refl _)) (.cons (.t (.refl _)) (.cons (.t (.refl _)) (.cons (.t (.refl _)) (.cons (.t (.refl _)) (.cons (.t (.refl _)) (.cons (.t (.refl _)) (.nil))))))))) (.nil)))) rfl rfl⟩
            · -- t13 = false
              refine AT.region ?_   -- region 14 law.go:158
              refine TrC.take rfl (step_move rfl rfl rfl) ?_   -- 0
              refine TrC.take rfl (step_move rfl rfl rfl) ?_   -- 1
              refine TrC.skip ⟨_, _, rfl, rfl, rfl⟩ ?_   -- 2
              refine TrC.skip ⟨_, _, rfl, rfl, rfl⟩ ?_   -- 3
              refine TrC.skip ⟨_, _, rfl, rfl, rfl⟩ ?_   -- 4
              refine TrC.skip ⟨_, _, rfl, rfl, rfl⟩ ?_   -- 5
              refine TrC.skip ⟨_, _, rfl, rfl, rfl⟩ ?_   -- 6
              refine TrC.skip ⟨_, _, rfl, rfl, rfl⟩ ?_   -- 7
              refine TrC.skip ⟨_, _, rfl, rfl, rfl⟩ ?_   -- 8
              refine TrC.skip ⟨_, _, rfl, rfl, rfl⟩ ?_   -- 9
              refine TrC.skip ⟨_, _, rfl, rfl, rfl⟩ ?_   -- 10
              refine TrC.skip ⟨_, _, rfl, rfl, rfl⟩ ?_   -- 11
              refine TrC.skip ⟨_, _, rfl, rfl, rfl⟩ ?_   -- 12
              refine TrC.skip ⟨_, _, rfl, rfl, rfl⟩ ?_   -- 13
              refine TrC.skip ⟨_, _, rfl, rfl, rfl⟩ ?_   -- 14
              refine TrC.skip ⟨_, _, rfl, rfl, rfl⟩ ?_   -- 15
              refine TrC.skip ⟨_, _, rfl, rfl, rfl⟩ ?_   -- 16
              refine TrC.skip ⟨_, _, rfl, rfl, rfl⟩ ?_   -- 17
              refine TrC.skip ⟨_, _, rfl, rfl, rfl⟩ ?_   -- 18
              refine TrC.skip ⟨_, _, rfl, rfl, rfl⟩ ?_   -- 19
              refine TrC.skip ⟨_, _, rfl, rfl, rfl⟩ ?_   -- 20
              refine TrC.skip ⟨_, _, rfl, rfl, rfl⟩ ?_   -- 21
              refine TrC.skip ⟨_, _, rfl, rfl, rfl⟩ ?_   -- 22
              refine TrC.skip ⟨_, _, rfl, rfl, rfl⟩ ?_   -- 23
              refine TrC.take rfl (step_pick rfl rfl rfl rfl) ?_   -- 24
              refine TrC.take rfl (step_move rfl rfl rfl) ?_   -- 25
              refine TrC.take ⟨_, _, rfl, rfl, rfl⟩ (step_move rfl rfl rfl) ?_   -- 26
              refine TrC.take ⟨_, _, rfl, rfl, rfl⟩ (step_not rfl rfl rfl) ?_   -- 27
              refine TrC.take ⟨_, _, rfl, rfl, rfl⟩ (step_move rfl rfl rfl) ?_   -- 28
              refine TrC.take ⟨_, _, rfl, rfl, rfl⟩ (step_fieldAddrP rfl rfl fd40_2 rfl rfl) ?_   -- 29
              refine TrC.take ⟨_, _, rfl, rfl, rfl⟩ (step_loadP1 rfl rfl rfl ty33 rfl rfl) ?_   -- 30
              refine TrC.take ⟨_, _, rfl, rfl, rfl⟩ (step_fieldAddrP rfl rfl fd40_2 rfl rfl) ?_   -- 31
              refine TrC.take ⟨_, _, rfl, rfl, rfl⟩ (step_loadP1 rfl rfl rfl ty33 rfl rfl) ?_   -- 32
              refine TrC.take ⟨_, _, rfl, rfl, rfl⟩ (step_bin rfl rfl rfl rfl rfl) ?_   -- 33
              refine TrC.spell 201 rfl (bv (b := false) (by simp [(hpi.2 (by simpa using h13)).1])) ?_
              refine TrC.take ⟨_, _, rfl, rfl, rfl⟩ (step_move rfl rfl rfl) ?_   -- 34
              refine TrC.take ⟨_, _, rfl, rfl, rfl⟩ (step_fieldAddrP rfl rfl fd40_2 rfl rfl) ?_   -- 35
              refine TrC.take ⟨_, _, rfl, rfl, rfl⟩ (step_loadP1 rfl rfl rfl ty33 rfl rfl) ?_   -- 36
              refine TrC.take ⟨_, _, rfl, rfl, rfl⟩ (step_fieldAddrP rfl rfl fd40_2 rfl rfl) ?_   -- 37
              refine TrC.take ⟨_, _, rfl, rfl, rfl⟩ (step_loadP1 rfl rfl rfl ty33 rfl rfl) ?_   -- 38
              refine TrC.take ⟨_, _, rfl, rfl, rfl⟩ (step_bin rfl rfl rfl rfl rfl) ?_   -- 39
              refine TrC.spell 207 rfl (bv (b := false) (by simp [(hpi.2 (by simpa using h13)).2])) ?_
              refine TrC.take ⟨_, _, rfl, rfl, rfl⟩ (step_pick rfl rfl rfl rfl) ?_   -- 40
              refine TrC.take ⟨_, _, rfl, rfl, rfl⟩ (step_pick rfl rfl rfl rfl) ?_   -- 41
              refine TrC.take rfl (step_pick rfl rfl rfl rfl) ?_   -- 42
              refine TrC.done ?_
              refine AT.condF rfl ?_   -- t210
              refine AT.skip ?_
              refine AT.region ?_   -- region 10 law.go:154
              refine TrC.take rfl (step_move rfl rfl rfl) ?_   -- 0
              refine TrC.take rfl (step_addI rfl rfl rfl (by first | omega | (simp; done) | (simp; omega)) (by first | omega | (simp; done) | (simp; omega)) rfl) ?_   -- 1
              refine TrC.take rfl (step_assign rfl rfl rfl) ?_   -- 2
              refine TrC.done ?_
              exact ⟨i + 1, by show i + 1 ≤ n.fl.length; omega, by show n.fl.length - (i + 1) < n.fl.length - i; omega, Sat.wk [] (.cons (.t (.refl _)) (.cons (.p rfl) (.cons (.t (.refl _)) (.cons (.t (.refl _)) (.cons (.p rfl) (.cons (.p rfl) (.cons (.t (conv_i (by simp))) (.nil)))))))) (.cons rfl (.box (.cons (.t (.refl _)) (.cons (.t (.refl _)) (.cons (.t (.refl _)) (.nil))))) (.cons rfl (.box (.cons (.t (.refl _)) (.cons (.t (.refl _)) (.cons (.t (.refl _)) (.cons (.t (.refl _)) (.cons (.t (.refl _)) (.cons (.t (.refl _)) (.cons (.t (.refl _)) (.nil))))))))) (.cons rfl (.box (.cons (.t (.refl _)) (.cons (.t (.refl _)) (.cons (.t (.refl _)) (.cons (.t (.refl _)) (.cons (.t (.refl _)) (.cons (.t (.refl _)) (.cons (.t (.refl _)) (.nil))))))))) (.nil)))) rfl rfl⟩
          · -- t147 = false
            refine TrC.skip ⟨_, _, rfl, rfl, rfl⟩ ?_   -- 16
            refine TrC.skip ⟨_, _, rfl, rfl, rfl⟩ ?_   -- 17
            refine TrC.skip ⟨_, _, rfl, rfl, rfl⟩ ?_   -- 18
            refine TrC.skip ⟨_, _, rfl, rfl, rfl⟩ ?_   -- 19
            refine TrC.take ⟨_, _, rfl, rfl, rfl⟩ (step_pick rfl rfl rfl rfl) ?_   -- 20
            refine TrC.take rfl (step_pick rfl rfl rfl rfl) ?_   -- 21
            refine TrC.take rfl (step_assign rfl rfl rfl) ?_   -- 22
            refine TrC.done ?_
            refine AT.spell 13 rfl (bv (b := decide (pr p.fr p.to = pr a b)) (by simp only [pr_eq]; first | (simp_all; done) | (rw [Bool.eq_iff_iff]; simp_all; done) | (rw [Bool.eq_iff_iff]; simp_all <;> omega))) ?_
            refine AT.seq ?_
            refine AT.regionD mixed rfl ?_   -- region 13 law.go:157
            refine TrC.take rfl (step_fieldAddrP rfl rfl fd40_0 rfl rfl) ?_   -- 0
            refine TrC.take rfl (step_loadPN rfl rfl rfl ty30 rfl rfl rfl) ?_   -- 1
            refine TrC.take rfl (step_fieldAddrP rfl rfl fd25_0 rfl rfl) ?_   -- 2
            refine TrC.take rfl (step_loadP1 rfl rfl rfl ty3 rfl rfl) ?_   -- 3
            refine TrC.take rfl (step_call0 rfl rfl ((D17 hvX p.id).eq (et hA.symm)) rfl) ?_   -- 4
            refine TrC.take rfl (step_fieldAddrP rfl rfl fd40_0 rfl rfl) ?_   -- 5
            refine TrC.take rfl (step_loadPN rfl rfl rfl ty30 rfl rfl rfl) ?_   -- 6
            refine TrC.take rfl (step_fieldAddrP rfl rfl fd25_0 rfl rfl) ?_   -- 7
            refine TrC.take rfl (step_loadP1 rfl rfl rfl ty3 rfl rfl) ?_   -- 8
            refine TrC.take rfl (step_call0 rfl rfl ((D17 hvY p.id).eq (et hB.symm)) rfl) ?_   -- 9
            refine TrC.take rfl (step_loadPN rfl rfl rfl ty30 rfl rfl rfl) ?_   -- 10
            refine TrC.take rfl (step_fieldAddrP rfl rfl fd25_0 rfl rfl) ?_   -- 11
            refine TrC.take rfl (step_loadP1 rfl rfl rfl ty3 rfl rfl) ?_   -- 12
            refine TrC.take rfl (step_call0 rfl rfl ((D17 hv p.id).eq (et hD.symm)) rfl) ?_   -- 13
            refine TrC.take rfl (step_allocC rfl rfl ze40 zc40 rfl rfl rfl) ?_   -- 14
            refine TrC.take rfl (step_allocC rfl rfl ze40 zc40 rfl rfl rfl) ?_   -- 15
            refine TrC.take rfl (step_allocC rfl rfl ze40 zc40 rfl rfl rfl) ?_   -- 16
            refine TrC.take rfl (step_storeP rfl rfl rfl rfl rfl (.inl rfl) ty40 rfl rfl rfl) ?_   -- 17
            refine TrC.take rfl (step_storeP rfl rfl rfl rfl rfl (.inl rfl) ty40 rfl rfl rfl) ?_   -- 18
            refine TrC.take rfl (step_storeP rfl rfl rfl rfl rfl (.inl rfl) ty40 rfl rfl rfl) ?_   -- 19
            refine TrC.doneD rfl ?_
            refine AT.seq ?_
            refine AT.cases (d := 13) rfl (fun h13 => ?_) (fun h13 => ?_)
            · -- t13 = true
              refine AT.region ?_   -- region 14 law.go:158
              refine TrC.take rfl (step_move rfl rfl rfl) ?_   -- 0
              refine TrC.take rfl (step_move rfl rfl rfl) ?_   -- 1
              refine TrC.take ⟨_, _, rfl, rfl, rfl⟩ (step_fieldAddrP rfl rfl fd40_2 rfl rfl) ?_   -- 2
              refine TrC.take ⟨_, _, rfl, rfl, rfl⟩ (step_loadP1 rfl rfl rfl ty33 rfl rfl) ?_   -- 3
              refine TrC.take ⟨_, _, rfl, rfl, rfl⟩ (step_bin rfl rfl rfl rfl rfl) ?_   -- 4
              refine TrC.spell 172 rfl (bv (b := false) (by simp [(hpi.1 (by simpa using h13)).1])) ?_
              refine TrC.take ⟨_, _, rfl, rfl, rfl⟩ (step_move rfl rfl rfl) ?_   -- 5
              refine TrC.take ⟨_, _, rfl, rfl, rfl⟩ (step_fieldAddrP rfl rfl fd40_0 rfl rfl) ?_   -- 6
              refine TrC.take ⟨_, _, rfl, rfl, rfl⟩ (step_loadPN rfl rfl rfl ty30 rfl rfl rfl) ?_   -- 7
              refine TrC.take ⟨_, _, rfl, rfl, rfl⟩ (step_fieldAddrP rfl rfl fd40_0 rfl rfl) ?_   -- 8
              refine TrC.take ⟨_, _, rfl, rfl, rfl⟩ (step_loadPN rfl rfl rfl ty30 rfl rfl rfl) ?_   -- 9
              refine TrC.take ⟨_, _, rfl, rfl, rfl⟩ (step_call0 rfl rfl (D15 hvA X.n) rfl) ?_   -- 10
              refine TrC.spell 178 rfl (bv (b := true) (by simp [(hpi.1 (by simpa using h13)).1])) ?_
              refine TrC.take ⟨_, _, rfl, rfl, rfl⟩ (step_not rfl rfl rfl) ?_   -- 11
              refine TrC.take ⟨_, _, rfl, rfl, rfl⟩ (step_pick rfl rfl rfl rfl) ?_   -- 12
              refine TrC.take ⟨_, _, rfl, rfl, rfl⟩ (step_move rfl rfl rfl) ?_   -- 13
              refine TrC.take ⟨_, _, rfl, rfl, rfl⟩ (step_fieldAddrP rfl rfl fd40_2 rfl rfl) ?_   -- 14
              refine TrC.take ⟨_, _, rfl, rfl, rfl⟩ (step_loadP1 rfl rfl rfl ty33 rfl rfl) ?_   -- 15
              refine TrC.take ⟨_, _, rfl, rfl, rfl⟩ (step_bin rfl rfl rfl rfl rfl) ?_   -- 16
              refine TrC.spell 184 rfl (bv (b := false) (by simp [(hpi.1 (by simpa using h13)).2.1])) ?_
              refine TrC.take ⟨_, _, rfl, rfl, rfl⟩ (step_pick rfl rfl rfl rfl) ?_   -- 17
              refine TrC.take ⟨_, _, rfl, rfl, rfl⟩ (step_move rfl rfl rfl) ?_   -- 18
              refine TrC.take ⟨_, _, rfl, rfl, rfl⟩ (step_fieldAddrP rfl rfl fd40_1 rfl rfl) ?_   -- 19
              refine TrC.take ⟨_, _, rfl, rfl, rfl⟩ (step_loadPN rfl rfl rfl ty25 rfl rfl rfl) ?_   -- 20
              refine TrC.take ⟨_, _, rfl, rfl, rfl⟩ (step_loadPN rfl rfl rfl ty25 rfl rfl rfl) ?_   -- 21
              refine TrC.take ⟨_, _, rfl, rfl, rfl⟩ (step_nea rfl rfl rfl rfl rfl ty25 eg25 (eq25 _ _ _ _ _ _) rfl) ?_   -- 22
              refine TrC.spell 190 rfl (bv (b := false) (by simp [(hpi.1 (by simpa using h13)).2.2])) ?_
              refine TrC.take ⟨_, _, rfl, rfl, rfl⟩ (step_pick rfl rfl rfl rfl) ?_   -- 23
              refine TrC.take rfl (step_pick rfl rfl rfl rfl) ?_   -- 24
              refine TrC.take rfl (step_move rfl rfl rfl) ?_   -- 25
              refine TrC.take ⟨_, _, rfl, rfl, rfl⟩ (step_move rfl rfl rfl) ?_   -- 26
              refine TrC.take ⟨_, _, rfl, rfl, rfl⟩ (step_not rfl rfl rfl) ?_   -- 27
              refine TrC.take ⟨_, _, rfl, rfl, rfl⟩ (step_move rfl rfl rfl) ?_   -- 28
              refine TrC.skip ⟨_, _, rfl, rfl, rfl⟩ ?_   -- 29
              refine TrC.skip ⟨_, _, rfl, rfl, rfl⟩ ?_   -- 30
              refine TrC.skip ⟨_, _, rfl, rfl, rfl⟩ ?_   -- 31
              refine TrC.skip ⟨_, _, rfl, rfl, rfl⟩ ?_   -- 32
              refine TrC.skip ⟨_, _, rfl, rfl, rfl⟩ ?_   -- 33
              refine TrC.skip ⟨_, _, rfl, rfl, rfl⟩ ?_   -- 34
              refine TrC.skip ⟨_, _, rfl, rfl, rfl⟩ ?_   -- 35
              refine TrC.skip ⟨_, _, rfl, rfl, rfl⟩ ?_   -- 36
              refine TrC.skip ⟨_, _, rfl, rfl, rfl⟩ ?_   -- 37
              refine TrC.skip ⟨_, _, rfl, rfl, rfl⟩ ?_   -- 38
              refine TrC.skip ⟨_, _, rfl, rfl, rfl⟩ ?_   -- 39
              refine TrC.skip ⟨_, _, rfl, rfl, rfl⟩ ?_   -- 40
              refine TrC.take ⟨_, _, rfl, rfl, rfl⟩ (step_pick rfl rfl rfl rfl) ?_   -- 41
              refine TrC.take rfl (step_pick rfl rfl rfl rfl) ?_   -- 42
              refine TrC.done ?_
              refine AT.condF rfl ?_   -- t210
              refine AT.skip ?_
              refine AT.region ?_   -- region 10 law.go:154
              refine TrC.take rfl (step_move rfl rfl rfl) ?_   -- 0
              refine TrC.take rfl (step_addI rfl rfl rfl (by first | omega | (simp; done) | (simp; omega)) (by first | omega | (simp; done) | (simp; omega)) rfl) ?_   -- 1
              refine TrC.take rfl (step_assign rfl rfl rfl) ?_   -- 2
              refine TrC.done ?_
              exact ⟨i + 1, by show i + 1 ≤ n.fl.length; omega, by show n.fl.length - (i + 1) < n.fl.length - i; omega, Sat.wk [] (.cons (.t (.refl _)) (.cons (.p rfl) (.cons (.t (.refl _)) (.cons (.t (.refl _)) (.cons (.p rfl) (.cons (.p rfl) (.cons (.t (conv_i (by simp))) (.nil)))))))) (.cons rfl (.box (.cons (.t (.refl _)) (.cons (.t (.refl _)) (.cons (.t (.refl _)) (.nil))))) (.cons rfl (.box (.cons (.t (.refl _)) (.cons (.t (.refl _)) (.cons (.t (.refl _)) (.cons (.t (.refl _)) (.cons (.t (.refl _)) (.cons (.t (.refl _)) (.cons (.t (.refl _)) (.nil))))))))) (.cons rfl (.box (.cons (.t (.refl _)) (.cons (.t (.refl _)) (.cons (.t (.refl _)) (.cons (.t (.refl _)) (.cons (.t (.refl _)) (.cons (.t (.refl _)) (.cons (.t (.refl _)) (.nil))))))))) (.nil)))) rfl rfl⟩
            · -- t13 = false
              refine AT.region ?_   -- region 14 law.go:158
              refine TrC.take rfl (step_move rfl rfl rfl) ?_   -- 0
              refine TrC.take rfl (step_move rfl rfl rfl) ?_   -- 1
              refine TrC.skip ⟨_, _, rfl, rfl, rfl⟩ ?_   -- 2
              refine TrC.skip ⟨_, _, rfl, rfl, rfl⟩ ?_   -- 3
              refine TrC.skip ⟨_, _, rfl, rfl, rfl⟩ ?_   -- 4
              refine TrC.skip ⟨_, _, rfl, rfl, rfl⟩ ?_   -- 5
              refine TrC.skip ⟨_, _, rfl, rfl, rfl⟩ ?_   -- 6
              refine TrC.skip ⟨_, _, rfl, rfl, rfl⟩ ?_   -- 7
              refine TrC.skip ⟨_, _, rfl, rfl, rfl⟩ ?_   -- 8
              refine TrC.skip ⟨_, _, rfl, rfl, rfl⟩ ?_   -- 9
              refine TrC.skip ⟨_, _, rfl, rfl, rfl⟩ ?_   -- 10
              refine TrC.skip ⟨_, _, rfl, rfl, rfl⟩ ?_   -- 11
              refine TrC.skip ⟨_, _, rfl, rfl, rfl⟩ ?_   -- 12
              refine TrC.skip ⟨_, _, rfl, rfl, rfl⟩ ?_   -- 13
              refine TrC.skip ⟨_, _, rfl, rfl, rfl⟩ ?_   -- 14
              refine TrC.skip ⟨_, _, rfl, rfl, rfl⟩ ?_   -- 15
              refine TrC.skip ⟨_, _, rfl, rfl, rfl⟩ ?_   -- 16
              refine TrC.skip ⟨_, _, rfl, rfl, rfl⟩ ?_   -- 17
              refine TrC.skip ⟨_, _, rfl, rfl, rfl⟩ ?_   -- 18
              refine TrC.skip ⟨_, _, rfl, rfl, rfl⟩ ?_   -- 19
              refine TrC.skip ⟨_, _, rfl, rfl, rfl⟩ ?_   -- 20
              refine TrC.skip ⟨_, _, rfl, rfl, rfl⟩ ?_   -- 21
              refine TrC.skip ⟨_, _, rfl, rfl, rfl⟩ ?_   -- 22
              refine TrC.skip ⟨_, _, rfl, rfl, rfl⟩ ?_   -- 23
              refine TrC.take rfl (step_pick rfl rfl rfl rfl) ?_   -- 24
              refine TrC.take rfl (step_move rfl rfl rfl) ?_   -- 25
              refine TrC.take ⟨_, _, rfl, rfl, rfl⟩ (step_move rfl rfl rfl) ?_   -- 26
              refine TrC.take ⟨_, _, rfl, rfl, rfl⟩ (step_not rfl rfl rfl) ?_   -- 27
              refine TrC.take ⟨_, _, rfl, rfl, rfl⟩ (step_move rfl rfl rfl) ?_   -- 28
              refine TrC.take ⟨_, _, rfl, rfl, rfl⟩ (step_fieldAddrP rfl rfl fd40_2 rfl rfl) ?_   -- 29
              refine TrC.take ⟨_, _, rfl, rfl, rfl⟩ (step_loadP1 rfl rfl rfl ty33 rfl rfl) ?_   -- 30
              refine TrC.take ⟨_, _, rfl, rfl, rfl⟩ (step_fieldAddrP rfl rfl fd40_2 rfl rfl) ?_   -- 31
              refine TrC.take ⟨_, _, rfl, rfl, rfl⟩ (step_loadP1 rfl rfl rfl ty33 rfl rfl) ?_   -- 32
              refine TrC.take ⟨_, _, rfl, rfl, rfl⟩ (step_bin rfl rfl rfl rfl rfl) ?_   -- 33
              refine TrC.spell 201 rfl (bv (b := false) (by simp [(hpi.2 (by simpa using h13)).1])) ?_
              refine TrC.take ⟨_, _, rfl, rfl, rfl⟩ (step_move rfl rfl rfl) ?_   -- 34
              refine TrC.take ⟨_, _, rfl, rfl, rfl⟩ (step_fieldAddrP rfl rfl fd40_2 rfl rfl) ?_   -- 35
              refine TrC.take ⟨_, _, rfl, rfl, rfl⟩ (step_loadP1 rfl rfl rfl ty33 rfl rfl) ?_   -- 36
              refine TrC.take ⟨_, _, rfl, rfl, rfl⟩ (step_fieldAddrP rfl rfl fd40_2 rfl rfl) ?_   -- 37
              refine TrC.take ⟨_, _, rfl, rfl, rfl⟩ (step_loadP1 rfl rfl rfl ty33 rfl rfl) ?_   -- 38
              refine TrC.take ⟨_, _, rfl, rfl, rfl⟩ (step_bin rfl rfl rfl rfl rfl) ?_   -- 39
              refine TrC.spell 207 rfl (bv (b := false) (by simp [(hpi.2 (by simpa using h13)).2])) ?_
              refine TrC.take ⟨_, _, rfl, rfl, rfl⟩ (step_pick rfl rfl rfl rfl) ?_   -- 40
              refine TrC.take ⟨_, _, rfl, rfl, rfl⟩ (step_pick rfl rfl rfl rfl) ?_   -- 41
              refine TrC.take rfl (step_pick rfl rfl rfl rfl) ?_   -- 42
              refine TrC.done ?_
              refine AT.condF rfl ?_   -- t210
              refine AT.skip ?_
              refine AT.region ?_   -- region 10 law.go:154
              refine TrC.take rfl (step_move rfl rfl rfl) ?_   -- 0
              refine TrC.take rfl (step_addI rfl rfl rfl (by first | omega | (simp; done) | (simp; omega)) (by first | omega | (simp; done) | (simp; omega)) rfl) ?_   -- 1
              refine TrC.take rfl (step_assign rfl rfl rfl) ?_   -- 2
              refine TrC.done ?_
              exact ⟨i + 1, by show i + 1 ≤ n.fl.length; omega, by show n.fl.length - (i + 1) < n.fl.length - i; omega, Sat.wk [] (.cons (.t (.refl _)) (.cons (.p rfl) (.cons (.t (.refl _)) (.cons (.t (.refl _)) (.cons (.p rfl) (.cons (.p rfl) (.cons (.t (conv_i (by simp))) (.nil)))))))) (.cons rfl (.box (.cons (.t (.refl _)) (.cons (.t (.refl _)) (.cons (.t (.refl _)) (.nil))))) (.cons rfl (.box (.cons (.t (.refl _)) (.cons (.t (.refl _)) (.cons (.t (.refl _)) (.cons (.t (.refl _)) (.cons (.t (.refl _)) (.cons (.t (.refl _)) (.cons (.t (.refl _)) (.nil))))))))) (.cons rfl (.box (.cons (.t (.refl _)) (.cons (.t (.refl _)) (.cons (.t (.refl _)) (.cons (.t (.refl _)) (.cons (.t (.refl _)) (.cons (.t (.refl _)) (.cons (.t (.refl _)) (.nil))))))))) (.nil)))) rfl rfl⟩
      · -- t136 = false
        refine TrC.skip ⟨_, _, rfl, rfl, rfl⟩ ?_   -- 5
        refine TrC.skip ⟨_, _, rfl, rfl, rfl⟩ ?_   -- 6
        refine TrC.skip ⟨_, _, rfl, rfl, rfl⟩ ?_   -- 7
        refine TrC.skip ⟨_, _, rfl, rfl, rfl⟩ ?_   -- 8
        refine TrC.take rfl (step_pick rfl rfl rfl rfl) ?_   -- 9
        refine TrC.take rfl (step_move rfl rfl rfl) ?_   -- 10
        refine TrC.take ⟨_, _, rfl, rfl, rfl⟩ (step_fieldAddrP rfl rfl fd25_1 rfl rfl) ?_   -- 11
        refine TrC.take ⟨_, _, rfl, rfl, rfl⟩ (step_loadP1 rfl rfl rfl ty3 rfl rfl) ?_   -- 12
        refine TrC.take ⟨_, _, rfl, rfl, rfl⟩ (step_move rfl rfl rfl) ?_   -- 13
        refine TrC.take ⟨_, _, rfl, rfl, rfl⟩ (step_bin rfl rfl rfl rfl rfl) ?_   -- 14
        refine TrC.take ⟨_, _, rfl, rfl, rfl⟩ (step_move rfl rfl rfl) ?_   -- 15
        refine TrC.cases (d := 147) rfl (fun h147 => ?_) (fun h147 => ?_)
        · -- t147 = true
          refine TrC.take ⟨_, _, rfl, rfl, rfl⟩ (step_fieldAddrP rfl rfl fd25_2 rfl rfl) ?_   -- 16
          refine TrC.take ⟨_, _, rfl, rfl, rfl⟩ (step_loadP1 rfl rfl rfl ty3 rfl rfl) ?_   -- 17
          refine TrC.take ⟨_, _, rfl, rfl, rfl⟩ (step_move rfl rfl rfl) ?_   -- 18
          refine TrC.take ⟨_, _, rfl, rfl, rfl⟩ (step_bin rfl rfl rfl rfl rfl) ?_   -- 19
          refine TrC.take ⟨_, _, rfl, rfl, rfl⟩ (step_pick rfl rfl rfl rfl) ?_   -- 20
          refine TrC.take rfl (step_pick rfl rfl rfl rfl) ?_   -- 21
          refine TrC.take rfl (step_assign rfl rfl rfl) ?_   -- 22
          refine TrC.done ?_
          refine AT.spell 13 rfl (bv (b := decide (pr p.fr p.to = pr a b)) (by simp only [pr_eq]; first | (simp_all; done) | (rw [Bool.eq_iff_iff]; simp_all; done) | (rw [Bool.eq_iff_iff]; simp_all <;> omega))) ?_
          refine AT.seq ?_
          refine AT.regionD mixed rfl ?_   -- region 13 law.go:157
          refine TrC.take rfl (step_fieldAddrP rfl rfl fd40_0 rfl rfl) ?_   -- 0
          refine TrC.take rfl (step_loadPN rfl rfl rfl ty30 rfl rfl rfl) ?_   -- 1
          refine TrC.take rfl (step_fieldAddrP rfl rfl fd25_0 rfl rfl) ?_   -- 2
          refine TrC.take rfl (step_loadP1 rfl rfl rfl ty3 rfl rfl) ?_   -- 3
          refine TrC.take rfl (step_call0 rfl rfl ((D17 hvX p.id).eq (et hA.symm)) rfl) ?_   -- 4
          refine TrC.take rfl (step_fieldAddrP rfl rfl fd40_0 rfl rfl) ?_   -- 5
          refine TrC.take rfl (step_loadPN rfl rfl rfl ty30 rfl rfl rfl) ?_   -- 6
          refine TrC.take rfl (step_fieldAddrP rfl rfl fd25_0 rfl rfl) ?_   -- 7
          refine TrC.take rfl (step_loadP1 rfl rfl rfl ty3 rfl rfl) ?_   -- 8
          refine TrC.take rfl (step_call0 rfl rfl ((D17 hvY p.id).eq (et hB.symm)) rfl) ?_   -- 9
          refine TrC.take rfl (step_loadPN rfl rfl rfl ty30 rfl rfl rfl) ?_   -- 10
          refine TrC.take rfl (step_fieldAddrP rfl rfl fd25_0 rfl rfl) ?_   -- 11
          refine TrC.take rfl (step_loadP1 rfl rfl rfl ty3 rfl rfl) ?_   -- 12
          refine TrC.take rfl (step_call0 rfl rfl ((D17 hv p.id).eq (et hD.symm)) rfl) ?_   -- 13
          refine TrC.take rfl (step_allocC rfl rfl ze40 zc40 rfl rfl rfl) ?_   -- 14
          refine TrC.take rfl (step_allocC rfl rfl ze40 zc40 rfl rfl rfl) ?_   -- 15
          refine TrC.take rfl (step_allocC rfl rfl ze40 zc40 rfl rfl rfl) ?_   -- 16
          refine TrC.take rfl (step_storeP rfl rfl rfl rfl rfl (.inl rfl) ty40 rfl rfl rfl) ?_   -- 17
          refine TrC.take rfl (step_storeP rfl rfl rfl rfl rfl (.inl rfl) ty40 rfl rfl rfl) ?_   -- 18
          refine TrC.take rfl (step_storeP rfl rfl rfl rfl rfl (.inl rfl) ty40 rfl rfl rfl) ?_   -- 19
          refine TrC.doneD rfl ?_
          refine AT.seq ?_
          refine AT.cases (d := 13) rfl (fun h13 => ?_) (fun h13 => ?_)
          · -- t13 = true
            refine AT.region ?_   -- region 14 law.go:158
            refine TrC.take rfl (step_move rfl rfl rfl) ?_   -- 0
            refine TrC.take rfl (step_move rfl rfl rfl) ?_   -- 1
            refine TrC.take ⟨_, _, rfl, rfl, rfl⟩ (step_fieldAddrP rfl rfl fd40_2 rfl rfl) ?_   -- 2
            refine TrC.take ⟨_, _, rfl, rfl, rfl⟩ (step_loadP1 rfl rfl rfl ty33 rfl rfl) ?_   -- 3
            refine TrC.take ⟨_, _, rfl, rfl, rfl⟩ (step_bin rfl rfl rfl rfl rfl) ?_   -- 4
            refine TrC.spell 172 rfl (bv (b := false) (by simp [(hpi.1 (by simpa using h13)).1])) ?_
            refine TrC.take ⟨_, _, rfl, rfl, rfl⟩ (step_move rfl rfl rfl) ?_   -- 5
            refine TrC.take ⟨_, _, rfl, rfl, rfl⟩ (step_fieldAddrP rfl rfl fd40_0 rfl rfl) ?_   -- 6
            refine TrC.take ⟨_, _, rfl, rfl, rfl⟩ (step_loadPN rfl rfl rfl ty30 rfl rfl rfl) ?_   -- 7
            refine TrC.take ⟨_, _, rfl, rfl, rfl⟩ (step_fieldAddrP rfl rfl fd40_0 rfl rfl) ?_   -- 8
            refine TrC.take ⟨_, _, rfl, rfl, rfl⟩ (step_loadPN rfl rfl rfl ty30 rfl rfl rfl) ?_   -- 9
            refine TrC.take ⟨_, _, rfl, rfl, rfl⟩ (step_call0 rfl rfl (D15 hvA X.n) rfl) ?_   -- 10
            refine TrC.spell 178 rfl (bv (b := true) (by simp [(hpi.1 (by simpa using h13)).1])) ?_
            refine TrC.take ⟨_, _, rfl, rfl, rfl⟩ (step_not rfl rfl rfl) ?_   -- 11
            refine TrC.take ⟨_, _, rfl, rfl, rfl⟩ (step_pick rfl rfl rfl rfl) ?_   -- 12
            refine TrC.take ⟨_, _, rfl, rfl, rfl⟩ (step_move rfl rfl rfl) ?_   -- 13
            refine TrC.take ⟨_, _, rfl, rfl, rfl⟩ (step_fieldAddrP rfl rfl fd40_2 rfl rfl) ?_   -- 14
            refine TrC.take ⟨_, _, rfl, rfl, rfl⟩ (step_loadP1 rfl rfl rfl ty33 rfl rfl) ?_   -- 15
            refine TrC.take ⟨_, _, rfl, rfl, rfl⟩ (step_bin rfl rfl rfl rfl rfl) ?_   -- 16
            refine TrC.spell 184 rfl (bv (b := false) (by simp [(hpi.1 (by simpa using h13)).2.1])) ?_
            refine TrC.take ⟨_, _, rfl, rfl, rfl⟩ (step_pick rfl rfl rfl rfl) ?_   -- 17
            refine TrC.take ⟨_, _, rfl, rfl, rfl⟩ (step_move rfl rfl rfl) ?_   -- 18
            refine TrC.take ⟨_, _, rfl, rfl, rfl⟩ (step_fieldAddrP rfl rfl fd40_1 rfl rfl) ?_   -- 19
            refine TrC.take ⟨_, _, rfl, rfl, rfl⟩ (step_loadPN rfl rfl rfl ty25 rfl rfl rfl) ?_   -- 20
            refine TrC.take ⟨_, _, rfl, rfl, rfl⟩ (step_loadPN rfl rfl rfl ty25 rfl rfl rfl) ?_   -- 21
            refine TrC.take ⟨_, _, rfl, rfl, rfl⟩ (step_nea rfl rfl rfl rfl rfl ty25 eg25 (eq25 _ _ _ _ _ _) rfl) ?_   -- 22
            refine TrC.spell 190 rfl (bv (b := false) (by simp [(hpi.1 (by simpa using h13)).2.2])) ?_
            refine TrC.take ⟨_, _, rfl, rfl, rfl⟩ (step_pick rfl rfl rfl rfl) ?_   -- 23
            refine TrC.take rfl (step_pick rfl rfl rfl rfl) ?_   -- 24
            refine TrC.take rfl (step_move rfl rfl rfl) ?_   -- 25
            refine TrC.take ⟨_, _, rfl, rfl, rfl⟩ (step_move rfl rfl rfl) ?_   -- 26
            refine TrC.take ⟨_, _, rfl, rfl, rfl⟩ (step_not rfl rfl rfl) ?_   -- 27
            refine TrC.take ⟨_, _, rfl, rfl, rfl⟩ (step_move rfl rfl rfl) ?_   -- 28
            refine TrC.skip ⟨_, _, rfl, rfl, rfl⟩ ?_   -- 29
            refine TrC.skip ⟨_, _, rfl, rfl, rfl⟩ ?_   -- 30
            refine TrC.skip ⟨_, _, rfl, rfl, rfl⟩ ?_   -- 31
            refine TrC.skip ⟨_, _, rfl, rfl, rfl⟩ ?_   -- 32
            refine TrC.skip ⟨_, _, rfl, rfl, rfl⟩ ?_   -- 33
            refine TrC.skip ⟨_, _, rfl, rfl, rfl⟩ ?_   -- 34
            refine TrC.skip ⟨_, _, rfl, rfl, rfl⟩ ?_   -- 35
            refine TrC.skip ⟨_, _, rfl, rfl, rfl⟩ ?_   -- 36
            refine TrC.skip ⟨_, _, rfl, rfl, rfl⟩ ?_   -- 37
            refine TrC.skip ⟨_, _, rfl, rfl, rfl⟩ ?_   -- 38
            refine TrC.skip ⟨_, _, rfl, rfl, rfl⟩ ?_   -- 39
            refine TrC.skip ⟨_, _, rfl, rfl, rfl⟩ ?_   -- 40
            refine TrC.take ⟨_, _, rfl, rfl, rfl⟩ (step_pick rfl rfl rfl rfl) ?_   -- 41
            refine TrC.take rfl (step_pick rfl rfl rfl rfl) ?_   -- 42
            refine TrC.done ?_
            refine AT.condF rfl ?_   -- t210
            refine AT.skip ?_
            refine AT.region ?_   -- region 10 law.go:154
            refine TrC.take rfl (step_move rfl rfl rfl) ?_   -- 0
            refine TrC.take rfl (step_addI rfl rfl rfl (by first | omega | (simp; done) | (simp; omega)) (by first | omega | (simp; done) | (simp; omega)) rfl) ?_   -- 1
            refine TrC.take rfl (step_assign rfl rfl rfl) ?_   -- 2
            refine TrC.done ?_
            exact ⟨i + 1, by show i + 1 ≤ n.fl.length; omega, by show n.fl.length - (i + 1) < n.fl.length - i; omega, Sat.wk [] (.cons (.t (.refl _)) (.cons (.p rfl) (.cons (.t (.refl _)) (.cons (.t (.refl _)) (.cons (.p rfl) (.cons (.p rfl) (.cons (.t (conv_i (by simp))) (.nil)))))))) (.cons rfl (.box (.cons (.t (.refl _)) (.cons (.t (.refl _)) (.cons (.t (.refl _)) (.nil))))) (.cons rfl (.box (.cons (.t (.refl _)) (.cons (.t (.refl _)) (.cons (.t (.refl _)) (.cons (.t (.refl _)) (.cons (.t (.refl _)) (.cons (.t (.refl _)) (.cons (.t (.refl _)) (.nil))))))))) (.cons rfl (.box (.cons (.t (.refl _)) (.cons (.t (.refl _)) (.cons (.t (.refl _)) (.cons (.t (.refl _)) (.cons (.t (.refl _)) (.cons (.t (.refl _)) (.cons (.t (.refl _)) (.nil))))))))) (.nil)))) rfl rfl⟩
          · -- t13 = false
            refine AT.region ?_   -- region 14 law.go:158
            refine TrC.take rfl (step_move rfl rfl rfl) ?_   -- 0
            refine TrC.take rfl (step_move rfl rfl rfl) ?_   -- 1
            refine TrC.skip ⟨_, _, rfl, rfl, rfl⟩ ?_   -- 2
            refine TrC.skip ⟨_, _, rfl, rfl, rfl⟩ ?_   -- 3
            refine TrC.skip ⟨_, _, rfl, rfl, rfl⟩ ?_   -- 4
            refine TrC.skip ⟨_, _, rfl, rfl, rfl⟩ ?_   -- 5
            refine TrC.skip ⟨_, _, rfl, rfl, rfl⟩ ?_   -- 6
            refine TrC.skip ⟨_, _, rfl, rfl, rfl⟩ ?_   -- 7
            refine TrC.skip ⟨_, _, rfl, rfl, rfl⟩ ?_   -- 8
            refine TrC.skip ⟨_, _, rfl, rfl, rfl⟩ ?_   -- 9
            refine TrC.skip ⟨_, _, rfl, rfl, rfl⟩ ?_   -- 10
            refine TrC.skip ⟨_, _, rfl, rfl, rfl⟩ ?_   -- 11
            refine TrC.skip ⟨_, _, rfl, rfl, rfl⟩ ?_   -- 12
            refine TrC.skip ⟨_, _, rfl, rfl, rfl⟩ ?_   -- 13
            refine TrC.skip ⟨_, _, rfl, rfl, rfl⟩ ?_   -- 14
            refine TrC.skip ⟨_, _, rfl, rfl, rfl⟩ ?_   -- 15
            refine TrC.skip ⟨_, _, rfl, rfl, rfl⟩ ?_   -- 16
            refine TrC.skip ⟨_, _, rfl, rfl, rfl⟩ ?_   -- 17
            refine TrC.skip ⟨_, _, rfl, rfl, rfl⟩ ?_   -- 18
            refine TrC.skip ⟨_, _, rfl, rfl, rfl⟩ ?_   -- 19
            refine TrC.skip ⟨_, _, rfl, rfl, rfl⟩ ?_   -- 20
            refine TrC.skip ⟨_, _, rfl, rfl, rfl⟩ ?_   -- 21
            refine TrC.skip ⟨_, _, rfl, rfl, rfl⟩ ?_   -- 22
            refine TrC.skip ⟨_, _, rfl, rfl, rfl⟩ ?_   -- 23
            refine TrC.take rfl (step_pick rfl rfl rfl rfl) ?_   -- 24
            refine TrC.take rfl (step_move rfl rfl rfl) ?_   -- 25
            refine TrC.take ⟨_, _, rfl, rfl, rfl⟩ (step_move rfl rfl rfl) ?_   -- 26
            refine TrC.take ⟨_, _, rfl, rfl, rfl⟩ (step_not rfl rfl rfl) ?_   -- 27
            refine TrC.take ⟨_, _, rfl, rfl, rfl⟩ (step_move rfl rfl rfl) ?_   -- 28
            refine TrC.take ⟨_, _, rfl, rfl, rfl⟩ (step_fieldAddrP rfl rfl fd40_2 rfl rfl) ?_   -- 29
            refine TrC.take ⟨_, _, rfl, rfl, rfl⟩ (step_loadP1 rfl rfl rfl ty33 rfl rfl) ?_   -- 30
            refine TrC.take ⟨_, _, rfl, rfl, rfl⟩ (step_fieldAddrP rfl rfl fd40_2 rfl rfl) ?_   -- 31
            refine TrC.take ⟨_, _, rfl, rfl, rfl⟩ (step_loadP1 rfl rfl rfl ty33 rfl rfl) ?_   -- 32
            refine TrC.take ⟨_, _, rfl, rfl, rfl⟩ (step_bin rfl rfl rfl rfl rfl) ?_   -- 33
            refine TrC.spell 201 rfl (bv (b := false) (by simp [(hpi.2 (by simpa using h13)).1])) ?_
            refine TrC.take ⟨_, _, rfl, rfl, rfl⟩ (step_move rfl rfl rfl) ?_   -- 34
            refine TrC.take ⟨_, _, rfl, rfl, rfl⟩ (step_fieldAddrP rfl rfl fd40_2 rfl rfl) ?_   -- 35
            refine TrC.take ⟨_, _, rfl, rfl, rfl⟩ (step_loadP1 rfl rfl rfl ty33 rfl rfl) ?_   -- 36
            refine TrC.take ⟨_, _, rfl, rfl, rfl⟩ (step_fieldAddrP rfl rfl fd40_2 rfl rfl) ?_   -- 37
            refine TrC.take ⟨_, _, rfl, rfl, rfl⟩ (step_loadP1 rfl rfl rfl ty33 rfl rfl) ?_   -- 38
            refine TrC.take ⟨_, _, rfl, rfl, rfl⟩ (step_bin rfl rfl rfl rfl rfl) ?_   -- 39
            refine TrC.spell 207 rfl (bv (b := false) (by simp [(hpi.2 (by simpa using h13)).2])) ?_
            refine TrC.take ⟨_, _, rfl, rfl, rfl⟩ (step_pick rfl rfl rfl rfl) ?_   -- 40
            refine TrC.take ⟨_, _, rfl, rfl, rfl⟩ (step_pick rfl rfl rfl rfl) ?_   -- 41
            refine TrC.take rfl (step_pick rfl rfl rfl rfl) ?_   -- 42
            refine TrC.done ?_
            refine AT.condF rfl ?_   -- t210
            refine AT.skip ?_
            refine AT.region ?_   -- region 10 law.go:154
            refine TrC.take rfl (step_move rfl rfl rfl) ?_   -- 0
            refine TrC.take rfl (step_addI rfl rfl rfl (by first | omega | (simp; done) | (simp; omega)) (by first | omega | (simp; done) | (simp; omega)) rfl) ?_   -- 1
            refine TrC.take rfl (step_assign rfl rfl rfl) ?_   -- 2
            refine TrC.done ?_
            exact ⟨i + 1, by show i + 1 ≤ n.fl.length; omega, by show n.fl.length - (i + 1) < n.fl.length - i; omega, Sat.wk [] (.cons (.t (.refl _)) (.cons (.p rfl) (.cons (.t (.refl _)) (.cons (.t (.refl _)) (.cons (.p rfl) (.cons (.p rfl) (.cons (.t (conv_i (by simp))) (.nil)))))))) (.cons rfl (.box (.cons (.t (.refl _)) (.cons (.t (.refl _)) (.cons (.t (.refl _)) (.nil))))) (.cons rfl (.box (.cons (.t (.refl _)) (.cons (.t (.refl _)) (.cons (.t (.refl _)) (.cons (.t (.refl _)) (.cons (.t (.refl _)) (.cons (.t (.refl _)) (.cons (.t (.refl _)) (.nil))))))))) (.cons rfl (.box (.cons (.t (.refl _)) (.cons (.t (.refl _)) (.cons (.t (.refl _)) (.cons (.t (.refl _)) (.cons (.t (.refl _)) (.cons (.t (.refl _)) (.cons (.t (.refl _)) (.nil))))))))) (.nil)))) rfl rfl⟩
        · -- t147 = false
          refine TrC.skip ⟨_, _, rfl, rfl, rfl⟩ ?_   -- 16
          refine TrC.skip ⟨_, _, rfl, rfl, rfl⟩ ?_   -- 17
          refine TrC.skip ⟨_, _, rfl, rfl, rfl⟩ ?_   -- 18
          refine TrC.skip ⟨_, _, rfl, rfl, rfl⟩ ?_   -- 19
          refine TrC.take ⟨_, _, rfl, rfl, rfl⟩ (step_pick rfl rfl rfl rfl) ?_   -- 20
          refine TrC.take rfl (step_pick rfl rfl rfl rfl) ?_   -- 21
          refine TrC.take rfl (step_assign rfl rfl rfl) ?_   -- 22
          refine TrC.done ?_
          refine AT.spell 13 rfl (bv (b := decide (pr p.fr p.to = pr a b)) (by simp only [pr_eq]; first | (simp_all; done) | (rw [Bool.eq_iff_iff]; simp_all; done) | (rw [Bool.eq_iff_iff]; simp_all <;> omega))) ?_
          refine AT.seq ?_
          refine AT.regionD mixed rfl ?_   -- region 13 law.go:157
          refine TrC.take rfl (step_fieldAddrP rfl rfl fd40_0 rfl rfl) ?_   -- 0
          refine TrC.take rfl (step_loadPN rfl rfl rfl ty30 rfl rfl rfl) ?_   -- 1
          refine TrC.take rfl (step_fieldAddrP rfl rfl fd25_0 rfl rfl) ?_   -- 2
          refine TrC.take rfl (step_loadP1 rfl rfl rfl ty3 rfl rfl) ?_   -- 3
          refine TrC.take rfl (step_call0 rfl rfl ((D17 hvX p.id).eq (et hA.symm)) rfl) ?_   -- 4
          refine TrC.take rfl (step_fieldAddrP rfl rfl fd40_0 rfl rfl) ?_   -- 5
          refine TrC.take rfl (step_loadPN rfl rfl rfl ty30 rfl rfl rfl) ?_   -- 6
          refine TrC.take rfl (step_fieldAddrP rfl rfl fd25_0 rfl rfl) ?_   -- 7
          refine TrC.take rfl (step_loadP1 rfl rfl rfl ty3 rfl rfl) ?_   -- 8
          refine TrC.take rfl (step_call0 rfl rfl ((D17 hvY p.id).eq (et hB.symm)) rfl) ?_   -- 9
          refine TrC.take rfl (step_loadPN rfl rfl rfl ty30 rfl rfl rfl) ?_   -- 10
          refine TrC.take rfl (step_fieldAddrP rfl rfl fd25_0 rfl rfl) ?_   -- 11
          refine TrC.take rfl (step_loadP1 rfl rfl rfl ty3 rfl rfl) ?_   -- 12
          refine TrC.take rfl (step_call0 rfl rfl ((D17 hv p.id).eq (et hD.symm)) rfl) ?_   -- 13
          refine TrC.take rfl (step_allocC rfl rfl ze40 zc40 rfl rfl rfl) ?_   -- 14
          refine TrC.take rfl (step_allocC rfl rfl ze40 zc40 rfl rfl rfl) ?_   -- 15
          refine TrC.take rfl (step_allocC rfl rfl ze40 zc40 rfl rfl rfl) ?_   -- 16
          refine TrC.take rfl (step_storeP rfl rfl rfl rfl rfl (.inl rfl) ty40 rfl rfl rfl) ?_   -- 17
          refine TrC.take rfl (step_storeP rfl rfl rfl rfl rfl (.inl rfl) ty40 rfl rfl rfl) ?_   -- 18
          refine TrC.take rfl (step_storeP rfl rfl rfl rfl rfl (.inl rfl) ty40 rfl rfl rfl) ?_   -- 19
          refine TrC.doneD rfl ?_
          refine AT.seq ?_
          refine AT.cases (d := 13) rfl (fun h13 => ?_) (fun h13 => ?_)
          · -- t13 = true
            refine AT.region ?_   -- region 14 law.go:158
            refine TrC.take rfl (step_move rfl rfl rfl) ?_   -- 0
            refine TrC.take rfl (step_move rfl rfl rfl) ?_   -- 1
            refine TrC.take ⟨_, _, rfl, rfl, rfl⟩ (step_fieldAddrP rfl rfl fd40_2 rfl rfl) ?_   -- 2
            refine TrC.take ⟨_, _, rfl, rfl, rfl⟩ (step_loadP1 rfl rfl rfl ty33 rfl rfl) ?_   -- 3
            refine TrC.take ⟨_, _, rfl, rfl, rfl⟩ (step_bin rfl rfl rfl rfl rfl) ?_   -- 4
            refine TrC.spell 172 rfl (bv (b := false) (by simp [(hpi.1 (by simpa using h13)).1])) ?_
            refine TrC.take ⟨_, _, rfl, rfl, rfl⟩ (step_move rfl rfl rfl) ?_   -- 5
            refine TrC.take ⟨_, _, rfl, rfl, rfl⟩ (step_fieldAddrP rfl rfl fd40_0 rfl rfl) ?_   -- 6
            refine TrC.take ⟨_, _, rfl, rfl, rfl⟩ (step_loadPN rfl rfl rfl ty30 rfl rfl rfl) ?_   -- 7
            refine TrC.take ⟨_, _, rfl, rfl, rfl⟩ (step_fieldAddrP rfl rfl fd40_0 rfl rfl) ?_   -- 8
            refine TrC.take ⟨_, _, rfl, rfl, rfl⟩ (step_loadPN rfl rfl rfl ty30 rfl rfl rfl) ?_   -- 9
            refine TrC.take ⟨_, _, rfl, rfl, rfl⟩ (step_call0 rfl rfl (D15 hvA X.n) rfl) ?_   -- 10
            refine TrC.spell 178 rfl (bv (b := true) (by simp [(hpi.1 (by simpa using h13)).1])) ?_
            refine TrC.take ⟨_, _, rfl, rfl, rfl⟩ (step_not rfl rfl rfl) ?_   -- 11
            refine TrC.take ⟨_, _, rfl, rfl, rfl⟩ (step_pick rfl rfl rfl rfl) ?_   -- 12
            refine TrC.take ⟨_, _, rfl, rfl, rfl⟩ (step_move rfl rfl rfl) ?_   -- 13
            refine TrC.take ⟨_, _, rfl, rfl, rfl⟩ (step_fieldAddrP rfl rfl fd40_2 rfl rfl) ?_   -- 14
            refine TrC.take ⟨_, _, rfl, rfl, rfl⟩ (step_loadP1 rfl rfl rfl ty33 rfl rfl) ?_   -- 15
            refine TrC.take ⟨_, _, rfl, rfl, rfl⟩ (step_bin rfl rfl rfl rfl rfl) ?_   -- 16
            refine TrC.spell 184 rfl (bv (b := false) (by simp [(hpi.1 (by simpa using h13)).2.1])) ?_
            refine TrC.take ⟨_, _, rfl, rfl, rfl⟩ (step_pick rfl rfl rfl rfl) ?_   -- 17
            refine TrC.take ⟨_, _, rfl, rfl, rfl⟩ (step_move rfl rfl rfl) ?_   -- 18
            refine TrC.take ⟨_, _, rfl, rfl, rfl⟩ (step_fieldAddrP rfl rfl fd40_1 rfl rfl) ?_   -- 19
            refine TrC.take ⟨_, _, rfl, rfl, rfl⟩ (step_loadPN rfl rfl rfl ty25 rfl rfl rfl) ?_   -- 20
            refine TrC.take ⟨_, _, rfl, rfl, rfl⟩ (step_loadPN rfl rfl rfl ty25 rfl rfl rfl) ?_   -- 21
            refine TrC.take ⟨_, _, rfl, rfl, rfl⟩ (step_nea rfl rfl rfl rfl rfl ty25 eg25 (eq25 _ _ _ _ _ _) rfl) ?_   -- 22
            refine TrC.spell 190 rfl (bv (b := false) (by simp [(hpi.1 (by simpa using h13)).2.2])) ?_
            refine TrC.take ⟨_, _, rfl, rfl, rfl⟩ (step_pick rfl rfl rfl rfl) ?_   -- 23
            refine TrC.take rfl (step_pick rfl rfl rfl rfl) ?_   -- 24
            refine TrC.take rfl (step_move rfl rfl rfl) ?_   -- 25
            refine TrC.take ⟨_, _, rfl, rfl, rfl⟩ (step_move rfl rfl rfl) ?_   -- 26
            refine TrC.take ⟨_, _, rfl, rfl, rfl⟩ (step_not rfl rfl rfl) ?_   -- 27
            refine TrC.take ⟨_, _, rfl, rfl, rfl⟩ (step_move rfl rfl rfl) ?_   -- 28
            refine TrC.skip ⟨_, _, rfl, rfl, rfl⟩ ?_   -- 29
            refine TrC.skip ⟨_, _, rfl, rfl, rfl⟩ ?_   -- 30
            refine TrC.skip ⟨_, _, rfl, rfl, rfl⟩ ?_   -- 31
            refine TrC.skip ⟨_, _, rfl, rfl, rfl⟩ ?_   -- 32
            refine TrC.skip ⟨_, _, rfl, rfl, rfl⟩ ?_   -- 33
            refine TrC.skip ⟨_, _, rfl, rfl, rfl⟩ ?_   -- 34
            refine TrC.skip ⟨_, _, rfl, rfl, rfl⟩ ?_   -- 35
            refine TrC.skip ⟨_, _, rfl, rfl, rfl⟩ ?_   -- 36
            refine TrC.skip ⟨_, _, rfl, rfl, rfl⟩ ?_   -- 37
            refine TrC.skip ⟨_, _, rfl, rfl, rfl⟩ ?_   -- 38
            refine TrC.skip ⟨_, _, rfl, rfl, rfl⟩ ?_   -- 39
            refine TrC.skip ⟨_, _, rfl, rfl, rfl⟩ ?_   -- 40
            refine TrC.take ⟨_, _, rfl, rfl, rfl⟩ (step_pick rfl rfl rfl rfl) ?_   -- 41
            refine TrC.take rfl (step_pick rfl rfl rfl rfl) ?_   -- 42
            refine TrC.done ?_
            refine AT.condF rfl ?_   -- t210
            refine AT.skip ?_
            refine AT.region ?_   -- region 10 law.go:154
            refine TrC.take rfl (step_move rfl rfl rfl) ?_   -- 0
            refine TrC.take rfl (step_addI rfl rfl rfl (by first | omega | (simp; done) | (simp; omega)) (by first | omega | (simp; done) | (simp; omega)) rfl) ?_   -- 1
            refine TrC.take rfl (step_assign rfl rfl rfl) ?_   -- 2
            refine TrC.done ?_
            exact ⟨i + 1, by show i + 1 ≤ n.fl.length; omega, by show n.fl.length - (i + 1) < n.fl.length - i; omega, Sat.wk [] (.cons (.t (.refl _)) (.cons (.p rfl) (.cons (.t (.refl _)) (.cons (.t (.refl _)) (.cons (.p rfl) (.cons (.p rfl) (.cons (.t (conv_i (by simp))) (.nil)))))))) (.cons rfl (.box (.cons (.t (.refl _)) (.cons (.t (.refl _)) (.cons (.t (.refl _)) (.nil))))) (.cons rfl (.box (.cons (.t (.refl _)) (.cons (.t (.refl _)) (.cons (.t (.refl _)) (.cons (.t (.refl _)) (.cons (.t (.refl _)) (.cons (.t (.refl _)) (.cons (.t (.refl _)) (.nil))))))))) (.cons rfl (.box (.cons (.t (.refl _)) (.cons (.t (.refl _)) (.cons (.t (.refl _)) (.cons (.t (.refl _)) (.cons (.t (.refl _)) (.cons (.t (.refl _)) (.cons (.t (.refl _)) (.nil))))))))) (.nil)))) rfl rfl⟩
          · -- t13 = false
            refine AT.region ?_   -- region 14 law.go:158
            refine TrC.take rfl (step_move rfl rfl rfl) ?_   -- 0
            refine TrC.take rfl (step_move rfl rfl rfl) ?_   -- 1
            refine TrC.skip ⟨_, _, rfl, rfl, rfl⟩ ?_   -- 2
            refine TrC.skip ⟨_, _, rfl, rfl, rfl⟩ ?_   -- 3
            refine TrC.skip ⟨_, _, rfl, rfl, rfl⟩ ?_   -- 4
            refine TrC.skip ⟨_, _, rfl, rfl, rfl⟩ ?_   -- 5
            refine TrC.skip ⟨_, _, rfl, rfl, rfl⟩ ?_   -- 6
            refine TrC.skip ⟨_, _, rfl, rfl, rfl⟩ ?_   -- 7
            refine TrC.skip ⟨_, _, rfl, rfl, rfl⟩ ?_   -- 8
            refine TrC.skip ⟨_, _, rfl, rfl, rfl⟩ ?_   -- 9
            refine TrC.skip ⟨_, _, rfl, rfl, rfl⟩ ?_   -- 10
            refine TrC.skip ⟨_, _, rfl, rfl, rfl⟩ ?_   -- 11
            refine TrC.skip ⟨_, _, rfl, rfl, rfl⟩ ?_   -- 12
            refine TrC.skip ⟨_, _, rfl, rfl, rfl⟩ ?_   -- 13
            refine TrC.skip ⟨_, _, rfl, rfl, rfl⟩ ?_   -- 14
            refine TrC.skip ⟨_, _, rfl, rfl, rfl⟩ ?_   -- 15
            refine TrC.skip ⟨_, _, rfl, rfl, rfl⟩ ?_   -- 16
            refine TrC.skip ⟨_, _, rfl, rfl, rfl⟩ ?_   -- 17
            refine TrC.skip ⟨_, _, rfl, rfl, rfl⟩ ?_   -- 18
            refine TrC.skip ⟨_, _, rfl, rfl, rfl⟩ ?_   -- 19
            refine TrC.skip ⟨_, _, rfl, rfl, rfl⟩ ?_   -- 20
            refine TrC.skip ⟨_, _, rfl, rfl, rfl⟩ ?_   -- 21
            refine TrC.skip ⟨_, _, rfl, rfl, rfl⟩ ?_   -- 22
            refine TrC.skip ⟨_, _, rfl, rfl, rfl⟩ ?_   -- 23
            refine TrC.take rfl (step_pick rfl rfl rfl rfl) ?_   -- 24
            refine TrC.take rfl (step_move rfl rfl rfl) ?_   -- 25
            refine TrC.take ⟨_, _, rfl, rfl, rfl⟩ (step_move rfl rfl rfl) ?_   -- 26
            refine TrC.take ⟨_, _, rfl, rfl, rfl⟩ (step_not rfl rfl rfl) ?_   -- 27
            refine TrC.take ⟨_, _, rfl, rfl, rfl⟩ (step_move rfl rfl rfl) ?_   -- 28
            refine TrC.take ⟨_, _, rfl, rfl, rfl⟩ (step_fieldAddrP rfl rfl fd40_2 rfl rfl) ?_   -- 29
            refine TrC.take ⟨_, _, rfl, rfl, rfl⟩ (step_loadP1 rfl rfl rfl ty33 rfl rfl) ?_   -- 30
            refine TrC.take ⟨_, _, rfl, rfl, rfl⟩ (step_fieldAddrP rfl rfl fd40_2 rfl rfl) ?_   -- 31
            refine TrC.take ⟨_, _, rfl, rfl, rfl⟩ (step_loadP1 rfl rfl rfl ty33 rfl rfl) ?_   -- 32
            refine TrC.take ⟨_, _, rfl, rfl, rfl⟩ (step_bin rfl rfl rfl rfl rfl) ?_   -- 33
            refine TrC.spell 201 rfl (bv (b := false) (by simp [(hpi.2 (by simpa using h13)).1])) ?_
            refine TrC.take ⟨_, _, rfl, rfl, rfl⟩ (step_move rfl rfl rfl) ?_   -- 34
            refine TrC.take ⟨_, _, rfl, rfl, rfl⟩ (step_fieldAddrP rfl rfl fd40_2 rfl rfl) ?_   -- 35
            refine TrC.take ⟨_, _, rfl, rfl, rfl⟩ (step_loadP1 rfl rfl rfl ty33 rfl rfl) ?_   -- 36
            refine TrC.take ⟨_, _, rfl, rfl, rfl⟩ (step_fieldAddrP rfl rfl fd40_2 rfl rfl) ?_   -- 37
            refine TrC.take ⟨_, _, rfl, rfl, rfl⟩ (step_loadP1 rfl rfl rfl ty33 rfl rfl) ?_   -- 38
            refine TrC.take ⟨_, _, rfl, rfl, rfl⟩ (step_bin rfl rfl rfl rfl rfl) ?_   -- 39
            refine TrC.spell 207 rfl (bv (b := false) (by simp [(hpi.2 (by simpa using h13)).2])) ?_
            refine TrC.take ⟨_, _, rfl, rfl, rfl⟩ (step_pick rfl rfl rfl rfl) ?_   -- 40
            refine TrC.take ⟨_, _, rfl, rfl, rfl⟩ (step_pick rfl rfl rfl rfl) ?_   -- 41
            refine TrC.take rfl (step_pick rfl rfl rfl rfl) ?_   -- 42
            refine TrC.done ?_
            refine AT.condF rfl ?_   -- t210
            refine AT.skip ?_
            refine AT.region ?_   -- region 10 law.go:154
            refine TrC.take rfl (step_move rfl rfl rfl) ?_   -- 0
            refine TrC.take rfl (step_addI rfl rfl rfl (by first | omega | (simp; done) | (simp; omega)) (by first | omega | (simp; done) | (simp; omega)) rfl) ?_   -- 1
            refine TrC.take rfl (step_assign rfl rfl rfl) ?_   -- 2
            refine TrC.done ?_
            exact ⟨i + 1, by show i + 1 ≤ n.fl.length; omega, by show n.fl.length - (i + 1) < n.fl.length - i; omega, Sat.wk [] (.cons (.t (.refl _)) (.cons (.p rfl) (.cons (.t (.refl _)) (.cons (.t (.refl _)) (.cons (.p rfl) (.cons (.p rfl) (.cons (.t (conv_i (by simp))) (.nil)))))))) (.cons rfl (.box (.cons (.t (.refl _)) (.cons (.t (.refl _)) (.cons (.t (.refl _)) (.nil))))) (.cons rfl (.box (.cons (.t (.refl _)) (.cons (.t (.refl _)) (.cons (.t (.refl _)) (.cons (.t (.refl _)) (.cons (.t (.refl _)) (.cons (.t (.refl _)) (.cons (.t (.refl _)) (.nil))))))))) (.cons rfl (.box (.cons (.t (.refl _)) (.cons (.t (.refl _)) (.cons (.t (.refl _)) (.cons (.t (.refl _)) (.cons (.t (.refl _)) (.cons (.t (.refl _)) (.cons (.t (.refl _)) (.nil))))))))) (.nil)))) rfl rfl⟩
    · -- false
      refine AT.exit (Or.inl ⟨rfl, ?_⟩)   -- exit 0
      refine AT.seq ?_
      refine AT.seq ?_
      refine AT.region ?_   -- region 16 law.go:162
      refine TrC.take rfl (step_assign rfl rfl rfl) ?_   -- 0
      refine TrC.done ?_
      refine AT.block ?_   -- block 2
      refine AT.loopP (fun c : Nat => c ≤ 5) (fun c => mkS [(5, .t (.b true)), (6, .p 6 0), (7, .t (.i a)), (8, .t (.i b)), (9, .p 9 0), (10, .p 10 0), (17, .t (.i c))] [(6, .box 30 [.t (.slice 3 (n.fl.map encP)), .t (.slice 2 (n.cuts.map encC)), .t (.i n.next)]), (9, .box 40 [.t (.slice 3 (X.n.fl.map encP)), .t (.slice 2 (X.n.cuts.map encC)), .t (.i X.n.next), .t (.i X.p.id), .t (.i X.p.fr), .t (.i X.p.to), .t (.i X.e)]), (10, .box 40 [.t (.slice 3 (Y.n.fl.map encP)), .t (.slice 2 (Y.n.cuts.map encC)), .t (.i Y.n.next), .t (.i Y.p.id), .t (.i Y.p.fr), .t (.i Y.p.to), .t (.i Y.e)])]) (fun c => 5 - c) (0) (Nat.zero_le _) (fun a w hs => Sat.wk [] (.cons (.t (.refl _)) (.cons (.p rfl) (.cons (.t (.refl _)) (.cons (.t (.refl _)) (.cons (.p rfl) (.cons (.p rfl) (.cons (.t (.refl _)) (.nil)))))))) (.cons rfl (.box (.cons (.t (.refl _)) (.cons (.t (.refl _)) (.cons (.t (.refl _)) (.nil))))) (.cons rfl (.box (.cons (.t (.refl _)) (.cons (.t (.refl _)) (.cons (.t (.refl _)) (.cons (.t (.refl _)) (.cons (.t (.refl _)) (.cons (.t (.refl _)) (.cons (.t (.refl _)) (.nil))))))))) (.cons rfl (.box (.cons (.t (.refl _)) (.cons (.t (.refl _)) (.cons (.t (.refl _)) (.cons (.t (.refl _)) (.cons (.t (.refl _)) (.cons (.t (.refl _)) (.cons (.t (.refl _)) (.nil))))))))) (.nil)))) rfl rfl a w hs) (fun c hc => ?_)
      refine AT.seq ?_
      refine AT.seq ?_
      refine AT.region ?_   -- region 17 law.go:162
      refine TrC.take rfl (step_move rfl rfl rfl) ?_   -- 0
      refine TrC.take rfl (step_bin rfl rfl rfl rfl rfl) ?_   -- 1
      refine TrC.done ?_
      refine AT.cond rfl (fun h212 => ?_) (fun h212 => ?_)   -- t212
      · -- true
        have hc5 : c < 5 := by have h := h212; simp at h; omega
        refine AT.skip ?_
        refine AT.seq ?_
        refine AT.block ?_   -- block 3
        refine AT.seq ?_
        refine AT.region ?_   -- region 19 law.go:163
        refine TrC.take rfl (step_assign rfl rfl rfl) ?_   -- 0
        refine TrC.done ?_
        refine AT.block ?_   -- block 4
        refine AT.loopP (fun d : Nat => d ≤ 5) (fun d => mkS [(5, .t (.b true)), (6, .p 6 0), (7, .t (.i a)), (8, .t (.i b)), (9, .p 9 0), (10, .p 10 0), (17, .t (.i c)), (18, .t (.i d))] [(6, .box 30 [.t (.slice 3 (n.fl.map encP)), .t (.slice 2 (n.cuts.map encC)), .t (.i n.next)]), (9, .box 40 [.t (.slice 3 (X.n.fl.map encP)), .t (.slice 2 (X.n.cuts.map encC)), .t (.i X.n.next), .t (.i X.p.id), .t (.i X.p.fr), .t (.i X.p.to), .t (.i X.e)]), (10, .box 40 [.t (.slice 3 (Y.n.fl.map encP)), .t (.slice 2 (Y.n.cuts.map encC)), .t (.i Y.n.next), .t (.i Y.p.id), .t (.i Y.p.fr), .t (.i Y.p.to), .t (.i Y.e)])]) (fun d => 5 - d) (0) (Nat.zero_le _) (fun a w hs => Sat.wk [] (.cons (.t (.refl _)) (.cons (.p rfl) (.cons (.t (.refl _)) (.cons (.t (.refl _)) (.cons (.p rfl) (.cons (.p rfl) (.cons (.t (.refl _)) (.cons (.t (.refl _)) (.nil))))))))) (.cons rfl (.box (.cons (.t (.refl _)) (.cons (.t (.refl _)) (.cons (.t (.refl _)) (.nil))))) (.cons rfl (.box (.cons (.t (.refl _)) (.cons (.t (.refl _)) (.cons (.t (.refl _)) (.cons (.t (.refl _)) (.cons (.t (.refl _)) (.cons (.t (.refl _)) (.cons (.t (.refl _)) (.nil))))))))) (.cons rfl (.box (.cons (.t (.refl _)) (.cons (.t (.refl _)) (.cons (.t (.refl _)) (.cons (.t (.refl _)) (.cons (.t (.refl _)) (.cons (.t (.refl _)) (.cons (.t (.refl _)) (.nil))))))))) (.nil)))) rfl rfl a w hs) (fun d hd => ?_)
        refine AT.seq ?_
        refine AT.seq ?_
        refine AT.region ?_   -- region 20 law.go:163
        refine TrC.take rfl (step_move rfl rfl rfl) ?_   -- 0
        refine TrC.take rfl (step_bin rfl rfl rfl rfl rfl) ?_   -- 1
        refine TrC.done ?_
        refine AT.cond rfl (fun h216 => ?_) (fun h216 => ?_)   -- t216
        · -- true
          have hd5 : d < 5 := by have h := h216; simp at h; omega
          refine AT.skip ?_
          refine AT.seq ?_
          refine AT.block ?_   -- block 5
          refine AT.seq ?_
          refine AT.region ?_   -- region 22 law.go:164
          refine TrC.take rfl (step_move rfl rfl rfl) ?_   -- 0
          refine TrC.take rfl (step_move rfl rfl rfl) ?_   -- 1
          refine TrC.take rfl (step_bin rfl rfl rfl rfl rfl) ?_   -- 2
          refine TrC.take rfl (step_move rfl rfl rfl) ?_   -- 3
          refine TrC.cases (d := 222) rfl (fun h222 => ?_) (fun h222 => ?_)
          · -- t222 = true
            refine TrC.take ⟨_, _, rfl, rfl, rfl⟩ (step_move rfl rfl rfl) ?_   -- 4
            refine TrC.take ⟨_, _, rfl, rfl, rfl⟩ (step_move rfl rfl rfl) ?_   -- 5
            refine TrC.take ⟨_, _, rfl, rfl, rfl⟩ (step_bin rfl rfl rfl rfl rfl) ?_   -- 6
            refine TrC.take rfl (step_pick rfl rfl rfl rfl) ?_   -- 7
            refine TrC.take rfl (step_move rfl rfl rfl) ?_   -- 8
            refine TrC.cases (d := 227) rfl (fun h227 => ?_) (fun h227 => ?_)
            · -- t227 = true
              refine TrC.skip ⟨_, _, rfl, rfl, rfl⟩ ?_   -- 9
              refine TrC.skip ⟨_, _, rfl, rfl, rfl⟩ ?_   -- 10
              refine TrC.skip ⟨_, _, rfl, rfl, rfl⟩ ?_   -- 11
              refine TrC.skip ⟨_, _, rfl, rfl, rfl⟩ ?_   -- 12
              refine TrC.skip ⟨_, _, rfl, rfl, rfl⟩ ?_   -- 13
              refine TrC.skip ⟨_, _, rfl, rfl, rfl⟩ ?_   -- 14
              refine TrC.skip ⟨_, _, rfl, rfl, rfl⟩ ?_   -- 15
              refine TrC.skip ⟨_, _, rfl, rfl, rfl⟩ ?_   -- 16
              refine TrC.take rfl (step_pick rfl rfl rfl rfl) ?_   -- 17
              refine TrC.take rfl (step_assign rfl rfl rfl) ?_   -- 18
              refine TrC.done ?_
              refine AT.spell 19 rfl (bv (b := decide (pr (c : Int) d = pr a b)) (by simp only [pr_eq]; first | (simp_all; done) | (rw [Bool.eq_iff_iff]; simp_all; done) | (rw [Bool.eq_iff_iff]; simp_all <;> omega))) ?_
              refine AT.seq ?_
              refine AT.regionD mixed rfl ?_   -- region 23 law.go:165
              refine TrC.take rfl (step_move rfl rfl rfl) ?_   -- 0
              refine TrC.take rfl (step_not rfl rfl rfl) ?_   -- 1
              refine TrC.take rfl (step_move rfl rfl rfl) ?_   -- 2
              refine TrC.cases (d := 239) rfl (fun h239 => ?_) (fun h239 => ?_)
              · -- t239 = true
                refine TrC.take ⟨_, _, rfl, rfl, rfl⟩ (step_fieldAddrP rfl rfl fd40_0 rfl rfl) ?_   -- 3
                refine TrC.take ⟨_, _, rfl, rfl, rfl⟩ (step_loadPN rfl rfl rfl ty30 rfl rfl rfl) ?_   -- 4
                refine TrC.take ⟨_, _, rfl, rfl, rfl⟩ (step_move rfl rfl rfl) ?_   -- 5
                refine TrC.take ⟨_, _, rfl, rfl, rfl⟩ (step_move rfl rfl rfl) ?_   -- 6
                refine TrC.take ⟨_, _, rfl, rfl, rfl⟩ (step_call0 rfl rfl (D19 hvX c d) rfl) ?_   -- 7
                refine TrC.take ⟨_, _, rfl, rfl, rfl⟩ (step_loadPN rfl rfl rfl ty30 rfl rfl rfl) ?_   -- 8
                refine TrC.take ⟨_, _, rfl, rfl, rfl⟩ (step_move rfl rfl rfl) ?_   -- 9
                refine TrC.take ⟨_, _, rfl, rfl, rfl⟩ (step_move rfl rfl rfl) ?_   -- 10
                refine TrC.take ⟨_, _, rfl, rfl, rfl⟩ (step_call0 rfl rfl (D19 hv c d) rfl) ?_   -- 11
                refine TrC.take ⟨_, _, rfl, rfl, rfl⟩ (step_nebool rfl rfl rfl bo4 rfl) ?_   -- 12
                refine TrC.spell 249 rfl (bv (b := false) (by simp [(hre c d).2 (by simpa using h239)])) ?_
                refine TrC.take ⟨_, _, rfl, rfl, rfl⟩ (step_move rfl rfl rfl) ?_   -- 13
                refine TrC.take ⟨_, _, rfl, rfl, rfl⟩ (step_fieldAddrP rfl rfl fd40_0 rfl rfl) ?_   -- 14
                refine TrC.take ⟨_, _, rfl, rfl, rfl⟩ (step_loadPN rfl rfl rfl ty30 rfl rfl rfl) ?_   -- 15
                refine TrC.take ⟨_, _, rfl, rfl, rfl⟩ (step_move rfl rfl rfl) ?_   -- 16
                refine TrC.take ⟨_, _, rfl, rfl, rfl⟩ (step_move rfl rfl rfl) ?_   -- 17
                refine TrC.take ⟨_, _, rfl, rfl, rfl⟩ (step_call0 rfl rfl (D19 hvY c d) rfl) ?_   -- 18
                refine TrC.take ⟨_, _, rfl, rfl, rfl⟩ (step_loadPN rfl rfl rfl ty30 rfl rfl rfl) ?_   -- 19
                refine TrC.take ⟨_, _, rfl, rfl, rfl⟩ (step_move rfl rfl rfl) ?_   -- 20
                refine TrC.take ⟨_, _, rfl, rfl, rfl⟩ (step_move rfl rfl rfl) ?_   -- 21
                refine TrC.take ⟨_, _, rfl, rfl, rfl⟩ (step_call0 rfl rfl (D19 hv c d) rfl) ?_   -- 22
                refine TrC.take ⟨_, _, rfl, rfl, rfl⟩ (step_nebool rfl rfl rfl bo4 rfl) ?_   -- 23
                refine TrC.spell 260 rfl (bv (b := false) (by simp [(hrh c d).2 (by simpa using h239)])) ?_
                refine TrC.take ⟨_, _, rfl, rfl, rfl⟩ (step_pick rfl rfl rfl rfl) ?_   -- 24
                refine TrC.take rfl (step_pick rfl rfl rfl rfl) ?_   -- 25
                refine TrC.doneD rfl ?_
                refine AT.condF rfl ?_   -- t262
                refine AT.skip ?_
                refine AT.region ?_   -- region 21 law.go:163
                refine TrC.take rfl (step_move rfl rfl rfl) ?_   -- 0
                refine TrC.take rfl (step_addI rfl rfl rfl (by first | omega | (simp; done) | (simp; omega)) (by first | omega | (simp; done) | (simp; omega)) rfl) ?_   -- 1
                refine TrC.take rfl (step_assign rfl rfl rfl) ?_   -- 2
                refine TrC.done ?_
                exact ⟨d + 1, by show d + 1 ≤ 5; omega, by show 5 - (d + 1) < 5 - d; omega, Sat.wk [] (.cons (.t (.refl _)) (.cons (.p rfl) (.cons (.t (.refl _)) (.cons (.t (.refl _)) (.cons (.p rfl) (.cons (.p rfl) (.cons (.t (.refl _)) (.cons (.t (conv_i (by simp))) (.nil))))))))) (.cons rfl (.box (.cons (.t (.refl _)) (.cons (.t (.refl _)) (.cons (.t (.refl _)) (.nil))))) (.cons rfl (.box (.cons (.t (.refl _)) (.cons (.t (.refl _)) (.cons (.t (.refl _)) (.cons (.t (.refl _)) (.cons (.t (.refl _)) (.cons (.t (.refl _)) (.cons (.t (.refl _)) (.nil))))))))) (.cons rfl (.box (.cons (.t (.refl _)) (.cons (.t (.refl _)) (.cons (.t (.refl _)) (.cons (.t (.refl _)) (.cons (.t (.refl _)) (.cons (.t (.refl _)) (.cons (.t (.refl _)) (.nil))))))))) (.nil)))) rfl rfl⟩
              · -- t239 = false
                refine TrC.skip ⟨_, _, rfl, rfl, rfl⟩ ?_   -- 3
                refine TrC.skip ⟨_, _, rfl, rfl, rfl⟩ ?_   -- 4
                refine TrC.skip ⟨_, _, rfl, rfl, rfl⟩ ?_   -- 5
                refine TrC.skip ⟨_, _, rfl, rfl, rfl⟩ ?_   -- 6
                refine TrC.skip ⟨_, _, rfl, rfl, rfl⟩ ?_   -- 7
                refine TrC.skip ⟨_, _, rfl, rfl, rfl⟩ ?_   -- 8
                refine TrC.skip ⟨_, _, rfl, rfl, rfl⟩ ?_   -- 9
                refine TrC.skip ⟨_, _, rfl, rfl, rfl⟩ ?_   -- 10
                refine TrC.skip ⟨_, _, rfl, rfl, rfl⟩ ?_   -- 11
                refine TrC.skip ⟨_, _, rfl, rfl, rfl⟩ ?_   -- 12
                refine TrC.skip ⟨_, _, rfl, rfl, rfl⟩ ?_   -- 13
                refine TrC.skip ⟨_, _, rfl, rfl, rfl⟩ ?_   -- 14
                refine TrC.skip ⟨_, _, rfl, rfl, rfl⟩ ?_   -- 15
                refine TrC.skip ⟨_, _, rfl, rfl, rfl⟩ ?_   -- 16
                refine TrC.skip ⟨_, _, rfl, rfl, rfl⟩ ?_   -- 17
                refine TrC.skip ⟨_, _, rfl, rfl, rfl⟩ ?_   -- 18
                refine TrC.skip ⟨_, _, rfl, rfl, rfl⟩ ?_   -- 19
                refine TrC.skip ⟨_, _, rfl, rfl, rfl⟩ ?_   -- 20
                refine TrC.skip ⟨_, _, rfl, rfl, rfl⟩ ?_   -- 21
                refine TrC.skip ⟨_, _, rfl, rfl, rfl⟩ ?_   -- 22
                refine TrC.skip ⟨_, _, rfl, rfl, rfl⟩ ?_   -- 23
                refine TrC.skip ⟨_, _, rfl, rfl, rfl⟩ ?_   -- 24
                refine TrC.take rfl (step_pick rfl rfl rfl rfl) ?_   -- 25
                refine TrC.doneD rfl ?_
                refine AT.condF rfl ?_   -- t262
                refine AT.skip ?_
                refine AT.region ?_   -- region 21 law.go:163
                refine TrC.take rfl (step_move rfl rfl rfl) ?_   -- 0
                refine TrC.take rfl (step_addI rfl rfl rfl (by first | omega | (simp; done) | (simp; omega)) (by first | omega | (simp; done) | (simp; omega)) rfl) ?_   -- 1
                refine TrC.take rfl (step_assign rfl rfl rfl) ?_   -- 2
                refine TrC.done ?_
                exact ⟨d + 1, by show d + 1 ≤ 5; omega, by show 5 - (d + 1) < 5 - d; omega, Sat.wk [] (.cons (.t (.refl _)) (.cons (.p rfl) (.cons (.t (.refl _)) (.cons (.t (.refl _)) (.cons (.p rfl) (.cons (.p rfl) (.cons (.t (.refl _)) (.cons (.t (conv_i (by simp))) (.nil))))))))) (.cons rfl (.box (.cons (.t (.refl _)) (.cons (.t (.refl _)) (.cons (.t (.refl _)) (.nil))))) (.cons rfl (.box (.cons (.t (.refl _)) (.cons (.t (.refl _)) (.cons (.t (.refl _)) (.cons (.t (.refl _)) (.cons (.t (.refl _)) (.cons (.t (.refl _)) (.cons (.t (.refl _)) (.nil))))))))) (.cons rfl (.box (.cons (.t (.refl _)) (.cons (.t (.refl _)) (.cons (.t (.refl _)) (.cons (.t (.refl _)) (.cons (.t (.refl _)) (.cons (.t (.refl _)) (.cons (.t (.refl _)) (.nil))))))))) (.nil)))) rfl rfl⟩
            · -- t227 = false
              refine TrC.take ⟨_, _, rfl, rfl, rfl⟩ (step_move rfl rfl rfl) ?_   -- 9
              refine TrC.take ⟨_, _, rfl, rfl, rfl⟩ (step_move rfl rfl rfl) ?_   -- 10
              refine TrC.take ⟨_, _, rfl, rfl, rfl⟩ (step_bin rfl rfl rfl rfl rfl) ?_   -- 11
              refine TrC.take ⟨_, _, rfl, rfl, rfl⟩ (step_move rfl rfl rfl) ?_   -- 12
              refine TrC.cases (d := 231) rfl (fun h231 => ?_) (fun h231 => ?_)
              · -- t231 = true
                refine TrC.take ⟨_, _, rfl, rfl, rfl⟩ (step_move rfl rfl rfl) ?_   -- 13
                refine TrC.take ⟨_, _, rfl, rfl, rfl⟩ (step_move rfl rfl rfl) ?_   -- 14
                refine TrC.take ⟨_, _, rfl, rfl, rfl⟩ (step_bin rfl rfl rfl rfl rfl) ?_   -- 15
                refine TrC.take ⟨_, _, rfl, rfl, rfl⟩ (step_pick rfl rfl rfl rfl) ?_   -- 16
                refine TrC.take rfl (step_pick rfl rfl rfl rfl) ?_   -- 17
                refine TrC.take rfl (step_assign rfl rfl rfl) ?_   -- 18
                refine TrC.done ?_
                refine AT.spell 19 rfl (bv (b := decide (pr (c : Int) d = pr a b)) (by simp only [pr_eq]; first | (simp_all; done) | (rw [Bool.eq_iff_iff]; simp_all; done) | (rw [Bool.eq_iff_iff]; simp_all <;> omega))) ?_
                refine AT.seq ?_
                refine AT.regionD mixed rfl ?_   -- region 23 law.go:165
                refine TrC.take rfl (step_move rfl rfl rfl) ?_   -- 0
                refine TrC.take rfl (step_not rfl rfl rfl) ?_   -- 1
                refine TrC.take rfl (step_move rfl rfl rfl) ?_   -- 2
                refine TrC.cases (d := 239) rfl (fun h239 => ?_) (fun h239 => ?_)
                · -- t239 = true
                  refine TrC.take ⟨_, _, rfl, rfl, rfl⟩ (step_fieldAddrP rfl rfl fd40_0 rfl rfl) ?_   -- 3
                  refine TrC.take ⟨_, _, rfl, rfl, rfl⟩ (step_loadPN rfl rfl rfl ty30 rfl rfl rfl) ?_   -- 4
                  refine TrC.take ⟨_, _, rfl, rfl, rfl⟩ (step_move rfl rfl rfl) ?_   -- 5
                  refine TrC.take ⟨_, _, rfl, rfl, rfl⟩ (step_move rfl rfl rfl) ?_   -- 6
                  refine TrC.take ⟨_, _, rfl, rfl, rfl⟩ (step_call0 rfl rfl (D19 hvX c d) rfl) ?_   -- 7
                  refine TrC.take ⟨_, _, rfl, rfl, rfl⟩ (step_loadPN rfl rfl rfl ty30 rfl rfl rfl) ?_   -- 8
                  refine TrC.take ⟨_, _, rfl, rfl, rfl⟩ (step_move rfl rfl rfl) ?_   -- 9
                  refine TrC.take ⟨_, _, rfl, rfl, rfl⟩ (step_move rfl rfl rfl) ?_   -- 10
                  refine TrC.take ⟨_, _, rfl, rfl, rfl⟩ (step_call0 rfl rfl (D19 hv c d) rfl) ?_   -- 11
                  refine TrC.take ⟨_, _, rfl, rfl, rfl⟩ (step_nebool rfl rfl rfl bo4 rfl) ?_   -- 12
                  refine TrC.spell 249 rfl (bv (b := false) (by simp [(hre c d).2 (by simpa using h239)])) ?_
                  refine TrC.take ⟨_, _, rfl, rfl, rfl⟩ (step_move rfl rfl rfl) ?_   -- 13
                  refine TrC.take ⟨_, _, rfl, rfl, rfl⟩ (step_fieldAddrP rfl rfl fd40_0 rfl rfl) ?_   -- 14
                  refine TrC.take ⟨_, _, rfl, rfl, rfl⟩ (step_loadPN rfl rfl rfl ty30 rfl rfl rfl) ?_   -- 15
                  refine TrC.take ⟨_, _, rfl, rfl, rfl⟩ (step_move rfl rfl rfl) ?_   -- 16
                  refine TrC.take ⟨_, _, rfl, rfl, rfl⟩ (step_move rfl rfl rfl) ?_   -- 17
                  refine TrC.take ⟨_, _, rfl, rfl, rfl⟩ (step_call0 rfl rfl (D19 hvY c d) rfl) ?_   -- 18
                  refine TrC.take ⟨_, _, rfl, rfl, rfl⟩ (step_loadPN rfl rfl rfl ty30 rfl rfl rfl) ?_   -- 19
                  refine TrC.take ⟨_, _, rfl, rfl, rfl⟩ (step_move rfl rfl rfl) ?_   -- 20
                  refine TrC.take ⟨_, _, rfl, rfl, rfl⟩ (step_move rfl rfl rfl) ?_   -- 21
                  refine TrC.take ⟨_, _, rfl, rfl, rfl⟩ (step_call0 rfl rfl (D19 hv c d) rfl) ?_   -- 22
                  refine TrC.take ⟨_, _, rfl, rfl, rfl⟩ (step_nebool rfl rfl rfl bo4 rfl) ?_   -- 23
                  refine TrC.spell 260 rfl (bv (b := false) (by simp [(hrh c d).2 (by simpa using h239)])) ?_
                  refine TrC.take ⟨_, _, rfl, rfl, rfl⟩ (step_pick rfl rfl rfl rfl) ?_   -- 24
                  refine TrC.take rfl (step_pick rfl rfl rfl rfl) ?_   -- 25
                  refine TrC.doneD rfl ?_
                  refine AT.condF rfl ?_   -- t262
                  refine AT.skip ?_
                  refine AT.region ?_   -- region 21 law.go:163
                  refine TrC.take rfl (step_move rfl rfl rfl) ?_   -- 0
                  refine TrC.take rfl (step_addI rfl rfl rfl (by first | omega | (simp; done) | (simp; omega)) (by first | omega | (simp; done) | (simp; omega)) rfl) ?_   -- 1
                  refine TrC.take rfl (step_assign rfl rfl rfl) ?_   -- 2
                  refine TrC.done ?_
                  exact ⟨d + 1, by show d + 1 ≤ 5; omega, by show 5 - (d + 1) < 5 - d; omega, Sat.wk [] (.cons (.t (.refl _)) (.cons (.p rfl) (.cons (.t (.refl _)) (.cons (.t (.refl _)) (.cons (.p rfl) (.cons (.p rfl) (.cons (.t (.refl _)) (.cons (.t (conv_i (by simp))) (.nil))))))))) (.cons rfl (.box (.cons (.t (.refl _)) (.cons (.t (.refl _)) (.cons (.t (.refl _)) (.nil))))) (.cons rfl (.box (.cons (.t (.refl _)) (.cons (.t (.refl _)) (.cons (.t (.refl _)) (.cons (.t (.refl _)) (.cons (.t (.refl _)) (.cons (.t (.refl _)) (.cons (.t (.refl _)) (.nil))))))))) (.cons rfl (.box (.cons (.t (.refl _)) (.cons (.t (.refl _)) (.cons (.t (.refl _)) (.cons (.t (.refl _)) (.cons (.t (.refl _)) (.cons (.t (.refl _)) (.cons (.t (.refl _)) (.nil))))))))) (.nil)))) rfl rfl⟩
                · -- t239 = false
                  refine TrC.skip ⟨_, _, rfl, rfl, rfl⟩ ?_   -- 3
                  refine TrC.skip ⟨_, _, rfl, rfl, rfl⟩ ?_   -- 4
                  refine TrC.skip ⟨_, _, rfl, rfl, rfl⟩ ?_   -- 5
                  refine TrC.skip ⟨_, _, rfl, rfl, rfl⟩ ?_   -- 6
                  refine TrC.skip ⟨_, _, rfl, rfl, rfl⟩ ?_   -- 7
                  refine TrC.skip ⟨_, _, rfl, rfl, rfl⟩ ?_   -- 8
                  refine TrC.skip ⟨_, _, rfl, rfl, rfl⟩ ?_   -- 9
                  refine TrC.skip ⟨_, _, rfl, rfl, rfl⟩ ?_   -- 10
                  refine TrC.skip ⟨_, _, rfl, rfl, rfl⟩ ?_   -- 11
                  refine TrC.skip ⟨_, _, rfl, rfl, rfl⟩ ?_   -- 12
                  refine TrC.skip ⟨_, _, rfl, rfl, rfl⟩ ?_   -- 13
                  refine TrC.skip ⟨_, _, rfl, rfl, rfl⟩ ?_   -- 14
                  refine TrC.skip ⟨_, _, rfl, rfl, rfl⟩ ?_   -- 15
                  refine TrC.skip ⟨_, _, rfl, rfl, rfl⟩ ?_   -- 16
                  refine TrC.skip ⟨_, _, rfl, rfl, rfl⟩ ?_   -- 17
                  refine TrC.skip ⟨_, _, rfl, rfl, rfl⟩ ?_   -- 18
                  refine TrC.skip ⟨_, _, rfl, rfl, rfl⟩ ?_   -- 19
                  refine TrC.skip ⟨_, _, rfl, rfl, rfl⟩ ?_   -- 20
                  refine TrC.skip ⟨_, _, rfl, rfl, rfl⟩ ?_   -- 21
                  refine TrC.skip ⟨_, _, rfl, rfl, rfl⟩ ?_   -- 22
                  refine TrC.skip ⟨_, _, rfl, rfl, rfl⟩ ?_   -- 23
                  refine TrC.skip ⟨_, _, rfl, rfl, rfl⟩ ?_   -- 24
                  refine TrC.take rfl (step_pick rfl rfl rfl rfl) ?_   -- 25
                  refine TrC.doneD rfl ?_
                  refine AT.condF rfl ?_   -- t262
                  refine AT.skip ?_
                  refine AT.region ?_   -- region 21 law.go:163
                  refine TrC.take rfl (step_move rfl rfl rfl) ?_   -- 0
                  refine TrC.take rfl (step_addI rfl rfl rfl (by first | omega | (simp; done) | (simp; omega)) (by first | omega | (simp; done) | (simp; omega)) rfl) ?_   -- 1
                  refine TrC.take rfl (step_assign rfl rfl rfl) ?_   -- 2
                  refine TrC.done ?_
                  exact ⟨d + 1, by show d + 1 ≤ 5; omega, by show 5 - (d + 1) < 5 - d; omega, Sat.wk [] (.cons (.t (.refl _)) (.cons (.p rfl) (.cons (.t (.refl _)) (.cons (.t (.refl _)) (.cons (.p rfl) (.cons (.p rfl) (.cons (.t (.refl _)) (.cons (.t (conv_i (by simp))) (.nil))))))))) (.cons rfl (.box (.cons (.t (.refl _)) (.cons (.t (.refl _)) (.cons (.t (.refl _)) (.nil))))) (.cons rfl (.box (.cons (.t (.refl _)) (.cons (.t (.refl _)) (.cons (.t (.refl _)) (.cons (.t (.refl _)) (.cons (.t (.refl _)) (.cons (.t (.refl _)) (.cons (.t (.refl _)) (.nil))))))))) (.cons rfl (.box (.cons (.t (.refl _)) (.cons (.t (.refl _)) (.cons (.t (.refl _)) (.cons (.t (.refl _)) (.cons (.t (.refl _)) (.cons (.t (.refl _)) (.cons (.t (.refl _)) (.nil))))))))) (.nil)))) rfl rfl⟩
              · -- t231 = false
                refine TrC.skip ⟨_, _, rfl, rfl, rfl⟩ ?_   -- 13
                refine TrC.skip ⟨_, _, rfl, rfl, rfl⟩ ?_   -- 14
                refine TrC.skip ⟨_, _, rfl, rfl, rfl⟩ ?_   -- 15
                refine TrC.take ⟨_, _, rfl, rfl, rfl⟩ (step_pick rfl rfl rfl rfl) ?_   -- 16
                refine TrC.take rfl (step_pick rfl rfl rfl rfl) ?_   -- 17
                refine TrC.take rfl (step_assign rfl rfl rfl) ?_   -- 18
                refine TrC.done ?_
                refine AT.spell 19 rfl (bv (b := decide (pr (c : Int) d = pr a b)) (by simp only [pr_eq]; first | (simp_all; done) | (rw [Bool.eq_iff_iff]; simp_all; done) | (rw [Bool.eq_iff_iff]; simp_all <;> omega))) ?_
                refine AT.seq ?_
                refine AT.regionD mixed rfl ?_   -- region 23 law.go:165
                refine TrC.take rfl (step_move rfl rfl rfl) ?_   -- 0
                refine TrC.take rfl (step_not rfl rfl rfl) ?_   -- 1
                refine TrC.take rfl (step_move rfl rfl rfl) ?_   -- 2
                refine TrC.cases (d := 239) rfl (fun h239 => ?_) (fun h239 => ?_)
                · -- t239 = true
                  refine TrC.take ⟨_, _, rfl, rfl, rfl⟩ (step_fieldAddrP rfl rfl fd40_0 rfl rfl) ?_   -- 3
                  refine TrC.take ⟨_, _, rfl, rfl, rfl⟩ (step_loadPN rfl rfl rfl ty30 rfl rfl rfl) ?_   -- 4
                  refine TrC.take ⟨_, _, rfl, rfl, rfl⟩ (step_move rfl rfl rfl) ?_   -- 5
                  refine TrC.take ⟨_, _, rfl, rfl, rfl⟩ (step_move rfl rfl rfl) ?_   -- 6
                  refine TrC.take ⟨_, _, rfl, rfl, rfl⟩ (step_call0 rfl rfl (D19 hvX c d) rfl) ?_   -- 7
                  refine TrC.take ⟨_, _, rfl, rfl, rfl⟩ (step_loadPN rfl rfl rfl ty30 rfl rfl rfl) ?_   -- 8
                  refine TrC.take ⟨_, _, rfl, rfl, rfl⟩ (step_move rfl rfl rfl) ?_   -- 9
                  refine TrC.take ⟨_, _, rfl, rfl, rfl⟩ (step_move rfl rfl rfl) ?_   -- 10
                  refine TrC.take ⟨_, _, rfl, rfl, rfl⟩ (step_call0 rfl rfl (D19 hv c d) rfl) ?_   -- 11
                  refine TrC.take ⟨_, _, rfl, rfl, rfl⟩ (step_nebool rfl rfl rfl bo4 rfl) ?_   -- 12
                  refine TrC.spell 249 rfl (bv (b := false) (by simp [(hre c d).2 (by simpa using h239)])) ?_
                  refine TrC.take ⟨_, _, rfl, rfl, rfl⟩ (step_move rfl rfl rfl) ?_   -- 13
                  refine TrC.take ⟨_, _, rfl, rfl, rfl⟩ (step_fieldAddrP rfl rfl fd40_0 rfl rfl) ?_   -- 14
                  refine TrC.take ⟨_, _, rfl, rfl, rfl⟩ (step_loadPN rfl rfl rfl ty30 rfl rfl rfl) ?_   -- 15
                  refine TrC.take ⟨_, _, rfl, rfl, rfl⟩ (step_move rfl rfl rfl) ?_   -- 16
                  refine TrC.take ⟨_, _, rfl, rfl, rfl⟩ (step_move rfl rfl rfl) ?_   -- 17
                  refine TrC.take ⟨_, _, rfl, rfl, rfl⟩ (step_call0 rfl rfl (D19 hvY c d) rfl) ?_   -- 18
                  refine TrC.take ⟨_, _, rfl, rfl, rfl⟩ (step_loadPN rfl rfl rfl ty30 rfl rfl rfl) ?_   -- 19
                  refine TrC.take ⟨_, _, rfl, rfl, rfl⟩ (step_move rfl rfl rfl) ?_   -- 20
                  refine TrC.take ⟨_, _, rfl, rfl, rfl⟩ (step_move rfl rfl rfl) ?_   -- 21
                  refine TrC.take ⟨_, _, rfl, rfl, rfl⟩ (step_call0 rfl rfl (D19 hv c d) rfl) ?_   -- 22
                  refine TrC.take ⟨_, _, rfl, rfl, rfl⟩ (step_nebool rfl rfl rfl bo4 rfl) ?_   -- 23
                  refine TrC.spell 260 rfl (bv (b := false) (by simp [(hrh c d).2 (by simpa using h239)])) ?_
                  refine TrC.take ⟨_, _, rfl, rfl, rfl⟩ (step_pick rfl rfl rfl rfl) ?_   -- 24
                  refine TrC.take rfl (step_pick rfl rfl rfl rfl) ?_   -- 25
                  refine TrC.doneD rfl ?_
                  refine AT.condF rfl ?_   -- t262
                  refine AT.skip ?_
                  refine AT.region ?_   -- region 21 law.go:163
                  refine TrC.take rfl (step_move rfl rfl rfl) ?_   -- 0
                  refine TrC.take rfl (step_addI rfl rfl rfl (by first | omega | (simp; done) | (simp; omega)) (by first | omega | (simp; done) | (simp; omega)) rfl) ?_   -- 1
                  refine TrC.take rfl (step_assign rfl rfl rfl) ?_   -- 2
                  refine TrC.done ?_
                  exact ⟨d + 1, by show d + 1 ≤ 5; omega, by show 5 - (d + 1) < 5 - d; omega, Sat.wk [] (.cons (.t (.refl _)) (.cons (.p rfl) (.cons (.t (.refl _)) (.cons (.t (.refl _)) (.cons (.p rfl) (.cons (.p rfl) (.cons (.t (.refl _)) (.cons (.t (conv_i (by simp))) (.nil))))))))) (.cons rfl (.box (.cons (.t (.refl _)) (.cons (.t (.refl _)) (.cons (.t (.refl _)) (.nil))))) (.cons rfl (.box (.cons (.t (.refl _)) (.cons (.t (.refl _)) (.cons (.t (.refl _)) (.cons (.t (.refl _)) (.cons (.t (.refl _)) (.cons (.t (.refl _)) (.cons (.t (.refl _)) (.nil))))))))) (.cons rfl (.box (.cons (.t (.refl _)) (.cons (.t (.refl _)) (.cons (.t (.refl _)) (.cons (.t (.refl _)) (.cons (.t (.refl _)) (.cons (.t (.refl _)) (.cons (.t (.refl _)) (.nil))))))))) (.nil)))) rfl rfl⟩
                · -- t239 = false
                  refine TrC.skip ⟨_, _, rfl, rfl, rfl⟩ ?_   -- 3
                  refine TrC.skip ⟨_, _, rfl, rfl, rfl⟩ ?_   -- 4
                  refine TrC.skip ⟨_, _, rfl, rfl, rfl⟩ ?_   -- 5
                  refine TrC.skip ⟨_, _, rfl, rfl, rfl⟩ ?_   -- 6
                  refine TrC.skip ⟨_, _, rfl, rfl, rfl⟩ ?_   -- 7
                  refine TrC.skip ⟨_, _, rfl, rfl, rfl⟩ ?_   -- 8
                  refine TrC.skip ⟨_, _, rfl, rfl, rfl⟩ ?_   -- 9
                  refine TrC.skip ⟨_, _, rfl, rfl, rfl⟩ ?_   -- 10
                  refine TrC.skip ⟨_, _, rfl, rfl, rfl⟩ ?_   -- 11
                  refine TrC.skip ⟨_, _, rfl, rfl, rfl⟩ ?_   -- 12
                  refine TrC.skip ⟨_, _, rfl, rfl, rfl⟩ ?_   -- 13
                  refine TrC.skip ⟨_, _, rfl, rfl, rfl⟩ ?_   -- 14
                  refine TrC.skip ⟨_, _, rfl, rfl, rfl⟩ ?_   -- 15
                  refine TrC.skip ⟨_, _, rfl, rfl, rfl⟩ ?_   -- 16
                  refine TrC.skip ⟨_, _, rfl, rfl, rfl⟩ ?_   -- 17
                  refine TrC.skip ⟨_, _, rfl, rfl, rfl⟩ ?_   -- 18
                  refine TrC.skip ⟨_, _, rfl, rfl, rfl⟩ ?_   -- 19
                  refine TrC.skip ⟨_, _, rfl, rfl, rfl⟩ ?_   -- 20
                  refine TrC.skip ⟨_, _, rfl, rfl, rfl⟩ ?_   -- 21
                  refine TrC.skip ⟨_, _, rfl, rfl, rfl⟩ ?_   -- 22
                  refine TrC.skip ⟨_, _, rfl, rfl, rfl⟩ ?_   -- 23
                  refine TrC.skip ⟨_, _, rfl, rfl, rfl⟩ ?_   -- 24
                  refine TrC.take rfl (step_pick rfl rfl rfl rfl) ?_   -- 25
                  refine TrC.doneD rfl ?_
                  refine AT.condF rfl ?_   -- t262
                  refine AT.skip ?_
                  refine AT.region ?_   -- region 21 law.go:163
                  refine TrC.take rfl (step_move rfl rfl rfl) ?_   -- 0
                  refine TrC.take rfl (step_addI rfl rfl rfl (by first | omega | (simp; done) | (simp; omega)) (by first | omega | (simp; done) | (simp; omega)) rfl) ?_   -- 1
                  refine TrC.take rfl (step_assign rfl rfl rfl) ?_   -- 2
                  refine TrC.done ?_
                  exact ⟨d + 1, by show d + 1 ≤ 5; omega, by show 5 - (d + 1) < 5 - d; omega, Sat.wk [] (.cons (.t (.refl _)) (.cons (.p rfl) (.cons (.t (.refl _)) (.cons (.t (.refl _)) (.cons (.p rfl) (.cons (.p rfl) (.cons (.t (.refl _)) (.cons (.t (conv_i (by simp))) (.nil))))))))) (.cons rfl (.box (.cons (.t (.refl _)) (.cons (.t (.refl _)) (.cons (.t (.refl _)) (.nil))))) (.cons rfl (.box (.cons (.t (.refl _)) (.cons (.t (.refl _)) (.cons (.t (.refl _)) (.cons (.t (.refl _)) (.cons (.t (.refl _)) (.cons (.t (.refl _)) (.cons (.t (.refl _)) (.nil))))))))) (.cons rfl (.box (.cons (.t (.refl _)) (.cons (.t (.refl _)) (.cons (.t (.refl _)) (.cons (.t (.refl _)) (.cons (.t (.refl _)) (.cons (.t (.refl _)) (.cons (.t (.refl _)) (.nil))))))))) (.nil)))) rfl rfl⟩
          · -- t222 = false
            refine TrC.skip ⟨_, _, rfl, rfl, rfl⟩ ?_   -- 4
            refine TrC.skip ⟨_, _, rfl, rfl, rfl⟩ ?_   -- 5
            refine TrC.skip ⟨_, _, rfl, rfl, rfl⟩ ?_   -- 6
            refine TrC.take rfl (step_pick rfl rfl rfl rfl) ?_   -- 7
            refine TrC.take rfl (step_move rfl rfl rfl) ?_   -- 8
            refine TrC.take ⟨_, _, rfl, rfl, rfl⟩ (step_move rfl rfl rfl) ?_   -- 9
            refine TrC.take ⟨_, _, rfl, rfl, rfl⟩ (step_move rfl rfl rfl) ?_   -- 10
            refine TrC.take ⟨_, _, rfl, rfl, rfl⟩ (step_bin rfl rfl rfl rfl rfl) ?_   -- 11
            refine TrC.take ⟨_, _, rfl, rfl, rfl⟩ (step_move rfl rfl rfl) ?_   -- 12
            refine TrC.cases (d := 231) rfl (fun h231 => ?_) (fun h231 => ?_)
            · -- t231 = true
              refine TrC.take ⟨_, _, rfl, rfl, rfl⟩ (step_move rfl rfl rfl) ?_   -- 13
              refine TrC.take ⟨_, _, rfl, rfl, rfl⟩ (step_move rfl rfl rfl) ?_   -- 14
              refine TrC.take ⟨_, _, rfl, rfl, rfl⟩ (step_bin rfl rfl rfl rfl rfl) ?_   -- 15
              refine TrC.take ⟨_, _, rfl, rfl, rfl⟩ (step_pick rfl rfl rfl rfl) ?_   -- 16
              refine TrC.take rfl (step_pick rfl rfl rfl rfl) ?_   -- 17
              refine TrC.take rfl (step_assign rfl rfl rfl) ?_   -- 18
              refine TrC.done ?_
              refine AT.spell 19 rfl (bv (b := decide (pr (c : Int) d = pr a b)) (by simp only [pr_eq]; first | (simp_all; done) | (rw [Bool.eq_iff_iff]; simp_all; done) | (rw [Bool.eq_iff_iff]; simp_all <;> omega))) ?_
              refine AT.seq ?_
              refine AT.regionD mixed rfl ?_   -- region 23 law.go:165
              refine TrC.take rfl (step_move rfl rfl rfl) ?_   -- 0
              refine TrC.take rfl (step_not rfl rfl rfl) ?_   -- 1
              refine TrC.take rfl (step_move rfl rfl rfl) ?_   -- 2
              refine TrC.cases (d := 239) rfl (fun h239 => ?_) (fun h239 => ?_)
              · -- t239 = true
                refine TrC.take ⟨_, _, rfl, rfl, rfl⟩ (step_fieldAddrP rfl rfl fd40_0 rfl rfl) ?_   -- 3
                refine TrC.take ⟨_, _, rfl, rfl, rfl⟩ (step_loadPN rfl rfl rfl ty30 rfl rfl rfl) ?_   -- 4
                refine TrC.take ⟨_, _, rfl, rfl, rfl⟩ (step_move rfl rfl rfl) ?_   -- 5
                refine TrC.take ⟨_, _, rfl, rfl, rfl⟩ (step_move rfl rfl rfl) ?_   -- 6
                refine TrC.take ⟨_, _, rfl, rfl, rfl⟩ (step_call0 rfl rfl (D19 hvX c d) rfl) ?_   -- 7
                refine TrC.take ⟨_, _, rfl, rfl, rfl⟩ (step_loadPN rfl rfl rfl ty30 rfl rfl rfl) ?_   -- 8
                refine TrC.take ⟨_, _, rfl, rfl, rfl⟩ (step_move rfl rfl rfl) ?_   -- 9
                refine TrC.take ⟨_, _, rfl, rfl, rfl⟩ (step_move rfl rfl rfl) ?_   -- 10
                refine TrC.take ⟨_, _, rfl, rfl, rfl⟩ (step_call0 rfl rfl (D19 hv c d) rfl) ?_   -- 11
                refine TrC.take ⟨_, _, rfl, rfl, rfl⟩ (step_nebool rfl rfl rfl bo4 rfl) ?_   -- 12
                refine TrC.spell 249 rfl (bv (b := false) (by simp [(hre c d).2 (by simpa using h239)])) ?_
                refine TrC.take ⟨_, _, rfl, rfl, rfl⟩ (step_move rfl rfl rfl) ?_   -- 13
                refine TrC.take ⟨_, _, rfl, rfl, rfl⟩ (step_fieldAddrP rfl rfl fd40_0 rfl rfl) ?_   -- 14
                refine TrC.take ⟨_, _, rfl, rfl, rfl⟩ (step_loadPN rfl rfl rfl ty30 rfl rfl rfl) ?_   -- 15
                refine TrC.take ⟨_, _, rfl, rfl, rfl⟩ (step_move rfl rfl rfl) ?_   -- 16
                refine TrC.take ⟨_, _, rfl, rfl, rfl⟩ (step_move rfl rfl rfl) ?_   -- 17
                refine TrC.take ⟨_, _, rfl, rfl, rfl⟩ (step_call0 rfl rfl (D19 hvY c d) rfl) ?_   -- 18
                refine TrC.take ⟨_, _, rfl, rfl, rfl⟩ (step_loadPN rfl rfl rfl ty30 rfl rfl rfl) ?_   -- 19
                refine TrC.take ⟨_, _, rfl, rfl, rfl⟩ (step_move rfl rfl rfl) ?_   -- 20
                refine TrC.take ⟨_, _, rfl, rfl, rfl⟩ (step_move rfl rfl rfl) ?_   -- 21
                refine TrC.take ⟨_, _, rfl, rfl, rfl⟩ (step_call0 rfl rfl (D19 hv c d) rfl) ?_   -- 22
                refine TrC.take ⟨_, _, rfl, rfl, rfl⟩ (step_nebool rfl rfl rfl bo4 rfl) ?_   -- 23
                refine TrC.spell 260 rfl (bv (b := false) (by simp [(hrh c d).2 (by simpa using h239)])) ?_
                refine TrC.take ⟨_, _, rfl, rfl, rfl⟩ (step_pick rfl rfl rfl rfl) ?_   -- 24
                refine TrC.take rfl (step_pick rfl rfl rfl rfl) ?_   -- 25
                refine TrC.doneD rfl ?_
                refine AT.condF rfl ?_   -- t262
                refine AT.skip ?_
                refine AT.region ?_   -- region 21 law.go:163
                refine TrC.take rfl (step_move rfl rfl rfl) ?_   -- 0
                refine TrC.take rfl (step_addI rfl rfl rfl (by first | omega | (simp; done) | (simp; omega)) (by first | omega | (simp; done) | (simp; omega)) rfl) ?_   -- 1
                refine TrC.take rfl (step_assign rfl rfl rfl) ?_   -- 2
                refine TrC.done ?_
                exact ⟨d + 1, by show d + 1 ≤ 5; omega, by show 5 - (d + 1) < 5 - d; omega, Sat.wk [] (.cons (.t (.refl _)) (.cons (.p rfl) (.cons (.t (.refl _)) (.cons (.t (.refl _)) (.cons (.p rfl) (.cons (.p rfl) (.cons (.t (.refl _)) (.cons (.t (conv_i (by simp))) (.nil))))))))) (.cons rfl (.box (.cons (.t (.refl _)) (.cons (.t (.refl _)) (.cons (.t (.refl _)) (.nil))))) (.cons rfl (.box (.cons (.t (.refl _)) (.cons (.t (.refl _)) (.cons (.t (.refl _)) (.cons (.t (.refl _)) (.cons (.t (.refl _)) (.cons (.t (.refl _)) (.cons (.t (.refl _)) (.nil))))))))) (.cons rfl (.box (.cons (.t (.refl _)) (.cons (.t (.refl _)) (.cons (.t (.refl _)) (.cons (.t (.refl _)) (.cons (.t (.refl _)) (.cons (.t (.refl _)) (.cons (.t (.refl _)) (.nil))))))))) (.nil)))) rfl rfl⟩
              · -- t239 = false
                refine TrC.skip ⟨_, _, rfl, rfl, rfl⟩ ?_   -- 3
                refine TrC.skip ⟨_, _, rfl, rfl, rfl⟩ ?_   -- 4
                refine TrC.skip ⟨_, _, rfl, rfl, rfl⟩ ?_   -- 5
                refine TrC.skip ⟨_, _, rfl, rfl, rfl⟩ ?_   -- 6
                refine TrC.skip ⟨_, _, rfl, rfl, rfl⟩ ?_   -- 7
                refine TrC.skip ⟨_, _, rfl, rfl, rfl⟩ ?_   -- 8
                refine TrC.skip ⟨_, _, rfl, rfl, rfl⟩ ?_   -- 9
                refine TrC.skip ⟨_, _, rfl, rfl, rfl⟩ ?_   -- 10
                refine TrC.skip ⟨_, _, rfl, rfl, rfl⟩ ?_   -- 11
                refine TrC.skip ⟨_, _, rfl, rfl, rfl⟩ ?_   -- 12
                refine TrC.skip ⟨_, _, rfl, rfl, rfl⟩ ?_   -- 13
                refine TrC.skip ⟨_, _, rfl, rfl, rfl⟩ ?_   -- 14
                refine TrC.skip ⟨_, _, rfl, rfl, rfl⟩ ?_   -- 15
                refine TrC.skip ⟨_, _, rfl, rfl, rfl⟩ ?_   -- 16
                refine TrC.skip ⟨_, _, rfl, rfl, rfl⟩ ?_   -- 17
                refine TrC.skip ⟨_, _, rfl, rfl, rfl⟩ ?_   -- 18
                refine TrC.skip ⟨_, _, rfl, rfl, rfl⟩ ?_   -- 19
                refine TrC.skip ⟨_, _, rfl, rfl, rfl⟩ ?_   -- 20
                refine TrC.skip ⟨_, _, rfl, rfl, rfl⟩ ?_   -- 21
                refine TrC.skip ⟨_, _, rfl, rfl, rfl⟩ ?_   -- 22
                refine TrC.skip ⟨_, _, rfl, rfl, rfl⟩ ?_   -- 23
                refine TrC.skip ⟨_, _, rfl, rfl, rfl⟩ ?_   -- 24
                refine TrC.take rfl (step_pick rfl rfl rfl rfl) ?_   -- 25
                refine TrC.doneD rfl ?_
                refine AT.condF rfl ?_   -- t262
                refine AT.skip ?_
                refine AT.region ?_   -- region 21 law.go:163
                refine TrC.take rfl (step_move rfl rfl rfl) ?_   -- 0
                refine TrC.take rfl (step_addI rfl rfl rfl (by first | omega | (simp; done) | (simp; omega)) (by first | omega | (simp; done) | (simp; omega)) rfl) ?_   -- 1
                refine TrC.take rfl (step_assign rfl rfl rfl) ?_   -- 2
                refine TrC.done ?_
                exact ⟨d + 1, by show d + 1 ≤ 5; omega, by show 5 - (d + 1) < 5 - d; omega, Sat.wk [] (.cons (.t (.refl _)) (.cons (.p rfl) (.cons (.t (.refl _)) (.cons (.t (.refl _)) (.cons (.p rfl) (.cons (.p rfl) (.cons (.t (.refl _)) (.cons (.t (conv_i (by simp))) (.nil))))))))) (.cons rfl (.box (.cons (.t (.refl _)) (.cons (.t (.refl _)) (.cons (.t (.refl _)) (.nil))))) (.cons rfl (.box (.cons (.t (.refl _)) (.cons (.t (.refl _)) (.cons (.t (.refl _)) (.cons (.t (.refl _)) (.cons (.t (.refl _)) (.cons (.t (.refl _)) (.cons (.t (.refl _)) (.nil))))))))) (.cons rfl (.box (.cons (.t (.refl _)) (.cons (.t (.refl _)) (.cons (.t (.refl _)) (.cons (.t (.refl _)) (.cons (.t (.refl _)) (.cons (.t (.refl _)) (.cons (.t (.refl _)) (.nil))))))))) (.nil)))) rfl rfl⟩
            · -- t231 = false
              refine TrC.skip ⟨_, _, rfl, rfl, rfl⟩ ?_   -- 13
              refine TrC.skip ⟨_, _, rfl, rfl, rfl⟩ ?_   -- 14
              refine TrC.skip ⟨_, _, rfl, rfl, rfl⟩ ?_   -- 15
              refine TrC.take ⟨_, _, rfl, rfl, rfl⟩ (step_pick rfl rfl rfl rfl) ?_   -- 16
              refine TrC.take rfl (step_pick rfl rfl rfl rfl) ?_   -- 17
              refine TrC.take rfl (step_assign rfl rfl rfl) ?_   -- 18
              refine TrC.done ?_
              refine AT.spell 19 rfl (bv (b := decide (pr (c : Int) d = pr a b)) (by simp only [pr_eq]; first | (simp_all; done) | (rw [Bool.eq_iff_iff]; simp_all; done) | (rw [Bool.eq_iff_iff]; simp_all <;> omega))) ?_
              refine AT.seq ?_
              refine AT.regionD mixed rfl ?_   -- region 23 law.go:165
              refine TrC.take rfl (step_move rfl rfl rfl) ?_   -- 0
              refine TrC.take rfl (step_not rfl rfl rfl) ?_   -- 1
              refine TrC.take rfl (step_move rfl rfl rfl) ?_   -- 2
              refine TrC.cases (d := 239) rfl (fun h239 => ?_) (fun h239 => ?_)
              · -- t239 = true
                refine TrC.take ⟨_, _, rfl, rfl, rfl⟩ (step_fieldAddrP rfl rfl fd40_0 rfl rfl) ?_   -- 3
                refine TrC.take ⟨_, _, rfl, rfl, rfl⟩ (step_loadPN rfl rfl rfl ty30 rfl rfl rfl) ?_   -- 4
                refine TrC.take ⟨_, _, rfl, rfl, rfl⟩ (step_move rfl rfl rfl) ?_   -- 5
                refine TrC.take ⟨_, _, rfl, rfl, rfl⟩ (step_move rfl rfl rfl) ?_   -- 6
                refine TrC.take ⟨_, _, rfl, rfl, rfl⟩ (step_call0 rfl rfl (D19 hvX c d) rfl) ?_   -- 7
                refine TrC.take ⟨_, _, rfl, rfl, rfl⟩ (step_loadPN rfl rfl rfl ty30 rfl rfl rfl) ?_   -- 8
                refine TrC.take ⟨_, _, rfl, rfl, rfl⟩ (step_move rfl rfl rfl) ?_   -- 9
                refine TrC.take ⟨_, _, rfl, rfl, rfl⟩ (step_move rfl rfl rfl) ?_   -- 10
                refine TrC.take ⟨_, _, rfl, rfl, rfl⟩ (step_call0 rfl rfl (D19 hv c d) rfl) ?_   -- 11
                refine TrC.take ⟨_, _, rfl, rfl, rfl⟩ (step_nebool rfl rfl rfl bo4 rfl) ?_   -- 12
                refine TrC.spell 249 rfl (bv (b := false) (by simp [(hre c d).2 (by simpa using h239)])) ?_
                refine TrC.take ⟨_, _, rfl, rfl, rfl⟩ (step_move rfl rfl rfl) ?_   -- 13
                refine TrC.take ⟨_, _, rfl, rfl, rfl⟩ (step_fieldAddrP rfl rfl fd40_0 rfl rfl) ?_   -- 14
                refine TrC.take ⟨_, _, rfl, rfl, rfl⟩ (step_loadPN rfl rfl rfl ty30 rfl rfl rfl) ?_   -- 15
                refine TrC.take ⟨_, _, rfl, rfl, rfl⟩ (step_move rfl rfl rfl) ?_   -- 16
                refine TrC.take ⟨_, _, rfl, rfl, rfl⟩ (step_move rfl rfl rfl) ?_   -- 17
                refine TrC.take ⟨_, _, rfl, rfl, rfl⟩ (step_call0 rfl rfl (D19 hvY c d) rfl) ?_   -- 18
                refine TrC.take ⟨_, _, rfl, rfl, rfl⟩ (step_loadPN rfl rfl rfl ty30 rfl rfl rfl) ?_   -- 19
                refine TrC.take ⟨_, _, rfl, rfl, rfl⟩ (step_move rfl rfl rfl) ?_   -- 20
                refine TrC.take ⟨_, _, rfl, rfl, rfl⟩ (step_move rfl rfl rfl) ?_   -- 21
                refine TrC.take ⟨_, _, rfl, rfl, rfl⟩ (step_call0 rfl rfl (D19 hv c d) rfl) ?_   -- 22
                refine TrC.take ⟨_, _, rfl, rfl, rfl⟩ (step_nebool rfl rfl rfl bo4 rfl) ?_   -- 23
                refine TrC.spell 260 rfl (bv (b := false) (by simp [(hrh c d).2 (by simpa using h239)])) ?_
                refine TrC.take ⟨_, _, rfl, rfl, rfl⟩ (step_pick rfl rfl rfl rfl) ?_   -- 24
                refine TrC.take rfl (step_pick rfl rfl rfl rfl) ?_   -- 25
                refine TrC.doneD rfl ?_
                refine AT.condF rfl ?_   -- t262
                refine AT.skip ?_
                refine AT.region ?_   -- region 21 law.go:163
                refine TrC.take rfl (step_move rfl rfl rfl) ?_   -- 0
                refine TrC.take rfl (step_addI rfl rfl rfl (by first | omega | (simp; done) | (simp; omega)) (by first | omega | (simp; done) | (simp; omega)) rfl) ?_   -- 1
                refine TrC.take rfl (step_assign rfl rfl rfl) ?_   -- 2
                refine TrC.done ?_
                exact ⟨d + 1, by show d + 1 ≤ 5; omega, by show 5 - (d + 1) < 5 - d; omega, Sat.wk [] (.cons (.t (.refl _)) (.cons (.p rfl) (.cons (.t (.refl _)) (.cons (.t (.refl _)) (.cons (.p rfl) (.cons (.p rfl) (.cons (.t (.refl _)) (.cons (.t (conv_i (by simp))) (.nil))))))))) (.cons rfl (.box (.cons (.t (.refl _)) (.cons (.t (.refl _)) (.cons (.t (.refl _)) (.nil))))) (.cons rfl (.box (.cons (.t (.refl _)) (.cons (.t (.refl _)) (.cons (.t (.refl _)) (.cons (.t (.refl _)) (.cons (.t (.refl _)) (.cons (.t (.refl _)) (.cons (.t (.refl _)) (.nil))))))))) (.cons rfl (.box (.cons (.t (.refl _)) (.cons (.t (.refl _)) (.cons (.t (.refl _)) (.cons (.t (.refl _)) (.cons (.t (.refl _)) (.cons (.t (.refl _)) (.cons (.t (.refl _)) (.nil))))))))) (.nil)))) rfl rfl⟩
              · -- t239 = false
                refine TrC.skip ⟨_, _, rfl, rfl, rfl⟩ ?_   -- 3
                refine TrC.skip ⟨_, _, rfl, rfl, rfl⟩ ?_   -- 4
                refine TrC.skip ⟨_, _, rfl, rfl, rfl⟩ ?_   -- 5
                refine TrC.skip ⟨_, _, rfl, rfl, rfl⟩ ?_   -- 6
                refine TrC.skip ⟨_, _, rfl, rfl, rfl⟩ ?_   -- 7
                refine TrC.skip ⟨_, _, rfl, rfl, rfl⟩ ?_   -- 8
                refine TrC.skip ⟨_, _, rfl, rfl, rfl⟩ ?_   -- 9
                refine TrC.skip ⟨_, _, rfl, rfl, rfl⟩ ?_   -- 10
                refine TrC.skip ⟨_, _, rfl, rfl, rfl⟩ ?_   -- 11
                refine TrC.skip ⟨_, _, rfl, rfl, rfl⟩ ?_   -- 12
                refine TrC.skip ⟨_, _, rfl, rfl, rfl⟩ ?_   -- 13
                refine TrC.skip ⟨_, _, rfl, rfl, rfl⟩ ?_   -- 14
                refine TrC.skip ⟨_, _, rfl, rfl, rfl⟩ ?_   -- 15
                refine TrC.skip ⟨_, _, rfl, rfl, rfl⟩ ?_   -- 16
                refine TrC.skip ⟨_, _, rfl, rfl, rfl⟩ ?_   -- 17
                refine TrC.skip ⟨_, _, rfl, rfl, rfl⟩ ?_   -- 18
                refine TrC.skip ⟨_, _, rfl, rfl, rfl⟩ ?_   -- 19
                refine TrC.skip ⟨_, _, rfl, rfl, rfl⟩ ?_   -- 20
                refine TrC.skip ⟨_, _, rfl, rfl, rfl⟩ ?_   -- 21
                refine TrC.skip ⟨_, _, rfl, rfl, rfl⟩ ?_   -- 22
                refine TrC.skip ⟨_, _, rfl, rfl, rfl⟩ ?_   -- 23
                refine TrC.skip ⟨_, _, rfl, rfl, rfl⟩ ?_   -- 24
                refine TrC.take rfl (step_pick rfl rfl rfl rfl) ?_   -- 25
                refine TrC.doneD rfl ?_
                refine AT.condF rfl ?_   -- t262
                refine AT.skip ?_
                refine AT.region ?_   -- region 21 law.go:163
                refine TrC.take rfl (step_move rfl rfl rfl) ?_   -- 0
                refine TrC.take rfl (step_addI rfl rfl rfl (by first | omega | (simp; done) | (simp; omega)) (by first | omega | (simp; done) | (simp; omega)) rfl) ?_   -- 1
                refine TrC.take rfl (step_assign rfl rfl rfl) ?_   -- 2
                refine TrC.done ?_
                exact ⟨d + 1, by show d + 1 ≤ 5; omega, by show 5 - (d + 1) < 5 - d; omega, Sat.wk [] (.cons (.t (.refl _)) (.cons (.p rfl) (.cons (.t (.refl _)) (.cons (.t (.refl _)) (.cons (.p rfl) (.cons (.p rfl) (.cons (.t (.refl _)) (.cons (.t (conv_i (by simp))) (.nil))))))))) (.cons rfl (.box (.cons (.t (.refl _)) (.cons (.t (.refl _)) (.cons (.t (.refl _)) (.nil))))) (.cons rfl (.box (.cons (.t (.refl _)) (.cons (.t (.refl _)) (.cons (.t (.refl _)) (.cons (.t (.refl _)) (.cons (.t (.refl _)) (.cons (.t (.refl _)) (.cons (.t (.refl _)) (.nil))))))))) (.cons rfl (.box (.cons (.t (.refl _)) (.cons (.t (.refl _)) (.cons (.t (.refl _)) (.cons (.t (.refl _)) (.cons (.t (.refl _)) (.cons (.t (.refl _)) (.cons (.t (.refl _)) (.nil))))))))) (.nil)))) rfl rfl⟩
        · -- false
          refine AT.exit (Or.inl ⟨rfl, ?_⟩)   -- exit 4
          refine AT.region ?_   -- region 18 law.go:162
          refine TrC.take rfl (step_move rfl rfl rfl) ?_   -- 0
          refine TrC.take rfl (step_addI rfl rfl rfl (by first | omega | (simp; done) | (simp; omega)) (by first | omega | (simp; done) | (simp; omega)) rfl) ?_   -- 1
          refine TrC.take rfl (step_assign rfl rfl rfl) ?_   -- 2
          refine TrC.done ?_
          exact ⟨c + 1, by show c + 1 ≤ 5; omega, by show 5 - (c + 1) < 5 - c; omega, Sat.wk [] (.cons (.t (.refl _)) (.cons (.p rfl) (.cons (.t (.refl _)) (.cons (.t (.refl _)) (.cons (.p rfl) (.cons (.p rfl) (.cons (.t (conv_i (by simp))) (.nil)))))))) (.cons rfl (.box (.cons (.t (.refl _)) (.cons (.t (.refl _)) (.cons (.t (.refl _)) (.nil))))) (.cons rfl (.box (.cons (.t (.refl _)) (.cons (.t (.refl _)) (.cons (.t (.refl _)) (.cons (.t (.refl _)) (.cons (.t (.refl _)) (.cons (.t (.refl _)) (.cons (.t (.refl _)) (.nil))))))))) (.cons rfl (.box (.cons (.t (.refl _)) (.cons (.t (.refl _)) (.cons (.t (.refl _)) (.cons (.t (.refl _)) (.cons (.t (.refl _)) (.cons (.t (.refl _)) (.cons (.t (.refl _)) (.nil))))))))) (.nil)))) rfl rfl⟩
      · -- false
        refine AT.exit (Or.inl ⟨rfl, ?_⟩)   -- exit 2
        refine AT.seq ?_
        refine AT.region ?_   -- region 25 law.go:170
        refine TrC.take rfl (step_fieldAddrP rfl rfl fd40_0 rfl rfl) ?_   -- 0
        refine TrC.take rfl (step_loadPN rfl rfl rfl ty30 rfl rfl rfl) ?_   -- 1
        refine TrC.take rfl (step_move rfl rfl rfl) ?_   -- 2
        refine TrC.take rfl (step_move rfl rfl rfl) ?_   -- 3
        refine TrC.take rfl (step_buildA rfl ze32 rfl ar32 rfl rfl rfl rfl) ?_   -- 4
        refine TrC.take rfl (step_call0 rfl rfl ((D21 hvX a b 3).eq (et (dn3 _ _ _))) rfl) ?_   -- 5
        refine TrC.take rfl (step_allocC rfl rfl ze40 zc40 rfl rfl rfl) ?_   -- 6
        refine TrC.take rfl (step_storeP rfl rfl rfl rfl rfl (.inl rfl) ty40 rfl rfl rfl) ?_   -- 7
        refine TrC.done ?_
        refine AT.seq ?_
        refine AT.regionD mixed rfl ?_   -- region 26 law.go:171
        refine TrC.take rfl (step_fieldAddrP rfl rfl fd40_0 rfl rfl) ?_   -- 0
        refine TrC.take rfl (step_loadPN rfl rfl rfl ty30 rfl rfl rfl) ?_   -- 1
        refine TrC.take rfl (step_fieldAddrP rfl rfl fd40_0 rfl rfl) ?_   -- 2
        refine TrC.take rfl (step_loadPN rfl rfl rfl ty30 rfl rfl rfl) ?_   -- 3
        refine TrC.take rfl (step_call0 rfl rfl (D15 (hvX.heal a b) Y.n) rfl) ?_   -- 4
        refine TrC.spell 273 rfl (bv (b := true) (dtrue hbk)) ?_
        refine TrC.take rfl (step_move rfl rfl rfl) ?_   -- 5
        refine TrC.take ⟨_, _, rfl, rfl, rfl⟩ (step_fieldAddrP rfl rfl fd40_0 rfl rfl) ?_   -- 6
        refine TrC.take ⟨_, _, rfl, rfl, rfl⟩ (step_loadPN rfl rfl rfl ty30 rfl rfl rfl) ?_   -- 7
        refine TrC.take ⟨_, _, rfl, rfl, rfl⟩ (step_move rfl rfl rfl) ?_   -- 8
        refine TrC.take ⟨_, _, rfl, rfl, rfl⟩ (step_move rfl rfl rfl) ?_   -- 9
        refine TrC.take ⟨_, _, rfl, rfl, rfl⟩ (step_buildA rfl ze32 rfl ar32 rfl rfl rfl rfl) ?_   -- 10
        refine TrC.take ⟨_, _, rfl, rfl, rfl⟩ (step_call0 rfl rfl ((D21 hvX b a 2).eq (et ((dn2 _ _ _).trans hag))) rfl) ?_   -- 11
        refine TrC.take ⟨_, _, rfl, rfl, rfl⟩ (step_fieldN rfl rfl fd40_0 ty30 rfl rfl) ?_   -- 12
        refine TrC.take ⟨_, _, rfl, rfl, rfl⟩ (step_fieldAddrP rfl rfl fd40_0 rfl rfl) ?_   -- 13
        refine TrC.take ⟨_, _, rfl, rfl, rfl⟩ (step_loadPN rfl rfl rfl ty30 rfl rfl rfl) ?_   -- 14
        refine TrC.take ⟨_, _, rfl, rfl, rfl⟩ (step_call0 rfl rfl (D15 hvX X.n) rfl) ?_   -- 15
        refine TrC.spell 284 rfl (bv (b := true) (by simp)) ?_
        refine TrC.take rfl (step_pick rfl rfl rfl rfl) ?_   -- 16
        refine TrC.take rfl (step_move rfl rfl rfl) ?_   -- 17
        refine TrC.take ⟨_, _, rfl, rfl, rfl⟩ (step_move rfl rfl rfl) ?_   -- 18
        refine TrC.take rfl (step_pick rfl rfl rfl rfl) ?_   -- 19
        refine TrC.take rfl (step_assign rfl rfl rfl) ?_   -- 20
        refine TrC.doneD rfl ?_
        refine AT.ret ?_
        exact Ret.one rfl (ResR.tmp rfl (conv_b rfl))

end Go.Proofs.Ytnemmdbafngppaa.Net

/- NetCuts: from the function's contract to arguments as they come. No condition. -/
set_option linter.unusedVariables false
namespace Go.Proofs.Ytnemmdbafngppaa.netCuts
open Go.Proofs.Ytnemmdbafngppaa.Abs Go.Proofs.Ytnemmdbafngppaa.Net Go.RowKit
theorem NetCuts_has (x0 x1 : T) (f0 : Fits Try.prog 22 x0.cells) (a0 : (∃ l, x0 = .agg l) ↔ (partsOf Try.prog 22).isSome = true) (f1 : Fits Try.prog 52 x1.cells) (a1 : (∃ l, x1 = .agg l) ↔ (partsOf Try.prog 52).isSome = true) : Has Try.prog 6 [x0, x1] (.b true) := by
  obtain ⟨l, rfl, _, hb⟩ := fitB3 f0 a0 (e := 47) (by kernel_rfl) (by kernel_rfl) (by kernel_rfl)
  obtain ⟨ns, g1, rfl, g3⟩ := flatV (k := .u8) (n := 2) f1 a1 (by kernel_rfl)
  obtain ⟨w0, w1, rfl⟩ := list_two g1
  exact C6 l hb w0 w1 (g3 w0 (by simp)) (g3 w1 (by simp))
end Go.Proofs.Ytnemmdbafngppaa.netCuts

/- The statement NetCutsSaid is proved here: the law's function returns true for all its arguments and panics for none. No condition. -/
namespace Go.Proofs.Ytnemmdbafngppaa.netCuts
open Go.ChangeShapes Go.WideShapes Go.ChangeAt Go.RowKit
open Go.Proofs.Ytnemmdbafngppaa.Abs
set_option linter.unusedVariables false
theorem own : ownKnob Try.prog.godebug = none := by kernel_rfl
theorem laidOut : laidOutB Try.prog = true := by kernel_rfl
set_option maxRecDepth 100000 in
theorem lifted (os : Os) (started : os.Started) (H : Type) (enc : TypeId × Value → H) :
    ReturnsInHanded {} Try.checked os 6 .any (Rows.netCutsSpec.pre6 enc Try.prog Try.f6 Rows.netCutsRow.domain false) (Rows.netCutsSpec.post enc Try.prog Try.f6 false true false false) := by
  refine returnsInHanded_of_change_sized (C := Try.checked) own started (by kernel_rfl) Try.func6
    (ChangeSpec.witness6 (enc := enc) (C := Try.checked) false ⟨#[], #[.slice none 0 0, .agg #[.int .u8 0, .int .u8 0]], []⟩ 8 (by kernel_rfl) (by kernel_rfl) (by kernel_rfl) (by kernel_rfl)) ?_
  intro W base args ds gs before hval0 hW hcnd hsz0 _
  have hval : ∀ (j : Nat) t v, Try.f6.params[j]? = some t → args[j]? = some v → Value.okWide Try.prog W .any base t v := hval0
  have hW' := hW
  obtain ⟨p, q, hA0, hV, rfl, hfz, hnd⟩ := hW
  have hA : DataW.TrodAll enc Try.prog W 0 (fun _ => true) true Try.f6.params.toList args.toList ds p := hA0
  rw [show Try.f6.params = #[22, 52] from by kernel_rfl] at hA hval
  obtain ⟨v0, vs0, d0, ds0, p0, q0, hargs, rfl, rfl, h0, r0⟩ := trodAll_cons hA
  obtain ⟨v1, vs1, d1, ds1, p1, q1, rfl, rfl, rfl, h1, r1⟩ := trodAll_cons r0
  obtain ⟨rfl, rfl, rfl⟩ := trodAll_nil r1
  obtain rfl : args = #[v0, v1] := by cases args; simp_all
  obtain ⟨rfl, rfl⟩ := trodVars_none hV
  have lt0 : ∀ x ∈ p0, x.block < W.heap.size := by obtain ⟨m, hm⟩ := h0; exact DataW.trod_lt m _ _ _ hm
  obtain ⟨x0, rd0, ft0, ag0⟩ := Trod_reads 8 (by kernel_rfl) (hval 0 22 v0 rfl rfl) h0
  have lt1 : ∀ x ∈ p1, x.block < W.heap.size := by obtain ⟨m, hm⟩ := h1; exact DataW.trod_lt m _ _ _ hm
  obtain ⟨x1, rd1, ft1, ag1⟩ := Trod_reads 8 (by kernel_rfl) (hval 1 52 v1 rfl rfl) h1
  have hh := NetCuts_has x0 x1 ft0 ag0 ft1 ag1
  refine (hh.2 W (okW W) #[v0, v1] (fun _ h => h) rfl ?_).mono fun e W' hx => ?_
  · intro i h1 h2
    rcases i with _ | i; exact rd0; rcases i with _ | i; exact rd1; simp at h1 <;> omega
  · obtain ⟨v, he, hr, bel⟩ := hx
    subst he
    cases hr with
    | v _ =>
      exact ⟨_, rfl, _, _, _, [], _, [], hW', trodAll_mk1 (shut_bool (show Try.prog.underlying 4 = some .bool by kernel_rfl) _), (trodAll_cons_mk (Below.trod laidOut (by kernel_rfl) (of_decide_eq_true (by kernel_rfl)) h0 bel lt0) (trodAll_cons_mk (Below.trod laidOut (by kernel_rfl) (of_decide_eq_true (by kernel_rfl)) h1 bel lt1) trodAll_mk0)), rfl, bel.frame _, fun h => by cases h⟩
theorem over : Rows.netCutsRow.holds Try.pinned (OpenSpec.ofChange Rows.netCutsSpec) :=
  OpenClaim.holds_of_wide 6 Try.f6 rfl rfl rfl rfl rfl rfl rfl ⟨rfl, rfl, rfl, rfl, rfl⟩ rfl rfl rfl rfl rfl (by kernel_rfl) Try.func6 (by kernel_rfl)
    (of_decide_eq_true (by kernel_rfl)) (by unfold Func.isWrapper; first | (rw [if_pos (by decide +kernel)]; kernel_rfl) | (rw [if_neg (by decide +kernel)]; exact ⟨rfl, rfl⟩))
    (fun os started H enc _ => lifted os started H enc)
theorem proved : Rows.NetCutsSaid := over
#print axioms proved
end Go.Proofs.Ytnemmdbafngppaa.netCuts
namespace Go.Proofs.Ytnemmdbafngppaa
/-- The row, under a short name, for the claim. -/
theorem netCuts_holds : Rows.NetCutsSaid := netCuts.proved
end Go.Proofs.Ytnemmdbafngppaa

