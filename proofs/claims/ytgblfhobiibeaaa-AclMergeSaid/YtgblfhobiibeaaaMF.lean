/- Parts of this proof, one after the other; each says what it proves. No condition. -/
import Derived.Test.YtgblfhobiibeaaaME
import Derived.Test.YtgblfhobiibeaaaMD
/- Contracts of functions of this translation. Printed by wip/tools/gen.py out of wip/acl/ann.py. No condition. -/
set_option linter.unusedVariables false
set_option linter.unusedSimpArgs false
namespace Go.Proofs.Ytgblfhobiibeaaa.Acl
open Go.Proofs.Ytgblfhobiibeaaa.Abs
set_option maxRecDepth 100000
set_option maxHeartbeats 4000000
theorem C26 (l : List Ace) (e : Ace) (hl : l.length ≤ 1000000) : Has Try.prog 26 [.slice 5 (l.map encA), encA e] (.tup [.slice 5 ((put l e).1.map encA), .i (put l e).2]) := by   -- burgage/burgageref02.Put
  have hol := own_len l false
  have hol2 := own_len l true
  refine Has.intro 77 Try.func26 (by kernel_rfl) rfl rfl fun w ok => ?_
  refine AT.seq ?_
  refine AT.region ?_   -- region 0 ref.go:113
  refine TrC.take rfl (step_box rfl rfl rfl rfl rfl rfl rfl) ?_   -- 0
  refine TrC.take rfl (step_assignN (sz := 5) rfl rfl) ?_   -- 1
  refine TrC.take rfl (step_assign rfl rfl rfl) ?_   -- 2
  refine TrC.done ?_
  refine AT.seq ?_
  refine AT.region ?_   -- region 1 ref.go:114
  refine TrC.take rfl (step_loadPN rfl rfl rfl ty31 rfl rfl rfl) ?_   -- 0
  refine TrC.take rfl (step_alloc rfl rfl ze31 rfl rfl rfl) ?_   -- 1
  refine TrC.take rfl (step_storeP rfl rfl rfl rfl rfl (.inl rfl) ty31 rfl rfl rfl) ?_   -- 2
  refine TrC.done ?_
  refine AT.seqJ (mkS [(0, .t (.slice 5 (l.map encA))), (3, .p 3 0), (6, .p 6 0)] [(3, .box 31 [.t (.i e.who), .t (.b e.al), .t (.i e.rt), .t (.i e.rc), .t (.b e.gv)]), (6, .box 31 [.t (.i (e1 e 1).who), .t (.b (e1 e 1).al), .t (.i (e1 e 1).rt), .t (.i (e1 e 1).rc), .t (.b (e1 e 1).gv)])]) ?_ ?_
  ·
    refine AT.seq ?_
    refine AT.region ?_   -- region 2 ref.go:115
    refine TrC.take rfl (step_fieldAddrP rfl rfl fd31_2 rfl rfl) ?_   -- 0
    refine TrC.take rfl (step_loadP1 rfl rfl rfl ty3 rfl rfl) ?_   -- 1
    refine TrC.take rfl (step_bin rfl rfl rfl rfl rfl) ?_   -- 2
    refine TrC.done ?_
    refine AT.cond rfl (fun h13 => ?_) (fun h13 => ?_)   -- t13
    · -- true
      refine AT.region ?_   -- region 3 ref.go:116
      refine TrC.take rfl (step_fieldAddrP rfl rfl fd31_2 rfl rfl) ?_   -- 0
      refine TrC.take rfl (step_storeP rfl rfl rfl rfl rfl (.inl rfl) ty3 rfl rfl rfl) ?_   -- 1
      refine TrC.done ?_
      exact Sat.wk [] (.cons (.t (.refl _)) (.cons (.p rfl) (.cons (.p rfl) (.nil)))) (.cons rfl (.box (.cons (.t (.refl _)) (.cons (.t (.refl _)) (.cons (.t (.refl _)) (.cons (.t (.refl _)) (.cons (.t (.refl _)) (.nil))))))) (.cons rfl (.box (.cons (.t (conv_i (by unfold e1; split <;> rfl))) (.cons (.t (conv_b (by unfold e1; split <;> rfl))) (.cons (.t (conv_i (by have h := h13; unfold e1; simp at h; simp [h]))) (.cons (.t (conv_i (by unfold e1; split <;> rfl))) (.cons (.t (conv_b (by unfold e1; split <;> rfl))) (.nil))))))) (.nil))) rfl rfl
    · -- false
      refine AT.skip ?_
      exact Sat.wk [] (.cons (.t (.refl _)) (.cons (.p rfl) (.cons (.p rfl) (.nil)))) (.cons rfl (.box (.cons (.t (.refl _)) (.cons (.t (.refl _)) (.cons (.t (.refl _)) (.cons (.t (.refl _)) (.cons (.t (.refl _)) (.nil))))))) (.cons rfl (.box (.cons (.t (conv_i (by unfold e1; split <;> rfl))) (.cons (.t (conv_b (by unfold e1; split <;> rfl))) (.cons (.t (conv_i (by have h := h13; unfold e1; simp at h; simp [h]))) (.cons (.t (conv_i (by unfold e1; split <;> rfl))) (.cons (.t (conv_b (by unfold e1; split <;> rfl))) (.nil))))))) (.nil))) rfl rfl
  ·
    refine AT.seq ?_
    refine AT.seqJ (mkS [(0, .t (.slice 5 (l.map encA))), (3, .p 3 0), (26, .t (.b (!putOk l e)))] [(3, .box 31 [.t (.i e.who), .t (.b e.al), .t (.i e.rt), .t (.i e.rc), .t (.b e.gv)])]) ?_ ?_
    ·
      refine AT.region ?_   -- region 4 ref.go:118
      refine TrC.take rfl (step_move rfl rfl rfl) ?_   -- 0
      refine TrC.take rfl (step_call0 rfl rfl (C14 l hl) rfl) ?_   -- 1
      refine TrC.take rfl (step_not rfl rfl rfl) ?_   -- 2
      refine TrC.take rfl (step_move rfl rfl rfl) ?_   -- 3
      refine TrC.cases (d := 18) rfl (fun h18 => ?_) (fun h18 => ?_)
      · -- t18 = true
        refine TrC.skip ⟨_, _, rfl, rfl, rfl⟩ ?_   -- 4
        refine TrC.skip ⟨_, _, rfl, rfl, rfl⟩ ?_   -- 5
        refine TrC.take rfl (step_pick rfl rfl rfl rfl) ?_   -- 6
        refine TrC.take rfl (step_move rfl rfl rfl) ?_   -- 7
        refine TrC.skip ⟨_, _, rfl, rfl, rfl⟩ ?_   -- 8
        refine TrC.skip ⟨_, _, rfl, rfl, rfl⟩ ?_   -- 9
        refine TrC.skip ⟨_, _, rfl, rfl, rfl⟩ ?_   -- 10
        refine TrC.take rfl (step_pick rfl rfl rfl rfl) ?_   -- 11
        refine TrC.done ?_
        exact Sat.wk [] (.cons (.t (.refl _)) (.cons (.p rfl) (.cons (.t (conv_b (by unfold putOk; first | (simp_all; done) | (rw [Bool.eq_iff_iff]; simp_all; done)))) (.nil)))) (.cons rfl (.box (.cons (.t (.refl _)) (.cons (.t (.refl _)) (.cons (.t (.refl _)) (.cons (.t (.refl _)) (.cons (.t (.refl _)) (.nil))))))) (.nil)) rfl rfl
      · -- t18 = false
        refine TrC.take ⟨_, _, rfl, rfl, rfl⟩ (step_fieldAddrP rfl rfl fd31_4 rfl rfl) ?_   -- 4
        refine TrC.take ⟨_, _, rfl, rfl, rfl⟩ (step_loadP1 rfl rfl rfl ty4 rfl rfl) ?_   -- 5
        refine TrC.take rfl (step_pick rfl rfl rfl rfl) ?_   -- 6
        refine TrC.take rfl (step_move rfl rfl rfl) ?_   -- 7
        refine TrC.cases (d := 22) rfl (fun h22 => ?_) (fun h22 => ?_)
        · -- t22 = true
          refine TrC.skip ⟨_, _, rfl, rfl, rfl⟩ ?_   -- 8
          refine TrC.skip ⟨_, _, rfl, rfl, rfl⟩ ?_   -- 9
          refine TrC.skip ⟨_, _, rfl, rfl, rfl⟩ ?_   -- 10
          refine TrC.take rfl (step_pick rfl rfl rfl rfl) ?_   -- 11
          refine TrC.done ?_
          exact Sat.wk [] (.cons (.t (.refl _)) (.cons (.p rfl) (.cons (.t (conv_b (by unfold putOk; first | (simp_all; done) | (rw [Bool.eq_iff_iff]; simp_all; done)))) (.nil)))) (.cons rfl (.box (.cons (.t (.refl _)) (.cons (.t (.refl _)) (.cons (.t (.refl _)) (.cons (.t (.refl _)) (.cons (.t (.refl _)) (.nil))))))) (.nil)) rfl rfl
        · -- t22 = false
          refine TrC.take ⟨_, _, rfl, rfl, rfl⟩ (step_loadPN rfl rfl rfl ty31 rfl rfl rfl) ?_   -- 8
          refine TrC.take ⟨_, _, rfl, rfl, rfl⟩ (step_call0 rfl rfl (C35 (e1 e 1)) rfl) ?_   -- 9
          refine TrC.take ⟨_, _, rfl, rfl, rfl⟩ (step_not rfl rfl rfl) ?_   -- 10
          refine TrC.take rfl (step_pick rfl rfl rfl rfl) ?_   -- 11
          refine TrC.done ?_
          exact Sat.wk [] (.cons (.t (.refl _)) (.cons (.p rfl) (.cons (.t (conv_b (by unfold putOk; first | (simp_all; done) | (rw [Bool.eq_iff_iff]; simp_all; done)))) (.nil)))) (.cons rfl (.box (.cons (.t (.refl _)) (.cons (.t (.refl _)) (.cons (.t (.refl _)) (.cons (.t (.refl _)) (.cons (.t (.refl _)) (.nil))))))) (.nil)) rfl rfl
    ·
      refine AT.cond rfl (fun h26 => ?_) (fun h26 => ?_)   -- t26
      · -- true
        have hs : put l e = ([], 20) := by unfold put; rw [if_neg (by rw [not_t h26]; simp)]
        refine AT.seq ?_
        refine AT.region ?_   -- region 5 ref.go:119
        refine TrC.take rfl (step_assignN (sz := 5) rfl rfl) ?_   -- 0
        refine TrC.take rfl (step_assign rfl rfl rfl) ?_   -- 1
        refine TrC.done ?_
        refine AT.ret ?_
        exact Ret.many (.cons (.tmp rfl (conv_eq (by rw [hs]; rfl))) (.cons (.tmp rfl (conv_i (by rw [hs]))) .nil)) rfl
      · -- false
        have hok : putOk l e = true := not_f h26
        refine AT.skip ?_
        refine AT.seq ?_
        refine AT.region ?_   -- region 6 ref.go:121
        refine TrC.take rfl (step_move rfl rfl rfl) ?_   -- 0
        refine TrC.take rfl (step_callH0 rfl rfl rfl (C30 l false hl) rfl rfl) ?_   -- 1
        refine TrC.take rfl (step_buildSliceH rfl rfl sl22 ze31 rfl rfl rfl rfl rfl rfl rfl rfl rfl rfl rfl rfl rfl) ?_   -- 2
        refine TrC.take rfl (step_assign rfl rfl rfl) ?_   -- 3
        refine TrC.take rfl (step_assign rfl rfl rfl) ?_   -- 4
        refine TrC.done ?_
        refine AT.seqJ (mkS [(0, .t (.slice 5 (l.map encA))), (3, .p 3 0), (7, .h 50), (8, .h 60)] [(3, .box 31 [.t (.i e.who), .t (.b e.al), .t (.i e.rt), .t (.i e.rc), .t (.b e.gv)]), (50, .row 31 5 ((withE l e).map encA)), (60, .row 31 5 (([] : List Ace).map encA))]) ?_ ?_
        ·
          refine AT.seq ?_
          refine AT.region ?_   -- region 7 ref.go:122
          refine TrC.take rfl (step_move rfl rfl rfl) ?_   -- 0
          refine TrC.take rfl (step_loadPN rfl rfl rfl ty31 rfl rfl rfl) ?_   -- 1
          refine TrC.take rfl (step_callB rfl rfl (C31 (own l false) e (by omega)) (ConvL.refl _) rfl) ?_   -- 2
          refine TrC.take rfl (step_bin rfl rfl rfl rfl rfl) ?_   -- 3
          refine TrC.done ?_
          refine AT.cond rfl (fun h33 => ?_) (fun h33 => ?_)   -- t33
          · -- true
            refine AT.region ?_   -- region 8 ref.go:123
            refine TrC.take rfl (step_move rfl rfl rfl) ?_   -- 0
            refine TrC.take rfl (step_loadPN rfl rfl rfl ty31 rfl rfl rfl) ?_   -- 1
            refine TrC.take rfl (step_buildSliceT rfl sl22 ze31 rfl rfl rfl rfl rfl rfl rfl rfl rfl rfl rfl rfl) ?_   -- 2
            refine TrC.take rfl (step_append rfl rfl rfl rfl rfl (.refl _) sl22 ze31 rfl rfl rfl (by first | (simp; done) | (simp; omega) | omega) rfl rfl) ?_   -- 3
            refine TrC.take rfl (step_assign rfl rfl rfl) ?_   -- 4
            refine TrC.done ?_
            exact Sat.wk [(50, 37), (60, 29)] (.cons (.t (.refl _)) (.cons (.p (j := 3) rfl) (.cons (.h (j := 50) rfl) (.cons (.h (j := 60) rfl) (.nil))))) (.cons rfl (.box (.cons (.t (.refl _)) (.cons (.t (.refl _)) (.cons (.t (.refl _)) (.cons (.t (.refl _)) (.cons (.t (.refl _)) (.nil))))))) (.cons rfl (.row (by unfold withE; rw [if_pos (by simpa using h33)]; simp [encA])) (.cons rfl (.row rfl) (.nil)))) rfl rfl
          · -- false
            refine AT.skip ?_
            exact Sat.wk [(50, 28), (60, 29)] (.cons (.t (.refl _)) (.cons (.p (j := 3) rfl) (.cons (.h (j := 50) rfl) (.cons (.h (j := 60) rfl) (.nil))))) (.cons rfl (.box (.cons (.t (.refl _)) (.cons (.t (.refl _)) (.cons (.t (.refl _)) (.cons (.t (.refl _)) (.cons (.t (.refl _)) (.nil))))))) (.cons rfl (.row (by unfold withE; rw [if_neg (by simpa using h33)])) (.cons rfl (.row rfl) (.nil)))) rfl rfl
        ·
          have hwl : (withE l e).length ≤ l.length + 1 := by unfold withE; split <;> (try simp) <;> omega
          refine Exists.elim (show ∃ m, m = withE l e from ⟨_, rfl⟩) (fun m hm => ?_)
          rw [← hm] at hwl
          refine AT.wk (sl := [(0, .t (.slice 5 (l.map encA))), (3, .p 3 0), (7, .h 50), (8, .h 60)]) (ml := [(3, .box 31 [.t (.i e.who), .t (.b e.al), .t (.i e.rt), .t (.i e.rc), .t (.b e.gv)]), (50, .row 31 5 (m.map encA)), (60, .row 31 5 (([] : List Ace).map encA))]) [] (.cons (.t (.refl _)) (.cons (.p rfl) (.cons (.h rfl) (.cons (.h rfl) (.nil))))) (.cons rfl (.box (.cons (.t (.refl _)) (.cons (.t (.refl _)) (.cons (.t (.refl _)) (.cons (.t (.refl _)) (.cons (.t (.refl _)) (.nil))))))) (.cons rfl (.row (by rw [hm])) (.cons rfl (.row rfl) (.nil)))) rfl rfl ?_
          refine AT.seq ?_
          refine AT.seq ?_
          refine AT.region ?_   -- region 9 ref.go:125
          refine TrC.take rfl (step_assign rfl rfl rfl) ?_   -- 0
          refine TrC.done ?_
          refine AT.block ?_   -- block 0
          refine AT.loopP (fun k : Nat => k ≤ m.length) (fun k => mkS [(0, .t (.slice 5 (l.map encA))), (3, .p 3 0), (7, .h 50), (8, .h 60), (9, .t (.i k))] [(3, .box 31 [.t (.i e.who), .t (.b e.al), .t (.i e.rt), .t (.i e.rc), .t (.b e.gv)]), (50, .row 31 5 ((half (setR e) m k).map encA)), (60, .row 31 5 ((outK e m k).map encA))]) (fun k => m.length - k) (0) (Nat.zero_le _) (fun a w hs => Sat.wk [] (.cons (.t (.refl _)) (.cons (.p rfl) (.cons (.h rfl) (.cons (.h rfl) (.cons (.t (.refl _)) (.nil)))))) (.cons rfl (.box (.cons (.t (.refl _)) (.cons (.t (.refl _)) (.cons (.t (.refl _)) (.cons (.t (.refl _)) (.cons (.t (.refl _)) (.nil))))))) (.cons rfl (.row (by rw [half_zero])) (.cons rfl (.row rfl) (.nil)))) rfl rfl a w hs) (fun k hk => ?_)
          have hhl := half_len (setR e) m k
          have hhl1 := half_len (setR e) m (k + 1)
          have hfl := outK_len e m k
          refine AT.seq ?_
          refine AT.seq ?_
          refine AT.region ?_   -- region 10 ref.go:125
          refine TrC.take rfl (step_move rfl rfl rfl) ?_   -- 0
          refine TrC.take rfl (step_move rfl rfl rfl) ?_   -- 1
          refine TrC.take rfl (step_lenH rfl rfl rfl sl22 rfl) ?_   -- 2
          refine TrC.take rfl (step_bin rfl rfl rfl rfl rfl) ?_   -- 3
          refine TrC.done ?_
          refine AT.cond rfl (fun h41 => ?_) (fun h41 => ?_)   -- t41
          · -- true
            have hk2 : k < m.length := by have h := h41; simp [hhl] at h; omega
            refine Exists.elim (show ∃ a, a = m[k] from ⟨_, rfl⟩) (fun a ha => ?_)
            have hga : ((half (setR e) m k).map encA)[k]? = some (encA a) := by rw [List.getElem?_map, half_get hk2, ha]; rfl
            refine AT.skip ?_
            refine AT.seq ?_
            refine AT.block ?_   -- block 1
            refine AT.seqJ (mkS [(0, .t (.slice 5 (l.map encA))), (3, .p 3 0), (7, .h 50), (8, .h 60), (9, .t (.i k))] [(3, .box 31 [.t (.i e.who), .t (.b e.al), .t (.i e.rt), .t (.i e.rc), .t (.b e.gv)]), (50, .row 31 5 ((half (setR e) m (k + 1)).map encA)), (60, .row 31 5 ((outK e m k).map encA))]) ?_ ?_
            ·
              refine AT.seq ?_
              refine AT.regionD mixed rfl ?_   -- region 12 ref.go:126
              refine TrC.take rfl (step_move rfl rfl rfl) ?_   -- 0
              refine TrC.take rfl (step_move rfl rfl rfl) ?_   -- 1
              refine TrC.take rfl (step_indexAddrH rfl rfl rfl rfl sl22 (by omega) (by simp [hhl]; omega) rfl) ?_   -- 2
              refine TrC.take rfl (step_loadEN (k := k) rfl rfl rfl (by omega) ty31 hga rfl) ?_   -- 3
              refine TrC.take rfl (step_loadPN rfl rfl rfl ty31 rfl rfl rfl) ?_   -- 4
              refine TrC.take rfl (step_call0 rfl rfl (C32 a e) rfl) ?_   -- 5
              refine TrC.doneD rfl ?_
              refine AT.cond rfl (fun h49 => ?_) (fun h49 => ?_)   -- t49
              · -- true
                refine AT.region ?_   -- region 13 ref.go:127
                refine TrC.take rfl (step_move rfl rfl rfl) ?_   -- 0
                refine TrC.take rfl (step_move rfl rfl rfl) ?_   -- 1
                refine TrC.take rfl (step_fieldAddrP rfl rfl fd31_2 rfl rfl) ?_   -- 2
                refine TrC.take rfl (step_loadP1 rfl rfl rfl ty3 rfl rfl) ?_   -- 3
                refine TrC.take rfl (step_indexAddrH rfl rfl rfl rfl sl22 (by omega) (by simp [hhl]; omega) rfl) ?_   -- 4
                refine TrC.take rfl (step_fieldAddrE rfl rfl fd31_2 rfl rfl) ?_   -- 5
                refine TrC.take rfl (step_storeR (k := k) (j := 2) rfl rfl rfl (by omega) hga rfl rfl rfl ty3 rfl rfl) ?_   -- 6
                refine TrC.done ?_
                exact Sat.wk [] (.cons (.t (.refl _)) (.cons (.p rfl) (.cons (.h rfl) (.cons (.h rfl) (.cons (.t (.refl _)) (.nil)))))) (.cons rfl (.box (.cons (.t (.refl _)) (.cons (.t (.refl _)) (.cons (.t (.refl _)) (.cons (.t (.refl _)) (.cons (.t (.refl _)) (.nil))))))) (.cons rfl (.row (by rw [← half_enc_set hk2, ← ha, setR_yes h49, ← marked_same h49]; rfl)) (.cons rfl (.row rfl) (.nil)))) rfl rfl
              · -- false
                refine AT.skip ?_
                exact Sat.wk [] (.cons (.t (.refl _)) (.cons (.p rfl) (.cons (.h rfl) (.cons (.h rfl) (.cons (.t (.refl _)) (.nil)))))) (.cons rfl (.box (.cons (.t (.refl _)) (.cons (.t (.refl _)) (.cons (.t (.refl _)) (.cons (.t (.refl _)) (.cons (.t (.refl _)) (.nil))))))) (.cons rfl (.row (by rw [half_skip hk2 (by rw [← ha]; exact setR_no h49)])) (.cons rfl (.row rfl) (.nil)))) rfl rfl
            ·
              refine Exists.elim (show ∃ b, b = setR e m[k] from ⟨_, rfl⟩) (fun b hb => ?_)
              have hgb : ((half (setR e) m (k + 1)).map encA)[k]? = some (encA b) := by rw [List.getElem?_map, half_done hk2, hb]; rfl
              refine AT.seq ?_
              refine AT.region ?_   -- region 14 ref.go:129
              refine TrC.take rfl (step_move rfl rfl rfl) ?_   -- 0
              refine TrC.take rfl (step_move rfl rfl rfl) ?_   -- 1
              refine TrC.take rfl (step_indexAddrH rfl rfl rfl rfl sl22 (by omega) (by simp [hhl1]; omega) rfl) ?_   -- 2
              refine TrC.take rfl (step_fieldAddrE rfl rfl fd31_2 rfl rfl) ?_   -- 3
              refine TrC.take rfl (step_loadE1 (k := k) (j := 2) rfl rfl rfl (by omega) ty3 hgb rfl rfl) ?_   -- 4
              refine TrC.take rfl (step_bin rfl rfl rfl rfl rfl) ?_   -- 5
              refine TrC.done ?_
              refine AT.cond rfl (fun h61 => ?_) (fun h61 => ?_)   -- t61
              · -- true
                refine AT.region ?_   -- region 15 ref.go:130
                refine TrC.take rfl (step_move rfl rfl rfl) ?_   -- 0
                refine TrC.take rfl (step_move rfl rfl rfl) ?_   -- 1
                refine TrC.take rfl (step_move rfl rfl rfl) ?_   -- 2
                refine TrC.take rfl (step_indexAddrH rfl rfl rfl rfl sl22 (by omega) (by simp [hhl1]; omega) rfl) ?_   -- 3
                refine TrC.take rfl (step_loadEN (k := k) rfl rfl rfl (by omega) ty31 hgb rfl) ?_   -- 4
                refine TrC.take rfl (step_buildSliceT rfl sl22 ze31 rfl rfl rfl rfl rfl rfl rfl rfl rfl rfl rfl rfl) ?_   -- 5
                refine TrC.take rfl (step_append rfl rfl rfl rfl rfl (.refl _) sl22 ze31 rfl rfl rfl (by first | (simp; done) | (simp; omega) | omega) rfl rfl) ?_   -- 6
                refine TrC.take rfl (step_assign rfl rfl rfl) ?_   -- 7
                refine TrC.done ?_
                refine AT.region ?_   -- region 11 ref.go:125
                refine TrC.take rfl (step_move rfl rfl rfl) ?_   -- 0
                refine TrC.take rfl (step_addI rfl rfl rfl (by first | omega | (simp; done) | (simp; omega)) (by first | omega | (simp; done) | (simp; omega)) rfl) ?_   -- 1
                refine TrC.take rfl (step_assign rfl rfl rfl) ?_   -- 2
                refine TrC.done ?_
                exact ⟨k + 1, hk2, by show m.length - (k + 1) < m.length - k; omega, Sat.wk [(60, 68)] (.cons (.t (.refl _)) (.cons (.p (j := 3) rfl) (.cons (.h (j := 50) rfl) (.cons (.h (j := 60) rfl) (.cons (.t (conv_i (by simp))) (.nil)))))) (.cons rfl (.box (.cons (.t (.refl _)) (.cons (.t (.refl _)) (.cons (.t (.refl _)) (.cons (.t (.refl _)) (.cons (.t (.refl _)) (.nil))))))) (.cons rfl (.row rfl) (.cons rfl (.row (by rw [outK_yes hk2 (by rw [← hb]; simpa using h61), ← hb]; simp [encA]; rfl)) (.nil)))) rfl rfl⟩
              · -- false
                refine AT.skip ?_
                refine AT.region ?_   -- region 11 ref.go:125
                refine TrC.take rfl (step_move rfl rfl rfl) ?_   -- 0
                refine TrC.take rfl (step_addI rfl rfl rfl (by first | omega | (simp; done) | (simp; omega)) (by first | omega | (simp; done) | (simp; omega)) rfl) ?_   -- 1
                refine TrC.take rfl (step_assign rfl rfl rfl) ?_   -- 2
                refine TrC.done ?_
                exact ⟨k + 1, hk2, by show m.length - (k + 1) < m.length - k; omega, Sat.wk [] (.cons (.t (.refl _)) (.cons (.p rfl) (.cons (.h rfl) (.cons (.h rfl) (.cons (.t (conv_i (by simp))) (.nil)))))) (.cons rfl (.box (.cons (.t (.refl _)) (.cons (.t (.refl _)) (.cons (.t (.refl _)) (.cons (.t (.refl _)) (.cons (.t (.refl _)) (.nil))))))) (.cons rfl (.row rfl) (.cons rfl (.row (by rw [outK_no hk2 (by rw [← hb]; simpa using h61)])) (.nil)))) rfl rfl⟩
          · -- false
            have hk2 : k = m.length := by have h := h41; simp [hhl] at h; omega
            have hput : outK e m k ++ own l true = putL l e := by rw [hk2, hm]; exact outK_end l e
            refine AT.exit (Or.inl ⟨rfl, ?_⟩)   -- exit 0
            refine AT.seq ?_
            refine AT.region ?_   -- region 16 ref.go:133
            refine TrC.take rfl (step_move rfl rfl rfl) ?_   -- 0
            refine TrC.take rfl (step_move rfl rfl rfl) ?_   -- 1
            refine TrC.take rfl (step_call0 rfl rfl (HasOwn.has (C30 l true hl)) rfl) ?_   -- 2
            refine TrC.take rfl (step_append rfl rfl rfl rfl rfl (.refl _) sl22 ze31 rfl rfl rfl (by first | (simp; done) | (simp; omega) | omega) rfl rfl) ?_   -- 3
            refine TrC.take rfl (step_assign rfl rfl rfl) ?_   -- 4
            refine TrC.done ?_
            refine AT.seq ?_
            refine AT.seq ?_
            refine AT.region ?_   -- region 17 ref.go:134
            refine TrC.take rfl (step_move rfl rfl rfl) ?_   -- 0
            refine TrC.take rfl (step_lenH rfl rfl rfl sl22 rfl) ?_   -- 1
            refine TrC.take rfl (step_bin rfl rfl rfl rfl rfl) ?_   -- 2
            refine TrC.done ?_
            refine AT.cond rfl (fun h75 => ?_) (fun h75 => ?_)   -- t75
            · -- true
              have hs : put l e = ([], 2) := by unfold put; rw [if_pos hok, if_pos (by rw [← hput]; have h := h75; simp at h; simp; omega)]
              refine AT.seq ?_
              refine AT.region ?_   -- region 18 ref.go:135
              refine TrC.take rfl (step_assignN (sz := 5) rfl rfl) ?_   -- 0
              refine TrC.take rfl (step_assign rfl rfl rfl) ?_   -- 1
              refine TrC.done ?_
              refine AT.ret ?_
              exact Ret.many (.cons (.tmp rfl (conv_eq (by rw [hs]; rfl))) (.cons (.tmp rfl (conv_i (by rw [hs]))) .nil)) rfl
            · -- false
              have hs : put l e = (putL l e, 0) := by unfold put; rw [if_pos hok, if_neg (by rw [← hput]; have h := h75; simp at h; simp; omega)]
              refine AT.skip ?_
              refine AT.seq ?_
              refine AT.region ?_   -- region 19 ref.go:137
              refine TrC.take rfl (step_move rfl rfl rfl) ?_   -- 0
              refine TrC.take rfl (step_assign rfl rfl rfl) ?_   -- 1
              refine TrC.take rfl (step_assign rfl rfl rfl) ?_   -- 2
              refine TrC.done ?_
              refine AT.ret ?_
              exact Ret.many (.cons (.row rfl (by rw [hs, ← hput]; simp; rfl)) (.cons (.tmp rfl (conv_i (by rw [hs]))) .nil)) rfl

end Go.Proofs.Ytgblfhobiibeaaa.Acl

/- Contracts of functions of this translation. Printed by wip/tools/gen.py out of wip/acl/ann.py. No condition. -/
set_option linter.unusedVariables false
set_option linter.unusedSimpArgs false
namespace Go.Proofs.Ytgblfhobiibeaaa.Acl
open Go.Proofs.Ytgblfhobiibeaaa.Abs
set_option maxRecDepth 100000
set_option maxHeartbeats 4000000
theorem C25 (l : List Ace) (e : Ace) (hl : l.length ≤ 1000000) : Has Try.prog 25 [.slice 5 (l.map encA), encA e] (.tup [.slice 5 ((put l e).1.map encA), .i (put l e).2]) := by   -- burgage/acl.Put
  have hol := own_len l false
  refine Has.intro 60 Try.func25 (by kernel_rfl) rfl rfl fun w ok => ?_
  refine AT.seq ?_
  refine AT.region ?_   -- region 0 acl.go:97
  refine TrC.take rfl (step_box rfl rfl rfl rfl rfl rfl rfl) ?_   -- 0
  refine TrC.take rfl (step_assignN (sz := 5) rfl rfl) ?_   -- 1
  refine TrC.take rfl (step_assign rfl rfl rfl) ?_   -- 2
  refine TrC.done ?_
  refine AT.seq ?_
  refine AT.region ?_   -- region 1 acl.go:98
  refine TrC.take rfl (step_loadPN rfl rfl rfl ty31 rfl rfl rfl) ?_   -- 0
  refine TrC.take rfl (step_alloc rfl rfl ze31 rfl rfl rfl) ?_   -- 1
  refine TrC.take rfl (step_storeP rfl rfl rfl rfl rfl (.inl rfl) ty31 rfl rfl rfl) ?_   -- 2
  refine TrC.done ?_
  refine AT.seqJ (mkS [(0, .t (.slice 5 (l.map encA))), (3, .p 3 0), (6, .p 6 0)] [(3, .box 31 [.t (.i e.who), .t (.b e.al), .t (.i e.rt), .t (.i e.rc), .t (.b e.gv)]), (6, .box 31 [.t (.i (e1 e 15).who), .t (.b (e1 e 15).al), .t (.i (e1 e 15).rt), .t (.i (e1 e 15).rc), .t (.b (e1 e 15).gv)])]) ?_ ?_
  ·
    refine AT.seq ?_
    refine AT.region ?_   -- region 2 acl.go:99
    refine TrC.take rfl (step_fieldAddrP rfl rfl fd31_2 rfl rfl) ?_   -- 0
    refine TrC.take rfl (step_loadP1 rfl rfl rfl ty3 rfl rfl) ?_   -- 1
    refine TrC.take rfl (step_bin rfl rfl rfl rfl rfl) ?_   -- 2
    refine TrC.done ?_
    refine AT.cond rfl (fun h13 => ?_) (fun h13 => ?_)   -- t13
    · -- true
      refine AT.region ?_   -- region 3 acl.go:100
      refine TrC.take rfl (step_fieldAddrP rfl rfl fd31_2 rfl rfl) ?_   -- 0
      refine TrC.take rfl (step_storeP rfl rfl rfl rfl rfl (.inl rfl) ty3 rfl rfl rfl) ?_   -- 1
      refine TrC.done ?_
      exact Sat.wk [] (.cons (.t (.refl _)) (.cons (.p rfl) (.cons (.p rfl) (.nil)))) (.cons rfl (.box (.cons (.t (.refl _)) (.cons (.t (.refl _)) (.cons (.t (.refl _)) (.cons (.t (.refl _)) (.cons (.t (.refl _)) (.nil))))))) (.cons rfl (.box (.cons (.t (conv_i (by unfold e1; split <;> rfl))) (.cons (.t (conv_b (by unfold e1; split <;> rfl))) (.cons (.t (conv_i (by have h := h13; unfold e1; simp at h; simp [h]))) (.cons (.t (conv_i (by unfold e1; split <;> rfl))) (.cons (.t (conv_b (by unfold e1; split <;> rfl))) (.nil))))))) (.nil))) rfl rfl
    · -- false
      refine AT.skip ?_
      exact Sat.wk [] (.cons (.t (.refl _)) (.cons (.p rfl) (.cons (.p rfl) (.nil)))) (.cons rfl (.box (.cons (.t (.refl _)) (.cons (.t (.refl _)) (.cons (.t (.refl _)) (.cons (.t (.refl _)) (.cons (.t (.refl _)) (.nil))))))) (.cons rfl (.box (.cons (.t (conv_i (by unfold e1; split <;> rfl))) (.cons (.t (conv_b (by unfold e1; split <;> rfl))) (.cons (.t (conv_i (by have h := h13; unfold e1; simp at h; simp [h]))) (.cons (.t (conv_i (by unfold e1; split <;> rfl))) (.cons (.t (conv_b (by unfold e1; split <;> rfl))) (.nil))))))) (.nil))) rfl rfl
  ·
    refine AT.seq ?_
    refine AT.seqJ (mkS [(0, .t (.slice 5 (l.map encA))), (3, .p 3 0), (26, .t (.b (!putOk l e)))] [(3, .box 31 [.t (.i e.who), .t (.b e.al), .t (.i e.rt), .t (.i e.rc), .t (.b e.gv)])]) ?_ ?_
    ·
      refine AT.region ?_   -- region 4 acl.go:102
      refine TrC.take rfl (step_move rfl rfl rfl) ?_   -- 0
      refine TrC.take rfl (step_call0 rfl rfl (C13 l hl) rfl) ?_   -- 1
      refine TrC.take rfl (step_not rfl rfl rfl) ?_   -- 2
      refine TrC.take rfl (step_move rfl rfl rfl) ?_   -- 3
      refine TrC.cases (d := 18) rfl (fun h18 => ?_) (fun h18 => ?_)
      · -- t18 = true
        refine TrC.skip ⟨_, _, rfl, rfl, rfl⟩ ?_   -- 4
        refine TrC.skip ⟨_, _, rfl, rfl, rfl⟩ ?_   -- 5
        refine TrC.take rfl (step_pick rfl rfl rfl rfl) ?_   -- 6
        refine TrC.take rfl (step_move rfl rfl rfl) ?_   -- 7
        refine TrC.skip ⟨_, _, rfl, rfl, rfl⟩ ?_   -- 8
        refine TrC.skip ⟨_, _, rfl, rfl, rfl⟩ ?_   -- 9
        refine TrC.skip ⟨_, _, rfl, rfl, rfl⟩ ?_   -- 10
        refine TrC.take rfl (step_pick rfl rfl rfl rfl) ?_   -- 11
        refine TrC.done ?_
        exact Sat.wk [] (.cons (.t (.refl _)) (.cons (.p rfl) (.cons (.t (conv_b (by rw [putOk_eq]; first | (simp_all; done) | (rw [Bool.eq_iff_iff]; simp_all; done)))) (.nil)))) (.cons rfl (.box (.cons (.t (.refl _)) (.cons (.t (.refl _)) (.cons (.t (.refl _)) (.cons (.t (.refl _)) (.cons (.t (.refl _)) (.nil))))))) (.nil)) rfl rfl
      · -- t18 = false
        refine TrC.take ⟨_, _, rfl, rfl, rfl⟩ (step_fieldAddrP rfl rfl fd31_4 rfl rfl) ?_   -- 4
        refine TrC.take ⟨_, _, rfl, rfl, rfl⟩ (step_loadP1 rfl rfl rfl ty4 rfl rfl) ?_   -- 5
        refine TrC.take rfl (step_pick rfl rfl rfl rfl) ?_   -- 6
        refine TrC.take rfl (step_move rfl rfl rfl) ?_   -- 7
        refine TrC.cases (d := 22) rfl (fun h22 => ?_) (fun h22 => ?_)
        · -- t22 = true
          refine TrC.skip ⟨_, _, rfl, rfl, rfl⟩ ?_   -- 8
          refine TrC.skip ⟨_, _, rfl, rfl, rfl⟩ ?_   -- 9
          refine TrC.skip ⟨_, _, rfl, rfl, rfl⟩ ?_   -- 10
          refine TrC.take rfl (step_pick rfl rfl rfl rfl) ?_   -- 11
          refine TrC.done ?_
          exact Sat.wk [] (.cons (.t (.refl _)) (.cons (.p rfl) (.cons (.t (conv_b (by rw [putOk_eq]; first | (simp_all; done) | (rw [Bool.eq_iff_iff]; simp_all; done)))) (.nil)))) (.cons rfl (.box (.cons (.t (.refl _)) (.cons (.t (.refl _)) (.cons (.t (.refl _)) (.cons (.t (.refl _)) (.cons (.t (.refl _)) (.nil))))))) (.nil)) rfl rfl
        · -- t22 = false
          refine TrC.take ⟨_, _, rfl, rfl, rfl⟩ (step_loadPN rfl rfl rfl ty31 rfl rfl rfl) ?_   -- 8
          refine TrC.take ⟨_, _, rfl, rfl, rfl⟩ (step_call0 rfl rfl (C33 (e1 e 15)) rfl) ?_   -- 9
          refine TrC.take ⟨_, _, rfl, rfl, rfl⟩ (step_not rfl rfl rfl) ?_   -- 10
          refine TrC.take rfl (step_pick rfl rfl rfl rfl) ?_   -- 11
          refine TrC.done ?_
          exact Sat.wk [] (.cons (.t (.refl _)) (.cons (.p rfl) (.cons (.t (conv_b (by rw [putOk_eq]; first | (simp_all; done) | (rw [Bool.eq_iff_iff]; simp_all; done)))) (.nil)))) (.cons rfl (.box (.cons (.t (.refl _)) (.cons (.t (.refl _)) (.cons (.t (.refl _)) (.cons (.t (.refl _)) (.cons (.t (.refl _)) (.nil))))))) (.nil)) rfl rfl
    ·
      refine AT.cond rfl (fun h26 => ?_) (fun h26 => ?_)   -- t26
      · -- true
        have hs : put l e = ([], 20) := by unfold put; rw [if_neg (by rw [not_t h26]; simp)]
        refine AT.seq ?_
        refine AT.region ?_   -- region 5 acl.go:103
        refine TrC.take rfl (step_assignN (sz := 5) rfl rfl) ?_   -- 0
        refine TrC.take rfl (step_assign rfl rfl rfl) ?_   -- 1
        refine TrC.done ?_
        refine AT.ret ?_
        exact Ret.many (.cons (.tmp rfl (conv_eq (by first | (rw [hs]; done) | (rw [hs]; rfl)))) (.cons (.tmp rfl (conv_i (by rw [hs]))) .nil)) rfl
      · -- false
        have hok : putOk l e = true := not_f h26
        refine AT.skip ?_
        refine AT.seq ?_
        refine AT.wk (sl := [(0, .t (.slice 5 (l.map encA))), (3, .t (.ptr [.i e.who, .b e.al, .i e.rt, .i e.rc, .b e.gv]))]) (ml := []) [] (.cons (.t (.refl _)) (.cons (.fp (n := 5) rfl rfl rfl rfl) (.nil))) (.nil) rfl rfl ?_
        refine AT.region ?_   -- region 6 acl.go:105
        refine TrC.take rfl (step_makeFunc rfl rfl rfl) ?_   -- 0
        refine TrC.take rfl (step_assign rfl rfl rfl) ?_   -- 1
        refine TrC.done ?_
        refine AT.seq ?_
        refine AT.region ?_   -- region 7 acl.go:106
        refine TrC.take rfl (step_move rfl rfl rfl) ?_   -- 0
        refine TrC.take rfl (step_move rfl rfl rfl) ?_   -- 1
        refine TrC.take rfl (step_call0 rfl rfl (C42 (l.map encA) 41 [(.ptr [.i e.who, .b e.al, .i e.rt, .i e.rc, .b e.gv])] (fun x => marked (decA x) e) (by simp; omega) (fun x hx => by obtain ⟨c, _, rfl⟩ := List.mem_map.1 hx; exact ⟨_, rfl, rfl⟩) (fun x hx => by obtain ⟨c, _, rfl⟩ := List.mem_map.1 hx; exact C41 c e)) rfl) ?_   -- 2
        refine TrC.take rfl (step_assign rfl rfl rfl) ?_   -- 3
        refine TrC.done ?_
        refine AT.spell 8 rfl (iv (b := ixA (l.findIdx? (fun a => marked a e))) (by rw [← find_dec]; rfl)) ?_
        refine AT.seq ?_
        refine AT.block ?_   -- block 0
        refine AT.seq ?_
        refine AT.region ?_   -- region 8 acl.go:108
        refine TrC.take rfl (step_fieldAddrT rfl rfl fd31_2 rfl rfl rfl) ?_   -- 0
        refine TrC.take rfl (step_loadT1 rfl rfl ty3 rfl rfl) ?_   -- 1
        refine TrC.take rfl (step_bin rfl rfl rfl rfl rfl) ?_   -- 2
        refine TrC.take rfl (step_assign rfl rfl rfl) ?_   -- 3
        refine TrC.done ?_
        refine AT.cond rfl (fun h31 => ?_) (fun h31 => ?_)   -- t31
        · -- true
          have hs := put_c0 hok (by simpa using h31)
          refine AT.seq ?_
          refine AT.region ?_   -- region 9 acl.go:109
          refine TrC.take rfl (step_move rfl rfl rfl) ?_   -- 0
          refine TrC.take rfl (step_move rfl rfl rfl) ?_   -- 1
          refine TrC.take rfl (step_call0 rfl rfl (HasOwn.has (C39 l 41 [(.ptr [.i e.who, .b e.al, .i e.rt, .i e.rc, .b e.gv])] (fun a => marked a e) hl (fun a => C41 a e))) rfl) ?_   -- 2
          refine TrC.take rfl (step_assign rfl rfl rfl) ?_   -- 3
          refine TrC.take rfl (step_assign rfl rfl rfl) ?_   -- 4
          refine TrC.done ?_
          refine AT.ret ?_
          exact Ret.many (.cons (.tmp rfl (conv_eq (by first | (rw [hs]; done) | (rw [hs]; rfl)))) (.cons (.tmp rfl (conv_i (by rw [hs]))) .nil)) rfl
        · -- false
          have hz : e.rt ≠ 0 := by simpa using h31
          refine AT.seq ?_
          refine AT.region ?_   -- region 10 acl.go:110
          refine TrC.take rfl (step_move rfl rfl rfl) ?_   -- 0
          refine TrC.take rfl (step_bin rfl rfl rfl rfl rfl) ?_   -- 1
          refine TrC.take rfl (step_assign rfl rfl rfl) ?_   -- 2
          refine TrC.done ?_
          refine AT.cond rfl (fun h38 => ?_) (fun h38 => ?_)   -- t38
          · -- true
            refine Exists.elim (ixA_pos (by simpa using h38)) (fun i hfi => ?_)
            have hi : i < l.length := (List.findIdx?_eq_some_iff_getElem.1 hfi).1
            have hmi : marked l[i] e = true := (List.findIdx?_eq_some_iff_getElem.1 hfi).2.1
            have hs := put_c1 hok hz hi hmi
            refine Exists.elim (show ∃ a, a = l[i] from ⟨_, rfl⟩) (fun a ha => ?_)
            have hgi : (l.map encA)[i]? = some (encA a) := by rw [List.getElem?_map, List.getElem?_eq_getElem hi, ha]; rfl
            refine AT.spell 8 rfl (iv (b := (i : Int)) (by rw [hfi]; rfl)) ?_
            refine AT.seq ?_
            refine AT.region ?_   -- region 11 acl.go:111
            refine TrC.take rfl (step_move rfl rfl rfl) ?_   -- 0
            refine TrC.take rfl (step_callH0 rfl rfl rfl (C43 (l.map encA) (by simp; omega)) rfl rfl) ?_   -- 1
            refine TrC.take rfl (step_assign rfl rfl rfl) ?_   -- 2
            refine TrC.done ?_
            refine AT.seq ?_
            refine AT.region ?_   -- region 12 acl.go:112
            refine TrC.take rfl (step_move rfl rfl rfl) ?_   -- 0
            refine TrC.take rfl (step_move rfl rfl rfl) ?_   -- 1
            refine TrC.take rfl (step_loadTN rfl rfl ty31 rfl rfl) ?_   -- 2
            refine TrC.take rfl (step_indexAddrH rfl rfl rfl rfl sl22 (by omega) (by simp; omega) rfl) ?_   -- 3
            refine TrC.take rfl (step_storeR (k := i) (j := 0) rfl rfl rfl (by omega) hgi rfl rfl rfl ty31 rfl rfl) ?_   -- 4
            refine TrC.done ?_
            refine AT.seq ?_
            refine AT.region ?_   -- region 13 acl.go:113
            refine TrC.take rfl (step_move rfl rfl rfl) ?_   -- 0
            refine TrC.take rfl (step_assign rfl rfl rfl) ?_   -- 1
            refine TrC.take rfl (step_assign rfl rfl rfl) ?_   -- 2
            refine TrC.done ?_
            refine AT.ret ?_
            exact Ret.many (.cons (.row rfl (by rw [hs, List.map_set]; rfl)) (.cons (.tmp rfl (conv_i (by rw [hs]))) .nil)) rfl
          · -- false
            have hno : hasM l e = false := hasM_none (ixA_neg (by simpa using h38))
            refine AT.seq ?_
            refine AT.region ?_   -- region 14 acl.go:114
            refine TrC.take rfl (step_move rfl rfl rfl) ?_   -- 0
            refine TrC.take rfl (step_lenT (rt := 0) rfl rfl sl22 rfl) ?_   -- 1
            refine TrC.take rfl (step_bin rfl rfl rfl rfl rfl) ?_   -- 2
            refine TrC.take rfl (step_assign rfl rfl rfl) ?_   -- 3
            refine TrC.done ?_
            refine AT.cond rfl (fun h48 => ?_) (fun h48 => ?_)   -- t48
            · -- true
              have hs := put_c2 hok hz hno (by have h := h48; simp at h; omega)
              refine AT.seq ?_
              refine AT.region ?_   -- region 15 acl.go:115
              refine TrC.take rfl (step_assignN (sz := 5) rfl rfl) ?_   -- 0
              refine TrC.take rfl (step_assign rfl rfl rfl) ?_   -- 1
              refine TrC.done ?_
              refine AT.ret ?_
              exact Ret.many (.cons (.tmp rfl (conv_eq (by first | (rw [hs]; done) | (rw [hs]; rfl)))) (.cons (.tmp rfl (conv_i (by rw [hs]))) .nil)) rfl
            · -- false
              have hs := put_c3 hok hz hno (by have h := h48; simp at h; omega)
              refine AT.skip ?_
              refine AT.seq ?_
              refine AT.regionD mixed rfl ?_   -- region 16 acl.go:117
              refine TrC.take rfl (step_move rfl rfl rfl) ?_   -- 0
              refine TrC.take rfl (step_callH0 rfl rfl rfl (C43 (l.map encA) (by simp; omega)) rfl rfl) ?_   -- 1
              refine TrC.take rfl (step_move rfl rfl rfl) ?_   -- 2
              refine TrC.take rfl (step_call rfl rfl (HasOwn.has (C39 l 40 [] (fun a => a.gv) hl (fun a => C40 a))) (.cons (.refl _) (.cons (.fn _) .nil)) rfl) ?_   -- 3
              refine TrC.take rfl (step_lenT (rt := 0) rfl rfl sl22 rfl) ?_   -- 4
              refine TrC.spell 56 rfl (iv (b := ((own l false).length : Int)) (by rw [own_eq]; simp)) ?_
              refine TrC.take rfl (step_loadTN rfl rfl ty31 rfl rfl) ?_   -- 5
              refine TrC.take rfl (step_buildSliceH rfl rfl sl22 ze31 rfl rfl rfl rfl rfl rfl rfl rfl rfl rfl rfl rfl rfl) ?_   -- 6
              refine TrC.take rfl (step_callG (ml := [(53, _), (58, _)]) rfl (PassL.refl _) ⟨rfl, rfl, trivial⟩ ((C44 (l.map encA) (own l false).length (encA e) (by simpa using hol) (by simp; omega)).toT.pre [(100, 53), (102, 58)] rfl (.cons (.h rfl) (.cons (.t (.refl _)) (.cons (.h rfl) .nil))) (.cons rfl (.row rfl) (.cons rfl (.row rfl) .nil)) rfl) rfl rfl rfl rfl rfl) ?_   -- 7
              refine TrC.take rfl (step_assign rfl rfl rfl) ?_   -- 8
              refine TrC.take rfl (step_assign rfl rfl rfl) ?_   -- 9
              refine TrC.doneD rfl ?_
              refine AT.ret ?_
              exact Ret.many (.cons (.tmp rfl (conv_eq (by rw [hs]; simp [List.map_take, List.map_drop]))) (.cons (.tmp rfl (conv_i (by rw [hs]))) .nil)) rfl

end Go.Proofs.Ytgblfhobiibeaaa.Acl

/- Contracts of functions of this translation. Printed by wip/tools/gen.py out of wip/acl/ann.py. No condition. -/
set_option linter.unusedVariables false
set_option linter.unusedSimpArgs false
namespace Go.Proofs.Ytgblfhobiibeaaa.Acl
open Go.Proofs.Ytgblfhobiibeaaa.Abs
set_option maxRecDepth 100000
set_option maxHeartbeats 4000000
theorem C54 (n : Nat) (hn : n ≤ 1000000) : HasOwn Try.prog 54 [.v (.slice none 0 0), .i n] 31 5 [] := by   -- slices.Grow[[]burgage/api.Ace,burgage/api.Ace]
  refine HasOwn.intro 27 Try.func54 (by kernel_rfl) rfl rfl fun w ok => ?_
  refine AT.seq ?_
  refine AT.region ?_   -- region 0 slices.go:422
  refine TrC.take rfl (step_assignN (sz := 5) rfl rfl) ?_   -- 0
  refine TrC.done ?_
  refine AT.seq ?_
  refine AT.seq ?_
  refine AT.region ?_   -- region 1 slices.go:423
  refine TrC.take rfl (step_move rfl rfl rfl) ?_   -- 0
  refine TrC.take rfl (step_bin rfl rfl rfl rfl rfl) ?_   -- 1
  refine TrC.spell 6 rfl (bv (b := false) (by simp; try omega)) ?_
  refine TrC.done ?_
  refine AT.condF rfl ?_   -- t6
  refine AT.skip ?_
  refine AT.seq ?_
  refine AT.seq ?_
  refine AT.region ?_   -- region 3 slices.go:426
  refine TrC.take rfl (step_move rfl rfl rfl) ?_   -- 0
  refine TrC.take rfl (step_move rfl rfl rfl) ?_   -- 1
  refine TrC.take rfl (step_capN (rt := 0) rfl rfl sl22 rfl) ?_   -- 2
  refine TrC.take rfl (step_move rfl rfl rfl) ?_   -- 3
  refine TrC.take rfl (step_lenN (rt := 0) rfl rfl sl22 rfl) ?_   -- 4
  refine TrC.take rfl (step_subI rfl rfl rfl (by first | omega | (simp; done) | (simp; omega)) (by first | omega | (simp; done) | (simp; omega)) rfl) ?_   -- 5
  refine TrC.take rfl (step_subI rfl rfl rfl (by first | omega | (simp; done) | (simp; omega)) (by first | omega | (simp; done) | (simp; omega)) rfl) ?_   -- 6
  refine TrC.take rfl (step_assign rfl rfl rfl) ?_   -- 7
  refine TrC.done ?_
  refine AT.seq ?_
  refine AT.region ?_   -- region 4 slices.go:426
  refine TrC.take rfl (step_move rfl rfl rfl) ?_   -- 0
  refine TrC.take rfl (step_bin rfl rfl rfl rfl rfl) ?_   -- 1
  refine TrC.done ?_
  refine AT.cond rfl (fun h16 => ?_) (fun h16 => ?_)   -- t16
  · -- true
    have hpos : 0 < n := by have h := h16; simp at h; omega
    refine AT.region ?_   -- region 5 slices.go:428
    refine TrC.take rfl (step_move rfl rfl rfl) ?_   -- 0
    refine TrC.take rfl (step_move rfl rfl rfl) ?_   -- 1
    refine TrC.take rfl (step_capN (rt := 0) rfl rfl sl22 rfl) ?_   -- 2
    refine TrC.take rfl (step_sliceN rfl rfl rfl sl22 rfl) ?_   -- 3
    refine TrC.take rfl (step_move rfl rfl rfl) ?_   -- 4
    refine TrC.take rfl (step_appendZN (cnt := n) (.agg [.i 0, .b false, .i 0, .i 0, .b false]) rfl rfl rfl rfl (by omega) (by omega) sl22 in3 ze31 rfl rfl rfl rfl rfl (by omega) rfl rfl) ?_   -- 5
    refine TrC.take rfl (step_move rfl rfl rfl) ?_   -- 6
    refine TrC.take rfl (step_lenN (rt := 0) rfl rfl sl22 rfl) ?_   -- 7
    refine TrC.take rfl (step_sliceTake (b := 0) rfl rfl rfl rfl rfl (by simp) (by simp) sl22 rfl rfl) ?_   -- 8
    refine TrC.take rfl (step_assign rfl rfl rfl) ?_   -- 9
    refine TrC.done ?_
    refine AT.seq ?_
    refine AT.region ?_   -- region 6 slices.go:430
    refine TrC.take rfl (step_move rfl rfl rfl) ?_   -- 0
    refine TrC.take rfl (step_assign rfl rfl rfl) ?_   -- 1
    refine TrC.done ?_
    refine AT.ret ?_
    exact ⟨_, _, rfl, rfl, rfl⟩
  · -- false
    refine AT.nilRow 0 200 31 5 rfl rfl ?_
    refine AT.skip ?_
    refine AT.seq ?_
    refine AT.region ?_   -- region 6 slices.go:430
    refine TrC.take rfl (step_move rfl rfl rfl) ?_   -- 0
    refine TrC.take rfl (step_assign rfl rfl rfl) ?_   -- 1
    refine TrC.done ?_
    refine AT.ret ?_
    exact ⟨_, _, rfl, rfl, rfl⟩

end Go.Proofs.Ytgblfhobiibeaaa.Acl

/- Contracts of functions of this translation. Printed by wip/tools/gen.py out of wip/acl/ann.py. No condition. -/
set_option linter.unusedVariables false
set_option linter.unusedSimpArgs false
namespace Go.Proofs.Ytgblfhobiibeaaa.Acl
open Go.Proofs.Ytgblfhobiibeaaa.Abs
set_option maxRecDepth 100000
set_option maxHeartbeats 4000000
theorem C51 (L : List (List Ace)) (hL : L.length ≤ 1000) (hs : (L.map List.length).sum ≤ 1000000) : Has Try.prog 51 [.slice 1 (L.map fun l => T.slice 5 (l.map encA))] (.slice 5 (L.flatten.map encA)) := by   -- slices.Concat[[]burgage/api.Ace,burgage/api.Ace]
  refine Has.intro 36 Try.func51 (by kernel_rfl) rfl rfl fun w ok => ?_
  refine AT.seq ?_
  refine AT.region ?_   -- region 0 slices.go:491
  refine TrC.take rfl (step_assignN (sz := 5) rfl rfl) ?_   -- 0
  refine TrC.done ?_
  refine AT.seq ?_
  refine AT.region ?_   -- region 1 slices.go:492
  refine TrC.take rfl (step_assign rfl rfl rfl) ?_   -- 0
  refine TrC.done ?_
  refine AT.seq ?_
  refine AT.seq ?_
  refine AT.region ?_   -- region 2 slices.go:493
  refine TrC.take rfl (step_move rfl rfl rfl) ?_   -- 0
  refine TrC.take rfl (step_lenT (rt := 0) rfl rfl sl29 rfl) ?_   -- 1
  refine TrC.take rfl (step_move rfl rfl rfl) ?_   -- 2
  refine TrC.done ?_
  refine AT.block ?_   -- block 0
  refine AT.loopP (fun i : Nat => i ≤ L.length) (fun i => mkS [(0, .t (.slice 1 (L.map fun l => T.slice 5 (l.map encA)))), (3, .t (.i (sumT L i : Nat))), (9, .t (.slice 1 (L.map fun l => T.slice 5 (l.map encA)))), (10, .t (.i L.length)), (11, .t (.i i))] []) (fun i => L.length - i) (0) (Nat.zero_le _) (fun a w hs => Sat.wk [] (.cons (.t (.refl _)) (.cons (.t (conv_i (by simp [sumT_zero]))) (.cons (.t (.refl _)) (.cons (.t (conv_i (by simp))) (.cons (.t (.refl _)) (.nil)))))) (.nil) rfl rfl a w hs) (fun ix hix => ?_)
  have hsi := sum_take L ix
  refine AT.seq ?_
  refine AT.region ?_   -- region 3 slices.go:493
  refine TrC.take rfl (step_bin rfl rfl rfl rfl rfl) ?_   -- 0
  refine TrC.done ?_
  refine AT.seq ?_
  refine AT.cond rfl (fun h12 => ?_) (fun h12 => ?_)   -- t12
  · -- true
    have hlt : ix < L.length := by simpa using h12
    refine Exists.elim (show ∃ l, l = L[ix] from ⟨_, rfl⟩) (fun l hl => ?_)
    have hget : (L.map fun l => T.slice 5 (l.map encA))[ix]? = some (.slice 5 (l.map encA)) := by rw [List.getElem?_map, List.getElem?_eq_getElem hlt, hl]; rfl
    have hs2 := sum_snoc hlt
    have hs3 := sum_take L (ix + 1)
    rw [← hl] at hs2
    refine AT.skip ?_
    refine AT.seq ?_
    refine AT.block ?_   -- block 1
    refine AT.seq ?_
    refine AT.region ?_   -- region 4 slices.go:493
    refine TrC.take rfl (step_indexAddrT (v := .slice 5 (l.map encA)) rfl rfl rfl sl29 (by omega) (by first | exact hget | simpa using hget) rfl rfl) ?_   -- 0
    refine TrC.take rfl (step_loadT1 rfl rfl ty22 rfl rfl) ?_   -- 1
    refine TrC.take rfl (step_assign rfl rfl rfl) ?_   -- 2
    refine TrC.done ?_
    refine AT.seq ?_
    refine AT.region ?_   -- region 5 slices.go:494
    refine TrC.take rfl (step_move rfl rfl rfl) ?_   -- 0
    refine TrC.take rfl (step_move rfl rfl rfl) ?_   -- 1
    refine TrC.take rfl (step_lenT (rt := 0) rfl rfl sl22 rfl) ?_   -- 2
    refine TrC.take rfl (step_addI rfl rfl rfl (by first | omega | (simp; done) | (simp; omega)) (by first | omega | (simp; done) | (simp; omega)) rfl) ?_   -- 3
    refine TrC.take rfl (step_assign rfl rfl rfl) ?_   -- 4
    refine TrC.done ?_
    refine AT.seq ?_
    refine AT.region ?_   -- region 6 slices.go:495
    refine TrC.take rfl (step_move rfl rfl rfl) ?_   -- 0
    refine TrC.take rfl (step_bin rfl rfl rfl rfl rfl) ?_   -- 1
    refine TrC.spell 20 rfl (bv (b := false) (by simp; try omega)) ?_
    refine TrC.done ?_
    refine AT.condF rfl ?_   -- t20
    refine AT.skip ?_
    refine AT.region ?_   -- region 8 slices.go:493
    refine TrC.take rfl (step_addI rfl rfl rfl (by first | omega | (simp; done) | (simp; omega)) (by first | omega | (simp; done) | (simp; omega)) rfl) ?_   -- 0
    refine TrC.take rfl (step_move rfl rfl rfl) ?_   -- 1
    refine TrC.done ?_
    exact ⟨ix + 1, hlt, by show L.length - (ix + 1) < L.length - ix; omega, Sat.wk [] (.cons (.t (.refl _)) (.cons (.t (conv_i (by rw [sum_snoc hlt, ← hl]; simp))) (.cons (.t (.refl _)) (.cons (.t (.refl _)) (.cons (.t (conv_i (by simp))) (.nil)))))) .nil rfl rfl⟩
  · -- false
    have hge : ¬ ix < L.length := by simpa using h12
    refine AT.exit (Or.inl ⟨rfl, ?_⟩)   -- exit 0
    refine AT.seq ?_
    refine AT.region ?_   -- region 9 slices.go:502
    refine TrC.take rfl (step_move rfl rfl rfl) ?_   -- 0
    refine TrC.take rfl (step_callH0 rfl rfl rfl (C54 (sumT L ix : Nat) (by omega)) rfl rfl) ?_   -- 1
    refine TrC.take rfl (step_assign rfl rfl rfl) ?_   -- 2
    refine TrC.done ?_
    refine AT.seq ?_
    refine AT.seq ?_
    refine AT.region ?_   -- region 10 slices.go:503
    refine TrC.take rfl (step_move rfl rfl rfl) ?_   -- 0
    refine TrC.take rfl (step_lenT (rt := 0) rfl rfl sl29 rfl) ?_   -- 1
    refine TrC.take rfl (step_move rfl rfl rfl) ?_   -- 2
    refine TrC.done ?_
    refine AT.block ?_   -- block 2
    refine AT.loopP (fun k : Nat => k ≤ L.length) (fun k => mkS [(6, .h 50), (25, .t (.slice 1 (L.map fun l => T.slice 5 (l.map encA)))), (26, .t (.i L.length)), (27, .t (.i k))] [(50, .row 31 5 ((L.take k).flatten.map encA))]) (fun k => L.length - k) (0) (Nat.zero_le _) (fun a w hs => Sat.wk [(50, 24)] (.cons (.h (j := 50) rfl) (.cons (.t (.refl _)) (.cons (.t (conv_i (by simp))) (.cons (.t (.refl _)) (.nil))))) (.cons rfl (.row rfl) (.nil)) rfl rfl a w hs) (fun k hk => ?_)
    have hsi := sum_take L k
    have hfl := sum_flat L k
    refine AT.seq ?_
    refine AT.region ?_   -- region 11 slices.go:503
    refine TrC.take rfl (step_bin rfl rfl rfl rfl rfl) ?_   -- 0
    refine TrC.done ?_
    refine AT.seq ?_
    refine AT.cond rfl (fun h28 => ?_) (fun h28 => ?_)   -- t28
    · -- true
      have hlt : k < L.length := by simpa using h28
      refine Exists.elim (show ∃ l, l = L[k] from ⟨_, rfl⟩) (fun l hl => ?_)
      have hget : (L.map fun l => T.slice 5 (l.map encA))[k]? = some (.slice 5 (l.map encA)) := by rw [List.getElem?_map, List.getElem?_eq_getElem hlt, hl]; rfl
      have hs2 := sum_snoc hlt
      have hs3 := sum_take L (k + 1)
      rw [← hl] at hs2
      refine AT.skip ?_
      refine AT.seq ?_
      refine AT.block ?_   -- block 3
      refine AT.seq ?_
      refine AT.region ?_   -- region 12 slices.go:503
      refine TrC.take rfl (step_indexAddrT (v := .slice 5 (l.map encA)) rfl rfl rfl sl29 (by omega) (by first | exact hget | simpa using hget) rfl rfl) ?_   -- 0
      refine TrC.take rfl (step_loadT1 rfl rfl ty22 rfl rfl) ?_   -- 1
      refine TrC.take rfl (step_assign rfl rfl rfl) ?_   -- 2
      refine TrC.done ?_
      refine AT.region ?_   -- region 13 slices.go:504
      refine TrC.take rfl (step_move rfl rfl rfl) ?_   -- 0
      refine TrC.take rfl (step_move rfl rfl rfl) ?_   -- 1
      refine TrC.take rfl (step_append rfl rfl rfl rfl rfl (.refl _) sl22 ze31 rfl rfl rfl (by rw [hfl]; simp; omega) rfl rfl) ?_   -- 2
      refine TrC.take rfl (step_assign rfl rfl rfl) ?_   -- 3
      refine TrC.done ?_
      refine AT.region ?_   -- region 14 slices.go:503
      refine TrC.take rfl (step_addI rfl rfl rfl (by first | omega | (simp; done) | (simp; omega)) (by first | omega | (simp; done) | (simp; omega)) rfl) ?_   -- 0
      refine TrC.take rfl (step_move rfl rfl rfl) ?_   -- 1
      refine TrC.done ?_
      exact ⟨k + 1, hlt, by show L.length - (k + 1) < L.length - k; omega, Sat.wk [(50, 33)] (.cons (.h (j := 50) rfl) (.cons (.t (.refl _)) (.cons (.t (.refl _)) (.cons (.t (conv_i (by simp))) (.nil))))) (.cons rfl (.row (by rw [take_snoc hlt, ← hl]; simp)) (.nil)) rfl rfl⟩
    · -- false
      have hge : ¬ k < L.length := by simpa using h28
      have hr : (L.take k).flatten = L.flatten := by rw [List.take_of_length_le (by omega)]
      refine AT.exit (Or.inl ⟨rfl, ?_⟩)   -- exit 2
      refine AT.seq ?_
      refine AT.region ?_   -- region 15 slices.go:506
      refine TrC.take rfl (step_move rfl rfl rfl) ?_   -- 0
      refine TrC.take rfl (step_assign rfl rfl rfl) ?_   -- 1
      refine TrC.done ?_
      refine AT.ret ?_
      exact Ret.one rfl (ResR.row rfl (by rw [← hr]; rfl))

end Go.Proofs.Ytgblfhobiibeaaa.Acl

/- Contracts of functions of this translation. Printed by wip/tools/gen.py out of wip/acl/ann.py. No condition. -/
set_option linter.unusedVariables false
set_option linter.unusedSimpArgs false
namespace Go.Proofs.Ytgblfhobiibeaaa.Acl
open Go.Proofs.Ytgblfhobiibeaaa.Abs
set_option maxRecDepth 100000
set_option maxHeartbeats 4000000
theorem C50 (R : Nat) (l : List Ace) (hl : l.length ≤ 1000000) : HasG Try.prog 50 [] [.t (.slice 5 (l.map encA))] [] (.h R) [(R, .mp (ents (gm (tbl l))) (gm (tbl l)).length)] := by   -- burgage/acl.table
  refine HasG.intro 20 Try.func50 (by kernel_rfl) rfl rfl rfl fun w0 ok0 keep av => ?_
  refine AT.seq ?_
  refine AT.region ?_   -- region 0 acl.go:121
  refine TrC.take rfl (step_assign rfl rfl rfl) ?_   -- 0
  refine TrC.done ?_
  refine AT.seq ?_
  refine AT.region ?_   -- region 1 acl.go:122
  refine TrC.take rfl (step_makeMap rfl rfl rfl rfl) ?_   -- 0
  refine TrC.take rfl (step_assign rfl rfl rfl) ?_   -- 1
  refine TrC.done ?_
  refine AT.seq ?_
  refine AT.seq ?_
  refine AT.region ?_   -- region 2 acl.go:123
  refine TrC.take rfl (step_move rfl rfl rfl) ?_   -- 0
  refine TrC.take rfl (step_lenT (rt := 0) rfl rfl sl22 rfl) ?_   -- 1
  refine TrC.take rfl (step_move rfl rfl rfl) ?_   -- 2
  refine TrC.done ?_
  refine AT.block ?_   -- block 0
  refine AT.loopP (fun i : Nat => i ≤ l.length) (fun i => mkS [(3, .h 60), (7, .t (.slice 5 (l.map encA))), (8, .t (.i l.length)), (9, .t (.i i))] [(60, .mp (ents (gm (tbl (l.take i)))) (gm (tbl (l.take i))).length)]) (fun i => l.length - i) (0) (Nat.zero_le _) (fun a w hs => Sat.wk [(60, 6)] (.cons (.h (j := 60) rfl) (.cons (.t (.refl _)) (.cons (.t (conv_i (by simp))) (.cons (.t (.refl _)) (.nil))))) (.cons rfl (.mp rfl rfl) (.nil)) rfl rfl a w hs) (fun ix hix => ?_)
  refine AT.seq ?_
  refine AT.region ?_   -- region 3 acl.go:123
  refine TrC.take rfl (step_bin rfl rfl rfl rfl rfl) ?_   -- 0
  refine TrC.done ?_
  refine AT.seq ?_
  refine AT.cond rfl (fun h10 => ?_) (fun h10 => ?_)   -- t10
  · -- true
    have hlt : ix < l.length := by simpa using h10
    refine Exists.elim (show ∃ e, e = l[ix] from ⟨_, rfl⟩) (fun e he => ?_)
    have hget : (l.map encA)[ix]? = some (.agg [.i e.who, .b e.al, .i e.rt, .i e.rc, .b e.gv]) := by rw [List.getElem?_map, List.getElem?_eq_getElem hlt, he]; rfl
    refine AT.skip ?_
    refine AT.seq ?_
    refine AT.block ?_   -- block 1
    refine AT.seq ?_
    refine AT.region ?_   -- region 4 acl.go:123
    refine TrC.take rfl (step_indexAddrT (v := .agg [.i e.who, .b e.al, .i e.rt, .i e.rc, .b e.gv]) rfl rfl rfl sl22 (by omega) (by first | exact hget | simpa using hget) rfl rfl) ?_   -- 0
    refine TrC.take rfl (step_loadTN rfl rfl ty31 rfl rfl) ?_   -- 1
    refine TrC.take rfl (step_alloc rfl rfl ze31 rfl rfl rfl) ?_   -- 2
    refine TrC.take rfl (step_storeP rfl rfl rfl rfl rfl (.inl rfl) ty31 rfl rfl rfl) ?_   -- 3
    refine TrC.done ?_
    refine AT.regionD mixed rfl ?_   -- region 5 acl.go:124
    refine TrC.take rfl (step_move rfl rfl rfl) ?_   -- 0
    refine TrC.take rfl (step_loadPN rfl rfl rfl ty31 rfl rfl rfl) ?_   -- 1
    refine TrC.take rfl (step_call0 rfl rfl (C34 e) rfl) ?_   -- 2
    refine TrC.take rfl (step_fieldAddrP rfl rfl fd31_2 rfl rfl) ?_   -- 3
    refine TrC.take rfl (step_loadP1 rfl rfl rfl ty3 rfl rfl) ?_   -- 4
    refine TrC.take rfl (step_mapUpdate (kv := vM (mk e)) rfl rfl rfl rfl rfl rfl rfl mp63 (keyAt (tbl (l.take ix)) (mk e)) rfl) ?_   -- 5
    refine TrC.doneD rfl ?_
    refine AT.region ?_   -- region 6 acl.go:123
    refine TrC.take rfl (step_addI rfl rfl rfl (by first | omega | (simp; done) | (simp; omega)) (by first | omega | (simp; done) | (simp; omega)) rfl) ?_   -- 0
    refine TrC.take rfl (step_move rfl rfl rfl) ?_   -- 1
    refine TrC.done ?_
    exact ⟨ix + 1, hlt, by show l.length - (ix + 1) < l.length - ix; omega, Sat.wk [] (.cons (.h rfl) (.cons (.t (.refl _)) (.cons (.t (.refl _)) (.cons (.t (conv_i (by simp))) (.nil))))) (.cons rfl (.mp (congrArg ents (by rw [put_gm, tbl_snoc hlt, ← he])) (congrArg List.length (by rw [put_gm, tbl_snoc hlt, ← he]))) (.nil)) rfl rfl⟩
  · -- false
    have hge : ¬ ix < l.length := by simpa using h10
    have hr : l.take ix = l := List.take_of_length_le (by omega)
    refine AT.exit (Or.inl ⟨rfl, ?_⟩)   -- exit 0
    refine AT.seq ?_
    refine AT.region ?_   -- region 7 acl.go:126
    refine TrC.take rfl (step_move rfl rfl rfl) ?_   -- 0
    refine TrC.take rfl (step_assign rfl rfl rfl) ?_   -- 1
    refine TrC.done ?_
    refine AT.ret ?_
    exact RetG.one [(R, 60)] rfl (.tmp rfl) (.h (j := R) (by simp [ren])) (.cons (by simp [ren]; rfl) (.mp (by rw [hr]) (by rw [hr])) .nil) (by simp [nodupB]) rfl

end Go.Proofs.Ytgblfhobiibeaaa.Acl

/- Contracts of functions of this translation. Printed by wip/tools/gen.py out of wip/acl/ann.py. No condition. -/
set_option linter.unusedVariables false
set_option linter.unusedSimpArgs false
namespace Go.Proofs.Ytgblfhobiibeaaa.Acl
open Go.Proofs.Ytgblfhobiibeaaa.Abs
set_option maxRecDepth 100000
set_option maxHeartbeats 4000000
theorem C28 (x : Tri) (hvb : VL x.base) (hvm : VL x.mine) (hvt : VL x.theirs) : Has Try.prog 28 [.slice 5 (x.base.map encA), .slice 5 (x.mine.map encA), .slice 5 (x.theirs.map encA)] (encMg (merge x)) := by   -- burgage/burgageref02.MergeIn
  have hbl := hvb.ln
  have hml := hvm.ln
  have htl := hvt.ln
  refine Has.intro 133 Try.func28 (by kernel_rfl) rfl rfl fun w ok => ?_
  refine AT.seq ?_
  refine AT.region ?_   -- region 0 ref.go:153
  refine TrC.take rfl (step_allocC rfl rfl ze42 zc42 rfl rfl rfl) ?_   -- 0
  refine TrC.done ?_
  refine AT.seq ?_
  refine AT.seq ?_
  refine AT.region ?_   -- region 1 ref.go:154
  refine TrC.take rfl (step_move rfl rfl rfl) ?_   -- 0
  refine TrC.take rfl (step_move rfl rfl rfl) ?_   -- 1
  refine TrC.take rfl (step_call0 rfl rfl (C20 x.mine x.base (by omega)) rfl) ?_   -- 2
  refine TrC.done ?_
  refine AT.cond rfl (fun h18 => ?_) (fun h18 => ?_)   -- t18
  · -- true
    have hs : merge x = (x.theirs, true) := m_one (by simpa using h18)
    refine AT.seq ?_
    refine AT.region ?_   -- region 2 ref.go:155
    refine TrC.take rfl (step_move rfl rfl rfl) ?_   -- 0
    refine TrC.take rfl (step_buildC rfl ze42 zc42 rfl pl42 rfl rfl rfl rfl) ?_   -- 1
    refine TrC.take rfl (step_storeP rfl rfl rfl rfl rfl (.inl rfl) ty42 rfl rfl rfl) ?_   -- 2
    refine TrC.done ?_
    refine AT.ret ?_
    exact Ret.one rfl (ResR.cellN rfl rfl ty42 rfl rfl (conv_eq (by first | (rw [hs]; done) | (rw [hs]; rfl) | (rw [hs, hs2]; done) | (rw [hs, hs2]; rfl) | (rw [hs, hs2]; simp [encMg, parted]))))
  · -- false
    have h1 : ¬ x.mine = x.base := by simpa using h18
    refine AT.skip ?_
    refine AT.seq ?_
    refine AT.seqJ (mkS [(0, .t (.slice 5 (x.base.map encA))), (1, .t (.slice 5 (x.mine.map encA))), (2, .t (.slice 5 (x.theirs.map encA))), (6, .p 6 0), (28, .t (.b (decide (x.theirs = x.base) || decide (x.mine = x.theirs))))] [(6, .box 42 [.t (.slice 5 []), .t (.b false)])]) ?_ ?_
    ·
      refine AT.region ?_   -- region 3 ref.go:157
      refine TrC.take rfl (step_move rfl rfl rfl) ?_   -- 0
      refine TrC.take rfl (step_move rfl rfl rfl) ?_   -- 1
      refine TrC.take rfl (step_call0 rfl rfl (C20 x.theirs x.base (by omega)) rfl) ?_   -- 2
      refine TrC.take rfl (step_move rfl rfl rfl) ?_   -- 3
      refine TrC.cases (d := 24) rfl (fun h24 => ?_) (fun h24 => ?_)
      · -- t24 = true
        refine TrC.skip ⟨_, _, rfl, rfl, rfl⟩ ?_   -- 4
        refine TrC.skip ⟨_, _, rfl, rfl, rfl⟩ ?_   -- 5
        refine TrC.skip ⟨_, _, rfl, rfl, rfl⟩ ?_   -- 6
        refine TrC.take rfl (step_pick rfl rfl rfl rfl) ?_   -- 7
        refine TrC.done ?_
        exact Sat.wk [] (.cons (.t (.refl _)) (.cons (.t (.refl _)) (.cons (.t (.refl _)) (.cons (.p rfl) (.cons (.t (conv_b (by first | (simp_all; done) | (rw [Bool.eq_iff_iff]; simp_all; done)))) (.nil)))))) (.cons rfl (.box (.cons (.t (.refl _)) (.cons (.t (.refl _)) (.nil)))) (.nil)) rfl rfl
      · -- t24 = false
        refine TrC.take ⟨_, _, rfl, rfl, rfl⟩ (step_move rfl rfl rfl) ?_   -- 4
        refine TrC.take ⟨_, _, rfl, rfl, rfl⟩ (step_move rfl rfl rfl) ?_   -- 5
        refine TrC.take ⟨_, _, rfl, rfl, rfl⟩ (step_call0 rfl rfl (C20 x.mine x.theirs (by omega)) rfl) ?_   -- 6
        refine TrC.take rfl (step_pick rfl rfl rfl rfl) ?_   -- 7
        refine TrC.done ?_
        exact Sat.wk [] (.cons (.t (.refl _)) (.cons (.t (.refl _)) (.cons (.t (.refl _)) (.cons (.p rfl) (.cons (.t (conv_b (by first | (simp_all; done) | (rw [Bool.eq_iff_iff]; simp_all; done)))) (.nil)))))) (.cons rfl (.box (.cons (.t (.refl _)) (.cons (.t (.refl _)) (.nil)))) (.nil)) rfl rfl
    ·
      refine AT.cond rfl (fun h28 => ?_) (fun h28 => ?_)   -- t28
      · -- true
        have hs : merge x = (x.mine, true) := m_two h1 (by simpa using h28)
        refine AT.seq ?_
        refine AT.region ?_   -- region 4 ref.go:158
        refine TrC.take rfl (step_move rfl rfl rfl) ?_   -- 0
        refine TrC.take rfl (step_buildC rfl ze42 zc42 rfl pl42 rfl rfl rfl rfl) ?_   -- 1
        refine TrC.take rfl (step_storeP rfl rfl rfl rfl rfl (.inl rfl) ty42 rfl rfl rfl) ?_   -- 2
        refine TrC.done ?_
        refine AT.ret ?_
        exact Ret.one rfl (ResR.cellN rfl rfl ty42 rfl rfl (conv_eq (by first | (rw [hs]; done) | (rw [hs]; rfl) | (rw [hs, hs2]; done) | (rw [hs, hs2]; rfl) | (rw [hs, hs2]; simp [encMg, parted]))))
      · -- false
        have hs : merge x = mergeG x := m_three h1 (fun h => by simp [h] at h28) (fun h => by simp [h] at h28)
        refine AT.skip ?_
        refine AT.seq ?_
        refine AT.region ?_   -- region 5 ref.go:160
        refine TrC.take rfl (step_buildSliceH rfl rfl sl22 ze31 rfl rfl rfl rfl rfl rfl rfl rfl rfl rfl rfl rfl rfl) ?_   -- 0
        refine TrC.take rfl (step_move rfl rfl rfl) ?_   -- 1
        refine TrC.take rfl (step_append rfl rfl rfl rfl rfl (.refl _) sl22 ze31 rfl rfl rfl (by first | (simp; done) | (simp; omega) | omega) rfl rfl) ?_   -- 2
        refine TrC.take rfl (step_assign rfl rfl rfl) ?_   -- 3
        refine TrC.done ?_
        refine AT.seq ?_
        refine AT.seq ?_
        refine AT.region ?_   -- region 6 ref.go:161
        refine TrC.take rfl (step_assign rfl rfl rfl) ?_   -- 0
        refine TrC.done ?_
        refine AT.block ?_   -- block 0
        refine AT.loopP (fun i : Nat => i ≤ x.theirs.length) (fun i => mkS [(0, .t (.slice 5 (x.base.map encA))), (1, .t (.slice 5 (x.mine.map encA))), (2, .t (.slice 5 (x.theirs.map encA))), (6, .p 6 0), (7, .h 50), (8, .t (.i i))] [(6, .box 42 [.t (.slice 5 []), .t (.b false)]), (50, .row 31 5 ((rA x i).map encA))]) (fun i => x.theirs.length - i) (0) (Nat.zero_le _) (fun a w hs => Sat.wk [(50, 33)] (.cons (.t (.refl _)) (.cons (.t (.refl _)) (.cons (.t (.refl _)) (.cons (.p (j := 6) rfl) (.cons (.h (j := 50) rfl) (.cons (.t (.refl _)) (.nil))))))) (.cons rfl (.box (.cons (.t (.refl _)) (.cons (.t (.refl _)) (.nil)))) (.cons rfl (.row (by rw [rA_zero hvm]; simp)) (.nil))) rfl rfl a w hs) (fun i hi => ?_)
        have hrl := r_len hvb hvm hvt i
        refine AT.seq ?_
        refine AT.seq ?_
        refine AT.region ?_   -- region 7 ref.go:161
        refine TrC.take rfl (step_move rfl rfl rfl) ?_   -- 0
        refine TrC.take rfl (step_move rfl rfl rfl) ?_   -- 1
        refine TrC.take rfl (step_lenT (rt := 0) rfl rfl sl22 rfl) ?_   -- 2
        refine TrC.take rfl (step_bin rfl rfl rfl rfl rfl) ?_   -- 3
        refine TrC.done ?_
        refine AT.cond rfl (fun h37 => ?_) (fun h37 => ?_)   -- t37
        · -- true
          have hlt : i < x.theirs.length := by simpa using h37
          refine Exists.elim (show ∃ e, e = x.theirs[i] from ⟨_, rfl⟩) (fun e he => ?_)
          have hget : (x.theirs.map encA)[i]? = some (.agg [.i e.who, .b e.al, .i e.rt, .i e.rc, .b e.gv]) := by rw [List.getElem?_map, List.getElem?_eq_getElem hlt, he]; rfl
          refine AT.skip ?_
          refine AT.seq ?_
          refine AT.block ?_   -- block 1
          refine AT.seq ?_
          refine AT.region ?_   -- region 9 ref.go:162
          refine TrC.take rfl (step_move rfl rfl rfl) ?_   -- 0
          refine TrC.take rfl (step_move rfl rfl rfl) ?_   -- 1
          refine TrC.take rfl (step_move rfl rfl rfl) ?_   -- 2
          refine TrC.take rfl (step_indexAddrT (v := .agg [.i e.who, .b e.al, .i e.rt, .i e.rc, .b e.gv]) rfl rfl rfl sl22 (by omega) (by first | exact hget | simpa using hget) rfl rfl) ?_   -- 3
          refine TrC.take rfl (step_loadTN rfl rfl ty31 rfl rfl) ?_   -- 4
          refine TrC.take rfl (step_call0 rfl rfl (C31 x.mine e (by omega)) rfl) ?_   -- 5
          refine TrC.take rfl (step_bin rfl rfl rfl rfl rfl) ?_   -- 6
          refine TrC.done ?_
          refine AT.cond rfl (fun h46 => ?_) (fun h46 => ?_)   -- t46
          · -- true
            have hgo := rA_yes hvm hvt hlt (by rw [← he]; simpa using h46)
            refine AT.region ?_   -- region 10 ref.go:163
            refine TrC.take rfl (step_move rfl rfl rfl) ?_   -- 0
            refine TrC.take rfl (step_move rfl rfl rfl) ?_   -- 1
            refine TrC.take rfl (step_move rfl rfl rfl) ?_   -- 2
            refine TrC.take rfl (step_indexAddrT (v := .agg [.i e.who, .b e.al, .i e.rt, .i e.rc, .b e.gv]) rfl rfl rfl sl22 (by omega) (by first | exact hget | simpa using hget) rfl rfl) ?_   -- 3
            refine TrC.take rfl (step_loadTN rfl rfl ty31 rfl rfl) ?_   -- 4
            refine TrC.take rfl (step_buildSliceT rfl sl22 ze31 rfl rfl rfl rfl rfl rfl rfl rfl rfl rfl rfl rfl) ?_   -- 5
            refine TrC.take rfl (step_append rfl rfl rfl rfl rfl (.refl _) sl22 ze31 rfl rfl rfl (by first | (simp; done) | (simp; omega) | omega) rfl rfl) ?_   -- 6
            refine TrC.take rfl (step_assign rfl rfl rfl) ?_   -- 7
            refine TrC.done ?_
            refine AT.region ?_   -- region 8 ref.go:161
            refine TrC.take rfl (step_move rfl rfl rfl) ?_   -- 0
            refine TrC.take rfl (step_addI rfl rfl rfl (by first | omega | (simp; done) | (simp; omega)) (by first | omega | (simp; done) | (simp; omega)) rfl) ?_   -- 1
            refine TrC.take rfl (step_assign rfl rfl rfl) ?_   -- 2
            refine TrC.done ?_
            exact ⟨i + 1, hlt, by show x.theirs.length - (i + 1) < x.theirs.length - i; omega, Sat.wk [(50, 53)] (.cons (.t (.refl _)) (.cons (.t (.refl _)) (.cons (.t (.refl _)) (.cons (.p (j := 6) rfl) (.cons (.h (j := 50) rfl) (.cons (.t (conv_i (by simp))) (.nil))))))) (.cons rfl (.box (.cons (.t (.refl _)) (.cons (.t (.refl _)) (.nil)))) (.cons rfl (.row (by rw [hgo, ← he]; simp [encA])) (.nil))) rfl rfl⟩
          · -- false
            have hgo := rA_no hvm hvt hlt (by rw [← he]; simpa using h46)
            refine AT.skip ?_
            refine AT.region ?_   -- region 8 ref.go:161
            refine TrC.take rfl (step_move rfl rfl rfl) ?_   -- 0
            refine TrC.take rfl (step_addI rfl rfl rfl (by first | omega | (simp; done) | (simp; omega)) (by first | omega | (simp; done) | (simp; omega)) rfl) ?_   -- 1
            refine TrC.take rfl (step_assign rfl rfl rfl) ?_   -- 2
            refine TrC.done ?_
            exact ⟨i + 1, hlt, by show x.theirs.length - (i + 1) < x.theirs.length - i; omega, Sat.wk [] (.cons (.t (.refl _)) (.cons (.t (.refl _)) (.cons (.t (.refl _)) (.cons (.p rfl) (.cons (.h rfl) (.cons (.t (conv_i (by simp))) (.nil))))))) (.cons rfl (.box (.cons (.t (.refl _)) (.cons (.t (.refl _)) (.nil)))) (.cons rfl (.row (by rw [hgo])) (.nil))) rfl rfl⟩
        · -- false
          have hie : i = x.theirs.length := by have h := h37; simp at h; omega
          refine AT.exit (Or.inl ⟨rfl, ?_⟩)   -- exit 0
          refine AT.seq ?_
          refine AT.seq ?_
          refine AT.region ?_   -- region 11 ref.go:166
          refine TrC.take rfl (step_assign rfl rfl rfl) ?_   -- 0
          refine TrC.done ?_
          refine AT.block ?_   -- block 2
          refine AT.loopP (fun i : Nat => i ≤ x.base.length) (fun i => mkS [(0, .t (.slice 5 (x.base.map encA))), (1, .t (.slice 5 (x.mine.map encA))), (2, .t (.slice 5 (x.theirs.map encA))), (6, .p 6 0), (7, .h 50), (9, .t (.i i))] [(6, .box 42 [.t (.slice 5 []), .t (.b false)]), (50, .row 31 5 ((rB x i).map encA))]) (fun i => x.base.length - i) (0) (Nat.zero_le _) (fun a w hs => Sat.wk [] (.cons (.t (.refl _)) (.cons (.t (.refl _)) (.cons (.t (.refl _)) (.cons (.p (j := 6) rfl) (.cons (.h (j := 50) rfl) (.cons (.t (.refl _)) (.nil))))))) (.cons rfl (.box (.cons (.t (.refl _)) (.cons (.t (.refl _)) (.nil)))) (.cons rfl (.row (by rw [← rA_end, ← hie])) (.nil))) rfl rfl a w hs) (fun k hk => ?_)
          have hrl := r_len hvb hvm hvt k
          refine AT.seq ?_
          refine AT.seq ?_
          refine AT.region ?_   -- region 12 ref.go:166
          refine TrC.take rfl (step_move rfl rfl rfl) ?_   -- 0
          refine TrC.take rfl (step_move rfl rfl rfl) ?_   -- 1
          refine TrC.take rfl (step_lenT (rt := 0) rfl rfl sl22 rfl) ?_   -- 2
          refine TrC.take rfl (step_bin rfl rfl rfl rfl rfl) ?_   -- 3
          refine TrC.done ?_
          refine AT.cond rfl (fun h57 => ?_) (fun h57 => ?_)   -- t57
          · -- true
            have hlt : k < x.base.length := by simpa using h57
            refine Exists.elim (show ∃ e, e = x.base[k] from ⟨_, rfl⟩) (fun e he => ?_)
            have hget : (x.base.map encA)[k]? = some (.agg [.i e.who, .b e.al, .i e.rt, .i e.rc, .b e.gv]) := by rw [List.getElem?_map, List.getElem?_eq_getElem hlt, he]; rfl
            refine AT.skip ?_
            refine AT.seq ?_
            refine AT.block ?_   -- block 3
            refine AT.seq ?_
            refine AT.region ?_   -- region 14 ref.go:167
            refine TrC.take rfl (step_move rfl rfl rfl) ?_   -- 0
            refine TrC.take rfl (step_move rfl rfl rfl) ?_   -- 1
            refine TrC.take rfl (step_move rfl rfl rfl) ?_   -- 2
            refine TrC.take rfl (step_indexAddrT (v := .agg [.i e.who, .b e.al, .i e.rt, .i e.rc, .b e.gv]) rfl rfl rfl sl22 (by omega) (by first | exact hget | simpa using hget) rfl rfl) ?_   -- 3
            refine TrC.take rfl (step_loadTN rfl rfl ty31 rfl rfl) ?_   -- 4
            refine TrC.take rfl (step_callB rfl rfl (C31 (rB x k) e (by omega)) (ConvL.refl _) rfl) ?_   -- 5
            refine TrC.take rfl (step_bin rfl rfl rfl rfl rfl) ?_   -- 6
            refine TrC.done ?_
            refine AT.cond rfl (fun h66 => ?_) (fun h66 => ?_)   -- t66
            · -- true
              have hgo := rB_yes hvb hvm hvt hlt (by rw [← he]; simpa using h66)
              refine AT.region ?_   -- region 15 ref.go:168
              refine TrC.take rfl (step_move rfl rfl rfl) ?_   -- 0
              refine TrC.take rfl (step_move rfl rfl rfl) ?_   -- 1
              refine TrC.take rfl (step_move rfl rfl rfl) ?_   -- 2
              refine TrC.take rfl (step_indexAddrT (v := .agg [.i e.who, .b e.al, .i e.rt, .i e.rc, .b e.gv]) rfl rfl rfl sl22 (by omega) (by first | exact hget | simpa using hget) rfl rfl) ?_   -- 3
              refine TrC.take rfl (step_loadTN rfl rfl ty31 rfl rfl) ?_   -- 4
              refine TrC.take rfl (step_buildSliceT rfl sl22 ze31 rfl rfl rfl rfl rfl rfl rfl rfl rfl rfl rfl rfl) ?_   -- 5
              refine TrC.take rfl (step_append rfl rfl rfl rfl rfl (.refl _) sl22 ze31 rfl rfl rfl (by first | (simp; done) | (simp; omega) | omega) rfl rfl) ?_   -- 6
              refine TrC.take rfl (step_assign rfl rfl rfl) ?_   -- 7
              refine TrC.done ?_
              refine AT.region ?_   -- region 13 ref.go:166
              refine TrC.take rfl (step_move rfl rfl rfl) ?_   -- 0
              refine TrC.take rfl (step_addI rfl rfl rfl (by first | omega | (simp; done) | (simp; omega)) (by first | omega | (simp; done) | (simp; omega)) rfl) ?_   -- 1
              refine TrC.take rfl (step_assign rfl rfl rfl) ?_   -- 2
              refine TrC.done ?_
              exact ⟨k + 1, hlt, by show x.base.length - (k + 1) < x.base.length - k; omega, Sat.wk [(50, 73)] (.cons (.t (.refl _)) (.cons (.t (.refl _)) (.cons (.t (.refl _)) (.cons (.p (j := 6) rfl) (.cons (.h (j := 50) rfl) (.cons (.t (conv_i (by simp))) (.nil))))))) (.cons rfl (.box (.cons (.t (.refl _)) (.cons (.t (.refl _)) (.nil)))) (.cons rfl (.row (by rw [hgo, ← he]; simp [encA])) (.nil))) rfl rfl⟩
            · -- false
              have hgo := rB_no hvb hvm hvt hlt (by rw [← he]; simpa using h66)
              refine AT.skip ?_
              refine AT.region ?_   -- region 13 ref.go:166
              refine TrC.take rfl (step_move rfl rfl rfl) ?_   -- 0
              refine TrC.take rfl (step_addI rfl rfl rfl (by first | omega | (simp; done) | (simp; omega)) (by first | omega | (simp; done) | (simp; omega)) rfl) ?_   -- 1
              refine TrC.take rfl (step_assign rfl rfl rfl) ?_   -- 2
              refine TrC.done ?_
              exact ⟨k + 1, hlt, by show x.base.length - (k + 1) < x.base.length - k; omega, Sat.wk [] (.cons (.t (.refl _)) (.cons (.t (.refl _)) (.cons (.t (.refl _)) (.cons (.p rfl) (.cons (.h rfl) (.cons (.t (conv_i (by simp))) (.nil))))))) (.cons rfl (.box (.cons (.t (.refl _)) (.cons (.t (.refl _)) (.nil)))) (.cons rfl (.row (by rw [hgo])) (.nil))) rfl rfl⟩
          · -- false
            have hke : k = x.base.length := by have h := h57; simp at h; omega
            have hall : rB x k = allE x := by rw [hke]; exact rB_end x
            refine AT.exit (Or.inl ⟨rfl, ?_⟩)   -- exit 2
            refine AT.seq ?_
            refine AT.wk (sl := [(0, .t (.slice 5 (x.base.map encA))), (1, .t (.slice 5 (x.mine.map encA))), (2, .t (.slice 5 (x.theirs.map encA))), (6, .p 6 0), (7, .t (.slice 5 ((rB x k).map encA)))]) (ml := [(6, .box 42 [.t (.slice 5 []), .t (.b false)])]) [] (.cons (.t (.refl _)) (.cons (.t (.refl _)) (.cons (.t (.refl _)) (.cons (.p rfl) (.cons (.fr rfl rfl) (.nil)))))) (.cons rfl (.box (.cons (.t (.refl _)) (.cons (.t (.refl _)) (.nil)))) (.nil)) rfl rfl ?_
            refine AT.wk (sl := [(0, .t (.slice 5 (x.base.map encA))), (1, .t (.slice 5 (x.mine.map encA))), (2, .t (.slice 5 (x.theirs.map encA))), (6, .p 6 0), (7, .t (.slice 5 ((allE x).map encA)))]) (ml := [(6, .box 42 [.t (.slice 5 []), .t (.b false)])]) [] (.cons (.t (.refl _)) (.cons (.t (.refl _)) (.cons (.t (.refl _)) (.cons (.p rfl) (.cons (.t (conv_eq (by rw [hall]))) (.nil)))))) (.cons rfl (.box (.cons (.t (.refl _)) (.cons (.t (.refl _)) (.nil)))) (.nil)) rfl rfl ?_
            refine AT.region ?_   -- region 16 ref.go:171
            refine TrC.take rfl (step_buildSliceH rfl rfl sl22 ze31 rfl rfl rfl rfl rfl rfl rfl rfl rfl rfl rfl rfl rfl) ?_   -- 0
            refine TrC.take rfl (step_assign rfl rfl rfl) ?_   -- 1
            refine TrC.done ?_
            refine AT.seq ?_
            refine AT.seq ?_
            refine AT.region ?_   -- region 17 ref.go:172
            refine TrC.take rfl (step_assign rfl rfl rfl) ?_   -- 0
            refine TrC.done ?_
            refine AT.block ?_   -- block 4
            refine AT.loopP (fun j : Nat => j ≤ (allE x).length ∧ ∀ q (h : q < (allE x).length), q < j → clash x (allE x)[q] = false) (fun j => mkS [(0, .t (.slice 5 (x.base.map encA))), (1, .t (.slice 5 (x.mine.map encA))), (2, .t (.slice 5 (x.theirs.map encA))), (6, .p 6 0), (7, .t (.slice 5 ((allE x).map encA))), (10, .h 60), (11, .t (.i j))] [(6, .box 42 [.t (.slice 5 []), .t (.b false)]), (60, .row 31 5 ((oK x (allE x) j).map encA))]) (fun j => (allE x).length - j) (0) (⟨Nat.zero_le _, fun q h hq => by omega⟩) (fun a w hs => Sat.wk [(60, 74)] (.cons (.t (.refl _)) (.cons (.t (.refl _)) (.cons (.t (.refl _)) (.cons (.p (j := 6) rfl) (.cons (.t (.refl _)) (.cons (.h (j := 60) rfl) (.cons (.t (.refl _)) (.nil)))))))) (.cons rfl (.box (.cons (.t (.refl _)) (.cons (.t (.refl _)) (.nil)))) (.cons rfl (.row rfl) (.nil))) rfl rfl a w hs) (fun j hj => ?_)
            obtain ⟨hj, hpre⟩ := hj
            have hol := oK_len x (allE x) j
            refine AT.seq ?_
            refine AT.seq ?_
            refine AT.region ?_   -- region 18 ref.go:172
            refine TrC.take rfl (step_move rfl rfl rfl) ?_   -- 0
            refine TrC.take rfl (step_move rfl rfl rfl) ?_   -- 1
            refine TrC.take rfl (step_lenT (rt := 0) rfl rfl sl22 rfl) ?_   -- 2
            refine TrC.take rfl (step_bin rfl rfl rfl rfl rfl) ?_   -- 3
            refine TrC.done ?_
            refine AT.cond rfl (fun h78 => ?_) (fun h78 => ?_)   -- t78
            · -- true
              have hlt : j < (allE x).length := by simpa using h78
              refine Exists.elim (show ∃ e, e = (allE x)[j] from ⟨_, rfl⟩) (fun e he => ?_)
              have hget : ((allE x).map encA)[j]? = some (.agg [.i e.who, .b e.al, .i e.rt, .i e.rc, .b e.gv]) := by rw [List.getElem?_map, List.getElem?_eq_getElem hlt, he]; rfl
              refine Exists.elim (show ∃ v, v = newRt x e from ⟨_, rfl⟩) (fun v hv => ?_)
              refine AT.skip ?_
              refine AT.seq ?_
              refine AT.block ?_   -- block 5
              refine AT.seq ?_
              refine AT.region ?_   -- region 20 ref.go:173
              refine TrC.take rfl (step_move rfl rfl rfl) ?_   -- 0
              refine TrC.take rfl (step_move rfl rfl rfl) ?_   -- 1
              refine TrC.take rfl (step_indexAddrT (v := .agg [.i e.who, .b e.al, .i e.rt, .i e.rc, .b e.gv]) rfl rfl rfl sl22 (by omega) (by first | exact hget | simpa using hget) rfl rfl) ?_   -- 2
              refine TrC.take rfl (step_loadTN rfl rfl ty31 rfl rfl) ?_   -- 3
              refine TrC.take rfl (step_alloc rfl rfl ze31 rfl rfl rfl) ?_   -- 4
              refine TrC.take rfl (step_storeP rfl rfl rfl rfl rfl (.inl rfl) ty31 rfl rfl rfl) ?_   -- 5
              refine TrC.done ?_
              refine AT.seq ?_
              refine AT.regionD mixed rfl ?_   -- region 21 ref.go:174
              refine TrC.take rfl (step_move rfl rfl rfl) ?_   -- 0
              refine TrC.take rfl (step_loadPN rfl rfl rfl ty31 rfl rfl rfl) ?_   -- 1
              refine TrC.take rfl (step_call0 rfl rfl (C31 x.base e (by omega)) rfl) ?_   -- 2
              refine TrC.take rfl (step_move rfl rfl rfl) ?_   -- 3
              refine TrC.take rfl (step_loadPN rfl rfl rfl ty31 rfl rfl rfl) ?_   -- 4
              refine TrC.take rfl (step_call0 rfl rfl (C31 x.mine e (by omega)) rfl) ?_   -- 5
              refine TrC.take rfl (step_move rfl rfl rfl) ?_   -- 6
              refine TrC.take rfl (step_loadPN rfl rfl rfl ty31 rfl rfl rfl) ?_   -- 7
              refine TrC.take rfl (step_call0 rfl rfl (C31 x.theirs e (by omega)) rfl) ?_   -- 8
              refine TrC.take rfl (step_assign rfl rfl rfl) ?_   -- 9
              refine TrC.take rfl (step_assign rfl rfl rfl) ?_   -- 10
              refine TrC.take rfl (step_assign rfl rfl rfl) ?_   -- 11
              refine TrC.doneD rfl ?_
              refine AT.seq ?_
              refine AT.seq ?_
              refine AT.region ?_   -- region 22 ref.go:175
              refine TrC.take rfl (step_move rfl rfl rfl) ?_   -- 0
              refine TrC.take rfl (step_move rfl rfl rfl) ?_   -- 1
              refine TrC.take rfl (step_bin rfl rfl rfl rfl rfl) ?_   -- 2
              refine TrC.take rfl (step_move rfl rfl rfl) ?_   -- 3
              refine TrC.cases (d := 97) rfl (fun h97 => ?_) (fun h97 => ?_)
              · -- t97 = true
                refine TrC.take ⟨_, _, rfl, rfl, rfl⟩ (step_move rfl rfl rfl) ?_   -- 4
                refine TrC.take ⟨_, _, rfl, rfl, rfl⟩ (step_move rfl rfl rfl) ?_   -- 5
                refine TrC.take ⟨_, _, rfl, rfl, rfl⟩ (step_bin rfl rfl rfl rfl rfl) ?_   -- 6
                refine TrC.take rfl (step_pick rfl rfl rfl rfl) ?_   -- 7
                refine TrC.take rfl (step_move rfl rfl rfl) ?_   -- 8
                refine TrC.cases (d := 102) rfl (fun h102 => ?_) (fun h102 => ?_)
                · -- t102 = true
                  refine TrC.take ⟨_, _, rfl, rfl, rfl⟩ (step_move rfl rfl rfl) ?_   -- 9
                  refine TrC.take ⟨_, _, rfl, rfl, rfl⟩ (step_move rfl rfl rfl) ?_   -- 10
                  refine TrC.take ⟨_, _, rfl, rfl, rfl⟩ (step_bin rfl rfl rfl rfl rfl) ?_   -- 11
                  refine TrC.take rfl (step_pick rfl rfl rfl rfl) ?_   -- 12
                  refine TrC.done ?_
                  refine AT.spell 106 rfl (bv (b := clash x e) (by unfold clash; first | (simp_all; done) | (rw [Bool.eq_iff_iff]; simp_all; done))) ?_
                  refine AT.cond rfl (fun h106 => ?_) (fun h106 => ?_)   -- t106
                  · -- true
                    have hs2 : mergeG x = ([], false) := g_clash (a := e) (by rw [he]; exact List.getElem_mem hlt) h106
                    refine AT.seq ?_
                    refine AT.region ?_   -- region 23 ref.go:176
                    refine TrC.take rfl (step_buildC rfl ze42 zc42 rfl pl42 rfl rfl rfl rfl) ?_   -- 0
                    refine TrC.take rfl (step_storeP rfl rfl rfl rfl rfl (.inl rfl) ty42 rfl rfl rfl) ?_   -- 1
                    refine TrC.done ?_
                    refine AT.ret ?_
                    exact Ret.one rfl (ResR.cellN rfl rfl ty42 rfl rfl (conv_eq (by first | (rw [hs]; done) | (rw [hs]; rfl) | (rw [hs, hs2]; done) | (rw [hs, hs2]; rfl) | (rw [hs, hs2]; simp [encMg, parted]))))
                  · -- false
                    have hcl : clash x e = false := h106
                    refine AT.skip ?_
                    refine AT.seq ?_
                    refine AT.region ?_   -- region 24 ref.go:178
                    refine TrC.take rfl (step_move rfl rfl rfl) ?_   -- 0
                    refine TrC.take rfl (step_fieldAddrP rfl rfl fd31_2 rfl rfl) ?_   -- 1
                    refine TrC.take rfl (step_storeP rfl rfl rfl rfl rfl (.inl rfl) ty3 rfl rfl rfl) ?_   -- 2
                    refine TrC.done ?_
                    refine AT.seq ?_
                    refine AT.seq ?_
                    refine AT.region ?_   -- region 25 ref.go:179
                    refine TrC.take rfl (step_move rfl rfl rfl) ?_   -- 0
                    refine TrC.take rfl (step_move rfl rfl rfl) ?_   -- 1
                    refine TrC.take rfl (step_bin rfl rfl rfl rfl rfl) ?_   -- 2
                    refine TrC.done ?_
                    refine AT.cond rfl (fun h112 => ?_) (fun h112 => ?_)   -- t112
                    · -- true
                      refine AT.region ?_   -- region 26 ref.go:180
                      refine TrC.take rfl (step_move rfl rfl rfl) ?_   -- 0
                      refine TrC.take rfl (step_fieldAddrP rfl rfl fd31_2 rfl rfl) ?_   -- 1
                      refine TrC.take rfl (step_storeP rfl rfl rfl rfl rfl (.inl rfl) ty3 rfl rfl rfl) ?_   -- 2
                      refine TrC.done ?_
                      refine AT.seq ?_
                      refine AT.wk (sl := [(0, .t (.slice 5 (x.base.map encA))), (1, .t (.slice 5 (x.mine.map encA))), (2, .t (.slice 5 (x.theirs.map encA))), (6, .p 6 0), (7, .t (.slice 5 ((allE x).map encA))), (10, .h 60), (11, .t (.i j)), (12, .p 12 0)]) (ml := [(6, .box 42 [.t (.slice 5 []), .t (.b false)]), (12, .box 31 [.t (.i e.who), .t (.b e.al), .t (.i v), .t (.i e.rc), .t (.b e.gv)]), (60, .row 31 5 ((oK x (allE x) j).map encA))]) [] (.cons (.t (.refl _)) (.cons (.t (.refl _)) (.cons (.t (.refl _)) (.cons (.p rfl) (.cons (.t (.refl _)) (.cons (.h rfl) (.cons (.t (.refl _)) (.cons (.p rfl) (.nil))))))))) (.cons rfl (.box (.cons (.t (.refl _)) (.cons (.t (.refl _)) (.nil)))) (.cons rfl (.box (.cons (.t (.refl _)) (.cons (.t (.refl _)) (.cons (.t (conv_i (by rw [hv]; unfold newRt; first | (simp_all; done) | (rw [if_neg (by simp_all)])))) (.cons (.t (.refl _)) (.cons (.t (.refl _)) (.nil))))))) (.cons rfl (.row rfl) (.nil)))) rfl rfl ?_
                      refine AT.region ?_   -- region 27 ref.go:182
                      refine TrC.take rfl (step_fieldAddrP rfl rfl fd31_2 rfl rfl) ?_   -- 0
                      refine TrC.take rfl (step_loadP1 rfl rfl rfl ty3 rfl rfl) ?_   -- 1
                      refine TrC.take rfl (step_bin rfl rfl rfl rfl rfl) ?_   -- 2
                      refine TrC.done ?_
                      refine AT.cond rfl (fun h117 => ?_) (fun h117 => ?_)   -- t117
                      · -- true
                        refine AT.region ?_   -- region 28 ref.go:183
                        refine TrC.take rfl (step_move rfl rfl rfl) ?_   -- 0
                        refine TrC.take rfl (step_loadPN rfl rfl rfl ty31 rfl rfl rfl) ?_   -- 1
                        refine TrC.take rfl (step_buildSliceT rfl sl22 ze31 rfl rfl rfl rfl rfl rfl rfl rfl rfl rfl rfl rfl) ?_   -- 2
                        refine TrC.take rfl (step_append rfl rfl rfl rfl rfl (.refl _) sl22 ze31 rfl rfl rfl (by first | (simp; done) | (simp; omega) | omega) rfl rfl) ?_   -- 3
                        refine TrC.take rfl (step_assign rfl rfl rfl) ?_   -- 4
                        refine TrC.done ?_
                        refine AT.region ?_   -- region 19 ref.go:172
                        refine TrC.take rfl (step_move rfl rfl rfl) ?_   -- 0
                        refine TrC.take rfl (step_addI rfl rfl rfl (by first | omega | (simp; done) | (simp; omega)) (by first | omega | (simp; done) | (simp; omega)) rfl) ?_   -- 1
                        refine TrC.take rfl (step_assign rfl rfl rfl) ?_   -- 2
                        refine TrC.done ?_
                        exact ⟨j + 1, ⟨hlt, fun q hq hqj => by
                          by_cases hqe : q = j
                          · subst hqe; rw [← he]; exact hcl
                          · exact hpre q hq (by omega)⟩, by show (allE x).length - (j + 1) < (allE x).length - j; omega, Sat.wk [(60, 121)] (.cons (.t (.refl _)) (.cons (.t (.refl _)) (.cons (.t (.refl _)) (.cons (.p (j := 6) rfl) (.cons (.t (.refl _)) (.cons (.h (j := 60) rfl) (.cons (.t (conv_i (by simp))) (.nil)))))))) (.cons rfl (.box (.cons (.t (.refl _)) (.cons (.t (.refl _)) (.nil)))) (.cons rfl (.row (by rw [oK_yes hlt (by rw [← he, ← hv]; simpa using h117), ← he, ← hv]; simp [encA])) (.nil))) rfl rfl⟩
                      · -- false
                        refine AT.skip ?_
                        refine AT.region ?_   -- region 19 ref.go:172
                        refine TrC.take rfl (step_move rfl rfl rfl) ?_   -- 0
                        refine TrC.take rfl (step_addI rfl rfl rfl (by first | omega | (simp; done) | (simp; omega)) (by first | omega | (simp; done) | (simp; omega)) rfl) ?_   -- 1
                        refine TrC.take rfl (step_assign rfl rfl rfl) ?_   -- 2
                        refine TrC.done ?_
                        exact ⟨j + 1, ⟨hlt, fun q hq hqj => by
                          by_cases hqe : q = j
                          · subst hqe; rw [← he]; exact hcl
                          · exact hpre q hq (by omega)⟩, by show (allE x).length - (j + 1) < (allE x).length - j; omega, Sat.wk [] (.cons (.t (.refl _)) (.cons (.t (.refl _)) (.cons (.t (.refl _)) (.cons (.p rfl) (.cons (.t (.refl _)) (.cons (.h rfl) (.cons (.t (conv_i (by simp))) (.nil)))))))) (.cons rfl (.box (.cons (.t (.refl _)) (.cons (.t (.refl _)) (.nil)))) (.cons rfl (.row (by rw [oK_no hlt (by rw [← he, ← hv]; simpa using h117)])) (.nil))) rfl rfl⟩
                    · -- false
                      refine AT.skip ?_
                      refine AT.seq ?_
                      refine AT.wk (sl := [(0, .t (.slice 5 (x.base.map encA))), (1, .t (.slice 5 (x.mine.map encA))), (2, .t (.slice 5 (x.theirs.map encA))), (6, .p 6 0), (7, .t (.slice 5 ((allE x).map encA))), (10, .h 60), (11, .t (.i j)), (12, .p 12 0)]) (ml := [(6, .box 42 [.t (.slice 5 []), .t (.b false)]), (12, .box 31 [.t (.i e.who), .t (.b e.al), .t (.i v), .t (.i e.rc), .t (.b e.gv)]), (60, .row 31 5 ((oK x (allE x) j).map encA))]) [] (.cons (.t (.refl _)) (.cons (.t (.refl _)) (.cons (.t (.refl _)) (.cons (.p rfl) (.cons (.t (.refl _)) (.cons (.h rfl) (.cons (.t (.refl _)) (.cons (.p rfl) (.nil))))))))) (.cons rfl (.box (.cons (.t (.refl _)) (.cons (.t (.refl _)) (.nil)))) (.cons rfl (.box (.cons (.t (.refl _)) (.cons (.t (.refl _)) (.cons (.t (conv_i (by rw [hv]; unfold newRt; first | (simp_all; done) | (rw [if_neg (by simp_all)])))) (.cons (.t (.refl _)) (.cons (.t (.refl _)) (.nil))))))) (.cons rfl (.row rfl) (.nil)))) rfl rfl ?_
                      refine AT.region ?_   -- region 27 ref.go:182
                      refine TrC.take rfl (step_fieldAddrP rfl rfl fd31_2 rfl rfl) ?_   -- 0
                      refine TrC.take rfl (step_loadP1 rfl rfl rfl ty3 rfl rfl) ?_   -- 1
                      refine TrC.take rfl (step_bin rfl rfl rfl rfl rfl) ?_   -- 2
                      refine TrC.done ?_
                      refine AT.cond rfl (fun h117 => ?_) (fun h117 => ?_)   -- t117
                      · -- true
                        refine AT.region ?_   -- region 28 ref.go:183
                        refine TrC.take rfl (step_move rfl rfl rfl) ?_   -- 0
                        refine TrC.take rfl (step_loadPN rfl rfl rfl ty31 rfl rfl rfl) ?_   -- 1
                        refine TrC.take rfl (step_buildSliceT rfl sl22 ze31 rfl rfl rfl rfl rfl rfl rfl rfl rfl rfl rfl rfl) ?_   -- 2
                        refine TrC.take rfl (step_append rfl rfl rfl rfl rfl (.refl _) sl22 ze31 rfl rfl rfl (by first | (simp; done) | (simp; omega) | omega) rfl rfl) ?_   -- 3
                        refine TrC.take rfl (step_assign rfl rfl rfl) ?_   -- 4
                        refine TrC.done ?_
                        refine AT.region ?_   -- region 19 ref.go:172
                        refine TrC.take rfl (step_move rfl rfl rfl) ?_   -- 0
                        refine TrC.take rfl (step_addI rfl rfl rfl (by first | omega | (simp; done) | (simp; omega)) (by first | omega | (simp; done) | (simp; omega)) rfl) ?_   -- 1
                        refine TrC.take rfl (step_assign rfl rfl rfl) ?_   -- 2
                        refine TrC.done ?_
                        exact ⟨j + 1, ⟨hlt, fun q hq hqj => by
                          by_cases hqe : q = j
                          · subst hqe; rw [← he]; exact hcl
                          · exact hpre q hq (by omega)⟩, by show (allE x).length - (j + 1) < (allE x).length - j; omega, Sat.wk [(60, 121)] (.cons (.t (.refl _)) (.cons (.t (.refl _)) (.cons (.t (.refl _)) (.cons (.p (j := 6) rfl) (.cons (.t (.refl _)) (.cons (.h (j := 60) rfl) (.cons (.t (conv_i (by simp))) (.nil)))))))) (.cons rfl (.box (.cons (.t (.refl _)) (.cons (.t (.refl _)) (.nil)))) (.cons rfl (.row (by rw [oK_yes hlt (by rw [← he, ← hv]; simpa using h117), ← he, ← hv]; simp [encA])) (.nil))) rfl rfl⟩
                      · -- false
                        refine AT.skip ?_
                        refine AT.region ?_   -- region 19 ref.go:172
                        refine TrC.take rfl (step_move rfl rfl rfl) ?_   -- 0
                        refine TrC.take rfl (step_addI rfl rfl rfl (by first | omega | (simp; done) | (simp; omega)) (by first | omega | (simp; done) | (simp; omega)) rfl) ?_   -- 1
                        refine TrC.take rfl (step_assign rfl rfl rfl) ?_   -- 2
                        refine TrC.done ?_
                        exact ⟨j + 1, ⟨hlt, fun q hq hqj => by
                          by_cases hqe : q = j
                          · subst hqe; rw [← he]; exact hcl
                          · exact hpre q hq (by omega)⟩, by show (allE x).length - (j + 1) < (allE x).length - j; omega, Sat.wk [] (.cons (.t (.refl _)) (.cons (.t (.refl _)) (.cons (.t (.refl _)) (.cons (.p rfl) (.cons (.t (.refl _)) (.cons (.h rfl) (.cons (.t (conv_i (by simp))) (.nil)))))))) (.cons rfl (.box (.cons (.t (.refl _)) (.cons (.t (.refl _)) (.nil)))) (.cons rfl (.row (by rw [oK_no hlt (by rw [← he, ← hv]; simpa using h117)])) (.nil))) rfl rfl⟩
                · -- t102 = false
                  refine TrC.skip ⟨_, _, rfl, rfl, rfl⟩ ?_   -- 9
                  refine TrC.skip ⟨_, _, rfl, rfl, rfl⟩ ?_   -- 10
                  refine TrC.skip ⟨_, _, rfl, rfl, rfl⟩ ?_   -- 11
                  refine TrC.take rfl (step_pick rfl rfl rfl rfl) ?_   -- 12
                  refine TrC.done ?_
                  refine AT.spell 106 rfl (bv (b := clash x e) (by unfold clash; first | (simp_all; done) | (rw [Bool.eq_iff_iff]; simp_all; done))) ?_
                  refine AT.cond rfl (fun h106 => ?_) (fun h106 => ?_)   -- t106
                  · -- true
                    have hs2 : mergeG x = ([], false) := g_clash (a := e) (by rw [he]; exact List.getElem_mem hlt) h106
                    refine AT.seq ?_
                    refine AT.region ?_   -- region 23 ref.go:176
                    refine TrC.take rfl (step_buildC rfl ze42 zc42 rfl pl42 rfl rfl rfl rfl) ?_   -- 0
                    refine TrC.take rfl (step_storeP rfl rfl rfl rfl rfl (.inl rfl) ty42 rfl rfl rfl) ?_   -- 1
                    refine TrC.done ?_
                    refine AT.ret ?_
                    exact Ret.one rfl (ResR.cellN rfl rfl ty42 rfl rfl (conv_eq (by first | (rw [hs]; done) | (rw [hs]; rfl) | (rw [hs, hs2]; done) | (rw [hs, hs2]; rfl) | (rw [hs, hs2]; simp [encMg, parted]))))
                  · -- false
                    have hcl : clash x e = false := h106
                    refine AT.skip ?_
                    refine AT.seq ?_
                    refine AT.region ?_   -- region 24 ref.go:178
                    refine TrC.take rfl (step_move rfl rfl rfl) ?_   -- 0
                    refine TrC.take rfl (step_fieldAddrP rfl rfl fd31_2 rfl rfl) ?_   -- 1
                    refine TrC.take rfl (step_storeP rfl rfl rfl rfl rfl (.inl rfl) ty3 rfl rfl rfl) ?_   -- 2
                    refine TrC.done ?_
                    refine AT.seq ?_
                    refine AT.seq ?_
                    refine AT.region ?_   -- region 25 ref.go:179
                    refine TrC.take rfl (step_move rfl rfl rfl) ?_   -- 0
                    refine TrC.take rfl (step_move rfl rfl rfl) ?_   -- 1
                    refine TrC.take rfl (step_bin rfl rfl rfl rfl rfl) ?_   -- 2
                    refine TrC.done ?_
                    refine AT.cond rfl (fun h112 => ?_) (fun h112 => ?_)   -- t112
                    · -- true
                      refine AT.region ?_   -- region 26 ref.go:180
                      refine TrC.take rfl (step_move rfl rfl rfl) ?_   -- 0
                      refine TrC.take rfl (step_fieldAddrP rfl rfl fd31_2 rfl rfl) ?_   -- 1
                      refine TrC.take rfl (step_storeP rfl rfl rfl rfl rfl (.inl rfl) ty3 rfl rfl rfl) ?_   -- 2
                      refine TrC.done ?_
                      refine AT.seq ?_
                      refine AT.wk (sl := [(0, .t (.slice 5 (x.base.map encA))), (1, .t (.slice 5 (x.mine.map encA))), (2, .t (.slice 5 (x.theirs.map encA))), (6, .p 6 0), (7, .t (.slice 5 ((allE x).map encA))), (10, .h 60), (11, .t (.i j)), (12, .p 12 0)]) (ml := [(6, .box 42 [.t (.slice 5 []), .t (.b false)]), (12, .box 31 [.t (.i e.who), .t (.b e.al), .t (.i v), .t (.i e.rc), .t (.b e.gv)]), (60, .row 31 5 ((oK x (allE x) j).map encA))]) [] (.cons (.t (.refl _)) (.cons (.t (.refl _)) (.cons (.t (.refl _)) (.cons (.p rfl) (.cons (.t (.refl _)) (.cons (.h rfl) (.cons (.t (.refl _)) (.cons (.p rfl) (.nil))))))))) (.cons rfl (.box (.cons (.t (.refl _)) (.cons (.t (.refl _)) (.nil)))) (.cons rfl (.box (.cons (.t (.refl _)) (.cons (.t (.refl _)) (.cons (.t (conv_i (by rw [hv]; unfold newRt; first | (simp_all; done) | (rw [if_neg (by simp_all)])))) (.cons (.t (.refl _)) (.cons (.t (.refl _)) (.nil))))))) (.cons rfl (.row rfl) (.nil)))) rfl rfl ?_
                      refine AT.region ?_   -- region 27 ref.go:182
                      refine TrC.take rfl (step_fieldAddrP rfl rfl fd31_2 rfl rfl) ?_   -- 0
                      refine TrC.take rfl (step_loadP1 rfl rfl rfl ty3 rfl rfl) ?_   -- 1
                      refine TrC.take rfl (step_bin rfl rfl rfl rfl rfl) ?_   -- 2
                      refine TrC.done ?_
                      refine AT.cond rfl (fun h117 => ?_) (fun h117 => ?_)   -- t117
                      · -- true
                        refine AT.region ?_   -- region 28 ref.go:183
                        refine TrC.take rfl (step_move rfl rfl rfl) ?_   -- 0
                        refine TrC.take rfl (step_loadPN rfl rfl rfl ty31 rfl rfl rfl) ?_   -- 1
                        refine TrC.take rfl (step_buildSliceT rfl sl22 ze31 rfl rfl rfl rfl rfl rfl rfl rfl rfl rfl rfl rfl) ?_   -- 2
                        refine TrC.take rfl (step_append rfl rfl rfl rfl rfl (.refl _) sl22 ze31 rfl rfl rfl (by first | (simp; done) | (simp; omega) | omega) rfl rfl) ?_   -- 3
                        refine TrC.take rfl (step_assign rfl rfl rfl) ?_   -- 4
                        refine TrC.done ?_
                        refine AT.region ?_   -- region 19 ref.go:172
                        refine TrC.take rfl (step_move rfl rfl rfl) ?_   -- 0
                        refine TrC.take rfl (step_addI rfl rfl rfl (by first | omega | (simp; done) | (simp; omega)) (by first | omega | (simp; done) | (simp; omega)) rfl) ?_   -- 1
                        refine TrC.take rfl (step_assign rfl rfl rfl) ?_   -- 2
                        refine TrC.done ?_
                        exact ⟨j + 1, ⟨hlt, fun q hq hqj => by
                          by_cases hqe : q = j
                          · subst hqe; rw [← he]; exact hcl
                          · exact hpre q hq (by omega)⟩, by show (allE x).length - (j + 1) < (allE x).length - j; omega, Sat.wk [(60, 121)] (.cons (.t (.refl _)) (.cons (.t (.refl _)) (.cons (.t (.refl _)) (.cons (.p (j := 6) rfl) (.cons (.t (.refl _)) (.cons (.h (j := 60) rfl) (.cons (.t (conv_i (by simp))) (.nil)))))))) (.cons rfl (.box (.cons (.t (.refl _)) (.cons (.t (.refl _)) (.nil)))) (.cons rfl (.row (by rw [oK_yes hlt (by rw [← he, ← hv]; simpa using h117), ← he, ← hv]; simp [encA])) (.nil))) rfl rfl⟩
                      · -- false
                        refine AT.skip ?_
                        refine AT.region ?_   -- region 19 ref.go:172
                        refine TrC.take rfl (step_move rfl rfl rfl) ?_   -- 0
                        refine TrC.take rfl (step_addI rfl rfl rfl (by first | omega | (simp; done) | (simp; omega)) (by first | omega | (simp; done) | (simp; omega)) rfl) ?_   -- 1
                        refine TrC.take rfl (step_assign rfl rfl rfl) ?_   -- 2
                        refine TrC.done ?_
                        exact ⟨j + 1, ⟨hlt, fun q hq hqj => by
                          by_cases hqe : q = j
                          · subst hqe; rw [← he]; exact hcl
                          · exact hpre q hq (by omega)⟩, by show (allE x).length - (j + 1) < (allE x).length - j; omega, Sat.wk [] (.cons (.t (.refl _)) (.cons (.t (.refl _)) (.cons (.t (.refl _)) (.cons (.p rfl) (.cons (.t (.refl _)) (.cons (.h rfl) (.cons (.t (conv_i (by simp))) (.nil)))))))) (.cons rfl (.box (.cons (.t (.refl _)) (.cons (.t (.refl _)) (.nil)))) (.cons rfl (.row (by rw [oK_no hlt (by rw [← he, ← hv]; simpa using h117)])) (.nil))) rfl rfl⟩
                    · -- false
                      refine AT.skip ?_
                      refine AT.seq ?_
                      refine AT.wk (sl := [(0, .t (.slice 5 (x.base.map encA))), (1, .t (.slice 5 (x.mine.map encA))), (2, .t (.slice 5 (x.theirs.map encA))), (6, .p 6 0), (7, .t (.slice 5 ((allE x).map encA))), (10, .h 60), (11, .t (.i j)), (12, .p 12 0)]) (ml := [(6, .box 42 [.t (.slice 5 []), .t (.b false)]), (12, .box 31 [.t (.i e.who), .t (.b e.al), .t (.i v), .t (.i e.rc), .t (.b e.gv)]), (60, .row 31 5 ((oK x (allE x) j).map encA))]) [] (.cons (.t (.refl _)) (.cons (.t (.refl _)) (.cons (.t (.refl _)) (.cons (.p rfl) (.cons (.t (.refl _)) (.cons (.h rfl) (.cons (.t (.refl _)) (.cons (.p rfl) (.nil))))))))) (.cons rfl (.box (.cons (.t (.refl _)) (.cons (.t (.refl _)) (.nil)))) (.cons rfl (.box (.cons (.t (.refl _)) (.cons (.t (.refl _)) (.cons (.t (conv_i (by rw [hv]; unfold newRt; first | (simp_all; done) | (rw [if_neg (by simp_all)])))) (.cons (.t (.refl _)) (.cons (.t (.refl _)) (.nil))))))) (.cons rfl (.row rfl) (.nil)))) rfl rfl ?_
                      refine AT.region ?_   -- region 27 ref.go:182
                      refine TrC.take rfl (step_fieldAddrP rfl rfl fd31_2 rfl rfl) ?_   -- 0
                      refine TrC.take rfl (step_loadP1 rfl rfl rfl ty3 rfl rfl) ?_   -- 1
                      refine TrC.take rfl (step_bin rfl rfl rfl rfl rfl) ?_   -- 2
                      refine TrC.done ?_
                      refine AT.cond rfl (fun h117 => ?_) (fun h117 => ?_)   -- t117
                      · -- true
                        refine AT.region ?_   -- region 28 ref.go:183
                        refine TrC.take rfl (step_move rfl rfl rfl) ?_   -- 0
                        refine TrC.take rfl (step_loadPN rfl rfl rfl ty31 rfl rfl rfl) ?_   -- 1
                        refine TrC.take rfl (step_buildSliceT rfl sl22 ze31 rfl rfl rfl rfl rfl rfl rfl rfl rfl rfl rfl rfl) ?_   -- 2
                        refine TrC.take rfl (step_append rfl rfl rfl rfl rfl (.refl _) sl22 ze31 rfl rfl rfl (by first | (simp; done) | (simp; omega) | omega) rfl rfl) ?_   -- 3
                        refine TrC.take rfl (step_assign rfl rfl rfl) ?_   -- 4
                        refine TrC.done ?_
                        refine AT.region ?_   -- region 19 ref.go:172
                        refine TrC.take rfl (step_move rfl rfl rfl) ?_   -- 0
                        refine TrC.take rfl (step_addI rfl rfl rfl (by first | omega | (simp; done) | (simp; omega)) (by first | omega | (simp; done) | (simp; omega)) rfl) ?_   -- 1
                        refine TrC.take rfl (step_assign rfl rfl rfl) ?_   -- 2
                        refine TrC.done ?_
                        exact ⟨j + 1, ⟨hlt, fun q hq hqj => by
                          by_cases hqe : q = j
                          · subst hqe; rw [← he]; exact hcl
                          · exact hpre q hq (by omega)⟩, by show (allE x).length - (j + 1) < (allE x).length - j; omega, Sat.wk [(60, 121)] (.cons (.t (.refl _)) (.cons (.t (.refl _)) (.cons (.t (.refl _)) (.cons (.p (j := 6) rfl) (.cons (.t (.refl _)) (.cons (.h (j := 60) rfl) (.cons (.t (conv_i (by simp))) (.nil)))))))) (.cons rfl (.box (.cons (.t (.refl _)) (.cons (.t (.refl _)) (.nil)))) (.cons rfl (.row (by rw [oK_yes hlt (by rw [← he, ← hv]; simpa using h117), ← he, ← hv]; simp [encA])) (.nil))) rfl rfl⟩
                      · -- false
                        refine AT.skip ?_
                        refine AT.region ?_   -- region 19 ref.go:172
                        refine TrC.take rfl (step_move rfl rfl rfl) ?_   -- 0
                        refine TrC.take rfl (step_addI rfl rfl rfl (by first | omega | (simp; done) | (simp; omega)) (by first | omega | (simp; done) | (simp; omega)) rfl) ?_   -- 1
                        refine TrC.take rfl (step_assign rfl rfl rfl) ?_   -- 2
                        refine TrC.done ?_
                        exact ⟨j + 1, ⟨hlt, fun q hq hqj => by
                          by_cases hqe : q = j
                          · subst hqe; rw [← he]; exact hcl
                          · exact hpre q hq (by omega)⟩, by show (allE x).length - (j + 1) < (allE x).length - j; omega, Sat.wk [] (.cons (.t (.refl _)) (.cons (.t (.refl _)) (.cons (.t (.refl _)) (.cons (.p rfl) (.cons (.t (.refl _)) (.cons (.h rfl) (.cons (.t (conv_i (by simp))) (.nil)))))))) (.cons rfl (.box (.cons (.t (.refl _)) (.cons (.t (.refl _)) (.nil)))) (.cons rfl (.row (by rw [oK_no hlt (by rw [← he, ← hv]; simpa using h117)])) (.nil))) rfl rfl⟩
              · -- t97 = false
                refine TrC.skip ⟨_, _, rfl, rfl, rfl⟩ ?_   -- 4
                refine TrC.skip ⟨_, _, rfl, rfl, rfl⟩ ?_   -- 5
                refine TrC.skip ⟨_, _, rfl, rfl, rfl⟩ ?_   -- 6
                refine TrC.take rfl (step_pick rfl rfl rfl rfl) ?_   -- 7
                refine TrC.take rfl (step_move rfl rfl rfl) ?_   -- 8
                refine TrC.skip ⟨_, _, rfl, rfl, rfl⟩ ?_   -- 9
                refine TrC.skip ⟨_, _, rfl, rfl, rfl⟩ ?_   -- 10
                refine TrC.skip ⟨_, _, rfl, rfl, rfl⟩ ?_   -- 11
                refine TrC.take rfl (step_pick rfl rfl rfl rfl) ?_   -- 12
                refine TrC.done ?_
                refine AT.spell 106 rfl (bv (b := clash x e) (by unfold clash; first | (simp_all; done) | (rw [Bool.eq_iff_iff]; simp_all; done))) ?_
                refine AT.cond rfl (fun h106 => ?_) (fun h106 => ?_)   -- t106
                · -- true
                  have hs2 : mergeG x = ([], false) := g_clash (a := e) (by rw [he]; exact List.getElem_mem hlt) h106
                  refine AT.seq ?_
                  refine AT.region ?_   -- region 23 ref.go:176
                  refine TrC.take rfl (step_buildC rfl ze42 zc42 rfl pl42 rfl rfl rfl rfl) ?_   -- 0
                  refine TrC.take rfl (step_storeP rfl rfl rfl rfl rfl (.inl rfl) ty42 rfl rfl rfl) ?_   -- 1
                  refine TrC.done ?_
                  refine AT.ret ?_
                  exact Ret.one rfl (ResR.cellN rfl rfl ty42 rfl rfl (conv_eq (by first | (rw [hs]; done) | (rw [hs]; rfl) | (rw [hs, hs2]; done) | (rw [hs, hs2]; rfl) | (rw [hs, hs2]; simp [encMg, parted]))))
                · -- false
                  have hcl : clash x e = false := h106
                  refine AT.skip ?_
                  refine AT.seq ?_
                  refine AT.region ?_   -- region 24 ref.go:178
                  refine TrC.take rfl (step_move rfl rfl rfl) ?_   -- 0
                  refine TrC.take rfl (step_fieldAddrP rfl rfl fd31_2 rfl rfl) ?_   -- 1
                  refine TrC.take rfl (step_storeP rfl rfl rfl rfl rfl (.inl rfl) ty3 rfl rfl rfl) ?_   -- 2
                  refine TrC.done ?_
                  refine AT.seq ?_
                  refine AT.seq ?_
                  refine AT.region ?_   -- region 25 ref.go:179
                  refine TrC.take rfl (step_move rfl rfl rfl) ?_   -- 0
                  refine TrC.take rfl (step_move rfl rfl rfl) ?_   -- 1
                  refine TrC.take rfl (step_bin rfl rfl rfl rfl rfl) ?_   -- 2
                  refine TrC.done ?_
                  refine AT.cond rfl (fun h112 => ?_) (fun h112 => ?_)   -- t112
                  · -- true
                    refine AT.region ?_   -- region 26 ref.go:180
                    refine TrC.take rfl (step_move rfl rfl rfl) ?_   -- 0
                    refine TrC.take rfl (step_fieldAddrP rfl rfl fd31_2 rfl rfl) ?_   -- 1
                    refine TrC.take rfl (step_storeP rfl rfl rfl rfl rfl (.inl rfl) ty3 rfl rfl rfl) ?_   -- 2
                    refine TrC.done ?_
                    refine AT.seq ?_
                    refine AT.wk (sl := [(0, .t (.slice 5 (x.base.map encA))), (1, .t (.slice 5 (x.mine.map encA))), (2, .t (.slice 5 (x.theirs.map encA))), (6, .p 6 0), (7, .t (.slice 5 ((allE x).map encA))), (10, .h 60), (11, .t (.i j)), (12, .p 12 0)]) (ml := [(6, .box 42 [.t (.slice 5 []), .t (.b false)]), (12, .box 31 [.t (.i e.who), .t (.b e.al), .t (.i v), .t (.i e.rc), .t (.b e.gv)]), (60, .row 31 5 ((oK x (allE x) j).map encA))]) [] (.cons (.t (.refl _)) (.cons (.t (.refl _)) (.cons (.t (.refl _)) (.cons (.p rfl) (.cons (.t (.refl _)) (.cons (.h rfl) (.cons (.t (.refl _)) (.cons (.p rfl) (.nil))))))))) (.cons rfl (.box (.cons (.t (.refl _)) (.cons (.t (.refl _)) (.nil)))) (.cons rfl (.box (.cons (.t (.refl _)) (.cons (.t (.refl _)) (.cons (.t (conv_i (by rw [hv]; unfold newRt; first | (simp_all; done) | (rw [if_neg (by simp_all)])))) (.cons (.t (.refl _)) (.cons (.t (.refl _)) (.nil))))))) (.cons rfl (.row rfl) (.nil)))) rfl rfl ?_
                    refine AT.region ?_   -- region 27 ref.go:182
                    refine TrC.take rfl (step_fieldAddrP rfl rfl fd31_2 rfl rfl) ?_   -- 0
                    refine TrC.take rfl (step_loadP1 rfl rfl rfl ty3 rfl rfl) ?_   -- 1
                    refine TrC.take rfl (step_bin rfl rfl rfl rfl rfl) ?_   -- 2
                    refine TrC.done ?_
                    refine AT.cond rfl (fun h117 => ?_) (fun h117 => ?_)   -- t117
                    · -- true
                      refine AT.region ?_   -- region 28 ref.go:183
                      refine TrC.take rfl (step_move rfl rfl rfl) ?_   -- 0
                      refine TrC.take rfl (step_loadPN rfl rfl rfl ty31 rfl rfl rfl) ?_   -- 1
                      refine TrC.take rfl (step_buildSliceT rfl sl22 ze31 rfl rfl rfl rfl rfl rfl rfl rfl rfl rfl rfl rfl) ?_   -- 2
                      refine TrC.take rfl (step_append rfl rfl rfl rfl rfl (.refl _) sl22 ze31 rfl rfl rfl (by first | (simp; done) | (simp; omega) | omega) rfl rfl) ?_   -- 3
                      refine TrC.take rfl (step_assign rfl rfl rfl) ?_   -- 4
                      refine TrC.done ?_
                      refine AT.region ?_   -- region 19 ref.go:172
                      refine TrC.take rfl (step_move rfl rfl rfl) ?_   -- 0
                      refine TrC.take rfl (step_addI rfl rfl rfl (by first | omega | (simp; done) | (simp; omega)) (by first | omega | (simp; done) | (simp; omega)) rfl) ?_   -- 1
                      refine TrC.take rfl (step_assign rfl rfl rfl) ?_   -- 2
                      refine TrC.done ?_
                      exact ⟨j + 1, ⟨hlt, fun q hq hqj => by
                        by_cases hqe : q = j
                        · subst hqe; rw [← he]; exact hcl
                        · exact hpre q hq (by omega)⟩, by show (allE x).length - (j + 1) < (allE x).length - j; omega, Sat.wk [(60, 121)] (.cons (.t (.refl _)) (.cons (.t (.refl _)) (.cons (.t (.refl _)) (.cons (.p (j := 6) rfl) (.cons (.t (.refl _)) (.cons (.h (j := 60) rfl) (.cons (.t (conv_i (by simp))) (.nil)))))))) (.cons rfl (.box (.cons (.t (.refl _)) (.cons (.t (.refl _)) (.nil)))) (.cons rfl (.row (by rw [oK_yes hlt (by rw [← he, ← hv]; simpa using h117), ← he, ← hv]; simp [encA])) (.nil))) rfl rfl⟩
                    · -- false
                      refine AT.skip ?_
                      refine AT.region ?_   -- region 19 ref.go:172
                      refine TrC.take rfl (step_move rfl rfl rfl) ?_   -- 0
                      refine TrC.take rfl (step_addI rfl rfl rfl (by first | omega | (simp; done) | (simp; omega)) (by first | omega | (simp; done) | (simp; omega)) rfl) ?_   -- 1
                      refine TrC.take rfl (step_assign rfl rfl rfl) ?_   -- 2
                      refine TrC.done ?_
                      exact ⟨j + 1, ⟨hlt, fun q hq hqj => by
                        by_cases hqe : q = j
                        · subst hqe; rw [← he]; exact hcl
                        · exact hpre q hq (by omega)⟩, by show (allE x).length - (j + 1) < (allE x).length - j; omega, Sat.wk [] (.cons (.t (.refl _)) (.cons (.t (.refl _)) (.cons (.t (.refl _)) (.cons (.p rfl) (.cons (.t (.refl _)) (.cons (.h rfl) (.cons (.t (conv_i (by simp))) (.nil)))))))) (.cons rfl (.box (.cons (.t (.refl _)) (.cons (.t (.refl _)) (.nil)))) (.cons rfl (.row (by rw [oK_no hlt (by rw [← he, ← hv]; simpa using h117)])) (.nil))) rfl rfl⟩
                  · -- false
                    refine AT.skip ?_
                    refine AT.seq ?_
                    refine AT.wk (sl := [(0, .t (.slice 5 (x.base.map encA))), (1, .t (.slice 5 (x.mine.map encA))), (2, .t (.slice 5 (x.theirs.map encA))), (6, .p 6 0), (7, .t (.slice 5 ((allE x).map encA))), (10, .h 60), (11, .t (.i j)), (12, .p 12 0)]) (ml := [(6, .box 42 [.t (.slice 5 []), .t (.b false)]), (12, .box 31 [.t (.i e.who), .t (.b e.al), .t (.i v), .t (.i e.rc), .t (.b e.gv)]), (60, .row 31 5 ((oK x (allE x) j).map encA))]) [] (.cons (.t (.refl _)) (.cons (.t (.refl _)) (.cons (.t (.refl _)) (.cons (.p rfl) (.cons (.t (.refl _)) (.cons (.h rfl) (.cons (.t (.refl _)) (.cons (.p rfl) (.nil))))))))) (.cons rfl (.box (.cons (.t (.refl _)) (.cons (.t (.refl _)) (.nil)))) (.cons rfl (.box (.cons (.t (.refl _)) (.cons (.t (.refl _)) (.cons (.t (conv_i (by rw [hv]; unfold newRt; first | (simp_all; done) | (rw [if_neg (by simp_all)])))) (.cons (.t (.refl _)) (.cons (.t (.refl _)) (.nil))))))) (.cons rfl (.row rfl) (.nil)))) rfl rfl ?_
                    refine AT.region ?_   -- region 27 ref.go:182
                    refine TrC.take rfl (step_fieldAddrP rfl rfl fd31_2 rfl rfl) ?_   -- 0
                    refine TrC.take rfl (step_loadP1 rfl rfl rfl ty3 rfl rfl) ?_   -- 1
                    refine TrC.take rfl (step_bin rfl rfl rfl rfl rfl) ?_   -- 2
                    refine TrC.done ?_
                    refine AT.cond rfl (fun h117 => ?_) (fun h117 => ?_)   -- t117
                    · -- true
                      refine AT.region ?_   -- region 28 ref.go:183
                      refine TrC.take rfl (step_move rfl rfl rfl) ?_   -- 0
                      refine TrC.take rfl (step_loadPN rfl rfl rfl ty31 rfl rfl rfl) ?_   -- 1
                      refine TrC.take rfl (step_buildSliceT rfl sl22 ze31 rfl rfl rfl rfl rfl rfl rfl rfl rfl rfl rfl rfl) ?_   -- 2
                      refine TrC.take rfl (step_append rfl rfl rfl rfl rfl (.refl _) sl22 ze31 rfl rfl rfl (by first | (simp; done) | (simp; omega) | omega) rfl rfl) ?_   -- 3
                      refine TrC.take rfl (step_assign rfl rfl rfl) ?_   -- 4
                      refine TrC.done ?_
                      refine AT.region ?_   -- region 19 ref.go:172
                      refine TrC.take rfl (step_move rfl rfl rfl) ?_   -- 0
                      refine TrC.take rfl (step_addI rfl rfl rfl (by first | omega | (simp; done) | (simp; omega)) (by first | omega | (simp; done) | (simp; omega)) rfl) ?_   -- 1
                      refine TrC.take rfl (step_assign rfl rfl rfl) ?_   -- 2
                      refine TrC.done ?_
                      exact ⟨j + 1, ⟨hlt, fun q hq hqj => by
                        by_cases hqe : q = j
                        · subst hqe; rw [← he]; exact hcl
                        · exact hpre q hq (by omega)⟩, by show (allE x).length - (j + 1) < (allE x).length - j; omega, Sat.wk [(60, 121)] (.cons (.t (.refl _)) (.cons (.t (.refl _)) (.cons (.t (.refl _)) (.cons (.p (j := 6) rfl) (.cons (.t (.refl _)) (.cons (.h (j := 60) rfl) (.cons (.t (conv_i (by simp))) (.nil)))))))) (.cons rfl (.box (.cons (.t (.refl _)) (.cons (.t (.refl _)) (.nil)))) (.cons rfl (.row (by rw [oK_yes hlt (by rw [← he, ← hv]; simpa using h117), ← he, ← hv]; simp [encA])) (.nil))) rfl rfl⟩
                    · -- false
                      refine AT.skip ?_
                      refine AT.region ?_   -- region 19 ref.go:172
                      refine TrC.take rfl (step_move rfl rfl rfl) ?_   -- 0
                      refine TrC.take rfl (step_addI rfl rfl rfl (by first | omega | (simp; done) | (simp; omega)) (by first | omega | (simp; done) | (simp; omega)) rfl) ?_   -- 1
                      refine TrC.take rfl (step_assign rfl rfl rfl) ?_   -- 2
                      refine TrC.done ?_
                      exact ⟨j + 1, ⟨hlt, fun q hq hqj => by
                        by_cases hqe : q = j
                        · subst hqe; rw [← he]; exact hcl
                        · exact hpre q hq (by omega)⟩, by show (allE x).length - (j + 1) < (allE x).length - j; omega, Sat.wk [] (.cons (.t (.refl _)) (.cons (.t (.refl _)) (.cons (.t (.refl _)) (.cons (.p rfl) (.cons (.t (.refl _)) (.cons (.h rfl) (.cons (.t (conv_i (by simp))) (.nil)))))))) (.cons rfl (.box (.cons (.t (.refl _)) (.cons (.t (.refl _)) (.nil)))) (.cons rfl (.row (by rw [oK_no hlt (by rw [← he, ← hv]; simpa using h117)])) (.nil))) rfl rfl⟩
            · -- false
              have hje : j = (allE x).length := by have h := h78; simp at h; omega
              have hcl : ∀ a ∈ allE x, clash x a = false := fun a ha => by obtain ⟨q, hq, rfl⟩ := List.getElem_of_mem ha; exact hpre q hq (by omega)
              have hoe : oK x (allE x) j = outE x := by rw [hje]; exact oK_end x
              refine AT.exit (Or.inl ⟨rfl, ?_⟩)   -- exit 4
              refine AT.seq ?_
              refine AT.wk (sl := [(0, .t (.slice 5 (x.base.map encA))), (1, .t (.slice 5 (x.mine.map encA))), (2, .t (.slice 5 (x.theirs.map encA))), (6, .p 6 0), (10, .t (.slice 5 ((oK x (allE x) j).map encA)))]) (ml := [(6, .box 42 [.t (.slice 5 []), .t (.b false)])]) [] (.cons (.t (.refl _)) (.cons (.t (.refl _)) (.cons (.t (.refl _)) (.cons (.p rfl) (.cons (.fr rfl rfl) (.nil)))))) (.cons rfl (.box (.cons (.t (.refl _)) (.cons (.t (.refl _)) (.nil)))) (.nil)) rfl rfl ?_
              refine AT.wk (sl := [(0, .t (.slice 5 (x.base.map encA))), (1, .t (.slice 5 (x.mine.map encA))), (2, .t (.slice 5 (x.theirs.map encA))), (6, .p 6 0), (10, .t (.slice 5 ((outE x).map encA)))]) (ml := [(6, .box 42 [.t (.slice 5 []), .t (.b false)])]) [] (.cons (.t (.refl _)) (.cons (.t (.refl _)) (.cons (.t (.refl _)) (.cons (.p rfl) (.cons (.t (conv_eq (by rw [hoe]))) (.nil)))))) (.cons rfl (.box (.cons (.t (.refl _)) (.cons (.t (.refl _)) (.nil)))) (.nil)) rfl rfl ?_
              rw [hoe] at hol
              have hpl := parted_len (outE x)
              have hol1 := own_len (outE x) false
              have hol2 := own_len (outE x) true
              refine AT.region ?_   -- region 29 ref.go:186
              refine TrC.take rfl (step_move rfl rfl rfl) ?_   -- 0
              refine TrC.take rfl (step_callH0 rfl rfl rfl (C30 (outE x) false (by omega)) rfl rfl) ?_   -- 1
              refine TrC.take rfl (step_move rfl rfl rfl) ?_   -- 2
              refine TrC.take rfl (step_call0 rfl rfl (HasOwn.has (C30 (outE x) true (by omega))) rfl) ?_   -- 3
              refine TrC.take rfl (Step.toT (step_append rfl rfl rfl rfl rfl (.refl _) sl22 ze31 rfl rfl rfl (by simp; omega) rfl rfl) rfl) ?_   -- 4
              refine TrC.take rfl (step_assign rfl rfl rfl) ?_   -- 5
              refine TrC.done ?_
              refine AT.seq ?_
              refine AT.seq ?_
              refine AT.region ?_   -- region 30 ref.go:187
              refine TrC.take rfl (step_move rfl rfl rfl) ?_   -- 0
              refine TrC.take rfl (step_lenT (rt := 0) rfl rfl sl22 rfl) ?_   -- 1
              refine TrC.take rfl (step_bin rfl rfl rfl rfl rfl) ?_   -- 2
              refine TrC.done ?_
              refine AT.cond rfl (fun h129 => ?_) (fun h129 => ?_)   -- t129
              · -- true
                have hs2 : mergeG x = ([], false) := g_big hcl (by have h := h129; have hp := parted_len (outE x); unfold parted at hp; simp at h hp; omega)
                refine AT.seq ?_
                refine AT.region ?_   -- region 31 ref.go:188
                refine TrC.take rfl (step_buildC rfl ze42 zc42 rfl pl42 rfl rfl rfl rfl) ?_   -- 0
                refine TrC.take rfl (step_storeP rfl rfl rfl rfl rfl (.inl rfl) ty42 rfl rfl rfl) ?_   -- 1
                refine TrC.done ?_
                refine AT.ret ?_
                exact Ret.one rfl (ResR.cellN rfl rfl ty42 rfl rfl (conv_eq (by first | (rw [hs]; done) | (rw [hs]; rfl) | (rw [hs, hs2]; done) | (rw [hs, hs2]; rfl) | (rw [hs, hs2]; simp [encMg, parted]))))
              · -- false
                have hs2 : mergeG x = (parted (outE x), true) := g_ok hcl (by have h := h129; have hp := parted_len (outE x); unfold parted at hp; simp at h hp; omega)
                refine AT.skip ?_
                refine AT.seq ?_
                refine AT.region ?_   -- region 32 ref.go:190
                refine TrC.take rfl (step_move rfl rfl rfl) ?_   -- 0
                refine TrC.take rfl (step_buildC rfl ze42 zc42 rfl pl42 rfl rfl rfl rfl) ?_   -- 1
                refine TrC.take rfl (step_storeP rfl rfl rfl rfl rfl (.inl rfl) ty42 rfl rfl rfl) ?_   -- 2
                refine TrC.done ?_
                refine AT.ret ?_
                exact Ret.one rfl (ResR.cellN rfl rfl ty42 rfl rfl (conv_eq (by first | (rw [hs]; done) | (rw [hs]; rfl) | (rw [hs, hs2]; done) | (rw [hs, hs2]; rfl) | (rw [hs, hs2]; simp [encMg, parted]))))

end Go.Proofs.Ytgblfhobiibeaaa.Acl

/- Contracts of functions of this translation. Printed by wip/tools/gen.py out of wip/acl/ann.py. No condition. -/
set_option linter.unusedVariables false
set_option linter.unusedSimpArgs false
namespace Go.Proofs.Ytgblfhobiibeaaa.Acl
open Go.Proofs.Ytgblfhobiibeaaa.Abs
set_option maxRecDepth 100000
set_option maxHeartbeats 4000000
theorem C45 (x : Tri) (hvb : VL x.base) (hvm : VL x.mine) (hvt : VL x.theirs) : Has Try.prog 45 [.slice 5 (x.base.map encA), .slice 5 (x.mine.map encA), .slice 5 (x.theirs.map encA)] (.tup [.slice 5 ((merge x).1.map encA), .b (merge x).2]) := by   -- burgage/acl.Merge
  have hbl := hvb.ln
  have hml := hvm.ln
  have htl := hvt.ln
  have hcat := cat_len hvb hvm hvt
  refine Has.intro 100 Try.func45 (by kernel_rfl) rfl rfl fun w ok => ?_
  refine AT.seq ?_
  refine AT.region ?_   -- region 0 acl.go:129
  refine TrC.take rfl (step_assignN (sz := 5) rfl rfl) ?_   -- 0
  refine TrC.take rfl (step_assign rfl rfl rfl) ?_   -- 1
  refine TrC.done ?_
  refine AT.seq ?_
  refine AT.block ?_   -- block 0
  refine AT.seq ?_
  refine AT.region ?_   -- region 1 acl.go:131
  refine TrC.take rfl (step_move rfl rfl rfl) ?_   -- 0
  refine TrC.take rfl (step_move rfl rfl rfl) ?_   -- 1
  refine TrC.take rfl (step_call0 rfl rfl (C19 x.mine x.base (by omega)) rfl) ?_   -- 2
  refine TrC.take rfl (step_assign rfl rfl rfl) ?_   -- 3
  refine TrC.done ?_
  refine AT.cond rfl (fun h16 => ?_) (fun h16 => ?_)   -- t16
  · -- true
    have hs : merge x = (x.theirs, true) := m_one (by simpa using h16)
    refine AT.seq ?_
    refine AT.region ?_   -- region 2 acl.go:132
    refine TrC.take rfl (step_move rfl rfl rfl) ?_   -- 0
    refine TrC.take rfl (step_assign rfl rfl rfl) ?_   -- 1
    refine TrC.take rfl (step_assign rfl rfl rfl) ?_   -- 2
    refine TrC.done ?_
    refine AT.ret ?_
    exact Ret.many (.cons (.tmp rfl (conv_eq (by first | (rw [hs]; done) | (rw [hs]; rfl) | (rw [hs, hs2]; done) | (rw [hs, hs2]; rfl) | (rw [hs, hs2]; simp [parted, own_eq, own_eq1])))) (.cons (.tmp rfl (conv_b (by first | (rw [hs]; done) | (rw [hs, hs2]; done)))) .nil)) rfl
  · -- false
    have h1 : ¬ x.mine = x.base := by simpa using h16
    refine AT.seq ?_
    refine AT.seq ?_
    refine AT.region ?_   -- region 3 acl.go:133
    refine TrC.take rfl (step_move rfl rfl rfl) ?_   -- 0
    refine TrC.take rfl (step_move rfl rfl rfl) ?_   -- 1
    refine TrC.take rfl (step_call0 rfl rfl (C19 x.theirs x.base (by omega)) rfl) ?_   -- 2
    refine TrC.take rfl (step_assign rfl rfl rfl) ?_   -- 3
    refine TrC.done ?_
    refine AT.cond rfl (fun h21 => ?_) (fun h21 => ?_)   -- t21
    · -- true
      refine AT.spell 21 rfl (congrArg (fun b => T.v (.bool b)) h21) ?_
      refine AT.skip ?_
      refine AT.condT rfl ?_   -- t21
      refine AT.seq ?_
      have hs : merge x = (x.mine, true) := m_two h1 (by simp_all)
      refine AT.region ?_   -- region 5 acl.go:134
      refine TrC.take rfl (step_move rfl rfl rfl) ?_   -- 0
      refine TrC.take rfl (step_assign rfl rfl rfl) ?_   -- 1
      refine TrC.take rfl (step_assign rfl rfl rfl) ?_   -- 2
      refine TrC.done ?_
      refine AT.ret ?_
      exact Ret.many (.cons (.tmp rfl (conv_eq (by first | (rw [hs]; done) | (rw [hs]; rfl) | (rw [hs, hs2]; done) | (rw [hs, hs2]; rfl) | (rw [hs, hs2]; simp [parted, own_eq, own_eq1])))) (.cons (.tmp rfl (conv_b (by first | (rw [hs]; done) | (rw [hs, hs2]; done)))) .nil)) rfl
    · -- false
      refine AT.spell 21 rfl (congrArg (fun b => T.v (.bool b)) h21) ?_
      refine AT.region ?_   -- region 4 acl.go:133
      refine TrC.take rfl (step_move rfl rfl rfl) ?_   -- 0
      refine TrC.take rfl (step_move rfl rfl rfl) ?_   -- 1
      refine TrC.take rfl (step_call0 rfl rfl (C19 x.mine x.theirs (by omega)) rfl) ?_   -- 2
      refine TrC.take rfl (step_assign rfl rfl rfl) ?_   -- 3
      refine TrC.done ?_
      refine AT.cond rfl (fun h21 => ?_) (fun h21 => ?_)   -- t21
      · -- true
        refine AT.spell 21 rfl (congrArg (fun b => T.v (.bool b)) h21) ?_
        refine AT.seq ?_
        have hs : merge x = (x.mine, true) := m_two h1 (by simp_all)
        refine AT.region ?_   -- region 5 acl.go:134
        refine TrC.take rfl (step_move rfl rfl rfl) ?_   -- 0
        refine TrC.take rfl (step_assign rfl rfl rfl) ?_   -- 1
        refine TrC.take rfl (step_assign rfl rfl rfl) ?_   -- 2
        refine TrC.done ?_
        refine AT.ret ?_
        exact Ret.many (.cons (.tmp rfl (conv_eq (by first | (rw [hs]; done) | (rw [hs]; rfl) | (rw [hs, hs2]; done) | (rw [hs, hs2]; rfl) | (rw [hs, hs2]; simp [parted, own_eq, own_eq1])))) (.cons (.tmp rfl (conv_b (by first | (rw [hs]; done) | (rw [hs, hs2]; done)))) .nil)) rfl
      · -- false
        refine AT.spell 21 rfl (congrArg (fun b => T.v (.bool b)) h21) ?_
        refine AT.skip ?_
        refine AT.seq ?_
        have hs : merge x = mergeG x := m_three h1 (by intro h; simp_all) (by intro h; simp_all)
        refine AT.region ?_   -- region 6 acl.go:136
        refine TrC.take rfl (step_move rfl rfl rfl) ?_   -- 0
        refine TrC.take rfl (step_callG (ml := []) rfl (PassL.refl _) trivial ((C50 201 x.base (by omega)).pre [] rfl (.cons (.t (.refl _)) .nil) .nil rfl) rfl rfl rfl rfl rfl) ?_   -- 1
        refine TrC.take rfl (step_move rfl rfl rfl) ?_   -- 2
        refine TrC.take rfl (step_callG (ml := []) rfl (PassL.refl _) trivial ((C50 202 x.mine (by omega)).pre [] rfl (.cons (.t (.refl _)) .nil) .nil rfl) rfl rfl rfl rfl rfl) ?_   -- 3
        refine TrC.take rfl (step_move rfl rfl rfl) ?_   -- 4
        refine TrC.take rfl (step_callG (ml := []) rfl (PassL.refl _) trivial ((C50 203 x.theirs (by omega)).pre [] rfl (.cons (.t (.refl _)) .nil) .nil rfl) rfl rfl rfl rfl rfl) ?_   -- 5
        refine TrC.take rfl (step_assign rfl rfl rfl) ?_   -- 6
        refine TrC.take rfl (step_assign rfl rfl rfl) ?_   -- 7
        refine TrC.take rfl (step_assign rfl rfl rfl) ?_   -- 8
        refine TrC.done ?_
        refine AT.seq ?_
        refine AT.region ?_   -- region 7 acl.go:137
        refine TrC.take rfl (step_assignR (E := 31) (sz := 5) rfl rfl rfl rfl) ?_   -- 0
        refine TrC.done ?_
        refine AT.seq ?_
        refine AT.region ?_   -- region 8 acl.go:138
        refine TrC.take rfl (step_makeMap rfl rfl rfl rfl) ?_   -- 0
        refine TrC.take rfl (step_assign rfl rfl rfl) ?_   -- 1
        refine TrC.done ?_
        refine AT.seq ?_
        refine AT.seq ?_
        refine AT.region ?_   -- region 9 acl.go:139
        refine TrC.take rfl (step_move rfl rfl rfl) ?_   -- 0
        refine TrC.take rfl (step_move rfl rfl rfl) ?_   -- 1
        refine TrC.take rfl (step_move rfl rfl rfl) ?_   -- 2
        refine TrC.take rfl (step_buildSliceT rfl sl29 ze22 rfl rfl rfl rfl rfl rfl rfl rfl rfl rfl rfl rfl) ?_   -- 3
        refine TrC.take rfl (step_call0 rfl rfl (C51 [x.mine, x.theirs, x.base] (by simp) (by simp; omega)) rfl) ?_   -- 4
        refine TrC.spell 40 rfl (show T.slice 5 (([x.mine, x.theirs, x.base].flatten).map encA) = .slice 5 ((catE x).map encA) from by simp [catE]) ?_
        refine TrC.take rfl (step_lenT (rt := 0) rfl rfl sl22 rfl) ?_   -- 5
        refine TrC.take rfl (step_move rfl rfl rfl) ?_   -- 6
        refine TrC.done ?_
        refine AT.block ?_   -- block 1
        refine AT.loopP (fun k : Nat => k ≤ (catE x).length ∧ fine x k) (fun k => mkS [(8, .h 61), (9, .h 62), (10, .h 63), (11, .h 50), (12, .h 60), (40, .t (.slice 5 ((catE x).map encA))), (41, .t (.i (catE x).length)), (42, .t (.i k))] [(50, .row 31 5 ((oD x k).map encA)), (60, .mp (ents (gm (dn (dd (catE x) k)))) (gm (dn (dd (catE x) k))).length), (61, .mp (ents (gm (tbl x.base))) (gm (tbl x.base)).length), (62, .mp (ents (gm (tbl x.mine))) (gm (tbl x.mine)).length), (63, .mp (ents (gm (tbl x.theirs))) (gm (tbl x.theirs)).length)]) (fun k => (catE x).length - k) (0) (⟨Nat.zero_le _, fine_zero x⟩) (fun a w hs => Sat.wk [(50, 11), (60, 35), (61, 201), (62, 202), (63, 203)] (.cons (.h (j := 61) rfl) (.cons (.h (j := 62) rfl) (.cons (.h (j := 63) rfl) (.cons (.h (j := 50) rfl) (.cons (.h (j := 60) rfl) (.cons (.t (.refl _)) (.cons (.t (conv_i (by simp))) (.cons (.t (.refl _)) (.nil))))))))) (.cons rfl (.row rfl) (.cons rfl (.mp rfl rfl) (.cons rfl (.mp rfl rfl) (.cons rfl (.mp rfl rfl) (.cons rfl (.mp rfl rfl) (.nil)))))) rfl rfl a w hs) (fun k hk => ?_)
        obtain ⟨hkl, hfine⟩ := hk
        have hol := oD_len x k
        refine AT.seq ?_
        refine AT.region ?_   -- region 10 acl.go:139
        refine TrC.take rfl (step_bin rfl rfl rfl rfl rfl) ?_   -- 0
        refine TrC.done ?_
        refine AT.seq ?_
        refine AT.cond rfl (fun h43 => ?_) (fun h43 => ?_)   -- t43
        · -- true
          have hlt : k < (catE x).length := by simpa using h43
          refine Exists.elim (show ∃ e, e = (catE x)[k] from ⟨_, rfl⟩) (fun e he => ?_)
          have hget : ((catE x).map encA)[k]? = some (.agg [.i e.who, .b e.al, .i e.rt, .i e.rc, .b e.gv]) := by rw [List.getElem?_map, List.getElem?_eq_getElem hlt, he]; rfl
          refine Exists.elim (show ∃ v, v = newRt x e from ⟨_, rfl⟩) (fun v hv => ?_)
          refine AT.skip ?_
          refine AT.seq ?_
          refine AT.block ?_   -- block 2
          refine AT.seq ?_
          refine AT.region ?_   -- region 11 acl.go:139
          refine TrC.take rfl (step_indexAddrT (v := .agg [.i e.who, .b e.al, .i e.rt, .i e.rc, .b e.gv]) rfl rfl rfl sl22 (by omega) (by first | exact hget | simpa using hget) rfl rfl) ?_   -- 0
          refine TrC.take rfl (step_loadTN rfl rfl ty31 rfl rfl) ?_   -- 1
          refine TrC.take rfl (step_alloc rfl rfl ze31 rfl rfl rfl) ?_   -- 2
          refine TrC.take rfl (step_storeP rfl rfl rfl rfl rfl (.inl rfl) ty31 rfl rfl rfl) ?_   -- 3
          refine TrC.done ?_
          refine AT.seq ?_
          refine AT.region ?_   -- region 12 acl.go:140
          refine TrC.take rfl (step_loadPN rfl rfl rfl ty31 rfl rfl rfl) ?_   -- 0
          refine TrC.take rfl (step_call0 rfl rfl (C34 e) rfl) ?_   -- 1
          refine TrC.take rfl (step_alloc rfl rfl ze60 rfl rfl rfl) ?_   -- 2
          refine TrC.take rfl (step_storeP rfl rfl rfl rfl rfl (.inl rfl) ty60 rfl rfl rfl) ?_   -- 3
          refine TrC.done ?_
          refine AT.seq ?_
          refine AT.seq ?_
          refine AT.region ?_   -- region 13 acl.go:141
          refine TrC.take rfl (step_move rfl rfl rfl) ?_   -- 0
          refine TrC.take rfl (step_loadPN rfl rfl rfl ty60 rfl rfl rfl) ?_   -- 1
          refine TrC.take rfl (step_lookup (kv := vM (mk e)) rfl rfl rfl rfl rfl mp57 zv4 (keyAt (dn (dd (catE x) k)) (mk e)) rfl) ?_   -- 2
          refine TrC.spell 50 rfl (congrArg T.v ((look_gm _ _ _).trans (look_dn _ e))) ?_
          refine TrC.done ?_
          refine AT.cond rfl (fun h50 => ?_) (fun h50 => ?_)   -- t50
          · -- true
            have hold : hasM (dd (catE x) k) (catE x)[k] = true := by rw [← he]; exact h50
            refine AT.exit (Or.inl ⟨rfl, ?_⟩)   -- exit 2
            refine AT.region ?_   -- region 23 acl.go:139
            refine TrC.take rfl (step_addI rfl rfl rfl (by first | omega | (simp; done) | (simp; omega)) (by first | omega | (simp; done) | (simp; omega)) rfl) ?_   -- 0
            refine TrC.take rfl (step_move rfl rfl rfl) ?_   -- 1
            refine TrC.done ?_
            exact ⟨k + 1, ⟨hlt, fine_old hlt hold hfine⟩, by show (catE x).length - (k + 1) < (catE x).length - k; omega, Sat.wk [] (.cons (.h rfl) (.cons (.h rfl) (.cons (.h rfl) (.cons (.h rfl) (.cons (.h rfl) (.cons (.t (.refl _)) (.cons (.t (.refl _)) (.cons (.t (conv_i (by simp))) (.nil))))))))) (.cons rfl (.row (by rw [oD_old hlt hold])) (.cons rfl (.mp (by rw [dd_yes hlt hold]) (by rw [dd_yes hlt hold])) (.cons rfl (.mp rfl rfl) (.cons rfl (.mp rfl rfl) (.cons rfl (.mp rfl rfl) (.nil)))))) rfl rfl⟩
          · -- false
            have hnew : hasM (dd (catE x) k) (catE x)[k] = false := by rw [← he]; exact h50
            have hput : putV (gm (dn (dd (catE x) k))) ((dn (dd (catE x) k)).findIdx? (fun p => decide (p.1 = mk e))) (vM (mk e)) (.bool true) = gm (dn (dd (catE x) k ++ [e])) := by rw [put_gm, dn_new h50]
            refine AT.skip ?_
            refine AT.seq ?_
            refine AT.region ?_   -- region 14 acl.go:144
            refine TrC.take rfl (step_move rfl rfl rfl) ?_   -- 0
            refine TrC.take rfl (step_loadPN rfl rfl rfl ty60 rfl rfl rfl) ?_   -- 1
            refine TrC.take rfl (step_mapUpdate (kv := vM (mk e)) rfl rfl rfl rfl rfl rfl rfl mp57 (keyAt (dn (dd (catE x) k)) (mk e)) rfl) ?_   -- 2
            refine TrC.done ?_
            refine AT.seq ?_
            refine AT.block ?_   -- block 3
            refine AT.seq ?_
            refine AT.regionD mixed rfl ?_   -- region 16 acl.go:146
            refine TrC.take rfl (step_move rfl rfl rfl) ?_   -- 0
            refine TrC.take rfl (step_loadPN rfl rfl rfl ty60 rfl rfl rfl) ?_   -- 1
            refine TrC.take rfl (step_lookup (kv := vM (mk e)) rfl rfl rfl rfl rfl mp63 zv3 (keyAt (tbl x.mine) (mk e)) rfl) ?_   -- 2
            refine TrC.spell 56 rfl (congrArg T.v ((look_gm _ _ _).trans (look_tbl hvm.un e))) ?_
            refine TrC.take rfl (step_move rfl rfl rfl) ?_   -- 3
            refine TrC.take rfl (step_loadPN rfl rfl rfl ty60 rfl rfl rfl) ?_   -- 4
            refine TrC.take rfl (step_lookup (kv := vM (mk e)) rfl rfl rfl rfl rfl mp63 zv3 (keyAt (tbl x.base) (mk e)) rfl) ?_   -- 5
            refine TrC.spell 59 rfl (congrArg T.v ((look_gm _ _ _).trans (look_tbl hvb.un e))) ?_
            refine TrC.take rfl (step_bin rfl rfl rfl rfl rfl) ?_   -- 6
            refine TrC.take rfl (step_assign rfl rfl rfl) ?_   -- 7
            refine TrC.doneD rfl ?_
            refine AT.cond rfl (fun h53 => ?_) (fun h53 => ?_)   -- t53
            · -- true
              refine AT.region ?_   -- region 17 acl.go:147
              refine TrC.take rfl (step_move rfl rfl rfl) ?_   -- 0
              refine TrC.take rfl (step_loadPN rfl rfl rfl ty60 rfl rfl rfl) ?_   -- 1
              refine TrC.take rfl (step_lookup (kv := vM (mk e)) rfl rfl rfl rfl rfl mp63 zv3 (keyAt (tbl x.theirs) (mk e)) rfl) ?_   -- 2
              refine TrC.spell 63 rfl (congrArg T.v ((look_gm _ _ _).trans (look_tbl hvt.un e))) ?_
              refine TrC.take rfl (step_fieldAddrP rfl rfl fd31_2 rfl rfl) ?_   -- 3
              refine TrC.take rfl (step_storeP rfl rfl rfl rfl rfl (.inl rfl) ty3 rfl rfl rfl) ?_   -- 4
              refine TrC.done ?_
              refine AT.seq ?_
              have hcl : clash x e = false := by unfold clash; simp_all
              refine AT.wk (sl := [(8, .h 61), (9, .h 62), (10, .h 63), (11, .h 50), (12, .h 60), (40, .t (.slice 5 ((catE x).map encA))), (41, .t (.i (catE x).length)), (42, .t (.i k)), (14, .p 14 0)]) (ml := [(14, .box 31 [.t (.i e.who), .t (.b e.al), .t (.i v), .t (.i e.rc), .t (.b e.gv)]), (50, .row 31 5 ((oD x k).map encA)), (60, .mp (ents (putV (gm (dn (dd (catE x) k))) ((dn (dd (catE x) k)).findIdx? (fun p => decide (p.1 = mk e))) (vM (mk e)) (.bool true))) (putV (gm (dn (dd (catE x) k))) ((dn (dd (catE x) k)).findIdx? (fun p => decide (p.1 = mk e))) (vM (mk e)) (.bool true)).length), (61, .mp (ents (gm (tbl x.base))) (gm (tbl x.base)).length), (62, .mp (ents (gm (tbl x.mine))) (gm (tbl x.mine)).length), (63, .mp (ents (gm (tbl x.theirs))) (gm (tbl x.theirs)).length)]) [] (.cons (.h rfl) (.cons (.h rfl) (.cons (.h rfl) (.cons (.h rfl) (.cons (.h rfl) (.cons (.t (.refl _)) (.cons (.t (.refl _)) (.cons (.t (.refl _)) (.cons (.p rfl) (.nil)))))))))) (.cons rfl (.box (.cons (.t (.refl _)) (.cons (.t (.refl _)) (.cons (.t (conv_i (by rw [hv]; unfold newRt; first | (rw [if_pos (by simp_all)]; done) | (rw [if_neg (by simp_all)]; done)))) (.cons (.t (.refl _)) (.cons (.t (.refl _)) (.nil))))))) (.cons rfl (.row rfl) (.cons rfl (.mp rfl rfl) (.cons rfl (.mp rfl rfl) (.cons rfl (.mp rfl rfl) (.cons rfl (.mp rfl rfl) (.nil))))))) rfl rfl ?_
              refine AT.region ?_   -- region 21 acl.go:153
              refine TrC.take rfl (step_fieldAddrP rfl rfl fd31_2 rfl rfl) ?_   -- 0
              refine TrC.take rfl (step_loadP1 rfl rfl rfl ty3 rfl rfl) ?_   -- 1
              refine TrC.take rfl (step_bin rfl rfl rfl rfl rfl) ?_   -- 2
              refine TrC.done ?_
              refine AT.cond rfl (fun h86 => ?_) (fun h86 => ?_)   -- t86
              · -- true
                refine AT.region ?_   -- region 22 acl.go:154
                refine TrC.take rfl (step_move rfl rfl rfl) ?_   -- 0
                refine TrC.take rfl (step_loadPN rfl rfl rfl ty31 rfl rfl rfl) ?_   -- 1
                refine TrC.take rfl (step_buildSliceT rfl sl22 ze31 rfl rfl rfl rfl rfl rfl rfl rfl rfl rfl rfl rfl) ?_   -- 2
                refine TrC.take rfl (step_append rfl rfl rfl rfl rfl (.refl _) sl22 ze31 rfl rfl rfl (by first | (simp; done) | (simp; omega) | omega) rfl rfl) ?_   -- 3
                refine TrC.take rfl (step_assign rfl rfl rfl) ?_   -- 4
                refine TrC.done ?_
                refine AT.region ?_   -- region 23 acl.go:139
                refine TrC.take rfl (step_addI rfl rfl rfl (by first | omega | (simp; done) | (simp; omega)) (by first | omega | (simp; done) | (simp; omega)) rfl) ?_   -- 0
                refine TrC.take rfl (step_move rfl rfl rfl) ?_   -- 1
                refine TrC.done ?_
                exact ⟨k + 1, ⟨hlt, fine_new hlt hnew hfine (by rw [← he]; exact hcl)⟩, by show (catE x).length - (k + 1) < (catE x).length - k; omega, Sat.wk [(50, 90)] (.cons (.h (j := 61) rfl) (.cons (.h (j := 62) rfl) (.cons (.h (j := 63) rfl) (.cons (.h (j := 50) rfl) (.cons (.h (j := 60) rfl) (.cons (.t (.refl _)) (.cons (.t (.refl _)) (.cons (.t (conv_i (by simp))) (.nil))))))))) (.cons rfl (.row (by rw [oD_yes hlt hnew (by rw [← he, ← hv]; simpa using h86), ← he, ← hv]; simp [encA])) (.cons rfl (.mp (congrArg ents (by rw [hput, dd_no hlt hnew, ← he])) (congrArg List.length (by rw [hput, dd_no hlt hnew, ← he]))) (.cons rfl (.mp rfl rfl) (.cons rfl (.mp rfl rfl) (.cons rfl (.mp rfl rfl) (.nil)))))) rfl rfl⟩
              · -- false
                refine AT.skip ?_
                refine AT.region ?_   -- region 23 acl.go:139
                refine TrC.take rfl (step_addI rfl rfl rfl (by first | omega | (simp; done) | (simp; omega)) (by first | omega | (simp; done) | (simp; omega)) rfl) ?_   -- 0
                refine TrC.take rfl (step_move rfl rfl rfl) ?_   -- 1
                refine TrC.done ?_
                exact ⟨k + 1, ⟨hlt, fine_new hlt hnew hfine (by rw [← he]; exact hcl)⟩, by show (catE x).length - (k + 1) < (catE x).length - k; omega, Sat.wk [] (.cons (.h rfl) (.cons (.h rfl) (.cons (.h rfl) (.cons (.h rfl) (.cons (.h rfl) (.cons (.t (.refl _)) (.cons (.t (.refl _)) (.cons (.t (conv_i (by simp))) (.nil))))))))) (.cons rfl (.row (by rw [oD_no hlt hnew (by rw [← he, ← hv]; simpa using h86)])) (.cons rfl (.mp (congrArg ents (by rw [hput, dd_no hlt hnew, ← he])) (congrArg List.length (by rw [hput, dd_no hlt hnew, ← he]))) (.cons rfl (.mp rfl rfl) (.cons rfl (.mp rfl rfl) (.cons rfl (.mp rfl rfl) (.nil)))))) rfl rfl⟩
            · -- false
              refine AT.seq ?_
              refine AT.seq ?_
              refine AT.regionD mixed rfl ?_   -- region 18 acl.go:148
              refine TrC.take rfl (step_move rfl rfl rfl) ?_   -- 0
              refine TrC.take rfl (step_loadPN rfl rfl rfl ty60 rfl rfl rfl) ?_   -- 1
              refine TrC.take rfl (step_lookup (kv := vM (mk e)) rfl rfl rfl rfl rfl mp63 zv3 (keyAt (tbl x.theirs) (mk e)) rfl) ?_   -- 2
              refine TrC.spell 68 rfl (congrArg T.v ((look_gm _ _ _).trans (look_tbl hvt.un e))) ?_
              refine TrC.take rfl (step_move rfl rfl rfl) ?_   -- 3
              refine TrC.take rfl (step_loadPN rfl rfl rfl ty60 rfl rfl rfl) ?_   -- 4
              refine TrC.take rfl (step_lookup (kv := vM (mk e)) rfl rfl rfl rfl rfl mp63 zv3 (keyAt (tbl x.base) (mk e)) rfl) ?_   -- 5
              refine TrC.spell 71 rfl (congrArg T.v ((look_gm _ _ _).trans (look_tbl hvb.un e))) ?_
              refine TrC.take rfl (step_bin rfl rfl rfl rfl rfl) ?_   -- 6
              refine TrC.take rfl (step_assign rfl rfl rfl) ?_   -- 7
              refine TrC.doneD rfl ?_
              refine AT.cond rfl (fun h65 => ?_) (fun h65 => ?_)   -- t65
              · -- true
                refine AT.spell 65 rfl (congrArg (fun b => T.v (.bool b)) h65) ?_
                refine AT.skip ?_
                refine AT.condT rfl ?_   -- t65
                refine AT.region ?_   -- region 20 acl.go:149
                refine TrC.take rfl (step_move rfl rfl rfl) ?_   -- 0
                refine TrC.take rfl (step_loadPN rfl rfl rfl ty60 rfl rfl rfl) ?_   -- 1
                refine TrC.take rfl (step_lookup (kv := vM (mk e)) rfl rfl rfl rfl rfl mp63 zv3 (keyAt (tbl x.mine) (mk e)) rfl) ?_   -- 2
                refine TrC.spell 82 rfl (congrArg T.v ((look_gm _ _ _).trans (look_tbl hvm.un e))) ?_
                refine TrC.take rfl (step_fieldAddrP rfl rfl fd31_2 rfl rfl) ?_   -- 3
                refine TrC.take rfl (step_storeP rfl rfl rfl rfl rfl (.inl rfl) ty3 rfl rfl rfl) ?_   -- 4
                refine TrC.done ?_
                refine AT.seq ?_
                have hcl : clash x e = false := by unfold clash; simp_all
                refine AT.wk (sl := [(8, .h 61), (9, .h 62), (10, .h 63), (11, .h 50), (12, .h 60), (40, .t (.slice 5 ((catE x).map encA))), (41, .t (.i (catE x).length)), (42, .t (.i k)), (14, .p 14 0)]) (ml := [(14, .box 31 [.t (.i e.who), .t (.b e.al), .t (.i v), .t (.i e.rc), .t (.b e.gv)]), (50, .row 31 5 ((oD x k).map encA)), (60, .mp (ents (putV (gm (dn (dd (catE x) k))) ((dn (dd (catE x) k)).findIdx? (fun p => decide (p.1 = mk e))) (vM (mk e)) (.bool true))) (putV (gm (dn (dd (catE x) k))) ((dn (dd (catE x) k)).findIdx? (fun p => decide (p.1 = mk e))) (vM (mk e)) (.bool true)).length), (61, .mp (ents (gm (tbl x.base))) (gm (tbl x.base)).length), (62, .mp (ents (gm (tbl x.mine))) (gm (tbl x.mine)).length), (63, .mp (ents (gm (tbl x.theirs))) (gm (tbl x.theirs)).length)]) [] (.cons (.h rfl) (.cons (.h rfl) (.cons (.h rfl) (.cons (.h rfl) (.cons (.h rfl) (.cons (.t (.refl _)) (.cons (.t (.refl _)) (.cons (.t (.refl _)) (.cons (.p rfl) (.nil)))))))))) (.cons rfl (.box (.cons (.t (.refl _)) (.cons (.t (.refl _)) (.cons (.t (conv_i (by rw [hv]; unfold newRt; first | (rw [if_pos (by simp_all)]; done) | (rw [if_neg (by simp_all)]; done)))) (.cons (.t (.refl _)) (.cons (.t (.refl _)) (.nil))))))) (.cons rfl (.row rfl) (.cons rfl (.mp rfl rfl) (.cons rfl (.mp rfl rfl) (.cons rfl (.mp rfl rfl) (.cons rfl (.mp rfl rfl) (.nil))))))) rfl rfl ?_
                refine AT.region ?_   -- region 21 acl.go:153
                refine TrC.take rfl (step_fieldAddrP rfl rfl fd31_2 rfl rfl) ?_   -- 0
                refine TrC.take rfl (step_loadP1 rfl rfl rfl ty3 rfl rfl) ?_   -- 1
                refine TrC.take rfl (step_bin rfl rfl rfl rfl rfl) ?_   -- 2
                refine TrC.done ?_
                refine AT.cond rfl (fun h86 => ?_) (fun h86 => ?_)   -- t86
                · -- true
                  refine AT.region ?_   -- region 22 acl.go:154
                  refine TrC.take rfl (step_move rfl rfl rfl) ?_   -- 0
                  refine TrC.take rfl (step_loadPN rfl rfl rfl ty31 rfl rfl rfl) ?_   -- 1
                  refine TrC.take rfl (step_buildSliceT rfl sl22 ze31 rfl rfl rfl rfl rfl rfl rfl rfl rfl rfl rfl rfl) ?_   -- 2
                  refine TrC.take rfl (step_append rfl rfl rfl rfl rfl (.refl _) sl22 ze31 rfl rfl rfl (by first | (simp; done) | (simp; omega) | omega) rfl rfl) ?_   -- 3
                  refine TrC.take rfl (step_assign rfl rfl rfl) ?_   -- 4
                  refine TrC.done ?_
                  refine AT.region ?_   -- region 23 acl.go:139
                  refine TrC.take rfl (step_addI rfl rfl rfl (by first | omega | (simp; done) | (simp; omega)) (by first | omega | (simp; done) | (simp; omega)) rfl) ?_   -- 0
                  refine TrC.take rfl (step_move rfl rfl rfl) ?_   -- 1
                  refine TrC.done ?_
                  exact ⟨k + 1, ⟨hlt, fine_new hlt hnew hfine (by rw [← he]; exact hcl)⟩, by show (catE x).length - (k + 1) < (catE x).length - k; omega, Sat.wk [(50, 90)] (.cons (.h (j := 61) rfl) (.cons (.h (j := 62) rfl) (.cons (.h (j := 63) rfl) (.cons (.h (j := 50) rfl) (.cons (.h (j := 60) rfl) (.cons (.t (.refl _)) (.cons (.t (.refl _)) (.cons (.t (conv_i (by simp))) (.nil))))))))) (.cons rfl (.row (by rw [oD_yes hlt hnew (by rw [← he, ← hv]; simpa using h86), ← he, ← hv]; simp [encA])) (.cons rfl (.mp (congrArg ents (by rw [hput, dd_no hlt hnew, ← he])) (congrArg List.length (by rw [hput, dd_no hlt hnew, ← he]))) (.cons rfl (.mp rfl rfl) (.cons rfl (.mp rfl rfl) (.cons rfl (.mp rfl rfl) (.nil)))))) rfl rfl⟩
                · -- false
                  refine AT.skip ?_
                  refine AT.region ?_   -- region 23 acl.go:139
                  refine TrC.take rfl (step_addI rfl rfl rfl (by first | omega | (simp; done) | (simp; omega)) (by first | omega | (simp; done) | (simp; omega)) rfl) ?_   -- 0
                  refine TrC.take rfl (step_move rfl rfl rfl) ?_   -- 1
                  refine TrC.done ?_
                  exact ⟨k + 1, ⟨hlt, fine_new hlt hnew hfine (by rw [← he]; exact hcl)⟩, by show (catE x).length - (k + 1) < (catE x).length - k; omega, Sat.wk [] (.cons (.h rfl) (.cons (.h rfl) (.cons (.h rfl) (.cons (.h rfl) (.cons (.h rfl) (.cons (.t (.refl _)) (.cons (.t (.refl _)) (.cons (.t (conv_i (by simp))) (.nil))))))))) (.cons rfl (.row (by rw [oD_no hlt hnew (by rw [← he, ← hv]; simpa using h86)])) (.cons rfl (.mp (congrArg ents (by rw [hput, dd_no hlt hnew, ← he])) (congrArg List.length (by rw [hput, dd_no hlt hnew, ← he]))) (.cons rfl (.mp rfl rfl) (.cons rfl (.mp rfl rfl) (.cons rfl (.mp rfl rfl) (.nil)))))) rfl rfl⟩
              · -- false
                refine AT.spell 65 rfl (congrArg (fun b => T.v (.bool b)) h65) ?_
                refine AT.regionD mixed rfl ?_   -- region 19 acl.go:148
                refine TrC.take rfl (step_move rfl rfl rfl) ?_   -- 0
                refine TrC.take rfl (step_loadPN rfl rfl rfl ty60 rfl rfl rfl) ?_   -- 1
                refine TrC.take rfl (step_lookup (kv := vM (mk e)) rfl rfl rfl rfl rfl mp63 zv3 (keyAt (tbl x.mine) (mk e)) rfl) ?_   -- 2
                refine TrC.spell 75 rfl (congrArg T.v ((look_gm _ _ _).trans (look_tbl hvm.un e))) ?_
                refine TrC.take rfl (step_move rfl rfl rfl) ?_   -- 3
                refine TrC.take rfl (step_loadPN rfl rfl rfl ty60 rfl rfl rfl) ?_   -- 4
                refine TrC.take rfl (step_lookup (kv := vM (mk e)) rfl rfl rfl rfl rfl mp63 zv3 (keyAt (tbl x.theirs) (mk e)) rfl) ?_   -- 5
                refine TrC.spell 78 rfl (congrArg T.v ((look_gm _ _ _).trans (look_tbl hvt.un e))) ?_
                refine TrC.take rfl (step_bin rfl rfl rfl rfl rfl) ?_   -- 6
                refine TrC.take rfl (step_assign rfl rfl rfl) ?_   -- 7
                refine TrC.doneD rfl ?_
                refine AT.cond rfl (fun h65 => ?_) (fun h65 => ?_)   -- t65
                · -- true
                  refine AT.spell 65 rfl (congrArg (fun b => T.v (.bool b)) h65) ?_
                  refine AT.region ?_   -- region 20 acl.go:149
                  refine TrC.take rfl (step_move rfl rfl rfl) ?_   -- 0
                  refine TrC.take rfl (step_loadPN rfl rfl rfl ty60 rfl rfl rfl) ?_   -- 1
                  refine TrC.take rfl (step_lookup (kv := vM (mk e)) rfl rfl rfl rfl rfl mp63 zv3 (keyAt (tbl x.mine) (mk e)) rfl) ?_   -- 2
                  refine TrC.spell 82 rfl (congrArg T.v ((look_gm _ _ _).trans (look_tbl hvm.un e))) ?_
                  refine TrC.take rfl (step_fieldAddrP rfl rfl fd31_2 rfl rfl) ?_   -- 3
                  refine TrC.take rfl (step_storeP rfl rfl rfl rfl rfl (.inl rfl) ty3 rfl rfl rfl) ?_   -- 4
                  refine TrC.done ?_
                  refine AT.seq ?_
                  have hcl : clash x e = false := by unfold clash; simp_all
                  refine AT.wk (sl := [(8, .h 61), (9, .h 62), (10, .h 63), (11, .h 50), (12, .h 60), (40, .t (.slice 5 ((catE x).map encA))), (41, .t (.i (catE x).length)), (42, .t (.i k)), (14, .p 14 0)]) (ml := [(14, .box 31 [.t (.i e.who), .t (.b e.al), .t (.i v), .t (.i e.rc), .t (.b e.gv)]), (50, .row 31 5 ((oD x k).map encA)), (60, .mp (ents (putV (gm (dn (dd (catE x) k))) ((dn (dd (catE x) k)).findIdx? (fun p => decide (p.1 = mk e))) (vM (mk e)) (.bool true))) (putV (gm (dn (dd (catE x) k))) ((dn (dd (catE x) k)).findIdx? (fun p => decide (p.1 = mk e))) (vM (mk e)) (.bool true)).length), (61, .mp (ents (gm (tbl x.base))) (gm (tbl x.base)).length), (62, .mp (ents (gm (tbl x.mine))) (gm (tbl x.mine)).length), (63, .mp (ents (gm (tbl x.theirs))) (gm (tbl x.theirs)).length)]) [] (.cons (.h rfl) (.cons (.h rfl) (.cons (.h rfl) (.cons (.h rfl) (.cons (.h rfl) (.cons (.t (.refl _)) (.cons (.t (.refl _)) (.cons (.t (.refl _)) (.cons (.p rfl) (.nil)))))))))) (.cons rfl (.box (.cons (.t (.refl _)) (.cons (.t (.refl _)) (.cons (.t (conv_i (by rw [hv]; unfold newRt; first | (rw [if_pos (by simp_all)]; done) | (rw [if_neg (by simp_all)]; done)))) (.cons (.t (.refl _)) (.cons (.t (.refl _)) (.nil))))))) (.cons rfl (.row rfl) (.cons rfl (.mp rfl rfl) (.cons rfl (.mp rfl rfl) (.cons rfl (.mp rfl rfl) (.cons rfl (.mp rfl rfl) (.nil))))))) rfl rfl ?_
                  refine AT.region ?_   -- region 21 acl.go:153
                  refine TrC.take rfl (step_fieldAddrP rfl rfl fd31_2 rfl rfl) ?_   -- 0
                  refine TrC.take rfl (step_loadP1 rfl rfl rfl ty3 rfl rfl) ?_   -- 1
                  refine TrC.take rfl (step_bin rfl rfl rfl rfl rfl) ?_   -- 2
                  refine TrC.done ?_
                  refine AT.cond rfl (fun h86 => ?_) (fun h86 => ?_)   -- t86
                  · -- true
                    refine AT.region ?_   -- region 22 acl.go:154
                    refine TrC.take rfl (step_move rfl rfl rfl) ?_   -- 0
                    refine TrC.take rfl (step_loadPN rfl rfl rfl ty31 rfl rfl rfl) ?_   -- 1
                    refine TrC.take rfl (step_buildSliceT rfl sl22 ze31 rfl rfl rfl rfl rfl rfl rfl rfl rfl rfl rfl rfl) ?_   -- 2
                    refine TrC.take rfl (step_append rfl rfl rfl rfl rfl (.refl _) sl22 ze31 rfl rfl rfl (by first | (simp; done) | (simp; omega) | omega) rfl rfl) ?_   -- 3
                    refine TrC.take rfl (step_assign rfl rfl rfl) ?_   -- 4
                    refine TrC.done ?_
                    refine AT.region ?_   -- region 23 acl.go:139
                    refine TrC.take rfl (step_addI rfl rfl rfl (by first | omega | (simp; done) | (simp; omega)) (by first | omega | (simp; done) | (simp; omega)) rfl) ?_   -- 0
                    refine TrC.take rfl (step_move rfl rfl rfl) ?_   -- 1
                    refine TrC.done ?_
                    exact ⟨k + 1, ⟨hlt, fine_new hlt hnew hfine (by rw [← he]; exact hcl)⟩, by show (catE x).length - (k + 1) < (catE x).length - k; omega, Sat.wk [(50, 90)] (.cons (.h (j := 61) rfl) (.cons (.h (j := 62) rfl) (.cons (.h (j := 63) rfl) (.cons (.h (j := 50) rfl) (.cons (.h (j := 60) rfl) (.cons (.t (.refl _)) (.cons (.t (.refl _)) (.cons (.t (conv_i (by simp))) (.nil))))))))) (.cons rfl (.row (by rw [oD_yes hlt hnew (by rw [← he, ← hv]; simpa using h86), ← he, ← hv]; simp [encA])) (.cons rfl (.mp (congrArg ents (by rw [hput, dd_no hlt hnew, ← he])) (congrArg List.length (by rw [hput, dd_no hlt hnew, ← he]))) (.cons rfl (.mp rfl rfl) (.cons rfl (.mp rfl rfl) (.cons rfl (.mp rfl rfl) (.nil)))))) rfl rfl⟩
                  · -- false
                    refine AT.skip ?_
                    refine AT.region ?_   -- region 23 acl.go:139
                    refine TrC.take rfl (step_addI rfl rfl rfl (by first | omega | (simp; done) | (simp; omega)) (by first | omega | (simp; done) | (simp; omega)) rfl) ?_   -- 0
                    refine TrC.take rfl (step_move rfl rfl rfl) ?_   -- 1
                    refine TrC.done ?_
                    exact ⟨k + 1, ⟨hlt, fine_new hlt hnew hfine (by rw [← he]; exact hcl)⟩, by show (catE x).length - (k + 1) < (catE x).length - k; omega, Sat.wk [] (.cons (.h rfl) (.cons (.h rfl) (.cons (.h rfl) (.cons (.h rfl) (.cons (.h rfl) (.cons (.t (.refl _)) (.cons (.t (.refl _)) (.cons (.t (conv_i (by simp))) (.nil))))))))) (.cons rfl (.row (by rw [oD_no hlt hnew (by rw [← he, ← hv]; simpa using h86)])) (.cons rfl (.mp (congrArg ents (by rw [hput, dd_no hlt hnew, ← he])) (congrArg List.length (by rw [hput, dd_no hlt hnew, ← he]))) (.cons rfl (.mp rfl rfl) (.cons rfl (.mp rfl rfl) (.cons rfl (.mp rfl rfl) (.nil)))))) rfl rfl⟩
                · -- false
                  refine AT.spell 65 rfl (congrArg (fun b => T.v (.bool b)) h65) ?_
                  refine AT.seq ?_
                  have hs2 : mergeG x = ([], false) := clash_here hlt hnew (by rw [← he]; unfold clash; simp_all)
                  refine AT.region ?_   -- region 15 acl.go:151
                  refine TrC.take rfl (step_assignN (sz := 5) rfl rfl) ?_   -- 0
                  refine TrC.take rfl (step_assign rfl rfl rfl) ?_   -- 1
                  refine TrC.done ?_
                  refine AT.ret ?_
                  exact Ret.many (.cons (.tmp rfl (conv_eq (by first | (rw [hs]; done) | (rw [hs]; rfl) | (rw [hs, hs2]; done) | (rw [hs, hs2]; rfl) | (rw [hs, hs2]; simp [parted, own_eq, own_eq1])))) (.cons (.tmp rfl (conv_b (by first | (rw [hs]; done) | (rw [hs, hs2]; done)))) .nil)) rfl
        · -- false
          have hke : k = (catE x).length := by have h := h43; simp at h; omega
          have hall : ∀ a ∈ allE x, clash x a = false := by rw [← dd_all, ← hke]; exact hfine
          have hoe : oD x k = outE x := by rw [hke]; exact oD_end x
          refine AT.exit (Or.inl ⟨rfl, ?_⟩)   -- exit 1
          refine AT.seq ?_
          refine AT.seq ?_
          refine AT.region ?_   -- region 24 acl.go:157
          refine TrC.take rfl (step_move rfl rfl rfl) ?_   -- 0
          refine TrC.take rfl (step_lenH rfl rfl rfl sl22 rfl) ?_   -- 1
          refine TrC.take rfl (step_bin rfl rfl rfl rfl rfl) ?_   -- 2
          refine TrC.done ?_
          refine AT.cond rfl (fun h94 => ?_) (fun h94 => ?_)   -- t94
          · -- true
            have hs2 : mergeG x = ([], false) := g_big hall (by rw [← hoe]; have h := h94; simp at h; omega)
            refine AT.seq ?_
            refine AT.region ?_   -- region 25 acl.go:158
            refine TrC.take rfl (step_assignN (sz := 5) rfl rfl) ?_   -- 0
            refine TrC.take rfl (step_assign rfl rfl rfl) ?_   -- 1
            refine TrC.done ?_
            refine AT.ret ?_
            exact Ret.many (.cons (.tmp rfl (conv_eq (by first | (rw [hs]; done) | (rw [hs]; rfl) | (rw [hs, hs2]; done) | (rw [hs, hs2]; rfl) | (rw [hs, hs2]; simp [parted, own_eq, own_eq1])))) (.cons (.tmp rfl (conv_b (by first | (rw [hs]; done) | (rw [hs, hs2]; done)))) .nil)) rfl
          · -- false
            have hs2 : mergeG x = (parted (outE x), true) := g_ok hall (by rw [← hoe]; have h := h94; simp at h; omega)
            refine AT.skip ?_
            refine AT.seq ?_
            refine AT.wk (sl := [(11, .t (.slice 5 ((oD x k).map encA)))]) (ml := []) [] (.cons (.fr rfl rfl) (.nil)) (.nil) rfl rfl ?_
            refine AT.wk (sl := [(11, .t (.slice 5 ((outE x).map encA)))]) (ml := []) [] (.cons (.t (conv_eq (by rw [hoe]))) (.nil)) (.nil) rfl rfl ?_
            rw [hoe] at hol
            have hf1 := List.length_filter_le (fun a : Ace => !a.gv) (outE x)
            have hf2 := List.length_filter_le (fun a : Ace => !(!a.gv)) (outE x)
            refine AT.region ?_   -- region 26 acl.go:160
            refine TrC.take rfl (step_move rfl rfl rfl) ?_   -- 0
            refine TrC.take rfl (step_callH rfl rfl rfl (C39 (outE x) 40 [] (fun a => a.gv) (by omega) (fun a => C40 a)) (.cons (.refl _) (.cons (.fn _) .nil)) rfl rfl) ?_   -- 1
            refine TrC.take rfl (step_move rfl rfl rfl) ?_   -- 2
            refine TrC.take rfl (step_call rfl rfl (HasOwn.has (C39 (outE x) 52 [] (fun a => !a.gv) (by omega) (fun a => C52 a))) (.cons (.refl _) (.cons (.fn _) .nil)) rfl) ?_   -- 3
            refine TrC.take rfl (Step.toT (step_append rfl rfl rfl rfl rfl (.refl _) sl22 ze31 rfl rfl rfl (by simp only [List.length_map]; omega) rfl rfl) rfl) ?_   -- 4
            refine TrC.take rfl (step_assign rfl rfl rfl) ?_   -- 5
            refine TrC.take rfl (step_assign rfl rfl rfl) ?_   -- 6
            refine TrC.done ?_
            refine AT.ret ?_
            exact Ret.many (.cons (.tmp rfl (conv_eq (by first | (rw [hs]; done) | (rw [hs]; rfl) | (rw [hs, hs2]; done) | (rw [hs, hs2]; rfl) | (rw [hs, hs2]; simp [parted, own_eq, own_eq1])))) (.cons (.tmp rfl (conv_b (by first | (rw [hs]; done) | (rw [hs, hs2]; done)))) .nil)) rfl

end Go.Proofs.Ytgblfhobiibeaaa.Acl

/- Contracts of functions of this translation. Printed by wip/tools/gen.py out of wip/acl/ann.py. No condition. -/
set_option linter.unusedVariables false
set_option linter.unusedSimpArgs false
namespace Go.Proofs.Ytgblfhobiibeaaa.Acl
open Go.Proofs.Ytgblfhobiibeaaa.Abs
set_option maxRecDepth 100000
set_option maxHeartbeats 4000000
theorem C27 (x : Tri) (hvb : VL x.base) (hvm : VL x.mine) (hvt : VL x.theirs) : Has Try.prog 27 [.slice 5 (x.base.map encA), .slice 5 (x.mine.map encA), .slice 5 (x.theirs.map encA)] (encMg (merge x)) := by   -- burgage/burgagelaw02.merged
  have hbl := hvb.ln
  have hml := hvm.ln
  have htl := hvt.ln
  refine Has.intro 19 Try.func27 (by kernel_rfl) rfl rfl fun w ok => ?_
  refine AT.seq ?_
  refine AT.region ?_   -- region 0 law.go:11
  refine TrC.take rfl (step_allocC rfl rfl ze42 zc42 rfl rfl rfl) ?_   -- 0
  refine TrC.done ?_
  refine AT.seq ?_
  refine AT.region ?_   -- region 1 law.go:12
  refine TrC.take rfl (step_move rfl rfl rfl) ?_   -- 0
  refine TrC.take rfl (step_move rfl rfl rfl) ?_   -- 1
  refine TrC.take rfl (step_move rfl rfl rfl) ?_   -- 2
  refine TrC.take rfl (step_call0 rfl rfl (C45 x hvb hvm hvt) rfl) ?_   -- 3
  refine TrC.take rfl (step_move rfl rfl rfl) ?_   -- 4
  refine TrC.take rfl (step_extract rfl rfl rfl rfl) ?_   -- 5
  refine TrC.take rfl (step_extract rfl rfl rfl rfl) ?_   -- 6
  refine TrC.take rfl (step_assign rfl rfl rfl) ?_   -- 7
  refine TrC.take rfl (step_assign rfl rfl rfl) ?_   -- 8
  refine TrC.done ?_
  refine AT.seq ?_
  refine AT.region ?_   -- region 2 law.go:13
  refine TrC.take rfl (step_move rfl rfl rfl) ?_   -- 0
  refine TrC.take rfl (step_move rfl rfl rfl) ?_   -- 1
  refine TrC.take rfl (step_buildC rfl ze42 zc42 rfl pl42 rfl rfl rfl rfl) ?_   -- 2
  refine TrC.take rfl (step_storeP rfl rfl rfl rfl rfl (.inl rfl) ty42 rfl rfl rfl) ?_   -- 3
  refine TrC.done ?_
  refine AT.ret ?_
  exact Ret.one rfl (ResR.cellN rfl rfl ty42 rfl rfl (.refl _))

end Go.Proofs.Ytgblfhobiibeaaa.Acl
