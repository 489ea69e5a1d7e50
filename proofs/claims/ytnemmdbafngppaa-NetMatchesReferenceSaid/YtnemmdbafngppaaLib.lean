/- Contracts of functions of package slices, at this translation's types. Printed by wip/tools/lib.py. No condition. -/
import Derived.Test.YtnemmdbafngppaaTy
set_option linter.unusedVariables false
set_option linter.unusedSimpArgs false
namespace Go.Proofs.Ytnemmdbafngppaa.Net
open Go.Proofs.Ytnemmdbafngppaa.Abs
set_option maxRecDepth 100000
set_option maxHeartbeats 4000000
theorem C50 (l : List T) (hb : l.length * 24 ≤ 140737488355328) : HasOwn Try.prog 50 [.slice 3 l] 25 3 l := by
  by_cases h0 : 0 < l.length
  ·
    refine HasOwn.intro 8 Try.func50 (by kernel_rfl) rfl rfl fun w ok => ?_
    refine AT.seq ?_
    refine AT.region ?_
    refine TrC.take rfl (step_assignN (sz := 3) rfl rfl) ?_
    refine TrC.done ?_
    refine AT.seq ?_
    refine AT.seq ?_
    refine AT.region ?_
    refine TrC.take rfl (step_move rfl rfl rfl) ?_
    refine TrC.take rfl (step_eqNilF rfl rfl (.refl _) h0 rfl sl27 rfl) ?_
    refine TrC.done ?_
    refine AT.condF rfl ?_
    refine AT.skip ?_
    refine AT.seq ?_
    refine AT.region ?_
    refine TrC.take rfl (step_buildSliceH rfl rfl sl27 ze25 rfl rfl rfl rfl rfl rfl rfl rfl rfl rfl rfl rfl rfl) ?_
    refine TrC.take rfl (step_move rfl rfl rfl) ?_
    refine TrC.take rfl (step_append rfl rfl rfl rfl rfl (.refl _) sl27 ze25 rfl rfl rfl (by first | (simp; done) | (simp; omega)) rfl rfl) ?_
    refine TrC.take rfl (step_assign rfl rfl rfl) ?_
    refine TrC.done ?_
    refine AT.ret ?_
    exact ⟨2, 7, rfl, rfl, rfl⟩
  · have hl : l = [] := List.eq_nil_of_length_eq_zero (by omega)
    subst hl
    refine HasOwn.intro 8 Try.func50 (by kernel_rfl) rfl rfl fun w ok => ?_
    refine AT.seq ?_
    refine AT.region ?_
    refine TrC.take rfl (step_assignN (sz := 3) rfl rfl) ?_
    refine TrC.done ?_
    refine AT.seq ?_
    refine AT.seq ?_
    refine AT.region ?_
    refine TrC.take rfl (step_move rfl rfl rfl) ?_
    refine TrC.take rfl (step_eqNil rfl rfl (.refl _) sl27 rfl) ?_
    refine TrC.done ?_
    refine AT.condU rfl ?_ ?_
    · refine AT.seq ?_
      refine AT.region ?_
      refine TrC.take rfl (step_assignR (E := 25) (sz := 3) rfl rfl rfl rfl) ?_
      refine TrC.done ?_
      refine AT.ret ?_
      exact ⟨2, 2, rfl, rfl, rfl⟩
    ·
      refine AT.skip ?_
      refine AT.seq ?_
      refine AT.region ?_
      refine TrC.take rfl (step_buildSliceH rfl rfl sl27 ze25 rfl rfl rfl rfl rfl rfl rfl rfl rfl rfl rfl rfl rfl) ?_
      refine TrC.take rfl (step_move rfl rfl rfl) ?_
      refine TrC.take rfl (step_append rfl rfl rfl rfl rfl (.refl _) sl27 ze25 rfl rfl rfl (by first | (simp; done) | (simp; omega)) rfl rfl) ?_
      refine TrC.take rfl (step_assign rfl rfl rfl) ?_
      refine TrC.done ?_
      refine AT.ret ?_
      exact ⟨2, 7, rfl, rfl, rfl⟩
theorem C52 (l : List T) (hb : l.length * 16 ≤ 140737488355328) : HasOwn Try.prog 52 [.slice 2 l] 32 2 l := by
  by_cases h0 : 0 < l.length
  ·
    refine HasOwn.intro 8 Try.func52 (by kernel_rfl) rfl rfl fun w ok => ?_
    refine AT.seq ?_
    refine AT.region ?_
    refine TrC.take rfl (step_assignN (sz := 2) rfl rfl) ?_
    refine TrC.done ?_
    refine AT.seq ?_
    refine AT.seq ?_
    refine AT.region ?_
    refine TrC.take rfl (step_move rfl rfl rfl) ?_
    refine TrC.take rfl (step_eqNilF rfl rfl (.refl _) h0 rfl sl28 rfl) ?_
    refine TrC.done ?_
    refine AT.condF rfl ?_
    refine AT.skip ?_
    refine AT.seq ?_
    refine AT.region ?_
    refine TrC.take rfl (step_buildSliceH rfl rfl sl28 ze32 rfl rfl rfl rfl rfl rfl rfl rfl rfl rfl rfl rfl rfl) ?_
    refine TrC.take rfl (step_move rfl rfl rfl) ?_
    refine TrC.take rfl (step_append rfl rfl rfl rfl rfl (.refl _) sl28 ze32 rfl rfl rfl (by first | (simp; done) | (simp; omega)) rfl rfl) ?_
    refine TrC.take rfl (step_assign rfl rfl rfl) ?_
    refine TrC.done ?_
    refine AT.ret ?_
    exact ⟨2, 7, rfl, rfl, rfl⟩
  · have hl : l = [] := List.eq_nil_of_length_eq_zero (by omega)
    subst hl
    refine HasOwn.intro 8 Try.func52 (by kernel_rfl) rfl rfl fun w ok => ?_
    refine AT.seq ?_
    refine AT.region ?_
    refine TrC.take rfl (step_assignN (sz := 2) rfl rfl) ?_
    refine TrC.done ?_
    refine AT.seq ?_
    refine AT.seq ?_
    refine AT.region ?_
    refine TrC.take rfl (step_move rfl rfl rfl) ?_
    refine TrC.take rfl (step_eqNil rfl rfl (.refl _) sl28 rfl) ?_
    refine TrC.done ?_
    refine AT.condU rfl ?_ ?_
    · refine AT.seq ?_
      refine AT.region ?_
      refine TrC.take rfl (step_assignR (E := 32) (sz := 2) rfl rfl rfl rfl) ?_
      refine TrC.done ?_
      refine AT.ret ?_
      exact ⟨2, 2, rfl, rfl, rfl⟩
    ·
      refine AT.skip ?_
      refine AT.seq ?_
      refine AT.region ?_
      refine TrC.take rfl (step_buildSliceH rfl rfl sl28 ze32 rfl rfl rfl rfl rfl rfl rfl rfl rfl rfl rfl rfl rfl) ?_
      refine TrC.take rfl (step_move rfl rfl rfl) ?_
      refine TrC.take rfl (step_append rfl rfl rfl rfl rfl (.refl _) sl28 ze32 rfl rfl rfl (by first | (simp; done) | (simp; omega)) rfl rfl) ?_
      refine TrC.take rfl (step_assign rfl rfl rfl) ?_
      refine TrC.done ?_
      refine AT.ret ?_
      exact ⟨2, 7, rfl, rfl, rfl⟩
theorem C60 (l : List T) (g : FuncId) (caps : List T) (p : T → Bool) (hl : l.length ≤ 9223372036854775806) (he : ∀ x ∈ l, ∃ cs, x = .agg cs ∧ cs.length = 2) (hp : ∀ x ∈ l, Has Try.prog g ([x] ++ caps) (.b (p x))) :
    Has Try.prog 60 [.slice 2 l, .clo g caps] (.i (match l.findIdx? p with | some i => (i : Int) | none => -1)) := by
  refine Has.intro 19 Try.func60 (by kernel_rfl) rfl rfl fun w ok => ?_
  refine AT.seq ?_
  refine AT.region ?_
  refine TrC.take rfl (step_assign rfl rfl rfl) ?_
  refine TrC.done ?_
  refine AT.seq ?_
  refine AT.seq ?_
  refine AT.region ?_
  refine TrC.take rfl (step_move rfl rfl rfl) ?_
  refine TrC.take rfl (step_lenT (rt := 0) rfl rfl sl28 rfl) ?_
  refine TrC.take rfl (step_move rfl rfl rfl) ?_
  refine TrC.done ?_
  refine AT.block ?_
  refine AT.loopP (fun i : Nat => i ≤ l.length ∧ ∀ j (h : j < l.length), j < i → p l[j] = false) (fun i => mkS [(0, .t (.slice 2 l)), (1, .t (.clo g caps)), (7, .t (.i l.length)), (8, .t (.i i))] []) (fun i => l.length - i) 0 ⟨by omega, fun j h hj => by omega⟩
    (fun a w hs => Sat.wk [] (.cons (.t (.refl _)) (.cons (.t (.refl _)) (.cons (.t (.refl _)) (.cons (.t (.refl _)) .nil)))) .nil rfl rfl a w hs) (fun i hpi => ?_)
  obtain ⟨hi, hpre⟩ := hpi
  refine AT.seq ?_
  refine AT.region ?_
  refine TrC.take rfl (step_bin rfl rfl rfl rfl rfl) ?_
  refine TrC.done ?_
  refine AT.seq ?_
  refine AT.cond rfl (fun h9 => ?_) (fun h9 => ?_)
  · have hlt : i < l.length := by simpa using h9
    obtain ⟨cs, hcs, hcl⟩ := he l[i] (List.getElem_mem hlt)
    obtain ⟨a0, a1, rfl⟩ : ∃ a0 a1, cs = [a0, a1] := by
      match cs, hcl with | [xa0, xa1], _ => exact ⟨xa0, xa1, rfl⟩
    have hget : l[i]? = some (.agg [a0, a1]) := by rw [List.getElem?_eq_getElem hlt, hcs]
    have hpi := hp l[i] (List.getElem_mem hlt)
    rw [hcs] at hpi
    refine AT.skip ?_
    refine AT.seq ?_
    refine AT.block ?_
    refine AT.seq ?_
    refine AT.region ?_
    refine TrC.take rfl (step_move rfl rfl rfl) ?_
    refine TrC.take rfl (step_assign rfl rfl rfl) ?_
    refine TrC.done ?_
    refine AT.seq ?_
    refine AT.region ?_
    refine TrC.take rfl (step_move rfl rfl rfl) ?_
    refine TrC.take rfl (step_move rfl rfl rfl) ?_
    refine TrC.take rfl (step_move rfl rfl rfl) ?_
    refine TrC.take rfl (step_indexAddrT (v := .agg [a0, a1]) rfl rfl rfl sl28 (by omega) (by simpa using hget) rfl rfl) ?_
    refine TrC.take rfl (step_loadTN rfl rfl ty32 rfl rfl) ?_
    refine TrC.take rfl (step_callC rfl rfl (.refl _) rfl hpi (ConvL.refl _) rfl) ?_
    refine TrC.done ?_
    refine AT.cond rfl (fun h16 => ?_) (fun h16 => ?_)
    · have hfi : l.findIdx? p = some i := findIdx_found hlt (by rw [hcs]; exact h16) hpre
      refine AT.seq ?_
      refine AT.region ?_
      refine TrC.take rfl (step_move rfl rfl rfl) ?_
      refine TrC.take rfl (step_assign rfl rfl rfl) ?_
      refine TrC.done ?_
      refine AT.ret ?_
      exact Ret.one rfl (ResR.tmp rfl (conv_i (by rw [hfi])))
    · refine AT.skip ?_
      refine AT.region ?_
      refine TrC.take rfl (step_addI rfl rfl rfl (by omega) (by omega) rfl) ?_
      refine TrC.take rfl (step_move rfl rfl rfl) ?_
      refine TrC.done ?_
      exact ⟨i + 1, ⟨hlt, fun j hj hji => by
        by_cases he : j = i
        · subst he; rw [hcs]; exact h16
        · exact hpre j hj (by omega)⟩, by show l.length - (i + 1) < l.length - i; omega, Sat.wk [] (.cons (.t (.refl _)) (.cons (.t (.refl _)) (.cons (.t (.refl _)) (.cons (.t (conv_i (by simp))) .nil)))) .nil rfl rfl⟩
  · have hge : ¬ i < l.length := by simpa using h9
    have hfi : l.findIdx? p = none := findIdx_no fun j hj => hpre j hj (by omega)
    refine AT.exit (Or.inl ⟨rfl, ?_⟩)
    refine AT.seq ?_
    refine AT.region ?_
    refine TrC.take rfl (step_assign rfl rfl rfl) ?_
    refine TrC.done ?_
    refine AT.ret ?_
    exact Ret.one rfl (ResR.tmp rfl (conv_i (by rw [hfi])))
theorem C49 (l : List T) (a b : Nat) (hab : a < b) (hb : b ≤ l.length) : HasG Try.prog 49 [] [.h 100, .t (.i a), .t (.i b)] [(100, .row 25 3 l)] (.h 300) [(300, .row 25 3 (l.take a ++ l.drop b))] := by
  refine HasG.intro 33 Try.func49 (by kernel_rfl) rfl rfl rfl fun w0 ok0 keep av => ?_
  refine AT.openRow 0 100 101 25 3 rfl rfl (by omega) rfl fun cap hc1 hc2 => ?_
  refine AT.seq ?_
  refine AT.region ?_
  refine TrC.take rfl (step_assignN (sz := 3) rfl rfl) ?_
  refine TrC.done ?_
  refine AT.seq ?_
  refine AT.region ?_
  refine TrC.take rfl (step_move rfl rfl rfl) ?_
  refine TrC.take rfl (step_move rfl rfl rfl) ?_
  refine TrC.take rfl (step_move rfl rfl rfl) ?_
  refine TrC.take rfl (step_move rfl rfl rfl) ?_
  refine TrC.take rfl (step_lenS rfl rfl sl27 rfl) ?_
  refine TrC.take rfl (step_sliceS a b l.length rfl rfl (.some rfl (by first | omega | (simp; done) | (simp; omega))) (.some rfl (by first | omega | (simp; done) | (simp; omega))) (.some rfl (by first | omega | (simp; done) | (simp; omega))) (by first | exact fun _ => rfl | exact fun h => nomatch h) sl27 (by omega) (by omega) (by omega) rfl) ?_
  refine TrC.done ?_
  refine AT.seq ?_
  refine AT.seq ?_
  refine AT.region ?_
  refine TrC.take rfl (step_move rfl rfl rfl) ?_
  refine TrC.take rfl (step_move rfl rfl rfl) ?_
  refine TrC.take rfl (step_bin rfl rfl rfl rfl rfl) ?_
  refine TrC.done ?_
  refine AT.cond rfl (fun h => ?_) (fun h => ?_)
  · exfalso; simp at h; omega
  · refine AT.skip ?_
    refine AT.seq ?_
    refine AT.region ?_
    refine TrC.take rfl (step_move rfl rfl rfl) ?_
    refine TrC.take rfl (step_lenS rfl rfl sl27 rfl) ?_
    refine TrC.take rfl (step_assign rfl rfl rfl) ?_
    refine TrC.done ?_
    refine AT.seq ?_
    refine AT.regionD mixed rfl ?_
    refine TrC.take rfl (step_move rfl rfl rfl) ?_
    refine TrC.take rfl (step_move rfl rfl rfl) ?_
    refine TrC.take rfl (step_sliceS 0 a cap rfl rfl (.none _) (.some rfl (by first | omega | (simp; done) | (simp; omega))) (.none _) (by first | exact fun _ => rfl | exact fun h => nomatch h) sl27 (by omega) (by omega) (by omega) rfl) ?_
    refine TrC.take rfl (step_move rfl rfl rfl) ?_
    refine TrC.take rfl (step_move rfl rfl rfl) ?_
    refine TrC.take rfl (step_sliceS b l.length cap rfl rfl (.some rfl (by first | omega | (simp; done) | (simp; omega))) (.none _) (.none _) (by first | exact fun _ => rfl | exact fun h => nomatch h) sl27 (by omega) (by omega) (by omega) rfl) ?_
    refine TrC.take rfl (step_appendS (len := l.length - b) rfl rfl rfl (.s rfl (by omega) (by omega)) (by omega) (by omega) sl27 sl27 rfl) ?_
    refine TrC.take rfl (step_assign rfl rfl rfl) ?_
    refine TrC.doneD rfl ?_
    refine AT.seq ?_
    refine AT.region ?_
    refine TrC.take rfl (step_move rfl rfl rfl) ?_
    refine TrC.take rfl (step_move rfl rfl rfl) ?_
    refine TrC.take rfl (step_lenS rfl rfl sl27 rfl) ?_
    refine TrC.take rfl (step_move rfl rfl rfl) ?_
    refine TrC.take rfl (step_sliceS (a - 0 + (l.length - b)) l.length (cap - 0) rfl rfl (.some rfl (by first | omega | (simp; done) | (simp; omega))) (.some rfl (by first | omega | (simp; done) | (simp; omega))) (.none _) (by first | exact fun _ => rfl | exact fun h => nomatch h) sl27 (by omega) (by omega) (by omega) rfl) ?_
    refine TrC.take rfl (step_clearS rfl rfl rfl sl27 ze25 rfl rfl rfl rfl) ?_
    refine TrC.done ?_
    refine AT.seq ?_
    refine AT.region ?_
    refine TrC.take rfl (step_move rfl rfl rfl) ?_
    refine TrC.take rfl (step_assign rfl rfl rfl) ?_
    refine TrC.done ?_
    have hlen : (Abs.put l (0 + 0 + (a - 0)) ((l.drop (0 + b)).take (l.length - b))).length = l.length := put_len (by simp; omega)
    refine AT.closeRow 6 200 rfl rfl (by omega) (by rw [List.length_take, hlen]; omega) rfl ?_
    refine AT.ret ?_
    exact RetG.one [(300, 200)] rfl (.tmp rfl) (.h rfl) (.cons rfl (.row (delete_list (by omega) hb)) .nil) rfl rfl
theorem C51 (l : List T) (k : Nat) (x : T) (hk : k ≤ l.length) (hbig : (l.length + 1) * 16 ≤ 140737488355328) : HasG Try.prog 51 [] [.h 100, .t (.i k), .h 102] [(100, .row 32 2 l), (102, .row 32 2 [x])] (.h 300) [(300, .row 32 2 (l.take k ++ x :: l.drop k))] := by
  refine HasG.intro 95 Try.func51 (by kernel_rfl) rfl rfl rfl fun w0 ok0 keep av => ?_
  refine AT.seq ?_
  refine AT.region ?_
  refine TrC.take rfl (step_assignN (sz := 2) rfl rfl) ?_
  refine TrC.done ?_
  refine AT.seq ?_
  refine AT.region ?_
  refine TrC.take rfl (step_move rfl rfl rfl) ?_
  refine TrC.take rfl (step_move rfl rfl rfl) ?_
  refine TrC.take rfl (step_sliceHJ k l.length rfl rfl rfl (.some rfl (by omega)) (.none _) rfl sl28 (by omega) (by omega) rfl) ?_
  refine TrC.done ?_
  refine AT.seq ?_
  refine AT.region ?_
  refine TrC.take rfl (step_move rfl rfl rfl) ?_
  refine TrC.take rfl (step_lenH rfl rfl rfl sl28 rfl) ?_
  refine TrC.take rfl (step_assign rfl rfl rfl) ?_
  refine TrC.done ?_
  refine AT.seq ?_
  refine AT.seq ?_
  refine AT.region ?_
  refine TrC.take rfl (step_move rfl rfl rfl) ?_
  refine TrC.take rfl (step_bin rfl rfl rfl rfl rfl) ?_
  refine TrC.done ?_
  refine AT.cond rfl (fun h => ?_) (fun h => ?_)
  · exfalso; simp at h
  · refine AT.skip ?_
    refine AT.seq ?_
    refine AT.region ?_
    refine TrC.take rfl (step_move rfl rfl rfl) ?_
    refine TrC.take rfl (step_lenH rfl rfl rfl sl28 rfl) ?_
    refine TrC.take rfl (step_assign rfl rfl rfl) ?_
    refine TrC.done ?_
    refine AT.seq ?_
    refine AT.seq ?_
    refine AT.region ?_
    refine TrC.take rfl (step_move rfl rfl rfl) ?_
    refine TrC.take rfl (step_move rfl rfl rfl) ?_
    refine TrC.take rfl (step_bin rfl rfl rfl rfl rfl) ?_
    refine TrC.done ?_
    refine AT.cond rfl (fun h22 => ?_) (fun h22 => ?_)
    · have hkl : k = l.length := Int.ofNat_inj.1 (by simpa using h22)
      refine AT.seq ?_
      refine AT.wk [] (sl := [(0, .h 100), (2, .t (.slice 2 [x]))]) (ml := [(100, .row 32 2 l)]) (.cons (.h rfl) (.cons (.fr rfl rfl) .nil)) (.cons rfl (.row rfl) .nil) rfl rfl ?_
      refine AT.region ?_
      refine TrC.take rfl (step_move rfl rfl rfl) ?_
      refine TrC.take rfl (step_move rfl rfl rfl) ?_
      refine TrC.take rfl (step_append rfl rfl rfl rfl rfl (.refl _) sl28 ze32 rfl rfl rfl (by simp; omega) rfl rfl) ?_
      refine TrC.take rfl (step_assign rfl rfl rfl) ?_
      refine TrC.done ?_
      refine AT.ret ?_
      exact RetG.one [(300, 25)] rfl (.tmp rfl) (.h rfl) (.cons rfl (.row (by subst hkl; simp)) .nil) rfl rfl
    · have hkl : k < l.length := by
        have : ¬ (k : Int) = l.length := by simpa using h22
        omega
      refine AT.skip ?_
      refine AT.openRow 0 100 101 32 2 rfl rfl (by omega) rfl fun cap hc1 hc2 => ?_
      refine AT.seq ?_
      refine AT.seq ?_
      refine AT.region ?_
      refine TrC.take rfl (step_move rfl rfl rfl) ?_
      refine TrC.take rfl (step_move rfl rfl rfl) ?_
      refine TrC.take rfl (step_addI rfl rfl rfl (by omega) (by simp; omega) rfl) ?_
      refine TrC.take rfl (step_move rfl rfl rfl) ?_
      refine TrC.take rfl (step_capS rfl rfl sl28 rfl) ?_
      refine TrC.take rfl (step_bin rfl rfl rfl rfl rfl) ?_
      refine TrC.done ?_
      refine AT.cond rfl (fun h31 => ?_) (fun h31 => ?_)
      · have hcap : cap < l.length + 1 := by
          have : (cap : Int) < (l.length : Int) + 1 := by simpa using h31
          omega
        refine AT.seq ?_
        refine AT.region ?_
        refine TrC.take rfl (step_move rfl rfl rfl) ?_
        refine TrC.take rfl (step_move rfl rfl rfl) ?_
        refine TrC.take rfl (step_sliceS 0 k cap rfl rfl (.none _) (.some rfl (by first | omega | (simp; done) | (simp; omega))) (.none _) (by first | exact fun _ => rfl | exact fun h => nomatch h) sl28 (by omega) (by omega) (by omega) rfl) ?_
        refine TrC.take rfl (step_move rfl rfl rfl) ?_
        refine TrC.take rfl (step_move rfl rfl rfl) ?_
        refine TrC.take rfl (step_addI rfl rfl rfl (by omega) (by simp; omega) rfl) ?_
        refine TrC.take rfl (step_move rfl rfl rfl) ?_
        refine TrC.take rfl (step_subI rfl rfl rfl (by simp; omega) (by simp; omega) rfl) ?_
        refine TrC.take rfl (step_appendZ (cnt := l.length + 1 - k) (.agg [.i 0, .i 0]) rfl rfl rfl rfl (by omega) rfl (by simp; omega) (by omega) sl28 in3 ze32 rfl rfl rfl rfl rfl (by rw [show k - 0 + (l.length + 1 - k) = l.length + 1 from by omega]; exact hbig) rfl rfl) ?_
        refine TrC.take rfl (step_assign rfl rfl rfl) ?_
        refine TrC.done ?_
        have hl0 : (l.take (k - 0) ++ List.replicate (l.length + 1 - k) (T.agg [.i 0, .i 0])).length = l.length + 1 := by simp; omega
        have hl1 : (Abs.put (l.take (k - 0) ++ List.replicate (l.length + 1 - k) (T.agg [.i 0, .i 0])) (0 + k) ([x].take 1)).length = l.length + 1 := by rw [put_len, hl0]; rw [hl0]; simp; omega
        obtain ⟨L, hL⟩ : ∃ L, l.take (k - 0) ++ List.replicate (l.length + 1 - k) (T.agg [.i 0, .i 0]) = L := ⟨_, rfl⟩
        rw [hL] at hl0 hl1
        refine AT.openRow' 9 40 103 32 2 rfl rfl L (l.length + 1) hL hl0 (by omega) rfl fun cap2 hd1 hd2 => ?_
        refine AT.seq ?_
        refine AT.region ?_
        refine TrC.take rfl (step_move rfl rfl rfl) ?_
        refine TrC.take rfl (step_move rfl rfl rfl) ?_
        refine TrC.take rfl (step_sliceS k (l.length + 1) cap2 rfl rfl (.some rfl (by first | omega | (simp; done) | (simp; omega))) (.none _) (.none _) (by first | exact fun _ => rfl | exact fun h => nomatch h) sl28 (by omega) (by omega) (by omega) rfl) ?_
        refine TrC.take rfl (step_move rfl rfl rfl) ?_
        refine TrC.take rfl (step_copyS (m := 1) rfl rfl rfl (.h rfl (by simp)) (by simp; omega) (by omega) sl28 rfl) ?_
        refine TrC.done ?_
        refine AT.seq ?_
        refine AT.regionD mixed rfl ?_
        refine TrC.take rfl (step_move rfl rfl rfl) ?_
        refine TrC.take rfl (step_move rfl rfl rfl) ?_
        refine TrC.take rfl (step_move rfl rfl rfl) ?_
        refine TrC.take rfl (step_addI rfl rfl rfl (by omega) (by simp; omega) rfl) ?_
        refine TrC.take rfl (step_sliceS (k + 1) (l.length + 1) cap2 rfl rfl (.some rfl (by first | omega | (simp; done) | (simp; omega))) (.none _) (.none _) (by first | exact fun _ => rfl | exact fun h => nomatch h) sl28 (by omega) (by omega) (by omega) rfl) ?_
        refine TrC.take rfl (step_move rfl rfl rfl) ?_
        refine TrC.take rfl (step_move rfl rfl rfl) ?_
        refine TrC.take rfl (step_sliceS k l.length cap rfl rfl (.some rfl (by first | omega | (simp; done) | (simp; omega))) (.none _) (.none _) (by first | exact fun _ => rfl | exact fun h => nomatch h) sl28 (by omega) (by omega) (by omega) rfl) ?_
        refine TrC.take rfl (step_copyS (m := l.length - k) rfl rfl rfl (.s rfl (by omega) (by omega)) (by omega) (by rw [hl1]; omega) sl28 rfl) ?_
        refine TrC.doneD rfl ?_
        refine AT.seq ?_
        refine AT.region ?_
        refine TrC.take rfl (step_move rfl rfl rfl) ?_
        refine TrC.take rfl (step_assign rfl rfl rfl) ?_
        refine TrC.done ?_
        refine AT.closeRow 6 200 rfl rfl (by omega) (by rw [put_len] <;> rw [hl1] <;> simp <;> omega) rfl ?_
        refine AT.ret ?_
        exact RetG.one [(300, 200)] rfl (.tmp rfl) (.h rfl) (.cons rfl (.row (by subst hL; rw [← insert_list1 (ze := T.agg [.i 0, .i 0]) hkl]; congr 1; omega)) .nil) rfl rfl
      · have hcap : l.length + 1 ≤ cap := by
          have : ¬ (cap : Int) < (l.length : Int) + 1 := by simpa using h31
          omega
        refine AT.skip ?_
        refine AT.seq ?_
        refine AT.region ?_
        refine TrC.take rfl (step_move rfl rfl rfl) ?_
        refine TrC.take rfl (step_move rfl rfl rfl) ?_
        refine TrC.take rfl (step_move rfl rfl rfl) ?_
        refine TrC.take rfl (step_addI rfl rfl rfl (by omega) (by simp; omega) rfl) ?_
        refine TrC.take rfl (step_sliceS 0 (l.length + 1) cap rfl rfl (.none _) (.some rfl (by first | omega | (simp; done) | (simp; omega))) (.none _) (by first | exact fun _ => rfl | exact fun h => nomatch h) sl28 (by omega) (by omega) (by omega) rfl) ?_
        refine TrC.take rfl (step_assign rfl rfl rfl) ?_
        refine TrC.done ?_
        refine AT.seq ?_
        refine AT.seq ?_
        refine AT.region ?_
        refine TrC.take rfl (step_move rfl rfl rfl) ?_
        refine TrC.take rfl (step_move rfl rfl rfl) ?_
        refine TrC.take rfl (step_move rfl rfl rfl) ?_
        refine TrC.take rfl (step_move rfl rfl rfl) ?_
        refine TrC.take rfl (step_addI rfl rfl rfl (by omega) (by simp; omega) rfl) ?_
        refine TrC.take rfl (step_sliceS (k + 1) (l.length + 1 - 0) (cap - 0) rfl rfl (.some rfl (by first | omega | (simp; done) | (simp; omega))) (.none _) (.none _) (by first | exact fun _ => rfl | exact fun h => nomatch h) sl28 (by omega) (by omega) (by omega) rfl) ?_
        refine TrC.take rfl (step_overlaps (t := 28) (t' := 4) rfl Try.func58 (by kernel_rfl) (by kernel_rfl) (by kernel_rfl) (by kernel_rfl) rfl rfl (by simp) rfl rfl rfl (by omega) sl28 rfl rfl) ?_
        refine TrC.take rfl (step_not rfl rfl rfl) ?_
        refine TrC.done ?_
        refine AT.condT rfl ?_
        refine AT.seq ?_
        refine AT.regionD mixed rfl ?_
        refine TrC.take rfl (step_move rfl rfl rfl) ?_
        refine TrC.take rfl (step_move rfl rfl rfl) ?_
        refine TrC.take rfl (step_move rfl rfl rfl) ?_
        refine TrC.take rfl (step_addI rfl rfl rfl (by omega) (by simp; omega) rfl) ?_
        refine TrC.take rfl (step_sliceS (k + 1) (l.length + 1 - 0) (cap - 0) rfl rfl (.some rfl (by first | omega | (simp; done) | (simp; omega))) (.none _) (.none _) (by first | exact fun _ => rfl | exact fun h => nomatch h) sl28 (by omega) (by omega) (by omega) rfl) ?_
        refine TrC.take rfl (step_move rfl rfl rfl) ?_
        refine TrC.take rfl (step_move rfl rfl rfl) ?_
        refine TrC.take rfl (step_sliceS k (l.length + 1 - 0) (cap - 0) rfl rfl (.some rfl (by first | omega | (simp; done) | (simp; omega))) (.none _) (.none _) (by first | exact fun _ => rfl | exact fun h => nomatch h) sl28 (by omega) (by omega) (by omega) rfl) ?_
        refine TrC.take rfl (step_copyS (m := l.length - k) rfl rfl rfl (.s rfl (by omega) (by omega)) (by omega) (by omega) sl28 rfl) ?_
        refine TrC.doneD rfl ?_
        have hl1 : (Abs.put l (0 + 0 + (k + 1)) ((l.drop (0 + 0 + k)).take (l.length - k))).length = l.length + 1 := by simp [Abs.put]; omega
        refine AT.seq ?_
        refine AT.region ?_
        refine TrC.take rfl (step_move rfl rfl rfl) ?_
        refine TrC.take rfl (step_move rfl rfl rfl) ?_
        refine TrC.take rfl (step_sliceS k (l.length + 1 - 0) (cap - 0) rfl rfl (.some rfl (by first | omega | (simp; done) | (simp; omega))) (.none _) (.none _) (by first | exact fun _ => rfl | exact fun h => nomatch h) sl28 (by omega) (by omega) (by omega) rfl) ?_
        refine TrC.take rfl (step_move rfl rfl rfl) ?_
        refine TrC.take rfl (step_copyS (m := 1) rfl rfl rfl (.h rfl (by simp)) (by simp; omega) (by rw [hl1]; omega) sl28 rfl) ?_
        refine TrC.done ?_
        refine AT.seq ?_
        refine AT.region ?_
        refine TrC.take rfl (step_move rfl rfl rfl) ?_
        refine TrC.take rfl (step_assign rfl rfl rfl) ?_
        refine TrC.done ?_
        refine AT.closeRow 6 200 rfl rfl (by omega) (by rw [put_len] <;> rw [hl1] <;> simp <;> omega) rfl ?_
        refine AT.ret ?_
        exact RetG.one [(300, 200)] rfl (.tmp rfl) (.h rfl) (.cons rfl (.row (insert_list2 hkl)) .nil) rfl rfl
theorem C53 (l : List T) (g : FuncId) (caps : List T) (p : T → Bool) (hl : l.length ≤ 9223372036854775806) (he : ∀ x ∈ l, ∃ cs, x = .agg cs ∧ cs.length = 2) (hp : ∀ x ∈ l, Has Try.prog g ([x] ++ caps) (.b (p x))) :
    HasG Try.prog 53 [] [.h 100, .t (.clo g caps)] [(100, .row 32 2 l)] (.h 300) [(300, .row 32 2 (l.filter fun x => !p x))] := by
  refine HasG.intro 42 Try.func53 (by kernel_rfl) rfl rfl rfl fun w0 ok0 keep av => ?_
  refine AT.seq ?_
  refine AT.region ?_
  refine TrC.take rfl (step_assignN (sz := 2) rfl rfl) ?_
  refine TrC.done ?_
  refine AT.seq ?_
  refine AT.region ?_
  refine TrC.take rfl (step_move rfl rfl rfl) ?_
  refine TrC.take rfl (step_move rfl rfl rfl) ?_
  refine TrC.take rfl (step_callB rfl rfl (C60 l g caps p hl he hp) (ConvL.refl _) rfl) ?_
  refine TrC.take rfl (step_assign rfl rfl rfl) ?_
  refine TrC.done ?_
  refine AT.seq ?_
  refine AT.seq ?_
  refine AT.region ?_
  refine TrC.take rfl (step_move rfl rfl rfl) ?_
  refine TrC.take rfl (step_bin rfl rfl rfl rfl rfl) ?_
  refine TrC.done ?_
  refine AT.cond rfl (fun h12 => ?_) (fun h12 => ?_)
  · have hnone : l.findIdx? p = none := by
      cases hf : l.findIdx? p with
      | none => rfl
      | some i => exfalso; rw [hf] at h12; simp at h12 <;> omega
    refine AT.seq ?_
    refine AT.region ?_
    refine TrC.take rfl (step_move rfl rfl rfl) ?_
    refine TrC.take rfl (step_assign rfl rfl rfl) ?_
    refine TrC.done ?_
    refine AT.ret ?_
    exact RetG.one [(300, 100)] rfl (.tmp rfl) (.h rfl) (.cons rfl (.row (filter_of_none hnone).symm) .nil) rfl rfl
  · obtain ⟨k0, hk0⟩ : ∃ k0, l.findIdx? p = some k0 := by
      cases hf : l.findIdx? p with
      | none => rw [hf] at h12; simp at h12
      | some i => exact ⟨i, rfl⟩
    obtain ⟨hkl, hkp, hkb⟩ := List.findIdx?_eq_some_iff_getElem.1 hk0
    have hpre : l.take k0 = (l.take (k0 + 1)).filter (fun x => !p x) := del_start hk0
    refine AT.skip ?_
    refine AT.openRow 0 100 101 32 2 rfl rfl (by omega) rfl fun cap hc1 hc2 => ?_
    refine AT.spell 5 rfl (show T.v (.int .i64 (match l.findIdx? p with | some i => (i : Int) | none => -1)) = .v (.int .i64 k0) by rw [hk0]) ?_
    refine AT.seq ?_
    refine AT.seq ?_
    refine AT.region ?_
    refine TrC.take rfl (step_move rfl rfl rfl) ?_
    refine TrC.take rfl (step_addI rfl rfl rfl (by omega) (by omega) rfl) ?_
    refine TrC.take rfl (step_assign rfl rfl rfl) ?_
    refine TrC.done ?_
    refine AT.block ?_
    refine AT.loopP (fun ix : Nat × Nat × List T => DelInv p l ix.1 ix.2.1 ix.2.2) (fun (i, j, L) => mkS [(0, .s 101 2 0 l.length cap), (1, .t (.clo g caps)), (5, .t (.i i)), (6, .t (.i j))] [(101, .buf 32 2 cap L)]) (fun ix => l.length - ix.2.1) (k0, k0 + 1, l) ⟨Nat.lt_succ_self _, hkl, rfl, hpre, rfl⟩
      (fun a w hs => Sat.wk [] (.cons (.s rfl) (.cons (.t (.refl _)) (.cons (.t (.refl _)) (.cons (.t (conv_i (by simp))) .nil)))) (.cons rfl (.buf rfl) .nil) rfl rfl a w hs) (fun ix hix => ?_)
    obtain ⟨i, j, L⟩ := ix
    obtain ⟨hij, hjl, hL, hA, hD⟩ := hix
    simp only at hij hjl hL hA hD
    refine AT.seq ?_
    refine AT.seq ?_
    refine AT.region ?_
    refine TrC.take rfl (step_move rfl rfl rfl) ?_
    refine TrC.take rfl (step_move rfl rfl rfl) ?_
    refine TrC.take rfl (step_lenS rfl rfl sl28 rfl) ?_
    refine TrC.take rfl (step_bin rfl rfl rfl rfl rfl) ?_
    refine TrC.done ?_
    refine AT.cond rfl (fun h19 => ?_) (fun h19 => ?_)
    · have hlt : j < l.length := by simpa using h19
      obtain ⟨cs, hcs, hcl⟩ := he l[j] (List.getElem_mem hlt)
      obtain ⟨a0, a1, rfl⟩ : ∃ a0 a1, cs = [a0, a1] := by
        match cs, hcl with | [xa0, xa1], _ => exact ⟨xa0, xa1, rfl⟩
      have hget : L[j]? = some (.agg [a0, a1]) := by rw [← hcs]; exact del_get hD hlt
      have hpi := hp l[j] (List.getElem_mem hlt)
      rw [hcs] at hpi
      refine AT.skip ?_
      refine AT.seq ?_
      refine AT.block ?_
      refine AT.seq ?_
      refine AT.region ?_
      refine TrC.take rfl (step_move rfl rfl rfl) ?_
      refine TrC.take rfl (step_move rfl rfl rfl) ?_
      refine TrC.take rfl (step_indexAddrS j rfl rfl rfl rfl sl28 hlt rfl) ?_
      refine TrC.take rfl (step_loadBN (k := j) rfl rfl rfl (by rw [Nat.zero_add]) ty32 hget rfl) ?_
      refine TrC.take rfl (step_alloc rfl rfl ze32 rfl rfl rfl) ?_
      refine TrC.take rfl (step_storeP rfl rfl rfl rfl rfl (.inl rfl) ty32 rfl rfl rfl) ?_
      refine TrC.done ?_
      refine AT.seq ?_
      refine AT.region ?_
      refine TrC.take rfl (step_move rfl rfl rfl) ?_
      refine TrC.take rfl (step_loadPN rfl rfl rfl ty32 rfl rfl rfl) ?_
      refine TrC.take rfl (step_callC rfl rfl (.refl _) rfl hpi (ConvL.refl _) rfl) ?_
      refine TrC.take rfl (step_not rfl rfl rfl) ?_
      refine TrC.done ?_
      refine AT.cond rfl (fun h29 => ?_) (fun h29 => ?_)
      · have hpf : p l[j] = false := by rw [hcs]; simpa using h29
        refine AT.seq ?_
        refine AT.region ?_
        refine TrC.take rfl (step_move rfl rfl rfl) ?_
        refine TrC.take rfl (step_move rfl rfl rfl) ?_
        refine TrC.take rfl (step_loadPN rfl rfl rfl ty32 rfl rfl rfl) ?_
        refine TrC.take rfl (step_indexAddrS i rfl rfl rfl rfl sl28 (by omega) rfl) ?_
        refine TrC.take rfl (step_storeBN (k := i) rfl rfl rfl (by rw [Nat.zero_add]) (by omega) rfl ty32 rfl rfl) ?_
        refine TrC.done ?_
        refine AT.region ?_
        refine TrC.take rfl (step_move rfl rfl rfl) ?_
        refine TrC.take rfl (step_addI rfl rfl rfl (by omega) (by omega) rfl) ?_
        refine TrC.take rfl (step_assign rfl rfl rfl) ?_
        refine TrC.done ?_
        refine AT.region ?_
        refine TrC.take rfl (step_move rfl rfl rfl) ?_
        refine TrC.take rfl (step_addI rfl rfl rfl (by omega) (by omega) rfl) ?_
        refine TrC.take rfl (step_assign rfl rfl rfl) ?_
        refine TrC.done ?_
        exact ⟨(i + 1, j + 1, L.set i (.agg [a0, a1])), by rw [← hcs]; exact del_keep ⟨hij, hjl, hL, hA, hD⟩ hlt hpf, by show l.length - (j + 1) < l.length - j; omega,
          Sat.wk [] (.cons (.s rfl) (.cons (.t (.refl _)) (.cons (.t (conv_i (by simp))) (.cons (.t (conv_i (by simp))) .nil)))) (.cons rfl (.buf rfl) .nil) rfl rfl⟩
      · have hpt : p l[j] = true := by rw [hcs]; simpa using h29
        refine AT.skip ?_
        refine AT.region ?_
        refine TrC.take rfl (step_move rfl rfl rfl) ?_
        refine TrC.take rfl (step_addI rfl rfl rfl (by omega) (by omega) rfl) ?_
        refine TrC.take rfl (step_assign rfl rfl rfl) ?_
        refine TrC.done ?_
        exact ⟨(i, j + 1, L), del_drop ⟨hij, hjl, hL, hA, hD⟩ hlt hpt, by show l.length - (j + 1) < l.length - j; omega,
          Sat.wk [] (.cons (.s rfl) (.cons (.t (.refl _)) (.cons (.t (.refl _)) (.cons (.t (conv_i (by simp))) .nil)))) (.cons rfl (.buf rfl) .nil) rfl rfl⟩
    · have hge : ¬ j < l.length := by simpa using h19
      refine AT.exit (Or.inl ⟨rfl, ?_⟩)
      refine AT.seq ?_
      refine AT.region ?_
      refine TrC.take rfl (step_move rfl rfl rfl) ?_
      refine TrC.take rfl (step_move rfl rfl rfl) ?_
      refine TrC.take rfl (step_sliceS i l.length cap rfl rfl (.some rfl (by first | omega | (simp; done) | (simp; omega))) (.none _) (.none _) (by first | exact fun _ => rfl | exact fun h => nomatch h) sl28 (by omega) (by omega) (by omega) rfl) ?_
      refine TrC.take rfl (step_clearS rfl rfl rfl sl28 ze32 rfl rfl rfl rfl) ?_
      refine TrC.done ?_
      refine AT.seq ?_
      refine AT.region ?_
      refine TrC.take rfl (step_move rfl rfl rfl) ?_
      refine TrC.take rfl (step_move rfl rfl rfl) ?_
      refine TrC.take rfl (step_sliceS 0 i cap rfl rfl (.none _) (.some rfl (by first | omega | (simp; done) | (simp; omega))) (.none _) (by first | exact fun _ => rfl | exact fun h => nomatch h) sl28 (by omega) (by omega) (by omega) rfl) ?_
      refine TrC.take rfl (step_assign rfl rfl rfl) ?_
      refine TrC.done ?_
      refine AT.closeRow 4 200 rfl rfl (by omega) (by simp; omega) rfl ?_
      refine AT.ret ?_
      exact RetG.one [(300, 200)] rfl (.tmp rfl) (.h rfl) (.cons rfl (.row (del_end ⟨hij, hjl, hL, hA, hD⟩ hge)) .nil) rfl rfl
end Go.Proofs.Ytnemmdbafngppaa.Net
