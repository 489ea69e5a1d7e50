/- Abstract symbolic execution, part 14: contracts of functions that change what they are handed (rows, variables in memory). No condition. -/
import Derived.Test.YtnemmdbafngppaaAbs13
set_option linter.unusedVariables false
set_option linter.unusedSimpArgs false
namespace Go.Proofs.Ytnemmdbafngppaa.Abs
open Go.RowKit
variable {C : Ctx} {ops : Array Oper} {o : Oper} {S : AState}

def enumA : Nat → List AV → List (Nat × AV)
  | _, [] => []
  | k, x :: r => (k, x) :: enumA (k + 1) r
theorem lookA_enum : ∀ (l : List AV) (k x : Nat), lookA x (enumA k l) = (if k ≤ x then (l[x - k]?).getD .junk else .junk)
  | [], k, x => by simp [enumA, lookA]
  | y :: r, k, x => by
    simp only [enumA, lookA, lookA_enum r]
    cases hb : Nat.beq x k with
    | true => have := Nat.eq_of_beq_eq_true hb; subst this; simp
    | false =>
      have hne : x ≠ k := fun e => by subst e; rw [Nat.beq_refl] at hb; cases hb
      simp only [cond_false]
      by_cases h : k ≤ x
      · have h' : k + 1 ≤ x := by omega
        rw [if_pos h, if_pos h', show x - k = (x - (k + 1)) + 1 from by omega, List.getElem?_cons_succ]
      · rw [if_neg h, if_neg (by omega)]

/-- Handed values that are related to 'args', and the objects 'ml', the function returns what is related to 'res', and leaves the objects 'ml''. The variables 'anc' stay where they are. -/
def HasG (P : Program) (f : FuncId) (anc : List Nat) (args : List AV) (ml : List (Nat × AObj)) (res : AV) (ml' : List (Nat × AObj)) : Prop :=
  FnB P f ∧ ∀ (w0 : World) (ok0 : Nat → Prop) (keep : Nat → Option (Obj × Bool)) (av : Nat → Value) (vs : Array Value) (w : World), vs.size = args.length →
    Sat ⟨P, w0, ok0, args.length, keep, anc.map fun i => (i, av i)⟩ (mkS (enumA 0 args) ml) ⟨vs, []⟩ w →
    Calls P f vs w fun e w' => ∃ v, e = .returned v ∧ Sat ⟨P, w0, ok0, 1, keep, anc.map fun i => (i, av i)⟩ (mkS [(0, res)] ml') ⟨#[v], []⟩ w'

/-! ### From a body to a contract -/
theorem WkV.mem {S S' : AState} {ρ : List (Nat × Nat)} {ml : List (Nat × AObj)} {x y : AV} (hm : S'.mem = S.mem) (h : WkV S ρ ml x y) : WkV S' ρ ml x y := by
  induction h with
  | junk x => exact .junk x
  | t hc => exact .t hc
  | h hr => exact .h hr
  | p hr => exact .p hr
  | e hr => exact .e hr
  | s hr => exact .s hr
  | fr h1 h2 => exact .fr (by rw [hm]; exact h1) h2
  | fp h1 h2 h3 h4 => exact .fp (by rw [hm]; exact h1) h2 h3 h4
  | agg hl _ ih => exact .agg hl ih
  | aggT hl _ ih => exact .aggT hl ih
  | tup hl _ ih => exact .tup hl ih
theorem WkO.mem {S S' : AState} {ρ : List (Nat × Nat)} {ml : List (Nat × AObj)} {x y : AObj} (hm : S'.mem = S.mem) (h : WkO S ρ ml x y) : WkO S' ρ ml x y := by
  cases h with
  | row h => exact .row h
  | buf h => exact .buf h
  | box h =>
    refine .box ?_
    induction h with
    | nil => exact .nil
    | cons h _ ih => exact .cons (h.mem hm) ih
theorem WkM.mem {S S' : AState} {ρ : List (Nat × Nat)} {ml m : List (Nat × AObj)} (hm : S'.mem = S.mem) (h : WkM S ρ ml m) : WkM S' ρ ml m := by
  induction h with
  | nil => exact .nil
  | cons h1 h2 _ ih => exact .cons (by rw [hm]; exact h1) (h2.mem hm) ih
inductive ResG (C : Ctx) (S : AState) : ResultVar → AV → Prop
  | tmp {t : Tmp} {x : AV} (h : S.slot t = x) : ResG C S (.tmp t) x
  | cellN {t : Tmp} {ty i E n : Nat} {cells l : List AV} (h : S.slot t = .p i 0) (hm : S.mem i = some (.box E cells)) (ht : tyB C.P ty = some (true, n)) (hs : sub cells 0 n = some l) : ResG C S (.cell t ty) (.agg l)
  | cell1 {t : Tmp} {ty i E : Nat} {cells : List AV} {x : AV} (h : S.slot t = .p i 0) (hm : S.mem i = some (.box E cells)) (ht : tyB C.P ty = some (false, 1)) (hs : cells[0]? = some x) : ResG C S (.cell t ty) x
inductive ResGL (C : Ctx) (S : AState) : List ResultVar → List AV → Prop
  | nil : ResGL C S [] []
  | cons {r : ResultVar} {x : AV} {rs : List ResultVar} {xs : List AV} (h : ResG C S r x) (hl : ResGL C S rs xs) : ResGL C S (r :: rs) (x :: xs)
def RetG (C : Ctx) (fn : Func) (res : AV) (ml' : List (Nat × AObj)) (S : AState) : Prop := ∃ xs X ρ, ResGL C S fn.results.toList xs ∧ ((xs = [X]) ∨ ((xs.length == 1) = false ∧ X = .tup xs)) ∧
  WkV S ρ ml' X res ∧ WkM S ρ ml' ml' ∧ nodupB (ml'.map fun p => ren ρ p.1) = true ∧ ancB C ρ ml' = true
def RetGQ (C : Ctx) (fn : Func) (res : AV) (ml' : List (Nat × AObj)) : Exit → AState → Prop
  | .normal, S => RetG C fn res ml' S
  | .ret, S => RetG C fn res ml' S
  | _, _ => False
theorem RetG.one {fn : Func} {r : ResultVar} {x res : AV} {ml' : List (Nat × AObj)} (ρ : List (Nat × Nat)) (hf : fn.results.toList = [r]) (h : ResG C S r x) (hw : WkV S ρ ml' x res) (hm : WkM S ρ ml' ml') (hn : nodupB (ml'.map fun p => ren ρ p.1) = true) (ha : ancB C ρ ml' = true) :
    RetG C fn res ml' S := ⟨[x], x, ρ, by rw [hf]; exact .cons h .nil, .inl rfl, hw, hm, hn, ha⟩
theorem RetG.many {fn : Func} {xs : List AV} {res : AV} {ml' : List (Nat × AObj)} (ρ : List (Nat × Nat)) (h : ResGL C S fn.results.toList xs) (hl : (xs.length == 1) = false) (hw : WkV S ρ ml' (.tup xs) res) (hm : WkM S ρ ml' ml') (hn : nodupB (ml'.map fun p => ren ρ p.1) = true) (ha : ancB C ρ ml' = true) :
    RetG C fn res ml' S := ⟨xs, _, ρ, h, .inr ⟨hl, rfl⟩, hw, hm, hn, ha⟩

theorem ResG.run {β : Nat → Value} {a : Act} {w' : World} (h : SatB C β S a w') {r : ResultVar} {x : AV} (hr : ResG C S r x) :
    ∃ v, (rvSem a.tmps r).run C.P w' = .ok v w' ∧ VRel w' (okS C S β w') β v x ∧ ∀ i ∈ x.ids, S.used i = true := by
  cases hr with
  | @tmp t x h1 =>
    have := h.slot t
    rw [h1] at this
    exact ⟨_, by simp [rvSem], this, fun i hi => h.wfs t i (by rw [h1]; exact hi)⟩
  | @cellN t ty i E n cells l h1 hm ht hs =>
    have hv := h.slot t
    rw [h1] at hv
    obtain ⟨b, g0, g1⟩ := hv.pD
    obtain ⟨b', arr, k1, k2, k3, k4, k5⟩ := h.mem i _ hm
    rw [g0] at k1; injection k1 with k1; injection k1 with k1; injection k1 with k1; subst k1
    obtain ⟨s1, s2⟩ := sub_spec hs
    have hin : ∀ j (hj : j < l.length), ∃ hlt : 0 + j < cells.length, cells[0 + j] = l[j] := fun j hj => by
      have e := s2 j (by omega)
      rw [List.getElem?_eq_getElem hj] at e
      exact List.getElem?_eq_some_iff.1 e
    have hcell : ∀ j, j < n → w'.cell? ((⟨b, 0, none⟩ : Addr).add j) = some (arr.getD j undef) := fun j hj => by
      obtain ⟨hlt, e⟩ := hin j (by omega)
      have hlt' : j < arr.size := by omega
      rw [add_plain', Nat.zero_add, cell_of_block k3]
      simp [Array.getD, hlt']
    refine ⟨.agg ((List.range n).map fun j => arr.getD j undef).toArray, ?_, .agg (by simp [s1]) (fun j hj => ?_) (fun j j1 j2 => ?_), fun j hj => ?_⟩
    · simp [rvSem, g1, asAddr, run_loadVarN _ ht hcell]
    · have hj' : j < n := by simpa using hj
      obtain ⟨hlt, e⟩ := hin j (by omega)
      have hlt' : j < arr.size := by omega
      simpa [Array.getD, hlt'] using (k5 j hlt' (by omega)).2
    · obtain ⟨hlt, e⟩ := hin j j2
      have hlt' : j < arr.size := by omega
      have := (k5 j hlt' (by omega)).1
      simp only [Nat.zero_add] at e
      rw [e] at this
      simpa [Array.getD, hlt'] using this
    · simp only [AV.ids] at hj
      obtain ⟨y, hy, hjy⟩ := AV.of_mem_idsL hj
      obtain ⟨q, hq, rfl⟩ := List.getElem_of_mem hy
      obtain ⟨hlt, e⟩ := hin q hq
      exact (h.wfm i _ hm).2 j (AV.mem_idsL (by rw [← e]; exact List.getElem_mem hlt) hjy)
  | @cell1 t ty i E cells x h1 hm ht hs =>
    have hv := h.slot t
    rw [h1] at hv
    obtain ⟨b, g0, g1⟩ := hv.pD
    obtain ⟨b', arr, k1, k2, k3, k4, k5⟩ := h.mem i _ hm
    rw [g0] at k1; injection k1 with k1; injection k1 with k1; injection k1 with k1; subst k1
    obtain ⟨hlt, e⟩ := List.getElem?_eq_some_iff.1 hs
    have hlt' : 0 < arr.size := by omega
    have hc : w'.cell? ⟨b, 0, none⟩ = some arr[0] := by rw [cell_of_block k3]; exact Array.getElem?_eq_getElem _
    refine ⟨arr[0], by simp [rvSem, g1, asAddr, run_loadVar1 ht hc], by have := (k5 0 hlt' hlt).1; rwa [e] at this, fun j hj => (h.wfm i _ hm).2 j (AV.mem_idsL (by rw [← e]; exact List.getElem_mem hlt) hj)⟩
theorem ResGL.run {β : Nat → Value} {a : Act} {w' : World} (h : SatB C β S a w') {rs : List ResultVar} {xs : List AV} (hr : ResGL C S rs xs) :
    ∃ vs : List Value, (rs.mapM (rvSem a.tmps)).run C.P w' = .ok vs w' ∧ vs.length = xs.length ∧ (∀ i (h1 : i < vs.length) (h2 : i < xs.length), VRel w' (okS C S β w') β vs[i] xs[i]) ∧ ∀ i ∈ AV.idsL xs, S.used i = true := by
  induction hr with
  | nil => exact ⟨[], by simp, rfl, fun i h1 => by simp at h1, fun i hi => by simp [AV.idsL] at hi⟩
  | cons hx _ ih =>
    obtain ⟨v, e1, e2, e3⟩ := hx.run h
    obtain ⟨vs, f1, f2, f3, f4⟩ := ih
    refine ⟨v :: vs, by simp [e1, f1], by simp [f2], fun i h1 h2 => ?_, fun i hi => ?_⟩
    · cases i with
      | zero => exact e2
      | succ i => simpa using f3 i (by simpa using h1) (by simpa using h2)
    · simp only [AV.idsL, List.mem_append] at hi
      rcases hi with hi | hi
      · exact e3 i hi
      · exact f4 i hi

theorem sat_enum {P : Program} {w0 w : World} {ok0 : Nat → Prop} {keep : Nat → Option (Obj × Bool)} {anc : List (Nat × Value)} {args : List AV} {ml : List (Nat × AObj)} {vs : Array Value} {n m : Nat}
    (h : Sat ⟨P, w0, ok0, args.length, keep, anc⟩ (mkS (enumA 0 args) ml) ⟨vs, []⟩ w) (hl : vs.size = args.length) (hn : args.length + m = n) :
    Sat ⟨P, w0, ok0, n, keep, anc⟩ (mkS (enumA 0 args) ml) { tmps := vs ++ Array.replicate m undef, defers := [] } w := by
  obtain ⟨β, h⟩ := h
  refine ⟨β, by simp; omega, rfl, h.below, h.ok0, fun x => ?_, h.mem, h.apart, h.wfs, h.wfm, h.keep, h.anc⟩
  have hx := h.slot x
  by_cases hlt : x < args.length
  · have e : (vs ++ Array.replicate m undef).getD x undef = vs.getD x undef := by
      have h1 : x < vs.size := by omega
      have h2 : x < (vs ++ Array.replicate m undef).size := by simp; omega
      simp only [Array.getD, h1, h2, dif_pos]
      exact Array.getElem_append_left h1
    show VRel w _ β ((vs ++ Array.replicate m undef).getD x undef) _
    rw [e]; exact hx
  · have e : (mkS (enumA 0 args) ml).slot x = .junk := by
      show lookA x (enumA 0 args) = .junk
      rw [lookA_enum]
      simp [List.getElem?_eq_none (show args.length ≤ x by omega)]
    rw [e]; exact .junk _

theorem HasG.intro {P : Program} {f : FuncId} {fn : Func} {code : Code} {anc : List Nat} {args : List AV} {ml ml' : List (Nat × AObj)} {res : AV} (n : Nat) (hf : P.funcs[f]? = some fn) (hnm : (fn.name == "runtime.NumGoroutine") = false) (hb : fn.body = some code)
    (hn : args.length + (fn.ntmps - args.length) = n) (hpos : Nat.blt 0 n = true)
    (h : ∀ (w0 : World) (ok0 : Nat → Prop) (keep : Nat → Option (Obj × Bool)) (av : Nat → Value), AT ⟨P, w0, ok0, n, keep, anc.map fun i => (i, av i)⟩ code (RetGQ ⟨P, w0, ok0, n, keep, anc.map fun i => (i, av i)⟩ fn res ml') (mkS (enumA 0 args) ml)) :
    HasG P f anc args ml res ml' := by
  refine ⟨⟨fn, hf, hnm, by rw [hb]; rfl⟩, fun w0 ok0 keep av vs w hl hsat => ?_⟩
  refine calls_of_wp hf hb ?_
  have hs := sat_enum (m := fn.ntmps - args.length) hsat hl hn
  rw [hl]
  refine wp_mono (h w0 ok0 keep av _ _ hs) ?_
  rintro e a w' ⟨S', hq, ⟨β, hs'⟩⟩
  have key : RetG ⟨P, w0, ok0, n, keep, anc.map fun i => (i, av i)⟩ fn res ml' S' → a.defers = [] ∧ ∃ v, (results fn a.tmps).run P w' = .ok v w' ∧
      (∃ v', Ending.returned v = .returned v' ∧ Sat ⟨P, w0, ok0, 1, keep, anc.map fun i => (i, av i)⟩ (mkS [(0, res)] ml') ⟨#[v'], []⟩ w') := by
    rintro ⟨xs, X, ρ, hr, hX, hw, hm, hnd, ha⟩
    obtain ⟨vs', e1, e2, e3, e4⟩ := hr.run hs'
    obtain ⟨rl, hrl⟩ : ∃ rl, fn.results = rl := ⟨_, rfl⟩
    refine ⟨hs'.defers, ?_⟩
    have hrun : ∃ v, (results fn a.tmps).run P w' = .ok v w' ∧ VRel w' (okS ⟨P, w0, ok0, n, keep, anc.map fun i => (i, av i)⟩ S' β w') β v X ∧ ∀ i ∈ X.ids, S'.used i = true := by
      rw [results_eq]
      have hmm : (fn.results.mapM (rvSem a.tmps)).run P w' = .ok vs'.toArray w' := by
        have : fn.results = fn.results.toList.toArray := by simp
        rw [this, List.mapM_toArray]
        simp only [map_eq_pure_bind, Sem.run_bind]
        have e1' : (fn.results.toList.mapM (rvSem a.tmps)).run P w' = .ok vs' w' := e1
        simp [e1']
      simp only [Sem.run_bind, hmm, Result.andThen_ok, Sem.run_pure]
      rcases hX with hX | ⟨hX, rfl⟩
      · subst hX
        have hs1 : vs'.toArray.size = 1 := by simp [e2]
        rw [dif_pos hs1]
        refine ⟨_, rfl, ?_, fun i hi => e4 i (by simpa [AV.idsL] using hi)⟩
        have := e3 0 (by simp [e2]) (by simp)
        simpa using this
      · have hs1 : ¬ vs'.toArray.size = 1 := by simpa [e2] using hX
        rw [dif_neg hs1]
        refine ⟨_, rfl, .tup (by simpa using e2) fun i h1 h2 => by rw [List.getElem_toArray]; exact e3 i (by simpa using h1) h2, fun i hi => e4 i hi⟩
    obtain ⟨v, hv1, hv2, hv3⟩ := hrun
    refine ⟨v, hv1, v, rfl, ?_⟩
    have hpos' : 0 < n := by simpa [Nat.blt_eq] using hpos
    have hp := hs'.put (some 0) v X (fun _ _ _ => hv2) (fun x hx => .inl (by injection hx with hx; subst hx; exact hpos')) hv3
    have hwk := hp.wk ρ [(0, res)] ml' (.cons (by show WkV _ ρ ml' (putS (some 0) X S'.slot 0) res; rw [putS_same]; exact WkV.mem (S := S') rfl hw) .nil) (WkM.mem (S := S') rfl hm) hnd ha
    refine ⟨_, ⟨rfl, rfl, hwk.below, hwk.ok0, fun x => ?_, hwk.mem, hwk.apart, hwk.wfs, hwk.wfm, hwk.keep, hwk.anc⟩⟩
    have hx := hwk.slot x
    cases x with
    | zero =>
      rw [put_getD_same (by rw [hs'.size]; exact hpos')] at hx
      exact hx
    | succ x => exact .junk _
  cases e with
  | normal => exact key hq
  | ret => exact key hq
  | _ => exact hq.elim

end Go.Proofs.Ytnemmdbafngppaa.Abs
