/- What an argument that a caller hands in reads as: from the kit's reading of arguments to tree values. No condition. -/
import Derived.Test.YtnemmdbafngppaaAbs22
import Derived.ChangeArms
import Derived.OpenShut
import Derived.DataReads
set_option linter.unusedVariables false
set_option linter.unusedSimpArgs false
namespace Go.Proofs.Ytnemmdbafngppaa.Abs
open Go.RowKit

/-- The parts of a struct or an array: where each begins, and its type. -/
def partsOf (P : Program) (t : TypeId) : Option (List (Nat × TypeId)) :=
  match P.underlying t with
  | some (.struct fs) => some (fs.toList.map fun f => (f.offset, f.type))
  | some (.array n e) => some ((List.range n).map fun i => (i * P.cellsOf e, e))
  | _ => none
inductive Fits (P : Program) : TypeId → List T → Prop
  | int {t : TypeId} {k : IntKind} {n : Int} (ht : P.underlying t = some (.int k)) (hw : (Lit.int k n).wf = true) : Fits P t [.v (.int k n)]
  | bool {t : TypeId} {b : Bool} (ht : P.underlying t = some .bool) : Fits P t [.v (.bool b)]
  | str {t : TypeId} {s : ByteArray} (ht : P.underlying t = some .string) (hs : s.size ≤ maxLen) : Fits P t [.v (.string s)]
  | slice {t e : TypeId} {xs : List T} (ht : P.underlying t = some (.slice e)) (hl : xs.length ≤ maxLen) (hx : ∀ x ∈ xs, Fits P e x.cells) (ha : ∀ x ∈ xs, (∃ l, x = .agg l) ↔ (partsOf P e).isSome = true) : Fits P t [.slice (P.cellsOf e) xs]
  | agg {t : TypeId} {pl : List (Nat × TypeId)} {ts : List T} (hp : partsOf P t = some pl) (hl : ts.length = P.cellsOf t) (h : ∀ p ∈ pl, Fits P p.2 ((ts.drop p.1).take (P.cellsOf p.2))) : Fits P t ts

def tiles (P : Program) : Nat → Nat → List (Nat × TypeId) → Bool
  | o, n, [] => Nat.beq o n
  | o, n, p :: r => Nat.beq p.1 o && tiles P (o + P.cellsOf p.2) n r
def okTy (P : Program) : Nat → TypeId → Bool
  | 0, _ => false
  | n + 1, t =>
    match P.underlying t with
    | some (.int _) => true
    | some .bool => true
    | some .string => true
    | some (.slice e) => okTy P n e
    | _ => match partsOf P t with
      | some pl => tiles P 0 (P.cellsOf t) pl && pl.all fun p => okTy P n p.2
      | none => false

def okW (w : World) (b : Nat) : Prop := b < w.heap.size
/-- A list of cells reads as a list of trees. -/
def ReadsL (w : World) (cs : List Value) (ts : List T) : Prop := cs.length = ts.length ∧ ∀ i (h1 : i < cs.length) (h2 : i < ts.length), Reads w (okW w) cs[i] ts[i] ∧ ts[i].one = true
theorem ReadsL.append {w : World} {a b : List Value} {x y : List T} (h1 : ReadsL w a x) (h2 : ReadsL w b y) : ReadsL w (a ++ b) (x ++ y) := by
  refine ⟨by simp [h1.1, h2.1], fun i h3 h4 => ?_⟩
  have hl := h1.1
  by_cases hi : i < a.length
  · rw [List.getElem_append_left hi, List.getElem_append_left (by omega)]; exact h1.2 i hi (by omega)
  · rw [List.getElem_append_right (by omega), List.getElem_append_right (by omega)]
    simp only [List.length_append] at h3 h4
    have := h2.2 (i - a.length) (by omega) (by omega)
    simp only [hl] at this ⊢
    exact this
theorem ReadsL.one {w : World} {v : Value} {t : T} (h : Reads w (okW w) v t) (ho : t.one = true) : ReadsL w [v] [t] := by
  refine ⟨rfl, fun i h1 h2 => ?_⟩
  have : i = 0 := by simp at h1; omega
  subst this; exact ⟨h, ho⟩

theorem tile_reads {P : Program} {w : World} {cs : List Value} : ∀ (pl : List (Nat × TypeId)) (o : Nat), tiles P o cs.length pl = true → o ≤ cs.length →
    (∀ p ∈ pl, ∃ ts, ReadsL w ((cs.drop p.1).take (P.cellsOf p.2)) ts ∧ Fits P p.2 ts) →
    ∃ ts, ReadsL w (cs.drop o) ts ∧ ∀ p ∈ pl, o ≤ p.1 ∧ Fits P p.2 ((ts.drop (p.1 - o)).take (P.cellsOf p.2))
  | [], o, ht, ho, _ => by
    have : o = cs.length := Nat.eq_of_beq_eq_true ht
    subst this
    exact ⟨[], ⟨by simp, fun i h => by simp at h⟩, fun p hp => by simp at hp⟩
  | p :: r, o, ht, ho, h => by
    simp only [tiles, Bool.and_eq_true] at ht
    obtain ⟨h1, h2⟩ := ht
    have h1 : p.1 = o := Nat.eq_of_beq_eq_true h1
    have hle : ∀ (pl : List (Nat × TypeId)) (o n : Nat), tiles P o n pl = true → o ≤ n := by
      intro pl
      induction pl with
      | nil => intro o n h; exact Nat.le_of_eq (Nat.eq_of_beq_eq_true h)
      | cons q r ih =>
        intro o n h
        simp only [tiles, Bool.and_eq_true] at h
        have := ih _ _ h.2
        omega
    have hon := hle _ _ _ h2
    obtain ⟨t1, r1, f1⟩ := h p (by simp)
    obtain ⟨t2, r2, f2⟩ := tile_reads r (o + P.cellsOf p.2) h2 hon fun q hq => h q (by simp [hq])
    have hl1 : t1.length = P.cellsOf p.2 := by rw [← r1.1]; simp; omega
    refine ⟨t1 ++ t2, ?_, fun q hq => ?_⟩
    · have e : cs.drop o = (cs.drop p.1).take (P.cellsOf p.2) ++ cs.drop (o + P.cellsOf p.2) := by
        rw [h1, ← List.drop_drop, List.take_append_drop]
      rw [e]
      exact r1.append r2
    · rcases List.mem_cons.1 hq with rfl | hq
      · refine ⟨by omega, ?_⟩
        rw [h1, Nat.sub_self, List.drop_zero, List.take_append_of_le_length (by omega), List.take_of_length_le (by omega)]
        exact f1
      · obtain ⟨g1, g2⟩ := f2 q hq
        refine ⟨by omega, ?_⟩
        rw [List.drop_append, List.drop_of_length_le (by omega), List.nil_append, show q.1 - o - t1.length = q.1 - (o + P.cellsOf p.2) by omega]
        exact g2

theorem trod_parts {H : Type} {enc : TypeId × Value → H} {P : Program} {w : World} {base fuel : Nat} {spare : Nat → Bool} {held : Bool} {t : TypeId} {cs : List Value} {x : DataW H × List MemPlace} {pl : List (Nat × TypeId)}
    (hp : partsOf P t = some pl) (h : DataW.trod enc P w base spare held fuel t cs = some x) : cs.length = P.cellsOf t ∧ ∃ m, ∀ p ∈ pl, ∃ y, DataW.trod enc P w base spare held m p.2 ((cs.drop p.1).take (P.cellsOf p.2)) = some y := by
  unfold partsOf at hp
  split at hp
  · rename_i fs hu
    injection hp with hp; subst hp
    obtain ⟨xs, n, _, _, hl, hx, hf⟩ := DataW.trod_struct hu h
    refine ⟨hl, n, fun p hp => ?_⟩
    simp only [List.mem_map] at hp
    obtain ⟨f, hf1, rfl⟩ := hp
    obtain ⟨i, hi, rfl⟩ := List.getElem_of_mem hf1
    have hi' : i < fs.size := by simpa using hi
    have := hf i fs[i] (by simp [hi'])
    refine ⟨xs[i]'(by omega), ?_⟩
    simp only [Array.getElem_toList]
    rw [this]; simp
  · rename_i n e hu
    injection hp with hp; subst hp
    obtain ⟨xs, m, _, _, hl, hx, hf⟩ := DataW.trod_array hu h
    refine ⟨hl, m, fun p hp => ?_⟩
    simp only [List.mem_map, List.mem_range] at hp
    obtain ⟨i, hi, rfl⟩ := hp
    refine ⟨xs[i]'(by omega), ?_⟩
    rw [hf i hi]; simp
  · cases hp

theorem trod_bool' {H : Type} {enc : TypeId × Value → H} {P : Program} {w : World} {base fuel : Nat} {spare : Nat → Bool} {held : Bool} {t : TypeId} {cs : List Value} {x : DataW H × List MemPlace}
    (ht : P.underlying t = some .bool) (h : DataW.trod enc P w base spare held fuel t cs = some x) : ∃ b, cs = [.bool b] := by
  cases fuel with
  | zero => simp [DataW.trod] at h
  | succ n =>
    unfold DataW.trod at h
    rw [ht] at h
    split at h <;> simp_all

theorem cell_lt {w : World} {a : Addr} {v : Value} (h : w.cell? a = some v) : a.block < w.heap.size := by
  unfold World.cell? at h
  cases hb : w.heap[a.block]? with
  | none => rw [hb] at h; simp at h
  | some o => exact (Array.getElem?_eq_some_iff.1 hb).1

theorem trod_reads {H : Type} {enc : TypeId × Value → H} {P : Program} {w : World} {base : Nat} {spare : Nat → Bool} {held : Bool} : ∀ (n : Nat) (t : TypeId), okTy P n t = true → ∀ (fuel : Nat) (cs : List Value) (x : DataW H × List MemPlace),
    DataW.trod enc P w base spare held fuel t cs = some x → ∃ ts, ReadsL w cs ts ∧ Fits P t ts := by
  intro n
  induction n with
  | zero => intro t h; cases h
  | succ n ih =>
    intro t hok fuel cs x h
    have hparts : ∀ pl, partsOf P t = some pl → (tiles P 0 (P.cellsOf t) pl && pl.all fun p => okTy P n p.2) = true → ∃ ts, ReadsL w cs ts ∧ Fits P t ts := by
      intro pl hp hok
      simp only [Bool.and_eq_true, List.all_eq_true] at hok
      obtain ⟨hl, m, hm⟩ := trod_parts hp h
      obtain ⟨ts, h1, h2⟩ := tile_reads (P := P) (w := w) (cs := cs) pl 0 (by rw [hl]; exact hok.1) (Nat.zero_le _) fun p hpm => by
        obtain ⟨y, hy⟩ := hm p hpm
        exact ih p.2 (hok.2 p hpm) m _ y hy
      rw [List.drop_zero] at h1
      refine ⟨ts, h1, .agg hp (by rw [← h1.1, hl]) fun p hpm => ?_⟩
      exact (h2 p hpm).2
    unfold okTy at hok
    split at hok
    · rename_i k hu
      obtain ⟨m, rfl, _, hw⟩ := DataW.trod_int hu h
      exact ⟨[.v (.int k m)], ReadsL.one (.v _) rfl, .int hu hw⟩
    · rename_i hu
      obtain ⟨b, rfl⟩ := trod_bool' hu h
      exact ⟨[.v (.bool b)], ReadsL.one (.v _) rfl, .bool hu⟩
    · rename_i hu
      obtain ⟨s, rfl, _, hs⟩ := DataW.trod_string hu h
      exact ⟨[.v (.string s)], ReadsL.one (.v _) rfl, .str hu hs⟩
    · rename_i e hu
      rcases DataW.trod_slice hu h with ⟨rfl, _⟩ | ⟨a, len, cap, elems, rest, m, _, rfl, _, hb, hl, hm, hlen, hel, _, _⟩
      · refine ⟨[.slice (P.cellsOf e) []], ReadsL.one ?_ rfl, .slice hu (Nat.zero_le _) (fun x hx => by simp at hx) (fun x hx => by simp at hx)⟩
        exact .slice (a := none) (cap := 0) (l := []) (fun _ => undef) (Nat.zero_le _) (Nat.zero_le _) (fun i h => by simp at h) (fun h => by simp at h) (fun i h => by simp at h)
      · have each : ∀ i, i < len → ∃ t : T, t.cells.length = P.cellsOf e ∧ Fits P e t.cells ∧ ((∃ l, t = .agg l) ↔ (partsOf P e).isSome = true) ∧
            ∀ j (hj : j < t.cells.length), ∃ v, w.cell? (a.add (i * P.cellsOf e + j)) = some v ∧ Reads w (okW w) v t.cells[j] ∧ t.cells[j].one = true := by
          intro i hi
          have h1 := hel i hi
          rw [List.getElem?_eq_getElem (by omega), Option.bind_eq_some_iff] at h1
          obtain ⟨cs', hcs, hy⟩ := h1
          obtain ⟨ts, ⟨r1, r2⟩, f1⟩ := ih e hok m cs' _ hy
          obtain ⟨_, hcl, hcell⟩ := World.cells?_some hcs
          have hcl2 : ts.length = P.cellsOf e := by omega
          have hread : ∀ j (hj : j < ts.length), ∃ v, w.cell? (a.add (i * P.cellsOf e + j)) = some v ∧ Reads w (okW w) v ts[j] ∧ ts[j].one = true := by
            intro j hj
            have h3 := hcell j (by omega)
            rw [Addr.add_add, List.getElem?_eq_getElem (by omega)] at h3
            exact ⟨_, h3, (r2 j (by omega) hj).1, (r2 j (by omega) hj).2⟩
          cases hp : partsOf P e with
          | some pl => exact ⟨.agg ts, hcl2, f1, ⟨fun _ => rfl, fun _ => ⟨ts, rfl⟩⟩, hread⟩
          | none =>
            have hone : ∃ t, ts = [t] := by
              cases f1 with
              | int => exact ⟨_, rfl⟩
              | bool => exact ⟨_, rfl⟩
              | str => exact ⟨_, rfl⟩
              | slice => exact ⟨_, rfl⟩
              | agg hp' => rw [hp] at hp'; cases hp'
            obtain ⟨t, rfl⟩ := hone
            have h1 : t.one = true := by have := (hread 0 (by simp)).choose_spec.2.2; simpa using this
            have ht : t.cells = [t] := by cases t <;> first | rfl | cases h1
            refine ⟨t, by rw [ht]; exact hcl2, by rw [ht]; exact f1, ⟨fun ⟨l, hl⟩ => (by subst hl; cases h1), fun h => (by simp at h)⟩, ?_⟩
            intro j hj
            have hj' : j < [t].length := by rw [← ht]; exact hj
            obtain ⟨v, g1, g2, g3⟩ := hread j hj'
            refine ⟨v, g1, ?_, ?_⟩
            · simp only [ht]; exact g2
            · simp only [ht]; exact g3
        obtain ⟨g, hg⟩ : ∃ g : Nat → T, ∀ i, i < len → (g i).cells.length = P.cellsOf e ∧ Fits P e (g i).cells ∧ ((∃ l, g i = .agg l) ↔ (partsOf P e).isSome = true) ∧
            ∀ j (hj : j < (g i).cells.length), ∃ v, w.cell? (a.add (i * P.cellsOf e + j)) = some v ∧ Reads w (okW w) v (g i).cells[j] ∧ (g i).cells[j].one = true := by
          refine ⟨fun i => if h : i < len then (each i h).choose else .v undef, fun i hi => ?_⟩
          simp only [hi, dif_pos]
          exact (each i hi).choose_spec
        have hgl : ((List.range len).map g).length = len := by simp
        refine ⟨[.slice (P.cellsOf e) ((List.range len).map g)], ReadsL.one ?_ rfl, .slice hu (by rw [hgl]; omega) (fun x hx => ?_) (fun x hx => ?_)⟩
        · have key := Reads.slice (w := w) (ok := okW w) (a := some a) (cap := cap) (sz := P.cellsOf e) (l := (List.range len).map g) (fun k => (w.cell? (a.add k)).getD undef) (by rw [hgl]; exact hl) hm
            (fun i hi => by simp only [List.getElem_map, List.getElem_range]; exact (hg i (by simpa using hi)).1) ?_ ?_
          · rw [hgl] at key; exact key
          · intro hpos
            rw [hgl] at hpos ⊢
            have hc0 : 0 < P.cellsOf e := Nat.pos_of_ne_zero (fun h0 => by rw [h0, Nat.mul_zero] at hpos; exact absurd hpos (Nat.lt_irrefl 0))
            have hall : ∀ k, k < len * P.cellsOf e → ∃ v, w.cell? (a.add k) = some v ∧ v.oneCell' = true := by
              intro k hk
              have hi : k / P.cellsOf e < len := Nat.div_lt_of_lt_mul (by rw [Nat.mul_comm]; exact hk)
              obtain ⟨h1, _, _, h4⟩ := hg _ hi
              obtain ⟨v, g1, g2, g3⟩ := h4 (k % P.cellsOf e) (by rw [h1]; exact Nat.mod_lt _ hc0)
              rw [Nat.mul_comm, Nat.div_add_mod] at g1
              exact ⟨v, g1, g2.one g3⟩
            refine ⟨a, rfl, ?_, fun k hk => ?_⟩
            · obtain ⟨v, h1, _⟩ := hall 0 hpos
              have := cell_lt h1
              rw [Addr.add_block] at this; exact this
            · obtain ⟨v, h1, h2⟩ := hall k hk
              simp only [h1, Option.getD_some]; exact ⟨trivial, h2⟩
          · intro i hi j hj
            have hi' : i < len := by simpa using hi
            simp only [List.getElem_map, List.getElem_range] at hj ⊢
            obtain ⟨v, g1, g2, _⟩ := (hg i hi').2.2.2 j hj
            simp only [g1, Option.getD_some]; exact g2
        · simp only [List.mem_map, List.mem_range] at hx
          obtain ⟨i, hi, rfl⟩ := hx
          exact (hg i hi).2.1
        · simp only [List.mem_map, List.mem_range] at hx
          obtain ⟨i, hi, rfl⟩ := hx
          exact (hg i hi).2.2.1
    · split at hok
      · rename_i pl hp; exact hparts pl hp hok
      · cases hok

/-- The tree of a whole value. -/
theorem Trod_reads {H : Type} {enc : TypeId × Value → H} {P : Program} {w : World} {base b0 : Nat} {spare : Nat → Bool} {held : Bool} {r : Reach} (n : Nat) {t : TypeId} (hok : okTy P n t = true) {v : Value} {d : DataW H} {ps : List MemPlace}
    (hv : Value.okWide P w r b0 t v) (h : DataW.Trod enc P w base spare held t v d ps) : ∃ x : T, Reads w (okW w) v x ∧ Fits P t x.cells ∧ ((∃ l, x = .agg l) ↔ (partsOf P t).isSome = true) := by
  obtain ⟨fuel, hf⟩ := h
  obtain ⟨ts, ⟨h1, h2⟩, hfit⟩ := trod_reads n t hok fuel _ _ hf
  cases hp : partsOf P t with
  | some pl =>
    have : ∃ cs, v = .agg cs := by
      unfold partsOf at hp
      unfold Value.okWide at hv
      split at hp
      · rename_i hu; rw [hu] at hv; obtain ⟨cs, hcs, _⟩ := hv; exact ⟨cs, hcs⟩
      · rename_i hu; rw [hu] at hv; obtain ⟨cs, hcs, _⟩ := hv; exact ⟨cs, hcs⟩
      · cases hp
    obtain ⟨cs, rfl⟩ := this
    simp only [Value.cells] at h1 h2
    refine ⟨.agg ts, .agg (by simpa using h1) (fun i h => ?_) (fun i h3 h4 => ?_), hfit, ⟨fun _ => rfl, fun _ => ⟨ts, rfl⟩⟩⟩
    · have := h2 i (by simpa using h) (by rw [← h1]; simpa using h)
      simpa using this.1.one this.2
    · have := (h2 i (by simpa using h3) h4).1
      simpa using this
  | none =>
    have hone : ∃ t, ts = [t] := by
      cases hfit with
      | int => exact ⟨_, rfl⟩
      | bool => exact ⟨_, rfl⟩
      | str => exact ⟨_, rfl⟩
      | slice => exact ⟨_, rfl⟩
      | agg hp' => rw [hp] at hp'; cases hp'
    obtain ⟨t', rfl⟩ := hone
    have hc : v.cells.toList.length = 1 := by rw [h1]; rfl
    obtain ⟨g1, g2⟩ := h2 0 (by omega) (by simp)
    simp only [List.getElem_cons_zero] at g1 g2
    have ht' : t'.cells = [t'] := by cases t' <;> first | rfl | cases g2
    have hvc : v.cells.toList[0] = v := by
      have hna : ∀ cs, v ≠ .agg cs := by
        rintro cs rfl
        unfold Value.okWide at hv
        unfold partsOf at hp
        split at hp
        · cases hp
        · cases hp
        · rename_i hn1 hn2
          split at hv
          · rename_i fs hu; exact hn1 _ hu
          · rename_i m e hu; exact hn2 _ _ hu
          · unfold Cell.okWide at hv
            cases hfit with
            | int ht => rw [ht] at hv; simp [Cell.ok, ht] at hv
            | bool ht => rw [ht] at hv; simp [Cell.ok, ht] at hv
            | str ht => rw [ht] at hv; simp [Cell.ok, ht] at hv
            | slice ht => rw [ht] at hv; simp [Cell.ok, ht] at hv
            | agg hp' => unfold partsOf at hp'; split at hp' <;> simp_all
      cases v <;> first | rfl | (exact absurd rfl (hna _))
    rw [hvc] at g1
    exact ⟨t', g1, by rw [ht']; exact hfit, ⟨fun ⟨l, hl⟩ => (by subst hl; cases g2), fun h => (by simp at h)⟩⟩

/-! ### What fits -/
theorem Fits.intD {P : Program} {t : TypeId} {k : IntKind} {ts : List T} (h : Fits P t ts) (ht : P.underlying t = some (.int k)) : ∃ n, ts = [.v (.int k n)] ∧ k.min ≤ n ∧ n ≤ k.max := by
  cases h with
  | @int _ k' n ht' hw =>
    rw [ht] at ht'; injection ht' with ht'; injection ht' with ht'; subst ht'
    simp only [Lit.wf, Bool.and_eq_true, decide_eq_true_eq] at hw
    exact ⟨n, rfl, hw.1, hw.2⟩
  | bool ht' => rw [ht] at ht'; cases ht'
  | str ht' => rw [ht] at ht'; cases ht'
  | slice ht' => rw [ht] at ht'; cases ht'
  | agg hp => unfold partsOf at hp; rw [ht] at hp; cases hp
theorem Fits.boolD {P : Program} {t : TypeId} {ts : List T} (h : Fits P t ts) (ht : P.underlying t = some .bool) : ∃ b, ts = [.v (.bool b)] := by
  cases h with
  | bool ht' => exact ⟨_, rfl⟩
  | int ht' => rw [ht] at ht'; cases ht'
  | str ht' => rw [ht] at ht'; cases ht'
  | slice ht' => rw [ht] at ht'; cases ht'
  | agg hp => unfold partsOf at hp; rw [ht] at hp; cases hp
theorem Fits.sliceD {P : Program} {t e : TypeId} {ts : List T} (h : Fits P t ts) (ht : P.underlying t = some (.slice e)) :
    ∃ xs, ts = [.slice (P.cellsOf e) xs] ∧ xs.length ≤ maxLen ∧ (∀ x ∈ xs, Fits P e x.cells) ∧ ∀ x ∈ xs, (∃ l, x = .agg l) ↔ (partsOf P e).isSome = true := by
  cases h with
  | @slice _ e' xs ht' hl hx ha =>
    rw [ht] at ht'; injection ht' with ht'; injection ht' with ht'; subst ht'
    exact ⟨xs, rfl, hl, hx, ha⟩
  | bool ht' => rw [ht] at ht'; cases ht'
  | str ht' => rw [ht] at ht'; cases ht'
  | int ht' => rw [ht] at ht'; cases ht'
  | agg hp => unfold partsOf at hp; rw [ht] at hp; cases hp
theorem Fits.aggD {P : Program} {t : TypeId} {ts : List T} {pl : List (Nat × TypeId)} (h : Fits P t ts) (hp : partsOf P t = some pl) :
    ts.length = P.cellsOf t ∧ ∀ p ∈ pl, Fits P p.2 ((ts.drop p.1).take (P.cellsOf p.2)) := by
  cases h with
  | agg hp' hl hx => rw [hp] at hp'; injection hp' with hp'; subst hp'; exact ⟨hl, hx⟩
  | bool ht' => unfold partsOf at hp; rw [ht'] at hp; cases hp
  | str ht' => unfold partsOf at hp; rw [ht'] at hp; cases hp
  | int ht' => unfold partsOf at hp; rw [ht'] at hp; cases hp
  | slice ht' => unfold partsOf at hp; rw [ht'] at hp; cases hp
/-- A list whose every element is the picture of something is a picture. -/
theorem list_map {α β : Type} {f : α → β} : ∀ {l : List β}, (∀ x ∈ l, ∃ a, x = f a) → ∃ m : List α, l = m.map f
  | [], _ => ⟨[], rfl⟩
  | x :: r, h => by
    obtain ⟨a, rfl⟩ := h x (by simp)
    obtain ⟨m, rfl⟩ := list_map (f := f) (l := r) fun y hy => h y (by simp [hy])
    exact ⟨a :: m, rfl⟩

theorem cell_single {x t : T} (h : x.cells = [t]) (hn : ¬ ∃ l, x = .agg l) : x = t := by
  cases x with
  | agg l => exact absurd ⟨l, rfl⟩ hn
  | _ => simpa [T.cells] using h
def intK (P : Program) (t : TypeId) (k : IntKind) : Bool :=
  match P.underlying t with
  | some (.int k') => k' == k
  | _ => false
theorem intK_spec {P : Program} {t : TypeId} {k : IntKind} (h : intK P t k = true) : P.underlying t = some (.int k) := by
  unfold intK at h
  split at h
  · rename_i k' hu; rw [hu, beq_iff_eq.1 h]
  · cases h
/-- Structs and arrays whose parts are all of one integer kind. -/
def flatB (P : Program) (t : TypeId) (k : IntKind) (n : Nat) : Bool :=
  match partsOf P t with
  | some pl => (pl.all fun p => intK P p.2 k && Nat.beq (P.cellsOf p.2) 1) && (pl.map (·.1) == List.range n) && Nat.beq (P.cellsOf t) n
  | none => false
theorem Fits.flat {P : Program} {t : TypeId} {k : IntKind} {n : Nat} {ts : List T} (h : Fits P t ts) (hb : flatB P t k n = true) :
    ∃ ns : List Int, ns.length = n ∧ ts = ns.map (fun m => T.v (.int k m)) ∧ ∀ m ∈ ns, k.min ≤ m ∧ m ≤ k.max := by
  unfold flatB at hb
  split at hb
  · rename_i pl hp
    simp only [Bool.and_eq_true, List.all_eq_true, beq_iff_eq] at hb
    obtain ⟨⟨h1, h2⟩, h3⟩ := hb
    have h3 := Nat.eq_of_beq_eq_true h3
    obtain ⟨hl, hx⟩ := h.aggD hp
    have each : ∀ x ∈ ts, ∃ m : {m : Int // k.min ≤ m ∧ m ≤ k.max}, x = T.v (.int k m.1) := by
      intro x hxm
      obtain ⟨i, hi, rfl⟩ := List.getElem_of_mem hxm
      have hi2 : i ∈ pl.map (·.1) := by rw [h2]; simp; omega
      obtain ⟨p, hpm, rfl⟩ := List.mem_map.1 hi2
      obtain ⟨g1, g2⟩ := h1 p hpm
      have g2 := Nat.eq_of_beq_eq_true g2
      have := hx p hpm
      rw [g2] at this
      obtain ⟨m, e, b⟩ := this.intD (intK_spec g1)
      rw [List.drop_eq_getElem_cons hi, List.take_succ_cons] at e
      injection e with e _
      exact ⟨⟨m, b⟩, e⟩
    obtain ⟨ms, rfl⟩ := list_map (f := fun m : {m : Int // k.min ≤ m ∧ m ≤ k.max} => T.v (.int k m.1)) each
    refine ⟨ms.map (·.1), by simpa using hl.trans h3, by simp, fun m hm => ?_⟩
    obtain ⟨q, _, rfl⟩ := List.mem_map.1 hm
    exact q.2
  · cases hb
/-- A whole value of a flat type. -/
theorem flatV {P : Program} {t : TypeId} {k : IntKind} {n : Nat} {x : T} (f : Fits P t x.cells) (a : (∃ l, x = .agg l) ↔ (partsOf P t).isSome = true) (hb : flatB P t k n = true) :
    ∃ ns : List Int, ns.length = n ∧ x = .agg (ns.map (fun m => T.v (.int k m))) ∧ ∀ m ∈ ns, k.min ≤ m ∧ m ≤ k.max := by
  have hs : (partsOf P t).isSome = true := by
    unfold flatB at hb
    split at hb
    · rename_i pl hp; rw [hp]; rfl
    · cases hb
  obtain ⟨l, rfl⟩ := a.2 hs
  obtain ⟨ns, h1, h2, h3⟩ := f.flat hb
  exact ⟨ns, h1, congrArg T.agg h2, h3⟩
theorem intV {P : Program} {t : TypeId} {k : IntKind} {x : T} (f : Fits P t x.cells) (a : (∃ l, x = .agg l) ↔ (partsOf P t).isSome = true) (ht : P.underlying t = some (.int k)) : ∃ n, x = .v (.int k n) ∧ k.min ≤ n ∧ n ≤ k.max := by
  obtain ⟨n, h1, h2⟩ := f.intD ht
  refine ⟨n, cell_single h1 fun h => ?_, h2⟩
  have := a.1 h
  unfold partsOf at this; rw [ht] at this; cases this
theorem boolV {P : Program} {t : TypeId} {x : T} (f : Fits P t x.cells) (a : (∃ l, x = .agg l) ↔ (partsOf P t).isSome = true) (ht : P.underlying t = some .bool) : ∃ b, x = .v (.bool b) := by
  obtain ⟨b, h1⟩ := f.boolD ht
  refine ⟨b, cell_single h1 fun h => ?_⟩
  have := a.1 h
  unfold partsOf at this; rw [ht] at this; cases this
theorem sliceV {P : Program} {t e : TypeId} {x : T} (f : Fits P t x.cells) (a : (∃ l, x = .agg l) ↔ (partsOf P t).isSome = true) (ht : P.underlying t = some (.slice e)) :
    ∃ xs, x = .slice (P.cellsOf e) xs ∧ xs.length ≤ maxLen ∧ (∀ x ∈ xs, Fits P e x.cells) ∧ ∀ x ∈ xs, (∃ l, x = .agg l) ↔ (partsOf P e).isSome = true := by
  obtain ⟨xs, h1, h2⟩ := f.sliceD ht
  refine ⟨xs, cell_single h1 fun h => ?_, h2⟩
  have := a.1 h
  unfold partsOf at this; rw [ht] at this; cases this
theorem list_two {α : Type} {l : List α} (h : l.length = 2) : ∃ a b, l = [a, b] := by
  match l, h with | [a, b], _ => exact ⟨a, b, rfl⟩
theorem list_three {α : Type} {l : List α} (h : l.length = 3) : ∃ a b c, l = [a, b, c] := by
  match l, h with | [a, b, c], _ => exact ⟨a, b, c, rfl⟩
theorem list_four {α : Type} {l : List α} (h : l.length = 4) : ∃ a b c d, l = [a, b, c, d] := by
  match l, h with | [a, b, c, d], _ => exact ⟨a, b, c, d, rfl⟩
end Go.Proofs.Ytnemmdbafngppaa.Abs
