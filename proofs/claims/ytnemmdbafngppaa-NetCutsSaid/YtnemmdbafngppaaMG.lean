/- Parts of this proof, one after the other; each says what it proves. No condition. -/
import Derived.Test.YtnemmdbafngppaaMF
/- Copies of one packet, and full nets; plain Lean. No condition. -/
set_option linter.unusedVariables false
set_option linter.unusedSimpArgs false
namespace Go.Proofs.Ytnemmdbafngppaa.Net

def cp (f t : Int) (k : Nat) : Pk := ⟨5 + k, f, t⟩
/-- A net with the copies i, .., c - 1. -/
def nD (f t : Int) (i c : Nat) : Net := ⟨((List.range c).drop i).map (cp f t), [], 5 + c⟩
theorem nD_get {f t : Int} {i c : Nat} {j : Nat} (h : j < (nD f t i c).fl.length) : (nD f t i c).fl[j] = cp f t (i + j) := by
  simp only [nD, List.getElem_map, List.getElem_drop, List.getElem_range]
theorem nD_len {f t : Int} {i c : Nat} : (nD f t i c).fl.length = c - i := by simp [nD]
theorem nD_vn {f t : Int} {i c : Nat} (hp : parts f t = true) (hc : c ≤ 100) : VN (nD f t i c) := by
  have hl : (nD f t i c).fl.length = c - i := nD_len
  refine ⟨by omega, by simp [nD], by show (1 : Int) ≤ 5 + c; omega, by show (5 : Int) + c ≤ _; omega, fun j h => ?_, fun j h => ?_, fun j q hj hq hjq => ?_, fun j h => by simp [nD] at h, fun j q h => by simp [nD] at h⟩
  · rw [nD_get h]
    show (1 : Int) ≤ 5 + ((i + j : Nat) : Int) ∧ (5 : Int) + ((i + j : Nat) : Int) < 5 + c
    omega
  · rw [nD_get h]; exact hp
  · rw [nD_get hj, nD_get hq]
    show (5 : Int) + ((i + j : Nat) : Int) < 5 + ((i + q : Nat) : Int)
    omega
theorem nD_send {f t : Int} (hp : parts f t = true) : send ⟨[], [], 5⟩ f t = ⟨nD f t 0 1, 5, 0⟩ := by
  unfold send
  rw [if_pos hp, if_neg (by simp)]
  rfl
theorem nD_double {f t : Int} {c : Nat} {q : Int} (hp : parts f t = true) (hc : c ≤ 90) (h0 : 0 ≤ q) (h1 : q < c) : double (nD f t 0 c) (5 + q) = ⟨nD f t 0 (c + 1), p0, 0⟩ := by
  obtain ⟨k, rfl⟩ := Int.eq_ofNat_of_zero_le h0
  have hk : k < (nD f t 0 c).fl.length := by rw [nD_len]; omega
  have hf := find_at (nD_vn (i := 0) hp (by omega)).sp hk
  have hg := nD_get hk
  rw [hg] at hf
  have hf : findIx (nD f t 0 c) (5 + (k : Int)) = some k := by rw [Nat.zero_add] at hf; exact hf
  unfold double
  rw [hf]
  simp only [getP hk, hg]
  show (⟨(send (nD f t 0 c) f t).n, p0, (send (nD f t 0 c) f t).e⟩ : Taken) = _
  have hs : send (nD f t 0 c) f t = ⟨nD f t 0 (c + 1), 5 + c, 0⟩ := by
    unfold send
    rw [if_pos hp, if_neg (by rw [nD_len]; show ¬ (200 ≤ c - 0 ∨ (1000000000 : Int) ≤ 5 + c); omega)]
    simp only [nD, List.drop_zero, List.range_succ, List.map_append, List.map_cons, List.map_nil, cp]
    simp
    omega
  rw [hs]
theorem nD_take {f t : Int} {i c : Nat} (hp : parts f t = true) (hc : c ≤ 100) (h : i < c) : take (nD f t i c) (5 + i) = ⟨nD f t (i + 1) c, ⟨5 + i, f, t⟩, 0⟩ := by
  have hk : 0 < (nD f t i c).fl.length := by rw [nD_len]; omega
  have hg := nD_get hk
  have ht := take_at (nD_vn hp hc).sp hk (reach_nil rfl _ _)
  rw [hg] at ht
  have e : without (nD f t i c) 0 = nD f t (i + 1) c := by
    unfold without nD
    simp [List.drop_drop, List.map_drop, Nat.add_comm]
  rw [e] at ht
  exact ht
theorem nD_end {f t : Int} {c : Nat} : (nD f t c c).fl = [] := by simp [nD]

/-- What an operation does to the number of packets. -/
def Cnt (N : Net) (R : Taken) (c : Int) : Prop := VN R.n ∧ ((R.e = 0 ∧ (R.n.fl.length : Int) = N.fl.length + c) ∨ (R.e ≠ 0 ∧ R.n = N))
theorem cnt_send {N : Net} (h : VN N) (a b : Int) : Cnt N ⟨(send N a b).n, p0, (send N a b).e⟩ 1 := by
  refine ⟨h.send a b, ?_⟩
  rcases send_cases N a b with ⟨h1, h2, _⟩ | ⟨h1, h2⟩
  · exact .inl ⟨h1, by simp [h2]⟩
  · exact .inr ⟨h1, h2⟩
theorem cnt_take {N : Net} (h : VN N) (a : Int) : Cnt N (take N a) (-1) := by
  refine ⟨h.take a, ?_⟩
  rcases take_cases N a with ⟨h1, k, hk, h2⟩ | ⟨h1, h2⟩
  · exact .inl ⟨h1, by rw [h2, without_len hk]; omega⟩
  · exact .inr ⟨h1, h2⟩
theorem cnt_lose {N : Net} (h : VN N) (a : Int) : Cnt N (lose N a) (-1) := by
  refine ⟨h.lose a, ?_⟩
  rcases lose_cases N a with ⟨h1, k, hk, h2⟩ | ⟨h1, h2⟩
  · exact .inl ⟨h1, by rw [h2, without_len hk]; omega⟩
  · exact .inr ⟨h1, h2⟩
theorem cnt_double {N : Net} (h : VN N) (a : Int) : Cnt N (double N a) 1 := by
  refine ⟨h.double a, ?_⟩
  rcases double_cases N a with ⟨h1, h2, _⟩ | ⟨h1, h2⟩
  · exact .inl ⟨h1, by rw [h2]; omega⟩
  · exact .inr ⟨h1, h2⟩
theorem cnt_sever {N : Net} (h : VN N) (a b : Int) : Cnt N (sever N a b) 0 := by
  refine ⟨h.sever a b, ?_⟩
  have hs := sever_cases N a b
  by_cases he : (sever N a b).e = 0
  · exact .inl ⟨he, by rw [hs.1]; omega⟩
  · exact .inr ⟨he, hs.2.2.1 he⟩
theorem cnt_heal {N : Net} (h : VN N) (a b : Int) : Cnt N (heal N a b) 0 := by
  refine ⟨h.heal a b, ?_⟩
  have hs := heal_cases N a b
  by_cases he : (heal N a b).e = 0
  · exact .inl ⟨he, by rw [hs.1]; omega⟩
  · exact .inr ⟨he, hs.2.2.1 he⟩
theorem cnt_done {N : Net} (h : VN N) (w a b : Int) (hw : w = 2 ∨ w = 3) : Cnt N (doneN N w a b) 0 := by
  rcases hw with rfl | rfl
  · have := cnt_sever h a b
    unfold Cnt doneN at *; simpa using this
  · have := cnt_heal h a b
    unfold Cnt doneN at *; simpa using this
end Go.Proofs.Ytnemmdbafngppaa.Net

/- Full nets, and nets in which parts are severed or healed; plain Lean. No condition. -/
set_option linter.unusedVariables false
set_option linter.unusedSimpArgs false
namespace Go.Proofs.Ytnemmdbafngppaa.Net

def fP (m : Int) (k : Nat) : Pk := ⟨1 + m + k, k, k + 1⟩
def fC (k : Nat) : Int × Int := (k, k + 5)
def fN (m : Int) (i : Nat) : Net := ⟨(List.range i).map (fP m), (List.range i).map fC, 1 + m + i⟩
theorem fN_len (m : Int) (i : Nat) : (fN m i).fl.length = i ∧ (fN m i).cuts.length = i := by simp [fN]
theorem fN_fl {m : Int} {i j : Nat} (h : j < (fN m i).fl.length) : (fN m i).fl[j] = fP m j := by simp [fN]
theorem fN_cuts {m : Int} {i j : Nat} (h : j < (fN m i).cuts.length) : (fN m i).cuts[j] = fC j := by simp [fN]
theorem fN_vn {m : Int} {i : Nat} (hm : 0 ≤ m ∧ m ≤ 255) (hi : i ≤ 200) : VN (fN m i) := by
  have hl := fN_len m i
  refine ⟨by omega, by omega, by show (1 : Int) ≤ 1 + m + i; omega, by show (1 : Int) + m + i ≤ _; omega, fun j h => ?_, fun j h => ?_, fun j q hj hq hjq => ?_, fun j h => ?_, fun j q hj hq hjq => ?_⟩
  · rw [fN_fl h]
    show (1 : Int) ≤ 1 + m + j ∧ (1 : Int) + m + j < 1 + m + i
    omega
  · rw [fN_fl h]
    show parts (j : Int) (j + 1) = true
    simp [parts, part]; omega
  · rw [fN_fl hj, fN_fl hq]
    show (1 : Int) + m + j < 1 + m + q
    omega
  · rw [fN_cuts h]
    show parts (j : Int) (j + 5) = true ∧ (j : Int) ≤ j + 5
    simp [parts, part]; omega
  · rw [fN_cuts hj, fN_cuts hq]
    show less ((j : Int), (j : Int) + 5) ((q : Int), (q : Int) + 5) = true
    simp [less]; omega
theorem send_np {n : Net} {a b : Int} (h : parts a b = false) : send n a b = ⟨n, 0, 1⟩ := by unfold send; rw [if_neg (by simp [h])]
theorem sever_np {n : Net} {a b : Int} (h : parts a b = false) : sever n a b = ⟨n, p0, 1⟩ := by unfold sever; rw [if_neg (by simp [h])]
theorem heal_np {n : Net} {a b : Int} (h : parts a b = false) : heal n a b = ⟨n, p0, 1⟩ := by unfold heal; rw [if_neg (by simp [h])]
theorem send_big {n : Net} {a b : Int} (h : parts a b = true) (hb : 200 ≤ n.fl.length ∨ 1000000000 ≤ n.next) : send n a b = ⟨n, 0, 2⟩ := by unfold send; rw [if_pos h, if_pos hb]
theorem send_one {a b : Int} (h : parts a b = true) : (send ⟨[], [], 1⟩ a b).e = 0 := by unfold send; rw [if_pos h, if_neg (by simp)]
theorem double_big {n : Net} (hv : VN n) (h0 : 0 < n.fl.length) (hb : 200 ≤ n.fl.length) : double n n.fl[0].id = ⟨n, p0, 2⟩ := by
  unfold double
  rw [find_at hv.sp h0]
  simp only [getP h0]
  rw [send_big (hv.pt 0 h0) (.inl hb)]
theorem sever_big {n : Net} {a b : Int} (h : parts a b = true) (hb : 200 ≤ n.cuts.length) : (sever n a b).n = n ∧ (decide ((sever n a b).e = 2) = reach n a b) := by
  unfold sever
  rw [if_pos h]
  cases hr : reach n a b with
  | true => rw [if_pos rfl, if_pos hb]; exact ⟨rfl, rfl⟩
  | false => rw [if_neg (by simp)]; exact ⟨rfl, rfl⟩
end Go.Proofs.Ytnemmdbafngppaa.Net

/- What passes between severed and healed parts; plain Lean. No condition. -/
set_option linter.unusedVariables false
set_option linter.unusedSimpArgs false
namespace Go.Proofs.Ytnemmdbafngppaa.Net

theorem send_small {n : Net} {a b : Int} (h : parts a b = true) (hl : n.fl.length < 200) (hn : n.next < 1000000000) : send n a b = ⟨⟨n.fl ++ [⟨n.next, a, b⟩], n.cuts, n.next + 1⟩, n.next, 0⟩ := by
  unfold send; rw [if_pos h, if_neg (by omega)]
theorem modk {q : Int} {n : Nat} (h0 : 0 ≤ q) (h : 0 < n) : ∃ k : Nat, k < n ∧ q % (n : Int) = k := by
  have h1 := Int.emod_nonneg q (show (n : Int) ≠ 0 by omega)
  have h2 := Int.emod_lt_of_pos q (show 0 < (n : Int) by omega)
  exact ⟨(q % (n : Int)).toNat, by omega, by omega⟩
theorem reach_sever {n : Net} (h : VN n) {a b : Int} (hp : parts a b = true) (hl : n.cuts.length < 200) (c d : Int) :
    (pr c d = pr a b → reach (sever n a b).n c d = false) ∧ (pr c d ≠ pr a b → reach (sever n a b).n c d = reach n c d) := by
  have hs := (sever_facts h hp hl).2.2.2.2.1
  constructor
  · intro e; rw [reach_not, hs]; exact .inr e
  · intro e; refine reach_eq ?_; rw [hs]; exact ⟨fun h => h.resolve_right e, .inl⟩
theorem reach_heal {n : Net} (h : VN n) {a b : Int} (hp : parts a b = true) (c d : Int) :
    (pr c d = pr a b → reach (heal n b a).n c d = true) ∧ (pr c d ≠ pr a b → reach (heal n b a).n c d = reach n c d) := by
  have hs := (heal_facts h (a := b) (b := a) (by rw [parts_comm]; exact hp)).2.2.2.2
  constructor
  · intro e; rw [reach_iff]; intro x hx he; rw [hs] at hx; exact hx.2 (by rw [he, e, pr_comm])
  · intro e; refine reach_eq ?_; rw [hs]; exact ⟨fun h => h.1, fun h => ⟨h, fun he => e (he.trans (pr_comm a b))⟩⟩
theorem take_char {n m : Net} (hs : SortP m) (hf : m.fl = n.fl) {i : Nat} (hi : i < n.fl.length) : take m n.fl[i].id = if reach m n.fl[i].fr n.fl[i].to then ⟨without m i, n.fl[i], 0⟩ else ⟨m, p0, 320⟩ := by
  have hi' : i < m.fl.length := by rw [hf]; exact hi
  have e : m.fl[i] = n.fl[i] := by simp only [hf]
  cases hr : reach m n.fl[i].fr n.fl[i].to with
  | true => rw [if_pos rfl]; have := take_at hs hi' (by rw [e]; exact hr); rw [e] at this; exact this
  | false => rw [if_neg (by simp)]; have := take_cut hs hi' (by rw [e]; exact hr); rw [e] at this; exact this
/-- What the law on cuts says of one packet. -/
theorem cut_packet {n : Net} (h : VN n) {a b : Int} (hp : parts a b = true) (hl : n.cuts.length < 200) {i : Nat} (hi : i < n.fl.length) :
    (pr n.fl[i].fr n.fl[i].to = pr a b → take (sever n a b).n n.fl[i].id = ⟨(sever n a b).n, p0, 320⟩ ∧ (take (heal n b a).n n.fl[i].id).e = 0 ∧ (take (heal n b a).n n.fl[i].id).p = n.fl[i]) ∧
    (pr n.fl[i].fr n.fl[i].to ≠ pr a b → (take (sever n a b).n n.fl[i].id).e = (take n n.fl[i].id).e ∧ (take (heal n b a).n n.fl[i].id).e = (take n n.fl[i].id).e) := by
  have hs := sever_facts h hp hl
  have hh := heal_facts h (a := b) (b := a) (by rw [parts_comm]; exact hp)
  have r1 := reach_sever h hp hl n.fl[i].fr n.fl[i].to
  have r2 := reach_heal h hp n.fl[i].fr n.fl[i].to
  have t0 := take_char (n := n) h.sp rfl hi
  have t1 := take_char (n := n) (h.sever a b).sp hs.2.2.1 hi
  have t2 := take_char (n := n) (h.heal b a).sp hh.2.2.1 hi
  constructor
  · intro e
    rw [t1, t2, r1.1 e, r2.1 e]
    simp
  · intro e
    rw [t1, t2, t0, r1.2 e, r2.2 e]
    cases reach n n.fl[i].fr n.fl[i].to <;> simp
end Go.Proofs.Ytnemmdbafngppaa.Net
