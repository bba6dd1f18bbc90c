/- GYL2 GYL3 GYW1 GYW2 -/
import Derived.Test.YtildiiggamckaaaGreatDoorT41
import Derived.Test.YtildiiggamckaaaGreatDoorT26
set_option linter.all false
namespace Go.Ab
theorem Ru {n : Int} (h0 : 0 ≤ n) (h1 : n < 18446744073709551616) : IntKind.wrap .u64 n = n := by
 have e : IntKind.wrap .u64 n = n % 18446744073709551616 := by
  unfold IntKind.wrap;simp [IntKind.bits, IntKind.signed]
 rw [e]; omega
theorem Ve {i j : Nat} (h : i + j < 1000000000000) : Ar.wr .i64 (Ar.sh .shr .u64 (Ar.wr .u64 (Ar.ar .add .i64 (i : Int) (j : Int))) 1) = (((i + j) / 2 : Nat) : Int) := by
 rw [Ev (by omega) (by omega)]
 show IntKind.wrap .i64 (VP .shr .u64 (IntKind.wrap .u64 ((i : Int) + j)) 1) = _
 rw [Ru (by omega) (by omega)]
 have e : VP .shr .u64 ((i : Int) + j) 1 = ((i : Int) + j) / 2 := by
  show ((i : Int) + j).fdiv (2 ^ (min (1 : Int).toNat 64)) = _
  rw [show (2 : Int) ^ (min (1 : Int).toNat 64) = 2 from rfl, Int.fdiv_eq_ediv_of_nonneg _ (by decide)]
 rw [e, IH (by omega) (by omega)]; omega
def Rv (x : A2) (n : Int) : Int := if x.High < n then -1 else if n < x.Low then 1 else 0
theorem LW (N : Nat) (x : A2) (n : Int) : Q2 N x n = some (Rv x n) := by
 unfold Q2 Rv;simp only [E9, Z8, decide_eq_true_eq]
 repeat' split
 all_goals rfl
def InL (l : List A2) (n : Int) : Prop := ∃ x ∈ l, x.Low ≤ n ∧ n ≤ x.High
theorem Lu {l : List A2} (hs : Wg l) : ∀ (d i : Nat) x y, l[i]? = some x → l[i + d + 1]? = some y → x.High + 2 ≤ y.Low
 | 0, i, x, y, hx, hy => hs.2.2 i x y hx hy
 | d + 1, i, x, y, hx, hy => by
  have hlt : i + d + 1 < l.length := by
   rcases Nat.lt_or_ge (i + d + 1) l.length with h | h
   ·exact h
   rw [List.getElem?_eq_none (by omega)] at hy; cases hy
  have h1 := Lu hs d i x _ hx (List.getElem?_eq_getElem hlt);have h2 := hs.2.2 (i + d + 1) _ y (List.getElem?_eq_getElem hlt) hy;have h3 := hs.2.1 _ (List.getElem_mem hlt);omega
theorem Ur {N0 : Nat} {l : List A2} {n : Int} (hs : Wg l) : ∀ (k i j N : Nat), j - i ≤ k → i ≤ j → j ≤ l.length → k < N →
 (∀ m x, m < i → l[m]? = some x → x.High < n) → (∀ m x, j ≤ m → l[m]? = some x → n ≤ x.High) →
 ∃ r : Nat, r ≤ l.length ∧ (∀ m x, m < r → l[m]? = some x → x.High < n) ∧ (∀ m x, r ≤ m → l[m]? = some x → n ≤ x.High) ∧
  loopN (fun (s1 : Int × Int) => (
   if Ar.cmp .lss s1.1 s1.2 = true then
    (D0 l (Ar.wr .i64 (Ar.sh .shr .u64 (Ar.wr .u64 (Ar.ar .add .i64 s1.1 s1.2)) 1))).bind fun x3 =>
    (Q2 N0 x3 n).bind fun r4 =>
    if Ar.cmp .lss r4 0 = true then
     some (.inl (Ar.ar .add .i64 (Ar.wr .i64 (Ar.sh .shr .u64 (Ar.wr .u64 (Ar.ar .add .i64 s1.1 s1.2)) 1)) 1, s1.2))
    else
     some (.inl (s1.1, Ar.wr .i64 (Ar.sh .shr .u64 (Ar.wr .u64 (Ar.ar .add .i64 s1.1 s1.2)) 1)))
   else
    some (.inr s1.1) : Option ((Int × Int) ⊕ (Int)))) N ((i : Int), (j : Int)) = some (r : Int) := by
 intro k;have hl := hs.1
 induction k with
 | zero =>
  intro i j N hk hij hj hN h1 h2;obtain ⟨N, rfl⟩ : ∃ M, N = M + 1 := ⟨N - 1, by omega⟩;refine ⟨i, by omega, h1, fun m x hm hx => h2 m x (by omega) hx, ?_⟩;unfold loopN;simp only [E9, decide_eq_true_eq];rw [if_neg (by omega)]
 | succ k ih =>
  intro i j N hk hij hj hN h1 h2;obtain ⟨N, rfl⟩ : ∃ M, N = M + 1 := ⟨N - 1, by omega⟩
  by_cases hlt : i < j
  ·have hm : (i + j) / 2 < l.length := by omega
   have hx := List.getElem?_eq_getElem hm;have step := Ve (i := i) (j := j) (by omega)
   by_cases hc : l[(i + j) / 2].High < n
   ·obtain ⟨r, r1, r2, r3, r4⟩ := ih ((i + j) / 2 + 1) j N (by omega) (by omega) hj (by omega) (fun m x hm' hx' => by
     by_cases e : m = (i + j) / 2
     ·subst e; rw [hx] at hx'; cases hx'; exact hc
     have := Lu hs ((i + j) / 2 - m - 1) m x l[(i + j) / 2] hx' (by rw [← hx]; congr 1; omega);have := hs.2.1 _ (List.getElem_mem hm)
     omega) h2
    refine ⟨r, r1, r2, r3, ?_⟩;rw [← r4]
    conv => lhs; unfold loopN
    simp only [E9, decide_eq_true_eq, step, M0, hx, Option.bind_some, LW];rw [if_pos (by omega), if_pos (by unfold Rv; rw [if_pos hc]; decide)];simp only [W7 hm (by omega)]
   obtain ⟨r, r1, r2, r3, r4⟩ := ih i ((i + j) / 2) N (by omega) (by omega) (by omega) (by omega) h1 (fun m x hm' hx' => by
    by_cases e : m = (i + j) / 2
    ·subst e; rw [hx] at hx'; cases hx'; omega
    have := Lu hs (m - (i + j) / 2 - 1) ((i + j) / 2) l[(i + j) / 2] x hx (by rw [← hx']; congr 1; omega);have := hs.2.1 x (List.mem_of_getElem? hx')
    omega)
   refine ⟨r, r1, r2, r3, ?_⟩;rw [← r4]
   conv => lhs; unfold loopN
   simp only [E9, decide_eq_true_eq, step, M0, hx, Option.bind_some, LW];rw [if_pos (by omega), if_neg (by unfold Rv; rw [if_neg hc]; split <;> decide)]
  refine ⟨i, by omega, h1, fun m x hm hx => h2 m x (by omega) hx, ?_⟩;unfold loopN;simp only [E9, decide_eq_true_eq];rw [if_neg (by omega)]
theorem Vk {N : Nat} {l : List A2} {n : Int} (hs : Wg l) (hN : 300 < N) : ∃ b, U8 N l n = some b ∧ (b = true ↔ InL l n) := by
 have hl := hs.1;obtain ⟨r, r1, r2, r3, r4⟩ := Ur (N0 := N) (n := n) hs l.length 0 l.length N (by omega) (by omega) (by omega) (by omega) (fun m x h => by omega) (fun m x h hx => by rw [List.getElem?_eq_none h] at hx; cases hx);unfold U8 E3;simp only [G9];rw [show ((0 : Int), ((l.length : Nat) : Int)) = (((0 : Nat) : Int), ((l.length : Nat) : Int)) from rfl, r4];simp only [Option.bind_some, E9, decide_eq_true_eq]
 by_cases hr : r < l.length
 ·have hx := List.getElem?_eq_getElem hr;rw [if_pos (by omega), M0, hx];simp only [Option.bind_some, LW];refine ⟨_, rfl, ?_⟩;simp only [IB, decide_eq_true_eq];have h3 := r3 r _ (by omega) hx;unfold Rv;rw [if_neg (by omega)]
  constructor
  ·intro h
   split at h
   ·cases h
   exact ⟨_, List.getElem_mem hr, by omega, h3⟩
  rintro ⟨x, hx', h1, h2⟩;obtain ⟨m, hm⟩ := List.getElem?_of_mem hx'
  have hmr : ¬ m < r := fun h => by have := r2 m x h hm; omega
  by_cases e : m = r
  ·subst e; rw [hx] at hm; cases hm; rw [if_neg (by omega)]
  have := Lu hs (m - r - 1) r l[r] x hx (by rw [← hm]; congr 1; omega);omega
 rw [if_neg (by omega)];refine ⟨_, rfl, ?_⟩;simp only [Bool.false_eq_true, false_iff];rintro ⟨x, hx', h1, h2⟩;obtain ⟨m, hm⟩ := List.getElem?_of_mem hx';have hml : m < l.length := (List.getElem?_eq_some_iff.1 hm).1;have := r2 m x (by omega) hm;omega
theorem Tv {N : Nat} {l : List A2} {n : Int} (hl : l.length < 1000000000) (hN : l.length < N) : ∃ b, DK N l n = some b ∧ (b = true ↔ InL l n) := by
 unfold DK;simp only [G9];rw [U0 (l := l) (f := fun _ x => if x.Low ≤ n ∧ n ≤ x.High then 1 else 0) (e := .inl ()) (b := fun _ => .inr ()) (N := N) ?_ ?_ hN]
 ·simp only [Option.bind_some]
  by_cases h : fb (fun _ (x : A2) => if x.Low ≤ n ∧ n ≤ x.High then (1 : Int) else 0) 0 l = 0
  ·rw [if_pos h];refine ⟨false, rfl, ?_⟩;simp only [Bool.false_eq_true, false_iff];rintro ⟨x, hx, h1⟩;obtain ⟨k, hk⟩ := List.getElem?_of_mem hx;have := Aw.1 h k x hk
   rw [if_pos h1] at this; cases this
  rw [if_neg h];refine ⟨true, rfl, ?_⟩;simp only [true_iff];refine Classical.byContradiction fun hn => h (Aw.2 fun k x hk => ?_);rw [if_neg fun h1 => hn ⟨x, List.mem_of_getElem? hk, h1⟩]
 ·intro i x hx hi;simp only [E9, GZ, M0, hx, Option.bind_some, decide_eq_true_eq];rw [if_pos (by omega), W7 hi (by omega)]
  by_cases h1 : x.Low ≤ n
  ·rw [if_pos h1]
   by_cases h2 : n ≤ x.High
   ·rw [if_pos h2, if_neg (by rw [if_pos ⟨h1, h2⟩]; decide)]
   rw [if_neg h2, if_pos (by rw [if_neg (by omega)])]
  rw [if_neg h1, if_pos (by rw [if_neg (by omega)])]
 simp [E9]
end Go.Ab
namespace Go.Ab
noncomputable def Ko (types : Int) (p : B5) : Int := if types < 1 ∨ 16 < types then 2 else if (p.Sets.length : Int) ≠ types then 15 else fb (fun _ x => ck x) 0 p.Sets
theorem OA {N : Nat} {types : Int} {p : B5} (hN : 256 < N) : O8 N types p = some (Ko types p) := by
 unfold O8 Ko;simp only [E9, Z8, Ay, Gc, G9, Bool.or_eq_true, Bool.not_eq_true', decide_eq_true_eq, decide_eq_false_iff_not]
 by_cases h1 : types < 1 ∨ 16 < types
 ·rw [if_pos h1, if_pos h1]
 rw [if_neg h1, if_neg h1]
 by_cases h2 : (p.Sets.length : Int) = types
 ·rw [if_neg (by simpa using h2), if_neg (by simpa using h2)];rw [U0 (l := p.Sets) (f := fun _ x => ck x) (e := .inl ()) (b := .inr) (N := N) ?_ ?_ (by omega)]
  ·simp only [Option.bind_some]
   by_cases h : fb (fun _ x => ck x) 0 p.Sets = 0
   ·simp [h]
   simp [h]
  ·intro i x hx hi;simp only [M0, hx, Option.bind_some, KV hN];rw [if_pos (by omega), W7 hi (by omega)]
   by_cases h : ck x = 0
   ·simp [h]
   simp [h]
  rw [if_neg (by omega)]
 rw [if_pos (by simpa using h2), if_pos (by simpa using h2)]
theorem Tu {N : Nat} {types : Int} {p : B5} (hN : 256 < N) : BQ N types p = some (Ko types p) := by
 unfold BQ Ko;simp only [E9, Z8, Ay, Gc, G9, Bool.or_eq_true, Bool.not_eq_true', decide_eq_true_eq, decide_eq_false_iff_not]
 by_cases h1 : types < 1 ∨ 16 < types
 ·rw [if_pos h1, if_pos h1]
 rw [if_neg h1, if_neg h1]
 by_cases h2 : (p.Sets.length : Int) = types
 ·rw [if_neg (by simpa using h2), if_neg (by simpa using h2)];subst h2;rw [U0 (l := p.Sets) (f := fun _ x => ck x) (e := .inl ()) (b := .inr) (N := N) ?_ ?_ (by omega)]
  ·simp only [Option.bind_some]
   by_cases h : fb (fun _ x => ck x) 0 p.Sets = 0
   ·simp [h]
   simp [h]
  ·intro i x hx hi;simp only [M0, hx, Option.bind_some, Qy hN];rw [if_pos (by omega), W7 hi (by omega)]
   by_cases h : ck x = 0
   ·simp [h]
   simp [h]
  rw [if_neg (by omega)]
 rw [if_pos (by simpa using h2), if_pos (by simpa using h2)]
noncomputable abbrev LN (p : B5) : Int := Ko (p.Sets.length : Int) p
theorem KM {p : B5} (h : LN p = 0) : (1 ≤ p.Sets.length ∧ p.Sets.length ≤ 16) ∧ ∀ x ∈ p.Sets, Wg x := by
 unfold LN Ko at h
 split at h
 ·cases h
 rw [if_neg (by simp)] at h
 refine ⟨by omega, fun x hx => ?_⟩;obtain ⟨k, hk⟩ := List.getElem?_of_mem hx;exact Uo (Aw.1 h k x hk)
theorem OZ {N : Nat} {l : List B5} (hN : 256 < N) (hl : l.length < N) (hb : l.length < 1000000000) : J4 N l = some (fb (fun _ x => LN x) 0 l) := by
 unfold J4;rw [U0 (l := l) (f := fun _ x => LN x) (e := .inl ()) (b := .inr) (N := N) ?_ ?_ hl]
 ·simp only [Option.bind_some]
  by_cases h : fb (fun _ x => LN x) 0 l = 0
  ·simp [h]
  simp [h]
 ·intro i x hx hi;simp only [E9, Ay, G9, M0, hx, Option.bind_some, OA hN, decide_eq_true_eq];rw [if_pos (by omega), W7 hi (by omega)]
  by_cases h : LN x = 0
  ·simp [h]
  simp [h]
 simp [E9, G9]
theorem NF {N : Nat} {p : B5} (hN : 256 < N) : J4 N [p] = some (LN p) := by
 rw [OZ hN (by simp; omega) (by simp)];unfold fb fb
 split
 ·rename_i h; rw [h]
 rfl
def InP (p : B5) (s : B8) : Prop := 0 ≤ s.Typ ∧ ∃ l, p.Sets[s.Typ.toNat]? = some l ∧ InL l s.Num
noncomputable def Kd (types : Int) (s : B8) : Int := if s.Typ < 0 ∨ types ≤ s.Typ then 6 else if s.Num < -1099511627776 ∨ 1099511627776 < s.Num then 2 else 0
theorem Tt {N : Nat} {types : Int} {s : B8} : R4 N types s = some (Kd types s) := by
 unfold R4 Kd;simp only [E9, Z8, FD, Gc, Bool.or_eq_true, decide_eq_true_eq]
 repeat' split
 all_goals rfl
theorem NK {a b : Bool} {P : Prop} (h : a = true ↔ P) (k : b = true ↔ P) : a = b := by
 cases a <;> cases b <;> simp_all
end Go.Ab
namespace Go.Ab
noncomputable def Td (n : Nat) (t : Int) (m : D5) : Int := if (0 ≤ m.From ∧ m.From < (n : Int)) ∧ 0 ≤ m.To ∧ m.To < (n : Int) then Ko t m.On else 2
noncomputable def UG (s : B3) : Int := if s.Types < 1 ∨ 16 < s.Types then 2 else if ((s.Finals.length : Int) < 1 ∨ 256 < (s.Finals.length : Int)) ∨ 2048 < (s.Moves.length : Int) then 5 else fb (fun _ m => Td s.Finals.length s.Types m) 0 s.Moves
theorem KH {N : Nat} {s : B3} (hN : 3000 < N) : N6 N s = some (UG s) := by
 unfold N6 UG;simp only [E9, Z8, Gc, G9, Bool.or_eq_true, decide_eq_true_eq]
 by_cases h1 : s.Types < 1 ∨ 16 < s.Types
 ·rw [if_pos h1, if_pos h1]
 rw [if_neg h1, if_neg h1]
 by_cases h2 : ((s.Finals.length : Int) < 1 ∨ 256 < (s.Finals.length : Int)) ∨ 2048 < (s.Moves.length : Int)
 ·rw [if_pos h2, if_pos h2]
 rw [if_neg h2, if_neg h2];rw [U0 (l := s.Moves) (f := fun _ m => Td s.Finals.length s.Types m) (e := .inl ()) (b := .inr) (N := N) ?_ ?_ (by omega)]
 ·simp only [Option.bind_some]
  by_cases h : fb (fun _ m => Td s.Finals.length s.Types m) 0 s.Moves = 0
  ·simp [h]
  simp [h]
 ·intro i x hx hi;simp only [T3, FD, E9, Ay, Dy, Gf, G9, M0, hx, Option.bind_some, OA (show 256 < N by omega)];rw [if_pos (by omega), W7 hi (by omega)]
  by_cases h3 : 0 ≤ x.From ∧ x.From < (s.Finals.length : Int)
  ·rw [if_neg (by simp; omega)]
   by_cases h4 : 0 ≤ x.To ∧ x.To < (s.Finals.length : Int)
   ·rw [if_neg (by simp; omega), show Td s.Finals.length s.Types x = Ko s.Types x.On from if_pos ⟨h3, h4⟩]
    by_cases h : Ko s.Types x.On = 0
    ·simp [h]
    simp [h]
   rw [if_pos (by simp; omega), show Td s.Finals.length s.Types x = 2 from if_neg (fun h => h4 h.2)];simp
  rw [if_pos (by simp; omega), show Td s.Finals.length s.Types x = 2 from if_neg (fun h => h3 h.1)];simp
 rw [if_neg (by omega)]
theorem IU {N : Nat} {s : B3} (hN : 3000 < N) : AI N s = some (UG s) := by
 unfold AI UG;simp only [E9, Z8, FD, Ay, Gc, G9, Bool.or_eq_true, decide_eq_true_eq]
 by_cases h1 : s.Types < 1 ∨ 16 < s.Types
 ·rw [if_pos h1, if_pos h1]
 rw [if_neg h1, if_neg h1]
 by_cases h2 : ((s.Finals.length : Int) < 1 ∨ 256 < (s.Finals.length : Int)) ∨ 2048 < (s.Moves.length : Int)
 ·rw [if_pos h2, if_pos h2]
 rw [if_neg h2, if_neg h2];rw [U0 (l := s.Moves) (f := fun _ m => Td s.Finals.length s.Types m) (e := .inl ()) (b := .inr) (N := N) ?_ ?_ (by omega)]
 ·simp only [Option.bind_some]
  by_cases h : fb (fun _ m => Td s.Finals.length s.Types m) 0 s.Moves = 0
  ·simp [h]
  simp [h]
 ·intro i x hx hi;simp only [M0, hx, Option.bind_some, Tu (show 256 < N by omega)];rw [if_pos (by omega), W7 hi (by omega)];unfold Td
  by_cases h3 : (0 ≤ x.From ∧ x.From < (s.Finals.length : Int)) ∧ 0 ≤ x.To ∧ x.To < (s.Finals.length : Int)
  ·rw [if_neg (by omega), if_pos h3]
   by_cases h : Ko s.Types x.On = 0
   ·simp [h]
   simp [h]
  rw [if_pos (by omega), if_neg h3];simp
 rw [if_neg (by omega)]
structure VK (s : B3) : Prop where
 ty : 1 ≤ s.Types ∧ s.Types ≤ 16
 fi : 1 ≤ s.Finals.length ∧ s.Finals.length ≤ 256
 mv : s.Moves.length ≤ 2048
 each : ∀ m ∈ s.Moves, ((0 ≤ m.From ∧ m.From < (s.Finals.length : Int)) ∧ 0 ≤ m.To ∧ m.To < (s.Finals.length : Int)) ∧ Ko s.Types m.On = 0
theorem UX {s : B3} (h : UG s = 0) : VK s := by
 unfold UG at h
 split at h
 ·cases h
 rename_i h1
 split at h
 ·cases h
 rename_i h2;refine ⟨by omega, by omega, by omega, fun m hm => ?_⟩;obtain ⟨k, hk⟩ := List.getElem?_of_mem hm;have := Aw.1 h k m hk
 unfold Td at this
 split at this
 ·rename_i h3; exact ⟨h3, this⟩
 cases this
theorem Uj {N : Nat} {s : B3} {i : Int} (hN : 3000 < N) (hs : s.Moves.length ≤ 2048) : P7 N s i = some (s.Moves.filter fun m => decide (m.From = i)) := by
 unfold P7 An;rw [OF (β := D5) (σ := Unit) (R := Unit) s.Moves (fun _ i => i) (fun _ m => if m.From = i then some ([m], .inl ()) else some ([], .inl ())) (fun _ => ()) () (by omega)]
 ·have key : ∀ l : List D5, X7 (β := D5) (σ := Unit) (R := Unit) (fun _ m => if m.From = i then some ([m], .inl ()) else some ([], .inl ())) l () = some (l.filter (fun m => decide (m.From = i)), .inl ()) := by
   intro l
   induction l with
   | nil => rfl
   | cons m l ih =>
    by_cases h : m.From = i
    ·simp [X7, h, ih]
    simp [X7, h, ih]
  rw [key];simp [O9]
 ·intro _ j x hx hj;simp only [E9, IB, G9, M0, hx, Option.bind_some, decide_eq_true_eq];rw [if_pos hj, Ev (by omega) (by omega)]
  by_cases h : x.From = i
  ·simp [h, O9]
  simp [h]
 intro _;simp [E9, G9]
noncomputable def OP (p : B5) (x : B8) : Bool := @decide (InP p x) (Classical.propDecidable _)
theorem No {p : B5} {x : B8} : OP p x = true ↔ InP p x := by unfold OP; exact @decide_eq_true_iff _ (Classical.propDecidable _)
theorem RM {t : Int} {x : B8} (h : Kd t x = 0) : (0 ≤ x.Typ ∧ x.Typ < t) ∧ -1099511627776 ≤ x.Num ∧ x.Num ≤ 1099511627776 := by
 unfold Kd at h
 split at h
 ·cases h
 split at h
 ·cases h
 omega
theorem Px {t : Int} {p : B5} (h : Ko t p = 0) : (p.Sets.length : Int) = t ∧ LN p = 0 := by
 have h0 := h
 unfold Ko at h
 split at h
 ·cases h
 split at h
 ·cases h
 rename_i h2
 have h2 : (p.Sets.length : Int) = t := by omega
 subst h2;exact ⟨rfl, h0⟩
theorem Ie {N : Nat} {t : Int} {p : B5} {x : B8} (hN : 300 < N) (hp : Ko t p = 0) : ∃ r, M9 N p x = some r ∧ r.2 = Kd t x ∧ (r.2 = 0 → r.1 = OP p x) := by
 obtain ⟨ht, h0⟩ := Px hp;subst ht;unfold M9;simp only [NF (show 256 < N by omega), Option.bind_some, Ay, E9, FD, Z8, Gc, G9, Bool.or_eq_true, Bool.not_eq_true', decide_eq_true_eq, decide_eq_false_iff_not, h0, not_true_eq_false, if_false];obtain ⟨hlen, hsrt⟩ := KM h0;unfold Kd
 by_cases h1 : x.Typ < 0 ∨ (p.Sets.length : Int) ≤ x.Typ
 ·simp only [if_pos h1];exact ⟨_, rfl, rfl, fun h => by cases h⟩
 simp only [if_neg h1]
 by_cases h2 : x.Num < -1099511627776 ∨ 1099511627776 < x.Num
 ·simp only [if_pos h2];exact ⟨_, rfl, rfl, fun h => by cases h⟩
 simp only [if_neg h2];obtain ⟨k, hk⟩ : ∃ k : Nat, x.Typ = (k : Int) := ⟨x.Typ.toNat, by omega⟩
 have hkl : k < p.Sets.length := by omega
 have hx := List.getElem?_eq_getElem hkl
 have hcx : ck p.Sets[k] = 0 := by
  have := h0
  unfold LN Ko at this
  rw [if_neg (by omega), if_neg (by simp)] at this
  exact Aw.1 this k _ hx
 obtain ⟨b, e1, e2⟩ := Vk (N := N) (n := x.Num) (hsrt _ (List.getElem_mem hkl)) (by omega);unfold W6;simp only [hk, M0, hx, Option.bind_some, KV (show 256 < N by omega), hcx, Ay, decide_true, Bool.not_true, Bool.false_eq_true, if_false, e1];refine ⟨_, rfl, rfl, fun _ => NK e2 ?_⟩;rw [No];unfold InP;rw [hk]
 constructor
 ·rintro ⟨_, l, hl, h⟩
  rw [show (k : Int).toNat = k by omega, hx] at hl; cases hl; exact h
 intro h; exact ⟨by omega, _, hx, h⟩
theorem LE {N : Nat} {t : Int} {p : B5} {x : B8} (hN : 300 < N) (hp : Ko t p = 0) (hx : Kd t x = 0) : K5 N p x = some (OP p x) := by
 obtain ⟨r, h1, h2, h3⟩ := Ie (x := x) hN hp;unfold K5;simp only [h1, Option.bind_some, IB, Dy]
 rw [hx] at h2
 rw [h3 h2, h2];simp
theorem Qw {N : Nat} {t : Int} {p : B5} {x : B8} (hN : 300 < N) (hp : Ko t p = 0) (hx : Kd t x = 0) : Bs N p x = some (OP p x) := by
 obtain ⟨ht, h0⟩ := Px hp;subst ht;obtain ⟨hlen, hsrt⟩ := KM h0;have h1 := RM hx;obtain ⟨k, hk⟩ : ∃ k : Nat, x.Typ = (k : Int) := ⟨x.Typ.toNat, by omega⟩
 have hkl : k < p.Sets.length := by omega
 have hy := List.getElem?_eq_getElem hkl;have hsx := hsrt _ (List.getElem_mem hkl);obtain ⟨b', e3, e4⟩ := Tv (N := N) (l := p.Sets[k]) (n := x.Num) (by have := hsx.1; omega) (by have := hsx.1; omega);unfold Bs;simp only [FD, E9, Dy, G9, Bool.and_eq_true, decide_eq_true_eq, hk, M0, hy, Option.bind_some, e3];rw [if_pos (by omega)];rw [NK e4 (k := ?_)];rw [No];unfold InP;rw [hk]
 constructor
 ·rintro ⟨_, l, hl, h⟩
  rw [show (k : Int).toNat = k by omega, hy] at hl; cases hl; exact h
 intro h; exact ⟨by omega, _, hy, h⟩
theorem Vu : ((List.range 16).all fun k => ((Aj 40000000 ((k : Int) + 1)).bind fun r => if r.2 = 0 then O8 40000000 ((k : Int) + 1) r.1 else none) == some 0) = true := by kernel_rfl
theorem Vv {t : Int} (h : 1 ≤ t ∧ t ≤ 16) : ∃ p, Aj 40000000 t = some (p, 0) ∧ Ko t p = 0 := by
 have := List.all_eq_true.1 Vu (t - 1).toNat (by simp; omega)
 rw [show (((t - 1).toNat : Nat) : Int) + 1 = t by omega] at this
 have := eq_of_beq this;obtain ⟨r, h1, h2⟩ := bind_some this
 split at h2
 ·rename_i h3;obtain ⟨p, e⟩ := r;cases h3;exact ⟨p, h1, by rw [OA (by omega)] at h2; exact Option.some.inj h2⟩
 cases h2
end Go.Ab
namespace Go.Ab
def PZ (S : List (Int × Bool)) : Prop := S.Nodup ∧ ∀ p ∈ S, p.2 = true
theorem Pt : PZ [] := ⟨List.nodup_nil, fun p h => by cases h⟩
theorem Vm {S : List (Int × Bool)} (h : PZ S) {k : Int} (hk : (k, true) ∈ S) : Ee S k (false : Bool) = some (true, true) := by
 unfold Ee
 cases hf : S.find? (fun p => decide (p.1 = k)) with
 | none => have := List.find?_eq_none.1 hf _ hk; simp at this
 | some p =>
  have h1 := h.2 p (List.mem_of_find?_eq_some hf);simp only [h1]
theorem Ui {S : List (Int × Bool)} (h : PZ S) {k : Int} (hk : ¬(k, true) ∈ S) : Ee S k (false : Bool) = some (false, false) ∧ EA S k true = some (S ++ [(k, true)]) ∧ PZ (S ++ [(k, true)]) := by
 have hn : ∀ p ∈ S, ¬p.1 = k := fun p hp e => hk (by have := h.2 p hp; obtain ⟨a, b⟩ := p; simp only at this e; subst this; subst e; exact hp);refine ⟨?_, ?_, ?_, ?_⟩
 ·unfold Ee;rw [List.find?_eq_none.2 (fun p hp => by simpa using hn p hp)]
 ·unfold EA;rw [if_neg];simp only [List.any_eq_true, decide_eq_true_eq];rintro ⟨p, hp, e⟩;exact hn p hp e
 ·rw [List.nodup_append];refine ⟨h.1, by simp, fun a ha b hb => ?_⟩
  simp only [List.mem_singleton] at hb
  subst hb;rintro rfl;exact hk ha
 intro p hp
 rcases List.mem_append.1 hp with hp | hp
 ·exact h.2 p hp
 simp only [List.mem_singleton] at hp; rw [hp]
theorem KT {p q : Int × Bool} (h : p.1 = q.1 → p = q) : ∀ l, GQ p (GQ q l) = GQ q (GQ p l)
 | [] => by
  by_cases e : p = q
  ·rw [e]
  have : ¬p.1 = q.1 := fun h' => e (h h');simp only [GQ]
  by_cases h1 : p.1 ≤ q.1
  ·rw [if_pos h1, if_neg (by omega)]
  rw [if_neg h1, if_pos (by omega)]
 | r :: l => by
  by_cases e : p = q
  ·rw [e]
  have hne : ¬p.1 = q.1 := fun h' => e (h h');have ih := KT h l
  by_cases h1 : p.1 ≤ r.1
  ·by_cases h2 : q.1 ≤ r.1
   ·by_cases h3 : p.1 ≤ q.1
    ·simp only [GQ, if_pos h1, if_pos h2, if_pos h3, if_neg (show ¬q.1 ≤ p.1 by omega)]
    simp only [GQ, if_pos h1, if_pos h2, if_neg h3, if_pos (show q.1 ≤ p.1 by omega)]
   simp only [GQ, if_pos h1, if_neg h2, if_neg (show ¬q.1 ≤ p.1 by omega)]
  by_cases h2 : q.1 ≤ r.1
  ·simp only [GQ, if_neg h1, if_pos h2, if_neg (show ¬p.1 ≤ q.1 by omega)]
  simp only [GQ, if_neg h1, if_neg h2, ih]
theorem RC {l m : List (Int × Bool)} (h : l.Perm m) (ht : ∀ p ∈ l, p.2 = true) : AS l = AS m := by
 induction h with
 | nil => rfl
 | cons x _ ih => simp only [AS]; rw [ih (fun p hp => ht p (List.mem_cons_of_mem _ hp))]
 | swap x y l =>
  simp only [AS];refine KT (fun e => ?_) _;have h1 := ht x (by simp);have h2 := ht y (by simp);exact Prod.ext e (by rw [h1, h2])
 | trans h1 _ ih1 ih2 => rw [ih1 ht, ih2 (fun p hp => ht p (h1.mem_iff.2 hp))]
theorem Rz {S : List (Int × Bool)} (h : PZ S) : PZ (AS S) := ⟨(CC S).nodup_iff.2 h.1, fun p hp => h.2 p ((CC S).mem_iff.1 hp)⟩
theorem Ti {S S' : List (Int × Bool)} (h : PZ S) (h' : PZ S') (hm : ∀ k, (k, true) ∈ S ↔ (k, true) ∈ S') : AS S = AS S' := by
 refine RC ((List.perm_ext_iff_of_nodup h.1 h'.1).2 fun p => ?_) h.2;obtain ⟨k, b⟩ := p;cases b
 ·exact ⟨fun hp => by have := h.2 _ hp; simp at this, fun hp => by have := h'.2 _ hp; simp at this⟩
 exact hm k
section
variable {x : B8} {t : Int}
noncomputable def NQ (N : Nat) (x : B8) (S : List (Int × Bool)) (m : D5) : Option (List (Int × Bool) ⊕ Unit) :=
 (Ee S m.To (false : Bool)).bind fun r => if Ar.nt r.1 = true then (K5 N m.On x).bind fun c => if c = true then (EA S m.To true).bind fun l => some (.inl l) else some (.inl S) else some (.inl S)
theorem Hg {N : Nat} (hN : 300 < N) (hx : Kd t x = 0) : ∀ (l : List D5) (S : List (Int × Bool)), (∀ m ∈ l, Ko t m.On = 0) → PZ S →
 ∃ S', E5 (NQ N x) l S = some (.inl S') ∧ PZ S' ∧ ∀ k, (k, true) ∈ S' ↔ (k, true) ∈ S ∨ ∃ m ∈ l, m.To = k ∧ OP m.On x = true
 | [], S, _, hS => ⟨S, rfl, hS, fun k => by simp⟩
 | m :: l, S, hl, hS => by
  have hm := LE hN (hl m (by simp)) hx;have hl' : ∀ m ∈ l, Ko t m.On = 0 := fun y hy => hl y (List.mem_cons_of_mem _ hy)
  by_cases h1 : (m.To, true) ∈ S
  ·obtain ⟨S', e, h2, h3⟩ := Hg hN hx l S hl' hS;refine ⟨S', ?_, h2, fun k => ?_⟩
   ·rw [E5, show NQ N x S m = some (.inl S) by simp [NQ, Vm hS h1, Gf]];exact e
   rw [h3 k]
   constructor
   ·rintro (h | ⟨y, hy, h⟩)
    ·exact .inl h
    exact .inr ⟨y, List.mem_cons_of_mem _ hy, h⟩
   rintro (h | ⟨y, hy, h⟩)
   ·exact .inl h
   rcases List.mem_cons.1 hy with rfl | hy
   ·exact .inl (by rw [← h.1]; exact h1)
   exact .inr ⟨y, hy, h⟩
  obtain ⟨g1, g2, g3⟩ := Ui hS h1
  cases hc : OP m.On x with
  | false =>
   obtain ⟨S', e, h2, h3⟩ := Hg hN hx l S hl' hS;refine ⟨S', ?_, h2, fun k => ?_⟩
   ·rw [E5, show NQ N x S m = some (.inl S) by simp [NQ, g1, Gf, hm, hc]];exact e
   rw [h3 k]
   constructor
   ·rintro (h | ⟨y, hy, h⟩)
    ·exact .inl h
    exact .inr ⟨y, List.mem_cons_of_mem _ hy, h⟩
   rintro (h | ⟨y, hy, h⟩)
   ·exact .inl h
   rcases List.mem_cons.1 hy with rfl | hy
   ·rw [hc] at h; cases h.2
   exact .inr ⟨y, hy, h⟩
  | true =>
   obtain ⟨S', e, h2, h3⟩ := Hg hN hx l _ hl' g3;refine ⟨S', ?_, h2, fun k => ?_⟩
   ·rw [E5, show NQ N x S m = some (.inl (S ++ [(m.To, true)])) by simp [NQ, g1, g2, Gf, hm, hc]];exact e
   rw [h3 k]
   constructor
   ·rintro (h | ⟨y, hy, h⟩)
    ·rcases List.mem_append.1 h with h | h
     ·exact .inl h
     simp only [List.mem_singleton, Prod.mk.injEq, and_true] at h
     exact .inr ⟨m, by simp, h.symm, hc⟩
    exact .inr ⟨y, List.mem_cons_of_mem _ hy, h⟩
   rintro (h | ⟨y, hy, h⟩)
   ·exact .inl (List.mem_append_left _ h)
   rcases List.mem_cons.1 hy with rfl | hy
   ·exact .inl (List.mem_append_right _ (by rw [h.1]; simp))
   exact .inr ⟨y, hy, h⟩
variable {s : B3}
noncomputable def Mk (N : Nat) (s : B3) (x : B8) (S : List (Int × Bool)) (p : Int × Bool) : Option (List (Int × Bool) ⊕ List (Int × Bool)) :=
 (P7 N s p.1).bind fun r => (E5 (NQ N x) r S).bind fun o => match o with | .inl S' => some (.inl S') | .inr _ => none
theorem JY {N : Nat} (hN : 3000 < N) (hx : Kd s.Types x = 0) (hs : VK s) : ∀ (l S : List (Int × Bool)), PZ S →
 ∃ S', E5 (Mk N s x) l S = some (.inl S') ∧ PZ S' ∧ ∀ k, (k, true) ∈ S' ↔ (k, true) ∈ S ∨ ∃ p ∈ l, ∃ m ∈ s.Moves, m.From = p.1 ∧ m.To = k ∧ OP m.On x = true
 | [], S, hS => ⟨S, rfl, hS, fun k => by simp⟩
 | p :: l, S, hS => by
  obtain ⟨S1, e1, h1, h2⟩ := Hg (N := N) (t := s.Types) (by omega) hx (s.Moves.filter fun m => decide (m.From = p.1)) S (fun m hm => (hs.each m (List.mem_filter.1 hm).1).2) hS;obtain ⟨S', e, h3, h4⟩ := JY hN hx hs l S1 h1;refine ⟨S', ?_, h3, fun k => ?_⟩
  ·rw [E5, show Mk N s x S p = some (.inl S1) by simp [Mk, Uj hN hs.mv, e1]];exact e
  rw [h4 k, h2 k]
  constructor
  ·rintro ((h | ⟨m, hm, h⟩) | ⟨q, hq, h⟩)
   ·exact .inl h
   ·obtain ⟨hm, e⟩ := List.mem_filter.1 hm;exact .inr ⟨p, by simp, m, hm, by simpa using e, h⟩
   exact .inr ⟨q, List.mem_cons_of_mem _ hq, h⟩
  rintro (h | ⟨q, hq, m, hm, e, h⟩)
  ·exact .inl (.inl h)
  rcases List.mem_cons.1 hq with rfl | hq
  ·exact .inl (.inr ⟨m, List.mem_filter.2 ⟨hm, by simpa using e⟩, h⟩)
  exact .inr ⟨q, hq, m, hm, e, h⟩
theorem addP {N : Nat} (hN : 3000 < N) (hx : Kd s.Types x = 0) (hs : VK s) (S : List (Int × Bool)) :
 ∃ S', Ac (Mk N s x) (fun S => S) (fun S => AS S) S ([] : List (Int × Bool)) = some S' ∧ PZ S' ∧ ∀ k, (k, true) ∈ S' ↔ ∃ p ∈ S, ∃ m ∈ s.Moves, m.From = p.1 ∧ m.To = k ∧ OP m.On x = true := by
 obtain ⟨S', e, h1, h2⟩ := JY hN hx hs S [] Pt;refine ⟨AS S', Hs fun m hm => ?_, Rz h1, fun k => ?_⟩
 ·obtain ⟨S2, e2, h3, h4⟩ := JY hN hx hs m [] Pt;rw [e2];simp only [Option.map_some, QR, Option.some.injEq];refine Ti h3 h1 fun k => ?_;rw [h4, h2];simp only [List.not_mem_nil, false_or];exact ⟨fun ⟨p, hp, h⟩ => ⟨p, hm.mem_iff.1 hp, h⟩, fun ⟨p, hp, h⟩ => ⟨p, hm.mem_iff.2 hp, h⟩⟩
 rw [(CC S').mem_iff, h2];simp
end
noncomputable def TO (N : Nat) (b : List Bool) (x : B8) (o : List Bool) (m : D5) : Option (List Bool ⊕ List Bool) :=
 (D0 b m.From).bind fun x7 => if x7 = true then (Bs N m.On x).bind fun r => if r = true then (FF (Hz o m.To)).bind fun _ => (DF o m.To (fun _ : Bool => true)).bind fun l => some (.inl l) else some (.inl o) else some (.inl o)
theorem LO {N : Nat} {x : B8} {t : Int} {b : List Bool} (hN : 300 < N) (hx : Kd t x = 0) : ∀ (l : List D5) (o : List Bool), o.length = b.length →
 (∀ m ∈ l, ((0 ≤ m.From ∧ m.From < (b.length : Int)) ∧ 0 ≤ m.To ∧ m.To < (b.length : Int)) ∧ Ko t m.On = 0) →
 ∃ o', E5 (TO N b x) l o = some (.inl o') ∧ o'.length = b.length ∧ ∀ k : Nat, o'[k]? = some true ↔ o[k]? = some true ∨ ∃ m ∈ l, b[m.From.toNat]? = some true ∧ m.To = (k : Int) ∧ OP m.On x = true
 | [], o, ho, _ => ⟨o, rfl, ho, fun k => by simp⟩
 | m :: l, o, ho, hl => by
  have hl' := fun y hy => hl y (List.mem_cons_of_mem m hy);obtain ⟨⟨⟨f0, f1⟩, t0, t1⟩, hp⟩ := hl m (by simp);have hc := Qw (x := x) hN hp hx;obtain ⟨i, hi⟩ : ∃ i : Nat, m.From = (i : Int) := ⟨m.From.toNat, by omega⟩;obtain ⟨j, hj⟩ : ∃ j : Nat, m.To = (j : Int) := ⟨m.To.toNat, by omega⟩
  have hib : i < b.length := by omega
  have hbi := List.getElem?_eq_getElem hib
  have skip : ∀ {P : Prop}, (b[i] = true ∧ OP m.On x = true → P) → TO N b x o m = some (.inl o) → (∀ k : Nat, (k : Int) = m.To → b[i] = true ∧ OP m.On x = true → o[k]? = some true) →
   ∃ o', E5 (TO N b x) (m :: l) o = some (.inl o') ∧ o'.length = b.length ∧ ∀ k : Nat, o'[k]? = some true ↔ o[k]? = some true ∨ ∃ y ∈ m :: l, b[y.From.toNat]? = some true ∧ y.To = (k : Int) ∧ OP y.On x = true := by
   intro P _ e1 hk;obtain ⟨o', e, h1, h2⟩ := LO (N := N) (b := b) hN hx l o ho hl';refine ⟨o', by rw [E5, e1]; exact e, h1, fun k => ?_⟩;rw [h2 k]
   constructor
   ·rintro (h | ⟨y, hy, h⟩)
    ·exact .inl h
    exact .inr ⟨y, List.mem_cons_of_mem _ hy, h⟩
   rintro (h | ⟨y, hy, h⟩)
   ·exact .inl h
   rcases List.mem_cons.1 hy with rfl | hy
   ·rw [hi, show (i : Int).toNat = i by omega, hbi] at h
    exact .inl (hk k h.2.1.symm ⟨Option.some.inj h.1, h.2.2⟩)
   exact .inr ⟨y, hy, h⟩
  cases hb : b[i] with
  | false => exact skip (P := True) (fun _ => trivial) (by simp [TO, hi, M0, hbi, hb]) (fun k _ h => by rw [hb] at h; cases h.1)
  | true =>
   cases hcc : OP m.On x with
   | false => exact skip (P := True) (fun _ => trivial) (by simp [TO, hi, M0, hbi, hb, hc, hcc]) (fun k _ h => by rw [hcc] at h; cases h.2)
   | true =>
    have hjo : j < o.length := by omega
    obtain ⟨o', e, h1, h2⟩ := LO (N := N) (b := b) hN hx l (o.set j true) (by simpa using ho) hl';refine ⟨o', ?_, h1, fun k => ?_⟩
    ·rw [E5, show TO N b x o m = some (.inl (o.set j true)) by
      unfold TO
      have hio : Hz o (j : Int) = true := by unfold Hz; simp; omega
      simp only [hi, M0, hbi, hb, hc, hcc, Option.bind_some, if_true, hj, FF, hio, DF, List.getElem?_eq_getElem hjo, Option.map_some]
      rfl]
     exact e
    rw [h2 k]
    have hset : (o.set j true)[k]? = some true ↔ o[k]? = some true ∨ j = k := by
     rw [List.getElem?_set]
     by_cases e : j = k
     ·subst e; simp [hjo]
     simp [e]
    rw [hset]
    constructor
    ·rintro ((h | h) | ⟨y, hy, h⟩)
     ·exact .inl h
     ·exact .inr ⟨m, by simp, by rw [hi, show (i : Int).toNat = i by omega, hbi, hb], by omega, hcc⟩
     exact .inr ⟨y, List.mem_cons_of_mem _ hy, h⟩
    rintro (h | ⟨y, hy, h⟩)
    ·exact .inl (.inl h)
    rcases List.mem_cons.1 hy with rfl | hy
    ·exact .inl (.inr (by omega))
    exact .inr ⟨y, hy, h⟩
theorem TP {N : Nat} {s : B3} {x : B8} {b : List Bool} (hN : 3000 < N) (hx : Kd s.Types x = 0) (hs : VK s) (hb : b.length = s.Finals.length) :
 ∃ o, S3 N s b x = some o ∧ o.length = s.Finals.length ∧ ∀ k : Nat, o[k]? = some true ↔ ∃ m ∈ s.Moves, b[m.From.toNat]? = some true ∧ m.To = (k : Int) ∧ OP m.On x = true := by
 have hf := hs.fi;obtain ⟨o, e, h1, h2⟩ := LO (N := N) (b := b) (t := s.Types) (by omega) hx s.Moves (List.replicate b.length false) (by simp) (fun m hm => by rw [hb]; exact hs.each m hm);refine ⟨o, ?_, by omega, fun k => ?_⟩
 ·unfold S3;simp only [G9, Rg];rw [if_pos (by omega)];simp only [Option.bind_some, show ((b.length : Int)).toNat = b.length by omega];rw [Hx (α := D5) (σ := List Bool) (R := List Bool) s.Moves (by have := hs.mv; omega) (fun o i => (i, o)) (TO N b x) (fun o => o) (List.replicate b.length false) (by have := hs.mv; omega)]
  ·rw [e]; rfl
  ·intro o i y hy hi;simp only [E9, G9, M0, hy, Option.bind_some, decide_eq_true_eq];rw [if_pos hi, Ev (by omega) (by have := hs.mv; omega)];unfold TO
   cases D0 b y.From with
   | none => rfl
   | some v =>
    simp only [Option.bind_some]
    cases v with
    | false => rfl
    | true =>
     simp only [if_true]
     cases Bs N y.On x with
     | none => rfl
     | some r =>
      cases r with
      | false => rfl
      | true =>
       simp only [Option.bind_some, if_true]
       cases FF (Hz o y.To) with
       | none => rfl
       | some _ =>
        simp only [Option.bind_some]
        cases DF o y.To (fun _ => true) with
        | none => rfl
        | some _ => rfl
  intro o;simp [E9]
 rw [h2 k]
 have : ¬(List.replicate b.length false)[k]? = some true := by
  rw [List.getElem?_replicate]; split <;> simp
 simp [this]
end Go.Ab
