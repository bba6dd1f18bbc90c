/- GYL2 GYL3 GYW1 GYW2 -/
import Derived.Test.YtildiiggamckaaaGreatDoorT41
import Derived.Test.YtildiiggamckaaaGreatDoorT26
set_option linter.all false
namespace Go.Ab
theorem SD {n : Int} (h0 : 0 ≤ n) (h1 : n < 18446744073709551616) : IntKind.wrap .u64 n = n := by
 have e : IntKind.wrap .u64 n = n % 18446744073709551616 := by
  unfold IntKind.wrap;simp [IntKind.bits, IntKind.signed]
 rw [e]; omega
theorem Ww {i j : Nat} (h : i + j < 1000000000000) : Ar.wr .i64 (Ar.sh .shr .u64 (Ar.wr .u64 (Ar.ar .add .i64 (i : Int) (j : Int))) 1) = (((i + j) / 2 : Nat) : Int) := by
 rw [DC (by omega) (by omega)]
 show IntKind.wrap .i64 (Xi .shr .u64 (IntKind.wrap .u64 ((i : Int) + j)) 1) = _
 rw [SD (by omega) (by omega)]
 have e : Xi .shr .u64 ((i : Int) + j) 1 = ((i : Int) + j) / 2 := by
  show ((i : Int) + j).fdiv (2 ^ (min (1 : Int).toNat 64)) = _
  rw [show (2 : Int) ^ (min (1 : Int).toNat 64) = 2 from rfl, Int.fdiv_eq_ediv_of_nonneg _ (by decide)]
 rw [e, Fa (by omega) (by omega)]; omega
def SE (x : A2) (n : Int) : Int := if x.High < n then -1 else if n < x.Low then 1 else 0
theorem MJ (N : Nat) (x : A2) (n : Int) : Q8 N x n = some (SE x n) := by
 unfold Q8 SE;simp only [D2, W4, decide_eq_true_eq]
 repeat' split
 all_goals rfl
def InL (l : List A2) (n : Int) : Prop := ∃ x ∈ l, x.Low ≤ n ∧ n ≤ x.High
theorem Mb {l : List A2} (hs : XD l) : ∀ (d i : Nat) x y, l[i]? = some x → l[i + d + 1]? = some y → x.High + 2 ≤ y.Low
 | 0, i, x, y, hx, hy => hs.2.2 i x y hx hy
 | d + 1, i, x, y, hx, hy => by
  have hlt : i + d + 1 < l.length := by
   rcases Nat.lt_or_ge (i + d + 1) l.length with h | h
   ·exact h
   rw [List.getElem?_eq_none (by omega)] at hy; cases hy
  have h1 := Mb hs d i x _ hx (List.getElem?_eq_getElem hlt);have h2 := hs.2.2 (i + d + 1) _ y (List.getElem?_eq_getElem hlt) hy;have h3 := hs.2.1 _ (List.getElem_mem hlt);omega
theorem VF {N0 : Nat} {l : List A2} {n : Int} (hs : XD l) : ∀ (k i j N : Nat), j - i ≤ k → i ≤ j → j ≤ l.length → k < N →
 (∀ m x, m < i → l[m]? = some x → x.High < n) → (∀ m x, j ≤ m → l[m]? = some x → n ≤ x.High) →
 ∃ r : Nat, r ≤ l.length ∧ (∀ m x, m < r → l[m]? = some x → x.High < n) ∧ (∀ m x, r ≤ m → l[m]? = some x → n ≤ x.High) ∧
  loopN (fun (s1 : Int × Int) => (
   if Ar.cmp .lss s1.1 s1.2 = true then
    (C3 l (Ar.wr .i64 (Ar.sh .shr .u64 (Ar.wr .u64 (Ar.ar .add .i64 s1.1 s1.2)) 1))).bind fun x3 =>
    (Q8 N0 x3 n).bind fun r4 =>
    if Ar.cmp .lss r4 0 = true then
     some (.inl (Ar.ar .add .i64 (Ar.wr .i64 (Ar.sh .shr .u64 (Ar.wr .u64 (Ar.ar .add .i64 s1.1 s1.2)) 1)) 1, s1.2))
    else
     some (.inl (s1.1, Ar.wr .i64 (Ar.sh .shr .u64 (Ar.wr .u64 (Ar.ar .add .i64 s1.1 s1.2)) 1)))
   else
    some (.inr s1.1) : Option ((Int × Int) ⊕ (Int)))) N ((i : Int), (j : Int)) = some (r : Int) := by
 intro k;have hl := hs.1
 induction k with
 | zero =>
  intro i j N hk hij hj hN h1 h2;obtain ⟨N, rfl⟩ : ∃ M, N = M + 1 := ⟨N - 1, by omega⟩;refine ⟨i, by omega, h1, fun m x hm hx => h2 m x (by omega) hx, ?_⟩;unfold loopN;simp only [D2, decide_eq_true_eq];rw [if_neg (by omega)]
 | succ k ih =>
  intro i j N hk hij hj hN h1 h2;obtain ⟨N, rfl⟩ : ∃ M, N = M + 1 := ⟨N - 1, by omega⟩
  by_cases hlt : i < j
  ·have hm : (i + j) / 2 < l.length := by omega
   have hx := List.getElem?_eq_getElem hm;have step := Ww (i := i) (j := j) (by omega)
   by_cases hc : l[(i + j) / 2].High < n
   ·obtain ⟨r, r1, r2, r3, r4⟩ := ih ((i + j) / 2 + 1) j N (by omega) (by omega) hj (by omega) (fun m x hm' hx' => by
     by_cases e : m = (i + j) / 2
     ·subst e; rw [hx] at hx'; cases hx'; exact hc
     have := Mb hs ((i + j) / 2 - m - 1) m x l[(i + j) / 2] hx' (by rw [← hx]; congr 1; omega);have := hs.2.1 _ (List.getElem_mem hm)
     omega) h2
    refine ⟨r, r1, r2, r3, ?_⟩;rw [← r4]
    conv => lhs; unfold loopN
    simp only [D2, decide_eq_true_eq, step, H5, hx, Option.bind_some, MJ];rw [if_pos (by omega), if_pos (by unfold SE; rw [if_pos hc]; decide)];simp only [Q1 hm (by omega)]
   obtain ⟨r, r1, r2, r3, r4⟩ := ih i ((i + j) / 2) N (by omega) (by omega) (by omega) (by omega) h1 (fun m x hm' hx' => by
    by_cases e : m = (i + j) / 2
    ·subst e; rw [hx] at hx'; cases hx'; omega
    have := Mb hs (m - (i + j) / 2 - 1) ((i + j) / 2) l[(i + j) / 2] x hx (by rw [← hx']; congr 1; omega);have := hs.2.1 x (List.mem_of_getElem? hx')
    omega)
   refine ⟨r, r1, r2, r3, ?_⟩;rw [← r4]
   conv => lhs; unfold loopN
   simp only [D2, decide_eq_true_eq, step, H5, hx, Option.bind_some, MJ];rw [if_pos (by omega), if_neg (by unfold SE; rw [if_neg hc]; split <;> decide)]
  refine ⟨i, by omega, h1, fun m x hm hx => h2 m x (by omega) hx, ?_⟩;unfold loopN;simp only [D2, decide_eq_true_eq];rw [if_neg (by omega)]
theorem WF {N : Nat} {l : List A2} {n : Int} (hs : XD l) (hN : 300 < N) : ∃ b, W0 N l n = some b ∧ (b = true ↔ InL l n) := by
 have hl := hs.1;obtain ⟨r, r1, r2, r3, r4⟩ := VF (N0 := N) (n := n) hs l.length 0 l.length N (by omega) (by omega) (by omega) (by omega) (fun m x h => by omega) (fun m x h hx => by rw [List.getElem?_eq_none h] at hx; cases hx);unfold W0 E5;simp only [E2];rw [show ((0 : Int), ((l.length : Nat) : Int)) = (((0 : Nat) : Int), ((l.length : Nat) : Int)) from rfl, r4];simp only [Option.bind_some, D2, decide_eq_true_eq]
 by_cases hr : r < l.length
 ·have hx := List.getElem?_eq_getElem hr;rw [if_pos (by omega), H5, hx];simp only [Option.bind_some, MJ];refine ⟨_, rfl, ?_⟩;simp only [Y0, decide_eq_true_eq];have h3 := r3 r _ (by omega) hx;unfold SE;rw [if_neg (by omega)]
  constructor
  ·intro h
   split at h
   ·cases h
   exact ⟨_, List.getElem_mem hr, by omega, h3⟩
  rintro ⟨x, hx', h1, h2⟩;obtain ⟨m, hm⟩ := List.getElem?_of_mem hx'
  have hmr : ¬ m < r := fun h => by have := r2 m x h hm; omega
  by_cases e : m = r
  ·subst e; rw [hx] at hm; cases hm; rw [if_neg (by omega)]
  have := Mb hs (m - r - 1) r l[r] x hx (by rw [← hm]; congr 1; omega);omega
 rw [if_neg (by omega)];refine ⟨_, rfl, ?_⟩;simp only [Bool.false_eq_true, false_iff];rintro ⟨x, hx', h1, h2⟩;obtain ⟨m, hm⟩ := List.getElem?_of_mem hx';have hml : m < l.length := (List.getElem?_eq_some_iff.1 hm).1;have := r2 m x (by omega) hm;omega
theorem UK {N : Nat} {l : List A2} {n : Int} (hl : l.length < 1000000000) (hN : l.length < N) : ∃ b, Ee N l n = some b ∧ (b = true ↔ InL l n) := by
 unfold Ee;simp only [E2];rw [Ac (l := l) (f := fun _ x => if x.Low ≤ n ∧ n ≤ x.High then 1 else 0) (e := .inl ()) (b := fun _ => .inr ()) (N := N) ?_ ?_ hN]
 ·simp only [Option.bind_some]
  by_cases h : fb (fun _ (x : A2) => if x.Low ≤ n ∧ n ≤ x.High then (1 : Int) else 0) 0 l = 0
  ·rw [if_pos h];refine ⟨false, rfl, ?_⟩;simp only [Bool.false_eq_true, false_iff];rintro ⟨x, hx, h1⟩;obtain ⟨k, hk⟩ := List.getElem?_of_mem hx;have := BX.1 h k x hk
   rw [if_pos h1] at this; cases this
  rw [if_neg h];refine ⟨true, rfl, ?_⟩;simp only [true_iff];refine Classical.byContradiction fun hn => h (BX.2 fun k x hk => ?_);rw [if_neg fun h1 => hn ⟨x, List.mem_of_getElem? hk, h1⟩]
 ·intro i x hx hi;simp only [D2, EP, H5, hx, Option.bind_some, decide_eq_true_eq];rw [if_pos (by omega), Q1 hi (by omega)]
  by_cases h1 : x.Low ≤ n
  ·rw [if_pos h1]
   by_cases h2 : n ≤ x.High
   ·rw [if_pos h2, if_neg (by rw [if_pos ⟨h1, h2⟩]; decide)]
   rw [if_neg h2, if_pos (by rw [if_neg (by omega)])]
  rw [if_neg h1, if_pos (by rw [if_neg (by omega)])]
 simp [D2]
end Go.Ab
namespace Go.Ab
noncomputable def Iv (types : Int) (p : B5) : Int := if types < 1 ∨ 16 < types then 2 else if (p.Sets.length : Int) ≠ types then 15 else fb (fun _ x => ck x) 0 p.Sets
theorem Tc {N : Nat} {types : Int} {p : B5} (hN : 256 < N) : S4 N types p = some (Iv types p) := by
 unfold S4 Iv;simp only [D2, W4, Bs, HR, E2, Bool.or_eq_true, Bool.not_eq_true', decide_eq_true_eq, decide_eq_false_iff_not]
 by_cases h1 : types < 1 ∨ 16 < types
 ·rw [if_pos h1, if_pos h1]
 rw [if_neg h1, if_neg h1]
 by_cases h2 : (p.Sets.length : Int) = types
 ·rw [if_neg (by simpa using h2), if_neg (by simpa using h2)];rw [Ac (l := p.Sets) (f := fun _ x => ck x) (e := .inl ()) (b := .inr) (N := N) ?_ ?_ (by omega)]
  ·simp only [Option.bind_some]
   by_cases h : fb (fun _ x => ck x) 0 p.Sets = 0
   ·simp [h]
   simp [h]
  ·intro i x hx hi;simp only [H5, hx, Option.bind_some, Lx hN];rw [if_pos (by omega), Q1 hi (by omega)]
   by_cases h : ck x = 0
   ·simp [h]
   simp [h]
  rw [if_neg (by omega)]
 rw [if_pos (by simpa using h2), if_pos (by simpa using h2)]
theorem UJ {N : Nat} {types : Int} {p : B5} (hN : 256 < N) : Ce N types p = some (Iv types p) := by
 unfold Ce Iv;simp only [D2, W4, Bs, HR, E2, Bool.or_eq_true, Bool.not_eq_true', decide_eq_true_eq, decide_eq_false_iff_not]
 by_cases h1 : types < 1 ∨ 16 < types
 ·rw [if_pos h1, if_pos h1]
 rw [if_neg h1, if_neg h1]
 by_cases h2 : (p.Sets.length : Int) = types
 ·rw [if_neg (by simpa using h2), if_neg (by simpa using h2)];subst h2;rw [Ac (l := p.Sets) (f := fun _ x => ck x) (e := .inl ()) (b := .inr) (N := N) ?_ ?_ (by omega)]
  ·simp only [Option.bind_some]
   by_cases h : fb (fun _ x => ck x) 0 p.Sets = 0
   ·simp [h]
   simp [h]
  ·intro i x hx hi;simp only [H5, hx, Option.bind_some, RE hN];rw [if_pos (by omega), Q1 hi (by omega)]
   by_cases h : ck x = 0
   ·simp [h]
   simp [h]
  rw [if_neg (by omega)]
 rw [if_pos (by simpa using h2), if_pos (by simpa using h2)]
noncomputable abbrev Mw (p : B5) : Int := Iv (p.Sets.length : Int) p
theorem BK {p : B5} (h : Mw p = 0) : (1 ≤ p.Sets.length ∧ p.Sets.length ≤ 16) ∧ ∀ x ∈ p.Sets, XD x := by
 unfold Mw Iv at h
 split at h
 ·cases h
 rw [if_neg (by simp)] at h
 refine ⟨by omega, fun x hx => ?_⟩;obtain ⟨k, hk⟩ := List.getElem?_of_mem hx;exact VD (BX.1 h k x hk)
theorem PX {N : Nat} {l : List B5} (hN : 256 < N) (hl : l.length < N) (hb : l.length < 1000000000) : J6 N l = some (fb (fun _ x => Mw x) 0 l) := by
 unfold J6;rw [Ac (l := l) (f := fun _ x => Mw x) (e := .inl ()) (b := .inr) (N := N) ?_ ?_ hl]
 ·simp only [Option.bind_some]
  by_cases h : fb (fun _ x => Mw x) 0 l = 0
  ·simp [h]
  simp [h]
 ·intro i x hx hi;simp only [D2, Bs, E2, H5, hx, Option.bind_some, Tc hN, decide_eq_true_eq];rw [if_pos (by omega), Q1 hi (by omega)]
  by_cases h : Mw x = 0
  ·simp [h]
  simp [h]
 simp [D2, E2]
theorem FI {N : Nat} {p : B5} (hN : 256 < N) : J6 N [p] = some (Mw p) := by
 rw [PX hN (by simp; omega) (by simp)];unfold fb fb
 split
 ·rename_i h; rw [h]
 rfl
def InP (p : B5) (s : B2) : Prop := 0 ≤ s.Typ ∧ ∃ l, p.Sets[s.Typ.toNat]? = some l ∧ InL l s.Num
noncomputable def Po (types : Int) (s : B2) : Int := if s.Typ < 0 ∨ types ≤ s.Typ then 6 else if s.Num < -1099511627776 ∨ 1099511627776 < s.Num then 2 else 0
theorem OF {a b : Bool} {P : Prop} (h : a = true ↔ P) (k : b = true ↔ P) : a = b := by
 cases a <;> cases b <;> simp_all
end Go.Ab
namespace Go.Ab
noncomputable def Ut (n : Nat) (t : Int) (m : D0) : Int := if (0 ≤ m.From ∧ m.From < (n : Int)) ∧ 0 ≤ m.To ∧ m.To < (n : Int) then Iv t m.On else 2
noncomputable def VV (s : A5) : Int := if s.Types < 1 ∨ 16 < s.Types then 2 else if ((s.Finals.length : Int) < 1 ∨ 256 < (s.Finals.length : Int)) ∨ 2048 < (s.Moves.length : Int) then 5 else fb (fun _ m => Ut s.Finals.length s.Types m) 0 s.Moves
theorem Ry {N : Nat} {s : A5} (hN : 3000 < N) : O0 N s = some (VV s) := by
 unfold O0 VV;simp only [D2, W4, HR, E2, Bool.or_eq_true, decide_eq_true_eq]
 by_cases h1 : s.Types < 1 ∨ 16 < s.Types
 ·rw [if_pos h1, if_pos h1]
 rw [if_neg h1, if_neg h1]
 by_cases h2 : ((s.Finals.length : Int) < 1 ∨ 256 < (s.Finals.length : Int)) ∨ 2048 < (s.Moves.length : Int)
 ·rw [if_pos h2, if_pos h2]
 rw [if_neg h2, if_neg h2];rw [Ac (l := s.Moves) (f := fun _ m => Ut s.Finals.length s.Types m) (e := .inl ()) (b := .inr) (N := N) ?_ ?_ (by omega)]
 ·simp only [Option.bind_some]
  by_cases h : fb (fun _ m => Ut s.Finals.length s.Types m) 0 s.Moves = 0
  ·simp [h]
  simp [h]
 ·intro i x hx hi;simp only [U4, Hv, D2, Bs, Ae, Ao, E2, H5, hx, Option.bind_some, Tc (show 256 < N by omega)];rw [if_pos (by omega), Q1 hi (by omega)]
  by_cases h3 : 0 ≤ x.From ∧ x.From < (s.Finals.length : Int)
  ·rw [if_neg (by simp; omega)]
   by_cases h4 : 0 ≤ x.To ∧ x.To < (s.Finals.length : Int)
   ·rw [if_neg (by simp; omega), show Ut s.Finals.length s.Types x = Iv s.Types x.On from if_pos ⟨h3, h4⟩]
    by_cases h : Iv s.Types x.On = 0
    ·simp [h]
    simp [h]
   rw [if_pos (by simp; omega), show Ut s.Finals.length s.Types x = 2 from if_neg (fun h => h4 h.2)];simp
  rw [if_pos (by simp; omega), show Ut s.Finals.length s.Types x = 2 from if_neg (fun h => h3 h.1)];simp
 rw [if_neg (by omega)]
theorem Pt {N : Nat} {s : A5} (hN : 3000 < N) : Cd N s = some (VV s) := by
 unfold Cd VV;simp only [D2, W4, Hv, Bs, HR, E2, Bool.or_eq_true, decide_eq_true_eq]
 by_cases h1 : s.Types < 1 ∨ 16 < s.Types
 ·rw [if_pos h1, if_pos h1]
 rw [if_neg h1, if_neg h1]
 by_cases h2 : ((s.Finals.length : Int) < 1 ∨ 256 < (s.Finals.length : Int)) ∨ 2048 < (s.Moves.length : Int)
 ·rw [if_pos h2, if_pos h2]
 rw [if_neg h2, if_neg h2];rw [Ac (l := s.Moves) (f := fun _ m => Ut s.Finals.length s.Types m) (e := .inl ()) (b := .inr) (N := N) ?_ ?_ (by omega)]
 ·simp only [Option.bind_some]
  by_cases h : fb (fun _ m => Ut s.Finals.length s.Types m) 0 s.Moves = 0
  ·simp [h]
  simp [h]
 ·intro i x hx hi;simp only [H5, hx, Option.bind_some, UJ (show 256 < N by omega)];rw [if_pos (by omega), Q1 hi (by omega)];unfold Ut
  by_cases h3 : (0 ≤ x.From ∧ x.From < (s.Finals.length : Int)) ∧ 0 ≤ x.To ∧ x.To < (s.Finals.length : Int)
  ·rw [if_neg (by omega), if_pos h3]
   by_cases h : Iv s.Types x.On = 0
   ·simp [h]
   simp [h]
  rw [if_pos (by omega), if_neg h3];simp
 rw [if_neg (by omega)]
structure KF (s : A5) : Prop where
 ty : 1 ≤ s.Types ∧ s.Types ≤ 16
 fi : 1 ≤ s.Finals.length ∧ s.Finals.length ≤ 256
 mv : s.Moves.length ≤ 2048
 each : ∀ m ∈ s.Moves, ((0 ≤ m.From ∧ m.From < (s.Finals.length : Int)) ∧ 0 ≤ m.To ∧ m.To < (s.Finals.length : Int)) ∧ Iv s.Types m.On = 0
theorem Wn {s : A5} (h : VV s = 0) : KF s := by
 unfold VV at h
 split at h
 ·cases h
 rename_i h1
 split at h
 ·cases h
 rename_i h2;refine ⟨by omega, by omega, by omega, fun m hm => ?_⟩;obtain ⟨k, hk⟩ := List.getElem?_of_mem hm;have := BX.1 h k m hk
 unfold Ut at this
 split at this
 ·rename_i h3; exact ⟨h3, this⟩
 cases this
theorem QO {N : Nat} {s : A5} {i : Int} (hN : 3000 < N) (hs : s.Moves.length ≤ 2048) : N4 N s i = some (s.Moves.filter fun m => decide (m.From = i)) := by
 unfold N4 AA;rw [PF (β := D0) (σ := Unit) (R := Unit) s.Moves (fun _ i => i) (fun _ m => if m.From = i then some ([m], .inl ()) else some ([], .inl ())) (fun _ => ()) () (by omega)]
 ·have key : ∀ l : List D0, Z0 (β := D0) (σ := Unit) (R := Unit) (fun _ m => if m.From = i then some ([m], .inl ()) else some ([], .inl ())) l () = some (l.filter (fun m => decide (m.From = i)), .inl ()) := by
   intro l
   induction l with
   | nil => rfl
   | cons m l ih =>
    by_cases h : m.From = i
    ·simp [Z0, h, ih]
    simp [Z0, h, ih]
  rw [key];simp [N3]
 ·intro _ j x hx hj;simp only [D2, Y0, E2, H5, hx, Option.bind_some, decide_eq_true_eq];rw [if_pos hj, DC (by omega) (by omega)]
  by_cases h : x.From = i
  ·simp [h, N3]
  simp [h]
 intro _;simp [D2, E2]
noncomputable def KD (p : B5) (x : B2) : Bool := @decide (InP p x) (Classical.propDecidable _)
theorem Ka {p : B5} {x : B2} : KD p x = true ↔ InP p x := by unfold KD; exact @decide_eq_true_iff _ (Classical.propDecidable _)
theorem ST {t : Int} {x : B2} (h : Po t x = 0) : (0 ≤ x.Typ ∧ x.Typ < t) ∧ -1099511627776 ≤ x.Num ∧ x.Num ≤ 1099511627776 := by
 unfold Po at h
 split at h
 ·cases h
 split at h
 ·cases h
 omega
theorem Ez {t : Int} {p : B5} (h : Iv t p = 0) : (p.Sets.length : Int) = t ∧ Mw p = 0 := by
 have h0 := h
 unfold Iv at h
 split at h
 ·cases h
 split at h
 ·cases h
 rename_i h2
 have h2 : (p.Sets.length : Int) = t := by omega
 subst h2;exact ⟨rfl, h0⟩
theorem OA {N : Nat} {t : Int} {p : B5} {x : B2} (hN : 300 < N) (hp : Iv t p = 0) : ∃ r, N1 N p x = some r ∧ r.2 = Po t x ∧ (r.2 = 0 → r.1 = KD p x) := by
 obtain ⟨ht, h0⟩ := Ez hp;subst ht;unfold N1;simp only [FI (show 256 < N by omega), Option.bind_some, Bs, D2, Hv, W4, HR, E2, Bool.or_eq_true, Bool.not_eq_true', decide_eq_true_eq, decide_eq_false_iff_not, h0, not_true_eq_false, if_false];obtain ⟨hlen, hsrt⟩ := BK h0;unfold Po
 by_cases h1 : x.Typ < 0 ∨ (p.Sets.length : Int) ≤ x.Typ
 ·simp only [if_pos h1];exact ⟨_, rfl, rfl, fun h => by cases h⟩
 simp only [if_neg h1]
 by_cases h2 : x.Num < -1099511627776 ∨ 1099511627776 < x.Num
 ·simp only [if_pos h2];exact ⟨_, rfl, rfl, fun h => by cases h⟩
 simp only [if_neg h2];obtain ⟨k, hk⟩ : ∃ k : Nat, x.Typ = (k : Int) := ⟨x.Typ.toNat, by omega⟩
 have hkl : k < p.Sets.length := by omega
 have hx := List.getElem?_eq_getElem hkl
 have hcx : ck p.Sets[k] = 0 := by
  have := h0
  unfold Mw Iv at this
  rw [if_neg (by omega), if_neg (by simp)] at this
  exact BX.1 this k _ hx
 obtain ⟨b, e1, e2⟩ := WF (N := N) (n := x.Num) (hsrt _ (List.getElem_mem hkl)) (by omega);unfold X8;simp only [hk, H5, hx, Option.bind_some, Lx (show 256 < N by omega), hcx, Bs, decide_true, Bool.not_true, Bool.false_eq_true, if_false, e1];refine ⟨_, rfl, rfl, fun _ => OF e2 ?_⟩;rw [Ka];unfold InP;rw [hk]
 constructor
 ·rintro ⟨_, l, hl, h⟩
  rw [show (k : Int).toNat = k by omega, hx] at hl; cases hl; exact h
 intro h; exact ⟨by omega, _, hx, h⟩
theorem Mj {N : Nat} {t : Int} {p : B5} {x : B2} (hN : 300 < N) (hp : Iv t p = 0) (hx : Po t x = 0) : K8 N p x = some (KD p x) := by
 obtain ⟨r, h1, h2, h3⟩ := OA (x := x) hN hp;unfold K8;simp only [h1, Option.bind_some, Y0, Ae]
 rw [hx] at h2
 rw [h3 h2, h2];simp
theorem RB {N : Nat} {t : Int} {p : B5} {x : B2} (hN : 300 < N) (hp : Iv t p = 0) (hx : Po t x = 0) : BG N p x = some (KD p x) := by
 obtain ⟨ht, h0⟩ := Ez hp;subst ht;obtain ⟨hlen, hsrt⟩ := BK h0;have h1 := ST hx;obtain ⟨k, hk⟩ : ∃ k : Nat, x.Typ = (k : Int) := ⟨x.Typ.toNat, by omega⟩
 have hkl : k < p.Sets.length := by omega
 have hy := List.getElem?_eq_getElem hkl;have hsx := hsrt _ (List.getElem_mem hkl);obtain ⟨b', e3, e4⟩ := UK (N := N) (l := p.Sets[k]) (n := x.Num) (by have := hsx.1; omega) (by have := hsx.1; omega);unfold BG;simp only [Hv, D2, Ae, E2, Bool.and_eq_true, decide_eq_true_eq, hk, H5, hy, Option.bind_some, e3];rw [if_pos (by omega)];rw [OF e4 (k := ?_)];rw [Ka];unfold InP;rw [hk]
 constructor
 ·rintro ⟨_, l, hl, h⟩
  rw [show (k : Int).toNat = k by omega, hy] at hl; cases hl; exact h
 intro h; exact ⟨by omega, _, hy, h⟩
end Go.Ab
namespace Go.Ab
def OM (S : List (Int × Bool)) : Prop := S.Nodup ∧ ∀ p ∈ S, p.2 = true
theorem Qp : OM [] := ⟨List.nodup_nil, fun p h => by cases h⟩
theorem Vw {S : List (Int × Bool)} (h : OM S) {k : Int} (hk : ¬(k, true) ∈ S) : Da S k (false : Bool) = some (false, false) ∧ Ck S k true = some (S ++ [(k, true)]) ∧ OM (S ++ [(k, true)]) := by
 have hn : ∀ p ∈ S, ¬p.1 = k := fun p hp e => hk (by have := h.2 p hp; obtain ⟨a, b⟩ := p; simp only at this e; subst this; subst e; exact hp);refine ⟨?_, ?_, ?_, ?_⟩
 ·unfold Da;rw [List.find?_eq_none.2 (fun p hp => by simpa using hn p hp)]
 ·unfold Ck;rw [if_neg];simp only [List.any_eq_true, decide_eq_true_eq];rintro ⟨p, hp, e⟩;exact hn p hp e
 ·rw [List.nodup_append];refine ⟨h.1, by simp, fun a ha b hb => ?_⟩
  simp only [List.mem_singleton] at hb
  subst hb;rintro rfl;exact hk ha
 intro p hp
 rcases List.mem_append.1 hp with hp | hp
 ·exact h.2 p hp
 simp only [List.mem_singleton] at hp; rw [hp]
theorem Lv {p q : Int × Bool} (h : p.1 = q.1 → p = q) : ∀ l, Hm p (Hm q l) = Hm q (Hm p l)
 | [] => by
  by_cases e : p = q
  ·rw [e]
  have : ¬p.1 = q.1 := fun h' => e (h h');simp only [Hm]
  by_cases h1 : p.1 ≤ q.1
  ·rw [if_pos h1, if_neg (by omega)]
  rw [if_neg h1, if_pos (by omega)]
 | r :: l => by
  by_cases e : p = q
  ·rw [e]
  have hne : ¬p.1 = q.1 := fun h' => e (h h');have ih := Lv h l
  by_cases h1 : p.1 ≤ r.1
  ·by_cases h2 : q.1 ≤ r.1
   ·by_cases h3 : p.1 ≤ q.1
    ·simp only [Hm, if_pos h1, if_pos h2, if_pos h3, if_neg (show ¬q.1 ≤ p.1 by omega)]
    simp only [Hm, if_pos h1, if_pos h2, if_neg h3, if_pos (show q.1 ≤ p.1 by omega)]
   simp only [Hm, if_pos h1, if_neg h2, if_neg (show ¬q.1 ≤ p.1 by omega)]
  by_cases h2 : q.1 ≤ r.1
  ·simp only [Hm, if_neg h1, if_pos h2, if_neg (show ¬p.1 ≤ q.1 by omega)]
  simp only [Hm, if_neg h1, if_neg h2, ih]
theorem SK {l m : List (Int × Bool)} (h : l.Perm m) (ht : ∀ p ∈ l, p.2 = true) : CP l = CP m := by
 induction h with
 | nil => rfl
 | cons x _ ih => simp only [CP]; rw [ih (fun p hp => ht p (List.mem_cons_of_mem _ hp))]
 | swap x y l =>
  simp only [CP];refine Lv (fun e => ?_) _;have h1 := ht x (by simp);have h2 := ht y (by simp);exact Prod.ext e (by rw [h1, h2])
 | trans h1 _ ih1 ih2 => rw [ih1 ht, ih2 (fun p hp => ht p (h1.mem_iff.2 hp))]
theorem SH {S : List (Int × Bool)} (h : OM S) : OM (CP S) := ⟨(CO S).nodup_iff.2 h.1, fun p hp => h.2 p ((CO S).mem_iff.1 hp)⟩
theorem UA {S S' : List (Int × Bool)} (h : OM S) (h' : OM S') (hm : ∀ k, (k, true) ∈ S ↔ (k, true) ∈ S') : CP S = CP S' := by
 refine SK ((List.perm_ext_iff_of_nodup h.1 h'.1).2 fun p => ?_) h.2;obtain ⟨k, b⟩ := p;cases b
 ·exact ⟨fun hp => by have := h.2 _ hp; simp at this, fun hp => by have := h'.2 _ hp; simp at this⟩
 exact hm k
section
variable {x : B2} {t : Int}
variable {s : A5}
end
noncomputable def Vc (N : Nat) (b : List Bool) (x : B2) (o : List Bool) (m : D0) : Option (List Bool ⊕ List Bool) :=
 (C3 b m.From).bind fun x7 => if x7 = true then (BG N m.On x).bind fun r => if r = true then (Bx (Dw o m.To)).bind fun _ => (Ba o m.To (fun _ : Bool => true)).bind fun l => some (.inl l) else some (.inl o) else some (.inl o)
theorem Mx {N : Nat} {x : B2} {t : Int} {b : List Bool} (hN : 300 < N) (hx : Po t x = 0) : ∀ (l : List D0) (o : List Bool), o.length = b.length →
 (∀ m ∈ l, ((0 ≤ m.From ∧ m.From < (b.length : Int)) ∧ 0 ≤ m.To ∧ m.To < (b.length : Int)) ∧ Iv t m.On = 0) →
 ∃ o', F2 (Vc N b x) l o = some (.inl o') ∧ o'.length = b.length ∧ ∀ k : Nat, o'[k]? = some true ↔ o[k]? = some true ∨ ∃ m ∈ l, b[m.From.toNat]? = some true ∧ m.To = (k : Int) ∧ KD m.On x = true
 | [], o, ho, _ => ⟨o, rfl, ho, fun k => by simp⟩
 | m :: l, o, ho, hl => by
  have hl' := fun y hy => hl y (List.mem_cons_of_mem m hy);obtain ⟨⟨⟨f0, f1⟩, t0, t1⟩, hp⟩ := hl m (by simp);have hc := RB (x := x) hN hp hx;obtain ⟨i, hi⟩ : ∃ i : Nat, m.From = (i : Int) := ⟨m.From.toNat, by omega⟩;obtain ⟨j, hj⟩ : ∃ j : Nat, m.To = (j : Int) := ⟨m.To.toNat, by omega⟩
  have hib : i < b.length := by omega
  have hbi := List.getElem?_eq_getElem hib
  have skip : ∀ {P : Prop}, (b[i] = true ∧ KD m.On x = true → P) → Vc N b x o m = some (.inl o) → (∀ k : Nat, (k : Int) = m.To → b[i] = true ∧ KD m.On x = true → o[k]? = some true) →
   ∃ o', F2 (Vc N b x) (m :: l) o = some (.inl o') ∧ o'.length = b.length ∧ ∀ k : Nat, o'[k]? = some true ↔ o[k]? = some true ∨ ∃ y ∈ m :: l, b[y.From.toNat]? = some true ∧ y.To = (k : Int) ∧ KD y.On x = true := by
   intro P _ e1 hk;obtain ⟨o', e, h1, h2⟩ := Mx (N := N) (b := b) hN hx l o ho hl';refine ⟨o', by rw [F2, e1]; exact e, h1, fun k => ?_⟩;rw [h2 k]
   constructor
   ·rintro (h | ⟨y, hy, h⟩)
    ·exact .inl h
    exact .inr ⟨y, List.mem_cons_of_mem _ hy, h⟩
   rintro (h | ⟨y, hy, h⟩)
   ·exact .inl h
   rcases List.mem_cons.1 hy with rfl | hy
   ·rw [hi, show (i : Int).toNat = i by omega, hbi] at h
    exact .inl (hk k h.2.1.symm ⟨Option.some.inj h.1, h.2.2⟩)
   exact .inr ⟨y, hy, h⟩
  cases hb : b[i] with
  | false => exact skip (P := True) (fun _ => trivial) (by simp [Vc, hi, H5, hbi, hb]) (fun k _ h => by rw [hb] at h; cases h.1)
  | true =>
   cases hcc : KD m.On x with
   | false => exact skip (P := True) (fun _ => trivial) (by simp [Vc, hi, H5, hbi, hb, hc, hcc]) (fun k _ h => by rw [hcc] at h; cases h.2)
   | true =>
    have hjo : j < o.length := by omega
    obtain ⟨o', e, h1, h2⟩ := Mx (N := N) (b := b) hN hx l (o.set j true) (by simpa using ho) hl';refine ⟨o', ?_, h1, fun k => ?_⟩
    ·rw [F2, show Vc N b x o m = some (.inl (o.set j true)) by
      unfold Vc
      have hio : Dw o (j : Int) = true := by unfold Dw; simp; omega
      simp only [hi, H5, hbi, hb, hc, hcc, Option.bind_some, if_true, hj, Bx, hio, Ba, List.getElem?_eq_getElem hjo, Option.map_some]
      rfl]
     exact e
    rw [h2 k]
    have hset : (o.set j true)[k]? = some true ↔ o[k]? = some true ∨ j = k := by
     rw [List.getElem?_set]
     by_cases e : j = k
     ·subst e; simp [hjo]
     simp [e]
    rw [hset]
    constructor
    ·rintro ((h | h) | ⟨y, hy, h⟩)
     ·exact .inl h
     ·exact .inr ⟨m, by simp, by rw [hi, show (i : Int).toNat = i by omega, hbi, hb], by omega, hcc⟩
     exact .inr ⟨y, List.mem_cons_of_mem _ hy, h⟩
    rintro (h | ⟨y, hy, h⟩)
    ·exact .inl (.inl h)
    rcases List.mem_cons.1 hy with rfl | hy
    ·exact .inl (.inr (by omega))
    exact .inr ⟨y, hy, h⟩
theorem Vd {N : Nat} {s : A5} {x : B2} {b : List Bool} (hN : 3000 < N) (hx : Po s.Types x = 0) (hs : KF s) (hb : b.length = s.Finals.length) :
 ∃ o, BF N s b x = some o ∧ o.length = s.Finals.length ∧ ∀ k : Nat, o[k]? = some true ↔ ∃ m ∈ s.Moves, b[m.From.toNat]? = some true ∧ m.To = (k : Int) ∧ KD m.On x = true := by
 have hf := hs.fi;obtain ⟨o, e, h1, h2⟩ := Mx (N := N) (b := b) (t := s.Types) (by omega) hx s.Moves (List.replicate b.length false) (by simp) (fun m hm => by rw [hb]; exact hs.each m hm);refine ⟨o, ?_, by omega, fun k => ?_⟩
 ·unfold BF;simp only [E2, OQ];rw [if_pos (by omega)];simp only [Option.bind_some, show ((b.length : Int)).toNat = b.length by omega];rw [Lo (α := D0) (σ := List Bool) (R := List Bool) s.Moves (by have := hs.mv; omega) (fun o i => (i, o)) (Vc N b x) (fun o => o) (List.replicate b.length false) (by have := hs.mv; omega)]
  ·rw [e]; rfl
  ·intro o i y hy hi;simp only [D2, E2, H5, hy, Option.bind_some, decide_eq_true_eq];rw [if_pos hi, DC (by omega) (by have := hs.mv; omega)];unfold Vc
   cases C3 b y.From with
   | none => rfl
   | some v =>
    simp only [Option.bind_some]
    cases v with
    | false => rfl
    | true =>
     simp only [if_true]
     cases BG N y.On x with
     | none => rfl
     | some r =>
      cases r with
      | false => rfl
      | true =>
       simp only [Option.bind_some, if_true]
       cases Bx (Dw o y.To) with
       | none => rfl
       | some _ =>
        simp only [Option.bind_some]
        cases Ba o y.To (fun _ => true) with
        | none => rfl
        | some _ => rfl
  intro o;simp [D2]
 rw [h2 k]
 have : ¬(List.replicate b.length false)[k]? = some true := by
  rw [List.getElem?_replicate]; split <;> simp
 simp [this]
end Go.Ab
