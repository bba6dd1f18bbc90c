/- GPL21 GPL22 GPT1 -/
import Derived.Test.YtpapabjndpgcnaaGreatT42
import Derived.Test.YtpapabjndpgcnaaGreatT37
import Derived.Test.YtpapabjndpgcnaaGreatT38
set_option linter.all false

namespace Go.Ab
open Classical
def bits : Nat → List (List Int)
 | 0 => [[]]
 | n + 1 => (bits n).map (0 :: ·) ++ (bits n).map (1 :: ·)
theorem nodup_len {α : Type} : ∀ {l m : List α}, l.Nodup → (∀ x ∈ l, x ∈ m) → l.length ≤ m.length
 | [], m, _, _ => Nat.zero_le _
 | x :: l, m, hn, h => by
  classical
  have hx := h x (by simp)
  obtain ⟨h1, h2⟩ := List.nodup_cons.1 hn
  have := nodup_len (l := l) (m := m.erase x) h2 fun y hy => (List.mem_erase_of_ne (fun e => by subst e; exact h1 hy)).2 (h y (by simp [hy]))
  rw [List.length_erase_of_mem hx] at this
  have : 0 < m.length := List.length_pos_of_mem hx
  simp only [List.length_cons]; omega
structure Mint (types B : Nat) (l : List GPredicate) (out : List GPredicate) (W : List (List Int)) : Prop where
 len : out.length = W.length
 nodup : W.Nodup
 bits : ∀ w ∈ W, ∃ j n, w = sg l j n
 sets : ∀ p ∈ out, p.Sets.length = types
 cls : ∀ (c : Nat) p w (j : Nat) a, out[c]? = some p → W[c]? = some w → p.Sets[j]? = some a → Ord a ∧ a.length ≤ B ∧ ∀ n, InL a n ↔ (-1099511627776 ≤ n ∧ n ≤ 1099511627776) ∧ sg l j n = w
 occ : ∀ w ∈ W, ∃ j n, j < types ∧ (-1099511627776 ≤ n ∧ n ≤ 1099511627776) ∧ sg l j n = w
 cov : ∀ j n, j < types → (-1099511627776 ≤ n ∧ n ≤ 1099511627776) → sg l j n ∈ W
 ord : ∀ (c c' : Nat) w w', c < c' → W[c]? = some w → W[c']? = some w' → ∃ j n, j < types ∧ (-1099511627776 ≤ n ∧ n ≤ 1099511627776) ∧ sg l j n = w ∧ ∀ j' n', j' < types → (-1099511627776 ≤ n' ∧ n' ≤ 1099511627776) → sg l j' n' = w' → Lx j n j' n'
end Go.Ab

namespace Go.Ab
open Classical
theorem ends_asc : ∀ {a : List GInterval}, Ord a → (ends a).Pairwise (· < ·)
 | [], _ => by simp [ends]
 | x :: a, h => by
  have ih := ends_asc h.2.2
  have hx := h.1
  have e : ends (x :: a) = x.Low :: (x.High + 1) :: ends a := rfl
  have hi : ∀ m ∈ ends a, x.High + 2 ≤ m := fun m hm => by
   obtain ⟨y, hy, h'⟩ := mem_ends.1 hm
   have := h.2.1 y hy
   have := h.2.2.srt' y hy
   omega
  rw [e]
  refine List.pairwise_cons.2 ⟨fun m hm => ?_, List.pairwise_cons.2 ⟨fun m hm => ?_, ih⟩⟩
  ·rcases List.mem_cons.1 hm with rfl | hm
   ·omega
   ·have := hi m hm; omega
  ·have := hi m hm; omega
theorem ends_steps {a : List GInterval} (h : Ord a) {m : Int} (hm : m ∈ ends a) : ¬ (InL a m ↔ InL a (m - 1)) := by
 obtain ⟨x, hx, h'⟩ := mem_ends.1 hm
 have hxb := h.srt' x hx
 have apart : ∀ y ∈ a, y = x ∨ y.High + 2 ≤ x.Low ∨ x.High + 2 ≤ y.Low := fun y hy => by
  clear h' hm hxb
  induction a with
  | nil => cases hx
  | cons z a ih =>
   rcases List.mem_cons.1 hx with hx | hx
   ·rcases List.mem_cons.1 hy with hy | hy
    ·exact .inl (hy.trans hx.symm)
    ·exact .inr (.inr (by rw [hx]; exact h.2.1 y hy))
   ·rcases List.mem_cons.1 hy with hy | hy
    ·exact .inr (.inl (by rw [hy]; exact h.2.1 x hx))
    ·exact ih h.2.2 hx hy
 rcases h' with rfl | rfl
 ·have h1 : InL a x.Low := ⟨x, hx, by omega, by omega⟩
  have h2 : ¬ InL a (x.Low - 1) := fun ⟨y, hy, g1, g2⟩ => by
   have := h.srt' y hy
   rcases apart y hy with rfl | h' | h' <;> omega
  simp [h1, h2]
 ·have h1 : InL a (x.High + 1 - 1) := ⟨x, hx, by omega, by omega⟩
  have h2 : ¬ InL a (x.High + 1) := fun ⟨y, hy, g1, g2⟩ => by
   have := h.srt' y hy
   rcases apart y hy with rfl | h' | h' <;> omega
  exact fun h => h2 (h.2 h1)
theorem len_of_steps {a : List GInterval} {P : Int → Prop} {E : List Int} (h : Ord a) (hP : ∀ n, InL a n ↔ P n) (hE : ∀ n, n ∉ E → (P n ↔ P (n - 1))) : 2 * a.length ≤ E.length := by
 have hn : (ends a).Nodup := (ends_asc h).imp fun h => by omega
 have := nodup_len (l := ends a) (m := E) hn fun m hm => by
  refine Classical.byContradiction fun hc => ends_steps h hm ?_
  rw [hP, hP]; exact hE m hc
 rwa [ends_len] at this
end Go.Ab

namespace Go.Ab
theorem bind_of1' {α β : Type} {m : Option α} {x : α} {F : α → Option β} {r : Option β} (h : m = some x) (k : F x = r) : m.bind F = r := by rw [h]; exact k
theorem loop_tot {R : Type} {step : Int → Option (Int ⊕ R)} {n : Nat} (hs : ∀ i : Nat, i < n → ∃ o, step (i : Int) = some o ∧ (o = .inl ((i + 1 : Nat) : Int) ∨ ∃ r, o = .inr r)) (he : ∃ r, step (n : Int) = some (.inr r)) {N : Nat} (hN : n < N) : ∃ r, loopN step N 0 = some r := by
 have key : ∀ (k i N : Nat), i + k = n → k < N → ∃ r, loopN step N (i : Int) = some r := by
  intro k
  induction k with
  | zero =>
   intro i N hi hN
   obtain ⟨N, rfl⟩ : ∃ M, N = M + 1 := ⟨N - 1, by omega⟩
   obtain ⟨r, hr⟩ := he
   rw [show i = n by omega]
   exact ⟨r, by simp only [loopN, hr]⟩
  | succ k ih =>
   intro i N hi hN
   obtain ⟨N, rfl⟩ : ∃ M, N = M + 1 := ⟨N - 1, by omega⟩
   obtain ⟨o, h1, h2⟩ := hs i (by omega)
   rcases h2 with rfl | ⟨r, rfl⟩
   ·obtain ⟨r, hr⟩ := ih (i + 1) N (by omega) (by omega)
    exact ⟨r, by simp only [loopN, h1]; exact hr⟩
   ·exact ⟨r, by simp only [loopN, h1]⟩
 exact key n 0 N (by omega) hN
theorem chk_loopS {α S R : Type} {l : List α} {step : Int × S → Option ((Int × S) ⊕ R)} {f : Nat → α → Int} (st : Nat → S) {e : S → R} {b : Int → S → R}
 (hs : ∀ (i : Nat) x, l[i]? = some x → i < l.length → step ((i : Int), st i) = if f i x = 0 then some (.inl (((i + 1 : Nat) : Int), st (i + 1))) else some (.inr (b (f i x) (st i))))
 (he : step ((l.length : Int), st l.length) = some (.inr (e (st l.length)))) {N : Nat} (hN : l.length < N) : ∃ s, loopN step N (0, st 0) = some (if fb f 0 l = 0 then e s else b (fb f 0 l) s) := by
 have key : ∀ (k i N : Nat), i + k = l.length → k < N → ∃ s, loopN step N ((i : Int), st i) = some (if fb f i (l.drop i) = 0 then e s else b (fb f i (l.drop i)) s) := by
  intro k
  induction k with
  | zero =>
   intro i N hi hN
   obtain ⟨N, rfl⟩ : ∃ M, N = M + 1 := ⟨N - 1, by omega⟩
   rw [show i = l.length by omega, List.drop_length]
   exact ⟨st l.length, by simp only [loopN, he, fb, if_true]⟩
  | succ k ih =>
   intro i N hi hN
   obtain ⟨N, rfl⟩ : ∃ M, N = M + 1 := ⟨N - 1, by omega⟩
   have hlt : i < l.length := by omega
   have h1 := hs i _ (List.getElem?_eq_getElem hlt) hlt
   rw [List.drop_eq_getElem_cons hlt]
   by_cases h : f i l[i] = 0
   ·rw [if_pos h] at h1
    obtain ⟨s, h2⟩ := ih (i + 1) N (by omega) (by omega)
    refine ⟨s, ?_⟩
    have e1 : fb f i (l[i] :: l.drop (i + 1)) = fb f (i + 1) (l.drop (i + 1)) := by simp only [fb]; rw [if_pos h]
    rw [e1]
    simp only [loopN, h1]
    exact h2
   ·rw [if_neg h] at h1
    have e1 : fb f i (l[i] :: l.drop (i + 1)) = f i l[i] := by simp only [fb]; rw [if_neg h]
    refine ⟨st i, ?_⟩
    rw [e1, if_neg h]
    simp only [loopN, h1]
 exact key l.length 0 N (by omega) hN
def digB (c : Int) : Bool := decide (48 ≤ c) && decide (c ≤ 57)
def letB (c : Int) : Bool := decide (c = 95) || (decide (97 ≤ c) && decide (c ≤ 122)) || (decide (65 ≤ c) && decide (c ≤ 90))
theorem digit_eq (N : Nat) (c : Int) : schema_digit N c = some (digB c) := rfl
theorem letter_eq (N : Nat) (c : Int) : schema_letter N c = some (letB c) := rfl
theorem rletter_eq (N : Nat) (c : Int) : ref03_letter N c = some (letB c) := by
 unfold letB
 rw [Bool.or_assoc, Bool.or_comm]
 rfl
theorem let_not_dig {c : Int} (h : letB c = true) : digB c = false := by
 simp only [letB, digB, Bool.or_eq_true, Bool.and_eq_true, decide_eq_true_eq, Bool.and_eq_false_iff, decide_eq_false_iff_not] at h ⊢
 omega
noncomputable def nmStep (x : ByteArray) (s : Int) : Option (Int ⊕ (Unit ⊕ Unit)) :=
 if s < (x.size : Int) then (if 0 ≤ s then (if letB (Ar.sat x s) || digB (Ar.sat x s) then some (.inl (Ar.ar .add .i64 s 1)) else some (.inr (.inr ()))) else none) else some (.inr (.inl ()))
theorem nm1 (N : Nat) (x : ByteArray) : (fun (s2 : Int) =>
 (
  if Ar.cmp .lss s2 (Ar.slen x) = true then
   (req (Ar.an (Ar.cmp .geq s2 0) (Ar.cmp .lss s2 (Ar.slen x)))).bind fun _ =>
   (schema_letter N (Ar.sat x s2)).bind fun r4 =>
   if Ar.nt r4 = true then
    (req (Ar.an (Ar.cmp .geq s2 0) (Ar.cmp .lss s2 (Ar.slen x)))).bind fun _ =>
    (schema_digit N (Ar.sat x s2)).bind fun r5 =>
    if Ar.nt r5 = true then
     some (.inr (.inr ()))
    else
     some (.inl (Ar.ar .add .i64 s2 1))
   else
    some (.inl (Ar.ar .add .i64 s2 1))
  else
   some (.inr (.inl ()))
  : Option ((Int) ⊕ (Unit ⊕ Unit)))) = nmStep x := by
 funext s
 unfold nmStep
 simp only [cmp_lss, cmp_geq, an_def, slen_def, letter_eq, digit_eq, nt_def, decide_eq_true_eq]
 by_cases h1 : s < (x.size : Int)
 ·by_cases h0 : 0 ≤ s
  ·simp only [h1, h0, decide_true, Bool.and_self, req, if_true, Option.bind_some]
   cases letB (Ar.sat x s) <;> cases digB (Ar.sat x s) <;> rfl
  ·simp [h1, h0, req]
 ·simp [h1]
theorem nm2 (N : Nat) (x : ByteArray) : (fun (s2 : Int) =>
 (
  if Ar.cmp .lss s2 (Ar.slen x) = true then
   (req (Ar.an (Ar.cmp .geq s2 0) (Ar.cmp .lss s2 (Ar.slen x)))).bind fun _ =>
   (ref03_letter N (Ar.sat x s2)).bind fun r4 =>
   if Ar.nt r4 = true then
    (req (Ar.an (Ar.cmp .geq s2 0) (Ar.cmp .lss s2 (Ar.slen x)))).bind fun _ =>
    if Ar.cmp .lss (Ar.sat x s2) 48 = true then
     some (.inr (.inr ()))
    else
     (req (Ar.an (Ar.cmp .geq s2 0) (Ar.cmp .lss s2 (Ar.slen x)))).bind fun _ =>
     if Ar.cmp .gtr (Ar.sat x s2) 57 = true then
      some (.inr (.inr ()))
     else
      some (.inl (Ar.ar .add .i64 s2 1))
   else
    some (.inl (Ar.ar .add .i64 s2 1))
  else
   some (.inr (.inl ()))
  : Option ((Int) ⊕ (Unit ⊕ Unit)))) = nmStep x := by
 funext s
 unfold nmStep
 simp only [cmp_lss, cmp_geq, cmp_gtr, an_def, slen_def, rletter_eq, nt_def, decide_eq_true_eq]
 by_cases h1 : s < (x.size : Int)
 ·by_cases h0 : 0 ≤ s
  ·simp only [h1, h0, decide_true, Bool.and_self, req, if_true, Option.bind_some]
   cases letB (Ar.sat x s) with
   | true => rfl
   | false =>
    simp only [Bool.not_false, if_true, Bool.false_or, digB, Bool.and_eq_true, decide_eq_true_eq]
    by_cases a : Ar.sat x s < 48
    ·rw [if_pos a, if_neg (by omega)]
    ·rw [if_neg a]
     by_cases b : 57 < Ar.sat x s
     ·rw [if_pos b, if_neg (by omega)]
     ·rw [if_neg b, if_pos (by omega)]
  ·simp [h1, h0, req]
 ·simp [h1]
theorem name_tot {N : Nat} (hN : 30 < N) (x : ByteArray) : ∃ b, schema_name N x = some b ∧ ref03_Name N x = some b := by
 unfold schema_name ref03_Name
 rw [nm1, nm2]
 simp only [digit_eq, rletter_eq, Option.bind_some, cmp_eql, cmp_gtr, cmp_geq, cmp_lss, or_def, an_def, slen_def, nt_def, Bool.or_eq_true, decide_eq_true_eq]
 by_cases h : ((x.size : Int) = 0 ∨ 24 < (x.size : Int))
 ·rw [if_pos h, if_pos h]; exact ⟨_, rfl, rfl⟩
 ·rw [if_neg h, if_neg h]
  have hr : req (decide ((0 : Int) ≤ 0) && decide ((0 : Int) < (x.size : Int))) = some () := by
   unfold req
   rw [if_pos (by simp; omega)]
  rw [hr]
  simp only [Option.bind_some]
  obtain ⟨r, hL⟩ := loop_tot (N := N) (step := nmStep x) (n := x.size) (fun i hi => by
   unfold nmStep
   rw [if_pos (by omega), if_pos (by omega), inc_i64 hi (by omega)]
   split
   ·exact ⟨_, rfl, .inl rfl⟩
   ·exact ⟨_, rfl, .inr ⟨_, rfl⟩⟩) ⟨_, by unfold nmStep; rw [if_neg (by omega)]⟩ (by omega)
  by_cases hl : letB (Ar.sat x 0) = true
  ·rw [let_not_dig hl, hl, hL]
   simp only [Bool.false_eq_true, if_false, Bool.not_true, Option.bind_some]
   cases r <;> exact ⟨_, rfl, rfl⟩
  ·have hl' : letB (Ar.sat x 0) = false := by simpa using hl
   rw [hl']
   simp only [Bool.not_false, if_true]
   by_cases hd : digB (Ar.sat x 0) = true
   ·rw [if_pos hd]; exact ⟨_, rfl, rfl⟩
   ·rw [if_neg hd]
    have hd' : digB (Ar.sat x 0) = false := by simpa using hd
    obtain ⟨M, rfl⟩ : ∃ M, N = M + 1 := ⟨N - 1, by omega⟩
    have : nmStep x 0 = some (.inr (.inr ())) := by
     unfold nmStep
     rw [if_pos (by omega), if_pos (by omega), hl', hd']
     rfl
    simp only [loopN, this, Option.bind_some]
    exact ⟨_, rfl, rfl⟩
noncomputable def nmB (N : Nat) (x : ByteArray) : Bool := (schema_name N x).getD false
theorem name_eq {N : Nat} (hN : 30 < N) (x : ByteArray) : schema_name N x = some (nmB N x) := by
 obtain ⟨b, h, _⟩ := name_tot hN x
 unfold nmB; rw [h]; rfl
theorem rname_eq {N : Nat} (hN : 30 < N) (x : ByteArray) : ref03_Name N x = some (nmB N x) := by
 obtain ⟨b, h, h'⟩ := name_tot hN x
 unfold nmB; rw [h, h']; rfl
open Classical in
theorem getM_nm (L : List ByteArray) (k : ByteArray) : getM (L.map fun y => (y, true)) k false = some (decide (k ∈ L), decide (k ∈ L)) := by
 unfold getM
 congr 1
 induction L with
 | nil => simp
 | cons y L ih =>
  simp only [List.map_cons, List.find?_cons]
  by_cases h : y = k
  ·subst h; simp
  ·simp only [h, decide_false]
   rw [ih]
   have : (k ∈ y :: L) ↔ k ∈ L := by simp [List.mem_cons, Ne.symm h]
   simp [this]
theorem setM_nm {L : List ByteArray} {k : ByteArray} (h : k ∉ L) : setM (L.map fun y => (y, true)) k true = some ((L ++ [k]).map fun y => (y, true)) := by
 unfold setM
 rw [if_neg]
 ·simp
 ·simp only [List.any_eq_true, List.mem_map, decide_eq_true_eq, not_exists]
  rintro p ⟨⟨y, hy, rfl⟩, e⟩
  exact h (by simpa using e ▸ hy)
def fstI {α : Type} (p : α → Bool) (l : List α) : Int := match fnd p 0 l with | some q => (q.1 : Int) | none => -1
theorem first_lt {α : Type} {l : List α} {p : α → Bool} {i : Nat} {x : α} (hx : l[i]? = some x) (hp : p x = true) : fstI p l < (i : Int) ↔ ∃ y ∈ l.take i, p y = true := by
 unfold fstI
 cases hq : fnd p 0 l with
 | none => have := fnd_none hq x (List.mem_of_getElem? hx); rw [hp] at this; cases this
 | some q =>
  obtain ⟨k, y⟩ := q
  obtain ⟨_, h2, h3, h4⟩ := fnd_some hq
  rw [Nat.sub_zero] at h2 h4
  simp only
  constructor
  ·intro h
   refine ⟨y, ?_, h3⟩
   rw [List.mem_iff_getElem?]
   exact ⟨k, by rw [List.getElem?_take, if_pos (by omega)]; exact h2⟩
  ·rintro ⟨z, hz, hpz⟩
   obtain ⟨j, hj⟩ := List.getElem?_of_mem hz
   rw [List.getElem?_take] at hj
   split at hj
   ·rename_i hji
    have : ¬ j < k := fun hjk => by rw [h4 j z hjk hj] at hpz; cases hpz
    omega
   ·cases hj
end Go.Ab

