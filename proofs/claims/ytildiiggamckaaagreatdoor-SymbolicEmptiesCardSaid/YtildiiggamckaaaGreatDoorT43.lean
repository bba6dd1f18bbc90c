/- GYW3 GYL4 GYX1 -/
import Derived.Test.YtildiiggamckaaaGreatDoorT42
set_option linter.all false
namespace Go.Ab
structure Rset (n : Nat) (S : List (Int × Bool)) (b : List Bool) : Prop where
 len : b.length = n
 tru : OM S
 mem : ∀ k : Int, (k, true) ∈ S ↔ ∃ i : Nat, k = (i : Int) ∧ b[i]? = some true
theorem Rg {n : Nat} (hn : 1 ≤ n) : Rset n [(0, true)] ((List.replicate n false).set 0 true) := by
 refine ⟨by simp, ⟨by simp, fun p hp => by simp only [List.mem_singleton] at hp; rw [hp]⟩, fun k => ?_⟩;simp only [List.mem_singleton, Prod.mk.injEq, and_true]
 constructor
 ·rintro rfl;exact ⟨0, rfl, by rw [List.getElem?_set]; simp; omega⟩
 rintro ⟨i, rfl, hi⟩
 rw [List.getElem?_set] at hi
 by_cases e : 0 = i
 ·omega
 rw [if_neg e, List.getElem?_replicate] at hi
 split at hi <;> simp at hi
end Go.Ab
namespace Go.Ab
def KP {α : Type} (p : α → Bool) : Nat → List α → Option (Nat × α)
 | _, [] => none
 | i, x :: r => if p x then some (i, x) else KP p (i + 1) r
theorem LD {α R : Type} {l : List α} {step : Int → Option (Int ⊕ R)} {p : α → Bool} {e : R} {b : Nat → α → R}
 (hs : ∀ (i : Nat) x, l[i]? = some x → i < l.length → step (i : Int) = if p x then some (.inr (b i x)) else some (.inl ((i + 1 : Nat) : Int)))
 (he : step (l.length : Int) = some (.inr e)) : ∀ {N : Nat}, l.length < N → loopN step N 0 = some (match KP p 0 l with | some q => b q.1 q.2 | none => e) := by
 have key : ∀ (k i N : Nat), i + k = l.length → k < N → loopN step N (i : Int) = some (match KP p i (l.drop i) with | some q => b q.1 q.2 | none => e) := by
  intro k
  induction k with
  | zero =>
   intro i N hi hN;obtain ⟨N, rfl⟩ : ∃ M, N = M + 1 := ⟨N - 1, by omega⟩;rw [show i = l.length by omega, List.drop_length];simp [loopN, he, KP]
  | succ k ih =>
   intro i N hi hN;obtain ⟨N, rfl⟩ : ∃ M, N = M + 1 := ⟨N - 1, by omega⟩
   have hlt : i < l.length := by omega
   rw [List.drop_eq_getElem_cons hlt];simp only [loopN, hs i _ (List.getElem?_eq_getElem hlt) hlt, KP]
   by_cases h : p l[i]
   ·simp only [h, if_true]
   simp only [h, if_false];exact ih (i + 1) N (by omega) (by omega)
 intro N hN;have := key l.length 0 N (by omega) hN
 simpa using this
def fl : Nat → List (List A2) → List (Int × List A2)
 | _, [] => []
 | i, x :: r => if 0 < x.length then ((i : Int), x) :: fl (i + 1) r else fl (i + 1) r
abbrev Nb (x : List A2) : Bool := decide (0 < x.length)
theorem MN : ∀ (l : List (List A2)) (i : Nat), (fl i l).head? = (KP Nb i l).map fun q => ((q.1 : Int), q.2)
 | [], i => rfl
 | x :: r, i => by
  unfold fl KP
  by_cases h : 0 < x.length
  ·simp [h, Nb]
  simp only [h, if_false, Nb, decide_false, Bool.false_eq_true]; exact MN r (i + 1)
theorem LE {N : Nat} {p : B5} (hb : p.Sets.length < 1000000000) (hN : p.Sets.length < N) : Q5 N p = some (fl 0 p.Sets) := by
 unfold Q5 V8
 have key : ∀ (k i N : Nat), i + k = p.Sets.length → k < N → Z3
  (fun (s1 : Int) =>
   (
    if Ar.cmp .lss s1 (Ar.len p.Sets) = true then
     (C3 p.Sets s1).bind fun x7 =>
     if Ar.cmp .gtr (Ar.len x7) 0 = true then
      N3 (some ([(s1, x7)], ())) fun _ =>
      some ([], .inl (Ar.ar .add .i64 s1 1))
     else
      some ([], .inl (Ar.ar .add .i64 s1 1))
    else
     some ([], .inr ())
    : Option (List (Int × (List A2)) × ((Int) ⊕ (Unit))))) N (i : Int) = some (fl i (p.Sets.drop i), ()) := by
  intro k
  induction k with
  | zero =>
   intro i N hi hN;obtain ⟨N, rfl⟩ : ∃ M, N = M + 1 := ⟨N - 1, by omega⟩;rw [show i = p.Sets.length by omega, List.drop_length];simp [Z3, fl, D2, E2]
  | succ k ih =>
   intro i N hi hN;obtain ⟨N, rfl⟩ : ∃ M, N = M + 1 := ⟨N - 1, by omega⟩
   have hlt : i < p.Sets.length := by omega
   have hx := List.getElem?_eq_getElem hlt;have h1 := ih (i + 1) N (by omega) (by omega);rw [List.drop_eq_getElem_cons hlt];unfold Z3
   simp only [D2, W4, E2, H5, hx, Option.bind_some, decide_eq_true_eq, N3, List.append_nil] at h1 ⊢
   rw [if_pos (by omega), Q1 hlt (by omega)];unfold fl
   by_cases h : 0 < p.Sets[i].length
   ·rw [if_pos (by omega), if_pos h];simp only [h1]; rfl
   rw [if_neg (by omega), if_neg h];simp only [h1]; rfl
 have := key p.Sets.length 0 N (by omega) hN
 rw [show ((0 : Nat) : Int) = 0 from rfl] at this
 rw [this];simp [N3]
abbrev HZ (p : B5) : Option (Nat × List A2) := KP Nb 0 p.Sets
theorem Ke {α : Type} {p : α → Bool} : ∀ {l : List α} {i k : Nat} {x : α}, KP p i l = some (k, x) → i ≤ k ∧ l[k - i]? = some x ∧ p x = true ∧ ∀ (j : Nat) y, j < k - i → l[j]? = some y → p y = false
 | [], _, _, _, h => by cases h
 | y :: r, i, k, x, h => by
  unfold KP at h
  split at h
  ·rename_i hp;cases h;exact ⟨by omega, by simp, hp, fun j y hj => by omega⟩
  rename_i hp;obtain ⟨h1, h2, h3, h4⟩ := Ke h;refine ⟨by omega, by rw [show k - i = (k - (i + 1)) + 1 by omega]; simpa using h2, h3, fun j z hj hz => ?_⟩
  cases j with
  | zero => simp at hz; subst hz; simpa using hp
  | succ j => exact h4 j z (by omega) (by simpa using hz)
theorem Oj {α : Type} {p : α → Bool} : ∀ {l : List α} {i : Nat}, KP p i l = none → ∀ x ∈ l, p x = false
 | [], _, _ => fun x hx => by cases hx
 | y :: r, i, h => by
  unfold KP at h
  split at h
  ·cases h
  rename_i hp;intro x hx
  rcases List.mem_cons.1 hx with rfl | hx
  ·simpa using hp
  exact Oj h x hx
theorem Uy {N : Nat} {p : B5} (hb : p.Sets.length < 1000000000) (hN : p.Sets.length < N) : V7 N p = some (HZ p).isNone := by
 unfold V7;rw [LD (l := p.Sets) (p := Nb) (e := .inl ()) (b := fun _ _ => .inr ()) (N := N) ?_ ?_ hN]
 ·simp only [Option.bind_some];unfold HZ;cases KP Nb 0 p.Sets <;> rfl
 ·intro i x hx hi;simp only [D2, W4, E2, H5, hx, Option.bind_some, decide_eq_true_eq];rw [if_pos (by omega), Q1 hi (by omega)]
  by_cases h : 0 < x.length
  ·rw [if_pos (by omega), if_pos h]
  rw [if_neg (by omega), if_neg h]
 simp [D2, E2]
theorem TC {N : Nat} {p : B5} (hb : p.Sets.length < 1000000000) (hN : p.Sets.length < N) : Y9 N p = some (match HZ p with | some (k, x :: _) => ⟨(k : Int), x.Low⟩ | _ => ⟨0, 0⟩) := by
 unfold Y9;rw [LD (l := p.Sets) (p := Nb) (e := .inl ()) (b := fun i x => match x with | y :: _ => .inr ⟨(i : Int), y.Low⟩ | [] => .inl ()) (N := N) ?_ ?_ hN]
 ·simp only [Option.bind_some];unfold HZ
  cases h : KP Nb 0 p.Sets with
  | none => rfl
  | some q =>
   obtain ⟨k, x⟩ := q
   cases x with
   | nil => rfl
   | cons y r => rfl
 ·intro i x hx hi;simp only [D2, W4, E2, H5, hx, Option.bind_some, decide_eq_true_eq];rw [if_pos (by omega), Q1 hi (by omega)]
  cases x with
  | nil => simp
  | cons y r =>
   rw [if_pos (by simp), if_pos (by simp)];rfl
 simp [D2, E2]
def Z4 (p : B5) : B2 := match HZ p with | some (k, x :: _) => ⟨(k : Int), x.Low⟩ | _ => ⟨0, 0⟩
end Go.Ab
namespace Go.Ab
abbrev vd (p : B5) : Bool := (HZ p).isNone
theorem SI {N : Nat} {t : Int} {p : B5} (hN : 300 < N) (hp : Iv t p = 0) : X5 N p = some (vd p) := by
 obtain ⟨_, h0⟩ := Ez hp;unfold X5 AD;simp only [FI (show 256 < N by omega), Option.bind_some, h0, show Ar.cmp .neq (0 : Int) 0 = false from rfl, Bool.false_eq_true, if_false];obtain ⟨hlen, _⟩ := BK h0;rw [LE (by omega) (by omega)];simp only [Option.bind_some];have hh := MN p.Sets 0;unfold vd
 cases hf : fl 0 p.Sets with
 | nil =>
  rw [hf] at hh
  cases hq : HZ p with
  | none => rfl
  | some q => rw [show KP Nb 0 p.Sets = some q from hq] at hh; cases hh
 | cons y r =>
  rw [hf] at hh
  cases hq : HZ p with
  | none => rw [show KP Nb 0 p.Sets = none from hq] at hh; cases hh
  | some q => rfl
def Ed (s : A5) (i j : Nat) : Prop := ∃ m ∈ s.Moves, m.From = (i : Int) ∧ m.To = (j : Int) ∧ vd m.On = false
def Rc (s : A5) : Nat → Nat → Prop
 | 0, i => s.Finals[i]? = some true
 | k + 1, i => ∃ j, Ed s i j ∧ Rc s k j
def GQ (s : A5) (i k : Nat) : Prop := Rc s k i ∧ ∀ j, j < k → ¬Rc s j i
theorem Ch {s : A5} {i k l : Nat} (h : GQ s i k) (h' : GQ s i l) : k = l := by
 rcases Nat.lt_trichotomy k l with c | c | c
 ·exact absurd h.1 (h'.2 k c)
 ·exact c
 exact absurd h'.1 (h.2 l c)
theorem HV {s : A5} {i : Nat} : ∀ {k : Nat}, Rc s k i → ∃ l, l ≤ k ∧ GQ s i l := by
 intro k
 induction k using Nat.strongRecOn with
 | _ k ih =>
  intro h
  by_cases c : ∃ j, j < k ∧ Rc s j i
  ·obtain ⟨j, hj, hr⟩ := c;obtain ⟨l, h1, h2⟩ := ih j hj hr;exact ⟨l, by omega, h2⟩
  exact ⟨k, Nat.le_refl _, h, fun j hj hr => c ⟨j, hj, hr⟩⟩
theorem FB {s : A5} {i k : Nat} (h : GQ s i (k + 1)) : ∃ j, Ed s i j ∧ GQ s j k := by
 obtain ⟨j, he, hr⟩ := h.1;obtain ⟨l, h1, h2⟩ := HV hr
 have : l = k := by
  rcases Nat.lt_or_ge l k with c | c
  ·exact absurd ⟨j, he, h2.1⟩ (h.2 (l + 1) (by omega))
  omega
 subst this;exact ⟨j, he, h2⟩
theorem Lt {s : A5} : ∀ {k i : Nat}, GQ s i k → ∀ j, j ≤ k → ∃ i', GQ s i' j
 | 0, i, h, j, hj => ⟨i, by rw [show j = 0 by omega]; exact h⟩
 | k + 1, i, h, j, hj => by
  by_cases c : j = k + 1
  ·exact ⟨i, by rw [c]; exact h⟩
  obtain ⟨i', _, h'⟩ := FB h;exact Lt h' j (by omega)
theorem Qu {s : A5} (hs : KF s) : ∀ {k i : Nat}, Rc s k i → i < s.Finals.length
 | 0, i, h => by
  rcases Nat.lt_or_ge i s.Finals.length with c | c
  ·exact c
  have h' : s.Finals[i]? = some true := h
  rw [List.getElem?_eq_none c] at h'; cases h'
 | k + 1, i, h => by
  obtain ⟨j, ⟨m, hm, f, _⟩, _⟩ := h;have := (hs.each m hm).1;omega
theorem Ls {s : A5} : ∀ {k i : Nat}, GQ s i k → ∃ l : List Nat, l.length = k + 1 ∧ ∀ j : Nat, j ≤ k → ∃ x, l[j]? = some x ∧ GQ s x (k - j)
 | 0, i, h => ⟨[i], rfl, fun j hj => ⟨i, by rw [show j = 0 by omega]; rfl, by rw [show 0 - j = 0 by omega]; exact h⟩⟩
 | k + 1, i, h => by
  obtain ⟨i', _, h'⟩ := FB h;obtain ⟨l, h1, h2⟩ := Ls h';refine ⟨i :: l, by simp [h1], fun j hj => ?_⟩
  cases j with
  | zero => exact ⟨i, rfl, h⟩
  | succ j =>
   obtain ⟨x, h3, h4⟩ := h2 j (by omega);exact ⟨x, h3, by rw [show k + 1 - (j + 1) = k - j by omega]; exact h4⟩
theorem JJ : ∀ {n : Nat} {l : List Nat}, l.Nodup → (∀ x ∈ l, x < n) → l.length ≤ n
 | 0, [], _, _ => Nat.le_refl _
 | 0, x :: _, _, h => absurd (h x (by simp)) (by omega)
 | n + 1, l, hn, h => by
  have h1 := JJ (n := n) (l := l.filter (fun x => decide (x ≠ n))) (hn.filter _) (fun x hx => by
   obtain ⟨a, b⟩ := List.mem_filter.1 hx;have := h x a;have : x ≠ n := of_decide_eq_true b
   omega)
  have h2 : l.length ≤ (l.filter (fun x => decide (x ≠ n))).length + 1 := by
   clear h h1
   induction l with
   | nil => simp
   | cons x l ih =>
    obtain ⟨hx, hl⟩ := List.nodup_cons.1 hn
    by_cases e : x = n
    ·subst e;rw [List.filter_cons_of_neg (by simp)]
     rw [List.filter_eq_self.2 (fun y hy => by
      have : y ≠ x := by rintro rfl; exact hx hy
      simpa using this)]
     simp
    rw [List.filter_cons_of_pos (by simpa using e)];have := ih hl;simp only [List.length_cons];omega
  omega
theorem PL {s : A5} (hs : KF s) {i k : Nat} (h : GQ s i k) : k < s.Finals.length := by
 obtain ⟨l, h1, h2⟩ := Ls h
 have hn : l.Nodup := by
  rw [List.nodup_iff_pairwise_ne, List.pairwise_iff_getElem];intro a b ha hb hab e;obtain ⟨x, e1, d1⟩ := h2 a (by omega);obtain ⟨y, e2, d2⟩ := h2 b (by omega)
  rw [List.getElem?_eq_getElem ha] at e1; rw [List.getElem?_eq_getElem hb] at e2
  cases e1; cases e2
  rw [e] at d1
  have := Ch d1 d2;omega
 have := JJ hn (n := s.Finals.length) (fun x hx => by
  obtain ⟨j, hj⟩ := List.getElem?_of_mem hx
  have hlt : j < l.length := by
   rcases Nat.lt_or_ge j l.length with c | c
   ·exact c
   rw [List.getElem?_eq_none c] at hj; cases hj
  obtain ⟨y, e, d⟩ := h2 j (by omega)
  rw [hj] at e; cases e
  exact Qu hs d.1)
 omega
structure Mp (M : List (Int × Int)) : Prop where
 nd : (M.map (·.1)).Nodup
theorem Od {k v v' : Int} : ∀ {M : List (Int × Int)}, (M.map (·.1)).Nodup → (k, v) ∈ M → (k, v') ∈ M → v = v'
 | [], _, h, _ => by cases h
 | p :: M, hn, h, h' => by
  rw [List.map_cons, List.nodup_cons] at hn
  rcases List.mem_cons.1 h with e | h
  ·rcases List.mem_cons.1 h' with e' | h'
   ·rw [← e] at e'; cases e'; rfl
   exact absurd (List.mem_map.2 ⟨_, h', by rw [← e]⟩) hn.1
  rcases List.mem_cons.1 h' with e' | h'
  ·exact absurd (List.mem_map.2 ⟨_, h, by rw [← e']⟩) hn.1
  exact Od hn.2 h h'
theorem HY {M : List (Int × Int)} {k : Int} (h : ∀ v, ¬(k, v) ∈ M) : Da M k (0 : Int) = some (0, false) := by
 unfold Da
 rw [List.find?_eq_none.2 (fun p hp => by
  obtain ⟨a, b⟩ := p;simp only [decide_eq_true_eq];rintro rfl
  exact h b hp)]
theorem Ga {M : List (Int × Int)} (hM : Mp M) {k v : Int} (h : (k, v) ∈ M) : Da M k (0 : Int) = some (v, true) := by
 unfold Da
 cases hf : M.find? (fun p => decide (p.1 = k)) with
 | none => have := List.find?_eq_none.1 hf _ h; simp at this
 | some p =>
  have h1 := List.mem_of_find?_eq_some hf;have h2 := List.find?_some hf
  simp only [decide_eq_true_eq] at h2
  have : p = (k, v) := by
   obtain ⟨a, b⟩ := p
   simp only at h2
   subst h2;rw [Od hM.nd h1 h]
  simp only [this]
theorem Ny {M : List (Int × Int)} (hM : Mp M) {k v : Int} (h : ∀ v, ¬(k, v) ∈ M) : Ck M k v = some (M ++ [(k, v)]) ∧ Mp (M ++ [(k, v)]) := by
 constructor
 ·unfold Ck;rw [if_neg];simp only [List.any_eq_true, decide_eq_true_eq];rintro ⟨p, hp, e⟩;exact h p.2 (by rw [← e]; exact hp)
 refine ⟨?_⟩;rw [List.map_append, List.nodup_append];refine ⟨hM.nd, by simp, fun a ha b hb => ?_⟩
 simp only [List.map_cons, List.map_nil, List.mem_singleton] at hb
 subst hb;obtain ⟨p, hp, e⟩ := List.mem_map.1 ha;rintro rfl;exact h p.2 (by rw [← e]; exact hp)
structure Qk (s : A5) (a : Nat) (T1 T2 : List Int) (M : List (Int × Int)) : Prop where
 mp : Mp M
 ok : ∀ k v, (k, v) ∈ M → ∃ i d : Nat, k = (i : Int) ∧ v = (d : Int) ∧ GQ s i d ∧ d ≤ a + 1
 t1 : ∀ k ∈ T1, (k, (a : Int)) ∈ M
 t2 : ∀ k ∈ T2, (k, (a : Int) + 1) ∈ M
 kn : ∀ i k : Nat, k ≤ a → Rc s k i → ∃ v, ((i : Int), v) ∈ M
 up : ∀ k, (k, (a : Int) + 1) ∈ M → k ∈ T2
 dn : ∀ i j : Nat, Ed s i j → GQ s j a → ¬(j : Int) ∈ T1 → ∃ v, ((i : Int), v) ∈ M
theorem Qk.next {s : A5} {a : Nat} {T2 : List Int} {M : List (Int × Int)} (h : Qk s a [] T2 M) : Qk s (a + 1) T2 [] M := by
 refine ⟨h.mp, fun k v hk => ?_, fun k hk => by simpa using h.t2 k hk, (fun k hk => by cases hk), fun i k hk hr => ?_, fun k hk => ?_, fun i j he hj hn => ?_⟩
 ·obtain ⟨i, d, e1, e2, e3, e4⟩ := h.ok k v hk;exact ⟨i, d, e1, e2, e3, by omega⟩
 ·rcases Nat.lt_or_ge a k with c | c
  ·obtain ⟨l, h1, h2⟩ := HV hr
   rcases Nat.lt_or_ge a l with c' | c'
   ·have : l = a + 1 := by omega
    subst this;obtain ⟨j, he, hj⟩ := FB h2;exact h.dn i j he hj (by simp)
   exact h.kn i l c' h2.1
  exact h.kn i k c hr
 ·obtain ⟨i, d, e1, e2, e3, e4⟩ := h.ok _ _ hk;omega
 obtain ⟨j', he', hj'⟩ := FB hj;obtain ⟨v, hv⟩ := h.dn j j' he' hj' (by simp);obtain ⟨i2, d, e1, e2, e3, e4⟩ := h.ok _ _ hv
 have : i2 = j := by omega
 subst this;have := Ch hj e3;subst this;exact absurd (h.up _ (by rw [e2] at hv; exact_mod_cast hv)) hn
end Go.Ab
