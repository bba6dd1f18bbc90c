/- GYX4 GYL5 GYW5 -/
import Derived.Test.YtildiiggamckaaaGreatDoorT44
import Derived.Test.YtildiiggamckaaaGreatDoorT43
import Derived.KernelRfl
set_option linter.all false
namespace Go.Ab
theorem UB {N : Nat} {t : Int} {p : B5} (hN : 300 < N) (hp : Iv t p = 0) : P1 N p = some (if vd p = true then (⟨0, 0⟩, 6) else (Z4 p, 0)) := by
 obtain ⟨_, h0⟩ := Ez hp;unfold P1;simp only [FI (show 256 < N by omega), Option.bind_some, h0, show Ar.cmp .neq (0 : Int) 0 = false from rfl, Bool.false_eq_true, if_false];obtain ⟨hlen, _⟩ := BK h0;rw [LE (by omega) (by omega)];simp only [Option.bind_some];have hh := MN p.Sets 0;unfold Z4 vd
 cases hf : fl 0 p.Sets with
 | nil =>
  rw [hf] at hh
  cases hq : HZ p with
  | none => rfl
  | some q => rw [show KP Nb 0 p.Sets = some q from hq] at hh; cases hh
 | cons y r =>
  rw [hf] at hh
  cases hq : HZ p with
  | none => rw [show KP Nb 0 p.Sets = none from hq] at hh; cases hh
  | some q =>
   obtain ⟨k, x⟩ := q;have hq' : KP Nb 0 p.Sets = some (k, x) := hq
   rw [hq'] at hh
   simp only [List.head?_cons, Option.map_some, Option.some.injEq] at hh
   subst hh;have hx := (Ke hq').2.2.1
   cases x with
   | nil => simp [Nb] at hx
   | cons a x => rfl
theorem RA {N : Nat} {t : Int} {p : B5} (hN : 300 < N) (hp : Iv t p = 0) : Y9 N p = some (Z4 p) := by
 obtain ⟨_, h0⟩ := Ez hp;obtain ⟨hlen, _⟩ := BK h0;exact TC (by omega) (by omega)
theorem TJ {p : B5} {x : B2} (h : KD p x = true) : vd p = false := by
 obtain ⟨h0, l, hl, y, hy, _⟩ := Ka.1 h
 cases hv : vd p with
 | false => rfl
 | true =>
  have : KP Nb 0 p.Sets = none := by
   have : (HZ p).isNone = true := hv
   simpa using this
  have := Oj this l (List.mem_of_getElem? hl)
  cases l with
  | nil => cases hy
  | cons a l => simp [Nb] at this
def OR (x y : B2) : Bool := decide (x.Typ < y.Typ) || (decide (x.Typ = y.Typ) && decide (x.Num < y.Num))
theorem Ub (N : Nat) (x y : B2) : W7 N x y = some (OR x y) ∧ Bc N x y = some (OR x y) := ⟨rfl, rfl⟩
theorem Hy {x y : B2} : OR x y = true ↔ x.Typ < y.Typ ∨ x.Typ = y.Typ ∧ x.Num < y.Num := by simp [OR]
theorem Si {x y : B2} (h : OR x y = false) (h' : OR y x = false) : x = y := by
 have h1 : ¬(x.Typ < y.Typ ∨ x.Typ = y.Typ ∧ x.Num < y.Num) := fun c => by rw [Hy.2 c] at h; cases h
 have h2 : ¬(y.Typ < x.Typ ∨ y.Typ = x.Typ ∧ y.Num < x.Num) := fun c => by rw [Hy.2 c] at h'; cases h'
 obtain ⟨a, b⟩ := x;obtain ⟨c, d⟩ := y
 simp only at h1 h2
 have e1 : a = c := by omega
 have e2 : b = d := by omega
 rw [e1, e2]
def Mn (C : B2 → Prop) (st : Bool × B2) : Prop := (st = (false, ⟨0, 0⟩) ∧ ∀ c, ¬C c) ∨ (st.1 = true ∧ C st.2 ∧ ∀ c, C c → OR c st.2 = false)
def nxt (st : Bool × B2) (c : B2) : Bool × B2 := if st.1 = false then (true, c) else if OR c st.2 = true then (true, c) else st
theorem QY (x : B2) : OR x x = false := by simp [OR]
theorem QF {C : B2 → Prop} {st : Bool × B2} (h : Mn C st) (c : B2) : Mn (fun x => C x ∨ x = c) (nxt st c) := by
 unfold nxt
 rcases h with ⟨rfl, h⟩ | ⟨h1, h2, h3⟩
 ·rw [if_pos rfl];refine .inr ⟨rfl, .inr rfl, fun x hx => ?_⟩
  rcases hx with hx | rfl
  ·exact absurd hx (h x)
  exact QY x
 rw [if_neg (by rw [h1]; simp)]
 by_cases hb : OR c st.2 = true
 ·rw [if_pos hb];refine .inr ⟨rfl, .inr rfl, fun x hx => ?_⟩
  rcases hx with hx | rfl
  ·have := h3 x hx
   cases hxc : OR x c with
   | false => rfl
   | true =>
    have e1 := Hy.1 hxc;have e2 := Hy.1 hb;have : OR x st.2 = true := Hy.2 (by omega)
    rw [h3 x hx] at this; cases this
  exact QY x
 rw [if_neg hb];refine .inr ⟨h1, .inl h2, fun x hx => ?_⟩
 rcases hx with hx | rfl
 ·exact h3 x hx
 cases hc : OR x st.2 with
 | false => rfl
 | true => exact absurd hc hb
theorem Cl {C C' : B2 → Prop} {st : Bool × B2} (h : Mn C st) (hc : ∀ x, C x ↔ C' x) : Mn C' st := by
 have : C = C' := funext fun x => propext (hc x);rw [← this]; exact h
theorem QE {C : B2 → Prop} {st st' : Bool × B2} (h : Mn C st) (h' : Mn C st') : st = st' := by
 rcases h with ⟨rfl, h⟩ | ⟨h1, h2, h3⟩
 ·rcases h' with ⟨rfl, _⟩ | ⟨_, k2, _⟩
  ·rfl
  exact absurd k2 (h _)
 rcases h' with ⟨rfl, k⟩ | ⟨k1, k2, k3⟩
 ·exact absurd h2 (k _)
 exact Prod.ext (by rw [h1, k1]) (Si (h := k3 _ h2) (h' := h3 _ k2))
section
variable {s : A5} {M : List (Int × Int)} {left : Nat}
structure KZ (s : A5) (M : List (Int × Int)) : Prop where
 mp : Mp M
 mem : ∀ k v, (k, v) ∈ M ↔ ∃ i d : Nat, k = (i : Int) ∧ v = (d : Int) ∧ GQ s i d
noncomputable def My (s : A5) (left : Nat) (m : D0) : Bool := @decide (∃ t : Nat, m.To = (t : Int) ∧ GQ s t left) (Classical.propDecidable _)
theorem Fq {m : D0} : My s left m = true ↔ ∃ t : Nat, m.To = (t : Int) ∧ GQ s t left := by unfold My; exact @decide_eq_true_iff _ (Classical.propDecidable _)
theorem Jk (left : Nat) (h : left < 1000) : Ar.ar .sub .i64 ((left : Int) + 1) 1 = (left : Int) := by
 show IntKind.wrap .i64 (((left : Int) + 1) - 1) = _
 rw [Fa (by omega) (by omega)]; omega
theorem Ei {N : Nat} {m : D0} (hM : KZ s M) (hl : left < 1000) : K4 N m M ((left : Int) + 1) = some (My s left m) := by
 unfold K4
 by_cases h : ∃ v, (m.To, v) ∈ M
 ·obtain ⟨v, hv⟩ := h;rw [Ga hM.mp hv];simp only [Option.bind_some, Ae, Y0, Jk left hl, Bool.true_and, Option.some.injEq];obtain ⟨i, d, e1, e2, e3⟩ := (hM.mem _ _).1 hv;apply Bool.eq_iff_iff.2;rw [Fq, decide_eq_true_eq]
  constructor
  ·intro h1;exact ⟨i, e1, by rw [show left = d by omega]; exact e3⟩
  rintro ⟨t, ht, hD⟩
  have : t = i := by omega
  subst this;rw [e2, Ch hD e3]
 rw [HY (fun v hv => h ⟨v, hv⟩)];simp only [Option.bind_some, Ae, Bool.false_and, Option.some.injEq]
 symm
 cases hn : My s left m with
 | false => rfl
 | true =>
  obtain ⟨t, ht, hD⟩ := Fq.1 hn;exact absurd ⟨_, (hM.mem _ _).2 ⟨t, left, ht, rfl, hD⟩⟩ h
noncomputable def leI (N : Nat) (M : List (Int × Int)) (left : Int) (st : Bool × B2) (m : D0) : Option ((Bool × B2) ⊕ Unit) :=
 (P1 N m.On).bind fun r37 =>
 if Ar.cmp .eql r37.2 0 = true then
  (K4 N m M left).bind fun r38 =>
  if r38 = true then
   if Ar.nt st.1 = true then
    some (.inl (true, r37.1))
   else
    (W7 N r37.1 st.2).bind fun r39 =>
    if r39 = true then
     some (.inl (true, r37.1))
    else
     some (.inl (st.1, st.2))
  else
   some (.inl (st.1, st.2))
 else
  some (.inl (st.1, st.2))
theorem WD {N : Nat} {t : Int} {m : D0} {st : Bool × B2} (hN : 300 < N) (hM : KZ s M) (hl : left < 1000) (hp : Iv t m.On = 0) :
 leI N M ((left : Int) + 1) st m = some (.inl (if vd m.On = false ∧ My s left m = true then nxt st (Z4 m.On) else st)) := by
 unfold leI;rw [UB hN hp];simp only [Option.bind_some]
 cases hv : vd m.On with
 | true => simp [Y0]
 | false =>
  simp only [Bool.false_eq_true, if_false, show Ar.cmp .eql (0 : Int) 0 = true from rfl, if_true, Ei hM hl, Option.bind_some, true_and]
  cases hn : My s left m with
  | false => simp
  | true =>
   simp only [if_true];unfold nxt;obtain ⟨f, x⟩ := st
   cases f with
   | false => rfl
   | true =>
    simp only [Ao, Bool.not_true, Bool.false_eq_true, if_false, (Ub N _ _).1, Option.bind_some];cases OR (Z4 m.On) x <;> rfl
theorem MF {N : Nat} {t : Int} (hN : 300 < N) (hM : KZ s M) (hl : left < 1000) : ∀ (l : List D0) (C : B2 → Prop) (st : Bool × B2), (∀ m ∈ l, Iv t m.On = 0) → Mn C st →
 ∃ st', F2 (leI N M ((left : Int) + 1)) l st = some (.inl st') ∧ Mn (fun x => C x ∨ ∃ m ∈ l, (vd m.On = false ∧ My s left m = true) ∧ x = Z4 m.On) st'
 | [], C, st, _, h => ⟨st, rfl, Cl h fun x => by simp⟩
 | m :: l, C, st, hp, h => by
  have e := WD (st := st) hN hM hl (hp m (by simp));have hp' := fun y hy => hp y (List.mem_cons_of_mem m hy)
  by_cases hc : vd m.On = false ∧ My s left m = true
  ·rw [if_pos hc] at e
   obtain ⟨st', e2, h2⟩ := MF hN hM hl l _ _ hp' (QF h (Z4 m.On));refine ⟨st', by rw [F2, e]; exact e2, Cl h2 fun x => ?_⟩
   constructor
   ·rintro ((hx | rfl) | ⟨y, hy, hx⟩)
    ·exact .inl hx
    ·exact .inr ⟨m, by simp, hc, rfl⟩
    exact .inr ⟨y, List.mem_cons_of_mem _ hy, hx⟩
   rintro (hx | ⟨y, hy, hx⟩)
   ·exact .inl (.inl hx)
   rcases List.mem_cons.1 hy with rfl | hy
   ·exact .inl (.inr hx.2)
   exact .inr ⟨y, hy, hx⟩
  rw [if_neg hc] at e
  obtain ⟨st', e2, h2⟩ := MF hN hM hl l _ _ hp' h;refine ⟨st', by rw [F2, e]; exact e2, Cl h2 fun x => ?_⟩
  constructor
  ·rintro (hx | ⟨y, hy, hx⟩)
   ·exact .inl hx
   exact .inr ⟨y, List.mem_cons_of_mem _ hy, hx⟩
  rintro (hx | ⟨y, hy, hx⟩)
  ·exact .inl hx
  rcases List.mem_cons.1 hy with rfl | hy
  ·exact absurd hx.1 hc
  exact .inr ⟨y, hy, hx⟩
noncomputable def Xu (N : Nat) (s : A5) (M : List (Int × Int)) (left : Int) (st : Bool × B2) (p : Int × Bool) : Option ((Bool × B2) ⊕ (Bool × B2)) :=
 (N4 N s p.1).bind fun r30 => (F2 (leI N M left) r30 (st.1, st.2)).bind fun o36 => match o36 with | .inl s42 => some (.inl (s42.1, s42.2)) | .inr _ => none
def Cn (s : A5) (left : Nat) (l : List (Int × Bool)) (x : B2) : Prop := ∃ p ∈ l, ∃ m ∈ s.Moves, m.From = p.1 ∧ (vd m.On = false ∧ My s left m = true) ∧ x = Z4 m.On
theorem ME {N : Nat} (hN : 3000 < N) (hs : KF s) (hM : KZ s M) (hl : left < 1000) : ∀ (l : List (Int × Bool)) (C : B2 → Prop) (st : Bool × B2), Mn C st →
 ∃ st', F2 (Xu N s M ((left : Int) + 1)) l st = some (.inl st') ∧ Mn (fun x => C x ∨ Cn s left l x) st'
 | [], C, st, h => ⟨st, rfl, Cl h fun x => by simp [Cn]⟩
 | p :: l, C, st, h => by
  obtain ⟨st1, e1, h1⟩ := MF (N := N) (t := s.Types) (by omega) hM hl (s.Moves.filter fun m => decide (m.From = p.1)) C st (fun m hm => (hs.each m (List.mem_filter.1 hm).1).2) h;obtain ⟨st', e2, h2⟩ := ME hN hs hM hl l _ _ h1;refine ⟨st', ?_, Cl h2 fun x => ?_⟩
  ·rw [F2, show Xu N s M ((left : Int) + 1) st p = some (.inl st1) by simp [Xu, QO hN hs.mv, e1]];exact e2
  constructor
  ·rintro ((hx | ⟨m, hm, hx⟩) | ⟨q, hq, hx⟩)
   ·exact .inl hx
   ·obtain ⟨hm, e⟩ := List.mem_filter.1 hm;exact .inr ⟨p, by simp, m, hm, by simpa using e, hx⟩
   exact .inr ⟨q, List.mem_cons_of_mem _ hq, hx⟩
  rintro (hx | ⟨q, hq, m, hm, e, hx⟩)
  ·exact .inl (.inl hx)
  rcases List.mem_cons.1 hq with rfl | hq
  ·exact .inl (.inr ⟨m, List.mem_filter.2 ⟨hm, by simpa using e⟩, hx⟩)
  exact .inr ⟨q, hq, m, hm, e, hx⟩
theorem leP (hs : KF s) (hM : KZ s M) (hl : left < 1000) (S : List (Int × Bool)) :
 ∃ st, BI (Xu 40000000 s M ((left : Int) + 1)) (fun s23 => ((s23.1, s23.2) : Bool × B2)) (fun y => y) S (false, (⟨0, 0⟩ : B2)) = some st ∧ Mn (Cn s left S) st := by
 have h0 : Mn (fun _ => False) (false, (⟨0, 0⟩ : B2)) := .inl ⟨rfl, fun _ h => h⟩;obtain ⟨st, e, h⟩ := ME (N := 40000000) (by omega) hs hM hl S _ _ h0
 have h := Cl h (C' := Cn s left S) fun x => by simp
 refine ⟨st, Lj fun m hm => ?_, h⟩;obtain ⟨st2, e2, h2⟩ := ME (N := 40000000) (by omega) hs hM hl m _ _ h0
 have h2 := Cl h2 (C' := Cn s left S) fun x => by
  simp only [false_or];exact ⟨fun ⟨p, hp, hx⟩ => ⟨p, hm.mem_iff.1 hp, hx⟩, fun ⟨p, hp, hx⟩ => ⟨p, hm.mem_iff.2 hp, hx⟩⟩
 rw [e2, QE h2 h];rfl
noncomputable def VI (N : Nat) (M : List (Int × Int)) (left : Int) (x : B2) (S : List (Int × Bool)) (m : D0) : Option (List (Int × Bool) ⊕ Unit) :=
 (K4 N m M left).bind fun r64 => if r64 = true then (K8 N m.On x).bind fun r65 => if r65 = true then (Ck S m.To true).bind fun l67 => some (.inl l67) else some (.inl S) else some (.inl S)
theorem Wo {S : List (Int × Bool)} (h : OM S) {k : Int} (hk : (k, true) ∈ S) : Ck S k true = some S := by
 unfold Ck;rw [if_pos (by simp only [List.any_eq_true, decide_eq_true_eq]; exact ⟨_, hk, rfl⟩)]
 congr 1
 refine (List.map_congr_left fun p hp => ?_).trans (List.map_id S)
 by_cases e : p.1 = k
 ·rw [if_pos e];have := h.2 p hp;exact Prod.ext e.symm this.symm
 rw [if_neg e]; rfl
theorem MZ {N : Nat} {t : Int} {x : B2} (hN : 300 < N) (hM : KZ s M) (hl : left < 1000) (hx : Po t x = 0) : ∀ (l : List D0) (S : List (Int × Bool)), (∀ m ∈ l, Iv t m.On = 0) → OM S →
 ∃ S', F2 (VI N M ((left : Int) + 1) x) l S = some (.inl S') ∧ OM S' ∧ ∀ k, (k, true) ∈ S' ↔ (k, true) ∈ S ∨ ∃ m ∈ l, m.To = k ∧ My s left m = true ∧ KD m.On x = true
 | [], S, _, hS => ⟨S, rfl, hS, fun k => by simp⟩
 | m :: l, S, hp, hS => by
  have hp' := fun y hy => hp y (List.mem_cons_of_mem m hy);have hc := Mj (x := x) hN (hp m (by simp)) hx
  have skip : VI N M ((left : Int) + 1) x S m = some (.inl S) → (My s left m = true ∧ KD m.On x = true → (m.To, true) ∈ S) →
   ∃ S', F2 (VI N M ((left : Int) + 1) x) (m :: l) S = some (.inl S') ∧ OM S' ∧ ∀ k, (k, true) ∈ S' ↔ (k, true) ∈ S ∨ ∃ y ∈ m :: l, y.To = k ∧ My s left y = true ∧ KD y.On x = true := by
   intro e hk;obtain ⟨S', e2, h2, h3⟩ := MZ hN hM hl hx l S hp' hS;refine ⟨S', by rw [F2, e]; exact e2, h2, fun k => ?_⟩;rw [h3 k]
   constructor
   ·rintro (h | ⟨y, hy, h⟩)
    ·exact .inl h
    exact .inr ⟨y, List.mem_cons_of_mem _ hy, h⟩
   rintro (h | ⟨y, hy, h⟩)
   ·exact .inl h
   rcases List.mem_cons.1 hy with rfl | hy
   ·exact .inl (by rw [← h.1]; exact hk h.2)
   exact .inr ⟨y, hy, h⟩
  by_cases hn : My s left m = true ∧ KD m.On x = true
  ·by_cases hin : (m.To, true) ∈ S
   ·exact skip (by simp [VI, Ei hM hl, hn.1, hc, hn.2, Wo hS hin]) fun _ => hin
   obtain ⟨_, g2, g3⟩ := Vw hS hin;obtain ⟨S', e2, h2, h3⟩ := MZ hN hM hl hx l _ hp' g3;refine ⟨S', by rw [F2, show VI N M ((left : Int) + 1) x S m = some (.inl (S ++ [(m.To, true)])) by simp [VI, Ei hM hl, hn.1, hc, hn.2, g2]]; exact e2, h2, fun k => ?_⟩;rw [h3 k]
   constructor
   ·rintro (h | ⟨y, hy, h⟩)
    ·rcases List.mem_append.1 h with h | h
     ·exact .inl h
     simp only [List.mem_singleton, Prod.mk.injEq, and_true] at h
     exact .inr ⟨m, by simp, h.symm, hn⟩
    exact .inr ⟨y, List.mem_cons_of_mem _ hy, h⟩
   rintro (h | ⟨y, hy, h⟩)
   ·exact .inl (List.mem_append_left _ h)
   rcases List.mem_cons.1 hy with rfl | hy
   ·exact .inl (List.mem_append_right _ (by rw [h.1]; simp))
   exact .inr ⟨y, hy, h⟩
  refine skip ?_ fun h => absurd h hn
  cases h1 : My s left m with
  | false => simp [VI, Ei hM hl, h1]
  | true =>
   have h2 : KD m.On x = false := by cases h2 : KD m.On x with | false => rfl | true => exact absurd ⟨h1, h2⟩ hn
   simp [VI, Ei hM hl, h1, hc, h2]
noncomputable def XC (N : Nat) (s : A5) (M : List (Int × Int)) (left : Int) (x : B2) (S : List (Int × Bool)) (p : Int × Bool) : Option (List (Int × Bool) ⊕ List (Int × Bool)) :=
 (N4 N s p.1).bind fun r56 => (F2 (VI N M left x) r56 S).bind fun o63 => match o63 with | .inl s71 => some (.inl s71) | .inr _ => none
theorem MY {N : Nat} {x : B2} (hN : 3000 < N) (hs : KF s) (hM : KZ s M) (hl : left < 1000) (hx : Po s.Types x = 0) : ∀ (l S : List (Int × Bool)), OM S →
 ∃ S', F2 (XC N s M ((left : Int) + 1) x) l S = some (.inl S') ∧ OM S' ∧ ∀ k, (k, true) ∈ S' ↔ (k, true) ∈ S ∨ ∃ p ∈ l, ∃ m ∈ s.Moves, m.From = p.1 ∧ m.To = k ∧ My s left m = true ∧ KD m.On x = true
 | [], S, hS => ⟨S, rfl, hS, fun k => by simp⟩
 | p :: l, S, hS => by
  obtain ⟨S1, e1, h1, h2⟩ := MZ (N := N) (t := s.Types) (by omega) hM hl hx (s.Moves.filter fun m => decide (m.From = p.1)) S (fun m hm => (hs.each m (List.mem_filter.1 hm).1).2) hS;obtain ⟨S', e, h3, h4⟩ := MY hN hs hM hl hx l S1 h1;refine ⟨S', ?_, h3, fun k => ?_⟩
  ·rw [F2, show XC N s M ((left : Int) + 1) x S p = some (.inl S1) by simp [XC, QO hN hs.mv, e1]];exact e
  rw [h4 k, h2 k]
  constructor
  ·rintro ((h | ⟨m, hm, h⟩) | ⟨q, hq, h⟩)
   ·exact .inl h
   ·obtain ⟨hm, e⟩ := List.mem_filter.1 hm;exact .inr ⟨p, by simp, m, hm, by simpa using e, h⟩
   exact .inr ⟨q, List.mem_cons_of_mem _ hq, h⟩
  rintro (h | ⟨q, hq, m, hm, e, h⟩)
  ·exact .inl (.inl h)
  rcases List.mem_cons.1 hq with rfl | hq
  ·exact .inl (.inr ⟨m, List.mem_filter.2 ⟨hm, by simpa using e⟩, h⟩)
  exact .inr ⟨q, hq, m, hm, e, h⟩
theorem adP {x : B2} (hs : KF s) (hM : KZ s M) (hl : left < 1000) (hx : Po s.Types x = 0) (S : List (Int × Bool)) :
 ∃ S', BI (XC 40000000 s M ((left : Int) + 1) x) (fun S => S) (fun S => CP S) S ([] : List (Int × Bool)) = some S' ∧ OM S' ∧ ∀ k, (k, true) ∈ S' ↔ ∃ p ∈ S, ∃ m ∈ s.Moves, m.From = p.1 ∧ m.To = k ∧ My s left m = true ∧ KD m.On x = true := by
 obtain ⟨S', e, h1, h2⟩ := MY (N := 40000000) (by omega) hs hM hl hx S [] Qp;refine ⟨CP S', Lj fun m hm => ?_, SH h1, fun k => ?_⟩
 ·obtain ⟨S2, e2, h3, h4⟩ := MY (N := 40000000) (by omega) hs hM hl hx m [] Qp;rw [e2];simp only [Option.map_some, Sa, Option.some.injEq];refine UA h3 h1 fun k => ?_;rw [h4, h2];simp only [List.not_mem_nil, false_or];exact ⟨fun ⟨p, hp, h⟩ => ⟨p, hm.mem_iff.1 hp, h⟩, fun ⟨p, hp, h⟩ => ⟨p, hm.mem_iff.2 hp, h⟩⟩
 rw [(CO S').mem_iff, h2];simp
end
end Go.Ab
namespace Go.Ab
set_option maxRecDepth 100000
theorem WH {N : Nat} {p : B5} (hN : 10 < N) : ∃ b, BH N p = some b ∧ (b = true → p.Sets.length ≤ 4 ∧ ∀ x ∈ p.Sets, x.length ≤ 12) := by
 unfold BH;rw [Ac (l := p.Sets.take 5) (f := fun _ x => if x.length ≤ 12 then 0 else 1) (e := .inl ()) (b := fun _ => .inr ()) (N := N) ?_ ?_ (by simp; omega)]
 ·simp only [Option.bind_some]
  by_cases h : fb (fun _ (x : List A2) => if x.length ≤ 12 then (0 : Int) else 1) 0 (p.Sets.take 5) = 0
  ·rw [if_pos h];refine ⟨_, rfl, fun hb => ?_⟩
   simp only [EP, E2, decide_eq_true_eq] at hb
   refine ⟨by omega, fun x hx => ?_⟩;obtain ⟨k, hk⟩ := List.getElem?_of_mem hx;have hkl := (List.getElem?_eq_some_iff.1 hk).1;have := BX.1 h k x (by rw [List.getElem?_take]; rw [if_pos (by omega)]; exact hk)
   split at this
   ·assumption
   cases this
  rw [if_neg h];exact ⟨_, rfl, fun h => by cases h⟩
 ·intro i x hx hi
  rw [List.getElem?_take] at hx
  have hi5 : i < 5 ∧ i < p.Sets.length := by simp at hi; omega
  rw [if_pos hi5.1] at hx
  unfold FP;simp only [D2, EP, Ae, Ao, E2, H5, hx, Option.bind_some, Bool.and_eq_true, decide_eq_true_eq, Bool.not_eq_true', decide_eq_false_iff_not];rw [if_pos (by omega), Q1 hi5.1 (by omega)]
  by_cases h : x.length ≤ 12
  ·rw [if_neg (by omega), if_pos (by rw [if_pos h])]
  rw [if_pos (by omega), if_neg (by rw [if_neg h]; decide)]
 simp only [D2, Ae, E2, Bool.and_eq_true, decide_eq_true_eq, List.length_take];rw [if_neg (by omega)]
end Go.Ab
namespace Go.Ab
theorem UG {N : Nat} {s : A5} (hN : 30 < N) : ∃ b, Eb N s = some b ∧ (b = true → s.Finals.length ≤ 8 ∧ s.Moves.length ≤ 16 ∧ ∀ m ∈ s.Moves, m.On.Sets.length ≤ 4 ∧ ∀ x ∈ m.On.Sets, x.length ≤ 12) := by
 unfold Eb;have hc : ∀ m : D0, ∃ b, BH N m.On = some b ∧ (b = true → m.On.Sets.length ≤ 4 ∧ ∀ x ∈ m.On.Sets, x.length ≤ 12) := fun m => WH (by omega);obtain ⟨F, hF⟩ : ∃ F : D0 → Bool, ∀ m, BH N m.On = some (F m) ∧ (F m = true → m.On.Sets.length ≤ 4 ∧ ∀ x ∈ m.On.Sets, x.length ≤ 12) := ⟨fun m => (hc m).choose, fun m => (hc m).choose_spec⟩;rw [Ac (l := s.Moves.take 20) (f := fun _ m => if F m = true then 0 else 1) (e := .inl ()) (b := fun _ => .inr ()) (N := N) ?_ ?_ (by simp; omega)]
 ·simp only [Option.bind_some]
  by_cases h : fb (fun _ (m : D0) => if F m = true then (0 : Int) else 1) 0 (s.Moves.take 20) = 0
  ·rw [if_pos h];refine ⟨_, rfl, fun hb => ?_⟩
   simp only [EP, Ae, E2, Bool.and_eq_true, decide_eq_true_eq] at hb
   refine ⟨by omega, by omega, fun m hm => ?_⟩;obtain ⟨k, hk⟩ := List.getElem?_of_mem hm;have hkl := (List.getElem?_eq_some_iff.1 hk).1;have := BX.1 h k m (by rw [List.getElem?_take]; rw [if_pos (by omega)]; exact hk)
   split at this
   ·rename_i h2; exact (hF m).2 h2
   cases this
  rw [if_neg h];exact ⟨_, rfl, fun h => by cases h⟩
 ·intro i x hx hi
  rw [List.getElem?_take] at hx
  have hi5 : i < 20 ∧ i < s.Moves.length := by simp at hi; omega
  rw [if_pos hi5.1] at hx
  simp only [D2, Ae, Ao, E2, H5, hx, Option.bind_some, (hF x).1, Bool.and_eq_true, decide_eq_true_eq, Bool.not_eq_true'];rw [if_pos (by omega), Q1 hi5.1 (by omega)];cases F x <;> simp
 simp only [D2, Ae, E2, Bool.and_eq_true, decide_eq_true_eq, List.length_take];rw [if_neg (by omega)]
end Go.Ab
