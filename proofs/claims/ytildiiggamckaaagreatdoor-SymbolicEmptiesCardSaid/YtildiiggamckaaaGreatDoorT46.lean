/- GYX5 GYPr -/
import Derived.Test.YtildiiggamckaaaGreatDoorT45
import Derived.Test.YtildiiggamckaaaGreatDoorT34
import Derived.Test.YtildiiggamckaaaGreatDoorT41
import Derived.Test.YtildiiggamckaaaGreatDoorT40
import Derived.Test.YtildiiggamckaaaGreatDoorTie
import Derived.WalkKit
import Derived.ProofKit
import Derived.OpenShut
import Derived.Deep.DeepHandedRow
import Derived.Carry
set_option linter.all false
namespace Go.Ab
theorem Rx {t : Int} {p : B5} (hp : Iv t p = 0) (hv : vd p = false) : Po t (Z4 p) = 0 := by
 obtain ⟨ht, h0⟩ := Ez hp;obtain ⟨_, hsrt⟩ := BK h0;unfold Z4
 cases hf : HZ p with
 | none => rw [show vd p = (HZ p).isNone from rfl, hf] at hv; cases hv
 | some q =>
  obtain ⟨k, l⟩ := q;obtain ⟨h1, h2, h3, _⟩ := Ke (show KP Nb 0 p.Sets = some (k, l) from hf);have hkl := (List.getElem?_eq_some_iff.1 h2).1
  cases l with
  | nil => simp [Nb] at h3
  | cons x l =>
   have hs := (hsrt _ (List.mem_of_getElem? h2)).2.1 x (by simp);unfold Po
   simp only
   rw [if_neg (by omega), if_neg (by omega)]
section
variable {s : A5}
structure Wr (s : A5) (left : Nat) (S : List (Int × Bool)) (b : List Bool) : Prop where
 tru : OM S
 len : b.length = s.Finals.length
 p1 : ∀ k : Int, (k, true) ∈ S ↔ ∃ i : Nat, k = (i : Int) ∧ b[i]? = some true ∧ GQ s i left
 p2 : ∀ i : Nat, b[i]? = some true → ∀ k, GQ s i k → left ≤ k
structure Dst (s : A5) (d : List Int) : Prop where
 len : d.length = s.Finals.length
 at' : ∀ j : Nat, j < s.Finals.length → ∃ v, d[j]? = some v ∧ ((∃ k : Nat, v = (k : Int) ∧ GQ s j k) ∨ (v = -1 ∧ ∀ k, ¬Rc s k j))
theorem Ux {left : Nat} {S S' : List (Int × Bool)} {b b' : List Bool} {x : B2} (hs : KF s) (h : Wr s (left + 1) S b) (ht : OM S')
 (hS : ∀ k, (k, true) ∈ S' ↔ ∃ p ∈ S, ∃ m ∈ s.Moves, m.From = p.1 ∧ m.To = k ∧ My s left m = true ∧ KD m.On x = true) (hl : b'.length = s.Finals.length)
 (hb : ∀ k : Nat, b'[k]? = some true ↔ ∃ m ∈ s.Moves, b[m.From.toNat]? = some true ∧ m.To = (k : Int) ∧ KD m.On x = true) : Wr s left S' b' := by
 refine ⟨ht, hl, fun k => ?_, fun i hi k hk => ?_⟩
 ·rw [hS]
  constructor
  ·rintro ⟨p, hp, m, hm, f, t, n, c⟩;have hp2 := h.tru.2 p hp;obtain ⟨q, v⟩ := p
   simp only at hp2 f
   subst hp2;obtain ⟨i, e, hi, _⟩ := (h.p1 q).1 hp;obtain ⟨u, hu, hD⟩ := Fq.1 n;exact ⟨u, by omega, (hb u).2 ⟨m, hm, by rw [f, e, show (i : Int).toNat = i by omega]; exact hi, hu, c⟩, hD⟩
  rintro ⟨i, rfl, hi, hD⟩;obtain ⟨m, hm, f, t, c⟩ := (hb i).1 hi;have hm2 := (hs.each m hm).1;obtain ⟨k', hk', hD'⟩ := HV (show Rc s (left + 1) m.From.toNat from ⟨i, ⟨m, hm, by omega, t, TJ c⟩, hD.1⟩);have := h.p2 _ f _ hD'
  obtain rfl : k' = left + 1 := by omega
  exact ⟨(m.From, true), (h.p1 _).2 ⟨m.From.toNat, by omega, f, hD'⟩, m, hm, rfl, t, Fq.2 ⟨i, t, hD⟩, c⟩
 obtain ⟨m, hm, f, t, c⟩ := (hb i).1 hi;have hm2 := (hs.each m hm).1;obtain ⟨k', hk', hD'⟩ := HV (show Rc s (k + 1) m.From.toNat from ⟨i, ⟨m, hm, by omega, t, TJ c⟩, hk.1⟩);have := h.p2 _ f _ hD';omega
noncomputable def Xs (N : Nat) (s : A5) (b : List Bool) (r1 : List Int) (left : Int) (s11 : Bool × Int × B2) : Option ((Bool × Int × B2) ⊕ (B2)) :=
 if Ar.cmp .lss s11.2.1 (Ar.len s.Moves) = true then
  (C3 s.Moves s11.2.1).bind fun x13 =>
  (C3 b x13.From).bind fun x14 =>
  if x14 = true then
   (C3 r1 x13.From).bind fun x15 =>
   if Ar.cmp .eql x15 left = true then
    (C3 r1 x13.To).bind fun x16 =>
    if Ar.cmp .eql x16 (Ar.ar .sub .i64 left 1) = true then
     (V7 N x13.On).bind fun r17 =>
     if Ar.nt r17 = true then
      (Y9 N x13.On).bind fun r18 =>
      if Ar.nt s11.1 = true then
       some (.inl (true, Ar.ar .add .i64 s11.2.1 1, r18))
      else
       (Bc N r18 s11.2.2).bind fun r19 =>
       if r19 = true then
        some (.inl (true, Ar.ar .add .i64 s11.2.1 1, r18))
       else
        some (.inl (s11.1, Ar.ar .add .i64 s11.2.1 1, s11.2.2))
     else
      some (.inl (s11.1, Ar.ar .add .i64 s11.2.1 1, s11.2.2))
    else
     some (.inl (s11.1, Ar.ar .add .i64 s11.2.1 1, s11.2.2))
   else
    some (.inl (s11.1, Ar.ar .add .i64 s11.2.1 1, s11.2.2))
  else
   some (.inl (s11.1, Ar.ar .add .i64 s11.2.1 1, s11.2.2))
 else
  some (.inr s11.2.2)
def WM (s : A5) (b : List Bool) (left : Nat) (m : D0) : Prop := b[m.From.toNat]? = some true ∧ GQ s m.From.toNat (left + 1) ∧ My s left m = true ∧ vd m.On = false
noncomputable def WN (s : A5) (b : List Bool) (left : Nat) (st : Bool × B2) (m : D0) : Option ((Bool × B2) ⊕ B2) := some (.inl (@ite _ (WM s b left m) (Classical.propDecidable _) (nxt st (Z4 m.On)) st))
theorem MU {b : List Bool} {left : Nat} : ∀ (l : List D0) (C : B2 → Prop) (st : Bool × B2), Mn C st →
 ∃ st', F2 (WN s b left) l st = some (.inl st') ∧ Mn (fun x => C x ∨ ∃ m ∈ l, WM s b left m ∧ x = Z4 m.On) st'
 | [], C, st, h => ⟨st, rfl, Cl h fun x => by simp⟩
 | m :: l, C, st, h => by
  by_cases hc : WM s b left m
  ·obtain ⟨st', e2, h2⟩ := MU l _ _ (QF h (Z4 m.On));refine ⟨st', by rw [F2, show WN s b left st m = some (.inl (nxt st (Z4 m.On))) by unfold WN; rw [if_pos hc]]; exact e2, Cl h2 fun x => ?_⟩
   constructor
   ·rintro ((hx | rfl) | ⟨y, hy, hx⟩)
    ·exact .inl hx
    ·exact .inr ⟨m, by simp, hc, rfl⟩
    exact .inr ⟨y, List.mem_cons_of_mem _ hy, hx⟩
   rintro (hx | ⟨y, hy, hx⟩)
   ·exact .inl (.inl hx)
   rcases List.mem_cons.1 hy with rfl | hy
   ·exact .inl (.inr hx.2)
   exact .inr ⟨y, hy, hx⟩
  obtain ⟨st', e2, h2⟩ := MU l _ _ h;refine ⟨st', by rw [F2, show WN s b left st m = some (.inl st) by unfold WN; rw [if_neg hc]]; exact e2, Cl h2 fun x => ?_⟩
  constructor
  ·rintro (hx | ⟨y, hy, hx⟩)
   ·exact .inl hx
   exact .inr ⟨y, List.mem_cons_of_mem _ hy, hx⟩
  rintro (hx | ⟨y, hy, hx⟩)
  ·exact .inl hx
  rcases List.mem_cons.1 hy with rfl | hy
  ·exact absurd hx.1 hc
  exact .inr ⟨y, hy, hx⟩
theorem QT {d : List Int} (hd : Dst s d) {j k : Nat} {v : Int} (hj : j < s.Finals.length) (hv : d[j]? = some v) : v = (k : Int) ↔ GQ s j k := by
 obtain ⟨w, e, hc⟩ := hd.at' j hj
 rw [hv] at e; cases e
 rcases hc with ⟨k', rfl, hD⟩ | ⟨rfl, hn⟩
 ·constructor
  ·intro h; rw [show k = k' by omega]; exact hD
  intro h; rw [Ch h hD]
 exact ⟨fun h => by omega, fun h => absurd h.1 (hn k)⟩
theorem Wy {b : List Bool} {d : List Int} {left : Nat} (hs : KF s) (hd : Dst s d) (hb : b.length = s.Finals.length) (hl : left < 900) :
 ∃ st, loopN (Xs 40000000 s b d ((left : Int) + 1)) 40000000 (false, 0, (⟨0, 0⟩ : B2)) = some st.2 ∧ Mn (fun x => ∃ m ∈ s.Moves, WM s b left m ∧ x = Z4 m.On) st := by
 have hmv := hs.mv;obtain ⟨st, e, h⟩ := MU (s := s) (b := b) (left := left) s.Moves (fun _ => False) (false, (⟨0, 0⟩ : B2)) (.inl ⟨rfl, fun _ h => h⟩);refine ⟨st, ?_, Cl h fun x => by simp⟩;have := Lo (α := D0) (σ := Bool × B2) (R := B2) s.Moves (by omega) (step := Xs 40000000 s b d ((left : Int) + 1)) (fun st i => (st.1, i, st.2)) (WN s b left) (fun st => st.2) (false, (⟨0, 0⟩ : B2)) (N := 40000000) (by omega) ?_ ?_
 ·rw [this, e]; rfl
 ·intro st i m hm hi;obtain ⟨⟨⟨f0, f1⟩, t0, t1⟩, hp⟩ := hs.each m (List.mem_of_getElem? hm);obtain ⟨f, hfr⟩ : ∃ f : Nat, m.From = (f : Int) := ⟨m.From.toNat, by omega⟩;obtain ⟨t, hto⟩ : ∃ t : Nat, m.To = (t : Int) := ⟨m.To.toNat, by omega⟩;have hbf := List.getElem?_eq_getElem (show f < b.length by omega);obtain ⟨v, hv, _⟩ := hd.at' f (by omega);obtain ⟨w, hw, _⟩ := hd.at' t (by omega);have i1 := QT hd (k := left + 1) (show f < s.Finals.length by omega) hv;have i2 := QT hd (k := left) (show t < s.Finals.length by omega) hw
  have hff : m.From.toNat = f := by omega
  have hnr : My s left m = true ↔ GQ s t left := by
   rw [Fq];exact ⟨fun ⟨u, hu, hD⟩ => by rw [show t = u by omega]; exact hD, fun hD => ⟨t, hto, hD⟩⟩
  unfold Xs WN;simp only [D2, E2, H5, hm, Option.bind_some, decide_eq_true_eq, hfr, hto, hbf, hv, hw, Y0, Jk left (by omega), Nz (show 300 < 40000000 by omega) hp, RA (show 300 < 40000000 by omega) hp];rw [if_pos hi, DC (by omega) (by omega)]
  by_cases hc : WM s b left m
  ·obtain ⟨c1, c2, c3, c4⟩ := hc
   rw [hff] at c1 c2
   rw [if_pos (show WM s b left m from ⟨by rw [hff]; exact c1, by rw [hff]; exact c2, c3, c4⟩)]
   have b1 : b[f] = true := by rw [hbf] at c1; exact Option.some.inj c1
   have v1 : v = (left : Int) + 1 := by have := i1.2 c2; omega
   have w1 : w = (left : Int) := i2.2 (hnr.1 c3);rw [if_pos b1, if_pos v1, if_pos w1];simp only [c4, Ao, Bool.not_false, if_true];obtain ⟨g, x⟩ := st;unfold nxt
   cases g with
   | false => rfl
   | true =>
    simp only [Bool.not_true, Bool.false_eq_true, if_false, (Ub 40000000 _ _).2, Option.bind_some];cases OR (Z4 m.On) x <;> rfl
  rw [if_neg hc]
  by_cases b1 : b[f] = true
  ·rw [if_pos b1]
   by_cases v1 : v = (left : Int) + 1
   ·rw [if_pos v1]
    by_cases w1 : w = (left : Int)
    ·rw [if_pos w1]
     cases c4 : vd m.On with
     | true => simp [Ao]
     | false => exact absurd ⟨by rw [hff, hbf, b1], by rw [hff]; exact i1.1 (by omega), hnr.2 (i2.1 w1), c4⟩ hc
    rw [if_neg w1]
   rw [if_neg v1]
  rw [if_neg b1]
 intro st;unfold Xs;simp [D2, E2]
noncomputable def prS (N : Nat) (s : A5) (l2 : List (Int × Int)) (s12 : (List B2) × (List (Int × Bool)) × Int) : Option (((List B2) × (List (Int × Bool)) × Int) ⊕ (((List B2) × (List (Int × Bool)) × Int))) :=
 if Ar.cmp .gtr s12.2.2 0 = true then
  (BI (Xu N s l2 s12.2.2) (fun (s23 : Bool × B2) => ((s23.1, s23.2) : (Bool × B2))) (fun (y : (Bool × B2)) => y) s12.2.1 (false, (⟨0, 0⟩ : B2))).bind fun s27 =>
  (BI (XC N s l2 s12.2.2 s27.2) (fun (s48 : (List (Int × Bool))) => (s48 : ((List (Int × Bool))))) (fun (y : ((List (Int × Bool)))) => (CP y : ((List (Int × Bool))))) s12.2.1 ([] : List (Int × Bool))).bind fun s53 =>
  ((
   (Q2 s12.1 ([s27.2])).bind fun l196 =>
   some l196
  ) : Option (((List B2)))).bind fun s74 =>
  some (.inl (s74, s53, Ar.ar .sub .i64 s12.2.2 1))
 else
  some (.inr (s12.1, s12.2.1, s12.2.2))
noncomputable def rfS (N : Nat) (s : A5) (r1 : List Int) (s7 : (List Bool) × (List B2) × Int) : Option (((List Bool) × (List B2) × Int) ⊕ (((List B2)))) :=
 if Ar.cmp .gtr s7.2.2 0 = true then
  (loopN (Xs N s s7.1 r1 s7.2.2) N (false, 0, (⟨0, 0⟩ : B2))).bind fun s12 =>
  (Q2 s7.2.1 ([s12])).bind fun l21 =>
  (BF N s s7.1 s12).bind fun l22 =>
  some (.inl (l22, l21, Ar.ar .sub .i64 s7.2.2 1))
 else
  some (.inr s7.2.1)
theorem Vz (N : Nat) (s : A5) : U3 N s = (O0 N s).bind fun r1 =>
 if Ar.cmp .neq r1 0 = true then
  some (false, [], r1)
 else
  (M6 N s).bind fun l2 =>
  (Da l2 0 (0 : Int)).bind fun r5 =>
  if Ar.nt r5.2 = true then
   some (true, [], 0)
  else
   (Ck ([] : List (Int × Bool)) 0 true).bind fun l10 =>
   (loopN (prS N s l2) N ([], l10, r5.1)).bind fun s17 =>
   some (false, s17.1, 0) := rfl
theorem RY (N : Nat) (s : A5) : Dr N s = (P3 N s).bind fun r1 =>
 (OQ (Ar.len r1) (Ar.len r1) (false : Bool)).bind fun l3 =>
 (Bx (Dw l3 0)).bind fun _ =>
 (Ba l3 0 (fun x4 : Bool => true)).bind fun l5 =>
 (C3 r1 0).bind fun x6 =>
 (loopN (rfS N s r1) N (l5, [], x6)).bind fun s9 =>
 some s9 := rfl
theorem QS {M : List (Int × Int)} {d : List Int} (hs : KF s) (hM : KZ s M) (hd : Dst s d) : ∀ (left N : Nat) (w : List B2) (S : List (Int × Bool)) (b : List Bool), Wr s left S b → w.length + left ≤ 900 → left < N →
 ∃ S' w', loopN (prS 40000000 s M) N (w, S, (left : Int)) = some (w', S', 0) ∧ loopN (rfS 40000000 s d) N (b, w, (left : Int)) = some w' ∧ w'.length ≤ 900
 | 0, N, w, S, b, h, hw, hN => by
  obtain ⟨N, rfl⟩ : ∃ K, N = K + 1 := ⟨N - 1, by omega⟩;exact ⟨S, w, rfl, rfl, by omega⟩
 | left + 1, N, w, S, b, h, hw, hN => by
  obtain ⟨N, rfl⟩ : ∃ K, N = K + 1 := ⟨N - 1, by omega⟩;obtain ⟨st, e1, h1⟩ := leP hs hM (show left < 1000 by omega) S;obtain ⟨st', e2, h2⟩ := Wy hs hd h.len (show left < 900 by omega)
  have hCn : ∀ x, Cn s left S x ↔ ∃ m ∈ s.Moves, WM s b left m ∧ x = Z4 m.On := fun x => by
   constructor
   ·rintro ⟨p, hp, m, hm, f, ⟨c1, c2⟩, rfl⟩;have hp2 := h.tru.2 p hp;obtain ⟨q, v⟩ := p
    simp only at hp2 f
    subst hp2;obtain ⟨i, e, hi, hD⟩ := (h.p1 q).1 hp
    have hfi : m.From.toNat = i := by omega
    exact ⟨m, hm, ⟨by rw [hfi]; exact hi, by rw [hfi]; exact hD, c2, c1⟩, rfl⟩
   rintro ⟨m, hm, ⟨c1, c2, c3, c4⟩, rfl⟩;have hm2 := (hs.each m hm).1;exact ⟨(m.From, true), (h.p1 _).2 ⟨m.From.toNat, by omega, c1, c2⟩, m, hm, rfl, ⟨c4, c3⟩, rfl⟩
  have hst : st = st' := QE (Cl h1 hCn) h2;subst hst
  have hx : Po s.Types st.2 = 0 := by
   rcases h2 with ⟨rfl, _⟩ | ⟨_, ⟨m, hm, ⟨_, _, _, c4⟩, ex⟩, _⟩
   ·unfold Po;have := hs.ty
    simp only
    rw [if_neg (by omega), if_neg (by omega)]
   rw [ex]; exact Rx (hs.each m hm).2 c4
  obtain ⟨S', e3, h3, h4⟩ := adP hs hM (show left < 1000 by omega) hx S;obtain ⟨b', e4, h5, h6⟩ := Vd (N := 40000000) (by omega) hx hs h.len
  have hap : Q2 w [st.2] = some (w ++ [st.2]) := by unfold Q2; rw [if_pos (by simp; omega)]
  obtain ⟨S2, w2, e5, e6, h7⟩ := QS hs hM hd left N (w ++ [st.2]) S' b' (Ux hs h h3 h4 h5 h6) (by simp; omega) (by omega);have hsub := Jk left (by omega)
  have hg : Ar.cmp .gtr ((left : Int) + 1) 0 = true := by simp only [W4, decide_eq_true_eq]; omega
  refine ⟨S2, w2, ?_, ?_, h7⟩
  ·have e : prS 40000000 s M (w, S, (left : Int) + 1) = some (.inl (w ++ [st.2], S', (left : Int))) := by
    unfold prS;simp only [hg, if_true, e1, e3, Option.bind_some, hap, hsub]
   rw [show ((left + 1 : Nat) : Int) = (left : Int) + 1 by omega, loopN, e];exact e5
  have e : rfS 40000000 s d (b, w, (left : Int) + 1) = some (.inl (b', w ++ [st.2], (left : Int))) := by
   unfold rfS;simp only [hg, if_true, e2, e4, Option.bind_some, hap, hsub]
  rw [show ((left + 1 : Nat) : Int) = (left : Int) + 1 by omega, loopN, e];exact e6
theorem Sf (s : A5) : ∃ r, U3 40000000 s = some r ∧ Cc 40000000 s = some r ∧ r.2.1.length ≤ 900 := by
 rw [Vz];unfold Cc;rw [Ry (by omega), Pt (by omega)];simp only [Option.bind_some]
 by_cases h0 : VV s = 0
 ·simp only [h0, show Ar.cmp .neq (0 : Int) 0 = false from rfl, Bool.false_eq_true, if_false];have hs := Wn h0;have hf := hs.fi;obtain ⟨M, e1, h1, h2⟩ := VA hs;obtain ⟨d, e2, h3, h4⟩ := SW hs;have hM : KZ s M := ⟨h1, h2⟩;have hd : Dst s d := ⟨h3, h4⟩;obtain ⟨v, hv, hc⟩ := h4 0 (by omega)
  have hv0 : C3 d 0 = some v := by rw [show (0 : Int) = ((0 : Nat) : Int) from rfl, H5]; exact hv
  simp only [e1, e2, Option.bind_some, hv0]
  rcases hc with ⟨k, rfl, hD⟩ | ⟨rfl, hn⟩
  ·have hk := PL hs hD;rw [Ga h1 ((h2 0 (k : Int)).2 ⟨0, k, rfl, rfl, hD⟩)];simp only [Option.bind_some, Ao, Bool.not_true, Bool.false_eq_true, if_false];rw [if_neg (by simp [D2])];have hset : Ck ([] : List (Int × Bool)) 0 true = some [(0, true)] := rfl;rw [hset, RY, e2];have hst := Rg (n := s.Finals.length) hf.1
   have hw : Wr s k [(0, true)] ((List.replicate s.Finals.length false).set 0 true) := by
    refine ⟨hst.tru, hst.len, fun q => ?_, fun i hi k' hk' => ?_⟩
    ·rw [hst.mem]
     constructor
     ·rintro ⟨i, rfl, hi⟩
      have : i = 0 := by
       have := (hst.mem (i : Int)).2 ⟨i, rfl, hi⟩
       simp at this; omega
      subst this;exact ⟨0, rfl, hi, hD⟩
     rintro ⟨i, e, hi, _⟩; exact ⟨i, e, hi⟩
    have : i = 0 := by
     have := (hst.mem (i : Int)).2 ⟨i, rfl, hi⟩
     simp at this; omega
    subst this;rw [Ch hk' hD];exact Nat.le_refl _
   obtain ⟨S', w', e3, e4, hlen⟩ := QS hs hM hd k 40000000 [] _ _ hw (by simp; omega) (by omega);simp only [Option.bind_some, E2, OQ, h3];rw [if_pos (by omega)];simp only [Option.bind_some, show ((s.Finals.length : Int)).toNat = s.Finals.length by omega];rw [show Dw (List.replicate s.Finals.length false) 0 = true by unfold Dw; simp; omega]
   have hu : Ba (List.replicate s.Finals.length false) 0 (fun _ => true) = some ((List.replicate s.Finals.length false).set 0 true) := by
    unfold Ba C3;simp only [Int.le_refl, if_true, Int.toNat_zero];rw [List.getElem?_replicate, if_pos (by omega)];rfl
   simp only [Bx, if_true, Option.bind_some, hu, hv0, e3, e4];exact ⟨_, rfl, rfl, hlen⟩
  rw [HY (fun v hv => by
   obtain ⟨i, k, e, _, hD⟩ := (h2 0 v).1 hv
   have : i = 0 := by omega
   subst this
   exact hn k hD.1)]
  simp only [Option.bind_some, Ao, Bool.not_false, if_true];rw [if_pos (by simp [D2])];exact ⟨_, rfl, rfl, by simp⟩
 simp only [show Ar.cmp .neq (VV s) 0 = true from by simp [Bs, h0], if_true];exact ⟨_, rfl, rfl, by simp⟩
theorem Xj {w : List B2} (h : w.length ≤ 900) : S3 40000000 w w = some true := by
 unfold S3;rw [if_neg (by simp [Bs])];rw [Ac (l := w) (f := fun _ _ => 0) (e := .inl ()) (b := fun _ => .inr ()) (N := 40000000) ?_ ?_ (by omega)]
 ·rw [if_pos (BX.2 fun _ _ _ => rfl)];rfl
 ·intro i x hx hi;simp only [D2, Y0, E2, H5, hx, Option.bind_some, decide_eq_true_eq, Ae, Ao, decide_true, Bool.and_self, Bool.not_true, Bool.false_eq_true, if_false, if_true];rw [if_pos (by omega), Q1 hi (by omega)]
 simp [D2, E2]
theorem Ou (aw : AS 40000000 = some true) (s : A5) : R5 40000000 s = some true := by
 unfold R5;obtain ⟨b, e, _⟩ := UG (N := 40000000) (s := s) (by omega);simp only [e, Option.bind_some, aw]
 split
 ·rfl
 obtain ⟨r, h1, h2, h3⟩ := Sf s;simp only [h1, h2, Option.bind_some, show Ar.beq r.1 r.1 = true by cases r.1 <;> rfl, if_true, Xj h3, Ae, Y0, decide_true, Bool.and_self]
end
end Go.Ab
namespace Go.Ab
open Go.RowKit Go.ChangeShapes Go.WideShapes Go.ChangeAt Go.Proofs Go.Proofs.YtildiiggamckaaaGreatDoor
set_option maxRecDepth 100000
section
variable {H : Type} {enc : TypeId × Value → H} {W : World} {base : Nat} {spare : Nat → Bool} {held : Bool}
theorem u294 : Tryz.prog.underlying 294 = some (.array K3.length 293) := by kernel_rfl
theorem u293 : Tryz.prog.underlying 293 = some (.struct (ML Tryz.prog 293)) := by kernel_rfl
theorem PC (n : Nat) : Opens enc Tryz.prog W base spare held 293 G6.eYr (fun (a : O8) d => d = .agg [.lit (.int .i64 a.least), .lit (.int .i64 a.most), .lit (.bool a.typed), .lit (.bool a.cond), .lit (.bool a.scope), .lit (.bool a.span)]) n := by
 intro cs x h;obtain ⟨xs, m, rfl, rfl, hcl, hl, hf⟩ := DataW.trod_struct u293 h;obtain ⟨y0, k0, t0⟩ := Q7 hl hf 0 (ty := 3) (off := 0) (sz := 1) (by kernel_rfl);obtain ⟨y1, k1, t1⟩ := Q7 hl hf 1 (ty := 3) (off := 1) (sz := 1) (by kernel_rfl);obtain ⟨y2, k2, t2⟩ := Q7 hl hf 2 (ty := 4) (off := 2) (sz := 1) (by kernel_rfl);obtain ⟨y3, k3, t3⟩ := Q7 hl hf 3 (ty := 4) (off := 3) (sz := 1) (by kernel_rfl);obtain ⟨y4, k4, t4⟩ := Q7 hl hf 4 (ty := 4) (off := 4) (sz := 1) (by kernel_rfl);obtain ⟨y5, k5, t5⟩ := Q7 hl hf 5 (ty := 4) (off := 5) (sz := 1) (by kernel_rfl);have hxs := Wz (hl.trans (by kernel_rfl)) k0 k1 k2 k3 k4 k5;obtain ⟨a0, r0, q0⟩ := HS u3 _ _ t0;obtain ⟨a1, r1, q1⟩ := HS u3 _ _ t1;obtain ⟨a2, r2, q2⟩ := CV u4 _ _ t2;obtain ⟨a3, r3, q3⟩ := CV u4 _ _ t3;obtain ⟨a4, r4, q4⟩ := CV u4 _ _ t4;obtain ⟨a5, r5, q5⟩ := CV u4 _ _ t5;refine ⟨⟨a0, a1, a2, a3, a4, a5⟩, ?_, ?_⟩
 ·have hc3 : cs.length = 6 := hcl.trans (by kernel_rfl);have := ((((r0.join r1).join r2).join r3).join r4).join r5;rw [G6.eYF]
  simpa [List.take_of_length_le, hc3, V.cells] using this
 rw [hxs];simp only [List.map_cons, List.map_nil, q0, q1, q2, q3, q4, q5]
theorem Lf : ∀ (l k : List O8), (RL (H := H) (fun (a : O8) d => d = .agg [.lit (.int .i64 a.least), .lit (.int .i64 a.most), .lit (.bool a.typed), .lit (.bool a.cond), .lit (.bool a.scope), .lit (.bool a.span)]) l
 (k.map fun a => .agg [.lit (.int .i64 a.least), .lit (.int .i64 a.most), .lit (.bool a.typed), .lit (.bool a.cond), .lit (.bool a.scope), .lit (.bool a.span)])) → l = k
 | [], [], _ => rfl
 | [], _ :: _, h => by have := h.1; simp at this
 | _ :: _, [], h => by have := h.1; simp at this
 | a :: l, b :: k, h => by
  have h0 := h.2 0 a _ rfl rfl;have h1 := Lf l k ⟨by simpa using h.1, fun i a d hi hd => h.2 (i + 1) a d (by simpa using hi) (by simpa using hd)⟩;subst h1;obtain ⟨a0, a1, a2, a3, a4, a5⟩ := a;obtain ⟨b0, b1, b2, b3, b4, b5⟩ := b
  simp at h0
  simp [h0]
theorem Oc (h : laidMetH Tryz.prog Rows.symbolicChecksRow.laid W) : VR (g0 W) W (.pointer (some ⟨0, 0, none⟩)) (G5.gl 0) := by
 have h' : laidMet Tryz.prog Rows.symbolicChecksRow.laid W := h;obtain ⟨ps, ⟨g', t', cs, fuel, p, q, hg', ht', hvar, hd, _, _⟩, _⟩ := h';obtain rfl : g' = 0 := Option.some.inj (hg'.symm.trans (by kernel_rfl));obtain rfl : t' = 294 := Option.some.inj (ht'.symm.trans (by kernel_rfl));obtain ⟨l, hr, ds, hds, hl⟩ := NN u294 (by kernel_rfl) (by decide) (fun n => PC n) hd
 have e : ds = K3.map fun a => .agg [.lit (.int .i64 a.least), .lit (.int .i64 a.most), .lit (.bool a.typed), .lit (.bool a.cond), .lit (.bool a.scope), .lit (.bool a.span)] := by
  have e2 : (Rows.laid_tidegate_pattern_shapes : DataW Unit) = .agg ds := hds;have e3 : (Rows.laid_tidegate_pattern_shapes : DataW Unit) = .agg (K3.map fun a => .agg [.lit (.int .i64 a.least), .lit (.int .i64 a.most), .lit (.bool a.typed), .lit (.bool a.cond), .lit (.bool a.scope), .lit (.bool a.span)]) := rfl
  rw [e3] at e2
  exact (DataW.agg.inj e2).symm
 subst e;obtain rfl := Lf _ _ hl;exact Of hg' hvar hr
theorem WG (h : laidMetH Tryz.prog Rows.symbolicChecksRow.laid W) : ∀ n, VR (g0 W) W (.pointer (some ⟨n, 0, none⟩)) (G5.gl n)
 | 0 => Oc h
 | _ + 1 => .bad _
end
end Go.Ab
