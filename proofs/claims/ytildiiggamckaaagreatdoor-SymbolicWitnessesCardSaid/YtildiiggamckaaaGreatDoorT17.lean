/- GXW3 GXL4 GXX1 GXX2 GXX4 GXL5 GXW5 GXV1 GXV2 GXV3 GXPr -/
import Derived.Test.YtildiiggamckaaaGreatDoorT16
import Derived.KernelRfl
import Derived.Test.YtildiiggamckaaaGreatDoorTie
import Derived.WalkKit
import Derived.ProofKit
import Derived.OpenShut
import Derived.Deep.DeepHandedRow
import Derived.Carry
set_option linter.all false
namespace Go.Ab
structure SG (n : Nat) (S : List (Int × Bool)) (b : List Bool) : Prop where
 len : b.length = n
 tru : Lb S
 mem : ∀ k : Int, (k, true) ∈ S ↔ ∃ i : Nat, k = (i : Int) ∧ b[i]? = some true
theorem RT {s : A3} {x : B2} {S : List (Int × Bool)} {b : List Bool} (hx : FP s.cS x = 0) (hs : IB s) (h : SG s.cM.length S b) :
 ∃ S' b', V3 (Nx 40000000 s x) (fun S => S) (fun S => AC S) S ([] : List (Int × Bool)) = some S' ∧ Q4 40000000 s b x = some b' ∧ SG s.cM.length S' b' := by
 obtain ⟨S', e1, h1, h2⟩ := addP (N := 40000000) (by omega) hx hs S;obtain ⟨b', e2, h3, h4⟩ := QP (N := 40000000) (by omega) hx hs h.len;refine ⟨S', b', e1, e2, h3, h1, fun k => ?_⟩;rw [h2]
 constructor
 ·rintro ⟨p, hp, m, hm, f, t, c⟩;have hp2 := h.tru.2 p hp;obtain ⟨q, v⟩ := p
  simp only at hp2 f
  subst hp2;obtain ⟨i, e, hi⟩ := (h.mem q).1 hp;have hm2 := (hs.each m hm).1;refine ⟨k.toNat, by omega, (h4 _).2 ⟨m, hm, ?_, by omega, c⟩⟩;rw [f, e, show (i : Int).toNat = i by omega]; exact hi
 rintro ⟨i, rfl, hi⟩;obtain ⟨m, hm, f, t, c⟩ := (h4 i).1 hi;have hm2 := (hs.each m hm).1;exact ⟨(m.cQ, true), (h.mem _).2 ⟨m.cQ.toNat, by omega, f⟩, m, hm, rfl, t, c⟩
theorem Ob {s : A3} (hs : IB s) : ∀ (w : List B2) (S : List (Int × Bool)) (b : List Bool), (∀ x ∈ w, FP s.cS x = 0) → SG s.cM.length S b →
 ∃ S' b', D0 (R := List (Int × Bool)) (fun S x => (V3 (Nx 40000000 s x) (fun S => S) (fun S => AC S) S ([] : List (Int × Bool))).bind fun q => some (.inl q)) w S = some (.inl S') ∧
  D0 (R := List Bool) (fun b x => (Q4 40000000 s b x).bind fun q => some (.inl q)) w b = some (.inl b') ∧ SG s.cM.length S' b'
 | [], S, b, _, h => ⟨S, b, rfl, rfl, h⟩
 | x :: w, S, b, hw, h => by
  obtain ⟨S1, b1, e1, e2, h1⟩ := RT (hw x (by simp)) hs h;obtain ⟨S2, b2, e3, e4, h2⟩ := Ob hs w S1 b1 (fun y hy => hw y (List.mem_cons_of_mem _ hy)) h1;refine ⟨S2, b2, ?_, ?_, h2⟩
  ·rw [D0]; simp only [e1, Option.bind_some]; exact e3
  rw [D0]; simp only [e2, Option.bind_some]; exact e4
def Qb (s : A3) (b : List Bool) : Prop := ∃ i : Nat, b[i]? = some true ∧ s.cM[i]? = some true
noncomputable def Nn (s : A3) (_ : Unit) (p : Int × Bool) : Option (Unit ⊕ (Unit ⊕ Unit)) := (C6 s.cM p.1).bind fun x => if x = true then some (.inr (.inr ())) else some (.inl ())
theorem Kz {s : A3} : ∀ (l : List (Int × Bool)), (∀ p ∈ l, ∃ i : Nat, p.1 = (i : Int) ∧ i < s.cM.length) →
 ((∃ p ∈ l, s.cM[p.1.toNat]? = some true) → D0 (Nn s) l () = some (.inr (.inr ()))) ∧ (¬(∃ p ∈ l, s.cM[p.1.toNat]? = some true) → D0 (Nn s) l () = some (.inl ()))
 | [], _ => ⟨(fun ⟨p, hp, _⟩ => by cases hp), fun _ => rfl⟩
 | p :: l, hl => by
  obtain ⟨i, hi, hlt⟩ := hl p (by simp);have ih := Kz l fun q hq => hl q (List.mem_cons_of_mem _ hq);have hx := List.getElem?_eq_getElem hlt
  cases hv : s.cM[i] with
  | true =>
   have e : Nn s () p = some (.inr (.inr ())) := by simp [Nn, hi, G2, hx, hv]
   refine ⟨fun _ => by rw [D0, e], fun h => absurd ⟨p, by simp, ?_⟩ h⟩;rw [hi, show (i : Int).toNat = i by omega, hx, hv]
  | false =>
   have e : Nn s () p = some (.inl ()) := by simp [Nn, hi, G2, hx, hv]
   have hp : ¬s.cM[p.1.toNat]? = some true := by rw [hi, show (i : Int).toNat = i by omega, hx, hv]; simp
   refine ⟨fun ⟨q, hq, h⟩ => ?_, fun h => ?_⟩
   ·rw [D0, e]
    rcases List.mem_cons.1 hq with rfl | hq
    ·exact absurd h hp
    exact ih.1 ⟨q, hq, h⟩
   rw [D0, e];exact ih.2 fun ⟨q, hq, h'⟩ => h ⟨q, List.mem_cons_of_mem _ hq, h'⟩
theorem finP {s : A3} {S : List (Int × Bool)} {b : List Bool} (h : SG s.cM.length S b) : ∃ r : Unit ⊕ Unit, V3 (Nn s) (fun _ => ((.inl ()) : Unit ⊕ Unit)) (fun y => y) S () = some r ∧ (r = .inr () ↔ Qb s b) := by
 have hin : ∀ p ∈ S, ∃ i : Nat, p.1 = (i : Int) ∧ b[i]? = some true := fun p hp => by
  have := h.tru.2 p hp;obtain ⟨k, v⟩ := p
  simp only at this
  subst this;exact (h.mem k).1 hp
 have hlt : ∀ p ∈ S, ∃ i : Nat, p.1 = (i : Int) ∧ i < s.cM.length := fun p hp => by
  obtain ⟨i, e, hi⟩ := hin p hp;refine ⟨i, e, ?_⟩
  rcases Nat.lt_or_ge i b.length with hl | hl
  ·rw [← h.len]; exact hl
  rw [List.getElem?_eq_none hl] at hi; cases hi
 have hQ : (∃ p ∈ S, s.cM[p.1.toNat]? = some true) ↔ Qb s b := by
  constructor
  ·rintro ⟨p, hp, h2⟩;obtain ⟨i, e, hi⟩ := hin p hp;exact ⟨i, hi, by rw [e, show (i : Int).toNat = i by omega] at h2; exact h2⟩
  rintro ⟨i, hi, h2⟩;exact ⟨((i : Int), true), (h.mem _).2 ⟨i, rfl, hi⟩, by simpa using h2⟩
 by_cases hq : ∃ p ∈ S, s.cM[p.1.toNat]? = some true
 ·refine ⟨.inr (), Ef fun m hm => ?_, by simpa using hQ.1 hq⟩
  show (D0 (Nn s) m ()).map _ = _
  rw [(Kz m fun p hp => hlt p (hm.mem_iff.1 hp)).1 (by obtain ⟨p, hp, h2⟩ := hq; exact ⟨p, hm.mem_iff.2 hp, h2⟩)];rfl
 refine ⟨.inl (), Ef fun m hm => ?_, ⟨(fun h' => by cases h'), fun h' => absurd (hQ.2 h') hq⟩⟩;rw [(Kz m fun p hp => hlt p (hm.mem_iff.1 hp)).2 (by rintro ⟨p, hp, h2⟩; exact hq ⟨p, hm.mem_iff.1 hp, h2⟩)];rfl
theorem LG {n : Nat} (hn : 1 ≤ n) : SG n [(0, true)] ((List.replicate n false).set 0 true) := by
 refine ⟨by simp, ⟨by simp, fun p hp => by simp only [List.mem_singleton] at hp; rw [hp]⟩, fun k => ?_⟩;simp only [List.mem_singleton, Prod.mk.injEq, and_true]
 constructor
 ·rintro rfl;exact ⟨0, rfl, by rw [List.getElem?_set]; simp; omega⟩
 rintro ⟨i, rfl, hi⟩
 rw [List.getElem?_set] at hi
 by_cases e : 0 = i
 ·omega
 rw [if_neg e, List.getElem?_replicate] at hi
 split at hi <;> simp at hi
theorem Tc {s : A3} {w : List B2} {b : List Bool} (hs : IB s) (hw : w.length ≤ 4096)
 (hb : D0 (R := List Bool) (fun b x => (Q4 40000000 s b x).bind fun q => some (.inl q)) w ((List.replicate s.cM.length false).set 0 true) = some (.inl b)) (hl : b.length = s.cM.length) :
 ∃ r, Cj 40000000 s w = some r ∧ (r = true ↔ Qb s b) := by
 have hf := hs.fi;unfold Cj;simp only [D7, Sh];rw [if_pos (by omega)];simp only [Option.bind_some, show ((s.cM.length : Int)).toNat = s.cM.length by omega];rw [show Gb (List.replicate s.cM.length false) 0 = true by unfold Gb; simp; omega]
 have hu : CW (List.replicate s.cM.length false) 0 (fun _ => true) = some ((List.replicate s.cM.length false).set 0 true) := by
  unfold CW C6;simp only [Int.le_refl, if_true, Int.toNat_zero];rw [List.getElem?_replicate, if_pos (by omega)];rfl
 simp only [Ea, if_true, Option.bind_some, hu];rw [Im (α := B2) (σ := List Bool) (R := List Bool) w (by omega) (fun b i => (b, i)) (fun b x => (Q4 40000000 s b x).bind fun q => some (.inl q)) (fun b => b) _ (by omega)]
 ·rw [hb];simp only [Option.bind_some]
  have hlz : (b.zip s.cM).length = s.cM.length := by rw [List.length_zip, hl]; exact Nat.min_self _
  rw [T7 (l := b.zip s.cM) (f := fun _ y => if y.1 = true ∧ y.2 = true then 1 else 0) (e := .inl ()) (b := fun _ => .inr ()) (N := 40000000) ?_ ?_ (by omega)]
  ·by_cases h : fb (fun _ (y : Bool × Bool) => if y.1 = true ∧ y.2 = true then 1 else 0) 0 (b.zip s.cM) = 0
   ·rw [if_pos h];refine ⟨false, rfl, (fun h' => by cases h'), fun ⟨i, h1, h2⟩ => ?_⟩;have := Ay.1 h i (true, true) (by rw [List.getElem?_zip_eq_some]; exact ⟨h1, h2⟩)
    simp at this
   rw [if_neg h];refine ⟨true, rfl, (fun _ => ?_), fun _ => rfl⟩;apply Classical.byContradiction;intro hq;apply h;rw [Ay];rintro k ⟨y1, y2⟩ hk
   rw [List.getElem?_zip_eq_some] at hk
   rw [if_neg];rintro ⟨e1, e2⟩
   simp only at e1 e2
   subst e1; subst e2;exact hq ⟨k, hk.1, hk.2⟩
  ·rintro i ⟨y1, y2⟩ hy hi
   rw [List.getElem?_zip_eq_some] at hy
   simp only [D2, G2, hy.1, hy.2, Option.bind_some, decide_eq_true_eq];rw [if_pos (by omega), Q2 hi (by omega)];cases y1 <;> cases y2 <;> simp
  simp only [D2, decide_eq_true_eq];rw [if_neg (by omega)]
 ·intro b i x hx hi;simp only [D2, G2, hx, Option.bind_some, decide_eq_true_eq];rw [if_pos hi, CP (by omega) (by omega)]
  cases Q4 40000000 s b x with
  | none => rfl
  | some _ => rfl
 intro b;simp [D2]
theorem HY {t : Int} {w : List B2} (h : fb (fun _ x => FP t x) 0 w = 0) : ∀ x ∈ w, FP t x = 0 := fun x hx => by
 obtain ⟨k, hk⟩ := List.getElem?_of_mem hx;exact Ay.1 h k x hk
def Smn (s : A3) (w : List B2) (r : Bool × Int) : Prop := r.2 = 0 → SI s = 0 ∧ (∀ x ∈ w, FP s.cS x = 0) ∧ ∃ b, D0 (R := List Bool) (fun b x => (Q4 40000000 s b x).bind fun q => some (.inl q)) w ((List.replicate s.cM.length false).set 0 true) = some (.inl b) ∧ (r.1 = true ↔ Qb s b)
theorem La (s : A3) (w : List B2) : ∃ r, N7 40000000 s w = some r ∧ AK 40000000 s w = some r ∧ Smn s w r ∧ (SI s = 0 → w.length ≤ 4096 → (∀ x ∈ w, FP s.cS x = 0) → r.2 = 0) := by
 unfold N7 AK;rw [Ig (by omega), PN (by omega)]
 by_cases h0 : SI s = 0
 ·simp only [Option.bind_some, h0];simp only [show Ar.k .neq (0 : Int) 0 = false from rfl, Bool.false_eq_true, if_false]
  by_cases hw : 4096 < (w.length : Int)
  ·simp only [show Ar.k .gtr (Ar.len w) 4096 = true from by simpa [Q3, D7] using hw, if_true];exact ⟨_, rfl, rfl, (fun h => by cases h), fun _ h => by omega⟩
  simp only [show Ar.k .gtr (Ar.len w) 4096 = false from by simpa [Q3, D7] using hw, Bool.false_eq_true, if_false];have hs := MA h0;obtain ⟨p, ep, hp⟩ := Xh hs.ty;simp only [ep, Option.bind_some];rw [T7 (l := w) (f := fun _ x => FP s.cS x) (e := .inl ()) (b := .inr) (N := 40000000) ?_ ?_ (by omega)]
  ·rw [T7 (l := w) (f := fun _ x => FP s.cS x) (e := .inl ()) (b := .inr) (N := 40000000) ?_ ?_ (by omega)]
   ·by_cases hz : fb (fun _ x => FP s.cS x) 0 w = 0
    ·rw [if_pos hz];simp only [Option.bind_some];have hset : Y6 ([] : List (Int × Bool)) 0 true = some [(0, true)] := rfl;rw [hset];simp only [Option.bind_some];obtain ⟨S, b, e1, e2, h1⟩ := Ob hs w _ _ (HY hz) (LG hs.fi.1);obtain ⟨r, e3, h3⟩ := Tc hs (by omega) e2 h1.len;obtain ⟨q, e4, h4⟩ := finP h1;rw [Im (α := B2) (σ := List (Int × Bool)) (R := List (Int × Bool)) w (by omega) (fun S i => (i, S)) (fun S x => (V3 (Nx 40000000 s x) (fun S => S) (fun S => AC S) S ([] : List (Int × Bool))).bind fun q => some (.inl q)) (fun S => S) _ (by omega)]
     ·rw [e1, e3];have e4' := e4
      unfold Nn at e4'
      simp only [Option.bind_some];rw [e4']
      cases q with
      | inl u =>
       cases r with
       | false => exact ⟨_, rfl, rfl, fun _ => ⟨h0, HY hz, b, e2, h3⟩, fun _ _ _ => rfl⟩
       | true => have := h4.2 (h3.1 rfl); cases this
      | inr u =>
       cases r with
       | true => exact ⟨_, rfl, rfl, fun _ => ⟨h0, HY hz, b, e2, h3⟩, fun _ _ _ => rfl⟩
       | false => have := h3.2 (h4.1 rfl); cases this
     ·intro S i x hx hi
      show (if Ar.k .lss (i : Int) (Ar.len w) = true then _ else _) = _
      rw [if_pos (by simpa [D2, D7] using hi)];rw [G2, hx, Option.bind_some];rw [CP (by omega) (by omega)]
      show (V3 (Nx 40000000 s x) (fun S => S) (fun S => AC S) S ([] : List (Int × Bool))).bind _ = _
      cases V3 (Nx 40000000 s x) (fun S => S) (fun S => AC S) S ([] : List (Int × Bool)) with
      | none => rfl
      | some _ => rfl
     intro S
     show (if Ar.k .lss (w.length : Int) (Ar.len w) = true then _ else _) = _
     rw [if_neg (by simp [D2, D7])]
    rw [if_neg hz];exact ⟨_, rfl, rfl, fun h => absurd h hz, fun _ _ h => absurd (Ay.2 fun k x hx => h x (List.mem_of_getElem? hx)) hz⟩
   ·intro i x hx hi;simp only [D2, X4, D7, G2, hx, Option.bind_some, Va, decide_eq_true_eq];rw [if_pos (by omega), Q2 hi (by omega)]
    by_cases h : FP s.cS x = 0
    ·simp [h]
    simp [h]
   simp [D2, D7]
  ·intro i x hx hi;obtain ⟨r, e1, h1, _⟩ := IW (N := 40000000) (x := x) (by omega) hp;simp only [D2, X4, D7, G2, hx, Option.bind_some, e1, decide_eq_true_eq];rw [if_pos (by omega), Q2 hi (by omega), h1]
   by_cases h : FP s.cS x = 0
   ·simp [h]
   simp [h]
  simp [D2, D7]
 simp only [Option.bind_some];simp only [show Ar.k .neq (SI s) 0 = true from by simp [X4, h0], if_true];exact ⟨_, rfl, rfl, fun h => absurd h h0, fun h => absurd h h0⟩
end Go.Ab
namespace Go.Ab
def Qn {α : Type} (p : α → Bool) : Nat → List α → Option (Nat × α)
 | _, [] => none
 | i, x :: r => if p x then some (i, x) else Qn p (i + 1) r
def fl : Nat → List (List A2) → List (Int × List A2)
 | _, [] => []
 | i, x :: r => if 0 < x.length then ((i : Int), x) :: fl (i + 1) r else fl (i + 1) r
abbrev QQ (x : List A2) : Bool := decide (0 < x.length)
theorem Nm : ∀ (l : List (List A2)) (i : Nat), (fl i l).head? = (Qn QQ i l).map fun q => ((q.1 : Int), q.2)
 | [], i => rfl
 | x :: r, i => by
  unfold fl Qn
  by_cases h : 0 < x.length
  ·simp [h, QQ]
  simp only [h, if_false, QQ, decide_false, Bool.false_eq_true]; exact Nm r (i + 1)
theorem Mc {N : Nat} {p : B6} (hb : p.cP.length < 1000000000) (hN : p.cP.length < N) : R9 N p = some (fl 0 p.cP) := by
 unfold R9 W8
 have key : ∀ (k i N : Nat), i + k = p.cP.length → k < N → Ag
  (fun (s1 : Int) =>
   (
    if Ar.k .lss s1 (Ar.len p.cP) = true then
     (C6 p.cP s1).bind fun x7 =>
     if Ar.k .gtr (Ar.len x7) 0 = true then
      O3 (some ([(s1, x7)], ())) fun _ =>
      some ([], .inl (Ar.ar .add .i64 s1 1))
     else
      some ([], .inl (Ar.ar .add .i64 s1 1))
    else
     some ([], .inr ())
    : Option (List (Int × (List A2)) × ((Int) ⊕ (Unit))))) N (i : Int) = some (fl i (p.cP.drop i), ()) := by
  intro k
  induction k with
  | zero =>
   intro i N hi hN;obtain ⟨N, rfl⟩ : ∃ M, N = M + 1 := ⟨N - 1, by omega⟩;rw [show i = p.cP.length by omega, List.drop_length];simp [Ag, fl, D2, D7]
  | succ k ih =>
   intro i N hi hN;obtain ⟨N, rfl⟩ : ∃ M, N = M + 1 := ⟨N - 1, by omega⟩
   have hlt : i < p.cP.length := by omega
   have hx := List.getElem?_eq_getElem hlt;have h1 := ih (i + 1) N (by omega) (by omega);rw [List.drop_eq_getElem_cons hlt];unfold Ag
   simp only [D2, Q3, D7, G2, hx, Option.bind_some, decide_eq_true_eq, O3, List.append_nil] at h1 ⊢
   rw [if_pos (by omega), Q2 hlt (by omega)];unfold fl
   by_cases h : 0 < p.cP[i].length
   ·rw [if_pos (by omega), if_pos h];simp only [h1]; rfl
   rw [if_neg (by omega), if_neg h];simp only [h1]; rfl
 have := key p.cP.length 0 N (by omega) hN
 rw [show ((0 : Nat) : Int) = 0 from rfl] at this
 rw [this];simp [O3]
abbrev Nj (p : B6) : Option (Nat × List A2) := Qn QQ 0 p.cP
theorem Kw {α : Type} {p : α → Bool} : ∀ {l : List α} {i k : Nat} {x : α}, Qn p i l = some (k, x) → i ≤ k ∧ l[k - i]? = some x ∧ p x = true ∧ ∀ (j : Nat) y, j < k - i → l[j]? = some y → p y = false
 | [], _, _, _, h => by cases h
 | y :: r, i, k, x, h => by
  unfold Qn at h
  split at h
  ·rename_i hp;cases h;exact ⟨by omega, by simp, hp, fun j y hj => by omega⟩
  rename_i hp;obtain ⟨h1, h2, h3, h4⟩ := Kw h;refine ⟨by omega, by rw [show k - i = (k - (i + 1)) + 1 by omega]; simpa using h2, h3, fun j z hj hz => ?_⟩
  cases j with
  | zero => simp at hz; subst hz; simpa using hp
  | succ j => exact h4 j z (by omega) (by simpa using hz)
theorem OL {α : Type} {p : α → Bool} : ∀ {l : List α} {i : Nat}, Qn p i l = none → ∀ x ∈ l, p x = false
 | [], _, _ => fun x hx => by cases hx
 | y :: r, i, h => by
  unfold Qn at h
  split at h
  ·cases h
  rename_i hp;intro x hx
  rcases List.mem_cons.1 hx with rfl | hx
  ·simpa using hp
  exact OL h x hx
def Df (p : B6) : B2 := match Nj p with | some (k, x :: _) => ⟨(k : Int), x.Low⟩ | _ => ⟨0, 0⟩
end Go.Ab
namespace Go.Ab
abbrev vd (p : B6) : Bool := (Nj p).isNone
theorem JH {N : Nat} {t : Int} {p : B6} (hN : 300 < N) (hp : HU t p = 0) : L6 N p = some (vd p) := by
 obtain ⟨_, h0⟩ := Fs0 hp;unfold L6 AR;simp only [FI (show 256 < N by omega), Option.bind_some, h0, show Ar.k .neq (0 : Int) 0 = false from rfl, Bool.false_eq_true, if_false];obtain ⟨hlen, _⟩ := CS h0;rw [Mc (by omega) (by omega)];simp only [Option.bind_some];have hh := Nm p.cP 0;unfold vd
 cases hf : fl 0 p.cP with
 | nil =>
  rw [hf] at hh
  cases hq : Nj p with
  | none => rfl
  | some q => rw [show Qn QQ 0 p.cP = some q from hq] at hh; cases hh
 | cons y r =>
  rw [hf] at hh
  cases hq : Nj p with
  | none => rw [show Qn QQ 0 p.cP = none from hq] at hh; cases hh
  | some q => rfl
def Ed (s : A3) (i j : Nat) : Prop := ∃ m ∈ s.cO, m.cQ = (i : Int) ∧ m.To = (j : Int) ∧ vd m.On = false
def Rc (s : A3) : Nat → Nat → Prop
 | 0, i => s.cM[i]? = some true
 | k + 1, i => ∃ j, Ed s i j ∧ Rc s k j
def Mr (s : A3) (i k : Nat) : Prop := Rc s k i ∧ ∀ j, j < k → ¬Rc s j i
theorem FB {s : A3} {i k l : Nat} (h : Mr s i k) (h' : Mr s i l) : k = l := by
 rcases Nat.lt_trichotomy k l with c | c | c
 ·exact absurd h.1 (h'.2 k c)
 ·exact c
 exact absurd h'.1 (h.2 l c)
theorem Qg {s : A3} {i : Nat} : ∀ {k : Nat}, Rc s k i → ∃ l, l ≤ k ∧ Mr s i l := by
 intro k
 induction k using Nat.strongRecOn with
 | _ k ih =>
  intro h
  by_cases c : ∃ j, j < k ∧ Rc s j i
  ·obtain ⟨j, hj, hr⟩ := c;obtain ⟨l, h1, h2⟩ := ih j hj hr;exact ⟨l, by omega, h2⟩
  exact ⟨k, Nat.le_refl _, h, fun j hj hr => c ⟨j, hj, hr⟩⟩
theorem Eh {s : A3} {i k : Nat} (h : Mr s i (k + 1)) : ∃ j, Ed s i j ∧ Mr s j k := by
 obtain ⟨j, he, hr⟩ := h.1;obtain ⟨l, h1, h2⟩ := Qg hr
 have : l = k := by
  rcases Nat.lt_or_ge l k with c | c
  ·exact absurd ⟨j, he, h2.1⟩ (h.2 (l + 1) (by omega))
  omega
 subst this;exact ⟨j, he, h2⟩
theorem LU {s : A3} : ∀ {k i : Nat}, Mr s i k → ∀ j, j ≤ k → ∃ i', Mr s i' j
 | 0, i, h, j, hj => ⟨i, by rw [show j = 0 by omega]; exact h⟩
 | k + 1, i, h, j, hj => by
  by_cases c : j = k + 1
  ·exact ⟨i, by rw [c]; exact h⟩
  obtain ⟨i', _, h'⟩ := Eh h;exact LU h' j (by omega)
theorem QM {s : A3} (hs : IB s) : ∀ {k i : Nat}, Rc s k i → i < s.cM.length
 | 0, i, h => by
  rcases Nat.lt_or_ge i s.cM.length with c | c
  ·exact c
  have h' : s.cM[i]? = some true := h
  rw [List.getElem?_eq_none c] at h'; cases h'
 | k + 1, i, h => by
  obtain ⟨j, ⟨m, hm, f, _⟩, _⟩ := h;have := (hs.each m hm).1;omega
theorem LT {s : A3} : ∀ {k i : Nat}, Mr s i k → ∃ l : List Nat, l.length = k + 1 ∧ ∀ j : Nat, j ≤ k → ∃ x, l[j]? = some x ∧ Mr s x (k - j)
 | 0, i, h => ⟨[i], rfl, fun j hj => ⟨i, by rw [show j = 0 by omega]; rfl, by rw [show 0 - j = 0 by omega]; exact h⟩⟩
 | k + 1, i, h => by
  obtain ⟨i', _, h'⟩ := Eh h;obtain ⟨l, h1, h2⟩ := LT h';refine ⟨i :: l, by simp [h1], fun j hj => ?_⟩
  cases j with
  | zero => exact ⟨i, rfl, h⟩
  | succ j =>
   obtain ⟨x, h3, h4⟩ := h2 j (by omega);exact ⟨x, h3, by rw [show k + 1 - (j + 1) = k - j by omega]; exact h4⟩
theorem Hp : ∀ {n : Nat} {l : List Nat}, l.Nodup → (∀ x ∈ l, x < n) → l.length ≤ n
 | 0, [], _, _ => Nat.le_refl _
 | 0, x :: _, _, h => absurd (h x (by simp)) (by omega)
 | n + 1, l, hn, h => by
  have h1 := Hp (n := n) (l := l.filter (fun x => decide (x ≠ n))) (hn.filter _) (fun x hx => by
   obtain ⟨a, b⟩ := List.mem_filter.1 hx;have := h x a;have : x ≠ n := of_decide_eq_true b
   omega)
  have h2 : l.length ≤ (l.filter (fun x => decide (x ≠ n))).length + 1 := by
   clear h h1
   induction l with
   | nil => simp
   | cons x l ih =>
    obtain ⟨hx, hl⟩ := List.nodup_cons.1 hn
    by_cases e : x = n
    ·subst e;rw [List.filter_cons_of_neg (by simp)]
     rw [List.filter_eq_self.2 (fun y hy => by
      have : y ≠ x := by rintro rfl; exact hx hy
      simpa using this)]
     simp
    rw [List.filter_cons_of_pos (by simpa using e)];have := ih hl;simp only [List.length_cons];omega
  omega
theorem Uc {s : A3} (hs : IB s) {i k : Nat} (h : Mr s i k) : k < s.cM.length := by
 obtain ⟨l, h1, h2⟩ := LT h
 have hn : l.Nodup := by
  rw [List.nodup_iff_pairwise_ne, List.pairwise_iff_getElem];intro a b ha hb hab e;obtain ⟨x, e1, d1⟩ := h2 a (by omega);obtain ⟨y, e2, d2⟩ := h2 b (by omega)
  rw [List.getElem?_eq_getElem ha] at e1; rw [List.getElem?_eq_getElem hb] at e2
  cases e1; cases e2
  rw [e] at d1
  have := FB d1 d2;omega
 have := Hp hn (n := s.cM.length) (fun x hx => by
  obtain ⟨j, hj⟩ := List.getElem?_of_mem hx
  have hlt : j < l.length := by
   rcases Nat.lt_or_ge j l.length with c | c
   ·exact c
   rw [List.getElem?_eq_none c] at hj; cases hj
  obtain ⟨y, e, d⟩ := h2 j (by omega)
  rw [hj] at e; cases e
  exact QM hs d.1)
 omega
structure Mp (M : List (Int × Int)) : Prop where
 nd : (M.map (·.1)).Nodup
theorem OE {k v v' : Int} : ∀ {M : List (Int × Int)}, (M.map (·.1)).Nodup → (k, v) ∈ M → (k, v') ∈ M → v = v'
 | [], _, h, _ => by cases h
 | p :: M, hn, h, h' => by
  rw [List.map_cons, List.nodup_cons] at hn
  rcases List.mem_cons.1 h with e | h
  ·rcases List.mem_cons.1 h' with e' | h'
   ·rw [← e] at e'; cases e'; rfl
   exact absurd (List.mem_map.2 ⟨_, h', by rw [← e]⟩) hn.1
  rcases List.mem_cons.1 h' with e' | h'
  ·exact absurd (List.mem_map.2 ⟨_, h, by rw [← e']⟩) hn.1
  exact OE hn.2 h h'
theorem Gd {M : List (Int × Int)} {k : Int} (h : ∀ v, ¬(k, v) ∈ M) : Z5 M k (0 : Int) = some (0, false) := by
 unfold Z5
 rw [List.find?_eq_none.2 (fun p hp => by
  obtain ⟨a, b⟩ := p;simp only [decide_eq_true_eq];rintro rfl
  exact h b hp)]
theorem Ej {M : List (Int × Int)} (hM : Mp M) {k v : Int} (h : (k, v) ∈ M) : Z5 M k (0 : Int) = some (v, true) := by
 unfold Z5
 cases hf : M.find? (fun p => decide (p.1 = k)) with
 | none => have := List.find?_eq_none.1 hf _ h; simp at this
 | some p =>
  have h1 := List.mem_of_find?_eq_some hf;have h2 := List.find?_some hf
  simp only [decide_eq_true_eq] at h2
  have : p = (k, v) := by
   obtain ⟨a, b⟩ := p
   simp only at h2
   subst h2;rw [OE hM.nd h1 h]
  simp only [this]
theorem Oa {M : List (Int × Int)} (hM : Mp M) {k v : Int} (h : ∀ v, ¬(k, v) ∈ M) : Y6 M k v = some (M ++ [(k, v)]) ∧ Mp (M ++ [(k, v)]) := by
 constructor
 ·unfold Y6;rw [if_neg];simp only [List.any_eq_true, decide_eq_true_eq];rintro ⟨p, hp, e⟩;exact h p.2 (by rw [← e]; exact hp)
 refine ⟨?_⟩;rw [List.map_append, List.nodup_append];refine ⟨hM.nd, by simp, fun a ha b hb => ?_⟩
 simp only [List.map_cons, List.map_nil, List.mem_singleton] at hb
 subst hb;obtain ⟨p, hp, e⟩ := List.mem_map.1 ha;rintro rfl;exact h p.2 (by rw [← e]; exact hp)
structure QE (s : A3) (a : Nat) (T1 T2 : List Int) (M : List (Int × Int)) : Prop where
 mp : Mp M
 ok : ∀ k v, (k, v) ∈ M → ∃ i d : Nat, k = (i : Int) ∧ v = (d : Int) ∧ Mr s i d ∧ d ≤ a + 1
 t1 : ∀ k ∈ T1, (k, (a : Int)) ∈ M
 t2 : ∀ k ∈ T2, (k, (a : Int) + 1) ∈ M
 kn : ∀ i k : Nat, k ≤ a → Rc s k i → ∃ v, ((i : Int), v) ∈ M
 up : ∀ k, (k, (a : Int) + 1) ∈ M → k ∈ T2
 dn : ∀ i j : Nat, Ed s i j → Mr s j a → ¬(j : Int) ∈ T1 → ∃ v, ((i : Int), v) ∈ M
theorem QE.next {s : A3} {a : Nat} {T2 : List Int} {M : List (Int × Int)} (h : QE s a [] T2 M) : QE s (a + 1) T2 [] M := by
 refine ⟨h.mp, fun k v hk => ?_, fun k hk => by simpa using h.t2 k hk, (fun k hk => by cases hk), fun i k hk hr => ?_, fun k hk => ?_, fun i j he hj hn => ?_⟩
 ·obtain ⟨i, d, e1, e2, e3, e4⟩ := h.ok k v hk;exact ⟨i, d, e1, e2, e3, by omega⟩
 ·rcases Nat.lt_or_ge a k with c | c
  ·obtain ⟨l, h1, h2⟩ := Qg hr
   rcases Nat.lt_or_ge a l with c' | c'
   ·have : l = a + 1 := by omega
    subst this;obtain ⟨j, he, hj⟩ := Eh h2;exact h.dn i j he hj (by simp)
   exact h.kn i l c' h2.1
  exact h.kn i k c hr
 ·obtain ⟨i, d, e1, e2, e3, e4⟩ := h.ok _ _ hk;omega
 obtain ⟨j', he', hj'⟩ := Eh hj;obtain ⟨v, hv⟩ := h.dn j j' he' hj' (by simp);obtain ⟨i2, d, e1, e2, e3, e4⟩ := h.ok _ _ hv
 have : i2 = j := by omega
 subst this;have := FB hj e3;subst this;exact absurd (h.up _ (by rw [e2] at hv; exact_mod_cast hv)) hn
end Go.Ab
namespace Go.Ab
noncomputable def IR (s : A3) (s4 : Int × (List Int) × (List (Int × Int))) : Option ((Int × (List Int) × (List (Int × Int))) ⊕ (((List Int) × (List (Int × Int))))) :=
 if Ar.k .lss s4.1 (Ar.len s.cM) = true then
  (C6 s.cM s4.1).bind fun x8 =>
  if x8 = true then
   (Y6 s4.2.2 s4.1 0).bind fun l10 =>
   (L5 s4.2.1 ([s4.1])).bind fun l12 =>
   some (.inl (Ar.ar .add .i64 s4.1 1, l12, l10))
  else
   some (.inl (Ar.ar .add .i64 s4.1 1, s4.2.1, s4.2.2))
 else
  some (.inr (s4.2.1, s4.2.2))
noncomputable def Ks (N : Nat) (s : A3) (s19 : Int × (List Int) × (List (Int × Int))) : Option ((Int × (List Int) × (List (Int × Int))) ⊕ (((List Int) × (List (Int × Int))))) :=
 if Ar.k .lss s19.1 (Ar.len s.cO) = true then
  (C6 s.cO s19.1).bind fun x23 =>
  (Z5 s19.2.2 x23.cQ (0 : Int)).bind fun r24 =>
  (Ea (Gb s19.2.1 0)).bind fun _ =>
  (C6 s19.2.1 0).bind fun x25 =>
  if Ar.an (Ar.k .eql x23.To x25) (Ar.nt r24.2) = true then
   (L6 N x23.On).bind fun r26 =>
   if Ar.nt r26 = true then
    (Ea (Gb s19.2.1 0)).bind fun _ =>
    (C6 s19.2.1 0).bind fun x27 =>
    (Z5 s19.2.2 x27 (0 : Int)).bind fun r28 =>
    (Y6 s19.2.2 x23.cQ (Ar.ar .add .i64 r28.1 1)).bind fun l30 =>
    (L5 s19.2.1 ([x23.cQ])).bind fun l32 =>
    some (.inl (Ar.ar .add .i64 s19.1 1, l32, l30))
   else
    some (.inl (Ar.ar .add .i64 s19.1 1, s19.2.1, s19.2.2))
  else
   some (.inl (Ar.ar .add .i64 s19.1 1, s19.2.1, s19.2.2))
 else
  some (.inr (s19.2.1, s19.2.2))
noncomputable def TB (N : Nat) (s : A3) (s15 : (List Int) × (List (Int × Int))) : Option (((List Int) × (List (Int × Int))) ⊕ (((List Int) × (List (Int × Int))))) :=
 if Ar.k .gtr (Ar.len s15.1) 0 = true then
  (loopN (Ks N s) N (0, s15.1, s15.2)).bind fun s22 =>
  (V2 s22.1 (some 1) none none).bind fun l36 =>
  some (.inl (l36, s22.2))
 else
  some (.inr (s15.1, s15.2))
theorem Uq (N : Nat) (s : A3) : I9 N s = (loopN (IR s) N (0, ([] : List Int), ([] : List (Int × Int)))).bind fun s7 => (loopN (TB N s) N (s7.1, s7.2)).bind fun s18 => some s18.2 := rfl
structure Ini (s : A3) (i : Nat) (T : List Int) (M : List (Int × Int)) : Prop where
 mp : Mp M
 mem : ∀ k v, (k, v) ∈ M ↔ v = 0 ∧ ∃ j : Nat, j < i ∧ k = (j : Int) ∧ s.cM[j]? = some true
 t : ∀ k, k ∈ T ↔ (k, 0) ∈ M
 le : T.length = M.length
 li : T.length ≤ i
theorem Kt {s : A3} (hs : IB s) : ∀ (d i N : Nat) (T : List Int) (M : List (Int × Int)), i + d = s.cM.length → d < N → Ini s i T M →
 ∃ T' M', loopN (IR s) N ((i : Int), T, M) = some (T', M') ∧ Ini s s.cM.length T' M'
 | 0, i, N, T, M, hi, hN, h => by
  obtain ⟨N, rfl⟩ : ∃ K, N = K + 1 := ⟨N - 1, by omega⟩;refine ⟨T, M, ?_, by rw [← hi]; exact h⟩
  have e : IR s ((i : Int), T, M) = some (.inr (T, M)) := by
   unfold IR;rw [if_neg (by simp [D2, D7]; omega)]
  rw [loopN, e]
 | d + 1, i, N, T, M, hi, hN, h => by
  obtain ⟨N, rfl⟩ : ∃ K, N = K + 1 := ⟨N - 1, by omega⟩;have hf := hs.fi
  have hlt : i < s.cM.length := by omega
  have hx := List.getElem?_eq_getElem hlt;have hinc : Ar.ar .add .i64 (i : Int) 1 = ((i + 1 : Nat) : Int) := Q2 hlt (by omega)
  cases hv : s.cM[i] with
  | false =>
   have e : IR s ((i : Int), T, M) = some (.inl (((i + 1 : Nat) : Int), T, M)) := by
    unfold IR;rw [if_pos (by simp [D2, D7]; omega)];simp only [G2, hx, Option.bind_some, hv, Bool.false_eq_true, if_false, hinc]
   rw [loopN, e];refine Kt hs d (i + 1) N T M (by omega) (by omega) ⟨h.mp, fun k v => ?_, h.t, h.le, by have := h.li; omega⟩;rw [h.mem]
   constructor
   ·rintro ⟨h1, j, h2, h3, h4⟩; exact ⟨h1, j, by omega, h3, h4⟩
   rintro ⟨h1, j, h2, h3, h4⟩;refine ⟨h1, j, ?_, h3, h4⟩
   rcases Nat.lt_or_ge j i with c | c
   ·exact c
   rw [show j = i by omega, hx, hv] at h4; cases h4
  | true =>
   have hnew : ∀ v, ¬((i : Int), v) ∈ M := fun v hm => by
    obtain ⟨_, j, h2, h3, _⟩ := (h.mem _ _).1 hm;omega
   obtain ⟨e1, h1⟩ := Oa h.mp (v := 0) hnew;have hli := h.li
   have e2 : L5 T [(i : Int)] = some (T ++ [(i : Int)]) := by unfold L5; rw [if_pos (by simp; omega)]
   have e : IR s ((i : Int), T, M) = some (.inl (((i + 1 : Nat) : Int), T ++ [(i : Int)], M ++ [((i : Int), 0)])) := by
    unfold IR;rw [if_pos (by simp [D2, D7]; omega)];simp only [G2, hx, Option.bind_some, hv, if_true, hinc, e1, e2]
   rw [loopN, e];refine Kt hs d (i + 1) N _ _ (by omega) (by omega) ⟨h1, fun k v => ?_, fun k => ?_, by simp [h.le], by simp; omega⟩
   ·rw [List.mem_append, h.mem];simp only [List.mem_singleton, Prod.mk.injEq]
    constructor
    ·rintro (⟨h1, j, h2, h3, h4⟩ | ⟨rfl, rfl⟩)
     ·exact ⟨h1, j, by omega, h3, h4⟩
     exact ⟨rfl, i, by omega, rfl, by rw [hx, hv]⟩
    rintro ⟨h1, j, h2, h3, h4⟩
    rcases Nat.lt_or_ge j i with c | c
    ·exact .inl ⟨h1, j, c, h3, h4⟩
    exact .inr ⟨by omega, h1⟩
   rw [List.mem_append, List.mem_append, h.t];simp
theorem Ini.bfs {s : A3} (hs : IB s) {T : List Int} {M : List (Int × Int)} (h : Ini s s.cM.length T M) : QE s 0 T [] M := by
 have h0 : ∀ j : Nat, s.cM[j]? = some true → Mr s j 0 := fun j hj => ⟨hj, fun k hk => by omega⟩;refine ⟨h.mp, fun k v hk => ?_, fun k hk => by simpa using (h.t k).1 hk, (fun k hk => by cases hk), fun i k hk hr => ?_, fun k hk => ?_, fun i j he hj hn => ?_⟩
 ·obtain ⟨rfl, j, _, h2, h3⟩ := (h.mem k v).1 hk;exact ⟨j, 0, h2, rfl, h0 j h3, by omega⟩
 ·obtain rfl : k = 0 := by omega
  exact ⟨0, (h.mem _ _).2 ⟨rfl, i, QM hs hr, rfl, hr⟩⟩
 ·have := ((h.mem k _).1 hk).1
  simp at this
 exact absurd ((h.t _).2 ((h.mem _ _).2 ⟨rfl, j, QM hs hj.1, rfl, hj.1⟩)) hn
theorem QE.len {s : A3} (hs : IB s) {a : Nat} {T1 T2 : List Int} {M : List (Int × Int)} (h : QE s a T1 T2 M) : M.length ≤ s.cM.length := by
 have : (M.map fun p => p.1.toNat).Nodup := by
  have hn := h.mp.nd
  rw [List.nodup_iff_pairwise_ne, List.pairwise_map] at hn ⊢
  refine List.Pairwise.imp_of_mem ?_ hn;intro p q hp hq hne e;obtain ⟨i, d, e1, _⟩ := h.ok p.1 p.2 hp;obtain ⟨i', d', e2, _⟩ := h.ok q.1 q.2 hq;omega
 have := Hp this (n := s.cM.length) (fun x hx => by
  obtain ⟨p, hp, rfl⟩ := List.mem_map.1 hx;obtain ⟨i, d, e1, _, e3, _⟩ := h.ok p.1 p.2 hp;have := QM hs e3.1
  omega)
 simpa using this
theorem Nh {s : A3} (hs : IB s) {a : Nat} {x : Int} {T1 : List Int} : ∀ (d i N : Nat) (T2 : List Int) (M : List (Int × Int)), i + d = s.cO.length → d < N → QE s a (x :: T1) T2 M → (x :: T1 ++ T2).length ≤ M.length →
 (∀ j : Nat, j < i → ∀ m, s.cO[j]? = some m → m.To = x → vd m.On = false → ∃ v, (m.cQ, v) ∈ M) →
 ∃ T2' M', loopN (Ks 40000000 s) N ((i : Int), x :: T1 ++ T2, M) = some (x :: T1 ++ T2', M') ∧ QE s a (x :: T1) T2' M' ∧ T2'.length + M.length = T2.length + M'.length ∧ (∀ m ∈ s.cO, m.To = x → vd m.On = false → ∃ v, (m.cQ, v) ∈ M')
 | 0, i, N, T2, M, hi, hN, h, hl, hd => by
  obtain ⟨N, rfl⟩ : ∃ K, N = K + 1 := ⟨N - 1, by omega⟩;refine ⟨T2, M, ?_, h, rfl, fun m hm => ?_⟩
  ·have e : Ks 40000000 s ((i : Int), x :: T1 ++ T2, M) = some (.inr (x :: T1 ++ T2, M)) := by
    unfold Ks;rw [if_neg (by simp [D2, D7]; omega)]
   rw [loopN, e]
  obtain ⟨j, hj⟩ := List.getElem?_of_mem hm;refine hd j ?_ m hj
  rcases Nat.lt_or_ge j s.cO.length with c | c
  ·omega
  rw [List.getElem?_eq_none c] at hj; cases hj
 | d + 1, i, N, T2, M, hi, hN, h, hl, hd => by
  obtain ⟨N, rfl⟩ : ∃ K, N = K + 1 := ⟨N - 1, by omega⟩;have hmv := hs.mv
  have hlt : i < s.cO.length := by omega
  have hx := List.getElem?_eq_getElem hlt;have hinc : Ar.ar .add .i64 (i : Int) 1 = ((i + 1 : Nat) : Int) := Q2 hlt (by omega);obtain ⟨m, hm⟩ : ∃ m, s.cO[i] = m := ⟨_, rfl⟩
  rw [hm] at hx
  have hmem : m ∈ s.cO := by rw [← hm]; exact List.getElem_mem hlt
  obtain ⟨⟨⟨f0, f1⟩, t0, t1⟩, hp⟩ := hs.each m hmem
  have hin : Gb (x :: T1 ++ T2) 0 = true := by unfold Gb; simp; omega
  have hix : C6 (x :: T1 ++ T2) 0 = some x := by simp [C6]
  have hsv := JH (N := 40000000) (by omega) hp;have hMl := h.len hs;have hfi := hs.fi
  have skip : Ks 40000000 s ((i : Int), x :: T1 ++ T2, M) = some (.inl (((i + 1 : Nat) : Int), x :: T1 ++ T2, M)) → (m.To = x → vd m.On = false → ∃ v, (m.cQ, v) ∈ M) →
   ∃ T2' M', loopN (Ks 40000000 s) (N + 1) ((i : Int), x :: T1 ++ T2, M) = some (x :: T1 ++ T2', M') ∧ QE s a (x :: T1) T2' M' ∧ T2'.length + M.length = T2.length + M'.length ∧ (∀ m ∈ s.cO, m.To = x → vd m.On = false → ∃ v, (m.cQ, v) ∈ M') := by
   intro e hk;rw [loopN, e]
   exact Nh hs d (i + 1) N T2 M (by omega) (by omega) h hl (fun j hj y hy hty hvy => by
    rcases Nat.lt_or_ge j i with c | c
    ·exact hd j c y hy hty hvy
    rw [show j = i by omega, hx] at hy; cases hy; exact hk hty hvy)
  by_cases hkn : ∃ v, (m.cQ, v) ∈ M
  ·obtain ⟨v, hv⟩ := hkn;refine skip ?_ fun _ _ => ⟨v, hv⟩;unfold Ks;rw [if_pos (by simp [D2, D7]; omega)];simp only [G2, hx, Option.bind_some, Ej h.mp hv, Ea, hin, if_true, hix, U2, W1, Bool.not_true, Bool.and_false, Bool.false_eq_true, if_false, hinc]
  have hno : ∀ v, ¬(m.cQ, v) ∈ M := fun v hv => hkn ⟨v, hv⟩;have hg := Gd hno
  by_cases ht : m.To = x
  ·cases hvd : vd m.On with
   | true =>
    refine skip ?_ fun _ h2 => by rw [hvd] at h2; cases h2
    unfold Ks;rw [if_pos (by simp [D2, D7]; omega)];simp only [G2, hx, Option.bind_some, hg, Ea, hin, if_true, hix, U2, W1, ht, AB, decide_true, Bool.not_false, Bool.and_self, hsv, hvd, Bool.not_true, Bool.false_eq_true, if_false, hinc]
   | false =>
    have hxa := h.t1 x (by simp);obtain ⟨ix, dx, ex1, ex2, ex3, _⟩ := h.ok _ _ hxa
    have hdx : dx = a := by omega
    subst hdx;obtain ⟨jf, hjf⟩ : ∃ j : Nat, m.cQ = (j : Int) := ⟨m.cQ.toNat, by omega⟩;have hda := Uc hs ex3
    have hD : Mr s jf (dx + 1) := by
     refine ⟨⟨ix, ⟨m, hmem, hjf, by omega, hvd⟩, ex3.1⟩, fun k hk hr => ?_⟩;obtain ⟨v, hv⟩ := h.kn jf k (by omega) hr;exact hno v (by rw [hjf]; exact hv)
    obtain ⟨e1, hMp⟩ := Oa h.mp (v := (dx : Int) + 1) hno
    have e2 : L5 (x :: T1 ++ T2) [m.cQ] = some (x :: T1 ++ (T2 ++ [m.cQ])) := by
     unfold L5;rw [if_pos (by simp only [List.length_singleton]; omega), List.append_assoc]
    have e : Ks 40000000 s ((i : Int), x :: T1 ++ T2, M) = some (.inl (((i + 1 : Nat) : Int), x :: T1 ++ (T2 ++ [m.cQ]), M ++ [(m.cQ, (dx : Int) + 1)])) := by
     unfold Ks;rw [if_pos (by simp [D2, D7]; omega)];simp only [G2, hx, Option.bind_some, hg, Ea, hin, if_true, hix, U2, W1, ht, AB, decide_true, Bool.not_false, Bool.and_self, hsv, hvd, Ej h.mp hxa, CP (show -9223372036854775808 ≤ (dx : Int) + 1 by omega) (show (dx : Int) + 1 < 9223372036854775808 by omega), e1, e2, hinc]
    rw [loopN, e]
    obtain ⟨T2', M', e3, h3, h4, h5⟩ := Nh hs (a := dx) (x := x) (T1 := T1) d (i + 1) N (T2 ++ [m.cQ]) (M ++ [(m.cQ, (dx : Int) + 1)]) (by omega) (by omega)
     ⟨hMp, fun k v hk => by
      rcases List.mem_append.1 hk with hk | hk
      ·exact h.ok k v hk
      simp only [List.mem_singleton, Prod.mk.injEq] at hk
      obtain ⟨rfl, rfl⟩ := hk
      exact ⟨jf, dx + 1, hjf, by omega, hD, by omega⟩,
      fun k hk => List.mem_append_left _ (h.t1 k hk),
      fun k hk => by
       rcases List.mem_append.1 hk with hk | hk
       ·exact List.mem_append_left _ (h.t2 k hk)
       simp only [List.mem_singleton] at hk
       exact List.mem_append_right _ (by rw [hk]; simp),
      fun y k hk hr => by obtain ⟨v, hv⟩ := h.kn y k hk hr; exact ⟨v, List.mem_append_left _ hv⟩,
      fun k hk => by
       rcases List.mem_append.1 hk with hk | hk
       ·exact List.mem_append_left _ (h.up k hk)
       simp only [List.mem_singleton, Prod.mk.injEq] at hk
       exact List.mem_append_right _ (by rw [hk.1]; simp),
      fun y j he hj hn => by obtain ⟨v, hv⟩ := h.dn y j he hj hn; exact ⟨v, List.mem_append_left _ hv⟩⟩
     (by simp only [List.length_append, List.length_cons, List.length_nil] at hl ⊢; omega)
     (fun j hj y hy hty hvy => by
      rcases Nat.lt_or_ge j i with c | c
      ·obtain ⟨v, hv⟩ := hd j c y hy hty hvy; exact ⟨v, List.mem_append_left _ hv⟩
      rw [show j = i by omega, hx] at hy; cases hy; exact ⟨(dx : Int) + 1, List.mem_append_right _ (by simp)⟩)
    refine ⟨T2', M', e3, h3, ?_, h5⟩
    simp only [List.length_append, List.length_cons, List.length_nil] at h4
    omega
  refine skip ?_ fun h1 => absurd h1 ht;unfold Ks;rw [if_pos (by simp [D2, D7]; omega)];simp only [G2, hx, Option.bind_some, hg, Ea, hin, if_true, hix, U2, W1, ht, AB, decide_false, Bool.false_and, Bool.false_eq_true, if_false, hinc]
theorem TA {s : A3} (hs : IB s) {a : Nat} {x : Int} {T1 T2 : List Int} {M : List (Int × Int)} (h : QE s a (x :: T1) T2 M) (hl : (x :: T1 ++ T2).length ≤ M.length) :
 ∃ T2' M', TB 40000000 s (x :: T1 ++ T2, M) = some (.inl (T1 ++ T2', M')) ∧ QE s a T1 T2' M' ∧ (T1 ++ T2').length ≤ M'.length ∧ (T1 ++ T2').length + (s.cM.length - M'.length) < (x :: T1 ++ T2).length + (s.cM.length - M.length) := by
 have hmv := hs.mv;obtain ⟨T2', M', e, h1, h2, h3⟩ := Nh hs s.cO.length 0 40000000 T2 M (by omega) (by omega) h hl (fun j hj => by omega);have hl1 := h.len hs;have hl2 := h1.len hs;refine ⟨T2', M', ?_, ⟨h1.mp, h1.ok, fun k hk => h1.t1 k (List.mem_cons_of_mem _ hk), h1.t2, h1.kn, h1.up, fun i j he hj hn => ?_⟩, ?_, ?_⟩
 ·unfold TB;rw [if_pos (by simp [Q3, D7]; omega)]
  rw [show ((0 : Nat) : Int) = 0 from rfl] at e
  rw [e];simp only [Option.bind_some];unfold V2;rw [if_pos (by simp; omega)];simp only [Option.bind_some, Option.getD_some, Option.getD_none]
  congr 2
  rw [show ((x :: T1 ++ T2').drop (1 : Int).toNat) = T1 ++ T2' from rfl];rw [List.take_of_length_le (by simp; omega)]
 ·by_cases c : (j : Int) = x
  ·obtain ⟨m, hm, f, t, v⟩ := he;obtain ⟨w, hw⟩ := h3 m hm (by omega) v;exact ⟨w, by rw [← f]; exact hw⟩
  exact h1.dn i j he hj (by simp only [List.mem_cons, not_or]; exact ⟨c, hn⟩)
 ·simp only [List.length_append, List.length_cons] at hl ⊢; omega
 simp only [List.length_append, List.length_cons] at hl ⊢; omega
theorem Vl {s : A3} (hs : IB s) : ∀ (μ N a : Nat) (T1 T2 : List Int) (M : List (Int × Int)), (T1 ++ T2).length + (s.cM.length - M.length) ≤ μ → μ < N → QE s a T1 T2 M → (T1 ++ T2).length ≤ M.length →
 ∃ a' M', loopN (TB 40000000 s) N (T1 ++ T2, M) = some ([], M') ∧ QE s a' [] [] M' := by
 intro μ
 induction μ with
 | zero =>
  intro N a T1 T2 M hm hN h hl;obtain ⟨N, rfl⟩ : ∃ K, N = K + 1 := ⟨N - 1, by omega⟩;have e1 : T1 = [] := List.eq_nil_of_length_eq_zero (by rw [List.length_append] at hm; omega);have e2 : T2 = [] := List.eq_nil_of_length_eq_zero (by rw [List.length_append] at hm; omega);subst e1; subst e2;exact ⟨a, M, rfl, h⟩
 | succ μ ih =>
  intro N a T1 T2 M hm hN h hl;obtain ⟨N, rfl⟩ : ∃ K, N = K + 1 := ⟨N - 1, by omega⟩
  have go : ∀ (a : Nat) (x : Int) (T1 T2 : List Int), (x :: T1 ++ T2).length + (s.cM.length - M.length) ≤ μ + 1 → QE s a (x :: T1) T2 M → (x :: T1 ++ T2).length ≤ M.length → ∃ a' M', loopN (TB 40000000 s) (N + 1) (x :: T1 ++ T2, M) = some ([], M') ∧ QE s a' [] [] M' := by
   intro a x T1 T2 hm h hl;obtain ⟨T2', M', e, h1, h2, h3⟩ := TA hs h hl;rw [loopN, e];exact ih N a T1 T2' M' (by omega) (by omega) h1 h2
  cases T1 with
  | cons x T1 => exact go a x T1 T2 hm h hl
  | nil =>
   cases T2 with
   | nil => exact ⟨a, M, rfl, h⟩
   | cons x T2 =>
    have := go (a + 1) x T2 [] (by simpa using hm) h.next (by simpa using hl)
    simpa using this
theorem Rn {s : A3} (hs : IB s) : ∃ M, I9 40000000 s = some M ∧ Mp M ∧ ∀ k v, (k, v) ∈ M ↔ ∃ i d : Nat, k = (i : Int) ∧ v = (d : Int) ∧ Mr s i d := by
 have hf := hs.fi;obtain ⟨T, M, e, h⟩ := Kt hs s.cM.length 0 40000000 [] [] (by omega) (by omega) ⟨⟨List.nodup_nil⟩, fun k v => by simp, fun k => by simp, rfl, by simp⟩;have hb := h.bfs hs;have hl := hb.len hs;obtain ⟨a, M', e2, h2⟩ := Vl hs 600 40000000 0 T [] M (by simp; have := h.li; omega) (by omega) hb (by simp [h.le]);refine ⟨M', ?_, h2.mp, fun k v => ⟨fun hk => ?_, ?_⟩⟩
 ·rw [Uq]
  rw [show ((0 : Nat) : Int) = 0 from rfl] at e
  rw [e]
  rw [List.append_nil] at e2
  simp only [Option.bind_some, e2]
 ·obtain ⟨i, d, e1, e2, e3, _⟩ := h2.ok k v hk;exact ⟨i, d, e1, e2, e3⟩
 rintro ⟨i, d, rfl, rfl, hd⟩
 have hall : ∃ v, ((i : Int), v) ∈ M' := by
  rcases Nat.lt_or_ge a d with c | c
  ·obtain ⟨i', hi'⟩ := LU hd (a + 1) (by omega);obtain ⟨j, he, hj⟩ := Eh hi';obtain ⟨v, hv⟩ := h2.dn i' j he hj (by simp);obtain ⟨i2, d2, q1, q2, q3, q4⟩ := h2.ok _ _ hv
   have : i2 = i' := by omega
   subst this;have := FB hi' q3;subst this;have := h2.up _ (by rw [q2] at hv; exact_mod_cast hv);cases this
  exact h2.kn i d c hd.1
 obtain ⟨v, hv⟩ := hall;obtain ⟨i2, d2, q1, q2, q3, _⟩ := h2.ok _ _ hv
 have : i2 = i := by omega
 subst this;have := FB hd q3;subst this;rw [← q2]; exact hv
end Go.Ab
namespace Go.Ab
theorem US {N : Nat} {t : Int} {p : B6} (hN : 300 < N) (hp : HU t p = 0) : P9 N p = some (if vd p = true then (⟨0, 0⟩, 6) else (Df p, 0)) := by
 obtain ⟨_, h0⟩ := Fs0 hp;unfold P9;simp only [FI (show 256 < N by omega), Option.bind_some, h0, show Ar.k .neq (0 : Int) 0 = false from rfl, Bool.false_eq_true, if_false];obtain ⟨hlen, _⟩ := CS h0;rw [Mc (by omega) (by omega)];simp only [Option.bind_some];have hh := Nm p.cP 0;unfold Df vd
 cases hf : fl 0 p.cP with
 | nil =>
  rw [hf] at hh
  cases hq : Nj p with
  | none => rfl
  | some q => rw [show Qn QQ 0 p.cP = some q from hq] at hh; cases hh
 | cons y r =>
  rw [hf] at hh
  cases hq : Nj p with
  | none => rw [show Qn QQ 0 p.cP = none from hq] at hh; cases hh
  | some q =>
   obtain ⟨k, x⟩ := q;have hq' : Qn QQ 0 p.cP = some (k, x) := hq
   rw [hq'] at hh
   simp only [List.head?_cons, Option.map_some, Option.some.injEq] at hh
   subst hh;have hx := (Kw hq').2.2.1
   cases x with
   | nil => simp [QQ] at hx
   | cons a x => rfl
theorem WU {p : B6} {x : B2} (h : Ip p x = true) : vd p = false := by
 obtain ⟨h0, l, hl, y, hy, _⟩ := HA.1 h
 cases hv : vd p with
 | false => rfl
 | true =>
  have : Qn QQ 0 p.cP = none := by
   have : (Nj p).isNone = true := hv
   simpa using this
  have := OL this l (List.mem_of_getElem? hl)
  cases l with
  | nil => cases hy
  | cons a l => simp [QQ] at this
def Ru (x y : B2) : Bool := decide (x.Typ < y.Typ) || (decide (x.Typ = y.Typ) && decide (x.Num < y.Num))
theorem Xe (N : Nat) (x y : B2) : X8 N x y = some (Ru x y) := rfl
theorem HM {x y : B2} : Ru x y = true ↔ x.Typ < y.Typ ∨ x.Typ = y.Typ ∧ x.Num < y.Num := by simp [Ru]
theorem SB {x y : B2} (h : Ru x y = false) (h' : Ru y x = false) : x = y := by
 have h1 : ¬(x.Typ < y.Typ ∨ x.Typ = y.Typ ∧ x.Num < y.Num) := fun c => by rw [HM.2 c] at h; cases h
 have h2 : ¬(y.Typ < x.Typ ∨ y.Typ = x.Typ ∧ y.Num < x.Num) := fun c => by rw [HM.2 c] at h'; cases h'
 obtain ⟨a, b⟩ := x;obtain ⟨c, d⟩ := y
 simp only at h1 h2
 have e1 : a = c := by omega
 have e2 : b = d := by omega
 rw [e1, e2]
def Mn (C : B2 → Prop) (st : Bool × B2) : Prop := (st = (false, ⟨0, 0⟩) ∧ ∀ c, ¬C c) ∨ (st.1 = true ∧ C st.2 ∧ ∀ c, C c → Ru c st.2 = false)
def nxt (st : Bool × B2) (c : B2) : Bool × B2 := if st.1 = false then (true, c) else if Ru c st.2 = true then (true, c) else st
theorem Rt (x : B2) : Ru x x = false := by simp [Ru]
theorem VB {C : B2 → Prop} {st : Bool × B2} (h : Mn C st) (c : B2) : Mn (fun x => C x ∨ x = c) (nxt st c) := by
 unfold nxt
 rcases h with ⟨rfl, h⟩ | ⟨h1, h2, h3⟩
 ·rw [if_pos rfl];refine .inr ⟨rfl, .inr rfl, fun x hx => ?_⟩
  rcases hx with hx | rfl
  ·exact absurd hx (h x)
  exact Rt x
 rw [if_neg (by rw [h1]; simp)]
 by_cases hb : Ru c st.2 = true
 ·rw [if_pos hb];refine .inr ⟨rfl, .inr rfl, fun x hx => ?_⟩
  rcases hx with hx | rfl
  ·have := h3 x hx
   cases hxc : Ru x c with
   | false => rfl
   | true =>
    have e1 := HM.1 hxc;have e2 := HM.1 hb;have : Ru x st.2 = true := HM.2 (by omega)
    rw [h3 x hx] at this; cases this
  exact Rt x
 rw [if_neg hb];refine .inr ⟨h1, .inl h2, fun x hx => ?_⟩
 rcases hx with hx | rfl
 ·exact h3 x hx
 cases hc : Ru x st.2 with
 | false => rfl
 | true => exact absurd hc hb
theorem GL {C C' : B2 → Prop} {st : Bool × B2} (h : Mn C st) (hc : ∀ x, C x ↔ C' x) : Mn C' st := by
 have : C = C' := funext fun x => propext (hc x);rw [← this]; exact h
theorem VA {C : B2 → Prop} {st st' : Bool × B2} (h : Mn C st) (h' : Mn C st') : st = st' := by
 rcases h with ⟨rfl, h⟩ | ⟨h1, h2, h3⟩
 ·rcases h' with ⟨rfl, _⟩ | ⟨_, k2, _⟩
  ·rfl
  exact absurd k2 (h _)
 rcases h' with ⟨rfl, k⟩ | ⟨k1, k2, k3⟩
 ·exact absurd h2 (k _)
 exact Prod.ext (by rw [h1, k1]) (SB (h := k3 _ h2) (h' := h3 _ k2))
section
variable {s : A3} {M : List (Int × Int)} {left : Nat}
structure HT (s : A3) (M : List (Int × Int)) : Prop where
 mp : Mp M
 mem : ∀ k v, (k, v) ∈ M ↔ ∃ i d : Nat, k = (i : Int) ∧ v = (d : Int) ∧ Mr s i d
noncomputable def Po (s : A3) (left : Nat) (m : C9) : Bool := @decide (∃ t : Nat, m.To = (t : Int) ∧ Mr s t left) (Classical.propDecidable _)
theorem Ho {m : C9} : Po s left m = true ↔ ∃ t : Nat, m.To = (t : Int) ∧ Mr s t left := by unfold Po; exact @decide_eq_true_iff _ (Classical.propDecidable _)
theorem NO (left : Nat) (h : left < 1000) : Ar.ar .sub .i64 ((left : Int) + 1) 1 = (left : Int) := by
 show IntKind.wrap .i64 (((left : Int) + 1) - 1) = _
 rw [He (by omega) (by omega)]; omega
theorem El {N : Nat} {m : C9} (hM : HT s M) (hl : left < 1000) : K9 N m M ((left : Int) + 1) = some (Po s left m) := by
 unfold K9
 by_cases h : ∃ v, (m.To, v) ∈ M
 ·obtain ⟨v, hv⟩ := h;rw [Ej hM.mp hv];simp only [Option.bind_some, W1, AB, NO left hl, Bool.true_and, Option.some.injEq];obtain ⟨i, d, e1, e2, e3⟩ := (hM.mem _ _).1 hv;apply Bool.eq_iff_iff.2;rw [Ho, decide_eq_true_eq]
  constructor
  ·intro h1;exact ⟨i, e1, by rw [show left = d by omega]; exact e3⟩
  rintro ⟨t, ht, hD⟩
  have : t = i := by omega
  subst this;rw [e2, FB hD e3]
 rw [Gd (fun v hv => h ⟨v, hv⟩)];simp only [Option.bind_some, W1, Bool.false_and, Option.some.injEq]
 symm
 cases hn : Po s left m with
 | false => rfl
 | true =>
  obtain ⟨t, ht, hD⟩ := Ho.1 hn;exact absurd ⟨_, (hM.mem _ _).2 ⟨t, left, ht, rfl, hD⟩⟩ h
noncomputable def leI (N : Nat) (M : List (Int × Int)) (left : Int) (st : Bool × B2) (m : C9) : Option ((Bool × B2) ⊕ Unit) :=
 (P9 N m.On).bind fun r37 =>
 if Ar.k .eql r37.2 0 = true then
  (K9 N m M left).bind fun r38 =>
  if r38 = true then
   if Ar.nt st.1 = true then
    some (.inl (true, r37.1))
   else
    (X8 N r37.1 st.2).bind fun r39 =>
    if r39 = true then
     some (.inl (true, r37.1))
    else
     some (.inl (st.1, st.2))
  else
   some (.inl (st.1, st.2))
 else
  some (.inl (st.1, st.2))
theorem WS {N : Nat} {t : Int} {m : C9} {st : Bool × B2} (hN : 300 < N) (hM : HT s M) (hl : left < 1000) (hp : HU t m.On = 0) :
 leI N M ((left : Int) + 1) st m = some (.inl (if vd m.On = false ∧ Po s left m = true then nxt st (Df m.On) else st)) := by
 unfold leI;rw [US hN hp];simp only [Option.bind_some]
 cases hv : vd m.On with
 | true => simp [AB]
 | false =>
  simp only [Bool.false_eq_true, if_false, show Ar.k .eql (0 : Int) 0 = true from rfl, if_true, El hM hl, Option.bind_some, true_and]
  cases hn : Po s left m with
  | false => simp
  | true =>
   simp only [if_true];unfold nxt;obtain ⟨f, x⟩ := st
   cases f with
   | false => rfl
   | true =>
    simp only [U2, Bool.not_true, Bool.false_eq_true, if_false, Xe N _ _, Option.bind_some];cases Ru (Df m.On) x <;> rfl
theorem Nd {N : Nat} {t : Int} (hN : 300 < N) (hM : HT s M) (hl : left < 1000) : ∀ (l : List C9) (C : B2 → Prop) (st : Bool × B2), (∀ m ∈ l, HU t m.On = 0) → Mn C st →
 ∃ st', D0 (leI N M ((left : Int) + 1)) l st = some (.inl st') ∧ Mn (fun x => C x ∨ ∃ m ∈ l, (vd m.On = false ∧ Po s left m = true) ∧ x = Df m.On) st'
 | [], C, st, _, h => ⟨st, rfl, GL h fun x => by simp⟩
 | m :: l, C, st, hp, h => by
  have e := WS (st := st) hN hM hl (hp m (by simp));have hp' := fun y hy => hp y (List.mem_cons_of_mem m hy)
  by_cases hc : vd m.On = false ∧ Po s left m = true
  ·rw [if_pos hc] at e
   obtain ⟨st', e2, h2⟩ := Nd hN hM hl l _ _ hp' (VB h (Df m.On));refine ⟨st', by rw [D0, e]; exact e2, GL h2 fun x => ?_⟩
   constructor
   ·rintro ((hx | rfl) | ⟨y, hy, hx⟩)
    ·exact .inl hx
    ·exact .inr ⟨m, by simp, hc, rfl⟩
    exact .inr ⟨y, List.mem_cons_of_mem _ hy, hx⟩
   rintro (hx | ⟨y, hy, hx⟩)
   ·exact .inl (.inl hx)
   rcases List.mem_cons.1 hy with rfl | hy
   ·exact .inl (.inr hx.2)
   exact .inr ⟨y, hy, hx⟩
  rw [if_neg hc] at e
  obtain ⟨st', e2, h2⟩ := Nd hN hM hl l _ _ hp' h;refine ⟨st', by rw [D0, e]; exact e2, GL h2 fun x => ?_⟩
  constructor
  ·rintro (hx | ⟨y, hy, hx⟩)
   ·exact .inl hx
   exact .inr ⟨y, List.mem_cons_of_mem _ hy, hx⟩
  rintro (hx | ⟨y, hy, hx⟩)
  ·exact .inl hx
  rcases List.mem_cons.1 hy with rfl | hy
  ·exact absurd hx.1 hc
  exact .inr ⟨y, hy, hx⟩
noncomputable def XM (N : Nat) (s : A3) (M : List (Int × Int)) (left : Int) (st : Bool × B2) (p : Int × Bool) : Option ((Bool × B2) ⊕ (Bool × B2)) :=
 (J2 N s p.1).bind fun r30 => (D0 (leI N M left) r30 (st.1, st.2)).bind fun o36 => match o36 with | .inl s42 => some (.inl (s42.1, s42.2)) | .inr _ => none
def Cn (s : A3) (left : Nat) (l : List (Int × Bool)) (x : B2) : Prop := ∃ p ∈ l, ∃ m ∈ s.cO, m.cQ = p.1 ∧ (vd m.On = false ∧ Po s left m = true) ∧ x = Df m.On
theorem Nc {N : Nat} (hN : 3000 < N) (hs : IB s) (hM : HT s M) (hl : left < 1000) : ∀ (l : List (Int × Bool)) (C : B2 → Prop) (st : Bool × B2), Mn C st →
 ∃ st', D0 (XM N s M ((left : Int) + 1)) l st = some (.inl st') ∧ Mn (fun x => C x ∨ Cn s left l x) st'
 | [], C, st, h => ⟨st, rfl, GL h fun x => by simp [Cn]⟩
 | p :: l, C, st, h => by
  obtain ⟨st1, e1, h1⟩ := Nd (N := N) (t := s.cS) (by omega) hM hl (s.cO.filter fun m => decide (m.cQ = p.1)) C st (fun m hm => (hs.each m (List.mem_filter.1 hm).1).2) h;obtain ⟨st', e2, h2⟩ := Nc hN hs hM hl l _ _ h1;refine ⟨st', ?_, GL h2 fun x => ?_⟩
  ·rw [D0, show XM N s M ((left : Int) + 1) st p = some (.inl st1) by simp [XM, Ju hN hs.mv, e1]];exact e2
  constructor
  ·rintro ((hx | ⟨m, hm, hx⟩) | ⟨q, hq, hx⟩)
   ·exact .inl hx
   ·obtain ⟨hm, e⟩ := List.mem_filter.1 hm;exact .inr ⟨p, by simp, m, hm, by simpa using e, hx⟩
   exact .inr ⟨q, List.mem_cons_of_mem _ hq, hx⟩
  rintro (hx | ⟨q, hq, m, hm, e, hx⟩)
  ·exact .inl (.inl hx)
  rcases List.mem_cons.1 hq with rfl | hq
  ·exact .inl (.inr ⟨m, List.mem_filter.2 ⟨hm, by simpa using e⟩, hx⟩)
  exact .inr ⟨q, hq, m, hm, e, hx⟩
theorem leP (hs : IB s) (hM : HT s M) (hl : left < 1000) (S : List (Int × Bool)) :
 ∃ st, V3 (XM 40000000 s M ((left : Int) + 1)) (fun s23 => ((s23.1, s23.2) : Bool × B2)) (fun y => y) S (false, (⟨0, 0⟩ : B2)) = some st ∧ Mn (Cn s left S) st := by
 have h0 : Mn (fun _ => False) (false, (⟨0, 0⟩ : B2)) := .inl ⟨rfl, fun _ h => h⟩;obtain ⟨st, e, h⟩ := Nc (N := 40000000) (by omega) hs hM hl S _ _ h0
 have h := GL h (C' := Cn s left S) fun x => by simp
 refine ⟨st, Ef fun m hm => ?_, h⟩;obtain ⟨st2, e2, h2⟩ := Nc (N := 40000000) (by omega) hs hM hl m _ _ h0
 have h2 := GL h2 (C' := Cn s left S) fun x => by
  simp only [false_or];exact ⟨fun ⟨p, hp, hx⟩ => ⟨p, hm.mem_iff.1 hp, hx⟩, fun ⟨p, hp, hx⟩ => ⟨p, hm.mem_iff.2 hp, hx⟩⟩
 rw [e2, VA h2 h];rfl
noncomputable def Wd (N : Nat) (M : List (Int × Int)) (left : Int) (x : B2) (S : List (Int × Bool)) (m : C9) : Option (List (Int × Bool) ⊕ Unit) :=
 (K9 N m M left).bind fun r64 => if r64 = true then (J6 N m.On x).bind fun r65 => if r65 = true then (Y6 S m.To true).bind fun l67 => some (.inl l67) else some (.inl S) else some (.inl S)
theorem WH {S : List (Int × Bool)} (h : Lb S) {k : Int} (hk : (k, true) ∈ S) : Y6 S k true = some S := by
 unfold Y6;rw [if_pos (by simp only [List.any_eq_true, decide_eq_true_eq]; exact ⟨_, hk, rfl⟩)]
 congr 1
 refine (List.map_congr_left fun p hp => ?_).trans (List.map_id S)
 by_cases e : p.1 = k
 ·rw [if_pos e];have := h.2 p hp;exact Prod.ext e.symm this.symm
 rw [if_neg e]; rfl
theorem Nz {N : Nat} {t : Int} {x : B2} (hN : 300 < N) (hM : HT s M) (hl : left < 1000) (hx : FP t x = 0) : ∀ (l : List C9) (S : List (Int × Bool)), (∀ m ∈ l, HU t m.On = 0) → Lb S →
 ∃ S', D0 (Wd N M ((left : Int) + 1) x) l S = some (.inl S') ∧ Lb S' ∧ ∀ k, (k, true) ∈ S' ↔ (k, true) ∈ S ∨ ∃ m ∈ l, m.To = k ∧ Po s left m = true ∧ Ip m.On x = true
 | [], S, _, hS => ⟨S, rfl, hS, fun k => by simp⟩
 | m :: l, S, hp, hS => by
  have hp' := fun y hy => hp y (List.mem_cons_of_mem m hy);have hc := Hj (x := x) hN (hp m (by simp)) hx
  have skip : Wd N M ((left : Int) + 1) x S m = some (.inl S) → (Po s left m = true ∧ Ip m.On x = true → (m.To, true) ∈ S) →
   ∃ S', D0 (Wd N M ((left : Int) + 1) x) (m :: l) S = some (.inl S') ∧ Lb S' ∧ ∀ k, (k, true) ∈ S' ↔ (k, true) ∈ S ∨ ∃ y ∈ m :: l, y.To = k ∧ Po s left y = true ∧ Ip y.On x = true := by
   intro e hk;obtain ⟨S', e2, h2, h3⟩ := Nz hN hM hl hx l S hp' hS;refine ⟨S', by rw [D0, e]; exact e2, h2, fun k => ?_⟩;rw [h3 k]
   constructor
   ·rintro (h | ⟨y, hy, h⟩)
    ·exact .inl h
    exact .inr ⟨y, List.mem_cons_of_mem _ hy, h⟩
   rintro (h | ⟨y, hy, h⟩)
   ·exact .inl h
   rcases List.mem_cons.1 hy with rfl | hy
   ·exact .inl (by rw [← h.1]; exact hk h.2)
   exact .inr ⟨y, hy, h⟩
  by_cases hn : Po s left m = true ∧ Ip m.On x = true
  ·by_cases hin : (m.To, true) ∈ S
   ·exact skip (by simp [Wd, El hM hl, hn.1, hc, hn.2, WH hS hin]) fun _ => hin
   obtain ⟨_, g2, g3⟩ := Js hS hin;obtain ⟨S', e2, h2, h3⟩ := Nz hN hM hl hx l _ hp' g3;refine ⟨S', by rw [D0, show Wd N M ((left : Int) + 1) x S m = some (.inl (S ++ [(m.To, true)])) by simp [Wd, El hM hl, hn.1, hc, hn.2, g2]]; exact e2, h2, fun k => ?_⟩;rw [h3 k]
   constructor
   ·rintro (h | ⟨y, hy, h⟩)
    ·rcases List.mem_append.1 h with h | h
     ·exact .inl h
     simp only [List.mem_singleton, Prod.mk.injEq, and_true] at h
     exact .inr ⟨m, by simp, h.symm, hn⟩
    exact .inr ⟨y, List.mem_cons_of_mem _ hy, h⟩
   rintro (h | ⟨y, hy, h⟩)
   ·exact .inl (List.mem_append_left _ h)
   rcases List.mem_cons.1 hy with rfl | hy
   ·exact .inl (List.mem_append_right _ (by rw [h.1]; simp))
   exact .inr ⟨y, hy, h⟩
  refine skip ?_ fun h => absurd h hn
  cases h1 : Po s left m with
  | false => simp [Wd, El hM hl, h1]
  | true =>
   have h2 : Ip m.On x = false := by cases h2 : Ip m.On x with | false => rfl | true => exact absurd ⟨h1, h2⟩ hn
   simp [Wd, El hM hl, h1, hc, h2]
noncomputable def XW (N : Nat) (s : A3) (M : List (Int × Int)) (left : Int) (x : B2) (S : List (Int × Bool)) (p : Int × Bool) : Option (List (Int × Bool) ⊕ List (Int × Bool)) :=
 (J2 N s p.1).bind fun r56 => (D0 (Wd N M left x) r56 S).bind fun o63 => match o63 with | .inl s71 => some (.inl s71) | .inr _ => none
theorem Ny {N : Nat} {x : B2} (hN : 3000 < N) (hs : IB s) (hM : HT s M) (hl : left < 1000) (hx : FP s.cS x = 0) : ∀ (l S : List (Int × Bool)), Lb S →
 ∃ S', D0 (XW N s M ((left : Int) + 1) x) l S = some (.inl S') ∧ Lb S' ∧ ∀ k, (k, true) ∈ S' ↔ (k, true) ∈ S ∨ ∃ p ∈ l, ∃ m ∈ s.cO, m.cQ = p.1 ∧ m.To = k ∧ Po s left m = true ∧ Ip m.On x = true
 | [], S, hS => ⟨S, rfl, hS, fun k => by simp⟩
 | p :: l, S, hS => by
  obtain ⟨S1, e1, h1, h2⟩ := Nz (N := N) (t := s.cS) (by omega) hM hl hx (s.cO.filter fun m => decide (m.cQ = p.1)) S (fun m hm => (hs.each m (List.mem_filter.1 hm).1).2) hS;obtain ⟨S', e, h3, h4⟩ := Ny hN hs hM hl hx l S1 h1;refine ⟨S', ?_, h3, fun k => ?_⟩
  ·rw [D0, show XW N s M ((left : Int) + 1) x S p = some (.inl S1) by simp [XW, Ju hN hs.mv, e1]];exact e
  rw [h4 k, h2 k]
  constructor
  ·rintro ((h | ⟨m, hm, h⟩) | ⟨q, hq, h⟩)
   ·exact .inl h
   ·obtain ⟨hm, e⟩ := List.mem_filter.1 hm;exact .inr ⟨p, by simp, m, hm, by simpa using e, h⟩
   exact .inr ⟨q, List.mem_cons_of_mem _ hq, h⟩
  rintro (h | ⟨q, hq, m, hm, e, h⟩)
  ·exact .inl (.inl h)
  rcases List.mem_cons.1 hq with rfl | hq
  ·exact .inl (.inr ⟨m, List.mem_filter.2 ⟨hm, by simpa using e⟩, h⟩)
  exact .inr ⟨q, hq, m, hm, e, h⟩
theorem adP {x : B2} (hs : IB s) (hM : HT s M) (hl : left < 1000) (hx : FP s.cS x = 0) (S : List (Int × Bool)) :
 ∃ S', V3 (XW 40000000 s M ((left : Int) + 1) x) (fun S => S) (fun S => AC S) S ([] : List (Int × Bool)) = some S' ∧ Lb S' ∧ ∀ k, (k, true) ∈ S' ↔ ∃ p ∈ S, ∃ m ∈ s.cO, m.cQ = p.1 ∧ m.To = k ∧ Po s left m = true ∧ Ip m.On x = true := by
 obtain ⟨S', e, h1, h2⟩ := Ny (N := 40000000) (by omega) hs hM hl hx S [] Ji;refine ⟨AC S', Ef fun m hm => ?_, NL h1, fun k => ?_⟩
 ·obtain ⟨S2, e2, h3, h4⟩ := Ny (N := 40000000) (by omega) hs hM hl hx m [] Ji;rw [e2];simp only [Option.map_some, Qq, Option.some.injEq];refine QJ h3 h1 fun k => ?_;rw [h4, h2];simp only [List.not_mem_nil, false_or];exact ⟨fun ⟨p, hp, h⟩ => ⟨p, hm.mem_iff.1 hp, h⟩, fun ⟨p, hp, h⟩ => ⟨p, hm.mem_iff.2 hp, h⟩⟩
 rw [(BJ S').mem_iff, h2];simp
end
end Go.Ab
namespace Go.Ab
set_option maxRecDepth 100000
theorem WX {N : Nat} {p : B6} (hN : 10 < N) : ∃ b, BM N p = some b ∧ (b = true → p.cP.length ≤ 4 ∧ ∀ x ∈ p.cP, x.length ≤ 12) := by
 unfold BM;rw [T7 (l := p.cP.take 5) (f := fun _ x => if x.length ≤ 12 then 0 else 1) (e := .inl ()) (b := fun _ => .inr ()) (N := N) ?_ ?_ (by simp; omega)]
 ·simp only [Option.bind_some]
  by_cases h : fb (fun _ (x : List A2) => if x.length ≤ 12 then (0 : Int) else 1) 0 (p.cP.take 5) = 0
  ·rw [if_pos h];refine ⟨_, rfl, fun hb => ?_⟩
   simp only [HK, D7, decide_eq_true_eq] at hb
   refine ⟨by omega, fun x hx => ?_⟩;obtain ⟨k, hk⟩ := List.getElem?_of_mem hx;have hkl := (List.getElem?_eq_some_iff.1 hk).1;have := Ay.1 h k x (by rw [List.getElem?_take]; rw [if_pos (by omega)]; exact hk)
   split at this
   ·assumption
   cases this
  rw [if_neg h];exact ⟨_, rfl, fun h => by cases h⟩
 ·intro i x hx hi
  rw [List.getElem?_take] at hx
  have hi5 : i < 5 ∧ i < p.cP.length := by simp at hi; omega
  rw [if_pos hi5.1] at hx
  unfold FQ;simp only [D2, HK, W1, U2, D7, G2, hx, Option.bind_some, Bool.and_eq_true, decide_eq_true_eq, Bool.not_eq_true', decide_eq_false_iff_not];rw [if_pos (by omega), Q2 hi5.1 (by omega)]
  by_cases h : x.length ≤ 12
  ·rw [if_neg (by omega), if_pos (by rw [if_pos h])]
  rw [if_pos (by omega), if_neg (by rw [if_neg h]; decide)]
 simp only [D2, W1, D7, Bool.and_eq_true, decide_eq_true_eq, List.length_take];rw [if_neg (by omega)]
end Go.Ab
namespace Go.Ab
theorem UX {N : Nat} {s : A3} (hN : 30 < N) : ∃ b, Eb N s = some b ∧ (b = true → s.cM.length ≤ 8 ∧ s.cO.length ≤ 16 ∧ ∀ m ∈ s.cO, m.On.cP.length ≤ 4 ∧ ∀ x ∈ m.On.cP, x.length ≤ 12) := by
 unfold Eb;have hc : ∀ m : C9, ∃ b, BM N m.On = some b ∧ (b = true → m.On.cP.length ≤ 4 ∧ ∀ x ∈ m.On.cP, x.length ≤ 12) := fun m => WX (by omega);obtain ⟨F, hF⟩ : ∃ F : C9 → Bool, ∀ m, BM N m.On = some (F m) ∧ (F m = true → m.On.cP.length ≤ 4 ∧ ∀ x ∈ m.On.cP, x.length ≤ 12) := ⟨fun m => (hc m).choose, fun m => (hc m).choose_spec⟩;rw [T7 (l := s.cO.take 20) (f := fun _ m => if F m = true then 0 else 1) (e := .inl ()) (b := fun _ => .inr ()) (N := N) ?_ ?_ (by simp; omega)]
 ·simp only [Option.bind_some]
  by_cases h : fb (fun _ (m : C9) => if F m = true then (0 : Int) else 1) 0 (s.cO.take 20) = 0
  ·rw [if_pos h];refine ⟨_, rfl, fun hb => ?_⟩
   simp only [HK, W1, D7, Bool.and_eq_true, decide_eq_true_eq] at hb
   refine ⟨by omega, by omega, fun m hm => ?_⟩;obtain ⟨k, hk⟩ := List.getElem?_of_mem hm;have hkl := (List.getElem?_eq_some_iff.1 hk).1;have := Ay.1 h k m (by rw [List.getElem?_take]; rw [if_pos (by omega)]; exact hk)
   split at this
   ·rename_i h2; exact (hF m).2 h2
   cases this
  rw [if_neg h];exact ⟨_, rfl, fun h => by cases h⟩
 ·intro i x hx hi
  rw [List.getElem?_take] at hx
  have hi5 : i < 20 ∧ i < s.cO.length := by simp at hi; omega
  rw [if_pos hi5.1] at hx
  simp only [D2, W1, U2, D7, G2, hx, Option.bind_some, (hF x).1, Bool.and_eq_true, decide_eq_true_eq, Bool.not_eq_true'];rw [if_pos (by omega), Q2 hi5.1 (by omega)];cases F x <;> simp
 simp only [D2, W1, D7, Bool.and_eq_true, decide_eq_true_eq, List.length_take];rw [if_neg (by omega)]
end Go.Ab
namespace Go.Ab
def Wf (s : A3) : List B2 → Nat → Nat → Prop
 | [], i, j => i = j
 | x :: w, i, j => ∃ m ∈ s.cO, m.cQ = (i : Int) ∧ Ip m.On x = true ∧ ∃ k : Nat, m.To = (k : Int) ∧ Wf s w k j
theorem Oj {s : A3} {x : B2} {m : C9} (hm : m ∈ s.cO) (hx : Ip m.On x = true) {j k : Nat} (hf : m.cQ = (j : Int)) (ht : m.To = (k : Int)) : ∀ {w : List B2} {i : Nat}, Wf s w i j → Wf s (w ++ [x]) i k
 | [], i, h => ⟨m, hm, by rw [hf]; exact congrArg _ (show j = i from h.symm), hx, k, ht, rfl⟩
 | y :: w, i, ⟨m', hm', f, c, k', t, h⟩ => ⟨m', hm', f, c, k', t, Oj hm hx hf ht h⟩
theorem PT {s : A3} : ∀ {w : List B2} {i j : Nat}, Wf s w i j → s.cM[j]? = some true → Rc s w.length i
 | [], i, j, h, hf => by
  have h : i = j := h;subst h; exact hf
 | x :: w, i, j, ⟨m, hm, f, c, k, t, h⟩, hf => ⟨k, ⟨m, hm, f, t, WU c⟩, PT h hf⟩
theorem XT {s : A3} (hs : IB s) : ∀ (w : List B2) (b b' : List Bool), (∀ x ∈ w, FP s.cS x = 0) → b.length = s.cM.length →
 D0 (R := List Bool) (fun b x => (Q4 40000000 s b x).bind fun q => some (.inl q)) w b = some (.inl b') → ∀ j : Nat, b'[j]? = some true ↔ ∃ i : Nat, b[i]? = some true ∧ Wf s w i j
 | [], b, b', _, _, h, j => by
  simp only [D0, Option.some.injEq, Sum.inl.injEq] at h
  subst h;exact ⟨fun h => ⟨j, h, rfl⟩, fun ⟨i, h, e⟩ => by have e : i = j := e; rw [← e]; exact h⟩
 | x :: w, b, b', hw, hb, h, j => by
  obtain ⟨o, e, h1, h2⟩ := QP (N := 40000000) (by omega) (hw x (by simp)) hs hb
  rw [D0] at h
  simp only [e, Option.bind_some] at h
  rw [XT hs w o b' (fun y hy => hw y (List.mem_cons_of_mem _ hy)) h1 h j]
  constructor
  ·rintro ⟨i, hi, hp⟩;obtain ⟨m, hm, f, t, c⟩ := (h2 i).1 hi;have hm2 := (hs.each m hm).1;exact ⟨m.cQ.toNat, f, m, hm, by omega, c, i, t, hp⟩
  rintro ⟨i, hi, m, hm, f, c, k, t, hp⟩;exact ⟨k, (h2 k).2 ⟨m, hm, by rw [f, show (i : Int).toNat = i by omega]; exact hi, t, c⟩, hp⟩
theorem ML {s : A3} {w : List B2} {r : Bool × Int} (h : Smn s w r) (h0 : r.2 = 0) : r.1 = true ↔ ∃ j, Wf s w 0 j ∧ s.cM[j]? = some true := by
 obtain ⟨h1, h2, b, e, h3⟩ := h h0;have hs := MA h1;have hst := LG (n := s.cM.length) hs.fi.1;have hb := XT hs w _ b h2 hst.len e;rw [h3]
 constructor
 ·rintro ⟨j, hj, hf⟩;obtain ⟨i, hi, hp⟩ := (hb j).1 hj
  have : i = 0 := by
   have := (hst.mem (i : Int)).2 ⟨i, rfl, hi⟩
   simp at this; omega
  subst this;exact ⟨j, hp, hf⟩
 rintro ⟨j, hp, hf⟩;obtain ⟨i, e0, hi⟩ := (hst.mem 0).1 (by simp)
 have : i = 0 := by omega
 subst this;exact ⟨j, (hb j).2 ⟨0, hi, hp⟩, hf⟩
theorem RR {t : Int} {p : B6} (hp : HU t p = 0) (hv : vd p = false) : FP t (Df p) = 0 ∧ Ip p (Df p) = true := by
 obtain ⟨ht, h0⟩ := Fs0 hp;obtain ⟨_, hsrt⟩ := CS h0;rw [HA];unfold Df
 cases hf : Nj p with
 | none => rw [show vd p = (Nj p).isNone from rfl, hf] at hv; cases hv
 | some q =>
  obtain ⟨k, l⟩ := q;obtain ⟨h1, h2, h3, _⟩ := Kw (show Qn QQ 0 p.cP = some (k, l) from hf);have hkl := (List.getElem?_eq_some_iff.1 h2).1
  cases l with
  | nil => simp [QQ] at h3
  | cons x l =>
   have hs := (hsrt _ (List.mem_of_getElem? h2)).2.1 x (by simp)
   constructor
   ·unfold FP
    simp only
    rw [if_neg (by omega), if_neg (by omega)]
   exact ⟨by simp only; omega, x :: l, by simpa using h2, x, by simp, by simp only; omega, by simp only; omega⟩
noncomputable def prS (N : Nat) (s : A3) (l2 : List (Int × Int)) (s12 : (List B2) × (List (Int × Bool)) × Int) : Option (((List B2) × (List (Int × Bool)) × Int) ⊕ (((List B2) × (List (Int × Bool)) × Int))) :=
 if Ar.k .gtr s12.2.2 0 = true then
  (V3 (XM N s l2 s12.2.2) (fun (s23 : Bool × B2) => ((s23.1, s23.2) : (Bool × B2))) (fun (y : (Bool × B2)) => y) s12.2.1 (false, (⟨0, 0⟩ : B2))).bind fun s27 =>
  (V3 (XW N s l2 s12.2.2 s27.2) (fun (s48 : (List (Int × Bool))) => (s48 : ((List (Int × Bool))))) (fun (y : ((List (Int × Bool)))) => (AC y : ((List (Int × Bool))))) s12.2.1 ([] : List (Int × Bool))).bind fun s53 =>
  ((
   (L5 s12.1 ([s27.2])).bind fun l196 =>
   some l196
  ) : Option (((List B2)))).bind fun s74 =>
  some (.inl (s74, s53, Ar.ar .sub .i64 s12.2.2 1))
 else
  some (.inr (s12.1, s12.2.1, s12.2.2))
theorem VU (N : Nat) (s : A3) : V0 N s = (K3 N s).bind fun r1 =>
 if Ar.k .neq r1 0 = true then
  some (false, [], r1)
 else
  (I9 N s).bind fun l2 =>
  (Z5 l2 0 (0 : Int)).bind fun r5 =>
  if Ar.nt r5.2 = true then
   some (true, [], 0)
  else
   (Y6 ([] : List (Int × Bool)) 0 true).bind fun l10 =>
   (loopN (prS N s l2) N ([], l10, r5.1)).bind fun s17 =>
   some (false, s17.1, 0) := rfl
theorem Rm {s : A3} {M : List (Int × Int)} (hs : IB s) (hM : HT s M) : ∀ (left N : Nat) (w : List B2) (S : List (Int × Bool)), Lb S → (∀ k, (k, true) ∈ S → ∃ i : Nat, k = (i : Int) ∧ Mr s i left ∧ Wf s w 0 i) → (∃ k, (k, true) ∈ S) →
 (∀ x ∈ w, FP s.cS x = 0) → w.length + left ≤ 900 → left < N →
 ∃ S' w', loopN (prS 40000000 s M) N (w, S, (left : Int)) = some (w', S', 0) ∧ w'.length = w.length + left ∧ (∀ x ∈ w', FP s.cS x = 0) ∧ ∃ j, Wf s w' 0 j ∧ s.cM[j]? = some true
 | 0, N, w, S, ht, hp, ⟨k, hk⟩, hw, hl, hN => by
  obtain ⟨N, rfl⟩ : ∃ K, N = K + 1 := ⟨N - 1, by omega⟩;obtain ⟨i, _, hD, hi⟩ := hp k hk;exact ⟨S, w, rfl, rfl, hw, i, hi, hD.1⟩
 | left + 1, N, w, S, ht, hp, ⟨k, hk⟩, hw, hl, hN => by
  obtain ⟨N, rfl⟩ : ∃ K, N = K + 1 := ⟨N - 1, by omega⟩;obtain ⟨st, e1, h1⟩ := leP hs hM (show left < 1000 by omega) S;obtain ⟨i, rfl, hD, hi⟩ := hp k hk;obtain ⟨j, ⟨m, hm, f, t, v⟩, hj⟩ := Eh hD;have hC : Cn s left S (Df m.On) := ⟨_, hk, m, hm, f, ⟨v, Ho.2 ⟨j, t, hj⟩⟩, rfl⟩
  obtain ⟨q, hq, m', hm', f', ⟨v', n'⟩, ex⟩ : Cn s left S st.2 := by
   rcases h1 with ⟨_, h1⟩ | ⟨_, h1, _⟩
   ·exact absurd hC (h1 _)
   exact h1
  have hl1 := RR (hs.each m' hm').2 v'
  have hx : FP s.cS st.2 = 0 := by rw [ex]; exact hl1.1
  obtain ⟨S', e3, h3, h4⟩ := adP hs hM (show left < 1000 by omega) hx S
  have hap : L5 w [st.2] = some (w ++ [st.2]) := by unfold L5; rw [if_pos (by simp; omega)]
  obtain ⟨S2, w2, e5, h7, h8, h9⟩ := Rm hs hM left N (w ++ [st.2]) S' h3 (fun k hk => by
   obtain ⟨p, hp', m2, hm2, f2, t2, n2, c2⟩ := (h4 k).1 hk;have hpt := ht.2 p hp';obtain ⟨q2, b2⟩ := p
   simp only at hpt f2
   subst hpt;obtain ⟨i2, e2, _, hi2⟩ := hp q2 hp';obtain ⟨u, hu, hDu⟩ := Ho.1 n2
   exact ⟨u, by omega, hDu, Oj hm2 c2 (by omega) hu hi2⟩)
   ⟨m'.To, (h4 _).2 ⟨q, hq, m', hm', f', rfl, n', by rw [ex]; exact hl1.2⟩⟩
   (fun x hx' => by
    rcases List.mem_append.1 hx' with hx' | hx'
    ·exact hw x hx'
    simp only [List.mem_singleton] at hx'; rw [hx']; exact hx)
   (by simp; omega) (by omega)
  have hsub := NO left (by omega)
  have hg : Ar.k .gtr ((left : Int) + 1) 0 = true := by simp only [Q3, decide_eq_true_eq]; omega
  refine ⟨S2, w2, ?_, by simp at h7; omega, h8, h9⟩
  have e : prS 40000000 s M (w, S, (left : Int) + 1) = some (.inl (w ++ [st.2], S', (left : Int))) := by
   unfold prS;simp only [hg, if_true, e1, e3, Option.bind_some, hap, hsub]
  rw [show ((left + 1 : Nat) : Int) = (left : Int) + 1 by omega, loopN, e];exact e5
theorem Sx {s : A3} (h0 : SI s = 0) : ∃ r, V0 40000000 s = some r ∧ r.2.2 = 0 ∧
 ((r.1 = true ∧ r.2.1 = [] ∧ ∀ k, ¬Rc s k 0) ∨ (r.1 = false ∧ Mr s 0 r.2.1.length ∧ r.2.1.length ≤ 900 ∧ (∀ x ∈ r.2.1, FP s.cS x = 0) ∧ ∃ j, Wf s r.2.1 0 j ∧ s.cM[j]? = some true)) := by
 rw [VU, Ig (by omega)];simp only [Option.bind_some, h0, show Ar.k .neq (0 : Int) 0 = false from rfl, Bool.false_eq_true, if_false];have hs := MA h0;have hf := hs.fi;obtain ⟨M, e1, h1, h2⟩ := Rn hs;have hM : HT s M := ⟨h1, h2⟩;simp only [e1, Option.bind_some]
 by_cases hc : ∃ k, Rc s k 0
 ·obtain ⟨k0, hk0⟩ := hc;obtain ⟨k, _, hD⟩ := Qg hk0;have hk := Uc hs hD;rw [Ej h1 ((h2 0 (k : Int)).2 ⟨0, k, rfl, rfl, hD⟩)];simp only [Option.bind_some, U2, Bool.not_true, Bool.false_eq_true, if_false];have hset : Y6 ([] : List (Int × Bool)) 0 true = some [(0, true)] := rfl;rw [hset]
  obtain ⟨S', w', e3, h3, h4, h5⟩ := Rm hs hM k 40000000 [] [(0, true)] ⟨by simp, fun p hp => by simp only [List.mem_singleton] at hp; rw [hp]⟩
   (fun q hq => by
    simp only [List.mem_singleton, Prod.mk.injEq, and_true] at hq
    exact ⟨0, by omega, hD, rfl⟩) ⟨0, by simp⟩ (fun x hx => by cases hx) (by simp; omega) (by omega)
  simp only [Option.bind_some, e3]
  have hlen : w'.length = k := by simpa using h3
  exact ⟨_, rfl, rfl, .inr ⟨rfl, by rw [hlen]; exact hD, by simp only; omega, h4, h5⟩⟩
 rw [Gd (fun v hv => by
  obtain ⟨i, k, e, _, hD⟩ := (h2 0 v).1 hv
  have : i = 0 := by omega
  subst this
  exact hc ⟨k, hD.1⟩)]
 simp only [Option.bind_some, U2, Bool.not_false, if_true];exact ⟨_, rfl, rfl, .inl ⟨rfl, rfl, fun k hk => hc ⟨k, hk⟩⟩⟩
end Go.Ab
namespace Go.Ab
def Rp (s : A3) : Nat → Nat → Prop
 | 0, i => i = 0
 | l + 1, i => ∃ j, Rp s l j ∧ Ed s j i
theorem Wt {s : A3} : ∀ {l i k : Nat}, Rp s l i → Rc s k i → Rc s (k + l) 0
 | 0, i, k, h, hr => by
  have h : i = 0 := h;subst h; exact hr
 | l + 1, i, k, ⟨j, hj, he⟩, hr => by
  have := Wt hj (show Rc s (k + 1) j from ⟨i, he, hr⟩);rw [show k + (l + 1) = k + 1 + l by omega]; exact this
structure LA (s : A3) (T : List Int) (S : List (Int × Bool)) : Prop where
 tru : Lb S
 ok : ∀ k, (k, true) ∈ S → ∃ i l : Nat, k = (i : Int) ∧ i < s.cM.length ∧ Rp s l i
 sub : ∀ k ∈ T, (k, true) ∈ S
 le : T.length ≤ S.length
theorem LA.len {s : A3} {T : List Int} {S : List (Int × Bool)} (h : LA s T S) : S.length ≤ s.cM.length := by
 have hmem : ∀ p ∈ S, ∃ i l : Nat, p.1 = (i : Int) ∧ i < s.cM.length ∧ Rp s l i ∧ p.2 = true := fun p hp => by
  have := h.tru.2 p hp;obtain ⟨k, b⟩ := p
  simp only at this
  subst this;obtain ⟨i, l, h1, h2, h3⟩ := h.ok k hp;exact ⟨i, l, h1, h2, h3, rfl⟩
 have hn : (S.map fun p => p.1.toNat).Nodup := by
  have hn := h.tru.1
  rw [List.nodup_iff_pairwise_ne] at hn ⊢
  rw [List.pairwise_map];refine List.Pairwise.imp_of_mem ?_ hn;intro p q hp hq hne e;obtain ⟨i, _, e1, _, _, b1⟩ := hmem p hp;obtain ⟨j, _, e2, _, _, b2⟩ := hmem q hq;exact hne (Prod.ext (by omega) (by rw [b1, b2]))
 have := Hp hn (n := s.cM.length) (fun x hx => by
  obtain ⟨p, hp, rfl⟩ := List.mem_map.1 hx;obtain ⟨i, _, e1, h1, _⟩ := hmem p hp
  omega)
 simpa using this
noncomputable def Ws (N : Nat) (s17 : (List Int) × (List (Int × Bool))) (y16 : C9) : Option (((List Int) × (List (Int × Bool))) ⊕ (Unit)) :=
 (Z5 s17.2 y16.To (false : Bool)).bind fun r23 =>
 if Ar.nt r23.1 = true then
  (L6 N y16.On).bind fun r24 =>
  if Ar.nt r24 = true then
   (Y6 s17.2 y16.To true).bind fun l26 =>
   (L5 s17.1 ([y16.To])).bind fun l28 =>
   some (.inl (l28, l26))
  else
   some (.inl (s17.1, s17.2))
 else
  some (.inl (s17.1, s17.2))
noncomputable def reS (N : Nat) (s : A3) (s7 : (List Int) × (List (Int × Bool))) : Option (((List Int) × (List (Int × Bool))) ⊕ (((List Int) × (List (Int × Bool))))) :=
 if Ar.k .gtr (Ar.len s7.1) 0 = true then
  (C6 s7.1 0).bind fun x13 =>
  (J2 N s x13).bind fun r14 =>
  (D0 (Ws N) r14 (s7.1, s7.2)).bind fun o22 =>
  match o22 with
  | .inl s33 =>
   (V2 s33.1 (some 1) none none).bind fun l37 =>
   some (.inl (l37, s33.2))
  | .inr _ => none
 else
  some (.inr (s7.1, s7.2))
theorem RW (N : Nat) (s : A3) : N6 N s = (Y6 ([] : List (Int × Bool)) 0 true).bind fun l4 => (loopN (reS N s) N ([0], l4)).bind fun s12 => some s12.2 := rfl
theorem MM {s : A3} (hs : IB s) {i l : Nat} (hl : Rp s l i) : ∀ (ms : List C9) (T : List Int) (S : List (Int × Bool)), (∀ m ∈ ms, m ∈ s.cO ∧ m.cQ = (i : Int)) → LA s T S →
 ∃ T' S', D0 (Ws 40000000) ms (T, S) = some (.inl (T ++ T', S')) ∧ LA s (T ++ T') S' ∧ T'.length + S.length = S'.length
 | [], T, S, _, h => ⟨[], S, by rw [List.append_nil]; rfl, by rw [List.append_nil]; exact h, by simp⟩
 | m :: ms, T, S, hm, h => by
  have hm' := fun y hy => hm y (List.mem_cons_of_mem m hy);obtain ⟨hmm, hmf⟩ := hm m (by simp);obtain ⟨⟨_, t0, t1⟩, hp⟩ := hs.each m hmm;have hv := JH (N := 40000000) (by omega) hp;have hfi := hs.fi;have hlen := h.len;have hle := h.le
  by_cases hin : (m.To, true) ∈ S
  ·have e : Ws 40000000 (T, S) m = some (.inl (T, S)) := by simp [Ws, Qm h.tru hin, U2]
   obtain ⟨T', S', e2, h2, h3⟩ := MM hs hl ms T S hm' h;exact ⟨T', S', by rw [D0, e]; exact e2, h2, h3⟩
  obtain ⟨g1, g2, g3⟩ := Js h.tru hin
  cases hvd : vd m.On with
  | true =>
   have e : Ws 40000000 (T, S) m = some (.inl (T, S)) := by simp [Ws, g1, U2, hv, hvd]
   obtain ⟨T', S', e2, h2, h3⟩ := MM hs hl ms T S hm' h;exact ⟨T', S', by rw [D0, e]; exact e2, h2, h3⟩
  | false =>
   have ha : L5 T [m.To] = some (T ++ [m.To]) := by unfold L5; rw [if_pos (by simp; omega)]
   have e : Ws 40000000 (T, S) m = some (.inl (T ++ [m.To], S ++ [(m.To, true)])) := by simp [Ws, g1, g2, U2, hv, hvd, ha]
   obtain ⟨T', S', e2, h2, h3⟩ := MM hs hl ms (T ++ [m.To]) (S ++ [(m.To, true)]) hm' ⟨g3, fun k hk => by
    rcases List.mem_append.1 hk with hk | hk
    ·exact h.ok k hk
    simp only [List.mem_singleton, Prod.mk.injEq, and_true] at hk
    subst hk
    exact ⟨m.To.toNat, l + 1, by omega, by omega, i, hl, m, hmm, hmf, by omega, hvd⟩,
    fun k hk => by
     rcases List.mem_append.1 hk with hk | hk
     ·exact List.mem_append_left _ (h.sub k hk)
     simp only [List.mem_singleton] at hk
     exact List.mem_append_right _ (by rw [hk]; simp),
    by simp; omega⟩
   refine ⟨m.To :: T', S', ?_, ?_, ?_⟩
   ·rw [D0, e, show T ++ m.To :: T' = T ++ [m.To] ++ T' by simp]; exact e2
   ·rw [show T ++ m.To :: T' = T ++ [m.To] ++ T' by simp]; exact h2
   simp only [List.length_cons, List.length_append, List.length_nil] at h3 ⊢; omega
theorem WJ {s : A3} (hs : IB s) : ∀ (μ N : Nat) (T : List Int) (S : List (Int × Bool)), T.length + (s.cM.length - S.length) ≤ μ → μ < N → LA s T S →
 ∃ S', loopN (reS 40000000 s) N (T, S) = some ([], S') ∧ LA s [] S' := by
 intro μ
 induction μ with
 | zero =>
  intro N T S hm hN h;obtain ⟨N, rfl⟩ : ∃ K, N = K + 1 := ⟨N - 1, by omega⟩;have e1 : T = [] := List.eq_nil_of_length_eq_zero (by omega);subst e1;exact ⟨S, rfl, h⟩
 | succ μ ih =>
  intro N T S hm hN h;obtain ⟨N, rfl⟩ : ∃ K, N = K + 1 := ⟨N - 1, by omega⟩
  cases T with
  | nil => exact ⟨S, rfl, h⟩
  | cons x T =>
   obtain ⟨i, l, rfl, hi, hl⟩ := h.ok x (h.sub x (by simp))
   obtain ⟨T', S', e, h1, h2⟩ := MM hs hl (s.cO.filter fun m => decide (m.cQ = (i : Int))) ((i : Int) :: T) S (fun m hm => by
    obtain ⟨a, b⟩ := List.mem_filter.1 hm
    exact ⟨a, by simpa using b⟩) h
   have hlen := h1.len;have hfi := hs.fi;have hle := h1.le
   have hsl : V2 ((i : Int) :: T ++ T') (some 1) none none = some (T ++ T') := by
    unfold V2;rw [if_pos (by simp; omega)];simp only [Option.getD_some, Option.getD_none];rw [show (((i : Int) :: T ++ T').drop (1 : Int).toNat) = T ++ T' from rfl];rw [List.take_of_length_le (by simp; omega)]
   have est : reS 40000000 s ((i : Int) :: T, S) = some (.inl (T ++ T', S')) := by
    unfold reS;rw [if_pos (by simp only [Q3, D7, List.length_cons, decide_eq_true_eq]; omega)];rw [show C6 ((i : Int) :: T) 0 = some (i : Int) by simp [C6]];simp only [Option.bind_some, Ju (show 3000 < 40000000 by omega) hs.mv, e, hsl]
   rw [loopN, est]
   simp only [List.length_cons, List.length_append] at hm hle
   exact ih N (T ++ T') S' (by simp only [List.length_append]; omega) (by omega) ⟨h1.tru, h1.ok, fun k hk => h1.sub k (List.mem_cons_of_mem _ hk), by simp only [List.length_append]; omega⟩
theorem Tt {s : A3} (hs : IB s) : ∃ S, N6 40000000 s = some S ∧ LA s [] S := by
 have hfi := hs.fi
 obtain ⟨S, e, h⟩ := WJ hs 600 40000000 [0] [(0, true)] (by simp; omega) (by omega) ⟨⟨by simp, fun p hp => by simp only [List.mem_singleton] at hp; rw [hp]⟩, fun k hk => by
  simp only [List.mem_singleton, Prod.mk.injEq, and_true] at hk
  exact ⟨0, 0, by omega, by omega, rfl⟩, fun k hk => by simp only [List.mem_singleton] at hk; rw [hk]; simp, by simp⟩
 refine ⟨S, ?_, h⟩;rw [RW, show Y6 ([] : List (Int × Bool)) 0 true = some [(0, true)] from rfl];simp only [Option.bind_some, e]
theorem JD {s : A3} {N : Nat} {M : List (Int × Int)} {S : List (Int × Bool)} (hM : HT s M) (hS : LA s [] S) (k : Int) :
 ∃ b, J3 N k M S = some b ∧ (b = true → ∃ l, Rc s l 0) := by
 unfold J3
 by_cases h : ∃ v, (k, v) ∈ M
 ·obtain ⟨v, hv⟩ := h;rw [Ej hM.mp hv];simp only [Option.bind_some, if_true]
  by_cases hin : (k, true) ∈ S
  ·rw [Qm hS.tru hin];simp only [Option.bind_some];refine ⟨_, rfl, fun _ => ?_⟩;obtain ⟨i, l, e1, _, h1⟩ := hS.ok k hin;obtain ⟨j, d, e2, _, h2⟩ := (hM.mem k v).1 hv
   have : j = i := by omega
   subst this;exact ⟨_, Wt h1 h2.1⟩
  rw [(Js hS.tru hin).1];exact ⟨_, rfl, fun h => by cases h⟩
 rw [Gd (fun v hv => h ⟨v, hv⟩)];exact ⟨_, rfl, fun h => by cases h⟩
theorem SA {N : Nat} {t : Int} {p : B6} (hN : 300 < N) (hp : HU t p = 0) : ∃ q, M8 N p = some q := by
 obtain ⟨_, h0⟩ := Fs0 hp;obtain ⟨hlen, hsrt⟩ := CS h0;unfold M8;simp only [D7, Sh];rw [if_pos (by omega)];simp only [Option.bind_some]
 have key : ∀ (d i N0 : Nat) (l : List (List A2)), i + d = p.cP.length → d < N0 → l.length = p.cP.length → ∃ l', loopN (fun (s4 : Int × (List (List A2))) =>
  (
   if Ar.k .lss s4.1 (p.cP.length : Int) = true then
    (C6 p.cP s4.1).bind fun x7 =>
    (F9 N x7).bind fun l8 =>
    (Ea (Gb s4.2 s4.1)).bind fun _ =>
    (CW s4.2 s4.1 (fun x10 : List A2 => l8)).bind fun l11 =>
    some (.inl (Ar.ar .add .i64 s4.1 1, l11))
   else
    some (.inr s4.2)
   : Option ((Int × (List (List A2))) ⊕ (((List (List A2))))))) N0 ((i : Int), l) = some l' := by
  intro d
  induction d with
  | zero =>
   intro i N0 l hi hN0 hl;obtain ⟨N0, rfl⟩ : ∃ K, N0 = K + 1 := ⟨N0 - 1, by omega⟩;refine ⟨l, ?_⟩;rw [loopN]
   simp only
   rw [if_neg (by simp [D2]; omega)]
  | succ d ih =>
   intro i N0 l hi hN0 hl;obtain ⟨N0, rfl⟩ : ∃ K, N0 = K + 1 := ⟨N0 - 1, by omega⟩
   have hlt : i < p.cP.length := by omega
   have hx := List.getElem?_eq_getElem hlt;have hsx := (hsrt _ (List.getElem_mem hlt)).1
   have hc : F9 N p.cP[i] = some p.cP[i] := by
    unfold F9 L5;rw [if_pos (by simp; omega)];simp
   have hu : CW l (i : Int) (fun _ : List A2 => p.cP[i]) = some (l.set i p.cP[i]) := by
    unfold CW;rw [G2, List.getElem?_eq_getElem (by omega)];rfl
   obtain ⟨l', e⟩ := ih (i + 1) N0 (l.set i p.cP[i]) (by omega) (by omega) (by simpa using hl);refine ⟨l', ?_⟩;rw [loopN]
   simp only
   rw [if_pos (by simp [D2]; omega)];simp only [G2, hx, Option.bind_some, hc, show Gb l (i : Int) = true by unfold Gb; simp; omega, Ea, if_true, hu, Q2 hlt (by omega)];exact e
 obtain ⟨l', e⟩ := key p.cP.length 0 N (List.replicate (p.cP.length : Int).toNat []) (by omega) (by omega) (by simp)
 rw [show ((0 : Nat) : Int) = 0 from rfl] at e
 rw [e];exact ⟨_, rfl⟩
end Go.Ab
namespace Go.Ab
noncomputable def UK (N : Nat) (s : A3) (s3 : (List (Int × Int)) × (List (Int × Bool))) (s373 : Int × A3 × (List (Int × Int))) : Option ((Int × A3 × (List (Int × Int))) ⊕ ((A3 × (List (Int × Int))))) :=
 if Ar.k .lss s373.1 (Ar.len s.cM) = true then
  (C6 s.cM s373.1).bind fun x377 =>
  if Ar.k .eql s373.1 0 = true then
   (Y6 s373.2.2 s373.1 (Ar.len s373.2.1.cM)).bind fun l379 =>
   (L5 s373.2.1.cM ([x377])).bind fun l381 =>
   some (.inl (Ar.ar .add .i64 s373.1 1, { s373.2.1 with cM := l381, cO := [] }, l379))
  else
   (J3 N s373.1 s3.1 s3.2).bind fun r382 =>
   if r382 = true then
    (Y6 s373.2.2 s373.1 (Ar.len s373.2.1.cM)).bind fun l384 =>
    (L5 s373.2.1.cM ([x377])).bind fun l386 =>
    some (.inl (Ar.ar .add .i64 s373.1 1, { s373.2.1 with cM := l386, cO := [] }, l384))
   else
    some (.inl (Ar.ar .add .i64 s373.1 1, { s373.2.1 with cO := [] }, s373.2.2))
 else
  some (.inr ({ s373.2.1 with cO := [] }, s373.2.2))
noncomputable def Tb (N : Nat) (s : A3) (s3 : (List (Int × Int)) × (List (Int × Bool))) (s376 : A3 × (List (Int × Int))) (s389 : Int × A3) : Option ((Int × A3) ⊕ (A3)) :=
 if Ar.k .lss s389.1 (Ar.len s.cO) = true then
  (C6 s.cO s389.1).bind fun x392 =>
  (J3 N x392.cQ s3.1 s3.2).bind fun r393 =>
  if r393 = true then
   (J3 N x392.To s3.1 s3.2).bind fun r394 =>
   if r394 = true then
    (L6 N x392.On).bind fun r395 =>
    if Ar.nt r395 = true then
     (Z5 s376.2 x392.cQ (0 : Int)).bind fun r396 =>
     (Z5 s376.2 x392.To (0 : Int)).bind fun r397 =>
     (M8 N x392.On).bind fun r398 =>
     (L5 s389.2.cO ([(⟨r396.1, r397.1, r398⟩ : C9)])).bind fun l400 =>
     some (.inl (Ar.ar .add .i64 s389.1 1, { s389.2 with cM := s376.1.cM, cO := l400 }))
    else
     some (.inl (Ar.ar .add .i64 s389.1 1, { s389.2 with cM := s376.1.cM }))
   else
    some (.inl (Ar.ar .add .i64 s389.1 1, { s389.2 with cM := s376.1.cM }))
  else
   some (.inl (Ar.ar .add .i64 s389.1 1, { s389.2 with cM := s376.1.cM }))
 else
  some (.inr ({ s389.2 with cM := s376.1.cM }))
theorem Ta (N : Nat) (s : A3) : AJ N s = (K3 N s).bind fun r2 =>
 if Ar.k .neq r2 0 = true then
  some ((⟨0, [], []⟩ : A3), r2)
 else
  ((
   (N6 N s).bind fun l44 =>
   (I9 N s).bind fun l124 =>
   some (l124, l44)
  ) : Option (((List (Int × Int)) × (List (Int × Bool))))).bind fun s3 =>
  (loopN (UK N s s3) N (0, (⟨s.cS, [], []⟩ : A3), ([] : List (Int × Int)))).bind fun s376 =>
  (loopN (Tb N s s3 s376) N (0, { s376.1 with cO := [] })).bind fun s391 =>
  some ({ s391 with cM := s376.1.cM }, 0) := rfl
section
variable {s : A3} {M : List (Int × Int)} {S : List (Int × Bool)}
theorem Jj (hs : IB s) (hM : HT s M) (hS : LA s [] S) : ∀ (d i N : Nat) (o : A3) (T : List (Int × Int)), i + d = s.cM.length → d < N → o.cM.length ≤ i → ((∀ k, ¬Rc s k 0) → o.cM.length = if i = 0 then 0 else 1) →
 ∃ o' T', loopN (UK 40000000 s (M, S)) N ((i : Int), o, T) = some (o', T') ∧ o'.cM.length ≤ s.cM.length ∧ ((∀ k, ¬Rc s k 0) → o'.cM.length = 1)
 | 0, i, N, o, T, hi, hN, hl, hn => by
  obtain ⟨N, rfl⟩ : ∃ K, N = K + 1 := ⟨N - 1, by omega⟩;have hf := hs.fi;refine ⟨{ o with cO := [] }, T, ?_, by simp only; omega, fun h => ?_⟩
  ·rw [loopN, show UK 40000000 s (M, S) ((i : Int), o, T) = some (.inr ({ o with cO := [] }, T)) by
    unfold UK
    rw [if_neg (by simp only [D2, D7, decide_eq_true_eq]; omega)]]
  have := hn h
  rw [if_neg (by omega)] at this
  exact this
 | d + 1, i, N, o, T, hi, hN, hl, hn => by
  obtain ⟨N, rfl⟩ : ∃ K, N = K + 1 := ⟨N - 1, by omega⟩;have hf := hs.fi
  have hlt : i < s.cM.length := by omega
  have hx := List.getElem?_eq_getElem hlt;have hinc : Ar.ar .add .i64 (i : Int) 1 = ((i + 1 : Nat) : Int) := Q2 hlt (by omega)
  have hcond : Ar.k .lss (i : Int) (Ar.len s.cM) = true := by simp only [D2, D7, decide_eq_true_eq]; omega
  have hap : L5 o.cM [s.cM[i]] = some (o.cM ++ [s.cM[i]]) := by unfold L5; rw [if_pos (by simp only [List.length_singleton]; omega)]
  obtain ⟨T1, hT1⟩ : ∃ T1, Y6 T (i : Int) (Ar.len o.cM) = some T1 := ⟨_, rfl⟩
  by_cases h0 : i = 0
  ·have e : UK 40000000 s (M, S) ((i : Int), o, T) = some (.inl (((i + 1 : Nat) : Int), { o with cM := o.cM ++ [s.cM[i]], cO := [] }, T1)) := by
    unfold UK;rw [if_pos hcond];simp only [G2, hx, Option.bind_some, hT1, hap, hinc];rw [if_pos (by simp only [AB, decide_eq_true_eq]; omega)]
   obtain ⟨o', T', e2, h2, h3⟩ := Jj hs hM hS d (i + 1) N { o with cM := o.cM ++ [s.cM[i]], cO := [] } T1 (by omega) (by omega) (by simp only [List.length_append, List.length_singleton]; omega) (fun h => by
    have := hn h
    rw [if_pos h0] at this
    rw [if_neg (by omega)]
    simp only [List.length_append, List.length_singleton]; omega)
   exact ⟨o', T', by rw [loopN, e]; exact e2, h2, h3⟩
  obtain ⟨b, hb, hbt⟩ := JD (N := 40000000) hM hS (i : Int)
  cases b with
  | true =>
   have e : UK 40000000 s (M, S) ((i : Int), o, T) = some (.inl (((i + 1 : Nat) : Int), { o with cM := o.cM ++ [s.cM[i]], cO := [] }, T1)) := by
    unfold UK;rw [if_pos hcond];simp only [G2, hx, Option.bind_some, hT1, hap, hinc, hb, if_true];rw [if_neg (by simp only [AB, decide_eq_true_eq]; omega)]
   obtain ⟨l, hl0⟩ := hbt rfl;obtain ⟨o', T', e2, h2, h3⟩ := Jj hs hM hS d (i + 1) N { o with cM := o.cM ++ [s.cM[i]], cO := [] } T1 (by omega) (by omega) (by simp only [List.length_append, List.length_singleton]; omega) (fun h => absurd hl0 (h l));exact ⟨o', T', by rw [loopN, e]; exact e2, h2, h3⟩
  | false =>
   have e : UK 40000000 s (M, S) ((i : Int), o, T) = some (.inl (((i + 1 : Nat) : Int), { o with cO := [] }, T)) := by
    unfold UK;rw [if_pos hcond];simp only [G2, hx, Option.bind_some, hinc, hb, Bool.false_eq_true, if_false];rw [if_neg (by simp only [AB, decide_eq_true_eq]; omega)]
   obtain ⟨o', T', e2, h2, h3⟩ := Jj hs hM hS d (i + 1) N { o with cO := [] } T (by omega) (by omega) (by simp only; omega) (fun h => by
    have := hn h
    rw [if_neg h0] at this
    rw [if_neg (by omega)]
    exact this)
   exact ⟨o', T', by rw [loopN, e]; exact e2, h2, h3⟩
theorem My (hs : IB s) (hM : HT s M) (hS : LA s [] S) (q : A3 × (List (Int × Int))) : ∀ (d i N : Nat) (o : A3), i + d = s.cO.length → d < N → o.cO.length ≤ i → ((∀ k, ¬Rc s k 0) → o.cO = []) →
 ∃ o', loopN (Tb 40000000 s (M, S) q) N ((i : Int), o) = some o' ∧ ((∀ k, ¬Rc s k 0) → o'.cO = [])
 | 0, i, N, o, hi, hN, hl, hn => by
  obtain ⟨N, rfl⟩ : ∃ K, N = K + 1 := ⟨N - 1, by omega⟩;refine ⟨{ o with cM := q.1.cM }, ?_, hn⟩
  rw [loopN, show Tb 40000000 s (M, S) q ((i : Int), o) = some (.inr { o with cM := q.1.cM }) by
   unfold Tb
   rw [if_neg (by simp only [D2, D7, decide_eq_true_eq]; omega)]]
 | d + 1, i, N, o, hi, hN, hl, hn => by
  obtain ⟨N, rfl⟩ : ∃ K, N = K + 1 := ⟨N - 1, by omega⟩;have hmv := hs.mv
  have hlt : i < s.cO.length := by omega
  have hx := List.getElem?_eq_getElem hlt;have hinc : Ar.ar .add .i64 (i : Int) 1 = ((i + 1 : Nat) : Int) := Q2 hlt (by omega)
  have hcond : Ar.k .lss (i : Int) (Ar.len s.cO) = true := by simp only [D2, D7, decide_eq_true_eq]; omega
  obtain ⟨y, hy⟩ : ∃ y, s.cO[i] = y := ⟨_, rfl⟩
  rw [hy] at hx
  have hp := (hs.each y (by rw [← hy]; exact List.getElem_mem hlt)).2;obtain ⟨b1, hb1, hbt⟩ := JD (N := 40000000) hM hS y.cQ;obtain ⟨b2, hb2, _⟩ := JD (N := 40000000) hM hS y.To;have hv := JH (N := 40000000) (by omega) hp;obtain ⟨c, hc⟩ := SA (N := 40000000) (by omega) hp;obtain ⟨r1, hr1⟩ : ∃ r, Z5 q.2 y.cQ (0 : Int) = some r := ⟨_, rfl⟩;obtain ⟨r2, hr2⟩ : ∃ r, Z5 q.2 y.To (0 : Int) = some r := ⟨_, rfl⟩
  have hap : L5 o.cO [(⟨r1.1, r2.1, c⟩ : C9)] = some (o.cO ++ [⟨r1.1, r2.1, c⟩]) := by unfold L5; rw [if_pos (by simp only [List.length_singleton]; omega)]
  have skip : Tb 40000000 s (M, S) q ((i : Int), o) = some (.inl (((i + 1 : Nat) : Int), { o with cM := q.1.cM })) →
   ∃ o', loopN (Tb 40000000 s (M, S) q) (N + 1) ((i : Int), o) = some o' ∧ ((∀ k, ¬Rc s k 0) → o'.cO = []) := by
   intro e;obtain ⟨o', e2, h2⟩ := My hs hM hS q d (i + 1) N { o with cM := q.1.cM } (by omega) (by omega) (by simp only; omega) hn;exact ⟨o', by rw [loopN, e]; exact e2, h2⟩
  cases b1 with
  | false =>
   refine skip ?_;unfold Tb;rw [if_pos hcond];simp only [G2, hx, Option.bind_some, hb1, Bool.false_eq_true, if_false, hinc]
  | true =>
   cases b2 with
   | false =>
    refine skip ?_;unfold Tb;rw [if_pos hcond];simp only [G2, hx, Option.bind_some, hb1, hb2, if_true, Bool.false_eq_true, if_false, hinc]
   | true =>
    cases hvd : vd y.On with
    | true =>
     refine skip ?_;unfold Tb;rw [if_pos hcond];simp only [G2, hx, Option.bind_some, hb1, hb2, if_true, hv, hvd, U2, Bool.not_true, Bool.false_eq_true, if_false, hinc]
    | false =>
     have e : Tb 40000000 s (M, S) q ((i : Int), o) = some (.inl (((i + 1 : Nat) : Int), { o with cM := q.1.cM, cO := o.cO ++ [⟨r1.1, r2.1, c⟩] })) := by
      unfold Tb;rw [if_pos hcond];simp only [G2, hx, Option.bind_some, hb1, hb2, if_true, hv, hvd, U2, Bool.not_false, hr1, hr2, hc, hap, hinc]
     obtain ⟨l, hl0⟩ := hbt rfl;obtain ⟨o', e2, h2⟩ := My hs hM hS q d (i + 1) N { o with cM := q.1.cM, cO := o.cO ++ [⟨r1.1, r2.1, c⟩] } (by omega) (by omega) (by simp only [List.length_append, List.length_singleton]; omega) (fun h => absurd hl0 (h l));exact ⟨o', by rw [loopN, e]; exact e2, h2⟩
end
theorem UR {s : A3} (h0 : SI s = 0) : ∃ t, AJ 40000000 s = some (t, 0) ∧ ((∀ k, ¬Rc s k 0) → t.cO = [] ∧ t.cM.length = 1) := by
 rw [Ta, Ig (by omega)];simp only [Option.bind_some, h0, show Ar.k .neq (0 : Int) 0 = false from rfl, Bool.false_eq_true, if_false];have hs := MA h0;have hf := hs.fi;have hmv := hs.mv;obtain ⟨M, e1, h1, h2⟩ := Rn hs;have hM : HT s M := ⟨h1, h2⟩;obtain ⟨S, e2, hS⟩ := Tt hs;simp only [e1, e2, Option.bind_some];obtain ⟨o, T, e3, h3, h4⟩ := Jj hs hM hS s.cM.length 0 40000000 ⟨s.cS, [], []⟩ [] (by omega) (by omega) (by simp) (fun _ => rfl);obtain ⟨o', e4, h5⟩ := My hs hM hS (o, T) s.cO.length 0 40000000 { o with cO := [] } (by omega) (by omega) (by simp) (fun _ => rfl)
 rw [show ((0 : Nat) : Int) = 0 from rfl] at e3 e4
 simp only [e3, e4, Option.bind_some];exact ⟨_, rfl, fun h => ⟨h5 h, h4 h⟩⟩
theorem VQ (s : A3) (w : List B2) : ∃ b, Dg 40000000 w [s] = some b ∧ (b = true → w.length ≤ 8 ∧ ∃ r, N7 40000000 s w = some r ∧ Smn s w r ∧ r.2 = 0) := by
 unfold Dg
 by_cases hw : 8 < (w.length : Int)
 ·rw [if_pos (by simpa [Q3, D7] using hw)];exact ⟨_, rfl, fun h => by cases h⟩
 rw [if_neg (by simpa [Q3, D7] using hw)];obtain ⟨r, e1, e2, h1, _⟩ := La s w;obtain ⟨b, e3, _⟩ := UX (N := 40000000) (s := s) (by omega);unfold G5 H9
 have hg : Au 40000000 s w [s] = some (!b || !decide (r.2 = 0)) := by
  unfold Au;simp only [e2, e3, Option.bind_some];have hc : Ar.or (Ar.nt b) (Ar.k .neq r.2 0) = (!b || !decide (r.2 = 0)) := rfl;rw [← hc]
  by_cases hb : Ar.or (Ar.nt b) (Ar.k .neq r.2 0) = true
  ·rw [if_pos hb, hb]
  rw [if_neg hb, Bool.eq_false_iff.2 hb];simp [C6, X4]
 rw [T7 (l := [s]) (f := fun _ _ => if (!b || !decide (r.2 = 0)) = true then 1 else 0) (e := .inl ()) (b := fun _ => .inr 0) (N := 40000000) ?_ ?_ (by simp)]
 ·cases hb : (!b || !decide (r.2 = 0)) with
  | true =>
   rw [if_neg (by simp [fb])];exact ⟨_, rfl, fun h => by cases h⟩
  | false =>
   rw [if_pos (by simp [fb])];refine ⟨_, rfl, fun _ => ⟨by omega, r, e1, h1, ?_⟩⟩
   simp only [Bool.or_eq_false_iff, Bool.not_eq_false', decide_eq_true_eq] at hb
   exact hb.2
 ·intro i x hx hi
  have hi0 : i = 0 := by simp at hi; omega
  subst hi0
  have : x = s := by simpa using hx.symm
  subst this;simp only [D2, D7, G2, hx, Option.bind_some, decide_eq_true_eq, hg];rw [if_pos (by simp)]
  cases hb : (!b || !decide (r.2 = 0)) with
  | true => simp
  | false => simp [show Ar.ar .add .i64 0 1 = 1 from by rw [CP (by omega) (by omega)]; rfl]
 simp [D2, D7]
theorem JA (aw : Ai 40000000 = some true) (s : A3) (w : List B2) : Q1 40000000 s w = some true := by
 unfold Q1;obtain ⟨b, e, hb⟩ := VQ s w;simp only [e, Option.bind_some, aw]
 cases b with
 | false => rfl
 | true =>
  simp only [U2, Bool.not_true, Bool.false_eq_true, if_false];obtain ⟨hw, r, e1, hr, h0⟩ := hb rfl;have hsym := (hr h0).1;obtain ⟨q, e2, h2, h3⟩ := Sx hsym;obtain ⟨t, e4, h4⟩ := UR hsym
  have ha : R6 40000000 s w = some r.1 := by
   unfold R6;simp only [e1, Option.bind_some, h0, W1, AB, decide_true, Bool.true_and]
  simp only [e2, e4, ha, Option.bind_some];obtain ⟨qn, qw, qe⟩ := q
  simp only at h2 h3
  subst h2
  rcases h3 with ⟨rfl, rfl, hn⟩ | ⟨rfl, hD, hl, hsy, j, hp, hf⟩
  ·obtain ⟨t1, t2⟩ := h4 hn;rw [if_neg (by simp [X4, Q3, D7, DL, W1, t1, t2])]
   have : r.1 = false := by
    cases hr1 : r.1 with
    | false => rfl
    | true =>
     obtain ⟨j, hp, hf⟩ := (ML hr h0).1 hr1;exact absurd (PT hp hf) (hn _)
   simp [this]
  rw [if_neg (by simp [X4, DL, W1])];obtain ⟨r2, e5, _, hr2, hok⟩ := La s qw;have h02 := hok hsym (by omega) hsy;have h12 : r2.1 = true := (ML hr2 h02).2 ⟨j, hp, hf⟩
  have ha2 : R6 40000000 s qw = some true := by
   unfold R6;simp only [e5, Option.bind_some, h02, h12, W1, AB, decide_true, Bool.true_and]
  simp only [Bool.false_eq_true, if_false, ha2, Option.bind_some];rw [if_pos];simp only [W1, DL, U2, ES, D7, Bool.true_and, Bool.or_eq_true, decide_eq_true_eq]
  cases hr1 : r.1 with
  | false => exact .inl rfl
  | true =>
   refine .inr ?_;obtain ⟨j', hp', hf'⟩ := (ML hr h0).1 hr1;have hrc := PT hp' hf'
   rcases Nat.lt_or_ge w.length qw.length with c | c
   ·exact absurd hrc (hD.2 _ c)
   omega
end Go.Ab
namespace Go.Ab
open Go.RowKit Go.ChangeShapes Go.WideShapes Go.ChangeAt Go.Proofs Go.Proofs.YtildiiggamckaaaGreatDoor
set_option maxRecDepth 100000
section
variable {H : Type} {enc : TypeId × Value → H} {W : World} {base : Nat} {spare : Nat → Bool} {held : Bool}
theorem u294 : Tryz.prog.underlying 294 = some (.array K8.length 293) := by kernel_rfl
theorem u293 : Tryz.prog.underlying 293 = some (.struct (Lp Tryz.prog 293)) := by kernel_rfl
theorem PX (n : Nat) : Opens enc Tryz.prog W base spare held 293 G4.eYM (fun (a : P6) d => d = .agg [.lit (.int .i64 a.least), .lit (.int .i64 a.most), .lit (.bool a.typed), .lit (.bool a.cond), .lit (.bool a.scope), .lit (.bool a.span)]) n := by
 intro cs x h;obtain ⟨xs, m, rfl, rfl, hcl, hl, hf⟩ := DataW.trod_struct u293 h;obtain ⟨y0, k0, t0⟩ := P2 hl hf 0 (ty := 3) (off := 0) (sz := 1) (by kernel_rfl);obtain ⟨y1, k1, t1⟩ := P2 hl hf 1 (ty := 3) (off := 1) (sz := 1) (by kernel_rfl);obtain ⟨y2, k2, t2⟩ := P2 hl hf 2 (ty := 4) (off := 2) (sz := 1) (by kernel_rfl);obtain ⟨y3, k3, t3⟩ := P2 hl hf 3 (ty := 4) (off := 3) (sz := 1) (by kernel_rfl);obtain ⟨y4, k4, t4⟩ := P2 hl hf 4 (ty := 4) (off := 4) (sz := 1) (by kernel_rfl);obtain ⟨y5, k5, t5⟩ := P2 hl hf 5 (ty := 4) (off := 5) (sz := 1) (by kernel_rfl)
 have hxs : xs = [y0, y1, y2, y3, y4, y5] := match xs, hl.trans (show _ = 6 by kernel_rfl), k0, k1, k2, k3, k4, k5 with | [_, _, _, _, _, _], _, rfl, rfl, rfl, rfl, rfl, rfl => rfl
 obtain ⟨a0, r0, q0⟩ := Ik u3 _ _ t0;obtain ⟨a1, r1, q1⟩ := Ik u3 _ _ t1;obtain ⟨a2, r2, q2⟩ := Dc u4 _ _ t2;obtain ⟨a3, r3, q3⟩ := Dc u4 _ _ t3;obtain ⟨a4, r4, q4⟩ := Dc u4 _ _ t4;obtain ⟨a5, r5, q5⟩ := Dc u4 _ _ t5;refine ⟨⟨a0, a1, a2, a3, a4, a5⟩, ?_, ?_⟩
 ·have hc3 : cs.length = 6 := hcl.trans (by kernel_rfl);have := ((((r0.join r1).join r2).join r3).join r4).join r5;rw [G4.eZa]
  simpa [List.take_of_length_le, hc3, V.cells] using this
 rw [hxs];simp only [List.map_cons, List.map_nil, q0, q1, q2, q3, q4, q5]
theorem LI : ∀ (l k : List P6), (RL (H := H) (fun (a : P6) d => d = .agg [.lit (.int .i64 a.least), .lit (.int .i64 a.most), .lit (.bool a.typed), .lit (.bool a.cond), .lit (.bool a.scope), .lit (.bool a.span)]) l
 (k.map fun a => .agg [.lit (.int .i64 a.least), .lit (.int .i64 a.most), .lit (.bool a.typed), .lit (.bool a.cond), .lit (.bool a.scope), .lit (.bool a.span)])) → l = k
 | [], [], _ => rfl
 | [], _ :: _, h => by have := h.1; simp at this
 | _ :: _, [], h => by have := h.1; simp at this
 | a :: l, b :: k, h => by
  have h0 := h.2 0 a _ rfl rfl;have h1 := LI l k ⟨by simpa using h.1, fun i a d hi hd => h.2 (i + 1) a d (by simpa using hi) (by simpa using hd)⟩;subst h1;obtain ⟨a0, a1, a2, a3, a4, a5⟩ := a;obtain ⟨b0, b1, b2, b3, b4, b5⟩ := b
  simp at h0
  simp [h0]
theorem OD (h : laidMetH Tryz.prog Rows.symbolicChecksRow.laid W) : VR (g0 W) W (.pointer (some ⟨0, 0, none⟩)) (H5.gl 0) := by
 have h' : laidMet Tryz.prog Rows.symbolicChecksRow.laid W := h;obtain ⟨ps, ⟨g', t', cs, fuel, p, q, hg', ht', hvar, hd, _, _⟩, _⟩ := h';obtain rfl : g' = 0 := Option.some.inj (hg'.symm.trans (by kernel_rfl));obtain rfl : t' = 294 := Option.some.inj (ht'.symm.trans (by kernel_rfl));obtain ⟨l, hr, ds, hds, hl⟩ := Ot u294 (by kernel_rfl) (by decide) (fun n => PX n) hd
 have e : ds = K8.map fun a => .agg [.lit (.int .i64 a.least), .lit (.int .i64 a.most), .lit (.bool a.typed), .lit (.bool a.cond), .lit (.bool a.scope), .lit (.bool a.span)] := by
  have e2 : (Rows.laid_tidegate_pattern_shapes : DataW Unit) = .agg ds := hds;have e3 : (Rows.laid_tidegate_pattern_shapes : DataW Unit) = .agg (K8.map fun a => .agg [.lit (.int .i64 a.least), .lit (.int .i64 a.most), .lit (.bool a.typed), .lit (.bool a.cond), .lit (.bool a.scope), .lit (.bool a.span)]) := rfl
  rw [e3] at e2
  exact (DataW.agg.inj e2).symm
 subst e;obtain rfl := LI _ _ hl;exact OH hg' hvar hr
theorem WW (h : laidMetH Tryz.prog Rows.symbolicChecksRow.laid W) : ∀ n, VR (g0 W) W (.pointer (some ⟨n, 0, none⟩)) (H5.gl n)
 | 0 => OD h
 | _ + 1 => .bad _
end
end Go.Ab
