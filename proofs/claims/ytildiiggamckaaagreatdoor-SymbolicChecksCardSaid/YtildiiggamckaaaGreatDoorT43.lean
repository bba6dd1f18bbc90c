/- GYW3 GYL4 GYL5 GYW5 GYW4 GYPr -/
import Derived.Test.YtildiiggamckaaaGreatDoorT42
import Derived.KernelRfl
import Derived.Test.YtildiiggamckaaaGreatDoorT34
import Derived.Test.YtildiiggamckaaaGreatDoorT41
import Derived.Test.YtildiiggamckaaaGreatDoorT40
import Derived.Test.YtildiiggamckaaaGreatDoorTie
import Derived.WalkKit
import Derived.ProofKit
import Derived.OpenShut
import Derived.Deep.DeepHandedRow
import Derived.Carry
set_option linter.all false
namespace Go.Ab
structure Rd (n : Nat) (S : List (Int × Bool)) (b : List Bool) : Prop where
 len : b.length = n
 tru : PZ S
 mem : ∀ k : Int, (k, true) ∈ S ↔ ∃ i : Nat, k = (i : Int) ∧ b[i]? = some true
theorem Qv {s : B3} {x : B8} {S : List (Int × Bool)} {b : List Bool} (hx : Kd s.Types x = 0) (hs : VK s) (h : Rd s.Finals.length S b) :
 ∃ S' b', Ac (Mk 40000000 s x) (fun S => S) (fun S => AS S) S ([] : List (Int × Bool)) = some S' ∧ S3 40000000 s b x = some b' ∧ Rd s.Finals.length S' b' := by
 obtain ⟨S', e1, h1, h2⟩ := addP (N := 40000000) (by omega) hx hs S;obtain ⟨b', e2, h3, h4⟩ := TP (N := 40000000) (by omega) hx hs h.len;refine ⟨S', b', e1, e2, h3, h1, fun k => ?_⟩;rw [h2]
 constructor
 ·rintro ⟨p, hp, m, hm, f, t, c⟩;have hp2 := h.tru.2 p hp;obtain ⟨q, v⟩ := p
  simp only at hp2 f
  subst hp2;obtain ⟨i, e, hi⟩ := (h.mem q).1 hp;have hm2 := (hs.each m hm).1;refine ⟨k.toNat, by omega, (h4 _).2 ⟨m, hm, ?_, by omega, c⟩⟩;rw [f, e, show (i : Int).toNat = i by omega]; exact hi
 rintro ⟨i, rfl, hi⟩;obtain ⟨m, hm, f, t, c⟩ := (h4 i).1 hi;have hm2 := (hs.each m hm).1;exact ⟨(m.From, true), (h.mem _).2 ⟨m.From.toNat, by omega, f⟩, m, hm, rfl, t, c⟩
theorem MI {s : B3} (hs : VK s) : ∀ (w : List B8) (S : List (Int × Bool)) (b : List Bool), (∀ x ∈ w, Kd s.Types x = 0) → Rd s.Finals.length S b →
 ∃ S' b', E5 (R := List (Int × Bool)) (fun S x => (Ac (Mk 40000000 s x) (fun S => S) (fun S => AS S) S ([] : List (Int × Bool))).bind fun q => some (.inl q)) w S = some (.inl S') ∧
  E5 (R := List Bool) (fun b x => (S3 40000000 s b x).bind fun q => some (.inl q)) w b = some (.inl b') ∧ Rd s.Finals.length S' b'
 | [], S, b, _, h => ⟨S, b, rfl, rfl, h⟩
 | x :: w, S, b, hw, h => by
  obtain ⟨S1, b1, e1, e2, h1⟩ := Qv (hw x (by simp)) hs h;obtain ⟨S2, b2, e3, e4, h2⟩ := MI hs w S1 b1 (fun y hy => hw y (List.mem_cons_of_mem _ hy)) h1;refine ⟨S2, b2, ?_, ?_, h2⟩
  ·rw [E5]; simp only [e1, Option.bind_some]; exact e3
  rw [E5]; simp only [e2, Option.bind_some]; exact e4
def Qb (s : B3) (b : List Bool) : Prop := ∃ i : Nat, b[i]? = some true ∧ s.Finals[i]? = some true
noncomputable def LZ (s : B3) (_ : Unit) (p : Int × Bool) : Option (Unit ⊕ (Unit ⊕ Unit)) := (D0 s.Finals p.1).bind fun x => if x = true then some (.inr (.inr ())) else some (.inl ())
theorem JD {s : B3} : ∀ (l : List (Int × Bool)), (∀ p ∈ l, ∃ i : Nat, p.1 = (i : Int) ∧ i < s.Finals.length) →
 ((∃ p ∈ l, s.Finals[p.1.toNat]? = some true) → E5 (LZ s) l () = some (.inr (.inr ()))) ∧ (¬(∃ p ∈ l, s.Finals[p.1.toNat]? = some true) → E5 (LZ s) l () = some (.inl ()))
 | [], _ => ⟨(fun ⟨p, hp, _⟩ => by cases hp), fun _ => rfl⟩
 | p :: l, hl => by
  obtain ⟨i, hi, hlt⟩ := hl p (by simp);have ih := JD l fun q hq => hl q (List.mem_cons_of_mem _ hq);have hx := List.getElem?_eq_getElem hlt
  cases hv : s.Finals[i] with
  | true =>
   have e : LZ s () p = some (.inr (.inr ())) := by simp [LZ, hi, M0, hx, hv]
   refine ⟨fun _ => by rw [E5, e], fun h => absurd ⟨p, by simp, ?_⟩ h⟩;rw [hi, show (i : Int).toNat = i by omega, hx, hv]
  | false =>
   have e : LZ s () p = some (.inl ()) := by simp [LZ, hi, M0, hx, hv]
   have hp : ¬s.Finals[p.1.toNat]? = some true := by rw [hi, show (i : Int).toNat = i by omega, hx, hv]; simp
   refine ⟨fun ⟨q, hq, h⟩ => ?_, fun h => ?_⟩
   ·rw [E5, e]
    rcases List.mem_cons.1 hq with rfl | hq
    ·exact absurd h hp
    exact ih.1 ⟨q, hq, h⟩
   rw [E5, e];exact ih.2 fun ⟨q, hq, h'⟩ => h ⟨q, List.mem_cons_of_mem _ hq, h'⟩
theorem finP {s : B3} {S : List (Int × Bool)} {b : List Bool} (h : Rd s.Finals.length S b) : ∃ r : Unit ⊕ Unit, Ac (LZ s) (fun _ => ((.inl ()) : Unit ⊕ Unit)) (fun y => y) S () = some r ∧ (r = .inr () ↔ Qb s b) := by
 have hin : ∀ p ∈ S, ∃ i : Nat, p.1 = (i : Int) ∧ b[i]? = some true := fun p hp => by
  have := h.tru.2 p hp;obtain ⟨k, v⟩ := p
  simp only at this
  subst this;exact (h.mem k).1 hp
 have hlt : ∀ p ∈ S, ∃ i : Nat, p.1 = (i : Int) ∧ i < s.Finals.length := fun p hp => by
  obtain ⟨i, e, hi⟩ := hin p hp;refine ⟨i, e, ?_⟩
  rcases Nat.lt_or_ge i b.length with hl | hl
  ·rw [← h.len]; exact hl
  rw [List.getElem?_eq_none hl] at hi; cases hi
 have hQ : (∃ p ∈ S, s.Finals[p.1.toNat]? = some true) ↔ Qb s b := by
  constructor
  ·rintro ⟨p, hp, h2⟩;obtain ⟨i, e, hi⟩ := hin p hp;exact ⟨i, hi, by rw [e, show (i : Int).toNat = i by omega] at h2; exact h2⟩
  rintro ⟨i, hi, h2⟩;exact ⟨((i : Int), true), (h.mem _).2 ⟨i, rfl, hi⟩, by simpa using h2⟩
 by_cases hq : ∃ p ∈ S, s.Finals[p.1.toNat]? = some true
 ·refine ⟨.inr (), Hs fun m hm => ?_, by simpa using hQ.1 hq⟩
  show (E5 (LZ s) m ()).map _ = _
  rw [(JD m fun p hp => hlt p (hm.mem_iff.1 hp)).1 (by obtain ⟨p, hp, h2⟩ := hq; exact ⟨p, hm.mem_iff.2 hp, h2⟩)];rfl
 refine ⟨.inl (), Hs fun m hm => ?_, ⟨(fun h' => by cases h'), fun h' => absurd (hQ.2 h') hq⟩⟩;rw [(JD m fun p hp => hlt p (hm.mem_iff.1 hp)).2 (by rintro ⟨p, hp, h2⟩; exact hq ⟨p, hm.mem_iff.1 hp, h2⟩)];rfl
theorem Qg {n : Nat} (hn : 1 ≤ n) : Rd n [(0, true)] ((List.replicate n false).set 0 true) := by
 refine ⟨by simp, ⟨by simp, fun p hp => by simp only [List.mem_singleton] at hp; rw [hp]⟩, fun k => ?_⟩;simp only [List.mem_singleton, Prod.mk.injEq, and_true]
 constructor
 ·rintro rfl;exact ⟨0, rfl, by rw [List.getElem?_set]; simp; omega⟩
 rintro ⟨i, rfl, hi⟩
 rw [List.getElem?_set] at hi
 by_cases e : 0 = i
 ·omega
 rw [if_neg e, List.getElem?_replicate] at hi
 split at hi <;> simp at hi
theorem RA {s : B3} {w : List B8} {b : List Bool} (hs : VK s) (hw : w.length ≤ 4096)
 (hb : E5 (R := List Bool) (fun b x => (S3 40000000 s b x).bind fun q => some (.inl q)) w ((List.replicate s.Finals.length false).set 0 true) = some (.inl b)) (hl : b.length = s.Finals.length) :
 ∃ r, BP 40000000 s w = some r ∧ (r = true ↔ Qb s b) := by
 have hf := hs.fi;unfold BP;simp only [G9, Rg];rw [if_pos (by omega)];simp only [Option.bind_some, show ((s.Finals.length : Int)).toNat = s.Finals.length by omega];rw [show Hz (List.replicate s.Finals.length false) 0 = true by unfold Hz; simp; omega]
 have hu : DF (List.replicate s.Finals.length false) 0 (fun _ => true) = some ((List.replicate s.Finals.length false).set 0 true) := by
  unfold DF D0;simp only [Int.le_refl, if_true, Int.toNat_zero];rw [List.getElem?_replicate, if_pos (by omega)];rfl
 simp only [FF, if_true, Option.bind_some, hu];rw [Hx (α := B8) (σ := List Bool) (R := List Bool) w (by omega) (fun b i => (b, i)) (fun b x => (S3 40000000 s b x).bind fun q => some (.inl q)) (fun b => b) _ (by omega)]
 ·rw [hb];simp only [Option.bind_some]
  have hlz : (b.zip s.Finals).length = s.Finals.length := by rw [List.length_zip, hl]; exact Nat.min_self _
  rw [U0 (l := b.zip s.Finals) (f := fun _ y => if y.1 = true ∧ y.2 = true then 1 else 0) (e := .inl ()) (b := fun _ => .inr ()) (N := 40000000) ?_ ?_ (by omega)]
  ·by_cases h : fb (fun _ (y : Bool × Bool) => if y.1 = true ∧ y.2 = true then 1 else 0) 0 (b.zip s.Finals) = 0
   ·rw [if_pos h];refine ⟨false, rfl, (fun h' => by cases h'), fun ⟨i, h1, h2⟩ => ?_⟩;have := Aw.1 h i (true, true) (by rw [List.getElem?_zip_eq_some]; exact ⟨h1, h2⟩)
    simp at this
   rw [if_neg h];refine ⟨true, rfl, (fun _ => ?_), fun _ => rfl⟩;apply Classical.byContradiction;intro hq;apply h;rw [Aw];rintro k ⟨y1, y2⟩ hk
   rw [List.getElem?_zip_eq_some] at hk
   rw [if_neg];rintro ⟨e1, e2⟩
   simp only at e1 e2
   subst e1; subst e2;exact hq ⟨k, hk.1, hk.2⟩
  ·rintro i ⟨y1, y2⟩ hy hi
   rw [List.getElem?_zip_eq_some] at hy
   simp only [E9, M0, hy.1, hy.2, Option.bind_some, decide_eq_true_eq];rw [if_pos (by omega), W7 hi (by omega)];cases y1 <;> cases y2 <;> simp
  simp only [E9, decide_eq_true_eq];rw [if_neg (by omega)]
 ·intro b i x hx hi;simp only [E9, M0, hx, Option.bind_some, decide_eq_true_eq];rw [if_pos hi, Ev (by omega) (by omega)]
  cases S3 40000000 s b x with
  | none => rfl
  | some _ => rfl
 intro b;simp [E9]
theorem Qe {t : Int} {w : List B8} (h : fb (fun _ x => Kd t x) 0 w = 0) : ∀ x ∈ w, Kd t x = 0 := fun x hx => by
 obtain ⟨k, hk⟩ := List.getElem?_of_mem hx;exact Aw.1 h k x hk
theorem Pi (s : B3) (w : List B8) : ∃ r, P9 40000000 s w = some r ∧ Ah 40000000 s w = some r := by
 unfold P9 Ah;rw [KH (by omega), IU (by omega)]
 by_cases h0 : UG s = 0
 ·simp only [Option.bind_some, h0];simp only [show Ar.cmp .neq (0 : Int) 0 = false from rfl, Bool.false_eq_true, if_false]
  by_cases hw : 4096 < (w.length : Int)
  ·simp only [show Ar.cmp .gtr (Ar.len w) 4096 = true from by simpa [Z8, G9] using hw, if_true];exact ⟨_, rfl, rfl⟩
  simp only [show Ar.cmp .gtr (Ar.len w) 4096 = false from by simpa [Z8, G9] using hw, Bool.false_eq_true, if_false];have hs := UX h0;obtain ⟨p, ep, hp⟩ := Vv hs.ty;simp only [ep, Option.bind_some];rw [U0 (l := w) (f := fun _ x => Kd s.Types x) (e := .inl ()) (b := .inr) (N := 40000000) ?_ ?_ (by omega)]
  ·rw [U0 (l := w) (f := fun _ x => Kd s.Types x) (e := .inl ()) (b := .inr) (N := 40000000) ?_ ?_ (by omega)]
   ·by_cases hz : fb (fun _ x => Kd s.Types x) 0 w = 0
    ·rw [if_pos hz];simp only [Option.bind_some];have hset : EA ([] : List (Int × Bool)) 0 true = some [(0, true)] := rfl;rw [hset];simp only [Option.bind_some];obtain ⟨S, b, e1, e2, h1⟩ := MI hs w _ _ (Qe hz) (Qg hs.fi.1);obtain ⟨r, e3, h3⟩ := RA hs (by omega) e2 h1.len;obtain ⟨q, e4, h4⟩ := finP h1;rw [Hx (α := B8) (σ := List (Int × Bool)) (R := List (Int × Bool)) w (by omega) (fun S i => (i, S)) (fun S x => (Ac (Mk 40000000 s x) (fun S => S) (fun S => AS S) S ([] : List (Int × Bool))).bind fun q => some (.inl q)) (fun S => S) _ (by omega)]
     ·rw [e1, e3];have e4' := e4
      unfold LZ at e4'
      simp only [Option.bind_some];rw [e4']
      cases q with
      | inl u =>
       cases r with
       | false => exact ⟨_, rfl, rfl⟩
       | true => have := h4.2 (h3.1 rfl); cases this
      | inr u =>
       cases r with
       | true => exact ⟨_, rfl, rfl⟩
       | false => have := h3.2 (h4.1 rfl); cases this
     ·intro S i x hx hi
      show (if Ar.cmp .lss (i : Int) (Ar.len w) = true then _ else _) = _
      rw [if_pos (by simpa [E9, G9] using hi)];rw [M0, hx, Option.bind_some];rw [Ev (by omega) (by omega)]
      show (Ac (Mk 40000000 s x) (fun S => S) (fun S => AS S) S ([] : List (Int × Bool))).bind _ = _
      cases Ac (Mk 40000000 s x) (fun S => S) (fun S => AS S) S ([] : List (Int × Bool)) with
      | none => rfl
      | some _ => rfl
     intro S
     show (if Ar.cmp .lss (w.length : Int) (Ar.len w) = true then _ else _) = _
     rw [if_neg (by simp [E9, G9])]
    rw [if_neg hz];exact ⟨_, rfl, rfl⟩
   ·intro i x hx hi;simp only [E9, Ay, G9, M0, hx, Option.bind_some, Tt, decide_eq_true_eq];rw [if_pos (by omega), W7 hi (by omega)]
    by_cases h : Kd s.Types x = 0
    ·simp [h]
    simp [h]
   simp [E9, G9]
  ·intro i x hx hi;obtain ⟨r, e1, h1, _⟩ := Ie (N := 40000000) (x := x) (by omega) hp;simp only [E9, Ay, G9, M0, hx, Option.bind_some, e1, decide_eq_true_eq];rw [if_pos (by omega), W7 hi (by omega), h1]
   by_cases h : Kd s.Types x = 0
   ·simp [h]
   simp [h]
  simp [E9, G9]
 simp only [Option.bind_some];simp only [show Ar.cmp .neq (UG s) 0 = true from by simp [Ay, h0], if_true];exact ⟨_, rfl, rfl⟩
end Go.Ab
namespace Go.Ab
def fl : Nat → List (List A2) → List (Int × List A2)
 | _, [] => []
 | i, x :: r => if 0 < x.length then ((i : Int), x) :: fl (i + 1) r else fl (i + 1) r
end Go.Ab
namespace Go.Ab
set_option maxRecDepth 100000
theorem Vn {N : Nat} {p : B5} (hN : 10 < N) : ∃ b, Bt N p = some b ∧ (b = true → p.Sets.length ≤ 4 ∧ ∀ x ∈ p.Sets, x.length ≤ 12) := by
 unfold Bt;rw [U0 (l := p.Sets.take 5) (f := fun _ x => if x.length ≤ 12 then 0 else 1) (e := .inl ()) (b := fun _ => .inr ()) (N := N) ?_ ?_ (by simp; omega)]
 ·simp only [Option.bind_some]
  by_cases h : fb (fun _ (x : List A2) => if x.length ≤ 12 then (0 : Int) else 1) 0 (p.Sets.take 5) = 0
  ·rw [if_pos h];refine ⟨_, rfl, fun hb => ?_⟩
   simp only [GZ, G9, decide_eq_true_eq] at hb
   refine ⟨by omega, fun x hx => ?_⟩;obtain ⟨k, hk⟩ := List.getElem?_of_mem hx;have hkl := (List.getElem?_eq_some_iff.1 hk).1;have := Aw.1 h k x (by rw [List.getElem?_take]; rw [if_pos (by omega)]; exact hk)
   split at this
   ·assumption
   cases this
  rw [if_neg h];exact ⟨_, rfl, fun h => by cases h⟩
 ·intro i x hx hi
  rw [List.getElem?_take] at hx
  have hi5 : i < 5 ∧ i < p.Sets.length := by simp at hi; omega
  rw [if_pos hi5.1] at hx
  unfold Fo;simp only [E9, GZ, Dy, Gf, G9, M0, hx, Option.bind_some, Bool.and_eq_true, decide_eq_true_eq, Bool.not_eq_true', decide_eq_false_iff_not];rw [if_pos (by omega), W7 hi5.1 (by omega)]
  by_cases h : x.length ≤ 12
  ·rw [if_neg (by omega), if_pos (by rw [if_pos h])]
  rw [if_pos (by omega), if_neg (by rw [if_neg h]; decide)]
 simp only [E9, Dy, G9, Bool.and_eq_true, decide_eq_true_eq, List.length_take];rw [if_neg (by omega)]
end Go.Ab
namespace Go.Ab
theorem Tq {N : Nat} {s : B3} (hN : 30 < N) : ∃ b, DI N s = some b ∧ (b = true → s.Finals.length ≤ 8 ∧ s.Moves.length ≤ 16 ∧ ∀ m ∈ s.Moves, m.On.Sets.length ≤ 4 ∧ ∀ x ∈ m.On.Sets, x.length ≤ 12) := by
 unfold DI;have hc : ∀ m : D5, ∃ b, Bt N m.On = some b ∧ (b = true → m.On.Sets.length ≤ 4 ∧ ∀ x ∈ m.On.Sets, x.length ≤ 12) := fun m => Vn (by omega);obtain ⟨F, hF⟩ : ∃ F : D5 → Bool, ∀ m, Bt N m.On = some (F m) ∧ (F m = true → m.On.Sets.length ≤ 4 ∧ ∀ x ∈ m.On.Sets, x.length ≤ 12) := ⟨fun m => (hc m).choose, fun m => (hc m).choose_spec⟩;rw [U0 (l := s.Moves.take 20) (f := fun _ m => if F m = true then 0 else 1) (e := .inl ()) (b := fun _ => .inr ()) (N := N) ?_ ?_ (by simp; omega)]
 ·simp only [Option.bind_some]
  by_cases h : fb (fun _ (m : D5) => if F m = true then (0 : Int) else 1) 0 (s.Moves.take 20) = 0
  ·rw [if_pos h];refine ⟨_, rfl, fun hb => ?_⟩
   simp only [GZ, Dy, G9, Bool.and_eq_true, decide_eq_true_eq] at hb
   refine ⟨by omega, by omega, fun m hm => ?_⟩;obtain ⟨k, hk⟩ := List.getElem?_of_mem hm;have hkl := (List.getElem?_eq_some_iff.1 hk).1;have := Aw.1 h k m (by rw [List.getElem?_take]; rw [if_pos (by omega)]; exact hk)
   split at this
   ·rename_i h2; exact (hF m).2 h2
   cases this
  rw [if_neg h];exact ⟨_, rfl, fun h => by cases h⟩
 ·intro i x hx hi
  rw [List.getElem?_take] at hx
  have hi5 : i < 20 ∧ i < s.Moves.length := by simp at hi; omega
  rw [if_pos hi5.1] at hx
  simp only [E9, Dy, Gf, G9, M0, hx, Option.bind_some, (hF x).1, Bool.and_eq_true, decide_eq_true_eq, Bool.not_eq_true'];rw [if_pos (by omega), W7 hi5.1 (by omega)];cases F x <;> simp
 simp only [E9, Dy, G9, Bool.and_eq_true, decide_eq_true_eq, List.length_take];rw [if_neg (by omega)]
end Go.Ab
namespace Go.Ab
theorem QY (a : Bool) : Ar.beq a a = true := by cases a <;> rfl
theorem MH (aw : AL 40000000 = some true) (s : B3) (w : List B8) : R5 40000000 s w = some true := by
 unfold R5;obtain ⟨b, e, hb⟩ := Tq (N := 40000000) (s := s) (by omega);simp only [e, Option.bind_some, aw]
 split
 ·rfl
 obtain ⟨r, h1, h2⟩ := Pi s w;simp only [h1, h2, KH (show 3000 < 40000000 by omega), IU (show 3000 < 40000000 by omega), Option.bind_some, QY, Dy, IB, decide_true, Bool.and_self, if_true]
end Go.Ab
namespace Go.Ab
open Go.RowKit Go.ChangeShapes Go.WideShapes Go.ChangeAt Go.Proofs Go.Proofs.YtildiiggamckaaaGreatDoor
set_option maxRecDepth 100000
section
variable {H : Type} {enc : TypeId × Value → H} {W : World} {base : Nat} {spare : Nat → Bool} {held : Bool}
theorem u294 : Tryz.prog.underlying 294 = some (.array K0.length 293) := by kernel_rfl
theorem u293 : Tryz.prog.underlying 293 = some (.struct (Kp Tryz.prog 293)) := by kernel_rfl
theorem OD (n : Nat) : Opens enc Tryz.prog W base spare held 293 G1.eWV (fun (a : O4) d => d = .agg [.lit (.int .i64 a.least), .lit (.int .i64 a.most), .lit (.bool a.typed), .lit (.bool a.cond), .lit (.bool a.scope), .lit (.bool a.span)]) n := by
 intro cs x h;obtain ⟨xs, m, rfl, rfl, hcl, hl, hf⟩ := DataW.trod_struct u293 h;obtain ⟨y0, k0, t0⟩ := O0 hl hf 0 (ty := 3) (off := 0) (sz := 1) (by kernel_rfl);obtain ⟨y1, k1, t1⟩ := O0 hl hf 1 (ty := 3) (off := 1) (sz := 1) (by kernel_rfl);obtain ⟨y2, k2, t2⟩ := O0 hl hf 2 (ty := 4) (off := 2) (sz := 1) (by kernel_rfl);obtain ⟨y3, k3, t3⟩ := O0 hl hf 3 (ty := 4) (off := 3) (sz := 1) (by kernel_rfl);obtain ⟨y4, k4, t4⟩ := O0 hl hf 4 (ty := 4) (off := 4) (sz := 1) (by kernel_rfl);obtain ⟨y5, k5, t5⟩ := O0 hl hf 5 (ty := 4) (off := 5) (sz := 1) (by kernel_rfl);have hxs := Vg (hl.trans (by kernel_rfl)) k0 k1 k2 k3 k4 k5;obtain ⟨a0, r0, q0⟩ := Hu u3 _ _ t0;obtain ⟨a1, r1, q1⟩ := Hu u3 _ _ t1;obtain ⟨a2, r2, q2⟩ := CI u4 _ _ t2;obtain ⟨a3, r3, q3⟩ := CI u4 _ _ t3;obtain ⟨a4, r4, q4⟩ := CI u4 _ _ t4;obtain ⟨a5, r5, q5⟩ := CI u4 _ _ t5;refine ⟨⟨a0, a1, a2, a3, a4, a5⟩, ?_, ?_⟩
 ·have hc3 : cs.length = 6 := hcl.trans (by kernel_rfl);have := ((((r0.join r1).join r2).join r3).join r4).join r5;rw [G1.eXk]
  simpa [List.take_of_length_le, hc3, V.cells] using this
 rw [hxs];simp only [List.map_cons, List.map_nil, q0, q1, q2, q3, q4, q5]
theorem KF : ∀ (l k : List O4), (RL (H := H) (fun (a : O4) d => d = .agg [.lit (.int .i64 a.least), .lit (.int .i64 a.most), .lit (.bool a.typed), .lit (.bool a.cond), .lit (.bool a.scope), .lit (.bool a.span)]) l
 (k.map fun a => .agg [.lit (.int .i64 a.least), .lit (.int .i64 a.most), .lit (.bool a.typed), .lit (.bool a.cond), .lit (.bool a.scope), .lit (.bool a.span)])) → l = k
 | [], [], _ => rfl
 | [], _ :: _, h => by have := h.1; simp at this
 | _ :: _, [], h => by have := h.1; simp at this
 | a :: l, b :: k, h => by
  have h0 := h.2 0 a _ rfl rfl;have h1 := KF l k ⟨by simpa using h.1, fun i a d hi hd => h.2 (i + 1) a d (by simpa using hi) (by simpa using hd)⟩;subst h1;obtain ⟨a0, a1, a2, a3, a4, a5⟩ := a;obtain ⟨b0, b1, b2, b3, b4, b5⟩ := b
  simp at h0
  simp [h0]
theorem Nn (h : laidMetH Tryz.prog Rows.symbolicChecksRow.laid W) : VR (g0 W) W (.pointer (some ⟨0, 0, none⟩)) (G5.gl 0) := by
 have h' : laidMet Tryz.prog Rows.symbolicChecksRow.laid W := h;obtain ⟨ps, ⟨g', t', cs, fuel, p, q, hg', ht', hvar, hd, _, _⟩, _⟩ := h';obtain rfl : g' = 0 := Option.some.inj (hg'.symm.trans (by kernel_rfl));obtain rfl : t' = 294 := Option.some.inj (ht'.symm.trans (by kernel_rfl));obtain ⟨l, hr, ds, hds, hl⟩ := MW u294 (by kernel_rfl) (by decide) (fun n => OD n) hd
 have e : ds = K0.map fun a => .agg [.lit (.int .i64 a.least), .lit (.int .i64 a.most), .lit (.bool a.typed), .lit (.bool a.cond), .lit (.bool a.scope), .lit (.bool a.span)] := by
  have e2 : (Rows.laid_tidegate_pattern_shapes : DataW Unit) = .agg ds := hds;have e3 : (Rows.laid_tidegate_pattern_shapes : DataW Unit) = .agg (K0.map fun a => .agg [.lit (.int .i64 a.least), .lit (.int .i64 a.most), .lit (.bool a.typed), .lit (.bool a.cond), .lit (.bool a.scope), .lit (.bool a.span)]) := rfl
  rw [e3] at e2
  exact (DataW.agg.inj e2).symm
 subst e;obtain rfl := KF _ _ hl;exact Nq hg' hvar hr
theorem Vl (h : laidMetH Tryz.prog Rows.symbolicChecksRow.laid W) : ∀ n, VR (g0 W) W (.pointer (some ⟨n, 0, none⟩)) (G5.gl n)
 | 0 => Nn h
 | _ + 1 => .bad _
end
end Go.Ab
