/- AbD2 -/
import Derived.Test.YtildiiggamckaaaGreatDoorT18
set_option linter.all false
namespace Go.Ab
open Go.RowKit
variable [G5] [Ar]
def Eg : List Nat → Nat → Bool
 | [], _ => false
 | x :: l, n => match Nat.beq n x with | true => true | false => Eg l n
abbrev LQ := List (Nat × List V)
def Wb : LQ → Nat → Option (List V)
 | [], _ => none
 | (k, x) :: l, t => match Nat.beq t k with | true => some x | false => Wb l t
section
variable (E : CM) (T : Dm) (nt : Nat) (A : Nat → Bool)
def Xf (G : List (Nat × Bool)) (o : Oper) (l : Fl) (H : A0) (k : Sl → Prop) : Prop :=
 match o.op with
 | .call c =>
  (match c.callee with
   | .value x => E.pcall H (K1 G l x).V (c.args.toList.map fun x => (K1 G l x).V) fun v => k (.v v)
   | _ => xq E T G o l H k)
 | _ => xq E T G o l H k
def Px (pv : LQ) (d : Option Tmp) : Bool :=
 match d with
 | some d => (match Wb pv d with | none => true | some _ => false)
 | none => true
abbrev Pe := Option (Nat × Nat × List V)
def Pd (tk : List Nat) (d : Option Tmp) : Bool :=
 match d with
 | some d => !Eg tk d
 | none => true
def LK : List Nat → Nat → List Nat
 | [], _ => []
 | x :: l, n => match Nat.beq n x with | true => LK l n | false => x :: LK l n
def IG (s : Option Nat) (tk : List Nat) : List Nat :=
 match s with
 | some d => LK tk d
 | none => tk
def Wi (tk : List Nat) (sx : Operand) (tl : D6) : Option (Option Nat) :=
 match tl with
 | .nil => some none
 | .full => some none
 | .ro => (match sx with | .tmp d => (match Eg tk d with | true => some (some d) | false => none) | _ => none)
 | _ => none
def Su (x : Bool) (ex : Option D6) (tk : List Nat) (sx : Operand) (tl : D6) (k : Option Nat → Option D6 → Prop) : Prop :=
 match x with
 | true => (match ex with | some τ => E.need (tl = τ) fun _ => k none none | none => False)
 | false => (match Wi tk sx tl with | some s => k s ex | none => False)
def EF (A : Nat → Bool) (n : Nat) : List Oper → Option Nat
 | [] => none
 | o :: l => match o.dst with | some d => (match A (d + n) with | true => some d | false => EF A n l) | none => EF A n l
def Sw (x : Bool) (ex : Option D6) (o : Oper) (l : Fl) (tk : List Nat) (k : Nat → Option Nat → Option D6 → V → Prop) : Prop :=
 match o.op, o.dst, o.guard with
 | .call { callee := .builtin .append, args := ⟨[sx, sy]⟩, argTypes := ⟨[sT, yT]⟩ }, some dd, none =>
  (match (K1 [] l sx).V, (K1 [] l sy).V with
   | .sl xs tlx, .sl ys _ =>
    Su E x ex tk sx tlx fun src ex' =>
     (match tg T sT, tg T yT with
      | some I, some I2 =>
       (match I.sl, I2.sl with
        | some e, some _ =>
         (match tg T e with
          | some J =>
           (match J.ze with
            | some z => if 0 < J.sz ∧ 0 < J.by_ ∧ z.one = true ∧ z.cells.length = J.sz then E.appq J.sz J.by_ xs ys fun v => k dd src ex' v else False
            | none => False)
          | none => False)
        | _, _ => False)
      | _, _ => False)
   | _, _ => False)
 | _, _, _ => False
def SA (ads : List Nat) (ops : Array Oper) : List Oper → Fl → LQ → Pe → List Nat → Option D6 → A0 → (Fl → LQ → Pe → List Nat → Prop) → Prop
 | [], l, pv, pe, tk, _, _, K => K l pv pe tk
 | o :: rest, l, pv, pe, tk, ex, H, K =>
  match Cw nt o.dst, Px pv o.dst, Pd tk o.dst with
  | true, true, true =>
   (match A (o.dst.getD 0 + 3000000) with
    | true => Sw E T (A (o.dst.getD 0 + 8000000)) ex o l tk fun dd src ex' v => SA ads ops rest ((dd, .v v) :: l) pv pe (dd :: IG src tk) ex' H K
    | false =>
     (match o.op with
      | .alloc t =>
       (match o.guard, o.dst, tg T t with
        | none, some d, some I =>
         (match I.ze with
          | some z => (match z.one with | true => SA ads ops rest ((d, .v .bad) :: l) ((d, z.cells) :: pv) pe tk ex H K | false => False)
          | none => False)
        | _, _, _ => False)
      | .store t (.tmp d) y =>
       (match o.guard, tg T t with
        | none, some I =>
         (match Wb pv d with
          | some cs => if (K1 [] l y).V.one = true ∧ (K1 [] l y).V.cells.length = I.sz ∧ I.sz ≤ cs.length then SA ads ops rest (Aw o.dst (.v .bad) l) ((d, K9 cs 0 (K1 [] l y).V.cells) :: pv) pe tk ex H K else False
          | none =>
           (match Eg ads d, NM [] l d, pe with
            | true, some (.v (.ref id off)), some (ds, id', cs) =>
             if (K1 [] l y).V.one = true ∧ (K1 [] l y).V.cells.length = I.sz ∧ off + I.sz ≤ cs.length then E.need (id = id') fun _ => SA ads ops rest (Aw o.dst (.v .bad) l) pv (some (ds, id', K9 cs off (K1 [] l y).V.cells)) tk ex H K else False
            | _, _, _ => False))
        | _, _ => False)
      | .store _ _ _ => False
      | _ => CN E ops o 4 l (fun G l' wr => Xf E T G o l' H fun s => SA ads ops rest (Aw o.dst (wr s) l') pv pe tk ex H K) fun l' => SA ads ops rest (Aw o.dst (.v (.tup [])) l') pv pe tk ex H K))
  | _, _, _ => False
def Gt : List Nat → LQ → Fl → A0 → (Fl → A0 → Prop) → Prop
 | [], _, l, H, K => K l H
 | d :: ds, pv, l, H, K =>
  match Wb pv d with
  | some cs => (match A d with | true => E.alloc H cs fun id H' => Gt ds pv ((d, .v (.ref id 0)) :: l) H' K | false => Gt ds pv ((d, .v (.eref cs 0)) :: l) H K)
  | none => False
def Jf (dx : Option Nat) (tk : List Nat) (l : Fl) (H : A0) (K : Fl → A0 → Prop) : Prop :=
 match dx with
 | none => K l H
 | some d => (match Eg tk d, lk l d with | true, .v (.sl xs .ro) => E.nameT H fun tl H' => K ((d, .v (.sl xs tl)) :: l) H' | _, _ => False)
def Ik (ops : Array Oper) : List Oper → Fl → A0 → (Fl → A0 → Prop) → Prop
 | [], l, H, K => K l H
 | o :: rest, l, H, K =>
  match Cw nt o.dst with
  | true => CN E ops o 4 l (fun G l' wr => Sx E T A G o l' H fun s H' => Ik ops rest (Aw o.dst (wr s) l') H' K) fun l' => Ik ops rest (Aw o.dst (.v (.tup [])) l') H K
  | false => False
def Cj : List Oper → List Nat
 | [] => []
 | o :: l => match o.op, o.dst with | .alloc _, some d => d :: Cj l | _, _ => Cj l
def VS (pe : Pe) (H : A0) (K : A0 → Prop) : Prop :=
 match pe with
 | some (_, id, cs) => E.give H id cs K
 | none => K H
def Sr (w : Option (Nat × List Nat)) (l : Fl) (H : A0) (K : List Nat → Pe → A0 → Prop) : Prop :=
 match w with
 | none => K [] none H
 | some (d, ads) => (match lk l d with | .v (.ref id 0) => E.frz H id fun cs H' => K ads (some (d, id, cs)) H' | _ => False)
def Sq (x : Option Nat) (H : A0) (K : Option D6 → A0 → Prop) : Prop :=
 match x with
 | none => K none H
 | some _ => E.takeT H fun τ H' => K (some τ) H'
def Sz (w : Option (Nat × List Nat)) (k : Nat) (ops : Array Oper) (l : Fl) (H : A0) (K : Fl → A0 → Prop) : Prop :=
 Sq E (EF A 8000000 (ops.toList.take k)) H fun ex H0 => Sr E w l H0 fun ads pe H1 => SA E T nt A ads ops (ops.toList.take k) l [] pe [] ex H1 fun l' pv pe' tk => VS E pe' H1 fun H2 => Jf E (EF A 9000000 (ops.toList.take k)) tk l' H2 fun l1 H3 => Gt E A (Cj (ops.toList.take k)) pv l1 H3 fun l'' H' => Ik E T nt A ops (ops.toList.drop k) l'' H' K
end
section
variable {P : Program} {nt : Nat} {rd : Option Nat} {T : Dm} {A : Nat → Bool} {df : List Nat}
theorem Rd (hT : EX P T) {G : List (Nat × Bool)} {o : Oper} {l : Fl} (hG : EY G l) {H : A0} {k : Sl → Prop} (h : Xf (E6 P nt rd) T G o l H k) : ∃ s : Sl, GD P o (ev (D9 ⟨l, df⟩)) H s.V ∧ k s := by
 unfold Xf at h
 split at h
 ·rename_i c ho
  split at h
  ·rename_i x hc;obtain ⟨v, h1, h2⟩ := h
   rw [Bk (df := df) hG, show (c.args.toList.map fun x => (K1 G l x).V) = c.args.toList.map (ev (D9 ⟨l, df⟩)) from List.map_congr_left fun p _ => Bk hG p] at h1
   exact ⟨.v v, by simp only [GD, ho, hc]; exact h1, h2⟩
  exact GT hT hG h
 exact GT hT hG h
theorem Uv (hT : EX P T) {G : List (Nat × Bool)} {o : Oper} {l : Fl} {H : A0} {k : Sl → Prop} (ht : Fz G o l = true) (h : Xf (E6 P nt rd) T G o l H k) : ∃ s, k s := by
 unfold Xf at h
 split at h
 ·rename_i c ho
  split at h
  ·obtain ⟨v, h1, h2⟩ := h;exact ⟨_, h2⟩
  exact OU hT ht h
 exact OU hT ht h
theorem BZ (hT : EX P T) {ops : Array Oper} {K : Fl → A0 → Prop} : ∀ (rest : List Oper) (l : Fl) (H : A0), Ik (E6 P nt rd) T nt A ops rest l H K → DM P A nt ops rest (D9 ⟨l, df⟩) H fun fr H' => ∃ l', fr = D9 ⟨l', df⟩ ∧ K l' H'
 | [], l, H, h => ⟨l, rfl, h⟩
 | o :: rest, l, H, h => by
  unfold Ik at h
  split at h
  ·rename_i hd;simp only [DM];refine ⟨hd, ?_⟩;obtain ⟨l', e, h⟩ := AZ (df := df) 4 l h
   have e : D9 ⟨l', df⟩ = D9 ⟨l, df⟩ := by simp only [D9, Fr.mk.injEq, and_true]; funext t; exact e t
   rcases h with ⟨hg, G, wr, hG, hwr, h⟩ | ⟨hg, h⟩
   ·rw [hg];rw [← e];refine Fp (HD (df := df) hT hG h) fun v H' ⟨s, hv, hk⟩ => ?_;subst hv;rw [← hwr s, ← G9];exact BZ hT rest _ _ hk
   rw [hg];rw [← e]
   rcases h with h | ⟨G, d, want, ht, hb, h⟩
   ·have := BZ hT rest _ _ h
    rw [G9] at this
    exact this
   obtain ⟨s, h⟩ := LT hT ht h;have := BZ hT rest _ _ h
   rw [G9] at this
   simp only [Sp, hb, cond_false] at this
   exact this
  exact h.elim
def P9 (pv : LQ) (pe : Pe) (tk : List Nat) (ex : Option D6) : Pv
 | .inl d => Wb pv d
 | .inr x => (match pe with | some (_, id, cs) => if x = id then some cs else none | none => none)
 | .tk d => (match Eg tk d with | true => some [] | false => none)
 | .ex => ex.map fun τ => [.sl [] τ]
theorem TZ {a b : Nat} : Nat.beq a b = true ↔ a = b := ⟨Nat.eq_of_beq_eq_true, fun h => by subst h; exact Nat.beq_refl _⟩
theorem Tw {pv : LQ} {d t : Nat} {cs : List V} : Wb ((d, cs) :: pv) t = if t = d then some cs else Wb pv t := by
 simp only [Wb]
 by_cases h : t = d
 ·subst h; simp [Nat.beq_refl]
 have : Nat.beq t d = false := by
  cases hb : Nat.beq t d with
  | false => rfl
  | true => exact absurd (Nat.eq_of_beq_eq_true hb) h
 simp [this, h]
theorem BN {tk : List Nat} {d t : Nat} : Eg (d :: tk) t = (decide (t = d) || Eg tk t) := by
 simp only [Eg]
 by_cases h : t = d
 ·subst h; simp [Nat.beq_refl]
 have : Nat.beq t d = false := by
  cases hb : Nat.beq t d with
  | false => rfl
  | true => exact absurd (Nat.eq_of_beq_eq_true hb) h
 simp [this, h]
theorem HX {d t : Nat} : ∀ {tk : List Nat}, Eg (LK tk d) t = (!decide (t = d) && Eg tk t)
 | [] => by simp [LK, Eg]
 | x :: l => by
  simp only [LK]
  split
  ·rename_i h;have := TZ.1 h;subst this;rw [HX (tk := l), BN]
   by_cases e : t = d <;> simp [e]
  rename_i h
  have hne : d ≠ x := fun e => by rw [TZ.2 e] at h; cases h
  rw [BN, BN, HX (tk := l)]
  by_cases e : t = x
  ·subst e; simp [Ne.symm hne]
  simp [e]
theorem Lk {pv : LQ} {pe : Pe} {tk : List Nat} {ex : Option D6} {d : Nat} {cs : List V} : P9 ((d, cs) :: pv) pe tk ex = H9 (P9 pv pe tk ex) (.inl d) cs := by
 funext t
 cases t with
 | inl t =>
  simp only [P9, H9, Tw, Pk.inl.injEq]
 | inr x => simp [P9, H9]
 | tk x => simp [P9, H9]
 | ex => simp [P9, H9]
theorem UP {pv : LQ} {tk : List Nat} {ex : Option D6} {ds id : Nat} {cs cs' : List V} : P9 pv (some (ds, id, cs')) tk ex = H9 (P9 pv (some (ds, id, cs)) tk ex) (.inr id) cs' := by
 funext t
 cases t with
 | inl t => simp [P9, H9]
 | inr x =>
  simp only [P9, H9, Pk.inr.injEq]
  by_cases h : x = id <;> simp [h]
 | tk x => simp [P9, H9]
 | ex => simp [P9, H9]
theorem UQ {pv : LQ} {pe : Pe} {tk : List Nat} {ex : Option D6} {d : Nat} : P9 pv pe (d :: tk) none = H9 (P4 (P9 pv pe tk ex) (some .ex)) (.tk d) [] := by
 funext t
 cases t with
 | inl t => rw [D8 (by simp), J5 (by simp)]; rfl
 | inr x => rw [D8 (by simp), J5 (by simp)]; rfl
 | ex => rw [D8 (by simp)]; simp [P9, P4]
 | tk x =>
  by_cases h : x = d
  ·subst h
   have : Eg (x :: tk) x = true := by rw [BN]; simp
   simp [P9, H9, this]
  rw [D8 (fun e => by cases e; exact h rfl), J5 (by simp)]
  have e1 : Eg (d :: tk) x = Eg tk x := by rw [BN]; simp [h]
  simp only [P9, e1]
theorem UO {pv : LQ} {pe : Pe} {tk : List Nat} {ex : Option D6} {d : Nat} {src : Option Nat} : P9 pv pe (d :: IG src tk) ex = H9 (P4 (P9 pv pe tk ex) (src.map .tk)) (.tk d) [] := by
 funext t
 cases t with
 | inl t => rw [D8 (by simp), J5 (by cases src <;> simp)]; rfl
 | inr x => rw [D8 (by simp), J5 (by cases src <;> simp)]; rfl
 | ex => rw [D8 (by simp), J5 (by cases src <;> simp)]; rfl
 | tk x =>
  by_cases h : x = d
  ·subst h
   have : Eg (x :: IG src tk) x = true := by rw [BN]; simp
   simp [P9, H9, this]
  rw [D8 (fun e => by cases e; exact h rfl)]
  have e1 : Eg (d :: IG src tk) x = Eg (IG src tk) x := by rw [BN]; simp [h]
  cases src with
  | none => simp only [P9, e1]; rfl
  | some c =>
   have e2 : Eg (IG (some c) tk) x = (!decide (x = c) && Eg tk x) := HX;simp only [P9, P4, e1, e2, Option.map_some, Pk.tk.injEq]
   by_cases hc : x = c <;> simp [hc]
theorem RG {pv : LQ} {pe : Pe} {tk : List Nat} {ex : Option D6} {d : Option Tmp} (h : Px pv d = true) (h2 : Pd tk d = true) : M0 (P9 pv pe tk ex) d := by
 cases d with
 | none => trivial
 | some d =>
  simp only [Px] at h
  simp only [Pd, Bool.not_eq_true'] at h2
  simp only [M0, P9, h2, and_true]
  split at h
  ·assumption
  cases h
theorem Uu {l : Fl} {pv : LQ} {pe : Pe} {tk : List Nat} {ex : Option D6} {sx : Operand} {tl : D6} {src : Option Nat} (h : Wi tk sx tl = some src) : IS (P9 pv pe tk ex) sx tl (src.map .tk) := by
 unfold Wi at h
 split at h
 ·cases h; exact .inl rfl
 ·cases h; exact .inr rfl
 ·split at h
  ·rename_i d
   split at h
   ·rename_i hd;cases h;exact ⟨rfl, rfl, by simp [P9, hd]⟩
   cases h
  cases h
 cases h
theorem Ss {l : Fl} {pv : LQ} {pe : Pe} {tk : List Nat} {x : Bool} {ex : Option D6} {sx : Operand} {tl : D6} {k : Option Nat → Option D6 → Prop} (h : Su (E6 P nt rd) x ex tk sx tl k) :
 ∃ key, IS (P9 pv pe tk ex) sx tl key ∧ ∃ src ex', k src ex' ∧ (ex = none → ex' = none) ∧ ∀ d, P9 pv pe (d :: IG src tk) ex' = H9 (P4 (P9 pv pe tk ex) key) (.tk d) [] := by
 unfold Su at h
 split at h
 ·split at h
  ·obtain ⟨e, h⟩ := h;subst e;exact ⟨some .ex, rfl, none, none, h, fun _ => rfl, fun d => UQ⟩
  exact h.elim
 split at h
 ·rename_i s hs;exact ⟨_, Uu (l := l) hs, s, ex, h, id, fun d => UO⟩
 exact h.elim
theorem Nd (hT : EX P T) {x : Bool} {ex : Option D6} {o : Oper} {l : Fl} {pv : LQ} {pe : Pe} {tk : List Nat} {k : Nat → Option Nat → Option D6 → V → Prop} (h : Sw (E6 P nt rd) T x ex o l tk k) : ∃ dd key v, o.dst = some dd ∧ XE P o (D9 ⟨l, df⟩) (P9 pv pe tk ex) key v ∧ ∃ src ex', k dd src ex' v ∧ (ex = none → ex' = none) ∧ P9 pv pe (dd :: IG src tk) ex' = H9 (P4 (P9 pv pe tk ex) key) (.tk dd) [] := by
 unfold Sw at h
 split at h
 ·rename_i sx sy sT yT dd ho hdst hg
  split at h
  ·rename_i xs tlx ys tly e1 e2
   rw [Bk (l := l) (df := df) EY.nil] at e1 e2
   obtain ⟨key, hs, src, ex', h, hen, hpe⟩ := Ss (l := l) (pv := pv) (pe := pe) h
   split at h
   ·rename_i I I2 hI hI2
    split at h
    ·rename_i e e2' he he2
     split at h
     ·rename_i J hJ
      split at h
      ·rename_i z hz
       have ez := (D4 hT hJ).ze; rw [hz] at ez; simp only [X0] at ez
       split at h
       ·rename_i hc;obtain ⟨c1, c2, c3, c4⟩ := hc;obtain ⟨xs', ys', l1, l2, k1, k2, k3, k4⟩ := h;exact ⟨dd, key, _, hdst, ⟨hg, sx, sy, sT, yT, xs, tlx, ys, tly, xs', ys', ho, e1, e2, hs, ⟨e, J.sz, J.by_, z, (D4 hT hI).sl.trans he, by rw [(D4 hT hI2).sl, he2]; rfl, (D4 hT hJ).sz, c1, (D4 hT hJ).by_, c2, ez, c3, c4, l1, l2, k1, k2, k3⟩, rfl⟩, src, ex', k4, hen, hpe dd⟩
       exact h.elim
      exact h.elim
     exact h.elim
    exact h.elim
   exact h.elim
  exact h.elim
 exact h.elim
theorem De {ops : Array Oper} {H : A0} {K K' : Fr → Pv → Prop} (hk : ∀ fr pv, K fr pv → K' fr pv) : ∀ (l : List Oper) (fr : Fr) (pv : Pv), Ej P nt ops H l fr pv K → Ej P nt ops H l fr pv K'
 | [], _, _, h => hk _ _ h
 | _ :: l, _, _, h => Km h fun fr pv h => De hk l fr pv h
theorem X4 (hT : EX P T) {ads : List Nat} {ops : Array Oper} {H : A0} {K : Fl → LQ → Pe → List Nat → Prop} : ∀ (rest : List Oper) (l : Fl) (pv : LQ) (pe : Pe) (tk : List Nat) (ex : Option D6), SA (E6 P nt rd) T nt A ads ops rest l pv pe tk ex H K →
 Ej P nt ops H rest (D9 ⟨l, df⟩) (P9 pv pe tk ex) fun fr pv' => ∃ l' pl pe' tk' ex', fr = D9 ⟨l', df⟩ ∧ pv' = P9 pl pe' tk' ex' ∧ (ex = none → ex' = none) ∧ pe'.map (fun p => p.2.1) = pe.map (fun p => p.2.1) ∧ K l' pl pe' tk'
 | [], l, pv, pe, tk, ex, h => ⟨l, pv, pe, tk, ex, rfl, rfl, id, rfl, h⟩
 | o :: rest, l, pv, pe, tk, ex, h => by
  unfold SA at h
  split at h
  ·rename_i hd hf hft;simp only [Ej];unfold FH;refine ⟨⟨hd, RG hf hft⟩, ?_⟩
   split at h
   ·obtain ⟨dd, key, v, hdst, hP, src, ex2, h, hen, hpe⟩ := Nd (df := df) (pv := pv) (pe := pe) hT h;refine ⟨v, _, .inr (.inr (.inr ⟨dd, key, hdst, hP, rfl⟩)), ?_⟩;have := X4 hT rest _ _ _ _ _ h
    rw [hpe, show (dd, Sl.v v) :: l = Aw (some dd) (.v v) l from rfl, G9] at this
    rw [hdst]; exact De (fun fr pv ⟨l', pl, pe', tk', ex', e1, e2, e3, h⟩ => ⟨l', pl, pe', tk', ex', e1, e2, fun he => e3 (hen he), h⟩) _ _ _ this
   split at h
   ·rename_i t ho
    split at h
    ·rename_i d I hg hdst hI
     split at h
     ·rename_i z hz
      have ez := (D4 hT hI).ze; rw [hz] at ez; simp only [X0] at ez
      split at h
      ·rename_i h1;refine ⟨.bad, _, .inr (.inl ⟨t, z, d, ho, hg, hdst, ez, h1, rfl, rfl⟩), ?_⟩;have := X4 hT rest _ _ _ _ _ h
       rw [Lk, show (d, Sl.v V.bad) :: l = Aw (some d) (.v .bad) l from rfl, G9] at this
       rw [hdst]; exact this
      exact h.elim
     exact h.elim
    exact h.elim
   ·rename_i t d y ho
    split at h
    ·rename_i I hg hI;have hev := Bk (l := l) (df := df) EY.nil y
     split at h
     ·rename_i cs hcs
      split at h
      ·rename_i hc;obtain ⟨c1, c2, c3⟩ := hc
       rw [hev] at c1 c2 h
       refine ⟨.bad, _, .inr (.inr (.inl ⟨t, d, y, .inl d, 0, cs, ho, hg, .inl ⟨rfl, rfl, hcs⟩, c1, by rw [c2]; exact (D4 hT hI).sz, by rw [c2]; omega, rfl, rfl⟩)), ?_⟩;have := X4 hT rest _ _ _ _ _ h
       rw [Lk, G9] at this
       exact this
      exact h.elim
     rename_i hcs
     split at h
     ·rename_i id off ds id' cs _ hop
      split at h
      ·rename_i hc;obtain ⟨c1, c2, c3⟩ := hc;obtain ⟨he, h⟩ := h;subst he
       rw [hev] at c1 c2 h
       have hd : (D9 ⟨l, df⟩).s d = .ref id off := (Fo EY.nil hop).1.symm;refine ⟨.bad, _, .inr (.inr (.inl ⟨t, d, y, .inr id, off, cs, ho, hg, .inr ⟨id, rfl, hd, hcs, by simp [P9]⟩, c1, by rw [c2]; exact (D4 hT hI).sz, by rw [c2]; exact c3, rfl, rfl⟩)), ?_⟩;have := X4 hT rest _ _ _ _ _ h
       rw [UP (cs := cs), G9] at this
       exact this
      exact h.elim
     exact h.elim
    exact h.elim
   ·exact h.elim
   rename_i n1 n2 n3
   have key : ∃ v, IM P ops H o (D9 ⟨l, df⟩) v ∧ Ej P nt ops H rest ((D9 ⟨l, df⟩).put o.dst v) (P9 pv pe tk ex) fun fr pv' => ∃ l' pl pe' tk' ex', fr = D9 ⟨l', df⟩ ∧ pv' = P9 pl pe' tk' ex' ∧ (ex = none → ex' = none) ∧ pe'.map (fun p => p.2.1) = pe.map (fun p => p.2.1) ∧ K l' pl pe' tk' := by
    obtain ⟨l', e, h⟩ := AZ (df := df) 4 l h
    have e : D9 ⟨l', df⟩ = D9 ⟨l, df⟩ := by simp only [D9, Fr.mk.injEq, and_true]; funext t; exact e t
    rcases h with ⟨hg, G, wr, hG, hwr, h⟩ | ⟨hg, h⟩
    ·obtain ⟨s, h1, h2⟩ := Rd (df := df) hT hG h;refine ⟨s.V, by simp only [IM, hg]; rw [← e]; exact h1, ?_⟩;have := X4 hT rest _ _ _ _ _ h2
     rw [G9, hwr s, e] at this
     exact this
    refine ⟨.tup [], by simp only [IM, hg], ?_⟩
    rcases h with h | ⟨G, d, want, ht, hb, h⟩
    ·have := X4 hT rest _ _ _ _ _ h
     rw [G9, e] at this
     exact this
    obtain ⟨s, h⟩ := Uv hT ht h;have := X4 hT rest _ _ _ _ _ h
    rw [G9, e] at this
    simp only [Sp, hb, cond_false] at this
    exact this
   obtain ⟨v, h1, h2⟩ := key;refine ⟨v, _, .inl ⟨?_, ?_, h1, rfl⟩, h2⟩
   ·cases hx : o.op <;> first | rfl | exact absurd hx (n1 _)
   cases hx : o.op <;> first | rfl | exact absurd hx (n3 _ _ _)
  exact h.elim
theorem Es {pe : Pe} {tk : List Nat} {ex : Option D6} {K : Fl → A0 → Prop} : ∀ (ds : List Nat) (pv : LQ) (l : Fl) (H : A0), Gt (E6 P nt rd) A ds pv l H K → Ef A ds (P9 pv pe tk ex) (D9 ⟨l, df⟩) H fun fr H' => ∃ l', fr = D9 ⟨l', df⟩ ∧ K l' H'
 | [], pv, l, H, h => ⟨l, rfl, h⟩
 | d :: ds, pv, l, H, h => by
  unfold Gt at h
  simp only [Ef]
  split at h
  ·rename_i cs hcs;have hcs' : P9 pv pe tk ex (.inl d) = some cs := hcs;rw [hcs']
   simp only
   split at h
   ·rename_i hA;rw [if_pos hA];intro id hid;have := Es (pe := pe) (tk := tk) (ex := ex) ds pv _ _ (h id hid)
    rw [show (d, Sl.v (V.ref id 0)) :: l = Aw (some d) (.v (.ref id 0)) l from rfl, G9] at this
    exact this
   rename_i hA;rw [if_neg (by rw [hA]; simp)];have := Es (pe := pe) (tk := tk) (ex := ex) ds pv _ _ h
   rw [show (d, Sl.v (V.eref cs 0)) :: l = Aw (some d) (.v (.eref cs 0)) l from rfl, G9] at this
   exact this
  exact h.elim
theorem GE {A : Nat → Bool} {K K' : Fr → A0 → Prop} (hk : ∀ fr H, K fr H → K' fr H) : ∀ (ds : List Nat) (pv : Pv) (fr : Fr) (H : A0), Ef A ds pv fr H K → Ef A ds pv fr H K'
 | [], _, _, _, h => hk _ _ h
 | d :: ds, pv, fr, H, h => by
  simp only [Ef] at h ⊢
  split at h
  ·split at h
   ·rename_i hA; rw [if_pos hA]; exact fun id hid => GE hk ds _ _ _ (h id hid)
   rename_i hA; rw [if_neg hA]; exact GE hk ds _ _ _ h
  exact h.elim
theorem Fs0 {ops : Array Oper} {K K' : Fr → A0 → Prop} (hk : ∀ fr H, K fr H → K' fr H) : ∀ (l : List Oper) (fr : Fr) (H : A0), DM P A nt ops l fr H K → DM P A nt ops l fr H K'
 | [], _, _, h => hk _ _ h
 | o :: l, fr, H, h => by
  simp only [DM] at h ⊢
  refine ⟨h.1, ?_⟩;obtain ⟨_, h⟩ := h
  split at h
  ·rename_i hg; exact Fp h fun v H' h => Fs0 hk l _ _ h
  ·rename_i hg; exact Fs0 hk l _ _ h
  exact h.elim
theorem NQ {dx : Option Nat} {pv : Pv} {fr : Fr} {H : A0} {K K' : Fr → A0 → Prop} (hk : ∀ fr H, K fr H → K' fr H) (h : EB dx pv fr H K) : EB dx pv fr H K' := by
 unfold EB at h ⊢
 split at h
 ·exact hk _ _ h
 obtain ⟨xs, h1, h2, h3, h4⟩ := h;exact ⟨xs, h1, h2, fun tl htl => hk _ _ (h3 tl htl), fun t ht => hk _ _ (h4 t ht)⟩
theorem Tx {d : Nat} {x : V} : ∀ {l : Fl}, lk l d = .v x → Y3 l d = x
 | [], h => by cases h; rfl
 | (k, s) :: l, h => by
  simp only [lk] at h
  simp only [Y3]
  cases hb : Nat.beq d k with
  | true => rw [hb] at h; subst h; rfl
  | false => rw [hb] at h; exact Tx h
theorem LU {dx : Option Nat} {pl : LQ} {pe : Pe} {tk : List Nat} {ex : Option D6} {l : Fl} {H : A0} {K : Fl → A0 → Prop} (h : Jf (E6 P nt rd) dx tk l H K) : EB dx (P9 pl pe tk ex) (D9 ⟨l, df⟩) H fun fr H' => ∃ l', fr = D9 ⟨l', df⟩ ∧ K l' H' := by
 unfold Jf at h
 unfold EB
 split at h
 ·exact ⟨l, rfl, h⟩
 rename_i d
 split at h
 ·rename_i xs h1 h2;obtain ⟨h3, h4⟩ := h;refine ⟨xs, by simp [P9, h1], Tx h2, fun tl htl => ⟨_, ?_, h3 tl htl⟩, fun t ht => ⟨_, ?_, h4 t ht⟩⟩
  ·exact (G9 l (some d) (.v (.sl xs tl))).symm
  exact (G9 l (some d) (.v (.sl xs (.tok t)))).symm
 exact h.elim
theorem Re (hT : EX P T) {w : Option (Nat × List Nat)} {k : Nat} {ops : Array Oper} {l : Fl} {H : A0} {K : Fl → A0 → Prop} (hok : Ko ops k = true) (hnd : (Cj (ops.toList.take k)).Nodup)
 (h : Sz (E6 P nt rd) T nt A w k ops l H K) : W5 P nt rd ops (D9 ⟨l, df⟩) H fun e fr H' => e = .normal ∧ ∃ l', fr = D9 ⟨l', df⟩ ∧ K l' H' := by
 have rest : ∀ (l' : Fl) (pl : LQ) (pe : Pe) (tk : List Nat) (ex : Option D6) (H2 : A0), Jf (E6 P nt rd) (EF A 9000000 (ops.toList.take k)) tk l' H2 (fun l1 H3 => Gt (E6 P nt rd) A (Cj (ops.toList.take k)) pl l1 H3 fun l'' H' => Ik (E6 P nt rd) T nt A ops (ops.toList.drop k) l'' H' K) →
  EB (EF A 9000000 (ops.toList.take k)) (P9 pl pe tk ex) (D9 ⟨l', df⟩) H2 fun fr1 H3 => Ef A (Cj (ops.toList.take k)) (P9 pl pe tk ex) fr1 H3 fun fr H' => DM P A nt ops (ops.toList.drop k) fr H' fun fr H' => .normal = Exit.normal ∧ ∃ l', fr = D9 ⟨l', df⟩ ∧ K l' H' := fun l' pl pe tk ex H2 h => by
  refine NQ (fun fr1 H3 ⟨l1, e1, h⟩ => ?_) (LU (df := df) (pl := pl) (pe := pe) (ex := ex) h);subst e1;refine GE (fun fr H' ⟨l'', e1, h⟩ => ?_) _ _ _ _ (Es (df := df) (pe := pe) (tk := tk) (ex := ex) _ _ _ _ h);subst e1;exact Fs0 (fun fr H' ⟨l', e, hk⟩ => ⟨rfl, l', e, hk⟩) _ _ _ (BZ (df := df) hT _ _ _ h)
 unfold Sz at h
 obtain ⟨ex, hX, h⟩ : ∃ ex, (∀ τ, ex = some τ → DE H τ) ∧ Sr (E6 P nt rd) w l (EM H ex) fun ads pe H1 => SA (E6 P nt rd) T nt A ads ops (ops.toList.take k) l [] pe [] ex H1 fun l' pv pe' tk => VS (E6 P nt rd) pe' H1 fun H2 => Jf (E6 P nt rd) (EF A 9000000 (ops.toList.take k)) tk l' H2 fun l1 H3 => Gt (E6 P nt rd) A (Cj (ops.toList.take k)) pv l1 H3 fun l'' H' => Ik (E6 P nt rd) T nt A ops (ops.toList.drop k) l'' H' K := by
  unfold Sq at h
  split at h
  ·exact ⟨none, fun _ h => (by cases h), h⟩
  obtain ⟨τ, h1, h2⟩ := h;exact ⟨some τ, fun _ h => (by cases h; exact h1), h2⟩
 unfold Sr at h
 cases w with
 | none =>
  refine W5.drawF (A := A) (W := []) (dx := EF A 9000000 (ops.toList.take k)) hok hnd hX (fun p hp => by simp at hp) ?_
  have e0 : Ws [] ex = P9 [] none [] ex := by funext x; cases x <;> rfl
  rw [e0];refine De (fun fr pv ⟨l', pl, pe', tk', ex', e1, e2, _, e3, h⟩ => ?_) _ _ _ (X4 (df := df) hT _ _ _ _ _ _ h);subst e1; subst e2
  cases pe' with
  | some p => cases e3
  | none => exact rest _ _ _ _ _ _ h
 | some p =>
  obtain ⟨d, ads⟩ := p
  simp only at h
  split at h
  ·rename_i bid hl;obtain ⟨cs, hk, h⟩ := h;refine W5.drawF (A := A) (W := [(bid, cs)]) (dx := EF A 9000000 (ops.toList.take k)) hok hnd hX (fun p hp => by simp at hp; subst hp; exact hk) ?_
   have e0 : Ws [(bid, cs)] ex = P9 [] (some (d, bid, cs)) [] ex := by
    funext x
    cases x with
    | inl x => rfl
    | inr x =>
     simp only [Ws, P9, List.find?]
     by_cases hx : x = bid
     ·subst hx; simp
     have : (bid == x) = false := by simpa using fun e => hx e.symm
     simp [this, hx]
    | tk x => rfl
    | ex => rfl
   rw [e0];refine De (fun fr pv ⟨l', pl, pe', tk', ex', e1, e2, _, e3, h⟩ => ?_) _ _ _ (X4 (df := df) hT _ _ _ _ _ _ h);subst e1; subst e2
   cases pe' with
   | none => cases e3
   | some q =>
    obtain ⟨d', id', cs'⟩ := q
    simp only [Option.map_some, Option.some.injEq] at e3
    subst e3
    have hp : P9 pl (some (d', id', cs')) tk' ex' (.inr id') = some cs' := by simp [P9]
    unfold LA;rw [hp];exact rest _ _ (some (d', id', cs')) _ _ _ h
  exact h.elim
end
end Go.Ab
