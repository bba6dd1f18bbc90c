/- AbD2 -/
import Derived.Test.YtildiiggamckaaaGreatDoorT18
set_option linter.all false
namespace Go.Ab
open Go.RowKit
variable [G5] [Ar]
def DM : List Nat → Nat → Bool
 | [], _ => false
 | x :: l, n => match Nat.beq n x with | true => true | false => DM l n
abbrev Lk := List (Nat × List V)
def UM : Lk → Nat → Option (List V)
 | [], _ => none
 | (k, x) :: l, t => match Nat.beq t k with | true => some x | false => UM l t
section
variable (E : Cz) (T : CW) (nt : Nat) (A : Nat → Bool)
def VM (G : List (Nat × Bool)) (o : Oper) (l : Fl) (H : A0) (k : Sl → Prop) : Prop :=
 match o.op with
 | .call c =>
  (match c.callee with
   | .value x => E.pcall H (J8 G l x).V (c.args.toList.map fun x => (J8 G l x).V) fun v => k (.v v)
   | _ => xq E T G o l H k)
 | _ => xq E T G o l H k
def Ox (pv : Lk) (d : Option Tmp) : Bool :=
 match d with
 | some d => (match UM pv d with | none => true | some _ => false)
 | none => true
abbrev Pe := Option (Nat × Nat × List V)
def Oe (tk : List Nat) (d : Option Tmp) : Bool :=
 match d with
 | some d => !DM tk d
 | none => true
def Le : List Nat → Nat → List Nat
 | [], _ => []
 | x :: l, n => match Nat.beq n x with | true => Le l n | false => x :: Le l n
def Id (s : Option Nat) (tk : List Nat) : List Nat :=
 match s with
 | some d => Le tk d
 | none => tk
def UT (tk : List Nat) (sx : Operand) (tl : D4) : Option (Option Nat) :=
 match tl with
 | .nil => some none
 | .full => some none
 | .ro => (match sx with | .tmp d => (match DM tk d with | true => some (some d) | false => none) | _ => none)
 | _ => none
def Rk (x : Bool) (ex : Option D4) (tk : List Nat) (sx : Operand) (tl : D4) (k : Option Nat → Option D4 → Prop) : Prop :=
 match x with
 | true => (match ex with | some τ => E.need (tl = τ) fun _ => k none none | none => False)
 | false => (match UT tk sx tl with | some s => k s ex | none => False)
def Ef (A : Nat → Bool) (n : Nat) : List Oper → Option Nat
 | [] => none
 | o :: l => match o.dst with | some d => (match A (d + n) with | true => some d | false => Ef A n l) | none => Ef A n l
def Rn (x : Bool) (ex : Option D4) (o : Oper) (l : Fl) (tk : List Nat) (k : Nat → Option Nat → Option D4 → V → Prop) : Prop :=
 match o.op, o.dst, o.guard with
 | .call { callee := .builtin .append, args := ⟨[sx, sy]⟩, argTypes := ⟨[sT, yT]⟩ }, some dd, none =>
  (match (J8 [] l sx).V, (J8 [] l sy).V with
   | .sl xs tlx, .sl ys _ =>
    Rk E x ex tk sx tlx fun src ex' =>
     (match tg T sT, tg T yT with
      | some I, some I2 =>
       (match I.sl, I2.sl with
        | some e, some _ =>
         (match tg T e with
          | some J =>
           (match J.ze with
            | some z => if 0 < J.sz ∧ 0 < J.by_ ∧ z.one = true ∧ z.cells.length = J.sz then E.appq J.sz J.by_ xs ys fun v => k dd src ex' v else False
            | none => False)
          | none => False)
        | _, _ => False)
      | _, _ => False)
   | _, _ => False)
 | _, _, _ => False
def Rr (ads : List Nat) (ops : Array Oper) : List Oper → Fl → Lk → Pe → List Nat → Option D4 → A0 → (Fl → Lk → Pe → List Nat → Prop) → Prop
 | [], l, pv, pe, tk, _, _, K => K l pv pe tk
 | o :: rest, l, pv, pe, tk, ex, H, K =>
  match Cj nt o.dst, Ox pv o.dst, Oe tk o.dst with
  | true, true, true =>
   (match A (o.dst.getD 0 + 3000000) with
    | true => Rn E T (A (o.dst.getD 0 + 8000000)) ex o l tk fun dd src ex' v => Rr ads ops rest ((dd, .v v) :: l) pv pe (dd :: Id src tk) ex' H K
    | false =>
     (match o.op with
      | .alloc t =>
       (match o.guard, o.dst, tg T t with
        | none, some d, some I =>
         (match I.ze with
          | some z => (match z.one with | true => Rr ads ops rest ((d, .v .bad) :: l) ((d, z.cells) :: pv) pe tk ex H K | false => False)
          | none => False)
        | _, _, _ => False)
      | .store t (.tmp d) y =>
       (match o.guard, tg T t with
        | none, some I =>
         (match UM pv d with
          | some cs => if (J8 [] l y).V.one = true ∧ (J8 [] l y).V.cells.length = I.sz ∧ I.sz ≤ cs.length then Rr ads ops rest (Ai o.dst (.v .bad) l) ((d, K6 cs 0 (J8 [] l y).V.cells) :: pv) pe tk ex H K else False
          | none =>
           (match DM ads d, MV [] l d, pe with
            | true, some (.v (.ref id off)), some (ds, id', cs) =>
             if (J8 [] l y).V.one = true ∧ (J8 [] l y).V.cells.length = I.sz ∧ off + I.sz ≤ cs.length then E.need (id = id') fun _ => Rr ads ops rest (Ai o.dst (.v .bad) l) pv (some (ds, id', K6 cs off (J8 [] l y).V.cells)) tk ex H K else False
            | _, _, _ => False))
        | _, _ => False)
      | .store _ _ _ => False
      | _ => CA E ops o 4 l (fun G l' wr => VM E T G o l' H fun s => Rr ads ops rest (Ai o.dst (wr s) l') pv pe tk ex H K) fun l' => Rr ads ops rest (Ai o.dst (.v (.tup [])) l') pv pe tk ex H K))
  | _, _, _ => False
def FT : List Nat → Lk → Fl → A0 → (Fl → A0 → Prop) → Prop
 | [], _, l, H, K => K l H
 | d :: ds, pv, l, H, K =>
  match UM pv d with
  | some cs => (match A d with | true => E.alloc H cs fun id H' => FT ds pv ((d, .v (.ref id 0)) :: l) H' K | false => FT ds pv ((d, .v (.eref cs 0)) :: l) H K)
  | none => False
def IF (dx : Option Nat) (tk : List Nat) (l : Fl) (H : A0) (K : Fl → A0 → Prop) : Prop :=
 match dx with
 | none => K l H
 | some d => (match DM tk d, lk l d with | true, .v (.sl xs .ro) => E.nameT H fun tl H' => K ((d, .v (.sl xs tl)) :: l) H' | _, _ => False)
def HL (ops : Array Oper) : List Oper → Fl → A0 → (Fl → A0 → Prop) → Prop
 | [], l, H, K => K l H
 | o :: rest, l, H, K =>
  match Cj nt o.dst with
  | true => CA E ops o 4 l (fun G l' wr => Ro E T A G o l' H fun s H' => HL ops rest (Ai o.dst (wr s) l') H' K) fun l' => HL ops rest (Ai o.dst (.v (.tup [])) l') H K
  | false => False
def BU : List Oper → List Nat
 | [] => []
 | o :: l => match o.op, o.dst with | .alloc _, some d => d :: BU l | _, _ => BU l
def UD (pe : Pe) (H : A0) (K : A0 → Prop) : Prop :=
 match pe with
 | some (_, id, cs) => E.give H id cs K
 | none => K H
def Ri (w : Option (Nat × List Nat)) (l : Fl) (H : A0) (K : List Nat → Pe → A0 → Prop) : Prop :=
 match w with
 | none => K [] none H
 | some (d, ads) => (match lk l d with | .v (.ref id 0) => E.frz H id fun cs H' => K ads (some (d, id, cs)) H' | _ => False)
def Rh (x : Option Nat) (H : A0) (K : Option D4 → A0 → Prop) : Prop :=
 match x with
 | none => K none H
 | some _ => E.takeT H fun τ H' => K (some τ) H'
def Rq (w : Option (Nat × List Nat)) (k : Nat) (ops : Array Oper) (l : Fl) (H : A0) (K : Fl → A0 → Prop) : Prop :=
 Rh E (Ef A 8000000 (ops.toList.take k)) H fun ex H0 => Ri E w l H0 fun ads pe H1 => Rr E T nt A ads ops (ops.toList.take k) l [] pe [] ex H1 fun l' pv pe' tk => UD E pe' H1 fun H2 => IF E (Ef A 9000000 (ops.toList.take k)) tk l' H2 fun l1 H3 => FT E A (BU (ops.toList.take k)) pv l1 H3 fun l'' H' => HL E T nt A ops (ops.toList.drop k) l'' H' K
end
section
variable {P : Program} {nt : Nat} {rd : Option Nat} {T : CW} {A : Nat → Bool} {df : List Nat}
theorem Qc (hT : EC P T) {G : List (Nat × Bool)} {o : Oper} {l : Fl} (hG : ED G l) {H : A0} {k : Sl → Prop} (h : VM (E4 P nt rd) T G o l H k) : ∃ s : Sl, Ge P o (ev (D8 ⟨l, df⟩)) H s.V ∧ k s := by
 unfold VM at h
 split at h
 ·rename_i c ho
  split at h
  ·rename_i x hc;obtain ⟨v, h1, h2⟩ := h
   rw [Bb (df := df) hG, show (c.args.toList.map fun x => (J8 G l x).V) = c.args.toList.map (ev (D8 ⟨l, df⟩)) from List.map_congr_left fun p _ => Bb hG p] at h1
   exact ⟨.v v, by simp only [Ge, ho, hc]; exact h1, h2⟩
  exact Gy hT hG h
 exact Gy hT hG h
theorem Tf (hT : EC P T) {G : List (Nat × Bool)} {o : Oper} {l : Fl} {H : A0} {k : Sl → Prop} (ht : EY G o l = true) (h : VM (E4 P nt rd) T G o l H k) : ∃ s, k s := by
 unfold VM at h
 split at h
 ·rename_i c ho
  split at h
  ·obtain ⟨v, h1, h2⟩ := h;exact ⟨_, h2⟩
  exact NV hT ht h
 exact NV hT ht h
theorem BL (hT : EC P T) {ops : Array Oper} {K : Fl → A0 → Prop} : ∀ (rest : List Oper) (l : Fl) (H : A0), HL (E4 P nt rd) T nt A ops rest l H K → Dq P A nt ops rest (D8 ⟨l, df⟩) H fun fr H' => ∃ l', fr = D8 ⟨l', df⟩ ∧ K l' H'
 | [], l, H, h => ⟨l, rfl, h⟩
 | o :: rest, l, H, h => by
  unfold HL at h
  split at h
  ·rename_i hd;simp only [Dq];refine ⟨hd, ?_⟩;obtain ⟨l', e, h⟩ := AR (df := df) 4 l h
   have e : D8 ⟨l', df⟩ = D8 ⟨l, df⟩ := by simp only [D8, Fr.mk.injEq, and_true]; funext t; exact e t
   rcases h with ⟨hg, G, wr, hG, hwr, h⟩ | ⟨hg, h⟩
   ·rw [hg];rw [← e];refine ES (Hh (df := df) hT hG h) fun v H' ⟨s, hv, hk⟩ => ?_;subst hv;rw [← hwr s, ← G7];exact BL hT rest _ _ hk
   rw [hg];rw [← e]
   rcases h with h | ⟨G, d, want, ht, hb, h⟩
   ·have := BL hT rest _ _ h
    rw [G7] at this
    exact this
   obtain ⟨s, h⟩ := Ln hT ht h;have := BL hT rest _ _ h
   rw [G7] at this
   simp only [Rf, hb, cond_false] at this
   exact this
  exact h.elim
def P5 (pv : Lk) (pe : Pe) (tk : List Nat) (ex : Option D4) : Pv
 | .inl d => UM pv d
 | .inr x => (match pe with | some (_, id, cs) => if x = id then some cs else none | none => none)
 | .tk d => (match DM tk d with | true => some [] | false => none)
 | .ex => ex.map fun τ => [.sl [] τ]
theorem SL {a b : Nat} : Nat.beq a b = true ↔ a = b := ⟨Nat.eq_of_beq_eq_true, fun h => by subst h; exact Nat.beq_refl _⟩
theorem Sj {pv : Lk} {d t : Nat} {cs : List V} : UM ((d, cs) :: pv) t = if t = d then some cs else UM pv t := by
 simp only [UM]
 by_cases h : t = d
 ·subst h; simp [Nat.beq_refl]
 have : Nat.beq t d = false := by
  cases hb : Nat.beq t d with
  | false => rfl
  | true => exact absurd (Nat.eq_of_beq_eq_true hb) h
 simp [this, h]
theorem Bx {tk : List Nat} {d t : Nat} : DM (d :: tk) t = (decide (t = d) || DM tk t) := by
 simp only [DM]
 by_cases h : t = d
 ·subst h; simp [Nat.beq_refl]
 have : Nat.beq t d = false := by
  cases hb : Nat.beq t d with
  | false => rfl
  | true => exact absurd (Nat.eq_of_beq_eq_true hb) h
 simp [this, h]
theorem HA {d t : Nat} : ∀ {tk : List Nat}, DM (Le tk d) t = (!decide (t = d) && DM tk t)
 | [] => by simp [Le, DM]
 | x :: l => by
  simp only [Le]
  split
  ·rename_i h;have := SL.1 h;subst this;rw [HA (tk := l), Bx]
   by_cases e : t = d <;> simp [e]
  rename_i h
  have hne : d ≠ x := fun e => by rw [SL.2 e] at h; cases h
  rw [Bx, Bx, HA (tk := l)]
  by_cases e : t = x
  ·subst e; simp [Ne.symm hne]
  simp [e]
theorem KK {pv : Lk} {pe : Pe} {tk : List Nat} {ex : Option D4} {d : Nat} {cs : List V} : P5 ((d, cs) :: pv) pe tk ex = H8 (P5 pv pe tk ex) (.inl d) cs := by
 funext t
 cases t with
 | inl t =>
  simp only [P5, H8, Sj, Pk.inl.injEq]
 | inr x => simp [P5, H8]
 | tk x => simp [P5, H8]
 | ex => simp [P5, H8]
theorem TA {pv : Lk} {tk : List Nat} {ex : Option D4} {ds id : Nat} {cs cs' : List V} : P5 pv (some (ds, id, cs')) tk ex = H8 (P5 pv (some (ds, id, cs)) tk ex) (.inr id) cs' := by
 funext t
 cases t with
 | inl t => simp [P5, H8]
 | inr x =>
  simp only [P5, H8, Pk.inr.injEq]
  by_cases h : x = id <;> simp [h]
 | tk x => simp [P5, H8]
 | ex => simp [P5, H8]
theorem TB {pv : Lk} {pe : Pe} {tk : List Nat} {ex : Option D4} {d : Nat} : P5 pv pe (d :: tk) none = H8 (P0 (P5 pv pe tk ex) (some .ex)) (.tk d) [] := by
 funext t
 cases t with
 | inl t => rw [D7 (by simp), J3 (by simp)]; rfl
 | inr x => rw [D7 (by simp), J3 (by simp)]; rfl
 | ex => rw [D7 (by simp)]; simp [P5, P0]
 | tk x =>
  by_cases h : x = d
  ·subst h
   have : DM (x :: tk) x = true := by rw [Bx]; simp
   simp [P5, H8, this]
  rw [D7 (fun e => by cases e; exact h rfl), J3 (by simp)]
  have e1 : DM (d :: tk) x = DM tk x := by rw [Bx]; simp [h]
  simp only [P5, e1]
theorem Tz {pv : Lk} {pe : Pe} {tk : List Nat} {ex : Option D4} {d : Nat} {src : Option Nat} : P5 pv pe (d :: Id src tk) ex = H8 (P0 (P5 pv pe tk ex) (src.map .tk)) (.tk d) [] := by
 funext t
 cases t with
 | inl t => rw [D7 (by simp), J3 (by cases src <;> simp)]; rfl
 | inr x => rw [D7 (by simp), J3 (by cases src <;> simp)]; rfl
 | ex => rw [D7 (by simp), J3 (by cases src <;> simp)]; rfl
 | tk x =>
  by_cases h : x = d
  ·subst h
   have : DM (x :: Id src tk) x = true := by rw [Bx]; simp
   simp [P5, H8, this]
  rw [D7 (fun e => by cases e; exact h rfl)]
  have e1 : DM (d :: Id src tk) x = DM (Id src tk) x := by rw [Bx]; simp [h]
  cases src with
  | none => simp only [P5, e1]; rfl
  | some c =>
   have e2 : DM (Id (some c) tk) x = (!decide (x = c) && DM tk x) := HA;simp only [P5, P0, e1, e2, Option.map_some, Pk.tk.injEq]
   by_cases hc : x = c <;> simp [hc]
theorem QA {pv : Lk} {pe : Pe} {tk : List Nat} {ex : Option D4} {d : Option Tmp} (h : Ox pv d = true) (h2 : Oe tk d = true) : L7 (P5 pv pe tk ex) d := by
 cases d with
 | none => trivial
 | some d =>
  simp only [Ox] at h
  simp only [Oe, Bool.not_eq_true'] at h2
  simp only [L7, P5, h2, and_true]
  split at h
  ·assumption
  cases h
theorem Te {l : Fl} {pv : Lk} {pe : Pe} {tk : List Nat} {ex : Option D4} {sx : Operand} {tl : D4} {src : Option Nat} (h : UT tk sx tl = some src) : Iq (P5 pv pe tk ex) sx tl (src.map .tk) := by
 unfold UT at h
 split at h
 ·cases h; exact .inl rfl
 ·cases h; exact .inr rfl
 ·split at h
  ·rename_i d
   split at h
   ·rename_i hd;cases h;exact ⟨rfl, rfl, by simp [P5, hd]⟩
   cases h
  cases h
 cases h
theorem Rj {l : Fl} {pv : Lk} {pe : Pe} {tk : List Nat} {x : Bool} {ex : Option D4} {sx : Operand} {tl : D4} {k : Option Nat → Option D4 → Prop} (h : Rk (E4 P nt rd) x ex tk sx tl k) :
 ∃ key, Iq (P5 pv pe tk ex) sx tl key ∧ ∃ src ex', k src ex' ∧ (ex = none → ex' = none) ∧ ∀ d, P5 pv pe (d :: Id src tk) ex' = H8 (P0 (P5 pv pe tk ex) key) (.tk d) [] := by
 unfold Rk at h
 split at h
 ·split at h
  ·obtain ⟨e, h⟩ := h;subst e;exact ⟨some .ex, rfl, none, none, h, fun _ => rfl, fun d => TB⟩
  exact h.elim
 split at h
 ·rename_i s hs;exact ⟨_, Te (l := l) hs, s, ex, h, id, fun d => Tz⟩
 exact h.elim
theorem Mn (hT : EC P T) {x : Bool} {ex : Option D4} {o : Oper} {l : Fl} {pv : Lk} {pe : Pe} {tk : List Nat} {k : Nat → Option Nat → Option D4 → V → Prop} (h : Rn (E4 P nt rd) T x ex o l tk k) : ∃ dd key v, o.dst = some dd ∧ Wh P o (D8 ⟨l, df⟩) (P5 pv pe tk ex) key v ∧ ∃ src ex', k dd src ex' v ∧ (ex = none → ex' = none) ∧ P5 pv pe (dd :: Id src tk) ex' = H8 (P0 (P5 pv pe tk ex) key) (.tk dd) [] := by
 unfold Rn at h
 split at h
 ·rename_i sx sy sT yT dd ho hdst hg
  split at h
  ·rename_i xs tlx ys tly e1 e2
   rw [Bb (l := l) (df := df) ED.nil] at e1 e2
   obtain ⟨key, hs, src, ex', h, hen, hpe⟩ := Rj (l := l) (pv := pv) (pe := pe) h
   split at h
   ·rename_i I I2 hI hI2
    split at h
    ·rename_i e e2' he he2
     split at h
     ·rename_i J hJ
      split at h
      ·rename_i z hz
       have ez := (D2 hT hJ).ze; rw [hz] at ez; simp only [V7] at ez
       split at h
       ·rename_i hc;obtain ⟨c1, c2, c3, c4⟩ := hc;obtain ⟨xs', ys', l1, l2, k1, k2, k3, k4⟩ := h;exact ⟨dd, key, _, hdst, ⟨hg, sx, sy, sT, yT, xs, tlx, ys, tly, xs', ys', ho, e1, e2, hs, ⟨e, J.sz, J.by_, z, (D2 hT hI).sl.trans he, by rw [(D2 hT hI2).sl, he2]; rfl, (D2 hT hJ).sz, c1, (D2 hT hJ).by_, c2, ez, c3, c4, l1, l2, k1, k2, k3⟩, rfl⟩, src, ex', k4, hen, hpe dd⟩
       exact h.elim
      exact h.elim
     exact h.elim
    exact h.elim
   exact h.elim
  exact h.elim
 exact h.elim
theorem CQ {ops : Array Oper} {H : A0} {K K' : Fr → Pv → Prop} (hk : ∀ fr pv, K fr pv → K' fr pv) : ∀ (l : List Oper) (fr : Fr) (pv : Pv), DO P nt ops H l fr pv K → DO P nt ops H l fr pv K'
 | [], _, _, h => hk _ _ h
 | _ :: l, _, _, h => JK h fun fr pv h => CQ hk l fr pv h
theorem W2 (hT : EC P T) {ads : List Nat} {ops : Array Oper} {H : A0} {K : Fl → Lk → Pe → List Nat → Prop} : ∀ (rest : List Oper) (l : Fl) (pv : Lk) (pe : Pe) (tk : List Nat) (ex : Option D4), Rr (E4 P nt rd) T nt A ads ops rest l pv pe tk ex H K →
 DO P nt ops H rest (D8 ⟨l, df⟩) (P5 pv pe tk ex) fun fr pv' => ∃ l' pl pe' tk' ex', fr = D8 ⟨l', df⟩ ∧ pv' = P5 pl pe' tk' ex' ∧ (ex = none → ex' = none) ∧ pe'.map (fun p => p.2.1) = pe.map (fun p => p.2.1) ∧ K l' pl pe' tk'
 | [], l, pv, pe, tk, ex, h => ⟨l, pv, pe, tk, ex, rfl, rfl, id, rfl, h⟩
 | o :: rest, l, pv, pe, tk, ex, h => by
  unfold Rr at h
  split at h
  ·rename_i hd hf hft;simp only [DO];unfold Ff;refine ⟨⟨hd, QA hf hft⟩, ?_⟩
   split at h
   ·obtain ⟨dd, key, v, hdst, hP, src, ex2, h, hen, hpe⟩ := Mn (df := df) (pv := pv) (pe := pe) hT h;refine ⟨v, _, .inr (.inr (.inr ⟨dd, key, hdst, hP, rfl⟩)), ?_⟩;have := W2 hT rest _ _ _ _ _ h
    rw [hpe, show (dd, Sl.v v) :: l = Ai (some dd) (.v v) l from rfl, G7] at this
    rw [hdst]; exact CQ (fun fr pv ⟨l', pl, pe', tk', ex', e1, e2, e3, h⟩ => ⟨l', pl, pe', tk', ex', e1, e2, fun he => e3 (hen he), h⟩) _ _ _ this
   split at h
   ·rename_i t ho
    split at h
    ·rename_i d I hg hdst hI
     split at h
     ·rename_i z hz
      have ez := (D2 hT hI).ze; rw [hz] at ez; simp only [V7] at ez
      split at h
      ·rename_i h1;refine ⟨.bad, _, .inr (.inl ⟨t, z, d, ho, hg, hdst, ez, h1, rfl, rfl⟩), ?_⟩;have := W2 hT rest _ _ _ _ _ h
       rw [KK, show (d, Sl.v V.bad) :: l = Ai (some d) (.v .bad) l from rfl, G7] at this
       rw [hdst]; exact this
      exact h.elim
     exact h.elim
    exact h.elim
   ·rename_i t d y ho
    split at h
    ·rename_i I hg hI;have hev := Bb (l := l) (df := df) ED.nil y
     split at h
     ·rename_i cs hcs
      split at h
      ·rename_i hc;obtain ⟨c1, c2, c3⟩ := hc
       rw [hev] at c1 c2 h
       refine ⟨.bad, _, .inr (.inr (.inl ⟨t, d, y, .inl d, 0, cs, ho, hg, .inl ⟨rfl, rfl, hcs⟩, c1, by rw [c2]; exact (D2 hT hI).sz, by rw [c2]; omega, rfl, rfl⟩)), ?_⟩;have := W2 hT rest _ _ _ _ _ h
       rw [KK, G7] at this
       exact this
      exact h.elim
     rename_i hcs
     split at h
     ·rename_i id off ds id' cs _ hop
      split at h
      ·rename_i hc;obtain ⟨c1, c2, c3⟩ := hc;obtain ⟨he, h⟩ := h;subst he
       rw [hev] at c1 c2 h
       have hd : (D8 ⟨l, df⟩).s d = .ref id off := (EQ ED.nil hop).1.symm;refine ⟨.bad, _, .inr (.inr (.inl ⟨t, d, y, .inr id, off, cs, ho, hg, .inr ⟨id, rfl, hd, hcs, by simp [P5]⟩, c1, by rw [c2]; exact (D2 hT hI).sz, by rw [c2]; exact c3, rfl, rfl⟩)), ?_⟩;have := W2 hT rest _ _ _ _ _ h
       rw [TA (cs := cs), G7] at this
       exact this
      exact h.elim
     exact h.elim
    exact h.elim
   ·exact h.elim
   rename_i n1 n2 n3
   have key : ∃ v, Il P ops H o (D8 ⟨l, df⟩) v ∧ DO P nt ops H rest ((D8 ⟨l, df⟩).put o.dst v) (P5 pv pe tk ex) fun fr pv' => ∃ l' pl pe' tk' ex', fr = D8 ⟨l', df⟩ ∧ pv' = P5 pl pe' tk' ex' ∧ (ex = none → ex' = none) ∧ pe'.map (fun p => p.2.1) = pe.map (fun p => p.2.1) ∧ K l' pl pe' tk' := by
    obtain ⟨l', e, h⟩ := AR (df := df) 4 l h
    have e : D8 ⟨l', df⟩ = D8 ⟨l, df⟩ := by simp only [D8, Fr.mk.injEq, and_true]; funext t; exact e t
    rcases h with ⟨hg, G, wr, hG, hwr, h⟩ | ⟨hg, h⟩
    ·obtain ⟨s, h1, h2⟩ := Qc (df := df) hT hG h;refine ⟨s.V, by simp only [Il, hg]; rw [← e]; exact h1, ?_⟩;have := W2 hT rest _ _ _ _ _ h2
     rw [G7, hwr s, e] at this
     exact this
    refine ⟨.tup [], by simp only [Il, hg], ?_⟩
    rcases h with h | ⟨G, d, want, ht, hb, h⟩
    ·have := W2 hT rest _ _ _ _ _ h
     rw [G7, e] at this
     exact this
    obtain ⟨s, h⟩ := Tf hT ht h;have := W2 hT rest _ _ _ _ _ h
    rw [G7, e] at this
    simp only [Rf, hb, cond_false] at this
    exact this
   obtain ⟨v, h1, h2⟩ := key;refine ⟨v, _, .inl ⟨?_, ?_, h1, rfl⟩, h2⟩
   ·cases hx : o.op <;> first | rfl | exact absurd hx (n1 _)
   cases hx : o.op <;> first | rfl | exact absurd hx (n3 _ _ _)
  exact h.elim
theorem DS {pe : Pe} {tk : List Nat} {ex : Option D4} {K : Fl → A0 → Prop} : ∀ (ds : List Nat) (pv : Lk) (l : Fl) (H : A0), FT (E4 P nt rd) A ds pv l H K → DL A ds (P5 pv pe tk ex) (D8 ⟨l, df⟩) H fun fr H' => ∃ l', fr = D8 ⟨l', df⟩ ∧ K l' H'
 | [], pv, l, H, h => ⟨l, rfl, h⟩
 | d :: ds, pv, l, H, h => by
  unfold FT at h
  simp only [DL]
  split at h
  ·rename_i cs hcs;have hcs' : P5 pv pe tk ex (.inl d) = some cs := hcs;rw [hcs']
   simp only
   split at h
   ·rename_i hA;rw [if_pos hA];intro id hid;have := DS (pe := pe) (tk := tk) (ex := ex) ds pv _ _ (h id hid)
    rw [show (d, Sl.v (V.ref id 0)) :: l = Ai (some d) (.v (.ref id 0)) l from rfl, G7] at this
    exact this
   rename_i hA;rw [if_neg (by rw [hA]; simp)];have := DS (pe := pe) (tk := tk) (ex := ex) ds pv _ _ h
   rw [show (d, Sl.v (V.eref cs 0)) :: l = Ai (some d) (.v (.eref cs 0)) l from rfl, G7] at this
   exact this
  exact h.elim
theorem Gg {A : Nat → Bool} {K K' : Fr → A0 → Prop} (hk : ∀ fr H, K fr H → K' fr H) : ∀ (ds : List Nat) (pv : Pv) (fr : Fr) (H : A0), DL A ds pv fr H K → DL A ds pv fr H K'
 | [], _, _, _, h => hk _ _ h
 | d :: ds, pv, fr, H, h => by
  simp only [DL] at h ⊢
  split at h
  ·split at h
   ·rename_i hA; rw [if_pos hA]; exact fun id hid => Gg hk ds _ _ _ (h id hid)
   rename_i hA; rw [if_neg hA]; exact Gg hk ds _ _ _ h
  exact h.elim
theorem Fq {ops : Array Oper} {K K' : Fr → A0 → Prop} (hk : ∀ fr H, K fr H → K' fr H) : ∀ (l : List Oper) (fr : Fr) (H : A0), Dq P A nt ops l fr H K → Dq P A nt ops l fr H K'
 | [], _, _, h => hk _ _ h
 | o :: l, fr, H, h => by
  simp only [Dq] at h ⊢
  refine ⟨h.1, ?_⟩;obtain ⟨_, h⟩ := h
  split at h
  ·rename_i hg; exact ES h fun v H' h => Fq hk l _ _ h
  ·rename_i hg; exact Fq hk l _ _ h
  exact h.elim
theorem MZ {dx : Option Nat} {pv : Pv} {fr : Fr} {H : A0} {K K' : Fr → A0 → Prop} (hk : ∀ fr H, K fr H → K' fr H) (h : Ea dx pv fr H K) : Ea dx pv fr H K' := by
 unfold Ea at h ⊢
 split at h
 ·exact hk _ _ h
 obtain ⟨xs, h1, h2, h3, h4⟩ := h;exact ⟨xs, h1, h2, fun tl htl => hk _ _ (h3 tl htl), fun t ht => hk _ _ (h4 t ht)⟩
theorem Sk {d : Nat} {x : V} : ∀ {l : Fl}, lk l d = .v x → X1 l d = x
 | [], h => by cases h; rfl
 | (k, s) :: l, h => by
  simp only [lk] at h
  simp only [X1]
  cases hb : Nat.beq d k with
  | true => rw [hb] at h; subst h; rfl
  | false => rw [hb] at h; exact Sk h
theorem Lo {dx : Option Nat} {pl : Lk} {pe : Pe} {tk : List Nat} {ex : Option D4} {l : Fl} {H : A0} {K : Fl → A0 → Prop} (h : IF (E4 P nt rd) dx tk l H K) : Ea dx (P5 pl pe tk ex) (D8 ⟨l, df⟩) H fun fr H' => ∃ l', fr = D8 ⟨l', df⟩ ∧ K l' H' := by
 unfold IF at h
 unfold Ea
 split at h
 ·exact ⟨l, rfl, h⟩
 rename_i d
 split at h
 ·rename_i xs h1 h2;obtain ⟨h3, h4⟩ := h;refine ⟨xs, by simp [P5, h1], Sk h2, fun tl htl => ⟨_, ?_, h3 tl htl⟩, fun t ht => ⟨_, ?_, h4 t ht⟩⟩
  ·exact (G7 l (some d) (.v (.sl xs tl))).symm
  exact (G7 l (some d) (.v (.sl xs (.tok t)))).symm
 exact h.elim
theorem Qd (hT : EC P T) {w : Option (Nat × List Nat)} {k : Nat} {ops : Array Oper} {l : Fl} {H : A0} {K : Fl → A0 → Prop} (hok : JM ops k = true) (hnd : (BU (ops.toList.take k)).Nodup)
 (h : Rq (E4 P nt rd) T nt A w k ops l H K) : V2 P nt rd ops (D8 ⟨l, df⟩) H fun e fr H' => e = .normal ∧ ∃ l', fr = D8 ⟨l', df⟩ ∧ K l' H' := by
 have rest : ∀ (l' : Fl) (pl : Lk) (pe : Pe) (tk : List Nat) (ex : Option D4) (H2 : A0), IF (E4 P nt rd) (Ef A 9000000 (ops.toList.take k)) tk l' H2 (fun l1 H3 => FT (E4 P nt rd) A (BU (ops.toList.take k)) pl l1 H3 fun l'' H' => HL (E4 P nt rd) T nt A ops (ops.toList.drop k) l'' H' K) →
  Ea (Ef A 9000000 (ops.toList.take k)) (P5 pl pe tk ex) (D8 ⟨l', df⟩) H2 fun fr1 H3 => DL A (BU (ops.toList.take k)) (P5 pl pe tk ex) fr1 H3 fun fr H' => Dq P A nt ops (ops.toList.drop k) fr H' fun fr H' => .normal = Exit.normal ∧ ∃ l', fr = D8 ⟨l', df⟩ ∧ K l' H' := fun l' pl pe tk ex H2 h => by
  refine MZ (fun fr1 H3 ⟨l1, e1, h⟩ => ?_) (Lo (df := df) (pl := pl) (pe := pe) (ex := ex) h);subst e1;refine Gg (fun fr H' ⟨l'', e1, h⟩ => ?_) _ _ _ _ (DS (df := df) (pe := pe) (tk := tk) (ex := ex) _ _ _ _ h);subst e1;exact Fq (fun fr H' ⟨l', e, hk⟩ => ⟨rfl, l', e, hk⟩) _ _ _ (BL (df := df) hT _ _ _ h)
 unfold Rq at h
 obtain ⟨ex, hX, h⟩ : ∃ ex, (∀ τ, ex = some τ → Dh H τ) ∧ Ri (E4 P nt rd) w l (Er H ex) fun ads pe H1 => Rr (E4 P nt rd) T nt A ads ops (ops.toList.take k) l [] pe [] ex H1 fun l' pv pe' tk => UD (E4 P nt rd) pe' H1 fun H2 => IF (E4 P nt rd) (Ef A 9000000 (ops.toList.take k)) tk l' H2 fun l1 H3 => FT (E4 P nt rd) A (BU (ops.toList.take k)) pv l1 H3 fun l'' H' => HL (E4 P nt rd) T nt A ops (ops.toList.drop k) l'' H' K := by
  unfold Rh at h
  split at h
  ·exact ⟨none, fun _ h => (by cases h), h⟩
  obtain ⟨τ, h1, h2⟩ := h;exact ⟨some τ, fun _ h => (by cases h; exact h1), h2⟩
 unfold Ri at h
 cases w with
 | none =>
  refine V2.drawF (A := A) (W := []) (dx := Ef A 9000000 (ops.toList.take k)) hok hnd hX (fun p hp => by simp at hp) ?_
  have e0 : Va [] ex = P5 [] none [] ex := by funext x; cases x <;> rfl
  rw [e0];refine CQ (fun fr pv ⟨l', pl, pe', tk', ex', e1, e2, _, e3, h⟩ => ?_) _ _ _ (W2 (df := df) hT _ _ _ _ _ _ h);subst e1; subst e2
  cases pe' with
  | some p => cases e3
  | none => exact rest _ _ _ _ _ _ h
 | some p =>
  obtain ⟨d, ads⟩ := p
  simp only at h
  split at h
  ·rename_i bid hl;obtain ⟨cs, hk, h⟩ := h;refine V2.drawF (A := A) (W := [(bid, cs)]) (dx := Ef A 9000000 (ops.toList.take k)) hok hnd hX (fun p hp => by simp at hp; subst hp; exact hk) ?_
   have e0 : Va [(bid, cs)] ex = P5 [] (some (d, bid, cs)) [] ex := by
    funext x
    cases x with
    | inl x => rfl
    | inr x =>
     simp only [Va, P5, List.find?]
     by_cases hx : x = bid
     ·subst hx; simp
     have : (bid == x) = false := by simpa using fun e => hx e.symm
     simp [this, hx]
    | tk x => rfl
    | ex => rfl
   rw [e0];refine CQ (fun fr pv ⟨l', pl, pe', tk', ex', e1, e2, _, e3, h⟩ => ?_) _ _ _ (W2 (df := df) hT _ _ _ _ _ _ h);subst e1; subst e2
   cases pe' with
   | none => cases e3
   | some q =>
    obtain ⟨d', id', cs'⟩ := q
    simp only [Option.map_some, Option.some.injEq] at e3
    subst e3
    have hp : P5 pl (some (d', id', cs')) tk' ex' (.inr id') = some cs' := by simp [P5]
    unfold KX;rw [hp];exact rest _ _ (some (d', id', cs')) _ _ _ h
  exact h.elim
end
end Go.Ab
