/- AbD2 -/
import Derived.Test.YtodfgmbacmnalaaGreatT18
set_option linter.all false

namespace Go.Ab
open Go.RowKit
variable [Glob] [Ar]
def hasN : List Nat → Nat → Bool
 | [], _ => false
 | x :: l, n => match Nat.beq n x with | true => true | false => hasN l n
abbrev Pvl := List (Nat × List V)
def lkp : Pvl → Nat → Option (List V)
 | [], _ => none
 | (k, x) :: l, t => match Nat.beq t k with | true => some x | false => lkp l t
section
variable (E : Env) (T : Tbl) (nt : Nat) (A : Nat → Bool)
def xqd (G : List (Nat × Bool)) (o : Oper) (l : Fl) (H : Heap) (k : Sl → Prop) : Prop :=
 match o.op with
 | .call c =>
  (match c.callee with
   | .value x => E.pcall H (evS G l x).V (c.args.toList.map fun x => (evS G l x).V) fun v => k (.v v)
   | _ => xq E T G o l H k)
 | _ => xq E T G o l H k
def pvFree (pv : Pvl) (d : Option Tmp) : Bool :=
 match d with
 | some d => (match lkp pv d with | none => true | some _ => false)
 | none => true
abbrev Pe := Option (Nat × Nat × List V)
def tkFree (tk : List Nat) (d : Option Tmp) : Bool :=
 match d with
 | some d => !hasN tk d
 | none => true
def dropN : List Nat → Nat → List Nat
 | [], _ => []
 | x :: l, n => match Nat.beq n x with | true => dropN l n | false => x :: dropN l n
def dropT (s : Option Nat) (tk : List Nat) : List Nat :=
 match s with
 | some d => dropN tk d
 | none => tk
def xsrc (tk : List Nat) (sx : Operand) (tl : Tail) : Option (Option Nat) :=
 match tl with
 | .nil => some none
 | .full => some none
 | .ro => (match sx with | .tmp d => (match hasN tk d with | true => some (some d) | false => none) | _ => none)
 | _ => none
def xsrcE (x : Bool) (ex : Option Tail) (tk : List Nat) (sx : Operand) (tl : Tail) (k : Option Nat → Option Tail → Prop) : Prop :=
 match x with
 | true => (match ex with | some τ => E.need (tl = τ) fun _ => k none none | none => False)
 | false => (match xsrc tk sx tl with | some s => k s ex | none => False)
def flagOf (A : Nat → Bool) (n : Nat) : List Oper → Option Nat
 | [] => none
 | o :: l => match o.dst with | some d => (match A (d + n) with | true => some d | false => flagOf A n l) | none => flagOf A n l
def xpapp (x : Bool) (ex : Option Tail) (o : Oper) (l : Fl) (tk : List Nat) (k : Nat → Option Nat → Option Tail → V → Prop) : Prop :=
 match o.op, o.dst, o.guard with
 | .call { callee := .builtin .append, args := ⟨[sx, sy]⟩, argTypes := ⟨[sT, yT]⟩ }, some dd, none =>
  (match (evS [] l sx).V, (evS [] l sy).V with
   | .sl xs tlx, .sl ys _ =>
    xsrcE E x ex tk sx tlx fun src ex' =>
     (match tg T sT, tg T yT with
      | some I, some I2 =>
       (match I.sl, I2.sl with
        | some e, some _ =>
         (match tg T e with
          | some J =>
           (match J.ze with
            | some z => if 0 < J.sz ∧ 0 < J.by_ ∧ z.one = true ∧ z.cells.length = J.sz then E.appq J.sz J.by_ xs ys fun v => k dd src ex' v else False
            | none => False)
          | none => False)
        | _, _ => False)
      | _, _ => False)
   | _, _ => False)
 | _, _, _ => False
def xdB (ads : List Nat) (ops : Array Oper) : List Oper → Fl → Pvl → Pe → List Nat → Option Tail → Heap → (Fl → Pvl → Pe → List Nat → Prop) → Prop
 | [], l, pv, pe, tk, _, _, K => K l pv pe tk
 | o :: rest, l, pv, pe, tk, ex, H, K =>
  match dstOk nt o.dst, pvFree pv o.dst, tkFree tk o.dst with
  | true, true, true =>
   (match A (o.dst.getD 0 + 3000000) with
    | true => xpapp E T (A (o.dst.getD 0 + 8000000)) ex o l tk fun dd src ex' v => xdB ads ops rest ((dd, .v v) :: l) pv pe (dd :: dropT src tk) ex' H K
    | false =>
     (match o.op with
      | .alloc t =>
       (match o.guard, o.dst, tg T t with
        | none, some d, some I =>
         (match I.ze with
          | some z => (match z.one with | true => xdB ads ops rest ((d, .v .bad) :: l) ((d, z.cells) :: pv) pe tk ex H K | false => False)
          | none => False)
        | _, _, _ => False)
      | .store t (.tmp d) y =>
       (match o.guard, tg T t with
        | none, some I =>
         (match lkp pv d with
          | some cs => if (evS [] l y).V.one = true ∧ (evS [] l y).V.cells.length = I.sz ∧ I.sz ≤ cs.length then xdB ads ops rest (putl o.dst (.v .bad) l) ((d, splice cs 0 (evS [] l y).V.cells) :: pv) pe tk ex H K else False
          | none =>
           (match hasN ads d, opndO [] l d, pe with
            | true, some (.v (.ref id off)), some (ds, id', cs) =>
             if (evS [] l y).V.one = true ∧ (evS [] l y).V.cells.length = I.sz ∧ off + I.sz ≤ cs.length then E.need (id = id') fun _ => xdB ads ops rest (putl o.dst (.v .bad) l) pv (some (ds, id', splice cs off (evS [] l y).V.cells)) tk ex H K else False
            | _, _, _ => False))
        | _, _ => False)
      | .store _ _ _ => False
      | _ => xguard E ops o 4 l (fun G l' wr => xqd E T G o l' H fun s => xdB ads ops rest (putl o.dst (wr s) l') pv pe tk ex H K) fun l' => xdB ads ops rest (putl o.dst (.v (.tup [])) l') pv pe tk ex H K))
  | _, _, _ => False
def xnameF : List Nat → Pvl → Fl → Heap → (Fl → Heap → Prop) → Prop
 | [], _, l, H, K => K l H
 | d :: ds, pv, l, H, K =>
  match lkp pv d with
  | some cs => (match A d with | true => E.alloc H cs fun id H' => xnameF ds pv ((d, .v (.ref id 0)) :: l) H' K | false => xnameF ds pv ((d, .v (.eref cs 0)) :: l) H K)
  | none => False
def xnameT (dx : Option Nat) (tk : List Nat) (l : Fl) (H : Heap) (K : Fl → Heap → Prop) : Prop :=
 match dx with
 | none => K l H
 | some d => (match hasN tk d, lk l d with | true, .v (.sl xs .ro) => E.nameT H fun tl H' => K ((d, .v (.sl xs tl)) :: l) H' | _, _ => False)
def xtail (ops : Array Oper) : List Oper → Fl → Heap → (Fl → Heap → Prop) → Prop
 | [], l, H, K => K l H
 | o :: rest, l, H, K =>
  match dstOk nt o.dst with
  | true => xguard E ops o 4 l (fun G l' wr => xop E T A G o l' H fun s H' => xtail ops rest (putl o.dst (wr s) l') H' K) fun l' => xtail ops rest (putl o.dst (.v (.tup [])) l') H K
  | false => False
def allocsOf : List Oper → List Nat
 | [] => []
 | o :: l => match o.op, o.dst with | .alloc _, some d => d :: allocsOf l | _, _ => allocsOf l
def xgive (pe : Pe) (H : Heap) (K : Heap → Prop) : Prop :=
 match pe with
 | some (_, id, cs) => E.give H id cs K
 | none => K H
def xtake (w : Option (Nat × List Nat)) (l : Fl) (H : Heap) (K : List Nat → Pe → Heap → Prop) : Prop :=
 match w with
 | none => K [] none H
 | some (d, ads) => (match lk l d with | .v (.ref id 0) => E.frz H id fun cs H' => K ads (some (d, id, cs)) H' | _ => False)
def xtakeT (x : Option Nat) (H : Heap) (K : Option Tail → Heap → Prop) : Prop :=
 match x with
 | none => K none H
 | some _ => E.takeT H fun τ H' => K (some τ) H'
def xdraw (w : Option (Nat × List Nat)) (k : Nat) (ops : Array Oper) (l : Fl) (H : Heap) (K : Fl → Heap → Prop) : Prop :=
 xtakeT E (flagOf A 8000000 (ops.toList.take k)) H fun ex H0 => xtake E w l H0 fun ads pe H1 => xdB E T nt A ads ops (ops.toList.take k) l [] pe [] ex H1 fun l' pv pe' tk => xgive E pe' H1 fun H2 => xnameT E (flagOf A 9000000 (ops.toList.take k)) tk l' H2 fun l1 H3 => xnameF E A (allocsOf (ops.toList.take k)) pv l1 H3 fun l'' H' => xtail E T nt A ops (ops.toList.drop k) l'' H' K
end
section
variable {P : Program} {nt : Nat} {rd : Option Nat} {T : Tbl} {A : Nat → Bool} {df : List Nat}
theorem xqd_sound (hT : TOk P T) {G : List (Nat × Bool)} {o : Oper} {l : Fl} (hG : Gok G l) {H : Heap} {k : Sl → Prop} (h : xqd (real P nt rd) T G o l H k) : ∃ s : Sl, opQ P o (ev (frOf ⟨l, df⟩)) H s.V ∧ k s := by
 unfold xqd at h
 split at h
 ·rename_i c ho
  split at h
  ·rename_i x hc
   obtain ⟨v, h1, h2⟩ := h
   rw [evS_ev (df := df) hG, show (c.args.toList.map fun x => (evS G l x).V) = c.args.toList.map (ev (frOf ⟨l, df⟩)) from List.map_congr_left fun p _ => evS_ev hG p] at h1
   exact ⟨.v v, by simp only [opQ, ho, hc]; exact h1, h2⟩
  ·exact xq_sound hT hG h
 ·exact xq_sound hT hG h
theorem xqd_tot (hT : TOk P T) {G : List (Nat × Bool)} {o : Oper} {l : Fl} {H : Heap} {k : Sl → Prop} (ht : isTot G o l = true) (h : xqd (real P nt rd) T G o l H k) : ∃ s, k s := by
 unfold xqd at h
 split at h
 ·rename_i c ho
  split at h
  ·obtain ⟨v, h1, h2⟩ := h
   exact ⟨_, h2⟩
  ·exact xq_tot hT ht h
 ·exact xq_tot hT ht h
theorem xtail_sound (hT : TOk P T) {ops : Array Oper} {K : Fl → Heap → Prop} : ∀ (rest : List Oper) (l : Fl) (H : Heap), xtail (real P nt rd) T nt A ops rest l H K → opsA P A nt ops rest (frOf ⟨l, df⟩) H fun fr H' => ∃ l', fr = frOf ⟨l', df⟩ ∧ K l' H'
 | [], l, H, h => ⟨l, rfl, h⟩
 | o :: rest, l, H, h => by
  unfold xtail at h
  split at h
  ·rename_i hd
   simp only [opsA]
   refine ⟨hd, ?_⟩
   obtain ⟨l', e, h⟩ := xguard_sound (df := df) 4 l h
   have e : frOf ⟨l', df⟩ = frOf ⟨l, df⟩ := by simp only [frOf, Fr.mk.injEq, and_true]; funext t; exact e t
   rcases h with ⟨hg, G, wr, hG, hwr, h⟩ | ⟨hg, h⟩
   ·rw [hg]
    rw [← e]
    refine opA_mono (xop_sound (df := df) hT hG h) fun v H' ⟨s, hv, hk⟩ => ?_
    subst hv
    rw [← hwr s, ← frOf_put]
    exact xtail_sound hT rest _ _ hk
   ·rw [hg]
    rw [← e]
    rcases h with h | ⟨G, d, want, ht, hb, h⟩
    ·have := xtail_sound hT rest _ _ h
     rw [frOf_put] at this
     exact this
    ·obtain ⟨s, h⟩ := xop_tot hT ht h
     have := xtail_sound hT rest _ _ h
     rw [frOf_put] at this
     simp only [slV, hb, cond_false] at this
     exact this
  ·exact h.elim
def pvOf (pv : Pvl) (pe : Pe) (tk : List Nat) (ex : Option Tail) : Pv
 | .inl d => lkp pv d
 | .inr x => (match pe with | some (_, id, cs) => if x = id then some cs else none | none => none)
 | .tk d => (match hasN tk d with | true => some [] | false => none)
 | .ex => ex.map fun τ => [.sl [] τ]
theorem beq_of {a b : Nat} : Nat.beq a b = true ↔ a = b := ⟨Nat.eq_of_beq_eq_true, fun h => by subst h; exact Nat.beq_refl _⟩
theorem lkp_cons {pv : Pvl} {d t : Nat} {cs : List V} : lkp ((d, cs) :: pv) t = if t = d then some cs else lkp pv t := by
 simp only [lkp]
 by_cases h : t = d
 ·subst h; simp [Nat.beq_refl]
 ·have : Nat.beq t d = false := by
   cases hb : Nat.beq t d with
   | false => rfl
   | true => exact absurd (Nat.eq_of_beq_eq_true hb) h
  simp [this, h]
theorem hasN_cons {tk : List Nat} {d t : Nat} : hasN (d :: tk) t = (decide (t = d) || hasN tk t) := by
 simp only [hasN]
 by_cases h : t = d
 ·subst h; simp [Nat.beq_refl]
 ·have : Nat.beq t d = false := by
   cases hb : Nat.beq t d with
   | false => rfl
   | true => exact absurd (Nat.eq_of_beq_eq_true hb) h
  simp [this, h]
theorem hasN_drop {d t : Nat} : ∀ {tk : List Nat}, hasN (dropN tk d) t = (!decide (t = d) && hasN tk t)
 | [] => by simp [dropN, hasN]
 | x :: l => by
  simp only [dropN]
  split
  ·rename_i h
   have := beq_of.1 h
   subst this
   rw [hasN_drop (tk := l), hasN_cons]
   by_cases e : t = d <;> simp [e]
  ·rename_i h
   have hne : d ≠ x := fun e => by rw [beq_of.2 e] at h; cases h
   rw [hasN_cons, hasN_cons, hasN_drop (tk := l)]
   by_cases e : t = x
   ·subst e; simp [Ne.symm hne]
   ·simp [e]
theorem pvOf_cons {pv : Pvl} {pe : Pe} {tk : List Nat} {ex : Option Tail} {d : Nat} {cs : List V} : pvOf ((d, cs) :: pv) pe tk ex = pvSet (pvOf pv pe tk ex) (.inl d) cs := by
 funext t
 cases t with
 | inl t =>
  simp only [pvOf, pvSet, lkp_cons, Pk.inl.injEq]
 | inr x => simp [pvOf, pvSet]
 | tk x => simp [pvOf, pvSet]
 | ex => simp [pvOf, pvSet]
theorem pvOf_pe {pv : Pvl} {tk : List Nat} {ex : Option Tail} {ds id : Nat} {cs cs' : List V} : pvOf pv (some (ds, id, cs')) tk ex = pvSet (pvOf pv (some (ds, id, cs)) tk ex) (.inr id) cs' := by
 funext t
 cases t with
 | inl t => simp [pvOf, pvSet]
 | inr x =>
  simp only [pvOf, pvSet, Pk.inr.injEq]
  by_cases h : x = id <;> simp [h]
 | tk x => simp [pvOf, pvSet]
 | ex => simp [pvOf, pvSet]
theorem pvOf_ex {pv : Pvl} {pe : Pe} {tk : List Nat} {ex : Option Tail} {d : Nat} : pvOf pv pe (d :: tk) none = pvSet (pvDel (pvOf pv pe tk ex) (some .ex)) (.tk d) [] := by
 funext t
 cases t with
 | inl t => rw [pvSet_ne (by simp), pvDel_other (by simp)]; rfl
 | inr x => rw [pvSet_ne (by simp), pvDel_other (by simp)]; rfl
 | ex => rw [pvSet_ne (by simp)]; simp [pvOf, pvDel]
 | tk x =>
  by_cases h : x = d
  ·subst h
   have : hasN (x :: tk) x = true := by rw [hasN_cons]; simp
   simp [pvOf, pvSet, this]
  ·rw [pvSet_ne (fun e => by cases e; exact h rfl), pvDel_other (by simp)]
   have e1 : hasN (d :: tk) x = hasN tk x := by rw [hasN_cons]; simp [h]
   simp only [pvOf, e1]
theorem pvOf_tk {pv : Pvl} {pe : Pe} {tk : List Nat} {ex : Option Tail} {d : Nat} {src : Option Nat} : pvOf pv pe (d :: dropT src tk) ex = pvSet (pvDel (pvOf pv pe tk ex) (src.map .tk)) (.tk d) [] := by
 funext t
 cases t with
 | inl t => rw [pvSet_ne (by simp), pvDel_other (by cases src <;> simp)]; rfl
 | inr x => rw [pvSet_ne (by simp), pvDel_other (by cases src <;> simp)]; rfl
 | ex => rw [pvSet_ne (by simp), pvDel_other (by cases src <;> simp)]; rfl
 | tk x =>
  by_cases h : x = d
  ·subst h
   have : hasN (x :: dropT src tk) x = true := by rw [hasN_cons]; simp
   simp [pvOf, pvSet, this]
  ·rw [pvSet_ne (fun e => by cases e; exact h rfl)]
   have e1 : hasN (d :: dropT src tk) x = hasN (dropT src tk) x := by rw [hasN_cons]; simp [h]
   cases src with
   | none => simp only [pvOf, e1]; rfl
   | some c =>
    have e2 : hasN (dropT (some c) tk) x = (!decide (x = c) && hasN tk x) := hasN_drop
    simp only [pvOf, pvDel, e1, e2, Option.map_some, Pk.tk.injEq]
    by_cases hc : x = c <;> simp [hc]
theorem pvFree_ok {pv : Pvl} {pe : Pe} {tk : List Nat} {ex : Option Tail} {d : Option Tmp} (h : pvFree pv d = true) (h2 : tkFree tk d = true) : dstFree (pvOf pv pe tk ex) d := by
 cases d with
 | none => trivial
 | some d =>
  simp only [pvFree] at h
  simp only [tkFree, Bool.not_eq_true'] at h2
  simp only [dstFree, pvOf, h2, and_true]
  split at h
  ·assumption
  ·cases h
theorem xsrc_ok {l : Fl} {pv : Pvl} {pe : Pe} {tk : List Nat} {ex : Option Tail} {sx : Operand} {tl : Tail} {src : Option Nat} (h : xsrc tk sx tl = some src) : PSrc (pvOf pv pe tk ex) sx tl (src.map .tk) := by
 unfold xsrc at h
 split at h
 ·cases h; exact .inl rfl
 ·cases h; exact .inr rfl
 ·split at h
  ·rename_i d
   split at h
   ·rename_i hd
    cases h
    exact ⟨rfl, rfl, by simp [pvOf, hd]⟩
   ·cases h
  ·cases h
 ·cases h
theorem xsrcE_ok {l : Fl} {pv : Pvl} {pe : Pe} {tk : List Nat} {x : Bool} {ex : Option Tail} {sx : Operand} {tl : Tail} {k : Option Nat → Option Tail → Prop} (h : xsrcE (real P nt rd) x ex tk sx tl k) :
 ∃ key, PSrc (pvOf pv pe tk ex) sx tl key ∧ ∃ src ex', k src ex' ∧ (ex = none → ex' = none) ∧ ∀ d, pvOf pv pe (d :: dropT src tk) ex' = pvSet (pvDel (pvOf pv pe tk ex) key) (.tk d) [] := by
 unfold xsrcE at h
 split at h
 ·split at h
  ·obtain ⟨e, h⟩ := h
   subst e
   exact ⟨some .ex, rfl, none, none, h, fun _ => rfl, fun d => pvOf_ex⟩
  ·exact h.elim
 ·split at h
  ·rename_i s hs
   exact ⟨_, xsrc_ok (l := l) hs, s, ex, h, id, fun d => pvOf_tk⟩
  ·exact h.elim
theorem xpapp_sound (hT : TOk P T) {x : Bool} {ex : Option Tail} {o : Oper} {l : Fl} {pv : Pvl} {pe : Pe} {tk : List Nat} {k : Nat → Option Nat → Option Tail → V → Prop} (h : xpapp (real P nt rd) T x ex o l tk k) : ∃ dd key v, o.dst = some dd ∧ PApp P o (frOf ⟨l, df⟩) (pvOf pv pe tk ex) key v ∧ ∃ src ex', k dd src ex' v ∧ (ex = none → ex' = none) ∧ pvOf pv pe (dd :: dropT src tk) ex' = pvSet (pvDel (pvOf pv pe tk ex) key) (.tk dd) [] := by
 unfold xpapp at h
 split at h
 ·rename_i sx sy sT yT dd ho hdst hg
  split at h
  ·rename_i xs tlx ys tly e1 e2
   rw [evS_ev (l := l) (df := df) Gok.nil] at e1 e2
   obtain ⟨key, hs, src, ex', h, hen, hpe⟩ := xsrcE_ok (l := l) (pv := pv) (pe := pe) h
   ·split at h
    ·rename_i I I2 hI hI2
     split at h
     ·rename_i e e2' he he2
      split at h
      ·rename_i J hJ
       split at h
       ·rename_i z hz
        have ez := (tg_ok hT hJ).ze; rw [hz] at ez; simp only [optOk] at ez
        split at h
        ·rename_i hc
         obtain ⟨c1, c2, c3, c4⟩ := hc
         obtain ⟨xs', ys', l1, l2, k1, k2, k3, k4⟩ := h
         exact ⟨dd, key, _, hdst, ⟨hg, sx, sy, sT, yT, xs, tlx, ys, tly, xs', ys', ho, e1, e2, hs, ⟨e, J.sz, J.by_, z, (tg_ok hT hI).sl.trans he, by rw [(tg_ok hT hI2).sl, he2]; rfl, (tg_ok hT hJ).sz, c1, (tg_ok hT hJ).by_, c2, ez, c3, c4, l1, l2, k1, k2, k3⟩, rfl⟩, src, ex', k4, hen, hpe dd⟩
        ·exact h.elim
       ·exact h.elim
      ·exact h.elim
     ·exact h.elim
    ·exact h.elim
  ·exact h.elim
 ·exact h.elim
theorem drawB_mono {ops : Array Oper} {H : Heap} {K K' : Fr → Pv → Prop} (hk : ∀ fr pv, K fr pv → K' fr pv) : ∀ (l : List Oper) (fr : Fr) (pv : Pv), drawB P nt ops H l fr pv K → drawB P nt ops H l fr pv K'
 | [], _, _, h => hk _ _ h
 | _ :: l, _, _, h => drawS_mono h fun fr pv h => drawB_mono hk l fr pv h
theorem xdB_sound (hT : TOk P T) {ads : List Nat} {ops : Array Oper} {H : Heap} {K : Fl → Pvl → Pe → List Nat → Prop} : ∀ (rest : List Oper) (l : Fl) (pv : Pvl) (pe : Pe) (tk : List Nat) (ex : Option Tail), xdB (real P nt rd) T nt A ads ops rest l pv pe tk ex H K →
 drawB P nt ops H rest (frOf ⟨l, df⟩) (pvOf pv pe tk ex) fun fr pv' => ∃ l' pl pe' tk' ex', fr = frOf ⟨l', df⟩ ∧ pv' = pvOf pl pe' tk' ex' ∧ (ex = none → ex' = none) ∧ pe'.map (fun p => p.2.1) = pe.map (fun p => p.2.1) ∧ K l' pl pe' tk'
 | [], l, pv, pe, tk, ex, h => ⟨l, pv, pe, tk, ex, rfl, rfl, id, rfl, h⟩
 | o :: rest, l, pv, pe, tk, ex, h => by
  unfold xdB at h
  split at h
  ·rename_i hd hf hft
   simp only [drawB]
   unfold drawS
   refine ⟨⟨hd, pvFree_ok hf hft⟩, ?_⟩
   split at h
   ·obtain ⟨dd, key, v, hdst, hP, src, ex2, h, hen, hpe⟩ := xpapp_sound (df := df) (pv := pv) (pe := pe) hT h
    refine ⟨v, _, .inr (.inr (.inr ⟨dd, key, hdst, hP, rfl⟩)), ?_⟩
    have := xdB_sound hT rest _ _ _ _ _ h
    rw [hpe, show (dd, Sl.v v) :: l = putl (some dd) (.v v) l from rfl, frOf_put] at this
    rw [hdst]; exact drawB_mono (fun fr pv ⟨l', pl, pe', tk', ex', e1, e2, e3, h⟩ => ⟨l', pl, pe', tk', ex', e1, e2, fun he => e3 (hen he), h⟩) _ _ _ this
   split at h
   ·rename_i t ho
    split at h
    ·rename_i d I hg hdst hI
     split at h
     ·rename_i z hz
      have ez := (tg_ok hT hI).ze; rw [hz] at ez; simp only [optOk] at ez
      split at h
      ·rename_i h1
       refine ⟨.bad, _, .inr (.inl ⟨t, z, d, ho, hg, hdst, ez, h1, rfl, rfl⟩), ?_⟩
       have := xdB_sound hT rest _ _ _ _ _ h
       rw [pvOf_cons, show (d, Sl.v V.bad) :: l = putl (some d) (.v .bad) l from rfl, frOf_put] at this
       rw [hdst]; exact this
      ·exact h.elim
     ·exact h.elim
    ·exact h.elim
   ·rename_i t d y ho
    split at h
    ·rename_i I hg hI
     have hev := evS_ev (l := l) (df := df) Gok.nil y
     split at h
     ·rename_i cs hcs
      split at h
      ·rename_i hc
       obtain ⟨c1, c2, c3⟩ := hc
       rw [hev] at c1 c2 h
       refine ⟨.bad, _, .inr (.inr (.inl ⟨t, d, y, .inl d, 0, cs, ho, hg, .inl ⟨rfl, rfl, hcs⟩, c1, by rw [c2]; exact (tg_ok hT hI).sz, by rw [c2]; omega, rfl, rfl⟩)), ?_⟩
       have := xdB_sound hT rest _ _ _ _ _ h
       rw [pvOf_cons, frOf_put] at this
       exact this
      ·exact h.elim
     ·rename_i hcs
      split at h
      ·rename_i id off ds id' cs _ hop
       split at h
       ·rename_i hc
        obtain ⟨c1, c2, c3⟩ := hc
        obtain ⟨he, h⟩ := h
        subst he
        rw [hev] at c1 c2 h
        have hd : (frOf ⟨l, df⟩).s d = .ref id off := (opndO_ok Gok.nil hop).1.symm
        refine ⟨.bad, _, .inr (.inr (.inl ⟨t, d, y, .inr id, off, cs, ho, hg, .inr ⟨id, rfl, hd, hcs, by simp [pvOf]⟩, c1, by rw [c2]; exact (tg_ok hT hI).sz, by rw [c2]; exact c3, rfl, rfl⟩)), ?_⟩
        have := xdB_sound hT rest _ _ _ _ _ h
        rw [pvOf_pe (cs := cs), frOf_put] at this
        exact this
       ·exact h.elim
      ·exact h.elim
    ·exact h.elim
   ·exact h.elim
   ·rename_i n1 n2 n3
    have key : ∃ v, QStep P ops H o (frOf ⟨l, df⟩) v ∧ drawB P nt ops H rest ((frOf ⟨l, df⟩).put o.dst v) (pvOf pv pe tk ex) fun fr pv' => ∃ l' pl pe' tk' ex', fr = frOf ⟨l', df⟩ ∧ pv' = pvOf pl pe' tk' ex' ∧ (ex = none → ex' = none) ∧ pe'.map (fun p => p.2.1) = pe.map (fun p => p.2.1) ∧ K l' pl pe' tk' := by
     obtain ⟨l', e, h⟩ := xguard_sound (df := df) 4 l h
     have e : frOf ⟨l', df⟩ = frOf ⟨l, df⟩ := by simp only [frOf, Fr.mk.injEq, and_true]; funext t; exact e t
     rcases h with ⟨hg, G, wr, hG, hwr, h⟩ | ⟨hg, h⟩
     ·obtain ⟨s, h1, h2⟩ := xqd_sound (df := df) hT hG h
      refine ⟨s.V, by simp only [QStep, hg]; rw [← e]; exact h1, ?_⟩
      have := xdB_sound hT rest _ _ _ _ _ h2
      rw [frOf_put, hwr s, e] at this
      exact this
     ·refine ⟨.tup [], by simp only [QStep, hg], ?_⟩
      rcases h with h | ⟨G, d, want, ht, hb, h⟩
      ·have := xdB_sound hT rest _ _ _ _ _ h
       rw [frOf_put, e] at this
       exact this
      ·obtain ⟨s, h⟩ := xqd_tot hT ht h
       have := xdB_sound hT rest _ _ _ _ _ h
       rw [frOf_put, e] at this
       simp only [slV, hb, cond_false] at this
       exact this
    obtain ⟨v, h1, h2⟩ := key
    refine ⟨v, _, .inl ⟨?_, ?_, h1, rfl⟩, h2⟩
    ·cases hx : o.op <;> first | rfl | exact absurd hx (n1 _)
    ·cases hx : o.op <;> first | rfl | exact absurd hx (n3 _ _ _)
  ·exact h.elim
theorem xnameF_sound {pe : Pe} {tk : List Nat} {ex : Option Tail} {K : Fl → Heap → Prop} : ∀ (ds : List Nat) (pv : Pvl) (l : Fl) (H : Heap), xnameF (real P nt rd) A ds pv l H K → nameF A ds (pvOf pv pe tk ex) (frOf ⟨l, df⟩) H fun fr H' => ∃ l', fr = frOf ⟨l', df⟩ ∧ K l' H'
 | [], pv, l, H, h => ⟨l, rfl, h⟩
 | d :: ds, pv, l, H, h => by
  unfold xnameF at h
  simp only [nameF]
  split at h
  ·rename_i cs hcs
   have hcs' : pvOf pv pe tk ex (.inl d) = some cs := hcs
   rw [hcs']
   simp only
   split at h
   ·rename_i hA
    rw [if_pos hA]
    intro id hid
    have := xnameF_sound (pe := pe) (tk := tk) (ex := ex) ds pv _ _ (h id hid)
    rw [show (d, Sl.v (V.ref id 0)) :: l = putl (some d) (.v (.ref id 0)) l from rfl, frOf_put] at this
    exact this
   ·rename_i hA
    rw [if_neg (by rw [hA]; simp)]
    have := xnameF_sound (pe := pe) (tk := tk) (ex := ex) ds pv _ _ h
    rw [show (d, Sl.v (V.eref cs 0)) :: l = putl (some d) (.v (.eref cs 0)) l from rfl, frOf_put] at this
    exact this
  ·exact h.elim
theorem nameF_mono {A : Nat → Bool} {K K' : Fr → Heap → Prop} (hk : ∀ fr H, K fr H → K' fr H) : ∀ (ds : List Nat) (pv : Pv) (fr : Fr) (H : Heap), nameF A ds pv fr H K → nameF A ds pv fr H K'
 | [], _, _, _, h => hk _ _ h
 | d :: ds, pv, fr, H, h => by
  simp only [nameF] at h ⊢
  split at h
  ·split at h
   ·rename_i hA; rw [if_pos hA]; exact fun id hid => nameF_mono hk ds _ _ _ (h id hid)
   ·rename_i hA; rw [if_neg hA]; exact nameF_mono hk ds _ _ _ h
  ·exact h.elim
theorem opsA_mono {ops : Array Oper} {K K' : Fr → Heap → Prop} (hk : ∀ fr H, K fr H → K' fr H) : ∀ (l : List Oper) (fr : Fr) (H : Heap), opsA P A nt ops l fr H K → opsA P A nt ops l fr H K'
 | [], _, _, h => hk _ _ h
 | o :: l, fr, H, h => by
  simp only [opsA] at h ⊢
  refine ⟨h.1, ?_⟩
  obtain ⟨_, h⟩ := h
  split at h
  ·rename_i hg; exact opA_mono h fun v H' h => opsA_mono hk l _ _ h
  ·rename_i hg; exact opsA_mono hk l _ _ h
  ·exact h.elim
theorem nameTF_mono {dx : Option Nat} {pv : Pv} {fr : Fr} {H : Heap} {K K' : Fr → Heap → Prop} (hk : ∀ fr H, K fr H → K' fr H) (h : nameTF dx pv fr H K) : nameTF dx pv fr H K' := by
 unfold nameTF at h ⊢
 split at h
 ·exact hk _ _ h
 ·obtain ⟨xs, h1, h2, h3, h4⟩ := h
  exact ⟨xs, h1, h2, fun tl htl => hk _ _ (h3 tl htl), fun t ht => hk _ _ (h4 t ht)⟩
theorem lk_lkV {d : Nat} {x : V} : ∀ {l : Fl}, lk l d = .v x → lkV l d = x
 | [], h => by cases h; rfl
 | (k, s) :: l, h => by
  simp only [lk] at h
  simp only [lkV]
  cases hb : Nat.beq d k with
  | true => rw [hb] at h; subst h; rfl
  | false => rw [hb] at h; exact lk_lkV h
theorem xnameT_sound {dx : Option Nat} {pl : Pvl} {pe : Pe} {tk : List Nat} {ex : Option Tail} {l : Fl} {H : Heap} {K : Fl → Heap → Prop} (h : xnameT (real P nt rd) dx tk l H K) : nameTF dx (pvOf pl pe tk ex) (frOf ⟨l, df⟩) H fun fr H' => ∃ l', fr = frOf ⟨l', df⟩ ∧ K l' H' := by
 unfold xnameT at h
 unfold nameTF
 split at h
 ·exact ⟨l, rfl, h⟩
 ·rename_i d
  split at h
  ·rename_i xs h1 h2
   obtain ⟨h3, h4⟩ := h
   refine ⟨xs, by simp [pvOf, h1], lk_lkV h2, fun tl htl => ⟨_, ?_, h3 tl htl⟩, fun t ht => ⟨_, ?_, h4 t ht⟩⟩
   ·exact (frOf_put l (some d) (.v (.sl xs tl))).symm
   ·exact (frOf_put l (some d) (.v (.sl xs (.tok t)))).symm
  ·exact h.elim
theorem xdraw_any (hT : TOk P T) {w : Option (Nat × List Nat)} {k : Nat} {ops : Array Oper} {l : Fl} {H : Heap} {K : Fl → Heap → Prop} (hok : drawOk ops k = true) (hnd : (allocsOf (ops.toList.take k)).Nodup)
 (h : xdraw (real P nt rd) T nt A w k ops l H K) : SimAny P nt rd ops (frOf ⟨l, df⟩) H fun e fr H' => e = .normal ∧ ∃ l', fr = frOf ⟨l', df⟩ ∧ K l' H' := by
 have rest : ∀ (l' : Fl) (pl : Pvl) (pe : Pe) (tk : List Nat) (ex : Option Tail) (H2 : Heap), xnameT (real P nt rd) (flagOf A 9000000 (ops.toList.take k)) tk l' H2 (fun l1 H3 => xnameF (real P nt rd) A (allocsOf (ops.toList.take k)) pl l1 H3 fun l'' H' => xtail (real P nt rd) T nt A ops (ops.toList.drop k) l'' H' K) →
  nameTF (flagOf A 9000000 (ops.toList.take k)) (pvOf pl pe tk ex) (frOf ⟨l', df⟩) H2 fun fr1 H3 => nameF A (allocsOf (ops.toList.take k)) (pvOf pl pe tk ex) fr1 H3 fun fr H' => opsA P A nt ops (ops.toList.drop k) fr H' fun fr H' => .normal = Exit.normal ∧ ∃ l', fr = frOf ⟨l', df⟩ ∧ K l' H' := fun l' pl pe tk ex H2 h => by
  refine nameTF_mono (fun fr1 H3 ⟨l1, e1, h⟩ => ?_) (xnameT_sound (df := df) (pl := pl) (pe := pe) (ex := ex) h)
  subst e1
  refine nameF_mono (fun fr H' ⟨l'', e1, h⟩ => ?_) _ _ _ _ (xnameF_sound (df := df) (pe := pe) (tk := tk) (ex := ex) _ _ _ _ h)
  subst e1
  exact opsA_mono (fun fr H' ⟨l', e, hk⟩ => ⟨rfl, l', e, hk⟩) _ _ _ (xtail_sound (df := df) hT _ _ _ h)
 unfold xdraw at h
 obtain ⟨ex, hX, h⟩ : ∃ ex, (∀ τ, ex = some τ → AppOk H τ) ∧ xtake (real P nt rd) w l (dropEx H ex) fun ads pe H1 => xdB (real P nt rd) T nt A ads ops (ops.toList.take k) l [] pe [] ex H1 fun l' pv pe' tk => xgive (real P nt rd) pe' H1 fun H2 => xnameT (real P nt rd) (flagOf A 9000000 (ops.toList.take k)) tk l' H2 fun l1 H3 => xnameF (real P nt rd) A (allocsOf (ops.toList.take k)) pv l1 H3 fun l'' H' => xtail (real P nt rd) T nt A ops (ops.toList.drop k) l'' H' K := by
  unfold xtakeT at h
  split at h
  ·exact ⟨none, fun _ h => (by cases h), h⟩
  ·obtain ⟨τ, h1, h2⟩ := h
   exact ⟨some τ, fun _ h => (by cases h; exact h1), h2⟩
 unfold xtake at h
 cases w with
 | none =>
  refine SimAny.drawF (A := A) (W := []) (dx := flagOf A 9000000 (ops.toList.take k)) hok hnd hX (fun p hp => by simp at hp) ?_
  have e0 : pvW [] ex = pvOf [] none [] ex := by funext x; cases x <;> rfl
  rw [e0]
  refine drawB_mono (fun fr pv ⟨l', pl, pe', tk', ex', e1, e2, _, e3, h⟩ => ?_) _ _ _ (xdB_sound (df := df) hT _ _ _ _ _ _ h)
  subst e1; subst e2
  cases pe' with
  | some p => cases e3
  | none => exact rest _ _ _ _ _ _ h
 | some p =>
  obtain ⟨d, ads⟩ := p
  simp only at h
  split at h
  ·rename_i bid hl
   obtain ⟨cs, hk, h⟩ := h
   refine SimAny.drawF (A := A) (W := [(bid, cs)]) (dx := flagOf A 9000000 (ops.toList.take k)) hok hnd hX (fun p hp => by simp at hp; subst hp; exact hk) ?_
   have e0 : pvW [(bid, cs)] ex = pvOf [] (some (d, bid, cs)) [] ex := by
    funext x
    cases x with
    | inl x => rfl
    | inr x =>
     simp only [pvW, pvOf, List.find?]
     by_cases hx : x = bid
     ·subst hx; simp
     ·have : (bid == x) = false := by simpa using fun e => hx e.symm
      simp [this, hx]
    | tk x => rfl
    | ex => rfl
   rw [e0]
   refine drawB_mono (fun fr pv ⟨l', pl, pe', tk', ex', e1, e2, _, e3, h⟩ => ?_) _ _ _ (xdB_sound (df := df) hT _ _ _ _ _ _ h)
   subst e1; subst e2
   cases pe' with
   | none => cases e3
   | some q =>
    obtain ⟨d', id', cs'⟩ := q
    simp only [Option.map_some, Option.some.injEq] at e3
    subst e3
    have hp : pvOf pl (some (d', id', cs')) tk' ex' (.inr id') = some cs' := by simp [pvOf]
    unfold giveF
    rw [hp]
    exact rest _ _ (some (d', id', cs')) _ _ _ h
  ·exact h.elim
end
end Go.Ab

