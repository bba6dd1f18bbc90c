/- AbD2 AbP1 -/
import Derived.Test.YtpapabjndpgcnaaGreatDoorT17
set_option linter.all false

namespace Go.Ab
open Go.RowKit
variable [Glob] [Ar]
def hasN : List Nat → Nat → Bool
 | [], _ => false
 | x :: l, n => match Nat.beq n x with | true => true | false => hasN l n
abbrev Pvl := List (Nat × List V)
def lkp : Pvl → Nat → Option (List V)
 | [], _ => none
 | (k, x) :: l, t => match Nat.beq t k with | true => some x | false => lkp l t
section
variable (E : Env) (T : Tbl) (nt : Nat) (A : Nat → Bool)
def xqd (G : List (Nat × Bool)) (o : Oper) (l : Fl) (H : Heap) (k : Sl → Prop) : Prop :=
 match o.op with
 | .call c =>
  (match c.callee with
   | .value x => E.pcall (evS G l x).V (c.args.toList.map fun x => (evS G l x).V) fun v => k (.v v)
   | _ => xq E T G o l H k)
 | _ => xq E T G o l H k
def pvFree (pv : Pvl) (d : Option Tmp) : Bool :=
 match d with
 | some d => (match lkp pv d with | none => true | some _ => false)
 | none => true
abbrev Pe := Option (Nat × Nat × List V)
def tkFree (tk : List Nat) (d : Option Tmp) : Bool :=
 match d with
 | some d => !hasN tk d
 | none => true
def dropN : List Nat → Nat → List Nat
 | [], _ => []
 | x :: l, n => match Nat.beq n x with | true => dropN l n | false => x :: dropN l n
def dropT (s : Option Nat) (tk : List Nat) : List Nat :=
 match s with
 | some d => dropN tk d
 | none => tk
def xsrc (tk : List Nat) (sx : Operand) (tl : Tail) : Option (Option Nat) :=
 match tl with
 | .nil => some none
 | .full => some none
 | .ro => (match sx with | .tmp d => (match hasN tk d with | true => some (some d) | false => none) | _ => none)
 | _ => none
def xpapp (o : Oper) (l : Fl) (tk : List Nat) (k : Nat → Option Nat → V → Prop) : Prop :=
 match o.op, o.dst, o.guard with
 | .call { callee := .builtin .append, args := ⟨[sx, sy]⟩, argTypes := ⟨[sT, yT]⟩ }, some dd, none =>
  (match (evS [] l sx).V, (evS [] l sy).V with
   | .sl xs tlx, .sl ys _ =>
    (match xsrc tk sx tlx with
     | some src =>
      (match tg T sT, tg T yT with
       | some I, some I2 =>
        (match I.sl, I2.sl with
         | some e, some _ =>
          (match tg T e with
           | some J =>
            (match J.ze with
             | some z => if 0 < J.sz ∧ 0 < J.by_ ∧ z.one = true ∧ z.cells.length = J.sz then E.appq J.sz J.by_ xs ys fun v => k dd src v else False
             | none => False)
           | none => False)
         | _, _ => False)
       | _, _ => False)
     | none => False)
   | _, _ => False)
 | _, _, _ => False
def xdB (ads : List Nat) (ops : Array Oper) : List Oper → Fl → Pvl → Pe → List Nat → Heap → (Fl → Pvl → Pe → List Nat → Prop) → Prop
 | [], l, pv, pe, tk, _, K => K l pv pe tk
 | o :: rest, l, pv, pe, tk, H, K =>
  match dstOk nt o.dst, pvFree pv o.dst, tkFree tk o.dst with
  | true, true, true =>
   (match A (o.dst.getD 0 + 3000000) with
    | true => xpapp E T o l tk fun dd src v => xdB ads ops rest ((dd, .v v) :: l) pv pe (dd :: dropT src tk) H K
    | false =>
     (match o.op with
      | .alloc t =>
       (match o.guard, o.dst, tg T t with
        | none, some d, some I =>
         (match I.ze with
          | some z => (match z.one with | true => xdB ads ops rest ((d, .v .bad) :: l) ((d, z.cells) :: pv) pe tk H K | false => False)
          | none => False)
        | _, _, _ => False)
      | .store t (.tmp d) y =>
       (match o.guard, tg T t with
        | none, some I =>
         (match lkp pv d with
          | some cs => if (evS [] l y).V.one = true ∧ (evS [] l y).V.cells.length = I.sz ∧ I.sz ≤ cs.length then xdB ads ops rest (putl o.dst (.v .bad) l) ((d, splice cs 0 (evS [] l y).V.cells) :: pv) pe tk H K else False
          | none =>
           (match hasN ads d, opndO [] l d, pe with
            | true, some (.v (.ref id off)), some (ds, id', cs) =>
             if (evS [] l y).V.one = true ∧ (evS [] l y).V.cells.length = I.sz ∧ off + I.sz ≤ cs.length then E.need (id = id') fun _ => xdB ads ops rest (putl o.dst (.v .bad) l) pv (some (ds, id', splice cs off (evS [] l y).V.cells)) tk H K else False
            | _, _, _ => False))
        | _, _ => False)
      | .store _ _ _ => False
      | _ => xguard E ops o 4 l (fun G l' wr => xqd E T G o l' H fun s => xdB ads ops rest (putl o.dst (wr s) l') pv pe tk H K) fun l' => xdB ads ops rest (putl o.dst (.v (.tup [])) l') pv pe tk H K))
  | _, _, _ => False
def xnameF : List Nat → Pvl → Fl → Heap → (Fl → Heap → Prop) → Prop
 | [], _, l, H, K => K l H
 | d :: ds, pv, l, H, K =>
  match lkp pv d with
  | some cs => (match A d with | true => E.alloc H cs fun id H' => xnameF ds pv ((d, .v (.ref id 0)) :: l) H' K | false => xnameF ds pv ((d, .v (.eref cs 0)) :: l) H K)
  | none => False
def xtail (ops : Array Oper) : List Oper → Fl → Heap → (Fl → Heap → Prop) → Prop
 | [], l, H, K => K l H
 | o :: rest, l, H, K =>
  match dstOk nt o.dst with
  | true => xguard E ops o 4 l (fun G l' wr => xop E T A G o l' H fun s H' => xtail ops rest (putl o.dst (wr s) l') H' K) fun l' => xtail ops rest (putl o.dst (.v (.tup [])) l') H K
  | false => False
def allocsOf : List Oper → List Nat
 | [] => []
 | o :: l => match o.op, o.dst with | .alloc _, some d => d :: allocsOf l | _, _ => allocsOf l
def xgive (pe : Pe) (H : Heap) (K : Heap → Prop) : Prop :=
 match pe with
 | some (_, id, cs) => E.give H id cs K
 | none => K H
def xtake (w : Option (Nat × List Nat)) (l : Fl) (H : Heap) (K : List Nat → Pe → Heap → Prop) : Prop :=
 match w with
 | none => K [] none H
 | some (d, ads) => (match lk l d with | .v (.ref id 0) => E.frz H id fun cs H' => K ads (some (d, id, cs)) H' | _ => False)
def xdraw (w : Option (Nat × List Nat)) (k : Nat) (ops : Array Oper) (l : Fl) (H : Heap) (K : Fl → Heap → Prop) : Prop :=
 xtake E w l H fun ads pe H1 => xdB E T nt A ads ops (ops.toList.take k) l [] pe [] H1 fun l' pv pe' _ => xgive E pe' H1 fun H2 => xnameF E A (allocsOf (ops.toList.take k)) pv l' H2 fun l'' H' => xtail E T nt A ops (ops.toList.drop k) l'' H' K
end
section
variable {P : Program} {nt : Nat} {rd : Option Nat} {T : Tbl} {A : Nat → Bool} {df : List Nat}
theorem xqd_sound (hT : TOk P T) {G : List (Nat × Bool)} {o : Oper} {l : Fl} (hG : Gok G l) {H : Heap} {k : Sl → Prop} (h : xqd (real P nt rd) T G o l H k) : ∃ s : Sl, opQ P o (ev (frOf ⟨l, df⟩)) H s.V ∧ k s := by
 unfold xqd at h
 split at h
 ·rename_i c ho
  split at h
  ·rename_i x hc
   obtain ⟨v, h1, h2⟩ := h
   rw [evS_ev (df := df) hG, show (c.args.toList.map fun x => (evS G l x).V) = c.args.toList.map (ev (frOf ⟨l, df⟩)) from List.map_congr_left fun p _ => evS_ev hG p] at h1
   exact ⟨.v v, by simp only [opQ, ho, hc]; exact h1, h2⟩
  ·exact xq_sound hT hG h
 ·exact xq_sound hT hG h
theorem xqd_tot (hT : TOk P T) {G : List (Nat × Bool)} {o : Oper} {l : Fl} {H : Heap} {k : Sl → Prop} (ht : isTot G o l = true) (h : xqd (real P nt rd) T G o l H k) : ∃ s, k s := by
 unfold xqd at h
 split at h
 ·rename_i c ho
  split at h
  ·obtain ⟨v, h1, h2⟩ := h
   exact ⟨_, h2⟩
  ·exact xq_tot hT ht h
 ·exact xq_tot hT ht h
theorem xtail_sound (hT : TOk P T) {ops : Array Oper} {K : Fl → Heap → Prop} : ∀ (rest : List Oper) (l : Fl) (H : Heap), xtail (real P nt rd) T nt A ops rest l H K → opsA P A nt ops rest (frOf ⟨l, df⟩) H fun fr H' => ∃ l', fr = frOf ⟨l', df⟩ ∧ K l' H'
 | [], l, H, h => ⟨l, rfl, h⟩
 | o :: rest, l, H, h => by
  unfold xtail at h
  split at h
  ·rename_i hd
   simp only [opsA]
   refine ⟨hd, ?_⟩
   obtain ⟨l', e, h⟩ := xguard_sound (df := df) 4 l h
   have e : frOf ⟨l', df⟩ = frOf ⟨l, df⟩ := by simp only [frOf, Fr.mk.injEq, and_true]; funext t; exact e t
   rcases h with ⟨hg, G, wr, hG, hwr, h⟩ | ⟨hg, h⟩
   ·rw [hg]
    rw [← e]
    refine opA_mono (xop_sound (df := df) hT hG h) fun v H' ⟨s, hv, hk⟩ => ?_
    subst hv
    rw [← hwr s, ← frOf_put]
    exact xtail_sound hT rest _ _ hk
   ·rw [hg]
    rw [← e]
    rcases h with h | ⟨G, d, want, ht, hb, h⟩
    ·have := xtail_sound hT rest _ _ h
     rw [frOf_put] at this
     exact this
    ·obtain ⟨s, h⟩ := xop_tot hT ht h
     have := xtail_sound hT rest _ _ h
     rw [frOf_put] at this
     simp only [slV, hb, cond_false] at this
     exact this
  ·exact h.elim
def pvOf (pv : Pvl) (pe : Pe) (tk : List Nat) : Pv
 | .inl d => lkp pv d
 | .inr x => (match pe with | some (_, id, cs) => if x = id then some cs else none | none => none)
 | .tk d => (match hasN tk d with | true => some [] | false => none)
theorem beq_of {a b : Nat} : Nat.beq a b = true ↔ a = b := ⟨Nat.eq_of_beq_eq_true, fun h => by subst h; exact Nat.beq_refl _⟩
theorem lkp_cons {pv : Pvl} {d t : Nat} {cs : List V} : lkp ((d, cs) :: pv) t = if t = d then some cs else lkp pv t := by
 simp only [lkp]
 by_cases h : t = d
 ·subst h; simp [Nat.beq_refl]
 ·have : Nat.beq t d = false := by
   cases hb : Nat.beq t d with
   | false => rfl
   | true => exact absurd (Nat.eq_of_beq_eq_true hb) h
  simp [this, h]
theorem hasN_cons {tk : List Nat} {d t : Nat} : hasN (d :: tk) t = (decide (t = d) || hasN tk t) := by
 simp only [hasN]
 by_cases h : t = d
 ·subst h; simp [Nat.beq_refl]
 ·have : Nat.beq t d = false := by
   cases hb : Nat.beq t d with
   | false => rfl
   | true => exact absurd (Nat.eq_of_beq_eq_true hb) h
  simp [this, h]
theorem hasN_drop {d t : Nat} : ∀ {tk : List Nat}, hasN (dropN tk d) t = (!decide (t = d) && hasN tk t)
 | [] => by simp [dropN, hasN]
 | x :: l => by
  simp only [dropN]
  split
  ·rename_i h
   have := beq_of.1 h
   subst this
   rw [hasN_drop (tk := l), hasN_cons]
   by_cases e : t = d <;> simp [e]
  ·rename_i h
   have hne : d ≠ x := fun e => by rw [beq_of.2 e] at h; cases h
   rw [hasN_cons, hasN_cons, hasN_drop (tk := l)]
   by_cases e : t = x
   ·subst e; simp [Ne.symm hne]
   ·simp [e]
theorem pvOf_cons {pv : Pvl} {pe : Pe} {tk : List Nat} {d : Nat} {cs : List V} : pvOf ((d, cs) :: pv) pe tk = pvSet (pvOf pv pe tk) (.inl d) cs := by
 funext t
 cases t with
 | inl t =>
  simp only [pvOf, pvSet, lkp_cons, Pk.inl.injEq]
 | inr x => simp [pvOf, pvSet]
 | tk x => simp [pvOf, pvSet]
theorem pvOf_pe {pv : Pvl} {tk : List Nat} {ds id : Nat} {cs cs' : List V} : pvOf pv (some (ds, id, cs')) tk = pvSet (pvOf pv (some (ds, id, cs)) tk) (.inr id) cs' := by
 funext t
 cases t with
 | inl t => simp [pvOf, pvSet]
 | inr x =>
  simp only [pvOf, pvSet, Pk.inr.injEq]
  by_cases h : x = id <;> simp [h]
 | tk x => simp [pvOf, pvSet]
theorem pvOf_tk {pv : Pvl} {pe : Pe} {tk : List Nat} {d : Nat} {src : Option Nat} : pvOf pv pe (d :: dropT src tk) = pvSet (pvDel (pvOf pv pe tk) src) (.tk d) [] := by
 funext t
 cases t with
 | inl t => rw [pvSet_ne (by simp), pvDel_other (by simp)]; rfl
 | inr x => rw [pvSet_ne (by simp), pvDel_other (by simp)]; rfl
 | tk x =>
  by_cases h : x = d
  ·subst h
   have : hasN (x :: dropT src tk) x = true := by rw [hasN_cons]; simp
   simp [pvOf, pvSet, this]
  ·rw [pvSet_ne (fun e => by cases e; exact h rfl)]
   have e1 : hasN (d :: dropT src tk) x = hasN (dropT src tk) x := by rw [hasN_cons]; simp [h]
   cases src with
   | none => simp only [pvOf, e1]; rfl
   | some c =>
    have e2 : hasN (dropT (some c) tk) x = (!decide (x = c) && hasN tk x) := hasN_drop
    simp only [pvOf, pvDel, e1, e2, Pk.tk.injEq]
    by_cases hc : x = c <;> simp [hc]
theorem pvFree_ok {pv : Pvl} {pe : Pe} {tk : List Nat} {d : Option Tmp} (h : pvFree pv d = true) (h2 : tkFree tk d = true) : dstFree (pvOf pv pe tk) d := by
 cases d with
 | none => trivial
 | some d =>
  simp only [pvFree] at h
  simp only [tkFree, Bool.not_eq_true'] at h2
  simp only [dstFree, pvOf, h2, and_true]
  split at h
  ·assumption
  ·cases h
theorem xsrc_ok {l : Fl} {pv : Pvl} {pe : Pe} {tk : List Nat} {sx : Operand} {tl : Tail} {src : Option Nat} (h : xsrc tk sx tl = some src) : PSrc (pvOf pv pe tk) sx tl src := by
 unfold xsrc at h
 split at h
 ·cases h; exact .inl rfl
 ·cases h; exact .inr rfl
 ·split at h
  ·rename_i d
   split at h
   ·rename_i hd
    cases h
    exact ⟨rfl, rfl, by simp [pvOf, hd]⟩
   ·cases h
  ·cases h
 ·cases h
theorem xpapp_sound (hT : TOk P T) {o : Oper} {l : Fl} {pv : Pvl} {pe : Pe} {tk : List Nat} {k : Nat → Option Nat → V → Prop} (h : xpapp (real P nt rd) T o l tk k) : ∃ dd src v, o.dst = some dd ∧ PApp P o (frOf ⟨l, df⟩) (pvOf pv pe tk) src v ∧ k dd src v := by
 unfold xpapp at h
 split at h
 ·rename_i sx sy sT yT dd ho hdst hg
  split at h
  ·rename_i xs tlx ys tly e1 e2
   rw [evS_ev (l := l) (df := df) Gok.nil] at e1 e2
   split at h
   ·rename_i src hs
    split at h
    ·rename_i I I2 hI hI2
     split at h
     ·rename_i e e2' he he2
      split at h
      ·rename_i J hJ
       split at h
       ·rename_i z hz
        have ez := (tg_ok hT hJ).ze; rw [hz] at ez; simp only [optOk] at ez
        split at h
        ·rename_i hc
         obtain ⟨c1, c2, c3, c4⟩ := hc
         obtain ⟨xs', ys', l1, l2, k1, k2, k3, k4⟩ := h
         exact ⟨dd, src, _, hdst, ⟨hg, sx, sy, sT, yT, xs, tlx, ys, tly, xs', ys', ho, e1, e2, xsrc_ok (l := l) hs, ⟨e, J.sz, J.by_, z, (tg_ok hT hI).sl.trans he, by rw [(tg_ok hT hI2).sl, he2]; rfl, (tg_ok hT hJ).sz, c1, (tg_ok hT hJ).by_, c2, ez, c3, c4, l1, l2, k1, k2, k3⟩, rfl⟩, k4⟩
        ·exact h.elim
       ·exact h.elim
      ·exact h.elim
     ·exact h.elim
    ·exact h.elim
   ·exact h.elim
  ·exact h.elim
 ·exact h.elim
theorem xdB_sound (hT : TOk P T) {ads : List Nat} {ops : Array Oper} {H : Heap} {K : Fl → Pvl → Pe → List Nat → Prop} : ∀ (rest : List Oper) (l : Fl) (pv : Pvl) (pe : Pe) (tk : List Nat), xdB (real P nt rd) T nt A ads ops rest l pv pe tk H K →
 drawB P nt ops H rest (frOf ⟨l, df⟩) (pvOf pv pe tk) fun fr pv' => ∃ l' pl pe' tk', fr = frOf ⟨l', df⟩ ∧ pv' = pvOf pl pe' tk' ∧ pe'.map (fun p => p.2.1) = pe.map (fun p => p.2.1) ∧ K l' pl pe' tk'
 | [], l, pv, pe, tk, h => ⟨l, pv, pe, tk, rfl, rfl, rfl, h⟩
 | o :: rest, l, pv, pe, tk, h => by
  unfold xdB at h
  split at h
  ·rename_i hd hf hft
   simp only [drawB]
   unfold drawS
   refine ⟨⟨hd, pvFree_ok hf hft⟩, ?_⟩
   split at h
   ·obtain ⟨dd, src, v, hdst, hP, h⟩ := xpapp_sound (df := df) (pv := pv) (pe := pe) hT h
    refine ⟨v, _, .inr (.inr (.inr ⟨dd, src, hdst, hP, rfl⟩)), ?_⟩
    have := xdB_sound hT rest _ _ _ _ h
    rw [pvOf_tk, show (dd, Sl.v v) :: l = putl (some dd) (.v v) l from rfl, frOf_put] at this
    rw [hdst]; exact this
   split at h
   ·rename_i t ho
    split at h
    ·rename_i d I hg hdst hI
     split at h
     ·rename_i z hz
      have ez := (tg_ok hT hI).ze; rw [hz] at ez; simp only [optOk] at ez
      split at h
      ·rename_i h1
       refine ⟨.bad, _, .inr (.inl ⟨t, z, d, ho, hg, hdst, ez, h1, rfl, rfl⟩), ?_⟩
       have := xdB_sound hT rest _ _ _ _ h
       rw [pvOf_cons, show (d, Sl.v V.bad) :: l = putl (some d) (.v .bad) l from rfl, frOf_put] at this
       rw [hdst]; exact this
      ·exact h.elim
     ·exact h.elim
    ·exact h.elim
   ·rename_i t d y ho
    split at h
    ·rename_i I hg hI
     have hev := evS_ev (l := l) (df := df) Gok.nil y
     split at h
     ·rename_i cs hcs
      split at h
      ·rename_i hc
       obtain ⟨c1, c2, c3⟩ := hc
       rw [hev] at c1 c2 h
       refine ⟨.bad, _, .inr (.inr (.inl ⟨t, d, y, .inl d, 0, cs, ho, hg, .inl ⟨rfl, rfl, hcs⟩, c1, by rw [c2]; exact (tg_ok hT hI).sz, by rw [c2]; omega, rfl, rfl⟩)), ?_⟩
       have := xdB_sound hT rest _ _ _ _ h
       rw [pvOf_cons, frOf_put] at this
       exact this
      ·exact h.elim
     ·rename_i hcs
      split at h
      ·rename_i id off ds id' cs _ hop
       split at h
       ·rename_i hc
        obtain ⟨c1, c2, c3⟩ := hc
        obtain ⟨he, h⟩ := h
        subst he
        rw [hev] at c1 c2 h
        have hd : (frOf ⟨l, df⟩).s d = .ref id off := (opndO_ok Gok.nil hop).1.symm
        refine ⟨.bad, _, .inr (.inr (.inl ⟨t, d, y, .inr id, off, cs, ho, hg, .inr ⟨id, rfl, hd, hcs, by simp [pvOf]⟩, c1, by rw [c2]; exact (tg_ok hT hI).sz, by rw [c2]; exact c3, rfl, rfl⟩)), ?_⟩
        have := xdB_sound hT rest _ _ _ _ h
        rw [pvOf_pe (cs := cs), frOf_put] at this
        exact this
       ·exact h.elim
      ·exact h.elim
    ·exact h.elim
   ·exact h.elim
   ·rename_i n1 n2 n3
    have key : ∃ v, QStep P ops H o (frOf ⟨l, df⟩) v ∧ drawB P nt ops H rest ((frOf ⟨l, df⟩).put o.dst v) (pvOf pv pe tk) fun fr pv' => ∃ l' pl pe' tk', fr = frOf ⟨l', df⟩ ∧ pv' = pvOf pl pe' tk' ∧ pe'.map (fun p => p.2.1) = pe.map (fun p => p.2.1) ∧ K l' pl pe' tk' := by
     obtain ⟨l', e, h⟩ := xguard_sound (df := df) 4 l h
     have e : frOf ⟨l', df⟩ = frOf ⟨l, df⟩ := by simp only [frOf, Fr.mk.injEq, and_true]; funext t; exact e t
     rcases h with ⟨hg, G, wr, hG, hwr, h⟩ | ⟨hg, h⟩
     ·obtain ⟨s, h1, h2⟩ := xqd_sound (df := df) hT hG h
      refine ⟨s.V, by simp only [QStep, hg]; rw [← e]; exact h1, ?_⟩
      have := xdB_sound hT rest _ _ _ _ h2
      rw [frOf_put, hwr s, e] at this
      exact this
     ·refine ⟨.tup [], by simp only [QStep, hg], ?_⟩
      rcases h with h | ⟨G, d, want, ht, hb, h⟩
      ·have := xdB_sound hT rest _ _ _ _ h
       rw [frOf_put, e] at this
       exact this
      ·obtain ⟨s, h⟩ := xqd_tot hT ht h
       have := xdB_sound hT rest _ _ _ _ h
       rw [frOf_put, e] at this
       simp only [slV, hb, cond_false] at this
       exact this
    obtain ⟨v, h1, h2⟩ := key
    refine ⟨v, _, .inl ⟨?_, ?_, h1, rfl⟩, h2⟩
    ·cases hx : o.op <;> first | rfl | exact absurd hx (n1 _)
    ·cases hx : o.op <;> first | rfl | exact absurd hx (n3 _ _ _)
  ·exact h.elim
theorem xnameF_sound {pe : Pe} {tk : List Nat} {K : Fl → Heap → Prop} : ∀ (ds : List Nat) (pv : Pvl) (l : Fl) (H : Heap), xnameF (real P nt rd) A ds pv l H K → nameF A ds (pvOf pv pe tk) (frOf ⟨l, df⟩) H fun fr H' => ∃ l', fr = frOf ⟨l', df⟩ ∧ K l' H'
 | [], pv, l, H, h => ⟨l, rfl, h⟩
 | d :: ds, pv, l, H, h => by
  unfold xnameF at h
  simp only [nameF]
  split at h
  ·rename_i cs hcs
   have hcs' : pvOf pv pe tk (.inl d) = some cs := hcs
   rw [hcs']
   simp only
   split at h
   ·rename_i hA
    rw [if_pos hA]
    intro id hid
    have := xnameF_sound (pe := pe) (tk := tk) ds pv _ _ (h id hid)
    rw [show (d, Sl.v (V.ref id 0)) :: l = putl (some d) (.v (.ref id 0)) l from rfl, frOf_put] at this
    exact this
   ·rename_i hA
    rw [if_neg (by rw [hA]; simp)]
    have := xnameF_sound (pe := pe) (tk := tk) ds pv _ _ h
    rw [show (d, Sl.v (V.eref cs 0)) :: l = putl (some d) (.v (.eref cs 0)) l from rfl, frOf_put] at this
    exact this
  ·exact h.elim
theorem nameF_mono {A : Nat → Bool} {K K' : Fr → Heap → Prop} (hk : ∀ fr H, K fr H → K' fr H) : ∀ (ds : List Nat) (pv : Pv) (fr : Fr) (H : Heap), nameF A ds pv fr H K → nameF A ds pv fr H K'
 | [], _, _, _, h => hk _ _ h
 | d :: ds, pv, fr, H, h => by
  simp only [nameF] at h ⊢
  split at h
  ·split at h
   ·rename_i hA; rw [if_pos hA]; exact fun id hid => nameF_mono hk ds _ _ _ (h id hid)
   ·rename_i hA; rw [if_neg hA]; exact nameF_mono hk ds _ _ _ h
  ·exact h.elim
theorem drawB_mono {ops : Array Oper} {H : Heap} {K K' : Fr → Pv → Prop} (hk : ∀ fr pv, K fr pv → K' fr pv) : ∀ (l : List Oper) (fr : Fr) (pv : Pv), drawB P nt ops H l fr pv K → drawB P nt ops H l fr pv K'
 | [], _, _, h => hk _ _ h
 | _ :: l, _, _, h => drawS_mono h fun fr pv h => drawB_mono hk l fr pv h
theorem opsA_mono {ops : Array Oper} {K K' : Fr → Heap → Prop} (hk : ∀ fr H, K fr H → K' fr H) : ∀ (l : List Oper) (fr : Fr) (H : Heap), opsA P A nt ops l fr H K → opsA P A nt ops l fr H K'
 | [], _, _, h => hk _ _ h
 | o :: l, fr, H, h => by
  simp only [opsA] at h ⊢
  refine ⟨h.1, ?_⟩
  obtain ⟨_, h⟩ := h
  split at h
  ·rename_i hg; exact opA_mono h fun v H' h => opsA_mono hk l _ _ h
  ·rename_i hg; exact opsA_mono hk l _ _ h
  ·exact h.elim
theorem xdraw_sound (hT : TOk P T) {w : Option (Nat × List Nat)} {k : Nat} {ops : Array Oper} {l : Fl} {H : Heap} {K : Fl → Heap → Prop} {id : Nat} (hm : P.follows .mixedOrders = true) (hok : drawOk ops k = true) (hnd : (allocsOf (ops.toList.take k)).Nodup)
 (h : xdraw (real P nt rd) T nt A w k ops l H K) : Sim P nt rd (.region id ops true) (frOf ⟨l, df⟩) H fun e fr H' => e = .normal ∧ ∃ l', fr = frOf ⟨l', df⟩ ∧ K l' H' := by
 have rest : ∀ (l' : Fl) (pl : Pvl) (pe : Pe) (tk : List Nat) (H2 : Heap), xnameF (real P nt rd) A (allocsOf (ops.toList.take k)) pl l' H2 (fun l'' H' => xtail (real P nt rd) T nt A ops (ops.toList.drop k) l'' H' K) →
  nameF A (allocsOf (ops.toList.take k)) (pvOf pl pe tk) (frOf ⟨l', df⟩) H2 fun fr H' => opsA P A nt ops (ops.toList.drop k) fr H' fun fr H' => .normal = Exit.normal ∧ ∃ l', fr = frOf ⟨l', df⟩ ∧ K l' H' := fun l' pl pe tk H2 h => by
  refine nameF_mono (fun fr H' ⟨l'', e1, h⟩ => ?_) _ _ _ _ (xnameF_sound (df := df) (pe := pe) (tk := tk) _ _ _ _ h)
  subst e1
  exact opsA_mono (fun fr H' ⟨l', e, hk⟩ => ⟨rfl, l', e, hk⟩) _ _ _ (xtail_sound (df := df) hT _ _ _ h)
 unfold xdraw xtake at h
 cases w with
 | none =>
  refine Sim.drawF (A := A) (W := []) hm hok hnd (fun p hp => by simp at hp) ?_
  have e0 : pvW [] = pvOf [] none [] := by funext x; cases x <;> rfl
  rw [e0]
  refine drawB_mono (fun fr pv ⟨l', pl, pe', tk', e1, e2, e3, h⟩ => ?_) _ _ _ (xdB_sound (df := df) hT _ _ _ _ _ h)
  subst e1; subst e2
  cases pe' with
  | some p => cases e3
  | none => exact rest _ _ _ _ _ h
 | some p =>
  obtain ⟨d, ads⟩ := p
  simp only at h
  split at h
  ·rename_i bid hl
   obtain ⟨cs, hk, h⟩ := h
   refine Sim.drawF (A := A) (W := [(bid, cs)]) hm hok hnd (fun p hp => by simp at hp; subst hp; exact hk) ?_
   have e0 : pvW [(bid, cs)] = pvOf [] (some (d, bid, cs)) [] := by
    funext x
    cases x with
    | inl x => rfl
    | inr x =>
     simp only [pvW, pvOf, List.find?]
     by_cases hx : x = bid
     ·subst hx; simp
     ·have : (bid == x) = false := by simpa using fun e => hx e.symm
      simp [this, hx]
    | tk x => rfl
   rw [e0]
   refine drawB_mono (fun fr pv ⟨l', pl, pe', tk', e1, e2, e3, h⟩ => ?_) _ _ _ (xdB_sound (df := df) hT _ _ _ _ _ h)
   subst e1; subst e2
   cases pe' with
   | none => cases e3
   | some q =>
    obtain ⟨d', id', cs'⟩ := q
    simp only [Option.map_some, Option.some.injEq] at e3
    subst e3
    have hp : pvOf pl (some (d', id', cs')) tk' (.inr id') = some cs' := by simp [pvOf]
    unfold giveF
    rw [hp]
    exact rest _ _ (some (d', id', cs')) _ _ h
  ·exact h.elim
end
end Go.Ab

namespace Go.Ab
open Go.RowKit
variable [Glob]
def lay (c : Array Value) (A sz : Nat) (f : Nat → Value) : Array Value := (c.toList.take A ++ (List.range sz).map f ++ c.toList.drop (A + sz)).toArray
theorem lay_size {c : Array Value} {A sz : Nat} {f : Nat → Value} (h : A + sz ≤ c.size) : (lay c A sz f).size = c.size := by simp [lay]; omega
theorem lay_lay {c : Array Value} {A sz : Nat} {f f' : Nat → Value} (h : A + sz ≤ c.size) : lay (lay c A sz f) A sz f' = lay c A sz f' := by
 have e1 : (lay c A sz f).toList.take A = c.toList.take A := by
  simp only [lay, List.append_assoc]
  rw [List.take_append_of_le_length (by simp; omega), List.take_take]; simp
 have e2 : (lay c A sz f).toList.drop (A + sz) = c.toList.drop (A + sz) := by
  simp only [lay]
  rw [List.drop_append_of_le_length (by simp; omega)]
  rw [List.drop_of_length_le (by simp; omega)]; simp
 unfold lay at e1 e2 ⊢
 rw [e1, e2]
theorem lay_get {c : Array Value} {A sz : Nat} {f : Nat → Value} (h : A + sz ≤ c.size) {k : Nat} (hk : k < c.size) : (lay c A sz f)[k]? = if A ≤ k ∧ k < A + sz then some (f (k - A)) else c[k]? := by
 have := (lay_row (vs := (List.range sz).map f) (m := sz) (A := A) (c := c) (by simp) h rfl).2 k hk
 rw [show lay c A sz f = (c.toList.take A ++ (List.range sz).map f ++ c.toList.drop (A + sz)).toArray from rfl, this]
 split
 ·rename_i hc; rw [List.getElem?_map, List.getElem?_range (by omega)]; rfl
 ·rfl
theorem setRow_setRow (w : World) (b : Nat) (c c' : Array Value) : (w.setRow b c).setRow b c' = w.setRow b c' := by
 simp only [World.setRow, World.mk.injEq, and_true]
 apply Array.ext
 ·simp
 ·intro i h1 h2
  simp only [Array.getElem_modify]
  split
  ·cases w.heap[i]'(by simpa using h1) <;> rfl
  ·rfl
theorem setRow_comm (w : World) {b b' : Nat} (c c' : Array Value) (h : b ≠ b') : (w.setRow b c).setRow b' c' = (w.setRow b' c').setRow b c := by
 simp only [World.setRow, World.mk.injEq, and_true]
 apply Array.ext
 ·simp
 ·intro i h1 h2
  simp only [Array.getElem_modify]
  by_cases e1 : b = i <;> by_cases e2 : b' = i
  ·omega
  ·simp [e1, e2]
  ·simp [e1, e2]
  ·simp [e1, e2]
theorem alloc_setRow (w : World) (C C' : Array Value) (e : TypeId) : (w.alloc (.cells C e)).setRow w.heap.size C' = w.alloc (.cells C' e) := by
 simp only [World.alloc, World.setRow, World.mk.injEq, and_true]
 apply Array.ext
 ·simp
 ·intro i h1 h2
  simp only [Array.getElem_modify, Array.getElem_push]
  have : i < w.heap.size + 1 := by simpa using h2
  by_cases e : w.heap.size = i
  ·subst e; simp
  ·rw [if_neg e]
   have : i < w.heap.size := by omega
   simp [this]
section
variable {P : Program} {H : Heap}
theorem storeCells_lay {w : World} {b A sz : Nat} {c : Array Value} {T : TypeId} {f : Nat → Value} (hw : w.heap[b]? = some (.cells c T (0, 0))) (h : A + sz ≤ c.size) (hf : ∀ j, j < sz → (f j).oneCell' = true) :
 (storeCells ⟨b, A, none⟩ ((List.range sz).map f)).run P w = .ok () (w.setRow b (lay c A sz f)) := by
 have := run_storeCells_at P b A T ((List.range sz).map f) 0 c w hw (by simp; omega) (by
  intro v hv
  obtain ⟨k, hk, rfl⟩ := List.mem_map.1 hv
  exact hf k (List.mem_range.1 hk))
 simpa [lay] using this
theorem append_one {g : Gh} {w : World} (hR : Rl g H w) {sT yT e ty : TypeId} {sz by_ : Nat} {z : V} {xs : List V} {tl : Tail} {vs : Value} (hvs : VR g w vs (.sl xs tl)) (he : slO P sT = some e) (hyT : (slO P yT).isSome = true) (hsz : szO P e = some sz) (hpos : 0 < sz) (hby : byO P e = some by_) (hbp : 0 < by_)
 (hz : zeO P e = some z) (hz1 : z.one = true) (hzl : z.cells.length = sz) (hA : AppOk H tl) (hax : xs.all (fun x => x.cells.length == sz) = true) (hbound : (xs.length + 1) * by_ ≤ 140737488355328) :
 ∃ (b off G : Nat) (W : (Nat → Value) → World) (C : (Nat → Value) → Array Value) (T : TypeId),
  (∀ (y0 : V) (tl' : Tail) (vy : Value), VR g w vy (.sl [y0] tl') → y0.cells.length = sz → ∃ f0, (∀ j, j < sz → (f0 j).oneCell' = true) ∧ (Builtin.append_ #[sT, yT] ty #[vs, vy]).run P w = .ok (.slice (some ⟨b, off, none⟩) (xs.length + 1) G) (W f0)) ∧
  xs.length + 1 ≤ G ∧
  (∀ f, (W f).heap[b]? = some (.cells (C f) T (0, 0)) ∧ off + xs.length * sz + sz ≤ (C f).size) ∧
  (∀ f f', (W f).setRow b (lay (C f) (off + xs.length * sz) sz f') = W f') ∧
  (∀ x, x ≠ b → x < w.heap.size → ∀ f, (W f).heap[x]? = w.heap[x]?) ∧
  (∀ id x, g.at (dropTok H tl) id = some x → x ≠ b) ∧
  (∀ (vV : V) (f : Nat → Value), vV.cells.length = sz → (∀ j, j < sz → (f j).oneCell' = true ∧ VR g w (f j) (vV.cells.getD j .bad)) →
   ∃ g' t, Stp g w g' (W f) ∧ dropTok H tl t = none ∧ Rl g' (upd (dropTok H tl) t (some .spare)) (W f) ∧ VR g' (W f) (.slice (some ⟨b, off, none⟩) (xs.length + 1) G) (.sl (xs ++ [vV]) (.tok t))) := by
 obtain ⟨base, cap, fs, es, hcap, hfs, hrs, hbs⟩ := slice_cells (P := P) hvs hax
 have hu := slO_some he
 obtain ⟨e', hyT'⟩ := Option.isSome_iff_exists.1 hyT
 have huy := slO_some hyT'
 obtain ⟨zv, ez, hzv⟩ := zeO_run hz
 have hzr : VR g w zv z := by rw [ez]; exact cv_rel g w zv
 have hzs : zv.cells.size = sz := by rw [(hzr.cells hz1).1, hzl]
 have hbytes : ∀ w, (typeInfo e).run P w = .ok ((P.info? e).getD default) w ∧ ((P.info? e).getD default).bytes = by_ := by
  intro w
  unfold byO at hby
  cases hi : P.info? e with
  | none => simp [hi] at hby
  | some i => simp [hi] at hby; simp [typeInfo, hi, hby]
 have hbi : ∀ w, (typeInfo e).run P w = .ok ((P.info? e).getD default) w := fun w => (hbytes w).1
 have hbb := (hbytes w).2
 have hR1 : Rl g (dropTok H tl) w := hR.less fun id b hb => dropTok_some hb
 have hlenx := getD_of_all hax
 have hlenxy : ∀ (vV : V), vV.cells.length = sz → ∀ i, i < xs.length + 1 → ((xs ++ [vV]).getD i .bad).cells.length = sz := fun vV hv i hi => by
  rw [getD_append]; split
  ·exact hlenx i (by assumption)
  ·rw [show i - xs.length = 0 by omega]; exact hv
 have hsrc : ∀ (y0 : V) (tl' : Tail) (vy : Value), VR g w vy (.sl [y0] tl') → y0.cells.length = sz → ∃ ybase ycap f0, vy = .slice ybase 1 ycap ∧ (∀ j, j < sz → (f0 j).oneCell' = true) ∧
  ∀ w' : World, (∀ b o, w'.cell? ⟨b, o, none⟩ = w.cell? ⟨b, o, none⟩) → (Builtin.firstCells sz 1 vy).run P w' = .ok ((List.range sz).map f0).toArray w' := fun y0 tl' vy hvy hy0 => by
  obtain ⟨ybase, ycap, fy, ey, _, hfy, hry, _⟩ := slice_cells (P := P) (sz := sz) hvy (by simp [hy0])
  refine ⟨ybase, ycap, fun j => fy 0 j, ey, fun j hj => (hfy 0 j (by simp) hj).1, fun w' hw' => ?_⟩
  have := hry w' hw'
  simp only [List.length_singleton, Nat.one_mul] at this
  rw [this]
  refine congrArg (fun l : List Value => Result.ok l.toArray w') (List.map_congr_left fun k hk => ?_)
  have hk' := List.mem_range.1 hk
  rw [Nat.div_eq_of_lt hk', Nat.mod_eq_of_lt hk']
 have hvals : ∀ (vV : V) (f : Nat → Value), (∀ j, j < sz → (f j).oneCell' = true ∧ VR g w (f j) (vV.cells.getD j .bad)) → ∀ (g' : Gh) (w' : World), Stp g w g' w' → ∀ i j, i < xs.length + 1 → j < sz → (if i < xs.length then fs i j else f j).oneCell' = true ∧
  VR g' w' (if i < xs.length then fs i j else f j) (((xs ++ [vV]).getD i .bad).cells.getD j .bad) := by
  intro vV f hf g' w' st i j hi hj
  rw [getD_append]
  split
  ·rename_i hlt; exact ⟨(hfs i j hlt hj).1, (hfs i j hlt hj).2.mono st⟩
  ·rw [show i - xs.length = 0 by omega]
   exact ⟨(hf j hj).1, (hf j hj).2.mono st⟩
 have hn63 : ¬ (IntKind.i64.max < ((xs.length + 1 : Nat) : Int) ∧ (False ∨ by_ = 0)) := by
  rintro ⟨_, hF | hF⟩
  ·exact hF
  ·omega
 by_cases hc : xs.length + 1 ≤ cap
 ·
  rcases hbs with ⟨hx0, hc0 | hc0, _⟩ | ⟨b, q, hbase, hcell, _, sz', hsz', htl⟩
  ·subst hx0; simp at hc; omega
  ·subst hc0; exact hA.elim
  ·cases tl with
   | nil => exact htl.elim
   | ro => exact hA.elim
   | full => simp only [TailOk] at htl; omega
   | tok t =>
    obtain ⟨hn0, lim, ht1, ht2⟩ := htl
    have := hsz' hn0
    subst this
    have hA' : H t = some .spare := hA
    obtain ⟨b2, e2, lim2, c, T, k1, k2, k3, k4, k5, k6⟩ := hR.blk t _ hA'
    rw [ht1] at k1
    simp only [Option.some.injEq, Prod.mk.injEq] at k1
    obtain ⟨rfl, rfl, rfl⟩ := k1
    have hcapsz : (xs.length + 1) * sz' ≤ cap * sz' := Nat.mul_le_mul_right _ hc
    have hadd : (xs.length + 1) * sz' = xs.length * sz' + sz' := by rw [Nat.add_mul, Nat.one_mul]
    have hfit : q + xs.length * sz' + sz' ≤ c.size := by omega
    have hnown : ∀ id x, g.at (dropTok H (.tok t)) id = some x → x ≠ b := by
     rintro id x hid rfl
     have hat : g.at H t = some x := by simp [Gh.at, hA', ht1]
     by_cases hid' : id = t
     ·subst hid'; simp [Gh.at, dropTok, upd_same] at hid
     ·have : g.at H id = some x := by simpa only [Gh.at, dropTok, upd_other _ _ hid'] using hid
      exact hid' (hR.inj _ _ _ this hat)
    refine ⟨b, q, cap, fun f => w.setRow b (lay c (q + xs.length * sz') sz' f), fun f => lay c (q + xs.length * sz') sz' f, T, fun y0 tl' vy hvy hy0 => ?_, hc, fun f => ?_, fun f f' => ?_, fun x hx _ f => heap_setRow_other w b _ x hx, hnown, fun vV f hv hf => ?_⟩
    ·obtain ⟨ybase, ycap, f0, ey, hf0, hry⟩ := hsrc y0 tl' vy hvy hy0
     refine ⟨f0, hf0, ?_⟩
     have hst := storeCells_lay (P := P) (f := f0) k3 hfit hf0
     have hry' := hry w fun _ _ => rfl
     rw [ey] at hry' ⊢
     rw [es, hbase]
     simp only [Builtin.append_, Sem.run_bind, run_underlying hu, Result.andThen_ok, run_szO hsz, run_underlying huy, Sem.run_pure, Builtin.lenOf, Sem.run_ite, List.getElem?_toArray,
      List.getElem?_cons_zero, List.getElem?_cons_succ, Bool.false_eq_true, if_false, Bool.not_false, if_true, if_pos hc, hry', addr_add, hst]
    ·exact ⟨setRow_heap w b c _ T (0, 0) k3, by rw [lay_size hfit]; exact hfit⟩
    ·rw [setRow_setRow, lay_lay hfit]
    ·dsimp only
     have hCg : ∀ k, k < c.size → (lay c (q + xs.length * sz') sz' f)[k]? = if q + xs.length * sz' ≤ k ∧ k < q + xs.length * sz' + sz' then some (f (k - (q + xs.length * sz'))) else c[k]? := fun k hk => lay_get hfit hk
     generalize hC : lay c (q + xs.length * sz') sz' f = C at hCg
     have hCs : C.size = c.size := by rw [← hC]; exact lay_size hfit
     have hcellp : ∀ x o, g.fz x o → (w.setRow b C).cell? ⟨x, o, none⟩ = w.cell? ⟨x, o, none⟩ := by
      intro x o hf
      by_cases hx : x = b
      ·subst hx
       have ho : o < q + xs.length * sz' := by
        rcases Nat.lt_or_ge o (q + xs.length * sz') with h | h
        ·exact h
        ·exact absurd hf (k6 o h)
       have hw' : (w.setRow x C).heap[x]? = some (.cells C T (0, 0)) := setRow_heap w x c C T (0, 0) k3
       simp only [World.cell?, hw', k3, Option.isSome_none, Bool.false_eq_true, if_false]
       rw [hCg o (by omega), if_neg (by omega)]
      ·exact cell_setRow_other w b C x o hx
     have hbel : Below g.base w (w.setRow b C) := below_setRow w b C k2
     have hRn := Rl.tok (e0 := q + xs.length * sz') (e := q + (xs.length + 1) * sz') (lim := c.size) hR1 k2 (setRow_heap w b c C T (0, 0) k3) hCs (by omega) k6 (by omega) hcellp hbel
      (fun x hx _ => heap_setRow_other w b C x hx) (fun id hid => hnown id _ hid rfl)
     have hStp := Stp.tok hR1 b (q + xs.length * sz') (q + (xs.length + 1) * sz') c.size hcellp hbel
     refine ⟨_, g.nx, hStp, (hR1.nxt _ (Nat.le_refl _)).2.2, hRn, ?_⟩
     refine .sl (sz := sz') (fun i j => if i < xs.length then fs i j else f j) (by simp) hc (fun i hi => hlenxy vV hv i hi) (fun i j hi hj => ?_) (fun i j hi hj => ?_)
      (fun i j hi hj => (hvals vV f hf _ _ hStp i j hi hj).1) (fun i j hi hj => (hvals vV f hf _ _ hStp i j hi hj).2) ?_
     ·by_cases hix : i < xs.length
      ·exact .inl (hcell i j hix hj).1
      ·have h2 := at_lt hi hj
       have h1 : xs.length * sz' ≤ i * sz' := Nat.mul_le_mul_right _ (by omega)
       exact .inr ⟨rfl, by omega, by omega⟩
     ·have h2 := at_lt hi hj
      have hw' : (w.setRow b C).heap[b]? = some (.cells C T (0, 0)) := setRow_heap w b c C T (0, 0) k3
      by_cases hix : i < xs.length
      ·rw [if_pos hix]
       exact (hcellp b _ (hcell i j hix hj).1).trans (hcell i j hix hj).2
      ·rw [if_neg hix]
       have h1 : i = xs.length := by omega
       subst h1
       simp only [World.cell?, hw', Option.isSome_none, Bool.false_eq_true, if_false]
       rw [hCg _ (by omega), if_pos (by omega), show q + xs.length * sz' + j - (q + xs.length * sz') = j by omega]
     ·refine ⟨by omega, c.size, ?_, by omega⟩
      simp [Gh.tok]
 ·
  have hnf : ¬ (2 ^ 48 < Builtin.nextslicecap (xs.length + 1) cap * by_) := by
   have := growslice_fits (Nat.lt_of_not_le hc) hbound; omega
  have hdr : ∀ b o, w.drew.cell? ⟨b, o, none⟩ = w.cell? ⟨b, o, none⟩ := fun _ _ => rfl
  generalize hG : grownCap w (xs.length + 1) cap e = G
  have hGe : xs.length + 1 ≤ G := by rw [← hG]; exact grownCap_ge w _ _ _
  have hGs : (xs.length + 1) * sz ≤ G * sz := Nat.mul_le_mul_right _ hGe
  have hadd : (xs.length + 1) * sz = xs.length * sz + sz := by rw [Nat.add_mul, Nat.one_mul]
  generalize hO : ((List.range (xs.length * sz)).map fun k => fs (k / sz) (k % sz)) = O at *
  have hOl : O.length = xs.length * sz := by rw [← hO]; simp
  generalize hZ : Builtin.zeroCells zv.cells (G - (xs.length + 1)) = Z at *
  have hZs : Z.size = G * sz - (xs.length + 1) * sz := by rw [← hZ, size_zeroCells, hzs, Nat.sub_mul]
  have hCs : ∀ f : Nat → Value, (O.toArray ++ ((List.range sz).map f).toArray ++ Z).size = G * sz := fun f => by
   simp only [Array.size_append, List.size_toArray, List.length_map, List.length_range, hOl, hZs]; omega
  have hCg : ∀ (f : Nat → Value) k, k < (xs.length + 1) * sz → (O.toArray ++ ((List.range sz).map f).toArray ++ Z)[k]? = some (if k < xs.length * sz then fs (k / sz) (k % sz) else f (k - xs.length * sz)) := by
   intro f k hk
   rw [Array.getElem?_append, if_pos (by simp [hOl]; omega), Array.getElem?_append]
   simp only [List.size_toArray, hOl, List.getElem?_toArray, List.getElem?_map]
   split
   ·rw [← hO, List.getElem?_map, List.getElem?_range (by assumption)]; rfl
   ·rw [List.getElem?_range (by omega)]; rfl
  refine ⟨w.heap.size, 0, G, fun f => w.drew.alloc (.cells (O.toArray ++ ((List.range sz).map f).toArray ++ Z) e), fun f => O.toArray ++ ((List.range sz).map f).toArray ++ Z, e, fun y0 tl' vy hvy hy0 => ?_, hGe, fun f => ⟨heap_new (w := w.drew), by rw [hCs]; omega⟩, fun f f' => ?_,
   fun x hx hlt f => heap_alloc (w := w.drew) hlt, fun id x hid e => absurd (e ▸ hR1.lt hid) (Nat.lt_irrefl _), fun vV f hv hf => ?_⟩
  ·obtain ⟨ybase, ycap, f0, ey, hf0, hry⟩ := hsrc y0 tl' vy hvy hy0
   refine ⟨f0, hf0, ?_⟩
   have hGd : (Question.appendCap (xs.length + 1) cap e).cut (w.tape w.drawn (.appendCap (xs.length + 1) cap e)) = G := hG
   have hf : (Question.appendCap (xs.length + 1) cap e).forced = false := rfl
   have hrs' := hrs w.drew hdr
   have hry' := hry w.drew hdr
   rw [es] at hrs' ⊢; rw [ey] at hry' ⊢
   simp only [Builtin.append_, Sem.run_bind, run_underlying hu, Result.andThen_ok, run_szO hsz, run_underlying huy, Sem.run_pure, Builtin.lenOf, Sem.run_ite, hbi, hbb, List.getElem?_toArray,
    List.getElem?_cons_zero, List.getElem?_cons_succ, Bool.false_eq_true, if_false, Bool.not_false, if_true, gt_iff_lt, false_or, if_neg hc, if_neg hnf, run_choose, hf, hGd, World.drew_eq, run_askRoom, hrs', hry', hzv, newRow, run_newObj,
    World.alloc_eq, World.size_drew, hO, hZ]
   rw [if_neg (by simpa using hn63)]
  ·rw [show w.heap.size = w.drew.heap.size from rfl, alloc_setRow]
   congr 2
   apply Array.ext'
   simp only [lay, Nat.zero_add, Array.toList_append, List.toList_toArray, List.append_assoc]
   rw [List.take_append_of_le_length (by omega), List.take_of_length_le (by omega), show xs.length * sz + sz = O.length + sz by omega, ← List.drop_drop, List.drop_left]
   congr 1
   congr 1
   exact List.drop_left' (by simp)
  ·have hcellp : ∀ x o, g.fz x o → (w.drew.alloc (.cells (O.toArray ++ ((List.range sz).map f).toArray ++ Z) e)).cell? ⟨x, o, none⟩ = w.cell? ⟨x, o, none⟩ := fun x o hf => cell_alloc (w := w.drew) (hR.fz_lt hf)
   have hbel : Below g.base w (w.drew.alloc (.cells (O.toArray ++ ((List.range sz).map f).toArray ++ Z) e)) := (Below.refl _ _).drew.alloc hR.bnd _
   have hnown : ∀ id, g.at (dropTok H tl) id ≠ some w.heap.size := fun id hid => absurd (hR1.lt hid) (Nat.lt_irrefl _)
   have hRn := Rl.tok (e0 := 0) (e := (xs.length + 1) * sz) (lim := G * sz) hR1 hR.bnd (heap_new (w := w.drew) (o := .cells (O.toArray ++ ((List.range sz).map f).toArray ++ Z) e)) (hCs f) hGs (fun o _ hf => absurd (hR.fz_lt hf) (Nat.lt_irrefl _)) (Nat.zero_le _) hcellp hbel
    (fun x hx hlt => heap_alloc (w := w.drew) hlt) hnown
   have hStp := Stp.tok hR1 w.heap.size 0 ((xs.length + 1) * sz) (G * sz) hcellp hbel
   refine ⟨_, g.nx, hStp, (hR1.nxt _ (Nat.le_refl _)).2.2, hRn, ?_⟩
   refine .sl (sz := sz) (fun i j => if i < xs.length then fs i j else f j) (by simp) hGe (fun i hi => hlenxy vV hv i hi) (fun i j hi hj => .inr ⟨rfl, Nat.zero_le _, by have := at_lt hi hj; omega⟩) (fun i j hi hj => ?_)
    (fun i j hi hj => (hvals vV f hf _ _ hStp i j hi hj).1) (fun i j hi hj => (hvals vV f hf _ _ hStp i j hi hj).2) ?_
   ·have h2 := at_lt hi hj
    rw [show (⟨w.heap.size, 0 + i * sz + j, none⟩ : Addr) = ⟨w.drew.heap.size, i * sz + j, none⟩ by simp]
    rw [cell_new (w := w.drew), hCg f _ h2]
    congr 1
    by_cases hix : i < xs.length
    ·have h3 := at_lt hix hj
     rw [if_pos h3, if_pos hix, (div_mod_at hj).1, (div_mod_at hj).2]
    ·have h1 : i = xs.length := by omega
     subst h1
     rw [if_neg (by omega), if_neg hix, show xs.length * sz + j - xs.length * sz = j by omega]
   ·refine ⟨by omega, G * sz, ?_, by simp⟩
    simp [Gh.tok]
end
end Go.Ab

