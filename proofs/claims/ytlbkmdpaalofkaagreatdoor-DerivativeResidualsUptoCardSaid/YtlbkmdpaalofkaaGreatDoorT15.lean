/- AbA22 AbA23 -/
import Derived.Test.YtlbkmdpaalofkaaGreatDoorT14
set_option linter.all false

namespace Go.Ab
open Go.RowKit
variable [Glob] [Ar]
def putl (d : Option Tmp) (s : Sl) (l : Fl) : Fl :=
 match d with
 | some d => (d, s) :: l
 | none => l
section
variable (E : Env) (T : Tbl) (nt : Nat) (A : Nat → Bool) (Z : Nat → List Nat)
def xappend (H : Heap) (k : V → Heap → Prop) (ts : List TypeId) (vs : List V) : Prop :=
 match ts, vs with
 | [sT, yT], [.sl xs tl, .sl ys _] =>
  (match tg T sT, tg T yT with
   | some I, some I2 =>
    (match I.sl, I2.sl with
     | some e, some _ =>
      (match tg T e with
       | some J =>
        (match J.ze with
         | some z => if 0 < J.sz ∧ 0 < J.by_ ∧ z.one = true ∧ z.cells.length = J.sz then E.appn J.sz J.by_ H tl xs ys k else False
         | none => False)
       | none => False)
     | _, _ => False)
   | _, _ => False)
 | _, _ => False
def xappendW (H : Heap) (k : V → Heap → Prop) (ts : List TypeId) (vs : List V) : Prop :=
 match ts, vs with
 | [sT, yT], [.sl xs tl, .sl ys _] =>
  (match tg T sT, tg T yT with
   | some I, some I2 =>
    (match I.sl, I2.sl with
     | some e, some _ =>
      (match tg T e with
       | some J =>
        (match J.ze with
         | some z => if 0 < J.sz ∧ 0 < J.by_ ∧ z.one = true ∧ z.cells.length = J.sz then E.appw J.sz J.by_ H tl xs ys k else False
         | none => False)
       | none => False)
     | _, _ => False)
   | _, _ => False)
 | _, _ => False
def isNilS (v : V) : Bool :=
 match v with
 | .sl [] .nil => true
 | _ => false
def ownFirst (a : Bool) (vs : List V) : Bool :=
 match vs with
 | .own _ _ _ :: _ => true
 | _ => a
def xappendO (H : Heap) (k : V → Heap → Prop) (ts : List TypeId) (vs : List V) : Prop :=
 match ts, vs with
 | [sT, yT], [x, y] =>
  (match tg T sT, tg T yT with
   | some I, some I2 =>
    (match I.sl with
     | some e =>
      (match tg T e with
       | some J =>
        (match J.ze with
         | some z =>
          if 0 < J.sz ∧ 0 < J.by_ ∧ z.one = true ∧ z.cells.length = J.sz then
           (match I2.sl, I2.ik, y with
            | some _, _, y => E.oapp J.sz J.by_ z H x y k
            | none, some _, .int _ m => E.oappz J.sz J.by_ z H x m k
            | _, _, _ => False)
          else False
         | none => False)
       | none => False)
     | _ => False)
   | _, _ => False)
 | _, _ => False
def xcopy (H : Heap) (k : V → Heap → Prop) (ts : List TypeId) (vs : List V) : Prop :=
 match ts, vs with
 | [sT, _], [.own id lo n, y] =>
  (match tg T sT with
   | some I =>
    (match I.sl with
     | some e => (match tg T e with | some J => if 0 < J.sz then E.ocopy J.sz H (.own id lo n) y k else False | none => False)
     | _ => False)
   | _ => False)
 | _, _ => False
def xclear (H : Heap) (k : V → Heap → Prop) (ts : List TypeId) (vs : List V) : Prop :=
 match ts, vs with
 | [sT], [.own id lo n] =>
  (match tg T sT with
   | some I =>
    (match I.sl with
     | some e =>
      (match tg T e with
       | some J => (match J.ze with | some z => if 0 < J.sz ∧ z.one = true ∧ z.cells.length = J.sz then E.oclear J.sz z H (.own id lo n) fun H' => k (.tup []) H' else False | none => False)
       | none => False)
     | _ => False)
   | _ => False)
 | _, _ => False
def xmake (t : Nat) (H : Heap) (k : V → Heap → Prop) (l c : V) : Prop :=
 match l, c with
 | .int _ n, .int _ m =>
  (match tg T t with
   | some I =>
    (match I.sl with
     | some e =>
      (match tg T e with
       | some J =>
        (match J.ze with
         | some z => if 0 < J.sz ∧ 0 < J.by_ ∧ z.one = true ∧ z.cells.length = J.sz then E.omk J.sz J.by_ z n m H k else False
         | none => False)
       | none => False)
     | none => False)
   | none => False)
 | _, _ => False
def xop (G : List (Nat × Bool)) (o : Oper) (l : Fl) (H : Heap) (k : Sl → Heap → Prop) : Prop :=
 match o.op with
 | .alloc t =>
  (match tg T t with
   | some I => (match I.ze with | some z => (match z.one with | true => E.alloc H z.cells fun id H' => k (.v (.ref id 0)) H' | false => False) | none => False)
   | none => False)
 | .box _ x =>
  match A (o.dst.getD 0 + 1000000) with
  | true => E.need ((evS G l x).V.one = true ∧ (evS G l x).V.cells = [(evS G l x).V]) fun _ => (match A (o.dst.getD 0) with | true => E.alloc H [(evS G l x).V] fun id H' => k (.v (.ref id 0)) H' | false => k (.v (.eref [(evS G l x).V] 0)) H)
  | false =>
  (match (evS G l x).V.one with
   | true => (match A (o.dst.getD 0) with | true => E.alloc H (evS G l x).V.cells fun id H' => k (.v (.ref id 0)) H' | false => k (.v (.eref (evS G l x).V.cells 0)) H)
   | false => False)
 | .store t x y =>
  (match tg T t with
   | some I =>
    (match (evS G l x).V with
     | .ref id off =>
      (match (evS G l y).V.one with
       | true =>
        (match Nat.beq (evS G l y).V.cells.length I.sz with
         | true => E.store H id off I.sz (evS G l y).V.cells fun H' => k (.v .bad) H'
         | false => False)
       | false => False)
     | .elem id i esz off => E.ostore H id i esz I.sz off (evS G l y).V fun H' => k (.v .bad) H'
     | _ => False)
   | none => False)
 | .binOp op t x y _ =>
  (match eqNil op, isNilS (evS G l y).V with
   | some q, true => (match tg T t with | some I => (match I.sl with | some _ => E.nilc (evS G l x).V (fun _ => k (.b q) H) (fun _ => k (.b (!q)) H) | none => xq E T G o l H fun s => k s H) | none => False)
   | _, _ => xq E T G o l H fun s => k s H)
 | .makeSlice t x y => xmake E T t H (fun v H' => k (.v v) H') (evS G l x).V (evS G l y).V
 | .call c =>
  (match c.callee with
   | .value x => E.call (evS G l x).V (c.args.toList.map fun x => (evS G l x).V) H fun v H' => k (.v v) H'
   | .builtin .append =>
    (match ownFirst (A (o.dst.getD 0)) (c.args.toList.map fun x => (evS G l x).V) with
     | true => xappendO E T H (fun v H' => k (.v v) H') c.argTypes.toList (c.args.toList.map fun x => (evS G l x).V)
     | false =>
      (match A (o.dst.getD 0 + 4000000) with
       | true => xappendW E T H (fun v H' => k (.v v) H') c.argTypes.toList (c.args.toList.map fun x => (evS G l x).V)
       | false => xappend E T H (fun v H' => k (.v v) H') c.argTypes.toList (c.args.toList.map fun x => (evS G l x).V)))
   | .builtin .copy => xcopy E T H (fun v H' => k (.v v) H') c.argTypes.toList (c.args.toList.map fun x => (evS G l x).V)
   | .builtin .clear => xclear E T H (fun v H' => k (.v v) H') c.argTypes.toList (c.args.toList.map fun x => (evS G l x).V)
   | .builtin _ => xq E T G o l H fun s => k s H
   | _ => False)
 | _ => xq E T G o l H fun s => k s H
def isPair (o o2 : Oper) : Option (Nat × TypeId × TypeId × Operand) :=
 match o.op, o.dst, o.guard with
 | .alloc t, some d, none =>
  (match o2.op, o2.dst, o2.guard with
   | .store t2 (.tmp d2) x, none, none =>
    (match A d, Nat.beq d d2 with
     | false, true => (match x with | .tmp d3 => (match Nat.beq d d3 with | true => none | false => some (d, t, t2, x)) | _ => some (d, t, t2, x))
     | _, _ => none)
   | _, _, _ => none)
 | _, _, _ => none
def pairV (l : Fl) (t t2 : TypeId) (x : Operand) : Option (List V) :=
 match tg T t, tg T t2 with
 | some I, some I2 =>
  (match I.ze with
   | some z => if z.one = true ∧ (evS [] l x).V.one = true ∧ (evS [] l x).V.cells.length = I2.sz ∧ I2.sz ≤ z.cells.length then some (splice z.cells 0 (evS [] l x).V.cells) else none
   | none => none)
 | _, _ => none
def xguard (ops : Array Oper) (o : Oper) : Nat → Fl → (List (Nat × Bool) → Fl → (Sl → Sl) → Prop) → (Fl → Prop) → Prop
 | n, l, go, skip =>
  match o.guard with
  | none => go [] l Sl.n
  | some (j, want) =>
   (match (ops[j]?).bind (·.dst) with
    | none => False
    | some d =>
     (match opndO [] l d with
      | some (.b c) => (match c == want with | true => go [] l Sl.n | false => skip l)
      | some (.v (.bool c)) =>
       (match isTot [(d, want)] o l with
        | true => go [(d, want)] l fun s => .g d want s.V
        | false =>
         E.br c (fun _ => match want with | true => go [] (setK l d true) Sl.n | false => skip (setK l d true))
          (fun _ => match want with | false => go [] (setK l d false) Sl.n | true => skip (setK l d false)))
      | some (.v (.tup _)) => skip l
      | some _ => False
      | none =>
       (match lk l d with
        | .g j' _ (.bool _) =>
         (match frsh l d j' with
          | true =>
           (match isTot [(d, want)] o l with
            | true => go [(d, want)] l fun s => .g d want s.V
            | false =>
             (match lk l j', n with
              | .v (.bool c), n + 1 => E.br c (fun _ => xguard ops o n (setK l j' true) go skip) (fun _ => xguard ops o n (setK l j' false) go skip)
              | _, _ => False))
          | false => False)
        | _ => False)))
def xfrz : Option (Nat × Int × Int × List V) → List Nat → Fl → Heap → (Fl → Heap → Prop) → Prop
 | _, [], l, H, k => k l H
 | some (id, lo, n, xs), d :: ds, l, H, k =>
  (match lk l d with
   | .v (.own id' lo' n') => E.need (id' = id ∧ lo' = lo ∧ n' = n) fun _ => xfrz (some (id, lo, n, xs)) ds ((d, .v (.sl xs .ro)) :: l) H k
   | _ => xfrz none ds l H k)
 | none, d :: ds, l, H, k =>
  match lk l d with
  | .v (.ref id 0) => E.frz H id fun cs H' => xfrz none ds ((d, .v (.eref cs 0)) :: l) H' k
  | .v (.own id lo n) => E.ofrz H id lo n fun xs H' => xfrz (some (id, lo, n, xs)) ds ((d, .v (.sl xs .ro)) :: l) H' k
  | _ => False
def frzAt (o : Oper) : List Nat :=
 match o.dst with
 | some q => Z q
 | none => []
def xops (ops : Array Oper) : List Oper → Fl → Heap → (Fl → Heap → Prop) → Prop
 | [], l, H, K => K l H
 | o :: rest, l, H, K =>
  match dstOk nt o.dst with
  | false => False
  | true =>
   xfrz E none (frzAt Z o) l H fun l H =>
   match rest with
   | [] => xguard E ops o 4 l (fun G l' wr => xop E T A G o l' H fun s H' => K (putl o.dst (wr s) l') H') fun l' => K (putl o.dst (.v (.tup [])) l') H
   | o2 :: rest' =>
    (match isPair A o o2 with
     | some (d, t, t2, x) =>
      (match pairV T l t t2 x with
       | some cs => xops ops rest' ((d, .v (.eref cs 0)) :: l) H K
       | none => False)
     | none => xguard E ops o 4 l (fun G l' wr => xop E T A G o l' H fun s H' => xops ops (o2 :: rest') (putl o.dst (wr s) l') H' K) fun l' => xops ops (o2 :: rest') (putl o.dst (.v (.tup [])) l') H K)
end
section
variable {P : Program} {nt : Nat} {rd : Option Nat} {T : Tbl} {A : Nat → Bool} {df : List Nat}
theorem lkV_put (l : Fl) (d t : Nat) (s : Sl) : lkV ((d, s) :: l) t = if t = d then slV l s else lkV l t := by
 simp only [lkV]
 by_cases h : t = d
 ·subst h; simp only [Nat.beq_refl, if_true]; cases s <;> rfl
 ·have : Nat.beq t d = false := by
   cases hb : Nat.beq t d with
   | false => rfl
   | true => exact absurd (Nat.eq_of_beq_eq_true hb) h
  simp [this, h]
theorem frOf_put (l : Fl) (d : Option Tmp) (s : Sl) : frOf ⟨putl d s l, df⟩ = (frOf ⟨l, df⟩).put d (slV l s) := by
 cases d with
 | none => rfl
 | some d =>
  simp only [frOf, putl, Fr.put, Fr.mk.injEq, and_true]
  funext t
  exact lkV_put l d t s
theorem xguard_sound {ops : Array Oper} {o : Oper} {go : List (Nat × Bool) → Fl → (Sl → Sl) → Prop} {skip : Fl → Prop} : ∀ (n : Nat) (l : Fl), xguard (real P nt rd) ops o n l go skip →
 ∃ l', (∀ t, lkV l' t = lkV l t) ∧ ((guardV ops (frOf ⟨l, df⟩) o = some true ∧ ∃ G wr, Gok G l' ∧ (∀ s, slV l' (wr s) = s.V) ∧ go G l' wr) ∨
  (guardV ops (frOf ⟨l, df⟩) o = some false ∧ (skip l' ∨ ∃ G d want, isTot G o l' = true ∧ isB (lkV l' d) want = false ∧ go G l' fun s => .g d want s.V)))
 | n, l, h => by
  unfold xguard at h
  split at h
  ·rename_i hg
   exact ⟨l, fun _ => rfl, .inl ⟨by simp [guardV, hg], [], _, Gok.nil, fun s => by cases s <;> rfl, h⟩⟩
  ·rename_i j want hg
   split at h
   ·exact h.elim
   ·rename_i d hjd
    have gv : ∀ x, lkV l d = x → guardV ops (frOf ⟨l, df⟩) o = match x with | .bool c => some (c == want) | .tup _ => some false | _ => none := fun x hx => by
     simp only [guardV, hg, hjd, frOf, hx]
     try (cases x <;> rfl)
    have idok : ∀ (l' : Fl) (s : Sl), slV l' s.n = s.V := fun l' s => by cases s <;> rfl
    have tot : ∀ c, lkV l d = .bool c → isTot [(d, want)] o l = true → go [(d, want)] l (fun s => .g d want s.V) → ∃ l', (∀ t, lkV l' t = lkV l t) ∧ ((guardV ops (frOf ⟨l, df⟩) o = some true ∧ ∃ G wr, Gok G l' ∧ (∀ s, slV l' (wr s) = s.V) ∧ go G l' wr) ∨
     (guardV ops (frOf ⟨l, df⟩) o = some false ∧ (skip l' ∨ ∃ G d want, isTot G o l' = true ∧ isB (lkV l' d) want = false ∧ go G l' fun s => .g d want s.V))) := by
     intro c hc ht h
     have := gv _ hc
     simp only at this
     cases hcw : c == want with
     | true => exact ⟨l, fun _ => rfl, .inl ⟨by rw [this, hcw], _, _, Gok.nil.add (by rw [hc]; simp only [isB, hcw]), fun s => by simp only [slV, hc, isB, hcw, cond_true], h⟩⟩
     | false => exact ⟨l, fun _ => rfl, .inr ⟨by rw [this, hcw], .inr ⟨_, d, want, ht, by rw [hc]; simp only [isB, hcw], h⟩⟩⟩
    split at h
    ·rename_i c hc
     have hv : lkV l d = .bool c := (opndO_ok Gok.nil hc).1.symm
     have := gv _ hv
     split at h
     ·rename_i e; exact ⟨l, fun _ => rfl, .inl ⟨by rw [this]; simp only [e], [], _, Gok.nil, idok l, h⟩⟩
     ·rename_i e; exact ⟨l, fun _ => rfl, .inr ⟨by rw [this]; simp only [e], .inl h⟩⟩
    ·rename_i c hc
     have hv : lkV l d = .bool c := (opndO_ok Gok.nil hc).1.symm
     have hgv := gv _ hv
     split at h
     ·rename_i ht; exact tot c hv ht h
     ·have e := setK_ok l d c hv
      obtain ⟨h1, h2⟩ := h
      cases c
      ·have h := h2 rfl
       cases want
       ·exact ⟨_, e, .inl ⟨hgv, [], _, Gok.nil, idok _, h⟩⟩
       ·exact ⟨_, e, .inr ⟨hgv, .inl h⟩⟩
      ·have h := h1 rfl
       cases want
       ·exact ⟨_, e, .inr ⟨hgv, .inl h⟩⟩
       ·exact ⟨_, e, .inl ⟨hgv, [], _, Gok.nil, idok _, h⟩⟩
    ·rename_i vs hc
     have hv : lkV l d = .tup vs := (opndO_ok Gok.nil hc).1.symm
     exact ⟨l, fun _ => rfl, .inr ⟨gv _ hv, .inl h⟩⟩
    ·exact h.elim
    ·split at h
     ·rename_i j' w' cx hl
      split at h
      ·rename_i hf
       have hv := frsh_ok l d j' w' _ hl hf
       split at h
       ·rename_i ht
        cases hb : isB (lkV l j') w' with
        | true =>
         rw [hb] at hv
         exact tot cx hv ht h
        | false =>
         rw [hb] at hv
         have hv : lkV l d = .tup [] := hv
         exact ⟨l, fun _ => rfl, .inr ⟨gv _ hv, .inr ⟨_, d, want, ht, by rw [hv]; rfl, h⟩⟩⟩
       ·split at h
        ·rename_i c m hc
         have hvj := lkV_lk l j' _ hc (fun _ _ _ h => by cases h)
         obtain ⟨h1, h2⟩ := h
         have key : ∀ b, c = b → xguard (real P nt rd) ops o m (setK l j' b) go skip → ∃ l', (∀ t, lkV l' t = lkV l t) ∧ ((guardV ops (frOf ⟨l, df⟩) o = some true ∧ ∃ G wr, Gok G l' ∧ (∀ s, slV l' (wr s) = s.V) ∧ go G l' wr) ∨
          (guardV ops (frOf ⟨l, df⟩) o = some false ∧ (skip l' ∨ ∃ G d want, isTot G o l' = true ∧ isB (lkV l' d) want = false ∧ go G l' fun s => .g d want s.V))) := by
          intro b hb h
          have hk : lkV l j' = .bool b := by rw [hvj, hb]; rfl
          have e := setK_ok l j' b hk
          obtain ⟨l', e', h⟩ := xguard_sound m _ h
          rw [frOf_setK hk] at h
          exact ⟨l', fun t => (e' t).trans (e t), h⟩
         cases c
         ·exact key false rfl (h2 rfl)
         ·exact key true rfl (h1 rfl)
        ·exact h.elim
      ·exact h.elim
     ·exact h.elim
theorem xop_sound (hT : TOk P T) {G : List (Nat × Bool)} {o : Oper} {l : Fl} (hG : Gok G l) {H : Heap} {k : Sl → Heap → Prop} (h : xop (real P nt rd) T A G o l H k) : opA P A o (ev (frOf ⟨l, df⟩)) H fun v H' => ∃ s : Sl, v = s.V ∧ k s H' := by
 have E : ∀ x, (evS G l x).V = ev (frOf ⟨l, df⟩) x := fun x => evS_ev hG x
 have Em : ∀ xs : List Operand, (xs.map fun x => (evS G l x).V) = xs.map (ev (frOf ⟨l, df⟩)) := fun xs => List.map_congr_left fun p _ => E p
 have quiet : xq (real P nt rd) T G o l H (fun s => k s H) → ∃ v, opQ P o (ev (frOf ⟨l, df⟩)) H v ∧ ∃ s : Sl, v = s.V ∧ k s H := fun h => by
  obtain ⟨s, h1, h2⟩ := xq_sound (df := df) hT hG h
  exact ⟨_, h1, s, rfl, h2⟩
 unfold xop at h
 split at h
 ·rename_i t ho
  simp only [opA, ho]
  split at h
  ·rename_i I hI
   split at h
   ·rename_i z hz
    have ez := (tg_ok hT hI).ze; rw [hz] at ez; simp only [optOk] at ez
    split at h
    ·rename_i h1
     exact ⟨z, ez, h1, fun id hid => ⟨.v (.ref id 0), rfl, h id hid⟩⟩
    ·exact h.elim
   ·exact h.elim
  ·exact h.elim
 ·rename_i t x ho
  simp only [opA, ho]
  split at h
  ·rw [E] at h
   obtain ⟨⟨h1, h2⟩, h⟩ := h
   refine ⟨h1, ?_⟩
   rw [h2]
   split at h
   ·rename_i hA
    rw [if_pos hA]
    exact fun id hid => ⟨.v (.ref id 0), rfl, h id hid⟩
   ·rename_i hA
    rw [if_neg (by rw [hA]; simp)]
    exact ⟨.v (.eref _ 0), rfl, h⟩
  split at h
  ·rename_i h1
   rw [E] at h1
   refine ⟨h1, ?_⟩
   split at h
   ·rename_i hA
    rw [if_pos hA]
    intro id hid
    have := h id hid
    rw [E] at this
    exact ⟨.v (.ref id 0), rfl, this⟩
   ·rename_i hA
    rw [if_neg (by rw [hA]; simp)]
    rw [E] at h
    exact ⟨.v (.eref _ 0), rfl, h⟩
  ·exact h.elim
 ·rename_i t x y ho
  simp only [opA, ho]
  split at h
  ·rename_i I hI
   split at h
   ·rename_i id off hx
    split at h
    ·rename_i h1
     split at h
     ·rename_i h2
      obtain ⟨cs, hk, h3, h⟩ := h
      rw [E] at hx h1 h2 h
      refine .inl ⟨_, ?_, .v .bad, rfl, h⟩
      simp only [storeV, (tg_ok hT hI).sz, hx, hk]
      rw [if_pos ⟨h1, Nat.eq_of_beq_eq_true h2, Nat.le_of_ble_eq_true h3⟩]
     ·exact h.elim
    ·exact h.elim
   ·rename_i id i esz off hx
    obtain ⟨xs, y', q1, q2, q3, q4, q5, q6, h⟩ := h
    rw [E] at hx q1
    refine .inr ⟨y', _, q1, ?_, .v .bad, rfl, h⟩
    simp only [storeO, (tg_ok hT hI).sz, hx, arrO, q5]
    rw [if_pos ⟨q6, trivial, q2, q3, q4⟩]
   ·exact h.elim
  ·exact h.elim
 ·rename_i op t x y ty ho
  have old : xq (real P nt rd) T G o l H (fun s => k s H) → opA P A o (ev (frOf ⟨l, df⟩)) H fun v H' => ∃ s : Sl, v = s.V ∧ k s H' := fun h => by
   obtain ⟨v, h1, h2⟩ := quiet h
   simp only [opA, ho]
   exact .inl ⟨v, h1, h2⟩
  split at h
  ·rename_i q hq hn
   split at h
   ·rename_i I hI
    split at h
    ·rename_i e he
     obtain ⟨p, h1, h2, h3⟩ := h
     rw [E] at h1 hn
     simp only [opA, ho]
     refine .inr ⟨q, e, p, hq, (tg_ok hT hI).sl.trans he, h1, ?_, fun hx => ⟨.b q, rfl, h2 hx⟩, ⟨.b (!q), rfl, h3⟩⟩
     unfold isNilS at hn
     split at hn
     ·assumption
     ·cases hn
    ·exact old h
   ·exact h.elim
  ·exact old h
 ·rename_i t x y ho
  simp only [opA, ho]
  rw [E, E] at h
  unfold xmake at h
  unfold makeO
  split at h
  ·rename_i k1 n k2 m e1 e2
   rw [e1, e2]
   simp only
   split at h
   ·rename_i I hI
    split at h
    ·rename_i e he
     split at h
     ·rename_i J hJ
      split at h
      ·rename_i z hz
       have ez := (tg_ok hT hJ).ze; rw [hz] at ez; simp only [optOk] at ez
       split at h
       ·rename_i hc
        obtain ⟨c1, c2, c3, c4⟩ := hc
        obtain ⟨⟨q1, q2, q3⟩, h⟩ := h
        exact ⟨e, J.sz, J.by_, z, (tg_ok hT hI).sl.trans he, (tg_ok hT hJ).sz, c1, (tg_ok hT hJ).by_, c2, ez, c3, c4, q1, q2, q3, fun id hid => ⟨.v _, rfl, h id hid⟩⟩
       ·exact h.elim
      ·exact h.elim
     ·exact h.elim
    ·exact h.elim
   ·exact h.elim
  ·exact h.elim
 ·rename_i c ho
  split at h
  ·rename_i x hc
   simp only [opA, ho, hc]
   rw [E, Em] at h
   exact CallV.mono h fun v H' hk => ⟨.v v, rfl, hk⟩
  ·rename_i hc
   simp only [opA, ho, hc]
   rw [Em] at h
   split at h
   ·refine .inr (.inl ?_)
    unfold xappendO at h
    unfold appendO
    split at h
    ·rename_i sT yT x y hts hvs
     rw [hts, hvs]
     simp only
     split at h
     ·rename_i I I2 hI hI2
      split at h
      ·rename_i e he
       split at h
       ·rename_i J hJ
        split at h
        ·rename_i z hz
         have ez := (tg_ok hT hJ).ze; rw [hz] at ez; simp only [optOk] at ez
         split at h
         ·rename_i hc
          obtain ⟨c1, c2, c3, c4⟩ := hc
          refine ⟨e, J.sz, J.by_, z, (tg_ok hT hI).sl.trans he, (tg_ok hT hJ).sz, c1, (tg_ok hT hJ).by_, c2, ez, c3, c4, ?_⟩
          split at h
          ·rename_i he2
           obtain ⟨ys', q1, h⟩ := h
           exact .inl ⟨by rw [(tg_ok hT hI2).sl, he2]; rfl, ys', q1, appTo_mono h fun v H' hk => ⟨.v _, rfl, hk⟩⟩
          ·rename_i k0 he2 hik
           have eik := (tg_ok hT hI2).ik
           rw [hik] at eik
           obtain ⟨q1, h⟩ := h
           exact .inr ⟨⟨_, eik⟩, _, _, rfl, q1.1, q1.2, appTo_mono h fun v H' hk => ⟨.v _, rfl, hk⟩⟩
          ·exact h.elim
         ·exact h.elim
        ·exact h.elim
       ·exact h.elim
      ·exact h.elim
     ·exact h.elim
    ·exact h.elim
   split at h
   ·refine .inr (.inr ?_)
    unfold xappendW at h
    unfold appendA
    split at h
    ·rename_i sT yT xs tl ys tl' hts hvs
     rw [hts, hvs]
     simp only
     split at h
     ·rename_i I I2 hI hI2
      split at h
      ·rename_i e e2 he he2
       split at h
       ·rename_i J hJ
        split at h
        ·rename_i z hz
         have ez := (tg_ok hT hJ).ze; rw [hz] at ez; simp only [optOk] at ez
         split at h
         ·rename_i hc
          obtain ⟨c1, c2, c3, c4⟩ := hc
          obtain ⟨xs', ys', l1, l2, k1, k2, k3, k4, k5⟩ := h
          exact ⟨e, J.sz, J.by_, z, (tg_ok hT hI).sl.trans he, by rw [(tg_ok hT hI2).sl, he2]; rfl, (tg_ok hT hJ).sz, c1, (tg_ok hT hJ).by_, c2, ez, c3, c4, xs', ys', l1, l2, k1, k2, k3, k4, fun e => ⟨_, _, by subst e; rw [List.append_nil]; exact .ro _ _, fun _ _ hx => dropTok_some hx, ⟨.v _, rfl, k5⟩⟩, fun t h1 h2 => ⟨_, _, .ro _ _, fun id b hx => by rw [upd_other _ _ fun e => by subst e; rw [h2] at hx; cases hx]; exact hx, ⟨.v _, rfl, k5⟩⟩⟩
         ·exact h.elim
        ·exact h.elim
       ·exact h.elim
      ·exact h.elim
     ·exact h.elim
    ·exact h.elim
   ·refine .inl ?_
    unfold xappend at h
    unfold appendA
    split at h
    ·rename_i sT yT xs tl ys tl' hts hvs
     rw [hts, hvs]
     simp only
     split at h
     ·rename_i I I2 hI hI2
      split at h
      ·rename_i e e2 he he2
       split at h
       ·rename_i J hJ
        split at h
        ·rename_i z hz
         have ez := (tg_ok hT hJ).ze; rw [hz] at ez; simp only [optOk] at ez
         split at h
         ·rename_i hc
          obtain ⟨c1, c2, c3, c4⟩ := hc
          obtain ⟨xs', ys', l1, l2, k1, k2, k3, k4, k5, k6⟩ := h
          exact ⟨e, J.sz, J.by_, z, (tg_ok hT hI).sl.trans he, by rw [(tg_ok hT hI2).sl, he2]; rfl, (tg_ok hT hJ).sz, c1, (tg_ok hT hJ).by_, c2, ez, c3, c4, xs', ys', l1, l2, k1, k2, k3, k4, fun e => ⟨.v _, rfl, k5 e⟩, fun t h1 h2 => ⟨.v _, rfl, k6 t h1 h2⟩⟩
         ·exact h.elim
        ·exact h.elim
       ·exact h.elim
      ·exact h.elim
     ·exact h.elim
    ·exact h.elim
  ·rename_i hc
   simp only [opA, ho, hc]
   rw [Em] at h
   unfold xcopy at h
   unfold copyO
   split at h
   ·rename_i sT yT id lo n y hts hvs
    rw [hts, hvs]
    simp only
    split at h
    ·rename_i I hI
     split at h
     ·rename_i e he
      split at h
      ·rename_i J hJ
       split at h
       ·rename_i c1
        obtain ⟨xs, ys', q1, q2, h⟩ := h
        exact ⟨e, J.sz, xs, ys', (tg_ok hT hI).sl.trans he, (tg_ok hT hJ).sz, c1, q1, q2, .v _, rfl, h⟩
       ·exact h.elim
      ·exact h.elim
     ·exact h.elim
    ·exact h.elim
   ·exact h.elim
  ·rename_i hc
   simp only [opA, ho, hc]
   rw [Em] at h
   unfold xclear at h
   unfold clearO
   split at h
   ·rename_i sT id lo n hts hvs
    rw [hts, hvs]
    simp only
    split at h
    ·rename_i I hI
     split at h
     ·rename_i e he
      split at h
      ·rename_i J hJ
       split at h
       ·rename_i z hz
        have ez := (tg_ok hT hJ).ze; rw [hz] at ez; simp only [optOk] at ez
        split at h
        ·rename_i c1
         obtain ⟨xs, q1, h⟩ := h
         exact ⟨e, J.sz, z, xs, (tg_ok hT hI).sl.trans he, (tg_ok hT hJ).sz, c1.1, ez, c1.2.1, c1.2.2, q1, .v _, rfl, h⟩
        ·exact h.elim
       ·exact h.elim
      ·exact h.elim
     ·exact h.elim
    ·exact h.elim
   ·exact h.elim
  ·rename_i b hb _ _ hc
   obtain ⟨v, h1, h2⟩ := quiet h
   simp only [opQ, ho, hc] at h1
   simp only [opA, ho, hc]
   exact ⟨v, h1, h2⟩
  ·exact h.elim
 ·rename_i n1 n2 n3 n7 n4 n6
  obtain ⟨v, h1, h2⟩ := quiet h
  unfold opA
  split <;> rename_i ho
  ·exact absurd ho (n1 _)
  ·exact absurd ho (n2 _ _)
  ·exact absurd ho (n3 _ _ _)
  ·exact absurd ho (n4 _ _ _)
  ·exact absurd ho (n7 _ _ _ _ _)
  ·exact absurd ho (n6 _)
  ·exact ⟨v, h1, h2⟩
theorem xfrz_sound {w : World} {a : Act} : ∀ (q : Option (Nat × Int × Int × List V)) (ds : List Nat) (l : Fl) (H : Heap) (g : Gh) (k : Fl → Heap → Prop), (∀ id lo n xs, q = some (id, lo, n, xs) → ∀ v, VR g w v (.own id lo n) → VR g w v (.sl xs .ro)) → Rl g H w → FR nt g w a (frOf ⟨l, df⟩) → xfrz (real P nt rd) q ds l H k → ∃ g' l' H', Stp g w g' w ∧ Rl g' H' w ∧ FR nt g' w a (frOf ⟨l', df⟩) ∧ k l' H'
 | q, [], l, H, g, k, _, hR, hF, h => ⟨g, l, H, Stp.refl _ _, hR, hF, by unfold xfrz at h; exact h⟩
 | some (id, lo, n, xs), d :: ds, l, H, g, k, hq, hR, hF, h => by
  unfold xfrz at h
  split at h
  ·rename_i id' lo' n' hl
   obtain ⟨⟨e, e2, e3⟩, h⟩ := h
   subst e; subst e2; subst e3
   have hF1 : FR nt g w a (frOf ⟨(d, .v (.sl xs .ro)) :: l, df⟩) := by
    have e := frOf_put (df := df) l (some d) (.v (.sl xs .ro))
    rw [show putl (some d) (.v (.sl xs .ro)) l = (d, Sl.v (.sl xs .ro)) :: l from rfl] at e
    rw [e]
    refine ⟨hF.size, fun t => ?_, hF.df⟩
    simp only [Fr.put]
    split
    ·rename_i ht; subst ht
     have h0 := hF.s t
     have e0 : (frOf ⟨l, df⟩).s t = .own id' lo' n' := lkV_lk l t _ hl (fun _ _ _ h => by cases h)
     rw [e0] at h0
     exact hq _ _ _ _ rfl _ h0
    ·exact hF.s t
   exact xfrz_sound _ ds _ _ g k hq hR hF1 h
  ·exact xfrz_sound none ds _ _ g k (fun _ _ _ _ h => by cases h) hR hF h
 | none, d :: ds, l, H, g, k, _, hR, hF, h => by
  unfold xfrz at h
  split at h
  ·rename_i id hl
   obtain ⟨cs, hk, h⟩ := h
   obtain ⟨g1, s1, hR1, hv⟩ := hR.freeze hk
   have hF1 : FR nt g1 w a (frOf ⟨(d, .v (.eref cs 0)) :: l, df⟩) := by
    have e := frOf_put (df := df) l (some d) (.v (.eref cs 0))
    rw [show putl (some d) (.v (.eref cs 0)) l = (d, Sl.v (.eref cs 0)) :: l from rfl] at e
    rw [e]
    have hm := hF.mono s1
    refine ⟨hm.size, fun t => ?_, hm.df⟩
    simp only [Fr.put]
    split
    ·rename_i ht; subst ht
     have h0 := hF.s t
     have e0 : (frOf ⟨l, df⟩).s t = .ref id 0 := lkV_lk l t _ hl (fun _ _ _ h => by cases h)
     rw [e0] at h0
     exact hv _ _ h0
    ·exact hm.s t
   obtain ⟨g2, l2, H2, s2, r⟩ := xfrz_sound none ds _ _ g1 k (fun _ _ _ _ h => by cases h) hR1 hF1 h
   exact ⟨g2, l2, H2, s1.trans s2, r⟩
  ·rename_i id lo n hl
   obtain ⟨sz, xs, hk, h⟩ := h
   obtain ⟨g1, s1, hR1, hv⟩ := hR.freezeArr hk
   have hF1 : FR nt g1 w a (frOf ⟨(d, .v (.sl (subL xs lo n) .ro)) :: l, df⟩) := by
    have e := frOf_put (df := df) l (some d) (.v (.sl (subL xs lo n) .ro))
    rw [show putl (some d) (.v (.sl (subL xs lo n) .ro)) l = (d, Sl.v (.sl (subL xs lo n) .ro)) :: l from rfl] at e
    rw [e]
    have hm := hF.mono s1
    refine ⟨hm.size, fun t => ?_, hm.df⟩
    simp only [Fr.put]
    split
    ·rename_i ht; subst ht
     have h0 := hm.s t
     have e0 : (frOf ⟨l, df⟩).s t = .own id lo n := lkV_lk l t _ hl (fun _ _ _ h => by cases h)
     rw [e0] at h0
     exact hv _ _ _ h0
    ·exact hm.s t
   obtain ⟨g2, l2, H2, s2, r⟩ := xfrz_sound (some (id, lo, n, subL xs lo n)) ds _ _ g1 k (fun _ _ _ _ h => by cases h; exact fun v => hv v _ _) hR1 hF1 h
   exact ⟨g2, l2, H2, s1.trans s2, r⟩
  ·exact h.elim
theorem xq_tot (hT : TOk P T) {G : List (Nat × Bool)} {o : Oper} {l : Fl} {H : Heap} {k : Sl → Prop} (ht : isTot G o l = true) (h : xq (real P nt rd) T G o l H k) : ∃ s, k s := by
 unfold isTot at ht
 unfold xq at h
 split at ht <;> rename_i ho <;> try simp only [ho] at h
 ·exact ⟨_, h⟩
 ·exact ⟨_, h⟩
 ·split at h
  ·exact ⟨_, h⟩
  ·exact ⟨_, h⟩
  ·obtain ⟨s, _, _, hk⟩ := xpick_sound h; exact ⟨s, hk⟩
  ·exact h.elim
 ·obtain ⟨_, _, hk⟩ := xload_sound hT h; exact ⟨_, hk⟩
 ·obtain ⟨_, _, hk⟩ := xfieldAddr_sound hT h; exact ⟨_, hk⟩
 ·obtain ⟨_, _, hk⟩ := xfield_sound hT h; exact ⟨_, hk⟩
 ·obtain ⟨_, _, hk⟩ := xbuild_sound hT h; exact ⟨_, hk⟩
 ·obtain ⟨_, _, hk⟩ := xbin_sound hT h; exact ⟨_, hk⟩
 ·obtain ⟨_, _, hk⟩ := xun_sound h; exact ⟨_, hk⟩
 ·split at h
  ·obtain ⟨_, _, hk⟩ := xsomeK_sound h; exact ⟨_, hk⟩
  ·exact h.elim
 ·split at h
  ·split at h
   ·rename_i hid; obtain ⟨_, _, hk⟩ := xolen_sound hT hid h; exact ⟨_, hk⟩
   ·obtain ⟨_, _, hk⟩ := xbuiltinQ_sound hT h; exact ⟨_, hk⟩
  ·exact h.elim
 ·cases ht
theorem xop_tot (hT : TOk P T) {G : List (Nat × Bool)} {o : Oper} {l : Fl} {H : Heap} {k : Sl → Heap → Prop} (ht : isTot G o l = true) (h : xop (real P nt rd) T A G o l H k) : ∃ s, k s H := by
 have key : xq (real P nt rd) T G o l H (fun s => k s H) → ∃ s, k s H := fun h => xq_tot hT ht h
 unfold isTot at ht
 unfold xop at h
 split at ht <;> rename_i ho <;> try simp only [ho] at h
 all_goals try exact key h
 ·split at h
  ·split at h
   ·split at h
    ·obtain ⟨_, _, _, h⟩ := h; exact ⟨_, h⟩
    ·exact key h
   ·exact h.elim
  ·exact key h
 ·split at ht
  ·rename_i hc
   simp only [hc] at h
   exact key h
  ·cases ht
 ·cases ht
end
end Go.Ab

namespace Go.Ab
open Go.RowKit
variable [Glob] [Ar]
section
variable {P : Program} {nt : Nat} {rd : Option Nat} {T : Tbl} {A : Nat → Bool} {Z : Nat → List Nat} {df : List Nat}
theorem isPair_inv {o o2 : Oper} {d : Nat} {t t2 : TypeId} {x : Operand} (h : isPair A o o2 = some (d, t, t2, x)) :
 o.op = .alloc t ∧ o.dst = some d ∧ o.guard = none ∧ o2.op = .store t2 (.tmp d) x ∧ o2.dst = none ∧ o2.guard = none ∧ x ≠ .tmp d := by
 unfold isPair at h
 split at h
 ·rename_i t' d' h1 h2 h3
  split at h
  ·rename_i t2' d2 x' k1 k2 k3
   split at h
   ·rename_i hA hb
    have hd := Nat.eq_of_beq_eq_true hb
    subst hd
    split at h
    ·rename_i d3
     split at h
     ·cases h
     ·rename_i hn
      cases h
      refine ⟨h1, h2, h3, k1, k2, k3, fun e => ?_⟩
      cases e
      rw [Nat.beq_refl] at hn; cases hn
    ·rename_i hx
     cases h
     exact ⟨h1, h2, h3, k1, k2, k3, fun e => hx _ e⟩
   ·cases h
  ·cases h
 ·cases h
theorem xops_sound (hT : TOk P T) {ops : Array Oper} {r : Option Nat} {K : Fl → Heap → Prop} {Q : Exit → Act → World → Prop} {g0 : Gh} {w0 : World}
 (hQ : ∀ g w a l H, Stp g0 w0 g w → Rl g H w → FR nt g w a (frOf ⟨l, df⟩) → K l H → Q .normal a w) :
 ∀ (m i : Nat) (l : Fl) (H : Heap), i + m = ops.size → xops (real P nt rd) T nt A Z ops (ops.toList.drop i) l H K → ∀ g w a, Stp g0 w0 g w → Rl g H w → FR nt g w a (frOf ⟨l, df⟩) → wpOpsIn (Fw r) 0 P ops Q (List.range' i m) a w := by
 intro m
 induction m using Nat.strongRecOn with
 | _ m ih =>
 intro i l H hi h g w a s hR hF
 cases m with
 | zero =>
  have : ops.toList.drop i = [] := by simp; omega
  rw [this] at h
  unfold xops at h
  exact hQ g w a l H s hR hF h
 | succ m =>
  have hlt : i < ops.toList.length := by simp; omega
  have hlt' : i < ops.size := by omega
  have hdrop := List.drop_eq_getElem_cons hlt
  rw [hdrop] at h
  simp only [Array.getElem_toList] at h
  generalize ho : ops[i] = o at h
  simp only [List.range'_succ, wpOpsIn, Array.getElem?_eq_getElem hlt', ho]
  unfold xops at h
  split at h
  ·exact h.elim
  rename_i hd
  obtain ⟨g1, l1, H1, s1, hR1, hF1, h⟩ := xfrz_sound (df := df) none _ _ _ _ _ (fun _ _ _ _ h => by cases h) hR hF h
  replace s := s.trans s1
  clear s1 hR hF
  revert h hF1 hR1 s
  generalize l1 = l, H1 = H, g1 = g
  intro hR hF h s
  have guarded : ∀ {rest : List Oper}, dstOk nt o.dst = true → rest = ops.toList.drop (i + 1) →
   xguard (real P nt rd) ops o 4 l (fun G l' wr => xop (real P nt rd) T A G o l' H fun s H' => xops (real P nt rd) T nt A Z ops rest (putl o.dst (wr s) l') H' K) (fun l' => xops (real P nt rd) T nt A Z ops rest (putl o.dst (.v (.tup [])) l') H K) →
   if Region.wanted o (yielded ops a.tmps) then o.wpIn (Fw r) 0 P a w (wpOpsIn (Fw r) 0 P ops Q (List.range' (i + 1) m)) Q else (∀ f, o.about P w a.eval = some f → (Fw r).fn f) ∧ wpOpsIn (Fw r) 0 P ops Q (List.range' (i + 1) m) (a.put o.dst undef) w := by
   intro rest hd hrest h
   subst hrest
   obtain ⟨l', e, h⟩ := xguard_sound (df := df) 4 l h
   have ef : frOf ⟨l', df⟩ = frOf ⟨l, df⟩ := by simp only [frOf, Fr.mk.injEq, and_true]; funext t; exact e t
   have hF' : FR nt g w a (frOf ⟨l', df⟩) := ef ▸ hF
   rcases h with ⟨hgv, G, wr, hG, hwr, h⟩ | ⟨hgv, h⟩
   ·have hw : Region.wanted o (yielded ops a.tmps) = true := guard_wanted hF.s hgv
    rw [if_pos hw]
    refine wp_op (A := A) hR hF' hd (xop_sound (df := df) hT hG h) fun g' w' a' v H' s' hR' hF2 ⟨sl, hv, hK⟩ => ?_
    subst hv
    rw [← hwr sl, ← frOf_put] at hF2
    exact ih m (by omega) (i + 1) _ _ (by omega) hK g' w' a' (s.trans s') hR' hF2
   ·have hw : Region.wanted o (yielded ops a.tmps) = false := guard_wanted hF.s hgv
    rw [if_neg (by rw [hw]; simp)]
    refine ⟨fun _ _ => trivial, ?_⟩
    have hput : FR nt g w (a.put o.dst undef) ((frOf ⟨l', df⟩).put o.dst (.tup [])) := hF'.put (dstOk_lt hd) (VR.und _ _)
    rcases h with h | ⟨G, d, want, ht, hb, h⟩
    ·refine ih m (by omega) (i + 1) _ _ (by omega) h g w _ s hR ?_
     rw [frOf_put]
     exact hput
    ·obtain ⟨sl, h⟩ := xop_tot hT ht h
     refine ih m (by omega) (i + 1) _ _ (by omega) h g w _ s hR ?_
     rw [frOf_put]
     simp only [slV, hb, cond_false]
     exact hput
  ·split at h
   ·rename_i hrest
    refine guarded hd hrest.symm ?_
    have e : (fun (G : List (Nat × Bool)) (l' : Fl) (wr : Sl → Sl) => xop (real P nt rd) T A G o l' H fun s H' => xops (real P nt rd) T nt A Z ops [] (putl o.dst (wr s) l') H' K) = fun G l' wr => xop (real P nt rd) T A G o l' H fun s H' => K (putl o.dst (wr s) l') H' := by
     funext G l' wr
     have : (fun s H' => xops (real P nt rd) T nt A Z ops [] (putl o.dst (wr s) l') H' K) = fun s H' => K (putl o.dst (wr s) l') H' := by
      funext s H'; unfold xops; rfl
     rw [this]
    have e2 : (fun l' => xops (real P nt rd) T nt A Z ops [] (putl o.dst (.v (.tup [])) l') H K) = fun l' => K (putl o.dst (.v (.tup [])) l') H := by
     funext l'; unfold xops; rfl
    rw [e, e2]; exact h
   ·rename_i o2 rest' hrest
    split at h
    ·rename_i d t t2 x hp
     obtain ⟨p1, p2, p3, p4, p5, p6, p7⟩ := isPair_inv hp
     have hw : ∀ y, Region.wanted o y = true := fun y => by simp [Region.wanted, p3]
     rw [if_pos (hw _)]
     split at h
     ·rename_i cs hcs
      unfold pairV at hcs
      split at hcs
      ·rename_i I I2 hI hI2
       split at hcs
       ·rename_i z hz
        have ez := (tg_ok hT hI).ze; rw [hz] at ez; simp only [optOk] at ez
        split at hcs
        ·rename_i hc
         obtain ⟨c1, c2, c3, c4⟩ := hc
         cases hcs
         have hlen : i + 1 < ops.toList.length := by
          rcases Nat.lt_or_ge (i + 1) ops.toList.length with h' | h'
          ·exact h'
          ·rw [List.drop_eq_nil_of_le h'] at hrest; cases hrest
         have hlen' : i + 1 < ops.size := by simpa using hlen
         have hdrop2 := List.drop_eq_getElem_cons hlen
         rw [hrest, Array.getElem_toList] at hdrop2
         have ho2 : ops[i + 1] = o2 := by injection hdrop2 with e _; exact e.symm
         have hr2 : rest' = ops.toList.drop (i + 2) := by injection hdrop2
         rw [hr2] at h
         obtain ⟨m', rfl⟩ : ∃ m', m = m' + 1 := ⟨m - 1, by omega⟩
         refine wp_op (A := A) (K := fun v H' => ∃ id, v = .ref id 0 ∧ H id = none ∧ H' = upd H id (some (.cells z.cells))) hR hF hd (by
          simp only [opA, p1]
          exact ⟨z, ez, c1, fun id hid => ⟨id, rfl, hid, rfl⟩⟩) fun g1 w1 a1 v H1 s1 hR1 hF1 hK1 => ?_
         obtain ⟨id, rfl, hid, rfl⟩ := hK1
         simp only [List.range'_succ, wpOpsIn, Array.getElem?_eq_getElem hlen', ho2]
         rw [if_pos (by simp [Region.wanted, p6])]
         have hev : ev ((frOf ⟨l, df⟩).put o.dst (.ref id 0)) x = (evS [] l x).V := by
          rw [evS_ev (df := df) Gok.nil, p2]
          cases x with
          | tmp t =>
           have : t ≠ d := fun e => p7 (by rw [e])
           simp [ev, Fr.put, this]
          | const _ => rfl
          | global _ => rfl
          | func _ => rfl
         have hev2 : ev ((frOf ⟨l, df⟩).put o.dst (.ref id 0)) (.tmp d) = .ref id 0 := by rw [p2]; simp [ev, Fr.put]
         refine wp_op (A := A) (K := fun v H' => H' = upd (upd H id (some (.cells z.cells))) id (some (.cells (splice z.cells 0 (evS [] l x).V.cells)))) hR1 hF1 (by rw [p5]; rfl) (by
          simp only [opA, p4]
          refine .inl ⟨_, ?_, rfl⟩
          simp only [storeV, (tg_ok hT hI2).sz, hev, hev2, upd_same]
          rw [if_pos ⟨c2, c3, by omega⟩]) fun g2 w2 a2 v2 H2 s2 hR2 hF2 hK2 => ?_
         subst hK2
         obtain ⟨g3, s3, hR3, hv3⟩ := hR2.freeze (upd_same _ _ _)
         rw [upd_upd, upd_back _ _ _ hid] at hR3
         refine ih m' (by omega) (i + 2) _ H (by omega) h g3 w2 a2 (((s.trans s1).trans s2).trans s3) hR3 ?_
         rw [p5, p2] at hF2
         have hF3 := hF2.mono s3
         have e1 := frOf_put (df := df) l (some d) (.v (.eref (splice z.cells 0 (evS [] l x).V.cells) 0))
         rw [show putl (some d) (.v (.eref (splice z.cells 0 (evS [] l x).V.cells) 0)) l = (d, .v (.eref (splice z.cells 0 (evS [] l x).V.cells) 0)) :: l from rfl] at e1
         rw [e1]
         refine ⟨hF3.size, fun q => ?_, hF3.df⟩
         have hq := hF2.s q
         have hq3 := hF3.s q
         simp only [Fr.put] at hq hq3 ⊢
         split
         ·rename_i e; rw [if_pos e] at hq; exact hv3 _ _ hq
         ·rename_i e; rw [if_neg e] at hq3; exact hq3
        ·cases hcs
       ·cases hcs
      ·cases hcs
     ·exact h.elim
    ·exact guarded hd hrest.symm h
end
end Go.Ab

