/- AbA22 -/
import Derived.Test.YtildiiggamckaaaGreatDoorT16
set_option linter.all false
namespace Go.Ab
open Go.RowKit
variable [G5] [Ar]
def Aw (d : Option Tmp) (s : Sl) (l : Fl) : Fl :=
 match d with
 | some d => (d, s) :: l
 | none => l
section
variable (E : CM) (T : Dm) (nt : Nat) (A : Nat → Bool) (Z : Nat → List Nat)
def Qm (H : A0) (k : V → A0 → Prop) (ts : List TypeId) (vs : List V) : Prop :=
 match ts, vs with
 | [sT, yT], [.sl xs tl, .sl ys _] =>
  (match tg T sT, tg T yT with
   | some I, some I2 =>
    (match I.sl, I2.sl with
     | some e, some _ =>
      (match tg T e with
       | some J =>
        (match J.ze with
         | some z => if 0 < J.sz ∧ 0 < J.by_ ∧ z.one = true ∧ z.cells.length = J.sz then E.appn J.sz J.by_ H tl xs ys k else False
         | none => False)
       | none => False)
     | _, _ => False)
   | _, _ => False)
 | _, _ => False
def Ng (H : A0) (k : V → A0 → Prop) (ts : List TypeId) (vs : List V) : Prop :=
 match ts, vs with
 | [sT, yT], [.sl xs tl, .sl ys _] =>
  (match tg T sT, tg T yT with
   | some I, some I2 =>
    (match I.sl, I2.sl with
     | some e, some _ =>
      (match tg T e with
       | some J =>
        (match J.ze with
         | some z => if 0 < J.sz ∧ 0 < J.by_ ∧ z.one = true ∧ z.cells.length = J.sz then E.appw J.sz J.by_ H tl xs ys k else False
         | none => False)
       | none => False)
     | _, _ => False)
   | _, _ => False)
 | _, _ => False
def Td (a : Bool) (vs : List V) : Bool :=
 match vs with
 | .own _ _ _ :: _ => true
 | _ => a
def Nh (H : A0) (k : V → A0 → Prop) (ts : List TypeId) (vs : List V) : Prop :=
 match ts, vs with
 | [sT, yT], [x, y] =>
  (match tg T sT, tg T yT with
   | some I, some I2 =>
    (match I.sl with
     | some e =>
      (match tg T e with
       | some J =>
        (match J.ze with
         | some z =>
          if 0 < J.sz ∧ 0 < J.by_ ∧ z.one = true ∧ z.cells.length = J.sz then
           (match I2.sl, I2.ik, y with
            | some _, _, y => E.oapp J.sz J.by_ z H x y k
            | none, some _, .int _ m => E.oappz J.sz J.by_ z H x m k
            | _, _, _ => False)
          else False
         | none => False)
       | none => False)
     | _ => False)
   | _, _ => False)
 | _, _ => False
def VT (H : A0) (k : V → A0 → Prop) (ts : List TypeId) (vs : List V) : Prop :=
 match ts, vs with
 | [sT, _], [.own id lo n, y] =>
  (match tg T sT with
   | some I =>
    (match I.sl with
     | some e => (match tg T e with | some J => if 0 < J.sz then E.ocopy J.sz H (.own id lo n) y k else False | none => False)
     | _ => False)
   | _ => False)
 | _, _ => False
def SC (H : A0) (k : V → A0 → Prop) (ts : List TypeId) (vs : List V) : Prop :=
 match ts, vs with
 | [sT], [.own id lo n] =>
  (match tg T sT with
   | some I =>
    (match I.sl with
     | some e =>
      (match tg T e with
       | some J => (match J.ze with | some z => if 0 < J.sz ∧ z.one = true ∧ z.cells.length = J.sz then E.oclear J.sz z H (.own id lo n) fun H' => k (.tup []) H' else False | none => False)
       | none => False)
     | _ => False)
   | _ => False)
 | _, _ => False
def VQ (t : Nat) (H : A0) (k : V → A0 → Prop) (l c : V) : Prop :=
 match l, c with
 | .int _ n, .int _ m =>
  (match tg T t with
   | some I =>
    (match I.sl with
     | some e =>
      (match tg T e with
       | some J =>
        (match J.ze with
         | some z => if 0 < J.sz ∧ 0 < J.by_ ∧ z.one = true ∧ z.cells.length = J.sz then E.omk J.sz J.by_ z n m H k else False
         | none => False)
       | none => False)
     | none => False)
   | none => False)
 | _, _ => False
def Uw (t : Nat) (H : A0) (k : Sl → A0 → Prop) : Prop :=
 match tg T t with
 | some I => (match I.sl with | some e => (match tg T e with | some J => E.onil J.sz H fun v H' => k (.v v) H' | none => False) | none => False)
 | none => False
def Xg (t n : Nat) (H : A0) (parts : List (Nat × V)) (k : Sl → A0 → Prop) : Prop :=
 match tg T t with
 | none => False
 | some I =>
  match I.sl with
  | none => False
  | some e =>
   match tg T e with
   | none => False
   | some J =>
    match J.ze with
    | none => False
    | some _ => if n * J.sz ≤ 16777216 ∧ parts.length = n ∧ Y8 J.sz 0 parts = true then E.olit J.sz H (parts.map fun q => q.2) fun v H' => k (.v v) H' else False
def Sx (G : List (Nat × Bool)) (o : Oper) (l : Fl) (H : A0) (k : Sl → A0 → Prop) : Prop :=
 match o.op with
 | .alloc t =>
  (match tg T t with
   | some I =>
    (match I.ze with
     | some z =>
      (match A (o.dst.getD 0 + 5000000), FA z with
       | true, true => (match I.sl with | some e => (match tg T e with | some J => E.oalloc J.sz H fun id H' => k (.v (.ref id 0)) H' | none => False) | none => False)
       | _, _ => (match z.one with | true => E.alloc H z.cells fun id H' => (match A (o.dst.getD 0 + 10000000) with | true => E.wkB H' id fun H2 => k (.v (.ref id 0)) H2 | false => k (.v (.ref id 0)) H') | false => False))
     | none => False)
   | none => False)
 | .box _ x =>
  match A (o.dst.getD 0 + 1000000) with
  | true => E.need ((K1 G l x).V.one = true ∧ (K1 G l x).V.cells = [(K1 G l x).V]) fun _ => (match A (o.dst.getD 0) with | true => E.alloc H [(K1 G l x).V] fun id H' => k (.v (.ref id 0)) H' | false => k (.v (.eref [(K1 G l x).V] 0)) H)
  | false =>
  (match (K1 G l x).V.one with
   | true => (match A (o.dst.getD 0) with | true => E.alloc H (K1 G l x).V.cells fun id H' => k (.v (.ref id 0)) H' | false => k (.v (.eref (K1 G l x).V.cells 0)) H)
   | false => False)
 | .store t x y =>
  (match tg T t with
   | some I =>
    (match (K1 G l x).V with
     | .ref id off =>
      (match (K1 G l y).V.one with
       | true =>
        (match Nat.beq (K1 G l y).V.cells.length I.sz with
         | true => E.store H id off I.sz (K1 G l y).V.cells fun H' => k (.v .bad) H'
         | false => False)
       | false => False)
     | .elem id i esz off => E.ostore H id i esz I.sz off (K1 G l y).V fun H' => k (.v .bad) H'
     | _ => False)
   | none => False)
 | .binOp op t x y _ =>
  (match QR op, FA (K1 G l y).V with
   | some q, true => (match tg T t with | some I => (match I.sl with | some _ => E.nilc (K1 G l x).V (fun _ => k (.b q) H) (fun _ => k (.b (!q)) H) | none => xq E T G o l H fun s => k s H) | none => False)
   | _, _ => xq E T G o l H fun s => k s H)
 | .makeSlice t x y => VQ E T t H (fun v H' => k (.v v) H') (K1 G l x).V (K1 G l y).V
 | .assign x => (match A (o.dst.getD 0 + 6000000), Vq x with | true, true => (match FA (K1 G l x).V with | true => Uw E T o.type H k | false => k (K1 G l x) H) | _, _ => k (K1 G l x) H)
 | .move x => (match A (o.dst.getD 0 + 6000000), Vq x with | true, true => (match FA (K1 G l x).V with | true => Uw E T o.type H k | false => k (K1 G l x) H) | _, _ => k (K1 G l x) H)
 | .buildSlice t n ps =>
  (match A (o.dst.getD 0 + 6000000) with
   | true => Xg E T t n H (ps.toList.map fun p => (p.1, (K1 G l p.2).V)) k
   | false => Dp T t n (ps.toList.map fun p => (p.1, (K1 G l p.2).V)) fun v => k (.v v) H)
 | .makeMap _ r => (match r with | none => E.mmk H fun v H' => k (.v v) H' | some _ => False)
 | .mapUpdate t x y z => E.mset t H (K1 G l x).V (K1 G l y).V (K1 G l z).V fun H' => k (.v .bad) H'
 | .insert t x y z => E.mset t H (K1 G l x).V (K1 G l y).V (K1 G l z).V fun H' => k (.v .bad) H'
 | .range t x => E.mrg t H (K1 G l x).V fun v H' => k (.v v) H'
 | .next x s => (match s with | false => E.mnx H (K1 G l x).V fun v H' => k (.v v) H' | true => False)
 | .entry x => E.men H (K1 G l x).V fun v H' => k (.v v) H'
 | .call c =>
  (match c.callee with
   | .value x => E.call (K1 G l x).V (c.args.toList.map fun x => (K1 G l x).V) H fun v H' => k (.v v) H'
   | .builtin .append =>
    (match Td (A (o.dst.getD 0)) (c.args.toList.map fun x => (K1 G l x).V) with
     | true => Nh E T H (fun v H' => k (.v v) H') c.argTypes.toList (c.args.toList.map fun x => (K1 G l x).V)
     | false =>
      (match A (o.dst.getD 0 + 4000000) with
       | true => Ng E T H (fun v H' => k (.v v) H') c.argTypes.toList (c.args.toList.map fun x => (K1 G l x).V)
       | false => Qm E T H (fun v H' => k (.v v) H') c.argTypes.toList (c.args.toList.map fun x => (K1 G l x).V)))
   | .builtin .copy => VT E T H (fun v H' => k (.v v) H') c.argTypes.toList (c.args.toList.map fun x => (K1 G l x).V)
   | .builtin .clear => SC E T H (fun v H' => k (.v v) H') c.argTypes.toList (c.args.toList.map fun x => (K1 G l x).V)
   | .builtin .delete => E.mdel c.argTypes.toList H (c.args.toList.map fun x => (K1 G l x).V) fun v H' => k (.v v) H'
   | .builtin _ => xq E T G o l H fun s => k s H
   | _ => False)
 | _ => xq E T G o l H fun s => k s H
def PK (o o2 : Oper) : Option (Nat × TypeId × TypeId × Operand) :=
 match o.op, o.dst, o.guard with
 | .alloc t, some d, none =>
  (match o2.op, o2.dst, o2.guard with
   | .store t2 (.tmp d2) x, none, none =>
    (match A d, Nat.beq d d2 with
     | false, true => (match x with | .tmp d3 => (match Nat.beq d d3 with | true => none | false => some (d, t, t2, x)) | _ => some (d, t, t2, x))
     | _, _ => none)
   | _, _, _ => none)
 | _, _, _ => none
def VY (l : Fl) (t t2 : TypeId) (x : Operand) : Option (List V) :=
 match tg T t, tg T t2 with
 | some I, some I2 =>
  (match I.ze with
   | some z => if z.one = true ∧ (K1 [] l x).V.one = true ∧ (K1 [] l x).V.cells.length = I2.sz ∧ I2.sz ≤ z.cells.length then some (K9 z.cells 0 (K1 [] l x).V.cells) else none
   | none => none)
 | _, _ => none
def CN (ops : Array Oper) (o : Oper) : Nat → Fl → (List (Nat × Bool) → Fl → (Sl → Sl) → Prop) → (Fl → Prop) → Prop
 | n, l, go, skip =>
  match o.guard with
  | none => go [] l Sl.n
  | some (j, want) =>
   (match (ops[j]?).bind (·.dst) with
    | none => False
    | some d =>
     (match NM [] l d with
      | some (.b c) => (match c == want with | true => go [] l Sl.n | false => skip l)
      | some (.v (.bool c)) =>
       (match Fz [(d, want)] o l with
        | true => go [(d, want)] l fun s => .g d want s.V
        | false =>
         E.br c (fun _ => match want with | true => go [] (Gz l d true) Sl.n | false => skip (Gz l d true))
          (fun _ => match want with | false => go [] (Gz l d false) Sl.n | true => skip (Gz l d false)))
      | some (.v (.tup _)) => skip l
      | some _ => False
      | none =>
       (match lk l d with
        | .g j' _ (.bool _) =>
         (match RW l d j' with
          | true =>
           (match Fz [(d, want)] o l with
            | true => go [(d, want)] l fun s => .g d want s.V
            | false =>
             (match lk l j', n with
              | .v (.bool c), n + 1 => E.br c (fun _ => CN ops o n (Gz l j' true) go skip) (fun _ => CN ops o n (Gz l j' false) go skip)
              | _, _ => False))
          | false => False)
        | _ => False)))
def IP : Option (Nat × Int × Int × List V) → List Nat → Fl → A0 → (Fl → A0 → Prop) → Prop
 | _, [], l, H, k => k l H
 | some (id, lo, n, xs), d :: ds, l, H, k =>
  (match lk l d with
   | .v (.own id' lo' n') => E.need (id' = id ∧ lo' = lo ∧ n' = n) fun _ => IP (some (id, lo, n, xs)) ds ((d, .v (.sl xs .ro)) :: l) H k
   | _ => IP none ds l H k)
 | none, d :: ds, l, H, k =>
  match decide (1000000 ≤ d) with
  | true =>
   (match lk l (d % 1000000) with
    | .v (.ref id 0) =>
     (match decide (100000000 ≤ d) with
      | true => E.adoptIn H id ((d - 100000000) / 1000000) fun H' => IP none ds l H' k
      | false => E.frzIn H id (d / 1000000 - 1) fun H' => IP none ds l H' k)
    | _ => False)
  | false =>
   match lk l d with
   | .v (.ref id 0) => E.frzL H id fun cs H' => IP none ds ((d, .v (.eref cs 0)) :: l) H' k
   | .v (.own id lo n) => E.ofrz H id lo n fun xs H' => IP (some (id, lo, n, xs)) ds ((d, .v (.sl xs .ro)) :: l) H' k
   | .v (.sl _ _) => IP none ds l H k
   | _ => False
def Xw (o : Oper) : List Nat :=
 match o.dst with
 | some q => Z q
 | none => []
def GU (ops : Array Oper) : List Oper → Fl → A0 → (Fl → A0 → Prop) → Prop
 | [], l, H, K => K l H
 | o :: rest, l, H, K =>
  match Cw nt o.dst with
  | false => False
  | true =>
   IP E none (Xw Z o) l H fun l H =>
   match rest with
   | [] => CN E ops o 4 l (fun G l' wr => Sx E T A G o l' H fun s H' => K (Aw o.dst (wr s) l') H') fun l' => K (Aw o.dst (.v (.tup [])) l') H
   | o2 :: rest' =>
    (match PK A o o2 with
     | some (d, t, t2, x) =>
      (match VY T l t t2 x with
       | some cs => GU ops rest' ((d, .v (.eref cs 0)) :: l) H K
       | none => False)
     | none => CN E ops o 4 l (fun G l' wr => Sx E T A G o l' H fun s H' => GU ops (o2 :: rest') (Aw o.dst (wr s) l') H' K) fun l' => GU ops (o2 :: rest') (Aw o.dst (.v (.tup [])) l') H K)
end
section
variable {P : Program} {nt : Nat} {rd : Option Nat} {T : Dm} {A : Nat → Bool} {df : List Nat}
theorem QH (l : Fl) (d t : Nat) (s : Sl) : Y3 ((d, s) :: l) t = if t = d then Sp l s else Y3 l t := by
 simp only [Y3]
 by_cases h : t = d
 ·subst h; simp only [Nat.beq_refl, if_true]; cases s <;> rfl
 have : Nat.beq t d = false := by
  cases hb : Nat.beq t d with
  | false => rfl
  | true => exact absurd (Nat.eq_of_beq_eq_true hb) h
 simp [this, h]
theorem G9 (l : Fl) (d : Option Tmp) (s : Sl) : D9 ⟨Aw d s l, df⟩ = (D9 ⟨l, df⟩).put d (Sp l s) := by
 cases d with
 | none => rfl
 | some d =>
  simp only [D9, Aw, Fr.put, Fr.mk.injEq, and_true]
  funext t
  exact QH l d t s
theorem AZ {ops : Array Oper} {o : Oper} {go : List (Nat × Bool) → Fl → (Sl → Sl) → Prop} {skip : Fl → Prop} : ∀ (n : Nat) (l : Fl), CN (E6 P nt rd) ops o n l go skip →
 ∃ l', (∀ t, Y3 l' t = Y3 l t) ∧ ((U9 ops (D9 ⟨l, df⟩) o = some true ∧ ∃ G wr, EY G l' ∧ (∀ s, Sp l' (wr s) = s.V) ∧ go G l' wr) ∨
  (U9 ops (D9 ⟨l, df⟩) o = some false ∧ (skip l' ∨ ∃ G d want, Fz G o l' = true ∧ PM (Y3 l' d) want = false ∧ go G l' fun s => .g d want s.V)))
 | n, l, h => by
  unfold CN at h
  split at h
  ·rename_i hg;exact ⟨l, fun _ => rfl, .inl ⟨by simp [U9, hg], [], _, EY.nil, fun s => by cases s <;> rfl, h⟩⟩
  rename_i j want hg
  split at h
  ·exact h.elim
  rename_i d hjd
  have gv : ∀ x, Y3 l d = x → U9 ops (D9 ⟨l, df⟩) o = match x with | .bool c => some (c == want) | .tup _ => some false | _ => none := fun x hx => by
   simp only [U9, hg, hjd, D9, hx]
   try (cases x <;> rfl)
  have idok : ∀ (l' : Fl) (s : Sl), Sp l' s.n = s.V := fun l' s => by cases s <;> rfl
  have tot : ∀ c, Y3 l d = .bool c → Fz [(d, want)] o l = true → go [(d, want)] l (fun s => .g d want s.V) → ∃ l', (∀ t, Y3 l' t = Y3 l t) ∧ ((U9 ops (D9 ⟨l, df⟩) o = some true ∧ ∃ G wr, EY G l' ∧ (∀ s, Sp l' (wr s) = s.V) ∧ go G l' wr) ∨
   (U9 ops (D9 ⟨l, df⟩) o = some false ∧ (skip l' ∨ ∃ G d want, Fz G o l' = true ∧ PM (Y3 l' d) want = false ∧ go G l' fun s => .g d want s.V))) := by
   intro c hc ht h;have := gv _ hc
   simp only at this
   cases hcw : c == want with
   | true => exact ⟨l, fun _ => rfl, .inl ⟨by rw [this, hcw], _, _, EY.nil.add (by rw [hc]; simp only [PM, hcw]), fun s => by simp only [Sp, hc, PM, hcw, cond_true], h⟩⟩
   | false => exact ⟨l, fun _ => rfl, .inr ⟨by rw [this, hcw], .inr ⟨_, d, want, ht, by rw [hc]; simp only [PM, hcw], h⟩⟩⟩
  split at h
  ·rename_i c hc;have hv : Y3 l d = .bool c := (Fo EY.nil hc).1.symm;have := gv _ hv
   split at h
   ·rename_i e; exact ⟨l, fun _ => rfl, .inl ⟨by rw [this]; simp only [e], [], _, EY.nil, idok l, h⟩⟩
   rename_i e; exact ⟨l, fun _ => rfl, .inr ⟨by rw [this]; simp only [e], .inl h⟩⟩
  ·rename_i c hc;have hv : Y3 l d = .bool c := (Fo EY.nil hc).1.symm;have hgv := gv _ hv
   split at h
   ·rename_i ht; exact tot c hv ht h
   have e := IV l d c hv;obtain ⟨h1, h2⟩ := h;cases c
   ·have h := h2 rfl;cases want
    ·exact ⟨_, e, .inl ⟨hgv, [], _, EY.nil, idok _, h⟩⟩
    exact ⟨_, e, .inr ⟨hgv, .inl h⟩⟩
   have h := h1 rfl;cases want
   ·exact ⟨_, e, .inr ⟨hgv, .inl h⟩⟩
   exact ⟨_, e, .inl ⟨hgv, [], _, EY.nil, idok _, h⟩⟩
  ·rename_i vs hc;have hv : Y3 l d = .tup vs := (Fo EY.nil hc).1.symm;exact ⟨l, fun _ => rfl, .inr ⟨gv _ hv, .inl h⟩⟩
  ·exact h.elim
  split at h
  ·rename_i j' w' cx hl
   split at h
   ·rename_i hf;have hv := MM l d j' w' _ hl hf
    split at h
    ·rename_i ht
     cases hb : PM (Y3 l j') w' with
     | true =>
      rw [hb] at hv
      exact tot cx hv ht h
     | false =>
      rw [hb] at hv
      have hv : Y3 l d = .tup [] := hv;exact ⟨l, fun _ => rfl, .inr ⟨gv _ hv, .inr ⟨_, d, want, ht, by rw [hv]; rfl, h⟩⟩⟩
    split at h
    ·rename_i c m hc;have hvj := Fy l j' _ hc (fun _ _ _ h => by cases h);obtain ⟨h1, h2⟩ := h
     have key : ∀ b, c = b → CN (E6 P nt rd) ops o m (Gz l j' b) go skip → ∃ l', (∀ t, Y3 l' t = Y3 l t) ∧ ((U9 ops (D9 ⟨l, df⟩) o = some true ∧ ∃ G wr, EY G l' ∧ (∀ s, Sp l' (wr s) = s.V) ∧ go G l' wr) ∨
      (U9 ops (D9 ⟨l, df⟩) o = some false ∧ (skip l' ∨ ∃ G d want, Fz G o l' = true ∧ PM (Y3 l' d) want = false ∧ go G l' fun s => .g d want s.V))) := by
      intro b hb h
      have hk : Y3 l j' = .bool b := by rw [hvj, hb]; rfl
      have e := IV l j' b hk;obtain ⟨l', e', h⟩ := AZ m _ h
      rw [Ia hk] at h
      exact ⟨l', fun t => (e' t).trans (e t), h⟩
     cases c
     ·exact key false rfl (h2 rfl)
     exact key true rfl (h1 rfl)
    exact h.elim
   exact h.elim
  exact h.elim
theorem G4.whole {y : V} {vs : List V} (h : G4 y.cells vs) (h1 : y.one = true) : ∃ z, Y4 y z ∧ z.cells = vs := by
 have one : ∀ {y : V} {vs : List V}, G4 [y] vs → (∀ z, Y4 y z → z.cells = [z]) → ∃ z, Y4 y z ∧ z.cells = vs := by
  intro y vs h hz
  cases h with
  | cons q r => cases r; exact ⟨_, q, hz _ q⟩
 cases y with
 | agg cs => exact ⟨.agg vs, .agg h, rfl⟩
 | tup vs => cases h1
 | _ => exact one h fun z hz => by cases hz <;> rfl
theorem HD (hT : EX P T) {G : List (Nat × Bool)} {o : Oper} {l : Fl} (hG : EY G l) {H : A0} {k : Sl → A0 → Prop} (h : Sx (E6 P nt rd) T A G o l H k) : Dh P A o (ev (D9 ⟨l, df⟩)) H fun v H' => ∃ s : Sl, v = s.V ∧ k s H' := by
 have E : ∀ x, (K1 G l x).V = ev (D9 ⟨l, df⟩) x := fun x => Bk hG x;have Em : ∀ xs : List Operand, (xs.map fun x => (K1 G l x).V) = xs.map (ev (D9 ⟨l, df⟩)) := fun xs => List.map_congr_left fun p _ => E p
 have quiet : xq (E6 P nt rd) T G o l H (fun s => k s H) → ∃ v, GD P o (ev (D9 ⟨l, df⟩)) H v ∧ ∃ s : Sl, v = s.V ∧ k s H := fun h => by
  obtain ⟨s, h1, h2⟩ := GT (df := df) hT hG h;exact ⟨_, h1, s, rfl, h2⟩
 unfold Sx at h
 split at h
 ·rename_i t ho;simp only [Dh, ho]
  split at h
  ·rename_i I hI
   split at h
   ·rename_i z hz
    have ez := (D4 hT hI).ze; rw [hz] at ez; simp only [X0] at ez
    split at h
    ·rename_i hA hn
     split at h
     ·split at h
      ·rename_i J _
       have e2 : z = .sl [] .nil := by
        unfold FA at hn
        split at hn
        ·rfl
        cases hn
       rw [e2] at ez
       exact .inr ⟨ez, J.sz, fun q id hq hid => ⟨.v (.ref id 0), rfl, h q id hq hid⟩⟩
      exact h.elim
     exact h.elim
    split at h
    ·rename_i h1;refine .inl ⟨z, ez, h1, fun id hid => ?_⟩;have h := h id hid
     split at h
     ·obtain ⟨cs, ds, q1, q2, q3⟩ := h
      rw [A9] at q1; cases q1
      rw [P6] at q3
      exact ⟨ds, q2, .v (.ref id 0), rfl, q3⟩
     exact ⟨_, .refl _, .v (.ref id 0), rfl, h⟩
    exact h.elim
   exact h.elim
  exact h.elim
 ·rename_i t x ho;simp only [Dh, ho]
  split at h
  ·rw [E] at h
   obtain ⟨⟨h1, h2⟩, h⟩ := h;refine ⟨h1, ?_⟩;rw [h2]
   split at h
   ·rename_i hA;rw [if_pos hA];exact fun id hid => ⟨.v (.ref id 0), rfl, h id hid⟩
   rename_i hA;rw [if_neg (by rw [hA]; simp)];exact ⟨.v (.eref _ 0), rfl, h⟩
  split at h
  ·rename_i h1
   rw [E] at h1
   refine ⟨h1, ?_⟩
   split at h
   ·rename_i hA;rw [if_pos hA];intro id hid;have := h id hid
    rw [E] at this
    exact ⟨.v (.ref id 0), rfl, this⟩
   rename_i hA;rw [if_neg (by rw [hA]; simp)]
   rw [E] at h
   exact ⟨.v (.eref _ 0), rfl, h⟩
  exact h.elim
 ·rename_i t x y ho;simp only [Dh, ho]
  split at h
  ·rename_i I hI
   split at h
   ·rename_i id off hx
    split at h
    ·rename_i h1
     split at h
     ·rename_i h2;obtain ⟨cs, vs', hle, hk, h3, h⟩ := h
      rw [E] at hx h1 h2 hle
      obtain ⟨z, hz, hzc⟩ := hle.whole h1;subst hzc;refine .inl ⟨z, _, hz, ?_, .v .bad, rfl, h⟩;simp only [Gx, (D4 hT hI).sz, hx, hk];rw [if_pos ⟨hz.one h1, by rw [← hz.cells.length]; exact Nat.eq_of_beq_eq_true h2, Nat.le_of_ble_eq_true h3⟩]
     exact h.elim
    exact h.elim
   ·rename_i id i esz off hx;obtain ⟨xs, y', q1, q2, q3, q4, q5, q6, h⟩ := h
    rw [E] at hx q1
    refine .inr ⟨y', _, q1, ?_, .v .bad, rfl, h⟩;simp only [Ma, (D4 hT hI).sz, hx, Bu, q5];rw [if_pos ⟨q6, trivial, q2, q3, q4⟩]
   exact h.elim
  exact h.elim
 ·rename_i op t x y ty ho
  have old : xq (E6 P nt rd) T G o l H (fun s => k s H) → Dh P A o (ev (D9 ⟨l, df⟩)) H fun v H' => ∃ s : Sl, v = s.V ∧ k s H' := fun h => by
   obtain ⟨v, h1, h2⟩ := quiet h;simp only [Dh, ho];exact .inl ⟨v, h1, h2⟩
  split at h
  ·rename_i q hq hn
   split at h
   ·rename_i I hI
    split at h
    ·rename_i e he;obtain ⟨p, h1, h2, h3⟩ := h
     rw [E] at h1 hn
     simp only [Dh, ho];refine .inr ⟨q, e, p, hq, (D4 hT hI).sl.trans he, h1, ?_, fun hx => ⟨.b q, rfl, h2 hx⟩, ⟨.b (!q), rfl, h3⟩⟩
     unfold FA at hn
     split at hn
     ·assumption
     cases hn
    exact old h
   exact h.elim
  exact old h
 ·rename_i t x y ho;simp only [Dh, ho]
  rw [E, E] at h
  refine .inr ?_
  unfold VQ at h
  unfold Iy
  split at h
  ·rename_i k1 n k2 m e1 e2;rw [e1, e2]
   simp only
   split at h
   ·rename_i I hI
    split at h
    ·rename_i e he
     split at h
     ·rename_i J hJ
      split at h
      ·rename_i z hz
       have ez := (D4 hT hJ).ze; rw [hz] at ez; simp only [X0] at ez
       split at h
       ·rename_i hc;obtain ⟨c1, c2, c3, c4⟩ := hc;obtain ⟨⟨q1, q2, q3⟩, ys, hle, h⟩ := h;exact ⟨e, J.sz, J.by_, z, (D4 hT hI).sl.trans he, (D4 hT hJ).sz, c1, (D4 hT hJ).by_, c2, ez, c3, c4, q1, q2, q3, fun id hid => ⟨id, J.sz, _, ys, A9 _ _ _, hle, .v _, rfl, by rw [P6]; exact h id hid⟩⟩
       exact h.elim
      exact h.elim
     exact h.elim
    exact h.elim
   exact h.elim
  exact h.elim
 ·rename_i x ho;simp only [Dh, ho]
  split at h
  ·split at h
   ·rename_i hn
    rw [E] at hn
    unfold Uw at h
    split at h
    ·split at h
     ·split at h
      ·rename_i J _;refine .inr ⟨?_, J.sz, fun q hq => ⟨.v _, rfl, h q hq⟩⟩
       unfold FA at hn
       split at hn
       ·assumption
       cases hn
      exact h.elim
     exact h.elim
    exact h.elim
   exact .inl ⟨_, (E x).symm, h⟩
  exact .inl ⟨_, (E x).symm, h⟩
 ·rename_i x ho;simp only [Dh, ho]
  split at h
  ·split at h
   ·rename_i hn
    rw [E] at hn
    unfold Uw at h
    split at h
    ·split at h
     ·split at h
      ·rename_i J _;refine .inr ⟨?_, J.sz, fun q hq => ⟨.v _, rfl, h q hq⟩⟩
       unfold FA at hn
       split at hn
       ·assumption
       cases hn
      exact h.elim
     exact h.elim
    exact h.elim
   exact .inl ⟨_, (E x).symm, h⟩
  exact .inl ⟨_, (E x).symm, h⟩
 ·rename_i t n ps ho
  have Ep : ∀ ps : List (Nat × Operand), (ps.map fun p => (p.1, (K1 G l p.2).V)) = ps.map fun p => (p.1, ev (D9 ⟨l, df⟩) p.2) := fun ps => List.map_congr_left fun p _ => by rw [E]
  split at h
  ·simp only [Dh, ho];refine .inr ?_
   rw [Ep] at h
   unfold Xg at h
   split at h
   ·exact h.elim
   rename_i I hI
   split at h
   ·exact h.elim
   rename_i e he
   split at h
   ·exact h.elim
   rename_i J hJ
   split at h
   ·exact h.elim
   rename_i z hz
   have ez := (D4 hT hJ).ze; rw [hz] at ez; simp only [X0] at ez
   split at h
   ·rename_i hc;obtain ⟨ys, hle, h⟩ := h;refine ⟨e, J.sz, _, ys, ?_, (D4 hT hI).sl.trans he, (D4 hT hJ).sz, hle, fun q hq => ⟨.v _, rfl, h q hq⟩⟩;simp only [S8, (D4 hT hI).sl, he, (D4 hT hJ).sz, ez];rw [if_pos hc]
   exact h.elim
  obtain ⟨v, h1, h2⟩ := Dn hT h
  rw [Ep] at h1
  simp only [Dh, ho];exact .inl ⟨v, by simp only [GD, ho]; exact h1, .v v, rfl, h2⟩
 ·rename_i t r ho;simp only [Dh, ho]
  split at h
  ·exact ⟨rfl, Ln (K := fun v H' => k (.v v) H') h fun v H' hk => ⟨.v v, rfl, hk⟩⟩
  exact h.elim
 ·rename_i t x y z ho;simp only [Dh, ho]
  rw [E, E, E] at h
  exact CB (K := fun _ H' => k (.v .bad) H') h fun H' hk => ⟨.v .bad, rfl, hk⟩
 ·rename_i t x y z ho;simp only [Dh, ho]
  rw [E, E, E] at h
  exact CB (K := fun _ H' => k (.v .bad) H') h fun H' hk => ⟨.v .bad, rfl, hk⟩
 ·rename_i t x ho;simp only [Dh, ho]
  rw [E] at h
  exact Ir (K := fun v H' => k (.v v) H') h fun v H' hk => ⟨.v v, rfl, hk⟩
 ·rename_i x s ho;simp only [Dh, ho]
  cases s with
  | true => exact h.elim
  | false =>
   rw [E] at h
   exact ⟨rfl, JK (K := fun v H' => k (.v v) H') h fun v H' hk => ⟨.v v, rfl, hk⟩⟩
 ·rename_i x ho;simp only [Dh, ho]
  rw [E] at h
  exact IF (K := fun v H' => k (.v v) H') h fun v H' hk => ⟨.v v, rfl, hk⟩
 ·rename_i c ho
  split at h
  ·rename_i x hc;simp only [Dh, ho, hc]
   rw [E, Em] at h
   exact Am.mono h fun v H' hk => ⟨.v v, rfl, hk⟩
  ·rename_i hc;simp only [Dh, ho, hc]
   rw [Em] at h
   split at h
   ·refine .inr (.inl ?_)
    unfold Nh at h
    unfold HB
    split at h
    ·rename_i sT yT x y hts hvs;rw [hts, hvs]
     simp only
     split at h
     ·rename_i I I2 hI hI2
      split at h
      ·rename_i e he
       split at h
       ·rename_i J hJ
        split at h
        ·rename_i z hz
         have ez := (D4 hT hJ).ze; rw [hz] at ez; simp only [X0] at ez
         split at h
         ·rename_i hc;obtain ⟨c1, c2, c3, c4⟩ := hc;refine ⟨e, J.sz, J.by_, z, (D4 hT hI).sl.trans he, (D4 hT hJ).sz, c1, (D4 hT hJ).by_, c2, ez, c3, c4, ?_⟩
          split at h
          ·rename_i he2;obtain ⟨ys', q1, h⟩ := h;exact .inl ⟨by rw [(D4 hT hI2).sl, he2]; rfl, ys', q1, EQ h fun v H' hk => ⟨.v _, rfl, hk⟩⟩
          ·rename_i k0 he2 hik;have eik := (D4 hT hI2).ik
           rw [hik] at eik
           obtain ⟨q1, h⟩ := h;exact .inr ⟨⟨_, eik⟩, _, _, rfl, q1.1, q1.2, EQ h fun v H' hk => ⟨.v _, rfl, hk⟩⟩
          exact h.elim
         exact h.elim
        exact h.elim
       exact h.elim
      exact h.elim
     exact h.elim
    exact h.elim
   split at h
   ·refine .inr (.inr ?_)
    unfold Ng at h
    unfold CG
    split at h
    ·rename_i sT yT xs tl ys tl' hts hvs;rw [hts, hvs]
     simp only
     split at h
     ·rename_i I I2 hI hI2
      split at h
      ·rename_i e e2 he he2
       split at h
       ·rename_i J hJ
        split at h
        ·rename_i z hz
         have ez := (D4 hT hJ).ze; rw [hz] at ez; simp only [X0] at ez
         split at h
         ·rename_i hc;obtain ⟨c1, c2, c3, c4⟩ := hc;obtain ⟨xs', ys', l1, l2, k1, k2, k3, k4, k5⟩ := h;exact ⟨e, J.sz, J.by_, z, (D4 hT hI).sl.trans he, by rw [(D4 hT hI2).sl, he2]; rfl, (D4 hT hJ).sz, c1, (D4 hT hJ).by_, c2, ez, c3, c4, xs', ys', l1, l2, k1, k2, k3, k4, fun e => ⟨_, _, by subst e; rw [List.append_nil]; exact .ro _ _, fun _ _ hx => Bm hx, ⟨.v _, rfl, k5⟩⟩, fun t h1 h2 => ⟨_, _, .ro _ _, fun id b hx => by rw [A3 _ _ fun e => by subst e; rw [h2] at hx; cases hx]; exact hx, ⟨.v _, rfl, k5⟩⟩⟩
         exact h.elim
        exact h.elim
       exact h.elim
      exact h.elim
     exact h.elim
    exact h.elim
   refine .inl ?_
   unfold Qm at h
   unfold CG
   split at h
   ·rename_i sT yT xs tl ys tl' hts hvs;rw [hts, hvs]
    simp only
    split at h
    ·rename_i I I2 hI hI2
     split at h
     ·rename_i e e2 he he2
      split at h
      ·rename_i J hJ
       split at h
       ·rename_i z hz
        have ez := (D4 hT hJ).ze; rw [hz] at ez; simp only [X0] at ez
        split at h
        ·rename_i hc;obtain ⟨c1, c2, c3, c4⟩ := hc;obtain ⟨xs', ys', l1, l2, k1, k2, k3, k4, k5, k6⟩ := h;exact ⟨e, J.sz, J.by_, z, (D4 hT hI).sl.trans he, by rw [(D4 hT hI2).sl, he2]; rfl, (D4 hT hJ).sz, c1, (D4 hT hJ).by_, c2, ez, c3, c4, xs', ys', l1, l2, k1, k2, k3, k4, fun e => ⟨.v _, rfl, k5 e⟩, fun t h1 h2 => ⟨.v _, rfl, k6 t h1 h2⟩⟩
        exact h.elim
       exact h.elim
      exact h.elim
     exact h.elim
    exact h.elim
   exact h.elim
  ·rename_i hc;simp only [Dh, ho, hc]
   rw [Em] at h
   unfold VT at h
   unfold Oy
   split at h
   ·rename_i sT yT id lo n y hts hvs;rw [hts, hvs]
    simp only
    split at h
    ·rename_i I hI
     split at h
     ·rename_i e he
      split at h
      ·rename_i J hJ
       split at h
       ·rename_i c1;obtain ⟨xs, ys', q1, q2, h⟩ := h;exact ⟨e, J.sz, xs, ys', (D4 hT hI).sl.trans he, (D4 hT hJ).sz, c1, q1, q2, .v _, rfl, h⟩
       exact h.elim
      exact h.elim
     exact h.elim
    exact h.elim
   exact h.elim
  ·rename_i hc;simp only [Dh, ho, hc]
   rw [Em] at h
   unfold SC at h
   unfold Kq
   split at h
   ·rename_i sT id lo n hts hvs;rw [hts, hvs]
    simp only
    split at h
    ·rename_i I hI
     split at h
     ·rename_i e he
      split at h
      ·rename_i J hJ
       split at h
       ·rename_i z hz
        have ez := (D4 hT hJ).ze; rw [hz] at ez; simp only [X0] at ez
        split at h
        ·rename_i c1;obtain ⟨xs, q1, h⟩ := h;exact ⟨e, J.sz, z, xs, (D4 hT hI).sl.trans he, (D4 hT hJ).sz, c1.1, ez, c1.2.1, c1.2.2, q1, .v _, rfl, h⟩
        exact h.elim
       exact h.elim
      exact h.elim
     exact h.elim
    exact h.elim
   exact h.elim
  ·rename_i hc;simp only [Dh, ho, hc]
   rw [Em] at h
   exact Hu (K := fun v H' => k (.v v) H') h fun v H' hk => ⟨.v v, rfl, hk⟩
  ·rename_i b hb _ _ _ hc;obtain ⟨v, h1, h2⟩ := quiet h
   simp only [GD, ho, hc] at h1
   simp only [Dh, ho, hc];exact ⟨v, h1, h2⟩
  exact h.elim
 rename_i n1 n2 n3 n4 n5 n6 n7 n8 n9 n10 n11 n12 n13 n14 n15;obtain ⟨v, h1, h2⟩ := quiet h;unfold Dh
 split <;> rename_i ho <;> first | exact ⟨v, h1, h2⟩ | exact (n1 _ ho).elim | exact (n1 _ _ ho).elim | exact (n1 _ _ _ ho).elim | exact (n1 _ _ _ _ ho).elim | exact (n1 _ _ _ _ _ ho).elim | exact (n2 _ ho).elim | exact (n2 _ _ ho).elim | exact (n2 _ _ _ ho).elim | exact (n2 _ _ _ _ ho).elim | exact (n2 _ _ _ _ _ ho).elim | exact (n3 _ ho).elim | exact (n3 _ _ ho).elim | exact (n3 _ _ _ ho).elim | exact (n3 _ _ _ _ ho).elim | exact (n3 _ _ _ _ _ ho).elim | exact (n4 _ ho).elim | exact (n4 _ _ ho).elim | exact (n4 _ _ _ ho).elim | exact (n4 _ _ _ _ ho).elim | exact (n4 _ _ _ _ _ ho).elim | exact (n5 _ ho).elim | exact (n5 _ _ ho).elim | exact (n5 _ _ _ ho).elim | exact (n5 _ _ _ _ ho).elim | exact (n5 _ _ _ _ _ ho).elim | exact (n6 _ ho).elim | exact (n6 _ _ ho).elim | exact (n6 _ _ _ ho).elim | exact (n6 _ _ _ _ ho).elim | exact (n6 _ _ _ _ _ ho).elim | exact (n7 _ ho).elim | exact (n7 _ _ ho).elim | exact (n7 _ _ _ ho).elim | exact (n7 _ _ _ _ ho).elim | exact (n7 _ _ _ _ _ ho).elim | exact (n8 _ ho).elim | exact (n8 _ _ ho).elim | exact (n8 _ _ _ ho).elim | exact (n8 _ _ _ _ ho).elim | exact (n8 _ _ _ _ _ ho).elim | exact (n9 _ ho).elim | exact (n9 _ _ ho).elim | exact (n9 _ _ _ ho).elim | exact (n9 _ _ _ _ ho).elim | exact (n9 _ _ _ _ _ ho).elim | exact (n10 _ ho).elim | exact (n10 _ _ ho).elim | exact (n10 _ _ _ ho).elim | exact (n10 _ _ _ _ ho).elim | exact (n10 _ _ _ _ _ ho).elim | exact (n11 _ ho).elim | exact (n11 _ _ ho).elim | exact (n11 _ _ _ ho).elim | exact (n11 _ _ _ _ ho).elim | exact (n11 _ _ _ _ _ ho).elim | exact (n12 _ ho).elim | exact (n12 _ _ ho).elim | exact (n12 _ _ _ ho).elim | exact (n12 _ _ _ _ ho).elim | exact (n12 _ _ _ _ _ ho).elim | exact (n13 _ ho).elim | exact (n13 _ _ ho).elim | exact (n13 _ _ _ ho).elim | exact (n13 _ _ _ _ ho).elim | exact (n13 _ _ _ _ _ ho).elim | exact (n14 _ ho).elim | exact (n14 _ _ ho).elim | exact (n14 _ _ _ ho).elim | exact (n14 _ _ _ _ ho).elim | exact (n14 _ _ _ _ _ ho).elim | exact (n15 _ ho).elim | exact (n15 _ _ ho).elim | exact (n15 _ _ _ ho).elim | exact (n15 _ _ _ _ ho).elim | exact (n15 _ _ _ _ _ ho).elim
theorem VR.nil_inv {g : Gh} {w : World} {u : Value} (h : VR g w u (.sl [] .nil)) : u = .slice none 0 0 := by
 cases h with
 | sl0 _ => rfl
 | sle ht => rcases ht with h | ⟨h, _⟩ <;> cases h
 | sl _ _ _ _ _ _ _ _ ht => exact ht.elim
theorem AT {cs : List V} {i j : Nat} {x : V} (hi : i < cs.length) : (cs.set i x).getD j .bad = if j = i then x else cs.getD j .bad := by
 simp only [List.getD_eq_getElem?_getD, List.getElem?_set]
 by_cases h : i = j
 ·subst h; simp [hi]
 rw [if_neg h, if_neg (fun e => h e.symm)]
theorem VR.erefLe {g : Gh} {w : World} {v : Value} {cs ds : List V} {off : Nat} (h : VR g w v (.eref cs off)) (hl : G4 cs ds) : VR g w v (.eref ds off) := by
 have e := hl.length
 cases h with
 | eref vs hf hw h1 hv =>
  exact .eref vs (fun j hj => hf j (by omega)) (fun j hj => hw j (by omega)) (fun j hj => h1 j (by omega)) fun j hj => (hv j (by omega)).le (hl.at j)
theorem Y5 {w : World} {a : Act} : ∀ (q : Option (Nat × Int × Int × List V)) (ds : List Nat) (l : Fl) (H : A0) (g : Gh) (k : Fl → A0 → Prop), (∀ id lo n xs, q = some (id, lo, n, xs) → ∀ v, VR g w v (.own id lo n) → VR g w v (.sl xs .ro)) → Rl g H w → FR nt g w a (D9 ⟨l, df⟩) → IP (E6 P nt rd) q ds l H k → ∃ g' l' H', M4 g w g' w ∧ Rl g' H' w ∧ FR nt g' w a (D9 ⟨l', df⟩) ∧ k l' H'
 | q, [], l, H, g, k, _, hR, hF, h => ⟨g, l, H, M4.refl _ _, hR, hF, by unfold IP at h; exact h⟩
 | some (id, lo, n, xs), d :: ds, l, H, g, k, hq, hR, hF, h => by
  unfold IP at h
  split at h
  ·rename_i id' lo' n' hl;obtain ⟨⟨e, e2, e3⟩, h⟩ := h;subst e; subst e2; subst e3
   have hF1 : FR nt g w a (D9 ⟨(d, .v (.sl xs .ro)) :: l, df⟩) := by
    have e := G9 (df := df) l (some d) (.v (.sl xs .ro))
    rw [show Aw (some d) (.v (.sl xs .ro)) l = (d, Sl.v (.sl xs .ro)) :: l from rfl] at e
    rw [e];refine ⟨hF.size, fun t => ?_, hF.df⟩;simp only [Fr.put]
    split
    ·rename_i ht; subst ht;have h0 := hF.s t;have e0 : (D9 ⟨l, df⟩).s t = .own id' lo' n' := Fy l t _ hl (fun _ _ _ h => by cases h)
     rw [e0] at h0
     exact hq _ _ _ _ rfl _ h0
    exact hF.s t
   exact Y5 _ ds _ _ g k hq hR hF1 h
  exact Y5 none ds _ _ g k (fun _ _ _ _ h => by cases h) hR hF h
 | none, d :: ds, l, H, g, k, _, hR, hF, h => by
  unfold IP at h
  split at h
  ·split at h
   ·rename_i id hl
    split at h
    ·obtain ⟨cs, sz, hk, hj, h⟩ := h;obtain ⟨jl, _⟩ := List.getElem?_eq_some_iff.1 hj;obtain ⟨g1, s1, hR1, hn, hv⟩ := BJ hR sz (.inl rfl) (.sl0 rfl : VR g w (.slice none 0 0) (.sl [] .nil))
     have hk1 : upd H g.nx (some (.arr sz [])) id = some (.cells cs) := by
      rw [A3 _ _ (fun e => by rw [e] at hk; rw [hn] at hk; cases hk)]; exact hk
     have hR2 := hR1.chgCells hk1 (ds := cs.set ((d - 100000000) / 1000000) (.own g.nx 0 0)) (by simp) fun j' u hj' hu => by
      rw [AT jl]
      split
      ·rename_i e; subst e
       rw [List.getD_eq_getElem?_getD, hj] at hu
       rw [VR.nil_inv hu]; exact hv
      exact hu
     obtain ⟨g2, l2, H2, s2, r⟩ := Y5 none ds _ _ g1 k (fun _ _ _ _ h => by cases h) hR2 (hF.mono s1) (h _ hn);exact ⟨g2, l2, H2, s1.trans s2, r⟩
    obtain ⟨cs, q, lo, n, sz, xs, ys, hk, hj, hq, hle, h⟩ := h;obtain ⟨jl, _⟩ := List.getElem?_eq_some_iff.1 hj;obtain ⟨g1, s1, hR1, hv⟩ := hR.freezeArr hq
    have hk1 : upd H q none id = some (.cells cs) := by
     rw [A3 _ _ (fun e => by subst e; rw [hk] at hq; cases hq)]; exact hk
    have hR2 := hR1.chgCells hk1 (ds := cs.set (d / 1000000 - 1) (.sl ys .ro)) (by simp) fun j' u hj' hu => by
     rw [AT jl]
     split
     ·rename_i e; subst e
      rw [List.getD_eq_getElem?_getD, hj] at hu
      exact (hv _ _ _ hu).le (.sl _ hle)
     exact hu
    obtain ⟨g2, l2, H2, s2, r⟩ := Y5 none ds _ _ g1 k (fun _ _ _ _ h => by cases h) hR2 (hF.mono s1) h;exact ⟨g2, l2, H2, s1.trans s2, r⟩
   exact h.elim
  split at h
  ·rename_i id hl;obtain ⟨cs0, cs, hk, hle, h⟩ := h;obtain ⟨g1, s1, hR1, hv⟩ := hR.freeze hk
   have hF1 : FR nt g1 w a (D9 ⟨(d, .v (.eref cs 0)) :: l, df⟩) := by
    have e := G9 (df := df) l (some d) (.v (.eref cs 0))
    rw [show Aw (some d) (.v (.eref cs 0)) l = (d, Sl.v (.eref cs 0)) :: l from rfl] at e
    rw [e];have hm := hF.mono s1;refine ⟨hm.size, fun t => ?_, hm.df⟩;simp only [Fr.put]
    split
    ·rename_i ht; subst ht;have h0 := hF.s t;have e0 : (D9 ⟨l, df⟩).s t = .ref id 0 := Fy l t _ hl (fun _ _ _ h => by cases h)
     rw [e0] at h0
     exact (hv _ _ h0).erefLe hle
    exact hm.s t
   obtain ⟨g2, l2, H2, s2, r⟩ := Y5 none ds _ _ g1 k (fun _ _ _ _ h => by cases h) hR1 hF1 h;exact ⟨g2, l2, H2, s1.trans s2, r⟩
  ·rename_i id lo n hl;obtain ⟨sz, xs, ys, hk, hle, h⟩ := h;obtain ⟨g1, s1, hR1, hv0⟩ := hR.freezeArr hk;have hv : ∀ v, VR g1 w v (.own id lo n) → VR g1 w v (.sl ys .ro) := fun v hv1 => (hv0 v lo n hv1).le (.sl _ hle)
   have hF1 : FR nt g1 w a (D9 ⟨(d, .v (.sl ys .ro)) :: l, df⟩) := by
    have e := G9 (df := df) l (some d) (.v (.sl ys .ro))
    rw [show Aw (some d) (.v (.sl ys .ro)) l = (d, Sl.v (.sl ys .ro)) :: l from rfl] at e
    rw [e];have hm := hF.mono s1;refine ⟨hm.size, fun t => ?_, hm.df⟩;simp only [Fr.put]
    split
    ·rename_i ht; subst ht;have h0 := hm.s t;have e0 : (D9 ⟨l, df⟩).s t = .own id lo n := Fy l t _ hl (fun _ _ _ h => by cases h)
     rw [e0] at h0
     exact hv _ h0
    exact hm.s t
   obtain ⟨g2, l2, H2, s2, r⟩ := Y5 (some (id, lo, n, ys)) ds _ _ g1 k (fun _ _ _ _ h => by cases h; exact hv) hR1 hF1 h;exact ⟨g2, l2, H2, s1.trans s2, r⟩
  ·exact Y5 none ds _ _ g k (fun _ _ _ _ h => by cases h) hR hF h
  exact h.elim
theorem OU (hT : EX P T) {G : List (Nat × Bool)} {o : Oper} {l : Fl} {H : A0} {k : Sl → Prop} (ht : Fz G o l = true) (h : xq (E6 P nt rd) T G o l H k) : ∃ s, k s := by
 unfold Fz at ht
 unfold xq at h
 split at ht <;> rename_i ho <;> try simp only [ho] at h
 ·exact ⟨_, h⟩
 ·exact ⟨_, h⟩
 ·split at h
  ·exact ⟨_, h⟩
  ·exact ⟨_, h⟩
  ·obtain ⟨s, _, _, hk⟩ := Il h; exact ⟨s, hk⟩
  exact h.elim
 ·obtain ⟨_, _, hk⟩ := EZ hT h; exact ⟨_, hk⟩
 ·obtain ⟨_, _, hk⟩ := DY hT h; exact ⟨_, hk⟩
 ·obtain ⟨_, _, hk⟩ := GV hT h; exact ⟨_, hk⟩
 ·obtain ⟨_, _, hk⟩ := GW hT h; exact ⟨_, hk⟩
 ·obtain ⟨_, _, hk⟩ := Jg hT h; exact ⟨_, hk⟩
 ·obtain ⟨_, _, hk⟩ := La h; exact ⟨_, hk⟩
 ·split at h
  ·obtain ⟨_, _, hk⟩ := Af h; exact ⟨_, hk⟩
  exact h.elim
 ·split at h
  ·split at h
   ·rename_i hid; obtain ⟨_, _, hk⟩ := Im hT hid h; exact ⟨_, hk⟩
   obtain ⟨_, _, hk⟩ := ET hT h; exact ⟨_, hk⟩
  exact h.elim
 cases ht
theorem LT (hT : EX P T) {G : List (Nat × Bool)} {o : Oper} {l : Fl} {H : A0} {k : Sl → A0 → Prop} (ht : Fz G o l = true) (h : Sx (E6 P nt rd) T A G o l H k) : ∃ s, k s H := by
 have key : xq (E6 P nt rd) T G o l H (fun s => k s H) → ∃ s, k s H := fun h => OU hT ht h
 unfold Fz at ht
 unfold Sx at h
 split at ht <;> rename_i ho <;> try simp only [ho] at h
 all_goals try exact key h
 ·simp only [Bool.not_eq_true'] at ht
  split at h
  ·rename_i h1; rw [ht] at h1; cases h1
  exact ⟨_, h⟩
 ·simp only [Bool.not_eq_true'] at ht
  split at h
  ·rename_i h1; rw [ht] at h1; cases h1
  exact ⟨_, h⟩
 ·split at h
  ·split at h
   ·split at h
    ·obtain ⟨_, _, _, h⟩ := h; exact ⟨_, h⟩
    exact key h
   exact h.elim
  exact key h
 ·split at ht
  ·rename_i hc
   simp only [hc] at h
   exact key h
  cases ht
 cases ht
end
end Go.Ab
