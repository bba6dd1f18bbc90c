/- AbP7 AbP8 AbA24 -/
import Derived.Test.YtildiiggamckaaaGreatDoorT21
import Derived.Test.YtildiiggamckaaaGreatDoorT14
set_option linter.all false
namespace Go.Ab
open Go.RowKit
variable [G5]
section
variable {P : Program}
theorem RK {A : KG} {o : Oper} {ρ ρ' : Operand → V} {H : A0} {K : V → A0 → Prop} (hρ : ∀ x ∈ o.op.operands, ρ x = ρ' x) (h : Dh P A o ρ H K) : Dh P A o ρ' H K := by
 have hq : ∀ {v}, GD P o ρ H v → GD P o ρ' H v := FU hρ
 unfold Dh at h ⊢
 cases ho : o.op <;> simp only [ho] at h ⊢ hρ <;> first
  | exact h
  | (obtain ⟨v, h1, h2⟩ := h; exact ⟨v, hq h1, h2⟩)
  | (simp only [Op.operands, List.mem_toArray, List.mem_cons, List.not_mem_nil, or_false, forall_eq_or_imp, forall_eq] at hρ
     first
      | (rw [← hρ]; exact h)
      | (rw [← hρ.1, ← hρ.2]; exact h)
      | (rw [← hρ.1, ← hρ.2.1, ← hρ.2.2]; exact h))
  | skip
 ·rename_i t n ps
  have e : ps.toList.map (fun p => (p.1, ρ p.2)) = ps.toList.map (fun p => (p.1, ρ' p.2)) := O4 fun p hp => by rw [hρ p.2 (by simp only [Op.operands, List.mem_toArray, List.mem_map]; exact ⟨p, hp, rfl⟩)]
  rw [← e];exact h.imp (fun ⟨v, h1, h2⟩ => ⟨v, hq h1, h2⟩) id
 ·rename_i op t x y _;rw [← hρ x (by simp [Op.operands]), ← hρ y (by simp [Op.operands])];exact h.imp (fun ⟨v, h1, h2⟩ => ⟨v, hq h1, h2⟩) id
 rename_i c;have hargs : c.args.toList.map ρ = c.args.toList.map ρ' := O4 fun p hp => hρ p (by simp only [Op.operands, Call.operands, Array.mem_append]; exact .inr (by simpa using hp));rw [← hargs]
 cases hc : c.callee with
 | value f =>
  simp only [hc] at h ⊢
  rw [← hρ f (by simp [Op.operands, Call.operands, hc])]; exact h
 | builtin b => rw [hc] at h; cases b <;> exact h
 | _ => rw [hc] at h; exact h.elim
def HL : Op → Bool
 | .move _ => true
 | .assign _ => true
 | .pick _ _ _ => true
 | .build _ _ => true
 | .binOp _ _ _ _ _ => true
 | .unOp _ _ _ => true
 | .fieldAddr _ _ _ => true
 | .field _ _ _ => true
 | .extract _ _ => true
 | .load _ _ => true
 | .call c => match c.callee with | .builtin .len => true | _ => false
 | _ => false
theorem Tl {A : KG} {o : Oper} {ρ : Operand → V} {H : A0} {K : V → A0 → Prop} {v : V} (hs : HL o.op = true) (h : GD P o ρ H v) (hk : K v H) : Dh P A o ρ H K := by
 unfold Dh
 cases ho : o.op <;> simp only [ho, HL, Bool.false_eq_true] at hs ⊢ <;> first
  | exact ⟨v, h, hk⟩
  | exact .inl ⟨v, h, hk⟩
  | (unfold GD at h; simp only [ho] at h; subst h; exact .inl hk)
  | skip
 rename_i c
 unfold GD at h
 simp only [ho] at h
 cases hc : c.callee with
 | builtin b =>
  rw [hc] at hs h
  cases b <;> first
   | exact ⟨v, h, hk⟩
   | cases hs
 | _ => rw [hc] at hs; cases hs
variable {A : KG} {nt : Nat} {ops : Array Oper}
def Kd (ops : Array Oper) (i : Nat) : Bool :=
 HL (ops.getD i default).op && (ops.getD i default).guard.isNone && (List.range ops.size).all fun j => j == i || Ap (ops.getD j default) i || Ap (ops.getD i default) j || (ops.getD i default).apart ops (ops.getD j default)
theorem Sk {i : Nat} (hi : i < ops.size) (hf : Kd ops i = true) (hdst : Cw nt (ops.getD i default).dst = true) {K : Fr → A0 → Prop} {v : V} : ∀ (n : Nat) (listed : Array Bool) (fr : Fr) (H : A0), i ∈ Region.ready .any ops listed → (∀ H', GD P (ops.getD i default) (ev fr) H' v) →
 OK P A nt ops n (listed.setIfInBounds i true) (fr.put (ops.getD i default).dst v) H K → OK P A nt ops (n + 1) listed fr H K := by
 simp only [Kd, Bool.and_eq_true, List.all_eq_true, List.mem_range, Bool.or_eq_true, beq_iff_eq] at hf
 obtain ⟨⟨hso, hg⟩, hfree⟩ := hf
 have hg : (ops.getD i default).guard = none := by simpa using hg
 have first : ∀ (fr : Fr) (H : A0) (K' : Fr → A0 → Prop), (∀ H', GD P (ops.getD i default) (ev fr) H' v) → K' (fr.put (ops.getD i default).dst v) H → VW P A nt ops (ops.getD i default) fr H K' := fun fr H K' hq hk => by
  refine ⟨hdst, ?_⟩
  have : U9 ops fr (ops.getD i default) = some true := by unfold U9; rw [hg]
  rw [this];exact Tl hso (hq H) hk
 intro n
 induction n with
 | zero =>
  intro listed fr H hr hq h;refine ⟨fun e => (by rw [e] at hr; cases hr), fun j hj => ?_⟩
  by_cases hji : j = i
  ·subst hji; exact first fr H _ hq h
  have := Go.ready_mono hj hji
  rw [h.1] at this; cases this
 | succ n ih =>
  intro listed fr H hr hq h;refine ⟨fun e => (by rw [e] at hr; cases hr), fun j hj => ?_⟩
  by_cases hji : j = i
  ·subst hji; exact first fr H _ hq h
  have h1 := h.2 j (Go.ready_mono hj hji);obtain ⟨hjs, hjl, hje⟩ := mem_ready hj;obtain ⟨_, hil, _⟩ := mem_ready hr
  have hap : (ops.getD i default).apart ops (ops.getD j default) = true := by
   rcases hfree j hjs with ((e | e) | e) | e
   ·exact absurd e hji
   ·exfalso;have := hje i e
    rcases Nat.lt_or_ge i listed.size with h' | h'
    ·simp [Array.getD, h'] at hil this; rw [hil] at this; cases this
    simp [Array.getD, show ¬ i < listed.size by omega] at this
   ·exfalso;have := (mem_ready hr).2.2 j e
    rcases Nat.lt_or_ge j listed.size with h' | h'
    ·simp [Array.getD, h'] at hjl this; rw [hjl] at this; cases this
    simp [Array.getD, show ¬ j < listed.size by omega] at this
   exact e
  obtain ⟨p1, p2, p3⟩ := Oper.apart_spec hap
  have hn : ∀ (u : V) (H' : A0), OK P A nt ops n ((listed.setIfInBounds i true).setIfInBounds j true) ((fr.put (ops.getD i default).dst v).put (ops.getD j default).dst u) H' K → OK P A nt ops (n + 1) (listed.setIfInBounds j true) (fr.put (ops.getD j default).dst u) H' K := fun u H' hk => by
   refine ih _ _ _ (Go.ready_mono hr fun e => hji e.symm) (fun H2 => FU (fun x hx => (Fx p3 x hx).symm) (hq H2)) ?_;rw [Array.setIfInBounds_comm _ _ hji, ← put_comm p2];exact hk
  obtain ⟨hd, hs⟩ := h1;refine ⟨hd, ?_⟩
  rw [Iz p1] at hs
  split at hs
  ·exact Fp (RK (Fx p1) hs) fun u H' hk => hn u H' hk
  ·exact hn _ _ hs
  exact hs.elim
end
end Go.Ab
namespace Go.Ab
open Go.RowKit
variable [G5] [Ar]
def PQ : List Nat → Nat → Bool
 | [], _ => false
 | a :: l, n => match n == a with | true => true | false => PQ l n
theorem Oe : ∀ {l : List Nat} {n : Nat}, PQ l n = true → n ∈ l
 | [], _, h => by cases h
 | a :: l, n, h => by
  unfold PQ at h
  cases e : n == a with
  | true => rw [beq_iff_eq.1 e]; simp
  | false => rw [e] at h; exact List.mem_cons_of_mem _ (Oe h)
section
variable (E : CM) (T : Dm) (nt : Nat) (A : Nat → Bool) (ops : Array Oper) (fl : List Nat)
def IU (o : Oper) (l : Fl) : Bool :=
 match o.op with
 | .load _ x => (match K1 [] l x with | .v (.eref _ _) => true | _ => false)
 | _ => true
def Eh (l : Fl) : List Nat → Option Nat
 | [] => none
 | i :: r => match PQ fl i with
  | true => (match IU (ops.getD i default) l with | true => some i | false => Eh l r)
  | false => Eh l r
def Lb : Nat → Array Bool → Fl → A0 → (Fl → A0 → Prop) → Prop
 | 0, listed, l, H, K => match Region.ready .any ops listed with | [] => K l H | _ :: _ => False
 | n + 1, listed, l, H, K =>
  match Region.ready .any ops listed with
  | [] => K l H
  | i :: r =>
   match Eh ops fl l (i :: r) with
   | some j =>
    (match Cw nt (ops.getD j default).dst with
     | true => xq E T [] (ops.getD j default) l H fun s => Lb n (listed.setIfInBounds j true) (Aw (ops.getD j default).dst (Sl.n s) l) H K
     | false => False)
   | none => WP (i :: r) fun i => VO E T nt A ops (ops.getD i default) l H fun l' H' => Lb n (listed.setIfInBounds i true) l' H' K
end
theorem Db {ops : Array Oper} {fl : List Nat} {l : Fl} {j : Nat} : ∀ {r : List Nat}, Eh ops fl l r = some j → j ∈ r ∧ PQ fl j = true ∧ IU (ops.getD j default) l = true
 | [], h => by cases h
 | i :: r, h => by
  unfold Eh at h
  cases h1 : PQ fl i with
  | true =>
   rw [h1] at h
   cases h2 : IU (ops.getD i default) l with
   | true => rw [h2] at h; cases h; exact ⟨by simp, h1, h2⟩
   | false => rw [h2] at h; have := Db h; exact ⟨List.mem_cons_of_mem _ this.1, this.2⟩
  | false => rw [h1] at h; have := Db h; exact ⟨List.mem_cons_of_mem _ this.1, this.2⟩
section
variable {P : Program} {nt : Nat} {rd : Option Nat} {T : Dm} {A : Nat → Bool} {df : List Nat}
theorem RI {o : Oper} {ρ : Operand → V} {H : A0} {v : V} (hs : HL o.op = true) (hl : ∀ t x, o.op = .load t x → ∃ cs off, ρ x = .eref cs off) (h : GD P o ρ H v) (H' : A0) : GD P o ρ H' v := by
 unfold GD at h ⊢
 cases ho : o.op <;> simp only [ho, HL, Bool.false_eq_true] at hs h ⊢ <;> first
  | exact h
  | skip
 ·rename_i t x;obtain ⟨cs, off, e⟩ := hl t x ho
  rw [e] at h ⊢
  rcases h with h | h
  ·left
   unfold Du at h ⊢
   split at h
   ·rename_i h1 h2 h3; cases h3; exact h
   ·rename_i h3; cases h3
   cases h
  exfalso
  unfold Gm at h
  split at h
  ·rename_i h3; cases h3
  cases h
 rename_i c
 cases hcc : c.callee with
 | builtin b =>
  rw [hcc] at hs h
  cases b with
  | len =>
   have h : Bt P .len c.argTypes.toList (c.args.toList.map ρ) v ∨ GG P H .len c.argTypes.toList (c.args.toList.map ρ) v := h
   have k : ∀ (ts : List TypeId) (vs : List V), GG P H .len ts vs v → GG P H' .len ts vs v := fun ts vs h => by
    rcases ts with _ | ⟨t, _ | ⟨t2, ts⟩⟩ <;> rcases vs with _ | ⟨x, _ | ⟨x2, vs⟩⟩ <;> first
     | exact h
     | exact h.elim
   exact h.imp id (k _ _)
  | _ => cases hs
 | _ => rw [hcc] at hs; cases hs
theorem Ca (hT : EX P T) {ops : Array Oper} {fl : List Nat} (hfl : ∀ i, PQ fl i = true → Kd ops i = true) {K : Fl → A0 → Prop} : ∀ (n : Nat) (listed : Array Bool) (l : Fl) (H : A0), Lb (E6 P nt rd) T nt A ops fl n listed l H K → OK P A nt ops n listed (D9 ⟨l, df⟩) H fun fr H' => ∃ l', fr = D9 ⟨l', df⟩ ∧ K l' H'
 | 0, listed, l, H, h => by
  unfold Lb at h
  split at h
  ·rename_i e; exact ⟨e, l, rfl, h⟩
  exact h.elim
 | n + 1, listed, l, H, h => by
  unfold Lb at h
  split at h
  ·rename_i e; exact ⟨fun _ => ⟨l, rfl, h⟩, fun i hi => by rw [e] at hi; cases hi⟩
  rename_i i0 r0 e
  split at h
  ·rename_i j hj;obtain ⟨j1, j2, j3⟩ := Db hj
   rw [← e] at j1
   obtain ⟨js, _, _⟩ := mem_ready j1;have hf := hfl j j2
   split at h
   ·rename_i hd;obtain ⟨s, hq, hk⟩ := GT (df := df) hT EY.nil h
    have hso : HL (ops.getD j default).op = true := by
     have := hf
     simp only [Kd, Bool.and_eq_true] at this
     exact this.1.1
    have hst : ∀ t x, (ops.getD j default).op = .load t x → ∃ cs off, ev (D9 ⟨l, df⟩) x = .eref cs off := fun t x ho => by
     unfold IU at j3
     rw [ho] at j3
     dsimp only at j3
     split at j3
     ·rename_i cs off he;exact ⟨cs, off, by rw [← Bk (df := df) EY.nil x, he]; rfl⟩
     cases j3
    have hall := Ca hT hfl n _ _ _ hk
    rw [G9] at hall
    have hv : Sp l (Sl.n s) = s.V := by cases s <;> rfl
    rw [hv] at hall
    exact Sk js hf hd n listed _ H j1 (fun H' => RI hso hst hq H') hall
   exact h.elim
  refine ⟨(fun e' => by rw [e] at e'; cases e'), fun i hi => ?_⟩
  rw [e] at hi
  have h := OJ h i hi
  unfold VO at h
  split at h
  ·rename_i hd;refine ⟨hd, ?_⟩;obtain ⟨l', e, h⟩ := AZ (df := df) 4 l h
   have e : D9 ⟨l', df⟩ = D9 ⟨l, df⟩ := by simp only [D9, Fr.mk.injEq, and_true]; funext t; exact e t
   rcases h with ⟨hg, G, wr, hG, hwr, h⟩ | ⟨hg, h⟩
   ·rw [hg];rw [← e];refine Fp (HD (df := df) hT hG h) fun v H' ⟨s, hv, hk⟩ => ?_;subst hv;rw [← hwr s, ← G9];exact Ca hT hfl n _ _ _ hk
   rw [hg];rw [← e]
   rcases h with h | ⟨G, d, want, ht, hb, h⟩
   ·have := Ca hT hfl n _ _ _ h
    rw [G9] at this
    exact this
   obtain ⟨s, h⟩ := LT hT ht h;have := Ca hT hfl n _ _ _ h
   rw [G9] at this
   simp only [Sp, hb, cond_false] at this
   exact this
  exact h.elim
end
end Go.Ab
namespace Go.Ab
open Go.RowKit
variable [G5] [Ar]
def GF : List Nat → Nat → Bool
 | [], _ => false
 | x :: l, n => match n == x with | true => true | false => GF l n
def RV : List (Nat × Nat) → Nat → Nat
 | [], _ => 0
 | (x, y) :: l, n => match Nat.beq n x with | true => y | false => RV l n
structure Cf where
 A : List Nat
 hk : List (Nat × Nat)
 J : List (Nat × Nat)
 JB : List Nat
 Z : List (Nat × Nat)
 W : List (Nat × Nat × List Nat)
def wAt : List (Nat × Nat × List Nat) → Nat → Option (Nat × List Nat)
 | [], _ => none
 | (q, d) :: l, n => match Nat.beq n q with | true => some d | false => wAt l n
def zAt : List (Nat × Nat) → Nat → List Nat
 | [], _ => []
 | (q, d) :: l, n => match Nat.beq n q with | true => d :: zAt l n | false => zAt l n
def Xp : List (Nat × Nat) → Nat → Nat → Bool
 | [], _, _ => false
 | (x, y) :: l, a, b => match Nat.beq a x && Nat.beq b y with | true => true | false => Xp l a b
def KQ : Code → Nat
 | .region id _ _ => id + 1
 | .seq a b => (match KQ a with | 0 => KQ b | n + 1 => n + 1)
 | .cond _ a b => (match KQ a with | 0 => KQ b | n + 1 => n + 1)
 | .block _ c => KQ c
 | .loop c => KQ c
 | .rangeFunc _ _ a b => (match KQ a with | 0 => KQ b | n + 1 => n + 1)
 | _ => 0
def E9 (cf : Cf) : Code → Bool
 | .seq a b => E9 cf a && E9 cf b
 | .cond _ a b => E9 cf a && E9 cf b
 | .block _ c => E9 cf c
 | .loop c => E9 cf c
 | .rangeFunc _ _ a b => E9 cf a && E9 cf b
 | .region id ops true => match GF cf.JB (id + 2000000) with | true => JI (Cp cf.hk (id + 1000000)) ops && (Cp cf.hk (id + 3000000)).all (Kd (hoistAll (Cp cf.hk (id + 1000000)) ops)) | false => match GF cf.JB (id + 1000000) with | true => Ht ops (RV cf.hk id) | false => JI (Cp cf.hk (id + 1000000)) ops && Ko (hoistAll (Cp cf.hk (id + 1000000)) ops) (RV cf.hk id) && decide (Cj ((hoistAll (Cp cf.hk (id + 1000000)) ops).toList.take (RV cf.hk id))).Nodup
 | _ => true
section
variable (E : CM) (T : Dm) (nt : Nat) (cf : Cf)
def QV (c : Operand) (st : St) (ra rb : St → Prop) : Prop :=
 match K1 [] st.l c with
 | .b true => ra st
 | .b false => rb st
 | .v (.bool t) =>
  (match c with
   | .tmp d => E.br t (fun _ => ra ⟨Gz st.l d true, st.df⟩) (fun _ => rb ⟨Gz st.l d false, st.df⟩)
   | _ => E.br t (fun _ => ra st) (fun _ => rb st))
 | _ => False
def MT (id : Nat) (K : Exit → St → A0 → Prop) (e : Exit) (st' : St) (H' : A0) : Prop :=
 match e with
 | .exit id' => (match Nat.beq id' id with | true => K .normal st' H' | false => K (.exit id') st' H')
 | e => K e st' H'
def Xq (c : Operand) (a b : Code) : Bool :=
 match c with
 | .tmp d => Xp cf.J d (match KQ a with | 0 => KQ b | n + 1 => n + 1)
 | _ => false
def run : Code → St → A0 → (Exit → St → A0 → Prop) → Prop
 | .skip, st, H, K => K .normal st H
 | .ret, st, H, K => K .ret st H
 | .exit id, st, H, K => K (.exit id) st H
 | .seq a b, st, H, K => run a st H fun e st' H' => match e with | .normal => run b st' H' K | e => K e st' H'
 | .cond c a b, st, H, K =>
  (match Xq cf c a b with
   | true => E.sim (.cond c a b) st H K
   | false => QV E c st (fun st => run a st H K) (fun st => run b st H K))
 | .block id c, st, H, K =>
  (match GF cf.JB id with
   | true => E.sim (.block id c) st H K
   | false => run c st H (MT id K))
 | .region _ ops false, st, H, K => GU E T nt (GF cf.A) (zAt cf.Z) ops ops.toList st.l H fun l' H' => K .normal ⟨l', st.df⟩ H'
 | .region id ops true, st, H, K =>
  (match GF cf.JB (id + 2000000) with
   | true => E.sim (.region id ops true) st H K
   | false =>
    (match GF cf.JB (id + 1000000) with
     | true => Wl E T nt (GF cf.A) (RV cf.hk id) ops st.l H fun l' H' => K .normal ⟨l', st.df⟩ H'
     | false => Sz E T nt (GF cf.A) (wAt cf.W id) (RV cf.hk id) (hoistAll (Cp cf.hk (id + 1000000)) ops) st.l H fun l' H' => K .normal ⟨l', st.df⟩ H'))
 | c, st, H, K => E.sim c st H K
def SU : Code → St → A0 → (Exit → St → A0 → Prop) → Prop
 | .cond c a b, st, H, K => QV E c st (fun st => run E T nt cf a st H K) (fun st => run E T nt cf b st H K)
 | .block id c, st, H, K => run E T nt cf c st H (MT id K)
 | .region id ops true, st, H, K =>
  (match GF cf.JB (id + 2000000) with
   | true => Lb E T nt (GF cf.A) (hoistAll (Cp cf.hk (id + 1000000)) ops) (Cp cf.hk (id + 3000000)) ops.size (Array.replicate ops.size false) st.l H fun l' H' => K .normal ⟨l', st.df⟩ H'
   | false => run E T nt cf (.region id ops true) st H K)
 | c, st, H, K => run E T nt cf c st H K
end
section
variable {P : Program} {nt : Nat} {rd : Option Nat} {T : Dm} {cf : Cf}
theorem N9.frLe {c : Code} {fr : Fr} {st : St} {H : A0} {Q : Exit → Fr → A0 → Prop} (hf : Bv fr st) (h : N9 P nt rd c (D9 st) H Q) : N9 P nt rd c fr H Q :=
 h.less hf.s hf.df.symm fun _ _ h => h
theorem Bv.refl (st : St) : Bv (D9 st) st := ⟨fun _ => Wk.refl _, rfl⟩
theorem IH {c : Operand} {a b : Code} {st : St} {H : A0} {Q : Exit → Fr → A0 → Prop} {ra rb : St → Prop} (h : QV (E6 P nt rd) c st ra rb) (ha : ∀ st', D9 st' = D9 st → ra st' → N9 P nt rd a (D9 st') H Q) (hb : ∀ st', D9 st' = D9 st → rb st' → N9 P nt rd b (D9 st') H Q) : N9 P nt rd (.cond c a b) (D9 st) H Q := by
 have hev : ev (D9 st) c = (K1 [] st.l c).V := (Bk (df := st.df) EY.nil c).symm
 unfold QV at h
 split at h
 ·rename_i he;exact N9.cond (t := true) (by rw [hev, he]; rfl) (fun _ => ha st rfl h) (fun e => by cases e)
 ·rename_i he;exact N9.cond (t := false) (by rw [hev, he]; rfl) (fun e => by cases e) (fun _ => hb st rfl h)
 ·rename_i t he
  split at h
  ·rename_i d
   have he' : Y3 st.l d = .bool t := by
    have := Qv (l := st.l) EY.nil d
    rw [show UU [] st.l d = .v (.bool t) from he] at this
    exact this.symm
   obtain ⟨h1, h2⟩ := h;refine N9.cond (t := t) (by rw [hev, he]; rfl) (fun e => ?_) (fun e => ?_)
   ·subst e;have ef : D9 ⟨Gz st.l d true, st.df⟩ = D9 st := Ia he';have := ha _ ef (h1 rfl)
    rwa [ef] at this
   subst e;have ef : D9 ⟨Gz st.l d false, st.df⟩ = D9 st := Ia he';have := hb _ ef (h2 rfl)
   rwa [ef] at this
  obtain ⟨h1, h2⟩ := h;exact N9.cond (t := t) (by rw [hev, he]; rfl) (fun e => ha st rfl (h1 e)) (fun e => hb st rfl (h2 e))
 exact h.elim
theorem G1 (hT : EX P T) (hm : P.follows .mixedOrders = true) : ∀ (c : Code) (st : St) (H : A0) (K : Exit → St → A0 → Prop), E9 cf c = true → run (E6 P nt rd) T nt cf c st H K → N9 P nt rd c (D9 st) H fun e fr' H' => ∃ st', Bv fr' st' ∧ K e st' H'
 | .skip, st, H, K, hd, h => N9.skip ⟨st, Bv.refl _, h⟩
 | .ret, st, H, K, hd, h => N9.ret ⟨st, Bv.refl _, h⟩
 | .exit id, st, H, K, hd, h => N9.exit ⟨st, Bv.refl _, h⟩
 | .seq a b, st, H, K, hd, h => by
  simp only [E9, Bool.and_eq_true] at hd
  refine N9.seq ((G1 hT hm a st H _ hd.1 h).mono fun e fr' H' ⟨st', hf, hk⟩ => ?_)
  cases e with
  | normal => exact N9.frLe hf (G1 hT hm b st' H' K hd.2 hk)
  | _ => exact ⟨st', hf, hk⟩
 | .cond c a b, st, H, K, hd, h => by
  simp only [E9, Bool.and_eq_true] at hd
  unfold run at h
  split at h
  ·exact h
  exact IH h (fun st' _ h => G1 hT hm a st' H K hd.1 h) (fun st' _ h => G1 hT hm b st' H K hd.2 h)
 | .block id c, st, H, K, hd, h => by
  unfold run at h
  split at h
  ·exact h
  refine N9.block ((G1 hT hm c st H _ hd h).mono fun e fr' H' ⟨st', hf, hk⟩ => ?_)
  cases e with
  | exit id' =>
   unfold MT at hk
   dsimp only at hk ⊢
   split at hk
   ·rename_i e; rw [if_pos (Nat.eq_of_beq_eq_true e)]; exact ⟨st', hf, hk⟩
   rename_i e;rw [if_neg (fun x => by subst x; rw [Nat.beq_refl] at e; cases e)]; exact ⟨st', hf, hk⟩
  | _ => exact ⟨st', hf, hk⟩
 | .region id ops false, st, H, K, hd, h => by
  unfold run at h
  intro r g w a hr hR hF;refine wpIn_region ?_
  have := OV (P := P) (nt := nt) (rd := rd) (T := T) (A := GF cf.A) (Z := zAt cf.Z) (df := st.df) hT (ops := ops) (r := r) (K := fun l' H' => K .normal ⟨l', st.df⟩ H') (Q := OP nt g w fun e fr' H' => ∃ st', Bv fr' st' ∧ K e st' H') (g0 := g) (w0 := w)
   (fun g' w' a' l' H' s hR hF hK => ⟨g', _, H', s, hR, hF, ⟨l', st.df⟩, Bv.refl _, hK⟩) ops.size 0 st.l H (by omega) (by simpa using h) g w a (M4.refl _ _) hR hF
  rwa [← List.range_eq_range'] at this
 | .region id ops true, st, H, K, hd, h => by
  cases hj2 : GF cf.JB (id + 2000000) with
  | true =>
   unfold run at h
   rw [hj2] at h
   exact h
  | false =>
  cases hj : GF cf.JB (id + 1000000) with
  | true =>
   simp only [E9, hj2, hj] at hd
   unfold run at h
   rw [hj2] at h
   simp only [hj] at h
   refine (Pb (df := st.df) hT hm hd h).mono fun e fr H' ⟨he, l', hfr, hk⟩ => ?_;subst he; subst hfr;exact ⟨⟨l', st.df⟩, Bv.refl _, hk⟩
  | false =>
   simp only [E9, hj2, hj, Bool.and_eq_true, decide_eq_true_eq] at hd
   unfold run at h
   rw [hj2] at h
   simp only [hj] at h
   refine (N9.of_any hm (W5.hoistAll (fun c fr H h => by cases h.1) _ ops hd.1.1 (Re (df := st.df) hT hd.1.2 hd.2 h))).mono fun e fr H' ⟨he, l', hfr, hk⟩ => ?_;subst he; subst hfr;exact ⟨⟨l', st.df⟩, Bv.refl _, hk⟩
 | .loop c, st, H, K, hd, h => h
 | .rangeFunc g ps a b, st, H, K, hd, h => h
 | .scope c, st, H, K, hd, h => h
 | .label l, st, H, K, hd, h => h
 | .goto l, st, H, K, hd, h => h
 | .refuse w, st, H, K, hd, h => h
theorem Gn : ∀ (ms : List Nat) (ops : Array Oper), JI ms ops = true → (hoistAll ms ops).size = ops.size
 | [], ops, _ => rfl
 | m :: ms, ops, hok => by
  simp only [JI, Bool.and_eq_true] at hok
  have hm : m < ops.size := by
   have h := hok.1.1
   unfold IY at h
   simp only [Bool.and_eq_true] at h
   exact Nat.le_of_ble_eq_true h.1.1.1.1.1
  exact (Gn ms _ hok.2).trans (EE hm)
theorem Ps (hT : EX P T) (hm : P.follows .mixedOrders = true) : ∀ (c : Code) (st : St) (H : A0) (K : Exit → St → A0 → Prop), E9 cf c = true → SU (E6 P nt rd) T nt cf c st H K → N9 P nt rd c (D9 st) H fun e fr' H' => ∃ st', Bv fr' st' ∧ K e st' H'
 | .cond c a b, st, H, K, hd, h => by
  simp only [E9, Bool.and_eq_true] at hd
  unfold SU at h
  exact IH h (fun st' _ h => G1 hT hm a st' H K hd.1 h) (fun st' _ h => G1 hT hm b st' H K hd.2 h)
 | .block id c, st, H, K, hd, h => by
  unfold SU at h
  refine N9.block ((G1 hT hm c st H _ hd h).mono fun e fr' H' ⟨st', hf, hk⟩ => ?_)
  cases e with
  | exit id' =>
   unfold MT at hk
   dsimp only at hk ⊢
   split at hk
   ·rename_i e; rw [if_pos (Nat.eq_of_beq_eq_true e)]; exact ⟨st', hf, hk⟩
   rename_i e;rw [if_neg (fun x => by subst x; rw [Nat.beq_refl] at e; cases e)]; exact ⟨st', hf, hk⟩
  | _ => exact ⟨st', hf, hk⟩
 | .skip, st, H, K, hd, h => G1 hT hm _ st H K hd h
 | .ret, st, H, K, hd, h => G1 hT hm _ st H K hd h
 | .exit id, st, H, K, hd, h => G1 hT hm _ st H K hd h
 | .seq a b, st, H, K, hd, h => G1 hT hm _ st H K hd h
 | .region id ops false, st, H, K, hd, h => G1 hT hm _ st H K hd h
 | .region id ops true, st, H, K, hd, h => by
  unfold SU at h
  dsimp only at h
  cases hj2 : GF cf.JB (id + 2000000) with
  | false => rw [hj2] at h; exact G1 hT hm _ st H K hd h
  | true =>
   rw [hj2] at h
   simp only [E9, hj2, Bool.and_eq_true] at hd
   obtain ⟨hd, hfree⟩ := hd;have h' := Ca (df := st.df) hT (fun i hi => List.all_eq_true.1 hfree i (Oe hi)) _ _ _ _ h;have hsz : (hoistAll (Cp cf.hk (id + 1000000)) ops).size = ops.size := Gn _ _ hd
   rw [← hsz] at h'
   refine (N9.of_any hm (W5.hoistAll (fun c fr H h => h) _ ops hd (W5.all (Q := fun e fr H' => match e with | .normal => ∃ l', fr = D9 ⟨l', st.df⟩ ∧ K .normal ⟨l', st.df⟩ H' | _ => False) h'))).mono fun e fr H' hq => ?_
   cases e with
   | normal => obtain ⟨l', hfr, hk⟩ := hq; subst hfr; exact ⟨⟨l', st.df⟩, Bv.refl _, hk⟩
   | _ => exact hq.elim
 | .loop c, st, H, K, hd, h => h
 | .rangeFunc g ps a b, st, H, K, hd, h => h
 | .scope c, st, H, K, hd, h => h
 | .label l, st, H, K, hd, h => h
 | .goto l, st, H, K, hd, h => h
 | .refuse w, st, H, K, hd, h => h
def ND (K : V → A0 → Prop) (H : A0) (vs : List V) : Prop :=
 match vs with
 | [x] => K x H
 | l => K (.tup l) H
theorem Ju {K : V → A0 → Prop} {H : A0} {vs : List V} (h : ND K H vs) : K (JH vs) H := by
 unfold ND at h
 split at h
 ·exact h
 rename_i l hn;unfold JH
 split
 ·rename_i x; exact absurd rfl (hn x)
 exact h
def Xz (v : V) (k : List V → Prop) (vs : List V) : Prop := k (v :: vs)
def KO (E : CM) (T : Dm) (l : Fl) (H : A0) : List ResultVar → (List V → Prop) → Prop
 | [], k => k []
 | .tmp t :: r, k => KO E T l H r fun vs => Xz (Y3 l t) k vs
 | .cell a t :: r, k => (match Y3 l a with | .elem _ _ _ _ => False | x => Ql E T t x H fun v => KO E T l H r fun vs => k (v :: vs))
theorem Ew (hT : EX P T) {l : Fl} {H : A0} {df : List Nat} : ∀ (rs : List ResultVar) (k : List V → Prop), KO (E6 P nt rd) T l H rs k → ∃ vs, V6 P (D9 ⟨l, df⟩) H rs = some vs ∧ k vs
 | [], k, h => ⟨[], rfl, h⟩
 | .tmp t :: r, k, h => by
  obtain ⟨vs, h1, h2⟩ := Ew (df := df) hT r _ h;exact ⟨_, by simp only [V6, h1]; rfl, h2⟩
 | .cell a t :: r, k, h => by
  unfold KO at h
  split at h
  ·exact h.elim
  rename_i x hne;obtain ⟨v, h1, h2⟩ := EZ hT h
  have h1 : Du P H t (Y3 l a) = some v := h1.elim (fun h => h) fun h => by
   unfold Gm at h
   split at h
   ·rename_i hx; exact absurd hx (hne _ _ _ _)
   cases h
  obtain ⟨vs, h3, h4⟩ := Ew (df := df) hT r _ h2;exact ⟨v :: vs, by simp only [V6, h3]; rw [show (D9 ⟨l, df⟩).s a = Y3 l a from rfl, h1], h4⟩
theorem N9.post_le {c : Code} {fr : Fr} {H : A0} {K : Exit → St → A0 → Prop} (h : N9 P nt rd c fr H fun e fr' H' => ∃ st', Bv fr' st' ∧ K e st' H') : N9 P nt rd c fr H fun e fr' H' => ∃ st', fr' = D9 st' ∧ K e st' H' := by
 intro r g w a hr hR hF;refine wpIn_mono (h r g w a hr hR hF) fun e a' w' ⟨g', fr', H', s, hR', hF', st', hle, hk⟩ => ⟨g', D9 st', H', s, hR', ⟨hF'.size, fun t => hle.s t _ _ _ (hF'.s t), ?_⟩, st', rfl, hk⟩;have := hF'.df
 rw [hle.df] at this
 exact this
def Z7 : List V → Nat → Fl
 | [], _ => []
 | v :: l, i => (i, .v v) :: Z7 l (i + 1)
theorem Lp : ∀ (args : List V) (i t : Nat), Y3 (Z7 args i) t = if i ≤ t then args.getD (t - i) .bad else .bad
 | [], i, t => by simp [Z7, Y3]
 | v :: l, i, t => by
  simp only [Z7, Y3]
  by_cases h : t = i
  ·subst h; simp [Nat.beq_refl]
  have hb : Nat.beq t i = false := by
   cases hb : Nat.beq t i with
   | false => rfl
   | true => exact absurd (Nat.eq_of_beq_eq_true hb) h
  simp only [hb];rw [Lp l (i + 1) t]
  by_cases h1 : i + 1 ≤ t
  ·rw [if_pos h1, if_pos (by omega), show t - i = (t - (i + 1)) + 1 by omega]; rfl
  rw [if_neg h1, if_neg (by omega)]
theorem TS (args : List V) : entry args = D9 ⟨Z7 args 0, []⟩ := by
 simp only [entry, D9, Fr.mk.injEq, and_true]
 funext t
 rw [Lp]; simp
def Ib (E : CM) (T : Dm) (rs : List ResultVar) (K : V → A0 → Prop) (e : Exit) (st : St) (H : A0) : Prop :=
 match e with
 | .normal => (match st.df with | [] => KO E T st.l H rs fun vs => ND K H vs | df => E.fin df H fun H' => KO E T st.l H' rs fun vs => ND K H' vs)
 | .ret => (match st.df with | [] => KO E T st.l H rs fun vs => ND K H vs | df => E.fin df H fun H' => KO E T st.l H' rs fun vs => ND K H' vs)
 | _ => False
theorem RZ (hT : EX P T) {fn : Func} {K : V → A0 → Prop} {e : Exit} {st : St} {H : A0} (h : Ib (E6 P nt rd) T fn.results.toList K e st H) : Ret P fn K e (D9 st) H := by
 have key : ∀ (h : match st.df with | [] => KO (E6 P nt rd) T st.l H fn.results.toList fun vs => ND K H vs | df => (E6 P nt rd).fin df H fun H' => KO (E6 P nt rd) T st.l H' fn.results.toList fun vs => ND K H' vs),
  VB H (D9 st).df ∧ ∃ l, V6 P (D9 st) (clear H (D9 st).df) fn.results.toList = some l ∧ K (JH l) (clear H (D9 st).df) := by
  obtain ⟨l, df⟩ := st;intro h
  cases df with
  | nil =>
   have hcl : clear H [] = H := by funext x; simp [clear]
   obtain ⟨vs, h1, h2⟩ := Ew (df := []) hT _ _ h;refine ⟨⟨by simp [D9], fun id hi => by simp [D9] at hi⟩, vs, ?_, ?_⟩
   ·show V6 P (D9 ⟨l, []⟩) (clear H []) _ = _
    rw [hcl]; exact h1
   show K _ (clear H [])
   rw [hcl]; exact Ju h2
  | cons d ds =>
   obtain ⟨hd, h⟩ := h;obtain ⟨vs, h1, h2⟩ := Ew (df := d :: ds) hT _ _ h;exact ⟨hd, vs, h1, Ju h2⟩
 cases e <;> first | exact h.elim | skip
 ·exact ⟨.inl rfl, key h⟩
 exact ⟨.inr rfl, key h⟩
theorem N8 {f : FuncId} {fn : Func} {c : Code} {n : Nat} {rs : List ResultVar} {args : List V} {H : A0} {K : V → A0 → Prop} (cf : Cf) (hT : EX P T) (hm : P.follows .mixedOrders = true) (hf : P.funcs[f]? = some fn) (hb : fn.body = some c) (hd : E9 cf c = true) (hcall : ∀ vals w, (callFunc f vals).run P w = .ok (.enter f vals) w)
 (hnt : fn.ntmps = n) (hrs : fn.results.toList = rs) (hn : Nat.ble args.length n = true) (h : ∀ E : CM, E = E6 P n none → run E T n cf c ⟨Z7 args 0, []⟩ H (Ib E T rs K)) : E7 P f args H K := by
 subst hnt; subst hrs;refine KW hf hb hcall (Nat.le_of_ble_eq_true hn) ?_;rw [TS];refine (N9.post_le (G1 hT hm c _ H _ hd (h _ rfl))).mono fun e fr' H' ⟨st', hfr, hq⟩ => ?_;subst hfr;exact RZ hT hq
end
end Go.Ab
