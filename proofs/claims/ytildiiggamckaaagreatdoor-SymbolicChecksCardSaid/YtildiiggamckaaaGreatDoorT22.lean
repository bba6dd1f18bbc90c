/- AbP7 AbP8 AbA24 -/
import Derived.Test.YtildiiggamckaaaGreatDoorT21
import Derived.Test.YtildiiggamckaaaGreatDoorT14
set_option linter.all false
namespace Go.Ab
open Go.RowKit
variable [G5]
section
variable {P : Program}
theorem QE {A : Kf} {o : Oper} {ρ ρ' : Operand → V} {H : A0} {K : V → A0 → Prop} (hρ : ∀ x ∈ o.op.operands, ρ x = ρ' x) (h : CT P A o ρ H K) : CT P A o ρ' H K := by
 have hq : ∀ {v}, Ge P o ρ H v → Ge P o ρ' H v := Ft hρ
 unfold CT at h ⊢
 cases ho : o.op <;> simp only [ho] at h ⊢ hρ <;> first
  | exact h
  | (obtain ⟨v, h1, h2⟩ := h; exact ⟨v, hq h1, h2⟩)
  | (simp only [Op.operands, List.mem_toArray, List.mem_cons, List.not_mem_nil, or_false, forall_eq_or_imp, forall_eq] at hρ
     first
      | (rw [← hρ]; exact h)
      | (rw [← hρ.1, ← hρ.2]; exact h)
      | (rw [← hρ.1, ← hρ.2.1, ← hρ.2.2]; exact h))
  | skip
 ·rename_i t n ps
  have e : ps.toList.map (fun p => (p.1, ρ p.2)) = ps.toList.map (fun p => (p.1, ρ' p.2)) := O1 fun p hp => by rw [hρ p.2 (by simp only [Op.operands, List.mem_toArray, List.mem_map]; exact ⟨p, hp, rfl⟩)]
  rw [← e];exact h.imp (fun ⟨v, h1, h2⟩ => ⟨v, hq h1, h2⟩) id
 ·rename_i op t x y _;rw [← hρ x (by simp [Op.operands]), ← hρ y (by simp [Op.operands])];exact h.imp (fun ⟨v, h1, h2⟩ => ⟨v, hq h1, h2⟩) id
 rename_i c;have hargs : c.args.toList.map ρ = c.args.toList.map ρ' := O1 fun p hp => hρ p (by simp only [Op.operands, Call.operands, Array.mem_append]; exact .inr (by simpa using hp));rw [← hargs]
 cases hc : c.callee with
 | value f =>
  simp only [hc] at h ⊢
  rw [← hρ f (by simp [Op.operands, Call.operands, hc])]; exact h
 | builtin b => rw [hc] at h; cases b <;> exact h
 | _ => rw [hc] at h; exact h.elim
def Ho : Op → Bool
 | .move _ => true
 | .assign _ => true
 | .pick _ _ _ => true
 | .build _ _ => true
 | .binOp _ _ _ _ _ => true
 | .unOp _ _ _ => true
 | .fieldAddr _ _ _ => true
 | .field _ _ _ => true
 | .extract _ _ => true
 | .load _ _ => true
 | .call c => match c.callee with | .builtin .len => true | _ => false
 | _ => false
theorem Sa {A : Kf} {o : Oper} {ρ : Operand → V} {H : A0} {K : V → A0 → Prop} {v : V} (hs : Ho o.op = true) (h : Ge P o ρ H v) (hk : K v H) : CT P A o ρ H K := by
 unfold CT
 cases ho : o.op <;> simp only [ho, Ho, Bool.false_eq_true] at hs ⊢ <;> first
  | exact ⟨v, h, hk⟩
  | exact .inl ⟨v, h, hk⟩
  | (unfold Ge at h; simp only [ho] at h; subst h; exact .inl hk)
  | skip
 rename_i c
 unfold Ge at h
 simp only [ho] at h
 cases hc : c.callee with
 | builtin b =>
  rw [hc] at hs h
  cases b <;> first
   | exact ⟨v, h, hk⟩
   | cases hs
 | _ => rw [hc] at hs; cases hs
variable {A : Kf} {nt : Nat} {ops : Array Oper}
def JA (ops : Array Oper) (i : Nat) : Bool :=
 Ho (ops.getD i default).op && (ops.getD i default).guard.isNone && (List.range ops.size).all fun j => j == i || Ad (ops.getD j default) i || Ad (ops.getD i default) j || (ops.getD i default).apart ops (ops.getD j default)
theorem Ra {i : Nat} (hi : i < ops.size) (hf : JA ops i = true) (hdst : Cj nt (ops.getD i default).dst = true) {K : Fr → A0 → Prop} {v : V} : ∀ (n : Nat) (listed : Array Bool) (fr : Fr) (H : A0), i ∈ Region.ready .any ops listed → (∀ H', Ge P (ops.getD i default) (ev fr) H' v) →
 NO P A nt ops n (listed.setIfInBounds i true) (fr.put (ops.getD i default).dst v) H K → NO P A nt ops (n + 1) listed fr H K := by
 simp only [JA, Bool.and_eq_true, List.all_eq_true, List.mem_range, Bool.or_eq_true, beq_iff_eq] at hf
 obtain ⟨⟨hso, hg⟩, hfree⟩ := hf
 have hg : (ops.getD i default).guard = none := by simpa using hg
 have first : ∀ (fr : Fr) (H : A0) (K' : Fr → A0 → Prop), (∀ H', Ge P (ops.getD i default) (ev fr) H' v) → K' (fr.put (ops.getD i default).dst v) H → UH P A nt ops (ops.getD i default) fr H K' := fun fr H K' hq hk => by
  refine ⟨hdst, ?_⟩
  have : T8 ops fr (ops.getD i default) = some true := by unfold T8; rw [hg]
  rw [this];exact Sa hso (hq H) hk
 intro n
 induction n with
 | zero =>
  intro listed fr H hr hq h;refine ⟨fun e => (by rw [e] at hr; cases hr), fun j hj => ?_⟩
  by_cases hji : j = i
  ·subst hji; exact first fr H _ hq h
  have := Go.ready_mono hj hji
  rw [h.1] at this; cases this
 | succ n ih =>
  intro listed fr H hr hq h;refine ⟨fun e => (by rw [e] at hr; cases hr), fun j hj => ?_⟩
  by_cases hji : j = i
  ·subst hji; exact first fr H _ hq h
  have h1 := h.2 j (Go.ready_mono hj hji);obtain ⟨hjs, hjl, hje⟩ := mem_ready hj;obtain ⟨_, hil, _⟩ := mem_ready hr
  have hap : (ops.getD i default).apart ops (ops.getD j default) = true := by
   rcases hfree j hjs with ((e | e) | e) | e
   ·exact absurd e hji
   ·exfalso;have := hje i e
    rcases Nat.lt_or_ge i listed.size with h' | h'
    ·simp [Array.getD, h'] at hil this; rw [hil] at this; cases this
    simp [Array.getD, show ¬ i < listed.size by omega] at this
   ·exfalso;have := (mem_ready hr).2.2 j e
    rcases Nat.lt_or_ge j listed.size with h' | h'
    ·simp [Array.getD, h'] at hjl this; rw [hjl] at this; cases this
    simp [Array.getD, show ¬ j < listed.size by omega] at this
   exact e
  obtain ⟨p1, p2, p3⟩ := Oper.apart_spec hap
  have hn : ∀ (u : V) (H' : A0), NO P A nt ops n ((listed.setIfInBounds i true).setIfInBounds j true) ((fr.put (ops.getD i default).dst v).put (ops.getD j default).dst u) H' K → NO P A nt ops (n + 1) (listed.setIfInBounds j true) (fr.put (ops.getD j default).dst u) H' K := fun u H' hk => by
   refine ih _ _ _ (Go.ready_mono hr fun e => hji e.symm) (fun H2 => Ft (fun x hx => (EW p3 x hx).symm) (hq H2)) ?_;rw [Array.setIfInBounds_comm _ _ hji, ← put_comm p2];exact hk
  obtain ⟨hd, hs⟩ := h1;refine ⟨hd, ?_⟩
  rw [HX p1] at hs
  split at hs
  ·exact ES (QE (EW p1) hs) fun u H' hk => hn u H' hk
  ·exact hn _ _ hs
  exact hs.elim
end
end Go.Ab
namespace Go.Ab
open Go.RowKit
variable [G5] [Ar]
def OR : List Nat → Nat → Bool
 | [], _ => false
 | a :: l, n => match n == a with | true => true | false => OR l n
theorem Np : ∀ {l : List Nat} {n : Nat}, OR l n = true → n ∈ l
 | [], _, h => by cases h
 | a :: l, n, h => by
  unfold OR at h
  cases e : n == a with
  | true => rw [beq_iff_eq.1 e]; simp
  | false => rw [e] at h; exact List.mem_cons_of_mem _ (Np h)
section
variable (E : Cz) (T : CW) (nt : Nat) (A : Nat → Bool) (ops : Array Oper) (fl : List Nat)
def It (o : Oper) (l : Fl) : Bool :=
 match o.op with
 | .load _ x => (match J8 [] l x with | .v (.eref _ _) => true | _ => false)
 | _ => true
def DN (l : Fl) : List Nat → Option Nat
 | [] => none
 | i :: r => match OR fl i with
  | true => (match It (ops.getD i default) l with | true => some i | false => DN l r)
  | false => DN l r
def KB : Nat → Array Bool → Fl → A0 → (Fl → A0 → Prop) → Prop
 | 0, listed, l, H, K => match Region.ready .any ops listed with | [] => K l H | _ :: _ => False
 | n + 1, listed, l, H, K =>
  match Region.ready .any ops listed with
  | [] => K l H
  | i :: r =>
   match DN ops fl l (i :: r) with
   | some j =>
    (match Cj nt (ops.getD j default).dst with
     | true => xq E T [] (ops.getD j default) l H fun s => KB n (listed.setIfInBounds j true) (Ai (ops.getD j default).dst (Sl.n s) l) H K
     | false => False)
   | none => Vw (i :: r) fun i => UA E T nt A ops (ops.getD i default) l H fun l' H' => KB n (listed.setIfInBounds i true) l' H' K
end
theorem CN {ops : Array Oper} {fl : List Nat} {l : Fl} {j : Nat} : ∀ {r : List Nat}, DN ops fl l r = some j → j ∈ r ∧ OR fl j = true ∧ It (ops.getD j default) l = true
 | [], h => by cases h
 | i :: r, h => by
  unfold DN at h
  cases h1 : OR fl i with
  | true =>
   rw [h1] at h
   cases h2 : It (ops.getD i default) l with
   | true => rw [h2] at h; cases h; exact ⟨by simp, h1, h2⟩
   | false => rw [h2] at h; have := CN h; exact ⟨List.mem_cons_of_mem _ this.1, this.2⟩
  | false => rw [h1] at h; have := CN h; exact ⟨List.mem_cons_of_mem _ this.1, this.2⟩
section
variable {P : Program} {nt : Nat} {rd : Option Nat} {T : CW} {A : Nat → Bool} {df : List Nat}
theorem QC {o : Oper} {ρ : Operand → V} {H : A0} {v : V} (hs : Ho o.op = true) (hl : ∀ t x, o.op = .load t x → ∃ cs off, ρ x = .eref cs off) (h : Ge P o ρ H v) (H' : A0) : Ge P o ρ H' v := by
 unfold Ge at h ⊢
 cases ho : o.op <;> simp only [ho, Ho, Bool.false_eq_true] at hs h ⊢ <;> first
  | exact h
  | skip
 ·rename_i t x;obtain ⟨cs, off, e⟩ := hl t x ho
  rw [e] at h ⊢
  rcases h with h | h
  ·left
   unfold Da at h ⊢
   split at h
   ·rename_i h1 h2 h3; cases h3; exact h
   ·rename_i h3; cases h3
   cases h
  exfalso
  unfold FM at h
  split at h
  ·rename_i h3; cases h3
  cases h
 rename_i c
 cases hcc : c.callee with
 | builtin b =>
  rw [hcc] at hs h
  cases b with
  | len =>
   have h : Bj P .len c.argTypes.toList (c.args.toList.map ρ) v ∨ Gl P H .len c.argTypes.toList (c.args.toList.map ρ) v := h
   have k : ∀ (ts : List TypeId) (vs : List V), Gl P H .len ts vs v → Gl P H' .len ts vs v := fun ts vs h => by
    rcases ts with _ | ⟨t, _ | ⟨t2, ts⟩⟩ <;> rcases vs with _ | ⟨x, _ | ⟨x2, vs⟩⟩ <;> first
     | exact h
     | exact h.elim
   exact h.imp id (k _ _)
  | _ => cases hs
 | _ => rw [hcc] at hs; cases hs
theorem BM (hT : EC P T) {ops : Array Oper} {fl : List Nat} (hfl : ∀ i, OR fl i = true → JA ops i = true) {K : Fl → A0 → Prop} : ∀ (n : Nat) (listed : Array Bool) (l : Fl) (H : A0), KB (E4 P nt rd) T nt A ops fl n listed l H K → NO P A nt ops n listed (D8 ⟨l, df⟩) H fun fr H' => ∃ l', fr = D8 ⟨l', df⟩ ∧ K l' H'
 | 0, listed, l, H, h => by
  unfold KB at h
  split at h
  ·rename_i e; exact ⟨e, l, rfl, h⟩
  exact h.elim
 | n + 1, listed, l, H, h => by
  unfold KB at h
  split at h
  ·rename_i e; exact ⟨fun _ => ⟨l, rfl, h⟩, fun i hi => by rw [e] at hi; cases hi⟩
  rename_i i0 r0 e
  split at h
  ·rename_i j hj;obtain ⟨j1, j2, j3⟩ := CN hj
   rw [← e] at j1
   obtain ⟨js, _, _⟩ := mem_ready j1;have hf := hfl j j2
   split at h
   ·rename_i hd;obtain ⟨s, hq, hk⟩ := Gy (df := df) hT ED.nil h
    have hso : Ho (ops.getD j default).op = true := by
     have := hf
     simp only [JA, Bool.and_eq_true] at this
     exact this.1.1
    have hst : ∀ t x, (ops.getD j default).op = .load t x → ∃ cs off, ev (D8 ⟨l, df⟩) x = .eref cs off := fun t x ho => by
     unfold It at j3
     rw [ho] at j3
     dsimp only at j3
     split at j3
     ·rename_i cs off he;exact ⟨cs, off, by rw [← Bb (df := df) ED.nil x, he]; rfl⟩
     cases j3
    have hall := BM hT hfl n _ _ _ hk
    rw [G7] at hall
    have hv : Rf l (Sl.n s) = s.V := by cases s <;> rfl
    rw [hv] at hall
    exact Ra js hf hd n listed _ H j1 (fun H' => QC hso hst hq H') hall
   exact h.elim
  refine ⟨(fun e' => by rw [e] at e'; cases e'), fun i hi => ?_⟩
  rw [e] at hi
  have h := NN h i hi
  unfold UA at h
  split at h
  ·rename_i hd;refine ⟨hd, ?_⟩;obtain ⟨l', e, h⟩ := AR (df := df) 4 l h
   have e : D8 ⟨l', df⟩ = D8 ⟨l, df⟩ := by simp only [D8, Fr.mk.injEq, and_true]; funext t; exact e t
   rcases h with ⟨hg, G, wr, hG, hwr, h⟩ | ⟨hg, h⟩
   ·rw [hg];rw [← e];refine ES (Hh (df := df) hT hG h) fun v H' ⟨s, hv, hk⟩ => ?_;subst hv;rw [← hwr s, ← G7];exact BM hT hfl n _ _ _ hk
   rw [hg];rw [← e]
   rcases h with h | ⟨G, d, want, ht, hb, h⟩
   ·have := BM hT hfl n _ _ _ h
    rw [G7] at this
    exact this
   obtain ⟨s, h⟩ := Ln hT ht h;have := BM hT hfl n _ _ _ h
   rw [G7] at this
   simp only [Rf, hb, cond_false] at this
   exact this
  exact h.elim
end
end Go.Ab
namespace Go.Ab
open Go.RowKit
variable [G5] [Ar]
def Gk : List Nat → Nat → Bool
 | [], _ => false
 | x :: l, n => match n == x with | true => true | false => Gk l n
def QN : List (Nat × Nat) → Nat → Nat
 | [], _ => 0
 | (x, y) :: l, n => match Nat.beq n x with | true => y | false => QN l n
structure Cf where
 A : List Nat
 hk : List (Nat × Nat)
 J : List (Nat × Nat)
 JB : List Nat
 Z : List (Nat × Nat)
 W : List (Nat × Nat × List Nat)
def wAt : List (Nat × Nat × List Nat) → Nat → Option (Nat × List Nat)
 | [], _ => none
 | (q, d) :: l, n => match Nat.beq n q with | true => some d | false => wAt l n
def zAt : List (Nat × Nat) → Nat → List Nat
 | [], _ => []
 | (q, d) :: l, n => match Nat.beq n q with | true => d :: zAt l n | false => zAt l n
def VW : List (Nat × Nat) → Nat → Nat → Bool
 | [], _, _ => false
 | (x, y) :: l, a, b => match Nat.beq a x && Nat.beq b y with | true => true | false => VW l a b
def Kq : Code → Nat
 | .region id _ _ => id + 1
 | .seq a b => (match Kq a with | 0 => Kq b | n + 1 => n + 1)
 | .cond _ a b => (match Kq a with | 0 => Kq b | n + 1 => n + 1)
 | .block _ c => Kq c
 | .loop c => Kq c
 | .rangeFunc _ _ a b => (match Kq a with | 0 => Kq b | n + 1 => n + 1)
 | _ => 0
def E8 (cf : Cf) : Code → Bool
 | .seq a b => E8 cf a && E8 cf b
 | .cond _ a b => E8 cf a && E8 cf b
 | .block _ c => E8 cf c
 | .loop c => E8 cf c
 | .rangeFunc _ _ a b => E8 cf a && E8 cf b
 | .region id ops true => match Gk cf.JB (id + 2000000) with | true => Ji (Cb cf.hk (id + 1000000)) ops && (Cb cf.hk (id + 3000000)).all (JA (hoistAll (Cb cf.hk (id + 1000000)) ops)) | false => match Gk cf.JB (id + 1000000) with | true => GX ops (QN cf.hk id) | false => Ji (Cb cf.hk (id + 1000000)) ops && JM (hoistAll (Cb cf.hk (id + 1000000)) ops) (QN cf.hk id) && decide (BU ((hoistAll (Cb cf.hk (id + 1000000)) ops).toList.take (QN cf.hk id))).Nodup
 | _ => true
section
variable (E : Cz) (T : CW) (nt : Nat) (cf : Cf)
def PU (c : Operand) (st : St) (ra rb : St → Prop) : Prop :=
 match J8 [] st.l c with
 | .b true => ra st
 | .b false => rb st
 | .v (.bool t) =>
  (match c with
   | .tmp d => E.br t (fun _ => ra ⟨FY st.l d true, st.df⟩) (fun _ => rb ⟨FY st.l d false, st.df⟩)
   | _ => E.br t (fun _ => ra st) (fun _ => rb st))
 | _ => False
def Mf (id : Nat) (K : Exit → St → A0 → Prop) (e : Exit) (st' : St) (H' : A0) : Prop :=
 match e with
 | .exit id' => (match Nat.beq id' id with | true => K .normal st' H' | false => K (.exit id') st' H')
 | e => K e st' H'
def VX (c : Operand) (a b : Code) : Bool :=
 match c with
 | .tmp d => VW cf.J d (match Kq a with | 0 => Kq b | n + 1 => n + 1)
 | _ => false
def run : Code → St → A0 → (Exit → St → A0 → Prop) → Prop
 | .skip, st, H, K => K .normal st H
 | .ret, st, H, K => K .ret st H
 | .exit id, st, H, K => K (.exit id) st H
 | .seq a b, st, H, K => run a st H fun e st' H' => match e with | .normal => run b st' H' K | e => K e st' H'
 | .cond c a b, st, H, K =>
  (match VX cf c a b with
   | true => E.sim (.cond c a b) st H K
   | false => PU E c st (fun st => run a st H K) (fun st => run b st H K))
 | .block id c, st, H, K =>
  (match Gk cf.JB id with
   | true => E.sim (.block id c) st H K
   | false => run c st H (Mf id K))
 | .region _ ops false, st, H, K => Gz E T nt (Gk cf.A) (zAt cf.Z) ops ops.toList st.l H fun l' H' => K .normal ⟨l', st.df⟩ H'
 | .region id ops true, st, H, K =>
  (match Gk cf.JB (id + 2000000) with
   | true => E.sim (.region id ops true) st H K
   | false =>
    (match Gk cf.JB (id + 1000000) with
     | true => UV E T nt (Gk cf.A) (QN cf.hk id) ops st.l H fun l' H' => K .normal ⟨l', st.df⟩ H'
     | false => Rq E T nt (Gk cf.A) (wAt cf.W id) (QN cf.hk id) (hoistAll (Cb cf.hk (id + 1000000)) ops) st.l H fun l' H' => K .normal ⟨l', st.df⟩ H'))
 | c, st, H, K => E.sim c st H K
def RN : Code → St → A0 → (Exit → St → A0 → Prop) → Prop
 | .cond c a b, st, H, K => PU E c st (fun st => run E T nt cf a st H K) (fun st => run E T nt cf b st H K)
 | .block id c, st, H, K => run E T nt cf c st H (Mf id K)
 | .region id ops true, st, H, K =>
  (match Gk cf.JB (id + 2000000) with
   | true => KB E T nt (Gk cf.A) (hoistAll (Cb cf.hk (id + 1000000)) ops) (Cb cf.hk (id + 3000000)) ops.size (Array.replicate ops.size false) st.l H fun l' H' => K .normal ⟨l', st.df⟩ H'
   | false => run E T nt cf (.region id ops true) st H K)
 | c, st, H, K => run E T nt cf c st H K
end
section
variable {P : Program} {nt : Nat} {rd : Option Nat} {T : CW} {cf : Cf}
theorem N5.frLe {c : Code} {fr : Fr} {st : St} {H : A0} {Q : Exit → Fr → A0 → Prop} (hf : Bl fr st) (h : N5 P nt rd c (D8 st) H Q) : N5 P nt rd c fr H Q :=
 h.less hf.s hf.df.symm fun _ _ h => h
theorem Bl.refl (st : St) : Bl (D8 st) st := ⟨fun _ => Wk.refl _, rfl⟩
theorem Ig {c : Operand} {a b : Code} {st : St} {H : A0} {Q : Exit → Fr → A0 → Prop} {ra rb : St → Prop} (h : PU (E4 P nt rd) c st ra rb) (ha : ∀ st', D8 st' = D8 st → ra st' → N5 P nt rd a (D8 st') H Q) (hb : ∀ st', D8 st' = D8 st → rb st' → N5 P nt rd b (D8 st') H Q) : N5 P nt rd (.cond c a b) (D8 st) H Q := by
 have hev : ev (D8 st) c = (J8 [] st.l c).V := (Bb (df := st.df) ED.nil c).symm
 unfold PU at h
 split at h
 ·rename_i he;exact N5.cond (t := true) (by rw [hev, he]; rfl) (fun _ => ha st rfl h) (fun e => by cases e)
 ·rename_i he;exact N5.cond (t := false) (by rw [hev, he]; rfl) (fun e => by cases e) (fun _ => hb st rfl h)
 ·rename_i t he
  split at h
  ·rename_i d
   have he' : X1 st.l d = .bool t := by
    have := Py (l := st.l) ED.nil d
    rw [show TE [] st.l d = .v (.bool t) from he] at this
    exact this.symm
   obtain ⟨h1, h2⟩ := h;refine N5.cond (t := t) (by rw [hev, he]; rfl) (fun e => ?_) (fun e => ?_)
   ·subst e;have ef : D8 ⟨FY st.l d true, st.df⟩ = D8 st := HB he';have := ha _ ef (h1 rfl)
    rwa [ef] at this
   subst e;have ef : D8 ⟨FY st.l d false, st.df⟩ = D8 st := HB he';have := hb _ ef (h2 rfl)
   rwa [ef] at this
  obtain ⟨h1, h2⟩ := h;exact N5.cond (t := t) (by rw [hev, he]; rfl) (fun e => ha st rfl (h1 e)) (fun e => hb st rfl (h2 e))
 exact h.elim
theorem G0 (hT : EC P T) (hm : P.follows .mixedOrders = true) : ∀ (c : Code) (st : St) (H : A0) (K : Exit → St → A0 → Prop), E8 cf c = true → run (E4 P nt rd) T nt cf c st H K → N5 P nt rd c (D8 st) H fun e fr' H' => ∃ st', Bl fr' st' ∧ K e st' H'
 | .skip, st, H, K, hd, h => N5.skip ⟨st, Bl.refl _, h⟩
 | .ret, st, H, K, hd, h => N5.ret ⟨st, Bl.refl _, h⟩
 | .exit id, st, H, K, hd, h => N5.exit ⟨st, Bl.refl _, h⟩
 | .seq a b, st, H, K, hd, h => by
  simp only [E8, Bool.and_eq_true] at hd
  refine N5.seq ((G0 hT hm a st H _ hd.1 h).mono fun e fr' H' ⟨st', hf, hk⟩ => ?_)
  cases e with
  | normal => exact N5.frLe hf (G0 hT hm b st' H' K hd.2 hk)
  | _ => exact ⟨st', hf, hk⟩
 | .cond c a b, st, H, K, hd, h => by
  simp only [E8, Bool.and_eq_true] at hd
  unfold run at h
  split at h
  ·exact h
  exact Ig h (fun st' _ h => G0 hT hm a st' H K hd.1 h) (fun st' _ h => G0 hT hm b st' H K hd.2 h)
 | .block id c, st, H, K, hd, h => by
  unfold run at h
  split at h
  ·exact h
  refine N5.block ((G0 hT hm c st H _ hd h).mono fun e fr' H' ⟨st', hf, hk⟩ => ?_)
  cases e with
  | exit id' =>
   unfold Mf at hk
   dsimp only at hk ⊢
   split at hk
   ·rename_i e; rw [if_pos (Nat.eq_of_beq_eq_true e)]; exact ⟨st', hf, hk⟩
   rename_i e;rw [if_neg (fun x => by subst x; rw [Nat.beq_refl] at e; cases e)]; exact ⟨st', hf, hk⟩
  | _ => exact ⟨st', hf, hk⟩
 | .region id ops false, st, H, K, hd, h => by
  unfold run at h
  intro r g w a hr hR hF;refine wpIn_region ?_
  have := NW (P := P) (nt := nt) (rd := rd) (T := T) (A := Gk cf.A) (Z := zAt cf.Z) (df := st.df) hT (ops := ops) (r := r) (K := fun l' H' => K .normal ⟨l', st.df⟩ H') (Q := NT nt g w fun e fr' H' => ∃ st', Bl fr' st' ∧ K e st' H') (g0 := g) (w0 := w)
   (fun g' w' a' l' H' s hR hF hK => ⟨g', _, H', s, hR, hF, ⟨l', st.df⟩, Bl.refl _, hK⟩) ops.size 0 st.l H (by omega) (by simpa using h) g w a (M4.refl _ _) hR hF
  rwa [← List.range_eq_range'] at this
 | .region id ops true, st, H, K, hd, h => by
  cases hj2 : Gk cf.JB (id + 2000000) with
  | true =>
   unfold run at h
   rw [hj2] at h
   exact h
  | false =>
  cases hj : Gk cf.JB (id + 1000000) with
  | true =>
   simp only [E8, hj2, hj] at hd
   unfold run at h
   rw [hj2] at h
   simp only [hj] at h
   refine (Oc (df := st.df) hT hm hd h).mono fun e fr H' ⟨he, l', hfr, hk⟩ => ?_;subst he; subst hfr;exact ⟨⟨l', st.df⟩, Bl.refl _, hk⟩
  | false =>
   simp only [E8, hj2, hj, Bool.and_eq_true, decide_eq_true_eq] at hd
   unfold run at h
   rw [hj2] at h
   simp only [hj] at h
   refine (N5.of_any hm (V2.hoistAll (fun c fr H h => by cases h.1) _ ops hd.1.1 (Qd (df := st.df) hT hd.1.2 hd.2 h))).mono fun e fr H' ⟨he, l', hfr, hk⟩ => ?_;subst he; subst hfr;exact ⟨⟨l', st.df⟩, Bl.refl _, hk⟩
 | .loop c, st, H, K, hd, h => h
 | .rangeFunc g ps a b, st, H, K, hd, h => h
 | .scope c, st, H, K, hd, h => h
 | .label l, st, H, K, hd, h => h
 | .goto l, st, H, K, hd, h => h
 | .refuse w, st, H, K, hd, h => h
theorem FN : ∀ (ms : List Nat) (ops : Array Oper), Ji ms ops = true → (hoistAll ms ops).size = ops.size
 | [], ops, _ => rfl
 | m :: ms, ops, hok => by
  simp only [Ji, Bool.and_eq_true] at hok
  have hm : m < ops.size := by
   have h := hok.1.1
   unfold Ix at h
   simp only [Bool.and_eq_true] at h
   exact Nat.le_of_ble_eq_true h.1.1.1.1.1
  exact (FN ms _ hok.2).trans (Ed hm)
theorem Ou (hT : EC P T) (hm : P.follows .mixedOrders = true) : ∀ (c : Code) (st : St) (H : A0) (K : Exit → St → A0 → Prop), E8 cf c = true → RN (E4 P nt rd) T nt cf c st H K → N5 P nt rd c (D8 st) H fun e fr' H' => ∃ st', Bl fr' st' ∧ K e st' H'
 | .cond c a b, st, H, K, hd, h => by
  simp only [E8, Bool.and_eq_true] at hd
  unfold RN at h
  exact Ig h (fun st' _ h => G0 hT hm a st' H K hd.1 h) (fun st' _ h => G0 hT hm b st' H K hd.2 h)
 | .block id c, st, H, K, hd, h => by
  unfold RN at h
  refine N5.block ((G0 hT hm c st H _ hd h).mono fun e fr' H' ⟨st', hf, hk⟩ => ?_)
  cases e with
  | exit id' =>
   unfold Mf at hk
   dsimp only at hk ⊢
   split at hk
   ·rename_i e; rw [if_pos (Nat.eq_of_beq_eq_true e)]; exact ⟨st', hf, hk⟩
   rename_i e;rw [if_neg (fun x => by subst x; rw [Nat.beq_refl] at e; cases e)]; exact ⟨st', hf, hk⟩
  | _ => exact ⟨st', hf, hk⟩
 | .skip, st, H, K, hd, h => G0 hT hm _ st H K hd h
 | .ret, st, H, K, hd, h => G0 hT hm _ st H K hd h
 | .exit id, st, H, K, hd, h => G0 hT hm _ st H K hd h
 | .seq a b, st, H, K, hd, h => G0 hT hm _ st H K hd h
 | .region id ops false, st, H, K, hd, h => G0 hT hm _ st H K hd h
 | .region id ops true, st, H, K, hd, h => by
  unfold RN at h
  dsimp only at h
  cases hj2 : Gk cf.JB (id + 2000000) with
  | false => rw [hj2] at h; exact G0 hT hm _ st H K hd h
  | true =>
   rw [hj2] at h
   simp only [E8, hj2, Bool.and_eq_true] at hd
   obtain ⟨hd, hfree⟩ := hd;have h' := BM (df := st.df) hT (fun i hi => List.all_eq_true.1 hfree i (Np hi)) _ _ _ _ h;have hsz : (hoistAll (Cb cf.hk (id + 1000000)) ops).size = ops.size := FN _ _ hd
   rw [← hsz] at h'
   refine (N5.of_any hm (V2.hoistAll (fun c fr H h => h) _ ops hd (V2.all (Q := fun e fr H' => match e with | .normal => ∃ l', fr = D8 ⟨l', st.df⟩ ∧ K .normal ⟨l', st.df⟩ H' | _ => False) h'))).mono fun e fr H' hq => ?_
   cases e with
   | normal => obtain ⟨l', hfr, hk⟩ := hq; subst hfr; exact ⟨⟨l', st.df⟩, Bl.refl _, hk⟩
   | _ => exact hq.elim
 | .loop c, st, H, K, hd, h => h
 | .rangeFunc g ps a b, st, H, K, hd, h => h
 | .scope c, st, H, K, hd, h => h
 | .label l, st, H, K, hd, h => h
 | .goto l, st, H, K, hd, h => h
 | .refuse w, st, H, K, hd, h => h
def MM (K : V → A0 → Prop) (H : A0) (vs : List V) : Prop :=
 match vs with
 | [x] => K x H
 | l => K (.tup l) H
theorem IW {K : V → A0 → Prop} {H : A0} {vs : List V} (h : MM K H vs) : K (Jh vs) H := by
 unfold MM at h
 split at h
 ·exact h
 rename_i l hn;unfold Jh
 split
 ·rename_i x; exact absurd rfl (hn x)
 exact h
def Wd (v : V) (k : List V → Prop) (vs : List V) : Prop := k (v :: vs)
def Kn (E : Cz) (T : CW) (l : Fl) (H : A0) : List ResultVar → (List V → Prop) → Prop
 | [], k => k []
 | .tmp t :: r, k => Kn E T l H r fun vs => Wd (X1 l t) k vs
 | .cell a t :: r, k => (match X1 l a with | .elem _ _ _ _ => False | x => Pp E T t x H fun v => Kn E T l H r fun vs => k (v :: vs))
theorem DW (hT : EC P T) {l : Fl} {H : A0} {df : List Nat} : ∀ (rs : List ResultVar) (k : List V → Prop), Kn (E4 P nt rd) T l H rs k → ∃ vs, U6 P (D8 ⟨l, df⟩) H rs = some vs ∧ k vs
 | [], k, h => ⟨[], rfl, h⟩
 | .tmp t :: r, k, h => by
  obtain ⟨vs, h1, h2⟩ := DW (df := df) hT r _ h;exact ⟨_, by simp only [U6, h1]; rfl, h2⟩
 | .cell a t :: r, k, h => by
  unfold Kn at h
  split at h
  ·exact h.elim
  rename_i x hne;obtain ⟨v, h1, h2⟩ := EE hT h
  have h1 : Da P H t (X1 l a) = some v := h1.elim (fun h => h) fun h => by
   unfold FM at h
   split at h
   ·rename_i hx; exact absurd hx (hne _ _ _ _)
   cases h
  obtain ⟨vs, h3, h4⟩ := DW (df := df) hT r _ h2;exact ⟨v :: vs, by simp only [U6, h3]; rw [show (D8 ⟨l, df⟩).s a = X1 l a from rfl, h1], h4⟩
theorem N5.post_le {c : Code} {fr : Fr} {H : A0} {K : Exit → St → A0 → Prop} (h : N5 P nt rd c fr H fun e fr' H' => ∃ st', Bl fr' st' ∧ K e st' H') : N5 P nt rd c fr H fun e fr' H' => ∃ st', fr' = D8 st' ∧ K e st' H' := by
 intro r g w a hr hR hF;refine wpIn_mono (h r g w a hr hR hF) fun e a' w' ⟨g', fr', H', s, hR', hF', st', hle, hk⟩ => ⟨g', D8 st', H', s, hR', ⟨hF'.size, fun t => hle.s t _ _ _ (hF'.s t), ?_⟩, st', rfl, hk⟩;have := hF'.df
 rw [hle.df] at this
 exact this
def Y4 : List V → Nat → Fl
 | [], _ => []
 | v :: l, i => (i, .v v) :: Y4 l (i + 1)
theorem KP : ∀ (args : List V) (i t : Nat), X1 (Y4 args i) t = if i ≤ t then args.getD (t - i) .bad else .bad
 | [], i, t => by simp [Y4, X1]
 | v :: l, i, t => by
  simp only [Y4, X1]
  by_cases h : t = i
  ·subst h; simp [Nat.beq_refl]
  have hb : Nat.beq t i = false := by
   cases hb : Nat.beq t i with
   | false => rfl
   | true => exact absurd (Nat.eq_of_beq_eq_true hb) h
  simp only [hb];rw [KP l (i + 1) t]
  by_cases h1 : i + 1 ≤ t
  ·rw [if_pos h1, if_pos (by omega), show t - i = (t - (i + 1)) + 1 by omega]; rfl
  rw [if_neg h1, if_neg (by omega)]
theorem SG (args : List V) : entry args = D8 ⟨Y4 args 0, []⟩ := by
 simp only [entry, D8, Fr.mk.injEq, and_true]
 funext t
 rw [KP]; simp
def HC (E : Cz) (T : CW) (rs : List ResultVar) (K : V → A0 → Prop) (e : Exit) (st : St) (H : A0) : Prop :=
 match e with
 | .normal => (match st.df with | [] => Kn E T st.l H rs fun vs => MM K H vs | df => E.fin df H fun H' => Kn E T st.l H' rs fun vs => MM K H' vs)
 | .ret => (match st.df with | [] => Kn E T st.l H rs fun vs => MM K H vs | df => E.fin df H fun H' => Kn E T st.l H' rs fun vs => MM K H' vs)
 | _ => False
theorem QQ (hT : EC P T) {fn : Func} {K : V → A0 → Prop} {e : Exit} {st : St} {H : A0} (h : HC (E4 P nt rd) T fn.results.toList K e st H) : Ret P fn K e (D8 st) H := by
 have key : ∀ (h : match st.df with | [] => Kn (E4 P nt rd) T st.l H fn.results.toList fun vs => MM K H vs | df => (E4 P nt rd).fin df H fun H' => Kn (E4 P nt rd) T st.l H' fn.results.toList fun vs => MM K H' vs),
  Um H (D8 st).df ∧ ∃ l, U6 P (D8 st) (clear H (D8 st).df) fn.results.toList = some l ∧ K (Jh l) (clear H (D8 st).df) := by
  obtain ⟨l, df⟩ := st;intro h
  cases df with
  | nil =>
   have hcl : clear H [] = H := by funext x; simp [clear]
   obtain ⟨vs, h1, h2⟩ := DW (df := []) hT _ _ h;refine ⟨⟨by simp [D8], fun id hi => by simp [D8] at hi⟩, vs, ?_, ?_⟩
   ·show U6 P (D8 ⟨l, []⟩) (clear H []) _ = _
    rw [hcl]; exact h1
   show K _ (clear H [])
   rw [hcl]; exact IW h2
  | cons d ds =>
   obtain ⟨hd, h⟩ := h;obtain ⟨vs, h1, h2⟩ := DW (df := d :: ds) hT _ _ h;exact ⟨hd, vs, h1, IW h2⟩
 cases e <;> first | exact h.elim | skip
 ·exact ⟨.inl rfl, key h⟩
 exact ⟨.inr rfl, key h⟩
theorem N4 {f : FuncId} {fn : Func} {c : Code} {n : Nat} {rs : List ResultVar} {args : List V} {H : A0} {K : V → A0 → Prop} (cf : Cf) (hT : EC P T) (hm : P.follows .mixedOrders = true) (hf : P.funcs[f]? = some fn) (hb : fn.body = some c) (hd : E8 cf c = true) (hcall : ∀ vals w, (callFunc f vals).run P w = .ok (.enter f vals) w)
 (hnt : fn.ntmps = n) (hrs : fn.results.toList = rs) (hn : Nat.ble args.length n = true) (h : ∀ E : Cz, E = E4 P n none → run E T n cf c ⟨Y4 args 0, []⟩ H (HC E T rs K)) : E6 P f args H K := by
 subst hnt; subst hrs;refine Kw hf hb hcall (Nat.le_of_ble_eq_true hn) ?_;rw [SG];refine (N5.post_le (G0 hT hm c _ H _ hd (h _ rfl))).mono fun e fr' H' ⟨st', hfr, hq⟩ => ?_;subst hfr;exact QQ hT hq
end
end Go.Ab
