/- AbA24 AbB1 -/
import Derived.Test.YtodfgmbacmnalaaGreatT21
set_option linter.all false

namespace Go.Ab
open Go.RowKit
variable [Glob] [Ar]
def memN : List Nat → Nat → Bool
 | [], _ => false
 | x :: l, n => match n == x with | true => true | false => memN l n
def getN : List (Nat × Nat) → Nat → Nat
 | [], _ => 0
 | (x, y) :: l, n => match Nat.beq n x with | true => y | false => getN l n
structure Cf where
 A : List Nat
 hk : List (Nat × Nat)
 J : List (Nat × Nat)
 JB : List Nat
 Z : List (Nat × Nat)
 W : List (Nat × Nat × List Nat)
def wAt : List (Nat × Nat × List Nat) → Nat → Option (Nat × List Nat)
 | [], _ => none
 | (q, d) :: l, n => match Nat.beq n q with | true => some d | false => wAt l n
def zAt : List (Nat × Nat) → Nat → List Nat
 | [], _ => []
 | (q, d) :: l, n => match Nat.beq n q with | true => d :: zAt l n | false => zAt l n
def memP : List (Nat × Nat) → Nat → Nat → Bool
 | [], _, _ => false
 | (x, y) :: l, a, b => match Nat.beq a x && Nat.beq b y with | true => true | false => memP l a b
def fReg : Code → Nat
 | .region id _ _ => id + 1
 | .seq a b => (match fReg a with | 0 => fReg b | n + 1 => n + 1)
 | .cond _ a b => (match fReg a with | 0 => fReg b | n + 1 => n + 1)
 | .block _ c => fReg c
 | .loop c => fReg c
 | .rangeFunc _ _ a b => (match fReg a with | 0 => fReg b | n + 1 => n + 1)
 | _ => 0
def drawsOk (cf : Cf) : Code → Bool
 | .seq a b => drawsOk cf a && drawsOk cf b
 | .cond _ a b => drawsOk cf a && drawsOk cf b
 | .block _ c => drawsOk cf c
 | .loop c => drawsOk cf c
 | .rangeFunc _ _ a b => drawsOk cf a && drawsOk cf b
 | .region id ops true => match memN cf.JB (id + 2000000) with | true => okAll (getAll cf.hk (id + 1000000)) ops | false => match memN cf.JB (id + 1000000) with | true => drawOkA ops (getN cf.hk id) | false => okAll (getAll cf.hk (id + 1000000)) ops && drawOk (hoistAll (getAll cf.hk (id + 1000000)) ops) (getN cf.hk id) && decide (allocsOf ((hoistAll (getAll cf.hk (id + 1000000)) ops).toList.take (getN cf.hk id))).Nodup
 | _ => true
section
variable (E : Env) (T : Tbl) (nt : Nat) (cf : Cf)
def condX (c : Operand) (st : St) (ra rb : St → Prop) : Prop :=
 match evS [] st.l c with
 | .b true => ra st
 | .b false => rb st
 | .v (.bool t) =>
  (match c with
   | .tmp d => E.br t (fun _ => ra ⟨setK st.l d true, st.df⟩) (fun _ => rb ⟨setK st.l d false, st.df⟩)
   | _ => E.br t (fun _ => ra st) (fun _ => rb st))
 | _ => False
def blockK (id : Nat) (K : Exit → St → Heap → Prop) (e : Exit) (st' : St) (H' : Heap) : Prop :=
 match e with
 | .exit id' => (match Nat.beq id' id with | true => K .normal st' H' | false => K (.exit id') st' H')
 | e => K e st' H'
def meetC (c : Operand) (a b : Code) : Bool :=
 match c with
 | .tmp d => memP cf.J d (match fReg a with | 0 => fReg b | n + 1 => n + 1)
 | _ => false
def run : Code → St → Heap → (Exit → St → Heap → Prop) → Prop
 | .skip, st, H, K => K .normal st H
 | .ret, st, H, K => K .ret st H
 | .exit id, st, H, K => K (.exit id) st H
 | .seq a b, st, H, K => run a st H fun e st' H' => match e with | .normal => run b st' H' K | e => K e st' H'
 | .cond c a b, st, H, K =>
  (match meetC cf c a b with
   | true => E.sim (.cond c a b) st H K
   | false => condX E c st (fun st => run a st H K) (fun st => run b st H K))
 | .block id c, st, H, K =>
  (match memN cf.JB id with
   | true => E.sim (.block id c) st H K
   | false => run c st H (blockK id K))
 | .region _ ops false, st, H, K => xops E T nt (memN cf.A) (zAt cf.Z) ops ops.toList st.l H fun l' H' => K .normal ⟨l', st.df⟩ H'
 | .region id ops true, st, H, K =>
  (match memN cf.JB (id + 2000000) with
   | true => E.sim (.region id ops true) st H K
   | false =>
    (match memN cf.JB (id + 1000000) with
     | true => xapp E T nt (memN cf.A) (getN cf.hk id) ops st.l H fun l' H' => K .normal ⟨l', st.df⟩ H'
     | false => xdraw E T nt (memN cf.A) (wAt cf.W id) (getN cf.hk id) (hoistAll (getAll cf.hk (id + 1000000)) ops) st.l H fun l' H' => K .normal ⟨l', st.df⟩ H'))
 | c, st, H, K => E.sim c st H K
def runJ : Code → St → Heap → (Exit → St → Heap → Prop) → Prop
 | .cond c a b, st, H, K => condX E c st (fun st => run E T nt cf a st H K) (fun st => run E T nt cf b st H K)
 | .block id c, st, H, K => run E T nt cf c st H (blockK id K)
 | .region id ops true, st, H, K =>
  (match memN cf.JB (id + 2000000) with
   | true => xall E T nt (memN cf.A) (hoistAll (getAll cf.hk (id + 1000000)) ops) ops.size (Array.replicate ops.size false) st.l H fun l' H' => K .normal ⟨l', st.df⟩ H'
   | false => run E T nt cf (.region id ops true) st H K)
 | c, st, H, K => run E T nt cf c st H K
end
section
variable {P : Program} {nt : Nat} {rd : Option Nat} {T : Tbl} {cf : Cf}
theorem Sim.frLe {c : Code} {fr : Fr} {st : St} {H : Heap} {Q : Exit → Fr → Heap → Prop} (hf : FrLe fr st) (h : Sim P nt rd c (frOf st) H Q) : Sim P nt rd c fr H Q :=
 h.less hf.s hf.df.symm fun _ _ h => h
theorem FrLe.refl (st : St) : FrLe (frOf st) st := ⟨fun _ => Wk.refl _, rfl⟩
theorem condX_sound {c : Operand} {a b : Code} {st : St} {H : Heap} {Q : Exit → Fr → Heap → Prop} {ra rb : St → Prop} (h : condX (real P nt rd) c st ra rb) (ha : ∀ st', frOf st' = frOf st → ra st' → Sim P nt rd a (frOf st') H Q) (hb : ∀ st', frOf st' = frOf st → rb st' → Sim P nt rd b (frOf st') H Q) : Sim P nt rd (.cond c a b) (frOf st) H Q := by
 have hev : ev (frOf st) c = (evS [] st.l c).V := (evS_ev (df := st.df) Gok.nil c).symm
 unfold condX at h
 split at h
 ·rename_i he
  exact Sim.cond (t := true) (by rw [hev, he]; rfl) (fun _ => ha st rfl h) (fun e => by cases e)
 ·rename_i he
  exact Sim.cond (t := false) (by rw [hev, he]; rfl) (fun e => by cases e) (fun _ => hb st rfl h)
 ·rename_i t he
  split at h
  ·rename_i d
   have he' : lkV st.l d = .bool t := by
    have := opnd_ok (l := st.l) Gok.nil d
    rw [show opnd [] st.l d = .v (.bool t) from he] at this
    exact this.symm
   obtain ⟨h1, h2⟩ := h
   refine Sim.cond (t := t) (by rw [hev, he]; rfl) (fun e => ?_) (fun e => ?_)
   ·subst e
    have ef : frOf ⟨setK st.l d true, st.df⟩ = frOf st := frOf_setK he'
    have := ha _ ef (h1 rfl)
    rwa [ef] at this
   ·subst e
    have ef : frOf ⟨setK st.l d false, st.df⟩ = frOf st := frOf_setK he'
    have := hb _ ef (h2 rfl)
    rwa [ef] at this
  ·obtain ⟨h1, h2⟩ := h
   exact Sim.cond (t := t) (by rw [hev, he]; rfl) (fun e => ha st rfl (h1 e)) (fun e => hb st rfl (h2 e))
 ·exact h.elim
theorem run_sound (hT : TOk P T) (hm : P.follows .mixedOrders = true) : ∀ (c : Code) (st : St) (H : Heap) (K : Exit → St → Heap → Prop), drawsOk cf c = true → run (real P nt rd) T nt cf c st H K → Sim P nt rd c (frOf st) H fun e fr' H' => ∃ st', FrLe fr' st' ∧ K e st' H'
 | .skip, st, H, K, hd, h => Sim.skip ⟨st, FrLe.refl _, h⟩
 | .ret, st, H, K, hd, h => Sim.ret ⟨st, FrLe.refl _, h⟩
 | .exit id, st, H, K, hd, h => Sim.exit ⟨st, FrLe.refl _, h⟩
 | .seq a b, st, H, K, hd, h => by
  simp only [drawsOk, Bool.and_eq_true] at hd
  refine Sim.seq ((run_sound hT hm a st H _ hd.1 h).mono fun e fr' H' ⟨st', hf, hk⟩ => ?_)
  cases e with
  | normal => exact Sim.frLe hf (run_sound hT hm b st' H' K hd.2 hk)
  | _ => exact ⟨st', hf, hk⟩
 | .cond c a b, st, H, K, hd, h => by
  simp only [drawsOk, Bool.and_eq_true] at hd
  unfold run at h
  split at h
  ·exact h
  ·exact condX_sound h (fun st' _ h => run_sound hT hm a st' H K hd.1 h) (fun st' _ h => run_sound hT hm b st' H K hd.2 h)
 | .block id c, st, H, K, hd, h => by
  unfold run at h
  split at h
  ·exact h
  ·refine Sim.block ((run_sound hT hm c st H _ hd h).mono fun e fr' H' ⟨st', hf, hk⟩ => ?_)
   cases e with
   | exit id' =>
    unfold blockK at hk
    dsimp only at hk ⊢
    split at hk
    ·rename_i e; rw [if_pos (Nat.eq_of_beq_eq_true e)]; exact ⟨st', hf, hk⟩
    ·rename_i e
     rw [if_neg (fun x => by subst x; rw [Nat.beq_refl] at e; cases e)]; exact ⟨st', hf, hk⟩
   | _ => exact ⟨st', hf, hk⟩
 | .region id ops false, st, H, K, hd, h => by
  unfold run at h
  intro r g w a hr hR hF
  refine wpIn_region ?_
  have := xops_sound (P := P) (nt := nt) (rd := rd) (T := T) (A := memN cf.A) (Z := zAt cf.Z) (df := st.df) hT (ops := ops) (r := r) (K := fun l' H' => K .normal ⟨l', st.df⟩ H') (Q := End nt g w fun e fr' H' => ∃ st', FrLe fr' st' ∧ K e st' H') (g0 := g) (w0 := w)
   (fun g' w' a' l' H' s hR hF hK => ⟨g', _, H', s, hR, hF, ⟨l', st.df⟩, FrLe.refl _, hK⟩) ops.size 0 st.l H (by omega) (by simpa using h) g w a (Stp.refl _ _) hR hF
  rwa [← List.range_eq_range'] at this
 | .region id ops true, st, H, K, hd, h => by
  cases hj2 : memN cf.JB (id + 2000000) with
  | true =>
   unfold run at h
   rw [hj2] at h
   exact h
  | false =>
  cases hj : memN cf.JB (id + 1000000) with
  | true =>
   simp only [drawsOk, hj2, hj] at hd
   unfold run at h
   rw [hj2] at h
   simp only [hj] at h
   refine (xapp_sound (df := st.df) hT hm hd h).mono fun e fr H' ⟨he, l', hfr, hk⟩ => ?_
   subst he; subst hfr
   exact ⟨⟨l', st.df⟩, FrLe.refl _, hk⟩
  | false =>
   simp only [drawsOk, hj2, hj, Bool.and_eq_true, decide_eq_true_eq] at hd
   unfold run at h
   rw [hj2] at h
   simp only [hj] at h
   refine (Sim.of_any hm (SimAny.hoistAll (fun c fr H h => by cases h.1) _ ops hd.1.1 (xdraw_any (df := st.df) hT hd.1.2 hd.2 h))).mono fun e fr H' ⟨he, l', hfr, hk⟩ => ?_
   subst he; subst hfr
   exact ⟨⟨l', st.df⟩, FrLe.refl _, hk⟩
 | .loop c, st, H, K, hd, h => h
 | .rangeFunc g ps a b, st, H, K, hd, h => h
 | .scope c, st, H, K, hd, h => h
 | .label l, st, H, K, hd, h => h
 | .goto l, st, H, K, hd, h => h
 | .refuse w, st, H, K, hd, h => h
theorem hoistAll_size : ∀ (ms : List Nat) (ops : Array Oper), okAll ms ops = true → (hoistAll ms ops).size = ops.size
 | [], ops, _ => rfl
 | m :: ms, ops, hok => by
  simp only [okAll, Bool.and_eq_true] at hok
  have hm : m < ops.size := by
   have h := hok.1.1
   unfold okHoist at h
   simp only [Bool.and_eq_true] at h
   exact Nat.le_of_ble_eq_true h.1.1.1.1.1
  exact (hoistAll_size ms _ hok.2).trans (hoist_size hm)
theorem runJ_sound (hT : TOk P T) (hm : P.follows .mixedOrders = true) : ∀ (c : Code) (st : St) (H : Heap) (K : Exit → St → Heap → Prop), drawsOk cf c = true → runJ (real P nt rd) T nt cf c st H K → Sim P nt rd c (frOf st) H fun e fr' H' => ∃ st', FrLe fr' st' ∧ K e st' H'
 | .cond c a b, st, H, K, hd, h => by
  simp only [drawsOk, Bool.and_eq_true] at hd
  unfold runJ at h
  exact condX_sound h (fun st' _ h => run_sound hT hm a st' H K hd.1 h) (fun st' _ h => run_sound hT hm b st' H K hd.2 h)
 | .block id c, st, H, K, hd, h => by
  unfold runJ at h
  refine Sim.block ((run_sound hT hm c st H _ hd h).mono fun e fr' H' ⟨st', hf, hk⟩ => ?_)
  cases e with
  | exit id' =>
   unfold blockK at hk
   dsimp only at hk ⊢
   split at hk
   ·rename_i e; rw [if_pos (Nat.eq_of_beq_eq_true e)]; exact ⟨st', hf, hk⟩
   ·rename_i e
    rw [if_neg (fun x => by subst x; rw [Nat.beq_refl] at e; cases e)]; exact ⟨st', hf, hk⟩
  | _ => exact ⟨st', hf, hk⟩
 | .skip, st, H, K, hd, h => run_sound hT hm _ st H K hd h
 | .ret, st, H, K, hd, h => run_sound hT hm _ st H K hd h
 | .exit id, st, H, K, hd, h => run_sound hT hm _ st H K hd h
 | .seq a b, st, H, K, hd, h => run_sound hT hm _ st H K hd h
 | .region id ops false, st, H, K, hd, h => run_sound hT hm _ st H K hd h
 | .region id ops true, st, H, K, hd, h => by
  unfold runJ at h
  dsimp only at h
  cases hj2 : memN cf.JB (id + 2000000) with
  | false => rw [hj2] at h; exact run_sound hT hm _ st H K hd h
  | true =>
   rw [hj2] at h
   simp only [drawsOk, hj2] at hd
   have h' := xall_sound (df := st.df) hT _ _ _ _ h
   have hsz : (hoistAll (getAll cf.hk (id + 1000000)) ops).size = ops.size := hoistAll_size _ _ hd
   rw [← hsz] at h'
   refine (Sim.of_any hm (SimAny.hoistAll (fun c fr H h => h) _ ops hd (SimAny.all (Q := fun e fr H' => match e with | .normal => ∃ l', fr = frOf ⟨l', st.df⟩ ∧ K .normal ⟨l', st.df⟩ H' | _ => False) h'))).mono fun e fr H' hq => ?_
   cases e with
   | normal => obtain ⟨l', hfr, hk⟩ := hq; subst hfr; exact ⟨⟨l', st.df⟩, FrLe.refl _, hk⟩
   | _ => exact hq.elim
 | .loop c, st, H, K, hd, h => h
 | .rangeFunc g ps a b, st, H, K, hd, h => h
 | .scope c, st, H, K, hd, h => h
 | .label l, st, H, K, hd, h => h
 | .goto l, st, H, K, hd, h => h
 | .refuse w, st, H, K, hd, h => h
def retK (K : V → Heap → Prop) (H : Heap) (vs : List V) : Prop :=
 match vs with
 | [x] => K x H
 | l => K (.tup l) H
theorem retK_sound {K : V → Heap → Prop} {H : Heap} {vs : List V} (h : retK K H vs) : K (oneOf vs) H := by
 unfold retK at h
 split at h
 ·exact h
 ·rename_i l hn
  unfold oneOf
  split
  ·rename_i x; exact absurd rfl (hn x)
  ·exact h
def consK (v : V) (k : List V → Prop) (vs : List V) : Prop := k (v :: vs)
def resX (E : Env) (T : Tbl) (l : Fl) (H : Heap) : List ResultVar → (List V → Prop) → Prop
 | [], k => k []
 | .tmp t :: r, k => resX E T l H r fun vs => consK (lkV l t) k vs
 | .cell a t :: r, k => (match lkV l a with | .elem _ _ _ _ => False | x => xload E T t x H fun v => resX E T l H r fun vs => k (v :: vs))
theorem resX_sound (hT : TOk P T) {l : Fl} {H : Heap} {df : List Nat} : ∀ (rs : List ResultVar) (k : List V → Prop), resX (real P nt rd) T l H rs k → ∃ vs, resList P (frOf ⟨l, df⟩) H rs = some vs ∧ k vs
 | [], k, h => ⟨[], rfl, h⟩
 | .tmp t :: r, k, h => by
  obtain ⟨vs, h1, h2⟩ := resX_sound (df := df) hT r _ h
  exact ⟨_, by simp only [resList, h1]; rfl, h2⟩
 | .cell a t :: r, k, h => by
  unfold resX at h
  split at h
  ·exact h.elim
  rename_i x hne
  obtain ⟨v, h1, h2⟩ := xload_sound hT h
  have h1 : loadV P H t (lkV l a) = some v := h1.elim (fun h => h) fun h => by
   unfold loadO at h
   split at h
   ·rename_i hx; exact absurd hx (hne _ _ _ _)
   ·cases h
  obtain ⟨vs, h3, h4⟩ := resX_sound (df := df) hT r _ h2
  exact ⟨v :: vs, by simp only [resList, h3]; rw [show (frOf ⟨l, df⟩).s a = lkV l a from rfl, h1], h4⟩
theorem Sim.post_le {c : Code} {fr : Fr} {H : Heap} {K : Exit → St → Heap → Prop} (h : Sim P nt rd c fr H fun e fr' H' => ∃ st', FrLe fr' st' ∧ K e st' H') : Sim P nt rd c fr H fun e fr' H' => ∃ st', fr' = frOf st' ∧ K e st' H' := by
 intro r g w a hr hR hF
 refine wpIn_mono (h r g w a hr hR hF) fun e a' w' ⟨g', fr', H', s, hR', hF', st', hle, hk⟩ => ⟨g', frOf st', H', s, hR', ⟨hF'.size, fun t => hle.s t _ _ _ (hF'.s t), ?_⟩, st', rfl, hk⟩
 have := hF'.df
 rw [hle.df] at this
 exact this
def entryL : List V → Nat → Fl
 | [], _ => []
 | v :: l, i => (i, .v v) :: entryL l (i + 1)
theorem lk_entryL : ∀ (args : List V) (i t : Nat), lkV (entryL args i) t = if i ≤ t then args.getD (t - i) .bad else .bad
 | [], i, t => by simp [entryL, lkV]
 | v :: l, i, t => by
  simp only [entryL, lkV]
  by_cases h : t = i
  ·subst h; simp [Nat.beq_refl]
  ·have hb : Nat.beq t i = false := by
    cases hb : Nat.beq t i with
    | false => rfl
    | true => exact absurd (Nat.eq_of_beq_eq_true hb) h
   simp only [hb]
   rw [lk_entryL l (i + 1) t]
   by_cases h1 : i + 1 ≤ t
   ·rw [if_pos h1, if_pos (by omega), show t - i = (t - (i + 1)) + 1 by omega]; rfl
   ·rw [if_neg h1, if_neg (by omega)]
theorem entry_eq (args : List V) : entry args = frOf ⟨entryL args 0, []⟩ := by
 simp only [entry, frOf, Fr.mk.injEq, and_true]
 funext t
 rw [lk_entryL]; simp
def finX (E : Env) (T : Tbl) (rs : List ResultVar) (K : V → Heap → Prop) (e : Exit) (st : St) (H : Heap) : Prop :=
 match e with
 | .normal => (match st.df with | [] => resX E T st.l H rs fun vs => retK K H vs | df => E.fin df H fun H' => resX E T st.l H' rs fun vs => retK K H' vs)
 | .ret => (match st.df with | [] => resX E T st.l H rs fun vs => retK K H vs | df => E.fin df H fun H' => resX E T st.l H' rs fun vs => retK K H' vs)
 | _ => False
theorem fin_sound (hT : TOk P T) {fn : Func} {K : V → Heap → Prop} {e : Exit} {st : St} {H : Heap} (h : finX (real P nt rd) T fn.results.toList K e st H) : Ret P fn K e (frOf st) H := by
 have key : ∀ (h : match st.df with | [] => resX (real P nt rd) T st.l H fn.results.toList fun vs => retK K H vs | df => (real P nt rd).fin df H fun H' => resX (real P nt rd) T st.l H' fn.results.toList fun vs => retK K H' vs),
  dfOk H (frOf st).df ∧ ∃ l, resList P (frOf st) (clear H (frOf st).df) fn.results.toList = some l ∧ K (oneOf l) (clear H (frOf st).df) := by
  obtain ⟨l, df⟩ := st
  intro h
  cases df with
  | nil =>
   have hcl : clear H [] = H := by funext x; simp [clear]
   obtain ⟨vs, h1, h2⟩ := resX_sound (df := []) hT _ _ h
   refine ⟨⟨by simp [frOf], fun id hi => by simp [frOf] at hi⟩, vs, ?_, ?_⟩
   ·show resList P (frOf ⟨l, []⟩) (clear H []) _ = _
    rw [hcl]; exact h1
   ·show K _ (clear H [])
    rw [hcl]; exact retK_sound h2
  | cons d ds =>
   obtain ⟨hd, h⟩ := h
   obtain ⟨vs, h1, h2⟩ := resX_sound (df := d :: ds) hT _ _ h
   exact ⟨hd, vs, h1, retK_sound h2⟩
 cases e <;> first | exact h.elim | skip
 ·exact ⟨.inl rfl, key h⟩
 ·exact ⟨.inr rfl, key h⟩
theorem callA_of_run {f : FuncId} {fn : Func} {c : Code} {n : Nat} {rs : List ResultVar} {args : List V} {H : Heap} {K : V → Heap → Prop} (cf : Cf) (hT : TOk P T) (hm : P.follows .mixedOrders = true) (hf : P.funcs[f]? = some fn) (hb : fn.body = some c) (hd : drawsOk cf c = true) (hcall : ∀ vals w, (callFunc f vals).run P w = .ok (.enter f vals) w)
 (hnt : fn.ntmps = n) (hrs : fn.results.toList = rs) (hn : Nat.ble args.length n = true) (h : ∀ E : Env, E = real P n none → run E T n cf c ⟨entryL args 0, []⟩ H (finX E T rs K)) : CallA P f args H K := by
 subst hnt; subst hrs
 refine callA_of_code hf hb hcall (Nat.le_of_ble_eq_true hn) ?_
 rw [entry_eq]
 refine (Sim.post_le (run_sound hT hm c _ H _ hd (h _ rfl))).mono fun e fr' H' ⟨st', hfr, hq⟩ => ?_
 subst hfr
 exact fin_sound hT hq
end
end Go.Ab

namespace Go.Ab
open Go.RowKit
variable [Glob] [Ar]
theorem LeV.wk {x y : V} (h : LeV x y) : Wk x y := fun _ _ _ hv => hv.le h
theorem Args.le {g : Gh} {w : World} {vals : Array Value} {xs ys : List V} (h : Args g w vals xs) (k : LeVs xs ys) : Args g w vals ys :=
 ⟨h.1.trans k.length, fun i hi => (h.2 i (k.length ▸ hi)).le (k.at i)⟩
theorem CallA.args {P : Program} {f : FuncId} {xs ys : List V} {H : Heap} {K : V → Heap → Prop} (h : CallA P f ys H K) (k : LeVs xs ys) : CallA P f xs H K :=
 fun g w vals hR hA => h g w vals hR (hA.le k)
theorem CallV.args {P : Program} {fv : V} {xs ys : List V} {H : Heap} {K : V → Heap → Prop} (h : CallV P fv ys H K) (k : LeVs xs ys) : CallV P fv xs H K :=
 fun g w v vals hR hv hA => h g w v vals hR hv (hA.le k)
theorem CallP.args {P : Program} {f : FuncId} {xs ys : List V} {r : V} (h : CallP P f ys r) (k : LeVs xs ys) : CallP P f xs r := fun H => (h H).args k
theorem CallVP.args {P : Program} {fv : V} {xs ys : List V} {r : V} (h : CallVP P fv ys r) (k : LeVs xs ys) : CallVP P fv xs r := fun H => (h H).args k
def HLe (H H' : Heap) : Prop := ∀ id b, H id = some b → H' id = some b
theorem HLe.refl (H : Heap) : HLe H H := fun _ _ h => h
theorem HLe.trans {H H' H'' : Heap} (h : HLe H H') (k : HLe H' H'') : HLe H H'' := fun id b e => k id b (h id b e)
theorem CallA.le {P : Program} {f : FuncId} {args : List V} {H : Heap} {K : V → Heap → Prop} (h : CallA P f args H fun x H' => ∃ y H2, LeV x y ∧ HLe H2 H' ∧ K y H2) : CallA P f args H K :=
 fun g w vals hR hA => (h g w vals hR hA).mono fun v w' ⟨g', x, H', s, hR', hv, y, H2, hxy, hH, hK⟩ => ⟨g', y, H2, s, hR'.less hH, hv.le hxy, hK⟩
inductive En where
 | tl (t : Tail)
 | blk (id : Nat) (b : Blk)
def En.id : En → Option (Nat × Blk)
 | .tl (.tok t) => some (t, .spare)
 | .tl _ => none
 | .blk id b => some (id, b)
structure Own0 (H0 : Heap) (L : List En) (H : Heap) : Prop where
 ext : HLe H0 H
 has : ∀ (i : Nat) e id b, L[i]? = some e → e.id = some (id, b) → H0 id = none ∧ H id = some b
 inj : ∀ (i j : Nat) e e' id b b', L[i]? = some e → L[j]? = some e' → e.id = some (id, b) → e'.id = some (id, b') → i = j
 only : ∀ x b, H x = some b → H0 x = some b ∨ ∃ (i : Nat) (e : En), L[i]? = some e ∧ e.id = some (x, b)
theorem Own0.start (H : Heap) : Own0 H [] H := ⟨HLe.refl H, fun i e id b h => by simp at h, fun i j e e' id b b' h => by simp at h, fun x b h => .inl h⟩
theorem Own0.free {H0 H : Heap} {L : List En} (h : Own0 H0 L H) {id : Nat} (hn : H id = none) : H0 id = none := by
 cases e : H0 id with
 | none => rfl
 | some b => rw [h.ext id b e] at hn; cases hn
theorem Own0.tl0 {H0 H : Heap} {L : List En} (h : Own0 H0 L H) {t : Tail} (ht : (En.tl t).id = none) : Own0 H0 (.tl t :: L) H := by
 refine ⟨h.ext, fun i e id b hi he => ?_, fun i j e e' id b b' hi hj he he' => ?_, fun x b hx => (h.only x b hx).imp (fun h => h) fun ⟨i, e, h1, h2⟩ => ⟨i + 1, e, by simpa using h1, h2⟩⟩
 ·cases i with
  | zero => simp at hi; subst hi; rw [ht] at he; cases he
  | succ i => exact h.has i e id b (by simpa using hi) he
 ·cases i with
  | zero => simp at hi; subst hi; rw [ht] at he; cases he
  | succ i =>
   cases j with
   | zero => simp at hj; subst hj; rw [ht] at he'; cases he'
   | succ j => rw [h.inj i j e e' id b b' (by simpa using hi) (by simpa using hj) he he']
theorem Own0.push {H0 H : Heap} {L : List En} (h : Own0 H0 L H) {en : En} {id : Nat} {b : Blk} (hn : H id = none) (he : en.id = some (id, b)) : Own0 H0 (en :: L) (upd H id (some b)) := by
 refine ⟨fun x bb hx => ?_, fun i e x bb hi hx => ?_, fun i j e e' x bb bb' hi hj hx hx' => ?_, fun x bb hx => ?_⟩
 rotate_right
 ·by_cases hxi : x = id
  ·subst hxi; rw [upd_same] at hx; cases hx; exact .inr ⟨0, en, by simp, he⟩
  ·rw [upd_other _ _ hxi] at hx
   exact (h.only x bb hx).imp (fun h => h) fun ⟨i, e, h1, h2⟩ => ⟨i + 1, e, by simpa using h1, h2⟩
 ·rw [upd_other _ _ (ne_of_none (h.free hn) hx)]; exact h.ext x bb hx
 ·cases i with
  | zero => simp at hi; subst hi; rw [he] at hx; cases hx; exact ⟨h.free hn, upd_same _ _ _⟩
  | succ i =>
   have := h.has i e x bb (by simpa using hi) hx
   exact ⟨this.1, by rw [upd_other _ _ (ne_of_none hn this.2)]; exact this.2⟩
 ·cases i with
  | zero =>
   cases j with
   | zero => rfl
   | succ j =>
    simp at hi; subst hi; rw [he] at hx; cases hx
    have := (h.has j e' _ bb' (by simpa using hj) hx').2
    rw [hn] at this; cases this
  | succ i =>
   cases j with
   | zero =>
    simp at hj; subst hj; rw [he] at hx'; cases hx'
    have := (h.has i e _ bb (by simpa using hi) hx).2
    rw [hn] at this; cases this
   | succ j => rw [h.inj i j e e' x bb bb' (by simpa using hi) (by simpa using hj) hx hx']
theorem Own0.get {H0 H : Heap} {L : List En} (h : Own0 H0 L H) (i : Nat) {id : Nat} {b : Blk} (hi : L[i]? = some (.blk id b)) : H id = some b := (h.has i _ id b hi rfl).2
theorem Own0.set {H0 H : Heap} {L : List En} (h : Own0 H0 L H) (i : Nat) {id : Nat} {b b' : Blk} (hi : L[i]? = some (.blk id b)) : Own0 H0 (L.set i (.blk id b')) (upd H id (some b')) := by
 have hid := h.has i _ id b hi rfl
 have hlt : i < L.length := by
  rcases Nat.lt_or_ge i L.length with h' | h'
  ·exact h'
  ·rw [List.getElem?_eq_none h'] at hi; cases hi
 have look : ∀ (j : Nat) e, (L.set i (.blk id b'))[j]? = some e → (j = i ∧ e = .blk id b') ∨ (j ≠ i ∧ L[j]? = some e) := fun j e hj => by
  rw [List.getElem?_set] at hj
  split at hj
  ·rename_i hij
   subst hij
   try rw [if_pos hlt] at hj
   exact .inl ⟨rfl, (Option.some.inj hj).symm⟩
  ·rename_i hij
   exact .inr ⟨fun e => hij e.symm, hj⟩
 refine ⟨fun x bb hx => ?_, fun j e x bb hj hx => ?_, fun j k e e' x bb bb' hj hk hx hx' => ?_, fun x bb hx => ?_⟩
 rotate_right
 ·by_cases hxi : x = id
  ·subst hxi; rw [upd_same] at hx; cases hx
   exact .inr ⟨i, .blk x b', by rw [List.getElem?_set, if_pos rfl, if_pos hlt], rfl⟩
  ·rw [upd_other _ _ hxi] at hx
   refine (h.only x bb hx).imp (fun h => h) fun ⟨j, e, h1, h2⟩ => ⟨j, e, ?_, h2⟩
   rw [List.getElem?_set]
   split
   ·rename_i hij; subst hij; rw [hi] at h1; cases h1; cases h2; exact absurd rfl hxi
   ·exact h1
 ·rw [upd_other _ _ (ne_of_none hid.1 hx)]; exact h.ext x bb hx
 ·rcases look j e hj with ⟨_, rfl⟩ | ⟨hne, hj'⟩
  ·cases hx; exact ⟨hid.1, upd_same _ _ _⟩
  ·have := h.has j e x bb hj' hx
   have hxid : x ≠ id := fun eq => by subst eq; exact hne (h.inj j i e _ x bb b hj' hi hx rfl)
   exact ⟨this.1, by rw [upd_other _ _ hxid]; exact this.2⟩
 ·rcases look j e hj with ⟨hji, rfl⟩ | ⟨hne, hj'⟩ <;> rcases look k e' hk with ⟨hki, rfl⟩ | ⟨hne', hk'⟩
  ·rw [hji, hki]
  ·cases hx; exact absurd (h.inj k i e' _ id bb' b hk' hi hx' rfl) hne'
  ·cases hx'; exact absurd (h.inj j i e _ id bb b hj' hi hx rfl) hne
  ·exact h.inj j k e e' x bb bb' hj' hk' hx hx'
theorem Own0.tok {H0 H : Heap} {L : List En} (h : Own0 H0 L H) (i : Nat) {tl : Tail} (hi : L[i]? = some (.tl tl)) {t : Nat} (ht : dropTok H tl t = none) :
 Own0 H0 (L.set i (.tl (.tok t))) (upd (dropTok H tl) t (some .spare)) := by
 have hlt : i < L.length := by
  rcases Nat.lt_or_ge i L.length with h' | h'
  ·exact h'
  ·rw [List.getElem?_eq_none h'] at hi; cases hi
 have look : ∀ (j : Nat) e, (L.set i (.tl (.tok t)))[j]? = some e → (j = i ∧ e = .tl (.tok t)) ∨ (j ≠ i ∧ L[j]? = some e) := fun j e hj => by
  rw [List.getElem?_set] at hj
  split at hj
  ·rename_i hij
   subst hij
   try rw [if_pos hlt] at hj
   exact .inl ⟨rfl, (Option.some.inj hj).symm⟩
  ·rename_i hij
   exact .inr ⟨fun e => hij e.symm, hj⟩
 have left : ∀ x b, H x = some b → (∀ t', tl = .tok t' → x ≠ t') → dropTok H tl x = some b := fun x b hx hne => by
  cases tl with
  | tok t' => simp only [dropTok]; rw [upd_other _ _ (hne t' rfl)]; exact hx
  | _ => exact hx
 have h0 : ∀ x b, H0 x = some b → dropTok H tl x = some b := fun x b hx => left x b (h.ext x b hx) fun t' e eq => by
  subst e; subst eq
  rw [(h.has i _ x _ hi rfl).1] at hx; cases hx
 have hoth : ∀ (j : Nat) e x b, j ≠ i → L[j]? = some e → e.id = some (x, b) → H0 x = none ∧ dropTok H tl x = some b := fun j e x b hne hj hx => by
  have := h.has j e x b hj hx
  refine ⟨this.1, left x b this.2 fun t' et eq => ?_⟩
  subst et; subst eq
  exact hne (h.inj j i e _ x b _ hj hi hx rfl)
 have hid0 : H0 t = none := by
  cases e : H0 t with
  | none => rfl
  | some b => rw [h0 t b e] at ht; cases ht
 refine ⟨fun x bb hx => ?_, fun j e x bb hj hx => ?_, fun j k e e' x bb bb' hj hk hx hx' => ?_, fun x bb hx => ?_⟩
 rotate_right
 ·by_cases hxi : x = t
  ·subst hxi; rw [upd_same] at hx; cases hx
   exact .inr ⟨i, .tl (.tok x), by rw [List.getElem?_set, if_pos rfl, if_pos hlt], rfl⟩
  ·rw [upd_other _ _ hxi] at hx
   have hx2 : H x = some bb ∧ ∀ t', tl = .tok t' → x ≠ t' := by
    cases tl with
    | tok t' =>
     simp only [dropTok] at hx
     by_cases e : x = t'
     ·subst e; rw [upd_same] at hx; cases hx
     ·rw [upd_other _ _ e] at hx
      exact ⟨hx, fun t'' e' => by cases e'; exact e⟩
    | _ => exact ⟨hx, fun t'' e' => by cases e'⟩
   refine (h.only x bb hx2.1).imp (fun h => h) fun ⟨j, e, h1, h2⟩ => ⟨j, e, ?_, h2⟩
   rw [List.getElem?_set]
   split
   ·rename_i hij; subst hij; rw [hi] at h1; cases h1
    cases tl with
    | tok t' => cases h2; exact absurd rfl (hx2.2 _ rfl)
    | _ => cases h2
   ·exact h1
 ·rw [upd_other _ _ (ne_of_none hid0 hx)]; exact h0 x bb hx
 ·rcases look j e hj with ⟨_, rfl⟩ | ⟨hne, hj'⟩
  ·cases hx; exact ⟨hid0, upd_same _ _ _⟩
  ·have := hoth j e x bb hne hj' hx
   exact ⟨this.1, by rw [upd_other _ _ (ne_of_none ht this.2)]; exact this.2⟩
 ·rcases look j e hj with ⟨hji, rfl⟩ | ⟨hne, hj'⟩ <;> rcases look k e' hk with ⟨hki, rfl⟩ | ⟨hne', hk'⟩
  ·rw [hji, hki]
  ·cases hx; have := (hoth k e' t bb' hne' hk' hx').2; rw [ht] at this; cases this
  ·cases hx'; have := (hoth j e t bb hne hj' hx).2; rw [ht] at this; cases this
  ·exact h.inj j k e e' x bb bb' hj' hk' hx hx'
theorem Own0.del {H0 H : Heap} {L : List En} (h : Own0 H0 L H) (i : Nat) {id : Nat} {b : Blk} (hi : L[i]? = some (.blk id b)) : Own0 H0 (L.eraseIdx i) (upd H id none) := by
 have hid := h.has i _ id b hi rfl
 have look : ∀ (j : Nat) e, (L.eraseIdx i)[j]? = some e → ∃ j', j' ≠ i ∧ L[j']? = some e ∧ (j' = if j < i then j else j + 1) := fun j e hj => by
  rw [List.getElem?_eraseIdx] at hj
  split at hj
  ·rename_i hlt; exact ⟨j, by omega, hj, by rw [if_pos hlt]⟩
  ·rename_i hlt; exact ⟨j + 1, by omega, hj, by rw [if_neg hlt]⟩
 refine ⟨fun x bb hx => ?_, fun j e x bb hj hx => ?_, fun j k e e' x bb bb' hj hk hx hx' => ?_, fun x bb hx => ?_⟩
 rotate_right
 ·by_cases hxi : x = id
  ·subst hxi; rw [upd_same] at hx; cases hx
  ·rw [upd_other _ _ hxi] at hx
   refine (h.only x bb hx).imp (fun h => h) fun ⟨j, e, h1, h2⟩ => ?_
   have hji : j ≠ i := fun eq => by subst eq; rw [hi] at h1; cases h1; cases h2; exact hxi rfl
   rcases Nat.lt_or_ge j i with hlt | hge
   ·exact ⟨j, e, by rw [List.getElem?_eraseIdx, if_pos hlt]; exact h1, h2⟩
   ·exact ⟨j - 1, e, by rw [List.getElem?_eraseIdx, if_neg (by omega), show j - 1 + 1 = j by omega]; exact h1, h2⟩
 ·rw [upd_other _ _ (ne_of_none hid.1 hx)]; exact h.ext x bb hx
 ·obtain ⟨j', hne, hj', _⟩ := look j e hj
  have := h.has j' e x bb hj' hx
  have hxid : x ≠ id := fun eq => by subst eq; exact hne (h.inj j' i e _ x bb b hj' hi hx rfl)
  exact ⟨this.1, by rw [upd_other _ _ hxid]; exact this.2⟩
 ·obtain ⟨j', hne, hj', ej⟩ := look j e hj
  obtain ⟨k', hne', hk', ek⟩ := look k e' hk
  have := h.inj j' k' e e' x bb bb' hj' hk' hx hx'
  rw [ej, ek] at this
  split at this <;> split at this <;> omega
def dropEn (H : Heap) (e : En) : Heap :=
 match e.id with
 | some (id, _) => upd H id none
 | none => H
theorem Own0.tail {H0 H : Heap} {L : List En} {e : En} (h : Own0 H0 (e :: L) H) : Own0 H0 L (dropEn H e) := by
 have inj0 : ∀ (j : Nat) e' x b b', L[j]? = some e' → e'.id = some (x, b) → e.id = some (x, b') → False := fun j e' x b b' hj hx hx' => by
  have := h.inj (j + 1) 0 e' e x b b' (by simpa using hj) (by simp) hx hx'
  omega
 cases he : e.id with
 | none =>
  have ed : dropEn H e = H := by simp only [dropEn, he]
  rw [ed]
  refine ⟨h.ext, fun i e id b hi => h.has (i + 1) e id b (by simpa using hi), fun i j e e' id b b' hi hj he he' => ?_, fun x b hx => (h.only x b hx).imp (fun h => h) fun ⟨i, e', h1, h2⟩ => ?_⟩
  ·have := h.inj (i + 1) (j + 1) e e' id b b' (by simpa using hi) (by simpa using hj) he he'
   omega
  ·cases i with
   | zero => simp at h1; subst h1; rw [he] at h2; cases h2
   | succ i => exact ⟨i, e', by simpa using h1, h2⟩
 | some p =>
  obtain ⟨id, b0⟩ := p
  have ed : dropEn H e = upd H id none := by simp only [dropEn, he]
  rw [ed]
  have hid := h.has 0 e id b0 (by simp) he
  refine ⟨fun x b hx => ?_, fun i e' x b hi hx => ?_, fun i j e e' id b b' hi hj he he' => ?_, fun x b hx => ?_⟩
  ·rw [upd_other _ _ (ne_of_none hid.1 hx)]; exact h.ext x b hx
  ·have := h.has (i + 1) e' x b (by simpa using hi) hx
   have hne : x ≠ id := fun eq => by subst eq; exact inj0 i e' x b b0 hi hx he
   exact ⟨this.1, by rw [upd_other _ _ hne]; exact this.2⟩
  ·have := h.inj (i + 1) (j + 1) e e' id b b' (by simpa using hi) (by simpa using hj) he he'
   omega
  ·by_cases hxi : x = id
   ·subst hxi; rw [upd_same] at hx; cases hx
   ·rw [upd_other _ _ hxi] at hx
    refine (h.only x b hx).imp (fun h => h) fun ⟨i, e', h1, h2⟩ => ?_
    cases i with
    | zero => simp at h1; subst h1; rw [he] at h2; cases h2; exact absurd rfl hxi
    | succ i => exact ⟨i, e', by simpa using h1, h2⟩
theorem HLe.upd {H H' : Heap} (h : HLe H H') (id : Nat) (b : Option Blk) : HLe (upd H id b) (upd H' id b) := fun x bb hx => by
 by_cases e : x = id
 ·subst e; rw [upd_same] at hx ⊢; exact hx
 ·rw [upd_other _ _ e] at hx ⊢; exact h x bb hx
theorem HLe.less {H H' : Heap} (h : HLe H H') (id : Nat) : HLe (Go.Ab.upd H id none) H' := fun x bb hx => by
 by_cases e : x = id
 ·subst e; rw [upd_same] at hx; cases hx
 ·rw [upd_other _ _ e] at hx; exact h x bb hx
theorem HLe.none {H H' : Heap} (h : HLe H H') {id : Nat} (hn : H' id = none) : H id = none := by
 cases e : H id with
 | none => rfl
 | some b => rw [h id b e] at hn; cases hn
theorem stable_eq : Stable (Eq : Heap → Heap → Prop) := ⟨fun h id b hb => h ▸ hb, fun id b h _ => by subst h; rfl⟩
def Own (Φ : Heap → Heap → Prop) (F : Heap) (L : List En) (H : Heap) : Prop := Stable Φ ∧ ∃ F' H1, Own0 F L F' ∧ Φ F' H1 ∧ HLe H1 H
section
variable {Φ : Heap → Heap → Prop} {F H : Heap} {L : List En}
theorem Own.start (hs : Stable Φ) (h : Φ F H) : Own Φ F [] H := ⟨hs, F, H, Own0.start F, h, HLe.refl H⟩
theorem Own.ext (h : Own Φ F L H) : HLe F H := by
 obtain ⟨hs, F', H1, h0, h1, h2⟩ := h
 exact h0.ext.trans fun id b hb => h2 _ _ (hs.le h1 id b hb)
theorem Own.tl0 (h : Own Φ F L H) {t : Tail} (ht : (En.tl t).id = none) : Own Φ F (.tl t :: L) H := by
 obtain ⟨hs, F', H1, h0, h1, h2⟩ := h; exact ⟨hs, F', H1, h0.tl0 ht, h1, h2⟩
theorem Own.push (h : Own Φ F L H) {en : En} {id : Nat} {b : Blk} (hn : H id = none) (he : en.id = some (id, b)) : Own Φ F (en :: L) (upd H id (some b)) := by
 obtain ⟨hs, F', H1, h0, h1, h2⟩ := h
 have hn1 := h2.none hn
 have hn' := hs.fresh h1 hn1
 exact ⟨hs, _, _, h0.push hn' he, hs.chg id (some b) h1 (by rw [hn1, hn']), h2.upd id _⟩
theorem Own.get (h : Own Φ F L H) (i : Nat) {id : Nat} {b : Blk} (hi : L[i]? = some (.blk id b)) : H id = some b := by
 obtain ⟨hs, F', H1, h0, h1, h2⟩ := h; exact h2 _ _ (hs.le h1 _ _ (h0.get i hi))
theorem Own.set (h : Own Φ F L H) (i : Nat) {id : Nat} {b b' : Blk} (hi : L[i]? = some (.blk id b)) : Own Φ F (L.set i (.blk id b')) (upd H id (some b')) := by
 obtain ⟨hs, F', H1, h0, h1, h2⟩ := h
 have e := h0.get i hi
 exact ⟨hs, _, _, h0.set i hi, hs.chg id _ h1 (by rw [e, hs.le h1 _ _ e]), h2.upd id _⟩
theorem Own.del (h : Own Φ F L H) (i : Nat) {id : Nat} {b : Blk} (hi : L[i]? = some (.blk id b)) : Own Φ F (L.eraseIdx i) (upd H id none) := by
 obtain ⟨hs, F', H1, h0, h1, h2⟩ := h
 have e := h0.get i hi
 exact ⟨hs, _, _, h0.del i hi, hs.chg id _ h1 (by rw [e, hs.le h1 _ _ e]), h2.upd id _⟩
theorem Own.tail {e : En} (h : Own Φ F (e :: L) H) : Own Φ F L H := by
 obtain ⟨hs, F', H1, h0, h1, h2⟩ := h
 cases he : e.id with
 | none =>
  have := h0.tail
  simp only [dropEn, he] at this
  exact ⟨hs, _, _, this, h1, h2⟩
 | some p =>
  obtain ⟨id, b⟩ := p
  have h3 := h0.tail
  simp only [dropEn, he] at h3
  have e1 := (h0.has 0 e id b (by simp) he).2
  exact ⟨hs, _, _, h3, hs.chg id none h1 (by rw [e1, hs.le h1 _ _ e1]), h2.less id⟩
theorem Own.tok (h : Own Φ F L H) (i : Nat) {tl : Tail} (hi : L[i]? = some (.tl tl)) {t : Nat} (ht : dropTok H tl t = none) : Own Φ F (L.set i (.tl (.tok t))) (upd (dropTok H tl) t (some .spare)) := by
 obtain ⟨hs, F', H1, h0, h1, h2⟩ := h
 have h3 : Φ (dropTok F' tl) (dropTok H1 tl) := by
  cases tl with
  | tok t' =>
   have e := (h0.has i _ t' _ hi rfl).2
   exact hs.chg t' none h1 (by rw [e, hs.le h1 _ _ e])
  | _ => exact h1
 have h4 : HLe (dropTok H1 tl) (dropTok H tl) := by
  cases tl with
  | tok t' => exact h2.upd t' none
  | _ => exact h2
 have ht1 := h4.none ht
 have ht' := hs.fresh h3 ht1
 exact ⟨hs, _, _, h0.tok i hi ht', hs.chg t _ h3 (by rw [ht1, ht']), h4.upd t _⟩
theorem Own.stable (hs : Stable Φ) (L : List En) : Stable fun F H => Own Φ F L H := by
 refine ⟨fun h id b hb => h.ext id b hb, fun {F H} id b h e => ?_⟩
 obtain ⟨hs, F', H1, h0, h1, h2⟩ := h
 have hne : ∀ (i : Nat) en x bb, L[i]? = some en → en.id = some (x, bb) → x ≠ id := fun i en x bb hi he eq => by
  subst eq
  have h3 := h0.has i en x bb hi he
  have h4 := h2 _ _ (hs.le h1 _ _ h3.2)
  rw [e, h3.1] at h4; cases h4
 have hF' : F' id = F id := by
  cases hf : F id with
  | some x => exact h0.ext id x hf
  | none =>
   cases hf' : F' id with
   | none => rfl
   | some x =>
    rcases h0.only id x hf' with h | ⟨i, en, hi, he⟩
    ·rw [hf] at h; cases h
    ·exact absurd rfl (hne i en id x hi he)
 have hH1 : H1 id = F id := by
  cases hf : F id with
  | some x => rw [← hF'] at hf; exact hs.le h1 id x hf
  | none => rw [hf] at e; exact h2.none e
 refine ⟨hs, upd F' id b, upd H1 id b, ⟨fun x bb hx => ?_, fun i en x bb hi he => ?_, h0.inj, fun x bb hx => ?_⟩, hs.chg id b h1 (by rw [hF', hH1]), h2.upd id b⟩
 ·by_cases hxi : x = id
  ·subst hxi; rw [upd_same] at hx ⊢; exact hx
  ·rw [upd_other _ _ hxi] at hx ⊢; exact h0.ext x bb hx
 ·have := h0.has i en x bb hi he
  have hxi := hne i en x bb hi he
  rw [upd_other _ _ hxi, upd_other _ _ hxi]; exact this
 ·by_cases hxi : x = id
  ·subst hxi; rw [upd_same] at hx ⊢; exact .inl hx
  ·rw [upd_other _ _ hxi] at hx ⊢; exact h0.only x bb hx
theorem Own.out : ∀ {L : List En}, Own Φ F L H → ∃ H1, Φ F H1 ∧ HLe H1 H
 | [], h => by
  obtain ⟨hs, F', H1, h0, h1, h2⟩ := h
  have : F' = F := by
   funext x
   cases hf : F' x with
   | some b =>
    rcases h0.only x b hf with h | ⟨i, e, hi, _⟩
    ·exact h.symm
    ·simp at hi
   | none => exact (h0.free hf).symm
  subst this
  exact ⟨H1, h1, h2⟩
 | _ :: L, h => Own.out (L := L) h.tail
end
theorem Stable.ex {ι : Type} {p : ι → Prop} {I : ι → Heap → Heap → Prop} (h : ∀ i, Stable (I i)) : Stable fun F H => ∃ i, p i ∧ I i F H :=
 ⟨fun ⟨i, _, hi⟩ => (h i).le hi, fun id b ⟨i, hp, hi⟩ e => ⟨i, hp, (h i).chg id b hi e⟩⟩
theorem Stable.con {p : Prop} {I : Heap → Heap → Prop} (h : Stable I) : Stable fun F H => p ∧ I F H :=
 ⟨fun ⟨_, hi⟩ => h.le hi, fun id b ⟨hp, hi⟩ e => ⟨hp, h.chg id b hi e⟩⟩
def Appn : Tail → Prop
 | .ro => False
 | _ => True
theorem Own.appOk {Φ : Heap → Heap → Prop} {F H : Heap} {L : List En} (h : Own Φ F L H) (i : Nat) {tl : Tail} (hi : L[i]? = some (.tl tl)) (ha : Appn tl) : AppOk H tl := by
 obtain ⟨hs, F', H1, h0, h1, h2⟩ := h
 cases tl with
 | tok t => exact h2 _ _ (hs.le h1 _ _ (h0.has i _ t _ hi rfl).2)
 | nil => trivial
 | full => trivial
 | ro => exact ha
end Go.Ab

