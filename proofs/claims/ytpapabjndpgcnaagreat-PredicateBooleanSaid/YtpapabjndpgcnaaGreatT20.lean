/- AbP3 AbA24 -/
import Derived.Test.YtpapabjndpgcnaaGreatT19
import Derived.Test.YtpapabjndpgcnaaGreatT18
set_option linter.all false

namespace Go.Ab
open Go.RowKit
variable [Glob] [Ar]
noncomputable def lenR (xs : List V) : Int := List.rec (motive := fun _ => Int) 0 (fun _ _ n => n + 1) xs
theorem lenR_eq (xs : List V) : lenR xs = (xs.length : Nat) := by
 induction xs with
 | nil => rfl
 | cons x xs ih =>
  have e : lenR (x :: xs) = lenR xs + 1 := rfl
  rw [e, ih]; simp
def drawOkA (ops : Array Oper) (k : Nat) : Bool :=
 k + 3 < ops.size && (List.range ops.size).all fun i =>
  backward (ops.getD i default) i &&
   (List.range i).all fun j => (i < k && indep ops (ops.getD j default) (ops.getD i default)) || reach ops rdep i j || (i == k + 3 && decide (k < j))
theorem drawOkA_at {ops : Array Oper} {k : Nat} (h : drawOkA ops k = true) : k + 3 < ops.size ∧ ∀ i, i < ops.size → backward (ops.getD i default) i = true ∧
 ∀ j, j < i → (reach ops rdep i j = true ∨ (i < k ∧ indep ops (ops.getD j default) (ops.getD i default) = true)) ∨ (i = k + 3 ∧ k < j) := by
 simp only [drawOkA, Bool.and_eq_true, decide_eq_true_eq, List.all_eq_true, List.mem_range, Bool.or_eq_true, beq_iff_eq] at h
 exact ⟨h.1, fun i hi => ⟨(h.2 i hi).1, fun j hj => ((h.2 i hi).2 j hj).imp Or.symm id⟩⟩
def neT (x : Operand) (t : Nat) : Bool :=
 match x with
 | .tmp u => !Nat.beq u t
 | _ => true
theorem neT_ok {x : Operand} {t : Nat} (h : neT x t = true) : x ≠ .tmp t := by
 intro e; subst e; simp [neT] at h
def isNone {α : Type} : Option α → Bool
 | none => true
 | some _ => false
theorem isNone_ok {α : Type} {o : Option α} (h : isNone o = true) : o = none := by
 cases o <;> simp [isNone] at h; rfl
def apPat (nt k : Nat) (ops : Array Oper) : Option ApPat :=
 match (ops.getD k default).op, (ops.getD k default).dst, (ops.getD (k + 1) default).op, (ops.getD (k + 1) default).dst, (ops.getD (k + 2) default).op, (ops.getD (k + 3) default).op with
 | .call { callee := .builtin .append, args := ⟨[sx, sy]⟩, argTypes := ⟨[sT, yT]⟩ }, some tA, .indexAddr t2 (.tmp tA2) nn, some tI, .store eT (.tmp tI2) zz, .store t3 (.tmp tp) (.tmp tA3) =>
  if (Nat.beq tA2 tA && Nat.beq tA3 tA && Nat.beq tI2 tI && isNone (ops.getD k default).guard && isNone (ops.getD (k + 1) default).guard && isNone (ops.getD (k + 2) default).guard && isNone (ops.getD (k + 3) default).guard &&
   isNone (ops.getD (k + 2) default).dst && isNone (ops.getD (k + 3) default).dst && !Nat.beq tA tI && !Nat.beq tp tA && !Nat.beq tp tI && neT nn tA && neT zz tA && neT zz tI && Nat.ble (tA + 1) nt && Nat.ble (tI + 1) nt) = true then
   some ⟨sx, sy, nn, zz, sT, yT, t2, eT, t3, tA, tI, tp⟩ else none
 | _, _, _, _, _, _ => none
theorem apPat_ok {nt k : Nat} {ops : Array Oper} {p : ApPat} (hl : k + 3 < ops.size) (h : apPat nt k ops = some p) : ApOk ops nt k p := by
 unfold apPat at h
 split at h
 ·rename_i sx sy sT yT tA t2 tA2 nn tI eT tI2 zz t3 tp tA3 e1 e2 e3 e4 e5 e6
  rw [Option.ite_none_right_eq_some] at h
  obtain ⟨hc, h⟩ := h
  cases h
  simp only [Bool.and_eq_true, Bool.not_eq_true'] at hc
  obtain ⟨⟨⟨⟨⟨⟨⟨⟨⟨⟨⟨⟨⟨⟨⟨⟨c1, c2⟩, c3⟩, c4⟩, c5⟩, c6⟩, c7⟩, c8⟩, c9⟩, c10⟩, c11⟩, c12⟩, c13⟩, c14⟩, c15⟩, c16⟩, c17⟩ := hc
  have f1 := Nat.eq_of_beq_eq_true c1
  have f2 := Nat.eq_of_beq_eq_true c2
  have f3 := Nat.eq_of_beq_eq_true c3
  subst f1; subst f2; subst f3
  have ne : ∀ {a b : Nat}, Nat.beq a b = false → a ≠ b := fun h e => by subst e; rw [Nat.beq_refl] at h; cases h
  exact ⟨hl, e1, e2, isNone_ok c4, e3, e4, isNone_ok c5, e5, isNone_ok c8, isNone_ok c6, e6, isNone_ok c9, isNone_ok c7, ne c10, ne c11, ne c12, neT_ok c13, neT_ok c14, neT_ok c15, Nat.le_of_ble_eq_true c16, Nat.le_of_ble_eq_true c17⟩
 ·cases h
section
variable {P : Program} {nt : Nat} {ops : Array Oper} {H0 : Heap}
def AppT (P : Program) (nt : Nat) (A : Ann) (ops : Array Oper) (k : Nat) (p : ApPat) (fr : Fr) (H : Heap) (K : Fr → Heap → Prop) : Prop :=
 ∃ (xs : List V) (tl tl' : Tail) (y0 vV z : V) (kk : IntKind) (e : TypeId) (sz by_ idp offp : Nat),
  LeV (ev fr p.sx) (.sl xs tl) ∧ ev fr p.sy = .sl [y0] tl' ∧ y0.cells.length = sz ∧ ev fr p.nn = .int kk (xs.length : Nat) ∧ LeV (ev fr p.zz) vV ∧ vV.one = true ∧ vV.cells.length = sz ∧
  slO P p.sT = some e ∧ (slO P p.yT).isSome = true ∧ slO P p.t2 = some e ∧ szO P e = some sz ∧ szO P p.eT = some sz ∧ 0 < sz ∧ byO P e = some by_ ∧ 0 < by_ ∧ zeO P e = some z ∧ z.one = true ∧ z.cells.length = sz ∧ AppOk H tl ∧
  xs.all (fun x => x.cells.length == sz) = true ∧ (xs.length + 1) * by_ ≤ 140737488355328 ∧ fr.s p.tp = .ref idp offp ∧ szO P p.t3 = some 1 ∧
  ∀ t, dropTok H tl t = none → ∃ cs, upd (dropTok H tl) t (some .spare) idp = some (.cells cs) ∧ offp + 1 ≤ cs.length ∧
   opsA P A nt ops (ops.toList.drop (k + 4)) ((fr.put (some p.tA) (.sl (xs ++ [vV]) (.tok t))).put (some p.tI) .bad) (upd (upd (dropTok H tl) t (some .spare)) idp (some (.cells (splice cs offp [.sl (xs ++ [vV]) (.tok t)])))) K
theorem Sim.appF {A : Ann} {rd : Option Nat} {id k : Nat} {p : ApPat} {fr : Fr} {Q : Exit → Fr → Heap → Prop} (hm : P.follows .mixedOrders = true) (hok : drawOkA ops k = true) (hp : ApOk ops nt k p)
 (h : drawB P nt ops H0 (ops.toList.take k) fr (fun _ => none) fun fr' pv => (∀ x, pv x = none) ∧ AppT P nt A ops k p fr' H0 (Q .normal)) : Sim P nt rd (.region id ops true) fr H0 Q := by
 intro r g w a _ hR hF
 refine wpIn_region_any hm ?_
 obtain ⟨hk3, hat⟩ := drawOkA_at hok
 have hk : k ≤ ops.size := by omega
 have sd : Stp g w g w.drew := ⟨fun _ _ e => e, fun _ _ e => e, fun _ _ e => e, rfl, fun _ _ _ => rfl, (Below.refl _ _).drew, fun _ _ _ => rfl⟩
 have hRd : Rl g H0 w.drew := by
  refine ⟨fun id b hb => (hR.blk id b hb).mono hb sd fun _ _ => ⟨rfl, fun _ ho => ho⟩, hR.inj, hR.frz, hR.nxt, hR.bnd, fun n => (hR.glb n).mono sd⟩
 have hI : DInv nt H0 g w.drew fr (fun _ => none) g w.drew a :=
  ⟨H0, fun _ => 0, Stp.refl _ _, hRd, hF.mono sd, fun _ _ h => h, fun d cs h => (by cases h), fun d d' cs cs' h => (by cases h), fun _ => none, fun d cs h => (by cases h), fun d d' cs cs' t h => (by cases h), fun cs h => (by cases h)⟩
 have hmap : (List.range k).map (fun i => ops.getD i default) = ops.toList.take k := by
  apply List.ext_getElem
  ·simp; omega
  ·intro i h1 h2
   simp at h1
   simp [Array.getD, show i < ops.size by omega]
 have hb := body_any (r := r) (Q := End nt g w Q) hk (fun i hi => ⟨(hat i hi).1, fun j hj => by
  rcases (hat i hi).2 j hj with h | h
  ·exact h.imp (fun h => h) .inl
  ·exact .inr (.inr (by omega))⟩) (K := fun fr' pv => (∀ x, pv x = none) ∧ AppT P nt A ops k p fr' H0 (Q .normal)) (g0 := g) (w0 := w.drew)
  (fun g' w' a' fr' pv listed hsz hl hI' hK => ?_) k (List.range k) (Array.replicate ops.size false) fr (fun _ => none) (by simp) (List.pairwise_lt_range) (fun i hi => by simpa using hi) (by simp) (fun i b hi => by simp [Array.getD, hi]) (fun m j hm _ => by simp [Array.getD] at hm) (by rw [hmap]; exact h) g w.drew a hI
 ·rw [show k + (ops.size - k) = ops.size by omega] at hb
  exact hb
 ·obtain ⟨H, ids, s, hR', hF', hext, hpv, hinj, _⟩ := hI'
  obtain ⟨_, xs, tl, tl', y0, vV, z, kk, e, sz, by_, idp, offp, b1, b2, b3, b4, b5, b6, b7, b8, b9, b10, b11, b12, b13, b14, b15, b16, b17, b18, b19, b20, b21, b22, b23, b24⟩ := hK
  have hR0 := hR'.less hext
  have hfresh : dropTok H0 tl g'.nx = none := by
   have := (hR0.nxt _ (Nat.le_refl _)).2.2
   cases hd : dropTok H0 tl g'.nx with
   | none => rfl
   | some b => rw [dropTok_some hd] at this; cases this
  obtain ⟨cs, c1, c2, _⟩ := b24 _ hfresh
  have hlc : LC ops listed fun i => decide (i < k) := ⟨hsz, hl, fun m j hm hj => by
   have hms : m < ops.size := by
    rcases Nat.lt_or_ge m ops.size with h | h
    ·exact h
    ·simp [Array.getD, show ¬ m < listed.size by omega] at hm
   rw [hl m false hms] at hm
   simp only [decide_eq_true_eq] at hm
   have hbw := (hat m hms).1
   simp only [backward, Array.all_eq_true] at hbw
   simp only [edgeTo, Array.any_eq_true, Bool.and_eq_true, beq_iff_eq] at hj
   obtain ⟨x, hx, rfl, hbx⟩ := hj
   have := hbw x hx
   simp only [hbx, Bool.not_true, Bool.false_or, decide_eq_true_eq] at this
   rw [hl _ false (by omega)]
   simp only [decide_eq_true_eq]; omega⟩
  have hidp : ∀ t cs, dropTok H0 tl t = none → upd (dropTok H0 tl) t (some .spare) idp = some (.cells cs) → H0 idp = some (.cells cs) := fun t cs ht h => by
   by_cases e : idp = t
   ·subst e; rw [upd_same] at h; cases h
   ·rw [upd_other _ _ e] at h; exact dropTok_some h
  have hUc := hidp _ _ hfresh c1
  exact app_tail (A := A) (r := r) (K := Q .normal) (g0 := g) (w0 := w) hp (fun i hi => ⟨(hat i hi).1, fun j hj => by
   rcases (hat i hi).2 j hj with (h | h) | h
   ·exact .inl h
   ·exact .inr (.inl h.1)
   ·exact .inr (.inr h)⟩)
   (fun g3 w3 a3 fr3 H3 s3 hR3 hF3 hK3 => ⟨g3, fr3, H3, s3, hR3, hF3, hK3⟩) hlc b1 b2 b3 b4 b5 b6 b7 b8 b9 b10 b11 b12 b13 b14 b15 b16 b17 b18 b19 b20 b21 b22 hUc b23 c2
   (fun t ht => by
    obtain ⟨cs', d1, d2, d3⟩ := b24 t ht
    have := hidp _ _ ht d1
    rw [hUc] at this
    cases this
    exact d3) g' w' a' (sd.trans s) hR0 hF'
end
section
variable (E : Env) (T : Tbl) (nt : Nat) (A : Nat → Bool)
def xappT (k : Nat) (p : ApPat) (ops : Array Oper) (l : Fl) (H : Heap) (K : Fl → Heap → Prop) : Prop :=
 match (evS [] l p.sx).V, (evS [] l p.sy).V, (evS [] l p.nn).V, lk l p.tp with
 | .sl xs tl, .sl [y0] _, .int _ m, .v (.ref idp offp) =>
  (match tg T p.sT, tg T p.yT, tg T p.t2, tg T p.eT, tg T p.t3 with
   | some I, some I2, some I3, some I4, some I5 =>
    (match I.sl, I2.sl, I3.sl with
     | some e, some _, some e3 =>
      (match tg T e with
       | some J =>
        (match J.ze with
         | some z =>
          if 0 < J.sz ∧ 0 < J.by_ ∧ z.one = true ∧ z.cells.length = J.sz ∧ e3 = e ∧ I4.sz = J.sz ∧ I5.sz = 1 ∧ y0.cells.length = J.sz ∧ (evS [] l p.zz).V.one = true ∧ (evS [] l p.zz).V.cells.length = J.sz then
           E.need (m = lenR xs) fun _ =>
           E.appn J.sz J.by_ H tl xs [(evS [] l p.zz).V] fun r H' => E.store H' idp offp 1 [r] fun H'' => xtail E T nt A ops (ops.toList.drop (k + 4)) ((p.tI, .v .bad) :: (p.tA, .v r) :: l) H'' K
          else False
         | none => False)
       | none => False)
     | _, _, _ => False)
   | _, _, _, _, _ => False)
 | _, _, _, _ => False
def xapp (k : Nat) (ops : Array Oper) (l : Fl) (H : Heap) (K : Fl → Heap → Prop) : Prop :=
 match apPat nt k ops with
 | some p => xdB E T nt A [] ops (ops.toList.take k) l [] none [] none H fun l' pv pe tk => (match pv, pe, tk with | [], none, [] => xappT E T nt A k p ops l' H K | _, _, _ => False)
 | none => False
end
section
variable {P : Program} {nt : Nat} {rd : Option Nat} {T : Tbl} {A : Nat → Bool} {df : List Nat}
theorem xapp_sound (hT : TOk P T) {k : Nat} {ops : Array Oper} {l : Fl} {H : Heap} {K : Fl → Heap → Prop} {id : Nat} (hm : P.follows .mixedOrders = true) (hok : drawOkA ops k = true)
 (h : xapp (real P nt rd) T nt A k ops l H K) : Sim P nt rd (.region id ops true) (frOf ⟨l, df⟩) H fun e fr H' => e = .normal ∧ ∃ l', fr = frOf ⟨l', df⟩ ∧ K l' H' := by
 unfold xapp at h
 split at h
 ·rename_i p hpat
  have hp := apPat_ok (drawOkA_at hok).1 hpat
  refine Sim.appF (A := A) hm hok hp ?_
  have e0 : (fun _ => none : Pv) = pvOf [] none [] none := by funext x; cases x <;> rfl
  rw [e0]
  refine drawB_mono (fun fr pv ⟨l', pl, pe', tk', ex', e1, e2, e4, e3, h⟩ => ?_) _ _ _ (xdB_sound (df := df) hT _ _ _ _ _ _ h)
  cases e4 rfl
  subst e1; subst e2
  split at h
  ·refine ⟨fun x => by cases x <;> rfl, ?_⟩
   unfold xappT at h
   split at h
   ·rename_i xs tl y0 tl' kk m idp offp hx hy hn htp
    split at h
    ·rename_i I I2 I3 I4 I5 h1 h2 h3 h4 h5
     split at h
     ·rename_i e e2 e3' q1 q2 q3
      split at h
      ·rename_i J hJ
       split at h
       ·rename_i z hz
        have ez := (tg_ok hT hJ).ze; rw [hz] at ez; simp only [optOk] at ez
        split at h
        ·rename_i hc
         obtain ⟨c1, c2, c3, c4, c5, c6, c7, c8, c9, c10⟩ := hc
         obtain ⟨hm', xs', ys', a1, a2, a3, a4, a5, a6, a7, a8⟩ := h
         have E' : ∀ x, (evS [] l' x).V = ev (frOf ⟨l', df⟩) x := fun x => evS_ev Gok.nil x
         rw [E'] at hx hy hn c9 c10
         rw [E'] at a2
         obtain ⟨vV, rfl, hle⟩ : ∃ vV, ys' = [vV] ∧ LeV (ev (frOf ⟨l', df⟩) p.zz) vV := by
          cases a2 with
          | cons q r => cases r; exact ⟨_, rfl, q⟩
         have hl := a1.length
         refine ⟨xs', tl, tl', y0, vV, z, kk, e, J.sz, J.by_, idp, offp, by rw [hx]; exact .slt _ a1, hy, c8, by rw [hn, hm', lenR_eq, hl], hle, hle.one c9, by rw [← hle.cells.length]; exact c10,
          (tg_ok hT h1).sl.trans q1, by rw [(tg_ok hT h2).sl, q2]; rfl, by rw [(tg_ok hT h3).sl, q3, c5], (tg_ok hT hJ).sz, by rw [(tg_ok hT h4).sz, c6], c1, (tg_ok hT hJ).by_, c2, ez, c3, c4, a3, a4, by simpa using a6,
          lkV_lk l' p.tp _ htp (fun _ _ _ h => by cases h), by rw [(tg_ok hT h5).sz, c7], fun t ht => ?_⟩
         obtain ⟨cs, g1, g2, g3⟩ := a8 t (by simp) ht
         refine ⟨cs, g1, Nat.le_of_ble_eq_true g2, ?_⟩
         have := xtail_sound (df := df) hT _ _ _ g3
         have ef : frOf ⟨(p.tI, .v .bad) :: (p.tA, .v (.sl (xs' ++ [vV]) (.tok t))) :: l', df⟩ = ((frOf ⟨l', df⟩).put (some p.tA) (.sl (xs' ++ [vV]) (.tok t))).put (some p.tI) .bad := by
          have e1 := frOf_put (df := df) ((p.tA, .v (.sl (xs' ++ [vV]) (.tok t))) :: l') (some p.tI) (.v .bad)
          have e2 := frOf_put (df := df) l' (some p.tA) (.v (.sl (xs' ++ [vV]) (.tok t)))
          simp only [putl] at e1 e2
          rw [e1, e2]; rfl
         rw [ef] at this
         exact opsA_mono (fun fr H' ⟨l'', e, hk⟩ => ⟨rfl, l'', e, hk⟩) _ _ _ this
        ·exact h.elim
       ·exact h.elim
      ·exact h.elim
     ·exact h.elim
    ·exact h.elim
   ·exact h.elim
  ·exact h.elim
 ·exact h.elim
end
end Go.Ab

namespace Go.Ab
open Go.RowKit
variable [Glob] [Ar]
def memN : List Nat → Nat → Bool
 | [], _ => false
 | x :: l, n => match n == x with | true => true | false => memN l n
def getN : List (Nat × Nat) → Nat → Nat
 | [], _ => 0
 | (x, y) :: l, n => match Nat.beq n x with | true => y | false => getN l n
structure Cf where
 A : List Nat
 hk : List (Nat × Nat)
 J : List (Nat × Nat)
 JB : List Nat
 Z : List (Nat × Nat)
 W : List (Nat × Nat × List Nat)
def wAt : List (Nat × Nat × List Nat) → Nat → Option (Nat × List Nat)
 | [], _ => none
 | (q, d) :: l, n => match Nat.beq n q with | true => some d | false => wAt l n
def zAt : List (Nat × Nat) → Nat → List Nat
 | [], _ => []
 | (q, d) :: l, n => match Nat.beq n q with | true => d :: zAt l n | false => zAt l n
def memP : List (Nat × Nat) → Nat → Nat → Bool
 | [], _, _ => false
 | (x, y) :: l, a, b => match Nat.beq a x && Nat.beq b y with | true => true | false => memP l a b
def fReg : Code → Nat
 | .region id _ _ => id + 1
 | .seq a b => (match fReg a with | 0 => fReg b | n + 1 => n + 1)
 | .cond _ a b => (match fReg a with | 0 => fReg b | n + 1 => n + 1)
 | .block _ c => fReg c
 | .loop c => fReg c
 | .rangeFunc _ _ a b => (match fReg a with | 0 => fReg b | n + 1 => n + 1)
 | _ => 0
def drawsOk (cf : Cf) : Code → Bool
 | .seq a b => drawsOk cf a && drawsOk cf b
 | .cond _ a b => drawsOk cf a && drawsOk cf b
 | .block _ c => drawsOk cf c
 | .loop c => drawsOk cf c
 | .rangeFunc _ _ a b => drawsOk cf a && drawsOk cf b
 | .region id ops true => match memN cf.JB (id + 1000000) with | true => drawOkA ops (getN cf.hk id) | false => drawOk ops (getN cf.hk id) && decide (allocsOf (ops.toList.take (getN cf.hk id))).Nodup
 | _ => true
section
variable (E : Env) (T : Tbl) (nt : Nat) (cf : Cf)
def condX (c : Operand) (st : St) (ra rb : St → Prop) : Prop :=
 match evS [] st.l c with
 | .b true => ra st
 | .b false => rb st
 | .v (.bool t) =>
  (match c with
   | .tmp d => E.br t (fun _ => ra ⟨setK st.l d true, st.df⟩) (fun _ => rb ⟨setK st.l d false, st.df⟩)
   | _ => E.br t (fun _ => ra st) (fun _ => rb st))
 | _ => False
def blockK (id : Nat) (K : Exit → St → Heap → Prop) (e : Exit) (st' : St) (H' : Heap) : Prop :=
 match e with
 | .exit id' => (match Nat.beq id' id with | true => K .normal st' H' | false => K (.exit id') st' H')
 | e => K e st' H'
def meetC (c : Operand) (a b : Code) : Bool :=
 match c with
 | .tmp d => memP cf.J d (match fReg a with | 0 => fReg b | n + 1 => n + 1)
 | _ => false
def run : Code → St → Heap → (Exit → St → Heap → Prop) → Prop
 | .skip, st, H, K => K .normal st H
 | .ret, st, H, K => K .ret st H
 | .exit id, st, H, K => K (.exit id) st H
 | .seq a b, st, H, K => run a st H fun e st' H' => match e with | .normal => run b st' H' K | e => K e st' H'
 | .cond c a b, st, H, K =>
  (match meetC cf c a b with
   | true => E.sim (.cond c a b) st H K
   | false => condX E c st (fun st => run a st H K) (fun st => run b st H K))
 | .block id c, st, H, K =>
  (match memN cf.JB id with
   | true => E.sim (.block id c) st H K
   | false => run c st H (blockK id K))
 | .region _ ops false, st, H, K => xops E T nt (memN cf.A) (zAt cf.Z) ops ops.toList st.l H fun l' H' => K .normal ⟨l', st.df⟩ H'
 | .region id ops true, st, H, K =>
  (match memN cf.JB (id + 1000000) with
   | true => xapp E T nt (memN cf.A) (getN cf.hk id) ops st.l H fun l' H' => K .normal ⟨l', st.df⟩ H'
   | false => xdraw E T nt (memN cf.A) (wAt cf.W id) (getN cf.hk id) ops st.l H fun l' H' => K .normal ⟨l', st.df⟩ H')
 | c, st, H, K => E.sim c st H K
def runJ : Code → St → Heap → (Exit → St → Heap → Prop) → Prop
 | .cond c a b, st, H, K => condX E c st (fun st => run E T nt cf a st H K) (fun st => run E T nt cf b st H K)
 | .block id c, st, H, K => run E T nt cf c st H (blockK id K)
 | c, st, H, K => run E T nt cf c st H K
end
section
variable {P : Program} {nt : Nat} {rd : Option Nat} {T : Tbl} {cf : Cf}
theorem Sim.frLe {c : Code} {fr : Fr} {st : St} {H : Heap} {Q : Exit → Fr → Heap → Prop} (hf : FrLe fr st) (h : Sim P nt rd c (frOf st) H Q) : Sim P nt rd c fr H Q :=
 h.less hf.s hf.df.symm fun _ _ h => h
theorem FrLe.refl (st : St) : FrLe (frOf st) st := ⟨fun _ => Wk.refl _, rfl⟩
theorem condX_sound {c : Operand} {a b : Code} {st : St} {H : Heap} {Q : Exit → Fr → Heap → Prop} {ra rb : St → Prop} (h : condX (real P nt rd) c st ra rb) (ha : ∀ st', frOf st' = frOf st → ra st' → Sim P nt rd a (frOf st') H Q) (hb : ∀ st', frOf st' = frOf st → rb st' → Sim P nt rd b (frOf st') H Q) : Sim P nt rd (.cond c a b) (frOf st) H Q := by
 have hev : ev (frOf st) c = (evS [] st.l c).V := (evS_ev (df := st.df) Gok.nil c).symm
 unfold condX at h
 split at h
 ·rename_i he
  exact Sim.cond (t := true) (by rw [hev, he]; rfl) (fun _ => ha st rfl h) (fun e => by cases e)
 ·rename_i he
  exact Sim.cond (t := false) (by rw [hev, he]; rfl) (fun e => by cases e) (fun _ => hb st rfl h)
 ·rename_i t he
  split at h
  ·rename_i d
   have he' : lkV st.l d = .bool t := by
    have := opnd_ok (l := st.l) Gok.nil d
    rw [show opnd [] st.l d = .v (.bool t) from he] at this
    exact this.symm
   obtain ⟨h1, h2⟩ := h
   refine Sim.cond (t := t) (by rw [hev, he]; rfl) (fun e => ?_) (fun e => ?_)
   ·subst e
    have ef : frOf ⟨setK st.l d true, st.df⟩ = frOf st := frOf_setK he'
    have := ha _ ef (h1 rfl)
    rwa [ef] at this
   ·subst e
    have ef : frOf ⟨setK st.l d false, st.df⟩ = frOf st := frOf_setK he'
    have := hb _ ef (h2 rfl)
    rwa [ef] at this
  ·obtain ⟨h1, h2⟩ := h
   exact Sim.cond (t := t) (by rw [hev, he]; rfl) (fun e => ha st rfl (h1 e)) (fun e => hb st rfl (h2 e))
 ·exact h.elim
theorem run_sound (hT : TOk P T) (hm : P.follows .mixedOrders = true) : ∀ (c : Code) (st : St) (H : Heap) (K : Exit → St → Heap → Prop), drawsOk cf c = true → run (real P nt rd) T nt cf c st H K → Sim P nt rd c (frOf st) H fun e fr' H' => ∃ st', FrLe fr' st' ∧ K e st' H'
 | .skip, st, H, K, hd, h => Sim.skip ⟨st, FrLe.refl _, h⟩
 | .ret, st, H, K, hd, h => Sim.ret ⟨st, FrLe.refl _, h⟩
 | .exit id, st, H, K, hd, h => Sim.exit ⟨st, FrLe.refl _, h⟩
 | .seq a b, st, H, K, hd, h => by
  simp only [drawsOk, Bool.and_eq_true] at hd
  refine Sim.seq ((run_sound hT hm a st H _ hd.1 h).mono fun e fr' H' ⟨st', hf, hk⟩ => ?_)
  cases e with
  | normal => exact Sim.frLe hf (run_sound hT hm b st' H' K hd.2 hk)
  | _ => exact ⟨st', hf, hk⟩
 | .cond c a b, st, H, K, hd, h => by
  simp only [drawsOk, Bool.and_eq_true] at hd
  unfold run at h
  split at h
  ·exact h
  ·exact condX_sound h (fun st' _ h => run_sound hT hm a st' H K hd.1 h) (fun st' _ h => run_sound hT hm b st' H K hd.2 h)
 | .block id c, st, H, K, hd, h => by
  unfold run at h
  split at h
  ·exact h
  ·refine Sim.block ((run_sound hT hm c st H _ hd h).mono fun e fr' H' ⟨st', hf, hk⟩ => ?_)
   cases e with
   | exit id' =>
    unfold blockK at hk
    dsimp only at hk ⊢
    split at hk
    ·rename_i e; rw [if_pos (Nat.eq_of_beq_eq_true e)]; exact ⟨st', hf, hk⟩
    ·rename_i e
     rw [if_neg (fun x => by subst x; rw [Nat.beq_refl] at e; cases e)]; exact ⟨st', hf, hk⟩
   | _ => exact ⟨st', hf, hk⟩
 | .region id ops false, st, H, K, hd, h => by
  unfold run at h
  intro r g w a hr hR hF
  refine wpIn_region ?_
  have := xops_sound (P := P) (nt := nt) (rd := rd) (T := T) (A := memN cf.A) (Z := zAt cf.Z) (df := st.df) hT (ops := ops) (r := r) (K := fun l' H' => K .normal ⟨l', st.df⟩ H') (Q := End nt g w fun e fr' H' => ∃ st', FrLe fr' st' ∧ K e st' H') (g0 := g) (w0 := w)
   (fun g' w' a' l' H' s hR hF hK => ⟨g', _, H', s, hR, hF, ⟨l', st.df⟩, FrLe.refl _, hK⟩) ops.size 0 st.l H (by omega) (by simpa using h) g w a (Stp.refl _ _) hR hF
  rwa [← List.range_eq_range'] at this
 | .region id ops true, st, H, K, hd, h => by
  cases hj : memN cf.JB (id + 1000000) with
  | true =>
   simp only [drawsOk, hj] at hd
   unfold run at h
   rw [hj] at h
   refine (xapp_sound (df := st.df) hT hm hd h).mono fun e fr H' ⟨he, l', hfr, hk⟩ => ?_
   subst he; subst hfr
   exact ⟨⟨l', st.df⟩, FrLe.refl _, hk⟩
  | false =>
   simp only [drawsOk, hj, Bool.and_eq_true, decide_eq_true_eq] at hd
   unfold run at h
   rw [hj] at h
   refine (xdraw_sound (df := st.df) hT hm hd.1 hd.2 h).mono fun e fr H' ⟨he, l', hfr, hk⟩ => ?_
   subst he; subst hfr
   exact ⟨⟨l', st.df⟩, FrLe.refl _, hk⟩
 | .loop c, st, H, K, hd, h => h
 | .rangeFunc g ps a b, st, H, K, hd, h => h
 | .scope c, st, H, K, hd, h => h
 | .label l, st, H, K, hd, h => h
 | .goto l, st, H, K, hd, h => h
 | .refuse w, st, H, K, hd, h => h
theorem runJ_sound (hT : TOk P T) (hm : P.follows .mixedOrders = true) : ∀ (c : Code) (st : St) (H : Heap) (K : Exit → St → Heap → Prop), drawsOk cf c = true → runJ (real P nt rd) T nt cf c st H K → Sim P nt rd c (frOf st) H fun e fr' H' => ∃ st', FrLe fr' st' ∧ K e st' H'
 | .cond c a b, st, H, K, hd, h => by
  simp only [drawsOk, Bool.and_eq_true] at hd
  unfold runJ at h
  exact condX_sound h (fun st' _ h => run_sound hT hm a st' H K hd.1 h) (fun st' _ h => run_sound hT hm b st' H K hd.2 h)
 | .block id c, st, H, K, hd, h => by
  unfold runJ at h
  refine Sim.block ((run_sound hT hm c st H _ hd h).mono fun e fr' H' ⟨st', hf, hk⟩ => ?_)
  cases e with
  | exit id' =>
   unfold blockK at hk
   dsimp only at hk ⊢
   split at hk
   ·rename_i e; rw [if_pos (Nat.eq_of_beq_eq_true e)]; exact ⟨st', hf, hk⟩
   ·rename_i e
    rw [if_neg (fun x => by subst x; rw [Nat.beq_refl] at e; cases e)]; exact ⟨st', hf, hk⟩
  | _ => exact ⟨st', hf, hk⟩
 | .skip, st, H, K, hd, h => run_sound hT hm _ st H K hd h
 | .ret, st, H, K, hd, h => run_sound hT hm _ st H K hd h
 | .exit id, st, H, K, hd, h => run_sound hT hm _ st H K hd h
 | .seq a b, st, H, K, hd, h => run_sound hT hm _ st H K hd h
 | .region id ops dr, st, H, K, hd, h => run_sound hT hm _ st H K hd h
 | .loop c, st, H, K, hd, h => h
 | .rangeFunc g ps a b, st, H, K, hd, h => h
 | .scope c, st, H, K, hd, h => h
 | .label l, st, H, K, hd, h => h
 | .goto l, st, H, K, hd, h => h
 | .refuse w, st, H, K, hd, h => h
def retK (K : V → Heap → Prop) (H : Heap) (vs : List V) : Prop :=
 match vs with
 | [x] => K x H
 | l => K (.tup l) H
theorem retK_sound {K : V → Heap → Prop} {H : Heap} {vs : List V} (h : retK K H vs) : K (oneOf vs) H := by
 unfold retK at h
 split at h
 ·exact h
 ·rename_i l hn
  unfold oneOf
  split
  ·rename_i x; exact absurd rfl (hn x)
  ·exact h
def consK (v : V) (k : List V → Prop) (vs : List V) : Prop := k (v :: vs)
def resX (E : Env) (T : Tbl) (l : Fl) (H : Heap) : List ResultVar → (List V → Prop) → Prop
 | [], k => k []
 | .tmp t :: r, k => resX E T l H r fun vs => consK (lkV l t) k vs
 | .cell a t :: r, k => (match lkV l a with | .elem _ _ _ _ => False | x => xload E T t x H fun v => resX E T l H r fun vs => k (v :: vs))
theorem resX_sound (hT : TOk P T) {l : Fl} {H : Heap} {df : List Nat} : ∀ (rs : List ResultVar) (k : List V → Prop), resX (real P nt rd) T l H rs k → ∃ vs, resList P (frOf ⟨l, df⟩) H rs = some vs ∧ k vs
 | [], k, h => ⟨[], rfl, h⟩
 | .tmp t :: r, k, h => by
  obtain ⟨vs, h1, h2⟩ := resX_sound (df := df) hT r _ h
  exact ⟨_, by simp only [resList, h1]; rfl, h2⟩
 | .cell a t :: r, k, h => by
  unfold resX at h
  split at h
  ·exact h.elim
  rename_i x hne
  obtain ⟨v, h1, h2⟩ := xload_sound hT h
  have h1 : loadV P H t (lkV l a) = some v := h1.elim (fun h => h) fun h => by
   unfold loadO at h
   split at h
   ·rename_i hx; exact absurd hx (hne _ _ _ _)
   ·cases h
  obtain ⟨vs, h3, h4⟩ := resX_sound (df := df) hT r _ h2
  exact ⟨v :: vs, by simp only [resList, h3]; rw [show (frOf ⟨l, df⟩).s a = lkV l a from rfl, h1], h4⟩
theorem Sim.post_le {c : Code} {fr : Fr} {H : Heap} {K : Exit → St → Heap → Prop} (h : Sim P nt rd c fr H fun e fr' H' => ∃ st', FrLe fr' st' ∧ K e st' H') : Sim P nt rd c fr H fun e fr' H' => ∃ st', fr' = frOf st' ∧ K e st' H' := by
 intro r g w a hr hR hF
 refine wpIn_mono (h r g w a hr hR hF) fun e a' w' ⟨g', fr', H', s, hR', hF', st', hle, hk⟩ => ⟨g', frOf st', H', s, hR', ⟨hF'.size, fun t => hle.s t _ _ _ (hF'.s t), ?_⟩, st', rfl, hk⟩
 have := hF'.df
 rw [hle.df] at this
 exact this
def entryL : List V → Nat → Fl
 | [], _ => []
 | v :: l, i => (i, .v v) :: entryL l (i + 1)
theorem lk_entryL : ∀ (args : List V) (i t : Nat), lkV (entryL args i) t = if i ≤ t then args.getD (t - i) .bad else .bad
 | [], i, t => by simp [entryL, lkV]
 | v :: l, i, t => by
  simp only [entryL, lkV]
  by_cases h : t = i
  ·subst h; simp [Nat.beq_refl]
  ·have hb : Nat.beq t i = false := by
    cases hb : Nat.beq t i with
    | false => rfl
    | true => exact absurd (Nat.eq_of_beq_eq_true hb) h
   simp only [hb]
   rw [lk_entryL l (i + 1) t]
   by_cases h1 : i + 1 ≤ t
   ·rw [if_pos h1, if_pos (by omega), show t - i = (t - (i + 1)) + 1 by omega]; rfl
   ·rw [if_neg h1, if_neg (by omega)]
theorem entry_eq (args : List V) : entry args = frOf ⟨entryL args 0, []⟩ := by
 simp only [entry, frOf, Fr.mk.injEq, and_true]
 funext t
 rw [lk_entryL]; simp
def finX (E : Env) (T : Tbl) (rs : List ResultVar) (K : V → Heap → Prop) (e : Exit) (st : St) (H : Heap) : Prop :=
 match e with
 | .normal => (match st.df with | [] => resX E T st.l H rs fun vs => retK K H vs | df => E.fin df H fun H' => resX E T st.l H' rs fun vs => retK K H' vs)
 | .ret => (match st.df with | [] => resX E T st.l H rs fun vs => retK K H vs | df => E.fin df H fun H' => resX E T st.l H' rs fun vs => retK K H' vs)
 | _ => False
theorem fin_sound (hT : TOk P T) {fn : Func} {K : V → Heap → Prop} {e : Exit} {st : St} {H : Heap} (h : finX (real P nt rd) T fn.results.toList K e st H) : Ret P fn K e (frOf st) H := by
 have key : ∀ (h : match st.df with | [] => resX (real P nt rd) T st.l H fn.results.toList fun vs => retK K H vs | df => (real P nt rd).fin df H fun H' => resX (real P nt rd) T st.l H' fn.results.toList fun vs => retK K H' vs),
  dfOk H (frOf st).df ∧ ∃ l, resList P (frOf st) (clear H (frOf st).df) fn.results.toList = some l ∧ K (oneOf l) (clear H (frOf st).df) := by
  obtain ⟨l, df⟩ := st
  intro h
  cases df with
  | nil =>
   have hcl : clear H [] = H := by funext x; simp [clear]
   obtain ⟨vs, h1, h2⟩ := resX_sound (df := []) hT _ _ h
   refine ⟨⟨by simp [frOf], fun id hi => by simp [frOf] at hi⟩, vs, ?_, ?_⟩
   ·show resList P (frOf ⟨l, []⟩) (clear H []) _ = _
    rw [hcl]; exact h1
   ·show K _ (clear H [])
    rw [hcl]; exact retK_sound h2
  | cons d ds =>
   obtain ⟨hd, h⟩ := h
   obtain ⟨vs, h1, h2⟩ := resX_sound (df := d :: ds) hT _ _ h
   exact ⟨hd, vs, h1, retK_sound h2⟩
 cases e <;> first | exact h.elim | skip
 ·exact ⟨.inl rfl, key h⟩
 ·exact ⟨.inr rfl, key h⟩
theorem callA_of_run {f : FuncId} {fn : Func} {c : Code} {n : Nat} {rs : List ResultVar} {args : List V} {H : Heap} {K : V → Heap → Prop} (cf : Cf) (hT : TOk P T) (hm : P.follows .mixedOrders = true) (hf : P.funcs[f]? = some fn) (hb : fn.body = some c) (hd : drawsOk cf c = true) (hcall : ∀ vals w, (callFunc f vals).run P w = .ok (.enter f vals) w)
 (hnt : fn.ntmps = n) (hrs : fn.results.toList = rs) (hn : Nat.ble args.length n = true) (h : ∀ E : Env, E = real P n none → run E T n cf c ⟨entryL args 0, []⟩ H (finX E T rs K)) : CallA P f args H K := by
 subst hnt; subst hrs
 refine callA_of_code hf hb hcall (Nat.le_of_ble_eq_true hn) ?_
 rw [entry_eq]
 refine (Sim.post_le (run_sound hT hm c _ H _ hd (h _ rfl))).mono fun e fr' H' ⟨st', hfr, hq⟩ => ?_
 subst hfr
 exact fin_sound hT hq
end
end Go.Ab

