/- AbP3 AbP4 AbP5 AbP6 -/
import Derived.Test.YtildiiggamckaaaGreatDoorT19
import Derived.Test.YtildiiggamckaaaGreatDoorT20
set_option linter.all false
namespace Go.Ab
open Go.RowKit
variable [G5] [Ar]
noncomputable def TB (xs : List V) : Int := List.rec (motive := fun _ => Int) 0 (fun _ _ n => n + 1) xs
theorem QI (xs : List V) : TB xs = (xs.length : Nat) := by
 induction xs with
 | nil => rfl
 | cons x xs ih =>
  have e : TB (x :: xs) = TB xs + 1 := rfl;rw [e, ih]; simp
def Ht (ops : Array Oper) (k : Nat) : Bool :=
 k + 3 < ops.size && (List.range ops.size).all fun i =>
  V1 (ops.getD i default) i &&
   (List.range i).all fun j => (i < k && FD ops (ops.getD j default) (ops.getD i default)) || EV ops HP i j || (i == k + 3 && decide (k < j))
theorem Kn {ops : Array Oper} {k : Nat} (h : Ht ops k = true) : k + 3 < ops.size ∧ ∀ i, i < ops.size → V1 (ops.getD i default) i = true ∧
 ∀ j, j < i → (EV ops HP i j = true ∨ (i < k ∧ FD ops (ops.getD j default) (ops.getD i default) = true)) ∨ (i = k + 3 ∧ k < j) := by
 simp only [Ht, Bool.and_eq_true, decide_eq_true_eq, List.all_eq_true, List.mem_range, Bool.or_eq_true, beq_iff_eq] at h
 exact ⟨h.1, fun i hi => ⟨(h.2 i hi).1, fun j hj => ((h.2 i hi).2 j hj).imp Or.symm id⟩⟩
def Xn (x : Operand) (t : Nat) : Bool :=
 match x with
 | .tmp u => !Nat.beq u t
 | _ => true
theorem PD {x : Operand} {t : Nat} (h : Xn x t = true) : x ≠ .tmp t := by
 intro e; subst e; simp [Xn] at h
def isNone {α : Type} : Option α → Bool
 | none => true
 | some _ => false
theorem CK {α : Type} {o : Option α} (h : isNone o = true) : o = none := by
 cases o <;> simp [isNone] at h; rfl
def Uj (nt k : Nat) (ops : Array Oper) : Option KC :=
 match (ops.getD k default).op, (ops.getD k default).dst, (ops.getD (k + 1) default).op, (ops.getD (k + 1) default).dst, (ops.getD (k + 2) default).op, (ops.getD (k + 3) default).op with
 | .call { callee := .builtin .append, args := ⟨[sx, sy]⟩, argTypes := ⟨[sT, yT]⟩ }, some tA, .indexAddr t2 (.tmp tA2) nn, some tI, .store eT (.tmp tI2) zz, .store t3 (.tmp tp) (.tmp tA3) =>
  if (Nat.beq tA2 tA && Nat.beq tA3 tA && Nat.beq tI2 tI && isNone (ops.getD k default).guard && isNone (ops.getD (k + 1) default).guard && isNone (ops.getD (k + 2) default).guard && isNone (ops.getD (k + 3) default).guard &&
   isNone (ops.getD (k + 2) default).dst && isNone (ops.getD (k + 3) default).dst && !Nat.beq tA tI && !Nat.beq tp tA && !Nat.beq tp tI && Xn nn tA && Xn zz tA && Xn zz tI && Nat.ble (tA + 1) nt && Nat.ble (tI + 1) nt) = true then
   some ⟨sx, sy, nn, zz, sT, yT, t2, eT, t3, tA, tI, tp⟩ else none
 | _, _, _, _, _, _ => none
theorem Ui {nt k : Nat} {ops : Array Oper} {p : KC} (hl : k + 3 < ops.size) (h : Uj nt k ops = some p) : Xd ops nt k p := by
 unfold Uj at h
 split at h
 ·rename_i sx sy sT yT tA t2 tA2 nn tI eT tI2 zz t3 tp tA3 e1 e2 e3 e4 e5 e6
  rw [Option.ite_none_right_eq_some] at h
  obtain ⟨hc, h⟩ := h;cases h
  simp only [Bool.and_eq_true, Bool.not_eq_true'] at hc
  obtain ⟨⟨⟨⟨⟨⟨⟨⟨⟨⟨⟨⟨⟨⟨⟨⟨c1, c2⟩, c3⟩, c4⟩, c5⟩, c6⟩, c7⟩, c8⟩, c9⟩, c10⟩, c11⟩, c12⟩, c13⟩, c14⟩, c15⟩, c16⟩, c17⟩ := hc;have f1 := Nat.eq_of_beq_eq_true c1;have f2 := Nat.eq_of_beq_eq_true c2;have f3 := Nat.eq_of_beq_eq_true c3;subst f1; subst f2; subst f3
  have ne : ∀ {a b : Nat}, Nat.beq a b = false → a ≠ b := fun h e => by subst e; rw [Nat.beq_refl] at h; cases h
  exact ⟨hl, e1, e2, CK c4, e3, e4, CK c5, e5, CK c8, CK c6, e6, CK c9, CK c7, ne c10, ne c11, ne c12, PD c13, PD c14, PD c15, Nat.le_of_ble_eq_true c16, Nat.le_of_ble_eq_true c17⟩
 cases h
section
variable {P : Program} {nt : Nat} {ops : Array Oper} {H0 : A0}
def XH (P : Program) (nt : Nat) (A : KG) (ops : Array Oper) (k : Nat) (p : KC) (fr : Fr) (H : A0) (K : Fr → A0 → Prop) : Prop :=
 ∃ (xs : List V) (tl tl' : D6) (y0 vV z : V) (kk : IntKind) (e : TypeId) (sz by_ idp offp : Nat),
  Y4 (ev fr p.sx) (.sl xs tl) ∧ ev fr p.sy = .sl [y0] tl' ∧ y0.cells.length = sz ∧ ev fr p.nn = .int kk (xs.length : Nat) ∧ Y4 (ev fr p.zz) vV ∧ vV.one = true ∧ vV.cells.length = sz ∧
  BT P p.sT = some e ∧ (BT P p.yT).isSome = true ∧ BT P p.t2 = some e ∧ Bw P e = some sz ∧ Bw P p.eT = some sz ∧ 0 < sz ∧ Jc P e = some by_ ∧ 0 < by_ ∧ Er P e = some z ∧ z.one = true ∧ z.cells.length = sz ∧ DE H tl ∧
  xs.all (fun x => x.cells.length == sz) = true ∧ (xs.length + 1) * by_ ≤ 140737488355328 ∧ fr.s p.tp = .ref idp offp ∧ Bw P p.t3 = some 1 ∧
  ∀ t, C9 H tl t = none → ∃ cs, upd (C9 H tl) t (some .spare) idp = some (.cells cs) ∧ offp + 1 ≤ cs.length ∧
   DM P A nt ops (ops.toList.drop (k + 4)) ((fr.put (some p.tA) (.sl (xs ++ [vV]) (.tok t))).put (some p.tI) .bad) (upd (upd (C9 H tl) t (some .spare)) idp (some (.cells (K9 cs offp [.sl (xs ++ [vV]) (.tok t)])))) K
theorem N9.appF {A : KG} {rd : Option Nat} {id k : Nat} {p : KC} {fr : Fr} {Q : Exit → Fr → A0 → Prop} (hm : P.follows .mixedOrders = true) (hok : Ht ops k = true) (hp : Xd ops nt k p)
 (h : Ej P nt ops H0 (ops.toList.take k) fr (fun _ => none) fun fr' pv => (∀ x, pv x = none) ∧ XH P nt A ops k p fr' H0 (Q .normal)) : N9 P nt rd (.region id ops true) fr H0 Q := by
 intro r g w a _ hR hF;refine wpIn_region_any hm ?_;obtain ⟨hk3, hat⟩ := Kn hok
 have hk : k ≤ ops.size := by omega
 have sd : M4 g w g w.drew := ⟨fun _ _ e => e, fun _ _ e => e, fun _ _ e => e, rfl, fun _ _ _ => rfl, (Below.refl _ _).drew, fun _ _ _ => rfl⟩
 have hRd : Rl g H0 w.drew := by
  refine ⟨fun id b hb => (hR.blk id b hb).mono hb sd fun _ _ => ⟨rfl, fun _ ho => ho⟩, hR.inj, hR.frz, hR.nxt, hR.bnd, fun n => (hR.glb n).mono sd⟩
 have hI : Qh nt H0 g w.drew fr (fun _ => none) g w.drew a :=
  ⟨H0, fun _ => 0, M4.refl _ _, hRd, hF.mono sd, fun _ _ h => h, fun d cs h => (by cases h), fun d d' cs cs' h => (by cases h), fun _ => none, fun d cs h => (by cases h), fun d d' cs cs' t h => (by cases h), fun cs h => (by cases h)⟩
 have hmap : (List.range k).map (fun i => ops.getD i default) = ops.toList.take k := by
  apply List.ext_getElem
  ·simp; omega
  intro i h1 h2
  simp at h1
  simp [Array.getD, show i < ops.size by omega]
 have hb := Kz (r := r) (Q := OP nt g w Q) hk (fun i hi => ⟨(hat i hi).1, fun j hj => by
  rcases (hat i hi).2 j hj with h | h
  ·exact h.imp (fun h => h) .inl
  exact .inr (.inr (by omega))⟩) (K := fun fr' pv => (∀ x, pv x = none) ∧ XH P nt A ops k p fr' H0 (Q .normal)) (g0 := g) (w0 := w.drew)
  (fun g' w' a' fr' pv listed hsz hl hI' hK => ?_) k (List.range k) (Array.replicate ops.size false) fr (fun _ => none) (by simp) (List.pairwise_lt_range) (fun i hi => by simpa using hi) (by simp) (fun i b hi => by simp [Array.getD, hi]) (fun m j hm _ => by simp [Array.getD] at hm) (by rw [hmap]; exact h) g w.drew a hI
 ·rw [show k + (ops.size - k) = ops.size by omega] at hb
  exact hb
 obtain ⟨H, ids, s, hR', hF', hext, hpv, hinj, _⟩ := hI';obtain ⟨_, xs, tl, tl', y0, vV, z, kk, e, sz, by_, idp, offp, b1, b2, b3, b4, b5, b6, b7, b8, b9, b10, b11, b12, b13, b14, b15, b16, b17, b18, b19, b20, b21, b22, b23, b24⟩ := hK;have hR0 := hR'.less hext
 have hfresh : C9 H0 tl g'.nx = none := by
  have := (hR0.nxt _ (Nat.le_refl _)).2.2
  cases hd : C9 H0 tl g'.nx with
  | none => rfl
  | some b => rw [Bm hd] at this; cases this
 obtain ⟨cs, c1, c2, _⟩ := b24 _ hfresh
 have hlc : LC ops listed fun i => decide (i < k) := ⟨hsz, hl, fun m j hm hj => by
  have hms : m < ops.size := by
   rcases Nat.lt_or_ge m ops.size with h | h
   ·exact h
   simp [Array.getD, show ¬ m < listed.size by omega] at hm
  rw [hl m false hms] at hm
  simp only [decide_eq_true_eq] at hm
  have hbw := (hat m hms).1
  simp only [V1, Array.all_eq_true] at hbw
  simp only [Ap, Array.any_eq_true, Bool.and_eq_true, beq_iff_eq] at hj
  obtain ⟨x, hx, rfl, hbx⟩ := hj;have := hbw x hx
  simp only [hbx, Bool.not_true, Bool.false_or, decide_eq_true_eq] at this
  rw [hl _ false (by omega)]
  simp only [decide_eq_true_eq]; omega⟩
 have hidp : ∀ t cs, C9 H0 tl t = none → upd (C9 H0 tl) t (some .spare) idp = some (.cells cs) → H0 idp = some (.cells cs) := fun t cs ht h => by
  by_cases e : idp = t
  ·subst e; rw [A9] at h; cases h
  rw [A3 _ _ e] at h; exact Bm h
 have hUc := hidp _ _ hfresh c1
 exact Ue (A := A) (r := r) (K := Q .normal) (g0 := g) (w0 := w) hp (fun i hi => ⟨(hat i hi).1, fun j hj => by
  rcases (hat i hi).2 j hj with (h | h) | h
  ·exact .inl h
  ·exact .inr (.inl h.1)
  exact .inr (.inr h)⟩)
  (fun g3 w3 a3 fr3 H3 s3 hR3 hF3 hK3 => ⟨g3, fr3, H3, s3, hR3, hF3, hK3⟩) hlc b1 b2 b3 b4 b5 b6 b7 b8 b9 b10 b11 b12 b13 b14 b15 b16 b17 b18 b19 b20 b21 b22 hUc b23 c2
  (fun t ht => by
   obtain ⟨cs', d1, d2, d3⟩ := b24 t ht;have := hidp _ _ ht d1
   rw [hUc] at this
   cases this
   exact d3) g' w' a' (sd.trans s) hR0 hF'
end
section
variable (E : CM) (T : Dm) (nt : Nat) (A : Nat → Bool)
def VU (k : Nat) (p : KC) (ops : Array Oper) (l : Fl) (H : A0) (K : Fl → A0 → Prop) : Prop :=
 match (K1 [] l p.sx).V, (K1 [] l p.sy).V, (K1 [] l p.nn).V, lk l p.tp with
 | .sl xs tl, .sl [y0] _, .int _ m, .v (.ref idp offp) =>
  (match tg T p.sT, tg T p.yT, tg T p.t2, tg T p.eT, tg T p.t3 with
   | some I, some I2, some I3, some I4, some I5 =>
    (match I.sl, I2.sl, I3.sl with
     | some e, some _, some e3 =>
      (match tg T e with
       | some J =>
        (match J.ze with
         | some z =>
          if 0 < J.sz ∧ 0 < J.by_ ∧ z.one = true ∧ z.cells.length = J.sz ∧ e3 = e ∧ I4.sz = J.sz ∧ I5.sz = 1 ∧ y0.cells.length = J.sz ∧ (K1 [] l p.zz).V.one = true ∧ (K1 [] l p.zz).V.cells.length = J.sz then
           E.need (m = TB xs) fun _ =>
           E.appn J.sz J.by_ H tl xs [(K1 [] l p.zz).V] fun r H' => E.storeP H' idp offp 1 [r] fun H'' => Ik E T nt A ops (ops.toList.drop (k + 4)) ((p.tI, .v .bad) :: (p.tA, .v r) :: l) H'' K
          else False
         | none => False)
       | none => False)
     | _, _, _ => False)
   | _, _, _, _, _ => False)
 | _, _, _, _ => False
def Wl (k : Nat) (ops : Array Oper) (l : Fl) (H : A0) (K : Fl → A0 → Prop) : Prop :=
 match Uj nt k ops with
 | some p => SA E T nt A [] ops (ops.toList.take k) l [] none [] none H fun l' pv pe tk => (match pv, pe, tk with | [], none, [] => VU E T nt A k p ops l' H K | _, _, _ => False)
 | none => False
end
section
variable {P : Program} {nt : Nat} {rd : Option Nat} {T : Dm} {A : Nat → Bool} {df : List Nat}
theorem Pb (hT : EX P T) {k : Nat} {ops : Array Oper} {l : Fl} {H : A0} {K : Fl → A0 → Prop} {id : Nat} (hm : P.follows .mixedOrders = true) (hok : Ht ops k = true)
 (h : Wl (E6 P nt rd) T nt A k ops l H K) : N9 P nt rd (.region id ops true) (D9 ⟨l, df⟩) H fun e fr H' => e = .normal ∧ ∃ l', fr = D9 ⟨l', df⟩ ∧ K l' H' := by
 unfold Wl at h
 split at h
 ·rename_i p hpat;have hp := Ui (Kn hok).1 hpat;refine N9.appF (A := A) hm hok hp ?_
  have e0 : (fun _ => none : Pv) = P9 [] none [] none := by funext x; cases x <;> rfl
  rw [e0];refine De (fun fr pv ⟨l', pl, pe', tk', ex', e1, e2, e4, e3, h⟩ => ?_) _ _ _ (X4 (df := df) hT _ _ _ _ _ _ h);cases e4 rfl;subst e1; subst e2
  split at h
  ·refine ⟨fun x => by cases x <;> rfl, ?_⟩
   unfold VU at h
   split at h
   ·rename_i xs tl y0 tl' kk m idp offp hx hy hn htp
    split at h
    ·rename_i I I2 I3 I4 I5 h1 h2 h3 h4 h5
     split at h
     ·rename_i e e2 e3' q1 q2 q3
      split at h
      ·rename_i J hJ
       split at h
       ·rename_i z hz
        have ez := (D4 hT hJ).ze; rw [hz] at ez; simp only [X0] at ez
        split at h
        ·rename_i hc;obtain ⟨c1, c2, c3, c4, c5, c6, c7, c8, c9, c10⟩ := hc;obtain ⟨hm', xs', ys', a1, a2, a3, a4, a5, a6, a7, a8⟩ := h;have E' : ∀ x, (K1 [] l' x).V = ev (D9 ⟨l', df⟩) x := fun x => Bk EY.nil x
         rw [E'] at hx hy hn c9 c10
         rw [E'] at a2
         obtain ⟨vV, rfl, hle⟩ : ∃ vV, ys' = [vV] ∧ Y4 (ev (D9 ⟨l', df⟩) p.zz) vV := by
          cases a2 with
          | cons q r => cases r; exact ⟨_, rfl, q⟩
         have hl := a1.length
         refine ⟨xs', tl, tl', y0, vV, z, kk, e, J.sz, J.by_, idp, offp, by rw [hx]; exact .slt _ a1, hy, c8, by rw [hn, hm', QI, hl], hle, hle.one c9, by rw [← hle.cells.length]; exact c10,
          (D4 hT h1).sl.trans q1, by rw [(D4 hT h2).sl, q2]; rfl, by rw [(D4 hT h3).sl, q3, c5], (D4 hT hJ).sz, by rw [(D4 hT h4).sz, c6], c1, (D4 hT hJ).by_, c2, ez, c3, c4, a3, a4, by simpa using a6,
          Fy l' p.tp _ htp (fun _ _ _ h => by cases h), by rw [(D4 hT h5).sz, c7], fun t ht => ?_⟩
         obtain ⟨cs, g1, g2, g3⟩ := a8 t (by simp) ht;refine ⟨cs, g1, Nat.le_of_ble_eq_true g2, ?_⟩;have := BZ (df := df) hT _ _ _ g3
         have ef : D9 ⟨(p.tI, .v .bad) :: (p.tA, .v (.sl (xs' ++ [vV]) (.tok t))) :: l', df⟩ = ((D9 ⟨l', df⟩).put (some p.tA) (.sl (xs' ++ [vV]) (.tok t))).put (some p.tI) .bad := by
          have e1 := G9 (df := df) ((p.tA, .v (.sl (xs' ++ [vV]) (.tok t))) :: l') (some p.tI) (.v .bad);have e2 := G9 (df := df) l' (some p.tA) (.v (.sl (xs' ++ [vV]) (.tok t)))
          simp only [Aw] at e1 e2
          rw [e1, e2]; rfl
         rw [ef] at this
         exact Fs0 (fun fr H' ⟨l'', e, hk⟩ => ⟨rfl, l'', e, hk⟩) _ _ _ this
        exact h.elim
       exact h.elim
      exact h.elim
     exact h.elim
    exact h.elim
   exact h.elim
  exact h.elim
 exact h.elim
end
end Go.Ab
namespace Go.Ab
open Go.RowKit
variable [G5]
def TF : Op → Option Operand
 | .move x => some x
 | .assign x => some x
 | _ => none
def odd : Op → Bool
 | .defer _ => true
 | .select _ _ => true
 | _ => false
def hi (m i : Nat) : Nat := if i = m then 0 else if i < m then i + 1 else i
def FZ (m : Nat) (o : Oper) : Oper := { o with after := #[⟨0, .data⟩] ++ o.after.map fun e => { e with on := hi m e.on }, guard := o.guard.map fun p => (hi m p.1, p.2) }
def L9 (m : Nat) (ops : Array Oper) : Array Oper := ({ ops.getD m default with after := #[] } :: ((ops.toList.eraseIdx m).map (FZ m))).toArray
def IY (m : Nat) (ops : Array Oper) : Bool :=
 Nat.blt m ops.size && (TF (ops.getD m default).op).isSome && (ops.getD m default).dst.isSome && (ops.getD m default).guard.isNone && (ops.getD m default).after.all (fun e => !Region.binds .any e) &&
  (List.range ops.size).all fun j => j == m || (!odd (ops.getD j default).op && (Ap (ops.getD j default) m || (ops.getD m default).apart ops (ops.getD j default)))
def Wv (ops : Array Oper) : Bool := (List.range ops.size).all fun i => (ops.getD i default).after.all fun e => Nat.blt e.on ops.size
def Cp : List (Nat × Nat) → Nat → List Nat
 | [], _ => []
 | (x, y) :: l, n => match n == x with | true => y :: Cp l n | false => Cp l n
def hoistAll : List Nat → Array Oper → Array Oper
 | [], ops => ops
 | m :: ms, ops => hoistAll ms (L9 m ops)
def JI : List Nat → Array Oper → Bool
 | [], _ => true
 | m :: ms, ops => IY m ops && Wv ops && JI ms (L9 m ops)
section
variable {P : Program} {ops : Array Oper} {Q : Exit → Act → World → Prop} {F : Fence} {n : Nat}
theorem Gk {oi : Oper} {x : Operand} (hx : x ∈ oi.op.operands) {a : Act} {e : Option Tmp} {u : Value} (h : ∀ d, e = some d → d ∉ oi.looksAt ops) : (a.put e u).eval x = a.eval x :=
 Act.eval_put fun d hd hxd => h d hd (by
  subst hxd
  exact List.mem_append_left _ (List.mem_filterMap.2 ⟨.tmp d, by simpa using hx, rfl⟩))
theorem RH {j : Nat} {oi oj : Oper} {x : Operand} (hj : ops[j]? = some oj) (hx : x ∈ oi.op.operands) (hap : oi.apart ops oj = true) (hd : ∀ c, oj.op ≠ .defer c) (hs : ∀ cs b, oj.op ≠ .select cs b) (hQ : ∀ c a w, ¬ Q (.panic c) a w)
 {K : Act → World → Prop} {a : Act} {w : World} (h : wpOpIn F n P ops Q j K (a.put oi.dst (a.eval x)) w) : wpOpIn F n P ops Q j (fun a' w' => K (a'.put oi.dst (a'.eval x)) w') a w := by
 obtain ⟨h1, h2, h3⟩ := Oper.apart_spec hap
 have fin : ∀ u w', K ((a.put oi.dst (a.eval x)).put oj.dst u) w' → K ((a.put oj.dst u).put oi.dst ((a.put oj.dst u).eval x)) w' := fun u w' hk => by
  rw [Gk hx h3, ← Act.put_comm a _ u h2]; exact hk
 unfold wpOpIn at h ⊢
 simp only [hj] at h ⊢
 rw [wanted_put oj a oi.dst _ h1, about_put oj w a oi.dst _ h1] at h
 by_cases hw : Region.wanted oj (yielded ops a.tmps) = true
 ·rw [if_pos hw] at h ⊢
  unfold Oper.wpIn at h ⊢
  rw [about_put oj w a oi.dst _ h1] at h
  refine ⟨h.1, ?_⟩;replace h := h.2
  rw [Oper.semAt_eq _ _ _ hd, execOp_put oj hs a oi.dst _ h1] at h
  rw [Oper.semAt_eq _ _ _ hd]
  cases hr : (execOp a.eval oj).run P w with
  | ok y w' =>
   rw [hr] at h
   cases y with
   | value u => exact fin u w' h
   | skip => exact fin undef w' h
   | defer d =>
    simp only [Oper.uponIn] at h ⊢
    have e1 : ({ a with defers := d :: a.defers } : Act).eval x = a.eval x := rfl;have e2 : (({ a with defers := d :: a.defers } : Act).put oj.dst undef).eval x = a.eval x := (Gk (a := { a with defers := d :: a.defers }) hx h3).trans e1;rw [e2, ← Act.put_comm _ _ undef h2, ← Act.put_defers];exact h
   | enter f args =>
    simp only [Oper.uponIn] at h ⊢
    refine ⟨h.1, CallsIn.mono h.2 fun e w2 he => ?_⟩
    cases e with
    | returned u => exact fin u w2 he
    | panicked c => exact absurd he (hQ _ _ _)
    | outgrown => exact he
   | row row args =>
    simp only [Oper.uponIn] at h ⊢
    exact ⟨h.1, RowsIn.mono h.2 fun u w2 he => fin u w2 he⟩
   | round l f tmps assign body =>
    simp only [Oper.uponIn] at h ⊢
    refine ⟨h.1, RoundIn.mono h.2 fun e w2 he => ?_⟩
    cases e with
    | returned u => exact fin u w2 he
    | panicked c => exact absurd he (hQ _ _ _)
    | outgrown => exact he
   | _ => exact h
  | halt y w' =>
   rw [hr] at h
   cases y with
   | panic c => exact absurd h (hQ _ _ _)
   | _ => exact h
 rw [if_neg hw] at h ⊢
 exact ⟨h.1, fin undef w h.2⟩
theorem Sj {m : Nat} {oi : Oper} {x : Operand} (hm : ops[m]? = some oi) (ho : oi.op = .move x ∨ oi.op = .assign x) (hg : oi.guard = none) (hb : ∀ e ∈ oi.after, Region.binds .any e = false)
 (hfree : ∀ j oj, ops[j]? = some oj → j ≠ m → ((∀ c, oj.op ≠ .defer c) ∧ ∀ cs b, oj.op ≠ .select cs b) ∧ ((∃ e ∈ oj.after, Region.binds .any e = true ∧ e.on = m) ∨ oi.apart ops oj = true)) (hQ : ∀ c a w, ¬ Q (.panic c) a w) :
 ∀ (fuel : Nat) (listed : Array Bool) (a : Act) (w : World), listed.getD m true = false →
  wpAnyIn F n P .any ops Q fuel (listed.setIfInBounds m true) (a.put oi.dst (a.eval x)) w → wpAnyIn F n P .any ops Q (fuel + 1) listed a w := by
 have hx : x ∈ oi.op.operands := by rcases ho with ho | ho <;> simp [ho, Op.operands]
 have hready : ∀ listed : Array Bool, listed.getD m true = false → m ∈ Region.ready .any ops listed := fun listed hl =>
  Go.mem_ready.2 ⟨hl, oi, hm, fun e he hbe => by rw [hb e he] at hbe; cases hbe⟩
 have first : ∀ (listed : Array Bool) (a : Act) (w : World) (K : Act → World → Prop), K (a.put oi.dst (a.eval x)) w → wpOpIn F n P ops Q m K a w := fun listed a w K hk => by
  unfold wpOpIn;simp only [hm];rw [if_pos (by simp [Region.wanted, hg])];refine ⟨fun f hf => ?_, ?_⟩
  ·unfold Oper.about at hf
   rcases ho with ho | ho <;> (rw [ho] at hf; cases hf)
  rw [Oper.semAt_eq _ _ _ fun c => by rcases ho with ho | ho <;> simp [ho]]
  have : (execOp a.eval oi).run P w = .ok (.value (a.eval x)) w := by
   unfold execOp
   rcases ho with ho | ho <;> (rw [ho]; rfl)
  rw [this];exact hk
 intro fuel
 induction fuel with
 | zero =>
  intro listed a w hl H;refine ⟨fun h => (by have := hready listed hl; rw [h] at this; cases this), fun j hj => ?_⟩
  by_cases hji : j = m
  ·subst hji; exact first listed a w _ H
  have := ready_mono hj hji
  rw [H.1] at this
  cases this
 | succ fuel ih =>
  intro listed a w hl H;refine ⟨fun h => (by have := hready listed hl; rw [h] at this; cases this), fun j hj => ?_⟩
  by_cases hji : j = m
  ·subst hji; exact first listed a w _ H
  have h1 := H.2 j (ready_mono hj hji);obtain ⟨_, oj, hoj, hall⟩ := Go.mem_ready.1 hj;obtain ⟨⟨hd, hs⟩, hor⟩ := hfree j oj hoj hji
  have hap : oi.apart ops oj = true := by
   rcases hor with ⟨e, he, hbe, heq⟩ | h
   ·exfalso;have h3 := hall e he hbe
    rw [heq] at h3
    rcases Nat.lt_or_ge m listed.size with h' | h'
    ·simp [Array.getD, h'] at hl h3; rw [hl] at h3; cases h3
    simp [Array.getD, show ¬ m < listed.size by omega] at h3
   exact h
  have h2 := RH hoj hx hap hd hs hQ h1;refine wpOpIn_mono (fun a' w' h3 => ih (listed.setIfInBounds j true) a' w' ?_ ?_) h2
  ·rw [getD_set_ne true (fun e => hji e)]; exact hl
  rw [Array.setIfInBounds_comm _ _ hji];exact h3
end
section
variable {m : Nat} {ops : Array Oper}
theorem EE (h : m < ops.size) : (L9 m ops).size = ops.size := by
 simp [L9, List.length_eraseIdx, h]; omega
theorem GH : (L9 m ops)[0]? = some { ops.getD m default with after := #[] } := by simp [L9]
theorem Hn {i : Nat} {o : Oper} (h : ops[i]? = some o) (hne : i ≠ m) : (L9 m ops)[hi m i]? = some (FZ m o) := by
 unfold L9 hi;rw [if_neg hne]
 have hl : ops.toList[i]? = some o := by rw [Array.getElem?_toList]; exact h
 split
 ·rename_i hlt;simp only [List.getElem?_toArray, List.getElem?_cons_succ, List.getElem?_map, List.getElem?_eraseIdx, if_pos hlt, hl, Option.map_some]
 rename_i hge;obtain ⟨k, rfl⟩ : ∃ k, i = k + 1 := ⟨i - 1, by omega⟩;simp only [List.getElem?_toArray, List.getElem?_cons_succ, List.getElem?_map, List.getElem?_eraseIdx, if_neg (show ¬ k < m by omega), hl, Option.map_some]
theorem TL {i j : Nat} (h : hi m i = hi m j) : i = j := by
 unfold hi at h
 split at h <;> split at h <;> (try split at h) <;> (try split at h) <;> omega
theorem TK {i : Nat} (h : i < ops.size) (hm : m < ops.size) : hi m i < ops.size := by
 unfold hi; split <;> (try split) <;> omega
theorem Vv {k : Nat} (h : k < ops.size) (hm : m < ops.size) : ∃ i, i < ops.size ∧ hi m i = k := by
 by_cases h0 : k = 0
 ·exact ⟨m, hm, by unfold hi; rw [if_pos rfl, h0]⟩
 by_cases hk : k ≤ m
 ·exact ⟨k - 1, by omega, by unfold hi; rw [if_neg (by omega), if_pos (by omega)]; omega⟩
 exact ⟨k, h, by unfold hi; rw [if_neg (by omega), if_neg (by omega)]⟩
end
section
variable {P : Program} {ops : Array Oper} {Q : Exit → Act → World → Prop} {F : Fence} {n m : Nat}
theorem KH (hm : m < ops.size) (t : Array Value) (j : Nat) : yielded (L9 m ops) t (hi m j) = yielded ops t j := by
 unfold yielded
 have : ((L9 m ops)[hi m j]?).bind (·.dst) = (ops[j]?).bind (·.dst) := by
  by_cases hjm : j = m
  ·subst hjm
   have : hi j j = 0 := by unfold hi; rw [if_pos rfl]
   rw [this, GH];simp [Array.getElem?_eq_getElem hm, Array.getD, hm]
  cases hj : ops[j]? with
  | some o => rw [Hn hj hjm]; rfl
  | none =>
   have hs : ops.size ≤ j := by rw [Array.getElem?_eq_none_iff] at hj; exact hj
   have : (L9 m ops)[hi m j]? = none := by
    rw [Array.getElem?_eq_none_iff, EE hm];unfold hi; rw [if_neg hjm, if_neg (by omega)]; exact hs
   rw [this]
 rw [this]
theorem Ti (hm : m < ops.size) {i : Nat} {o : Oper} (hi' : ops[i]? = some o) (hne : i ≠ m) {K : Act → World → Prop} {a : Act} {w : World} (h : wpOpIn F n P (L9 m ops) Q (hi m i) K a w) : wpOpIn F n P ops Q i K a w := by
 unfold wpOpIn at h ⊢
 rw [Hn hi' hne] at h
 rw [hi']
 have hw : Region.wanted (FZ m o) (yielded (L9 m ops) a.tmps) = Region.wanted o (yielded ops a.tmps) := by
  unfold Region.wanted FZ
  cases hg : o.guard with
  | none => rfl
  | some p =>
   obtain ⟨j, want⟩ := p;simp only [Option.map_some, KH hm]
 simp only [hw] at h
 exact h
theorem VH (hm : m < ops.size) : ∀ (fuel : Nat) (listed listed' : Array Bool) (a : Act) (w : World), listed.size = ops.size → listed'.size = ops.size → listed.getD m false = true → (∀ i, i < ops.size → listed'.getD (hi m i) false = listed.getD i false) →
 (∀ (i : Nat) (o : Oper), ops[i]? = some o → ∀ e ∈ o.after, e.on < ops.size) →
 wpAnyIn F n P .any (L9 m ops) Q fuel listed' a w → wpAnyIn F n P .any ops Q fuel listed a w := by
 intro fuel
 have e0 : ∀ (l : Array Bool) (i : Nat), l.size = ops.size → i < ops.size → l.getD i true = l.getD i false := fun l i hl h => by simp [Array.getD, show i < l.size by omega]
 have fwd : ∀ (listed listed' : Array Bool), listed.size = ops.size → listed'.size = ops.size → listed.getD m false = true → (∀ i, i < ops.size → listed'.getD (hi m i) false = listed.getD i false) → (∀ (i : Nat) (o : Oper), ops[i]? = some o → ∀ e ∈ o.after, e.on < ops.size) →
  ∀ i, i ∈ Region.ready .any ops listed → i ≠ m ∧ i < ops.size ∧ hi m i ∈ Region.ready .any (L9 m ops) listed' := fun listed listed' s1 s2 hlm hrel hon i hi' => by
  obtain ⟨h1, o, ho, h2⟩ := Go.mem_ready.1 hi';have hil := (Array.getElem?_eq_some_iff.1 ho).1
  have hne : i ≠ m := fun e => by subst e; rw [e0 _ _ s1 hil, hlm] at h1; cases h1
  refine ⟨hne, hil, Go.mem_ready.2 ⟨?_, _, Hn ho hne, fun e he hb => ?_⟩⟩
  ·rw [e0 _ _ s2 (TK hil hm), hrel i hil, ← e0 _ _ s1 hil]; exact h1
  simp only [FZ, Array.mem_append, Array.mem_map] at he
  rcases he with he | ⟨e', he', rfl⟩
  ·simp at he; subst he
   have := hrel m hm
   rw [show hi m m = 0 by unfold hi; rw [if_pos rfl], hlm] at this
   exact this
  have hb' : Region.binds .any e' = true := by simpa [Region.binds] using hb
  simp only
  rw [hrel _ (hon i o ho e' he')];exact h2 e' he' hb'
 have bwd : ∀ (listed listed' : Array Bool), listed.size = ops.size → listed'.size = ops.size → listed.getD m false = true → (∀ i, i < ops.size → listed'.getD (hi m i) false = listed.getD i false) → (∀ (i : Nat) (o : Oper), ops[i]? = some o → ∀ e ∈ o.after, e.on < ops.size) →
  Region.ready .any ops listed = [] → Region.ready .any (L9 m ops) listed' = [] := fun listed listed' s1 s2 hlm hrel hon h => by
  rw [List.eq_nil_iff_forall_not_mem];intro k hk;obtain ⟨h1, o', ho', h2⟩ := Go.mem_ready.1 hk
  have hkl : k < ops.size := by rw [← EE hm]; exact (Array.getElem?_eq_some_iff.1 ho').1
  obtain ⟨i, hil, rfl⟩ := Vv (ops := ops) hkl hm
  have h3 : listed.getD i true = false := by rw [e0 _ _ s1 hil, ← hrel i hil, ← e0 _ _ s2 hkl]; exact h1
  have hne : i ≠ m := fun e => by subst e; rw [e0 _ _ s1 hil, hlm] at h3; cases h3
  have hoi := Array.getElem?_eq_getElem hil
  rw [Hn hoi hne] at ho'
  cases ho'
  have : i ∈ Region.ready .any ops listed := Go.mem_ready.2 ⟨h3, _, hoi, fun e he hb => by
   have := h2 { e with on := hi m e.on } (by simp only [FZ, Array.mem_append, Array.mem_map]; exact .inr ⟨e, he, rfl⟩) (by simpa [Region.binds] using hb)
   rw [hrel _ (hon i _ hoi e he)] at this
   exact this⟩
  rw [h] at this; cases this
 induction fuel with
 | zero =>
  intro listed listed' a w s1 s2 hlm hrel hon H;refine ⟨?_, H.2⟩;rw [List.eq_nil_iff_forall_not_mem];intro i hi';obtain ⟨_, _, h3⟩ := fwd listed listed' s1 s2 hlm hrel hon i hi'
  rw [H.1] at h3; cases h3
 | succ fuel ih =>
  intro listed listed' a w s1 s2 hlm hrel hon H;refine ⟨fun h => H.1 (bwd listed listed' s1 s2 hlm hrel hon h), fun i hi' => ?_⟩;obtain ⟨hne, hil, h3⟩ := fwd listed listed' s1 s2 hlm hrel hon i hi';have h4 := H.2 _ h3;refine wpOpIn_mono (fun a' w' h5 => ih (listed.setIfInBounds i true) (listed'.setIfInBounds (hi m i) true) a' w' (by simpa using s1) (by simpa using s2) ?_ (fun j hj => ?_) hon h5) (Ti hm (Array.getElem?_eq_getElem hil) hne h4)
  ·rw [getD_set_ne false hne]; exact hlm
  by_cases e : j = i
  ·subst e
   have h6 : hi m j < listed'.size := by rw [s2]; exact TK hil hm
   simp [Array.getD, h6, show j < listed.size by omega]
  rw [getD_set_ne false (fun x => e x.symm), getD_set_ne false (fun x => e (TL x).symm)];exact hrel j hj
end
theorem W5.hoist {P : Program} {nt m : Nat} {rd : Option Nat} {ops : Array Oper} {fr : Fr} {H : A0} {Q : Exit → Fr → A0 → Prop} (hok : IY m ops = true) (hon : Wv ops = true) (hQ : ∀ c fr H, ¬ Q (.panic c) fr H) (h : W5 P nt rd (L9 m ops) fr H Q) : W5 P nt rd ops fr H Q := by
 unfold Wv at hon
 intro r g w a hr hR hF;have h := h r g w a hr hR hF
 simp only [IY, Bool.and_eq_true, List.all_eq_true, List.mem_range, Bool.or_eq_true, beq_iff_eq, Bool.not_eq_true'] at hok
 obtain ⟨⟨⟨⟨⟨h1, h2⟩, h3⟩, h4⟩, h5⟩, h6⟩ := hok
 have hm : m < ops.size := by simpa [Nat.blt_eq] using h1
 have hget : ∀ i, i < ops.size → ops[i]? = some (ops.getD i default) := fun i hi => by simp [Array.getD, hi]
 have hom := hget m hm
 generalize hoi : ops.getD m default = oi at *
 obtain ⟨x, hx⟩ := Option.isSome_iff_exists.1 h2
 have ho : oi.op = .move x ∨ oi.op = .assign x := by
  cases hop : oi.op <;> rw [hop] at hx <;> simp [TF] at hx <;> simp [hx]
 have hg : oi.guard = none := by simpa using h4
 obtain ⟨s, hs⟩ : ∃ s, ops.size = s + 1 := ⟨ops.size - 1, by omega⟩;rw [hs]
 refine Sj hom ho hg (fun e he => by
  have := Array.all_eq_true_iff_forall_mem.1 h5 e he
  simpa using this) (fun j oj hj hne => ?_) (fun c a' w' ⟨_, fr', H', _, _, _, hq⟩ => hQ _ _ _ hq) s _ a _ (by simp [Array.getD, show m < s + 1 by omega]) ?_
 ·have hjl := (Array.getElem?_eq_some_iff.1 hj).1
  have ej : ops.getD j default = oj := by have := hget j hjl; rw [hj] at this; exact (Option.some.inj this).symm
  rcases h6 j hjl with h7 | ⟨h7, h8⟩
  ·exact absurd h7 hne
  rw [ej] at h7 h8
  refine ⟨⟨fun c hc => (by rw [hc] at h7; cases h7), fun cs b hc => (by rw [hc] at h7; cases h7)⟩, ?_⟩
  rcases h8 with h8 | h8
  ·left
   simp only [Ap, Array.any_eq_true, Bool.and_eq_true, beq_iff_eq] at h8
   obtain ⟨k, hk, e1, e2⟩ := h8;exact ⟨oj.after[k], Array.getElem_mem hk, e2, e1⟩
  exact .inr h8
 have hs' : (L9 m ops).size = s + 1 := by rw [EE hm, hs]
 rw [hs'] at h
 have hz : (0 : Nat) ∈ Region.ready .any (L9 m ops) (Array.replicate (s + 1) false) :=
  Go.mem_ready.2 ⟨by simp [Array.getD], _, GH, fun e he => by simp at he⟩
 have h7 := h.2 0 hz
 unfold wpOpIn at h7
 rw [GH, hoi] at h7
 simp only at h7
 rw [if_pos (by simp [Region.wanted, hg])] at h7
 have h8 := h7.2
 have hsem : ({ oi with after := #[] } : Oper).semAt (Fw r).round a.eval = execOp a.eval { oi with after := #[] } := Oper.semAt_eq _ _ _ fun c => by rcases ho with ho | ho <;> simp [ho]
 rw [hsem] at h8
 have hrun : (execOp a.eval ({ oi with after := #[] } : Oper)).run P w.drew = .ok (.value (a.eval x)) w.drew := by
  unfold execOp
  rcases ho with ho | ho <;> (simp only [ho]; rfl)
 rw [hrun] at h8
 refine VH hm s _ ((Array.replicate (s + 1) false).setIfInBounds 0 true) _ _ (by simp [hs]) (by simp [hs]) ?_ (fun i hil => ?_) (fun i o hoo e he => ?_) h8
 ·simp [Array.getD, show m < s + 1 by omega]
 ·by_cases e : i = m
  ·subst e
   have : hi i i = 0 := by unfold hi; rw [if_pos rfl]
   rw [this];simp [Array.getD, show i < s + 1 by omega]
  have hne : hi m i ≠ 0 := fun h => by
   have : hi m i = hi m m := by rw [h]; unfold hi; rw [if_pos rfl]
   exact e (TL this)
  rw [getD_set_ne false (fun x => hne x.symm), getD_set_ne false (fun x => e x.symm)];have := TK (ops := ops) hil hm;simp [Array.getD, show i < s + 1 by omega, show hi m i < s + 1 by omega]
 have hil := (Array.getElem?_eq_some_iff.1 hoo).1;have := List.all_eq_true.1 hon i (List.mem_range.2 hil)
 have e2 : ops.getD i default = o := by have := hget i hil; rw [hoo] at this; exact (Option.some.inj this).symm
 rw [e2] at this
 have := Array.all_eq_true_iff_forall_mem.1 this e he
 simpa [Nat.blt_eq] using this
theorem W5.hoistAll {P : Program} {nt : Nat} {rd : Option Nat} {fr : Fr} {H : A0} {Q : Exit → Fr → A0 → Prop} (hQ : ∀ c fr H, ¬ Q (.panic c) fr H) : ∀ (ms : List Nat) (ops : Array Oper), JI ms ops = true → W5 P nt rd (hoistAll ms ops) fr H Q → W5 P nt rd ops fr H Q
 | [], ops, _, h => h
 | m :: ms, ops, hok, h => by
  simp only [JI, Bool.and_eq_true] at hok
  exact W5.hoist hok.1.1 hok.1.2 hQ (W5.hoistAll hQ ms _ hok.2 h)
end Go.Ab
namespace Go.Ab
open Go.RowKit
variable [G5]
section
variable (P : Program) (A : KG) (nt : Nat) (ops : Array Oper)
def VW (o : Oper) (fr : Fr) (H : A0) (K : Fr → A0 → Prop) : Prop :=
 Cw nt o.dst = true ∧
  match U9 ops fr o with
  | some true => Dh P A o (ev fr) H fun v H' => K (fr.put o.dst v) H'
  | some false => K (fr.put o.dst (.tup [])) H
  | none => False
def OK : Nat → Array Bool → Fr → A0 → (Fr → A0 → Prop) → Prop
 | 0, listed, fr, H, K => Region.ready .any ops listed = [] ∧ K fr H
 | n + 1, listed, fr, H, K => (Region.ready .any ops listed = [] → K fr H) ∧
     ∀ i ∈ Region.ready .any ops listed, VW P A nt ops (ops.getD i default) fr H fun fr' H' => OK n (listed.setIfInBounds i true) fr' H' K
end
section
variable {P : Program} {nt : Nat} {ops : Array Oper} {A : KG} {r : Option Nat} {K : Fr → A0 → Prop} {Q : Exit → Act → World → Prop} {g0 : Gh} {w0 : World}
theorem Ra (hQ : ∀ g w a fr H, M4 g0 w0 g w → Rl g H w → FR nt g w a fr → K fr H → Q .normal a w) :
 ∀ (n : Nat) (listed : Array Bool) (fr : Fr) (H : A0), OK P A nt ops n listed fr H K →
  ∀ g w a, M4 g0 w0 g w → Rl g H w → FR nt g w a fr → wpAnyIn (Fw r) 0 P .any ops Q n listed a w
 | 0, listed, fr, H, h, g, w, a, s, hR, hF => ⟨h.1, hQ g w a fr H s hR hF h.2⟩
 | n + 1, listed, fr, H, h, g, w, a, s, hR, hF => by
  refine ⟨fun e => hQ g w a fr H s hR hF (h.1 e), fun i hi => ?_⟩;obtain ⟨h1, _, _⟩ := mem_ready hi;have hs := h.2 i hi
  have eo : ops.getD i default = ops[i] := by simp [Array.getD, h1]
  rw [eo] at hs
  obtain ⟨hd, hs⟩ := hs;have ih := Ra hQ n (listed.setIfInBounds i true);simp only [wpOpIn, Array.getElem?_eq_getElem h1]
  split at hs
  ·rename_i hg;rw [if_pos (N6 hF.s hg)];exact Lc hR hF hd hs fun g' w' a' v H' s' hR' hF' hK => ih _ _ hK g' w' a' (s.trans s') hR' hF'
  ·rename_i hg;rw [if_neg (by rw [N6 hF.s hg]; simp)];exact ⟨fun _ _ => trivial, ih _ _ hs g w _ s hR (hF.put (Bl hd) (VR.und _ _))⟩
  exact hs.elim
theorem W5.all {rd : Option Nat} {fr : Fr} {H0 : A0} {Q : Exit → Fr → A0 → Prop} (h : OK P A nt ops ops.size (Array.replicate ops.size false) fr H0 (Q .normal)) : W5 P nt rd ops fr H0 Q := by
 intro r g w a _ hR hF;have sd : M4 g w g w.drew := ⟨fun _ _ e => e, fun _ _ e => e, fun _ _ e => e, rfl, fun _ _ _ => rfl, (Below.refl _ _).drew, fun _ _ _ => rfl⟩
 have hRd : Rl g H0 w.drew := by
  refine ⟨fun id b hb => (hR.blk id b hb).mono hb sd fun _ _ => ⟨rfl, fun _ ho => ho⟩, hR.inj, hR.frz, hR.nxt, hR.bnd, fun n => (hR.glb n).mono sd⟩
 exact Ra (r := r) (g0 := g) (w0 := w) (fun g' w' a' fr' H' s' hR' hF' hK => ⟨g', fr', H', s', hR', hF', hK⟩) _ _ fr H0 h g w.drew a sd hRd (hF.mono sd)
end
end Go.Ab
namespace Go.Ab
open Go.RowKit
variable [G5] [Ar]
def WP : List Nat → (Nat → Prop) → Prop
 | [], _ => True
 | [i], f => f i
 | i :: l, f => f i ∧ WP l f
theorem OJ : ∀ {l : List Nat} {f : Nat → Prop}, WP l f → ∀ i ∈ l, f i
 | [], _, _, i, h => by cases h
 | [a], f, h, i, hi => by rw [List.mem_singleton.1 hi]; exact h
 | a :: b :: l, f, h, i, hi => by
  rcases List.mem_cons.1 hi with rfl | hi
  ·exact h.1
  exact OJ h.2 i hi
section
variable (E : CM) (T : Dm) (nt : Nat) (A : Nat → Bool) (ops : Array Oper)
def VO (o : Oper) (l : Fl) (H : A0) (K : Fl → A0 → Prop) : Prop :=
 match Cw nt o.dst with
 | true => CN E ops o 4 l (fun G l' wr => Sx E T A G o l' H fun s H' => K (Aw o.dst (wr s) l') H') fun l' => K (Aw o.dst (.v (.tup [])) l') H
 | false => False
end
section
variable {P : Program} {nt : Nat} {rd : Option Nat} {T : Dm} {A : Nat → Bool} {df : List Nat}
end
end Go.Ab
