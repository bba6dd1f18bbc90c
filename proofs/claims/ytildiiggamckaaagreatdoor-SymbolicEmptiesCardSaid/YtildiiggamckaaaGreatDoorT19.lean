/- AbP2 -/
import Derived.Test.YtildiiggamckaaaGreatDoorT18
set_option linter.all false
namespace Go.Ab
open Go.RowKit
variable [G5]
structure KC where
 sx : Operand
 sy : Operand
 nn : Operand
 zz : Operand
 sT : TypeId
 yT : TypeId
 t2 : TypeId
 eT : TypeId
 t3 : TypeId
 tA : Nat
 tI : Nat
 tp : Nat
structure Xd (ops : Array Oper) (nt k : Nat) (p : KC) : Prop where
 lt : k + 3 < ops.size
 a1 : (ops.getD k default).op = .call { callee := .builtin .append, args := #[p.sx, p.sy], argTypes := #[p.sT, p.yT] }
 a2 : (ops.getD k default).dst = some p.tA
 a3 : (ops.getD k default).guard = none
 i1 : (ops.getD (k + 1) default).op = .indexAddr p.t2 (.tmp p.tA) p.nn
 i2 : (ops.getD (k + 1) default).dst = some p.tI
 i3 : (ops.getD (k + 1) default).guard = none
 s1 : (ops.getD (k + 2) default).op = .store p.eT (.tmp p.tI) p.zz
 s2 : (ops.getD (k + 2) default).dst = none
 s3 : (ops.getD (k + 2) default).guard = none
 u1 : (ops.getD (k + 3) default).op = .store p.t3 (.tmp p.tp) (.tmp p.tA)
 u2 : (ops.getD (k + 3) default).dst = none
 u3 : (ops.getD (k + 3) default).guard = none
 n1 : p.tA ≠ p.tI
 n2 : p.tp ≠ p.tA
 n3 : p.tp ≠ p.tI
 n4 : p.nn ≠ .tmp p.tA
 n5 : p.zz ≠ .tmp p.tA
 n6 : p.zz ≠ .tmp p.tI
 n7 : p.tA < nt
 n8 : p.tI < nt
section
variable {P : Program} {nt : Nat} {ops : Array Oper}
structure LC (ops : Array Oper) (listed : Array Bool) (S : Nat → Bool) : Prop where
 size : listed.size = ops.size
 get : ∀ i b, i < ops.size → listed.getD i b = S i
 cl : ∀ m j, listed.getD m false = true → Ap (ops.getD m default) j = true → listed.getD j false = true
theorem LC.step {listed : Array Bool} {S : Nat → Bool} {i : Nat} (h : LC ops listed S) (hi : i ∈ Region.ready .any ops listed) : LC ops (listed.setIfInBounds i true) fun j => j == i || S j := by
 obtain ⟨h1, h2, h3⟩ := mem_ready hi;refine ⟨by simpa using h.size, fun j b hj => ?_, fun m j hm hj => ?_⟩
 ·rw [FE (by rw [h.size]; exact h1), h.get j b hj]
  by_cases e : j = i
  ·subst e; simp
  rw [if_neg e]; simp [e]
 rw [FE (by rw [h.size]; exact h1)] at hm ⊢
 by_cases ej : j = i
 ·rw [if_pos ej]
 rw [if_neg ej]
 by_cases em : m = i
 ·subst em; exact h3 j hj
 rw [if_neg em] at hm; exact h.cl m j hm hj
theorem LC.not {listed : Array Bool} {S : Nat → Bool} {i : Nat} (h : LC ops listed S) (hi : i ∈ Region.ready .any ops listed) : i < ops.size ∧ S i = false ∧ ∀ j, j < ops.size → EV ops HP i j = true → S j = true := by
 obtain ⟨h1, h2, h3⟩ := mem_ready hi;refine ⟨h1, by rw [← h.get i true h1]; exact h2, fun j hj hr => ?_⟩;rw [← h.get j false hj];exact Bd h.cl HP i j h3 hr
theorem LC.ready {listed : Array Bool} {S : Nat → Bool} {i : Nat} (h : LC ops listed S) (h1 : i < ops.size) (h2 : S i = false) (hb : V1 (ops.getD i default) i = true) (h3 : ∀ j, j < i → S j = true) : i ∈ Region.ready .any ops listed :=
 Jv h1 (by rw [h.get i true h1]; exact h2) hb fun j hj => by rw [h.get j false (by omega)]; exact h3 j hj
theorem LC.eq {listed : Array Bool} {S S' : Nat → Bool} (h : LC ops listed S) (e : ∀ i, S i = S' i) : LC ops listed S' := ⟨h.size, fun i b hi => (h.get i b hi).trans (e i), h.cl⟩
theorem Ni {o : Oper} {a : Act} {w : World} {r : Option Nat} {next : Act → World → Prop} {Q : Exit → Act → World → Prop} {Kx : Value → World → Prop} (hnd : ∀ c, o.op ≠ .defer c) (h : D7 P Kx ((execOp a.eval o).run P w)) (hk : ∀ v w', Kx v w' → next (a.put o.dst v) w') : o.wpIn (Fw r) 0 P a w next Q := by
 refine ⟨fun _ _ => trivial, ?_⟩;rw [Oper.semAt_eq _ _ _ hnd];exact CW h hk
theorem Dz {r : Option Nat} {Q : Exit → Act → World → Prop} {fuel i : Nat} {listed : Array Bool} {a : Act} {w : World} {Kx : Value → World → Prop} (h1 : i < ops.size) (hg : (ops.getD i default).guard = none) (hnd : ∀ c, (ops.getD i default).op ≠ .defer c)
 (h : D7 P Kx ((execOp a.eval (ops.getD i default)).run P w)) (hk : ∀ v w', Kx v w' → wpAnyIn (Fw r) 0 P .any ops Q fuel (listed.setIfInBounds i true) (a.put (ops.getD i default).dst v) w') :
 wpOpIn (Fw r) 0 P ops Q i (wpAnyIn (Fw r) 0 P .any ops Q fuel (listed.setIfInBounds i true)) a w := by
 rw [Jb h1] at *
 simp only [wpOpIn, Array.getElem?_eq_getElem h1];rw [if_pos (by simp [Region.wanted, hg])];exact Ni hnd h hk
theorem AV {a : Act} {d : Nat} {v : Value} {x : Operand} (h : x ≠ .tmp d) : (a.put (some d) v).eval x = a.eval x := by
 cases x with
 | tmp t =>
  have : d ≠ t := fun e => h (by rw [e]);simp [Act.eval, Act.put, Array.getElem?_setIfInBounds, this]
 | _ => rfl
theorem IE {a : Act} {d : Nat} {v : Value} (h : d < a.tmps.size) : (a.put (some d) v).eval (.tmp d) = v := by
 simp [Act.eval, Act.put, h]
theorem OB {v : Value} {n : Nat} (h : v.cells.size = n) : (List.range n).map (fun j => v.cells.getD j undef) = v.cells.toList := by
 subst h;apply List.ext_getElem
 ·simp
 intro i h1 h2
 have : i < v.cells.size := by simpa using h2
 simp [Array.getD, this]
theorem Iq {W : World} {B q n : Nat} {c : Array Value} {T t : TypeId} {x y : Operand} {a : Act} {o : Oper} (ho : o.op = .store t x y) (hs : Bw P t = some n) (hx : a.eval x = .pointer (some ⟨B, q, none⟩)) (hc : W.heap[B]? = some (.cells c T (0, 0))) (hsz : (a.eval y).cells.size = n) (hfit : q + n ≤ c.size)
 (h1 : ∀ j, j < n → ((a.eval y).cells.getD j undef).oneCell' = true) : D7 P (fun _ w' => w' = W.setRow B (IA c q n fun j => (a.eval y).cells.getD j undef)) ((execOp a.eval o).run P W) := by
 have hst := Fd (P := P) (f := fun j => (a.eval y).cells.getD j undef) hc hfit h1
 rw [OB hsz] at hst
 unfold execOp; rw [ho];simp only [hx, Instr.storeAt, Instr.sureAddr, storeVar, Sem.run_bind, Sem.run_pure, Result.andThen_ok, H7 hs W, hsz, ne_eq, not_true_eq_false, if_false, hst, D7]
theorem Ue {A : KG} {r : Option Nat} {k : Nat} {p : KC} {K : Fr → A0 → Prop} {Q : Exit → Act → World → Prop} {g0 : Gh} {w0 : World} (hp : Xd ops nt k p)
 (hat : ∀ i, i < ops.size → V1 (ops.getD i default) i = true ∧ ∀ j, j < i → EV ops HP i j = true ∨ i < k ∨ (i = k + 3 ∧ k < j))
 (hQ : ∀ g w a fr H, M4 g0 w0 g w → Rl g H w → FR nt g w a fr → K fr H → Q .normal a w)
 {listed : Array Bool} (hL : LC ops listed fun i => decide (i < k)) {fr : Fr} {H : A0} {xs cs : List V} {tl tl' : D6} {y0 vV z : V} {kk : IntKind} {e : TypeId} {sz by_ idp offp : Nat}
 (hx : Y4 (ev fr p.sx) (.sl xs tl)) (hy : ev fr p.sy = .sl [y0] tl') (hy0 : y0.cells.length = sz) (hn : ev fr p.nn = .int kk (xs.length : Nat)) (hzz : Y4 (ev fr p.zz) vV) (hv1 : vV.one = true) (hvl : vV.cells.length = sz)
 (he : BT P p.sT = some e) (hyT : (BT P p.yT).isSome = true) (he2 : BT P p.t2 = some e) (hsz : Bw P e = some sz) (hse : Bw P p.eT = some sz) (hpos : 0 < sz) (hby : Jc P e = some by_) (hbp : 0 < by_)
 (hz : Er P e = some z) (hz1 : z.one = true) (hzl : z.cells.length = sz) (hA : DE H tl) (hax : xs.all (fun x => x.cells.length == sz) = true) (hbound : (xs.length + 1) * by_ ≤ 140737488355328)
 (hU : fr.s p.tp = .ref idp offp) (hUc : H idp = some (.cells cs)) (hUs : Bw P p.t3 = some 1) (hUf : offp + 1 ≤ cs.length)
 (hK : ∀ t, C9 H tl t = none → DM P A nt ops (ops.toList.drop (k + 4)) ((fr.put (some p.tA) (.sl (xs ++ [vV]) (.tok t))).put (some p.tI) .bad)
  (upd (upd (C9 H tl) t (some .spare)) idp (some (.cells (K9 cs offp [.sl (xs ++ [vV]) (.tok t)])))) K) :
 ∀ g w a, M4 g0 w0 g w → Rl g H w → FR nt g w a fr → wpAnyIn (Fw r) 0 P .any ops Q (ops.size - k) listed a w := by
 intro g w a st hR hF;have hvs := (C4 hR hF.s p.sx).le hx;have hvy := C4 hR hF.s p.sy
 rw [hy] at hvy
 have hvn := C4 hR hF.s p.nn
 rw [hn] at hvn
 have hvn := hvn.int_inv;have hvz := (C4 hR hF.s p.zz).le hzz;obtain ⟨hzc1, hzc2⟩ := hvz.cells hv1
 have hzsz : (a.eval p.zz).cells.size = sz := by rw [hzc1, hvl]
 have hpp : VR g w (a.eval (.tmp p.tp)) (.ref idp offp) := by have := C4 hR hF.s (.tmp p.tp); rwa [show ev fr (.tmp p.tp) = .ref idp offp from hU] at this
 obtain ⟨bp, hmp, hep⟩ : ∃ bp, g.mu idp = some bp ∧ a.eval (.tmp p.tp) = .pointer (some ⟨bp, offp, none⟩) := by
  generalize a.eval (.tmp p.tp) = v at hpp
  cases hpp with
  | ref hm => exact ⟨_, hm, rfl⟩
 obtain ⟨b, off, G, W, C, T, r1, r2, r3, r4, r5, r6, r7⟩ := Qe (P := P) (ty := (ops.getD k default).type) hR hvs he hyT hsz hpos hby hbp hz hz1 hzl hA hax hbound;obtain ⟨f0, hf0, hrA⟩ := r1 y0 tl' _ hvy hy0;obtain ⟨bp', cp, Tp, q1, q2, q3, q4, q5, q6⟩ := hR.blk idp _ hUc
 rw [hmp] at q1; cases q1
 have hdt : C9 H tl idp = some (.cells cs) := by
  cases tl with
  | tok t =>
   have hA' : H t = some .spare := hA
   have : idp ≠ t := fun e => by subst e; rw [hUc] at hA'; cases hA'
   simp only [C9, A3 _ _ this]; exact hUc
  | _ => exact hUc
 have hatp : g.at (C9 H tl) idp = some bp := by simp only [Gh.at, hdt, hmp]
 have hne : bp ≠ b := r6 _ _ hatp;have hplt : bp < w.heap.size := (Array.getElem?_eq_some_iff.1 q3).1
 have hpfit : offp + 1 ≤ cp.size := by omega
 generalize hs' : (Value.slice (some ⟨b, off, none⟩) (xs.length + 1) G) = s' at *
 generalize hfv : (fun j => (a.eval p.zz).cells.getD j undef) = fv
 have hfv1 : ∀ j, j < sz → (fv j).oneCell' = true ∧ VR g w (fv j) (vV.cells.getD j .bad) := fun j hj => by rw [← hfv]; exact hzc2 j (by omega)
 have hs1 : s'.cells = #[s'] := by rw [← hs']; rfl
 have hs2 : ∀ j, j < 1 → (s'.cells.getD j undef).oneCell' = true := fun j hj => by
  rw [show j = 0 by omega, hs1, ← hs']; rfl
 have hsf : (fun j => s'.cells.getD j undef) = fun j => (#[s'] : Array Value).getD j undef := by rw [hs1]
 generalize ha1 : a.put (some p.tA) s' = a1;generalize hA0 : (Value.pointer (some ⟨b, off + xs.length * sz, none⟩)) = pA;generalize ha2 : a1.put (some p.tI) pA = a2
 have hsize1 : a1.tmps.size = nt := by rw [← ha1]; simp [Act.put, hF.size]
 have e1A : a1.eval (.tmp p.tA) = s' := by rw [← ha1]; exact IE (by rw [hF.size]; exact hp.n7)
 have e1n : a1.eval p.nn = .int kk (xs.length : Nat) := by rw [← ha1, AV hp.n4]; exact hvn
 have e1p : a1.eval (.tmp p.tp) = .pointer (some ⟨bp, offp, none⟩) := by rw [← ha1, AV (fun h => hp.n2 (Operand.tmp.inj h))]; exact hep
 have e2A : a2.eval (.tmp p.tA) = s' := by rw [← ha2, AV (fun h => hp.n1 (Operand.tmp.inj h))]; exact e1A
 have e2p : a2.eval (.tmp p.tp) = .pointer (some ⟨bp, offp, none⟩) := by rw [← ha2, AV (fun h => hp.n3 (Operand.tmp.inj h))]; exact e1p
 have e2I : a2.eval (.tmp p.tI) = pA := by rw [← ha2]; exact IE (by rw [hsize1]; exact hp.n8)
 have e2z : a2.eval p.zz = a.eval p.zz := by rw [← ha2, AV hp.n6, ← ha1, AV hp.n5]
 have hndA : ∀ c, (ops.getD k default).op ≠ .defer c := fun c h => by rw [hp.a1] at h; cases h
 have hndI : ∀ c, (ops.getD (k + 1) default).op ≠ .defer c := fun c h => by rw [hp.i1] at h; cases h
 have hndS : ∀ c, (ops.getD (k + 2) default).op ≠ .defer c := fun c h => by rw [hp.s1] at h; cases h
 have hndU : ∀ c, (ops.getD (k + 3) default).op ≠ .defer c := fun c h => by rw [hp.u1] at h; cases h
 have runA : D7 P (fun v w' => v = s' ∧ w' = W f0) ((execOp a.eval (ops.getD k default)).run P w) := by
  rw [J4 hp.a1];simp only [builtin, List.map_toArray, List.map_cons, List.map_nil, Sem.run_bind, hrA, Result.andThen_ok, Sem.run_pure, D7]
  trivial
 have runI : ∀ W' : World, D7 P (fun v w' => v = pA ∧ w' = W') ((execOp a1.eval (ops.getD (k + 1) default)).run P W') := fun W' => by
  have hu := H8 he2;unfold execOp; rw [hp.i1]
  have c1 : (0 : Int) ≤ (xs.length : Nat) := by omega
  have c2 : ((xs.length : Nat) : Int) < ((xs.length + 1 : Nat) : Int) := by omega
  simp only [e1A, ← hs', e1n, Instr.indexAt, asIntOf, Sem.run_bind, Sem.run_pure, Result.andThen_ok, run_underlying hu, c1, c2, and_self, if_true, H7 hsz, D7, Option.map_some, O7, Int.toNat_natCast, hA0]
 have runS : ∀ (W' : World) (c' : Array Value), W'.heap[b]? = some (.cells c' T (0, 0)) → off + xs.length * sz + sz ≤ c'.size → D7 P (fun _ w' => w' = W'.setRow b (IA c' (off + xs.length * sz) sz fv)) ((execOp a2.eval (ops.getD (k + 2) default)).run P W') := fun W' c' h1 h2 => by
  have := Iq (P := P) (a := a2) hp.s1 hse (by rw [e2I, ← hA0]) h1 (by rw [e2z]; exact hzsz) h2 (fun j hj => by rw [e2z]; exact (hzc2 j (by omega)).1)
  rw [e2z, hfv] at this
  exact this
 have runU : ∀ (a' : Act) (W' : World), a'.eval (.tmp p.tA) = s' → a'.eval (.tmp p.tp) = .pointer (some ⟨bp, offp, none⟩) → W'.heap[bp]? = some (.cells cp Tp (0, 0)) → D7 P (fun _ w' => w' = W'.setRow bp (IA cp offp 1 fun j => s'.cells.getD j undef)) ((execOp a'.eval (ops.getD (k + 3) default)).run P W') := fun a' W' h1 h2 h3 => by
  have := Iq (P := P) (a := a') hp.u1 hUs h2 h3 (by rw [h1, hs1]; rfl) hpfit (fun j hj => by rw [h1]; exact hs2 j hj)
  rw [h1] at this
  exact this
 generalize hU' : (IA cp offp 1 fun j => s'.cells.getD j undef) = U at runU
 have hWp : ∀ f, (W f).heap[bp]? = some (.cells cp Tp (0, 0)) := fun f => (r5 bp hne hplt f).trans q3
 have fin : ∀ {l : Array Bool}, LC ops l (fun i => decide (i < k + 4)) → wpAnyIn (Fw r) 0 P .any ops Q (ops.size - (k + 4)) l a2 ((W fv).setRow bp U) := by
  intro l hl;obtain ⟨g', t, s1, hnone, hR1, hvr⟩ := r7 vV fv hvl hfv1
  have hne2 : idp ≠ t := fun e => by subst e; rw [hdt] at hnone; cases hnone
  have hk3 : upd (C9 H tl) t (some .spare) idp = some (.cells cs) := by rw [A3 _ _ hne2]; exact hdt
  have hmp' : g'.mu idp = some bp := s1.mu _ _ hmp;obtain ⟨b2, c2, T2, z1, z2, z3, z4, z5, z6⟩ := hR1.blk idp _ hk3
  rw [hmp'] at z1; cases z1
  rw [hWp fv] at z3
  have ec : c2 = cp := by cases z3; rfl
  subst ec
  have hset := hR1.setNamed (cs' := K9 cs offp [.sl (xs ++ [vV]) (.tok t)]) (c' := U) hk3 hmp' (hWp fv) (by rw [← hU']; exact JT hpfit) (T4 (by simpa using hUf)) (fun j hj => by
   rw [T4 (by simpa using hUf)] at hj
   have hj' : j < c2.size := by omega
   have hg := QL (c := c2) (A := offp) (sz := 1) (f := fun j => s'.cells.getD j undef) hpfit hj'
   rw [hU'] at hg
   rw [Dx (by simpa using hUf)];simp only [Array.getD_eq_getD_getElem?, hg, List.length_singleton]
   by_cases q : offp ≤ j ∧ j < offp + 1
   ·rw [if_pos q, if_pos q];rw [show j - offp = 0 by omega, hs1, ← hs'];refine ⟨rfl, ?_⟩;rw [hs']
    simpa using hvr
   rw [if_neg q, if_neg q];have := z5 j hj
   simpa only [Array.getD_eq_getD_getElem?] using this)
  have hF1 := (hF.mono s1).put (d := some p.tA) (fun t ht => by cases ht; exact hp.n7) hvr
  rw [ha1] at hF1
  have hF2 := hF1.put (d := some p.tI) (v := pA) (V := .bad) (fun t ht => by cases ht; exact hp.n8) (.bad _)
  rw [ha2] at hF2
  have hm : k + 4 ≤ ops.size := hp.lt
  exact Ji (A := A) (r := r) (K := K) (k := k + 4) (fun i hi => ⟨(hat i hi).1, fun j hj hkj => ((hat i hi).2 j hj).elim (fun h => h) fun h => absurd h (by omega)⟩) hQ (ops.size - (k + 4)) (k + 4) l _ _ (by omega) (Nat.le_refl _) hl.size
   hl.get (hK t hnone) g' _ a2 (st.trans (s1.trans hset.1)) hset.2 (hF2.mono hset.1)
 have hlt := hp.lt;rw [show ops.size - k = (ops.size - (k + 4)) + 1 + 1 + 1 + 1 by omega];have bw : ∀ i, i < ops.size → V1 (ops.getD i default) i = true := fun i hi => (hat i hi).1;have rch : ∀ i j, i < ops.size → k ≤ i → j < i → ¬ (i = k + 3 ∧ k < j) → EV ops HP i j = true := fun i j hi hki hj hn => ((hat i hi).2 j hj).elim (fun h => h) fun h => absurd h (by omega)
 have rdyA : k ∈ Region.ready .any ops listed := hL.ready (by omega) (by simp) (bw _ (by omega)) fun j hj => by simpa using hj
 refine ⟨fun e => (by rw [e] at rdyA; cases rdyA), fun i hi => ?_⟩;obtain ⟨h1, h2, h3⟩ := hL.not hi
 have ik : i = k := by
  have : k ≤ i := by simpa using h2
  rcases Nat.lt_or_ge k i with h | h
  ·have := h3 k (by omega) (rch i k h1 (by omega) h (by omega)); exact absurd this (by simp)
  omega
 subst ik;refine Dz h1 hp.a3 hndA runA fun v w1 ⟨ev1, ew1⟩ => ?_;subst ev1; subst ew1;rw [hp.a2, ha1];have hL1 := hL.step hi
 have rdyI : i + 1 ∈ Region.ready .any ops (listed.setIfInBounds i true) := hL1.ready (by omega) (by simp) (bw _ (by omega)) fun j hj => by simp; omega
 refine ⟨fun e => (by rw [e] at rdyI; cases rdyI), fun i2 hi2 => ?_⟩;obtain ⟨h1, h2, h3⟩ := hL1.not hi2
 have ik : i2 = i + 1 ∨ i2 = i + 3 := by
  simp at h2
  rcases Nat.lt_or_ge (i + 1) i2 with h | h
  ·rcases Nat.lt_or_ge i2 (i + 3) with h' | h'
   ·have := h3 (i + 1) (by omega) (rch i2 (i + 1) h1 (by omega) h (by omega)); exact absurd this (by simp <;> omega)
   rcases Nat.lt_or_ge (i + 3) i2 with h'' | h''
   ·have := h3 (i + 1) (by omega) (rch i2 (i + 1) h1 (by omega) h (by omega)); exact absurd this (by simp <;> omega)
   omega
  omega
 have hWf0 : ((W f0).setRow b (IA (C f0) (off + xs.length * sz) sz fv)).setRow bp U = (W fv).setRow bp U := by rw [r4]
 have hcm : ((W f0).setRow bp U).setRow b (IA (C f0) (off + xs.length * sz) sz fv) = (W fv).setRow bp U := by rw [Nx _ _ _ hne, r4]
 have hbU : ((W f0).setRow bp U).heap[b]? = some (.cells (C f0) T (0, 0)) := (I1 _ _ _ _ hne.symm).trans (r3 f0).1
 have lastS : ∀ {l : Array Bool}, LC ops l (fun j => decide (j < i + 2) || j == i + 3) → wpAnyIn (Fw r) 0 P .any ops Q (ops.size - (i + 4) + 1) l a2 ((W f0).setRow bp U) := fun {l} hl => by
  have rdy : i + 2 ∈ Region.ready .any ops l := hl.ready (by omega) (by simp) (bw _ (by omega)) fun j hj => by simp; omega
  refine ⟨fun e => (by rw [e] at rdy; cases rdy), fun i3 hi3 => ?_⟩;obtain ⟨h1, h2, h3⟩ := hl.not hi3
  have ik : i3 = i + 2 := by
   simp at h2
   rcases Nat.lt_or_ge (i + 2) i3 with h | h
   ·have := h3 (i + 2) (by omega) (rch i3 (i + 2) h1 (by omega) h (by omega)); exact absurd this (by simp <;> omega)
   omega
  subst ik;refine Dz h1 hp.s3 hndS (runS _ _ hbU (r3 f0).2) fun v w1 ew => ?_;rw [ew, hcm, hp.s2];exact fin ((hl.step hi3).eq fun j => by rw [Bool.eq_iff_iff]; simp; omega)
 rcases ik with rfl | rfl
 ·refine Dz h1 hp.i3 hndI (runI _) fun v w1 ⟨ev1, ew1⟩ => ?_;subst ev1; subst ew1;rw [hp.i2, ha2]
  have hL2 := (hL1.step hi2).eq (S' := fun j => decide (j < i + 2)) fun j => by rw [Bool.eq_iff_iff]; simp; omega
  have rdyS : i + 2 ∈ Region.ready .any ops ((listed.setIfInBounds i true).setIfInBounds (i + 1) true) := hL2.ready (by omega) (by simp) (bw _ (by omega)) fun j hj => by simp; omega
  refine ⟨fun e => (by rw [e] at rdyS; cases rdyS), fun i3 hi3 => ?_⟩;obtain ⟨h1, h2, h3⟩ := hL2.not hi3
  have ik : i3 = i + 2 ∨ i3 = i + 3 := by
   simp at h2
   rcases Nat.lt_or_ge (i + 3) i3 with h | h
   ·have := h3 (i + 2) (by omega) (rch i3 (i + 2) h1 (by omega) (by omega) (by omega)); exact absurd this (by simp <;> omega)
   omega
  rcases ik with rfl | rfl
  ·refine Dz h1 hp.s3 hndS (runS _ _ (r3 f0).1 (r3 f0).2) fun v w1 ew => ?_;rw [ew, r4, hp.s2]
   have hL3 := (hL2.step hi3).eq (S' := fun j => decide (j < i + 3)) fun j => by rw [Bool.eq_iff_iff]; simp; omega
   have rdyU : i + 3 ∈ Region.ready .any ops (((listed.setIfInBounds i true).setIfInBounds (i + 1) true).setIfInBounds (i + 2) true) := hL3.ready (by omega) (by simp) (bw _ (by omega)) fun j hj => by simp; omega
   refine ⟨fun e => (by rw [e] at rdyU; cases rdyU), fun i4 hi4 => ?_⟩;obtain ⟨h1, h2, h3⟩ := hL3.not hi4
   have ik : i4 = i + 3 := by
    simp at h2
    rcases Nat.lt_or_ge (i + 3) i4 with h | h
    ·have := h3 (i + 3) (by omega) (rch i4 (i + 3) h1 (by omega) h (by omega)); exact absurd this (by simp <;> omega)
    omega
   subst ik;refine Dz h1 hp.u3 hndU (runU a2 _ e2A e2p (hWp fv)) fun v w1 ew => ?_;rw [ew, hp.u2];exact fin ((hL3.step hi4).eq fun j => by rw [Bool.eq_iff_iff]; simp; omega)
  refine Dz h1 hp.u3 hndU (runU a2 _ e2A e2p (hWp f0)) fun v w1 ew => ?_;rw [ew, hp.u2];exact lastS ((hL2.step hi3).eq fun j => by rw [Bool.eq_iff_iff]; simp; omega)
 refine Dz h1 hp.u3 hndU (runU a1 _ e1A e1p (hWp f0)) fun v w1 ew => ?_;rw [ew, hp.u2]
 have hL2 := (hL1.step hi2).eq (S' := fun j => decide (j < i + 1) || j == i + 3) fun j => by rw [Bool.eq_iff_iff]; simp; omega
 have rdy : i + 1 ∈ Region.ready .any ops ((listed.setIfInBounds i true).setIfInBounds (i + 3) true) := hL2.ready (by omega) (by simp) (bw _ (by omega)) fun j hj => by simp; omega
 refine ⟨fun e => (by rw [e] at rdy; cases rdy), fun i3 hi3 => ?_⟩;obtain ⟨h1, h2, h3⟩ := hL2.not hi3
 have ik : i3 = i + 1 := by
  simp at h2
  rcases Nat.lt_or_ge (i + 1) i3 with h | h
  ·have := h3 (i + 1) (by omega) (rch i3 (i + 1) h1 (by omega) h (by omega)); exact absurd this (by simp <;> omega)
  omega
 subst ik;refine Dz h1 hp.i3 hndI (runI _) fun v w1 ⟨ev1, ew1⟩ => ?_;subst ev1; subst ew1;rw [hp.i2];have := lastS ((hL2.step hi3).eq fun j => by rw [Bool.eq_iff_iff]; simp; omega)
 rw [← ha2] at this
 exact this
end
end Go.Ab
