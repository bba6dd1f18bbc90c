/- AbA16 -/
import Derived.Test.YtpapabjndpgcnaaGreatT11
set_option linter.all false

namespace Go.Ab
open Go.RowKit
variable [Glob]
section
variable {P : Program} {nt : Nat} {ops : Array Oper} {H0 : Heap}
theorem VR.ref_inv {g : Gh} {w : World} {v : Value} {id off : Nat} (h : VR g w v (.ref id off)) : ∃ b, v = .pointer (some ⟨b, off, none⟩) ∧ g.mu id = some b := by
 cases h with
 | ref hm => exact ⟨_, rfl, hm⟩
def KeyOk (fr : Fr) (g : Gh) (a : Act) (id : Nat) : Pk → Prop
 | .inl d => fr.s d = .bad ∧ ∃ b, g.mu id = some b ∧ a.tmps.getD d undef = .pointer (some ⟨b, 0, none⟩)
 | .inr n => id = n
 | .tk _ => True
 | .ex => True
def TkOk (fr : Fr) (g : Gh) (w : World) (a : Act) (H H0 : Heap) (tt : Option Nat) (d : Nat) : Prop :=
 ∃ xs tl, fr.s d = .sl xs .ro ∧ VR g w (a.tmps.getD d undef) (.sl xs tl) ∧ ((tt = none ∧ (tl = .nil ∨ tl = .full)) ∨ ∃ t, tt = some t ∧ tl = .tok t ∧ H t = some .spare ∧ H0 t = none)
def DInv (nt : Nat) (H0 : Heap) (g0 : Gh) (w0 : World) (fr : Fr) (pv : Pv) (g : Gh) (w : World) (a : Act) : Prop :=
 ∃ (H : Heap) (ids : Pk → Nat), Stp g0 w0 g w ∧ Rl g H w ∧ FR nt g w a fr ∧ (∀ id b, H0 id = some b → H id = some b) ∧
  (∀ d cs, pv d = some cs → d.var = true → H (ids d) = some (.cells cs) ∧ H0 (ids d) = none ∧ KeyOk fr g a (ids d) d) ∧
  (∀ d d' cs cs', pv d = some cs → pv d' = some cs' → d.var = true → d'.var = true → ids d = ids d' → d = d') ∧
  ∃ tks : Nat → Option Nat, (∀ d cs, pv (.tk d) = some cs → TkOk fr g w a H H0 (tks d) d) ∧
   (∀ d d' cs cs' t, pv (.tk d) = some cs → pv (.tk d') = some cs' → tks d = some t → tks d' = some t → d = d') ∧
   ∀ cs, pv .ex = some cs → ∃ τ, cs = [.sl [] τ] ∧ ((τ = .nil ∨ τ = .full) ∨ ∃ t, τ = .tok t ∧ H t = some .spare ∧ H0 t = none ∧ ∀ d cs', pv (.tk d) = some cs' → tks d ≠ some t)
theorem tmps_put {a : Act} {D : Option Tmp} {v : Value} {d : Nat} (h : D ≠ some d) : (a.put D v).tmps.getD d undef = a.tmps.getD d undef := by
 cases D with
 | none => rfl
 | some e =>
  have hne : e ≠ d := fun x => h (by rw [x])
  simp only [Act.put, Array.getD_eq_getD_getElem?, Array.getElem?_setIfInBounds]
  rw [if_neg hne]
theorem tmps_put_same {a : Act} {d : Nat} {v : Value} (h : d < a.tmps.size) : (a.put (some d) v).tmps.getD d undef = v := by
 simp [Act.put, Array.getD, h]
theorem put_s_other {fr : Fr} {D : Option Tmp} {v : V} {d : Nat} (h : D ≠ some d) : (fr.put D v).s d = fr.s d := by
 cases D with
 | none => rfl
 | some e =>
  have hne : d ≠ e := fun x => h (by rw [x])
  simp [Fr.put, hne]
theorem pv_ne {pv : Pv} {D : Option Tmp} {d : Nat} {cs : List V} (hf : dstFree pv D) (h : pv (.inl d) = some cs) : D ≠ some d := by
 intro e; rw [free_inl hf e] at h; cases h
theorem pv_neT {pv : Pv} {D : Option Tmp} {d : Nat} {cs : List V} (hf : dstFree pv D) (h : pv (.tk d) = some cs) : D ≠ some d := by
 intro e; rw [free_tk hf e] at h; cases h
theorem TkOk.keep {D : Option Tmp} {fr : Fr} {g g' : Gh} {w w' : World} {a : Act} {H H' H0 : Heap} {tt : Option Nat} {d : Nat} {x : V} {u : Value} (hk : TkOk fr g w a H H0 tt d) (hne : D ≠ some d) (s : Stp g w g' w') (hH : ∀ t, tt = some t → H t = some .spare → H' t = some .spare) : TkOk (fr.put D x) g' w' (a.put D u) H' H0 tt d := by
 obtain ⟨xs, tl, h1, h2, h3⟩ := hk
 refine ⟨xs, tl, (put_s_other hne).trans h1, by rw [tmps_put hne]; exact h2.mono s, h3.imp (fun h => h) fun ⟨t, e1, e2, e3, e4⟩ => ⟨t, e1, e2, hH t e1 e3, e4⟩⟩
theorem KeyOk.keep {pv : Pv} {D : Option Tmp} {fr : Fr} {g g' : Gh} {w w' : World} {a : Act} {id : Nat} {k : Pk} {cs : List V} {x : V} {u : Value} (hk : KeyOk fr g a id k) (hf : dstFree pv D) (h : pv k = some cs) (s : Stp g w g' w') : KeyOk (fr.put D x) g' (a.put D u) id k := by
 cases k with
 | inl d =>
  obtain ⟨k3, b, k4, k5⟩ := hk
  have hne := pv_ne hf h
  exact ⟨(put_s_other hne).trans k3, b, s.mu _ _ k4, (tmps_put hne).trans k5⟩
 | inr n => exact hk
 | tk n => trivial
 | ex => trivial
theorem dstOk_lt {D : Option Tmp} (h : dstOk nt D = true) : ∀ t, D = some t → t < nt := by
 intro t ht; rw [ht] at h; simpa [dstOk] using h
theorem draw_step {r : Option Nat} {g0 g : Gh} {w0 w : World} {a : Act} {o : Oper} {fr : Fr} {pv : Pv} {K : Fr → Pv → Prop} {next : Act → World → Prop} {Q : Exit → Act → World → Prop} (hI : DInv nt H0 g0 w0 fr pv g w a)
 (h : drawS P nt ops H0 o fr pv K) (hn : ∀ g' w' a' fr' pv', DInv nt H0 g0 w0 fr' pv' g' w' a' → K fr' pv' → next a' w') :
 if Region.wanted o (yielded ops a.tmps) then o.wpIn (Fw r) 0 P a w next Q else (∀ f, o.about P w a.eval = some f → (Fw r).fn f) ∧ next (a.put o.dst undef) w := by
 obtain ⟨H, ids, s, hR, hF, hext, hpv, hinj, tks, htk, htj, hexx⟩ := hI
 obtain ⟨⟨hd, hfree⟩, u0, pv1, h, hK⟩ := h
 rcases h with ⟨o1, o2, hq, rfl⟩ | ⟨t, z, d, ho, hg, e1, e2, e3, rfl, rfl⟩ | ⟨t, d, y, key, off, cs, ho, hg, e1, e2, e3, e4, rfl, rfl⟩ | ⟨dd, src, hdd, ⟨hg, sx, sy, sT, yT, xs, tlx, ys, tly, xs', ys', ho, q1, q2, q3, q4, rfl⟩, rfl⟩
 ·
  have keep : ∀ {g' : Gh} {w' : World} {u : Value} {x : V}, Stp g w g' w' → Rl g' H w' → VR g' w' u x → DInv nt H0 g0 w0 (fr.put o.dst x) pv1 g' w' (a.put o.dst u) := by
   intro g' w' u x s' hR' hv
   refine ⟨H, ids, s.trans s', hR', (hF.mono s').put (dstOk_lt hd) hv, hext, fun d cs hdc hvar => ?_, hinj, tks, fun d cs hdc => (htk d cs hdc).keep (pv_neT hfree hdc) s' fun _ _ h => h, htj, hexx⟩
   obtain ⟨k1, k2, k3⟩ := hpv d cs hdc hvar
   exact ⟨k1, k2, k3.keep hfree hdc s'⟩
  unfold QStep at hq
  split at hq
  ·rename_i hgd
   rw [if_pos (guard_wanted hF.s hgd)]
   refine ⟨fun _ _ => trivial, ?_⟩
   have hnd : ∀ c, o.op ≠ .defer c := by
    intro c hc; simp [opQ, hc] at hq
   rw [Oper.semAt_eq _ _ _ hnd]
   refine nextW_upon (opQ_sound (opQ_mono hext hq) (K := fun x H' => x = u0 ∧ H' = H) ⟨rfl, rfl⟩ g w a hR hF.s) fun u w' ⟨g', x, H', s', hR', hv, hx, hH⟩ => ?_
   subst hx; subst hH
   exact hn _ _ _ _ _ (keep s' hR' hv) hK
  ·rename_i hgd
   rw [if_neg (by rw [guard_wanted hF.s hgd]; simp)]
   subst hq
   exact ⟨fun _ _ => trivial, hn _ _ _ _ _ (keep (Stp.refl _ _) hR (VR.und _ _)) hK⟩
  ·exact hq.elim
 ·
  have hw : Region.wanted o (yielded ops a.tmps) = true := by simp [Region.wanted, hg]
  rw [if_pos hw]
  refine ⟨fun _ _ => trivial, ?_⟩
  rw [Oper.semAt_eq _ _ _ (by intro c hc; rw [ho] at hc; cases hc)]
  obtain ⟨zv, ez, hzv⟩ := zeO_run e2
  have hr : VR g w zv z := by rw [ez]; exact cv_rel g w zv
  obtain ⟨g', id, hid, s', hR', hv'⟩ := alloc_named hR t hr e3
  have hid0 : H0 id = none := by
   cases hx : H0 id with
   | none => rfl
   | some b => rw [hext _ _ hx] at hid; cases hid
  have hmu : g'.mu id = some w.heap.size := by
   obtain ⟨b, e, hm⟩ := hv'.ref_inv
   cases e; exact hm
  have hrun : (execOp a.eval o).run P w = .ok (.value (.pointer (some ⟨w.heap.size, 0, none⟩))) (w.alloc (.cells zv.cells t)) := by
   unfold execOp; rw [ho]
   simp only [Instr.alloc, Sem.run_bind, hzv, Result.andThen_ok]
   rfl
  rw [hrun]
  refine hn g' _ _ (fr.put o.dst .bad) _ ⟨_, fun x => if x = .inl d then id else ids x, s.trans s', hR', (hF.mono s').put (dstOk_lt hd) (.bad _), fun x b hx => ?_, fun x cs hx hvar => ?_, fun x x' cs cs' hx hx' v1 v2 hxx => ?_, tks, fun x cs hx => ?_, fun x x' cs cs' t hx hx' => ?_, fun cs hx => ?_⟩ hK
  ·have hne : x ≠ id := fun e => by subst e; rw [hid0] at hx; cases hx
   rw [upd_other _ _ hne]; exact hext _ _ hx
  ·by_cases hxd : x = .inl d
   ·subst hxd
    simp only [pvSet, if_true, Option.some.injEq] at hx
    subst hx
    simp only [if_true]
    refine ⟨upd_same _ _ _, hid0, by rw [e1]; simp [Fr.put], w.heap.size, hmu, ?_⟩
    rw [e1]
    exact tmps_put_same (by rw [hF.size]; exact dstOk_lt hd _ e1)
   ·simp only [pvSet, if_neg hxd] at hx
    obtain ⟨k1, k2, k3⟩ := hpv x cs hx hvar
    simp only [if_neg hxd]
    have hne : ids x ≠ id := fun e => by rw [e, hid] at k1; cases k1
    exact ⟨(upd_other _ _ hne).trans k1, k2, k3.keep hfree hx s'⟩
  ·by_cases h1 : x = .inl d <;> by_cases h2 : x' = .inl d
   ·rw [h1, h2]
   ·simp only [if_pos h1, if_neg h2] at hxx
    simp only [pvSet, if_neg h2] at hx'
    have := (hpv x' cs' hx' v2).1
    rw [← hxx, hid] at this; cases this
   ·simp only [if_neg h1, if_pos h2] at hxx
    simp only [pvSet, if_neg h1] at hx
    have := (hpv x cs hx v1).1
    rw [hxx, hid] at this; cases this
   ·simp only [if_neg h1, if_neg h2] at hxx
    simp only [pvSet, if_neg h1] at hx
    simp only [pvSet, if_neg h2] at hx'
    exact hinj _ _ _ _ hx hx' v1 v2 hxx
  ·rw [pvSet_ne (by simp)] at hx
   refine (htk x cs hx).keep (pv_neT hfree hx) s' fun t _ h => ?_
   rw [upd_other _ _ fun e => by subst e; rw [hid] at h; cases h]; exact h
  ·rw [pvSet_ne (by simp)] at hx hx'
   exact htj x x' cs cs' t hx hx'
  ·rw [pvSet_ne (by simp)] at hx
   obtain ⟨τ, h1, h2⟩ := hexx cs hx
   refine ⟨τ, h1, h2.imp (fun h => h) fun ⟨t, j1, j2, j3, j4⟩ => ⟨t, j1, ?_, j3, fun d cs' hd => ?_⟩⟩
   ·rw [upd_other _ _ fun e => by subst e; rw [hid] at j2; cases j2]; exact j2
   ·rw [pvSet_ne (by simp)] at hd; exact j4 d cs' hd
 ·
  have hw : Region.wanted o (yielded ops a.tmps) = true := by simp [Region.wanted, hg]
  rw [if_pos hw]
  refine ⟨fun _ _ => trivial, ?_⟩
  rw [Oper.semAt_eq _ _ _ (by intro c hc; rw [ho] at hc; cases hc)]
  have hpk := e1.at
  have hkv : key.var = true := by rcases e1 with ⟨rfl, _⟩ | ⟨id, rfl, _⟩ <;> rfl
  obtain ⟨k1, k2, k3⟩ := hpv key cs hpk hkv
  obtain ⟨fr2, hE', hevd, hevy⟩ : ∃ fr2, ER g w a fr2 ∧ ev fr2 (.tmp d) = .ref (ids key) off ∧ ev fr2 y = ev fr y := by
   rcases e1 with ⟨rfl, rfl, hp⟩ | ⟨id, rfl, hs, _, hp⟩
   ·obtain ⟨k3, b, k4, k5⟩ := k3
    have hyd : y ≠ .tmp d := by
     intro e; subst e; simp [ev, k3, V.one] at e2
    refine ⟨fr.put (some d) (.ref (ids (.inl d)) 0), fun x => ?_, by simp [ev, Fr.put], ev_put fun t ht e => hyd (by rw [e]; cases ht; rfl)⟩
    simp only [Fr.put]
    split
    ·rename_i e; subst e; rw [k5]; exact .ref k4
    ·exact hF.s x
   ·have k3 : ids (.inr id) = id := k3
    exact ⟨fr, hF.s, by simp only [ev]; rw [hs, k3], rfl⟩
  have hst : storeV P H t (ev fr2 (.tmp d)) (ev fr2 y) = some (upd H (ids key) (some (.cells (splice cs off (ev fr y).cells)))) := by
   rw [hevy, hevd]
   simp only [storeV, e3, k1]
   rw [if_pos ⟨e2, trivial, by omega⟩]
  refine nextW_upon (sim_store ho hst (K := fun x H' => H' = upd H (ids key) (some (.cells (splice cs off (ev fr y).cells)))) rfl g w a hR hE') fun u w' ⟨g', x, H', s', hR', hv, hH⟩ => ?_
  subst hH
  refine hn g' w' _ (fr.put o.dst .bad) _ ⟨_, ids, s.trans s', hR', (hF.mono s').put (dstOk_lt hd) (.bad _), fun x b hx => ?_, fun x cs' hx hvar => ?_, fun x x' cs1 cs2 hx hx' v1 v2 hxx => ?_, tks, fun x cs hx => ?_, fun x x' cs cs' t hx hx' => ?_, fun cs hx => ?_⟩ hK
  ·have hne : x ≠ ids key := fun e => by rw [e, k2] at hx; cases hx
   rw [upd_other _ _ hne]; exact hext _ _ hx
  ·by_cases hxd : x = key
   ·subst hxd
    simp only [pvSet, if_true, Option.some.injEq] at hx
    subst hx
    exact ⟨upd_same _ _ _, k2, k3.keep hfree hpk s'⟩
   ·simp only [pvSet, if_neg hxd] at hx
    obtain ⟨j1, j2, j3⟩ := hpv x cs' hx hvar
    have hne : ids x ≠ ids key := fun e => hxd (hinj _ _ _ _ hx hpk hvar hkv e)
    exact ⟨(upd_other _ _ hne).trans j1, j2, j3.keep hfree hx s'⟩
  ·have back : ∀ {x : Pk} {c : List V}, pvSet pv key (splice cs off (ev fr y).cells) x = some c → ∃ c', pv x = some c' := by
    intro x c hx
    by_cases hxd : x = key
    ·subst hxd; exact ⟨cs, hpk⟩
    ·simp only [pvSet, if_neg hxd] at hx; exact ⟨c, hx⟩
   obtain ⟨_, hx⟩ := back hx
   obtain ⟨_, hx'⟩ := back hx'
   exact hinj _ _ _ _ hx hx' v1 v2 hxx
  ·rw [pvSet_ne fun e => e1.key x e.symm] at hx
   refine (htk x _ hx).keep (pv_neT hfree hx) s' fun t _ h => ?_
   rw [upd_other _ _ fun e => by subst e; rw [k1] at h; cases h]; exact h
  ·rw [pvSet_ne fun e => e1.key x e.symm] at hx
   rw [pvSet_ne fun e => e1.key x' e.symm] at hx'
   exact htj x x' _ _ t hx hx'
  ·rw [pvSet_ne fun e => e1.keyx e.symm] at hx
   obtain ⟨τ, h1, h2⟩ := hexx _ hx
   refine ⟨τ, h1, h2.imp (fun h => h) fun ⟨t, j1, j2, j3, j4⟩ => ⟨t, j1, ?_, j3, fun d cs' hd => ?_⟩⟩
   ·rw [upd_other _ _ fun e => by subst e; rw [k1] at j2; cases j2]; exact j2
   ·rw [pvSet_ne fun e => e1.key d e.symm] at hd; exact j4 d cs' hd
 ·
  have hw : Region.wanted o (yielded ops a.tmps) = true := by simp [Region.wanted, hg]
  rw [if_pos hw]
  refine ⟨fun _ _ => trivial, ?_⟩
  rw [Oper.semAt_eq _ _ _ (by intro c hc; rw [ho] at hc; cases hc)]
  obtain ⟨e, sz, by_, z, c1, c2, c3, c4, c5, c6, c7, c8, c9, l1, l2, c10, c11, c12⟩ := q4
  obtain ⟨fr2, tl, tly2, hE', h1, h2, hA, hsrc⟩ : ∃ fr2 tl tly2, ER g w a fr2 ∧ ev fr2 sx = .sl xs tl ∧ ev fr2 sy = .sl ys tly2 ∧ AppOk H tl ∧
   ∀ t, tl = .tok t → H t = some .spare ∧ H0 t = none ∧ (∀ d cs, pvDel pv src (.tk d) = some cs → tks d ≠ some t) ∧ ∀ τ, pvDel pv src .ex = some [.sl [] τ] → τ ≠ .tok t := by
   rcases src with _ | ⟨d⟩ | ⟨d⟩ | ⟨d⟩ | _
   ·exact ⟨fr, tlx, tly, hF.s, q1, q2, (by rcases q3 with rfl | rfl <;> trivial), fun t ht => by rcases q3 with h | h <;> rw [h] at ht <;> cases ht⟩
   ·exact q3.elim
   ·exact q3.elim
   rotate_left
   ·have q3 : pv .ex = some [.sl [] tlx] := q3
    obtain ⟨τ, e1, e2⟩ := hexx _ q3
    have e1 : tlx = τ := by cases e1; rfl
    subst e1
    refine ⟨fr, tlx, tly, hF.s, q1, q2, ?_, fun t ht => ?_⟩
    ·rcases e2 with (rfl | rfl) | ⟨t, rfl, j2, _⟩
     ·trivial
     ·trivial
     ·exact j2
    ·rcases e2 with (h | h) | ⟨t', h, j2, j3, j4⟩
     ·rw [h] at ht; cases ht
     ·rw [h] at ht; cases ht
     ·rw [h] at ht; cases ht
      exact ⟨j2, j3, fun d cs hd => j4 d cs (pvDel_some hd).1, fun τ hx => absurd rfl ((pvDel_some hx).2 _ rfl)⟩
   ·obtain ⟨rfl, rfl, q5⟩ := q3
    obtain ⟨cs0, hcs⟩ := Option.isSome_iff_exists.1 q5
    obtain ⟨xs2, tl, t1, t2, t3⟩ := htk d cs0 hcs
    have ex : xs2 = xs := by
     have : fr.s d = .sl xs .ro := q1
     rw [t1] at this; cases this; rfl
    subst ex
    have hA : AppOk H tl := by
     rcases t3 with ⟨_, rfl | rfl⟩ | ⟨t, _, rfl, h, _⟩
     ·trivial
     ·trivial
     ·exact h
    have hs2 : ∀ t, tl = .tok t → H t = some .spare ∧ H0 t = none ∧ (∀ d' cs, pvDel pv (some (.tk d)) (.tk d') = some cs → tks d' ≠ some t) ∧ ∀ τ, pvDel pv (some (.tk d)) .ex = some [.sl [] τ] → τ ≠ .tok t := by
     intro t ht
     rcases t3 with ⟨_, h⟩ | ⟨t', h1, h2, h3, h4⟩
     ·rcases h with h | h <;> rw [h] at ht <;> cases ht
     ·rw [h2] at ht; cases ht
      refine ⟨h3, h4, fun d' cs hd' he => ?_, fun τ hx he => ?_⟩
      ·obtain ⟨hp1, hp2⟩ := pvDel_some hd'
       have := htj d' d _ _ _ hp1 hcs he h1
       subst this
       exact hp2 _ rfl rfl
      ·obtain ⟨τ', e1, e2⟩ := hexx _ (pvDel_some hx).1
       cases e1
       rcases e2 with (h | h) | ⟨t2, h, _, _, j4⟩
       ·rw [h] at he; cases he
       ·rw [h] at he; cases he
       ·rw [h] at he; cases he; exact j4 d _ hcs h1
    by_cases hyd : sy = .tmp d
    ·subst hyd
     have : ys = xs2 := by
      have e1 : fr.s d = .sl ys tly := q2
      rw [t1] at e1; cases e1; rfl
     subst this
     exact ⟨fr.put (some d) (.sl ys tl), tl, tl, fun x => (by
      simp only [Fr.put]; split
      ·rename_i e; subst e; exact t2
      ·exact hF.s x), by simp [ev, Fr.put], by simp [ev, Fr.put], hA, hs2⟩
    ·exact ⟨fr.put (some d) (.sl xs2 tl), tl, tly, fun x => (by
      simp only [Fr.put]; split
      ·rename_i e; subst e; exact t2
      ·exact hF.s x), by simp [ev, Fr.put], by rw [ev_put fun t ht e => hyd (by rw [e]; cases ht; rfl)]; exact q2, hA, hs2⟩
  have hsim := sim_append (P := P) (K := fun x H' => ∃ zs tl', LeV x (.sl (xs' ++ ys') tl') ∧ zs = xs' ++ ys' ∧ ((ys = [] ∧ tl' = tl ∧ H' = H) ∨ ∃ t, tl' = .tok t ∧ dropTok H tl t = none ∧ H' = upd (dropTok H tl) t (some .spare))) ho h1 h2 c1 c2 c3 c4 c5 c6 c7 c8 c9 hA (l1.sz c10) (l2.sz c11) (by rw [l1.length, l2.length]; exact c12)
   (fun e => ⟨_, tl, by subst e; cases l2; rw [List.append_nil]; exact .slt _ l1, rfl, .inl ⟨e, rfl, rfl⟩⟩) (fun t _ ht => ⟨_, .tok t, .slt _ (l1.append l2), rfl, .inr ⟨t, rfl, ht, rfl⟩⟩)
  refine nextW_upon (hsim g w a hR hE') fun u w' ⟨g', x, H', s', hR', hv, zs, tl', hle, _, hcase⟩ => ?_
  have hv := hv.le hle
  have hvro : VR g' w' u (.sl (xs' ++ ys') .ro) := Wk.ro _ _ _ _ _ hv
  have keepB : ∀ id b, H id = some b → b ≠ .spare → H' id = some b := fun id b hb hne => by
   rcases hcase with ⟨_, _, rfl⟩ | ⟨t, _, ht, rfl⟩
   ·exact hb
   ·have hdr : dropTok H tl id = some b := by
     cases tl with
     | tok t0 =>
      have : id ≠ t0 := fun e => by subst e; rw [show H id = some .spare from hA] at hb; cases hb; exact hne rfl
      simp only [dropTok]; rw [upd_other _ _ this]; exact hb
     | _ => exact hb
    rw [upd_other _ _ fun e => by subst e; rw [ht] at hdr; cases hdr]
    exact hdr
  have keepS : ∀ t, H t = some .spare → tl ≠ .tok t → H' t = some .spare := fun t hb hne => by
   rcases hcase with ⟨_, _, rfl⟩ | ⟨t1, _, ht, rfl⟩
   ·exact hb
   ·have hdr : dropTok H tl t = some .spare := by
     cases tl with
     | tok t0 =>
      simp only [dropTok]; rw [upd_other _ _ fun e => by subst e; exact hne rfl]; exact hb
     | _ => exact hb
    rw [upd_other _ _ fun e => by subst e; rw [ht] at hdr; cases hdr]
    exact hdr
  have hH0 : ∀ id b, H0 id = some b → H' id = some b := fun id b hb => by
   by_cases hsp : b = .spare
   ·subst hsp
    refine keepS id (hext _ _ hb) fun e => ?_
    have := (hsrc id e).2.1
    rw [this] at hb; cases hb
   ·exact keepB id b (hext _ _ hb) hsp
  let tks' : Nat → Option Nat := fun x => if x = dd then (match tl' with | .tok t => some t | _ => none) else tks x
  have hddl : dd < nt := dstOk_lt hd dd hdd
  have hnew : ∀ t, tl' = .tok t → H' t = some .spare ∧ H0 t = none ∧ (∀ d cs, pvDel pv src (.tk d) = some cs → tks d = some t → False) ∧ ∀ τ, pvDel pv src .ex = some [.sl [] τ] → τ ≠ .tok t := fun t ht => by
   rcases hcase with ⟨e0, e1, rfl⟩ | ⟨t1, e1, htn, rfl⟩
   ·rw [e1] at ht
    obtain ⟨h3, h4, h5, h6⟩ := hsrc t ht
    exact ⟨h3, h4, fun d cs hdc htd => h5 d cs hdc htd, h6⟩
   ·rw [e1] at ht; cases ht
    have drop : ∀ x b, H x = some b → (∀ t0, tl = .tok t0 → x ≠ t0) → dropTok H tl x = some b := fun x b hx hne => by
     cases tl with
     | tok t0 => simp only [dropTok]; rw [upd_other _ _ (hne t0 rfl)]; exact hx
     | _ => exact hx
    refine ⟨upd_same _ _ _, ?_, fun d cs hdc htd => ?_, fun τ hx he => ?_⟩
    ·cases h0 : H0 t with
     | none => rfl
     | some b =>
      exfalso
      have := drop t b (hext _ _ h0) fun t0 e x => by subst x; rw [(hsrc t e).2.1] at h0; cases h0
      rw [htn] at this; cases this
    ·obtain ⟨hp1, hp2⟩ := pvDel_some hdc
     obtain ⟨xs3, tl3, t1, t2, t3⟩ := htk d cs hp1
     rcases t3 with ⟨e, _⟩ | ⟨t4, e, _, hsp, _⟩
     ·rw [e] at htd; cases htd
     ·rw [e] at htd; cases htd
      have := drop t _ hsp fun t0 e' x => by subst x; exact (hsrc t e').2.2.1 d cs hdc e
      rw [htn] at this; cases this
    ·obtain ⟨τ', e2, e3⟩ := hexx _ (pvDel_some hx).1
     cases e2
     subst he
     rcases e3 with (h | h) | ⟨t2, h, hsp, _, _⟩
     ·cases h
     ·cases h
     ·cases h
      have := drop t _ hsp fun t0 e' x => by subst x; exact (hsrc t e').2.2.2 _ hx rfl
      rw [htn] at this; cases this
  refine hn g' w' _ (fr.put o.dst (.sl (xs' ++ ys') .ro)) _ ⟨H', ids, s.trans s', hR', (hF.mono s').put (dstOk_lt hd) hvro, hH0, fun k cs hk hvar => ?_, fun k k' cs cs' hk hk' v1 v2 => ?_, tks', fun d cs hdc => ?_, fun d d' cs cs' t hx hx' e1 e2 => ?_, fun cs hx => ?_⟩ hK
  ·have hk1 : pv k = some cs := by
    rw [pvSet_ne fun e => by subst e; cases hvar] at hk
    exact (pvDel_some hk).1
   obtain ⟨k1, k2, k3⟩ := hpv k cs hk1 hvar
   exact ⟨keepB _ _ k1 (by simp), k2, k3.keep hfree hk1 s'⟩
  ·rw [pvSet_ne fun e => by subst e; cases v1] at hk
   rw [pvSet_ne fun e => by subst e; cases v2] at hk'
   exact hinj _ _ _ _ (pvDel_some hk).1 (pvDel_some hk').1 v1 v2
  ·by_cases e : d = dd
   ·subst e
    refine ⟨xs' ++ ys', tl', by rw [hdd]; simp [Fr.put], by rw [hdd, tmps_put_same (by rw [hF.size]; exact hddl)]; exact hv, ?_⟩
    simp only [tks', if_true]
    cases tl' with
    | tok t => exact .inr ⟨t, rfl, rfl, (hnew t rfl).1, (hnew t rfl).2.1⟩
    | nil => exact .inl ⟨rfl, .inl rfl⟩
    | full => exact .inl ⟨rfl, .inr rfl⟩
    | ro =>
     exfalso
     rcases hcase with ⟨_, e1, _⟩ | ⟨t1, e1, _⟩
     ·rw [← e1] at hA; exact hA
     ·cases e1
   ·rw [pvSet_ne fun x => by cases x; exact e rfl] at hdc
    obtain ⟨hp1, hp2⟩ := pvDel_some hdc
    simp only [tks', if_neg e]
    exact (htk d cs hp1).keep (pv_neT hfree hp1) s' fun t htd hsp => keepS t hsp fun he => (hsrc t he).2.2.1 d cs hdc htd
  ·by_cases h1 : d = dd <;> by_cases h2 : d' = dd
   ·rw [h1, h2]
   ·exfalso
    rw [pvSet_ne fun x => by cases x; exact h2 rfl] at hx'
    simp only [tks', if_pos h1] at e1
    simp only [tks', if_neg h2] at e2
    cases tl' with
    | tok t1 => cases e1; exact (hnew t rfl).2.2.1 d' cs' hx' e2
    | _ => cases e1
   ·exfalso
    rw [pvSet_ne fun x => by cases x; exact h1 rfl] at hx
    simp only [tks', if_neg h1] at e1
    simp only [tks', if_pos h2] at e2
    cases tl' with
    | tok t1 => cases e2; exact (hnew t rfl).2.2.1 d cs hx e1
    | _ => cases e2
   ·rw [pvSet_ne fun x => by cases x; exact h1 rfl] at hx
    rw [pvSet_ne fun x => by cases x; exact h2 rfl] at hx'
    simp only [tks', if_neg h1] at e1
    simp only [tks', if_neg h2] at e2
    exact htj d d' _ _ t (pvDel_some hx).1 (pvDel_some hx').1 e1 e2
  ·rw [pvSet_ne (by simp)] at hx
   obtain ⟨τ, e1, e2⟩ := hexx _ (pvDel_some hx).1
   subst e1
   refine ⟨τ, rfl, e2.imp (fun h => h) fun ⟨t, j1, j2, j3, j4⟩ => ⟨t, j1, keepS t j2 fun he => (hsrc t he).2.2.2 τ hx j1, j3, fun d cs' hd' => ?_⟩⟩
   by_cases e : d = dd
   ·simp only [tks', if_pos e]
    cases tl' with
    | tok t1 => exact fun he => by cases he; exact (hnew t rfl).2.2.2 τ hx j1
    | _ => exact fun he => by cases he
   ·rw [pvSet_ne fun x => by cases x; exact e rfl] at hd'
    simp only [tks', if_neg e]
    exact j4 d cs' (pvDel_some hd').1
theorem drawOk_at {k : Nat} (h : drawOk ops k = true) : k ≤ ops.size ∧ ∀ i, i < ops.size → backward (ops.getD i default) i = true ∧
 ∀ j, j < i → reach ops rdep i j = true ∨ (i < k ∧ indep ops (ops.getD j default) (ops.getD i default) = true) := by
 simp only [drawOk, Bool.and_eq_true, decide_eq_true_eq, List.all_eq_true, List.mem_range, Bool.or_eq_true] at h
 exact ⟨h.1, fun i hi => ⟨(h.2 i hi).1, fun j hj => ((h.2 i hi).2 j hj).symm⟩⟩
theorem getD_of {i : Nat} (h : i < ops.size) : ops.getD i default = ops[i] := by simp [Array.getD, h]
theorem mem_ready {listed : Array Bool} {i : Nat} (h : i ∈ Region.ready .any ops listed) : i < ops.size ∧ listed.getD i true = false ∧ ∀ j, edgeTo (ops.getD i default) j = true → listed.getD j false = true := by
 simp only [Region.ready, List.mem_filter, List.mem_range, Bool.and_eq_true, Bool.not_eq_true'] at h
 obtain ⟨h1, h2, h3⟩ := h
 refine ⟨h1, h2, fun j hj => ?_⟩
 rw [Array.getElem?_eq_getElem h1] at h3
 simp only [Option.map_some, Option.getD_some, Array.all_eq_true] at h3
 rw [getD_of h1] at hj
 simp only [edgeTo, Array.any_eq_true, Bool.and_eq_true, beq_iff_eq] at hj
 obtain ⟨e, he, rfl, hb⟩ := hj
 have := h3 e he
 simpa [hb] using this
theorem reach_listed {listed : Array Bool} (hcl : ∀ m j, listed.getD m false = true → edgeTo (ops.getD m default) j = true → listed.getD j false = true) : ∀ (n i j : Nat), (∀ j, edgeTo (ops.getD i default) j = true → listed.getD j false = true) → reach ops n i j = true → listed.getD j false = true
 | 0, i, j, hi, h => hi j h
 | n + 1, i, j, hi, h => by
  simp only [reach, Bool.or_eq_true, Array.any_eq_true, Bool.and_eq_true] at h
  rcases h with h | ⟨x, hx, hb, _, h⟩
  ·exact hi j h
  ·have hm : edgeTo (ops.getD i default) ((ops.getD i default).after[x]).on = true := by
    simp only [edgeTo, Array.any_eq_true, Bool.and_eq_true, beq_iff_eq]
    exact ⟨x, hx, rfl, hb⟩
   exact reach_listed hcl n _ j (fun j' h' => hcl _ j' (hi _ hm) h') h
theorem ready_of {listed : Array Bool} {i : Nat} (h1 : i < ops.size) (h2 : listed.getD i true = false) (hb : backward (ops.getD i default) i = true) (h3 : ∀ j, j < i → listed.getD j false = true) : i ∈ Region.ready .any ops listed := by
 simp only [Region.ready, List.mem_filter, List.mem_range, Bool.and_eq_true, Bool.not_eq_true']
 refine ⟨h1, h2, ?_⟩
 rw [Array.getElem?_eq_getElem h1]
 simp only [Option.map_some, Option.getD_some, Array.all_eq_true]
 rw [getD_of h1] at hb
 simp only [backward, Array.all_eq_true] at hb
 intro e he
 have := hb e he
 simp only [Bool.or_eq_true, Bool.not_eq_true', decide_eq_true_eq] at this ⊢
 rcases this with h | h
 ·exact .inl h
 ·exact .inr (h3 _ h)
theorem getD_set {listed : Array Bool} {i j : Nat} {d : Bool} (hi : i < listed.size) : (listed.setIfInBounds i true).getD j d = if j = i then true else listed.getD j d := by
 simp only [Array.getD_eq_getD_getElem?, Array.getElem?_setIfInBounds]
 by_cases h : j = i
 ·subst h; simp [hi]
 ·rw [if_neg (fun e => h e.symm), if_neg h]
theorem tail_any {A : Ann} {r : Option Nat} {k : Nat} {K : Fr → Heap → Prop} {Q : Exit → Act → World → Prop} {g0 : Gh} {w0 : World} (hat : ∀ i, i < ops.size → backward (ops.getD i default) i = true ∧ ∀ j, j < i → k ≤ j → reach ops rdep i j = true) (hQ : ∀ g w a fr H, Stp g0 w0 g w → Rl g H w → FR nt g w a fr → K fr H → Q .normal a w) :
 ∀ (d m : Nat) (listed : Array Bool) (fr : Fr) (H : Heap), m + d = ops.size → k ≤ m → listed.size = ops.size → (∀ i b, i < ops.size → listed.getD i b = decide (i < m)) → opsA P A nt ops (ops.toList.drop m) fr H K →
  ∀ g w a, Stp g0 w0 g w → Rl g H w → FR nt g w a fr → wpAnyIn (Fw r) 0 P .any ops Q d listed a w
 | 0, m, listed, fr, H, hm, hk, hsz, hl, h, g, w, a, s, hR, hF => by
  have : ops.toList.drop m = [] := by simp; omega
  rw [this] at h
  refine ⟨?_, hQ g w a fr H s hR hF h⟩
  rw [List.eq_nil_iff_forall_not_mem]
  intro i hi
  obtain ⟨h1, h2, _⟩ := mem_ready hi
  rw [hl i true h1] at h2
  simp at h2; omega
 | d + 1, m, listed, fr, H, hm, hk, hsz, hl, h, g, w, a, s, hR, hF => by
  have hlt : m < ops.size := by omega
  have hready : m ∈ Region.ready .any ops listed := ready_of hlt (by rw [hl m true hlt]; simp) (hat m hlt).1 fun j hj => by rw [hl j false (by omega)]; simpa using hj
  refine ⟨fun e => (by rw [e] at hready; cases hready), fun i hi => ?_⟩
  obtain ⟨h1, h2, h3⟩ := mem_ready hi
  have him : i = m := by
   rw [hl i true h1] at h2
   simp only [decide_eq_false_iff_not, Nat.not_lt] at h2
   rcases Nat.lt_or_ge m i with hlt' | hge
   ·have he := (hat i h1).2 m hlt' hk
    ·have := reach_listed (fun m' j hm' hj => by
      have hms : m' < ops.size := by
       rcases Nat.lt_or_ge m' ops.size with h | h
       ·exact h
       ·simp [Array.getD, show ¬ m' < listed.size by omega] at hm'
      rw [hl m' false hms] at hm'
      simp only [decide_eq_true_eq] at hm'
      have hb := (hat m' hms).1
      simp only [backward, Array.all_eq_true] at hb
      simp only [edgeTo, Array.any_eq_true, Bool.and_eq_true, beq_iff_eq] at hj
      obtain ⟨x, hx, rfl, hbx⟩ := hj
      have := hb x hx
      simp only [hbx, Bool.not_true, Bool.false_or, decide_eq_true_eq] at this
      rw [hl _ false (by omega)]
      simp only [decide_eq_true_eq]; omega) rdep i m h3 he
     rw [hl m false hlt] at this
     simp at this
   ·omega
  subst him
  have hdl : ops.toList.drop i = ops[i] :: ops.toList.drop (i + 1) := by
   rw [List.drop_eq_getElem_cons (by simpa using hlt)]; simp
  rw [hdl] at h
  simp only [opsA] at h
  obtain ⟨hd, h⟩ := h
  have ih := tail_any (A := A) (r := r) (K := K) hat hQ d (i + 1) (listed.setIfInBounds i true)
  have hl' : ∀ j b, j < ops.size → (listed.setIfInBounds i true).getD j b = decide (j < i + 1) := by
   intro j b hj
   rw [getD_set (by omega), hl j b hj]
   by_cases e : j = i
   ·subst e; simp
   ·rw [if_neg e]; congr 1; simp; omega
  simp only [wpOpIn, Array.getElem?_eq_getElem hlt]
  split at h
  ·rename_i hg
   rw [if_pos (guard_wanted hF.s hg)]
   exact wp_op hR hF hd h fun g' w' a' v H' s' hR' hF' hK => ih _ _ (by omega) (by omega) (by simpa using hsz) hl' hK g' w' a' (s.trans s') hR' hF'
  ·rename_i hg
   rw [if_neg (by rw [guard_wanted hF.s hg]; simp)]
   exact ⟨fun _ _ => trivial, ih _ _ (by omega) (by omega) (by simpa using hsz) hl' h g w _ s hR (hF.put (dstOk_lt hd) (VR.und _ _))⟩
  ·exact h.elim
theorem body_any {r : Option Nat} {k : Nat} {K : Fr → Pv → Prop} {Q : Exit → Act → World → Prop} {g0 : Gh} {w0 : World} (hk : k ≤ ops.size) (hat : ∀ i, i < ops.size → backward (ops.getD i default) i = true ∧ ∀ j, j < i → reach ops rdep i j = true ∨ (i < k ∧ indep ops (ops.getD j default) (ops.getD i default) = true) ∨ k ≤ j)
 (hdone : ∀ g w a fr pv listed, listed.size = ops.size → (∀ i b, i < ops.size → listed.getD i b = decide (i < k)) → DInv nt H0 g0 w0 fr pv g w a → K fr pv → wpAnyIn (Fw r) 0 P .any ops Q (ops.size - k) listed a w) :
 ∀ (n : Nat) (L : List Nat) (listed : Array Bool) (fr : Fr) (pv : Pv), L.length = n → L.Pairwise (· < ·) → (∀ i ∈ L, i < k) → listed.size = ops.size → (∀ i b, i < ops.size → listed.getD i b = decide (i < k ∧ i ∉ L)) → (∀ m j, listed.getD m false = true → edgeTo (ops.getD m default) j = true → listed.getD j false = true) →
  drawB P nt ops H0 (L.map fun i => ops.getD i default) fr pv K → ∀ g w a, DInv nt H0 g0 w0 fr pv g w a → wpAnyIn (Fw r) 0 P .any ops Q (n + (ops.size - k)) listed a w
 | 0, L, listed, fr, pv, hn, _, _, hsz, hl, _, h, g, w, a, hI => by
  have : L = [] := List.length_eq_zero_iff.1 hn
  subst this
  rw [Nat.zero_add]
  exact hdone g w a fr pv listed hsz (fun i b hi => by rw [hl i b hi]; simp) hI h
 | n + 1, L, listed, fr, pv, hn, hsort, hlt, hsz, hl, hcl, h, g, w, a, hI => by
  have hL : L ≠ [] := by intro e; rw [e] at hn; simp at hn
  obtain ⟨i0, L0, hL0⟩ : ∃ i0 L0, L = i0 :: L0 := by cases L with
   | nil => exact absurd rfl hL
   | cons x y => exact ⟨x, y, rfl⟩
  have hi0 : i0 < k := hlt i0 (by rw [hL0]; simp)
  rw [show n + 1 + (ops.size - k) = (n + (ops.size - k)) + 1 by omega]
  have hready : i0 ∈ Region.ready .any ops listed := by
   refine ready_of (by omega) (by rw [hl i0 true (by omega), hL0]; simp) (hat i0 (by omega)).1 fun j hj => ?_
   rw [hl j false (by omega)]
   have : j ∉ L := by
    rw [hL0] at hsort ⊢
    intro hm
    rcases List.mem_cons.1 hm with e | hm
    ·omega
    ·have := (List.pairwise_cons.1 hsort).1 j hm; omega
   simp only [decide_eq_true_eq]
   exact ⟨by omega, this⟩
  refine ⟨fun e => (by rw [e] at hready; cases hready), fun i hi => ?_⟩
  obtain ⟨h1, h2, h3⟩ := mem_ready hi
  rw [hl i true h1] at h2
  simp only [decide_eq_false_iff_not, not_and, Classical.not_not] at h2
  have hik : i < k := by
   rcases Nat.lt_or_ge i k with hh | hh
   ·exact hh
   ·exfalso
    rcases (hat i h1).2 i0 (by omega) with he | ⟨hc, _⟩ | hc
    ·have := reach_listed hcl rdep i i0 h3 he
     rw [hl i0 false (by omega), hL0] at this
     simp at this
    ·omega
    ·omega
  have hiL := h2 hik
  obtain ⟨pre, post, hsplit⟩ := List.append_of_mem hiL
  have hind : ∀ x ∈ pre.map (fun i => ops.getD i default), indep ops x (ops.getD i default) = true := by
   intro x hx
   obtain ⟨j, hj, rfl⟩ := List.mem_map.1 hx
   have hjL : j ∈ L := by rw [hsplit]; simp [hj]
   have hji : j < i := by
    rw [hsplit] at hsort
    exact (List.pairwise_append.1 hsort).2.2 j hj i (by simp)
   rcases (hat i h1).2 j hji with he | ⟨_, hc⟩ | hc
   ·have := reach_listed hcl rdep i j h3 he
    rw [hl j false (by omega)] at this
    simp only [decide_eq_true_eq] at this
    exact absurd hjL this.2
   ·exact hc
   ·have := hlt j hjL; omega
  rw [hsplit, List.map_append, List.map_cons] at h
  have hf := drawB_front hind h
  have hstep : drawS P nt ops H0 (ops.getD i default) fr pv fun fr' pv' => drawB P nt ops H0 ((pre ++ post).map fun i => ops.getD i default) fr' pv' K := by
   rw [List.map_append]; exact hf
  simp only [wpOpIn, Array.getElem?_eq_getElem h1]
  rw [getD_of h1] at hstep
  have hnd : i ∉ pre ++ post := by
   rw [hsplit] at hsort
   intro hm
   obtain ⟨_, p2, p3⟩ := List.pairwise_append.1 hsort
   rcases List.mem_append.1 hm with hm | hm
   ·have := p3 i hm i (by simp); omega
   ·have := (List.pairwise_cons.1 p2).1 i hm; omega
  refine draw_step (r := r) hI hstep fun g' w' a' fr' pv' hI' hK => ?_
  refine body_any hk hat hdone n (pre ++ post) _ fr' pv' ?_ ?_ ?_ (by simpa using hsz) ?_ ?_ hK g' w' a' hI'
  ·rw [hsplit] at hn; simp at hn ⊢; omega
  ·rw [hsplit] at hsort
   obtain ⟨p1, p2, p3⟩ := List.pairwise_append.1 hsort
   exact List.pairwise_append.2 ⟨p1, (List.pairwise_cons.1 p2).2, fun x hx y hy => p3 x hx y (by simp [hy])⟩
  ·intro j hj
   refine hlt j ?_
   rw [hsplit]
   rcases List.mem_append.1 hj with hj | hj <;> simp [hj]
  ·intro j b hj
   rw [getD_set (by omega), hl j b hj]
   by_cases e : j = i
   ·subst e; simp [hik, hnd]
   ·rw [if_neg e]
    congr 1
    rw [hsplit]
    simp [e]
  ·intro m j hm hj
   rw [getD_set (by omega)] at hm ⊢
   by_cases ej : j = i
   ·rw [if_pos ej]
   ·rw [if_neg ej]
    by_cases em : m = i
    ·subst em; exact h3 j hj
    ·rw [if_neg em] at hm; exact hcl m j hm hj
end
end Go.Ab

