/- AbA23 AbD1 -/
import Derived.Test.YtbjdkpckplopdaaGreatT17
set_option linter.all false

namespace Go.Ab
open Go.RowKit
variable [Glob] [Ar]
section
variable {P : Program} {nt : Nat} {rd : Option Nat} {T : Tbl} {A : Nat → Bool} {Z : Nat → List Nat} {df : List Nat}
theorem isPair_inv {o o2 : Oper} {d : Nat} {t t2 : TypeId} {x : Operand} (h : isPair A o o2 = some (d, t, t2, x)) :
 o.op = .alloc t ∧ o.dst = some d ∧ o.guard = none ∧ o2.op = .store t2 (.tmp d) x ∧ o2.dst = none ∧ o2.guard = none ∧ x ≠ .tmp d := by
 unfold isPair at h
 split at h
 ·rename_i t' d' h1 h2 h3
  split at h
  ·rename_i t2' d2 x' k1 k2 k3
   split at h
   ·rename_i hA hb
    have hd := Nat.eq_of_beq_eq_true hb
    subst hd
    split at h
    ·rename_i d3
     split at h
     ·cases h
     ·rename_i hn
      cases h
      refine ⟨h1, h2, h3, k1, k2, k3, fun e => ?_⟩
      cases e
      rw [Nat.beq_refl] at hn; cases hn
    ·rename_i hx
     cases h
     exact ⟨h1, h2, h3, k1, k2, k3, fun e => hx _ e⟩
   ·cases h
  ·cases h
 ·cases h
theorem xops_sound (hT : TOk P T) {ops : Array Oper} {r : Option Nat} {K : Fl → Heap → Prop} {Q : Exit → Act → World → Prop} {g0 : Gh} {w0 : World}
 (hQ : ∀ g w a l H, Stp g0 w0 g w → Rl g H w → FR nt g w a (frOf ⟨l, df⟩) → K l H → Q .normal a w) :
 ∀ (m i : Nat) (l : Fl) (H : Heap), i + m = ops.size → xops (real P nt rd) T nt A Z ops (ops.toList.drop i) l H K → ∀ g w a, Stp g0 w0 g w → Rl g H w → FR nt g w a (frOf ⟨l, df⟩) → wpOpsIn (Fw r) 0 P ops Q (List.range' i m) a w := by
 intro m
 induction m using Nat.strongRecOn with
 | _ m ih =>
 intro i l H hi h g w a s hR hF
 cases m with
 | zero =>
  have : ops.toList.drop i = [] := by simp; omega
  rw [this] at h
  unfold xops at h
  exact hQ g w a l H s hR hF h
 | succ m =>
  have hlt : i < ops.toList.length := by simp; omega
  have hlt' : i < ops.size := by omega
  have hdrop := List.drop_eq_getElem_cons hlt
  rw [hdrop] at h
  simp only [Array.getElem_toList] at h
  generalize ho : ops[i] = o at h
  simp only [List.range'_succ, wpOpsIn, Array.getElem?_eq_getElem hlt', ho]
  unfold xops at h
  split at h
  ·exact h.elim
  rename_i hd
  obtain ⟨g1, l1, H1, s1, hR1, hF1, h⟩ := xfrz_sound (df := df) none _ _ _ _ _ (fun _ _ _ _ h => by cases h) hR hF h
  replace s := s.trans s1
  clear s1 hR hF
  revert h hF1 hR1 s
  generalize l1 = l, H1 = H, g1 = g
  intro hR hF h s
  have guarded : ∀ {rest : List Oper}, dstOk nt o.dst = true → rest = ops.toList.drop (i + 1) →
   xguard (real P nt rd) ops o 4 l (fun G l' wr => xop (real P nt rd) T A G o l' H fun s H' => xops (real P nt rd) T nt A Z ops rest (putl o.dst (wr s) l') H' K) (fun l' => xops (real P nt rd) T nt A Z ops rest (putl o.dst (.v (.tup [])) l') H K) →
   if Region.wanted o (yielded ops a.tmps) then o.wpIn (Fw r) 0 P a w (wpOpsIn (Fw r) 0 P ops Q (List.range' (i + 1) m)) Q else (∀ f, o.about P w a.eval = some f → (Fw r).fn f) ∧ wpOpsIn (Fw r) 0 P ops Q (List.range' (i + 1) m) (a.put o.dst undef) w := by
   intro rest hd hrest h
   subst hrest
   obtain ⟨l', e, h⟩ := xguard_sound (df := df) 4 l h
   have ef : frOf ⟨l', df⟩ = frOf ⟨l, df⟩ := by simp only [frOf, Fr.mk.injEq, and_true]; funext t; exact e t
   have hF' : FR nt g w a (frOf ⟨l', df⟩) := ef ▸ hF
   rcases h with ⟨hgv, G, wr, hG, hwr, h⟩ | ⟨hgv, h⟩
   ·have hw : Region.wanted o (yielded ops a.tmps) = true := guard_wanted hF.s hgv
    rw [if_pos hw]
    refine wp_op (A := A) hR hF' hd (xop_sound (df := df) hT hG h) fun g' w' a' v H' s' hR' hF2 ⟨sl, hv, hK⟩ => ?_
    subst hv
    rw [← hwr sl, ← frOf_put] at hF2
    exact ih m (by omega) (i + 1) _ _ (by omega) hK g' w' a' (s.trans s') hR' hF2
   ·have hw : Region.wanted o (yielded ops a.tmps) = false := guard_wanted hF.s hgv
    rw [if_neg (by rw [hw]; simp)]
    refine ⟨fun _ _ => trivial, ?_⟩
    have hput : FR nt g w (a.put o.dst undef) ((frOf ⟨l', df⟩).put o.dst (.tup [])) := hF'.put (dstOk_lt hd) (VR.und _ _)
    rcases h with h | ⟨G, d, want, ht, hb, h⟩
    ·refine ih m (by omega) (i + 1) _ _ (by omega) h g w _ s hR ?_
     rw [frOf_put]
     exact hput
    ·obtain ⟨sl, h⟩ := xop_tot hT ht h
     refine ih m (by omega) (i + 1) _ _ (by omega) h g w _ s hR ?_
     rw [frOf_put]
     simp only [slV, hb, cond_false]
     exact hput
  ·split at h
   ·rename_i hrest
    refine guarded hd hrest.symm ?_
    have e : (fun (G : List (Nat × Bool)) (l' : Fl) (wr : Sl → Sl) => xop (real P nt rd) T A G o l' H fun s H' => xops (real P nt rd) T nt A Z ops [] (putl o.dst (wr s) l') H' K) = fun G l' wr => xop (real P nt rd) T A G o l' H fun s H' => K (putl o.dst (wr s) l') H' := by
     funext G l' wr
     have : (fun s H' => xops (real P nt rd) T nt A Z ops [] (putl o.dst (wr s) l') H' K) = fun s H' => K (putl o.dst (wr s) l') H' := by
      funext s H'; unfold xops; rfl
     rw [this]
    have e2 : (fun l' => xops (real P nt rd) T nt A Z ops [] (putl o.dst (.v (.tup [])) l') H K) = fun l' => K (putl o.dst (.v (.tup [])) l') H := by
     funext l'; unfold xops; rfl
    rw [e, e2]; exact h
   ·rename_i o2 rest' hrest
    split at h
    ·rename_i d t t2 x hp
     obtain ⟨p1, p2, p3, p4, p5, p6, p7⟩ := isPair_inv hp
     have hw : ∀ y, Region.wanted o y = true := fun y => by simp [Region.wanted, p3]
     rw [if_pos (hw _)]
     split at h
     ·rename_i cs hcs
      unfold pairV at hcs
      split at hcs
      ·rename_i I I2 hI hI2
       split at hcs
       ·rename_i z hz
        have ez := (tg_ok hT hI).ze; rw [hz] at ez; simp only [optOk] at ez
        split at hcs
        ·rename_i hc
         obtain ⟨c1, c2, c3, c4⟩ := hc
         cases hcs
         have hlen : i + 1 < ops.toList.length := by
          rcases Nat.lt_or_ge (i + 1) ops.toList.length with h' | h'
          ·exact h'
          ·rw [List.drop_eq_nil_of_le h'] at hrest; cases hrest
         have hlen' : i + 1 < ops.size := by simpa using hlen
         have hdrop2 := List.drop_eq_getElem_cons hlen
         rw [hrest, Array.getElem_toList] at hdrop2
         have ho2 : ops[i + 1] = o2 := by injection hdrop2 with e _; exact e.symm
         have hr2 : rest' = ops.toList.drop (i + 2) := by injection hdrop2
         rw [hr2] at h
         obtain ⟨m', rfl⟩ : ∃ m', m = m' + 1 := ⟨m - 1, by omega⟩
         refine wp_op (A := A) (K := fun v H' => ∃ id, v = .ref id 0 ∧ H id = none ∧ H' = upd H id (some (.cells z.cells))) hR hF hd (by
          simp only [opA, p1]
          exact .inl ⟨z, ez, c1, fun id hid => ⟨_, .refl _, id, rfl, hid, rfl⟩⟩) fun g1 w1 a1 v H1 s1 hR1 hF1 hK1 => ?_
         obtain ⟨id, rfl, hid, rfl⟩ := hK1
         simp only [List.range'_succ, wpOpsIn, Array.getElem?_eq_getElem hlen', ho2]
         rw [if_pos (by simp [Region.wanted, p6])]
         have hev : ev ((frOf ⟨l, df⟩).put o.dst (.ref id 0)) x = (evS [] l x).V := by
          rw [evS_ev (df := df) Gok.nil, p2]
          cases x with
          | tmp t =>
           have : t ≠ d := fun e => p7 (by rw [e])
           simp [ev, Fr.put, this]
          | const _ => rfl
          | global _ => rfl
          | func _ => rfl
         have hev2 : ev ((frOf ⟨l, df⟩).put o.dst (.ref id 0)) (.tmp d) = .ref id 0 := by rw [p2]; simp [ev, Fr.put]
         refine wp_op (A := A) (K := fun v H' => H' = upd (upd H id (some (.cells z.cells))) id (some (.cells (splice z.cells 0 (evS [] l x).V.cells)))) hR1 hF1 (by rw [p5]; rfl) (by
          simp only [opA, p4]
          refine .inl ⟨_, _, .refl _, ?_, rfl⟩
          simp only [storeV, (tg_ok hT hI2).sz, hev, hev2, upd_same]
          rw [if_pos ⟨c2, c3, by omega⟩]) fun g2 w2 a2 v2 H2 s2 hR2 hF2 hK2 => ?_
         subst hK2
         obtain ⟨g3, s3, hR3, hv3⟩ := hR2.freeze (upd_same _ _ _)
         rw [upd_upd, upd_back _ _ _ hid] at hR3
         refine ih m' (by omega) (i + 2) _ H (by omega) h g3 w2 a2 (((s.trans s1).trans s2).trans s3) hR3 ?_
         rw [p5, p2] at hF2
         have hF3 := hF2.mono s3
         have e1 := frOf_put (df := df) l (some d) (.v (.eref (splice z.cells 0 (evS [] l x).V.cells) 0))
         rw [show putl (some d) (.v (.eref (splice z.cells 0 (evS [] l x).V.cells) 0)) l = (d, .v (.eref (splice z.cells 0 (evS [] l x).V.cells) 0)) :: l from rfl] at e1
         rw [e1]
         refine ⟨hF3.size, fun q => ?_, hF3.df⟩
         have hq := hF2.s q
         have hq3 := hF3.s q
         simp only [Fr.put] at hq hq3 ⊢
         split
         ·rename_i e; rw [if_pos e] at hq; exact hv3 _ _ hq
         ·rename_i e; rw [if_neg e] at hq3; exact hq3
        ·cases hcs
       ·cases hcs
      ·cases hcs
     ·exact h.elim
    ·exact guarded hd hrest.symm h
end
end Go.Ab

namespace Go.Ab
open Go.RowKit
variable [Glob] [Ar]
section
variable {P : Program} {nt : Nat} {ops : Array Oper} {H0 : Heap}
def nameF (A : Nat → Bool) : List Nat → Pv → Fr → Heap → (Fr → Heap → Prop) → Prop
 | [], _, fr, H, K => K fr H
 | d :: ds, pv, fr, H, K =>
  match pv (.inl d) with
  | some cs => if A d then ∀ id, H id = none → nameF A ds pv (fr.put (some d) (.ref id 0)) (upd H id (some (.cells cs))) K else nameF A ds pv (fr.put (some d) (.eref cs 0)) H K
  | none => False
theorem nameF_at {A : Nat → Bool} {w : World} {a : Act} {ids : Pk → Nat} {pv : Pv} {K : Fr → Heap → Prop} (hinj : ∀ d d' cs cs', pv d = some cs → pv d' = some cs' → d.var = true → d'.var = true → ids d = ids d' → d = d') :
 ∀ (ds : List Nat) (fr : Fr) (g : Gh) (H H1 : Heap), Rl g H w → ds.Nodup → (∀ d ∈ ds, ∀ cs, pv (.inl d) = some cs → H (ids (.inl d)) = some (.cells cs) ∧ ∃ b, g.mu (ids (.inl d)) = some b ∧ a.tmps.getD d undef = .pointer (some ⟨b, 0, none⟩)) →
  (∀ id b, H1 id = some b → H id = some b) → (∀ d ∈ ds, ∀ cs, pv (.inl d) = some cs → H1 (ids (.inl d)) = none) → FR nt g w a fr → nameF A ds pv fr H1 K → ∃ g' fr' H', Stp g w g' w ∧ Rl g' H' w ∧ FR nt g' w a fr' ∧ K fr' H'
 | [], fr, g, H, H1, hR, _, _, hl, _, hF, h => ⟨g, fr, H1, Stp.refl _ _, hR.less hl, hF, h⟩
 | d :: ds, fr, g, H, H1, hR, hnd, hpv, hl, hfr, hF, h => by
  simp only [nameF] at h
  have hnd' := List.nodup_cons.1 hnd
  split at h
  ·rename_i cs hcs
   obtain ⟨k1, b, k2, k3⟩ := hpv d (by simp) cs hcs
   split at h
   ·refine nameF_at hinj ds _ g H _ hR hnd'.2 (fun d' hd' => hpv d' (by simp [hd'])) (fun id bk hb => ?_) (fun d' hd' cs' hp => ?_) ?_ (h (ids (.inl d)) (hfr d (by simp) cs hcs))
    ·by_cases e : id = ids (.inl d)
     ·subst e; rw [upd_same] at hb; cases hb; exact k1
     ·rw [upd_other _ _ e] at hb; exact hl _ _ hb
    ·by_cases e : ids (.inl d') = ids (.inl d)
     ·exact absurd (hinj _ _ _ _ hp hcs rfl rfl e) fun x => hnd'.1 (by cases x; exact hd')
     ·rw [upd_other _ _ e]; exact hfr d' (by simp [hd']) cs' hp
    ·refine ⟨hF.size, fun t => ?_, hF.df⟩
     simp only [Fr.put]
     split
     ·rename_i e; subst e; rw [k3]; exact .ref k2
     ·exact hF.s t
   ·obtain ⟨g', s, hR', hv⟩ := hR.freeze k1
    have hF' := hF.mono s
    have e1 : ∀ d' ∈ ds, ∀ cs', pv (.inl d') = some cs' → (upd H (ids (.inl d)) none) (ids (.inl d')) = some (.cells cs') ∧ ∃ b, g'.mu (ids (.inl d')) = some b ∧ a.tmps.getD d' undef = .pointer (some ⟨b, 0, none⟩) := fun d' hd' cs' hp => by
     obtain ⟨q1, b', q2, q3⟩ := hpv d' (by simp [hd']) cs' hp
     have hne : ids (.inl d') ≠ ids (.inl d) := fun e => absurd (hinj _ _ _ _ hp hcs rfl rfl e) fun x => hnd'.1 (by cases x; exact hd')
     exact ⟨by rw [upd_other _ _ hne]; exact q1, b', s.mu _ _ q2, q3⟩
    have e2 : ∀ id bk, H1 id = some bk → (upd H (ids (.inl d)) none) id = some bk := fun id bk hb => by
     have hne : id ≠ ids (.inl d) := fun e => by subst e; rw [hfr d (by simp) cs hcs] at hb; cases hb
     rw [upd_other _ _ hne]; exact hl _ _ hb
    have e3 : FR nt g' w a (fr.put (some d) (.eref cs 0)) := by
     refine ⟨hF'.size, fun t => ?_, hF'.df⟩
     simp only [Fr.put]
     split
     ·rename_i e; subst e; rw [k3]; exact hv _ _ (.ref k2)
     ·exact hF'.s t
    obtain ⟨g2, fr2, H2, s2, r⟩ := nameF_at hinj ds _ g' _ H1 hR' hnd'.2 e1 e2 (fun d' hd' => hfr d' (by simp [hd'])) e3 h
    exact ⟨g2, fr2, H2, s.trans s2, r⟩
  ·exact h.elim
abbrev Tk := List (Nat × List V)
def pvW (W : Tk) (ex : Option Tail) : Pv
 | .inl _ => none
 | .inr id => (W.find? fun p => p.1 == id).map (·.2)
 | .tk _ => none
 | .ex => ex.map fun τ => [.sl [] τ]
def dropEx (H : Heap) : Option Tail → Heap
 | some τ => dropTok H τ
 | none => H
def nameTF (dx : Option Nat) (pv : Pv) (fr : Fr) (H : Heap) (K : Fr → Heap → Prop) : Prop :=
 match dx with
 | none => K fr H
 | some d => ∃ xs, (pv (.tk d)).isSome = true ∧ fr.s d = .sl xs .ro ∧ (∀ tl, tl = .nil ∨ tl = .full → K (fr.put (some d) (.sl xs tl)) H) ∧ ∀ t, H t = none → K (fr.put (some d) (.sl xs (.tok t))) (upd H t (some .spare))
theorem dropEx_sub {H : Heap} {ex : Option Tail} {id : Nat} {b : Blk} (h : dropEx H ex id = some b) : H id = some b ∧ ∀ t, ex = some (.tok t) → id ≠ t := by
 cases ex with
 | none => exact ⟨h, fun t ht => by cases ht⟩
 | some τ =>
  cases τ with
  | tok t =>
   simp only [dropEx, dropTok] at h
   by_cases e : id = t
   ·subst e; rw [upd_same] at h; cases h
   ·rw [upd_other _ _ e] at h; exact ⟨h, fun t' ht => by cases ht; exact e⟩
  | _ => exact ⟨h, fun t ht => by cases ht⟩
def without (H : Heap) : Tk → Heap
 | [] => H
 | (id, _) :: W => upd (without H W) id none
def giveF : Tk → Pv → Heap → (Heap → Prop) → Prop
 | [], _, H, K => K H
 | (id, _) :: W, pv, H, K => giveF W pv H fun H' => match pv (.inr id) with | some cs => K (upd H' id (some (.cells cs))) | none => False
theorem without_sub {H : Heap} : ∀ {W : Tk} {id : Nat} {b : Blk}, without H W id = some b → H id = some b ∧ ∀ p ∈ W, p.1 ≠ id
 | [], id, b, h => ⟨h, fun p hp => by simp at hp⟩
 | (i, c) :: W, id, b, h => by
  simp only [without] at h
  by_cases e : id = i
  ·subst e; rw [upd_same] at h; cases h
  ·rw [upd_other _ _ e] at h
   obtain ⟨h1, h2⟩ := without_sub h
   refine ⟨h1, fun p hp => ?_⟩
   rcases List.mem_cons.1 hp with rfl | hp
   ·exact fun x => e x.symm
   ·exact h2 p hp
theorem without_none {H : Heap} : ∀ {W : Tk} {p : Nat × List V}, p ∈ W → without H W p.1 = none
 | (i, c) :: W, p, h => by
  simp only [without]
  by_cases e : p.1 = i
  ·rw [e, upd_same]
  ·rw [upd_other _ _ e]
   rcases List.mem_cons.1 h with rfl | h
   ·exact absurd rfl e
   ·exact without_none h
theorem giveF_at {Hw : Heap} {pv : Pv} (hpv : ∀ id cs, pv (.inr id) = some cs → Hw id = some (.cells cs)) : ∀ (W : Tk) (H : Heap) (K : Heap → Prop), (∀ id b, H id = some b → Hw id = some b) → giveF W pv H K → ∃ H', (∀ id b, H' id = some b → Hw id = some b) ∧ (∀ id, H' id ≠ none → H id ≠ none ∨ ∃ cs, pv (.inr id) = some cs) ∧ K H'
 | [], H, K, hl, h => ⟨H, hl, fun id hn => .inl hn, h⟩
 | (i, c) :: W, H, K, hl, h => by
  simp only [giveF] at h
  obtain ⟨H', h1, h2, h3⟩ := giveF_at hpv W H _ hl h
  split at h3
  ·rename_i cs hcs
   refine ⟨_, fun id b hb => ?_, fun id hn => ?_, h3⟩
   ·by_cases e : id = i
    ·subst e; rw [upd_same] at hb; cases hb; exact hpv _ _ hcs
    ·rw [upd_other _ _ e] at hb; exact h1 _ _ hb
   ·by_cases e : id = i
    ·exact .inr ⟨cs, e ▸ hcs⟩
    ·rw [upd_other _ _ e] at hn
     exact h2 id hn
  ·exact h3.elim
end
def SimAny (P : Program) (nt : Nat) (rd : Option Nat) (ops : Array Oper) (fr : Fr) (H : Heap) (Q : Exit → Fr → Heap → Prop) : Prop :=
 ∀ r g w a, RdOk g rd r → Rl g H w → FR nt g w a fr → wpAnyIn (Fw r) 0 P .any ops (End nt g w Q) ops.size (Array.replicate ops.size false) a w.drew
theorem Sim.of_any {P : Program} {nt id : Nat} {rd : Option Nat} {ops : Array Oper} {fr : Fr} {H : Heap} {Q : Exit → Fr → Heap → Prop} (hm : P.follows .mixedOrders = true) (h : SimAny P nt rd ops fr H Q) : Sim P nt rd (.region id ops true) fr H Q :=
 fun r g w a hr hR hF => wpIn_region_any hm (h r g w a hr hR hF)
section
variable {P : Program} {nt : Nat} {ops : Array Oper} {H0 : Heap}
theorem SimAny.drawF {A : Ann} {rd : Option Nat} {k : Nat} {al : List Nat} {W : Tk} {ex : Option Tail} {dx : Option Nat} {fr : Fr} {Q : Exit → Fr → Heap → Prop} (hok : drawOk ops k = true) (hnd : al.Nodup)
 (hX : ∀ τ, ex = some τ → AppOk H0 τ) (hW : ∀ p ∈ W, dropEx H0 ex p.1 = some (.cells p.2))
 (h : drawB P nt ops (without (dropEx H0 ex) W) (ops.toList.take k) fr (pvW W ex) fun fr' pv => giveF W pv (without (dropEx H0 ex) W) fun H1 => nameTF dx pv fr' H1 fun fr1 H2 => nameF A al pv fr1 H2 fun fr'' H => opsA P A nt ops (ops.toList.drop k) fr'' H (Q .normal)) : SimAny P nt rd ops fr H0 Q := by
 intro r g w a _ hR hF
 obtain ⟨hk, hat⟩ := drawOk_at hok
 have sd : Stp g w g w.drew := ⟨fun _ _ e => e, fun _ _ e => e, fun _ _ e => e, rfl, fun _ _ _ => rfl, (Below.refl _ _).drew, fun _ _ _ => rfl⟩
 have hRd : Rl g H0 w.drew := by
  refine ⟨fun id b hb => (hR.blk id b hb).mono hb sd fun _ _ => ⟨rfl, fun _ ho => ho⟩, hR.inj, hR.frz, hR.nxt, hR.bnd, fun n => (hR.glb n).mono sd⟩
 have hI : DInv nt (without (dropEx H0 ex) W) g w.drew fr (pvW W ex) g w.drew a := by
  refine ⟨H0, fun k => match k with | .inl _ => 0 | .inr n => n | .tk _ => 0 | .ex => 0, Stp.refl _ _, hRd, hF.mono sd, fun id b hb => (dropEx_sub (without_sub hb).1).1, fun d cs h hv => ?_, fun d d' cs cs' h h' hv hv' e => ?_, fun _ => none, fun d cs h => (by cases h), fun d d' cs cs' t h => (by cases h), fun cs h => ?_⟩
  ·cases d with
   | inl d => cases h
   | inr n =>
    simp only [pvW] at h
    cases hf : W.find? fun p => p.1 == n with
    | none => rw [hf] at h; cases h
    | some p =>
     rw [hf] at h
     simp only [Option.map_some, Option.some.injEq] at h
     have hp := List.mem_of_find?_eq_some hf
     have hn : p.1 = n := by have := List.find?_some hf; simpa using this
     subst h; subst hn
     exact ⟨(dropEx_sub (hW p hp)).1, without_none hp, rfl⟩
   | tk d => cases h
   | ex => cases hv
  ·cases d with
   | inl d => cases h
   | tk d => cases h
   | ex => cases hv
   | inr n =>
    cases d' with
    | inl d' => cases h'
    | tk d' => cases h'
    | ex => cases hv'
    | inr n' => simp only at e; rw [e]
  ·cases hx : ex with
   | none => rw [hx] at h; cases h
   | some τ =>
    rw [hx] at h
    cases h
    refine ⟨τ, rfl, ?_⟩
    have hA := hX τ hx
    cases τ with
    | nil => exact .inl (.inl rfl)
    | full => exact .inl (.inr rfl)
    | ro => exact hA.elim
    | tok t =>
     refine .inr ⟨t, rfl, hA, ?_, fun d cs' h => by cases h⟩
     cases hn : without (dropEx H0 (some (.tok t))) W t with
     | none => rfl
     | some b => exact absurd rfl ((dropEx_sub (without_sub hn).1).2 t rfl)
 have hmap : (List.range k).map (fun i => ops.getD i default) = ops.toList.take k := by
  apply List.ext_getElem
  ·simp; omega
  ·intro i h1 h2
   simp at h1
   simp [Array.getD, show i < ops.size by omega]
 have hb := body_any (r := r) (Q := End nt g w Q) hk (fun i hi => ⟨(hat i hi).1, fun j hj => ((hat i hi).2 j hj).imp (fun h => h) .inl⟩) (K := fun fr' pv => giveF W pv (without (dropEx H0 ex) W) fun H1 => nameTF dx pv fr' H1 fun fr1 H2 => nameF A al pv fr1 H2 fun fr'' H => opsA P A nt ops (ops.toList.drop k) fr'' H (Q .normal)) (g0 := g) (w0 := w.drew)
  (fun g' w' a' fr' pv listed hsz hl hI' hK => ?_) k (List.range k) (Array.replicate ops.size false) fr (pvW W ex) (by simp) (List.pairwise_lt_range) (fun i hi => by simpa using hi) (by simp) (fun i b hi => by simp [Array.getD, hi]) (fun m j hm _ => by simp [Array.getD] at hm) (by rw [hmap]; exact h) g w.drew a hI
 ·rw [show k + (ops.size - k) = ops.size by omega] at hb
  exact hb
 ·obtain ⟨H, ids, s, hR', hF', hext, hpv, hinj, tks, htk, _⟩ := hI'
  have hex : ∀ n cs, pv (.inr n) = some cs → H n = some (.cells cs) := fun n cs hn => by
   obtain ⟨k1, _, k3⟩ := hpv _ cs hn rfl
   have k3 : ids (.inr n) = n := k3
   rwa [k3] at k1
  obtain ⟨H1, g1, g2, hK⟩ := giveF_at hex W _ _ hext hK
  have hfree : ∀ d cs, pv (.inl d) = some cs → H1 (ids (.inl d)) = none := fun d cs hd => by
   obtain ⟨k1, k2, _⟩ := hpv _ cs hd rfl
   cases hn : H1 (ids (.inl d)) with
   | none => rfl
   | some b =>
    exfalso
    rcases g2 _ (by rw [hn]; simp) with h | ⟨cs', hp⟩
    ·exact h k2
    ·have k3 : ids (.inr (ids (.inl d))) = ids (.inl d) := (hpv _ cs' hp rfl).2.2
     cases hinj _ _ _ _ hp hd rfl rfl k3
  have hmid : ∃ fr1 H1', FR nt g' w' a' fr1 ∧ (∀ id b, H1' id = some b → H id = some b) ∧ (∀ d cs, pv (.inl d) = some cs → H1' (ids (.inl d)) = none) ∧ nameF A al pv fr1 H1' fun fr'' H => opsA P A nt ops (ops.toList.drop k) fr'' H (Q .normal) := by
   rcases dx with _ | d
   ·exact ⟨fr', H1, hF', g1, hfree, hK⟩
   ·simp only [nameTF] at hK
    obtain ⟨xs, e1, e2, e3, e4⟩ := hK
    obtain ⟨c, hc⟩ := Option.isSome_iff_exists.1 e1
    obtain ⟨xs', tl, q1, q2, q3⟩ := htk d c hc
    rw [e2] at q1
    cases q1
    have hFR : FR nt g' w' a' (fr'.put (some d) (.sl xs tl)) := by
     refine ⟨hF'.size, fun t => ?_, hF'.df⟩
     simp only [Fr.put]
     split
     ·rename_i e; subst e; exact q2
     ·exact hF'.s t
    rcases q3 with ⟨_, q⟩ | ⟨t, _, q, q4, q5⟩
    ·exact ⟨_, H1, hFR, g1, hfree, e3 tl q⟩
    ·subst q
     have ht : H1 t = none := by
      cases hn : H1 t with
      | none => rfl
      | some b =>
       exfalso
       rcases g2 _ (by rw [hn]; simp) with h | ⟨cs', hp⟩
       ·exact h q5
       ·have := hex _ _ hp; rw [q4] at this; cases this
     refine ⟨_, _, hFR, fun id b hb => ?_, fun d' cs hd' => ?_, e4 t ht⟩
     ·by_cases e : id = t
      ·subst e; rw [upd_same] at hb; cases hb; exact q4
      ·rw [upd_other _ _ e] at hb; exact g1 _ _ hb
     ·have hne : ids (.inl d') ≠ t := fun e => by
       have := (hpv _ cs hd' rfl).1
       rw [e, q4] at this; cases this
      rw [upd_other _ _ hne]; exact hfree d' cs hd'
  obtain ⟨fr1, H1', hF1, g1', hfree', hK⟩ := hmid
  obtain ⟨g3, fr2, H2, s2, hR2, hF2, hK2⟩ := nameF_at hinj al fr1 g' H H1' hR' hnd (fun d _ cs hd => by
   obtain ⟨k1, _, _, b, k4, k5⟩ := hpv _ cs hd rfl
   exact ⟨k1, b, k4, k5⟩) g1' (fun d _ cs hd => hfree' d cs hd) hF1 hK
  exact tail_any (A := A) (r := r) (K := Q .normal) (k := k) (fun i hi => ⟨(hat i hi).1, fun j hj hkj => ((hat i hi).2 j hj).elim (fun h => h) fun h => absurd h.1 (by omega)⟩) (g0 := g) (w0 := w) (fun g3 w3 a3 fr3 H3 s3 hR3 hF3 hK3 => ⟨g3, fr3, H3, s3, hR3, hF3, hK3⟩) (ops.size - k) k listed fr2 H2 (by omega) (by omega) hsz hl hK2 g3 w' a' ((sd.trans s).trans s2) hR2 hF2
end
end Go.Ab

