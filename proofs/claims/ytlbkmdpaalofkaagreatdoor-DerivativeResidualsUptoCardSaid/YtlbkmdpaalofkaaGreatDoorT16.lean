/- AbD1 AbD2 -/
import Derived.Test.YtlbkmdpaalofkaaGreatDoorT15
set_option linter.all false

namespace Go.Ab
open Go.RowKit
variable [Glob] [Ar]
section
variable {P : Program} {nt : Nat} {ops : Array Oper} {H0 : Heap}
def nameF (A : Nat → Bool) : List Nat → Pv → Fr → Heap → (Fr → Heap → Prop) → Prop
 | [], _, fr, H, K => K fr H
 | d :: ds, pv, fr, H, K =>
  match pv (.inl d) with
  | some cs => if A d then ∀ id, H id = none → nameF A ds pv (fr.put (some d) (.ref id 0)) (upd H id (some (.cells cs))) K else nameF A ds pv (fr.put (some d) (.eref cs 0)) H K
  | none => False
theorem nameF_at {A : Nat → Bool} {w : World} {a : Act} {ids : Pk → Nat} {pv : Pv} {K : Fr → Heap → Prop} (hinj : ∀ d d' cs cs', pv d = some cs → pv d' = some cs' → d.var = true → d'.var = true → ids d = ids d' → d = d') :
 ∀ (ds : List Nat) (fr : Fr) (g : Gh) (H H1 : Heap), Rl g H w → ds.Nodup → (∀ d ∈ ds, ∀ cs, pv (.inl d) = some cs → H (ids (.inl d)) = some (.cells cs) ∧ ∃ b, g.mu (ids (.inl d)) = some b ∧ a.tmps.getD d undef = .pointer (some ⟨b, 0, none⟩)) →
  (∀ id b, H1 id = some b → H id = some b) → (∀ d ∈ ds, ∀ cs, pv (.inl d) = some cs → H1 (ids (.inl d)) = none) → FR nt g w a fr → nameF A ds pv fr H1 K → ∃ g' fr' H', Stp g w g' w ∧ Rl g' H' w ∧ FR nt g' w a fr' ∧ K fr' H'
 | [], fr, g, H, H1, hR, _, _, hl, _, hF, h => ⟨g, fr, H1, Stp.refl _ _, hR.less hl, hF, h⟩
 | d :: ds, fr, g, H, H1, hR, hnd, hpv, hl, hfr, hF, h => by
  simp only [nameF] at h
  have hnd' := List.nodup_cons.1 hnd
  split at h
  ·rename_i cs hcs
   obtain ⟨k1, b, k2, k3⟩ := hpv d (by simp) cs hcs
   split at h
   ·refine nameF_at hinj ds _ g H _ hR hnd'.2 (fun d' hd' => hpv d' (by simp [hd'])) (fun id bk hb => ?_) (fun d' hd' cs' hp => ?_) ?_ (h (ids (.inl d)) (hfr d (by simp) cs hcs))
    ·by_cases e : id = ids (.inl d)
     ·subst e; rw [upd_same] at hb; cases hb; exact k1
     ·rw [upd_other _ _ e] at hb; exact hl _ _ hb
    ·by_cases e : ids (.inl d') = ids (.inl d)
     ·exact absurd (hinj _ _ _ _ hp hcs rfl rfl e) fun x => hnd'.1 (by cases x; exact hd')
     ·rw [upd_other _ _ e]; exact hfr d' (by simp [hd']) cs' hp
    ·refine ⟨hF.size, fun t => ?_, hF.df⟩
     simp only [Fr.put]
     split
     ·rename_i e; subst e; rw [k3]; exact .ref k2
     ·exact hF.s t
   ·obtain ⟨g', s, hR', hv⟩ := hR.freeze k1
    have hF' := hF.mono s
    have e1 : ∀ d' ∈ ds, ∀ cs', pv (.inl d') = some cs' → (upd H (ids (.inl d)) none) (ids (.inl d')) = some (.cells cs') ∧ ∃ b, g'.mu (ids (.inl d')) = some b ∧ a.tmps.getD d' undef = .pointer (some ⟨b, 0, none⟩) := fun d' hd' cs' hp => by
     obtain ⟨q1, b', q2, q3⟩ := hpv d' (by simp [hd']) cs' hp
     have hne : ids (.inl d') ≠ ids (.inl d) := fun e => absurd (hinj _ _ _ _ hp hcs rfl rfl e) fun x => hnd'.1 (by cases x; exact hd')
     exact ⟨by rw [upd_other _ _ hne]; exact q1, b', s.mu _ _ q2, q3⟩
    have e2 : ∀ id bk, H1 id = some bk → (upd H (ids (.inl d)) none) id = some bk := fun id bk hb => by
     have hne : id ≠ ids (.inl d) := fun e => by subst e; rw [hfr d (by simp) cs hcs] at hb; cases hb
     rw [upd_other _ _ hne]; exact hl _ _ hb
    have e3 : FR nt g' w a (fr.put (some d) (.eref cs 0)) := by
     refine ⟨hF'.size, fun t => ?_, hF'.df⟩
     simp only [Fr.put]
     split
     ·rename_i e; subst e; rw [k3]; exact hv _ _ (.ref k2)
     ·exact hF'.s t
    obtain ⟨g2, fr2, H2, s2, r⟩ := nameF_at hinj ds _ g' _ H1 hR' hnd'.2 e1 e2 (fun d' hd' => hfr d' (by simp [hd'])) e3 h
    exact ⟨g2, fr2, H2, s.trans s2, r⟩
  ·exact h.elim
abbrev Tk := List (Nat × List V)
def pvW (W : Tk) : Pv
 | .inl _ => none
 | .inr id => (W.find? fun p => p.1 == id).map (·.2)
 | .tk _ => none
def without (H : Heap) : Tk → Heap
 | [] => H
 | (id, _) :: W => upd (without H W) id none
def giveF : Tk → Pv → Heap → (Heap → Prop) → Prop
 | [], _, H, K => K H
 | (id, _) :: W, pv, H, K => giveF W pv H fun H' => match pv (.inr id) with | some cs => K (upd H' id (some (.cells cs))) | none => False
theorem without_sub {H : Heap} : ∀ {W : Tk} {id : Nat} {b : Blk}, without H W id = some b → H id = some b ∧ ∀ p ∈ W, p.1 ≠ id
 | [], id, b, h => ⟨h, fun p hp => by simp at hp⟩
 | (i, c) :: W, id, b, h => by
  simp only [without] at h
  by_cases e : id = i
  ·subst e; rw [upd_same] at h; cases h
  ·rw [upd_other _ _ e] at h
   obtain ⟨h1, h2⟩ := without_sub h
   refine ⟨h1, fun p hp => ?_⟩
   rcases List.mem_cons.1 hp with rfl | hp
   ·exact fun x => e x.symm
   ·exact h2 p hp
theorem without_none {H : Heap} : ∀ {W : Tk} {p : Nat × List V}, p ∈ W → without H W p.1 = none
 | (i, c) :: W, p, h => by
  simp only [without]
  by_cases e : p.1 = i
  ·rw [e, upd_same]
  ·rw [upd_other _ _ e]
   rcases List.mem_cons.1 h with rfl | h
   ·exact absurd rfl e
   ·exact without_none h
theorem giveF_at {Hw : Heap} {pv : Pv} (hpv : ∀ id cs, pv (.inr id) = some cs → Hw id = some (.cells cs)) : ∀ (W : Tk) (H : Heap) (K : Heap → Prop), (∀ id b, H id = some b → Hw id = some b) → giveF W pv H K → ∃ H', (∀ id b, H' id = some b → Hw id = some b) ∧ (∀ id, H' id ≠ none → H id ≠ none ∨ ∃ cs, pv (.inr id) = some cs) ∧ K H'
 | [], H, K, hl, h => ⟨H, hl, fun id hn => .inl hn, h⟩
 | (i, c) :: W, H, K, hl, h => by
  simp only [giveF] at h
  obtain ⟨H', h1, h2, h3⟩ := giveF_at hpv W H _ hl h
  split at h3
  ·rename_i cs hcs
   refine ⟨_, fun id b hb => ?_, fun id hn => ?_, h3⟩
   ·by_cases e : id = i
    ·subst e; rw [upd_same] at hb; cases hb; exact hpv _ _ hcs
    ·rw [upd_other _ _ e] at hb; exact h1 _ _ hb
   ·by_cases e : id = i
    ·exact .inr ⟨cs, e ▸ hcs⟩
    ·rw [upd_other _ _ e] at hn
     exact h2 id hn
  ·exact h3.elim
theorem Sim.drawF {A : Ann} {rd : Option Nat} {id k : Nat} {al : List Nat} {W : Tk} {fr : Fr} {Q : Exit → Fr → Heap → Prop} (hm : P.follows .mixedOrders = true) (hok : drawOk ops k = true) (hnd : al.Nodup)
 (hW : ∀ p ∈ W, H0 p.1 = some (.cells p.2))
 (h : drawB P nt ops (without H0 W) (ops.toList.take k) fr (pvW W) fun fr' pv => giveF W pv (without H0 W) fun H1 => nameF A al pv fr' H1 fun fr'' H => opsA P A nt ops (ops.toList.drop k) fr'' H (Q .normal)) : Sim P nt rd (.region id ops true) fr H0 Q := by
 intro r g w a _ hR hF
 refine wpIn_region_any hm ?_
 obtain ⟨hk, hat⟩ := drawOk_at hok
 have sd : Stp g w g w.drew := ⟨fun _ _ e => e, fun _ _ e => e, fun _ _ e => e, rfl, fun _ _ _ => rfl, (Below.refl _ _).drew, fun _ _ _ => rfl⟩
 have hRd : Rl g H0 w.drew := by
  refine ⟨fun id b hb => (hR.blk id b hb).mono hb sd fun _ _ => ⟨rfl, fun _ ho => ho⟩, hR.inj, hR.frz, hR.nxt, hR.bnd, fun n => (hR.glb n).mono sd⟩
 have hI : DInv nt (without H0 W) g w.drew fr (pvW W) g w.drew a := by
  refine ⟨H0, fun k => match k with | .inl _ => 0 | .inr n => n | .tk _ => 0, Stp.refl _ _, hRd, hF.mono sd, fun id b hb => (without_sub hb).1, fun d cs h _ => ?_, fun d d' cs cs' h h' _ _ e => ?_, fun _ => none, fun d cs h => (by cases h), fun d d' cs cs' t h => (by cases h)⟩
  ·cases d with
   | inl d => cases h
   | inr n =>
    simp only [pvW] at h
    cases hf : W.find? fun p => p.1 == n with
    | none => rw [hf] at h; cases h
    | some p =>
     rw [hf] at h
     simp only [Option.map_some, Option.some.injEq] at h
     have hp := List.mem_of_find?_eq_some hf
     have hn : p.1 = n := by have := List.find?_some hf; simpa using this
     subst h; subst hn
     exact ⟨hW p hp, without_none hp, rfl⟩
   | tk d => cases h
  ·cases d with
   | inl d => cases h
   | tk d => cases h
   | inr n =>
    cases d' with
    | inl d' => cases h'
    | tk d' => cases h'
    | inr n' => simp only at e; rw [e]
 have hmap : (List.range k).map (fun i => ops.getD i default) = ops.toList.take k := by
  apply List.ext_getElem
  ·simp; omega
  ·intro i h1 h2
   simp at h1
   simp [Array.getD, show i < ops.size by omega]
 have hb := body_any (r := r) (Q := End nt g w Q) hk (fun i hi => ⟨(hat i hi).1, fun j hj => ((hat i hi).2 j hj).imp (fun h => h) .inl⟩) (K := fun fr' pv => giveF W pv (without H0 W) fun H1 => nameF A al pv fr' H1 fun fr'' H => opsA P A nt ops (ops.toList.drop k) fr'' H (Q .normal)) (g0 := g) (w0 := w.drew)
  (fun g' w' a' fr' pv listed hsz hl hI' hK => ?_) k (List.range k) (Array.replicate ops.size false) fr (pvW W) (by simp) (List.pairwise_lt_range) (fun i hi => by simpa using hi) (by simp) (fun i b hi => by simp [Array.getD, hi]) (fun m j hm _ => by simp [Array.getD] at hm) (by rw [hmap]; exact h) g w.drew a hI
 ·rw [show k + (ops.size - k) = ops.size by omega] at hb
  exact hb
 ·obtain ⟨H, ids, s, hR', hF', hext, hpv, hinj, _⟩ := hI'
  have hex : ∀ n cs, pv (.inr n) = some cs → H n = some (.cells cs) := fun n cs hn => by
   obtain ⟨k1, _, k3⟩ := hpv _ cs hn rfl
   have k3 : ids (.inr n) = n := k3
   rwa [k3] at k1
  obtain ⟨H1, g1, g2, hK⟩ := giveF_at hex W _ _ hext hK
  have hfree : ∀ d cs, pv (.inl d) = some cs → H1 (ids (.inl d)) = none := fun d cs hd => by
   obtain ⟨k1, k2, _⟩ := hpv _ cs hd rfl
   cases hn : H1 (ids (.inl d)) with
   | none => rfl
   | some b =>
    exfalso
    rcases g2 _ (by rw [hn]; simp) with h | ⟨cs', hp⟩
    ·exact h k2
    ·have k3 : ids (.inr (ids (.inl d))) = ids (.inl d) := (hpv _ cs' hp rfl).2.2
     cases hinj _ _ _ _ hp hd rfl rfl k3
  obtain ⟨g3, fr2, H2, s2, hR2, hF2, hK2⟩ := nameF_at hinj al fr' g' H H1 hR' hnd (fun d _ cs hd => by
   obtain ⟨k1, _, _, b, k4, k5⟩ := hpv _ cs hd rfl
   exact ⟨k1, b, k4, k5⟩) g1 (fun d _ cs hd => hfree d cs hd) hF' hK
  exact tail_any (A := A) (r := r) (K := Q .normal) (k := k) (fun i hi => ⟨(hat i hi).1, fun j hj hkj => ((hat i hi).2 j hj).elim (fun h => h) fun h => absurd h.1 (by omega)⟩) (g0 := g) (w0 := w) (fun g3 w3 a3 fr3 H3 s3 hR3 hF3 hK3 => ⟨g3, fr3, H3, s3, hR3, hF3, hK3⟩) (ops.size - k) k listed fr2 H2 (by omega) (by omega) hsz hl hK2 g3 w' a' ((sd.trans s).trans s2) hR2 hF2
end
end Go.Ab

namespace Go.Ab
open Go.RowKit
variable [Glob] [Ar]
def hasN : List Nat → Nat → Bool
 | [], _ => false
 | x :: l, n => match Nat.beq n x with | true => true | false => hasN l n
abbrev Pvl := List (Nat × List V)
def lkp : Pvl → Nat → Option (List V)
 | [], _ => none
 | (k, x) :: l, t => match Nat.beq t k with | true => some x | false => lkp l t
section
variable (E : Env) (T : Tbl) (nt : Nat) (A : Nat → Bool)
def xqd (G : List (Nat × Bool)) (o : Oper) (l : Fl) (H : Heap) (k : Sl → Prop) : Prop :=
 match o.op with
 | .call c =>
  (match c.callee with
   | .value x => E.pcall (evS G l x).V (c.args.toList.map fun x => (evS G l x).V) fun v => k (.v v)
   | _ => xq E T G o l H k)
 | _ => xq E T G o l H k
def pvFree (pv : Pvl) (d : Option Tmp) : Bool :=
 match d with
 | some d => (match lkp pv d with | none => true | some _ => false)
 | none => true
abbrev Pe := Option (Nat × Nat × List V)
def tkFree (tk : List Nat) (d : Option Tmp) : Bool :=
 match d with
 | some d => !hasN tk d
 | none => true
def dropN : List Nat → Nat → List Nat
 | [], _ => []
 | x :: l, n => match Nat.beq n x with | true => dropN l n | false => x :: dropN l n
def dropT (s : Option Nat) (tk : List Nat) : List Nat :=
 match s with
 | some d => dropN tk d
 | none => tk
def xsrc (tk : List Nat) (sx : Operand) (tl : Tail) : Option (Option Nat) :=
 match tl with
 | .nil => some none
 | .full => some none
 | .ro => (match sx with | .tmp d => (match hasN tk d with | true => some (some d) | false => none) | _ => none)
 | _ => none
def xpapp (o : Oper) (l : Fl) (tk : List Nat) (k : Nat → Option Nat → V → Prop) : Prop :=
 match o.op, o.dst, o.guard with
 | .call { callee := .builtin .append, args := ⟨[sx, sy]⟩, argTypes := ⟨[sT, yT]⟩ }, some dd, none =>
  (match (evS [] l sx).V, (evS [] l sy).V with
   | .sl xs tlx, .sl ys _ =>
    (match xsrc tk sx tlx with
     | some src =>
      (match tg T sT, tg T yT with
       | some I, some I2 =>
        (match I.sl, I2.sl with
         | some e, some _ =>
          (match tg T e with
           | some J =>
            (match J.ze with
             | some z => if 0 < J.sz ∧ 0 < J.by_ ∧ z.one = true ∧ z.cells.length = J.sz then E.appq J.sz J.by_ xs ys fun v => k dd src v else False
             | none => False)
           | none => False)
         | _, _ => False)
       | _, _ => False)
     | none => False)
   | _, _ => False)
 | _, _, _ => False
def xdB (ads : List Nat) (ops : Array Oper) : List Oper → Fl → Pvl → Pe → List Nat → Heap → (Fl → Pvl → Pe → List Nat → Prop) → Prop
 | [], l, pv, pe, tk, _, K => K l pv pe tk
 | o :: rest, l, pv, pe, tk, H, K =>
  match dstOk nt o.dst, pvFree pv o.dst, tkFree tk o.dst with
  | true, true, true =>
   (match A (o.dst.getD 0 + 3000000) with
    | true => xpapp E T o l tk fun dd src v => xdB ads ops rest ((dd, .v v) :: l) pv pe (dd :: dropT src tk) H K
    | false =>
     (match o.op with
      | .alloc t =>
       (match o.guard, o.dst, tg T t with
        | none, some d, some I =>
         (match I.ze with
          | some z => (match z.one with | true => xdB ads ops rest ((d, .v .bad) :: l) ((d, z.cells) :: pv) pe tk H K | false => False)
          | none => False)
        | _, _, _ => False)
      | .store t (.tmp d) y =>
       (match o.guard, tg T t with
        | none, some I =>
         (match lkp pv d with
          | some cs => if (evS [] l y).V.one = true ∧ (evS [] l y).V.cells.length = I.sz ∧ I.sz ≤ cs.length then xdB ads ops rest (putl o.dst (.v .bad) l) ((d, splice cs 0 (evS [] l y).V.cells) :: pv) pe tk H K else False
          | none =>
           (match hasN ads d, opndO [] l d, pe with
            | true, some (.v (.ref id off)), some (ds, id', cs) =>
             if (evS [] l y).V.one = true ∧ (evS [] l y).V.cells.length = I.sz ∧ off + I.sz ≤ cs.length then E.need (id = id') fun _ => xdB ads ops rest (putl o.dst (.v .bad) l) pv (some (ds, id', splice cs off (evS [] l y).V.cells)) tk H K else False
            | _, _, _ => False))
        | _, _ => False)
      | .store _ _ _ => False
      | _ => xguard E ops o 4 l (fun G l' wr => xqd E T G o l' H fun s => xdB ads ops rest (putl o.dst (wr s) l') pv pe tk H K) fun l' => xdB ads ops rest (putl o.dst (.v (.tup [])) l') pv pe tk H K))
  | _, _, _ => False
def xnameF : List Nat → Pvl → Fl → Heap → (Fl → Heap → Prop) → Prop
 | [], _, l, H, K => K l H
 | d :: ds, pv, l, H, K =>
  match lkp pv d with
  | some cs => (match A d with | true => E.alloc H cs fun id H' => xnameF ds pv ((d, .v (.ref id 0)) :: l) H' K | false => xnameF ds pv ((d, .v (.eref cs 0)) :: l) H K)
  | none => False
def xtail (ops : Array Oper) : List Oper → Fl → Heap → (Fl → Heap → Prop) → Prop
 | [], l, H, K => K l H
 | o :: rest, l, H, K =>
  match dstOk nt o.dst with
  | true => xguard E ops o 4 l (fun G l' wr => xop E T A G o l' H fun s H' => xtail ops rest (putl o.dst (wr s) l') H' K) fun l' => xtail ops rest (putl o.dst (.v (.tup [])) l') H K
  | false => False
def allocsOf : List Oper → List Nat
 | [] => []
 | o :: l => match o.op, o.dst with | .alloc _, some d => d :: allocsOf l | _, _ => allocsOf l
def xgive (pe : Pe) (H : Heap) (K : Heap → Prop) : Prop :=
 match pe with
 | some (_, id, cs) => E.give H id cs K
 | none => K H
def xtake (w : Option (Nat × List Nat)) (l : Fl) (H : Heap) (K : List Nat → Pe → Heap → Prop) : Prop :=
 match w with
 | none => K [] none H
 | some (d, ads) => (match lk l d with | .v (.ref id 0) => E.frz H id fun cs H' => K ads (some (d, id, cs)) H' | _ => False)
def xdraw (w : Option (Nat × List Nat)) (k : Nat) (ops : Array Oper) (l : Fl) (H : Heap) (K : Fl → Heap → Prop) : Prop :=
 xtake E w l H fun ads pe H1 => xdB E T nt A ads ops (ops.toList.take k) l [] pe [] H1 fun l' pv pe' _ => xgive E pe' H1 fun H2 => xnameF E A (allocsOf (ops.toList.take k)) pv l' H2 fun l'' H' => xtail E T nt A ops (ops.toList.drop k) l'' H' K
end
section
variable {P : Program} {nt : Nat} {rd : Option Nat} {T : Tbl} {A : Nat → Bool} {df : List Nat}
theorem xqd_sound (hT : TOk P T) {G : List (Nat × Bool)} {o : Oper} {l : Fl} (hG : Gok G l) {H : Heap} {k : Sl → Prop} (h : xqd (real P nt rd) T G o l H k) : ∃ s : Sl, opQ P o (ev (frOf ⟨l, df⟩)) H s.V ∧ k s := by
 unfold xqd at h
 split at h
 ·rename_i c ho
  split at h
  ·rename_i x hc
   obtain ⟨v, h1, h2⟩ := h
   rw [evS_ev (df := df) hG, show (c.args.toList.map fun x => (evS G l x).V) = c.args.toList.map (ev (frOf ⟨l, df⟩)) from List.map_congr_left fun p _ => evS_ev hG p] at h1
   exact ⟨.v v, by simp only [opQ, ho, hc]; exact h1, h2⟩
  ·exact xq_sound hT hG h
 ·exact xq_sound hT hG h
theorem xqd_tot (hT : TOk P T) {G : List (Nat × Bool)} {o : Oper} {l : Fl} {H : Heap} {k : Sl → Prop} (ht : isTot G o l = true) (h : xqd (real P nt rd) T G o l H k) : ∃ s, k s := by
 unfold xqd at h
 split at h
 ·rename_i c ho
  split at h
  ·obtain ⟨v, h1, h2⟩ := h
   exact ⟨_, h2⟩
  ·exact xq_tot hT ht h
 ·exact xq_tot hT ht h
theorem xtail_sound (hT : TOk P T) {ops : Array Oper} {K : Fl → Heap → Prop} : ∀ (rest : List Oper) (l : Fl) (H : Heap), xtail (real P nt rd) T nt A ops rest l H K → opsA P A nt ops rest (frOf ⟨l, df⟩) H fun fr H' => ∃ l', fr = frOf ⟨l', df⟩ ∧ K l' H'
 | [], l, H, h => ⟨l, rfl, h⟩
 | o :: rest, l, H, h => by
  unfold xtail at h
  split at h
  ·rename_i hd
   simp only [opsA]
   refine ⟨hd, ?_⟩
   obtain ⟨l', e, h⟩ := xguard_sound (df := df) 4 l h
   have e : frOf ⟨l', df⟩ = frOf ⟨l, df⟩ := by simp only [frOf, Fr.mk.injEq, and_true]; funext t; exact e t
   rcases h with ⟨hg, G, wr, hG, hwr, h⟩ | ⟨hg, h⟩
   ·rw [hg]
    rw [← e]
    refine opA_mono (xop_sound (df := df) hT hG h) fun v H' ⟨s, hv, hk⟩ => ?_
    subst hv
    rw [← hwr s, ← frOf_put]
    exact xtail_sound hT rest _ _ hk
   ·rw [hg]
    rw [← e]
    rcases h with h | ⟨G, d, want, ht, hb, h⟩
    ·have := xtail_sound hT rest _ _ h
     rw [frOf_put] at this
     exact this
    ·obtain ⟨s, h⟩ := xop_tot hT ht h
     have := xtail_sound hT rest _ _ h
     rw [frOf_put] at this
     simp only [slV, hb, cond_false] at this
     exact this
  ·exact h.elim
def pvOf (pv : Pvl) (pe : Pe) (tk : List Nat) : Pv
 | .inl d => lkp pv d
 | .inr x => (match pe with | some (_, id, cs) => if x = id then some cs else none | none => none)
 | .tk d => (match hasN tk d with | true => some [] | false => none)
theorem beq_of {a b : Nat} : Nat.beq a b = true ↔ a = b := ⟨Nat.eq_of_beq_eq_true, fun h => by subst h; exact Nat.beq_refl _⟩
theorem lkp_cons {pv : Pvl} {d t : Nat} {cs : List V} : lkp ((d, cs) :: pv) t = if t = d then some cs else lkp pv t := by
 simp only [lkp]
 by_cases h : t = d
 ·subst h; simp [Nat.beq_refl]
 ·have : Nat.beq t d = false := by
   cases hb : Nat.beq t d with
   | false => rfl
   | true => exact absurd (Nat.eq_of_beq_eq_true hb) h
  simp [this, h]
theorem hasN_cons {tk : List Nat} {d t : Nat} : hasN (d :: tk) t = (decide (t = d) || hasN tk t) := by
 simp only [hasN]
 by_cases h : t = d
 ·subst h; simp [Nat.beq_refl]
 ·have : Nat.beq t d = false := by
   cases hb : Nat.beq t d with
   | false => rfl
   | true => exact absurd (Nat.eq_of_beq_eq_true hb) h
  simp [this, h]
theorem hasN_drop {d t : Nat} : ∀ {tk : List Nat}, hasN (dropN tk d) t = (!decide (t = d) && hasN tk t)
 | [] => by simp [dropN, hasN]
 | x :: l => by
  simp only [dropN]
  split
  ·rename_i h
   have := beq_of.1 h
   subst this
   rw [hasN_drop (tk := l), hasN_cons]
   by_cases e : t = d <;> simp [e]
  ·rename_i h
   have hne : d ≠ x := fun e => by rw [beq_of.2 e] at h; cases h
   rw [hasN_cons, hasN_cons, hasN_drop (tk := l)]
   by_cases e : t = x
   ·subst e; simp [Ne.symm hne]
   ·simp [e]
theorem pvOf_cons {pv : Pvl} {pe : Pe} {tk : List Nat} {d : Nat} {cs : List V} : pvOf ((d, cs) :: pv) pe tk = pvSet (pvOf pv pe tk) (.inl d) cs := by
 funext t
 cases t with
 | inl t =>
  simp only [pvOf, pvSet, lkp_cons, Pk.inl.injEq]
 | inr x => simp [pvOf, pvSet]
 | tk x => simp [pvOf, pvSet]
theorem pvOf_pe {pv : Pvl} {tk : List Nat} {ds id : Nat} {cs cs' : List V} : pvOf pv (some (ds, id, cs')) tk = pvSet (pvOf pv (some (ds, id, cs)) tk) (.inr id) cs' := by
 funext t
 cases t with
 | inl t => simp [pvOf, pvSet]
 | inr x =>
  simp only [pvOf, pvSet, Pk.inr.injEq]
  by_cases h : x = id <;> simp [h]
 | tk x => simp [pvOf, pvSet]
theorem pvOf_tk {pv : Pvl} {pe : Pe} {tk : List Nat} {d : Nat} {src : Option Nat} : pvOf pv pe (d :: dropT src tk) = pvSet (pvDel (pvOf pv pe tk) src) (.tk d) [] := by
 funext t
 cases t with
 | inl t => rw [pvSet_ne (by simp), pvDel_other (by simp)]; rfl
 | inr x => rw [pvSet_ne (by simp), pvDel_other (by simp)]; rfl
 | tk x =>
  by_cases h : x = d
  ·subst h
   have : hasN (x :: dropT src tk) x = true := by rw [hasN_cons]; simp
   simp [pvOf, pvSet, this]
  ·rw [pvSet_ne (fun e => by cases e; exact h rfl)]
   have e1 : hasN (d :: dropT src tk) x = hasN (dropT src tk) x := by rw [hasN_cons]; simp [h]
   cases src with
   | none => simp only [pvOf, e1]; rfl
   | some c =>
    have e2 : hasN (dropT (some c) tk) x = (!decide (x = c) && hasN tk x) := hasN_drop
    simp only [pvOf, pvDel, e1, e2, Pk.tk.injEq]
    by_cases hc : x = c <;> simp [hc]
theorem pvFree_ok {pv : Pvl} {pe : Pe} {tk : List Nat} {d : Option Tmp} (h : pvFree pv d = true) (h2 : tkFree tk d = true) : dstFree (pvOf pv pe tk) d := by
 cases d with
 | none => trivial
 | some d =>
  simp only [pvFree] at h
  simp only [tkFree, Bool.not_eq_true'] at h2
  simp only [dstFree, pvOf, h2, and_true]
  split at h
  ·assumption
  ·cases h
theorem xsrc_ok {l : Fl} {pv : Pvl} {pe : Pe} {tk : List Nat} {sx : Operand} {tl : Tail} {src : Option Nat} (h : xsrc tk sx tl = some src) : PSrc (pvOf pv pe tk) sx tl src := by
 unfold xsrc at h
 split at h
 ·cases h; exact .inl rfl
 ·cases h; exact .inr rfl
 ·split at h
  ·rename_i d
   split at h
   ·rename_i hd
    cases h
    exact ⟨rfl, rfl, by simp [pvOf, hd]⟩
   ·cases h
  ·cases h
 ·cases h
theorem xpapp_sound (hT : TOk P T) {o : Oper} {l : Fl} {pv : Pvl} {pe : Pe} {tk : List Nat} {k : Nat → Option Nat → V → Prop} (h : xpapp (real P nt rd) T o l tk k) : ∃ dd src v, o.dst = some dd ∧ PApp P o (frOf ⟨l, df⟩) (pvOf pv pe tk) src v ∧ k dd src v := by
 unfold xpapp at h
 split at h
 ·rename_i sx sy sT yT dd ho hdst hg
  split at h
  ·rename_i xs tlx ys tly e1 e2
   rw [evS_ev (l := l) (df := df) Gok.nil] at e1 e2
   split at h
   ·rename_i src hs
    split at h
    ·rename_i I I2 hI hI2
     split at h
     ·rename_i e e2' he he2
      split at h
      ·rename_i J hJ
       split at h
       ·rename_i z hz
        have ez := (tg_ok hT hJ).ze; rw [hz] at ez; simp only [optOk] at ez
        split at h
        ·rename_i hc
         obtain ⟨c1, c2, c3, c4⟩ := hc
         obtain ⟨xs', ys', l1, l2, k1, k2, k3, k4⟩ := h
         exact ⟨dd, src, _, hdst, ⟨hg, sx, sy, sT, yT, xs, tlx, ys, tly, xs', ys', ho, e1, e2, xsrc_ok (l := l) hs, ⟨e, J.sz, J.by_, z, (tg_ok hT hI).sl.trans he, by rw [(tg_ok hT hI2).sl, he2]; rfl, (tg_ok hT hJ).sz, c1, (tg_ok hT hJ).by_, c2, ez, c3, c4, l1, l2, k1, k2, k3⟩, rfl⟩, k4⟩
        ·exact h.elim
       ·exact h.elim
      ·exact h.elim
     ·exact h.elim
    ·exact h.elim
   ·exact h.elim
  ·exact h.elim
 ·exact h.elim
theorem xdB_sound (hT : TOk P T) {ads : List Nat} {ops : Array Oper} {H : Heap} {K : Fl → Pvl → Pe → List Nat → Prop} : ∀ (rest : List Oper) (l : Fl) (pv : Pvl) (pe : Pe) (tk : List Nat), xdB (real P nt rd) T nt A ads ops rest l pv pe tk H K →
 drawB P nt ops H rest (frOf ⟨l, df⟩) (pvOf pv pe tk) fun fr pv' => ∃ l' pl pe' tk', fr = frOf ⟨l', df⟩ ∧ pv' = pvOf pl pe' tk' ∧ pe'.map (fun p => p.2.1) = pe.map (fun p => p.2.1) ∧ K l' pl pe' tk'
 | [], l, pv, pe, tk, h => ⟨l, pv, pe, tk, rfl, rfl, rfl, h⟩
 | o :: rest, l, pv, pe, tk, h => by
  unfold xdB at h
  split at h
  ·rename_i hd hf hft
   simp only [drawB]
   unfold drawS
   refine ⟨⟨hd, pvFree_ok hf hft⟩, ?_⟩
   split at h
   ·obtain ⟨dd, src, v, hdst, hP, h⟩ := xpapp_sound (df := df) (pv := pv) (pe := pe) hT h
    refine ⟨v, _, .inr (.inr (.inr ⟨dd, src, hdst, hP, rfl⟩)), ?_⟩
    have := xdB_sound hT rest _ _ _ _ h
    rw [pvOf_tk, show (dd, Sl.v v) :: l = putl (some dd) (.v v) l from rfl, frOf_put] at this
    rw [hdst]; exact this
   split at h
   ·rename_i t ho
    split at h
    ·rename_i d I hg hdst hI
     split at h
     ·rename_i z hz
      have ez := (tg_ok hT hI).ze; rw [hz] at ez; simp only [optOk] at ez
      split at h
      ·rename_i h1
       refine ⟨.bad, _, .inr (.inl ⟨t, z, d, ho, hg, hdst, ez, h1, rfl, rfl⟩), ?_⟩
       have := xdB_sound hT rest _ _ _ _ h
       rw [pvOf_cons, show (d, Sl.v V.bad) :: l = putl (some d) (.v .bad) l from rfl, frOf_put] at this
       rw [hdst]; exact this
      ·exact h.elim
     ·exact h.elim
    ·exact h.elim
   ·rename_i t d y ho
    split at h
    ·rename_i I hg hI
     have hev := evS_ev (l := l) (df := df) Gok.nil y
     split at h
     ·rename_i cs hcs
      split at h
      ·rename_i hc
       obtain ⟨c1, c2, c3⟩ := hc
       rw [hev] at c1 c2 h
       refine ⟨.bad, _, .inr (.inr (.inl ⟨t, d, y, .inl d, 0, cs, ho, hg, .inl ⟨rfl, rfl, hcs⟩, c1, by rw [c2]; exact (tg_ok hT hI).sz, by rw [c2]; omega, rfl, rfl⟩)), ?_⟩
       have := xdB_sound hT rest _ _ _ _ h
       rw [pvOf_cons, frOf_put] at this
       exact this
      ·exact h.elim
     ·rename_i hcs
      split at h
      ·rename_i id off ds id' cs _ hop
       split at h
       ·rename_i hc
        obtain ⟨c1, c2, c3⟩ := hc
        obtain ⟨he, h⟩ := h
        subst he
        rw [hev] at c1 c2 h
        have hd : (frOf ⟨l, df⟩).s d = .ref id off := (opndO_ok Gok.nil hop).1.symm
        refine ⟨.bad, _, .inr (.inr (.inl ⟨t, d, y, .inr id, off, cs, ho, hg, .inr ⟨id, rfl, hd, hcs, by simp [pvOf]⟩, c1, by rw [c2]; exact (tg_ok hT hI).sz, by rw [c2]; exact c3, rfl, rfl⟩)), ?_⟩
        have := xdB_sound hT rest _ _ _ _ h
        rw [pvOf_pe (cs := cs), frOf_put] at this
        exact this
       ·exact h.elim
      ·exact h.elim
    ·exact h.elim
   ·exact h.elim
   ·rename_i n1 n2 n3
    have key : ∃ v, QStep P ops H o (frOf ⟨l, df⟩) v ∧ drawB P nt ops H rest ((frOf ⟨l, df⟩).put o.dst v) (pvOf pv pe tk) fun fr pv' => ∃ l' pl pe' tk', fr = frOf ⟨l', df⟩ ∧ pv' = pvOf pl pe' tk' ∧ pe'.map (fun p => p.2.1) = pe.map (fun p => p.2.1) ∧ K l' pl pe' tk' := by
     obtain ⟨l', e, h⟩ := xguard_sound (df := df) 4 l h
     have e : frOf ⟨l', df⟩ = frOf ⟨l, df⟩ := by simp only [frOf, Fr.mk.injEq, and_true]; funext t; exact e t
     rcases h with ⟨hg, G, wr, hG, hwr, h⟩ | ⟨hg, h⟩
     ·obtain ⟨s, h1, h2⟩ := xqd_sound (df := df) hT hG h
      refine ⟨s.V, by simp only [QStep, hg]; rw [← e]; exact h1, ?_⟩
      have := xdB_sound hT rest _ _ _ _ h2
      rw [frOf_put, hwr s, e] at this
      exact this
     ·refine ⟨.tup [], by simp only [QStep, hg], ?_⟩
      rcases h with h | ⟨G, d, want, ht, hb, h⟩
      ·have := xdB_sound hT rest _ _ _ _ h
       rw [frOf_put, e] at this
       exact this
      ·obtain ⟨s, h⟩ := xqd_tot hT ht h
       have := xdB_sound hT rest _ _ _ _ h
       rw [frOf_put, e] at this
       simp only [slV, hb, cond_false] at this
       exact this
    obtain ⟨v, h1, h2⟩ := key
    refine ⟨v, _, .inl ⟨?_, ?_, h1, rfl⟩, h2⟩
    ·cases hx : o.op <;> first | rfl | exact absurd hx (n1 _)
    ·cases hx : o.op <;> first | rfl | exact absurd hx (n3 _ _ _)
  ·exact h.elim
theorem xnameF_sound {pe : Pe} {tk : List Nat} {K : Fl → Heap → Prop} : ∀ (ds : List Nat) (pv : Pvl) (l : Fl) (H : Heap), xnameF (real P nt rd) A ds pv l H K → nameF A ds (pvOf pv pe tk) (frOf ⟨l, df⟩) H fun fr H' => ∃ l', fr = frOf ⟨l', df⟩ ∧ K l' H'
 | [], pv, l, H, h => ⟨l, rfl, h⟩
 | d :: ds, pv, l, H, h => by
  unfold xnameF at h
  simp only [nameF]
  split at h
  ·rename_i cs hcs
   have hcs' : pvOf pv pe tk (.inl d) = some cs := hcs
   rw [hcs']
   simp only
   split at h
   ·rename_i hA
    rw [if_pos hA]
    intro id hid
    have := xnameF_sound (pe := pe) (tk := tk) ds pv _ _ (h id hid)
    rw [show (d, Sl.v (V.ref id 0)) :: l = putl (some d) (.v (.ref id 0)) l from rfl, frOf_put] at this
    exact this
   ·rename_i hA
    rw [if_neg (by rw [hA]; simp)]
    have := xnameF_sound (pe := pe) (tk := tk) ds pv _ _ h
    rw [show (d, Sl.v (V.eref cs 0)) :: l = putl (some d) (.v (.eref cs 0)) l from rfl, frOf_put] at this
    exact this
  ·exact h.elim
theorem nameF_mono {A : Nat → Bool} {K K' : Fr → Heap → Prop} (hk : ∀ fr H, K fr H → K' fr H) : ∀ (ds : List Nat) (pv : Pv) (fr : Fr) (H : Heap), nameF A ds pv fr H K → nameF A ds pv fr H K'
 | [], _, _, _, h => hk _ _ h
 | d :: ds, pv, fr, H, h => by
  simp only [nameF] at h ⊢
  split at h
  ·split at h
   ·rename_i hA; rw [if_pos hA]; exact fun id hid => nameF_mono hk ds _ _ _ (h id hid)
   ·rename_i hA; rw [if_neg hA]; exact nameF_mono hk ds _ _ _ h
  ·exact h.elim
theorem drawB_mono {ops : Array Oper} {H : Heap} {K K' : Fr → Pv → Prop} (hk : ∀ fr pv, K fr pv → K' fr pv) : ∀ (l : List Oper) (fr : Fr) (pv : Pv), drawB P nt ops H l fr pv K → drawB P nt ops H l fr pv K'
 | [], _, _, h => hk _ _ h
 | _ :: l, _, _, h => drawS_mono h fun fr pv h => drawB_mono hk l fr pv h
theorem opsA_mono {ops : Array Oper} {K K' : Fr → Heap → Prop} (hk : ∀ fr H, K fr H → K' fr H) : ∀ (l : List Oper) (fr : Fr) (H : Heap), opsA P A nt ops l fr H K → opsA P A nt ops l fr H K'
 | [], _, _, h => hk _ _ h
 | o :: l, fr, H, h => by
  simp only [opsA] at h ⊢
  refine ⟨h.1, ?_⟩
  obtain ⟨_, h⟩ := h
  split at h
  ·rename_i hg; exact opA_mono h fun v H' h => opsA_mono hk l _ _ h
  ·rename_i hg; exact opsA_mono hk l _ _ h
  ·exact h.elim
theorem xdraw_sound (hT : TOk P T) {w : Option (Nat × List Nat)} {k : Nat} {ops : Array Oper} {l : Fl} {H : Heap} {K : Fl → Heap → Prop} {id : Nat} (hm : P.follows .mixedOrders = true) (hok : drawOk ops k = true) (hnd : (allocsOf (ops.toList.take k)).Nodup)
 (h : xdraw (real P nt rd) T nt A w k ops l H K) : Sim P nt rd (.region id ops true) (frOf ⟨l, df⟩) H fun e fr H' => e = .normal ∧ ∃ l', fr = frOf ⟨l', df⟩ ∧ K l' H' := by
 have rest : ∀ (l' : Fl) (pl : Pvl) (pe : Pe) (tk : List Nat) (H2 : Heap), xnameF (real P nt rd) A (allocsOf (ops.toList.take k)) pl l' H2 (fun l'' H' => xtail (real P nt rd) T nt A ops (ops.toList.drop k) l'' H' K) →
  nameF A (allocsOf (ops.toList.take k)) (pvOf pl pe tk) (frOf ⟨l', df⟩) H2 fun fr H' => opsA P A nt ops (ops.toList.drop k) fr H' fun fr H' => .normal = Exit.normal ∧ ∃ l', fr = frOf ⟨l', df⟩ ∧ K l' H' := fun l' pl pe tk H2 h => by
  refine nameF_mono (fun fr H' ⟨l'', e1, h⟩ => ?_) _ _ _ _ (xnameF_sound (df := df) (pe := pe) (tk := tk) _ _ _ _ h)
  subst e1
  exact opsA_mono (fun fr H' ⟨l', e, hk⟩ => ⟨rfl, l', e, hk⟩) _ _ _ (xtail_sound (df := df) hT _ _ _ h)
 unfold xdraw xtake at h
 cases w with
 | none =>
  refine Sim.drawF (A := A) (W := []) hm hok hnd (fun p hp => by simp at hp) ?_
  have e0 : pvW [] = pvOf [] none [] := by funext x; cases x <;> rfl
  rw [e0]
  refine drawB_mono (fun fr pv ⟨l', pl, pe', tk', e1, e2, e3, h⟩ => ?_) _ _ _ (xdB_sound (df := df) hT _ _ _ _ _ h)
  subst e1; subst e2
  cases pe' with
  | some p => cases e3
  | none => exact rest _ _ _ _ _ h
 | some p =>
  obtain ⟨d, ads⟩ := p
  simp only at h
  split at h
  ·rename_i bid hl
   obtain ⟨cs, hk, h⟩ := h
   refine Sim.drawF (A := A) (W := [(bid, cs)]) hm hok hnd (fun p hp => by simp at hp; subst hp; exact hk) ?_
   have e0 : pvW [(bid, cs)] = pvOf [] (some (d, bid, cs)) [] := by
    funext x
    cases x with
    | inl x => rfl
    | inr x =>
     simp only [pvW, pvOf, List.find?]
     by_cases hx : x = bid
     ·subst hx; simp
     ·have : (bid == x) = false := by simpa using fun e => hx e.symm
      simp [this, hx]
    | tk x => rfl
   rw [e0]
   refine drawB_mono (fun fr pv ⟨l', pl, pe', tk', e1, e2, e3, h⟩ => ?_) _ _ _ (xdB_sound (df := df) hT _ _ _ _ _ h)
   subst e1; subst e2
   cases pe' with
   | none => cases e3
   | some q =>
    obtain ⟨d', id', cs'⟩ := q
    simp only [Option.map_some, Option.some.injEq] at e3
    subst e3
    have hp : pvOf pl (some (d', id', cs')) tk' (.inr id') = some cs' := by simp [pvOf]
    unfold giveF
    rw [hp]
    exact rest _ _ (some (d', id', cs')) _ _ h
  ·exact h.elim
end
end Go.Ab

