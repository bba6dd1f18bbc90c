/- AbF2 AbF3 GPTypes GPTy -/
import Derived.Test.YtpapabjndpgcnaaGreatT25
import Derived.Test.YtpapabjndpgcnaaGreatT24
import Derived.Test.YtpapabjndpgcnaaGreatT21
import Derived.KernelRfl
import Derived.Test.YtpapabjndpgcnaaGreatChecked
set_option linter.all false

namespace Go.Ab
open Go.RowKit
variable [Glob]
def Gst (H : Heap) (v : V) (H' : Heap) (v' : V) : Prop := ∀ g w, Rl g H w → ∃ g', Stp g w g' w ∧ Rl g' H' w ∧ ∀ u, VR g w u v → VR g' w u v'
theorem Gst.refl (H : Heap) (v : V) : Gst H v H v := fun g w h => ⟨g, Stp.refl _ _, h, fun _ h => h⟩
theorem Gst.trans {H H1 H2 : Heap} {v v1 v2 : V} (a : Gst H v H1 v1) (b : Gst H1 v1 H2 v2) : Gst H v H2 v2 := fun g w h => by
 obtain ⟨g1, s1, R1, k1⟩ := a g w h
 obtain ⟨g2, s2, R2, k2⟩ := b g1 w R1
 exact ⟨g2, s1.trans s2, R2, fun u hu => k2 u (k1 u hu)⟩
theorem Gst.tup2 {H H' : Heap} {v v' c : V} (a : Gst H v H' v') : Gst H (.tup [v, c]) H' (.tup [v', c]) := fun g w h => by
 obtain ⟨g1, s1, R1, k1⟩ := a g w h
 refine ⟨g1, s1, R1, fun u hu => ?_⟩
 cases hu with
 | tup hl hv =>
  refine .tup hl fun i hi => ?_
  have := hv i hi
  match i, hi with
  | 0, _ => exact k1 _ this
  | 1, _ => exact this.mono s1
theorem Gst.agg1 {H H' : Heap} {v v' : V} (a : Gst H v H' v') : Gst H (.agg [v]) H' (.agg [v']) := fun g w h => by
 obtain ⟨g1, s1, R1, k1⟩ := a g w h
 refine ⟨g1, s1, R1, fun u hu => ?_⟩
 cases hu with
 | agg hl h1 hv =>
  refine .agg hl h1 fun i hi => ?_
  have := hv i hi
  match i, hi with
  | 0, _ => exact k1 _ this
theorem CallA.ghost {P : Program} {f : FuncId} {args : List V} {H : Heap} {K K' : V → Heap → Prop} (h : CallA P f args H K) (hk : ∀ x H', K x H' → ∃ x' H2, Gst H' x H2 x' ∧ K' x' H2) : CallA P f args H K' :=
 fun g w vals hR hA => (h g w vals hR hA).mono fun v w' ⟨g', x, H', s, hR', hv, hK⟩ => by
  obtain ⟨x', H2, hg, hK'⟩ := hk x H' hK
  obtain ⟨g2, s2, R2, k2⟩ := hg g' w' hR'
  exact ⟨g2, x', H2, s.trans s2, R2, k2 v hv, hK'⟩
theorem Rl.chgArr {g : Gh} {H : Heap} {w : World} (h : Rl g H w) {id sz : Nat} {xs ys : List V} (hk : H id = some (.arr sz xs)) (el : xs.length = ys.length) (hc : ∀ i : Nat, (ys.getD i .bad).cells.length = (xs.getD i .bad).cells.length)
 (hv : ∀ (i j : Nat) u, VR g w u ((xs.getD i .bad).cells.getD j .bad) → VR g w u ((ys.getD i .bad).cells.getD j .bad)) : Rl g (upd H id (some (.arr sz ys))) w := by
 have hat : ∀ x, g.at (upd H id (some (.arr sz ys))) x = g.at H x := by
  intro x
  by_cases hx : x = id
  ·subst hx; simp only [Gh.at, upd_same, hk, el]
  ·simp only [Gh.at, upd_other _ _ hx]
 refine ⟨fun x k hx => ?_, fun x x' y h1 h2 => h.inj x x' y (hat x ▸ h1) (hat x' ▸ h2), h.frz, fun x hx => ?_, h.bnd, h.glb⟩
 ·by_cases hxe : x = id
  ·subst hxe; rw [upd_same] at hx; cases hx
   obtain ⟨b, h1, h2, h3, h4, h5⟩ := h.blk x _ hk
   refine ⟨b, h1, h2, h3.trans el, fun i hi => ?_, ?_⟩
   ·rw [hc i]; exact h4 i (by omega)
   ·rw [← el]
    refine h5.imp (fun h => h) fun ⟨c, T, k1, k2, k3, k4, k5⟩ => ⟨c, T, k1, k2, k3, fun i j hi hj => ⟨(k4 i j hi hj).1, hv i j _ (k4 i j hi hj).2⟩, k5⟩
  ·rw [upd_other _ _ hxe] at hx; exact h.blk x k hx
 ·obtain ⟨a1, a2, a3⟩ := h.nxt x hx
  have hne : x ≠ id := fun e => by subst e; rw [hk] at a3; cases a3
  exact ⟨a1, a2, by rw [upd_other _ _ hne]; exact a3⟩
theorem gst_row {H : Heap} {o id s : Nat} {row xs ys zs : List V} {lo n lo' n' : Int} (hne : id ≠ o) (hid : H id = some (.arr s row)) (ho : H o = some (.arr 1 (xs ++ .agg [.own id lo n] :: zs))) :
 Gst H (.own o lo' n') (upd (upd H id none) o (some (.arr 1 (xs ++ .agg [.sl (subL row lo n) .ro] :: zs)))) (.own o lo' n') := fun g w hR => by
 obtain ⟨g', s', R', hv⟩ := hR.freezeArr hid
 have ho' : upd H id none o = some (.arr 1 (xs ++ .agg [.own id lo n] :: zs)) := by rw [upd_other _ _ (Ne.symm hne)]; exact ho
 have hget : ∀ (i : Nat) (a b : V), i ≠ xs.length → (xs ++ a :: zs).getD i .bad = (xs ++ b :: zs).getD i .bad := fun i a b hi => by
  simp only [List.getD_eq_getElem?_getD]
  rcases Nat.lt_or_ge i xs.length with h | h
  ·rw [List.getElem?_append_left h, List.getElem?_append_left h]
  ·rw [List.getElem?_append_right h, List.getElem?_append_right h]
   obtain ⟨k, hk⟩ : ∃ k, i - xs.length = k + 1 := ⟨i - xs.length - 1, by omega⟩
   rw [hk]; rfl
 have hmid : ∀ a : V, (xs ++ a :: zs).getD xs.length .bad = a := fun a => by simp [List.getD_eq_getElem?_getD]
 refine ⟨g', s', R'.chgArr ho' (by simp) (fun i => ?_) (fun i j u hu => ?_), fun u hu => hu.mono s'⟩
 ·by_cases hi : i = xs.length
  ·subst hi; rw [hmid, hmid]; rfl
  ·rw [hget i _ _ hi]
 ·by_cases hi : i = xs.length
  ·subst hi
   rw [hmid] at hu ⊢
   cases j with
   | zero => exact hv u lo n hu
   | succ j => exact hu
  ·rw [hget i _ (.agg [.own id lo n]) hi]; exact hu
section
variable [Ar] {α : Type} {f : α → V}
def frzV (f : α → V) (w : Rw α) : V := .agg [.sl (Ar.lst (cellV f) w.row) .ro]
theorem gst_rows {o : Nat} {pre rest : List V} {lo n : Int} : ∀ (F : List (Rw α)) (done : List V) (H : Heap), (∀ w ∈ F, RwOk w) → H o = some (.arr 1 (pre ++ (done ++ F.map rwV) ++ rest)) →
 (∀ w ∈ F, H w.q.id = some (.arr 1 (w.q.pre ++ Ar.lst (cellV f) w.row ++ w.q.rest)) ∧ w.q.id ≠ o) → F.Pairwise (fun a b => a.q.id ≠ b.q.id) →
 ∃ H', Gst H (.own o lo n) H' (.own o lo n) ∧ H' o = some (.arr 1 (pre ++ (done ++ F.map (frzV f)) ++ rest)) ∧ ∀ x, x ≠ o → (∀ w ∈ F, x ≠ w.q.id) → H' x = H x
 | [], done, H, _, ho, _, _ => ⟨H, Gst.refl _ _, ho, fun _ _ _ => rfl⟩
 | w :: F, done, H, hF, ho, hr, hp => by
  obtain ⟨h1, h2⟩ := hr w (by simp)
  obtain ⟨hp1, hp2⟩ := List.pairwise_cons.1 hp
  have hq : Okn w.q (Ar.len w.row) := hF w (by simp)
  have hs : subL (w.q.pre ++ Ar.lst (cellV f) w.row ++ w.q.rest) w.q.lo w.q.n = Ar.lst (cellV f) w.row := sub_mid hq.1 (by rw [hq.2, Ar.len_eq, lst_len])
  have g1 := gst_row (lo' := lo) (n' := n) (xs := pre ++ done) (zs := F.map rwV ++ rest) (ys := []) h2 h1 (lo := w.q.lo) (n := w.q.n) (by rw [ho]; simp [rwV])
  rw [hs] at g1
  obtain ⟨H', k1, k2, k3⟩ := gst_rows (o := o) (pre := pre) (rest := rest) (lo := lo) (n := n) F (done ++ [frzV f w]) (upd (upd H w.q.id none) o (some (.arr 1 ((pre ++ done) ++ .agg [.sl (Ar.lst (cellV f) w.row) .ro] :: (F.map rwV ++ rest))))) (fun v hv => hF v (by simp [hv]))
   (by rw [upd_same]; simp [frzV]) (fun v hv => ⟨by
    obtain ⟨a1, a2⟩ := hr v (by simp [hv])
    rw [upd_other _ _ a2, upd_other _ _ fun e => hp1 v hv e.symm]; exact a1, (hr v (by simp [hv])).2⟩) hp2
  refine ⟨H', g1.trans k1, by rw [k2]; simp, fun x hx hxs => ?_⟩
  rw [k3 x hx fun v hv => hxs v (by simp [hv]), upd_other _ _ hx, upd_other _ _ (hxs w (by simp))]
theorem rwB_mem {F : List (Rw α)} {w : Rw α} (h : w ∈ F) : rwB f w ∈ fo f F := by
 induction F with
 | nil => cases h
 | cons v F ih =>
  rcases List.mem_cons.1 h with rfl | h
  ·simp [fo, rwL]
  ·simp only [fo, List.mem_append]; exact .inr (ih h)
theorem fo_pair : ∀ {F : List (Rw α)}, (fo f F).Pairwise EnNe → F.Pairwise fun a b => a.q.id ≠ b.q.id
 | [], _ => .nil
 | w :: F, h => by
  simp only [fo, rwL] at h
  obtain ⟨_, h2, h3⟩ := List.pairwise_append.1 h
  refine List.pairwise_cons.2 ⟨fun v hv e => ?_, fo_pair h2⟩
  exact h3 (rwB f w) (by simp) (rwB f v) (rwB_mem hv) w.q.id _ _ rfl (by rw [e]; rfl)
theorem Own.table {H0 H : Heap} {L : List En} {F : List (Rw α)} {q : OG} (hO : Own Eq H0 (.blk q.id (.arr 1 (q.pre ++ Ar.lst rwV F ++ q.rest)) :: (fo f F ++ L)) H) (hq : Okn q (Ar.len F)) (hF : ∀ w ∈ F, RwOk w) :
 ∃ H', Gst H (.own q.id q.lo q.n) H' (.sl (F.map (frzV f)) .ro) ∧ HLe H0 H' := by
 obtain ⟨hs, F', H1, h0, h1, h2⟩ := hO
 subst h1
 have hpw : (En.blk q.id (.arr 1 (q.pre ++ Ar.lst rwV F ++ q.rest)) :: (fo f F ++ L)).Pairwise EnNe := by
  rw [List.pairwise_iff_getElem]
  intro i j hi hj hlt id b b' e1 e2
  have := h0.inj i j _ _ id b b' (List.getElem?_eq_getElem hi) (List.getElem?_eq_getElem hj) e1 e2
  omega
 obtain ⟨p1, p2⟩ := List.pairwise_cons.1 hpw
 have p3 := fo_pair (List.pairwise_append.1 p2).1
 have hb := h0.has 0 _ q.id _ rfl rfl
 have hrow : ∀ w ∈ F, H0 w.q.id = none ∧ F' w.q.id = some (.arr 1 (w.q.pre ++ Ar.lst (cellV f) w.row ++ w.q.rest)) ∧ w.q.id ≠ q.id := fun w hw => by
  have hm := rwB_mem (f := f) hw
  obtain ⟨i, hi⟩ := List.getElem?_of_mem (show rwB f w ∈ En.blk q.id (.arr 1 (q.pre ++ Ar.lst rwV F ++ q.rest)) :: (fo f F ++ L) by simp [hm])
  have := h0.has i _ w.q.id _ hi rfl
  exact ⟨this.1, this.2, fun e => p1 (rwB f w) (by simp [hm]) q.id _ _ rfl (by rw [← e]; rfl)⟩
 obtain ⟨H', k1, k2, k3⟩ := gst_rows (f := f) (o := q.id) (pre := q.pre) (rest := q.rest) (lo := q.lo) (n := q.n) F [] H hF (by rw [h2 _ _ hb.2, Ar.lst_eq]; simp) (fun w hw => ⟨h2 _ _ (hrow w hw).2.1, (hrow w hw).2.2⟩) p3
 have hs2 : subL (q.pre ++ ([] ++ F.map (frzV f)) ++ q.rest) q.lo q.n = F.map (frzV f) := sub_mid hq.1 (by rw [hq.2, Ar.len_eq]; simp)
 refine ⟨upd H' q.id none, k1.trans fun g w hR => ?_, fun x b hx => ?_⟩
 ·obtain ⟨g', s', R', hv⟩ := hR.freezeArr k2
  exact ⟨g', s', R', fun u hu => by have := hv u q.lo q.n (hu.mono s'); rwa [hs2] at this⟩
 ·have hne : x ≠ q.id := fun e => by subst e; rw [hb.1] at hx; cases hx
  rw [upd_other _ _ hne, k3 x hne fun w hw e => by subst e; rw [(hrow w hw).1] at hx; cases hx]
  exact h2 _ _ (h0.ext x b hx)
theorem Own.frzG {H0 H : Heap} {L : List En} {q : OG} {l : List α} {sz : Nat} (hO : Own Eq H0 L H) (i : Nat) (hi : L[i]? = some (.blk q.id (.arr sz (q.pre ++ Ar.lst f l ++ q.rest)))) (hq : Okn q (Ar.len l)) :
 ∃ H', Gst H (.own q.id q.lo q.n) H' (.sl (Ar.lst f l) .ro) ∧ HLe H0 H' := by
 refine ⟨_, fun g w hR => ?_, (hO.del i hi).ext⟩
 obtain ⟨g', s', R', hv⟩ := hR.freezeArr (hO.get i hi)
 refine ⟨g', s', R', fun u hu => ?_⟩
 have := hv u q.lo q.n (hu.mono s')
 rwa [sub_mid hq.1 (by rw [hq.2, Ar.len_eq, lst_len])] at this
theorem callP_of_specG {P : Program} {T : Tbl} {f : FuncId} {fn : Func} {c : Code} {n : Nat} {rs : List ResultVar} {args : List V} {r : V} (cf : Cf) (hP : POk P T) (hf : P.funcs[f]? = some fn) (hb : fn.body = some c) (hd : drawsOk cf c = true)
 (hcall : ∀ vals w, (callFunc f vals).run P w = .ok (.enter f vals) w) (hnt : fn.ntmps = n) (hrs : fn.results.toList = rs) (hn : Nat.ble args.length n = true)
 (h : ∀ (E : Env) (H : Heap) (K : V → Heap → Prop), E = real P n none → (∀ x L H', Own Eq H L H' → LeV x r → K x H') → (∀ x H' x' H2, Gst H' x H2 x' → HLe H H2 → LeV x' r → K x H') → run E T n cf c ⟨entryL args 0, []⟩ H (finX E T rs K)) : CallP P f args r := fun H => by
 refine CallA.le (CallA.ghost (callA_of_run (K := fun x H' => (∃ y H2, LeV x y ∧ HLe H2 H' ∧ y = r ∧ H2 = H) ∨ ∃ x' H2, Gst H' x H2 x' ∧ HLe H H2 ∧ LeV x' r) cf hP.1 hP.2 hf hb hd hcall hnt hrs hn fun E hE => ?_) ?_)
 ·exact h E H _ hE (fun x L H' hO hx => .inl ⟨r, H, hx, hO.ext, rfl, rfl⟩) fun x H' x' H2 hg hle hx => .inr ⟨x', H2, hg, hle, hx⟩
 ·rintro x H' (h | ⟨x', H2, hg, hle, hx⟩)
  ·exact ⟨x, H', Gst.refl _ _, h⟩
  ·exact ⟨x', H2, hg, r, H, hx, hle, rfl, rfl⟩
end
end Go.Ab

namespace Go.Ab
open Go.RowKit
variable [Glob] [Ar]
section
variable {P : Program} {nt : Nat} {rd : Option Nat} {E : Env} (hE : E = real P nt rd)
include hE
variable {α : Type} {f : α → V} {Φ : Heap → Heap → Prop} {H0 H : Heap} {L : List En} {sz : Nat} {q : OG} {l : List α}
theorem f_oidx (hO : Own Φ H0 L H) (hq : Okn q (Ar.len l)) (i : Nat) {j : Int} {k : Int → Prop} (hi : L[i]? = some (.blk q.id (.arr sz (q.pre ++ Ar.lst f l ++ q.rest)))) (hj : 0 ≤ j ∧ j < (l.length : Nat)) (hk : k (Ar.ofs q.lo j)) : E.oidx H q.id sz q.lo q.n j k :=
 n_oidx hE hO hq i hi (F := fun _ => some ()) (r := ()) (by unfold req inR; rw [if_pos]; rfl; exact decide_eq_true hj) fun _ => hk
theorem f_oload {g : α → V} (hf : ∀ x, f x = g x) (hO : Own Φ H0 L H) (hq : Okn q (Ar.len l)) (i : Nat) {j : Int} {x : α} {k : V → Prop} (hi : L[i]? = some (.blk q.id (.arr sz (q.pre ++ Ar.lst f l ++ q.rest)))) (hj : 0 ≤ j) (hx : l[j.toNat]? = some x) (hk : k (g x)) :
 E.oload H q.id (Ar.ofs q.lo j) k := by
 have hlt : j < (l.length : Nat) := by
  rcases Nat.lt_or_ge j.toNat l.length with h | h
  ·omega
  ·rw [List.getElem?_eq_none h] at hx; cases hx
 exact n_oload hE hf hO hq i hi (F := fun y => some y) (r := x) (by unfold idxL; rw [if_pos hj, hx]; rfl) fun y hy => by cases hy; exact hk
theorem f_ostore {esz tz off : Nat} {y : V} {x' : α} (hu : ∀ x, ∃ y', LeV y y' ∧ y'.one = true ∧ y'.cells.length = tz ∧ putV (f x) esz tz off y' = f x') (hle : off + tz ≤ esz) (hO : Own Φ H0 L H) (hq : Okn q (Ar.len l)) (i : Nat) {j : Int} {k : Heap → Prop}
 (hi : L[i]? = some (.blk q.id (.arr esz (q.pre ++ Ar.lst f l ++ q.rest)))) (hj : 0 ≤ j ∧ j < (l.length : Nat))
 (hk : ∀ H', Own Φ H0 (L.set i (.blk q.id (.arr esz (q.pre ++ Ar.lst f (l.set j.toNat x') ++ q.rest)))) H' → k H') : E.ostore H q.id (Ar.ofs q.lo j) esz tz off y k := by
 obtain ⟨x, hx⟩ : ∃ x, l[j.toNat]? = some x := ⟨l[j.toNat], List.getElem?_eq_getElem (by omega)⟩
 exact n_ostore hE (u := fun _ => x') hu hle hO hq i hi (F := fun l => some l) (r := l.set j.toNat x') (by unfold updL idxL; rw [if_pos hj.1, hx]; rfl) fun l' H' hq' e hO' => by cases e; exact hk H' hO'
theorem f_oapp {by_ : Nat} {z : V} (hsz : ∀ x, (f x).cells.length = sz) (hby : by_ ≤ 131072) (hO : Own Φ H0 L H) (hq : Okn q (Ar.len l)) (i : Nat) (hi : L[i]? = some (.blk q.id (.arr sz (q.pre ++ Ar.lst f l ++ q.rest)))) {y : V} {m : List α} {k : V → Heap → Prop}
 (hs : Src sz H y (Ar.lst f m)) (hl : l.length + m.length ≤ 1073741824)
 (hk : ∀ (q : OG) H', Okn q (Ar.len (l ++ m)) → Own Φ H0 (L.set i (.blk q.id (.arr sz (q.pre ++ Ar.lst f (l ++ m) ++ q.rest)))) H' → k (.own q.id q.lo q.n) H') : E.oapp sz by_ z H (.own q.id q.lo q.n) y k :=
 n_oapp hE hsz hby hO hq i hi hs (F := fun l => some l) (r := l ++ m) (by unfold appL; rw [if_pos hl]; rfl) fun x q' H' hq' hO' e => by cases e; exact hk q' H' hq' hO'
theorem f_idx {g : α → V} (hf : ∀ x, f x = g x) {j : Int} {x : α} {k : V → Prop} (hx : idxL l j = some x) (hk : k (g x)) : E.idx (Ar.lst f l) j k :=
 n_idx hE hf (F := fun y => some y) (r := x) (by rw [hx]; rfl) fun y hy => by cases hy; exact hk
theorem f_appq {by_ : Nat} (hsz : ∀ x, (f x).cells.length = sz) (hby : by_ ≤ 131072) {xs ys : List V} {m x : List α} {k : V → Prop} (hx : LeVs xs (Ar.lst f l)) (hy : LeVs ys (Ar.lst f m)) (h : appL l m = some x) (hk : k (.sl (Ar.lst f x) .ro)) : E.appq sz by_ xs ys k :=
 n_appq hE hsz hby hx hy (F := fun y => some y) (r := x) (by rw [h]; rfl) fun y hy => by cases hy; exact hk
theorem f_ocopy (hO : Own Φ H0 L H) (hq : Okn q (Ar.len l)) (i : Nat) (hi : L[i]? = some (.blk q.id (.arr sz (q.pre ++ Ar.lst f l ++ q.rest)))) {y : V} {m : List α} {k : V → Heap → Prop} (hs : Src sz H y (Ar.lst f m)) (hl : l.length = m.length)
 (hk : ∀ H', Okn q (Ar.len m) → Own Φ H0 (L.set i (.blk q.id (.arr sz (q.pre ++ Ar.lst f m ++ q.rest)))) H' → k (.int .i64 (Ar.len m)) H') : E.ocopy sz H (.own q.id q.lo q.n) y k := by
 have el := lst_len (f := f) l
 have em := lst_len (f := f) m
 have hqn : q.n = (m.length : Nat) := by rw [hq.2, Ar.len_eq, hl]
 refine r_ocopy hE (hO.get i hi) hs rfl fun n row' hm hrow => ?_
 have e1 : n = Ar.len m := by rw [hm, em, hqn, Ar.len_eq]; split <;> rfl
 have e2 : row' = q.pre ++ Ar.lst f m ++ q.rest := by
  rw [hrow, List.take_of_length_le (by rw [em, hqn]; simp)]
  exact over_at (A := q.pre) (B := Ar.lst f l) rfl (by rw [hq.1]; simp) (by rw [em, el, hl])
 rw [e1, e2]
 exact hk _ ⟨hq.1, by rw [hqn, Ar.len_eq]⟩ (hO.set i hi)
theorem n_callX {fid : FuncId} {args : List V} {k Q : V → Heap → Prop} (h : CallA P fid args H Q) (hk : ∀ v H', Q v H' → k v H') : E.call (.func (.func fid) [] []) args H k := by
 subst hE
 refine CallA.value (F := []) (C := []) ?_
 simp only [List.nil_append, List.append_nil]
 exact h.mono hk
end
theorem appL_some {α : Type} {l m x : List α} (h : appL l m = some x) : l.length + m.length ≤ 1073741824 ∧ x = l ++ m := by
 unfold appL at h
 split at h
 ·rename_i hc; cases h; exact ⟨hc, rfl⟩
 ·cases h
theorem mkL_some {α : Type} {n m : Int} {z : α} {l : List α} (h : mkL n m z = some l) : l = List.replicate n.toNat z := by
 unfold mkL at h
 split at h
 ·cases h; rfl
 ·cases h
theorem idxL_ok {α : Type} {l : List α} {i : Int} {x : α} (h : idxL l i = some x) : (0 ≤ i ∧ i < (l.length : Nat)) ∧ l[i.toNat]? = some x := by
 unfold idxL at h
 split at h
 ·rename_i h0
  refine ⟨⟨h0, ?_⟩, h⟩
  rcases Nat.lt_or_ge i.toNat l.length with h' | h'
  ·omega
  ·rw [List.getElem?_eq_none h'] at h; cases h
 ·cases h
end Go.Ab

namespace Go.Ab
open Go.RowKit Go.Proofs
set_option maxRecDepth 100000
def ti3 : TInf := ⟨1, 8, false, none, none, [], none, some (.int .i64 0), some [0], false, false, some .i64, true⟩
theorem tiOk3 : TOk1 Tryz.prog 3 ti3 := ⟨by kernel_rfl, by kernel_rfl, by kernel_rfl, by kernel_rfl, by kernel_rfl, trivial, trivial, (by show zeO Tryz.prog 3 = some _; kernel_rfl), (by show flatEq Tryz.prog 9 3 = some _; kernel_rfl), by kernel_rfl, (fun h => (by cases h)), (by show Tryz.prog.underlying 3 = some (.int _); kernel_rfl), (fun _ => (by kernel_rfl))⟩
def ti4 : TInf := ⟨1, 1, false, none, none, [], none, some (.bool false), some [1], false, true, none, true⟩
theorem tiOk4 : TOk1 Tryz.prog 4 ti4 := ⟨by kernel_rfl, by kernel_rfl, by kernel_rfl, by kernel_rfl, by kernel_rfl, trivial, trivial, (by show zeO Tryz.prog 4 = some _; kernel_rfl), (by show flatEq Tryz.prog 9 4 = some _; kernel_rfl), by kernel_rfl, (fun _ => (by kernel_rfl)), trivial, (fun _ => (by kernel_rfl))⟩
def ti5 : TInf := ⟨1, 1, false, none, none, [], none, some (.int .u8 0), some [0], false, false, some .u8, true⟩
theorem tiOk5 : TOk1 Tryz.prog 5 ti5 := ⟨by kernel_rfl, by kernel_rfl, by kernel_rfl, by kernel_rfl, by kernel_rfl, trivial, trivial, (by show zeO Tryz.prog 5 = some _; kernel_rfl), (by show flatEq Tryz.prog 9 5 = some _; kernel_rfl), by kernel_rfl, (fun h => (by cases h)), (by show Tryz.prog.underlying 5 = some (.int _); kernel_rfl), (fun _ => (by kernel_rfl))⟩
def ti9 : TInf := ⟨1, 16, false, none, none, [], none, some (.str ⟨#[]⟩), some [2], true, false, none, true⟩
theorem tiOk9 : TOk1 Tryz.prog 9 ti9 := ⟨by kernel_rfl, by kernel_rfl, by kernel_rfl, by kernel_rfl, by kernel_rfl, trivial, trivial, (by show zeO Tryz.prog 9 = some _; kernel_rfl), (by show flatEq Tryz.prog 9 9 = some _; kernel_rfl), by kernel_rfl, (fun h => (by cases h)), trivial, (fun _ => (by kernel_rfl))⟩
def ti22 : TInf := ⟨1, 24, false, some (26), none, [], none, some (.sl [] .nil), none, false, false, none, true⟩
theorem tiOk22 : TOk1 Tryz.prog 22 ti22 := ⟨by kernel_rfl, by kernel_rfl, by kernel_rfl, by kernel_rfl, by kernel_rfl, trivial, trivial, (by show zeO Tryz.prog 22 = some _; kernel_rfl), trivial, by kernel_rfl, (fun h => (by cases h)), trivial, (fun _ => (by kernel_rfl))⟩
def ti24 : TInf := ⟨1, 24, false, some (87), none, [], none, some (.sl [] .nil), none, false, false, none, true⟩
theorem tiOk24 : TOk1 Tryz.prog 24 ti24 := ⟨by kernel_rfl, by kernel_rfl, by kernel_rfl, by kernel_rfl, by kernel_rfl, trivial, trivial, (by show zeO Tryz.prog 24 = some _; kernel_rfl), trivial, by kernel_rfl, (fun h => (by cases h)), trivial, (fun _ => (by kernel_rfl))⟩
def ti26 : TInf := ⟨1, 24, true, none, none, [some (0, 24)], some [(0, 1)], some (.agg [.sl [] .nil]), none, false, false, none, true⟩
theorem tiOk26 : TOk1 Tryz.prog 26 ti26 := ⟨by kernel_rfl, by kernel_rfl, by kernel_rfl, by kernel_rfl, by kernel_rfl, ⟨by kernel_rfl, trivial⟩, (by show placesO Tryz.prog 26 = some _; kernel_rfl), (by show zeO Tryz.prog 26 = some _; kernel_rfl), trivial, by kernel_rfl, (fun h => (by cases h)), trivial, (fun _ => (by kernel_rfl))⟩
def ti29 : TInf := ⟨1, 8, false, none, none, [], none, some (.int .i64 0), some [0], false, false, some .i64, true⟩
theorem tiOk29 : TOk1 Tryz.prog 29 ti29 := ⟨by kernel_rfl, by kernel_rfl, by kernel_rfl, by kernel_rfl, by kernel_rfl, trivial, trivial, (by show zeO Tryz.prog 29 = some _; kernel_rfl), (by show flatEq Tryz.prog 9 29 = some _; kernel_rfl), by kernel_rfl, (fun h => (by cases h)), (by show Tryz.prog.underlying 29 = some (.int _); kernel_rfl), (fun _ => (by kernel_rfl))⟩
def ti44 : TInf := ⟨2, 16, true, none, none, [some (0, 3), some (1, 3)], some [(0, 1), (1, 1)], some (.agg [.int .i64 0, .int .i64 0]), some [0, 0], false, false, none, true⟩
theorem tiOk44 : TOk1 Tryz.prog 44 ti44 := ⟨by kernel_rfl, by kernel_rfl, by kernel_rfl, by kernel_rfl, by kernel_rfl, ⟨by kernel_rfl, by kernel_rfl, trivial⟩, (by show placesO Tryz.prog 44 = some _; kernel_rfl), (by show zeO Tryz.prog 44 = some _; kernel_rfl), (by show flatEq Tryz.prog 9 44 = some _; kernel_rfl), by kernel_rfl, (fun h => (by cases h)), trivial, (fun _ => (by kernel_rfl))⟩
def ti64 : TInf := ⟨1, 24, false, some (65), none, [], none, some (.sl [] .nil), none, false, false, none, true⟩
theorem tiOk64 : TOk1 Tryz.prog 64 ti64 := ⟨by kernel_rfl, by kernel_rfl, by kernel_rfl, by kernel_rfl, by kernel_rfl, trivial, trivial, (by show zeO Tryz.prog 64 = some _; kernel_rfl), trivial, by kernel_rfl, (fun h => (by cases h)), trivial, (fun _ => (by kernel_rfl))⟩
def ti65 : TInf := ⟨1, 24, false, some (4), none, [], none, some (.sl [] .nil), none, false, false, none, true⟩
theorem tiOk65 : TOk1 Tryz.prog 65 ti65 := ⟨by kernel_rfl, by kernel_rfl, by kernel_rfl, by kernel_rfl, by kernel_rfl, trivial, trivial, (by show zeO Tryz.prog 65 = some _; kernel_rfl), trivial, by kernel_rfl, (fun h => (by cases h)), trivial, (fun _ => (by kernel_rfl))⟩
def ti70 : TInf := ⟨1, 24, false, some (104), none, [], none, some (.sl [] .nil), none, false, false, none, true⟩
theorem tiOk70 : TOk1 Tryz.prog 70 ti70 := ⟨by kernel_rfl, by kernel_rfl, by kernel_rfl, by kernel_rfl, by kernel_rfl, trivial, trivial, (by show zeO Tryz.prog 70 = some _; kernel_rfl), trivial, by kernel_rfl, (fun h => (by cases h)), trivial, (fun _ => (by kernel_rfl))⟩
def ti71 : TInf := ⟨1, 24, false, some (75), none, [], none, some (.sl [] .nil), none, false, false, none, true⟩
theorem tiOk71 : TOk1 Tryz.prog 71 ti71 := ⟨by kernel_rfl, by kernel_rfl, by kernel_rfl, by kernel_rfl, by kernel_rfl, trivial, trivial, (by show zeO Tryz.prog 71 = some _; kernel_rfl), trivial, by kernel_rfl, (fun h => (by cases h)), trivial, (fun _ => (by kernel_rfl))⟩
def ti73 : TInf := ⟨3, 32, true, none, none, [some (0, 3), some (1, 3), some (2, 9)], some [(0, 1), (1, 1), (2, 1)], some (.agg [.int .i64 0, .int .i64 0, .str ⟨#[]⟩]), some [0, 0, 2], false, false, none, true⟩
theorem tiOk73 : TOk1 Tryz.prog 73 ti73 := ⟨by kernel_rfl, by kernel_rfl, by kernel_rfl, by kernel_rfl, by kernel_rfl, ⟨by kernel_rfl, by kernel_rfl, by kernel_rfl, trivial⟩, (by show placesO Tryz.prog 73 = some _; kernel_rfl), (by show zeO Tryz.prog 73 = some _; kernel_rfl), (by show flatEq Tryz.prog 9 73 = some _; kernel_rfl), by kernel_rfl, (fun h => (by cases h)), trivial, (fun _ => (by kernel_rfl))⟩
def ti75 : TInf := ⟨8, 88, true, none, none, [some (0, 3), some (1, 71), some (2, 3), some (3, 3), some (4, 3), some (5, 73)], some [(0, 1), (1, 1), (2, 1), (3, 1), (4, 1), (5, 3)], some (.agg [.int .i64 0, .sl [] .nil, .int .i64 0, .int .i64 0, .int .i64 0, .int .i64 0, .int .i64 0, .str ⟨#[]⟩]), none, false, false, none, true⟩
theorem tiOk75 : TOk1 Tryz.prog 75 ti75 := ⟨by kernel_rfl, by kernel_rfl, by kernel_rfl, by kernel_rfl, by kernel_rfl, ⟨by kernel_rfl, by kernel_rfl, by kernel_rfl, by kernel_rfl, by kernel_rfl, by kernel_rfl, trivial⟩, (by show placesO Tryz.prog 75 = some _; kernel_rfl), (by show zeO Tryz.prog 75 = some _; kernel_rfl), trivial, by kernel_rfl, (fun h => (by cases h)), trivial, (fun _ => (by kernel_rfl))⟩
def ti76 : TInf := ⟨1, 24, false, some (73), none, [], none, some (.sl [] .nil), none, false, false, none, true⟩
theorem tiOk76 : TOk1 Tryz.prog 76 ti76 := ⟨by kernel_rfl, by kernel_rfl, by kernel_rfl, by kernel_rfl, by kernel_rfl, trivial, trivial, (by show zeO Tryz.prog 76 = some _; kernel_rfl), trivial, by kernel_rfl, (fun h => (by cases h)), trivial, (fun _ => (by kernel_rfl))⟩
def ti78 : TInf := ⟨5, 56, true, none, none, [some (0, 3), some (1, 3), some (2, 3), some (3, 3), some (4, 76)], some [(0, 1), (1, 1), (2, 1), (3, 1), (4, 1)], some (.agg [.int .i64 0, .int .i64 0, .int .i64 0, .int .i64 0, .sl [] .nil]), none, false, false, none, true⟩
theorem tiOk78 : TOk1 Tryz.prog 78 ti78 := ⟨by kernel_rfl, by kernel_rfl, by kernel_rfl, by kernel_rfl, by kernel_rfl, ⟨by kernel_rfl, by kernel_rfl, by kernel_rfl, by kernel_rfl, by kernel_rfl, trivial⟩, (by show placesO Tryz.prog 78 = some _; kernel_rfl), (by show zeO Tryz.prog 78 = some _; kernel_rfl), trivial, by kernel_rfl, (fun h => (by cases h)), trivial, (fun _ => (by kernel_rfl))⟩
def ti80 : TInf := ⟨15, 160, true, none, none, [some (0, 3), some (1, 3), some (2, 75), some (10, 78)], some [(0, 1), (1, 1), (2, 8), (10, 5)], some (.agg [.int .i64 0, .int .i64 0, .int .i64 0, .sl [] .nil, .int .i64 0, .int .i64 0, .int .i64 0, .int .i64 0, .int .i64 0, .str ⟨#[]⟩, .int .i64 0, .int .i64 0, .int .i64 0, .int .i64 0, .sl [] .nil]), none, false, false, none, true⟩
theorem tiOk80 : TOk1 Tryz.prog 80 ti80 := ⟨by kernel_rfl, by kernel_rfl, by kernel_rfl, by kernel_rfl, by kernel_rfl, ⟨by kernel_rfl, by kernel_rfl, by kernel_rfl, by kernel_rfl, trivial⟩, (by show placesO Tryz.prog 80 = some _; kernel_rfl), (by show zeO Tryz.prog 80 = some _; kernel_rfl), trivial, by kernel_rfl, (fun h => (by cases h)), trivial, (fun _ => (by kernel_rfl))⟩
def ti87 : TInf := ⟨1, 24, false, some (90), none, [], none, some (.sl [] .nil), none, false, false, none, true⟩
theorem tiOk87 : TOk1 Tryz.prog 87 ti87 := ⟨by kernel_rfl, by kernel_rfl, by kernel_rfl, by kernel_rfl, by kernel_rfl, trivial, trivial, (by show zeO Tryz.prog 87 = some _; kernel_rfl), trivial, by kernel_rfl, (fun h => (by cases h)), trivial, (fun _ => (by kernel_rfl))⟩
def ti90 : TInf := ⟨2, 16, true, none, none, [some (0, 3), some (1, 3)], some [(0, 1), (1, 1)], some (.agg [.int .i64 0, .int .i64 0]), some [0, 0], false, false, none, true⟩
theorem tiOk90 : TOk1 Tryz.prog 90 ti90 := ⟨by kernel_rfl, by kernel_rfl, by kernel_rfl, by kernel_rfl, by kernel_rfl, ⟨by kernel_rfl, by kernel_rfl, trivial⟩, (by show placesO Tryz.prog 90 = some _; kernel_rfl), (by show zeO Tryz.prog 90 = some _; kernel_rfl), (by show flatEq Tryz.prog 9 90 = some _; kernel_rfl), by kernel_rfl, (fun h => (by cases h)), trivial, (fun _ => (by kernel_rfl))⟩
def ti94 : TInf := ⟨1, 24, false, some (242), none, [], none, some (.sl [] .nil), none, false, false, none, true⟩
theorem tiOk94 : TOk1 Tryz.prog 94 ti94 := ⟨by kernel_rfl, by kernel_rfl, by kernel_rfl, by kernel_rfl, by kernel_rfl, trivial, trivial, (by show zeO Tryz.prog 94 = some _; kernel_rfl), trivial, by kernel_rfl, (fun h => (by cases h)), trivial, (fun _ => (by kernel_rfl))⟩
def ti96 : TInf := ⟨1, 24, true, none, none, [some (0, 94)], some [(0, 1)], some (.agg [.sl [] .nil]), none, false, false, none, true⟩
theorem tiOk96 : TOk1 Tryz.prog 96 ti96 := ⟨by kernel_rfl, by kernel_rfl, by kernel_rfl, by kernel_rfl, by kernel_rfl, ⟨by kernel_rfl, trivial⟩, (by show placesO Tryz.prog 96 = some _; kernel_rfl), (by show zeO Tryz.prog 96 = some _; kernel_rfl), trivial, by kernel_rfl, (fun h => (by cases h)), trivial, (fun _ => (by kernel_rfl))⟩
def ti101 : TInf := ⟨2, 24, true, none, none, [some (0, 9), some (1, 3)], some [(0, 1), (1, 1)], some (.agg [.str ⟨#[]⟩, .int .i64 0]), some [2, 0], false, false, none, true⟩
theorem tiOk101 : TOk1 Tryz.prog 101 ti101 := ⟨by kernel_rfl, by kernel_rfl, by kernel_rfl, by kernel_rfl, by kernel_rfl, ⟨by kernel_rfl, by kernel_rfl, trivial⟩, (by show placesO Tryz.prog 101 = some _; kernel_rfl), (by show zeO Tryz.prog 101 = some _; kernel_rfl), (by show flatEq Tryz.prog 9 101 = some _; kernel_rfl), by kernel_rfl, (fun h => (by cases h)), trivial, (fun _ => (by kernel_rfl))⟩
def ti102 : TInf := ⟨1, 24, false, some (101), none, [], none, some (.sl [] .nil), none, false, false, none, true⟩
theorem tiOk102 : TOk1 Tryz.prog 102 ti102 := ⟨by kernel_rfl, by kernel_rfl, by kernel_rfl, by kernel_rfl, by kernel_rfl, trivial, trivial, (by show zeO Tryz.prog 102 = some _; kernel_rfl), trivial, by kernel_rfl, (fun h => (by cases h)), trivial, (fun _ => (by kernel_rfl))⟩
def ti104 : TInf := ⟨2, 40, true, none, none, [some (0, 9), some (1, 102)], some [(0, 1), (1, 1)], some (.agg [.str ⟨#[]⟩, .sl [] .nil]), none, false, false, none, true⟩
theorem tiOk104 : TOk1 Tryz.prog 104 ti104 := ⟨by kernel_rfl, by kernel_rfl, by kernel_rfl, by kernel_rfl, by kernel_rfl, ⟨by kernel_rfl, by kernel_rfl, trivial⟩, (by show placesO Tryz.prog 104 = some _; kernel_rfl), (by show zeO Tryz.prog 104 = some _; kernel_rfl), trivial, by kernel_rfl, (fun h => (by cases h)), trivial, (fun _ => (by kernel_rfl))⟩
def ti107 : TInf := ⟨1, 8, false, none, none, [], none, some (.nilmap), none, false, false, none, true⟩
theorem tiOk107 : TOk1 Tryz.prog 107 ti107 := ⟨by kernel_rfl, by kernel_rfl, by kernel_rfl, by kernel_rfl, by kernel_rfl, trivial, trivial, (by show zeO Tryz.prog 107 = some _; kernel_rfl), trivial, by kernel_rfl, (fun h => (by cases h)), trivial, (fun _ => (by kernel_rfl))⟩
def ti108 : TInf := ⟨1, 24, false, some (3), none, [], none, some (.sl [] .nil), none, false, false, none, true⟩
theorem tiOk108 : TOk1 Tryz.prog 108 ti108 := ⟨by kernel_rfl, by kernel_rfl, by kernel_rfl, by kernel_rfl, by kernel_rfl, trivial, trivial, (by show zeO Tryz.prog 108 = some _; kernel_rfl), trivial, by kernel_rfl, (fun h => (by cases h)), trivial, (fun _ => (by kernel_rfl))⟩
def ti115 : TInf := ⟨1, 8, false, none, none, [], none, some (.nilf), none, false, false, none, true⟩
theorem tiOk115 : TOk1 Tryz.prog 115 ti115 := ⟨by kernel_rfl, by kernel_rfl, by kernel_rfl, by kernel_rfl, by kernel_rfl, trivial, trivial, (by show zeO Tryz.prog 115 = some _; kernel_rfl), trivial, by kernel_rfl, (fun h => (by cases h)), trivial, (fun _ => (by kernel_rfl))⟩
def ti141 : TInf := ⟨1, 24, false, some (144), none, [], none, some (.sl [] .nil), none, false, false, none, true⟩
theorem tiOk141 : TOk1 Tryz.prog 141 ti141 := ⟨by kernel_rfl, by kernel_rfl, by kernel_rfl, by kernel_rfl, by kernel_rfl, trivial, trivial, (by show zeO Tryz.prog 141 = some _; kernel_rfl), trivial, by kernel_rfl, (fun h => (by cases h)), trivial, (fun _ => (by kernel_rfl))⟩
def ti144 : TInf := ⟨2, 24, true, none, none, [some (0, 9), some (1, 3)], some [(0, 1), (1, 1)], some (.agg [.str ⟨#[]⟩, .int .i64 0]), some [2, 0], false, false, none, true⟩
theorem tiOk144 : TOk1 Tryz.prog 144 ti144 := ⟨by kernel_rfl, by kernel_rfl, by kernel_rfl, by kernel_rfl, by kernel_rfl, ⟨by kernel_rfl, by kernel_rfl, trivial⟩, (by show placesO Tryz.prog 144 = some _; kernel_rfl), (by show zeO Tryz.prog 144 = some _; kernel_rfl), (by show flatEq Tryz.prog 9 144 = some _; kernel_rfl), by kernel_rfl, (fun h => (by cases h)), trivial, (fun _ => (by kernel_rfl))⟩
def ti159 : TInf := ⟨1, 24, false, some (5), none, [], none, some (.sl [] .nil), none, false, false, none, true⟩
theorem tiOk159 : TOk1 Tryz.prog 159 ti159 := ⟨by kernel_rfl, by kernel_rfl, by kernel_rfl, by kernel_rfl, by kernel_rfl, trivial, trivial, (by show zeO Tryz.prog 159 = some _; kernel_rfl), trivial, by kernel_rfl, (fun h => (by cases h)), trivial, (fun _ => (by kernel_rfl))⟩
def ti170 : TInf := ⟨1, 8, false, none, none, [], none, some (.nilmap), none, false, false, none, true⟩
theorem tiOk170 : TOk1 Tryz.prog 170 ti170 := ⟨by kernel_rfl, by kernel_rfl, by kernel_rfl, by kernel_rfl, by kernel_rfl, trivial, trivial, (by show zeO Tryz.prog 170 = some _; kernel_rfl), trivial, by kernel_rfl, (fun h => (by cases h)), trivial, (fun _ => (by kernel_rfl))⟩
def ti174 : TInf := ⟨2, 48, true, none, none, [some (0, 70), some (1, 141)], some [(0, 1), (1, 1)], some (.agg [.sl [] .nil, .sl [] .nil]), none, false, false, none, true⟩
theorem tiOk174 : TOk1 Tryz.prog 174 ti174 := ⟨by kernel_rfl, by kernel_rfl, by kernel_rfl, by kernel_rfl, by kernel_rfl, ⟨by kernel_rfl, by kernel_rfl, trivial⟩, (by show placesO Tryz.prog 174 = some _; kernel_rfl), (by show zeO Tryz.prog 174 = some _; kernel_rfl), trivial, by kernel_rfl, (fun h => (by cases h)), trivial, (fun _ => (by kernel_rfl))⟩
def ti176 : TInf := ⟨1, 8, false, none, none, [], none, some (.int .u64 0), some [0], false, false, some .u64, true⟩
theorem tiOk176 : TOk1 Tryz.prog 176 ti176 := ⟨by kernel_rfl, by kernel_rfl, by kernel_rfl, by kernel_rfl, by kernel_rfl, trivial, trivial, (by show zeO Tryz.prog 176 = some _; kernel_rfl), (by show flatEq Tryz.prog 9 176 = some _; kernel_rfl), by kernel_rfl, (fun h => (by cases h)), (by show Tryz.prog.underlying 176 = some (.int _); kernel_rfl), (fun _ => (by kernel_rfl))⟩
def ti180 : TInf := ⟨2, 16, true, none, none, [some (0, 3), some (1, 3)], some [(0, 1), (1, 1)], some (.agg [.int .i64 0, .int .i64 0]), some [0, 0], false, false, none, true⟩
theorem tiOk180 : TOk1 Tryz.prog 180 ti180 := ⟨by kernel_rfl, by kernel_rfl, by kernel_rfl, by kernel_rfl, by kernel_rfl, ⟨by kernel_rfl, by kernel_rfl, trivial⟩, (by show placesO Tryz.prog 180 = some _; kernel_rfl), (by show zeO Tryz.prog 180 = some _; kernel_rfl), (by show flatEq Tryz.prog 9 180 = some _; kernel_rfl), by kernel_rfl, (fun h => (by cases h)), trivial, (fun _ => (by kernel_rfl))⟩
def ti191 : TInf := ⟨1, 8, false, none, none, [], none, some (.nilmap), none, false, false, none, true⟩
theorem tiOk191 : TOk1 Tryz.prog 191 ti191 := ⟨by kernel_rfl, by kernel_rfl, by kernel_rfl, by kernel_rfl, by kernel_rfl, trivial, trivial, (by show zeO Tryz.prog 191 = some _; kernel_rfl), trivial, by kernel_rfl, (fun h => (by cases h)), trivial, (fun _ => (by kernel_rfl))⟩
def ti194 : TInf := ⟨8, 96, true, none, none, [some (0, 96), some (1, 3), some (2, 78), some (7, 191)], some [(0, 1), (1, 1), (2, 5), (7, 1)], some (.agg [.sl [] .nil, .int .i64 0, .int .i64 0, .int .i64 0, .int .i64 0, .int .i64 0, .sl [] .nil, .nilmap]), none, false, false, none, true⟩
theorem tiOk194 : TOk1 Tryz.prog 194 ti194 := ⟨by kernel_rfl, by kernel_rfl, by kernel_rfl, by kernel_rfl, by kernel_rfl, ⟨by kernel_rfl, by kernel_rfl, by kernel_rfl, by kernel_rfl, trivial⟩, (by show placesO Tryz.prog 194 = some _; kernel_rfl), (by show zeO Tryz.prog 194 = some _; kernel_rfl), trivial, by kernel_rfl, (fun h => (by cases h)), trivial, (fun _ => (by kernel_rfl))⟩
def ti208 : TInf := ⟨1, 4, false, none, none, [], none, some (.int .u32 0), some [0], false, false, some .u32, true⟩
theorem tiOk208 : TOk1 Tryz.prog 208 ti208 := ⟨by kernel_rfl, by kernel_rfl, by kernel_rfl, by kernel_rfl, by kernel_rfl, trivial, trivial, (by show zeO Tryz.prog 208 = some _; kernel_rfl), (by show flatEq Tryz.prog 9 208 = some _; kernel_rfl), by kernel_rfl, (fun h => (by cases h)), (by show Tryz.prog.underlying 208 = some (.int _); kernel_rfl), (fun _ => (by kernel_rfl))⟩
def ti211 : TInf := ⟨1, 8, false, none, none, [], none, some (.int .u64 0), some [0], false, false, some .u64, true⟩
theorem tiOk211 : TOk1 Tryz.prog 211 ti211 := ⟨by kernel_rfl, by kernel_rfl, by kernel_rfl, by kernel_rfl, by kernel_rfl, trivial, trivial, (by show zeO Tryz.prog 211 = some _; kernel_rfl), (by show flatEq Tryz.prog 9 211 = some _; kernel_rfl), by kernel_rfl, (fun h => (by cases h)), (by show Tryz.prog.underlying 211 = some (.int _); kernel_rfl), (fun _ => (by kernel_rfl))⟩
def ti222 : TInf := ⟨1, 8, false, none, none, [], none, some (.nilf), none, false, false, none, true⟩
theorem tiOk222 : TOk1 Tryz.prog 222 ti222 := ⟨by kernel_rfl, by kernel_rfl, by kernel_rfl, by kernel_rfl, by kernel_rfl, trivial, trivial, (by show zeO Tryz.prog 222 = some _; kernel_rfl), trivial, by kernel_rfl, (fun h => (by cases h)), trivial, (fun _ => (by kernel_rfl))⟩
def ti225 : TInf := ⟨1, 8, false, none, none, [], none, some (.int .i64 0), some [0], false, false, some .i64, true⟩
theorem tiOk225 : TOk1 Tryz.prog 225 ti225 := ⟨by kernel_rfl, by kernel_rfl, by kernel_rfl, by kernel_rfl, by kernel_rfl, trivial, trivial, (by show zeO Tryz.prog 225 = some _; kernel_rfl), (by show flatEq Tryz.prog 9 225 = some _; kernel_rfl), by kernel_rfl, (fun h => (by cases h)), (by show Tryz.prog.underlying 225 = some (.int _); kernel_rfl), (fun _ => (by kernel_rfl))⟩
def ti242 : TInf := ⟨1, 24, false, some (78), none, [], none, some (.sl [] .nil), none, false, false, none, true⟩
theorem tiOk242 : TOk1 Tryz.prog 242 ti242 := ⟨by kernel_rfl, by kernel_rfl, by kernel_rfl, by kernel_rfl, by kernel_rfl, trivial, trivial, (by show zeO Tryz.prog 242 = some _; kernel_rfl), trivial, by kernel_rfl, (fun h => (by cases h)), trivial, (fun _ => (by kernel_rfl))⟩
def ti245 : TInf := ⟨1, 8, false, none, none, [], none, some (.int .u64 0), some [0], false, false, some .u64, true⟩
theorem tiOk245 : TOk1 Tryz.prog 245 ti245 := ⟨by kernel_rfl, by kernel_rfl, by kernel_rfl, by kernel_rfl, by kernel_rfl, trivial, trivial, (by show zeO Tryz.prog 245 = some _; kernel_rfl), (by show flatEq Tryz.prog 9 245 = some _; kernel_rfl), by kernel_rfl, (fun h => (by cases h)), (by show Tryz.prog.underlying 245 = some (.int _); kernel_rfl), (fun _ => (by kernel_rfl))⟩
def ti257 : TInf := ⟨5, 48, true, none, none, [some (0, 3), some (1, 3), some (2, 73)], some [(0, 1), (1, 1), (2, 3)], some (.agg [.int .i64 0, .int .i64 0, .int .i64 0, .int .i64 0, .str ⟨#[]⟩]), some [0, 0, 0, 0, 2], false, false, none, true⟩
theorem tiOk257 : TOk1 Tryz.prog 257 ti257 := ⟨by kernel_rfl, by kernel_rfl, by kernel_rfl, by kernel_rfl, by kernel_rfl, ⟨by kernel_rfl, by kernel_rfl, by kernel_rfl, trivial⟩, (by show placesO Tryz.prog 257 = some _; kernel_rfl), (by show zeO Tryz.prog 257 = some _; kernel_rfl), (by show flatEq Tryz.prog 9 257 = some _; kernel_rfl), by kernel_rfl, (fun h => (by cases h)), trivial, (fun _ => (by kernel_rfl))⟩
def ti265 : TInf := ⟨1, 8, false, none, none, [], none, some (.nilf), none, false, false, none, true⟩
theorem tiOk265 : TOk1 Tryz.prog 265 ti265 := ⟨by kernel_rfl, by kernel_rfl, by kernel_rfl, by kernel_rfl, by kernel_rfl, trivial, trivial, (by show zeO Tryz.prog 265 = some _; kernel_rfl), trivial, by kernel_rfl, (fun h => (by cases h)), trivial, (fun _ => (by kernel_rfl))⟩
def ti266 : TInf := ⟨6, 48, true, none, some (6, 265), [], none, some (.agg [.nilf, .nilf, .nilf, .nilf, .nilf, .nilf]), none, false, false, none, true⟩
theorem tiOk266 : TOk1 Tryz.prog 266 ti266 := ⟨by kernel_rfl, by kernel_rfl, by kernel_rfl, by kernel_rfl, by kernel_rfl, trivial, trivial, (by show zeO Tryz.prog 266 = some _; kernel_rfl), trivial, by kernel_rfl, (fun h => (by cases h)), trivial, (fun _ => (by kernel_rfl))⟩
def TT : Tbl := [(3, ti3), (4, ti4), (5, ti5), (9, ti9), (22, ti22), (24, ti24), (26, ti26), (29, ti29), (44, ti44), (64, ti64), (65, ti65), (70, ti70), (71, ti71), (73, ti73), (75, ti75), (76, ti76), (78, ti78), (80, ti80), (87, ti87), (90, ti90), (94, ti94), (96, ti96), (101, ti101), (102, ti102), (104, ti104), (107, ti107), (108, ti108), (115, ti115), (141, ti141), (144, ti144), (159, ti159), (170, ti170), (174, ti174), (176, ti176), (180, ti180), (191, ti191), (194, ti194), (208, ti208), (211, ti211), (222, ti222), (225, ti225), (242, ti242), (245, ti245), (257, ti257), (265, ti265), (266, ti266)]
theorem okT : TOk Tryz.prog TT := ⟨tiOk3, tiOk4, tiOk5, tiOk9, tiOk22, tiOk24, tiOk26, tiOk29, tiOk44, tiOk64, tiOk65, tiOk70, tiOk71, tiOk73, tiOk75, tiOk76, tiOk78, tiOk80, tiOk87, tiOk90, tiOk94, tiOk96, tiOk101, tiOk102, tiOk104, tiOk107, tiOk108, tiOk115, tiOk141, tiOk144, tiOk159, tiOk170, tiOk174, tiOk176, tiOk180, tiOk191, tiOk194, tiOk208, tiOk211, tiOk222, tiOk225, tiOk242, tiOk245, tiOk257, tiOk265, tiOk266, trivial⟩
end Go.Ab

namespace Go.Ab
structure GInterval where
 Low : Int
 High : Int
structure GPredicate where
 Sets : List (List GInterval)
structure GSymbol where
 Typ : Int
 Num : Int
structure GField where
 Name : ByteArray
 Kind : Int
structure GSchema where
 Name : ByteArray
 Fields : List GField
structure GValue where
 Kind : Int
 Num : Int
 Text : ByteArray
structure GExpr where
 Op : Int
 Args : List GExpr
 Var : Int
 Field : Int
 Kind : Int
 Value : GValue
structure GEvent where
 Source : Int
 Seq : Int
 Typ : Int
 Time : Int
 Values : List GValue
structure Gtidegatelaw27_Case where
 Index : Int
 Own : Int
 Cond : GExpr
 Event : GEvent
structure GEnv where
 Vars : List (List GEvent)
structure GVariable where
 Name : ByteArray
 Typ : Int
structure Gexpr_typer where
 types : List GSchema
 vars : List GVariable
structure Gpredicate_line where
 times : Int
 plus : Int
structure GAccumulator where
 Kind : Int
 Count : Int
 Value : GValue
end Go.Ab

