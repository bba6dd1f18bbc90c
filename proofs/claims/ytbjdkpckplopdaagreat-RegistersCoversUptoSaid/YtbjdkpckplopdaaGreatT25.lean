/- AbB5 AbB6 AbB7 -/
import Derived.Test.YtbjdkpckplopdaaGreatT24
import Derived.Test.YtbjdkpckplopdaaGreatT23
set_option linter.all false

namespace Go.Ab
open Go.RowKit
variable [Glob] [Ar]
theorem Own0.swap {H0 H : Heap} {L : List En} (h : Own0 H0 L H) (i : Nat) {en en' : En} {id t : Nat} {b b' : Blk} (hi : L[i]? = some en) (he : en.id = some (id, b)) (he' : en'.id = some (t, b')) (ht : upd H id none t = none) :
 Own0 H0 (L.set i en') (upd (upd H id none) t (some b')) := by
 have hlt : i < L.length := by
  rcases Nat.lt_or_ge i L.length with h' | h'
  ·exact h'
  ·rw [List.getElem?_eq_none h'] at hi; cases hi
 have look : ∀ (j : Nat) e, (L.set i en')[j]? = some e → (j = i ∧ e = en') ∨ (j ≠ i ∧ L[j]? = some e) := fun j e hj => by
  rw [List.getElem?_set] at hj
  split at hj
  ·rename_i hij
   subst hij
   try rw [if_pos hlt] at hj
   exact .inl ⟨rfl, (Option.some.inj hj).symm⟩
  ·rename_i hij
   exact .inr ⟨fun e => hij e.symm, hj⟩
 have hid := h.has i _ id b hi he
 have h0 : ∀ x c, H0 x = some c → upd H id none x = some c := fun x c hx => by
  rw [upd_other _ _ (ne_of_none hid.1 hx)]; exact h.ext x c hx
 have hoth : ∀ (j : Nat) e x c, j ≠ i → L[j]? = some e → e.id = some (x, c) → H0 x = none ∧ upd H id none x = some c := fun j e x c hne hj hx => by
  have := h.has j e x c hj hx
  have hxid : x ≠ id := fun eq => by subst eq; exact hne (h.inj j i e _ x c b hj hi hx he)
  exact ⟨this.1, by rw [upd_other _ _ hxid]; exact this.2⟩
 have hid0 : H0 t = none := by
  cases e : H0 t with
  | none => rfl
  | some c => rw [h0 t c e] at ht; cases ht
 refine ⟨fun x bb hx => ?_, fun j e x bb hj hx => ?_, fun j k e e' x bb bb' hj hk hx hx' => ?_, fun x bb hx => ?_⟩
 rotate_right
 ·by_cases hxi : x = t
  ·subst hxi; rw [upd_same] at hx; cases hx
   exact .inr ⟨i, en', by rw [List.getElem?_set, if_pos rfl, if_pos hlt], he'⟩
  ·rw [upd_other _ _ hxi] at hx
   have hxid : x ≠ id := fun eq => by subst eq; rw [upd_same] at hx; cases hx
   rw [upd_other _ _ hxid] at hx
   refine (h.only x bb hx).imp (fun h => h) fun ⟨j, e, h1, h2⟩ => ⟨j, e, ?_, h2⟩
   rw [List.getElem?_set]
   split
   ·rename_i hij; subst hij; rw [hi] at h1; cases h1; rw [he] at h2; cases h2; exact absurd rfl hxid
   ·exact h1
 ·rw [upd_other _ _ (ne_of_none hid0 hx)]; exact h0 x bb hx
 ·rcases look j e hj with ⟨_, rfl⟩ | ⟨hne, hj'⟩
  ·rw [he'] at hx; cases hx; exact ⟨hid0, upd_same _ _ _⟩
  ·have := hoth j e x bb hne hj' hx
   exact ⟨this.1, by rw [upd_other _ _ (ne_of_none ht this.2)]; exact this.2⟩
 ·rcases look j e hj with ⟨hji, rfl⟩ | ⟨hne, hj'⟩ <;> rcases look k e' hk with ⟨hki, rfl⟩ | ⟨hne', hk'⟩
  ·rw [hji, hki]
  ·rw [he'] at hx; cases hx; have := (hoth k e' t bb' hne' hk' hx').2; rw [ht] at this; cases this
  ·rw [he'] at hx'; cases hx'; have := (hoth j e t bb hne hj' hx).2; rw [ht] at this; cases this
  ·exact h.inj j k e e' x bb bb' hj' hk' hx hx'
theorem Own.swap {Φ : Heap → Heap → Prop} {F H : Heap} {L : List En} (h : Own Φ F L H) (i : Nat) {id t : Nat} {b b' : Blk} (hi : L[i]? = some (.blk id b)) (ht : upd H id none t = none) : Own Φ F (L.set i (.blk t b')) (upd (upd H id none) t (some b')) := by
 obtain ⟨hs, F', H1, h0, h1, h2⟩ := h
 have e := h0.get i hi
 have e1 := hs.le h1 _ _ e
 have h3 := hs.chg id none h1 (by rw [e, e1])
 have hle : HLe (upd H1 id none) (upd H id none) := h2.upd id none
 have hn1 := hle.none ht
 have hn' := hs.fresh h3 hn1
 exact ⟨hs, _, _, h0.swap i hi rfl rfl hn', hs.chg t (some b') h3 (by rw [hn1, hn']), hle.upd t _⟩
theorem Own.swap' {Φ : Heap → Heap → Prop} {F H : Heap} {L : List En} (h : Own Φ F L H) (i : Nat) {id t : Nat} {b b' : Blk} (hi : L[i]? = some (.blk id b)) (ht : H t = none) : Own Φ F (L.set i (.blk t b')) (upd H t (some b')) := by
 have hid := h.get i hi
 have hne : t ≠ id := fun e => by subst e; rw [ht] at hid; cases hid
 obtain ⟨hs, F', H1, h0, h1, h2⟩ := h.swap (b' := b') i hi (t := t) (by rw [upd_other _ _ hne]; exact ht)
 refine ⟨hs, F', H1, h0, h1, fun x c hx => ?_⟩
 have := h2 x c hx
 by_cases e : x = t
 ·subst e; rw [upd_same] at this ⊢; exact this
 ·rw [upd_other _ _ e] at this ⊢
  by_cases e2 : x = id
  ·subst e2; rw [upd_same] at this; cases this
  ·rwa [upd_other _ _ e2] at this
structure OG where
 id : Nat
 lo : Int
 n : Int
 pre : List V
 rest : List V
def Okn (q : OG) (m : Int) : Prop := q.lo = (q.pre.length : Nat) ∧ q.n = m
theorem sub_mid {pre xs rest : List V} {lo n : Int} (h0 : lo = (pre.length : Nat)) (h1 : n = (xs.length : Nat)) : subL (pre ++ xs ++ rest) lo n = xs := by
 subst h0; subst h1
 simp [subL]
theorem over_mid {pre xs rest ys : List V} {i : Nat} (hi : i = pre.length + xs.length) : over (pre ++ xs ++ rest) i ys = pre ++ (xs ++ ys) ++ rest.drop ys.length := by
 subst hi
 simp only [over, List.append_assoc]
 rw [show pre ++ (xs ++ rest) = (pre ++ xs) ++ rest by simp, ← List.length_append, List.take_left, List.drop_append]
 simp
theorem getD_mid {pre xs rest : List V} {i : Nat} (h : i < xs.length) : (pre ++ xs ++ rest).getD (pre.length + i) .bad = xs.getD i .bad := by
 simp only [List.getD_eq_getElem?_getD, List.append_assoc]
 rw [List.getElem?_append_right (by omega), show pre.length + i - pre.length = i by omega, List.getElem?_append_left h]
theorem set_mid {pre xs rest : List V} {i : Nat} {v : V} (h : i < xs.length) : (pre ++ xs ++ rest).set (pre.length + i) v = pre ++ xs.set i v ++ rest := by
 simp only [List.append_assoc]
 rw [List.set_append_right _ _ (by omega), show pre.length + i - pre.length = i by omega, List.set_append_left _ _ h]
section
variable {P : Program} {nt : Nat} {rd : Option Nat} {T : Tbl} {E : Env}
variable (hE : E = real P nt rd)
include hE
variable {α R : Type} {f : α → V} {Φ : Heap → Heap → Prop} {H0 H : Heap} {L : List En} {sz : Nat} {q : OG} {l : List α} {r : R}
theorem n_olen (hq : Okn q (Ar.len l)) {k : Int → Prop} (h : k (Ar.len l)) : E.olen q.n k := by
 subst hE
 show k q.n
 rw [hq.2]; exact h
theorem n_oidx (hO : Own Φ H0 L H) (hq : Okn q (Ar.len l)) (i : Nat) {j : Int} {k : Int → Prop} {F : Unit → Option R} (hi : L[i]? = some (.blk q.id (.arr sz (q.pre ++ Ar.lst f l ++ q.rest)))) (h : (req (inR l j)).bind F = some r) (hk : F () = some r → k (Ar.ofs q.lo j)) :
 E.oidx H q.id sz q.lo q.n j k := by
 subst hE
 obtain ⟨x, h1, h2⟩ := bind_some h
 unfold req at h1
 split at h1
 ·rename_i hp
  refine ⟨⟨_, hO.get i hi⟩, ?_, hk h2⟩
  rw [hq.2, Ar.len_eq]; exact of_decide_eq_true hp
 ·cases h1
theorem idxL_some {l : List α} {i : Int} {x : α} (h : idxL l i = some x) : (0 ≤ i ∧ i < (l.length : Nat)) ∧ l[i.toNat]? = some x := by
 unfold idxL at h
 split at h
 ·rename_i h0
  refine ⟨⟨h0, ?_⟩, h⟩
  rcases Nat.lt_or_ge i.toNat l.length with h' | h'
  ·omega
  ·rw [List.getElem?_eq_none h'] at h; cases h
 ·cases h
theorem lst_getD {l : List α} {i : Nat} {x : α} (h : l[i]? = some x) : (Ar.lst f l).getD i .bad = f x := by
 rw [Ar.lst_eq]; simp [List.getD, h]
theorem n_oload {g : α → V} (hf : ∀ x, f x = g x) (hO : Own Φ H0 L H) (hq : Okn q (Ar.len l)) (i : Nat) {j : Int} {k : V → Prop} {F : α → Option R} (hi : L[i]? = some (.blk q.id (.arr sz (q.pre ++ Ar.lst f l ++ q.rest)))) (h : (idxL l j).bind F = some r) (hk : ∀ x, F x = some r → k (g x)) :
 E.oload H q.id (Ar.ofs q.lo j) k := by
 obtain ⟨x, h1, h2⟩ := bind_some h
 obtain ⟨hb, h3⟩ := idxL_some hE h1
 have h4 := lst_getD hE (f := f) h3
 subst hE
 have e1 := lst_len (f := f) l
 refine ⟨_, _, hO.get i hi, ?_, ?_⟩
 ·rw [Ar.ofs_eq, hq.1]; simp only [List.length_append, e1]; omega
 ·rw [Ar.ofs_eq, hq.1, show ((q.pre.length : Nat) + j : Int).toNat = q.pre.length + j.toNat by omega, getD_mid (by rw [e1]; omega), h4, hf]
  exact hk x h2
theorem n_frzIn (hO : Own Φ H0 L H) (hq : Okn q (Ar.len l)) (i m : Nat) {id j : Nat} {cs : List V} {k : Heap → Prop} (hi : L[i]? = some (.blk id (.cells cs))) (hm : L[m]? = some (.blk q.id (.arr sz (q.pre ++ Ar.lst f l ++ q.rest)))) (hj : cs[j]? = some (.own q.id q.lo q.n)) (him : i ≠ m)
 (hk : ∀ H', Own Φ H0 ((L.set i (.blk id (.cells (cs.set j (.sl (Ar.lst f l) .ro))))).eraseIdx m) H' → k H') : E.frzIn H id j k := by
 subst hE
 have h1 := hO.get i hi
 have h2 := hO.get m hm
 have hne : q.id ≠ id := fun e => by rw [e, h1] at h2; cases h2
 refine ⟨cs, q.id, q.lo, q.n, sz, _, _, h1, hj, h2, .refl _, ?_⟩
 have h3 := (hO.set i (b' := .cells (cs.set j (.sl (Ar.lst f l) .ro))) hi).del m (id := q.id) (b := .arr sz (q.pre ++ Ar.lst f l ++ q.rest)) (by rw [List.getElem?_set, if_neg him]; exact hm)
 rw [sub_mid hq.1 (by rw [hq.2, Ar.len_eq, lst_len]), upd_comm _ _ _ hne]
 exact hk _ h3
theorem n_ostore {u : α → α} {esz tz off : Nat} {y : V} (hu : ∀ x, ∃ y', LeV y y' ∧ y'.one = true ∧ y'.cells.length = tz ∧ putV (f x) esz tz off y' = f (u x)) (hle : off + tz ≤ esz) (hO : Own Φ H0 L H) (hq : Okn q (Ar.len l)) (i : Nat) {j : Int} {k : Heap → Prop} {F : List α → Option R}
 (hi : L[i]? = some (.blk q.id (.arr esz (q.pre ++ Ar.lst f l ++ q.rest)))) (h : (updL l j u).bind F = some r)
 (hk : ∀ l' H', Okn q (Ar.len l') → F l' = some r → Own Φ H0 (L.set i (.blk q.id (.arr esz (q.pre ++ Ar.lst f l' ++ q.rest)))) H' → k H') : E.ostore H q.id (Ar.ofs q.lo j) esz tz off y k := by
 obtain ⟨l', h1, h2⟩ := bind_some h
 unfold updL at h1
 cases hx : idxL l j with
 | none => rw [hx] at h1; cases h1
 | some x =>
  rw [hx] at h1
  simp only [Option.map_some, Option.some.injEq] at h1
  obtain ⟨hb, h3⟩ := idxL_some hE hx
  obtain ⟨y', q1, q2, q3, q4⟩ := hu x
  have e1 := lst_getD hE (f := f) h3
  have e2 : (Ar.lst f l).set j.toNat (f (u x)) = Ar.lst f l' := by
   rw [← h1, Ar.lst_eq, Ar.lst_eq, List.map_set]
  subst hE
  have el := lst_len (f := f) l
  have ej : (Ar.ofs q.lo j).toNat = q.pre.length + j.toNat := by rw [Ar.ofs_eq, hq.1]; omega
  refine ⟨_, y', q1, q2, q3, hle, hO.get i hi, ?_, ?_⟩
  ·rw [Ar.ofs_eq, hq.1]; simp only [List.length_append, el]; omega
  ·rw [ej, getD_mid (by rw [el]; omega), set_mid (by rw [el]; omega), e1, q4, e2]
   refine hk l' _ ⟨hq.1, ?_⟩ h2 (hO.set i hi)
   rw [hq.2, Ar.len_eq, Ar.len_eq, ← h1, List.length_set]
theorem n_omk {by_ : Nat} (hby : by_ ≤ 131072) {z : V} {z0 : α} (hz : LeV z (f z0)) (hO : Own Φ H0 L H) {n m : Int} {k : V → Heap → Prop} {F : List α → Option R} (h : (mkL n m z0).bind F = some r)
 (hk : ∀ l' (q : OG) H', Okn q (Ar.len l') → F l' = some r → Own Φ H0 (.blk q.id (.arr sz (q.pre ++ Ar.lst f l' ++ q.rest)) :: L) H' → k (.own q.id q.lo q.n) H') : E.omk sz by_ z n m H k := by
 subst hE
 obtain ⟨l', h1, h2⟩ := bind_some h
 unfold mkL at h1
 split at h1
 ·rename_i hc
  cases h1
  refine ⟨⟨hc.1, hc.2.1, ?_⟩, List.replicate m.toNat (f z0), ?_, fun id hid => ?_⟩
  ·have : m * (by_ : Nat) ≤ 1073741824 * 131072 := Int.mul_le_mul hc.2.2 (by omega) (by omega) (by omega)
   omega
  ·have : ∀ k : Nat, LeVs (List.replicate k z) (List.replicate k (f z0)) := fun k => by
    induction k with
    | zero => exact .nil
    | succ k ih => rw [List.replicate_succ, List.replicate_succ]; exact .cons hz ih
   exact this _
  ·have e : List.replicate m.toNat (f z0) = [] ++ Ar.lst f (List.replicate n.toNat z0) ++ List.replicate (m.toNat - n.toNat) (f z0) := by
    rw [Ar.lst_eq, List.map_replicate, List.nil_append, List.replicate_append_replicate]; congr 1; omega
   rw [e]
   exact hk _ ⟨id, 0, n, [], List.replicate (m.toNat - n.toNat) (f z0)⟩ _ ⟨rfl, by rw [Ar.len_eq]; simp; omega⟩ h2 (hO.push hid rfl)
 ·cases h1
theorem n_oapp {by_ : Nat} {z : V} (hsz : ∀ x, (f x).cells.length = sz) (hby : by_ ≤ 131072) (hO : Own Φ H0 L H) (hq : Okn q (Ar.len l)) (i : Nat) (hi : L[i]? = some (.blk q.id (.arr sz (q.pre ++ Ar.lst f l ++ q.rest)))) {y : V} {m : List α} {k : V → Heap → Prop} {F : List α → Option R}
 (hs : Src sz H y (Ar.lst f m)) (h : (appL l m).bind F = some r)
 (hk : ∀ x (q : OG) H', Okn q (Ar.len x) → Own Φ H0 (L.set i (.blk q.id (.arr sz (q.pre ++ Ar.lst f x ++ q.rest)))) H' → F x = some r → k (.own q.id q.lo q.n) H') : E.oapp sz by_ z H (.own q.id q.lo q.n) y k := by
 subst hE
 obtain ⟨x, h1, h2⟩ := bind_some h
 have el := lst_len (f := f) l
 have em := lst_len (f := f) m
 have hn : q.n = (l.length : Nat) := by rw [hq.2, Ar.len_eq]
 unfold appL at h1
 split at h1
 ·rename_i hc
  cases h1
  refine ⟨_, hs, _, hO.get i hi, fun hfit => ?_, fun _ => ⟨?_, fun t j ht => ?_⟩⟩
  rotate_left
  ·rw [em, hn, Int.toNat_natCast]
   exact Nat.le_trans (Nat.mul_le_mul hc hby) (by decide)
  rotate_left
  ·have e : over (q.pre ++ Ar.lst f l ++ q.rest) (q.lo + q.n).toNat (Ar.lst f m) = q.pre ++ Ar.lst f (l ++ m) ++ q.rest.drop m.length := by
    rw [over_mid (by rw [hq.1, hn, el]; omega), lst_app, em]
   rw [e]
   refine hk _ ⟨q.id, q.lo, q.n + ((Ar.lst f m).length : Nat), q.pre, q.rest.drop m.length⟩ _ ⟨hq.1, ?_⟩ (hO.set i hi) h2
   rw [Ar.len_eq, hn, em]; simp
  ·have e : subL (q.pre ++ Ar.lst f l ++ q.rest) q.lo q.n ++ Ar.lst f m ++ List.replicate j z = [] ++ Ar.lst f (l ++ m) ++ List.replicate j z := by
    rw [sub_mid hq.1 (by rw [el]; exact hn), lst_app, List.nil_append]
   rw [e]
   refine hk _ ⟨t, 0, q.n + ((Ar.lst f m).length : Nat), [], List.replicate j z⟩ _ ⟨rfl, ?_⟩ (hO.swap' i hi ht) h2
   rw [Ar.len_eq, hn, em]; simp
 ·cases h1
theorem src_sl (hsz : ∀ x, (f x).cells.length = sz) {ys : List V} {tl : Tail} (h : LeVs ys (Ar.lst f l)) : Src sz H (.sl ys tl) (Ar.lst f l) := ⟨h, lst_sz hsz l⟩
end
end Go.Ab

namespace Go.Ab
open Go.RowKit
variable [Glob] [Ar]
def HoldOk (mk : V → V) : Prop := ∀ (g : Gh) (w : World) (u : Value) (x : V), VR g w u (mk x) → ∃ v, VR g w v x ∧ ∀ (g' : Gh) (w' : World) (y : V), Stp g w g' w' → VR g' w' v y → VR g' w' u (mk y)
theorem HoldOk.id : HoldOk fun x => x := fun _ _ u _ h => ⟨u, h, fun _ _ _ _ k => k⟩
theorem HoldOk.agg (cs : List V) (i : Nat) (hi : i < cs.length) : HoldOk fun x => .agg (cs.set i x) := fun g w u x h => by
 cases h with
 | agg hl h1 hv =>
  rename_i vs
  have hi' : i < (cs.set i x).length := by simpa using hi
  refine ⟨vs.getD i undef, by have := hv i hi'; rwa [getD_setL hi, if_pos rfl] at this, fun g' w' y s k => ?_⟩
  refine .agg (by simpa using hl) (fun j hj => h1 j (by simpa using hj)) fun j hj => ?_
  rw [getD_setL hi]
  split
  ·rename_i e; subst e; exact k
  ·rename_i e
   have := hv j (by simpa using hj)
   rw [getD_setL hi, if_neg e] at this
   exact this.mono s
theorem HoldOk.tup (cs : List V) (i : Nat) (hi : i < cs.length) : HoldOk fun x => .tup (cs.set i x) := fun g w u x h => by
 cases h with
 | tup hl hv =>
  rename_i vs
  have hi' : i < (cs.set i x).length := by simpa using hi
  refine ⟨vs.getD i undef, by have := hv i hi'; rwa [getD_setL hi, if_pos rfl] at this, fun g' w' y s k => ?_⟩
  refine .tup (by simpa using hl) fun j hj => ?_
  rw [getD_setL hi]
  split
  ·rename_i e; subst e; exact k
  ·rename_i e
   have := hv j (by simpa using hj)
   rw [getD_setL hi, if_neg e] at this
   exact this.mono s
theorem HoldOk.comp {m n : V → V} (hm : HoldOk m) (hn : HoldOk n) : HoldOk fun x => m (n x) := fun g w u x h => by
 obtain ⟨v, h1, h2⟩ := hm g w u _ h
 obtain ⟨v', h3, h4⟩ := hn g w v _ h1
 exact ⟨v', h3, fun g' w' y s k => h2 g' w' _ s (h4 g' w' y s k)⟩
def OutG (F : Heap) (sz : Nat) (xs : List V) (mk : V → V) (v : V) (H' : Heap) : Prop := ∃ q : OG, v = mk (.own q.id q.lo q.n) ∧ Okn q (xs.length : Nat) ∧ F q.id = none ∧ H' = upd F q.id (some (.arr sz (q.pre ++ xs ++ q.rest)))
def CallG (P : Program) (f : FuncId) (args : List V) (sz : Nat) (xs : List V) (mk : V → V) : Prop := ∀ H, CallA P f args H (OutG H sz xs mk)
theorem Own.last {F H : Heap} {t : Nat} {b : Blk} (h : Own Eq F [.blk t b] H) : F t = none ∧ HLe (upd F t (some b)) H := by
 obtain ⟨hs, F', H1, h0, h1, h2⟩ := h
 subst h1
 have h3 := h0.has 0 _ t b rfl rfl
 refine ⟨h3.1, fun x c hx => ?_⟩
 by_cases e : x = t
 ·subst e; rw [upd_same] at hx; cases hx; exact h2 _ _ h3.2
 ·rw [upd_other _ _ e] at hx; exact h2 _ _ (h0.ext x c hx)
theorem Own.only {F H : Heap} {L : List En} {t : Nat} {b : Blk} (h : Own Eq F L H) (i : Nat) (hi : L[i]? = some (.blk t b)) : Own Eq F [.blk t b] H := by
 obtain ⟨hs, F', H1, h0, h1, h2⟩ := h
 subst h1
 have h3 := h0.has i _ t b hi rfl
 refine ⟨hs, upd F t (some b), upd F t (some b), (Own0.start F).push h3.1 rfl, rfl, fun x c hx => ?_⟩
 by_cases e : x = t
 ·subst e; rw [upd_same] at hx; cases hx; exact h2 _ _ h3.2
 ·rw [upd_other _ _ e] at hx; exact h2 _ _ (h0.ext x c hx)
section
variable {P : Program} {T : Tbl} {f : FuncId} {fn : Func} {c : Code} {n : Nat} {rs : List ResultVar} {args : List V}
end
section
variable {P : Program} {nt : Nat} {rd : Option Nat} {T : Tbl} {E : Env}
variable (hE : E = real P nt rd)
include hE
theorem n_callG {α β R : Type} {f : α → V} {Φ : Heap → Heap → Prop} {H0 H : Heap} {L : List En} {sz : Nat} {r : R} {m : Option β} {F : β → Option R} {g : β → List α} {mk : β → V → V} {fid : FuncId} {args args' : List V} {k : V → Heap → Prop}
 (h : m.bind F = some r) (hc : ∀ x, m = some x → CallG P fid args' sz (Ar.lst f (g x)) (mk x)) (hl : LeVs args args') (hO : Own Φ H0 L H)
 (hk : ∀ x (q : OG) H', Okn q (Ar.len (g x)) → Own Φ H0 (.blk q.id (.arr sz (q.pre ++ Ar.lst f (g x) ++ q.rest)) :: L) H' → F x = some r → k (mk x (.own q.id q.lo q.n)) H') :
 E.call (.func (.func fid) [] []) args H k := by
 subst hE
 obtain ⟨x, h1, h2⟩ := bind_some h
 refine CallA.value (F := []) (C := []) ?_
 have := ((hc x h1) H).args hl
 simp only [List.nil_append, List.append_nil]
 exact this.mono fun v H' ⟨q, e1, e0, e2, e3⟩ => by
  subst e1; subst e3
  exact hk x q _ (by rw [Ar.len_eq]; rwa [lst_len] at e0) (hO.push e2 rfl) h2
variable {α R S : Type} {f : α → V} {Φ : Heap → Heap → Prop} {H0 H : Heap} {L : List En} {sz : Nat} {q : OG} {r : R} {m : Option (List α)} {F : List α → Option R} {fid : FuncId} {args args' : List V} {k : V → Heap → Prop}
end
end Go.Ab

namespace Go.Ab
open Go.RowKit
variable [Glob] [Ar]
section
variable {P : Program} {T : Tbl} {f : FuncId} {fn : Func} {c : Code} {n : Nat} {rs : List ResultVar} {args : List V}
end
section
variable {P : Program} {nt : Nat} {rd : Option Nat} {T : Tbl} {E : Env}
variable (hE : E = real P nt rd)
include hE
variable {H : Heap} {sz id : Nat} {l n RL : Int} {row : List V}
end
end Go.Ab

