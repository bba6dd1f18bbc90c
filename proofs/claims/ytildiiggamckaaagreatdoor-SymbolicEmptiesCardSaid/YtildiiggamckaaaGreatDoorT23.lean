/- AbB1 AbS1 -/
import Derived.Test.YtildiiggamckaaaGreatDoorT22
import Derived.Test.YtildiiggamckaaaGreatDoorT15
set_option linter.all false
namespace Go.Ab
open Go.RowKit
variable [G5] [Ar]
theorem Y4.wk {x y : V} (h : Y4 x y) : Wk x y := fun _ _ _ hv => hv.le h
theorem Args.le {g : Gh} {w : World} {vals : Array Value} {xs ys : List V} (h : Args g w vals xs) (k : G4 xs ys) : Args g w vals ys :=
 ⟨h.1.trans k.length, fun i hi => (h.2 i (k.length ▸ hi)).le (k.at i)⟩
theorem E7.args {P : Program} {f : FuncId} {xs ys : List V} {H : A0} {K : V → A0 → Prop} (h : E7 P f ys H K) (k : G4 xs ys) : E7 P f xs H K :=
 fun g w vals hR hA => h g w vals hR (hA.le k)
theorem Am.args {P : Program} {fv : V} {xs ys : List V} {H : A0} {K : V → A0 → Prop} (h : Am P fv ys H K) (k : G4 xs ys) : Am P fv xs H K :=
 fun g w v vals hR hv hA => h g w v vals hR hv (hA.le k)
theorem B6.args {P : Program} {f : FuncId} {xs ys : List V} {r : V} (h : B6 P f ys r) (k : G4 xs ys) : B6 P f xs r := fun H => (h H).args k
theorem R4.args {P : Program} {fv : V} {xs ys : List V} {r : V} (h : R4 P fv ys r) (k : G4 xs ys) : R4 P fv xs r := fun H => (h H).args k
def Dj (H H' : A0) : Prop := ∀ id b, H id = some b → H' id = some b
theorem Dj.refl (H : A0) : Dj H H := fun _ _ h => h
theorem Dj.trans {H H' H'' : A0} (h : Dj H H') (k : Dj H' H'') : Dj H H'' := fun id b e => k id b (h id b e)
theorem E7.le {P : Program} {f : FuncId} {args : List V} {H : A0} {K : V → A0 → Prop} (h : E7 P f args H fun x H' => ∃ y H2, Y4 x y ∧ Dj H2 H' ∧ K y H2) : E7 P f args H K :=
 fun g w vals hR hA => (h g w vals hR hA).mono fun v w' ⟨g', x, H', s, hR', hv, y, H2, hxy, hH, hK⟩ => ⟨g', y, H2, s, hR'.less hH, hv.le hxy, hK⟩
inductive En where
 | tl (t : D6)
 | blk (id : Nat) (b : Au)
def En.id : En → Option (Nat × Au)
 | .tl (.tok t) => some (t, .spare)
 | .tl _ => none
 | .blk id b => some (id, b)
structure V2 (H0 : A0) (L : List En) (H : A0) : Prop where
 ext : Dj H0 H
 has : ∀ (i : Nat) e id b, L[i]? = some e → e.id = some (id, b) → H0 id = none ∧ H id = some b
 inj : ∀ (i j : Nat) e e' id b b', L[i]? = some e → L[j]? = some e' → e.id = some (id, b) → e'.id = some (id, b') → i = j
 only : ∀ x b, H x = some b → H0 x = some b ∨ ∃ (i : Nat) (e : En), L[i]? = some e ∧ e.id = some (x, b)
theorem V2.start (H : A0) : V2 H [] H := ⟨Dj.refl H, fun i e id b h => by simp at h, fun i j e e' id b b' h => by simp at h, fun x b h => .inl h⟩
theorem V2.free {H0 H : A0} {L : List En} (h : V2 H0 L H) {id : Nat} (hn : H id = none) : H0 id = none := by
 cases e : H0 id with
 | none => rfl
 | some b => rw [h.ext id b e] at hn; cases hn
theorem V2.tl0 {H0 H : A0} {L : List En} (h : V2 H0 L H) {t : D6} (ht : (En.tl t).id = none) : V2 H0 (.tl t :: L) H := by
 refine ⟨h.ext, fun i e id b hi he => ?_, fun i j e e' id b b' hi hj he he' => ?_, fun x b hx => (h.only x b hx).imp (fun h => h) fun ⟨i, e, h1, h2⟩ => ⟨i + 1, e, by simpa using h1, h2⟩⟩
 ·cases i with
  | zero => simp at hi; subst hi; rw [ht] at he; cases he
  | succ i => exact h.has i e id b (by simpa using hi) he
 cases i with
 | zero => simp at hi; subst hi; rw [ht] at he; cases he
 | succ i =>
  cases j with
  | zero => simp at hj; subst hj; rw [ht] at he'; cases he'
  | succ j => rw [h.inj i j e e' id b b' (by simpa using hi) (by simpa using hj) he he']
theorem V2.push {H0 H : A0} {L : List En} (h : V2 H0 L H) {en : En} {id : Nat} {b : Au} (hn : H id = none) (he : en.id = some (id, b)) : V2 H0 (en :: L) (upd H id (some b)) := by
 refine ⟨fun x bb hx => ?_, fun i e x bb hi hx => ?_, fun i j e e' x bb bb' hi hj hx hx' => ?_, fun x bb hx => ?_⟩
 rotate_right
 ·by_cases hxi : x = id
  ·subst hxi; rw [A9] at hx; cases hx; exact .inr ⟨0, en, by simp, he⟩
  rw [A3 _ _ hxi] at hx
  exact (h.only x bb hx).imp (fun h => h) fun ⟨i, e, h1, h2⟩ => ⟨i + 1, e, by simpa using h1, h2⟩
 ·rw [A3 _ _ (L7 (h.free hn) hx)]; exact h.ext x bb hx
 ·cases i with
  | zero => simp at hi; subst hi; rw [he] at hx; cases hx; exact ⟨h.free hn, A9 _ _ _⟩
  | succ i =>
   have := h.has i e x bb (by simpa using hi) hx;exact ⟨this.1, by rw [A3 _ _ (L7 hn this.2)]; exact this.2⟩
 cases i with
 | zero =>
  cases j with
  | zero => rfl
  | succ j =>
   simp at hi; subst hi; rw [he] at hx; cases hx
   have := (h.has j e' _ bb' (by simpa using hj) hx').2
   rw [hn] at this; cases this
 | succ i =>
  cases j with
  | zero =>
   simp at hj; subst hj; rw [he] at hx'; cases hx'
   have := (h.has i e _ bb (by simpa using hi) hx).2
   rw [hn] at this; cases this
  | succ j => rw [h.inj i j e e' x bb bb' (by simpa using hi) (by simpa using hj) hx hx']
theorem V2.get {H0 H : A0} {L : List En} (h : V2 H0 L H) (i : Nat) {id : Nat} {b : Au} (hi : L[i]? = some (.blk id b)) : H id = some b := (h.has i _ id b hi rfl).2
theorem V2.set {H0 H : A0} {L : List En} (h : V2 H0 L H) (i : Nat) {id : Nat} {b b' : Au} (hi : L[i]? = some (.blk id b)) : V2 H0 (L.set i (.blk id b')) (upd H id (some b')) := by
 have hid := h.has i _ id b hi rfl
 have hlt : i < L.length := by
  rcases Nat.lt_or_ge i L.length with h' | h'
  ·exact h'
  rw [List.getElem?_eq_none h'] at hi; cases hi
 have EW : ∀ (j : Nat) e, (L.set i (.blk id b'))[j]? = some e → (j = i ∧ e = .blk id b') ∨ (j ≠ i ∧ L[j]? = some e) := fun j e hj => by
  rw [List.getElem?_set] at hj
  split at hj
  ·rename_i hij;subst hij
   try rw [if_pos hlt] at hj
   exact .inl ⟨rfl, (Option.some.inj hj).symm⟩
  rename_i hij;exact .inr ⟨fun e => hij e.symm, hj⟩
 refine ⟨fun x bb hx => ?_, fun j e x bb hj hx => ?_, fun j k e e' x bb bb' hj hk hx hx' => ?_, fun x bb hx => ?_⟩
 rotate_right
 ·by_cases hxi : x = id
  ·subst hxi; rw [A9] at hx; cases hx
   exact .inr ⟨i, .blk x b', by rw [List.getElem?_set, if_pos rfl, if_pos hlt], rfl⟩
  rw [A3 _ _ hxi] at hx
  refine (h.only x bb hx).imp (fun h => h) fun ⟨j, e, h1, h2⟩ => ⟨j, e, ?_, h2⟩;rw [List.getElem?_set]
  split
  ·rename_i hij; subst hij; rw [hi] at h1; cases h1; cases h2; exact absurd rfl hxi
  exact h1
 ·rw [A3 _ _ (L7 hid.1 hx)]; exact h.ext x bb hx
 ·rcases EW j e hj with ⟨_, rfl⟩ | ⟨hne, hj'⟩
  ·cases hx; exact ⟨hid.1, A9 _ _ _⟩
  have := h.has j e x bb hj' hx
  have hxid : x ≠ id := fun eq => by subst eq; exact hne (h.inj j i e _ x bb b hj' hi hx rfl)
  exact ⟨this.1, by rw [A3 _ _ hxid]; exact this.2⟩
 rcases EW j e hj with ⟨hji, rfl⟩ | ⟨hne, hj'⟩ <;> rcases EW k e' hk with ⟨hki, rfl⟩ | ⟨hne', hk'⟩
 ·rw [hji, hki]
 ·cases hx; exact absurd (h.inj k i e' _ id bb' b hk' hi hx' rfl) hne'
 ·cases hx'; exact absurd (h.inj j i e _ id bb b hj' hi hx rfl) hne
 exact h.inj j k e e' x bb bb' hj' hk' hx hx'
theorem V2.tok {H0 H : A0} {L : List En} (h : V2 H0 L H) (i : Nat) {tl : D6} (hi : L[i]? = some (.tl tl)) {t : Nat} (ht : C9 H tl t = none) :
 V2 H0 (L.set i (.tl (.tok t))) (upd (C9 H tl) t (some .spare)) := by
 have hlt : i < L.length := by
  rcases Nat.lt_or_ge i L.length with h' | h'
  ·exact h'
  rw [List.getElem?_eq_none h'] at hi; cases hi
 have EW : ∀ (j : Nat) e, (L.set i (.tl (.tok t)))[j]? = some e → (j = i ∧ e = .tl (.tok t)) ∨ (j ≠ i ∧ L[j]? = some e) := fun j e hj => by
  rw [List.getElem?_set] at hj
  split at hj
  ·rename_i hij;subst hij
   try rw [if_pos hlt] at hj
   exact .inl ⟨rfl, (Option.some.inj hj).symm⟩
  rename_i hij;exact .inr ⟨fun e => hij e.symm, hj⟩
 have left : ∀ x b, H x = some b → (∀ t', tl = .tok t' → x ≠ t') → C9 H tl x = some b := fun x b hx hne => by
  cases tl with
  | tok t' => simp only [C9]; rw [A3 _ _ (hne t' rfl)]; exact hx
  | _ => exact hx
 have h0 : ∀ x b, H0 x = some b → C9 H tl x = some b := fun x b hx => left x b (h.ext x b hx) fun t' e eq => by
  subst e; subst eq
  rw [(h.has i _ x _ hi rfl).1] at hx; cases hx
 have hoth : ∀ (j : Nat) e x b, j ≠ i → L[j]? = some e → e.id = some (x, b) → H0 x = none ∧ C9 H tl x = some b := fun j e x b hne hj hx => by
  have := h.has j e x b hj hx;refine ⟨this.1, left x b this.2 fun t' et eq => ?_⟩;subst et; subst eq;exact hne (h.inj j i e _ x b _ hj hi hx rfl)
 have hid0 : H0 t = none := by
  cases e : H0 t with
  | none => rfl
  | some b => rw [h0 t b e] at ht; cases ht
 refine ⟨fun x bb hx => ?_, fun j e x bb hj hx => ?_, fun j k e e' x bb bb' hj hk hx hx' => ?_, fun x bb hx => ?_⟩
 rotate_right
 ·by_cases hxi : x = t
  ·subst hxi; rw [A9] at hx; cases hx
   exact .inr ⟨i, .tl (.tok x), by rw [List.getElem?_set, if_pos rfl, if_pos hlt], rfl⟩
  rw [A3 _ _ hxi] at hx
  have hx2 : H x = some bb ∧ ∀ t', tl = .tok t' → x ≠ t' := by
   cases tl with
   | tok t' =>
    simp only [C9] at hx
    by_cases e : x = t'
    ·subst e; rw [A9] at hx; cases hx
    rw [A3 _ _ e] at hx
    exact ⟨hx, fun t'' e' => by cases e'; exact e⟩
   | _ => exact ⟨hx, fun t'' e' => by cases e'⟩
  refine (h.only x bb hx2.1).imp (fun h => h) fun ⟨j, e, h1, h2⟩ => ⟨j, e, ?_, h2⟩;rw [List.getElem?_set]
  split
  ·rename_i hij; subst hij; rw [hi] at h1; cases h1
   cases tl with
   | tok t' => cases h2; exact absurd rfl (hx2.2 _ rfl)
   | _ => cases h2
  exact h1
 ·rw [A3 _ _ (L7 hid0 hx)]; exact h0 x bb hx
 ·rcases EW j e hj with ⟨_, rfl⟩ | ⟨hne, hj'⟩
  ·cases hx; exact ⟨hid0, A9 _ _ _⟩
  have := hoth j e x bb hne hj' hx;exact ⟨this.1, by rw [A3 _ _ (L7 ht this.2)]; exact this.2⟩
 rcases EW j e hj with ⟨hji, rfl⟩ | ⟨hne, hj'⟩ <;> rcases EW k e' hk with ⟨hki, rfl⟩ | ⟨hne', hk'⟩
 ·rw [hji, hki]
 ·cases hx; have := (hoth k e' t bb' hne' hk' hx').2; rw [ht] at this; cases this
 ·cases hx'; have := (hoth j e t bb hne hj' hx).2; rw [ht] at this; cases this
 exact h.inj j k e e' x bb bb' hj' hk' hx hx'
theorem V2.del {H0 H : A0} {L : List En} (h : V2 H0 L H) (i : Nat) {id : Nat} {b : Au} (hi : L[i]? = some (.blk id b)) : V2 H0 (L.eraseIdx i) (upd H id none) := by
 have hid := h.has i _ id b hi rfl
 have EW : ∀ (j : Nat) e, (L.eraseIdx i)[j]? = some e → ∃ j', j' ≠ i ∧ L[j']? = some e ∧ (j' = if j < i then j else j + 1) := fun j e hj => by
  rw [List.getElem?_eraseIdx] at hj
  split at hj
  ·rename_i hlt; exact ⟨j, by omega, hj, by rw [if_pos hlt]⟩
  rename_i hlt; exact ⟨j + 1, by omega, hj, by rw [if_neg hlt]⟩
 refine ⟨fun x bb hx => ?_, fun j e x bb hj hx => ?_, fun j k e e' x bb bb' hj hk hx hx' => ?_, fun x bb hx => ?_⟩
 rotate_right
 ·by_cases hxi : x = id
  ·subst hxi; rw [A9] at hx; cases hx
  rw [A3 _ _ hxi] at hx
  refine (h.only x bb hx).imp (fun h => h) fun ⟨j, e, h1, h2⟩ => ?_
  have hji : j ≠ i := fun eq => by subst eq; rw [hi] at h1; cases h1; cases h2; exact hxi rfl
  rcases Nat.lt_or_ge j i with hlt | hge
  ·exact ⟨j, e, by rw [List.getElem?_eraseIdx, if_pos hlt]; exact h1, h2⟩
  exact ⟨j - 1, e, by rw [List.getElem?_eraseIdx, if_neg (by omega), show j - 1 + 1 = j by omega]; exact h1, h2⟩
 ·rw [A3 _ _ (L7 hid.1 hx)]; exact h.ext x bb hx
 ·obtain ⟨j', hne, hj', _⟩ := EW j e hj;have := h.has j' e x bb hj' hx
  have hxid : x ≠ id := fun eq => by subst eq; exact hne (h.inj j' i e _ x bb b hj' hi hx rfl)
  exact ⟨this.1, by rw [A3 _ _ hxid]; exact this.2⟩
 obtain ⟨j', hne, hj', ej⟩ := EW j e hj;obtain ⟨k', hne', hk', ek⟩ := EW k e' hk;have := h.inj j' k' e e' x bb bb' hj' hk' hx hx'
 rw [ej, ek] at this
 split at this <;> split at this <;> omega
def GM (H : A0) (e : En) : A0 :=
 match e.id with
 | some (id, _) => upd H id none
 | none => H
theorem V2.tail {H0 H : A0} {L : List En} {e : En} (h : V2 H0 (e :: L) H) : V2 H0 L (GM H e) := by
 have inj0 : ∀ (j : Nat) e' x b b', L[j]? = some e' → e'.id = some (x, b) → e.id = some (x, b') → False := fun j e' x b b' hj hx hx' => by
  have := h.inj (j + 1) 0 e' e x b b' (by simpa using hj) (by simp) hx hx';omega
 cases he : e.id with
 | none =>
  have ed : GM H e = H := by simp only [GM, he]
  rw [ed];refine ⟨h.ext, fun i e id b hi => h.has (i + 1) e id b (by simpa using hi), fun i j e e' id b b' hi hj he he' => ?_, fun x b hx => (h.only x b hx).imp (fun h => h) fun ⟨i, e', h1, h2⟩ => ?_⟩
  ·have := h.inj (i + 1) (j + 1) e e' id b b' (by simpa using hi) (by simpa using hj) he he';omega
  cases i with
  | zero => simp at h1; subst h1; rw [he] at h2; cases h2
  | succ i => exact ⟨i, e', by simpa using h1, h2⟩
 | some p =>
  obtain ⟨id, b0⟩ := p
  have ed : GM H e = upd H id none := by simp only [GM, he]
  rw [ed];have hid := h.has 0 e id b0 (by simp) he;refine ⟨fun x b hx => ?_, fun i e' x b hi hx => ?_, fun i j e e' id b b' hi hj he he' => ?_, fun x b hx => ?_⟩
  ·rw [A3 _ _ (L7 hid.1 hx)]; exact h.ext x b hx
  ·have := h.has (i + 1) e' x b (by simpa using hi) hx
   have hne : x ≠ id := fun eq => by subst eq; exact inj0 i e' x b b0 hi hx he
   exact ⟨this.1, by rw [A3 _ _ hne]; exact this.2⟩
  ·have := h.inj (i + 1) (j + 1) e e' id b b' (by simpa using hi) (by simpa using hj) he he';omega
  by_cases hxi : x = id
  ·subst hxi; rw [A9] at hx; cases hx
  rw [A3 _ _ hxi] at hx
  refine (h.only x b hx).imp (fun h => h) fun ⟨i, e', h1, h2⟩ => ?_
  cases i with
  | zero => simp at h1; subst h1; rw [he] at h2; cases h2; exact absurd rfl hxi
  | succ i => exact ⟨i, e', by simpa using h1, h2⟩
theorem Dj.upd {H H' : A0} (h : Dj H H') (id : Nat) (b : Option Au) : Dj (upd H id b) (upd H' id b) := fun x bb hx => by
 by_cases e : x = id
 ·subst e; rw [A9] at hx ⊢; exact hx
 rw [A3 _ _ e] at hx ⊢; exact h x bb hx
theorem Dj.less {H H' : A0} (h : Dj H H') (id : Nat) : Dj (Go.Ab.upd H id none) H' := fun x bb hx => by
 by_cases e : x = id
 ·subst e; rw [A9] at hx; cases hx
 rw [A3 _ _ e] at hx; exact h x bb hx
theorem Dj.none {H H' : A0} (h : Dj H H') {id : Nat} (hn : H' id = none) : H id = none := by
 cases e : H id with
 | none => rfl
 | some b => rw [h id b e] at hn; cases hn
theorem B7 : C6 (Eq : A0 → A0 → Prop) := ⟨fun h id b hb => h ▸ hb, fun id b h _ => by subst h; rfl⟩
def B4 (Φ : A0 → A0 → Prop) (F : A0) (L : List En) (H : A0) : Prop := C6 Φ ∧ ∃ F' H1, V2 F L F' ∧ Φ F' H1 ∧ Dj H1 H
section
variable {Φ : A0 → A0 → Prop} {F H : A0} {L : List En}
theorem B4.start (hs : C6 Φ) (h : Φ F H) : B4 Φ F [] H := ⟨hs, F, H, V2.start F, h, Dj.refl H⟩
theorem B4.ext (h : B4 Φ F L H) : Dj F H := by
 obtain ⟨hs, F', H1, h0, h1, h2⟩ := h;exact h0.ext.trans fun id b hb => h2 _ _ (hs.le h1 id b hb)
theorem B4.tl0 (h : B4 Φ F L H) {t : D6} (ht : (En.tl t).id = none) : B4 Φ F (.tl t :: L) H := by
 obtain ⟨hs, F', H1, h0, h1, h2⟩ := h; exact ⟨hs, F', H1, h0.tl0 ht, h1, h2⟩
theorem B4.push (h : B4 Φ F L H) {en : En} {id : Nat} {b : Au} (hn : H id = none) (he : en.id = some (id, b)) : B4 Φ F (en :: L) (upd H id (some b)) := by
 obtain ⟨hs, F', H1, h0, h1, h2⟩ := h;have hn1 := h2.none hn;have hn' := hs.fresh h1 hn1;exact ⟨hs, _, _, h0.push hn' he, hs.chg id (some b) h1 (by rw [hn1, hn']), h2.upd id _⟩
theorem B4.get (h : B4 Φ F L H) (i : Nat) {id : Nat} {b : Au} (hi : L[i]? = some (.blk id b)) : H id = some b := by
 obtain ⟨hs, F', H1, h0, h1, h2⟩ := h; exact h2 _ _ (hs.le h1 _ _ (h0.get i hi))
theorem B4.set (h : B4 Φ F L H) (i : Nat) {id : Nat} {b b' : Au} (hi : L[i]? = some (.blk id b)) : B4 Φ F (L.set i (.blk id b')) (upd H id (some b')) := by
 obtain ⟨hs, F', H1, h0, h1, h2⟩ := h;have e := h0.get i hi;exact ⟨hs, _, _, h0.set i hi, hs.chg id _ h1 (by rw [e, hs.le h1 _ _ e]), h2.upd id _⟩
theorem B4.del (h : B4 Φ F L H) (i : Nat) {id : Nat} {b : Au} (hi : L[i]? = some (.blk id b)) : B4 Φ F (L.eraseIdx i) (upd H id none) := by
 obtain ⟨hs, F', H1, h0, h1, h2⟩ := h;have e := h0.get i hi;exact ⟨hs, _, _, h0.del i hi, hs.chg id _ h1 (by rw [e, hs.le h1 _ _ e]), h2.upd id _⟩
theorem B4.tail {e : En} (h : B4 Φ F (e :: L) H) : B4 Φ F L H := by
 obtain ⟨hs, F', H1, h0, h1, h2⟩ := h
 cases he : e.id with
 | none =>
  have := h0.tail
  simp only [GM, he] at this
  exact ⟨hs, _, _, this, h1, h2⟩
 | some p =>
  obtain ⟨id, b⟩ := p;have h3 := h0.tail
  simp only [GM, he] at h3
  have e1 := (h0.has 0 e id b (by simp) he).2;exact ⟨hs, _, _, h3, hs.chg id none h1 (by rw [e1, hs.le h1 _ _ e1]), h2.less id⟩
theorem B4.tok (h : B4 Φ F L H) (i : Nat) {tl : D6} (hi : L[i]? = some (.tl tl)) {t : Nat} (ht : C9 H tl t = none) : B4 Φ F (L.set i (.tl (.tok t))) (upd (C9 H tl) t (some .spare)) := by
 obtain ⟨hs, F', H1, h0, h1, h2⟩ := h
 have h3 : Φ (C9 F' tl) (C9 H1 tl) := by
  cases tl with
  | tok t' =>
   have e := (h0.has i _ t' _ hi rfl).2;exact hs.chg t' none h1 (by rw [e, hs.le h1 _ _ e])
  | _ => exact h1
 have h4 : Dj (C9 H1 tl) (C9 H tl) := by
  cases tl with
  | tok t' => exact h2.upd t' none
  | _ => exact h2
 have ht1 := h4.none ht;have ht' := hs.fresh h3 ht1;exact ⟨hs, _, _, h0.tok i hi ht', hs.chg t _ h3 (by rw [ht1, ht']), h4.upd t _⟩
theorem B4.stable (hs : C6 Φ) (L : List En) : C6 fun F H => B4 Φ F L H := by
 refine ⟨fun h id b hb => h.ext id b hb, fun {F H} id b h e => ?_⟩;obtain ⟨hs, F', H1, h0, h1, h2⟩ := h
 have hne : ∀ (i : Nat) en x bb, L[i]? = some en → en.id = some (x, bb) → x ≠ id := fun i en x bb hi he eq => by
  subst eq;have h3 := h0.has i en x bb hi he;have h4 := h2 _ _ (hs.le h1 _ _ h3.2)
  rw [e, h3.1] at h4; cases h4
 have hF' : F' id = F id := by
  cases hf : F id with
  | some x => exact h0.ext id x hf
  | none =>
   cases hf' : F' id with
   | none => rfl
   | some x =>
    rcases h0.only id x hf' with h | ⟨i, en, hi, he⟩
    ·rw [hf] at h; cases h
    exact absurd rfl (hne i en id x hi he)
 have hH1 : H1 id = F id := by
  cases hf : F id with
  | some x => rw [← hF'] at hf; exact hs.le h1 id x hf
  | none => rw [hf] at e; exact h2.none e
 refine ⟨hs, upd F' id b, upd H1 id b, ⟨fun x bb hx => ?_, fun i en x bb hi he => ?_, h0.inj, fun x bb hx => ?_⟩, hs.chg id b h1 (by rw [hF', hH1]), h2.upd id b⟩
 ·by_cases hxi : x = id
  ·subst hxi; rw [A9] at hx ⊢; exact hx
  rw [A3 _ _ hxi] at hx ⊢; exact h0.ext x bb hx
 ·have := h0.has i en x bb hi he;have hxi := hne i en x bb hi he;rw [A3 _ _ hxi, A3 _ _ hxi]; exact this
 by_cases hxi : x = id
 ·subst hxi; rw [A9] at hx ⊢; exact .inl hx
 rw [A3 _ _ hxi] at hx ⊢; exact h0.only x bb hx
theorem B4.out : ∀ {L : List En}, B4 Φ F L H → ∃ H1, Φ F H1 ∧ Dj H1 H
 | [], h => by
  obtain ⟨hs, F', H1, h0, h1, h2⟩ := h
  have : F' = F := by
   funext x
   cases hf : F' x with
   | some b =>
    rcases h0.only x b hf with h | ⟨i, e, hi, _⟩
    ·exact h.symm
    simp at hi
   | none => exact (h0.free hf).symm
  subst this;exact ⟨H1, h1, h2⟩
 | _ :: L, h => B4.out (L := L) h.tail
end
theorem C6.ex {ι : Type} {p : ι → Prop} {I : ι → A0 → A0 → Prop} (h : ∀ i, C6 (I i)) : C6 fun F H => ∃ i, p i ∧ I i F H :=
 ⟨fun ⟨i, _, hi⟩ => (h i).le hi, fun id b ⟨i, hp, hi⟩ e => ⟨i, hp, (h i).chg id b hi e⟩⟩
theorem C6.con {p : Prop} {I : A0 → A0 → Prop} (h : C6 I) : C6 fun F H => p ∧ I F H :=
 ⟨fun ⟨_, hi⟩ => h.le hi, fun id b ⟨hp, hi⟩ e => ⟨hp, h.chg id b hi e⟩⟩
def N2 : D6 → Prop
 | .ro => False
 | _ => True
theorem B4.appOk {Φ : A0 → A0 → Prop} {F H : A0} {L : List En} (h : B4 Φ F L H) (i : Nat) {tl : D6} (hi : L[i]? = some (.tl tl)) (ha : N2 tl) : DE H tl := by
 obtain ⟨hs, F', H1, h0, h1, h2⟩ := h
 cases tl with
 | tok t => exact h2 _ _ (hs.le h1 _ _ (h0.has i _ t _ hi rfl).2)
 | nil => trivial
 | full => trivial
 | ro => exact ha
end Go.Ab
namespace Go.Ab
def C3 {α : Type} (l : List α) (i : Int) : Option α := if 0 ≤ i then l[i.toNat]? else none
def Bb {α : Type} (l : List α) (lo hi mx : Option Int) : Option (List α) :=
 if 0 ≤ lo.getD 0 ∧ lo.getD 0 ≤ hi.getD l.length ∧ hi.getD l.length ≤ mx.getD l.length ∧ mx.getD l.length ≤ l.length ∧ (mx.isSome = true → hi.isSome = true) then
  some ((l.drop (lo.getD 0).toNat).take ((hi.getD l.length).toNat - (lo.getD 0).toNat))
 else none
def Q2 {α : Type} (l m : List α) : Option (List α) := if l.length + m.length ≤ 1073741824 then some (l ++ m) else none
def Bx (b : Bool) : Option Unit := if b = true then some () else none
def loopN {σ R : Type} (step : σ → Option (σ ⊕ R)) : Nat → σ → Option R
 | 0, _ => none
 | n + 1, s =>
  match step s with
  | none => none
  | some (.inl s') => loopN step n s'
  | some (.inr r) => some r
def F2 {α σ R : Type} (step : σ → α → Option (σ ⊕ R)) : List α → σ → Option (σ ⊕ R)
 | [], s => some (.inl s)
 | x :: l, s =>
  match step s x with
  | none => none
  | some (.inl s') => F2 step l s'
  | some (.inr r) => some (.inr r)
def Z3 {β σ R : Type} (step : σ → Option (List β × (σ ⊕ R))) : Nat → σ → Option (List β × R)
 | 0, _ => none
 | n + 1, s =>
  match step s with
  | none => none
  | some (w, .inl s') =>
   (match Z3 step n s' with
    | none => none
    | some (w', r) => some (w ++ w', r))
  | some (w, .inr r) => some (w, r)
def Z0 {α β σ R : Type} (step : σ → α → Option (List β × (σ ⊕ R))) : List α → σ → Option (List β × (σ ⊕ R))
 | [], s => some ([], .inl s)
 | x :: l, s =>
  match step s x with
  | none => none
  | some (w, .inl s') =>
   (match Z0 step l s' with
    | none => none
    | some (w', o) => some (w ++ w', o))
  | some (w, .inr r) => some (w, .inr r)
def N3 {β σ τ : Type} (m : Option (List β × σ)) (f : σ → Option (List β × τ)) : Option (List β × τ) :=
 m.bind fun q => (f q.2).bind fun p => some (q.1 ++ p.1, p.2)
theorem K2 {β σ τ : Type} {m : Option (List β × σ)} {f : σ → Option (List β × τ)} {w : List β} {o : τ} (h : N3 m f = some (w, o)) : ∃ w1 w2 x, m = some (w1, x) ∧ f x = some (w2, o) ∧ w = w1 ++ w2 := by
 unfold N3 at h
 cases m with
 | none => cases h
 | some p =>
  simp only [Option.bind_some] at h
  cases hf : f p.2 with
  | none => rw [hf] at h; cases h
  | some t =>
   rw [hf] at h
   simp only [Option.bind_some, Option.some.injEq, Prod.mk.injEq] at h
   obtain ⟨h1, h2⟩ := h;subst h1; subst h2;exact ⟨p.1, t.1, p.2, rfl, hf, rfl⟩
theorem P0 {β σ τ : Type} {a : List β} {x : σ} {f : σ → Option (List β × τ)} {w : List β} {o : τ} (h : N3 (some (a, x)) f = some (w, o)) : ∃ w2, f x = some (w2, o) ∧ w = a ++ w2 := by
 obtain ⟨w1, w2, y, h1, h2, h3⟩ := K2 h;cases h1;exact ⟨w2, h2, h3⟩
theorem C5 {α β : Type} {a c : α} {b d : β} (h : some (a, b) = some (c, d)) : a = c ∧ b = d := by cases h; exact ⟨rfl, rfl⟩
theorem bind_some {α β : Type} {m : Option α} {F : α → Option β} {r : β} (h : m.bind F = some r) : ∃ x, m = some x ∧ F x = some r := by
 cases m with
 | none => cases h
 | some x => exact ⟨x, rfl, h⟩
theorem O2 {α : Type} {a b : α} (h : some a = some b) : a = b := Option.some.inj h
end Go.Ab
