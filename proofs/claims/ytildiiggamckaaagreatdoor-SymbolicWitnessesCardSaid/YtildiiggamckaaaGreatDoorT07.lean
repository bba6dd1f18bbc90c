/- AbB1 AbS1 AbB2 AbB3 AbB4 AbS2 AbB5 AbB6 -/
import Derived.Test.YtildiiggamckaaaGreatDoorT06
set_option linter.all false
namespace Go.Ab
open Go.RowKit
variable [H5] [Ar]
theorem Z6.wk {x y : V} (h : Z6 x y) : Wk x y := fun _ _ _ hv => hv.le h
theorem Args.le {g : Gh} {w : World} {vals : Array Value} {xs ys : List V} (h : Args g w vals xs) (k : G9 xs ys) : Args g w vals ys :=
 ⟨h.1.trans k.length, fun i hi => (h.2 i (k.length ▸ hi)).le (k.at i)⟩
theorem E8.args {P : Program} {f : FuncId} {xs ys : List V} {H : A0} {K : V → A0 → Prop} (h : E8 P f ys H K) (k : G9 xs ys) : E8 P f xs H K :=
 fun g w vals hR hA => h g w vals hR (hA.le k)
theorem AD.args {P : Program} {fv : V} {xs ys : List V} {H : A0} {K : V → A0 → Prop} (h : AD P fv ys H K) (k : G9 xs ys) : AD P fv xs H K :=
 fun g w v vals hR hv hA => h g w v vals hR hv (hA.le k)
theorem B5.args {P : Program} {f : FuncId} {xs ys : List V} {r : V} (h : B5 P f ys r) (k : G9 xs ys) : B5 P f xs r := fun H => (h H).args k
theorem Q6.args {P : Program} {fv : V} {xs ys : List V} {r : V} (h : Q6 P fv ys r) (k : G9 xs ys) : Q6 P fv xs r := fun H => (h H).args k
def Ds (H H' : A0) : Prop := ∀ id b, H id = some b → H' id = some b
theorem Ds.refl (H : A0) : Ds H H := fun _ _ h => h
theorem Ds.trans {H H' H'' : A0} (h : Ds H H') (k : Ds H' H'') : Ds H H'' := fun id b e => k id b (h id b e)
theorem E8.le {P : Program} {f : FuncId} {args : List V} {H : A0} {K : V → A0 → Prop} (h : E8 P f args H fun x H' => ∃ y H2, Z6 x y ∧ Ds H2 H' ∧ K y H2) : E8 P f args H K :=
 fun g w vals hR hA => (h g w vals hR hA).mono fun v w' ⟨g', x, H', s, hR', hv, y, H2, hxy, hH, hK⟩ => ⟨g', y, H2, s, hR'.less hH, hv.le hxy, hK⟩
inductive En where
 | tl (t : D8)
 | blk (id : Nat) (b : AI)
def En.id : En → Option (Nat × AI)
 | .tl (.tok t) => some (t, .spare)
 | .tl _ => none
 | .blk id b => some (id, b)
structure W2 (H0 : A0) (L : List En) (H : A0) : Prop where
 ext : Ds H0 H
 has : ∀ (i : Nat) e id b, L[i]? = some e → e.id = some (id, b) → H0 id = none ∧ H id = some b
 inj : ∀ (i j : Nat) e e' id b b', L[i]? = some e → L[j]? = some e' → e.id = some (id, b) → e'.id = some (id, b') → i = j
 only : ∀ x b, H x = some b → H0 x = some b ∨ ∃ (i : Nat) (e : En), L[i]? = some e ∧ e.id = some (x, b)
theorem W2.start (H : A0) : W2 H [] H := ⟨Ds.refl H, fun i e id b h => by simp at h, fun i j e e' id b b' h => by simp at h, fun x b h => .inl h⟩
theorem W2.free {H0 H : A0} {L : List En} (h : W2 H0 L H) {id : Nat} (hn : H id = none) : H0 id = none := by
 cases e : H0 id with
 | none => rfl
 | some b => rw [h.ext id b e] at hn; cases hn
theorem W2.tl0 {H0 H : A0} {L : List En} (h : W2 H0 L H) {t : D8} (ht : (En.tl t).id = none) : W2 H0 (.tl t :: L) H := by
 refine ⟨h.ext, fun i e id b hi he => ?_, fun i j e e' id b b' hi hj he he' => ?_, fun x b hx => (h.only x b hx).imp (fun h => h) fun ⟨i, e, h1, h2⟩ => ⟨i + 1, e, by simpa using h1, h2⟩⟩
 ·cases i with
  | zero => simp at hi; subst hi; rw [ht] at he; cases he
  | succ i => exact h.has i e id b (by simpa using hi) he
 cases i with
 | zero => simp at hi; subst hi; rw [ht] at he; cases he
 | succ i =>
  cases j with
  | zero => simp at hj; subst hj; rw [ht] at he'; cases he'
  | succ j => rw [h.inj i j e e' id b b' (by simpa using hi) (by simpa using hj) he he']
theorem W2.push {H0 H : A0} {L : List En} (h : W2 H0 L H) {en : En} {id : Nat} {b : AI} (hn : H id = none) (he : en.id = some (id, b)) : W2 H0 (en :: L) (upd H id (some b)) := by
 refine ⟨fun x bb hx => ?_, fun i e x bb hi hx => ?_, fun i j e e' x bb bb' hi hj hx hx' => ?_, fun x bb hx => ?_⟩
 rotate_right
 ·by_cases hxi : x = id
  ·subst hxi; rw [A9] at hx; cases hx; exact .inr ⟨0, en, by simp, he⟩
  rw [A4 _ _ hxi] at hx
  exact (h.only x bb hx).imp (fun h => h) fun ⟨i, e, h1, h2⟩ => ⟨i + 1, e, by simpa using h1, h2⟩
 ·rw [A4 _ _ (M3 (h.free hn) hx)]; exact h.ext x bb hx
 ·cases i with
  | zero => simp at hi; subst hi; rw [he] at hx; cases hx; exact ⟨h.free hn, A9 _ _ _⟩
  | succ i =>
   have := h.has i e x bb (by simpa using hi) hx;exact ⟨this.1, by rw [A4 _ _ (M3 hn this.2)]; exact this.2⟩
 cases i with
 | zero =>
  cases j with
  | zero => rfl
  | succ j =>
   simp at hi; subst hi; rw [he] at hx; cases hx
   have := (h.has j e' _ bb' (by simpa using hj) hx').2
   rw [hn] at this; cases this
 | succ i =>
  cases j with
  | zero =>
   simp at hj; subst hj; rw [he] at hx'; cases hx'
   have := (h.has i e _ bb (by simpa using hi) hx).2
   rw [hn] at this; cases this
  | succ j => rw [h.inj i j e e' x bb bb' (by simpa using hi) (by simpa using hj) hx hx']
theorem W2.get {H0 H : A0} {L : List En} (h : W2 H0 L H) (i : Nat) {id : Nat} {b : AI} (hi : L[i]? = some (.blk id b)) : H id = some b := (h.has i _ id b hi rfl).2
theorem W2.set {H0 H : A0} {L : List En} (h : W2 H0 L H) (i : Nat) {id : Nat} {b b' : AI} (hi : L[i]? = some (.blk id b)) : W2 H0 (L.set i (.blk id b')) (upd H id (some b')) := by
 have hid := h.has i _ id b hi rfl
 have hlt : i < L.length := by
  rcases Nat.lt_or_ge i L.length with h' | h'
  ·exact h'
  rw [List.getElem?_eq_none h'] at hi; cases hi
 have EY : ∀ (j : Nat) e, (L.set i (.blk id b'))[j]? = some e → (j = i ∧ e = .blk id b') ∨ (j ≠ i ∧ L[j]? = some e) := fun j e hj => by
  rw [List.getElem?_set] at hj
  split at hj
  ·rename_i hij;subst hij
   try rw [if_pos hlt] at hj
   exact .inl ⟨rfl, (Option.some.inj hj).symm⟩
  rename_i hij;exact .inr ⟨fun e => hij e.symm, hj⟩
 refine ⟨fun x bb hx => ?_, fun j e x bb hj hx => ?_, fun j k e e' x bb bb' hj hk hx hx' => ?_, fun x bb hx => ?_⟩
 rotate_right
 ·by_cases hxi : x = id
  ·subst hxi; rw [A9] at hx; cases hx
   exact .inr ⟨i, .blk x b', by rw [List.getElem?_set, if_pos rfl, if_pos hlt], rfl⟩
  rw [A4 _ _ hxi] at hx
  refine (h.only x bb hx).imp (fun h => h) fun ⟨j, e, h1, h2⟩ => ⟨j, e, ?_, h2⟩;rw [List.getElem?_set]
  split
  ·rename_i hij; subst hij; rw [hi] at h1; cases h1; cases h2; exact absurd rfl hxi
  exact h1
 ·rw [A4 _ _ (M3 hid.1 hx)]; exact h.ext x bb hx
 ·rcases EY j e hj with ⟨_, rfl⟩ | ⟨hne, hj'⟩
  ·cases hx; exact ⟨hid.1, A9 _ _ _⟩
  have := h.has j e x bb hj' hx
  have hxid : x ≠ id := fun eq => by subst eq; exact hne (h.inj j i e _ x bb b hj' hi hx rfl)
  exact ⟨this.1, by rw [A4 _ _ hxid]; exact this.2⟩
 rcases EY j e hj with ⟨hji, rfl⟩ | ⟨hne, hj'⟩ <;> rcases EY k e' hk with ⟨hki, rfl⟩ | ⟨hne', hk'⟩
 ·rw [hji, hki]
 ·cases hx; exact absurd (h.inj k i e' _ id bb' b hk' hi hx' rfl) hne'
 ·cases hx'; exact absurd (h.inj j i e _ id bb b hj' hi hx rfl) hne
 exact h.inj j k e e' x bb bb' hj' hk' hx hx'
theorem W2.tok {H0 H : A0} {L : List En} (h : W2 H0 L H) (i : Nat) {tl : D8} (hi : L[i]? = some (.tl tl)) {t : Nat} (ht : C8 H tl t = none) :
 W2 H0 (L.set i (.tl (.tok t))) (upd (C8 H tl) t (some .spare)) := by
 have hlt : i < L.length := by
  rcases Nat.lt_or_ge i L.length with h' | h'
  ·exact h'
  rw [List.getElem?_eq_none h'] at hi; cases hi
 have EY : ∀ (j : Nat) e, (L.set i (.tl (.tok t)))[j]? = some e → (j = i ∧ e = .tl (.tok t)) ∨ (j ≠ i ∧ L[j]? = some e) := fun j e hj => by
  rw [List.getElem?_set] at hj
  split at hj
  ·rename_i hij;subst hij
   try rw [if_pos hlt] at hj
   exact .inl ⟨rfl, (Option.some.inj hj).symm⟩
  rename_i hij;exact .inr ⟨fun e => hij e.symm, hj⟩
 have left : ∀ x b, H x = some b → (∀ t', tl = .tok t' → x ≠ t') → C8 H tl x = some b := fun x b hx hne => by
  cases tl with
  | tok t' => simp only [C8]; rw [A4 _ _ (hne t' rfl)]; exact hx
  | _ => exact hx
 have h0 : ∀ x b, H0 x = some b → C8 H tl x = some b := fun x b hx => left x b (h.ext x b hx) fun t' e eq => by
  subst e; subst eq
  rw [(h.has i _ x _ hi rfl).1] at hx; cases hx
 have hoth : ∀ (j : Nat) e x b, j ≠ i → L[j]? = some e → e.id = some (x, b) → H0 x = none ∧ C8 H tl x = some b := fun j e x b hne hj hx => by
  have := h.has j e x b hj hx;refine ⟨this.1, left x b this.2 fun t' et eq => ?_⟩;subst et; subst eq;exact hne (h.inj j i e _ x b _ hj hi hx rfl)
 have hid0 : H0 t = none := by
  cases e : H0 t with
  | none => rfl
  | some b => rw [h0 t b e] at ht; cases ht
 refine ⟨fun x bb hx => ?_, fun j e x bb hj hx => ?_, fun j k e e' x bb bb' hj hk hx hx' => ?_, fun x bb hx => ?_⟩
 rotate_right
 ·by_cases hxi : x = t
  ·subst hxi; rw [A9] at hx; cases hx
   exact .inr ⟨i, .tl (.tok x), by rw [List.getElem?_set, if_pos rfl, if_pos hlt], rfl⟩
  rw [A4 _ _ hxi] at hx
  have hx2 : H x = some bb ∧ ∀ t', tl = .tok t' → x ≠ t' := by
   cases tl with
   | tok t' =>
    simp only [C8] at hx
    by_cases e : x = t'
    ·subst e; rw [A9] at hx; cases hx
    rw [A4 _ _ e] at hx
    exact ⟨hx, fun t'' e' => by cases e'; exact e⟩
   | _ => exact ⟨hx, fun t'' e' => by cases e'⟩
  refine (h.only x bb hx2.1).imp (fun h => h) fun ⟨j, e, h1, h2⟩ => ⟨j, e, ?_, h2⟩;rw [List.getElem?_set]
  split
  ·rename_i hij; subst hij; rw [hi] at h1; cases h1
   cases tl with
   | tok t' => cases h2; exact absurd rfl (hx2.2 _ rfl)
   | _ => cases h2
  exact h1
 ·rw [A4 _ _ (M3 hid0 hx)]; exact h0 x bb hx
 ·rcases EY j e hj with ⟨_, rfl⟩ | ⟨hne, hj'⟩
  ·cases hx; exact ⟨hid0, A9 _ _ _⟩
  have := hoth j e x bb hne hj' hx;exact ⟨this.1, by rw [A4 _ _ (M3 ht this.2)]; exact this.2⟩
 rcases EY j e hj with ⟨hji, rfl⟩ | ⟨hne, hj'⟩ <;> rcases EY k e' hk with ⟨hki, rfl⟩ | ⟨hne', hk'⟩
 ·rw [hji, hki]
 ·cases hx; have := (hoth k e' t bb' hne' hk' hx').2; rw [ht] at this; cases this
 ·cases hx'; have := (hoth j e t bb hne hj' hx).2; rw [ht] at this; cases this
 exact h.inj j k e e' x bb bb' hj' hk' hx hx'
theorem W2.del {H0 H : A0} {L : List En} (h : W2 H0 L H) (i : Nat) {id : Nat} {b : AI} (hi : L[i]? = some (.blk id b)) : W2 H0 (L.eraseIdx i) (upd H id none) := by
 have hid := h.has i _ id b hi rfl
 have EY : ∀ (j : Nat) e, (L.eraseIdx i)[j]? = some e → ∃ j', j' ≠ i ∧ L[j']? = some e ∧ (j' = if j < i then j else j + 1) := fun j e hj => by
  rw [List.getElem?_eraseIdx] at hj
  split at hj
  ·rename_i hlt; exact ⟨j, by omega, hj, by rw [if_pos hlt]⟩
  rename_i hlt; exact ⟨j + 1, by omega, hj, by rw [if_neg hlt]⟩
 refine ⟨fun x bb hx => ?_, fun j e x bb hj hx => ?_, fun j k e e' x bb bb' hj hk hx hx' => ?_, fun x bb hx => ?_⟩
 rotate_right
 ·by_cases hxi : x = id
  ·subst hxi; rw [A9] at hx; cases hx
  rw [A4 _ _ hxi] at hx
  refine (h.only x bb hx).imp (fun h => h) fun ⟨j, e, h1, h2⟩ => ?_
  have hji : j ≠ i := fun eq => by subst eq; rw [hi] at h1; cases h1; cases h2; exact hxi rfl
  rcases Nat.lt_or_ge j i with hlt | hge
  ·exact ⟨j, e, by rw [List.getElem?_eraseIdx, if_pos hlt]; exact h1, h2⟩
  exact ⟨j - 1, e, by rw [List.getElem?_eraseIdx, if_neg (by omega), show j - 1 + 1 = j by omega]; exact h1, h2⟩
 ·rw [A4 _ _ (M3 hid.1 hx)]; exact h.ext x bb hx
 ·obtain ⟨j', hne, hj', _⟩ := EY j e hj;have := h.has j' e x bb hj' hx
  have hxid : x ≠ id := fun eq => by subst eq; exact hne (h.inj j' i e _ x bb b hj' hi hx rfl)
  exact ⟨this.1, by rw [A4 _ _ hxid]; exact this.2⟩
 obtain ⟨j', hne, hj', ej⟩ := EY j e hj;obtain ⟨k', hne', hk', ek⟩ := EY k e' hk;have := h.inj j' k' e e' x bb bb' hj' hk' hx hx'
 rw [ej, ek] at this
 split at this <;> split at this <;> omega
def GT (H : A0) (e : En) : A0 :=
 match e.id with
 | some (id, _) => upd H id none
 | none => H
theorem W2.tail {H0 H : A0} {L : List En} {e : En} (h : W2 H0 (e :: L) H) : W2 H0 L (GT H e) := by
 have inj0 : ∀ (j : Nat) e' x b b', L[j]? = some e' → e'.id = some (x, b) → e.id = some (x, b') → False := fun j e' x b b' hj hx hx' => by
  have := h.inj (j + 1) 0 e' e x b b' (by simpa using hj) (by simp) hx hx';omega
 cases he : e.id with
 | none =>
  have ed : GT H e = H := by simp only [GT, he]
  rw [ed];refine ⟨h.ext, fun i e id b hi => h.has (i + 1) e id b (by simpa using hi), fun i j e e' id b b' hi hj he he' => ?_, fun x b hx => (h.only x b hx).imp (fun h => h) fun ⟨i, e', h1, h2⟩ => ?_⟩
  ·have := h.inj (i + 1) (j + 1) e e' id b b' (by simpa using hi) (by simpa using hj) he he';omega
  cases i with
  | zero => simp at h1; subst h1; rw [he] at h2; cases h2
  | succ i => exact ⟨i, e', by simpa using h1, h2⟩
 | some p =>
  obtain ⟨id, b0⟩ := p
  have ed : GT H e = upd H id none := by simp only [GT, he]
  rw [ed];have hid := h.has 0 e id b0 (by simp) he;refine ⟨fun x b hx => ?_, fun i e' x b hi hx => ?_, fun i j e e' id b b' hi hj he he' => ?_, fun x b hx => ?_⟩
  ·rw [A4 _ _ (M3 hid.1 hx)]; exact h.ext x b hx
  ·have := h.has (i + 1) e' x b (by simpa using hi) hx
   have hne : x ≠ id := fun eq => by subst eq; exact inj0 i e' x b b0 hi hx he
   exact ⟨this.1, by rw [A4 _ _ hne]; exact this.2⟩
  ·have := h.inj (i + 1) (j + 1) e e' id b b' (by simpa using hi) (by simpa using hj) he he';omega
  by_cases hxi : x = id
  ·subst hxi; rw [A9] at hx; cases hx
  rw [A4 _ _ hxi] at hx
  refine (h.only x b hx).imp (fun h => h) fun ⟨i, e', h1, h2⟩ => ?_
  cases i with
  | zero => simp at h1; subst h1; rw [he] at h2; cases h2; exact absurd rfl hxi
  | succ i => exact ⟨i, e', by simpa using h1, h2⟩
theorem Ds.upd {H H' : A0} (h : Ds H H') (id : Nat) (b : Option AI) : Ds (upd H id b) (upd H' id b) := fun x bb hx => by
 by_cases e : x = id
 ·subst e; rw [A9] at hx ⊢; exact hx
 rw [A4 _ _ e] at hx ⊢; exact h x bb hx
theorem Ds.less {H H' : A0} (h : Ds H H') (id : Nat) : Ds (Go.Ab.upd H id none) H' := fun x bb hx => by
 by_cases e : x = id
 ·subst e; rw [A9] at hx; cases hx
 rw [A4 _ _ e] at hx; exact h x bb hx
theorem Ds.none {H H' : A0} (h : Ds H H') {id : Nat} (hn : H' id = none) : H id = none := by
 cases e : H id with
 | none => rfl
 | some b => rw [h id b e] at hn; cases hn
theorem B7 : C7 (Eq : A0 → A0 → Prop) := ⟨fun h id b hb => h ▸ hb, fun id b h _ => by subst h; rfl⟩
def B3 (Φ : A0 → A0 → Prop) (F : A0) (L : List En) (H : A0) : Prop := C7 Φ ∧ ∃ F' H1, W2 F L F' ∧ Φ F' H1 ∧ Ds H1 H
section
variable {Φ : A0 → A0 → Prop} {F H : A0} {L : List En}
theorem B3.start (hs : C7 Φ) (h : Φ F H) : B3 Φ F [] H := ⟨hs, F, H, W2.start F, h, Ds.refl H⟩
theorem B3.ext (h : B3 Φ F L H) : Ds F H := by
 obtain ⟨hs, F', H1, h0, h1, h2⟩ := h;exact h0.ext.trans fun id b hb => h2 _ _ (hs.le h1 id b hb)
theorem B3.tl0 (h : B3 Φ F L H) {t : D8} (ht : (En.tl t).id = none) : B3 Φ F (.tl t :: L) H := by
 obtain ⟨hs, F', H1, h0, h1, h2⟩ := h; exact ⟨hs, F', H1, h0.tl0 ht, h1, h2⟩
theorem B3.push (h : B3 Φ F L H) {en : En} {id : Nat} {b : AI} (hn : H id = none) (he : en.id = some (id, b)) : B3 Φ F (en :: L) (upd H id (some b)) := by
 obtain ⟨hs, F', H1, h0, h1, h2⟩ := h;have hn1 := h2.none hn;have hn' := hs.fresh h1 hn1;exact ⟨hs, _, _, h0.push hn' he, hs.chg id (some b) h1 (by rw [hn1, hn']), h2.upd id _⟩
theorem B3.get (h : B3 Φ F L H) (i : Nat) {id : Nat} {b : AI} (hi : L[i]? = some (.blk id b)) : H id = some b := by
 obtain ⟨hs, F', H1, h0, h1, h2⟩ := h; exact h2 _ _ (hs.le h1 _ _ (h0.get i hi))
theorem B3.set (h : B3 Φ F L H) (i : Nat) {id : Nat} {b b' : AI} (hi : L[i]? = some (.blk id b)) : B3 Φ F (L.set i (.blk id b')) (upd H id (some b')) := by
 obtain ⟨hs, F', H1, h0, h1, h2⟩ := h;have e := h0.get i hi;exact ⟨hs, _, _, h0.set i hi, hs.chg id _ h1 (by rw [e, hs.le h1 _ _ e]), h2.upd id _⟩
theorem B3.del (h : B3 Φ F L H) (i : Nat) {id : Nat} {b : AI} (hi : L[i]? = some (.blk id b)) : B3 Φ F (L.eraseIdx i) (upd H id none) := by
 obtain ⟨hs, F', H1, h0, h1, h2⟩ := h;have e := h0.get i hi;exact ⟨hs, _, _, h0.del i hi, hs.chg id _ h1 (by rw [e, hs.le h1 _ _ e]), h2.upd id _⟩
theorem B3.tail {e : En} (h : B3 Φ F (e :: L) H) : B3 Φ F L H := by
 obtain ⟨hs, F', H1, h0, h1, h2⟩ := h
 cases he : e.id with
 | none =>
  have := h0.tail
  simp only [GT, he] at this
  exact ⟨hs, _, _, this, h1, h2⟩
 | some p =>
  obtain ⟨id, b⟩ := p;have h3 := h0.tail
  simp only [GT, he] at h3
  have e1 := (h0.has 0 e id b (by simp) he).2;exact ⟨hs, _, _, h3, hs.chg id none h1 (by rw [e1, hs.le h1 _ _ e1]), h2.less id⟩
theorem B3.tok (h : B3 Φ F L H) (i : Nat) {tl : D8} (hi : L[i]? = some (.tl tl)) {t : Nat} (ht : C8 H tl t = none) : B3 Φ F (L.set i (.tl (.tok t))) (upd (C8 H tl) t (some .spare)) := by
 obtain ⟨hs, F', H1, h0, h1, h2⟩ := h
 have h3 : Φ (C8 F' tl) (C8 H1 tl) := by
  cases tl with
  | tok t' =>
   have e := (h0.has i _ t' _ hi rfl).2;exact hs.chg t' none h1 (by rw [e, hs.le h1 _ _ e])
  | _ => exact h1
 have h4 : Ds (C8 H1 tl) (C8 H tl) := by
  cases tl with
  | tok t' => exact h2.upd t' none
  | _ => exact h2
 have ht1 := h4.none ht;have ht' := hs.fresh h3 ht1;exact ⟨hs, _, _, h0.tok i hi ht', hs.chg t _ h3 (by rw [ht1, ht']), h4.upd t _⟩
theorem B3.stable (hs : C7 Φ) (L : List En) : C7 fun F H => B3 Φ F L H := by
 refine ⟨fun h id b hb => h.ext id b hb, fun {F H} id b h e => ?_⟩;obtain ⟨hs, F', H1, h0, h1, h2⟩ := h
 have hne : ∀ (i : Nat) en x bb, L[i]? = some en → en.id = some (x, bb) → x ≠ id := fun i en x bb hi he eq => by
  subst eq;have h3 := h0.has i en x bb hi he;have h4 := h2 _ _ (hs.le h1 _ _ h3.2)
  rw [e, h3.1] at h4; cases h4
 have hF' : F' id = F id := by
  cases hf : F id with
  | some x => exact h0.ext id x hf
  | none =>
   cases hf' : F' id with
   | none => rfl
   | some x =>
    rcases h0.only id x hf' with h | ⟨i, en, hi, he⟩
    ·rw [hf] at h; cases h
    exact absurd rfl (hne i en id x hi he)
 have hH1 : H1 id = F id := by
  cases hf : F id with
  | some x => rw [← hF'] at hf; exact hs.le h1 id x hf
  | none => rw [hf] at e; exact h2.none e
 refine ⟨hs, upd F' id b, upd H1 id b, ⟨fun x bb hx => ?_, fun i en x bb hi he => ?_, h0.inj, fun x bb hx => ?_⟩, hs.chg id b h1 (by rw [hF', hH1]), h2.upd id b⟩
 ·by_cases hxi : x = id
  ·subst hxi; rw [A9] at hx ⊢; exact hx
  rw [A4 _ _ hxi] at hx ⊢; exact h0.ext x bb hx
 ·have := h0.has i en x bb hi he;have hxi := hne i en x bb hi he;rw [A4 _ _ hxi, A4 _ _ hxi]; exact this
 by_cases hxi : x = id
 ·subst hxi; rw [A9] at hx ⊢; exact .inl hx
 rw [A4 _ _ hxi] at hx ⊢; exact h0.only x bb hx
theorem B3.out : ∀ {L : List En}, B3 Φ F L H → ∃ H1, Φ F H1 ∧ Ds H1 H
 | [], h => by
  obtain ⟨hs, F', H1, h0, h1, h2⟩ := h
  have : F' = F := by
   funext x
   cases hf : F' x with
   | some b =>
    rcases h0.only x b hf with h | ⟨i, e, hi, _⟩
    ·exact h.symm
    simp at hi
   | none => exact (h0.free hf).symm
  subst this;exact ⟨H1, h1, h2⟩
 | _ :: L, h => B3.out (L := L) h.tail
end
theorem C7.ex {ι : Type} {p : ι → Prop} {I : ι → A0 → A0 → Prop} (h : ∀ i, C7 (I i)) : C7 fun F H => ∃ i, p i ∧ I i F H :=
 ⟨fun ⟨i, _, hi⟩ => (h i).le hi, fun id b ⟨i, hp, hi⟩ e => ⟨i, hp, (h i).chg id b hi e⟩⟩
theorem C7.con {p : Prop} {I : A0 → A0 → Prop} (h : C7 I) : C7 fun F H => p ∧ I F H :=
 ⟨fun ⟨_, hi⟩ => h.le hi, fun id b ⟨hp, hi⟩ e => ⟨hp, h.chg id b hi e⟩⟩
def O8 : D8 → Prop
 | .ro => False
 | _ => True
theorem B3.appOk {Φ : A0 → A0 → Prop} {F H : A0} {L : List En} (h : B3 Φ F L H) (i : Nat) {tl : D8} (hi : L[i]? = some (.tl tl)) (ha : O8 tl) : DF H tl := by
 obtain ⟨hs, F', H1, h0, h1, h2⟩ := h
 cases tl with
 | tok t => exact h2 _ _ (hs.le h1 _ _ (h0.has i _ t _ hi rfl).2)
 | nil => trivial
 | full => trivial
 | ro => exact ha
end Go.Ab
namespace Go.Ab
def C6 {α : Type} (l : List α) (i : Int) : Option α := if 0 ≤ i then l[i.toNat]? else none
def V2 {α : Type} (l : List α) (lo hi mx : Option Int) : Option (List α) :=
 if 0 ≤ lo.getD 0 ∧ lo.getD 0 ≤ hi.getD l.length ∧ hi.getD l.length ≤ mx.getD l.length ∧ mx.getD l.length ≤ l.length ∧ (mx.isSome = true → hi.isSome = true) then
  some ((l.drop (lo.getD 0).toNat).take ((hi.getD l.length).toNat - (lo.getD 0).toNat))
 else none
def L5 {α : Type} (l m : List α) : Option (List α) := if l.length + m.length ≤ 1073741824 then some (l ++ m) else none
def Ea (b : Bool) : Option Unit := if b = true then some () else none
def loopN {σ R : Type} (step : σ → Option (σ ⊕ R)) : Nat → σ → Option R
 | 0, _ => none
 | n + 1, s =>
  match step s with
  | none => none
  | some (.inl s') => loopN step n s'
  | some (.inr r) => some r
def D0 {α σ R : Type} (step : σ → α → Option (σ ⊕ R)) : List α → σ → Option (σ ⊕ R)
 | [], s => some (.inl s)
 | x :: l, s =>
  match step s x with
  | none => none
  | some (.inl s') => D0 step l s'
  | some (.inr r) => some (.inr r)
def Ag {β σ R : Type} (step : σ → Option (List β × (σ ⊕ R))) : Nat → σ → Option (List β × R)
 | 0, _ => none
 | n + 1, s =>
  match step s with
  | none => none
  | some (w, .inl s') =>
   (match Ag step n s' with
    | none => none
    | some (w', r) => some (w ++ w', r))
  | some (w, .inr r) => some (w, r)
def Ac {α β σ R : Type} (step : σ → α → Option (List β × (σ ⊕ R))) : List α → σ → Option (List β × (σ ⊕ R))
 | [], s => some ([], .inl s)
 | x :: l, s =>
  match step s x with
  | none => none
  | some (w, .inl s') =>
   (match Ac step l s' with
    | none => none
    | some (w', o) => some (w ++ w', o))
  | some (w, .inr r) => some (w, .inr r)
def O3 {β σ τ : Type} (m : Option (List β × σ)) (f : σ → Option (List β × τ)) : Option (List β × τ) :=
 m.bind fun q => (f q.2).bind fun p => some (q.1 ++ p.1, p.2)
theorem K7 {β σ τ : Type} {m : Option (List β × σ)} {f : σ → Option (List β × τ)} {w : List β} {o : τ} (h : O3 m f = some (w, o)) : ∃ w1 w2 x, m = some (w1, x) ∧ f x = some (w2, o) ∧ w = w1 ++ w2 := by
 unfold O3 at h
 cases m with
 | none => cases h
 | some p =>
  simp only [Option.bind_some] at h
  cases hf : f p.2 with
  | none => rw [hf] at h; cases h
  | some t =>
   rw [hf] at h
   simp only [Option.bind_some, Option.some.injEq, Prod.mk.injEq] at h
   obtain ⟨h1, h2⟩ := h;subst h1; subst h2;exact ⟨p.1, t.1, p.2, rfl, hf, rfl⟩
theorem P8 {β σ τ : Type} {a : List β} {x : σ} {f : σ → Option (List β × τ)} {w : List β} {o : τ} (h : O3 (some (a, x)) f = some (w, o)) : ∃ w2, f x = some (w2, o) ∧ w = a ++ w2 := by
 obtain ⟨w1, w2, y, h1, h2, h3⟩ := K7 h;cases h1;exact ⟨w2, h2, h3⟩
theorem C4 {α β : Type} {a c : α} {b d : β} (h : some (a, b) = some (c, d)) : a = c ∧ b = d := by cases h; exact ⟨rfl, rfl⟩
theorem bind_some {α β : Type} {m : Option α} {F : α → Option β} {r : β} (h : m.bind F = some r) : ∃ x, m = some x ∧ F x = some r := by
 cases m with
 | none => cases h
 | some x => exact ⟨x, rfl, h⟩
theorem N2 {α : Type} {a b : α} (h : some a = some b) : a = b := Option.some.inj h
end Go.Ab
namespace Go.Ab
open Go.RowKit
variable [H5] [Ar]
def CE (l : Fl) : Fl → Prop
 | [] => True
 | (k, s) :: r => Z6 (Z4 l k) s.V ∧ (∀ j w x, s ≠ .g j w x) ∧ CE l r
theorem CE.wk {l : Fl} : ∀ {r : Fl}, CE l r → ∀ t, Wk (Z4 l t) (Z4 r t)
 | [], _, t => Wk.bad _
 | (k, s) :: r, h, t => by
  simp only [Z4]
  cases hb : Nat.beq t k with
  | true =>
   have := Nat.eq_of_beq_eq_true hb; subst this
   cases s with
   | v x => exact h.1.wk
   | b c => exact h.1.wk
   | g j w x => exact absurd rfl (h.2.1 j w x)
  | false => exact CE.wk h.2.2 t
theorem CE.v {l r : Fl} {k : Nat} {x : V} (h : Z6 (Z4 l k) x) (hr : CE l r) : CE l ((k, .v x) :: r) := ⟨h, fun _ _ _ h => (by cases h), hr⟩
theorem CE.b {l r : Fl} {k : Nat} {c : Bool} (h : Z4 l k = .bool c) (hr : CE l r) : CE l ((k, .b c) :: r) := ⟨h ▸ .refl _, fun _ _ _ h => (by cases h), hr⟩
theorem CE.e {l r : Fl} {k : Nat} {x : V} (h : Z4 l k = x) (hr : CE l r) : CE l ((k, .v x) :: r) := ⟨h ▸ .refl _, fun _ _ _ h => (by cases h), hr⟩
theorem CE.z {l : Fl} : CE l [] := trivial
theorem Wk.trans {x y z : V} (h : Wk x y) (k : Wk y z) : Wk x z := fun g w v hv => k g w v (h g w v hv)
theorem BE.le {fr : Fr} {l l' : Fl} {df : List Nat} (h : BE fr ⟨l, df⟩) (k : CE l l') : BE fr ⟨l', df⟩ := ⟨fun t => (h.s t).trans (k.wk t), h.df⟩
theorem B4 {α : Type} {f : α → V} : ([] : List V) = Ar.lst f [] := by rw [Ar.lst_eq]; rfl
theorem C5 {α : Type} {f : α → V} {v : V} {vs : List V} {x : α} {l : List α} (h : v = f x) (k : vs = Ar.lst f l) : v :: vs = Ar.lst f (x :: l) := by
 rw [h, k, Ar.lst_eq, Ar.lst_eq]; rfl
theorem Hx {α : Type} {f : α → V} (l m : List α) : Ar.lst f l ++ Ar.lst f m = Ar.lst f (l ++ m) := by simp [Ar.lst_eq]
theorem I0 {α : Type} {f : α → V} (l : List α) : (Ar.lst f l).length = l.length := by simp [Ar.lst_eq]
theorem Il {α : Type} {f : α → V} {sz : Nat} (h : ∀ x, (f x).cells.length = sz) (l : List α) : (Ar.lst f l).all (fun x => x.cells.length == sz) = true := by
 rw [Ar.lst_eq]; simp [h]
theorem G9.lst0 {α : Type} {f : α → V} : G9 [] (Ar.lst f []) := by rw [← B4]; exact .nil
theorem G9.lstc {α : Type} {f : α → V} {v : V} {vs : List V} {x : α} {l : List α} (h : Z6 v (f x)) (k : G9 vs (Ar.lst f l)) : G9 (v :: vs) (Ar.lst f (x :: l)) := by
 rw [← C5 rfl rfl]; exact .cons h k
theorem Z6.eq {v x y : V} (h : y = x) (k : Z6 v x) : Z6 v y := h ▸ k
theorem Z6.lit {xs ys : List V} (t : D8) (h : xs = ys) : Z6 (.sl xs t) (.sl ys .ro) := h ▸ .ro _ _
section
variable {P : Program} {nt : Nat} {rd : Option Nat} {T : Dt} {E : CU}
variable (hE : E = E7 P nt rd)
include hE
theorem A6 {R : Type} {c : Bool} {x y : Unit → Prop} {a b : Option R} {r : R} (h : (if c = true then a else b) = some r) (h1 : c = true → a = some r → x ()) (h2 : c = false → b = some r → y ()) : E.br c x y := by
 subst hE;refine ⟨fun hc => ?_, fun hc => ?_⟩
 ·rw [if_pos hc] at h; exact h1 hc h
 rw [if_neg (by rw [hc]; simp)] at h; exact h2 hc h
theorem IL {c : Bool} {x y : Unit → Prop} (h1 : c = true → x ()) (h2 : c = false → y ()) : E.br c x y := by subst hE; exact ⟨h1, h2⟩
theorem EE {p : Prop} {k : Unit → Prop} (h : p) (hk : k ()) : E.need p k := by subst hE; exact ⟨h, hk⟩
theorem Hq {R : Type} {b : Bool} {k : Unit → Prop} {F : Unit → Option R} {r : R} (h : (Ea b).bind F = some r) (hk : F () = some r → k ()) : E.needB b k := by
 subst hE;obtain ⟨x, h1, h2⟩ := bind_some h
 unfold Ea at h1
 split at h1
 ·rename_i hb; exact ⟨hb, hk h2⟩
 cases h1
theorem FY {b : Bool} {k : Unit → Prop} (hb : b = true) (hk : k ()) : E.needB b k := by subst hE; exact ⟨hb, hk⟩
theorem Es {op : BinOp} {a b : Int} (h : Dn op a b = true) : Ar.k op a b = true := by rw [Ar.cmp_eq]; exact h
theorem D4 {α : Type} {f : α → V} {l : List α} {k : Int → Prop} (h : k (Ar.len l)) : E.ln (Ar.lst f l) k := by
 subst hE
 show k _
 rw [I0, ← Ar.len_eq]; exact h
theorem XI {xs : List V} {k : Int → Prop} {n : Int} (hn : (xs.length : Int) = n) (h : k n) : E.ln xs k := by
 subst hE; subst hn; exact h
theorem C2 {α R : Type} {f g : α → V} (hf : ∀ x, f x = g x) {l : List α} {i : Int} {k : V → Prop} {F : α → Option R} {r : R} (h : (C6 l i).bind F = some r) (hk : ∀ x, F x = some r → k (g x)) : E.idx (Ar.lst f l) i k := by
 subst hE;obtain ⟨x, h1, h2⟩ := bind_some h
 unfold C6 at h1
 split at h1
 ·rename_i h0
  have hlt : i.toNat < l.length := by
   rcases Nat.lt_or_ge i.toNat l.length with h' | h'
   ·exact h'
   rw [List.getElem?_eq_none h'] at h1; cases h1
  refine ⟨⟨h0, by rw [I0]; omega⟩, ?_⟩;rw [Ar.lst_eq, List.getD_eq_getElem?_getD, List.getElem?_map, h1];simp only [Option.map_some, Option.getD_some];rw [hf]; exact hk x h2
 cases h1
theorem QR {α R : Type} {f : α → V} {sz : Nat} (hsz : ∀ x, (f x).cells.length = sz) {l : List α} {tl : D8} {lo hi mx : Option Int} {k : V → Prop} {F : List α → Option R} {r : R} (h : (V2 l lo hi mx).bind F = some r)
 (hk : ∀ x t, F x = some r → k (.sl (Ar.lst f x) t)) : E.slice sz (Ar.lst f l) tl lo hi mx k := by
 subst hE;obtain ⟨x, h1, h2⟩ := bind_some h
 unfold V2 at h1
 split at h1
 ·rename_i hc;obtain ⟨c1, c2, c3, c4, c5⟩ := hc;cases h1;refine ⟨?_, ?_⟩
  ·rw [I0];exact ⟨c1, c2, c3, c4, c5, .inr (Il hsz l)⟩
  rw [I0, Ar.lst_eq, ← List.map_drop, ← List.map_take];have := hk _ (CM (lo.getD 0).toNat (hi.getD l.length).toNat l.length mx tl) h2
  rwa [Ar.lst_eq] at this
 cases h1
theorem TJ {α R : Type} {f : α → V} {sz : Nat} (hsz : ∀ x, (f x).cells.length = sz) {l : List α} {tl : D8} {lo : Option Int} {k : V → Prop} {F : List α → Option R} {r : R} (h : (V2 l lo none none).bind F = some r)
 (hk : ∀ x t, (t = tl ∨ t = .ro ∧ x = []) → F x = some r → k (.sl (Ar.lst f x) t)) : E.slice sz (Ar.lst f l) tl lo none none k := by
 subst hE;obtain ⟨x, h1, h2⟩ := bind_some h
 unfold V2 at h1
 split at h1
 ·rename_i hc;obtain ⟨c1, c2, c3, c4, c5⟩ := hc;cases h1;refine ⟨?_, ?_⟩
  ·rw [I0];exact ⟨c1, c2, c3, c4, c5, .inr (Il hsz l)⟩
  rw [I0, Ar.lst_eq, ← List.map_drop, ← List.map_take];have := hk _ (CM (lo.getD 0).toNat ((none : Option Int).getD l.length).toNat l.length none tl) ?_ h2
  ·rwa [Ar.lst_eq] at this
  simp only [Option.getD_none] at c2 ⊢
  simp only [CM, Int.toNat_natCast, if_true]
  cases tl with
  | tok t =>
   dsimp only
   split
   ·exact .inl rfl
   exact .inr ⟨rfl, List.eq_nil_of_length_eq_zero (by simp; omega)⟩
  | _ => exact .inl rfl
 cases h1
theorem A7 {R S : Type} {m : Option S} {F : S → Option R} {r : R} {f : FuncId} {args args' : List V} {g : S → V} {H : A0} {k : V → A0 → Prop} (h : m.bind F = some r) (hc : ∀ x, m = some x → B5 P f args' (g x)) (hl : G9 args args')
 (hk : ∀ x, F x = some r → k (g x) H) : E.call (.func (.func f) [] []) args H k := by
 subst hE;obtain ⟨x, h1, h2⟩ := bind_some h
 exact Q6.at (B5.value (F := []) (C := []) (by simpa using (hc x h1).args hl)) (hk x h2)
theorem M9 {R S : Type} {m : Option S} {F : S → Option R} {r : R} {f : FuncId} {args args' : List V} {g : S → V} {H : A0} {k : V → Prop} (h : m.bind F = some r) (hc : ∀ x, m = some x → B5 P f args' (g x)) (hl : G9 args args')
 (hk : ∀ x, F x = some r → k (g x)) : E.pcall H (.func (.func f) [] []) args k := by
 subst hE;obtain ⟨x, h1, h2⟩ := bind_some h;exact ⟨g x, (B5.value (F := []) (C := []) (by simpa using (hc x h1).args hl)).toH H, hk x h2⟩
theorem As {R S : Type} {m : Option S} {F : S → Option R} {r : R} {fv : V} {args args' : List V} {g : S → V} {H : A0} {k : V → A0 → Prop} (h : m.bind F = some r) (hc : ∀ x, m = some x → Q6 P fv args' (g x)) (hl : G9 args args')
 (hk : ∀ x, F x = some r → k (g x) H) : E.call fv args H k := by
 subst hE;obtain ⟨x, h1, h2⟩ := bind_some h
 exact Q6.at ((hc x h1).args hl) (hk x h2)
theorem B1 {Φ : A0 → A0 → Prop} {H0 H : A0} {L : List En} (hO : B3 Φ H0 L H) (i : Nat) {id : Nat} {cs : List V} {k : List V → Prop} (hi : L[i]? = some (.blk id (.cells cs))) (hk : k cs) : E.load H id k := by
 subst hE; exact ⟨cs, hO.get i hi, hk⟩
theorem A8 {Φ : A0 → A0 → Prop} {H0 H : A0} {L : List En} (hO : B3 Φ H0 L H) (i : Nat) {id off sz : Nat} {cs vs : List V} {k : A0 → Prop} (hi : L[i]? = some (.blk id (.cells cs))) (hb : Nat.ble (off + sz) cs.length = true)
 (hk : ∀ H', B3 Φ H0 (L.set i (.blk id (.cells (L8 cs off vs)))) H' → k H') : E.store H id off sz vs k := by
 subst hE;exact ⟨cs, vs, .refl _, hO.get i hi, hb, hk _ (hO.set i hi)⟩
theorem TI {Φ : A0 → A0 → Prop} {H0 H : A0} {L : List En} (hO : B3 Φ H0 L H) (i : Nat) {id off sz : Nat} {cs vs : List V} {k : A0 → Prop} (hi : L[i]? = some (.blk id (.cells cs))) (hb : Nat.ble (off + sz) cs.length = true)
 (hk : ∀ H', B3 Φ H0 (L.set i (.blk id (.cells (L8 cs off vs)))) H' → k H') : E.storeP H id off sz vs k := by
 subst hE;exact ⟨cs, hO.get i hi, hb, hk _ (hO.set i hi)⟩
theorem D1 {Φ : A0 → A0 → Prop} {H0 H : A0} {L : List En} (hO : B3 Φ H0 L H) {cs : List V} {k : Nat → A0 → Prop} (hk : ∀ id H', B3 Φ H0 (.blk id (.cells cs) :: L) H' → k id H') : E.alloc H cs k := by
 subst hE; exact fun id hid => hk id _ (hO.push hid rfl)
theorem TM {Φ : A0 → A0 → Prop} {H0 H : A0} {L : List En} (hO : B3 Φ H0 L H) (i : Nat) {id : Nat} {cs : List V} {k : List V → A0 → Prop} (hi : L[i]? = some (.blk id (.cells cs))) (hk : ∀ H', B3 Φ H0 (L.eraseIdx i) H' → k cs H') : E.frzL H id k := by
 subst hE; exact ⟨cs, cs, hO.get i hi, .refl _, hk _ (hO.del i hi)⟩
theorem MX {Φ : A0 → A0 → Prop} {H0 H : A0} {L : List En} (hO : B3 Φ H0 L H) (i : Nat) {id : Nat} {cs : List V} {k : List V → A0 → Prop} (hi : L[i]? = some (.blk id (.cells cs)))
 (hk : ∀ H', H' = upd H id none → B3 Φ H0 (L.eraseIdx i) H' → k cs H') : E.frz H id k := by
 subst hE; exact ⟨cs, hO.get i hi, hk _ rfl (hO.del i hi)⟩
theorem MY {Φ : A0 → A0 → Prop} {H0 H H1 : A0} {L : List En} (hO : B3 Φ H0 L H) (i : Nat) {id : Nat} {cs cs' : List V} {k : A0 → Prop} (hi : L[i]? = some (.blk id (.cells cs))) (he : H1 = upd H id none)
 (hk : ∀ H', B3 Φ H0 (L.set i (.blk id (.cells cs'))) H' → k H') : E.give H1 id cs' k := by
 subst hE; subst he;refine hk _ ?_
 have e : upd (upd H id none) id (some (.cells cs')) = upd H id (some (.cells cs')) := by
  funext x; by_cases hx : x = id
  ·subst hx; rw [A9, A9]
  rw [A4 _ _ hx, A4 _ _ hx, A4 _ _ hx]
 rw [e];exact hO.set i hi
theorem TO {α R : Type} {g : α → V} {cs : List V} {off sz n : Nat} {l : List α} {i : Int} {k : V → Prop} {F : α → Option R} {r : R} (hcs : cs = l.flatMap fun x => (g x).cells) (hsz : ∀ x, (g x).cells.length = sz) (hn : l.length = n) (ho : off = 0)
 (h : (C6 l i).bind F = some r) (hk : ∀ x, F x = some r → k (.eref (g x).cells 0)) : E.elem cs off sz n i k := by
 subst hE; subst ho;obtain ⟨x, h1, h2⟩ := bind_some h
 unfold C6 at h1
 split at h1
 ·rename_i h0
  have key : ∀ (l : List α) (m : Nat) (x : α), l[m]? = some x → (((l.flatMap fun x => (g x).cells).drop (m * sz)).take sz) = (g x).cells ∧ m < l.length ∧ (l.flatMap fun x => (g x).cells).length = l.length * sz := by
   intro l
   induction l with
   | nil => intro m x h; simp at h
   | cons y l ih =>
    intro m x h
    have hlen : ∀ l : List α, (l.flatMap fun x => (g x).cells).length = l.length * sz := by
     intro l
     induction l with
     | nil => simp
     | cons z l ih => simp only [List.flatMap_cons, List.length_append, hsz, ih, List.length_cons, Nat.add_mul, Nat.one_mul]; omega
    refine ⟨?_, ?_, hlen _⟩
    ·cases m with
     | zero =>
      simp at h; subst h
      simp only [List.flatMap_cons, Nat.zero_mul, List.drop_zero];rw [List.take_append_of_le_length (by rw [hsz]; exact Nat.le_refl _), List.take_of_length_le (by rw [hsz]; exact Nat.le_refl _)]
     | succ m =>
      have := (ih m x (by simpa using h)).1;rw [List.flatMap_cons, show (m + 1) * sz = (g y).cells.length + m * sz by rw [hsz, Nat.add_mul, Nat.one_mul]; omega, List.drop_append, ];rw [List.drop_eq_nil_of_le (by omega), List.nil_append, show (g y).cells.length + m * sz - (g y).cells.length = m * sz by omega];exact this
    rcases Nat.lt_or_ge m (y :: l).length with h' | h'
    ·exact h'
    rw [List.getElem?_eq_none h'] at h; cases h
  obtain ⟨k1, k2, k3⟩ := key l i.toNat x h1;refine ⟨⟨h0, by omega, by rw [hcs, k3, hn]; omega⟩, ?_⟩;rw [hcs, Nat.zero_add, k1];exact hk x h2
 cases h1
theorem V7 {α R : Type} {f : α → V} {sz by_ : Nat} (hsz : ∀ x, (f x).cells.length = sz) (hby : by_ ≤ 131072) {Φ : A0 → A0 → Prop} {H0 H : A0} {L : List En} (hO : B3 Φ H0 L H) (i : Nat) {tl : D8} (hi : L[i]? = some (.tl tl)) (ha : O8 tl)
 {xs ys : List V} {l m : List α} {k : V → A0 → Prop} {F : List α → Option R} {r : R} (hx : G9 xs (Ar.lst f l)) (hy : G9 ys (Ar.lst f m)) (h : (L5 l m).bind F = some r)
 (hk : ∀ x tl' H', B3 Φ H0 (L.set i (.tl tl')) H' → O8 tl' → F x = some r → k (.sl (Ar.lst f x) tl') H') : E.appn sz by_ H tl xs ys k := by
 subst hE;obtain ⟨x, h1, h2⟩ := bind_some h
 unfold L5 at h1
 split at h1
 ·rename_i hc;cases h1;refine ⟨_, _, hx, hy, hO.appOk i hi ha, Il hsz l, Il hsz m, ?_, fun hm => ?_, fun t ht hn => ?_⟩
  ·rw [I0, I0];exact Nat.le_trans (Nat.mul_le_mul hc hby) (by decide)
  ·have hm' : m = [] := by
    have := congrArg List.length hm
    rw [I0] at this
    exact List.eq_nil_of_length_eq_zero (by simpa using this)
   subst hm'
   have := hk _ tl H (by
    have e : L.set i (.tl tl) = L := by
     apply List.ext_getElem?;intro j;rw [List.getElem?_set]
     split
     ·rename_i e; subst e
      split
      ·exact hi.symm
      rename_i hl; rw [List.getElem?_eq_none (by omega)]
     rfl
    rw [e]; exact hO) ha h2
   rwa [List.append_nil] at this
  rw [Hx];exact hk _ _ _ (hO.tok i hi hn) trivial h2
 cases h1
end
section
variable {P : Program} {nt : Nat} {rd : Option Nat} {T : Dt} {E : CU}
abbrev Lf (P : Program) (T : Dt) : Prop := EZ P T ∧ P.follows .mixedOrders = true
theorem K5 (cf : Cf) (hE : E = E7 P nt rd) (hP : Lf P T) {c : Code} {st : St} {H : A0} {K : Exit → St → A0 → Prop} (X : Exit → Fl → A0 → Prop) (hd : E9 cf c = true)
 (h : Tr E T nt cf c st H fun e st' H' => ∃ l, X e l H' ∧ CE st'.l l ∧ st'.df = st.df) (after : ∀ e l H', X e l H' → K e ⟨l, st.df⟩ H') : E.sim c st H K := by
 subst hE;refine (PM hP.1 hP.2 c _ _ _ hd h).mono fun e fr2 H2 ⟨st', hle', l, h3, h1, h2⟩ => ?_;exact ⟨⟨l, st.df⟩, ⟨fun t => (hle'.s t).trans (h1.wk t), hle'.df.trans h2⟩, after _ _ _ h3⟩
theorem F6 (cf : Cf) (hE : E = E7 P nt rd) (hP : Lf P T) {σ R : Type} {step : σ → Option (σ ⊕ R)} {c : Code} {st : St} {H : A0} {K : Exit → St → A0 → Prop} (fm : σ → Fl) (Inv : σ → A0 → Prop) (X : R → Exit → Fl → A0 → Prop) (hd : E9 cf c = true)
 (round : ∀ s H o, Inv s H → step s = some o → run E T nt cf c ⟨fm s, st.df⟩ H fun e st' H' => match e with
  | .normal => ∃ s', o = .inl s' ∧ CE st'.l (fm s') ∧ st'.df = st.df ∧ Inv s' H'
  | e => ∃ x l, o = .inr x ∧ X x e l H' ∧ CE st'.l l ∧ st'.df = st.df)
 {N : Nat} {s0 : σ} {r : R} (h : loopN step N s0 = some r) (hf : CE st.l (fm s0)) (hI : Inv s0 H) (after : ∀ e l H', X r e l H' → K e ⟨l, st.df⟩ H') : E.sim (.loop c) st H K := by
 subst hE;refine O9.loopN (fun n fr' H' => ∃ s, loopN step n s = some r ∧ BE fr' ⟨fm s, st.df⟩ ∧ Inv s H') N ⟨s0, h, ⟨fun t => hf.wk t, rfl⟩, hI⟩ fun n fr' H' ⟨s, hs, hle, hi⟩ => ?_
 cases n with
 | zero => cases hs
 | succ n =>
  simp only [loopN] at hs
  cases ho : step s with
  | none => rw [ho] at hs; cases hs
  | some o =>
   rw [ho] at hs
   refine O9.frLe hle ((G3 hP.1 hP.2 c _ _ _ hd (round s H' o hi ho)).mono fun e fr2 H2 ⟨st', hle', hq⟩ => ?_)
   cases e with
   | normal =>
    obtain ⟨s', h1, h2, h3, h4⟩ := hq;subst h1;exact ⟨n, Nat.lt_succ_self n, s', hs, ⟨fun t => (hle'.s t).trans (h2.wk t), hle'.df.trans h3⟩, h4⟩
   | _ =>
    obtain ⟨x, l, h1, h4, h2, h3⟩ := hq;subst h1;cases hs;exact ⟨⟨l, st.df⟩, ⟨fun t => (hle'.s t).trans (h2.wk t), hle'.df.trans h3⟩, after _ _ _ h4⟩
theorem K1 (cf : Cf) (hE : E = E7 P nt rd) (hP : Lf P T) {σ γ R : Type} {step : σ → Option (σ ⊕ R)} {c : Code} {st : St} {H : A0} {K : Exit → St → A0 → Prop} (fm : σ → γ → Fl) (Inv : σ → γ → A0 → Prop) (X : R → Exit → Fl → A0 → Prop) (hd : E9 cf c = true)
 (round : ∀ s g H o, Inv s g H → step s = some o → run E T nt cf c ⟨fm s g, st.df⟩ H fun e st' H' => match e with
  | .normal => ∃ s' g', o = .inl s' ∧ CE st'.l (fm s' g') ∧ st'.df = st.df ∧ Inv s' g' H'
  | e => ∃ x l, o = .inr x ∧ X x e l H' ∧ CE st'.l l ∧ st'.df = st.df)
 {N : Nat} {s0 : σ} (g0 : γ) {r : R} (h : loopN step N s0 = some r) (hf : CE st.l (fm s0 g0)) (hI : Inv s0 g0 H) (after : ∀ e l H', X r e l H' → K e ⟨l, st.df⟩ H') : E.sim (.loop c) st H K := by
 subst hE;refine O9.loopN (fun n fr' H' => ∃ s g, loopN step n s = some r ∧ BE fr' ⟨fm s g, st.df⟩ ∧ Inv s g H') N ⟨s0, g0, h, ⟨fun t => hf.wk t, rfl⟩, hI⟩ fun n fr' H' ⟨s, g, hs, hle, hi⟩ => ?_
 cases n with
 | zero => cases hs
 | succ n =>
  simp only [loopN] at hs
  cases ho : step s with
  | none => rw [ho] at hs; cases hs
  | some o =>
   rw [ho] at hs
   refine O9.frLe hle ((G3 hP.1 hP.2 c _ _ _ hd (round s g H' o hi ho)).mono fun e fr2 H2 ⟨st', hle', hq⟩ => ?_)
   cases e with
   | normal =>
    obtain ⟨s', g', h1, h2, h3, h4⟩ := hq;subst h1;exact ⟨n, Nat.lt_succ_self n, s', g', hs, ⟨fun t => (hle'.s t).trans (h2.wk t), hle'.df.trans h3⟩, h4⟩
   | _ =>
    obtain ⟨x, l, h1, h4, h2, h3⟩ := hq;subst h1;cases hs;exact ⟨⟨l, st.df⟩, ⟨fun t => (hle'.s t).trans (h2.wk t), hle'.df.trans h3⟩, after _ _ _ h4⟩
theorem Lv {f : FuncId} {fn : Func} {c : Code} {n : Nat} {rs : List ResultVar} {args : List V} {r : V} (cf : Cf) (hP : Lf P T) (hf : P.funcs[f]? = some fn) (hb : fn.body = some c) (hd : E9 cf c = true)
 (hcall : ∀ vals w, (callFunc f vals).run P w = .ok (.enter f vals) w) (hnt : fn.ntmps = n) (hrs : fn.results.toList = rs) (hn : Nat.ble args.length n = true)
 (h : ∀ (E : CU) (H : A0) (K : V → A0 → Prop), E = E7 P n none → (∀ x L H', B3 Eq H L H' → Z6 x r → K x H') → run E T n cf c ⟨Ak args 0, []⟩ H (It E T rs K)) : B5 P f args r := fun H => by
 refine (O7 (K := fun x H' => ∃ y H2, Z6 x y ∧ Ds H2 H' ∧ y = r ∧ H2 = H) cf hP.1 hP.2 hf hb hd hcall hnt hrs hn fun E hE => ?_).le;exact h E H _ hE fun x L H' hO hx => ⟨r, H, hx, hO.ext, rfl, rfl⟩
end
end Go.Ab
namespace Go.Ab
open Go.RowKit
variable [H5] [Ar]
abbrev DB : AI := .obj (.deferred (some []))
section
variable {P : Program} {nt : Nat} {rd : Option Nat} {T : Dt} {E : CU}
theorem Bp (hE : E = E7 P nt rd) {Φ : A0 → A0 → Prop} {H0 H : A0} {L : List En} (hO : B3 Φ H0 L H) (i : Nat) {d : Nat} {k : A0 → Prop} (hi : L[i]? = some (.blk d DB)) (hk : ∀ H', B3 Φ H0 (L.eraseIdx i) H' → k H') : E.fin [d] H k := by
 subst hE;have hd := hO.get i hi;refine ⟨⟨by simp, fun id hid => ?_⟩, ?_⟩
 ·simp at hid; subst hid; exact hd
 have e : clear H [d] = upd H d none := by
  funext x; simp only [clear, upd, List.mem_singleton]
 rw [e]; exact hk _ (hO.del i hi)
def CH (P : Program) (f : FuncId) (args : List V) (Q : V → Prop) : Prop := ∀ H, E8 P f args H fun x H' => Q x ∧ H' = H
theorem CH.args {f : FuncId} {xs ys : List V} {Q : V → Prop} (h : CH P f ys Q) (k : G9 xs ys) : CH P f xs Q := fun H => (h H).args k
theorem B5.q {f : FuncId} {args : List V} {r : V} {Q : V → Prop} (h : B5 P f args r) (hq : Q r) : CH P f args Q := fun H => (h H).mono fun x H' ⟨e1, e2⟩ => ⟨e1 ▸ hq, e2⟩
theorem R5 (hE : E = E7 P nt rd) {R S : Type} {m : Option S} {F : S → Option R} {r : R} {f : FuncId} {args args' : List V} {Q : S → V → Prop} {H : A0} {k : V → A0 → Prop} (h : m.bind F = some r) (hc : ∀ x, m = some x → CH P f args' (Q x)) (hl : G9 args args')
 (hk : ∀ x v, Q x v → F x = some r → k v H) : E.call (.func (.func f) [] []) args H k := by
 subst hE;obtain ⟨x, h1, h2⟩ := bind_some h
 have h3 : E8 P f args H k := ((hc x h1).args hl H).mono fun v H' ⟨hq, hH⟩ => by subst hH; exact hk x v hq h2
 exact E8.value (F := []) (C := []) (by simpa using h3)
theorem O6 {f : FuncId} {fn : Func} {c : Code} {n : Nat} {rs : List ResultVar} {args : List V} {Q : V → Prop} (cf : Cf) (hP : Lf P T) (hf : P.funcs[f]? = some fn) (hb : fn.body = some c) (hd : E9 cf c = true)
 (hcall : ∀ vals w, (callFunc f vals).run P w = .ok (.enter f vals) w) (hnt : fn.ntmps = n) (hrs : fn.results.toList = rs) (hn : Nat.ble args.length n = true)
 (h : ∀ (E : CU) (H : A0) (K : V → A0 → Prop), E = E7 P n none → (∀ x L H', B3 Eq H L H' → Q x → K x H') → run E T n cf c ⟨Ak args 0, []⟩ H (It E T rs K)) : CH P f args Q := fun H => by
 refine (O7 (K := fun x H' => ∃ y H2, Z6 x y ∧ Ds H2 H' ∧ Q y ∧ H2 = H) cf hP.1 hP.2 hf hb hd hcall hnt hrs hn fun E hE => ?_).le;exact h E H _ hE fun x L H' hO hx => ⟨x, H, .refl _, hO.ext, hx, rfl⟩
def Ol : List Nat → List V → Fl → Fl
 | p :: ps, x :: xs, l => Ol ps xs ((p, .v x) :: l)
 | _, _, l => l
theorem MU : ∀ (ps : List Nat) (xs : List V) (l : Fl) (t : Nat), CZ (fun t => Z4 l t) ps xs t = Z4 (Ol ps xs l) t
 | [], xs, l, t => by cases xs <;> rfl
 | p :: ps, [], l, t => rfl
 | p :: ps, x :: xs, l, t => by
  simp only [CZ, Ol];rw [← MU ps xs]
  congr 1
  funext q
  rw [QY]; rfl
def TZ : Exit → Option Code
 | .ret => some .ret
 | .exit k => some (.exit k)
 | _ => none
variable {α σ R ι : Type}
def RgI (enc : α → List V) (step : σ → α → Option (σ ⊕ R)) (o : σ ⊕ R) (Inv : σ → A0 → A0 → Prop) (l : List (List V)) (F H : A0) : Prop :=
 ∃ q : σ × List α, (l = q.2.map enc ∧ D0 step q.2 q.1 = some o) ∧ Inv q.1 F H
def RgD (o : σ ⊕ R) (X : R → Exit → A0 → A0 → Prop) (c : Code) (F H : A0) : Prop := ∃ q : R × Exit, (o = .inr q.1 ∧ TZ q.2 = some c) ∧ X q.1 q.2 F H
def RgJ (enc : α → List V) (step : σ → α → Option (σ ⊕ R)) (o : σ ⊕ R) (fJ : ι → σ → α → Fl) (J : ι → σ → α → A0 → A0 → Prop) (x : List V) (l : List (List V)) (fr : Fr) (F H : A0) : Prop :=
 ∃ q : ι × σ × α × List α, (x = enc q.2.2.1 ∧ l = q.2.2.2.map enc ∧ D0 step (q.2.2.1 :: q.2.2.2) q.2.1 = some o ∧ BE fr ⟨fJ q.1 q.2.1 q.2.2.1, []⟩) ∧ J q.1 q.2.1 q.2.2.1 F H
section
variable {enc : α → List V} {step : σ → α → Option (σ ⊕ R)} {g : Operand} {ps : Array Tmp} {asg body : Code} {st : St} {H : A0} {K : Exit → St → A0 → Prop}
 {xs : List α} {s0 : σ} {o : σ ⊕ R}
theorem RV (cf : Cf) (hP : Lf P T) {Inv : σ → A0 → A0 → Prop} {fJ : ι → σ → α → Fl} {J : ι → σ → α → A0 → A0 → Prop} (hda : E9 cf asg = true)
 (asgP : ∀ (E' : CU) (id : Nat) y s F H, E' = E7 P nt (some id) → Inv s F H → run E' T nt cf asg ⟨Ol ps.toList (enc y) st.l, []⟩ H fun e st' H' => match e with | .normal => ∃ i, J i s y F H' ∧ CE st'.l (fJ i s y) ∧ st'.df = [] | _ => False) :
 ∀ (id : Nat) (L : Wh) x l F H, RgI enc step o Inv (x :: l) F H → F id = some (.loop L) → x.length = ps.size → O9 P nt (some id) asg ⟨CZ (E3 st).s ps.toList x, []⟩ H fun e fr' H1 => e = .normal ∧ RgJ enc step o fJ J x l fr' F H1 := by
 intro id L x l F H ⟨⟨s, ys⟩, ⟨hl, hr⟩, hi⟩ _ _
 cases ys with
 | nil => cases hl
 | cons y ys =>
  simp only [List.map_cons, List.cons.injEq] at hl
  obtain ⟨rfl, rfl⟩ := hl
  have e : (⟨CZ (E3 st).s ps.toList (enc y), []⟩ : Fr) = E3 ⟨Ol ps.toList (enc y) st.l, []⟩ := by
   simp only [E3, Fr.mk.injEq, and_true]
   funext t
   exact MU _ _ _ _
  rw [e];refine (G3 hP.1 hP.2 asg _ _ _ hda (asgP _ id y s F H rfl hi)).mono fun e fr' H1 ⟨st', hle, hq⟩ => ?_
  cases e with
  | normal =>
   obtain ⟨i, hj, hl, hdf⟩ := hq;exact ⟨rfl, ⟨i, s, y, ys⟩, ⟨rfl, rfl, hr, fun t => (hle.s t).trans (hl.wk t), hle.df.trans hdf⟩, hj⟩
  | _ => exact hq.elim
theorem Ts (cf : Cf) (hP : Lf P T) {Inv : σ → A0 → A0 → Prop} {X : R → Exit → A0 → A0 → Prop} {fJ : ι → σ → α → Fl} {J : ι → σ → α → A0 → A0 → Prop} (hdb : E9 cf body = true)
 (bodyP : ∀ (E' : CU) (id : Nat) i y s F H o', E' = E7 P nt (some id) → (∃ L, F id = some (.loop L)) → step s y = some o' → J i s y F H → run E' T nt cf body ⟨fJ i s y, []⟩ H fun e _ H' => match e with
  | .normal => ∃ s', o' = .inl s' ∧ Inv s' F H'
  | e => ∃ r, o' = .inr r ∧ (TZ e).isSome = true ∧ X r e F H') :
 ∀ (id : Nat) (L : Wh) x l fr' F H, RgJ enc step o fJ J x l fr' F H → F id = some (.loop L) → O9 P nt (some id) body fr' H fun e _ H' => ON (RgI enc step o Inv l) (RgD o X) F e H' := by
 intro id L x l fr' F H ⟨⟨i, s, y, ys⟩, ⟨hx, hl, hr, hf⟩, hj⟩ hL;subst hx; subst hl
 simp only [D0] at hr
 cases ho : step s y with
 | none => rw [ho] at hr; cases hr
 | some o' =>
  rw [ho] at hr
  refine O9.frLe hf ((G3 hP.1 hP.2 body _ _ _ hdb (bodyP _ id i y s F H o' rfl ⟨L, hL⟩ ho hj)).mono fun e fr2 H2 ⟨st', hle, hq⟩ => ?_)
  cases e with
  | normal =>
   obtain ⟨s', h1, h2⟩ := hq;subst h1;exact ⟨⟨s', ys⟩, ⟨rfl, hr⟩, h2⟩
  | ret =>
   obtain ⟨r, h1, h2, h3⟩ := hq;subst h1;exact ⟨⟨r, .ret⟩, ⟨by cases hr; rfl, rfl⟩, h3⟩
  | exit k =>
   obtain ⟨r, h1, h2, h3⟩ := hq;subst h1;exact ⟨⟨r, .exit k⟩, ⟨by cases hr; rfl, rfl⟩, h3⟩
  | _ =>
   obtain ⟨r, h1, h2, h3⟩ := hq;cases h2
theorem AU (cf : Cf) (hE : E = E7 P nt none) (hP : Lf P T) (Inv : σ → A0 → A0 → Prop) (X : R → Exit → A0 → A0 → Prop) (fJ : ι → σ → α → Fl) (J : ι → σ → α → A0 → A0 → Prop)
 (hI : ∀ s, C7 (Inv s)) (hX : ∀ r e, C7 (X r e)) (hJ : ∀ i s y, C7 (J i s y)) (hit : DE P ((K6 [] st.l g).V) (xs.map enc)) (h : D0 step xs s0 = some o) {F : A0} (h0 : Inv s0 F H)
 (hnt : ∀ p ∈ ps, p < nt) (hps : ∀ x, (enc x).length = ps.size) (hda : E9 cf asg = true) (hdb : E9 cf body = true)
 (asgP : ∀ (E' : CU) (id : Nat) y s F H, E' = E7 P nt (some id) → Inv s F H → run E' T nt cf asg ⟨Ol ps.toList (enc y) st.l, []⟩ H fun e st' H' => match e with | .normal => ∃ i, J i s y F H' ∧ CE st'.l (fJ i s y) ∧ st'.df = [] | _ => False)
 (bodyP : ∀ (E' : CU) (id : Nat) i y s F H o', E' = E7 P nt (some id) → (∃ L, F id = some (.loop L)) → step s y = some o' → J i s y F H → run E' T nt cf body ⟨fJ i s y, []⟩ H fun e _ H' => match e with
  | .normal => ∃ s', o' = .inl s' ∧ Inv s' F H'
  | e => ∃ r, o' = .inr r ∧ (TZ e).isSome = true ∧ X r e F H')
 (done : ∀ d s H', o = .inl s → F d = none → Inv s (upd F d (some DB)) H' → K .normal ⟨st.l, d :: st.df⟩ H')
 (stop : ∀ d r e H', o = .inr r → F d = none → X r e (upd F d (some DB)) H' → K e ⟨st.l, d :: st.df⟩ H') : E.sim (.rangeFunc g ps asg body) st H K := by
 subst hE;have hev : ev (E3 st) g = (K6 [] st.l g).V := (Bt (df := st.df) Fa.nil g).symm
 rw [← hev] at hit
 have sI : ∀ l, C7 (RgI enc step o Inv l) := fun l => C7.ex fun q => hI q.1;have sD : ∀ c, C7 (RgD o X c) := fun c => C7.ex fun q => hX q.1 q.2;have sJ : ∀ x l fr, C7 (RgJ enc step o fJ J x l fr) := fun x l fr => C7.ex fun q => hJ q.1 q.2.1 q.2.2.1;refine O9.rangeOuter (nt := nt) hnt (fun x hx => ?_) hit (RgI enc step o Inv) (RgD o X) sI sD (RgJ enc step o fJ J) sJ ⟨⟨s0, xs⟩, ⟨rfl, h⟩, h0⟩ (RV cf hP hda asgP) (Ts cf hP hdb bodyP) (fun d H' hd ⟨⟨s, ys⟩, ⟨hl, hr⟩, hi⟩ => ?_) fun c d H' hd ⟨⟨r, e⟩, ⟨ho, hj⟩, hx⟩ => ?_
 ·obtain ⟨y, _, rfl⟩ := List.mem_map.1 hx;exact hps y
 ·have hys : ys = [] := by
   cases ys with
   | nil => rfl
   | cons _ _ => cases hl
  subst hys;cases hr;exact ⟨⟨st.l, d :: st.df⟩, ⟨fun t => Wk.refl _, rfl⟩, done d s H' rfl hd hi⟩
 have hk := stop d r e H' ho hd hx
 cases e with
 | ret => cases hj; exact O9.ret ⟨⟨st.l, d :: st.df⟩, ⟨fun t => Wk.refl _, rfl⟩, hk⟩
 | exit k => cases hj; exact O9.exit ⟨⟨st.l, d :: st.df⟩, ⟨fun t => Wk.refl _, rfl⟩, hk⟩
 | _ => cases hj
end
end
theorem B3.dblk {Φ : A0 → A0 → Prop} {H0 H : A0} {L : List En} {d : Nat} (hd : H0 d = none) (h : B3 Φ (upd H0 d (some DB)) L H) : B3 Φ H0 (L ++ [.blk d DB]) H := by
 obtain ⟨hs, F', H1, h0, h1, h2⟩ := h;refine ⟨hs, F', H1, ⟨fun x b hx => h0.ext x b ?_, fun i e x b hi he => ?_, fun i j e e' x b b' hi hj he he' => ?_, fun x b hx => ?_⟩, h1, h2⟩
 rotate_right
 ·rcases h0.only x b hx with h | ⟨i, e, hi, he⟩
  ·by_cases hxd : x = d
   ·subst hxd; rw [A9] at h; cases h; exact .inr ⟨L.length, .blk x DB, by simp, rfl⟩
   rw [A4 _ _ hxd] at h; exact .inl h
  refine .inr ⟨i, e, ?_, he⟩
  rcases Nat.lt_or_ge i L.length with hlt | hge
  ·rw [List.getElem?_append_left hlt]; exact hi
  rw [List.getElem?_eq_none hge] at hi; cases hi
 ·rw [A4 _ _ (M3 hd hx)]; exact hx
 ·rcases Nat.lt_or_ge i L.length with hlt | hge
  ·rw [List.getElem?_append_left hlt] at hi
   have := h0.has i e x b hi he;refine ⟨?_, this.2⟩
   have hne : x ≠ d := fun eq => by subst eq; rw [A9] at this; cases this.1
   rw [A4 _ _ hne] at this; exact this.1
  rw [List.getElem?_append_right hge] at hi
  cases hm : i - L.length with
  | zero => rw [hm] at hi; simp at hi; subst hi; cases he; exact ⟨hd, h0.ext _ _ (A9 _ _ _)⟩
  | succ m => rw [hm] at hi; simp at hi
 have hDB : ∀ (i : Nat) e, (L ++ [.blk d DB])[i]? = some e → (i < L.length ∧ L[i]? = some e) ∨ (i = L.length ∧ e = .blk d DB) := fun i e hi => by
  rcases Nat.lt_or_ge i L.length with hlt | hge
  ·rw [List.getElem?_append_left hlt] at hi; exact .inl ⟨hlt, hi⟩
  rw [List.getElem?_append_right hge] at hi
  cases hm : i - L.length with
  | zero => rw [hm] at hi; simp at hi; exact .inr ⟨by omega, hi.symm⟩
  | succ m => rw [hm] at hi; simp at hi
 have nd : ∀ (i : Nat) e x b, L[i]? = some e → e.id = some (x, b) → x ≠ d := fun m e x b hm he eq => by
  have := (h0.has m e x b hm he).1
  rw [eq, A9] at this; cases this
 rcases hDB i e hi with ⟨_, ki⟩ | ⟨ki, rfl⟩ <;> rcases hDB j e' hj with ⟨_, kj⟩ | ⟨kj, rfl⟩
 ·exact h0.inj i j e e' x b b' ki kj he he'
 ·cases he'; exact absurd rfl (nd i e _ b ki he)
 ·cases he; exact absurd rfl (nd j e' _ b' kj he')
 rw [ki, kj]
end Go.Ab
namespace Go.Ab
open Go.RowKit
variable [H5] [Ar]
def Jx (P : Program) (yv : V) (I : List (List V) → A0 → A0 → Prop) (D : A0 → A0 → Prop) : Prop :=
 (yv.one = true ∧ yv.cells = [yv]) ∧ ∀ x l F H, I (x :: l) F H → AD P yv x H fun r H' => (r = .bool true ∧ I l F H') ∨ (r = .bool false ∧ D F H')
def Et (P : Program) (f : FuncId) (args : V → List V) (xs : List (List V)) (rb : V → Bool → Prop) : Prop :=
 ∀ yv I D, (∀ l, C7 (I l)) → C7 D → Jx P yv I D → ∀ tl F H, I (xs ++ tl) F H → E8 P f (args yv) H fun v H' => (rb v true ∧ I tl F H') ∨ (rb v false ∧ D F H')
def rbB (v : V) (b : Bool) : Prop := v = .bool b
def Vd (_ : V) (_ : Bool) : Prop := True
section
variable {P : Program} {nt : Nat} {rd : Option Nat} {T : Dt} {E : CU} {I : List (List V) → A0 → A0 → Prop} {D : A0 → A0 → Prop}
theorem AD.heap {fv : V} {args : List V} {H H1 : A0} {K : V → A0 → Prop} (h : AD P fv args H1 K) (hl : Ds H1 H) : AD P fv args H K :=
 fun g w v vals hR hv hA => h g w v vals (hR.less hl) hv hA
theorem E8.heap {f : FuncId} {args : List V} {H H1 : A0} {K : V → A0 → Prop} (h : E8 P f args H1 K) (hl : Ds H1 H) : E8 P f args H K :=
 fun g w vals hR hA => h g w vals (hR.less hl) hA
theorem AT (hE : E = E7 P nt rd) (hI : ∀ l, C7 (I l)) (hD : C7 D) {yv : V} (hy : Jx P yv I D) {F H : A0} {L : List En} {args x : List V} {l : List (List V)} {k : V → A0 → Prop} (hO : B3 (I (x :: l)) F L H) (hl : G9 args x)
 (h1 : ∀ H', B3 (I l) F L H' → k (.bool true) H') (h2 : ∀ H', B3 D F L H' → k (.bool false) H') : E.call yv args H k := by
 subst hE;obtain ⟨hs, F', H1, h0, hi, hle⟩ := hO;refine (AD.mono (((hy.2 x l F' H1 hi).heap hle).args hl) fun r H' hr => ?_)
 rcases hr with ⟨rfl, hr⟩ | ⟨rfl, hr⟩
 ·exact h1 H' ⟨hI l, F', H', h0, hr, Ds.refl _⟩
 exact h2 H' ⟨hD, F', H', h0, hr, Ds.refl _⟩
theorem TN (hE : E = E7 P nt rd) (hI : ∀ l, C7 (I l)) (hD : C7 D) {yv : V} (hy : Jx P yv I D) {f : FuncId} {args' : V → List V} {xs tl : List (List V)} {rb : V → Bool → Prop} (hc : Et P f args' xs rb) {F H : A0} {L : List En} {args : List V} {k : V → A0 → Prop} (hO : B3 (I (xs ++ tl)) F L H)
 (hl : G9 args (args' yv)) (h1 : ∀ v H', rb v true → B3 (I tl) F L H' → k v H') (h2 : ∀ v H', rb v false → B3 D F L H' → k v H') : E.call (.func (.func f) [] []) args H k := by
 subst hE;obtain ⟨hs, F', H1, h0, hi, hle⟩ := hO
 have h3 : E8 P f args H k := (((hc yv I D hI hD hy tl F' H1 hi).heap hle).args hl).mono fun v H' hr => by
  rcases hr with ⟨hb, hr⟩ | ⟨hb, hr⟩
  ·exact h1 v H' hb ⟨hI tl, F', H', h0, hr, Ds.refl _⟩
  exact h2 v H' hb ⟨hD, F', H', h0, hr, Ds.refl _⟩
 exact E8.value (F := []) (C := []) (by simpa using h3)
theorem Fu (hE : E = E7 P nt rd) {c : Bool} {x y : Unit → Prop} (hc : c = true) (h : x ()) : E.br c x y := by subst hE; exact ⟨fun _ => h, fun e => by rw [hc] at e; cases e⟩
theorem Fv (hE : E = E7 P nt rd) {c : Bool} {x y : Unit → Prop} (hc : c = false) (h : y ()) : E.br c x y := by subst hE; exact ⟨fun e => (by rw [hc] at e; cases e), fun _ => h⟩
theorem L7 {f : FuncId} {fn : Func} {c : Code} {n : Nat} {rs : List ResultVar} {args : V → List V} {xs : List (List V)} {rb : V → Bool → Prop} (cf : Cf) (hP : Lf P T) (hf : P.funcs[f]? = some fn) (hb : fn.body = some c) (hd : E9 cf c = true)
 (hcall : ∀ vals w, (callFunc f vals).run P w = .ok (.enter f vals) w) (hnt : fn.ntmps = n) (hrs : fn.results.toList = rs) (hn : ∀ yv, Nat.ble (args yv).length n = true)
 (h : ∀ (yv : V) (I : List (List V) → A0 → A0 → Prop) (D : A0 → A0 → Prop), (∀ l, C7 (I l)) → C7 D → Jx P yv I D → ∀ (tl : List (List V)) (F : A0) (E : CU) (H : A0) (K : V → A0 → Prop), E = E7 P n none → B3 (I (xs ++ tl)) F [] H →
  (∀ x L H', B3 (I tl) F L H' → rb x true → K x H') → (∀ x L H', B3 D F L H' → rb x false → K x H') → run E T n cf c ⟨Ak (args yv) 0, []⟩ H (It E T rs K)) : Et P f args xs rb := by
 intro yv I D hI hD hy tl F H hi;refine (O7 (K := fun x H' => ∃ y H2, Z6 x y ∧ Ds H2 H' ∧ ((rb y true ∧ I tl F H2) ∨ (rb y false ∧ D F H2))) cf hP.1 hP.2 hf hb hd hcall hnt hrs (hn yv) fun E hE => ?_).le;refine h yv I D hI hD hy tl F E H _ hE (B3.start (hI _) hi) (fun x L H' hO hx => ?_) fun x L H' hO hx => ?_
 ·obtain ⟨H2, h1, h2⟩ := hO.out;exact ⟨x, H2, .refl _, h2, .inl ⟨hx, h1⟩⟩
 obtain ⟨H2, h1, h2⟩ := hO.out;exact ⟨x, H2, .refl _, h2, .inr ⟨hx, h1⟩⟩
theorem O4 {f : FuncId} {C : List V} {xs : List (List V)} {rb : V → Bool → Prop} (hcall : ∀ vals w, (callFunc f vals).run P w = .ok (.enter f vals) w) (h : Et P f (fun yv => yv :: C) xs rb) : DE P (.func (.func f) [] C) xs :=
 ⟨f, C, rfl, hcall, fun yv I D hI hD hy F H hi => (h yv I D hI hD hy [] F H (by rwa [List.append_nil])).mono fun v H' hr => hr.imp (fun h => h.2) fun h => h.2⟩
theorem B3.cast {Φ : A0 → A0 → Prop} {H0 H : A0} {L L' : List En} (h : B3 Φ H0 L H) (e : L = L') : B3 Φ H0 L' H := e ▸ h
noncomputable def BR (ds : List Nat) : List En := List.rec (motive := fun _ => List En) [] (fun d _ l => l ++ [.blk d DB]) ds
theorem OU (d : Nat) (ds : List Nat) : BR (d :: ds) = BR ds ++ [.blk d DB] := rfl
theorem B3.dbs1 {Φ : A0 → A0 → Prop} {H0 H : A0} {A : List En} {d : Nat} {ds : List Nat} (h : B3 Φ H0 ((A ++ BR ds) ++ [.blk d DB]) H) : B3 Φ H0 (A ++ BR (d :: ds)) H := by
 rw [OU, ← List.append_assoc]; exact h
theorem VT {Φ : A0 → A0 → Prop} {H0 : A0} {A : List En} : ∀ {ds : List Nat} {H : A0}, B3 Φ H0 (A ++ BR ds) H → ds.Nodup ∧ (∀ id, id ∈ ds → H id = some DB) ∧ B3 Φ H0 A (clear H ds) := by
 intro ds
 induction ds with
 | nil =>
  intro H h
  have e : clear H [] = H := by funext x; simp [clear]
  rw [e];exact ⟨List.nodup_nil, by simp, by simpa [BR] using h⟩
 | cons d ds ih =>
  intro H h
  rw [OU, ← List.append_assoc] at h
  have hi : ((A ++ BR ds) ++ [En.blk d DB])[(A ++ BR ds).length]? = some (.blk d DB) := by simp
  have hd := h.get _ hi;have h1 := h.del _ hi
  have e : ((A ++ BR ds) ++ [En.blk d DB]).eraseIdx (A ++ BR ds).length = A ++ BR ds := by
   rw [List.eraseIdx_append_of_length_le (Nat.le_refl _)]; simp
  rw [e] at h1
  obtain ⟨a1, a2, a3⟩ := ih h1;refine ⟨List.nodup_cons.2 ⟨fun hm => ?_, a1⟩, fun id hid => ?_, ?_⟩
  ·have := a2 d hm; rw [A9] at this; cases this
  ·rcases List.mem_cons.1 hid with rfl | hid
   ·exact hd
   have := a2 id hid
   by_cases hx : id = d
   ·subst hx; exact hd
   rwa [A4 _ _ hx] at this
  have e2 : clear (upd H d none) ds = clear H (d :: ds) := by
   funext x
   simp only [clear, upd, List.mem_cons]
   by_cases h1 : x ∈ ds <;> by_cases h2 : x = d <;> simp [h1, h2]
  rwa [e2] at a3
theorem GK (hE : E = E7 P nt rd) {Φ : A0 → A0 → Prop} {H0 H : A0} {A : List En} {ds : List Nat} (hO : B3 Φ H0 (A ++ BR ds) H) {k : A0 → Prop} (hk : ∀ H', B3 Φ H0 A H' → k H') : E.fin ds H k := by
 subst hE;obtain ⟨a1, a2, a3⟩ := VT hO;exact ⟨⟨a1, a2⟩, hk _ a3⟩
theorem TL (cf : Cf) (hE : E = E7 P nt rd) (hP : Lf P T) {β σ γ R : Type} {step : σ → Option (List β × (σ ⊕ R))} {c : Code} {st : St} {H : A0} {K : Exit → St → A0 → Prop} (fm : σ → γ → Fl) (Inv : σ → γ → List Nat → List β → A0 → Prop) (X : R → Exit → Fl → List Nat → List β → A0 → Prop) (Xa : Exit → Fl → List Nat → A0 → Prop) (hd : E9 cf c = true)
 (round : ∀ s g ds w1 w2 H o, Inv s g ds (w1 ++ w2) H → step s = some (w1, o) → run E T nt cf c ⟨fm s g, ds⟩ H fun e st' H' => match e with
  | .normal => ∃ s' g' ds', o = .inl s' ∧ CE st'.l (fm s' g') ∧ st'.df = ds' ∧ Inv s' g' ds' w2 H'
  | e => (∃ x l ds', o = .inr x ∧ X x e l ds' w2 H' ∧ CE st'.l l ∧ st'.df = ds') ∨ ∃ l ds', Xa e l ds' H' ∧ CE st'.l l ∧ st'.df = ds')
 {N : Nat} {s0 : σ} (g0 : γ) {w w' : List β} {r : R} (h : Ag step N s0 = some (w, r)) (hdf : st.df = []) (hf : CE st.l (fm s0 g0)) (hI : Inv s0 g0 [] (w ++ w') H) (after : ∀ e l ds H', X r e l ds w' H' → K e ⟨l, ds⟩ H') (afterA : ∀ e l ds H', Xa e l ds H' → K e ⟨l, ds⟩ H') : E.sim (.loop c) st H K := by
 subst hE;refine O9.loopN (fun n fr' H' => ∃ s g ds w, Ag step n s = some (w, r) ∧ BE fr' ⟨fm s g, ds⟩ ∧ Inv s g ds (w ++ w') H') N ⟨s0, g0, [], w, h, ⟨fun t => hf.wk t, hdf⟩, hI⟩ fun n fr' H' ⟨s, g, ds, w, hs, hle, hi⟩ => ?_
 cases n with
 | zero => cases hs
 | succ n =>
  simp only [Ag] at hs
  cases ho : step s with
  | none => rw [ho] at hs; cases hs
  | some p =>
   obtain ⟨w1, o⟩ := p
   rw [ho] at hs
   obtain ⟨w2, hw, hrest⟩ : ∃ w2, w = w1 ++ w2 ∧ match o with | .inl s' => Ag step n s' = some (w2, r) | .inr x => x = r ∧ w2 = [] := by
    cases o with
    | inl s' =>
     simp only at hs
     split at hs
     ·cases hs
     rename_i w2 x hx;cases hs;exact ⟨w2, rfl, hx⟩
    | inr x => cases hs; exact ⟨[], by simp, rfl, rfl⟩
   subst hw
   rw [List.append_assoc] at hi
   refine O9.frLe hle ((G3 hP.1 hP.2 c _ _ _ hd (round s g ds w1 (w2 ++ w') H' o hi ho)).mono fun e fr2 H2 ⟨st', hle', hq⟩ => ?_)
   have exits : ∀ e, ((∃ x l ds', o = .inr x ∧ X x e l ds' (w2 ++ w') H2 ∧ CE st'.l l ∧ st'.df = ds') ∨ ∃ l ds', Xa e l ds' H2 ∧ CE st'.l l ∧ st'.df = ds') → ∃ st'', BE fr2 st'' ∧ K e st'' H2 := by
    intro e hq
    rcases hq with ⟨x, l, ds', h1, h4, h2, h3⟩ | ⟨l, ds', h4, h2, h3⟩
    ·subst h1;obtain ⟨rfl, rfl⟩ := hrest;exact ⟨⟨l, ds'⟩, ⟨fun t => (hle'.s t).trans (h2.wk t), hle'.df.trans h3⟩, after _ _ _ _ h4⟩
    exact ⟨⟨l, ds'⟩, ⟨fun t => (hle'.s t).trans (h2.wk t), hle'.df.trans h3⟩, afterA _ _ _ _ h4⟩
   cases e with
   | normal =>
    obtain ⟨s', g', ds', h1, h2, h3, h4⟩ := hq;subst h1;exact ⟨n, Nat.lt_succ_self n, s', g', ds', w2, hrest, ⟨fun t => (hle'.s t).trans (h2.wk t), hle'.df.trans h3⟩, h4⟩
   | _ => exact exits _ hq
theorem FZ (cf : Cf) (hE : E = E7 P nt rd) (hP : Lf P T) {β σ γ R : Type} {step : σ → Option (List β × (σ ⊕ R))} {c : Code} {st : St} {H : A0} {K : Exit → St → A0 → Prop} (fm : σ → γ → Fl) (Inv : σ → γ → List β → A0 → Prop) (X : R → Exit → Fl → List β → A0 → Prop) (Xa : Exit → Fl → A0 → Prop) (hd : E9 cf c = true)
 (round : ∀ s g w1 w2 H o, Inv s g (w1 ++ w2) H → step s = some (w1, o) → run E T nt cf c ⟨fm s g, st.df⟩ H fun e st' H' => match e with
  | .normal => ∃ s' g', o = .inl s' ∧ CE st'.l (fm s' g') ∧ st'.df = st.df ∧ Inv s' g' w2 H'
  | e => (∃ x l, o = .inr x ∧ X x e l w2 H' ∧ CE st'.l l ∧ st'.df = st.df) ∨ ∃ l, Xa e l H' ∧ CE st'.l l ∧ st'.df = st.df)
 {N : Nat} {s0 : σ} (g0 : γ) {w w' : List β} {r : R} (h : Ag step N s0 = some (w, r)) (hf : CE st.l (fm s0 g0)) (hI : Inv s0 g0 (w ++ w') H) (after : ∀ e l H', X r e l w' H' → K e ⟨l, st.df⟩ H') (afterA : ∀ e l H', Xa e l H' → K e ⟨l, st.df⟩ H') : E.sim (.loop c) st H K := by
 subst hE;refine O9.loopN (fun n fr' H' => ∃ s g w, Ag step n s = some (w, r) ∧ BE fr' ⟨fm s g, st.df⟩ ∧ Inv s g (w ++ w') H') N ⟨s0, g0, w, h, ⟨fun t => hf.wk t, rfl⟩, hI⟩ fun n fr' H' ⟨s, g, w, hs, hle, hi⟩ => ?_
 cases n with
 | zero => cases hs
 | succ n =>
  simp only [Ag] at hs
  cases ho : step s with
  | none => rw [ho] at hs; cases hs
  | some p =>
   obtain ⟨w1, o⟩ := p
   rw [ho] at hs
   obtain ⟨w2, hw, hrest⟩ : ∃ w2, w = w1 ++ w2 ∧ match o with | .inl s' => Ag step n s' = some (w2, r) | .inr x => x = r ∧ w2 = [] := by
    cases o with
    | inl s' =>
     simp only at hs
     split at hs
     ·cases hs
     rename_i w2 x hx;cases hs;exact ⟨w2, rfl, hx⟩
    | inr x => cases hs; exact ⟨[], by simp, rfl, rfl⟩
   subst hw
   rw [List.append_assoc] at hi
   refine O9.frLe hle ((G3 hP.1 hP.2 c _ _ _ hd (round s g w1 (w2 ++ w') H' o hi ho)).mono fun e fr2 H2 ⟨st', hle', hq⟩ => ?_)
   have exits : ∀ e, ((∃ x l, o = .inr x ∧ X x e l (w2 ++ w') H2 ∧ CE st'.l l ∧ st'.df = st.df) ∨ ∃ l, Xa e l H2 ∧ CE st'.l l ∧ st'.df = st.df) → ∃ st'', BE fr2 st'' ∧ K e st'' H2 := by
    intro e hq
    rcases hq with ⟨x, l, h1, h4, h2, h3⟩ | ⟨l, h4, h2, h3⟩
    ·subst h1;obtain ⟨rfl, rfl⟩ := hrest;exact ⟨⟨l, st.df⟩, ⟨fun t => (hle'.s t).trans (h2.wk t), hle'.df.trans h3⟩, after _ _ _ h4⟩
    exact ⟨⟨l, st.df⟩, ⟨fun t => (hle'.s t).trans (h2.wk t), hle'.df.trans h3⟩, afterA _ _ _ h4⟩
   cases e with
   | normal =>
    obtain ⟨s', g', h1, h2, h3, h4⟩ := hq;subst h1;exact ⟨n, Nat.lt_succ_self n, s', g', w2, hrest, ⟨fun t => (hle'.s t).trans (h2.wk t), hle'.df.trans h3⟩, h4⟩
   | _ => exact exits _ hq
end
section
variable {P : Program} {nt : Nat} {T : Dt} {E : CU} {α β σ R ι : Type}
def REI (enc : α → List V) (step : σ → α → Option (List β × (σ ⊕ R))) (o : σ ⊕ R) (w' : List β) (Inv : σ → List β → A0 → A0 → Prop) (l : List (List V)) (F H : A0) : Prop :=
 ∃ q : σ × List α × List β, (l = q.2.1.map enc ∧ Ac step q.2.1 q.1 = some (q.2.2, o)) ∧ Inv q.1 (q.2.2 ++ w') F H
def RED (o : σ ⊕ R) (w' : List β) (X : R → Exit → List β → A0 → A0 → Prop) (Xa : Exit → A0 → A0 → Prop) (c : Code) (F H : A0) : Prop :=
 (∃ q : R × Exit, (o = .inr q.1 ∧ TZ q.2 = some c) ∧ X q.1 q.2 w' F H) ∨ ∃ q : Exit, TZ q = some c ∧ Xa q F H
def REJ (enc : α → List V) (step : σ → α → Option (List β × (σ ⊕ R))) (o : σ ⊕ R) (w' : List β) (fJ : ι → σ → α → Fl) (J : ι → σ → α → List β → A0 → A0 → Prop) (x : List V) (l : List (List V)) (fr : Fr) (F H : A0) : Prop :=
 ∃ q : ι × σ × α × List α × List β, (x = enc q.2.2.1 ∧ l = q.2.2.2.1.map enc ∧ Ac step (q.2.2.1 :: q.2.2.2.1) q.2.1 = some (q.2.2.2.2, o) ∧ BE fr ⟨fJ q.1 q.2.1 q.2.2.1, []⟩) ∧ J q.1 q.2.1 q.2.2.1 (q.2.2.2.2 ++ w') F H
theorem C7.or {I J : A0 → A0 → Prop} (h : C7 I) (k : C7 J) : C7 fun F H => I F H ∨ J F H :=
 ⟨fun hh => hh.elim (fun x => h.le x) fun x => k.le x, fun id b hh e => hh.imp (fun x => h.chg id b x e) fun x => k.chg id b x e⟩
variable {enc : α → List V} {step : σ → α → Option (List β × (σ ⊕ R))} {g : Operand} {ps : Array Tmp} {asg body : Code} {st : St} {H : A0} {K : Exit → St → A0 → Prop}
 {xs : List α} {s0 : σ} {o : σ ⊕ R} {w w' : List β}
theorem Kg (cf : Cf) (hE : E = E7 P nt none) (hP : Lf P T) (Inv : σ → List β → A0 → A0 → Prop) (X : R → Exit → List β → A0 → A0 → Prop) (Xa : Exit → A0 → A0 → Prop) (fJ : ι → σ → α → Fl) (J : ι → σ → α → List β → A0 → A0 → Prop)
 (hI : ∀ s w, C7 (Inv s w)) (hX : ∀ r e w, C7 (X r e w)) (hXa : ∀ e, C7 (Xa e)) (hJ : ∀ i s y w, C7 (J i s y w)) (hit : DE P ((K6 [] st.l g).V) (xs.map enc)) (h : Ac step xs s0 = some (w, o)) {F : A0} (h0 : Inv s0 (w ++ w') F H)
 (hnt : ∀ p ∈ ps, p < nt) (hps : ∀ x, (enc x).length = ps.size) (hda : E9 cf asg = true) (hdb : E9 cf body = true)
 (asgP : ∀ (E' : CU) (id : Nat) y s w F H, E' = E7 P nt (some id) → Inv s w F H → run E' T nt cf asg ⟨Ol ps.toList (enc y) st.l, []⟩ H fun e st' H' => match e with | .normal => ∃ i, J i s y w F H' ∧ CE st'.l (fJ i s y) ∧ st'.df = [] | _ => False)
 (bodyP : ∀ (E' : CU) (id : Nat) i y s w1 w2 F H o', E' = E7 P nt (some id) → (∃ L, F id = some (.loop L)) → step s y = some (w1, o') → J i s y (w1 ++ w2) F H → run E' T nt cf body ⟨fJ i s y, []⟩ H fun e _ H' => match e with
  | .normal => ∃ s', o' = .inl s' ∧ Inv s' w2 F H'
  | e => (∃ r, o' = .inr r ∧ (TZ e).isSome = true ∧ X r e w2 F H') ∨ ((TZ e).isSome = true ∧ Xa e F H'))
 (done : ∀ d s H', o = .inl s → F d = none → Inv s w' (upd F d (some DB)) H' → K .normal ⟨st.l, d :: st.df⟩ H')
 (stop : ∀ d r e H', o = .inr r → F d = none → X r e w' (upd F d (some DB)) H' → K e ⟨st.l, d :: st.df⟩ H')
 (stopA : ∀ d e H', F d = none → Xa e (upd F d (some DB)) H' → K e ⟨st.l, d :: st.df⟩ H') : E.sim (.rangeFunc g ps asg body) st H K := by
 subst hE;have hev : ev (E3 st) g = (K6 [] st.l g).V := (Bt (df := st.df) Fa.nil g).symm
 rw [← hev] at hit
 have sI : ∀ l, C7 (REI enc step o w' Inv l) := fun l => C7.ex fun q => hI q.1 _;have sD : ∀ c, C7 (RED o w' X Xa c) := fun c => C7.or (C7.ex fun q => hX q.1 q.2 w') (C7.ex fun q => hXa q);have sJ : ∀ x l fr, C7 (REJ enc step o w' fJ J x l fr) := fun x l fr => C7.ex fun q => hJ q.1 q.2.1 q.2.2.1 _;refine O9.rangeOuter (nt := nt) hnt (fun x hx => ?_) hit (REI enc step o w' Inv) (RED o w' X Xa) sI sD (REJ enc step o w' fJ J) sJ ⟨⟨s0, xs, w⟩, ⟨rfl, h⟩, h0⟩ ?_ ?_ (fun d H' hd ⟨⟨s, ys, w2⟩, ⟨hl, hr⟩, hi⟩ => ?_) fun c d H' hd hx => ?_
 ·obtain ⟨y, _, rfl⟩ := List.mem_map.1 hx;exact hps y
 ·intro id L x l F H ⟨⟨s, ys, w2⟩, ⟨hl, hr⟩, hi⟩ _ _
  cases ys with
  | nil => cases hl
  | cons y ys =>
   simp only [List.map_cons, List.cons.injEq] at hl
   obtain ⟨rfl, rfl⟩ := hl
   have e : (⟨CZ (E3 st).s ps.toList (enc y), []⟩ : Fr) = E3 ⟨Ol ps.toList (enc y) st.l, []⟩ := by
    simp only [E3, Fr.mk.injEq, and_true]
    funext t
    exact MU _ _ _ _
   rw [e];refine (G3 hP.1 hP.2 asg _ _ _ hda (asgP _ id y s _ F H rfl hi)).mono fun e fr' H1 ⟨st', hle, hq⟩ => ?_
   cases e with
   | normal =>
    obtain ⟨i, hj, hl, hdf⟩ := hq;exact ⟨rfl, ⟨i, s, y, ys, w2⟩, ⟨rfl, rfl, hr, fun t => (hle.s t).trans (hl.wk t), hle.df.trans hdf⟩, hj⟩
   | _ => exact hq.elim
 ·intro id L x l fr' F H ⟨⟨i, s, y, ys, w2⟩, ⟨hx, hl, hr, hf⟩, hj⟩ hL;subst hx; subst hl
  simp only [Ac] at hr
  cases ho : step s y with
  | none => rw [ho] at hr; cases hr
  | some p =>
   obtain ⟨w1, o'⟩ := p
   rw [ho] at hr
   obtain ⟨w3, hw, hrest⟩ : ∃ w3, w2 = w1 ++ w3 ∧ match o' with | .inl s' => Ac step ys s' = some (w3, o) | .inr x => o = .inr x ∧ w3 = [] := by
    cases o' with
    | inl s' =>
     simp only at hr
     split at hr
     ·cases hr
     rename_i w3 x hx;cases hr;exact ⟨w3, rfl, hx⟩
    | inr x => cases hr; exact ⟨[], by simp, rfl, rfl⟩
   subst hw
   dsimp only at hj
   rw [List.append_assoc] at hj
   refine O9.frLe hf ((G3 hP.1 hP.2 body _ _ _ hdb (bodyP _ id i y s w1 (w3 ++ w') F H o' rfl ⟨L, hL⟩ ho hj)).mono fun e fr2 H2 ⟨st', hle, hq⟩ => ?_)
   have out : ∀ e c, TZ e = some c → ((∃ r, o' = .inr r ∧ (TZ e).isSome = true ∧ X r e (w3 ++ w') F H2) ∨ ((TZ e).isSome = true ∧ Xa e F H2)) → RED o w' X Xa c F H2 := by
    intro e c hc hq
    rcases hq with ⟨r, h1, _, h3⟩ | ⟨_, h3⟩
    ·subst h1;obtain ⟨rfl, rfl⟩ := hrest;exact .inl ⟨⟨r, e⟩, ⟨rfl, hc⟩, h3⟩
    exact .inr ⟨e, hc, h3⟩
   cases e with
   | normal =>
    obtain ⟨s', h1, h2⟩ := hq;subst h1;exact ⟨⟨s', ys, w3⟩, ⟨rfl, hrest⟩, h2⟩
   | ret => exact out .ret _ rfl hq
   | exit k => exact out (.exit k) _ rfl hq
   | _ => rcases hq with ⟨_, _, h, _⟩ | ⟨h, _⟩ <;> cases h
 ·have hys : ys = [] := by
   cases ys with
   | nil => rfl
   | cons _ _ => cases hl
  subst hys;cases hr;exact ⟨⟨st.l, d :: st.df⟩, ⟨fun t => Wk.refl _, rfl⟩, done d s H' rfl hd hi⟩
 have fin : ∀ e, TZ e = some c → K e ⟨st.l, d :: st.df⟩ H' → O9 P nt none c { E3 st with df := d :: (E3 st).df } H' fun e fr' H' => ∃ st', BE fr' st' ∧ K e st' H' := by
  intro e hj hk
  cases e with
  | ret => cases hj; exact O9.ret ⟨⟨st.l, d :: st.df⟩, ⟨fun t => Wk.refl _, rfl⟩, hk⟩
  | exit k => cases hj; exact O9.exit ⟨⟨st.l, d :: st.df⟩, ⟨fun t => Wk.refl _, rfl⟩, hk⟩
  | _ => cases hj
 rcases hx with ⟨⟨r, e⟩, ⟨ho, hj⟩, hx⟩ | ⟨e, hj, hx⟩
 ·exact fin e hj (stop d r e H' ho hd hx)
 exact fin e hj (stopA d e H' hd hx)
end
end Go.Ab
namespace Go.Ab
def Gb {α : Type} (l : List α) (i : Int) : Bool := decide (0 ≤ i ∧ i < (l.length : Nat))
def CW {α : Type} (l : List α) (i : Int) (u : α → α) : Option (List α) := (C6 l i).map fun x => l.set i.toNat (u x)
def Sh {α : Type} (n m : Int) (z : α) : Option (List α) := if 0 ≤ n ∧ n ≤ m ∧ m ≤ 1073741824 then some (List.replicate n.toNat z) else none
def Nq {α : Type} (l : List α) (i j : Int) : Option (List α) := if 0 ≤ i ∧ i ≤ j ∧ j ≤ (l.length : Nat) then some (l.take i.toNat ++ l.drop j.toNat) else none
def Ng {α : Type} (l : List α) (i : Int) (m : List α) : Option (List α) := if 0 ≤ i ∧ i ≤ (l.length : Nat) ∧ l.length + m.length ≤ 1073741824 then some (l.take i.toNat ++ m ++ l.drop i.toNat) else none
def LZ {α : Type} (_ : List α) (n : Int) : Option (List α) := if 0 ≤ n ∧ n ≤ 1073741824 then some [] else none
end Go.Ab
namespace Go.Ab
open Go.RowKit
variable [H5] [Ar]
theorem W2.swap {H0 H : A0} {L : List En} (h : W2 H0 L H) (i : Nat) {en en' : En} {id t : Nat} {b b' : AI} (hi : L[i]? = some en) (he : en.id = some (id, b)) (he' : en'.id = some (t, b')) (ht : upd H id none t = none) :
 W2 H0 (L.set i en') (upd (upd H id none) t (some b')) := by
 have hlt : i < L.length := by
  rcases Nat.lt_or_ge i L.length with h' | h'
  ·exact h'
  rw [List.getElem?_eq_none h'] at hi; cases hi
 have EY : ∀ (j : Nat) e, (L.set i en')[j]? = some e → (j = i ∧ e = en') ∨ (j ≠ i ∧ L[j]? = some e) := fun j e hj => by
  rw [List.getElem?_set] at hj
  split at hj
  ·rename_i hij;subst hij
   try rw [if_pos hlt] at hj
   exact .inl ⟨rfl, (Option.some.inj hj).symm⟩
  rename_i hij;exact .inr ⟨fun e => hij e.symm, hj⟩
 have hid := h.has i _ id b hi he
 have h0 : ∀ x c, H0 x = some c → upd H id none x = some c := fun x c hx => by
  rw [A4 _ _ (M3 hid.1 hx)]; exact h.ext x c hx
 have hoth : ∀ (j : Nat) e x c, j ≠ i → L[j]? = some e → e.id = some (x, c) → H0 x = none ∧ upd H id none x = some c := fun j e x c hne hj hx => by
  have := h.has j e x c hj hx
  have hxid : x ≠ id := fun eq => by subst eq; exact hne (h.inj j i e _ x c b hj hi hx he)
  exact ⟨this.1, by rw [A4 _ _ hxid]; exact this.2⟩
 have hid0 : H0 t = none := by
  cases e : H0 t with
  | none => rfl
  | some c => rw [h0 t c e] at ht; cases ht
 refine ⟨fun x bb hx => ?_, fun j e x bb hj hx => ?_, fun j k e e' x bb bb' hj hk hx hx' => ?_, fun x bb hx => ?_⟩
 rotate_right
 ·by_cases hxi : x = t
  ·subst hxi; rw [A9] at hx; cases hx
   exact .inr ⟨i, en', by rw [List.getElem?_set, if_pos rfl, if_pos hlt], he'⟩
  rw [A4 _ _ hxi] at hx
  have hxid : x ≠ id := fun eq => by subst eq; rw [A9] at hx; cases hx
  rw [A4 _ _ hxid] at hx
  refine (h.only x bb hx).imp (fun h => h) fun ⟨j, e, h1, h2⟩ => ⟨j, e, ?_, h2⟩;rw [List.getElem?_set]
  split
  ·rename_i hij; subst hij; rw [hi] at h1; cases h1; rw [he] at h2; cases h2; exact absurd rfl hxid
  exact h1
 ·rw [A4 _ _ (M3 hid0 hx)]; exact h0 x bb hx
 ·rcases EY j e hj with ⟨_, rfl⟩ | ⟨hne, hj'⟩
  ·rw [he'] at hx; cases hx; exact ⟨hid0, A9 _ _ _⟩
  have := hoth j e x bb hne hj' hx;exact ⟨this.1, by rw [A4 _ _ (M3 ht this.2)]; exact this.2⟩
 rcases EY j e hj with ⟨hji, rfl⟩ | ⟨hne, hj'⟩ <;> rcases EY k e' hk with ⟨hki, rfl⟩ | ⟨hne', hk'⟩
 ·rw [hji, hki]
 ·rw [he'] at hx; cases hx; have := (hoth k e' t bb' hne' hk' hx').2; rw [ht] at this; cases this
 ·rw [he'] at hx'; cases hx'; have := (hoth j e t bb hne hj' hx).2; rw [ht] at this; cases this
 exact h.inj j k e e' x bb bb' hj' hk' hx hx'
theorem B3.swap {Φ : A0 → A0 → Prop} {F H : A0} {L : List En} (h : B3 Φ F L H) (i : Nat) {id t : Nat} {b b' : AI} (hi : L[i]? = some (.blk id b)) (ht : upd H id none t = none) : B3 Φ F (L.set i (.blk t b')) (upd (upd H id none) t (some b')) := by
 obtain ⟨hs, F', H1, h0, h1, h2⟩ := h;have e := h0.get i hi;have e1 := hs.le h1 _ _ e;have h3 := hs.chg id none h1 (by rw [e, e1]);have hle : Ds (upd H1 id none) (upd H id none) := h2.upd id none;have hn1 := hle.none ht;have hn' := hs.fresh h3 hn1;exact ⟨hs, _, _, h0.swap i hi rfl rfl hn', hs.chg t (some b') h3 (by rw [hn1, hn']), hle.upd t _⟩
theorem B3.swap' {Φ : A0 → A0 → Prop} {F H : A0} {L : List En} (h : B3 Φ F L H) (i : Nat) {id t : Nat} {b b' : AI} (hi : L[i]? = some (.blk id b)) (ht : H t = none) : B3 Φ F (L.set i (.blk t b')) (upd H t (some b')) := by
 have hid := h.get i hi
 have hne : t ≠ id := fun e => by subst e; rw [ht] at hid; cases hid
 obtain ⟨hs, F', H1, h0, h1, h2⟩ := h.swap (b' := b') i hi (t := t) (by rw [A4 _ _ hne]; exact ht);refine ⟨hs, F', H1, h0, h1, fun x c hx => ?_⟩;have := h2 x c hx
 by_cases e : x = t
 ·subst e; rw [A9] at this ⊢; exact this
 rw [A4 _ _ e] at this ⊢
 by_cases e2 : x = id
 ·subst e2; rw [A9] at this; cases this
 rwa [A4 _ _ e2] at this
structure OG where
 id : Nat
 lo : Int
 n : Int
 pre : List V
 rest : List V
def X6 (q : OG) (m : Int) : Prop := q.lo = (q.pre.length : Nat) ∧ q.n = m
theorem QZ {α : Type} {f : α → V} (l : List α) : Ar.len l = ((Ar.lst f l).length : Nat) := by rw [Ar.len_eq, I0]
theorem TW {α : Type} {f : α → V} (l : List α) : Ar.len l = TX (Ar.lst f l) := by rw [Ra, QZ (f := f) l]
theorem FO {pre xs rest : List V} {lo n : Int} (h0 : lo = (pre.length : Nat)) (h1 : n = (xs.length : Nat)) : G8 (pre ++ xs ++ rest) lo n = xs := by
 subst h0; subst h1;simp [G8]
theorem Om {pre xs rest ys : List V} {i : Nat} (hi : i = pre.length + xs.length) : U4 (pre ++ xs ++ rest) i ys = pre ++ (xs ++ ys) ++ rest.drop ys.length := by
 subst hi;simp only [U4, List.append_assoc];rw [show pre ++ (xs ++ rest) = (pre ++ xs) ++ rest by simp, ← List.length_append, List.take_left, List.drop_append];simp
theorem OJ {pre xs rest : List V} {i : Nat} (h : i < xs.length) : (pre ++ xs ++ rest).getD (pre.length + i) .bad = xs.getD i .bad := by
 simp only [List.getD_eq_getElem?_getD, List.append_assoc];rw [List.getElem?_append_right (by omega), show pre.length + i - pre.length = i by omega, List.getElem?_append_left h]
theorem UY {pre xs rest : List V} {i : Nat} {v : V} (h : i < xs.length) : (pre ++ xs ++ rest).set (pre.length + i) v = pre ++ xs.set i v ++ rest := by
 simp only [List.append_assoc];rw [List.set_append_right _ _ (by omega), show pre.length + i - pre.length = i by omega, List.set_append_left _ _ h]
theorem B3.set_self {L : List En} (i : Nat) {e : En} (hi : L[i]? = some e) : L.set i e = L := by
 apply List.ext_getElem?;intro j;rw [List.getElem?_set]
 split
 ·rename_i h; subst h
  split
  ·exact hi.symm
  rename_i h; rw [List.getElem?_eq_none (by omega)]
 rfl
section
variable {P : Program} {nt : Nat} {rd : Option Nat} {T : Dt} {E : CU}
variable (hE : E = E7 P nt rd)
include hE
variable {α R : Type} {f : α → V} {Φ : A0 → A0 → Prop} {H0 H : A0} {L : List En} {sz : Nat} {q : OG} {l : List α} {r : R}
theorem GI (hq : X6 q (Ar.len l)) {k : Int → Prop} (h : k (Ar.len l)) : E.olen q.n k := by
 subst hE
 show k q.n
 rw [hq.2]; exact h
theorem Af (hO : B3 Φ H0 L H) (hq : X6 q (Ar.len l)) (i : Nat) {j : Int} {k : Int → Prop} {F : Unit → Option R} (hi : L[i]? = some (.blk q.id (.arr sz (q.pre ++ Ar.lst f l ++ q.rest)))) (h : (Ea (Gb l j)).bind F = some r) (hk : F () = some r → k (Ar.ofs q.lo j)) :
 E.oidx H q.id sz q.lo q.n j k := by
 subst hE;obtain ⟨x, h1, h2⟩ := bind_some h
 unfold Ea at h1
 split at h1
 ·rename_i hp;refine ⟨⟨_, hO.get i hi⟩, ?_, hk h2⟩;rw [hq.2, Ar.len_eq]; exact of_decide_eq_true hp
 cases h1
theorem LX {l : List α} {i : Int} {x : α} (h : C6 l i = some x) : (0 ≤ i ∧ i < (l.length : Nat)) ∧ l[i.toNat]? = some x := by
 unfold C6 at h
 split at h
 ·rename_i h0;refine ⟨⟨h0, ?_⟩, h⟩
  rcases Nat.lt_or_ge i.toNat l.length with h' | h'
  ·omega
  rw [List.getElem?_eq_none h'] at h; cases h
 cases h
theorem OB {l : List α} {i : Nat} {x : α} (h : l[i]? = some x) : (Ar.lst f l).getD i .bad = f x := by
 rw [Ar.lst_eq]; simp [List.getD, h]
theorem Cb {g : α → V} (hf : ∀ x, f x = g x) (hO : B3 Φ H0 L H) (hq : X6 q (Ar.len l)) (i : Nat) {j : Int} {k : V → Prop} {F : α → Option R} (hi : L[i]? = some (.blk q.id (.arr sz (q.pre ++ Ar.lst f l ++ q.rest)))) (h : (C6 l j).bind F = some r) (hk : ∀ x, F x = some r → k (g x)) :
 E.oload H q.id (Ar.ofs q.lo j) k := by
 obtain ⟨x, h1, h2⟩ := bind_some h;obtain ⟨hb, h3⟩ := LX hE h1;have h4 := OB hE (f := f) h3;subst hE;have e1 := I0 (f := f) l;refine ⟨_, _, hO.get i hi, ?_, ?_⟩
 ·rw [Ar.ofs_eq, hq.1]; simp only [List.length_append, e1]; omega
 rw [Ar.ofs_eq, hq.1, show ((q.pre.length : Nat) + j : Int).toNat = q.pre.length + j.toNat by omega, OJ (by rw [e1]; omega), h4, hf];exact hk x h2
theorem Oz {β : Type} {f0 : β → V} {esz : Nat} (hO : B3 Φ H0 L H) {k : Nat → A0 → Prop} (hk : ∀ (q : OG) id H', X6 q (Ar.len ([] : List β)) → B3 Φ H0 (.blk id (.cells [.own q.id q.lo q.n]) :: .blk q.id (.arr esz (q.pre ++ Ar.lst f0 [] ++ q.rest)) :: L) H' → k id H') : E.oalloc esz H k := by
 subst hE;intro t id ht hid
 have e : ([] : List V) ++ Ar.lst f0 [] ++ [] = [] := by rw [← B4 (f := f0)]; rfl
 have h0 : B3 Φ H0 (.blk t (.arr esz []) :: L) (upd H t (some (.arr esz []))) := hO.push ht rfl;have h1 : B3 Φ H0 (.blk id (.cells [.own t 0 0]) :: .blk t (.arr esz []) :: L) (upd (upd H t (some (.arr esz []))) id (some (.cells [.own t 0 0]))) := h0.push hid rfl;refine hk ⟨t, 0, 0, [], []⟩ id _ ⟨rfl, by rw [Ar.len_eq]; rfl⟩ ?_
 show B3 Φ H0 (.blk id (.cells [.own t 0 0]) :: .blk t (.arr esz (([] : List V) ++ Ar.lst f0 [] ++ [])) :: L) _
 rw [e]; exact h1
theorem QW (hO : B3 Φ H0 L H) (hq : X6 q (Ar.len l)) (i m : Nat) {id j : Nat} {cs : List V} {k : A0 → Prop} (hi : L[i]? = some (.blk id (.cells cs))) (hm : L[m]? = some (.blk q.id (.arr sz (q.pre ++ Ar.lst f l ++ q.rest)))) (hj : cs[j]? = some (.own q.id q.lo q.n)) (him : i ≠ m)
 (hk : ∀ H', B3 Φ H0 ((L.set i (.blk id (.cells (cs.set j (.sl (Ar.lst f l) .ro))))).eraseIdx m) H' → k H') : E.frzIn H id j k := by
 subst hE;have h1 := hO.get i hi;have h2 := hO.get m hm
 have hne : q.id ≠ id := fun e => by rw [e, h1] at h2; cases h2
 refine ⟨cs, q.id, q.lo, q.n, sz, _, _, h1, hj, h2, .refl _, ?_⟩;have h3 := (hO.set i (b' := .cells (cs.set j (.sl (Ar.lst f l) .ro))) hi).del m (id := q.id) (b := .arr sz (q.pre ++ Ar.lst f l ++ q.rest)) (by rw [List.getElem?_set, if_neg him]; exact hm);rw [FO hq.1 (by rw [hq.2, Ar.len_eq, I0]), JC _ _ _ hne];exact hk _ h3
theorem Ae {u : α → α} {esz tz off : Nat} {y : V} (hu : ∀ x, ∃ y', Z6 y y' ∧ y'.one = true ∧ y'.cells.length = tz ∧ MT (f x) esz tz off y' = f (u x)) (hle : off + tz ≤ esz) (hO : B3 Φ H0 L H) (hq : X6 q (Ar.len l)) (i : Nat) {j : Int} {k : A0 → Prop} {F : List α → Option R}
 (hi : L[i]? = some (.blk q.id (.arr esz (q.pre ++ Ar.lst f l ++ q.rest)))) (h : (CW l j u).bind F = some r)
 (hk : ∀ l' H', X6 q (Ar.len l') → F l' = some r → B3 Φ H0 (L.set i (.blk q.id (.arr esz (q.pre ++ Ar.lst f l' ++ q.rest)))) H' → k H') : E.ostore H q.id (Ar.ofs q.lo j) esz tz off y k := by
 obtain ⟨l', h1, h2⟩ := bind_some h
 unfold CW at h1
 cases hx : C6 l j with
 | none => rw [hx] at h1; cases h1
 | some x =>
  rw [hx] at h1
  simp only [Option.map_some, Option.some.injEq] at h1
  obtain ⟨hb, h3⟩ := LX hE hx;obtain ⟨y', q1, q2, q3, q4⟩ := hu x;have e1 := OB hE (f := f) h3
  have e2 : (Ar.lst f l).set j.toNat (f (u x)) = Ar.lst f l' := by
   rw [← h1, Ar.lst_eq, Ar.lst_eq, List.map_set]
  subst hE;have el := I0 (f := f) l
  have ej : (Ar.ofs q.lo j).toNat = q.pre.length + j.toNat := by rw [Ar.ofs_eq, hq.1]; omega
  refine ⟨_, y', q1, q2, q3, hle, hO.get i hi, ?_, ?_⟩
  ·rw [Ar.ofs_eq, hq.1]; simp only [List.length_append, el]; omega
  rw [ej, OJ (by rw [el]; omega), UY (by rw [el]; omega), e1, q4, e2];refine hk l' _ ⟨hq.1, ?_⟩ h2 (hO.set i hi);rw [hq.2, Ar.len_eq, Ar.len_eq, ← h1, List.length_set]
theorem Ki {by_ : Nat} (hby : by_ ≤ 131072) {z : V} {z0 : α} (hz : Z6 z (f z0)) (hO : B3 Φ H0 L H) {n m : Int} {k : V → A0 → Prop} {F : List α → Option R} (h : (Sh n m z0).bind F = some r)
 (hk : ∀ l' (q : OG) H', X6 q (Ar.len l') → F l' = some r → B3 Φ H0 (.blk q.id (.arr sz (q.pre ++ Ar.lst f l' ++ q.rest)) :: L) H' → k (.own q.id q.lo q.n) H') : E.omk sz by_ z n m H k := by
 subst hE;obtain ⟨l', h1, h2⟩ := bind_some h
 unfold Sh at h1
 split at h1
 ·rename_i hc;cases h1;refine ⟨⟨hc.1, hc.2.1, ?_⟩, List.replicate m.toNat (f z0), ?_, fun id hid => ?_⟩
  ·have : m * (by_ : Nat) ≤ 1073741824 * 131072 := Int.mul_le_mul hc.2.2 (by omega) (by omega) (by omega);omega
  ·have : ∀ k : Nat, G9 (List.replicate k z) (List.replicate k (f z0)) := fun k => by
    induction k with
    | zero => exact .nil
    | succ k ih => rw [List.replicate_succ, List.replicate_succ]; exact .cons hz ih
   exact this _
  have e : List.replicate m.toNat (f z0) = [] ++ Ar.lst f (List.replicate n.toNat z0) ++ List.replicate (m.toNat - n.toNat) (f z0) := by
   rw [Ar.lst_eq, List.map_replicate, List.nil_append, List.replicate_append_replicate]; congr 1; omega
  rw [e];exact hk _ ⟨id, 0, n, [], List.replicate (m.toNat - n.toNat) (f z0)⟩ _ ⟨rfl, by rw [Ar.len_eq]; simp; omega⟩ h2 (hO.push hid rfl)
 cases h1
theorem DO {by_ : Nat} {z : V} (hsz : ∀ x, (f x).cells.length = sz) (hby : by_ ≤ 131072) (hO : B3 Φ H0 L H) (hq : X6 q (Ar.len l)) (i : Nat) (hi : L[i]? = some (.blk q.id (.arr sz (q.pre ++ Ar.lst f l ++ q.rest)))) {y : V} {m : List α} {k : V → A0 → Prop} {F : List α → Option R}
 (hs : Jf sz H y (Ar.lst f m)) (h : (L5 l m).bind F = some r)
 (hk : ∀ x (q : OG) H', X6 q (Ar.len x) → B3 Φ H0 (L.set i (.blk q.id (.arr sz (q.pre ++ Ar.lst f x ++ q.rest)))) H' → F x = some r → k (.own q.id q.lo q.n) H') : E.oapp sz by_ z H (.own q.id q.lo q.n) y k := by
 subst hE;obtain ⟨x, h1, h2⟩ := bind_some h;have el := I0 (f := f) l;have em := I0 (f := f) m
 have hn : q.n = (l.length : Nat) := by rw [hq.2, Ar.len_eq]
 unfold L5 at h1
 split at h1
 ·rename_i hc;cases h1;refine ⟨_, hs, _, hO.get i hi, fun hfit => ?_, fun _ => ⟨?_, fun t j ht => ?_⟩⟩
  rotate_left
  ·rw [em, hn, Int.toNat_natCast];exact Nat.le_trans (Nat.mul_le_mul hc hby) (by decide)
  rotate_left
  ·have e : U4 (q.pre ++ Ar.lst f l ++ q.rest) (q.lo + q.n).toNat (Ar.lst f m) = q.pre ++ Ar.lst f (l ++ m) ++ q.rest.drop m.length := by
    rw [Om (by rw [hq.1, hn, el]; omega), Hx, em]
   rw [e];refine hk _ ⟨q.id, q.lo, q.n + ((Ar.lst f m).length : Nat), q.pre, q.rest.drop m.length⟩ _ ⟨hq.1, ?_⟩ (hO.set i hi) h2;rw [Ar.len_eq, hn, em]; simp
  have e : G8 (q.pre ++ Ar.lst f l ++ q.rest) q.lo q.n ++ Ar.lst f m ++ List.replicate j z = [] ++ Ar.lst f (l ++ m) ++ List.replicate j z := by
   rw [FO hq.1 (by rw [el]; exact hn), Hx, List.nil_append]
  rw [e];refine hk _ ⟨t, 0, q.n + ((Ar.lst f m).length : Nat), [], List.replicate j z⟩ _ ⟨rfl, ?_⟩ (hO.swap' i hi ht) h2;rw [Ar.len_eq, hn, em]; simp
 cases h1
theorem QS {by_ : Nat} {z : V} (hsz : ∀ x, (f x).cells.length = sz) (hby : by_ ≤ 131072) (hO : B3 Φ H0 L H) {x : V} (hx : x = .sl [] .nil ∨ x = .sl [] .full) {y : V} {m : List α} {k : V → A0 → Prop} {F : List α → Option R}
 (hs : Jf sz H y (Ar.lst f m)) (h : (L5 [] m).bind F = some r)
 (hk : ∀ x (q : OG) H', X6 q (Ar.len x) → B3 Φ H0 (.blk q.id (.arr sz (q.pre ++ Ar.lst f x ++ q.rest)) :: L) H' → F x = some r → k (.own q.id q.lo q.n) H') : E.oapp sz by_ z H x y k := by
 subst hE;obtain ⟨x', h1, h2⟩ := bind_some h;have em := I0 (f := f) m
 unfold L5 at h1
 split at h1
 ·rename_i hc;cases h1;refine ⟨_, hs, ?_⟩
  have key : (Ar.lst f m).length * by_ ≤ 140737488355328 ∧ ∀ t j, H t = none → k (.own t 0 ((Ar.lst f m).length : Nat)) (upd H t (some (.arr sz (Ar.lst f m ++ List.replicate j z)))) := by
   refine ⟨?_, fun t j ht => ?_⟩
   ·rw [em];exact Nat.le_trans (Nat.mul_le_mul (by simpa using hc) hby) (by decide)
   refine hk m ⟨t, 0, ((Ar.lst f m).length : Nat), [], List.replicate j z⟩ _ ⟨rfl, by rw [Ar.len_eq, em]⟩ ?_ (by simpa using h2);exact hO.push ht rfl
  rcases hx with rfl | rfl
  ·exact ⟨.inl rfl, key.1, key.2⟩
  exact ⟨.inr rfl, key.1, key.2⟩
 cases h1
theorem W9 (h : X6 q (Ar.len l)) : X6 q ((Ar.lst f l).length : Nat) := ⟨h.1, by rw [h.2, Ar.len_eq, I0]⟩
theorem UU (hO : B3 Φ H0 L H) (hq : X6 q (Ar.len l)) (i : Nat) (hi : L[i]? = some (.blk q.id (.arr sz (q.pre ++ Ar.lst f l ++ q.rest)))) : Jf sz H (.own q.id q.lo q.n) (Ar.lst f l) := by
 refine ⟨_, hO.get i hi, ?_⟩;rw [FO hq.1 (by rw [hq.2, Ar.len_eq, I0])];exact .refl _
theorem BI (hsz : ∀ x, (f x).cells.length = sz) {ys : List V} {tl : D8} (h : G9 ys (Ar.lst f l)) : Jf sz H (.sl ys tl) (Ar.lst f l) := ⟨h, Il hsz l⟩
theorem Ox (hO : B3 Φ H0 L H) (hq : X6 q (Ar.len l)) (i : Nat) (hi : L[i]? = some (.blk q.id (.arr sz (q.pre ++ Ar.lst f l ++ q.rest)))) {lo hi' : Option Int} {k : V → Prop} {F : List α → Option R}
 (h : (V2 l lo hi' none).bind F = some r) (hk : ∀ x (q : OG), X6 q (Ar.len x) → B3 Φ H0 (L.set i (.blk q.id (.arr sz (q.pre ++ Ar.lst f x ++ q.rest)))) H → F x = some r → k (.own q.id q.lo q.n)) :
 E.oslice sz H q.id q.lo q.n lo hi' none k := by
 subst hE;obtain ⟨x, h1, h2⟩ := bind_some h;have el := I0 (f := f) l
 have hn : q.n = (l.length : Nat) := by rw [hq.2, Ar.len_eq]
 unfold V2 at h1
 split at h1
 ·rename_i hc;cases h1;obtain ⟨c1, c2, c3, c4, c5⟩ := hc
  simp only [Option.getD_none] at c3
  refine ⟨_, hO.get i hi, ?_, ?_⟩
  ·rw [hn, hq.1];simp only [List.length_append, el, Option.getD_none];refine ⟨c1, c2, by omega, by omega, fun h => by cases h⟩
  rw [hn]
  generalize hA : lo.getD 0 = a at *
  generalize hB : hi'.getD (l.length : Nat) = b at *
  have hm : ((l.drop a.toNat).take (b.toNat - a.toNat)).length = b.toNat - a.toNat := by simp; omega
  refine hk _ ⟨q.id, q.lo + a, b - a, q.pre ++ Ar.lst f (l.take a.toNat), Ar.lst f (l.drop b.toNat) ++ q.rest⟩ ⟨?_, ?_⟩ ?_ h2
  ·simp only [List.length_append, I0, List.length_take, hq.1]; omega
  ·rw [Ar.len_eq, hm]; simp only; omega
  have e : q.pre ++ Ar.lst f (l.take a.toNat) ++ Ar.lst f ((l.drop a.toNat).take (b.toNat - a.toNat)) ++ (Ar.lst f (l.drop b.toNat) ++ q.rest) = q.pre ++ Ar.lst f l ++ q.rest := by
   have e1 : l = l.take a.toNat ++ ((l.drop a.toNat).take (b.toNat - a.toNat) ++ l.drop b.toNat) := by
    have e2 : l.drop b.toNat = (l.drop a.toNat).drop (b.toNat - a.toNat) := by rw [List.drop_drop]; congr 1; omega
    rw [e2, List.take_append_drop, List.take_append_drop]
   have e3 : Ar.lst f l = Ar.lst f (l.take a.toNat) ++ (Ar.lst f ((l.drop a.toNat).take (b.toNat - a.toNat)) ++ Ar.lst f (l.drop b.toNat)) := by
    rw [Hx, Hx, ← e1]
   rw [e3]; simp only [List.append_assoc]
  simp only
  rw [e, B3.set_self i hi];exact hO
 cases h1
theorem Sf (hO : B3 Φ H0 L H) (hq : X6 q (Ar.len l)) (i : Nat) (hi : L[i]? = some (.blk q.id (.arr sz (q.pre ++ Ar.lst f l ++ q.rest)))) {lo hi' : Option Int} {k : V → Prop} {F : List α → Option R}
 (h : (V2 l lo hi' none).bind F = some r) (hk : ∀ x (q' : OG), Jf sz H (.own q'.id q'.lo q'.n) (Ar.lst f x) → F x = some r → k (.own q'.id q'.lo q'.n)) :
 E.oslice sz H q.id q.lo q.n lo hi' none k :=
 Ox hE hO hq i hi h fun x q' hq' hO' h2 => hk x q' (UU hE hO' hq' i (by rw [List.getElem?_set]; simp [(List.getElem?_eq_some_iff.1 hi).1])) h2
theorem GJ (hO : B3 Φ H0 L H) (hq : X6 q (Ar.len l)) (i : Nat) {k : List V → A0 → Prop} (hi : L[i]? = some (.blk q.id (.arr sz (q.pre ++ Ar.lst f l ++ q.rest)))) (hk : ∀ H', B3 Φ H0 (L.eraseIdx i) H' → k (Ar.lst f l) H') : E.ofrz H q.id q.lo q.n k := by
 subst hE;have := hk _ (hO.del i hi);refine ⟨_, _, _, hO.get i hi, .refl _, ?_⟩;rw [FO hq.1 (by rw [hq.2, Ar.len_eq, I0])];exact this
end
end Go.Ab
namespace Go.Ab
open Go.RowKit
variable [H5] [Ar]
theorem OA {α : Type} {f : α → V} {l : List α} (h : Ar.lst f l = []) : l = [] := by
 rw [Ar.lst_eq] at h; exact List.map_eq_nil_iff.1 h
theorem Pf {α : Type} {f : α → V} {l r : List α} (hx : Ar.lst f l = []) (h : (L5 [] l).bind (fun x => some x) = some r) : Ar.lst f r = [] := by
 rw [OA hx] at h
 simp [L5] at h
 subst h;rw [Ar.lst_eq]; rfl
def QB (F : A0) (sz : Nat) (xs : List V) (v : V) (H' : A0) : Prop := ∃ q : OG, v = .own q.id q.lo q.n ∧ X6 q (xs.length : Nat) ∧ F q.id = none ∧ H' = upd F q.id (some (.arr sz (q.pre ++ xs ++ q.rest)))
def Ld (P : Program) (f : FuncId) (args : List V) (sz : Nat) (xs : List V) : Prop := ∀ H, E8 P f args H (QB H sz xs)
def IA (P : Program) (f : FuncId) (args : List V) (sz : Nat) (xs xs' : List V) : Prop :=
 ∀ H (q : OG), X6 q (xs.length : Nat) → H q.id = some (.arr sz (q.pre ++ xs ++ q.rest)) → E8 P f (.own q.id q.lo q.n :: args) H (QB (upd H q.id none) sz xs')
def DV (mk : V → V) : Prop := ∀ (g : Gh) (w : World) (u : Value) (x : V), VR g w u (mk x) → ∃ v, VR g w v x ∧ ∀ (g' : Gh) (w' : World) (y : V), N4 g w g' w' → VR g' w' v y → VR g' w' u (mk y)
theorem DV.id : DV fun x => x := fun _ _ u _ h => ⟨u, h, fun _ _ _ _ k => k⟩
theorem DV.agg (cs : List V) (i : Nat) (hi : i < cs.length) : DV fun x => .agg (cs.set i x) := fun g w u x h => by
 cases h with
 | agg hl h1 hv =>
  rename_i vs
  have hi' : i < (cs.set i x).length := by simpa using hi
  refine ⟨vs.getD i undef, by have := hv i hi'; rwa [Be hi, if_pos rfl] at this, fun g' w' y s k => ?_⟩;refine .agg (by simpa using hl) (fun j hj => h1 j (by simpa using hj)) fun j hj => ?_;rw [Be hi]
  split
  ·rename_i e; subst e; exact k
  rename_i e;have := hv j (by simpa using hj)
  rw [Be hi, if_neg e] at this
  exact this.mono s
theorem DV.tup (cs : List V) (i : Nat) (hi : i < cs.length) : DV fun x => .tup (cs.set i x) := fun g w u x h => by
 cases h with
 | tup hl hv =>
  rename_i vs
  have hi' : i < (cs.set i x).length := by simpa using hi
  refine ⟨vs.getD i undef, by have := hv i hi'; rwa [Be hi, if_pos rfl] at this, fun g' w' y s k => ?_⟩;refine .tup (by simpa using hl) fun j hj => ?_;rw [Be hi]
  split
  ·rename_i e; subst e; exact k
  rename_i e;have := hv j (by simpa using hj)
  rw [Be hi, if_neg e] at this
  exact this.mono s
theorem E8.adopt {P : Program} {f : FuncId} {args : List V} {H : A0} {K : V → A0 → Prop} {sz : Nat} (h : E8 P f args H fun x H' => K x H' ∨ (x = .sl [] .nil ∧ ∀ t, H' t = none → K (.own t 0 0) (upd H' t (some (.arr sz []))))) : E8 P f args H K :=
 fun g w vals hR hA => (h g w vals hR hA).mono fun v w' ⟨g', x, H', s, hR', hv, hK⟩ => by
  rcases hK with hK | ⟨rfl, hK⟩
  ·exact ⟨g', x, H', s, hR', hv, hK⟩
  obtain ⟨g2, s2, hR2, hn, hv2⟩ := BN hR' sz (.inl rfl) hv;exact ⟨g2, _, _, s.trans s2, hR2, hv2, hK _ hn⟩
def Wg (F : A0) (sz : Nat) (xs : List V) (mk : V → V) (v : V) (H' : A0) : Prop := ∃ q : OG, v = mk (.own q.id q.lo q.n) ∧ X6 q (xs.length : Nat) ∧ F q.id = none ∧ H' = upd F q.id (some (.arr sz (q.pre ++ xs ++ q.rest)))
def UI (P : Program) (f : FuncId) (args : List V) (sz : Nat) (xs : List V) (mk : V → V) : Prop := ∀ H, E8 P f args H (Wg H sz xs mk)
theorem E8.adoptG {P : Program} {f : FuncId} {args : List V} {H : A0} {K : V → A0 → Prop} {sz : Nat} {mk : V → V} (hm : DV mk) (h : E8 P f args H fun x H' => K x H' ∨ (x = mk (.sl [] .nil) ∧ ∀ t, H' t = none → K (mk (.own t 0 0)) (upd H' t (some (.arr sz []))))) : E8 P f args H K :=
 fun g w vals hR hA => (h g w vals hR hA).mono fun v w' ⟨g', x, H', s, hR', hv, hK⟩ => by
  rcases hK with hK | ⟨rfl, hK⟩
  ·exact ⟨g', x, H', s, hR', hv, hK⟩
  obtain ⟨u, hu, hb⟩ := hm g' w' v _ hv;obtain ⟨g2, s2, hR2, hn, hv2⟩ := BN hR' sz (.inl rfl) hu;exact ⟨g2, _, _, s.trans s2, hR2, hb _ _ _ s2 hv2, hK _ hn⟩
theorem B3.last {F H : A0} {t : Nat} {b : AI} (h : B3 Eq F [.blk t b] H) : F t = none ∧ Ds (upd F t (some b)) H := by
 obtain ⟨hs, F', H1, h0, h1, h2⟩ := h;subst h1;have h3 := h0.has 0 _ t b rfl rfl;refine ⟨h3.1, fun x c hx => ?_⟩
 by_cases e : x = t
 ·subst e; rw [A9] at hx; cases hx; exact h2 _ _ h3.2
 rw [A4 _ _ e] at hx; exact h2 _ _ (h0.ext x c hx)
theorem B3.only {F H : A0} {L : List En} {t : Nat} {b : AI} (h : B3 Eq F L H) (i : Nat) (hi : L[i]? = some (.blk t b)) : B3 Eq F [.blk t b] H := by
 obtain ⟨hs, F', H1, h0, h1, h2⟩ := h;subst h1;have h3 := h0.has i _ t b hi rfl;refine ⟨hs, upd F t (some b), upd F t (some b), (W2.start F).push h3.1 rfl, rfl, fun x c hx => ?_⟩
 by_cases e : x = t
 ·subst e; rw [A9] at hx; cases hx; exact h2 _ _ h3.2
 rw [A4 _ _ e] at hx; exact h2 _ _ (h0.ext x c hx)
theorem B3.only1 {F H : A0} {L : List En} {t : Nat} {b : AI} (h : B3 Eq F (.blk t b :: L) H) : B3 Eq F [.blk t b] H := by
 obtain ⟨hs, F', H1, h0, h1, h2⟩ := h;subst h1;have h3 := h0.has 0 _ t b rfl rfl;refine ⟨hs, upd F t (some b), upd F t (some b), (W2.start F).push h3.1 rfl, rfl, fun x c hx => ?_⟩
 by_cases e : x = t
 ·subst e; rw [A9] at hx; cases hx; exact h2 _ _ h3.2
 rw [A4 _ _ e] at hx; exact h2 _ _ (h0.ext x c hx)
section
variable {P : Program} {T : Dt} {f : FuncId} {fn : Func} {c : Code} {n : Nat} {rs : List ResultVar} {args : List V}
theorem BU {F H : A0} {sz : Nat} {xs : List V} (cf : Cf) (hP : Lf P T) (hf : P.funcs[f]? = some fn) (hb : fn.body = some c) (hd : E9 cf c = true)
 (hcall : ∀ vals w, (callFunc f vals).run P w = .ok (.enter f vals) w) (hnt : fn.ntmps = n) (hrs : fn.results.toList = rs) (hn : Nat.ble args.length n = true)
 (h : ∀ (E : CU) (K : V → A0 → Prop), E = E7 P n none → (∀ (q : OG) L H', X6 q (xs.length : Nat) → B3 Eq F (.blk q.id (.arr sz (q.pre ++ xs ++ q.rest)) :: L) H' → K (.own q.id q.lo q.n) H') → (xs = [] → ∀ L H', B3 Eq F L H' → K (.sl [] .nil) H') → run E T n cf c ⟨Ak args 0, []⟩ H (It E T rs K)) :
 E8 P f args H (QB F sz xs) := by
 refine E8.adopt (sz := sz) (E8.le (O7 (K := fun x H' => ∃ y H2, Z6 x y ∧ Ds H2 H' ∧ (QB F sz xs y H2 ∨ (y = .sl [] .nil ∧ ∀ t, H2 t = none → QB F sz xs (.own t 0 0) (upd H2 t (some (.arr sz [])))))) cf hP.1 hP.2 hf hb hd hcall hnt hrs hn fun E hE => ?_));refine h E _ hE (fun q L H' hq hO => ?_) fun hx L H' hO => ?_
 ·obtain ⟨h1, h2⟩ := hO.only1.last;exact ⟨_, _, .refl _, h2, .inl ⟨q, rfl, hq, h1, rfl⟩⟩
 exact ⟨_, F, .refl _, hO.ext, .inr ⟨rfl, fun t ht => ⟨⟨t, 0, 0, [], []⟩, rfl, ⟨rfl, by rw [hx]; rfl⟩, ht, by rw [hx]; rfl⟩⟩⟩
end
section
variable {P : Program} {nt : Nat} {rd : Option Nat} {T : Dt} {E : CU}
variable (hE : E = E7 P nt rd)
include hE
theorem MZ {α β R : Type} {f : α → V} {Φ : A0 → A0 → Prop} {H0 H : A0} {L : List En} {sz : Nat} {r : R} {m : Option β} {F : β → Option R} {g : β → List α} {mk : β → V → V} {fid : FuncId} {args args' : List V} {k : V → A0 → Prop}
 (h : m.bind F = some r) (hc : ∀ x, m = some x → UI P fid args' sz (Ar.lst f (g x)) (mk x)) (hl : G9 args args') (hO : B3 Φ H0 L H)
 (hk : ∀ x (q : OG) H', X6 q (Ar.len (g x)) → B3 Φ H0 (.blk q.id (.arr sz (q.pre ++ Ar.lst f (g x) ++ q.rest)) :: L) H' → F x = some r → k (mk x (.own q.id q.lo q.n)) H') :
 E.call (.func (.func fid) [] []) args H k := by
 subst hE;obtain ⟨x, h1, h2⟩ := bind_some h;refine E8.value (F := []) (C := []) ?_;have := ((hc x h1) H).args hl;simp only [List.nil_append, List.append_nil]
 exact this.mono fun v H' ⟨q, e1, e0, e2, e3⟩ => by
  subst e1; subst e3;exact hk x q _ (by rw [Ar.len_eq]; rwa [I0] at e0) (hO.push e2 rfl) h2
variable {α R S : Type} {f : α → V} {Φ : A0 → A0 → Prop} {H0 H : A0} {L : List En} {sz : Nat} {q : OG} {r : R} {m : Option (List α)} {F : List α → Option R} {fid : FuncId} {args args' : List V} {k : V → A0 → Prop}
theorem EF (h : m.bind F = some r) (hc : ∀ x, m = some x → Ld P fid args' sz (Ar.lst f x)) (hl : G9 args args') (hO : B3 Φ H0 L H)
 (hk : ∀ x (q : OG) H', X6 q (Ar.len x) → B3 Φ H0 (.blk q.id (.arr sz (q.pre ++ Ar.lst f x ++ q.rest)) :: L) H' → F x = some r → k (.own q.id q.lo q.n) H') :
 E.call (.func (.func fid) [] []) args H k := by
 subst hE;obtain ⟨x, h1, h2⟩ := bind_some h;refine E8.value (F := []) (C := []) ?_;have := ((hc x h1) H).args hl;simp only [List.nil_append, List.append_nil]
 exact this.mono fun v H' ⟨q, e1, e0, e2, e3⟩ => by
  subst e1; subst e3;exact hk x q _ (by rw [Ar.len_eq]; rwa [I0] at e0) (hO.push e2 rfl) h2
theorem Hs {l : List α} (hO : B3 Φ H0 L H) (hq : X6 q (Ar.len l)) (i : Nat) (hi : L[i]? = some (.blk q.id (.arr sz (q.pre ++ Ar.lst f l ++ q.rest)))) (h : m.bind F = some r) (hc : ∀ x, m = some x → IA P fid args' sz (Ar.lst f l) (Ar.lst f x)) (hl : G9 args args')
 (hk : ∀ x (q : OG) H', X6 q (Ar.len x) → B3 Φ H0 (L.set i (.blk q.id (.arr sz (q.pre ++ Ar.lst f x ++ q.rest)))) H' → F x = some r → k (.own q.id q.lo q.n) H') :
 E.call (.func (.func fid) [] []) (.own q.id q.lo q.n :: args) H k := by
 subst hE;obtain ⟨x, h1, h2⟩ := bind_some h;refine E8.value (F := []) (C := []) ?_;have := ((hc x h1) H q (by rw [I0, ← Ar.len_eq]; exact hq) (hO.get i hi)).args (.cons (.refl _) hl);simp only [List.nil_append, List.append_nil]
 exact this.mono fun v H' ⟨q', e1, e0, e2, e3⟩ => by
  subst e1; subst e3;exact hk x q' _ (by rw [Ar.len_eq]; rwa [I0] at e0) (hO.swap i hi e2) h2
theorem TK {p : Prop} {v : V} {a b : Unit → Prop} (hv : Se v = some p) (h1 : p → a ()) (h0 : b ()) : E.nilc v a b := by subst hE; exact ⟨p, hv, h1, h0⟩
end
end Go.Ab
