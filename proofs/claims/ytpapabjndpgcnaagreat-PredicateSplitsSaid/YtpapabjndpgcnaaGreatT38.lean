/- GPL16 GPL17 -/
import Derived.Test.YtpapabjndpgcnaaGreatT37
import Derived.Test.YtpapabjndpgcnaaGreatT36
set_option linter.all false

namespace Go.Ab
def Cn (P : Int → Prop) (l : List GInterval) : Prop := Ord l ∧ l.length ≤ 256 ∧ ∀ n, InL l n ↔ P n
theorem Cn.ext {P Q : Int → Prop} {l m : List GInterval} (h : Cn P l) (k : Cn Q m) (e : ∀ n, P n ↔ Q n) : l = m := ord_ext h.1 k.1 fun n => (h.2.2 n).trans ((e n).trans (k.2.2 n).symm)
theorem bnd_app {a b : List GInterval} (ha : Srt a) (hb : Srt b) : ∀ x ∈ a ++ b, Bnd x := fun x hx => by
 rcases List.mem_append.1 hx with hx | hx
 ·exact ha.2.1 x hx
 ·exact hb.2.1 x hx
theorem icombine_eq {N : Nat} {a b : List GInterval} {bel : Bool → Bool → Option Bool} {f : Bool → Bool → Bool} (hf : ∀ x y, bel x y = some (f x y)) (hff : f false false = false)
 (ha : ck a = 0) (hb : ck b = 0) (hl : a.length + b.length ≤ 100) (hN : 2000 < N) {P : Int → Prop} (hP : ∀ n x y, (x = true ↔ InL a n) → (y = true ↔ InL b n) → (f x y = true ↔ P n)) :
 ∃ r, interval_combine N a b bel = some (r, 0) ∧ Cn P r ∧ r.length ≤ 2 * (a.length + b.length) := by
 obtain ⟨r, h1, h2, h3, h4⟩ := sweep_eq hf hff (ck_zero ha) (ck_zero hb) hN hP
 refine ⟨r, ?_, ⟨h2, by omega, h4⟩, h3⟩
 unfold interval_combine interval_both interval_limited
 simp only [icheck_eq (show 256 < N by omega), Option.bind_some, ha, hb, cmp_neq, decide_true, Bool.not_true, Bool.false_eq_true, if_false, h1, cmp_gtr, len_def, decide_eq_true_eq]
 rw [if_neg (by omega)]
 rfl
theorem intersect_eq {N : Nat} {a b : List GInterval} (ha : ck a = 0) (hb : ck b = 0) (hl : a.length + b.length ≤ 100) (hN : 100000 < N) :
 ∃ r, interval_Intersect N a b = some (r, 0) ∧ ref02_Both N a b = some r ∧ Cn (fun n => InL a n ∧ InL b n) r ∧ r.length ≤ 2 * (a.length + b.length) := by
 obtain ⟨r, h1, h2, h3⟩ := icombine_eq (N := N) (bel := fun y1 y2 => interval_Intersect_1 N y1 y2) (f := fun x y => x && y) (fun x y => rfl) rfl ha hb hl (by omega) (P := fun n => InL a n ∧ InL b n) (fun n x y h k => by
  rw [← h, ← k, Bool.and_eq_true])
 have hal : a.length ≤ 100 := by omega
 have hbl : b.length ≤ 100 := by omega
 have hm : a.length * b.length ≤ 100 * 100 := Nat.mul_le_mul hal hbl
 obtain ⟨s, k1, k2, k3, k4⟩ := both_eq (N := N) (ck_zero ha).ord (ck_zero hb).ord (by omega) (by omega) (by omega) (by omega)
 have e : r = s := ord_ext h2.1 k2 fun n => (h2.2.2 n).trans (k4 n).symm
 subst e
 refine ⟨r, ?_, k1, h2, h3⟩
 unfold interval_Intersect
 rw [h1]; rfl
theorem union_eq {N : Nat} {a b : List GInterval} (ha : ck a = 0) (hb : ck b = 0) (hl : a.length + b.length ≤ 100) (hN : 100000 < N) :
 ∃ r, interval_Union N a b = some (r, 0) ∧ ref02_Normal N (a ++ b) = some r ∧ Cn (fun n => InL a n ∨ InL b n) r ∧ r.length ≤ 2 * (a.length + b.length) := by
 obtain ⟨r, h1, h2, h3⟩ := icombine_eq (N := N) (bel := fun y1 y2 => interval_Union_1 N y1 y2) (f := fun x y => x || y) (fun x y => rfl) rfl ha hb hl (by omega) (P := fun n => InL a n ∨ InL b n) (fun n x y h k => by
  rw [← h, ← k, Bool.or_eq_true])
 obtain ⟨s, k1, k2, k3, k4⟩ := normal_eq (N := N) (bnd_app (ck_zero ha) (ck_zero hb)) (by simp; omega) (by simp; omega)
 have e : r = s := ord_ext h2.1 k2 fun n => (h2.2.2 n).trans ((k4 n).trans inL_app).symm
 subst e
 refine ⟨r, ?_, k1, h2, h3⟩
 unfold interval_Union
 rw [h1]; rfl
theorem each_ok {N n : Nat} {set : Int → Option (List GInterval × Int)} {Q : Nat → List GInterval → Prop} (h : ∀ i, i < n → ∃ r, set (i : Int) = some (r, 0) ∧ Q i r) (hn : n ≤ 100000) (hN : n < N) :
 ∃ R, predicate_each N (n : Int) set = some (⟨R⟩, 0) ∧ R.length = n ∧ ∀ (i : Nat) r, R[i]? = some r → Q i r := by
 unfold predicate_each
 obtain ⟨r, h1, h2⟩ := loop_inv (N := N) (l := List.range n) (Q := fun (t : GPredicate ⊕ (Int × GPredicate)) => ∃ R, t = .inl ⟨R⟩ ∧ R.length = n ∧ ∀ (i : Nat) r, R[i]? = some r → Q i r)
  (I := fun i (t : Int × GPredicate) => t.1 = (i : Int) ∧ t.2.Sets.length = i ∧ ∀ (k : Nat) r, t.2.Sets[k]? = some r → Q k r)
  (s0 := ((0 : Int), (⟨[]⟩ : GPredicate)))
  (step := fun (s3 : Int × GPredicate) =>
   (
    if Ar.cmp .lss s3.1 (n : Int) = true then
     (set s3.1).bind fun r6 =>
     if Ar.cmp .neq r6.2 0 = true then
      some (.inr (.inr (r6.2, s3.2)))
     else
      (appL s3.2.Sets ([r6.1])).bind fun l8 =>
      some (.inl (Ar.ar .add .i64 s3.1 1, { s3.2 with Sets := l8 }))
    else
     some (.inr (.inl s3.2))
    : Option ((Int × GPredicate) ⊕ (GPredicate ⊕ (Int × GPredicate)))))
  (fun i x t hx hi ⟨e1, e2, e3⟩ => by
   obtain ⟨j, ⟨S⟩⟩ := t
   simp only at e1 e2 e3
   subst e1
   rw [List.length_range] at hi
   obtain ⟨r, k1, k2⟩ := h i hi
   simp only [cmp_lss, cmp_neq, k1, Option.bind_some, decide_eq_true_eq, decide_true, Bool.not_true, Bool.false_eq_true, if_false]
   rw [if_pos (by omega), app_ok (by simp; omega), inc_i64 hi (by omega)]
   refine ⟨_, rfl, rfl, by simp [e2], fun k z hz => ?_⟩
   simp only at hz
   by_cases hk : k < S.length
   ·rw [List.getElem?_append_left hk] at hz; exact e3 k z hz
   ·have hkl := (List.getElem?_eq_some_iff.1 hz).1
    simp at hkl
    have : k = S.length := by omega
    subst this
    simp at hz; subst hz; rw [e2]; exact k2)
  (fun t ⟨e1, e2, e3⟩ => by
   obtain ⟨j, ⟨S⟩⟩ := t
   simp only at e1 e2 e3
   rw [List.length_range] at e1 e2
   subst e1
   simp only [cmp_lss, decide_eq_true_eq]
   rw [if_neg (by omega)]
   exact ⟨_, rfl, S, rfl, e2, e3⟩) ⟨rfl, rfl, fun k r hr => by simp at hr⟩ (by rw [List.length_range]; exact hN)
 rw [h1]
 obtain ⟨R, rfl, h3, h4⟩ := h2
 exact ⟨R, rfl, h3, h4⟩
theorem sets_loop {N : Nat} {R : List (List GInterval)} {step : Int × GPredicate → Option ((Int × GPredicate) ⊕ GPredicate)}
 (hs : ∀ (i : Nat) r S, R[i]? = some r → i < R.length → step ((i : Int), (⟨S⟩ : GPredicate)) = (appL S [r]).bind fun l => some (.inl (((i + 1 : Nat) : Int), (⟨l⟩ : GPredicate))))
 (he : ∀ S, step ((R.length : Int), S) = some (.inr S)) (hn : R.length ≤ 100000) (hN : R.length < N) : loopN step N (0, (⟨[]⟩ : GPredicate)) = some ⟨R⟩ := by
 obtain ⟨r, h1, h2⟩ := loop_inv (N := N) (l := R) (Q := fun (t : GPredicate) => t = ⟨R⟩)
  (I := fun i (t : Int × GPredicate) => t.1 = (i : Int) ∧ t.2.Sets = R.take i)
  (s0 := ((0 : Int), (⟨[]⟩ : GPredicate))) (step := step)
  (fun i x t hx hi ⟨e1, e2⟩ => by
   obtain ⟨j, ⟨S⟩⟩ := t
   simp only at e1 e2
   subst e1; subst e2
   rw [hs i x _ hx hi, app_ok (by simp; omega)]
   refine ⟨_, rfl, rfl, ?_⟩
   simp only
   rw [List.take_add_one, hx]; rfl)
  (fun t ⟨e1, e2⟩ => by
   obtain ⟨j, ⟨S⟩⟩ := t
   simp only at e1 e2
   subst e1; subst e2
   rw [he, List.take_length]
   exact ⟨_, rfl, rfl⟩) ⟨rfl, rfl⟩ hN
 rw [h1, h2]
theorem neq_true {a b : Int} (h : a ≠ b) : Ar.cmp .neq a b = true := by simp [cmp_neq, h]
theorem fb_const {α : Type} (l : List α) : fb (fun _ (_ : α) => (0 : Int)) 0 l = 0 := fb_zero.2 fun _ _ _ => rfl
theorem limited_ok {N : Nat} {R : List (List GInterval)} (h : ∀ x ∈ R, x.length ≤ 256) (hn : R.length ≤ 100000) (hN : R.length < N) : ref27_limited N ⟨R⟩ = some (⟨R⟩, 0) := by
 unfold ref27_limited
 rw [chk_loop (l := R) (f := fun _ _ => 0) (e := .inl ()) (b := fun _ => .inr ()) (N := N) ?_ ?_ hN]
 ·simp only [Option.bind_some, fb_const, if_true]
 ·intro i x hx hi
  have := h x (List.mem_of_getElem? hx)
  simp only [cmp_lss, cmp_gtr, len_def, idx_at, hx, Option.bind_some, decide_eq_true_eq]
  rw [if_pos (by omega), if_neg (by omega), inc_i64 hi (by omega)]
  rfl
 ·simp [cmp_lss, len_def]
theorem own1_ck {p : GPredicate} (h : own1 p = 0) {i : Nat} {a : List GInterval} (ha : p.Sets[i]? = some a) : ck a = 0 := by
 unfold own1 pck at h
 split at h
 ·cases h
 ·rw [if_neg (by simp)] at h
  exact fb_zero.1 h i a ha
theorem checked_two {N : Nat} {p q : GPredicate} (hN : 256 < N) : predicate_checked N [p, q] = some (if own1 p = 0 then own1 q else own1 p) := by
 rw [checked_eq hN (by simp; omega) (by simp)]
 simp only [fb]
 split
 ·split
  ·rename_i h; rw [h]
  ·rfl
 ·rfl
theorem two_eq {N : Nat} {p q : GPredicate} (hN : 256 < N) : ref27_two N p q = some (if own1 p = 0 then (if own1 q = 0 then (if p.Sets.length = q.Sets.length then 0 else 15) else own1 q) else own1 p) := by
 unfold ref27_two
 simp only [rown_eq hN, Option.bind_some, cmp_neq, len_def]
 by_cases h1 : own1 p = 0
 ·simp only [h1, decide_true, Bool.not_true, Bool.false_eq_true, if_false, if_true]
  by_cases h2 : own1 q = 0
  ·simp only [h2, decide_true, Bool.not_true, Bool.false_eq_true, if_false, if_true]
   by_cases h3 : p.Sets.length = q.Sets.length
   ·simp [h3]
   ·have hd : decide ((p.Sets.length : Int) = (q.Sets.length : Int)) = false := decide_eq_false (by omega)
    simp only [hd, Bool.not_false, if_true, h3, if_false]
  ·simp [h2]
 ·simp [h1]
def Sm (k : Nat) (p : GPredicate) : Prop := ∀ x ∈ p.Sets, x.length ≤ k
def Bi (P : (Int → Prop) → (Int → Prop) → Int → Prop) (k : Nat) (p q r : GPredicate) : Prop :=
 r.Sets.length = p.Sets.length ∧ ∀ (i : Nat) a b c, p.Sets[i]? = some a → q.Sets[i]? = some b → r.Sets[i]? = some c → Cn (P (InL a) (InL b)) c ∧ c.length ≤ k
theorem pboth_eq {N : Nat} {p q : GPredicate} {on : List GInterval → List GInterval → Option (List GInterval × Int)} {ron : List GInterval → List GInterval → Option (List GInterval)} {k : Nat} {P : (Int → Prop) → (Int → Prop) → Int → Prop}
 (hon : ∀ a b, a ∈ p.Sets → b ∈ q.Sets → ck a = 0 → ck b = 0 → ∃ r, on a b = some (r, 0) ∧ ron a b = some r ∧ Cn (P (InL a) (InL b)) r ∧ r.length ≤ k) (hN : 100000 < N) (hk : k ≤ 256) :
 ∃ r, predicate_both N p q on = some r ∧
  ((r = (⟨[]⟩, if own1 p = 0 then (if own1 q = 0 then (if p.Sets.length = q.Sets.length then 0 else 15) else own1 q) else own1 p) ∧ r.2 ≠ 0) ∨
   (own1 p = 0 ∧ own1 q = 0 ∧ p.Sets.length = q.Sets.length ∧ r.2 = 0 ∧ Bi P k p q r.1 ∧ Sm 256 r.1 ∧ ∀ (i : Nat) a b c, p.Sets[i]? = some a → q.Sets[i]? = some b → r.1.Sets[i]? = some c → ron a b = some c)) := by
 unfold predicate_both
 rw [checked_two (by omega)]
 simp only [Option.bind_some, cmp_neq, len_def]
 by_cases h1 : own1 p = 0
 ·by_cases h2 : own1 q = 0
  ·simp only [h1, h2, decide_true, Bool.not_true, Bool.false_eq_true, if_false, if_true]
   by_cases h3 : p.Sets.length = q.Sets.length
   ·have hd : decide ((p.Sets.length : Int) = (q.Sets.length : Int)) = true := decide_eq_true (by omega)
    simp only [hd, Bool.not_true, Bool.false_eq_true, if_false]
    have hlen := (own1_zero h1).1
    obtain ⟨R, k1, k2, k3⟩ := each_ok (N := N) (n := p.Sets.length) (set := fun y1 => predicate_both_1 N y1 on p q)
     (Q := fun i r => ∀ a b, p.Sets[i]? = some a → q.Sets[i]? = some b → ron a b = some r ∧ Cn (P (InL a) (InL b)) r ∧ r.length ≤ k)
     (fun i hi => by
      have ha := List.getElem?_eq_getElem hi
      have hb := List.getElem?_eq_getElem (show i < q.Sets.length by omega)
      obtain ⟨r, e1, e2, e3, e4⟩ := hon _ _ (List.mem_of_getElem? ha) (List.mem_of_getElem? hb) (own1_ck h1 ha) (own1_ck h2 hb)
      refine ⟨r, ?_, fun a b ha' hb' => ?_⟩
      ·unfold predicate_both_1
       simp only [idx_at, ha, hb, Option.bind_some, e1]
      ·rw [ha] at ha'; cases ha'; rw [hb] at hb'; cases hb'
       exact ⟨e2, e3, e4⟩) (by omega) (by omega)
    rw [k1]
    refine ⟨(⟨R⟩, 0), rfl, .inr ⟨by first | trivial | assumption, by first | trivial | assumption, by first | trivial | assumption, rfl, ⟨k2, fun i a b c ha hb hc => (k3 i c hc a b ha hb).2⟩, fun x hx => ?_, fun i a b c ha hb hc => (k3 i c hc a b ha hb).1⟩⟩
    obtain ⟨i, hi⟩ := List.getElem?_of_mem hx
    have hil := (List.getElem?_eq_some_iff.1 hi).1
    simp only at hil
    have ha := List.getElem?_eq_getElem (show i < p.Sets.length by omega)
    have hb := List.getElem?_eq_getElem (show i < q.Sets.length by omega)
    have := (k3 i x hi _ _ ha hb).2.2
    omega
   ·have hd : decide ((p.Sets.length : Int) = (q.Sets.length : Int)) = false := decide_eq_false (by omega)
    simp only [hd, Bool.not_false, if_true, h3, if_false]
    exact ⟨(⟨[]⟩, 15), rfl, .inl ⟨rfl, by decide⟩⟩
  ·simp only [h1, h2, if_true, if_false, decide_false, Bool.not_false]
   exact ⟨_, rfl, .inl ⟨rfl, h2⟩⟩
 ·simp only [h1, if_false, decide_false, Bool.not_false, if_true]
  exact ⟨_, rfl, .inl ⟨rfl, h1⟩⟩
theorem and_eq {N : Nat} {p q : GPredicate} {j m : Nat} (hp : Sm j p) (hq : Sm m q) (hjm : j + m ≤ 100) (hN : 100000 < N) :
 ∃ r, predicate_And N p q = some r ∧ ref27_And N p q = some r ∧ (own1 p = 0 → own1 q = 0 → p.Sets.length = q.Sets.length → r.2 = 0 ∧ Bi (fun A B n => A n ∧ B n) (2 * (j + m)) p q r.1) ∧ Sm 256 r.1 ∧ r.1.Sets.length ≤ p.Sets.length := by
 obtain ⟨r, h1, h2⟩ := pboth_eq (N := N) (p := p) (q := q) (on := fun y1 y2 => interval_Intersect N y1 y2) (ron := fun a b => ref02_Both N a b) (k := 2 * (j + m)) (P := fun A B n => A n ∧ B n)
  (fun a b ha hb h0 h0' => by
   have := hp a ha; have := hq b hb
   obtain ⟨r, e1, e2, e3, e4⟩ := intersect_eq (N := N) h0 h0' (by omega) hN
   exact ⟨r, e1, e2, e3, by omega⟩) hN (by omega)
 refine ⟨r, ?_, ?_⟩
 ·unfold predicate_And; rw [h1]; rfl
 ·rcases h2 with ⟨h2, h3⟩ | ⟨g1, g2, g3, g4, g5, g6, g7⟩
  ·refine ⟨?_, fun e1 e2 e3 => ?_, by rw [h2]; exact fun x hx => (by cases hx), by rw [h2]; exact Nat.zero_le _⟩
   ·unfold ref27_And
    rw [two_eq (by omega)]
    generalize (if own1 p = 0 then (if own1 q = 0 then (if p.Sets.length = q.Sets.length then (0 : Int) else 15) else own1 q) else own1 p) = E at h2 ⊢
    subst h2
    simp only [Option.bind_some]
    rw [if_pos (neq_true h3)]
   ·exfalso; rw [h2] at h3; simp [e1, e2, e3] at h3
  ·refine ⟨?_, fun _ _ _ => ⟨g4, g5⟩, g6, Nat.le_of_eq g5.1⟩
   have hlen := (own1_zero g1).1
   obtain ⟨⟨R⟩, e⟩ := r
   simp only at g4 g5 g6 g7
   subst g4
   have hR := g5.1
   simp only at hR
   unfold ref27_And ref27_Both
   rw [two_eq (by omega)]
   simp only [g1, g2, g3, if_true, Option.bind_some, cmp_neq, decide_true, Bool.not_true, Bool.false_eq_true, if_false]
   rw [sets_loop (R := R) (fun i r S hr hi => by
    have ha := List.getElem?_eq_getElem (show i < p.Sets.length by omega)
    have hb := List.getElem?_eq_getElem (show i < q.Sets.length by omega)
    have hg := g7 i _ _ r ha hb hr
    simp only [cmp_lss, len_def, idx_at, ha, hb, hg, Option.bind_some, decide_eq_true_eq]
    rw [if_pos (by omega), inc_i64 hi (by omega)]) (fun S => by
    simp only [cmp_lss, len_def, decide_eq_true_eq]
    rw [if_neg (by omega)]) (by omega) (by omega)]
   simp only [Option.bind_some]
   rw [limited_ok (R := R) g6 (by omega) (by omega)]
   rfl
theorem or_eq {N : Nat} {p q : GPredicate} {j m : Nat} (hp : Sm j p) (hq : Sm m q) (hjm : j + m ≤ 100) (hN : 100000 < N) :
 ∃ r, predicate_Or N p q = some r ∧ ref27_Or N p q = some r ∧ (own1 p = 0 → own1 q = 0 → p.Sets.length = q.Sets.length → r.2 = 0 ∧ Bi (fun A B n => A n ∨ B n) (2 * (j + m)) p q r.1) ∧ Sm 256 r.1 ∧ r.1.Sets.length ≤ p.Sets.length := by
 obtain ⟨r, h1, h2⟩ := pboth_eq (N := N) (p := p) (q := q) (on := fun y1 y2 => interval_Union N y1 y2) (ron := fun a b => ref02_Normal N (a ++ b)) (k := 2 * (j + m)) (P := fun A B n => A n ∨ B n)
  (fun a b ha hb h0 h0' => by
   have := hp a ha; have := hq b hb
   obtain ⟨r, e1, e2, e3, e4⟩ := union_eq (N := N) h0 h0' (by omega) hN
   exact ⟨r, e1, e2, e3, by omega⟩) hN (by omega)
 refine ⟨r, ?_, ?_⟩
 ·unfold predicate_Or; rw [h1]; rfl
 ·rcases h2 with ⟨h2, h3⟩ | ⟨g1, g2, g3, g4, g5, g6, g7⟩
  ·refine ⟨?_, fun e1 e2 e3 => ?_, by rw [h2]; exact fun x hx => (by cases hx), by rw [h2]; exact Nat.zero_le _⟩
   ·unfold ref27_Or
    rw [two_eq (by omega)]
    generalize (if own1 p = 0 then (if own1 q = 0 then (if p.Sets.length = q.Sets.length then (0 : Int) else 15) else own1 q) else own1 p) = E at h2 ⊢
    subst h2
    simp only [Option.bind_some]
    rw [if_pos (neq_true h3)]
   ·exfalso; rw [h2] at h3; simp [e1, e2, e3] at h3
  ·refine ⟨?_, fun _ _ _ => ⟨g4, g5⟩, g6, Nat.le_of_eq g5.1⟩
   have hlen := (own1_zero g1).1
   obtain ⟨⟨R⟩, e⟩ := r
   simp only at g4 g5 g6 g7
   subst g4
   have hR := g5.1
   simp only at hR
   unfold ref27_Or ref27_Either
   rw [two_eq (by omega)]
   simp only [g1, g2, g3, if_true, Option.bind_some, cmp_neq, decide_true, Bool.not_true, Bool.false_eq_true, if_false]
   rw [sets_loop (R := R) (fun i r S hr hi => by
    have hia : i < p.Sets.length := by omega
    have hib : i < q.Sets.length := by omega
    have ha := List.getElem?_eq_getElem hia
    have hb := List.getElem?_eq_getElem hib
    have sa := (own1_zero g1).2 _ (List.getElem_mem hia)
    have sb := (own1_zero g2).2 _ (List.getElem_mem hib)
    have hg := g7 i _ _ r ha hb hr
    have la := sa.1
    have lb := sb.1
    simp only [cmp_lss, len_def, idx_at, ha, hb, Option.bind_some, decide_eq_true_eq]
    rw [if_pos (by omega), app_ok (by simp; omega)]
    simp only [Option.bind_some, List.nil_append]
    rw [app_ok (by omega)]
    simp only [Option.bind_some, hg]
    rw [inc_i64 hi (by omega)]) (fun S => by
    simp only [cmp_lss, len_def, decide_eq_true_eq]
    rw [if_neg (by omega)]) (by omega) (by omega)]
   simp only [Option.bind_some]
   rw [limited_ok (R := R) g6 (by omega) (by omega)]
   rfl
def Un (k : Nat) (p r : GPredicate) : Prop :=
 r.Sets.length = p.Sets.length ∧ ∀ (i : Nat) a c, p.Sets[i]? = some a → r.Sets[i]? = some c → Cn (fun n => -1099511627776 ≤ n ∧ n ≤ 1099511627776 ∧ ¬ InL a n) c ∧ c.length ≤ k
theorem isame_refl {N : Nat} {a : List GInterval} (hl : a.length ≤ 100000) (hN : a.length < N) : ref02_Same N a a = some true := by
 unfold ref02_Same
 rw [if_neg (by simp [cmp_neq]), chk_loop (l := a) (f := fun _ _ => 0) (e := .inl ()) (b := fun _ => .inr ()) (N := N) ?_ ?_ hN]
 ·simp only [Option.bind_some, fb_const, if_true]
 ·intro i x hx hi
  simp only [cmp_lss, cmp_eql, an_def, nt_def, len_def, idx_at, hx, Option.bind_some, decide_true, Bool.and_self, Bool.not_true, Bool.false_eq_true, if_false, decide_eq_true_eq]
  rw [if_pos (by omega), inc_i64 hi (by omega)]; rfl
 ·simp [cmp_lss, len_def]
theorem same_refl {N : Nat} {p : GPredicate} (hs : Sm 256 p) (hl : p.Sets.length ≤ 100000) (hN : 100000 < N) : ref27_Same N p p = some true := by
 unfold ref27_Same
 rw [if_neg (by simp [cmp_neq]), chk_loop (l := p.Sets) (f := fun _ _ => 0) (e := .inl ()) (b := fun _ => .inr ()) (N := N) ?_ ?_ (by omega)]
 ·simp only [Option.bind_some, fb_const, if_true]
 ·intro i x hx hi
  have := hs x (List.mem_of_getElem? hx)
  simp only [cmp_lss, nt_def, len_def, idx_at, hx, Option.bind_some, decide_eq_true_eq, isame_refl (N := N) (a := x) (by omega) (by omega), Bool.not_true, Bool.false_eq_true, if_false]
  rw [if_pos (by omega), inc_i64 hi (by omega)]; rfl
 ·simp [cmp_lss, len_def]
end Go.Ab

namespace Go.Ab
set_option maxRecDepth 100000
theorem zero_fm {x : GInterval} (h : -1099511627776 ≤ x.Low ∧ x.Low ≤ x.High ∧ x.High ≤ 1099511627776) : fm x = 0 := by
 unfold fm
 rw [if_neg (by omega), if_neg (by omega)]
theorem zero_ck {l : List GInterval} (h : Srt l) : ck l = 0 := by
 unfold ck
 rw [if_neg (by have := h.1; omega)]
 refine fb_zero.2 fun k x hx => ?_
 unfold fi
 have hxb := h.2.1 x (List.mem_of_getElem? hx)
 rw [if_pos (zero_fm hxb)]
 split
 ·rename_i hk
  split
  ·rename_i y hy
   have := h.2.2 (k - 1) y x (by simpa using hy) (by rw [← hx]; congr 1; omega)
   have hyb := h.2.1 y (List.mem_of_getElem? hy)
   rw [add_i64 (by omega) (by omega), if_neg (by omega)]
  ·rfl
 ·rfl
theorem zero_own {p : GPredicate} (h0 : 1 ≤ p.Sets.length ∧ p.Sets.length ≤ 16) (h : ∀ x ∈ p.Sets, Srt x) : own1 p = 0 := by
 unfold own1 pck
 rw [if_neg (by omega), if_neg (by simp)]
 exact fb_zero.2 fun k x hx => zero_ck (h x (List.mem_of_getElem? hx))
theorem Cn.srt {P : Int → Prop} {l : List GInterval} (h : Cn P l) : Srt l := h.1.srt h.2.1
theorem Bi.own {P : (Int → Prop) → (Int → Prop) → Int → Prop} {k : Nat} {p q r : GPredicate} (h : Bi P k p q r) (hl : p.Sets.length = q.Sets.length) (h0 : 1 ≤ p.Sets.length ∧ p.Sets.length ≤ 16) : own1 r = 0 ∧ Sm k r := by
 have at_ : ∀ x ∈ r.Sets, Srt x ∧ x.length ≤ k := fun x hx => by
  obtain ⟨i, hi⟩ := List.getElem?_of_mem hx
  have hil := (List.getElem?_eq_some_iff.1 hi).1
  have hr := h.1
  have := h.2 i _ _ x (List.getElem?_eq_getElem (show i < p.Sets.length by omega)) (List.getElem?_eq_getElem (show i < q.Sets.length by omega)) hi
  exact ⟨this.1.srt, this.2⟩
 exact ⟨zero_own (by rw [h.1]; exact h0) fun x hx => (at_ x hx).1, fun x hx => (at_ x hx).2⟩
theorem Un.own {k : Nat} {p r : GPredicate} (h : Un k p r) (h0 : 1 ≤ p.Sets.length ∧ p.Sets.length ≤ 16) : own1 r = 0 ∧ Sm k r := by
 have at_ : ∀ x ∈ r.Sets, Srt x ∧ x.length ≤ k := fun x hx => by
  obtain ⟨i, hi⟩ := List.getElem?_of_mem hx
  have hil := (List.getElem?_eq_some_iff.1 hi).1
  have hr := h.1
  have := h.2 i _ x (List.getElem?_eq_getElem (show i < p.Sets.length by omega)) hi
  exact ⟨this.1.srt, this.2⟩
 exact ⟨zero_own (by rw [h.1]; exact h0) fun x hx => (at_ x hx).1, fun x hx => (at_ x hx).2⟩
theorem pred_ext {p q : GPredicate} (hl : p.Sets.length = q.Sets.length) (h : ∀ (i : Nat) a b, p.Sets[i]? = some a → q.Sets[i]? = some b → a = b) : p = q := by
 obtain ⟨l⟩ := p
 obtain ⟨m⟩ := q
 simp only at hl h
 congr 1
 refine List.ext_getElem hl fun i h1 h2 => ?_
 exact h i _ _ (List.getElem?_eq_getElem h1) (List.getElem?_eq_getElem h2)
end Go.Ab

