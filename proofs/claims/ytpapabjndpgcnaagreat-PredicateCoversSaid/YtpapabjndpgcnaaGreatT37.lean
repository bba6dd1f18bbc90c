/- GPL12 GPL13 GPL14 GPL15 -/
import Derived.Test.YtpapabjndpgcnaaGreatT36
import Derived.Test.YtpapabjndpgcnaaGreatT25
set_option linter.all false

namespace Go.Ab
theorem slice_lo {α : Type} {l : List α} {p : Nat} (h : p ≤ l.length) : sliceL l none (some (p : Int)) none = some (l.take p) := by
 unfold sliceL
 rw [if_pos (by simp; omega)]
 simp
theorem slice_hi {α : Type} {l : List α} {p : Nat} (h : p ≤ l.length) : sliceL l (some (p : Int)) none none = some (l.drop p) := by
 unfold sliceL
 rw [if_pos (by simp; omega)]
 simp only [Option.getD_some, Option.getD_none, Int.toNat_natCast]
 rw [List.take_of_length_le (by simp)]
theorem sorted_eq {N : Nat} {l : List GInterval} (hl : l.length ≤ 100000) (hN : l.length < N) : ∃ r, ref02_sorted N l = some r ∧ r.Perm l ∧ r.Pairwise (fun a b => a.Low ≤ b.Low) := by
 unfold ref02_sorted
 obtain ⟨r, h1, h2⟩ := loop_inv (N := N) (l := l) (Q := fun (r : List GInterval) => r.Perm l ∧ r.Pairwise (fun a b => a.Low ≤ b.Low))
  (I := fun i (s : List GInterval × Int) => s.2 = (i : Int) ∧ s.1.Perm (l.take i) ∧ s.1.Pairwise (fun a b => a.Low ≤ b.Low))
  (s0 := (([] : List GInterval), (0 : Int)))
  (step := fun (s1 : (List GInterval) × Int) =>
   (
    if Ar.cmp .lss s1.2 (Ar.len l) = true then
     (loopN
      (fun (s3 : Int) =>
       (
        if Ar.cmp .gtr s3 0 = true then
         (idxL s1.1 (Ar.ar .sub .i64 s3 1)).bind fun x5 =>
         (idxL l s1.2).bind fun x6 =>
         if Ar.cmp .gtr x5.Low x6.Low = true then
          some (.inl (Ar.ar .sub .i64 s3 1))
         else
          some (.inr s3)
        else
         some (.inr s3)
        : Option ((Int) ⊕ (Int))))
      N (Ar.len s1.1)).bind fun s4 =>
     (sliceL s1.1 none (some s4) none).bind fun l7 =>
     (appL ([]) l7).bind fun l10 =>
     (idxL l s1.2).bind fun x11 =>
     (appL l10 ([x11])).bind fun l13 =>
     (sliceL s1.1 (some s4) none none).bind fun l14 =>
     (appL l13 l14).bind fun l17 =>
     some (.inl (l17, Ar.ar .add .i64 s1.2 1))
    else
     some (.inr s1.1)
    : Option (((List GInterval) × Int) ⊕ (((List GInterval))))))
  (fun i x s hx hi ⟨e1, e2, e3⟩ => by
   obtain ⟨out, j⟩ := s
   simp only at e1 e2 e3
   subst e1
   have hol : out.length = i := by rw [e2.length_eq, List.length_take]; omega
   obtain ⟨p, p1, p2, p3, p4⟩ := place_eq (out := out) (g := idxL l (i : Int)) (x := x) (by rw [idx_at, hx]) out.length N (Nat.le_refl _) (by omega) (by omega)
   simp only [cmp_lss, len_def, decide_eq_true_eq] at p4 ⊢
   rw [if_pos (by omega), p4]
   simp only [Option.bind_some, slice_lo p1, slice_hi p1, idx_at, hx]
   rw [app_ok (by simp; omega)]
   simp only [Option.bind_some, List.nil_append]
   rw [app_ok (by simp; omega)]
   simp only [Option.bind_some]
   rw [app_ok (by simp; omega), inc_i64 hi (by omega)]
   simp only [Option.bind_some]
   have htake : l.take (i + 1) = l.take i ++ [x] := by
    rw [List.take_add_one, hx]; rfl
   refine ⟨_, rfl, rfl, ?_, ?_⟩
   ·rw [htake]
    have q1 : (out.take p ++ [x] ++ out.drop p).Perm (x :: (out.take p ++ out.drop p)) := by
     rw [List.append_assoc]; exact List.perm_middle
    rw [List.take_append_drop] at q1
    exact q1.trans ((e2.cons x).trans (by
     have := List.perm_append_comm (l₁ := [x]) (l₂ := l.take i)
     simpa using this))
   ·have hs := e3
    rw [← List.take_append_drop p out] at hs
    obtain ⟨a1, a2, a3⟩ := List.pairwise_append.1 hs
    rw [List.append_assoc]
    refine List.pairwise_append.2 ⟨a1, List.pairwise_cons.2 ⟨fun y hy => ?_, a2⟩, fun y hy z hz => ?_⟩
    ·have hy : y ∈ out.drop p := hy
     obtain ⟨k, hk⟩ := List.getElem?_of_mem hy
     rw [List.getElem?_drop] at hk
     have := p2 (p + k) y (by omega) (List.getElem?_eq_some_iff.1 hk).1 hk
     omega
    ·rcases List.mem_cons.1 hz with rfl | hz
     ·obtain ⟨k, hk⟩ := List.getElem?_of_mem hy
      have hkp : k < p := by
       have := (List.getElem?_eq_some_iff.1 hk).1
       simp at this; omega
      rw [List.getElem?_take, if_pos hkp] at hk
      have hlast := List.getElem?_eq_getElem (show p - 1 < out.length by omega)
      have h4 := p3 _ (by omega) hlast
      by_cases e : k = p - 1
      ·subst e; rw [hlast] at hk; cases hk; exact h4
      ·have := (List.pairwise_iff_getElem.1 e3) k (p - 1) (by omega) (by omega) (by omega)
       have e5 := List.getElem?_eq_getElem (show k < out.length by omega)
       rw [e5] at hk; cases hk
       omega
     ·have hz : z ∈ out.drop p := hz
      exact a3 y hy z hz)
  (fun s ⟨e1, e2, e3⟩ => by
   obtain ⟨out, j⟩ := s
   simp only at e1 e2 e3
   subst e1
   rw [List.take_length] at e2
   simp only [cmp_lss, len_def, decide_eq_true_eq]
   rw [if_neg (by omega)]
   exact ⟨_, rfl, e2, e3⟩) ⟨rfl, by simp, .nil⟩ hN
 exact ⟨r, by rw [h1]; rfl, h2⟩
end Go.Ab

namespace Go.Ab
theorem mn_def (a b : Int) : Ar.mn a b = if b < a then b else a := rfl
def Bnd (x : GInterval) : Prop := -1099511627776 ≤ x.Low ∧ x.Low ≤ x.High ∧ x.High ≤ 1099511627776
theorem ord_snoc {l : List GInterval} {x : GInterval} (h : Ord l) (hx : Bnd x) (hl : ∀ y ∈ l, y.High + 2 ≤ x.Low) : Ord (l ++ [x]) := by
 induction l with
 | nil => exact ⟨hx, fun y hy => (by cases hy), trivial⟩
 | cons a l ih =>
  refine ⟨h.1, fun y hy => ?_, ih h.2.2 fun y hy => hl y (by simp [hy])⟩
  rcases List.mem_append.1 hy with hy | hy
  ·exact h.2.1 y hy
  ·simp at hy; subst hy; exact hl a (by simp)
theorem ord_init {l : List GInterval} {x : GInterval} (h : Ord (l ++ [x])) : Ord l ∧ Bnd x ∧ ∀ y ∈ l, y.High + 2 ≤ x.Low := by
 induction l with
 | nil => exact ⟨trivial, h.1, fun y hy => by cases hy⟩
 | cons a l ih =>
  obtain ⟨i1, i2, i3⟩ := ih h.2.2
  refine ⟨⟨h.1, fun y hy => h.2.1 y (by simp [hy]), i1⟩, i2, fun y hy => ?_⟩
  rcases List.mem_cons.1 hy with rfl | hy
  ·exact h.2.1 x (by simp)
  ·exact i3 y hy
structure Jnd (acc : List GInterval) (x : GInterval) (out : List GInterval) : Prop where
 ord : Ord out
 len : out.length ≤ acc.length + 1
 low : ∀ y ∈ out, y.Low ≤ x.Low
 inl : ∀ n, InL out n ↔ InL acc n ∨ (x.Low ≤ n ∧ n ≤ x.High)
theorem jnd_new {acc : List GInterval} {x : GInterval} (ho : Ord acc) (hb : Bnd x) (h : ∀ y ∈ acc, y.High + 1 < x.Low) : Jnd acc x (acc ++ [x]) := by
 refine ⟨ord_snoc ho hb fun y hy => by have := h y hy; omega, by simp, fun y hy => ?_, fun n => ?_⟩
 ·rcases List.mem_append.1 hy with hy | hy
  ·have := h y hy; have := ho.srt' y hy; omega
  ·simp at hy; subst hy; exact Int.le_refl _
 ·rw [inL_app, inL_cons]; simp [inL_nil]
theorem jnd_wide {init : List GInterval} {x y : GInterval} {hi : Int} (ho : Ord (init ++ [y])) (hb : Bnd x) (hl : y.Low ≤ x.Low) (h : x.Low ≤ y.High + 1)
 (hh : hi = if y.High < x.High then x.High else y.High) : Jnd (init ++ [y]) x (init ++ [⟨y.Low, hi⟩]) := by
 obtain ⟨i1, i2, i3⟩ := ord_init ho
 unfold Bnd at i2 hb
 have e : y.High ≤ hi ∧ x.High ≤ hi ∧ (hi = x.High ∨ hi = y.High) := by
  subst hh
  split <;> omega
 refine ⟨ord_snoc i1 ⟨by simp only; omega, by simp only; omega, by simp only; omega⟩ i3, by simp, fun z hz => ?_, fun n => ?_⟩
 ·rcases List.mem_append.1 hz with hz | hz
  ·have := i3 z hz; have := i1.srt' z hz; omega
  ·simp at hz; subst hz; exact hl
 ·rw [inL_app, inL_cons, inL_app, inL_cons, or_assoc]
  simp only [inL_nil, or_false]
  refine or_congr Iff.rfl ?_
  omega
theorem inR_last {α : Type} {l : List α} {x : α} : inR (l ++ [x]) (l.length : Int) = true := by
 unfold inR
 simp only [List.length_append, List.length_singleton, decide_eq_true_eq]; omega
theorem at_last {α : Type} {l : List α} {x : α} : (l ++ [x])[l.length]? = some x := by simp
theorem upd_last {α : Type} {l : List α} {x : α} {u : α → α} : updL (l ++ [x]) (l.length : Int) u = some (l ++ [u x]) := by
 unfold updL
 rw [idx_at, at_last]
 simp
theorem last_i {α : Type} {l : List α} {x : α} (h : l.length ≤ 1000000) : Ar.ar .sub .i64 (((l ++ [x]).length : Nat) : Int) 1 = (l.length : Int) := by
 rw [List.length_append]
 exact sub1 (by omega)
theorem push_step {N : Nat} {acc : List GInterval} {x : GInterval} (ho : Ord acc) (hb : Bnd x) (hl : ∀ y ∈ acc, y.Low ≤ x.Low) (hn : acc.length ≤ 1000000) :
 ∃ out, interval_push N acc x = some out ∧ Jnd acc x out := by
 unfold interval_push
 rcases List.eq_nil_or_concat acc with rfl | ⟨init, y, rfl⟩
 ·refine ⟨[x], ?_, jnd_new (acc := []) ho hb fun y hy => by cases hy⟩
  rw [app_ok (by simp)]
  rfl
 ·rw [List.concat_eq_append] at *
  have hn' : init.length ≤ 1000000 := by simp at hn; omega
  obtain ⟨i1, i2, i3⟩ := ord_init ho
  have hy := hl y (by simp)
  unfold Bnd at i2
  simp only [cmp_gtr, cmp_leq, len_def, last_i hn', inR_last, req, if_true, Option.bind_some, idx_at, at_last, upd_last, decide_eq_true_eq]
  rw [if_pos (by simp), add_i64 (by omega) (by omega)]
  by_cases h : x.Low ≤ y.High + 1
  ·rw [if_pos h]
   exact ⟨_, rfl, jnd_wide ho hb hy h (mx_def _ _)⟩
  ·rw [if_neg h, app_ok (by simp; omega)]
   refine ⟨_, rfl, jnd_new ho hb fun z hz => ?_⟩
   rcases List.mem_append.1 hz with hz | hz
   ·have := i3 z hz; have := i1.srt' z hz; omega
   ·simp at hz; subst hz; omega
end Go.Ab

namespace Go.Ab
theorem bnd_perm {l m : List GInterval} (h : m.Perm l) (hb : ∀ x ∈ l, Bnd x) : ∀ x ∈ m, Bnd x := fun x hx => hb x (h.mem_iff.1 hx)
theorem inL_perm {l m : List GInterval} (h : m.Perm l) (n : Int) : InL m n ↔ InL l n := by
 unfold InL
 constructor
 ·rintro ⟨x, hx, k⟩; exact ⟨x, h.mem_iff.1 hx, k⟩
 ·rintro ⟨x, hx, k⟩; exact ⟨x, h.mem_iff.2 hx, k⟩
theorem inL_take {l : List GInterval} {i : Nat} {x : GInterval} (h : l[i]? = some x) (n : Int) : InL (l.take (i + 1)) n ↔ InL (l.take i) n ∨ (x.Low ≤ n ∧ n ≤ x.High) := by
 have e : l.take (i + 1) = l.take i ++ [x] := by rw [List.take_add_one, h]; rfl
 rw [e, inL_app, inL_cons]; simp [inL_nil]
theorem normal_eq {N : Nat} {l : List GInterval} (hb : ∀ x ∈ l, Bnd x) (hl : l.length ≤ 100000) (hN : l.length < N) :
 ∃ r, ref02_Normal N l = some r ∧ Ord r ∧ r.length ≤ l.length ∧ ∀ n, InL r n ↔ InL l n := by
 unfold ref02_Normal
 obtain ⟨s, hs, hp, hw⟩ := sorted_eq hl hN
 have hsl : s.length = l.length := hp.length_eq
 have hsb := bnd_perm hp hb
 rw [hs]
 simp only [Option.bind_some]
 obtain ⟨r, h1, h2⟩ := loop_inv (N := N) (l := s) (Q := fun (r : List GInterval) => Ord r ∧ r.length ≤ s.length ∧ ∀ n, InL r n ↔ InL s n)
  (I := fun i (t : Int × List GInterval) => t.1 = (i : Int) ∧ Ord t.2 ∧ t.2.length ≤ i ∧ (∀ y ∈ t.2, ∀ (j : Nat) x, i ≤ j → s[j]? = some x → y.Low ≤ x.Low) ∧ ∀ n, InL t.2 n ↔ InL (s.take i) n)
  (s0 := ((0 : Int), ([] : List GInterval)))
  (step := fun (s3 : Int × (List GInterval)) =>
   (
    if Ar.cmp .lss s3.1 (Ar.len s) = true then
     if Ar.cmp .lss (Ar.ar .sub .i64 (Ar.len s3.2) 1) 0 = true then
      (idxL s s3.1).bind fun x6 =>
      (appL s3.2 ([x6])).bind fun l8 =>
      some (.inl (Ar.ar .add .i64 s3.1 1, l8))
     else
      (idxL s s3.1).bind fun x9 =>
      (req (inR s3.2 (Ar.ar .sub .i64 (Ar.len s3.2) 1))).bind fun _ =>
      (idxL s3.2 (Ar.ar .sub .i64 (Ar.len s3.2) 1)).bind fun x10 =>
      if Ar.cmp .gtr x9.Low (Ar.ar .add .i64 x10.High 1) = true then
       (idxL s s3.1).bind fun x11 =>
       (appL s3.2 ([x11])).bind fun l13 =>
       some (.inl (Ar.ar .add .i64 s3.1 1, l13))
      else
       (idxL s s3.1).bind fun x14 =>
       (req (inR s3.2 (Ar.ar .sub .i64 (Ar.len s3.2) 1))).bind fun _ =>
       (idxL s3.2 (Ar.ar .sub .i64 (Ar.len s3.2) 1)).bind fun x15 =>
       if Ar.cmp .gtr x14.High x15.High = true then
        (idxL s s3.1).bind fun x16 =>
        (req (inR s3.2 (Ar.ar .sub .i64 (Ar.len s3.2) 1))).bind fun _ =>
        (updL s3.2 (Ar.ar .sub .i64 (Ar.len s3.2) 1) (fun x17 : GInterval => { x17 with High := x16.High })).bind fun l18 =>
        some (.inl (Ar.ar .add .i64 s3.1 1, l18))
       else
        some (.inl (Ar.ar .add .i64 s3.1 1, s3.2))
    else
     some (.inr s3.2)
    : Option ((Int × (List GInterval)) ⊕ (((List GInterval))))))
  (fun i x t hx hi ⟨e1, e2, e3, e4, e5⟩ => by
   obtain ⟨j, acc⟩ := t
   simp only at e1 e2 e3 e4 e5
   subst e1
   have hxb := hsb x (List.mem_of_getElem? hx)
   have done : ∀ out, Jnd acc x out → ((i + 1 : Nat) : Int) = ((i + 1 : Nat) : Int) ∧ Ord out ∧ out.length ≤ i + 1 ∧ (∀ y ∈ out, ∀ (j : Nat) x, i + 1 ≤ j → s[j]? = some x → y.Low ≤ x.Low) ∧ ∀ n, InL out n ↔ InL (s.take (i + 1)) n := by
    intro out hj
    refine ⟨rfl, hj.ord, by have := hj.len; omega, fun y hy k z hk hz => ?_, fun n => ?_⟩
    ·have q1 := hj.low y hy
     have hkl := (List.getElem?_eq_some_iff.1 hz).1
     have q2 := (List.pairwise_iff_getElem.1 hw) i k (by omega) (by omega) (by omega)
     have e6 := List.getElem?_eq_getElem (show i < s.length by omega)
     rw [e6] at hx; cases hx
     have e7 := List.getElem?_eq_getElem hkl
     rw [e7] at hz; cases hz
     omega
    ·rw [hj.inl, e5, inL_take hx]
   simp only [cmp_lss, cmp_gtr, len_def, idx_at, hx, Option.bind_some, decide_eq_true_eq]
   rw [if_pos (by omega), inc_i64 hi (by omega)]
   rcases List.eq_nil_or_concat acc with rfl | ⟨init, y, rfl⟩
   ·rw [if_pos (by decide), app_ok (by simp)]
    simp only [Option.bind_some]
    exact ⟨_, rfl, done _ (jnd_new (acc := []) e2 hxb fun y hy => by cases hy)⟩
   ·rw [List.concat_eq_append] at *
    have hn' : init.length ≤ 1000000 := by simp at e3; omega
    obtain ⟨i1, i2, i3⟩ := ord_init e2
    have hy := e4 y (by simp) i x (Nat.le_refl _) hx
    unfold Bnd at i2
    simp only [last_i hn', inR_last, req, if_true, Option.bind_some, idx_at, at_last, upd_last]
    rw [if_neg (by omega), add_i64 (by omega) (by omega)]
    by_cases h : y.High + 1 < x.Low
    ·rw [if_pos h, app_ok (by simp; omega)]
     simp only [Option.bind_some]
     refine ⟨_, rfl, done _ (jnd_new e2 hxb fun z hz => ?_)⟩
     rcases List.mem_append.1 hz with hz | hz
     ·have := i3 z hz; have := i1.srt' z hz; omega
     ·simp at hz; subst hz; omega
    ·rw [if_neg h]
     by_cases hh : y.High < x.High
     ·rw [if_pos hh]
      exact ⟨_, rfl, done _ (jnd_wide e2 hxb hy (by omega) (by rw [if_pos hh]))⟩
     ·rw [if_neg hh]
      refine ⟨_, rfl, done _ ?_⟩
      have := jnd_wide (hi := y.High) e2 hxb hy (by omega) (by rw [if_neg hh])
      exact this)
  (fun t ⟨e1, e2, e3, e4, e5⟩ => by
   obtain ⟨j, acc⟩ := t
   simp only at e1 e2 e3 e4 e5
   subst e1
   simp only [cmp_lss, len_def, decide_eq_true_eq]
   rw [if_neg (by omega)]
   rw [List.take_length] at e5
   exact ⟨_, rfl, e2, e3, e5⟩) ⟨rfl, trivial, by simp, fun y hy => by simp at hy, fun n => by simp⟩ (by omega)
 rw [h1]
 exact ⟨r, rfl, h2.1, by omega, fun n => (h2.2.2 n).trans (inL_perm hp n)⟩
theorem both_eq {N : Nat} {a b : List GInterval} (ha : Ord a) (hb : Ord b) (hab : a.length * b.length ≤ 100000) (hal : a.length ≤ 100000) (hbl : b.length ≤ 100000) (hN : 100000 < N) :
 ∃ r, ref02_Both N a b = some r ∧ Ord r ∧ r.length ≤ a.length * b.length ∧ ∀ n, InL r n ↔ InL a n ∧ InL b n := by
 unfold ref02_Both
 obtain ⟨r, h1, h2⟩ := loop_inv (N := N) (l := a) (Q := fun (r : List GInterval) => (∀ x ∈ r, Bnd x) ∧ r.length ≤ a.length * b.length ∧ ∀ n, InL r n ↔ InL a n ∧ InL b n)
  (I := fun i (t : List GInterval × Int) => t.2 = (i : Int) ∧ (∀ x ∈ t.1, Bnd x) ∧ t.1.length ≤ i * b.length ∧ ∀ n, InL t.1 n ↔ InL (a.take i) n ∧ InL b n)
  (s0 := (([] : List GInterval), (0 : Int)))
  (step := fun (s1 : (List GInterval) × Int) =>
   (
    if Ar.cmp .lss s1.2 (Ar.len a) = true then
     (loopN
      (fun (s4 : (List GInterval) × Int) =>
       (
        if Ar.cmp .lss s4.2 (Ar.len b) = true then
         (idxL a s1.2).bind fun x7 =>
         (idxL b s4.2).bind fun x8 =>
         (idxL a s1.2).bind fun x9 =>
         (idxL b s4.2).bind fun x10 =>
         if Ar.cmp .leq (Ar.mx x7.Low x8.Low) (Ar.mn x9.High x10.High) = true then
          (appL s4.1 ([(⟨Ar.mx x7.Low x8.Low, Ar.mn x9.High x10.High⟩ : GInterval)])).bind fun l12 =>
          some (.inl (l12, Ar.ar .add .i64 s4.2 1))
         else
          some (.inl (s4.1, Ar.ar .add .i64 s4.2 1))
        else
         some (.inr s4.1)
        : Option (((List GInterval) × Int) ⊕ (((List GInterval))))))
      N (s1.1, 0)).bind fun s6 =>
     some (.inl (s6, Ar.ar .add .i64 s1.2 1))
    else
     some (.inr s1.1)
    : Option (((List GInterval) × Int) ⊕ (((List GInterval))))))
  (fun i x t hx hi ⟨e1, e2, e3, e4⟩ => by
   obtain ⟨acc, j⟩ := t
   simp only at e1 e2 e3 e4
   subst e1
   have hxb := ha.srt' x (List.mem_of_getElem? hx)
   have hmul : (i + 1) * b.length ≤ a.length * b.length := Nat.mul_le_mul_right _ hi
   have hmul2 : (i + 1) * b.length = i * b.length + b.length := Nat.succ_mul _ _
   obtain ⟨r, k1, k2⟩ := loop_inv (N := N) (l := b) (Q := fun (r : List GInterval) => (∀ x ∈ r, Bnd x) ∧ r.length ≤ (i + 1) * b.length ∧ ∀ n, InL r n ↔ InL (a.take (i + 1)) n ∧ InL b n)
    (I := fun k (t : List GInterval × Int) => t.2 = (k : Int) ∧ (∀ x ∈ t.1, Bnd x) ∧ t.1.length ≤ i * b.length + k ∧ ∀ n, InL t.1 n ↔ InL acc n ∨ (x.Low ≤ n ∧ n ≤ x.High) ∧ InL (b.take k) n)
    (s0 := (acc, (0 : Int)))
    (step := fun (s4 : (List GInterval) × Int) =>
          (
           if Ar.cmp .lss s4.2 (Ar.len b) = true then
            (idxL a (i : Int)).bind fun x7 =>
            (idxL b s4.2).bind fun x8 =>
            (idxL a (i : Int)).bind fun x9 =>
            (idxL b s4.2).bind fun x10 =>
            if Ar.cmp .leq (Ar.mx x7.Low x8.Low) (Ar.mn x9.High x10.High) = true then
             (appL s4.1 ([(⟨Ar.mx x7.Low x8.Low, Ar.mn x9.High x10.High⟩ : GInterval)])).bind fun l12 =>
             some (.inl (l12, Ar.ar .add .i64 s4.2 1))
            else
             some (.inl (s4.1, Ar.ar .add .i64 s4.2 1))
           else
            some (.inr s4.1)
           : Option (((List GInterval) × Int) ⊕ (((List GInterval))))))
    (fun k y u hy hk ⟨f1, f2, f3, f4⟩ => by
     obtain ⟨ac, m⟩ := u
     simp only at f1 f2 f3 f4
     subst f1
     have hyb := hb.srt' y (List.mem_of_getElem? hy)
     simp only [cmp_lss, cmp_leq, len_def, idx_at, hx, hy, Option.bind_some, decide_eq_true_eq, mx_def, mn_def]
     rw [if_pos (by omega), inc_i64 hk (by omega)]
     generalize hlo : (if x.Low < y.Low then y.Low else x.Low) = lo
     generalize hhi : (if y.High < x.High then y.High else x.High) = hi'
     have q1 : (lo = x.Low ∧ y.Low ≤ x.Low) ∨ (lo = y.Low ∧ x.Low ≤ y.Low) := by subst hlo; split <;> omega
     have q2 : (hi' = x.High ∧ x.High ≤ y.High) ∨ (hi' = y.High ∧ y.High ≤ x.High) := by subst hhi; split <;> omega
     by_cases h : lo ≤ hi'
     ·rw [if_pos h, app_ok (by simp; omega)]
      refine ⟨_, rfl, rfl, fun z hz => ?_, by simp; omega, fun n => ?_⟩
      ·rcases List.mem_append.1 hz with hz | hz
       ·exact f2 z hz
       ·simp at hz; subst hz; exact ⟨by simp only; omega, by simp only; omega, by simp only; omega⟩
      ·rw [inL_app, f4, inL_take hy, inL_cons]
       simp only [inL_nil, or_false]
       rw [or_assoc]
       refine or_congr Iff.rfl ?_
       by_cases hc : InL (b.take k) n
       ·simp only [hc, and_true, true_or]; omega
       ·simp only [hc, and_false, false_or]; omega
     ·rw [if_neg h]
      refine ⟨_, rfl, rfl, f2, by simp only; omega, fun n => ?_⟩
      rw [f4, inL_take hy]
      refine or_congr Iff.rfl ?_
      by_cases hc : InL (b.take k) n
      ·simp only [hc, and_true, true_or]
      ·simp only [hc, and_false, false_or, false_iff]; omega)
    (fun u ⟨f1, f2, f3, f4⟩ => by
     obtain ⟨ac, m⟩ := u
     simp only at f1 f2 f3 f4
     subst f1
     simp only [cmp_lss, len_def, decide_eq_true_eq]
     rw [if_neg (by omega)]
     rw [List.take_length] at f4
     refine ⟨_, rfl, f2, by omega, fun n => ?_⟩
     rw [f4, e4, inL_take hx]
     by_cases hc : InL b n
     ·simp only [hc, and_true]
     ·simp only [hc, and_false, or_false])
    ⟨rfl, e2, by simp only; omega, fun n => by simp [inL_nil]⟩ (by omega)
   simp only [cmp_lss, len_def, decide_eq_true_eq] at k1 ⊢
   rw [if_pos (by omega), inc_i64 hi (by omega), k1]
   exact ⟨_, rfl, rfl, k2⟩)
  (fun t ⟨e1, e2, e3, e4⟩ => by
   obtain ⟨acc, j⟩ := t
   simp only at e1 e2 e3 e4
   subst e1
   simp only [cmp_lss, len_def, decide_eq_true_eq]
   rw [if_neg (by omega)]
   rw [List.take_length] at e4
   exact ⟨_, rfl, e2, e3, e4⟩) ⟨rfl, fun x hx => by simp at hx, by simp, fun n => by simp [inL_nil]⟩ (by omega)
 rw [h1]
 obtain ⟨h2, h3, h4⟩ := h2
 obtain ⟨m, m1, m2, m3, m4⟩ := normal_eq (N := N) h2 (by omega) (by omega)
 simp only [Option.bind_some, m1]
 exact ⟨m, rfl, m2, by omega, fun n => (m4 n).trans (h4 n)⟩
end Go.Ab

namespace Go.Ab
open Go.Lib
theorem compact_asc {zs : List Int} (h : zs.Pairwise (· ≤ ·)) : (Lib.compact zs).Pairwise (· < ·) := by
 have at_ : ∀ i, (hi : i < zs.length) → zs.toArray[i]! = zs[i] := fun i hi => by simp [hi]
 have key : ∀ m, m ≤ zs.length → (compactUpTo zs.toArray m).Pairwise (· < ·) ∧ ∀ x ∈ compactUpTo zs.toArray m, 0 < m ∧ x ≤ zs.toArray[m - 1]! := by
  intro m
  induction m with
  | zero => intro _; exact ⟨by simp [compactUpTo], fun x hx => by simp [compactUpTo] at hx⟩
  | succ m ih =>
   intro hm
   obtain ⟨h1, h2⟩ := ih (by omega)
   have hle : 0 < m → zs.toArray[m - 1]! ≤ zs.toArray[m]! := fun h0 => by
    rw [at_ (m - 1) (by omega), at_ m (by omega)]
    exact (List.pairwise_iff_getElem.1 h) (m - 1) m (by omega) (by omega) (by omega)
   rw [compactUpTo_succ]
   by_cases hk : keeps zs.toArray m = true
   ·rw [if_pos hk]
    have hlt : ∀ x ∈ compactUpTo zs.toArray m, x < zs.toArray[m]! := fun x hx => by
     obtain ⟨h0, h3⟩ := h2 x hx
     have h4 := hle h0
     have : zs.toArray[m]! ≠ zs.toArray[m - 1]! := fun e => by
      rw [keeps_neg h0 e] at hk; cases hk
     omega
    refine ⟨List.pairwise_append.2 ⟨h1, by simp, fun x hx y hy => ?_⟩, fun x hx => ⟨by omega, ?_⟩⟩
    ·simp only [List.mem_singleton] at hy; subst hy; exact hlt x hx
    ·rw [Nat.add_sub_cancel]
     rcases List.mem_append.1 hx with hx | hx
     ·have := hlt x hx; omega
     ·simp only [List.mem_singleton] at hx; subst hx; exact Int.le_refl _
   ·rw [if_neg hk, List.append_nil]
    refine ⟨h1, fun x hx => ⟨by omega, ?_⟩⟩
    obtain ⟨h0, h3⟩ := h2 x hx
    have := hle h0
    rw [Nat.add_sub_cancel]; omega
 exact (key zs.length (Nat.le_refl _)).1
theorem cpt_len (zs : List Int) : (Lib.compact zs).length ≤ zs.length := by
 unfold Lib.compact Lib.compactUpTo
 rw [List.length_map]
 exact Nat.le_trans (List.length_filter_le ..) (by simp)
theorem mem_compact {zs : List Int} {x : Int} : x ∈ Lib.compact zs ↔ x ∈ zs := by
 unfold Lib.compact Lib.compactUpTo
 rw [List.mem_map]
 constructor
 ·rintro ⟨j, hj, rfl⟩
  have hj := List.mem_range.1 (List.mem_filter.1 hj).1
  simp [hj]
 ·intro hx
  obtain ⟨i, hi, rfl⟩ := List.mem_iff_getElem.1 hx
  have key : ∀ (n i : Nat) (hi : i < zs.length), i ≤ n → ∃ a, a ∈ (List.range zs.length).filter (keeps zs.toArray) ∧ zs.toArray[a]! = zs[i] := fun n => by
   induction n with
   | zero =>
    intro i hi h
    have : i = 0 := by omega
    subst this
    exact ⟨0, List.mem_filter.2 ⟨List.mem_range.2 hi, keeps_lt_one _ 0 (by omega)⟩, by simp [hi]⟩
   | succ n ih =>
    intro i hi h
    by_cases hk : keeps zs.toArray i = true
    ·exact ⟨i, List.mem_filter.2 ⟨List.mem_range.2 hi, hk⟩, by simp [hi]⟩
    ·by_cases h0 : i = 0
     ·subst h0; exact absurd (keeps_lt_one _ 0 (by omega)) hk
     ·obtain ⟨a, ha, e⟩ := ih (i - 1) (by omega) (by omega)
      refine ⟨a, ha, e.trans ?_⟩
      have h2 : zs.toArray[i]! = zs.toArray[i - 1]! := Classical.not_not.1 fun hne => hk (keeps_pos hne)
      have e1 : zs.toArray[i]! = zs[i] := by simp [hi]
      have e2 : zs.toArray[i - 1]! = zs[i - 1] := by simp [show i - 1 < zs.length by omega]
      rw [← e1, ← e2, h2]
  exact key i i hi (Nat.le_refl _)
theorem mem_sortL {l r : List Int} (h : sortL l = some r) {x : Int} : x ∈ r ↔ x ∈ l := by
 obtain ⟨_, rfl⟩ := sortL_some h
 exact (List.mergeSort_perm l _).mem_iff
theorem asc_sortL {l r : List Int} (h : sortL l = some r) : r.Pairwise (· ≤ ·) ∧ r.length = l.length := by
 obtain ⟨_, rfl⟩ := sortL_some h
 have hs := List.pairwise_mergeSort (le := fun x y : Int => decide (x ≤ y)) (fun a b c => by simp; omega) (fun a b => by simp; omega) l
 exact ⟨hs.imp fun h => by simpa using h, List.length_mergeSort ..⟩
def ends (l : List GInterval) : List Int := l.flatMap fun x => [x.Low, x.High + 1]
theorem mem_ends {l : List GInterval} {n : Int} : n ∈ ends l ↔ ∃ x ∈ l, n = x.Low ∨ n = x.High + 1 := by
 unfold ends; simp
theorem ends_len (l : List GInterval) : (ends l).length = 2 * l.length := by
 induction l with
 | nil => rfl
 | cons x l ih => unfold ends at *; simp at *; omega
theorem concat2_eq {N : Nat} {a b : List GInterval} (h : a.length + b.length ≤ 100000) (hN : 10 < N) : slices_Concat_LInterval_Interval N [a, b] = some (a ++ b) := by
 obtain ⟨M, rfl⟩ : ∃ M, N = M + 3 := ⟨N - 3, by omega⟩
 have e0 : Ar.ar .add .i64 (0 : Int) 1 = 1 := rfl
 have e1 : Ar.ar .add .i64 (1 : Int) 1 = 2 := rfl
 have e2 : Ar.ar .add .i64 (0 : Int) (a.length : Int) = (a.length : Int) := by rw [add_i64 (by omega) (by omega)]; omega
 have e3 : Ar.ar .add .i64 (a.length : Int) (b.length : Int) = ((a.length + b.length : Nat) : Int) := by rw [add_i64 (by omega) (by omega)]; omega
 have i0 : idxL [a, b] 0 = some a := rfl
 have i1 : idxL [a, b] 1 = some b := rfl
 have l2 : Ar.len [a, b] = (2 : Int) := rfl
 have g : slices_Grow_LInterval_Interval (M + 3) [] ((a.length + b.length : Nat) : Int) = some [] := by
  unfold slices_Grow_LInterval_Interval growL
  rw [if_pos (by omega)]
 unfold slices_Concat_LInterval_Interval
 simp only [loopN, l2, cmp_lss, i0, i1, e0, e1, e2, e3, len_def, Option.bind_some, show decide ((0 : Int) < 2) = true from rfl, show decide ((1 : Int) < 2) = true from rfl, show decide ((2 : Int) < 2) = false from rfl, if_true, Bool.false_eq_true, if_false,
  show decide ((a.length : Int) < 0) = false from decide_eq_false (by omega), show decide (((a.length + b.length : Nat) : Int) < 0) = false from decide_eq_false (by omega), g, app_ok (l := ([] : List GInterval)) (m := a) (by simp; omega), List.nil_append, app_ok (l := a) (m := b) (by omega)]
theorem ends_loop {N : Nat} {l : List GInterval} (hb : ∀ x ∈ l, Bnd x) (hl : l.length ≤ 100000) (hN : l.length < N) : loopN
 (fun (s3 : Int × (List Int)) =>
  (
   if Ar.cmp .lss s3.1 (Ar.len l) = true then
    (idxL l s3.1).bind fun x6 =>
    (appL s3.2 ([x6.Low, Ar.ar .add .i64 x6.High 1])).bind fun l8 =>
    some (.inl (Ar.ar .add .i64 s3.1 1, l8))
   else
    some (.inr s3.2)
   : Option ((Int × (List Int)) ⊕ (((List Int))))))
 N (0, ([] : List Int)) = some (ends l) := by
 obtain ⟨r, h1, h2⟩ := loop_inv (N := N) (l := l) (Q := fun (r : List Int) => r = ends l)
  (I := fun i (t : Int × List Int) => t.1 = (i : Int) ∧ t.2 = ends (l.take i))
  (s0 := ((0 : Int), ([] : List Int)))
  (step := fun (s3 : Int × (List Int)) =>
   (
    if Ar.cmp .lss s3.1 (Ar.len l) = true then
     (idxL l s3.1).bind fun x6 =>
     (appL s3.2 ([x6.Low, Ar.ar .add .i64 x6.High 1])).bind fun l8 =>
     some (.inl (Ar.ar .add .i64 s3.1 1, l8))
    else
     some (.inr s3.2)
    : Option ((Int × (List Int)) ⊕ (((List Int))))))
  (fun i x t hx hi ⟨e1, e2⟩ => by
   obtain ⟨j, acc⟩ := t
   simp only at e1 e2
   subst e1; subst e2
   have hxb := hb x (List.mem_of_getElem? hx)
   unfold Bnd at hxb
   have hln : (ends (l.take i)).length ≤ 200000 := by rw [ends_len, List.length_take]; omega
   simp only [cmp_lss, len_def, idx_at, hx, Option.bind_some, decide_eq_true_eq]
   rw [if_pos (by omega), inc_i64 hi (by omega), app_ok (by simp; omega), add_i64 (by omega) (by omega)]
   refine ⟨_, rfl, rfl, ?_⟩
   have e : l.take (i + 1) = l.take i ++ [x] := by rw [List.take_add_one, hx]; rfl
   rw [e]; simp [ends])
  (fun t ⟨e1, e2⟩ => by
   obtain ⟨j, acc⟩ := t
   simp only at e1 e2
   subst e1; subst e2
   simp only [cmp_lss, len_def, decide_eq_true_eq]
   rw [if_neg (by omega), List.take_length]
   exact ⟨_, rfl, rfl⟩) ⟨rfl, by simp [ends]⟩ hN
 rw [h1, h2]
theorem inL_step {l : List GInterval} {E : List Int} {i : Nat} {p q n : Int} (hE : ∀ x ∈ l, x.Low ∈ E ∧ x.High + 1 ∈ E) (hasc : E.Pairwise (· < ·)) (hp : E[i]? = some p) (hq : E[i + 1]? = some q) (h1 : p ≤ n) (h2 : n < q) : InL l n ↔ InL l p := by
 have gap : ∀ m ∈ E, m ≤ n ↔ m ≤ p := fun m hm => by
  obtain ⟨k, hk⟩ := List.getElem?_of_mem hm
  have hkl := (List.getElem?_eq_some_iff.1 hk)
  have hpl := (List.getElem?_eq_some_iff.1 hp)
  have hql := (List.getElem?_eq_some_iff.1 hq)
  obtain ⟨a1, a2⟩ := hkl; obtain ⟨b1, b2⟩ := hpl; obtain ⟨c1, c2⟩ := hql
  constructor
  ·intro h
   rcases Nat.lt_or_ge i k with h' | h'
   ·have : q ≤ m := by
     by_cases e : k = i + 1
     ·subst e; omega
     ·have := (List.pairwise_iff_getElem.1 hasc) (i + 1) k c1 a1 (by omega)
      omega
    omega
   ·by_cases e : k = i
    ·subst e; omega
    ·have := (List.pairwise_iff_getElem.1 hasc) k i a1 b1 (by omega)
     omega
  ·intro h; omega
 unfold InL
 constructor
 ·rintro ⟨x, hx, k1, k2⟩
  obtain ⟨g1, g2⟩ := hE x hx
  refine ⟨x, hx, (gap _ g1).1 k1, ?_⟩
  have := gap _ g2
  omega
 ·rintro ⟨x, hx, k1, k2⟩
  obtain ⟨g1, g2⟩ := hE x hx
  refine ⟨x, hx, (gap _ g1).2 k1, ?_⟩
  have := gap _ g2
  omega
theorem sweep_eq {N : Nat} {a b : List GInterval} {bel : Bool → Bool → Option Bool} {f : Bool → Bool → Bool} (hf : ∀ x y, bel x y = some (f x y)) (hff : f false false = false)
 (ha : Srt a) (hb : Srt b) (hN : 2000 < N) {P : Int → Prop} (hP : ∀ n x y, (x = true ↔ InL a n) → (y = true ↔ InL b n) → (f x y = true ↔ P n)) :
 ∃ r, interval_sweep N a b bel = some r ∧ Ord r ∧ r.length ≤ 2 * (a.length + b.length) ∧ ∀ n, InL r n ↔ P n := by
 have hal := ha.1
 have hbl := hb.1
 have hbd : ∀ x ∈ a ++ b, Bnd x := fun x hx => by
  rcases List.mem_append.1 hx with hx | hx
  ·exact ha.2.1 x hx
  ·exact hb.2.1 x hx
 unfold interval_sweep
 rw [concat2_eq (by omega) (by omega)]
 simp only [Option.bind_some]
 rw [ends_loop hbd (by simp; omega) (by simp; omega)]
 simp only [Option.bind_some]
 have hel : (ends (a ++ b)).length = 2 * (a.length + b.length) := by rw [ends_len, List.length_append]
 obtain ⟨S, hS⟩ : ∃ S, sortL (ends (a ++ b)) = some S := ⟨_, by unfold sortL; rw [if_pos (by omega)]⟩
 obtain ⟨hasc, hSl⟩ := asc_sortL hS
 have hC : compactL S = some (Lib.compact S) := by unfold compactL; rw [if_pos (by omega)]
 unfold slices_Sort_Lint_int slices_Compact_Lint_int
 rw [hS]
 simp only [Option.bind_some, hC]
 have hEasc := compact_asc hasc
 have hEl := cpt_len S
 have hEm : ∀ m, m ∈ Lib.compact S ↔ m ∈ ends (a ++ b) := fun m => mem_compact.trans (mem_sortL hS)
 generalize Lib.compact S = E at hEasc hEl hEm
 have hEa : ∀ x ∈ a, x.Low ∈ E ∧ x.High + 1 ∈ E := fun x hx => ⟨(hEm _).2 (mem_ends.2 ⟨x, by simp [hx], .inl rfl⟩), (hEm _).2 (mem_ends.2 ⟨x, by simp [hx], .inr rfl⟩)⟩
 have hEb : ∀ x ∈ b, x.Low ∈ E ∧ x.High + 1 ∈ E := fun x hx => ⟨(hEm _).2 (mem_ends.2 ⟨x, by simp [hx], .inl rfl⟩), (hEm _).2 (mem_ends.2 ⟨x, by simp [hx], .inr rfl⟩)⟩
 have hEbd : ∀ m ∈ E, -1099511627776 ≤ m ∧ m ≤ 1099511627777 := fun m hm => by
  obtain ⟨x, hx, e⟩ := mem_ends.1 ((hEm m).1 hm)
  have := hbd x hx
  unfold Bnd at this
  omega
 have noB : ∀ n, ¬ InL a n → ¬ InL b n → ¬ P n := fun n h1 h2 h => by
  have := (hP n false false (by simp [h1]) (by simp [h2])).2 h
  rw [hff] at this; cases this
 obtain ⟨r, h1, h2⟩ := loop_inv (N := N) (l := List.range (E.length - 1)) (Q := fun (r : List GInterval) => Ord r ∧ r.length ≤ E.length ∧ ∀ n, InL r n ↔ P n)
  (I := fun i (t : Int × List GInterval) => t.1 = (i : Int) ∧ Ord t.2 ∧ t.2.length ≤ i ∧ (∀ y ∈ t.2, ∀ p, E[i]? = some p → y.Low ≤ p) ∧ ∀ n, InL t.2 n ↔ (P n ∧ ∃ p, E[i]? = some p ∧ n < p))
  (s0 := ((0 : Int), ([] : List GInterval)))
  (step := fun (s14 : Int × (List GInterval)) =>
   (
    if Ar.cmp .lss (Ar.ar .add .i64 s14.1 1) (Ar.len E) = true then
     (req (inR E s14.1)).bind fun _ =>
     (idxL E s14.1).bind fun x17 =>
     (interval_has N a x17).bind fun r18 =>
     (req (inR E s14.1)).bind fun _ =>
     (idxL E s14.1).bind fun x19 =>
     (interval_has N b x19).bind fun r20 =>
     (bel r18 r20).bind fun r21 =>
     if r21 = true then
      (req (inR E s14.1)).bind fun _ =>
      (idxL E s14.1).bind fun x22 =>
      (req (inR E (Ar.ar .add .i64 s14.1 1))).bind fun _ =>
      (idxL E (Ar.ar .add .i64 s14.1 1)).bind fun x23 =>
      (interval_push N s14.2 (⟨x22, Ar.ar .sub .i64 x23 1⟩ : GInterval)).bind fun l24 =>
      some (.inl (Ar.ar .add .i64 s14.1 1, l24))
     else
      some (.inl (Ar.ar .add .i64 s14.1 1, s14.2))
    else
     some (.inr s14.2)
    : Option ((Int × (List GInterval)) ⊕ (((List GInterval))))))
  (fun i x t hx hi ⟨e1, e2, e3, e4, e5⟩ => by
   obtain ⟨j, acc⟩ := t
   simp only at e1 e2 e3 e4 e5
   subst e1
   rw [List.length_range] at hi
   have hp := List.getElem?_eq_getElem (show i < E.length by omega)
   have hq := List.getElem?_eq_getElem (show i + 1 < E.length by omega)
   have hpq := (List.pairwise_iff_getElem.1 hEasc) i (i + 1) (by omega) (by omega) (by omega)
   have bp := hEbd _ (List.getElem_mem (show i < E.length by omega))
   have bq := hEbd _ (List.getElem_mem (show i + 1 < E.length by omega))
   generalize E[i] = p at hp hpq bp
   generalize E[i + 1] = q at hq hpq bq
   have in1 : inR E (i : Int) = true := by unfold inR; simp only [decide_eq_true_eq]; omega
   have in2 : inR E ((i + 1 : Nat) : Int) = true := by unfold inR; simp only [decide_eq_true_eq]; omega
   obtain ⟨va, k1, k2⟩ := has_eq (N := N) (n := p) ha (by omega)
   obtain ⟨vb, k3, k4⟩ := has_eq (N := N) (n := p) hb (by omega)
   have hstep : ∀ n, p ≤ n → n < q → (P n ↔ P p) := fun n g1 g2 => by
    have := hP n va vb (k2.trans (inL_step hEa hEasc hp hq g1 g2).symm) (k4.trans (inL_step hEb hEasc hp hq g1 g2).symm)
    exact this.symm.trans (hP p va vb k2 k4)
   simp only [cmp_lss, len_def, decide_eq_true_eq]
   rw [inc_i64 hi (by omega), if_pos (by omega)]
   simp only [in1, in2, req, if_true, Option.bind_some, idx_at, hp, hq, k1, k3, hf]
   by_cases hc : f va vb = true
   ·have hPp := (hP p va vb k2 k4).1 hc
    rw [if_pos hc]
    have hsub : Ar.ar .sub .i64 q 1 = q - 1 := wrap_i64 (by omega) (by omega)
    rw [hsub]
    obtain ⟨out, o1, o2⟩ := push_step (N := N) (acc := acc) (x := ⟨p, q - 1⟩) e2 ⟨by simp only; omega, by simp only; omega, by simp only; omega⟩ (fun y hy => e4 y hy p hp) (by omega)
    rw [o1]
    refine ⟨_, rfl, rfl, o2.ord, by have := o2.len; simp only; omega, fun y hy z hz => ?_, fun n => ?_⟩
    ·cases hz
     have := o2.low y hy
     simp only at this; omega
    ·rw [o2.inl, e5]
     simp only [hp, hq, Option.some.injEq, exists_eq_left']
     constructor
     ·rintro (⟨g1, g2⟩ | ⟨g1, g2⟩)
      ·exact ⟨g1, by omega⟩
      ·exact ⟨(hstep n g1 (by omega)).2 hPp, by omega⟩
     ·rintro ⟨g1, g2⟩
      by_cases h : n < p
      ·exact .inl ⟨g1, h⟩
      ·exact .inr ⟨by omega, by omega⟩
   ·rw [if_neg hc]
    have hPp : ¬ P p := fun h => hc ((hP p va vb k2 k4).2 h)
    refine ⟨_, rfl, rfl, e2, by simp only; omega, fun y hy z hz => ?_, fun n => ?_⟩
    ·cases hz
     have := e4 y hy p hp
     omega
    ·rw [e5]
     simp only [hp, hq, Option.some.injEq, exists_eq_left']
     constructor
     ·rintro ⟨g1, g2⟩; exact ⟨g1, by omega⟩
     ·rintro ⟨g1, g2⟩
      refine ⟨g1, ?_⟩
      rcases Int.lt_or_le n p with h | h
      ·exact h
      ·exact absurd ((hstep n h g2).1 g1) hPp)
  (fun t ⟨e1, e2, e3, e4, e5⟩ => by
   obtain ⟨j, acc⟩ := t
   simp only at e1 e2 e3 e4 e5
   rw [List.length_range] at e1 e3 e4 e5
   subst e1
   have hinc : Ar.ar .add .i64 ((E.length - 1 : Nat) : Int) 1 = ((E.length - 1 + 1 : Nat) : Int) := inc_i64 (n := E.length + 1) (by omega) (by omega)
   simp only [cmp_lss, len_def, hinc, decide_eq_true_eq]
   rw [if_neg (by omega)]
   refine ⟨_, rfl, e2, by omega, fun n => (e5 n).trans ⟨fun h => h.1, fun h => ⟨h, ?_⟩⟩⟩
   have above : ∀ x, x ∈ a ∨ x ∈ b → x.Low ≤ n → n ≤ x.High → ∃ p, E[E.length - 1]? = some p ∧ n < p := fun x hx g1 g2 => by
    have hm : x.High + 1 ∈ E := by rcases hx with hx | hx; exact (hEa x hx).2; exact (hEb x hx).2
    obtain ⟨k, hk⟩ := List.getElem?_of_mem hm
    obtain ⟨a1, a2⟩ := List.getElem?_eq_some_iff.1 hk
    refine ⟨_, List.getElem?_eq_getElem (show E.length - 1 < E.length by omega), ?_⟩
    by_cases e : k = E.length - 1
    ·subst e; omega
    ·have := (List.pairwise_iff_getElem.1 hEasc) k (E.length - 1) a1 (by omega) (by omega)
     omega
   by_cases g : InL a n
   ·obtain ⟨x, hx, g1, g2⟩ := g
    exact above x (.inl hx) g1 g2
   ·by_cases g' : InL b n
    ·obtain ⟨x, hx, g1, g2⟩ := g'
     exact above x (.inr hx) g1 g2
    ·exact absurd h (noB n g g'))
  ⟨rfl, trivial, by simp, fun y hy => by simp at hy, fun n => by
   simp only [inL_nil, false_iff, not_and]
   rintro h ⟨p, hp, hn⟩
   have first : ∀ m ∈ E, p ≤ m := fun m hm => by
    obtain ⟨k, hk⟩ := List.getElem?_of_mem hm
    obtain ⟨a1, a2⟩ := List.getElem?_eq_some_iff.1 hk
    obtain ⟨b1, b2⟩ := List.getElem?_eq_some_iff.1 hp
    by_cases e : k = 0
    ·subst e; omega
    ·have := (List.pairwise_iff_getElem.1 hEasc) 0 k b1 a1 (by omega)
     omega
   refine noB n ?_ ?_ h
   ·rintro ⟨x, hx, g1, g2⟩; have := first _ (hEa x hx).1; omega
   ·rintro ⟨x, hx, g1, g2⟩; have := first _ (hEb x hx).1; omega⟩ (by rw [List.length_range]; omega)
 rw [h1]
 obtain ⟨h2, h3, h4⟩ := h2
 exact ⟨r, rfl, h2, by omega, h4⟩
end Go.Ab

