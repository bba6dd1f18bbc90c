/- GPL20 GPL21 -/
import Derived.Test.YtpapabjndpgcnaaGreatT39
set_option linter.all false

namespace Go.Ab
open Classical
theorem put_eq {out : List GPredicate} {c i k : Nat} {E : List Int} {p : GPredicate} {s : List GInterval} {a b : Int} (hc : out[c]? = some p) (hs : p.Sets[i]? = some s) (ha : E[k]? = some a) (hb : E[k + 1]? = some b) (hbb : -1099511627776 ≤ b ∧ b ≤ 1099511627777) (hk : k < 1000000) (hl : s.length ≤ 1000000) :
 predicate_put out (c : Int) (i : Int) E (k : Int) = some (out.set c ⟨p.Sets.set i (s ++ [⟨a, b - 1⟩])⟩) := by
 have hil := (List.getElem?_eq_some_iff.1 hs).1
 have hsub : Ar.ar .sub .i64 b 1 = b - 1 := wrap_i64 (by omega) (by omega)
 unfold predicate_put getC setC
 simp only [idx_at, hc, hs, ha, Option.bind_some]
 rw [inc_i64 (n := k + 1) (by omega) (by omega), idx_at, hb]
 simp only [Option.bind_some, hsub]
 rw [app_ok (by simp; omega)]
 simp only [Option.bind_some]
 rw [if_pos (by omega)]
 simp
theorem asc_first {E : List Int} (h : E.Pairwise (· < ·)) {m : Int} (hm : m ∈ E) (hle : ∀ x ∈ E, m ≤ x) : E[0]? = some m := by
 cases E with
 | nil => cases hm
 | cons x E =>
  rcases List.mem_cons.1 hm with rfl | hm
  ·rfl
  ·have h1 := (List.pairwise_cons.1 h).1 m hm
   have h2 := hle x (by simp)
   omega
theorem asc_last {E : List Int} (h : E.Pairwise (· < ·)) {m : Int} (hm : m ∈ E) (hle : ∀ x ∈ E, x ≤ m) : E[E.length - 1]? = some m := by
 obtain ⟨k, hk⟩ := List.getElem?_of_mem hm
 obtain ⟨h1, h2⟩ := List.getElem?_eq_some_iff.1 hk
 by_cases e : k = E.length - 1
 ·rw [← e]; exact hk
 ·have h3 := (List.pairwise_iff_getElem.1 h) k (E.length - 1) h1 (by omega) (by omega)
  have h4 := hle _ (List.getElem_mem (show E.length - 1 < E.length by omega))
  omega
theorem sg_step {types k : Nat} {l : List GPredicate} (hg : Gd types k l) {i : Nat} (hi : i < types) {E : List Int} (hE : E.Pairwise (· < ·)) (hm : ∀ m, m ∈ E ↔ m = -1099511627776 ∨ m = 1099511627777 ∨ m ∈ endsP l i)
 {q : Nat} {a b : Int} (ha : E[q]? = some a) (hb : E[q + 1]? = some b) : ∀ n, a ≤ n → n < b → sg l i n = sg l i a := by
 intro n h1 h2
 refine sg_eq_iff.2 fun p hp => inL_step (fun x hx => ?_) hE ha hb h1 h2
 have hx1 : ∀ m, (m = x.Low ∨ m = x.High + 1) → m ∈ endsP l i := fun m hm => by
  unfold endsP
  exact List.mem_flatMap.2 ⟨p, hp, mem_ends.2 ⟨x, hx, hm⟩⟩
 exact ⟨(hm _).2 (.inr (.inr (hx1 _ (.inl rfl)))), (hm _).2 (.inr (.inr (hx1 _ (.inr rfl))))⟩
theorem Cls0.btsW {types B i k : Nat} {l : List GPredicate} {a : Int} {out : List GPredicate} {W : List (List Int)} (h : Cls0 types l B i k a out W) : ∀ w ∈ W, Bts w := fun w hw => by
 obtain ⟨j, n, rfl⟩ := h.bits w hw
 exact sg_bits
theorem mint_inner {N types k B : Nat} {l : List GPredicate} (hg : Gd types k l) {i : Nat} (hi : i < types) (hl : l.length ≤ 256) (hty : types ≤ 1000) (hN : 1000000 < N) {E : List Int} (hE : E.Pairwise (· < ·))
 (hm : ∀ m, m ∈ E ↔ m = -1099511627776 ∨ m = 1099511627777 ∨ m ∈ endsP l i) (hEl : E.length ≤ B + 1) (hB : B ≤ 200000) {out0 : List GPredicate} {W0 : List (List Int)} (h0 : Cls types l B i 0 (-1099511627776) out0 W0) (hol : ∀ W : List (List Int), W.Nodup → (∀ w ∈ W, ∃ j n, w = sg l j n) → W.length ≤ 100000) :
 ∃ out W, loopN
  (fun (s13 : (List GPredicate) × Int × (List (ByteArray × Int))) =>
   (
    if Ar.cmp .lss (Ar.ar .add .i64 s13.2.1 1) (Ar.len E) = true then
     (idxL E s13.2.1).bind fun x17 =>
     (predicate_signature N l (i : Int) x17).bind fun r18 =>
     (getM s13.2.2 r18 (0 : Int)).bind fun r19 =>
     if Ar.nt r19.2 = true then
      (setM s13.2.2 r18 (Ar.len s13.1)).bind fun l21 =>
      (mkL (types : Int) (types : Int) ([] : List GInterval)).bind fun l22 =>
      (appL s13.1 ([(⟨l22⟩ : GPredicate)])).bind fun l23 =>
      (predicate_put l23 (Ar.len s13.1) (i : Int) E s13.2.1).bind fun l24 =>
      some (.inl (l24, Ar.ar .add .i64 s13.2.1 1, l21))
     else
      (predicate_put s13.1 r19.1 (i : Int) E s13.2.1).bind fun l24 =>
      some (.inl (l24, Ar.ar .add .i64 s13.2.1 1, s13.2.2))
    else
     some (.inr (s13.1, s13.2.2))
    : Option (((List GPredicate) × Int × (List (ByteArray × Int))) ⊕ (((List GPredicate) × (List (ByteArray × Int)))))))
  N (out0, 0, mapW 0 W0) = some (out, mapW 0 W) ∧ Cls types l B (i + 1) 0 (-1099511627776) out W := by
 have hEb : ∀ m ∈ E, -1099511627776 ≤ m ∧ m ≤ 1099511627777 := fun m h => by
  rcases (hm m).1 h with rfl | rfl | h
  ·omega
  ·omega
  ·unfold endsP at h
   obtain ⟨p, hp, hx⟩ := List.mem_flatMap.1 h
   obtain ⟨x, hx, e⟩ := mem_ends.1 hx
   have := (hg.at hp hi).2.1.2.1 x hx
   omega
 have hE0 := asc_first hE ((hm _).2 (.inl rfl)) fun x hx => (hEb x hx).1
 have hEn := asc_last hE ((hm _).2 (.inr (.inl rfl))) fun x hx => (hEb x hx).2
 have hE2 : 2 ≤ E.length := by
  obtain ⟨h1, _⟩ := List.getElem?_eq_some_iff.1 hE0
  by_cases e : E.length = 1
  ·rw [e, hE0] at hEn; cases hEn
  ·omega
 obtain ⟨r, h1, h2⟩ := loop_inv (N := N) (l := List.range (E.length - 1)) (Q := fun (r : List GPredicate × List (ByteArray × Int)) => ∃ W, r.2 = mapW 0 W ∧ Cls types l B (i + 1) 0 (-1099511627776) r.1 W)
  (I := fun q (t : List GPredicate × Int × List (ByteArray × Int)) => t.2.1 = (q : Int) ∧ ∃ W a, t.2.2 = mapW 0 W ∧ E[q]? = some a ∧ Cls types l B i q a t.1 W)
  (s0 := (out0, (0 : Int), mapW 0 W0))
  (step := fun (s13 : (List GPredicate) × Int × (List (ByteArray × Int))) =>
        (
         if Ar.cmp .lss (Ar.ar .add .i64 s13.2.1 1) (Ar.len E) = true then
          (idxL E s13.2.1).bind fun x17 =>
          (predicate_signature N l (i : Int) x17).bind fun r18 =>
          (getM s13.2.2 r18 (0 : Int)).bind fun r19 =>
          if Ar.nt r19.2 = true then
           (setM s13.2.2 r18 (Ar.len s13.1)).bind fun l21 =>
           (mkL (types : Int) (types : Int) ([] : List GInterval)).bind fun l22 =>
           (appL s13.1 ([(⟨l22⟩ : GPredicate)])).bind fun l23 =>
           (predicate_put l23 (Ar.len s13.1) (i : Int) E s13.2.1).bind fun l24 =>
           some (.inl (l24, Ar.ar .add .i64 s13.2.1 1, l21))
          else
           (predicate_put s13.1 r19.1 (i : Int) E s13.2.1).bind fun l24 =>
           some (.inl (l24, Ar.ar .add .i64 s13.2.1 1, s13.2.2))
         else
          some (.inr (s13.1, s13.2.2))
         : Option (((List GPredicate) × Int × (List (ByteArray × Int))) ⊕ (((List GPredicate) × (List (ByteArray × Int)))))))
  (fun q x t hx hq ⟨e1, W, a, e2, e3, e4⟩ => by
   obtain ⟨out, j, m⟩ := t
   simp only at e1 e2 e4
   subst e1; subst e2
   rw [List.length_range] at hq
   have hb := List.getElem?_eq_getElem (show q + 1 < E.length by omega)
   have bb := hEb _ (List.getElem_mem (show q + 1 < E.length by omega))
   have ba := hEb _ (List.mem_of_getElem? e3)
   have hab : a < E[q + 1] := by
    obtain ⟨f1, f2⟩ := List.getElem?_eq_some_iff.1 e3
    have := (List.pairwise_iff_getElem.1 hE) q (q + 1) f1 (by omega) (by omega)
    omega
   generalize E[q + 1] = b at hb bb hab
   have hst := sg_step hg hi hE hm e3 hb
   have hWl := hol W e4.nodup e4.bits
   have hbts := e4.toCls0.btsW
   have hlen := e4.len
   simp only [cmp_lss, len_def, decide_eq_true_eq]
   rw [inc_i64 (n := E.length) (by omega) (by omega), if_pos (by omega)]
   simp only [idx_at, e3, Option.bind_some, sig_eq hg hi hl (show 1000 < N by omega)]
   by_cases hw : sg l i a ∈ W
   ·obtain ⟨c, hc⟩ := List.getElem?_of_mem hw
    rw [getM_at sg_bits hbts e4.nodup hc]
    simp only [Option.bind_some, nt_def, Bool.not_true, Bool.false_eq_true, if_false]
    have hcl : c < out.length := by rw [hlen]; exact (List.getElem?_eq_some_iff.1 hc).1
    have hp := List.getElem?_eq_getElem hcl
    have hps := e4.sets _ (List.getElem_mem hcl)
    have hs := List.getElem?_eq_getElem (show i < out[c].Sets.length by omega)
    have hcnt := (e4.cnt c _ i _ hp hs).2 rfl
    rw [put_eq hp hs e3 hb bb (by omega) (by omega)]
    simp only [Option.bind_some]
    exact ⟨_, rfl, rfl, W, b, rfl, hb, e4.step hi hst (by omega) hab (by omega) (e4.toCls0.put hst (by omega) hab (by omega) trivial hp hc hs) (.inl ⟨rfl, hw⟩)⟩
   ·rw [getM_no sg_bits hbts hw]
    simp only [Option.bind_some, nt_def, Bool.not_false, if_true]
    rw [show ((out.length : Nat) : Int) = ((W.length : Nat) : Int) by rw [hlen], setM_no sg_bits hbts hw]
    have hmk : mkL (types : Int) (types : Int) ([] : List GInterval) = some (List.replicate types []) := by
     unfold mkL
     rw [if_pos (by omega)]
     simp
    simp only [Option.bind_some, hmk]
    rw [app_ok (by simp; omega)]
    simp only [Option.bind_some]
    have h0' := e4.toCls0.fresh hw e4.cov
    have hp : (out ++ [(⟨List.replicate types []⟩ : GPredicate)])[W.length]? = some ⟨List.replicate types []⟩ := by rw [← hlen]; simp
    have hc : (W ++ [sg l i a])[W.length]? = some (sg l i a) := by simp
    have hs : (⟨List.replicate types []⟩ : GPredicate).Sets[i]? = some [] := by simp [hi]
    rw [put_eq hp hs e3 hb bb (by omega) (by simp)]
    simp only [Option.bind_some]
    exact ⟨_, rfl, rfl, W ++ [sg l i a], b, rfl, hb, e4.step hi hst (by omega) hab (by omega) (h0'.put hst (by omega) hab (by omega) trivial hp hc hs) (.inr ⟨rfl, hw⟩)⟩)
  (fun t ⟨e1, W, a, e2, e3, e4⟩ => by
   obtain ⟨out, j, m⟩ := t
   simp only at e1 e2 e4
   rw [List.length_range] at e1 e3 e4
   subst e1; subst e2
   rw [hEn] at e3; cases e3
   simp only [cmp_lss, len_def, decide_eq_true_eq]
   rw [inc_i64 (n := E.length) (by omega) (by omega), if_neg (by omega)]
   exact ⟨_, rfl, W, rfl, e4.next (by omega)⟩)
  ⟨rfl, W0, _, rfl, hE0, h0⟩ (by rw [List.length_range]; omega)
 obtain ⟨W, h3, h4⟩ := h2
 obtain ⟨out, m⟩ := r
 simp only at h3 h4
 subst h3
 exact ⟨out, W, h1, h4⟩
noncomputable def tdS (s : List GInterval) : List GInterval := if h : ∃ r, Ord r ∧ r.length ≤ s.length ∧ ∀ n, InL r n ↔ InL s n then Classical.choose h else []
theorem tdS_eq {s r : List GInterval} (h1 : Ord r) (h2 : r.length ≤ s.length) (h3 : ∀ n, InL r n ↔ InL s n) : tdS s = r := by
 have h : ∃ r, Ord r ∧ r.length ≤ s.length ∧ ∀ n, InL r n ↔ InL s n := ⟨r, h1, h2, h3⟩
 unfold tdS
 rw [dif_pos h]
 obtain ⟨k1, k2, k3⟩ := Classical.choose_spec h
 exact ord_ext k1 h1 fun n => (k3 n).trans (h3 n).symm
theorem tidy_set {N : Nat} {s : List GInterval} (hs : Asc s) (hl : s.length ≤ 100000) (hN : s.length < N) : (Ord (tdS s) ∧ (tdS s).length ≤ s.length ∧ ∀ n, InL (tdS s) n ↔ InL s n) ∧ loopN
                      (fun (s8 : Int × (List GInterval)) =>
                       (
                        if Ar.cmp .lss s8.1 (Ar.len s) = true then
                         (idxL s s8.1).bind fun x11 =>
                         if Ar.cmp .gtr (Ar.len s8.2) 0 = true then
                          (req (inR s8.2 (Ar.ar .sub .i64 (Ar.len s8.2) 1))).bind fun _ =>
                          (idxL s8.2 (Ar.ar .sub .i64 (Ar.len s8.2) 1)).bind fun x12 =>
                          if Ar.cmp .eql (Ar.ar .add .i64 x12.High 1) x11.Low = true then
                           (req (inR s8.2 (Ar.ar .sub .i64 (Ar.len s8.2) 1))).bind fun _ =>
                           (updL s8.2 (Ar.ar .sub .i64 (Ar.len s8.2) 1) (fun x13 : GInterval => { x13 with High := x11.High })).bind fun l14 =>
                           some (.inl (Ar.ar .add .i64 s8.1 1, l14))
                          else
                           (appL s8.2 ([x11])).bind fun l16 =>
                           some (.inl (Ar.ar .add .i64 s8.1 1, l16))
                         else
                          (appL s8.2 ([x11])).bind fun l18 =>
                          some (.inl (Ar.ar .add .i64 s8.1 1, l18))
                        else
                         some (.inr s8.2)
                        : Option ((Int × (List GInterval)) ⊕ (((List GInterval))))))
                      N (0, ([] : List GInterval)) = some (tdS s) := by
 obtain ⟨r, h1, h2⟩ := loop_inv (N := N) (l := s) (Q := fun (r : List GInterval) => Ord r ∧ r.length ≤ s.length ∧ ∀ n, InL r n ↔ InL s n)
  (I := fun k (t : Int × List GInterval) => t.1 = (k : Int) ∧ Ord t.2 ∧ t.2.length ≤ k ∧ (∀ y ∈ t.2, ∀ (j : Nat) x, k ≤ j → s[j]? = some x → y.High < x.Low) ∧ ∀ n, InL t.2 n ↔ InL (s.take k) n)
  (s0 := ((0 : Int), ([] : List GInterval)))
  (step := fun (s8 : Int × (List GInterval)) =>
   (
    if Ar.cmp .lss s8.1 (Ar.len s) = true then
     (idxL s s8.1).bind fun x11 =>
     if Ar.cmp .gtr (Ar.len s8.2) 0 = true then
      (req (inR s8.2 (Ar.ar .sub .i64 (Ar.len s8.2) 1))).bind fun _ =>
      (idxL s8.2 (Ar.ar .sub .i64 (Ar.len s8.2) 1)).bind fun x12 =>
      if Ar.cmp .eql (Ar.ar .add .i64 x12.High 1) x11.Low = true then
       (req (inR s8.2 (Ar.ar .sub .i64 (Ar.len s8.2) 1))).bind fun _ =>
       (updL s8.2 (Ar.ar .sub .i64 (Ar.len s8.2) 1) (fun x13 : GInterval => { x13 with High := x11.High })).bind fun l14 =>
       some (.inl (Ar.ar .add .i64 s8.1 1, l14))
      else
       (appL s8.2 ([x11])).bind fun l16 =>
       some (.inl (Ar.ar .add .i64 s8.1 1, l16))
     else
      (appL s8.2 ([x11])).bind fun l18 =>
      some (.inl (Ar.ar .add .i64 s8.1 1, l18))
    else
     some (.inr s8.2)
    : Option ((Int × (List GInterval)) ⊕ (((List GInterval))))))
  (fun k x t hx hk ⟨e1, e2, e3, e4, e5⟩ => by
   obtain ⟨j, acc⟩ := t
   simp only at e1 e2 e3 e4 e5
   subst e1
   have hxb := hs.1 x (List.mem_of_getElem? hx)
   have hxb' := hxb
   unfold Bnd at hxb'
   have done : ∀ out, Jnd acc x out → ((k + 1 : Nat) : Int) = ((k + 1 : Nat) : Int) ∧ Ord out ∧ out.length ≤ k + 1 ∧ (∀ y ∈ out, ∀ (j : Nat) x, k + 1 ≤ j → s[j]? = some x → y.High < x.Low) ∧ ∀ n, InL out n ↔ InL (s.take (k + 1)) n := by
    intro out hj
    refine ⟨rfl, hj.ord, by have := hj.len; omega, fun y hy m z hm hz => ?_, fun n => ?_⟩
    ·have hyb := hj.ord.srt' y hy
     rcases (hj.inl y.High).1 ⟨y, hy, hyb.2.1, Int.le_refl _⟩ with ⟨u, hu, h1, h2⟩ | ⟨h1, h2⟩
     ·have := e4 u hu m z (by omega) hz
      omega
     ·obtain ⟨f1, f2⟩ := List.getElem?_eq_some_iff.1 hx
      obtain ⟨f3, f4⟩ := List.getElem?_eq_some_iff.1 hz
      have := (List.pairwise_iff_getElem.1 hs.2) k m f1 f3 (by omega)
      rw [f2, f4] at this
      omega
    ·rw [hj.inl, e5, inL_take hx]
   simp only [cmp_lss, cmp_gtr, cmp_eql, len_def, idx_at, hx, Option.bind_some, decide_eq_true_eq]
   rw [if_pos (by omega), inc_i64 hk (by omega)]
   rcases List.eq_nil_or_concat acc with rfl | ⟨init, y, rfl⟩
   ·rw [if_neg (by simp), app_ok (by simp)]
    simp only [Option.bind_some]
    exact ⟨_, rfl, done _ (jnd_new (acc := []) e2 hxb fun y hy => by cases hy)⟩
   ·rw [List.concat_eq_append] at *
    have hn' : init.length ≤ 1000000 := by simp at e3; omega
    obtain ⟨i1, i2, i3⟩ := ord_init e2
    have hy := e4 y (by simp) k x (Nat.le_refl _) hx
    unfold Bnd at i2
    simp only [last_i hn', inR_last, req, if_true, Option.bind_some, idx_at, at_last, upd_last]
    rw [if_pos (by simp), add_i64 (by omega) (by omega)]
    by_cases h : y.High + 1 = x.Low
    ·rw [if_pos h]
     exact ⟨_, rfl, done _ (jnd_wide e2 hxb (by omega) (by omega) (by rw [if_pos (by omega)]))⟩
    ·rw [if_neg h, app_ok (by simp; omega)]
     simp only [Option.bind_some]
     refine ⟨_, rfl, done _ (jnd_new e2 hxb fun z hz => ?_)⟩
     rcases List.mem_append.1 hz with hz | hz
     ·have := i3 z hz; have := i1.srt' z hz; omega
     ·simp at hz; subst hz; omega)
  (fun t ⟨e1, e2, e3, e4, e5⟩ => by
   obtain ⟨j, acc⟩ := t
   simp only at e1 e2 e3 e4 e5
   subst e1
   simp only [cmp_lss, len_def, decide_eq_true_eq]
   rw [if_neg (by omega)]
   rw [List.take_length] at e5
   exact ⟨_, rfl, e2, e3, e5⟩) ⟨rfl, trivial, by simp, fun y hy => by simp at hy, fun n => by simp⟩ hN
 have e := tdS_eq h2.1 h2.2.1 h2.2.2
 rw [h1, e]
 exact ⟨h2, rfl⟩
end Go.Ab

namespace Go.Ab
open Classical
noncomputable def tdP (p : GPredicate) : GPredicate := ⟨p.Sets.map tdS⟩
noncomputable def tdJ (p : GPredicate) (j : Nat) : GPredicate := ⟨(p.Sets.take j).map tdS ++ p.Sets.drop j⟩
noncomputable def tdL (out : List GPredicate) (c : Nat) (p : GPredicate) (j : Nat) : List GPredicate := (out.take c).map tdP ++ tdJ p j :: out.drop (c + 1)
theorem tdJ_len (p : GPredicate) (j : Nat) : (tdJ p j).Sets.length = p.Sets.length := by unfold tdJ; simp; omega
theorem tdL_at {out : List GPredicate} {c : Nat} {p : GPredicate} {j : Nat} (hc : c ≤ out.length) : (tdL out c p j)[c]? = some (tdJ p j) := by
 unfold tdL
 rw [List.getElem?_append_right (by simp; omega)]
 simp [Nat.min_eq_left hc]
theorem tdJ_at {p : GPredicate} {j : Nat} {s : List GInterval} (h : p.Sets[j]? = some s) : (tdJ p j).Sets[j]? = some s := by
 have hl := (List.getElem?_eq_some_iff.1 h).1
 unfold tdJ
 rw [List.getElem?_append_right (by simp; omega)]
 simp [Nat.min_eq_left (Nat.le_of_lt hl), h]
theorem tdL_set {out : List GPredicate} {c : Nat} {p : GPredicate} {j : Nat} {s : List GInterval} (hc : c ≤ out.length) (h : p.Sets[j]? = some s) : (tdL out c p j).set c ⟨(tdJ p j).Sets.set j (tdS s)⟩ = tdL out c p (j + 1) := by
 have hl := (List.getElem?_eq_some_iff.1 h).1
 have hd : p.Sets.drop j = s :: p.Sets.drop (j + 1) := by
  rw [List.drop_eq_getElem_cons hl]
  have := List.getElem?_eq_getElem hl
  rw [h] at this; cases this; rfl
 have e : (tdJ p j).Sets.set j (tdS s) = (tdJ p (j + 1)).Sets := by
  unfold tdJ
  simp only
  rw [List.set_append_right _ _ (by simp; omega), hd, List.take_add_one, h]
  simp [Nat.min_eq_left (Nat.le_of_lt hl)]
 unfold tdL
 rw [List.set_append_right _ _ (by simp; omega), e]
 simp [Nat.min_eq_left hc]
theorem tdL_start {out : List GPredicate} {c : Nat} {p : GPredicate} (h : out[c]? = some p) : (out.take c).map tdP ++ out.drop c = tdL out c p 0 := by
 have hl := (List.getElem?_eq_some_iff.1 h).1
 have hd : out.drop c = p :: out.drop (c + 1) := by
  rw [List.drop_eq_getElem_cons hl]
  have := List.getElem?_eq_getElem hl
  rw [h] at this; cases this; rfl
 unfold tdL tdJ
 rw [hd]; simp
theorem tdL_end {out : List GPredicate} {c : Nat} {p : GPredicate} (h : out[c]? = some p) : tdL out c p p.Sets.length = (out.take (c + 1)).map tdP ++ out.drop (c + 1) := by
 unfold tdL tdJ
 rw [List.take_add_one, h]
 simp [tdP]
theorem bind_of1 {α β : Type} {m : Option α} {x : α} {F : α → Option β} {r : Option β} (h : m = some x) (k : F x = r) : m.bind F = r := by rw [h]; exact k
theorem tidy_eq {N : Nat} {out : List GPredicate} (hl : out.length ≤ 256) (hs : ∀ p ∈ out, p.Sets.length ≤ 1000 ∧ ∀ s ∈ p.Sets, Asc s ∧ s.length ≤ 256) (hN : 10000 < N) : predicate_tidy N out = some (out.map tdP, 0) := by
 unfold predicate_tidy
 rw [if_neg (by simp only [cmp_gtr, len_def, decide_eq_true_eq]; omega)]
 obtain ⟨r, h1, h2⟩ := loop_inv (N := N) (l := out) (Q := fun (r : (List GPredicate) ⊕ Unit) => r = .inl (out.map tdP))
  (I := fun c (t : List GPredicate × Int) => t.2 = (c : Int) ∧ t.1 = (out.take c).map tdP ++ out.drop c)
  (s0 := (out, (0 : Int)))
  (step := fun (s1 : (List GPredicate) × Int) =>
   (
    if Ar.cmp .lss s1.2 (Ar.len out) = true then
     (idxL s1.1 s1.2).bind fun x3 =>
     (loopN
      (fun (s4 : (List GPredicate) × Int) =>
       (
        if Ar.cmp .lss s4.2 (Ar.len x3.Sets) = true then
         (getC s4.1 s1.2 s4.2).bind fun x6 =>
         (loopN
          (fun (s8 : Int × (List GInterval)) =>
           (
            if Ar.cmp .lss s8.1 (Ar.len x6) = true then
             (idxL x6 s8.1).bind fun x11 =>
             if Ar.cmp .gtr (Ar.len s8.2) 0 = true then
              (req (inR s8.2 (Ar.ar .sub .i64 (Ar.len s8.2) 1))).bind fun _ =>
              (idxL s8.2 (Ar.ar .sub .i64 (Ar.len s8.2) 1)).bind fun x12 =>
              if Ar.cmp .eql (Ar.ar .add .i64 x12.High 1) x11.Low = true then
               (req (inR s8.2 (Ar.ar .sub .i64 (Ar.len s8.2) 1))).bind fun _ =>
               (updL s8.2 (Ar.ar .sub .i64 (Ar.len s8.2) 1) (fun x13 : GInterval => { x13 with High := x11.High })).bind fun l14 =>
               some (.inl (Ar.ar .add .i64 s8.1 1, l14))
              else
               (appL s8.2 ([x11])).bind fun l16 =>
               some (.inl (Ar.ar .add .i64 s8.1 1, l16))
             else
              (appL s8.2 ([x11])).bind fun l18 =>
              some (.inl (Ar.ar .add .i64 s8.1 1, l18))
            else
             some (.inr s8.2)
            : Option ((Int × (List GInterval)) ⊕ (((List GInterval))))))
          N (0, ([] : List GInterval))).bind fun s10 =>
         if Ar.cmp .gtr (Ar.len s10) 256 = true then
          some (.inr (.inr ()))
         else
          (setC s4.1 s1.2 s4.2 s10).bind fun l20 =>
          some (.inl (l20, Ar.ar .add .i64 s4.2 1))
        else
         some (.inr (.inl s4.1))
        : Option (((List GPredicate) × Int) ⊕ ((List GPredicate) ⊕ Unit))))
      N (s1.1, 0)).bind fun s5 =>
     match s5 with
     | .inl y20 =>
      some (.inl (y20, Ar.ar .add .i64 s1.2 1))
     | .inr y21 =>
      some (.inr (.inr ()))
    else
     some (.inr (.inl s1.1))
    : Option (((List GPredicate) × Int) ⊕ ((List GPredicate) ⊕ Unit))))
  (fun c p t hp hc ⟨e1, e2⟩ => by
   obtain ⟨L, j⟩ := t
   simp only at e1 e2
   subst e1; subst e2
   have hpm := hs p (List.mem_of_getElem? hp)
   rw [tdL_start hp]
   have hj0 : (tdL out c p 0)[c]? = some p := by
    rw [tdL_at (by omega)]; unfold tdJ; simp
   simp only [idx_at, hj0, Option.bind_some]
   obtain ⟨r, k1, k2⟩ := loop_inv (N := N) (l := p.Sets) (Q := fun (r : (List GPredicate) ⊕ Unit) => r = .inl (tdL out c p p.Sets.length))
    (I := fun j (t : List GPredicate × Int) => t.2 = (j : Int) ∧ t.1 = tdL out c p j)
    (s0 := (tdL out c p 0, (0 : Int)))
    (step := fun (s4 : (List GPredicate) × Int) =>
     (
      if Ar.cmp .lss s4.2 (Ar.len p.Sets) = true then
       (getC s4.1 (c : Int) s4.2).bind fun x6 =>
       (loopN
        (fun (s8 : Int × (List GInterval)) =>
         (
          if Ar.cmp .lss s8.1 (Ar.len x6) = true then
           (idxL x6 s8.1).bind fun x11 =>
           if Ar.cmp .gtr (Ar.len s8.2) 0 = true then
            (req (inR s8.2 (Ar.ar .sub .i64 (Ar.len s8.2) 1))).bind fun _ =>
            (idxL s8.2 (Ar.ar .sub .i64 (Ar.len s8.2) 1)).bind fun x12 =>
            if Ar.cmp .eql (Ar.ar .add .i64 x12.High 1) x11.Low = true then
             (req (inR s8.2 (Ar.ar .sub .i64 (Ar.len s8.2) 1))).bind fun _ =>
             (updL s8.2 (Ar.ar .sub .i64 (Ar.len s8.2) 1) (fun x13 : GInterval => { x13 with High := x11.High })).bind fun l14 =>
             some (.inl (Ar.ar .add .i64 s8.1 1, l14))
            else
             (appL s8.2 ([x11])).bind fun l16 =>
             some (.inl (Ar.ar .add .i64 s8.1 1, l16))
           else
            (appL s8.2 ([x11])).bind fun l18 =>
            some (.inl (Ar.ar .add .i64 s8.1 1, l18))
          else
           some (.inr s8.2)
          : Option ((Int × (List GInterval)) ⊕ (((List GInterval))))))
        N (0, ([] : List GInterval))).bind fun s10 =>
       if Ar.cmp .gtr (Ar.len s10) 256 = true then
        some (.inr (.inr ()))
       else
        (setC s4.1 (c : Int) s4.2 s10).bind fun l20 =>
        some (.inl (l20, Ar.ar .add .i64 s4.2 1))
      else
       some (.inr (.inl s4.1))
      : Option (((List GPredicate) × Int) ⊕ ((List GPredicate) ⊕ Unit))))
    (fun j s u hsj hjl ⟨f1, f2⟩ => by
     obtain ⟨M, q⟩ := u
     simp only at f1 f2
     subst f1; subst f2
     obtain ⟨g1, g2⟩ := hpm.2 s (List.mem_of_getElem? hsj)
     obtain ⟨⟨t1, t2, t3⟩, t4⟩ := tidy_set (N := N) g1 (by omega) (by omega)
     have hg : getC (tdL out c p j) (c : Int) (j : Int) = some s := by
      unfold getC
      rw [idx_at, tdL_at (by omega)]
      simp only [Option.bind_some]
      rw [idx_at, tdJ_at hsj]
     have hset : setC (tdL out c p j) (c : Int) (j : Int) (tdS s) = some (tdL out c p (j + 1)) := by
      unfold setC
      rw [idx_at, tdL_at (by omega)]
      simp only [Option.bind_some]
      rw [if_pos (by rw [tdJ_len]; omega)]
      simp only [Int.toNat_natCast]
      rw [tdL_set (by omega) hsj]
     simp only [hg, t4, hset, Option.bind_some]
     rw [if_pos (by simp only [cmp_lss, len_def, decide_eq_true_eq]; omega), if_neg (by simp only [cmp_gtr, len_def, decide_eq_true_eq]; omega), inc_i64 hjl (by omega)]
     exact ⟨_, rfl, rfl, rfl⟩)
    (fun u ⟨f1, f2⟩ => by
     obtain ⟨M, q⟩ := u
     simp only at f1 f2
     subst f1; subst f2
     rw [if_neg (by simp only [cmp_lss, len_def, decide_eq_true_eq]; omega)]
     exact ⟨_, rfl, rfl⟩) ⟨rfl, rfl⟩ (by omega)
   subst k2
   rw [k1]
   rw [if_pos (by simp only [cmp_lss, len_def, decide_eq_true_eq]; omega)]
   simp only [Option.bind_some]
   rw [inc_i64 hc (by omega)]
   exact ⟨_, rfl, rfl, tdL_end hp⟩)
  (fun t ⟨e1, e2⟩ => by
   obtain ⟨L, j⟩ := t
   simp only at e1 e2
   subst e1; subst e2
   rw [if_neg (by simp only [cmp_lss, len_def, decide_eq_true_eq]; omega)]
   exact ⟨_, rfl, by simp⟩) ⟨rfl, by simp⟩ (by omega)
 subst h2
 exact bind_of1 h1 rfl
def bits : Nat → List (List Int)
 | 0 => [[]]
 | n + 1 => (bits n).map (0 :: ·) ++ (bits n).map (1 :: ·)
theorem bits_len : ∀ n, (bits n).length = 2 ^ n
 | 0 => rfl
 | n + 1 => by unfold bits; simp [bits_len n]; omega
theorem bits_mem : ∀ {w : List Int}, Bts w → w ∈ bits w.length
 | [], _ => by simp [bits]
 | x :: w, h => by
  have ih := bits_mem (w := w) fun y hy => h y (by simp [hy])
  unfold bits
  rcases h x (by simp) with rfl | rfl
  ·simp [ih]
  ·simp [ih]
theorem nodup_len {α : Type} : ∀ {l m : List α}, l.Nodup → (∀ x ∈ l, x ∈ m) → l.length ≤ m.length
 | [], m, _, _ => Nat.zero_le _
 | x :: l, m, hn, h => by
  classical
  have hx := h x (by simp)
  obtain ⟨h1, h2⟩ := List.nodup_cons.1 hn
  have := nodup_len (l := l) (m := m.erase x) h2 fun y hy => (List.mem_erase_of_ne (fun e => by subst e; exact h1 hy)).2 (h y (by simp [hy]))
  rw [List.length_erase_of_mem hx] at this
  have : 0 < m.length := List.length_pos_of_mem hx
  simp only [List.length_cons]; omega
theorem words_len {l : List GPredicate} {W : List (List Int)} (hn : W.Nodup) (h : ∀ w ∈ W, ∃ j n, w = sg l j n) : W.length ≤ 2 ^ l.length := by
 have := nodup_len (l := W) (m := bits l.length) hn fun w hw => by
  obtain ⟨j, n, rfl⟩ := h w hw
  have := bits_mem (w := sg l j n) sg_bits
  rwa [show (sg l j n).length = l.length by simp [sg]] at this
 rwa [bits_len] at this
structure Mint (types B : Nat) (l : List GPredicate) (out : List GPredicate) (W : List (List Int)) : Prop where
 len : out.length = W.length
 nodup : W.Nodup
 bits : ∀ w ∈ W, ∃ j n, w = sg l j n
 sets : ∀ p ∈ out, p.Sets.length = types
 cls : ∀ (c : Nat) p w (j : Nat) a, out[c]? = some p → W[c]? = some w → p.Sets[j]? = some a → Ord a ∧ a.length ≤ B ∧ ∀ n, InL a n ↔ (-1099511627776 ≤ n ∧ n ≤ 1099511627776) ∧ sg l j n = w
 occ : ∀ w ∈ W, ∃ j n, j < types ∧ (-1099511627776 ≤ n ∧ n ≤ 1099511627776) ∧ sg l j n = w
 cov : ∀ j n, j < types → (-1099511627776 ≤ n ∧ n ≤ 1099511627776) → sg l j n ∈ W
 ord : ∀ (c c' : Nat) w w', c < c' → W[c]? = some w → W[c']? = some w' → ∃ j n, j < types ∧ (-1099511627776 ≤ n ∧ n ≤ 1099511627776) ∧ sg l j n = w ∧ ∀ j' n', j' < types → (-1099511627776 ≤ n' ∧ n' ≤ 1099511627776) → sg l j' n' = w' → Lx j n j' n'
theorem minterms_eq {N types k : Nat} {l : List GPredicate} (hg : Gd types k l) (ht : 1 ≤ types ∧ types ≤ 16) (hl : l.length ≤ 5) (hk : k ≤ 12) (hN : 1000000 < N) : ∃ out W, predicate_Minterms N (types : Int) l = some (out, 0) ∧ Mint types (1 + 2 * k * l.length) l out W := by
 have hkl : 2 * k * l.length ≤ 24 * 5 := Nat.mul_le_mul (by omega) hl
 have hWl : ∀ W : List (List Int), W.Nodup → (∀ w ∈ W, ∃ j n, w = sg l j n) → W.length ≤ 32 := fun W h1 h2 => by
  have := words_len h1 h2
  have h3 : 2 ^ l.length ≤ 2 ^ 5 := Nat.pow_le_pow_right (by decide) hl
  omega
 have hpck : ∀ p ∈ l, pck (types : Int) p = 0 := fun p hp => by
  unfold pck
  have := hg.len p hp
  rw [if_neg (by omega), if_neg (by omega)]
  exact fb_zero.2 fun q x hx => zero_ck (hg.srt p hp x (List.mem_of_getElem? hx))
 unfold predicate_Minterms
 rw [if_neg (by simp only [or_def, cmp_lss, cmp_gtr, Bool.or_eq_true, decide_eq_true_eq]; omega), if_neg (by simp only [cmp_gtr, len_def, decide_eq_true_eq]; omega)]
 have hchk : loopN
  (fun (s1 : Int) =>
   (
    if Ar.cmp .lss s1 (Ar.len l) = true then
     (idxL l s1).bind fun x3 =>
     (predicate_Check N (types : Int) x3).bind fun r4 =>
     if Ar.cmp .neq r4 0 = true then
      some (.inr (.inr r4))
     else
      some (.inl (Ar.ar .add .i64 s1 1))
    else
     some (.inr (.inl ()))
    : Option ((Int) ⊕ (Unit ⊕ Int))))
  N 0 = some (.inl ()) := by
  rw [chk_loop (l := l) (f := fun _ _ => 0) (e := .inl ()) (b := .inr) (N := N) ?_ ?_ (by omega)]
  ·rw [fb_const, if_pos rfl]
  ·intro i x hx hi
   simp only [cmp_lss, cmp_neq, len_def, idx_at, hx, Option.bind_some, pck_eq (show 256 < N by omega), hpck x (List.mem_of_getElem? hx), decide_true, Bool.not_true, Bool.false_eq_true, if_false, decide_eq_true_eq]
   rw [if_pos (by omega), inc_i64 hi (by omega)]; rfl
  ·simp [cmp_lss, len_def]
 rw [hchk]
 simp only [Option.bind_some]
 obtain ⟨r, h1, h2⟩ := loop_inv (N := N) (l := List.range types) (Q := fun (r : List GPredicate × List (ByteArray × Int)) => ∃ W, Cls types l (1 + 2 * k * l.length) types 0 (-1099511627776) r.1 W)
  (I := fun i (t : List GPredicate × Int × List (ByteArray × Int)) => t.2.1 = (i : Int) ∧ ∃ W, t.2.2 = mapW 0 W ∧ Cls types l (1 + 2 * k * l.length) i 0 (-1099511627776) t.1 W)
  (s0 := (([] : List GPredicate), (0 : Int), ([] : List (ByteArray × Int))))
  (step := fun (s8 : (List GPredicate) × Int × (List (ByteArray × Int))) =>
   (
    if Ar.cmp .lss s8.2.1 (types : Int) = true then
     (predicate_cuts N l s8.2.1).bind fun r12 =>
     (loopN
      (fun (s13 : (List GPredicate) × Int × (List (ByteArray × Int))) =>
       (
        if Ar.cmp .lss (Ar.ar .add .i64 s13.2.1 1) (Ar.len r12) = true then
         (idxL r12 s13.2.1).bind fun x17 =>
         (predicate_signature N l s8.2.1 x17).bind fun r18 =>
         (getM s13.2.2 r18 (0 : Int)).bind fun r19 =>
         if Ar.nt r19.2 = true then
          (setM s13.2.2 r18 (Ar.len s13.1)).bind fun l21 =>
          (mkL (types : Int) (types : Int) ([] : List GInterval)).bind fun l22 =>
          (appL s13.1 ([(⟨l22⟩ : GPredicate)])).bind fun l23 =>
          (predicate_put l23 (Ar.len s13.1) s8.2.1 r12 s13.2.1).bind fun l24 =>
          some (.inl (l24, Ar.ar .add .i64 s13.2.1 1, l21))
         else
          (predicate_put s13.1 r19.1 s8.2.1 r12 s13.2.1).bind fun l24 =>
          some (.inl (l24, Ar.ar .add .i64 s13.2.1 1, s13.2.2))
        else
         some (.inr (s13.1, s13.2.2))
        : Option (((List GPredicate) × Int × (List (ByteArray × Int))) ⊕ (((List GPredicate) × (List (ByteArray × Int)))))))
      N (s8.1, 0, s8.2.2)).bind fun s16 =>
     some (.inl (s16.1, Ar.ar .add .i64 s8.2.1 1, s16.2))
    else
     some (.inr (s8.1, s8.2.2))
    : Option (((List GPredicate) × Int × (List (ByteArray × Int))) ⊕ (((List GPredicate) × (List (ByteArray × Int)))))))
  (fun i x t hx hi ⟨e1, W, e2, e3⟩ => by
   obtain ⟨out, j, m⟩ := t
   simp only at e1 e2 e3
   subst e1; subst e2
   rw [List.length_range] at hi
   obtain ⟨E, c1, c2, c3, c4⟩ := cuts_eq (N := N) hg hi (by omega) (by omega) (by omega)
   obtain ⟨out', W', d1, d2⟩ := mint_inner (N := N) hg hi (by omega) (by omega) hN c2 c3 (by omega) (by omega) e3 fun W h1 h2 => by have := hWl W h1 h2; omega
   rw [if_pos (by simp only [cmp_lss, decide_eq_true_eq]; omega)]
   simp only [c1, Option.bind_some]
   rw [d1]
   simp only [Option.bind_some]
   rw [inc_i64 hi (by omega)]
   exact ⟨_, rfl, rfl, W', rfl, d2⟩)
  (fun t ⟨e1, W, e2, e3⟩ => by
   obtain ⟨out, j, m⟩ := t
   simp only at e1 e2 e3
   rw [List.length_range] at e1 e3
   subst e1; subst e2
   rw [if_neg (by simp only [cmp_lss, decide_eq_true_eq]; omega)]
   exact ⟨_, rfl, W, e3⟩)
  ⟨rfl, [], rfl, .start⟩ (by rw [List.length_range]; omega)
 rw [h1]
 obtain ⟨W, hW⟩ := h2
 obtain ⟨out, m⟩ := r
 simp only at hW
 have hlW := hWl W hW.nodup hW.bits
 have hln := hW.len
 have hset : ∀ (c : Nat) p, out[c]? = some p → ∀ s ∈ p.Sets, Asc s ∧ s.length ≤ 1 + 2 * k * l.length := fun c p hp s hs => by
  obtain ⟨j, hj⟩ := List.getElem?_of_mem hs
  have hcl := (List.getElem?_eq_some_iff.1 hp).1
  have h1 := (hW.cls c p _ j s hp (List.getElem?_eq_getElem (show c < W.length by omega)) hj).1
  have hjt : j < types := by rw [← hW.sets p (List.mem_of_getElem? hp)]; exact (List.getElem?_eq_some_iff.1 hj).1
  exact ⟨h1, (hW.cnt c p j s hp hj).1 (by omega)⟩
 simp only [Option.bind_some]
 rw [tidy_eq (by omega) (fun p hp => ⟨by rw [hW.sets p hp]; omega, fun s hs => by
  obtain ⟨c, hc⟩ := List.getElem?_of_mem hp
  have := hset c p hc s hs
  exact ⟨this.1, by omega⟩⟩) (by omega)]
 have eD : ∀ j n, j < types → (Dn types (-1099511627776) j n ↔ (-1099511627776 ≤ n ∧ n ≤ 1099511627776)) := fun j n hj => by unfold Dn; omega
 refine ⟨_, W, rfl, by rw [List.length_map]; exact hW.len, hW.nodup, hW.bits, fun p hp => ?_, fun c p w j a hp hw ha => ?_, fun w hw => ?_, fun j n hj hn => hW.cov j n hj ((eD j n hj).2 hn), fun c c' w w' hcc hw hw' => ?_⟩
 ·obtain ⟨q, hq, rfl⟩ := List.mem_map.1 hp
  unfold tdP
  simp only [List.length_map]; exact hW.sets q hq
 ·rw [List.getElem?_map] at hp
  cases hq : out[c]? with
  | none => rw [hq] at hp; cases hp
  | some q =>
   rw [hq] at hp
   simp only [Option.map_some, Option.some.injEq] at hp
   subst hp
   unfold tdP at ha
   simp only [List.getElem?_map] at ha
   cases hs : q.Sets[j]? with
   | none => rw [hs] at ha; cases ha
   | some s =>
    rw [hs] at ha
    simp only [Option.map_some, Option.some.injEq] at ha
    subst ha
    obtain ⟨g1, g2⟩ := hset c q hq s (List.mem_of_getElem? hs)
    obtain ⟨⟨t1, t2, t3⟩, _⟩ := tidy_set (N := N) g1 (by omega) (by omega)
    have hjt : j < types := by rw [← hW.sets q (List.mem_of_getElem? hq)]; exact (List.getElem?_eq_some_iff.1 hs).1
    exact ⟨t1, by omega, fun n => (t3 n).trans (((hW.cls c q w j s hq hw hs).2 n).trans (by rw [eD j n hjt]))⟩
 ·obtain ⟨j, n, g1, g2, g3⟩ := hW.occ w hw
  exact ⟨j, n, g1, (eD j n g1).1 g2, g3⟩
 ·obtain ⟨j, n, g1, g2, g3, g4⟩ := hW.ord c c' w w' hcc hw hw'
  exact ⟨j, n, g1, (eD j n g1).1 g2, g3, fun j' n' f1 f2 f3 => g4 j' n' f1 ((eD j' n' f1).2 f2) f3⟩
end Go.Ab

