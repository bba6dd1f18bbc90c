/- Proved: for every number and list of predicates the law PredicateSplits returns true and its arguments read behind the call as they read before. -/
import Derived.Test.YtpapabjndpgcnaaGreatT43
import Derived.Test.YtpapabjndpgcnaaGreatT34
import Derived.Test.YtpapabjndpgcnaaGreatT35
import Derived.JoinedCond
import Derived.LaidByText
set_option linter.all false

namespace Go.Ab
open Classical
set_option maxRecDepth 100000
def PLt (p q : GPredicate) : Prop := ∃ j n, At p j n ∧ ∀ j' n', At q j' n' → Lx j n j' n'
theorem plt_asym {p q : GPredicate} (h : PLt p q) : ¬ PLt q p := fun k => by
 obtain ⟨j, n, h1, h2⟩ := h
 obtain ⟨j', n', k1, k2⟩ := k
 have a := h2 _ _ k1
 have b := k2 _ _ h1
 unfold Lx at a b
 omega
theorem few_one {N : Nat} {l : List GPredicate} (hl : l.length ≤ 1000) (hN : 1000 < N) : ∃ b, slices_ContainsFunc_LPredicate_Predicate N l (fun y1 => law27_PredicateSplits_1 N y1) = some b ∧ (b = false → ∀ p ∈ l, p.Sets.length ≤ 4 ∧ Sm 12 p) := by
 have g : ∀ x, ∃ b, law27_PredicateSplits_1 N x = some b ∧ (b = false → x.Sets.length ≤ 4 ∧ Sm 12 x) := fun x => by
  obtain ⟨b1, e1, f1⟩ := few_eq (N := N) (p := x) (by omega)
  unfold law27_PredicateSplits_1
  rw [e1]
  refine ⟨_, rfl, fun h => ?_⟩
  cases b1 with
  | false => cases h
  | true => exact f1 rfl
 have g' : ∃ f : GPredicate → Bool, ∀ x, law27_PredicateSplits_1 N x = some (f x) ∧ (f x = false → x.Sets.length ≤ 4 ∧ Sm 12 x) :=
  ⟨fun x => Classical.choose (g x), fun x => Classical.choose_spec (g x)⟩
 obtain ⟨f, hf⟩ := g'
 unfold slices_ContainsFunc_LPredicate_Predicate slices_IndexFunc_LPredicate_Predicate
 rw [find_loop (l := l) (p := f) (e := .inl ()) (b := fun i _ => .inr (i : Int)) (N := N) ?_ ?_ (by omega)]
 ·cases hq : fnd f 0 l with
  | some q =>
   simp only [Option.bind_some]
   exact ⟨_, rfl, fun h => by simp [cmp_geq] at h⟩
  | none =>
   simp only [Option.bind_some]
   exact ⟨_, rfl, fun _ x hx => (hf x).2 (fnd_none hq x hx)⟩
 ·intro i x hx hi
  simp only [cmp_lss, len_def, idx_at, hx, (hf x).1, Option.bind_some, decide_eq_true_eq]
  rw [if_pos (by omega), inc_i64 hi (by omega)]
 ·simp [cmp_lss, len_def]
theorem checks_loop {N : Nat} {types : Int} {l : List GPredicate} (hN : 1000 < N) (hl : l.length ≤ 256) : loopN
        (fun (s1 : Int) =>
         (
          if Ar.cmp .lss s1 (Ar.len l) = true then
           (idxL l s1).bind fun x3 =>
           (predicate_Check N types x3).bind fun r4 =>
           if Ar.cmp .neq r4 0 = true then
            some (.inr (.inr r4))
           else
            some (.inl (Ar.ar .add .i64 s1 1))
          else
           some (.inr (.inl ()))
          : Option ((Int) ⊕ (Unit ⊕ Int))))
        N 0 = some (if fb (fun _ x => pck types x) 0 l = 0 then .inl () else .inr (fb (fun _ x => pck types x) 0 l)) := by
 rw [chk_loop (l := l) (f := fun _ x => pck types x) (e := .inl ()) (b := .inr) (N := N) ?_ ?_ (by omega)]
 ·intro i x hx hi
  simp only [cmp_lss, cmp_neq, len_def, idx_at, hx, Option.bind_some, pck_eq (show 256 < N by omega), decide_eq_true_eq]
  rw [if_pos (by omega), inc_i64 hi (by omega)]
  by_cases h : pck types x = 0
  ·simp [h]
  ·simp [h]
 ·simp [cmp_lss, len_def]
theorem rchecks_loop {N : Nat} {types : Int} {l : List GPredicate} (hN : 1000 < N) (hl : l.length ≤ 256) : loopN
        (fun (s1 : Int) =>
         (
          if Ar.cmp .lss s1 (Ar.len l) = true then
           (idxL l s1).bind fun x3 =>
           (ref27_Check N types x3).bind fun r4 =>
           if Ar.cmp .neq r4 0 = true then
            some (.inr (.inr r4))
           else
            some (.inl (Ar.ar .add .i64 s1 1))
          else
           some (.inr (.inl ()))
          : Option ((Int) ⊕ (Unit ⊕ Int))))
        N 0 = some (if fb (fun _ x => pck types x) 0 l = 0 then .inl () else .inr (fb (fun _ x => pck types x) 0 l)) := by
 rw [chk_loop (l := l) (f := fun _ x => pck types x) (e := .inl ()) (b := .inr) (N := N) ?_ ?_ (by omega)]
 ·intro i x hx hi
  simp only [cmp_lss, cmp_neq, len_def, idx_at, hx, Option.bind_some, rpck_eq (show 256 < N by omega), decide_eq_true_eq]
  rw [if_pos (by omega), inc_i64 hi (by omega)]
  by_cases h : pck types x = 0
  ·simp [h]
  ·simp [h]
 ·simp [cmp_lss, len_def]
theorem sameall_refl {N : Nat} {l : List GPredicate} (hl : l.length ≤ 1000) (h : ∀ p ∈ l, Sm 256 p ∧ p.Sets.length ≤ 1000) (hN : 100000 < N) : ref27_SameAll N l l = some true := by
 unfold ref27_SameAll
 rw [if_neg (by simp [cmp_neq]), chk_loop (l := l) (f := fun _ _ => 0) (e := .inl ()) (b := fun _ => .inr ()) (N := N) ?_ ?_ (by omega)]
 ·simp only [Option.bind_some, fb_const, if_true]
 ·intro i x hx hi
  obtain ⟨h1, h2⟩ := h x (List.mem_of_getElem? hx)
  simp only [cmp_lss, nt_def, len_def, idx_at, hx, Option.bind_some, decide_eq_true_eq, same_refl (N := N) (p := x) h1 (by omega) hN, Bool.not_true, Bool.false_eq_true, if_false]
  rw [if_pos (by omega), inc_i64 hi (by omega)]; rfl
 ·simp [cmp_lss, len_def]
theorem classes_eq {T B : Nat} {l out : List GPredicate} {W : List (List Int)} (hg : Gd T 12 l) (hl : l.length ≤ 5) (hT : 1 ≤ T ∧ T ≤ 4) (hM : Mint T B l out W) : ref27_Classes 40000000 (T : Int) l = some out := by
 unfold ref27_Classes
 refine bind_of1 (whole_eq hT) ?_
 have hlen : ∀ i j n, i ≤ l.length → ((sg l j n).take i).length = i := fun i j n hi => by simp [sg]; omega
 obtain ⟨A, h1, h2⟩ := loop_inv (N := 40000000) (l := l) (Q := fun (r : List GPredicate) => Pr T l r (wordsTo T l l.length))
  (I := fun i (t : List GPredicate × Int) => t.2 = (i : Int) ∧ Pr T l t.1 (wordsTo T l i))
  (s0 := ([(⟨List.replicate T [⟨-1099511627776, 1099511627776⟩]⟩ : GPredicate)], (0 : Int)))
  (step := fun (s2 : (List GPredicate) × Int) =>
   (
    if Ar.cmp .lss s2.2 (Ar.len l) = true then
     (loopN
      (fun (s4 : (List GPredicate) × Int) =>
       (
        if Ar.cmp .lss s4.2 (Ar.len s2.1) = true then
         (idxL s2.1 s4.2).bind fun x7 =>
         (idxL l s2.2).bind fun x8 =>
         (ref27_Both 40000000 x7 x8).bind fun r9 =>
         (idxL s2.1 s4.2).bind fun x10 =>
         (idxL l s2.2).bind fun x11 =>
         (ref27_Rest 40000000 x11).bind fun r12 =>
         (ref27_Both 40000000 x10 r12).bind fun r13 =>
         (ref27_Void 40000000 r9).bind fun r14 =>
         ((
          if Ar.nt r14 = true then
           (appL s4.1 ([r9])).bind fun l17 =>
           some l17
          else
           some s4.1
         ) : Option (((List GPredicate)))).bind fun s15 =>
         (ref27_Void 40000000 r13).bind fun r19 =>
         if Ar.nt r19 = true then
          (appL s15 ([r13])).bind fun l21 =>
          some (.inl (l21, Ar.ar .add .i64 s4.2 1))
         else
          some (.inl (s15, Ar.ar .add .i64 s4.2 1))
        else
         some (.inr s4.1)
        : Option (((List GPredicate) × Int) ⊕ (((List GPredicate))))))
      40000000 ([], 0)).bind fun s6 =>
     some (.inl (s6, Ar.ar .add .i64 s2.2 1))
    else
     some (.inr s2.1)
    : Option (((List GPredicate) × Int) ⊕ (((List GPredicate))))))
  (fun i x t hx hi ⟨e1, e2⟩ => by
   obtain ⟨A, q⟩ := t
   simp only at e1 e2
   subst e1
   have hVl := wordsTo_len (T := T) (l := l) hT.1 (i := i)
   have h2i : 2 ^ i ≤ 2 ^ 5 := Nat.pow_le_pow_right (by decide) (by omega)
   obtain ⟨B', k1, k2⟩ := part_loop (N := 40000000) hg hl hT (by decide) hx e2 (fun u hu => ((wordsTo_mem hT.1).1 hu).1) (by omega)
   rw [if_pos (by simp only [cmp_lss, len_def, decide_eq_true_eq]; omega)]
   simp only
   rw [k1]
   simp only [Option.bind_some]
   rw [inc_i64 hi (by omega)]
   exact ⟨_, rfl, rfl, k2⟩)
  (fun t ⟨e1, e2⟩ => by
   obtain ⟨A, q⟩ := t
   simp only at e1 e2
   subst e1
   rw [if_neg (by simp only [cmp_lss, len_def, decide_eq_true_eq]; omega)]
   exact ⟨_, rfl, e2⟩)
  ⟨rfl, by simp [wordsTo], fun c a u ha hu => by
   have hc : c = 0 := by have := (List.getElem?_eq_some_iff.1 ha).1; simp at this; exact this
   subst hc
   simp [wordsTo] at ha hu
   subst ha; subst hu
   exact whole_ws.congr fun j n => by simp⟩ (by omega)
 refine bind_of1 h1 ?_
 obtain ⟨hAl, hA⟩ := h2
 have hVl := wordsTo_len (T := T) (l := l) hT.1 (i := l.length)
 have h2i : 2 ^ l.length ≤ 2 ^ 5 := Nat.pow_le_pow_right (by decide) (by omega)
 have full : ∀ {u : List Int}, u ∈ wordsTo T l l.length → u.length = l.length := fun hu => ((wordsTo_mem hT.1).1 hu).1
 have hAw : ∀ (c : Nat) a u, A[c]? = some a → (wordsTo T l l.length)[c]? = some u → Ws T l (fun v => v = u) a := fun c a u ha hu => by
  have := hA c a u ha hu
  refine this.congr fun j n => ?_
  rw [full (List.mem_of_getElem? hu), List.take_of_length_le (by simp [sg])]
 have hwAt : ∀ (c : Nat), c < A.length → ∃ u, (wordsTo T l l.length)[c]? = some u := fun c hc => ⟨_, List.getElem?_eq_getElem (by omega)⟩
 have hocc : ∀ u ∈ wordsTo T l l.length, ∃ j n, j < T ∧ (-1099511627776 ≤ n ∧ n ≤ 1099511627776) ∧ sg l j n = u := fun u hu => by
  obtain ⟨g1, g2, j, n, g3, g4, g5⟩ := (wordsTo_mem hT.1).1 hu
  rw [g1, List.take_of_length_le (by simp [sg])] at g5
  exact ⟨j, n, g3, g4, g5⟩
 have hleast : ∀ {p : GPredicate} {u : List Int}, Ws T l (fun v => v = u) p → u ∈ wordsTo T l l.length → ∃ (j : Nat) (n : Int), least1 p = ⟨(j : Int), n⟩ ∧ At p j n ∧ ∀ j' n', At p j' n' → (j' = j ∧ n' = n) ∨ Lx j n j' n' := fun hp hu => by
  obtain ⟨j, n, g1, g2, g3⟩ := hocc _ hu
  exact least_spec (fun a ha => by obtain ⟨i, hi⟩ := List.getElem?_of_mem ha; exact (hp.at' i a hi).1) ⟨j, n, hp.atp.2 ⟨g1, g2, g3⟩⟩
 obtain ⟨R, k1, k2, k3⟩ := sort_loop (N := 40000000) (A := A) (by omega) (fun p hp => by
  obtain ⟨c, hc⟩ := List.getElem?_of_mem hp
  obtain ⟨u, hu⟩ := hwAt c (List.getElem?_eq_some_iff.1 hc).1
  rw [(hAw c p u hc hu).len]; omega) (fun c c' a b ha hb hne e => by
  obtain ⟨u, hu⟩ := hwAt c (List.getElem?_eq_some_iff.1 ha).1
  obtain ⟨v, hv⟩ := hwAt c' (List.getElem?_eq_some_iff.1 hb).1
  obtain ⟨j, n, g1, g2, _⟩ := hleast (hAw c a u ha hu) (List.mem_of_getElem? hu)
  obtain ⟨j', n', g3, g4, _⟩ := hleast (hAw c' b v hb hv) (List.mem_of_getElem? hv)
  rw [g1, g3] at e
  have e1 : j = j' := by have := congrArg GSymbol.Typ e; simp only at this; omega
  have e2 : n = n' := congrArg GSymbol.Num e
  subst e1; subst e2
  have q1 := ((hAw c a u ha hu).atp.1 g2).2.2
  have q2 := ((hAw c' b v hb hv).atp.1 g4).2.2
  have : u = v := q1.symm.trans q2
  subst this
  obtain ⟨f1, f2⟩ := List.getElem?_eq_some_iff.1 hu
  obtain ⟨f3, f4⟩ := List.getElem?_eq_some_iff.1 hv
  exact hne ((List.getElem_inj (wordsTo_nodup (T := T) (l := l))).1 (f2.trans f4.symm))) (by decide)
 refine bind_of1 k1 ?_
 congr 1
 have hRA : ∀ p ∈ R, ∃ u ∈ wordsTo T l l.length, Ws T l (fun v => v = u) p := fun p hp => by
  obtain ⟨c, hc⟩ := List.getElem?_of_mem (k2.mem_iff.1 hp)
  obtain ⟨u, hu⟩ := hwAt c (List.getElem?_eq_some_iff.1 hc).1
  exact ⟨u, List.mem_of_getElem? hu, hAw c p u hc hu⟩
 refine sorted_ext (R := PLt) (fun a b h => plt_asym h) ?_ ?_ fun p => ?_
 ·refine (List.Pairwise.and_mem.1 k3).imp fun {a b} ⟨ha, hb, h⟩ => ?_
  obtain ⟨u, hu, hua⟩ := hRA a ha
  obtain ⟨v, hv, hvb⟩ := hRA b hb
  obtain ⟨j, n, g1, g2, _⟩ := hleast hua hu
  obtain ⟨j', n', g3, _, g4⟩ := hleast hvb hv
  rw [g1, g3] at h
  simp only [bfr, decide_eq_true_eq] at h
  refine ⟨j, n, g2, fun j2 n2 hq => ?_⟩
  have := g4 j2 n2 hq
  unfold Lx at *
  omega
 ·refine List.pairwise_iff_getElem.2 fun c c' hc hc' hcc => ?_
  have ha := List.getElem?_eq_getElem hc
  have hb := List.getElem?_eq_getElem hc'
  have hw := List.getElem?_eq_getElem (show c < W.length by rw [← hM.len]; exact hc)
  have hw' := List.getElem?_eq_getElem (show c' < W.length by rw [← hM.len]; exact hc')
  obtain ⟨j, n, g1, g2, g3, g4⟩ := hM.ord c c' _ _ hcc hw hw'
  refine ⟨j, n, (hM.ws ha hw).atp.2 ⟨g1, g2, g3⟩, fun j' n' hq => ?_⟩
  obtain ⟨f1, f2, f3⟩ := (hM.ws hb hw').atp.1 hq
  exact g4 j' n' f1 f2 f3
 ·rw [k2.mem_iff]
  constructor
  ·intro hp
   obtain ⟨c, hc⟩ := List.getElem?_of_mem hp
   obtain ⟨u, hu⟩ := hwAt c (List.getElem?_eq_some_iff.1 hc).1
   obtain ⟨j, n, g1, g2, g3⟩ := hocc u (List.mem_of_getElem? hu)
   have huW : u ∈ W := g3 ▸ hM.cov j n g1 g2
   obtain ⟨d, hd⟩ := List.getElem?_of_mem huW
   have hq := List.getElem?_eq_getElem (show d < out.length by rw [hM.len]; exact (List.getElem?_eq_some_iff.1 hd).1)
   rw [(hAw c p u hc hu).ext (hM.ws hq hd) fun j n _ _ => Iff.rfl]
   exact List.mem_of_getElem? hq
  ·intro hp
   obtain ⟨c, hc⟩ := List.getElem?_of_mem hp
   have hw := List.getElem?_eq_getElem (show c < W.length by rw [← hM.len]; exact (List.getElem?_eq_some_iff.1 hc).1)
   have hwm := List.mem_of_getElem? hw
   obtain ⟨j, n, g1, g2, g3⟩ := hM.occ _ hwm
   have huV : W[c]'(by rw [← hM.len]; exact (List.getElem?_eq_some_iff.1 hc).1) ∈ wordsTo T l l.length := (wordsTo_mem hT.1).2 ⟨by rw [← g3]; simp [sg], by rw [← g3]; exact sg_bits, j, n, g1, g2, by rw [← g3, List.take_of_length_le (by simp)]⟩
   obtain ⟨d, hd⟩ := List.getElem?_of_mem huV
   have hq := List.getElem?_eq_getElem (show d < A.length by rw [hAl]; exact (List.getElem?_eq_some_iff.1 hd).1)
   rw [(hM.ws hc hw).ext (hAw d _ _ hq hd) fun j n _ _ => Iff.rfl]
   exact List.mem_of_getElem? hq
theorem splits_law (aw : law27_awake 40000000 = some true) (types : Int) (l : List GPredicate) : law27_PredicateSplits 40000000 types l = some true := by
 unfold law27_PredicateSplits
 by_cases h0 : 5 < l.length ∨ (4 < types ∧ types ≤ 16)
 ·rw [if_pos (by simp only [or_def, an_def, cmp_gtr, cmp_leq, len_def, Bool.or_eq_true, Bool.and_eq_true, decide_eq_true_eq]; omega), aw]; rfl
 ·rw [if_neg (by simp only [or_def, an_def, cmp_gtr, cmp_leq, len_def, Bool.or_eq_true, Bool.and_eq_true, decide_eq_true_eq]; omega)]
  obtain ⟨b, hb, hfew⟩ := few_one (N := 40000000) (l := l) (by omega) (by decide)
  rw [hb]
  simp only [Option.bind_some]
  cases b with
  | true => rw [if_pos rfl, aw]; rfl
  | false =>
   rw [if_neg (by decide)]
   have hfew := hfew rfl
   have fin : ∀ (x : List GPredicate × Int), predicate_Minterms 40000000 types l = some x → ref27_Minterms 40000000 types l = some x → ref27_SameAll 40000000 x.1 x.1 = some true →
    ((predicate_Minterms 40000000 types l).bind fun r4 => (ref27_Minterms 40000000 types l).bind fun r5 => (ref27_SameAll 40000000 r4.1 r5.1).bind fun r6 => if Ar.an r6 (Ar.cmp .eql r4.2 r5.2) = true then (law27_awake 40000000).bind fun r7 => some r7 else some false) = some true := fun x h1 h2 h3 => by
    rw [h1, h2]
    simp only [Option.bind_some, h3, aw, cmp_eql, decide_true, an_def, Bool.and_self, if_true]
   have nil : ref27_SameAll 40000000 [] [] = some true := sameall_refl (by simp) (fun p hp => by cases hp) (by decide)
   by_cases ht : types < 1 ∨ 16 < types
   ·refine fin ([], 2) ?_ ?_ nil
    ·unfold predicate_Minterms
     rw [if_pos (by simp only [or_def, cmp_lss, cmp_gtr, Bool.or_eq_true, decide_eq_true_eq]; omega)]
    ·unfold ref27_Minterms
     rw [if_pos (by simp only [or_def, cmp_lss, cmp_gtr, Bool.or_eq_true, decide_eq_true_eq]; omega)]
   ·obtain ⟨T, rfl⟩ : ∃ T : Nat, types = (T : Int) := ⟨types.toNat, by omega⟩
    by_cases hc : fb (fun _ x => pck (T : Int) x) 0 l = 0
    ·have hpck : ∀ p ∈ l, pck (T : Int) p = 0 := fun p hp => by
      obtain ⟨k, hk⟩ := List.getElem?_of_mem hp
      exact fb_zero.1 hc k p hk
     have hlen : ∀ p ∈ l, p.Sets.length = T := fun p hp => by
      have h2 := hpck p hp
      unfold pck at h2
      split at h2
      ·cases h2
      ·by_cases e : (p.Sets.length : Int) = (T : Int)
       ·omega
       ·simp [e] at h2
     have hg : Gd T 12 l := ⟨hlen, fun p hp => (own1_zero (p := p) (by unfold own1; rw [hlen p hp]; exact hpck p hp)).2, fun p hp => (hfew p hp).2⟩
     obtain ⟨out, W, hm, hM⟩ := minterms_eq (N := 40000000) hg (by omega) (by omega) (by decide) (by decide)
     have hcl := classes_eq hg (by omega) (by omega) hM
     have hWl : W.length ≤ 32 := by
      have h1 := words_len hM.nodup hM.bits
      have h2 : 2 ^ l.length ≤ 2 ^ 5 := Nat.pow_le_pow_right (by decide) (by omega)
      omega
     have hol := hM.len
     have hsm : ∀ p ∈ out, Sm 256 p ∧ p.Sets.length ≤ 1000 := fun p hp => by
      refine ⟨fun x hx => ?_, by rw [hM.sets p hp]; omega⟩
      obtain ⟨c, hcp⟩ := List.getElem?_of_mem hp
      obtain ⟨j, hj⟩ := List.getElem?_of_mem hx
      have hw := List.getElem?_eq_getElem (show c < W.length by rw [← hol]; exact (List.getElem?_eq_some_iff.1 hcp).1)
      have := (hM.ws hcp hw).small5 hg (by omega) x hx
      omega
     refine fin (out, 0) hm ?_ (sameall_refl (l := out) (by omega) hsm (by decide))
     unfold ref27_Minterms
     rw [if_neg (by simp only [or_def, cmp_lss, cmp_gtr, Bool.or_eq_true, decide_eq_true_eq]; omega), if_neg (by simp only [cmp_gtr, len_def, decide_eq_true_eq]; omega)]
     refine bind_of1 (rchecks_loop (by decide) (by omega)) ?_
     rw [if_pos hc]
     refine bind_of1 hcl ?_
     rw [if_neg (by simp only [cmp_gtr, len_def, decide_eq_true_eq]; omega)]
     refine bind_of1 (x := Sum.inl ()) ?_ rfl
     rw [chk_loop (l := out) (f := fun _ _ => 0) (e := .inl ()) (b := .inr) (N := 40000000) ?_ ?_ (by omega)]
     ·rw [fb_const, if_pos rfl]
     ·intro i x hx hi
      obtain ⟨h1, h2⟩ := hsm x (List.mem_of_getElem? hx)
      have hlim : ref27_limited 40000000 x = some (x, 0) := limited_ok (R := x.Sets) h1 (by omega) (by omega)
      simp only [cmp_lss, cmp_neq, len_def, idx_at, hx, Option.bind_some, hlim, decide_true, Bool.not_true, Bool.false_eq_true, if_false, decide_eq_true_eq]
      rw [if_pos (by omega), inc_i64 hi (by omega)]; rfl
     ·simp [cmp_lss, len_def]
    ·refine fin ([], fb (fun _ x => pck (T : Int) x) 0 l) ?_ ?_ nil
     ·unfold predicate_Minterms
      rw [if_neg (by simp only [or_def, cmp_lss, cmp_gtr, Bool.or_eq_true, decide_eq_true_eq]; omega), if_neg (by simp only [cmp_gtr, len_def, decide_eq_true_eq]; omega)]
      refine bind_of1 (checks_loop (by decide) (by omega)) ?_
      rw [if_neg hc]
     ·unfold ref27_Minterms
      rw [if_neg (by simp only [or_def, cmp_lss, cmp_gtr, Bool.or_eq_true, decide_eq_true_eq]; omega), if_neg (by simp only [cmp_gtr, len_def, decide_eq_true_eq]; omega)]
      refine bind_of1 (rchecks_loop (by decide) (by omega)) ?_
      rw [if_neg hc]
end Go.Ab

namespace Go.Proofs.YtpapabjndpgcnaaGreat.predicateSplits
open Go.ChangeShapes Go.WideShapes Go.ChangeAt Go.RowKit Go.Ab
set_option maxRecDepth 100000
theorem awake_ok : law27_awake 40000000 = some true := by kernel_rfl
theorem law (x0 : Int) (x1 : List GPredicate) : CallP Tryz.prog 3 [.int .i64 x0, .sl (Ar.lst Encs.eGPredicate x1) .ro] (.bool true) := by
 have h := c3 _ x0 x1 true (splits_law awake_ok x0 x1)
 exact h
theorem own : ownKnob Tryz.prog.godebug = none := by kernel_rfl
theorem laidOut : laidOutB Tryz.prog = true := by kernel_rfl
theorem globs0 {W : World} : ∀ n, VR (g0 W) W (.pointer (some ⟨n, 0, none⟩)) (Glob.gl n) := fun n => .bad _
theorem contract (H : Type) (enc : TypeId × Value → H) (W : World) (base : Nat) (args : Array Value) (ds gs : List (DataW H)) (before : List MemPlace)
 (hval : ∀ (j : Nat) t v, Tryz.f3.params[j]? = some t → args[j]? = some v → Value.okWide Tryz.prog W .any base t v)
 (hW : DataW.Whole enc Tryz.prog Tryz.f3.params.toList Rows.predicateSplitsSpec.vars false W args.toList ds gs before) :
 Calls Tryz.prog 3 args W fun e W' => ∃ v, e = .returned v ∧ Rows.predicateSplitsSpec.post enc Tryz.prog Tryz.f3 false true false false W args v W' := by
 have hW' := hW
 obtain ⟨p, q, hA0, hV, rfl, hfz, hnd⟩ := hW
 have hA : DataW.TrodAll enc Tryz.prog W 0 (fun _ => true) true Tryz.f3.params.toList args.toList ds p := hA0
 rw [Tryz.params3] at hA hval
 obtain ⟨v0, vs0, d0, ds0, p0, q0, hargs, rfl, rfl, h0, r0⟩ := trodAll_cons hA
 obtain ⟨v1, vs1, d1, ds1, p1, q1, rfl, rfl, rfl, h1, r1⟩ := trodAll_cons r0
 obtain ⟨rfl, rfl, rfl⟩ := trodAll_nil r1
 obtain rfl : args = #[v0, v1] := by cases args; simp_all
 obtain ⟨rfl, rfl⟩ := trodVars_none hV
 have hlt : ∀ x ∈ p0 ++ (p1 ++ []), x.block < W.heap.size := fun x hx => by
  have := hW'.lt x (by simpa using hx)
  simpa using this
 obtain ⟨x0, k0⟩ := arg_int (hval 0 3 v0 rfl rfl)
 obtain ⟨x1, k1⟩ := arg_predicates (hval 1 22 v1 rfl rfl) h1
 refine (law_run globs0 Tryz.call3 (law x0 x1) (args2 k0 k1)).mono fun e W' ⟨he, hbl⟩ => ?_
 subst he
 refine ⟨_, rfl, _, _, _, [], p0 ++ (p1 ++ []), [], hW', ?_, ?_, rfl, hbl.frame _, fun h => by cases h⟩
 ·exact trodAll_cons_mk (shut_bool u4 _) trodAll_mk0
 ·exact trodAll_cons_mk (Below.trod laidOut (by kernel_rfl) (of_decide_eq_true (by kernel_rfl)) h0 hbl fun x hx => hlt x (by simp [hx]))
   (trodAll_cons_mk (Below.trod laidOut (by kernel_rfl) (of_decide_eq_true (by kernel_rfl)) h1 hbl fun x hx => hlt x (by simp [hx]))
   trodAll_mk0)
def arg0 : Value := .int .i64 0
def arg1 : Value := .slice none 0 0
noncomputable def world0 (os : Os) : World := World.holding Tryz.prog os ⟨#[], #[], []⟩
theorem laid_met (os : Os) : laidMet Tryz.prog Rows.predicateSplitsRow.laid ((world0 os).forCall (fun _ _ => 0) ⟨#[], #[arg0, arg1], []⟩).memory :=
 laidMet_of_run' 8 (by kernel_rfl) (by kernel_rfl)
theorem reads (os : Os) {H : Type} (enc : TypeId × Value → H) : ∃ places, DataW.whole enc Tryz.prog ((world0 os).forCall (fun _ _ => 0) ⟨#[], #[arg0, arg1], []⟩).memory Tryz.f3.params.toList Rows.predicateSplitsSpec.vars false #[arg0, arg1].toList 8 = some ([.lit (.int .i64 0), .nil], [], places) :=
 ⟨[], by kernel_rfl⟩
theorem lifted (os : Os) (started : os.Started) (H : Type) (enc : TypeId × Value → H) (F : Stop.Interp) :
 ReturnsInHanded {} Tryz.checked os 3 .any ((OpenSpec.ofChange Rows.predicateSplitsSpec).preRow enc Tryz.prog Tryz.f3 Rows.predicateSplitsRow.domain false Rows.predicateSplitsRow.laid) (((OpenSpec.ofChange Rows.predicateSplitsSpec).at F).post enc Tryz.prog Tryz.f3 false true false false) := by
 obtain ⟨places, hx⟩ := reads os enc
 refine returnsInHanded_of_row (C := Tryz.checked) (s := OpenSpec.ofChange Rows.predicateSplitsSpec) own started (by kernel_rfl) Tryz.func3
  (witness_row_at (enc := enc) (C := Tryz.checked) false (world0 os) #[arg0, arg1] rfl (by kernel_rfl) (by kernel_rfl) (by kernel_rfl)
   (OpenSpec.preRow_of_cond 8 hx (by kernel_rfl) (fun k hk => by cases hk) (by kernel_rfl) (laid_met os))) ?_
 intro W base args ds gs before hval hW _ _ _ _ _ _
 exact contract H enc W base args ds gs before hval hW
theorem said : Rows.PredicateSplitsSaid :=
 OpenClaim.holds_of_cond 3 Tryz.f3 rfl rfl rfl rfl rfl rfl rfl ⟨rfl, rfl, rfl, rfl, rfl⟩ rfl rfl rfl rfl rfl (by kernel_rfl) Tryz.func3 (by kernel_rfl)
  (of_decide_eq_true (by kernel_rfl)) (by unfold Func.isWrapper; first | (rw [if_pos (by decide +kernel)]; kernel_rfl) | (rw [if_neg (by decide +kernel)]; exact ⟨rfl, rfl⟩))
  (fun os started H enc _ F => by rw [OpenClaim.pre_eq_preRow]; exact lifted os started H enc F)
#print axioms said
end Go.Proofs.YtpapabjndpgcnaaGreat.predicateSplits

