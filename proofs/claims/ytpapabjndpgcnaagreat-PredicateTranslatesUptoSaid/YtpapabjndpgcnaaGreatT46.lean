/- GPT10 -/
import Derived.Test.YtpapabjndpgcnaaGreatT45
set_option linter.all false

namespace Go.Ab
open Classical
set_option maxRecDepth 100000
theorem rep1 (v : GVariable) : slices_Repeat_LVariable_Variable 40000000 [v] 1 = some (List.replicate 1 v) := by kernel_rfl
theorem rep2 (v : GVariable) : slices_Repeat_LVariable_Variable 40000000 [v] 2 = some (List.replicate 2 v) := by kernel_rfl
theorem rep3 (v : GVariable) : slices_Repeat_LVariable_Variable 40000000 [v] 3 = some (List.replicate 3 v) := by kernel_rfl
theorem rep4 (v : GVariable) : slices_Repeat_LVariable_Variable 40000000 [v] 4 = some (List.replicate 4 v) := by kernel_rfl
theorem rep5 (v : GVariable) : slices_Repeat_LVariable_Variable 40000000 [v] 5 = some (List.replicate 5 v) := by kernel_rfl
theorem rep6 (v : GVariable) : slices_Repeat_LVariable_Variable 40000000 [v] 6 = some (List.replicate 6 v) := by kernel_rfl
theorem rep7 (v : GVariable) : slices_Repeat_LVariable_Variable 40000000 [v] 7 = some (List.replicate 7 v) := by kernel_rfl
theorem rep8 (v : GVariable) : slices_Repeat_LVariable_Variable 40000000 [v] 8 = some (List.replicate 8 v) := by kernel_rfl
theorem rep9 (v : GVariable) : slices_Repeat_LVariable_Variable 40000000 [v] 9 = some (List.replicate 9 v) := by kernel_rfl
theorem rep10 (v : GVariable) : slices_Repeat_LVariable_Variable 40000000 [v] 10 = some (List.replicate 10 v) := by kernel_rfl
theorem rep11 (v : GVariable) : slices_Repeat_LVariable_Variable 40000000 [v] 11 = some (List.replicate 11 v) := by kernel_rfl
theorem rep12 (v : GVariable) : slices_Repeat_LVariable_Variable 40000000 [v] 12 = some (List.replicate 12 v) := by kernel_rfl
theorem rep13 (v : GVariable) : slices_Repeat_LVariable_Variable 40000000 [v] 13 = some (List.replicate 13 v) := by kernel_rfl
theorem rep14 (v : GVariable) : slices_Repeat_LVariable_Variable 40000000 [v] 14 = some (List.replicate 14 v) := by kernel_rfl
theorem rep15 (v : GVariable) : slices_Repeat_LVariable_Variable 40000000 [v] 15 = some (List.replicate 15 v) := by kernel_rfl
theorem rep16 (v : GVariable) : slices_Repeat_LVariable_Variable 40000000 [v] 16 = some (List.replicate 16 v) := by kernel_rfl
theorem vars1 (v : GVariable) : loopN (fun (s3 : (List GVariable) × Int) =>
 (
  if Ar.cmp .leq s3.2 0 = true then
   (appL s3.1 ([v])).bind fun l7 =>
   some (.inl (l7, Ar.ar .add .i64 s3.2 1))
  else
   some (.inr s3.1)
  : Option (((List GVariable) × Int) ⊕ (((List GVariable)))))) 40000000 ([], 0) = some (List.replicate 1 v) := by kernel_rfl
theorem vars2 (v : GVariable) : loopN (fun (s3 : (List GVariable) × Int) =>
 (
  if Ar.cmp .leq s3.2 1 = true then
   (appL s3.1 ([v])).bind fun l7 =>
   some (.inl (l7, Ar.ar .add .i64 s3.2 1))
  else
   some (.inr s3.1)
  : Option (((List GVariable) × Int) ⊕ (((List GVariable)))))) 40000000 ([], 0) = some (List.replicate 2 v) := by kernel_rfl
theorem vars3 (v : GVariable) : loopN (fun (s3 : (List GVariable) × Int) =>
 (
  if Ar.cmp .leq s3.2 2 = true then
   (appL s3.1 ([v])).bind fun l7 =>
   some (.inl (l7, Ar.ar .add .i64 s3.2 1))
  else
   some (.inr s3.1)
  : Option (((List GVariable) × Int) ⊕ (((List GVariable)))))) 40000000 ([], 0) = some (List.replicate 3 v) := by kernel_rfl
theorem vars4 (v : GVariable) : loopN (fun (s3 : (List GVariable) × Int) =>
 (
  if Ar.cmp .leq s3.2 3 = true then
   (appL s3.1 ([v])).bind fun l7 =>
   some (.inl (l7, Ar.ar .add .i64 s3.2 1))
  else
   some (.inr s3.1)
  : Option (((List GVariable) × Int) ⊕ (((List GVariable)))))) 40000000 ([], 0) = some (List.replicate 4 v) := by kernel_rfl
theorem vars5 (v : GVariable) : loopN (fun (s3 : (List GVariable) × Int) =>
 (
  if Ar.cmp .leq s3.2 4 = true then
   (appL s3.1 ([v])).bind fun l7 =>
   some (.inl (l7, Ar.ar .add .i64 s3.2 1))
  else
   some (.inr s3.1)
  : Option (((List GVariable) × Int) ⊕ (((List GVariable)))))) 40000000 ([], 0) = some (List.replicate 5 v) := by kernel_rfl
theorem vars6 (v : GVariable) : loopN (fun (s3 : (List GVariable) × Int) =>
 (
  if Ar.cmp .leq s3.2 5 = true then
   (appL s3.1 ([v])).bind fun l7 =>
   some (.inl (l7, Ar.ar .add .i64 s3.2 1))
  else
   some (.inr s3.1)
  : Option (((List GVariable) × Int) ⊕ (((List GVariable)))))) 40000000 ([], 0) = some (List.replicate 6 v) := by kernel_rfl
theorem vars7 (v : GVariable) : loopN (fun (s3 : (List GVariable) × Int) =>
 (
  if Ar.cmp .leq s3.2 6 = true then
   (appL s3.1 ([v])).bind fun l7 =>
   some (.inl (l7, Ar.ar .add .i64 s3.2 1))
  else
   some (.inr s3.1)
  : Option (((List GVariable) × Int) ⊕ (((List GVariable)))))) 40000000 ([], 0) = some (List.replicate 7 v) := by kernel_rfl
theorem vars8 (v : GVariable) : loopN (fun (s3 : (List GVariable) × Int) =>
 (
  if Ar.cmp .leq s3.2 7 = true then
   (appL s3.1 ([v])).bind fun l7 =>
   some (.inl (l7, Ar.ar .add .i64 s3.2 1))
  else
   some (.inr s3.1)
  : Option (((List GVariable) × Int) ⊕ (((List GVariable)))))) 40000000 ([], 0) = some (List.replicate 8 v) := by kernel_rfl
theorem vars9 (v : GVariable) : loopN (fun (s3 : (List GVariable) × Int) =>
 (
  if Ar.cmp .leq s3.2 8 = true then
   (appL s3.1 ([v])).bind fun l7 =>
   some (.inl (l7, Ar.ar .add .i64 s3.2 1))
  else
   some (.inr s3.1)
  : Option (((List GVariable) × Int) ⊕ (((List GVariable)))))) 40000000 ([], 0) = some (List.replicate 9 v) := by kernel_rfl
theorem vars10 (v : GVariable) : loopN (fun (s3 : (List GVariable) × Int) =>
 (
  if Ar.cmp .leq s3.2 9 = true then
   (appL s3.1 ([v])).bind fun l7 =>
   some (.inl (l7, Ar.ar .add .i64 s3.2 1))
  else
   some (.inr s3.1)
  : Option (((List GVariable) × Int) ⊕ (((List GVariable)))))) 40000000 ([], 0) = some (List.replicate 10 v) := by kernel_rfl
theorem vars11 (v : GVariable) : loopN (fun (s3 : (List GVariable) × Int) =>
 (
  if Ar.cmp .leq s3.2 10 = true then
   (appL s3.1 ([v])).bind fun l7 =>
   some (.inl (l7, Ar.ar .add .i64 s3.2 1))
  else
   some (.inr s3.1)
  : Option (((List GVariable) × Int) ⊕ (((List GVariable)))))) 40000000 ([], 0) = some (List.replicate 11 v) := by kernel_rfl
theorem vars12 (v : GVariable) : loopN (fun (s3 : (List GVariable) × Int) =>
 (
  if Ar.cmp .leq s3.2 11 = true then
   (appL s3.1 ([v])).bind fun l7 =>
   some (.inl (l7, Ar.ar .add .i64 s3.2 1))
  else
   some (.inr s3.1)
  : Option (((List GVariable) × Int) ⊕ (((List GVariable)))))) 40000000 ([], 0) = some (List.replicate 12 v) := by kernel_rfl
theorem vars13 (v : GVariable) : loopN (fun (s3 : (List GVariable) × Int) =>
 (
  if Ar.cmp .leq s3.2 12 = true then
   (appL s3.1 ([v])).bind fun l7 =>
   some (.inl (l7, Ar.ar .add .i64 s3.2 1))
  else
   some (.inr s3.1)
  : Option (((List GVariable) × Int) ⊕ (((List GVariable)))))) 40000000 ([], 0) = some (List.replicate 13 v) := by kernel_rfl
theorem vars14 (v : GVariable) : loopN (fun (s3 : (List GVariable) × Int) =>
 (
  if Ar.cmp .leq s3.2 13 = true then
   (appL s3.1 ([v])).bind fun l7 =>
   some (.inl (l7, Ar.ar .add .i64 s3.2 1))
  else
   some (.inr s3.1)
  : Option (((List GVariable) × Int) ⊕ (((List GVariable)))))) 40000000 ([], 0) = some (List.replicate 14 v) := by kernel_rfl
theorem vars15 (v : GVariable) : loopN (fun (s3 : (List GVariable) × Int) =>
 (
  if Ar.cmp .leq s3.2 14 = true then
   (appL s3.1 ([v])).bind fun l7 =>
   some (.inl (l7, Ar.ar .add .i64 s3.2 1))
  else
   some (.inr s3.1)
  : Option (((List GVariable) × Int) ⊕ (((List GVariable)))))) 40000000 ([], 0) = some (List.replicate 15 v) := by kernel_rfl
theorem vars16 (v : GVariable) : loopN (fun (s3 : (List GVariable) × Int) =>
 (
  if Ar.cmp .leq s3.2 15 = true then
   (appL s3.1 ([v])).bind fun l7 =>
   some (.inl (l7, Ar.ar .add .i64 s3.2 1))
  else
   some (.inr s3.1)
  : Option (((List GVariable) × Int) ⊕ (((List GVariable)))))) 40000000 ([], 0) = some (List.replicate 16 v) := by kernel_rfl
theorem rep_eq {own : Int} (h : 0 ≤ own ∧ own < 16) (v : GVariable) : ∃ l : List GVariable, slices_Repeat_LVariable_Variable 40000000 [v] (Ar.ar .add .i64 own 1) = some l ∧ loopN (fun (s3 : (List GVariable) × Int) =>
 (
  if Ar.cmp .leq s3.2 own = true then
   (appL s3.1 ([v])).bind fun l7 =>
   some (.inl (l7, Ar.ar .add .i64 s3.2 1))
  else
   some (.inr s3.1)
  : Option (((List GVariable) × Int) ⊕ (((List GVariable)))))) 40000000 ([], 0) = some l := by
 have : own = 0 ∨ own = 1 ∨ own = 2 ∨ own = 3 ∨ own = 4 ∨ own = 5 ∨ own = 6 ∨ own = 7 ∨ own = 8 ∨ own = 9 ∨ own = 10 ∨ own = 11 ∨ own = 12 ∨ own = 13 ∨ own = 14 ∨ own = 15 := by omega
 rw [add_i64 (by omega) (by omega)]
 rcases this with rfl | rfl | rfl | rfl | rfl | rfl | rfl | rfl | rfl | rfl | rfl | rfl | rfl | rfl | rfl | rfl
 ·exact ⟨_, rep1 v, vars1 v⟩
 ·exact ⟨_, rep2 v, vars2 v⟩
 ·exact ⟨_, rep3 v, vars3 v⟩
 ·exact ⟨_, rep4 v, vars4 v⟩
 ·exact ⟨_, rep5 v, vars5 v⟩
 ·exact ⟨_, rep6 v, vars6 v⟩
 ·exact ⟨_, rep7 v, vars7 v⟩
 ·exact ⟨_, rep8 v, vars8 v⟩
 ·exact ⟨_, rep9 v, vars9 v⟩
 ·exact ⟨_, rep10 v, vars10 v⟩
 ·exact ⟨_, rep11 v, vars11 v⟩
 ·exact ⟨_, rep12 v, vars12 v⟩
 ·exact ⟨_, rep13 v, vars13 v⟩
 ·exact ⟨_, rep14 v, vars14 v⟩
 ·exact ⟨_, rep15 v, vars15 v⟩
 ·exact ⟨_, rep16 v, vars16 v⟩
theorem of_eq {types : List GSchema} {index own : Int} {cond : GExpr} (hb : cond.bulk ≤ 16777216) : ∃ r, predicate_Of 40000000 types index cond own = some r ∧ ref27_Of 40000000 types index cond own = some r ∧ Sm 256 r.1 ∧ r.1.Sets.length ≤ 16 := by
 have sm0 : Sm 256 ⟨[]⟩ := fun x hx => by cases hx
 unfold predicate_Of ref27_Of
 rw [all_eq (by decide), rall_eq (by decide)]
 simp only [Option.bind_some, cmp_neq, Bool.not_eq_true', decide_eq_false_iff_not]
 by_cases h0 : scaC 40000000 types = 0
 ·have hsc := sca_zero h0
  simp only [h0, not_true_eq_false, if_false]
  by_cases h1 : index < 0 ∨ (types.length : Int) ≤ index
  ·have e1 : Ar.or (Ar.cmp .lss index 0) (Ar.cmp .geq index (Ar.len types)) = true := by simp only [or_def, cmp_lss, cmp_geq, len_def, Bool.or_eq_true, decide_eq_true_eq]; exact h1
   simp only [e1, if_true]
   exact ⟨(⟨[]⟩, 6), rfl, rfl, sm0, by simp⟩
  ·have e1 : Ar.or (Ar.cmp .lss index 0) (Ar.cmp .geq index (Ar.len types)) = false := by simp only [or_def, cmp_lss, cmp_geq, len_def, Bool.or_eq_false_iff, decide_eq_false_iff_not]; omega
   simp only [e1, Bool.false_eq_true, if_false]
   by_cases h2 : own < 0 ∨ 16 ≤ own
   ·have e2 : Ar.or (Ar.cmp .lss own 0) (Ar.cmp .geq own 16) = true := by simp only [or_def, cmp_lss, cmp_geq, Bool.or_eq_true, decide_eq_true_eq]; exact h2
    simp only [e2, if_true]
    exact ⟨(⟨[]⟩, 2), rfl, rfl, sm0, by simp⟩
   ·have e2 : Ar.or (Ar.cmp .lss own 0) (Ar.cmp .geq own 16) = false := by simp only [or_def, cmp_lss, cmp_geq, Bool.or_eq_false_iff, decide_eq_false_iff_not]; omega
    simp only [e2, Bool.false_eq_true, if_false]
    obtain ⟨l, r1, r2⟩ := rep_eq (own := own) (by omega) ⟨⟨#[]⟩, index⟩
    obtain ⟨⟨k, e⟩, k1, k2, k3⟩ := Kind_eq (N := 40000000) (types := types) (vars := l) (x := cond) (by decide) hb
    simp only at k3
    simp only [r1, Option.bind_some, k1]
    by_cases h3 : e = 0
    ·subst h3
     have hx := (k3 rfl).2
     by_cases h4 : k = 1
     ·subst h4
      obtain ⟨s, s1, s2⟩ := idx_int (l := types) (i := index) (by omega)
      have h8 := (hsc.2 s (List.mem_of_getElem? s2)).1
      have hpre : cond.pre.length ≤ 64 ∧ ∀ y ∈ cond.pre, exprBad y = 0 := by
       unfold exprCheck at hx
       split at hx
       ·cases hx
       ·split at hx
        ·cases hx
        ·exact ⟨by omega, bad1_zero.1 hx⟩
      obtain ⟨a, ok, L, p1, p2, p3, p4, p5⟩ := solve_eq (N := 40000000) (field := numI s) (own := own) (by decide) 40000000 cond (by omega) hb hpre.2 hpre.1
      have hlen := p5.len p3
      cases ok with
      | true =>
       simp only [if_true] at p1
       have hmk : mkL (Ar.len types) (Ar.len types) ([] : List GInterval) = some (List.replicate types.length []) := by
        unfold mkL
        rw [if_pos (by simp only [len_def]; omega)]
        simp [len_def]
       have hin : req (inR (List.replicate types.length ([] : List GInterval)) index) = some () := by
        unfold req inR
        rw [if_pos (by simp; omega)]
       have hup : updL (List.replicate types.length ([] : List GInterval)) index (fun _ => a) = some ((List.replicate types.length []).set index.toNat a) := by
        obtain ⟨y, y1, _⟩ := idx_int (l := List.replicate types.length ([] : List GInterval)) (i := index) (by simp; omega)
        unfold updL
        rw [y1]; rfl
       have hsm : ∀ x ∈ (List.replicate types.length ([] : List GInterval)).set index.toNat a, x.length ≤ 256 := fun x hx => by
        rcases List.mem_or_eq_of_mem_set hx with h | h
        ·rw [(List.mem_replicate.1 h).2]; simp
        ·rw [h]; omega
       have hlim := limited_ok (N := 40000000) (R := (List.replicate types.length ([] : List GInterval)).set index.toNat a) hsm (by simp; omega) (by simp; omega)
       refine ⟨(⟨(List.replicate types.length []).set index.toNat a⟩, 0), ?_, ?_, hsm, by simp; omega⟩
       ·rw [if_neg (by decide), if_neg (by decide), s1]
        simp only [Option.bind_some, numeric_eq (N := 40000000) (show s.Fields.length ≤ 1000 by omega) (by decide), p1]
        rw [if_neg (by decide), hmk]
        simp only [Option.bind_some, hin, hup]
       ·refine bind_of1' r2 ?_
        simp only [k2, Option.bind_some]
        rw [if_neg (by decide), if_neg (by decide), s1]
        simp only [Option.bind_some, rnumeric_eq (N := 40000000) (show s.Fields.length ≤ 1000 by omega) (by decide), p2, nt_def, Bool.not_true, Bool.false_eq_true, if_false, ref27_None, hmk, hin, hup, hlim]
      | false =>
       simp only [Bool.false_eq_true, if_false] at p1
       refine ⟨(⟨[]⟩, 3), ?_, ?_, sm0, by simp⟩
       ·rw [if_neg (by decide), if_neg (by decide), s1]
        simp only [Option.bind_some, numeric_eq (N := 40000000) (show s.Fields.length ≤ 1000 by omega) (by decide), p1]
        rfl
       ·refine bind_of1' r2 ?_
        simp only [k2, Option.bind_some]
        rw [if_neg (by decide), if_neg (by decide), s1]
        simp only [Option.bind_some, rnumeric_eq (N := 40000000) (show s.Fields.length ≤ 1000 by omega) (by decide), p2]
        rfl
     ·refine ⟨(⟨[]⟩, 9), ?_, bind_of1' r2 ?_, sm0, by simp⟩
      ·rw [if_neg (by decide), if_pos (by simpa using h4)]
      ·simp only [k2, Option.bind_some]
       rw [if_neg (by decide), if_pos (by simpa using h4)]
    ·refine ⟨(⟨[]⟩, e), ?_, bind_of1' r2 ?_, sm0, by simp⟩
     ·rw [if_pos (by simpa using h3)]
     ·simp only [k2, Option.bind_some]
      rw [if_pos (by simpa using h3)]
 ·simp only [h0, not_false_eq_true, if_true]
  exact ⟨(⟨[]⟩, scaC 40000000 types), rfl, rfl, sm0, by simp⟩
theorem few8_eq {N : Nat} (hN : 40000000 ≤ N) {x : GExpr} (hb : x.bulk ≤ 16777216) : ∃ b, ref08_Few N x = some b := by
 unfold ref08_Few
 obtain ⟨r, h0, _⟩ := count_eq hN 200 N x (by omega) hb
 rw [h0]
 simp only [Option.bind_some]
 split
 ·rw [depth_eq_e hN N x (by omega) hb]
  exact ⟨_, rfl⟩
 ·exact ⟨_, rfl⟩
theorem translates_law (aw : law27_awake 40000000 = some true) (types : List GSchema) (c : Gtidegatelaw27_Case) (hb : c.Cond.bulk ≤ 16777216) : law27_PredicateTranslates 40000000 types c = some true := by
 unfold law27_PredicateTranslates
 obtain ⟨b, h1⟩ := few8_eq (N := 40000000) (by decide) hb
 simp only [aw, h1, Option.bind_some]
 by_cases g : Ar.cmp .gtr (Ar.len types) 4 = true
 ·rw [if_pos g]
 ·rw [if_neg g]
  by_cases g2 : Ar.or (Ar.nt b) (Ar.cmp .gtr (Ar.len c.Event.Values) 9) = true
  ·rw [if_pos g2]
  ·rw [if_neg g2]
   have hv : c.Event.Values.length ≤ 9 := by
    simp only [or_def, cmp_gtr, len_def, Bool.or_eq_true, decide_eq_true_eq, not_or] at g2
    omega
   obtain ⟨r, r1, r2, r3, r4⟩ := of_eq (types := types) (index := c.Index) (own := c.Own) hb
   obtain ⟨q, q1, q2⟩ := symbol_eq (N := 40000000) (types := types) (e := c.Event) (by omega) (by decide)
   have hs := same_refl (N := 40000000) r3 (by omega) (by decide)
   simp only [r1, r2, q1, q2, hs, Option.bind_some]
   rw [if_pos]
   simp [an_def, cmp_eql]
end Go.Ab

