/- GQT10 GQQ4 -/
import Derived.Test.YtodfgmbacmnalaaGreatT45
import Derived.Test.YtodfgmbacmnalaaGreatT47
set_option linter.all false

namespace Go.Ab
open Classical
set_option maxRecDepth 100000
theorem rep1 (v : GVariable) : slices_Repeat_LVariable_Variable 40000000 [v] 1 = some (List.replicate 1 v) := by kernel_rfl
theorem rep2 (v : GVariable) : slices_Repeat_LVariable_Variable 40000000 [v] 2 = some (List.replicate 2 v) := by kernel_rfl
theorem rep3 (v : GVariable) : slices_Repeat_LVariable_Variable 40000000 [v] 3 = some (List.replicate 3 v) := by kernel_rfl
theorem rep4 (v : GVariable) : slices_Repeat_LVariable_Variable 40000000 [v] 4 = some (List.replicate 4 v) := by kernel_rfl
theorem rep5 (v : GVariable) : slices_Repeat_LVariable_Variable 40000000 [v] 5 = some (List.replicate 5 v) := by kernel_rfl
theorem rep6 (v : GVariable) : slices_Repeat_LVariable_Variable 40000000 [v] 6 = some (List.replicate 6 v) := by kernel_rfl
theorem rep7 (v : GVariable) : slices_Repeat_LVariable_Variable 40000000 [v] 7 = some (List.replicate 7 v) := by kernel_rfl
theorem rep8 (v : GVariable) : slices_Repeat_LVariable_Variable 40000000 [v] 8 = some (List.replicate 8 v) := by kernel_rfl
theorem rep9 (v : GVariable) : slices_Repeat_LVariable_Variable 40000000 [v] 9 = some (List.replicate 9 v) := by kernel_rfl
theorem rep10 (v : GVariable) : slices_Repeat_LVariable_Variable 40000000 [v] 10 = some (List.replicate 10 v) := by kernel_rfl
theorem rep11 (v : GVariable) : slices_Repeat_LVariable_Variable 40000000 [v] 11 = some (List.replicate 11 v) := by kernel_rfl
theorem rep12 (v : GVariable) : slices_Repeat_LVariable_Variable 40000000 [v] 12 = some (List.replicate 12 v) := by kernel_rfl
theorem rep13 (v : GVariable) : slices_Repeat_LVariable_Variable 40000000 [v] 13 = some (List.replicate 13 v) := by kernel_rfl
theorem rep14 (v : GVariable) : slices_Repeat_LVariable_Variable 40000000 [v] 14 = some (List.replicate 14 v) := by kernel_rfl
theorem rep15 (v : GVariable) : slices_Repeat_LVariable_Variable 40000000 [v] 15 = some (List.replicate 15 v) := by kernel_rfl
theorem rep16 (v : GVariable) : slices_Repeat_LVariable_Variable 40000000 [v] 16 = some (List.replicate 16 v) := by kernel_rfl
theorem few8_eq {N : Nat} (hN : 40000000 ≤ N) {x : GExpr} (hb : x.bulk ≤ 16777216) : ∃ b, ref08_Few N x = some b := by
 unfold ref08_Few
 obtain ⟨r, h0, _⟩ := count_eq hN 200 N x (by omega) hb
 rw [h0]
 simp only [Option.bind_some]
 split
 ·rw [depth_eq_e hN N x (by omega) hb]
  exact ⟨_, rfl⟩
 ·exact ⟨_, rfl⟩
end Go.Ab

namespace Go.Ab
open Classical
set_option maxRecDepth 100000
noncomputable section
theorem rep_prog {own : Int} (h : 0 ≤ own ∧ own < 16) (v : GVariable) : ∃ l : List GVariable, slices_Repeat_LVariable_Variable 40000000 [v] (Ar.ar .add .i64 own 1) = some l := by
 have : own = 0 ∨ own = 1 ∨ own = 2 ∨ own = 3 ∨ own = 4 ∨ own = 5 ∨ own = 6 ∨ own = 7 ∨ own = 8 ∨ own = 9 ∨ own = 10 ∨ own = 11 ∨ own = 12 ∨ own = 13 ∨ own = 14 ∨ own = 15 := by omega
 rw [add_i64 (by omega) (by omega)]
 rcases this with rfl | rfl | rfl | rfl | rfl | rfl | rfl | rfl | rfl | rfl | rfl | rfl | rfl | rfl | rfl | rfl
 ·exact ⟨_, rep1 v⟩
 ·exact ⟨_, rep2 v⟩
 ·exact ⟨_, rep3 v⟩
 ·exact ⟨_, rep4 v⟩
 ·exact ⟨_, rep5 v⟩
 ·exact ⟨_, rep6 v⟩
 ·exact ⟨_, rep7 v⟩
 ·exact ⟨_, rep8 v⟩
 ·exact ⟨_, rep9 v⟩
 ·exact ⟨_, rep10 v⟩
 ·exact ⟨_, rep11 v⟩
 ·exact ⟨_, rep12 v⟩
 ·exact ⟨_, rep13 v⟩
 ·exact ⟨_, rep14 v⟩
 ·exact ⟨_, rep15 v⟩
 ·exact ⟨_, rep16 v⟩
theorem sym_ok1 {N : Nat} {types : List GSchema} {e : GEvent} (hl : e.Values.length ≤ 1000) (hN : 1000 < N) (own : Int) (h0 : scaC N types = 0) (h1 : evC types e = 0) :
 ∃ s v, types[e.Typ.toNat]? = some s ∧ 0 ≤ e.Typ ∧ e.Typ < (types.length : Int) ∧ predicate_Symbol N types e = some (⟨e.Typ, v⟩, 0) ∧ Rd (leafP ⟨[]⟩ own e) (numI s) own v := by
 have hchk : event_Check N types e = some 0 := by
  unfold event_Check
  rw [all_eq hN]
  simp only [Option.bind_some, h0, show Ar.cmp .neq (0 : Int) 0 = false from rfl, Bool.false_eq_true, if_false, evalid_eq hl hN, h1]
 have hsc := sca_zero h0
 unfold evC at h1
 split at h1
 ·cases h1
 split at h1
 ·cases h1
 split at h1
 ·cases h1
 obtain ⟨s, hs, hs'⟩ := idx_int (l := types) (i := e.Typ) (by omega)
 rw [hs'] at h1
 simp only at h1
 split at h1
 ·cases h1
 have hlen : e.Values.length = s.Fields.length := by omega
 have h8 := (hsc.2 s (List.mem_of_getElem? hs')).1
 have hn := numI_bnd s
 have hc0 : ∀ y : GExpr, y.Op = 0 → leafP ⟨[]⟩ own e y = (y.Value, 0) := fun y h => by unfold leafP; rw [if_pos h]
 unfold predicate_Symbol
 rw [hchk]
 simp only [Option.bind_some, show Ar.cmp .neq (0 : Int) 0 = false from rfl, Bool.false_eq_true, if_false, hs, numeric_eq (show s.Fields.length ≤ 1000 by omega) hN, cmp_geq, decide_eq_true_eq]
 by_cases hk : 0 ≤ numI s
 ·obtain ⟨w, hw, hw'⟩ := idx_int (l := e.Values) (i := numI s) (by omega)
  rw [if_pos hk, hw]
  have hf : ∃ f, s.Fields[(numI s).toNat]? = some f ∧ f.Kind = 0 := by
   unfold numI fstI at hk ⊢
   cases h : fnd (fun f : GField => decide (f.Kind = 0)) 0 s.Fields with
   | none => rw [h] at hk; simp at hk
   | some q =>
    obtain ⟨k, x⟩ := q
    obtain ⟨_, q2, q3, _⟩ := fnd_some h
    exact ⟨x, by simpa using q2, by simpa using q3⟩
  obtain ⟨f, hf1, hf2⟩ := hf
  have hz := fb_zero.1 h1 _ _ hw'
  rw [Nat.zero_add] at hz
  unfold vlF at hz
  rw [hf1] at hz
  have hb : valBad w = 0 := by
   apply Classical.byContradiction
   intro c
   rw [if_pos c] at hz
   exact c hz
  rw [if_neg (by rw [hb]; simp)] at hz
  simp only at hz
  have hkd : w.Kind = 0 := by
   apply Classical.byContradiction
   intro c
   rw [if_pos (by rw [hf2]; exact c)] at hz
   cases hz
  refine ⟨s, w.Num, hs', by omega, by omega, rfl, hc0, fun y hy1 hy2 hy3 _ => ?_, (val_num hb hkd).2⟩
  have hfp : fieldP e (numI s) = (w, 0) := by
   unfold fieldP
   rw [if_neg (by omega)]
   rw [List.getD_eq_getElem?_getD, hw']; rfl
  unfold leafP
  rw [if_neg (by omega), if_neg (by omega), if_neg (by omega)]
  unfold lastP'
  rw [if_neg (by rw [hy2]; simp)]
  simp only
  unfold readP
  rw [if_neg (by omega), hy3, hfp]
  simp only [ne_eq, not_true_eq_false, if_false, hb]
  rw [← val_zero hb hkd]
 ·rw [if_neg hk]
  exact ⟨s, 0, hs', by omega, by omega, rfl, hc0, fun y _ _ h3 h4 => (hk (by omega)).elim, by decide⟩
theorem of_ok1 {types : List GSchema} {index own : Int} {cond : GExpr} (hb : cond.bulk ≤ 16777216) : ∃ r, predicate_Of 40000000 types index cond own = some r ∧
 (r.2 = 0 → ∃ s a, exprCheck cond = 0 ∧ 0 ≤ index ∧ index < (types.length : Int) ∧ types.length ≤ 16 ∧ types[index.toNat]? = some s ∧ (∀ R v, Rd R (numI s) own v → evalP R cond = (flagP (decide (InL a v)), 0)) ∧ r.1 = ⟨(List.replicate types.length []).set index.toNat a⟩ ∧ Ord a ∧ a.length ≤ 256) := by
 unfold predicate_Of
 rw [all_eq (by decide)]
 simp only [Option.bind_some, cmp_neq, Bool.not_eq_true', decide_eq_false_iff_not]
 by_cases h0 : scaC 40000000 types = 0
 ·have hsc := sca_zero h0
  simp only [h0, not_true_eq_false, if_false]
  by_cases h1 : index < 0 ∨ (types.length : Int) ≤ index
  ·have e1 : Ar.or (Ar.cmp .lss index 0) (Ar.cmp .geq index (Ar.len types)) = true := by simp only [or_def, cmp_lss, cmp_geq, len_def, Bool.or_eq_true, decide_eq_true_eq]; exact h1
   simp only [e1, if_true]
   exact ⟨(⟨[]⟩, 6), rfl, fun e => by cases e⟩
  ·have e1 : Ar.or (Ar.cmp .lss index 0) (Ar.cmp .geq index (Ar.len types)) = false := by simp only [or_def, cmp_lss, cmp_geq, len_def, Bool.or_eq_false_iff, decide_eq_false_iff_not]; omega
   simp only [e1, Bool.false_eq_true, if_false]
   by_cases h2 : own < 0 ∨ 16 ≤ own
   ·have e2 : Ar.or (Ar.cmp .lss own 0) (Ar.cmp .geq own 16) = true := by simp only [or_def, cmp_lss, cmp_geq, Bool.or_eq_true, decide_eq_true_eq]; exact h2
    simp only [e2, if_true]
    exact ⟨(⟨[]⟩, 2), rfl, fun e => by cases e⟩
   ·have e2 : Ar.or (Ar.cmp .lss own 0) (Ar.cmp .geq own 16) = false := by simp only [or_def, cmp_lss, cmp_geq, Bool.or_eq_false_iff, decide_eq_false_iff_not]; omega
    simp only [e2, Bool.false_eq_true, if_false]
    obtain ⟨l, r1⟩ := rep_prog (own := own) (by omega) ⟨⟨#[]⟩, index⟩
    obtain ⟨⟨k, e⟩, k1, k3⟩ := Kind1 (N := 40000000) (types := types) (vars := l) (x := cond) (by decide) hb
    simp only at k3
    simp only [r1, Option.bind_some, k1]
    by_cases h3 : e = 0
    ·subst h3
     have hx := k3 rfl
     by_cases h4 : k = 1
     ·subst h4
      obtain ⟨s, s1, s2⟩ := idx_int (l := types) (i := index) (by omega)
      have h8 := (hsc.2 s (List.mem_of_getElem? s2)).1
      have hpre : cond.pre.length ≤ 64 ∧ ∀ y ∈ cond.pre, exprBad y = 0 := by
       refine ⟨?_, exprCheck_bad hx⟩
       unfold exprCheck at hx
       split at hx
       ·cases hx
       ·omega
      obtain ⟨a, ok, L, p1, p3, p4, p5, p6⟩ := solve1 (N := 40000000) (field := numI s) (own := own) (by decide) 40000000 cond (by omega) hb hpre.2 hpre.1
      have hlen := p5.len p3
      cases ok with
      | true =>
       simp only [if_true] at p1
       have hmk : mkL (Ar.len types) (Ar.len types) ([] : List GInterval) = some (List.replicate types.length []) := by
        unfold mkL
        rw [if_pos (by simp only [len_def]; omega)]
        simp [len_def]
       have hin : req (inR (List.replicate types.length ([] : List GInterval)) index) = some () := by
        unfold req inR
        rw [if_pos (by simp; omega)]
       have hup : updL (List.replicate types.length ([] : List GInterval)) index (fun _ => a) = some ((List.replicate types.length []).set index.toNat a) := by
        obtain ⟨y, y1, _⟩ := idx_int (l := List.replicate types.length ([] : List GInterval)) (i := index) (by simp; omega)
        unfold updL
        rw [y1]; rfl
       refine ⟨(⟨(List.replicate types.length []).set index.toNat a⟩, 0), ?_, fun _ => ⟨s, a, hx, by omega, by omega, hsc.1, s2, p6 rfl, rfl, p3, by omega⟩⟩
       rw [if_neg (by decide), if_neg (by decide), s1]
       simp only [Option.bind_some, numeric_eq (N := 40000000) (show s.Fields.length ≤ 1000 by omega) (by decide), p1]
       rw [if_neg (by decide), hmk]
       simp only [Option.bind_some, hin, hup]
      | false =>
       simp only [Bool.false_eq_true, if_false] at p1
       refine ⟨(⟨[]⟩, 3), ?_, fun e => by cases e⟩
       rw [if_neg (by decide), if_neg (by decide), s1]
       simp only [Option.bind_some, numeric_eq (N := 40000000) (show s.Fields.length ≤ 1000 by omega) (by decide), p1]
       rfl
     ·refine ⟨(⟨[]⟩, 9), ?_, fun e => by cases e⟩
      rw [if_neg (by decide), if_pos (by simpa using h4)]
    ·refine ⟨(⟨[]⟩, e), ?_, fun c => (h3 c).elim⟩
     rw [if_pos (by simpa using h3)]
 ·simp only [h0, not_false_eq_true, if_true]
  exact ⟨(⟨[]⟩, scaC 40000000 types), rfl, fun c => (h0 c).elim⟩
theorem contains_ok1 {m : Nat} {i v : Int} {a : List GInterval} (hm : m ≤ 16) (hi : 0 ≤ i ∧ i < (m : Int)) (ha : Ord a) (hl : a.length ≤ 256) (hv : -1099511627776 ≤ v ∧ v ≤ 1099511627776) : predicate_Contains 40000000 ⟨(List.replicate m []).set i.toNat a⟩ ⟨i, v⟩ = some (decide (InL a v), 0) := by
 have hsl : ((List.replicate m ([] : List GInterval)).set i.toNat a).length = m := by simp
 have hown : own1 (⟨(List.replicate m []).set i.toNat a⟩ : GPredicate) = 0 := by
  unfold own1 pck
  simp only [hsl]
  rw [if_neg (by omega), if_neg (by simp)]
  refine fb_zero.2 fun k x hx => ?_
  rcases List.mem_or_eq_of_mem_set (List.mem_of_getElem? hx) with h | h
  ·rw [(List.mem_replicate.1 h).2]; exact ck_ord (by trivial) (by simp)
  ·rw [h]; exact ck_ord ha hl
 have hidx : idxL ((List.replicate m ([] : List GInterval)).set i.toNat a) i = some a := by
  obtain ⟨n, rfl⟩ : ∃ n : Nat, i = (n : Int) := ⟨i.toNat, by omega⟩
  rw [idx_at, Int.toNat_natCast, List.getElem?_set_self (by simp; omega)]
 unfold predicate_Contains
 rw [checked_one (by decide), hown]
 simp only [Option.bind_some, show Ar.cmp .neq (0 : Int) 0 = false from rfl, Bool.false_eq_true, if_false]
 have e1 : Ar.or (Ar.cmp .lss i 0) (Ar.cmp .geq i (Ar.len ((List.replicate m ([] : List GInterval)).set i.toNat a))) = false := by
  simp only [or_def, cmp_lss, cmp_geq, len_def, hsl, Bool.or_eq_false_iff, decide_eq_false_iff_not]; omega
 have e2 : Ar.or (Ar.cmp .lss v (-1099511627776)) (Ar.cmp .gtr v 1099511627776) = false := by
  simp only [or_def, cmp_lss, cmp_gtr, Bool.or_eq_false_iff, decide_eq_false_iff_not]; omega
 simp only [e1, e2, Bool.false_eq_true, if_false, hidx, Option.bind_some]
 obtain ⟨b, b1, b2⟩ := has_eq (N := 40000000) (l := a) (n := v) (ha.srt hl) (by decide)
 unfold interval_Contains
 simp only [icheck_eq (show 256 < 40000000 by decide), ck_ord ha hl, Option.bind_some, show Ar.cmp .neq (0 : Int) 0 = false from rfl, Bool.false_eq_true, if_false, b1]
 have : b = decide (InL a v) := by
  by_cases c : InL a v
  ·rw [b2.2 c]; simp [c]
  ·have : b ≠ true := fun d => c (b2.1 d)
   simp [c]; simpa using this
 rw [this]
theorem decides_law1 (aw : law27_awake 40000000 = some true) (types : List GSchema) (c : Gtidegatelaw27_Case) (hb : c.Cond.bulk ≤ 16777216) : law27_PredicateDecides 40000000 types c = some true := by
 unfold law27_PredicateDecides
 obtain ⟨b, h1⟩ := few8_eq (N := 40000000) (by decide) hb
 simp only [aw, h1, Option.bind_some]
 by_cases g : Ar.cmp .gtr (Ar.len types) 4 = true
 ·rw [if_pos g]
 rw [if_neg g]
 by_cases g2 : Ar.or (Ar.or (Ar.nt b) (Ar.cmp .gtr (Ar.len c.Event.Values) 9)) (Ar.cmp .neq c.Event.Typ c.Index) = true
 ·rw [if_pos g2]
 rw [if_neg g2]
 simp only [or_def, cmp_gtr, cmp_neq, len_def, Bool.or_eq_true, decide_eq_true_eq, not_or, Bool.not_eq_true', decide_eq_false_iff_not, Classical.not_not] at g2
 have hv : c.Event.Values.length ≤ 9 := by omega
 have hti := g2.2
 have hck : event_Check 40000000 types c.Event = some (if scaC 40000000 types ≠ 0 then scaC 40000000 types else evC types c.Event) := by
  unfold event_Check
  rw [all_eq (by decide)]
  simp only [Option.bind_some, cmp_neq, Bool.not_eq_true', decide_eq_false_iff_not]
  by_cases h0 : scaC 40000000 types = 0
  ·simp only [h0, not_true_eq_false, if_false, ne_eq, evalid_eq (N := 40000000) (show c.Event.Values.length ≤ 1000 by omega) (by decide), Option.bind_some]
  ·simp only [h0, not_false_eq_true, if_true, ne_eq]
 rw [hck]
 simp only [Option.bind_some]
 by_cases h0 : ¬ scaC 40000000 types = 0
 ·rw [if_pos (by rw [if_pos h0]; exact ne_true h0)]
 replace h0 := Classical.not_not.1 h0
 rw [if_neg (fun c : scaC 40000000 types ≠ 0 => c h0)]
 by_cases h2 : ¬ evC types c.Event = 0
 ·rw [if_pos (ne_true h2)]
 replace h2 := Classical.not_not.1 h2
 rw [if_neg (ne_false h2)]
 obtain ⟨s, v, s1, s2, s3, s4, hR⟩ := sym_ok1 (N := 40000000) (types := types) (e := c.Event) (by omega) (by decide) c.Own h0 h2
 obtain ⟨⟨p, k⟩, r1, r2⟩ := of_ok1 (types := types) (index := c.Index) (own := c.Own) hb
 simp only [r1, s4, Option.bind_some]
 by_cases hk : ¬ k = 0
 ·rw [if_pos (ne_true hk)]; rfl
 replace hk := Classical.not_not.1 hk
 rw [if_neg (ne_false hk)]
 obtain ⟨s', a, x1, x2, x3, x4, x5, x6, x7, x8, x9⟩ := r2 hk
 simp only at x7
 rw [hti] at s1 s2 s3
 rw [s1] at x5; cases x5
 have hc := contains_ok1 x4 ⟨x2, x3⟩ x8 x9 hR.b (i := c.Index)
 have he := x6 _ _ hR
 rw [x7, hti, hc]
 simp only [Option.bind_some]
 rw [if_pos (by rfl)]
 have ht : expr_Truth 40000000 c.Cond ⟨[]⟩ c.Own c.Event = some (decide (InL a v)) := by
  unfold expr_Truth
  rw [eval_eq (by decide) ⟨by simp, fun l hl => by cases hl⟩ c.Own c.Event hb]
  unfold evalA
  rw [if_pos x1, he]
  by_cases z : InL a v
  ·simp [z, flag_eq, flagP, cmp_eql, an_def, scmp_eql]
  ·simp [z, flag_eq, flagP, cmp_eql, an_def, scmp_eql]
 rw [ht]
 simp only [Option.bind_some]
 rw [if_pos (beq_self _)]
end
end Go.Ab

