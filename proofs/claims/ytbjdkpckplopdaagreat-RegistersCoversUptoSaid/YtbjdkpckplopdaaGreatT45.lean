/- GSA5 GSN1 GSN2 -/
import Derived.Test.YtbjdkpckplopdaaGreatT44
import Derived.Test.YtbjdkpckplopdaaGreatT39
set_option linter.all false

namespace Go.Ab
noncomputable section
def few8B (N : Nat) (x : GExpr) : Bool := (ref08_Few N x).getD false
theorem few8B_eq {N : Nat} (hN : 40000000 ≤ N) {x : GExpr} (hb : x.bulk ≤ 16777216) : ref08_Few N x = some (few8B N x) := by
 obtain ⟨b, h⟩ := few8_eq hN hb
 unfold few8B
 rw [h]; rfl
theorem fewG_eq {N : Nat} (hN : 40000000 ≤ N) (l : List GGuard) (hl : l.length < 1000000) (hb : ∀ g ∈ l, g.Cond.bulk ≤ 16777216) : ref23_few N l = some (!(l.any fun g => !few8B N g.Cond)) := by
 unfold ref23_few
 rw [loop_anyT hN l (k := l.length) (Nat.le_refl _) hl (u := ()) (w := ()) (p := fun g => !few8B N g.Cond) ?_ ?_]
 ·rw [List.take_length]
  generalize (l.any fun g => !few8B N g.Cond) = b
  cases b <;> rfl
 ·intro i g hg hi
  try dsimp only
  rw [if_pos (lt_len (by omega)), idx_at, hg]
  simp only [Option.bind_some]
  rw [few8B_eq hN (hb g (List.mem_of_getElem? hg))]
  simp only [Option.bind_some]
  rw [add_i64 (by omega) (by omega)]
  generalize few8B N g.Cond = b
  cases b <;> rfl
 ·try dsimp only
  rw [if_neg lt_end]
theorem fewC_eq {N : Nat} (hN : 40000000 ≤ N) (l : List GExpr) (hl : l.length < 1000000) (hb : ∀ g ∈ l, g.bulk ≤ 16777216) : (loopN
                (fun (s16 : Int) =>
                 (
                  if Ar.cmp .lss s16 (Ar.len l) = true then
                   (idxL l s16).bind fun x18 =>
                   (ref08_Few N x18).bind fun r19 =>
                   if Ar.nt r19 = true then
                    some (.inr (.inr ()))
                   else
                    some (.inl (Ar.ar .add .i64 s16 1))
                  else
                   some (.inr (.inl ()))
                  : Option ((Int) ⊕ (Unit ⊕ Unit))))
                N 0) = some (if (l.any fun g => !few8B N g) = true then .inr () else .inl ()) := by
 rw [loop_anyT hN l (k := l.length) (Nat.le_refl _) hl (u := ()) (w := ()) (p := fun g => !few8B N g) ?_ ?_]
 ·rw [List.take_length]
 ·intro i g hg hi
  try dsimp only
  rw [if_pos (lt_len (by omega)), idx_at, hg]
  simp only [Option.bind_some]
  rw [few8B_eq hN (hb g (List.mem_of_getElem? hg))]
  simp only [Option.bind_some]
  rw [add_i64 (by omega) (by omega)]
  generalize few8B N g = b
  cases b <;> rfl
 ·try dsimp only
  rw [if_neg lt_end]
def fewS (N : Nat) (s : GState) : Bool := decide (s.Guards.length ≤ 12 ∨ 64 < s.Guards.length) && (decide (s.Guards.length ≤ 70) && !(s.Guards.any fun g => !few8B N g.Cond))
def shortX (x : GEdge) : Bool := decide (x.Checks.length ≤ 8) && (decide (x.Opens.length ≤ 12) && (decide (x.Closes.length ≤ 12) && (decide (x.Inside.length ≤ 12) && decide (x.Limits.length ≤ 12))))
def fewX (N : Nat) (x : GEdge) : Bool := few8B N x.Cond && (shortX x && !(x.Checks.any fun c => !few8B N c))
def bulkA (a : GAutomaton) : Prop := (∀ s ∈ a.States, ∀ g ∈ s.Guards, g.Cond.bulk ≤ 16777216) ∧ ∀ x ∈ a.Edges, x.Cond.bulk ≤ 16777216 ∧ ∀ c ∈ x.Checks, c.bulk ≤ 16777216
def fewAll (N : Nat) (a : GAutomaton) : Prop := a.States.length ≤ 20 ∧ a.Edges.length ≤ 40 ∧ (∀ s ∈ a.States, fewS N s = true) ∧ ∀ x ∈ a.Edges, fewX N x = true
theorem le_len {α : Type} {l : List α} {k : Int} : (Ar.cmp .gtr (Ar.len l) k = true) ↔ ¬ (l.length : Int) ≤ k := by rw [cmp_gtr, len_def, decide_eq_true_eq]; omega
theorem few_auto {N : Nat} (hN : 40000000 ≤ N) (a : GAutomaton) (h : bulkA a) : ∃ b, ref23_Few N a = some b ∧ (b = true → fewAll N a) := by
 have hl1 : ∀ {α : Type} (l : List α) (k : Nat), (l.take k).length ≤ k := fun l k => by rw [List.length_take]; omega
 unfold ref23_Few
 rw [loop_anyT hN (a.States.take 30) (k := (a.States.take 30).length) (Nat.le_refl _) (by have := hl1 a.States 30; omega) (u := ()) (w := ()) (p := fun s => !fewS N s) ?_ ?_]
 ·rw [List.take_length]
  simp only [Option.bind_some]
  by_cases hA : ((a.States.take 30).any fun s => !fewS N s) = true
  ·rw [if_pos hA]
   exact ⟨_, rfl, fun k => by cases k⟩
  ·rw [if_neg hA]
   dsimp only
   rw [loop_anyT hN (a.Edges.take 60) (k := (a.Edges.take 60).length) (Nat.le_refl _) (by have := hl1 a.Edges 60; omega) (u := ()) (w := ()) (p := fun x => !fewX N x) ?_ ?_]
   ·rw [List.take_length]
    simp only [Option.bind_some]
    by_cases hB : ((a.Edges.take 60).any fun x => !fewX N x) = true
    ·rw [if_pos hB]
     exact ⟨_, rfl, fun k => by cases k⟩
    ·rw [if_neg hB]
     refine ⟨_, rfl, fun k => ?_⟩
     rw [an_def, cmp_leq, cmp_leq, len_def, len_def, Bool.and_eq_true, decide_eq_true_eq, decide_eq_true_eq] at k
     have k1 : a.States.length ≤ 20 := by omega
     have k2 : a.Edges.length ≤ 40 := by omega
     rw [List.take_of_length_le (by omega)] at hA hB
     refine ⟨k1, k2, fun s hs => ?_, fun x hx => ?_⟩
     ·cases hq : fewS N s with
      | true => rfl
      | false => exact absurd (List.any_eq_true.2 ⟨s, hs, by rw [hq]; rfl⟩) hA
     ·cases hq : fewX N x with
      | true => rfl
      | false => exact absurd (List.any_eq_true.2 ⟨x, hx, by rw [hq]; rfl⟩) hB
   ·intro i x hx hi
    have := hl1 a.Edges 60
    rw [List.length_take] at hi this
    rw [List.getElem?_take_of_lt (by omega)] at hx
    have hm := List.mem_of_getElem? hx
    obtain ⟨b1, b2⟩ := h.2 x hm
    try dsimp only
    rw [if_pos (by rw [an_def, cmp_lss, cmp_lss, len_def, Bool.and_eq_true]; exact ⟨decide_eq_true (by omega), decide_eq_true (by omega)⟩), idx_at, hx]
    simp only [Option.bind_some]
    rw [few8B_eq hN b1]
    simp only [Option.bind_some]
    have f1 : Ar.or (Ar.or (Ar.or (Ar.or (Ar.or (Ar.nt (few8B N x.Cond)) (Ar.cmp .gtr (Ar.len x.Checks) 8)) (Ar.cmp .gtr (Ar.len x.Opens) 12)) (Ar.cmp .gtr (Ar.len x.Closes) 12)) (Ar.cmp .gtr (Ar.len x.Inside) 12)) (Ar.cmp .gtr (Ar.len x.Limits) 12) = !(few8B N x.Cond && shortX x) := by
     unfold shortX
     rw [Bool.eq_iff_iff]
     simp only [or_def, Bool.or_eq_true, le_len, nt_def, Bool.not_eq_true', Bool.and_eq_false_imp, decide_eq_true_eq, decide_eq_false_iff_not, Bool.and_eq_true]
     generalize few8B N x.Cond = b
     cases b <;> simp <;> omega
    rw [f1]
    unfold fewX
    by_cases hS : shortX x = true
    ·have hc8 : x.Checks.length ≤ 8 := by
      unfold shortX at hS
      simp only [Bool.and_eq_true, decide_eq_true_eq] at hS
      exact hS.1
     rw [fewC_eq hN x.Checks (by omega) b2, hS]
     simp only [Option.bind_some, Bool.and_true, Bool.true_and]
     rw [add_i64 (by omega) (by omega)]
     generalize few8B N x.Cond = c1
     generalize (x.Checks.any fun c => !few8B N c) = c2
     cases c1 <;> cases c2 <;> rfl
    ·rw [Bool.not_eq_true] at hS
     rw [hS]
     generalize few8B N x.Cond = c1
     cases c1 <;> rfl
   ·try dsimp only
    rw [if_neg]
    rw [an_def, cmp_lss, cmp_lss, len_def, List.length_take]
    simp only [Bool.and_eq_true, decide_eq_true_eq]
    omega
 ·intro i s hs hi
  have := hl1 a.States 30
  rw [List.length_take] at hi this
  rw [List.getElem?_take_of_lt (by omega)] at hs
  have hm := List.mem_of_getElem? hs
  have b1 := h.1 s hm
  try dsimp only
  rw [if_pos (by rw [an_def, cmp_lss, cmp_lss, len_def, Bool.and_eq_true]; exact ⟨decide_eq_true (by omega), decide_eq_true (by omega)⟩)]
  simp only [idx_at, hs, Option.bind_some]
  rw [add_i64 (by omega) (by omega)]
  unfold fewS
  by_cases h12 : s.Guards.length ≤ 12
  ·rw [if_neg (fun k => le_len.1 k (by omega)), if_neg (fun k => le_len.1 k (by omega)), fewG_eq hN s.Guards (by omega) b1, decide_eq_true (Or.inl h12), decide_eq_true (show s.Guards.length ≤ 70 by omega)]
   simp only [Option.bind_some, Bool.true_and]
   generalize (s.Guards.any fun g => !few8B N g.Cond) = c2
   cases c2 <;> rfl
  ·rw [if_pos (le_len.2 (by omega))]
   by_cases h64 : s.Guards.length ≤ 64
   ·rw [if_pos (by rw [cmp_leq, len_def]; exact decide_eq_true (by omega)), decide_eq_false (show ¬ (s.Guards.length ≤ 12 ∨ 64 < s.Guards.length) by omega)]
    rfl
   ·rw [if_neg (by rw [cmp_leq, len_def]; simp; omega), decide_eq_true (show s.Guards.length ≤ 12 ∨ 64 < s.Guards.length by omega)]
    by_cases h70 : s.Guards.length ≤ 70
    ·rw [if_neg (fun k => le_len.1 k (by omega)), fewG_eq hN s.Guards (by omega) b1, decide_eq_true h70]
     simp only [Option.bind_some, Bool.true_and]
     generalize (s.Guards.any fun g => !few8B N g.Cond) = c2
     cases c2 <;> rfl
    ·rw [if_pos (le_len.2 (by omega)), decide_eq_false h70]
     rfl
 ·try dsimp only
  rw [if_neg]
  rw [an_def, cmp_lss, cmp_lss, len_def, List.length_take]
  simp only [Bool.and_eq_true, decide_eq_true_eq]
  omega
theorem few_ok {N : Nat} {a : GAutomaton} (h : bulkA a) (k : fewAll N a) : okA a := by
 obtain ⟨k1, k2, k3, k4⟩ := k
 refine ⟨by omega, by omega, h.1, fun x hx => ?_⟩
 have h1 := k4 x hx
 have h2 := h.2 x hx
 unfold fewX shortX at h1
 simp only [Bool.and_eq_true, decide_eq_true_eq] at h1
 obtain ⟨_, ⟨q1, q2, q3, q4, q5⟩, _⟩ := h1
 exact ⟨h2.1, h2.2, by omega, by omega, by omega, by omega, by omega⟩
structure AOk (a : GAutomaton) : Prop where
 gd : ∀ s ∈ a.States, ∀ g ∈ s.Guards, exprCheck g.Cond = 0
 fr : ∀ x ∈ a.Edges, 0 ≤ x.From ∧ x.From < a.States.length
 to : ∀ x ∈ a.Edges, -1 ≤ x.To ∧ x.To < a.States.length
 vr : ∀ x ∈ a.Edges, 0 ≤ x.Var ∧ x.Var < a.Vars
 vs : a.Vars ≤ 16
 cd : ∀ x ∈ a.Edges, exprCheck x.Cond = 0
 ck : ∀ x ∈ a.Edges, ∀ c ∈ x.Checks, exprCheck c = 0
 gv : ∀ s ∈ a.States, ∀ g ∈ s.Guards, 0 ≤ g.Var ∧ g.Var < a.Vars
theorem edgesBad_zero {a : GAutomaton} : ∀ {l : List GEdge} {b : Int}, edgesBad a b l = 0 → ∀ x ∈ l, ∃ c, edgeBad a x c = 0
 | [], _, _, x, hx => by cases hx
 | y :: l, b, h, x, hx => by
  unfold edgesBad at h
  split at h
  ·rename_i h1
   rcases List.mem_cons.1 hx with rfl | hx
   ·exact ⟨b, h1⟩
   ·exact edgesBad_zero h x hx
  ·rename_i h1; exact absurd h h1
theorem auto_ok {a : GAutomaton} (h : autoBad a = 0) : AOk a := by
 unfold autoBad at h
 split at h
 ·rename_i h1
  split at h
  ·cases h
  ·split at h
   ·rename_i h2 h3
    have hv : a.Vars ≤ 16 := by
     unfold autoIn at h1
     simp only [Bool.and_eq_true, decide_eq_true_eq] at h1
     exact h1.1.2
    have hg : ∀ s ∈ a.States, ∀ g ∈ s.Guards, (0 ≤ g.Var ∧ g.Var < a.Vars) ∧ exprCheck g.Cond = 0 := fun s hs g hgs => by
     have h4 := bad1_zero.1 h3 s hs
     unfold guardsBad at h4
     split at h4
     ·cases h4
     ·obtain ⟨i, hi⟩ := List.getElem?_of_mem hgs
      have h5 := bad1_zero.1 h4 (g, i) (by rw [List.mem_zipIdx_iff_getElem?]; exact hi)
      unfold guardBad at h5
      split at h5
      ·rename_i h6
       split at h5
       ·cases h5
       ·unfold inB at h6
        simp only [Bool.and_eq_true, decide_eq_true_eq] at h6
        exact ⟨h6.2, h5⟩
      ·cases h5
    have he : ∀ x ∈ a.Edges, (0 ≤ x.From ∧ x.From < a.States.length) ∧ (-1 ≤ x.To ∧ x.To < a.States.length) ∧ (0 ≤ x.Var ∧ x.Var < a.Vars) ∧ exprCheck x.Cond = 0 ∧ ∀ c ∈ x.Checks, exprCheck c = 0 := fun x hx => by
     obtain ⟨b, hb⟩ := edgesBad_zero h x hx
     unfold edgeBad at hb
     split at hb
     ·rename_i hin
      unfold edgeIn inB at hin
      simp only [Bool.and_eq_true, decide_eq_true_eq] at hin
      split at hb
      ·cases hb
      ·split at hb
       ·rename_i h7; exact absurd hb h7
       ·rename_i h7
        split at hb
        ·cases hb
        ·split at hb
         ·rename_i h8; exact absurd hb h8
         ·rename_i h8
          exact ⟨hin.1.1.1, hin.1.1.2, hin.1.2, Classical.not_not.1 h7, bad1_zero.1 (Classical.not_not.1 h8)⟩
     ·cases hb
    exact ⟨fun s hs g hgs => (hg s hs g hgs).2, fun x hx => (he x hx).1, fun x hx => (he x hx).2.1, fun x hx => (he x hx).2.2.1, hv, fun x hx => (he x hx).2.2.2.1, fun x hx => (he x hx).2.2.2.2, fun s hs g hgs => (hg s hs g hgs).1⟩
   ·rename_i h3; exact absurd h h3
 ·cases h
theorem mu_bulk {a : GAutomaton} (h : GAutomaton.mu a ≤ 1048576) : bulkA a := by
 unfold GAutomaton.mu at h
 refine ⟨fun s hs g hg => ?_, fun x hx => ?_⟩
 ·have h1 := muL_mem (f := GState.mu) hs
  have h2 : muL GGuard.mu s.Guards ≤ GState.mu s := by unfold GState.mu; omega
  have h3 := muL_mem (f := GGuard.mu) hg
  have h4 : GExpr.bulk g.Cond ≤ GGuard.mu g := by unfold GGuard.mu; omega
  omega
 ·have h1 := muL_mem (f := GEdge.mu) hx
  have h2 : GExpr.bulk x.Cond ≤ GEdge.mu x := by unfold GEdge.mu; omega
  have h3 : muL GExpr.bulk x.Checks ≤ GEdge.mu x := by unfold GEdge.mu; omega
  refine ⟨by omega, fun c hc => ?_⟩
  have h4 := muL_mem (f := GExpr.bulk) hc
  omega
end
end Go.Ab

namespace Go.Ab
noncomputable section
def NF.le (f g : NF) : Prop := f.join g = g
theorem NF.le_refl (f : NF) : f.le f := NF.join_self f
theorem NF.le_trans {f g h : NF} (a : f.le g) (b : g.le h) : f.le h := by
 unfold NF.le at *
 rw [← b, ← NF.join_assoc, a]
theorem NF.le_antisymm {f g : NF} (a : f.le g) (b : g.le f) : f = g := by
 unfold NF.le at *
 rw [← b, NF.join_comm, a]
theorem NF.le_join_left (f g : NF) : f.le (f.join g) := by unfold NF.le; rw [← NF.join_assoc, NF.join_self]
theorem NF.le_join_right (f g : NF) : g.le (f.join g) := by rw [NF.join_comm]; exact NF.le_join_left g f
theorem NF.join_le {f g h : NF} (a : f.le h) (b : g.le h) : (f.join g).le h := by
 unfold NF.le at *
 rw [NF.join_assoc, b, a]
theorem NF.zero_le (f : NF) : NF.zero.le f := NF.zero_join f
theorem NF.join_mono {f g f' g' : NF} (a : f.le f') (b : g.le g') : (f.join g).le (f'.join g') := NF.join_le (NF.le_trans a (NF.le_join_left _ _)) (NF.le_trans b (NF.le_join_right _ _))
theorem NF.le_at {f g : NF} (h : f.le g) (v : Int) : (f v).1 ≤ (g v).1 ∧ (f v).2 ≤ (g v).2 := by
 have := congrFun h v
 have e : bor (f v) (g v) = g v := this
 exact ⟨by rw [← congrArg Prod.fst e]; exact Nat.left_le_or, by rw [← congrArg Prod.snd e]; exact Nat.left_le_or⟩
def dropL (v : Int) (f : NF) : NF := fun w => if w = v then (0, (f w).2) else f w
theorem dropL_mono {v : Int} {f g : NF} (h : f.le g) : (dropL v f).le (dropL v g) := by
 funext w
 have := congrFun h w
 have e : bor (f w) (g w) = g w := this
 show bor (dropL v f w) (dropL v g w) = dropL v g w
 unfold dropL
 by_cases hw : w = v
 ·rw [if_pos hw, if_pos hw]
  have := congrArg Prod.snd e
  exact Prod.ext (by simp [bor]) this
 ·rw [if_neg hw, if_neg hw]; exact e
theorem dropL_sup {v : Int} {f : NF} (h : f.sup) : (dropL v f).sup := fun w hw => by
 refine h w fun e => hw ?_
 unfold dropL
 rw [e]
 split <;> rfl
theorem reads_ok {x : GExpr} (h : exprCheck x = 0) (own : Int) : (exprF own x).ok ∧ (exprF own x).sup := exprF_good own x (exprCheck_ok h).2.2
theorem read_eq {N : Nat} (hN : 40000000 ≤ N) (own : Int) {x : GExpr} (hb : x.bulk ≤ 16777216) (h : exprCheck x = 0) : ∃ m, registers_read N x own = some m ∧ MapR m (exprF own x) := by
 obtain ⟨_, h2, h3⟩ := exprCheck_ok h
 obtain ⟨m, h4, h5⟩ := read_law hN own N x (by omega) hb h3 .nil
 rw [NF.zero_join] at h5
 exact ⟨m, h4, h5⟩
def readsF (l : List GExpr) : NF := l.foldl (fun f c => f.join (exprF (-1) c)) .zero
theorem foldl_good {l : List GExpr} (h : ∀ c ∈ l, exprCheck c = 0) : ∀ {f : NF}, f.ok → f.sup → (l.foldl (fun f c => f.join (exprF (-1) c)) f).ok ∧ (l.foldl (fun f c => f.join (exprF (-1) c)) f).sup := by
 induction l with
 | nil => exact fun a b => ⟨a, b⟩
 | cons c l ih =>
  intro f a b
  have := reads_ok (h c (by simp)) (-1)
  exact ih (fun c hc => h c (by simp [hc])) (NF.ok_join a this.1) (NF.sup_join b this.2)
theorem readsF_good {l : List GExpr} (h : ∀ c ∈ l, exprCheck c = 0) : (readsF l).ok ∧ (readsF l).sup := foldl_good h NF.ok_zero NF.sup_zero
def behindF (x : GEdge) (S : Nat → NF) : NF := if 0 ≤ x.To then (readsF x.Checks).join (S x.To.toNat) else readsF x.Checks
theorem behindF_mono {x : GEdge} {S S' : Nat → NF} (h : ∀ i, (S i).le (S' i)) : (behindF x S).le (behindF x S') := by
 unfold behindF
 split
 ·exact NF.join_mono (NF.le_refl _) (h _)
 ·exact NF.le_refl _
theorem behindF_good {x : GEdge} {S : Nat → NF} {n : Nat} (hc : ∀ c ∈ x.Checks, exprCheck c = 0) (ht : x.To < n) (hS : ∀ i, i < n → (S i).ok ∧ (S i).sup) : (behindF x S).ok ∧ (behindF x S).sup := by
 have h1 := readsF_good hc
 unfold behindF
 split
 ·have h2 := hS x.To.toNat (by omega)
  exact ⟨NF.ok_join h1.1 h2.1, NF.sup_join h1.2 h2.2⟩
 ·exact h1
def StR (ms : List (Option (List (Int × GNeed)))) (S : Nat → NF) (n : Nat) : Prop := ms.length = n ∧ ∀ i, i < n → (∃ m, ms[i]? = some (some m) ∧ MapR m (S i)) ∧ (S i).sup
theorem StR.ok {ms : List (Option (List (Int × GNeed)))} {S : Nat → NF} {n : Nat} (h : StR ms S n) : ∀ i, i < n → (S i).ok ∧ (S i).sup := fun i hi => by
 obtain ⟨⟨m, _, h1⟩, h2⟩ := h.2 i hi
 exact ⟨h1.ok, h2⟩
theorem MapR.drop {m : List (Int × GNeed)} {f : NF} (h : MapR m f) (v : Int) : MapR (m.filter fun p => !decide (p.1 = v)) (fun w => if w = v then (0, 0) else f w) := by
 refine ⟨?_, fun w => ?_, fun w => ?_⟩
 ·exact (List.Sublist.map _ (List.filter_sublist ..)).nodup h.nd
 ·have key : ∀ l : List (Int × GNeed), lkN (l.filter fun p => !decide (p.1 = v)) w = if w = v then none else lkN l w := fun l => by
   induction l with
   | nil => split <;> rfl
   | cons p l ih =>
    rw [List.filter_cons]
    by_cases hp : p.1 = v
    ·rw [if_neg (by simp [hp]), ih, lkN_cons]
     by_cases hw : w = v
     ·rw [if_pos hw, if_pos hw]
     ·rw [if_neg hw, if_neg hw, if_neg (by rw [hp]; exact fun e => hw e.symm)]
    ·rw [if_pos (by simp [hp]), lkN_cons, ih, lkN_cons]
     by_cases hw : p.1 = w
     ·rw [if_pos hw, if_pos hw, if_neg (by rw [← hw]; exact hp)]
     ·rw [if_neg hw, if_neg hw]
  rw [key, h.at_ w]
  by_cases hw : w = v
  ·simp [hw]
  ·simp [hw]
 ·split
  ·exact ⟨by decide, by decide⟩
  ·exact h.ok w
theorem behind_eq {N : Nat} (hN : 40000000 ≤ N) {x : GEdge} {ms : List (Option (List (Int × GNeed)))} {S : Nat → NF} {n : Nat} (hS : StR ms S n) (hl : x.Checks.length < 1000000) (hb : ∀ c ∈ x.Checks, c.bulk ≤ 16777216) (hc : ∀ c ∈ x.Checks, exprCheck c = 0) (ht : x.To < n) :
 ∃ m, registers_behind N x ms = some m ∧ MapR m (dropL x.Var (behindF x S)) := by
 unfold registers_behind
 rw [loop_list x.Checks (by omega) (fun (s : List (Int × GNeed)) i => (s, i)) (fun s c => (registers_read N c (-1)).bind fun l => (registers_needs_join N s l).bind fun a => some (.inl a.2)) (fun s => s) [] (by omega) ?_ ?_]
 ·have key : ∀ (l : List GExpr) (m : List (Int × GNeed)) (f : NF), (∀ c ∈ l, c ∈ x.Checks) → MapR m f → ∃ m', rangeL (R := List (Int × GNeed)) (fun s c => (registers_read N c (-1)).bind fun l => (registers_needs_join N s l).bind fun a => some (.inl a.2)) l m = some (.inl m') ∧ MapR m' (l.foldl (fun f c => f.join (exprF (-1) c)) f) := fun l => by
   induction l with
   | nil => intro m f _ hm; exact ⟨m, rfl, hm⟩
   | cons c l ih =>
    intro m f hcl hm
    have hcx := hcl c (by simp)
    obtain ⟨r, r1, r2⟩ := read_eq hN (-1) (hb c hcx) (hc c hcx)
    obtain ⟨fr, m1, j1, j2, _⟩ := join_law (N := N) hm r2
    obtain ⟨m', h1, h2⟩ := ih m1 _ (fun c h => hcl c (by simp [h])) j2
    refine ⟨m', ?_, h2⟩
    unfold rangeL
    rw [r1]
    simp only [Option.bind_some]
    rw [j1]
    exact h1
  obtain ⟨m6, h1, h2⟩ := key x.Checks [] .zero (fun c h => h) .nil
  rw [h1]
  simp only [Option.bind_some]
  have hj : ∃ m9, ((
   if Ar.cmp .geq x.To 0 = true then
    (req (inR ms x.To)).bind fun _ =>
    (idxL ms x.To).bind fun o7 =>
    o7.bind fun l7 =>
    (registers_needs_join N m6 l7).bind fun a8 =>
    some a8.2
   else
    some m6
   ) : Option (List (Int × GNeed))) = some m9 ∧ MapR m9 (behindF x S) := by
   unfold behindF
   by_cases h0 : 0 ≤ x.To
   ·rw [if_pos (by rw [cmp_geq]; exact decide_eq_true h0), if_pos h0]
    obtain ⟨⟨m, e1, e2⟩, _⟩ := hS.2 x.To.toNat (by omega)
    have hr : req (inR ms x.To) = some () := if_pos (by unfold inR; rw [hS.1]; exact decide_eq_true ⟨h0, by omega⟩)
    have hi : idxL ms x.To = some (some m) := by unfold idxL; rw [if_pos h0, e1]
    obtain ⟨fr, m9, j1, j2, _⟩ := join_law (N := N) h2 e2
    rw [hr, hi]
    simp only [Option.bind_some]
    rw [j1]
    exact ⟨m9, rfl, j2⟩
   ·rw [if_neg (by rw [cmp_geq]; simpa using h0), if_neg h0]
    exact ⟨m6, rfl, h2⟩
  obtain ⟨m9, h3, h4⟩ := hj
  rw [h3]
  simp only [Option.bind_some]
  generalize behindF x S = f at h4 ⊢
  have hg : ∃ o, getM m9 x.Var ((⟨0, 0, 0⟩ : GNeed) : GNeed) = some o ∧ o.1.All = ((f x.Var).2 : Int) := by
   rw [getM_lkN, h4.at_ x.Var]
   by_cases h : f x.Var = (0, 0)
   ·rw [if_pos h, h]; exact ⟨_, rfl, rfl⟩
   ·rw [if_neg h]; exact ⟨_, rfl, rfl⟩
  obtain ⟨o, o1, o2⟩ := hg
  rw [o1]
  simp only [Option.bind_some]
  have hd := h4.drop x.Var
  obtain ⟨m', a1, a2⟩ := add_mapR (N := N) hd (v := x.Var) (p := (0, (f x.Var).2)) (show 0 < 512 by decide) (h4.ok x.Var).2
  rw [show (⟨x.Var, 0, o.1.All⟩ : GNeed) = need x.Var (0, (f x.Var).2) by rw [o2]; rfl, a1]
  refine ⟨m', rfl, ?_⟩
  have : NF.join (fun w => if w = x.Var then (0, 0) else f w) (.one x.Var (0, (f x.Var).2)) = dropL x.Var f := by
   funext w
   unfold NF.join NF.one dropL
   by_cases h : w = x.Var
   ·simp [h, bor]
   ·simp [h, bor]
  rw [← this]; exact a2
 ·intro s i c hcx hi
  try dsimp only
  rw [if_pos (lt_len hi), idx_at, hcx]
  simp only [Option.bind_some]
  rw [add_i64 (by omega) (by omega)]
  cases registers_read N c (-1) with
  | none => rfl
  | some l => simp only [Option.bind_some]; cases registers_needs_join N s l <;> rfl
 ·intro s
  try dsimp only
  rw [if_neg lt_end]
def upS (S : Nat → NF) (j : Nat) (f : NF) : Nat → NF := fun i => if i = j then (S i).join f else S i
theorem joinAt_eq {N : Nat} {ms : List (Option (List (Int × GNeed)))} {S : Nat → NF} {n : Nat} (hS : StR ms S n) {j : Int} (h0 : 0 ≤ j) (hj : j < n) {l : List (Int × GNeed)} {f : NF} (hl : MapR l f) (hf : f.sup) :
 ∃ fr ms', registers_joinAt N ms j (some l) = some (fr, ms') ∧ StR ms' (upS S j.toNat f) n ∧ (fr = true ↔ (S j.toNat).join f ≠ S j.toNat) := by
 obtain ⟨⟨m, e1, e2⟩, e3⟩ := hS.2 j.toNat (by omega)
 obtain ⟨fr, m', j1, j2, j3⟩ := join_law (N := N) e2 hl
 have hi : idxL ms j = some (some m) := by unfold idxL; rw [if_pos h0, e1]
 unfold registers_joinAt
 rw [hi]
 simp only [Option.bind_some]
 rw [j1]
 refine ⟨fr, _, rfl, ⟨by rw [List.length_set]; exact hS.1, fun i hi => ?_⟩, j3⟩
 unfold upS
 by_cases h : i = j.toNat
 ·rw [if_pos h]
  subst h
  refine ⟨⟨m', ?_, j2⟩, NF.sup_join e3 hf⟩
  rw [List.getElem?_set, if_pos rfl, if_pos (by rw [hS.1]; omega)]
 ·rw [if_neg h]
  obtain ⟨⟨m2, q1, q2⟩, q3⟩ := hS.2 i hi
  refine ⟨⟨m2, ?_, q2⟩, q3⟩
  rw [List.getElem?_set, if_neg (fun e => h e.symm), q1]
end
end Go.Ab

namespace Go.Ab
noncomputable section
def guardsF (l : List GGuard) : NF := l.foldl (fun f g => f.join (exprF g.Var g.Cond)) .zero
def guardsS (a : GAutomaton) (i : Nat) : NF := match a.States[i]? with | some s => guardsF s.Guards | none => .zero
def HoldsX (x : GEdge) (S : Nat → NF) : Prop := (exprF x.Var x.Cond).le (S x.From.toNat) ∧ (dropL x.Var (behindF x S)).le (S x.From.toNat)
structure Suff (a : GAutomaton) (P : Nat → NF) : Prop where
 gd : ∀ i, (guardsS a i).le (P i)
 ed : ∀ x ∈ a.Edges, HoldsX x P
def SLe (S S' : Nat → NF) : Prop := ∀ i, (S i).le (S' i)
theorem SLe.refl (S : Nat → NF) : SLe S S := fun i => NF.le_refl _
theorem SLe.trans {S S' S'' : Nat → NF} (h : SLe S S') (k : SLe S' S'') : SLe S S'' := fun i => NF.le_trans (h i) (k i)
theorem SLe.antisymm {S S' : Nat → NF} (h : SLe S S') (k : SLe S' S) : S = S' := funext fun i => NF.le_antisymm (h i) (k i)
theorem upS_le (S : Nat → NF) (j : Nat) (f : NF) : SLe S (upS S j f) := fun i => by
 unfold upS
 split
 ·exact NF.le_join_left _ _
 ·exact NF.le_refl _
theorem upS_below {S P : Nat → NF} {j : Nat} {f : NF} (h : SLe S P) (hf : f.le (P j)) : SLe (upS S j f) P := fun i => by
 unfold upS
 split
 ·rename_i e; subst e; exact NF.join_le (h i) hf
 ·exact h i
theorem upS_eq {S : Nat → NF} {j : Nat} {f : NF} : upS S j f = S ↔ f.le (S j) := by
 constructor
 ·intro h
  have := congrFun h j
  unfold upS at this
  rw [if_pos rfl] at this
  unfold NF.le
  rw [NF.join_comm]; exact this
 ·intro h
  funext i
  unfold upS
  split
  ·rename_i e; subst e
   rw [NF.join_comm]; exact h
  ·rfl
theorem join_ne {f g : NF} : f.join g ≠ f ↔ ¬ g.le f := by unfold NF.le; rw [NF.join_comm]
def sizeF (f : NF) : Nat := (vars.map fun v => (f v).1 + (f v).2).sum
def sizeS (S : Nat → NF) (n : Nat) : Nat := ((List.range n).map fun i => sizeF (S i)).sum
theorem sum_le {α : Type} {f g : α → Nat} : ∀ {l : List α}, (∀ x ∈ l, f x ≤ g x) → (l.map f).sum ≤ (l.map g).sum
 | [], _ => Nat.le_refl _
 | x :: l, h => by
  rw [List.map_cons, List.map_cons, List.sum_cons, List.sum_cons]
  have := h x (by simp)
  have := sum_le (l := l) fun y hy => h y (by simp [hy])
  omega
theorem sum_lt {α : Type} {f g : α → Nat} : ∀ {l : List α}, (∀ x ∈ l, f x ≤ g x) → (∃ x ∈ l, f x < g x) → (l.map f).sum < (l.map g).sum
 | [], _, ⟨x, hx, _⟩ => by cases hx
 | x :: l, h, ⟨y, hy, hlt⟩ => by
  rw [List.map_cons, List.map_cons, List.sum_cons, List.sum_cons]
  have h1 := h x (by simp)
  have h2 := sum_le (l := l) fun y hy => h y (by simp [hy])
  rcases List.mem_cons.1 hy with rfl | hy
  ·omega
  ·have := sum_lt (l := l) (fun y hy => h y (by simp [hy])) ⟨y, hy, hlt⟩
   omega
theorem sum_bound {α : Type} {f : α → Nat} {k : Nat} : ∀ {l : List α}, (∀ x ∈ l, f x ≤ k) → (l.map f).sum ≤ k * l.length
 | [], _ => by simp
 | x :: l, h => by
  rw [List.map_cons, List.sum_cons, List.length_cons, Nat.mul_add, Nat.mul_one]
  have := h x (by simp)
  have := sum_bound (l := l) fun y hy => h y (by simp [hy])
  omega
theorem sizeF_le {f g : NF} (h : f.le g) : sizeF f ≤ sizeF g := sum_le fun v _ => by have := NF.le_at h v; omega
theorem sizeF_lt {f g : NF} (h : f.le g) (hg : g.sup) (hne : f ≠ g) : sizeF f < sizeF g := by
 have : ∃ v, f v ≠ g v := Classical.byContradiction fun k => hne (funext fun v => Classical.byContradiction fun q => k ⟨v, q⟩)
 obtain ⟨v, hv⟩ := this
 have hl := NF.le_at h v
 have hgv : g v ≠ (0, 0) := fun e => hv (by
  rw [e] at hl
  rw [e]
  exact Prod.ext (Nat.le_zero.1 hl.1) (Nat.le_zero.1 hl.2))
 refine sum_lt (fun w _ => by have := NF.le_at h w; omega) ⟨v, mem_vars.2 (hg v hgv), ?_⟩
 have : (f v).1 ≠ (g v).1 ∨ (f v).2 ≠ (g v).2 := by
  by_cases h1 : (f v).1 = (g v).1
  ·exact .inr fun h2 => hv (Prod.ext h1 h2)
  ·exact .inl h1
 omega
theorem sizeF_bound {f : NF} (h : f.ok) : sizeF f ≤ 16352 := by
 have h1 : ∀ v ∈ vars, (f v).1 + (f v).2 ≤ 1022 := fun v _ => by have := h v; omega
 have := sum_bound h1
 have hv : vars.length = 16 := by decide
 unfold sizeF
 omega
theorem sizeS_le {S S' : Nat → NF} {n : Nat} (h : SLe S S') : sizeS S n ≤ sizeS S' n := sum_le fun i _ => sizeF_le (h i)
theorem sizeS_lt {S S' : Nat → NF} {n : Nat} (h : SLe S S') (hs : ∀ i, i < n → (S' i).sup) (hne : ∃ i, i < n ∧ S i ≠ S' i) : sizeS S n < sizeS S' n := by
 obtain ⟨i, hi, hq⟩ := hne
 exact sum_lt (fun i _ => sizeF_le (h i)) ⟨i, List.mem_range.2 hi, sizeF_lt (h i) (hs i hi) hq⟩
theorem sizeS_bound {S : Nat → NF} {n : Nat} (h : ∀ i, i < n → (S i).ok) : sizeS S n ≤ 16352 * n := by
 have := sum_bound (l := List.range n) (f := fun i => sizeF (S i)) (k := 16352) fun i hi => sizeF_bound (h i (List.mem_range.1 hi))
 rw [List.length_range] at this
 exact this
theorem loop_grow {σ R : Type} {step : σ → Option (σ ⊕ R)} (I : σ → Prop) (Q : R → Prop) (μ : σ → Nat) (B : Nat)
 (hs : ∀ s, I s → μ s ≤ B ∧ ((∃ s', step s = some (.inl s') ∧ I s' ∧ μ s < μ s') ∨ ∃ r, step s = some (.inr r) ∧ Q r)) : ∀ (N : Nat) (s : σ), I s → B < N + μ s → ∃ r, loopN step N s = some r ∧ Q r
 | 0, s, h, hB => by have := (hs s h).1; omega
 | N + 1, s, h, hB => by
  unfold loopN
  rcases (hs s h).2 with ⟨s', h1, h2, h3⟩ | ⟨r, h1, h2⟩
  ·rw [h1]
   exact loop_grow I Q μ B hs N s' h2 (by omega)
  ·rw [h1]
   exact ⟨r, rfl, h2⟩
section
variable {N : Nat} {a : GAutomaton} (hN : 40000000 ≤ N) (ha : AOk a) (hb : bulkA a) (hl : ∀ x ∈ a.Edges, x.Checks.length < 1000000)
include hN ha hb hl
theorem edge_step {x : GEdge} (hx : x ∈ a.Edges) {ms : List (Option (List (Int × GNeed)))} {S : Nat → NF} (hS : StR ms S a.States.length) :
 ∃ f1 f2 ms1 ms2 S', registers_joinAt N ms x.From (registers_read N x.Cond x.Var) = some (f1, ms1) ∧ registers_joinAt N ms1 x.From (registers_behind N x ms1) = some (f2, ms2) ∧ StR ms2 S' a.States.length ∧ SLe S S' ∧ (∀ P, Suff a P → SLe S P → SLe S' P) ∧
  ((f1 = true ∨ f2 = true) ↔ ∃ i, i < a.States.length ∧ S i ≠ S' i) ∧ (S' = S → HoldsX x S) ∧ ((f1 = false ∧ f2 = false) → S' = S) := by
 have hfr := ha.fr x hx
 have hto := ha.to x hx
 obtain ⟨b1, b2⟩ := hb.2 x hx
 obtain ⟨m, r1, r2⟩ := read_eq hN x.Var b1 (ha.cd x hx)
 have rg := reads_ok (ha.cd x hx) x.Var
 obtain ⟨f1, ms1, j1, j2, j3⟩ := joinAt_eq (N := N) hS hfr.1 hfr.2 r2 rg.2
 obtain ⟨mb, q1, q2⟩ := behind_eq hN j2 (hl x hx) b2 (ha.ck x hx) hto.2
 have bg := behindF_good (S := upS S x.From.toNat (exprF x.Var x.Cond)) (ha.ck x hx) hto.2 j2.ok
 obtain ⟨f2, ms2, k1, k2, k3⟩ := joinAt_eq (N := N) j2 hfr.1 hfr.2 q2 (dropL_sup bg.2)
 let S1 := upS S x.From.toNat (exprF x.Var x.Cond)
 have l1 : SLe S S1 := upS_le _ _ _
 have l2 : SLe S1 (upS S1 x.From.toNat (dropL x.Var (behindF x S1))) := upS_le _ _ _
 have e1 : f1 = false → S1 = S := fun h => upS_eq.2 (Classical.byContradiction fun k => by
  have := j3.2 (join_ne.2 k)
  rw [h] at this; cases this)
 have e2 : f2 = false → upS S1 x.From.toNat (dropL x.Var (behindF x S1)) = S1 := fun h => upS_eq.2 (Classical.byContradiction fun k => by
  have := k3.2 (join_ne.2 k)
  rw [h] at this; cases this)
 have hi : x.From.toNat < a.States.length := by omega
 refine ⟨f1, f2, ms1, ms2, upS S1 x.From.toNat (dropL x.Var (behindF x S1)), by rw [r1]; exact j1, by rw [q1]; exact k1, k2, SLe.trans l1 l2, fun P hP hSP => ?_, ⟨fun h => ?_, fun ⟨i, h1, h2⟩ => ?_⟩, fun h => ?_, fun h => ?_⟩
 ·have h1 : SLe S1 P := upS_below hSP (hP.ed x hx).1
  exact upS_below h1 (NF.le_trans (dropL_mono (behindF_mono h1)) (hP.ed x hx).2)
 ·refine ⟨x.From.toNat, hi, fun e => ?_⟩
  have a1 : (S x.From.toNat).le (S1 x.From.toNat) := l1 _
  have a2 := l2 x.From.toNat
  rw [← e] at a2
  have e3 : S1 x.From.toNat = S x.From.toNat := NF.le_antisymm a2 a1
  rcases h with h | h
  ·have := j3.1 h
   apply this
   have : S1 x.From.toNat = (S x.From.toNat).join (exprF x.Var x.Cond) := by show upS _ _ _ _ = _; unfold upS; rw [if_pos rfl]
   rw [← this, e3]
  ·have h6 := k3.1 h
   apply h6
   have h5 : upS S1 x.From.toNat (dropL x.Var (behindF x S1)) x.From.toNat = (S1 x.From.toNat).join (dropL x.Var (behindF x S1)) := by unfold upS; rw [if_pos rfl]
   show (S1 x.From.toNat).join (dropL x.Var (behindF x S1)) = S1 x.From.toNat
   rw [← h5, ← e, e3]
 ·cases hf1 : f1 with
  | true => exact .inl rfl
  | false =>
   cases hf2 : f2 with
   | true => exact .inr rfl
   | false => exact absurd (by rw [e2 hf2, e1 hf1]) h2
 ·have h1 : S1 = S := SLe.antisymm (by rw [h] at l2; exact l2) l1
  refine ⟨upS_eq.1 h1, ?_⟩
  rw [h1] at h
  exact upS_eq.1 h
 ·rw [e2 h.2, e1 h.1]
theorem edges_round : ∀ (l : List GEdge), (∀ x ∈ l, x ∈ a.Edges) → ∀ {ms : List (Option (List (Int × GNeed)))} {S : Nat → NF} (ag : Bool), StR ms S a.States.length →
 ∃ ag' ms' S', rangeL (R := List (Option (List (Int × GNeed))) × Bool) (fun (s : List (Option (List (Int × GNeed))) × Bool) x => (registers_joinAt N s.1 x.From (registers_read N x.Cond x.Var)).bind fun a16 => (registers_joinAt N a16.2 x.From (registers_behind N x a16.2)).bind fun a17 => some (.inl (a17.2, Ar.or a17.1 (Ar.or a16.1 s.2)))) l (ms, ag) = some (.inl (ms', ag')) ∧ StR ms' S' a.States.length ∧ SLe S S' ∧ (∀ P, Suff a P → SLe S P → SLe S' P) ∧
  (ag' = true ↔ ag = true ∨ ∃ i, i < a.States.length ∧ S i ≠ S' i) ∧ (ag' = false → S' = S ∧ ∀ x ∈ l, HoldsX x S)
 | [], _, ms, S, ag, hS => ⟨ag, ms, S, rfl, hS, SLe.refl _, fun _ _ h => h, ⟨.inl, fun h => h.elim id fun ⟨_, _, k⟩ => absurd rfl k⟩, fun _ => ⟨rfl, fun x hx => by cases hx⟩⟩
 | x :: l, hx, ms, S, ag, hS => by
  obtain ⟨f1, f2, ms1, ms2, S1, a1, a2, a3, a4, a5, a6, a7, a8⟩ := edge_step hN ha hb hl (hx x (by simp)) hS
  obtain ⟨ag', ms', S', b1, b2, b3, b4, b5, b6⟩ := edges_round l (fun y hy => hx y (by simp [hy])) (Ar.or f2 (Ar.or f1 ag)) a3
  refine ⟨ag', ms', S', ?_, b2, SLe.trans a4 b3, fun P hP h => b4 P hP (a5 P hP h), ?_, fun h => ?_⟩
  ·unfold rangeL
   rw [a1]
   simp only [Option.bind_some]
   rw [a2]
   exact b1
  ·rw [b5, or_def, or_def, Bool.or_eq_true, Bool.or_eq_true]
   constructor
   ·rintro ((h | h | h) | ⟨i, h1, h2⟩)
    ·obtain ⟨i, h1, h2⟩ := a6.1 (.inr h)
     exact .inr ⟨i, h1, fun e => h2 (NF.le_antisymm (a4 i) (by rw [e]; exact b3 i))⟩
    ·obtain ⟨i, h1, h2⟩ := a6.1 (.inl h)
     exact .inr ⟨i, h1, fun e => h2 (NF.le_antisymm (a4 i) (by rw [e]; exact b3 i))⟩
    ·exact .inl h
    ·exact .inr ⟨i, h1, fun e => h2 (NF.le_antisymm (b3 i) (by rw [← e]; exact a4 i))⟩
   ·rintro (h | ⟨i, h1, h2⟩)
    ·exact .inl (.inr (.inr h))
    ·by_cases h3 : S i = S1 i
     ·exact .inr ⟨i, h1, by rw [← h3]; exact h2⟩
     ·rcases a6.2 ⟨i, h1, h3⟩ with h | h
      ·exact .inl (.inr (.inl h))
      ·exact .inl (.inl h)
  ·obtain ⟨h1, h2⟩ := b6 h
   have h3 : ¬ (Ar.or f2 (Ar.or f1 ag) = true) := fun k => by
    have := b5.2 (.inl k)
    rw [h] at this; cases this
   rw [or_def, or_def, Bool.or_eq_true, Bool.or_eq_true] at h3
   have h4 : S1 = S := a8 ⟨by cases f1 with | true => exact absurd (.inr (.inl rfl)) h3 | false => rfl, by cases f2 with | true => exact absurd (.inl rfl) h3 | false => rfl⟩
   subst h4
   refine ⟨h1, fun y hy => ?_⟩
   rcases List.mem_cons.1 hy with rfl | hy
   ·exact a7 rfl
   ·exact h2 y hy
end
end
end Go.Ab

