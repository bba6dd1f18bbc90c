/- GRN2 GRN3 -/
import Derived.Test.YtbjdkpckplopdaaT44
set_option linter.all false

namespace Go.Ab
noncomputable section
def guardsF (l : List GGuard) : NF := l.foldl (fun f g => f.join (exprF g.Var g.Cond)) .zero
def guardsS (a : GAutomaton) (i : Nat) : NF := match a.States[i]? with | some s => guardsF s.Guards | none => .zero
def HoldsX (x : GEdge) (S : Nat → NF) : Prop := (exprF x.Var x.Cond).le (S x.From.toNat) ∧ (dropL x.Var (behindF x S)).le (S x.From.toNat)
structure Suff (a : GAutomaton) (P : Nat → NF) : Prop where
 gd : ∀ i, (guardsS a i).le (P i)
 ed : ∀ x ∈ a.Edges, HoldsX x P
def SLe (S S' : Nat → NF) : Prop := ∀ i, (S i).le (S' i)
theorem SLe.refl (S : Nat → NF) : SLe S S := fun i => NF.le_refl _
theorem SLe.trans {S S' S'' : Nat → NF} (h : SLe S S') (k : SLe S' S'') : SLe S S'' := fun i => NF.le_trans (h i) (k i)
theorem SLe.antisymm {S S' : Nat → NF} (h : SLe S S') (k : SLe S' S) : S = S' := funext fun i => NF.le_antisymm (h i) (k i)
theorem upS_le (S : Nat → NF) (j : Nat) (f : NF) : SLe S (upS S j f) := fun i => by
 unfold upS
 split
 ·exact NF.le_join_left _ _
 exact NF.le_refl _
theorem upS_below {S P : Nat → NF} {j : Nat} {f : NF} (h : SLe S P) (hf : f.le (P j)) : SLe (upS S j f) P := fun i => by
 unfold upS
 split
 ·rename_i e; subst e; exact NF.join_le (h i) hf
 exact h i
theorem upS_eq {S : Nat → NF} {j : Nat} {f : NF} : upS S j f = S ↔ f.le (S j) := by
 constructor
 ·intro h
  have := congrFun h j
  unfold upS at this
  rw [if_pos rfl] at this
  unfold NF.le
  rw [NF.join_comm]; exact this
 intro h
 funext i
 unfold upS
 split
 ·rename_i e; subst e
  rw [NF.join_comm]; exact h
 rfl
theorem join_ne {f g : NF} : f.join g ≠ f ↔ ¬ g.le f := by unfold NF.le; rw [NF.join_comm]
def sizeF (f : NF) : Nat := (vars.map fun v => (f v).1 + (f v).2).sum
def sizeS (S : Nat → NF) (n : Nat) : Nat := ((List.range n).map fun i => sizeF (S i)).sum
theorem sum_le {α : Type} {f g : α → Nat} : ∀ {l : List α}, (∀ x ∈ l, f x ≤ g x) → (l.map f).sum ≤ (l.map g).sum
 | [], _ => Nat.le_refl _
 | x :: l, h => by
  rw [List.map_cons, List.map_cons, List.sum_cons, List.sum_cons]
  have := h x (by simp)
  have := sum_le (l := l) fun y hy => h y (by simp [hy])
  omega
theorem sum_lt {α : Type} {f g : α → Nat} : ∀ {l : List α}, (∀ x ∈ l, f x ≤ g x) → (∃ x ∈ l, f x < g x) → (l.map f).sum < (l.map g).sum
 | [], _, ⟨x, hx, _⟩ => by cases hx
 | x :: l, h, ⟨y, hy, hlt⟩ => by
  rw [List.map_cons, List.map_cons, List.sum_cons, List.sum_cons]
  have h1 := h x (by simp)
  have h2 := sum_le (l := l) fun y hy => h y (by simp [hy])
  rcases List.mem_cons.1 hy with rfl | hy
  ·omega
  have := sum_lt (l := l) (fun y hy => h y (by simp [hy])) ⟨y, hy, hlt⟩
  omega
theorem sum_bound {α : Type} {f : α → Nat} {k : Nat} : ∀ {l : List α}, (∀ x ∈ l, f x ≤ k) → (l.map f).sum ≤ k * l.length
 | [], _ => by simp
 | x :: l, h => by
  rw [List.map_cons, List.sum_cons, List.length_cons, Nat.mul_add, Nat.mul_one]
  have := h x (by simp)
  have := sum_bound (l := l) fun y hy => h y (by simp [hy])
  omega
theorem sizeF_le {f g : NF} (h : f.le g) : sizeF f ≤ sizeF g := sum_le fun v _ => by have := NF.le_at h v; omega
theorem sizeF_lt {f g : NF} (h : f.le g) (hg : g.sup) (hne : f ≠ g) : sizeF f < sizeF g := by
 have : ∃ v, f v ≠ g v := Classical.byContradiction fun k => hne (funext fun v => Classical.byContradiction fun q => k ⟨v, q⟩)
 obtain ⟨v, hv⟩ := this
 have hl := NF.le_at h v
 have hgv : g v ≠ (0, 0) := fun e => hv (by
  rw [e] at hl
  rw [e]
  exact Prod.ext (Nat.le_zero.1 hl.1) (Nat.le_zero.1 hl.2))
 refine sum_lt (fun w _ => by have := NF.le_at h w; omega) ⟨v, mem_vars.2 (hg v hgv), ?_⟩
 have : (f v).1 ≠ (g v).1 ∨ (f v).2 ≠ (g v).2 := by
  by_cases h1 : (f v).1 = (g v).1
  ·exact .inr fun h2 => hv (Prod.ext h1 h2)
  exact .inl h1
 omega
theorem sizeF_bound {f : NF} (h : f.ok) : sizeF f ≤ 16352 := by
 have h1 : ∀ v ∈ vars, (f v).1 + (f v).2 ≤ 1022 := fun v _ => by have := h v; omega
 have := sum_bound h1
 have hv : vars.length = 16 := by decide
 unfold sizeF
 omega
theorem sizeS_le {S S' : Nat → NF} {n : Nat} (h : SLe S S') : sizeS S n ≤ sizeS S' n := sum_le fun i _ => sizeF_le (h i)
theorem sizeS_lt {S S' : Nat → NF} {n : Nat} (h : SLe S S') (hs : ∀ i, i < n → (S' i).sup) (hne : ∃ i, i < n ∧ S i ≠ S' i) : sizeS S n < sizeS S' n := by
 obtain ⟨i, hi, hq⟩ := hne
 exact sum_lt (fun i _ => sizeF_le (h i)) ⟨i, List.mem_range.2 hi, sizeF_lt (h i) (hs i hi) hq⟩
theorem sizeS_bound {S : Nat → NF} {n : Nat} (h : ∀ i, i < n → (S i).ok) : sizeS S n ≤ 16352 * n := by
 have := sum_bound (l := List.range n) (f := fun i => sizeF (S i)) (k := 16352) fun i hi => sizeF_bound (h i (List.mem_range.1 hi))
 rw [List.length_range] at this
 exact this
theorem loop_grow {σ R : Type} {step : σ → Option (σ ⊕ R)} (I : σ → Prop) (Q : R → Prop) (μ : σ → Nat) (B : Nat)
 (hs : ∀ s, I s → μ s ≤ B ∧ ((∃ s', step s = some (.inl s') ∧ I s' ∧ μ s < μ s') ∨ ∃ r, step s = some (.inr r) ∧ Q r)) : ∀ (N : Nat) (s : σ), I s → B < N + μ s → ∃ r, loopN step N s = some r ∧ Q r
 | 0, s, h, hB => by have := (hs s h).1; omega
 | N + 1, s, h, hB => by
  unfold loopN
  rcases (hs s h).2 with ⟨s', h1, h2, h3⟩ | ⟨r, h1, h2⟩
  ·rw [h1]
   exact loop_grow I Q μ B hs N s' h2 (by omega)
  rw [h1]
  exact ⟨r, rfl, h2⟩
section
variable {N : Nat} {a : GAutomaton} (hN : 40000000 ≤ N) (ha : AOk a) (hb : bulkA a) (hl : ∀ x ∈ a.Edges, x.Checks.length < 1000000)
include hN ha hb hl
theorem edge_step {x : GEdge} (hx : x ∈ a.Edges) {ms : List (Option (List (Int × GNeed)))} {S : Nat → NF} (hS : StR ms S a.States.length) :
 ∃ f1 f2 ms1 ms2 S', registers_joinAt N ms x.From (registers_read N x.Cond x.Var) = some (f1, ms1) ∧ registers_joinAt N ms1 x.From (registers_behind N x ms1) = some (f2, ms2) ∧ StR ms2 S' a.States.length ∧ SLe S S' ∧ (∀ P, Suff a P → SLe S P → SLe S' P) ∧
  ((f1 = true ∨ f2 = true) ↔ ∃ i, i < a.States.length ∧ S i ≠ S' i) ∧ (S' = S → HoldsX x S) ∧ ((f1 = false ∧ f2 = false) → S' = S) := by
 have hfr := ha.fr x hx
 have hto := ha.to x hx
 obtain ⟨b1, b2⟩ := hb.2 x hx
 obtain ⟨m, r1, r2⟩ := read_eq hN x.Var b1 (ha.cd x hx)
 have rg := reads_ok (ha.cd x hx) x.Var
 obtain ⟨f1, ms1, j1, j2, j3⟩ := joinAt_eq (N := N) hS hfr.1 hfr.2 r2 rg.2
 obtain ⟨mb, q1, q2⟩ := behind_eq hN j2 (hl x hx) b2 (ha.ck x hx) hto.2
 have bg := behindF_good (S := upS S x.From.toNat (exprF x.Var x.Cond)) (ha.ck x hx) hto.2 j2.ok
 obtain ⟨f2, ms2, k1, k2, k3⟩ := joinAt_eq (N := N) j2 hfr.1 hfr.2 q2 (dropL_sup bg.2)
 let S1 := upS S x.From.toNat (exprF x.Var x.Cond)
 have l1 : SLe S S1 := upS_le _ _ _
 have l2 : SLe S1 (upS S1 x.From.toNat (dropL x.Var (behindF x S1))) := upS_le _ _ _
 have e1 : f1 = false → S1 = S := fun h => upS_eq.2 (Classical.byContradiction fun k => by
  have := j3.2 (join_ne.2 k)
  rw [h] at this; cases this)
 have e2 : f2 = false → upS S1 x.From.toNat (dropL x.Var (behindF x S1)) = S1 := fun h => upS_eq.2 (Classical.byContradiction fun k => by
  have := k3.2 (join_ne.2 k)
  rw [h] at this; cases this)
 have hi : x.From.toNat < a.States.length := by omega
 refine ⟨f1, f2, ms1, ms2, upS S1 x.From.toNat (dropL x.Var (behindF x S1)), by rw [r1]; exact j1, by rw [q1]; exact k1, k2, SLe.trans l1 l2, fun P hP hSP => ?_, ⟨fun h => ?_, fun ⟨i, h1, h2⟩ => ?_⟩, fun h => ?_, fun h => ?_⟩
 ·have h1 : SLe S1 P := upS_below hSP (hP.ed x hx).1
  exact upS_below h1 (NF.le_trans (dropL_mono (behindF_mono h1)) (hP.ed x hx).2)
 ·refine ⟨x.From.toNat, hi, fun e => ?_⟩
  have a1 : (S x.From.toNat).le (S1 x.From.toNat) := l1 _
  have a2 := l2 x.From.toNat
  rw [← e] at a2
  have e3 : S1 x.From.toNat = S x.From.toNat := NF.le_antisymm a2 a1
  rcases h with h | h
  ·have := j3.1 h
   apply this
   have : S1 x.From.toNat = (S x.From.toNat).join (exprF x.Var x.Cond) := by show upS _ _ _ _ = _; unfold upS; rw [if_pos rfl]
   rw [← this, e3]
  have h6 := k3.1 h
  apply h6
  have h5 : upS S1 x.From.toNat (dropL x.Var (behindF x S1)) x.From.toNat = (S1 x.From.toNat).join (dropL x.Var (behindF x S1)) := by unfold upS; rw [if_pos rfl]
  show (S1 x.From.toNat).join (dropL x.Var (behindF x S1)) = S1 x.From.toNat
  rw [← h5, ← e, e3]
 ·cases hf1 : f1 with
  | true => exact .inl rfl
  | false =>
   cases hf2 : f2 with
   | true => exact .inr rfl
   | false => exact absurd (by rw [e2 hf2, e1 hf1]) h2
 ·have h1 : S1 = S := SLe.antisymm (by rw [h] at l2; exact l2) l1
  refine ⟨upS_eq.1 h1, ?_⟩
  rw [h1] at h
  exact upS_eq.1 h
 rw [e2 h.2, e1 h.1]
theorem edges_round : ∀ (l : List GEdge), (∀ x ∈ l, x ∈ a.Edges) → ∀ {ms : List (Option (List (Int × GNeed)))} {S : Nat → NF} (ag : Bool), StR ms S a.States.length →
 ∃ ag' ms' S', rangeL (R := List (Option (List (Int × GNeed))) × Bool) (fun (s : List (Option (List (Int × GNeed))) × Bool) x => (registers_joinAt N s.1 x.From (registers_read N x.Cond x.Var)).bind fun a16 => (registers_joinAt N a16.2 x.From (registers_behind N x a16.2)).bind fun a17 => some (.inl (a17.2, Ar.or a17.1 (Ar.or a16.1 s.2)))) l (ms, ag) = some (.inl (ms', ag')) ∧ StR ms' S' a.States.length ∧ SLe S S' ∧ (∀ P, Suff a P → SLe S P → SLe S' P) ∧
  (ag' = true ↔ ag = true ∨ ∃ i, i < a.States.length ∧ S i ≠ S' i) ∧ (ag' = false → S' = S ∧ ∀ x ∈ l, HoldsX x S)
 | [], _, ms, S, ag, hS => ⟨ag, ms, S, rfl, hS, SLe.refl _, fun _ _ h => h, ⟨.inl, fun h => h.elim id fun ⟨_, _, k⟩ => absurd rfl k⟩, fun _ => ⟨rfl, fun x hx => by cases hx⟩⟩
 | x :: l, hx, ms, S, ag, hS => by
  obtain ⟨f1, f2, ms1, ms2, S1, a1, a2, a3, a4, a5, a6, a7, a8⟩ := edge_step hN ha hb hl (hx x (by simp)) hS
  obtain ⟨ag', ms', S', b1, b2, b3, b4, b5, b6⟩ := edges_round l (fun y hy => hx y (by simp [hy])) (Ar.or f2 (Ar.or f1 ag)) a3
  refine ⟨ag', ms', S', ?_, b2, SLe.trans a4 b3, fun P hP h => b4 P hP (a5 P hP h), ?_, fun h => ?_⟩
  ·unfold rangeL
   rw [a1]
   simp only [Option.bind_some]
   rw [a2]
   exact b1
  ·rw [b5, or_def, or_def, Bool.or_eq_true, Bool.or_eq_true]
   constructor
   ·rintro ((h | h | h) | ⟨i, h1, h2⟩)
    ·obtain ⟨i, h1, h2⟩ := a6.1 (.inr h)
     exact .inr ⟨i, h1, fun e => h2 (NF.le_antisymm (a4 i) (by rw [e]; exact b3 i))⟩
    ·obtain ⟨i, h1, h2⟩ := a6.1 (.inl h)
     exact .inr ⟨i, h1, fun e => h2 (NF.le_antisymm (a4 i) (by rw [e]; exact b3 i))⟩
    ·exact .inl h
    exact .inr ⟨i, h1, fun e => h2 (NF.le_antisymm (b3 i) (by rw [← e]; exact a4 i))⟩
   rintro (h | ⟨i, h1, h2⟩)
   ·exact .inl (.inr (.inr h))
   by_cases h3 : S i = S1 i
   ·exact .inr ⟨i, h1, by rw [← h3]; exact h2⟩
   rcases a6.2 ⟨i, h1, h3⟩ with h | h
   ·exact .inl (.inr (.inl h))
   exact .inl (.inl h)
  obtain ⟨h1, h2⟩ := b6 h
  have h3 : ¬ (Ar.or f2 (Ar.or f1 ag) = true) := fun k => by
   have := b5.2 (.inl k)
   rw [h] at this; cases this
  rw [or_def, or_def, Bool.or_eq_true, Bool.or_eq_true] at h3
  have h4 : S1 = S := a8 ⟨by cases f1 with | true => exact absurd (.inr (.inl rfl)) h3 | false => rfl, by cases f2 with | true => exact absurd (.inl rfl) h3 | false => rfl⟩
  subst h4
  refine ⟨h1, fun y hy => ?_⟩
  rcases List.mem_cons.1 hy with rfl | hy
  ·exact a7 rfl
  exact h2 y hy
end
end
end Go.Ab

namespace Go.Ab
noncomputable section
theorem range_each {α β R : Type} {P : Nat → β → Prop} {body : List β → α × Nat → Option (List β ⊕ R)} {n : Nat} : ∀ {l : List α} {k : Nat} {ms : List β}, k + l.length = n → ms.length = n → (∀ i b, i < k → ms[i]? = some b → P i b) →
 (∀ ms x i, (x, i) ∈ l.zipIdx k → ms.length = n → ∃ b, body ms (x, i) = some (.inl (ms.set i b)) ∧ P i b) → ∃ ms', rangeL body (l.zipIdx k) ms = some (.inl ms') ∧ ms'.length = n ∧ ∀ i b, i < n → ms'[i]? = some b → P i b
 | [], k, ms, hk, hm, h, _ => ⟨ms, rfl, hm, fun i b hi => h i b (by simp at hk; omega)⟩
 | x :: l, k, ms, hk, hm, h, hb => by
  obtain ⟨b, h1, h2⟩ := hb ms x k (by rw [List.zipIdx_cons]; simp) hm
  rw [List.zipIdx_cons]
  unfold rangeL
  rw [h1]
  refine range_each (n := n) (k := k + 1) (by rw [List.length_cons] at hk; omega) (by rw [List.length_set]; exact hm) (fun i c hi hc => ?_) (fun ms y i hy hl => hb ms y i (by rw [List.zipIdx_cons]; simp [hy]) hl)
  rw [List.getElem?_set] at hc
  by_cases e : k = i
  ·subst e
   rw [if_pos rfl, if_pos (by rw [List.length_cons] at hk; omega)] at hc
   cases hc; exact h2
  rw [if_neg e] at hc
  exact h i c (by omega) hc
theorem guards_good {l : List GGuard} (h : ∀ g ∈ l, exprCheck g.Cond = 0) : ∀ {f : NF}, f.ok → f.sup → (l.foldl (fun f g => f.join (exprF g.Var g.Cond)) f).ok ∧ (l.foldl (fun f g => f.join (exprF g.Var g.Cond)) f).sup := by
 induction l with
 | nil => exact fun a b => ⟨a, b⟩
 | cons c l ih =>
  intro f a b
  have := reads_ok (h c (by simp)) c.Var
  exact ih (fun c hc => h c (by simp [hc])) (NF.ok_join a this.1) (NF.sup_join b this.2)
section
variable {N : Nat} {a : GAutomaton} (hN : 40000000 ≤ N) (ha : AOk a) (hb : bulkA a) (hf : fewAll N a)
include hN ha hb hf
theorem few_checks : ∀ x ∈ a.Edges, x.Checks.length < 1000000 := fun x hx => by
 have := (few_ok hb hf).2.2.2 x hx
 exact this.2.2.1
theorem init_eq : ∃ ms, (loopN
 (fun (s3 : (List (Option (List (Int × GNeed)))) × Int) =>
  (
   if Ar.cmp .lss s3.2 (Ar.len a.States) = true then
    (idxL a.States s3.2).bind fun x5 =>
    (updL s3.1 s3.2 (fun _ => some [])).bind fun l6 =>
    (loopN
     (fun (s7 : (List (Option (List (Int × GNeed)))) × Int) =>
      (
       if Ar.cmp .lss s7.2 (Ar.len x5.Guards) = true then
        (idxL x5.Guards s7.2).bind fun x9 =>
        (registers_joinAt N s7.1 s3.2 (registers_read N x9.Cond x9.Var)).bind fun a10 =>
        some (.inl (a10.2, Ar.ar .add .i64 s7.2 1))
       else
        some (.inr s7.1)
       : Option (((List (Option (List (Int × GNeed)))) × Int) ⊕ (List (Option (List (Int × GNeed)))))))
     N (l6, 0)).bind fun l8 =>
    some (.inl (l8, Ar.ar .add .i64 s3.2 1))
   else
    some (.inr s3.1)
   : Option (((List (Option (List (Int × GNeed)))) × Int) ⊕ (List (Option (List (Int × GNeed)))))))
 N (List.replicate a.States.length none, 0)) = some ms ∧ StR ms (guardsS a) a.States.length := by
 have hn := hf.1
 rw [loop_idx a.States (by omega) (fun (s : List (Option (List (Int × GNeed)))) i => (s, i)) (fun s q => (updL s (q.2 : Int) (fun _ => some [])).bind fun l6 =>
  (loopN
   (fun (s7 : (List (Option (List (Int × GNeed)))) × Int) =>
    (
     if Ar.cmp .lss s7.2 (Ar.len q.1.Guards) = true then
      (idxL q.1.Guards s7.2).bind fun x9 =>
      (registers_joinAt N s7.1 (q.2 : Int) (registers_read N x9.Cond x9.Var)).bind fun a10 =>
      some (.inl (a10.2, Ar.ar .add .i64 s7.2 1))
     else
      some (.inr s7.1)
     : Option (((List (Option (List (Int × GNeed)))) × Int) ⊕ (List (Option (List (Int × GNeed)))))))
   N (l6, 0)).bind fun l8 => some (.inl l8)) (fun s => s) _ (by omega) ?_ ?_]
 ·obtain ⟨ms', h1, h2, h3⟩ := range_each (R := List (Option (List (Int × GNeed)))) (P := fun i (o : Option (List (Int × GNeed))) => ∃ m, o = some m ∧ MapR m (guardsS a i) ∧ (guardsS a i).sup) (n := a.States.length) (l := a.States) (k := 0) (ms := List.replicate a.States.length none) (body := fun s q => (updL s (q.2 : Int) (fun _ => some [])).bind fun l6 =>
          (loopN
           (fun (s7 : (List (Option (List (Int × GNeed)))) × Int) =>
            (
             if Ar.cmp .lss s7.2 (Ar.len q.1.Guards) = true then
              (idxL q.1.Guards s7.2).bind fun x9 =>
              (registers_joinAt N s7.1 (q.2 : Int) (registers_read N x9.Cond x9.Var)).bind fun a10 =>
              some (.inl (a10.2, Ar.ar .add .i64 s7.2 1))
             else
              some (.inr s7.1)
             : Option (((List (Option (List (Int × GNeed)))) × Int) ⊕ (List (Option (List (Int × GNeed)))))))
           N (l6, 0)).bind fun l8 => some (.inl l8)) (by omega) (by simp) (fun i b hi => absurd hi (by omega)) (fun ms s i hs hm => by
   have hsi := zipIdx_mem hs
   have hsm := List.mem_of_getElem? hsi
   have hi : i < a.States.length := by
    rcases Nat.lt_or_ge i a.States.length with h | h
    ·exact h
    rw [List.getElem?_eq_none h] at hsi; cases hsi
   have hg70 : s.Guards.length ≤ 70 := by
    have := hf.2.2.1 s hsm
    unfold fewS at this
    simp only [Bool.and_eq_true, decide_eq_true_eq] at this
    exact this.2.1
   have hu : updL ms (i : Int) (fun _ => some []) = some (ms.set i (some [])) := by
    unfold updL
    rw [idx_at, List.getElem?_eq_getElem (by omega)]
    simp
   dsimp only
   rw [hu]
   simp only [Option.bind_some]
   have key : ∀ (l : List GGuard) (m : List (Int × GNeed)) (f : NF), (∀ g ∈ l, g ∈ s.Guards) → MapR m f → ∃ m', rangeL (R := List (Option (List (Int × GNeed)))) (fun (t : List (Option (List (Int × GNeed)))) (g : GGuard) => (registers_joinAt N t (i : Int) (registers_read N g.Cond g.Var)).bind fun r => some (.inl r.2)) l (ms.set i (some m)) = some (.inl (ms.set i (some m'))) ∧ MapR m' (l.foldl (fun f g => f.join (exprF g.Var g.Cond)) f) := fun l => by
    induction l with
    | nil => intro m f _ hm; exact ⟨m, rfl, hm⟩
    | cons g l ih =>
     intro m f hl hm'
     have hgm := hl g (by simp)
     obtain ⟨r, r1, r2⟩ := read_eq hN g.Var (hb.1 s hsm g hgm) (ha.gd s hsm g hgm)
     obtain ⟨fr, m1, j1, j2, _⟩ := join_law (N := N) hm' r2
     obtain ⟨m', h1, h2⟩ := ih m1 _ (fun c h => hl c (by simp [h])) j2
     refine ⟨m', ?_, h2⟩
     unfold rangeL
     rw [r1]
     have hj : registers_joinAt N (ms.set i (some m)) (i : Int) (some r) = some (fr, ms.set i (some m1)) := by
      unfold registers_joinAt
      rw [idx_at, List.getElem?_set, if_pos rfl, if_pos (by omega)]
      simp only [Option.bind_some]
      rw [j1]
      simp
     rw [hj]
     exact h1
   obtain ⟨m', h1, h2⟩ := key s.Guards [] .zero (fun g h => h) .nil
   have e : guardsS a i = guardsF s.Guards := by unfold guardsS; rw [hsi]
   refine ⟨some m', ?_, m', rfl, by rw [e]; exact h2, by rw [e]; exact (guards_good (ha.gd s hsm) NF.ok_zero NF.sup_zero).2⟩
   rw [loop_list s.Guards (by omega) (fun (t : List (Option (List (Int × GNeed)))) j => (t, j)) (fun t g => (registers_joinAt N t (i : Int) (registers_read N g.Cond g.Var)).bind fun r => some (.inl r.2)) (fun t => t) _ (by omega) ?_ ?_]
   ·rw [h1]; rfl
   ·intro t j g hg hj
    try dsimp only
    rw [if_pos (lt_len hj), idx_at, hg]
    simp only [Option.bind_some]
    rw [add_i64 (by omega) (by omega)]
    cases registers_joinAt N t (i : Int) (registers_read N g.Cond g.Var) <;> rfl
   intro t
   try dsimp only
   rw [if_neg lt_end])
  rw [h1]
  refine ⟨ms', rfl, h2, fun i hi => ?_⟩
  have hx : ms'[i]? = some (ms'[i]'(by omega)) := List.getElem?_eq_getElem (by omega)
  obtain ⟨m, e1, e2, e3⟩ := h3 i _ hi hx
  rw [e1] at hx
  exact ⟨⟨m, hx, e2⟩, e3⟩
 ·intro s i x hx hi
  try dsimp only
  rw [if_pos (lt_len hi), idx_at, hx]
  simp only [Option.bind_some]
  rw [add_i64 (by omega) (by omega)]
  cases updL s (i : Int) (fun _ => some []) with
  | none => rfl
  | some l6 =>
   simp only [Option.bind_some]
   exact bind_next
 intro s
 try dsimp only
 rw [if_neg lt_end]
theorem round_eq (ms0 : List (Option (List (Int × GNeed)))) {ag' : Bool} {ms' : List (Option (List (Int × GNeed)))}
 (b1 : rangeL (R := List (Option (List (Int × GNeed))) × Bool) (fun (s : List (Option (List (Int × GNeed))) × Bool) x => (registers_joinAt N s.1 x.From (registers_read N x.Cond x.Var)).bind fun a16 => (registers_joinAt N a16.2 x.From (registers_behind N x a16.2)).bind fun a17 => some (.inl (a17.2, Ar.or a17.1 (Ar.or a16.1 s.2)))) a.Edges (ms0, false) = some (.inl (ms', ag'))) :
 (loopN
  (fun (s13 : (List (Option (List (Int × GNeed)))) × Bool × Int) =>
   (
    if Ar.cmp .lss s13.2.2 (Ar.len a.Edges) = true then
     (idxL a.Edges s13.2.2).bind fun x15 =>
     (registers_joinAt N s13.1 x15.From (registers_read N x15.Cond x15.Var)).bind fun a16 =>
     (registers_joinAt N a16.2 x15.From (registers_behind N x15 a16.2)).bind fun a17 =>
     some (.inl (a17.2, Ar.or a17.1 (Ar.or a16.1 s13.2.1), Ar.ar .add .i64 s13.2.2 1))
    else
     some (.inr (s13.1, s13.2.1))
    : Option (((List (Option (List (Int × GNeed)))) × Bool × Int) ⊕ ((List (Option (List (Int × GNeed)))) × Bool))))
  N (ms0, false, 0)) = some (ms', ag') := by
 have hm := hf.2.1
 rw [loop_list a.Edges (by omega) (fun (s : (List (Option (List (Int × GNeed)))) × Bool) i => (s.1, s.2, i)) (fun (s : List (Option (List (Int × GNeed))) × Bool) x => (registers_joinAt N s.1 x.From (registers_read N x.Cond x.Var)).bind fun a16 => (registers_joinAt N a16.2 x.From (registers_behind N x a16.2)).bind fun a17 => some (.inl (a17.2, Ar.or a17.1 (Ar.or a16.1 s.2)))) (fun s => s) (ms0, false) (by omega) ?_ ?_]
 ·rw [b1]; rfl
 ·intro s i x hx hi
  try dsimp only
  rw [if_pos (lt_len hi), idx_at, hx]
  simp only [Option.bind_some]
  rw [add_i64 (by omega) (by omega)]
  cases registers_joinAt N s.1 x.From (registers_read N x.Cond x.Var) with
  | none => rfl
  | some a16 =>
   simp only [Option.bind_some]
   cases registers_joinAt N a16.2 x.From (registers_behind N x a16.2) <;> rfl
 intro s
 try dsimp only
 rw [if_neg lt_end]
omit hN ha hb hf in
theorem StR.uniq {ms : List (Option (List (Int × GNeed)))} {S S' : Nat → NF} (h : StR ms S a.States.length) (h' : StR ms S' a.States.length) : ∀ i, i < a.States.length → S i = S' i := fun i hi => by
 obtain ⟨⟨m, e1, e2⟩, _⟩ := h.2 i hi
 obtain ⟨⟨m', e1', e2'⟩, _⟩ := h'.2 i hi
 rw [e1] at e1'
 cases e1'
 funext v
 have q1 := e2.at_ v
 have q2 := e2'.at_ v
 rw [q1] at q2
 by_cases z1 : S i v = (0, 0) <;> by_cases z2 : S' i v = (0, 0)
 ·rw [z1, z2]
 ·rw [if_pos z1, if_neg z2] at q2; cases q2
 ·rw [if_neg z1, if_pos z2] at q2; cases q2
 rw [if_neg z1, if_neg z2] at q2
 have q3 := Option.some.inj q2
 unfold need at q3
 simp only [GNeed.mk.injEq, true_and] at q3
 exact Prod.ext (Int.ofNat.inj q3.1) (Int.ofNat.inj q3.2)
open Classical in
def sizeM (ms : List (Option (List (Int × GNeed)))) (n : Nat) : Nat := if h : ∃ S, StR ms S n then sizeS (Classical.choose h) n else 0
omit hN ha hb hf in
theorem sizeM_eq {ms : List (Option (List (Int × GNeed)))} {S : Nat → NF} (h : StR ms S a.States.length) : sizeM ms a.States.length = sizeS S a.States.length := by
 unfold sizeM
 rw [dif_pos ⟨S, h⟩]
 have := StR.uniq (Classical.choose_spec (⟨S, h⟩ : ∃ S, StR ms S a.States.length)) h
 generalize Classical.choose (⟨S, h⟩ : ∃ S, StR ms S a.States.length) = S0 at this
 unfold sizeS
 exact congrArg List.sum (List.map_congr_left fun i hi => by rw [this i (List.mem_range.1 hi)])
def FixI (a : GAutomaton) (s : (List (Option (List (Int × GNeed)))) × Bool) : Prop := ∃ S, StR s.1 S a.States.length ∧ SLe (guardsS a) S ∧ (∀ P, Suff a P → SLe S P) ∧ (s.2 = false → Suff a S)
def FixQ (a : GAutomaton) (r : List (Option (List (Int × GNeed)))) : Prop := ∃ S, StR r S a.States.length ∧ Suff a S ∧ ∀ P, Suff a P → SLe S P
def fixMu (a : GAutomaton) (s : (List (Option (List (Int × GNeed)))) × Bool) : Nat := (if s.2 = true then 0 else 1) + 2 * sizeM s.1 a.States.length
def fixStep (N : Nat) (a : GAutomaton) (s11 : (List (Option (List (Int × GNeed)))) × Bool) : Option (((List (Option (List (Int × GNeed)))) × Bool) ⊕ (List (Option (List (Int × GNeed))))) :=
 if s11.2 = true then
  (loopN
   (fun (s13 : (List (Option (List (Int × GNeed)))) × Bool × Int) =>
    (
     if Ar.cmp .lss s13.2.2 (Ar.len a.Edges) = true then
      (idxL a.Edges s13.2.2).bind fun x15 =>
      (registers_joinAt N s13.1 x15.From (registers_read N x15.Cond x15.Var)).bind fun a16 =>
      (registers_joinAt N a16.2 x15.From (registers_behind N x15 a16.2)).bind fun a17 =>
      some (.inl (a17.2, Ar.or a17.1 (Ar.or a16.1 s13.2.1), Ar.ar .add .i64 s13.2.2 1))
     else
      some (.inr (s13.1, s13.2.1))
     : Option (((List (Option (List (Int × GNeed)))) × Bool × Int) ⊕ ((List (Option (List (Int × GNeed)))) × Bool))))
   N (s11.1, false, 0)).bind fun s14 =>
  some (.inl s14)
 else
  some (.inr s11.1)
theorem fix_step (s : (List (Option (List (Int × GNeed)))) × Bool) (hI : FixI a s) : fixMu a s ≤ 700000 ∧ ((∃ s', fixStep N a s = some (.inl s') ∧ FixI a s' ∧ fixMu a s < fixMu a s') ∨ ∃ r, fixStep N a s = some (.inr r) ∧ FixQ a r) := by
 have hl := few_checks hN ha hb hf
 have hn := hf.1
 obtain ⟨S, i1, i2, i3, i4⟩ := hI
 have hB := sizeS_bound (S := S) (n := a.States.length) fun i hi => (i1.ok i hi).1
 obtain ⟨ms0, ag⟩ := s
 have i1' : StR ms0 S a.States.length := i1
 have hmu : fixMu a (ms0, ag) = (if ag = true then 0 else 1) + 2 * sizeS S a.States.length := by unfold fixMu; rw [sizeM_eq i1']
 refine ⟨by rw [hmu]; split <;> omega, ?_⟩
 cases ag with
 | false => exact .inr ⟨ms0, rfl, S, i1, i4 rfl, i3⟩
 | true =>
  obtain ⟨ag', ms', S', b1, b2, b3, b4, b5, b6⟩ := edges_round hN ha hb hl a.Edges (fun x h => h) false i1'
  have hround := round_eq hN ha hb hf ms0 b1
  refine .inl ⟨(ms', ag'), ?_, ⟨S', b2, SLe.trans i2 b3, fun P hP => b4 P hP (i3 P hP), fun h => ?_⟩, ?_⟩
  ·unfold fixStep
   rw [if_pos rfl]
   show (loopN _ N (ms0, false, 0)).bind _ = _
   rw [hround]; rfl
  ·obtain ⟨e, hx⟩ := b6 h
   rw [e]
   exact ⟨i2, hx⟩
  have hmu' : fixMu a (ms', ag') = (if ag' = true then 0 else 1) + 2 * sizeS S' a.States.length := by unfold fixMu; rw [sizeM_eq b2]
  rw [hmu, hmu']
  have hle := sizeS_le (n := a.States.length) b3
  cases ag' with
  | false => simp only [if_true, Bool.false_eq_true, if_false]; omega
  | true =>
   have hne : ∃ i, i < a.States.length ∧ S i ≠ S' i := (b5.1 rfl).resolve_left (by decide)
   have := sizeS_lt b3 (fun i hi => (b2.2 i hi).2) hne
   simp only [if_true]; omega
theorem fix_eq {ms : List (Option (List (Int × GNeed)))} (hS : StR ms (guardsS a) a.States.length) : ∃ ms', loopN (fixStep N a) N (ms, true) = some ms' ∧ FixQ a ms' := by
 refine loop_grow (FixI a) (FixQ a) (fixMu a) 700000 (fix_step hN ha hb hf) N (ms, true) ⟨_, hS, SLe.refl _, fun P hP i => hP.gd i, fun h => by cases h⟩ ?_
 generalize fixMu a (ms, true) = q
 omega
theorem lists_run {S : Nat → NF} : ∀ (ms : List (Option (List (Int × GNeed)))) (k : Nat) (acc : List (List GNeed)), (∀ i o, ms[i]? = some o → ∃ m, o = some m ∧ MapR m (S (k + i)) ∧ (S (k + i)).sup) → acc.length + ms.length ≤ 1000 →
 rangeL (R := List (List GNeed)) (fun (s : List (List GNeed)) (o : Option (List (Int × GNeed))) => o.bind fun m => (registers_needs_list N m).bind fun l => (appL s [l]).bind fun t => some (.inl t)) ms acc = some (.inl (acc ++ (List.range' k ms.length).map fun i => canon (S i)))
 | [], k, acc, _, _ => by simp [rangeL]
 | o :: ms, k, acc, h, hl => by
  obtain ⟨m, e1, e2, e3⟩ := h 0 o rfl
  rw [Nat.add_zero] at e2 e3
  rw [List.length_cons] at hl
  unfold rangeL
  rw [e1]
  simp only [Option.bind_some]
  rw [list_law hN e2 e3]
  simp only [Option.bind_some]
  have ha : appL acc [canon (S k)] = some (acc ++ [canon (S k)]) := by unfold appL; rw [if_pos (by simp; omega)]
  rw [ha]
  simp only [Option.bind_some]
  rw [lists_run ms (k + 1) _ (fun i o' ho => by
   have := h (i + 1) o' (by simpa using ho)
   rw [show k + 1 + i = k + (i + 1) by omega]; exact this) (by simp; omega), List.length_cons, List.range'_succ]
  simp
theorem needs_eq : ∃ S, Suff a S ∧ (∀ P, Suff a P → SLe S P) ∧ (∀ i, i < a.States.length → (S i).ok ∧ (S i).sup) ∧ (autoBad a = 0 → registers_Needs N a = some ((List.range' 0 a.States.length).map fun i => canon (S i), 0)) := by
 have hn := hf.1
 obtain ⟨ms, h1, h2⟩ := init_eq hN ha hb hf
 obtain ⟨ms', h3, S, h4, h5, h6⟩ := fix_eq hN ha hb hf h2
 refine ⟨S, h5, h6, h4.ok, fun h0 => ?_⟩
 unfold registers_Needs
 have hmk : mkL (Ar.len a.States) (Ar.len a.States) (none : Option (List (Int × GNeed))) = some (List.replicate a.States.length none) := by
  unfold mkL
  rw [len_def, if_pos ⟨by omega, by omega, by omega⟩]
  simp
 rw [acheck_eq hN a (few_ok hb hf), hmk]
 simp only [Option.bind_some]
 rw [if_neg (by rw [cmp_neq, h0]; decide), h1]
 simp only [Option.bind_some]
 have h3' := h3
 unfold fixStep at h3'
 rw [h3']
 simp only [Option.bind_some]
 rw [loop_list ms' (by rw [h4.1]; omega) (fun (s : List (List GNeed)) i => (i, s)) (fun (s : List (List GNeed)) (o : Option (List (Int × GNeed))) => o.bind fun m => (registers_needs_list N m).bind fun l => (appL s [l]).bind fun t => some (.inl t)) (fun s => s) [] (by rw [h4.1]; omega) ?_ ?_]
 ·rw [lists_run hN ha hb hf (S := S) ms' 0 [] (fun i o ho => ?_) (by rw [h4.1]; simp; omega), h4.1]
  ·rfl
  have hi : i < a.States.length := by
   rcases Nat.lt_or_ge i ms'.length with h | h
   ·rw [h4.1] at h; exact h
   rw [List.getElem?_eq_none h] at ho; cases ho
  obtain ⟨⟨m, e1, e2⟩, e3⟩ := h4.2 i hi
  rw [e1] at ho
  rw [Nat.zero_add]
  exact ⟨m, (Option.some.inj ho).symm, e2, e3⟩
 ·intro s i o ho hi
  try dsimp only
  rw [if_pos (lt_len hi), idx_at, ho]
  simp only [Option.bind_some]
  rw [add_i64 (by omega) (by have := h4.1; omega)]
  cases o with
  | none => rfl
  | some m =>
   simp only [Option.bind_some]
   cases registers_needs_list N m with
   | none => rfl
   | some l => simp only [Option.bind_some]; cases appL s [l] <;> rfl
 intro s
 try dsimp only
 rw [if_neg lt_end]
end
end
end Go.Ab

