/- GSN3 GSV5 GSV6 -/
import Derived.Test.YtbjdkpckplopdaaGreatT45
import Derived.Test.YtbjdkpckplopdaaGreatT44
set_option linter.all false

namespace Go.Ab
noncomputable section
theorem range_each {α β R : Type} {P : Nat → β → Prop} {body : List β → α × Nat → Option (List β ⊕ R)} {n : Nat} : ∀ {l : List α} {k : Nat} {ms : List β}, k + l.length = n → ms.length = n → (∀ i b, i < k → ms[i]? = some b → P i b) →
 (∀ ms x i, (x, i) ∈ l.zipIdx k → ms.length = n → ∃ b, body ms (x, i) = some (.inl (ms.set i b)) ∧ P i b) → ∃ ms', rangeL body (l.zipIdx k) ms = some (.inl ms') ∧ ms'.length = n ∧ ∀ i b, i < n → ms'[i]? = some b → P i b
 | [], k, ms, hk, hm, h, _ => ⟨ms, rfl, hm, fun i b hi => h i b (by simp at hk; omega)⟩
 | x :: l, k, ms, hk, hm, h, hb => by
  obtain ⟨b, h1, h2⟩ := hb ms x k (by rw [List.zipIdx_cons]; simp) hm
  rw [List.zipIdx_cons]
  unfold rangeL
  rw [h1]
  refine range_each (n := n) (k := k + 1) (by rw [List.length_cons] at hk; omega) (by rw [List.length_set]; exact hm) (fun i c hi hc => ?_) (fun ms y i hy hl => hb ms y i (by rw [List.zipIdx_cons]; simp [hy]) hl)
  rw [List.getElem?_set] at hc
  by_cases e : k = i
  ·subst e
   rw [if_pos rfl, if_pos (by rw [List.length_cons] at hk; omega)] at hc
   cases hc; exact h2
  ·rw [if_neg e] at hc
   exact h i c (by omega) hc
theorem guards_good {l : List GGuard} (h : ∀ g ∈ l, exprCheck g.Cond = 0) : ∀ {f : NF}, f.ok → f.sup → (l.foldl (fun f g => f.join (exprF g.Var g.Cond)) f).ok ∧ (l.foldl (fun f g => f.join (exprF g.Var g.Cond)) f).sup := by
 induction l with
 | nil => exact fun a b => ⟨a, b⟩
 | cons c l ih =>
  intro f a b
  have := reads_ok (h c (by simp)) c.Var
  exact ih (fun c hc => h c (by simp [hc])) (NF.ok_join a this.1) (NF.sup_join b this.2)
section
variable {N : Nat} {a : GAutomaton} (hN : 40000000 ≤ N) (ha : AOk a) (hb : bulkA a) (hf : fewAll N a)
include hN ha hb hf
theorem few_checks : ∀ x ∈ a.Edges, x.Checks.length < 1000000 := fun x hx => by
 have := (few_ok hb hf).2.2.2 x hx
 exact this.2.2.1
theorem init_eq : ∃ ms, (loopN
 (fun (s3 : (List (Option (List (Int × GNeed)))) × Int) =>
  (
   if Ar.cmp .lss s3.2 (Ar.len a.States) = true then
    (idxL a.States s3.2).bind fun x5 =>
    (updL s3.1 s3.2 (fun _ => some [])).bind fun l6 =>
    (loopN
     (fun (s7 : (List (Option (List (Int × GNeed)))) × Int) =>
      (
       if Ar.cmp .lss s7.2 (Ar.len x5.Guards) = true then
        (idxL x5.Guards s7.2).bind fun x9 =>
        (registers_joinAt N s7.1 s3.2 (registers_read N x9.Cond x9.Var)).bind fun a10 =>
        some (.inl (a10.2, Ar.ar .add .i64 s7.2 1))
       else
        some (.inr s7.1)
       : Option (((List (Option (List (Int × GNeed)))) × Int) ⊕ (List (Option (List (Int × GNeed)))))))
     N (l6, 0)).bind fun l8 =>
    some (.inl (l8, Ar.ar .add .i64 s3.2 1))
   else
    some (.inr s3.1)
   : Option (((List (Option (List (Int × GNeed)))) × Int) ⊕ (List (Option (List (Int × GNeed)))))))
 N (List.replicate a.States.length none, 0)) = some ms ∧ StR ms (guardsS a) a.States.length := by
 have hn := hf.1
 rw [loop_idx a.States (by omega) (fun (s : List (Option (List (Int × GNeed)))) i => (s, i)) (fun s q => (updL s (q.2 : Int) (fun _ => some [])).bind fun l6 =>
  (loopN
   (fun (s7 : (List (Option (List (Int × GNeed)))) × Int) =>
    (
     if Ar.cmp .lss s7.2 (Ar.len q.1.Guards) = true then
      (idxL q.1.Guards s7.2).bind fun x9 =>
      (registers_joinAt N s7.1 (q.2 : Int) (registers_read N x9.Cond x9.Var)).bind fun a10 =>
      some (.inl (a10.2, Ar.ar .add .i64 s7.2 1))
     else
      some (.inr s7.1)
     : Option (((List (Option (List (Int × GNeed)))) × Int) ⊕ (List (Option (List (Int × GNeed)))))))
   N (l6, 0)).bind fun l8 => some (.inl l8)) (fun s => s) _ (by omega) ?_ ?_]
 ·obtain ⟨ms', h1, h2, h3⟩ := range_each (R := List (Option (List (Int × GNeed)))) (P := fun i (o : Option (List (Int × GNeed))) => ∃ m, o = some m ∧ MapR m (guardsS a i) ∧ (guardsS a i).sup) (n := a.States.length) (l := a.States) (k := 0) (ms := List.replicate a.States.length none) (body := fun s q => (updL s (q.2 : Int) (fun _ => some [])).bind fun l6 =>
          (loopN
           (fun (s7 : (List (Option (List (Int × GNeed)))) × Int) =>
            (
             if Ar.cmp .lss s7.2 (Ar.len q.1.Guards) = true then
              (idxL q.1.Guards s7.2).bind fun x9 =>
              (registers_joinAt N s7.1 (q.2 : Int) (registers_read N x9.Cond x9.Var)).bind fun a10 =>
              some (.inl (a10.2, Ar.ar .add .i64 s7.2 1))
             else
              some (.inr s7.1)
             : Option (((List (Option (List (Int × GNeed)))) × Int) ⊕ (List (Option (List (Int × GNeed)))))))
           N (l6, 0)).bind fun l8 => some (.inl l8)) (by omega) (by simp) (fun i b hi => absurd hi (by omega)) (fun ms s i hs hm => by
   have hsi := zipIdx_mem hs
   have hsm := List.mem_of_getElem? hsi
   have hi : i < a.States.length := by
    rcases Nat.lt_or_ge i a.States.length with h | h
    ·exact h
    ·rw [List.getElem?_eq_none h] at hsi; cases hsi
   have hg70 : s.Guards.length ≤ 70 := by
    have := hf.2.2.1 s hsm
    unfold fewS at this
    simp only [Bool.and_eq_true, decide_eq_true_eq] at this
    exact this.2.1
   have hu : updL ms (i : Int) (fun _ => some []) = some (ms.set i (some [])) := by
    unfold updL
    rw [idx_at, List.getElem?_eq_getElem (by omega)]
    simp
   dsimp only
   rw [hu]
   simp only [Option.bind_some]
   have key : ∀ (l : List GGuard) (m : List (Int × GNeed)) (f : NF), (∀ g ∈ l, g ∈ s.Guards) → MapR m f → ∃ m', rangeL (R := List (Option (List (Int × GNeed)))) (fun (t : List (Option (List (Int × GNeed)))) (g : GGuard) => (registers_joinAt N t (i : Int) (registers_read N g.Cond g.Var)).bind fun r => some (.inl r.2)) l (ms.set i (some m)) = some (.inl (ms.set i (some m'))) ∧ MapR m' (l.foldl (fun f g => f.join (exprF g.Var g.Cond)) f) := fun l => by
    induction l with
    | nil => intro m f _ hm; exact ⟨m, rfl, hm⟩
    | cons g l ih =>
     intro m f hl hm'
     have hgm := hl g (by simp)
     obtain ⟨r, r1, r2⟩ := read_eq hN g.Var (hb.1 s hsm g hgm) (ha.gd s hsm g hgm)
     obtain ⟨fr, m1, j1, j2, _⟩ := join_law (N := N) hm' r2
     obtain ⟨m', h1, h2⟩ := ih m1 _ (fun c h => hl c (by simp [h])) j2
     refine ⟨m', ?_, h2⟩
     unfold rangeL
     rw [r1]
     have hj : registers_joinAt N (ms.set i (some m)) (i : Int) (some r) = some (fr, ms.set i (some m1)) := by
      unfold registers_joinAt
      rw [idx_at, List.getElem?_set, if_pos rfl, if_pos (by omega)]
      simp only [Option.bind_some]
      rw [j1]
      simp
     rw [hj]
     exact h1
   obtain ⟨m', h1, h2⟩ := key s.Guards [] .zero (fun g h => h) .nil
   have e : guardsS a i = guardsF s.Guards := by unfold guardsS; rw [hsi]
   refine ⟨some m', ?_, m', rfl, by rw [e]; exact h2, by rw [e]; exact (guards_good (ha.gd s hsm) NF.ok_zero NF.sup_zero).2⟩
   rw [loop_list s.Guards (by omega) (fun (t : List (Option (List (Int × GNeed)))) j => (t, j)) (fun t g => (registers_joinAt N t (i : Int) (registers_read N g.Cond g.Var)).bind fun r => some (.inl r.2)) (fun t => t) _ (by omega) ?_ ?_]
   ·rw [h1]; rfl
   ·intro t j g hg hj
    try dsimp only
    rw [if_pos (lt_len hj), idx_at, hg]
    simp only [Option.bind_some]
    rw [add_i64 (by omega) (by omega)]
    cases registers_joinAt N t (i : Int) (registers_read N g.Cond g.Var) <;> rfl
   ·intro t
    try dsimp only
    rw [if_neg lt_end])
  rw [h1]
  refine ⟨ms', rfl, h2, fun i hi => ?_⟩
  have hx : ms'[i]? = some (ms'[i]'(by omega)) := List.getElem?_eq_getElem (by omega)
  obtain ⟨m, e1, e2, e3⟩ := h3 i _ hi hx
  rw [e1] at hx
  exact ⟨⟨m, hx, e2⟩, e3⟩
 ·intro s i x hx hi
  try dsimp only
  rw [if_pos (lt_len hi), idx_at, hx]
  simp only [Option.bind_some]
  rw [add_i64 (by omega) (by omega)]
  cases updL s (i : Int) (fun _ => some []) with
  | none => rfl
  | some l6 =>
   simp only [Option.bind_some]
   exact bind_next
 ·intro s
  try dsimp only
  rw [if_neg lt_end]
theorem round_eq (ms0 : List (Option (List (Int × GNeed)))) {ag' : Bool} {ms' : List (Option (List (Int × GNeed)))}
 (b1 : rangeL (R := List (Option (List (Int × GNeed))) × Bool) (fun (s : List (Option (List (Int × GNeed))) × Bool) x => (registers_joinAt N s.1 x.From (registers_read N x.Cond x.Var)).bind fun a16 => (registers_joinAt N a16.2 x.From (registers_behind N x a16.2)).bind fun a17 => some (.inl (a17.2, Ar.or a17.1 (Ar.or a16.1 s.2)))) a.Edges (ms0, false) = some (.inl (ms', ag'))) :
 (loopN
  (fun (s13 : (List (Option (List (Int × GNeed)))) × Bool × Int) =>
   (
    if Ar.cmp .lss s13.2.2 (Ar.len a.Edges) = true then
     (idxL a.Edges s13.2.2).bind fun x15 =>
     (registers_joinAt N s13.1 x15.From (registers_read N x15.Cond x15.Var)).bind fun a16 =>
     (registers_joinAt N a16.2 x15.From (registers_behind N x15 a16.2)).bind fun a17 =>
     some (.inl (a17.2, Ar.or a17.1 (Ar.or a16.1 s13.2.1), Ar.ar .add .i64 s13.2.2 1))
    else
     some (.inr (s13.1, s13.2.1))
    : Option (((List (Option (List (Int × GNeed)))) × Bool × Int) ⊕ ((List (Option (List (Int × GNeed)))) × Bool))))
  N (ms0, false, 0)) = some (ms', ag') := by
 have hm := hf.2.1
 rw [loop_list a.Edges (by omega) (fun (s : (List (Option (List (Int × GNeed)))) × Bool) i => (s.1, s.2, i)) (fun (s : List (Option (List (Int × GNeed))) × Bool) x => (registers_joinAt N s.1 x.From (registers_read N x.Cond x.Var)).bind fun a16 => (registers_joinAt N a16.2 x.From (registers_behind N x a16.2)).bind fun a17 => some (.inl (a17.2, Ar.or a17.1 (Ar.or a16.1 s.2)))) (fun s => s) (ms0, false) (by omega) ?_ ?_]
 ·rw [b1]; rfl
 ·intro s i x hx hi
  try dsimp only
  rw [if_pos (lt_len hi), idx_at, hx]
  simp only [Option.bind_some]
  rw [add_i64 (by omega) (by omega)]
  cases registers_joinAt N s.1 x.From (registers_read N x.Cond x.Var) with
  | none => rfl
  | some a16 =>
   simp only [Option.bind_some]
   cases registers_joinAt N a16.2 x.From (registers_behind N x a16.2) <;> rfl
 ·intro s
  try dsimp only
  rw [if_neg lt_end]
omit hN ha hb hf in
theorem StR.uniq {ms : List (Option (List (Int × GNeed)))} {S S' : Nat → NF} (h : StR ms S a.States.length) (h' : StR ms S' a.States.length) : ∀ i, i < a.States.length → S i = S' i := fun i hi => by
 obtain ⟨⟨m, e1, e2⟩, _⟩ := h.2 i hi
 obtain ⟨⟨m', e1', e2'⟩, _⟩ := h'.2 i hi
 rw [e1] at e1'
 cases e1'
 funext v
 have q1 := e2.at_ v
 have q2 := e2'.at_ v
 rw [q1] at q2
 by_cases z1 : S i v = (0, 0) <;> by_cases z2 : S' i v = (0, 0)
 ·rw [z1, z2]
 ·rw [if_pos z1, if_neg z2] at q2; cases q2
 ·rw [if_neg z1, if_pos z2] at q2; cases q2
 ·rw [if_neg z1, if_neg z2] at q2
  have q3 := Option.some.inj q2
  unfold need at q3
  simp only [GNeed.mk.injEq, true_and] at q3
  exact Prod.ext (Int.ofNat.inj q3.1) (Int.ofNat.inj q3.2)
open Classical in
def sizeM (ms : List (Option (List (Int × GNeed)))) (n : Nat) : Nat := if h : ∃ S, StR ms S n then sizeS (Classical.choose h) n else 0
omit hN ha hb hf in
theorem sizeM_eq {ms : List (Option (List (Int × GNeed)))} {S : Nat → NF} (h : StR ms S a.States.length) : sizeM ms a.States.length = sizeS S a.States.length := by
 unfold sizeM
 rw [dif_pos ⟨S, h⟩]
 have := StR.uniq (Classical.choose_spec (⟨S, h⟩ : ∃ S, StR ms S a.States.length)) h
 generalize Classical.choose (⟨S, h⟩ : ∃ S, StR ms S a.States.length) = S0 at this
 unfold sizeS
 exact congrArg List.sum (List.map_congr_left fun i hi => by rw [this i (List.mem_range.1 hi)])
def FixI (a : GAutomaton) (s : (List (Option (List (Int × GNeed)))) × Bool) : Prop := ∃ S, StR s.1 S a.States.length ∧ SLe (guardsS a) S ∧ (∀ P, Suff a P → SLe S P) ∧ (s.2 = false → Suff a S)
def FixQ (a : GAutomaton) (r : List (Option (List (Int × GNeed)))) : Prop := ∃ S, StR r S a.States.length ∧ Suff a S ∧ ∀ P, Suff a P → SLe S P
def fixMu (a : GAutomaton) (s : (List (Option (List (Int × GNeed)))) × Bool) : Nat := (if s.2 = true then 0 else 1) + 2 * sizeM s.1 a.States.length
def fixStep (N : Nat) (a : GAutomaton) (s11 : (List (Option (List (Int × GNeed)))) × Bool) : Option (((List (Option (List (Int × GNeed)))) × Bool) ⊕ (List (Option (List (Int × GNeed))))) :=
 if s11.2 = true then
  (loopN
   (fun (s13 : (List (Option (List (Int × GNeed)))) × Bool × Int) =>
    (
     if Ar.cmp .lss s13.2.2 (Ar.len a.Edges) = true then
      (idxL a.Edges s13.2.2).bind fun x15 =>
      (registers_joinAt N s13.1 x15.From (registers_read N x15.Cond x15.Var)).bind fun a16 =>
      (registers_joinAt N a16.2 x15.From (registers_behind N x15 a16.2)).bind fun a17 =>
      some (.inl (a17.2, Ar.or a17.1 (Ar.or a16.1 s13.2.1), Ar.ar .add .i64 s13.2.2 1))
     else
      some (.inr (s13.1, s13.2.1))
     : Option (((List (Option (List (Int × GNeed)))) × Bool × Int) ⊕ ((List (Option (List (Int × GNeed)))) × Bool))))
   N (s11.1, false, 0)).bind fun s14 =>
  some (.inl s14)
 else
  some (.inr s11.1)
theorem fix_step (s : (List (Option (List (Int × GNeed)))) × Bool) (hI : FixI a s) : fixMu a s ≤ 700000 ∧ ((∃ s', fixStep N a s = some (.inl s') ∧ FixI a s' ∧ fixMu a s < fixMu a s') ∨ ∃ r, fixStep N a s = some (.inr r) ∧ FixQ a r) := by
 have hl := few_checks hN ha hb hf
 have hn := hf.1
 obtain ⟨S, i1, i2, i3, i4⟩ := hI
 have hB := sizeS_bound (S := S) (n := a.States.length) fun i hi => (i1.ok i hi).1
 obtain ⟨ms0, ag⟩ := s
 have i1' : StR ms0 S a.States.length := i1
 have hmu : fixMu a (ms0, ag) = (if ag = true then 0 else 1) + 2 * sizeS S a.States.length := by unfold fixMu; rw [sizeM_eq i1']
 refine ⟨by rw [hmu]; split <;> omega, ?_⟩
 cases ag with
 | false => exact .inr ⟨ms0, rfl, S, i1, i4 rfl, i3⟩
 | true =>
  obtain ⟨ag', ms', S', b1, b2, b3, b4, b5, b6⟩ := edges_round hN ha hb hl a.Edges (fun x h => h) false i1'
  have hround := round_eq hN ha hb hf ms0 b1
  refine .inl ⟨(ms', ag'), ?_, ⟨S', b2, SLe.trans i2 b3, fun P hP => b4 P hP (i3 P hP), fun h => ?_⟩, ?_⟩
  ·unfold fixStep
   rw [if_pos rfl]
   show (loopN _ N (ms0, false, 0)).bind _ = _
   rw [hround]; rfl
  ·obtain ⟨e, hx⟩ := b6 h
   rw [e]
   exact ⟨i2, hx⟩
  ·have hmu' : fixMu a (ms', ag') = (if ag' = true then 0 else 1) + 2 * sizeS S' a.States.length := by unfold fixMu; rw [sizeM_eq b2]
   rw [hmu, hmu']
   have hle := sizeS_le (n := a.States.length) b3
   cases ag' with
   | false => simp only [if_true, Bool.false_eq_true, if_false]; omega
   | true =>
    have hne : ∃ i, i < a.States.length ∧ S i ≠ S' i := (b5.1 rfl).resolve_left (by decide)
    have := sizeS_lt b3 (fun i hi => (b2.2 i hi).2) hne
    simp only [if_true]; omega
theorem fix_eq {ms : List (Option (List (Int × GNeed)))} (hS : StR ms (guardsS a) a.States.length) : ∃ ms', loopN (fixStep N a) N (ms, true) = some ms' ∧ FixQ a ms' := by
 refine loop_grow (FixI a) (FixQ a) (fixMu a) 700000 (fix_step hN ha hb hf) N (ms, true) ⟨_, hS, SLe.refl _, fun P hP i => hP.gd i, fun h => by cases h⟩ ?_
 generalize fixMu a (ms, true) = q
 omega
theorem lists_run {S : Nat → NF} : ∀ (ms : List (Option (List (Int × GNeed)))) (k : Nat) (acc : List (List GNeed)), (∀ i o, ms[i]? = some o → ∃ m, o = some m ∧ MapR m (S (k + i)) ∧ (S (k + i)).sup) → acc.length + ms.length ≤ 1000 →
 rangeL (R := List (List GNeed)) (fun (s : List (List GNeed)) (o : Option (List (Int × GNeed))) => o.bind fun m => (registers_needs_list N m).bind fun l => (appL s [l]).bind fun t => some (.inl t)) ms acc = some (.inl (acc ++ (List.range' k ms.length).map fun i => canon (S i)))
 | [], k, acc, _, _ => by simp [rangeL]
 | o :: ms, k, acc, h, hl => by
  obtain ⟨m, e1, e2, e3⟩ := h 0 o rfl
  rw [Nat.add_zero] at e2 e3
  rw [List.length_cons] at hl
  unfold rangeL
  rw [e1]
  simp only [Option.bind_some]
  rw [list_law hN e2 e3]
  simp only [Option.bind_some]
  have ha : appL acc [canon (S k)] = some (acc ++ [canon (S k)]) := by unfold appL; rw [if_pos (by simp; omega)]
  rw [ha]
  simp only [Option.bind_some]
  rw [lists_run ms (k + 1) _ (fun i o' ho => by
   have := h (i + 1) o' (by simpa using ho)
   rw [show k + 1 + i = k + (i + 1) by omega]; exact this) (by simp; omega), List.length_cons, List.range'_succ]
  simp
theorem needs_eq : ∃ S, Suff a S ∧ (∀ P, Suff a P → SLe S P) ∧ (∀ i, i < a.States.length → (S i).ok ∧ (S i).sup) ∧ (autoBad a = 0 → registers_Needs N a = some ((List.range' 0 a.States.length).map fun i => canon (S i), 0)) := by
 have hn := hf.1
 obtain ⟨ms, h1, h2⟩ := init_eq hN ha hb hf
 obtain ⟨ms', h3, S, h4, h5, h6⟩ := fix_eq hN ha hb hf h2
 refine ⟨S, h5, h6, h4.ok, fun h0 => ?_⟩
 unfold registers_Needs
 have hmk : mkL (Ar.len a.States) (Ar.len a.States) (none : Option (List (Int × GNeed))) = some (List.replicate a.States.length none) := by
  unfold mkL
  rw [len_def, if_pos ⟨by omega, by omega, by omega⟩]
  simp
 rw [acheck_eq hN a (few_ok hb hf), hmk]
 simp only [Option.bind_some]
 rw [if_neg (by rw [cmp_neq, h0]; decide), h1]
 simp only [Option.bind_some]
 have h3' := h3
 unfold fixStep at h3'
 rw [h3']
 simp only [Option.bind_some]
 rw [loop_list ms' (by rw [h4.1]; omega) (fun (s : List (List GNeed)) i => (i, s)) (fun (s : List (List GNeed)) (o : Option (List (Int × GNeed))) => o.bind fun m => (registers_needs_list N m).bind fun l => (appL s [l]).bind fun t => some (.inl t)) (fun s => s) [] (by rw [h4.1]; omega) ?_ ?_]
 ·rw [lists_run hN ha hb hf (S := S) ms' 0 [] (fun i o ho => ?_) (by rw [h4.1]; simp; omega), h4.1]
  ·rfl
  ·have hi : i < a.States.length := by
    rcases Nat.lt_or_ge i ms'.length with h | h
    ·rw [h4.1] at h; exact h
    ·rw [List.getElem?_eq_none h] at ho; cases ho
   obtain ⟨⟨m, e1, e2⟩, e3⟩ := h4.2 i hi
   rw [e1] at ho
   rw [Nat.zero_add]
   exact ⟨m, (Option.some.inj ho).symm, e2, e3⟩
 ·intro s i o ho hi
  try dsimp only
  rw [if_pos (lt_len hi), idx_at, ho]
  simp only [Option.bind_some]
  rw [add_i64 (by omega) (by have := h4.1; omega)]
  cases o with
  | none => rfl
  | some m =>
   simp only [Option.bind_some]
   cases registers_needs_list N m with
   | none => rfl
   | some l => simp only [Option.bind_some]; cases appL s [l] <;> rfl
 ·intro s
  try dsimp only
  rw [if_neg lt_end]
end
end
end Go.Ab

namespace Go.Ab
noncomputable section
open Classical
def truthA (env : GEnv) (own : Int) (ev : GEvent) (x : GExpr) : Bool := decide ((evalA env own ev x).2 = 0) && decide ((evalA env own ev x).1 = ⟨1, 1, ⟨#[]⟩⟩)
theorem truth_eq {N : Nat} (hN : 40000000 ≤ N) {env : GEnv} (he : rowsE env) (own : Int) (ev : GEvent) {x : GExpr} (hb : x.bulk ≤ 16777216) : expr_Truth N x env own ev = some (truthA env own ev x) := by
 unfold expr_Truth truthA
 rw [eval_eq hN he own ev hb]
 simp only [Option.bind_some]
 rw [cmp_eql]
 by_cases h : (evalA env own ev x).2 = 0
 ·rw [if_pos (decide_eq_true h), flag_eq]
  simp only [Option.bind_some, decide_eq_true h, Bool.true_and]
  rw [val_eq]
  exact congrArg some (decide_eq_decide.2 Iff.rfl)
 ·rw [if_neg (by simpa using h), decide_eq_false h]; rfl
def addP (env : GEnv) (v : Nat) (e : GEvent) : GEnv := ⟨env.Vars.set v (env.Vars.getD v [] ++ [e])⟩
theorem added_eq {N : Nat} (hN : 40000000 ≤ N) {env : GEnv} (hl : env.Vars.length < 1000) (hr : ∀ l ∈ env.Vars, l.length < 1000) {v : Int} (h0 : 0 ≤ v) (hv : v < env.Vars.length) (e : GEvent) : law26_added N env v e = some (addP env v.toNat e) := by
 obtain ⟨i, rfl⟩ := Int.eq_ofNat_of_zero_le h0
 have hi : i < env.Vars.length := by omega
 unfold law26_added
 rw [appL_eq (by simp; omega)]
 simp only [Option.bind_some, List.nil_append]
 obtain ⟨M, rfl⟩ : ∃ M, N = M + 1 := ⟨N - 1, by omega⟩
 simp only [loopN]
 rw [if_neg (by rw [cmp_leq, len_def]; simp; omega)]
 simp only [Option.bind_some]
 have hx : env.Vars[i]? = some env.Vars[i] := List.getElem?_eq_getElem hi
 have hrow := hr _ (List.getElem_mem hi)
 have hin : req (inR env.Vars (i : Int)) = some () := if_pos (by unfold inR; simp; omega)
 rw [hin, idx_at, hx]
 simp only [Option.bind_some]
 rw [appL_eq (by simp; omega)]
 simp only [Option.bind_some, List.nil_append]
 rw [appL_eq (by simp; omega)]
 simp only [Option.bind_some]
 have hu : updL env.Vars (i : Int) (fun _ => env.Vars[i] ++ [e]) = some (env.Vars.set i (env.Vars[i] ++ [e])) := by
  unfold updL
  rw [idx_at, hx]; simp
 rw [hu]
 simp only [Option.bind_some, addP, Int.toNat_natCast]
 rw [List.getD_eq_getElem?_getD, hx]; rfl
theorem row_snoc {p : Nat × Nat} (h : p.2 ≠ 0) (l : List GEvent) (e : GEvent) : keptRow p (l ++ [e]) = l.map (keepE p.2 false) ++ [keepE (p.2 ||| p.1) (timeB p.1) e] := by
 rw [row_all h, List.zipIdx_append, List.map_append]
 congr 1
 ·have e1 : (l.map fun x => keepE p.2 false x) = l.zipIdx.map fun q => keepE p.2 false q.1 := by
   apply List.ext_getElem? ; intro i
   simp only [List.getElem?_map, List.getElem?_zipIdx]
   cases l[i]? <;> rfl
  show _ = (l.map fun x => keepE p.2 false x)
  rw [e1]
  apply List.map_congr_left
  intro q hq
  have := (List.mem_zipIdx hq).2.1
  rw [if_neg (by simp; omega)]
 ·simp
theorem row_more {p q : Nat × Nat} (p2 : p.2 < 512) (q1 : q.1 < 512) (q2 : q.2 < 512) (h : p.2 ||| q.2 = q.2) (l : List GEvent) (e : GEvent) : keptRow p (keptRow q l ++ [e]) = keptRow p (l ++ [e]) := by
 by_cases hp : p.2 = 0
 ·by_cases h0 : p = (0, 0)
  ·unfold keptRow; rw [if_pos h0, if_pos h0]
  ·rw [row_last h0 hp, row_last h0 hp]
 ·have hq : q.2 ≠ 0 := by intro e; rw [e] at h; simp at h; exact hp h
  rw [row_snoc hp, row_snoc hp, row_all hq]
  congr 1
  rw [List.map_map]
  apply List.ext_getElem? ; intro i
  simp only [List.getElem?_map, List.getElem?_zipIdx]
  cases hl : l[i]? with
  | none => rfl
  | some x =>
   simp only [Option.map_some, Function.comp, Option.some.injEq]
   split
   ·exact keepE_keepE p2 (or_lt q2 q1) (by rw [← Nat.or_assoc, h]) (by simp) x
   ·exact keepE_keepE p2 q2 h (by simp) x
theorem kept_get {f : NF} {env : GEnv} {i : Nat} (hi : i < env.Vars.length) : (keptP f env).Vars[i]? = some (keptRow (f (i : Int)) env.Vars[i]) := by
 simp only [keptP, List.getElem?_map, List.getElem?_zipIdx, List.getElem?_eq_getElem hi, Option.map_some, Nat.zero_add]
theorem kept_len (f : NF) (env : GEnv) : (keptP f env).Vars.length = env.Vars.length := by simp [keptP]
theorem kept_more {B h : NF} (bo : B.ok) (ho : h.ok) {v : Nat} (hd : (dropL (v : Int) B).le h) (full : GEnv) (hv : v < full.Vars.length) (e : GEvent) : keptP B (addP (keptP h full) v e) = keptP B (addP full v e) := by
 have hat : ∀ w, bor (dropL (v : Int) B w) (h w) = h w := fun w => congrFun hd w
 have e1 : (keptP B (addP (keptP h full) v e)).Vars = (keptP B (addP full v e)).Vars := by
  apply List.ext_getElem? ; intro i
  by_cases hi : i < full.Vars.length
  ·have hi1 : i < (addP full v e).Vars.length := by simpa [addP] using hi
   have hi2 : i < (addP (keptP h full) v e).Vars.length := by simpa [addP, kept_len] using hi
   rw [kept_get hi1, kept_get hi2]
   congr 1
   have hb := hat (i : Int)
   by_cases hiv : i = v
   ·subst hiv
    have g1 : (addP full i e).Vars[i] = full.Vars[i] ++ [e] := by
     simp only [addP, List.getElem_set_self, List.getD_eq_getElem?_getD, List.getElem?_eq_getElem hi, Option.getD_some]
    have g2 : (addP (keptP h full) i e).Vars[i] = keptRow (h (i : Int)) full.Vars[i] ++ [e] := by
     simp only [addP, List.getElem_set_self, List.getD_eq_getElem?_getD, kept_get hi, Option.getD_some]
    rw [g1, g2]
    have hb2 : (B (i : Int)).2 ||| (h (i : Int)).2 = (h (i : Int)).2 := by
     have := congrArg Prod.snd hb
     simpa [bor, dropL] using this
    exact row_more (bo _).2 (ho _).1 (ho _).2 hb2 _ e
   ·have g1 : (addP full v e).Vars[i] = full.Vars[i] := by
     simp only [addP]; rw [List.getElem_set_ne (fun e => hiv e.symm)]
    have g2 : (addP (keptP h full) v e).Vars[i] = keptRow (h (i : Int)) full.Vars[i] := by
     simp only [addP]
     rw [List.getElem_set_ne (fun e => hiv e.symm)]
     have := kept_get (f := h) hi
     rw [List.getElem?_eq_getElem (by rw [kept_len]; exact hi)] at this
     exact Option.some.inj this
    rw [g1, g2]
    have hb2 : bor (B (i : Int)) (h (i : Int)) = h (i : Int) := by
     unfold dropL at hb
     rwa [if_neg (by omega)] at hb
    exact keptRow_keptRow (bo _).1 (bo _).2 (ho _).1 (ho _).2 hb2 _
  ·rw [List.getElem?_eq_none (by simp [kept_len, addP]; omega), List.getElem?_eq_none (by simp [kept_len, addP]; omega)]
 cases h1 : keptP B (addP (keptP h full) v e)
 cases h2 : keptP B (addP full v e)
 rw [h1, h2] at e1
 simp only at e1
 rw [e1]
theorem few_add {env : GEnv} (h : fewE12 env = true) {v : Nat} {e : GEvent} (he : e.Values.length ≤ 10) : fewE (addP env v e) = true := by
 unfold fewE12 at h
 rw [Bool.and_eq_true, decide_eq_true_eq, List.all_eq_true] at h
 unfold fewE
 rw [Bool.and_eq_true, decide_eq_true_eq, List.all_eq_true]
 refine ⟨by simpa [addP] using h.1, fun l hl => ?_⟩
 have hrow : ∀ l ∈ env.Vars, l.length ≤ 12 ∧ ∀ e ∈ l, e.Values.length ≤ 10 := fun l hl => by
  have := h.2 l hl
  unfold fewRow12 at this
  rw [Bool.and_eq_true, decide_eq_true_eq, List.all_eq_true] at this
  exact ⟨this.1, fun e he => of_decide_eq_true (this.2 e he)⟩
 unfold fewRow
 rw [Bool.and_eq_true, decide_eq_true_eq, List.all_eq_true]
 simp only [addP] at hl
 rcases List.mem_or_eq_of_mem_set hl with hl | rfl
 ·have := hrow l hl
  exact ⟨by omega, fun e he => decide_eq_true (this.2 e he)⟩
 ·have hd : (env.Vars.getD v []).length ≤ 12 ∧ ∀ e ∈ env.Vars.getD v [], e.Values.length ≤ 10 := by
   rcases Nat.lt_or_ge v env.Vars.length with hv | hv
   ·rw [List.getD_eq_getElem?_getD, List.getElem?_eq_getElem hv]; exact hrow _ (List.getElem_mem hv)
   ·rw [List.getD_eq_getElem?_getD, List.getElem?_eq_none hv]; exact ⟨by simp, by simp⟩
  refine ⟨by rw [List.length_append, List.length_singleton]; omega, fun x hx => ?_⟩
  rcases List.mem_append.1 hx with hx | hx
  ·exact decide_eq_true (hd.2 x hx)
  ·rw [List.mem_singleton.1 hx]; exact decide_eq_true he
theorem kept_few12 {f : NF} {e : GEnv} (h : fewE12 e = true) : fewE12 (keptP f e) = true := by
 have h1 := kept_few (f := f) (few_less h)
 obtain ⟨q1, q2⟩ := fewE_row h1
 unfold fewE12 at h ⊢
 rw [Bool.and_eq_true, decide_eq_true_eq, List.all_eq_true] at h ⊢
 refine ⟨q1, fun r hr => ?_⟩
 have hm := q2 r hr
 unfold keptP at hr
 obtain ⟨⟨l, i⟩, hl, rfl⟩ := List.mem_map.1 hr
 have := h.2 l (List.mem_of_getElem? (zipIdx_mem hl))
 unfold fewRow12 at this ⊢
 rw [Bool.and_eq_true, decide_eq_true_eq, List.all_eq_true] at this ⊢
 have hk := keptRow_len (p := f (i : Int)) (l := l)
 exact ⟨by dsimp only at hk ⊢; omega, fun e he => decide_eq_true (hm.2 e he)⟩
end
end Go.Ab

namespace Go.Ab
noncomputable section
open Classical
theorem loop_go {α B : Type} {N : Nat} (hN : 40000000 ≤ N) (l : List α) (hl : l.length < 1000000) {step : Int → Option (Int ⊕ (Unit ⊕ B))} (hstep : ∀ (i : Nat) x, l[i]? = some x → (i : Int) < l.length → step i = some (.inl ((i : Int) + 1))) (hend : step l.length = some (.inr (.inl ()))) : loopN step N 0 = some (.inl ()) := by
 rw [loop_list l (by omega) (mk := fun (_ : Unit) i => i) (body := fun _ _ => some (.inl ())) (fin := fun _ => .inl ()) (s := ()) (by omega) (fun s i x hx hi => by rw [hstep i x hx hi]; rfl) (fun s => hend)]
 obtain ⟨s', k1, _⟩ := range_run (R := Unit ⊕ B) (step := fun (_ : Unit) (_ : α) => some (.inl ())) (fun _ _ => True) (fun x r s _ => ⟨(), rfl, trivial⟩) (l := l) (s := ()) trivial
 rw [k1]; rfl
def padP (env : GEnv) (n : Nat) : GEnv := ⟨env.Vars ++ List.replicate (n - env.Vars.length) []⟩
theorem pad_eq {v : Int} (hv : v ≤ 16) : ∀ (k : Nat) (N : Nat) (env : GEnv), v.toNat - env.Vars.length ≤ k → k < N → env.Vars.length ≤ 20 →
 (loopN (fun (s8 : GEnv) => (if Ar.cmp .lss (Ar.len s8.Vars) v = true then
  (appL ([]) s8.Vars).bind fun l11 =>
  (appL l11 ([[]])).bind fun l13 =>
  some (.inl (⟨l13⟩ : GEnv))
  else some (.inr s8) : Option ((GEnv) ⊕ (GEnv)))) N env) = some (padP env v.toNat) := by
 intro k
 induction k with
 | zero =>
  intro N env h hN hl
  obtain ⟨M, rfl⟩ : ∃ M, N = M + 1 := ⟨N - 1, by omega⟩
  simp only [loopN]
  rw [if_neg (by rw [cmp_lss, len_def]; simp; omega)]
  have e : v.toNat - env.Vars.length = 0 := by omega
  simp [padP, e]
 | succ k ih =>
  intro N env h hN hl
  obtain ⟨M, rfl⟩ : ∃ M, N = M + 1 := ⟨N - 1, by omega⟩
  simp only [loopN]
  by_cases hlt : (env.Vars.length : Int) < v
  ·rw [if_pos (by rw [cmp_lss, len_def]; exact decide_eq_true hlt), appL_eq (by simp; omega)]
   simp only [Option.bind_some, List.nil_append]
   rw [appL_eq (by simp; omega)]
   simp only [Option.bind_some]
   rw [ih M ⟨env.Vars ++ [[]]⟩ (by simp; omega) (by omega) (by simp; omega)]
   unfold padP
   have e : v.toNat - env.Vars.length = (v.toNat - (env.Vars ++ [[]]).length) + 1 := by simp; omega
   rw [e, List.replicate_succ]
   simp
  ·rw [if_neg (by rw [cmp_lss, len_def]; simpa using hlt)]
   have e : v.toNat - env.Vars.length = 0 := by omega
   simp [padP, e]
theorem pad_few {env : GEnv} (h : fewE12 env = true) {n : Nat} (hn : n ≤ 16) : fewE12 (padP env n) = true ∧ n ≤ (padP env n).Vars.length := by
 unfold fewE12 at h ⊢
 rw [Bool.and_eq_true, decide_eq_true_eq, List.all_eq_true] at h
 refine ⟨?_, by simp [padP]; omega⟩
 rw [Bool.and_eq_true, decide_eq_true_eq, List.all_eq_true]
 refine ⟨by simp [padP]; omega, fun l hl => ?_⟩
 simp only [padP] at hl
 rcases List.mem_append.1 hl with hl | hl
 ·exact h.2 l hl
 ·rw [List.eq_of_mem_replicate hl]; rfl
theorem few12_row {env : GEnv} (h : fewE12 env = true) : env.Vars.length < 1000 ∧ ∀ l ∈ env.Vars, l.length < 1000 := by
 obtain ⟨h1, h2⟩ := fewE_row (few_less h)
 exact ⟨by omega, fun l hl => by have := (h2 l hl).1; omega⟩
theorem guard_le {l : List GGuard} {g : GGuard} (hg : g ∈ l) : (exprF g.Var g.Cond).le (guardsF l) := by
 have key : ∀ (l : List GGuard) (f : NF), f.le (l.foldl (fun f g => f.join (exprF g.Var g.Cond)) f) ∧ ∀ g ∈ l, (exprF g.Var g.Cond).le (l.foldl (fun f g => f.join (exprF g.Var g.Cond)) f) := by
  intro l
  induction l with
  | nil => intro f; exact ⟨NF.le_refl f, fun g hg => by cases hg⟩
  | cons x l ih =>
   intro f
   obtain ⟨h1, h2⟩ := ih (f.join (exprF x.Var x.Cond))
   refine ⟨NF.le_trans (NF.le_join_left _ _) h1, fun g hg => ?_⟩
   rcases List.mem_cons.1 hg with rfl | hg
   ·exact NF.le_trans (NF.le_join_right _ _) h1
   ·exact h2 g hg
 exact (key l .zero).2 g hg
theorem check_le {l : List GExpr} {c : GExpr} (hc : c ∈ l) : (exprF (-1) c).le (readsF l) := by
 have key : ∀ (l : List GExpr) (f : NF), f.le (l.foldl (fun f c => f.join (exprF (-1) c)) f) ∧ ∀ g ∈ l, (exprF (-1) g).le (l.foldl (fun f c => f.join (exprF (-1) c)) f) := by
  intro l
  induction l with
  | nil => intro f; exact ⟨NF.le_refl f, fun g hg => by cases hg⟩
  | cons x l ih =>
   intro f
   obtain ⟨h1, h2⟩ := ih (f.join (exprF (-1) x))
   refine ⟨NF.le_trans (NF.le_join_left _ _) h1, fun g hg => ?_⟩
   rcases List.mem_cons.1 hg with rfl | hg
   ·exact NF.le_trans (NF.le_join_right _ _) h1
   ·exact h2 g hg
 exact (key l .zero).2 c hc
theorem truth_kept {f : NF} (fo : f.ok) (env : GEnv) (own : Int) (ev : GEvent) {x : GExpr} (h : (exprF own x).le f) : truthA (keptP f env) own ev x = truthA env own ev x := by
 unfold truthA
 rw [eval_kept fo env own ev (by rw [NF.join_comm]; exact h)]
theorem truth_more {B h : NF} (bo : B.ok) (ho : h.ok) {v : Nat} (hd : (dropL (v : Int) B).le h) (full : GEnv) (hv : v < full.Vars.length) (e : GEvent) (own : Int) (ev : GEvent) {x : GExpr} (hx : (exprF own x).le B) :
 truthA (addP (keptP h full) v e) own ev x = truthA (addP full v e) own ev x := by
 rw [← truth_kept bo (addP (keptP h full) v e) own ev hx, kept_more bo ho hd full hv e, truth_kept bo _ own ev hx]
theorem covers_said {N : Nat} (hN : 40000000 ≤ N) (aw : law26_awake N = some true) {a : GAutomaton} (hmu : GAutomaton.mu a ≤ 1048576) (env : GEnv) (event : GEvent) : law26_RegistersCovers N a env event = some true := by
 have hb := mu_bulk hmu
 unfold law26_RegistersCovers
 obtain ⟨b, h1, h2⟩ := few_auto hN a hb
 rw [h1, aw]
 simp only [Option.bind_some]
 by_cases hb1 : Ar.nt b = true
 ·rw [if_pos hb1]
 rw [if_neg hb1]
 have hf := h2 (by rw [nt_def] at hb1; simpa using hb1)
 obtain ⟨c, h3, h4⟩ := few_env_eq12 hN env
 rw [h3]
 simp only [Option.bind_some]
 by_cases hc1 : Ar.or (Ar.or (Ar.or (Ar.nt c) (Ar.cmp .gtr (Ar.len event.Values) 10)) (Ar.cmp .gtr (Ar.len a.States) 12)) (Ar.cmp .gtr (Ar.len a.Edges) 24) = true
 ·rw [if_pos hc1]
 rw [if_neg hc1]
 simp only [or_def, nt_def, cmp_gtr, len_def, Bool.or_eq_true, Bool.not_eq_true', decide_eq_true_eq, not_or] at hc1
 obtain ⟨⟨⟨hc2, hev⟩, _⟩, _⟩ := hc1
 have he : fewE12 env = true := h4 (by simpa using hc2)
 have hev : event.Values.length ≤ 10 := by omega
 have hok := few_ok hb hf
 by_cases h0 : autoBad a = 0
 ·have ha := auto_ok h0
  obtain ⟨S, s1, s2, s3, s4⟩ := needs_eq hN ha hb hf
  rw [s4 h0]
  simp only [Option.bind_some]
  have hn := hf.1
  have hne := hf.2.1
  rw [if_neg (ne_false rfl), if_neg (ne_false (by rw [len_def, len_def]; simp))]
  rw [pad_eq ha.vs 16 N env (by have := ha.vs; omega) (by omega) (by obtain ⟨q, _⟩ := fewE_row (few_less he); exact q)]
  simp only [Option.bind_some]
  have hvn : a.Vars.toNat ≤ 16 := by have := ha.vs; omega
  obtain ⟨hfull, hlen⟩ := pad_few he hvn
  generalize padP env a.Vars.toNat = full at hfull hlen
  have hfl := rows_few (few_less hfull)
  rw [loop_go hN ((List.range' 0 a.States.length).map fun i => canon (S i)) (by simp; omega) ?_ ?_]
  ·simp only [Option.bind_some]
  ·intro s cs hcs hs
   have hs' : s < a.States.length := by simpa using hs
   have hcs' : cs = canon (S s) := by
    rw [List.getElem?_map, List.getElem?_range' hs'] at hcs
    simpa using hcs.symm
   subst hcs'
   obtain ⟨so, ss⟩ := s3 s hs'
   rw [if_pos (by rw [cmp_lss, len_def]; exact decide_eq_true hs)]
   rw [idx_at, hcs]
   simp only [Option.bind_some]
   rw [reduce_eq hN so ss (few_less hfull)]
   simp only [Option.bind_some]
   rw [if_neg (ne_false rfl)]
   have hst : a.States[s]? = some a.States[s] := List.getElem?_eq_getElem hs'
   rw [idx_at, hst]
   simp only [Option.bind_some]
   have hless12 := kept_few12 (f := S s) hfull
   have hless := rows_few (few_less hless12)
   have hgl : (a.States[s]).Guards.length < 1000000 := by
    have := hf.2.2.1 _ (List.getElem_mem hs')
    unfold fewS at this
    simp only [Bool.and_eq_true, decide_eq_true_eq] at this
    omega
   rw [loop_go hN (a.States[s]).Guards hgl ?_ ?_]
   ·simp only [Option.bind_some]
    rw [loop_go hN a.Edges (by omega) ?_ ?_]
    ·simp only [Option.bind_some]
     rw [add_i64 (by omega) (by omega)]
    ·intro k x hx hk
     have hxm : x ∈ a.Edges := List.mem_of_getElem? hx
     rw [if_pos (by rw [cmp_lss, len_def]; exact decide_eq_true hk)]
     rw [idx_at, hx]
     simp only [Option.bind_some]
     rw [add_i64 (by omega) (by omega)]
     by_cases hfrom : x.From = (s : Int)
     ·rw [if_neg (ne_false hfrom)]
      obtain ⟨hd1, hd2⟩ := s1.ed x hxm
      have hst2 : x.From.toNat = s := by omega
      rw [hst2] at hd1 hd2
      have hxb := hb.2 x hxm
      have hvr := ha.vr x hxm
      have hv : x.Var < full.Vars.length := by omega
      rw [truth_eq hN hfl x.Var event hxb.1, truth_eq hN hless x.Var event hxb.1, truth_kept so full x.Var event hd1]
      simp only [Option.bind_some]
      rw [if_neg (by rw [nt_def]; show ¬ ((!(truthA full x.Var event x.Cond == truthA full x.Var event x.Cond)) = true); simp)]
      obtain ⟨f1, f2⟩ := few12_row hfull
      obtain ⟨f3, f4⟩ := few12_row hless12
      rw [added_eq hN f1 f2 hvr.1 hv event, added_eq hN f3 f4 hvr.1 (by rw [kept_len]; exact hv) event]
      simp only [Option.bind_some]
      have hvn2 : ((x.Var.toNat : Nat) : Int) = x.Var := by omega
      have hvl : x.Var.toNat < full.Vars.length := by omega
      have hB : (behindF x S).ok := (behindF_good (ha.ck x hxm) (ha.to x hxm).2 s3).1
      rw [← hvn2] at hd2
      have hm1 := rows_few (few_add hfull (v := x.Var.toNat) hev)
      have hm2 := rows_few (few_add hless12 (v := x.Var.toNat) hev)
      have hckl := (few_ok hb hf).2.2.2 x hxm
      rw [loop_go hN x.Checks hckl.2.2.1 ?_ ?_]
      ·simp only [Option.bind_some]
       by_cases hto : x.To < 0
       ·rw [if_pos (by rw [cmp_lss]; exact decide_eq_true hto)]
       ·rw [if_neg (by rw [cmp_lss]; simpa using hto)]
        have htn : x.To.toNat < a.States.length := by have := (ha.to x hxm).2; omega
        have hti : ((x.To.toNat : Nat) : Int) = x.To := by omega
        have hidx : idxL ((List.range' 0 a.States.length).map fun i => canon (S i)) x.To = some (canon (S x.To.toNat)) := by
         rw [idx_pos (by omega) (by simpa using htn)]
         simp
        rw [hidx]
        simp only [Option.bind_some]
        obtain ⟨to, ts⟩ := s3 _ htn
        have hle : (S x.To.toNat).le (behindF x S) := by
         unfold behindF
         rw [if_pos (by omega)]
         exact NF.le_join_right _ _
        have heq : keptP (S x.To.toNat) (addP full x.Var.toNat event) = keptP (S x.To.toNat) (addP (keptP (S s) full) x.Var.toNat event) := by
         rw [← kept_kept to hB hle (addP full x.Var.toNat event), ← kept_kept to hB hle (addP (keptP (S s) full) x.Var.toNat event), kept_more hB so hd2 full hvl event]
        rw [agree_eq hN to ts (few_add hfull hev) (few_add hless12 hev), heq]
        simp only [Option.bind_some]
        rw [if_neg (by rw [or_def, nt_def, cmp_neq]; simp)]
      ·intro j c hcj hj
       have hjl : x.Checks.length < 1000000 := hckl.2.2.1
       have hcm : c ∈ x.Checks := List.mem_of_getElem? hcj
       rw [if_pos (by rw [cmp_lss, len_def]; exact decide_eq_true hj)]
       rw [idx_at, hcj]
       simp only [Option.bind_some]
       have hle : (exprF (-1) c).le (behindF x S) := by
        unfold behindF
        split
        ·exact NF.le_trans (check_le hcm) (NF.le_join_left _ _)
        ·exact check_le hcm
       rw [truth_eq hN hm1 (-1) _ (hxb.2 c hcm), truth_eq hN hm2 (-1) _ (hxb.2 c hcm), truth_more hB so hd2 full hvl event (-1) _ hle]
       simp only [Option.bind_some]
       rw [if_neg (by rw [nt_def]; show ¬ ((!(truthA _ _ _ c == truthA _ _ _ c)) = true); simp), add_i64 (by omega) (by omega)]
      ·rw [if_neg (by rw [cmp_lss, len_def]; simp)]
     ·rw [if_pos (ne_true hfrom)]
    ·rw [if_neg (by rw [cmp_lss, len_def]; simp)]
   ·intro i g hg hi
    have hgm : g ∈ (a.States[s]).Guards := List.mem_of_getElem? hg
    rw [if_pos (by rw [cmp_lss, len_def]; exact decide_eq_true hi)]
    rw [idx_at, hg]
    simp only [Option.bind_some]
    have hgs : guardsS a s = guardsF (a.States[s]).Guards := by unfold guardsS; rw [hst]
    have hle : (exprF g.Var g.Cond).le (S s) := NF.le_trans (guard_le hgm) (hgs ▸ s1.gd s)
    have hgb := hb.1 _ (List.getElem_mem hs') g hgm
    rw [truth_eq hN hfl g.Var event hgb, truth_eq hN hless g.Var event hgb, truth_kept so full g.Var event hle]
    simp only [Option.bind_some]
    rw [if_neg (by rw [nt_def]; show ¬ ((!(truthA _ _ _ g.Cond == truthA _ _ _ g.Cond)) = true); simp), add_i64 (by omega) (by omega)]
   ·rw [if_neg (by rw [cmp_lss, len_def]; simp)]
  ·rw [if_neg (by rw [cmp_lss, len_def]; simp)]
 ·have hp : registers_Needs N a = some ([], autoBad a) := by
   unfold registers_Needs
   rw [acheck_eq hN a hok]
   simp only [Option.bind_some]
   rw [if_pos (by rw [cmp_neq]; simpa using h0)]
  rw [hp]
  simp only [Option.bind_some]
  rw [if_pos (ne_true h0)]
end
end Go.Ab

