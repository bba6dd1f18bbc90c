/- GRN4 -/
import Derived.Test.YtbjdkpckplopdaaT45
set_option linter.all false

namespace Go.Ab
noncomputable section
theorem without_eq {N : Nat} (hN : 40000000 ≤ N) {f : NF} (hs : f.sup) (v : Int) : ref26_without N (canon f) v = some (canon (dropL v f)) := by
 have hl := canon_len f
 have hk : keysOf' (dropL v f) = (keysOf' f).filter fun w => decide (dropL v f w ≠ (0, 0)) := by
  unfold keysOf'
  rw [List.filter_filter]
  apply List.filter_congr
  intro w _
  by_cases h : dropL v f w = (0, 0)
  ·simp [h]
  have : f w ≠ (0, 0) := fun e => h (by unfold dropL; rw [e]; split <;> rfl)
  simp [h, this]
 unfold ref26_without
 rw [loop_list (canon f) (by omega) (fun (s : List GNeed) i => (s, i)) (fun s x => if dropL v f x.Var = (0, 0) then some (.inl s) else (appL s [need x.Var (dropL v f x.Var)]).bind fun l => some (.inl l)) (fun s => s) [] (by omega) ?_ ?_]
 ·rw [range_flat (g := fun x : GNeed => if dropL v f x.Var = (0, 0) then [] else [need x.Var (dropL v f x.Var)])]
  ·simp only [Option.bind_some, List.nil_append]
   congr 1
   unfold canon
   rw [hk]
   have : ∀ l : List Int, (l.map fun w => need w (f w)).flatMap (fun x : GNeed => if dropL v f x.Var = (0, 0) then [] else [need x.Var (dropL v f x.Var)]) = (l.filter fun w => decide (dropL v f w ≠ (0, 0))).map fun w => need w (dropL v f w) := fun l => by
    induction l with
    | nil => rfl
    | cons w l ih =>
     rw [List.map_cons, List.flatMap_cons, ih, List.filter_cons]
     have e : (need w (f w)).Var = w := rfl
     rw [e]
     by_cases h : dropL v f w = (0, 0)
     ·rw [if_pos h, if_neg (by simp [h])]; rfl
     rw [if_neg h, if_pos (by simp [h])]; rfl
   exact this _
  ·intro x
   split <;> simp
  ·intro s x hx h2
   by_cases h : dropL v f x.Var = (0, 0)
   ·rw [if_pos h, if_pos h, List.append_nil]
   rw [if_neg h, if_neg h]
   unfold appL
   rw [if_pos (by simp; omega)]; rfl
  simp; omega
 ·intro s i x hx hi
  try dsimp only
  rw [if_pos (lt_len hi), idx_at, hx]
  simp only [Option.bind_some]
  have hxe := canon_mem (List.mem_of_getElem? hx)
  have h1 : ((if Ar.cmp .eql x.Var v = true then some ({ x with Last := 0 }) else some x) : Option GNeed) = some (need x.Var (dropL v f x.Var)) := by
   by_cases h : x.Var = v
   ·rw [if_pos (eql_true h)]
    unfold dropL
    rw [if_pos h]
    conv => lhs; rw [hxe]
    rfl
   rw [if_neg (eql_false h)]
   unfold dropL
   rw [if_neg h]
   exact congrArg some hxe
  rw [h1]
  simp only [Option.bind_some]
  rw [add_i64 (by omega) (by omega)]
  generalize dropL v f x.Var = p
  by_cases h : p = (0, 0)
  ·rw [if_neg, if_pos h]
   ·rfl
   rw [h]; simp [need, or_def, cmp_neq]
  rw [if_pos, if_neg h]
  ·cases appL s [need x.Var p] <;> rfl
  rw [or_def, cmp_neq, cmp_neq, Bool.or_eq_true, Bool.not_eq_true', Bool.not_eq_true', decide_eq_false_iff_not, decide_eq_false_iff_not]
  by_cases h1 : p.1 = 0
  ·exact .inr fun h2 => h (Prod.ext h1 (Int.ofNat.inj h2))
  exact .inl fun h2 => h1 (Int.ofNat.inj h2)
 intro s
 try dsimp only
 rw [if_neg lt_end]
def RfR (st : List (List GNeed)) (S : Nat → NF) (n : Nat) : Prop := st.length = n ∧ ∀ i, i < n → st[i]? = some (canon (S i)) ∧ (S i).ok ∧ (S i).sup
theorem range_union {α : Type} {N : Nat} (hN : 40000000 ≤ N) {g : α → NF} {body : List GNeed → α → Option (List GNeed ⊕ List GNeed)} : ∀ {l : List α} {f : NF}, (∀ x ∈ l, (g x).ok ∧ (g x).sup) → (∀ s x, x ∈ l → body s x = (ref26_Union N s (canon (g x))).bind fun r => some (.inl r)) → f.ok → f.sup →
 rangeL body l (canon f) = some (.inl (canon (l.foldl (fun f x => f.join (g x)) f))) ∧ (l.foldl (fun f x => f.join (g x)) f).ok ∧ (l.foldl (fun f x => f.join (g x)) f).sup
 | [], f, _, _, o, s => ⟨rfl, o, s⟩
 | x :: l, f, hg, h, o, s => by
  obtain ⟨g1, g2⟩ := hg x (by simp)
  unfold rangeL
  rw [h _ x (by simp), union_law hN s g2 o g1]
  exact range_union hN (fun y hy => hg y (by simp [hy])) (fun s y hy => h s y (by simp [hy])) (NF.ok_join o g1) (NF.sup_join s g2)
section
variable {N : Nat} {a : GAutomaton} (hN : 40000000 ≤ N) (ha : AOk a) (hb : bulkA a) (hf : fewAll N a)
include hN ha hb hf
theorem behind1_eq {x : GEdge} (hx : x ∈ a.Edges) {st : List (List GNeed)} {S : Nat → NF} (hS : RfR st S a.States.length) : ref26_Behind_b1 N x st = some (canon (behindF x S)) := by
 have hl := few_checks hN ha hb hf x hx
 have hto := ha.to x hx
 obtain ⟨b1, b2⟩ := hb.2 x hx
 unfold ref26_Behind_b1
 obtain ⟨r1, r2, r3⟩ := range_union hN (l := x.Checks) (f := .zero) (g := fun c => exprF (-1) c) (body := fun s c => (ref26_Reads N N c (-1)).bind fun r4 => (ref26_Union N s r4).bind fun r5 => some (.inl r5)) (fun c hc => reads_ok (ha.ck x hx c hc) (-1)) (fun s c hc => by rw [reads_eq hN (-1) (b2 c hc) (ha.ck x hx c hc)]; rfl) NF.ok_zero NF.sup_zero
 rw [canon_zero] at r1
 rw [loop_list x.Checks (by omega) (fun (s : List GNeed) i => (s, i)) (fun s c => (ref26_Reads N N c (-1)).bind fun r4 => (ref26_Union N s r4).bind fun r5 => some (.inl r5)) (fun s => s) [] (by omega) ?_ ?_]
 ·rw [r1]
  simp only [Option.bind_some]
  unfold behindF
  by_cases h0 : 0 ≤ x.To
  ·obtain ⟨e1, e2, e3⟩ := hS.2 x.To.toNat (by omega)
   have hr : req (inR st x.To) = some () := if_pos (by unfold inR; rw [hS.1]; exact decide_eq_true ⟨h0, by omega⟩)
   have hi : idxL st x.To = some (canon (S x.To.toNat)) := by unfold idxL; rw [if_pos h0, e1]
   rw [if_pos (by rw [cmp_geq]; exact decide_eq_true h0), if_pos h0, hr, hi]
   simp only [Option.bind_some]
   rw [union_law hN r3 e3 r2 e2]
   rfl
  rw [if_neg (by rw [cmp_geq]; simpa using h0), if_neg h0]
  rfl
 ·intro s i c hcx hi
  try dsimp only
  rw [if_pos (lt_len hi), idx_at, hcx]
  simp only [Option.bind_some]
  rw [add_i64 (by omega) (by omega)]
  cases ref26_Reads N N c (-1) with
  | none => rfl
  | some r => simp only [Option.bind_some]; cases ref26_Union N s r <;> rfl
 intro s
 try dsimp only
 rw [if_neg lt_end]
def edgeF (S : Nat → NF) (i : Nat) (x : GEdge) : NF := if x.From = (i : Int) then (exprF x.Var x.Cond).join (dropL x.Var (behindF x S)) else .zero
def onceF (a : GAutomaton) (S : Nat → NF) (i : Nat) : NF := a.Edges.foldl (fun f x => f.join (edgeF S i x)) ((match a.States[i]? with | some s => s.Guards | none => ([] : List GGuard)).foldl (fun (f : NF) (g : GGuard) => f.join (exprF g.Var g.Cond)) (S i))
omit hN hb hf in
theorem edgeF_good {S : Nat → NF} (hS : ∀ i, i < a.States.length → (S i).ok ∧ (S i).sup) {x : GEdge} (hx : x ∈ a.Edges) (i : Nat) : (edgeF S i x).ok ∧ (edgeF S i x).sup := by
 have h1 := reads_ok (ha.cd x hx) x.Var
 have h2 := behindF_good (ha.ck x hx) (ha.to x hx).2 hS
 unfold edgeF
 split
 ·exact ⟨NF.ok_join h1.1 (dropL_ok h2.1), NF.sup_join h1.2 (dropL_sup h2.2)⟩
 exact ⟨NF.ok_zero, NF.sup_zero⟩
theorem once_eq {st : List (List GNeed)} {S : Nat → NF} (hS : RfR st S a.States.length) {i : Nat} (hi : i < a.States.length) : ref26_once_b1 N a st (i : Int) = some (canon (onceF a S i)) ∧ (onceF a S i).ok ∧ (onceF a S i).sup := by
 have hm := hf.2.1
 obtain ⟨e1, e2, e3⟩ := hS.2 i hi
 have hsi : a.States[i]? = some (a.States[i]'hi) := List.getElem?_eq_getElem hi
 generalize a.States[i]'hi = s at hsi
 have hsm := List.mem_of_getElem? hsi
 have hg70 : s.Guards.length ≤ 70 := by
  have := hf.2.2.1 s hsm
  unfold fewS at this
  simp only [Bool.and_eq_true, decide_eq_true_eq] at this
  exact this.2.1
 have hr : req (inR st (i : Int)) = some () := if_pos (by unfold inR; rw [hS.1]; exact decide_eq_true ⟨by omega, by omega⟩)
 unfold ref26_once_b1 onceF
 rw [hr, hsi]
 simp only [idx_at, e1, hsi, Option.bind_some]
 obtain ⟨r1, r2, r3⟩ := range_union hN (l := s.Guards) (f := S i) (g := fun g : GGuard => exprF g.Var g.Cond) (body := fun s g => (ref26_Reads N N g.Cond g.Var).bind fun r4 => (ref26_Union N s r4).bind fun r5 => some (.inl r5)) (fun c hc => reads_ok (ha.gd s hsm c hc) c.Var) (fun t c hc => by rw [reads_eq hN c.Var (hb.1 s hsm c hc) (ha.gd s hsm c hc)]; rfl) e2 e3
 rw [loop_list s.Guards (by omega) (fun (s : List GNeed) i => (s, i)) (fun s g => (ref26_Reads N N g.Cond g.Var).bind fun r4 => (ref26_Union N s r4).bind fun r5 => some (.inl r5)) (fun s => s) (canon (S i)) (by omega) ?_ ?_]
 ·rw [r1]
  simp only [Option.bind_some]
  generalize s.Guards.foldl (fun f g => f.join (exprF g.Var g.Cond)) (S i) = f0 at r1 r2 r3 ⊢
  have hgood := fun x (hx : x ∈ a.Edges) => edgeF_good ha (fun i hi => (hS.2 i hi).2) hx i
  have key : ∀ (l : List GEdge) (f : NF), (∀ x ∈ l, x ∈ a.Edges) → f.ok → f.sup → rangeL (R := List GNeed) (fun (t : List GNeed) (x : GEdge) => if x.From = (i : Int) then (ref26_Reads N N x.Cond x.Var).bind fun r12 => (ref26_Behind_b1 N x st).bind fun r13 => (ref26_without N r13 x.Var).bind fun r14 => (ref26_Union N r12 r14).bind fun r15 => (ref26_Union N t r15).bind fun r16 => some (.inl r16) else some (.inl t)) l (canon f) = some (.inl (canon (l.foldl (fun f x => f.join (edgeF S i x)) f))) ∧ (l.foldl (fun f x => f.join (edgeF S i x)) f).ok ∧ (l.foldl (fun f x => f.join (edgeF S i x)) f).sup := fun l => by
   induction l with
   | nil => intro f _ o s; exact ⟨rfl, o, s⟩
   | cons x l ih =>
    intro f hl o s
    have hx := hl x (by simp)
    have hgx := hgood x hx
    have h1 := reads_ok (ha.cd x hx) x.Var
    have h2 := behindF_good (ha.ck x hx) (ha.to x hx).2 (fun i hi => (hS.2 i hi).2)
    rw [List.foldl_cons]
    unfold rangeL
    by_cases hfr : x.From = (i : Int)
    ·have e : edgeF S i x = (exprF x.Var x.Cond).join (dropL x.Var (behindF x S)) := if_pos hfr
     rw [if_pos hfr, reads_eq hN x.Var (hb.2 x hx).1 (ha.cd x hx), behind1_eq hN ha hb hf hx hS]
     simp only [Option.bind_some]
     rw [without_eq hN h2.2]
     simp only [Option.bind_some]
     rw [union_law hN h1.2 (dropL_sup h2.2) h1.1 (dropL_ok h2.1)]
     simp only [Option.bind_some]
     rw [← e, union_law hN s hgx.2 o hgx.1]
     exact ih _ (fun y hy => hl y (by simp [hy])) (NF.ok_join o hgx.1) (NF.sup_join s hgx.2)
    have e : edgeF S i x = .zero := if_neg hfr
    rw [if_neg hfr, e, NF.join_zero]
    exact ih _ (fun y hy => hl y (by simp [hy])) o s
  obtain ⟨k1, k2, k3⟩ := key a.Edges f0 (fun x h => h) r2 r3
  refine ⟨?_, k2, k3⟩
  rw [loop_list a.Edges (by omega) (fun (s : List GNeed) i => (s, i)) (fun (t : List GNeed) (x : GEdge) => if x.From = (i : Int) then (ref26_Reads N N x.Cond x.Var).bind fun r12 => (ref26_Behind_b1 N x st).bind fun r13 => (ref26_without N r13 x.Var).bind fun r14 => (ref26_Union N r12 r14).bind fun r15 => (ref26_Union N t r15).bind fun r16 => some (.inl r16) else some (.inl t)) (fun s => s) (canon f0) (by omega) ?_ ?_]
  ·rw [k1]; rfl
  ·intro t j x hx hj
   try dsimp only
   rw [if_pos (lt_len hj)]
   simp only [idx_at, hx, Option.bind_some]
   rw [add_i64 (by omega) (by omega)]
   by_cases hfr : x.From = (i : Int)
   ·rw [if_pos (eql_true hfr), if_pos hfr]
    cases ref26_Reads N N x.Cond x.Var with
    | none => rfl
    | some r12 =>
     simp only [Option.bind_some]
     cases ref26_Behind_b1 N x st with
     | none => rfl
     | some r13 =>
      simp only [Option.bind_some]
      cases ref26_without N r13 x.Var with
      | none => rfl
      | some r14 =>
       simp only [Option.bind_some]
       cases ref26_Union N r12 r14 with
       | none => rfl
       | some r15 => simp only [Option.bind_some]; cases ref26_Union N t r15 <;> rfl
   rw [if_neg (eql_false hfr), if_neg hfr]; rfl
  intro s
  try dsimp only
  rw [if_neg lt_end]
 ·intro t j g hg hj
  try dsimp only
  rw [if_pos (lt_len hj)]
  simp only [idx_at, hg, Option.bind_some]
  rw [add_i64 (by omega) (by omega)]
  cases ref26_Reads N N g.Cond g.Var with
  | none => rfl
  | some r => simp only [Option.bind_some]; cases ref26_Union N t r <;> rfl
 intro s
 try dsimp only
 rw [if_neg lt_end]
end
theorem foldl_le {α : Type} {g : α → NF} : ∀ {l : List α} {f : NF}, f.le (l.foldl (fun f x => f.join (g x)) f) ∧ ∀ x ∈ l, (g x).le (l.foldl (fun f x => f.join (g x)) f)
 | [], f => ⟨NF.le_refl _, fun x hx => by cases hx⟩
 | x :: l, f => by
  rw [List.foldl_cons]
  obtain ⟨h1, h2⟩ := foldl_le (l := l) (f := f.join (g x)) (g := g)
  refine ⟨NF.le_trans (NF.le_join_left _ _) h1, fun y hy => ?_⟩
  rcases List.mem_cons.1 hy with rfl | hy
  ·exact NF.le_trans (NF.le_join_right _ _) h1
  exact h2 y hy
theorem foldl_below {α : Type} {g : α → NF} {P : NF} : ∀ {l : List α} {f : NF}, f.le P → (∀ x ∈ l, (g x).le P) → (l.foldl (fun f x => f.join (g x)) f).le P
 | [], f, h, _ => h
 | x :: l, f, h, hl => by
  rw [List.foldl_cons]
  exact foldl_below (NF.join_le h (hl x (by simp))) fun y hy => hl y (by simp [hy])
theorem once_ge (a : GAutomaton) (S : Nat → NF) (i : Nat) : (S i).le (onceF a S i) := NF.le_trans foldl_le.1 foldl_le.1
theorem once_le {a : GAutomaton} {S P : Nat → NF} (hP : Suff a P) (h : SLe S P) (i : Nat) : (onceF a S i).le (P i) := by
 refine foldl_below (foldl_below (h i) fun g hg => ?_) fun x hx => ?_
 ·have := hP.gd i
  unfold guardsS at this
  cases hs : a.States[i]? with
  | none => rw [hs] at hg; cases hg
  | some s =>
   rw [hs] at this
   have hg' : g ∈ s.Guards := by rw [hs] at hg; exact hg
   exact NF.le_trans (foldl_le (g := fun g : GGuard => exprF g.Var g.Cond) (l := s.Guards) (f := .zero) |>.2 g hg') this
 unfold edgeF
 split
 ·rename_i e
  have := hP.ed x hx
  unfold HoldsX at this
  rw [e] at this
  exact NF.join_le this.1 (NF.le_trans (dropL_mono (behindF_mono h)) this.2)
 exact NF.zero_le _
theorem once_fix {a : GAutomaton} (ha : AOk a) {S : Nat → NF} (h : ∀ i, i < a.States.length → onceF a S i = S i) : Suff a S := by
 refine ⟨fun i => ?_, fun x hx => ?_⟩
 ·unfold guardsS
  rcases Nat.lt_or_ge i a.States.length with hi | hi
  ·have h1 := h i hi
   have hsi : a.States[i]? = some (a.States[i]'hi) := List.getElem?_eq_getElem hi
   generalize a.States[i]'hi = s at hsi
   rw [hsi]
   rw [← h1]
   unfold onceF
   rw [hsi]
   refine NF.le_trans ?_ foldl_le.1
   exact foldl_below (NF.zero_le _) fun g hg => (foldl_le (g := fun g : GGuard => exprF g.Var g.Cond) (l := s.Guards) (f := S i)).2 g hg
  rw [List.getElem?_eq_none hi]
  exact NF.zero_le _
 have hfr := ha.fr x hx
 have h1 := h x.From.toNat (by omega)
 have e : x.From = (x.From.toNat : Int) := by omega
 have h2 : (edgeF S x.From.toNat x).le (onceF a S x.From.toNat) := foldl_le.2 x hx
 rw [h1] at h2
 unfold edgeF at h2
 rw [if_pos e] at h2
 exact ⟨NF.le_trans (NF.le_join_left _ _) h2, NF.le_trans (NF.le_join_right _ _) h2⟩
open Classical in
theorem same_dec {N : Nat} (hN : 40000000 ≤ N) {l m : List GNeed} (hl : l.length < 1000000) : ref26_Same N l m = some (decide (l = m)) := by
 unfold ref26_Same
 by_cases h1 : l.length = m.length
 ·rw [if_neg (by rw [ne_len]; simpa using h1), loop_same hN h1 hl (u := ()) (w := ()) ?_ ?_]
  ·by_cases h : l = m
   ·rw [if_pos h, decide_eq_true h]; rfl
   rw [if_neg h, decide_eq_false h]; rfl
  ·intro k v w hv hw hk mv mw
   try dsimp only
   rw [if_pos (by rw [cmp_lss, len_def]; exact decide_eq_true (by omega))]
   simp only [idx_at, hv, hw, Option.bind_some]
   rw [add_i64 (a := (k : Int)) (by omega) (by omega)]
   have hvw : v = w ↔ (v.Var = w.Var ∧ v.Last = w.Last ∧ v.All = w.All) := by cases v; cases w; simp
   by_cases h : v = w
   ·subst h
    rw [if_pos rfl, if_neg (by simp [nt_def, an_def, cmp_eql])]
   rw [if_neg h, if_pos]
   rw [hvw] at h
   simp only [nt_def, an_def, cmp_eql, Bool.and_true, Bool.not_eq_true', Bool.and_eq_false_imp, decide_eq_true_eq, decide_eq_false_iff_not]
   exact fun h1 h2 h3 => h ⟨h1, h2, h3⟩
  try dsimp only
  rw [if_neg (by rw [cmp_lss, len_def]; simp)]
 rw [if_pos (by rw [ne_len]; exact h1), decide_eq_false (fun k => h1 (by rw [k]))]
section
variable {N : Nat} {a : GAutomaton} (hN : 40000000 ≤ N) (ha : AOk a) (hb : bulkA a) (hf : fewAll N a)
include hN ha hb hf
def passStep (N : Nat) (a : GAutomaton) (s6 : Bool × Int × (List (List GNeed))) : Option ((Bool × Int × (List (List GNeed))) ⊕ ((Bool × (List (List GNeed))))) :=
                if Ar.cmp .lss s6.2.1 (Ar.len s6.2.2) = true then
                 (ref26_once_b1 N a s6.2.2 s6.2.1).bind fun r9 =>
                 (req (inR s6.2.2 s6.2.1)).bind fun _ =>
                 (idxL s6.2.2 s6.2.1).bind fun x10 =>
                 (ref26_Same N r9 x10).bind fun r11 =>
                 if Ar.nt r11 = true then
                  (req (inR s6.2.2 s6.2.1)).bind fun _ =>
                  (updL s6.2.2 s6.2.1 (fun x12 : List GNeed => r9)).bind fun l13 =>
                  some (.inl (true, Ar.ar .add .i64 s6.2.1 1, l13))
                 else
                  some (.inl (s6.1, Ar.ar .add .i64 s6.2.1 1, s6.2.2))
                else
                 some (.inr (s6.1, s6.2.2))
open Classical in
theorem pass_run : ∀ (k i : Nat) (st : List (List GNeed)) (S : Nat → NF) (ag : Bool) (M : Nat), i + k = a.States.length → k < M → RfR st S a.States.length →
 ∃ ag' st' S', loopN (passStep N a) M (ag, (i : Int), st) = some (ag', st') ∧ RfR st' S' a.States.length ∧ SLe S S' ∧ (∀ P, Suff a P → SLe S P → SLe S' P) ∧ (ag' = true ↔ ag = true ∨ ∃ j, j < a.States.length ∧ S j ≠ S' j) ∧ (ag' = false → S' = S ∧ ∀ j, i ≤ j → j < a.States.length → onceF a S j = S j)
 | 0, i, st, S, ag, M, hi, hM, hS => by
  obtain ⟨M, rfl⟩ : ∃ M', M = M' + 1 := ⟨M - 1, by omega⟩
  refine ⟨ag, st, S, ?_, hS, SLe.refl _, fun _ _ h => h, ⟨.inl, fun h => h.elim id fun ⟨_, _, k⟩ => absurd rfl k⟩, fun _ => ⟨rfl, fun j h1 h2 => by omega⟩⟩
  unfold loopN passStep
  rw [if_neg (by rw [cmp_lss, len_def, hS.1]; simp; omega)]
 | k + 1, i, st, S, ag, M, hi, hM, hS => by
  obtain ⟨M, rfl⟩ : ∃ M', M = M' + 1 := ⟨M - 1, by omega⟩
  have hn := hf.1
  have hil : i < a.States.length := by omega
  obtain ⟨o1, o2, o3⟩ := once_eq hN ha hb hf hS hil
  obtain ⟨e1, e2, e3⟩ := hS.2 i hil
  have hr : req (inR st (i : Int)) = some () := if_pos (by unfold inR; rw [hS.1]; exact decide_eq_true ⟨by omega, by omega⟩)
  have hcl := canon_len (onceF a S i)
  have hge := once_ge a S i
  unfold loopN
  have hstep : passStep N a (ag, (i : Int), st) = if onceF a S i = S i then some (.inl (ag, (i : Int) + 1, st)) else some (.inl (true, (i : Int) + 1, st.set i (canon (onceF a S i)))) := by
   unfold passStep
   dsimp only
   rw [if_pos (by rw [cmp_lss, len_def, hS.1]; exact decide_eq_true (by omega)), o1, hr, idx_at, e1]
   simp only [Option.bind_some]
   rw [same_dec hN (by omega), add_i64 (by omega) (by omega)]
   simp only [Option.bind_some]
   by_cases h : onceF a S i = S i
   ·rw [if_pos h, if_neg]
    rw [nt_def, decide_eq_true (by rw [h])]; decide
   rw [if_neg h, if_pos]
   ·unfold updL
    rw [idx_at, e1]
    simp
   rw [nt_def, decide_eq_false (fun q => h (canon_inj o3 e3 q))]; rfl
  rw [hstep]
  by_cases h : onceF a S i = S i
  ·rw [if_pos h]
   dsimp only
   obtain ⟨ag', st', S', p1, p2, p3, p4, p5, p6⟩ := pass_run k (i + 1) st S ag M (by omega) (by omega) hS
   refine ⟨ag', st', S', by rw [← p1]; rfl, p2, p3, p4, p5, fun q => ?_⟩
   obtain ⟨q1, q2⟩ := p6 q
   refine ⟨q1, fun j h1 h2 => ?_⟩
   by_cases hj : j = i
   ·rw [hj]; exact h
   exact q2 j (by omega) h2
  rw [if_neg h]
  dsimp only
  let S1 : Nat → NF := fun j => if j = i then onceF a S i else S j
  have l1 : SLe S S1 := fun j => by
   show (S j).le (if j = i then onceF a S i else S j)
   split
   ·rename_i e; rw [e]; exact hge
   exact NF.le_refl _
  have hS1 : RfR (st.set i (canon (onceF a S i))) S1 a.States.length := by
   refine ⟨by rw [List.length_set]; exact hS.1, fun j hj => ?_⟩
   show _ = some (canon (if j = i then onceF a S i else S j)) ∧ (if j = i then onceF a S i else S j).ok ∧ (if j = i then onceF a S i else S j).sup
   rw [List.getElem?_set]
   by_cases hji : j = i
   ·rw [if_pos hji.symm, if_pos hji, if_pos (by rw [hS.1]; omega)]
    exact ⟨rfl, o2, o3⟩
   rw [if_neg (fun e => hji e.symm), if_neg hji]
   exact hS.2 j hj
  obtain ⟨ag', st', S', p1, p2, p3, p4, p5, p6⟩ := pass_run k (i + 1) _ S1 true M (by omega) (by omega) hS1
  have hag : ag' = true := p5.2 (.inl rfl)
  refine ⟨ag', st', S', by rw [← p1]; rfl, p2, SLe.trans l1 p3, fun P hP hSP => p4 P hP fun j => ?_, ⟨fun _ => .inr ⟨i, hil, fun e => ?_⟩, fun _ => hag⟩, fun q => by rw [hag] at q; cases q⟩
  ·show (if j = i then onceF a S i else S j).le (P j)
   split
   ·rename_i e; rw [e]; exact once_le hP hSP i
   exact hSP j
  have h2 := p3 i
  rw [← e] at h2
  have h3 : (onceF a S i).le (S i) := by
   have : S1 i = onceF a S i := if_pos rfl
   rw [this] at h2; exact h2
  exact h (NF.le_antisymm h3 hge)
def RfI (a : GAutomaton) (s : Bool × List (List GNeed)) : Prop := ∃ S, RfR s.2 S a.States.length ∧ (∀ P, Suff a P → SLe S P) ∧ (s.1 = false → Suff a S)
def RfQ (a : GAutomaton) (r : List (List GNeed)) : Prop := ∃ S, RfR r S a.States.length ∧ Suff a S ∧ ∀ P, Suff a P → SLe S P
omit hN ha hb hf in
theorem RfR.uniq {st : List (List GNeed)} {S S' : Nat → NF} {n : Nat} (h : RfR st S n) (h' : RfR st S' n) : ∀ i, i < n → S i = S' i := fun i hi => by
 obtain ⟨e1, _, e3⟩ := h.2 i hi
 obtain ⟨e1', _, e3'⟩ := h'.2 i hi
 rw [e1] at e1'
 exact canon_inj e3 e3' (Option.some.inj e1')
open Classical in
def sizeL (st : List (List GNeed)) (n : Nat) : Nat := if h : ∃ S, RfR st S n then sizeS (Classical.choose h) n else 0
omit hN ha hb hf in
theorem sizeL_eq {st : List (List GNeed)} {S : Nat → NF} {n : Nat} (h : RfR st S n) : sizeL st n = sizeS S n := by
 unfold sizeL
 rw [dif_pos ⟨S, h⟩]
 have := RfR.uniq (Classical.choose_spec (⟨S, h⟩ : ∃ S, RfR st S n)) h
 generalize Classical.choose (⟨S, h⟩ : ∃ S, RfR st S n) = S0 at this
 unfold sizeS
 exact congrArg List.sum (List.map_congr_left fun i hi => by rw [this i (List.mem_range.1 hi)])
def rfMu (a : GAutomaton) (s : Bool × List (List GNeed)) : Nat := (if s.1 = true then 0 else 1) + 2 * sizeL s.2 a.States.length
def rfStep (N : Nat) (a : GAutomaton) (s3 : Bool × List (List GNeed)) : Option ((Bool × List (List GNeed)) ⊕ List (List GNeed)) :=
 if s3.1 = true then
  (loopN (passStep N a) N (false, 0, s3.2)).bind fun s8 =>
  some (.inl (s8.1, s8.2))
 else
  some (.inr s3.2)
theorem rf_step (s : Bool × List (List GNeed)) (hI : RfI a s) : rfMu a s ≤ 700000 ∧ ((∃ s', rfStep N a s = some (.inl s') ∧ RfI a s' ∧ rfMu a s < rfMu a s') ∨ ∃ r, rfStep N a s = some (.inr r) ∧ RfQ a r) := by
 have hn := hf.1
 obtain ⟨S, i1, i3, i4⟩ := hI
 have hB := sizeS_bound (S := S) (n := a.States.length) fun i hi => (i1.2 i hi).2.1
 obtain ⟨ag, st0⟩ := s
 have i1' : RfR st0 S a.States.length := i1
 have hmu : rfMu a (ag, st0) = (if ag = true then 0 else 1) + 2 * sizeS S a.States.length := by unfold rfMu; rw [sizeL_eq i1']
 refine ⟨by rw [hmu]; split <;> omega, ?_⟩
 cases ag with
 | false => exact .inr ⟨st0, rfl, S, i1, i4 rfl, i3⟩
 | true =>
  obtain ⟨ag', st', S', b1, b2, b3, b4, b5, b6⟩ := pass_run hN ha hb hf a.States.length 0 st0 S false N (by omega) (by omega) i1'
  refine .inl ⟨(ag', st'), ?_, ⟨S', b2, fun P hP => b4 P hP (i3 P hP), fun h => ?_⟩, ?_⟩
  ·unfold rfStep
   rw [if_pos rfl]
   show (loopN (passStep N a) N (false, 0, st0)).bind _ = _
   have b1' : loopN (passStep N a) N (false, 0, st0) = some (ag', st') := b1
   rw [b1']; rfl
  ·obtain ⟨e, hx⟩ := b6 h
   rw [e]
   exact once_fix ha fun i hi => hx i (Nat.zero_le _) hi
  have hmu' : rfMu a (ag', st') = (if ag' = true then 0 else 1) + 2 * sizeS S' a.States.length := by unfold rfMu; rw [sizeL_eq b2]
  rw [hmu, hmu']
  have hle := sizeS_le (n := a.States.length) b3
  cases ag' with
  | false => simp only [if_true, Bool.false_eq_true, if_false]; omega
  | true =>
   have hne : ∃ i, i < a.States.length ∧ S i ≠ S' i := (b5.1 rfl).resolve_left (by decide)
   have := sizeS_lt b3 (fun i hi => (b2.2 i hi).2.2) hne
   simp only [if_true]; omega
theorem all_eq : ∃ st, ref26_All N a = some st ∧ RfQ a st := by
 have hn := hf.1
 have hmk : mkL (Ar.len a.States) (Ar.len a.States) ([] : List GNeed) = some (List.replicate a.States.length []) := by
  unfold mkL
  rw [len_def, if_pos ⟨by omega, by omega, by omega⟩]
  simp
 have h0 : RfR (List.replicate a.States.length []) (fun _ => NF.zero) a.States.length := ⟨by simp, fun i hi => ⟨by rw [canon_zero]; simp [hi], NF.ok_zero, NF.sup_zero⟩⟩
 have := loop_grow (RfI a) (RfQ a) (rfMu a) 700000 (rf_step hN ha hb hf) N (true, List.replicate a.States.length []) ⟨_, h0, fun P hP i => NF.zero_le _, fun h => by cases h⟩ (by generalize rfMu a (true, List.replicate a.States.length []) = q; omega)
 obtain ⟨st, h1, h2⟩ := this
 refine ⟨st, ?_, h2⟩
 unfold ref26_All
 rw [hmk]
 simp only [Option.bind_some]
 unfold rfStep passStep at h1
 rw [h1]
 rfl
end
theorem sameAll_law {N : Nat} (hN : 40000000 ≤ N) {l : List (List GNeed)} (hl : l.length < 1000000) (h : ∀ m ∈ l, m.length < 1000000) : ref26_SameAll N l l = some true := by
 unfold ref26_SameAll
 rw [if_neg (by rw [ne_len]; simp)]
 rw [loop_list l (by omega) (fun (_ : Unit) i => i) (fun _ x => some (if true = true then .inl () else .inr (.inr ()))) (fun _ => .inl ()) () (by omega) ?_ ?_]
 ·rw [range_all (p := fun _ => true) (r := .inr ()) (fun x _ => rfl)]
  have : (l.all fun _ => true) = true := List.all_eq_true.2 fun _ _ => rfl
  rw [if_pos this]; rfl
 ·intro s i x hx hi
  try dsimp only
  rw [if_pos (lt_len hi)]
  simp only [idx_at, hx, Option.bind_some, same_law x (h x (List.mem_of_getElem? hx)) hN]
  rw [if_neg (by rw [nt_def]; decide), add_i64 (by omega) (by omega)]
  rfl
 intro s
 try dsimp only
 rw [if_neg lt_end]
theorem needs_said {N : Nat} (hN : 40000000 ≤ N) (aw : law26_awake N = some true) {a : GAutomaton} (hmu : GAutomaton.mu a ≤ 1048576) : law26_RegistersNeeds N a = some true := by
 have hb := mu_bulk hmu
 unfold law26_RegistersNeeds
 obtain ⟨b, h1, h2⟩ := few_auto hN a hb
 rw [h1, aw]
 simp only [Option.bind_some, if_true]
 split
 ·rfl
 rename_i hq
 have hf := h2 (by simpa [nt_def] using hq)
 have hok := few_ok hb hf
 by_cases h0 : autoBad a = 0
 ·have ha := auto_ok h0
  obtain ⟨S, s1, s2, s3, s4⟩ := needs_eq hN ha hb hf
  obtain ⟨st, t1, S', t2, t3, t4⟩ := all_eq hN ha hb hf
  have hSS : S = S' := SLe.antisymm (s2 S' t3) (t4 S s1)
  have hst : (List.range' 0 a.States.length).map (fun i => canon (S i)) = st := by
   apply List.ext_getElem?
   intro i
   rw [List.getElem?_map]
   rcases Nat.lt_or_ge i a.States.length with hi | hi
   ·rw [(t2.2 i hi).1, List.getElem?_range' hi, hSS]
    simp
   rw [List.getElem?_eq_none (by simpa using hi), List.getElem?_eq_none (by rw [t2.1]; exact hi)]; rfl
  have hn := hf.1
  have hr : ref26_Needs N a = some (st, 0) := by
   unfold ref26_Needs
   rw [acheck_eqr hN a hok]
   simp only [Option.bind_some]
   rw [if_neg (by rw [cmp_neq, h0]; decide), t1]; rfl
  rw [s4 h0, hr, hst]
  simp only [Option.bind_some]
  rw [sameAll_law hN (by rw [t2.1]; omega) (fun m hm => by
   obtain ⟨i, hi⟩ := List.getElem?_of_mem hm
   have hil : i < a.States.length := by
    rcases Nat.lt_or_ge i st.length with h | h
    ·rw [t2.1] at h; exact h
    rw [List.getElem?_eq_none h] at hi; cases hi
   rw [(t2.2 i hil).1] at hi
   cases hi
   have := canon_len (S' i); omega)]
  simp [an_def, cmp_eql]
 have hp : registers_Needs N a = some ([], autoBad a) := by
  unfold registers_Needs
  rw [acheck_eq hN a hok]
  simp only [Option.bind_some]
  rw [if_pos (by rw [cmp_neq]; simpa using h0)]
 have hr : ref26_Needs N a = some ([], autoBad a) := by
  unfold ref26_Needs
  rw [acheck_eqr hN a hok]
  simp only [Option.bind_some]
  rw [if_pos (by rw [cmp_neq]; simpa using h0)]
 rw [hp, hr]
 simp only [Option.bind_some]
 rw [sameAll_law hN (by decide) (fun m hm => by cases hm)]
 simp [an_def, cmp_eql]
end
end Go.Ab

