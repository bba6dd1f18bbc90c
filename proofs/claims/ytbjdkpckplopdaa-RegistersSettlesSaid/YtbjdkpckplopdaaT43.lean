/- GRL12 GRA1 GRA2 GRA3 -/
import Derived.Test.YtbjdkpckplopdaaT42
set_option linter.all false

namespace Go.Ab
noncomputable section
open Classical
theorem bit_all : (List.range 512).all (fun p => (timeB p == p.testBit 8) && (List.range 8).all fun b => bitA p b == if p.testBit b then 1 else 0) = true := by kernel_rfl
theorem bit_test {p b : Nat} (hp : p < 512) (hb : b < 8) : bitA p b = 1 ↔ p.testBit b = true := by
 have := List.all_eq_true.1 bit_all p (List.mem_range.2 hp)
 rw [Bool.and_eq_true] at this
 have := List.all_eq_true.1 this.2 b (List.mem_range.2 hb)
 rw [eq_of_beq this]
 cases p.testBit b <;> simp
theorem time_test {p : Nat} (hp : p < 512) : timeB p = p.testBit 8 := by
 have := List.all_eq_true.1 bit_all p (List.mem_range.2 hp)
 rw [Bool.and_eq_true] at this
 exact eq_of_beq this.1
theorem test_le {n m i : Nat} (h : n ||| m = m) (hn : n.testBit i = true) : m.testBit i = true := by
 rw [← h, Nat.testBit_or, hn]; rfl
theorem keepV_keepV {n m : Nat} (hn : n < 512) (hm : m < 512) (h : n ||| m = m) (v : GValue) (i : Nat) : keepV n (keepV m (v, i), i) = keepV n (v, i) := by
 unfold keepV
 by_cases h1 : i < 8 ∧ bitA n i = 1
 ·have h2 : i < 8 ∧ bitA m i = 1 := ⟨h1.1, (bit_test hm h1.1).2 (test_le h ((bit_test hn h1.1).1 h1.2))⟩
  simp only [h1, h2, and_self, if_true]
 simp only [h1, if_false]
theorem zipIdx_map {α β : Type} (F : α × Nat → β) (l : List α) : (l.zipIdx.map F).zipIdx = l.zipIdx.map fun q => (F q, q.2) := by
 apply List.ext_getElem?
 intro i
 rw [List.getElem?_zipIdx, List.getElem?_map, List.getElem?_map, List.getElem?_zipIdx]
 cases l[i]? <;> simp
theorem keepE_keepE {n m : Nat} (hn : n < 512) (hm : m < 512) (h : n ||| m = m) {b c : Bool} (hb : b = true → c = true) (e : GEvent) : keepE n b (keepE m c e) = keepE n b e := by
 unfold keepE
 simp only [GEvent.mk.injEq, true_and]
 constructor
 ·by_cases h1 : b = true
  ·rw [if_pos h1, if_pos h1, if_pos (hb h1)]
  rw [if_neg h1, if_neg h1]
 rw [zipIdx_map, List.map_map]
 exact List.map_congr_left fun q _ => keepV_keepV hn hm h q.1 q.2
theorem row_last {p : Nat × Nat} (h0 : p ≠ (0, 0)) (h : p.2 = 0) (pre : List GEvent) (x : GEvent) : keptRow p (pre ++ [x]) = [keepE p.1 (timeB p.1) x] := by
 unfold keptRow
 rw [if_neg h0, List.zipIdx_append, List.flatMap_append]
 have e1 : pre.zipIdx.flatMap (keepAt p (pre ++ [x]).length) = [] := by
  rw [List.flatMap_eq_nil_iff]
  intro q hq
  have := List.mem_zipIdx hq
  unfold keepAt
  rw [if_neg (by simp; omega), if_pos h]
 rw [e1]
 simp [keepAt, h]
theorem row_all {p : Nat × Nat} (h : p.2 ≠ 0) (l : List GEvent) : keptRow p l = l.zipIdx.map fun q => if q.2 + 1 = l.length then keepE (p.2 ||| p.1) (timeB p.1) q.1 else keepE p.2 false q.1 := by
 unfold keptRow
 rw [if_neg (fun e => h (by rw [e]))]
 have : ∀ m : List (GEvent × Nat), m.flatMap (keepAt p l.length) = m.map fun q => if q.2 + 1 = l.length then keepE (p.2 ||| p.1) (timeB p.1) q.1 else keepE p.2 false q.1 := fun m => by
  induction m with
  | nil => rfl
  | cons q m ih =>
   rw [List.flatMap_cons, List.map_cons, ih]
   unfold keepAt
   split
   ·rfl
   rfl
 exact this _
theorem keptRow_keptRow {p q : Nat × Nat} (p1 : p.1 < 512) (p2 : p.2 < 512) (q1 : q.1 < 512) (q2 : q.2 < 512) (h : bor p q = q) (l : List GEvent) : keptRow p (keptRow q l) = keptRow p l := by
 have hb1 : p.1 ||| q.1 = q.1 := congrArg Prod.fst h
 have hb2 : p.2 ||| q.2 = q.2 := congrArg Prod.snd h
 have hb3 : (p.2 ||| p.1) ||| (q.2 ||| q.1) = q.2 ||| q.1 := by
  rw [Nat.or_assoc, ← Nat.or_assoc p.1 q.2 q.1, Nat.or_comm p.1 q.2, Nat.or_assoc q.2 p.1 q.1, ← Nat.or_assoc p.2, hb2, hb1]
 have ht : timeB p.1 = true → timeB q.1 = true := by
  rw [time_test p1, time_test q1]; exact test_le hb1
 by_cases h0 : p = (0, 0)
 ·unfold keptRow; rw [if_pos h0, if_pos h0]
 have hq0 : q ≠ (0, 0) := fun e => h0 (bor_eq_zero.1 (h.trans e)).1
 by_cases hq2 : q.2 = 0
 ·have hp2 : p.2 = 0 := by rw [hq2] at hb2; exact (or_eq_zero.1 hb2).1
  rcases List.eq_nil_or_concat l with rfl | ⟨pre, x, hl⟩
  ·have : keptRow q [] = [] := by unfold keptRow; rw [if_neg hq0]; rfl
   rw [this]
  rw [List.concat_eq_append] at hl
  rw [hl, row_last hq0 hq2, row_last h0 hp2]
  have := row_last h0 hp2 [] (keepE q.1 (timeB q.1) x)
  rw [List.nil_append] at this
  rw [this, keepE_keepE p1 q1 hb1 ht]
 rw [row_all hq2]
 have hz := zipIdx_map (fun z : GEvent × Nat => if z.2 + 1 = l.length then keepE (q.2 ||| q.1) (timeB q.1) z.1 else keepE q.2 false z.1) l
 unfold keptRow
 rw [if_neg h0, if_neg h0, hz, List.flatMap_map, List.length_map, List.length_zipIdx]
 have : ∀ m : List (GEvent × Nat), m.flatMap (fun z => keepAt p l.length ((if z.2 + 1 = l.length then keepE (q.2 ||| q.1) (timeB q.1) z.1 else keepE q.2 false z.1), z.2)) = m.flatMap (keepAt p l.length) := fun m => by
  induction m with
  | nil => rfl
  | cons z m ih =>
   rw [List.flatMap_cons, List.flatMap_cons, ih]
   congr 1
   unfold keepAt
   by_cases hz : z.2 + 1 = l.length
   ·simp only [hz, if_true]
    rw [keepE_keepE (or_lt p2 p1) (or_lt q2 q1) hb3 ht]
   simp only [hz, if_false]
   by_cases hp2 : p.2 = 0
   ·rw [if_pos hp2, if_pos hp2]
   rw [if_neg hp2, if_neg hp2, keepE_keepE p2 q2 hb2 (fun h => h)]
 exact this _
theorem kept_kept {f h : NF} (fo : f.ok) (ho : h.ok) (hj : f.join h = h) (e : GEnv) : keptP f (keptP h e) = keptP f e := by
 unfold keptP
 simp only [GEnv.mk.injEq]
 rw [zipIdx_map (fun q : List GEvent × Nat => keptRow (h (q.2 : Int)) q.1) e.Vars, List.map_map]
 exact List.map_congr_left fun q _ => keptRow_keptRow (fo _).1 (fo _).2 (ho _).1 (ho _).2 (congrFun hj _) q.1
theorem chkF_canon {f : NF} (ho : f.ok) : ∀ {ks : List Int} {p : Int}, (∀ v ∈ ks, p < v ∧ 0 ≤ v ∧ v < 16 ∧ f v ≠ (0, 0)) → ks.Pairwise (· < ·) → chkF p (ks.map fun v => need v (f v)) = 0
 | [], _, _, _ => rfl
 | v :: ks, p, h, hp => by
  rw [List.pairwise_cons] at hp
  obtain ⟨a1, a2, a3, a4⟩ := h v (by simp)
  have o1 := (ho v).1
  have o2 := (ho v).2
  have e1 : (need v (f v)).Last = ((f v).1 : Int) := rfl
  have e2 : (need v (f v)).All = ((f v).2 : Int) := rfl
  have e3 : (need v (f v)).Var = v := rfl
  have hc : chk1 p (need v (f v)) = 0 := by
   unfold chk1
   rw [e1, e2, e3, if_neg (by omega), if_neg (by omega), if_neg]
   rintro ⟨h1, h2⟩
   exact a4 (Prod.ext (Int.ofNat.inj h1) (Int.ofNat.inj h2))
  rw [List.map_cons]
  unfold chkF
  rw [if_pos hc, e3]
  exact chkF_canon ho (fun w hw => ⟨hp.1 w hw, (h w (by simp [hw])).2⟩) hp.2
theorem chkN_canon {f : NF} (ho : f.ok) (hs : f.sup) : chkN (canon f) = 0 := by
 unfold chkN
 have := canon_len f
 rw [if_neg (by omega)]
 exact chkF_canon ho (fun v hv => by
  have h1 := (mem_keys hs).1 hv
  have h2 := hs v h1
  exact ⟨by omega, h2.1, h2.2, h1⟩) (keys_lt f)
theorem canon_inj {f g : NF} (hf : f.sup) (hg : g.sup) (h : canon f = canon g) : f = g := by
 funext v
 have h1 := of_law (N := 40000000) (Nat.le_refl _) hf v
 have h2 := of_law (N := 40000000) (Nat.le_refl _) hg v
 rw [h, h2] at h1
 have h3 := Option.some.inj h1
 unfold need at h3
 simp only [GNeed.mk.injEq, true_and] at h3
 exact (Prod.ext (Int.ofNat.inj h3.1) (Int.ofNat.inj h3.2)).symm
theorem settles_said {N : Nat} (hN : 40000000 ≤ N) (aw : law26_awake N = some true) (a b : List GNeed) (l : GS62) : law26_RegistersSettles N a b l = some true := by
 unfold law26_RegistersSettles
 obtain ⟨u, hu, hu1⟩ := few_env_eq hN l.E0
 obtain ⟨w, hw, hw1⟩ := few_env_eq hN l.E1
 rw [aw, hu, hw]
 simp only [Option.bind_some, if_true]
 split
 ·rfl
 split
 ·rfl
 split
 ·rfl
 rename_i h1 h2 h3
 have ha := hu1 (by simpa [nt_def] using h2)
 have hb := hw1 (by simpa [nt_def] using h3)
 obtain ⟨r, r1, _, r3, r4⟩ := join_eq hN a b
 obtain ⟨s, s1, _, s3, s4⟩ := join_eq hN b a
 rw [r1, s1]
 simp only [Option.bind_some]
 split
 ·rfl
 rename_i h4
 have h4 : r.2 = 0 ∧ s.2 = 0 := by
  rw [or_def, cmp_neq, cmp_neq] at h4
  simpa using h4
 obtain ⟨f, g, fo, fs, go, gs, ea, eb, er⟩ := r4 h4.1
 obtain ⟨f', g', fo', fs', go', gs', eb', ea', es⟩ := s4 h4.2
 have e1 : f' = g := canon_inj fs' gs (eb'.symm.trans eb)
 have e2 : g' = f := canon_inj gs' fs (ea'.symm.trans ea)
 subst e1; subst e2
 have ers : r.1 = s.1 := by rw [er, es, NF.join_comm]
 have jo := NF.ok_join fo go
 have js := NF.sup_join fs gs
 rw [← ers, er, ea]
 have red : ∀ {h : NF} (ho : h.ok) (hs : h.sup) {e : GEnv}, fewE e = true → registers_Reduce N (canon h) e = some (keptP h e, 0) := fun {h} ho hs {e} he => by
  rcases reduce_law hN (canon h) he with ⟨q0, _⟩ | ⟨h', _, hs', q1, _, q2, _⟩
  ·exact absurd (chkN_canon ho hs) q0
  have := canon_inj hs hs' q1; subst this; exact q2
 have agr : ∀ {h : NF} (ho : h.ok) (hs : h.sup), ∃ x : Bool, registers_Agree N (canon h) l.E0 l.E1 = some (x, 0) ∧ (x = true ↔ keptP h l.E0 = keptP h l.E1) := fun {h} ho hs => by
  rcases agree_law hN (canon h) ha hb with ⟨q0, _⟩ | ⟨h', _, hs', q1, _, q2, _⟩
  ·exact absurd (chkN_canon ho hs) q0
  have := canon_inj hs hs' q1; subst this
  exact ⟨_, q2, decide_eq_true_iff⟩
 obtain ⟨x, x1, x2⟩ := agr jo js
 obtain ⟨y, y1, y2⟩ := agr fo fs
 have k1 : keptP g' (keptP g' l.E0) = keptP g' l.E0 := kept_kept fo fo (NF.join_self _) _
 have hj : g'.join (g'.join f') = g'.join f' := by rw [← NF.join_assoc, NF.join_self]
 have k2 : ∀ e, keptP g' (keptP (g'.join f') e) = keptP g' e := kept_kept fo jo hj
 rw [red fo fs ha]
 simp only [Option.bind_some]
 rw [red fo fs (kept_few ha), red jo js ha]
 simp only [Option.bind_some]
 rw [red fo fs (kept_few ha), x1, y1]
 simp only [Option.bind_some]
 rw [k1, k2, if_neg (by simp [or_def, cmp_neq]), same_law _ (by have := canon_len (g'.join f'); omega) hN]
 simp only [Option.bind_some, if_true]
 rw [same_env hN (fewE_small (kept_few ha))]
 simp only [Option.bind_some, decide_true, if_true, Option.some.injEq, an_def, Bool.true_and, or_def, nt_def]
 cases hx : x with
 | false => rfl
 | true =>
  have : y = true := y2.2 (by rw [← k2 l.E0, ← k2 l.E1, x2.1 hx])
  rw [this]; rfl
end
end Go.Ab

namespace Go.Ab
noncomputable section
theorem range_badI {α A : Type} {F : α → Int} {body : Unit → α → Option (Unit ⊕ (A ⊕ Int))} : ∀ {l : List α}, (∀ x ∈ l, body () x = some (if F x = 0 then .inl () else .inr (.inr (F x)))) → rangeL body l () = some (if bad1 F l = 0 then .inl () else .inr (.inr (bad1 F l)))
 | [], _ => rfl
 | x :: l, h => by
  unfold rangeL
  rw [h x (by simp)]
  unfold bad1
  by_cases hx : F x = 0
  ·rw [if_pos hx, if_pos hx]
   exact range_badI fun y hy => h y (by simp [hy])
  rw [if_neg hx, if_neg hx, if_neg hx]
theorem loop_badI {α A : Type} {N : Nat} (hN : 40000000 ≤ N) (l : List α) (hl : l.length < 1000000) {u : A} {step : Int → Option (Int ⊕ (A ⊕ Int))} {F : α × Nat → Int}
 (hstep : ∀ (i : Nat) x, l[i]? = some x → (i : Int) < l.length → step i = some (if F (x, i) = 0 then .inl ((i : Int) + 1) else .inr (.inr (F (x, i)))))
 (hend : step (l.length : Int) = some (.inr (.inl u))) : loopN step N 0 = some (if bad1 F l.zipIdx = 0 then .inl u else .inr (bad1 F l.zipIdx)) := by
 rw [loop_idx l (by omega) (fun (_ : Unit) i => i) (fun _ q => some (if F q = 0 then .inl () else .inr (.inr (F q)))) (fun _ => .inl u) () (by omega) ?_ (fun _ => hend)]
 ·rw [range_badI (F := F) (fun x _ => rfl)]
  by_cases h : bad1 F l.zipIdx = 0
  ·rw [if_pos h, if_pos h]; rfl
  rw [if_neg h, if_neg h]; rfl
 intro s i x hx hi
 rw [hstep i x hx hi]
 by_cases h : F (x, i) = 0
 ·rw [if_pos h, if_pos h]; rfl
 rw [if_neg h, if_neg h]; rfl
theorem bad1_zipIdx {α : Type} {F : α → Int} (l : List α) : bad1 (fun q : α × Nat => F q.1) l.zipIdx = bad1 F l := by
 have : ∀ (l : List α) (k : Nat), bad1 (fun q : α × Nat => F q.1) (l.zipIdx k) = bad1 F l := fun l => by
  induction l with
  | nil => intro k; rfl
  | cons x l ih =>
   intro k
   rw [List.zipIdx_cons]
   unfold bad1
   rw [ih]
 exact this l 0
theorem loop_bad {α A : Type} {N : Nat} (hN : 40000000 ≤ N) (l : List α) (hl : l.length < 1000000) {u : A} {step : Int → Option (Int ⊕ (A ⊕ Int))} {F : α → Int}
 (hstep : ∀ (i : Nat) x, l[i]? = some x → (i : Int) < l.length → x ∈ l → step i = some (if F x = 0 then .inl ((i : Int) + 1) else .inr (.inr (F x))))
 (hend : step (l.length : Int) = some (.inr (.inl u))) : loopN step N 0 = some (if bad1 F l = 0 then .inl u else .inr (bad1 F l)) := by
 rw [loop_badI hN l hl (F := fun q : α × Nat => F q.1) (fun i x hx hi => hstep i x hx hi (List.mem_of_getElem? hx)) hend, bad1_zipIdx]
theorem range_any {α R : Type} {p : α → Bool} {r : R} {body : Unit → α → Option (Unit ⊕ R)} : ∀ {l : List α}, (∀ x ∈ l, body () x = some (if p x = true then .inr r else .inl ())) → rangeL body l () = some (if l.any p = true then .inr r else .inl ())
 | [], _ => rfl
 | x :: l, h => by
  unfold rangeL
  rw [h x (by simp), List.any_cons]
  by_cases hx : p x = true
  ·rw [if_pos hx, hx]; rfl
  rw [if_neg hx]
  rw [Bool.not_eq_true] at hx
  rw [hx, Bool.false_or]
  exact range_any fun y hy => h y (by simp [hy])
theorem loop_anyT {α A B : Type} {N : Nat} (hN : 40000000 ≤ N) (l : List α) {k : Nat} (hk : k ≤ l.length) (hl : l.length < 1000000) {u : A} {w : B} {step : Int → Option (Int ⊕ (A ⊕ B))} {p : α → Bool}
 (hstep : ∀ (i : Nat) x, l[i]? = some x → i < k → step i = some (if p x = true then .inr (.inr w) else .inl ((i : Int) + 1)))
 (hend : step (k : Int) = some (.inr (.inl u))) : loopN step N 0 = some (if (l.take k).any p = true then .inr w else .inl u) := by
 have hlen : (l.take k).length = k := by rw [List.length_take]; omega
 rw [loop_list (l.take k) (by omega) (fun (_ : Unit) i => i) (fun _ x => some (if p x = true then .inr (.inr w) else .inl ())) (fun _ => .inl u) () (by omega) ?_ (fun _ => by rw [hlen]; exact hend)]
 ·rw [range_any (p := p) (r := .inr w) (fun x _ => rfl)]
  by_cases h : (l.take k).any p = true
  ·rw [if_pos h, if_pos h]; rfl
  rw [if_neg h, if_neg h]; rfl
 intro s i x hx hi
 have hik : i < k := by omega
 rw [List.getElem?_take_of_lt hik] at hx
 rw [hstep i x hx hik]
 by_cases h : p x = true
 ·rw [if_pos h, if_pos h]; rfl
 rw [if_neg h, if_neg h]; rfl
theorem loop_index {α : Type} {N : Nat} (hN : 40000000 ≤ N) (l : List α) (hl : l.length < 1000000) {step : Int → Option (Int ⊕ (Unit ⊕ Int))} {p : α → Bool}
 (hstep : ∀ (i : Nat) x, l[i]? = some x → (i : Int) < l.length → step i = some (if p x = true then .inr (.inr (i : Int)) else .inl ((i : Int) + 1)))
 (hend : step (l.length : Int) = some (.inr (.inl ()))) : ∃ o, loopN step N 0 = some o ∧ ((l.any p = false ∧ o = .inl ()) ∨ (l.any p = true ∧ ∃ i : Nat, o = .inr (i : Int))) := by
 have key : ∀ (l : List α) (k : Nat), ∃ o, rangeL (R := Unit ⊕ Int) (fun (_ : Unit) (q : α × Nat) => some (if p q.1 = true then .inr (.inr (q.2 : Int)) else .inl ())) (l.zipIdx k) () = some o ∧ ((l.any p = false ∧ o = .inl ()) ∨ (l.any p = true ∧ ∃ i : Nat, o = .inr (.inr (i : Int)))) := fun l => by
  induction l with
  | nil => intro k; exact ⟨_, rfl, .inl ⟨rfl, rfl⟩⟩
  | cons x l ih =>
   intro k
   rw [List.zipIdx_cons, List.any_cons]
   unfold rangeL
   by_cases hx : p x = true
   ·simp only [hx, if_true]
    exact ⟨_, rfl, .inr ⟨rfl, k, rfl⟩⟩
   rw [Bool.not_eq_true] at hx
   simp only [hx, Bool.false_or]
   exact ih (k + 1)
 obtain ⟨o, h1, h2⟩ := key l 0
 rw [loop_idx l (by omega) (fun (_ : Unit) i => i) (fun _ q => some (if p q.1 = true then .inr (.inr (q.2 : Int)) else .inl ())) (fun _ => .inl ()) () (by omega) ?_ (fun _ => hend), h1]
 ·rcases h2 with ⟨h2, rfl⟩ | ⟨h2, i, rfl⟩
  ·exact ⟨_, rfl, .inl ⟨h2, rfl⟩⟩
  exact ⟨_, rfl, .inr ⟨h2, i, rfl⟩⟩
 intro s i x hx hi
 rw [hstep i x hx hi]
 by_cases h : p x = true
 ·rw [if_pos h, if_pos h]; rfl
 rw [if_neg h, if_neg h]; rfl
theorem lt_len {α : Type} {l : List α} {i : Nat} (h : (i : Int) < l.length) : Ar.cmp .lss (i : Int) (Ar.len l) = true := by rw [cmp_lss, len_def]; exact decide_eq_true h
theorem lt_end {α : Type} {l : List α} : ¬ Ar.cmp .lss (l.length : Int) (Ar.len l) = true := by rw [cmp_lss, len_def]; simp
theorem gt64 {α : Type} {l : List α} : (Ar.cmp .gtr (Ar.len l) 64 = true) ↔ 64 < l.length := by rw [cmp_gtr, len_def, decide_eq_true_eq]; omega
theorem slice_take {α : Type} {l : List α} {i : Nat} (h : i ≤ l.length) : sliceL l none (some (i : Int)) none = some (l.take i) := by
 unfold sliceL
 rw [if_pos]
 ·simp
 simp only [Option.getD_none, Option.getD_some]
 exact ⟨by omega, by omega, by omega, by omega, fun h => by cases h⟩
end
end Go.Ab

namespace Go.Ab
noncomputable section
def inB (i n : Int) : Bool := decide (0 ≤ i) && decide (i < n)
theorem eql_true {a b : Int} (h : a = b) : Ar.cmp .eql a b = true := by rw [cmp_eql]; exact decide_eq_true h
theorem eql_false {a b : Int} (h : ¬ a = b) : ¬ (Ar.cmp .eql a b = true) := by rw [cmp_eql]; simpa using h
theorem within_eq (N : Nat) (i n : Int) : automaton_within N i n = some (inB i n) := by
 unfold automaton_within inB
 rw [an_def, cmp_geq, cmp_lss]
theorem out_eq {N : Nat} (i : Int) {n : Int} (h0 : 0 ≤ n) (h1 : n < 1000000) : ref23_out N i (Ar.ar .sub .i64 n 1) = some (!inB i n) := by
 unfold ref23_out inB
 have e : Ar.ar .sub .i64 n 1 = n - 1 := wrap_i64 (by omega) (by omega)
 rw [e, or_def, cmp_lss, cmp_gtr, Option.some.injEq, Bool.not_and, ← decide_not, ← decide_not]
 congr 1
 ·exact decide_eq_decide.2 (by omega)
 exact decide_eq_decide.2 (by omega)
theorem out_eq' {N : Nat} (i n : Int) : ref23_out N i n = some (!inB i (n + 1)) := by
 unfold ref23_out inB
 rw [or_def, cmp_lss, cmp_gtr, Option.some.injEq, Bool.not_and, ← decide_not, ← decide_not]
 congr 1
 ·exact decide_eq_decide.2 (by omega)
 exact decide_eq_decide.2 (by omega)
def guardBad (a : GAutomaton) (l : List GGuard) (q : GGuard × Nat) : Int :=
 if (inB q.1.Scope a.Scopes && inB q.1.Typ 16 && inB q.1.Var a.Vars) = true then
  if ((l.take q.2).any fun h => decide (h.Scope = q.1.Scope)) = true then 7 else exprCheck q.1.Cond
 else 2
def guardsBad (a : GAutomaton) (l : List GGuard) : Int := if 64 < l.length then 5 else bad1 (guardBad a l) l.zipIdx
theorem contains_guard {N : Nat} (hN : 40000000 ≤ N) (l : List GGuard) (hl : l.length < 1000000) (g : GGuard) : slices_ContainsFunc_LGuard_Guard N l (fun y1 => automaton_guards_1 N y1 g) = some (l.any fun h => decide (h.Scope = g.Scope)) := by
 unfold slices_ContainsFunc_LGuard_Guard slices_IndexFunc_LGuard_Guard
 obtain ⟨o, h1, h2⟩ := loop_index hN l hl (step := fun (s1 : Int) =>
  (
   if Ar.cmp .lss s1 (Ar.len l) = true then
    (idxL l s1).bind fun x3 =>
    (automaton_guards_1 N x3 g).bind fun r4 =>
    if r4 = true then
     some (.inr (.inr s1))
    else
     some (.inl (Ar.ar .add .i64 s1 1))
   else
    some (.inr (.inl ()))
   : Option ((Int) ⊕ (Unit ⊕ Int)))) (p := fun h => decide (h.Scope = g.Scope)) (fun i x hx hi => by
  try dsimp only
  rw [if_pos (lt_len hi), idx_at, hx]
  simp only [Option.bind_some]
  unfold automaton_guards_1
  simp only [Option.bind_some]
  by_cases h : x.Scope = g.Scope
  ·rw [if_pos (eql_true h), if_pos (decide_eq_true h)]
  rw [if_neg (eql_false h), if_neg (by simpa using h), add_i64 (by omega) (by omega)]) (by (try dsimp only); rw [if_neg lt_end])
 rw [h1]
 rcases h2 with ⟨h2, rfl⟩ | ⟨h2, i, rfl⟩
 ·rw [h2]; rfl
 rw [h2]
 simp only [Option.bind_some, cmp_geq]
 rw [decide_eq_true (by omega)]
theorem fault {A : Type} {c : Int} {x : Int} : (if Ar.cmp .neq c 0 = true then some (Sum.inr (Sum.inr (α := A) c)) else some (Sum.inl (x : Int)) : Option (Int ⊕ (A ⊕ Int))) = some (if c = 0 then .inl x else .inr (.inr c)) := by
 by_cases h : c = 0
 ·rw [if_neg (by rw [cmp_neq, h]; decide), if_pos h]
 rw [if_pos (by rw [cmp_neq]; simpa using h), if_neg h]
def smallA (a : GAutomaton) : Prop := (0 ≤ a.Vars ∧ a.Vars ≤ 16) ∧ (0 ≤ a.Scopes ∧ a.Scopes ≤ 64)
theorem guards_eq {N : Nat} (hN : 40000000 ≤ N) (a : GAutomaton) (l : List GGuard) (hb : ∀ g ∈ l, g.Cond.bulk ≤ 16777216) : automaton_guards N a l = some (guardsBad a l) := by
 unfold automaton_guards guardsBad
 by_cases h64 : 64 < l.length
 ·rw [if_pos (gt64.2 h64), if_pos h64]
 rw [if_neg (fun h => h64 (gt64.1 h)), if_neg h64]
 rw [loop_badI hN l (by omega) (F := guardBad a l) (u := ()) ?_ ?_]
 ·by_cases h : bad1 (guardBad a l) l.zipIdx = 0
  ·rw [if_pos h, h]; rfl
  rw [if_neg h]; rfl
 ·intro i g hg hi
  try dsimp only
  rw [if_pos (lt_len hi), idx_at, hg]
  simp only [Option.bind_some, within_eq, slice_take (show i ≤ l.length by omega), contains_guard hN (l.take i) (by rw [List.length_take]; omega) g, check_eq8 hN (hb g (List.mem_of_getElem? hg)), add_i64 (show -9223372036854775808 ≤ (i : Int) + 1 by omega) (by omega)]
  unfold guardBad
  generalize inB g.Scope a.Scopes = b1
  generalize inB g.Typ 16 = b2
  generalize inB g.Var a.Vars = b3
  generalize ((l.take i).any fun h => decide (h.Scope = g.Scope)) = b4
  generalize exprCheck g.Cond = c
  cases b1 <;> cases b2 <;> cases b3 <;> cases b4 <;> first | rfl | exact fault
 try dsimp only
 rw [if_neg lt_end]
theorem guards_eqr {N : Nat} (hN : 40000000 ≤ N) (a : GAutomaton) (ha : smallA a) (l : List GGuard) (hb : ∀ g ∈ l, g.Cond.bulk ≤ 16777216) : ref23_guards N a l = some (guardsBad a l) := by
 unfold ref23_guards guardsBad
 by_cases h64 : 64 < l.length
 ·rw [if_pos (gt64.2 h64), if_pos h64]
 rw [if_neg (fun h => h64 (gt64.1 h)), if_neg h64]
 rw [loop_badI hN l (by omega) (F := guardBad a l) (u := ()) ?_ ?_]
 ·by_cases h : bad1 (guardBad a l) l.zipIdx = 0
  ·rw [if_pos h, h]; rfl
  rw [if_neg h]; rfl
 ·intro i g hg hi
  try dsimp only
  have hin := loop_anyT hN l (k := i) (by omega) (by omega) (u := ()) (w := ()) (p := fun h => decide (h.Scope = g.Scope)) (step := (fun (s9 : Int) =>
   (
    if Ar.cmp .lss s9 (i : Int) = true then
     (idxL l s9).bind fun x11 =>
     if Ar.cmp .eql x11.Scope g.Scope = true then
      some (.inr (.inr ()))
     else
      some (.inl (Ar.ar .add .i64 s9 1))
    else
     some (.inr (.inl ()))
    : Option ((Int) ⊕ (Unit ⊕ Unit))))) (fun j x hx hj => by
   try dsimp only
   rw [if_pos (by rw [cmp_lss]; exact decide_eq_true (by omega)), idx_at, hx]
   simp only [Option.bind_some]
   rw [add_i64 (by omega) (by omega)]
   by_cases hp : x.Scope = g.Scope
   ·rw [if_pos (eql_true hp), if_pos (decide_eq_true hp)]
   rw [if_neg (eql_false hp), if_neg (by simpa using hp)]) (by (try dsimp only); rw [if_neg (by rw [cmp_lss]; simp)])
  rw [if_pos (lt_len hi)]
  have hg' : idxL l (i : Int) = some g := by rw [idx_at, hg]
  rw [hg']
  simp only [Option.bind_some]
  rw [hin]
  simp only [Option.bind_some, out_eq g.Scope ha.2.1 (by have := ha.2.2; omega), out_eq g.Var ha.1.1 (by have := ha.1.2; omega), out_eq' g.Typ, check_eq8r hN (hb g (List.mem_of_getElem? hg)), add_i64 (show -9223372036854775808 ≤ (i : Int) + 1 by omega) (by omega)]
  unfold guardBad
  rw [show (15 : Int) + 1 = 16 from rfl]
  generalize inB g.Scope a.Scopes = b1
  generalize inB g.Typ 16 = b2
  generalize inB g.Var a.Vars = b3
  generalize ((l.take i).any fun h => decide (h.Scope = g.Scope)) = b4
  generalize exprCheck g.Cond = c
  cases b1 <;> cases b2 <;> cases b3 <;> cases b4 <;> first | rfl | exact fault
 try dsimp only
 rw [if_neg lt_end]
def scopeBad (sc : Int) (l : List Int) (q : Int × Nat) : Int := if inB q.1 sc = true then (if ((l.take q.2).any fun h => decide (h = q.1)) = true then 7 else 0) else 2
def uniqBad (sc : Int) (l : List Int) : Int := bad1 (scopeBad sc l) l.zipIdx
theorem contains_int {N : Nat} (hN : 40000000 ≤ N) (l : List Int) (hl : l.length < 1000000) (v : Int) : slices_Contains_Lint_int N l v = some (l.any fun h => decide (h = v)) := by
 unfold slices_Contains_Lint_int slices_Index_Lint_int
 obtain ⟨o, h1, h2⟩ := loop_index hN l hl (step := fun (s1 : Int) =>
  (
   if Ar.cmp .lss s1 (Ar.len l) = true then
    (idxL l s1).bind fun x3 =>
    if Ar.cmp .eql v x3 = true then
     some (.inr (.inr s1))
    else
     some (.inl (Ar.ar .add .i64 s1 1))
   else
    some (.inr (.inl ()))
   : Option ((Int) ⊕ (Unit ⊕ Int)))) (p := fun h => decide (h = v)) (fun i x hx hi => by
  try dsimp only
  rw [if_pos (lt_len hi), idx_at, hx]
  simp only [Option.bind_some]
  by_cases h : x = v
  ·rw [if_pos (eql_true h.symm), if_pos (decide_eq_true h)]
  rw [if_neg (eql_false fun e => h e.symm), if_neg (by simpa using h), add_i64 (by omega) (by omega)]) (by (try dsimp only); rw [if_neg lt_end])
 rw [h1]
 rcases h2 with ⟨h2, rfl⟩ | ⟨h2, i, rfl⟩
 ·rw [h2]; rfl
 rw [h2]
 simp only [Option.bind_some, cmp_geq]
 rw [decide_eq_true (by omega)]
theorem scopes_eq {N : Nat} (hN : 40000000 ≤ N) (a : GAutomaton) (ls : List (List Int)) (hls : ls.length < 1000) (hl : ∀ l ∈ ls, l.length < 1000000) : automaton_scopes N a ls = some (bad1 (uniqBad a.Scopes) ls) := by
 unfold automaton_scopes
 rw [loop_bad hN ls (by omega) (F := uniqBad a.Scopes) (u := ()) ?_ ?_]
 ·by_cases h : bad1 (uniqBad a.Scopes) ls = 0
  ·rw [if_pos h, h]; rfl
  rw [if_neg h]; rfl
 ·intro i l hx hi hm
  try dsimp only
  have hll := hl l hm
  rw [if_pos (lt_len hi), idx_at, hx]
  simp only [Option.bind_some]
  rw [loop_badI hN l hll (F := scopeBad a.Scopes l) (u := ()) ?_ ?_]
  ·rw [add_i64 (by omega) (by omega)]
   unfold uniqBad
   by_cases h : bad1 (scopeBad a.Scopes l) l.zipIdx = 0
   ·rw [if_pos h, if_pos h]; rfl
   rw [if_neg h, if_neg h]; rfl
  ·intro j s hs hj
   try dsimp only
   rw [if_pos (lt_len hj), idx_at, hs]
   simp only [Option.bind_some, within_eq, slice_take (show j ≤ l.length by omega), contains_int hN (l.take j) (by rw [List.length_take]; omega) s, add_i64 (show -9223372036854775808 ≤ (j : Int) + 1 by omega) (by omega)]
   unfold scopeBad
   generalize inB s a.Scopes = b1
   generalize ((l.take j).any fun h => decide (h = s)) = b4
   cases b1 <;> cases b4 <;> rfl
  try dsimp only
  rw [if_neg lt_end]
 try dsimp only
 rw [if_neg lt_end]
theorem unique_eq {N : Nat} (hN : 40000000 ≤ N) {sc : Int} (h0 : 0 ≤ sc) (h1 : sc ≤ 64) (l : List Int) (hll : l.length < 1000000) : ref23_unique N l sc = some (uniqBad sc l) := by
 unfold ref23_unique uniqBad
 rw [loop_badI hN l hll (F := scopeBad sc l) (u := ()) ?_ ?_]
 ·by_cases h : bad1 (scopeBad sc l) l.zipIdx = 0
  ·rw [if_pos h, h]; rfl
  rw [if_neg h]; rfl
 ·intro i g hg hi
  try dsimp only
  have hin := loop_anyT hN l (k := i) (by omega) (by omega) (u := ()) (w := ()) (p := fun h => decide (h = g)) (step := (fun (s5 : Int) =>
              (
               if Ar.cmp .lss s5 (i : Int) = true then
                (idxL l s5).bind fun x7 =>
                if Ar.cmp .eql x7 g = true then
                 some (.inr (.inr ()))
                else
                 some (.inl (Ar.ar .add .i64 s5 1))
               else
                some (.inr (.inl ()))
               : Option ((Int) ⊕ (Unit ⊕ Unit))))) (fun j x hx hj => by
   try dsimp only
   rw [if_pos (by rw [cmp_lss]; exact decide_eq_true (by omega)), idx_at, hx]
   simp only [Option.bind_some]
   rw [add_i64 (by omega) (by omega)]
   by_cases hp : x = g
   ·rw [if_pos (eql_true hp), if_pos (decide_eq_true hp)]
   rw [if_neg (eql_false hp), if_neg (by simpa using hp)]) (by (try dsimp only); rw [if_neg (by rw [cmp_lss]; simp)])
  rw [if_pos (lt_len hi)]
  have hg' : idxL l (i : Int) = some g := by rw [idx_at, hg]
  rw [hg']
  simp only [Option.bind_some]
  rw [hin]
  simp only [Option.bind_some, out_eq g h0 (by omega), add_i64 (show -9223372036854775808 ≤ (i : Int) + 1 by omega) (by omega)]
  unfold scopeBad
  generalize inB g sc = b1
  generalize ((l.take i).any fun h => decide (h = g)) = b4
  cases b1 <;> cases b4 <;> rfl
 try dsimp only
 rw [if_neg lt_end]
end
end Go.Ab

namespace Go.Ab
noncomputable section
def spanBad (x : GLimit) : Bool := decide (x.Span < 0) || decide (1099511627776 < x.Span)
theorem limited_eq {N : Nat} (hN : 40000000 ≤ N) (l : List GLimit) (hl : l.length ≤ 1000) : automaton_limited N l = some (l.map (·.Scope)) := by
 unfold automaton_limited
 rw [loop_list l (by omega) (fun (s : List Int) i => (s, i)) (fun s x => (appL s [x.Scope]).bind fun l => some (.inl l)) (fun s => s) [] (by omega) ?_ ?_]
 ·rw [range_mapR (g := fun x : GLimit => x.Scope) (fun s x _ h2 => by unfold appL; rw [if_pos (by simp; omega)]; rfl) (by simp; omega)]
  rfl
 ·intro s i x hx hi
  try dsimp only
  rw [if_pos (lt_len hi), idx_at, hx]
  simp only [Option.bind_some]
  rw [add_i64 (by omega) (by omega)]
  cases appL s [x.Scope] <;> rfl
 intro s
 try dsimp only
 rw [if_neg lt_end]
theorem contains_span {N : Nat} (hN : 40000000 ≤ N) (l : List GLimit) (hl : l.length < 1000000) : slices_ContainsFunc_LLimit_Limit N l (fun y1 => automaton_edge_1 N y1) = some (l.any spanBad) := by
 unfold slices_ContainsFunc_LLimit_Limit slices_IndexFunc_LLimit_Limit
 obtain ⟨o, h1, h2⟩ := loop_index hN l hl (step := fun (s1 : Int) =>
  (
   if Ar.cmp .lss s1 (Ar.len l) = true then
    (idxL l s1).bind fun x3 =>
    (automaton_edge_1 N x3).bind fun r4 =>
    if r4 = true then
     some (.inr (.inr s1))
    else
     some (.inl (Ar.ar .add .i64 s1 1))
   else
    some (.inr (.inl ()))
   : Option ((Int) ⊕ (Unit ⊕ Int)))) (p := spanBad) (fun i x hx hi => by
  try dsimp only
  rw [if_pos (lt_len hi), idx_at, hx]
  simp only [Option.bind_some]
  have e : automaton_edge_1 N x = some (spanBad x) := by
   unfold automaton_edge_1 spanBad
   rw [or_def, cmp_lss, cmp_gtr]
  rw [e]
  simp only [Option.bind_some]
  rw [add_i64 (by omega) (by omega)]
  by_cases h : spanBad x = true
  ·rw [if_pos h, if_pos h]
  rw [if_neg h, if_neg h]) (by (try dsimp only); rw [if_neg lt_end])
 rw [h1]
 rcases h2 with ⟨h2, rfl⟩ | ⟨h2, i, rfl⟩
 ·rw [h2]; rfl
 rw [h2]
 simp only [Option.bind_some, cmp_geq]
 rw [decide_eq_true (by omega)]
def edgeIn (a : GAutomaton) (x : GEdge) : Bool := inB x.From a.States.length && (decide (-1 ≤ x.To) && decide (x.To < a.States.length)) && inB x.Var a.Vars && inB x.Typ 16
def listsOf (x : GEdge) : List (List Int) := [x.Opens, x.Closes, x.Inside, x.Limits.map (·.Scope)]
def edgeBad (a : GAutomaton) (x : GEdge) (before : Int) : Int :=
 if edgeIn a x = true then
  if x.From < before then 14 else
  if exprCheck x.Cond ≠ 0 then exprCheck x.Cond else
  if 64 < x.Checks.length then 5 else
  if bad1 exprCheck x.Checks ≠ 0 then bad1 exprCheck x.Checks else
  if bad1 (uniqBad a.Scopes) (listsOf x) ≠ 0 then bad1 (uniqBad a.Scopes) (listsOf x) else
  if x.Limits.any spanBad = true then 2 else 0
 else 2
def smallX (x : GEdge) : Prop := x.Cond.bulk ≤ 16777216 ∧ (∀ c ∈ x.Checks, c.bulk ≤ 16777216) ∧ x.Checks.length < 1000000 ∧ x.Opens.length < 1000000 ∧ x.Closes.length < 1000000 ∧ x.Inside.length < 1000000 ∧ x.Limits.length ≤ 1000
theorem checks_eq {N : Nat} (hN : 40000000 ≤ N) (l : List GExpr) (hl : l.length < 1000000) {C : GExpr → Option Int} (hC : ∀ c ∈ l, C c = some (exprCheck c)) : loopN (fun (s5 : Int) =>
                  (
                   if Ar.cmp .lss s5 (Ar.len l) = true then
                    (idxL l s5).bind fun x7 =>
                    (C x7).bind fun r8 =>
                    if Ar.cmp .neq r8 0 = true then
                     some (.inr (.inr r8))
                    else
                     some (.inl (Ar.ar .add .i64 s5 1))
                   else
                    some (.inr (.inl ()))
                   : Option ((Int) ⊕ (Unit ⊕ Int)))) N 0 = some (if bad1 exprCheck l = 0 then .inl () else .inr (bad1 exprCheck l)) := by
 refine loop_bad hN l hl (F := exprCheck) (u := ()) (fun i x hx hi hm => ?_) ?_
 ·try dsimp only
  rw [if_pos (lt_len hi), idx_at, hx]
  simp only [Option.bind_some, hC x hm, add_i64 (show -9223372036854775808 ≤ (i : Int) + 1 by omega) (by omega)]
  exact fault
 try dsimp only
 rw [if_neg lt_end]
theorem listsOf_len {x : GEdge} (hx : smallX x) : ∀ l ∈ listsOf x, l.length < 1000000 := by
 obtain ⟨_, _, _, h1, h2, h3, h4⟩ := hx
 intro l hl
 unfold listsOf at hl
 simp only [List.mem_cons, List.not_mem_nil, or_false] at hl
 rcases hl with rfl | rfl | rfl | rfl
 ·exact h1
 ·exact h2
 ·exact h3
 simp; omega
theorem edge_eq {N : Nat} (hN : 40000000 ≤ N) (a : GAutomaton) (x : GEdge) (b : Int) (hx : smallX x) (ha : a.States.length < 1000000) : automaton_edge N a x b = some (edgeBad a x b) := by
 have hls := listsOf_len hx
 obtain ⟨s1, s2, s3, s4, s5, s6, s7⟩ := hx
 unfold automaton_edge
 rw [check_eq8 hN s1, checks_eq hN x.Checks s3 (C := expr_Check N) (fun c hc => check_eq8 hN (s2 c hc)), limited_eq hN x.Limits s7]
 simp only [within_eq, Option.bind_some]
 have e1 : automaton_scopes N a [x.Opens, x.Closes, x.Inside, x.Limits.map fun y => y.Scope] = some (bad1 (uniqBad a.Scopes) (listsOf x)) := scopes_eq hN a (listsOf x) (by show 4 < _; omega) hls
 rw [e1, contains_span hN _ (by omega)]
 simp only [Option.bind_some]
 unfold edgeBad edgeIn
 have f1 : Ar.or (Ar.or (Ar.nt (inB x.From (Ar.len a.States))) (Ar.cmp .lss x.To (-1))) (Ar.cmp .geq x.To (Ar.len a.States)) = !(inB x.From a.States.length && (decide (-1 ≤ x.To) && decide (x.To < a.States.length))) := by
  rw [or_def, or_def, nt_def, cmp_lss, cmp_geq, len_def, Bool.not_and, Bool.not_and, ← decide_not, ← decide_not, Bool.or_assoc]
  congr 1
  congr 1
  ·exact decide_eq_decide.2 (by omega)
  exact decide_eq_decide.2 (by omega)
 rw [f1]
 generalize (inB x.From a.States.length && (decide (-1 ≤ x.To) && decide (x.To < a.States.length))) = b1
 generalize inB x.Var a.Vars = b2
 generalize inB x.Typ 16 = b3
 generalize bad1 (uniqBad a.Scopes) (listsOf x) = c3
 generalize x.Limits.any spanBad = b4
 generalize exprCheck x.Cond = c1
 generalize bad1 exprCheck x.Checks = c2
 cases b1
 ·rfl
 cases b2
 ·rfl
 cases b3
 ·rfl
 show (if Ar.cmp .lss x.From b = true then _ else _) = some (if x.From < b then _ else _)
 by_cases h1 : x.From < b
 ·rw [if_pos (by rw [cmp_lss]; exact decide_eq_true h1), if_pos h1]
 rw [if_neg (by rw [cmp_lss]; simpa using h1), if_neg h1]
 by_cases h2 : c1 = 0
 ·rw [if_neg (show ¬ (Ar.cmp .neq c1 0 = true) by rw [cmp_neq, h2]; decide), if_neg (show ¬ (c1 ≠ 0) from fun k => k h2)]
  by_cases h3 : 64 < x.Checks.length
  ·rw [if_pos (gt64.2 h3), if_pos h3]
  rw [if_neg (fun h => h3 (gt64.1 h)), if_neg h3]
  by_cases h4 : c2 = 0
  ·rw [if_pos h4, if_neg (show ¬ (c2 ≠ 0) from fun k => k h4)]
   dsimp only
   by_cases h5 : c3 = 0
   ·rw [if_neg (show ¬ (Ar.cmp .neq c3 0 = true) by rw [cmp_neq, h5]; decide), if_neg (show ¬ (c3 ≠ 0) from fun k => k h5)]
    cases b4 <;> rfl
   rw [if_pos (show Ar.cmp .neq c3 0 = true by rw [cmp_neq]; simpa using h5), if_pos h5]
  rw [if_neg h4, if_pos h4]
 rw [if_pos (show Ar.cmp .neq c1 0 = true by rw [cmp_neq]; simpa using h2), if_pos h2]
theorem lists_eq {N : Nat} (hN : 40000000 ≤ N) (a : GAutomaton) (x : GEdge) (hx : smallX x) (ha : smallA a) : ref23_lists N a x = some (if bad1 (uniqBad a.Scopes) (listsOf x) ≠ 0 then bad1 (uniqBad a.Scopes) (listsOf x) else if x.Limits.any spanBad = true then 2 else 0) := by
 have hls := listsOf_len hx
 obtain ⟨_, _, _, _, _, _, s7⟩ := hx
 unfold ref23_lists
 have e0 := limited_eq hN x.Limits s7
 unfold automaton_limited at e0
 have e0' := e0
 rw [show (∀ o : Option (List Int), (o.bind fun s3 => some s3) = o) from fun o => by cases o <;> rfl] at e0'
 rw [e0']
 simp only [Option.bind_some]
 rw [loop_bad hN (listsOf x) (by show 4 < _; omega) (F := uniqBad a.Scopes) (u := ()) ?_ ?_]
 ·rw [show (loopN
   (fun (s13 : Int) =>
    (
     if Ar.cmp .lss s13 (Ar.len x.Limits) = true then
      (idxL x.Limits s13).bind fun x15 =>
      (ref23_out N x15.Span 1099511627776).bind fun r16 =>
      if r16 = true then
       some (.inr (.inr ()))
      else
       some (.inl (Ar.ar .add .i64 s13 1))
     else
      some (.inr (.inl ()))
     : Option ((Int) ⊕ (Unit ⊕ Unit))))
   N 0) = some (if x.Limits.any spanBad = true then .inr () else .inl ()) from ?_]
  ·generalize bad1 (uniqBad a.Scopes) (listsOf x) = c
   by_cases h : c = 0
   ·rw [if_pos h, if_neg (show ¬ (c ≠ 0) from fun k => k h)]
    simp only [Option.bind_some]
    generalize x.Limits.any spanBad = b4
    cases b4 <;> rfl
   rw [if_neg h, if_pos h]; rfl
  have := loop_anyT hN x.Limits (k := x.Limits.length) (Nat.le_refl _) (by omega) (u := ()) (w := ()) (p := spanBad) (step := (fun (s13 : Int) =>
   (
    if Ar.cmp .lss s13 (Ar.len x.Limits) = true then
     (idxL x.Limits s13).bind fun x15 =>
     (ref23_out N x15.Span 1099511627776).bind fun r16 =>
     if r16 = true then
      some (.inr (.inr ()))
     else
      some (.inl (Ar.ar .add .i64 s13 1))
    else
     some (.inr (.inl ()))
    : Option ((Int) ⊕ (Unit ⊕ Unit))))) (fun i y hy hi => by
   try dsimp only
   rw [if_pos (lt_len (by omega)), idx_at, hy]
   simp only [Option.bind_some]
   have e : ref23_out N y.Span 1099511627776 = some (spanBad y) := by
    unfold ref23_out spanBad
    rw [or_def, cmp_lss, cmp_gtr]
   rw [e]
   simp only [Option.bind_some]
   rw [add_i64 (by omega) (by omega)]
   by_cases h : spanBad y = true
   ·rw [if_pos h, if_pos h]
   rw [if_neg h, if_neg h]) (by (try dsimp only); rw [if_neg lt_end])
  rw [this, List.take_length]
 ·intro i l hl hi hm
  try dsimp only
  have hl' : idxL [x.Opens, x.Closes, x.Inside, x.Limits.map fun y => y.Scope] (i : Int) = some l := by rw [idx_at]; exact hl
  have hlt : Ar.cmp .lss (i : Int) (Ar.len [x.Opens, x.Closes, x.Inside, x.Limits.map fun y => y.Scope]) = true := lt_len hi
  rw [if_pos hlt, hl']
  simp only [Option.bind_some, unique_eq hN ha.2.1 ha.2.2 l (hls l hm)]
  have : (listsOf x).length = 4 := rfl
  rw [add_i64 (by omega) (by omega)]
  exact fault
 try dsimp only
 have hlt : ¬ Ar.cmp .lss ((listsOf x).length : Int) (Ar.len [x.Opens, x.Closes, x.Inside, x.Limits.map fun y => y.Scope]) = true := lt_end
 rw [if_neg hlt]
theorem edge_eqr {N : Nat} (hN : 40000000 ≤ N) (a : GAutomaton) (x : GEdge) (b : Int) (hx : smallX x) (ha : smallA a) (hs : a.States.length < 1000000) : ref23_edge N a x b = some (edgeBad a x b) := by
 have hl := lists_eq hN a x hx ha
 obtain ⟨s1, s2, s3, s4, s5, s6, s7⟩ := hx
 unfold ref23_edge
 rw [check_eq8r hN s1, checks_eq hN x.Checks s3 (C := ref08_Check N) (fun c hc => check_eq8r hN (s2 c hc)), hl]
 simp only [len_def, out_eq x.From (show 0 ≤ (a.States.length : Int) by omega) (by omega), out_eq x.To (show 0 ≤ (a.States.length : Int) by omega) (by omega), out_eq x.Var ha.1.1 (by have := ha.1.2; omega), out_eq' x.Typ, Option.bind_some]
 rw [show (15 : Int) + 1 = 16 from rfl]
 unfold edgeBad edgeIn
 have f2 : (decide (-1 ≤ x.To) && decide (x.To < a.States.length)) = (decide (x.To = -1) || inB x.To a.States.length) := by
  unfold inB
  rw [Bool.eq_iff_iff]
  simp only [Bool.and_eq_true, Bool.or_eq_true, decide_eq_true_eq]
  omega
 rw [f2]
 generalize inB x.From a.States.length = b0
 generalize inB x.To a.States.length = b1
 generalize inB x.Var a.Vars = b2
 generalize inB x.Typ 16 = b3
 generalize bad1 (uniqBad a.Scopes) (listsOf x) = c3
 generalize x.Limits.any spanBad = b4
 generalize exprCheck x.Cond = c1
 generalize bad1 exprCheck x.Checks = c2
 have tail : (if Ar.cmp .lss x.From b = true then some 14
  else if Ar.cmp .neq c1 0 = true then some c1
   else if Ar.cmp .gtr ((x.Checks.length : Nat) : Int) 64 = true then some 5
    else
     match (if c2 = 0 then Sum.inl () else Sum.inr c2 : Unit ⊕ Int) with
     | .inl _ => some (if c3 ≠ 0 then c3 else if b4 = true then 2 else 0)
     | .inr y => some y) = some (if x.From < b then 14 else
  if c1 ≠ 0 then c1 else
  if 64 < x.Checks.length then 5 else
  if c2 ≠ 0 then c2 else
  if c3 ≠ 0 then c3 else
  if b4 = true then 2 else 0) := by
  by_cases h1 : x.From < b
  ·rw [if_pos (by rw [cmp_lss]; exact decide_eq_true h1), if_pos h1]
  rw [if_neg (by rw [cmp_lss]; simpa using h1), if_neg h1]
  by_cases h2 : c1 = 0
  ·rw [if_neg (show ¬ (Ar.cmp .neq c1 0 = true) by rw [cmp_neq, h2]; decide), if_neg (show ¬ (c1 ≠ 0) from fun k => k h2)]
   by_cases h3 : 64 < x.Checks.length
   ·rw [if_pos (show Ar.cmp .gtr ((x.Checks.length : Nat) : Int) 64 = true from gt64.2 h3), if_pos h3]
   rw [if_neg (show ¬ Ar.cmp .gtr ((x.Checks.length : Nat) : Int) 64 = true from fun h => h3 (gt64.1 h)), if_neg h3]
   by_cases h4 : c2 = 0
   ·rw [if_pos h4, if_neg (show ¬ (c2 ≠ 0) from fun k => k h4)]
   rw [if_neg h4, if_pos h4]
  rw [if_pos (show Ar.cmp .neq c1 0 = true by rw [cmp_neq]; simpa using h2), if_pos h2]
 cases b0
 ·rfl
 by_cases hT : x.To = -1
 ·rw [if_neg (by decide), if_neg (by rw [cmp_neq, hT]; decide), decide_eq_true hT]
  cases b2
  ·rfl
  cases b3
  ·rfl
  exact tail
 rw [if_neg (by decide), if_pos (by rw [cmp_neq]; simpa using hT), decide_eq_false hT]
 cases b1
 ·rfl
 cases b2
 ·rfl
 cases b3
 ·rfl
 exact tail
end
end Go.Ab

