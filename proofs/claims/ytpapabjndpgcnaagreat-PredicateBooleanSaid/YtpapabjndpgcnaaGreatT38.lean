/- GPL17 -/
import Derived.Test.YtpapabjndpgcnaaGreatT37
set_option linter.all false

namespace Go.Ab
set_option maxRecDepth 100000
theorem combines_law (aw : law27_awake 40000000 = some true) (p q : GPredicate) : law27_PredicateCombines 40000000 p q = some true := by
 unfold law27_PredicateCombines
 obtain ⟨b, hb, hb'⟩ := few_eq (N := 40000000) (p := p) (by decide)
 obtain ⟨c, hc, hc'⟩ := few_eq (N := 40000000) (p := q) (by decide)
 rw [hb, hc]
 simp only [Option.bind_some, aw, nt_def]
 cases b with
 | false => simp
 | true =>
  cases c with
  | false => simp
  | true =>
   have hp := (hb' rfl).2
   have hq := (hc' rfl).2
   have lp := (hb' rfl).1
   obtain ⟨r, a1, a2, a3, a4, a5⟩ := and_eq (N := 40000000) (p := p) (q := q) (j := 12) (m := 12) hp hq (by decide) (by decide)
   obtain ⟨s, b1, b2, b3, b4, b5⟩ := or_eq (N := 40000000) (p := p) (q := q) (j := 12) (m := 12) hp hq (by decide) (by decide)
   obtain ⟨t, c1, c2, c3, c4, c5⟩ := not_eq (N := 40000000) (p := p) (j := 12) hp (by decide) (by decide)
   have small : ∀ (x : GPredicate × Int), x.1.Sets.length ≤ 100000 → Sm 256 x.1 → ref27_Same 40000000 x.1 x.1 = some true := fun x h k => same_refl k h (by decide)
   simp only [a1, a2, b1, b2, c1, c2, small r (by omega) a4, small s (by omega) b4, small t (by omega) c4, Option.bind_some, cmp_eql, decide_true, an_def, Bool.and_self, Bool.not_true, Bool.false_eq_true, if_false, if_true]
theorem zero_fm {x : GInterval} (h : -1099511627776 ≤ x.Low ∧ x.Low ≤ x.High ∧ x.High ≤ 1099511627776) : fm x = 0 := by
 unfold fm
 rw [if_neg (by omega), if_neg (by omega)]
theorem zero_ck {l : List GInterval} (h : Srt l) : ck l = 0 := by
 unfold ck
 rw [if_neg (by have := h.1; omega)]
 refine fb_zero.2 fun k x hx => ?_
 unfold fi
 have hxb := h.2.1 x (List.mem_of_getElem? hx)
 rw [if_pos (zero_fm hxb)]
 split
 ·rename_i hk
  split
  ·rename_i y hy
   have := h.2.2 (k - 1) y x (by simpa using hy) (by rw [← hx]; congr 1; omega)
   have hyb := h.2.1 y (List.mem_of_getElem? hy)
   rw [add_i64 (by omega) (by omega), if_neg (by omega)]
  ·rfl
 ·rfl
theorem zero_own {p : GPredicate} (h0 : 1 ≤ p.Sets.length ∧ p.Sets.length ≤ 16) (h : ∀ x ∈ p.Sets, Srt x) : own1 p = 0 := by
 unfold own1 pck
 rw [if_neg (by omega), if_neg (by simp)]
 exact fb_zero.2 fun k x hx => zero_ck (h x (List.mem_of_getElem? hx))
theorem Cn.srt {P : Int → Prop} {l : List GInterval} (h : Cn P l) : Srt l := h.1.srt h.2.1
theorem srt_cn {l : List GInterval} (h : Srt l) : Cn (InL l) l := ⟨h.ord, h.1, fun _ => Iff.rfl⟩
theorem Bi.own {P : (Int → Prop) → (Int → Prop) → Int → Prop} {k : Nat} {p q r : GPredicate} (h : Bi P k p q r) (hl : p.Sets.length = q.Sets.length) (h0 : 1 ≤ p.Sets.length ∧ p.Sets.length ≤ 16) : own1 r = 0 ∧ Sm k r := by
 have at_ : ∀ x ∈ r.Sets, Srt x ∧ x.length ≤ k := fun x hx => by
  obtain ⟨i, hi⟩ := List.getElem?_of_mem hx
  have hil := (List.getElem?_eq_some_iff.1 hi).1
  have hr := h.1
  have := h.2 i _ _ x (List.getElem?_eq_getElem (show i < p.Sets.length by omega)) (List.getElem?_eq_getElem (show i < q.Sets.length by omega)) hi
  exact ⟨this.1.srt, this.2⟩
 exact ⟨zero_own (by rw [h.1]; exact h0) fun x hx => (at_ x hx).1, fun x hx => (at_ x hx).2⟩
theorem Un.own {k : Nat} {p r : GPredicate} (h : Un k p r) (h0 : 1 ≤ p.Sets.length ∧ p.Sets.length ≤ 16) : own1 r = 0 ∧ Sm k r := by
 have at_ : ∀ x ∈ r.Sets, Srt x ∧ x.length ≤ k := fun x hx => by
  obtain ⟨i, hi⟩ := List.getElem?_of_mem hx
  have hil := (List.getElem?_eq_some_iff.1 hi).1
  have hr := h.1
  have := h.2 i _ x (List.getElem?_eq_getElem (show i < p.Sets.length by omega)) hi
  exact ⟨this.1.srt, this.2⟩
 exact ⟨zero_own (by rw [h.1]; exact h0) fun x hx => (at_ x hx).1, fun x hx => (at_ x hx).2⟩
theorem pred_ext {p q : GPredicate} (hl : p.Sets.length = q.Sets.length) (h : ∀ (i : Nat) a b, p.Sets[i]? = some a → q.Sets[i]? = some b → a = b) : p = q := by
 obtain ⟨l⟩ := p
 obtain ⟨m⟩ := q
 simp only at hl h
 congr 1
 refine List.ext_getElem hl fun i h1 h2 => ?_
 exact h i _ _ (List.getElem?_eq_getElem h1) (List.getElem?_eq_getElem h2)
theorem good_eq {N : Nat} {p q : GPredicate} (hN : 300 < N) : ∃ b, law27_good N [p, q] = some b ∧ (b = true → Sm 12 p ∧ Sm 12 q ∧ own1 p = 0 ∧ own1 q = 0 ∧ p.Sets.length = q.Sets.length) := by
 obtain ⟨b1, e1, f1⟩ := few_eq (N := N) (p := p) (by omega)
 obtain ⟨b2, e2, f2⟩ := few_eq (N := N) (p := q) (by omega)
 obtain ⟨M, rfl⟩ : ∃ M, N = M + 4 := ⟨N - 4, by omega⟩
 have i0 : idxL [p, q] 0 = some p := rfl
 have i1 : idxL [p, q] 1 = some q := rfl
 have l2 : Ar.len [p, q] = (2 : Int) := rfl
 have a0 : Ar.ar .add .i64 (0 : Int) 1 = 1 := rfl
 have a1 : Ar.ar .add .i64 (1 : Int) 1 = 2 := rfl
 have g : ∀ x, law27_good_1 (M + 4) x [p, q] = (ref27_Few (M + 4) x).bind fun r => if Ar.nt r = true then some true else some (Ar.cmp .neq (pck (p.Sets.length : Int) x) 0) := fun x => by
  unfold law27_good_1
  simp only [i0, Option.bind_some, rpck_eq (N := M + 4) (show 256 < M + 4 by omega), len_def]
 have S : ∀ (x y : Bool), (if (!x) = true then some true else some y : Option Bool) = some (!x || y) := fun x y => by cases x <;> cases y <;> rfl
 have S2 : ∀ (x : Bool) (a b : Option (Int ⊕ (Unit ⊕ Int))), (if x = true then a else b) = cond x a b := fun x a b => by cases x <;> rfl
 unfold law27_good slices_ContainsFunc_LPredicate_Predicate slices_IndexFunc_LPredicate_Predicate
 have d0 : decide ((0 : Int) < 2) = true := rfl
 have d1 : decide ((1 : Int) < 2) = true := rfl
 have d2 : decide ((2 : Int) < 2) = false := rfl
 have key : ∀ (u v : Bool), (!b1 || !decide (pck (p.Sets.length : Int) p = 0)) = u → (!b2 || !decide (pck (p.Sets.length : Int) q = 0)) = v →
  loopN (fun (s1 : Int) => (
   if Ar.cmp .lss s1 (Ar.len [p, q]) = true then
    (idxL [p, q] s1).bind fun x3 =>
    (law27_good_1 (M + 4) x3 [p, q]).bind fun r4 =>
    if r4 = true then
     some (.inr (.inr s1))
    else
     some (.inl (Ar.ar .add .i64 s1 1))
   else
    some (.inr (.inl ())) : Option ((Int) ⊕ (Unit ⊕ Int)))) (M + 4) 0 = some (if u then .inr 0 else if v then .inr 1 else .inl ()) := by
  intro u v hu hv
  simp only [loopN, l2, cmp_lss, cmp_neq, i0, g, e1, Option.bind_some, nt_def, d0, S, hu, if_true]
  cases u with
  | true => rfl
  | false =>
   simp only [Bool.false_eq_true, if_false, a0, i1, d1, e2, Option.bind_some, S, hv, if_true]
   cases v with
   | true => rfl
   | false => simp only [Bool.false_eq_true, if_false, a1, d2]
 rw [key _ _ rfl rfl]
 by_cases hu : (!b1 || !decide (pck (p.Sets.length : Int) p = 0)) = true
 ·rw [if_pos hu]
  exact ⟨false, rfl, fun h => by cases h⟩
 ·rw [if_neg hu]
  by_cases hv : (!b2 || !decide (pck (p.Sets.length : Int) q = 0)) = true
  ·rw [if_pos hv]
   exact ⟨false, rfl, fun h => by cases h⟩
  ·rw [if_neg hv]
   refine ⟨true, rfl, fun _ => ?_⟩
   simp only [Bool.or_eq_true, Bool.not_eq_true', not_or, decide_eq_false_iff_not, Classical.not_not, Bool.not_eq_false] at hu hv
   obtain ⟨hb1, h1⟩ := hu
   obtain ⟨hb2, h2⟩ := hv
   have hl : p.Sets.length = q.Sets.length := by
    unfold pck at h2
    split at h2
    ·cases h2
    ·by_cases e : (q.Sets.length : Int) = (p.Sets.length : Int)
     ·omega
     ·simp [e] at h2
   refine ⟨(f1 hb1).2, (f2 hb2).2, h1, ?_, hl⟩
   unfold own1
   rw [← hl]; exact h2
theorem in_eq {N : Nat} {p : GPredicate} {s : GSymbol} (h0 : own1 p = 0) (hs : sck (p.Sets.length : Int) s = 0) (hN : 300 < N) : ∃ b, law27_PredicateBoolean_1 N p s = some b ∧ (b = true ↔ InP p s) := by
 obtain ⟨r, h1, h2, h3, h4⟩ := contains_eq (N := N) (p := p) (s := s) hN
 rw [if_pos h0, hs] at h3
 unfold law27_PredicateBoolean_1
 rw [h1]
 refine ⟨_, rfl, ?_⟩
 rw [h3, ← h4 h3]
 simp [an_def, cmp_eql]
theorem sck_zero {n : Int} {s : GSymbol} (h : sck n s = 0) : (0 ≤ s.Typ ∧ s.Typ < n) ∧ -1099511627776 ≤ s.Num ∧ s.Num ≤ 1099511627776 := by
 unfold sck at h
 split at h
 ·cases h
 ·split at h
  ·cases h
  ·omega
theorem inP_at {p : GPredicate} {s : GSymbol} {k : Nat} {a : List GInterval} (hk : s.Typ = (k : Int)) (ha : p.Sets[k]? = some a) : InP p s ↔ InL a s.Num := by
 unfold InP
 rw [hk]
 constructor
 ·rintro ⟨_, l, hl, h⟩
  rw [show (k : Int).toNat = k by omega, ha] at hl; cases hl; exact h
 ·intro h; exact ⟨by omega, a, ha, h⟩
theorem b_and {a b c : Bool} (h : c = true ↔ a = true ∧ b = true) : c = (a && b) := by cases a <;> cases b <;> cases c <;> simp_all
theorem b_or {a b c : Bool} (h : c = true ↔ a = true ∨ b = true) : c = (a || b) := by cases a <;> cases b <;> cases c <;> simp_all
theorem b_not {a c : Bool} {A B : Prop} (hA : A) (hB : B) (h : c = true ↔ A ∧ B ∧ ¬ a = true) : c = !a := by cases a <;> cases c <;> simp_all
theorem boolean_law (aw : law27_awake 40000000 = some true) (p q : GPredicate) (s : GSymbol) : law27_PredicateBoolean 40000000 p q s = some true := by
 unfold law27_PredicateBoolean
 obtain ⟨g, hg, hg'⟩ := good_eq (N := 40000000) (p := p) (q := q) (by decide)
 rw [hg]
 simp only [Option.bind_some, aw]
 cases g with
 | false => simp [nt_def]
 | true =>
  obtain ⟨sp, sq, op, oq, hl⟩ := hg' rfl
  have hlen := (own1_zero op).1
  simp only [nt_def, Bool.not_true, Bool.false_eq_true, if_false, rsck_eq, Option.bind_some, len_def]
  by_cases hs : sck (p.Sets.length : Int) s = 0
  ·rw [if_neg (by simp [cmp_neq, hs])]
   obtain ⟨⟨A, eA⟩, a1, a2, a3, a4, a5⟩ := and_eq (N := 40000000) (p := p) (q := q) (j := 12) (m := 12) sp sq (by decide) (by decide)
   obtain ⟨⟨B, eB⟩, b1, b2, b3, b4, b5⟩ := or_eq (N := 40000000) (p := p) (q := q) (j := 12) (m := 12) sp sq (by decide) (by decide)
   obtain ⟨⟨C, eC⟩, c1, c2, c3, c4, c5⟩ := not_eq (N := 40000000) (p := p) (j := 12) sp (by decide) (by decide)
   obtain ⟨⟨D, eD⟩, d1, d2, d3, d4, d5⟩ := not_eq (N := 40000000) (p := q) (j := 12) sq (by decide) (by decide)
   simp only at a3 a4 a5 b3 b4 b5 c3 c4 c5 d3 d4 d5
   obtain ⟨rfl, hA⟩ := a3 op oq hl
   obtain ⟨rfl, hB⟩ := b3 op oq hl
   obtain ⟨rfl, hC⟩ := c3 op
   obtain ⟨rfl, hD⟩ := d3 oq
   obtain ⟨oA, sA⟩ := hA.own hl hlen
   obtain ⟨oB, sB⟩ := hB.own hl hlen
   obtain ⟨oC, sC⟩ := hC.own hlen
   obtain ⟨oD, sD⟩ := hD.own (by omega)
   have lA := hA.1
   have lB := hB.1
   have lC := hC.1
   have lD := hD.1
   obtain ⟨⟨E, eE⟩, e1, e2, e3, e4, e5⟩ := not_eq (N := 40000000) (p := B) (j := 48) sB (by decide) (by decide)
   obtain ⟨⟨F, eF⟩, f1, f2, f3, f4, f5⟩ := and_eq (N := 40000000) (p := C) (q := D) (j := 13) (m := 13) sC sD (by decide) (by decide)
   obtain ⟨⟨G, eG⟩, g1, g2, g3, g4, g5⟩ := not_eq (N := 40000000) (p := C) (j := 13) sC (by decide) (by decide)
   simp only at e3 e4 e5 f3 f4 f5 g3 g4 g5
   obtain ⟨rfl, hE⟩ := e3 oB
   obtain ⟨rfl, hF⟩ := f3 oC oD (by omega)
   obtain ⟨rfl, hG⟩ := g3 oC
   have lE := hE.1
   have lF := hF.1
   have lG := hG.1
   have same1 : E = F := pred_ext (by omega) fun i x y hx hy => by
    have hil := (List.getElem?_eq_some_iff.1 hx).1
    have hp := List.getElem?_eq_getElem (show i < p.Sets.length by omega)
    have hq := List.getElem?_eq_getElem (show i < q.Sets.length by omega)
    have hb := List.getElem?_eq_getElem (show i < B.Sets.length by omega)
    have hc := List.getElem?_eq_getElem (show i < C.Sets.length by omega)
    have hd := List.getElem?_eq_getElem (show i < D.Sets.length by omega)
    have kb := (hB.2 i _ _ _ hp hq hb).1.2.2
    have kc := (hC.2 i _ _ hp hc).1.2.2
    have kd := (hD.2 i _ _ hq hd).1.2.2
    refine (hE.2 i _ x hb hx).1.ext (hF.2 i _ _ y hc hd hy).1 fun n => ?_
    dsimp only at kb kc kd ⊢
    rw [kb n, kc n, kd n, not_or]
    constructor
    ·rintro ⟨h1, h2, h3, h4⟩; exact ⟨⟨h1, h2, h3⟩, h1, h2, h4⟩
    ·rintro ⟨⟨h1, h2, h3⟩, _, _, h4⟩; exact ⟨h1, h2, h3, h4⟩
   have same2 : G = p := pred_ext (by omega) fun i x y hx hy => by
    have hil := (List.getElem?_eq_some_iff.1 hx).1
    have hc := List.getElem?_eq_getElem (show i < C.Sets.length by omega)
    have kc := (hC.2 i _ _ hy hc).1.2.2
    have hsy := (own1_zero op).2 y (List.mem_of_getElem? hy)
    refine (hG.2 i _ x hc hx).1.ext (srt_cn hsy) fun n => ?_
    rw [kc n]
    constructor
    ·rintro ⟨h1, h2, h3⟩
     exact Classical.not_not.1 fun h => h3 ⟨h1, h2, h⟩
    ·intro h
     obtain ⟨z, hz, h1, h2⟩ := id h
     have := hsy.2.1 z hz
     exact ⟨by omega, by omega, fun h' => h'.2.2 h⟩
   subst same1
   obtain ⟨⟨t0, t1⟩, t2, t3⟩ := sck_zero hs
   obtain ⟨k, hk⟩ : ∃ k : Nat, s.Typ = (k : Int) := ⟨s.Typ.toNat, by omega⟩
   have hp := List.getElem?_eq_getElem (show k < p.Sets.length by omega)
   have hq := List.getElem?_eq_getElem (show k < q.Sets.length by omega)
   have ha := List.getElem?_eq_getElem (show k < A.Sets.length by omega)
   have hb := List.getElem?_eq_getElem (show k < B.Sets.length by omega)
   have hc := List.getElem?_eq_getElem (show k < C.Sets.length by omega)
   have ka := (hA.2 k _ _ _ hp hq ha).1.2.2 s.Num
   have kb := (hB.2 k _ _ _ hp hq hb).1.2.2 s.Num
   have kc := (hC.2 k _ _ hp hc).1.2.2 s.Num
   dsimp only at ka kb kc
   rw [← inP_at hk hp, ← inP_at hk hq, ← inP_at hk ha] at ka
   rw [← inP_at hk hp, ← inP_at hk hq, ← inP_at hk hb] at kb
   rw [← inP_at hk hp, ← inP_at hk hc] at kc
   obtain ⟨vp, v1, v2⟩ := in_eq (N := 40000000) (p := p) (s := s) op hs (by decide)
   obtain ⟨vq, v3, v4⟩ := in_eq (N := 40000000) (p := q) (s := s) oq (by rw [← hl]; exact hs) (by decide)
   obtain ⟨va, v5, v6⟩ := in_eq (N := 40000000) (p := A) (s := s) oA (by rw [lA]; exact hs) (by decide)
   obtain ⟨vb, v7, v8⟩ := in_eq (N := 40000000) (p := B) (s := s) oB (by rw [lB]; exact hs) (by decide)
   obtain ⟨vc, v9, v10⟩ := in_eq (N := 40000000) (p := C) (s := s) oC (by rw [lC]; exact hs) (by decide)
   rw [← v2, ← v4, ← v6] at ka
   rw [← v2, ← v4, ← v8] at kb
   rw [← v2, ← v10] at kc
   have kc' : vc = !vp := b_not t2 t3 kc
   have ka' : va = (vp && vq) := b_and ka
   have kb' : vb = (vp || vq) := b_or kb
   have z1 : Ar.ar .add .i64 (0 : Int) 0 = 0 := rfl
   have s1 : ref27_Same 40000000 E E = some true := same_refl (N := 40000000) e4 (by omega) (by decide)
   have s2 : ref27_Same 40000000 p p = some true := same_refl (N := 40000000) (fun x hx => by have := sp x hx; omega) (by omega) (by decide)
   subst same2
   simp only [a1, b1, c1, d1, e1, f1, g1, v1, v3, v5, v7, v9, s1, s2, z1, Option.bind_some, cmp_neq, cmp_eql, decide_true, Bool.not_true, Bool.false_eq_true, if_false, if_true]
   subst ka' kb' kc'
   cases vp <;> cases vq <;> rfl
  ·rw [if_pos (by simp [cmp_neq, hs])]
end Go.Ab

