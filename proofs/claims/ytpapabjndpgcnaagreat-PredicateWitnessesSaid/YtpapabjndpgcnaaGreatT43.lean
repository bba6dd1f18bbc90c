/- GPL23 GPL27 -/
import Derived.Test.YtpapabjndpgcnaaGreatT42
import Derived.KernelRfl
set_option linter.all false

namespace Go.Ab
open Classical
set_option maxRecDepth 100000
theorem sg_at {l : List GPredicate} {j k : Nat} {n : Int} {p : GPredicate} (h : l[k]? = some p) : (sg l j n)[k]? = some (if InL (p.Sets.getD j []) n then 1 else 0) := by
 unfold sg
 rw [List.getElem?_map, h]; rfl
structure Ws (T : Nat) (l : List GPredicate) (S : List Int → Prop) (p : GPredicate) : Prop where
 len : p.Sets.length = T
 at' : ∀ (j : Nat) a, p.Sets[j]? = some a → Ord a ∧ ∀ n, InL a n ↔ (-1099511627776 ≤ n ∧ n ≤ 1099511627776) ∧ S (sg l j n)
theorem Ws.small {T : Nat} {l : List GPredicate} {S : List Int → Prop} {p : GPredicate} (h : Ws T l S p) (hg : Gd T 12 l) (hl : l.length ≤ 4) (hT : 1 ≤ T ∧ T ≤ 4) : own1 p = 0 ∧ Sm 49 p := by
 have key : ∀ x ∈ p.Sets, Ord x ∧ x.length ≤ 49 := fun x hx => by
  obtain ⟨j, hj⟩ := List.getElem?_of_mem hx
  have hjT : j < T := by rw [← h.len]; exact (List.getElem?_eq_some_iff.1 hj).1
  obtain ⟨h1, h2⟩ := h.at' j x hj
  have h3 := len_of_steps h1 h2 (E := endsA l j) fun n hn => word_steps hg hjT S hn
  have h4 := endsA_len hg hjT
  have h5 : 2 * 12 * l.length ≤ 24 * 4 := Nat.mul_le_mul (by decide) hl
  exact ⟨h1, by omega⟩
 exact ⟨zero_own (by rw [h.len]; omega) fun x hx => (key x hx).1.srt (by have := (key x hx).2; omega), fun x hx => (key x hx).2⟩
theorem Ws.ext {T : Nat} {l : List GPredicate} {S S' : List Int → Prop} {p q : GPredicate} (h : Ws T l S p) (k : Ws T l S' q) (e : ∀ j n, j < T → (-1099511627776 ≤ n ∧ n ≤ 1099511627776) → (S (sg l j n) ↔ S' (sg l j n))) : p = q := by
 refine pred_ext (h.len.trans k.len.symm) fun j a b ha hb => ?_
 have hjT : j < T := by rw [← h.len]; exact (List.getElem?_eq_some_iff.1 ha).1
 obtain ⟨h1, h2⟩ := h.at' j a ha
 obtain ⟨k1, k2⟩ := k.at' j b hb
 exact ord_ext h1 k1 fun n => by
  rw [h2, k2]
  exact and_congr_right fun hn => e j n hjT hn
theorem Ws.bi {T : Nat} {l : List GPredicate} {S S' : List Int → Prop} {p q r : GPredicate} {k : Nat} {P : (Int → Prop) → (Int → Prop) → Int → Prop} {S2 : List Int → Prop} (h : Ws T l S p) (h' : Ws T l S' q) (hr : Bi P k p q r)
 (hP : ∀ A B n, P A B n ↔ (fun (a b : Prop) => P (fun _ => a) (fun _ => b) n) (A n) (B n))
 (hS : ∀ n w, P (fun _ => (-1099511627776 ≤ n ∧ n ≤ 1099511627776) ∧ S w) (fun _ => (-1099511627776 ≤ n ∧ n ≤ 1099511627776) ∧ S' w) n ↔ (-1099511627776 ≤ n ∧ n ≤ 1099511627776) ∧ S2 w) : Ws T l S2 r := by
 refine ⟨hr.1.trans h.len, fun j c hc => ?_⟩
 have hjr := (List.getElem?_eq_some_iff.1 hc).1
 have e1 := hr.1
 have e2 := h.len
 have e3 := h'.len
 have ha := List.getElem?_eq_getElem (show j < p.Sets.length by omega)
 have hb := List.getElem?_eq_getElem (show j < q.Sets.length by omega)
 obtain ⟨k1, _⟩ := hr.2 j _ _ c ha hb hc
 refine ⟨k1.1, fun n => (k1.2.2 n).trans ?_⟩
 rw [hP, (h.at' j _ ha).2, (h'.at' j _ hb).2]
 exact hS n (sg l j n)
theorem Ws.full {T : Nat} {l : List GPredicate} {S : List Int → Prop} {p : GPredicate} (h : Ws T l S p) {j : Nat} {n : Int} (hj : j < T) (hn : -1099511627776 ≤ n ∧ n ≤ 1099511627776) (hS : S (sg l j n)) : ¬ ∀ x ∈ p.Sets, x = [] := fun hall => by
 have ha := List.getElem?_eq_getElem (show j < p.Sets.length by rw [h.len]; exact hj)
 have := ((h.at' j _ ha).2 n).2 ⟨hn, hS⟩
 rw [hall _ (List.mem_of_getElem? ha)] at this
 exact inL_nil this
theorem Mint.ws {T B : Nat} {l out : List GPredicate} {W : List (List Int)} (h : Mint T B l out W) {c : Nat} {p : GPredicate} {w : List Int} (hp : out[c]? = some p) (hw : W[c]? = some w) : Ws T l (fun v => v = w) p :=
 ⟨h.sets p (List.mem_of_getElem? hp), fun j a ha => let ⟨h1, _, h3⟩ := h.cls c p w j a hp hw ha; ⟨h1, h3⟩⟩
theorem Gd.ws {T k : Nat} {l : List GPredicate} (h : Gd T k l) {q : Nat} {p : GPredicate} (hp : l[q]? = some p) : Ws T l (fun v => v[q]? = some 1) p := by
 have hm := List.mem_of_getElem? hp
 refine ⟨h.len p hm, fun j a ha => ?_⟩
 have hjT : j < T := by rw [← h.len p hm]; exact (List.getElem?_eq_some_iff.1 ha).1
 obtain ⟨h1, h2, _⟩ := h.at hm hjT
 rw [ha] at h1
 have e := Option.some.inj h1
 rw [← e] at h2
 refine ⟨h2.ord, fun n => ?_⟩
 rw [sg_at hp, ← e]
 constructor
 ·intro hn
  obtain ⟨x, hx, g1, g2⟩ := id hn
  have := h2.2.1 x hx
  exact ⟨by omega, by rw [if_pos hn]⟩
 ·rintro ⟨_, hn⟩
  split at hn
  ·assumption
  ·cases hn
section
variable {T : Nat} {l : List GPredicate} (hg : Gd T 12 l) (hl : l.length ≤ 4) (hT : 1 ≤ T ∧ T ≤ 4)
include hg hl hT
theorem ws_and {N : Nat} {S S' : List Int → Prop} {p q : GPredicate} (h : Ws T l S p) (h' : Ws T l S' q) (hN : 100000 < N) : ∃ r, predicate_And N p q = some (r, 0) ∧ Ws T l (fun w => S w ∧ S' w) r := by
 obtain ⟨o1, s1⟩ := h.small hg hl hT
 obtain ⟨o2, s2⟩ := h'.small hg hl hT
 obtain ⟨⟨r, e⟩, a1, _, a3, _⟩ := and_eq (N := N) (p := p) (q := q) (j := 49) (m := 49) s1 s2 (by decide) hN
 obtain ⟨e0, hb⟩ := a3 o1 o2 (h.len.trans h'.len.symm)
 simp only at e0; subst e0
 exact ⟨r, a1, h.bi h' hb (fun _ _ _ => Iff.rfl) fun n w => by
  constructor
  ·rintro ⟨⟨h1, h2⟩, _, h3⟩; exact ⟨h1, h2, h3⟩
  ·rintro ⟨h1, h2, h3⟩; exact ⟨⟨h1, h2⟩, h1, h3⟩⟩
end
end Go.Ab

namespace Go.Ab
open Classical
set_option maxRecDepth 100000
abbrev Wh : List GInterval := [⟨-1099511627776, 1099511627776⟩]
theorem allo1 : predicate_All_o 40000000 1 = some (⟨[Wh]⟩, 0) := by kernel_rfl
theorem allo2 : predicate_All_o 40000000 2 = some (⟨[Wh, Wh]⟩, 0) := by kernel_rfl
theorem allo3 : predicate_All_o 40000000 3 = some (⟨[Wh, Wh, Wh]⟩, 0) := by kernel_rfl
theorem allo4 : predicate_All_o 40000000 4 = some (⟨[Wh, Wh, Wh, Wh]⟩, 0) := by kernel_rfl
theorem allo_eq {T : Nat} (h : 1 ≤ T ∧ T ≤ 4) : predicate_All_o 40000000 (T : Int) = some (⟨List.replicate T Wh⟩, 0) := by
 have : T = 1 ∨ T = 2 ∨ T = 3 ∨ T = 4 := by omega
 rcases this with rfl | rfl | rfl | rfl
 ·exact allo1
 ·exact allo2
 ·exact allo3
 ·exact allo4
def cutR (k : Nat) (B : List GInterval) (j : Nat) : List GInterval := if j < k then Wh else if j = k then B else []
def rowR (T k i : Nat) (B : List GInterval) : List (List GInterval) := (List.range T).map fun j => if j < i then cutR k B j else Wh
theorem row_at {T k i j : Nat} {B : List GInterval} (h : j < T) : (rowR T k i B)[j]? = some (if j < i then cutR k B j else Wh) := by simp [rowR, h]
theorem row_len {T k i : Nat} {B : List GInterval} : (rowR T k i B).length = T := by simp [rowR]
theorem row_set {T k i : Nat} {B : List GInterval} : (rowR T k i B).set i (cutR k B i) = rowR T k (i + 1) B := by
 refine List.ext_getElem (by simp [rowR]) fun j h1 h2 => ?_
 simp only [rowR, List.getElem_set, List.getElem_map, List.getElem_range]
 by_cases e : i = j
 ·subst e; rw [if_pos rfl, if_pos (by omega)]
 ·rw [if_neg e]
  by_cases h : j < i
  ·rw [if_pos h, if_pos (by omega)]
  ·rw [if_neg h, if_neg (by omega)]
theorem row_keep {T k i : Nat} {B : List GInterval} (h : i < k) : rowR T k (i + 1) B = rowR T k i B := by
 unfold rowR
 congr 1
 funext j
 by_cases e : j < i
 ·rw [if_pos e, if_pos (by omega)]
 ·rw [if_neg e]
  by_cases e' : j < i + 1
  ·rw [if_pos e', cutR, if_pos (by omega)]
  ·rw [if_neg e']
theorem trim_eq {N T k : Nat} {B : List GInterval} {lo : Int} (hT : T ≤ 4) (hk : k < T) (hB : ref02_Both N Wh [⟨-1099511627776, lo⟩] = some B) (hN : 10 < N) :
 loopN (fun (s10 : Int × (List (List GInterval))) =>
  (
   if Ar.cmp .lss s10.1 (T : Int) = true then
    ((
     if Ar.cmp .gtr s10.1 (k : Int) = true then
      (req (inR s10.2 s10.1)).bind fun _ =>
      (updL s10.2 s10.1 (fun x14 : List GInterval => [])).bind fun l15 =>
      some l15
     else
      some s10.2
    ) : Option (((List (List GInterval))))).bind fun s13 =>
    if Ar.cmp .eql s10.1 (k : Int) = true then
     (req (inR s13 s10.1)).bind fun _ =>
     (idxL s13 s10.1).bind fun x17 =>
     (ref02_Both N x17 ([(⟨(-1099511627776), lo⟩ : GInterval)])).bind fun r18 =>
     (req (inR s13 s10.1)).bind fun _ =>
     (updL s13 s10.1 (fun x19 : List GInterval => r18)).bind fun l20 =>
     some (.inl (Ar.ar .add .i64 s10.1 1, l20))
    else
     some (.inl (Ar.ar .add .i64 s10.1 1, s13))
   else
    some (.inr s10.2)
   : Option ((Int × (List (List GInterval))) ⊕ (((List (List GInterval)))))))
  N (0, List.replicate T Wh) = some (rowR T k T B) := by
 obtain ⟨r, h1, h2⟩ := loop_inv (N := N) (l := List.replicate T Wh) (Q := fun r => r = rowR T k T B)
  (I := fun i (s : Int × List (List GInterval)) => s = ((i : Int), rowR T k i B))
  (step := fun (s10 : Int × (List (List GInterval))) =>
   (
    if Ar.cmp .lss s10.1 (T : Int) = true then
     ((
      if Ar.cmp .gtr s10.1 (k : Int) = true then
       (req (inR s10.2 s10.1)).bind fun _ =>
       (updL s10.2 s10.1 (fun x14 : List GInterval => [])).bind fun l15 =>
       some l15
      else
       some s10.2
     ) : Option (((List (List GInterval))))).bind fun s13 =>
     if Ar.cmp .eql s10.1 (k : Int) = true then
      (req (inR s13 s10.1)).bind fun _ =>
      (idxL s13 s10.1).bind fun x17 =>
      (ref02_Both N x17 ([(⟨(-1099511627776), lo⟩ : GInterval)])).bind fun r18 =>
      (req (inR s13 s10.1)).bind fun _ =>
      (updL s13 s10.1 (fun x19 : List GInterval => r18)).bind fun l20 =>
      some (.inl (Ar.ar .add .i64 s10.1 1, l20))
     else
      some (.inl (Ar.ar .add .i64 s10.1 1, s13))
    else
     some (.inr s10.2)
    : Option ((Int × (List (List GInterval))) ⊕ (((List (List GInterval)))))))
  (fun i x s hx hi hI => by
   subst hI
   have hiT : i < T := by simpa using hi
   have hin : inR (rowR T k i B) (i : Int) = true := by simp only [inR, row_len, decide_eq_true_eq]; omega
   have hup : ∀ y : List GInterval, updL (rowR T k i B) (i : Int) (fun _ => y) = some ((rowR T k i B).set i y) := fun y => by
    unfold updL
    rw [idx_at, row_at hiT]; simp
   simp only [cmp_lss, cmp_gtr, cmp_eql, len_def, List.length_replicate, decide_eq_true_eq, hin, req, if_true, Option.bind_some]
   rw [if_pos (by omega)]
   by_cases h1 : k < i
   ·rw [if_pos (by omega), hup]
    simp only [Option.bind_some]
    rw [if_neg (by omega), inc_i64 hiT (by omega)]
    refine ⟨_, rfl, ?_⟩
    have := row_set (T := T) (k := k) (i := i) (B := B)
    rw [show cutR k B i = [] by unfold cutR; rw [if_neg (by omega), if_neg (by omega)]] at this
    rw [this]
   ·rw [if_neg (by omega)]
    simp only [Option.bind_some, hin, if_true]
    by_cases h2 : i = k
    ·rw [if_pos (by omega), idx_at, row_at hiT, if_neg (by omega)]
     simp only [Option.bind_some, hB]
     rw [hup]
     simp only [Option.bind_some]
     rw [inc_i64 hiT (by omega)]
     refine ⟨_, rfl, ?_⟩
     have := row_set (T := T) (k := k) (i := i) (B := B)
     rw [show cutR k B i = B by unfold cutR; rw [if_neg (by omega), if_pos h2]] at this
     rw [this]
    ·rw [if_neg (by omega), inc_i64 hiT (by omega)]
     exact ⟨_, rfl, by rw [row_keep (by omega)]⟩)
  (fun s hI => by
   subst hI
   simp only [cmp_lss, len_def, List.length_replicate, decide_eq_true_eq]
   rw [if_neg (by omega)]
   exact ⟨_, rfl, rfl⟩)
  (s0 := (0, List.replicate T Wh)) (by
   show (_, _) = (_, _)
   congr 1
   unfold rowR
   simp only [Nat.not_lt_zero, if_false]
   exact (List.ext_getElem (by simp) fun i h1 h2 => by simp)) (by simp; omega)
 rw [h1, h2]
theorem count_nil {N : Nat} (hN : 10 < N) : ref02_Count N [] = some 0 := by
 obtain ⟨M, rfl⟩ : ∃ M, N = M + 2 := ⟨N - 2, by omega⟩
 rfl
theorem count_one {N : Nat} {lo : Int} (h : -1099511627776 ≤ lo ∧ lo ≤ 1099511627776) (hN : 10 < N) : ref02_Count N [⟨lo, lo⟩] = some 1 := by
 obtain ⟨M, rfl⟩ : ∃ M, N = M + 2 := ⟨N - 2, by omega⟩
 have i0 : idxL [(⟨lo, lo⟩ : GInterval)] 0 = some ⟨lo, lo⟩ := rfl
 have l1 : Ar.len [(⟨lo, lo⟩ : GInterval)] = 1 := rfl
 have a0 : Ar.ar .add .i64 (0 : Int) 1 = 1 := rfl
 have s0 : Ar.ar .sub .i64 lo lo = 0 := (wrap_i64 (n := lo - lo) (by omega) (by omega)).trans (by omega)
 unfold ref02_Count
 simp only [loopN, cmp_lss, l1, i0, Option.bind_some, s0, a0]
 rfl
def oneR (T k : Nat) (lo : Int) : List (List GInterval) := (List.range T).map fun j => if j = k then [⟨lo, lo⟩] else []
theorem size_eq {N T k : Nat} {lo : Int} (hT : T ≤ 4) (hk : k < T) (hlo : -1099511627776 ≤ lo ∧ lo ≤ 1099511627776) (hN : 10 < N) :
 loopN (fun (s23 : Int × Int) =>
  (
   if Ar.cmp .lss s23.2 (Ar.len (oneR T k lo)) = true then
    (idxL (oneR T k lo) s23.2).bind fun x25 =>
    (ref02_Count N x25).bind fun r26 =>
    some (.inl (Ar.ar .add .i64 s23.1 r26, Ar.ar .add .i64 s23.2 1))
   else
    some (.inr s23.1)
   : Option ((Int × Int) ⊕ (Int))))
  N (0, 0) = some 1 := by
 obtain ⟨r, h1, h2⟩ := loop_inv (N := N) (l := oneR T k lo) (Q := fun r => r = (1 : Int))
  (I := fun i (s : Int × Int) => s = (if k < i then 1 else 0, (i : Int)))
  (step := fun (s23 : Int × Int) =>
   (
    if Ar.cmp .lss s23.2 (Ar.len (oneR T k lo)) = true then
     (idxL (oneR T k lo) s23.2).bind fun x25 =>
     (ref02_Count N x25).bind fun r26 =>
     some (.inl (Ar.ar .add .i64 s23.1 r26, Ar.ar .add .i64 s23.2 1))
    else
     some (.inr s23.1)
    : Option ((Int × Int) ⊕ (Int))))
  (fun i x s hx hi hI => by
   subst hI
   have hiT : i < T := by simpa [oneR] using hi
   simp only [cmp_lss, len_def, decide_eq_true_eq, idx_at, hx, Option.bind_some]
   rw [if_pos (by omega)]
   have hx' : x = if i = k then [⟨lo, lo⟩] else [] := by
    simp only [oneR, List.getElem?_map, List.getElem?_range hiT, Option.map_some, Option.some.injEq] at hx
    exact hx.symm
   by_cases e : i = k
   ·rw [if_pos e] at hx'
    subst hx'
    rw [count_one hlo hN]
    simp only [Option.bind_some]
    rw [inc_i64 hiT (by omega), if_neg (by omega), if_pos (by omega)]
    exact ⟨_, rfl, rfl⟩
   ·rw [if_neg e] at hx'
    subst hx'
    rw [count_nil hN]
    simp only [Option.bind_some]
    rw [inc_i64 hiT (by omega)]
    by_cases h : k < i
    ·rw [if_pos h, if_pos (by omega)]; exact ⟨_, rfl, rfl⟩
    ·rw [if_neg h, if_neg (by omega)]; exact ⟨_, rfl, rfl⟩)
  (fun s hI => by
   subst hI
   simp only [cmp_lss, len_def, decide_eq_true_eq]
   rw [if_neg (by omega), if_pos (by simp [oneR]; omega)]
   exact ⟨_, rfl, rfl⟩)
  (s0 := (0, 0)) (by simp) (by simp [oneR]; omega)
 rw [h1, h2]
theorem witnesses_law (aw : law27_awake 40000000 = some true) (p : GPredicate) : law27_PredicateWitnesses 40000000 p = some true := by
 unfold law27_PredicateWitnesses
 obtain ⟨g, hg, hg'⟩ := goodl_eq (N := 40000000) (p0 := p) (l := []) (by simp) (by decide)
 rw [hg]
 simp only [Option.bind_some, aw]
 cases g with
 | false => simp [nt_def]
 | true =>
  obtain ⟨hT, gd⟩ := hg' rfl
  have op : own1 p = 0 := zero_own (by omega) (gd.srt p (by simp))
  have sp : Sm 12 p := gd.sm p (by simp)
  obtain ⟨⟨b, e⟩, h1, _, h3, h4⟩ := empty_eq (N := 40000000) (p := p) (by decide)
  obtain ⟨⟨s, f⟩, w1, _, w3, w4⟩ := witness_eq (N := 40000000) (p := p) (by decide)
  simp only at h3 h4 w3 w4
  rw [op] at h3; rw [if_pos op] at w3
  subst h3
  have hb := h4 rfl
  have ha := allo_eq hT
  simp only [nt_def, Bool.not_true, Bool.false_eq_true, if_false, len_def, h1, w1, ha, Option.bind_some]
  cases hq : fst1 p with
  | none =>
   rw [hq] at w3 hb
   simp only [Option.isNone_none, if_true] at w3 hb
   subst w3 hb
   rfl
  | some q =>
   obtain ⟨k, a⟩ := q
   rw [hq] at w3 hb
   simp only [Option.isNone_some, Bool.false_eq_true, if_false] at w3 hb
   subst w3 hb
   have hs := w4 rfl
   obtain ⟨_, hka, hne, hbef⟩ := fnd_some hq
   rw [Nat.sub_zero] at hka hbef
   cases a with
   | nil => simp at hne
   | cons x a' =>
   have hs' : s = ⟨(k : Int), x.Low⟩ := by rw [hs]; unfold least1; rw [hq]
   subst hs'
   have hkT : k < p.Sets.length := (List.getElem?_eq_some_iff.1 hka).1
   have hsrt := gd.srt p (by simp) _ (List.mem_of_getElem? hka)
   have hxb := hsrt.2.1 x (by simp)
   obtain ⟨⟨c, e⟩, c1, _, c3, c4⟩ := contains_eq (N := 40000000) (p := p) (s := ⟨(k : Int), x.Low⟩) (by decide)
   simp only at c3 c4
   rw [if_pos op, sck, if_neg (by simp only; omega), if_neg (by simp only; omega)] at c3
   subst c3
   have hc : c = true := (c4 rfl).2 ((inP_at (k := k) rfl hka).2 ⟨x, by simp, by simp only; omega⟩)
   subst hc
   have hg0 : Ar.or (Ar.or (Ar.cmp .neq (0 : Int) 0) (Ar.cmp .neq (0 : Int) 0)) (!(Ar.beq false (Ar.cmp .eql (0 : Int) 6))) = false := rfl
   rw [hg0, if_neg (by decide), if_neg (by decide), c1]
   simp only [Option.bind_some, List.length_replicate]
   rw [if_neg (by simp only [or_def, cmp_neq, cmp_lss, cmp_geq, Bool.or_eq_true, Bool.not_eq_true', decide_eq_true_eq, decide_eq_false_iff_not, Bool.not_true]; simp; omega)]
   have hW : Ord Wh := ⟨⟨by decide, by decide, by decide⟩, (fun _ h => by cases h), trivial⟩
   have hU : Ord [(⟨-1099511627776, x.Low⟩ : GInterval)] := ⟨⟨by simp, by simp only; omega, by simp only; omega⟩, (fun _ h => by cases h), trivial⟩
   obtain ⟨B, b1, b2, b3, b4⟩ := both_eq (N := 40000000) hW hU (by simp) (by simp) (by simp) (by decide)
   refine bind_of1 (trim_eq (N := 40000000) (T := p.Sets.length) (k := k) (B := B) (lo := x.Low) hT.2 hkT b1 (by decide)) ?_
   have hcut : ∀ j, Srt (cutR k B j) ∧ (cutR k B j).length ≤ 1 := fun j => by
    unfold cutR
    split
    ·exact ⟨hW.srt (by decide), by decide⟩
    ·split
     ·exact ⟨b2.srt (by simp at b3; omega), by simpa using b3⟩
     ·exact ⟨(show Ord [] from trivial).srt (by decide), by decide⟩
   have hrow : ∀ y ∈ rowR p.Sets.length k p.Sets.length B, Srt y ∧ y.length ≤ 1 := fun y hy => by
    obtain ⟨j, hj⟩ := List.getElem?_of_mem hy
    have hjT := (List.getElem?_eq_some_iff.1 hj).1
    rw [row_len] at hjT
    rw [row_at hjT, if_pos hjT] at hj
    cases hj
    exact hcut j
   obtain ⟨⟨⟨R⟩, e⟩, r1, _, r3, r4, r5⟩ := and_eq (N := 40000000) (p := p) (q := ⟨rowR p.Sets.length k p.Sets.length B⟩) (j := 12) (m := 1) sp (fun y hy => (hrow y hy).2) (by decide) (by decide)
   simp only at r3 r4 r5
   obtain ⟨rfl, hB⟩ := r3 op (zero_own (by simp only [row_len]; omega) fun y hy => (hrow y hy).1) (by simp only [row_len])
   have hlR : R.length = p.Sets.length := hB.1
   have hR : R = oneR p.Sets.length k x.Low := by
    refine List.ext_getElem (by simp [hlR, oneR]) fun i g1 g2 => ?_
    have hiT : i < p.Sets.length := by omega
    have ha := List.getElem?_eq_getElem hiT
    have hr := List.getElem?_eq_getElem g1
    have key := (hB.2 i _ _ _ ha (by simp only; exact row_at hiT) hr).1
    rw [if_pos hiT] at key
    simp only [oneR, List.getElem_map, List.getElem_range]
    have none : (∀ n, ¬ (InL (p.Sets[i]) n ∧ InL (cutR k B i) n)) → R[i] = [] := fun h =>
     key.ext (Q := fun _ => False) (m := []) ⟨trivial, by decide, fun n => by simp [inL_nil]⟩ fun n => ⟨fun h' => h n h', fun h' => h'.elim⟩
    by_cases h1 : i < k
    ·rw [if_neg (by omega)]
     have : p.Sets[i] = [] := by simpa using hbef i _ h1 ha
     exact none fun n h => by rw [this] at h; exact inL_nil h.1
    ·by_cases h2 : i = k
     ·rw [if_pos h2]
      subst h2
      have hxa : p.Sets[i] = x :: a' := Option.some.inj (ha.symm.trans hka)
      rw [hxa] at key
      refine key.ext (Q := fun n => n = x.Low) ⟨⟨by simp only; omega, (fun _ h => by cases h), trivial⟩, by simp, fun n => by simp [InL]; omega⟩ fun n => ?_
      rw [cutR, if_neg (by omega), if_pos rfl]
      show InL (x :: a') n ∧ InL B n ↔ n = x.Low
      rw [b4]
      have ho := hsrt.ord
      constructor
      ·rintro ⟨hn, _, z, hz, z1, z2⟩
       rcases List.mem_cons.1 hz with rfl | hz
       ·simp only at z1 z2
        rcases inL_cons.1 hn with hn | ⟨y, hy, y1, y2⟩
        ·omega
        ·have := ho.2.1 y hy; omega
       ·cases hz
      ·rintro rfl
       exact ⟨⟨x, by simp, by omega, by omega⟩, ⟨_, List.mem_singleton.2 rfl, by simp only; omega, by simp only; omega⟩, ⟨_, List.mem_singleton.2 rfl, by simp only; omega, by simp only; omega⟩⟩
     ·rw [if_neg h2]
      exact none fun n h => by rw [cutR, if_neg h1, if_neg h2] at h; exact inL_nil h.2
   subst hR
   refine bind_of1 r1 ?_
   refine bind_of1 (size_eq (N := 40000000) hT.2 hkT (by omega) (by decide)) ?_
   rfl
end Go.Ab

