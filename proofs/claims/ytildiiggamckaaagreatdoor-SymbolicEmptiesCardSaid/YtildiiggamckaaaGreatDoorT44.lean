/- GYX2 GYX3 -/
import Derived.Test.YtildiiggamckaaaGreatDoorT43
set_option linter.all false
namespace Go.Ab
noncomputable def IC (s : A5) (s4 : Int × (List Int) × (List (Int × Int))) : Option ((Int × (List Int) × (List (Int × Int))) ⊕ (((List Int) × (List (Int × Int))))) :=
 if Ar.cmp .lss s4.1 (Ar.len s.Finals) = true then
  (C3 s.Finals s4.1).bind fun x8 =>
  if x8 = true then
   (Ck s4.2.2 s4.1 0).bind fun l10 =>
   (Q2 s4.2.1 ([s4.1])).bind fun l12 =>
   some (.inl (Ar.ar .add .i64 s4.1 1, l12, l10))
  else
   some (.inl (Ar.ar .add .i64 s4.1 1, s4.2.1, s4.2.2))
 else
  some (.inr (s4.2.1, s4.2.2))
noncomputable def JY (N : Nat) (s : A5) (s19 : Int × (List Int) × (List (Int × Int))) : Option ((Int × (List Int) × (List (Int × Int))) ⊕ (((List Int) × (List (Int × Int))))) :=
 if Ar.cmp .lss s19.1 (Ar.len s.Moves) = true then
  (C3 s.Moves s19.1).bind fun x23 =>
  (Da s19.2.2 x23.From (0 : Int)).bind fun r24 =>
  (Bx (Dw s19.2.1 0)).bind fun _ =>
  (C3 s19.2.1 0).bind fun x25 =>
  if Ar.an (Ar.cmp .eql x23.To x25) (Ar.nt r24.2) = true then
   (X5 N x23.On).bind fun r26 =>
   if Ar.nt r26 = true then
    (Bx (Dw s19.2.1 0)).bind fun _ =>
    (C3 s19.2.1 0).bind fun x27 =>
    (Da s19.2.2 x27 (0 : Int)).bind fun r28 =>
    (Ck s19.2.2 x23.From (Ar.ar .add .i64 r28.1 1)).bind fun l30 =>
    (Q2 s19.2.1 ([x23.From])).bind fun l32 =>
    some (.inl (Ar.ar .add .i64 s19.1 1, l32, l30))
   else
    some (.inl (Ar.ar .add .i64 s19.1 1, s19.2.1, s19.2.2))
  else
   some (.inl (Ar.ar .add .i64 s19.1 1, s19.2.1, s19.2.2))
 else
  some (.inr (s19.2.1, s19.2.2))
noncomputable def Tf (N : Nat) (s : A5) (s15 : (List Int) × (List (Int × Int))) : Option (((List Int) × (List (Int × Int))) ⊕ (((List Int) × (List (Int × Int))))) :=
 if Ar.cmp .gtr (Ar.len s15.1) 0 = true then
  (loopN (JY N s) N (0, s15.1, s15.2)).bind fun s22 =>
  (Bb s22.1 (some 1) none none).bind fun l36 =>
  some (.inl (l36, s22.2))
 else
  some (.inr (s15.1, s15.2))
theorem TV (N : Nat) (s : A5) : M6 N s = (loopN (IC s) N (0, ([] : List Int), ([] : List (Int × Int)))).bind fun s7 => (loopN (Tf N s) N (s7.1, s7.2)).bind fun s18 => some s18.2 := rfl
structure Ini (s : A5) (i : Nat) (T : List Int) (M : List (Int × Int)) : Prop where
 mp : Mp M
 mem : ∀ k v, (k, v) ∈ M ↔ v = 0 ∧ ∃ j : Nat, j < i ∧ k = (j : Int) ∧ s.Finals[j]? = some true
 t : ∀ k, k ∈ T ↔ (k, 0) ∈ M
 le : T.length = M.length
 li : T.length ≤ i
theorem JZ {s : A5} (hs : KF s) : ∀ (d i N : Nat) (T : List Int) (M : List (Int × Int)), i + d = s.Finals.length → d < N → Ini s i T M →
 ∃ T' M', loopN (IC s) N ((i : Int), T, M) = some (T', M') ∧ Ini s s.Finals.length T' M'
 | 0, i, N, T, M, hi, hN, h => by
  obtain ⟨N, rfl⟩ : ∃ K, N = K + 1 := ⟨N - 1, by omega⟩;refine ⟨T, M, ?_, by rw [← hi]; exact h⟩
  have e : IC s ((i : Int), T, M) = some (.inr (T, M)) := by
   unfold IC;rw [if_neg (by simp [D2, E2]; omega)]
  rw [loopN, e]
 | d + 1, i, N, T, M, hi, hN, h => by
  obtain ⟨N, rfl⟩ : ∃ K, N = K + 1 := ⟨N - 1, by omega⟩;have hf := hs.fi
  have hlt : i < s.Finals.length := by omega
  have hx := List.getElem?_eq_getElem hlt;have hinc : Ar.ar .add .i64 (i : Int) 1 = ((i + 1 : Nat) : Int) := Q1 hlt (by omega)
  cases hv : s.Finals[i] with
  | false =>
   have e : IC s ((i : Int), T, M) = some (.inl (((i + 1 : Nat) : Int), T, M)) := by
    unfold IC;rw [if_pos (by simp [D2, E2]; omega)];simp only [H5, hx, Option.bind_some, hv, Bool.false_eq_true, if_false, hinc]
   rw [loopN, e];refine JZ hs d (i + 1) N T M (by omega) (by omega) ⟨h.mp, fun k v => ?_, h.t, h.le, by have := h.li; omega⟩;rw [h.mem]
   constructor
   ·rintro ⟨h1, j, h2, h3, h4⟩; exact ⟨h1, j, by omega, h3, h4⟩
   rintro ⟨h1, j, h2, h3, h4⟩;refine ⟨h1, j, ?_, h3, h4⟩
   rcases Nat.lt_or_ge j i with c | c
   ·exact c
   rw [show j = i by omega, hx, hv] at h4; cases h4
  | true =>
   have hnew : ∀ v, ¬((i : Int), v) ∈ M := fun v hm => by
    obtain ⟨_, j, h2, h3, _⟩ := (h.mem _ _).1 hm;omega
   obtain ⟨e1, h1⟩ := Ny h.mp (v := 0) hnew;have hli := h.li
   have e2 : Q2 T [(i : Int)] = some (T ++ [(i : Int)]) := by unfold Q2; rw [if_pos (by simp; omega)]
   have e : IC s ((i : Int), T, M) = some (.inl (((i + 1 : Nat) : Int), T ++ [(i : Int)], M ++ [((i : Int), 0)])) := by
    unfold IC;rw [if_pos (by simp [D2, E2]; omega)];simp only [H5, hx, Option.bind_some, hv, if_true, hinc, e1, e2]
   rw [loopN, e];refine JZ hs d (i + 1) N _ _ (by omega) (by omega) ⟨h1, fun k v => ?_, fun k => ?_, by simp [h.le], by simp; omega⟩
   ·rw [List.mem_append, h.mem];simp only [List.mem_singleton, Prod.mk.injEq]
    constructor
    ·rintro (⟨h1, j, h2, h3, h4⟩ | ⟨rfl, rfl⟩)
     ·exact ⟨h1, j, by omega, h3, h4⟩
     exact ⟨rfl, i, by omega, rfl, by rw [hx, hv]⟩
    rintro ⟨h1, j, h2, h3, h4⟩
    rcases Nat.lt_or_ge j i with c | c
    ·exact .inl ⟨h1, j, c, h3, h4⟩
    exact .inr ⟨by omega, h1⟩
   rw [List.mem_append, List.mem_append, h.t];simp
theorem Ini.bfs {s : A5} (hs : KF s) {T : List Int} {M : List (Int × Int)} (h : Ini s s.Finals.length T M) : Qk s 0 T [] M := by
 have h0 : ∀ j : Nat, s.Finals[j]? = some true → GQ s j 0 := fun j hj => ⟨hj, fun k hk => by omega⟩;refine ⟨h.mp, fun k v hk => ?_, fun k hk => by simpa using (h.t k).1 hk, (fun k hk => by cases hk), fun i k hk hr => ?_, fun k hk => ?_, fun i j he hj hn => ?_⟩
 ·obtain ⟨rfl, j, _, h2, h3⟩ := (h.mem k v).1 hk;exact ⟨j, 0, h2, rfl, h0 j h3, by omega⟩
 ·obtain rfl : k = 0 := by omega
  exact ⟨0, (h.mem _ _).2 ⟨rfl, i, Qu hs hr, rfl, hr⟩⟩
 ·have := ((h.mem k _).1 hk).1
  simp at this
 exact absurd ((h.t _).2 ((h.mem _ _).2 ⟨rfl, j, Qu hs hj.1, rfl, hj.1⟩)) hn
theorem Qk.len {s : A5} (hs : KF s) {a : Nat} {T1 T2 : List Int} {M : List (Int × Int)} (h : Qk s a T1 T2 M) : M.length ≤ s.Finals.length := by
 have : (M.map fun p => p.1.toNat).Nodup := by
  have hn := h.mp.nd
  rw [List.nodup_iff_pairwise_ne, List.pairwise_map] at hn ⊢
  refine List.Pairwise.imp_of_mem ?_ hn;intro p q hp hq hne e;obtain ⟨i, d, e1, _⟩ := h.ok p.1 p.2 hp;obtain ⟨i', d', e2, _⟩ := h.ok q.1 q.2 hq;omega
 have := JJ this (n := s.Finals.length) (fun x hx => by
  obtain ⟨p, hp, rfl⟩ := List.mem_map.1 hx;obtain ⟨i, d, e1, _, e3, _⟩ := h.ok p.1 p.2 hp;have := Qu hs e3.1
  omega)
 simpa using this
theorem MI {s : A5} (hs : KF s) {a : Nat} {x : Int} {T1 : List Int} : ∀ (d i N : Nat) (T2 : List Int) (M : List (Int × Int)), i + d = s.Moves.length → d < N → Qk s a (x :: T1) T2 M → (x :: T1 ++ T2).length ≤ M.length →
 (∀ j : Nat, j < i → ∀ m, s.Moves[j]? = some m → m.To = x → vd m.On = false → ∃ v, (m.From, v) ∈ M) →
 ∃ T2' M', loopN (JY 40000000 s) N ((i : Int), x :: T1 ++ T2, M) = some (x :: T1 ++ T2', M') ∧ Qk s a (x :: T1) T2' M' ∧ T2'.length + M.length = T2.length + M'.length ∧ (∀ m ∈ s.Moves, m.To = x → vd m.On = false → ∃ v, (m.From, v) ∈ M')
 | 0, i, N, T2, M, hi, hN, h, hl, hd => by
  obtain ⟨N, rfl⟩ : ∃ K, N = K + 1 := ⟨N - 1, by omega⟩;refine ⟨T2, M, ?_, h, rfl, fun m hm => ?_⟩
  ·have e : JY 40000000 s ((i : Int), x :: T1 ++ T2, M) = some (.inr (x :: T1 ++ T2, M)) := by
    unfold JY;rw [if_neg (by simp [D2, E2]; omega)]
   rw [loopN, e]
  obtain ⟨j, hj⟩ := List.getElem?_of_mem hm;refine hd j ?_ m hj
  rcases Nat.lt_or_ge j s.Moves.length with c | c
  ·omega
  rw [List.getElem?_eq_none c] at hj; cases hj
 | d + 1, i, N, T2, M, hi, hN, h, hl, hd => by
  obtain ⟨N, rfl⟩ : ∃ K, N = K + 1 := ⟨N - 1, by omega⟩;have hmv := hs.mv
  have hlt : i < s.Moves.length := by omega
  have hx := List.getElem?_eq_getElem hlt;have hinc : Ar.ar .add .i64 (i : Int) 1 = ((i + 1 : Nat) : Int) := Q1 hlt (by omega);obtain ⟨m, hm⟩ : ∃ m, s.Moves[i] = m := ⟨_, rfl⟩
  rw [hm] at hx
  have hmem : m ∈ s.Moves := by rw [← hm]; exact List.getElem_mem hlt
  obtain ⟨⟨⟨f0, f1⟩, t0, t1⟩, hp⟩ := hs.each m hmem
  have hin : Dw (x :: T1 ++ T2) 0 = true := by unfold Dw; simp; omega
  have hix : C3 (x :: T1 ++ T2) 0 = some x := by simp [C3]
  have hsv := SI (N := 40000000) (by omega) hp;have hMl := h.len hs;have hfi := hs.fi
  have skip : JY 40000000 s ((i : Int), x :: T1 ++ T2, M) = some (.inl (((i + 1 : Nat) : Int), x :: T1 ++ T2, M)) → (m.To = x → vd m.On = false → ∃ v, (m.From, v) ∈ M) →
   ∃ T2' M', loopN (JY 40000000 s) (N + 1) ((i : Int), x :: T1 ++ T2, M) = some (x :: T1 ++ T2', M') ∧ Qk s a (x :: T1) T2' M' ∧ T2'.length + M.length = T2.length + M'.length ∧ (∀ m ∈ s.Moves, m.To = x → vd m.On = false → ∃ v, (m.From, v) ∈ M') := by
   intro e hk;rw [loopN, e]
   exact MI hs d (i + 1) N T2 M (by omega) (by omega) h hl (fun j hj y hy hty hvy => by
    rcases Nat.lt_or_ge j i with c | c
    ·exact hd j c y hy hty hvy
    rw [show j = i by omega, hx] at hy; cases hy; exact hk hty hvy)
  by_cases hkn : ∃ v, (m.From, v) ∈ M
  ·obtain ⟨v, hv⟩ := hkn;refine skip ?_ fun _ _ => ⟨v, hv⟩;unfold JY;rw [if_pos (by simp [D2, E2]; omega)];simp only [H5, hx, Option.bind_some, Ga h.mp hv, Bx, hin, if_true, hix, Ao, Ae, Bool.not_true, Bool.and_false, Bool.false_eq_true, if_false, hinc]
  have hno : ∀ v, ¬(m.From, v) ∈ M := fun v hv => hkn ⟨v, hv⟩;have hg := HY hno
  by_cases ht : m.To = x
  ·cases hvd : vd m.On with
   | true =>
    refine skip ?_ fun _ h2 => by rw [hvd] at h2; cases h2
    unfold JY;rw [if_pos (by simp [D2, E2]; omega)];simp only [H5, hx, Option.bind_some, hg, Bx, hin, if_true, hix, Ao, Ae, ht, Y0, decide_true, Bool.not_false, Bool.and_self, hsv, hvd, Bool.not_true, Bool.false_eq_true, if_false, hinc]
   | false =>
    have hxa := h.t1 x (by simp);obtain ⟨ix, dx, ex1, ex2, ex3, _⟩ := h.ok _ _ hxa
    have hdx : dx = a := by omega
    subst hdx;obtain ⟨jf, hjf⟩ : ∃ j : Nat, m.From = (j : Int) := ⟨m.From.toNat, by omega⟩;have hda := PL hs ex3
    have hD : GQ s jf (dx + 1) := by
     refine ⟨⟨ix, ⟨m, hmem, hjf, by omega, hvd⟩, ex3.1⟩, fun k hk hr => ?_⟩;obtain ⟨v, hv⟩ := h.kn jf k (by omega) hr;exact hno v (by rw [hjf]; exact hv)
    obtain ⟨e1, hMp⟩ := Ny h.mp (v := (dx : Int) + 1) hno
    have e2 : Q2 (x :: T1 ++ T2) [m.From] = some (x :: T1 ++ (T2 ++ [m.From])) := by
     unfold Q2;rw [if_pos (by simp only [List.length_singleton]; omega), List.append_assoc]
    have e : JY 40000000 s ((i : Int), x :: T1 ++ T2, M) = some (.inl (((i + 1 : Nat) : Int), x :: T1 ++ (T2 ++ [m.From]), M ++ [(m.From, (dx : Int) + 1)])) := by
     unfold JY;rw [if_pos (by simp [D2, E2]; omega)];simp only [H5, hx, Option.bind_some, hg, Bx, hin, if_true, hix, Ao, Ae, ht, Y0, decide_true, Bool.not_false, Bool.and_self, hsv, hvd, Ga h.mp hxa, DC (show -9223372036854775808 ≤ (dx : Int) + 1 by omega) (show (dx : Int) + 1 < 9223372036854775808 by omega), e1, e2, hinc]
    rw [loopN, e]
    obtain ⟨T2', M', e3, h3, h4, h5⟩ := MI hs (a := dx) (x := x) (T1 := T1) d (i + 1) N (T2 ++ [m.From]) (M ++ [(m.From, (dx : Int) + 1)]) (by omega) (by omega)
     ⟨hMp, fun k v hk => by
      rcases List.mem_append.1 hk with hk | hk
      ·exact h.ok k v hk
      simp only [List.mem_singleton, Prod.mk.injEq] at hk
      obtain ⟨rfl, rfl⟩ := hk
      exact ⟨jf, dx + 1, hjf, by omega, hD, by omega⟩,
      fun k hk => List.mem_append_left _ (h.t1 k hk),
      fun k hk => by
       rcases List.mem_append.1 hk with hk | hk
       ·exact List.mem_append_left _ (h.t2 k hk)
       simp only [List.mem_singleton] at hk
       exact List.mem_append_right _ (by rw [hk]; simp),
      fun y k hk hr => by obtain ⟨v, hv⟩ := h.kn y k hk hr; exact ⟨v, List.mem_append_left _ hv⟩,
      fun k hk => by
       rcases List.mem_append.1 hk with hk | hk
       ·exact List.mem_append_left _ (h.up k hk)
       simp only [List.mem_singleton, Prod.mk.injEq] at hk
       exact List.mem_append_right _ (by rw [hk.1]; simp),
      fun y j he hj hn => by obtain ⟨v, hv⟩ := h.dn y j he hj hn; exact ⟨v, List.mem_append_left _ hv⟩⟩
     (by simp only [List.length_append, List.length_cons, List.length_nil] at hl ⊢; omega)
     (fun j hj y hy hty hvy => by
      rcases Nat.lt_or_ge j i with c | c
      ·obtain ⟨v, hv⟩ := hd j c y hy hty hvy; exact ⟨v, List.mem_append_left _ hv⟩
      rw [show j = i by omega, hx] at hy; cases hy; exact ⟨(dx : Int) + 1, List.mem_append_right _ (by simp)⟩)
    refine ⟨T2', M', e3, h3, ?_, h5⟩
    simp only [List.length_append, List.length_cons, List.length_nil] at h4
    omega
  refine skip ?_ fun h1 => absurd h1 ht;unfold JY;rw [if_pos (by simp [D2, E2]; omega)];simp only [H5, hx, Option.bind_some, hg, Bx, hin, if_true, hix, Ao, Ae, ht, Y0, decide_false, Bool.false_and, Bool.false_eq_true, if_false, hinc]
theorem Te {s : A5} (hs : KF s) {a : Nat} {x : Int} {T1 T2 : List Int} {M : List (Int × Int)} (h : Qk s a (x :: T1) T2 M) (hl : (x :: T1 ++ T2).length ≤ M.length) :
 ∃ T2' M', Tf 40000000 s (x :: T1 ++ T2, M) = some (.inl (T1 ++ T2', M')) ∧ Qk s a T1 T2' M' ∧ (T1 ++ T2').length ≤ M'.length ∧ (T1 ++ T2').length + (s.Finals.length - M'.length) < (x :: T1 ++ T2).length + (s.Finals.length - M.length) := by
 have hmv := hs.mv;obtain ⟨T2', M', e, h1, h2, h3⟩ := MI hs s.Moves.length 0 40000000 T2 M (by omega) (by omega) h hl (fun j hj => by omega);have hl1 := h.len hs;have hl2 := h1.len hs;refine ⟨T2', M', ?_, ⟨h1.mp, h1.ok, fun k hk => h1.t1 k (List.mem_cons_of_mem _ hk), h1.t2, h1.kn, h1.up, fun i j he hj hn => ?_⟩, ?_, ?_⟩
 ·unfold Tf;rw [if_pos (by simp [W4, E2]; omega)]
  rw [show ((0 : Nat) : Int) = 0 from rfl] at e
  rw [e];simp only [Option.bind_some];unfold Bb;rw [if_pos (by simp; omega)];simp only [Option.bind_some, Option.getD_some, Option.getD_none]
  congr 2
  rw [show ((x :: T1 ++ T2').drop (1 : Int).toNat) = T1 ++ T2' from rfl];rw [List.take_of_length_le (by simp; omega)]
 ·by_cases c : (j : Int) = x
  ·obtain ⟨m, hm, f, t, v⟩ := he;obtain ⟨w, hw⟩ := h3 m hm (by omega) v;exact ⟨w, by rw [← f]; exact hw⟩
  exact h1.dn i j he hj (by simp only [List.mem_cons, not_or]; exact ⟨c, hn⟩)
 ·simp only [List.length_append, List.length_cons] at hl ⊢; omega
 simp only [List.length_append, List.length_cons] at hl ⊢; omega
theorem UT {s : A5} (hs : KF s) : ∀ (μ N a : Nat) (T1 T2 : List Int) (M : List (Int × Int)), (T1 ++ T2).length + (s.Finals.length - M.length) ≤ μ → μ < N → Qk s a T1 T2 M → (T1 ++ T2).length ≤ M.length →
 ∃ a' M', loopN (Tf 40000000 s) N (T1 ++ T2, M) = some ([], M') ∧ Qk s a' [] [] M' := by
 intro μ
 induction μ with
 | zero =>
  intro N a T1 T2 M hm hN h hl;obtain ⟨N, rfl⟩ : ∃ K, N = K + 1 := ⟨N - 1, by omega⟩;have e1 : T1 = [] := List.eq_nil_of_length_eq_zero (by rw [List.length_append] at hm; omega);have e2 : T2 = [] := List.eq_nil_of_length_eq_zero (by rw [List.length_append] at hm; omega);subst e1; subst e2;exact ⟨a, M, rfl, h⟩
 | succ μ ih =>
  intro N a T1 T2 M hm hN h hl;obtain ⟨N, rfl⟩ : ∃ K, N = K + 1 := ⟨N - 1, by omega⟩
  have go : ∀ (a : Nat) (x : Int) (T1 T2 : List Int), (x :: T1 ++ T2).length + (s.Finals.length - M.length) ≤ μ + 1 → Qk s a (x :: T1) T2 M → (x :: T1 ++ T2).length ≤ M.length → ∃ a' M', loopN (Tf 40000000 s) (N + 1) (x :: T1 ++ T2, M) = some ([], M') ∧ Qk s a' [] [] M' := by
   intro a x T1 T2 hm h hl;obtain ⟨T2', M', e, h1, h2, h3⟩ := Te hs h hl;rw [loopN, e];exact ih N a T1 T2' M' (by omega) (by omega) h1 h2
  cases T1 with
  | cons x T1 => exact go a x T1 T2 hm h hl
  | nil =>
   cases T2 with
   | nil => exact ⟨a, M, rfl, h⟩
   | cons x T2 =>
    have := go (a + 1) x T2 [] (by simpa using hm) h.next (by simpa using hl)
    simpa using this
theorem VA {s : A5} (hs : KF s) : ∃ M, M6 40000000 s = some M ∧ Mp M ∧ ∀ k v, (k, v) ∈ M ↔ ∃ i d : Nat, k = (i : Int) ∧ v = (d : Int) ∧ GQ s i d := by
 have hf := hs.fi;obtain ⟨T, M, e, h⟩ := JZ hs s.Finals.length 0 40000000 [] [] (by omega) (by omega) ⟨⟨List.nodup_nil⟩, fun k v => by simp, fun k => by simp, rfl, by simp⟩;have hb := h.bfs hs;have hl := hb.len hs;obtain ⟨a, M', e2, h2⟩ := UT hs 600 40000000 0 T [] M (by simp; have := h.li; omega) (by omega) hb (by simp [h.le]);refine ⟨M', ?_, h2.mp, fun k v => ⟨fun hk => ?_, ?_⟩⟩
 ·rw [TV]
  rw [show ((0 : Nat) : Int) = 0 from rfl] at e
  rw [e]
  rw [List.append_nil] at e2
  simp only [Option.bind_some, e2]
 ·obtain ⟨i, d, e1, e2, e3, _⟩ := h2.ok k v hk;exact ⟨i, d, e1, e2, e3⟩
 rintro ⟨i, d, rfl, rfl, hd⟩
 have hall : ∃ v, ((i : Int), v) ∈ M' := by
  rcases Nat.lt_or_ge a d with c | c
  ·obtain ⟨i', hi'⟩ := Lt hd (a + 1) (by omega);obtain ⟨j, he, hj⟩ := FB hi';obtain ⟨v, hv⟩ := h2.dn i' j he hj (by simp);obtain ⟨i2, d2, q1, q2, q3, q4⟩ := h2.ok _ _ hv
   have : i2 = i' := by omega
   subst this;have := Ch hi' q3;subst this;have := h2.up _ (by rw [q2] at hv; exact_mod_cast hv);cases this
  exact h2.kn i d c hd.1
 obtain ⟨v, hv⟩ := hall;obtain ⟨i2, d2, q1, q2, q3, _⟩ := h2.ok _ _ hv
 have : i2 = i := by omega
 subst this;have := Ch hd q3;subst this;rw [← q2]; exact hv
end Go.Ab
namespace Go.Ab
theorem Nz {N : Nat} {t : Int} {p : B5} (hN : 300 < N) (hp : Iv t p = 0) : V7 N p = some (vd p) := by
 obtain ⟨_, h0⟩ := Ez hp;obtain ⟨hlen, _⟩ := BK h0;exact Uy (by omega) (by omega)
theorem LX {l : List Int} {i : Nat} {v : Int} (h : i < l.length) : Dw l (i : Int) = true ∧ Ba l (i : Int) (fun _ => v) = some (l.set i v) := by
 constructor
 ·unfold Dw; simp; omega
 unfold Ba;rw [H5, List.getElem?_eq_getElem h];rfl
noncomputable def NC (s : A5) (s3 : Int × (List Int)) : Option ((Int × (List Int)) ⊕ (((List Int)))) :=
 if Ar.cmp .lss s3.1 (Ar.len s3.2) = true then
  (Bx (Dw s3.2 s3.1)).bind fun _ =>
  (Ba s3.2 s3.1 (fun x6 : Int => (-1))).bind fun l7 =>
  (C3 s.Finals s3.1).bind fun x8 =>
  if x8 = true then
   (Bx (Dw l7 s3.1)).bind fun _ =>
   (Ba l7 s3.1 (fun x9 : Int => 0)).bind fun l10 =>
   some (.inl (Ar.ar .add .i64 s3.1 1, l10))
  else
   some (.inl (Ar.ar .add .i64 s3.1 1, l7))
 else
  some (.inr s3.2)
noncomputable def Jt (N : Nat) (s : A5) (r : Int) (s15 : Int × (List Int)) : Option ((Int × (List Int)) ⊕ (((List Int)))) :=
 if Ar.cmp .lss s15.1 (Ar.len s.Moves) = true then
  (C3 s.Moves s15.1).bind fun x18 =>
  (Bx (Dw s15.2 x18.From)).bind fun _ =>
  (C3 s15.2 x18.From).bind fun x19 =>
  if Ar.cmp .lss x19 0 = true then
   (Bx (Dw s15.2 x18.To)).bind fun _ =>
   (C3 s15.2 x18.To).bind fun x20 =>
   if Ar.cmp .eql x20 (Ar.ar .sub .i64 r 1) = true then
    (V7 N x18.On).bind fun r21 =>
    if Ar.nt r21 = true then
     (Bx (Dw s15.2 x18.From)).bind fun _ =>
     (Ba s15.2 x18.From (fun x22 : Int => r)).bind fun l23 =>
     some (.inl (Ar.ar .add .i64 s15.1 1, l23))
    else
     some (.inl (Ar.ar .add .i64 s15.1 1, s15.2))
   else
    some (.inl (Ar.ar .add .i64 s15.1 1, s15.2))
  else
   some (.inl (Ar.ar .add .i64 s15.1 1, s15.2))
 else
  some (.inr s15.2)
noncomputable def Rz (N : Nat) (s : A5) (s12 : Int × (List Int)) : Option ((Int × (List Int)) ⊕ (((List Int)))) :=
 if Ar.cmp .leq s12.1 (Ar.len s12.2) = true then
  (loopN (Jt N s s12.1) N (0, s12.2)).bind fun s17 =>
  some (.inl (Ar.ar .add .i64 s12.1 1, s17))
 else
  some (.inr s12.2)
theorem RD (N : Nat) (s : A5) : P3 N s = (OQ (Ar.len s.Finals) (Ar.len s.Finals) (0 : Int)).bind fun l2 => (loopN (NC s) N (0, l2)).bind fun s5 => (loopN (Rz N s) N (1, s5)).bind fun s14 => some s14 := rfl
theorem Mo {s : A5} (hs : KF s) : ∀ (d i N : Nat) (l : List Int), i + d = s.Finals.length → d < N → l.length = s.Finals.length → (∀ j : Nat, j < i → l[j]? = some (if s.Finals[j]? = some true then 0 else -1)) →
 ∃ l', loopN (NC s) N ((i : Int), l) = some l' ∧ l'.length = s.Finals.length ∧ ∀ j : Nat, j < s.Finals.length → l'[j]? = some (if s.Finals[j]? = some true then 0 else -1)
 | 0, i, N, l, hi, hN, hl, h => by
  obtain ⟨N, rfl⟩ : ∃ K, N = K + 1 := ⟨N - 1, by omega⟩
  have e : NC s ((i : Int), l) = some (.inr l) := by
   unfold NC;rw [if_neg (by simp [D2, E2]; omega)]
  exact ⟨l, by rw [loopN, e], hl, fun j hj => h j (by omega)⟩
 | d + 1, i, N, l, hi, hN, hl, h => by
  obtain ⟨N, rfl⟩ : ∃ K, N = K + 1 := ⟨N - 1, by omega⟩;have hf := hs.fi
  have hlt : i < s.Finals.length := by omega
  have hx := List.getElem?_eq_getElem hlt;have hinc : Ar.ar .add .i64 (i : Int) 1 = ((i + 1 : Nat) : Int) := Q1 hlt (by omega);obtain ⟨u1, u2⟩ := LX (l := l) (i := i) (v := -1) (by omega);obtain ⟨u3, u4⟩ := LX (l := l.set i (-1)) (i := i) (v := 0) (by simp; omega)
  have hcond : Ar.cmp .lss (i : Int) (Ar.len l) = true := by simp [D2, E2]; omega
  cases hv : s.Finals[i] with
  | false =>
   have e : NC s ((i : Int), l) = some (.inl (((i + 1 : Nat) : Int), l.set i (-1))) := by
    unfold NC;rw [if_pos hcond];simp only [u1, u2, Bx, if_true, Option.bind_some, H5, hx, hv, Bool.false_eq_true, if_false, hinc]
   rw [loopN, e];refine Mo hs d (i + 1) N _ (by omega) (by omega) (by simpa using hl) fun j hj => ?_;rw [List.getElem?_set]
   by_cases c : i = j
   ·subst c; rw [if_pos rfl, if_pos (by omega), hx, hv]; simp
   rw [if_neg c]; exact h j (by omega)
  | true =>
   have e : NC s ((i : Int), l) = some (.inl (((i + 1 : Nat) : Int), (l.set i (-1)).set i 0)) := by
    unfold NC;rw [if_pos hcond];simp only [u1, u2, u3, u4, Bx, if_true, Option.bind_some, H5, hx, hv, hinc]
   rw [loopN, e];refine Mo hs d (i + 1) N _ (by omega) (by omega) (by simpa using hl) fun j hj => ?_;rw [List.getElem?_set]
   by_cases c : i = j
   ·subst c; rw [if_pos rfl, if_pos (by simp; omega), hx, hv]; simp
   rw [if_neg c, List.getElem?_set, if_neg c]; exact h j (by omega)
structure Dl (s : A5) (m : Nat) (l : List Int) : Prop where
 len : l.length = s.Finals.length
 at' : ∀ j : Nat, j < s.Finals.length → ∃ v, l[j]? = some v ∧ ((∃ k, k ≤ m ∧ v = (k : Int) ∧ GQ s j k) ∨ (v = -1 ∧ ∀ k, k ≤ m → ¬Rc s k j))
structure Di (s : A5) (m i : Nat) (l : List Int) : Prop where
 len : l.length = s.Finals.length
 at' : ∀ j : Nat, j < s.Finals.length → ∃ v, l[j]? = some v ∧ ((∃ k, k ≤ m + 1 ∧ v = (k : Int) ∧ GQ s j k) ∨
  (v = -1 ∧ (∀ k, k ≤ m → ¬Rc s k j) ∧ ∀ (q : Nat) y, q < i → s.Moves[q]? = some y → y.From = (j : Int) → vd y.On = false → ∀ t : Nat, y.To = (t : Int) → ¬GQ s t m))
theorem Mm {s : A5} (hs : KF s) {m : Nat} (hm : m < 1000) : ∀ (d i N : Nat) (l : List Int), i + d = s.Moves.length → d < N → Di s m i l →
 ∃ l', loopN (Jt 40000000 s ((m : Int) + 1)) N ((i : Int), l) = some l' ∧ Di s m s.Moves.length l'
 | 0, i, N, l, hi, hN, h => by
  obtain ⟨N, rfl⟩ : ∃ K, N = K + 1 := ⟨N - 1, by omega⟩
  have e : Jt 40000000 s ((m : Int) + 1) ((i : Int), l) = some (.inr l) := by
   unfold Jt;rw [if_neg (by simp [D2, E2]; omega)]
  exact ⟨l, by rw [loopN, e], by rw [show s.Moves.length = i by omega]; exact h⟩
 | d + 1, i, N, l, hi, hN, h => by
  obtain ⟨N, rfl⟩ : ∃ K, N = K + 1 := ⟨N - 1, by omega⟩;have hf := hs.fi;have hmv := hs.mv
  have hlt : i < s.Moves.length := by omega
  have hx := List.getElem?_eq_getElem hlt;have hinc : Ar.ar .add .i64 (i : Int) 1 = ((i + 1 : Nat) : Int) := Q1 hlt (by omega);obtain ⟨y, hy⟩ : ∃ y, s.Moves[i] = y := ⟨_, rfl⟩
  rw [hy] at hx
  have hmem : y ∈ s.Moves := by rw [← hy]; exact List.getElem_mem hlt
  obtain ⟨⟨⟨f0, f1⟩, t0, t1⟩, hp⟩ := hs.each y hmem;obtain ⟨f, hfr⟩ : ∃ f : Nat, y.From = (f : Int) := ⟨y.From.toNat, by omega⟩;obtain ⟨t, hto⟩ : ∃ t : Nat, y.To = (t : Int) := ⟨y.To.toNat, by omega⟩
  have hfl : f < l.length := by rw [h.len]; omega
  have htl : t < l.length := by rw [h.len]; omega
  obtain ⟨v, hv, hvc⟩ := h.at' f (by omega);obtain ⟨w, hw, hwc⟩ := h.at' t (by omega)
  have hcond : Ar.cmp .lss (i : Int) (Ar.len s.Moves) = true := by simp [D2, E2]; omega
  have hsub : Ar.ar .sub .i64 ((m : Int) + 1) 1 = (m : Int) := by
   show IntKind.wrap .i64 (((m : Int) + 1) - 1) = _
   rw [Fa (by omega) (by omega)]; omega
  obtain ⟨uf, uu⟩ := LX (l := l) (i := f) (v := (m : Int) + 1) hfl;obtain ⟨ut, _⟩ := LX (l := l) (i := t) (v := 0) htl;have hrv := Nz (N := 40000000) (by omega) hp
  have skip : Jt 40000000 s ((m : Int) + 1) ((i : Int), l) = some (.inl (((i + 1 : Nat) : Int), l)) → (v = -1 → vd y.On = false → ¬GQ s t m) →
   ∃ l', loopN (Jt 40000000 s ((m : Int) + 1)) (N + 1) ((i : Int), l) = some l' ∧ Di s m s.Moves.length l' := by
   intro e hk;rw [loopN, e];refine Mm hs hm d (i + 1) N l (by omega) (by omega) ⟨h.len, fun j hj => ?_⟩;obtain ⟨v', e1, hc⟩ := h.at' j hj;refine ⟨v', e1, ?_⟩
   rcases hc with hc | ⟨c1, c2, c3⟩
   ·exact .inl hc
   refine .inr ⟨c1, c2, fun q z hq hz hzf hzv u hu => ?_⟩
   rcases Nat.lt_or_ge q i with c | c
   ·exact c3 q z c hz hzf hzv u hu
   rw [show q = i by omega, hx] at hz; cases hz
   have : f = j := by omega
   subst this
   have : u = t := by omega
   subst this
   rw [hv] at e1; cases e1
   exact hk c1 hzv
  rcases hvc with ⟨k, hk1, hk2, hk3⟩ | ⟨c1, c2, c3⟩
  ·refine skip ?_ fun h1 => by omega
   unfold Jt;rw [if_pos hcond];simp only [H5, hx, Option.bind_some, hfr, uf, Bx, if_true, hv, D2];rw [if_neg (by simp; omega), hinc]
  by_cases hwm : w = (m : Int)
  ·have hD : GQ s t m := by
    rcases hwc with ⟨k, hk1, hk2, hk3⟩ | ⟨d1, _⟩
    ·rw [show m = k by omega]; exact hk3
    omega
   cases hvd : vd y.On with
   | true =>
    refine skip ?_ fun _ h2 => by rw [hvd] at h2; cases h2
    unfold Jt;rw [if_pos hcond];simp only [H5, hx, Option.bind_some, hfr, uf, Bx, if_true, hv, D2, c1, hto, ut, hw, Y0, hsub, hwm, decide_true, hrv, hvd, Ao, Bool.not_true, Bool.false_eq_true, if_false, hinc];rfl
   | false =>
    have hfD : GQ s f (m + 1) := by
     refine ⟨⟨t, ⟨y, hmem, hfr, hto, hvd⟩, hD.1⟩, fun k hk => c2 k (by omega)⟩
    have e : Jt 40000000 s ((m : Int) + 1) ((i : Int), l) = some (.inl (((i + 1 : Nat) : Int), l.set f ((m : Int) + 1))) := by
     unfold Jt;rw [if_pos hcond];simp only [H5, hx, Option.bind_some, hfr, uf, Bx, if_true, hv, D2, c1, hto, ut, hw, Y0, hsub, hwm, decide_true, hrv, hvd, Ao, Bool.not_false, hinc, uu];rfl
    rw [loopN, e];refine Mm hs hm d (i + 1) N _ (by omega) (by omega) ⟨by simpa using h.len, fun j hj => ?_⟩;rw [List.getElem?_set]
    by_cases c : f = j
    ·subst c;rw [if_pos rfl, if_pos hfl];exact ⟨_, rfl, .inl ⟨m + 1, by omega, by omega, hfD⟩⟩
    rw [if_neg c];obtain ⟨v', e1, hc⟩ := h.at' j hj;refine ⟨v', e1, ?_⟩
    rcases hc with hc | ⟨d1, d2, d3⟩
    ·exact .inl hc
    refine .inr ⟨d1, d2, fun q z hq hz hzf hzv u hu => ?_⟩
    rcases Nat.lt_or_ge q i with c' | c'
    ·exact d3 q z c' hz hzf hzv u hu
    rw [show q = i by omega, hx] at hz; cases hz
    omega
  refine skip ?_ fun _ _ hD => ?_
  ·unfold Jt;rw [if_pos hcond];simp only [H5, hx, Option.bind_some, hfr, uf, Bx, if_true, hv, D2, c1, hto, ut, hw, Y0, hsub, hwm, decide_false, Bool.false_eq_true, if_false, hinc];rfl
  rcases hwc with ⟨k, hk1, hk2, hk3⟩ | ⟨d1, d2, _⟩
  ·have := Ch hD hk3;omega
  exact d2 m (Nat.le_refl _) hD.1
theorem Di.done {s : A5} {m : Nat} {l : List Int} (h : Di s m s.Moves.length l) : Dl s (m + 1) l := by
 refine ⟨h.len, fun j hj => ?_⟩;obtain ⟨v, e, hc⟩ := h.at' j hj;refine ⟨v, e, ?_⟩
 rcases hc with hc | ⟨c1, c2, c3⟩
 ·exact .inl hc
 refine .inr ⟨c1, fun k hk hr => ?_⟩
 rcases Nat.lt_or_ge m k with c | c
 ·obtain rfl : k = m + 1 := by omega
  obtain ⟨t, ⟨y, hy, hf, ht, hvd⟩, hrt⟩ := hr;obtain ⟨q, hq⟩ := List.getElem?_of_mem hy;obtain ⟨k', hk', hD⟩ := HV hrt
  have hkm : k' = m := by
   rcases Nat.lt_or_ge k' m with c' | c'
   ·exact absurd (show Rc s (k' + 1) j from ⟨t, ⟨y, hy, hf, ht, hvd⟩, hD.1⟩) (c2 (k' + 1) (by omega))
   omega
  subst hkm
  exact c3 q y (by
   rcases Nat.lt_or_ge q s.Moves.length with c' | c'
   ·exact c'
   rw [List.getElem?_eq_none c'] at hq; cases hq) hq hf hvd t ht hD
 exact c2 k c hr
theorem Qt {s : A5} (hs : KF s) : ∀ (d m N : Nat) (l : List Int), m + d = s.Finals.length → d < N → Dl s m l →
 ∃ l', loopN (Rz 40000000 s) N ((m : Int) + 1, l) = some l' ∧ Dl s s.Finals.length l'
 | 0, m, N, l, hm, hN, h => by
  obtain ⟨N, rfl⟩ : ∃ K, N = K + 1 := ⟨N - 1, by omega⟩
  have e : Rz 40000000 s ((m : Int) + 1, l) = some (.inr l) := by
   unfold Rz;rw [if_neg (by simp only [EP, E2, decide_eq_true_eq]; rw [h.len]; omega)]
  exact ⟨l, by rw [loopN, e], by rw [← hm]; exact h⟩
 | d + 1, m, N, l, hm, hN, h => by
  obtain ⟨N, rfl⟩ : ∃ K, N = K + 1 := ⟨N - 1, by omega⟩;have hf := hs.fi;have hmv := hs.mv
  obtain ⟨l1, e1, h1⟩ := Mm hs (m := m) (by omega) s.Moves.length 0 40000000 l (by omega) (by omega) ⟨h.len, fun j hj => by
   obtain ⟨v, e, hc⟩ := h.at' j hj;refine ⟨v, e, ?_⟩
   rcases hc with ⟨k, hk⟩ | ⟨c1, c2⟩
   ·exact .inl ⟨k, by omega, hk.2⟩
   exact .inr ⟨c1, c2, fun q _ hq => by omega⟩⟩
  have e : Rz 40000000 s ((m : Int) + 1, l) = some (.inl (((m + 1 : Nat) : Int) + 1, l1)) := by
   unfold Rz;rw [if_pos (by simp only [EP, E2, decide_eq_true_eq]; rw [h.len]; omega)]
   rw [show ((0 : Nat) : Int) = 0 from rfl] at e1
   simp only [e1, Option.bind_some];rw [DC (by omega) (by omega)]
   congr 3
  rw [loopN, e];exact Qt hs d (m + 1) N l1 (by omega) (by omega) h1.done
theorem SW {s : A5} (hs : KF s) : ∃ l, P3 40000000 s = some l ∧ l.length = s.Finals.length ∧ ∀ j : Nat, j < s.Finals.length → ∃ v, l[j]? = some v ∧ ((∃ k : Nat, v = (k : Int) ∧ GQ s j k) ∨ (v = -1 ∧ ∀ k, ¬Rc s k j)) := by
 have hf := hs.fi;obtain ⟨l0, e0, h0, h1⟩ := Mo hs s.Finals.length 0 40000000 (List.replicate s.Finals.length 0) (by omega) (by omega) (by simp) (fun j hj => by omega)
 obtain ⟨l, e, h⟩ := Qt hs s.Finals.length 0 40000000 l0 (by omega) (by omega) ⟨h0, fun j hj => ⟨_, h1 j hj, by
  by_cases c : s.Finals[j]? = some true
  ·rw [if_pos c]; exact .inl ⟨0, by omega, rfl, c, fun k hk => by omega⟩
  rw [if_neg c];refine .inr ⟨rfl, fun k hk hr => c ?_⟩
  obtain rfl : k = 0 := by omega
  exact hr⟩⟩
 refine ⟨l, ?_, h.len, fun j hj => ?_⟩
 ·rw [RD];simp only [E2, OQ];rw [if_pos (by omega)];simp only [Option.bind_some, show ((s.Finals.length : Int)).toNat = s.Finals.length by omega]
  rw [show ((0 : Nat) : Int) = 0 from rfl] at e0 e
  rw [show (0 : Int) + 1 = 1 from rfl] at e
  simp only [e0, e, Option.bind_some]
 obtain ⟨v, e1, hc⟩ := h.at' j hj;refine ⟨v, e1, ?_⟩
 rcases hc with ⟨k, _, hk2, hk3⟩ | ⟨c1, c2⟩
 ·exact .inl ⟨k, hk2, hk3⟩
 refine .inr ⟨c1, fun k hr => ?_⟩;obtain ⟨k', _, hD⟩ := HV hr;have := PL hs hD;exact c2 k' (by omega) hD.1
end Go.Ab
