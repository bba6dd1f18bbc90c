/- GQT2 GQT3 GQT4 GQT5 -/
import Derived.Test.YtodfgmbacmnalaaGreatT39
set_option linter.all false

namespace Go.Ab
open Classical
set_option maxRecDepth 100000
abbrev timeB : ByteArray := ⟨#[116, 105, 109, 101]⟩
noncomputable def fdF (N : Nat) (s : GSchema) (i : Nat) (x : GField) : Int :=
 if nmB N x.Name = false ∨ x.Name = timeB then 8 else if x.Name ∈ (s.Fields.take i).map GField.Name then 7 else if x.Kind < 0 ∨ 3 ≤ x.Kind then 1 else 0
noncomputable def schC (N : Nat) (s : GSchema) : Int := if nmB N s.Name = false then 8 else if 8 < s.Fields.length then 5 else fb (fdF N s) 0 s.Fields
theorem field_eq {N : Nat} (hN : 30 < N) (x : ByteArray) : schema_fieldName N x = some (nmB N x && !decide (x = timeB)) := by
 unfold schema_fieldName
 rw [name_eq hN]
 simp only [Option.bind_some, an_def, scmp_neq]
theorem take_map_succ {α β : Type} {l : List α} {f : α → β} {i : Nat} {x : α} (h : l[i]? = some x) : (l.take (i + 1)).map f = (l.take i).map f ++ [f x] := by
 rw [List.take_add_one, h]; simp
theorem schema_eq {N : Nat} (hN : 30 < N) (s : GSchema) : schema_Check N s = some (schC N s) := by
 unfold schema_Check schC
 rw [name_eq hN]
 simp only [Option.bind_some, nt_def]
 by_cases h0 : nmB N s.Name = false
 ·rw [if_pos (by rw [h0]; rfl), if_pos h0]
 ·rw [if_neg (by simpa using h0), if_neg h0]
  simp only [cmp_gtr, len_def, decide_eq_true_eq]
  by_cases h1 : 8 < s.Fields.length
  ·rw [if_pos (by omega), if_pos h1]
  ·rw [if_neg (by omega), if_neg h1]
   obtain ⟨m, hm⟩ := chk_loopS (l := s.Fields) (f := fdF N s) (N := N) (fun i => ((s.Fields.take i).map GField.Name).map fun y => (y, true)) (e := fun m => .inl m) (b := fun r m => .inr (r, m))
    (step := fun (s4 : Int × (List (ByteArray × Bool))) =>
     (
      if Ar.cmp .lss s4.1 (Ar.len s.Fields) = true then
       (idxL s.Fields s4.1).bind fun x7 =>
       (schema_fieldName N x7.Name).bind fun r8 =>
       if Ar.nt r8 = true then
        some (.inr (.inr (8, s4.2)))
       else
        (getM s4.2 x7.Name (false : Bool)).bind fun r9 =>
        if r9.1 = true then
         some (.inr (.inr (7, s4.2)))
        else
         if Ar.or (Ar.cmp .lss x7.Kind 0) (Ar.cmp .geq x7.Kind 3) = true then
          some (.inr (.inr (1, s4.2)))
         else
          (setM s4.2 x7.Name true).bind fun l11 =>
          some (.inl (Ar.ar .add .i64 s4.1 1, l11))
      else
       some (.inr (.inl s4.2))
      : Option ((Int × (List (ByteArray × Bool))) ⊕ (((List (ByteArray × Bool))) ⊕ (Int × (List (ByteArray × Bool)))))))
    (fun i x hx hi => by
     simp only [cmp_lss, cmp_geq, len_def, idx_at, hx, Option.bind_some, field_eq hN, nt_def, getM_nm, or_def, Bool.or_eq_true, decide_eq_true_eq]
     rw [if_pos (by omega), inc_i64 hi (by omega)]
     unfold fdF
     by_cases a : nmB N x.Name = false ∨ x.Name = timeB
     ·rw [if_pos a, if_pos (by rcases a with a | a <;> simp [a]), if_neg (by decide)]
     ·rw [if_neg a, if_neg (by simp only [not_or, Bool.not_eq_false] at a; simp [a])]
      by_cases b : x.Name ∈ (s.Fields.take i).map GField.Name
      ·rw [if_pos b, if_pos b, if_neg (by decide)]
      ·rw [if_neg b, if_neg b]
       by_cases c : x.Kind < 0 ∨ 3 ≤ x.Kind
       ·rw [if_pos c, if_pos c, if_neg (by decide)]
       ·rw [if_neg c, if_neg c, if_pos rfl, setM_nm b, take_map_succ hx]
        rfl)
    (by simp only [cmp_lss, len_def, decide_eq_true_eq]; rw [if_neg (by omega)]) (by omega)
   refine bind_of1' hm ?_
   by_cases z : fb (fdF N s) 0 s.Fields = 0
   ·simp only [z, if_true]
   ·simp only [if_neg z]
noncomputable def scF (N : Nat) (l : List GSchema) (i : Nat) (x : GSchema) : Int :=
 if schC N x ≠ 0 then schC N x else if x.Name ∈ (l.take i).map GSchema.Name then 7 else 0
noncomputable def scaC (N : Nat) (l : List GSchema) : Int := if 16 < l.length then 5 else fb (scF N l) 0 l
theorem all_eq {N : Nat} (hN : 1000 < N) (l : List GSchema) : schema_CheckAll N l = some (scaC N l) := by
 unfold schema_CheckAll scaC
 simp only [cmp_gtr, len_def, decide_eq_true_eq]
 by_cases h1 : 16 < l.length
 ·rw [if_pos (by omega), if_pos h1]
 ·rw [if_neg (by omega), if_neg h1]
  obtain ⟨m, hm⟩ := chk_loopS (l := l) (f := scF N l) (N := N) (fun i => ((l.take i).map GSchema.Name).map fun y => (y, true)) (e := fun m => .inl m) (b := fun r m => .inr (r, m))
   (step := fun (s3 : Int × (List (ByteArray × Bool))) =>
    (
     if Ar.cmp .lss s3.1 (Ar.len l) = true then
      (idxL l s3.1).bind fun x6 =>
      (schema_Check N x6).bind fun r7 =>
      if Ar.cmp .neq r7 0 = true then
       some (.inr (.inr (r7, s3.2)))
      else
       (getM s3.2 x6.Name (false : Bool)).bind fun r8 =>
       if r8.1 = true then
        some (.inr (.inr (7, s3.2)))
       else
        (setM s3.2 x6.Name true).bind fun l10 =>
        some (.inl (Ar.ar .add .i64 s3.1 1, l10))
     else
      some (.inr (.inl s3.2))
     : Option ((Int × (List (ByteArray × Bool))) ⊕ (((List (ByteArray × Bool))) ⊕ (Int × (List (ByteArray × Bool)))))))
   (fun i x hx hi => by
    simp only [cmp_lss, cmp_neq, len_def, idx_at, hx, Option.bind_some, schema_eq (show 30 < N by omega), getM_nm, Bool.not_eq_true', decide_eq_true_eq, decide_eq_false_iff_not]
    rw [if_pos (by omega), inc_i64 hi (by omega)]
    unfold scF
    by_cases a : schC N x = 0
    ·simp only [a, ne_eq, not_true_eq_false, if_false]
     by_cases b : x.Name ∈ (l.take i).map GSchema.Name
     ·rw [if_pos b, if_pos b, if_neg (by decide)]
     ·rw [if_neg b, if_neg b, if_pos rfl, setM_nm b, take_map_succ hx]
      rfl
    ·simp only [a, ne_eq, not_false_eq_true, if_true, if_false])
   (by simp only [cmp_lss, len_def, decide_eq_true_eq]; rw [if_neg (by omega)]) (by omega)
  refine bind_of1' hm ?_
  by_cases z : fb (scF N l) 0 l = 0
  ·simp only [z, if_true]
  ·simp only [if_neg z]
theorem sca_zero {N : Nat} {l : List GSchema} (h : scaC N l = 0) : l.length ≤ 16 ∧ ∀ s ∈ l, s.Fields.length ≤ 8 ∧ ∀ x ∈ s.Fields, x.Kind = 0 ∨ x.Kind = 1 ∨ x.Kind = 2 := by
 unfold scaC at h
 split at h
 ·cases h
 ·refine ⟨by omega, fun s hs => ?_⟩
  obtain ⟨i, hi⟩ := List.getElem?_of_mem hs
  have h1 := fb_zero.1 h i s hi
  unfold scF at h1
  split at h1
  ·rename_i a; exact absurd h1 a
  ·rename_i a
   have a : schC N s = 0 := by simpa using a
   unfold schC at a
   split at a
   ·cases a
   ·split at a
    ·cases a
    ·refine ⟨by omega, fun x hx => ?_⟩
     obtain ⟨j, hj⟩ := List.getElem?_of_mem hx
     have h2 := fb_zero.1 a j x hj
     unfold fdF at h2
     split at h2
     ·cases h2
     ·split at h2
      ·cases h2
      ·split at h2
       ·cases h2
       ·omega
end Go.Ab

namespace Go.Ab
open Classical
set_option maxRecDepth 100000
theorem idx_int {α : Type} {l : List α} {i : Int} (h : 0 ≤ i ∧ i < (l.length : Int)) : ∃ x, idxL l i = some x ∧ l[i.toNat]? = some x := by
 obtain ⟨n, rfl⟩ : ∃ n : Nat, i = (n : Int) := ⟨i.toNat, by omega⟩
 have hn : n < l.length := by omega
 exact ⟨l[n], by rw [idx_at]; exact List.getElem?_eq_getElem hn, by rw [show (n : Int).toNat = n by omega]; exact List.getElem?_eq_getElem hn⟩
noncomputable def vlF (fs : List GField) (i : Nat) (v : GValue) : Int :=
 if valBad v ≠ 0 then valBad v else match fs[i]? with | some f => if v.Kind ≠ f.Kind then 9 else 0 | none => 0
noncomputable def evC (types : List GSchema) (e : GEvent) : Int :=
 if e.Source < 0 ∨ 8 ≤ e.Source then 32
 else if ((e.Seq < 0 ∨ 1099511627776 < e.Seq) ∨ e.Time < 0) ∨ 1099511627776 < e.Time then 2
 else if e.Typ < 0 ∨ (types.length : Int) ≤ e.Typ then 6
 else match types[e.Typ.toNat]? with
  | none => 6
  | some s => if e.Values.length ≠ s.Fields.length then 15 else fb (vlF s.Fields) 0 e.Values
theorem evalid_eq {N : Nat} {types : List GSchema} {e : GEvent} (hl : e.Values.length ≤ 1000) (hN : 1000 < N) : event_valid N types e = some (evC types e) := by
 unfold event_valid event_numbers evC
 simp only [cmp_lss, cmp_geq, cmp_gtr, cmp_neq, or_def, len_def, Bool.or_eq_true, decide_eq_true_eq, Bool.not_eq_true', decide_eq_false_iff_not]
 by_cases h1 : e.Source < 0 ∨ 8 ≤ e.Source
 ·simp only [if_pos h1, Option.bind_some]
  rw [if_pos (by decide)]
 ·simp only [if_neg h1]
  by_cases h2 : ((e.Seq < 0 ∨ 1099511627776 < e.Seq) ∨ e.Time < 0) ∨ 1099511627776 < e.Time
  ·simp only [if_pos h2, Option.bind_some]
   rw [if_pos (by decide)]
  ·simp only [if_neg h2, Option.bind_some]
   rw [if_neg (by decide)]
   by_cases h3 : e.Typ < 0 ∨ (types.length : Int) ≤ e.Typ
   ·simp only [if_pos h3]
   ·simp only [if_neg h3]
    obtain ⟨s, hs, hs'⟩ := idx_int (l := types) (i := e.Typ) (by omega)
    rw [hs, hs']
    simp only [Option.bind_some]
    by_cases h4 : e.Values.length = s.Fields.length
    ·rw [if_neg (by omega), if_neg (by omega)]
     refine bind_of1' (chk_loop (l := e.Values) (f := vlF s.Fields) (N := N) (e := .inl ()) (b := fun r => .inr r) (fun i x hx hi => ?_) ?_ (by omega)) ?_
     ·have hf := List.getElem?_eq_getElem (show i < s.Fields.length by omega)
      simp only [idx_at, hx, hf, Option.bind_some, value_eq, decide_eq_true_eq]
      rw [if_pos (by omega), inc_i64 hi (by omega)]
      unfold vlF
      rw [hf]
      by_cases a : valBad x = 0
      ·simp only [a, ne_eq, not_true_eq_false, if_false]
       by_cases b : x.Kind = s.Fields[i].Kind
       ·simp only [b, not_true_eq_false, if_false, if_true]
       ·simp only [b, not_false_eq_true, if_true]; rfl
      ·simp only [a, ne_eq, not_false_eq_true, if_true, if_false]
     ·rw [if_neg (by omega)]
     ·by_cases z : fb (vlF s.Fields) 0 e.Values = 0
      ·simp only [z, if_true]
      ·simp only [if_neg z]
    ·rw [if_pos (by omega), if_pos (by omega)]
def numI (s : GSchema) : Int := fstI (fun f : GField => decide (f.Kind = 0)) s.Fields
theorem numeric_eq {N : Nat} {s : GSchema} (hl : s.Fields.length ≤ 1000) (hN : 1000 < N) : predicate_numeric N s = some (numI s) := by
 unfold predicate_numeric slices_IndexFunc_LField_Field numI fstI
 rw [find_loop (l := s.Fields) (p := fun f : GField => decide (f.Kind = 0)) (e := .inl ()) (b := fun i _ => .inr (i : Int)) (N := N) ?_ ?_ (by omega)]
 ·simp only [Option.bind_some]
  cases fnd (fun f : GField => decide (f.Kind = 0)) 0 s.Fields <;> rfl
 ·intro i x hx hi
  simp only [cmp_lss, len_def, idx_at, hx, Option.bind_some, predicate_numeric_1, cmp_eql, decide_eq_true_eq]
  rw [if_pos (by omega), inc_i64 hi (by omega)]
 ·simp only [cmp_lss, len_def, decide_eq_true_eq]; rw [if_neg (by omega)]
theorem numI_bnd (s : GSchema) : -1 ≤ numI s ∧ numI s < (s.Fields.length : Int) := by
 unfold numI fstI
 cases h : fnd (fun f : GField => decide (f.Kind = 0)) 0 s.Fields with
 | none => simp only; omega
 | some q =>
  obtain ⟨k, x⟩ := q
  have := (List.getElem?_eq_some_iff.1 (fnd_some h).2.1).1
  simp only; omega
end Go.Ab

namespace Go.Ab
open Classical
set_option maxRecDepth 100000
structure NodeOk (x : GExpr) : Prop where
 op : 0 ≤ x.Op ∧ x.Op ≤ 12
 ar : (x.Args.length : Int) = (if x.Op < 5 then 0 else if x.Op = 12 then 1 else 2)
 var : (x.Op = 1 ∨ x.Op = 2 ∨ x.Op = 3 ∨ x.Op = 4) → 0 ≤ x.Var ∧ x.Var < 16
 fld : (x.Op = 1 ∨ x.Op = 4) → 0 ≤ x.Field ∧ x.Field < 8
 knd : x.Op = 4 → x.Kind ≠ 0
 val : (x.Op = 4 ∨ x.Op = 0) → valBad x.Value = 0
theorem node_ok {x : GExpr} (h : exprBad x = 0) : NodeOk x := by
 unfold exprBad at h
 by_cases h0 : x.Op < 0 ∨ 12 < x.Op
 ·rw [if_pos h0] at h; cases h
 rw [if_neg h0] at h
 by_cases h1 : (x.Args.length : Int) ≠ (if x.Op < 5 then 0 else if x.Op = 12 then 1 else 2)
 ·rw [if_pos h1] at h; cases h
 rw [if_neg h1] at h
 by_cases h2 : outB x = true
 ·rw [if_pos h2] at h; cases h
 rw [if_neg h2] at h
 by_cases h3 : kindB x = true
 ·rw [if_pos h3] at h; cases h
 rw [if_neg h3] at h
 by_cases h4 : (x.Op = 4 ∨ x.Op = 0) ∧ valBad x.Value ≠ 0
 ·rw [if_pos h4] at h; exact absurd h h4.2
 simp only [outB, usesV, usesF, kindB, an_def, or_def, cmp_lss, cmp_geq, cmp_gtr, cmp_eql, Bool.or_eq_true, Bool.and_eq_true, decide_eq_true_eq, not_or, not_and] at h2 h3 h4
 refine ⟨by omega, Classical.not_not.1 h1, fun hu => ?_, fun hu => ?_, fun hu => ?_, fun hu => ?_⟩
 ·have := h2.1 hu; omega
 ·have := h2.2 hu; omega
 ·have := h3 hu; omega
 ·exact Classical.not_not.1 (h4 hu)
theorem kinds_loop {N : Nat} {l : List GExpr} {F G : GExpr → Option (Int × Int)} (h : ∀ a ∈ l, ∃ r, F a = some r ∧ G a = some r) (hl : l.length ≤ 1000000) (hN : 1000000 < N) :
 ∃ r : List Int ⊕ Int, (∀ ks, r = .inl ks → ks.length = l.length) ∧ ∀ K : GExpr → Option (Int × Int), K = F ∨ K = G →
  loopN (fun (s2 : (List Int) × Int) =>
   (
    if Ar.cmp .lss s2.2 (Ar.len l) = true then
     (idxL l s2.2).bind fun x5 =>
     (K x5).bind fun r6 =>
     if Ar.cmp .neq r6.2 0 = true then
      some (.inr (.inr r6.2))
     else
      (appL s2.1 ([r6.1])).bind fun l8 =>
      some (.inl (l8, Ar.ar .add .i64 s2.2 1))
    else
     some (.inr (.inl s2.1))
    : Option (((List Int) × Int) ⊕ (((List Int)) ⊕ Int)))) N ([], 0) = some r := by
 let kd : GExpr → Int × Int := fun a => if ha : a ∈ l then Classical.choose (h a ha) else (0, 0)
 have hk : ∀ a ∈ l, F a = some (kd a) ∧ G a = some (kd a) := fun a ha => by
  have := Classical.choose_spec (h a ha)
  simp only [kd, dif_pos ha]; exact this
 let body : List Int → GExpr → Option (List Int ⊕ (List Int ⊕ Int)) := fun s a => if (kd a).2 ≠ 0 then some (.inr (.inr (kd a).2)) else (appL s [(kd a).1]).bind fun l8 => some (.inl l8)
 have tot : ∀ (m : List GExpr) (s : List Int), s.length + m.length ≤ 1000000 → ∃ o, rangeL body m s = some o ∧ (∀ s', o = .inl s' → s'.length = s.length + m.length) ∧ ∀ ks, o = .inr (.inl ks) → False := by
  intro m
  induction m with
  | nil => intro s _; exact ⟨.inl s, rfl, fun s' e => by cases e; simp, fun ks e => by cases e⟩
  | cons a m ih =>
   intro s hs
   simp only [List.length_cons] at hs
   unfold rangeL
   by_cases z : (kd a).2 = 0
   ·obtain ⟨o, h1, h2, h3⟩ := ih (s ++ [(kd a).1]) (by simp; omega)
    refine ⟨o, ?_, fun s' e => by have := h2 s' e; simp at this ⊢; omega, h3⟩
    have : body s a = some (.inl (s ++ [(kd a).1])) := by
     simp only [body, z, ne_eq, not_true_eq_false, if_false]
     rw [appL_eq (by simp; omega)]
     rfl
    simp only [this, Option.bind_some]
    exact h1
   ·refine ⟨.inr (.inr (kd a).2), ?_, (fun s' e => by cases e), (fun ks e => by cases e)⟩
    have : body s a = some (.inr (.inr (kd a).2)) := by simp only [body, ne_eq, z, not_false_eq_true, if_true]
    simp only [this, Option.bind_some]
 obtain ⟨o, h1, h2, h3⟩ := tot l [] (by simpa using hl)
 obtain ⟨v, hv1, hv2⟩ : ∃ v : List Int ⊕ Int, (∀ ks, v = .inl ks → ks.length = l.length) ∧ (∀ s, o = .inl s → v = .inl s) ∧ ∀ r, o = .inr r → v = r := by
  cases o with
  | inl s => exact ⟨.inl s, (fun ks e => by cases e; simpa using h2 _ rfl), (fun s e => by cases e; rfl), (fun r e => by cases e)⟩
  | inr r => exact ⟨r, (fun ks e => by subst e; exact (h3 _ rfl).elim), (fun s e => by cases e), (fun r e => by cases e; rfl)⟩
 refine ⟨v, hv1, fun K hK => ?_⟩
 ·rw [loop_list l (by omega) (mk := fun (s : List Int) i => (s, i)) (body := body) (fin := fun s => .inl s) (s := []) (by omega) ?_ ?_]
  ·rw [h1]
   cases o with
   | inl s => rw [hv2.1 s rfl]; rfl
   | inr r => rw [hv2.2 r rfl]; rfl
  ·intro s i a ha hi
   have hm := List.mem_of_getElem? ha
   have e : K a = some (kd a) := by rcases hK with rfl | rfl; exact (hk a hm).1; exact (hk a hm).2
   have ei : Ar.ar .add .i64 (i : Int) 1 = i + 1 := add_i64 (by omega) (by omega)
   simp only [cmp_lss, cmp_neq, len_def, hi, decide_true, if_true, idx_at, ha, Option.bind_some, e, ei, body, Bool.not_eq_true', decide_eq_false_iff_not]
   by_cases z : (kd a).2 = 0
   ·simp only [z, not_true_eq_false, if_false, ne_eq]
    cases appL s [(kd a).1] <;> rfl
   ·simp only [z, not_false_eq_true, if_true, ne_eq]
    rfl
  ·intro s
   simp only [cmp_lss, len_def, decide_eq_true_eq]; rw [if_neg (by omega)]
end Go.Ab

namespace Go.Ab
open Classical
set_option maxRecDepth 100000
noncomputable def vrF (types : List GSchema) (_ : Nat) (v : GVariable) : Int := if v.Typ < 0 ∨ (types.length : Int) ≤ v.Typ then 1 else 0
end Go.Ab

