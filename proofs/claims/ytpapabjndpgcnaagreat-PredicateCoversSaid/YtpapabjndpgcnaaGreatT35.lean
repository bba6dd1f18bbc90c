/- GPIn AbM1 GPL1 GPL2 -/
import Derived.Test.YtpapabjndpgcnaaGreatT34
import Derived.Test.YtpapabjndpgcnaaGreatT27
import Derived.Test.YtpapabjndpgcnaaGreatRows
import Derived.WalkKit
import Derived.ProofKit
import Derived.OpenShut
import Derived.Deep.DeepHandedRow
import Derived.Carry
import Derived.Test.YtpapabjndpgcnaaGreatT21
import Derived.Test.YtpapabjndpgcnaaGreatT28
set_option linter.all false

namespace Go.Ab
open Go.RowKit Go.ChangeShapes Go.WideShapes Go.ChangeAt Go.Proofs Go.Proofs.YtpapabjndpgcnaaGreat
set_option maxRecDepth 100000
mutual
def encE : GExpr → V
 | ⟨op, args, var, field, kind, val⟩ => .agg [.int .i64 op, .sl (encEs args) .ro, .int .i64 var, .int .i64 field, .int .i64 kind, .int .i64 val.Kind, .int .i64 val.Num, .str val.Text]
def encEs : List GExpr → List V
 | [] => []
 | a :: r => encE a :: encEs r
end
theorem encEs_map : ∀ l : List GExpr, encEs l = l.map encE
 | [] => by simp [encEs]
 | a :: r => by simp [encEs, encEs_map r]
noncomputable def encGInterval (x : GInterval) : V := .agg [.int .i64 x.Low, .int .i64 x.High]
noncomputable def encLGInterval (x : List GInterval) : V := .sl (Ar.lst encGInterval x) .ro
noncomputable def encGPredicate (x : GPredicate) : V := .agg [.sl (Ar.lst encLGInterval x.Sets) .ro]
noncomputable def encGSymbol (x : GSymbol) : V := .agg [.int .i64 x.Typ, .int .i64 x.Num]
noncomputable def encGField (x : GField) : V := .agg [.str x.Name, .int .i64 x.Kind]
noncomputable def encGSchema (x : GSchema) : V := .agg [.str x.Name, .sl (Ar.lst encGField x.Fields) .ro]
noncomputable def encGValue (x : GValue) : V := .agg [.int .i64 x.Kind, .int .i64 x.Num, .str x.Text]
noncomputable def encGEvent (x : GEvent) : V := .agg [.int .i64 x.Source, .int .i64 x.Seq, .int .i64 x.Typ, .int .i64 x.Time, .sl (Ar.lst encGValue x.Values) .ro]
noncomputable def encGtidegatelaw27_Case (x : Gtidegatelaw27_Case) : V := .agg [.int .i64 x.Index, .int .i64 x.Own, .int .i64 x.Cond.Op, .sl (Ar.lst encE x.Cond.Args) .ro, .int .i64 x.Cond.Var, .int .i64 x.Cond.Field, .int .i64 x.Cond.Kind, .int .i64 x.Cond.Value.Kind, .int .i64 x.Cond.Value.Num, .str x.Cond.Value.Text, .int .i64 x.Event.Source, .int .i64 x.Event.Seq, .int .i64 x.Event.Typ, .int .i64 x.Event.Time, .sl (Ar.lst encGValue x.Event.Values) .ro]
noncomputable def encLGEvent (x : List GEvent) : V := .sl (Ar.lst encGEvent x) .ro
noncomputable def encGEnv (x : GEnv) : V := .agg [.sl (Ar.lst encLGEvent x.Vars) .ro]
noncomputable def encGVariable (x : GVariable) : V := .agg [.str x.Name, .int .i64 x.Typ]
noncomputable def encGexpr_typer (x : Gexpr_typer) : V := .agg [.sl (Ar.lst encGSchema x.types) .ro, .sl (Ar.lst encGVariable x.vars) .ro]
noncomputable def encGpredicate_line (x : Gpredicate_line) : V := .agg [.int .i64 x.times, .int .i64 x.plus]
noncomputable def encGAccumulator (x : GAccumulator) : V := .agg [.int .i64 x.Kind, .int .i64 x.Count, .int .i64 x.Value.Kind, .int .i64 x.Value.Num, .str x.Value.Text]
noncomputable def encLB (x : List Bool) : V := .sl (Ar.lst V.bool x) .ro
noncomputable instance encsInst : Encs where
 eGInterval := encGInterval
 eGInterval_eq := fun _ => rfl
 eGPredicate := encGPredicate
 eGPredicate_eq := fun _ => rfl
 eGSymbol := encGSymbol
 eGSymbol_eq := fun _ => rfl
 eGField := encGField
 eGField_eq := fun _ => rfl
 eGSchema := encGSchema
 eGSchema_eq := fun _ => rfl
 eGValue := encGValue
 eGValue_eq := fun _ => rfl
 eGExpr := encE
 eGExpr_eq := fun ⟨_, _, _, _, _, _⟩ => by simp only [encE, encEs_map]; rfl
 eGEvent := encGEvent
 eGEvent_eq := fun _ => rfl
 eGtidegatelaw27_Case := encGtidegatelaw27_Case
 eGtidegatelaw27_Case_eq := fun _ => rfl
 eGEnv := encGEnv
 eGEnv_eq := fun _ => rfl
 eGVariable := encGVariable
 eGVariable_eq := fun _ => rfl
 eGexpr_typer := encGexpr_typer
 eGexpr_typer_eq := fun _ => rfl
 eGpredicate_line := encGpredicate_line
 eGpredicate_line_eq := fun _ => rfl
 eGAccumulator := encGAccumulator
 eGAccumulator_eq := fun _ => rfl
 eLB := encLB
 eLB_eq := fun _ => rfl
 eLGInterval := encLGInterval
 eLGInterval_eq := fun _ => rfl
 eLGEvent := encLGEvent
 eLGEvent_eq := fun _ => rfl
section
variable [Glob] {H : Type} {enc : TypeId × Value → H} {W : World} {base : Nat} {spare : Nat → Bool} {held : Bool}
noncomputable def fsOf (P : Program) (t : TypeId) : Array Field := match P.underlying t with | some (.struct fs) => fs | _ => #[]
theorem open_fld {P : Program} {t ty off sz : Nat} {xs : List (DataW H × List MemPlace)} {cs : List Value} {n : Nat} (hl : xs.length = (fsOf P t).size)
 (hf : ∀ (i : Nat) (f : Field), (fsOf P t)[i]? = some f → DataW.trod enc P W base spare held n f.type ((cs.drop f.offset).take (P.cellsOf f.type)) = xs[i]?) (i : Nat)
 (h : ((fsOf P t)[i]?.map fun f => (f.type, f.offset, P.cellsOf f.type)) = some (ty, off, sz)) : ∃ y, xs[i]? = some y ∧ DataW.trod enc P W base spare held n ty ((cs.drop off).take sz) = some y := by
 cases hi : (fsOf P t)[i]? with
 | none => rw [hi] at h; cases h
 | some f =>
  rw [hi] at h
  simp only [Option.map_some, Option.some.injEq, Prod.mk.injEq] at h
  obtain ⟨rfl, rfl, rfl⟩ := h
  exact field_some hl hf i hi
theorem u3 : Tryz.prog.underlying 3 = some (.int .i64) := by kernel_rfl
theorem u4 : Tryz.prog.underlying 4 = some .bool := by kernel_rfl
theorem u22 : Tryz.prog.underlying 22 = some (.slice 26) := by kernel_rfl
theorem u24 : Tryz.prog.underlying 24 = some (.slice 87) := by kernel_rfl
theorem u87 : Tryz.prog.underlying 87 = some (.slice 90) := by kernel_rfl
theorem u26 : Tryz.prog.underlying 26 = some (.struct (fsOf Tryz.prog 26)) := by kernel_rfl
theorem u90 : Tryz.prog.underlying 90 = some (.struct (fsOf Tryz.prog 90)) := by kernel_rfl
def Any {α : Type} (_ : α) (_ : DataW H) : Prop := True
theorem Opens.down {α : Type} {P : Program} {t : TypeId} {f : α → V} {R : α → DataW H → Prop} {n : Nat} (h : Opens enc P W base spare held t f R (n + 1)) : Opens enc P W base spare held t f R n := fun cs x hx => h cs x (DataW.trod_le (Nat.le_succ n) hx)
theorem Opens.any {α : Type} {P : Program} {t : TypeId} {f g : α → V} {R : α → DataW H → Prop} {n : Nat} (h : Opens enc P W base spare held t f R n) (hg : ∀ x, f x = g x) : Opens enc P W base spare held t g Any n := fun cs x hx => by
 obtain ⟨a, r, _⟩ := h cs x hx
 exact ⟨a, by rw [← hg]; exact r, trivial⟩
theorem open_interval (n : Nat) : Opens enc Tryz.prog W base spare held 90 Encs.eGInterval Any n := by
 intro cs x h
 obtain ⟨xs, m, rfl, rfl, hcl, hl, hf⟩ := DataW.trod_struct u90 h
 obtain ⟨y0, k0, t0⟩ := open_fld hl hf 0 (ty := 3) (off := 0) (sz := 1) (by kernel_rfl)
 obtain ⟨y1, k1, t1⟩ := open_fld hl hf 1 (ty := 3) (off := 1) (sz := 1) (by kernel_rfl)
 obtain ⟨a0, r0, _⟩ := opens_int u3 _ _ t0
 obtain ⟨a1, r1, _⟩ := opens_int u3 _ _ t1
 refine ⟨⟨a0, a1⟩, ?_, trivial⟩
 have hc3 : cs.length = 2 := hcl.trans (by kernel_rfl)
 have := r0.join r1
 rw [Encs.eGInterval_eq]
 simpa [List.take_of_length_le, hc3, V.cells] using this
theorem open_intervals (n : Nat) : Opens enc Tryz.prog W base spare held 87 Encs.eLGInterval Any n :=
 Opens.down ((opens_slice u87 (show 0 < Tryz.prog.cellsOf 90 by rw [show Tryz.prog.cellsOf 90 = 2 by kernel_rfl]; decide) (open_interval n)).any fun x => by rw [Encs.eLGInterval_eq, Ar.lst_eq])
theorem open_sets (n : Nat) : Opens enc Tryz.prog W base spare held 24 (fun l : List (List GInterval) => .sl (l.map Encs.eLGInterval) .ro) Any n :=
 Opens.down ((opens_slice u24 (show 0 < Tryz.prog.cellsOf 87 by rw [show Tryz.prog.cellsOf 87 = 1 by kernel_rfl]; decide) (open_intervals n)).any fun x => rfl)
theorem open_predicate (n : Nat) : Opens enc Tryz.prog W base spare held 26 Encs.eGPredicate Any n := by
 intro cs x h
 obtain ⟨xs, m, rfl, rfl, hcl, hl, hf⟩ := DataW.trod_struct u26 h
 obtain ⟨y0, k0, t0⟩ := open_fld hl hf 0 (ty := 24) (off := 0) (sz := 1) (by kernel_rfl)
 obtain ⟨a0, r0, _⟩ := open_sets _ _ _ t0
 refine ⟨⟨a0⟩, ?_, trivial⟩
 have hc3 : cs.length = 1 := hcl.trans (by kernel_rfl)
 rw [Encs.eGPredicate_eq, Ar.lst_eq]
 simpa [List.take_of_length_le, hc3, V.cells] using r0
theorem open_predicates (n : Nat) : Opens enc Tryz.prog W base spare held 22 (fun l : List GPredicate => .sl (l.map Encs.eGPredicate) .ro) Any n :=
 Opens.down ((opens_slice u22 (show 0 < Tryz.prog.cellsOf 26 by rw [show Tryz.prog.cellsOf 26 = 1 by kernel_rfl]; decide) (open_predicate n)).any fun x => rfl)
theorem arg_int {v : Value} (hv : Value.okWide Tryz.prog W .any base 3 v) : ∃ n : Int, VR (g0 W) W v (.int .i64 n) := by
 obtain ⟨n, rfl⟩ := okWide_int u3 hv
 exact ⟨n, .int _ _⟩
theorem arg_predicates {v : Value} {d : DataW H} {p : List MemPlace} (hv : Value.okWide Tryz.prog W .any base 22 v) (h : DataW.Trod enc Tryz.prog W 0 (fun _ => true) true 22 v d p) : ∃ x : List GPredicate, VR (g0 W) W v (.sl (Ar.lst Encs.eGPredicate x) .ro) := by
 obtain ⟨fuel, ht⟩ := h
 obtain ⟨a, len, cap, rfl⟩ := okWide_slice u22 hv
 obtain ⟨x, hr, _⟩ := open_predicates fuel _ _ ht
 refine ⟨x, ?_⟩
 have := (hr.2 0 (by simp [V.cells])).2
 rw [Ar.lst_eq]
 exact this
theorem law_run {f : FuncId} {vals : Array Value} {args : List V} (hg : ∀ n, VR (g0 W) W (.pointer (some ⟨n, 0, none⟩)) (Glob.gl n)) (hcall : ∀ vals w, (callFunc f vals).run Tryz.prog w = .ok (.enter f vals) w) (law : CallP Tryz.prog f args (.bool true)) (hA : Args (g0 W) W vals args) :
 Calls Tryz.prog f vals W fun e W' => e = .returned (.bool true) ∧ Below W.heap.size W W' := by
 have hc := law (fun _ => none) (g0 W) W vals (rl0 hg) hA
 rw [hcall] at hc
 refine (callsIn_wide.1 hc).mono fun e W' ⟨v, he, g', y, H', hs, hR, hvy, hy, _⟩ => ?_
 subst hy
 cases hvy
 exact ⟨he, hs.low⟩
theorem args1 {v0 : Value} {x0 : V} (h0 : VR (g0 W) W v0 x0) : Args (g0 W) W #[v0] [x0] := ⟨rfl, fun i hi => by
 match i, hi with
 | 0, _ => exact h0⟩
theorem args2 {v0 v1 : Value} {x0 x1 : V} (h0 : VR (g0 W) W v0 x0) (h1 : VR (g0 W) W v1 x1) : Args (g0 W) W #[v0, v1] [x0, x1] := ⟨rfl, fun i hi => by
 match i, hi with
 | 0, _ => exact h0
 | 1, _ => exact h1⟩
end
end Go.Ab

namespace Go.Ab
theorem cmp_lss (a b : Int) : Ar.cmp .lss a b = decide (a < b) := rfl
theorem cmp_leq (a b : Int) : Ar.cmp .leq a b = decide (a ≤ b) := rfl
theorem cmp_gtr (a b : Int) : Ar.cmp .gtr a b = decide (b < a) := rfl
theorem cmp_geq (a b : Int) : Ar.cmp .geq a b = decide (b ≤ a) := rfl
theorem cmp_eql (a b : Int) : Ar.cmp .eql a b = decide (a = b) := rfl
theorem cmp_neq (a b : Int) : Ar.cmp .neq a b = !decide (a = b) := rfl
theorem nt_def (a : Bool) : Ar.nt a = !a := rfl
theorem an_def (a b : Bool) : Ar.an a b = (a && b) := rfl
theorem or_def (a b : Bool) : Ar.or a b = (a || b) := rfl
theorem len_def {α : Type} (l : List α) : Ar.len l = (l.length : Int) := rfl
theorem mx_def (a b : Int) : Ar.mx a b = if a < b then b else a := rfl
theorem wrap_i64 {n : Int} (h0 : -9223372036854775808 ≤ n) (h1 : n < 9223372036854775808) : IntKind.wrap .i64 n = n := by
 have e : IntKind.wrap .i64 n = (if n % 18446744073709551616 ≥ 9223372036854775808 then n % 18446744073709551616 - 18446744073709551616 else n % 18446744073709551616) := by
  unfold IntKind.wrap
  simp [IntKind.bits, IntKind.signed]
 rw [e]
 split <;> omega
theorem add_i64 {a b : Int} (h0 : -9223372036854775808 ≤ a + b) (h1 : a + b < 9223372036854775808) : Ar.ar .add .i64 a b = a + b := wrap_i64 h0 h1
theorem idx_at {α : Type} {l : List α} {i : Nat} : idxL l (i : Int) = l[i]? := by simp [idxL]
end Go.Ab

namespace Go.Ab
def fb {α : Type} (f : Nat → α → Int) : Nat → List α → Int
 | _, [] => 0
 | i, x :: r => if f i x = 0 then fb f (i + 1) r else f i x
theorem fb_zero {α : Type} {f : Nat → α → Int} : ∀ {l : List α} {i : Nat}, fb f i l = 0 ↔ ∀ (k : Nat) x, l[k]? = some x → f (i + k) x = 0
 | [], i => by simp [fb]
 | y :: r, i => by
  unfold fb
  split
  ·rename_i h
   rw [fb_zero]
   refine ⟨fun H k x hk => ?_, fun H k x hk => ?_⟩
   ·cases k with
    | zero => simp at hk; subst hk; exact h
    | succ k => rw [show i + (k + 1) = i + 1 + k by omega]; exact H k x (by simpa using hk)
   ·have := H (k + 1) x (by simpa using hk)
    rwa [show i + (k + 1) = i + 1 + k by omega] at this
  ·rename_i h
   exact ⟨fun e => absurd e h, fun H => absurd (H 0 y (by simp)) h⟩
theorem inc_i64 {i : Nat} {n : Nat} (hi : i < n) (hn : n < 1000000000000) : Ar.ar .add .i64 (i : Int) 1 = ((i + 1 : Nat) : Int) := by
 rw [add_i64 (by omega) (by omega)]; omega
theorem chk_loop {α R : Type} {l : List α} {step : Int → Option (Int ⊕ R)} {f : Nat → α → Int} {e : R} {b : Int → R}
 (hs : ∀ (i : Nat) x, l[i]? = some x → i < l.length → step (i : Int) = if f i x = 0 then some (.inl ((i + 1 : Nat) : Int)) else some (.inr (b (f i x))))
 (he : step (l.length : Int) = some (.inr e)) : ∀ {N : Nat}, l.length < N → loopN step N 0 = some (if fb f 0 l = 0 then e else b (fb f 0 l)) := by
 have key : ∀ (k i N : Nat), i + k = l.length → k < N → loopN step N (i : Int) = some (if fb f i (l.drop i) = 0 then e else b (fb f i (l.drop i))) := by
  intro k
  induction k with
  | zero =>
   intro i N hi hN
   obtain ⟨N, rfl⟩ : ∃ M, N = M + 1 := ⟨N - 1, by omega⟩
   rw [show i = l.length by omega, List.drop_length]
   simp [loopN, he, fb]
  | succ k ih =>
   intro i N hi hN
   obtain ⟨N, rfl⟩ : ∃ M, N = M + 1 := ⟨N - 1, by omega⟩
   have hlt : i < l.length := by omega
   rw [List.drop_eq_getElem_cons hlt]
   simp only [loopN, hs i _ (List.getElem?_eq_getElem hlt) hlt, fb]
   by_cases h : f i l[i] = 0
   ·simp only [h, if_true]
    exact ih (i + 1) N (by omega) (by omega)
   ·simp only [h, if_false]
 intro N hN
 have := key l.length 0 N (by omega) hN
 simpa using this
def fm (x : GInterval) : Int :=
 if x.Low < -1099511627776 ∨ 1099511627776 < x.Low ∨ x.High < -1099511627776 ∨ 1099511627776 < x.High then 2 else if x.High < x.Low then 3 else 0
theorem fm_zero {x : GInterval} (h : fm x = 0) : -1099511627776 ≤ x.Low ∧ x.Low ≤ x.High ∧ x.High ≤ 1099511627776 := by
 unfold fm at h
 split at h
 ·cases h
 ·split at h
  ·cases h
  ·omega
theorem formed_eq (N : Nat) (x : GInterval) : interval_formed N x = some (fm x) := by
 unfold interval_formed fm
 simp only [cmp_lss, cmp_gtr, or_def, Bool.or_eq_true, decide_eq_true_eq, or_assoc]
 split
 ·rfl
 ·split <;> rfl
theorem one_eq (N : Nat) (x : GInterval) : ref02_one N x = some (fm x) := by
 unfold ref02_one ref02_in fm
 simp only [cmp_geq, cmp_leq, cmp_gtr, an_def, nt_def, Option.bind_some, Bool.not_eq_true', Bool.and_eq_false_iff, decide_eq_false_iff_not, decide_eq_true_eq]
 repeat' split
 all_goals first | rfl | (exfalso; omega)
noncomputable def fi (l : List GInterval) (i : Nat) (x : GInterval) : Int :=
 if fm x = 0 then (if 0 < i then match l[i - 1]? with | some y => if x.Low < Ar.ar .add .i64 y.High 2 then 14 else 0 | none => 0 else 0) else fm x
noncomputable def ck (l : List GInterval) : Int := if 256 < l.length then 5 else fb (fi l) 0 l
theorem dec_at {α : Type} {l : List α} {i : Nat} (hi : 0 < i) (hl : i < l.length) (hn : l.length < 1000000000000) : idxL l (Ar.ar .sub .i64 (i : Int) 1) = l[i - 1]? := by
 have e : Ar.ar .sub .i64 (i : Int) 1 = ((i - 1 : Nat) : Int) := by
  show IntKind.wrap .i64 ((i : Int) - 1) = _
  rw [wrap_i64 (by omega) (by omega)]; omega
 rw [e, idx_at]
theorem icheck_eq {N : Nat} {l : List GInterval} (hN : 256 < N) : interval_Check N l = some (ck l) := by
 unfold interval_Check ck
 simp only [cmp_gtr, len_def, decide_eq_true_eq]
 by_cases hl : 256 < l.length
 ·rw [if_pos (by omega), if_pos hl]
 ·rw [if_neg (by omega), if_neg hl]
  rw [chk_loop (l := l) (f := fi l) (e := .inl ()) (b := .inr) (N := N) ?_ ?_ (by omega)]
  ·simp only [Option.bind_some]
   by_cases h : fb (fi l) 0 l = 0
   ·simp [h]
   ·simp [h]
  ·intro i x hx hi
   simp only [cmp_lss, cmp_neq, formed_eq, idx_at, hx, Option.bind_some, decide_eq_true_eq]
   rw [if_pos (by omega), inc_i64 hi (by omega)]
   unfold fi
   by_cases h0 : fm x = 0
   ·simp only [h0, decide_true, Bool.not_true, Bool.false_eq_true, if_false, if_true]
    by_cases hp : 0 < i
    ·rw [if_pos (by omega), dec_at hp hi (by omega)]
     cases hy : l[i - 1]? with
     | none => rw [List.getElem?_eq_none_iff] at hy; omega
     | some y =>
      simp only [Option.bind_some, hp, if_true]
      by_cases hh : x.Low < Ar.ar .add .i64 y.High 2
      ·rw [if_pos hh, if_pos hh]; rfl
      ·rw [if_neg hh, if_neg hh]; rfl
    ·rw [if_neg (by omega)]; simp [hp]
   ·simp [h0]
  ·simp [cmp_lss]
theorem rcheck_eq {N : Nat} {l : List GInterval} (hN : 256 < N) : ref02_Check N l = some (ck l) := by
 unfold ref02_Check ck
 simp only [cmp_gtr, len_def, decide_eq_true_eq]
 by_cases hl : 256 < l.length
 ·rw [if_pos (by omega), if_pos hl]
 ·rw [if_neg (by omega), if_neg hl]
  rw [chk_loop (l := l) (f := fi l) (e := .inl ()) (b := .inr) (N := N) ?_ ?_ (by omega)]
  ·simp only [Option.bind_some]
   by_cases h : fb (fi l) 0 l = 0
   ·simp [h]
   ·simp [h]
  ·intro i x hx hi
   simp only [cmp_lss, cmp_neq, one_eq, idx_at, hx, Option.bind_some, decide_eq_true_eq]
   rw [if_pos (by omega), inc_i64 hi (by omega)]
   unfold fi
   by_cases h0 : fm x = 0
   ·simp only [h0, decide_true, Bool.not_true, Bool.false_eq_true, if_false, if_true]
    by_cases hp : 0 < i
    ·rw [if_pos (by omega), dec_at hp hi (by omega)]
     cases hy : l[i - 1]? with
     | none => rw [List.getElem?_eq_none_iff] at hy; omega
     | some y =>
      simp only [Option.bind_some, hp, if_true]
      by_cases hh : x.Low < Ar.ar .add .i64 y.High 2
      ·rw [if_pos hh, if_pos hh]; rfl
      ·rw [if_neg hh, if_neg hh]; rfl
    ·rw [if_neg (by omega)]; simp [hp]
   ·simp [h0]
  ·simp [cmp_lss]
def Srt (l : List GInterval) : Prop := l.length ≤ 256 ∧ (∀ x ∈ l, -1099511627776 ≤ x.Low ∧ x.Low ≤ x.High ∧ x.High ≤ 1099511627776) ∧ ∀ (i : Nat) x y, l[i]? = some x → l[i + 1]? = some y → x.High + 2 ≤ y.Low
theorem ck_zero {l : List GInterval} (h : ck l = 0) : Srt l := by
 unfold ck at h
 split at h
 ·cases h
 ·rename_i hl
  have h := fb_zero.1 h
  have hm : ∀ (k : Nat) x, l[k]? = some x → fm x = 0 := fun k x hx => by
   have := h k x hx
   unfold fi at this
   by_cases h0 : fm x = 0
   ·exact h0
   ·rw [if_neg h0] at this; exact this
  refine ⟨by omega, fun x hx => ?_, fun i x y hx hy => ?_⟩
  ·obtain ⟨k, hk⟩ := List.getElem?_of_mem hx
   exact fm_zero (hm k x hk)
  ·have h1 := fm_zero (hm _ _ hx)
   have := h (i + 1) y hy
   simp only [Nat.zero_add] at this
   unfold fi at this
   rw [if_pos (hm _ _ hy), if_pos (by omega), show i + 1 - 1 = i by omega, hx] at this
   simp only at this
   rw [add_i64 (by omega) (by omega)] at this
   split at this
   ·cases this
   ·omega
end Go.Ab

namespace Go.Ab
theorem wrap_u64 {n : Int} (h0 : 0 ≤ n) (h1 : n < 18446744073709551616) : IntKind.wrap .u64 n = n := by
 have e : IntKind.wrap .u64 n = n % 18446744073709551616 := by
  unfold IntKind.wrap
  simp [IntKind.bits, IntKind.signed]
 rw [e]; omega
theorem mid_eq {i j : Nat} (h : i + j < 1000000000000) : Ar.wr .i64 (Ar.sh .shr .u64 (Ar.wr .u64 (Ar.ar .add .i64 (i : Int) (j : Int))) 1) = (((i + j) / 2 : Nat) : Int) := by
 rw [add_i64 (by omega) (by omega)]
 show IntKind.wrap .i64 (shI .shr .u64 (IntKind.wrap .u64 ((i : Int) + j)) 1) = _
 rw [wrap_u64 (by omega) (by omega)]
 have e : shI .shr .u64 ((i : Int) + j) 1 = ((i : Int) + j) / 2 := by
  show ((i : Int) + j).fdiv (2 ^ (min (1 : Int).toNat 64)) = _
  rw [show (2 : Int) ^ (min (1 : Int).toNat 64) = 2 from rfl, Int.fdiv_eq_ediv_of_nonneg _ (by decide)]
 rw [e, wrap_i64 (by omega) (by omega)]; omega
def whr3 (x : GInterval) (n : Int) : Int := if x.High < n then -1 else if n < x.Low then 1 else 0
theorem has1_eq (N : Nat) (x : GInterval) (n : Int) : interval_has_1 N x n = some (whr3 x n) := by
 unfold interval_has_1 whr3
 simp only [cmp_lss, cmp_gtr, decide_eq_true_eq]
 repeat' split
 all_goals rfl
def InL (l : List GInterval) (n : Int) : Prop := ∃ x ∈ l, x.Low ≤ n ∧ n ≤ x.High
theorem srt_le {l : List GInterval} (hs : Srt l) : ∀ (d i : Nat) x y, l[i]? = some x → l[i + d + 1]? = some y → x.High + 2 ≤ y.Low
 | 0, i, x, y, hx, hy => hs.2.2 i x y hx hy
 | d + 1, i, x, y, hx, hy => by
  have hlt : i + d + 1 < l.length := by
   rcases Nat.lt_or_ge (i + d + 1) l.length with h | h
   ·exact h
   ·rw [List.getElem?_eq_none (by omega)] at hy; cases hy
  have h1 := srt_le hs d i x _ hx (List.getElem?_eq_getElem hlt)
  have h2 := hs.2.2 (i + d + 1) _ y (List.getElem?_eq_getElem hlt) hy
  have h3 := hs.2.1 _ (List.getElem_mem hlt)
  omega
theorem bs_loop {N0 : Nat} {l : List GInterval} {n : Int} (hs : Srt l) : ∀ (k i j N : Nat), j - i ≤ k → i ≤ j → j ≤ l.length → k < N →
 (∀ m x, m < i → l[m]? = some x → x.High < n) → (∀ m x, j ≤ m → l[m]? = some x → n ≤ x.High) →
 ∃ r : Nat, r ≤ l.length ∧ (∀ m x, m < r → l[m]? = some x → x.High < n) ∧ (∀ m x, r ≤ m → l[m]? = some x → n ≤ x.High) ∧
  loopN (fun (s1 : Int × Int) => (
   if Ar.cmp .lss s1.1 s1.2 = true then
    (idxL l (Ar.wr .i64 (Ar.sh .shr .u64 (Ar.wr .u64 (Ar.ar .add .i64 s1.1 s1.2)) 1))).bind fun x3 =>
    (interval_has_1 N0 x3 n).bind fun r4 =>
    if Ar.cmp .lss r4 0 = true then
     some (.inl (Ar.ar .add .i64 (Ar.wr .i64 (Ar.sh .shr .u64 (Ar.wr .u64 (Ar.ar .add .i64 s1.1 s1.2)) 1)) 1, s1.2))
    else
     some (.inl (s1.1, Ar.wr .i64 (Ar.sh .shr .u64 (Ar.wr .u64 (Ar.ar .add .i64 s1.1 s1.2)) 1)))
   else
    some (.inr s1.1) : Option ((Int × Int) ⊕ (Int)))) N ((i : Int), (j : Int)) = some (r : Int) := by
 intro k
 have hl := hs.1
 induction k with
 | zero =>
  intro i j N hk hij hj hN h1 h2
  obtain ⟨N, rfl⟩ : ∃ M, N = M + 1 := ⟨N - 1, by omega⟩
  refine ⟨i, by omega, h1, fun m x hm hx => h2 m x (by omega) hx, ?_⟩
  unfold loopN
  simp only [cmp_lss, decide_eq_true_eq]
  rw [if_neg (by omega)]
 | succ k ih =>
  intro i j N hk hij hj hN h1 h2
  obtain ⟨N, rfl⟩ : ∃ M, N = M + 1 := ⟨N - 1, by omega⟩
  by_cases hlt : i < j
  ·have hm : (i + j) / 2 < l.length := by omega
   have hx := List.getElem?_eq_getElem hm
   have step := mid_eq (i := i) (j := j) (by omega)
   by_cases hc : l[(i + j) / 2].High < n
   ·obtain ⟨r, r1, r2, r3, r4⟩ := ih ((i + j) / 2 + 1) j N (by omega) (by omega) hj (by omega) (fun m x hm' hx' => by
     by_cases e : m = (i + j) / 2
     ·subst e; rw [hx] at hx'; cases hx'; exact hc
     ·have := srt_le hs ((i + j) / 2 - m - 1) m x l[(i + j) / 2] hx' (by rw [← hx]; congr 1; omega)
      have := hs.2.1 _ (List.getElem_mem hm)
      omega) h2
    refine ⟨r, r1, r2, r3, ?_⟩
    rw [← r4]
    conv => lhs; unfold loopN
    simp only [cmp_lss, decide_eq_true_eq, step, idx_at, hx, Option.bind_some, has1_eq]
    rw [if_pos (by omega), if_pos (by unfold whr3; rw [if_pos hc]; decide)]
    simp only [inc_i64 hm (by omega)]
   ·obtain ⟨r, r1, r2, r3, r4⟩ := ih i ((i + j) / 2) N (by omega) (by omega) (by omega) (by omega) h1 (fun m x hm' hx' => by
     by_cases e : m = (i + j) / 2
     ·subst e; rw [hx] at hx'; cases hx'; omega
     ·have := srt_le hs (m - (i + j) / 2 - 1) ((i + j) / 2) l[(i + j) / 2] x hx (by rw [← hx']; congr 1; omega)
      have := hs.2.1 x (List.mem_of_getElem? hx')
      omega)
    refine ⟨r, r1, r2, r3, ?_⟩
    rw [← r4]
    conv => lhs; unfold loopN
    simp only [cmp_lss, decide_eq_true_eq, step, idx_at, hx, Option.bind_some, has1_eq]
    rw [if_pos (by omega), if_neg (by unfold whr3; rw [if_neg hc]; split <;> decide)]
  ·refine ⟨i, by omega, h1, fun m x hm hx => h2 m x (by omega) hx, ?_⟩
   unfold loopN
   simp only [cmp_lss, decide_eq_true_eq]
   rw [if_neg (by omega)]
theorem has_eq {N : Nat} {l : List GInterval} {n : Int} (hs : Srt l) (hN : 300 < N) : ∃ b, interval_has N l n = some b ∧ (b = true ↔ InL l n) := by
 have hl := hs.1
 obtain ⟨r, r1, r2, r3, r4⟩ := bs_loop (N0 := N) (n := n) hs l.length 0 l.length N (by omega) (by omega) (by omega) (by omega) (fun m x h => by omega) (fun m x h hx => by rw [List.getElem?_eq_none h] at hx; cases hx)
 unfold interval_has slices_BinarySearchFunc_LInterval_Interval_int
 simp only [len_def]
 rw [show ((0 : Int), ((l.length : Nat) : Int)) = (((0 : Nat) : Int), ((l.length : Nat) : Int)) from rfl, r4]
 simp only [Option.bind_some, cmp_lss, decide_eq_true_eq]
 by_cases hr : r < l.length
 ·have hx := List.getElem?_eq_getElem hr
  rw [if_pos (by omega), idx_at, hx]
  simp only [Option.bind_some, has1_eq]
  refine ⟨_, rfl, ?_⟩
  simp only [cmp_eql, decide_eq_true_eq]
  have h3 := r3 r _ (by omega) hx
  unfold whr3
  rw [if_neg (by omega)]
  constructor
  ·intro h
   split at h
   ·cases h
   ·exact ⟨_, List.getElem_mem hr, by omega, h3⟩
  ·rintro ⟨x, hx', h1, h2⟩
   obtain ⟨m, hm⟩ := List.getElem?_of_mem hx'
   have hmr : ¬ m < r := fun h => by have := r2 m x h hm; omega
   by_cases e : m = r
   ·subst e; rw [hx] at hm; cases hm; rw [if_neg (by omega)]
   ·have := srt_le hs (m - r - 1) r l[r] x hx (by rw [← hm]; congr 1; omega)
    omega
 ·rw [if_neg (by omega)]
  refine ⟨_, rfl, ?_⟩
  simp only [Bool.false_eq_true, false_iff]
  rintro ⟨x, hx', h1, h2⟩
  obtain ⟨m, hm⟩ := List.getElem?_of_mem hx'
  have hml : m < l.length := (List.getElem?_eq_some_iff.1 hm).1
  have := r2 m x (by omega) hm
  omega
end Go.Ab

