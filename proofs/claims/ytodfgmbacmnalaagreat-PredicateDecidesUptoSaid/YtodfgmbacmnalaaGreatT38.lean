/- GQIn GQE2 -/
import Derived.Test.YtodfgmbacmnalaaGreatT37
import Derived.Test.YtodfgmbacmnalaaGreatT29
import Derived.Test.YtodfgmbacmnalaaGreatRows
import Derived.WalkKit
import Derived.ProofKit
import Derived.OpenShut
import Derived.Deep.DeepHandedRow
import Derived.Carry
import Derived.Laws.Strings
set_option linter.all false

namespace Go.Ab
open Go.RowKit Go.ChangeShapes Go.WideShapes Go.ChangeAt Go.Proofs Go.Proofs.YtodfgmbacmnalaaGreat
set_option maxRecDepth 100000
mutual
def encE : GExpr → V
 | ⟨op, args, var, field, kind, val⟩ => .agg [.int .i64 op, .sl (encEs args) .ro, .int .i64 var, .int .i64 field, .int .i64 kind, .int .i64 val.Kind, .int .i64 val.Num, .str val.Text]
def encEs : List GExpr → List V
 | [] => []
 | a :: r => encE a :: encEs r
end
theorem encEs_map : ∀ l : List GExpr, encEs l = l.map encE
 | [] => by simp [encEs]
 | a :: r => by simp [encEs, encEs_map r]
noncomputable def encGField (x : GField) : V := .agg [.str x.Name, .int .i64 x.Kind]
noncomputable def encGSchema (x : GSchema) : V := .agg [.str x.Name, .sl (Ar.lst encGField x.Fields) .ro]
noncomputable def encGValue (x : GValue) : V := .agg [.int .i64 x.Kind, .int .i64 x.Num, .str x.Text]
noncomputable def encGEvent (x : GEvent) : V := .agg [.int .i64 x.Source, .int .i64 x.Seq, .int .i64 x.Typ, .int .i64 x.Time, .sl (Ar.lst encGValue x.Values) .ro]
noncomputable def encGtidegatelaw27_Case (x : Gtidegatelaw27_Case) : V := .agg [.int .i64 x.Index, .int .i64 x.Own, .int .i64 x.Cond.Op, .sl (Ar.lst encE x.Cond.Args) .ro, .int .i64 x.Cond.Var, .int .i64 x.Cond.Field, .int .i64 x.Cond.Kind, .int .i64 x.Cond.Value.Kind, .int .i64 x.Cond.Value.Num, .str x.Cond.Value.Text, .int .i64 x.Event.Source, .int .i64 x.Event.Seq, .int .i64 x.Event.Typ, .int .i64 x.Event.Time, .sl (Ar.lst encGValue x.Event.Values) .ro]
noncomputable def encGInterval (x : GInterval) : V := .agg [.int .i64 x.Low, .int .i64 x.High]
noncomputable def encLGInterval (x : List GInterval) : V := .sl (Ar.lst encGInterval x) .ro
noncomputable def encGPredicate (x : GPredicate) : V := .agg [.sl (Ar.lst encLGInterval x.Sets) .ro]
noncomputable def encGSymbol (x : GSymbol) : V := .agg [.int .i64 x.Typ, .int .i64 x.Num]
noncomputable def encLGEvent (x : List GEvent) : V := .sl (Ar.lst encGEvent x) .ro
noncomputable def encGEnv (x : GEnv) : V := .agg [.sl (Ar.lst encLGEvent x.Vars) .ro]
noncomputable def encGVariable (x : GVariable) : V := .agg [.str x.Name, .int .i64 x.Typ]
noncomputable def encGexpr_typer (x : Gexpr_typer) : V := .agg [.sl (Ar.lst encGSchema x.types) .ro, .sl (Ar.lst encGVariable x.vars) .ro]
noncomputable def encGpredicate_line (x : Gpredicate_line) : V := .agg [.int .i64 x.times, .int .i64 x.plus]
noncomputable def encGexpr_evaluator (x : Gexpr_evaluator) : V := .agg [.sl (Ar.lst encLGEvent x.env.Vars) .ro, .int .i64 x.own, .int .i64 x.event.Source, .int .i64 x.event.Seq, .int .i64 x.event.Typ, .int .i64 x.event.Time, .sl (Ar.lst encGValue x.event.Values) .ro, .fmap fmK138 fmX138]
noncomputable def encGAccumulator (x : GAccumulator) : V := .agg [.int .i64 x.Kind, .int .i64 x.Count, .int .i64 x.Value.Kind, .int .i64 x.Value.Num, .str x.Value.Text]
noncomputable instance encsInst : Encs where
 eGField := encGField
 eGField_eq := fun _ => rfl
 eGSchema := encGSchema
 eGSchema_eq := fun _ => rfl
 eGValue := encGValue
 eGValue_eq := fun _ => rfl
 eGExpr := encE
 eGExpr_eq := fun ⟨_, _, _, _, _, _⟩ => by simp only [encE, encEs_map]; rfl
 eGEvent := encGEvent
 eGEvent_eq := fun _ => rfl
 eGtidegatelaw27_Case := encGtidegatelaw27_Case
 eGtidegatelaw27_Case_eq := fun _ => rfl
 eGInterval := encGInterval
 eGInterval_eq := fun _ => rfl
 eGPredicate := encGPredicate
 eGPredicate_eq := fun _ => rfl
 eGSymbol := encGSymbol
 eGSymbol_eq := fun _ => rfl
 eGEnv := encGEnv
 eGEnv_eq := fun _ => rfl
 eGVariable := encGVariable
 eGVariable_eq := fun _ => rfl
 eGexpr_typer := encGexpr_typer
 eGexpr_typer_eq := fun _ => rfl
 eGpredicate_line := encGpredicate_line
 eGpredicate_line_eq := fun _ => rfl
 eGexpr_evaluator := encGexpr_evaluator
 eGexpr_evaluator_eq := fun _ => rfl
 eGAccumulator := encGAccumulator
 eGAccumulator_eq := fun _ => rfl
 eLGInterval := encLGInterval
 eLGInterval_eq := fun _ => rfl
 eLGEvent := encLGEvent
 eLGEvent_eq := fun _ => rfl
def muL {α : Type} (f : α → Nat) : List α → Nat
 | [] => 1
 | a :: l => f a + muL f l
section
variable [Glob] {H : Type} {enc : TypeId × Value → H} {W : World} {base : Nat} {spare : Nat → Bool} {held : Bool}
abbrev bk (d : DataW H) : Nat := Rows.uptoBulk d
noncomputable def fsOf (P : Program) (t : TypeId) : Array Field := match P.underlying t with | some (.struct fs) => fs | _ => #[]
theorem open_fld {P : Program} {t ty off sz : Nat} {xs : List (DataW H × List MemPlace)} {cs : List Value} {n : Nat} (hl : xs.length = (fsOf P t).size)
 (hf : ∀ (i : Nat) (f : Field), (fsOf P t)[i]? = some f → DataW.trod enc P W base spare held n f.type ((cs.drop f.offset).take (P.cellsOf f.type)) = xs[i]?) (i : Nat)
 (h : ((fsOf P t)[i]?.map fun f => (f.type, f.offset, P.cellsOf f.type)) = some (ty, off, sz)) : ∃ y, xs[i]? = some y ∧ DataW.trod enc P W base spare held n ty ((cs.drop off).take sz) = some y := by
 cases hi : (fsOf P t)[i]? with
 | none => rw [hi] at h; cases h
 | some f =>
  rw [hi] at h
  simp only [Option.map_some, Option.some.injEq, Prod.mk.injEq] at h
  obtain ⟨rfl, rfl, rfl⟩ := h
  exact field_some hl hf i hi
theorem Opens.down {α : Type} {P : Program} {t : TypeId} {f : α → V} {R : α → DataW H → Prop} {n : Nat} (h : Opens enc P W base spare held t f R (n + 1)) : Opens enc P W base spare held t f R n := fun cs x hx => h cs x (DataW.trod_le (Nat.le_succ n) hx)
theorem Opens.imp {α : Type} {P : Program} {t : TypeId} {f : α → V} {R R' : α → DataW H → Prop} {n : Nat} (h : Opens enc P W base spare held t f R n) (hi : ∀ a d, R a d → R' a d) : Opens enc P W base spare held t f R' n := fun cs x hx => by
 obtain ⟨a, r, q⟩ := h cs x hx
 exact ⟨a, r, hi _ _ q⟩
theorem Opens.congr {α : Type} {P : Program} {t : TypeId} {f g : α → V} {R : α → DataW H → Prop} {n : Nat} (h : Opens enc P W base spare held t f R n) (hg : ∀ x, f x = g x) : Opens enc P W base spare held t g R n := fun cs x hx => by
 obtain ⟨a, r, q⟩ := h cs x hx
 exact ⟨a, by rw [← hg]; exact r, q⟩
theorem rl_mu {α : Type} {f : α → Nat} : ∀ (l : List α) (ds : List (DataW H)), RL (fun a d => f a ≤ bk d) l ds → muL f l ≤ Rows.uptoBulkAll ds + 1
 | [], ds, h => by simp [muL]
 | a :: l, [], h => by have := h.1; simp at this
 | a :: l, d :: ds, h => by
  have h1 : f a ≤ bk d := h.2 0 a d rfl rfl
  have h2 := rl_mu l ds ⟨by simpa using h.1, fun i a d hi hd => h.2 (i + 1) a d (by simpa using hi) (by simpa using hd)⟩
  simp only [muL, Rows.uptoBulkAll]
  have h3 : bk d = Rows.uptoBulk d := rfl
  omega
theorem rs_mu {α : Type} {f : α → Nat} {l : List α} {d : DataW H} (h : RS (fun a d => f a ≤ bk d) l d) : muL f l ≤ bk d := by
 obtain ⟨_, h⟩ := h
 rcases h with ⟨rfl, rfl⟩ | ⟨es, sp, rfl, h⟩
 ·simp [bk, Rows.uptoBulk, muL]
 ·have := rl_mu l es h
  simp only [bk, Rows.uptoBulk]; omega
theorem bulks_mu : ∀ l : List GExpr, GExpr.bulks l = muL GExpr.bulk l
 | [] => by simp [GExpr.bulks, muL]
 | a :: l => by simp [GExpr.bulks, muL, bulks_mu l]
theorem bs_exprs {l : List GExpr} {d : DataW H} (h : RS (fun a d => GExpr.bulk a ≤ bk d) l d) : GExpr.bulks l ≤ bk d := by rw [bulks_mu]; exact rs_mu h
theorem listn2 {β : Type} {xs : List β} {a b : β} (hl : xs.length = 2) (h0 : xs[0]? = some a) (h1 : xs[1]? = some b) : xs = [a, b] := by
 match xs, hl with
 | [x0, x1], _ => simp at h0 h1; rw [h0, h1]
theorem listn3 {β : Type} {xs : List β} {a b c : β} (hl : xs.length = 3) (h0 : xs[0]? = some a) (h1 : xs[1]? = some b) (h2 : xs[2]? = some c) : xs = [a, b, c] := by
 match xs, hl with
 | [x0, x1, x2], _ => simp at h0 h1 h2; rw [h0, h1, h2]
theorem listn4 {β : Type} {xs : List β} {a b c d : β} (hl : xs.length = 4) (h0 : xs[0]? = some a) (h1 : xs[1]? = some b) (h2 : xs[2]? = some c) (h3 : xs[3]? = some d) : xs = [a, b, c, d] := by
 match xs, hl with
 | [x0, x1, x2, x3], _ => simp at h0 h1 h2 h3; rw [h0, h1, h2, h3]
theorem listn5 {β : Type} {xs : List β} {a b c d e : β} (hl : xs.length = 5) (h0 : xs[0]? = some a) (h1 : xs[1]? = some b) (h2 : xs[2]? = some c) (h3 : xs[3]? = some d) (h4 : xs[4]? = some e) : xs = [a, b, c, d, e] := by
 match xs, hl with
 | [x0, x1, x2, x3, x4], _ => simp at h0 h1 h2 h3 h4; rw [h0, h1, h2, h3, h4]
theorem listn6 {β : Type} {xs : List β} {a b c d e f : β} (hl : xs.length = 6) (h0 : xs[0]? = some a) (h1 : xs[1]? = some b) (h2 : xs[2]? = some c) (h3 : xs[3]? = some d) (h4 : xs[4]? = some e) (h5 : xs[5]? = some f) : xs = [a, b, c, d, e, f] := by
 match xs, hl with
 | [x0, x1, x2, x3, x4, x5], _ => simp at h0 h1 h2 h3 h4 h5; rw [h0, h1, h2, h3, h4, h5]
theorem u22 : Tryz.prog.underlying 22 = some (.slice 68) := by kernel_rfl
theorem u68 : Tryz.prog.underlying 68 = some (.struct (fsOf Tryz.prog 68)) := by kernel_rfl
theorem u9 : Tryz.prog.underlying 9 = some .string := by kernel_rfl
theorem open_9 (n : Nat) : Opens enc Tryz.prog W base spare held 9 V.str (fun a d => (fun s : ByteArray => s.size + 1) a ≤ bk d) n := (opens_str u9).imp fun a d h => by obtain ⟨rfl, _⟩ := h; simp [bk, Rows.uptoBulk]
theorem u66 : Tryz.prog.underlying 66 = some (.slice 65) := by kernel_rfl
theorem u65 : Tryz.prog.underlying 65 = some (.struct (fsOf Tryz.prog 65)) := by kernel_rfl
theorem u3 : Tryz.prog.underlying 3 = some (.int .i64) := by kernel_rfl
theorem open_3 (n : Nat) : Opens enc Tryz.prog W base spare held 3 (V.int .i64) (fun a d => (fun _ : Int => 1) a ≤ bk d) n := (opens_int u3).imp fun a d h => by subst h; simp [bk, Rows.uptoBulk]
def GField.mu (x : GField) : Nat := (fun s : ByteArray => s.size + 1) x.Name + (fun _ : Int => 1) x.Kind + 1
theorem open_65 (n : Nat) : Opens enc Tryz.prog W base spare held 65 Encs.eGField (fun (a : GField) d => GField.mu a ≤ bk d) n := by
 intro cs x h
 obtain ⟨xs, m, hm, rfl, hcl, hl, hf⟩ := DataW.trod_struct u65 h
 subst hm
 obtain ⟨y0, k0, t0⟩ := open_fld hl hf 0 (ty := 9) (off := 0) (sz := 1) (by kernel_rfl)
 obtain ⟨y1, k1, t1⟩ := open_fld hl hf 1 (ty := 3) (off := 1) (sz := 1) (by kernel_rfl)
 have hxs := listn2 (hl.trans (by kernel_rfl)) k0 k1
 obtain ⟨a0, r0, q0⟩ := open_9 _ _ _ t0
 obtain ⟨a1, r1, q1⟩ := open_3 _ _ _ t1
 refine ⟨⟨a0, a1⟩, ?_, ?_⟩
 ·have hc3 : cs.length = 2 := hcl.trans (by kernel_rfl)
  have := r0.join r1
  rw [Encs.eGField_eq]
  simp only [Ar.lst_eq] at this ⊢
  simpa [List.take_of_length_le, hc3, V.cells] using this
 ·simp only [bk] at q0 q1
  rw [hxs]
  simp only [List.map_cons, List.map_nil, bk, Rows.uptoBulk, Rows.uptoBulkAll, GField.mu]
  omega
theorem open_66 (n : Nat) : Opens enc Tryz.prog W base spare held 66 (fun l : List GField => .sl (Ar.lst Encs.eGField l) .ro) (fun a d => (muL GField.mu) a ≤ bk d) n :=
 Opens.down (((opens_slice u66 (show 0 < Tryz.prog.cellsOf 65 by rw [show Tryz.prog.cellsOf 65 = 2 by kernel_rfl]; decide) (open_65 n)).imp fun a d h => rs_mu h).congr fun x => by rw [Ar.lst_eq])
def GSchema.mu (x : GSchema) : Nat := (fun s : ByteArray => s.size + 1) x.Name + (muL GField.mu) x.Fields + 1
theorem open_68 (n : Nat) : Opens enc Tryz.prog W base spare held 68 Encs.eGSchema (fun (a : GSchema) d => GSchema.mu a ≤ bk d) n := by
 intro cs x h
 obtain ⟨xs, m, hm, rfl, hcl, hl, hf⟩ := DataW.trod_struct u68 h
 subst hm
 obtain ⟨y0, k0, t0⟩ := open_fld hl hf 0 (ty := 9) (off := 0) (sz := 1) (by kernel_rfl)
 obtain ⟨y1, k1, t1⟩ := open_fld hl hf 1 (ty := 66) (off := 1) (sz := 1) (by kernel_rfl)
 have hxs := listn2 (hl.trans (by kernel_rfl)) k0 k1
 obtain ⟨a0, r0, q0⟩ := open_9 _ _ _ t0
 obtain ⟨a1, r1, q1⟩ := open_66 _ _ _ t1
 refine ⟨⟨a0, a1⟩, ?_, ?_⟩
 ·have hc3 : cs.length = 2 := hcl.trans (by kernel_rfl)
  have := r0.join r1
  rw [Encs.eGSchema_eq]
  simp only [Ar.lst_eq] at this ⊢
  simpa [List.take_of_length_le, hc3, V.cells] using this
 ·simp only [bk] at q0 q1
  rw [hxs]
  simp only [List.map_cons, List.map_nil, bk, Rows.uptoBulk, Rows.uptoBulkAll, GSchema.mu]
  omega
theorem open_22 (n : Nat) : Opens enc Tryz.prog W base spare held 22 (fun l : List GSchema => .sl (Ar.lst Encs.eGSchema l) .ro) (fun a d => (muL GSchema.mu) a ≤ bk d) n :=
 Opens.down (((opens_slice u22 (show 0 < Tryz.prog.cellsOf 68 by rw [show Tryz.prog.cellsOf 68 = 2 by kernel_rfl]; decide) (open_68 n)).imp fun a d h => rs_mu h).congr fun x => by rw [Ar.lst_eq])
theorem u32 : Tryz.prog.underlying 32 = some (.struct (fsOf Tryz.prog 32)) := by kernel_rfl
theorem u27 : Tryz.prog.underlying 27 = some (.struct (fsOf Tryz.prog 27)) := by kernel_rfl
theorem u23 : Tryz.prog.underlying 23 = some (.slice 27) := by kernel_rfl
theorem u25 : Tryz.prog.underlying 25 = some (.struct (fsOf Tryz.prog 25)) := by kernel_rfl
def GValue.mu (x : GValue) : Nat := (fun _ : Int => 1) x.Kind + (fun _ : Int => 1) x.Num + (fun s : ByteArray => s.size + 1) x.Text + 1
theorem open_25 (n : Nat) : Opens enc Tryz.prog W base spare held 25 Encs.eGValue (fun (a : GValue) d => GValue.mu a ≤ bk d) n := by
 intro cs x h
 obtain ⟨xs, m, hm, rfl, hcl, hl, hf⟩ := DataW.trod_struct u25 h
 subst hm
 obtain ⟨y0, k0, t0⟩ := open_fld hl hf 0 (ty := 3) (off := 0) (sz := 1) (by kernel_rfl)
 obtain ⟨y1, k1, t1⟩ := open_fld hl hf 1 (ty := 3) (off := 1) (sz := 1) (by kernel_rfl)
 obtain ⟨y2, k2, t2⟩ := open_fld hl hf 2 (ty := 9) (off := 2) (sz := 1) (by kernel_rfl)
 have hxs := listn3 (hl.trans (by kernel_rfl)) k0 k1 k2
 obtain ⟨a0, r0, q0⟩ := open_3 _ _ _ t0
 obtain ⟨a1, r1, q1⟩ := open_3 _ _ _ t1
 obtain ⟨a2, r2, q2⟩ := open_9 _ _ _ t2
 refine ⟨⟨a0, a1, a2⟩, ?_, ?_⟩
 ·have hc3 : cs.length = 3 := hcl.trans (by kernel_rfl)
  have := (r0.join r1).join r2
  rw [Encs.eGValue_eq]
  simp only [Ar.lst_eq] at this ⊢
  simpa [List.take_of_length_le, hc3, V.cells] using this
 ·simp only [bk] at q0 q1 q2
  rw [hxs]
  simp only [List.map_cons, List.map_nil, bk, Rows.uptoBulk, Rows.uptoBulkAll, GValue.mu]
  omega
theorem open_27 : ∀ n : Nat, Opens enc Tryz.prog W base spare held 27 Encs.eGExpr (fun (a : GExpr) d => GExpr.bulk a ≤ bk d) n := by
 intro n
 induction n with
 | zero => intro cs x h; simp [DataW.trod] at h
 | succ n ih =>
 intro cs x h
 obtain ⟨xs, m, hm, rfl, hcl, hl, hf⟩ := DataW.trod_struct u27 h
 cases hm
 obtain ⟨y0, k0, t0⟩ := open_fld hl hf 0 (ty := 3) (off := 0) (sz := 1) (by kernel_rfl)
 obtain ⟨y1, k1, t1⟩ := open_fld hl hf 1 (ty := 23) (off := 1) (sz := 1) (by kernel_rfl)
 obtain ⟨y2, k2, t2⟩ := open_fld hl hf 2 (ty := 3) (off := 2) (sz := 1) (by kernel_rfl)
 obtain ⟨y3, k3, t3⟩ := open_fld hl hf 3 (ty := 3) (off := 3) (sz := 1) (by kernel_rfl)
 obtain ⟨y4, k4, t4⟩ := open_fld hl hf 4 (ty := 3) (off := 4) (sz := 1) (by kernel_rfl)
 obtain ⟨y5, k5, t5⟩ := open_fld hl hf 5 (ty := 25) (off := 5) (sz := 3) (by kernel_rfl)
 have hxs := listn6 (hl.trans (by kernel_rfl)) k0 k1 k2 k3 k4 k5
 obtain ⟨a0, r0, q0⟩ := open_3 _ _ _ t0
 obtain ⟨a1, r1, q1⟩ : ∃ a : List GExpr, RowV (g0 W) W ((cs.drop 1).take 1) (V.sl (a.map Encs.eGExpr) .ro).cells ∧ GExpr.bulks a ≤ bk y1.1 := by
  cases n with
  | zero => simp [DataW.trod] at t1
  | succ n =>
   obtain ⟨a, r, q⟩ := opens_slice u23 (show 0 < Tryz.prog.cellsOf 27 by rw [show Tryz.prog.cellsOf 27 = 8 by kernel_rfl]; decide) ih.down _ _ t1
   exact ⟨a, r, bs_exprs q⟩
 obtain ⟨a2, r2, q2⟩ := open_3 _ _ _ t2
 obtain ⟨a3, r3, q3⟩ := open_3 _ _ _ t3
 obtain ⟨a4, r4, q4⟩ := open_3 _ _ _ t4
 obtain ⟨a5, r5, q5⟩ := open_25 _ _ _ t5
 refine ⟨⟨a0, a1, a2, a3, a4, a5⟩, ?_, ?_⟩
 ·have hc3 : cs.length = 8 := hcl.trans (by kernel_rfl)
  rw [Encs.eGValue_eq] at r5
  have := ((((r0.join r1).join r2).join r3).join r4).join r5
  rw [Encs.eGExpr_eq]
  simp only [Ar.lst_eq] at this ⊢
  simpa [List.take_of_length_le, hc3, V.cells] using this
 ·simp only [bk] at q0 q1 q2 q3 q4 q5
  rw [hxs]
  simp only [List.map_cons, List.map_nil, bk, Rows.uptoBulk, Rows.uptoBulkAll, GExpr.bulk, GValue.mu] at *
  omega
theorem u30 : Tryz.prog.underlying 30 = some (.struct (fsOf Tryz.prog 30)) := by kernel_rfl
theorem u28 : Tryz.prog.underlying 28 = some (.slice 25) := by kernel_rfl
theorem open_28 (n : Nat) : Opens enc Tryz.prog W base spare held 28 (fun l : List GValue => .sl (Ar.lst Encs.eGValue l) .ro) (fun a d => (muL GValue.mu) a ≤ bk d) n :=
 Opens.down (((opens_slice u28 (show 0 < Tryz.prog.cellsOf 25 by rw [show Tryz.prog.cellsOf 25 = 3 by kernel_rfl]; decide) (open_25 n)).imp fun a d h => rs_mu h).congr fun x => by rw [Ar.lst_eq])
def GEvent.mu (x : GEvent) : Nat := (fun _ : Int => 1) x.Source + (fun _ : Int => 1) x.Seq + (fun _ : Int => 1) x.Typ + (fun _ : Int => 1) x.Time + (muL GValue.mu) x.Values + 1
theorem open_30 (n : Nat) : Opens enc Tryz.prog W base spare held 30 Encs.eGEvent (fun (a : GEvent) d => GEvent.mu a ≤ bk d) n := by
 intro cs x h
 obtain ⟨xs, m, hm, rfl, hcl, hl, hf⟩ := DataW.trod_struct u30 h
 subst hm
 obtain ⟨y0, k0, t0⟩ := open_fld hl hf 0 (ty := 3) (off := 0) (sz := 1) (by kernel_rfl)
 obtain ⟨y1, k1, t1⟩ := open_fld hl hf 1 (ty := 3) (off := 1) (sz := 1) (by kernel_rfl)
 obtain ⟨y2, k2, t2⟩ := open_fld hl hf 2 (ty := 3) (off := 2) (sz := 1) (by kernel_rfl)
 obtain ⟨y3, k3, t3⟩ := open_fld hl hf 3 (ty := 3) (off := 3) (sz := 1) (by kernel_rfl)
 obtain ⟨y4, k4, t4⟩ := open_fld hl hf 4 (ty := 28) (off := 4) (sz := 1) (by kernel_rfl)
 have hxs := listn5 (hl.trans (by kernel_rfl)) k0 k1 k2 k3 k4
 obtain ⟨a0, r0, q0⟩ := open_3 _ _ _ t0
 obtain ⟨a1, r1, q1⟩ := open_3 _ _ _ t1
 obtain ⟨a2, r2, q2⟩ := open_3 _ _ _ t2
 obtain ⟨a3, r3, q3⟩ := open_3 _ _ _ t3
 obtain ⟨a4, r4, q4⟩ := open_28 _ _ _ t4
 refine ⟨⟨a0, a1, a2, a3, a4⟩, ?_, ?_⟩
 ·have hc3 : cs.length = 5 := hcl.trans (by kernel_rfl)
  have := (((r0.join r1).join r2).join r3).join r4
  rw [Encs.eGEvent_eq]
  simp only [Ar.lst_eq] at this ⊢
  simpa [List.take_of_length_le, hc3, V.cells] using this
 ·simp only [bk] at q0 q1 q2 q3 q4
  rw [hxs]
  simp only [List.map_cons, List.map_nil, bk, Rows.uptoBulk, Rows.uptoBulkAll, GEvent.mu]
  omega
def Gtidegatelaw27_Case.mu (x : Gtidegatelaw27_Case) : Nat := (fun _ : Int => 1) x.Index + (fun _ : Int => 1) x.Own + GExpr.bulk x.Cond + GEvent.mu x.Event + 1
theorem open_32 (n : Nat) : Opens enc Tryz.prog W base spare held 32 Encs.eGtidegatelaw27_Case (fun (a : Gtidegatelaw27_Case) d => Gtidegatelaw27_Case.mu a ≤ bk d) n := by
 intro cs x h
 obtain ⟨xs, m, hm, rfl, hcl, hl, hf⟩ := DataW.trod_struct u32 h
 subst hm
 obtain ⟨y0, k0, t0⟩ := open_fld hl hf 0 (ty := 3) (off := 0) (sz := 1) (by kernel_rfl)
 obtain ⟨y1, k1, t1⟩ := open_fld hl hf 1 (ty := 3) (off := 1) (sz := 1) (by kernel_rfl)
 obtain ⟨y2, k2, t2⟩ := open_fld hl hf 2 (ty := 27) (off := 2) (sz := 8) (by kernel_rfl)
 obtain ⟨y3, k3, t3⟩ := open_fld hl hf 3 (ty := 30) (off := 10) (sz := 5) (by kernel_rfl)
 have hxs := listn4 (hl.trans (by kernel_rfl)) k0 k1 k2 k3
 obtain ⟨a0, r0, q0⟩ := open_3 _ _ _ t0
 obtain ⟨a1, r1, q1⟩ := open_3 _ _ _ t1
 obtain ⟨a2, r2, q2⟩ := open_27 _ _ _ t2
 obtain ⟨a3, r3, q3⟩ := open_30 _ _ _ t3
 refine ⟨⟨a0, a1, a2, a3⟩, ?_, ?_⟩
 ·have hc3 : cs.length = 15 := hcl.trans (by kernel_rfl)
  rw [Encs.eGExpr_eq] at r2
  rw [Encs.eGEvent_eq] at r3
  have := ((r0.join r1).join r2).join r3
  rw [Encs.eGtidegatelaw27_Case_eq]
  simp only [Ar.lst_eq] at this ⊢
  simpa [List.take_of_length_le, hc3, V.cells] using this
 ·simp only [bk] at q0 q1 q2 q3
  rw [hxs]
  simp only [List.map_cons, List.map_nil, bk, Rows.uptoBulk, Rows.uptoBulkAll, Gtidegatelaw27_Case.mu]
  omega
theorem arg_LGSchema {v : Value} {d : DataW H} {p : List MemPlace} (hv : Value.okWide Tryz.prog W .any base 22 v) (h : DataW.Trod enc Tryz.prog W 0 (fun _ => true) true 22 v d p) : ∃ x : List GSchema, VR (g0 W) W v (.sl (Ar.lst Encs.eGSchema x) .ro) ∧ (muL GSchema.mu) x ≤ Rows.uptoBulk d := by
 obtain ⟨fuel, ht⟩ := h
 obtain ⟨a, len, cap, rfl⟩ := okWide_slice u22 hv
 obtain ⟨x, hr, hb⟩ := open_22 fuel _ _ ht
 exact ⟨x, (hr.2 0 (by simp [V.cells])).2, hb⟩
theorem arg_Gtidegatelaw27_Case {v : Value} {d : DataW H} {p : List MemPlace} (hv : Value.okWide Tryz.prog W .any base 32 v) (h : DataW.Trod enc Tryz.prog W 0 (fun _ => true) true 32 v d p) : ∃ x : Gtidegatelaw27_Case, VR (g0 W) W v (Encs.eGtidegatelaw27_Case x) ∧ Gtidegatelaw27_Case.mu x ≤ Rows.uptoBulk d := by
 obtain ⟨fuel, ht⟩ := h
 obtain ⟨cs, rfl, hcs⟩ := okWide_struct u32 hv
 obtain ⟨x, hr, hb⟩ := open_32 fuel _ _ ht
 have hr' : RowV (g0 W) W cs.toList (Encs.eGtidegatelaw27_Case x).cells := hr
 refine ⟨x, ?_, hb⟩
 have := hr'.agg
 rw [Encs.eGtidegatelaw27_Case_eq] at this ⊢
 exact this
theorem u4 : Tryz.prog.underlying 4 = some .bool := by kernel_rfl
theorem law_run {f : FuncId} {vals : Array Value} {args : List V} (hg : ∀ n, VR (g0 W) W (.pointer (some ⟨n, 0, none⟩)) (Glob.gl n)) (hcall : ∀ vals w, (callFunc f vals).run Tryz.prog w = .ok (.enter f vals) w) (law : CallP Tryz.prog f args (.bool true)) (hA : Args (g0 W) W vals args) :
 Calls Tryz.prog f vals W fun e W' => e = .returned (.bool true) ∧ Below W.heap.size W W' := by
 have hc := law (fun _ => none) (g0 W) W vals (rl0 hg) hA
 rw [hcall] at hc
 refine (callsIn_wide.1 hc).mono fun e W' ⟨v, he, g', y, H', hs, hR, hvy, hy, _⟩ => ?_
 subst hy
 cases hvy
 exact ⟨he, hs.low⟩
theorem args2 {v0 v1 : Value} {x0 x1 : V} (h0 : VR (g0 W) W v0 x0) (h1 : VR (g0 W) W v1 x1) : Args (g0 W) W #[v0, v1] [x0, x1] := ⟨rfl, fun i hi => by
 match i, hi with
 | 0, _ => exact h0
 | 1, _ => exact h1⟩
end
end Go.Ab

namespace Go.Ab
theorem toList_inj {a b : ByteArray} : a.toList = b.toList ↔ a = b := by
 rw [ByteArray.toList_eq, ByteArray.toList_eq]
 constructor
 ·intro h
  obtain ⟨⟨a⟩⟩ := a
  obtain ⟨⟨b⟩⟩ := b
  simp at h
  subst h; rfl
 ·intro h; rw [h]
theorem scmp_neq (a b : ByteArray) : Ar.scmp .neq a b = !decide (a = b) := by
 show (!(a.toList == b.toList)) = _
 by_cases h : a = b
 ·subst h; simp
 ·have : a.toList ≠ b.toList := fun e => h (toList_inj.1 e)
  simp [h, this]
theorem scmp_eql (a b : ByteArray) : Ar.scmp .eql a b = decide (a = b) := by
 show (a.toList == b.toList) = _
 by_cases h : a = b
 ·subst h; simp
 ·have : a.toList ≠ b.toList := fun e => h (toList_inj.1 e)
  simp [h, this]
theorem arity8 (N : Nat) (op : Int) : expr_arity N op = some (if op < 0 ∨ 12 < op then (0, false) else if op < 5 then (0, true) else if op = 12 then (1, true) else (2, true)) := by
 unfold expr_arity
 simp only [cmp_lss, cmp_gtr, cmp_eql, or_def, Bool.or_eq_true, decide_eq_true_eq]
 split
 ·rfl
 ·split
  ·rfl
  ·split <;> rfl
theorem uses8 (N : Nat) (op : Int) : expr_uses N op = some (decide (op = 1 ∨ op = 2 ∨ op = 3 ∨ op = 4), decide (op = 1 ∨ op = 4)) := by
 unfold expr_uses
 simp only [cmp_eql, decide_eq_true_eq]
 by_cases h1 : op = 1
 ·simp [h1]
 ·by_cases h4 : op = 4
  ·simp [h4]
  ·by_cases h2 : op = 2
   ·simp [h2]
   ·by_cases h3 : op = 3 <;> simp [h1, h2, h3, h4]
def valBad (v : GValue) : Int :=
 if v.Kind = 0 ∨ v.Kind = 1 then
  if v.Text ≠ ⟨#[]⟩ then 3
  else if v.Kind = 0 ∧ (v.Num < -1099511627776 ∨ 1099511627776 < v.Num) ∨ v.Kind = 1 ∧ v.Num ≠ 0 ∧ v.Num ≠ 1 then 2 else 0
 else if v.Kind = 2 then (if v.Num ≠ 0 then 3 else if 64 < (v.Text.size : Int) then 13 else 0) else 1
theorem value_eq (N : Nat) (v : GValue) : value_Check N v = some (valBad v) := by
 obtain ⟨k, n, t⟩ := v
 unfold value_Check value_size valBad
 simp only [cmp_eql, cmp_neq, cmp_lss, cmp_gtr, an_def, or_def, scmp_neq, slen_def]
 by_cases h0 : k = 0
 ·subst h0
  by_cases ht : t = ⟨#[]⟩
  ·subst ht
   by_cases h1 : n < -1099511627776 ∨ 1099511627776 < n
   ·simp [h1]
   ·simp [h1]; decide
  ·simp [ht]
 ·by_cases h1 : k = 1
  ·subst h1
   by_cases ht : t = ⟨#[]⟩
   ·subst ht
    by_cases h2 : n = 0
    ·simp [h2]; decide
    ·by_cases h3 : n = 1
     ·simp [h3]; decide
     ·simp [h2, h3]
   ·simp [ht]
  ·by_cases h2 : k = 2
   ·subst h2
    by_cases hn : n = 0
    ·simp [hn]; split <;> rfl
    ·simp [hn]
   ·simp [h0, h1, h2]
theorem suits_eq (N : Nat) (k : Int) (v : GValue) : expr_suits N k v = some (decide (v.Kind = 0 ∨ k = 4 ∨ k = 5)) := by
 unfold expr_suits
 simp only [cmp_eql, or_def]
 by_cases h1 : v.Kind = 0 <;> by_cases h2 : k = 4 <;> by_cases h3 : k = 5 <;> simp [h1, h2, h3]
def usesV (op : Int) : Bool := decide (op = 1 ∨ op = 2 ∨ op = 3 ∨ op = 4)
def usesF (op : Int) : Bool := decide (op = 1 ∨ op = 4)
noncomputable def outB (x : GExpr) : Bool := Ar.or (Ar.an (usesV x.Op) (Ar.or (Ar.cmp .lss x.Var 0) (Ar.cmp .geq x.Var 16))) (Ar.an (usesF x.Op) (Ar.or (Ar.cmp .lss x.Field 0) (Ar.cmp .geq x.Field 8)))
noncomputable def kindB (x : GExpr) : Bool := Ar.an (Ar.cmp .eql x.Op 4) (Ar.or (Ar.cmp .lss x.Kind 1) (Ar.cmp .gtr x.Kind 5))
noncomputable def zeroV (v : GValue) : Bool := Ar.an (Ar.cmp .eql v.Kind 0) (Ar.an (Ar.cmp .eql v.Num 0) (Ar.an (Ar.scmp .eql v.Text (⟨#[]⟩)) true))
noncomputable def suitB (x : GExpr) : Bool := Ar.or (Ar.nt (decide (x.Value.Kind = 0 ∨ x.Kind = 4 ∨ x.Kind = 5))) (Ar.an (Ar.cmp .eql x.Kind 1) (Ar.nt (zeroV x.Value)))
noncomputable def junkB (x : GExpr) : Bool := Ar.or (Ar.or (Ar.or (Ar.an (Ar.nt (usesV x.Op)) (Ar.cmp .neq x.Var 0)) (Ar.an (Ar.nt (usesF x.Op)) (Ar.cmp .neq x.Field 0))) (Ar.an (Ar.nt (Ar.cmp .eql x.Op 4)) (Ar.cmp .neq x.Kind 0))) (Ar.an (Ar.nt (Ar.or (Ar.cmp .eql x.Op 4) (Ar.cmp .eql x.Op 0))) (Ar.nt (zeroV x.Value)))
noncomputable def exprBad (x : GExpr) : Int :=
 if x.Op < 0 ∨ 12 < x.Op then 1
 else if (x.Args.length : Int) ≠ (if x.Op < 5 then 0 else if x.Op = 12 then 1 else 2) then 15
 else if outB x = true then 2
 else if kindB x = true then 1
 else if (x.Op = 4 ∨ x.Op = 0) ∧ valBad x.Value ≠ 0 then valBad x.Value
 else if x.Op = 4 ∧ suitB x = true then 9
 else if junkB x = true then 3 else 0
theorem node_eq8 (N : Nat) (x : GExpr) : expr_node N x = some (exprBad x) := by
 unfold expr_node exprBad
 rw [arity8, uses8]
 simp only [Option.bind_some]
 by_cases h0 : x.Op < 0 ∨ 12 < x.Op
 ·rw [if_pos h0, if_pos h0]; rfl
 rw [if_neg h0, if_neg h0]
 have ha : (if x.Op < 5 then ((0 : Int), true) else if x.Op = 12 then (1, true) else (2, true)) = ((if x.Op < 5 then 0 else if x.Op = 12 then 1 else 2), true) := by
  split
  ·rfl
  ·split <;> rfl
 rw [ha]
 rw [if_neg (by simp [nt_def])]
 by_cases h1 : (x.Args.length : Int) ≠ (if x.Op < 5 then 0 else if x.Op = 12 then 1 else 2)
 ·rw [if_pos h1, if_pos (by simp [cmp_neq, len_def, h1])]
 rw [if_neg h1, if_neg (by simp only [cmp_neq, len_def]; simpa using h1)]
 change (if outB x = true then some 2 else _) = _
 by_cases h2 : outB x = true
 ·rw [if_pos h2, if_pos h2]
 rw [if_neg h2, if_neg h2]
 change (if kindB x = true then some 1 else _) = _
 by_cases h3 : kindB x = true
 ·rw [if_pos h3, if_pos h3]
 rw [if_neg h3, if_neg h3]
 unfold expr_constants
 rw [value_eq]
 have e4 : (Ar.or (Ar.cmp .eql x.Op 4) (Ar.cmp .eql x.Op 0) = true) ↔ (x.Op = 4 ∨ x.Op = 0) := by simp [cmp_eql, or_def]
 have e6 : (Ar.cmp .eql x.Op 4 = true) ↔ x.Op = 4 := by simp [cmp_eql]
 by_cases h4 : x.Op = 4 ∨ x.Op = 0
 ·rw [if_pos (e4.2 h4)]
  simp only [Option.bind_some]
  by_cases h5 : valBad x.Value = 0
  ·have n5 : ¬ (Ar.cmp .neq (valBad x.Value) 0 = true) := by simp [cmp_neq, h5]
   have n5' : ¬ ((x.Op = 4 ∨ x.Op = 0) ∧ valBad x.Value ≠ 0) := fun h => h.2 h5
   rw [if_neg n5, if_neg n5']
   by_cases h6 : x.Op = 4
   ·rw [if_pos (e6.2 h6), suits_eq]
    simp only [Option.bind_some]
    change (((if suitB x = true then some 9 else some 0) : Option Int).bind _ ).bind _ = _
    by_cases h7 : suitB x = true
    ·rw [if_pos h7, if_pos (show x.Op = 4 ∧ suitB x = true from ⟨h6, h7⟩)]; rfl
    ·rw [if_neg h7, if_neg (show ¬ (x.Op = 4 ∧ suitB x = true) from fun h => h7 h.2)]
     change (if junkB x = true then some 3 else some 0) = _
     by_cases h8 : junkB x = true
     ·rw [if_pos h8, if_pos h8]
     ·rw [if_neg h8, if_neg h8]
   ·rw [if_neg (show ¬ (Ar.cmp .eql x.Op 4 = true) from fun h => h6 (e6.1 h)), if_neg (show ¬ (x.Op = 4 ∧ suitB x = true) from fun h => h6 h.1)]
    change (if junkB x = true then some 3 else some 0) = _
    by_cases h8 : junkB x = true
    ·rw [if_pos h8, if_pos h8]
    ·rw [if_neg h8, if_neg h8]
  ·have n5 : Ar.cmp .neq (valBad x.Value) 0 = true := by simp [cmp_neq, h5]
   rw [if_pos n5, if_pos (show (x.Op = 4 ∨ x.Op = 0) ∧ valBad x.Value ≠ 0 from ⟨h4, h5⟩)]
   simp only [Option.bind_some]
   rw [if_pos n5]
   rfl
 ·rw [if_neg (show ¬ (Ar.or (Ar.cmp .eql x.Op 4) (Ar.cmp .eql x.Op 0) = true) from fun h => h4 (e4.1 h)), if_neg (show ¬ ((x.Op = 4 ∨ x.Op = 0) ∧ valBad x.Value ≠ 0) from fun h => h4 h.1)]
  have h6 : ¬ x.Op = 4 := fun e => h4 (.inl e)
  rw [if_neg (show ¬ (x.Op = 4 ∧ suitB x = true) from fun h => h6 h.1)]
  change (if junkB x = true then some 3 else some 0) = _
  by_cases h8 : junkB x = true
  ·rw [if_pos h8, if_pos h8]
  ·rw [if_neg h8, if_neg h8]
theorem gt_true {a b : Int} (h : b < a) : Ar.cmp .gtr a b = true := by rw [cmp_gtr]; exact decide_eq_true h
theorem gt_false {a b : Int} (h : ¬ b < a) : ¬ (Ar.cmp .gtr a b = true) := by rw [cmp_gtr]; simpa using h
theorem ne_true {a b : Int} (h : a ≠ b) : Ar.cmp .neq a b = true := by rw [cmp_neq]; simpa using h
theorem ne_false {a b : Int} (h : a = b) : ¬ (Ar.cmp .neq a b = true) := by rw [cmp_neq]; simpa using h
noncomputable def exprCheck (x : GExpr) : Int := if 64 < x.pre.length then 5 else if 12 < x.dep then 12 else bad1 exprBad x.pre
theorem check_eq8 {N : Nat} (hN : 40000000 ≤ N) {x : GExpr} (hb : x.bulk ≤ 16777216) : expr_Check N x = some (exprCheck x) := by
 unfold expr_Check exprCheck
 rw [size_eq_e hN N x (by omega) hb]
 simp only [Option.bind_some]
 by_cases h1 : 64 < x.pre.length
 ·rw [if_pos h1, if_pos (gt_true (by omega))]
 ·rw [if_neg h1, if_neg (gt_false (by omega))]
  by_cases h2 : 12 < x.dep
  ·rw [if_pos h2, if_pos (gt_true (by omega))]
  ·rw [if_neg h2, if_neg (gt_false (by omega)), visit_eq hN N x (by omega) hb fun y _ => node_eq8 N y]
   rfl
end Go.Ab

