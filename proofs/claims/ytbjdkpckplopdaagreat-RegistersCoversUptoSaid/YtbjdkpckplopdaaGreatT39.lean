/- GSIn GSV0 -/
import Derived.Test.YtbjdkpckplopdaaGreatT37
import Derived.Test.YtbjdkpckplopdaaGreatT30
import Derived.Test.YtbjdkpckplopdaaGreatT38
import Derived.Test.YtbjdkpckplopdaaGreatRows
import Derived.WalkKit
import Derived.ProofKit
import Derived.OpenShut
import Derived.Deep.DeepHandedRow
import Derived.Carry
set_option linter.all false

namespace Go.Ab
open Go.RowKit Go.ChangeShapes Go.WideShapes Go.ChangeAt Go.Proofs Go.Proofs.YtbjdkpckplopdaaGreat
set_option maxRecDepth 100000
mutual
def encE : GExpr → V
 | ⟨op, args, var, field, kind, val⟩ => .agg [.int .i64 op, .sl (encEs args) .ro, .int .i64 var, .int .i64 field, .int .i64 kind, .int .i64 val.Kind, .int .i64 val.Num, .str val.Text]
def encEs : List GExpr → List V
 | [] => []
 | a :: r => encE a :: encEs r
end
theorem encEs_map : ∀ l : List GExpr, encEs l = l.map encE
 | [] => by simp [encEs]
 | a :: r => by simp [encEs, encEs_map r]
noncomputable def encGValue (x : GValue) : V := .agg [.int .i64 x.Kind, .int .i64 x.Num, .str x.Text]
noncomputable def encGEvent (x : GEvent) : V := .agg [.int .i64 x.Source, .int .i64 x.Seq, .int .i64 x.Typ, .int .i64 x.Time, .sl (Ar.lst encGValue x.Values) .ro]
noncomputable def encLGEvent (x : List GEvent) : V := .sl (Ar.lst encGEvent x) .ro
noncomputable def encGEnv (x : GEnv) : V := .agg [.sl (Ar.lst encLGEvent x.Vars) .ro]
noncomputable def encGS30 (x : GS30) : V := .agg [.int .i64 x.E0, .int .i64 x.E1]
noncomputable def encGNeed (x : GNeed) : V := .agg [.int .i64 x.Var, .int .i64 x.Last, .int .i64 x.All]
noncomputable def encGGuard (x : GGuard) : V := .agg [.int .i64 x.Scope, .int .i64 x.Typ, .int .i64 x.Var, .int .i64 x.Cond.Op, .sl (Ar.lst encE x.Cond.Args) .ro, .int .i64 x.Cond.Var, .int .i64 x.Cond.Field, .int .i64 x.Cond.Kind, .int .i64 x.Cond.Value.Kind, .int .i64 x.Cond.Value.Num, .str x.Cond.Value.Text]
noncomputable def encGState (x : GState) : V := .agg [.sl (Ar.lst encGGuard x.Guards) .ro]
noncomputable def encGLimit (x : GLimit) : V := .agg [.int .i64 x.Scope, .int .i64 x.Span]
noncomputable def encGEdge (x : GEdge) : V := .agg [.int .i64 x.From, .int .i64 x.To, .int .i64 x.Var, .int .i64 x.Typ, .int .i64 x.Cond.Op, .sl (Ar.lst encE x.Cond.Args) .ro, .int .i64 x.Cond.Var, .int .i64 x.Cond.Field, .int .i64 x.Cond.Kind, .int .i64 x.Cond.Value.Kind, .int .i64 x.Cond.Value.Num, .str x.Cond.Value.Text, .sl (Ar.lst (V.int .i64) x.Opens) .ro, .sl (Ar.lst (V.int .i64) x.Closes) .ro, .sl (Ar.lst encE x.Checks) .ro, .sl (Ar.lst encGLimit x.Limits) .ro, .sl (Ar.lst (V.int .i64) x.Inside) .ro]
noncomputable def encGAutomaton (x : GAutomaton) : V := .agg [.int .i64 x.Vars, .int .i64 x.Scopes, .sl (Ar.lst encGState x.States) .ro, .sl (Ar.lst encGEdge x.Edges) .ro]
noncomputable def encGexpr_evaluator (x : Gexpr_evaluator) : V := .agg [.sl (Ar.lst encLGEvent x.env.Vars) .ro, .int .i64 x.own, .int .i64 x.event.Source, .int .i64 x.event.Seq, .int .i64 x.event.Typ, .int .i64 x.event.Time, .sl (Ar.lst encGValue x.event.Values) .ro, .fmap fmK89 fmX89]
noncomputable def encGAccumulator (x : GAccumulator) : V := .agg [.int .i64 x.Kind, .int .i64 x.Count, .int .i64 x.Value.Kind, .int .i64 x.Value.Num, .str x.Value.Text]
noncomputable def encLGNeed (x : List GNeed) : V := .sl (Ar.lst encGNeed x) .ro
noncomputable def encLI (x : List Int) : V := .sl (Ar.lst (V.int .i64) x) .ro
noncomputable instance encsInst : Encs where
 eGValue := encGValue
 eGValue_eq := fun _ => rfl
 eGExpr := encE
 eGExpr_eq := fun ⟨_, _, _, _, _, _⟩ => by simp only [encE, encEs_map]; rfl
 eGEvent := encGEvent
 eGEvent_eq := fun _ => rfl
 eGEnv := encGEnv
 eGEnv_eq := fun _ => rfl
 eGS30 := encGS30
 eGS30_eq := fun _ => rfl
 eGNeed := encGNeed
 eGNeed_eq := fun _ => rfl
 eGGuard := encGGuard
 eGGuard_eq := fun _ => rfl
 eGState := encGState
 eGState_eq := fun _ => rfl
 eGLimit := encGLimit
 eGLimit_eq := fun _ => rfl
 eGEdge := encGEdge
 eGEdge_eq := fun _ => rfl
 eGAutomaton := encGAutomaton
 eGAutomaton_eq := fun _ => rfl
 eGexpr_evaluator := encGexpr_evaluator
 eGexpr_evaluator_eq := fun _ => rfl
 eGAccumulator := encGAccumulator
 eGAccumulator_eq := fun _ => rfl
 eLGEvent := encLGEvent
 eLGEvent_eq := fun _ => rfl
 eLGNeed := encLGNeed
 eLGNeed_eq := fun _ => rfl
 eLI := encLI
 eLI_eq := fun _ => rfl
def muL {α : Type} (f : α → Nat) : List α → Nat
 | [] => 1
 | a :: l => f a + muL f l
theorem muL_mem {α : Type} {f : α → Nat} : ∀ {l : List α} {a : α}, a ∈ l → f a ≤ muL f l
 | b :: l, a, h => by
  simp only [muL]
  rcases List.mem_cons.1 h with rfl | h
  ·omega
  ·have := muL_mem (f := f) h; omega
section
variable [Glob] {H : Type} {enc : TypeId × Value → H} {W : World} {base : Nat} {spare : Nat → Bool} {held : Bool}
abbrev bk (d : DataW H) : Nat := Rows.uptoBulk d
noncomputable def fsOf (P : Program) (t : TypeId) : Array Field := match P.underlying t with | some (.struct fs) => fs | _ => #[]
theorem open_fld {P : Program} {t ty off sz : Nat} {xs : List (DataW H × List MemPlace)} {cs : List Value} {n : Nat} (hl : xs.length = (fsOf P t).size)
 (hf : ∀ (i : Nat) (f : Field), (fsOf P t)[i]? = some f → DataW.trod enc P W base spare held n f.type ((cs.drop f.offset).take (P.cellsOf f.type)) = xs[i]?) (i : Nat)
 (h : ((fsOf P t)[i]?.map fun f => (f.type, f.offset, P.cellsOf f.type)) = some (ty, off, sz)) : ∃ y, xs[i]? = some y ∧ DataW.trod enc P W base spare held n ty ((cs.drop off).take sz) = some y := by
 cases hi : (fsOf P t)[i]? with
 | none => rw [hi] at h; cases h
 | some f =>
  rw [hi] at h
  simp only [Option.map_some, Option.some.injEq, Prod.mk.injEq] at h
  obtain ⟨rfl, rfl, rfl⟩ := h
  exact field_some hl hf i hi
theorem Opens.down {α : Type} {P : Program} {t : TypeId} {f : α → V} {R : α → DataW H → Prop} {n : Nat} (h : Opens enc P W base spare held t f R (n + 1)) : Opens enc P W base spare held t f R n := fun cs x hx => h cs x (DataW.trod_le (Nat.le_succ n) hx)
theorem Opens.imp {α : Type} {P : Program} {t : TypeId} {f : α → V} {R R' : α → DataW H → Prop} {n : Nat} (h : Opens enc P W base spare held t f R n) (hi : ∀ a d, R a d → R' a d) : Opens enc P W base spare held t f R' n := fun cs x hx => by
 obtain ⟨a, r, q⟩ := h cs x hx
 exact ⟨a, r, hi _ _ q⟩
theorem Opens.congr {α : Type} {P : Program} {t : TypeId} {f g : α → V} {R : α → DataW H → Prop} {n : Nat} (h : Opens enc P W base spare held t f R n) (hg : ∀ x, f x = g x) : Opens enc P W base spare held t g R n := fun cs x hx => by
 obtain ⟨a, r, q⟩ := h cs x hx
 exact ⟨a, by rw [← hg]; exact r, q⟩
theorem rl_mu {α : Type} {f : α → Nat} : ∀ (l : List α) (ds : List (DataW H)), RL (fun a d => f a ≤ bk d) l ds → muL f l ≤ Rows.uptoBulkAll ds + 1
 | [], ds, h => by simp [muL]
 | a :: l, [], h => by have := h.1; simp at this
 | a :: l, d :: ds, h => by
  have h1 : f a ≤ bk d := h.2 0 a d rfl rfl
  have h2 := rl_mu l ds ⟨by simpa using h.1, fun i a d hi hd => h.2 (i + 1) a d (by simpa using hi) (by simpa using hd)⟩
  simp only [muL, Rows.uptoBulkAll]
  have h3 : bk d = Rows.uptoBulk d := rfl
  omega
theorem rs_mu {α : Type} {f : α → Nat} {l : List α} {d : DataW H} (h : RS (fun a d => f a ≤ bk d) l d) : muL f l ≤ bk d := by
 obtain ⟨_, h⟩ := h
 rcases h with ⟨rfl, rfl⟩ | ⟨es, sp, rfl, h⟩
 ·simp [bk, Rows.uptoBulk, muL]
 ·have := rl_mu l es h
  simp only [bk, Rows.uptoBulk]; omega
theorem bulks_mu : ∀ l : List GExpr, GExpr.bulks l = muL GExpr.bulk l
 | [] => by simp [GExpr.bulks, muL]
 | a :: l => by simp [GExpr.bulks, muL, bulks_mu l]
theorem bs_exprs {l : List GExpr} {d : DataW H} (h : RS (fun a d => GExpr.bulk a ≤ bk d) l d) : GExpr.bulks l ≤ bk d := by rw [bulks_mu]; exact rs_mu h
theorem listn1 {β : Type} {xs : List β} {a : β} (hl : xs.length = 1) (h0 : xs[0]? = some a) : xs = [a] := by
 match xs, hl with
 | [x], _ => simp at h0; rw [h0]
theorem listn2 {β : Type} {xs : List β} {a b : β} (hl : xs.length = 2) (h0 : xs[0]? = some a) (h1 : xs[1]? = some b) : xs = [a, b] := by
 match xs, hl with
 | [x0, x1], _ => simp at h0 h1; rw [h0, h1]
theorem listn3 {β : Type} {xs : List β} {a b c : β} (hl : xs.length = 3) (h0 : xs[0]? = some a) (h1 : xs[1]? = some b) (h2 : xs[2]? = some c) : xs = [a, b, c] := by
 match xs, hl with
 | [x0, x1, x2], _ => simp at h0 h1 h2; rw [h0, h1, h2]
theorem listn4 {β : Type} {xs : List β} {a b c d : β} (hl : xs.length = 4) (h0 : xs[0]? = some a) (h1 : xs[1]? = some b) (h2 : xs[2]? = some c) (h3 : xs[3]? = some d) : xs = [a, b, c, d] := by
 match xs, hl with
 | [x0, x1, x2, x3], _ => simp at h0 h1 h2 h3; rw [h0, h1, h2, h3]
theorem listn5 {β : Type} {xs : List β} {a b c d e : β} (hl : xs.length = 5) (h0 : xs[0]? = some a) (h1 : xs[1]? = some b) (h2 : xs[2]? = some c) (h3 : xs[3]? = some d) (h4 : xs[4]? = some e) : xs = [a, b, c, d, e] := by
 match xs, hl with
 | [x0, x1, x2, x3, x4], _ => simp at h0 h1 h2 h3 h4; rw [h0, h1, h2, h3, h4]
theorem listn6 {β : Type} {xs : List β} {a b c d e f : β} (hl : xs.length = 6) (h0 : xs[0]? = some a) (h1 : xs[1]? = some b) (h2 : xs[2]? = some c) (h3 : xs[3]? = some d) (h4 : xs[4]? = some e) (h5 : xs[5]? = some f) : xs = [a, b, c, d, e, f] := by
 match xs, hl with
 | [x0, x1, x2, x3, x4, x5], _ => simp at h0 h1 h2 h3 h4 h5; rw [h0, h1, h2, h3, h4, h5]
theorem listn10 {β : Type} {xs : List β} {a b c d e f g h i j : β} (hl : xs.length = 10) (h0 : xs[0]? = some a) (h1 : xs[1]? = some b) (h2 : xs[2]? = some c) (h3 : xs[3]? = some d) (h4 : xs[4]? = some e) (h5 : xs[5]? = some f) (h6 : xs[6]? = some g) (h7 : xs[7]? = some h) (h8 : xs[8]? = some i) (h9 : xs[9]? = some j) : xs = [a, b, c, d, e, f, g, h, i, j] := by
 match xs, hl with
 | [x0, x1, x2, x3, x4, x5, x6, x7, x8, x9], _ => simp at h0 h1 h2 h3 h4 h5 h6 h7 h8 h9; rw [h0, h1, h2, h3, h4, h5, h6, h7, h8, h9]
theorem u26 : Tryz.prog.underlying 26 = some (.struct (fsOf Tryz.prog 26)) := by kernel_rfl
theorem u22 : Tryz.prog.underlying 22 = some (.slice 26) := by kernel_rfl
theorem u3 : Tryz.prog.underlying 3 = some (.int .i64) := by kernel_rfl
theorem open_3 (n : Nat) : Opens enc Tryz.prog W base spare held 3 (V.int .i64) (fun a d => (fun _ : Int => 1) a ≤ bk d) n := (opens_int u3).imp fun a d h => by subst h; simp [bk, Rows.uptoBulk]
theorem u24 : Tryz.prog.underlying 24 = some (.struct (fsOf Tryz.prog 24)) := by kernel_rfl
theorem u9 : Tryz.prog.underlying 9 = some .string := by kernel_rfl
theorem open_9 (n : Nat) : Opens enc Tryz.prog W base spare held 9 V.str (fun a d => (fun s : ByteArray => s.size + 1) a ≤ bk d) n := (opens_str u9).imp fun a d h => by obtain ⟨rfl, _⟩ := h; simp [bk, Rows.uptoBulk]
def GValue.mu (x : GValue) : Nat := (fun _ : Int => 1) x.Kind + (fun _ : Int => 1) x.Num + (fun s : ByteArray => s.size + 1) x.Text + 1
theorem open_24 (n : Nat) : Opens enc Tryz.prog W base spare held 24 Encs.eGValue (fun (a : GValue) d => GValue.mu a ≤ bk d) n := by
 intro cs x h
 obtain ⟨xs, m, hm, rfl, hcl, hl, hf⟩ := DataW.trod_struct u24 h
 subst hm
 obtain ⟨y0, k0, t0⟩ := open_fld hl hf 0 (ty := 3) (off := 0) (sz := 1) (by kernel_rfl)
 obtain ⟨y1, k1, t1⟩ := open_fld hl hf 1 (ty := 3) (off := 1) (sz := 1) (by kernel_rfl)
 obtain ⟨y2, k2, t2⟩ := open_fld hl hf 2 (ty := 9) (off := 2) (sz := 1) (by kernel_rfl)
 have hxs := listn3 (hl.trans (by kernel_rfl)) k0 k1 k2
 obtain ⟨a0, r0, q0⟩ := open_3 _ _ _ t0
 obtain ⟨a1, r1, q1⟩ := open_3 _ _ _ t1
 obtain ⟨a2, r2, q2⟩ := open_9 _ _ _ t2
 refine ⟨⟨a0, a1, a2⟩, ?_, ?_⟩
 ·have hc3 : cs.length = 3 := hcl.trans (by kernel_rfl)
  have := (r0.join r1).join r2
  rw [Encs.eGValue_eq]
  simp only [Ar.lst_eq] at this ⊢
  simpa [List.take_of_length_le, hc3, V.cells] using this
 ·simp only [bk] at q0 q1 q2
  rw [hxs]
  simp only [List.map_cons, List.map_nil, bk, Rows.uptoBulk, Rows.uptoBulkAll, GValue.mu]
  omega
theorem open_26 : ∀ n : Nat, Opens enc Tryz.prog W base spare held 26 Encs.eGExpr (fun (a : GExpr) d => GExpr.bulk a ≤ bk d) n := by
 intro n
 induction n with
 | zero => intro cs x h; simp [DataW.trod] at h
 | succ n ih =>
 intro cs x h
 obtain ⟨xs, m, hm, rfl, hcl, hl, hf⟩ := DataW.trod_struct u26 h
 cases hm
 obtain ⟨y0, k0, t0⟩ := open_fld hl hf 0 (ty := 3) (off := 0) (sz := 1) (by kernel_rfl)
 obtain ⟨y1, k1, t1⟩ := open_fld hl hf 1 (ty := 22) (off := 1) (sz := 1) (by kernel_rfl)
 obtain ⟨y2, k2, t2⟩ := open_fld hl hf 2 (ty := 3) (off := 2) (sz := 1) (by kernel_rfl)
 obtain ⟨y3, k3, t3⟩ := open_fld hl hf 3 (ty := 3) (off := 3) (sz := 1) (by kernel_rfl)
 obtain ⟨y4, k4, t4⟩ := open_fld hl hf 4 (ty := 3) (off := 4) (sz := 1) (by kernel_rfl)
 obtain ⟨y5, k5, t5⟩ := open_fld hl hf 5 (ty := 24) (off := 5) (sz := 3) (by kernel_rfl)
 have hxs := listn6 (hl.trans (by kernel_rfl)) k0 k1 k2 k3 k4 k5
 obtain ⟨a0, r0, q0⟩ := open_3 _ _ _ t0
 obtain ⟨a1, r1, q1⟩ : ∃ a : List GExpr, RowV (g0 W) W ((cs.drop 1).take 1) (V.sl (a.map Encs.eGExpr) .ro).cells ∧ GExpr.bulks a ≤ bk y1.1 := by
  cases n with
  | zero => simp [DataW.trod] at t1
  | succ n =>
   obtain ⟨a, r, q⟩ := opens_slice u22 (show 0 < Tryz.prog.cellsOf 26 by rw [show Tryz.prog.cellsOf 26 = 8 by kernel_rfl]; decide) ih.down _ _ t1
   exact ⟨a, r, bs_exprs q⟩
 obtain ⟨a2, r2, q2⟩ := open_3 _ _ _ t2
 obtain ⟨a3, r3, q3⟩ := open_3 _ _ _ t3
 obtain ⟨a4, r4, q4⟩ := open_3 _ _ _ t4
 obtain ⟨a5, r5, q5⟩ := open_24 _ _ _ t5
 refine ⟨⟨a0, a1, a2, a3, a4, a5⟩, ?_, ?_⟩
 ·have hc3 : cs.length = 8 := hcl.trans (by kernel_rfl)
  rw [Encs.eGValue_eq] at r5
  have := ((((r0.join r1).join r2).join r3).join r4).join r5
  rw [Encs.eGExpr_eq]
  simp only [Ar.lst_eq] at this ⊢
  simpa [List.take_of_length_le, hc3, V.cells] using this
 ·simp only [bk] at q0 q1 q2 q3 q4 q5
  rw [hxs]
  simp only [List.map_cons, List.map_nil, bk, Rows.uptoBulk, Rows.uptoBulkAll, GExpr.bulk, GValue.mu] at *
  omega
theorem u29 : Tryz.prog.underlying 29 = some (.struct (fsOf Tryz.prog 29)) := by kernel_rfl
theorem u27 : Tryz.prog.underlying 27 = some (.slice 37) := by kernel_rfl
theorem u37 : Tryz.prog.underlying 37 = some (.slice 36) := by kernel_rfl
theorem u36 : Tryz.prog.underlying 36 = some (.struct (fsOf Tryz.prog 36)) := by kernel_rfl
theorem u34 : Tryz.prog.underlying 34 = some (.slice 24) := by kernel_rfl
theorem open_34 (n : Nat) : Opens enc Tryz.prog W base spare held 34 (fun l : List GValue => .sl (Ar.lst Encs.eGValue l) .ro) (fun a d => (muL GValue.mu) a ≤ bk d) n :=
 Opens.down (((opens_slice u34 (show 0 < Tryz.prog.cellsOf 24 by rw [show Tryz.prog.cellsOf 24 = 3 by kernel_rfl]; decide) (open_24 n)).imp fun a d h => rs_mu h).congr fun x => by rw [Ar.lst_eq])
def GEvent.mu (x : GEvent) : Nat := (fun _ : Int => 1) x.Source + (fun _ : Int => 1) x.Seq + (fun _ : Int => 1) x.Typ + (fun _ : Int => 1) x.Time + (muL GValue.mu) x.Values + 1
theorem open_36 (n : Nat) : Opens enc Tryz.prog W base spare held 36 Encs.eGEvent (fun (a : GEvent) d => GEvent.mu a ≤ bk d) n := by
 intro cs x h
 obtain ⟨xs, m, hm, rfl, hcl, hl, hf⟩ := DataW.trod_struct u36 h
 subst hm
 obtain ⟨y0, k0, t0⟩ := open_fld hl hf 0 (ty := 3) (off := 0) (sz := 1) (by kernel_rfl)
 obtain ⟨y1, k1, t1⟩ := open_fld hl hf 1 (ty := 3) (off := 1) (sz := 1) (by kernel_rfl)
 obtain ⟨y2, k2, t2⟩ := open_fld hl hf 2 (ty := 3) (off := 2) (sz := 1) (by kernel_rfl)
 obtain ⟨y3, k3, t3⟩ := open_fld hl hf 3 (ty := 3) (off := 3) (sz := 1) (by kernel_rfl)
 obtain ⟨y4, k4, t4⟩ := open_fld hl hf 4 (ty := 34) (off := 4) (sz := 1) (by kernel_rfl)
 have hxs := listn5 (hl.trans (by kernel_rfl)) k0 k1 k2 k3 k4
 obtain ⟨a0, r0, q0⟩ := open_3 _ _ _ t0
 obtain ⟨a1, r1, q1⟩ := open_3 _ _ _ t1
 obtain ⟨a2, r2, q2⟩ := open_3 _ _ _ t2
 obtain ⟨a3, r3, q3⟩ := open_3 _ _ _ t3
 obtain ⟨a4, r4, q4⟩ := open_34 _ _ _ t4
 refine ⟨⟨a0, a1, a2, a3, a4⟩, ?_, ?_⟩
 ·have hc3 : cs.length = 5 := hcl.trans (by kernel_rfl)
  have := (((r0.join r1).join r2).join r3).join r4
  rw [Encs.eGEvent_eq]
  simp only [Ar.lst_eq] at this ⊢
  simpa [List.take_of_length_le, hc3, V.cells] using this
 ·simp only [bk] at q0 q1 q2 q3 q4
  rw [hxs]
  simp only [List.map_cons, List.map_nil, bk, Rows.uptoBulk, Rows.uptoBulkAll, GEvent.mu]
  omega
theorem open_37 (n : Nat) : Opens enc Tryz.prog W base spare held 37 (fun l : List GEvent => .sl (Ar.lst Encs.eGEvent l) .ro) (fun a d => (muL GEvent.mu) a ≤ bk d) n :=
 Opens.down (((opens_slice u37 (show 0 < Tryz.prog.cellsOf 36 by rw [show Tryz.prog.cellsOf 36 = 5 by kernel_rfl]; decide) (open_36 n)).imp fun a d h => rs_mu h).congr fun x => by rw [Ar.lst_eq])
theorem open_27 (n : Nat) : Opens enc Tryz.prog W base spare held 27 (fun l : List (List GEvent) => .sl (Ar.lst Encs.eLGEvent l) .ro) (fun a d => (muL (muL GEvent.mu)) a ≤ bk d) n :=
 Opens.down (((opens_slice u27 (show 0 < Tryz.prog.cellsOf 37 by rw [show Tryz.prog.cellsOf 37 = 1 by kernel_rfl]; decide) ((open_37 n).congr fun x => (Encs.eLGEvent_eq x).symm)).imp fun a d h => rs_mu h).congr fun x => by rw [Ar.lst_eq])
def GEnv.mu (x : GEnv) : Nat := (muL (muL GEvent.mu)) x.Vars + 1
theorem open_29 (n : Nat) : Opens enc Tryz.prog W base spare held 29 Encs.eGEnv (fun (a : GEnv) d => GEnv.mu a ≤ bk d) n := by
 intro cs x h
 obtain ⟨xs, m, hm, rfl, hcl, hl, hf⟩ := DataW.trod_struct u29 h
 subst hm
 obtain ⟨y0, k0, t0⟩ := open_fld hl hf 0 (ty := 27) (off := 0) (sz := 1) (by kernel_rfl)
 have hxs := listn1 (hl.trans (by kernel_rfl)) k0
 obtain ⟨a0, r0, q0⟩ := open_27 _ _ _ t0
 refine ⟨⟨a0⟩, ?_, ?_⟩
 ·have hc3 : cs.length = 1 := hcl.trans (by kernel_rfl)
  have := r0
  rw [Encs.eGEnv_eq]
  simp only [Ar.lst_eq] at this ⊢
  simpa [List.take_of_length_le, hc3, V.cells] using this
 ·simp only [bk] at q0
  rw [hxs]
  simp only [List.map_cons, List.map_nil, bk, Rows.uptoBulk, Rows.uptoBulkAll, GEnv.mu]
  omega
def GS30.mu (x : GS30) : Nat := (fun _ : Int => 1) x.E0 + (fun _ : Int => 1) x.E1 + 1
theorem u53 : Tryz.prog.underlying 53 = some (.struct (fsOf Tryz.prog 53)) := by kernel_rfl
theorem u50 : Tryz.prog.underlying 50 = some (.slice 60) := by kernel_rfl
theorem u60 : Tryz.prog.underlying 60 = some (.struct (fsOf Tryz.prog 60)) := by kernel_rfl
theorem u58 : Tryz.prog.underlying 58 = some (.slice 63) := by kernel_rfl
theorem u63 : Tryz.prog.underlying 63 = some (.struct (fsOf Tryz.prog 63)) := by kernel_rfl
def GGuard.mu (x : GGuard) : Nat := (fun _ : Int => 1) x.Scope + (fun _ : Int => 1) x.Typ + (fun _ : Int => 1) x.Var + GExpr.bulk x.Cond + 1
theorem open_63 (n : Nat) : Opens enc Tryz.prog W base spare held 63 Encs.eGGuard (fun (a : GGuard) d => GGuard.mu a ≤ bk d) n := by
 intro cs x h
 obtain ⟨xs, m, hm, rfl, hcl, hl, hf⟩ := DataW.trod_struct u63 h
 subst hm
 obtain ⟨y0, k0, t0⟩ := open_fld hl hf 0 (ty := 3) (off := 0) (sz := 1) (by kernel_rfl)
 obtain ⟨y1, k1, t1⟩ := open_fld hl hf 1 (ty := 3) (off := 1) (sz := 1) (by kernel_rfl)
 obtain ⟨y2, k2, t2⟩ := open_fld hl hf 2 (ty := 3) (off := 2) (sz := 1) (by kernel_rfl)
 obtain ⟨y3, k3, t3⟩ := open_fld hl hf 3 (ty := 26) (off := 3) (sz := 8) (by kernel_rfl)
 have hxs := listn4 (hl.trans (by kernel_rfl)) k0 k1 k2 k3
 obtain ⟨a0, r0, q0⟩ := open_3 _ _ _ t0
 obtain ⟨a1, r1, q1⟩ := open_3 _ _ _ t1
 obtain ⟨a2, r2, q2⟩ := open_3 _ _ _ t2
 obtain ⟨a3, r3, q3⟩ := open_26 _ _ _ t3
 refine ⟨⟨a0, a1, a2, a3⟩, ?_, ?_⟩
 ·have hc3 : cs.length = 11 := hcl.trans (by kernel_rfl)
  rw [Encs.eGExpr_eq] at r3
  have := ((r0.join r1).join r2).join r3
  rw [Encs.eGGuard_eq]
  simp only [Ar.lst_eq] at this ⊢
  simpa [List.take_of_length_le, hc3, V.cells] using this
 ·simp only [bk] at q0 q1 q2 q3
  rw [hxs]
  simp only [List.map_cons, List.map_nil, bk, Rows.uptoBulk, Rows.uptoBulkAll, GGuard.mu]
  omega
theorem open_58 (n : Nat) : Opens enc Tryz.prog W base spare held 58 (fun l : List GGuard => .sl (Ar.lst Encs.eGGuard l) .ro) (fun a d => (muL GGuard.mu) a ≤ bk d) n :=
 Opens.down (((opens_slice u58 (show 0 < Tryz.prog.cellsOf 63 by rw [show Tryz.prog.cellsOf 63 = 11 by kernel_rfl]; decide) (open_63 n)).imp fun a d h => rs_mu h).congr fun x => by rw [Ar.lst_eq])
def GState.mu (x : GState) : Nat := (muL GGuard.mu) x.Guards + 1
theorem open_60 (n : Nat) : Opens enc Tryz.prog W base spare held 60 Encs.eGState (fun (a : GState) d => GState.mu a ≤ bk d) n := by
 intro cs x h
 obtain ⟨xs, m, hm, rfl, hcl, hl, hf⟩ := DataW.trod_struct u60 h
 subst hm
 obtain ⟨y0, k0, t0⟩ := open_fld hl hf 0 (ty := 58) (off := 0) (sz := 1) (by kernel_rfl)
 have hxs := listn1 (hl.trans (by kernel_rfl)) k0
 obtain ⟨a0, r0, q0⟩ := open_58 _ _ _ t0
 refine ⟨⟨a0⟩, ?_, ?_⟩
 ·have hc3 : cs.length = 1 := hcl.trans (by kernel_rfl)
  have := r0
  rw [Encs.eGState_eq]
  simp only [Ar.lst_eq] at this ⊢
  simpa [List.take_of_length_le, hc3, V.cells] using this
 ·simp only [bk] at q0
  rw [hxs]
  simp only [List.map_cons, List.map_nil, bk, Rows.uptoBulk, Rows.uptoBulkAll, GState.mu]
  omega
theorem open_50 (n : Nat) : Opens enc Tryz.prog W base spare held 50 (fun l : List GState => .sl (Ar.lst Encs.eGState l) .ro) (fun a d => (muL GState.mu) a ≤ bk d) n :=
 Opens.down (((opens_slice u50 (show 0 < Tryz.prog.cellsOf 60 by rw [show Tryz.prog.cellsOf 60 = 1 by kernel_rfl]; decide) (open_60 n)).imp fun a d h => rs_mu h).congr fun x => by rw [Ar.lst_eq])
theorem u51 : Tryz.prog.underlying 51 = some (.slice 67) := by kernel_rfl
theorem u67 : Tryz.prog.underlying 67 = some (.struct (fsOf Tryz.prog 67)) := by kernel_rfl
theorem u64 : Tryz.prog.underlying 64 = some (.slice 3) := by kernel_rfl
theorem open_64 (n : Nat) : Opens enc Tryz.prog W base spare held 64 (fun l : List Int => .sl (Ar.lst (V.int .i64) l) .ro) (fun a d => (muL (fun _ : Int => 1)) a ≤ bk d) n :=
 Opens.down (((opens_slice u64 (show 0 < Tryz.prog.cellsOf 3 by rw [show Tryz.prog.cellsOf 3 = 1 by kernel_rfl]; decide) (open_3 n)).imp fun a d h => rs_mu h).congr fun x => by rw [Ar.lst_eq])
theorem open_22 (n : Nat) : Opens enc Tryz.prog W base spare held 22 (fun l : List GExpr => .sl (Ar.lst Encs.eGExpr l) .ro) (fun a d => (muL GExpr.bulk) a ≤ bk d) n :=
 Opens.down (((opens_slice u22 (show 0 < Tryz.prog.cellsOf 26 by rw [show Tryz.prog.cellsOf 26 = 8 by kernel_rfl]; decide) (open_26 n)).imp fun a d h => rs_mu h).congr fun x => by rw [Ar.lst_eq])
theorem u65 : Tryz.prog.underlying 65 = some (.slice 135) := by kernel_rfl
theorem u135 : Tryz.prog.underlying 135 = some (.struct (fsOf Tryz.prog 135)) := by kernel_rfl
def GLimit.mu (x : GLimit) : Nat := (fun _ : Int => 1) x.Scope + (fun _ : Int => 1) x.Span + 1
theorem open_135 (n : Nat) : Opens enc Tryz.prog W base spare held 135 Encs.eGLimit (fun (a : GLimit) d => GLimit.mu a ≤ bk d) n := by
 intro cs x h
 obtain ⟨xs, m, hm, rfl, hcl, hl, hf⟩ := DataW.trod_struct u135 h
 subst hm
 obtain ⟨y0, k0, t0⟩ := open_fld hl hf 0 (ty := 3) (off := 0) (sz := 1) (by kernel_rfl)
 obtain ⟨y1, k1, t1⟩ := open_fld hl hf 1 (ty := 3) (off := 1) (sz := 1) (by kernel_rfl)
 have hxs := listn2 (hl.trans (by kernel_rfl)) k0 k1
 obtain ⟨a0, r0, q0⟩ := open_3 _ _ _ t0
 obtain ⟨a1, r1, q1⟩ := open_3 _ _ _ t1
 refine ⟨⟨a0, a1⟩, ?_, ?_⟩
 ·have hc3 : cs.length = 2 := hcl.trans (by kernel_rfl)
  have := r0.join r1
  rw [Encs.eGLimit_eq]
  simp only [Ar.lst_eq] at this ⊢
  simpa [List.take_of_length_le, hc3, V.cells] using this
 ·simp only [bk] at q0 q1
  rw [hxs]
  simp only [List.map_cons, List.map_nil, bk, Rows.uptoBulk, Rows.uptoBulkAll, GLimit.mu]
  omega
theorem open_65 (n : Nat) : Opens enc Tryz.prog W base spare held 65 (fun l : List GLimit => .sl (Ar.lst Encs.eGLimit l) .ro) (fun a d => (muL GLimit.mu) a ≤ bk d) n :=
 Opens.down (((opens_slice u65 (show 0 < Tryz.prog.cellsOf 135 by rw [show Tryz.prog.cellsOf 135 = 2 by kernel_rfl]; decide) (open_135 n)).imp fun a d h => rs_mu h).congr fun x => by rw [Ar.lst_eq])
def GEdge.mu (x : GEdge) : Nat := (fun _ : Int => 1) x.From + (fun _ : Int => 1) x.To + (fun _ : Int => 1) x.Var + (fun _ : Int => 1) x.Typ + GExpr.bulk x.Cond + (muL (fun _ : Int => 1)) x.Opens + (muL (fun _ : Int => 1)) x.Closes + (muL GExpr.bulk) x.Checks + (muL GLimit.mu) x.Limits + (muL (fun _ : Int => 1)) x.Inside + 1
theorem open_67 (n : Nat) : Opens enc Tryz.prog W base spare held 67 Encs.eGEdge (fun (a : GEdge) d => GEdge.mu a ≤ bk d) n := by
 intro cs x h
 obtain ⟨xs, m, hm, rfl, hcl, hl, hf⟩ := DataW.trod_struct u67 h
 subst hm
 obtain ⟨y0, k0, t0⟩ := open_fld hl hf 0 (ty := 3) (off := 0) (sz := 1) (by kernel_rfl)
 obtain ⟨y1, k1, t1⟩ := open_fld hl hf 1 (ty := 3) (off := 1) (sz := 1) (by kernel_rfl)
 obtain ⟨y2, k2, t2⟩ := open_fld hl hf 2 (ty := 3) (off := 2) (sz := 1) (by kernel_rfl)
 obtain ⟨y3, k3, t3⟩ := open_fld hl hf 3 (ty := 3) (off := 3) (sz := 1) (by kernel_rfl)
 obtain ⟨y4, k4, t4⟩ := open_fld hl hf 4 (ty := 26) (off := 4) (sz := 8) (by kernel_rfl)
 obtain ⟨y5, k5, t5⟩ := open_fld hl hf 5 (ty := 64) (off := 12) (sz := 1) (by kernel_rfl)
 obtain ⟨y6, k6, t6⟩ := open_fld hl hf 6 (ty := 64) (off := 13) (sz := 1) (by kernel_rfl)
 obtain ⟨y7, k7, t7⟩ := open_fld hl hf 7 (ty := 22) (off := 14) (sz := 1) (by kernel_rfl)
 obtain ⟨y8, k8, t8⟩ := open_fld hl hf 8 (ty := 65) (off := 15) (sz := 1) (by kernel_rfl)
 obtain ⟨y9, k9, t9⟩ := open_fld hl hf 9 (ty := 64) (off := 16) (sz := 1) (by kernel_rfl)
 have hxs := listn10 (hl.trans (by kernel_rfl)) k0 k1 k2 k3 k4 k5 k6 k7 k8 k9
 obtain ⟨a0, r0, q0⟩ := open_3 _ _ _ t0
 obtain ⟨a1, r1, q1⟩ := open_3 _ _ _ t1
 obtain ⟨a2, r2, q2⟩ := open_3 _ _ _ t2
 obtain ⟨a3, r3, q3⟩ := open_3 _ _ _ t3
 obtain ⟨a4, r4, q4⟩ := open_26 _ _ _ t4
 obtain ⟨a5, r5, q5⟩ := open_64 _ _ _ t5
 obtain ⟨a6, r6, q6⟩ := open_64 _ _ _ t6
 obtain ⟨a7, r7, q7⟩ := open_22 _ _ _ t7
 obtain ⟨a8, r8, q8⟩ := open_65 _ _ _ t8
 obtain ⟨a9, r9, q9⟩ := open_64 _ _ _ t9
 refine ⟨⟨a0, a1, a2, a3, a4, a5, a6, a7, a8, a9⟩, ?_, ?_⟩
 ·have hc3 : cs.length = 17 := hcl.trans (by kernel_rfl)
  rw [Encs.eGExpr_eq] at r4
  have := ((((((((r0.join r1).join r2).join r3).join r4).join r5).join r6).join r7).join r8).join r9
  rw [Encs.eGEdge_eq]
  simp only [Ar.lst_eq] at this ⊢
  simpa [List.take_of_length_le, hc3, V.cells] using this
 ·simp only [bk] at q0 q1 q2 q3 q4 q5 q6 q7 q8 q9
  rw [hxs]
  simp only [List.map_cons, List.map_nil, bk, Rows.uptoBulk, Rows.uptoBulkAll, GEdge.mu]
  omega
theorem open_51 (n : Nat) : Opens enc Tryz.prog W base spare held 51 (fun l : List GEdge => .sl (Ar.lst Encs.eGEdge l) .ro) (fun a d => (muL GEdge.mu) a ≤ bk d) n :=
 Opens.down (((opens_slice u51 (show 0 < Tryz.prog.cellsOf 67 by rw [show Tryz.prog.cellsOf 67 = 17 by kernel_rfl]; decide) (open_67 n)).imp fun a d h => rs_mu h).congr fun x => by rw [Ar.lst_eq])
def GAutomaton.mu (x : GAutomaton) : Nat := (fun _ : Int => 1) x.Vars + (fun _ : Int => 1) x.Scopes + (muL GState.mu) x.States + (muL GEdge.mu) x.Edges + 1
theorem open_53 (n : Nat) : Opens enc Tryz.prog W base spare held 53 Encs.eGAutomaton (fun (a : GAutomaton) d => GAutomaton.mu a ≤ bk d) n := by
 intro cs x h
 obtain ⟨xs, m, hm, rfl, hcl, hl, hf⟩ := DataW.trod_struct u53 h
 subst hm
 obtain ⟨y0, k0, t0⟩ := open_fld hl hf 0 (ty := 3) (off := 0) (sz := 1) (by kernel_rfl)
 obtain ⟨y1, k1, t1⟩ := open_fld hl hf 1 (ty := 3) (off := 1) (sz := 1) (by kernel_rfl)
 obtain ⟨y2, k2, t2⟩ := open_fld hl hf 2 (ty := 50) (off := 2) (sz := 1) (by kernel_rfl)
 obtain ⟨y3, k3, t3⟩ := open_fld hl hf 3 (ty := 51) (off := 3) (sz := 1) (by kernel_rfl)
 have hxs := listn4 (hl.trans (by kernel_rfl)) k0 k1 k2 k3
 obtain ⟨a0, r0, q0⟩ := open_3 _ _ _ t0
 obtain ⟨a1, r1, q1⟩ := open_3 _ _ _ t1
 obtain ⟨a2, r2, q2⟩ := open_50 _ _ _ t2
 obtain ⟨a3, r3, q3⟩ := open_51 _ _ _ t3
 refine ⟨⟨a0, a1, a2, a3⟩, ?_, ?_⟩
 ·have hc3 : cs.length = 4 := hcl.trans (by kernel_rfl)
  have := ((r0.join r1).join r2).join r3
  rw [Encs.eGAutomaton_eq]
  simp only [Ar.lst_eq] at this ⊢
  simpa [List.take_of_length_le, hc3, V.cells] using this
 ·simp only [bk] at q0 q1 q2 q3
  rw [hxs]
  simp only [List.map_cons, List.map_nil, bk, Rows.uptoBulk, Rows.uptoBulkAll, GAutomaton.mu]
  omega
theorem arg_GEnv {v : Value} {d : DataW H} {p : List MemPlace} (hv : Value.okWide Tryz.prog W .any base 29 v) (h : DataW.Trod enc Tryz.prog W 0 (fun _ => true) true 29 v d p) : ∃ x : GEnv, VR (g0 W) W v (Encs.eGEnv x) ∧ GEnv.mu x ≤ Rows.uptoBulk d := by
 obtain ⟨fuel, ht⟩ := h
 obtain ⟨cs, rfl, hcs⟩ := okWide_struct u29 hv
 obtain ⟨x, hr, hb⟩ := open_29 fuel _ _ ht
 have hr' : RowV (g0 W) W cs.toList (Encs.eGEnv x).cells := hr
 refine ⟨x, ?_, hb⟩
 have := hr'.agg
 rw [Encs.eGEnv_eq] at this ⊢
 exact this
theorem arg_GAutomaton {v : Value} {d : DataW H} {p : List MemPlace} (hv : Value.okWide Tryz.prog W .any base 53 v) (h : DataW.Trod enc Tryz.prog W 0 (fun _ => true) true 53 v d p) : ∃ x : GAutomaton, VR (g0 W) W v (Encs.eGAutomaton x) ∧ GAutomaton.mu x ≤ Rows.uptoBulk d := by
 obtain ⟨fuel, ht⟩ := h
 obtain ⟨cs, rfl, hcs⟩ := okWide_struct u53 hv
 obtain ⟨x, hr, hb⟩ := open_53 fuel _ _ ht
 have hr' : RowV (g0 W) W cs.toList (Encs.eGAutomaton x).cells := hr
 refine ⟨x, ?_, hb⟩
 have := hr'.agg
 rw [Encs.eGAutomaton_eq] at this ⊢
 exact this
theorem arg_GEvent {v : Value} {d : DataW H} {p : List MemPlace} (hv : Value.okWide Tryz.prog W .any base 36 v) (h : DataW.Trod enc Tryz.prog W 0 (fun _ => true) true 36 v d p) : ∃ x : GEvent, VR (g0 W) W v (Encs.eGEvent x) ∧ GEvent.mu x ≤ Rows.uptoBulk d := by
 obtain ⟨fuel, ht⟩ := h
 obtain ⟨cs, rfl, hcs⟩ := okWide_struct u36 hv
 obtain ⟨x, hr, hb⟩ := open_36 fuel _ _ ht
 have hr' : RowV (g0 W) W cs.toList (Encs.eGEvent x).cells := hr
 refine ⟨x, ?_, hb⟩
 have := hr'.agg
 rw [Encs.eGEvent_eq] at this ⊢
 exact this
theorem u4 : Tryz.prog.underlying 4 = some .bool := by kernel_rfl
theorem law_run {f : FuncId} {vals : Array Value} {args : List V} (hg : ∀ n, VR (g0 W) W (.pointer (some ⟨n, 0, none⟩)) (Glob.gl n)) (hcall : ∀ vals w, (callFunc f vals).run Tryz.prog w = .ok (.enter f vals) w) (law : CallP Tryz.prog f args (.bool true)) (hA : Args (g0 W) W vals args) :
 Calls Tryz.prog f vals W fun e W' => e = .returned (.bool true) ∧ Below W.heap.size W W' := by
 have hc := law (fun _ => none) (g0 W) W vals (rl0 hg) hA
 rw [hcall] at hc
 refine (callsIn_wide.1 hc).mono fun e W' ⟨v, he, g', y, H', hs, hR, hvy, hy, _⟩ => ?_
 subst hy
 cases hvy
 exact ⟨he, hs.low⟩
theorem args3 {v0 v1 v2 : Value} {x0 x1 x2 : V} (h0 : VR (g0 W) W v0 x0) (h1 : VR (g0 W) W v1 x1) (h2 : VR (g0 W) W v2 x2) : Args (g0 W) W #[v0, v1, v2] [x0, x1, x2] := ⟨rfl, fun i hi => by
 match i, hi with
 | 0, _ => exact h0
 | 1, _ => exact h1
 | 2, _ => exact h2⟩
end
end Go.Ab

namespace Go.Ab
theorem edeps_le : ∀ {l : List GExpr} {a : GExpr}, a ∈ l → a.dep ≤ GExpr.deps l
 | b :: l, a, h => by
  simp only [GExpr.deps]
  rcases List.mem_cons.1 h with rfl | h
  ·exact Nat.le_max_left _ _
  ·exact Nat.le_trans (edeps_le h) (Nat.le_max_right _ _)
theorem epres_mem : ∀ {l : List GExpr} {a y : GExpr}, a ∈ l → y ∈ a.pre → y ∈ GExpr.pres l
 | b :: l, a, y, h, hy => by
  simp only [GExpr.pres, List.mem_append]
  rcases List.mem_cons.1 h with rfl | h
  ·exact .inl hy
  ·exact .inr (epres_mem h hy)
theorem range_allE {α R : Type} {body : Unit → α → Option (Unit ⊕ R)} {p : α → Bool} {r : R} : ∀ {l : List α}, (∀ x ∈ l, body () x = some (if p x = true then .inl () else .inr r)) → rangeL body l () = some (if l.all p = true then .inl () else .inr r)
 | [], _ => rfl
 | x :: l, h => by
  unfold rangeL
  rw [h x (by simp), List.all_cons]
  by_cases hx : p x = true
  ·rw [if_pos hx, hx]
   dsimp only
   rw [range_allE fun y hy => h y (by simp [hy])]
   rfl
  ·rw [if_neg hx]
   dsimp only
   rw [Bool.not_eq_true] at hx
   rw [hx]; rfl
theorem fldOk {x : GExpr} (h : exprBad x = 0) : (x.Op = 1 ∨ x.Op = 4 → 0 ≤ x.Field ∧ x.Field < 8) ∧ (1 ≤ x.Op ∧ x.Op ≤ 4 → 0 ≤ x.Var ∧ x.Var < 16) := by
 have h3 : outB x = false := by
  cases hh : outB x with
  | false => rfl
  | true =>
   exfalso
   unfold exprBad at h
   by_cases a : x.Op < 0 ∨ 12 < x.Op
   ·rw [if_pos a] at h; cases h
   rw [if_neg a] at h
   by_cases b : (x.Args.length : Int) ≠ (if x.Op < 5 then 0 else if x.Op = 12 then 1 else 2)
   ·rw [if_pos b] at h; cases h
   rw [if_neg b, if_pos hh] at h
   cases h
 unfold outB at h3
 simp only [or_def, an_def, cmp_lss, cmp_geq, Bool.or_eq_false_iff, Bool.and_eq_false_iff, decide_eq_false_iff_not] at h3
 obtain ⟨hv, hf⟩ := h3
 constructor
 ·intro e
  rcases hf with hf | hf
  ·exfalso
   unfold usesF at hf
   rcases e with e | e <;> simp [e, cmp_eql, or_def] at hf
  ·omega
 ·intro e
  rcases hv with hv | hv
  ·exfalso
   have h4 : x.Op = 1 ∨ x.Op = 2 ∨ x.Op = 3 ∨ x.Op = 4 := by omega
   unfold usesV at hv
   rcases h4 with e | e | e | e <;> simp [e, cmp_eql, or_def] at hv
  ·omega
end Go.Ab

