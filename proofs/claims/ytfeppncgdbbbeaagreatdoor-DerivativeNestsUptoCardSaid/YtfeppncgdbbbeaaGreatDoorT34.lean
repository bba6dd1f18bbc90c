/- AbG2 AbI1 GNBk GNIn GNPr AbM1 GNM1 -/
import Derived.Test.YtfeppncgdbbbeaaGreatDoorT33
import Derived.Lib.LaidTab
import Derived.Test.YtfeppncgdbbbeaaGreatDoorT26
import Derived.Test.YtfeppncgdbbbeaaGreatDoorCards
import Derived.Test.YtfeppncgdbbbeaaGreatDoorT32
import Derived.Test.YtfeppncgdbbbeaaGreatDoorTie
import Derived.WalkKit
import Derived.ProofKit
import Derived.OpenShut
import Derived.Deep.DeepHandedRow
import Derived.Carry
import Derived.Test.YtfeppncgdbbbeaaGreatDoorT22
set_option linter.all false

namespace Go.Ab
open Go.RowKit Go.ChangeShapes Go.WideShapes
variable [Glob]
section
variable {H α : Type} {enc : TypeId × Value → H} {P : Program} {W : World} {base : Nat} {spare : Nat → Bool} {held : Bool} {t e : TypeId} {n : Nat}
theorem row_elems {cs : List Value} {sz : Nat} {f : α → V} : ∀ (l : List α) (o : Nat), (∀ (i : Nat) a, l[i]? = some a → RowV (g0 W) W ((cs.drop (o + i * sz)).take sz) (f a).cells) → RowV (g0 W) W ((cs.drop o).take (l.length * sz)) (l.flatMap fun a => (f a).cells)
 | [], o, _ => by simp; exact .nil _ _
 | a :: l, o, h => by
  have h0 := h 0 a rfl
  rw [Nat.zero_mul, Nat.add_zero] at h0
  have h1 := row_elems l (o + sz) fun i b hi => by
   have := h (i + 1) b (by simpa using hi)
   rwa [show o + (i + 1) * sz = o + sz + i * sz by rw [Nat.add_mul]; omega] at this
  have := h0.join h1
  rw [List.length_cons, List.flatMap_cons, show (l.length + 1) * sz = sz + l.length * sz by rw [Nat.add_mul]; omega]
  exact this
theorem opens_array {f : α → V} {R : α → DataW H → Prop} {m : Nat} (ht : P.underlying t = some (.array m e)) (hct : P.cellsOf t = m * P.cellsOf e) (hm : 0 < m) (he : ∀ n, Opens enc P W base spare held e f R n) {cs : List Value} {x : DataW H × List MemPlace}
 (h : DataW.trod enc P W base spare held n t cs = some x) : ∃ l : List α, RowV (g0 W) W cs (l.flatMap fun a => (f a).cells) ∧ ∃ ds, x.1 = .agg ds ∧ RL R l ds := by
 cases n with
 | zero => simp [DataW.trod] at h
 | succ n =>
  simp only [DataW.trod, ht] at h
  split at h
  ·rename_i hl
   obtain ⟨xs, hmm, rfl⟩ := Option.map_eq_some_iff.1 h
   have hxl : xs.length = m := by simpa using mapM_some_length hmm
   have one : ∀ i, i < m → ∃ b, RowV (g0 W) W ((cs.drop (i * P.cellsOf e)).take (P.cellsOf e)) (f b).cells ∧ ∀ y, xs[i]? = some y → R b y.1 := by
    intro i hi
    have h1 := mapM_some_get hmm i i (by simp [hi])
    have h2 : xs[i]? = some (xs[i]'(by omega)) := by simp [hxl, hi]
    rw [h2] at h1
    obtain ⟨b, hr, hR⟩ := he n _ _ h1
    exact ⟨b, hr, fun y hy => by rw [h2] at hy; cases hy; exact hR⟩
   obtain ⟨b0, _⟩ := one 0 hm
   haveI : Inhabited α := ⟨b0⟩
   obtain ⟨A, hA⟩ := Deep.choose_lt one
   have hat : ∀ (i : Nat) a, ((List.range m).map A)[i]? = some a → i < m ∧ a = A i := fun i a hi => by
    rcases Nat.lt_or_ge i m with hlt | hge
    ·simp [hlt] at hi; exact ⟨hlt, hi.symm⟩
    rw [List.getElem?_eq_none (by simpa using hge)] at hi; cases hi
   refine ⟨(List.range m).map A, ?_, _, rfl, by simp [hxl], fun i a d hi hd => ?_⟩
   ·have := row_elems (cs := cs) (sz := P.cellsOf e) (f := f) (W := W) ((List.range m).map A) 0 (fun i a hi => by
     obtain ⟨h1, rfl⟩ := hat i a hi
     simpa using (hA i h1).1)
    simpa [List.take_of_length_le, hl, hct] using this
   obtain ⟨h1, rfl⟩ := hat i a hi
   simp only [List.getElem?_map, Option.map_eq_some_iff] at hd
   obtain ⟨y, hy, rfl⟩ := hd
   exact (hA i h1).2 y hy
  cases h
theorem glob_of_row {g : Nat} {cs : Array Value} {xs : List V} {name : String} (hg : P.globalNamed name = some g) (hv : W.var? P name = some cs) (hr : RowV (g0 W) W cs.toList xs) : VR (g0 W) W (.pointer (some ⟨g, 0, none⟩)) (.eref xs 0) := by
 have cell : ∀ j, j < xs.length → W.cell? ⟨g, 0 + j, none⟩ = some (cs.toList.getD j undef) := fun j hj => by
  have h1 := World.var?_cell hg hv j
  have h2 : j < cs.size := by have := hr.1; simp at this; omega
  rw [Nat.zero_add, h1]
  simp [List.getD, h2]
 exact .eref (g := g0 W) (o := 0) (off := 0) (fun j => cs.toList.getD j undef) (fun j hj => (⟨_, cell j hj⟩ : ∃ v, W.cell? ⟨g, 0 + j, none⟩ = some v)) (fun j hj => cell j hj) (fun j hj => (hr.2 j hj).1) fun j hj => (hr.2 j hj).2
end
end Go.Ab

namespace Go.Ab
noncomputable instance arInst : Ar where
 cmp := cmpI
 cmp_eq := fun _ _ _ => rfl
 ar := arI
 ar_eq := fun _ _ _ _ => rfl
 sh := shI
 sh_eq := fun _ _ _ _ => rfl
 neg := fun k n => k.wrap (0 - n)
 neg_eq := fun _ _ => rfl
 wr := fun k n => k.wrap n
 wr_eq := fun _ _ => rfl
 scmp := cmpS
 scmp_eq := fun _ _ _ => rfl
 cat := fun a b => a ++ b
 cat_eq := fun _ _ => rfl
 slen := fun s => s.size
 slen_eq := fun _ => rfl
 sat := fun s i => match s[i.toNat]? with | some b => (b.toNat : Int) | none => 0
 sat_eq := fun _ _ => rfl
 beq := fun a b => a == b
 beq_eq := fun _ _ => rfl
 nt := fun a => !a
 nt_eq := fun _ => rfl
 an := fun a b => a && b
 an_eq := fun _ _ => rfl
 or := fun a b => a || b
 or_eq := fun _ _ => rfl
 pk := fun c a b => if c then a else b
 pk_eq := fun _ _ _ => rfl
 mx := fun a b => if a < b then b else a
 mx_eq := fun _ _ => rfl
 mn := fun a b => if b < a then b else a
 mn_eq := fun _ _ => rfl
 ofs := fun a b => a + b
 ofs_eq := fun _ _ => rfl
 ofN := fun n => n
 ofN_eq := fun _ => rfl
 len := fun l => l.length
 len_eq := fun _ => rfl
 lst := fun f l => l.map f
 lst_eq := fun _ _ => rfl
end Go.Ab

namespace Go.Ab
mutual
def GExpr.bulk : GExpr → Nat
 | ⟨_, args, _, _, _, v⟩ => GExpr.bulks args + v.Text.size + 9
def GExpr.bulks : List GExpr → Nat
 | [] => 1
 | a :: r => GExpr.bulk a + GExpr.bulks r
end
mutual
def GPattern.bulk : GPattern → Nat
 | ⟨_, args, _, _, _, _, c⟩ => GPattern.bulks args + GExpr.bulk c + 6
def GPattern.bulks : List GPattern → Nat
 | [] => 1
 | a :: r => GPattern.bulk a + GPattern.bulks r
end
end Go.Ab

namespace Go.Ab
open Go.RowKit Go.ChangeShapes Go.WideShapes Go.Proofs Go.Proofs.YtfeppncgdbbbeaaGreatDoor
mutual
def encE : GExpr → V
 | ⟨op, args, var, field, kind, val⟩ => .agg [.int .i64 op, .sl (encEs args) .ro, .int .i64 var, .int .i64 field, .int .i64 kind, .int .i64 val.Kind, .int .i64 val.Num, .str val.Text]
def encEs : List GExpr → List V
 | [] => []
 | a :: r => encE a :: encEs r
end
theorem encEs_map : ∀ l : List GExpr, encEs l = l.map encE
 | [] => by simp [encEs]
 | a :: r => by simp [encEs, encEs_map r]
mutual
def encP : GPattern → V
 | ⟨op, args, typ, var, scope, span, c⟩ => .agg [.int .i64 op, .sl (encPs args) .ro, .int .i64 typ, .int .i64 var, .int .i64 scope, .int .i64 span, .int .i64 c.Op, .sl (c.Args.map encE) .ro, .int .i64 c.Var, .int .i64 c.Field, .int .i64 c.Kind, .int .i64 c.Value.Kind, .int .i64 c.Value.Num, .str c.Value.Text]
def encPs : List GPattern → List V
 | [] => []
 | a :: r => encP a :: encPs r
end
theorem encPs_map : ∀ l : List GPattern, encPs l = l.map encP
 | [] => by simp [encPs]
 | a :: r => by simp [encPs, encPs_map r]
noncomputable def encL (x : GLimit) : V := .agg [.int .i64 x.Scope, .int .i64 x.Span]
noncomputable instance encsInst : Encs where
 eGValue := fun x => .agg [.int .i64 x.Kind, .int .i64 x.Num, .str x.Text]
 eGValue_eq := fun _ => rfl
 eGExpr := encE
 eGExpr_eq := fun ⟨_, _, _, _, _, _⟩ => by simp only [encE, encEs_map]; rfl
 eGPattern := encP
 eGPattern_eq := fun ⟨_, _, _, _, _, _, _⟩ => by simp only [encP, encPs_map]; rfl
 eGLimit := encL
 eGLimit_eq := fun _ => rfl
 eGEdge := fun x => .agg [.int .i64 x.From, .int .i64 x.To, .int .i64 x.Var, .int .i64 x.Typ, .int .i64 x.Cond.Op, .sl (Ar.lst encE x.Cond.Args) .ro, .int .i64 x.Cond.Var, .int .i64 x.Cond.Field, .int .i64 x.Cond.Kind, .int .i64 x.Cond.Value.Kind, .int .i64 x.Cond.Value.Num, .str x.Cond.Value.Text, .sl (Ar.lst (V.int .i64) x.Opens) .ro, .sl (Ar.lst (V.int .i64) x.Closes) .ro, .sl (Ar.lst encE x.Checks) .ro, .sl (Ar.lst encL x.Limits) .ro, .sl (Ar.lst (V.int .i64) x.Inside) .ro]
 eGEdge_eq := fun _ => rfl
 eGGuard := fun x => .agg [.int .i64 x.Scope, .int .i64 x.Typ, .int .i64 x.Var, .int .i64 x.Cond.Op, .sl (Ar.lst encE x.Cond.Args) .ro, .int .i64 x.Cond.Var, .int .i64 x.Cond.Field, .int .i64 x.Cond.Kind, .int .i64 x.Cond.Value.Kind, .int .i64 x.Cond.Value.Num, .str x.Cond.Value.Text]
 eGGuard_eq := fun _ => rfl
 eGpattern_shape := fun x => .agg [.int .i64 x.least, .int .i64 x.most, .bool x.typed, .bool x.cond, .bool x.scope, .bool x.span]
 eGpattern_shape_eq := fun _ => rfl
 eGderivative_rest := fun x => .agg [.bool x.done, .int .i64 x.p.Op, .sl (Ar.lst encP x.p.Args) .ro, .int .i64 x.p.Typ, .int .i64 x.p.Var, .int .i64 x.p.Scope, .int .i64 x.p.Span, .int .i64 x.p.Cond.Op, .sl (Ar.lst encE x.p.Cond.Args) .ro, .int .i64 x.p.Cond.Var, .int .i64 x.p.Cond.Field, .int .i64 x.p.Cond.Kind, .int .i64 x.p.Cond.Value.Kind, .int .i64 x.p.Cond.Value.Num, .str x.p.Cond.Value.Text]
 eGderivative_rest_eq := fun _ => rfl
 eLGExpr := fun x => .sl (Ar.lst encE x) .ro
 eLGExpr_eq := fun _ => rfl
 eLI := fun x => .sl (Ar.lst (V.int .i64) x) .ro
 eLI_eq := fun _ => rfl
 eLGLimit := fun x => .sl (Ar.lst encL x) .ro
 eLGLimit_eq := fun _ => rfl
section
variable [Glob] {H : Type} {enc : TypeId × Value → H} {W : World} {base : Nat} {spare : Nat → Bool} {held : Bool}
noncomputable def fsOf (P : Program) (t : TypeId) : Array Field := match P.underlying t with | some (.struct fs) => fs | _ => #[]
theorem open_fld {P : Program} {t ty off sz : Nat} {xs : List (DataW H × List MemPlace)} {cs : List Value} {n : Nat} (hl : xs.length = (fsOf P t).size)
 (hf : ∀ (i : Nat) (f : Field), (fsOf P t)[i]? = some f → DataW.trod enc P W base spare held n f.type ((cs.drop f.offset).take (P.cellsOf f.type)) = xs[i]?) (i : Nat)
 (h : ((fsOf P t)[i]?.map fun f => (f.type, f.offset, P.cellsOf f.type)) = some (ty, off, sz)) : ∃ y, xs[i]? = some y ∧ DataW.trod enc P W base spare held n ty ((cs.drop off).take sz) = some y := by
 cases hi : (fsOf P t)[i]? with
 | none => rw [hi] at h; cases h
 | some f =>
  rw [hi] at h
  simp only [Option.map_some, Option.some.injEq, Prod.mk.injEq] at h
  obtain ⟨rfl, rfl, rfl⟩ := h
  exact field_some hl hf i hi
abbrev bk (d : DataW H) : Nat := Rows.uptoBulk d
theorem u3 : Tryz.prog.underlying 3 = some (.int .i64) := by kernel_rfl
theorem u9 : Tryz.prog.underlying 9 = some .string := by kernel_rfl
theorem u22 : Tryz.prog.underlying 22 = some (.slice 29) := by kernel_rfl
theorem u23 : Tryz.prog.underlying 23 = some (.slice 27) := by kernel_rfl
theorem u25 : Tryz.prog.underlying 25 = some (.struct (fsOf Tryz.prog 25)) := by kernel_rfl
theorem u27 : Tryz.prog.underlying 27 = some (.struct (fsOf Tryz.prog 27)) := by kernel_rfl
theorem u29 : Tryz.prog.underlying 29 = some (.struct (fsOf Tryz.prog 29)) := by kernel_rfl
theorem bks_exprs : ∀ (l : List GExpr) (ds : List (DataW H)), RL (fun a d => GExpr.bulk a ≤ bk d) l ds → GExpr.bulks l ≤ Rows.uptoBulkAll ds + 1
 | [], ds, h => by simp [GExpr.bulks]
 | a :: l, [], h => by have := h.1; simp at this
 | a :: l, d :: ds, h => by
  have h1 : GExpr.bulk a ≤ bk d := h.2 0 a d rfl rfl
  have h2 := bks_exprs l ds ⟨by simpa using h.1, fun i a d hi hd => h.2 (i + 1) a d (by simpa using hi) (by simpa using hd)⟩
  simp only [GExpr.bulks, Rows.uptoBulkAll]
  have h3 : bk d = Rows.uptoBulk d := rfl
  omega
theorem bks_patterns : ∀ (l : List GPattern) (ds : List (DataW H)), RL (fun a d => GPattern.bulk a ≤ bk d) l ds → GPattern.bulks l ≤ Rows.uptoBulkAll ds + 1
 | [], ds, h => by simp [GPattern.bulks]
 | a :: l, [], h => by have := h.1; simp at this
 | a :: l, d :: ds, h => by
  have h1 : GPattern.bulk a ≤ bk d := h.2 0 a d rfl rfl
  have h2 := bks_patterns l ds ⟨by simpa using h.1, fun i a d hi hd => h.2 (i + 1) a d (by simpa using hi) (by simpa using hd)⟩
  simp only [GPattern.bulks, Rows.uptoBulkAll]
  have h3 : bk d = Rows.uptoBulk d := rfl
  omega
theorem bs_exprs {l : List GExpr} {d : DataW H} (h : RS (fun a d => GExpr.bulk a ≤ bk d) l d) : GExpr.bulks l ≤ bk d := by
 obtain ⟨_, h⟩ := h
 rcases h with ⟨rfl, rfl⟩ | ⟨es, sp, rfl, h⟩
 ·simp [bk, Rows.uptoBulk, GExpr.bulks]
 have := bks_exprs l es h
 simp only [bk, Rows.uptoBulk]; omega
theorem bs_patterns {l : List GPattern} {d : DataW H} (h : RS (fun a d => GPattern.bulk a ≤ bk d) l d) : GPattern.bulks l ≤ bk d := by
 obtain ⟨_, h⟩ := h
 rcases h with ⟨rfl, rfl⟩ | ⟨es, sp, rfl, h⟩
 ·simp [bk, Rows.uptoBulk, GPattern.bulks]
 have := bks_patterns l es h
 simp only [bk, Rows.uptoBulk]; omega
theorem cellsT27 : Tryz.prog.cellsOf 27 = 8 := by kernel_rfl
theorem cellsT29 : Tryz.prog.cellsOf 29 = 14 := by kernel_rfl
theorem Opens.down {α : Type} {P : Program} {t : TypeId} {f : α → V} {R : α → DataW H → Prop} {n : Nat} (h : Opens enc P W base spare held t f R (n + 1)) : Opens enc P W base spare held t f R n := fun cs x hx => h cs x (DataW.trod_le (Nat.le_succ n) hx)
theorem list3 {β : Type} {xs : List β} {a b c : β} (hl : xs.length = 3) (h0 : xs[0]? = some a) (h1 : xs[1]? = some b) (h2 : xs[2]? = some c) : xs = [a, b, c] := by
 match xs, hl with
 | [x, y, z], _ => simp at h0 h1 h2; rw [h0, h1, h2]
theorem list6 {β : Type} {xs : List β} {a b c d e f : β} (hl : xs.length = 6) (h0 : xs[0]? = some a) (h1 : xs[1]? = some b) (h2 : xs[2]? = some c) (h3 : xs[3]? = some d) (h4 : xs[4]? = some e) (h5 : xs[5]? = some f) : xs = [a, b, c, d, e, f] := by
 match xs, hl with
 | [x, y, z, u, v, w], _ => simp at h0 h1 h2 h3 h4 h5; rw [h0, h1, h2, h3, h4, h5]
theorem list7 {β : Type} {xs : List β} {a b c d e f g : β} (hl : xs.length = 7) (h0 : xs[0]? = some a) (h1 : xs[1]? = some b) (h2 : xs[2]? = some c) (h3 : xs[3]? = some d) (h4 : xs[4]? = some e) (h5 : xs[5]? = some f) (h6 : xs[6]? = some g) : xs = [a, b, c, d, e, f, g] := by
 match xs, hl with
 | [x, y, z, u, v, w, q], _ => simp at h0 h1 h2 h3 h4 h5 h6; rw [h0, h1, h2, h3, h4, h5, h6]
theorem open_value (n : Nat) : Opens enc Tryz.prog W base spare held 25 Encs.eGValue (fun (a : GValue) d => a.Text.size + 4 ≤ bk d) n := by
 intro cs x h
 obtain ⟨xs, m, rfl, rfl, hcl, hl, hf⟩ := DataW.trod_struct u25 h
 obtain ⟨y0, k0, t0⟩ := open_fld hl hf 0 (ty := 3) (off := 0) (sz := 1) (by kernel_rfl)
 obtain ⟨y1, k1, t1⟩ := open_fld hl hf 1 (ty := 3) (off := 1) (sz := 1) (by kernel_rfl)
 obtain ⟨y2, k2, t2⟩ := open_fld hl hf 2 (ty := 9) (off := 2) (sz := 1) (by kernel_rfl)
 have hxs := list3 (hl.trans (by kernel_rfl)) k0 k1 k2
 obtain ⟨a0, r0, q0⟩ := opens_int u3 _ _ t0
 obtain ⟨a1, r1, q1⟩ := opens_int u3 _ _ t1
 obtain ⟨a2, r2, q2, _⟩ := opens_str u9 _ _ t2
 refine ⟨⟨a0, a1, a2⟩, ?_, ?_⟩
 ·have hc3 : cs.length = 3 := hcl.trans (by kernel_rfl)
  have := (r0.join r1).join r2
  rw [Encs.eGValue_eq]
  simpa [List.take_of_length_le, hc3, V.cells] using this
 rw [hxs]
 simp only [List.map_cons, List.map_nil, bk, Rows.uptoBulk, Rows.uptoBulkAll, q0, q1, q2]
 simp
 omega
theorem open_expr : ∀ n : Nat, Opens enc Tryz.prog W base spare held 27 Encs.eGExpr (fun (a : GExpr) d => GExpr.bulk a ≤ bk d) n := by
 intro n
 induction n with
 | zero => intro cs x h; simp [DataW.trod] at h
 | succ n ih =>
  intro cs x h
  obtain ⟨xs, m, hm, rfl, hcl, hl, hf⟩ := DataW.trod_struct u27 h
  cases hm
  obtain ⟨y0, k0, t0⟩ := open_fld hl hf 0 (ty := 3) (off := 0) (sz := 1) (by kernel_rfl)
  obtain ⟨y1, k1, t1⟩ := open_fld hl hf 1 (ty := 23) (off := 1) (sz := 1) (by kernel_rfl)
  obtain ⟨y2, k2, t2⟩ := open_fld hl hf 2 (ty := 3) (off := 2) (sz := 1) (by kernel_rfl)
  obtain ⟨y3, k3, t3⟩ := open_fld hl hf 3 (ty := 3) (off := 3) (sz := 1) (by kernel_rfl)
  obtain ⟨y4, k4, t4⟩ := open_fld hl hf 4 (ty := 3) (off := 4) (sz := 1) (by kernel_rfl)
  obtain ⟨y5, k5, t5⟩ := open_fld hl hf 5 (ty := 25) (off := 5) (sz := 3) (by kernel_rfl)
  have hxs := list6 (hl.trans (by kernel_rfl)) k0 k1 k2 k3 k4 k5
  obtain ⟨a0, r0, q0⟩ := opens_int u3 _ _ t0
  obtain ⟨a1, r1, q1⟩ : ∃ a1 : List GExpr, RowV (g0 W) W ((cs.drop 1).take 1) (V.sl (a1.map Encs.eGExpr) .ro).cells ∧ RS (fun (a : GExpr) d => GExpr.bulk a ≤ bk d) a1 y1.1 := by
   cases n with
   | zero => simp [DataW.trod] at t1
   | succ n => exact opens_slice u23 (by rw [cellsT27]; decide) ih.down _ _ t1
  obtain ⟨a2, r2, q2⟩ := opens_int u3 _ _ t2
  obtain ⟨a3, r3, q3⟩ := opens_int u3 _ _ t3
  obtain ⟨a4, r4, q4⟩ := opens_int u3 _ _ t4
  obtain ⟨a5, r5, q5⟩ := open_value _ _ _ t5
  refine ⟨⟨a0, a1, a2, a3, a4, a5⟩, ?_, ?_⟩
  ·have hc3 : cs.length = 8 := hcl.trans (by kernel_rfl)
   rw [Encs.eGValue_eq] at r5
   have := ((((r0.join r1).join r2).join r3).join r4).join r5
   rw [Encs.eGExpr_eq, Ar.lst_eq]
   simpa [List.take_of_length_le, hc3, V.cells] using this
  have hb := bs_exprs q1
  simp only [bk] at hb q5
  rw [hxs]
  simp only [List.map_cons, List.map_nil, bk, Rows.uptoBulk, Rows.uptoBulkAll, q0, q2, q3, q4, GExpr.bulk]
  omega
theorem open_pattern : ∀ n : Nat, Opens enc Tryz.prog W base spare held 29 Encs.eGPattern (fun (a : GPattern) d => GPattern.bulk a ≤ bk d) n := by
 intro n
 induction n with
 | zero => intro cs x h; simp [DataW.trod] at h
 | succ n ih =>
  intro cs x h
  obtain ⟨xs, m, hm, rfl, hcl, hl, hf⟩ := DataW.trod_struct u29 h
  cases hm
  obtain ⟨y0, k0, t0⟩ := open_fld hl hf 0 (ty := 3) (off := 0) (sz := 1) (by kernel_rfl)
  obtain ⟨y1, k1, t1⟩ := open_fld hl hf 1 (ty := 22) (off := 1) (sz := 1) (by kernel_rfl)
  obtain ⟨y2, k2, t2⟩ := open_fld hl hf 2 (ty := 3) (off := 2) (sz := 1) (by kernel_rfl)
  obtain ⟨y3, k3, t3⟩ := open_fld hl hf 3 (ty := 3) (off := 3) (sz := 1) (by kernel_rfl)
  obtain ⟨y4, k4, t4⟩ := open_fld hl hf 4 (ty := 3) (off := 4) (sz := 1) (by kernel_rfl)
  obtain ⟨y5, k5, t5⟩ := open_fld hl hf 5 (ty := 3) (off := 5) (sz := 1) (by kernel_rfl)
  obtain ⟨y6, k6, t6⟩ := open_fld hl hf 6 (ty := 27) (off := 6) (sz := 8) (by kernel_rfl)
  have hxs := list7 (hl.trans (by kernel_rfl)) k0 k1 k2 k3 k4 k5 k6
  obtain ⟨a0, r0, q0⟩ := opens_int u3 _ _ t0
  obtain ⟨a1, r1, q1⟩ : ∃ a1 : List GPattern, RowV (g0 W) W ((cs.drop 1).take 1) (V.sl (a1.map Encs.eGPattern) .ro).cells ∧ RS (fun (a : GPattern) d => GPattern.bulk a ≤ bk d) a1 y1.1 := by
   cases n with
   | zero => simp [DataW.trod] at t1
   | succ n => exact opens_slice u22 (by rw [cellsT29]; decide) ih.down _ _ t1
  obtain ⟨a2, r2, q2⟩ := opens_int u3 _ _ t2
  obtain ⟨a3, r3, q3⟩ := opens_int u3 _ _ t3
  obtain ⟨a4, r4, q4⟩ := opens_int u3 _ _ t4
  obtain ⟨a5, r5, q5⟩ := opens_int u3 _ _ t5
  obtain ⟨a6, r6, q6⟩ := open_expr _ _ _ t6
  refine ⟨⟨a0, a1, a2, a3, a4, a5, a6⟩, ?_, ?_⟩
  ·have hc3 : cs.length = 14 := hcl.trans (by kernel_rfl)
   rw [Encs.eGExpr_eq] at r6
   have := (((((r0.join r1).join r2).join r3).join r4).join r5).join r6
   rw [Encs.eGPattern_eq, Ar.lst_eq]
   simpa [List.take_of_length_le, hc3, V.cells] using this
  have hb := bs_patterns q1
  simp only [bk] at hb q6
  rw [hxs]
  simp only [List.map_cons, List.map_nil, bk, Rows.uptoBulk, Rows.uptoBulkAll, q0, q2, q3, q4, q5, GPattern.bulk]
  omega
end
end Go.Ab

namespace Go.Ab
open Go.RowKit Go.ChangeShapes Go.WideShapes Go.ChangeAt Go.Proofs Go.Proofs.YtfeppncgdbbbeaaGreatDoor
set_option maxRecDepth 100000
section
variable {H : Type} {enc : TypeId × Value → H} {W : World} {base : Nat} {spare : Nat → Bool} {held : Bool}
theorem u4 : Tryz.prog.underlying 4 = some .bool := by kernel_rfl
theorem u83 : Tryz.prog.underlying 83 = some (.array tab_pattern_shapes.length 82) := by kernel_rfl
theorem u82 : Tryz.prog.underlying 82 = some (.struct (fsOf Tryz.prog 82)) := by kernel_rfl
theorem open_shape (n : Nat) : Opens enc Tryz.prog W base spare held 82 Encs.eGpattern_shape (fun (a : Gpattern_shape) d => d = .agg [.lit (.int .i64 a.least), .lit (.int .i64 a.most), .lit (.bool a.typed), .lit (.bool a.cond), .lit (.bool a.scope), .lit (.bool a.span)]) n := by
 intro cs x h
 obtain ⟨xs, m, rfl, rfl, hcl, hl, hf⟩ := DataW.trod_struct u82 h
 obtain ⟨y0, k0, t0⟩ := open_fld hl hf 0 (ty := 3) (off := 0) (sz := 1) (by kernel_rfl)
 obtain ⟨y1, k1, t1⟩ := open_fld hl hf 1 (ty := 3) (off := 1) (sz := 1) (by kernel_rfl)
 obtain ⟨y2, k2, t2⟩ := open_fld hl hf 2 (ty := 4) (off := 2) (sz := 1) (by kernel_rfl)
 obtain ⟨y3, k3, t3⟩ := open_fld hl hf 3 (ty := 4) (off := 3) (sz := 1) (by kernel_rfl)
 obtain ⟨y4, k4, t4⟩ := open_fld hl hf 4 (ty := 4) (off := 4) (sz := 1) (by kernel_rfl)
 obtain ⟨y5, k5, t5⟩ := open_fld hl hf 5 (ty := 4) (off := 5) (sz := 1) (by kernel_rfl)
 have hxs := list6 (hl.trans (by kernel_rfl)) k0 k1 k2 k3 k4 k5
 obtain ⟨a0, r0, q0⟩ := opens_int u3 _ _ t0
 obtain ⟨a1, r1, q1⟩ := opens_int u3 _ _ t1
 obtain ⟨a2, r2, q2⟩ := opens_bool u4 _ _ t2
 obtain ⟨a3, r3, q3⟩ := opens_bool u4 _ _ t3
 obtain ⟨a4, r4, q4⟩ := opens_bool u4 _ _ t4
 obtain ⟨a5, r5, q5⟩ := opens_bool u4 _ _ t5
 refine ⟨⟨a0, a1, a2, a3, a4, a5⟩, ?_, ?_⟩
 ·have hc3 : cs.length = 6 := hcl.trans (by kernel_rfl)
  have := ((((r0.join r1).join r2).join r3).join r4).join r5
  rw [Encs.eGpattern_shape_eq]
  simpa [List.take_of_length_le, hc3, V.cells] using this
 rw [hxs]
 simp only [List.map_cons, List.map_nil, q0, q1, q2, q3, q4, q5]
theorem shapes_eq : ∀ (l k : List Gpattern_shape), (RL (H := H) (fun (a : Gpattern_shape) d => d = .agg [.lit (.int .i64 a.least), .lit (.int .i64 a.most), .lit (.bool a.typed), .lit (.bool a.cond), .lit (.bool a.scope), .lit (.bool a.span)]) l
 (k.map fun a => .agg [.lit (.int .i64 a.least), .lit (.int .i64 a.most), .lit (.bool a.typed), .lit (.bool a.cond), .lit (.bool a.scope), .lit (.bool a.span)])) → l = k
 | [], [], _ => rfl
 | [], _ :: _, h => by have := h.1; simp at this
 | _ :: _, [], h => by have := h.1; simp at this
 | a :: l, b :: k, h => by
  have h0 := h.2 0 a _ rfl rfl
  have h1 := shapes_eq l k ⟨by simpa using h.1, fun i a d hi hd => h.2 (i + 1) a d (by simpa using hi) (by simpa using hd)⟩
  subst h1
  obtain ⟨a0, a1, a2, a3, a4, a5⟩ := a
  obtain ⟨b0, b1, b2, b3, b4, b5⟩ := b
  simp at h0
  simp [h0]
theorem laid_shapes (h : laidMetH Tryz.prog Rows.derivativeNestsRow.laid W) : VR (g0 W) W (.pointer (some ⟨0, 0, none⟩)) (Glob.gl 0) := by
 have h' : laidMet Tryz.prog Rows.derivativeNestsRow.laid W := h
 obtain ⟨ps, ⟨g', t', cs, fuel, p, q, hg', ht', hvar, hd, _, _⟩, _⟩ := h'
 obtain rfl : g' = 0 := Option.some.inj (hg'.symm.trans (by kernel_rfl))
 obtain rfl : t' = 83 := Option.some.inj (ht'.symm.trans (by kernel_rfl))
 obtain ⟨l, hr, ds, hds, hl⟩ := opens_array u83 (by kernel_rfl) (by decide) (fun n => open_shape n) hd
 have e : ds = tab_pattern_shapes.map fun a => .agg [.lit (.int .i64 a.least), .lit (.int .i64 a.most), .lit (.bool a.typed), .lit (.bool a.cond), .lit (.bool a.scope), .lit (.bool a.span)] := by
  have e2 : (Rows.laid_tidegate_pattern_shapes : DataW Unit) = .agg ds := hds
  have e3 : (Rows.laid_tidegate_pattern_shapes : DataW Unit) = .agg (tab_pattern_shapes.map fun a => .agg [.lit (.int .i64 a.least), .lit (.int .i64 a.most), .lit (.bool a.typed), .lit (.bool a.cond), .lit (.bool a.scope), .lit (.bool a.span)]) := rfl
  rw [e3] at e2
  exact (DataW.agg.inj e2).symm
 subst e
 obtain rfl := shapes_eq _ _ hl
 exact glob_of_row hg' hvar hr
theorem globs0 (h : laidMetH Tryz.prog Rows.derivativeNestsRow.laid W) : ∀ n, VR (g0 W) W (.pointer (some ⟨n, 0, none⟩)) (Glob.gl n)
 | 0 => laid_shapes h
 | _ + 1 => .bad _
end
theorem law_run {f : FuncId} {W : World} {base : Nat} {H : Type} {enc : TypeId × Value → H} (hL : laidMetH Tryz.prog Rows.derivativeNestsRow.laid W) (hcall : ∀ vals w, (callFunc f vals).run Tryz.prog w = .ok (.enter f vals) w)
 (law : ∀ x : GPattern, x.bulk ≤ 1048576 → CallP Tryz.prog f [Encs.eGPattern x] (.bool true)) {v0 : Value} {d0 : DataW H} {p0 : List MemPlace} (hv : Value.okWide Tryz.prog W .any base 29 v0)
 (h0 : DataW.Trod enc Tryz.prog W 0 (fun _ => true) true 29 v0 d0 p0) (hb : Rows.uptoBulk d0 ≤ 1048576) :
 Calls Tryz.prog f #[v0] W fun e W' => e = .returned (.bool true) ∧ Below W.heap.size W W' := by
 obtain ⟨fuel, ht⟩ := h0
 obtain ⟨cs, rfl, hcs⟩ := okWide_struct u29 hv
 obtain ⟨x, hr, hx⟩ := open_pattern fuel _ _ ht
 have hr' : RowV (g0 W) W cs.toList (Encs.eGPattern x).cells := hr
 have hV : VR (g0 W) W (.agg cs) (Encs.eGPattern x) := by
  have := hr'.agg
  rw [Encs.eGPattern_eq] at this ⊢
  exact this
 have hc := law x (Nat.le_trans hx hb) (fun _ => none) (g0 W) W #[.agg cs] (rl0 (globs0 hL)) ⟨rfl, fun i hi => by
  have : i = 0 := by simpa using hi
  subst this; exact hV⟩
 rw [hcall] at hc
 refine (callsIn_wide.1 hc).mono fun e W' ⟨v, he, g', y, H', hs, hR, hvy, hy, _⟩ => ?_
 subst hy
 cases hvy
 exact ⟨he, hs.low⟩
end Go.Ab

namespace Go.Ab
theorem cmp_lss (a b : Int) : Ar.cmp .lss a b = decide (a < b) := rfl
theorem cmp_leq (a b : Int) : Ar.cmp .leq a b = decide (a ≤ b) := rfl
theorem cmp_gtr (a b : Int) : Ar.cmp .gtr a b = decide (b < a) := rfl
theorem cmp_geq (a b : Int) : Ar.cmp .geq a b = decide (b ≤ a) := rfl
theorem cmp_eql (a b : Int) : Ar.cmp .eql a b = decide (a = b) := rfl
theorem cmp_neq (a b : Int) : Ar.cmp .neq a b = !decide (a = b) := rfl
theorem nt_def (a : Bool) : Ar.nt a = !a := rfl
theorem an_def (a b : Bool) : Ar.an a b = (a && b) := rfl
theorem or_def (a b : Bool) : Ar.or a b = (a || b) := rfl
theorem len_def {α : Type} (l : List α) : Ar.len l = (l.length : Int) := rfl
theorem mx_def (a b : Int) : Ar.mx a b = if a < b then b else a := rfl
theorem slen_def (s : ByteArray) : Ar.slen s = (s.size : Int) := rfl
theorem wrap_i64 {n : Int} (h0 : -9223372036854775808 ≤ n) (h1 : n < 9223372036854775808) : IntKind.wrap .i64 n = n := by
 have e : IntKind.wrap .i64 n = (if n % 18446744073709551616 ≥ 9223372036854775808 then n % 18446744073709551616 - 18446744073709551616 else n % 18446744073709551616) := by
  unfold IntKind.wrap
  simp [IntKind.bits, IntKind.signed]
 rw [e]
 split <;> omega
theorem add_i64 {a b : Int} (h0 : -9223372036854775808 ≤ a + b) (h1 : a + b < 9223372036854775808) : Ar.ar .add .i64 a b = a + b := wrap_i64 h0 h1
theorem loop_places {S σ R α : Type} (l : List α) (hl : l.length < 1000000000000) (step : S → Option (S ⊕ R)) (mk : σ → Int → S) (body : σ → α → Option (σ ⊕ R)) (fin : σ → R)
 (hstep : ∀ s (i : Nat) x, l[i]? = some x → step (mk s i) = (body s x).bind fun o => match o with | .inl s' => some (.inl (mk s' (i + 1))) | .inr r => some (.inr r))
 (hend : ∀ s, step (mk s l.length) = some (.inr (fin s))) :
 ∀ (k : Nat) (i : Nat) (s : σ) (N : Nat), i + k = l.length → k < N → loopN step N (mk s i) = (rangeL body (l.drop i) s).bind fun o => match o with | .inl s => some (fin s) | .inr r => some r := by
 intro k
 induction k with
 | zero =>
  intro i s N hi hN
  obtain ⟨N, rfl⟩ : ∃ M, N = M + 1 := ⟨N - 1, by omega⟩
  have e : l.drop i = [] := List.drop_eq_nil_of_le (by omega)
  have ei : ((i : Nat) : Int) = l.length := by omega
  rw [e, ei]
  simp only [loopN, hend, rangeL, Option.bind_some]
 | succ k ih =>
  intro i s N hi hN
  obtain ⟨N, rfl⟩ : ∃ M, N = M + 1 := ⟨N - 1, by omega⟩
  have hlt : i < l.length := by omega
  have hx : l[i]? = some l[i] := by simp [hlt]
  have e : l.drop i = l[i] :: l.drop (i + 1) := List.drop_eq_getElem_cons hlt
  rw [e]
  simp only [loopN, hstep s i _ hx, rangeL]
  cases hb : body s l[i] with
  | none => rfl
  | some o =>
   cases o with
   | inl s' =>
    simp only [Option.bind_some]
    have := ih (i + 1) s' N (by omega) (by omega)
    rw [show ((i : Int) + 1) = ((i + 1 : Nat) : Int) by omega]
    exact this
   | inr r => rfl
theorem idx_at {α : Type} {l : List α} {i : Nat} : idxL l (i : Int) = l[i]? := by simp [idxL]
theorem loopE_places {β S σ R α : Type} (l : List α) (step : S → Option (List β × (S ⊕ R))) (mk : σ → Int → S) (body : σ → α → Option (List β × (σ ⊕ R))) (fin : σ → R)
 (hstep : ∀ s (i : Nat) x, l[i]? = some x → step (mk s i) = (body s x).bind fun o => match o with | (w, .inl s') => some (w, .inl (mk s' (i + 1))) | (w, .inr r) => some (w, .inr r))
 (hend : ∀ s, step (mk s l.length) = some ([], .inr (fin s))) :
 ∀ (k : Nat) (i : Nat) (s : σ) (N : Nat), i + k = l.length → k < N → loopE step N (mk s i) = (rangeE body (l.drop i) s).bind fun o => match o with | (w, .inl s) => some (w, fin s) | (w, .inr r) => some (w, r) := by
 intro k
 induction k with
 | zero =>
  intro i s N hi hN
  obtain ⟨N, rfl⟩ : ∃ M, N = M + 1 := ⟨N - 1, by omega⟩
  have e : l.drop i = [] := List.drop_eq_nil_of_le (by omega)
  have ei : ((i : Nat) : Int) = l.length := by omega
  rw [e, ei]
  simp only [loopE, hend, rangeE, Option.bind_some]
 | succ k ih =>
  intro i s N hi hN
  obtain ⟨N, rfl⟩ : ∃ M, N = M + 1 := ⟨N - 1, by omega⟩
  have hlt : i < l.length := by omega
  have hx : l[i]? = some l[i] := by simp [hlt]
  have e : l.drop i = l[i] :: l.drop (i + 1) := List.drop_eq_getElem_cons hlt
  rw [e]
  simp only [loopE, hstep s i _ hx, rangeE]
  cases hb : body s l[i] with
  | none => rfl
  | some o =>
   obtain ⟨w, o⟩ := o
   cases o with
   | inl s' =>
    simp only [Option.bind_some]
    have := ih (i + 1) s' N (by omega) (by omega)
    rw [show ((i : Int) + 1) = ((i + 1 : Nat) : Int) by omega, this]
    cases hr : rangeE body (l.drop (i + 1)) s' with
    | none => rfl
    | some q =>
     obtain ⟨w', o'⟩ := q
     cases o' <;> rfl
   | inr r => rfl
theorem loop_list {S σ R α : Type} (l : List α) (hl : l.length < 1000000000000) {step : S → Option (S ⊕ R)} (mk : σ → Int → S) (body : σ → α → Option (σ ⊕ R)) (fin : σ → R) (s : σ) {N : Nat} (hN : l.length < N)
 (hstep : ∀ s (i : Nat) x, l[i]? = some x → (i : Int) < l.length → step (mk s i) = (body s x).bind fun o => match o with | .inl s' => some (.inl (mk s' (i + 1))) | .inr r => some (.inr r))
 (hend : ∀ s, step (mk s l.length) = some (.inr (fin s))) : loopN step N (mk s 0) = (rangeL body l s).bind fun o => match o with | .inl s => some (fin s) | .inr r => some r := by
 have := loop_places l hl step mk body fin (fun s i x h => hstep s i x h (by
  rcases Nat.lt_or_ge i l.length with h' | h'
  ·omega
  rw [List.getElem?_eq_none h'] at h; cases h)) hend l.length 0 s N (by omega) hN
 simpa using this
theorem loopE_list {β S σ R α : Type} (l : List α) {step : S → Option (List β × (S ⊕ R))} (mk : σ → Int → S) (body : σ → α → Option (List β × (σ ⊕ R))) (fin : σ → R) (s : σ) {N : Nat} (hN : l.length < N)
 (hstep : ∀ s (i : Nat) x, l[i]? = some x → (i : Int) < l.length → step (mk s i) = (body s x).bind fun o => match o with | (w, .inl s') => some (w, .inl (mk s' (i + 1))) | (w, .inr r) => some (w, .inr r))
 (hend : ∀ s, step (mk s l.length) = some ([], .inr (fin s))) : loopE step N (mk s 0) = (rangeE body l s).bind fun o => match o with | (w, .inl s) => some (w, fin s) | (w, .inr r) => some (w, r) := by
 have := loopE_places l step mk body fin (fun s i x h => hstep s i x h (by
  rcases Nat.lt_or_ge i l.length with h' | h'
  ·omega
  rw [List.getElem?_eq_none h'] at h; cases h)) hend l.length 0 s N (by omega) hN
 simpa using this
theorem range_run {α σ R : Type} {step : σ → α → Option (σ ⊕ R)} (I : List α → σ → Prop) (hs : ∀ x r s, I (x :: r) s → ∃ s', step s x = some (.inl s') ∧ I r s') : ∀ {l : List α} {s : σ}, I l s → ∃ s', rangeL step l s = some (.inl s') ∧ I [] s'
 | [], s, h => ⟨s, rfl, h⟩
 | x :: l, s, h => by
  obtain ⟨s', h1, h2⟩ := hs x l s h
  obtain ⟨s2, h3, h4⟩ := range_run I hs h2
  exact ⟨s2, by simp only [rangeL, h1, h3], h4⟩
theorem rangeE_run {α β σ R : Type} {step : σ → α → Option (List β × (σ ⊕ R))} (I : List α → List β → σ → Prop) (hs : ∀ x r w s, I (x :: r) w s → ∃ w' s', step s x = some (w', .inl s') ∧ I r (w ++ w') s') :
 ∀ {l : List α} {w : List β} {s : σ}, I l w s → ∃ w' s', rangeE step l s = some (w', .inl s') ∧ I [] (w ++ w') s'
 | [], w, s, h => ⟨[], s, rfl, by simpa using h⟩
 | x :: l, w, s, h => by
  obtain ⟨w1, s1, h1, h2⟩ := hs x l w s h
  obtain ⟨w2, s2, h3, h4⟩ := rangeE_run I hs h2
  exact ⟨w1 ++ w2, s2, by simp only [rangeE, h1, h3], by rw [← List.append_assoc]; exact h4⟩
def bad1 {α : Type} (f : α → Int) : List α → Int
 | [] => 0
 | x :: l => if f x = 0 then bad1 f l else f x
theorem bad1_zero {α : Type} {f : α → Int} : ∀ {l : List α}, bad1 f l = 0 ↔ ∀ x ∈ l, f x = 0
 | [] => by simp [bad1]
 | x :: l => by
  unfold bad1
  split
  ·rename_i h; rw [bad1_zero]; simp [h]
  rename_i h; simp [h]
theorem bad1_append {α : Type} {f : α → Int} : ∀ {l m : List α}, bad1 f (l ++ m) = if bad1 f l = 0 then bad1 f m else bad1 f l
 | [], m => by simp [bad1]
 | x :: l, m => by
  simp only [List.cons_append, bad1]
  split
  ·rw [bad1_append]
  rename_i h; simp [h]
theorem range_bad {α : Type} {F : α → Option Int} {f : α → Int} : ∀ {l : List α}, (∀ x ∈ l, F x = some (f x)) →
 rangeL (fun (_ : Unit) x => (F x).bind fun r => if Ar.cmp .neq r 0 = true then some (Sum.inr r) else some (.inl ())) l () = some (if bad1 f l = 0 then .inl () else .inr (bad1 f l))
 | [], _ => rfl
 | x :: l, h => by
  have h1 := range_bad (l := l) fun y hy => h y (by simp [hy])
  unfold rangeL
  simp only [h x (by simp), Option.bind_some, cmp_neq, bad1]
  by_cases hz : f x = 0
  ·simp only [hz, decide_true, Bool.not_true, Bool.false_eq_true, if_false, if_true]
   simpa only [cmp_neq] using h1
  simp [hz]
noncomputable def stepBad {α : Type} (F : α → Option Int) (_ : Unit) (a : α) : Option (Unit ⊕ (Unit ⊕ Int)) := (F a).bind fun r => if Ar.cmp .neq r 0 = true then some (.inr (.inr r)) else some (.inl ())
theorem range_stepBad {α : Type} {F : α → Option Int} {f : α → Int} : ∀ {l : List α}, (∀ x ∈ l, F x = some (f x)) → rangeL (stepBad F) l () = some (if bad1 f l = 0 then .inl () else .inr (.inr (bad1 f l)))
 | [], _ => rfl
 | x :: l, h => by
  have h1 := range_stepBad (l := l) fun y hy => h y (by simp [hy])
  unfold rangeL stepBad
  simp only [h x (by simp), Option.bind_some, cmp_neq, bad1]
  by_cases hz : f x = 0
  ·simp only [hz, decide_true, Bool.not_true, Bool.false_eq_true, if_false, if_true]
   exact h1
  simp [hz]
end Go.Ab

namespace Go.Ab
mutual
def GExpr.pre : GExpr → List GExpr
 | ⟨op, args, var, field, kind, val⟩ => ⟨op, args, var, field, kind, val⟩ :: GExpr.pres args
def GExpr.pres : List GExpr → List GExpr
 | [] => []
 | a :: r => GExpr.pre a ++ GExpr.pres r
end
mutual
def GExpr.dep : GExpr → Nat
 | ⟨_, args, _, _, _, _⟩ => GExpr.deps args + 1
def GExpr.deps : List GExpr → Nat
 | [] => 0
 | a :: r => max (GExpr.dep a) (GExpr.deps r)
end
mutual
def GPattern.pre : GPattern → List GPattern
 | ⟨op, args, typ, var, scope, span, c⟩ => ⟨op, args, typ, var, scope, span, c⟩ :: GPattern.pres args
def GPattern.pres : List GPattern → List GPattern
 | [] => []
 | a :: r => GPattern.pre a ++ GPattern.pres r
end
mutual
def GPattern.dep : GPattern → Nat
 | ⟨_, args, _, _, _, _, _⟩ => GPattern.deps args + 1
def GPattern.deps : List GPattern → Nat
 | [] => 0
 | a :: r => max (GPattern.dep a) (GPattern.deps r)
end
theorem GExpr.pre_eq (x : GExpr) : x.pre = x :: GExpr.pres x.Args := by cases x; simp [GExpr.pre]
theorem GPattern.pre_eq (x : GPattern) : x.pre = x :: GPattern.pres x.Args := by cases x; simp [GPattern.pre]
theorem GExpr.dep_eq (x : GExpr) : x.dep = GExpr.deps x.Args + 1 := by cases x; simp [GExpr.dep]
theorem GPattern.dep_eq (x : GPattern) : x.dep = GPattern.deps x.Args + 1 := by cases x; simp [GPattern.dep]
theorem GExpr.bulk_eq (x : GExpr) : x.bulk = GExpr.bulks x.Args + x.Value.Text.size + 9 := by cases x; simp [GExpr.bulk]
theorem GPattern.bulk_eq (x : GPattern) : x.bulk = GPattern.bulks x.Args + x.Cond.bulk + 6 := by cases x; simp [GPattern.bulk]
theorem bulks_e : ∀ (l : List GExpr), (∀ a ∈ l, GExpr.bulk a ≤ GExpr.bulks l) ∧ l.length ≤ GExpr.bulks l
 | [] => ⟨fun a h => by simp at h, by simp [GExpr.bulks]⟩
 | b :: l => by
  have h := bulks_e l
  have hb := GExpr.bulk_eq b
  simp only [GExpr.bulks, List.length_cons]
  refine ⟨fun a ha => ?_, by omega⟩
  rcases List.mem_cons.1 ha with rfl | ha
  ·omega
  have := h.1 a ha; omega
theorem bulks_p : ∀ (l : List GPattern), (∀ a ∈ l, GPattern.bulk a ≤ GPattern.bulks l) ∧ l.length ≤ GPattern.bulks l
 | [] => ⟨fun a h => by simp at h, by simp [GPattern.bulks]⟩
 | b :: l => by
  have h := bulks_p l
  have hb := GPattern.bulk_eq b
  simp only [GPattern.bulks, List.length_cons]
  refine ⟨fun a ha => ?_, by omega⟩
  rcases List.mem_cons.1 ha with rfl | ha
  ·omega
  have := h.1 a ha; omega
mutual
theorem pre_bulk_e : ∀ x : GExpr, x.pre.length ≤ x.bulk
 | ⟨op, args, var, field, kind, val⟩ => by
  have := pres_bulk_e args
  simp only [GExpr.pre, GExpr.bulk, List.length_cons]; omega
theorem pres_bulk_e : ∀ l : List GExpr, (GExpr.pres l).length ≤ GExpr.bulks l
 | [] => by simp [GExpr.pres]
 | a :: l => by
  have h1 := pre_bulk_e a
  have h2 := pres_bulk_e l
  simp only [GExpr.pres, GExpr.bulks, List.length_append]; omega
end
mutual
theorem pre_bulk_p : ∀ x : GPattern, x.pre.length ≤ x.bulk
 | ⟨op, args, typ, var, scope, span, c⟩ => by
  have := pres_bulk_p args
  simp only [GPattern.pre, GPattern.bulk, List.length_cons]; omega
theorem pres_bulk_p : ∀ l : List GPattern, (GPattern.pres l).length ≤ GPattern.bulks l
 | [] => by simp [GPattern.pres]
 | a :: l => by
  have h1 := pre_bulk_p a
  have h2 := pres_bulk_p l
  simp only [GPattern.pres, GPattern.bulks, List.length_append]; omega
end
mutual
theorem dep_bulk_e : ∀ x : GExpr, x.dep ≤ x.bulk
 | ⟨op, args, var, field, kind, val⟩ => by
  have := deps_bulk_e args
  simp only [GExpr.dep, GExpr.bulk]; omega
theorem deps_bulk_e : ∀ l : List GExpr, GExpr.deps l ≤ GExpr.bulks l
 | [] => by simp [GExpr.deps]
 | a :: l => by
  have h1 := dep_bulk_e a
  have h2 := deps_bulk_e l
  simp only [GExpr.deps, GExpr.bulks]; omega
end
mutual
theorem dep_bulk_p : ∀ x : GPattern, x.dep ≤ x.bulk
 | ⟨op, args, typ, var, scope, span, c⟩ => by
  have := deps_bulk_p args
  simp only [GPattern.dep, GPattern.bulk]; omega
theorem deps_bulk_p : ∀ l : List GPattern, GPattern.deps l ≤ GPattern.bulks l
 | [] => by simp [GPattern.deps]
 | a :: l => by
  have h1 := dep_bulk_p a
  have h2 := deps_bulk_p l
  simp only [GPattern.deps, GPattern.bulks]; omega
end
def Cut (lim : Int) (cnt : Nat) (r : Int) : Prop := 1 ≤ r ∧ r ≤ cnt ∧ (r = cnt ∨ lim < r)
section
variable {α : Type}
theorem range_count {lim : Int} {f : α → Option Int} {cnt : α → Nat} {B : Nat} (hB : B ≤ 1000000000000) : ∀ (l : List α) (s : Int), 0 ≤ s → s + (l.map cnt).sum ≤ B → (∀ a ∈ l, ∃ r, f a = some r ∧ Cut lim (cnt a) r) →
 ∃ o, rangeL (fun (s : Int) x => if s ≤ lim then (f x).bind fun r => some (.inl (Ar.ar .add .i64 s r)) else some (.inr s)) l s = some o ∧
  ∃ v, v = (match o with | .inl s => s | .inr s => s) ∧ s ≤ v ∧ v ≤ s + (l.map cnt).sum ∧ (v = s + (l.map cnt).sum ∨ lim < v)
 | [], s, h0, _, _ => ⟨.inl s, rfl, s, rfl, Int.le_refl _, by simp, .inl (by simp)⟩
 | a :: l, s, h0, hb, hf => by
  simp only [List.map_cons, List.sum_cons] at hb ⊢
  unfold rangeL
  by_cases hs : s ≤ lim
  ·obtain ⟨r, h1, h2, h3, h4⟩ := hf a (by simp)
   simp only [if_pos hs, h1, Option.bind_some]
   have e : Ar.ar .add .i64 s r = s + r := add_i64 (by omega) (by omega)
   rw [e]
   obtain ⟨o, k1, v, k2, k3, k4, k5⟩ := range_count hB l (s + r) (by omega) (by omega) fun b hb => hf b (by simp [hb])
   refine ⟨o, k1, v, k2, by omega, by omega, ?_⟩
   rcases k5 with k5 | k5
   ·rcases h4 with h4 | h4
    ·left; omega
    right; omega
   exact .inr k5
  simp only [if_neg hs]
  exact ⟨_, rfl, s, rfl, Int.le_refl _, by omega, .inr (by omega)⟩
end
theorem sum_pres_p : ∀ l : List GPattern, (l.map fun a => a.pre.length).sum = (GPattern.pres l).length
 | [] => rfl
 | a :: l => by simp [GPattern.pres, sum_pres_p l]
theorem sum_pres_e : ∀ l : List GExpr, (l.map fun a => a.pre.length).sum = (GExpr.pres l).length
 | [] => rfl
 | a :: l => by simp [GExpr.pres, sum_pres_e l]
theorem total_eq {N : Nat} (hN : 40000000 ≤ N) (lim : Int) : ∀ (n : Nat) (x : GPattern), x.bulk ≤ n → x.bulk ≤ 16777216 → ∃ r, ref09_Total N n x lim = some r ∧ Cut lim x.pre.length r := by
 intro n
 induction n with
 | zero => intro x h; have := GPattern.bulk_eq x; omega
 | succ n ih =>
  intro x hx hb
  have hxb := GPattern.bulk_eq x
  have hB := bulks_p x.Args
  have hpb := pres_bulk_p x.Args
  unfold ref09_Total
  rw [loop_list x.Args (by omega) (mk := fun (s : Int) i => (s, i)) (body := fun (s : Int) a => if s ≤ lim then (ref09_Total N n a lim).bind fun r => some (.inl (Ar.ar .add .i64 s r)) else some (.inr s)) (fin := fun s => s) (s := 1) (by omega) ?_ ?_]
  ·obtain ⟨o, k1, v, k2, k3, k4, k5⟩ := range_count (lim := lim) (f := fun a => ref09_Total N n a lim) (cnt := fun a => a.pre.length) (B := 40000000) (by omega) x.Args 1 (by omega) (by rw [sum_pres_p]; omega) fun a ha => ih a (by have := hB.1 a ha; omega) (by have := hB.1 a ha; omega)
   rw [sum_pres_p] at k4 k5
   have hpe : x.pre.length = (GPattern.pres x.Args).length + 1 := by rw [GPattern.pre_eq]; rfl
   simp only [k1, Option.bind_some]
   refine ⟨v, ?_, by omega, by omega, ?_⟩
   ·cases o <;> simp_all
   rcases k5 with k5 | k5
   ·left; omega
   right; exact k5
  ·intro s i a ha hi
   have e : Ar.ar .add .i64 (i : Int) 1 = i + 1 := add_i64 (by omega) (by omega)
   simp only [cmp_lss, cmp_leq, an_def, len_def, hi, decide_true, Bool.true_and, idx_at, ha, Option.bind_some, e, decide_eq_true_eq]
   split
   ·cases ref09_Total N n a lim <;> rfl
   rfl
  intro s
  simp [cmp_lss, an_def, len_def]
end Go.Ab

