/- AbM1 GYIn GYL1 -/
import Derived.Test.YtildiiggamckaaaGreatDoorT40
import Derived.Test.YtildiiggamckaaaGreatDoorT25
import Derived.Test.YtildiiggamckaaaGreatDoorT31
import Derived.Test.YtildiiggamckaaaGreatDoorRows
import Derived.WalkKit
import Derived.ProofKit
import Derived.OpenShut
import Derived.Deep.DeepHandedRow
import Derived.Carry
import Derived.Test.YtildiiggamckaaaGreatDoorT32
set_option linter.all false
namespace Go.Ab
theorem D2 (a b : Int) : Ar.cmp .lss a b = decide (a < b) := rfl
theorem EP (a b : Int) : Ar.cmp .leq a b = decide (a ≤ b) := rfl
theorem W4 (a b : Int) : Ar.cmp .gtr a b = decide (b < a) := rfl
theorem Hv (a b : Int) : Ar.cmp .geq a b = decide (b ≤ a) := rfl
theorem Y0 (a b : Int) : Ar.cmp .eql a b = decide (a = b) := rfl
theorem Bs (a b : Int) : Ar.cmp .neq a b = !decide (a = b) := rfl
theorem Ao (a : Bool) : Ar.nt a = !a := rfl
theorem Ae (a b : Bool) : Ar.an a b = (a && b) := rfl
theorem HR (a b : Bool) : Ar.or a b = (a || b) := rfl
theorem E2 {α : Type} (l : List α) : Ar.len l = (l.length : Int) := rfl
theorem Fa {n : Int} (h0 : -9223372036854775808 ≤ n) (h1 : n < 9223372036854775808) : IntKind.wrap .i64 n = n := by
 have e : IntKind.wrap .i64 n = (if n % 18446744073709551616 ≥ 9223372036854775808 then n % 18446744073709551616 - 18446744073709551616 else n % 18446744073709551616) := by
  unfold IntKind.wrap;simp [IntKind.bits, IntKind.signed]
 rw [e]
 split <;> omega
theorem DC {a b : Int} (h0 : -9223372036854775808 ≤ a + b) (h1 : a + b < 9223372036854775808) : Ar.ar .add .i64 a b = a + b := Fa h0 h1
theorem Oa {S σ R α : Type} (l : List α) (hl : l.length < 1000000000000) (step : S → Option (S ⊕ R)) (mk : σ → Int → S) (body : σ → α → Option (σ ⊕ R)) (fin : σ → R)
 (hstep : ∀ s (i : Nat) x, l[i]? = some x → step (mk s i) = (body s x).bind fun o => match o with | .inl s' => some (.inl (mk s' (i + 1))) | .inr r => some (.inr r))
 (hend : ∀ s, step (mk s l.length) = some (.inr (fin s))) :
 ∀ (k : Nat) (i : Nat) (s : σ) (N : Nat), i + k = l.length → k < N → loopN step N (mk s i) = (F2 body (l.drop i) s).bind fun o => match o with | .inl s => some (fin s) | .inr r => some r := by
 intro k
 induction k with
 | zero =>
  intro i s N hi hN;obtain ⟨N, rfl⟩ : ∃ M, N = M + 1 := ⟨N - 1, by omega⟩;have e : l.drop i = [] := List.drop_eq_nil_of_le (by omega)
  have ei : ((i : Nat) : Int) = l.length := by omega
  rw [e, ei];simp only [loopN, hend, F2, Option.bind_some]
 | succ k ih =>
  intro i s N hi hN;obtain ⟨N, rfl⟩ : ∃ M, N = M + 1 := ⟨N - 1, by omega⟩
  have hlt : i < l.length := by omega
  have hx : l[i]? = some l[i] := by simp [hlt]
  have e : l.drop i = l[i] :: l.drop (i + 1) := List.drop_eq_getElem_cons hlt;rw [e];simp only [loopN, hstep s i _ hx, F2]
  cases hb : body s l[i] with
  | none => rfl
  | some o =>
   cases o with
   | inl s' =>
    simp only [Option.bind_some];have := ih (i + 1) s' N (by omega) (by omega);rw [show ((i : Int) + 1) = ((i + 1 : Nat) : Int) by omega];exact this
   | inr r => rfl
theorem H5 {α : Type} {l : List α} {i : Nat} : C3 l (i : Int) = l[i]? := by simp [C3]
theorem MB {β S σ R α : Type} (l : List α) (step : S → Option (List β × (S ⊕ R))) (mk : σ → Int → S) (body : σ → α → Option (List β × (σ ⊕ R))) (fin : σ → R)
 (hstep : ∀ s (i : Nat) x, l[i]? = some x → step (mk s i) = (body s x).bind fun o => match o with | (w, .inl s') => some (w, .inl (mk s' (i + 1))) | (w, .inr r) => some (w, .inr r))
 (hend : ∀ s, step (mk s l.length) = some ([], .inr (fin s))) :
 ∀ (k : Nat) (i : Nat) (s : σ) (N : Nat), i + k = l.length → k < N → Z3 step N (mk s i) = (Z0 body (l.drop i) s).bind fun o => match o with | (w, .inl s) => some (w, fin s) | (w, .inr r) => some (w, r) := by
 intro k
 induction k with
 | zero =>
  intro i s N hi hN;obtain ⟨N, rfl⟩ : ∃ M, N = M + 1 := ⟨N - 1, by omega⟩;have e : l.drop i = [] := List.drop_eq_nil_of_le (by omega)
  have ei : ((i : Nat) : Int) = l.length := by omega
  rw [e, ei];simp only [Z3, hend, Z0, Option.bind_some]
 | succ k ih =>
  intro i s N hi hN;obtain ⟨N, rfl⟩ : ∃ M, N = M + 1 := ⟨N - 1, by omega⟩
  have hlt : i < l.length := by omega
  have hx : l[i]? = some l[i] := by simp [hlt]
  have e : l.drop i = l[i] :: l.drop (i + 1) := List.drop_eq_getElem_cons hlt;rw [e];simp only [Z3, hstep s i _ hx, Z0]
  cases hb : body s l[i] with
  | none => rfl
  | some o =>
   obtain ⟨w, o⟩ := o
   cases o with
   | inl s' =>
    simp only [Option.bind_some];have := ih (i + 1) s' N (by omega) (by omega);rw [show ((i : Int) + 1) = ((i + 1 : Nat) : Int) by omega, this]
    cases hr : Z0 body (l.drop (i + 1)) s' with
    | none => rfl
    | some q =>
     obtain ⟨w', o'⟩ := q;cases o' <;> rfl
   | inr r => rfl
theorem Lo {S σ R α : Type} (l : List α) (hl : l.length < 1000000000000) {step : S → Option (S ⊕ R)} (mk : σ → Int → S) (body : σ → α → Option (σ ⊕ R)) (fin : σ → R) (s : σ) {N : Nat} (hN : l.length < N)
 (hstep : ∀ s (i : Nat) x, l[i]? = some x → (i : Int) < l.length → step (mk s i) = (body s x).bind fun o => match o with | .inl s' => some (.inl (mk s' (i + 1))) | .inr r => some (.inr r))
 (hend : ∀ s, step (mk s l.length) = some (.inr (fin s))) : loopN step N (mk s 0) = (F2 body l s).bind fun o => match o with | .inl s => some (fin s) | .inr r => some r := by
 have := Oa l hl step mk body fin (fun s i x h => hstep s i x h (by
  rcases Nat.lt_or_ge i l.length with h' | h'
  ·omega
  rw [List.getElem?_eq_none h'] at h; cases h)) hend l.length 0 s N (by omega) hN
 simpa using this
theorem PF {β S σ R α : Type} (l : List α) {step : S → Option (List β × (S ⊕ R))} (mk : σ → Int → S) (body : σ → α → Option (List β × (σ ⊕ R))) (fin : σ → R) (s : σ) {N : Nat} (hN : l.length < N)
 (hstep : ∀ s (i : Nat) x, l[i]? = some x → (i : Int) < l.length → step (mk s i) = (body s x).bind fun o => match o with | (w, .inl s') => some (w, .inl (mk s' (i + 1))) | (w, .inr r) => some (w, .inr r))
 (hend : ∀ s, step (mk s l.length) = some ([], .inr (fin s))) : Z3 step N (mk s 0) = (Z0 body l s).bind fun o => match o with | (w, .inl s) => some (w, fin s) | (w, .inr r) => some (w, r) := by
 have := MB l step mk body fin (fun s i x h => hstep s i x h (by
  rcases Nat.lt_or_ge i l.length with h' | h'
  ·omega
  rw [List.getElem?_eq_none h'] at h; cases h)) hend l.length 0 s N (by omega) hN
 simpa using this
end Go.Ab
namespace Go.Ab
open Go.RowKit Go.ChangeShapes Go.WideShapes Go.ChangeAt Go.Proofs Go.Proofs.YtildiiggamckaaaGreatDoor
set_option maxRecDepth 100000
mutual
def Ie : G2 → V
 | ⟨op, args, var, field, kind, val⟩ => .agg [.int .i64 op, .sl (Ot args) .ro, .int .i64 var, .int .i64 field, .int .i64 kind, .int .i64 val.Kind, .int .i64 val.Num, .str val.Text]
def Ot : List G2 → List V
 | [] => []
 | a :: r => Ie a :: Ot r
end
theorem LJ : ∀ l : List G2, Ot l = l.map Ie
 | [] => by simp [Ot]
 | a :: r => by simp [Ot, LJ r]
mutual
def Sb : A4 → V
 | ⟨op, args, typ, var, scope, span, c⟩ => .agg [.int .i64 op, .sl (Om args) .ro, .int .i64 typ, .int .i64 var, .int .i64 scope, .int .i64 span, .int .i64 c.Op, .sl (c.Args.map Ie) .ro, .int .i64 c.Var, .int .i64 c.Field, .int .i64 c.Kind, .int .i64 c.Value.Kind, .int .i64 c.Value.Num, .str c.Value.Text]
def Om : List A4 → List V
 | [] => []
 | a :: r => Sb a :: Om r
end
theorem LF : ∀ l : List A4, Om l = l.map Sb
 | [] => by simp [Om]
 | a :: r => by simp [Om, LF r]
noncomputable def Hs (x : A2) : V := .agg [.int .i64 x.Low, .int .i64 x.High]
noncomputable def DS (x : List A2) : V := .sl (Ar.lst Hs x) .ro
noncomputable def KR (x : B5) : V := .agg [.sl (Ar.lst DS x.Sets) .ro]
noncomputable def Kl (x : D0) : V := .agg [.int .i64 x.From, .int .i64 x.To, .sl (Ar.lst DS x.On.Sets) .ro]
noncomputable def MP (x : A5) : V := .agg [.int .i64 x.Types, .sl (Ar.lst V.bool x.Finals) .ro, .sl (Ar.lst Kl x.Moves) .ro]
noncomputable def Kj (x : B2) : V := .agg [.int .i64 x.Typ, .int .i64 x.Num]
noncomputable def LI (x : DW) : V := .agg [.str x.Name, .int .i64 x.Kind]
noncomputable def Kk (x : Y2) : V := .agg [.str x.Name, .sl (Ar.lst LI x.Fields) .ro]
noncomputable def Se (x : O9) : V := .agg [.int .i64 x.Kind, .int .i64 x.Num, .str x.Text]
noncomputable def LH (x : Cu) : V := .agg [.int .i64 x.Scope, .int .i64 x.Typ, .int .i64 x.Var, .int .i64 x.Cond.Op, .sl (Ar.lst Ie x.Cond.Args) .ro, .int .i64 x.Cond.Var, .int .i64 x.Cond.Field, .int .i64 x.Cond.Kind, .int .i64 x.Cond.Value.Kind, .int .i64 x.Cond.Value.Num, .str x.Cond.Value.Text]
noncomputable def LG (x : GR) : V := .agg [.sl (Ar.lst LH x.Guards) .ro]
noncomputable def Gd (x : W6) : V := .agg [.int .i64 x.Scope, .int .i64 x.Span]
noncomputable def Oq (x : B8) : V := .agg [.int .i64 x.From, .int .i64 x.To, .int .i64 x.Var, .int .i64 x.Typ, .int .i64 x.Cond.Op, .sl (Ar.lst Ie x.Cond.Args) .ro, .int .i64 x.Cond.Var, .int .i64 x.Cond.Field, .int .i64 x.Cond.Kind, .int .i64 x.Cond.Value.Kind, .int .i64 x.Cond.Value.Num, .str x.Cond.Value.Text, .sl (Ar.lst (V.int .i64) x.Opens) .ro, .sl (Ar.lst (V.int .i64) x.Closes) .ro, .sl (Ar.lst Ie x.Checks) .ro, .sl (Ar.lst Gd x.Limits) .ro, .sl (Ar.lst (V.int .i64) x.Inside) .ro]
noncomputable def KS (x : I8) : V := .agg [.int .i64 x.Vars, .int .i64 x.Scopes, .sl (Ar.lst LG x.States) .ro, .sl (Ar.lst Oq x.Edges) .ro]
noncomputable def TU (x : Wg) : V := .agg [.int .i64 x.E0, .int .i64 x.E1]
noncomputable def EK (x : Cy) : V := .agg [.int .i64 x.a, .int .i64 x.b]
noncomputable def Hr (x : K6) : V := .agg [.str x.Name, .int .i64 x.Typ]
noncomputable def Ki (x : V4) : V := .agg [.sl (Ar.lst Kk x.types) .ro, .sl (Ar.lst Hr x.vars) .ro]
noncomputable def GK (x : D1) : V := .agg [.int .i64 x.times, .int .i64 x.plus]
noncomputable def EL (x : Cz) : V := .agg [.int .i64 x.Edge.From, .int .i64 x.Edge.To, .int .i64 x.Edge.Var, .int .i64 x.Edge.Typ, .int .i64 x.Edge.Cond.Op, .sl (Ar.lst Ie x.Edge.Cond.Args) .ro, .int .i64 x.Edge.Cond.Var, .int .i64 x.Edge.Cond.Field, .int .i64 x.Edge.Cond.Kind, .int .i64 x.Edge.Cond.Value.Kind, .int .i64 x.Edge.Cond.Value.Num, .str x.Edge.Cond.Value.Text, .sl (Ar.lst (V.int .i64) x.Edge.Opens) .ro, .sl (Ar.lst (V.int .i64) x.Edge.Closes) .ro, .sl (Ar.lst Ie x.Edge.Checks) .ro, .sl (Ar.lst Gd x.Edge.Limits) .ro, .sl (Ar.lst (V.int .i64) x.Edge.Inside) .ro, .bool x.Done, .int .i64 x.Rest.Op, .sl (Ar.lst Sb x.Rest.Args) .ro, .int .i64 x.Rest.Typ, .int .i64 x.Rest.Var, .int .i64 x.Rest.Scope, .int .i64 x.Rest.Span, .int .i64 x.Rest.Cond.Op, .sl (Ar.lst Ie x.Rest.Cond.Args) .ro, .int .i64 x.Rest.Cond.Var, .int .i64 x.Rest.Cond.Field, .int .i64 x.Rest.Cond.Kind, .int .i64 x.Rest.Cond.Value.Kind, .int .i64 x.Rest.Cond.Value.Num, .str x.Rest.Cond.Value.Text]
noncomputable def Gg (x : A1) : V := .agg [.bool x.done, .int .i64 x.p.Op, .sl (Ar.lst Sb x.p.Args) .ro, .int .i64 x.p.Typ, .int .i64 x.p.Var, .int .i64 x.p.Scope, .int .i64 x.p.Span, .int .i64 x.p.Cond.Op, .sl (Ar.lst Ie x.p.Cond.Args) .ro, .int .i64 x.p.Cond.Var, .int .i64 x.p.Cond.Field, .int .i64 x.p.Cond.Kind, .int .i64 x.p.Cond.Value.Kind, .int .i64 x.p.Cond.Value.Num, .str x.p.Cond.Value.Text]
noncomputable def Hq (x : O8) : V := .agg [.int .i64 x.least, .int .i64 x.most, .bool x.typed, .bool x.cond, .bool x.scope, .bool x.span]
noncomputable def Xy (x : List Bool) : V := .sl (Ar.lst V.bool x) .ro
noncomputable def Sc (x : List D0) : V := .sl (Ar.lst Kl x) .ro
noncomputable def Oo (x : List B2) : V := .sl (Ar.lst Kj x) .ro
noncomputable def Sd (x : List G2) : V := .sl (Ar.lst Ie x) .ro
noncomputable def Xx (x : List Int) : V := .sl (Ar.lst (V.int .i64) x) .ro
noncomputable def PU (x : List W6) : V := .sl (Ar.lst Gd x) .ro
noncomputable instance encsInst : G6 where
 eXI := Hs
 eXR := fun _ => rfl
 eYj := KR
 eYg := fun _ => rfl
 eXS := Kl
 eXQ := fun _ => rfl
 eYh := MP
 eYp := fun _ => rfl
 eXN := Kj
 eYa := fun _ => rfl
 eYc := LI
 eYq := fun _ => rfl
 eXW := Kk
 eYk := fun _ => rfl
 eYv := Se
 eYG := fun _ => rfl
 eXL := Ie
 eXV := fun ⟨_, _, _, _, _, _⟩ => by simp only [Ie, LJ]; rfl
 eXJ := Sb
 eXO := fun ⟨_, _, _, _, _, _, _⟩ => by simp only [Sb, LF]; rfl
 eXZ := LH
 eYt := fun _ => rfl
 eXX := LG
 eYu := fun _ => rfl
 eXT := Gd
 eYl := fun _ => rfl
 eXK := Oq
 eXY := fun _ => rfl
 eYw := KS
 eYH := fun _ => rfl
 eYx := TU
 eYI := fun _ => rfl
 eYy := EK
 eYJ := fun _ => rfl
 eXU := Hr
 eYi := fun _ => rfl
 eYz := Ki
 eYK := fun _ => rfl
 eYA := GK
 eYM := fun _ => rfl
 eYB := EL
 eYN := fun _ => rfl
 eYC := Gg
 eYO := fun _ => rfl
 eYr := Hq
 eYF := fun _ => rfl
 eLB := Xy
 eYP := fun _ => rfl
 eYE := Sc
 eYQ := fun _ => rfl
 eYs := Oo
 eYm := fun _ => rfl
 eYd := Sd
 eYn := fun _ => rfl
 eYe := Xx
 eYb := fun _ => rfl
 eYf := PU
 eYo := fun _ => rfl
 eXM := DS
 eXP := fun _ => rfl
def PE {α : Type} (f : α → Nat) : List α → Nat
 | [] => 1
 | a :: l => f a + PE f l
section
variable [G5] {H : Type} {enc : TypeId × Value → H} {W : World} {base : Nat} {spare : Nat → Bool} {held : Bool}
abbrev bk (d : DataW H) : Nat := Rows.uptoBulk d
noncomputable def ML (P : Program) (t : TypeId) : Array Field := match P.underlying t with | some (.struct fs) => fs | _ => #[]
theorem Q7 {P : Program} {t ty off sz : Nat} {xs : List (DataW H × List MemPlace)} {cs : List Value} {n : Nat} (hl : xs.length = (ML P t).size)
 (hf : ∀ (i : Nat) (f : Field), (ML P t)[i]? = some f → DataW.trod enc P W base spare held n f.type ((cs.drop f.offset).take (P.cellsOf f.type)) = xs[i]?) (i : Nat)
 (h : ((ML P t)[i]?.map fun f => (f.type, f.offset, P.cellsOf f.type)) = some (ty, off, sz)) : ∃ y, xs[i]? = some y ∧ DataW.trod enc P W base spare held n ty ((cs.drop off).take sz) = some y := by
 cases hi : (ML P t)[i]? with
 | none => rw [hi] at h; cases h
 | some f =>
  rw [hi] at h
  simp only [Option.map_some, Option.some.injEq, Prod.mk.injEq] at h
  obtain ⟨rfl, rfl, rfl⟩ := h;exact PR hl hf i hi
theorem Opens.down {α : Type} {P : Program} {t : TypeId} {f : α → V} {R : α → DataW H → Prop} {n : Nat} (h : Opens enc P W base spare held t f R (n + 1)) : Opens enc P W base spare held t f R n := fun cs x hx => h cs x (DataW.trod_le (Nat.le_succ n) hx)
theorem Opens.imp {α : Type} {P : Program} {t : TypeId} {f : α → V} {R R' : α → DataW H → Prop} {n : Nat} (h : Opens enc P W base spare held t f R n) (hi : ∀ a d, R a d → R' a d) : Opens enc P W base spare held t f R' n := fun cs x hx => by
 obtain ⟨a, r, q⟩ := h cs x hx;exact ⟨a, r, hi _ _ q⟩
theorem Opens.congr {α : Type} {P : Program} {t : TypeId} {f g : α → V} {R : α → DataW H → Prop} {n : Nat} (h : Opens enc P W base spare held t f R n) (hg : ∀ x, f x = g x) : Opens enc P W base spare held t g R n := fun cs x hx => by
 obtain ⟨a, r, q⟩ := h cs x hx;exact ⟨a, by rw [← hg]; exact r, q⟩
theorem VX {α : Type} {f : α → Nat} : ∀ (l : List α) (ds : List (DataW H)), RL (fun a d => f a ≤ bk d) l ds → PE f l ≤ Rows.uptoBulkAll ds + 1
 | [], ds, h => by simp [PE]
 | a :: l, [], h => by have := h.1; simp at this
 | a :: l, d :: ds, h => by
  have h1 : f a ≤ bk d := h.2 0 a d rfl rfl;have h2 := VX l ds ⟨by simpa using h.1, fun i a d hi hd => h.2 (i + 1) a d (by simpa using hi) (by simpa using hd)⟩;simp only [PE, Rows.uptoBulkAll];have h3 : bk d = Rows.uptoBulk d := rfl;omega
theorem Qs {α : Type} {f : α → Nat} {l : List α} {d : DataW H} (h : RS (fun a d => f a ≤ bk d) l d) : PE f l ≤ bk d := by
 obtain ⟨_, h⟩ := h
 rcases h with ⟨rfl, rfl⟩ | ⟨es, sp, rfl, h⟩
 ·simp [bk, Rows.uptoBulk, PE]
 have := VX l es h;simp only [bk, Rows.uptoBulk]; omega
theorem WB {β : Type} {xs : List β} {a : β} (hl : xs.length = 1) (h0 : xs[0]? = some a) : xs = [a] := by
 match xs, hl with
 | [x], _ => simp at h0; rw [h0]
theorem WA {β : Type} {xs : List β} {a b : β} (hl : xs.length = 2) (h0 : xs[0]? = some a) (h1 : xs[1]? = some b) : xs = [a, b] := by
 match xs, hl with
 | [x0, x1], _ => simp at h0 h1; rw [h0, h1]
theorem Ty {β : Type} {xs : List β} {a b c : β} (hl : xs.length = 3) (h0 : xs[0]? = some a) (h1 : xs[1]? = some b) (h2 : xs[2]? = some c) : xs = [a, b, c] := by
 match xs, hl with
 | [x0, x1, x2], _ => simp at h0 h1 h2; rw [h0, h1, h2]
theorem Wz {β : Type} {xs : List β} {a b c d e f : β} (hl : xs.length = 6) (h0 : xs[0]? = some a) (h1 : xs[1]? = some b) (h2 : xs[2]? = some c) (h3 : xs[3]? = some d) (h4 : xs[4]? = some e) (h5 : xs[5]? = some f) : xs = [a, b, c, d, e, f] := by
 match xs, hl with
 | [x0, x1, x2, x3, x4, x5], _ => simp at h0 h1 h2 h3 h4 h5; rw [h0, h1, h2, h3, h4, h5]
theorem u25 : Tryz.prog.underlying 25 = some (.struct (ML Tryz.prog 25)) := by kernel_rfl
theorem u3 : Tryz.prog.underlying 3 = some (.int .i64) := by kernel_rfl
theorem JG (n : Nat) : Opens enc Tryz.prog W base spare held 3 (V.int .i64) (fun a d => (fun _ : Int => 1) a ≤ bk d) n := (HS u3).imp fun a d h => by subst h; simp [bk, Rows.uptoBulk]
theorem u22 : Tryz.prog.underlying 22 = some (.slice 4) := by kernel_rfl
theorem u4 : Tryz.prog.underlying 4 = some .bool := by kernel_rfl
theorem Wt (n : Nat) : Opens enc Tryz.prog W base spare held 4 V.bool (fun a d => (fun _ : Bool => 1) a ≤ bk d) n := (CV u4).imp fun a d h => by subst h; simp [bk, Rows.uptoBulk]
theorem Va (n : Nat) : Opens enc Tryz.prog W base spare held 22 (fun l : List Bool => .sl (Ar.lst V.bool l) .ro) (fun a d => (PE (fun _ : Bool => 1)) a ≤ bk d) n :=
 Opens.down (((Ds u22 (show 0 < Tryz.prog.cellsOf 4 by rw [show Tryz.prog.cellsOf 4 = 1 by kernel_rfl]; decide) (Wt n)).imp fun a d h => Qs h).congr fun x => by rw [Ar.lst_eq])
theorem u23 : Tryz.prog.underlying 23 = some (.slice 73) := by kernel_rfl
theorem u73 : Tryz.prog.underlying 73 = some (.struct (ML Tryz.prog 73)) := by kernel_rfl
theorem u71 : Tryz.prog.underlying 71 = some (.struct (ML Tryz.prog 71)) := by kernel_rfl
theorem u69 : Tryz.prog.underlying 69 = some (.slice 147) := by kernel_rfl
theorem u147 : Tryz.prog.underlying 147 = some (.slice 149) := by kernel_rfl
theorem u149 : Tryz.prog.underlying 149 = some (.struct (ML Tryz.prog 149)) := by kernel_rfl
def A2.mu (x : A2) : Nat := (fun _ : Int => 1) x.Low + (fun _ : Int => 1) x.High + 1
theorem Tg (n : Nat) : Opens enc Tryz.prog W base spare held 149 G6.eXI (fun (a : A2) d => A2.mu a ≤ bk d) n := by
 intro cs x h;obtain ⟨xs, m, hm, rfl, hcl, hl, hf⟩ := DataW.trod_struct u149 h;subst hm;obtain ⟨y0, k0, t0⟩ := Q7 hl hf 0 (ty := 3) (off := 0) (sz := 1) (by kernel_rfl);obtain ⟨y1, k1, t1⟩ := Q7 hl hf 1 (ty := 3) (off := 1) (sz := 1) (by kernel_rfl);have hxs := WA (hl.trans (by kernel_rfl)) k0 k1;obtain ⟨a0, r0, q0⟩ := JG _ _ _ t0;obtain ⟨a1, r1, q1⟩ := JG _ _ _ t1;refine ⟨⟨a0, a1⟩, ?_, ?_⟩
 ·have hc3 : cs.length = 2 := hcl.trans (by kernel_rfl);have := r0.join r1;rw [G6.eXR]
  simp only [Ar.lst_eq] at this ⊢
  simpa [List.take_of_length_le, hc3, V.cells] using this
 simp only [bk] at q0 q1
 rw [hxs];simp only [List.map_cons, List.map_nil, bk, Rows.uptoBulk, Rows.uptoBulkAll, A2.mu];omega
theorem Th (n : Nat) : Opens enc Tryz.prog W base spare held 147 (fun l : List A2 => .sl (Ar.lst G6.eXI l) .ro) (fun a d => (PE A2.mu) a ≤ bk d) n :=
 Opens.down (((Ds u147 (show 0 < Tryz.prog.cellsOf 149 by rw [show Tryz.prog.cellsOf 149 = 2 by kernel_rfl]; decide) (Tg n)).imp fun a d h => Qs h).congr fun x => by rw [Ar.lst_eq])
theorem UX (n : Nat) : Opens enc Tryz.prog W base spare held 69 (fun l : List (List A2) => .sl (Ar.lst G6.eXM l) .ro) (fun a d => (PE (PE A2.mu)) a ≤ bk d) n :=
 Opens.down (((Ds u69 (show 0 < Tryz.prog.cellsOf 147 by rw [show Tryz.prog.cellsOf 147 = 1 by kernel_rfl]; decide) ((Th n).congr fun x => (G6.eXP x).symm)).imp fun a d h => Qs h).congr fun x => by rw [Ar.lst_eq])
def B5.mu (x : B5) : Nat := (PE (PE A2.mu)) x.Sets + 1
theorem UW (n : Nat) : Opens enc Tryz.prog W base spare held 71 G6.eYj (fun (a : B5) d => B5.mu a ≤ bk d) n := by
 intro cs x h;obtain ⟨xs, m, hm, rfl, hcl, hl, hf⟩ := DataW.trod_struct u71 h;subst hm;obtain ⟨y0, k0, t0⟩ := Q7 hl hf 0 (ty := 69) (off := 0) (sz := 1) (by kernel_rfl);have hxs := WB (hl.trans (by kernel_rfl)) k0;obtain ⟨a0, r0, q0⟩ := UX _ _ _ t0;refine ⟨⟨a0⟩, ?_, ?_⟩
 ·have hc3 : cs.length = 1 := hcl.trans (by kernel_rfl);have := r0;rw [G6.eYg]
  simp only [Ar.lst_eq] at this ⊢
  simpa [List.take_of_length_le, hc3, V.cells] using this
 simp only [bk] at q0
 rw [hxs];simp only [List.map_cons, List.map_nil, bk, Rows.uptoBulk, Rows.uptoBulkAll, B5.mu];omega
def D0.mu (x : D0) : Nat := (fun _ : Int => 1) x.From + (fun _ : Int => 1) x.To + B5.mu x.On + 1
theorem UV (n : Nat) : Opens enc Tryz.prog W base spare held 73 G6.eXS (fun (a : D0) d => D0.mu a ≤ bk d) n := by
 intro cs x h;obtain ⟨xs, m, hm, rfl, hcl, hl, hf⟩ := DataW.trod_struct u73 h;subst hm;obtain ⟨y0, k0, t0⟩ := Q7 hl hf 0 (ty := 3) (off := 0) (sz := 1) (by kernel_rfl);obtain ⟨y1, k1, t1⟩ := Q7 hl hf 1 (ty := 3) (off := 1) (sz := 1) (by kernel_rfl);obtain ⟨y2, k2, t2⟩ := Q7 hl hf 2 (ty := 71) (off := 2) (sz := 1) (by kernel_rfl);have hxs := Ty (hl.trans (by kernel_rfl)) k0 k1 k2;obtain ⟨a0, r0, q0⟩ := JG _ _ _ t0;obtain ⟨a1, r1, q1⟩ := JG _ _ _ t1;obtain ⟨a2, r2, q2⟩ := UW _ _ _ t2;refine ⟨⟨a0, a1, a2⟩, ?_, ?_⟩
 ·have hc3 : cs.length = 3 := hcl.trans (by kernel_rfl)
  rw [G6.eYg] at r2
  have := (r0.join r1).join r2;rw [G6.eXQ]
  simp only [Ar.lst_eq] at this ⊢
  simpa [List.take_of_length_le, hc3, V.cells] using this
 simp only [bk] at q0 q1 q2
 rw [hxs];simp only [List.map_cons, List.map_nil, bk, Rows.uptoBulk, Rows.uptoBulkAll, D0.mu];omega
theorem UZ (n : Nat) : Opens enc Tryz.prog W base spare held 23 (fun l : List D0 => .sl (Ar.lst G6.eXS l) .ro) (fun a d => (PE D0.mu) a ≤ bk d) n :=
 Opens.down (((Ds u23 (show 0 < Tryz.prog.cellsOf 73 by rw [show Tryz.prog.cellsOf 73 = 3 by kernel_rfl]; decide) (UV n)).imp fun a d h => Qs h).congr fun x => by rw [Ar.lst_eq])
def A5.mu (x : A5) : Nat := (fun _ : Int => 1) x.Types + (PE (fun _ : Bool => 1)) x.Finals + (PE D0.mu) x.Moves + 1
theorem UY (n : Nat) : Opens enc Tryz.prog W base spare held 25 G6.eYh (fun (a : A5) d => A5.mu a ≤ bk d) n := by
 intro cs x h;obtain ⟨xs, m, hm, rfl, hcl, hl, hf⟩ := DataW.trod_struct u25 h;subst hm;obtain ⟨y0, k0, t0⟩ := Q7 hl hf 0 (ty := 3) (off := 0) (sz := 1) (by kernel_rfl);obtain ⟨y1, k1, t1⟩ := Q7 hl hf 1 (ty := 22) (off := 1) (sz := 1) (by kernel_rfl);obtain ⟨y2, k2, t2⟩ := Q7 hl hf 2 (ty := 23) (off := 2) (sz := 1) (by kernel_rfl);have hxs := Ty (hl.trans (by kernel_rfl)) k0 k1 k2;obtain ⟨a0, r0, q0⟩ := JG _ _ _ t0;obtain ⟨a1, r1, q1⟩ := Va _ _ _ t1;obtain ⟨a2, r2, q2⟩ := UZ _ _ _ t2;refine ⟨⟨a0, a1, a2⟩, ?_, ?_⟩
 ·have hc3 : cs.length = 3 := hcl.trans (by kernel_rfl);have := (r0.join r1).join r2;rw [G6.eYp]
  simp only [Ar.lst_eq] at this ⊢
  simpa [List.take_of_length_le, hc3, V.cells] using this
 simp only [bk] at q0 q1 q2
 rw [hxs];simp only [List.map_cons, List.map_nil, bk, Rows.uptoBulk, Rows.uptoBulkAll, A5.mu];omega
def B2.mu (x : B2) : Nat := (fun _ : Int => 1) x.Typ + (fun _ : Int => 1) x.Num + 1
theorem KX {v : Value} {d : DataW H} {p : List MemPlace} (hv : Value.okWide Tryz.prog W .any base 25 v) (h : DataW.Trod enc Tryz.prog W 0 (fun _ => true) true 25 v d p) : ∃ x : A5, VR (g0 W) W v (G6.eYh x) ∧ A5.mu x ≤ Rows.uptoBulk d := by
 obtain ⟨fuel, ht⟩ := h;obtain ⟨cs, rfl, hcs⟩ := okWide_struct u25 hv;obtain ⟨x, hr, hb⟩ := UY fuel _ _ ht;have hr' : Dg (g0 W) W cs.toList (G6.eYh x).cells := hr;refine ⟨x, ?_, hb⟩;have := hr'.agg
 rw [G6.eYp] at this ⊢
 exact this
theorem Vn {f : FuncId} {vals : Array Value} {args : List V} (hg : ∀ n, VR (g0 W) W (.pointer (some ⟨n, 0, none⟩)) (G5.gl n)) (hcall : ∀ vals w, (callFunc f vals).run Tryz.prog w = .ok (.enter f vals) w) (law : B6 Tryz.prog f args (.bool true)) (hA : Args (g0 W) W vals args) :
 Calls Tryz.prog f vals W fun e W' => e = .returned (.bool true) ∧ Below W.heap.size W W' := by
 have hc := law (fun _ => none) (g0 W) W vals (rl0 hg) hA
 rw [hcall] at hc
 refine (callsIn_wide.1 hc).mono fun e W' ⟨v, he, g', y, H', hs, hR, hvy, hy, _⟩ => ?_;subst hy;cases hvy;exact ⟨he, hs.low⟩
theorem XB {v0 : Value} {x0 : V} (h0 : VR (g0 W) W v0 x0) : Args (g0 W) W #[v0] [x0] := ⟨rfl, fun i hi => by
 match i, hi with
 | 0, _ => exact h0⟩
end
end Go.Ab
namespace Go.Ab
def fb {α : Type} (f : Nat → α → Int) : Nat → List α → Int
 | _, [] => 0
 | i, x :: r => if f i x = 0 then fb f (i + 1) r else f i x
theorem BX {α : Type} {f : Nat → α → Int} : ∀ {l : List α} {i : Nat}, fb f i l = 0 ↔ ∀ (k : Nat) x, l[k]? = some x → f (i + k) x = 0
 | [], i => by simp [fb]
 | y :: r, i => by
  unfold fb
  split
  ·rename_i h;rw [BX];refine ⟨fun H k x hk => ?_, fun H k x hk => ?_⟩
   ·cases k with
    | zero => simp at hk; subst hk; exact h
    | succ k => rw [show i + (k + 1) = i + 1 + k by omega]; exact H k x (by simpa using hk)
   have := H (k + 1) x (by simpa using hk)
   rwa [show i + (k + 1) = i + 1 + k by omega] at this
  rename_i h;exact ⟨fun e => absurd e h, fun H => absurd (H 0 y (by simp)) h⟩
theorem Q1 {i : Nat} {n : Nat} (hi : i < n) (hn : n < 1000000000000) : Ar.ar .add .i64 (i : Int) 1 = ((i + 1 : Nat) : Int) := by
 rw [DC (by omega) (by omega)]; omega
theorem Ac {α R : Type} {l : List α} {step : Int → Option (Int ⊕ R)} {f : Nat → α → Int} {e : R} {b : Int → R}
 (hs : ∀ (i : Nat) x, l[i]? = some x → i < l.length → step (i : Int) = if f i x = 0 then some (.inl ((i + 1 : Nat) : Int)) else some (.inr (b (f i x))))
 (he : step (l.length : Int) = some (.inr e)) : ∀ {N : Nat}, l.length < N → loopN step N 0 = some (if fb f 0 l = 0 then e else b (fb f 0 l)) := by
 have key : ∀ (k i N : Nat), i + k = l.length → k < N → loopN step N (i : Int) = some (if fb f i (l.drop i) = 0 then e else b (fb f i (l.drop i))) := by
  intro k
  induction k with
  | zero =>
   intro i N hi hN;obtain ⟨N, rfl⟩ : ∃ M, N = M + 1 := ⟨N - 1, by omega⟩;rw [show i = l.length by omega, List.drop_length];simp [loopN, he, fb]
  | succ k ih =>
   intro i N hi hN;obtain ⟨N, rfl⟩ : ∃ M, N = M + 1 := ⟨N - 1, by omega⟩
   have hlt : i < l.length := by omega
   rw [List.drop_eq_getElem_cons hlt];simp only [loopN, hs i _ (List.getElem?_eq_getElem hlt) hlt, fb]
   by_cases h : f i l[i] = 0
   ·simp only [h, if_true];exact ih (i + 1) N (by omega) (by omega)
   simp only [h, if_false]
 intro N hN;have := key l.length 0 N (by omega) hN
 simpa using this
def fm (x : A2) : Int :=
 if x.Low < -1099511627776 ∨ 1099511627776 < x.Low ∨ x.High < -1099511627776 ∨ 1099511627776 < x.High then 2 else if x.High < x.Low then 3 else 0
theorem QP {x : A2} (h : fm x = 0) : -1099511627776 ≤ x.Low ∧ x.Low ≤ x.High ∧ x.High ≤ 1099511627776 := by
 unfold fm at h
 split at h
 ·cases h
 split at h
 ·cases h
 omega
theorem RX (N : Nat) (x : A2) : X1 N x = some (fm x) := by
 unfold X1 fm;simp only [D2, W4, HR, Bool.or_eq_true, decide_eq_true_eq, or_assoc]
 split
 ·rfl
 split <;> rfl
theorem Wu (N : Nat) (x : A2) : Ec N x = some (fm x) := by
 unfold Ec Fj fm;simp only [Hv, EP, W4, Ae, Ao, Option.bind_some, Bool.not_eq_true', Bool.and_eq_false_iff, decide_eq_false_iff_not, decide_eq_true_eq]
 repeat' split
 all_goals first | rfl | (exfalso; omega)
noncomputable def fi (l : List A2) (i : Nat) (x : A2) : Int :=
 if fm x = 0 then (if 0 < i then match l[i - 1]? with | some y => if x.Low < Ar.ar .add .i64 y.High 2 then 14 else 0 | none => 0 else 0) else fm x
noncomputable def ck (l : List A2) : Int := if 256 < l.length then 5 else fb (fi l) 0 l
theorem TW {α : Type} {l : List α} {i : Nat} (hi : 0 < i) (hl : i < l.length) (hn : l.length < 1000000000000) : C3 l (Ar.ar .sub .i64 (i : Int) 1) = l[i - 1]? := by
 have e : Ar.ar .sub .i64 (i : Int) 1 = ((i - 1 : Nat) : Int) := by
  show IntKind.wrap .i64 ((i : Int) - 1) = _
  rw [Fa (by omega) (by omega)]; omega
 rw [e, H5]
theorem Lx {N : Nat} {l : List A2} (hN : 256 < N) : L8 N l = some (ck l) := by
 unfold L8 ck;simp only [W4, E2, decide_eq_true_eq]
 by_cases hl : 256 < l.length
 ·rw [if_pos (by omega), if_pos hl]
 rw [if_neg (by omega), if_neg hl];rw [Ac (l := l) (f := fi l) (e := .inl ()) (b := .inr) (N := N) ?_ ?_ (by omega)]
 ·simp only [Option.bind_some]
  by_cases h : fb (fi l) 0 l = 0
  ·simp [h]
  simp [h]
 ·intro i x hx hi;simp only [D2, Bs, RX, H5, hx, Option.bind_some, decide_eq_true_eq];rw [if_pos (by omega), Q1 hi (by omega)];unfold fi
  by_cases h0 : fm x = 0
  ·simp only [h0, decide_true, Bool.not_true, Bool.false_eq_true, if_false, if_true]
   by_cases hp : 0 < i
   ·rw [if_pos (by omega), TW hp hi (by omega)]
    cases hy : l[i - 1]? with
    | none => rw [List.getElem?_eq_none_iff] at hy; omega
    | some y =>
     simp only [Option.bind_some, hp, if_true]
     by_cases hh : x.Low < Ar.ar .add .i64 y.High 2
     ·rw [if_pos hh, if_pos hh]; rfl
     rw [if_neg hh, if_neg hh]; rfl
   rw [if_neg (by omega)]; simp [hp]
  simp [h0]
 simp [D2]
theorem RE {N : Nat} {l : List A2} (hN : 256 < N) : Cg N l = some (ck l) := by
 unfold Cg ck;simp only [W4, E2, decide_eq_true_eq]
 by_cases hl : 256 < l.length
 ·rw [if_pos (by omega), if_pos hl]
 rw [if_neg (by omega), if_neg hl];rw [Ac (l := l) (f := fi l) (e := .inl ()) (b := .inr) (N := N) ?_ ?_ (by omega)]
 ·simp only [Option.bind_some]
  by_cases h : fb (fi l) 0 l = 0
  ·simp [h]
  simp [h]
 ·intro i x hx hi;simp only [D2, Bs, Wu, H5, hx, Option.bind_some, decide_eq_true_eq];rw [if_pos (by omega), Q1 hi (by omega)];unfold fi
  by_cases h0 : fm x = 0
  ·simp only [h0, decide_true, Bool.not_true, Bool.false_eq_true, if_false, if_true]
   by_cases hp : 0 < i
   ·rw [if_pos (by omega), TW hp hi (by omega)]
    cases hy : l[i - 1]? with
    | none => rw [List.getElem?_eq_none_iff] at hy; omega
    | some y =>
     simp only [Option.bind_some, hp, if_true]
     by_cases hh : x.Low < Ar.ar .add .i64 y.High 2
     ·rw [if_pos hh, if_pos hh]; rfl
     rw [if_neg hh, if_neg hh]; rfl
   rw [if_neg (by omega)]; simp [hp]
  simp [h0]
 simp [D2]
def XD (l : List A2) : Prop := l.length ≤ 256 ∧ (∀ x ∈ l, -1099511627776 ≤ x.Low ∧ x.Low ≤ x.High ∧ x.High ≤ 1099511627776) ∧ ∀ (i : Nat) x y, l[i]? = some x → l[i + 1]? = some y → x.High + 2 ≤ y.Low
theorem VD {l : List A2} (h : ck l = 0) : XD l := by
 unfold ck at h
 split at h
 ·cases h
 rename_i hl;have h := BX.1 h
 have hm : ∀ (k : Nat) x, l[k]? = some x → fm x = 0 := fun k x hx => by
  have := h k x hx
  unfold fi at this
  by_cases h0 : fm x = 0
  ·exact h0
  rw [if_neg h0] at this; exact this
 refine ⟨by omega, fun x hx => ?_, fun i x y hx hy => ?_⟩
 ·obtain ⟨k, hk⟩ := List.getElem?_of_mem hx;exact QP (hm k x hk)
 have h1 := QP (hm _ _ hx);have := h (i + 1) y hy
 simp only [Nat.zero_add] at this
 unfold fi at this
 rw [if_pos (hm _ _ hy), if_pos (by omega), show i + 1 - 1 = i by omega, hx] at this
 simp only at this
 rw [DC (by omega) (by omega)] at this
 split at this
 ·cases this
 omega
end Go.Ab
