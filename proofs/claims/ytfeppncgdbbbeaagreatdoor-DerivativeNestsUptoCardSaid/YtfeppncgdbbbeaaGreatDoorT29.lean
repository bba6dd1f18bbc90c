/- GNCo1 -/
import Derived.Test.YtfeppncgdbbbeaaGreatDoorT26
import Derived.Test.YtfeppncgdbbbeaaGreatDoorT27
import Derived.Test.YtfeppncgdbbbeaaGreatDoorT25
import Derived.Test.YtfeppncgdbbbeaaGreatDoorT28
set_option linter.all false

namespace Go.Ab
open Go.RowKit Go.Proofs
instance globs : Glob := ⟨fun n => match n with
 | 0 => .eref [.int .i64 0, .int .i64 0, .bool true, .bool true, .bool false, .bool false, .int .i64 2, .int .i64 64, .bool false, .bool false, .bool false, .bool false, .int .i64 2, .int .i64 64, .bool false, .bool false, .bool false, .bool false, .int .i64 2, .int .i64 64, .bool false, .bool false, .bool false, .bool false, .int .i64 1, .int .i64 1, .bool false, .bool false, .bool false, .bool false, .int .i64 1, .int .i64 1, .bool true, .bool true, .bool true, .bool false, .int .i64 1, .int .i64 1, .bool false, .bool false, .bool true, .bool true, .int .i64 1, .int .i64 1, .bool false, .bool true, .bool false, .bool false, .int .i64 2, .int .i64 2, .bool false, .bool false, .bool false, .bool false, .int .i64 1, .int .i64 1, .bool true, .bool true, .bool true, .bool false, .int .i64 1, .int .i64 1, .bool false, .bool false, .bool true, .bool true] 0
 | _ => .bad⟩
variable [Ar] [Encs]
set_option maxRecDepth 100000
theorem okP : POk Tryz.prog TT := ⟨okT, by rfl⟩
def cf21 : Cf := ⟨[], [], [], [], [], []⟩
theorem c21 (N : Nat) : ∀ (n : Nat) (x_p : GPattern) (x_limit : Int) (r : Int), ref09_Total N n x_p x_limit = some r → CallP Tryz.prog 21 [.agg [.int .i64 x_p.Op, .sl (Ar.lst Encs.eGPattern x_p.Args) .ro, .int .i64 x_p.Typ, .int .i64 x_p.Var, .int .i64 x_p.Scope, .int .i64 x_p.Span, .int .i64 x_p.Cond.Op, .sl (Ar.lst Encs.eGExpr x_p.Cond.Args) .ro, .int .i64 x_p.Cond.Var, .int .i64 x_p.Cond.Field, .int .i64 x_p.Cond.Kind, .int .i64 x_p.Cond.Value.Kind, .int .i64 x_p.Cond.Value.Num, .str x_p.Cond.Value.Text], .int .i64 x_limit] (.int .i64 r) := by
 intro n
 induction n with
 | zero => intro x_p x_limit r h; cases h
 | succ n ih =>
 intro x_p x_limit r h
 unfold ref09_Total at h
 refine callP_of_spec cf21 okP Tryz.func21 (by rfl) (by kernel_rfl) Tryz.call21 Tryz.ntmps21 (by rfl) (by rfl) ?_;intro E H0 K hE hK
 have hO : Own Eq H0 [] H0 := .start stable_eq rfl
 cbv;obtain ⟨s2, hx, h⟩ := bind_some h;refine n_loopN cf21 hE okP (fun s1 => [(1, .v (.int .i64 x_limit)), (2, .v (.eref [.int .i64 x_p.Op, .sl (Ar.lst Encs.eGPattern x_p.Args) .ro, .int .i64 x_p.Typ, .int .i64 x_p.Var, .int .i64 x_p.Scope, .int .i64 x_p.Span, .int .i64 x_p.Cond.Op, .sl (Ar.lst Encs.eGExpr x_p.Cond.Args) .ro, .int .i64 x_p.Cond.Var, .int .i64 x_p.Cond.Field, .int .i64 x_p.Cond.Kind, .int .i64 x_p.Cond.Value.Kind, .int .i64 x_p.Cond.Value.Num, .str x_p.Cond.Value.Text] 0)), (5, .v (.int .i64 s1.1)), (6, .v (.int .i64 s1.2))]) (fun s1 H1 => Own Eq H0 [] H1) (fun x e l H1 => e = .exit 0 ∧ l = [(5, .v (.int .i64 x))] ∧ Own Eq H0 [] H1) (by kernel_rfl) ?_ hx ?_ hO ?_
 ·intro s1 H o hO h;clear hx;cbv;refine n_ln hE ?_;cbv;refine n_br hE h (fun hc h => ?_) (fun hc h => ?_)
  ·cbv;refine n_idx hE Encs.eGPattern_eq h fun x3 h => ?_;cbv;refine n_call hE (g := fun r4 => .int .i64 r4) h (fun r4 hx => ih x3 x_limit r4 hx) (.refl _) fun r4 h => ?_;cbv;have h := ret_some h;subst h;exact ⟨_, rfl, .e rfl (.e rfl (.e rfl (.e rfl (.z)))), rfl, hO⟩
  cbv;have h := ret_some h;subst h;exact ⟨_, _, rfl, ⟨rfl, rfl, hO⟩, .e rfl (.z), rfl⟩
 ·exact .e rfl (.e rfl (.e rfl (.e rfl (.z))))
 clear hx;rintro e l H ⟨rfl, rfl, hO⟩;cbv;have h := ret_some h;subst h;exact hK _ _ _ hO (.refl _)
def cf22 : Cf := ⟨[], [], [], [], [], []⟩
theorem c22 (N : Nat) : ∀ (n : Nat) (x_p : GPattern) (r : (List GPattern)), ref09_Nodes N n x_p = some r → CallP Tryz.prog 22 [.agg [.int .i64 x_p.Op, .sl (Ar.lst Encs.eGPattern x_p.Args) .ro, .int .i64 x_p.Typ, .int .i64 x_p.Var, .int .i64 x_p.Scope, .int .i64 x_p.Span, .int .i64 x_p.Cond.Op, .sl (Ar.lst Encs.eGExpr x_p.Cond.Args) .ro, .int .i64 x_p.Cond.Var, .int .i64 x_p.Cond.Field, .int .i64 x_p.Cond.Kind, .int .i64 x_p.Cond.Value.Kind, .int .i64 x_p.Cond.Value.Num, .str x_p.Cond.Value.Text]] (.sl (Ar.lst Encs.eGPattern r) .ro) := by
 intro n
 induction n with
 | zero => intro x_p r h; cases h
 | succ n ih =>
 intro x_p r h
 unfold ref09_Nodes at h
 refine callP_of_spec cf22 okP Tryz.func22 (by rfl) (by kernel_rfl) Tryz.call22 Tryz.ntmps22 (by rfl) (by rfl) ?_;intro E H0 K hE hK
 have hO : Own Eq H0 [] H0 := .start stable_eq rfl
 cbv;replace hO := hO.tl0 (t := .full) rfl;obtain ⟨s3, hx, h⟩ := bind_some h;refine n_loopG cf22 hE okP (γ := Tail) (fun s1 g => [(1, .v (.eref [.int .i64 x_p.Op, .sl (Ar.lst Encs.eGPattern x_p.Args) .ro, .int .i64 x_p.Typ, .int .i64 x_p.Var, .int .i64 x_p.Scope, .int .i64 x_p.Span, .int .i64 x_p.Cond.Op, .sl (Ar.lst Encs.eGExpr x_p.Cond.Args) .ro, .int .i64 x_p.Cond.Var, .int .i64 x_p.Cond.Field, .int .i64 x_p.Cond.Kind, .int .i64 x_p.Cond.Value.Kind, .int .i64 x_p.Cond.Value.Num, .str x_p.Cond.Value.Text] 0)), (3, .v (.sl (Ar.lst Encs.eGPattern s1.1) g)), (4, .v (.int .i64 s1.2))]) (fun s1 g H1 => Appn g ∧ Own Eq H0 [.tl g] H1) (fun x e l H1 => ∃ u1 : Tail, Appn u1 ∧ e = .exit 0 ∧ l = [(3, .v (.sl (Ar.lst Encs.eGPattern x) u1))] ∧ Own Eq H0 [.tl u1] H1) (by kernel_rfl) ?_ .full hx ?_ ?_ ?_
 ·rintro s1 t2 H o ⟨ht2, hO⟩ h;clear hx;cbv;refine n_ln hE ?_;cbv;refine n_br hE h (fun hc h => ?_) (fun hc h => ?_)
  ·cbv;refine n_idx hE Encs.eGPattern_eq h fun x4 h => ?_;cbv;refine n_call hE (g := fun r5 => .sl (Ar.lst Encs.eGPattern r5) .ro) h (fun r5 hx => ih x4 r5 hx) (.refl _) fun r5 h => ?_;cbv;refine n_appn (f := Encs.eGPattern) hE sz_GPattern (by decide) hO 0 rfl ht2 (l := s1.1) (m := r5) (.refl _) (.refl _) h fun l7 t6 H hO ht6 h => ?_;cbv;have h := ret_some h;subst h;exact ⟨_, t6, rfl, .e rfl (.e rfl (.e rfl (.z))), rfl, ht6, hO⟩
  cbv;have h := ret_some h;subst h;exact ⟨_, _, rfl, ⟨t2, ht2, rfl, rfl, hO⟩, .e rfl (.z), rfl⟩
 ·exact .e rfl (.v (.slt _ (.lstc (.eq (Encs.eGPattern_eq x_p) (.refl _)) (.lst0))) (.e rfl (.z)))
 ·exact ⟨trivial, hO⟩
 clear hx;rintro e l H ⟨t8, ht8, rfl, rfl, hO⟩;cbv;have h := ret_some h;subst h;exact hK _ _ _ hO (.ro _ _)
def cf23 : Cf := ⟨[], [], [], [], [], []⟩
theorem c23 (N : Nat) : ∀ (n : Nat) (x_e : GExpr) (x_limit : Int) (r : Int), ref08_Count N n x_e x_limit = some r → CallP Tryz.prog 23 [.agg [.int .i64 x_e.Op, .sl (Ar.lst Encs.eGExpr x_e.Args) .ro, .int .i64 x_e.Var, .int .i64 x_e.Field, .int .i64 x_e.Kind, .int .i64 x_e.Value.Kind, .int .i64 x_e.Value.Num, .str x_e.Value.Text], .int .i64 x_limit] (.int .i64 r) := by
 intro n
 induction n with
 | zero => intro x_e x_limit r h; cases h
 | succ n ih =>
 intro x_e x_limit r h
 unfold ref08_Count at h
 refine callP_of_spec cf23 okP Tryz.func23 (by rfl) (by kernel_rfl) Tryz.call23 Tryz.ntmps23 (by rfl) (by rfl) ?_;intro E H0 K hE hK
 have hO : Own Eq H0 [] H0 := .start stable_eq rfl
 cbv;obtain ⟨s2, hx, h⟩ := bind_some h;refine n_loopN cf23 hE okP (fun s1 => [(1, .v (.int .i64 x_limit)), (2, .v (.eref [.int .i64 x_e.Op, .sl (Ar.lst Encs.eGExpr x_e.Args) .ro, .int .i64 x_e.Var, .int .i64 x_e.Field, .int .i64 x_e.Kind, .int .i64 x_e.Value.Kind, .int .i64 x_e.Value.Num, .str x_e.Value.Text] 0)), (5, .v (.int .i64 s1.1)), (6, .v (.int .i64 s1.2))]) (fun s1 H1 => Own Eq H0 [] H1) (fun x e l H1 => e = .exit 0 ∧ l = [(5, .v (.int .i64 x))] ∧ Own Eq H0 [] H1) (by kernel_rfl) ?_ hx ?_ hO ?_
 ·intro s1 H o hO h;clear hx;cbv;refine n_ln hE ?_;cbv;refine n_br hE h (fun hc h => ?_) (fun hc h => ?_)
  ·cbv;refine n_idx hE Encs.eGExpr_eq h fun x3 h => ?_;cbv;refine n_call hE (g := fun r4 => .int .i64 r4) h (fun r4 hx => ih x3 x_limit r4 hx) (.refl _) fun r4 h => ?_;cbv;have h := ret_some h;subst h;exact ⟨_, rfl, .e rfl (.e rfl (.e rfl (.e rfl (.z)))), rfl, hO⟩
  cbv;have h := ret_some h;subst h;exact ⟨_, _, rfl, ⟨rfl, rfl, hO⟩, .e rfl (.z), rfl⟩
 ·exact .e rfl (.e rfl (.e rfl (.e rfl (.z))))
 clear hx;rintro e l H ⟨rfl, rfl, hO⟩;cbv;have h := ret_some h;subst h;exact hK _ _ _ hO (.refl _)
def cf4 : Cf := ⟨[], [], [], [], [], []⟩
theorem c4 (N : Nat) (x_p : GPattern) (r : Bool) (h : ref09_Small N x_p = some r) : CallP Tryz.prog 4 [.agg [.int .i64 x_p.Op, .sl (Ar.lst Encs.eGPattern x_p.Args) .ro, .int .i64 x_p.Typ, .int .i64 x_p.Var, .int .i64 x_p.Scope, .int .i64 x_p.Span, .int .i64 x_p.Cond.Op, .sl (Ar.lst Encs.eGExpr x_p.Cond.Args) .ro, .int .i64 x_p.Cond.Var, .int .i64 x_p.Cond.Field, .int .i64 x_p.Cond.Kind, .int .i64 x_p.Cond.Value.Kind, .int .i64 x_p.Cond.Value.Num, .str x_p.Cond.Value.Text]] (.bool r) := by
 unfold ref09_Small at h
 refine callP_of_spec cf4 okP Tryz.func4 (by rfl) (by kernel_rfl) Tryz.call4 Tryz.ntmps4 (by rfl) (by rfl) ?_;intro E H0 K hE hK
 have hO : Own Eq H0 [] H0 := .start stable_eq rfl
 cbv;refine n_call hE (g := fun r1 => .int .i64 r1) h (fun r1 hx => c21 N N x_p 9 r1 hx) (.refl _) fun r1 h => ?_;cbv;refine n_br hE h (fun hc h => ?_) (fun hc h => ?_)
 ·cbv;have h := ret_some h;subst h;exact hK _ _ _ hO (.refl _)
 cbv;refine n_call hE (g := fun r2 => .sl (Ar.lst Encs.eGPattern r2) .ro) h (fun r2 hx => c22 N N x_p r2 hx) (.refl _) fun r2 h => ?_;cbv;obtain ⟨s4, hx, h⟩ := bind_some h;refine n_loopN cf4 hE okP (fun s3 => [(3, .v (.sl (Ar.lst Encs.eGPattern r2) .ro)), (4, .v (.int .i64 s3))]) (fun s3 H1 => Own Eq H0 [] H1) (fun x e l H1 => match (generalizing := false) x with | .inl y => e = .exit 0 ∧ l = [] ∧ Own Eq H0 [] H1 | .inr y => e = .ret ∧ l = [(2, .b false)] ∧ Own Eq H0 [] H1) (by kernel_rfl) ?_ hx ?_ hO ?_
 ·intro s3 H o hO h;clear hx;cbv;refine n_ln hE ?_;cbv;refine n_br hE h (fun hc h => ?_) (fun hc h => ?_)
  ·cbv;refine n_idx hE Encs.eGPattern_eq h fun x5 h => ?_;cbv;refine n_call hE (g := fun r6 => .int .i64 r6) h (fun r6 hx => c23 N N x5.Cond 20 r6 hx) (.refl _) fun r6 h => ?_;cbv;refine n_br hE h (fun hc h => ?_) (fun hc h => ?_)
   ·cbv;have h := ret_some h;subst h;exact ⟨_, _, rfl, ⟨rfl, rfl, hO⟩, .b rfl (.z), rfl⟩
   cbv;have h := ret_some h;subst h;exact ⟨_, rfl, .e rfl (.e rfl (.z)), rfl, hO⟩
  cbv;have h := ret_some h;subst h;exact ⟨_, _, rfl, ⟨rfl, rfl, hO⟩, .z, rfl⟩
 ·exact .e rfl (.e rfl (.z))
 clear hx
 rcases s4 with y7 | y8
 ·rintro e l H ⟨rfl, rfl, hO⟩;cbv;have h := ret_some h;subst h;exact hK _ _ _ hO (.refl _)
 rintro e l H ⟨rfl, rfl, hO⟩;cbv;have h := ret_some h;subst h;exact hK _ _ _ hO (.refl _)
def cf63 : Cf := ⟨[], [], [], [], [], []⟩
theorem c63 (N : Nat) : ∀ (n : Nat) (x_p : GPattern) (r : (List GPattern)), pattern_walk N n x_p = some r → EmitP Tryz.prog 63 (fun yv => [.agg [.int .i64 x_p.Op, .sl (Ar.lst Encs.eGPattern x_p.Args) .ro, .int .i64 x_p.Typ, .int .i64 x_p.Var, .int .i64 x_p.Scope, .int .i64 x_p.Span, .int .i64 x_p.Cond.Op, .sl (Ar.lst Encs.eGExpr x_p.Cond.Args) .ro, .int .i64 x_p.Cond.Var, .int .i64 x_p.Cond.Field, .int .i64 x_p.Cond.Kind, .int .i64 x_p.Cond.Value.Kind, .int .i64 x_p.Cond.Value.Num, .str x_p.Cond.Value.Text], yv]) (List.map (fun (x : GPattern) => [.agg [.int .i64 x.Op, .sl (Ar.lst Encs.eGPattern x.Args) .ro, .int .i64 x.Typ, .int .i64 x.Var, .int .i64 x.Scope, .int .i64 x.Span, .int .i64 x.Cond.Op, .sl (Ar.lst Encs.eGExpr x.Cond.Args) .ro, .int .i64 x.Cond.Var, .int .i64 x.Cond.Field, .int .i64 x.Cond.Kind, .int .i64 x.Cond.Value.Kind, .int .i64 x.Cond.Value.Num, .str x.Cond.Value.Text]]) r) rbB := by
 intro n
 induction n with
 | zero => intro x_p r h; cases h
 | succ n ih =>
 intro x_p r h
 unfold pattern_walk at h
 obtain ⟨⟨w0, u0⟩, h1, hr⟩ := bind_some h;clear h
 have hr := ret_some hr
 subst hr;have h := h1;clear h1;refine emitP_of_spec cf63 okP Tryz.func63 (by rfl) (by kernel_rfl) Tryz.call63 Tryz.ntmps63 (by rfl) (fun _ => rfl) ?_;intro yv I D hI hD hy tl F E H K hE hO hK hKD
 have hO : Own (I (List.map (fun (x : GPattern) => [.agg [.int .i64 x.Op, .sl (Ar.lst Encs.eGPattern x.Args) .ro, .int .i64 x.Typ, .int .i64 x.Var, .int .i64 x.Scope, .int .i64 x.Span, .int .i64 x.Cond.Op, .sl (Ar.lst Encs.eGExpr x.Cond.Args) .ro, .int .i64 x.Cond.Var, .int .i64 x.Cond.Field, .int .i64 x.Cond.Kind, .int .i64 x.Cond.Value.Kind, .int .i64 x.Cond.Value.Num, .str x.Cond.Value.Text]]) (w0 ++ []) ++ tl)) F [] H := by rw [List.append_nil]; exact hO
 cbv;obtain ⟨w1, h1, he⟩ := thenE_ret h;clear h;have h := h1;clear h1
 rw [he, List.append_assoc] at hO
 clear he
 have hO : Own (I ([.agg [.int .i64 x_p.Op, .sl (Ar.lst Encs.eGPattern x_p.Args) .ro, .int .i64 x_p.Typ, .int .i64 x_p.Var, .int .i64 x_p.Scope, .int .i64 x_p.Span, .int .i64 x_p.Cond.Op, .sl (Ar.lst Encs.eGExpr x_p.Cond.Args) .ro, .int .i64 x_p.Cond.Var, .int .i64 x_p.Cond.Field, .int .i64 x_p.Cond.Kind, .int .i64 x_p.Cond.Value.Kind, .int .i64 x_p.Cond.Value.Num, .str x_p.Cond.Value.Text]] :: (List.map (fun (x : GPattern) => [.agg [.int .i64 x.Op, .sl (Ar.lst Encs.eGPattern x.Args) .ro, .int .i64 x.Typ, .int .i64 x.Var, .int .i64 x.Scope, .int .i64 x.Span, .int .i64 x.Cond.Op, .sl (Ar.lst Encs.eGExpr x.Cond.Args) .ro, .int .i64 x.Cond.Var, .int .i64 x.Cond.Field, .int .i64 x.Cond.Kind, .int .i64 x.Cond.Value.Kind, .int .i64 x.Cond.Value.Num, .str x.Cond.Value.Text]]) (w1 ++ []) ++ tl))) F [] _ := hO
 refine n_yield hE hI hD hy hO (.refl _) (fun H hO => ?_) (fun H hO => ?_)
 ·cbv;refine n_brF hE (Ar.nt_eq _) ?_;cbv;refine n_ln hE ?_;cbv;obtain ⟨w3, w4, s7, hx, h1, he⟩ := thenE_some h;clear h;have h := h1;clear h1
  rw [he, List.append_assoc] at hO
  clear he;refine n_loopE cf63 hE okP (γ := Unit) (fun s2 g => [(1, .v (yv)), (12, .v (.sl (Ar.lst Encs.eGPattern x_p.Args) .ro)), (13, .v (.int .i64 (Ar.len x_p.Args))), (14, .v (.int .i64 s2))]) (fun s2 g w H1 => Own (I (List.map (fun (x : GPattern) => [.agg [.int .i64 x.Op, .sl (Ar.lst Encs.eGPattern x.Args) .ro, .int .i64 x.Typ, .int .i64 x.Var, .int .i64 x.Scope, .int .i64 x.Span, .int .i64 x.Cond.Op, .sl (Ar.lst Encs.eGExpr x.Cond.Args) .ro, .int .i64 x.Cond.Var, .int .i64 x.Cond.Field, .int .i64 x.Cond.Kind, .int .i64 x.Cond.Value.Kind, .int .i64 x.Cond.Value.Num, .str x.Cond.Value.Text]]) w ++ tl)) F [] H1) (fun x e l w H1 => e = .exit 0 ∧ l = [] ∧ Own (I (List.map (fun (x : GPattern) => [.agg [.int .i64 x.Op, .sl (Ar.lst Encs.eGPattern x.Args) .ro, .int .i64 x.Typ, .int .i64 x.Var, .int .i64 x.Scope, .int .i64 x.Span, .int .i64 x.Cond.Op, .sl (Ar.lst Encs.eGExpr x.Cond.Args) .ro, .int .i64 x.Cond.Var, .int .i64 x.Cond.Field, .int .i64 x.Cond.Kind, .int .i64 x.Cond.Value.Kind, .int .i64 x.Cond.Value.Num, .str x.Cond.Value.Text]]) w ++ tl)) F [] H1) (fun e l H1 => (e = .ret ∧ l = [(4, .b false)] ∧ Own D F [] H1)) (by kernel_rfl) ?_ (w' := w4 ++ []) () hx ?_ ?_ ?_ ?_
  ·rintro s2 _ w5 w6 H o hO h;clear hx
   skip
   cbv;refine n_br hE h (fun hc h => ?_) (fun hc h => ?_)
   ·cbv;refine n_idx hE Encs.eGPattern_eq h fun x8 h => ?_;cbv;obtain ⟨l9, hl, h⟩ := bind_some h;obtain ⟨w10, h1, he⟩ := thenE_ret h;clear h;have h := h1;clear h1
    rw [he, List.append_assoc] at hO
    clear he
    rw [List.map_append, List.append_assoc] at hO
    refine n_emit hE hI hD hy (ih x8 l9 hl) hO (.refl _) (fun v H hb hO => ?_) (fun v H hb hO => ?_)
    ·cases hb
     clear hl;cbv;refine n_brF hE (Ar.nt_eq _) ?_;cbv;obtain ⟨hw, rfl⟩ := pair_some h
     rw [← hw] at hO
     exact ⟨_, (), rfl, .e rfl (.e rfl (.e rfl (.e rfl (.z)))), rfl, hO⟩
    cases hb
    clear h hl;cbv;refine n_brT hE (Ar.nt_eq _) ?_;cbv;exact .inr ⟨_, ⟨rfl, rfl, hO⟩, .b rfl (.z), rfl⟩
   cbv;obtain ⟨hw, rfl⟩ := pair_some h
   rw [← hw] at hO
   exact .inl ⟨_, _, rfl, ⟨rfl, rfl, hO⟩, .z, rfl⟩
  ·exact .e rfl (.e rfl (.e rfl (.e rfl (.z))))
  ·exact hO
  ·rintro e l H ⟨rfl, rfl, hO⟩;clear hx;cbv;obtain ⟨hw, _⟩ := pair_some h
   rw [← hw] at hO
   exact hK _ _ _ hO rfl
  rintro e l H hX;obtain ⟨rfl, rfl, hO⟩ := hX;clear h;cbv;exact hKD _ _ _ hO rfl
 clear h;cbv;refine n_brT hE (Ar.nt_eq _) ?_;cbv;exact hKD _ _ _ hO rfl
def cf62 : Cf := ⟨[], [], [], [], [], []⟩
theorem c62 (N : Nat) (x_1 : GPattern) (r : (List GPattern)) (h : pattern_preorder_1 N x_1 = some r) : EmitP Tryz.prog 62 (fun yv => [yv, .eref [.int .i64 x_1.Op, .sl (Ar.lst Encs.eGPattern x_1.Args) .ro, .int .i64 x_1.Typ, .int .i64 x_1.Var, .int .i64 x_1.Scope, .int .i64 x_1.Span, .int .i64 x_1.Cond.Op, .sl (Ar.lst Encs.eGExpr x_1.Cond.Args) .ro, .int .i64 x_1.Cond.Var, .int .i64 x_1.Cond.Field, .int .i64 x_1.Cond.Kind, .int .i64 x_1.Cond.Value.Kind, .int .i64 x_1.Cond.Value.Num, .str x_1.Cond.Value.Text] 0]) (List.map (fun (x : GPattern) => [.agg [.int .i64 x.Op, .sl (Ar.lst Encs.eGPattern x.Args) .ro, .int .i64 x.Typ, .int .i64 x.Var, .int .i64 x.Scope, .int .i64 x.Span, .int .i64 x.Cond.Op, .sl (Ar.lst Encs.eGExpr x.Cond.Args) .ro, .int .i64 x.Cond.Var, .int .i64 x.Cond.Field, .int .i64 x.Cond.Kind, .int .i64 x.Cond.Value.Kind, .int .i64 x.Cond.Value.Num, .str x.Cond.Value.Text]]) r) rbN := by
 unfold pattern_preorder_1 at h
 obtain ⟨⟨w0, u0⟩, h1, hr⟩ := bind_some h;clear h
 have hr := ret_some hr
 subst hr;have h := h1;clear h1;refine emitP_of_spec cf62 okP Tryz.func62 (by rfl) (by kernel_rfl) Tryz.call62 Tryz.ntmps62 (by rfl) (fun _ => rfl) ?_;intro yv I D hI hD hy tl F E H K hE hO hK hKD
 have hO : Own (I (List.map (fun (x : GPattern) => [.agg [.int .i64 x.Op, .sl (Ar.lst Encs.eGPattern x.Args) .ro, .int .i64 x.Typ, .int .i64 x.Var, .int .i64 x.Scope, .int .i64 x.Span, .int .i64 x.Cond.Op, .sl (Ar.lst Encs.eGExpr x.Cond.Args) .ro, .int .i64 x.Cond.Var, .int .i64 x.Cond.Field, .int .i64 x.Cond.Kind, .int .i64 x.Cond.Value.Kind, .int .i64 x.Cond.Value.Num, .str x.Cond.Value.Text]]) (w0 ++ []) ++ tl)) F [] H := by rw [List.append_nil]; exact hO
 cbv;obtain ⟨l1, hl, h⟩ := bind_some h;obtain ⟨w2, h1, he⟩ := thenE_ret h;clear h;have h := h1;clear h1
 rw [he, List.append_assoc] at hO
 clear he
 rw [List.map_append, List.append_assoc] at hO
 refine n_emit hE hI hD hy (c63 N N x_1 l1 hl) hO (.refl _) (fun v H hb hO => ?_) (fun v H hb hO => ?_)
 ·cases hb
  clear hl;cbv;obtain ⟨hw, _⟩ := pair_some h
  rw [← hw] at hO
  exact hK _ _ _ hO trivial
 cases hb
 clear h hl;cbv;exact hKD _ _ _ hO trivial
def cf39 : Cf := ⟨[], [], [], [], [], []⟩
theorem c39 (N : Nat) (x_p : GPattern) (r : (List GPattern)) (h : pattern_preorder N x_p = some r) : CallQ Tryz.prog 39 [.agg [.int .i64 x_p.Op, .sl (Ar.lst Encs.eGPattern x_p.Args) .ro, .int .i64 x_p.Typ, .int .i64 x_p.Var, .int .i64 x_p.Scope, .int .i64 x_p.Span, .int .i64 x_p.Cond.Op, .sl (Ar.lst Encs.eGExpr x_p.Cond.Args) .ro, .int .i64 x_p.Cond.Var, .int .i64 x_p.Cond.Field, .int .i64 x_p.Cond.Kind, .int .i64 x_p.Cond.Value.Kind, .int .i64 x_p.Cond.Value.Num, .str x_p.Cond.Value.Text]] (fun v => IterV Tryz.prog v (r.map fun (x : GPattern) => [.agg [.int .i64 x.Op, .sl (Ar.lst Encs.eGPattern x.Args) .ro, .int .i64 x.Typ, .int .i64 x.Var, .int .i64 x.Scope, .int .i64 x.Span, .int .i64 x.Cond.Op, .sl (Ar.lst Encs.eGExpr x.Cond.Args) .ro, .int .i64 x.Cond.Var, .int .i64 x.Cond.Field, .int .i64 x.Cond.Kind, .int .i64 x.Cond.Value.Kind, .int .i64 x.Cond.Value.Num, .str x.Cond.Value.Text]])) := by
 unfold pattern_preorder at h
 refine callQ_of_spec cf39 okP Tryz.func39 (by rfl) (by kernel_rfl) Tryz.call39 Tryz.ntmps39 (by rfl) (by rfl) ?_;intro E H0 K hE hK
 have hO : Own Eq H0 [] H0 := .start stable_eq rfl
 cbv;exact hK _ _ _ hO (iterV_of_emit Tryz.call62 (c62 N x_p r h))
def cf49 : Cf := ⟨[], [], [], [], [], []⟩
theorem c49 (N : Nat) : ∀ (n : Nat) (x_p : GPattern) (r : (Int × Int)), pattern_Size N n x_p = some r → CallP Tryz.prog 49 [.agg [.int .i64 x_p.Op, .sl (Ar.lst Encs.eGPattern x_p.Args) .ro, .int .i64 x_p.Typ, .int .i64 x_p.Var, .int .i64 x_p.Scope, .int .i64 x_p.Span, .int .i64 x_p.Cond.Op, .sl (Ar.lst Encs.eGExpr x_p.Cond.Args) .ro, .int .i64 x_p.Cond.Var, .int .i64 x_p.Cond.Field, .int .i64 x_p.Cond.Kind, .int .i64 x_p.Cond.Value.Kind, .int .i64 x_p.Cond.Value.Num, .str x_p.Cond.Value.Text]] (.tup [.int .i64 r.1, .int .i64 r.2]) := by
 intro n
 induction n with
 | zero => intro x_p r h; cases h
 | succ n ih =>
 intro x_p r h
 unfold pattern_Size at h
 refine callP_of_spec cf49 okP Tryz.func49 (by rfl) (by kernel_rfl) Tryz.call49 Tryz.ntmps49 (by rfl) (by rfl) ?_;intro E H0 K hE hK
 have hO : Own Eq H0 [] H0 := .start stable_eq rfl
 cbv;refine n_ln hE ?_;cbv;obtain ⟨s2, hx, h⟩ := bind_some h;refine n_loopN cf49 hE okP (fun s1 => [(4, .v (.int .i64 s1.1)), (5, .v (.int .i64 s1.2.1)), (11, .v (.sl (Ar.lst Encs.eGPattern x_p.Args) .ro)), (12, .v (.int .i64 (Ar.len x_p.Args))), (13, .v (.int .i64 s1.2.2))]) (fun s1 H1 => Own Eq H0 [] H1) (fun x e l H1 => e = .exit 0 ∧ l = [(4, .v (.int .i64 x.1)), (5, .v (.int .i64 x.2))] ∧ Own Eq H0 [] H1) (by kernel_rfl) ?_ hx ?_ hO ?_
 ·intro s1 H o hO h;clear hx;cbv;refine n_br hE h (fun hc h => ?_) (fun hc h => ?_)
  ·cbv;refine n_idx hE Encs.eGPattern_eq h fun x3 h => ?_;cbv;refine n_call hE (g := fun r4 => .tup [.int .i64 r4.1, .int .i64 r4.2]) h (fun r4 hx => ih x3 r4 hx) (.refl _) fun r4 h => ?_;cbv;have h := ret_some h;subst h;exact ⟨_, rfl, .e rfl (.e rfl (.e rfl (.e rfl (.e rfl (.z))))), rfl, hO⟩
  cbv;have h := ret_some h;subst h;exact ⟨_, _, rfl, ⟨rfl, rfl, hO⟩, .e rfl (.e rfl (.z)), rfl⟩
 ·exact .e rfl (.e rfl (.e rfl (.e rfl (.e rfl (.z)))))
 clear hx;rintro e l H ⟨rfl, rfl, hO⟩;cbv;have h := ret_some h;subst h;exact hK _ _ _ hO (.refl _)
def cf70 : Cf := ⟨[], [(6, 10)], [], [], [], []⟩
theorem c70 (N : Nat) : ∀ (n : Nat) (x_a : GExpr) (x_b : GExpr) (r : Bool), expr_Same N n x_a x_b = some r → CallP Tryz.prog 70 [.agg [.int .i64 x_a.Op, .sl (Ar.lst Encs.eGExpr x_a.Args) .ro, .int .i64 x_a.Var, .int .i64 x_a.Field, .int .i64 x_a.Kind, .int .i64 x_a.Value.Kind, .int .i64 x_a.Value.Num, .str x_a.Value.Text], .agg [.int .i64 x_b.Op, .sl (Ar.lst Encs.eGExpr x_b.Args) .ro, .int .i64 x_b.Var, .int .i64 x_b.Field, .int .i64 x_b.Kind, .int .i64 x_b.Value.Kind, .int .i64 x_b.Value.Num, .str x_b.Value.Text]] (.bool r) := by
 intro n
 induction n with
 | zero => intro x_a x_b r h; cases h
 | succ n ih =>
 intro x_a x_b r h
 unfold expr_Same at h
 refine callP_of_spec cf70 okP Tryz.func70 (by rfl) (by kernel_rfl) Tryz.call70 Tryz.ntmps70 (by rfl) (by rfl) ?_;intro E H0 K hE hK
 have hO : Own Eq H0 [] H0 := .start stable_eq rfl
 cbv;refine n_ln hE ?_;cbv;refine n_ln hE ?_;cbv;refine n_br hE h (fun hc h => ?_) (fun hc h => ?_)
 ·cbv;have h := ret_some h;subst h;exact hK _ _ _ hO (.refl _)
 cbv;refine n_ln hE ?_;cbv;obtain ⟨s2, hx, h⟩ := bind_some h;refine n_loopN cf70 hE okP (fun s1 => [(2, .v (.eref [.int .i64 x_a.Op, .sl (Ar.lst Encs.eGExpr x_a.Args) .ro, .int .i64 x_a.Var, .int .i64 x_a.Field, .int .i64 x_a.Kind, .int .i64 x_a.Value.Kind, .int .i64 x_a.Value.Num, .str x_a.Value.Text] 0)), (3, .v (.eref [.int .i64 x_b.Op, .sl (Ar.lst Encs.eGExpr x_b.Args) .ro, .int .i64 x_b.Var, .int .i64 x_b.Field, .int .i64 x_b.Kind, .int .i64 x_b.Value.Kind, .int .i64 x_b.Value.Num, .str x_b.Value.Text] 0)), (50, .v (.int .i64 (Ar.len x_a.Args))), (51, .v (.int .i64 s1))]) (fun s1 H1 => Own Eq H0 [] H1) (fun x e l H1 => match (generalizing := false) x with | .inl y => e = .exit 0 ∧ l = [] ∧ Own Eq H0 [] H1 | .inr y => e = .ret ∧ l = [(4, .b false)] ∧ Own Eq H0 [] H1) (by kernel_rfl) ?_ hx ?_ hO ?_
 ·intro s1 H o hO h;clear hx;cbv;refine n_br hE h (fun hc h => ?_) (fun hc h => ?_)
  ·cbv;refine n_idx hE Encs.eGExpr_eq h fun x3 h => ?_;cbv;refine n_idx hE Encs.eGExpr_eq h fun x4 h => ?_;cbv;refine n_call hE (g := fun r5 => .bool r5) h (fun r5 hx => ih x3 x4 r5 hx) (.refl _) fun r5 h => ?_;cbv;refine n_br hE h (fun hc h => ?_) (fun hc h => ?_)
   ·cbv;have h := ret_some h;subst h;exact ⟨_, _, rfl, ⟨rfl, rfl, hO⟩, .b rfl (.z), rfl⟩
   cbv;have h := ret_some h;subst h;exact ⟨_, rfl, .e rfl (.e rfl (.e rfl (.e rfl (.z)))), rfl, hO⟩
  cbv;have h := ret_some h;subst h;exact ⟨_, _, rfl, ⟨rfl, rfl, hO⟩, .z, rfl⟩
 ·exact .e rfl (.e rfl (.e rfl (.e rfl (.z))))
 clear hx
 rcases s2 with y6 | y7
 ·rintro e l H ⟨rfl, rfl, hO⟩;cbv;have h := ret_some h;subst h;exact hK _ _ _ hO (.refl _)
 rintro e l H ⟨rfl, rfl, hO⟩;cbv;have h := ret_some h;subst h;exact hK _ _ _ hO (.refl _)
def cf73 : Cf := ⟨[], [], [], [], [], []⟩
theorem c73 (N : Nat) (x_used : Bool) (x_n : Int) (x_most : Int) (r : Bool) (h : pattern_within N x_used x_n x_most = some r) : CallP Tryz.prog 73 [.bool x_used, .int .i64 x_n, .int .i64 x_most] (.bool r) := by
 unfold pattern_within at h
 refine callP_of_spec cf73 okP Tryz.func73 (by rfl) (by kernel_rfl) Tryz.call73 Tryz.ntmps73 (by rfl) (by rfl) ?_;intro E H0 K hE hK
 have hO : Own Eq H0 [] H0 := .start stable_eq rfl
 cbv;have h := ret_some h;subst h;exact hK _ _ _ hO (.refl _)
def cf90 : Cf := ⟨[], [], [], [], [], []⟩
theorem c90 (N : Nat) : ∀ (n : Nat) (x_e : GExpr) (r : (Int × Int)), expr_Size N n x_e = some r → CallP Tryz.prog 90 [.agg [.int .i64 x_e.Op, .sl (Ar.lst Encs.eGExpr x_e.Args) .ro, .int .i64 x_e.Var, .int .i64 x_e.Field, .int .i64 x_e.Kind, .int .i64 x_e.Value.Kind, .int .i64 x_e.Value.Num, .str x_e.Value.Text]] (.tup [.int .i64 r.1, .int .i64 r.2]) := by
 intro n
 induction n with
 | zero => intro x_e r h; cases h
 | succ n ih =>
 intro x_e r h
 unfold expr_Size at h
 refine callP_of_spec cf90 okP Tryz.func90 (by rfl) (by kernel_rfl) Tryz.call90 Tryz.ntmps90 (by rfl) (by rfl) ?_;intro E H0 K hE hK
 have hO : Own Eq H0 [] H0 := .start stable_eq rfl
 cbv;refine n_ln hE ?_;cbv;obtain ⟨s2, hx, h⟩ := bind_some h;refine n_loopN cf90 hE okP (fun s1 => [(4, .v (.int .i64 s1.1)), (5, .v (.int .i64 s1.2.1)), (11, .v (.sl (Ar.lst Encs.eGExpr x_e.Args) .ro)), (12, .v (.int .i64 (Ar.len x_e.Args))), (13, .v (.int .i64 s1.2.2))]) (fun s1 H1 => Own Eq H0 [] H1) (fun x e l H1 => e = .exit 0 ∧ l = [(4, .v (.int .i64 x.1)), (5, .v (.int .i64 x.2))] ∧ Own Eq H0 [] H1) (by kernel_rfl) ?_ hx ?_ hO ?_
 ·intro s1 H o hO h;clear hx;cbv;refine n_br hE h (fun hc h => ?_) (fun hc h => ?_)
  ·cbv;refine n_idx hE Encs.eGExpr_eq h fun x3 h => ?_;cbv;refine n_call hE (g := fun r4 => .tup [.int .i64 r4.1, .int .i64 r4.2]) h (fun r4 hx => ih x3 r4 hx) (.refl _) fun r4 h => ?_;cbv;have h := ret_some h;subst h;exact ⟨_, rfl, .e rfl (.e rfl (.e rfl (.e rfl (.e rfl (.z))))), rfl, hO⟩
  cbv;have h := ret_some h;subst h;exact ⟨_, _, rfl, ⟨rfl, rfl, hO⟩, .e rfl (.e rfl (.z)), rfl⟩
 ·exact .e rfl (.e rfl (.e rfl (.e rfl (.e rfl (.z)))))
 clear hx;rintro e l H ⟨rfl, rfl, hO⟩;cbv;have h := ret_some h;subst h;exact hK _ _ _ hO (.refl _)
def cf91 : Cf := ⟨[], [], [], [], [], []⟩
theorem c91 (N : Nat) : ∀ (n : Nat) (x_e : GExpr) (v_f : V) (x_f : GExpr → Option Int) (h_f : ∀ y1 q, x_f y1 = some q → CallVP Tryz.prog v_f [.agg [.int .i64 y1.Op, .sl (Ar.lst Encs.eGExpr y1.Args) .ro, .int .i64 y1.Var, .int .i64 y1.Field, .int .i64 y1.Kind, .int .i64 y1.Value.Kind, .int .i64 y1.Value.Num, .str y1.Value.Text]] (.int .i64 q)) (r : Int), expr_visit N n x_e x_f = some r → CallP Tryz.prog 91 [.agg [.int .i64 x_e.Op, .sl (Ar.lst Encs.eGExpr x_e.Args) .ro, .int .i64 x_e.Var, .int .i64 x_e.Field, .int .i64 x_e.Kind, .int .i64 x_e.Value.Kind, .int .i64 x_e.Value.Num, .str x_e.Value.Text], v_f] (.int .i64 r) := by
 intro n
 induction n with
 | zero => intro x_e v_f x_f h_f r h; cases h
 | succ n ih =>
 intro x_e v_f x_f h_f r h
 unfold expr_visit at h
 refine callP_of_spec cf91 okP Tryz.func91 (by rfl) (by kernel_rfl) Tryz.call91 Tryz.ntmps91 (by rfl) (by rfl) ?_;intro E H0 K hE hK
 have hO : Own Eq H0 [] H0 := .start stable_eq rfl
 cbv;refine n_callF hE (g := fun r1 => .int .i64 r1) h (fun r1 hx => h_f x_e r1 hx) (.refl _) fun r1 h => ?_;cbv;refine n_br hE h (fun hc h => ?_) (fun hc h => ?_)
 ·cbv;have h := ret_some h;subst h;exact hK _ _ _ hO (.refl _)
 cbv;refine n_ln hE ?_;cbv;obtain ⟨s3, hx, h⟩ := bind_some h;refine n_loopN cf91 hE okP (fun s2 => [(1, .v (v_f)), (16, .v (.sl (Ar.lst Encs.eGExpr x_e.Args) .ro)), (17, .v (.int .i64 (Ar.len x_e.Args))), (18, .v (.int .i64 s2))]) (fun s2 H1 => Own Eq H0 [] H1) (fun x e l H1 => match (generalizing := false) x with | .inl y => e = .exit 0 ∧ l = [] ∧ Own Eq H0 [] H1 | .inr y => e = .ret ∧ l = [(4, .v (.int .i64 y))] ∧ Own Eq H0 [] H1) (by kernel_rfl) ?_ hx ?_ hO ?_
 ·intro s2 H o hO h;clear hx;cbv;refine n_br hE h (fun hc h => ?_) (fun hc h => ?_)
  ·cbv;refine n_idx hE Encs.eGExpr_eq h fun x4 h => ?_;cbv;refine n_call hE (g := fun r5 => .int .i64 r5) h (fun r5 hx => ih x4 v_f x_f h_f r5 hx) (.refl _) fun r5 h => ?_;cbv;refine n_br hE h (fun hc h => ?_) (fun hc h => ?_)
   ·cbv;have h := ret_some h;subst h;exact ⟨_, _, rfl, ⟨rfl, rfl, hO⟩, .e rfl (.z), rfl⟩
   cbv;have h := ret_some h;subst h;exact ⟨_, rfl, .e rfl (.e rfl (.e rfl (.e rfl (.z)))), rfl, hO⟩
  cbv;have h := ret_some h;subst h;exact ⟨_, _, rfl, ⟨rfl, rfl, hO⟩, .z, rfl⟩
 ·exact .e rfl (.e rfl (.e rfl (.e rfl (.z))))
 clear hx
 rcases s3 with y6 | y7
 ·rintro e l H ⟨rfl, rfl, hO⟩;cbv;have h := ret_some h;subst h;exact hK _ _ _ hO (.refl _)
 rintro e l H ⟨rfl, rfl, hO⟩;cbv;have h := ret_some h;subst h;exact hK _ _ _ hO (.refl _)
def cf101 : Cf := ⟨[], [], [], [], [], []⟩
theorem c101 (N : Nat) (x_op : Int) (r : (Int × Bool)) (h : expr_arity N x_op = some r) : CallP Tryz.prog 101 [.int .i64 x_op] (.tup [.int .i64 r.1, .bool r.2]) := by
 unfold expr_arity at h
 refine callP_of_spec cf101 okP Tryz.func101 (by rfl) (by kernel_rfl) Tryz.call101 Tryz.ntmps101 (by rfl) (by rfl) ?_;intro E H0 K hE hK
 have hO : Own Eq H0 [] H0 := .start stable_eq rfl
 cbv;refine n_br hE h (fun hc h => ?_) (fun hc h => ?_)
 ·cbv;have h := ret_some h;subst h;exact hK _ _ _ hO (.refl _)
 cbv;refine n_br hE h (fun hc h => ?_) (fun hc h => ?_)
 ·cbv;have h := ret_some h;subst h;exact hK _ _ _ hO (.refl _)
 cbv;refine n_br hE h (fun hc h => ?_) (fun hc h => ?_)
 ·cbv;have h := ret_some h;subst h;exact hK _ _ _ hO (.refl _)
 cbv;have h := ret_some h;subst h;exact hK _ _ _ hO (.refl _)
def cf102 : Cf := ⟨[], [], [(5, 4)], [], [], []⟩
theorem c102 (N : Nat) (x_op : Int) (r : (Bool × Bool)) (h : expr_uses N x_op = some r) : CallP Tryz.prog 102 [.int .i64 x_op] (.tup [.bool r.1, .bool r.2]) := by
 unfold expr_uses at h
 refine callP_of_spec cf102 okP Tryz.func102 (by rfl) (by kernel_rfl) Tryz.call102 Tryz.ntmps102 (by rfl) (by rfl) ?_;intro E H0 K hE hK
 have hO : Own Eq H0 [] H0 := .start stable_eq rfl
 cbv;obtain ⟨s1, hx, h⟩ := bind_some h;refine n_join cf102 hE okP (fun e l H1 => e = .normal ∧ l = [(4, .v (.int .i64 x_op)), (5, .v (.bool s1))] ∧ Own Eq H0 [] H1) (by kernel_rfl) ?_ ?_
 ·clear h;have h := hx;clear hx;cbv;refine n_br hE h (fun hc h => ?_) (fun hc h => ?_)
  ·cbv;have h := ret_some h;subst h;exact ⟨_, ⟨rfl, rfl, hO⟩, .e rfl (.e rfl (.z)), rfl⟩
  cbv;have h := ret_some h;subst h;exact ⟨_, ⟨rfl, rfl, hO⟩, .e rfl (.e rfl (.z)), rfl⟩
 clear hx;rintro e l H ⟨rfl, rfl, hO⟩;cbv;refine n_br hE h (fun hc h => ?_) (fun hc h => ?_)
 ·cbv;have h := ret_some h;subst h;exact hK _ _ _ hO (.refl _)
 cbv;refine n_br hE h (fun hc h => ?_) (fun hc h => ?_)
 ·cbv;have h := ret_some h;subst h;exact hK _ _ _ hO (.refl _)
 cbv;refine n_br hE h (fun hc h => ?_) (fun hc h => ?_)
 ·cbv;have h := ret_some h;subst h;exact hK _ _ _ hO (.refl _)
 cbv;have h := ret_some h;subst h;exact hK _ _ _ hO (.refl _)
def cf111 : Cf := ⟨[], [], [], [], [], []⟩
theorem c111 (N : Nat) (x_v : GValue) (r : Int) (h : value_size N x_v = some r) : CallP Tryz.prog 111 [.agg [.int .i64 x_v.Kind, .int .i64 x_v.Num, .str x_v.Text]] (.int .i64 r) := by
 unfold value_size at h
 refine callP_of_spec cf111 okP Tryz.func111 (by rfl) (by kernel_rfl) Tryz.call111 Tryz.ntmps111 (by rfl) (by rfl) ?_;intro E H0 K hE hK
 have hO : Own Eq H0 [] H0 := .start stable_eq rfl
 cbv;refine n_br hE h (fun hc h => ?_) (fun hc h => ?_)
 ·cbv;have h := ret_some h;subst h;exact hK _ _ _ hO (.refl _)
 cbv;refine n_br hE h (fun hc h => ?_) (fun hc h => ?_)
 ·cbv;have h := ret_some h;subst h;exact hK _ _ _ hO (.refl _)
 cbv;refine n_br hE h (fun hc h => ?_) (fun hc h => ?_)
 ·cbv;have h := ret_some h;subst h;exact hK _ _ _ hO (.refl _)
 cbv;have h := ret_some h;subst h;exact hK _ _ _ hO (.refl _)
def cf108 : Cf := ⟨[], [], [(5, 5)], [], [], []⟩
theorem c108 (N : Nat) (x_v : GValue) (r : Int) (h : value_Check N x_v = some r) : CallP Tryz.prog 108 [.agg [.int .i64 x_v.Kind, .int .i64 x_v.Num, .str x_v.Text]] (.int .i64 r) := by
 unfold value_Check at h
 refine callP_of_spec cf108 okP Tryz.func108 (by rfl) (by kernel_rfl) Tryz.call108 Tryz.ntmps108 (by rfl) (by rfl) ?_;intro E H0 K hE hK
 have hO : Own Eq H0 [] H0 := .start stable_eq rfl
 cbv;obtain ⟨s1, hx, h⟩ := bind_some h;refine n_join cf108 hE okP (fun e l H1 => e = .normal ∧ l = [(1, .v (.eref [.int .i64 x_v.Kind, .int .i64 x_v.Num, .str x_v.Text] 0)), (4, .v (.int .i64 x_v.Kind)), (5, .v (.bool s1))] ∧ Own Eq H0 [] H1) (by kernel_rfl) ?_ ?_
 ·clear h;have h := hx;clear hx;cbv;refine n_br hE h (fun hc h => ?_) (fun hc h => ?_)
  ·cbv;have h := ret_some h;subst h;exact ⟨_, ⟨rfl, rfl, hO⟩, .e rfl (.e rfl (.e rfl (.z))), rfl⟩
  cbv;have h := ret_some h;subst h;exact ⟨_, ⟨rfl, rfl, hO⟩, .e rfl (.e rfl (.e rfl (.z))), rfl⟩
 clear hx;rintro e l H ⟨rfl, rfl, hO⟩;cbv;refine n_br hE h (fun hc h => ?_) (fun hc h => ?_)
 ·cbv;refine n_br hE h (fun hc h => ?_) (fun hc h => ?_)
  ·cbv;have h := ret_some h;subst h;exact hK _ _ _ hO (.refl _)
  cbv;refine n_call hE (g := fun r2 => .int .i64 r2) h (fun r2 hx => c111 N x_v r2 hx) (.refl _) fun r2 h => ?_;cbv;have h := ret_some h;subst h;exact hK _ _ _ hO (.refl _)
 cbv;refine n_br hE h (fun hc h => ?_) (fun hc h => ?_)
 ·cbv;refine n_br hE h (fun hc h => ?_) (fun hc h => ?_)
  ·cbv;have h := ret_some h;subst h;exact hK _ _ _ hO (.refl _)
  cbv;refine n_call hE (g := fun r3 => .int .i64 r3) h (fun r3 hx => c111 N x_v r3 hx) (.refl _) fun r3 h => ?_;cbv;have h := ret_some h;subst h;exact hK _ _ _ hO (.refl _)
 cbv;have h := ret_some h;subst h;exact hK _ _ _ hO (.refl _)
def cf109 : Cf := ⟨[], [], [], [], [], []⟩
theorem c109 (N : Nat) (x_kind : Int) (x_v : GValue) (r : Bool) (h : expr_suits N x_kind x_v = some r) : CallP Tryz.prog 109 [.int .i64 x_kind, .agg [.int .i64 x_v.Kind, .int .i64 x_v.Num, .str x_v.Text]] (.bool r) := by
 unfold expr_suits at h
 refine callP_of_spec cf109 okP Tryz.func109 (by rfl) (by kernel_rfl) Tryz.call109 Tryz.ntmps109 (by rfl) (by rfl) ?_;intro E H0 K hE hK
 have hO : Own Eq H0 [] H0 := .start stable_eq rfl
 cbv;have h := ret_some h;subst h;exact hK _ _ _ hO (.refl _)
def cf103 : Cf := ⟨[], [], [], [], [], []⟩
theorem c103 (N : Nat) (x_e : GExpr) (r : Int) (h : expr_constants N x_e = some r) : CallP Tryz.prog 103 [.agg [.int .i64 x_e.Op, .sl (Ar.lst Encs.eGExpr x_e.Args) .ro, .int .i64 x_e.Var, .int .i64 x_e.Field, .int .i64 x_e.Kind, .int .i64 x_e.Value.Kind, .int .i64 x_e.Value.Num, .str x_e.Value.Text]] (.int .i64 r) := by
 unfold expr_constants at h
 refine callP_of_spec cf103 okP Tryz.func103 (by rfl) (by kernel_rfl) Tryz.call103 Tryz.ntmps103 (by rfl) (by rfl) ?_;intro E H0 K hE hK
 have hO : Own Eq H0 [] H0 := .start stable_eq rfl
 cbv;refine n_call hE (g := fun r1 => .int .i64 r1) h (fun r1 hx => c108 N x_e.Value r1 hx) (.refl _) fun r1 h => ?_;cbv;refine n_br hE h (fun hc h => ?_) (fun hc h => ?_)
 ·cbv;have h := ret_some h;subst h;exact hK _ _ _ hO (.refl _)
 cbv;refine n_br hE h (fun hc h => ?_) (fun hc h => ?_)
 ·cbv;refine n_call hE (g := fun r2 => .bool r2) h (fun r2 hx => c109 N x_e.Kind x_e.Value r2 hx) (.refl _) fun r2 h => ?_;cbv;refine n_br hE h (fun hc h => ?_) (fun hc h => ?_)
  ·cbv;have h := ret_some h;subst h;exact hK _ _ _ hO (.refl _)
  cbv;have h := ret_some h;subst h;exact hK _ _ _ hO (.refl _)
 cbv;have h := ret_some h;subst h;exact hK _ _ _ hO (.refl _)
def cf92 : Cf := ⟨[], [], [(73, 15)], [], [], []⟩
theorem c92 (N : Nat) (x_e : GExpr) (r : Int) (h : expr_node N x_e = some r) : CallP Tryz.prog 92 [.agg [.int .i64 x_e.Op, .sl (Ar.lst Encs.eGExpr x_e.Args) .ro, .int .i64 x_e.Var, .int .i64 x_e.Field, .int .i64 x_e.Kind, .int .i64 x_e.Value.Kind, .int .i64 x_e.Value.Num, .str x_e.Value.Text]] (.int .i64 r) := by
 unfold expr_node at h
 refine callP_of_spec cf92 okP Tryz.func92 (by rfl) (by kernel_rfl) Tryz.call92 Tryz.ntmps92 (by rfl) (by rfl) ?_;intro E H0 K hE hK
 have hO : Own Eq H0 [] H0 := .start stable_eq rfl
 cbv;refine n_call hE (g := fun r1 => .tup [.int .i64 r1.1, .bool r1.2]) h (fun r1 hx => c101 N x_e.Op r1 hx) (.refl _) fun r1 h => ?_;cbv;refine n_br hE h (fun hc h => ?_) (fun hc h => ?_)
 ·cbv;have h := ret_some h;subst h;exact hK _ _ _ hO (.refl _)
 cbv;refine n_ln hE ?_;cbv;refine n_br hE h (fun hc h => ?_) (fun hc h => ?_)
 ·cbv;have h := ret_some h;subst h;exact hK _ _ _ hO (.refl _)
 cbv;refine n_call hE (g := fun r2 => .tup [.bool r2.1, .bool r2.2]) h (fun r2 hx => c102 N x_e.Op r2 hx) (.refl _) fun r2 h => ?_;cbv;refine n_br hE h (fun hc h => ?_) (fun hc h => ?_)
 ·cbv;have h := ret_some h;subst h;exact hK _ _ _ hO (.refl _)
 cbv;refine n_br hE h (fun hc h => ?_) (fun hc h => ?_)
 ·cbv;have h := ret_some h;subst h;exact hK _ _ _ hO (.refl _)
 cbv;obtain ⟨s3, hx, h⟩ := bind_some h;refine n_join cf92 hE okP (fun e l H1 => match (generalizing := false) s3 with | .inl y => e = .normal ∧ l = [(1, .v (.eref [.int .i64 x_e.Op, .sl (Ar.lst Encs.eGExpr x_e.Args) .ro, .int .i64 x_e.Var, .int .i64 x_e.Field, .int .i64 x_e.Kind, .int .i64 x_e.Value.Kind, .int .i64 x_e.Value.Num, .str x_e.Value.Text] 0)), (5, .v (.bool r2.1)), (6, .v (.bool r2.2)), (7, .v (.bool (Ar.cmp .eql x_e.Op 4))), (8, .v (.bool (Ar.or (Ar.cmp .eql x_e.Op 4) (Ar.cmp .eql x_e.Op 0))))] ∧ Own Eq H0 [] H1 | .inr y => e = .ret ∧ l = [(2, .v (.int .i64 y))] ∧ Own Eq H0 [] H1) (by kernel_rfl) ?_ ?_
 ·clear h;have h := hx;clear hx;cbv;refine n_br hE h (fun hc h => ?_) (fun hc h => ?_)
  ·cbv;refine n_call hE (g := fun r4 => .int .i64 r4) h (fun r4 hx => c103 N x_e r4 hx) (.refl _) fun r4 h => ?_;cbv;refine n_br hE h (fun hc h => ?_) (fun hc h => ?_)
   ·cbv;have h := ret_some h;subst h;exact ⟨_, ⟨rfl, rfl, hO⟩, .e rfl (.z), rfl⟩
   cbv;have h := ret_some h;subst h;exact ⟨_, ⟨rfl, rfl, hO⟩, .e rfl (.e rfl (.e rfl (.e rfl (.e rfl (.z))))), rfl⟩
  cbv;have h := ret_some h;subst h;exact ⟨_, ⟨rfl, rfl, hO⟩, .e rfl (.e rfl (.e rfl (.e rfl (.e rfl (.z))))), rfl⟩
 clear hx
 rcases s3 with y5 | y6
 ·rintro e l H ⟨rfl, rfl, hO⟩;cbv;refine n_br hE h (fun hc h => ?_) (fun hc h => ?_)
  ·cbv;have h := ret_some h;subst h;exact hK _ _ _ hO (.refl _)
  cbv;have h := ret_some h;subst h;exact hK _ _ _ hO (.refl _)
 rintro e l H ⟨rfl, rfl, hO⟩;cbv;have h := ret_some h;subst h;exact hK _ _ _ hO (.refl _)
def cf74 : Cf := ⟨[], [], [], [], [], []⟩
theorem c74 (N : Nat) (x_e : GExpr) (r : Int) (h : expr_Check N x_e = some r) : CallP Tryz.prog 74 [.agg [.int .i64 x_e.Op, .sl (Ar.lst Encs.eGExpr x_e.Args) .ro, .int .i64 x_e.Var, .int .i64 x_e.Field, .int .i64 x_e.Kind, .int .i64 x_e.Value.Kind, .int .i64 x_e.Value.Num, .str x_e.Value.Text]] (.int .i64 r) := by
 unfold expr_Check at h
 refine callP_of_spec cf74 okP Tryz.func74 (by rfl) (by kernel_rfl) Tryz.call74 Tryz.ntmps74 (by rfl) (by rfl) ?_;intro E H0 K hE hK
 have hO : Own Eq H0 [] H0 := .start stable_eq rfl
 cbv;refine n_call hE (g := fun r1 => .tup [.int .i64 r1.1, .int .i64 r1.2]) h (fun r1 hx => c90 N N x_e r1 hx) (.refl _) fun r1 h => ?_;cbv;refine n_br hE h (fun hc h => ?_) (fun hc h => ?_)
 ·cbv;have h := ret_some h;subst h;exact hK _ _ _ hO (.refl _)
 cbv;refine n_br hE h (fun hc h => ?_) (fun hc h => ?_)
 ·cbv;have h := ret_some h;subst h;exact hK _ _ _ hO (.refl _)
 cbv;refine n_call hE (g := fun r2 => .int .i64 r2) h (fun r2 hx => c91 N N x_e (.func (.func 92) [] []) (fun y1 => expr_node N y1) (fun y1 r hx => CallP.value (F := []) (C := []) (c92 N y1 r hx)) r2 hx) (.refl _) fun r2 h => ?_;cbv;have h := ret_some h;subst h;exact hK _ _ _ hO (.refl _)
def cf75 : Cf := ⟨[], [], [], [], [], []⟩
theorem c75 (N : Nat) (x_used : Bool) (x_n : Int) (r : Bool) (h : pattern_unused N x_used x_n = some r) : CallP Tryz.prog 75 [.bool x_used, .int .i64 x_n] (.bool r) := by
 unfold pattern_unused at h
 refine callP_of_spec cf75 okP Tryz.func75 (by rfl) (by kernel_rfl) Tryz.call75 Tryz.ntmps75 (by rfl) (by rfl) ?_;intro E H0 K hE hK
 have hO : Own Eq H0 [] H0 := .start stable_eq rfl
 cbv;have h := ret_some h;subst h;exact hK _ _ _ hO (.refl _)
def cf50 : Cf := ⟨[], [], [(64, 10)], [], [], []⟩
theorem c50 (N : Nat) (x_p : GPattern) (r : Int) (h : pattern_check N x_p = some r) : CallP Tryz.prog 50 [.agg [.int .i64 x_p.Op, .sl (Ar.lst Encs.eGPattern x_p.Args) .ro, .int .i64 x_p.Typ, .int .i64 x_p.Var, .int .i64 x_p.Scope, .int .i64 x_p.Span, .int .i64 x_p.Cond.Op, .sl (Ar.lst Encs.eGExpr x_p.Cond.Args) .ro, .int .i64 x_p.Cond.Var, .int .i64 x_p.Cond.Field, .int .i64 x_p.Cond.Kind, .int .i64 x_p.Cond.Value.Kind, .int .i64 x_p.Cond.Value.Num, .str x_p.Cond.Value.Text]] (.int .i64 r) := by
 unfold pattern_check at h
 refine callP_of_spec cf50 okP Tryz.func50 (by rfl) (by kernel_rfl) Tryz.call50 Tryz.ntmps50 (by rfl) (by rfl) ?_;intro E H0 K hE hK
 have hO : Own Eq H0 [] H0 := .start stable_eq rfl
 cbv;refine n_br hE h (fun hc h => ?_) (fun hc h => ?_)
 ·cbv;have h := ret_some h;subst h;exact hK _ _ _ hO (.refl _)
 cbv;refine n_elem hE (g := fun x => .agg [.int .i64 x.least, .int .i64 x.most, .bool x.typed, .bool x.cond, .bool x.scope, .bool x.span]) (l := tab_pattern_shapes) rfl (fun _ => rfl) rfl rfl h fun x1 h => ?_;cbv;refine n_ln hE ?_;cbv;refine n_ln hE ?_;cbv;refine n_br hE h (fun hc h => ?_) (fun hc h => ?_)
 ·cbv;have h := ret_some h;subst h;exact hK _ _ _ hO (.refl _)
 cbv;refine n_call hE (g := fun r2 => .bool r2) h (fun r2 hx => c73 N x1.typed x_p.Typ 15 r2 hx) (.refl _) fun r2 h => ?_;cbv;refine n_br hE h (fun hc h => ?_) (fun hc h => ?_)
 ·cbv;have h := ret_some h;subst h;exact hK _ _ _ hO (.refl _)
 cbv;refine n_call hE (g := fun r3 => .bool r3) h (fun r3 hx => c73 N x1.typed x_p.Var 15 r3 hx) (.refl _) fun r3 h => ?_;cbv;refine n_br hE h (fun hc h => ?_) (fun hc h => ?_)
 ·cbv;have h := ret_some h;subst h;exact hK _ _ _ hO (.refl _)
 cbv;refine n_call hE (g := fun r4 => .bool r4) h (fun r4 hx => c73 N x1.scope x_p.Scope 63 r4 hx) (.refl _) fun r4 h => ?_;cbv;refine n_br hE h (fun hc h => ?_) (fun hc h => ?_)
 ·cbv;have h := ret_some h;subst h;exact hK _ _ _ hO (.refl _)
 cbv;refine n_call hE (g := fun r5 => .bool r5) h (fun r5 hx => c73 N x1.span x_p.Span 1099511627776 r5 hx) (.refl _) fun r5 h => ?_;cbv;refine n_br hE h (fun hc h => ?_) (fun hc h => ?_)
 ·cbv;have h := ret_some h;subst h;exact hK _ _ _ hO (.refl _)
 cbv;obtain ⟨s6, hx, h⟩ := bind_some h;refine n_join cf50 hE okP (fun e l H1 => match (generalizing := false) s6 with | .inl y => e = .normal ∧ l = [(1, .v (.eref [.int .i64 x_p.Op, .sl (Ar.lst Encs.eGPattern x_p.Args) .ro, .int .i64 x_p.Typ, .int .i64 x_p.Var, .int .i64 x_p.Scope, .int .i64 x_p.Span, .int .i64 x_p.Cond.Op, .sl (Ar.lst Encs.eGExpr x_p.Cond.Args) .ro, .int .i64 x_p.Cond.Var, .int .i64 x_p.Cond.Field, .int .i64 x_p.Cond.Kind, .int .i64 x_p.Cond.Value.Kind, .int .i64 x_p.Cond.Value.Num, .str x_p.Cond.Value.Text] 0)), (3, .v (.eref [.int .i64 x1.least, .int .i64 x1.most, .bool x1.typed, .bool x1.cond, .bool x1.scope, .bool x1.span] 0))] ∧ Own Eq H0 [] H1 | .inr y => e = .ret ∧ l = [(2, .v (.int .i64 y))] ∧ Own Eq H0 [] H1) (by kernel_rfl) ?_ ?_
 ·clear h;have h := hx;clear hx;cbv;refine n_br hE h (fun hc h => ?_) (fun hc h => ?_)
  ·cbv;refine n_call hE (g := fun r7 => .int .i64 r7) h (fun r7 hx => c74 N x_p.Cond r7 hx) (.refl _) fun r7 h => ?_;cbv;refine n_br hE h (fun hc h => ?_) (fun hc h => ?_)
   ·cbv;have h := ret_some h;subst h;exact ⟨_, ⟨rfl, rfl, hO⟩, .e rfl (.z), rfl⟩
   cbv;have h := ret_some h;subst h;exact ⟨_, ⟨rfl, rfl, hO⟩, .e rfl (.e rfl (.z)), rfl⟩
  cbv;have h := ret_some h;subst h;exact ⟨_, ⟨rfl, rfl, hO⟩, .e rfl (.e rfl (.z)), rfl⟩
 clear hx
 rcases s6 with y8 | y18
 ·rintro e l H ⟨rfl, rfl, hO⟩;cbv;refine n_br hE h (fun hc h => ?_) (fun hc h => ?_)
  ·cbv;refine n_call hE (g := fun r9 => .bool r9) h (fun r9 hx => c70 N N x_p.Cond (⟨0, [], 0, 0, 0, (⟨0, 0, ⟨#[]⟩⟩ : GValue)⟩ : GExpr) r9 hx) (.cons (.refl _) (.cons (.agg (.cons (.refl _) (.cons (.lit _ (lst_nil)) (.refl _)))) (.refl _))) fun r9 h => ?_;cbv;refine n_br hE h (fun hc h => ?_) (fun hc h => ?_)
   ·cbv;have h := ret_some h;subst h;exact hK _ _ _ hO (.refl _)
   cbv;refine n_call hE (g := fun r10 => .bool r10) h (fun r10 hx => c75 N x1.typed x_p.Typ r10 hx) (.refl _) fun r10 h => ?_;cbv;refine n_br hE h (fun hc h => ?_) (fun hc h => ?_)
   ·cbv;have h := ret_some h;subst h;exact hK _ _ _ hO (.refl _)
   cbv;refine n_call hE (g := fun r11 => .bool r11) h (fun r11 hx => c75 N x1.typed x_p.Var r11 hx) (.refl _) fun r11 h => ?_;cbv;refine n_br hE h (fun hc h => ?_) (fun hc h => ?_)
   ·cbv;have h := ret_some h;subst h;exact hK _ _ _ hO (.refl _)
   cbv;refine n_call hE (g := fun r12 => .bool r12) h (fun r12 hx => c75 N x1.scope x_p.Scope r12 hx) (.refl _) fun r12 h => ?_;cbv;refine n_br hE h (fun hc h => ?_) (fun hc h => ?_)
   ·cbv;have h := ret_some h;subst h;exact hK _ _ _ hO (.refl _)
   cbv;refine n_call hE (g := fun r13 => .bool r13) h (fun r13 hx => c75 N x1.span x_p.Span r13 hx) (.refl _) fun r13 h => ?_;cbv;refine n_br hE h (fun hc h => ?_) (fun hc h => ?_)
   ·cbv;have h := ret_some h;subst h;exact hK _ _ _ hO (.refl _)
   cbv;have h := ret_some h;subst h;exact hK _ _ _ hO (.refl _)
  cbv;refine n_call hE (g := fun r14 => .bool r14) h (fun r14 hx => c75 N x1.typed x_p.Typ r14 hx) (.refl _) fun r14 h => ?_;cbv;refine n_br hE h (fun hc h => ?_) (fun hc h => ?_)
  ·cbv;have h := ret_some h;subst h;exact hK _ _ _ hO (.refl _)
  cbv;refine n_call hE (g := fun r15 => .bool r15) h (fun r15 hx => c75 N x1.typed x_p.Var r15 hx) (.refl _) fun r15 h => ?_;cbv;refine n_br hE h (fun hc h => ?_) (fun hc h => ?_)
  ·cbv;have h := ret_some h;subst h;exact hK _ _ _ hO (.refl _)
  cbv;refine n_call hE (g := fun r16 => .bool r16) h (fun r16 hx => c75 N x1.scope x_p.Scope r16 hx) (.refl _) fun r16 h => ?_;cbv;refine n_br hE h (fun hc h => ?_) (fun hc h => ?_)
  ·cbv;have h := ret_some h;subst h;exact hK _ _ _ hO (.refl _)
  cbv;refine n_call hE (g := fun r17 => .bool r17) h (fun r17 hx => c75 N x1.span x_p.Span r17 hx) (.refl _) fun r17 h => ?_;cbv;refine n_br hE h (fun hc h => ?_) (fun hc h => ?_)
  ·cbv;have h := ret_some h;subst h;exact hK _ _ _ hO (.refl _)
  cbv;have h := ret_some h;subst h;exact hK _ _ _ hO (.refl _)
 rintro e l H ⟨rfl, rfl, hO⟩;cbv;have h := ret_some h;subst h;exact hK _ _ _ hO (.refl _)
def cf33 : Cf := ⟨[2], [], [], [], [], []⟩
theorem c33 (N : Nat) (x_p : GPattern) (r : Int) (h : pattern_CheckRest N x_p = some r) : CallP Tryz.prog 33 [.agg [.int .i64 x_p.Op, .sl (Ar.lst Encs.eGPattern x_p.Args) .ro, .int .i64 x_p.Typ, .int .i64 x_p.Var, .int .i64 x_p.Scope, .int .i64 x_p.Span, .int .i64 x_p.Cond.Op, .sl (Ar.lst Encs.eGExpr x_p.Cond.Args) .ro, .int .i64 x_p.Cond.Var, .int .i64 x_p.Cond.Field, .int .i64 x_p.Cond.Kind, .int .i64 x_p.Cond.Value.Kind, .int .i64 x_p.Cond.Value.Num, .str x_p.Cond.Value.Text]] (.int .i64 r) := by
 unfold pattern_CheckRest at h
 refine callP_of_spec cf33 okP Tryz.func33 (by rfl) (by kernel_rfl) Tryz.call33 Tryz.ntmps33 (by rfl) (by rfl) ?_;intro E H0 K hE hK
 have hO : Own Eq H0 [] H0 := .start stable_eq rfl
 cbv;refine n_alloc hE hO fun b1 H hO => ?_;cbv;refine n_call hE (g := fun r2 => .tup [.int .i64 r2.1, .int .i64 r2.2]) h (fun r2 hx => c49 N N x_p r2 hx) (.refl _) fun r2 h => ?_;cbv;refine n_br hE h (fun hc h => ?_) (fun hc h => ?_)
 ·cbv;refine n_store hE hO 0 rfl rfl fun H hO => ?_;cbv;refine n_load hE hO 0 rfl ?_;cbv;have h := ret_some h;subst h;exact hK _ _ _ hO (.refl _)
 cbv;refine n_br hE h (fun hc h => ?_) (fun hc h => ?_)
 ·cbv;refine n_store hE hO 0 rfl rfl fun H hO => ?_;cbv;refine n_load hE hO 0 rfl ?_;cbv;have h := ret_some h;subst h;exact hK _ _ _ hO (.refl _)
 cbv;refine n_callQ hE h (fun r3 hx => c39 N x_p r3 hx) (.refl _) fun r3 v4 hv4 h => ?_;cbv;obtain ⟨o9, hx, h⟩ := bind_some h;refine n_range cf33 hE okP (ι := Unit) (enc := fun (x : GPattern) => [.agg [.int .i64 x.Op, .sl (Ar.lst Encs.eGPattern x.Args) .ro, .int .i64 x.Typ, .int .i64 x.Var, .int .i64 x.Scope, .int .i64 x.Span, .int .i64 x.Cond.Op, .sl (Ar.lst Encs.eGExpr x.Cond.Args) .ro, .int .i64 x.Cond.Var, .int .i64 x.Cond.Field, .int .i64 x.Cond.Kind, .int .i64 x.Cond.Value.Kind, .int .i64 x.Cond.Value.Num, .str x.Cond.Value.Text]]) (fun (s6 : Unit) F H => Own Eq F [.blk b1 (.cells [.int .i64 0])] H) (fun (r : Int) e F H => e = .ret ∧ Own Eq F [.blk b1 (.cells [.int .i64 r])] H) (fun i s6 y5 => [(2, .v (.ref b1 0)), (5, .v (.eref [.int .i64 y5.Op, .sl (Ar.lst Encs.eGPattern y5.Args) .ro, .int .i64 y5.Typ, .int .i64 y5.Var, .int .i64 y5.Scope, .int .i64 y5.Span, .int .i64 y5.Cond.Op, .sl (Ar.lst Encs.eGExpr y5.Cond.Args) .ro, .int .i64 y5.Cond.Var, .int .i64 y5.Cond.Field, .int .i64 y5.Cond.Kind, .int .i64 y5.Cond.Value.Kind, .int .i64 y5.Cond.Value.Num, .str y5.Cond.Value.Text] 0))]) (fun i s6 y5 F H => Own Eq F [.blk b1 (.cells [.int .i64 0])] H) (fun _ => Own.stable stable_eq _) (fun _ _ => Stable.con (Own.stable stable_eq _)) (fun _ _ _ => Own.stable stable_eq _) hv4 hx (hO) (by decide) (fun _ => rfl) (by kernel_rfl) (by kernel_rfl) ?_ ?_ ?_ ?_
 ·rintro E i8 y5 s6 F7 H hE hO;clear hx h;cbv;exact ⟨(), hO, .e rfl (.e rfl (.z)), rfl⟩
 ·rintro E i8 _ y5 s6 F7 H o hE hF h hO;clear hx;cbv;refine n_call hE (g := fun r10 => .int .i64 r10) h (fun r10 hx => c50 N y5 r10 hx) (.refl _) fun r10 h => ?_;cbv;refine n_br hE h (fun hc h => ?_) (fun hc h => ?_)
  ·cbv;refine n_store hE hO 0 rfl rfl fun H hO => ?_;cbv;have h := ret_some h;subst h;exact ⟨_, rfl, rfl, ⟨rfl, hO⟩⟩
  cbv;have h := ret_some h;subst h;exact ⟨_, rfl, hO⟩
 ·rintro d11 s13 H rfl hd hO
  have hO : Own Eq H0 [.blk b1 (.cells [.int .i64 0]), .blk d11 DB] H := Own.dblk hd hO
  clear hd;clear hx;cbv;refine n_store hE hO 0 rfl rfl fun H hO => ?_;cbv;refine n_fin hE hO 1 rfl fun H hO => ?_;cbv;refine n_load hE hO 0 rfl ?_;cbv;have h := ret_some h;subst h;exact hK _ _ _ hO (.refl _)
 rintro d11 y14 e H rfl hd hX;clear hx
 rcases hX with ⟨rfl, hO⟩
 have hO : Own Eq H0 [.blk b1 (.cells [.int .i64 y14]), .blk d11 DB] H := Own.dblk hd hO
 clear hd;cbv;refine n_fin hE hO 1 rfl fun H hO => ?_;cbv;refine n_load hE hO 0 rfl ?_;cbv;have h := ret_some h;subst h;exact hK _ _ _ hO (.refl _)
def cf24 : Cf := ⟨[2], [], [], [], [], []⟩
theorem c24 (N : Nat) (x_p : GPattern) (r : Int) (h : pattern_whole N x_p = some r) : CallP Tryz.prog 24 [.agg [.int .i64 x_p.Op, .sl (Ar.lst Encs.eGPattern x_p.Args) .ro, .int .i64 x_p.Typ, .int .i64 x_p.Var, .int .i64 x_p.Scope, .int .i64 x_p.Span, .int .i64 x_p.Cond.Op, .sl (Ar.lst Encs.eGExpr x_p.Cond.Args) .ro, .int .i64 x_p.Cond.Var, .int .i64 x_p.Cond.Field, .int .i64 x_p.Cond.Kind, .int .i64 x_p.Cond.Value.Kind, .int .i64 x_p.Cond.Value.Num, .str x_p.Cond.Value.Text]] (.int .i64 r) := by
 unfold pattern_whole at h
 refine callP_of_spec cf24 okP Tryz.func24 (by rfl) (by kernel_rfl) Tryz.call24 Tryz.ntmps24 (by rfl) (by rfl) ?_;intro E H0 K hE hK
 have hO : Own Eq H0 [] H0 := .start stable_eq rfl
 cbv;refine n_alloc hE hO fun b1 H hO => ?_;cbv;refine n_call hE (g := fun r2 => .int .i64 r2) h (fun r2 hx => c33 N x_p r2 hx) (.refl _) fun r2 h => ?_;cbv;refine n_br hE h (fun hc h => ?_) (fun hc h => ?_)
 ·cbv;refine n_store hE hO 0 rfl rfl fun H hO => ?_;cbv;refine n_load hE hO 0 rfl ?_;cbv;have h := ret_some h;subst h;exact hK _ _ _ hO (.refl _)
 cbv;refine n_callQ hE h (fun r3 hx => c39 N x_p r3 hx) (.refl _) fun r3 v4 hv4 h => ?_;cbv;obtain ⟨o9, hx, h⟩ := bind_some h;refine n_range cf24 hE okP (ι := Unit) (enc := fun (x : GPattern) => [.agg [.int .i64 x.Op, .sl (Ar.lst Encs.eGPattern x.Args) .ro, .int .i64 x.Typ, .int .i64 x.Var, .int .i64 x.Scope, .int .i64 x.Span, .int .i64 x.Cond.Op, .sl (Ar.lst Encs.eGExpr x.Cond.Args) .ro, .int .i64 x.Cond.Var, .int .i64 x.Cond.Field, .int .i64 x.Cond.Kind, .int .i64 x.Cond.Value.Kind, .int .i64 x.Cond.Value.Num, .str x.Cond.Value.Text]]) (fun (s6 : Unit) F H => Own Eq F [.blk b1 (.cells [.int .i64 0])] H) (fun (r : Int) e F H => e = .ret ∧ Own Eq F [.blk b1 (.cells [.int .i64 r])] H) (fun i s6 y5 => [(2, .v (.ref b1 0)), (4, .v (.eref [.int .i64 y5.Op, .sl (Ar.lst Encs.eGPattern y5.Args) .ro, .int .i64 y5.Typ, .int .i64 y5.Var, .int .i64 y5.Scope, .int .i64 y5.Span, .int .i64 y5.Cond.Op, .sl (Ar.lst Encs.eGExpr y5.Cond.Args) .ro, .int .i64 y5.Cond.Var, .int .i64 y5.Cond.Field, .int .i64 y5.Cond.Kind, .int .i64 y5.Cond.Value.Kind, .int .i64 y5.Cond.Value.Num, .str y5.Cond.Value.Text] 0))]) (fun i s6 y5 F H => Own Eq F [.blk b1 (.cells [.int .i64 0])] H) (fun _ => Own.stable stable_eq _) (fun _ _ => Stable.con (Own.stable stable_eq _)) (fun _ _ _ => Own.stable stable_eq _) hv4 hx (hO) (by decide) (fun _ => rfl) (by kernel_rfl) (by kernel_rfl) ?_ ?_ ?_ ?_
 ·rintro E i8 y5 s6 F7 H hE hO;clear hx h;cbv;exact ⟨(), hO, .e rfl (.e rfl (.z)), rfl⟩
 ·rintro E i8 _ y5 s6 F7 H o hE hF h hO;clear hx;cbv;refine n_br hE h (fun hc h => ?_) (fun hc h => ?_)
  ·cbv;refine n_store hE hO 0 rfl rfl fun H hO => ?_;cbv;have h := ret_some h;subst h;exact ⟨_, rfl, rfl, ⟨rfl, hO⟩⟩
  cbv;have h := ret_some h;subst h;exact ⟨_, rfl, hO⟩
 ·rintro d10 s12 H rfl hd hO
  have hO : Own Eq H0 [.blk b1 (.cells [.int .i64 0]), .blk d10 DB] H := Own.dblk hd hO
  clear hd;clear hx;cbv;refine n_store hE hO 0 rfl rfl fun H hO => ?_;cbv;refine n_fin hE hO 1 rfl fun H hO => ?_;cbv;refine n_load hE hO 0 rfl ?_;cbv;have h := ret_some h;subst h;exact hK _ _ _ hO (.refl _)
 rintro d10 y13 e H rfl hd hX;clear hx
 rcases hX with ⟨rfl, hO⟩
 have hO : Own Eq H0 [.blk b1 (.cells [.int .i64 y13]), .blk d10 DB] H := Own.dblk hd hO
 clear hd;cbv;refine n_fin hE hO 1 rfl fun H hO => ?_;cbv;refine n_load hE hO 0 rfl ?_;cbv;have h := ret_some h;subst h;exact hK _ _ _ hO (.refl _)
def cf25 : Cf := ⟨[5, 6, 7], [(11, 5)], [(18, 7)], [], [], []⟩
theorem c25 (N : Nat) (x_p : GPattern) (r : (Int × Int × Bool)) (h : pattern_count N x_p = some r) : CallP Tryz.prog 25 [.agg [.int .i64 x_p.Op, .sl (Ar.lst Encs.eGPattern x_p.Args) .ro, .int .i64 x_p.Typ, .int .i64 x_p.Var, .int .i64 x_p.Scope, .int .i64 x_p.Span, .int .i64 x_p.Cond.Op, .sl (Ar.lst Encs.eGExpr x_p.Cond.Args) .ro, .int .i64 x_p.Cond.Var, .int .i64 x_p.Cond.Field, .int .i64 x_p.Cond.Kind, .int .i64 x_p.Cond.Value.Kind, .int .i64 x_p.Cond.Value.Num, .str x_p.Cond.Value.Text]] (.tup [.int .i64 r.1, .int .i64 r.2.1, .bool r.2.2]) := by
 unfold pattern_count at h
 refine callP_of_spec cf25 okP Tryz.func25 (by rfl) (by kernel_rfl) Tryz.call25 Tryz.ntmps25 (by rfl) (by rfl) ?_;intro E H0 K hE hK
 have hO : Own Eq H0 [] H0 := .start stable_eq rfl
 cbv;refine n_alloc hE hO fun b1 H hO => ?_;cbv;refine n_alloc hE hO fun b2 H hO => ?_;cbv;refine n_alloc hE hO fun b3 H hO => ?_;cbv;refine n_store hE hO 2 rfl rfl fun H hO => ?_;cbv;refine n_store hE hO 1 rfl rfl fun H hO => ?_;cbv;refine n_store hE hO 0 rfl rfl fun H hO => ?_;cbv;refine n_callQ hE h (fun r4 hx => c39 N x_p r4 hx) (.refl _) fun r4 v5 hv5 h => ?_;cbv;obtain ⟨o10, hx, h⟩ := bind_some h;refine n_range cf25 hE okP (ι := Unit) (enc := fun (x : GPattern) => [.agg [.int .i64 x.Op, .sl (Ar.lst Encs.eGPattern x.Args) .ro, .int .i64 x.Typ, .int .i64 x.Var, .int .i64 x.Scope, .int .i64 x.Span, .int .i64 x.Cond.Op, .sl (Ar.lst Encs.eGExpr x.Cond.Args) .ro, .int .i64 x.Cond.Var, .int .i64 x.Cond.Field, .int .i64 x.Cond.Kind, .int .i64 x.Cond.Value.Kind, .int .i64 x.Cond.Value.Num, .str x.Cond.Value.Text]]) (fun (s7 : Bool × Int × Int) F H => Own Eq F [.blk b3 (.cells [.bool s7.1]), .blk b2 (.cells [.int .i64 s7.2.1]), .blk b1 (.cells [.int .i64 s7.2.2])] H) (fun (r : Unit) e F H => False) (fun i s7 y6 => [(5, .v (.ref b1 0)), (6, .v (.ref b2 0)), (7, .v (.ref b3 0)), (8, .v (.eref [.int .i64 y6.Op, .sl (Ar.lst Encs.eGPattern y6.Args) .ro, .int .i64 y6.Typ, .int .i64 y6.Var, .int .i64 y6.Scope, .int .i64 y6.Span, .int .i64 y6.Cond.Op, .sl (Ar.lst Encs.eGExpr y6.Cond.Args) .ro, .int .i64 y6.Cond.Var, .int .i64 y6.Cond.Field, .int .i64 y6.Cond.Kind, .int .i64 y6.Cond.Value.Kind, .int .i64 y6.Cond.Value.Num, .str y6.Cond.Value.Text] 0))]) (fun i s7 y6 F H => Own Eq F [.blk b3 (.cells [.bool s7.1]), .blk b2 (.cells [.int .i64 s7.2.1]), .blk b1 (.cells [.int .i64 s7.2.2])] H) (fun _ => Own.stable stable_eq _) (fun _ _ => ⟨fun h => h.elim, fun _ _ h => h.elim⟩) (fun _ _ _ => Own.stable stable_eq _) hv5 hx (hO) (by decide) (fun _ => rfl) (by kernel_rfl) (by kernel_rfl) ?_ ?_ ?_ ?_
 ·rintro E i9 y6 s7 F8 H hE hO;clear hx h;cbv;exact ⟨(), hO, .e rfl (.e rfl (.e rfl (.e rfl (.z)))), rfl⟩
 ·rintro E i9 _ y6 s7 F8 H o hE hF h hO;clear hx;cbv;refine n_elem hE (g := fun x => .agg [.int .i64 x.least, .int .i64 x.most, .bool x.typed, .bool x.cond, .bool x.scope, .bool x.span]) (l := tab_pattern_shapes) rfl (fun _ => rfl) rfl rfl h fun x11 h => ?_;cbv;obtain ⟨s12, hx, h⟩ := bind_some h;refine n_join cf25 hE okP (fun e l H1 => e = .normal ∧ l = [(6, .v (.ref b2 0)), (7, .v (.ref b3 0)), (8, .v (.eref [.int .i64 y6.Op, .sl (Ar.lst Encs.eGPattern y6.Args) .ro, .int .i64 y6.Typ, .int .i64 y6.Var, .int .i64 y6.Scope, .int .i64 y6.Span, .int .i64 y6.Cond.Op, .sl (Ar.lst Encs.eGExpr y6.Cond.Args) .ro, .int .i64 y6.Cond.Var, .int .i64 y6.Cond.Field, .int .i64 y6.Cond.Kind, .int .i64 y6.Cond.Value.Kind, .int .i64 y6.Cond.Value.Num, .str y6.Cond.Value.Text] 0)), (9, .v (.eref [.int .i64 x11.least, .int .i64 x11.most, .bool x11.typed, .bool x11.cond, .bool x11.scope, .bool x11.span] 0))] ∧ Own Eq F8 [.blk b3 (.cells [.bool s12.1]), .blk b2 (.cells [.int .i64 s7.2.1]), .blk b1 (.cells [.int .i64 s12.2])] H1) (by kernel_rfl) ?_ ?_
  ·clear h;have h := hx;clear hx;cbv;refine n_br hE h (fun hc h => ?_) (fun hc h => ?_)
   ·cbv;refine n_load hE hO 0 rfl ?_;cbv;refine n_load hE hO 2 rfl ?_;cbv;refine n_store hE hO 0 rfl rfl fun H hO => ?_;cbv;refine n_load hE hO 2 rfl ?_;cbv;refine n_store hE hO 2 rfl rfl fun H hO => ?_;cbv;have h := ret_some h;subst h;exact ⟨_, ⟨rfl, rfl, hO⟩, .e rfl (.e rfl (.e rfl (.e rfl (.z)))), rfl⟩
   cbv;have h := ret_some h;subst h;exact ⟨_, ⟨rfl, rfl, hO⟩, .e rfl (.e rfl (.e rfl (.e rfl (.z)))), rfl⟩
  clear hx;rintro e l H ⟨rfl, rfl, hO⟩;cbv;refine n_br hE h (fun hc h => ?_) (fun hc h => ?_)
  ·cbv;refine n_load hE hO 0 rfl ?_;cbv;refine n_load hE hO 1 rfl ?_;cbv;refine n_store hE hO 0 rfl rfl fun H hO => ?_;cbv;refine n_load hE hO 1 rfl ?_;cbv;refine n_store hE hO 1 rfl rfl fun H hO => ?_;cbv;have h := ret_some h;subst h;exact ⟨_, rfl, hO⟩
  cbv;have h := ret_some h;subst h;exact ⟨_, rfl, hO⟩
 ·rintro d13 s15 H rfl hd hO
  have hO : Own Eq H0 [.blk b3 (.cells [.bool s15.1]), .blk b2 (.cells [.int .i64 s15.2.1]), .blk b1 (.cells [.int .i64 s15.2.2]), .blk d13 DB] H := Own.dblk hd hO
  clear hd;clear hx;cbv;refine n_load hE hO 2 rfl ?_;cbv;refine n_load hE hO 1 rfl ?_;cbv;refine n_load hE hO 0 rfl ?_;cbv;refine n_fin hE hO 3 rfl fun H hO => ?_;cbv;have h := ret_some h;subst h;exact hK _ _ _ hO (.refl _)
 rintro d r e H rfl hd hO;exact hO.elim
def cf5 : Cf := ⟨[], [], [], [], [], []⟩
theorem c5 (N : Nat) (x_p : GPattern) (r : Int) (h : pattern_Check N x_p = some r) : CallP Tryz.prog 5 [.agg [.int .i64 x_p.Op, .sl (Ar.lst Encs.eGPattern x_p.Args) .ro, .int .i64 x_p.Typ, .int .i64 x_p.Var, .int .i64 x_p.Scope, .int .i64 x_p.Span, .int .i64 x_p.Cond.Op, .sl (Ar.lst Encs.eGExpr x_p.Cond.Args) .ro, .int .i64 x_p.Cond.Var, .int .i64 x_p.Cond.Field, .int .i64 x_p.Cond.Kind, .int .i64 x_p.Cond.Value.Kind, .int .i64 x_p.Cond.Value.Num, .str x_p.Cond.Value.Text]] (.int .i64 r) := by
 unfold pattern_Check at h
 refine callP_of_spec cf5 okP Tryz.func5 (by rfl) (by kernel_rfl) Tryz.call5 Tryz.ntmps5 (by rfl) (by rfl) ?_;intro E H0 K hE hK
 have hO : Own Eq H0 [] H0 := .start stable_eq rfl
 cbv;refine n_call hE (g := fun r1 => .int .i64 r1) h (fun r1 hx => c24 N x_p r1 hx) (.refl _) fun r1 h => ?_;cbv;refine n_br hE h (fun hc h => ?_) (fun hc h => ?_)
 ·cbv;have h := ret_some h;subst h;exact hK _ _ _ hO (.refl _)
 cbv;refine n_call hE (g := fun r2 => .tup [.int .i64 r2.1, .int .i64 r2.2.1, .bool r2.2.2]) h (fun r2 hx => c25 N x_p r2 hx) (.refl _) fun r2 h => ?_;cbv;refine n_br hE h (fun hc h => ?_) (fun hc h => ?_)
 ·cbv;have h := ret_some h;subst h;exact hK _ _ _ hO (.refl _)
 cbv;have h := ret_some h;subst h;exact hK _ _ _ hO (.refl _)
def cf46 : Cf := ⟨[], [], [], [], [], []⟩
theorem c46 (N : Nat) (x_s : List GPattern) (v_f : V) (x_f : GPattern → Option Bool) (h_f : ∀ y1 q, x_f y1 = some q → CallVP Tryz.prog v_f [.agg [.int .i64 y1.Op, .sl (Ar.lst Encs.eGPattern y1.Args) .ro, .int .i64 y1.Typ, .int .i64 y1.Var, .int .i64 y1.Scope, .int .i64 y1.Span, .int .i64 y1.Cond.Op, .sl (Ar.lst Encs.eGExpr y1.Cond.Args) .ro, .int .i64 y1.Cond.Var, .int .i64 y1.Cond.Field, .int .i64 y1.Cond.Kind, .int .i64 y1.Cond.Value.Kind, .int .i64 y1.Cond.Value.Num, .str y1.Cond.Value.Text]] (.bool q)) (r : Int) (h : slices_IndexFunc_LPattern_Pattern N x_s x_f = some r) : CallP Tryz.prog 46 [.sl (Ar.lst Encs.eGPattern x_s) .ro, v_f] (.int .i64 r) := by
 unfold slices_IndexFunc_LPattern_Pattern at h
 refine callP_of_spec cf46 okP Tryz.func46 (by rfl) (by kernel_rfl) Tryz.call46 Tryz.ntmps46 (by rfl) (by rfl) ?_;intro E H0 K hE hK
 have hO : Own Eq H0 [] H0 := .start stable_eq rfl
 cbv;refine n_ln hE ?_;cbv;obtain ⟨s2, hx, h⟩ := bind_some h;refine n_loopN cf46 hE okP (fun s1 => [(0, .v (.sl (Ar.lst Encs.eGPattern x_s) .ro)), (1, .v (v_f)), (7, .v (.int .i64 (Ar.len x_s))), (8, .v (.int .i64 s1))]) (fun s1 H1 => Own Eq H0 [] H1) (fun x e l H1 => match (generalizing := false) x with | .inl y => e = .exit 0 ∧ l = [] ∧ Own Eq H0 [] H1 | .inr y => e = .ret ∧ l = [(4, .v (.int .i64 y))] ∧ Own Eq H0 [] H1) (by kernel_rfl) ?_ hx ?_ hO ?_
 ·intro s1 H o hO h;clear hx;cbv;refine n_br hE h (fun hc h => ?_) (fun hc h => ?_)
  ·cbv;refine n_idx hE Encs.eGPattern_eq h fun x3 h => ?_;cbv;refine n_callF hE (g := fun r4 => .bool r4) h (fun r4 hx => h_f x3 r4 hx) (.refl _) fun r4 h => ?_;cbv;refine n_br hE h (fun hc h => ?_) (fun hc h => ?_)
   ·cbv;have h := ret_some h;subst h;exact ⟨_, _, rfl, ⟨rfl, rfl, hO⟩, .e rfl (.z), rfl⟩
   cbv;have h := ret_some h;subst h;exact ⟨_, rfl, .e rfl (.e rfl (.e rfl (.e rfl (.z)))), rfl, hO⟩
  cbv;have h := ret_some h;subst h;exact ⟨_, _, rfl, ⟨rfl, rfl, hO⟩, .z, rfl⟩
 ·exact .e rfl (.e rfl (.e rfl (.e rfl (.z))))
 clear hx
 rcases s2 with y5 | y6
 ·rintro e l H ⟨rfl, rfl, hO⟩;cbv;have h := ret_some h;subst h;exact hK _ _ _ hO (.refl _)
 rintro e l H ⟨rfl, rfl, hO⟩;cbv;have h := ret_some h;subst h;exact hK _ _ _ hO (.refl _)
def cf72 : Cf := ⟨[8], [], [], [], [], []⟩
theorem c72 (N : Nat) (x_s1 : List GPattern) (x_s2 : List GPattern) (v_eq : V) (x_eq : GPattern → GPattern → Option Bool) (h_eq : ∀ y1 y2 q, x_eq y1 y2 = some q → CallVP Tryz.prog v_eq [.agg [.int .i64 y1.Op, .sl (Ar.lst Encs.eGPattern y1.Args) .ro, .int .i64 y1.Typ, .int .i64 y1.Var, .int .i64 y1.Scope, .int .i64 y1.Span, .int .i64 y1.Cond.Op, .sl (Ar.lst Encs.eGExpr y1.Cond.Args) .ro, .int .i64 y1.Cond.Var, .int .i64 y1.Cond.Field, .int .i64 y1.Cond.Kind, .int .i64 y1.Cond.Value.Kind, .int .i64 y1.Cond.Value.Num, .str y1.Cond.Value.Text], .agg [.int .i64 y2.Op, .sl (Ar.lst Encs.eGPattern y2.Args) .ro, .int .i64 y2.Typ, .int .i64 y2.Var, .int .i64 y2.Scope, .int .i64 y2.Span, .int .i64 y2.Cond.Op, .sl (Ar.lst Encs.eGExpr y2.Cond.Args) .ro, .int .i64 y2.Cond.Var, .int .i64 y2.Cond.Field, .int .i64 y2.Cond.Kind, .int .i64 y2.Cond.Value.Kind, .int .i64 y2.Cond.Value.Num, .str y2.Cond.Value.Text]] (.bool q)) (r : Bool) (h : slices_EqualFunc_LPattern_LPattern_Pattern_Pattern N x_s1 x_s2 x_eq = some r) : CallP Tryz.prog 72 [.sl (Ar.lst Encs.eGPattern x_s1) .ro, .sl (Ar.lst Encs.eGPattern x_s2) .ro, v_eq] (.bool r) := by
 unfold slices_EqualFunc_LPattern_LPattern_Pattern_Pattern at h
 refine callP_of_spec cf72 okP Tryz.func72 (by rfl) (by kernel_rfl) Tryz.call72 Tryz.ntmps72 (by rfl) (by rfl) ?_;intro E H0 K hE hK
 have hO : Own Eq H0 [] H0 := .start stable_eq rfl
 cbv;refine n_ln hE ?_;cbv;refine n_ln hE ?_;cbv;refine n_br hE h (fun hc h => ?_) (fun hc h => ?_)
 ·cbv;have h := ret_some h;subst h;exact hK _ _ _ hO (.refl _)
 cbv;refine n_ln hE ?_;cbv;obtain ⟨s2, hx, h⟩ := bind_some h;refine n_loopN cf72 hE okP (fun s1 => [(1, .v (.sl (Ar.lst Encs.eGPattern x_s2) .ro)), (2, .v (v_eq)), (15, .v (.sl (Ar.lst Encs.eGPattern x_s1) .ro)), (16, .v (.int .i64 (Ar.len x_s1))), (17, .v (.int .i64 s1))]) (fun s1 H1 => Own Eq H0 [] H1) (fun x e l H1 => match (generalizing := false) x with | .inl y => e = .exit 0 ∧ l = [] ∧ Own Eq H0 [] H1 | .inr y => e = .ret ∧ l = [(6, .b false)] ∧ Own Eq H0 [] H1) (by kernel_rfl) ?_ hx ?_ hO ?_
 ·intro s1 H o hO h;clear hx;cbv;refine n_br hE h (fun hc h => ?_) (fun hc h => ?_)
  ·cbv;refine n_idx hE Encs.eGPattern_eq h fun x3 h => ?_;cbv;refine n_alloc hE hO fun b4 H hO => ?_;cbv;refine n_store hE hO 0 rfl rfl fun H hO => ?_;cbv;refine n_idx hE Encs.eGPattern_eq h fun x5 h => ?_;cbv;refine n_load hE hO 0 rfl ?_;cbv;refine n_callF hE (g := fun r6 => .bool r6) h (fun r6 hx => h_eq x3 x5 r6 hx) (.refl _) fun r6 h => ?_;cbv;refine n_br hE h (fun hc h => ?_) (fun hc h => ?_)
   ·cbv;have h := ret_some h;subst h;exact ⟨_, _, rfl, ⟨rfl, rfl, hO.tail⟩, .b rfl (.z), rfl⟩
   cbv;have h := ret_some h;subst h;exact ⟨_, rfl, .e rfl (.e rfl (.e rfl (.e rfl (.e rfl (.z))))), rfl, hO.tail⟩
  cbv;have h := ret_some h;subst h;exact ⟨_, _, rfl, ⟨rfl, rfl, hO⟩, .z, rfl⟩
 ·exact .e rfl (.e rfl (.e rfl (.e rfl (.e rfl (.z)))))
 clear hx
 rcases s2 with y7 | y8
 ·rintro e l H ⟨rfl, rfl, hO⟩;cbv;have h := ret_some h;subst h;exact hK _ _ _ hO (.refl _)
 rintro e l H ⟨rfl, rfl, hO⟩;cbv;have h := ret_some h;subst h;exact hK _ _ _ hO (.refl _)
def cf48 : Cf := ⟨[], [], [], [], [], []⟩
theorem c48 (N : Nat) : ∀ (n : Nat) (x_a : GPattern) (x_b : GPattern) (r : Bool), pattern_Same N n x_a x_b = some r → CallP Tryz.prog 48 [.agg [.int .i64 x_a.Op, .sl (Ar.lst Encs.eGPattern x_a.Args) .ro, .int .i64 x_a.Typ, .int .i64 x_a.Var, .int .i64 x_a.Scope, .int .i64 x_a.Span, .int .i64 x_a.Cond.Op, .sl (Ar.lst Encs.eGExpr x_a.Cond.Args) .ro, .int .i64 x_a.Cond.Var, .int .i64 x_a.Cond.Field, .int .i64 x_a.Cond.Kind, .int .i64 x_a.Cond.Value.Kind, .int .i64 x_a.Cond.Value.Num, .str x_a.Cond.Value.Text], .agg [.int .i64 x_b.Op, .sl (Ar.lst Encs.eGPattern x_b.Args) .ro, .int .i64 x_b.Typ, .int .i64 x_b.Var, .int .i64 x_b.Scope, .int .i64 x_b.Span, .int .i64 x_b.Cond.Op, .sl (Ar.lst Encs.eGExpr x_b.Cond.Args) .ro, .int .i64 x_b.Cond.Var, .int .i64 x_b.Cond.Field, .int .i64 x_b.Cond.Kind, .int .i64 x_b.Cond.Value.Kind, .int .i64 x_b.Cond.Value.Num, .str x_b.Cond.Value.Text]] (.bool r) := by
 intro n
 induction n with
 | zero => intro x_a x_b r h; cases h
 | succ n ih =>
 intro x_a x_b r h
 unfold pattern_Same at h
 refine callP_of_spec cf48 okP Tryz.func48 (by rfl) (by kernel_rfl) Tryz.call48 Tryz.ntmps48 (by rfl) (by rfl) ?_;intro E H0 K hE hK
 have hO : Own Eq H0 [] H0 := .start stable_eq rfl
 cbv;refine n_br hE h (fun hc h => ?_) (fun hc h => ?_)
 ·cbv;have h := ret_some h;subst h;exact hK _ _ _ hO (.refl _)
 cbv;refine n_call hE (g := fun r1 => .bool r1) h (fun r1 hx => c70 N N x_a.Cond x_b.Cond r1 hx) (.refl _) fun r1 h => ?_;cbv;refine n_br hE h (fun hc h => ?_) (fun hc h => ?_)
 ·cbv;have h := ret_some h;subst h;exact hK _ _ _ hO (.refl _)
 cbv;refine n_call hE (g := fun r2 => .bool r2) h (fun r2 hx => c72 N x_a.Args x_b.Args (.func (.func 48) [] []) (fun y1 y2 => pattern_Same N n y1 y2) (fun y1 y2 r hx => CallP.value (F := []) (C := []) (ih y1 y2 r hx)) r2 hx) (.refl _) fun r2 h => ?_;cbv;have h := ret_some h;subst h;exact hK _ _ _ hO (.refl _)
def cf47 : Cf := ⟨[], [], [], [], [], []⟩
theorem c47 (N : Nat) (x_q : GPattern) (x_1 : GPattern) (r : Bool) (h : derivative_index_1 N x_q x_1 = some r) : CallP Tryz.prog 47 [.agg [.int .i64 x_q.Op, .sl (Ar.lst Encs.eGPattern x_q.Args) .ro, .int .i64 x_q.Typ, .int .i64 x_q.Var, .int .i64 x_q.Scope, .int .i64 x_q.Span, .int .i64 x_q.Cond.Op, .sl (Ar.lst Encs.eGExpr x_q.Cond.Args) .ro, .int .i64 x_q.Cond.Var, .int .i64 x_q.Cond.Field, .int .i64 x_q.Cond.Kind, .int .i64 x_q.Cond.Value.Kind, .int .i64 x_q.Cond.Value.Num, .str x_q.Cond.Value.Text], .eref [.int .i64 x_1.Op, .sl (Ar.lst Encs.eGPattern x_1.Args) .ro, .int .i64 x_1.Typ, .int .i64 x_1.Var, .int .i64 x_1.Scope, .int .i64 x_1.Span, .int .i64 x_1.Cond.Op, .sl (Ar.lst Encs.eGExpr x_1.Cond.Args) .ro, .int .i64 x_1.Cond.Var, .int .i64 x_1.Cond.Field, .int .i64 x_1.Cond.Kind, .int .i64 x_1.Cond.Value.Kind, .int .i64 x_1.Cond.Value.Num, .str x_1.Cond.Value.Text] 0] (.bool r) := by
 unfold derivative_index_1 at h
 refine callP_of_spec cf47 okP Tryz.func47 (by rfl) (by kernel_rfl) Tryz.call47 Tryz.ntmps47 (by rfl) (by rfl) ?_;intro E H0 K hE hK
 have hO : Own Eq H0 [] H0 := .start stable_eq rfl
 cbv;refine n_call hE (g := fun r1 => .bool r1) h (fun r1 hx => c48 N N x_1 x_q r1 hx) (.refl _) fun r1 h => ?_;cbv;have h := ret_some h;subst h;exact hK _ _ _ hO (.refl _)
end Go.Ab

