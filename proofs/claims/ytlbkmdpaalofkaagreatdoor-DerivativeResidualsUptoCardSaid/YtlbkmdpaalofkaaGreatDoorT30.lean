/- GZCo6 -/
import Derived.Test.YtlbkmdpaalofkaaGreatDoorT29
set_option linter.all false

namespace Go.Ab
open Go.RowKit Go.Proofs
variable [Ar] [Encs]
set_option maxRecDepth 100000
def cf41 : Cf := ⟨[7], [(21, 5)], [], [], [], []⟩
theorem c41 (N : Nat) : ∀ (n : Nat) (x_p : GPattern) (r : (List Gtidegateref22_Pair)), ref22_Pairs N n x_p = some r → CallP Tryz.prog 41 [.agg [.int .i64 x_p.Op, .sl (Ar.lst Encs.eGPattern x_p.Args) .ro, .int .i64 x_p.Typ, .int .i64 x_p.Var, .int .i64 x_p.Scope, .int .i64 x_p.Span, .int .i64 x_p.Cond.Op, .sl (Ar.lst Encs.eGExpr x_p.Cond.Args) .ro, .int .i64 x_p.Cond.Var, .int .i64 x_p.Cond.Field, .int .i64 x_p.Cond.Kind, .int .i64 x_p.Cond.Value.Kind, .int .i64 x_p.Cond.Value.Num, .str x_p.Cond.Value.Text]] (.sl (Ar.lst Encs.eGtidegateref22_Pair r) .ro) := by
 intro n
 induction n with
 | zero => intro x_p r h; cases h
 | succ n ih =>
 intro x_p r h
 unfold ref22_Pairs at h
 refine callP_of_spec cf41 okP Tryz.func41 (by rfl) (by kernel_rfl) Tryz.call41 Tryz.ntmps41 (by rfl) (by rfl) ?_;intro E H0 K hE hK
 have hO : Own Eq H0 [] H0 := .start stable_eq rfl
 cbv;refine n_br hE h (fun hc h => ?_) (fun hc h => ?_)
 ·cbv;have h := ret_some h;subst h;exact hK _ _ _ hO (.sl _ (.lstc (.eq (Encs.eGtidegateref22_Pair_eq (⟨(⟨0, 0, x_p.Var, x_p.Typ, x_p.Cond, [], [], [], [], []⟩ : GEdge), true, (⟨0, [], 0, 0, 0, 0, (⟨0, [], 0, 0, 0, (⟨0, 0, ⟨#[]⟩⟩ : GValue)⟩ : GExpr)⟩ : GPattern)⟩ : Gtidegateref22_Pair)) (.agg (.cons (.refl _) (.cons (.refl _) (.cons (.refl _) (.cons (.refl _) (.cons (.refl _) (.cons (.refl _) (.cons (.refl _) (.cons (.refl _) (.cons (.refl _) (.cons (.refl _) (.cons (.refl _) (.cons (.refl _) (.cons (.lit _ (lst_nil)) (.cons (.lit _ (lst_nil)) (.cons (.lit _ (lst_nil)) (.cons (.lit _ (lst_nil)) (.cons (.lit _ (lst_nil)) (.cons (.refl _) (.cons (.refl _) (.cons (.lit _ (lst_nil)) (.cons (.refl _) (.cons (.refl _) (.cons (.refl _) (.cons (.refl _) (.cons (.refl _) (.cons (.lit _ (lst_nil)) (.refl _))))))))))))))))))))))))))))) (.lst0)))
 ·cbv;refine n_br hE h (fun hc h => ?_) (fun hc h => ?_)
  ·cbv;replace hO := hO.tl0 (t := .nil) rfl;obtain ⟨s3, hx, h⟩ := bind_some h;refine n_loopG cf41 hE okP (γ := Tail) (fun s1 g => [(1, .v (.eref [.int .i64 x_p.Op, .sl (Ar.lst Encs.eGPattern x_p.Args) .ro, .int .i64 x_p.Typ, .int .i64 x_p.Var, .int .i64 x_p.Scope, .int .i64 x_p.Span, .int .i64 x_p.Cond.Op, .sl (Ar.lst Encs.eGExpr x_p.Cond.Args) .ro, .int .i64 x_p.Cond.Var, .int .i64 x_p.Cond.Field, .int .i64 x_p.Cond.Kind, .int .i64 x_p.Cond.Value.Kind, .int .i64 x_p.Cond.Value.Num, .str x_p.Cond.Value.Text] 0)), (3, .v (.sl (Ar.lst Encs.eGtidegateref22_Pair s1.1) g)), (4, .v (.int .i64 s1.2))]) (fun s1 g H1 => Appn g ∧ Own Eq H0 [.tl g] H1) (fun x e l H1 => ∃ u1 : Tail, Appn u1 ∧ e = .exit 0 ∧ l = [(3, .v (.sl (Ar.lst Encs.eGtidegateref22_Pair x) u1))] ∧ Own Eq H0 [.tl u1] H1) (by kernel_rfl) ?_ .nil hx ?_ ?_ ?_
   ·rintro s1 t2 H o ⟨ht2, hO⟩ h;clear hx;cbv;refine n_ln hE ?_;cbv;refine n_br hE h (fun hc h => ?_) (fun hc h => ?_)
    ·cbv;refine n_idx hE Encs.eGPattern_eq h fun x4 h => ?_;cbv;refine n_call hE (g := fun r5 => .sl (Ar.lst Encs.eGtidegateref22_Pair r5) .ro) h (fun r5 hx => ih x4 r5 hx) (.refl _) fun r5 h => ?_;cbv;obtain ⟨s8, hx, h⟩ := bind_some h;refine n_loopG cf41 hE okP (γ := Tail) (fun s6 g => [(1, .v (.eref [.int .i64 x_p.Op, .sl (Ar.lst Encs.eGPattern x_p.Args) .ro, .int .i64 x_p.Typ, .int .i64 x_p.Var, .int .i64 x_p.Scope, .int .i64 x_p.Span, .int .i64 x_p.Cond.Op, .sl (Ar.lst Encs.eGExpr x_p.Cond.Args) .ro, .int .i64 x_p.Cond.Var, .int .i64 x_p.Cond.Field, .int .i64 x_p.Cond.Kind, .int .i64 x_p.Cond.Value.Kind, .int .i64 x_p.Cond.Value.Num, .str x_p.Cond.Value.Text] 0)), (3, .v (.sl (Ar.lst Encs.eGtidegateref22_Pair s6.1) g)), (4, .v (.int .i64 s1.2)), (5, .v (.sl (Ar.lst Encs.eGtidegateref22_Pair r5) .ro)), (6, .v (.int .i64 s6.2))]) (fun s6 g H1 => Appn g ∧ Own Eq H0 [.tl g] H1) (fun x e l H1 => ∃ u1 : Tail, Appn u1 ∧ e = .exit 2 ∧ l = [(1, .v (.eref [.int .i64 x_p.Op, .sl (Ar.lst Encs.eGPattern x_p.Args) .ro, .int .i64 x_p.Typ, .int .i64 x_p.Var, .int .i64 x_p.Scope, .int .i64 x_p.Span, .int .i64 x_p.Cond.Op, .sl (Ar.lst Encs.eGExpr x_p.Cond.Args) .ro, .int .i64 x_p.Cond.Var, .int .i64 x_p.Cond.Field, .int .i64 x_p.Cond.Kind, .int .i64 x_p.Cond.Value.Kind, .int .i64 x_p.Cond.Value.Num, .str x_p.Cond.Value.Text] 0)), (3, .v (.sl (Ar.lst Encs.eGtidegateref22_Pair x) u1)), (4, .v (.int .i64 s1.2))] ∧ Own Eq H0 [.tl u1] H1) (by kernel_rfl) ?_ t2 hx ?_ ?_ ?_
     ·rintro s6 t7 H o ⟨ht7, hO⟩ h;clear hx;cbv;refine n_ln hE ?_;cbv;refine n_br hE h (fun hc h => ?_) (fun hc h => ?_)
      ·cbv;refine n_idx hE Encs.eGtidegateref22_Pair_eq h fun x9 h => ?_;cbv;refine n_alloc hE hO fun b10 H hO => ?_;cbv;refine n_store hE hO 0 rfl rfl fun H hO => ?_;cbv;refine n_br hE h (fun hc h => ?_) (fun hc h => ?_)
       ·cbv;refine n_load hE hO 0 rfl ?_;cbv;refine n_call hE (g := fun r11 => .agg [.int .i64 r11.Edge.From, .int .i64 r11.Edge.To, .int .i64 r11.Edge.Var, .int .i64 r11.Edge.Typ, .int .i64 r11.Edge.Cond.Op, .sl (Ar.lst Encs.eGExpr r11.Edge.Cond.Args) .ro, .int .i64 r11.Edge.Cond.Var, .int .i64 r11.Edge.Cond.Field, .int .i64 r11.Edge.Cond.Kind, .int .i64 r11.Edge.Cond.Value.Kind, .int .i64 r11.Edge.Cond.Value.Num, .str r11.Edge.Cond.Value.Text, .sl (Ar.lst (V.int .i64) r11.Edge.Opens) .ro, .sl (Ar.lst (V.int .i64) r11.Edge.Closes) .ro, .sl (Ar.lst Encs.eGExpr r11.Edge.Checks) .ro, .sl (Ar.lst Encs.eGLimit r11.Edge.Limits) .ro, .sl (Ar.lst (V.int .i64) r11.Edge.Inside) .ro, .bool r11.Done, .int .i64 r11.Rest.Op, .sl (Ar.lst Encs.eGPattern r11.Rest.Args) .ro, .int .i64 r11.Rest.Typ, .int .i64 r11.Rest.Var, .int .i64 r11.Rest.Scope, .int .i64 r11.Rest.Span, .int .i64 r11.Rest.Cond.Op, .sl (Ar.lst Encs.eGExpr r11.Rest.Cond.Args) .ro, .int .i64 r11.Rest.Cond.Var, .int .i64 r11.Rest.Cond.Field, .int .i64 r11.Rest.Cond.Kind, .int .i64 r11.Rest.Cond.Value.Kind, .int .i64 r11.Rest.Cond.Value.Num, .str r11.Rest.Cond.Value.Text]) h (fun r11 hx => c71 N x9 x_p s1.2 r11 hx) (.refl _) fun r11 h => ?_;cbv;refine n_store hE hO 0 rfl rfl fun H hO => ?_;cbv;refine n_load hE hO 0 rfl ?_;cbv;refine n_callT hE (f := Encs.eGtidegateref22_Pair) hO 1 rfl ht7 h (fun l12 hx => c72 N s6.1 r11 l12 hx) (.refl _) (.refl _) fun l12 t14 H hO ht14 h => ?_;cbv;have h := ret_some h;subst h;exact ⟨_, t14, rfl, .e rfl (.e rfl (.e rfl (.e rfl (.e rfl (.z))))), rfl, ht14, hO.tail⟩
       ·cbv;refine n_load hE hO 0 rfl ?_;cbv;refine n_callT hE (f := Encs.eGtidegateref22_Pair) hO 1 rfl ht7 h (fun l15 hx => c72 N s6.1 x9 l15 hx) (.refl _) (.refl _) fun l15 t17 H hO ht17 h => ?_;cbv;have h := ret_some h;subst h;exact ⟨_, t17, rfl, .e rfl (.e rfl (.e rfl (.e rfl (.e rfl (.z))))), rfl, ht17, hO.tail⟩
      ·cbv;have h := ret_some h;subst h;exact ⟨_, _, rfl, ⟨t7, ht7, rfl, rfl, hO⟩, .e rfl (.e rfl (.e rfl (.z))), rfl⟩
     ·exact .e rfl (.e rfl (.e rfl (.e rfl (.e rfl (.z)))))
     ·exact ⟨ht2, hO⟩
     ·clear hx;rintro e l H ⟨t18, ht18, rfl, rfl, hO⟩;cbv;have h := ret_some h;subst h;exact ⟨_, t18, rfl, .e rfl (.e rfl (.e rfl (.z))), rfl, ht18, hO⟩
    ·cbv;have h := ret_some h;subst h;exact ⟨_, _, rfl, ⟨t2, ht2, rfl, rfl, hO⟩, .e rfl (.z), rfl⟩
   ·exact .e rfl (.v (.slt _ (.lst0)) (.e rfl (.z)))
   ·exact ⟨trivial, hO⟩
   ·clear hx;rintro e l H ⟨t19, ht19, rfl, rfl, hO⟩;cbv;have h := ret_some h;subst h;exact hK _ _ _ hO (.ro _ _)
  ·cbv;refine n_idx hE Encs.eGPattern_eq h fun x20 h => ?_;cbv;refine n_call hE (g := fun r21 => .sl (Ar.lst Encs.eGtidegateref22_Pair r21) .ro) h (fun r21 hx => ih x20 r21 hx) (.refl _) fun r21 h => ?_;cbv;replace hO := hO.tl0 (t := .nil) rfl;obtain ⟨s24, hx, h⟩ := bind_some h;refine n_loopG cf41 hE okP (γ := Tail) (fun s22 g => [(1, .v (.eref [.int .i64 x_p.Op, .sl (Ar.lst Encs.eGPattern x_p.Args) .ro, .int .i64 x_p.Typ, .int .i64 x_p.Var, .int .i64 x_p.Scope, .int .i64 x_p.Span, .int .i64 x_p.Cond.Op, .sl (Ar.lst Encs.eGExpr x_p.Cond.Args) .ro, .int .i64 x_p.Cond.Var, .int .i64 x_p.Cond.Field, .int .i64 x_p.Cond.Kind, .int .i64 x_p.Cond.Value.Kind, .int .i64 x_p.Cond.Value.Num, .str x_p.Cond.Value.Text] 0)), (3, .v (.sl (Ar.lst Encs.eGtidegateref22_Pair s22.1) g)), (8, .v (.sl (Ar.lst Encs.eGtidegateref22_Pair r21) .ro)), (9, .v (.int .i64 s22.2))]) (fun s22 g H1 => Appn g ∧ Own Eq H0 [.tl g] H1) (fun x e l H1 => ∃ u1 : Tail, Appn u1 ∧ e = .exit 4 ∧ l = [(3, .v (.sl (Ar.lst Encs.eGtidegateref22_Pair x) u1))] ∧ Own Eq H0 [.tl u1] H1) (by kernel_rfl) ?_ .nil hx ?_ ?_ ?_
   ·rintro s22 t23 H o ⟨ht23, hO⟩ h;clear hx;cbv;refine n_ln hE ?_;cbv;refine n_br hE h (fun hc h => ?_) (fun hc h => ?_)
    ·cbv;refine n_idx hE Encs.eGtidegateref22_Pair_eq h fun x25 h => ?_;cbv;refine n_call hE (g := fun r26 => .sl (Ar.lst Encs.eGtidegateref22_Pair r26) .ro) h (fun r26 hx => c73 N x_p x25 r26 hx) (.refl _) fun r26 h => ?_;cbv;obtain ⟨s29, hx, h⟩ := bind_some h;refine n_loopG cf41 hE okP (γ := Tail) (fun s27 g => [(1, .v (.eref [.int .i64 x_p.Op, .sl (Ar.lst Encs.eGPattern x_p.Args) .ro, .int .i64 x_p.Typ, .int .i64 x_p.Var, .int .i64 x_p.Scope, .int .i64 x_p.Span, .int .i64 x_p.Cond.Op, .sl (Ar.lst Encs.eGExpr x_p.Cond.Args) .ro, .int .i64 x_p.Cond.Var, .int .i64 x_p.Cond.Field, .int .i64 x_p.Cond.Kind, .int .i64 x_p.Cond.Value.Kind, .int .i64 x_p.Cond.Value.Num, .str x_p.Cond.Value.Text] 0)), (3, .v (.sl (Ar.lst Encs.eGtidegateref22_Pair s27.1) g)), (8, .v (.sl (Ar.lst Encs.eGtidegateref22_Pair r21) .ro)), (9, .v (.int .i64 s22.2)), (10, .v (.sl (Ar.lst Encs.eGtidegateref22_Pair r26) .ro)), (11, .v (.int .i64 s27.2))]) (fun s27 g H1 => Appn g ∧ Own Eq H0 [.tl g] H1) (fun x e l H1 => ∃ u1 : Tail, Appn u1 ∧ e = .exit 6 ∧ l = [(1, .v (.eref [.int .i64 x_p.Op, .sl (Ar.lst Encs.eGPattern x_p.Args) .ro, .int .i64 x_p.Typ, .int .i64 x_p.Var, .int .i64 x_p.Scope, .int .i64 x_p.Span, .int .i64 x_p.Cond.Op, .sl (Ar.lst Encs.eGExpr x_p.Cond.Args) .ro, .int .i64 x_p.Cond.Var, .int .i64 x_p.Cond.Field, .int .i64 x_p.Cond.Kind, .int .i64 x_p.Cond.Value.Kind, .int .i64 x_p.Cond.Value.Num, .str x_p.Cond.Value.Text] 0)), (3, .v (.sl (Ar.lst Encs.eGtidegateref22_Pair x) u1)), (8, .v (.sl (Ar.lst Encs.eGtidegateref22_Pair r21) .ro)), (9, .v (.int .i64 s22.2))] ∧ Own Eq H0 [.tl u1] H1) (by kernel_rfl) ?_ t23 hx ?_ ?_ ?_
     ·rintro s27 t28 H o ⟨ht28, hO⟩ h;clear hx;cbv;refine n_ln hE ?_;cbv;refine n_br hE h (fun hc h => ?_) (fun hc h => ?_)
      ·cbv;refine n_idx hE Encs.eGtidegateref22_Pair_eq h fun x30 h => ?_;cbv;refine n_callT hE (f := Encs.eGtidegateref22_Pair) hO 0 rfl ht28 h (fun l31 hx => c72 N s27.1 x30 l31 hx) (.refl _) (.refl _) fun l31 t33 H hO ht33 h => ?_;cbv;have h := ret_some h;subst h;exact ⟨_, t33, rfl, .e rfl (.e rfl (.e rfl (.e rfl (.e rfl (.e rfl (.z)))))), rfl, ht33, hO⟩
      ·cbv;have h := ret_some h;subst h;exact ⟨_, _, rfl, ⟨t28, ht28, rfl, rfl, hO⟩, .e rfl (.e rfl (.e rfl (.e rfl (.z)))), rfl⟩
     ·exact .e rfl (.e rfl (.e rfl (.e rfl (.e rfl (.e rfl (.z))))))
     ·exact ⟨ht23, hO⟩
     ·clear hx;rintro e l H ⟨t34, ht34, rfl, rfl, hO⟩;cbv;have h := ret_some h;subst h;exact ⟨_, t34, rfl, .e rfl (.e rfl (.e rfl (.e rfl (.z)))), rfl, ht34, hO⟩
    ·cbv;have h := ret_some h;subst h;exact ⟨_, _, rfl, ⟨t23, ht23, rfl, rfl, hO⟩, .e rfl (.z), rfl⟩
   ·exact .e rfl (.v (.slt _ (.lst0)) (.e rfl (.e rfl (.z))))
   ·exact ⟨trivial, hO⟩
   ·clear hx;rintro e l H ⟨t35, ht35, rfl, rfl, hO⟩;cbv;have h := ret_some h;subst h;exact hK _ _ _ hO (.ro _ _)
def cf42 : Cf := ⟨[], [(4, 5)], [], [], [], []⟩
theorem c42 (N : Nat) (x_l : List GPattern) (x_p : GPattern) (r : Int) (h : ref22_index N x_l x_p = some r) : CallP Tryz.prog 42 [.sl (Ar.lst Encs.eGPattern x_l) .ro, .agg [.int .i64 x_p.Op, .sl (Ar.lst Encs.eGPattern x_p.Args) .ro, .int .i64 x_p.Typ, .int .i64 x_p.Var, .int .i64 x_p.Scope, .int .i64 x_p.Span, .int .i64 x_p.Cond.Op, .sl (Ar.lst Encs.eGExpr x_p.Cond.Args) .ro, .int .i64 x_p.Cond.Var, .int .i64 x_p.Cond.Field, .int .i64 x_p.Cond.Kind, .int .i64 x_p.Cond.Value.Kind, .int .i64 x_p.Cond.Value.Num, .str x_p.Cond.Value.Text]] (.int .i64 r) := by
 unfold ref22_index at h
 refine callP_of_spec cf42 okP Tryz.func42 (by rfl) (by kernel_rfl) Tryz.call42 Tryz.ntmps42 (by rfl) (by rfl) ?_;intro E H0 K hE hK
 have hO : Own Eq H0 [] H0 := .start stable_eq rfl
 cbv;obtain ⟨s2, hx, h⟩ := bind_some h;refine n_loopN cf42 hE okP (fun s1 => [(0, .v (.sl (Ar.lst Encs.eGPattern x_l) .ro)), (3, .v (.eref [.int .i64 x_p.Op, .sl (Ar.lst Encs.eGPattern x_p.Args) .ro, .int .i64 x_p.Typ, .int .i64 x_p.Var, .int .i64 x_p.Scope, .int .i64 x_p.Span, .int .i64 x_p.Cond.Op, .sl (Ar.lst Encs.eGExpr x_p.Cond.Args) .ro, .int .i64 x_p.Cond.Var, .int .i64 x_p.Cond.Field, .int .i64 x_p.Cond.Kind, .int .i64 x_p.Cond.Value.Kind, .int .i64 x_p.Cond.Value.Num, .str x_p.Cond.Value.Text] 0)), (5, .v (.int .i64 s1))]) (fun s1 H1 => Own Eq H0 [] H1) (fun x e l H1 => match (generalizing := false) x with | .inl y => e = .exit 0 ∧ l = [] ∧ Own Eq H0 [] H1 | .inr y => e = .ret ∧ l = [(4, .v (.int .i64 y))] ∧ Own Eq H0 [] H1) (by kernel_rfl) ?_ hx ?_ hO ?_
 ·intro s1 H o hO h;clear hx;cbv;refine n_ln hE ?_;cbv;refine n_br hE h (fun hc h => ?_) (fun hc h => ?_)
  ·cbv;refine n_idx hE Encs.eGPattern_eq h fun x3 h => ?_;cbv;refine n_call hE (g := fun r4 => .bool r4) h (fun r4 hx => c44 N N x3 x_p r4 hx) (.refl _) fun r4 h => ?_;cbv;refine n_br hE h (fun hc h => ?_) (fun hc h => ?_)
   ·cbv;have h := ret_some h;subst h;exact ⟨_, _, rfl, ⟨rfl, rfl, hO⟩, .e rfl (.z), rfl⟩
   ·cbv;have h := ret_some h;subst h;exact ⟨_, rfl, .e rfl (.e rfl (.e rfl (.z))), rfl, hO⟩
  ·cbv;have h := ret_some h;subst h;exact ⟨_, _, rfl, ⟨rfl, rfl, hO⟩, .z, rfl⟩
 ·exact .e rfl (.e rfl (.e rfl (.z)))
 ·clear hx
  rcases s2 with y5 | y6
  ·rintro e l H ⟨rfl, rfl, hO⟩;cbv;have h := ret_some h;subst h;exact hK _ _ _ hO (.refl _)
  ·rintro e l H ⟨rfl, rfl, hO⟩;cbv;have h := ret_some h;subst h;exact hK _ _ _ hO (.refl _)
def cf11 : Cf := ⟨[10], [], [], [], [], []⟩
theorem c11 (N : Nat) (x_p : GPattern) (r : ((List GEdge) × (List GPattern) × Int)) (h : ref22_Derive N x_p = some r) : CallP Tryz.prog 11 [.agg [.int .i64 x_p.Op, .sl (Ar.lst Encs.eGPattern x_p.Args) .ro, .int .i64 x_p.Typ, .int .i64 x_p.Var, .int .i64 x_p.Scope, .int .i64 x_p.Span, .int .i64 x_p.Cond.Op, .sl (Ar.lst Encs.eGExpr x_p.Cond.Args) .ro, .int .i64 x_p.Cond.Var, .int .i64 x_p.Cond.Field, .int .i64 x_p.Cond.Kind, .int .i64 x_p.Cond.Value.Kind, .int .i64 x_p.Cond.Value.Num, .str x_p.Cond.Value.Text]] (.tup [.sl (Ar.lst Encs.eGEdge r.1) .ro, .sl (Ar.lst Encs.eGPattern r.2.1) .ro, .int .i64 r.2.2]) := by
 unfold ref22_Derive at h
 refine callP_of_spec cf11 okP Tryz.func11 (by rfl) (by kernel_rfl) Tryz.call11 Tryz.ntmps11 (by rfl) (by rfl) ?_;intro E H0 K hE hK
 have hO : Own Eq H0 [] H0 := .start stable_eq rfl
 cbv;refine n_call hE (g := fun r1 => .int .i64 r1) h (fun r1 hx => c7 N x_p r1 hx) (.refl _) fun r1 h => ?_;cbv;refine n_br hE h (fun hc h => ?_) (fun hc h => ?_)
 ·cbv;have h := ret_some h;subst h;exact hK _ _ _ hO (.tup (.cons (.lit _ (lst_nil)) (.cons (.lit _ (lst_nil)) (.refl _))))
 ·cbv;refine n_call hE (g := fun r2 => .sl (Ar.lst Encs.eGtidegateref22_Pair r2) .ro) h (fun r2 hx => c41 N N x_p r2 hx) (.refl _) fun r2 h => ?_;cbv;refine n_ln hE ?_;cbv;refine n_br hE h (fun hc h => ?_) (fun hc h => ?_)
  ·cbv;have h := ret_some h;subst h;exact hK _ _ _ hO (.tup (.cons (.lit _ (lst_nil)) (.cons (.lit _ (lst_nil)) (.refl _))))
  ·cbv;replace hO := hO.tl0 (t := .nil) rfl;replace hO := hO.tl0 (t := .nil) rfl;obtain ⟨s6, hx, h⟩ := bind_some h;refine n_loopG cf11 hE okP (γ := Tail × Tail) (fun s3 g => [(6, .v (.sl (Ar.lst Encs.eGtidegateref22_Pair r2) .ro)), (7, .v (.sl (Ar.lst Encs.eGEdge s3.1) g.2)), (8, .v (.sl (Ar.lst Encs.eGPattern s3.2.1) g.1)), (9, .v (.int .i64 s3.2.2))]) (fun s3 g H1 => Appn g.1 ∧ Appn g.2 ∧ Own Eq H0 [.tl g.1, .tl g.2] H1) (fun x e l H1 => match (generalizing := false) x with | .inl y => ∃ u1 : Tail, Appn u1 ∧ ∃ u2 : Tail, Appn u2 ∧ e = .exit 0 ∧ l = [(7, .v (.sl (Ar.lst Encs.eGEdge y.1) u2)), (8, .v (.sl (Ar.lst Encs.eGPattern y.2) u1))] ∧ Own Eq H0 [.tl u1, .tl u2] H1 | .inr y => ∃ u1 : Tail, Appn u1 ∧ ∃ u2 : Tail, Appn u2 ∧ e = .ret ∧ l = [(2, .v (.sl [] .nil)), (3, .v (.sl [] .nil)), (4, .v (.int .i64 17))] ∧ Own Eq H0 [.tl u1, .tl u2] H1) (by kernel_rfl) ?_ (⟨.nil, .nil⟩) hx ?_ ?_ ?_
   ·rintro s3 ⟨t4, t5⟩ H o ⟨ht4, ht5, hO⟩ h;clear hx;cbv;refine n_ln hE ?_;cbv;refine n_br hE h (fun hc h => ?_) (fun hc h => ?_)
    ·cbv;refine n_idx hE Encs.eGtidegateref22_Pair_eq h fun x7 h => ?_;cbv;refine n_alloc hE hO fun b8 H hO => ?_;cbv;refine n_store hE hO 0 rfl rfl fun H hO => ?_;cbv;refine n_store hE hO 0 rfl rfl fun H hO => ?_;cbv;refine n_idx hE Encs.eGtidegateref22_Pair_eq h fun x9 h => ?_;cbv;refine n_br hE h (fun hc h => ?_) (fun hc h => ?_)
     ·cbv;refine n_idx hE Encs.eGtidegateref22_Pair_eq h fun x10 h => ?_;cbv;refine n_call hE (g := fun r11 => .int .i64 r11) h (fun r11 hx => c7 N x10.Rest r11 hx) (.refl _) fun r11 h => ?_;cbv;refine n_br hE h (fun hc h => ?_) (fun hc h => ?_)
      ·cbv;have h := ret_some h;subst h;exact ⟨_, _, rfl, ⟨t4, ht4, t5, ht5, rfl, rfl, hO.tail⟩, .e rfl (.e rfl (.e rfl (.z))), rfl⟩
      ·cbv;refine n_idx hE Encs.eGtidegateref22_Pair_eq h fun x12 h => ?_;cbv;refine n_call hE (g := fun r13 => .int .i64 r13) h (fun r13 hx => c42 N s3.2.1 x12.Rest r13 hx) (.cons (.ro _ _) (.refl _)) fun r13 h => ?_;cbv;refine n_store hE hO 0 rfl rfl fun H hO => ?_;cbv;refine n_load hE hO 0 rfl ?_;cbv;refine n_br hE h (fun hc h => ?_) (fun hc h => ?_)
       ·cbv;refine n_ln hE ?_;cbv;refine n_store hE hO 0 rfl rfl fun H hO => ?_;cbv;refine n_idx hE Encs.eGtidegateref22_Pair_eq h fun x14 h => ?_;cbv;refine n_appn (f := Encs.eGPattern) hE sz_GPattern (by decide) hO 1 rfl ht4 (l := s3.2.1) (m := [x14.Rest]) (.refl _) (.lstc (.eq (Encs.eGPattern_eq x14.Rest) (.refl _)) (.lst0)) h fun l16 t15 H hO ht15 h => ?_;cbv;refine n_load hE hO 0 rfl ?_;cbv;refine n_appn (f := Encs.eGEdge) hE sz_GEdge (by decide) hO 2 rfl ht5 (l := s3.1) (m := [{ x7.Edge with To := Ar.len s3.2.1 }]) (.refl _) (.lstc (.eq (Encs.eGEdge_eq ({ x7.Edge with To := Ar.len s3.2.1 })) (.refl _)) (.lst0)) h fun l18 t17 H hO ht17 h => ?_;cbv;have h := ret_some h;subst h;exact ⟨_, ⟨t15, t17⟩, rfl, .e rfl (.e rfl (.e rfl (.e rfl (.z)))), rfl, ht15, ht17, hO.tail⟩
       ·cbv;refine n_load hE hO 0 rfl ?_;cbv;refine n_appn (f := Encs.eGEdge) hE sz_GEdge (by decide) hO 2 rfl ht5 (l := s3.1) (m := [{ x7.Edge with To := r13 }]) (.refl _) (.lstc (.eq (Encs.eGEdge_eq ({ x7.Edge with To := r13 })) (.refl _)) (.lst0)) h fun l20 t19 H hO ht19 h => ?_;cbv;have h := ret_some h;subst h;exact ⟨_, ⟨t4, t19⟩, rfl, .e rfl (.e rfl (.e rfl (.e rfl (.z)))), rfl, ht4, ht19, hO.tail⟩
     ·cbv;refine n_load hE hO 0 rfl ?_;cbv;refine n_appn (f := Encs.eGEdge) hE sz_GEdge (by decide) hO 2 rfl ht5 (l := s3.1) (m := [{ x7.Edge with To := (-1) }]) (.refl _) (.lstc (.eq (Encs.eGEdge_eq ({ x7.Edge with To := (-1) })) (.refl _)) (.lst0)) h fun l22 t21 H hO ht21 h => ?_;cbv;have h := ret_some h;subst h;exact ⟨_, ⟨t4, t21⟩, rfl, .e rfl (.e rfl (.e rfl (.e rfl (.z)))), rfl, ht4, ht21, hO.tail⟩
    ·cbv;have h := ret_some h;subst h;exact ⟨_, _, rfl, ⟨t4, ht4, t5, ht5, rfl, rfl, hO⟩, .e rfl (.e rfl (.z)), rfl⟩
   ·exact .e rfl (.v (.slt _ (.lst0)) (.v (.slt _ (.lst0)) (.e rfl (.z))))
   ·exact ⟨trivial, trivial, hO⟩
   ·clear hx
    rcases s6 with y23 | y26
    ·rintro e l H ⟨t24, ht24, t25, ht25, rfl, rfl, hO⟩;cbv;have h := ret_some h;subst h;exact hK _ _ _ hO (.tup (.cons (.ro _ _) (.cons (.ro _ _) (.refl _))))
    ·rintro e l H ⟨t27, ht27, t28, ht28, rfl, rfl, hO⟩;cbv;have h := ret_some h;subst h;exact hK _ _ _ hO (.tup (.cons (.lit _ (lst_nil)) (.cons (.lit _ (lst_nil)) (.refl _))))
def cf12 : Cf := ⟨[], [(6, 33)], [], [], [], []⟩
theorem c12 (N : Nat) (x_a : List GEdge) (x_b : List GEdge) (r : Bool) (h : ref22_SameEdges N x_a x_b = some r) : CallP Tryz.prog 12 [.sl (Ar.lst Encs.eGEdge x_a) .ro, .sl (Ar.lst Encs.eGEdge x_b) .ro] (.bool r) := by
 unfold ref22_SameEdges at h
 refine callP_of_spec cf12 okP Tryz.func12 (by rfl) (by kernel_rfl) Tryz.call12 Tryz.ntmps12 (by rfl) (by rfl) ?_;intro E H0 K hE hK
 have hO : Own Eq H0 [] H0 := .start stable_eq rfl
 cbv;refine n_ln hE ?_;cbv;refine n_ln hE ?_;cbv;refine n_br hE h (fun hc h => ?_) (fun hc h => ?_)
 ·cbv;have h := ret_some h;subst h;exact hK _ _ _ hO (.refl _)
 ·cbv;obtain ⟨s2, hx, h⟩ := bind_some h;refine n_loopN cf12 hE okP (fun s1 => [(0, .v (.sl (Ar.lst Encs.eGEdge x_a) .ro)), (1, .v (.sl (Ar.lst Encs.eGEdge x_b) .ro)), (5, .v (.int .i64 s1))]) (fun s1 H1 => Own Eq H0 [] H1) (fun x e l H1 => match (generalizing := false) x with | .inl y => e = .exit 0 ∧ l = [] ∧ Own Eq H0 [] H1 | .inr y => e = .ret ∧ l = [(4, .b false)] ∧ Own Eq H0 [] H1) (by kernel_rfl) ?_ hx ?_ hO ?_
  ·intro s1 H o hO h;clear hx;cbv;refine n_ln hE ?_;cbv;refine n_br hE h (fun hc h => ?_) (fun hc h => ?_)
   ·cbv;refine n_idx hE Encs.eGEdge_eq h fun x3 h => ?_;cbv;refine n_idx hE Encs.eGEdge_eq h fun x4 h => ?_;cbv;refine n_br hE h (fun hc h => ?_) (fun hc h => ?_)
    ·cbv;have h := ret_some h;subst h;exact ⟨_, _, rfl, ⟨rfl, rfl, hO⟩, .b rfl (.z), rfl⟩
    ·cbv;refine n_idx hE Encs.eGEdge_eq h fun x5 h => ?_;cbv;refine n_idx hE Encs.eGEdge_eq h fun x6 h => ?_;cbv;refine n_br hE h (fun hc h => ?_) (fun hc h => ?_)
     ·cbv;have h := ret_some h;subst h;exact ⟨_, _, rfl, ⟨rfl, rfl, hO⟩, .b rfl (.z), rfl⟩
     ·cbv;refine n_idx hE Encs.eGEdge_eq h fun x7 h => ?_;cbv;refine n_idx hE Encs.eGEdge_eq h fun x8 h => ?_;cbv;refine n_call hE (g := fun r9 => .bool r9) h (fun r9 hx => c43 N x7 x8 r9 hx) (.refl _) fun r9 h => ?_;cbv;refine n_br hE h (fun hc h => ?_) (fun hc h => ?_)
      ·cbv;have h := ret_some h;subst h;exact ⟨_, _, rfl, ⟨rfl, rfl, hO⟩, .b rfl (.z), rfl⟩
      ·cbv;have h := ret_some h;subst h;exact ⟨_, rfl, .e rfl (.e rfl (.e rfl (.z))), rfl, hO⟩
   ·cbv;have h := ret_some h;subst h;exact ⟨_, _, rfl, ⟨rfl, rfl, hO⟩, .z, rfl⟩
  ·exact .e rfl (.e rfl (.e rfl (.z)))
  ·clear hx
   rcases s2 with y10 | y11
   ·rintro e l H ⟨rfl, rfl, hO⟩;cbv;have h := ret_some h;subst h;exact hK _ _ _ hO (.refl _)
   ·rintro e l H ⟨rfl, rfl, hO⟩;cbv;have h := ret_some h;subst h;exact hK _ _ _ hO (.refl _)
def cf3 : Cf := ⟨[], [], [], [], [], []⟩
theorem c3 (N : Nat) (x_p : GPattern) (r : Bool) (h : law22_DerivativeDerives N x_p = some r) : CallP Tryz.prog 3 [.agg [.int .i64 x_p.Op, .sl (Ar.lst Encs.eGPattern x_p.Args) .ro, .int .i64 x_p.Typ, .int .i64 x_p.Var, .int .i64 x_p.Scope, .int .i64 x_p.Span, .int .i64 x_p.Cond.Op, .sl (Ar.lst Encs.eGExpr x_p.Cond.Args) .ro, .int .i64 x_p.Cond.Var, .int .i64 x_p.Cond.Field, .int .i64 x_p.Cond.Kind, .int .i64 x_p.Cond.Value.Kind, .int .i64 x_p.Cond.Value.Num, .str x_p.Cond.Value.Text]] (.bool r) := by
 unfold law22_DerivativeDerives at h
 refine callP_of_spec cf3 okP Tryz.func3 (by rfl) (by kernel_rfl) Tryz.call3 Tryz.ntmps3 (by rfl) (by rfl) ?_;intro E H0 K hE hK
 have hO : Own Eq H0 [] H0 := .start stable_eq rfl
 cbv;refine n_call hE (g := fun r1 => .bool r1) h (fun r1 hx => c6 N x_p r1 hx) (.refl _) fun r1 h => ?_;cbv;refine n_br hE h (fun hc h => ?_) (fun hc h => ?_)
 ·cbv;refine n_call hE (g := fun r2 => .bool r2) h (fun r2 hx => c9 N  r2 hx) (.refl _) fun r2 h => ?_;cbv;have h := ret_some h;subst h;exact hK _ _ _ hO (.refl _)
 ·cbv;refine n_call hE (g := fun r3 => .int .i64 r3) h (fun r3 hx => c7 N x_p r3 hx) (.refl _) fun r3 h => ?_;cbv;refine n_br hE h (fun hc h => ?_) (fun hc h => ?_)
  ·cbv;refine n_call hE (g := fun r4 => .bool r4) h (fun r4 hx => c8 N x_p r4 hx) (.refl _) fun r4 h => ?_;cbv;refine n_br hE h (fun hc h => ?_) (fun hc h => ?_)
   ·cbv;refine n_call hE (g := fun r5 => .bool r5) h (fun r5 hx => c9 N  r5 hx) (.refl _) fun r5 h => ?_;cbv;have h := ret_some h;subst h;exact hK _ _ _ hO (.refl _)
   ·cbv;refine n_call hE (g := fun r6 => .tup [.sl (Ar.lst Encs.eGEdge r6.1) .ro, .sl (Ar.lst Encs.eGPattern r6.2.1) .ro, .int .i64 r6.2.2]) h (fun r6 hx => c10 N x_p r6 hx) (.refl _) fun r6 h => ?_;cbv;refine n_call hE (g := fun r7 => .tup [.sl (Ar.lst Encs.eGEdge r7.1) .ro, .sl (Ar.lst Encs.eGPattern r7.2.1) .ro, .int .i64 r7.2.2]) h (fun r7 hx => c11 N x_p r7 hx) (.refl _) fun r7 h => ?_;cbv;refine n_call hE (g := fun r8 => .bool r8) h (fun r8 hx => c12 N r6.1 r7.1 r8 hx) (.refl _) fun r8 h => ?_;cbv;refine n_br hE h (fun hc h => ?_) (fun hc h => ?_)
    ·cbv;refine n_call hE (g := fun r9 => .bool r9) h (fun r9 hx => c13 N r6.2.1 r7.2.1 r9 hx) (.refl _) fun r9 h => ?_;cbv;refine n_br hE h (fun hc h => ?_) (fun hc h => ?_)
     ·cbv;refine n_call hE (g := fun r10 => .bool r10) h (fun r10 hx => c9 N  r10 hx) (.refl _) fun r10 h => ?_;cbv;have h := ret_some h;subst h;exact hK _ _ _ hO (.refl _)
     ·cbv;have h := ret_some h;subst h;exact hK _ _ _ hO (.refl _)
    ·cbv;have h := ret_some h;subst h;exact hK _ _ _ hO (.refl _)
  ·cbv;refine n_call hE (g := fun r11 => .tup [.sl (Ar.lst Encs.eGEdge r11.1) .ro, .sl (Ar.lst Encs.eGPattern r11.2.1) .ro, .int .i64 r11.2.2]) h (fun r11 hx => c10 N x_p r11 hx) (.refl _) fun r11 h => ?_;cbv;refine n_call hE (g := fun r12 => .tup [.sl (Ar.lst Encs.eGEdge r12.1) .ro, .sl (Ar.lst Encs.eGPattern r12.2.1) .ro, .int .i64 r12.2.2]) h (fun r12 hx => c11 N x_p r12 hx) (.refl _) fun r12 h => ?_;cbv;refine n_call hE (g := fun r13 => .bool r13) h (fun r13 hx => c12 N r11.1 r12.1 r13 hx) (.refl _) fun r13 h => ?_;cbv;refine n_br hE h (fun hc h => ?_) (fun hc h => ?_)
   ·cbv;refine n_call hE (g := fun r14 => .bool r14) h (fun r14 hx => c13 N r11.2.1 r12.2.1 r14 hx) (.refl _) fun r14 h => ?_;cbv;refine n_br hE h (fun hc h => ?_) (fun hc h => ?_)
    ·cbv;refine n_call hE (g := fun r15 => .bool r15) h (fun r15 hx => c9 N  r15 hx) (.refl _) fun r15 h => ?_;cbv;have h := ret_some h;subst h;exact hK _ _ _ hO (.refl _)
    ·cbv;have h := ret_some h;subst h;exact hK _ _ _ hO (.refl _)
   ·cbv;have h := ret_some h;subst h;exact hK _ _ _ hO (.refl _)
def cf79 : Cf := ⟨[], [], [], [], [], []⟩
theorem c79 (N : Nat) (x_l : List GPattern) (r : Bool) (h : ref09_proper N x_l = some r) : CallP Tryz.prog 79 [.sl (Ar.lst Encs.eGPattern x_l) .ro] (.bool r) := by
 unfold ref09_proper at h
 refine callP_of_spec cf79 okP Tryz.func79 (by rfl) (by kernel_rfl) Tryz.call79 Tryz.ntmps79 (by rfl) (by rfl) ?_;intro E H0 K hE hK
 have hO : Own Eq H0 [] H0 := .start stable_eq rfl
 cbv;obtain ⟨s2, hx, h⟩ := bind_some h;refine n_loopN cf79 hE okP (fun s1 => [(0, .v (.sl (Ar.lst Encs.eGPattern x_l) .ro)), (3, .v (.int .i64 s1))]) (fun s1 H1 => Own Eq H0 [] H1) (fun x e l H1 => match (generalizing := false) x with | .inl y => e = .exit 0 ∧ l = [] ∧ Own Eq H0 [] H1 | .inr y => e = .ret ∧ l = [(2, .b false)] ∧ Own Eq H0 [] H1) (by kernel_rfl) ?_ hx ?_ hO ?_
 ·intro s1 H o hO h;clear hx;cbv;refine n_ln hE ?_;cbv;refine n_br hE h (fun hc h => ?_) (fun hc h => ?_)
  ·cbv;refine n_idx hE Encs.eGPattern_eq h fun x3 h => ?_;cbv;refine n_br hE h (fun hc h => ?_) (fun hc h => ?_)
   ·cbv;have h := ret_some h;subst h;exact ⟨_, _, rfl, ⟨rfl, rfl, hO⟩, .b rfl (.z), rfl⟩
   ·cbv;have h := ret_some h;subst h;exact ⟨_, rfl, .e rfl (.e rfl (.z)), rfl, hO⟩
  ·cbv;have h := ret_some h;subst h;exact ⟨_, _, rfl, ⟨rfl, rfl, hO⟩, .z, rfl⟩
 ·exact .e rfl (.e rfl (.z))
 ·clear hx
  rcases s2 with y4 | y5
  ·rintro e l H ⟨rfl, rfl, hO⟩;cbv;have h := ret_some h;subst h;exact hK _ _ _ hO (.refl _)
  ·rintro e l H ⟨rfl, rfl, hO⟩;cbv;have h := ret_some h;subst h;exact hK _ _ _ hO (.refl _)
def cf46 : Cf := ⟨[], [], [(28, 13)], [], [], []⟩
theorem c46 (N : Nat) (x_p : GPattern) (r : Int) (h : ref09_Check N x_p = some r) : CallP Tryz.prog 46 [.agg [.int .i64 x_p.Op, .sl (Ar.lst Encs.eGPattern x_p.Args) .ro, .int .i64 x_p.Typ, .int .i64 x_p.Var, .int .i64 x_p.Scope, .int .i64 x_p.Span, .int .i64 x_p.Cond.Op, .sl (Ar.lst Encs.eGExpr x_p.Cond.Args) .ro, .int .i64 x_p.Cond.Var, .int .i64 x_p.Cond.Field, .int .i64 x_p.Cond.Kind, .int .i64 x_p.Cond.Value.Kind, .int .i64 x_p.Cond.Value.Num, .str x_p.Cond.Value.Text]] (.int .i64 r) := by
 unfold ref09_Check at h
 refine callP_of_spec cf46 okP Tryz.func46 (by rfl) (by kernel_rfl) Tryz.call46 Tryz.ntmps46 (by rfl) (by rfl) ?_;intro E H0 K hE hK
 have hO : Own Eq H0 [] H0 := .start stable_eq rfl
 cbv;refine n_call hE (g := fun r1 => .int .i64 r1) h (fun r1 hx => c7 N x_p r1 hx) (.refl _) fun r1 h => ?_;cbv;refine n_br hE h (fun hc h => ?_) (fun hc h => ?_)
 ·cbv;have h := ret_some h;subst h;exact hK _ _ _ hO (.refl _)
 ·cbv;refine n_call hE (g := fun r2 => .sl (Ar.lst Encs.eGPattern r2) .ro) h (fun r2 hx => c31 N N x_p r2 hx) (.refl _) fun r2 h => ?_;cbv;refine n_call hE (g := fun r3 => .bool r3) h (fun r3 hx => c79 N r2 r3 hx) (.refl _) fun r3 h => ?_;cbv;refine n_br hE h (fun hc h => ?_) (fun hc h => ?_)
  ·cbv;have h := ret_some h;subst h;exact hK _ _ _ hO (.refl _)
  ·cbv;obtain ⟨s5, hx, h⟩ := bind_some h;refine n_loopN cf46 hE okP (fun s4 => [(4, .v (.sl (Ar.lst Encs.eGPattern r2) .ro)), (5, .v (.int .i64 s4.1)), (6, .v (.int .i64 s4.2.1)), (7, .v (.int .i64 s4.2.2))]) (fun s4 H1 => Own Eq H0 [] H1) (fun x e l H1 => match (generalizing := false) x with | .inl y => e = .exit 0 ∧ l = [] ∧ Own Eq H0 [] H1 | .inr y => e = .ret ∧ l = [(2, .v (.int .i64 14))] ∧ Own Eq H0 [] H1) (by kernel_rfl) ?_ hx ?_ hO ?_
   ·intro s4 H o hO h;clear hx;cbv;refine n_ln hE ?_;cbv;refine n_br hE h (fun hc h => ?_) (fun hc h => ?_)
    ·cbv;refine n_idx hE Encs.eGPattern_eq h fun x6 h => ?_;cbv;refine n_call hE (g := fun r7 => .bool r7) h (fun r7 hx => c56 N x6 r7 hx) (.refl _) fun r7 h => ?_;cbv;obtain ⟨s8, hx, h⟩ := bind_some h;refine n_join cf46 hE okP (fun e l H1 => match (generalizing := false) s8 with | .inl y => e = .normal ∧ l = [(4, .v (.sl (Ar.lst Encs.eGPattern r2) .ro)), (5, .v (.int .i64 y)), (6, .v (.int .i64 s4.2.1)), (7, .v (.int .i64 s4.2.2))] ∧ Own Eq H0 [] H1 | .inr y => e = .ret ∧ l = [(2, .v (.int .i64 14))] ∧ Own Eq H0 [] H1) (by kernel_rfl) ?_ ?_
     ·clear h;have h := hx;clear hx;cbv;refine n_br hE h (fun hc h => ?_) (fun hc h => ?_)
      ·cbv;refine n_idx hE Encs.eGPattern_eq h fun x9 h => ?_;cbv;refine n_br hE h (fun hc h => ?_) (fun hc h => ?_)
       ·cbv;have h := ret_some h;subst h;exact ⟨_, ⟨rfl, rfl, hO⟩, .e rfl (.z), rfl⟩
       ·cbv;have h := ret_some h;subst h;exact ⟨_, ⟨rfl, rfl, hO⟩, .e rfl (.e rfl (.e rfl (.e rfl (.z)))), rfl⟩
      ·cbv;have h := ret_some h;subst h;exact ⟨_, ⟨rfl, rfl, hO⟩, .e rfl (.e rfl (.e rfl (.e rfl (.z)))), rfl⟩
     ·clear hx
      rcases s8 with y10 | y17
      ·rintro e l H ⟨rfl, rfl, hO⟩;cbv;refine n_idx hE Encs.eGPattern_eq h fun x11 h => ?_;cbv;refine n_call hE (g := fun r12 => .bool r12) h (fun r12 hx => c57 N x11 r12 hx) (.refl _) fun r12 h => ?_;cbv;refine n_br hE h (fun hc h => ?_) (fun hc h => ?_)
       ·cbv;refine n_idx hE Encs.eGPattern_eq h fun x13 h => ?_;cbv;refine n_br hE h (fun hc h => ?_) (fun hc h => ?_)
        ·cbv;have h := ret_some h;subst h;exact ⟨_, _, rfl, ⟨rfl, rfl, hO⟩, .e rfl (.z), rfl⟩
        ·cbv;have h := ret_some h;subst h;exact ⟨_, rfl, .e rfl (.e rfl (.e rfl (.e rfl (.z)))), rfl, hO⟩
       ·cbv;refine n_idx hE Encs.eGPattern_eq h fun x14 h => ?_;cbv;refine n_call hE (g := fun r15 => .bool r15) h (fun r15 hx => c58 N x14 r15 hx) (.refl _) fun r15 h => ?_;cbv;refine n_br hE h (fun hc h => ?_) (fun hc h => ?_)
        ·cbv;refine n_idx hE Encs.eGPattern_eq h fun x16 h => ?_;cbv;refine n_br hE h (fun hc h => ?_) (fun hc h => ?_)
         ·cbv;have h := ret_some h;subst h;exact ⟨_, _, rfl, ⟨rfl, rfl, hO⟩, .e rfl (.z), rfl⟩
         ·cbv;have h := ret_some h;subst h;exact ⟨_, rfl, .e rfl (.e rfl (.e rfl (.e rfl (.z)))), rfl, hO⟩
        ·cbv;have h := ret_some h;subst h;exact ⟨_, rfl, .e rfl (.e rfl (.e rfl (.e rfl (.z)))), rfl, hO⟩
      ·rintro e l H ⟨rfl, rfl, hO⟩;cbv;have h := ret_some h;subst h;exact ⟨_, _, rfl, ⟨rfl, rfl, hO⟩, .e rfl (.z), rfl⟩
    ·cbv;have h := ret_some h;subst h;exact ⟨_, _, rfl, ⟨rfl, rfl, hO⟩, .z, rfl⟩
   ·exact .e rfl (.e rfl (.e rfl (.e rfl (.z))))
   ·clear hx
    rcases s5 with y18 | y19
    ·rintro e l H ⟨rfl, rfl, hO⟩;cbv;have h := ret_some h;subst h;exact hK _ _ _ hO (.refl _)
    ·rintro e l H ⟨rfl, rfl, hO⟩;cbv;have h := ret_some h;subst h;exact hK _ _ _ hO (.refl _)
def cf15 : Cf := ⟨[], [], [], [], [], []⟩
theorem c15 (N : Nat) (x_p : GPattern) (r : ((List GPattern) × Int)) (h : ref22_Residuals N x_p = some r) : CallP Tryz.prog 15 [.agg [.int .i64 x_p.Op, .sl (Ar.lst Encs.eGPattern x_p.Args) .ro, .int .i64 x_p.Typ, .int .i64 x_p.Var, .int .i64 x_p.Scope, .int .i64 x_p.Span, .int .i64 x_p.Cond.Op, .sl (Ar.lst Encs.eGExpr x_p.Cond.Args) .ro, .int .i64 x_p.Cond.Var, .int .i64 x_p.Cond.Field, .int .i64 x_p.Cond.Kind, .int .i64 x_p.Cond.Value.Kind, .int .i64 x_p.Cond.Value.Num, .str x_p.Cond.Value.Text]] (.tup [.sl (Ar.lst Encs.eGPattern r.1) .ro, .int .i64 r.2]) := by
 unfold ref22_Residuals at h
 refine callP_of_spec cf15 okP Tryz.func15 (by rfl) (by kernel_rfl) Tryz.call15 Tryz.ntmps15 (by rfl) (by rfl) ?_;intro E H0 K hE hK
 have hO : Own Eq H0 [] H0 := .start stable_eq rfl
 cbv;refine n_call hE (g := fun r1 => .int .i64 r1) h (fun r1 hx => c46 N x_p r1 hx) (.refl _) fun r1 h => ?_;cbv;refine n_br hE h (fun hc h => ?_) (fun hc h => ?_)
 ·cbv;have h := ret_some h;subst h;exact hK _ _ _ hO (.tup (.cons (.lit _ (lst_nil)) (.refl _)))
 ·cbv;replace hO := hO.tl0 (t := .full) rfl;obtain ⟨s4, hx, h⟩ := bind_some h;refine n_loopG cf15 hE okP (γ := Tail) (fun s2 g => [(5, .v (.sl (Ar.lst Encs.eGPattern s2.1) g)), (6, .v (.int .i64 s2.2))]) (fun s2 g H1 => Appn g ∧ Own Eq H0 [.tl g] H1) (fun x e l H1 => match (generalizing := false) x with | .inl y => ∃ u1 : Tail, Appn u1 ∧ e = .exit 0 ∧ l = [(5, .v (.sl (Ar.lst Encs.eGPattern y) u1))] ∧ Own Eq H0 [.tl u1] H1 | .inr y => ∃ u1 : Tail, Appn u1 ∧ e = .ret ∧ l = [(2, .v (.sl [] .nil)), (3, .v (.int .i64 17))] ∧ Own Eq H0 [.tl u1] H1) (by kernel_rfl) ?_ .full hx ?_ ?_ ?_
  ·rintro s2 t3 H o ⟨ht3, hO⟩ h;clear hx;cbv;refine n_ln hE ?_;cbv;refine n_br hE h (fun hc h => ?_) (fun hc h => ?_)
   ·cbv;refine n_idx hE Encs.eGPattern_eq h fun x5 h => ?_;cbv;refine n_call hE (g := fun r6 => .tup [.sl (Ar.lst Encs.eGEdge r6.1) .ro, .sl (Ar.lst Encs.eGPattern r6.2.1) .ro, .int .i64 r6.2.2]) h (fun r6 hx => c11 N x5 r6 hx) (.refl _) fun r6 h => ?_;cbv;refine n_br hE h (fun hc h => ?_) (fun hc h => ?_)
    ·cbv;have h := ret_some h;subst h;exact ⟨_, _, rfl, ⟨t3, ht3, rfl, rfl, hO⟩, .e rfl (.e rfl (.z)), rfl⟩
    ·cbv;obtain ⟨s9, hx, h⟩ := bind_some h;refine n_loopG cf15 hE okP (γ := Tail) (fun s7 g => [(5, .v (.sl (Ar.lst Encs.eGPattern s7.1) g)), (6, .v (.int .i64 s2.2)), (8, .v (.sl (Ar.lst Encs.eGPattern r6.2.1) .ro)), (10, .v (.int .i64 s7.2))]) (fun s7 g H1 => Appn g ∧ Own Eq H0 [.tl g] H1) (fun x e l H1 => ∃ u1 : Tail, Appn u1 ∧ e = .exit 2 ∧ l = [(5, .v (.sl (Ar.lst Encs.eGPattern x) u1)), (6, .v (.int .i64 s2.2))] ∧ Own Eq H0 [.tl u1] H1) (by kernel_rfl) ?_ t3 hx ?_ ?_ ?_
     ·rintro s7 t8 H o ⟨ht8, hO⟩ h;clear hx;cbv;refine n_ln hE ?_;cbv;refine n_br hE h (fun hc h => ?_) (fun hc h => ?_)
      ·cbv;refine n_idx hE Encs.eGPattern_eq h fun x10 h => ?_;cbv;refine n_call hE (g := fun r11 => .int .i64 r11) h (fun r11 hx => c42 N s7.1 x10 r11 hx) (.cons (.ro _ _) (.refl _)) fun r11 h => ?_;cbv;refine n_br hE h (fun hc h => ?_) (fun hc h => ?_)
       ·cbv;refine n_idx hE Encs.eGPattern_eq h fun x12 h => ?_;cbv;refine n_appn (f := Encs.eGPattern) hE sz_GPattern (by decide) hO 0 rfl ht8 (l := s7.1) (m := [x12]) (.refl _) (.lstc (.eq (Encs.eGPattern_eq x12) (.refl _)) (.lst0)) h fun l14 t13 H hO ht13 h => ?_;cbv;have h := ret_some h;subst h;exact ⟨_, t13, rfl, .e rfl (.e rfl (.e rfl (.e rfl (.z)))), rfl, ht13, hO⟩
       ·cbv;have h := ret_some h;subst h;exact ⟨_, t8, rfl, .e rfl (.e rfl (.e rfl (.e rfl (.z)))), rfl, ht8, hO⟩
      ·cbv;have h := ret_some h;subst h;exact ⟨_, _, rfl, ⟨t8, ht8, rfl, rfl, hO⟩, .e rfl (.e rfl (.z)), rfl⟩
     ·exact .e rfl (.e rfl (.e rfl (.e rfl (.z))))
     ·exact ⟨ht3, hO⟩
     ·clear hx;rintro e l H ⟨t15, ht15, rfl, rfl, hO⟩;cbv;refine n_ln hE ?_;cbv;refine n_br hE h (fun hc h => ?_) (fun hc h => ?_)
      ·cbv;have h := ret_some h;subst h;exact ⟨_, _, rfl, ⟨t15, ht15, rfl, rfl, hO⟩, .e rfl (.e rfl (.z)), rfl⟩
      ·cbv;have h := ret_some h;subst h;exact ⟨_, t15, rfl, .e rfl (.e rfl (.z)), rfl, ht15, hO⟩
   ·cbv;have h := ret_some h;subst h;exact ⟨_, _, rfl, ⟨t3, ht3, rfl, rfl, hO⟩, .e rfl (.z), rfl⟩
  ·exact .v (.slt _ (.lstc (.eq (Encs.eGPattern_eq x_p) (.refl _)) (.lst0))) (.e rfl (.z))
  ·exact ⟨trivial, hO⟩
  ·clear hx
   rcases s4 with y16 | y18
   ·rintro e l H ⟨t17, ht17, rfl, rfl, hO⟩;cbv;have h := ret_some h;subst h;exact hK _ _ _ hO (.tup (.cons (.ro _ _) (.refl _)))
   ·rintro e l H ⟨t19, ht19, rfl, rfl, hO⟩;cbv;have h := ret_some h;subst h;exact hK _ _ _ hO (.tup (.cons (.lit _ (lst_nil)) (.refl _)))
def cf4 : Cf := ⟨[], [], [], [], [], []⟩
theorem c4 (N : Nat) (x_p : GPattern) (r : Bool) (h : law22_DerivativeResiduals N x_p = some r) : CallP Tryz.prog 4 [.agg [.int .i64 x_p.Op, .sl (Ar.lst Encs.eGPattern x_p.Args) .ro, .int .i64 x_p.Typ, .int .i64 x_p.Var, .int .i64 x_p.Scope, .int .i64 x_p.Span, .int .i64 x_p.Cond.Op, .sl (Ar.lst Encs.eGExpr x_p.Cond.Args) .ro, .int .i64 x_p.Cond.Var, .int .i64 x_p.Cond.Field, .int .i64 x_p.Cond.Kind, .int .i64 x_p.Cond.Value.Kind, .int .i64 x_p.Cond.Value.Num, .str x_p.Cond.Value.Text]] (.bool r) := by
 unfold law22_DerivativeResiduals at h
 refine callP_of_spec cf4 okP Tryz.func4 (by rfl) (by kernel_rfl) Tryz.call4 Tryz.ntmps4 (by rfl) (by rfl) ?_;intro E H0 K hE hK
 have hO : Own Eq H0 [] H0 := .start stable_eq rfl
 cbv;refine n_call hE (g := fun r1 => .bool r1) h (fun r1 hx => c6 N x_p r1 hx) (.refl _) fun r1 h => ?_;cbv;refine n_br hE h (fun hc h => ?_) (fun hc h => ?_)
 ·cbv;refine n_call hE (g := fun r2 => .bool r2) h (fun r2 hx => c9 N  r2 hx) (.refl _) fun r2 h => ?_;cbv;have h := ret_some h;subst h;exact hK _ _ _ hO (.refl _)
 ·cbv;refine n_call hE (g := fun r3 => .int .i64 r3) h (fun r3 hx => c7 N x_p r3 hx) (.refl _) fun r3 h => ?_;cbv;refine n_br hE h (fun hc h => ?_) (fun hc h => ?_)
  ·cbv;refine n_call hE (g := fun r4 => .bool r4) h (fun r4 hx => c8 N x_p r4 hx) (.refl _) fun r4 h => ?_;cbv;refine n_br hE h (fun hc h => ?_) (fun hc h => ?_)
   ·cbv;refine n_call hE (g := fun r5 => .bool r5) h (fun r5 hx => c9 N  r5 hx) (.refl _) fun r5 h => ?_;cbv;have h := ret_some h;subst h;exact hK _ _ _ hO (.refl _)
   ·cbv;refine n_call hE (g := fun r6 => .tup [.sl (Ar.lst Encs.eGPattern r6.1) .ro, .int .i64 r6.2]) h (fun r6 hx => c14 N x_p r6 hx) (.refl _) fun r6 h => ?_;cbv;refine n_call hE (g := fun r7 => .tup [.sl (Ar.lst Encs.eGPattern r7.1) .ro, .int .i64 r7.2]) h (fun r7 hx => c15 N x_p r7 hx) (.refl _) fun r7 h => ?_;cbv;refine n_call hE (g := fun r8 => .bool r8) h (fun r8 hx => c13 N r6.1 r7.1 r8 hx) (.refl _) fun r8 h => ?_;cbv;refine n_br hE h (fun hc h => ?_) (fun hc h => ?_)
    ·cbv;refine n_call hE (g := fun r9 => .bool r9) h (fun r9 hx => c9 N  r9 hx) (.refl _) fun r9 h => ?_;cbv;have h := ret_some h;subst h;exact hK _ _ _ hO (.refl _)
    ·cbv;have h := ret_some h;subst h;exact hK _ _ _ hO (.refl _)
  ·cbv;refine n_call hE (g := fun r10 => .tup [.sl (Ar.lst Encs.eGPattern r10.1) .ro, .int .i64 r10.2]) h (fun r10 hx => c14 N x_p r10 hx) (.refl _) fun r10 h => ?_;cbv;refine n_call hE (g := fun r11 => .tup [.sl (Ar.lst Encs.eGPattern r11.1) .ro, .int .i64 r11.2]) h (fun r11 hx => c15 N x_p r11 hx) (.refl _) fun r11 h => ?_;cbv;refine n_call hE (g := fun r12 => .bool r12) h (fun r12 hx => c13 N r10.1 r11.1 r12 hx) (.refl _) fun r12 h => ?_;cbv;refine n_br hE h (fun hc h => ?_) (fun hc h => ?_)
   ·cbv;refine n_call hE (g := fun r13 => .bool r13) h (fun r13 hx => c9 N  r13 hx) (.refl _) fun r13 h => ?_;cbv;have h := ret_some h;subst h;exact hK _ _ _ hO (.refl _)
   ·cbv;have h := ret_some h;subst h;exact hK _ _ _ hO (.refl _)
end Go.Ab

