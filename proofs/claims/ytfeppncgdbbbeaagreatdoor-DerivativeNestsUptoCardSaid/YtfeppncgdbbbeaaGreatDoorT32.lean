/- GNCo4 -/
import Derived.Test.YtfeppncgdbbbeaaGreatDoorT31
set_option linter.all false

namespace Go.Ab
open Go.RowKit Go.Proofs
variable [Ar] [Encs]
set_option maxRecDepth 100000
def cf7 : Cf := ⟨[], [], [], [], [], []⟩
theorem c7 (N : Nat) (x_p : GPattern) (r : ((List GPattern) × Int)) (h : derivative_Residuals N x_p = some r) : CallP Tryz.prog 7 [.agg [.int .i64 x_p.Op, .sl (Ar.lst Encs.eGPattern x_p.Args) .ro, .int .i64 x_p.Typ, .int .i64 x_p.Var, .int .i64 x_p.Scope, .int .i64 x_p.Span, .int .i64 x_p.Cond.Op, .sl (Ar.lst Encs.eGExpr x_p.Cond.Args) .ro, .int .i64 x_p.Cond.Var, .int .i64 x_p.Cond.Field, .int .i64 x_p.Cond.Kind, .int .i64 x_p.Cond.Value.Kind, .int .i64 x_p.Cond.Value.Num, .str x_p.Cond.Value.Text]] (.tup [.sl (Ar.lst Encs.eGPattern r.1) .ro, .int .i64 r.2]) := by
 unfold derivative_Residuals at h
 refine callP_of_spec cf7 okP Tryz.func7 (by rfl) (by kernel_rfl) Tryz.call7 Tryz.ntmps7 (by rfl) (by rfl) ?_;intro E H0 K hE hK
 have hO : Own Eq H0 [] H0 := .start stable_eq rfl
 cbv;refine n_call hE (g := fun r1 => .int .i64 r1) h (fun r1 hx => c5 N x_p r1 hx) (.refl _) fun r1 h => ?_;cbv;refine n_br hE h (fun hc h => ?_) (fun hc h => ?_)
 ·cbv;have h := ret_some h;subst h;exact hK _ _ _ hO (.tup (.cons (.lit _ (lst_nil)) (.refl _)))
 cbv;replace hO := hO.tl0 (t := .full) rfl;obtain ⟨s4, hx, h⟩ := bind_some h;refine n_loopG cf7 hE okP (γ := Tail) (fun s2 g => [(5, .v (.sl (Ar.lst Encs.eGPattern s2.1) g)), (6, .v (.int .i64 s2.2))]) (fun s2 g H1 => Appn g ∧ Own Eq H0 [.tl g] H1) (fun x e l H1 => match (generalizing := false) x with | .inl y => ∃ u1 : Tail, Appn u1 ∧ e = .exit 0 ∧ l = [(5, .v (.sl (Ar.lst Encs.eGPattern y) u1))] ∧ Own Eq H0 [.tl u1] H1 | .inr y => ∃ u1 : Tail, Appn u1 ∧ e = .ret ∧ l = [(2, .v (.sl [] .nil)), (3, .v (.int .i64 y))] ∧ Own Eq H0 [.tl u1] H1) (by kernel_rfl) ?_ .full hx ?_ ?_ ?_
 ·rintro s2 t3 H o ⟨ht3, hO⟩ h;clear hx;cbv;refine n_ln hE ?_;cbv;refine n_br hE h (fun hc h => ?_) (fun hc h => ?_)
  ·cbv;refine n_idx hE Encs.eGPattern_eq h fun x5 h => ?_;cbv;refine n_call hE (g := fun r6 => .tup [.sl (Ar.lst Encs.eGEdge r6.1) .ro, .sl (Ar.lst Encs.eGPattern r6.2.1) .ro, .int .i64 r6.2.2]) h (fun r6 hx => c31 N x5 r6 hx) (.refl _) fun r6 h => ?_;cbv;refine n_br hE h (fun hc h => ?_) (fun hc h => ?_)
   ·cbv;have h := ret_some h;subst h;exact ⟨_, _, rfl, ⟨t3, ht3, rfl, rfl, hO⟩, .e rfl (.e rfl (.z)), rfl⟩
   cbv;refine n_ln hE ?_;cbv;obtain ⟨s9, hx, h⟩ := bind_some h;refine n_loopG cf7 hE okP (γ := Tail) (fun s7 g => [(5, .v (.sl (Ar.lst Encs.eGPattern s7.1) g)), (6, .v (.int .i64 s2.2)), (37, .v (.sl (Ar.lst Encs.eGPattern r6.2.1) .ro)), (38, .v (.int .i64 (Ar.len r6.2.1))), (39, .v (.int .i64 s7.2))]) (fun s7 g H1 => Appn g ∧ Own Eq H0 [.tl g] H1) (fun x e l H1 => ∃ u1 : Tail, Appn u1 ∧ e = .exit 2 ∧ l = [(5, .v (.sl (Ar.lst Encs.eGPattern x) u1)), (6, .v (.int .i64 s2.2))] ∧ Own Eq H0 [.tl u1] H1) (by kernel_rfl) ?_ t3 hx ?_ ?_ ?_
   ·rintro s7 t8 H o ⟨ht8, hO⟩ h;clear hx;cbv;refine n_br hE h (fun hc h => ?_) (fun hc h => ?_)
    ·cbv;refine n_idx hE Encs.eGPattern_eq h fun x10 h => ?_;cbv;refine n_call hE (g := fun r11 => .int .i64 r11) h (fun r11 hx => c32 N s7.1 x10 r11 hx) (.cons (.ro _ _) (.refl _)) fun r11 h => ?_;cbv;refine n_br hE h (fun hc h => ?_) (fun hc h => ?_)
     ·cbv;refine n_appn (f := Encs.eGPattern) hE sz_GPattern (by decide) hO 0 rfl ht8 (l := s7.1) (m := [x10]) (.refl _) (.lstc (.eq (Encs.eGPattern_eq x10) (.refl _)) (.lst0)) h fun l13 t12 H hO ht12 h => ?_;cbv;have h := ret_some h;subst h;exact ⟨_, t12, rfl, .e rfl (.e rfl (.e rfl (.e rfl (.e rfl (.z))))), rfl, ht12, hO⟩
     cbv;have h := ret_some h;subst h;exact ⟨_, t8, rfl, .e rfl (.e rfl (.e rfl (.e rfl (.e rfl (.z))))), rfl, ht8, hO⟩
    cbv;have h := ret_some h;subst h;exact ⟨_, _, rfl, ⟨t8, ht8, rfl, rfl, hO⟩, .e rfl (.e rfl (.z)), rfl⟩
   ·exact .e rfl (.e rfl (.e rfl (.e rfl (.e rfl (.z)))))
   ·exact ⟨ht3, hO⟩
   clear hx;rintro e l H ⟨t14, ht14, rfl, rfl, hO⟩;cbv;refine n_ln hE ?_;cbv;refine n_br hE h (fun hc h => ?_) (fun hc h => ?_)
   ·cbv;have h := ret_some h;subst h;exact ⟨_, _, rfl, ⟨t14, ht14, rfl, rfl, hO⟩, .e rfl (.e rfl (.z)), rfl⟩
   cbv;have h := ret_some h;subst h;exact ⟨_, t14, rfl, .e rfl (.e rfl (.z)), rfl, ht14, hO⟩
  cbv;have h := ret_some h;subst h;exact ⟨_, _, rfl, ⟨t3, ht3, rfl, rfl, hO⟩, .e rfl (.z), rfl⟩
 ·exact .v (.slt _ (.lstc (.eq (Encs.eGPattern_eq x_p) (.refl _)) (.lst0))) (.e rfl (.z))
 ·exact ⟨trivial, hO⟩
 clear hx
 rcases s4 with y15 | y17
 ·rintro e l H ⟨t16, ht16, rfl, rfl, hO⟩;cbv;have h := ret_some h;subst h;exact hK _ _ _ hO (.tup (.cons (.ro _ _) (.refl _)))
 rintro e l H ⟨t18, ht18, rfl, rfl, hO⟩;cbv;have h := ret_some h;subst h;exact hK _ _ _ hO (.tup (.cons (.lit _ (lst_nil)) (.refl _)))
def cf9 : Cf := ⟨[], [], [], [], [], []⟩
theorem c9 (N : Nat) (x_p : GPattern) (r : ((List GEdge) × (List GPattern) × Int)) (h : derivative_Derive N x_p = some r) : CallP Tryz.prog 9 [.agg [.int .i64 x_p.Op, .sl (Ar.lst Encs.eGPattern x_p.Args) .ro, .int .i64 x_p.Typ, .int .i64 x_p.Var, .int .i64 x_p.Scope, .int .i64 x_p.Span, .int .i64 x_p.Cond.Op, .sl (Ar.lst Encs.eGExpr x_p.Cond.Args) .ro, .int .i64 x_p.Cond.Var, .int .i64 x_p.Cond.Field, .int .i64 x_p.Cond.Kind, .int .i64 x_p.Cond.Value.Kind, .int .i64 x_p.Cond.Value.Num, .str x_p.Cond.Value.Text]] (.tup [.sl (Ar.lst Encs.eGEdge r.1) .ro, .sl (Ar.lst Encs.eGPattern r.2.1) .ro, .int .i64 r.2.2]) := by
 unfold derivative_Derive at h
 refine callP_of_spec cf9 okP Tryz.func9 (by rfl) (by kernel_rfl) Tryz.call9 Tryz.ntmps9 (by rfl) (by rfl) ?_;intro E H0 K hE hK
 have hO : Own Eq H0 [] H0 := .start stable_eq rfl
 cbv;refine n_call hE (g := fun r1 => .int .i64 r1) h (fun r1 hx => c33 N x_p r1 hx) (.refl _) fun r1 h => ?_;cbv;refine n_br hE h (fun hc h => ?_) (fun hc h => ?_)
 ·cbv;have h := ret_some h;subst h;exact hK _ _ _ hO (.tup (.cons (.lit _ (lst_nil)) (.cons (.lit _ (lst_nil)) (.refl _))))
 cbv;refine n_call hE (g := fun r2 => .tup [.sl (Ar.lst Encs.eGEdge r2.1) .ro, .sl (Ar.lst Encs.eGPattern r2.2.1) .ro, .int .i64 r2.2.2]) h (fun r2 hx => c31 N x_p r2 hx) (.refl _) fun r2 h => ?_;cbv;have h := ret_some h;subst h;exact hK _ _ _ hO (.refl _)
def cf34 : Cf := ⟨[], [], [(8, 5), (51, 17)], [], [], []⟩
theorem c34 (N : Nat) : ∀ (n : Nat) (x_p : GPattern) (r : (List GGuard)), derivative_active N n x_p = some r → CallP Tryz.prog 34 [.agg [.int .i64 x_p.Op, .sl (Ar.lst Encs.eGPattern x_p.Args) .ro, .int .i64 x_p.Typ, .int .i64 x_p.Var, .int .i64 x_p.Scope, .int .i64 x_p.Span, .int .i64 x_p.Cond.Op, .sl (Ar.lst Encs.eGExpr x_p.Cond.Args) .ro, .int .i64 x_p.Cond.Var, .int .i64 x_p.Cond.Field, .int .i64 x_p.Cond.Kind, .int .i64 x_p.Cond.Value.Kind, .int .i64 x_p.Cond.Value.Num, .str x_p.Cond.Value.Text]] (.sl (Ar.lst Encs.eGGuard r) .ro) := by
 intro n
 induction n with
 | zero => intro x_p r h; cases h
 | succ n ih =>
 intro x_p r h
 unfold derivative_active at h
 refine callP_of_spec cf34 okP Tryz.func34 (by rfl) (by kernel_rfl) Tryz.call34 Tryz.ntmps34 (by rfl) (by rfl) ?_;intro E H0 K hE hK
 have hO : Own Eq H0 [] H0 := .start stable_eq rfl
 cbv;obtain ⟨s1, hx, h⟩ := bind_some h;refine n_join cf34 hE okP (fun e l H1 => e = .normal ∧ l = [(1, .v (.eref [.int .i64 x_p.Op, .sl (Ar.lst Encs.eGPattern x_p.Args) .ro, .int .i64 x_p.Typ, .int .i64 x_p.Var, .int .i64 x_p.Scope, .int .i64 x_p.Span, .int .i64 x_p.Cond.Op, .sl (Ar.lst Encs.eGExpr x_p.Cond.Args) .ro, .int .i64 x_p.Cond.Var, .int .i64 x_p.Cond.Field, .int .i64 x_p.Cond.Kind, .int .i64 x_p.Cond.Value.Kind, .int .i64 x_p.Cond.Value.Num, .str x_p.Cond.Value.Text] 0)), (3, .v (.sl [] .nil)), (7, .v (.int .i64 x_p.Op)), (8, .v (.bool s1))] ∧ Own Eq H0 [] H1) (by kernel_rfl) ?_ ?_
 ·clear h;have h := hx;clear hx;cbv;refine n_br hE h (fun hc h => ?_) (fun hc h => ?_)
  ·cbv;have h := ret_some h;subst h;exact ⟨_, ⟨rfl, rfl, hO⟩, .e rfl (.e rfl (.e rfl (.e rfl (.z)))), rfl⟩
  cbv;have h := ret_some h;subst h;exact ⟨_, ⟨rfl, rfl, hO⟩, .e rfl (.e rfl (.e rfl (.e rfl (.z)))), rfl⟩
 clear hx;rintro e l H ⟨rfl, rfl, hO⟩;cbv;refine n_br hE h (fun hc h => ?_) (fun hc h => ?_)
 ·cbv;refine n_idx hE Encs.eGPattern_eq h fun x2 h => ?_;cbv;refine n_call hE (g := fun r3 => .sl (Ar.lst Encs.eGGuard r3) .ro) h (fun r3 hx => ih x2 r3 hx) (.refl _) fun r3 h => ?_;cbv;have h := ret_some h;subst h;exact hK _ _ _ hO (.refl _)
 cbv;refine n_br hE h (fun hc h => ?_) (fun hc h => ?_)
 ·cbv;refine n_ln hE ?_;cbv;replace hO := hO.tl0 (t := .nil) rfl;obtain ⟨s6, hx, h⟩ := bind_some h;refine n_loopG cf34 hE okP (γ := Tail) (fun s4 g => [(3, .v (.sl (Ar.lst Encs.eGGuard s4.1) g)), (19, .v (.sl (Ar.lst Encs.eGPattern x_p.Args) .ro)), (20, .v (.int .i64 (Ar.len x_p.Args))), (21, .v (.int .i64 s4.2))]) (fun s4 g H1 => Appn g ∧ Own Eq H0 [.tl g] H1) (fun x e l H1 => ∃ u1 : Tail, Appn u1 ∧ e = .exit 1 ∧ l = [(3, .v (.sl (Ar.lst Encs.eGGuard x) u1))] ∧ Own Eq H0 [.tl u1] H1) (by kernel_rfl) ?_ .nil hx ?_ ?_ ?_
  ·rintro s4 t5 H o ⟨ht5, hO⟩ h;clear hx;cbv;refine n_br hE h (fun hc h => ?_) (fun hc h => ?_)
   ·cbv;refine n_idx hE Encs.eGPattern_eq h fun x7 h => ?_;cbv;refine n_call hE (g := fun r8 => .sl (Ar.lst Encs.eGGuard r8) .ro) h (fun r8 hx => ih x7 r8 hx) (.refl _) fun r8 h => ?_;cbv;refine n_appn (f := Encs.eGGuard) hE sz_GGuard (by decide) hO 0 rfl ht5 (l := s4.1) (m := r8) (.refl _) (.refl _) h fun l10 t9 H hO ht9 h => ?_;cbv;have h := ret_some h;subst h;exact ⟨_, t9, rfl, .e rfl (.e rfl (.e rfl (.e rfl (.z)))), rfl, ht9, hO⟩
   cbv;have h := ret_some h;subst h;exact ⟨_, _, rfl, ⟨t5, ht5, rfl, rfl, hO⟩, .e rfl (.z), rfl⟩
  ·exact .v (.slt _ (.lst0)) (.e rfl (.e rfl (.e rfl (.z))))
  ·exact ⟨trivial, hO⟩
  clear hx;rintro e l H ⟨t11, ht11, rfl, rfl, hO⟩;cbv;have h := ret_some h;subst h;exact hK _ _ _ hO (.ro _ _)
 cbv;refine n_br hE h (fun hc h => ?_) (fun hc h => ?_)
 ·cbv;refine n_appn (f := Encs.eGGuard) hE sz_GGuard (by decide) (hO.tl0 (t := .nil) rfl) 0 rfl trivial (l := []) (m := [(⟨x_p.Scope, x_p.Typ, x_p.Var, x_p.Cond⟩ : GGuard)]) (.lst0) (.lstc (.eq (Encs.eGGuard_eq (⟨x_p.Scope, x_p.Typ, x_p.Var, x_p.Cond⟩ : GGuard)) (.refl _)) (.lst0)) h fun l13 t12 H hO ht12 h => ?_;cbv;refine n_idx hE Encs.eGPattern_eq h fun x14 h => ?_;cbv;refine n_call hE (g := fun r15 => .sl (Ar.lst Encs.eGGuard r15) .ro) h (fun r15 hx => ih x14 r15 hx) (.refl _) fun r15 h => ?_;cbv;refine n_appn (f := Encs.eGGuard) hE sz_GGuard (by decide) hO 0 rfl ht12 (l := l13) (m := r15) (.refl _) (.refl _) h fun l17 t16 H hO ht16 h => ?_;cbv;have h := ret_some h;subst h;exact hK _ _ _ hO (.ro _ _)
 cbv;obtain ⟨s18, hx, h⟩ := bind_some h;refine n_join cf34 hE okP (fun e l H1 => e = .normal ∧ l = [(1, .v (.eref [.int .i64 x_p.Op, .sl (Ar.lst Encs.eGPattern x_p.Args) .ro, .int .i64 x_p.Typ, .int .i64 x_p.Var, .int .i64 x_p.Scope, .int .i64 x_p.Span, .int .i64 x_p.Cond.Op, .sl (Ar.lst Encs.eGExpr x_p.Cond.Args) .ro, .int .i64 x_p.Cond.Var, .int .i64 x_p.Cond.Field, .int .i64 x_p.Cond.Kind, .int .i64 x_p.Cond.Value.Kind, .int .i64 x_p.Cond.Value.Num, .str x_p.Cond.Value.Text] 0)), (3, .v (.sl [] .nil)), (51, .v (.bool s18))] ∧ Own Eq H0 [] H1) (by kernel_rfl) ?_ ?_
 ·clear h;have h := hx;clear hx;cbv;refine n_br hE h (fun hc h => ?_) (fun hc h => ?_)
  ·cbv;have h := ret_some h;subst h;exact ⟨_, ⟨rfl, rfl, hO⟩, .e rfl (.e rfl (.e rfl (.z))), rfl⟩
  cbv;have h := ret_some h;subst h;exact ⟨_, ⟨rfl, rfl, hO⟩, .e rfl (.e rfl (.e rfl (.z))), rfl⟩
 clear hx;rintro e l H ⟨rfl, rfl, hO⟩;cbv;refine n_br hE h (fun hc h => ?_) (fun hc h => ?_)
 ·cbv;refine n_idx hE Encs.eGPattern_eq h fun x19 h => ?_;cbv;refine n_call hE (g := fun r20 => .sl (Ar.lst Encs.eGGuard r20) .ro) h (fun r20 hx => ih x19 r20 hx) (.refl _) fun r20 h => ?_;cbv;have h := ret_some h;subst h;exact hK _ _ _ hO (.refl _)
 cbv;have h := ret_some h;subst h;exact hK _ _ _ hO (.lit _ (lst_nil))
def cf10 : Cf := ⟨[], [], [], [], [], []⟩
theorem c10 (N : Nat) (x_p : GPattern) (r : ((List GGuard) × Int)) (h : derivative_Guards N x_p = some r) : CallP Tryz.prog 10 [.agg [.int .i64 x_p.Op, .sl (Ar.lst Encs.eGPattern x_p.Args) .ro, .int .i64 x_p.Typ, .int .i64 x_p.Var, .int .i64 x_p.Scope, .int .i64 x_p.Span, .int .i64 x_p.Cond.Op, .sl (Ar.lst Encs.eGExpr x_p.Cond.Args) .ro, .int .i64 x_p.Cond.Var, .int .i64 x_p.Cond.Field, .int .i64 x_p.Cond.Kind, .int .i64 x_p.Cond.Value.Kind, .int .i64 x_p.Cond.Value.Num, .str x_p.Cond.Value.Text]] (.tup [.sl (Ar.lst Encs.eGGuard r.1) .ro, .int .i64 r.2]) := by
 unfold derivative_Guards at h
 refine callP_of_spec cf10 okP Tryz.func10 (by rfl) (by kernel_rfl) Tryz.call10 Tryz.ntmps10 (by rfl) (by rfl) ?_;intro E H0 K hE hK
 have hO : Own Eq H0 [] H0 := .start stable_eq rfl
 cbv;refine n_call hE (g := fun r1 => .int .i64 r1) h (fun r1 hx => c33 N x_p r1 hx) (.refl _) fun r1 h => ?_;cbv;refine n_br hE h (fun hc h => ?_) (fun hc h => ?_)
 ·cbv;have h := ret_some h;subst h;exact hK _ _ _ hO (.tup (.cons (.lit _ (lst_nil)) (.refl _)))
 cbv;refine n_call hE (g := fun r2 => .sl (Ar.lst Encs.eGGuard r2) .ro) h (fun r2 hx => c34 N N x_p r2 hx) (.refl _) fun r2 h => ?_;cbv;have h := ret_some h;subst h;exact hK _ _ _ hO (.refl _)
def cf26 : Cf := ⟨[4], [], [], [], [], []⟩
theorem c26 (N : Nat) (x_op : Int) (x_args : List GPattern) (r : GPattern) (h : law22_node N x_op x_args = some r) : CallP Tryz.prog 26 [.int .i64 x_op, .sl (Ar.lst Encs.eGPattern x_args) .ro] (.agg [.int .i64 r.Op, .sl (Ar.lst Encs.eGPattern r.Args) .ro, .int .i64 r.Typ, .int .i64 r.Var, .int .i64 r.Scope, .int .i64 r.Span, .int .i64 r.Cond.Op, .sl (Ar.lst Encs.eGExpr r.Cond.Args) .ro, .int .i64 r.Cond.Var, .int .i64 r.Cond.Field, .int .i64 r.Cond.Kind, .int .i64 r.Cond.Value.Kind, .int .i64 r.Cond.Value.Num, .str r.Cond.Value.Text]) := by
 unfold law22_node at h
 refine callP_of_spec cf26 okP Tryz.func26 (by rfl) (by kernel_rfl) Tryz.call26 Tryz.ntmps26 (by rfl) (by rfl) ?_;intro E H0 K hE hK
 have hO : Own Eq H0 [] H0 := .start stable_eq rfl
 cbv;refine n_alloc hE hO fun b1 H hO => ?_;cbv;refine n_store hE hO 0 rfl rfl fun H hO => ?_;cbv;refine n_load hE hO 0 rfl ?_;cbv;have h := ret_some h;subst h;exact hK _ _ _ hO (.agg (.cons (.refl _) (.cons (.refl _) (.cons (.refl _) (.cons (.refl _) (.cons (.refl _) (.cons (.refl _) (.cons (.refl _) (.cons (.lit _ (lst_nil)) (.refl _))))))))))
def cf40 : Cf := ⟨[2], [], [], [], [], []⟩
theorem c40 (N : Nat) (x_b : Bool) (r : GValue) (h : ref08_Flag N x_b = some r) : CallP Tryz.prog 40 [.bool x_b] (.agg [.int .i64 r.Kind, .int .i64 r.Num, .str r.Text]) := by
 unfold ref08_Flag at h
 refine callP_of_spec cf40 okP Tryz.func40 (by rfl) (by kernel_rfl) Tryz.call40 Tryz.ntmps40 (by rfl) (by rfl) ?_;intro E H0 K hE hK
 have hO : Own Eq H0 [] H0 := .start stable_eq rfl
 cbv;refine n_alloc hE hO fun b1 H hO => ?_;cbv;refine n_br hE h (fun hc h => ?_) (fun hc h => ?_)
 ·cbv;refine n_store hE hO 0 rfl rfl fun H hO => ?_;cbv;refine n_load hE hO 0 rfl ?_;cbv;have h := ret_some h;subst h;exact hK _ _ _ hO (.refl _)
 cbv;refine n_store hE hO 0 rfl rfl fun H hO => ?_;cbv;refine n_load hE hO 0 rfl ?_;cbv;have h := ret_some h;subst h;exact hK _ _ _ hO (.refl _)
def cf28 : Cf := ⟨[0], [], [], [], [], []⟩
theorem c28 (N : Nat) (r : GExpr) (h : law22_truth N  = some r) : CallP Tryz.prog 28 [] (.agg [.int .i64 r.Op, .sl (Ar.lst Encs.eGExpr r.Args) .ro, .int .i64 r.Var, .int .i64 r.Field, .int .i64 r.Kind, .int .i64 r.Value.Kind, .int .i64 r.Value.Num, .str r.Value.Text]) := by
 unfold law22_truth at h
 refine callP_of_spec cf28 okP Tryz.func28 (by rfl) (by kernel_rfl) Tryz.call28 Tryz.ntmps28 (by rfl) (by rfl) ?_;intro E H0 K hE hK
 have hO : Own Eq H0 [] H0 := .start stable_eq rfl
 cbv;refine n_alloc hE hO fun b1 H hO => ?_;cbv;refine n_call hE (g := fun r2 => .agg [.int .i64 r2.Kind, .int .i64 r2.Num, .str r2.Text]) h (fun r2 hx => c40 N true r2 hx) (.refl _) fun r2 h => ?_;cbv;refine n_store hE hO 0 rfl rfl fun H hO => ?_;cbv;refine n_load hE hO 0 rfl ?_;cbv;have h := ret_some h;subst h;exact hK _ _ _ hO (.agg (.cons (.refl _) (.cons (.lit _ (lst_nil)) (.refl _))))
def cf27 : Cf := ⟨[2], [], [], [], [], []⟩
theorem c27 (N : Nat) (x_v : Int) (r : GPattern) (h : law22_event N x_v = some r) : CallP Tryz.prog 27 [.int .i64 x_v] (.agg [.int .i64 r.Op, .sl (Ar.lst Encs.eGPattern r.Args) .ro, .int .i64 r.Typ, .int .i64 r.Var, .int .i64 r.Scope, .int .i64 r.Span, .int .i64 r.Cond.Op, .sl (Ar.lst Encs.eGExpr r.Cond.Args) .ro, .int .i64 r.Cond.Var, .int .i64 r.Cond.Field, .int .i64 r.Cond.Kind, .int .i64 r.Cond.Value.Kind, .int .i64 r.Cond.Value.Num, .str r.Cond.Value.Text]) := by
 unfold law22_event at h
 refine callP_of_spec cf27 okP Tryz.func27 (by rfl) (by kernel_rfl) Tryz.call27 Tryz.ntmps27 (by rfl) (by rfl) ?_;intro E H0 K hE hK
 have hO : Own Eq H0 [] H0 := .start stable_eq rfl
 cbv;refine n_alloc hE hO fun b1 H hO => ?_;cbv;refine n_call hE (g := fun r2 => .agg [.int .i64 r2.Op, .sl (Ar.lst Encs.eGExpr r2.Args) .ro, .int .i64 r2.Var, .int .i64 r2.Field, .int .i64 r2.Kind, .int .i64 r2.Value.Kind, .int .i64 r2.Value.Num, .str r2.Value.Text]) h (fun r2 hx => c28 N  r2 hx) (.refl _) fun r2 h => ?_;cbv;refine n_store hE hO 0 rfl rfl fun H hO => ?_;cbv;refine n_load hE hO 0 rfl ?_;cbv;have h := ret_some h;subst h;exact hK _ _ _ hO (.agg (.cons (.refl _) (.cons (.lit _ (lst_nil)) (.refl _))))
def cf64 : Cf := ⟨[], [(6, 10)], [], [], [], []⟩
theorem c64 (N : Nat) : ∀ (n : Nat) (x_a : GExpr) (x_b : GExpr) (r : Bool), ref08_Same N n x_a x_b = some r → CallP Tryz.prog 64 [.agg [.int .i64 x_a.Op, .sl (Ar.lst Encs.eGExpr x_a.Args) .ro, .int .i64 x_a.Var, .int .i64 x_a.Field, .int .i64 x_a.Kind, .int .i64 x_a.Value.Kind, .int .i64 x_a.Value.Num, .str x_a.Value.Text], .agg [.int .i64 x_b.Op, .sl (Ar.lst Encs.eGExpr x_b.Args) .ro, .int .i64 x_b.Var, .int .i64 x_b.Field, .int .i64 x_b.Kind, .int .i64 x_b.Value.Kind, .int .i64 x_b.Value.Num, .str x_b.Value.Text]] (.bool r) := by
 intro n
 induction n with
 | zero => intro x_a x_b r h; cases h
 | succ n ih =>
 intro x_a x_b r h
 unfold ref08_Same at h
 refine callP_of_spec cf64 okP Tryz.func64 (by rfl) (by kernel_rfl) Tryz.call64 Tryz.ntmps64 (by rfl) (by rfl) ?_;intro E H0 K hE hK
 have hO : Own Eq H0 [] H0 := .start stable_eq rfl
 cbv;refine n_ln hE ?_;cbv;refine n_ln hE ?_;cbv;refine n_br hE h (fun hc h => ?_) (fun hc h => ?_)
 ·cbv;have h := ret_some h;subst h;exact hK _ _ _ hO (.refl _)
 cbv;obtain ⟨s2, hx, h⟩ := bind_some h;refine n_loopN cf64 hE okP (fun s1 => [(2, .v (.eref [.int .i64 x_a.Op, .sl (Ar.lst Encs.eGExpr x_a.Args) .ro, .int .i64 x_a.Var, .int .i64 x_a.Field, .int .i64 x_a.Kind, .int .i64 x_a.Value.Kind, .int .i64 x_a.Value.Num, .str x_a.Value.Text] 0)), (3, .v (.eref [.int .i64 x_b.Op, .sl (Ar.lst Encs.eGExpr x_b.Args) .ro, .int .i64 x_b.Var, .int .i64 x_b.Field, .int .i64 x_b.Kind, .int .i64 x_b.Value.Kind, .int .i64 x_b.Value.Num, .str x_b.Value.Text] 0)), (5, .v (.int .i64 s1))]) (fun s1 H1 => Own Eq H0 [] H1) (fun x e l H1 => match (generalizing := false) x with | .inl y => e = .exit 0 ∧ l = [] ∧ Own Eq H0 [] H1 | .inr y => e = .ret ∧ l = [(4, .b false)] ∧ Own Eq H0 [] H1) (by kernel_rfl) ?_ hx ?_ hO ?_
 ·intro s1 H o hO h;clear hx;cbv;refine n_ln hE ?_;cbv;refine n_br hE h (fun hc h => ?_) (fun hc h => ?_)
  ·cbv;refine n_idx hE Encs.eGExpr_eq h fun x3 h => ?_;cbv;refine n_idx hE Encs.eGExpr_eq h fun x4 h => ?_;cbv;refine n_call hE (g := fun r5 => .bool r5) h (fun r5 hx => ih x3 x4 r5 hx) (.refl _) fun r5 h => ?_;cbv;refine n_br hE h (fun hc h => ?_) (fun hc h => ?_)
   ·cbv;have h := ret_some h;subst h;exact ⟨_, _, rfl, ⟨rfl, rfl, hO⟩, .b rfl (.z), rfl⟩
   cbv;have h := ret_some h;subst h;exact ⟨_, rfl, .e rfl (.e rfl (.e rfl (.z))), rfl, hO⟩
  cbv;have h := ret_some h;subst h;exact ⟨_, _, rfl, ⟨rfl, rfl, hO⟩, .z, rfl⟩
 ·exact .e rfl (.e rfl (.e rfl (.z)))
 clear hx
 rcases s2 with y6 | y7
 ·rintro e l H ⟨rfl, rfl, hO⟩;cbv;have h := ret_some h;subst h;exact hK _ _ _ hO (.refl _)
 rintro e l H ⟨rfl, rfl, hO⟩;cbv;have h := ret_some h;subst h;exact hK _ _ _ hO (.refl _)
def cf41 : Cf := ⟨[], [(6, 10)], [], [], [], []⟩
theorem c41 (N : Nat) : ∀ (n : Nat) (x_a : GPattern) (x_b : GPattern) (r : Bool), ref09_Same N n x_a x_b = some r → CallP Tryz.prog 41 [.agg [.int .i64 x_a.Op, .sl (Ar.lst Encs.eGPattern x_a.Args) .ro, .int .i64 x_a.Typ, .int .i64 x_a.Var, .int .i64 x_a.Scope, .int .i64 x_a.Span, .int .i64 x_a.Cond.Op, .sl (Ar.lst Encs.eGExpr x_a.Cond.Args) .ro, .int .i64 x_a.Cond.Var, .int .i64 x_a.Cond.Field, .int .i64 x_a.Cond.Kind, .int .i64 x_a.Cond.Value.Kind, .int .i64 x_a.Cond.Value.Num, .str x_a.Cond.Value.Text], .agg [.int .i64 x_b.Op, .sl (Ar.lst Encs.eGPattern x_b.Args) .ro, .int .i64 x_b.Typ, .int .i64 x_b.Var, .int .i64 x_b.Scope, .int .i64 x_b.Span, .int .i64 x_b.Cond.Op, .sl (Ar.lst Encs.eGExpr x_b.Cond.Args) .ro, .int .i64 x_b.Cond.Var, .int .i64 x_b.Cond.Field, .int .i64 x_b.Cond.Kind, .int .i64 x_b.Cond.Value.Kind, .int .i64 x_b.Cond.Value.Num, .str x_b.Cond.Value.Text]] (.bool r) := by
 intro n
 induction n with
 | zero => intro x_a x_b r h; cases h
 | succ n ih =>
 intro x_a x_b r h
 unfold ref09_Same at h
 refine callP_of_spec cf41 okP Tryz.func41 (by rfl) (by kernel_rfl) Tryz.call41 Tryz.ntmps41 (by rfl) (by rfl) ?_;intro E H0 K hE hK
 have hO : Own Eq H0 [] H0 := .start stable_eq rfl
 cbv;refine n_br hE h (fun hc h => ?_) (fun hc h => ?_)
 ·cbv;have h := ret_some h;subst h;exact hK _ _ _ hO (.refl _)
 cbv;refine n_call hE (g := fun r1 => .bool r1) h (fun r1 hx => c64 N N x_a.Cond x_b.Cond r1 hx) (.refl _) fun r1 h => ?_;cbv;refine n_ln hE ?_;cbv;refine n_ln hE ?_;cbv;refine n_br hE h (fun hc h => ?_) (fun hc h => ?_)
 ·cbv;have h := ret_some h;subst h;exact hK _ _ _ hO (.refl _)
 cbv;obtain ⟨s3, hx, h⟩ := bind_some h;refine n_loopN cf41 hE okP (fun s2 => [(2, .v (.eref [.int .i64 x_a.Op, .sl (Ar.lst Encs.eGPattern x_a.Args) .ro, .int .i64 x_a.Typ, .int .i64 x_a.Var, .int .i64 x_a.Scope, .int .i64 x_a.Span, .int .i64 x_a.Cond.Op, .sl (Ar.lst Encs.eGExpr x_a.Cond.Args) .ro, .int .i64 x_a.Cond.Var, .int .i64 x_a.Cond.Field, .int .i64 x_a.Cond.Kind, .int .i64 x_a.Cond.Value.Kind, .int .i64 x_a.Cond.Value.Num, .str x_a.Cond.Value.Text] 0)), (3, .v (.eref [.int .i64 x_b.Op, .sl (Ar.lst Encs.eGPattern x_b.Args) .ro, .int .i64 x_b.Typ, .int .i64 x_b.Var, .int .i64 x_b.Scope, .int .i64 x_b.Span, .int .i64 x_b.Cond.Op, .sl (Ar.lst Encs.eGExpr x_b.Cond.Args) .ro, .int .i64 x_b.Cond.Var, .int .i64 x_b.Cond.Field, .int .i64 x_b.Cond.Kind, .int .i64 x_b.Cond.Value.Kind, .int .i64 x_b.Cond.Value.Num, .str x_b.Cond.Value.Text] 0)), (5, .v (.int .i64 s2))]) (fun s2 H1 => Own Eq H0 [] H1) (fun x e l H1 => match (generalizing := false) x with | .inl y => e = .exit 0 ∧ l = [] ∧ Own Eq H0 [] H1 | .inr y => e = .ret ∧ l = [(4, .b false)] ∧ Own Eq H0 [] H1) (by kernel_rfl) ?_ hx ?_ hO ?_
 ·intro s2 H o hO h;clear hx;cbv;refine n_ln hE ?_;cbv;refine n_br hE h (fun hc h => ?_) (fun hc h => ?_)
  ·cbv;refine n_idx hE Encs.eGPattern_eq h fun x4 h => ?_;cbv;refine n_idx hE Encs.eGPattern_eq h fun x5 h => ?_;cbv;refine n_call hE (g := fun r6 => .bool r6) h (fun r6 hx => ih x4 x5 r6 hx) (.refl _) fun r6 h => ?_;cbv;refine n_br hE h (fun hc h => ?_) (fun hc h => ?_)
   ·cbv;have h := ret_some h;subst h;exact ⟨_, _, rfl, ⟨rfl, rfl, hO⟩, .b rfl (.z), rfl⟩
   cbv;have h := ret_some h;subst h;exact ⟨_, rfl, .e rfl (.e rfl (.e rfl (.z))), rfl, hO⟩
  cbv;have h := ret_some h;subst h;exact ⟨_, _, rfl, ⟨rfl, rfl, hO⟩, .z, rfl⟩
 ·exact .e rfl (.e rfl (.e rfl (.z)))
 clear hx
 rcases s3 with y7 | y8
 ·rintro e l H ⟨rfl, rfl, hO⟩;cbv;have h := ret_some h;subst h;exact hK _ _ _ hO (.refl _)
 rintro e l H ⟨rfl, rfl, hO⟩;cbv;have h := ret_some h;subst h;exact hK _ _ _ hO (.refl _)
def cf29 : Cf := ⟨[], [(6, 8)], [], [], [], []⟩
theorem c29 (N : Nat) (x_a : List GPattern) (x_b : List GPattern) (r : Bool) (h : ref22_SameAll N x_a x_b = some r) : CallP Tryz.prog 29 [.sl (Ar.lst Encs.eGPattern x_a) .ro, .sl (Ar.lst Encs.eGPattern x_b) .ro] (.bool r) := by
 unfold ref22_SameAll at h
 refine callP_of_spec cf29 okP Tryz.func29 (by rfl) (by kernel_rfl) Tryz.call29 Tryz.ntmps29 (by rfl) (by rfl) ?_;intro E H0 K hE hK
 have hO : Own Eq H0 [] H0 := .start stable_eq rfl
 cbv;refine n_ln hE ?_;cbv;refine n_ln hE ?_;cbv;refine n_br hE h (fun hc h => ?_) (fun hc h => ?_)
 ·cbv;have h := ret_some h;subst h;exact hK _ _ _ hO (.refl _)
 cbv;obtain ⟨s2, hx, h⟩ := bind_some h;refine n_loopN cf29 hE okP (fun s1 => [(0, .v (.sl (Ar.lst Encs.eGPattern x_a) .ro)), (1, .v (.sl (Ar.lst Encs.eGPattern x_b) .ro)), (5, .v (.int .i64 s1))]) (fun s1 H1 => Own Eq H0 [] H1) (fun x e l H1 => match (generalizing := false) x with | .inl y => e = .exit 0 ∧ l = [] ∧ Own Eq H0 [] H1 | .inr y => e = .ret ∧ l = [(4, .b false)] ∧ Own Eq H0 [] H1) (by kernel_rfl) ?_ hx ?_ hO ?_
 ·intro s1 H o hO h;clear hx;cbv;refine n_ln hE ?_;cbv;refine n_br hE h (fun hc h => ?_) (fun hc h => ?_)
  ·cbv;refine n_idx hE Encs.eGPattern_eq h fun x3 h => ?_;cbv;refine n_idx hE Encs.eGPattern_eq h fun x4 h => ?_;cbv;refine n_call hE (g := fun r5 => .bool r5) h (fun r5 hx => c41 N N x3 x4 r5 hx) (.refl _) fun r5 h => ?_;cbv;refine n_br hE h (fun hc h => ?_) (fun hc h => ?_)
   ·cbv;have h := ret_some h;subst h;exact ⟨_, _, rfl, ⟨rfl, rfl, hO⟩, .b rfl (.z), rfl⟩
   cbv;have h := ret_some h;subst h;exact ⟨_, rfl, .e rfl (.e rfl (.e rfl (.z))), rfl, hO⟩
  cbv;have h := ret_some h;subst h;exact ⟨_, _, rfl, ⟨rfl, rfl, hO⟩, .z, rfl⟩
 ·exact .e rfl (.e rfl (.e rfl (.z)))
 clear hx
 rcases s2 with y6 | y7
 ·rintro e l H ⟨rfl, rfl, hO⟩;cbv;have h := ret_some h;subst h;exact hK _ _ _ hO (.refl _)
 rintro e l H ⟨rfl, rfl, hO⟩;cbv;have h := ret_some h;subst h;exact hK _ _ _ hO (.refl _)
def cf6 : Cf := ⟨[], [], [], [], [], []⟩
theorem c6 (N : Nat) (r : Bool) (h : law22_awake N  = some r) : CallP Tryz.prog 6 [] (.bool r) := by
 unfold law22_awake at h
 refine callP_of_spec cf6 okP Tryz.func6 (by rfl) (by kernel_rfl) Tryz.call6 Tryz.ntmps6 (by rfl) (by rfl) ?_;intro E H0 K hE hK
 have hO : Own Eq H0 [] H0 := .start stable_eq rfl
 cbv;refine n_call hE (g := fun r1 => .agg [.int .i64 r1.Op, .sl (Ar.lst Encs.eGPattern r1.Args) .ro, .int .i64 r1.Typ, .int .i64 r1.Var, .int .i64 r1.Scope, .int .i64 r1.Span, .int .i64 r1.Cond.Op, .sl (Ar.lst Encs.eGExpr r1.Cond.Args) .ro, .int .i64 r1.Cond.Var, .int .i64 r1.Cond.Field, .int .i64 r1.Cond.Kind, .int .i64 r1.Cond.Value.Kind, .int .i64 r1.Cond.Value.Num, .str r1.Cond.Value.Text]) h (fun r1 hx => c27 N 0 r1 hx) (.refl _) fun r1 h => ?_;cbv;refine n_call hE (g := fun r2 => .agg [.int .i64 r2.Op, .sl (Ar.lst Encs.eGPattern r2.Args) .ro, .int .i64 r2.Typ, .int .i64 r2.Var, .int .i64 r2.Scope, .int .i64 r2.Span, .int .i64 r2.Cond.Op, .sl (Ar.lst Encs.eGExpr r2.Cond.Args) .ro, .int .i64 r2.Cond.Var, .int .i64 r2.Cond.Field, .int .i64 r2.Cond.Kind, .int .i64 r2.Cond.Value.Kind, .int .i64 r2.Cond.Value.Num, .str r2.Cond.Value.Text]) h (fun r2 hx => c27 N 1 r2 hx) (.refl _) fun r2 h => ?_;cbv;refine n_call hE (g := fun r3 => .agg [.int .i64 r3.Op, .sl (Ar.lst Encs.eGPattern r3.Args) .ro, .int .i64 r3.Typ, .int .i64 r3.Var, .int .i64 r3.Scope, .int .i64 r3.Span, .int .i64 r3.Cond.Op, .sl (Ar.lst Encs.eGExpr r3.Cond.Args) .ro, .int .i64 r3.Cond.Var, .int .i64 r3.Cond.Field, .int .i64 r3.Cond.Kind, .int .i64 r3.Cond.Value.Kind, .int .i64 r3.Cond.Value.Num, .str r3.Cond.Value.Text]) h (fun r3 hx => c26 N 1 ([r1, r2]) r3 hx) (.cons (.refl _) (.cons (.lit _ (lst_cons ((Encs.eGPattern_eq r1).symm) (lst_cons ((Encs.eGPattern_eq r2).symm) (lst_nil)))) (.refl _))) fun r3 h => ?_;cbv;refine n_call hE (g := fun r4 => .tup [.sl (Ar.lst Encs.eGEdge r4.1) .ro, .sl (Ar.lst Encs.eGPattern r4.2.1) .ro, .int .i64 r4.2.2]) h (fun r4 hx => c9 N r3 r4 hx) (.refl _) fun r4 h => ?_;cbv;refine n_call hE (g := fun r5 => .agg [.int .i64 r5.Op, .sl (Ar.lst Encs.eGPattern r5.Args) .ro, .int .i64 r5.Typ, .int .i64 r5.Var, .int .i64 r5.Scope, .int .i64 r5.Span, .int .i64 r5.Cond.Op, .sl (Ar.lst Encs.eGExpr r5.Cond.Args) .ro, .int .i64 r5.Cond.Var, .int .i64 r5.Cond.Field, .int .i64 r5.Cond.Kind, .int .i64 r5.Cond.Value.Kind, .int .i64 r5.Cond.Value.Num, .str r5.Cond.Value.Text]) h (fun r5 hx => c27 N 0 r5 hx) (.refl _) fun r5 h => ?_;cbv;refine n_call hE (g := fun r6 => .agg [.int .i64 r6.Op, .sl (Ar.lst Encs.eGPattern r6.Args) .ro, .int .i64 r6.Typ, .int .i64 r6.Var, .int .i64 r6.Scope, .int .i64 r6.Span, .int .i64 r6.Cond.Op, .sl (Ar.lst Encs.eGExpr r6.Cond.Args) .ro, .int .i64 r6.Cond.Var, .int .i64 r6.Cond.Field, .int .i64 r6.Cond.Kind, .int .i64 r6.Cond.Value.Kind, .int .i64 r6.Cond.Value.Num, .str r6.Cond.Value.Text]) h (fun r6 hx => c26 N 4 ([r5]) r6 hx) (.cons (.refl _) (.cons (.lit _ (lst_cons ((Encs.eGPattern_eq r5).symm) (lst_nil))) (.refl _))) fun r6 h => ?_;cbv;refine n_call hE (g := fun r7 => .tup [.sl (Ar.lst Encs.eGEdge r7.1) .ro, .sl (Ar.lst Encs.eGPattern r7.2.1) .ro, .int .i64 r7.2.2]) h (fun r7 hx => c9 N r6 r7 hx) (.refl _) fun r7 h => ?_;cbv;refine n_call hE (g := fun r8 => .agg [.int .i64 r8.Op, .sl (Ar.lst Encs.eGPattern r8.Args) .ro, .int .i64 r8.Typ, .int .i64 r8.Var, .int .i64 r8.Scope, .int .i64 r8.Span, .int .i64 r8.Cond.Op, .sl (Ar.lst Encs.eGExpr r8.Cond.Args) .ro, .int .i64 r8.Cond.Var, .int .i64 r8.Cond.Field, .int .i64 r8.Cond.Kind, .int .i64 r8.Cond.Value.Kind, .int .i64 r8.Cond.Value.Num, .str r8.Cond.Value.Text]) h (fun r8 hx => c27 N 0 r8 hx) (.refl _) fun r8 h => ?_;cbv;refine n_call hE (g := fun r9 => .agg [.int .i64 r9.Op, .sl (Ar.lst Encs.eGPattern r9.Args) .ro, .int .i64 r9.Typ, .int .i64 r9.Var, .int .i64 r9.Scope, .int .i64 r9.Span, .int .i64 r9.Cond.Op, .sl (Ar.lst Encs.eGExpr r9.Cond.Args) .ro, .int .i64 r9.Cond.Var, .int .i64 r9.Cond.Field, .int .i64 r9.Cond.Kind, .int .i64 r9.Cond.Value.Kind, .int .i64 r9.Cond.Value.Num, .str r9.Cond.Value.Text]) h (fun r9 hx => c27 N 1 r9 hx) (.refl _) fun r9 h => ?_;cbv;refine n_call hE (g := fun r10 => .agg [.int .i64 r10.Op, .sl (Ar.lst Encs.eGPattern r10.Args) .ro, .int .i64 r10.Typ, .int .i64 r10.Var, .int .i64 r10.Scope, .int .i64 r10.Span, .int .i64 r10.Cond.Op, .sl (Ar.lst Encs.eGExpr r10.Cond.Args) .ro, .int .i64 r10.Cond.Var, .int .i64 r10.Cond.Field, .int .i64 r10.Cond.Kind, .int .i64 r10.Cond.Value.Kind, .int .i64 r10.Cond.Value.Num, .str r10.Cond.Value.Text]) h (fun r10 hx => c26 N 1 ([r8, r9]) r10 hx) (.cons (.refl _) (.cons (.lit _ (lst_cons ((Encs.eGPattern_eq r8).symm) (lst_cons ((Encs.eGPattern_eq r9).symm) (lst_nil)))) (.refl _))) fun r10 h => ?_;cbv;refine n_call hE (g := fun r11 => .tup [.sl (Ar.lst Encs.eGPattern r11.1) .ro, .int .i64 r11.2]) h (fun r11 hx => c7 N (⟨6, [r10], 0, 0, 0, 5, (⟨0, [], 0, 0, 0, (⟨0, 0, ⟨#[]⟩⟩ : GValue)⟩ : GExpr)⟩ : GPattern) r11 hx) (.cons (.agg (.cons (.refl _) (.cons (.lit _ (lst_cons ((Encs.eGPattern_eq r10).symm) (lst_nil))) (.cons (.refl _) (.cons (.refl _) (.cons (.refl _) (.cons (.refl _) (.cons (.refl _) (.cons (.lit _ (lst_nil)) (.refl _)))))))))) (.refl _)) fun r11 h => ?_;cbv;refine n_call hE (g := fun r12 => .tup [.sl (Ar.lst Encs.eGEdge r12.1) .ro, .sl (Ar.lst Encs.eGPattern r12.2.1) .ro, .int .i64 r12.2.2]) h (fun r12 hx => c9 N (⟨6, [r10], 0, 0, 0, 5, (⟨0, [], 0, 0, 0, (⟨0, 0, ⟨#[]⟩⟩ : GValue)⟩ : GExpr)⟩ : GPattern) r12 hx) (.cons (.agg (.cons (.refl _) (.cons (.lit _ (lst_cons ((Encs.eGPattern_eq r10).symm) (lst_nil))) (.cons (.refl _) (.cons (.refl _) (.cons (.refl _) (.cons (.refl _) (.cons (.refl _) (.cons (.lit _ (lst_nil)) (.refl _)))))))))) (.refl _)) fun r12 h => ?_;cbv;refine n_call hE (g := fun r13 => .agg [.int .i64 r13.Op, .sl (Ar.lst Encs.eGExpr r13.Args) .ro, .int .i64 r13.Var, .int .i64 r13.Field, .int .i64 r13.Kind, .int .i64 r13.Value.Kind, .int .i64 r13.Value.Num, .str r13.Value.Text]) h (fun r13 hx => c28 N  r13 hx) (.refl _) fun r13 h => ?_;cbv;refine n_call hE (g := fun r14 => .agg [.int .i64 r14.Op, .sl (Ar.lst Encs.eGPattern r14.Args) .ro, .int .i64 r14.Typ, .int .i64 r14.Var, .int .i64 r14.Scope, .int .i64 r14.Span, .int .i64 r14.Cond.Op, .sl (Ar.lst Encs.eGExpr r14.Cond.Args) .ro, .int .i64 r14.Cond.Var, .int .i64 r14.Cond.Field, .int .i64 r14.Cond.Kind, .int .i64 r14.Cond.Value.Kind, .int .i64 r14.Cond.Value.Num, .str r14.Cond.Value.Text]) h (fun r14 hx => c27 N 1 r14 hx) (.refl _) fun r14 h => ?_;cbv;refine n_call hE (g := fun r15 => .agg [.int .i64 r15.Op, .sl (Ar.lst Encs.eGPattern r15.Args) .ro, .int .i64 r15.Typ, .int .i64 r15.Var, .int .i64 r15.Scope, .int .i64 r15.Span, .int .i64 r15.Cond.Op, .sl (Ar.lst Encs.eGExpr r15.Cond.Args) .ro, .int .i64 r15.Cond.Var, .int .i64 r15.Cond.Field, .int .i64 r15.Cond.Kind, .int .i64 r15.Cond.Value.Kind, .int .i64 r15.Cond.Value.Num, .str r15.Cond.Value.Text]) h (fun r15 hx => c26 N 4 ([r14]) r15 hx) (.cons (.refl _) (.cons (.lit _ (lst_cons ((Encs.eGPattern_eq r14).symm) (lst_nil))) (.refl _))) fun r15 h => ?_;cbv;refine n_call hE (g := fun r16 => .tup [.sl (Ar.lst Encs.eGPattern r16.1) .ro, .int .i64 r16.2]) h (fun r16 hx => c7 N (⟨5, [r15], 2, 0, 0, 0, r13⟩ : GPattern) r16 hx) (.cons (.agg (.cons (.refl _) (.cons (.lit _ (lst_cons ((Encs.eGPattern_eq r15).symm) (lst_nil))) (.refl _)))) (.refl _)) fun r16 h => ?_;cbv;refine n_call hE (g := fun r17 => .tup [.sl (Ar.lst Encs.eGEdge r17.1) .ro, .sl (Ar.lst Encs.eGPattern r17.2.1) .ro, .int .i64 r17.2.2]) h (fun r17 hx => c9 N (⟨5, [r15], 2, 0, 0, 0, r13⟩ : GPattern) r17 hx) (.cons (.agg (.cons (.refl _) (.cons (.lit _ (lst_cons ((Encs.eGPattern_eq r15).symm) (lst_nil))) (.refl _)))) (.refl _)) fun r17 h => ?_;cbv;refine n_ln hE ?_;cbv;refine n_ln hE ?_;cbv;refine n_ln hE ?_;cbv;refine n_ln hE ?_;cbv;refine n_ln hE ?_;cbv;refine n_ln hE ?_;cbv;refine n_br hE h (fun hc h => ?_) (fun hc h => ?_)
 ·cbv;have h := ret_some h;subst h;exact hK _ _ _ hO (.refl _)
 cbv;refine n_idx hE Encs.eGPattern_eq h fun x18 h => ?_;cbv;refine n_call hE (g := fun r19 => .tup [.sl (Ar.lst Encs.eGGuard r19.1) .ro, .int .i64 r19.2]) h (fun r19 hx => c10 N x18 r19 hx) (.refl _) fun r19 h => ?_;cbv;refine n_ln hE ?_;cbv;refine n_br hE h (fun hc h => ?_) (fun hc h => ?_)
 ·cbv;have h := ret_some h;subst h;exact hK _ _ _ hO (.refl _)
 cbv;refine n_idx hE Encs.eGGuard_eq h fun x20 h => ?_;cbv;refine n_br hE h (fun hc h => ?_) (fun hc h => ?_)
 ·cbv;have h := ret_some h;subst h;exact hK _ _ _ hO (.refl _)
 cbv;refine n_idx hE Encs.eGPattern_eq h fun x21 h => ?_;cbv;refine n_br hE h (fun hc h => ?_) (fun hc h => ?_)
 ·cbv;have h := ret_some h;subst h;exact hK _ _ _ hO (.refl _)
 cbv;refine n_idx hE Encs.eGPattern_eq h fun x22 h => ?_;cbv;refine n_br hE h (fun hc h => ?_) (fun hc h => ?_)
 ·cbv;have h := ret_some h;subst h;exact hK _ _ _ hO (.refl _)
 cbv;refine n_call hE (g := fun r23 => .agg [.int .i64 r23.Op, .sl (Ar.lst Encs.eGPattern r23.Args) .ro, .int .i64 r23.Typ, .int .i64 r23.Var, .int .i64 r23.Scope, .int .i64 r23.Span, .int .i64 r23.Cond.Op, .sl (Ar.lst Encs.eGExpr r23.Cond.Args) .ro, .int .i64 r23.Cond.Var, .int .i64 r23.Cond.Field, .int .i64 r23.Cond.Kind, .int .i64 r23.Cond.Value.Kind, .int .i64 r23.Cond.Value.Num, .str r23.Cond.Value.Text]) h (fun r23 hx => c27 N 1 r23 hx) (.refl _) fun r23 h => ?_;cbv;refine n_call hE (g := fun r24 => .bool r24) h (fun r24 hx => c29 N r4.2.1 ([r23]) r24 hx) (.cons (.refl _) (.cons (.lit _ (lst_cons ((Encs.eGPattern_eq r23).symm) (lst_nil))) (.refl _))) fun r24 h => ?_;cbv;refine n_br hE h (fun hc h => ?_) (fun hc h => ?_)
 ·cbv;have h := ret_some h;subst h;exact hK _ _ _ hO (.refl _)
 cbv;refine n_call hE (g := fun r25 => .agg [.int .i64 r25.Op, .sl (Ar.lst Encs.eGPattern r25.Args) .ro, .int .i64 r25.Typ, .int .i64 r25.Var, .int .i64 r25.Scope, .int .i64 r25.Span, .int .i64 r25.Cond.Op, .sl (Ar.lst Encs.eGExpr r25.Cond.Args) .ro, .int .i64 r25.Cond.Var, .int .i64 r25.Cond.Field, .int .i64 r25.Cond.Kind, .int .i64 r25.Cond.Value.Kind, .int .i64 r25.Cond.Value.Num, .str r25.Cond.Value.Text]) h (fun r25 hx => c27 N 0 r25 hx) (.refl _) fun r25 h => ?_;cbv;refine n_call hE (g := fun r26 => .agg [.int .i64 r26.Op, .sl (Ar.lst Encs.eGPattern r26.Args) .ro, .int .i64 r26.Typ, .int .i64 r26.Var, .int .i64 r26.Scope, .int .i64 r26.Span, .int .i64 r26.Cond.Op, .sl (Ar.lst Encs.eGExpr r26.Cond.Args) .ro, .int .i64 r26.Cond.Var, .int .i64 r26.Cond.Field, .int .i64 r26.Cond.Kind, .int .i64 r26.Cond.Value.Kind, .int .i64 r26.Cond.Value.Num, .str r26.Cond.Value.Text]) h (fun r26 hx => c26 N 4 ([r25]) r26 hx) (.cons (.refl _) (.cons (.lit _ (lst_cons ((Encs.eGPattern_eq r25).symm) (lst_nil))) (.refl _))) fun r26 h => ?_;cbv;refine n_call hE (g := fun r27 => .bool r27) h (fun r27 hx => c29 N r7.2.1 ([r26]) r27 hx) (.cons (.refl _) (.cons (.lit _ (lst_cons ((Encs.eGPattern_eq r26).symm) (lst_nil))) (.refl _))) fun r27 h => ?_;cbv;refine n_br hE h (fun hc h => ?_) (fun hc h => ?_)
 ·cbv;have h := ret_some h;subst h;exact hK _ _ _ hO (.refl _)
 cbv;refine n_idx hE Encs.eGEdge_eq h fun x28 h => ?_;cbv;refine n_br hE h (fun hc h => ?_) (fun hc h => ?_)
 ·cbv;have h := ret_some h;subst h;exact hK _ _ _ hO (.refl _)
 cbv;refine n_idx hE Encs.eGEdge_eq h fun x29 h => ?_;cbv;refine n_br hE h (fun hc h => ?_) (fun hc h => ?_)
 ·cbv;have h := ret_some h;subst h;exact hK _ _ _ hO (.refl _)
 cbv;refine n_idx hE Encs.eGEdge_eq h fun x30 h => ?_;cbv;refine n_br hE h (fun hc h => ?_) (fun hc h => ?_)
 ·cbv;have h := ret_some h;subst h;exact hK _ _ _ hO (.refl _)
 cbv;refine n_idx hE Encs.eGEdge_eq h fun x31 h => ?_;cbv;refine n_call hE (g := fun r32 => .bool r32) h (fun r32 hx => c18 N x31.Opens ([0]) r32 hx) (.cons (.refl _) (.cons (.lit _ (lst_cons (rfl) (lst_nil))) (.refl _))) fun r32 h => ?_;cbv;refine n_br hE h (fun hc h => ?_) (fun hc h => ?_)
 ·cbv;refine n_idx hE Encs.eGEdge_eq h fun x33 h => ?_;cbv;refine n_call hE (g := fun r34 => .bool r34) h (fun r34 hx => c30 N x33.Limits ([(⟨0, 5⟩ : GLimit)]) r34 hx) (.cons (.refl _) (.cons (.lit _ (lst_cons ((Encs.eGLimit_eq (⟨0, 5⟩ : GLimit)).symm) (lst_nil))) (.refl _))) fun r34 h => ?_;cbv;refine n_br hE h (fun hc h => ?_) (fun hc h => ?_)
  ·cbv;refine n_idx hE Encs.eGEdge_eq h fun x35 h => ?_;cbv;refine n_ln hE ?_;cbv;refine n_br hE h (fun hc h => ?_) (fun hc h => ?_)
   ·cbv;refine n_idx hE Encs.eGEdge_eq h fun x36 h => ?_;cbv;refine n_call hE (g := fun r37 => .bool r37) h (fun r37 hx => c18 N x36.Closes ([0]) r37 hx) (.cons (.refl _) (.cons (.lit _ (lst_cons (rfl) (lst_nil))) (.refl _))) fun r37 h => ?_;cbv;refine n_br hE h (fun hc h => ?_) (fun hc h => ?_)
    ·cbv;refine n_idx hE Encs.eGEdge_eq h fun x38 h => ?_;cbv;refine n_ln hE ?_;cbv;refine n_br hE h (fun hc h => ?_) (fun hc h => ?_)
     ·cbv;refine n_idx hE Encs.eGEdge_eq h fun x39 h => ?_;cbv;refine n_call hE (g := fun r40 => .bool r40) h (fun r40 hx => c18 N x39.Inside ([0]) r40 hx) (.cons (.refl _) (.cons (.lit _ (lst_cons (rfl) (lst_nil))) (.refl _))) fun r40 h => ?_;cbv;have h := ret_some h;subst h;exact hK _ _ _ hO (.refl _)
     cbv;have h := ret_some h;subst h;exact hK _ _ _ hO (.refl _)
    cbv;have h := ret_some h;subst h;exact hK _ _ _ hO (.refl _)
   cbv;have h := ret_some h;subst h;exact hK _ _ _ hO (.refl _)
  cbv;have h := ret_some h;subst h;exact hK _ _ _ hO (.refl _)
 cbv;have h := ret_some h;subst h;exact hK _ _ _ hO (.refl _)
def cf8 : Cf := ⟨[], [], [(11, 7), (19, 10)], [0], [], []⟩
theorem c8 (N : Nat) : ∀ (n : Nat) (x_p : GPattern) (r : (List Int)), law22_open N n x_p = some r → CallP Tryz.prog 8 [.agg [.int .i64 x_p.Op, .sl (Ar.lst Encs.eGPattern x_p.Args) .ro, .int .i64 x_p.Typ, .int .i64 x_p.Var, .int .i64 x_p.Scope, .int .i64 x_p.Span, .int .i64 x_p.Cond.Op, .sl (Ar.lst Encs.eGExpr x_p.Cond.Args) .ro, .int .i64 x_p.Cond.Var, .int .i64 x_p.Cond.Field, .int .i64 x_p.Cond.Kind, .int .i64 x_p.Cond.Value.Kind, .int .i64 x_p.Cond.Value.Num, .str x_p.Cond.Value.Text]] (.sl (Ar.lst (V.int .i64) r) .ro) := by
 intro n
 induction n with
 | zero => intro x_p r h; cases h
 | succ n ih =>
 intro x_p r h
 unfold law22_open at h
 refine callP_of_spec cf8 okP Tryz.func8 (by rfl) (by kernel_rfl) Tryz.call8 Tryz.ntmps8 (by rfl) (by rfl) ?_;intro E H0 K hE hK
 have hO : Own Eq H0 [] H0 := .start stable_eq rfl
 cbv;replace hO := hO.tl0 (t := .nil) rfl;obtain ⟨s1, hx, h⟩ := bind_some h;refine n_join cf8 hE okP (fun e l H1 => match (generalizing := false) s1 with | .inl y => ∃ u1 : Tail, Appn u1 ∧ e = .normal ∧ l = [(3, .v (.sl (Ar.lst (V.int .i64) y.1) u1)), (4, .v (.sl (Ar.lst Encs.eGPattern y.2) .ro))] ∧ Own Eq H0 [.tl u1] H1 | .inr y => e = .ret ∧ l = [(2, .v (.sl [] .nil))] ∧ Own Eq H0 [.tl .nil] H1) (by kernel_rfl) ?_ ?_
 ·clear h;have h := hx;clear hx;cbv;obtain ⟨s2, hx, h⟩ := bind_some h;refine n_join cf8 hE okP (fun e l H1 => e = .normal ∧ l = [(1, .v (.eref [.int .i64 x_p.Op, .sl (Ar.lst Encs.eGPattern x_p.Args) .ro, .int .i64 x_p.Typ, .int .i64 x_p.Var, .int .i64 x_p.Scope, .int .i64 x_p.Span, .int .i64 x_p.Cond.Op, .sl (Ar.lst Encs.eGExpr x_p.Cond.Args) .ro, .int .i64 x_p.Cond.Var, .int .i64 x_p.Cond.Field, .int .i64 x_p.Cond.Kind, .int .i64 x_p.Cond.Value.Kind, .int .i64 x_p.Cond.Value.Num, .str x_p.Cond.Value.Text] 0)), (3, .v (.sl [] .nil)), (4, .v (.sl (Ar.lst Encs.eGPattern x_p.Args) .ro)), (10, .v (.int .i64 x_p.Op)), (11, .v (.bool s2))] ∧ Own Eq H0 [.tl .nil] H1) (by kernel_rfl) ?_ ?_
  ·clear h;have h := hx;clear hx;cbv;refine n_br hE h (fun hc h => ?_) (fun hc h => ?_)
   ·cbv;have h := ret_some h;subst h;exact ⟨_, ⟨rfl, rfl, hO⟩, .e rfl (.e rfl (.e rfl (.e rfl (.e rfl (.z))))), rfl⟩
   cbv;have h := ret_some h;subst h;exact ⟨_, ⟨rfl, rfl, hO⟩, .e rfl (.e rfl (.e rfl (.e rfl (.e rfl (.z))))), rfl⟩
  clear hx;rintro e l H ⟨rfl, rfl, hO⟩;cbv;refine n_br hE h (fun hc h => ?_) (fun hc h => ?_)
  ·cbv;refine n_appn (f := (V.int .i64)) hE (fun _ => rfl) (by decide) hO 0 rfl trivial (l := []) (m := [x_p.Scope]) (.lst0) (.lstc (.refl _) (.lst0)) h fun l4 t3 H hO ht3 h => ?_;cbv;have h := ret_some h;subst h;exact ⟨_, ⟨t3, ht3, rfl, rfl, hO⟩, .e rfl (.e rfl (.z)), rfl⟩
  cbv;obtain ⟨s5, hx, h⟩ := bind_some h;refine n_join cf8 hE okP (fun e l H1 => e = .normal ∧ l = [(3, .v (.sl [] .nil)), (4, .v (.sl (Ar.lst Encs.eGPattern x_p.Args) .ro)), (10, .v (.int .i64 x_p.Op)), (19, .v (.bool s5))] ∧ Own Eq H0 [.tl .nil] H1) (by kernel_rfl) ?_ ?_
  ·clear h;have h := hx;clear hx;cbv;refine n_br hE h (fun hc h => ?_) (fun hc h => ?_)
   ·cbv;have h := ret_some h;subst h;exact ⟨_, ⟨rfl, rfl, hO⟩, .e rfl (.e rfl (.e rfl (.e rfl (.z)))), rfl⟩
   cbv;have h := ret_some h;subst h;exact ⟨_, ⟨rfl, rfl, hO⟩, .e rfl (.e rfl (.e rfl (.e rfl (.z)))), rfl⟩
  clear hx;rintro e l H ⟨rfl, rfl, hO⟩;cbv;refine n_br hE h (fun hc h => ?_) (fun hc h => ?_)
  ·cbv;refine n_slice hE sz_GPattern h fun l6 t7 h => ?_;cbv;have h := ret_some h;subst h;exact ⟨_, ⟨.nil, trivial, rfl, rfl, hO⟩, .v (.slt _ (.lst0)) (.v (.ro _ _) (.z)), rfl⟩
  cbv;refine n_br hE h (fun hc h => ?_) (fun hc h => ?_)
  ·cbv;have h := ret_some h;subst h;exact ⟨_, ⟨.nil, trivial, rfl, rfl, hO⟩, .v (.slt _ (.lst0)) (.e rfl (.z)), rfl⟩
  cbv;refine n_br hE h (fun hc h => ?_) (fun hc h => ?_)
  ·cbv;have h := ret_some h;subst h;exact ⟨_, ⟨.nil, trivial, rfl, rfl, hO⟩, .v (.slt _ (.lst0)) (.e rfl (.z)), rfl⟩
  cbv;have h := ret_some h;subst h;exact ⟨_, ⟨rfl, rfl, hO⟩, .e rfl (.z), rfl⟩
 clear hx
 rcases s1 with y8 | y18
 ·rintro e l H ⟨t9, ht9, rfl, rfl, hO⟩;cbv;refine n_ln hE ?_;cbv;obtain ⟨s12, hx, h⟩ := bind_some h;refine n_loopG cf8 hE okP (γ := Tail) (fun s10 g => [(3, .v (.sl (Ar.lst (V.int .i64) s10.1) g)), (27, .v (.sl (Ar.lst Encs.eGPattern y8.2) .ro)), (28, .v (.int .i64 (Ar.len y8.2))), (29, .v (.int .i64 s10.2))]) (fun s10 g H1 => Appn g ∧ Own Eq H0 [.tl g] H1) (fun x e l H1 => ∃ u1 : Tail, Appn u1 ∧ e = .exit 1 ∧ l = [(3, .v (.sl (Ar.lst (V.int .i64) x) u1))] ∧ Own Eq H0 [.tl u1] H1) (by kernel_rfl) ?_ t9 hx ?_ ?_ ?_
  ·rintro s10 t11 H o ⟨ht11, hO⟩ h;clear hx;cbv;refine n_br hE h (fun hc h => ?_) (fun hc h => ?_)
   ·cbv;refine n_idx hE Encs.eGPattern_eq h fun x13 h => ?_;cbv;refine n_call hE (g := fun r14 => .sl (Ar.lst (V.int .i64) r14) .ro) h (fun r14 hx => ih x13 r14 hx) (.refl _) fun r14 h => ?_;cbv;refine n_appn (f := (V.int .i64)) hE (fun _ => rfl) (by decide) hO 0 rfl ht11 (l := s10.1) (m := r14) (.refl _) (.refl _) h fun l16 t15 H hO ht15 h => ?_;cbv;have h := ret_some h;subst h;exact ⟨_, t15, rfl, .e rfl (.e rfl (.e rfl (.e rfl (.z)))), rfl, ht15, hO⟩
   cbv;have h := ret_some h;subst h;exact ⟨_, _, rfl, ⟨t11, ht11, rfl, rfl, hO⟩, .e rfl (.z), rfl⟩
  ·exact .e rfl (.e rfl (.e rfl (.e rfl (.z))))
  ·exact ⟨ht9, hO⟩
  clear hx;rintro e l H ⟨t17, ht17, rfl, rfl, hO⟩;cbv;have h := ret_some h;subst h;exact hK _ _ _ hO (.ro _ _)
 rintro e l H ⟨rfl, rfl, hO⟩;cbv;have h := ret_some h;subst h;exact hK _ _ _ hO (.lit _ (lst_nil))
def cf35 : Cf := ⟨[], [], [], [], [], []⟩
theorem c35 (N : Nat) (x_s : List GGuard) (v_f : V) (x_f : GGuard → Option Bool) (h_f : ∀ y1 q, x_f y1 = some q → CallVP Tryz.prog v_f [.agg [.int .i64 y1.Scope, .int .i64 y1.Typ, .int .i64 y1.Var, .int .i64 y1.Cond.Op, .sl (Ar.lst Encs.eGExpr y1.Cond.Args) .ro, .int .i64 y1.Cond.Var, .int .i64 y1.Cond.Field, .int .i64 y1.Cond.Kind, .int .i64 y1.Cond.Value.Kind, .int .i64 y1.Cond.Value.Num, .str y1.Cond.Value.Text]] (.bool q)) (r : Int) (h : slices_IndexFunc_LGuard_Guard N x_s x_f = some r) : CallP Tryz.prog 35 [.sl (Ar.lst Encs.eGGuard x_s) .ro, v_f] (.int .i64 r) := by
 unfold slices_IndexFunc_LGuard_Guard at h
 refine callP_of_spec cf35 okP Tryz.func35 (by rfl) (by kernel_rfl) Tryz.call35 Tryz.ntmps35 (by rfl) (by rfl) ?_;intro E H0 K hE hK
 have hO : Own Eq H0 [] H0 := .start stable_eq rfl
 cbv;refine n_ln hE ?_;cbv;obtain ⟨s2, hx, h⟩ := bind_some h;refine n_loopN cf35 hE okP (fun s1 => [(0, .v (.sl (Ar.lst Encs.eGGuard x_s) .ro)), (1, .v (v_f)), (7, .v (.int .i64 (Ar.len x_s))), (8, .v (.int .i64 s1))]) (fun s1 H1 => Own Eq H0 [] H1) (fun x e l H1 => match (generalizing := false) x with | .inl y => e = .exit 0 ∧ l = [] ∧ Own Eq H0 [] H1 | .inr y => e = .ret ∧ l = [(4, .v (.int .i64 y))] ∧ Own Eq H0 [] H1) (by kernel_rfl) ?_ hx ?_ hO ?_
 ·intro s1 H o hO h;clear hx;cbv;refine n_br hE h (fun hc h => ?_) (fun hc h => ?_)
  ·cbv;refine n_idx hE Encs.eGGuard_eq h fun x3 h => ?_;cbv;refine n_callF hE (g := fun r4 => .bool r4) h (fun r4 hx => h_f x3 r4 hx) (.refl _) fun r4 h => ?_;cbv;refine n_br hE h (fun hc h => ?_) (fun hc h => ?_)
   ·cbv;have h := ret_some h;subst h;exact ⟨_, _, rfl, ⟨rfl, rfl, hO⟩, .e rfl (.z), rfl⟩
   cbv;have h := ret_some h;subst h;exact ⟨_, rfl, .e rfl (.e rfl (.e rfl (.e rfl (.z)))), rfl, hO⟩
  cbv;have h := ret_some h;subst h;exact ⟨_, _, rfl, ⟨rfl, rfl, hO⟩, .z, rfl⟩
 ·exact .e rfl (.e rfl (.e rfl (.e rfl (.z))))
 clear hx
 rcases s2 with y5 | y6
 ·rintro e l H ⟨rfl, rfl, hO⟩;cbv;have h := ret_some h;subst h;exact hK _ _ _ hO (.refl _)
 rintro e l H ⟨rfl, rfl, hO⟩;cbv;have h := ret_some h;subst h;exact hK _ _ _ hO (.refl _)
def cf11 : Cf := ⟨[], [], [], [], [], []⟩
theorem c11 (N : Nat) (x_s : List GGuard) (v_f : V) (x_f : GGuard → Option Bool) (h_f : ∀ y1 q, x_f y1 = some q → CallVP Tryz.prog v_f [.agg [.int .i64 y1.Scope, .int .i64 y1.Typ, .int .i64 y1.Var, .int .i64 y1.Cond.Op, .sl (Ar.lst Encs.eGExpr y1.Cond.Args) .ro, .int .i64 y1.Cond.Var, .int .i64 y1.Cond.Field, .int .i64 y1.Cond.Kind, .int .i64 y1.Cond.Value.Kind, .int .i64 y1.Cond.Value.Num, .str y1.Cond.Value.Text]] (.bool q)) (r : Bool) (h : slices_ContainsFunc_LGuard_Guard N x_s x_f = some r) : CallP Tryz.prog 11 [.sl (Ar.lst Encs.eGGuard x_s) .ro, v_f] (.bool r) := by
 unfold slices_ContainsFunc_LGuard_Guard at h
 refine callP_of_spec cf11 okP Tryz.func11 (by rfl) (by kernel_rfl) Tryz.call11 Tryz.ntmps11 (by rfl) (by rfl) ?_;intro E H0 K hE hK
 have hO : Own Eq H0 [] H0 := .start stable_eq rfl
 cbv;refine n_call hE (g := fun r1 => .int .i64 r1) h (fun r1 hx => c35 N x_s v_f x_f h_f r1 hx) (.refl _) fun r1 h => ?_;cbv;have h := ret_some h;subst h;exact hK _ _ _ hO (.refl _)
def cf15 : Cf := ⟨[], [], [], [], [], []⟩
theorem c15 (N : Nat) (x_s : List Int) (x_v : Int) (r : Int) (h : slices_Index_Lint_int N x_s x_v = some r) : CallP Tryz.prog 15 [.sl (Ar.lst (V.int .i64) x_s) .ro, .int .i64 x_v] (.int .i64 r) := by
 unfold slices_Index_Lint_int at h
 refine callP_of_spec cf15 okP Tryz.func15 (by rfl) (by kernel_rfl) Tryz.call15 Tryz.ntmps15 (by rfl) (by rfl) ?_;intro E H0 K hE hK
 have hO : Own Eq H0 [] H0 := .start stable_eq rfl
 cbv;refine n_ln hE ?_;cbv;obtain ⟨s2, hx, h⟩ := bind_some h;refine n_loopN cf15 hE okP (fun s1 => [(0, .v (.sl (Ar.lst (V.int .i64) x_s) .ro)), (1, .v (.int .i64 x_v)), (7, .v (.int .i64 (Ar.len x_s))), (8, .v (.int .i64 s1))]) (fun s1 H1 => Own Eq H0 [] H1) (fun x e l H1 => match (generalizing := false) x with | .inl y => e = .exit 0 ∧ l = [] ∧ Own Eq H0 [] H1 | .inr y => e = .ret ∧ l = [(4, .v (.int .i64 y))] ∧ Own Eq H0 [] H1) (by kernel_rfl) ?_ hx ?_ hO ?_
 ·intro s1 H o hO h;clear hx;cbv;refine n_br hE h (fun hc h => ?_) (fun hc h => ?_)
  ·cbv;refine n_idx hE (fun _ => rfl) h fun x3 h => ?_;cbv;refine n_br hE h (fun hc h => ?_) (fun hc h => ?_)
   ·cbv;have h := ret_some h;subst h;exact ⟨_, _, rfl, ⟨rfl, rfl, hO⟩, .e rfl (.z), rfl⟩
   cbv;have h := ret_some h;subst h;exact ⟨_, rfl, .e rfl (.e rfl (.e rfl (.e rfl (.z)))), rfl, hO⟩
  cbv;have h := ret_some h;subst h;exact ⟨_, _, rfl, ⟨rfl, rfl, hO⟩, .z, rfl⟩
 ·exact .e rfl (.e rfl (.e rfl (.e rfl (.z))))
 clear hx
 rcases s2 with y4 | y5
 ·rintro e l H ⟨rfl, rfl, hO⟩;cbv;have h := ret_some h;subst h;exact hK _ _ _ hO (.refl _)
 rintro e l H ⟨rfl, rfl, hO⟩;cbv;have h := ret_some h;subst h;exact hK _ _ _ hO (.refl _)
def cf13 : Cf := ⟨[], [], [], [], [], []⟩
theorem c13 (N : Nat) (x_s : List Int) (x_v : Int) (r : Bool) (h : slices_Contains_Lint_int N x_s x_v = some r) : CallP Tryz.prog 13 [.sl (Ar.lst (V.int .i64) x_s) .ro, .int .i64 x_v] (.bool r) := by
 unfold slices_Contains_Lint_int at h
 refine callP_of_spec cf13 okP Tryz.func13 (by rfl) (by kernel_rfl) Tryz.call13 Tryz.ntmps13 (by rfl) (by rfl) ?_;intro E H0 K hE hK
 have hO : Own Eq H0 [] H0 := .start stable_eq rfl
 cbv;refine n_call hE (g := fun r1 => .int .i64 r1) h (fun r1 hx => c15 N x_s x_v r1 hx) (.refl _) fun r1 h => ?_;cbv;have h := ret_some h;subst h;exact hK _ _ _ hO (.refl _)
def cf12 : Cf := ⟨[], [], [], [], [], []⟩
theorem c12 (N : Nat) (x_x : GGuard) (x_1 : List Int) (r : Bool) (h : law22_DerivativeNests_1 N x_x x_1 = some r) : CallP Tryz.prog 12 [.agg [.int .i64 x_x.Scope, .int .i64 x_x.Typ, .int .i64 x_x.Var, .int .i64 x_x.Cond.Op, .sl (Ar.lst Encs.eGExpr x_x.Cond.Args) .ro, .int .i64 x_x.Cond.Var, .int .i64 x_x.Cond.Field, .int .i64 x_x.Cond.Kind, .int .i64 x_x.Cond.Value.Kind, .int .i64 x_x.Cond.Value.Num, .str x_x.Cond.Value.Text], .eref [.sl (Ar.lst (V.int .i64) x_1) .ro] 0] (.bool r) := by
 unfold law22_DerivativeNests_1 at h
 refine callP_of_spec cf12 okP Tryz.func12 (by rfl) (by kernel_rfl) Tryz.call12 Tryz.ntmps12 (by rfl) (by rfl) ?_;intro E H0 K hE hK
 have hO : Own Eq H0 [] H0 := .start stable_eq rfl
 cbv;refine n_call hE (g := fun r1 => .bool r1) h (fun r1 hx => c13 N x_1 x_x.Scope r1 hx) (.refl _) fun r1 h => ?_;cbv;have h := ret_some h;subst h;exact hK _ _ _ hO (.refl _)
def cf14 : Cf := ⟨[7], [], [], [], [], []⟩
theorem c14 (N : Nat) (x_s : List Int) (r : List Int) (h : slices_Clone_Lint_int N x_s = some r) : CallO Tryz.prog 14 [.sl (Ar.lst (V.int .i64) x_s) .ro] 1 (Ar.lst (V.int .i64) r) := by
 unfold slices_Clone_Lint_int at h
 intro H0;refine callO_run (T := TT) cf14 okP Tryz.func14 (by rfl) (by kernel_rfl) Tryz.call14 Tryz.ntmps14 (by rfl) (by rfl) ?_;intro E K hE hK hN
 have hO : Own Eq H0 [] H0 := .start stable_eq rfl
 cbv;refine n_nilc hE rfl (fun hx => ?_) ?_
 ·cbv;exact hN (appL_nil hx h) [] H0 hO
 cbv;refine n_oapp0 (f := (V.int .i64)) hE (fun _ => rfl) (by decide) hO (.inr rfl) (m := x_s) (src_sl (f := (V.int .i64)) hE (fun _ => rfl) (.refl _)) h fun l q H hq hO h => ?_;cbv;have h := ret_some h;subst h;exact hK q _ _ (okn_lst hE hq) hO
def cf16 : Cf := ⟨[], [(5, 6)], [], [], [], []⟩
theorem c16 (N : Nat) (x_s : List Int) (x_i x_j : Int) (r : List Int) (h : slices_Delete_Lint_int N x_s x_i x_j = some r) : CallOO Tryz.prog 16 [.int .i64 x_i, .int .i64 x_j] 1 (Ar.lst (V.int .i64) x_s) (Ar.lst (V.int .i64) r) := by
 unfold slices_Delete_Lint_int at h
 obtain ⟨x, h1, h2⟩ := bind_some h
 cases ret_some h2
 obtain ⟨h0, h1, h2, hr⟩ := lst_del (f := (V.int .i64)) h1;rw [hr];clear hr h
 generalize Ar.lst (V.int .i64) x_s = xs at *
 rintro H ⟨id, lo, n, pre, rest⟩ ⟨e1, e2⟩ hk
 simp only at e1 e2 hk
 refine callOO_run (T := TT) cf16 okP Tryz.func16 (by rfl) (by kernel_rfl) Tryz.call16 Tryz.ntmps16 (by rfl) (by rfl) ?_;intro E K hE hK
 simp only at hK ⊢
 generalize hrow : pre ++ xs ++ rest = row at hk
 obtain ⟨RL, hRL⟩ : ∃ RL : Int, RL = (row.length : Nat) := ⟨_, rfl⟩
 have hlen : lo + n ≤ RL := by rw [hRL, ← hrow, e1, e2]; simp; omega
 have hn0 : 0 ≤ lo ∧ 0 ≤ n ∧ x_j ≤ n := by omega
 have hdl : ∀ l2 n2 : Int, 0 ≤ l2 → 0 ≤ n2 → l2 + n2 ≤ RL → n2 = ((subL row l2 n2).length : Nat) := fun l2 n2 a b c => by rw [subL_length a b (by rw [← hRL]; exact c)]; omega
 cbv;refine r_olen hE ?_;cbv;refine r_oslice3 hE hk hRL x_i x_j rfl rfl h0 h1 (by omega) hlen rfl ?_;cbv;refine r_br hE (fun hc => ?_) (fun hc => ?_)
 ·cbv
  have hij : x_i = x_j := by rw [Ar.cmp_eq] at hc; simpa [cmpI] using hc
  refine hK id lo n row pre rest H ?_ e1 ?_ (.inl rfl) ?_
  ·rw [← hrow, hij, List.take_append_drop]
  ·rw [hij, List.take_append_drop]; exact e2
  rw [upd_upd]; intro y b hy
  by_cases ey : y = id
  ·subst ey; rw [upd_same] at hy; cases hy; exact hk
  rwa [upd_other _ _ ey] at hy
 cbv;refine r_olen hE ?_;cbv;refine r_oslice hE hk hRL 0 x_i rfl rfl (Int.le_refl _) h0 (by omega) fun l1 n1 q1 q2 => ?_;cbv;refine r_oslice hE hk hRL x_j n rfl rfl (by omega) (by omega) hlen fun l2 n2 q3 q4 => ?_;cbv
 have hsl := hdl l2 n2 (by omega) (by omega) (by omega)
 refine r_oapp hE hk hRL (src_row hE hk) hsl (fun hfit m row1 q5 hr1 => ?_) (fun hno => absurd hno (by omega));cbv;refine r_olen hE ?_;cbv
 have hR1 : RL = (row1.length : Nat) := by rw [hr1, over_length (sub_fit hRL hsl (by omega) (by omega) hfit)]; exact hRL
 refine r_oslice hE (upd_same _ _ _) hR1 m n rfl rfl (by omega) (by omega) (by omega) fun l3 n3 q6 q7 => ?_;cbv;refine r_oclear hE (upd_same _ _ _) fun row2 hr2 => ?_;cbv
 have hd := del_row hrow.symm e1 e2 h0 h1 h2 (by omega) (by omega) q3 q4 hr1 (q5.trans (congrArg (n1 + ·) hsl)) q6 q7 hr2
 rw [upd_upd];exact hK id l1 m row2 pre _ _ hd.1 (by omega) hd.2 (.inl rfl) (by rw [upd_upd]; exact .refl _)
theorem c17 (N : Nat) (x_s r : List Int) (h : slices_Sort_Lint_int N x_s = some r) : CallS Tryz.prog 17 x_s r := callS_sort Go.Proofs.Tryz.laysNm189 Tryz.call17 h
def cf38 : Cf := ⟨[], [], [], [], [], []⟩
theorem c38 (N : Nat) (x_s : List GLimit) (v_f : V) (x_f : GLimit → Option Bool) (h_f : ∀ y1 q, x_f y1 = some q → CallVP Tryz.prog v_f [.agg [.int .i64 y1.Scope, .int .i64 y1.Span]] (.bool q)) (r : Int) (h : slices_IndexFunc_LLimit_Limit N x_s x_f = some r) : CallP Tryz.prog 38 [.sl (Ar.lst Encs.eGLimit x_s) .ro, v_f] (.int .i64 r) := by
 unfold slices_IndexFunc_LLimit_Limit at h
 refine callP_of_spec cf38 okP Tryz.func38 (by rfl) (by kernel_rfl) Tryz.call38 Tryz.ntmps38 (by rfl) (by rfl) ?_;intro E H0 K hE hK
 have hO : Own Eq H0 [] H0 := .start stable_eq rfl
 cbv;refine n_ln hE ?_;cbv;obtain ⟨s2, hx, h⟩ := bind_some h;refine n_loopN cf38 hE okP (fun s1 => [(0, .v (.sl (Ar.lst Encs.eGLimit x_s) .ro)), (1, .v (v_f)), (7, .v (.int .i64 (Ar.len x_s))), (8, .v (.int .i64 s1))]) (fun s1 H1 => Own Eq H0 [] H1) (fun x e l H1 => match (generalizing := false) x with | .inl y => e = .exit 0 ∧ l = [] ∧ Own Eq H0 [] H1 | .inr y => e = .ret ∧ l = [(4, .v (.int .i64 y))] ∧ Own Eq H0 [] H1) (by kernel_rfl) ?_ hx ?_ hO ?_
 ·intro s1 H o hO h;clear hx;cbv;refine n_br hE h (fun hc h => ?_) (fun hc h => ?_)
  ·cbv;refine n_idx hE Encs.eGLimit_eq h fun x3 h => ?_;cbv;refine n_callF hE (g := fun r4 => .bool r4) h (fun r4 hx => h_f x3 r4 hx) (.refl _) fun r4 h => ?_;cbv;refine n_br hE h (fun hc h => ?_) (fun hc h => ?_)
   ·cbv;have h := ret_some h;subst h;exact ⟨_, _, rfl, ⟨rfl, rfl, hO⟩, .e rfl (.z), rfl⟩
   cbv;have h := ret_some h;subst h;exact ⟨_, rfl, .e rfl (.e rfl (.e rfl (.e rfl (.z)))), rfl, hO⟩
  cbv;have h := ret_some h;subst h;exact ⟨_, _, rfl, ⟨rfl, rfl, hO⟩, .z, rfl⟩
 ·exact .e rfl (.e rfl (.e rfl (.e rfl (.z))))
 clear hx
 rcases s2 with y5 | y6
 ·rintro e l H ⟨rfl, rfl, hO⟩;cbv;have h := ret_some h;subst h;exact hK _ _ _ hO (.refl _)
 rintro e l H ⟨rfl, rfl, hO⟩;cbv;have h := ret_some h;subst h;exact hK _ _ _ hO (.refl _)
def cf19 : Cf := ⟨[], [], [], [], [], []⟩
theorem c19 (N : Nat) (x_s : List GLimit) (v_f : V) (x_f : GLimit → Option Bool) (h_f : ∀ y1 q, x_f y1 = some q → CallVP Tryz.prog v_f [.agg [.int .i64 y1.Scope, .int .i64 y1.Span]] (.bool q)) (r : Bool) (h : slices_ContainsFunc_LLimit_Limit N x_s x_f = some r) : CallP Tryz.prog 19 [.sl (Ar.lst Encs.eGLimit x_s) .ro, v_f] (.bool r) := by
 unfold slices_ContainsFunc_LLimit_Limit at h
 refine callP_of_spec cf19 okP Tryz.func19 (by rfl) (by kernel_rfl) Tryz.call19 Tryz.ntmps19 (by rfl) (by rfl) ?_;intro E H0 K hE hK
 have hO : Own Eq H0 [] H0 := .start stable_eq rfl
 cbv;refine n_call hE (g := fun r1 => .int .i64 r1) h (fun r1 hx => c38 N x_s v_f x_f h_f r1 hx) (.refl _) fun r1 h => ?_;cbv;have h := ret_some h;subst h;exact hK _ _ _ hO (.refl _)
def cf20 : Cf := ⟨[], [], [], [], [], []⟩
theorem c20 (N : Nat) (x_y : GLimit) (x_1 : Int) (r : Bool) (h : law22_DerivativeNests_2 N x_y x_1 = some r) : CallP Tryz.prog 20 [.agg [.int .i64 x_y.Scope, .int .i64 x_y.Span], .eref [.int .i64 x_1] 0] (.bool r) := by
 unfold law22_DerivativeNests_2 at h
 refine callP_of_spec cf20 okP Tryz.func20 (by rfl) (by kernel_rfl) Tryz.call20 Tryz.ntmps20 (by rfl) (by rfl) ?_;intro E H0 K hE hK
 have hO : Own Eq H0 [] H0 := .start stable_eq rfl
 cbv;have h := ret_some h;subst h;exact hK _ _ _ hO (.refl _)
def cfo8 : Cf := ⟨[6000002, 6000003], [], [(11, 7), (19, 10)], [0], [], []⟩
theorem o8 (N : Nat) : ∀ (n : Nat) (x_p : GPattern) (r : (List Int)), law22_open_o N n x_p = some r → CallO Tryz.prog 8 [.agg [.int .i64 x_p.Op, .sl (Ar.lst Encs.eGPattern x_p.Args) .ro, .int .i64 x_p.Typ, .int .i64 x_p.Var, .int .i64 x_p.Scope, .int .i64 x_p.Span, .int .i64 x_p.Cond.Op, .sl (Ar.lst Encs.eGExpr x_p.Cond.Args) .ro, .int .i64 x_p.Cond.Var, .int .i64 x_p.Cond.Field, .int .i64 x_p.Cond.Kind, .int .i64 x_p.Cond.Value.Kind, .int .i64 x_p.Cond.Value.Num, .str x_p.Cond.Value.Text]] 1 (Ar.lst (V.int .i64) r) := by
 intro n
 cases n with
 | zero => intro x_p r h; cases h
 | succ n =>
 intro x_p r h
 unfold law22_open_o at h
 intro H0;refine callO_run (T := TT) (F := H0) cfo8 okP Tryz.func8 (by rfl) (by kernel_rfl) Tryz.call8 Tryz.ntmps8 (by rfl) (by rfl) ?_;intro E K hE hK hN
 have hO : Own Eq H0 [] H0 := .start stable_eq rfl
 cbv;refine n_onil hE (f := (V.int .i64)) hO fun q1 H hq1 hO => ?_;cbv;refine n_onil hE (f := (V.int .i64)) hO fun q2 H hq2 hO => ?_;cbv;obtain ⟨s3, hx, h⟩ := bind_some h;refine n_join cfo8 hE okP (fun e l H1 => match (generalizing := false) s3 with | .inl y => ∃ u1 : OG, Okn u1 (Ar.len y.2) ∧ e = .normal ∧ l = [(3, .v (.own u1.id u1.lo u1.n)), (4, .v (.sl (Ar.lst Encs.eGPattern y.1) .ro))] ∧ Own Eq H0 [.blk u1.id (.arr 1 (u1.pre ++ Ar.lst (V.int .i64) y.2 ++ u1.rest)), .blk q1.id (.arr 1 (q1.pre ++ Ar.lst (V.int .i64) ([] : List Int) ++ q1.rest))] H1 | .inr y => ∃ u1 : OG, Okn u1 (Ar.len y) ∧ e = .ret ∧ l = [(2, .v (.own u1.id u1.lo u1.n))] ∧ Own Eq H0 [.blk u1.id (.arr 1 (u1.pre ++ Ar.lst (V.int .i64) y ++ u1.rest)), .blk q2.id (.arr 1 (q2.pre ++ Ar.lst (V.int .i64) ([] : List Int) ++ q2.rest)), .blk q1.id (.arr 1 (q1.pre ++ Ar.lst (V.int .i64) ([] : List Int) ++ q1.rest))] H1) (by kernel_rfl) ?_ ?_
 ·clear h;have h := hx;clear hx;cbv;obtain ⟨s4, hx, h⟩ := bind_some h;refine n_join cfo8 hE okP (fun e l H1 => e = .normal ∧ l = [(1, .v (.eref [.int .i64 x_p.Op, .sl (Ar.lst Encs.eGPattern x_p.Args) .ro, .int .i64 x_p.Typ, .int .i64 x_p.Var, .int .i64 x_p.Scope, .int .i64 x_p.Span, .int .i64 x_p.Cond.Op, .sl (Ar.lst Encs.eGExpr x_p.Cond.Args) .ro, .int .i64 x_p.Cond.Var, .int .i64 x_p.Cond.Field, .int .i64 x_p.Cond.Kind, .int .i64 x_p.Cond.Value.Kind, .int .i64 x_p.Cond.Value.Num, .str x_p.Cond.Value.Text] 0)), (3, .v (.own q2.id q2.lo q2.n)), (4, .v (.sl (Ar.lst Encs.eGPattern x_p.Args) .ro)), (10, .v (.int .i64 x_p.Op)), (11, .v (.bool s4))] ∧ Own Eq H0 [.blk q2.id (.arr 1 (q2.pre ++ Ar.lst (V.int .i64) ([] : List Int) ++ q2.rest)), .blk q1.id (.arr 1 (q1.pre ++ Ar.lst (V.int .i64) ([] : List Int) ++ q1.rest))] H1) (by kernel_rfl) ?_ ?_
  ·clear h;have h := hx;clear hx;cbv;refine n_br hE h (fun hc h => ?_) (fun hc h => ?_)
   ·cbv;have h := ret_some h;subst h;exact ⟨_, ⟨rfl, rfl, hO⟩, .e rfl (.e rfl (.e rfl (.e rfl (.e rfl (.z))))), rfl⟩
   cbv;have h := ret_some h;subst h;exact ⟨_, ⟨rfl, rfl, hO⟩, .e rfl (.e rfl (.e rfl (.e rfl (.e rfl (.z))))), rfl⟩
  clear hx;rintro e l H ⟨rfl, rfl, hO⟩;cbv;refine n_br hE h (fun hc h => ?_) (fun hc h => ?_)
  ·cbv;refine n_oapp (f := (V.int .i64)) hE (fun _ => rfl) (by decide) hO hq2 0 rfl (m := [x_p.Scope]) (src_sl (f := (V.int .i64)) hE (fun _ => rfl) (.lstc (.refl _) (.lst0))) h fun l6 q5 H hq5 hO h => ?_;cbv;have h := ret_some h;subst h;exact ⟨_, ⟨q5, hq5, rfl, rfl, hO⟩, .e rfl (.e rfl (.z)), rfl⟩
  cbv;obtain ⟨s7, hx, h⟩ := bind_some h;refine n_join cfo8 hE okP (fun e l H1 => e = .normal ∧ l = [(3, .v (.own q2.id q2.lo q2.n)), (4, .v (.sl (Ar.lst Encs.eGPattern x_p.Args) .ro)), (10, .v (.int .i64 x_p.Op)), (19, .v (.bool s7))] ∧ Own Eq H0 [.blk q2.id (.arr 1 (q2.pre ++ Ar.lst (V.int .i64) ([] : List Int) ++ q2.rest)), .blk q1.id (.arr 1 (q1.pre ++ Ar.lst (V.int .i64) ([] : List Int) ++ q1.rest))] H1) (by kernel_rfl) ?_ ?_
  ·clear h;have h := hx;clear hx;cbv;refine n_br hE h (fun hc h => ?_) (fun hc h => ?_)
   ·cbv;have h := ret_some h;subst h;exact ⟨_, ⟨rfl, rfl, hO⟩, .e rfl (.e rfl (.e rfl (.e rfl (.z)))), rfl⟩
   cbv;have h := ret_some h;subst h;exact ⟨_, ⟨rfl, rfl, hO⟩, .e rfl (.e rfl (.e rfl (.e rfl (.z)))), rfl⟩
  clear hx;rintro e l H ⟨rfl, rfl, hO⟩;cbv;refine n_br hE h (fun hc h => ?_) (fun hc h => ?_)
  ·cbv;refine n_slice hE sz_GPattern h fun l8 t9 h => ?_;cbv;have h := ret_some h;subst h;exact ⟨_, ⟨q2, hq2, rfl, rfl, hO⟩, .e rfl (.v (.ro _ _) (.z)), rfl⟩
  cbv;refine n_br hE h (fun hc h => ?_) (fun hc h => ?_)
  ·cbv;have h := ret_some h;subst h;exact ⟨_, ⟨q2, hq2, rfl, rfl, hO⟩, .e rfl (.e rfl (.z)), rfl⟩
  cbv;refine n_br hE h (fun hc h => ?_) (fun hc h => ?_)
  ·cbv;have h := ret_some h;subst h;exact ⟨_, ⟨q2, hq2, rfl, rfl, hO⟩, .e rfl (.e rfl (.z)), rfl⟩
  cbv;refine n_onil hE (f := (V.int .i64)) hO fun q10 H hq10 hO => ?_;cbv;have h := ret_some h;subst h;exact ⟨_, ⟨q10, hq10, rfl, rfl, hO⟩, .e rfl (.z), rfl⟩
 clear hx
 rcases s3 with y11 | y21
 ·rintro e l H ⟨q12, hq12, rfl, rfl, hO⟩;cbv;refine n_ln hE ?_;cbv;obtain ⟨s15, hx, h⟩ := bind_some h;refine n_loopG cfo8 hE okP (γ := OG) (fun s13 g => [(3, .v (.own g.id g.lo g.n)), (27, .v (.sl (Ar.lst Encs.eGPattern y11.1) .ro)), (28, .v (.int .i64 (Ar.len y11.1))), (29, .v (.int .i64 s13.1))]) (fun s13 g H1 => Okn g (Ar.len s13.2) ∧ Own Eq H0 [.blk g.id (.arr 1 (g.pre ++ Ar.lst (V.int .i64) s13.2 ++ g.rest)), .blk q1.id (.arr 1 (q1.pre ++ Ar.lst (V.int .i64) ([] : List Int) ++ q1.rest))] H1) (fun x e l H1 => ∃ u1 : OG, Okn u1 (Ar.len x) ∧ e = .exit 1 ∧ l = [(3, .v (.own u1.id u1.lo u1.n))] ∧ Own Eq H0 [.blk u1.id (.arr 1 (u1.pre ++ Ar.lst (V.int .i64) x ++ u1.rest)), .blk q1.id (.arr 1 (q1.pre ++ Ar.lst (V.int .i64) ([] : List Int) ++ q1.rest))] H1) (by kernel_rfl) ?_ q12 hx ?_ ?_ ?_
  ·rintro s13 q14 H o ⟨hq14, hO⟩ h;clear hx;cbv;refine n_br hE h (fun hc h => ?_) (fun hc h => ?_)
   ·cbv;refine n_idx hE Encs.eGPattern_eq h fun x16 h => ?_;cbv;refine n_call hE (g := fun r17 => .sl (Ar.lst (V.int .i64) r17) .ro) h (fun r17 hx => c8 N n x16 r17 hx) (.refl _) fun r17 h => ?_;cbv;refine n_oapp (f := (V.int .i64)) hE (fun _ => rfl) (by decide) hO hq14 0 rfl (m := r17) (src_sl (f := (V.int .i64)) hE (fun _ => rfl) (.refl _)) h fun l19 q18 H hq18 hO h => ?_;cbv;have h := ret_some h;subst h;exact ⟨_, q18, rfl, .e rfl (.e rfl (.e rfl (.e rfl (.z)))), rfl, hq18, hO⟩
   cbv;have h := ret_some h;subst h;exact ⟨_, _, rfl, ⟨q14, hq14, rfl, rfl, hO⟩, .e rfl (.z), rfl⟩
  ·exact .e rfl (.e rfl (.e rfl (.e rfl (.z))))
  ·exact ⟨hq12, hO⟩
  clear hx;rintro e l H ⟨q20, hq20, rfl, rfl, hO⟩;cbv;have h := ret_some h;subst h;exact hK q20 _ _ (okn_lst hE hq20) (hO)
 rintro e l H ⟨q22, hq22, rfl, rfl, hO⟩;cbv;have h := ret_some h;subst h;exact hK q22 _ _ (okn_lst hE hq22) (hO)
def cf3 : Cf := ⟨[6000019], [], [(120, 29)], [2000017, 2000033], [], []⟩
set_option maxHeartbeats 2000000 in
theorem c3 (N : Nat) (x_p : GPattern) (r : Bool) (h : law22_DerivativeNests N x_p = some r) : CallP Tryz.prog 3 [.agg [.int .i64 x_p.Op, .sl (Ar.lst Encs.eGPattern x_p.Args) .ro, .int .i64 x_p.Typ, .int .i64 x_p.Var, .int .i64 x_p.Scope, .int .i64 x_p.Span, .int .i64 x_p.Cond.Op, .sl (Ar.lst Encs.eGExpr x_p.Cond.Args) .ro, .int .i64 x_p.Cond.Var, .int .i64 x_p.Cond.Field, .int .i64 x_p.Cond.Kind, .int .i64 x_p.Cond.Value.Kind, .int .i64 x_p.Cond.Value.Num, .str x_p.Cond.Value.Text]] (.bool r) := by
 unfold law22_DerivativeNests at h
 refine callP_of_spec cf3 okP Tryz.func3 (by rfl) (by kernel_rfl) Tryz.call3 Tryz.ntmps3 (by rfl) (by rfl) ?_;intro E H0 K hE hK
 have hO : Own Eq H0 [] H0 := .start stable_eq rfl
 cbv;refine n_call hE (g := fun r1 => .bool r1) h (fun r1 hx => c4 N x_p r1 hx) (.refl _) fun r1 h => ?_;cbv;refine n_br hE h (fun hc h => ?_) (fun hc h => ?_)
 ·cbv;refine n_call hE (g := fun r2 => .bool r2) h (fun r2 hx => c6 N  r2 hx) (.refl _) fun r2 h => ?_;cbv;have h := ret_some h;subst h;exact hK _ _ _ hO (.refl _)
 cbv;refine n_call hE (g := fun r3 => .int .i64 r3) h (fun r3 hx => c5 N x_p r3 hx) (.refl _) fun r3 h => ?_;cbv;refine n_br hE h (fun hc h => ?_) (fun hc h => ?_)
 ·cbv;refine n_call hE (g := fun r4 => .bool r4) h (fun r4 hx => c6 N  r4 hx) (.refl _) fun r4 h => ?_;cbv;have h := ret_some h;subst h;exact hK _ _ _ hO (.refl _)
 cbv;refine n_call hE (g := fun r5 => .tup [.sl (Ar.lst Encs.eGPattern r5.1) .ro, .int .i64 r5.2]) h (fun r5 hx => c7 N x_p r5 hx) (.refl _) fun r5 h => ?_;cbv;refine n_ln hE ?_;cbv;refine n_br hE h (fun hc h => ?_) (fun hc h => ?_)
 ·cbv;refine n_br hE h (fun hc h => ?_) (fun hc h => ?_)
  ·cbv;refine n_call hE (g := fun r6 => .bool r6) h (fun r6 hx => c6 N  r6 hx) (.refl _) fun r6 h => ?_;cbv;have h := ret_some h;subst h;exact hK _ _ _ hO (.refl _)
  cbv;have h := ret_some h;subst h;exact hK _ _ _ hO (.refl _)
 cbv;refine n_ln hE ?_;cbv;obtain ⟨s8, hx, h⟩ := bind_some h;refine n_loopN cf3 hE okP (fun s7 => [(52, .v (.sl (Ar.lst Encs.eGPattern r5.1) .ro)), (53, .v (.int .i64 (Ar.len r5.1))), (54, .v (.int .i64 s7))]) (fun s7 H1 => Own Eq H0 [] H1) (fun x e l H1 => match (generalizing := false) x with | .inl y => e = .exit 0 ∧ l = [] ∧ Own Eq H0 [] H1 | .inr y => e = .ret ∧ l = [(2, .b false)] ∧ Own Eq H0 [] H1) (by kernel_rfl) ?_ hx ?_ hO ?_
 ·intro s7 H o hO h;clear hx;cbv;refine n_br hE h (fun hc h => ?_) (fun hc h => ?_)
  ·cbv;refine n_idx hE Encs.eGPattern_eq h fun x9 h => ?_;cbv;refine n_call hE (g := fun r10 => .sl (Ar.lst (V.int .i64) r10) .ro) h (fun r10 hx => c8 N N x9 r10 hx) (.refl _) fun r10 h => ?_;cbv;refine n_call hE (g := fun r11 => .tup [.sl (Ar.lst Encs.eGEdge r11.1) .ro, .sl (Ar.lst Encs.eGPattern r11.2.1) .ro, .int .i64 r11.2.2]) h (fun r11 hx => c9 N x9 r11 hx) (.refl _) fun r11 h => ?_;cbv;refine n_call hE (g := fun r12 => .tup [.sl (Ar.lst Encs.eGGuard r12.1) .ro, .int .i64 r12.2]) h (fun r12 hx => c10 N x9 r12 hx) (.refl _) fun r12 h => ?_;cbv;refine n_br hE h (fun hc h => ?_) (fun hc h => ?_)
   ·cbv;have h := ret_some h;subst h;exact ⟨_, _, rfl, ⟨rfl, rfl, hO⟩, .b rfl (.z), rfl⟩
   cbv;refine n_call hE (g := fun r13 => .bool r13) h (fun r13 hx => c11 N r12.1 (.func (.func 12) [] [.eref [.sl (Ar.lst (V.int .i64) r10) .ro] 0]) (fun y1 => law22_DerivativeNests_1 N y1 r10) (fun y1 r hx => CallP.value (F := []) (C := [.eref [.sl (Ar.lst (V.int .i64) r10) .ro] 0]) (c12 N y1 r10 r hx)) r13 hx) (.refl _) fun r13 h => ?_;cbv;refine n_br hE h (fun hc h => ?_) (fun hc h => ?_)
   ·cbv;have h := ret_some h;subst h;exact ⟨_, _, rfl, ⟨rfl, rfl, hO⟩, .b rfl (.z), rfl⟩
   cbv;refine n_ln hE ?_;cbv;obtain ⟨s15, hx, h⟩ := bind_some h;refine n_loopN cf3 hE okP (fun s14 => [(7, .v (.eref [.sl (Ar.lst (V.int .i64) r10) .ro] 0)), (9, .v (.sl (Ar.lst Encs.eGPattern r11.2.1) .ro)), (52, .v (.sl (Ar.lst Encs.eGPattern r5.1) .ro)), (53, .v (.int .i64 (Ar.len r5.1))), (54, .v (.int .i64 s7)), (82, .v (.sl (Ar.lst Encs.eGEdge r11.1) .ro)), (83, .v (.int .i64 (Ar.len r11.1))), (84, .v (.int .i64 s14))]) (fun s14 H1 => Own Eq H0 [] H1) (fun x e l H1 => match (generalizing := false) x with | .inl y => e = .exit 2 ∧ l = [(52, .v (.sl (Ar.lst Encs.eGPattern r5.1) .ro)), (53, .v (.int .i64 (Ar.len r5.1))), (54, .v (.int .i64 s7))] ∧ Own Eq H0 [] H1 | .inr y => e = .ret ∧ l = [(2, .b false)] ∧ Own Eq H0 [] H1) (by kernel_rfl) ?_ hx ?_ hO ?_
   ·intro s14 H o hO h;clear hx;cbv;refine n_br hE h (fun hc h => ?_) (fun hc h => ?_)
    ·cbv;refine n_idx hE Encs.eGEdge_eq h fun x16 h => ?_;cbv;obtain ⟨s17, hx, h⟩ := bind_some h;refine n_join cf3 hE okP (fun e l H1 => ∃ u1 : OG, Okn u1 (Ar.len s17) ∧ e = .normal ∧ l = [(7, .v (.eref [.sl (Ar.lst (V.int .i64) r10) .ro] 0)), (9, .v (.sl (Ar.lst Encs.eGPattern r11.2.1) .ro)), (14, .v (.eref [.int .i64 x16.From, .int .i64 x16.To, .int .i64 x16.Var, .int .i64 x16.Typ, .int .i64 x16.Cond.Op, .sl (Ar.lst Encs.eGExpr x16.Cond.Args) .ro, .int .i64 x16.Cond.Var, .int .i64 x16.Cond.Field, .int .i64 x16.Cond.Kind, .int .i64 x16.Cond.Value.Kind, .int .i64 x16.Cond.Value.Num, .str x16.Cond.Value.Text, .sl (Ar.lst (V.int .i64) x16.Opens) .ro, .sl (Ar.lst (V.int .i64) x16.Closes) .ro, .sl (Ar.lst Encs.eGExpr x16.Checks) .ro, .sl (Ar.lst Encs.eGLimit x16.Limits) .ro, .sl (Ar.lst (V.int .i64) x16.Inside) .ro] 0)), (15, .v (.own u1.id u1.lo u1.n)), (52, .v (.sl (Ar.lst Encs.eGPattern r5.1) .ro)), (53, .v (.int .i64 (Ar.len r5.1))), (54, .v (.int .i64 s7)), (82, .v (.sl (Ar.lst Encs.eGEdge r11.1) .ro)), (83, .v (.int .i64 (Ar.len r11.1))), (84, .v (.int .i64 s14))] ∧ Own Eq H0 [.blk u1.id (.arr 1 (u1.pre ++ Ar.lst (V.int .i64) s17 ++ u1.rest))] H1) (by kernel_rfl) ?_ ?_
     ·clear h;have h := hx;clear hx;cbv
      repeat' first | refine And.intro ?_ ?_ | (refine n_callO hE (f := (V.int .i64)) h (fun l18 hx => c14 N r10 l18 hx) (.refl _) hO fun l18 q19 H hq19 hO h => ?_; cbv) | (refine n_oapp (f := (V.int .i64)) hE (fun _ => rfl) (by decide) hO hq19 0 rfl (m := x16.Opens) (src_sl (f := (V.int .i64)) hE (fun _ => rfl) (.refl _)) h fun l21 q20 H hq20 hO h => ?_; cbv) | (have h := ret_some h; subst h; exact ⟨_, ⟨q20, hq20, rfl, rfl, hO⟩, .e rfl (.e rfl (.e rfl (.e rfl (.e rfl (.e rfl (.e rfl (.e rfl (.e rfl (.e rfl (.z)))))))))), rfl⟩)
     clear hx;rintro e l H ⟨q22, hq22, rfl, rfl, hO⟩;cbv;refine n_ln hE ?_;cbv;obtain ⟨s25, hx, h⟩ := bind_some h;refine n_loopG cf3 hE okP (γ := OG) (fun s23 g => [(7, .v (.eref [.sl (Ar.lst (V.int .i64) r10) .ro] 0)), (9, .v (.sl (Ar.lst Encs.eGPattern r11.2.1) .ro)), (14, .v (.eref [.int .i64 x16.From, .int .i64 x16.To, .int .i64 x16.Var, .int .i64 x16.Typ, .int .i64 x16.Cond.Op, .sl (Ar.lst Encs.eGExpr x16.Cond.Args) .ro, .int .i64 x16.Cond.Var, .int .i64 x16.Cond.Field, .int .i64 x16.Cond.Kind, .int .i64 x16.Cond.Value.Kind, .int .i64 x16.Cond.Value.Num, .str x16.Cond.Value.Text, .sl (Ar.lst (V.int .i64) x16.Opens) .ro, .sl (Ar.lst (V.int .i64) x16.Closes) .ro, .sl (Ar.lst Encs.eGExpr x16.Checks) .ro, .sl (Ar.lst Encs.eGLimit x16.Limits) .ro, .sl (Ar.lst (V.int .i64) x16.Inside) .ro] 0)), (15, .v (.own g.id g.lo g.n)), (52, .v (.sl (Ar.lst Encs.eGPattern r5.1) .ro)), (53, .v (.int .i64 (Ar.len r5.1))), (54, .v (.int .i64 s7)), (82, .v (.sl (Ar.lst Encs.eGEdge r11.1) .ro)), (83, .v (.int .i64 (Ar.len r11.1))), (84, .v (.int .i64 s14)), (94, .v (.sl (Ar.lst (V.int .i64) x16.Closes) .ro)), (95, .v (.int .i64 (Ar.len x16.Closes))), (96, .v (.int .i64 s23.1))]) (fun s23 g H1 => Okn g (Ar.len s23.2) ∧ Own Eq H0 [.blk g.id (.arr 1 (g.pre ++ Ar.lst (V.int .i64) s23.2 ++ g.rest))] H1) (fun x e l H1 => match (generalizing := false) x with | .inl y => ∃ u1 : OG, Okn u1 (Ar.len y) ∧ e = .exit 4 ∧ l = [(7, .v (.eref [.sl (Ar.lst (V.int .i64) r10) .ro] 0)), (9, .v (.sl (Ar.lst Encs.eGPattern r11.2.1) .ro)), (14, .v (.eref [.int .i64 x16.From, .int .i64 x16.To, .int .i64 x16.Var, .int .i64 x16.Typ, .int .i64 x16.Cond.Op, .sl (Ar.lst Encs.eGExpr x16.Cond.Args) .ro, .int .i64 x16.Cond.Var, .int .i64 x16.Cond.Field, .int .i64 x16.Cond.Kind, .int .i64 x16.Cond.Value.Kind, .int .i64 x16.Cond.Value.Num, .str x16.Cond.Value.Text, .sl (Ar.lst (V.int .i64) x16.Opens) .ro, .sl (Ar.lst (V.int .i64) x16.Closes) .ro, .sl (Ar.lst Encs.eGExpr x16.Checks) .ro, .sl (Ar.lst Encs.eGLimit x16.Limits) .ro, .sl (Ar.lst (V.int .i64) x16.Inside) .ro] 0)), (15, .v (.own u1.id u1.lo u1.n)), (52, .v (.sl (Ar.lst Encs.eGPattern r5.1) .ro)), (53, .v (.int .i64 (Ar.len r5.1))), (54, .v (.int .i64 s7)), (82, .v (.sl (Ar.lst Encs.eGEdge r11.1) .ro)), (83, .v (.int .i64 (Ar.len r11.1))), (84, .v (.int .i64 s14))] ∧ Own Eq H0 [.blk u1.id (.arr 1 (u1.pre ++ Ar.lst (V.int .i64) y ++ u1.rest))] H1 | .inr y => ∃ u1 : OG, Okn u1 (Ar.len y) ∧ e = .ret ∧ l = [(2, .b false)] ∧ Own Eq H0 [.blk u1.id (.arr 1 (u1.pre ++ Ar.lst (V.int .i64) y ++ u1.rest))] H1) (by kernel_rfl) ?_ q22 hx ?_ ?_ ?_
     ·rintro s23 q24 H o ⟨hq24, hO⟩ h;clear hx;cbv;refine n_br hE h (fun hc h => ?_) (fun hc h => ?_)
      ·cbv;refine n_idx hE (fun _ => rfl) h fun x26 h => ?_;cbv;refine n_callB hE (g := fun r27 => .int .i64 r27) h (fun r27 hx => c15 N s23.2 x26 r27 hx) (fun _ => .int _ _) (lend_own hE hO hq24 0 rfl (.le (.refl _) (.nil))) fun r27 h => ?_;cbv;refine n_br hE h (fun hc h => ?_) (fun hc h => ?_)
       ·cbv;have h := ret_some h;subst h;exact ⟨_, _, rfl, ⟨q24, hq24, rfl, rfl, hO⟩, .b rfl (.z), rfl⟩
       cbv;refine n_callOO hE (f := (V.int .i64)) hO hq24 0 rfl h (fun l28 hx => c16 N s23.2 r27 (Ar.ar .add .i64 r27 1) l28 hx) (.refl _) fun l28 q29 H hq29 hO h => ?_;cbv;have h := ret_some h;subst h;exact ⟨_, q29, rfl, .e rfl (.e rfl (.e rfl (.e rfl (.e rfl (.e rfl (.e rfl (.e rfl (.e rfl (.e rfl (.e rfl (.e rfl (.e rfl (.z))))))))))))), rfl, hq29, hO⟩
      cbv;have h := ret_some h;subst h;exact ⟨_, _, rfl, ⟨q24, hq24, rfl, rfl, hO⟩, .e rfl (.e rfl (.e rfl (.e rfl (.e rfl (.e rfl (.e rfl (.e rfl (.e rfl (.e rfl (.z)))))))))), rfl⟩
     ·exact .e rfl (.e rfl (.e rfl (.e rfl (.e rfl (.e rfl (.e rfl (.e rfl (.e rfl (.e rfl (.e rfl (.e rfl (.e rfl (.z)))))))))))))
     ·exact ⟨hq22, hO⟩
     clear hx
     rcases s25 with y30 | y54
     ·rintro e l H ⟨q31, hq31, rfl, rfl, hO⟩;cbv;refine n_onil hE (f := (V.int .i64)) hO fun q32 H hq32 hO => ?_;cbv;refine n_ln hE ?_;cbv;obtain ⟨s33, hx, h⟩ := bind_some h;refine n_join cf3 hE okP (fun e l H1 => ∃ u1 : OG, Okn u1 (Ar.len s33) ∧ e = .normal ∧ l = [(7, .v (.eref [.sl (Ar.lst (V.int .i64) r10) .ro] 0)), (9, .v (.sl (Ar.lst Encs.eGPattern r11.2.1) .ro)), (14, .v (.eref [.int .i64 x16.From, .int .i64 x16.To, .int .i64 x16.Var, .int .i64 x16.Typ, .int .i64 x16.Cond.Op, .sl (Ar.lst Encs.eGExpr x16.Cond.Args) .ro, .int .i64 x16.Cond.Var, .int .i64 x16.Cond.Field, .int .i64 x16.Cond.Kind, .int .i64 x16.Cond.Value.Kind, .int .i64 x16.Cond.Value.Num, .str x16.Cond.Value.Text, .sl (Ar.lst (V.int .i64) x16.Opens) .ro, .sl (Ar.lst (V.int .i64) x16.Closes) .ro, .sl (Ar.lst Encs.eGExpr x16.Checks) .ro, .sl (Ar.lst Encs.eGLimit x16.Limits) .ro, .sl (Ar.lst (V.int .i64) x16.Inside) .ro] 0)), (15, .v (.own q31.id q31.lo q31.n)), (19, .v (.own u1.id u1.lo u1.n)), (52, .v (.sl (Ar.lst Encs.eGPattern r5.1) .ro)), (53, .v (.int .i64 (Ar.len r5.1))), (54, .v (.int .i64 s7)), (82, .v (.sl (Ar.lst Encs.eGEdge r11.1) .ro)), (83, .v (.int .i64 (Ar.len r11.1))), (84, .v (.int .i64 s14))] ∧ Own Eq H0 [.blk u1.id (.arr 1 (u1.pre ++ Ar.lst (V.int .i64) s33 ++ u1.rest)), .blk q31.id (.arr 1 (q31.pre ++ Ar.lst (V.int .i64) y30 ++ q31.rest))] H1) (by kernel_rfl) ?_ ?_
      ·clear h;have h := hx;clear hx;cbv;refine n_br hE h (fun hc h => ?_) (fun hc h => ?_)
       ·cbv;refine n_idx hE Encs.eGPattern_eq h fun x34 h => ?_;cbv;refine n_callO hE (f := (V.int .i64)) h (fun l35 hx => o8 N N x34 l35 hx) (.refl _) hO fun l35 q36 H hq36 hO h => ?_;cbv
        have hO : Own Eq H0 [.blk q32.id (.arr 1 (q32.pre ++ Ar.lst (V.int .i64) ([] : List Int) ++ q32.rest)), .blk q36.id (.arr 1 (q36.pre ++ Ar.lst (V.int .i64) l35 ++ q36.rest)), .blk q31.id (.arr 1 (q31.pre ++ Ar.lst (V.int .i64) y30 ++ q31.rest))] H := hO.swp 0 1 rfl rfl
        have h := ret_some h;subst h;exact ⟨_, ⟨q36, hq36, rfl, rfl, hO.tail⟩, .e rfl (.e rfl (.e rfl (.e rfl (.e rfl (.e rfl (.e rfl (.e rfl (.e rfl (.e rfl (.e rfl (.z))))))))))), rfl⟩
       cbv;have h := ret_some h;subst h;exact ⟨_, ⟨q32, hq32, rfl, rfl, hO⟩, .e rfl (.e rfl (.e rfl (.e rfl (.e rfl (.e rfl (.e rfl (.e rfl (.e rfl (.e rfl (.e rfl (.z))))))))))), rfl⟩
      clear hx;rintro e l H ⟨q37, hq37, rfl, rfl, hO⟩;cbv;refine n_callS hE hO hq31 1 rfl h (fun l38 hx => c17 N y30 l38 hx) fun l38 H hq31 hO h => ?_;cbv;refine n_callS hE hO hq37 0 rfl h (fun l39 hx => c17 N s33 l39 hx) fun l39 H hq37 hO h => ?_;cbv;refine n_callB hE (g := fun r40 => .bool r40) h (fun r40 hx => c18 N l38 l39 r40 hx) (fun _ => .bool _) (lend_own hE hO hq31 1 rfl (lend_own hE hO hq37 0 rfl (.nil))) fun r40 h => ?_;cbv;refine n_br hE h (fun hc h => ?_) (fun hc h => ?_)
      ·cbv;have h := ret_some h;subst h;exact ⟨_, _, rfl, ⟨rfl, rfl, hO.tail.tail⟩, .b rfl (.z), rfl⟩
      cbv;obtain ⟨s41, hx, h⟩ := bind_some h;refine n_join cf3 hE okP (fun e l H1 => ∃ u1 : OG, Okn u1 (Ar.len s41.2) ∧ e = .normal ∧ l = [(7, .v (.eref [.sl (Ar.lst (V.int .i64) r10) .ro] 0)), (9, .v (.sl (Ar.lst Encs.eGPattern r11.2.1) .ro)), (14, .v (.eref [.int .i64 x16.From, .int .i64 x16.To, .int .i64 x16.Var, .int .i64 x16.Typ, .int .i64 x16.Cond.Op, .sl (Ar.lst Encs.eGExpr x16.Cond.Args) .ro, .int .i64 x16.Cond.Var, .int .i64 x16.Cond.Field, .int .i64 x16.Cond.Kind, .int .i64 x16.Cond.Value.Kind, .int .i64 x16.Cond.Value.Num, .str x16.Cond.Value.Text, .sl (Ar.lst (V.int .i64) x16.Opens) .ro, .sl (Ar.lst (V.int .i64) x16.Closes) .ro, .sl (Ar.lst Encs.eGExpr x16.Checks) .ro, .sl (Ar.lst Encs.eGLimit x16.Limits) .ro, .sl (Ar.lst (V.int .i64) x16.Inside) .ro] 0)), (52, .v (.sl (Ar.lst Encs.eGPattern r5.1) .ro)), (53, .v (.int .i64 (Ar.len r5.1))), (54, .v (.int .i64 s7)), (82, .v (.sl (Ar.lst Encs.eGEdge r11.1) .ro)), (83, .v (.int .i64 (Ar.len r11.1))), (84, .v (.int .i64 s14)), (140, .v (.own u1.id u1.lo u1.n)), (141, .v (.int .i64 s41.1)), (142, .v (.int .i64 0))] ∧ Own Eq H0 [.blk u1.id (.arr 1 (u1.pre ++ Ar.lst (V.int .i64) s41.2 ++ u1.rest)), .blk q37.id (.arr 1 (q37.pre ++ Ar.lst (V.int .i64) l39 ++ q37.rest)), .blk q31.id (.arr 1 (q31.pre ++ Ar.lst (V.int .i64) l38 ++ q31.rest))] H1) (by kernel_rfl) ?_ ?_
      ·clear h;have h := hx;clear hx;cbv
       repeat' first | refine And.intro ?_ ?_ | (refine n_callO hE (f := (V.int .i64)) h (fun l42 hx => c14 N x16.Opens l42 hx) (.refl _) hO fun l42 q43 H hq43 hO h => ?_; cbv) | (refine n_oapp (f := (V.int .i64)) hE (fun _ => rfl) (by decide) hO hq43 0 rfl (m := x16.Closes) (src_sl (f := (V.int .i64)) hE (fun _ => rfl) (.refl _)) h fun l45 q44 H hq44 hO h => ?_; cbv) | (refine n_olen hE hq44 ?_; cbv) | (have h := ret_some h; subst h; exact ⟨_, ⟨q44, hq44, rfl, rfl, hO⟩, .e rfl (.e rfl (.e rfl (.e rfl (.e rfl (.e rfl (.e rfl (.e rfl (.e rfl (.e rfl (.e rfl (.e rfl (.z)))))))))))), rfl⟩)
      clear hx;rintro e l H ⟨q46, hq46, rfl, rfl, hO⟩;cbv;obtain ⟨s48, hx, h⟩ := bind_some h;refine n_loopN cf3 hE okP (fun s47 => [(7, .v (.eref [.sl (Ar.lst (V.int .i64) r10) .ro] 0)), (9, .v (.sl (Ar.lst Encs.eGPattern r11.2.1) .ro)), (14, .v (.eref [.int .i64 x16.From, .int .i64 x16.To, .int .i64 x16.Var, .int .i64 x16.Typ, .int .i64 x16.Cond.Op, .sl (Ar.lst Encs.eGExpr x16.Cond.Args) .ro, .int .i64 x16.Cond.Var, .int .i64 x16.Cond.Field, .int .i64 x16.Cond.Kind, .int .i64 x16.Cond.Value.Kind, .int .i64 x16.Cond.Value.Num, .str x16.Cond.Value.Text, .sl (Ar.lst (V.int .i64) x16.Opens) .ro, .sl (Ar.lst (V.int .i64) x16.Closes) .ro, .sl (Ar.lst Encs.eGExpr x16.Checks) .ro, .sl (Ar.lst Encs.eGLimit x16.Limits) .ro, .sl (Ar.lst (V.int .i64) x16.Inside) .ro] 0)), (52, .v (.sl (Ar.lst Encs.eGPattern r5.1) .ro)), (53, .v (.int .i64 (Ar.len r5.1))), (54, .v (.int .i64 s7)), (82, .v (.sl (Ar.lst Encs.eGEdge r11.1) .ro)), (83, .v (.int .i64 (Ar.len r11.1))), (84, .v (.int .i64 s14)), (140, .v (.own q46.id q46.lo q46.n)), (141, .v (.int .i64 s41.1)), (142, .v (.int .i64 s47))]) (fun s47 H1 => Own Eq H0 [.blk q46.id (.arr 1 (q46.pre ++ Ar.lst (V.int .i64) s41.2 ++ q46.rest)), .blk q37.id (.arr 1 (q37.pre ++ Ar.lst (V.int .i64) l39 ++ q37.rest)), .blk q31.id (.arr 1 (q31.pre ++ Ar.lst (V.int .i64) l38 ++ q31.rest))] H1) (fun x e l H1 => match (generalizing := false) x with | .inl y => e = .exit 6 ∧ l = [(7, .v (.eref [.sl (Ar.lst (V.int .i64) r10) .ro] 0)), (9, .v (.sl (Ar.lst Encs.eGPattern r11.2.1) .ro)), (52, .v (.sl (Ar.lst Encs.eGPattern r5.1) .ro)), (53, .v (.int .i64 (Ar.len r5.1))), (54, .v (.int .i64 s7)), (82, .v (.sl (Ar.lst Encs.eGEdge r11.1) .ro)), (83, .v (.int .i64 (Ar.len r11.1))), (84, .v (.int .i64 s14))] ∧ Own Eq H0 [.blk q46.id (.arr 1 (q46.pre ++ Ar.lst (V.int .i64) s41.2 ++ q46.rest)), .blk q37.id (.arr 1 (q37.pre ++ Ar.lst (V.int .i64) l39 ++ q37.rest)), .blk q31.id (.arr 1 (q31.pre ++ Ar.lst (V.int .i64) l38 ++ q31.rest))] H1 | .inr y => e = .ret ∧ l = [(2, .b false)] ∧ Own Eq H0 [.blk q46.id (.arr 1 (q46.pre ++ Ar.lst (V.int .i64) s41.2 ++ q46.rest)), .blk q37.id (.arr 1 (q37.pre ++ Ar.lst (V.int .i64) l39 ++ q37.rest)), .blk q31.id (.arr 1 (q31.pre ++ Ar.lst (V.int .i64) l38 ++ q31.rest))] H1) (by kernel_rfl) ?_ hx ?_ hO ?_
      ·intro s47 H o hO h;clear hx;cbv;refine n_br hE h (fun hc h => ?_) (fun hc h => ?_)
       ·cbv;refine n_oidx hE hO hq46 0 rfl h fun h => ?_;cbv;refine n_oload hE (fun _ => rfl) hO hq46 0 rfl h fun x49 h => ?_;cbv;refine n_call hE (g := fun r50 => .bool r50) h (fun r50 hx => c13 N x16.Inside x49 r50 hx) (.refl _) fun r50 h => ?_;cbv;refine n_br hE h (fun hc h => ?_) (fun hc h => ?_)
        ·cbv;refine n_call hE (g := fun r51 => .bool r51) h (fun r51 hx => c19 N x16.Limits (.func (.func 20) [] [.eref [.int .i64 x49] 0]) (fun y1 => law22_DerivativeNests_2 N y1 x49) (fun y1 r hx => CallP.value (F := []) (C := [.eref [.int .i64 x49] 0]) (c20 N y1 x49 r hx)) r51 hx) (.refl _) fun r51 h => ?_;cbv;refine n_br hE h (fun hc h => ?_) (fun hc h => ?_)
         ·cbv;have h := ret_some h;subst h;exact ⟨_, _, rfl, ⟨rfl, rfl, hO⟩, .b rfl (.z), rfl⟩
         cbv;have h := ret_some h;subst h;exact ⟨_, rfl, .e rfl (.e rfl (.e rfl (.e rfl (.e rfl (.e rfl (.e rfl (.e rfl (.e rfl (.e rfl (.e rfl (.e rfl (.z)))))))))))), rfl, hO⟩
        cbv;have h := ret_some h;subst h;exact ⟨_, rfl, .e rfl (.e rfl (.e rfl (.e rfl (.e rfl (.e rfl (.e rfl (.e rfl (.e rfl (.e rfl (.e rfl (.e rfl (.z)))))))))))), rfl, hO⟩
       cbv;have h := ret_some h;subst h;exact ⟨_, _, rfl, ⟨rfl, rfl, hO⟩, .e rfl (.e rfl (.e rfl (.e rfl (.e rfl (.e rfl (.e rfl (.e rfl (.z)))))))), rfl⟩
      ·exact .e rfl (.e rfl (.e rfl (.e rfl (.e rfl (.e rfl (.e rfl (.e rfl (.e rfl (.e rfl (.e rfl (.e rfl (.z))))))))))))
      clear hx
      rcases s48 with y52 | y53
      ·rintro e l H ⟨rfl, rfl, hO⟩;cbv;have h := ret_some h;subst h;exact ⟨_, rfl, .e rfl (.e rfl (.e rfl (.e rfl (.e rfl (.e rfl (.e rfl (.e rfl (.z)))))))), rfl, hO.tail.tail.tail⟩
      rintro e l H ⟨rfl, rfl, hO⟩;cbv;have h := ret_some h;subst h;exact ⟨_, _, rfl, ⟨rfl, rfl, hO.tail.tail.tail⟩, .b rfl (.z), rfl⟩
     rintro e l H ⟨q55, hq55, rfl, rfl, hO⟩;cbv;have h := ret_some h;subst h;exact ⟨_, _, rfl, ⟨rfl, rfl, hO.tail⟩, .b rfl (.z), rfl⟩
    cbv;have h := ret_some h;subst h;exact ⟨_, _, rfl, ⟨rfl, rfl, hO⟩, .e rfl (.e rfl (.e rfl (.z))), rfl⟩
   ·exact .e rfl (.e rfl (.e rfl (.e rfl (.e rfl (.e rfl (.e rfl (.e rfl (.z))))))))
   clear hx
   rcases s15 with y56 | y57
   ·rintro e l H ⟨rfl, rfl, hO⟩;cbv;have h := ret_some h;subst h;exact ⟨_, rfl, .e rfl (.e rfl (.e rfl (.z))), rfl, hO⟩
   rintro e l H ⟨rfl, rfl, hO⟩;cbv;have h := ret_some h;subst h;exact ⟨_, _, rfl, ⟨rfl, rfl, hO⟩, .b rfl (.z), rfl⟩
  cbv;have h := ret_some h;subst h;exact ⟨_, _, rfl, ⟨rfl, rfl, hO⟩, .z, rfl⟩
 ·exact .e rfl (.e rfl (.e rfl (.z)))
 clear hx
 rcases s8 with y58 | y60
 ·rintro e l H ⟨rfl, rfl, hO⟩;cbv;refine n_call hE (g := fun r59 => .bool r59) h (fun r59 hx => c6 N  r59 hx) (.refl _) fun r59 h => ?_;cbv;have h := ret_some h;subst h;exact hK _ _ _ hO (.refl _)
 rintro e l H ⟨rfl, rfl, hO⟩;cbv;have h := ret_some h;subst h;exact hK _ _ _ hO (.refl _)
end Go.Ab

