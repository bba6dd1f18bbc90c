/- GCCo4 -/
import Derived.Test.YtpapabjndpgcnaaGreatDoorT29
set_option linter.all false

namespace Go.Ab
open Go.RowKit Go.Proofs
variable [Ar] [Encs]
set_option maxRecDepth 100000
def cf7 : Cf := ⟨[], [], [], [], [], []⟩
theorem c7 (N : Nat) (x_p : GPattern) (r : ((List GPattern) × Int)) (h : derivative_Residuals N x_p = some r) : CallP Tryz.prog 7 [.agg [.int .i64 x_p.Op, .sl (Ar.lst Encs.eGPattern x_p.Args) .ro, .int .i64 x_p.Typ, .int .i64 x_p.Var, .int .i64 x_p.Scope, .int .i64 x_p.Span, .int .i64 x_p.Cond.Op, .sl (Ar.lst Encs.eGExpr x_p.Cond.Args) .ro, .int .i64 x_p.Cond.Var, .int .i64 x_p.Cond.Field, .int .i64 x_p.Cond.Kind, .int .i64 x_p.Cond.Value.Kind, .int .i64 x_p.Cond.Value.Num, .str x_p.Cond.Value.Text]] (.tup [.sl (Ar.lst Encs.eGPattern r.1) .ro, .int .i64 r.2]) := by
 unfold derivative_Residuals at h
 refine callP_of_spec cf7 okP Tryz.func7 (by rfl) (by kernel_rfl) Tryz.call7 Tryz.ntmps7 (by rfl) (by rfl) ?_;intro E H0 K hE hK
 have hO : Own Eq H0 [] H0 := .start stable_eq rfl
 cbv;refine n_call hE (g := fun r1 => .int .i64 r1) h (fun r1 hx => c5 N x_p r1 hx) (.refl _) fun r1 h => ?_;cbv;refine n_br hE h (fun hc h => ?_) (fun hc h => ?_)
 ·cbv;have h := ret_some h;subst h;exact hK _ _ _ hO (.tup (.cons (.lit _ (lst_nil)) (.refl _)))
 ·cbv;replace hO := hO.tl0 (t := .full) rfl;obtain ⟨s4, hx, h⟩ := bind_some h;refine n_loopG cf7 hE okP (γ := Tail) (fun s2 g => [(5, .v (.sl (Ar.lst Encs.eGPattern s2.1) g)), (6, .v (.int .i64 s2.2))]) (fun s2 g H1 => Appn g ∧ Own Eq H0 [.tl g] H1) (fun x e l H1 => match (generalizing := false) x with | .inl y => ∃ u1 : Tail, Appn u1 ∧ e = .exit 0 ∧ l = [(5, .v (.sl (Ar.lst Encs.eGPattern y) u1))] ∧ Own Eq H0 [.tl u1] H1 | .inr y => ∃ u1 : Tail, Appn u1 ∧ e = .ret ∧ l = [(2, .v (.sl [] .nil)), (3, .v (.int .i64 y))] ∧ Own Eq H0 [.tl u1] H1) (by kernel_rfl) ?_ .full hx ?_ ?_ ?_
  ·rintro s2 t3 H o ⟨ht3, hO⟩ h;clear hx;cbv;refine n_ln hE ?_;cbv;refine n_br hE h (fun hc h => ?_) (fun hc h => ?_)
   ·cbv;refine n_idx hE Encs.eGPattern_eq h fun x5 h => ?_;cbv;refine n_call hE (g := fun r6 => .tup [.sl (Ar.lst Encs.eGEdge r6.1) .ro, .sl (Ar.lst Encs.eGPattern r6.2.1) .ro, .int .i64 r6.2.2]) h (fun r6 hx => c28 N x5 r6 hx) (.refl _) fun r6 h => ?_;cbv;refine n_br hE h (fun hc h => ?_) (fun hc h => ?_)
    ·cbv;have h := ret_some h;subst h;exact ⟨_, _, rfl, ⟨t3, ht3, rfl, rfl, hO⟩, .e rfl (.e rfl (.z)), rfl⟩
    ·cbv;refine n_ln hE ?_;cbv;obtain ⟨s9, hx, h⟩ := bind_some h;refine n_loopG cf7 hE okP (γ := Tail) (fun s7 g => [(5, .v (.sl (Ar.lst Encs.eGPattern s7.1) g)), (6, .v (.int .i64 s2.2)), (37, .v (.sl (Ar.lst Encs.eGPattern r6.2.1) .ro)), (38, .v (.int .i64 (Ar.len r6.2.1))), (39, .v (.int .i64 s7.2))]) (fun s7 g H1 => Appn g ∧ Own Eq H0 [.tl g] H1) (fun x e l H1 => ∃ u1 : Tail, Appn u1 ∧ e = .exit 2 ∧ l = [(5, .v (.sl (Ar.lst Encs.eGPattern x) u1)), (6, .v (.int .i64 s2.2))] ∧ Own Eq H0 [.tl u1] H1) (by kernel_rfl) ?_ t3 hx ?_ ?_ ?_
     ·rintro s7 t8 H o ⟨ht8, hO⟩ h;clear hx;cbv;refine n_br hE h (fun hc h => ?_) (fun hc h => ?_)
      ·cbv;refine n_idx hE Encs.eGPattern_eq h fun x10 h => ?_;cbv;refine n_call hE (g := fun r11 => .int .i64 r11) h (fun r11 hx => c29 N s7.1 x10 r11 hx) (.cons (.ro _ _) (.refl _)) fun r11 h => ?_;cbv;refine n_br hE h (fun hc h => ?_) (fun hc h => ?_)
       ·cbv;refine n_appn (f := Encs.eGPattern) hE sz_GPattern (by decide) hO 0 rfl ht8 (l := s7.1) (m := [x10]) (.refl _) (.lstc (.eq (Encs.eGPattern_eq x10) (.refl _)) (.lst0)) h fun l13 t12 H hO ht12 h => ?_;cbv;have h := ret_some h;subst h;exact ⟨_, t12, rfl, .e rfl (.e rfl (.e rfl (.e rfl (.e rfl (.z))))), rfl, ht12, hO⟩
       ·cbv;have h := ret_some h;subst h;exact ⟨_, t8, rfl, .e rfl (.e rfl (.e rfl (.e rfl (.e rfl (.z))))), rfl, ht8, hO⟩
      ·cbv;have h := ret_some h;subst h;exact ⟨_, _, rfl, ⟨t8, ht8, rfl, rfl, hO⟩, .e rfl (.e rfl (.z)), rfl⟩
     ·exact .e rfl (.e rfl (.e rfl (.e rfl (.e rfl (.z)))))
     ·exact ⟨ht3, hO⟩
     ·clear hx;rintro e l H ⟨t14, ht14, rfl, rfl, hO⟩;cbv;refine n_ln hE ?_;cbv;refine n_br hE h (fun hc h => ?_) (fun hc h => ?_)
      ·cbv;have h := ret_some h;subst h;exact ⟨_, _, rfl, ⟨t14, ht14, rfl, rfl, hO⟩, .e rfl (.e rfl (.z)), rfl⟩
      ·cbv;have h := ret_some h;subst h;exact ⟨_, t14, rfl, .e rfl (.e rfl (.z)), rfl, ht14, hO⟩
   ·cbv;have h := ret_some h;subst h;exact ⟨_, _, rfl, ⟨t3, ht3, rfl, rfl, hO⟩, .e rfl (.z), rfl⟩
  ·exact .v (.slt _ (.lstc (.eq (Encs.eGPattern_eq x_p) (.refl _)) (.lst0))) (.e rfl (.z))
  ·exact ⟨trivial, hO⟩
  ·clear hx
   rcases s4 with y15 | y17
   ·rintro e l H ⟨t16, ht16, rfl, rfl, hO⟩;cbv;have h := ret_some h;subst h;exact hK _ _ _ hO (.tup (.cons (.ro _ _) (.refl _)))
   ·rintro e l H ⟨t18, ht18, rfl, rfl, hO⟩;cbv;have h := ret_some h;subst h;exact hK _ _ _ hO (.tup (.cons (.lit _ (lst_nil)) (.refl _)))
def cf10 : Cf := ⟨[], [], [], [], [], []⟩
theorem c10 (N : Nat) (x_p : GPattern) (r : ((List GEdge) × (List GPattern) × Int)) (h : derivative_Derive N x_p = some r) : CallP Tryz.prog 10 [.agg [.int .i64 x_p.Op, .sl (Ar.lst Encs.eGPattern x_p.Args) .ro, .int .i64 x_p.Typ, .int .i64 x_p.Var, .int .i64 x_p.Scope, .int .i64 x_p.Span, .int .i64 x_p.Cond.Op, .sl (Ar.lst Encs.eGExpr x_p.Cond.Args) .ro, .int .i64 x_p.Cond.Var, .int .i64 x_p.Cond.Field, .int .i64 x_p.Cond.Kind, .int .i64 x_p.Cond.Value.Kind, .int .i64 x_p.Cond.Value.Num, .str x_p.Cond.Value.Text]] (.tup [.sl (Ar.lst Encs.eGEdge r.1) .ro, .sl (Ar.lst Encs.eGPattern r.2.1) .ro, .int .i64 r.2.2]) := by
 unfold derivative_Derive at h
 refine callP_of_spec cf10 okP Tryz.func10 (by rfl) (by kernel_rfl) Tryz.call10 Tryz.ntmps10 (by rfl) (by rfl) ?_;intro E H0 K hE hK
 have hO : Own Eq H0 [] H0 := .start stable_eq rfl
 cbv;refine n_call hE (g := fun r1 => .int .i64 r1) h (fun r1 hx => c11 N x_p r1 hx) (.refl _) fun r1 h => ?_;cbv;refine n_br hE h (fun hc h => ?_) (fun hc h => ?_)
 ·cbv;have h := ret_some h;subst h;exact hK _ _ _ hO (.tup (.cons (.lit _ (lst_nil)) (.cons (.lit _ (lst_nil)) (.refl _))))
 ·cbv;refine n_call hE (g := fun r2 => .tup [.sl (Ar.lst Encs.eGEdge r2.1) .ro, .sl (Ar.lst Encs.eGPattern r2.2.1) .ro, .int .i64 r2.2.2]) h (fun r2 hx => c28 N x_p r2 hx) (.refl _) fun r2 h => ?_;cbv;have h := ret_some h;subst h;exact hK _ _ _ hO (.refl _)
def cf21 : Cf := ⟨[4], [], [], [], [], []⟩
theorem c21 (N : Nat) (x_op : Int) (x_args : List GPattern) (r : GPattern) (h : law22_node N x_op x_args = some r) : CallP Tryz.prog 21 [.int .i64 x_op, .sl (Ar.lst Encs.eGPattern x_args) .ro] (.agg [.int .i64 r.Op, .sl (Ar.lst Encs.eGPattern r.Args) .ro, .int .i64 r.Typ, .int .i64 r.Var, .int .i64 r.Scope, .int .i64 r.Span, .int .i64 r.Cond.Op, .sl (Ar.lst Encs.eGExpr r.Cond.Args) .ro, .int .i64 r.Cond.Var, .int .i64 r.Cond.Field, .int .i64 r.Cond.Kind, .int .i64 r.Cond.Value.Kind, .int .i64 r.Cond.Value.Num, .str r.Cond.Value.Text]) := by
 unfold law22_node at h
 refine callP_of_spec cf21 okP Tryz.func21 (by rfl) (by kernel_rfl) Tryz.call21 Tryz.ntmps21 (by rfl) (by rfl) ?_;intro E H0 K hE hK
 have hO : Own Eq H0 [] H0 := .start stable_eq rfl
 cbv;refine n_alloc hE hO fun b1 H hO => ?_;cbv;refine n_store hE hO 0 rfl rfl fun H hO => ?_;cbv;refine n_load hE hO 0 rfl ?_;cbv;have h := ret_some h;subst h;exact hK _ _ _ hO (.agg (.cons (.refl _) (.cons (.refl _) (.cons (.refl _) (.cons (.refl _) (.cons (.refl _) (.cons (.refl _) (.cons (.refl _) (.cons (.lit _ (lst_nil)) (.refl _))))))))))
def cf38 : Cf := ⟨[2], [], [], [], [], []⟩
theorem c38 (N : Nat) (x_b : Bool) (r : GValue) (h : ref08_Flag N x_b = some r) : CallP Tryz.prog 38 [.bool x_b] (.agg [.int .i64 r.Kind, .int .i64 r.Num, .str r.Text]) := by
 unfold ref08_Flag at h
 refine callP_of_spec cf38 okP Tryz.func38 (by rfl) (by kernel_rfl) Tryz.call38 Tryz.ntmps38 (by rfl) (by rfl) ?_;intro E H0 K hE hK
 have hO : Own Eq H0 [] H0 := .start stable_eq rfl
 cbv;refine n_alloc hE hO fun b1 H hO => ?_;cbv;refine n_br hE h (fun hc h => ?_) (fun hc h => ?_)
 ·cbv;refine n_store hE hO 0 rfl rfl fun H hO => ?_;cbv;refine n_load hE hO 0 rfl ?_;cbv;have h := ret_some h;subst h;exact hK _ _ _ hO (.refl _)
 ·cbv;refine n_store hE hO 0 rfl rfl fun H hO => ?_;cbv;refine n_load hE hO 0 rfl ?_;cbv;have h := ret_some h;subst h;exact hK _ _ _ hO (.refl _)
def cf23 : Cf := ⟨[0], [], [], [], [], []⟩
theorem c23 (N : Nat) (r : GExpr) (h : law22_truth N  = some r) : CallP Tryz.prog 23 [] (.agg [.int .i64 r.Op, .sl (Ar.lst Encs.eGExpr r.Args) .ro, .int .i64 r.Var, .int .i64 r.Field, .int .i64 r.Kind, .int .i64 r.Value.Kind, .int .i64 r.Value.Num, .str r.Value.Text]) := by
 unfold law22_truth at h
 refine callP_of_spec cf23 okP Tryz.func23 (by rfl) (by kernel_rfl) Tryz.call23 Tryz.ntmps23 (by rfl) (by rfl) ?_;intro E H0 K hE hK
 have hO : Own Eq H0 [] H0 := .start stable_eq rfl
 cbv;refine n_alloc hE hO fun b1 H hO => ?_;cbv;refine n_call hE (g := fun r2 => .agg [.int .i64 r2.Kind, .int .i64 r2.Num, .str r2.Text]) h (fun r2 hx => c38 N true r2 hx) (.refl _) fun r2 h => ?_;cbv;refine n_store hE hO 0 rfl rfl fun H hO => ?_;cbv;refine n_load hE hO 0 rfl ?_;cbv;have h := ret_some h;subst h;exact hK _ _ _ hO (.agg (.cons (.refl _) (.cons (.lit _ (lst_nil)) (.refl _))))
def cf22 : Cf := ⟨[2], [], [], [], [], []⟩
theorem c22 (N : Nat) (x_v : Int) (r : GPattern) (h : law22_event N x_v = some r) : CallP Tryz.prog 22 [.int .i64 x_v] (.agg [.int .i64 r.Op, .sl (Ar.lst Encs.eGPattern r.Args) .ro, .int .i64 r.Typ, .int .i64 r.Var, .int .i64 r.Scope, .int .i64 r.Span, .int .i64 r.Cond.Op, .sl (Ar.lst Encs.eGExpr r.Cond.Args) .ro, .int .i64 r.Cond.Var, .int .i64 r.Cond.Field, .int .i64 r.Cond.Kind, .int .i64 r.Cond.Value.Kind, .int .i64 r.Cond.Value.Num, .str r.Cond.Value.Text]) := by
 unfold law22_event at h
 refine callP_of_spec cf22 okP Tryz.func22 (by rfl) (by kernel_rfl) Tryz.call22 Tryz.ntmps22 (by rfl) (by rfl) ?_;intro E H0 K hE hK
 have hO : Own Eq H0 [] H0 := .start stable_eq rfl
 cbv;refine n_alloc hE hO fun b1 H hO => ?_;cbv;refine n_call hE (g := fun r2 => .agg [.int .i64 r2.Op, .sl (Ar.lst Encs.eGExpr r2.Args) .ro, .int .i64 r2.Var, .int .i64 r2.Field, .int .i64 r2.Kind, .int .i64 r2.Value.Kind, .int .i64 r2.Value.Num, .str r2.Value.Text]) h (fun r2 hx => c23 N  r2 hx) (.refl _) fun r2 h => ?_;cbv;refine n_store hE hO 0 rfl rfl fun H hO => ?_;cbv;refine n_load hE hO 0 rfl ?_;cbv;have h := ret_some h;subst h;exact hK _ _ _ hO (.agg (.cons (.refl _) (.cons (.lit _ (lst_nil)) (.refl _))))
def cf39 : Cf := ⟨[], [], [(8, 5), (51, 17)], [], [], []⟩
theorem c39 (N : Nat) : ∀ (n : Nat) (x_p : GPattern) (r : (List GGuard)), derivative_active N n x_p = some r → CallP Tryz.prog 39 [.agg [.int .i64 x_p.Op, .sl (Ar.lst Encs.eGPattern x_p.Args) .ro, .int .i64 x_p.Typ, .int .i64 x_p.Var, .int .i64 x_p.Scope, .int .i64 x_p.Span, .int .i64 x_p.Cond.Op, .sl (Ar.lst Encs.eGExpr x_p.Cond.Args) .ro, .int .i64 x_p.Cond.Var, .int .i64 x_p.Cond.Field, .int .i64 x_p.Cond.Kind, .int .i64 x_p.Cond.Value.Kind, .int .i64 x_p.Cond.Value.Num, .str x_p.Cond.Value.Text]] (.sl (Ar.lst Encs.eGGuard r) .ro) := by
 intro n
 induction n with
 | zero => intro x_p r h; cases h
 | succ n ih =>
 intro x_p r h
 unfold derivative_active at h
 refine callP_of_spec cf39 okP Tryz.func39 (by rfl) (by kernel_rfl) Tryz.call39 Tryz.ntmps39 (by rfl) (by rfl) ?_;intro E H0 K hE hK
 have hO : Own Eq H0 [] H0 := .start stable_eq rfl
 cbv;obtain ⟨s1, hx, h⟩ := bind_some h;refine n_join cf39 hE okP (fun e l H1 => e = .normal ∧ l = [(1, .v (.eref [.int .i64 x_p.Op, .sl (Ar.lst Encs.eGPattern x_p.Args) .ro, .int .i64 x_p.Typ, .int .i64 x_p.Var, .int .i64 x_p.Scope, .int .i64 x_p.Span, .int .i64 x_p.Cond.Op, .sl (Ar.lst Encs.eGExpr x_p.Cond.Args) .ro, .int .i64 x_p.Cond.Var, .int .i64 x_p.Cond.Field, .int .i64 x_p.Cond.Kind, .int .i64 x_p.Cond.Value.Kind, .int .i64 x_p.Cond.Value.Num, .str x_p.Cond.Value.Text] 0)), (3, .v (.sl [] .nil)), (7, .v (.int .i64 x_p.Op)), (8, .v (.bool s1))] ∧ Own Eq H0 [] H1) (by kernel_rfl) ?_ ?_
 ·clear h;have h := hx;clear hx;cbv;refine n_br hE h (fun hc h => ?_) (fun hc h => ?_)
  ·cbv;have h := ret_some h;subst h;exact ⟨_, ⟨rfl, rfl, hO⟩, .e rfl (.e rfl (.e rfl (.e rfl (.z)))), rfl⟩
  ·cbv;have h := ret_some h;subst h;exact ⟨_, ⟨rfl, rfl, hO⟩, .e rfl (.e rfl (.e rfl (.e rfl (.z)))), rfl⟩
 ·clear hx;rintro e l H ⟨rfl, rfl, hO⟩;cbv;refine n_br hE h (fun hc h => ?_) (fun hc h => ?_)
  ·cbv;refine n_idx hE Encs.eGPattern_eq h fun x2 h => ?_;cbv;refine n_call hE (g := fun r3 => .sl (Ar.lst Encs.eGGuard r3) .ro) h (fun r3 hx => ih x2 r3 hx) (.refl _) fun r3 h => ?_;cbv;have h := ret_some h;subst h;exact hK _ _ _ hO (.refl _)
  ·cbv;refine n_br hE h (fun hc h => ?_) (fun hc h => ?_)
   ·cbv;refine n_ln hE ?_;cbv;replace hO := hO.tl0 (t := .nil) rfl;obtain ⟨s6, hx, h⟩ := bind_some h;refine n_loopG cf39 hE okP (γ := Tail) (fun s4 g => [(3, .v (.sl (Ar.lst Encs.eGGuard s4.1) g)), (19, .v (.sl (Ar.lst Encs.eGPattern x_p.Args) .ro)), (20, .v (.int .i64 (Ar.len x_p.Args))), (21, .v (.int .i64 s4.2))]) (fun s4 g H1 => Appn g ∧ Own Eq H0 [.tl g] H1) (fun x e l H1 => ∃ u1 : Tail, Appn u1 ∧ e = .exit 1 ∧ l = [(3, .v (.sl (Ar.lst Encs.eGGuard x) u1))] ∧ Own Eq H0 [.tl u1] H1) (by kernel_rfl) ?_ .nil hx ?_ ?_ ?_
    ·rintro s4 t5 H o ⟨ht5, hO⟩ h;clear hx;cbv;refine n_br hE h (fun hc h => ?_) (fun hc h => ?_)
     ·cbv;refine n_idx hE Encs.eGPattern_eq h fun x7 h => ?_;cbv;refine n_call hE (g := fun r8 => .sl (Ar.lst Encs.eGGuard r8) .ro) h (fun r8 hx => ih x7 r8 hx) (.refl _) fun r8 h => ?_;cbv;refine n_appn (f := Encs.eGGuard) hE sz_GGuard (by decide) hO 0 rfl ht5 (l := s4.1) (m := r8) (.refl _) (.refl _) h fun l10 t9 H hO ht9 h => ?_;cbv;have h := ret_some h;subst h;exact ⟨_, t9, rfl, .e rfl (.e rfl (.e rfl (.e rfl (.z)))), rfl, ht9, hO⟩
     ·cbv;have h := ret_some h;subst h;exact ⟨_, _, rfl, ⟨t5, ht5, rfl, rfl, hO⟩, .e rfl (.z), rfl⟩
    ·exact .v (.slt _ (.lst0)) (.e rfl (.e rfl (.e rfl (.z))))
    ·exact ⟨trivial, hO⟩
    ·clear hx;rintro e l H ⟨t11, ht11, rfl, rfl, hO⟩;cbv;have h := ret_some h;subst h;exact hK _ _ _ hO (.ro _ _)
   ·cbv;refine n_br hE h (fun hc h => ?_) (fun hc h => ?_)
    ·cbv;refine n_appn (f := Encs.eGGuard) hE sz_GGuard (by decide) (hO.tl0 (t := .nil) rfl) 0 rfl trivial (l := []) (m := [(⟨x_p.Scope, x_p.Typ, x_p.Var, x_p.Cond⟩ : GGuard)]) (.lst0) (.lstc (.eq (Encs.eGGuard_eq (⟨x_p.Scope, x_p.Typ, x_p.Var, x_p.Cond⟩ : GGuard)) (.refl _)) (.lst0)) h fun l13 t12 H hO ht12 h => ?_;cbv;refine n_idx hE Encs.eGPattern_eq h fun x14 h => ?_;cbv;refine n_call hE (g := fun r15 => .sl (Ar.lst Encs.eGGuard r15) .ro) h (fun r15 hx => ih x14 r15 hx) (.refl _) fun r15 h => ?_;cbv;refine n_appn (f := Encs.eGGuard) hE sz_GGuard (by decide) hO 0 rfl ht12 (l := l13) (m := r15) (.refl _) (.refl _) h fun l17 t16 H hO ht16 h => ?_;cbv;have h := ret_some h;subst h;exact hK _ _ _ hO (.ro _ _)
    ·cbv;obtain ⟨s18, hx, h⟩ := bind_some h;refine n_join cf39 hE okP (fun e l H1 => e = .normal ∧ l = [(1, .v (.eref [.int .i64 x_p.Op, .sl (Ar.lst Encs.eGPattern x_p.Args) .ro, .int .i64 x_p.Typ, .int .i64 x_p.Var, .int .i64 x_p.Scope, .int .i64 x_p.Span, .int .i64 x_p.Cond.Op, .sl (Ar.lst Encs.eGExpr x_p.Cond.Args) .ro, .int .i64 x_p.Cond.Var, .int .i64 x_p.Cond.Field, .int .i64 x_p.Cond.Kind, .int .i64 x_p.Cond.Value.Kind, .int .i64 x_p.Cond.Value.Num, .str x_p.Cond.Value.Text] 0)), (3, .v (.sl [] .nil)), (51, .v (.bool s18))] ∧ Own Eq H0 [] H1) (by kernel_rfl) ?_ ?_
     ·clear h;have h := hx;clear hx;cbv;refine n_br hE h (fun hc h => ?_) (fun hc h => ?_)
      ·cbv;have h := ret_some h;subst h;exact ⟨_, ⟨rfl, rfl, hO⟩, .e rfl (.e rfl (.e rfl (.z))), rfl⟩
      ·cbv;have h := ret_some h;subst h;exact ⟨_, ⟨rfl, rfl, hO⟩, .e rfl (.e rfl (.e rfl (.z))), rfl⟩
     ·clear hx;rintro e l H ⟨rfl, rfl, hO⟩;cbv;refine n_br hE h (fun hc h => ?_) (fun hc h => ?_)
      ·cbv;refine n_idx hE Encs.eGPattern_eq h fun x19 h => ?_;cbv;refine n_call hE (g := fun r20 => .sl (Ar.lst Encs.eGGuard r20) .ro) h (fun r20 hx => ih x19 r20 hx) (.refl _) fun r20 h => ?_;cbv;have h := ret_some h;subst h;exact hK _ _ _ hO (.refl _)
      ·cbv;have h := ret_some h;subst h;exact hK _ _ _ hO (.lit _ (lst_nil))
def cf24 : Cf := ⟨[], [], [], [], [], []⟩
theorem c24 (N : Nat) (x_p : GPattern) (r : ((List GGuard) × Int)) (h : derivative_Guards N x_p = some r) : CallP Tryz.prog 24 [.agg [.int .i64 x_p.Op, .sl (Ar.lst Encs.eGPattern x_p.Args) .ro, .int .i64 x_p.Typ, .int .i64 x_p.Var, .int .i64 x_p.Scope, .int .i64 x_p.Span, .int .i64 x_p.Cond.Op, .sl (Ar.lst Encs.eGExpr x_p.Cond.Args) .ro, .int .i64 x_p.Cond.Var, .int .i64 x_p.Cond.Field, .int .i64 x_p.Cond.Kind, .int .i64 x_p.Cond.Value.Kind, .int .i64 x_p.Cond.Value.Num, .str x_p.Cond.Value.Text]] (.tup [.sl (Ar.lst Encs.eGGuard r.1) .ro, .int .i64 r.2]) := by
 unfold derivative_Guards at h
 refine callP_of_spec cf24 okP Tryz.func24 (by rfl) (by kernel_rfl) Tryz.call24 Tryz.ntmps24 (by rfl) (by rfl) ?_;intro E H0 K hE hK
 have hO : Own Eq H0 [] H0 := .start stable_eq rfl
 cbv;refine n_call hE (g := fun r1 => .int .i64 r1) h (fun r1 hx => c11 N x_p r1 hx) (.refl _) fun r1 h => ?_;cbv;refine n_br hE h (fun hc h => ?_) (fun hc h => ?_)
 ·cbv;have h := ret_some h;subst h;exact hK _ _ _ hO (.tup (.cons (.lit _ (lst_nil)) (.refl _)))
 ·cbv;refine n_call hE (g := fun r2 => .sl (Ar.lst Encs.eGGuard r2) .ro) h (fun r2 hx => c39 N N x_p r2 hx) (.refl _) fun r2 h => ?_;cbv;have h := ret_some h;subst h;exact hK _ _ _ hO (.refl _)
def cf30 : Cf := ⟨[], [(6, 10)], [], [], [], []⟩
theorem c30 (N : Nat) : ∀ (n : Nat) (x_a : GExpr) (x_b : GExpr) (r : Bool), ref08_Same N n x_a x_b = some r → CallP Tryz.prog 30 [.agg [.int .i64 x_a.Op, .sl (Ar.lst Encs.eGExpr x_a.Args) .ro, .int .i64 x_a.Var, .int .i64 x_a.Field, .int .i64 x_a.Kind, .int .i64 x_a.Value.Kind, .int .i64 x_a.Value.Num, .str x_a.Value.Text], .agg [.int .i64 x_b.Op, .sl (Ar.lst Encs.eGExpr x_b.Args) .ro, .int .i64 x_b.Var, .int .i64 x_b.Field, .int .i64 x_b.Kind, .int .i64 x_b.Value.Kind, .int .i64 x_b.Value.Num, .str x_b.Value.Text]] (.bool r) := by
 intro n
 induction n with
 | zero => intro x_a x_b r h; cases h
 | succ n ih =>
 intro x_a x_b r h
 unfold ref08_Same at h
 refine callP_of_spec cf30 okP Tryz.func30 (by rfl) (by kernel_rfl) Tryz.call30 Tryz.ntmps30 (by rfl) (by rfl) ?_;intro E H0 K hE hK
 have hO : Own Eq H0 [] H0 := .start stable_eq rfl
 cbv;refine n_ln hE ?_;cbv;refine n_ln hE ?_;cbv;refine n_br hE h (fun hc h => ?_) (fun hc h => ?_)
 ·cbv;have h := ret_some h;subst h;exact hK _ _ _ hO (.refl _)
 ·cbv;obtain ⟨s2, hx, h⟩ := bind_some h;refine n_loopN cf30 hE okP (fun s1 => [(2, .v (.eref [.int .i64 x_a.Op, .sl (Ar.lst Encs.eGExpr x_a.Args) .ro, .int .i64 x_a.Var, .int .i64 x_a.Field, .int .i64 x_a.Kind, .int .i64 x_a.Value.Kind, .int .i64 x_a.Value.Num, .str x_a.Value.Text] 0)), (3, .v (.eref [.int .i64 x_b.Op, .sl (Ar.lst Encs.eGExpr x_b.Args) .ro, .int .i64 x_b.Var, .int .i64 x_b.Field, .int .i64 x_b.Kind, .int .i64 x_b.Value.Kind, .int .i64 x_b.Value.Num, .str x_b.Value.Text] 0)), (5, .v (.int .i64 s1))]) (fun s1 H1 => Own Eq H0 [] H1) (fun x e l H1 => match (generalizing := false) x with | .inl y => e = .exit 0 ∧ l = [] ∧ Own Eq H0 [] H1 | .inr y => e = .ret ∧ l = [(4, .b false)] ∧ Own Eq H0 [] H1) (by kernel_rfl) ?_ hx ?_ hO ?_
  ·intro s1 H o hO h;clear hx;cbv;refine n_ln hE ?_;cbv;refine n_br hE h (fun hc h => ?_) (fun hc h => ?_)
   ·cbv;refine n_idx hE Encs.eGExpr_eq h fun x3 h => ?_;cbv;refine n_idx hE Encs.eGExpr_eq h fun x4 h => ?_;cbv;refine n_call hE (g := fun r5 => .bool r5) h (fun r5 hx => ih x3 x4 r5 hx) (.refl _) fun r5 h => ?_;cbv;refine n_br hE h (fun hc h => ?_) (fun hc h => ?_)
    ·cbv;have h := ret_some h;subst h;exact ⟨_, _, rfl, ⟨rfl, rfl, hO⟩, .b rfl (.z), rfl⟩
    ·cbv;have h := ret_some h;subst h;exact ⟨_, rfl, .e rfl (.e rfl (.e rfl (.z))), rfl, hO⟩
   ·cbv;have h := ret_some h;subst h;exact ⟨_, _, rfl, ⟨rfl, rfl, hO⟩, .z, rfl⟩
  ·exact .e rfl (.e rfl (.e rfl (.z)))
  ·clear hx
   rcases s2 with y6 | y7
   ·rintro e l H ⟨rfl, rfl, hO⟩;cbv;have h := ret_some h;subst h;exact hK _ _ _ hO (.refl _)
   ·rintro e l H ⟨rfl, rfl, hO⟩;cbv;have h := ret_some h;subst h;exact hK _ _ _ hO (.refl _)
def cf8 : Cf := ⟨[], [(6, 10)], [], [], [], []⟩
theorem c8 (N : Nat) : ∀ (n : Nat) (x_a : GPattern) (x_b : GPattern) (r : Bool), ref09_Same N n x_a x_b = some r → CallP Tryz.prog 8 [.agg [.int .i64 x_a.Op, .sl (Ar.lst Encs.eGPattern x_a.Args) .ro, .int .i64 x_a.Typ, .int .i64 x_a.Var, .int .i64 x_a.Scope, .int .i64 x_a.Span, .int .i64 x_a.Cond.Op, .sl (Ar.lst Encs.eGExpr x_a.Cond.Args) .ro, .int .i64 x_a.Cond.Var, .int .i64 x_a.Cond.Field, .int .i64 x_a.Cond.Kind, .int .i64 x_a.Cond.Value.Kind, .int .i64 x_a.Cond.Value.Num, .str x_a.Cond.Value.Text], .agg [.int .i64 x_b.Op, .sl (Ar.lst Encs.eGPattern x_b.Args) .ro, .int .i64 x_b.Typ, .int .i64 x_b.Var, .int .i64 x_b.Scope, .int .i64 x_b.Span, .int .i64 x_b.Cond.Op, .sl (Ar.lst Encs.eGExpr x_b.Cond.Args) .ro, .int .i64 x_b.Cond.Var, .int .i64 x_b.Cond.Field, .int .i64 x_b.Cond.Kind, .int .i64 x_b.Cond.Value.Kind, .int .i64 x_b.Cond.Value.Num, .str x_b.Cond.Value.Text]] (.bool r) := by
 intro n
 induction n with
 | zero => intro x_a x_b r h; cases h
 | succ n ih =>
 intro x_a x_b r h
 unfold ref09_Same at h
 refine callP_of_spec cf8 okP Tryz.func8 (by rfl) (by kernel_rfl) Tryz.call8 Tryz.ntmps8 (by rfl) (by rfl) ?_;intro E H0 K hE hK
 have hO : Own Eq H0 [] H0 := .start stable_eq rfl
 cbv;refine n_br hE h (fun hc h => ?_) (fun hc h => ?_)
 ·cbv;have h := ret_some h;subst h;exact hK _ _ _ hO (.refl _)
 ·cbv;refine n_call hE (g := fun r1 => .bool r1) h (fun r1 hx => c30 N N x_a.Cond x_b.Cond r1 hx) (.refl _) fun r1 h => ?_;cbv;refine n_ln hE ?_;cbv;refine n_ln hE ?_;cbv;refine n_br hE h (fun hc h => ?_) (fun hc h => ?_)
  ·cbv;have h := ret_some h;subst h;exact hK _ _ _ hO (.refl _)
  ·cbv;obtain ⟨s3, hx, h⟩ := bind_some h;refine n_loopN cf8 hE okP (fun s2 => [(2, .v (.eref [.int .i64 x_a.Op, .sl (Ar.lst Encs.eGPattern x_a.Args) .ro, .int .i64 x_a.Typ, .int .i64 x_a.Var, .int .i64 x_a.Scope, .int .i64 x_a.Span, .int .i64 x_a.Cond.Op, .sl (Ar.lst Encs.eGExpr x_a.Cond.Args) .ro, .int .i64 x_a.Cond.Var, .int .i64 x_a.Cond.Field, .int .i64 x_a.Cond.Kind, .int .i64 x_a.Cond.Value.Kind, .int .i64 x_a.Cond.Value.Num, .str x_a.Cond.Value.Text] 0)), (3, .v (.eref [.int .i64 x_b.Op, .sl (Ar.lst Encs.eGPattern x_b.Args) .ro, .int .i64 x_b.Typ, .int .i64 x_b.Var, .int .i64 x_b.Scope, .int .i64 x_b.Span, .int .i64 x_b.Cond.Op, .sl (Ar.lst Encs.eGExpr x_b.Cond.Args) .ro, .int .i64 x_b.Cond.Var, .int .i64 x_b.Cond.Field, .int .i64 x_b.Cond.Kind, .int .i64 x_b.Cond.Value.Kind, .int .i64 x_b.Cond.Value.Num, .str x_b.Cond.Value.Text] 0)), (5, .v (.int .i64 s2))]) (fun s2 H1 => Own Eq H0 [] H1) (fun x e l H1 => match (generalizing := false) x with | .inl y => e = .exit 0 ∧ l = [] ∧ Own Eq H0 [] H1 | .inr y => e = .ret ∧ l = [(4, .b false)] ∧ Own Eq H0 [] H1) (by kernel_rfl) ?_ hx ?_ hO ?_
   ·intro s2 H o hO h;clear hx;cbv;refine n_ln hE ?_;cbv;refine n_br hE h (fun hc h => ?_) (fun hc h => ?_)
    ·cbv;refine n_idx hE Encs.eGPattern_eq h fun x4 h => ?_;cbv;refine n_idx hE Encs.eGPattern_eq h fun x5 h => ?_;cbv;refine n_call hE (g := fun r6 => .bool r6) h (fun r6 hx => ih x4 x5 r6 hx) (.refl _) fun r6 h => ?_;cbv;refine n_br hE h (fun hc h => ?_) (fun hc h => ?_)
     ·cbv;have h := ret_some h;subst h;exact ⟨_, _, rfl, ⟨rfl, rfl, hO⟩, .b rfl (.z), rfl⟩
     ·cbv;have h := ret_some h;subst h;exact ⟨_, rfl, .e rfl (.e rfl (.e rfl (.z))), rfl, hO⟩
    ·cbv;have h := ret_some h;subst h;exact ⟨_, _, rfl, ⟨rfl, rfl, hO⟩, .z, rfl⟩
   ·exact .e rfl (.e rfl (.e rfl (.z)))
   ·clear hx
    rcases s3 with y7 | y8
    ·rintro e l H ⟨rfl, rfl, hO⟩;cbv;have h := ret_some h;subst h;exact hK _ _ _ hO (.refl _)
    ·rintro e l H ⟨rfl, rfl, hO⟩;cbv;have h := ret_some h;subst h;exact hK _ _ _ hO (.refl _)
def cf25 : Cf := ⟨[], [(6, 8)], [], [], [], []⟩
theorem c25 (N : Nat) (x_a : List GPattern) (x_b : List GPattern) (r : Bool) (h : ref22_SameAll N x_a x_b = some r) : CallP Tryz.prog 25 [.sl (Ar.lst Encs.eGPattern x_a) .ro, .sl (Ar.lst Encs.eGPattern x_b) .ro] (.bool r) := by
 unfold ref22_SameAll at h
 refine callP_of_spec cf25 okP Tryz.func25 (by rfl) (by kernel_rfl) Tryz.call25 Tryz.ntmps25 (by rfl) (by rfl) ?_;intro E H0 K hE hK
 have hO : Own Eq H0 [] H0 := .start stable_eq rfl
 cbv;refine n_ln hE ?_;cbv;refine n_ln hE ?_;cbv;refine n_br hE h (fun hc h => ?_) (fun hc h => ?_)
 ·cbv;have h := ret_some h;subst h;exact hK _ _ _ hO (.refl _)
 ·cbv;obtain ⟨s2, hx, h⟩ := bind_some h;refine n_loopN cf25 hE okP (fun s1 => [(0, .v (.sl (Ar.lst Encs.eGPattern x_a) .ro)), (1, .v (.sl (Ar.lst Encs.eGPattern x_b) .ro)), (5, .v (.int .i64 s1))]) (fun s1 H1 => Own Eq H0 [] H1) (fun x e l H1 => match (generalizing := false) x with | .inl y => e = .exit 0 ∧ l = [] ∧ Own Eq H0 [] H1 | .inr y => e = .ret ∧ l = [(4, .b false)] ∧ Own Eq H0 [] H1) (by kernel_rfl) ?_ hx ?_ hO ?_
  ·intro s1 H o hO h;clear hx;cbv;refine n_ln hE ?_;cbv;refine n_br hE h (fun hc h => ?_) (fun hc h => ?_)
   ·cbv;refine n_idx hE Encs.eGPattern_eq h fun x3 h => ?_;cbv;refine n_idx hE Encs.eGPattern_eq h fun x4 h => ?_;cbv;refine n_call hE (g := fun r5 => .bool r5) h (fun r5 hx => c8 N N x3 x4 r5 hx) (.refl _) fun r5 h => ?_;cbv;refine n_br hE h (fun hc h => ?_) (fun hc h => ?_)
    ·cbv;have h := ret_some h;subst h;exact ⟨_, _, rfl, ⟨rfl, rfl, hO⟩, .b rfl (.z), rfl⟩
    ·cbv;have h := ret_some h;subst h;exact ⟨_, rfl, .e rfl (.e rfl (.e rfl (.z))), rfl, hO⟩
   ·cbv;have h := ret_some h;subst h;exact ⟨_, _, rfl, ⟨rfl, rfl, hO⟩, .z, rfl⟩
  ·exact .e rfl (.e rfl (.e rfl (.z)))
  ·clear hx
   rcases s2 with y6 | y7
   ·rintro e l H ⟨rfl, rfl, hO⟩;cbv;have h := ret_some h;subst h;exact hK _ _ _ hO (.refl _)
   ·rintro e l H ⟨rfl, rfl, hO⟩;cbv;have h := ret_some h;subst h;exact hK _ _ _ hO (.refl _)
def cf6 : Cf := ⟨[], [], [], [], [], []⟩
theorem c6 (N : Nat) (r : Bool) (h : law22_awake N  = some r) : CallP Tryz.prog 6 [] (.bool r) := by
 unfold law22_awake at h
 refine callP_of_spec cf6 okP Tryz.func6 (by rfl) (by kernel_rfl) Tryz.call6 Tryz.ntmps6 (by rfl) (by rfl) ?_;intro E H0 K hE hK
 have hO : Own Eq H0 [] H0 := .start stable_eq rfl
 cbv;refine n_call hE (g := fun r1 => .agg [.int .i64 r1.Op, .sl (Ar.lst Encs.eGPattern r1.Args) .ro, .int .i64 r1.Typ, .int .i64 r1.Var, .int .i64 r1.Scope, .int .i64 r1.Span, .int .i64 r1.Cond.Op, .sl (Ar.lst Encs.eGExpr r1.Cond.Args) .ro, .int .i64 r1.Cond.Var, .int .i64 r1.Cond.Field, .int .i64 r1.Cond.Kind, .int .i64 r1.Cond.Value.Kind, .int .i64 r1.Cond.Value.Num, .str r1.Cond.Value.Text]) h (fun r1 hx => c22 N 0 r1 hx) (.refl _) fun r1 h => ?_;cbv;refine n_call hE (g := fun r2 => .agg [.int .i64 r2.Op, .sl (Ar.lst Encs.eGPattern r2.Args) .ro, .int .i64 r2.Typ, .int .i64 r2.Var, .int .i64 r2.Scope, .int .i64 r2.Span, .int .i64 r2.Cond.Op, .sl (Ar.lst Encs.eGExpr r2.Cond.Args) .ro, .int .i64 r2.Cond.Var, .int .i64 r2.Cond.Field, .int .i64 r2.Cond.Kind, .int .i64 r2.Cond.Value.Kind, .int .i64 r2.Cond.Value.Num, .str r2.Cond.Value.Text]) h (fun r2 hx => c22 N 1 r2 hx) (.refl _) fun r2 h => ?_;cbv;refine n_call hE (g := fun r3 => .agg [.int .i64 r3.Op, .sl (Ar.lst Encs.eGPattern r3.Args) .ro, .int .i64 r3.Typ, .int .i64 r3.Var, .int .i64 r3.Scope, .int .i64 r3.Span, .int .i64 r3.Cond.Op, .sl (Ar.lst Encs.eGExpr r3.Cond.Args) .ro, .int .i64 r3.Cond.Var, .int .i64 r3.Cond.Field, .int .i64 r3.Cond.Kind, .int .i64 r3.Cond.Value.Kind, .int .i64 r3.Cond.Value.Num, .str r3.Cond.Value.Text]) h (fun r3 hx => c21 N 1 ([r1, r2]) r3 hx) (.cons (.refl _) (.cons (.lit _ (lst_cons ((Encs.eGPattern_eq r1).symm) (lst_cons ((Encs.eGPattern_eq r2).symm) (lst_nil)))) (.refl _))) fun r3 h => ?_;cbv;refine n_call hE (g := fun r4 => .tup [.sl (Ar.lst Encs.eGEdge r4.1) .ro, .sl (Ar.lst Encs.eGPattern r4.2.1) .ro, .int .i64 r4.2.2]) h (fun r4 hx => c10 N r3 r4 hx) (.refl _) fun r4 h => ?_;cbv;refine n_call hE (g := fun r5 => .agg [.int .i64 r5.Op, .sl (Ar.lst Encs.eGPattern r5.Args) .ro, .int .i64 r5.Typ, .int .i64 r5.Var, .int .i64 r5.Scope, .int .i64 r5.Span, .int .i64 r5.Cond.Op, .sl (Ar.lst Encs.eGExpr r5.Cond.Args) .ro, .int .i64 r5.Cond.Var, .int .i64 r5.Cond.Field, .int .i64 r5.Cond.Kind, .int .i64 r5.Cond.Value.Kind, .int .i64 r5.Cond.Value.Num, .str r5.Cond.Value.Text]) h (fun r5 hx => c22 N 0 r5 hx) (.refl _) fun r5 h => ?_;cbv;refine n_call hE (g := fun r6 => .agg [.int .i64 r6.Op, .sl (Ar.lst Encs.eGPattern r6.Args) .ro, .int .i64 r6.Typ, .int .i64 r6.Var, .int .i64 r6.Scope, .int .i64 r6.Span, .int .i64 r6.Cond.Op, .sl (Ar.lst Encs.eGExpr r6.Cond.Args) .ro, .int .i64 r6.Cond.Var, .int .i64 r6.Cond.Field, .int .i64 r6.Cond.Kind, .int .i64 r6.Cond.Value.Kind, .int .i64 r6.Cond.Value.Num, .str r6.Cond.Value.Text]) h (fun r6 hx => c21 N 4 ([r5]) r6 hx) (.cons (.refl _) (.cons (.lit _ (lst_cons ((Encs.eGPattern_eq r5).symm) (lst_nil))) (.refl _))) fun r6 h => ?_;cbv;refine n_call hE (g := fun r7 => .tup [.sl (Ar.lst Encs.eGEdge r7.1) .ro, .sl (Ar.lst Encs.eGPattern r7.2.1) .ro, .int .i64 r7.2.2]) h (fun r7 hx => c10 N r6 r7 hx) (.refl _) fun r7 h => ?_;cbv;refine n_call hE (g := fun r8 => .agg [.int .i64 r8.Op, .sl (Ar.lst Encs.eGPattern r8.Args) .ro, .int .i64 r8.Typ, .int .i64 r8.Var, .int .i64 r8.Scope, .int .i64 r8.Span, .int .i64 r8.Cond.Op, .sl (Ar.lst Encs.eGExpr r8.Cond.Args) .ro, .int .i64 r8.Cond.Var, .int .i64 r8.Cond.Field, .int .i64 r8.Cond.Kind, .int .i64 r8.Cond.Value.Kind, .int .i64 r8.Cond.Value.Num, .str r8.Cond.Value.Text]) h (fun r8 hx => c22 N 0 r8 hx) (.refl _) fun r8 h => ?_;cbv;refine n_call hE (g := fun r9 => .agg [.int .i64 r9.Op, .sl (Ar.lst Encs.eGPattern r9.Args) .ro, .int .i64 r9.Typ, .int .i64 r9.Var, .int .i64 r9.Scope, .int .i64 r9.Span, .int .i64 r9.Cond.Op, .sl (Ar.lst Encs.eGExpr r9.Cond.Args) .ro, .int .i64 r9.Cond.Var, .int .i64 r9.Cond.Field, .int .i64 r9.Cond.Kind, .int .i64 r9.Cond.Value.Kind, .int .i64 r9.Cond.Value.Num, .str r9.Cond.Value.Text]) h (fun r9 hx => c22 N 1 r9 hx) (.refl _) fun r9 h => ?_;cbv;refine n_call hE (g := fun r10 => .agg [.int .i64 r10.Op, .sl (Ar.lst Encs.eGPattern r10.Args) .ro, .int .i64 r10.Typ, .int .i64 r10.Var, .int .i64 r10.Scope, .int .i64 r10.Span, .int .i64 r10.Cond.Op, .sl (Ar.lst Encs.eGExpr r10.Cond.Args) .ro, .int .i64 r10.Cond.Var, .int .i64 r10.Cond.Field, .int .i64 r10.Cond.Kind, .int .i64 r10.Cond.Value.Kind, .int .i64 r10.Cond.Value.Num, .str r10.Cond.Value.Text]) h (fun r10 hx => c21 N 1 ([r8, r9]) r10 hx) (.cons (.refl _) (.cons (.lit _ (lst_cons ((Encs.eGPattern_eq r8).symm) (lst_cons ((Encs.eGPattern_eq r9).symm) (lst_nil)))) (.refl _))) fun r10 h => ?_;cbv;refine n_call hE (g := fun r11 => .tup [.sl (Ar.lst Encs.eGPattern r11.1) .ro, .int .i64 r11.2]) h (fun r11 hx => c7 N (⟨6, [r10], 0, 0, 0, 5, (⟨0, [], 0, 0, 0, (⟨0, 0, ⟨#[]⟩⟩ : GValue)⟩ : GExpr)⟩ : GPattern) r11 hx) (.cons (.agg (.cons (.refl _) (.cons (.lit _ (lst_cons ((Encs.eGPattern_eq r10).symm) (lst_nil))) (.cons (.refl _) (.cons (.refl _) (.cons (.refl _) (.cons (.refl _) (.cons (.refl _) (.cons (.lit _ (lst_nil)) (.refl _)))))))))) (.refl _)) fun r11 h => ?_;cbv;refine n_call hE (g := fun r12 => .tup [.sl (Ar.lst Encs.eGEdge r12.1) .ro, .sl (Ar.lst Encs.eGPattern r12.2.1) .ro, .int .i64 r12.2.2]) h (fun r12 hx => c10 N (⟨6, [r10], 0, 0, 0, 5, (⟨0, [], 0, 0, 0, (⟨0, 0, ⟨#[]⟩⟩ : GValue)⟩ : GExpr)⟩ : GPattern) r12 hx) (.cons (.agg (.cons (.refl _) (.cons (.lit _ (lst_cons ((Encs.eGPattern_eq r10).symm) (lst_nil))) (.cons (.refl _) (.cons (.refl _) (.cons (.refl _) (.cons (.refl _) (.cons (.refl _) (.cons (.lit _ (lst_nil)) (.refl _)))))))))) (.refl _)) fun r12 h => ?_;cbv;refine n_call hE (g := fun r13 => .agg [.int .i64 r13.Op, .sl (Ar.lst Encs.eGExpr r13.Args) .ro, .int .i64 r13.Var, .int .i64 r13.Field, .int .i64 r13.Kind, .int .i64 r13.Value.Kind, .int .i64 r13.Value.Num, .str r13.Value.Text]) h (fun r13 hx => c23 N  r13 hx) (.refl _) fun r13 h => ?_;cbv;refine n_call hE (g := fun r14 => .agg [.int .i64 r14.Op, .sl (Ar.lst Encs.eGPattern r14.Args) .ro, .int .i64 r14.Typ, .int .i64 r14.Var, .int .i64 r14.Scope, .int .i64 r14.Span, .int .i64 r14.Cond.Op, .sl (Ar.lst Encs.eGExpr r14.Cond.Args) .ro, .int .i64 r14.Cond.Var, .int .i64 r14.Cond.Field, .int .i64 r14.Cond.Kind, .int .i64 r14.Cond.Value.Kind, .int .i64 r14.Cond.Value.Num, .str r14.Cond.Value.Text]) h (fun r14 hx => c22 N 1 r14 hx) (.refl _) fun r14 h => ?_;cbv;refine n_call hE (g := fun r15 => .agg [.int .i64 r15.Op, .sl (Ar.lst Encs.eGPattern r15.Args) .ro, .int .i64 r15.Typ, .int .i64 r15.Var, .int .i64 r15.Scope, .int .i64 r15.Span, .int .i64 r15.Cond.Op, .sl (Ar.lst Encs.eGExpr r15.Cond.Args) .ro, .int .i64 r15.Cond.Var, .int .i64 r15.Cond.Field, .int .i64 r15.Cond.Kind, .int .i64 r15.Cond.Value.Kind, .int .i64 r15.Cond.Value.Num, .str r15.Cond.Value.Text]) h (fun r15 hx => c21 N 4 ([r14]) r15 hx) (.cons (.refl _) (.cons (.lit _ (lst_cons ((Encs.eGPattern_eq r14).symm) (lst_nil))) (.refl _))) fun r15 h => ?_;cbv;refine n_call hE (g := fun r16 => .tup [.sl (Ar.lst Encs.eGPattern r16.1) .ro, .int .i64 r16.2]) h (fun r16 hx => c7 N (⟨5, [r15], 2, 0, 0, 0, r13⟩ : GPattern) r16 hx) (.cons (.agg (.cons (.refl _) (.cons (.lit _ (lst_cons ((Encs.eGPattern_eq r15).symm) (lst_nil))) (.refl _)))) (.refl _)) fun r16 h => ?_;cbv;refine n_call hE (g := fun r17 => .tup [.sl (Ar.lst Encs.eGEdge r17.1) .ro, .sl (Ar.lst Encs.eGPattern r17.2.1) .ro, .int .i64 r17.2.2]) h (fun r17 hx => c10 N (⟨5, [r15], 2, 0, 0, 0, r13⟩ : GPattern) r17 hx) (.cons (.agg (.cons (.refl _) (.cons (.lit _ (lst_cons ((Encs.eGPattern_eq r15).symm) (lst_nil))) (.refl _)))) (.refl _)) fun r17 h => ?_;cbv;refine n_ln hE ?_;cbv;refine n_ln hE ?_;cbv;refine n_ln hE ?_;cbv;refine n_ln hE ?_;cbv;refine n_ln hE ?_;cbv;refine n_ln hE ?_;cbv;refine n_br hE h (fun hc h => ?_) (fun hc h => ?_)
 ·cbv;have h := ret_some h;subst h;exact hK _ _ _ hO (.refl _)
 ·cbv;refine n_idx hE Encs.eGPattern_eq h fun x18 h => ?_;cbv;refine n_call hE (g := fun r19 => .tup [.sl (Ar.lst Encs.eGGuard r19.1) .ro, .int .i64 r19.2]) h (fun r19 hx => c24 N x18 r19 hx) (.refl _) fun r19 h => ?_;cbv;refine n_ln hE ?_;cbv;refine n_br hE h (fun hc h => ?_) (fun hc h => ?_)
  ·cbv;have h := ret_some h;subst h;exact hK _ _ _ hO (.refl _)
  ·cbv;refine n_idx hE Encs.eGGuard_eq h fun x20 h => ?_;cbv;refine n_br hE h (fun hc h => ?_) (fun hc h => ?_)
   ·cbv;have h := ret_some h;subst h;exact hK _ _ _ hO (.refl _)
   ·cbv;refine n_idx hE Encs.eGPattern_eq h fun x21 h => ?_;cbv;refine n_br hE h (fun hc h => ?_) (fun hc h => ?_)
    ·cbv;have h := ret_some h;subst h;exact hK _ _ _ hO (.refl _)
    ·cbv;refine n_idx hE Encs.eGPattern_eq h fun x22 h => ?_;cbv;refine n_br hE h (fun hc h => ?_) (fun hc h => ?_)
     ·cbv;have h := ret_some h;subst h;exact hK _ _ _ hO (.refl _)
     ·cbv;refine n_call hE (g := fun r23 => .agg [.int .i64 r23.Op, .sl (Ar.lst Encs.eGPattern r23.Args) .ro, .int .i64 r23.Typ, .int .i64 r23.Var, .int .i64 r23.Scope, .int .i64 r23.Span, .int .i64 r23.Cond.Op, .sl (Ar.lst Encs.eGExpr r23.Cond.Args) .ro, .int .i64 r23.Cond.Var, .int .i64 r23.Cond.Field, .int .i64 r23.Cond.Kind, .int .i64 r23.Cond.Value.Kind, .int .i64 r23.Cond.Value.Num, .str r23.Cond.Value.Text]) h (fun r23 hx => c22 N 1 r23 hx) (.refl _) fun r23 h => ?_;cbv;refine n_call hE (g := fun r24 => .bool r24) h (fun r24 hx => c25 N r4.2.1 ([r23]) r24 hx) (.cons (.refl _) (.cons (.lit _ (lst_cons ((Encs.eGPattern_eq r23).symm) (lst_nil))) (.refl _))) fun r24 h => ?_;cbv;refine n_br hE h (fun hc h => ?_) (fun hc h => ?_)
      ·cbv;have h := ret_some h;subst h;exact hK _ _ _ hO (.refl _)
      ·cbv;refine n_call hE (g := fun r25 => .agg [.int .i64 r25.Op, .sl (Ar.lst Encs.eGPattern r25.Args) .ro, .int .i64 r25.Typ, .int .i64 r25.Var, .int .i64 r25.Scope, .int .i64 r25.Span, .int .i64 r25.Cond.Op, .sl (Ar.lst Encs.eGExpr r25.Cond.Args) .ro, .int .i64 r25.Cond.Var, .int .i64 r25.Cond.Field, .int .i64 r25.Cond.Kind, .int .i64 r25.Cond.Value.Kind, .int .i64 r25.Cond.Value.Num, .str r25.Cond.Value.Text]) h (fun r25 hx => c22 N 0 r25 hx) (.refl _) fun r25 h => ?_;cbv;refine n_call hE (g := fun r26 => .agg [.int .i64 r26.Op, .sl (Ar.lst Encs.eGPattern r26.Args) .ro, .int .i64 r26.Typ, .int .i64 r26.Var, .int .i64 r26.Scope, .int .i64 r26.Span, .int .i64 r26.Cond.Op, .sl (Ar.lst Encs.eGExpr r26.Cond.Args) .ro, .int .i64 r26.Cond.Var, .int .i64 r26.Cond.Field, .int .i64 r26.Cond.Kind, .int .i64 r26.Cond.Value.Kind, .int .i64 r26.Cond.Value.Num, .str r26.Cond.Value.Text]) h (fun r26 hx => c21 N 4 ([r25]) r26 hx) (.cons (.refl _) (.cons (.lit _ (lst_cons ((Encs.eGPattern_eq r25).symm) (lst_nil))) (.refl _))) fun r26 h => ?_;cbv;refine n_call hE (g := fun r27 => .bool r27) h (fun r27 hx => c25 N r7.2.1 ([r26]) r27 hx) (.cons (.refl _) (.cons (.lit _ (lst_cons ((Encs.eGPattern_eq r26).symm) (lst_nil))) (.refl _))) fun r27 h => ?_;cbv;refine n_br hE h (fun hc h => ?_) (fun hc h => ?_)
       ·cbv;have h := ret_some h;subst h;exact hK _ _ _ hO (.refl _)
       ·cbv;refine n_idx hE Encs.eGEdge_eq h fun x28 h => ?_;cbv;refine n_br hE h (fun hc h => ?_) (fun hc h => ?_)
        ·cbv;have h := ret_some h;subst h;exact hK _ _ _ hO (.refl _)
        ·cbv;refine n_idx hE Encs.eGEdge_eq h fun x29 h => ?_;cbv;refine n_br hE h (fun hc h => ?_) (fun hc h => ?_)
         ·cbv;have h := ret_some h;subst h;exact hK _ _ _ hO (.refl _)
         ·cbv;refine n_idx hE Encs.eGEdge_eq h fun x30 h => ?_;cbv;refine n_br hE h (fun hc h => ?_) (fun hc h => ?_)
          ·cbv;have h := ret_some h;subst h;exact hK _ _ _ hO (.refl _)
          ·cbv;refine n_idx hE Encs.eGEdge_eq h fun x31 h => ?_;cbv;refine n_call hE (g := fun r32 => .bool r32) h (fun r32 hx => c26 N x31.Opens ([0]) r32 hx) (.cons (.refl _) (.cons (.lit _ (lst_cons (rfl) (lst_nil))) (.refl _))) fun r32 h => ?_;cbv;refine n_br hE h (fun hc h => ?_) (fun hc h => ?_)
           ·cbv;refine n_idx hE Encs.eGEdge_eq h fun x33 h => ?_;cbv;refine n_call hE (g := fun r34 => .bool r34) h (fun r34 hx => c27 N x33.Limits ([(⟨0, 5⟩ : GLimit)]) r34 hx) (.cons (.refl _) (.cons (.lit _ (lst_cons ((Encs.eGLimit_eq (⟨0, 5⟩ : GLimit)).symm) (lst_nil))) (.refl _))) fun r34 h => ?_;cbv;refine n_br hE h (fun hc h => ?_) (fun hc h => ?_)
            ·cbv;refine n_idx hE Encs.eGEdge_eq h fun x35 h => ?_;cbv;refine n_ln hE ?_;cbv;refine n_br hE h (fun hc h => ?_) (fun hc h => ?_)
             ·cbv;refine n_idx hE Encs.eGEdge_eq h fun x36 h => ?_;cbv;refine n_call hE (g := fun r37 => .bool r37) h (fun r37 hx => c26 N x36.Closes ([0]) r37 hx) (.cons (.refl _) (.cons (.lit _ (lst_cons (rfl) (lst_nil))) (.refl _))) fun r37 h => ?_;cbv;refine n_br hE h (fun hc h => ?_) (fun hc h => ?_)
              ·cbv;refine n_idx hE Encs.eGEdge_eq h fun x38 h => ?_;cbv;refine n_ln hE ?_;cbv;refine n_br hE h (fun hc h => ?_) (fun hc h => ?_)
               ·cbv;refine n_idx hE Encs.eGEdge_eq h fun x39 h => ?_;cbv;refine n_call hE (g := fun r40 => .bool r40) h (fun r40 hx => c26 N x39.Inside ([0]) r40 hx) (.cons (.refl _) (.cons (.lit _ (lst_cons (rfl) (lst_nil))) (.refl _))) fun r40 h => ?_;cbv;have h := ret_some h;subst h;exact hK _ _ _ hO (.refl _)
               ·cbv;have h := ret_some h;subst h;exact hK _ _ _ hO (.refl _)
              ·cbv;have h := ret_some h;subst h;exact hK _ _ _ hO (.refl _)
             ·cbv;have h := ret_some h;subst h;exact hK _ _ _ hO (.refl _)
            ·cbv;have h := ret_some h;subst h;exact hK _ _ _ hO (.refl _)
           ·cbv;have h := ret_some h;subst h;exact hK _ _ _ hO (.refl _)
theorem c32 (N : Nat) (x_s r : List Int) (h : slices_Sort_Lint_int N x_s = some r) : CallS Tryz.prog 32 x_s r := callS_sort Go.Proofs.Tryz.laysNm189 Tryz.call32 h
theorem c33 (N : Nat) (x_s r : List Int) (h : slices_Compact_Lint_int N x_s = some r) : CallOO Tryz.prog 33 [] 1 (Ar.lst (V.int .i64) x_s) (Ar.lst (V.int .i64) r) := callOO_compact Go.Proofs.Tryz.laysNm220 Tryz.call33 h
def cf9 : Cf := ⟨[3, 5000003], [], [], [], [], []⟩
theorem c9 (N : Nat) (x_p : GPattern) (r : (List Int)) (h : pattern_Bound N x_p = some r) : CallP Tryz.prog 9 [.agg [.int .i64 x_p.Op, .sl (Ar.lst Encs.eGPattern x_p.Args) .ro, .int .i64 x_p.Typ, .int .i64 x_p.Var, .int .i64 x_p.Scope, .int .i64 x_p.Span, .int .i64 x_p.Cond.Op, .sl (Ar.lst Encs.eGExpr x_p.Cond.Args) .ro, .int .i64 x_p.Cond.Var, .int .i64 x_p.Cond.Field, .int .i64 x_p.Cond.Kind, .int .i64 x_p.Cond.Value.Kind, .int .i64 x_p.Cond.Value.Num, .str x_p.Cond.Value.Text]] (.sl (Ar.lst (V.int .i64) r) .ro) := by
 unfold pattern_Bound at h
 refine callP_of_specF (T := TT) cf9 okP Tryz.func9 (by rfl) (by kernel_rfl) Tryz.call9 Tryz.ntmps9 (by rfl) (by rfl) ?_;intro E H0 K hE hK hF
 have hO : Own Eq H0 [] H0 := .start stable_eq rfl
 cbv;refine n_oalloc hE (f0 := (V.int .i64)) hO fun q2 b1 H hq2 hO => ?_;cbv;refine n_callQ hE h (fun r3 hx => c31 N x_p r3 hx) (.refl _) fun r3 v4 hv4 h => ?_;cbv;obtain ⟨o10, hx, h⟩ := bind_some h;refine n_range cf9 hE okP (ι := Unit) (enc := fun (x : GPattern) => [.agg [.int .i64 x.Op, .sl (Ar.lst Encs.eGPattern x.Args) .ro, .int .i64 x.Typ, .int .i64 x.Var, .int .i64 x.Scope, .int .i64 x.Span, .int .i64 x.Cond.Op, .sl (Ar.lst Encs.eGExpr x.Cond.Args) .ro, .int .i64 x.Cond.Var, .int .i64 x.Cond.Field, .int .i64 x.Cond.Kind, .int .i64 x.Cond.Value.Kind, .int .i64 x.Cond.Value.Num, .str x.Cond.Value.Text]]) (fun (s6 : (List Int)) F H => ∃ g : OG, (Okn g (Ar.len s6)) ∧ Own Eq F [.blk b1 (.cells [.own g.id g.lo g.n]), .blk g.id (.arr 1 (g.pre ++ Ar.lst (V.int .i64) s6 ++ g.rest))] H) (fun (r : Unit) e F H => False) (fun i s6 y5 => [(3, .v (.ref b1 0)), (4, .v (.eref [.int .i64 y5.Op, .sl (Ar.lst Encs.eGPattern y5.Args) .ro, .int .i64 y5.Typ, .int .i64 y5.Var, .int .i64 y5.Scope, .int .i64 y5.Span, .int .i64 y5.Cond.Op, .sl (Ar.lst Encs.eGExpr y5.Cond.Args) .ro, .int .i64 y5.Cond.Var, .int .i64 y5.Cond.Field, .int .i64 y5.Cond.Kind, .int .i64 y5.Cond.Value.Kind, .int .i64 y5.Cond.Value.Num, .str y5.Cond.Value.Text] 0))]) (fun i s6 y5 F H => ∃ g : OG, (Okn g (Ar.len s6)) ∧ Own Eq F [.blk b1 (.cells [.own g.id g.lo g.n]), .blk g.id (.arr 1 (g.pre ++ Ar.lst (V.int .i64) s6 ++ g.rest))] H) (fun _ => Stable.ex fun _ => Own.stable stable_eq _) (fun _ _ => ⟨fun h => h.elim, fun _ _ h => h.elim⟩) (fun _ _ _ => Stable.ex fun _ => Own.stable stable_eq _) hv4 hx (⟨q2, hq2, hO⟩) (by decide) (fun _ => rfl) (by kernel_rfl) (by kernel_rfl) ?_ ?_ ?_ ?_
 ·rintro E i8 y5 s6 F7 H hE ⟨q9, hq9, hO⟩;clear hx h;cbv;exact ⟨(), ⟨q9, hq9, hO⟩, .e rfl (.e rfl (.z)), rfl⟩
 ·rintro E i8 _ y5 s6 F7 H o hE hF h ⟨q9, hq9, hO⟩;clear hx;cbv;refine n_br hE h (fun hc h => ?_) (fun hc h => ?_)
  ·cbv;refine n_load hE hO 0 rfl ?_;cbv;refine n_oapp (f := (V.int .i64)) hE (fun _ => rfl) (by decide) hO hq9 1 rfl (m := [y5.Var]) (src_sl (f := (V.int .i64)) hE (fun _ => rfl) (.lstc (.refl _) (.lst0))) h fun l12 q11 H hq11 hO h => ?_;cbv;refine n_store hE hO 0 rfl rfl fun H hO => ?_;cbv;have h := ret_some h;subst h;exact ⟨_, rfl, ⟨q11, hq11, hO⟩⟩
  ·cbv;have h := ret_some h;subst h;exact ⟨_, rfl, ⟨q9, hq9, hO⟩⟩
 ·rintro d13 s16 H rfl hd ⟨q17, hq17, hO⟩
  have hO : Own Eq H0 [.blk b1 (.cells [.own q17.id q17.lo q17.n]), .blk q17.id (.arr 1 (q17.pre ++ Ar.lst (V.int .i64) s16 ++ q17.rest)), .blk d13 DB] H := Own.dblk hd hO
  clear hd;clear hx;cbv;refine n_load hE hO 0 rfl ?_;cbv;refine n_callS hE hO hq17 1 rfl h (fun l18 hx => c32 N s16 l18 hx) fun l18 H hq17 hO h => ?_;cbv;refine n_load hE hO 0 rfl ?_;cbv;refine n_callOO hE (f := (V.int .i64)) hO hq17 1 rfl h (fun l19 hx => c33 N l18 l19 hx) (.refl _) fun l19 q20 H hq20 hO h => ?_;cbv;refine n_fin hE hO 2 rfl fun H hO => ?_;cbv;have h := ret_some h;subst h;exact hF q20 _ _ 1 _ _ hO rfl (okn_lst hE hq20) (.refl _)
 ·rintro d r e H rfl hd hO;exact hO.elim
def cf12 : Cf := ⟨[], [], [], [], [], []⟩
theorem c12 (N : Nat) (x_s : List GPattern) (v_f : V) (x_f : GPattern → Option Bool) (h_f : ∀ y1 q, x_f y1 = some q → CallVP Tryz.prog v_f [.agg [.int .i64 y1.Op, .sl (Ar.lst Encs.eGPattern y1.Args) .ro, .int .i64 y1.Typ, .int .i64 y1.Var, .int .i64 y1.Scope, .int .i64 y1.Span, .int .i64 y1.Cond.Op, .sl (Ar.lst Encs.eGExpr y1.Cond.Args) .ro, .int .i64 y1.Cond.Var, .int .i64 y1.Cond.Field, .int .i64 y1.Cond.Kind, .int .i64 y1.Cond.Value.Kind, .int .i64 y1.Cond.Value.Num, .str y1.Cond.Value.Text]] (.bool q)) (r : Bool) (h : slices_ContainsFunc_LPattern_Pattern N x_s x_f = some r) : CallP Tryz.prog 12 [.sl (Ar.lst Encs.eGPattern x_s) .ro, v_f] (.bool r) := by
 unfold slices_ContainsFunc_LPattern_Pattern at h
 refine callP_of_spec cf12 okP Tryz.func12 (by rfl) (by kernel_rfl) Tryz.call12 Tryz.ntmps12 (by rfl) (by rfl) ?_;intro E H0 K hE hK
 have hO : Own Eq H0 [] H0 := .start stable_eq rfl
 cbv;refine n_call hE (g := fun r1 => .int .i64 r1) h (fun r1 hx => c36 N x_s v_f x_f h_f r1 hx) (.refl _) fun r1 h => ?_;cbv;have h := ret_some h;subst h;exact hK _ _ _ hO (.refl _)
def cf13 : Cf := ⟨[], [], [], [], [], []⟩
theorem c13 (N : Nat) (x_r : GPattern) (x_1 : GPattern) (r : Bool) (h : law22_DerivativeCloses_1 N x_r x_1 = some r) : CallP Tryz.prog 13 [.agg [.int .i64 x_r.Op, .sl (Ar.lst Encs.eGPattern x_r.Args) .ro, .int .i64 x_r.Typ, .int .i64 x_r.Var, .int .i64 x_r.Scope, .int .i64 x_r.Span, .int .i64 x_r.Cond.Op, .sl (Ar.lst Encs.eGExpr x_r.Cond.Args) .ro, .int .i64 x_r.Cond.Var, .int .i64 x_r.Cond.Field, .int .i64 x_r.Cond.Kind, .int .i64 x_r.Cond.Value.Kind, .int .i64 x_r.Cond.Value.Num, .str x_r.Cond.Value.Text], .eref [.int .i64 x_1.Op, .sl (Ar.lst Encs.eGPattern x_1.Args) .ro, .int .i64 x_1.Typ, .int .i64 x_1.Var, .int .i64 x_1.Scope, .int .i64 x_1.Span, .int .i64 x_1.Cond.Op, .sl (Ar.lst Encs.eGExpr x_1.Cond.Args) .ro, .int .i64 x_1.Cond.Var, .int .i64 x_1.Cond.Field, .int .i64 x_1.Cond.Kind, .int .i64 x_1.Cond.Value.Kind, .int .i64 x_1.Cond.Value.Num, .str x_1.Cond.Value.Text] 0] (.bool r) := by
 unfold law22_DerivativeCloses_1 at h
 refine callP_of_spec cf13 okP Tryz.func13 (by rfl) (by kernel_rfl) Tryz.call13 Tryz.ntmps13 (by rfl) (by rfl) ?_;intro E H0 K hE hK
 have hO : Own Eq H0 [] H0 := .start stable_eq rfl
 cbv;refine n_call hE (g := fun r1 => .bool r1) h (fun r1 hx => c8 N N x_1 x_r r1 hx) (.refl _) fun r1 h => ?_;cbv;have h := ret_some h;subst h;exact hK _ _ _ hO (.refl _)
def cf14 : Cf := ⟨[], [], [], [], [], []⟩
theorem c14 (N : Nat) (x_x : GPattern) (x_1 : GPattern) (r : Bool) (h : law22_DerivativeCloses_2 N x_x x_1 = some r) : CallP Tryz.prog 14 [.agg [.int .i64 x_x.Op, .sl (Ar.lst Encs.eGPattern x_x.Args) .ro, .int .i64 x_x.Typ, .int .i64 x_x.Var, .int .i64 x_x.Scope, .int .i64 x_x.Span, .int .i64 x_x.Cond.Op, .sl (Ar.lst Encs.eGExpr x_x.Cond.Args) .ro, .int .i64 x_x.Cond.Var, .int .i64 x_x.Cond.Field, .int .i64 x_x.Cond.Kind, .int .i64 x_x.Cond.Value.Kind, .int .i64 x_x.Cond.Value.Num, .str x_x.Cond.Value.Text], .eref [.int .i64 x_1.Op, .sl (Ar.lst Encs.eGPattern x_1.Args) .ro, .int .i64 x_1.Typ, .int .i64 x_1.Var, .int .i64 x_1.Scope, .int .i64 x_1.Span, .int .i64 x_1.Cond.Op, .sl (Ar.lst Encs.eGExpr x_1.Cond.Args) .ro, .int .i64 x_1.Cond.Var, .int .i64 x_1.Cond.Field, .int .i64 x_1.Cond.Kind, .int .i64 x_1.Cond.Value.Kind, .int .i64 x_1.Cond.Value.Num, .str x_1.Cond.Value.Text] 0] (.bool r) := by
 unfold law22_DerivativeCloses_2 at h
 refine callP_of_spec cf14 okP Tryz.func14 (by rfl) (by kernel_rfl) Tryz.call14 Tryz.ntmps14 (by rfl) (by rfl) ?_;intro E H0 K hE hK
 have hO : Own Eq H0 [] H0 := .start stable_eq rfl
 cbv;refine n_call hE (g := fun r1 => .bool r1) h (fun r1 hx => c8 N N x_1 x_x r1 hx) (.refl _) fun r1 h => ?_;cbv;have h := ret_some h;subst h;exact hK _ _ _ hO (.refl _)
def cf37 : Cf := ⟨[], [], [], [], [], []⟩
theorem c37 (N : Nat) (x_s : List Int) (x_v : Int) (r : Int) (h : slices_Index_Lint_int N x_s x_v = some r) : CallP Tryz.prog 37 [.sl (Ar.lst (V.int .i64) x_s) .ro, .int .i64 x_v] (.int .i64 r) := by
 unfold slices_Index_Lint_int at h
 refine callP_of_spec cf37 okP Tryz.func37 (by rfl) (by kernel_rfl) Tryz.call37 Tryz.ntmps37 (by rfl) (by rfl) ?_;intro E H0 K hE hK
 have hO : Own Eq H0 [] H0 := .start stable_eq rfl
 cbv;refine n_ln hE ?_;cbv;obtain ⟨s2, hx, h⟩ := bind_some h;refine n_loopN cf37 hE okP (fun s1 => [(0, .v (.sl (Ar.lst (V.int .i64) x_s) .ro)), (1, .v (.int .i64 x_v)), (7, .v (.int .i64 (Ar.len x_s))), (8, .v (.int .i64 s1))]) (fun s1 H1 => Own Eq H0 [] H1) (fun x e l H1 => match (generalizing := false) x with | .inl y => e = .exit 0 ∧ l = [] ∧ Own Eq H0 [] H1 | .inr y => e = .ret ∧ l = [(4, .v (.int .i64 y))] ∧ Own Eq H0 [] H1) (by kernel_rfl) ?_ hx ?_ hO ?_
 ·intro s1 H o hO h;clear hx;cbv;refine n_br hE h (fun hc h => ?_) (fun hc h => ?_)
  ·cbv;refine n_idx hE (fun _ => rfl) h fun x3 h => ?_;cbv;refine n_br hE h (fun hc h => ?_) (fun hc h => ?_)
   ·cbv;have h := ret_some h;subst h;exact ⟨_, _, rfl, ⟨rfl, rfl, hO⟩, .e rfl (.z), rfl⟩
   ·cbv;have h := ret_some h;subst h;exact ⟨_, rfl, .e rfl (.e rfl (.e rfl (.e rfl (.z)))), rfl, hO⟩
  ·cbv;have h := ret_some h;subst h;exact ⟨_, _, rfl, ⟨rfl, rfl, hO⟩, .z, rfl⟩
 ·exact .e rfl (.e rfl (.e rfl (.e rfl (.z))))
 ·clear hx
  rcases s2 with y4 | y5
  ·rintro e l H ⟨rfl, rfl, hO⟩;cbv;have h := ret_some h;subst h;exact hK _ _ _ hO (.refl _)
  ·rintro e l H ⟨rfl, rfl, hO⟩;cbv;have h := ret_some h;subst h;exact hK _ _ _ hO (.refl _)
def cf15 : Cf := ⟨[], [], [], [], [], []⟩
theorem c15 (N : Nat) (x_s : List Int) (x_v : Int) (r : Bool) (h : slices_Contains_Lint_int N x_s x_v = some r) : CallP Tryz.prog 15 [.sl (Ar.lst (V.int .i64) x_s) .ro, .int .i64 x_v] (.bool r) := by
 unfold slices_Contains_Lint_int at h
 refine callP_of_spec cf15 okP Tryz.func15 (by rfl) (by kernel_rfl) Tryz.call15 Tryz.ntmps15 (by rfl) (by rfl) ?_;intro E H0 K hE hK
 have hO : Own Eq H0 [] H0 := .start stable_eq rfl
 cbv;refine n_call hE (g := fun r1 => .int .i64 r1) h (fun r1 hx => c37 N x_s x_v r1 hx) (.refl _) fun r1 h => ?_;cbv;have h := ret_some h;subst h;exact hK _ _ _ hO (.refl _)
def cf3 : Cf := ⟨[7], [(6, 8)], [], [], [(78, 7)], []⟩
theorem c3 (N : Nat) (x_p : GPattern) (r : Bool) (h : law22_DerivativeCloses N x_p = some r) : CallP Tryz.prog 3 [.agg [.int .i64 x_p.Op, .sl (Ar.lst Encs.eGPattern x_p.Args) .ro, .int .i64 x_p.Typ, .int .i64 x_p.Var, .int .i64 x_p.Scope, .int .i64 x_p.Span, .int .i64 x_p.Cond.Op, .sl (Ar.lst Encs.eGExpr x_p.Cond.Args) .ro, .int .i64 x_p.Cond.Var, .int .i64 x_p.Cond.Field, .int .i64 x_p.Cond.Kind, .int .i64 x_p.Cond.Value.Kind, .int .i64 x_p.Cond.Value.Num, .str x_p.Cond.Value.Text]] (.bool r) := by
 unfold law22_DerivativeCloses at h
 refine callP_of_spec cf3 okP Tryz.func3 (by rfl) (by kernel_rfl) Tryz.call3 Tryz.ntmps3 (by rfl) (by rfl) ?_;intro E H0 K hE hK
 have hO : Own Eq H0 [] H0 := .start stable_eq rfl
 cbv;refine n_call hE (g := fun r1 => .bool r1) h (fun r1 hx => c4 N x_p r1 hx) (.refl _) fun r1 h => ?_;cbv;refine n_br hE h (fun hc h => ?_) (fun hc h => ?_)
 ·cbv;refine n_call hE (g := fun r2 => .bool r2) h (fun r2 hx => c6 N  r2 hx) (.refl _) fun r2 h => ?_;cbv;have h := ret_some h;subst h;exact hK _ _ _ hO (.refl _)
 ·cbv;refine n_call hE (g := fun r3 => .int .i64 r3) h (fun r3 hx => c5 N x_p r3 hx) (.refl _) fun r3 h => ?_;cbv;refine n_br hE h (fun hc h => ?_) (fun hc h => ?_)
  ·cbv;refine n_call hE (g := fun r4 => .bool r4) h (fun r4 hx => c6 N  r4 hx) (.refl _) fun r4 h => ?_;cbv;have h := ret_some h;subst h;exact hK _ _ _ hO (.refl _)
  ·cbv;refine n_call hE (g := fun r5 => .tup [.sl (Ar.lst Encs.eGPattern r5.1) .ro, .int .i64 r5.2]) h (fun r5 hx => c7 N x_p r5 hx) (.refl _) fun r5 h => ?_;cbv;refine n_br hE h (fun hc h => ?_) (fun hc h => ?_)
   ·cbv;refine n_br hE h (fun hc h => ?_) (fun hc h => ?_)
    ·cbv;refine n_call hE (g := fun r6 => .bool r6) h (fun r6 hx => c6 N  r6 hx) (.refl _) fun r6 h => ?_;cbv;have h := ret_some h;subst h;exact hK _ _ _ hO (.refl _)
    ·cbv;have h := ret_some h;subst h;exact hK _ _ _ hO (.refl _)
   ·cbv;refine n_ln hE ?_;cbv;refine n_br hE h (fun hc h => ?_) (fun hc h => ?_)
    ·cbv;have h := ret_some h;subst h;exact hK _ _ _ hO (.refl _)
    ·cbv;refine n_idx hE Encs.eGPattern_eq h fun x7 h => ?_;cbv;refine n_call hE (g := fun r8 => .bool r8) h (fun r8 hx => c8 N N x7 x_p r8 hx) (.refl _) fun r8 h => ?_;cbv;refine n_br hE h (fun hc h => ?_) (fun hc h => ?_)
     ·cbv;have h := ret_some h;subst h;exact hK _ _ _ hO (.refl _)
     ·cbv;refine n_call hE (g := fun r9 => .sl (Ar.lst (V.int .i64) r9) .ro) h (fun r9 hx => c9 N x_p r9 hx) (.refl _) fun r9 h => ?_;cbv;refine n_ln hE ?_;cbv;obtain ⟨s11, hx, h⟩ := bind_some h;refine n_loopN cf3 hE okP (fun s10 => [(3, .v (.sl (Ar.lst Encs.eGPattern r5.1) .ro)), (5, .v (.sl (Ar.lst (V.int .i64) r9) .ro)), (49, .v (.sl (Ar.lst Encs.eGPattern r5.1) .ro)), (50, .v (.int .i64 (Ar.len r5.1))), (51, .v (.int .i64 s10))]) (fun s10 H1 => Own Eq H0 [] H1) (fun x e l H1 => match (generalizing := false) x with | .inl y => e = .exit 0 ∧ l = [] ∧ Own Eq H0 [] H1 | .inr y => e = .ret ∧ l = [(2, .b false)] ∧ Own Eq H0 [] H1) (by kernel_rfl) ?_ hx ?_ hO ?_
      ·intro s10 H o hO h;clear hx;cbv;refine n_br hE h (fun hc h => ?_) (fun hc h => ?_)
       ·cbv;refine n_idx hE Encs.eGPattern_eq h fun x12 h => ?_;cbv;refine n_alloc hE hO fun b13 H hO => ?_;cbv;refine n_store hE hO 0 rfl rfl fun H hO => ?_;cbv;refine n_load hE hO 0 rfl ?_;cbv;refine n_call hE (g := fun r14 => .tup [.sl (Ar.lst Encs.eGEdge r14.1) .ro, .sl (Ar.lst Encs.eGPattern r14.2.1) .ro, .int .i64 r14.2.2]) h (fun r14 hx => c10 N x12 r14 hx) (.refl _) fun r14 h => ?_;cbv;refine n_ln hE ?_;cbv;refine n_load hE hO 0 rfl ?_;cbv;refine n_br hE h (fun hc h => ?_) (fun hc h => ?_)
        ·cbv;refine n_frz hE hO 0 rfl fun H hO => ?_;cbv;have h := ret_some h;subst h;exact ⟨_, _, rfl, ⟨rfl, rfl, hO⟩, .b rfl (.z), rfl⟩
        ·cbv;refine n_call hE (g := fun r15 => .int .i64 r15) h (fun r15 hx => c11 N x12 r15 hx) (.refl _) fun r15 h => ?_;cbv;refine n_br hE h (fun hc h => ?_) (fun hc h => ?_)
         ·cbv;refine n_frz hE hO 0 rfl fun H hO => ?_;cbv;have h := ret_some h;subst h;exact ⟨_, _, rfl, ⟨rfl, rfl, hO⟩, .b rfl (.z), rfl⟩
         ·cbv;refine n_slice hE sz_GPattern h fun l16 t17 h => ?_;cbv;refine n_frz hE hO 0 rfl fun H hO => ?_;cbv;refine n_call hE (g := fun r18 => .bool r18) h (fun r18 hx => c12 N l16 (.func (.func 13) [] [.eref [.int .i64 x12.Op, .sl (Ar.lst Encs.eGPattern x12.Args) .ro, .int .i64 x12.Typ, .int .i64 x12.Var, .int .i64 x12.Scope, .int .i64 x12.Span, .int .i64 x12.Cond.Op, .sl (Ar.lst Encs.eGExpr x12.Cond.Args) .ro, .int .i64 x12.Cond.Var, .int .i64 x12.Cond.Field, .int .i64 x12.Cond.Kind, .int .i64 x12.Cond.Value.Kind, .int .i64 x12.Cond.Value.Num, .str x12.Cond.Value.Text] 0]) (fun y1 => law22_DerivativeCloses_1 N y1 x12) (fun y1 r hx => CallP.value (F := []) (C := [.eref [.int .i64 x12.Op, .sl (Ar.lst Encs.eGPattern x12.Args) .ro, .int .i64 x12.Typ, .int .i64 x12.Var, .int .i64 x12.Scope, .int .i64 x12.Span, .int .i64 x12.Cond.Op, .sl (Ar.lst Encs.eGExpr x12.Cond.Args) .ro, .int .i64 x12.Cond.Var, .int .i64 x12.Cond.Field, .int .i64 x12.Cond.Kind, .int .i64 x12.Cond.Value.Kind, .int .i64 x12.Cond.Value.Num, .str x12.Cond.Value.Text] 0]) (c13 N y1 x12 r hx)) r18 hx) (.cons (.ro _ _) (.refl _)) fun r18 h => ?_;cbv;refine n_br hE h (fun hc h => ?_) (fun hc h => ?_)
          ·cbv;have h := ret_some h;subst h;exact ⟨_, _, rfl, ⟨rfl, rfl, hO⟩, .b rfl (.z), rfl⟩
          ·cbv;refine n_ln hE ?_;cbv;obtain ⟨s20, hx, h⟩ := bind_some h;refine n_loopN cf3 hE okP (fun s19 => [(3, .v (.sl (Ar.lst Encs.eGPattern r5.1) .ro)), (5, .v (.sl (Ar.lst (V.int .i64) r9) .ro)), (8, .v (.sl (Ar.lst Encs.eGEdge r14.1) .ro)), (9, .v (.sl (Ar.lst Encs.eGPattern r14.2.1) .ro)), (49, .v (.sl (Ar.lst Encs.eGPattern r5.1) .ro)), (50, .v (.int .i64 (Ar.len r5.1))), (51, .v (.int .i64 s10)), (81, .v (.sl (Ar.lst Encs.eGPattern r14.2.1) .ro)), (82, .v (.int .i64 (Ar.len r14.2.1))), (83, .v (.int .i64 s19))]) (fun s19 H1 => Own Eq H0 [] H1) (fun x e l H1 => match (generalizing := false) x with | .inl y => e = .exit 2 ∧ l = [(3, .v (.sl (Ar.lst Encs.eGPattern r5.1) .ro)), (5, .v (.sl (Ar.lst (V.int .i64) r9) .ro)), (8, .v (.sl (Ar.lst Encs.eGEdge r14.1) .ro)), (9, .v (.sl (Ar.lst Encs.eGPattern r14.2.1) .ro)), (49, .v (.sl (Ar.lst Encs.eGPattern r5.1) .ro)), (50, .v (.int .i64 (Ar.len r5.1))), (51, .v (.int .i64 s10))] ∧ Own Eq H0 [] H1 | .inr y => e = .ret ∧ l = [(2, .b false)] ∧ Own Eq H0 [] H1) (by kernel_rfl) ?_ hx ?_ hO ?_
           ·intro s19 H o hO h;clear hx;cbv;refine n_br hE h (fun hc h => ?_) (fun hc h => ?_)
            ·cbv;refine n_idx hE Encs.eGPattern_eq h fun x21 h => ?_;cbv;refine n_call hE (g := fun r22 => .bool r22) h (fun r22 hx => c12 N r5.1 (.func (.func 14) [] [.eref [.int .i64 x21.Op, .sl (Ar.lst Encs.eGPattern x21.Args) .ro, .int .i64 x21.Typ, .int .i64 x21.Var, .int .i64 x21.Scope, .int .i64 x21.Span, .int .i64 x21.Cond.Op, .sl (Ar.lst Encs.eGExpr x21.Cond.Args) .ro, .int .i64 x21.Cond.Var, .int .i64 x21.Cond.Field, .int .i64 x21.Cond.Kind, .int .i64 x21.Cond.Value.Kind, .int .i64 x21.Cond.Value.Num, .str x21.Cond.Value.Text] 0]) (fun y1 => law22_DerivativeCloses_2 N y1 x21) (fun y1 r hx => CallP.value (F := []) (C := [.eref [.int .i64 x21.Op, .sl (Ar.lst Encs.eGPattern x21.Args) .ro, .int .i64 x21.Typ, .int .i64 x21.Var, .int .i64 x21.Scope, .int .i64 x21.Span, .int .i64 x21.Cond.Op, .sl (Ar.lst Encs.eGExpr x21.Cond.Args) .ro, .int .i64 x21.Cond.Var, .int .i64 x21.Cond.Field, .int .i64 x21.Cond.Kind, .int .i64 x21.Cond.Value.Kind, .int .i64 x21.Cond.Value.Num, .str x21.Cond.Value.Text] 0]) (c14 N y1 x21 r hx)) r22 hx) (.refl _) fun r22 h => ?_;cbv;refine n_br hE h (fun hc h => ?_) (fun hc h => ?_)
             ·cbv;have h := ret_some h;subst h;exact ⟨_, _, rfl, ⟨rfl, rfl, hO⟩, .b rfl (.z), rfl⟩
             ·cbv;have h := ret_some h;subst h;exact ⟨_, rfl, .e rfl (.e rfl (.e rfl (.e rfl (.e rfl (.e rfl (.e rfl (.e rfl (.e rfl (.e rfl (.z)))))))))), rfl, hO⟩
            ·cbv;have h := ret_some h;subst h;exact ⟨_, _, rfl, ⟨rfl, rfl, hO⟩, .e rfl (.e rfl (.e rfl (.e rfl (.e rfl (.e rfl (.e rfl (.z))))))), rfl⟩
           ·exact .e rfl (.e rfl (.e rfl (.e rfl (.e rfl (.e rfl (.e rfl (.e rfl (.e rfl (.e rfl (.z))))))))))
           ·clear hx
            rcases s20 with y23 | y30
            ·rintro e l H ⟨rfl, rfl, hO⟩;cbv;refine n_ln hE ?_;cbv;obtain ⟨s25, hx, h⟩ := bind_some h;refine n_loopN cf3 hE okP (fun s24 => [(3, .v (.sl (Ar.lst Encs.eGPattern r5.1) .ro)), (5, .v (.sl (Ar.lst (V.int .i64) r9) .ro)), (9, .v (.sl (Ar.lst Encs.eGPattern r14.2.1) .ro)), (49, .v (.sl (Ar.lst Encs.eGPattern r5.1) .ro)), (50, .v (.int .i64 (Ar.len r5.1))), (51, .v (.int .i64 s10)), (92, .v (.sl (Ar.lst Encs.eGEdge r14.1) .ro)), (93, .v (.int .i64 (Ar.len r14.1))), (94, .v (.int .i64 s24))]) (fun s24 H1 => Own Eq H0 [] H1) (fun x e l H1 => match (generalizing := false) x with | .inl y => e = .exit 4 ∧ l = [(3, .v (.sl (Ar.lst Encs.eGPattern r5.1) .ro)), (5, .v (.sl (Ar.lst (V.int .i64) r9) .ro)), (49, .v (.sl (Ar.lst Encs.eGPattern r5.1) .ro)), (50, .v (.int .i64 (Ar.len r5.1))), (51, .v (.int .i64 s10))] ∧ Own Eq H0 [] H1 | .inr y => e = .ret ∧ l = [(2, .b false)] ∧ Own Eq H0 [] H1) (by kernel_rfl) ?_ hx ?_ hO ?_
             ·intro s24 H o hO h;clear hx;cbv;refine n_br hE h (fun hc h => ?_) (fun hc h => ?_)
              ·cbv;refine n_idx hE Encs.eGEdge_eq h fun x26 h => ?_;cbv;refine n_call hE (g := fun r27 => .bool r27) h (fun r27 hx => c15 N r9 x26.Var r27 hx) (.refl _) fun r27 h => ?_;cbv;refine n_ln hE ?_;cbv;refine n_br hE h (fun hc h => ?_) (fun hc h => ?_)
               ·cbv;have h := ret_some h;subst h;exact ⟨_, _, rfl, ⟨rfl, rfl, hO⟩, .b rfl (.z), rfl⟩
               ·cbv;have h := ret_some h;subst h;exact ⟨_, rfl, .e rfl (.e rfl (.e rfl (.e rfl (.e rfl (.e rfl (.e rfl (.e rfl (.e rfl (.z))))))))), rfl, hO⟩
              ·cbv;have h := ret_some h;subst h;exact ⟨_, _, rfl, ⟨rfl, rfl, hO⟩, .e rfl (.e rfl (.e rfl (.e rfl (.e rfl (.z))))), rfl⟩
             ·exact .e rfl (.e rfl (.e rfl (.e rfl (.e rfl (.e rfl (.e rfl (.e rfl (.e rfl (.z)))))))))
             ·clear hx
              rcases s25 with y28 | y29
              ·rintro e l H ⟨rfl, rfl, hO⟩;cbv;have h := ret_some h;subst h;exact ⟨_, rfl, .e rfl (.e rfl (.e rfl (.e rfl (.e rfl (.z))))), rfl, hO⟩
              ·rintro e l H ⟨rfl, rfl, hO⟩;cbv;have h := ret_some h;subst h;exact ⟨_, _, rfl, ⟨rfl, rfl, hO⟩, .b rfl (.z), rfl⟩
            ·rintro e l H ⟨rfl, rfl, hO⟩;cbv;have h := ret_some h;subst h;exact ⟨_, _, rfl, ⟨rfl, rfl, hO⟩, .b rfl (.z), rfl⟩
       ·cbv;have h := ret_some h;subst h;exact ⟨_, _, rfl, ⟨rfl, rfl, hO⟩, .z, rfl⟩
      ·exact .e rfl (.e rfl (.e rfl (.e rfl (.e rfl (.z)))))
      ·clear hx
       rcases s11 with y31 | y33
       ·rintro e l H ⟨rfl, rfl, hO⟩;cbv;refine n_call hE (g := fun r32 => .bool r32) h (fun r32 hx => c6 N  r32 hx) (.refl _) fun r32 h => ?_;cbv;have h := ret_some h;subst h;exact hK _ _ _ hO (.refl _)
       ·rintro e l H ⟨rfl, rfl, hO⟩;cbv;have h := ret_some h;subst h;exact hK _ _ _ hO (.refl _)
end Go.Ab

