/- GSCo3 -/
import Derived.Test.YtbjdkpckplopdaaGreatT34
set_option linter.all false

namespace Go.Ab
open Go.RowKit Go.Proofs
variable [Ar] [Encs]
set_option maxRecDepth 100000
def cf19 : Cf := ⟨[6], [], [], [], [], []⟩
theorem c19 (N : Nat) (x_op : Int) (x_a : GExpr) (x_b : GExpr) (r : GExpr) (h : law26_two N x_op x_a x_b = some r) : CallP Tryz.prog 19 [.int .i64 x_op, .agg [.int .i64 x_a.Op, .sl (Ar.lst Encs.eGExpr x_a.Args) .ro, .int .i64 x_a.Var, .int .i64 x_a.Field, .int .i64 x_a.Kind, .int .i64 x_a.Value.Kind, .int .i64 x_a.Value.Num, .str x_a.Value.Text], .agg [.int .i64 x_b.Op, .sl (Ar.lst Encs.eGExpr x_b.Args) .ro, .int .i64 x_b.Var, .int .i64 x_b.Field, .int .i64 x_b.Kind, .int .i64 x_b.Value.Kind, .int .i64 x_b.Value.Num, .str x_b.Value.Text]] (.agg [.int .i64 r.Op, .sl (Ar.lst Encs.eGExpr r.Args) .ro, .int .i64 r.Var, .int .i64 r.Field, .int .i64 r.Kind, .int .i64 r.Value.Kind, .int .i64 r.Value.Num, .str r.Value.Text]) := by
 unfold law26_two at h
 refine callP_of_spec cf19 okP Tryz.func19 (by rfl) (by kernel_rfl) Tryz.call19 Tryz.ntmps19 (by rfl) (by rfl) ?_;intro E H0 K hE hK
 have hO : Own Eq H0 [] H0 := .start stable_eq rfl
 cbv;refine n_alloc hE hO fun b1 H hO => ?_;cbv;refine n_store hE hO 0 rfl rfl fun H hO => ?_;cbv;refine n_load hE hO 0 rfl ?_;cbv;have h := ret_some h;subst h;exact hK _ _ _ hO (.agg (.cons (.refl _) (.cons (.lit _ (lst_cons ((Encs.eGExpr_eq x_a).symm) (lst_cons ((Encs.eGExpr_eq x_b).symm) (lst_nil)))) (.refl _))))
def cf20 : Cf := ⟨[4], [], [], [], [], []⟩
theorem c20 (N : Nat) (x_v : Int) (x_f : Int) (r : GExpr) (h : law26_field N x_v x_f = some r) : CallP Tryz.prog 20 [.int .i64 x_v, .int .i64 x_f] (.agg [.int .i64 r.Op, .sl (Ar.lst Encs.eGExpr r.Args) .ro, .int .i64 r.Var, .int .i64 r.Field, .int .i64 r.Kind, .int .i64 r.Value.Kind, .int .i64 r.Value.Num, .str r.Value.Text]) := by
 unfold law26_field at h
 refine callP_of_spec cf20 okP Tryz.func20 (by rfl) (by kernel_rfl) Tryz.call20 Tryz.ntmps20 (by rfl) (by rfl) ?_;intro E H0 K hE hK
 have hO : Own Eq H0 [] H0 := .start stable_eq rfl
 cbv;refine n_alloc hE hO fun b1 H hO => ?_;cbv;refine n_store hE hO 0 rfl rfl fun H hO => ?_;cbv;refine n_load hE hO 0 rfl ?_;cbv;have h := ret_some h;subst h;exact hK _ _ _ hO (.agg (.cons (.refl _) (.cons (.lit _ (lst_nil)) (.refl _))))
def cf21 : Cf := ⟨[2], [], [], [], [], []⟩
theorem c21 (N : Nat) (x_b : Bool) (r : GValue) (h : ref08_Flag N x_b = some r) : CallP Tryz.prog 21 [.bool x_b] (.agg [.int .i64 r.Kind, .int .i64 r.Num, .str r.Text]) := by
 unfold ref08_Flag at h
 refine callP_of_spec cf21 okP Tryz.func21 (by rfl) (by kernel_rfl) Tryz.call21 Tryz.ntmps21 (by rfl) (by rfl) ?_;intro E H0 K hE hK
 have hO : Own Eq H0 [] H0 := .start stable_eq rfl
 cbv;refine n_alloc hE hO fun b1 H hO => ?_;cbv;refine n_br hE h (fun hc h => ?_) (fun hc h => ?_)
 ·cbv;refine n_store hE hO 0 rfl rfl fun H hO => ?_;cbv;refine n_load hE hO 0 rfl ?_;cbv;have h := ret_some h;subst h;exact hK _ _ _ hO (.refl _)
 ·cbv;refine n_store hE hO 0 rfl rfl fun H hO => ?_;cbv;refine n_load hE hO 0 rfl ?_;cbv;have h := ret_some h;subst h;exact hK _ _ _ hO (.refl _)
def cf22 : Cf := ⟨[], [(6, 8)], [], [], [], []⟩
theorem c22 (N : Nat) (x_a : List GNeed) (x_b : List GNeed) (r : Bool) (h : ref26_Same N x_a x_b = some r) : CallP Tryz.prog 22 [.sl (Ar.lst Encs.eGNeed x_a) .ro, .sl (Ar.lst Encs.eGNeed x_b) .ro] (.bool r) := by
 unfold ref26_Same at h
 refine callP_of_spec cf22 okP Tryz.func22 (by rfl) (by kernel_rfl) Tryz.call22 Tryz.ntmps22 (by rfl) (by rfl) ?_;intro E H0 K hE hK
 have hO : Own Eq H0 [] H0 := .start stable_eq rfl
 cbv;refine n_ln hE ?_;cbv;refine n_ln hE ?_;cbv;refine n_br hE h (fun hc h => ?_) (fun hc h => ?_)
 ·cbv;have h := ret_some h;subst h;exact hK _ _ _ hO (.refl _)
 ·cbv;obtain ⟨s2, hx, h⟩ := bind_some h;refine n_loopN cf22 hE okP (fun s1 => [(0, .v (.sl (Ar.lst Encs.eGNeed x_a) .ro)), (1, .v (.sl (Ar.lst Encs.eGNeed x_b) .ro)), (5, .v (.int .i64 s1))]) (fun s1 H1 => Own Eq H0 [] H1) (fun x e l H1 => match (generalizing := false) x with | .inl y => e = .exit 0 ∧ l = [] ∧ Own Eq H0 [] H1 | .inr y => e = .ret ∧ l = [(4, .b false)] ∧ Own Eq H0 [] H1) (by kernel_rfl) ?_ hx ?_ hO ?_
  ·intro s1 H o hO h;clear hx;cbv;refine n_ln hE ?_;cbv;refine n_br hE h (fun hc h => ?_) (fun hc h => ?_)
   ·cbv;refine n_idx hE Encs.eGNeed_eq h fun x3 h => ?_;cbv;refine n_idx hE Encs.eGNeed_eq h fun x4 h => ?_;cbv;refine n_br hE h (fun hc h => ?_) (fun hc h => ?_)
    ·cbv;have h := ret_some h;subst h;exact ⟨_, _, rfl, ⟨rfl, rfl, hO⟩, .b rfl (.z), rfl⟩
    ·cbv;have h := ret_some h;subst h;exact ⟨_, rfl, .e rfl (.e rfl (.e rfl (.z))), rfl, hO⟩
   ·cbv;have h := ret_some h;subst h;exact ⟨_, _, rfl, ⟨rfl, rfl, hO⟩, .z, rfl⟩
  ·exact .e rfl (.e rfl (.e rfl (.z)))
  ·clear hx
   rcases s2 with y5 | y6
   ·rintro e l H ⟨rfl, rfl, hO⟩;cbv;have h := ret_some h;subst h;exact hK _ _ _ hO (.refl _)
   ·rintro e l H ⟨rfl, rfl, hO⟩;cbv;have h := ret_some h;subst h;exact hK _ _ _ hO (.refl _)
def cf23 : Cf := ⟨[], [(6, 8)], [], [], [], []⟩
theorem c23 (N : Nat) (x_a : List (List GNeed)) (x_b : List (List GNeed)) (r : Bool) (h : ref26_SameAll N x_a x_b = some r) : CallP Tryz.prog 23 [.sl (Ar.lst Encs.eLGNeed x_a) .ro, .sl (Ar.lst Encs.eLGNeed x_b) .ro] (.bool r) := by
 unfold ref26_SameAll at h
 refine callP_of_spec cf23 okP Tryz.func23 (by rfl) (by kernel_rfl) Tryz.call23 Tryz.ntmps23 (by rfl) (by rfl) ?_;intro E H0 K hE hK
 have hO : Own Eq H0 [] H0 := .start stable_eq rfl
 cbv;refine n_ln hE ?_;cbv;refine n_ln hE ?_;cbv;refine n_br hE h (fun hc h => ?_) (fun hc h => ?_)
 ·cbv;have h := ret_some h;subst h;exact hK _ _ _ hO (.refl _)
 ·cbv;obtain ⟨s2, hx, h⟩ := bind_some h;refine n_loopN cf23 hE okP (fun s1 => [(0, .v (.sl (Ar.lst Encs.eLGNeed x_a) .ro)), (1, .v (.sl (Ar.lst Encs.eLGNeed x_b) .ro)), (5, .v (.int .i64 s1))]) (fun s1 H1 => Own Eq H0 [] H1) (fun x e l H1 => match (generalizing := false) x with | .inl y => e = .exit 0 ∧ l = [] ∧ Own Eq H0 [] H1 | .inr y => e = .ret ∧ l = [(4, .b false)] ∧ Own Eq H0 [] H1) (by kernel_rfl) ?_ hx ?_ hO ?_
  ·intro s1 H o hO h;clear hx;cbv;refine n_ln hE ?_;cbv;refine n_br hE h (fun hc h => ?_) (fun hc h => ?_)
   ·cbv;refine n_idx hE Encs.eLGNeed_eq h fun x3 h => ?_;cbv;refine n_idx hE Encs.eLGNeed_eq h fun x4 h => ?_;cbv;refine n_call hE (g := fun r5 => .bool r5) h (fun r5 hx => c22 N x3 x4 r5 hx) (.refl _) fun r5 h => ?_;cbv;refine n_br hE h (fun hc h => ?_) (fun hc h => ?_)
    ·cbv;have h := ret_some h;subst h;exact ⟨_, _, rfl, ⟨rfl, rfl, hO⟩, .b rfl (.z), rfl⟩
    ·cbv;have h := ret_some h;subst h;exact ⟨_, rfl, .e rfl (.e rfl (.e rfl (.z))), rfl, hO⟩
   ·cbv;have h := ret_some h;subst h;exact ⟨_, _, rfl, ⟨rfl, rfl, hO⟩, .z, rfl⟩
  ·exact .e rfl (.e rfl (.e rfl (.z)))
  ·clear hx
   rcases s2 with y6 | y7
   ·rintro e l H ⟨rfl, rfl, hO⟩;cbv;have h := ret_some h;subst h;exact hK _ _ _ hO (.refl _)
   ·rintro e l H ⟨rfl, rfl, hO⟩;cbv;have h := ret_some h;subst h;exact hK _ _ _ hO (.refl _)
def cf24 : Cf := ⟨[], [(6, 12), (11, 20), (17, 10)], [], [], [], []⟩
theorem c24 (N : Nat) (x_a : GEnv) (x_b : GEnv) (r : Bool) (h : ref26_SameEnv N x_a x_b = some r) : CallP Tryz.prog 24 [.agg [.sl (Ar.lst Encs.eLGEvent x_a.Vars) .ro], .agg [.sl (Ar.lst Encs.eLGEvent x_b.Vars) .ro]] (.bool r) := by
 unfold ref26_SameEnv at h
 refine callP_of_spec cf24 okP Tryz.func24 (by rfl) (by kernel_rfl) Tryz.call24 Tryz.ntmps24 (by rfl) (by rfl) ?_;intro E H0 K hE hK
 have hO : Own Eq H0 [] H0 := .start stable_eq rfl
 cbv;refine n_ln hE ?_;cbv;refine n_ln hE ?_;cbv;refine n_br hE h (fun hc h => ?_) (fun hc h => ?_)
 ·cbv;have h := ret_some h;subst h;exact hK _ _ _ hO (.refl _)
 ·cbv;obtain ⟨s2, hx, h⟩ := bind_some h;refine n_loopN cf24 hE okP (fun s1 => [(2, .v (.eref [.sl (Ar.lst Encs.eLGEvent x_a.Vars) .ro] 0)), (3, .v (.eref [.sl (Ar.lst Encs.eLGEvent x_b.Vars) .ro] 0)), (5, .v (.int .i64 s1))]) (fun s1 H1 => Own Eq H0 [] H1) (fun x e l H1 => match (generalizing := false) x with | .inl y => e = .exit 0 ∧ l = [] ∧ Own Eq H0 [] H1 | .inr y => e = .ret ∧ l = [(4, .b false)] ∧ Own Eq H0 [] H1) (by kernel_rfl) ?_ hx ?_ hO ?_
  ·intro s1 H o hO h;clear hx;cbv;refine n_ln hE ?_;cbv;refine n_br hE h (fun hc h => ?_) (fun hc h => ?_)
   ·cbv;refine n_idx hE Encs.eLGEvent_eq h fun x3 h => ?_;cbv;refine n_ln hE ?_;cbv;refine n_idx hE Encs.eLGEvent_eq h fun x4 h => ?_;cbv;refine n_ln hE ?_;cbv;refine n_br hE h (fun hc h => ?_) (fun hc h => ?_)
    ·cbv;have h := ret_some h;subst h;exact ⟨_, _, rfl, ⟨rfl, rfl, hO⟩, .b rfl (.z), rfl⟩
    ·cbv;obtain ⟨s6, hx, h⟩ := bind_some h;refine n_loopN cf24 hE okP (fun s5 => [(2, .v (.eref [.sl (Ar.lst Encs.eLGEvent x_a.Vars) .ro] 0)), (3, .v (.eref [.sl (Ar.lst Encs.eLGEvent x_b.Vars) .ro] 0)), (5, .v (.int .i64 s1)), (6, .v (.int .i64 s5))]) (fun s5 H1 => Own Eq H0 [] H1) (fun x e l H1 => match (generalizing := false) x with | .inl y => e = .exit 2 ∧ l = [(2, .v (.eref [.sl (Ar.lst Encs.eLGEvent x_a.Vars) .ro] 0)), (3, .v (.eref [.sl (Ar.lst Encs.eLGEvent x_b.Vars) .ro] 0)), (5, .v (.int .i64 s1))] ∧ Own Eq H0 [] H1 | .inr y => e = .ret ∧ l = [(4, .b false)] ∧ Own Eq H0 [] H1) (by kernel_rfl) ?_ hx ?_ hO ?_
     ·intro s5 H o hO h;clear hx;cbv;refine n_idx hE Encs.eLGEvent_eq h fun x7 h => ?_;cbv;refine n_ln hE ?_;cbv;refine n_br hE h (fun hc h => ?_) (fun hc h => ?_)
      ·cbv;refine n_idx hE Encs.eLGEvent_eq h fun x8 h => ?_;cbv;refine n_idx hE Encs.eGEvent_eq h fun x9 h => ?_;cbv;refine n_idx hE Encs.eLGEvent_eq h fun x10 h => ?_;cbv;refine n_idx hE Encs.eGEvent_eq h fun x11 h => ?_;cbv;refine n_ln hE ?_;cbv;refine n_ln hE ?_;cbv;refine n_br hE h (fun hc h => ?_) (fun hc h => ?_)
       ·cbv;have h := ret_some h;subst h;exact ⟨_, _, rfl, ⟨rfl, rfl, hO⟩, .b rfl (.z), rfl⟩
       ·cbv;obtain ⟨s13, hx, h⟩ := bind_some h;refine n_loopN cf24 hE okP (fun s12 => [(2, .v (.eref [.sl (Ar.lst Encs.eLGEvent x_a.Vars) .ro] 0)), (3, .v (.eref [.sl (Ar.lst Encs.eLGEvent x_b.Vars) .ro] 0)), (5, .v (.int .i64 s1)), (6, .v (.int .i64 s5)), (7, .v (.eref [.int .i64 x9.Source, .int .i64 x9.Seq, .int .i64 x9.Typ, .int .i64 x9.Time, .sl (Ar.lst Encs.eGValue x9.Values) .ro] 0)), (8, .v (.eref [.int .i64 x11.Source, .int .i64 x11.Seq, .int .i64 x11.Typ, .int .i64 x11.Time, .sl (Ar.lst Encs.eGValue x11.Values) .ro] 0)), (9, .v (.int .i64 s12))]) (fun s12 H1 => Own Eq H0 [] H1) (fun x e l H1 => match (generalizing := false) x with | .inl y => e = .exit 4 ∧ l = [(2, .v (.eref [.sl (Ar.lst Encs.eLGEvent x_a.Vars) .ro] 0)), (3, .v (.eref [.sl (Ar.lst Encs.eLGEvent x_b.Vars) .ro] 0)), (5, .v (.int .i64 s1)), (6, .v (.int .i64 s5))] ∧ Own Eq H0 [] H1 | .inr y => e = .ret ∧ l = [(4, .b false)] ∧ Own Eq H0 [] H1) (by kernel_rfl) ?_ hx ?_ hO ?_
        ·intro s12 H o hO h;clear hx;cbv;refine n_ln hE ?_;cbv;refine n_br hE h (fun hc h => ?_) (fun hc h => ?_)
         ·cbv;refine n_idx hE Encs.eGValue_eq h fun x14 h => ?_;cbv;refine n_idx hE Encs.eGValue_eq h fun x15 h => ?_;cbv;refine n_br hE h (fun hc h => ?_) (fun hc h => ?_)
          ·cbv;have h := ret_some h;subst h;exact ⟨_, _, rfl, ⟨rfl, rfl, hO⟩, .b rfl (.z), rfl⟩
          ·cbv;have h := ret_some h;subst h;exact ⟨_, rfl, .e rfl (.e rfl (.e rfl (.e rfl (.e rfl (.e rfl (.e rfl (.z))))))), rfl, hO⟩
         ·cbv;have h := ret_some h;subst h;exact ⟨_, _, rfl, ⟨rfl, rfl, hO⟩, .e rfl (.e rfl (.e rfl (.e rfl (.z)))), rfl⟩
        ·exact .e rfl (.e rfl (.e rfl (.e rfl (.e rfl (.e rfl (.e rfl (.z)))))))
        ·clear hx
         rcases s13 with y16 | y17
         ·rintro e l H ⟨rfl, rfl, hO⟩;cbv;have h := ret_some h;subst h;exact ⟨_, rfl, .e rfl (.e rfl (.e rfl (.e rfl (.z)))), rfl, hO⟩
         ·rintro e l H ⟨rfl, rfl, hO⟩;cbv;have h := ret_some h;subst h;exact ⟨_, _, rfl, ⟨rfl, rfl, hO⟩, .b rfl (.z), rfl⟩
      ·cbv;have h := ret_some h;subst h;exact ⟨_, _, rfl, ⟨rfl, rfl, hO⟩, .e rfl (.e rfl (.e rfl (.z))), rfl⟩
     ·exact .e rfl (.e rfl (.e rfl (.e rfl (.z))))
     ·clear hx
      rcases s6 with y18 | y19
      ·rintro e l H ⟨rfl, rfl, hO⟩;cbv;have h := ret_some h;subst h;exact ⟨_, rfl, .e rfl (.e rfl (.e rfl (.z))), rfl, hO⟩
      ·rintro e l H ⟨rfl, rfl, hO⟩;cbv;have h := ret_some h;subst h;exact ⟨_, _, rfl, ⟨rfl, rfl, hO⟩, .b rfl (.z), rfl⟩
   ·cbv;have h := ret_some h;subst h;exact ⟨_, _, rfl, ⟨rfl, rfl, hO⟩, .z, rfl⟩
  ·exact .e rfl (.e rfl (.e rfl (.z)))
  ·clear hx
   rcases s2 with y20 | y21
   ·rintro e l H ⟨rfl, rfl, hO⟩;cbv;have h := ret_some h;subst h;exact hK _ _ _ hO (.refl _)
   ·rintro e l H ⟨rfl, rfl, hO⟩;cbv;have h := ret_some h;subst h;exact hK _ _ _ hO (.refl _)
def cf7 : Cf := ⟨[], [(2, 10), (4, 11)], [], [], [], []⟩
theorem c7 (N : Nat) (r : Bool) (h : law26_awake N  = some r) : CallP Tryz.prog 7 [] (.bool r) := by
 unfold law26_awake at h
 refine callP_of_spec cf7 okP Tryz.func7 (by rfl) (by kernel_rfl) Tryz.call7 Tryz.ntmps7 (by rfl) (by rfl) ?_;intro E H0 K hE hK
 have hO : Own Eq H0 [] H0 := .start stable_eq rfl
 cbv;refine n_pcall hE (g := fun r1 => .agg [.int .i64 r1.Op, .sl (Ar.lst Encs.eGExpr r1.Args) .ro, .int .i64 r1.Var, .int .i64 r1.Field, .int .i64 r1.Kind, .int .i64 r1.Value.Kind, .int .i64 r1.Value.Num, .str r1.Value.Text]) h (fun r1 hx => c20 N 0 0 r1 hx) (.refl _) fun r1 h => ?_;cbv;refine n_pcall hE (g := fun r2 => .agg [.int .i64 r2.Op, .sl (Ar.lst Encs.eGExpr r2.Args) .ro, .int .i64 r2.Var, .int .i64 r2.Field, .int .i64 r2.Kind, .int .i64 r2.Value.Kind, .int .i64 r2.Value.Num, .str r2.Value.Text]) h (fun r2 hx => c19 N 5 (⟨4, [], 1, 1, 5, (⟨0, 0, ⟨#[]⟩⟩ : GValue)⟩ : GExpr) (⟨2, [], 2, 0, 0, (⟨0, 0, ⟨#[]⟩⟩ : GValue)⟩ : GExpr) r2 hx) (.cons (.refl _) (.cons (.agg (.cons (.refl _) (.cons (.lit _ (lst_nil)) (.refl _)))) (.cons (.agg (.cons (.refl _) (.cons (.lit _ (lst_nil)) (.refl _)))) (.refl _)))) fun r2 h => ?_;cbv;refine n_pcall hE (g := fun r3 => .agg [.int .i64 r3.Op, .sl (Ar.lst Encs.eGExpr r3.Args) .ro, .int .i64 r3.Var, .int .i64 r3.Field, .int .i64 r3.Kind, .int .i64 r3.Value.Kind, .int .i64 r3.Value.Num, .str r3.Value.Text]) h (fun r3 hx => c19 N 7 r1 r2 r3 hx) (.refl _) fun r3 h => ?_;cbv;refine n_pcall hE (g := fun r4 => .tup [.sl (Ar.lst Encs.eGNeed r4.1) .ro, .int .i64 r4.2]) h (fun r4 hx => c8 N r3 2 r4 hx) (.refl _) fun r4 h => ?_;cbv;refine n_call hE (g := fun r5 => .agg [.int .i64 r5.Kind, .int .i64 r5.Num, .str r5.Text]) h (fun r5 hx => c21 N true r5 hx) (.refl _) fun r5 h => ?_;cbv;refine n_pcall hE (g := fun r6 => .agg [.int .i64 r6.Op, .sl (Ar.lst Encs.eGExpr r6.Args) .ro, .int .i64 r6.Var, .int .i64 r6.Field, .int .i64 r6.Kind, .int .i64 r6.Value.Kind, .int .i64 r6.Value.Num, .str r6.Value.Text]) h (fun r6 hx => c20 N 0 0 r6 hx) (.refl _) fun r6 h => ?_;cbv;refine n_pcall hE (g := fun r7 => .agg [.int .i64 r7.Op, .sl (Ar.lst Encs.eGExpr r7.Args) .ro, .int .i64 r7.Var, .int .i64 r7.Field, .int .i64 r7.Kind, .int .i64 r7.Value.Kind, .int .i64 r7.Value.Num, .str r7.Value.Text]) h (fun r7 hx => c20 N 1 0 r7 hx) (.refl _) fun r7 h => ?_;cbv;refine n_pcall hE (g := fun r8 => .agg [.int .i64 r8.Op, .sl (Ar.lst Encs.eGExpr r8.Args) .ro, .int .i64 r8.Var, .int .i64 r8.Field, .int .i64 r8.Kind, .int .i64 r8.Value.Kind, .int .i64 r8.Value.Num, .str r8.Value.Text]) h (fun r8 hx => c19 N 7 r6 r7 r8 hx) (.refl _) fun r8 h => ?_;cbv;refine n_call hE (g := fun r9 => .tup [.sl (Ar.lst Encs.eLGNeed r9.1) .ro, .int .i64 r9.2]) h (fun r9 hx => c14 N (⟨2, 0, [(⟨[]⟩ : GState), (⟨[]⟩ : GState)], [(⟨0, 1, 0, 0, (⟨0, [], 0, 0, 0, r5⟩ : GExpr), [], [], [], [], []⟩ : GEdge), (⟨1, (-1), 1, 1, r8, [], [], [], [], []⟩ : GEdge)]⟩ : GAutomaton) r9 hx) (.cons (.agg (.cons (.refl _) (.cons (.refl _) (.cons (.sl _ (.lstc (.eq (Encs.eGState_eq (⟨[]⟩ : GState)) (.agg (.cons (.lit _ (lst_nil)) (.refl _)))) (.lstc (.eq (Encs.eGState_eq (⟨[]⟩ : GState)) (.agg (.cons (.lit _ (lst_nil)) (.refl _)))) (.lst0)))) (.cons (.sl _ (.lstc (.eq (Encs.eGEdge_eq (⟨0, 1, 0, 0, (⟨0, [], 0, 0, 0, r5⟩ : GExpr), [], [], [], [], []⟩ : GEdge)) (.agg (.cons (.refl _) (.cons (.refl _) (.cons (.refl _) (.cons (.refl _) (.cons (.refl _) (.cons (.lit _ (lst_nil)) (.cons (.refl _) (.cons (.refl _) (.cons (.refl _) (.cons (.refl _) (.cons (.refl _) (.cons (.refl _) (.cons (.lit _ (lst_nil)) (.cons (.lit _ (lst_nil)) (.cons (.lit _ (lst_nil)) (.cons (.lit _ (lst_nil)) (.cons (.lit _ (lst_nil)) (.refl _)))))))))))))))))))) (.lstc (.eq (Encs.eGEdge_eq (⟨1, (-1), 1, 1, r8, [], [], [], [], []⟩ : GEdge)) (.agg (.cons (.refl _) (.cons (.refl _) (.cons (.refl _) (.cons (.refl _) (.cons (.refl _) (.cons (.refl _) (.cons (.refl _) (.cons (.refl _) (.cons (.refl _) (.cons (.refl _) (.cons (.refl _) (.cons (.refl _) (.cons (.lit _ (lst_nil)) (.cons (.lit _ (lst_nil)) (.cons (.lit _ (lst_nil)) (.cons (.lit _ (lst_nil)) (.cons (.lit _ (lst_nil)) (.refl _)))))))))))))))))))) (.lst0)))) (.refl _)))))) (.refl _)) fun r9 h => ?_;cbv;refine n_call hE (g := fun r10 => .tup [.agg [.sl (Ar.lst Encs.eLGEvent r10.1.Vars) .ro], .int .i64 r10.2]) h (fun r10 hx => c10 N ([(⟨0, 1, 0⟩ : GNeed)]) (⟨[[(⟨0, 0, 0, 3, [(⟨0, 1, ⟨#[]⟩⟩ : GValue), (⟨0, 2, ⟨#[]⟩⟩ : GValue)]⟩ : GEvent), (⟨0, 0, 0, 4, [(⟨0, 3, ⟨#[]⟩⟩ : GValue), (⟨0, 4, ⟨#[]⟩⟩ : GValue)]⟩ : GEvent)]]⟩ : GEnv) r10 hx) (.cons (.lit _ (lst_cons ((Encs.eGNeed_eq (⟨0, 1, 0⟩ : GNeed)).symm) (lst_nil))) (.cons (.agg (.cons (.sl _ (.lstc (.eq (Encs.eLGEvent_eq ([(⟨0, 0, 0, 3, [(⟨0, 1, ⟨#[]⟩⟩ : GValue), (⟨0, 2, ⟨#[]⟩⟩ : GValue)]⟩ : GEvent), (⟨0, 0, 0, 4, [(⟨0, 3, ⟨#[]⟩⟩ : GValue), (⟨0, 4, ⟨#[]⟩⟩ : GValue)]⟩ : GEvent)])) (.sl _ (.lstc (.eq (Encs.eGEvent_eq (⟨0, 0, 0, 3, [(⟨0, 1, ⟨#[]⟩⟩ : GValue), (⟨0, 2, ⟨#[]⟩⟩ : GValue)]⟩ : GEvent)) (.agg (.cons (.refl _) (.cons (.refl _) (.cons (.refl _) (.cons (.refl _) (.cons (.lit _ (lst_cons ((Encs.eGValue_eq (⟨0, 1, ⟨#[]⟩⟩ : GValue)).symm) (lst_cons ((Encs.eGValue_eq (⟨0, 2, ⟨#[]⟩⟩ : GValue)).symm) (lst_nil)))) (.refl _)))))))) (.lstc (.eq (Encs.eGEvent_eq (⟨0, 0, 0, 4, [(⟨0, 3, ⟨#[]⟩⟩ : GValue), (⟨0, 4, ⟨#[]⟩⟩ : GValue)]⟩ : GEvent)) (.agg (.cons (.refl _) (.cons (.refl _) (.cons (.refl _) (.cons (.refl _) (.cons (.lit _ (lst_cons ((Encs.eGValue_eq (⟨0, 3, ⟨#[]⟩⟩ : GValue)).symm) (lst_cons ((Encs.eGValue_eq (⟨0, 4, ⟨#[]⟩⟩ : GValue)).symm) (lst_nil)))) (.refl _)))))))) (.lst0))))) (.lst0))) (.refl _))) (.refl _))) fun r10 h => ?_;cbv;refine n_br hE h (fun hc h => ?_) (fun hc h => ?_)
 ·cbv;have h := ret_some h;subst h;exact hK _ _ _ hO (.refl _)
 ·cbv;refine n_call hE (g := fun r11 => .bool r11) h (fun r11 hx => c22 N r4.1 ([(⟨0, 1, 0⟩ : GNeed), (⟨1, 0, 2⟩ : GNeed)]) r11 hx) (.cons (.refl _) (.cons (.lit _ (lst_cons ((Encs.eGNeed_eq (⟨0, 1, 0⟩ : GNeed)).symm) (lst_cons ((Encs.eGNeed_eq (⟨1, 0, 2⟩ : GNeed)).symm) (lst_nil)))) (.refl _))) fun r11 h => ?_;cbv;refine n_br hE h (fun hc h => ?_) (fun hc h => ?_)
  ·cbv;have h := ret_some h;subst h;exact hK _ _ _ hO (.refl _)
  ·cbv;refine n_call hE (g := fun r12 => .bool r12) h (fun r12 hx => c23 N r9.1 ([[], [(⟨0, 1, 0⟩ : GNeed)]]) r12 hx) (.cons (.refl _) (.cons (.sl _ (.lstc (.eq (Encs.eLGNeed_eq ([])) (.lit _ (lst_nil))) (.lstc (.eq (Encs.eLGNeed_eq ([(⟨0, 1, 0⟩ : GNeed)])) (.lit _ (lst_cons ((Encs.eGNeed_eq (⟨0, 1, 0⟩ : GNeed)).symm) (lst_nil)))) (.lst0)))) (.refl _))) fun r12 h => ?_;cbv;refine n_br hE h (fun hc h => ?_) (fun hc h => ?_)
   ·cbv;have h := ret_some h;subst h;exact hK _ _ _ hO (.refl _)
   ·cbv;refine n_call hE (g := fun r13 => .bool r13) h (fun r13 hx => c24 N r10.1 (⟨[[(⟨0, 0, 0, 0, [(⟨0, 3, ⟨#[]⟩⟩ : GValue), (⟨0, 0, ⟨#[]⟩⟩ : GValue)]⟩ : GEvent)]]⟩ : GEnv) r13 hx) (.cons (.refl _) (.cons (.agg (.cons (.sl _ (.lstc (.eq (Encs.eLGEvent_eq ([(⟨0, 0, 0, 0, [(⟨0, 3, ⟨#[]⟩⟩ : GValue), (⟨0, 0, ⟨#[]⟩⟩ : GValue)]⟩ : GEvent)])) (.sl _ (.lstc (.eq (Encs.eGEvent_eq (⟨0, 0, 0, 0, [(⟨0, 3, ⟨#[]⟩⟩ : GValue), (⟨0, 0, ⟨#[]⟩⟩ : GValue)]⟩ : GEvent)) (.agg (.cons (.refl _) (.cons (.refl _) (.cons (.refl _) (.cons (.refl _) (.cons (.lit _ (lst_cons ((Encs.eGValue_eq (⟨0, 3, ⟨#[]⟩⟩ : GValue)).symm) (lst_cons ((Encs.eGValue_eq (⟨0, 0, ⟨#[]⟩⟩ : GValue)).symm) (lst_nil)))) (.refl _)))))))) (.lst0)))) (.lst0))) (.refl _))) (.refl _))) fun r13 h => ?_;cbv;have h := ret_some h;subst h;exact hK _ _ _ hO (.refl _)
def cf52 : Cf := ⟨[2], [], [], [], [], []⟩
theorem c52 (N : Nat) (x_n : Int) (r : GValue) (h : expr_operations_1 N x_n = some r) : CallP Tryz.prog 52 [.int .i64 x_n] (.agg [.int .i64 r.Kind, .int .i64 r.Num, .str r.Text]) := by
 unfold expr_operations_1 at h
 refine callP_of_spec cf52 okP Tryz.func52 (by rfl) (by kernel_rfl) Tryz.call52 Tryz.ntmps52 (by rfl) (by rfl) ?_;intro E H0 K hE hK
 have hO : Own Eq H0 [] H0 := .start stable_eq rfl
 cbv;refine n_alloc hE hO fun b1 H hO => ?_;cbv;refine n_store hE hO 0 rfl rfl fun H hO => ?_;cbv;refine n_load hE hO 0 rfl ?_;cbv;have h := ret_some h;subst h;exact hK _ _ _ hO (.refl _)
def cf53 : Cf := ⟨[5], [], [], [], [], []⟩
theorem c53 (N : Nat) (x_a : Int) (x_b : Int) (v_2 : V) (x_2 : Int → Option GValue) (h_2 : ∀ y1 q, x_2 y1 = some q → CallVP Tryz.prog v_2 [.int .i64 y1] (.agg [.int .i64 q.Kind, .int .i64 q.Num, .str q.Text])) (r : GValue) (h : expr_operations_2 N x_a x_b x_2 = some r) : CallP Tryz.prog 53 [.int .i64 x_a, .int .i64 x_b, .eref [v_2] 0] (.agg [.int .i64 r.Kind, .int .i64 r.Num, .str r.Text]) := by
 unfold expr_operations_2 at h
 refine callP_of_spec cf53 okP Tryz.func53 (by rfl) (by kernel_rfl) Tryz.call53 Tryz.ntmps53 (by rfl) (by rfl) ?_;intro E H0 K hE hK
 have hO : Own Eq H0 [] H0 := .start stable_eq rfl
 cbv;refine n_alloc hE hO fun b1 H hO => ?_;cbv;refine n_callF hE (g := fun r2 => .agg [.int .i64 r2.Kind, .int .i64 r2.Num, .str r2.Text]) h (fun r2 hx => h_2 (Ar.ar .add .i64 x_a x_b) r2 hx) (.refl _) fun r2 h => ?_;cbv;refine n_store hE hO 0 rfl rfl fun H hO => ?_;cbv;refine n_load hE hO 0 rfl ?_;cbv;have h := ret_some h;subst h;exact hK _ _ _ hO (.refl _)
def cf54 : Cf := ⟨[5], [], [], [], [], []⟩
theorem c54 (N : Nat) (x_a : Int) (x_b : Int) (v_2 : V) (x_2 : Int → Option GValue) (h_2 : ∀ y1 q, x_2 y1 = some q → CallVP Tryz.prog v_2 [.int .i64 y1] (.agg [.int .i64 q.Kind, .int .i64 q.Num, .str q.Text])) (r : GValue) (h : expr_operations_3 N x_a x_b x_2 = some r) : CallP Tryz.prog 54 [.int .i64 x_a, .int .i64 x_b, .eref [v_2] 0] (.agg [.int .i64 r.Kind, .int .i64 r.Num, .str r.Text]) := by
 unfold expr_operations_3 at h
 refine callP_of_spec cf54 okP Tryz.func54 (by rfl) (by kernel_rfl) Tryz.call54 Tryz.ntmps54 (by rfl) (by rfl) ?_;intro E H0 K hE hK
 have hO : Own Eq H0 [] H0 := .start stable_eq rfl
 cbv;refine n_alloc hE hO fun b1 H hO => ?_;cbv;refine n_callF hE (g := fun r2 => .agg [.int .i64 r2.Kind, .int .i64 r2.Num, .str r2.Text]) h (fun r2 hx => h_2 (Ar.ar .sub .i64 x_a x_b) r2 hx) (.refl _) fun r2 h => ?_;cbv;refine n_store hE hO 0 rfl rfl fun H hO => ?_;cbv;refine n_load hE hO 0 rfl ?_;cbv;have h := ret_some h;subst h;exact hK _ _ _ hO (.refl _)
def cf65 : Cf := ⟨[2, 3], [], [], [], [], []⟩
theorem c65 (N : Nat) (x_b : Bool) (r : GValue) (h : value_Bool N x_b = some r) : CallP Tryz.prog 65 [.bool x_b] (.agg [.int .i64 r.Kind, .int .i64 r.Num, .str r.Text]) := by
 unfold value_Bool at h
 refine callP_of_spec cf65 okP Tryz.func65 (by rfl) (by kernel_rfl) Tryz.call65 Tryz.ntmps65 (by rfl) (by rfl) ?_;intro E H0 K hE hK
 have hO : Own Eq H0 [] H0 := .start stable_eq rfl
 cbv;refine n_alloc hE hO fun b1 H hO => ?_;cbv;refine n_alloc hE hO fun b2 H hO => ?_;cbv;refine n_store hE hO 0 rfl rfl fun H hO => ?_;cbv;refine n_br hE h (fun hc h => ?_) (fun hc h => ?_)
 ·cbv;refine n_store hE hO 0 rfl rfl fun H hO => ?_;cbv;refine n_load hE hO 0 rfl ?_;cbv;refine n_store hE hO 1 rfl rfl fun H hO => ?_;cbv;refine n_load hE hO 1 rfl ?_;cbv;have h := ret_some h;subst h;exact hK _ _ _ hO (.refl _)
 ·cbv;refine n_load hE hO 0 rfl ?_;cbv;refine n_store hE hO 1 rfl rfl fun H hO => ?_;cbv;refine n_load hE hO 1 rfl ?_;cbv;have h := ret_some h;subst h;exact hK _ _ _ hO (.refl _)
def cf42 : Cf := ⟨[2], [], [], [], [], []⟩
theorem c42 (N : Nat) (x_b : Bool) (r : GValue) (h : expr_flag N x_b = some r) : CallP Tryz.prog 42 [.bool x_b] (.agg [.int .i64 r.Kind, .int .i64 r.Num, .str r.Text]) := by
 unfold expr_flag at h
 refine callP_of_spec cf42 okP Tryz.func42 (by rfl) (by kernel_rfl) Tryz.call42 Tryz.ntmps42 (by rfl) (by rfl) ?_;intro E H0 K hE hK
 have hO : Own Eq H0 [] H0 := .start stable_eq rfl
 cbv;refine n_alloc hE hO fun b1 H hO => ?_;cbv;refine n_call hE (g := fun r2 => .agg [.int .i64 r2.Kind, .int .i64 r2.Num, .str r2.Text]) h (fun r2 hx => c65 N x_b r2 hx) (.refl _) fun r2 h => ?_;cbv;refine n_store hE hO 0 rfl rfl fun H hO => ?_;cbv;refine n_load hE hO 0 rfl ?_;cbv;have h := ret_some h;subst h;exact hK _ _ _ hO (.refl _)
def cf55 : Cf := ⟨[4], [], [], [], [], []⟩
theorem c55 (N : Nat) (x_a : Int) (x_b : Int) (r : GValue) (h : expr_operations_4 N x_a x_b = some r) : CallP Tryz.prog 55 [.int .i64 x_a, .int .i64 x_b] (.agg [.int .i64 r.Kind, .int .i64 r.Num, .str r.Text]) := by
 unfold expr_operations_4 at h
 refine callP_of_spec cf55 okP Tryz.func55 (by rfl) (by kernel_rfl) Tryz.call55 Tryz.ntmps55 (by rfl) (by rfl) ?_;intro E H0 K hE hK
 have hO : Own Eq H0 [] H0 := .start stable_eq rfl
 cbv;refine n_alloc hE hO fun b1 H hO => ?_;cbv;refine n_call hE (g := fun r2 => .agg [.int .i64 r2.Kind, .int .i64 r2.Num, .str r2.Text]) h (fun r2 hx => c42 N (Ar.cmp .lss x_a x_b) r2 hx) (.refl _) fun r2 h => ?_;cbv;refine n_store hE hO 0 rfl rfl fun H hO => ?_;cbv;refine n_load hE hO 0 rfl ?_;cbv;have h := ret_some h;subst h;exact hK _ _ _ hO (.refl _)
def cf56 : Cf := ⟨[4], [], [], [], [], []⟩
theorem c56 (N : Nat) (x_a : Int) (x_b : Int) (r : GValue) (h : expr_operations_5 N x_a x_b = some r) : CallP Tryz.prog 56 [.int .i64 x_a, .int .i64 x_b] (.agg [.int .i64 r.Kind, .int .i64 r.Num, .str r.Text]) := by
 unfold expr_operations_5 at h
 refine callP_of_spec cf56 okP Tryz.func56 (by rfl) (by kernel_rfl) Tryz.call56 Tryz.ntmps56 (by rfl) (by rfl) ?_;intro E H0 K hE hK
 have hO : Own Eq H0 [] H0 := .start stable_eq rfl
 cbv;refine n_alloc hE hO fun b1 H hO => ?_;cbv;refine n_call hE (g := fun r2 => .agg [.int .i64 r2.Kind, .int .i64 r2.Num, .str r2.Text]) h (fun r2 hx => c42 N (Ar.cmp .leq x_a x_b) r2 hx) (.refl _) fun r2 h => ?_;cbv;refine n_store hE hO 0 rfl rfl fun H hO => ?_;cbv;refine n_load hE hO 0 rfl ?_;cbv;have h := ret_some h;subst h;exact hK _ _ _ hO (.refl _)
def cf57 : Cf := ⟨[4], [], [], [], [], []⟩
theorem c57 (N : Nat) (x_a : Int) (x_b : Int) (r : GValue) (h : expr_operations_6 N x_a x_b = some r) : CallP Tryz.prog 57 [.int .i64 x_a, .int .i64 x_b] (.agg [.int .i64 r.Kind, .int .i64 r.Num, .str r.Text]) := by
 unfold expr_operations_6 at h
 refine callP_of_spec cf57 okP Tryz.func57 (by rfl) (by kernel_rfl) Tryz.call57 Tryz.ntmps57 (by rfl) (by rfl) ?_;intro E H0 K hE hK
 have hO : Own Eq H0 [] H0 := .start stable_eq rfl
 cbv;refine n_alloc hE hO fun b1 H hO => ?_;cbv;refine n_call hE (g := fun r2 => .agg [.int .i64 r2.Kind, .int .i64 r2.Num, .str r2.Text]) h (fun r2 hx => c42 N (Ar.an (Ar.cmp .eql x_a 1) (Ar.cmp .eql x_b 1)) r2 hx) (.refl _) fun r2 h => ?_;cbv;refine n_store hE hO 0 rfl rfl fun H hO => ?_;cbv;refine n_load hE hO 0 rfl ?_;cbv;have h := ret_some h;subst h;exact hK _ _ _ hO (.refl _)
def cf58 : Cf := ⟨[4], [], [], [], [], []⟩
theorem c58 (N : Nat) (x_a : Int) (x_b : Int) (r : GValue) (h : expr_operations_7 N x_a x_b = some r) : CallP Tryz.prog 58 [.int .i64 x_a, .int .i64 x_b] (.agg [.int .i64 r.Kind, .int .i64 r.Num, .str r.Text]) := by
 unfold expr_operations_7 at h
 refine callP_of_spec cf58 okP Tryz.func58 (by rfl) (by kernel_rfl) Tryz.call58 Tryz.ntmps58 (by rfl) (by rfl) ?_;intro E H0 K hE hK
 have hO : Own Eq H0 [] H0 := .start stable_eq rfl
 cbv;refine n_alloc hE hO fun b1 H hO => ?_;cbv;refine n_call hE (g := fun r2 => .agg [.int .i64 r2.Kind, .int .i64 r2.Num, .str r2.Text]) h (fun r2 hx => c42 N (Ar.or (Ar.cmp .eql x_a 1) (Ar.cmp .eql x_b 1)) r2 hx) (.refl _) fun r2 h => ?_;cbv;refine n_store hE hO 0 rfl rfl fun H hO => ?_;cbv;refine n_load hE hO 0 rfl ?_;cbv;have h := ret_some h;subst h;exact hK _ _ _ hO (.refl _)
def cf59 : Cf := ⟨[4], [], [], [], [], []⟩
theorem c59 (N : Nat) (x_a : Int) (x_1 : Int) (r : GValue) (h : expr_operations_8 N x_a x_1 = some r) : CallP Tryz.prog 59 [.int .i64 x_a, .int .i64 x_1] (.agg [.int .i64 r.Kind, .int .i64 r.Num, .str r.Text]) := by
 unfold expr_operations_8 at h
 refine callP_of_spec cf59 okP Tryz.func59 (by rfl) (by kernel_rfl) Tryz.call59 Tryz.ntmps59 (by rfl) (by rfl) ?_;intro E H0 K hE hK
 have hO : Own Eq H0 [] H0 := .start stable_eq rfl
 cbv;refine n_alloc hE hO fun b1 H hO => ?_;cbv;refine n_call hE (g := fun r2 => .agg [.int .i64 r2.Kind, .int .i64 r2.Num, .str r2.Text]) h (fun r2 hx => c42 N (Ar.cmp .neq x_a 1) r2 hx) (.refl _) fun r2 h => ?_;cbv;refine n_store hE hO 0 rfl rfl fun H hO => ?_;cbv;refine n_load hE hO 0 rfl ?_;cbv;have h := ret_some h;subst h;exact hK _ _ _ hO (.refl _)
def cf32 : Cf := ⟨[], [], [], [], [], []⟩
theorem c32 (N : Nat) (r : Unit) (h : expr_operations N  = some r) : CallFM Tryz.prog 32 [] fmK89 fmX89 := by
 unfold expr_operations at h
 refine callFM_run (T := TT) cf32 okP Tryz.func32 (by rfl) (by kernel_rfl) Tryz.call32 Tryz.ntmps32 (by rfl) (by rfl) ?_;intro E H0 K hE hK
 have hO : Own Eq H0 [] H0 := .start stable_eq rfl
 cbv;refine n_fmk hE hO fun m1 H hO => ?_;cbv;refine n_fset hE (kt := 3) (et := 117) (by kernel_rfl) (by kernel_rfl) hO 0 rfl rfl fun H hO => ?_;cbv;refine n_fset hE (kt := 3) (et := 117) (by kernel_rfl) (by kernel_rfl) hO 0 rfl rfl fun H hO => ?_;cbv;refine n_fset hE (kt := 3) (et := 117) (by kernel_rfl) (by kernel_rfl) hO 0 rfl rfl fun H hO => ?_;cbv;refine n_fset hE (kt := 3) (et := 117) (by kernel_rfl) (by kernel_rfl) hO 0 rfl rfl fun H hO => ?_;cbv;refine n_fset hE (kt := 3) (et := 117) (by kernel_rfl) (by kernel_rfl) hO 0 rfl rfl fun H hO => ?_;cbv;refine n_fset hE (kt := 3) (et := 117) (by kernel_rfl) (by kernel_rfl) hO 0 rfl rfl fun H hO => ?_;cbv;refine n_fset hE (kt := 3) (et := 117) (by kernel_rfl) (by kernel_rfl) hO 0 rfl rfl fun H hO => ?_;cbv;exact hK _ _ 0 _ rfl hO
def cf71 : Cf := ⟨[], [], [], [], [], []⟩
theorem c71 (N : Nat) (x_x : Gexpr_evaluator) (x_v : Int) (r : (List GEvent)) (h : expr_evaluator_events N x_x x_v = some r) : CallP Tryz.prog 71 [.agg [.sl (Ar.lst Encs.eLGEvent x_x.env.Vars) .ro, .int .i64 x_x.own, .int .i64 x_x.event.Source, .int .i64 x_x.event.Seq, .int .i64 x_x.event.Typ, .int .i64 x_x.event.Time, .sl (Ar.lst Encs.eGValue x_x.event.Values) .ro, .fmap fmK89 fmX89], .int .i64 x_v] (.sl (Ar.lst Encs.eGEvent r) .ro) := by
 unfold expr_evaluator_events at h
 refine callP_of_spec cf71 okP Tryz.func71 (by rfl) (by kernel_rfl) Tryz.call71 Tryz.ntmps71 (by rfl) (by rfl) ?_;intro E H0 K hE hK
 have hO : Own Eq H0 [] H0 := .start stable_eq rfl
 cbv;refine n_ln hE ?_;cbv;refine n_br hE h (fun hc h => ?_) (fun hc h => ?_)
 ·cbv;have h := ret_some h;subst h;exact hK _ _ _ hO (.lit _ (lst_nil))
 ·cbv;refine n_idx hE Encs.eLGEvent_eq h fun x1 h => ?_;cbv;have h := ret_some h;subst h;exact hK _ _ _ hO (.refl _)
def cf73 : Cf := ⟨[4], [], [], [], [], []⟩
theorem c73 (N : Nat) (x_e : GEvent) (x_k : Int) (r : (GValue × Int)) (h : expr_field N x_e x_k = some r) : CallP Tryz.prog 73 [.agg [.int .i64 x_e.Source, .int .i64 x_e.Seq, .int .i64 x_e.Typ, .int .i64 x_e.Time, .sl (Ar.lst Encs.eGValue x_e.Values) .ro], .int .i64 x_k] (.tup [.agg [.int .i64 r.1.Kind, .int .i64 r.1.Num, .str r.1.Text], .int .i64 r.2]) := by
 unfold expr_field at h
 refine callP_of_spec cf73 okP Tryz.func73 (by rfl) (by kernel_rfl) Tryz.call73 Tryz.ntmps73 (by rfl) (by rfl) ?_;intro E H0 K hE hK
 have hO : Own Eq H0 [] H0 := .start stable_eq rfl
 cbv;refine n_alloc hE hO fun b1 H hO => ?_;cbv;refine n_ln hE ?_;cbv;refine n_br hE h (fun hc h => ?_) (fun hc h => ?_)
 ·cbv;refine n_store hE hO 0 rfl rfl fun H hO => ?_;cbv;refine n_load hE hO 0 rfl ?_;cbv;have h := ret_some h;subst h;exact hK _ _ _ hO (.refl _)
 ·cbv;refine n_idx hE Encs.eGValue_eq h fun x2 h => ?_;cbv;refine n_store hE hO 0 rfl rfl fun H hO => ?_;cbv;refine n_load hE hO 0 rfl ?_;cbv;have h := ret_some h;subst h;exact hK _ _ _ hO (.refl _)
def cf100 : Cf := ⟨[], [], [], [], [], []⟩
theorem c100 (N : Nat) (x_kind : Int) (r : Bool) (h : aggregate_known N x_kind = some r) : CallP Tryz.prog 100 [.int .i64 x_kind] (.bool r) := by
 unfold aggregate_known at h
 refine callP_of_spec cf100 okP Tryz.func100 (by rfl) (by kernel_rfl) Tryz.call100 Tryz.ntmps100 (by rfl) (by rfl) ?_;intro E H0 K hE hK
 have hO : Own Eq H0 [] H0 := .start stable_eq rfl
 cbv;have h := ret_some h;subst h;exact hK _ _ _ hO (.refl _)
def cf114 : Cf := ⟨[], [], [], [], [], []⟩
theorem c114 (N : Nat) (x_kind : Int) (x_v : GValue) (r : Bool) (h : aggregate_suits N x_kind x_v = some r) : CallP Tryz.prog 114 [.int .i64 x_kind, .agg [.int .i64 x_v.Kind, .int .i64 x_v.Num, .str x_v.Text]] (.bool r) := by
 unfold aggregate_suits at h
 refine callP_of_spec cf114 okP Tryz.func114 (by rfl) (by kernel_rfl) Tryz.call114 Tryz.ntmps114 (by rfl) (by rfl) ?_;intro E H0 K hE hK
 have hO : Own Eq H0 [] H0 := .start stable_eq rfl
 cbv;have h := ret_some h;subst h;exact hK _ _ _ hO (.refl _)
def cf101 : Cf := ⟨[], [], [], [], [], []⟩
theorem c101 (N : Nat) (x_kind : Int) (x_v : GValue) (r : Int) (h : aggregate_wrong N x_kind x_v = some r) : CallP Tryz.prog 101 [.int .i64 x_kind, .agg [.int .i64 x_v.Kind, .int .i64 x_v.Num, .str x_v.Text]] (.int .i64 r) := by
 unfold aggregate_wrong at h
 refine callP_of_spec cf101 okP Tryz.func101 (by rfl) (by kernel_rfl) Tryz.call101 Tryz.ntmps101 (by rfl) (by rfl) ?_;intro E H0 K hE hK
 have hO : Own Eq H0 [] H0 := .start stable_eq rfl
 cbv;refine n_call hE (g := fun r1 => .int .i64 r1) h (fun r1 hx => c69 N x_v r1 hx) (.refl _) fun r1 h => ?_;cbv;refine n_br hE h (fun hc h => ?_) (fun hc h => ?_)
 ·cbv;have h := ret_some h;subst h;exact hK _ _ _ hO (.refl _)
 ·cbv;refine n_call hE (g := fun r2 => .bool r2) h (fun r2 hx => c114 N x_kind x_v r2 hx) (.refl _) fun r2 h => ?_;cbv;refine n_br hE h (fun hc h => ?_) (fun hc h => ?_)
  ·cbv;have h := ret_some h;subst h;exact hK _ _ _ hO (.refl _)
  ·cbv;have h := ret_some h;subst h;exact hK _ _ _ hO (.refl _)
def cf102 : Cf := ⟨[3, 6], [], [], [], [], []⟩
theorem c102 (N : Nat) (x_first : GAccumulator) (x_l : List GValue) (v_step : V) (x_step : GAccumulator → GValue → Option GAccumulator) (h_step : ∀ y1 y2 q, x_step y1 y2 = some q → CallVP Tryz.prog v_step [.agg [.int .i64 y1.Kind, .int .i64 y1.Count, .int .i64 y1.Value.Kind, .int .i64 y1.Value.Num, .str y1.Value.Text], .agg [.int .i64 y2.Kind, .int .i64 y2.Num, .str y2.Text]] (.agg [.int .i64 q.Kind, .int .i64 q.Count, .int .i64 q.Value.Kind, .int .i64 q.Value.Num, .str q.Value.Text])) (r : GAccumulator) (h : aggregate_folded_Accumulator_Value N x_first x_l x_step = some r) : CallP Tryz.prog 102 [.agg [.int .i64 x_first.Kind, .int .i64 x_first.Count, .int .i64 x_first.Value.Kind, .int .i64 x_first.Value.Num, .str x_first.Value.Text], .sl (Ar.lst Encs.eGValue x_l) .ro, v_step] (.agg [.int .i64 r.Kind, .int .i64 r.Count, .int .i64 r.Value.Kind, .int .i64 r.Value.Num, .str r.Value.Text]) := by
 unfold aggregate_folded_Accumulator_Value at h
 refine callP_of_spec cf102 okP Tryz.func102 (by rfl) (by kernel_rfl) Tryz.call102 Tryz.ntmps102 (by rfl) (by rfl) ?_;intro E H0 K hE hK
 have hO : Own Eq H0 [] H0 := .start stable_eq rfl
 cbv;refine n_alloc hE hO fun b1 H hO => ?_;cbv;refine n_alloc hE hO fun b2 H hO => ?_;cbv;refine n_ln hE ?_;cbv;obtain ⟨s4, hx, h⟩ := bind_some h;refine n_loopN cf102 hE okP (fun s3 => [(2, .v (v_step)), (3, .v (.ref b1 0)), (6, .v (.ref b2 0)), (9, .v (.sl (Ar.lst Encs.eGValue x_l) .ro)), (10, .v (.int .i64 (Ar.len x_l))), (11, .v (.int .i64 s3.1))]) (fun s3 H1 => Own Eq H0 [.blk b2 (.cells [.int .i64 0, .int .i64 0, .int .i64 0, .int .i64 0, .str (⟨#[]⟩)]), .blk b1 (.cells [.int .i64 s3.2.Kind, .int .i64 s3.2.Count, .int .i64 s3.2.Value.Kind, .int .i64 s3.2.Value.Num, .str s3.2.Value.Text])] H1) (fun x e l H1 => e = .exit 0 ∧ l = [(3, .v (.ref b1 0)), (6, .v (.ref b2 0))] ∧ Own Eq H0 [.blk b2 (.cells [.int .i64 0, .int .i64 0, .int .i64 0, .int .i64 0, .str (⟨#[]⟩)]), .blk b1 (.cells [.int .i64 x.Kind, .int .i64 x.Count, .int .i64 x.Value.Kind, .int .i64 x.Value.Num, .str x.Value.Text])] H1) (by kernel_rfl) ?_ hx ?_ hO ?_
 ·intro s3 H o hO h;clear hx;cbv;refine n_br hE h (fun hc h => ?_) (fun hc h => ?_)
  ·cbv;refine n_idx hE Encs.eGValue_eq h fun x5 h => ?_;cbv;refine n_load hE hO 1 rfl ?_;cbv;refine n_callF hE (g := fun r6 => .agg [.int .i64 r6.Kind, .int .i64 r6.Count, .int .i64 r6.Value.Kind, .int .i64 r6.Value.Num, .str r6.Value.Text]) h (fun r6 hx => h_step s3.2 x5 r6 hx) (.refl _) fun r6 h => ?_;cbv;refine n_store hE hO 1 rfl rfl fun H hO => ?_;cbv;have h := ret_some h;subst h;exact ⟨_, rfl, .e rfl (.e rfl (.e rfl (.e rfl (.e rfl (.e rfl (.z)))))), rfl, hO⟩
  ·cbv;have h := ret_some h;subst h;exact ⟨_, _, rfl, ⟨rfl, rfl, hO⟩, .e rfl (.e rfl (.z)), rfl⟩
 ·exact .e rfl (.e rfl (.e rfl (.e rfl (.e rfl (.e rfl (.z))))))
 ·clear hx;rintro e l H ⟨rfl, rfl, hO⟩;cbv;refine n_load hE hO 1 rfl ?_;cbv;refine n_store hE hO 0 rfl rfl fun H hO => ?_;cbv;refine n_load hE hO 0 rfl ?_;cbv;have h := ret_some h;subst h;exact hK _ _ _ hO (.refl _)
def cf118 : Cf := ⟨[0], [], [], [], [], []⟩
theorem c118 (N : Nat) (r : GValue) (h : aggregate_combine_1 N  = some r) : CallP Tryz.prog 118 [] (.agg [.int .i64 r.Kind, .int .i64 r.Num, .str r.Text]) := by
 unfold aggregate_combine_1 at h
 refine callP_of_spec cf118 okP Tryz.func118 (by rfl) (by kernel_rfl) Tryz.call118 Tryz.ntmps118 (by rfl) (by rfl) ?_;intro E H0 K hE hK
 have hO : Own Eq H0 [] H0 := .start stable_eq rfl
 cbv;refine n_alloc hE hO fun b1 H hO => ?_;cbv;refine n_store hE hO 0 rfl rfl fun H hO => ?_;cbv;refine n_load hE hO 0 rfl ?_;cbv;have h := ret_some h;subst h;exact hK _ _ _ hO (.refl _)
def cf119 : Cf := ⟨[2], [], [], [], [], []⟩
theorem c119 (N : Nat) (x_0 : GValue) (x_1 : GValue) (r : GValue) (h : aggregate_combine_2 N x_0 x_1 = some r) : CallP Tryz.prog 119 [.eref [.int .i64 x_0.Kind, .int .i64 x_0.Num, .str x_0.Text] 0, .eref [.int .i64 x_1.Kind, .int .i64 x_1.Num, .str x_1.Text] 0] (.agg [.int .i64 r.Kind, .int .i64 r.Num, .str r.Text]) := by
 unfold aggregate_combine_2 at h
 refine callP_of_spec cf119 okP Tryz.func119 (by rfl) (by kernel_rfl) Tryz.call119 Tryz.ntmps119 (by rfl) (by rfl) ?_;intro E H0 K hE hK
 have hO : Own Eq H0 [] H0 := .start stable_eq rfl
 cbv;refine n_alloc hE hO fun b1 H hO => ?_;cbv;refine n_store hE hO 0 rfl rfl fun H hO => ?_;cbv;refine n_load hE hO 0 rfl ?_;cbv;have h := ret_some h;subst h;exact hK _ _ _ hO (.refl _)
def cf120 : Cf := ⟨[2], [], [], [], [], []⟩
theorem c120 (N : Nat) (x_0 : GValue) (x_1 : GValue) (r : GValue) (h : aggregate_combine_3 N x_0 x_1 = some r) : CallP Tryz.prog 120 [.eref [.int .i64 x_0.Kind, .int .i64 x_0.Num, .str x_0.Text] 0, .eref [.int .i64 x_1.Kind, .int .i64 x_1.Num, .str x_1.Text] 0] (.agg [.int .i64 r.Kind, .int .i64 r.Num, .str r.Text]) := by
 unfold aggregate_combine_3 at h
 refine callP_of_spec cf120 okP Tryz.func120 (by rfl) (by kernel_rfl) Tryz.call120 Tryz.ntmps120 (by rfl) (by rfl) ?_;intro E H0 K hE hK
 have hO : Own Eq H0 [] H0 := .start stable_eq rfl
 cbv;refine n_alloc hE hO fun b1 H hO => ?_;cbv;refine n_store hE hO 0 rfl rfl fun H hO => ?_;cbv;refine n_load hE hO 0 rfl ?_;cbv;have h := ret_some h;subst h;exact hK _ _ _ hO (.refl _)
def cf121 : Cf := ⟨[2], [], [], [], [], []⟩
theorem c121 (N : Nat) (x_0 : GValue) (x_1 : GValue) (r : GValue) (h : aggregate_combine_4 N x_0 x_1 = some r) : CallP Tryz.prog 121 [.eref [.int .i64 x_0.Kind, .int .i64 x_0.Num, .str x_0.Text] 0, .eref [.int .i64 x_1.Kind, .int .i64 x_1.Num, .str x_1.Text] 0] (.agg [.int .i64 r.Kind, .int .i64 r.Num, .str r.Text]) := by
 unfold aggregate_combine_4 at h
 refine callP_of_spec cf121 okP Tryz.func121 (by rfl) (by kernel_rfl) Tryz.call121 Tryz.ntmps121 (by rfl) (by rfl) ?_;intro E H0 K hE hK
 have hO : Own Eq H0 [] H0 := .start stable_eq rfl
 cbv;refine n_alloc hE hO fun b1 H hO => ?_;cbv;refine n_store hE hO 0 rfl rfl fun H hO => ?_;cbv;refine n_load hE hO 0 rfl ?_;cbv;have h := ret_some h;subst h;exact hK _ _ _ hO (.refl _)
def cf122 : Cf := ⟨[1], [], [], [], [], []⟩
theorem c122 (N : Nat) (x_0 : GValue) (r : GValue) (h : aggregate_combine_5 N x_0 = some r) : CallP Tryz.prog 122 [.eref [.int .i64 x_0.Kind, .int .i64 x_0.Num, .str x_0.Text] 0] (.agg [.int .i64 r.Kind, .int .i64 r.Num, .str r.Text]) := by
 unfold aggregate_combine_5 at h
 refine callP_of_spec cf122 okP Tryz.func122 (by rfl) (by kernel_rfl) Tryz.call122 Tryz.ntmps122 (by rfl) (by rfl) ?_;intro E H0 K hE hK
 have hO : Own Eq H0 [] H0 := .start stable_eq rfl
 cbv;refine n_alloc hE hO fun b1 H hO => ?_;cbv;refine n_store hE hO 0 rfl rfl fun H hO => ?_;cbv;refine n_load hE hO 0 rfl ?_;cbv;have h := ret_some h;subst h;exact hK _ _ _ hO (.refl _)
def cf123 : Cf := ⟨[1], [], [], [], [], []⟩
theorem c123 (N : Nat) (x_0 : GValue) (r : GValue) (h : aggregate_combine_6 N x_0 = some r) : CallP Tryz.prog 123 [.eref [.int .i64 x_0.Kind, .int .i64 x_0.Num, .str x_0.Text] 0] (.agg [.int .i64 r.Kind, .int .i64 r.Num, .str r.Text]) := by
 unfold aggregate_combine_6 at h
 refine callP_of_spec cf123 okP Tryz.func123 (by rfl) (by kernel_rfl) Tryz.call123 Tryz.ntmps123 (by rfl) (by rfl) ?_;intro E H0 K hE hK
 have hO : Own Eq H0 [] H0 := .start stable_eq rfl
 cbv;refine n_alloc hE hO fun b1 H hO => ?_;cbv;refine n_store hE hO 0 rfl rfl fun H hO => ?_;cbv;refine n_load hE hO 0 rfl ?_;cbv;have h := ret_some h;subst h;exact hK _ _ _ hO (.refl _)
def cf115 : Cf := ⟨[6], [], [], [], [], []⟩
theorem c115 (N : Nat) (x_kind : Int) (x_a : GValue) (x_b : GValue) (r : GValue) (h : aggregate_combine N x_kind x_a x_b = some r) : CallP Tryz.prog 115 [.int .i64 x_kind, .agg [.int .i64 x_a.Kind, .int .i64 x_a.Num, .str x_a.Text], .agg [.int .i64 x_b.Kind, .int .i64 x_b.Num, .str x_b.Text]] (.agg [.int .i64 r.Kind, .int .i64 r.Num, .str r.Text]) := by
 unfold aggregate_combine at h
 refine callP_of_spec cf115 okP Tryz.func115 (by rfl) (by kernel_rfl) Tryz.call115 Tryz.ntmps115 (by rfl) (by rfl) ?_;intro E H0 K hE hK
 have hO : Own Eq H0 [] H0 := .start stable_eq rfl
 cbv;refine n_alloc hE hO fun b1 H hO => ?_;cbv;refine n_aidxB hE [0, 1, 2, 3, 4, 5] (by rfl) ?_;cbv;refine n_br hE h (fun hc h => ?_) (fun hc h => ?_)
 ·cbv;refine n_call hE (g := fun r2 => .agg [.int .i64 r2.Kind, .int .i64 r2.Num, .str r2.Text]) h (fun r2 hx => c118 N  r2 hx) (.refl _) fun r2 h => ?_;cbv;refine n_store hE hO 0 rfl rfl fun H hO => ?_;cbv;refine n_load hE hO 0 rfl ?_;cbv;have h := ret_some h;subst h;exact hK _ _ _ hO (.refl _)
 ·cbv;refine n_br hE h (fun hc h => ?_) (fun hc h => ?_)
  ·cbv;refine n_callF hE (g := fun r3 => .agg [.int .i64 r3.Kind, .int .i64 r3.Num, .str r3.Text]) h (fun r3 hx => CallP.value (F := []) (C := [.eref [.int .i64 x_a.Kind, .int .i64 x_a.Num, .str x_a.Text] 0, .eref [.int .i64 x_b.Kind, .int .i64 x_b.Num, .str x_b.Text] 0]) (c119 N x_a x_b r3 hx)) (.refl _) fun r3 h => ?_;cbv;refine n_store hE hO 0 rfl rfl fun H hO => ?_;cbv;refine n_load hE hO 0 rfl ?_;cbv;have h := ret_some h;subst h;exact hK _ _ _ hO (.refl _)
  ·cbv;refine n_br hE h (fun hc h => ?_) (fun hc h => ?_)
   ·cbv;refine n_callF hE (g := fun r4 => .agg [.int .i64 r4.Kind, .int .i64 r4.Num, .str r4.Text]) h (fun r4 hx => CallP.value (F := []) (C := [.eref [.int .i64 x_a.Kind, .int .i64 x_a.Num, .str x_a.Text] 0, .eref [.int .i64 x_b.Kind, .int .i64 x_b.Num, .str x_b.Text] 0]) (c120 N x_a x_b r4 hx)) (.refl _) fun r4 h => ?_;cbv;refine n_store hE hO 0 rfl rfl fun H hO => ?_;cbv;refine n_load hE hO 0 rfl ?_;cbv;have h := ret_some h;subst h;exact hK _ _ _ hO (.refl _)
   ·cbv;refine n_br hE h (fun hc h => ?_) (fun hc h => ?_)
    ·cbv;refine n_callF hE (g := fun r5 => .agg [.int .i64 r5.Kind, .int .i64 r5.Num, .str r5.Text]) h (fun r5 hx => CallP.value (F := []) (C := [.eref [.int .i64 x_a.Kind, .int .i64 x_a.Num, .str x_a.Text] 0, .eref [.int .i64 x_b.Kind, .int .i64 x_b.Num, .str x_b.Text] 0]) (c121 N x_a x_b r5 hx)) (.refl _) fun r5 h => ?_;cbv;refine n_store hE hO 0 rfl rfl fun H hO => ?_;cbv;refine n_load hE hO 0 rfl ?_;cbv;have h := ret_some h;subst h;exact hK _ _ _ hO (.refl _)
    ·cbv;refine n_br hE h (fun hc h => ?_) (fun hc h => ?_)
     ·cbv;refine n_callF hE (g := fun r6 => .agg [.int .i64 r6.Kind, .int .i64 r6.Num, .str r6.Text]) h (fun r6 hx => CallP.value (F := []) (C := [.eref [.int .i64 x_a.Kind, .int .i64 x_a.Num, .str x_a.Text] 0]) (c122 N x_a r6 hx)) (.refl _) fun r6 h => ?_;cbv;refine n_store hE hO 0 rfl rfl fun H hO => ?_;cbv;refine n_load hE hO 0 rfl ?_;cbv;have h := ret_some h;subst h;exact hK _ _ _ hO (.refl _)
     ·cbv;refine n_br hE h (fun hc h => ?_) (fun hc h => ?_)
      ·cbv;refine n_callF hE (g := fun r7 => .agg [.int .i64 r7.Kind, .int .i64 r7.Num, .str r7.Text]) h (fun r7 hx => CallP.value (F := []) (C := [.eref [.int .i64 x_b.Kind, .int .i64 x_b.Num, .str x_b.Text] 0]) (c123 N x_b r7 hx)) (.refl _) fun r7 h => ?_;cbv;refine n_store hE hO 0 rfl rfl fun H hO => ?_;cbv;refine n_load hE hO 0 rfl ?_;cbv;have h := ret_some h;subst h;exact hK _ _ _ hO (.refl _)
      ·cbv
       cases h
def cf104 : Cf := ⟨[4], [(5, 14)], [], [], [], []⟩
theorem c104 (N : Nat) (x_a : GAccumulator) (x_b : GAccumulator) (r : GAccumulator) (h : aggregate_merged N x_a x_b = some r) : CallP Tryz.prog 104 [.agg [.int .i64 x_a.Kind, .int .i64 x_a.Count, .int .i64 x_a.Value.Kind, .int .i64 x_a.Value.Num, .str x_a.Value.Text], .agg [.int .i64 x_b.Kind, .int .i64 x_b.Count, .int .i64 x_b.Value.Kind, .int .i64 x_b.Value.Num, .str x_b.Value.Text]] (.agg [.int .i64 r.Kind, .int .i64 r.Count, .int .i64 r.Value.Kind, .int .i64 r.Value.Num, .str r.Value.Text]) := by
 unfold aggregate_merged at h
 refine callP_of_spec cf104 okP Tryz.func104 (by rfl) (by kernel_rfl) Tryz.call104 Tryz.ntmps104 (by rfl) (by rfl) ?_;intro E H0 K hE hK
 have hO : Own Eq H0 [] H0 := .start stable_eq rfl
 cbv;refine n_alloc hE hO fun b1 H hO => ?_;cbv;refine n_br hE h (fun hc h => ?_) (fun hc h => ?_)
 ·cbv;refine n_store hE hO 0 rfl rfl fun H hO => ?_;cbv;refine n_load hE hO 0 rfl ?_;cbv;have h := ret_some h;subst h;exact hK _ _ _ hO (.refl _)
 ·cbv;refine n_br hE h (fun hc h => ?_) (fun hc h => ?_)
  ·cbv;refine n_store hE hO 0 rfl rfl fun H hO => ?_;cbv;refine n_load hE hO 0 rfl ?_;cbv;have h := ret_some h;subst h;exact hK _ _ _ hO (.refl _)
  ·cbv;refine n_pcall hE (g := fun r2 => .agg [.int .i64 r2.Kind, .int .i64 r2.Num, .str r2.Text]) h (fun r2 hx => c115 N x_a.Kind x_a.Value x_b.Value r2 hx) (.refl _) fun r2 h => ?_;cbv;refine n_store hE hO 0 rfl rfl fun H hO => ?_;cbv;refine n_load hE hO 0 rfl ?_;cbv;have h := ret_some h;subst h;exact hK _ _ _ hO (.refl _)
def cf105 : Cf := ⟨[4], [], [], [], [], []⟩
theorem c105 (N : Nat) (x_kind : Int) (x_v : GValue) (r : GValue) (h : aggregate_single N x_kind x_v = some r) : CallP Tryz.prog 105 [.int .i64 x_kind, .agg [.int .i64 x_v.Kind, .int .i64 x_v.Num, .str x_v.Text]] (.agg [.int .i64 r.Kind, .int .i64 r.Num, .str r.Text]) := by
 unfold aggregate_single at h
 refine callP_of_spec cf105 okP Tryz.func105 (by rfl) (by kernel_rfl) Tryz.call105 Tryz.ntmps105 (by rfl) (by rfl) ?_;intro E H0 K hE hK
 have hO : Own Eq H0 [] H0 := .start stable_eq rfl
 cbv;refine n_alloc hE hO fun b1 H hO => ?_;cbv;refine n_br hE h (fun hc h => ?_) (fun hc h => ?_)
 ·cbv;refine n_store hE hO 0 rfl rfl fun H hO => ?_;cbv;refine n_load hE hO 0 rfl ?_;cbv;have h := ret_some h;subst h;exact hK _ _ _ hO (.refl _)
 ·cbv;refine n_store hE hO 0 rfl rfl fun H hO => ?_;cbv;refine n_load hE hO 0 rfl ?_;cbv;have h := ret_some h;subst h;exact hK _ _ _ hO (.refl _)
def cf103 : Cf := ⟨[5], [(1, 6)], [], [], [], []⟩
theorem c103 (N : Nat) (x_a : GAccumulator) (x_v : GValue) (x_2 : Int) (r : GAccumulator) (h : aggregate_Of_1 N x_a x_v x_2 = some r) : CallP Tryz.prog 103 [.agg [.int .i64 x_a.Kind, .int .i64 x_a.Count, .int .i64 x_a.Value.Kind, .int .i64 x_a.Value.Num, .str x_a.Value.Text], .agg [.int .i64 x_v.Kind, .int .i64 x_v.Num, .str x_v.Text], .eref [.int .i64 x_2] 0] (.agg [.int .i64 r.Kind, .int .i64 r.Count, .int .i64 r.Value.Kind, .int .i64 r.Value.Num, .str r.Value.Text]) := by
 unfold aggregate_Of_1 at h
 refine callP_of_spec cf103 okP Tryz.func103 (by rfl) (by kernel_rfl) Tryz.call103 Tryz.ntmps103 (by rfl) (by rfl) ?_;intro E H0 K hE hK
 have hO : Own Eq H0 [] H0 := .start stable_eq rfl
 cbv;refine n_alloc hE hO fun b1 H hO => ?_;cbv;refine n_pcall hE (g := fun r2 => .agg [.int .i64 r2.Kind, .int .i64 r2.Num, .str r2.Text]) h (fun r2 hx => c105 N x_2 x_v r2 hx) (.refl _) fun r2 h => ?_;cbv;refine n_call hE (g := fun r3 => .agg [.int .i64 r3.Kind, .int .i64 r3.Count, .int .i64 r3.Value.Kind, .int .i64 r3.Value.Num, .str r3.Value.Text]) h (fun r3 hx => c104 N x_a (⟨x_2, 1, r2⟩ : GAccumulator) r3 hx) (.refl _) fun r3 h => ?_;cbv;refine n_store hE hO 0 rfl rfl fun H hO => ?_;cbv;refine n_load hE hO 0 rfl ?_;cbv;have h := ret_some h;subst h;exact hK _ _ _ hO (.refl _)
def cf116 : Cf := ⟨[], [], [], [], [], []⟩
theorem c116 (N : Nat) (x_a : GAccumulator) (r : Int) (h : aggregate_Check N x_a = some r) : CallP Tryz.prog 116 [.agg [.int .i64 x_a.Kind, .int .i64 x_a.Count, .int .i64 x_a.Value.Kind, .int .i64 x_a.Value.Num, .str x_a.Value.Text]] (.int .i64 r) := by
 unfold aggregate_Check at h
 refine callP_of_spec cf116 okP Tryz.func116 (by rfl) (by kernel_rfl) Tryz.call116 Tryz.ntmps116 (by rfl) (by rfl) ?_;intro E H0 K hE hK
 have hO : Own Eq H0 [] H0 := .start stable_eq rfl
 cbv;refine n_call hE (g := fun r1 => .bool r1) h (fun r1 hx => c100 N x_a.Kind r1 hx) (.refl _) fun r1 h => ?_;cbv;refine n_br hE h (fun hc h => ?_) (fun hc h => ?_)
 ·cbv;have h := ret_some h;subst h;exact hK _ _ _ hO (.refl _)
 ·cbv;refine n_br hE h (fun hc h => ?_) (fun hc h => ?_)
  ·cbv;have h := ret_some h;subst h;exact hK _ _ _ hO (.refl _)
  ·cbv;refine n_br hE h (fun hc h => ?_) (fun hc h => ?_)
   ·cbv;refine n_br hE h (fun hc h => ?_) (fun hc h => ?_)
    ·cbv;have h := ret_some h;subst h;exact hK _ _ _ hO (.refl _)
    ·cbv;have h := ret_some h;subst h;exact hK _ _ _ hO (.refl _)
   ·cbv;refine n_br hE h (fun hc h => ?_) (fun hc h => ?_)
    ·cbv;refine n_br hE h (fun hc h => ?_) (fun hc h => ?_)
     ·cbv;have h := ret_some h;subst h;exact hK _ _ _ hO (.refl _)
     ·cbv;have h := ret_some h;subst h;exact hK _ _ _ hO (.refl _)
    ·cbv;refine n_call hE (g := fun r2 => .int .i64 r2) h (fun r2 hx => c69 N x_a.Value r2 hx) (.refl _) fun r2 h => ?_;cbv;refine n_br hE h (fun hc h => ?_) (fun hc h => ?_)
     ·cbv;refine n_call hE (g := fun r3 => .bool r3) h (fun r3 hx => c114 N x_a.Kind x_a.Value r3 hx) (.refl _) fun r3 h => ?_;cbv;refine n_br hE h (fun hc h => ?_) (fun hc h => ?_)
      ·cbv;have h := ret_some h;subst h;exact hK _ _ _ hO (.refl _)
      ·cbv;have h := ret_some h;subst h;exact hK _ _ _ hO (.refl _)
     ·cbv;have h := ret_some h;subst h;exact hK _ _ _ hO (.refl _)
def cf106 : Cf := ⟨[4], [], [], [], [], []⟩
theorem c106 (N : Nat) (x_a : GAccumulator) (x_otherwise : GValue) (r : (GValue × Int)) (h : aggregate_Result N x_a x_otherwise = some r) : CallP Tryz.prog 106 [.agg [.int .i64 x_a.Kind, .int .i64 x_a.Count, .int .i64 x_a.Value.Kind, .int .i64 x_a.Value.Num, .str x_a.Value.Text], .agg [.int .i64 x_otherwise.Kind, .int .i64 x_otherwise.Num, .str x_otherwise.Text]] (.tup [.agg [.int .i64 r.1.Kind, .int .i64 r.1.Num, .str r.1.Text], .int .i64 r.2]) := by
 unfold aggregate_Result at h
 refine callP_of_spec cf106 okP Tryz.func106 (by rfl) (by kernel_rfl) Tryz.call106 Tryz.ntmps106 (by rfl) (by rfl) ?_;intro E H0 K hE hK
 have hO : Own Eq H0 [] H0 := .start stable_eq rfl
 cbv;refine n_alloc hE hO fun b1 H hO => ?_;cbv;refine n_call hE (g := fun r2 => .int .i64 r2) h (fun r2 hx => c116 N x_a r2 hx) (.refl _) fun r2 h => ?_;cbv;refine n_br hE h (fun hc h => ?_) (fun hc h => ?_)
 ·cbv;refine n_store hE hO 0 rfl rfl fun H hO => ?_;cbv;refine n_load hE hO 0 rfl ?_;cbv;have h := ret_some h;subst h;exact hK _ _ _ hO (.refl _)
 ·cbv;refine n_call hE (g := fun r3 => .int .i64 r3) h (fun r3 hx => c101 N x_a.Kind x_otherwise r3 hx) (.refl _) fun r3 h => ?_;cbv;refine n_br hE h (fun hc h => ?_) (fun hc h => ?_)
  ·cbv;refine n_store hE hO 0 rfl rfl fun H hO => ?_;cbv;refine n_load hE hO 0 rfl ?_;cbv;have h := ret_some h;subst h;exact hK _ _ _ hO (.refl _)
  ·cbv;refine n_br hE h (fun hc h => ?_) (fun hc h => ?_)
   ·cbv;refine n_store hE hO 0 rfl rfl fun H hO => ?_;cbv;refine n_load hE hO 0 rfl ?_;cbv;have h := ret_some h;subst h;exact hK _ _ _ hO (.refl _)
   ·cbv;refine n_br hE h (fun hc h => ?_) (fun hc h => ?_)
    ·cbv;refine n_store hE hO 0 rfl rfl fun H hO => ?_;cbv;refine n_load hE hO 0 rfl ?_;cbv;have h := ret_some h;subst h;exact hK _ _ _ hO (.refl _)
    ·cbv;refine n_store hE hO 0 rfl rfl fun H hO => ?_;cbv;refine n_load hE hO 0 rfl ?_;cbv;have h := ret_some h;subst h;exact hK _ _ _ hO (.refl _)
def cf85 : Cf := ⟨[6], [], [], [], [], []⟩
theorem c85 (N : Nat) (x_kind : Int) (x_l : List GValue) (x_otherwise : GValue) (r : (GValue × Int)) (h : aggregate_Of N x_kind x_l x_otherwise = some r) : CallP Tryz.prog 85 [.int .i64 x_kind, .sl (Ar.lst Encs.eGValue x_l) .ro, .agg [.int .i64 x_otherwise.Kind, .int .i64 x_otherwise.Num, .str x_otherwise.Text]] (.tup [.agg [.int .i64 r.1.Kind, .int .i64 r.1.Num, .str r.1.Text], .int .i64 r.2]) := by
 unfold aggregate_Of at h
 refine callP_of_spec cf85 okP Tryz.func85 (by rfl) (by kernel_rfl) Tryz.call85 Tryz.ntmps85 (by rfl) (by rfl) ?_;intro E H0 K hE hK
 have hO : Own Eq H0 [] H0 := .start stable_eq rfl
 cbv;refine n_alloc hE hO fun b1 H hO => ?_;cbv;refine n_call hE (g := fun r2 => .bool r2) h (fun r2 hx => c100 N x_kind r2 hx) (.refl _) fun r2 h => ?_;cbv;refine n_br hE h (fun hc h => ?_) (fun hc h => ?_)
 ·cbv;refine n_store hE hO 0 rfl rfl fun H hO => ?_;cbv;refine n_load hE hO 0 rfl ?_;cbv;have h := ret_some h;subst h;exact hK _ _ _ hO (.refl _)
 ·cbv;refine n_ln hE ?_;cbv;refine n_br hE h (fun hc h => ?_) (fun hc h => ?_)
  ·cbv;refine n_store hE hO 0 rfl rfl fun H hO => ?_;cbv;refine n_load hE hO 0 rfl ?_;cbv;have h := ret_some h;subst h;exact hK _ _ _ hO (.refl _)
  ·cbv;refine n_ln hE ?_;cbv;obtain ⟨s4, hx, h⟩ := bind_some h;refine n_loopN cf85 hE okP (fun s3 => [(1, .v (.sl (Ar.lst Encs.eGValue x_l) .ro)), (3, .v (.eref [.int .i64 x_kind] 0)), (5, .v (.eref [.int .i64 x_otherwise.Kind, .int .i64 x_otherwise.Num, .str x_otherwise.Text] 0)), (6, .v (.ref b1 0)), (22, .v (.sl (Ar.lst Encs.eGValue x_l) .ro)), (23, .v (.int .i64 (Ar.len x_l))), (24, .v (.int .i64 s3))]) (fun s3 H1 => Own Eq H0 [.blk b1 (.cells [.int .i64 0, .int .i64 0, .str (⟨#[]⟩)])] H1) (fun x e l H1 => match (generalizing := false) x with | .inl y => e = .exit 1 ∧ l = [(1, .v (.sl (Ar.lst Encs.eGValue x_l) .ro)), (3, .v (.eref [.int .i64 x_kind] 0)), (5, .v (.eref [.int .i64 x_otherwise.Kind, .int .i64 x_otherwise.Num, .str x_otherwise.Text] 0)), (6, .v (.ref b1 0))] ∧ Own Eq H0 [.blk b1 (.cells [.int .i64 0, .int .i64 0, .str (⟨#[]⟩)])] H1 | .inr y => e = .ret ∧ l = [(6, .v (.ref b1 0)), (7, .v (.int .i64 y))] ∧ Own Eq H0 [.blk b1 (.cells [.int .i64 0, .int .i64 0, .str (⟨#[]⟩)])] H1) (by kernel_rfl) ?_ hx ?_ hO ?_
   ·intro s3 H o hO h;clear hx;cbv;refine n_br hE h (fun hc h => ?_) (fun hc h => ?_)
    ·cbv;refine n_idx hE Encs.eGValue_eq h fun x5 h => ?_;cbv;refine n_call hE (g := fun r6 => .int .i64 r6) h (fun r6 hx => c101 N x_kind x5 r6 hx) (.refl _) fun r6 h => ?_;cbv;refine n_br hE h (fun hc h => ?_) (fun hc h => ?_)
     ·cbv;refine n_store hE hO 0 rfl rfl fun H hO => ?_;cbv;have h := ret_some h;subst h;exact ⟨_, _, rfl, ⟨rfl, rfl, hO⟩, .e rfl (.e rfl (.z)), rfl⟩
     ·cbv;have h := ret_some h;subst h;exact ⟨_, rfl, .e rfl (.e rfl (.e rfl (.e rfl (.e rfl (.e rfl (.e rfl (.z))))))), rfl, hO⟩
    ·cbv;have h := ret_some h;subst h;exact ⟨_, _, rfl, ⟨rfl, rfl, hO⟩, .e rfl (.e rfl (.e rfl (.e rfl (.z)))), rfl⟩
   ·exact .e rfl (.e rfl (.e rfl (.e rfl (.e rfl (.e rfl (.e rfl (.z)))))))
   ·clear hx
    rcases s4 with y7 | y10
    ·rintro e l H ⟨rfl, rfl, hO⟩;cbv;refine n_call hE (g := fun r8 => .agg [.int .i64 r8.Kind, .int .i64 r8.Count, .int .i64 r8.Value.Kind, .int .i64 r8.Value.Num, .str r8.Value.Text]) h (fun r8 hx => c102 N (⟨x_kind, 0, (⟨0, 0, ⟨#[]⟩⟩ : GValue)⟩ : GAccumulator) x_l (.func (.func 103) [] [.eref [.int .i64 x_kind] 0]) (fun y1 y2 => aggregate_Of_1 N y1 y2 x_kind) (fun y1 y2 r hx => CallP.value (F := []) (C := [.eref [.int .i64 x_kind] 0]) (c103 N y1 y2 x_kind r hx)) r8 hx) (.refl _) fun r8 h => ?_;cbv;refine n_call hE (g := fun r9 => .tup [.agg [.int .i64 r9.1.Kind, .int .i64 r9.1.Num, .str r9.1.Text], .int .i64 r9.2]) h (fun r9 hx => c106 N r8 x_otherwise r9 hx) (.refl _) fun r9 h => ?_;cbv;refine n_store hE hO 0 rfl rfl fun H hO => ?_;cbv;refine n_load hE hO 0 rfl ?_;cbv;have h := ret_some h;subst h;exact hK _ _ _ hO (.refl _)
    ·rintro e l H ⟨rfl, rfl, hO⟩;cbv;refine n_load hE hO 0 rfl ?_;cbv;have h := ret_some h;subst h;exact hK _ _ _ hO (.refl _)
def cf72 : Cf := ⟨[4], [], [], [], [], []⟩
theorem c72 (N : Nat) (x_x : Gexpr_evaluator) (x_e : GExpr) (r : (GValue × Int)) (h : expr_evaluator_total N x_x x_e = some r) : CallP Tryz.prog 72 [.agg [.sl (Ar.lst Encs.eLGEvent x_x.env.Vars) .ro, .int .i64 x_x.own, .int .i64 x_x.event.Source, .int .i64 x_x.event.Seq, .int .i64 x_x.event.Typ, .int .i64 x_x.event.Time, .sl (Ar.lst Encs.eGValue x_x.event.Values) .ro, .fmap fmK89 fmX89], .agg [.int .i64 x_e.Op, .sl (Ar.lst Encs.eGExpr x_e.Args) .ro, .int .i64 x_e.Var, .int .i64 x_e.Field, .int .i64 x_e.Kind, .int .i64 x_e.Value.Kind, .int .i64 x_e.Value.Num, .str x_e.Value.Text]] (.tup [.agg [.int .i64 r.1.Kind, .int .i64 r.1.Num, .str r.1.Text], .int .i64 r.2]) := by
 unfold expr_evaluator_total at h
 refine callP_of_spec cf72 okP Tryz.func72 (by rfl) (by kernel_rfl) Tryz.call72 Tryz.ntmps72 (by rfl) (by rfl) ?_;intro E H0 K hE hK
 have hO : Own Eq H0 [] H0 := .start stable_eq rfl
 cbv;refine n_alloc hE hO fun b1 H hO => ?_;cbv;refine n_call hE (g := fun r2 => .sl (Ar.lst Encs.eGEvent r2) .ro) h (fun r2 hx => c71 N x_x x_e.Var r2 hx) (.refl _) fun r2 h => ?_;cbv;refine n_ln hE ?_;cbv;replace hO := hO.tl0 (t := .nil) rfl;obtain ⟨s5, hx, h⟩ := bind_some h;refine n_loopG cf72 hE okP (γ := Tail) (fun s3 g => [(3, .v (.eref [.int .i64 x_e.Op, .sl (Ar.lst Encs.eGExpr x_e.Args) .ro, .int .i64 x_e.Var, .int .i64 x_e.Field, .int .i64 x_e.Kind, .int .i64 x_e.Value.Kind, .int .i64 x_e.Value.Num, .str x_e.Value.Text] 0)), (4, .v (.ref b1 0)), (6, .v (.sl (Ar.lst Encs.eGValue s3.1) g)), (14, .v (.sl (Ar.lst Encs.eGEvent r2) .ro)), (15, .v (.int .i64 (Ar.len r2))), (16, .v (.int .i64 s3.2))]) (fun s3 g H1 => Appn g ∧ Own Eq H0 [.tl g, .blk b1 (.cells [.int .i64 0, .int .i64 0, .str (⟨#[]⟩)])] H1) (fun x e l H1 => match (generalizing := false) x with | .inl y => ∃ u1 : Tail, Appn u1 ∧ e = .exit 0 ∧ l = [(3, .v (.eref [.int .i64 x_e.Op, .sl (Ar.lst Encs.eGExpr x_e.Args) .ro, .int .i64 x_e.Var, .int .i64 x_e.Field, .int .i64 x_e.Kind, .int .i64 x_e.Value.Kind, .int .i64 x_e.Value.Num, .str x_e.Value.Text] 0)), (4, .v (.ref b1 0)), (6, .v (.sl (Ar.lst Encs.eGValue y) u1))] ∧ Own Eq H0 [.tl u1, .blk b1 (.cells [.int .i64 0, .int .i64 0, .str (⟨#[]⟩)])] H1 | .inr y => ∃ u1 : Tail, Appn u1 ∧ e = .ret ∧ l = [(4, .v (.ref b1 0)), (5, .v (.int .i64 y))] ∧ Own Eq H0 [.tl u1, .blk b1 (.cells [.int .i64 0, .int .i64 0, .str (⟨#[]⟩)])] H1) (by kernel_rfl) ?_ .nil hx ?_ ?_ ?_
 ·rintro s3 t4 H o ⟨ht4, hO⟩ h;clear hx;cbv;refine n_br hE h (fun hc h => ?_) (fun hc h => ?_)
  ·cbv;refine n_idx hE Encs.eGEvent_eq h fun x6 h => ?_;cbv;refine n_call hE (g := fun r7 => .tup [.agg [.int .i64 r7.1.Kind, .int .i64 r7.1.Num, .str r7.1.Text], .int .i64 r7.2]) h (fun r7 hx => c73 N x6 x_e.Field r7 hx) (.refl _) fun r7 h => ?_;cbv;refine n_br hE h (fun hc h => ?_) (fun hc h => ?_)
   ·cbv;refine n_store hE hO 1 rfl rfl fun H hO => ?_;cbv;have h := ret_some h;subst h;exact ⟨_, _, rfl, ⟨t4, ht4, rfl, rfl, hO⟩, .e rfl (.e rfl (.z)), rfl⟩
   ·cbv;refine n_appn (f := Encs.eGValue) hE sz_GValue (by decide) hO 0 rfl ht4 (l := s3.1) (m := [r7.1]) (.refl _) (.lstc (.eq (Encs.eGValue_eq r7.1) (.refl _)) (.lst0)) h fun l9 t8 H hO ht8 h => ?_;cbv;have h := ret_some h;subst h;exact ⟨_, t8, rfl, .e rfl (.e rfl (.e rfl (.e rfl (.e rfl (.e rfl (.z)))))), rfl, ht8, hO⟩
  ·cbv;have h := ret_some h;subst h;exact ⟨_, _, rfl, ⟨t4, ht4, rfl, rfl, hO⟩, .e rfl (.e rfl (.e rfl (.z))), rfl⟩
 ·exact .e rfl (.e rfl (.v (.slt _ (.lst0)) (.e rfl (.e rfl (.e rfl (.z))))))
 ·exact ⟨trivial, hO⟩
 ·clear hx
  rcases s5 with y10 | y13
  ·rintro e l H ⟨t11, ht11, rfl, rfl, hO⟩;cbv;refine n_call hE (g := fun r12 => .tup [.agg [.int .i64 r12.1.Kind, .int .i64 r12.1.Num, .str r12.1.Text], .int .i64 r12.2]) h (fun r12 hx => c85 N x_e.Kind y10 x_e.Value r12 hx) (.cons (.refl _) (.cons (.ro _ _) (.refl _))) fun r12 h => ?_;cbv;refine n_store hE hO 1 rfl rfl fun H hO => ?_;cbv;refine n_load hE hO 1 rfl ?_;cbv;have h := ret_some h;subst h;exact hK _ _ _ hO (.refl _)
  ·rintro e l H ⟨t14, ht14, rfl, rfl, hO⟩;cbv;refine n_load hE hO 1 rfl ?_;cbv;have h := ret_some h;subst h;exact hK _ _ _ hO (.refl _)
def cf60 : Cf := ⟨[4, 7], [], [(38, 12), (63, 19)], [], [], []⟩
theorem c60 (N : Nat) (x_x : Gexpr_evaluator) (x_e : GExpr) (r : (GValue × Int)) (h : expr_evaluator_leaf N x_x x_e = some r) : CallP Tryz.prog 60 [.agg [.sl (Ar.lst Encs.eLGEvent x_x.env.Vars) .ro, .int .i64 x_x.own, .int .i64 x_x.event.Source, .int .i64 x_x.event.Seq, .int .i64 x_x.event.Typ, .int .i64 x_x.event.Time, .sl (Ar.lst Encs.eGValue x_x.event.Values) .ro, .fmap fmK89 fmX89], .agg [.int .i64 x_e.Op, .sl (Ar.lst Encs.eGExpr x_e.Args) .ro, .int .i64 x_e.Var, .int .i64 x_e.Field, .int .i64 x_e.Kind, .int .i64 x_e.Value.Kind, .int .i64 x_e.Value.Num, .str x_e.Value.Text]] (.tup [.agg [.int .i64 r.1.Kind, .int .i64 r.1.Num, .str r.1.Text], .int .i64 r.2]) := by
 unfold expr_evaluator_leaf at h
 refine callP_of_spec cf60 okP Tryz.func60 (by rfl) (by kernel_rfl) Tryz.call60 Tryz.ntmps60 (by rfl) (by rfl) ?_;intro E H0 K hE hK
 have hO : Own Eq H0 [] H0 := .start stable_eq rfl
 cbv;refine n_alloc hE hO fun b1 H hO => ?_;cbv;refine n_call hE (g := fun r2 => .sl (Ar.lst Encs.eGEvent r2) .ro) h (fun r2 hx => c71 N x_x x_e.Var r2 hx) (.refl _) fun r2 h => ?_;cbv;refine n_br hE h (fun hc h => ?_) (fun hc h => ?_)
 ·cbv;refine n_store hE hO 0 rfl rfl fun H hO => ?_;cbv;refine n_load hE hO 0 rfl ?_;cbv;have h := ret_some h;subst h;exact hK _ _ _ hO (.refl _)
 ·cbv;refine n_br hE h (fun hc h => ?_) (fun hc h => ?_)
  ·cbv;refine n_ln hE ?_;cbv;refine n_store hE hO 0 rfl rfl fun H hO => ?_;cbv;refine n_load hE hO 0 rfl ?_;cbv;have h := ret_some h;subst h;exact hK _ _ _ hO (.refl _)
  ·cbv;refine n_br hE h (fun hc h => ?_) (fun hc h => ?_)
   ·cbv;refine n_call hE (g := fun r3 => .tup [.agg [.int .i64 r3.1.Kind, .int .i64 r3.1.Num, .str r3.1.Text], .int .i64 r3.2]) h (fun r3 hx => c72 N x_x x_e r3 hx) (.refl _) fun r3 h => ?_;cbv;refine n_store hE hO 0 rfl rfl fun H hO => ?_;cbv;refine n_load hE hO 0 rfl ?_;cbv;have h := ret_some h;subst h;exact hK _ _ _ hO (.refl _)
   ·cbv;refine n_alloc hE hO fun b4 H hO => ?_;cbv;refine n_store hE hO 0 rfl rfl fun H hO => ?_;cbv;obtain ⟨s5, hx, h⟩ := bind_some h;refine n_join cf60 hE okP (fun e l H1 => match (generalizing := false) s5 with | .inl y => e = .normal ∧ l = [(3, .v (.eref [.int .i64 x_e.Op, .sl (Ar.lst Encs.eGExpr x_e.Args) .ro, .int .i64 x_e.Var, .int .i64 x_e.Field, .int .i64 x_e.Kind, .int .i64 x_e.Value.Kind, .int .i64 x_e.Value.Num, .str x_e.Value.Text] 0)), (4, .v (.ref b1 0)), (7, .v (.ref b4 0))] ∧ Own Eq H0 [.blk b4 (.cells [.int .i64 y.Source, .int .i64 y.Seq, .int .i64 y.Typ, .int .i64 y.Time, .sl (Ar.lst Encs.eGValue y.Values) .ro]), .blk b1 (.cells [.int .i64 0, .int .i64 0, .str (⟨#[]⟩)])] H1 | .inr y => e = .ret ∧ l = [(4, .v (.ref b1 0)), (5, .v (.int .i64 10))] ∧ Own Eq H0 [.blk b4 (.cells [.int .i64 x_x.event.Source, .int .i64 x_x.event.Seq, .int .i64 x_x.event.Typ, .int .i64 x_x.event.Time, .sl (Ar.lst Encs.eGValue x_x.event.Values) .ro]), .blk b1 (.cells [.int .i64 0, .int .i64 0, .str (⟨#[]⟩)])] H1) (by kernel_rfl) ?_ ?_
    ·clear h;have h := hx;clear hx;cbv;refine n_br hE h (fun hc h => ?_) (fun hc h => ?_)
     ·cbv;refine n_ln hE ?_;cbv;refine n_br hE h (fun hc h => ?_) (fun hc h => ?_)
      ·cbv;refine n_store hE hO 1 rfl rfl fun H hO => ?_;cbv;have h := ret_some h;subst h;exact ⟨_, ⟨rfl, rfl, hO⟩, .e rfl (.e rfl (.z)), rfl⟩
      ·cbv;refine n_ln hE ?_;cbv;refine n_idx hE Encs.eGEvent_eq h fun x6 h => ?_;cbv;refine n_store hE hO 0 rfl rfl fun H hO => ?_;cbv;have h := ret_some h;subst h;exact ⟨_, ⟨rfl, rfl, hO⟩, .e rfl (.e rfl (.e rfl (.z))), rfl⟩
     ·cbv;have h := ret_some h;subst h;exact ⟨_, ⟨rfl, rfl, hO⟩, .e rfl (.e rfl (.e rfl (.z))), rfl⟩
    ·clear hx
     rcases s5 with y7 | y11
     ·rintro e l H ⟨rfl, rfl, hO⟩;cbv;refine n_br hE h (fun hc h => ?_) (fun hc h => ?_)
      ·cbv;refine n_load hE hO 0 rfl ?_;cbv;refine n_store hE hO 1 rfl rfl fun H hO => ?_;cbv;refine n_load hE hO 1 rfl ?_;cbv;have h := ret_some h;subst h;exact hK _ _ _ hO (.refl _)
      ·cbv;refine n_load hE hO 0 rfl ?_;cbv;refine n_call hE (g := fun r8 => .tup [.agg [.int .i64 r8.1.Kind, .int .i64 r8.1.Num, .str r8.1.Text], .int .i64 r8.2]) h (fun r8 hx => c73 N y7 x_e.Field r8 hx) (.refl _) fun r8 h => ?_;cbv;obtain ⟨s9, hx, h⟩ := bind_some h;refine n_join cf60 hE okP (fun e l H1 => e = .normal ∧ l = [(4, .v (.ref b1 0)), (8, .v (.eref [.int .i64 r8.1.Kind, .int .i64 r8.1.Num, .str r8.1.Text] 0)), (9, .v (.int .i64 s9))] ∧ Own Eq H0 [.blk b4 (.cells [.int .i64 y7.Source, .int .i64 y7.Seq, .int .i64 y7.Typ, .int .i64 y7.Time, .sl (Ar.lst Encs.eGValue y7.Values) .ro]), .blk b1 (.cells [.int .i64 0, .int .i64 0, .str (⟨#[]⟩)])] H1) (by kernel_rfl) ?_ ?_
       ·clear h;have h := hx;clear hx;cbv;refine n_br hE h (fun hc h => ?_) (fun hc h => ?_)
        ·cbv;refine n_call hE (g := fun r10 => .int .i64 r10) h (fun r10 hx => c69 N r8.1 r10 hx) (.refl _) fun r10 h => ?_;cbv;have h := ret_some h;subst h;exact ⟨_, ⟨rfl, rfl, hO⟩, .e rfl (.e rfl (.e rfl (.z))), rfl⟩
        ·cbv;have h := ret_some h;subst h;exact ⟨_, ⟨rfl, rfl, hO⟩, .e rfl (.e rfl (.e rfl (.z))), rfl⟩
       ·clear hx;rintro e l H ⟨rfl, rfl, hO⟩;cbv;refine n_br hE h (fun hc h => ?_) (fun hc h => ?_)
        ·cbv;refine n_store hE hO 1 rfl rfl fun H hO => ?_;cbv;refine n_load hE hO 1 rfl ?_;cbv;have h := ret_some h;subst h;exact hK _ _ _ hO (.refl _)
        ·cbv;refine n_store hE hO 1 rfl rfl fun H hO => ?_;cbv;refine n_load hE hO 1 rfl ?_;cbv;have h := ret_some h;subst h;exact hK _ _ _ hO (.refl _)
     ·rintro e l H ⟨rfl, rfl, hO⟩;cbv;refine n_load hE hO 1 rfl ?_;cbv;have h := ret_some h;subst h;exact hK _ _ _ hO (.refl _)
def cf61 : Cf := ⟨[], [], [(15, 8), (22, 13)], [], [], []⟩
theorem c61 (N : Nat) (x_op : Int) (x_kinds : List Int) (r : Int) (h : expr_operands N x_op x_kinds = some r) : CallP Tryz.prog 61 [.int .i64 x_op, .sl (Ar.lst (V.int .i64) x_kinds) .ro] (.int .i64 r) := by
 unfold expr_operands at h
 refine callP_of_spec cf61 okP Tryz.func61 (by rfl) (by kernel_rfl) Tryz.call61 Tryz.ntmps61 (by rfl) (by rfl) ?_;intro E H0 K hE hK
 have hO : Own Eq H0 [] H0 := .start stable_eq rfl
 cbv;refine n_ln hE ?_;cbv;obtain ⟨s2, hx, h⟩ := bind_some h;refine n_loopN cf61 hE okP (fun s1 => [(0, .v (.int .i64 x_op)), (1, .v (.sl (Ar.lst (V.int .i64) x_kinds) .ro)), (8, .v (.sl (Ar.lst (V.int .i64) x_kinds) .ro)), (9, .v (.int .i64 (Ar.len x_kinds))), (10, .v (.int .i64 s1))]) (fun s1 H1 => Own Eq H0 [] H1) (fun x e l H1 => match (generalizing := false) x with | .inl y => e = .exit 0 ∧ l = [] ∧ Own Eq H0 [] H1 | .inr y => e = .ret ∧ l = [(4, .v (.int .i64 9))] ∧ Own Eq H0 [] H1) (by kernel_rfl) ?_ hx ?_ hO ?_
 ·intro s1 H o hO h;clear hx;cbv;refine n_br hE h (fun hc h => ?_) (fun hc h => ?_)
  ·cbv;refine n_idx hE (fun _ => rfl) h fun x3 h => ?_;cbv;obtain ⟨s4, hx, h⟩ := bind_some h;refine n_join cf61 hE okP (fun e l H1 => e = .normal ∧ l = [(0, .v (.int .i64 x_op)), (1, .v (.sl (Ar.lst (V.int .i64) x_kinds) .ro)), (6, .v (.int .i64 x3)), (7, .b true), (8, .v (.sl (Ar.lst (V.int .i64) x_kinds) .ro)), (9, .v (.int .i64 (Ar.len x_kinds))), (10, .v (.int .i64 s1)), (14, .v (.int .i64 x_op)), (15, .v (.bool s4))] ∧ Own Eq H0 [] H1) (by kernel_rfl) ?_ ?_
   ·clear h;have h := hx;clear hx;cbv;refine n_br hE h (fun hc h => ?_) (fun hc h => ?_)
    ·cbv;have h := ret_some h;subst h;exact ⟨_, ⟨rfl, rfl, hO⟩, .e rfl (.e rfl (.e rfl (.b rfl (.e rfl (.e rfl (.e rfl (.e rfl (.e rfl (.z))))))))), rfl⟩
    ·cbv;refine n_br hE h (fun hc h => ?_) (fun hc h => ?_)
     ·cbv;have h := ret_some h;subst h;exact ⟨_, ⟨rfl, rfl, hO⟩, .e rfl (.e rfl (.e rfl (.b rfl (.e rfl (.e rfl (.e rfl (.e rfl (.e rfl (.z))))))))), rfl⟩
     ·cbv;refine n_br hE h (fun hc h => ?_) (fun hc h => ?_)
      ·cbv;have h := ret_some h;subst h;exact ⟨_, ⟨rfl, rfl, hO⟩, .e rfl (.e rfl (.e rfl (.b rfl (.e rfl (.e rfl (.e rfl (.e rfl (.e rfl (.z))))))))), rfl⟩
      ·cbv;have h := ret_some h;subst h;exact ⟨_, ⟨rfl, rfl, hO⟩, .e rfl (.e rfl (.e rfl (.b rfl (.e rfl (.e rfl (.e rfl (.e rfl (.e rfl (.z))))))))), rfl⟩
   ·clear hx;rintro e l H ⟨rfl, rfl, hO⟩;cbv;refine n_br hE h (fun hc h => ?_) (fun hc h => ?_)
    ·cbv;refine n_br hE h (fun hc h => ?_) (fun hc h => ?_)
     ·cbv;have h := ret_some h;subst h;exact ⟨_, _, rfl, ⟨rfl, rfl, hO⟩, .e rfl (.z), rfl⟩
     ·cbv;have h := ret_some h;subst h;exact ⟨_, rfl, .e rfl (.e rfl (.e rfl (.e rfl (.e rfl (.z))))), rfl, hO⟩
    ·cbv;obtain ⟨s5, hx, h⟩ := bind_some h;refine n_join cf61 hE okP (fun e l H1 => e = .normal ∧ l = [(0, .v (.int .i64 x_op)), (1, .v (.sl (Ar.lst (V.int .i64) x_kinds) .ro)), (6, .v (.int .i64 x3)), (7, .b true), (8, .v (.sl (Ar.lst (V.int .i64) x_kinds) .ro)), (9, .v (.int .i64 (Ar.len x_kinds))), (10, .v (.int .i64 s1)), (14, .v (.int .i64 x_op)), (22, .v (.bool s5))] ∧ Own Eq H0 [] H1) (by kernel_rfl) ?_ ?_
     ·clear h;have h := hx;clear hx;cbv;refine n_br hE h (fun hc h => ?_) (fun hc h => ?_)
      ·cbv;have h := ret_some h;subst h;exact ⟨_, ⟨rfl, rfl, hO⟩, .e rfl (.e rfl (.e rfl (.b rfl (.e rfl (.e rfl (.e rfl (.e rfl (.e rfl (.z))))))))), rfl⟩
      ·cbv;refine n_br hE h (fun hc h => ?_) (fun hc h => ?_)
       ·cbv;have h := ret_some h;subst h;exact ⟨_, ⟨rfl, rfl, hO⟩, .e rfl (.e rfl (.e rfl (.b rfl (.e rfl (.e rfl (.e rfl (.e rfl (.e rfl (.z))))))))), rfl⟩
       ·cbv;have h := ret_some h;subst h;exact ⟨_, ⟨rfl, rfl, hO⟩, .e rfl (.e rfl (.e rfl (.b rfl (.e rfl (.e rfl (.e rfl (.e rfl (.e rfl (.z))))))))), rfl⟩
     ·clear hx;rintro e l H ⟨rfl, rfl, hO⟩;cbv;refine n_br hE h (fun hc h => ?_) (fun hc h => ?_)
      ·cbv;refine n_br hE h (fun hc h => ?_) (fun hc h => ?_)
       ·cbv;have h := ret_some h;subst h;exact ⟨_, _, rfl, ⟨rfl, rfl, hO⟩, .e rfl (.z), rfl⟩
       ·cbv;have h := ret_some h;subst h;exact ⟨_, rfl, .e rfl (.e rfl (.e rfl (.e rfl (.e rfl (.z))))), rfl, hO⟩
      ·cbv;refine n_br hE h (fun hc h => ?_) (fun hc h => ?_)
       ·cbv;refine n_idx hE (fun _ => rfl) h fun x6 h => ?_;cbv;refine n_br hE h (fun hc h => ?_) (fun hc h => ?_)
        ·cbv;have h := ret_some h;subst h;exact ⟨_, _, rfl, ⟨rfl, rfl, hO⟩, .e rfl (.z), rfl⟩
        ·cbv;have h := ret_some h;subst h;exact ⟨_, rfl, .e rfl (.e rfl (.e rfl (.e rfl (.e rfl (.z))))), rfl, hO⟩
       ·cbv;have h := ret_some h;subst h;exact ⟨_, rfl, .e rfl (.e rfl (.e rfl (.e rfl (.e rfl (.z))))), rfl, hO⟩
  ·cbv;have h := ret_some h;subst h;exact ⟨_, _, rfl, ⟨rfl, rfl, hO⟩, .z, rfl⟩
 ·exact .e rfl (.e rfl (.e rfl (.e rfl (.e rfl (.z)))))
 ·clear hx
  rcases s2 with y7 | y8
  ·rintro e l H ⟨rfl, rfl, hO⟩;cbv;have h := ret_some h;subst h;exact hK _ _ _ hO (.refl _)
  ·rintro e l H ⟨rfl, rfl, hO⟩;cbv;have h := ret_some h;subst h;exact hK _ _ _ hO (.refl _)
end Go.Ab

