/- GRCo3 -/
import Derived.Test.YtbjdkpckplopdaaT34
set_option linter.all false

namespace Go.Ab
open Go.RowKit Go.Proofs
variable [Ar] [Encs]
set_option maxRecDepth 100000
def cf22 : Cf := ⟨[], [(6, 12), (11, 20), (17, 10)], [], [], [], []⟩
theorem c22 (N : Nat) (x_a : GEnv) (x_b : GEnv) (r : Bool) (h : ref26_SameEnv N x_a x_b = some r) : CallP Try.prog 22 [.agg [.sl (Ar.lst Encs.eLGEvent x_a.Vars) .ro], .agg [.sl (Ar.lst Encs.eLGEvent x_b.Vars) .ro]] (.bool r) := by
 unfold ref26_SameEnv at h
 refine callP_of_spec cf22 okP Try.func22 (by rfl) (by kernel_rfl) Try.call22 Try.ntmps22 (by rfl) (by rfl) ?_;intro E H0 K hE hK
 have hO : Own Eq H0 [] H0 := .start stable_eq rfl
 cbv;refine n_ln hE ?_;cbv;refine n_ln hE ?_;cbv;refine n_br hE h (fun hc h => ?_) (fun hc h => ?_)
 ·cbv;have h := ret_some h;subst h;exact hK _ _ _ hO (.refl _)
 ·cbv;obtain ⟨s2, hx, h⟩ := bind_some h;refine n_loopN cf22 hE okP (fun s1 => [(2, .v (.eref [.sl (Ar.lst Encs.eLGEvent x_a.Vars) .ro] 0)), (3, .v (.eref [.sl (Ar.lst Encs.eLGEvent x_b.Vars) .ro] 0)), (5, .v (.int .i64 s1))]) (fun s1 H1 => Own Eq H0 [] H1) (fun x e l H1 => match (generalizing := false) x with | .inl y => e = .exit 0 ∧ l = [] ∧ Own Eq H0 [] H1 | .inr y => e = .ret ∧ l = [(4, .b false)] ∧ Own Eq H0 [] H1) (by kernel_rfl) ?_ hx ?_ hO ?_
  ·intro s1 H o hO h;clear hx;cbv;refine n_ln hE ?_;cbv;refine n_br hE h (fun hc h => ?_) (fun hc h => ?_)
   ·cbv;refine n_idx hE Encs.eLGEvent_eq h fun x3 h => ?_;cbv;refine n_ln hE ?_;cbv;refine n_idx hE Encs.eLGEvent_eq h fun x4 h => ?_;cbv;refine n_ln hE ?_;cbv;refine n_br hE h (fun hc h => ?_) (fun hc h => ?_)
    ·cbv;have h := ret_some h;subst h;exact ⟨_, _, rfl, ⟨rfl, rfl, hO⟩, .b rfl (.z), rfl⟩
    ·cbv;obtain ⟨s6, hx, h⟩ := bind_some h;refine n_loopN cf22 hE okP (fun s5 => [(2, .v (.eref [.sl (Ar.lst Encs.eLGEvent x_a.Vars) .ro] 0)), (3, .v (.eref [.sl (Ar.lst Encs.eLGEvent x_b.Vars) .ro] 0)), (5, .v (.int .i64 s1)), (6, .v (.int .i64 s5))]) (fun s5 H1 => Own Eq H0 [] H1) (fun x e l H1 => match (generalizing := false) x with | .inl y => e = .exit 2 ∧ l = [(2, .v (.eref [.sl (Ar.lst Encs.eLGEvent x_a.Vars) .ro] 0)), (3, .v (.eref [.sl (Ar.lst Encs.eLGEvent x_b.Vars) .ro] 0)), (5, .v (.int .i64 s1))] ∧ Own Eq H0 [] H1 | .inr y => e = .ret ∧ l = [(4, .b false)] ∧ Own Eq H0 [] H1) (by kernel_rfl) ?_ hx ?_ hO ?_
     ·intro s5 H o hO h;clear hx;cbv;refine n_idx hE Encs.eLGEvent_eq h fun x7 h => ?_;cbv;refine n_ln hE ?_;cbv;refine n_br hE h (fun hc h => ?_) (fun hc h => ?_)
      ·cbv;refine n_idx hE Encs.eLGEvent_eq h fun x8 h => ?_;cbv;refine n_idx hE Encs.eGEvent_eq h fun x9 h => ?_;cbv;refine n_idx hE Encs.eLGEvent_eq h fun x10 h => ?_;cbv;refine n_idx hE Encs.eGEvent_eq h fun x11 h => ?_;cbv;refine n_ln hE ?_;cbv;refine n_ln hE ?_;cbv;refine n_br hE h (fun hc h => ?_) (fun hc h => ?_)
       ·cbv;have h := ret_some h;subst h;exact ⟨_, _, rfl, ⟨rfl, rfl, hO⟩, .b rfl (.z), rfl⟩
       ·cbv;obtain ⟨s13, hx, h⟩ := bind_some h;refine n_loopN cf22 hE okP (fun s12 => [(2, .v (.eref [.sl (Ar.lst Encs.eLGEvent x_a.Vars) .ro] 0)), (3, .v (.eref [.sl (Ar.lst Encs.eLGEvent x_b.Vars) .ro] 0)), (5, .v (.int .i64 s1)), (6, .v (.int .i64 s5)), (7, .v (.eref [.int .i64 x9.Source, .int .i64 x9.Seq, .int .i64 x9.Typ, .int .i64 x9.Time, .sl (Ar.lst Encs.eGValue x9.Values) .ro] 0)), (8, .v (.eref [.int .i64 x11.Source, .int .i64 x11.Seq, .int .i64 x11.Typ, .int .i64 x11.Time, .sl (Ar.lst Encs.eGValue x11.Values) .ro] 0)), (9, .v (.int .i64 s12))]) (fun s12 H1 => Own Eq H0 [] H1) (fun x e l H1 => match (generalizing := false) x with | .inl y => e = .exit 4 ∧ l = [(2, .v (.eref [.sl (Ar.lst Encs.eLGEvent x_a.Vars) .ro] 0)), (3, .v (.eref [.sl (Ar.lst Encs.eLGEvent x_b.Vars) .ro] 0)), (5, .v (.int .i64 s1)), (6, .v (.int .i64 s5))] ∧ Own Eq H0 [] H1 | .inr y => e = .ret ∧ l = [(4, .b false)] ∧ Own Eq H0 [] H1) (by kernel_rfl) ?_ hx ?_ hO ?_
        ·intro s12 H o hO h;clear hx;cbv;refine n_ln hE ?_;cbv;refine n_br hE h (fun hc h => ?_) (fun hc h => ?_)
         ·cbv;refine n_idx hE Encs.eGValue_eq h fun x14 h => ?_;cbv;refine n_idx hE Encs.eGValue_eq h fun x15 h => ?_;cbv;refine n_br hE h (fun hc h => ?_) (fun hc h => ?_)
          ·cbv;have h := ret_some h;subst h;exact ⟨_, _, rfl, ⟨rfl, rfl, hO⟩, .b rfl (.z), rfl⟩
          ·cbv;have h := ret_some h;subst h;exact ⟨_, rfl, .e rfl (.e rfl (.e rfl (.e rfl (.e rfl (.e rfl (.e rfl (.z))))))), rfl, hO⟩
         ·cbv;have h := ret_some h;subst h;exact ⟨_, _, rfl, ⟨rfl, rfl, hO⟩, .e rfl (.e rfl (.e rfl (.e rfl (.z)))), rfl⟩
        ·exact .e rfl (.e rfl (.e rfl (.e rfl (.e rfl (.e rfl (.e rfl (.z)))))))
        ·clear hx
         rcases s13 with y16 | y17
         ·rintro e l H ⟨rfl, rfl, hO⟩;cbv;have h := ret_some h;subst h;exact ⟨_, rfl, .e rfl (.e rfl (.e rfl (.e rfl (.z)))), rfl, hO⟩
         ·rintro e l H ⟨rfl, rfl, hO⟩;cbv;have h := ret_some h;subst h;exact ⟨_, _, rfl, ⟨rfl, rfl, hO⟩, .b rfl (.z), rfl⟩
      ·cbv;have h := ret_some h;subst h;exact ⟨_, _, rfl, ⟨rfl, rfl, hO⟩, .e rfl (.e rfl (.e rfl (.z))), rfl⟩
     ·exact .e rfl (.e rfl (.e rfl (.e rfl (.z))))
     ·clear hx
      rcases s6 with y18 | y19
      ·rintro e l H ⟨rfl, rfl, hO⟩;cbv;have h := ret_some h;subst h;exact ⟨_, rfl, .e rfl (.e rfl (.e rfl (.z))), rfl, hO⟩
      ·rintro e l H ⟨rfl, rfl, hO⟩;cbv;have h := ret_some h;subst h;exact ⟨_, _, rfl, ⟨rfl, rfl, hO⟩, .b rfl (.z), rfl⟩
   ·cbv;have h := ret_some h;subst h;exact ⟨_, _, rfl, ⟨rfl, rfl, hO⟩, .z, rfl⟩
  ·exact .e rfl (.e rfl (.e rfl (.z)))
  ·clear hx
   rcases s2 with y20 | y21
   ·rintro e l H ⟨rfl, rfl, hO⟩;cbv;have h := ret_some h;subst h;exact hK _ _ _ hO (.refl _)
   ·rintro e l H ⟨rfl, rfl, hO⟩;cbv;have h := ret_some h;subst h;exact hK _ _ _ hO (.refl _)
def cf31 : Cf := ⟨[6], [], [], [], [], []⟩
theorem c31 (N : Nat) (x_op : Int) (x_a : GExpr) (x_b : GExpr) (r : GExpr) (h : law26_two N x_op x_a x_b = some r) : CallP Try.prog 31 [.int .i64 x_op, .agg [.int .i64 x_a.Op, .sl (Ar.lst Encs.eGExpr x_a.Args) .ro, .int .i64 x_a.Var, .int .i64 x_a.Field, .int .i64 x_a.Kind, .int .i64 x_a.Value.Kind, .int .i64 x_a.Value.Num, .str x_a.Value.Text], .agg [.int .i64 x_b.Op, .sl (Ar.lst Encs.eGExpr x_b.Args) .ro, .int .i64 x_b.Var, .int .i64 x_b.Field, .int .i64 x_b.Kind, .int .i64 x_b.Value.Kind, .int .i64 x_b.Value.Num, .str x_b.Value.Text]] (.agg [.int .i64 r.Op, .sl (Ar.lst Encs.eGExpr r.Args) .ro, .int .i64 r.Var, .int .i64 r.Field, .int .i64 r.Kind, .int .i64 r.Value.Kind, .int .i64 r.Value.Num, .str r.Value.Text]) := by
 unfold law26_two at h
 refine callP_of_spec cf31 okP Try.func31 (by rfl) (by kernel_rfl) Try.call31 Try.ntmps31 (by rfl) (by rfl) ?_;intro E H0 K hE hK
 have hO : Own Eq H0 [] H0 := .start stable_eq rfl
 cbv;refine n_alloc hE hO fun b1 H hO => ?_;cbv;refine n_store hE hO 0 rfl rfl fun H hO => ?_;cbv;refine n_load hE hO 0 rfl ?_;cbv;have h := ret_some h;subst h;exact hK _ _ _ hO (.agg (.cons (.refl _) (.cons (.lit _ (lst_cons ((Encs.eGExpr_eq x_a).symm) (lst_cons ((Encs.eGExpr_eq x_b).symm) (lst_nil)))) (.refl _))))
def cf32 : Cf := ⟨[4], [], [], [], [], []⟩
theorem c32 (N : Nat) (x_v : Int) (x_f : Int) (r : GExpr) (h : law26_field N x_v x_f = some r) : CallP Try.prog 32 [.int .i64 x_v, .int .i64 x_f] (.agg [.int .i64 r.Op, .sl (Ar.lst Encs.eGExpr r.Args) .ro, .int .i64 r.Var, .int .i64 r.Field, .int .i64 r.Kind, .int .i64 r.Value.Kind, .int .i64 r.Value.Num, .str r.Value.Text]) := by
 unfold law26_field at h
 refine callP_of_spec cf32 okP Try.func32 (by rfl) (by kernel_rfl) Try.call32 Try.ntmps32 (by rfl) (by rfl) ?_;intro E H0 K hE hK
 have hO : Own Eq H0 [] H0 := .start stable_eq rfl
 cbv;refine n_alloc hE hO fun b1 H hO => ?_;cbv;refine n_store hE hO 0 rfl rfl fun H hO => ?_;cbv;refine n_load hE hO 0 rfl ?_;cbv;have h := ret_some h;subst h;exact hK _ _ _ hO (.agg (.cons (.refl _) (.cons (.lit _ (lst_nil)) (.refl _))))
def cf33 : Cf := ⟨[2], [], [], [], [], []⟩
theorem c33 (N : Nat) (x_b : Bool) (r : GValue) (h : ref08_Flag N x_b = some r) : CallP Try.prog 33 [.bool x_b] (.agg [.int .i64 r.Kind, .int .i64 r.Num, .str r.Text]) := by
 unfold ref08_Flag at h
 refine callP_of_spec cf33 okP Try.func33 (by rfl) (by kernel_rfl) Try.call33 Try.ntmps33 (by rfl) (by rfl) ?_;intro E H0 K hE hK
 have hO : Own Eq H0 [] H0 := .start stable_eq rfl
 cbv;refine n_alloc hE hO fun b1 H hO => ?_;cbv;refine n_br hE h (fun hc h => ?_) (fun hc h => ?_)
 ·cbv;refine n_store hE hO 0 rfl rfl fun H hO => ?_;cbv;refine n_load hE hO 0 rfl ?_;cbv;have h := ret_some h;subst h;exact hK _ _ _ hO (.refl _)
 ·cbv;refine n_store hE hO 0 rfl rfl fun H hO => ?_;cbv;refine n_load hE hO 0 rfl ?_;cbv;have h := ret_some h;subst h;exact hK _ _ _ hO (.refl _)
def cf9 : Cf := ⟨[], [(2, 10), (4, 11)], [], [], [], []⟩
theorem c9 (N : Nat) (r : Bool) (h : law26_awake N  = some r) : CallP Try.prog 9 [] (.bool r) := by
 unfold law26_awake at h
 refine callP_of_spec cf9 okP Try.func9 (by rfl) (by kernel_rfl) Try.call9 Try.ntmps9 (by rfl) (by rfl) ?_;intro E H0 K hE hK
 have hO : Own Eq H0 [] H0 := .start stable_eq rfl
 cbv;refine n_pcall hE (g := fun r1 => .agg [.int .i64 r1.Op, .sl (Ar.lst Encs.eGExpr r1.Args) .ro, .int .i64 r1.Var, .int .i64 r1.Field, .int .i64 r1.Kind, .int .i64 r1.Value.Kind, .int .i64 r1.Value.Num, .str r1.Value.Text]) h (fun r1 hx => c32 N 0 0 r1 hx) (.refl _) fun r1 h => ?_;cbv;refine n_pcall hE (g := fun r2 => .agg [.int .i64 r2.Op, .sl (Ar.lst Encs.eGExpr r2.Args) .ro, .int .i64 r2.Var, .int .i64 r2.Field, .int .i64 r2.Kind, .int .i64 r2.Value.Kind, .int .i64 r2.Value.Num, .str r2.Value.Text]) h (fun r2 hx => c31 N 5 (⟨4, [], 1, 1, 5, (⟨0, 0, ⟨#[]⟩⟩ : GValue)⟩ : GExpr) (⟨2, [], 2, 0, 0, (⟨0, 0, ⟨#[]⟩⟩ : GValue)⟩ : GExpr) r2 hx) (.cons (.refl _) (.cons (.agg (.cons (.refl _) (.cons (.lit _ (lst_nil)) (.refl _)))) (.cons (.agg (.cons (.refl _) (.cons (.lit _ (lst_nil)) (.refl _)))) (.refl _)))) fun r2 h => ?_;cbv;refine n_pcall hE (g := fun r3 => .agg [.int .i64 r3.Op, .sl (Ar.lst Encs.eGExpr r3.Args) .ro, .int .i64 r3.Var, .int .i64 r3.Field, .int .i64 r3.Kind, .int .i64 r3.Value.Kind, .int .i64 r3.Value.Num, .str r3.Value.Text]) h (fun r3 hx => c31 N 7 r1 r2 r3 hx) (.refl _) fun r3 h => ?_;cbv;refine n_pcall hE (g := fun r4 => .tup [.sl (Ar.lst Encs.eGNeed r4.1) .ro, .int .i64 r4.2]) h (fun r4 hx => c10 N r3 2 r4 hx) (.refl _) fun r4 h => ?_;cbv;refine n_call hE (g := fun r5 => .agg [.int .i64 r5.Kind, .int .i64 r5.Num, .str r5.Text]) h (fun r5 hx => c33 N true r5 hx) (.refl _) fun r5 h => ?_;cbv;refine n_pcall hE (g := fun r6 => .agg [.int .i64 r6.Op, .sl (Ar.lst Encs.eGExpr r6.Args) .ro, .int .i64 r6.Var, .int .i64 r6.Field, .int .i64 r6.Kind, .int .i64 r6.Value.Kind, .int .i64 r6.Value.Num, .str r6.Value.Text]) h (fun r6 hx => c32 N 0 0 r6 hx) (.refl _) fun r6 h => ?_;cbv;refine n_pcall hE (g := fun r7 => .agg [.int .i64 r7.Op, .sl (Ar.lst Encs.eGExpr r7.Args) .ro, .int .i64 r7.Var, .int .i64 r7.Field, .int .i64 r7.Kind, .int .i64 r7.Value.Kind, .int .i64 r7.Value.Num, .str r7.Value.Text]) h (fun r7 hx => c32 N 1 0 r7 hx) (.refl _) fun r7 h => ?_;cbv;refine n_pcall hE (g := fun r8 => .agg [.int .i64 r8.Op, .sl (Ar.lst Encs.eGExpr r8.Args) .ro, .int .i64 r8.Var, .int .i64 r8.Field, .int .i64 r8.Kind, .int .i64 r8.Value.Kind, .int .i64 r8.Value.Num, .str r8.Value.Text]) h (fun r8 hx => c31 N 7 r6 r7 r8 hx) (.refl _) fun r8 h => ?_;cbv;refine n_call hE (g := fun r9 => .tup [.sl (Ar.lst Encs.eLGNeed r9.1) .ro, .int .i64 r9.2]) h (fun r9 hx => c14 N (⟨2, 0, [(⟨[]⟩ : GState), (⟨[]⟩ : GState)], [(⟨0, 1, 0, 0, (⟨0, [], 0, 0, 0, r5⟩ : GExpr), [], [], [], [], []⟩ : GEdge), (⟨1, (-1), 1, 1, r8, [], [], [], [], []⟩ : GEdge)]⟩ : GAutomaton) r9 hx) (.cons (.agg (.cons (.refl _) (.cons (.refl _) (.cons (.sl _ (.lstc (.eq (Encs.eGState_eq (⟨[]⟩ : GState)) (.agg (.cons (.lit _ (lst_nil)) (.refl _)))) (.lstc (.eq (Encs.eGState_eq (⟨[]⟩ : GState)) (.agg (.cons (.lit _ (lst_nil)) (.refl _)))) (.lst0)))) (.cons (.sl _ (.lstc (.eq (Encs.eGEdge_eq (⟨0, 1, 0, 0, (⟨0, [], 0, 0, 0, r5⟩ : GExpr), [], [], [], [], []⟩ : GEdge)) (.agg (.cons (.refl _) (.cons (.refl _) (.cons (.refl _) (.cons (.refl _) (.cons (.refl _) (.cons (.lit _ (lst_nil)) (.cons (.refl _) (.cons (.refl _) (.cons (.refl _) (.cons (.refl _) (.cons (.refl _) (.cons (.refl _) (.cons (.lit _ (lst_nil)) (.cons (.lit _ (lst_nil)) (.cons (.lit _ (lst_nil)) (.cons (.lit _ (lst_nil)) (.cons (.lit _ (lst_nil)) (.refl _)))))))))))))))))))) (.lstc (.eq (Encs.eGEdge_eq (⟨1, (-1), 1, 1, r8, [], [], [], [], []⟩ : GEdge)) (.agg (.cons (.refl _) (.cons (.refl _) (.cons (.refl _) (.cons (.refl _) (.cons (.refl _) (.cons (.refl _) (.cons (.refl _) (.cons (.refl _) (.cons (.refl _) (.cons (.refl _) (.cons (.refl _) (.cons (.refl _) (.cons (.lit _ (lst_nil)) (.cons (.lit _ (lst_nil)) (.cons (.lit _ (lst_nil)) (.cons (.lit _ (lst_nil)) (.cons (.lit _ (lst_nil)) (.refl _)))))))))))))))))))) (.lst0)))) (.refl _)))))) (.refl _)) fun r9 h => ?_;cbv;refine n_call hE (g := fun r10 => .tup [.agg [.sl (Ar.lst Encs.eLGEvent r10.1.Vars) .ro], .int .i64 r10.2]) h (fun r10 hx => c18 N ([(⟨0, 1, 0⟩ : GNeed)]) (⟨[[(⟨0, 0, 0, 3, [(⟨0, 1, ⟨#[]⟩⟩ : GValue), (⟨0, 2, ⟨#[]⟩⟩ : GValue)]⟩ : GEvent), (⟨0, 0, 0, 4, [(⟨0, 3, ⟨#[]⟩⟩ : GValue), (⟨0, 4, ⟨#[]⟩⟩ : GValue)]⟩ : GEvent)]]⟩ : GEnv) r10 hx) (.cons (.lit _ (lst_cons ((Encs.eGNeed_eq (⟨0, 1, 0⟩ : GNeed)).symm) (lst_nil))) (.cons (.agg (.cons (.sl _ (.lstc (.eq (Encs.eLGEvent_eq ([(⟨0, 0, 0, 3, [(⟨0, 1, ⟨#[]⟩⟩ : GValue), (⟨0, 2, ⟨#[]⟩⟩ : GValue)]⟩ : GEvent), (⟨0, 0, 0, 4, [(⟨0, 3, ⟨#[]⟩⟩ : GValue), (⟨0, 4, ⟨#[]⟩⟩ : GValue)]⟩ : GEvent)])) (.sl _ (.lstc (.eq (Encs.eGEvent_eq (⟨0, 0, 0, 3, [(⟨0, 1, ⟨#[]⟩⟩ : GValue), (⟨0, 2, ⟨#[]⟩⟩ : GValue)]⟩ : GEvent)) (.agg (.cons (.refl _) (.cons (.refl _) (.cons (.refl _) (.cons (.refl _) (.cons (.lit _ (lst_cons ((Encs.eGValue_eq (⟨0, 1, ⟨#[]⟩⟩ : GValue)).symm) (lst_cons ((Encs.eGValue_eq (⟨0, 2, ⟨#[]⟩⟩ : GValue)).symm) (lst_nil)))) (.refl _)))))))) (.lstc (.eq (Encs.eGEvent_eq (⟨0, 0, 0, 4, [(⟨0, 3, ⟨#[]⟩⟩ : GValue), (⟨0, 4, ⟨#[]⟩⟩ : GValue)]⟩ : GEvent)) (.agg (.cons (.refl _) (.cons (.refl _) (.cons (.refl _) (.cons (.refl _) (.cons (.lit _ (lst_cons ((Encs.eGValue_eq (⟨0, 3, ⟨#[]⟩⟩ : GValue)).symm) (lst_cons ((Encs.eGValue_eq (⟨0, 4, ⟨#[]⟩⟩ : GValue)).symm) (lst_nil)))) (.refl _)))))))) (.lst0))))) (.lst0))) (.refl _))) (.refl _))) fun r10 h => ?_;cbv;refine n_br hE h (fun hc h => ?_) (fun hc h => ?_)
 ·cbv;have h := ret_some h;subst h;exact hK _ _ _ hO (.refl _)
 ·cbv;refine n_call hE (g := fun r11 => .bool r11) h (fun r11 hx => c12 N r4.1 ([(⟨0, 1, 0⟩ : GNeed), (⟨1, 0, 2⟩ : GNeed)]) r11 hx) (.cons (.refl _) (.cons (.lit _ (lst_cons ((Encs.eGNeed_eq (⟨0, 1, 0⟩ : GNeed)).symm) (lst_cons ((Encs.eGNeed_eq (⟨1, 0, 2⟩ : GNeed)).symm) (lst_nil)))) (.refl _))) fun r11 h => ?_;cbv;refine n_br hE h (fun hc h => ?_) (fun hc h => ?_)
  ·cbv;have h := ret_some h;subst h;exact hK _ _ _ hO (.refl _)
  ·cbv;refine n_call hE (g := fun r12 => .bool r12) h (fun r12 hx => c16 N r9.1 ([[], [(⟨0, 1, 0⟩ : GNeed)]]) r12 hx) (.cons (.refl _) (.cons (.sl _ (.lstc (.eq (Encs.eLGNeed_eq ([])) (.lit _ (lst_nil))) (.lstc (.eq (Encs.eLGNeed_eq ([(⟨0, 1, 0⟩ : GNeed)])) (.lit _ (lst_cons ((Encs.eGNeed_eq (⟨0, 1, 0⟩ : GNeed)).symm) (lst_nil)))) (.lst0)))) (.refl _))) fun r12 h => ?_;cbv;refine n_br hE h (fun hc h => ?_) (fun hc h => ?_)
   ·cbv;have h := ret_some h;subst h;exact hK _ _ _ hO (.refl _)
   ·cbv;refine n_call hE (g := fun r13 => .bool r13) h (fun r13 hx => c22 N r10.1 (⟨[[(⟨0, 0, 0, 0, [(⟨0, 3, ⟨#[]⟩⟩ : GValue), (⟨0, 0, ⟨#[]⟩⟩ : GValue)]⟩ : GEvent)]]⟩ : GEnv) r13 hx) (.cons (.refl _) (.cons (.agg (.cons (.sl _ (.lstc (.eq (Encs.eLGEvent_eq ([(⟨0, 0, 0, 0, [(⟨0, 3, ⟨#[]⟩⟩ : GValue), (⟨0, 0, ⟨#[]⟩⟩ : GValue)]⟩ : GEvent)])) (.sl _ (.lstc (.eq (Encs.eGEvent_eq (⟨0, 0, 0, 0, [(⟨0, 3, ⟨#[]⟩⟩ : GValue), (⟨0, 0, ⟨#[]⟩⟩ : GValue)]⟩ : GEvent)) (.agg (.cons (.refl _) (.cons (.refl _) (.cons (.refl _) (.cons (.refl _) (.cons (.lit _ (lst_cons ((Encs.eGValue_eq (⟨0, 3, ⟨#[]⟩⟩ : GValue)).symm) (lst_cons ((Encs.eGValue_eq (⟨0, 0, ⟨#[]⟩⟩ : GValue)).symm) (lst_nil)))) (.refl _)))))))) (.lst0)))) (.lst0))) (.refl _))) (.refl _))) fun r13 h => ?_;cbv;have h := ret_some h;subst h;exact hK _ _ _ hO (.refl _)
def cf70 : Cf := ⟨[4], [], [], [], [], []⟩
theorem c70 (N : Nat) (x_l : List GNeed) (x_v : Int) (r : GNeed) (h : ref26_Of N x_l x_v = some r) : CallP Try.prog 70 [.sl (Ar.lst Encs.eGNeed x_l) .ro, .int .i64 x_v] (.agg [.int .i64 r.Var, .int .i64 r.Last, .int .i64 r.All]) := by
 unfold ref26_Of at h
 refine callP_of_spec cf70 okP Try.func70 (by rfl) (by kernel_rfl) Try.call70 Try.ntmps70 (by rfl) (by rfl) ?_;intro E H0 K hE hK
 have hO : Own Eq H0 [] H0 := .start stable_eq rfl
 cbv;refine n_alloc hE hO fun b1 H hO => ?_;cbv;obtain ⟨s3, hx, h⟩ := bind_some h;refine n_loopN cf70 hE okP (fun s2 => [(0, .v (.sl (Ar.lst Encs.eGNeed x_l) .ro)), (1, .v (.int .i64 x_v)), (4, .v (.ref b1 0)), (5, .v (.int .i64 s2))]) (fun s2 H1 => Own Eq H0 [.blk b1 (.cells [.int .i64 0, .int .i64 0, .int .i64 0])] H1) (fun x e l H1 => match (generalizing := false) x with | .inl y => e = .exit 0 ∧ l = [(1, .v (.int .i64 x_v)), (4, .v (.ref b1 0))] ∧ Own Eq H0 [.blk b1 (.cells [.int .i64 0, .int .i64 0, .int .i64 0])] H1 | .inr y => e = .ret ∧ l = [(4, .v (.ref b1 0))] ∧ Own Eq H0 [.blk b1 (.cells [.int .i64 y.Var, .int .i64 y.Last, .int .i64 y.All])] H1) (by kernel_rfl) ?_ hx ?_ hO ?_
 ·intro s2 H o hO h;clear hx;cbv;refine n_ln hE ?_;cbv;refine n_br hE h (fun hc h => ?_) (fun hc h => ?_)
  ·cbv;refine n_idx hE Encs.eGNeed_eq h fun x4 h => ?_;cbv;refine n_br hE h (fun hc h => ?_) (fun hc h => ?_)
   ·cbv;refine n_idx hE Encs.eGNeed_eq h fun x5 h => ?_;cbv;refine n_store hE hO 0 rfl rfl fun H hO => ?_;cbv;have h := ret_some h;subst h;exact ⟨_, _, rfl, ⟨rfl, rfl, hO⟩, .e rfl (.z), rfl⟩
   ·cbv;have h := ret_some h;subst h;exact ⟨_, rfl, .e rfl (.e rfl (.e rfl (.e rfl (.z)))), rfl, hO⟩
  ·cbv;have h := ret_some h;subst h;exact ⟨_, _, rfl, ⟨rfl, rfl, hO⟩, .e rfl (.e rfl (.z)), rfl⟩
 ·exact .e rfl (.e rfl (.e rfl (.e rfl (.z))))
 ·clear hx
  rcases s3 with y6 | y7
  ·rintro e l H ⟨rfl, rfl, hO⟩;cbv;refine n_store hE hO 0 rfl rfl fun H hO => ?_;cbv;refine n_load hE hO 0 rfl ?_;cbv;have h := ret_some h;subst h;exact hK _ _ _ hO (.refl _)
  ·rintro e l H ⟨rfl, rfl, hO⟩;cbv;refine n_load hE hO 0 rfl ?_;cbv;have h := ret_some h;subst h;exact hK _ _ _ hO (.refl _)
def cf53 : Cf := ⟨[7, 8], [], [], [], [], []⟩
theorem c53 (N : Nat) (x_a : List GNeed) (x_b : List GNeed) (r : (List GNeed)) (h : ref26_Union N x_a x_b = some r) : CallP Try.prog 53 [.sl (Ar.lst Encs.eGNeed x_a) .ro, .sl (Ar.lst Encs.eGNeed x_b) .ro] (.sl (Ar.lst Encs.eGNeed r) .ro) := by
 unfold ref26_Union at h
 refine callP_of_spec cf53 okP Try.func53 (by rfl) (by kernel_rfl) Try.call53 Try.ntmps53 (by rfl) (by rfl) ?_;intro E H0 K hE hK
 have hO : Own Eq H0 [] H0 := .start stable_eq rfl
 cbv;replace hO := hO.tl0 (t := .nil) rfl;obtain ⟨s3, hx, h⟩ := bind_some h;refine n_loopG cf53 hE okP (γ := Tail) (fun s1 g => [(0, .v (.sl (Ar.lst Encs.eGNeed x_a) .ro)), (1, .v (.sl (Ar.lst Encs.eGNeed x_b) .ro)), (5, .v (.sl (Ar.lst Encs.eGNeed s1.1) g)), (6, .v (.int .i64 s1.2))]) (fun s1 g H1 => Appn g ∧ Own Eq H0 [.tl g] H1) (fun x e l H1 => ∃ u1 : Tail, Appn u1 ∧ e = .exit 0 ∧ l = [(5, .v (.sl (Ar.lst Encs.eGNeed x) u1))] ∧ Own Eq H0 [.tl u1] H1) (by kernel_rfl) ?_ .nil hx ?_ ?_ ?_
 ·rintro s1 t2 H o ⟨ht2, hO⟩ h;clear hx;cbv;refine n_br hE h (fun hc h => ?_) (fun hc h => ?_)
  ·cbv;refine n_call hE (g := fun r4 => .agg [.int .i64 r4.Var, .int .i64 r4.Last, .int .i64 r4.All]) h (fun r4 hx => c70 N x_a s1.2 r4 hx) (.refl _) fun r4 h => ?_;cbv;refine n_call hE (g := fun r5 => .agg [.int .i64 r5.Var, .int .i64 r5.Last, .int .i64 r5.All]) h (fun r5 hx => c70 N x_b s1.2 r5 hx) (.refl _) fun r5 h => ?_;cbv;refine n_alloc hE hO fun b6 H hO => ?_;cbv;refine n_alloc hE hO fun b7 H hO => ?_;cbv;refine n_store hE hO 1 rfl rfl fun H hO => ?_;cbv;refine n_store hE hO 0 rfl rfl fun H hO => ?_;cbv;refine n_load hE hO 1 rfl ?_;cbv;refine n_load hE hO 0 rfl ?_;cbv;refine n_load hE hO 1 rfl ?_;cbv;refine n_load hE hO 0 rfl ?_;cbv;refine n_br hE h (fun hc h => ?_) (fun hc h => ?_)
   ·cbv;refine n_appn (f := Encs.eGNeed) hE sz_GNeed (by decide) hO 2 rfl ht2 (l := s1.1) (m := [(⟨s1.2, Ar.ar .or .i64 r4.Last r5.Last, Ar.ar .or .i64 r4.All r5.All⟩ : GNeed)]) (.refl _) (.lstc (.eq (Encs.eGNeed_eq (⟨s1.2, Ar.ar .or .i64 r4.Last r5.Last, Ar.ar .or .i64 r4.All r5.All⟩ : GNeed)) (.refl _)) (.lst0)) h fun l9 t8 H hO ht8 h => ?_;cbv;have h := ret_some h;subst h;exact ⟨_, t8, rfl, .e rfl (.e rfl (.e rfl (.e rfl (.z)))), rfl, ht8, hO.tail.tail⟩
   ·cbv;have h := ret_some h;subst h;exact ⟨_, t2, rfl, .e rfl (.e rfl (.e rfl (.e rfl (.z)))), rfl, ht2, hO.tail.tail⟩
  ·cbv;have h := ret_some h;subst h;exact ⟨_, _, rfl, ⟨t2, ht2, rfl, rfl, hO⟩, .e rfl (.z), rfl⟩
 ·exact .e rfl (.e rfl (.v (.slt _ (.lst0)) (.e rfl (.z))))
 ·exact ⟨trivial, hO⟩
 ·clear hx;rintro e l H ⟨t10, ht10, rfl, rfl, hO⟩;cbv;have h := ret_some h;subst h;exact hK _ _ _ hO (.ro _ _)
end Go.Ab

