/- GRCo3 -/
import Derived.Test.YtbjdkpckplopdaaT34
set_option linter.all false

namespace Go.Ab
open Go.RowKit Go.Proofs
variable [Ar] [Encs]
set_option maxRecDepth 100000
def cf22 : Cf := ⟨[], [(6, 12), (11, 20), (17, 10)], [], [], [], []⟩
theorem c22 (N : Nat) (x_a : GEnv) (x_b : GEnv) (r : Bool) (h : ref26_SameEnv N x_a x_b = some r) : CallP Try.prog 22 [.agg [.sl (Ar.lst Encs.eLGEvent x_a.Vars) .ro], .agg [.sl (Ar.lst Encs.eLGEvent x_b.Vars) .ro]] (.bool r) := by
 unfold ref26_SameEnv at h
 refine callP_of_spec cf22 okP Try.func22 (by rfl) (by kernel_rfl) Try.call22 Try.ntmps22 (by rfl) (by rfl) ?_;intro E H0 K hE hK
 have hO : Own Eq H0 [] H0 := .start stable_eq rfl
 cbv;refine n_ln hE ?_;cbv;refine n_ln hE ?_;cbv;refine n_br hE h (fun hc h => ?_) (fun hc h => ?_)
 ·cbv;have h := ret_some h;subst h;exact hK _ _ _ hO (.refl _)
 cbv;obtain ⟨s2, hx, h⟩ := bind_some h;refine n_loopN cf22 hE okP (fun s1 => [(2, .v (.eref [.sl (Ar.lst Encs.eLGEvent x_a.Vars) .ro] 0)), (3, .v (.eref [.sl (Ar.lst Encs.eLGEvent x_b.Vars) .ro] 0)), (5, .v (.int .i64 s1))]) (fun s1 H1 => Own Eq H0 [] H1) (fun x e l H1 => match (generalizing := false) x with | .inl y => e = .exit 0 ∧ l = [] ∧ Own Eq H0 [] H1 | .inr y => e = .ret ∧ l = [(4, .b false)] ∧ Own Eq H0 [] H1) (by kernel_rfl) ?_ hx ?_ hO ?_
 ·intro s1 H o hO h;clear hx;cbv;refine n_ln hE ?_;cbv;refine n_br hE h (fun hc h => ?_) (fun hc h => ?_)
  ·cbv;refine n_idx hE Encs.eLGEvent_eq h fun x3 h => ?_;cbv;refine n_ln hE ?_;cbv;refine n_idx hE Encs.eLGEvent_eq h fun x4 h => ?_;cbv;refine n_ln hE ?_;cbv;refine n_br hE h (fun hc h => ?_) (fun hc h => ?_)
   ·cbv;have h := ret_some h;subst h;exact ⟨_, _, rfl, ⟨rfl, rfl, hO⟩, .b rfl (.z), rfl⟩
   cbv;obtain ⟨s6, hx, h⟩ := bind_some h;refine n_loopN cf22 hE okP (fun s5 => [(2, .v (.eref [.sl (Ar.lst Encs.eLGEvent x_a.Vars) .ro] 0)), (3, .v (.eref [.sl (Ar.lst Encs.eLGEvent x_b.Vars) .ro] 0)), (5, .v (.int .i64 s1)), (6, .v (.int .i64 s5))]) (fun s5 H1 => Own Eq H0 [] H1) (fun x e l H1 => match (generalizing := false) x with | .inl y => e = .exit 2 ∧ l = [(2, .v (.eref [.sl (Ar.lst Encs.eLGEvent x_a.Vars) .ro] 0)), (3, .v (.eref [.sl (Ar.lst Encs.eLGEvent x_b.Vars) .ro] 0)), (5, .v (.int .i64 s1))] ∧ Own Eq H0 [] H1 | .inr y => e = .ret ∧ l = [(4, .b false)] ∧ Own Eq H0 [] H1) (by kernel_rfl) ?_ hx ?_ hO ?_
   ·intro s5 H o hO h;clear hx;cbv;refine n_idx hE Encs.eLGEvent_eq h fun x7 h => ?_;cbv;refine n_ln hE ?_;cbv;refine n_br hE h (fun hc h => ?_) (fun hc h => ?_)
    ·cbv;refine n_idx hE Encs.eLGEvent_eq h fun x8 h => ?_;cbv;refine n_idx hE Encs.eGEvent_eq h fun x9 h => ?_;cbv;refine n_idx hE Encs.eLGEvent_eq h fun x10 h => ?_;cbv;refine n_idx hE Encs.eGEvent_eq h fun x11 h => ?_;cbv;refine n_ln hE ?_;cbv;refine n_ln hE ?_;cbv;refine n_br hE h (fun hc h => ?_) (fun hc h => ?_)
     ·cbv;have h := ret_some h;subst h;exact ⟨_, _, rfl, ⟨rfl, rfl, hO⟩, .b rfl (.z), rfl⟩
     cbv;obtain ⟨s13, hx, h⟩ := bind_some h;refine n_loopN cf22 hE okP (fun s12 => [(2, .v (.eref [.sl (Ar.lst Encs.eLGEvent x_a.Vars) .ro] 0)), (3, .v (.eref [.sl (Ar.lst Encs.eLGEvent x_b.Vars) .ro] 0)), (5, .v (.int .i64 s1)), (6, .v (.int .i64 s5)), (7, .v (.eref [.int .i64 x9.Source, .int .i64 x9.Seq, .int .i64 x9.Typ, .int .i64 x9.Time, .sl (Ar.lst Encs.eGValue x9.Values) .ro] 0)), (8, .v (.eref [.int .i64 x11.Source, .int .i64 x11.Seq, .int .i64 x11.Typ, .int .i64 x11.Time, .sl (Ar.lst Encs.eGValue x11.Values) .ro] 0)), (9, .v (.int .i64 s12))]) (fun s12 H1 => Own Eq H0 [] H1) (fun x e l H1 => match (generalizing := false) x with | .inl y => e = .exit 4 ∧ l = [(2, .v (.eref [.sl (Ar.lst Encs.eLGEvent x_a.Vars) .ro] 0)), (3, .v (.eref [.sl (Ar.lst Encs.eLGEvent x_b.Vars) .ro] 0)), (5, .v (.int .i64 s1)), (6, .v (.int .i64 s5))] ∧ Own Eq H0 [] H1 | .inr y => e = .ret ∧ l = [(4, .b false)] ∧ Own Eq H0 [] H1) (by kernel_rfl) ?_ hx ?_ hO ?_
     ·intro s12 H o hO h;clear hx;cbv;refine n_ln hE ?_;cbv;refine n_br hE h (fun hc h => ?_) (fun hc h => ?_)
      ·cbv;refine n_idx hE Encs.eGValue_eq h fun x14 h => ?_;cbv;refine n_idx hE Encs.eGValue_eq h fun x15 h => ?_;cbv;refine n_br hE h (fun hc h => ?_) (fun hc h => ?_)
       ·cbv;have h := ret_some h;subst h;exact ⟨_, _, rfl, ⟨rfl, rfl, hO⟩, .b rfl (.z), rfl⟩
       cbv;have h := ret_some h;subst h;exact ⟨_, rfl, .e rfl (.e rfl (.e rfl (.e rfl (.e rfl (.e rfl (.e rfl (.z))))))), rfl, hO⟩
      cbv;have h := ret_some h;subst h;exact ⟨_, _, rfl, ⟨rfl, rfl, hO⟩, .e rfl (.e rfl (.e rfl (.e rfl (.z)))), rfl⟩
     ·exact .e rfl (.e rfl (.e rfl (.e rfl (.e rfl (.e rfl (.e rfl (.z)))))))
     clear hx
     rcases s13 with y16 | y17
     ·rintro e l H ⟨rfl, rfl, hO⟩;cbv;have h := ret_some h;subst h;exact ⟨_, rfl, .e rfl (.e rfl (.e rfl (.e rfl (.z)))), rfl, hO⟩
     rintro e l H ⟨rfl, rfl, hO⟩;cbv;have h := ret_some h;subst h;exact ⟨_, _, rfl, ⟨rfl, rfl, hO⟩, .b rfl (.z), rfl⟩
    cbv;have h := ret_some h;subst h;exact ⟨_, _, rfl, ⟨rfl, rfl, hO⟩, .e rfl (.e rfl (.e rfl (.z))), rfl⟩
   ·exact .e rfl (.e rfl (.e rfl (.e rfl (.z))))
   clear hx
   rcases s6 with y18 | y19
   ·rintro e l H ⟨rfl, rfl, hO⟩;cbv;have h := ret_some h;subst h;exact ⟨_, rfl, .e rfl (.e rfl (.e rfl (.z))), rfl, hO⟩
   rintro e l H ⟨rfl, rfl, hO⟩;cbv;have h := ret_some h;subst h;exact ⟨_, _, rfl, ⟨rfl, rfl, hO⟩, .b rfl (.z), rfl⟩
  cbv;have h := ret_some h;subst h;exact ⟨_, _, rfl, ⟨rfl, rfl, hO⟩, .z, rfl⟩
 ·exact .e rfl (.e rfl (.e rfl (.z)))
 clear hx
 rcases s2 with y20 | y21
 ·rintro e l H ⟨rfl, rfl, hO⟩;cbv;have h := ret_some h;subst h;exact hK _ _ _ hO (.refl _)
 rintro e l H ⟨rfl, rfl, hO⟩;cbv;have h := ret_some h;subst h;exact hK _ _ _ hO (.refl _)
def cf31 : Cf := ⟨[6], [], [], [], [], []⟩
theorem c31 (N : Nat) (x_op : Int) (x_a : GExpr) (x_b : GExpr) (r : GExpr) (h : law26_two N x_op x_a x_b = some r) : CallP Try.prog 31 [.int .i64 x_op, .agg [.int .i64 x_a.Op, .sl (Ar.lst Encs.eGExpr x_a.Args) .ro, .int .i64 x_a.Var, .int .i64 x_a.Field, .int .i64 x_a.Kind, .int .i64 x_a.Value.Kind, .int .i64 x_a.Value.Num, .str x_a.Value.Text], .agg [.int .i64 x_b.Op, .sl (Ar.lst Encs.eGExpr x_b.Args) .ro, .int .i64 x_b.Var, .int .i64 x_b.Field, .int .i64 x_b.Kind, .int .i64 x_b.Value.Kind, .int .i64 x_b.Value.Num, .str x_b.Value.Text]] (.agg [.int .i64 r.Op, .sl (Ar.lst Encs.eGExpr r.Args) .ro, .int .i64 r.Var, .int .i64 r.Field, .int .i64 r.Kind, .int .i64 r.Value.Kind, .int .i64 r.Value.Num, .str r.Value.Text]) := by
 unfold law26_two at h
 refine callP_of_spec cf31 okP Try.func31 (by rfl) (by kernel_rfl) Try.call31 Try.ntmps31 (by rfl) (by rfl) ?_;intro E H0 K hE hK
 have hO : Own Eq H0 [] H0 := .start stable_eq rfl
 cbv;refine n_alloc hE hO fun b1 H hO => ?_;cbv;refine n_store hE hO 0 rfl rfl fun H hO => ?_;cbv;refine n_load hE hO 0 rfl ?_;cbv;have h := ret_some h;subst h;exact hK _ _ _ hO (.agg (.cons (.refl _) (.cons (.lit _ (lst_cons ((Encs.eGExpr_eq x_a).symm) (lst_cons ((Encs.eGExpr_eq x_b).symm) (lst_nil)))) (.refl _))))
def cf32 : Cf := ⟨[4], [], [], [], [], []⟩
theorem c32 (N : Nat) (x_v : Int) (x_f : Int) (r : GExpr) (h : law26_field N x_v x_f = some r) : CallP Try.prog 32 [.int .i64 x_v, .int .i64 x_f] (.agg [.int .i64 r.Op, .sl (Ar.lst Encs.eGExpr r.Args) .ro, .int .i64 r.Var, .int .i64 r.Field, .int .i64 r.Kind, .int .i64 r.Value.Kind, .int .i64 r.Value.Num, .str r.Value.Text]) := by
 unfold law26_field at h
 refine callP_of_spec cf32 okP Try.func32 (by rfl) (by kernel_rfl) Try.call32 Try.ntmps32 (by rfl) (by rfl) ?_;intro E H0 K hE hK
 have hO : Own Eq H0 [] H0 := .start stable_eq rfl
 cbv;refine n_alloc hE hO fun b1 H hO => ?_;cbv;refine n_store hE hO 0 rfl rfl fun H hO => ?_;cbv;refine n_load hE hO 0 rfl ?_;cbv;have h := ret_some h;subst h;exact hK _ _ _ hO (.agg (.cons (.refl _) (.cons (.lit _ (lst_nil)) (.refl _))))
def cf33 : Cf := ⟨[2], [], [], [], [], []⟩
theorem c33 (N : Nat) (x_b : Bool) (r : GValue) (h : ref08_Flag N x_b = some r) : CallP Try.prog 33 [.bool x_b] (.agg [.int .i64 r.Kind, .int .i64 r.Num, .str r.Text]) := by
 unfold ref08_Flag at h
 refine callP_of_spec cf33 okP Try.func33 (by rfl) (by kernel_rfl) Try.call33 Try.ntmps33 (by rfl) (by rfl) ?_;intro E H0 K hE hK
 have hO : Own Eq H0 [] H0 := .start stable_eq rfl
 cbv;refine n_alloc hE hO fun b1 H hO => ?_;cbv;refine n_br hE h (fun hc h => ?_) (fun hc h => ?_)
 ·cbv;refine n_store hE hO 0 rfl rfl fun H hO => ?_;cbv;refine n_load hE hO 0 rfl ?_;cbv;have h := ret_some h;subst h;exact hK _ _ _ hO (.refl _)
 cbv;refine n_store hE hO 0 rfl rfl fun H hO => ?_;cbv;refine n_load hE hO 0 rfl ?_;cbv;have h := ret_some h;subst h;exact hK _ _ _ hO (.refl _)
def cf9 : Cf := ⟨[], [(2, 10), (4, 11)], [], [], [], []⟩
theorem c9 (N : Nat) (r : Bool) (h : law26_awake N  = some r) : CallP Try.prog 9 [] (.bool r) := by
 unfold law26_awake at h
 refine callP_of_spec cf9 okP Try.func9 (by rfl) (by kernel_rfl) Try.call9 Try.ntmps9 (by rfl) (by rfl) ?_;intro E H0 K hE hK
 have hO : Own Eq H0 [] H0 := .start stable_eq rfl
 cbv;refine n_pcall hE (g := fun r1 => .agg [.int .i64 r1.Op, .sl (Ar.lst Encs.eGExpr r1.Args) .ro, .int .i64 r1.Var, .int .i64 r1.Field, .int .i64 r1.Kind, .int .i64 r1.Value.Kind, .int .i64 r1.Value.Num, .str r1.Value.Text]) h (fun r1 hx => c32 N 0 0 r1 hx) (.refl _) fun r1 h => ?_;cbv;refine n_pcall hE (g := fun r2 => .agg [.int .i64 r2.Op, .sl (Ar.lst Encs.eGExpr r2.Args) .ro, .int .i64 r2.Var, .int .i64 r2.Field, .int .i64 r2.Kind, .int .i64 r2.Value.Kind, .int .i64 r2.Value.Num, .str r2.Value.Text]) h (fun r2 hx => c31 N 5 (⟨4, [], 1, 1, 5, (⟨0, 0, ⟨#[]⟩⟩ : GValue)⟩ : GExpr) (⟨2, [], 2, 0, 0, (⟨0, 0, ⟨#[]⟩⟩ : GValue)⟩ : GExpr) r2 hx) (.cons (.refl _) (.cons (.agg (.cons (.refl _) (.cons (.lit _ (lst_nil)) (.refl _)))) (.cons (.agg (.cons (.refl _) (.cons (.lit _ (lst_nil)) (.refl _)))) (.refl _)))) fun r2 h => ?_;cbv;refine n_pcall hE (g := fun r3 => .agg [.int .i64 r3.Op, .sl (Ar.lst Encs.eGExpr r3.Args) .ro, .int .i64 r3.Var, .int .i64 r3.Field, .int .i64 r3.Kind, .int .i64 r3.Value.Kind, .int .i64 r3.Value.Num, .str r3.Value.Text]) h (fun r3 hx => c31 N 7 r1 r2 r3 hx) (.refl _) fun r3 h => ?_;cbv;refine n_pcall hE (g := fun r4 => .tup [.sl (Ar.lst Encs.eGNeed r4.1) .ro, .int .i64 r4.2]) h (fun r4 hx => c10 N r3 2 r4 hx) (.refl _) fun r4 h => ?_;cbv;refine n_call hE (g := fun r5 => .agg [.int .i64 r5.Kind, .int .i64 r5.Num, .str r5.Text]) h (fun r5 hx => c33 N true r5 hx) (.refl _) fun r5 h => ?_;cbv;refine n_pcall hE (g := fun r6 => .agg [.int .i64 r6.Op, .sl (Ar.lst Encs.eGExpr r6.Args) .ro, .int .i64 r6.Var, .int .i64 r6.Field, .int .i64 r6.Kind, .int .i64 r6.Value.Kind, .int .i64 r6.Value.Num, .str r6.Value.Text]) h (fun r6 hx => c32 N 0 0 r6 hx) (.refl _) fun r6 h => ?_;cbv;refine n_pcall hE (g := fun r7 => .agg [.int .i64 r7.Op, .sl (Ar.lst Encs.eGExpr r7.Args) .ro, .int .i64 r7.Var, .int .i64 r7.Field, .int .i64 r7.Kind, .int .i64 r7.Value.Kind, .int .i64 r7.Value.Num, .str r7.Value.Text]) h (fun r7 hx => c32 N 1 0 r7 hx) (.refl _) fun r7 h => ?_;cbv;refine n_pcall hE (g := fun r8 => .agg [.int .i64 r8.Op, .sl (Ar.lst Encs.eGExpr r8.Args) .ro, .int .i64 r8.Var, .int .i64 r8.Field, .int .i64 r8.Kind, .int .i64 r8.Value.Kind, .int .i64 r8.Value.Num, .str r8.Value.Text]) h (fun r8 hx => c31 N 7 r6 r7 r8 hx) (.refl _) fun r8 h => ?_;cbv;refine n_call hE (g := fun r9 => .tup [.sl (Ar.lst Encs.eLGNeed r9.1) .ro, .int .i64 r9.2]) h (fun r9 hx => c14 N (⟨2, 0, [(⟨[]⟩ : GState), (⟨[]⟩ : GState)], [(⟨0, 1, 0, 0, (⟨0, [], 0, 0, 0, r5⟩ : GExpr), [], [], [], [], []⟩ : GEdge), (⟨1, (-1), 1, 1, r8, [], [], [], [], []⟩ : GEdge)]⟩ : GAutomaton) r9 hx) (.cons (.agg (.cons (.refl _) (.cons (.refl _) (.cons (.sl _ (.lstc (.eq (Encs.eGState_eq (⟨[]⟩ : GState)) (.agg (.cons (.lit _ (lst_nil)) (.refl _)))) (.lstc (.eq (Encs.eGState_eq (⟨[]⟩ : GState)) (.agg (.cons (.lit _ (lst_nil)) (.refl _)))) (.lst0)))) (.cons (.sl _ (.lstc (.eq (Encs.eGEdge_eq (⟨0, 1, 0, 0, (⟨0, [], 0, 0, 0, r5⟩ : GExpr), [], [], [], [], []⟩ : GEdge)) (.agg (.cons (.refl _) (.cons (.refl _) (.cons (.refl _) (.cons (.refl _) (.cons (.refl _) (.cons (.lit _ (lst_nil)) (.cons (.refl _) (.cons (.refl _) (.cons (.refl _) (.cons (.refl _) (.cons (.refl _) (.cons (.refl _) (.cons (.lit _ (lst_nil)) (.cons (.lit _ (lst_nil)) (.cons (.lit _ (lst_nil)) (.cons (.lit _ (lst_nil)) (.cons (.lit _ (lst_nil)) (.refl _)))))))))))))))))))) (.lstc (.eq (Encs.eGEdge_eq (⟨1, (-1), 1, 1, r8, [], [], [], [], []⟩ : GEdge)) (.agg (.cons (.refl _) (.cons (.refl _) (.cons (.refl _) (.cons (.refl _) (.cons (.refl _) (.cons (.refl _) (.cons (.refl _) (.cons (.refl _) (.cons (.refl _) (.cons (.refl _) (.cons (.refl _) (.cons (.refl _) (.cons (.lit _ (lst_nil)) (.cons (.lit _ (lst_nil)) (.cons (.lit _ (lst_nil)) (.cons (.lit _ (lst_nil)) (.cons (.lit _ (lst_nil)) (.refl _)))))))))))))))))))) (.lst0)))) (.refl _)))))) (.refl _)) fun r9 h => ?_;cbv;refine n_call hE (g := fun r10 => .tup [.agg [.sl (Ar.lst Encs.eLGEvent r10.1.Vars) .ro], .int .i64 r10.2]) h (fun r10 hx => c18 N ([(⟨0, 1, 0⟩ : GNeed)]) (⟨[[(⟨0, 0, 0, 3, [(⟨0, 1, ⟨#[]⟩⟩ : GValue), (⟨0, 2, ⟨#[]⟩⟩ : GValue)]⟩ : GEvent), (⟨0, 0, 0, 4, [(⟨0, 3, ⟨#[]⟩⟩ : GValue), (⟨0, 4, ⟨#[]⟩⟩ : GValue)]⟩ : GEvent)]]⟩ : GEnv) r10 hx) (.cons (.lit _ (lst_cons ((Encs.eGNeed_eq (⟨0, 1, 0⟩ : GNeed)).symm) (lst_nil))) (.cons (.agg (.cons (.sl _ (.lstc (.eq (Encs.eLGEvent_eq ([(⟨0, 0, 0, 3, [(⟨0, 1, ⟨#[]⟩⟩ : GValue), (⟨0, 2, ⟨#[]⟩⟩ : GValue)]⟩ : GEvent), (⟨0, 0, 0, 4, [(⟨0, 3, ⟨#[]⟩⟩ : GValue), (⟨0, 4, ⟨#[]⟩⟩ : GValue)]⟩ : GEvent)])) (.sl _ (.lstc (.eq (Encs.eGEvent_eq (⟨0, 0, 0, 3, [(⟨0, 1, ⟨#[]⟩⟩ : GValue), (⟨0, 2, ⟨#[]⟩⟩ : GValue)]⟩ : GEvent)) (.agg (.cons (.refl _) (.cons (.refl _) (.cons (.refl _) (.cons (.refl _) (.cons (.lit _ (lst_cons ((Encs.eGValue_eq (⟨0, 1, ⟨#[]⟩⟩ : GValue)).symm) (lst_cons ((Encs.eGValue_eq (⟨0, 2, ⟨#[]⟩⟩ : GValue)).symm) (lst_nil)))) (.refl _)))))))) (.lstc (.eq (Encs.eGEvent_eq (⟨0, 0, 0, 4, [(⟨0, 3, ⟨#[]⟩⟩ : GValue), (⟨0, 4, ⟨#[]⟩⟩ : GValue)]⟩ : GEvent)) (.agg (.cons (.refl _) (.cons (.refl _) (.cons (.refl _) (.cons (.refl _) (.cons (.lit _ (lst_cons ((Encs.eGValue_eq (⟨0, 3, ⟨#[]⟩⟩ : GValue)).symm) (lst_cons ((Encs.eGValue_eq (⟨0, 4, ⟨#[]⟩⟩ : GValue)).symm) (lst_nil)))) (.refl _)))))))) (.lst0))))) (.lst0))) (.refl _))) (.refl _))) fun r10 h => ?_;cbv;refine n_br hE h (fun hc h => ?_) (fun hc h => ?_)
 ·cbv;have h := ret_some h;subst h;exact hK _ _ _ hO (.refl _)
 cbv;refine n_call hE (g := fun r11 => .bool r11) h (fun r11 hx => c12 N r4.1 ([(⟨0, 1, 0⟩ : GNeed), (⟨1, 0, 2⟩ : GNeed)]) r11 hx) (.cons (.refl _) (.cons (.lit _ (lst_cons ((Encs.eGNeed_eq (⟨0, 1, 0⟩ : GNeed)).symm) (lst_cons ((Encs.eGNeed_eq (⟨1, 0, 2⟩ : GNeed)).symm) (lst_nil)))) (.refl _))) fun r11 h => ?_;cbv;refine n_br hE h (fun hc h => ?_) (fun hc h => ?_)
 ·cbv;have h := ret_some h;subst h;exact hK _ _ _ hO (.refl _)
 cbv;refine n_call hE (g := fun r12 => .bool r12) h (fun r12 hx => c16 N r9.1 ([[], [(⟨0, 1, 0⟩ : GNeed)]]) r12 hx) (.cons (.refl _) (.cons (.sl _ (.lstc (.eq (Encs.eLGNeed_eq ([])) (.lit _ (lst_nil))) (.lstc (.eq (Encs.eLGNeed_eq ([(⟨0, 1, 0⟩ : GNeed)])) (.lit _ (lst_cons ((Encs.eGNeed_eq (⟨0, 1, 0⟩ : GNeed)).symm) (lst_nil)))) (.lst0)))) (.refl _))) fun r12 h => ?_;cbv;refine n_br hE h (fun hc h => ?_) (fun hc h => ?_)
 ·cbv;have h := ret_some h;subst h;exact hK _ _ _ hO (.refl _)
 cbv;refine n_call hE (g := fun r13 => .bool r13) h (fun r13 hx => c22 N r10.1 (⟨[[(⟨0, 0, 0, 0, [(⟨0, 3, ⟨#[]⟩⟩ : GValue), (⟨0, 0, ⟨#[]⟩⟩ : GValue)]⟩ : GEvent)]]⟩ : GEnv) r13 hx) (.cons (.refl _) (.cons (.agg (.cons (.sl _ (.lstc (.eq (Encs.eLGEvent_eq ([(⟨0, 0, 0, 0, [(⟨0, 3, ⟨#[]⟩⟩ : GValue), (⟨0, 0, ⟨#[]⟩⟩ : GValue)]⟩ : GEvent)])) (.sl _ (.lstc (.eq (Encs.eGEvent_eq (⟨0, 0, 0, 0, [(⟨0, 3, ⟨#[]⟩⟩ : GValue), (⟨0, 0, ⟨#[]⟩⟩ : GValue)]⟩ : GEvent)) (.agg (.cons (.refl _) (.cons (.refl _) (.cons (.refl _) (.cons (.refl _) (.cons (.lit _ (lst_cons ((Encs.eGValue_eq (⟨0, 3, ⟨#[]⟩⟩ : GValue)).symm) (lst_cons ((Encs.eGValue_eq (⟨0, 0, ⟨#[]⟩⟩ : GValue)).symm) (lst_nil)))) (.refl _)))))))) (.lst0)))) (.lst0))) (.refl _))) (.refl _))) fun r13 h => ?_;cbv;have h := ret_some h;subst h;exact hK _ _ _ hO (.refl _)
def cf97 : Cf := ⟨[], [], [(4, 4)], [], [], []⟩
theorem c97 (N : Nat) (x_op : Int) (r : Int) (h : ref08_arity N x_op = some r) : CallP Try.prog 97 [.int .i64 x_op] (.int .i64 r) := by
 unfold ref08_arity at h
 refine callP_of_spec cf97 okP Try.func97 (by rfl) (by kernel_rfl) Try.call97 Try.ntmps97 (by rfl) (by rfl) ?_;intro E H0 K hE hK
 have hO : Own Eq H0 [] H0 := .start stable_eq rfl
 cbv;obtain ⟨s1, hx, h⟩ := bind_some h;refine n_join cf97 hE okP (fun e l H1 => e = .normal ∧ l = [(3, .v (.int .i64 x_op)), (4, .v (.bool s1))] ∧ Own Eq H0 [] H1) (by kernel_rfl) ?_ ?_
 ·clear h;have h := hx;clear hx;cbv;refine n_br hE h (fun hc h => ?_) (fun hc h => ?_)
  ·cbv;have h := ret_some h;subst h;exact ⟨_, ⟨rfl, rfl, hO⟩, .e rfl (.e rfl (.z)), rfl⟩
  cbv;refine n_br hE h (fun hc h => ?_) (fun hc h => ?_)
  ·cbv;have h := ret_some h;subst h;exact ⟨_, ⟨rfl, rfl, hO⟩, .e rfl (.e rfl (.z)), rfl⟩
  cbv;refine n_br hE h (fun hc h => ?_) (fun hc h => ?_)
  ·cbv;have h := ret_some h;subst h;exact ⟨_, ⟨rfl, rfl, hO⟩, .e rfl (.e rfl (.z)), rfl⟩
  cbv;refine n_br hE h (fun hc h => ?_) (fun hc h => ?_)
  ·cbv;have h := ret_some h;subst h;exact ⟨_, ⟨rfl, rfl, hO⟩, .e rfl (.e rfl (.z)), rfl⟩
  cbv;have h := ret_some h;subst h;exact ⟨_, ⟨rfl, rfl, hO⟩, .e rfl (.e rfl (.z)), rfl⟩
 clear hx;rintro e l H ⟨rfl, rfl, hO⟩;cbv;refine n_br hE h (fun hc h => ?_) (fun hc h => ?_)
 ·cbv;have h := ret_some h;subst h;exact hK _ _ _ hO (.refl _)
 cbv;refine n_br hE h (fun hc h => ?_) (fun hc h => ?_)
 ·cbv;have h := ret_some h;subst h;exact hK _ _ _ hO (.refl _)
 cbv;refine n_br hE h (fun hc h => ?_) (fun hc h => ?_)
 ·cbv;have h := ret_some h;subst h;exact hK _ _ _ hO (.refl _)
 cbv;refine n_br hE h (fun hc h => ?_) (fun hc h => ?_)
 ·cbv;have h := ret_some h;subst h;exact hK _ _ _ hO (.refl _)
 cbv;refine n_br hE h (fun hc h => ?_) (fun hc h => ?_)
 ·cbv;have h := ret_some h;subst h;exact hK _ _ _ hO (.refl _)
 cbv;refine n_br hE h (fun hc h => ?_) (fun hc h => ?_)
 ·cbv;have h := ret_some h;subst h;exact hK _ _ _ hO (.refl _)
 cbv;refine n_br hE h (fun hc h => ?_) (fun hc h => ?_)
 ·cbv;have h := ret_some h;subst h;exact hK _ _ _ hO (.refl _)
 cbv;refine n_br hE h (fun hc h => ?_) (fun hc h => ?_)
 ·cbv;have h := ret_some h;subst h;exact hK _ _ _ hO (.refl _)
 cbv;refine n_br hE h (fun hc h => ?_) (fun hc h => ?_)
 ·cbv;have h := ret_some h;subst h;exact hK _ _ _ hO (.refl _)
 cbv;have h := ret_some h;subst h;exact hK _ _ _ hO (.refl _)
def cf98 : Cf := ⟨[], [], [], [], [], []⟩
theorem c98 (N : Nat) (x_op : Int) (r : (Bool × Bool)) (h : ref08_uses N x_op = some r) : CallP Try.prog 98 [.int .i64 x_op] (.tup [.bool r.1, .bool r.2]) := by
 unfold ref08_uses at h
 refine callP_of_spec cf98 okP Try.func98 (by rfl) (by kernel_rfl) Try.call98 Try.ntmps98 (by rfl) (by rfl) ?_;intro E H0 K hE hK
 have hO : Own Eq H0 [] H0 := .start stable_eq rfl
 cbv;have h := ret_some h;subst h;exact hK _ _ _ hO (.refl _)
def cf99 : Cf := ⟨[], [], [], [], [], []⟩
theorem c99 (N : Nat) (x_v : GValue) (r : Int) (h : ref01_Check N x_v = some r) : CallP Try.prog 99 [.agg [.int .i64 x_v.Kind, .int .i64 x_v.Num, .str x_v.Text]] (.int .i64 r) := by
 unfold ref01_Check at h
 refine callP_of_spec cf99 okP Try.func99 (by rfl) (by kernel_rfl) Try.call99 Try.ntmps99 (by rfl) (by rfl) ?_;intro E H0 K hE hK
 have hO : Own Eq H0 [] H0 := .start stable_eq rfl
 cbv;refine n_br hE h (fun hc h => ?_) (fun hc h => ?_)
 ·cbv;have h := ret_some h;subst h;exact hK _ _ _ hO (.refl _)
 cbv;refine n_br hE h (fun hc h => ?_) (fun hc h => ?_)
 ·cbv;refine n_br hE h (fun hc h => ?_) (fun hc h => ?_)
  ·cbv;have h := ret_some h;subst h;exact hK _ _ _ hO (.refl _)
  cbv;refine n_br hE h (fun hc h => ?_) (fun hc h => ?_)
  ·cbv;have h := ret_some h;subst h;exact hK _ _ _ hO (.refl _)
  cbv;have h := ret_some h;subst h;exact hK _ _ _ hO (.refl _)
 cbv;refine n_br hE h (fun hc h => ?_) (fun hc h => ?_)
 ·cbv;have h := ret_some h;subst h;exact hK _ _ _ hO (.refl _)
 cbv;refine n_br hE h (fun hc h => ?_) (fun hc h => ?_)
 ·cbv;have h := ret_some h;subst h;exact hK _ _ _ hO (.refl _)
 cbv;have h := ret_some h;subst h;exact hK _ _ _ hO (.refl _)
def cf100 : Cf := ⟨[], [], [], [], [], []⟩
theorem c100 (N : Nat) (x_k : Int) (x_v : GValue) (r : Bool) (h : ref07_Suits N x_k x_v = some r) : CallP Try.prog 100 [.int .i64 x_k, .agg [.int .i64 x_v.Kind, .int .i64 x_v.Num, .str x_v.Text]] (.bool r) := by
 unfold ref07_Suits at h
 refine callP_of_spec cf100 okP Try.func100 (by rfl) (by kernel_rfl) Try.call100 Try.ntmps100 (by rfl) (by rfl) ?_;intro E H0 K hE hK
 have hO : Own Eq H0 [] H0 := .start stable_eq rfl
 cbv;have h := ret_some h;subst h;exact hK _ _ _ hO (.refl _)
def cf81 : Cf := ⟨[], [], [(69, 15)], [], [], []⟩
theorem c81 (N : Nat) (x_e : GExpr) (r : Int) (h : ref08_node N x_e = some r) : CallP Try.prog 81 [.agg [.int .i64 x_e.Op, .sl (Ar.lst Encs.eGExpr x_e.Args) .ro, .int .i64 x_e.Var, .int .i64 x_e.Field, .int .i64 x_e.Kind, .int .i64 x_e.Value.Kind, .int .i64 x_e.Value.Num, .str x_e.Value.Text]] (.int .i64 r) := by
 unfold ref08_node at h
 refine callP_of_spec cf81 okP Try.func81 (by rfl) (by kernel_rfl) Try.call81 Try.ntmps81 (by rfl) (by rfl) ?_;intro E H0 K hE hK
 have hO : Own Eq H0 [] H0 := .start stable_eq rfl
 cbv;refine n_call hE (g := fun r1 => .int .i64 r1) h (fun r1 hx => c97 N x_e.Op r1 hx) (.refl _) fun r1 h => ?_;cbv;refine n_br hE h (fun hc h => ?_) (fun hc h => ?_)
 ·cbv;have h := ret_some h;subst h;exact hK _ _ _ hO (.refl _)
 cbv;refine n_ln hE ?_;cbv;refine n_br hE h (fun hc h => ?_) (fun hc h => ?_)
 ·cbv;have h := ret_some h;subst h;exact hK _ _ _ hO (.refl _)
 cbv;refine n_call hE (g := fun r2 => .tup [.bool r2.1, .bool r2.2]) h (fun r2 hx => c98 N x_e.Op r2 hx) (.refl _) fun r2 h => ?_;cbv;refine n_br hE h (fun hc h => ?_) (fun hc h => ?_)
 ·cbv;have h := ret_some h;subst h;exact hK _ _ _ hO (.refl _)
 cbv;refine n_br hE h (fun hc h => ?_) (fun hc h => ?_)
 ·cbv;have h := ret_some h;subst h;exact hK _ _ _ hO (.refl _)
 cbv;obtain ⟨s3, hx, h⟩ := bind_some h;refine n_join cf81 hE okP (fun e l H1 => match (generalizing := false) s3 with | .inl y => e = .normal ∧ l = [(1, .v (.eref [.int .i64 x_e.Op, .sl (Ar.lst Encs.eGExpr x_e.Args) .ro, .int .i64 x_e.Var, .int .i64 x_e.Field, .int .i64 x_e.Kind, .int .i64 x_e.Value.Kind, .int .i64 x_e.Value.Num, .str x_e.Value.Text] 0)), (4, .v (.bool r2.1)), (5, .v (.bool r2.2)), (6, .v (.bool (Ar.cmp .eql x_e.Op 4))), (7, .v (.bool (Ar.or (Ar.cmp .eql x_e.Op 4) (Ar.cmp .eql x_e.Op 0))))] ∧ Own Eq H0 [] H1 | .inr y => e = .ret ∧ l = [(2, .v (.int .i64 y))] ∧ Own Eq H0 [] H1) (by kernel_rfl) ?_ ?_
 ·clear h;have h := hx;clear hx;cbv;refine n_br hE h (fun hc h => ?_) (fun hc h => ?_)
  ·cbv;refine n_call hE (g := fun r4 => .int .i64 r4) h (fun r4 hx => c99 N x_e.Value r4 hx) (.refl _) fun r4 h => ?_;cbv;refine n_br hE h (fun hc h => ?_) (fun hc h => ?_)
   ·cbv;have h := ret_some h;subst h;exact ⟨_, ⟨rfl, rfl, hO⟩, .e rfl (.z), rfl⟩
   cbv;have h := ret_some h;subst h;exact ⟨_, ⟨rfl, rfl, hO⟩, .e rfl (.e rfl (.e rfl (.e rfl (.e rfl (.z))))), rfl⟩
  cbv;have h := ret_some h;subst h;exact ⟨_, ⟨rfl, rfl, hO⟩, .e rfl (.e rfl (.e rfl (.e rfl (.e rfl (.z))))), rfl⟩
 clear hx
 rcases s3 with y5 | y7
 ·rintro e l H ⟨rfl, rfl, hO⟩;cbv;refine n_br hE h (fun hc h => ?_) (fun hc h => ?_)
  ·cbv;refine n_call hE (g := fun r6 => .bool r6) h (fun r6 hx => c100 N x_e.Kind x_e.Value r6 hx) (.refl _) fun r6 h => ?_;cbv;refine n_br hE h (fun hc h => ?_) (fun hc h => ?_)
   ·cbv;have h := ret_some h;subst h;exact hK _ _ _ hO (.refl _)
   cbv;refine n_br hE h (fun hc h => ?_) (fun hc h => ?_)
   ·cbv;have h := ret_some h;subst h;exact hK _ _ _ hO (.refl _)
   cbv;have h := ret_some h;subst h;exact hK _ _ _ hO (.refl _)
  cbv;refine n_br hE h (fun hc h => ?_) (fun hc h => ?_)
  ·cbv;have h := ret_some h;subst h;exact hK _ _ _ hO (.refl _)
  cbv;have h := ret_some h;subst h;exact hK _ _ _ hO (.refl _)
 rintro e l H ⟨rfl, rfl, hO⟩;cbv;have h := ret_some h;subst h;exact hK _ _ _ hO (.refl _)
def cf62 : Cf := ⟨[], [], [], [], [], []⟩
theorem c62 (N : Nat) : ∀ (n : Nat) (x_e : GExpr) (r : Int), ref08_nodes N n x_e = some r → CallP Try.prog 62 [.agg [.int .i64 x_e.Op, .sl (Ar.lst Encs.eGExpr x_e.Args) .ro, .int .i64 x_e.Var, .int .i64 x_e.Field, .int .i64 x_e.Kind, .int .i64 x_e.Value.Kind, .int .i64 x_e.Value.Num, .str x_e.Value.Text]] (.int .i64 r) := by
 intro n
 induction n with
 | zero => intro x_e r h; cases h
 | succ n ih =>
 intro x_e r h
 unfold ref08_nodes at h
 refine callP_of_spec cf62 okP Try.func62 (by rfl) (by kernel_rfl) Try.call62 Try.ntmps62 (by rfl) (by rfl) ?_;intro E H0 K hE hK
 have hO : Own Eq H0 [] H0 := .start stable_eq rfl
 cbv;refine n_call hE (g := fun r1 => .int .i64 r1) h (fun r1 hx => c81 N x_e r1 hx) (.refl _) fun r1 h => ?_;cbv;refine n_br hE h (fun hc h => ?_) (fun hc h => ?_)
 ·cbv;have h := ret_some h;subst h;exact hK _ _ _ hO (.refl _)
 cbv;obtain ⟨s3, hx, h⟩ := bind_some h;refine n_loopN cf62 hE okP (fun s2 => [(1, .v (.eref [.int .i64 x_e.Op, .sl (Ar.lst Encs.eGExpr x_e.Args) .ro, .int .i64 x_e.Var, .int .i64 x_e.Field, .int .i64 x_e.Kind, .int .i64 x_e.Value.Kind, .int .i64 x_e.Value.Num, .str x_e.Value.Text] 0)), (4, .v (.int .i64 s2))]) (fun s2 H1 => Own Eq H0 [] H1) (fun x e l H1 => match (generalizing := false) x with | .inl y => e = .exit 0 ∧ l = [] ∧ Own Eq H0 [] H1 | .inr y => e = .ret ∧ l = [(2, .v (.int .i64 y))] ∧ Own Eq H0 [] H1) (by kernel_rfl) ?_ hx ?_ hO ?_
 ·intro s2 H o hO h;clear hx;cbv;refine n_ln hE ?_;cbv;refine n_br hE h (fun hc h => ?_) (fun hc h => ?_)
  ·cbv;refine n_idx hE Encs.eGExpr_eq h fun x4 h => ?_;cbv;refine n_call hE (g := fun r5 => .int .i64 r5) h (fun r5 hx => ih x4 r5 hx) (.refl _) fun r5 h => ?_;cbv;refine n_br hE h (fun hc h => ?_) (fun hc h => ?_)
   ·cbv;have h := ret_some h;subst h;exact ⟨_, _, rfl, ⟨rfl, rfl, hO⟩, .e rfl (.z), rfl⟩
   cbv;have h := ret_some h;subst h;exact ⟨_, rfl, .e rfl (.e rfl (.z)), rfl, hO⟩
  cbv;have h := ret_some h;subst h;exact ⟨_, _, rfl, ⟨rfl, rfl, hO⟩, .z, rfl⟩
 ·exact .e rfl (.e rfl (.z))
 clear hx
 rcases s3 with y6 | y7
 ·rintro e l H ⟨rfl, rfl, hO⟩;cbv;have h := ret_some h;subst h;exact hK _ _ _ hO (.refl _)
 rintro e l H ⟨rfl, rfl, hO⟩;cbv;have h := ret_some h;subst h;exact hK _ _ _ hO (.refl _)
def cf37 : Cf := ⟨[], [], [], [], [], []⟩
theorem c37 (N : Nat) (x_e : GExpr) (r : Int) (h : ref08_Check N x_e = some r) : CallP Try.prog 37 [.agg [.int .i64 x_e.Op, .sl (Ar.lst Encs.eGExpr x_e.Args) .ro, .int .i64 x_e.Var, .int .i64 x_e.Field, .int .i64 x_e.Kind, .int .i64 x_e.Value.Kind, .int .i64 x_e.Value.Num, .str x_e.Value.Text]] (.int .i64 r) := by
 unfold ref08_Check at h
 refine callP_of_spec cf37 okP Try.func37 (by rfl) (by kernel_rfl) Try.call37 Try.ntmps37 (by rfl) (by rfl) ?_;intro E H0 K hE hK
 have hO : Own Eq H0 [] H0 := .start stable_eq rfl
 cbv;refine n_call hE (g := fun r1 => .int .i64 r1) h (fun r1 hx => c29 N N x_e 64 r1 hx) (.refl _) fun r1 h => ?_;cbv;refine n_br hE h (fun hc h => ?_) (fun hc h => ?_)
 ·cbv;have h := ret_some h;subst h;exact hK _ _ _ hO (.refl _)
 cbv;refine n_call hE (g := fun r2 => .int .i64 r2) h (fun r2 hx => c30 N N x_e r2 hx) (.refl _) fun r2 h => ?_;cbv;refine n_br hE h (fun hc h => ?_) (fun hc h => ?_)
 ·cbv;have h := ret_some h;subst h;exact hK _ _ _ hO (.refl _)
 cbv;refine n_call hE (g := fun r3 => .int .i64 r3) h (fun r3 hx => c62 N N x_e r3 hx) (.refl _) fun r3 h => ?_;cbv;have h := ret_some h;subst h;exact hK _ _ _ hO (.refl _)
def cf70 : Cf := ⟨[4], [], [], [], [], []⟩
theorem c70 (N : Nat) (x_l : List GNeed) (x_v : Int) (r : GNeed) (h : ref26_Of N x_l x_v = some r) : CallP Try.prog 70 [.sl (Ar.lst Encs.eGNeed x_l) .ro, .int .i64 x_v] (.agg [.int .i64 r.Var, .int .i64 r.Last, .int .i64 r.All]) := by
 unfold ref26_Of at h
 refine callP_of_spec cf70 okP Try.func70 (by rfl) (by kernel_rfl) Try.call70 Try.ntmps70 (by rfl) (by rfl) ?_;intro E H0 K hE hK
 have hO : Own Eq H0 [] H0 := .start stable_eq rfl
 cbv;refine n_alloc hE hO fun b1 H hO => ?_;cbv;obtain ⟨s3, hx, h⟩ := bind_some h;refine n_loopN cf70 hE okP (fun s2 => [(0, .v (.sl (Ar.lst Encs.eGNeed x_l) .ro)), (1, .v (.int .i64 x_v)), (4, .v (.ref b1 0)), (5, .v (.int .i64 s2))]) (fun s2 H1 => Own Eq H0 [.blk b1 (.cells [.int .i64 0, .int .i64 0, .int .i64 0])] H1) (fun x e l H1 => match (generalizing := false) x with | .inl y => e = .exit 0 ∧ l = [(1, .v (.int .i64 x_v)), (4, .v (.ref b1 0))] ∧ Own Eq H0 [.blk b1 (.cells [.int .i64 0, .int .i64 0, .int .i64 0])] H1 | .inr y => e = .ret ∧ l = [(4, .v (.ref b1 0))] ∧ Own Eq H0 [.blk b1 (.cells [.int .i64 y.Var, .int .i64 y.Last, .int .i64 y.All])] H1) (by kernel_rfl) ?_ hx ?_ hO ?_
 ·intro s2 H o hO h;clear hx;cbv;refine n_ln hE ?_;cbv;refine n_br hE h (fun hc h => ?_) (fun hc h => ?_)
  ·cbv;refine n_idx hE Encs.eGNeed_eq h fun x4 h => ?_;cbv;refine n_br hE h (fun hc h => ?_) (fun hc h => ?_)
   ·cbv;refine n_idx hE Encs.eGNeed_eq h fun x5 h => ?_;cbv;refine n_store hE hO 0 rfl rfl fun H hO => ?_;cbv;have h := ret_some h;subst h;exact ⟨_, _, rfl, ⟨rfl, rfl, hO⟩, .e rfl (.z), rfl⟩
   cbv;have h := ret_some h;subst h;exact ⟨_, rfl, .e rfl (.e rfl (.e rfl (.e rfl (.z)))), rfl, hO⟩
  cbv;have h := ret_some h;subst h;exact ⟨_, _, rfl, ⟨rfl, rfl, hO⟩, .e rfl (.e rfl (.z)), rfl⟩
 ·exact .e rfl (.e rfl (.e rfl (.e rfl (.z))))
 clear hx
 rcases s3 with y6 | y7
 ·rintro e l H ⟨rfl, rfl, hO⟩;cbv;refine n_store hE hO 0 rfl rfl fun H hO => ?_;cbv;refine n_load hE hO 0 rfl ?_;cbv;have h := ret_some h;subst h;exact hK _ _ _ hO (.refl _)
 rintro e l H ⟨rfl, rfl, hO⟩;cbv;refine n_load hE hO 0 rfl ?_;cbv;have h := ret_some h;subst h;exact hK _ _ _ hO (.refl _)
def cf53 : Cf := ⟨[7, 8], [], [], [], [], []⟩
theorem c53 (N : Nat) (x_a : List GNeed) (x_b : List GNeed) (r : (List GNeed)) (h : ref26_Union N x_a x_b = some r) : CallP Try.prog 53 [.sl (Ar.lst Encs.eGNeed x_a) .ro, .sl (Ar.lst Encs.eGNeed x_b) .ro] (.sl (Ar.lst Encs.eGNeed r) .ro) := by
 unfold ref26_Union at h
 refine callP_of_spec cf53 okP Try.func53 (by rfl) (by kernel_rfl) Try.call53 Try.ntmps53 (by rfl) (by rfl) ?_;intro E H0 K hE hK
 have hO : Own Eq H0 [] H0 := .start stable_eq rfl
 cbv;replace hO := hO.tl0 (t := .nil) rfl;obtain ⟨s3, hx, h⟩ := bind_some h;refine n_loopG cf53 hE okP (γ := Tail) (fun s1 g => [(0, .v (.sl (Ar.lst Encs.eGNeed x_a) .ro)), (1, .v (.sl (Ar.lst Encs.eGNeed x_b) .ro)), (5, .v (.sl (Ar.lst Encs.eGNeed s1.1) g)), (6, .v (.int .i64 s1.2))]) (fun s1 g H1 => Appn g ∧ Own Eq H0 [.tl g] H1) (fun x e l H1 => ∃ u1 : Tail, Appn u1 ∧ e = .exit 0 ∧ l = [(5, .v (.sl (Ar.lst Encs.eGNeed x) u1))] ∧ Own Eq H0 [.tl u1] H1) (by kernel_rfl) ?_ .nil hx ?_ ?_ ?_
 ·rintro s1 t2 H o ⟨ht2, hO⟩ h;clear hx;cbv;refine n_br hE h (fun hc h => ?_) (fun hc h => ?_)
  ·cbv;refine n_call hE (g := fun r4 => .agg [.int .i64 r4.Var, .int .i64 r4.Last, .int .i64 r4.All]) h (fun r4 hx => c70 N x_a s1.2 r4 hx) (.refl _) fun r4 h => ?_;cbv;refine n_call hE (g := fun r5 => .agg [.int .i64 r5.Var, .int .i64 r5.Last, .int .i64 r5.All]) h (fun r5 hx => c70 N x_b s1.2 r5 hx) (.refl _) fun r5 h => ?_;cbv;refine n_alloc hE hO fun b6 H hO => ?_;cbv;refine n_alloc hE hO fun b7 H hO => ?_;cbv;refine n_store hE hO 1 rfl rfl fun H hO => ?_;cbv;refine n_store hE hO 0 rfl rfl fun H hO => ?_;cbv;refine n_load hE hO 1 rfl ?_;cbv;refine n_load hE hO 0 rfl ?_;cbv;refine n_load hE hO 1 rfl ?_;cbv;refine n_load hE hO 0 rfl ?_;cbv;refine n_br hE h (fun hc h => ?_) (fun hc h => ?_)
   ·cbv;refine n_appn (f := Encs.eGNeed) hE sz_GNeed (by decide) hO 2 rfl ht2 (l := s1.1) (m := [(⟨s1.2, Ar.ar .or .i64 r4.Last r5.Last, Ar.ar .or .i64 r4.All r5.All⟩ : GNeed)]) (.refl _) (.lstc (.eq (Encs.eGNeed_eq (⟨s1.2, Ar.ar .or .i64 r4.Last r5.Last, Ar.ar .or .i64 r4.All r5.All⟩ : GNeed)) (.refl _)) (.lst0)) h fun l9 t8 H hO ht8 h => ?_;cbv;have h := ret_some h;subst h;exact ⟨_, t8, rfl, .e rfl (.e rfl (.e rfl (.e rfl (.z)))), rfl, ht8, hO.tail.tail⟩
   cbv;have h := ret_some h;subst h;exact ⟨_, t2, rfl, .e rfl (.e rfl (.e rfl (.e rfl (.z)))), rfl, ht2, hO.tail.tail⟩
  cbv;have h := ret_some h;subst h;exact ⟨_, _, rfl, ⟨t2, ht2, rfl, rfl, hO⟩, .e rfl (.z), rfl⟩
 ·exact .e rfl (.e rfl (.v (.slt _ (.lst0)) (.e rfl (.z))))
 ·exact ⟨trivial, hO⟩
 clear hx;rintro e l H ⟨t10, ht10, rfl, rfl, hO⟩;cbv;have h := ret_some h;subst h;exact hK _ _ _ hO (.ro _ _)
def cf38 : Cf := ⟨[6], [], [(34, 14), (43, 16)], [0], [], []⟩
theorem c38 (N : Nat) : ∀ (n : Nat) (x_e : GExpr) (x_own : Int) (r : (List GNeed)), ref26_Reads N n x_e x_own = some r → CallP Try.prog 38 [.agg [.int .i64 x_e.Op, .sl (Ar.lst Encs.eGExpr x_e.Args) .ro, .int .i64 x_e.Var, .int .i64 x_e.Field, .int .i64 x_e.Kind, .int .i64 x_e.Value.Kind, .int .i64 x_e.Value.Num, .str x_e.Value.Text], .int .i64 x_own] (.sl (Ar.lst Encs.eGNeed r) .ro) := by
 intro n
 induction n with
 | zero => intro x_e x_own r h; cases h
 | succ n ih =>
 intro x_e x_own r h
 unfold ref26_Reads at h
 refine callP_of_spec cf38 okP Try.func38 (by rfl) (by kernel_rfl) Try.call38 Try.ntmps38 (by rfl) (by rfl) ?_;intro E H0 K hE hK
 have hO : Own Eq H0 [] H0 := .start stable_eq rfl
 cbv;refine n_alloc hE hO fun b1 H hO => ?_;cbv;refine n_store hE hO 0 rfl rfl fun H hO => ?_;cbv;obtain ⟨s2, hx, h⟩ := bind_some h;refine n_join cf38 hE okP (fun e l H1 => e = .normal ∧ l = [(1, .v (.int .i64 x_own)), (2, .v (.eref [.int .i64 x_e.Op, .sl (Ar.lst Encs.eGExpr x_e.Args) .ro, .int .i64 x_e.Var, .int .i64 x_e.Field, .int .i64 x_e.Kind, .int .i64 x_e.Value.Kind, .int .i64 x_e.Value.Num, .str x_e.Value.Text] 0)), (5, .v (.sl [] .nil)), (6, .v (.ref b1 0))] ∧ Own Eq H0 [.blk b1 (.cells [.int .i64 s2.Var, .int .i64 s2.Last, .int .i64 s2.All])] H1) (by kernel_rfl) ?_ ?_
 ·clear h;have h := hx;clear hx;cbv;refine n_br hE h (fun hc h => ?_) (fun hc h => ?_)
  ·cbv;refine n_needB hE h fun h => ?_;cbv;refine n_store hE hO 0 rfl rfl fun H hO => ?_;cbv;have h := ret_some h;subst h;exact ⟨_, ⟨rfl, rfl, hO⟩, .e rfl (.e rfl (.e rfl (.e rfl (.z)))), rfl⟩
  cbv;refine n_br hE h (fun hc h => ?_) (fun hc h => ?_)
  ·cbv;refine n_store hE hO 0 rfl rfl fun H hO => ?_;cbv;have h := ret_some h;subst h;exact ⟨_, ⟨rfl, rfl, hO⟩, .e rfl (.e rfl (.e rfl (.e rfl (.z)))), rfl⟩
  cbv;refine n_br hE h (fun hc h => ?_) (fun hc h => ?_)
  ·cbv;refine n_needB hE h fun h => ?_;cbv;refine n_store hE hO 0 rfl rfl fun H hO => ?_;cbv;have h := ret_some h;subst h;exact ⟨_, ⟨rfl, rfl, hO⟩, .e rfl (.e rfl (.e rfl (.e rfl (.z)))), rfl⟩
  cbv;refine n_br hE h (fun hc h => ?_) (fun hc h => ?_)
  ·cbv;refine n_store hE hO 0 rfl rfl fun H hO => ?_;cbv;have h := ret_some h;subst h;exact ⟨_, ⟨rfl, rfl, hO⟩, .e rfl (.e rfl (.e rfl (.e rfl (.z)))), rfl⟩
  cbv;have h := ret_some h;subst h;exact ⟨_, ⟨rfl, rfl, hO⟩, .e rfl (.e rfl (.e rfl (.e rfl (.z)))), rfl⟩
 clear hx;rintro e l H ⟨rfl, rfl, hO⟩;cbv;obtain ⟨s3, hx, h⟩ := bind_some h;refine n_join cf38 hE okP (fun e l H1 => e = .normal ∧ l = [(1, .v (.int .i64 x_own)), (2, .v (.eref [.int .i64 x_e.Op, .sl (Ar.lst Encs.eGExpr x_e.Args) .ro, .int .i64 x_e.Var, .int .i64 x_e.Field, .int .i64 x_e.Kind, .int .i64 x_e.Value.Kind, .int .i64 x_e.Value.Num, .str x_e.Value.Text] 0)), (5, .v (.sl [] .nil)), (6, .v (.ref b1 0))] ∧ Own Eq H0 [.blk b1 (.cells [.int .i64 s3.Var, .int .i64 s3.Last, .int .i64 s3.All])] H1) (by kernel_rfl) ?_ ?_
 ·clear h;have h := hx;clear hx;cbv;refine n_br hE h (fun hc h => ?_) (fun hc h => ?_)
  ·cbv;refine n_store hE hO 0 rfl rfl fun H hO => ?_;cbv;have h := ret_some h;subst h;exact ⟨_, ⟨rfl, rfl, hO⟩, .e rfl (.e rfl (.e rfl (.e rfl (.z)))), rfl⟩
  cbv;have h := ret_some h;subst h;exact ⟨_, ⟨rfl, rfl, hO⟩, .e rfl (.e rfl (.e rfl (.e rfl (.z)))), rfl⟩
 clear hx;rintro e l H ⟨rfl, rfl, hO⟩;cbv;refine n_load hE hO 0 rfl ?_;cbv;refine n_load hE hO 0 rfl ?_;cbv;replace hO := hO.tl0 (t := .nil) rfl;obtain ⟨s4, hx, h⟩ := bind_some h;refine n_join cf38 hE okP (fun e l H1 => ∃ u1 : Tail, Appn u1 ∧ e = .normal ∧ l = [(1, .v (.int .i64 x_own)), (2, .v (.eref [.int .i64 x_e.Op, .sl (Ar.lst Encs.eGExpr x_e.Args) .ro, .int .i64 x_e.Var, .int .i64 x_e.Field, .int .i64 x_e.Kind, .int .i64 x_e.Value.Kind, .int .i64 x_e.Value.Num, .str x_e.Value.Text] 0)), (5, .v (.sl (Ar.lst Encs.eGNeed s4) u1))] ∧ Own Eq H0 [.tl u1, .blk b1 (.cells [.int .i64 s3.Var, .int .i64 s3.Last, .int .i64 s3.All])] H1) (by kernel_rfl) ?_ ?_
 ·clear h;have h := hx;clear hx;cbv;refine n_br hE h (fun hc h => ?_) (fun hc h => ?_)
  ·cbv;refine n_load hE hO 1 rfl ?_;cbv;refine n_appn (f := Encs.eGNeed) hE sz_GNeed (by decide) hO 0 rfl trivial (l := []) (m := [s3]) (.lst0) (.lstc (.eq (Encs.eGNeed_eq s3) (.refl _)) (.lst0)) h fun l6 t5 H hO ht5 h => ?_;cbv;have h := ret_some h;subst h;exact ⟨_, ⟨t5, ht5, rfl, rfl, hO⟩, .e rfl (.e rfl (.e rfl (.z))), rfl⟩
  cbv;have h := ret_some h;subst h;exact ⟨_, ⟨.nil, trivial, rfl, rfl, hO⟩, .e rfl (.e rfl (.v (.slt _ (.lst0)) (.z))), rfl⟩
 clear hx;rintro e l H ⟨t7, ht7, rfl, rfl, hO⟩;cbv;obtain ⟨s9, hx, h⟩ := bind_some h;refine n_loopN cf38 hE okP (fun s8 => [(1, .v (.int .i64 x_own)), (2, .v (.eref [.int .i64 x_e.Op, .sl (Ar.lst Encs.eGExpr x_e.Args) .ro, .int .i64 x_e.Var, .int .i64 x_e.Field, .int .i64 x_e.Kind, .int .i64 x_e.Value.Kind, .int .i64 x_e.Value.Num, .str x_e.Value.Text] 0)), (5, .v (.sl (Ar.lst Encs.eGNeed s8.1) .ro)), (7, .v (.int .i64 s8.2))]) (fun s8 H1 => Own Eq H0 [.tl t7, .blk b1 (.cells [.int .i64 s3.Var, .int .i64 s3.Last, .int .i64 s3.All])] H1) (fun x e l H1 => e = .exit 1 ∧ l = [(5, .v (.sl (Ar.lst Encs.eGNeed x) .ro))] ∧ Own Eq H0 [.tl t7, .blk b1 (.cells [.int .i64 s3.Var, .int .i64 s3.Last, .int .i64 s3.All])] H1) (by kernel_rfl) ?_ hx ?_ hO ?_
 ·intro s8 H o hO h;clear hx;cbv;refine n_ln hE ?_;cbv;refine n_br hE h (fun hc h => ?_) (fun hc h => ?_)
  ·cbv;refine n_idx hE Encs.eGExpr_eq h fun x10 h => ?_;cbv;refine n_call hE (g := fun r11 => .sl (Ar.lst Encs.eGNeed r11) .ro) h (fun r11 hx => ih x10 x_own r11 hx) (.refl _) fun r11 h => ?_;cbv;refine n_call hE (g := fun r12 => .sl (Ar.lst Encs.eGNeed r12) .ro) h (fun r12 hx => c53 N s8.1 r11 r12 hx) (.refl _) fun r12 h => ?_;cbv;have h := ret_some h;subst h;exact ⟨_, rfl, .e rfl (.e rfl (.e rfl (.e rfl (.z)))), rfl, hO⟩
  cbv;have h := ret_some h;subst h;exact ⟨_, _, rfl, ⟨rfl, rfl, hO⟩, .e rfl (.z), rfl⟩
 ·exact .e rfl (.e rfl (.v (.ro _ _) (.e rfl (.z))))
 clear hx;rintro e l H ⟨rfl, rfl, hO⟩;cbv;have h := ret_some h;subst h;exact hK _ _ _ hO (.refl _)
def cf39 : Cf := ⟨[], [], [], [], [], []⟩
theorem c39 (N : Nat) (x_l : List GGuard) (r : Bool) (h : ref23_few N x_l = some r) : CallP Try.prog 39 [.sl (Ar.lst Encs.eGGuard x_l) .ro] (.bool r) := by
 unfold ref23_few at h
 refine callP_of_spec cf39 okP Try.func39 (by rfl) (by kernel_rfl) Try.call39 Try.ntmps39 (by rfl) (by rfl) ?_;intro E H0 K hE hK
 have hO : Own Eq H0 [] H0 := .start stable_eq rfl
 cbv;obtain ⟨s2, hx, h⟩ := bind_some h;refine n_loopN cf39 hE okP (fun s1 => [(0, .v (.sl (Ar.lst Encs.eGGuard x_l) .ro)), (3, .v (.int .i64 s1))]) (fun s1 H1 => Own Eq H0 [] H1) (fun x e l H1 => match (generalizing := false) x with | .inl y => e = .exit 0 ∧ l = [] ∧ Own Eq H0 [] H1 | .inr y => e = .ret ∧ l = [(2, .b false)] ∧ Own Eq H0 [] H1) (by kernel_rfl) ?_ hx ?_ hO ?_
 ·intro s1 H o hO h;clear hx;cbv;refine n_ln hE ?_;cbv;refine n_br hE h (fun hc h => ?_) (fun hc h => ?_)
  ·cbv;refine n_idx hE Encs.eGGuard_eq h fun x3 h => ?_;cbv;refine n_call hE (g := fun r4 => .bool r4) h (fun r4 hx => c8 N x3.Cond r4 hx) (.refl _) fun r4 h => ?_;cbv;refine n_br hE h (fun hc h => ?_) (fun hc h => ?_)
   ·cbv;have h := ret_some h;subst h;exact ⟨_, _, rfl, ⟨rfl, rfl, hO⟩, .b rfl (.z), rfl⟩
   cbv;have h := ret_some h;subst h;exact ⟨_, rfl, .e rfl (.e rfl (.z)), rfl, hO⟩
  cbv;have h := ret_some h;subst h;exact ⟨_, _, rfl, ⟨rfl, rfl, hO⟩, .z, rfl⟩
 ·exact .e rfl (.e rfl (.z))
 clear hx
 rcases s2 with y5 | y6
 ·rintro e l H ⟨rfl, rfl, hO⟩;cbv;have h := ret_some h;subst h;exact hK _ _ _ hO (.refl _)
 rintro e l H ⟨rfl, rfl, hO⟩;cbv;have h := ret_some h;subst h;exact hK _ _ _ hO (.refl _)
def cf13 : Cf := ⟨[], [], [], [], [], []⟩
theorem c13 (N : Nat) (x_a : GAutomaton) (r : Bool) (h : ref23_Few N x_a = some r) : CallP Try.prog 13 [.agg [.int .i64 x_a.Vars, .int .i64 x_a.Scopes, .sl (Ar.lst Encs.eGState x_a.States) .ro, .sl (Ar.lst Encs.eGEdge x_a.Edges) .ro]] (.bool r) := by
 unfold ref23_Few at h
 refine callP_of_spec cf13 okP Try.func13 (by rfl) (by kernel_rfl) Try.call13 Try.ntmps13 (by rfl) (by rfl) ?_;intro E H0 K hE hK
 have hO : Own Eq H0 [] H0 := .start stable_eq rfl
 cbv;obtain ⟨s2, hx, h⟩ := bind_some h;refine n_loopN cf13 hE okP (fun s1 => [(1, .v (.eref [.int .i64 x_a.Vars, .int .i64 x_a.Scopes, .sl (Ar.lst Encs.eGState x_a.States) .ro, .sl (Ar.lst Encs.eGEdge x_a.Edges) .ro] 0)), (3, .v (.int .i64 s1))]) (fun s1 H1 => Own Eq H0 [] H1) (fun x e l H1 => match (generalizing := false) x with | .inl y => e = .exit 0 ∧ l = [(1, .v (.eref [.int .i64 x_a.Vars, .int .i64 x_a.Scopes, .sl (Ar.lst Encs.eGState x_a.States) .ro, .sl (Ar.lst Encs.eGEdge x_a.Edges) .ro] 0))] ∧ Own Eq H0 [] H1 | .inr y => e = .ret ∧ l = [(2, .b false)] ∧ Own Eq H0 [] H1) (by kernel_rfl) ?_ hx ?_ hO ?_
 ·intro s1 H o hO h;clear hx;cbv;refine n_ln hE ?_;cbv;refine n_br hE h (fun hc h => ?_) (fun hc h => ?_)
  ·cbv;refine n_idx hE Encs.eGState_eq h fun x3 h => ?_;cbv;refine n_ln hE ?_;cbv;refine n_br hE h (fun hc h => ?_) (fun hc h => ?_)
   ·cbv;refine n_idx hE Encs.eGState_eq h fun x4 h => ?_;cbv;refine n_ln hE ?_;cbv;refine n_br hE h (fun hc h => ?_) (fun hc h => ?_)
    ·cbv;have h := ret_some h;subst h;exact ⟨_, _, rfl, ⟨rfl, rfl, hO⟩, .b rfl (.z), rfl⟩
    cbv;refine n_idx hE Encs.eGState_eq h fun x5 h => ?_;cbv;refine n_ln hE ?_;cbv;refine n_br hE h (fun hc h => ?_) (fun hc h => ?_)
    ·cbv;have h := ret_some h;subst h;exact ⟨_, _, rfl, ⟨rfl, rfl, hO⟩, .b rfl (.z), rfl⟩
    cbv;refine n_idx hE Encs.eGState_eq h fun x6 h => ?_;cbv;refine n_call hE (g := fun r7 => .bool r7) h (fun r7 hx => c39 N x6.Guards r7 hx) (.refl _) fun r7 h => ?_;cbv;refine n_br hE h (fun hc h => ?_) (fun hc h => ?_)
    ·cbv;have h := ret_some h;subst h;exact ⟨_, _, rfl, ⟨rfl, rfl, hO⟩, .b rfl (.z), rfl⟩
    cbv;have h := ret_some h;subst h;exact ⟨_, rfl, .e rfl (.e rfl (.z)), rfl, hO⟩
   cbv;refine n_idx hE Encs.eGState_eq h fun x8 h => ?_;cbv;refine n_ln hE ?_;cbv;refine n_br hE h (fun hc h => ?_) (fun hc h => ?_)
   ·cbv;have h := ret_some h;subst h;exact ⟨_, _, rfl, ⟨rfl, rfl, hO⟩, .b rfl (.z), rfl⟩
   cbv;refine n_idx hE Encs.eGState_eq h fun x9 h => ?_;cbv;refine n_call hE (g := fun r10 => .bool r10) h (fun r10 hx => c39 N x9.Guards r10 hx) (.refl _) fun r10 h => ?_;cbv;refine n_br hE h (fun hc h => ?_) (fun hc h => ?_)
   ·cbv;have h := ret_some h;subst h;exact ⟨_, _, rfl, ⟨rfl, rfl, hO⟩, .b rfl (.z), rfl⟩
   cbv;have h := ret_some h;subst h;exact ⟨_, rfl, .e rfl (.e rfl (.z)), rfl, hO⟩
  cbv;have h := ret_some h;subst h;exact ⟨_, _, rfl, ⟨rfl, rfl, hO⟩, .e rfl (.z), rfl⟩
 ·exact .e rfl (.e rfl (.z))
 clear hx
 rcases s2 with y11 | y24
 ·rintro e l H ⟨rfl, rfl, hO⟩;cbv;obtain ⟨s13, hx, h⟩ := bind_some h;refine n_loopN cf13 hE okP (fun s12 => [(1, .v (.eref [.int .i64 x_a.Vars, .int .i64 x_a.Scopes, .sl (Ar.lst Encs.eGState x_a.States) .ro, .sl (Ar.lst Encs.eGEdge x_a.Edges) .ro] 0)), (4, .v (.int .i64 s12))]) (fun s12 H1 => Own Eq H0 [] H1) (fun x e l H1 => match (generalizing := false) x with | .inl y => e = .exit 2 ∧ l = [(1, .v (.eref [.int .i64 x_a.Vars, .int .i64 x_a.Scopes, .sl (Ar.lst Encs.eGState x_a.States) .ro, .sl (Ar.lst Encs.eGEdge x_a.Edges) .ro] 0))] ∧ Own Eq H0 [] H1 | .inr y => e = .ret ∧ l = [(2, .b false)] ∧ Own Eq H0 [] H1) (by kernel_rfl) ?_ hx ?_ hO ?_
  ·intro s12 H o hO h;clear hx;cbv;refine n_ln hE ?_;cbv;refine n_br hE h (fun hc h => ?_) (fun hc h => ?_)
   ·cbv;refine n_idx hE Encs.eGEdge_eq h fun x14 h => ?_;cbv;refine n_call hE (g := fun r15 => .bool r15) h (fun r15 hx => c8 N x14.Cond r15 hx) (.refl _) fun r15 h => ?_;cbv;refine n_ln hE ?_;cbv;refine n_ln hE ?_;cbv;refine n_ln hE ?_;cbv;refine n_ln hE ?_;cbv;refine n_ln hE ?_;cbv;refine n_br hE h (fun hc h => ?_) (fun hc h => ?_)
    ·cbv;have h := ret_some h;subst h;exact ⟨_, _, rfl, ⟨rfl, rfl, hO⟩, .b rfl (.z), rfl⟩
    cbv;obtain ⟨s17, hx, h⟩ := bind_some h;refine n_loopN cf13 hE okP (fun s16 => [(1, .v (.eref [.int .i64 x_a.Vars, .int .i64 x_a.Scopes, .sl (Ar.lst Encs.eGState x_a.States) .ro, .sl (Ar.lst Encs.eGEdge x_a.Edges) .ro] 0)), (4, .v (.int .i64 s12)), (5, .v (.eref [.int .i64 x14.From, .int .i64 x14.To, .int .i64 x14.Var, .int .i64 x14.Typ, .int .i64 x14.Cond.Op, .sl (Ar.lst Encs.eGExpr x14.Cond.Args) .ro, .int .i64 x14.Cond.Var, .int .i64 x14.Cond.Field, .int .i64 x14.Cond.Kind, .int .i64 x14.Cond.Value.Kind, .int .i64 x14.Cond.Value.Num, .str x14.Cond.Value.Text, .sl (Ar.lst (V.int .i64) x14.Opens) .ro, .sl (Ar.lst (V.int .i64) x14.Closes) .ro, .sl (Ar.lst Encs.eGExpr x14.Checks) .ro, .sl (Ar.lst Encs.eGLimit x14.Limits) .ro, .sl (Ar.lst (V.int .i64) x14.Inside) .ro] 0)), (6, .v (.int .i64 s16))]) (fun s16 H1 => Own Eq H0 [] H1) (fun x e l H1 => match (generalizing := false) x with | .inl y => e = .exit 4 ∧ l = [(1, .v (.eref [.int .i64 x_a.Vars, .int .i64 x_a.Scopes, .sl (Ar.lst Encs.eGState x_a.States) .ro, .sl (Ar.lst Encs.eGEdge x_a.Edges) .ro] 0)), (4, .v (.int .i64 s12))] ∧ Own Eq H0 [] H1 | .inr y => e = .ret ∧ l = [(2, .b false)] ∧ Own Eq H0 [] H1) (by kernel_rfl) ?_ hx ?_ hO ?_
    ·intro s16 H o hO h;clear hx;cbv;refine n_ln hE ?_;cbv;refine n_br hE h (fun hc h => ?_) (fun hc h => ?_)
     ·cbv;refine n_idx hE Encs.eGExpr_eq h fun x18 h => ?_;cbv;refine n_call hE (g := fun r19 => .bool r19) h (fun r19 hx => c8 N x18 r19 hx) (.refl _) fun r19 h => ?_;cbv;refine n_br hE h (fun hc h => ?_) (fun hc h => ?_)
      ·cbv;have h := ret_some h;subst h;exact ⟨_, _, rfl, ⟨rfl, rfl, hO⟩, .b rfl (.z), rfl⟩
      cbv;have h := ret_some h;subst h;exact ⟨_, rfl, .e rfl (.e rfl (.e rfl (.e rfl (.z)))), rfl, hO⟩
     cbv;have h := ret_some h;subst h;exact ⟨_, _, rfl, ⟨rfl, rfl, hO⟩, .e rfl (.e rfl (.z)), rfl⟩
    ·exact .e rfl (.e rfl (.e rfl (.e rfl (.z))))
    clear hx
    rcases s17 with y20 | y21
    ·rintro e l H ⟨rfl, rfl, hO⟩;cbv;have h := ret_some h;subst h;exact ⟨_, rfl, .e rfl (.e rfl (.z)), rfl, hO⟩
    rintro e l H ⟨rfl, rfl, hO⟩;cbv;have h := ret_some h;subst h;exact ⟨_, _, rfl, ⟨rfl, rfl, hO⟩, .b rfl (.z), rfl⟩
   cbv;have h := ret_some h;subst h;exact ⟨_, _, rfl, ⟨rfl, rfl, hO⟩, .e rfl (.z), rfl⟩
  ·exact .e rfl (.e rfl (.z))
  clear hx
  rcases s13 with y22 | y23
  ·rintro e l H ⟨rfl, rfl, hO⟩;cbv;refine n_ln hE ?_;cbv;refine n_ln hE ?_;cbv;have h := ret_some h;subst h;exact hK _ _ _ hO (.refl _)
  rintro e l H ⟨rfl, rfl, hO⟩;cbv;have h := ret_some h;subst h;exact hK _ _ _ hO (.refl _)
 rintro e l H ⟨rfl, rfl, hO⟩;cbv;have h := ret_some h;subst h;exact hK _ _ _ hO (.refl _)
def cf65 : Cf := ⟨[], [], [], [], [], []⟩
theorem c65 (N : Nat) (x_n : Int) (x_most : Int) (r : Bool) (h : ref23_out N x_n x_most = some r) : CallP Try.prog 65 [.int .i64 x_n, .int .i64 x_most] (.bool r) := by
 unfold ref23_out at h
 refine callP_of_spec cf65 okP Try.func65 (by rfl) (by kernel_rfl) Try.call65 Try.ntmps65 (by rfl) (by rfl) ?_;intro E H0 K hE hK
 have hO : Own Eq H0 [] H0 := .start stable_eq rfl
 cbv;have h := ret_some h;subst h;exact hK _ _ _ hO (.refl _)
def cf66 : Cf := ⟨[], [(6, 26), (11, 10)], [], [], [], []⟩
theorem c66 (N : Nat) (x_a : GAutomaton) (x_l : List GGuard) (r : Int) (h : ref23_guards N x_a x_l = some r) : CallP Try.prog 66 [.agg [.int .i64 x_a.Vars, .int .i64 x_a.Scopes, .sl (Ar.lst Encs.eGState x_a.States) .ro, .sl (Ar.lst Encs.eGEdge x_a.Edges) .ro], .sl (Ar.lst Encs.eGGuard x_l) .ro] (.int .i64 r) := by
 unfold ref23_guards at h
 refine callP_of_spec cf66 okP Try.func66 (by rfl) (by kernel_rfl) Try.call66 Try.ntmps66 (by rfl) (by rfl) ?_;intro E H0 K hE hK
 have hO : Own Eq H0 [] H0 := .start stable_eq rfl
 cbv;refine n_ln hE ?_;cbv;refine n_br hE h (fun hc h => ?_) (fun hc h => ?_)
 ·cbv;have h := ret_some h;subst h;exact hK _ _ _ hO (.refl _)
 cbv;obtain ⟨s2, hx, h⟩ := bind_some h;refine n_loopN cf66 hE okP (fun s1 => [(1, .v (.sl (Ar.lst Encs.eGGuard x_l) .ro)), (2, .v (.eref [.int .i64 x_a.Vars, .int .i64 x_a.Scopes, .sl (Ar.lst Encs.eGState x_a.States) .ro, .sl (Ar.lst Encs.eGEdge x_a.Edges) .ro] 0)), (5, .v (.int .i64 s1))]) (fun s1 H1 => Own Eq H0 [] H1) (fun x e l H1 => match (generalizing := false) x with | .inl y => e = .exit 0 ∧ l = [] ∧ Own Eq H0 [] H1 | .inr y => e = .ret ∧ l = [(4, .v (.int .i64 y))] ∧ Own Eq H0 [] H1) (by kernel_rfl) ?_ hx ?_ hO ?_
 ·intro s1 H o hO h;clear hx;cbv;refine n_ln hE ?_;cbv;refine n_br hE h (fun hc h => ?_) (fun hc h => ?_)
  ·cbv;refine n_idx hE Encs.eGGuard_eq h fun x3 h => ?_;cbv;refine n_pcall hE (g := fun r4 => .bool r4) h (fun r4 hx => c65 N x3.Scope (Ar.ar .sub .i64 x_a.Scopes 1) r4 hx) (.refl _) fun r4 h => ?_;cbv;refine n_br hE h (fun hc h => ?_) (fun hc h => ?_)
   ·cbv;have h := ret_some h;subst h;exact ⟨_, _, rfl, ⟨rfl, rfl, hO⟩, .e rfl (.z), rfl⟩
   cbv;refine n_idx hE Encs.eGGuard_eq h fun x5 h => ?_;cbv;refine n_pcall hE (g := fun r6 => .bool r6) h (fun r6 hx => c65 N x5.Typ 15 r6 hx) (.refl _) fun r6 h => ?_;cbv;refine n_br hE h (fun hc h => ?_) (fun hc h => ?_)
   ·cbv;have h := ret_some h;subst h;exact ⟨_, _, rfl, ⟨rfl, rfl, hO⟩, .e rfl (.z), rfl⟩
   cbv;refine n_idx hE Encs.eGGuard_eq h fun x7 h => ?_;cbv;refine n_call hE (g := fun r8 => .bool r8) h (fun r8 hx => c65 N x7.Var (Ar.ar .sub .i64 x_a.Vars 1) r8 hx) (.refl _) fun r8 h => ?_;cbv;refine n_br hE h (fun hc h => ?_) (fun hc h => ?_)
   ·cbv;have h := ret_some h;subst h;exact ⟨_, _, rfl, ⟨rfl, rfl, hO⟩, .e rfl (.z), rfl⟩
   cbv;obtain ⟨s10, hx, h⟩ := bind_some h;refine n_loopN cf66 hE okP (fun s9 => [(1, .v (.sl (Ar.lst Encs.eGGuard x_l) .ro)), (2, .v (.eref [.int .i64 x_a.Vars, .int .i64 x_a.Scopes, .sl (Ar.lst Encs.eGState x_a.States) .ro, .sl (Ar.lst Encs.eGEdge x_a.Edges) .ro] 0)), (5, .v (.int .i64 s1)), (6, .v (.int .i64 s9))]) (fun s9 H1 => Own Eq H0 [] H1) (fun x e l H1 => match (generalizing := false) x with | .inl y => e = .exit 2 ∧ l = [(1, .v (.sl (Ar.lst Encs.eGGuard x_l) .ro)), (2, .v (.eref [.int .i64 x_a.Vars, .int .i64 x_a.Scopes, .sl (Ar.lst Encs.eGState x_a.States) .ro, .sl (Ar.lst Encs.eGEdge x_a.Edges) .ro] 0)), (5, .v (.int .i64 s1))] ∧ Own Eq H0 [] H1 | .inr y => e = .ret ∧ l = [(4, .v (.int .i64 7))] ∧ Own Eq H0 [] H1) (by kernel_rfl) ?_ hx ?_ hO ?_
   ·intro s9 H o hO h;clear hx;cbv;refine n_br hE h (fun hc h => ?_) (fun hc h => ?_)
    ·cbv;refine n_idx hE Encs.eGGuard_eq h fun x11 h => ?_;cbv;refine n_idx hE Encs.eGGuard_eq h fun x12 h => ?_;cbv;refine n_br hE h (fun hc h => ?_) (fun hc h => ?_)
     ·cbv;have h := ret_some h;subst h;exact ⟨_, _, rfl, ⟨rfl, rfl, hO⟩, .e rfl (.z), rfl⟩
     cbv;have h := ret_some h;subst h;exact ⟨_, rfl, .e rfl (.e rfl (.e rfl (.e rfl (.z)))), rfl, hO⟩
    cbv;have h := ret_some h;subst h;exact ⟨_, _, rfl, ⟨rfl, rfl, hO⟩, .e rfl (.e rfl (.e rfl (.z))), rfl⟩
   ·exact .e rfl (.e rfl (.e rfl (.e rfl (.z))))
   clear hx
   rcases s10 with y13 | y16
   ·rintro e l H ⟨rfl, rfl, hO⟩;cbv;refine n_idx hE Encs.eGGuard_eq h fun x14 h => ?_;cbv;refine n_call hE (g := fun r15 => .int .i64 r15) h (fun r15 hx => c37 N x14.Cond r15 hx) (.refl _) fun r15 h => ?_;cbv;refine n_br hE h (fun hc h => ?_) (fun hc h => ?_)
    ·cbv;have h := ret_some h;subst h;exact ⟨_, _, rfl, ⟨rfl, rfl, hO⟩, .e rfl (.z), rfl⟩
    cbv;have h := ret_some h;subst h;exact ⟨_, rfl, .e rfl (.e rfl (.e rfl (.z))), rfl, hO⟩
   rintro e l H ⟨rfl, rfl, hO⟩;cbv;have h := ret_some h;subst h;exact ⟨_, _, rfl, ⟨rfl, rfl, hO⟩, .e rfl (.z), rfl⟩
  cbv;have h := ret_some h;subst h;exact ⟨_, _, rfl, ⟨rfl, rfl, hO⟩, .z, rfl⟩
 ·exact .e rfl (.e rfl (.e rfl (.z)))
 clear hx
 rcases s2 with y17 | y18
 ·rintro e l H ⟨rfl, rfl, hO⟩;cbv;have h := ret_some h;subst h;exact hK _ _ _ hO (.refl _)
 rintro e l H ⟨rfl, rfl, hO⟩;cbv;have h := ret_some h;subst h;exact hK _ _ _ hO (.refl _)
def cf104 : Cf := ⟨[], [(9, 8)], [], [], [], []⟩
theorem c104 (N : Nat) (x_l : List Int) (x_scopes : Int) (r : Int) (h : ref23_unique N x_l x_scopes = some r) : CallP Try.prog 104 [.sl (Ar.lst (V.int .i64) x_l) .ro, .int .i64 x_scopes] (.int .i64 r) := by
 unfold ref23_unique at h
 refine callP_of_spec cf104 okP Try.func104 (by rfl) (by kernel_rfl) Try.call104 Try.ntmps104 (by rfl) (by rfl) ?_;intro E H0 K hE hK
 have hO : Own Eq H0 [] H0 := .start stable_eq rfl
 cbv;obtain ⟨s2, hx, h⟩ := bind_some h;refine n_loopN cf104 hE okP (fun s1 => [(0, .v (.sl (Ar.lst (V.int .i64) x_l) .ro)), (1, .v (.int .i64 x_scopes)), (5, .v (.int .i64 s1))]) (fun s1 H1 => Own Eq H0 [] H1) (fun x e l H1 => match (generalizing := false) x with | .inl y => e = .exit 0 ∧ l = [] ∧ Own Eq H0 [] H1 | .inr y => e = .ret ∧ l = [(4, .v (.int .i64 y))] ∧ Own Eq H0 [] H1) (by kernel_rfl) ?_ hx ?_ hO ?_
 ·intro s1 H o hO h;clear hx;cbv;refine n_ln hE ?_;cbv;refine n_br hE h (fun hc h => ?_) (fun hc h => ?_)
  ·cbv;refine n_idx hE (fun _ => rfl) h fun x3 h => ?_;cbv;refine n_call hE (g := fun r4 => .bool r4) h (fun r4 hx => c65 N x3 (Ar.ar .sub .i64 x_scopes 1) r4 hx) (.refl _) fun r4 h => ?_;cbv;refine n_br hE h (fun hc h => ?_) (fun hc h => ?_)
   ·cbv;have h := ret_some h;subst h;exact ⟨_, _, rfl, ⟨rfl, rfl, hO⟩, .e rfl (.z), rfl⟩
   cbv;obtain ⟨s6, hx, h⟩ := bind_some h;refine n_loopN cf104 hE okP (fun s5 => [(0, .v (.sl (Ar.lst (V.int .i64) x_l) .ro)), (1, .v (.int .i64 x_scopes)), (5, .v (.int .i64 s1)), (6, .v (.int .i64 s5))]) (fun s5 H1 => Own Eq H0 [] H1) (fun x e l H1 => match (generalizing := false) x with | .inl y => e = .exit 2 ∧ l = [(0, .v (.sl (Ar.lst (V.int .i64) x_l) .ro)), (1, .v (.int .i64 x_scopes)), (5, .v (.int .i64 s1))] ∧ Own Eq H0 [] H1 | .inr y => e = .ret ∧ l = [(4, .v (.int .i64 7))] ∧ Own Eq H0 [] H1) (by kernel_rfl) ?_ hx ?_ hO ?_
   ·intro s5 H o hO h;clear hx;cbv;refine n_br hE h (fun hc h => ?_) (fun hc h => ?_)
    ·cbv;refine n_idx hE (fun _ => rfl) h fun x7 h => ?_;cbv;refine n_idx hE (fun _ => rfl) h fun x8 h => ?_;cbv;refine n_br hE h (fun hc h => ?_) (fun hc h => ?_)
     ·cbv;have h := ret_some h;subst h;exact ⟨_, _, rfl, ⟨rfl, rfl, hO⟩, .e rfl (.z), rfl⟩
     cbv;have h := ret_some h;subst h;exact ⟨_, rfl, .e rfl (.e rfl (.e rfl (.e rfl (.z)))), rfl, hO⟩
    cbv;have h := ret_some h;subst h;exact ⟨_, _, rfl, ⟨rfl, rfl, hO⟩, .e rfl (.e rfl (.e rfl (.z))), rfl⟩
   ·exact .e rfl (.e rfl (.e rfl (.e rfl (.z))))
   clear hx
   rcases s6 with y9 | y10
   ·rintro e l H ⟨rfl, rfl, hO⟩;cbv;have h := ret_some h;subst h;exact ⟨_, rfl, .e rfl (.e rfl (.e rfl (.z))), rfl, hO⟩
   rintro e l H ⟨rfl, rfl, hO⟩;cbv;have h := ret_some h;subst h;exact ⟨_, _, rfl, ⟨rfl, rfl, hO⟩, .e rfl (.z), rfl⟩
  cbv;have h := ret_some h;subst h;exact ⟨_, _, rfl, ⟨rfl, rfl, hO⟩, .z, rfl⟩
 ·exact .e rfl (.e rfl (.e rfl (.z)))
 clear hx
 rcases s2 with y11 | y12
 ·rintro e l H ⟨rfl, rfl, hO⟩;cbv;have h := ret_some h;subst h;exact hK _ _ _ hO (.refl _)
 rintro e l H ⟨rfl, rfl, hO⟩;cbv;have h := ret_some h;subst h;exact hK _ _ _ hO (.refl _)
def cf89 : Cf := ⟨[], [(10, 6)], [], [], [], []⟩
theorem c89 (N : Nat) (x_a : GAutomaton) (x_x : GEdge) (r : Int) (h : ref23_lists N x_a x_x = some r) : CallP Try.prog 89 [.agg [.int .i64 x_a.Vars, .int .i64 x_a.Scopes, .sl (Ar.lst Encs.eGState x_a.States) .ro, .sl (Ar.lst Encs.eGEdge x_a.Edges) .ro], .agg [.int .i64 x_x.From, .int .i64 x_x.To, .int .i64 x_x.Var, .int .i64 x_x.Typ, .int .i64 x_x.Cond.Op, .sl (Ar.lst Encs.eGExpr x_x.Cond.Args) .ro, .int .i64 x_x.Cond.Var, .int .i64 x_x.Cond.Field, .int .i64 x_x.Cond.Kind, .int .i64 x_x.Cond.Value.Kind, .int .i64 x_x.Cond.Value.Num, .str x_x.Cond.Value.Text, .sl (Ar.lst (V.int .i64) x_x.Opens) .ro, .sl (Ar.lst (V.int .i64) x_x.Closes) .ro, .sl (Ar.lst Encs.eGExpr x_x.Checks) .ro, .sl (Ar.lst Encs.eGLimit x_x.Limits) .ro, .sl (Ar.lst (V.int .i64) x_x.Inside) .ro]] (.int .i64 r) := by
 unfold ref23_lists at h
 refine callP_of_spec cf89 okP Try.func89 (by rfl) (by kernel_rfl) Try.call89 Try.ntmps89 (by rfl) (by rfl) ?_;intro E H0 K hE hK
 have hO : Own Eq H0 [] H0 := .start stable_eq rfl
 cbv;replace hO := hO.tl0 (t := .nil) rfl;obtain ⟨s3, hx, h⟩ := bind_some h;refine n_loopG cf89 hE okP (γ := Tail) (fun s1 g => [(2, .v (.eref [.int .i64 x_a.Vars, .int .i64 x_a.Scopes, .sl (Ar.lst Encs.eGState x_a.States) .ro, .sl (Ar.lst Encs.eGEdge x_a.Edges) .ro] 0)), (3, .v (.eref [.int .i64 x_x.From, .int .i64 x_x.To, .int .i64 x_x.Var, .int .i64 x_x.Typ, .int .i64 x_x.Cond.Op, .sl (Ar.lst Encs.eGExpr x_x.Cond.Args) .ro, .int .i64 x_x.Cond.Var, .int .i64 x_x.Cond.Field, .int .i64 x_x.Cond.Kind, .int .i64 x_x.Cond.Value.Kind, .int .i64 x_x.Cond.Value.Num, .str x_x.Cond.Value.Text, .sl (Ar.lst (V.int .i64) x_x.Opens) .ro, .sl (Ar.lst (V.int .i64) x_x.Closes) .ro, .sl (Ar.lst Encs.eGExpr x_x.Checks) .ro, .sl (Ar.lst Encs.eGLimit x_x.Limits) .ro, .sl (Ar.lst (V.int .i64) x_x.Inside) .ro] 0)), (5, .v (.sl (Ar.lst (V.int .i64) s1.1) g)), (6, .v (.int .i64 s1.2))]) (fun s1 g H1 => Appn g ∧ Own Eq H0 [.tl g] H1) (fun x e l H1 => ∃ u1 : Tail, Appn u1 ∧ e = .exit 0 ∧ l = [(2, .v (.eref [.int .i64 x_a.Vars, .int .i64 x_a.Scopes, .sl (Ar.lst Encs.eGState x_a.States) .ro, .sl (Ar.lst Encs.eGEdge x_a.Edges) .ro] 0)), (3, .v (.eref [.int .i64 x_x.From, .int .i64 x_x.To, .int .i64 x_x.Var, .int .i64 x_x.Typ, .int .i64 x_x.Cond.Op, .sl (Ar.lst Encs.eGExpr x_x.Cond.Args) .ro, .int .i64 x_x.Cond.Var, .int .i64 x_x.Cond.Field, .int .i64 x_x.Cond.Kind, .int .i64 x_x.Cond.Value.Kind, .int .i64 x_x.Cond.Value.Num, .str x_x.Cond.Value.Text, .sl (Ar.lst (V.int .i64) x_x.Opens) .ro, .sl (Ar.lst (V.int .i64) x_x.Closes) .ro, .sl (Ar.lst Encs.eGExpr x_x.Checks) .ro, .sl (Ar.lst Encs.eGLimit x_x.Limits) .ro, .sl (Ar.lst (V.int .i64) x_x.Inside) .ro] 0)), (5, .v (.sl (Ar.lst (V.int .i64) x) u1))] ∧ Own Eq H0 [.tl u1] H1) (by kernel_rfl) ?_ .nil hx ?_ ?_ ?_
 ·rintro s1 t2 H o ⟨ht2, hO⟩ h;clear hx;cbv;refine n_ln hE ?_;cbv;refine n_br hE h (fun hc h => ?_) (fun hc h => ?_)
  ·cbv;refine n_idx hE Encs.eGLimit_eq h fun x4 h => ?_;cbv;refine n_appn (f := (V.int .i64)) hE (fun _ => rfl) (by decide) hO 0 rfl ht2 (l := s1.1) (m := [x4.Scope]) (.refl _) (.lstc (.refl _) (.lst0)) h fun l6 t5 H hO ht5 h => ?_;cbv;have h := ret_some h;subst h;exact ⟨_, t5, rfl, .e rfl (.e rfl (.e rfl (.e rfl (.z)))), rfl, ht5, hO⟩
  cbv;have h := ret_some h;subst h;exact ⟨_, _, rfl, ⟨t2, ht2, rfl, rfl, hO⟩, .e rfl (.e rfl (.e rfl (.z))), rfl⟩
 ·exact .e rfl (.e rfl (.v (.slt _ (.lst0)) (.e rfl (.z))))
 ·exact ⟨trivial, hO⟩
 clear hx;rintro e l H ⟨t7, ht7, rfl, rfl, hO⟩;cbv;obtain ⟨s9, hx, h⟩ := bind_some h;refine n_loopN cf89 hE okP (fun s8 => [(2, .v (.eref [.int .i64 x_a.Vars, .int .i64 x_a.Scopes, .sl (Ar.lst Encs.eGState x_a.States) .ro, .sl (Ar.lst Encs.eGEdge x_a.Edges) .ro] 0)), (3, .v (.eref [.int .i64 x_x.From, .int .i64 x_x.To, .int .i64 x_x.Var, .int .i64 x_x.Typ, .int .i64 x_x.Cond.Op, .sl (Ar.lst Encs.eGExpr x_x.Cond.Args) .ro, .int .i64 x_x.Cond.Var, .int .i64 x_x.Cond.Field, .int .i64 x_x.Cond.Kind, .int .i64 x_x.Cond.Value.Kind, .int .i64 x_x.Cond.Value.Num, .str x_x.Cond.Value.Text, .sl (Ar.lst (V.int .i64) x_x.Opens) .ro, .sl (Ar.lst (V.int .i64) x_x.Closes) .ro, .sl (Ar.lst Encs.eGExpr x_x.Checks) .ro, .sl (Ar.lst Encs.eGLimit x_x.Limits) .ro, .sl (Ar.lst (V.int .i64) x_x.Inside) .ro] 0)), (7, .v (.sl (Ar.lst Encs.eLI ([x_x.Opens, x_x.Closes, x_x.Inside, s3])) .ro)), (8, .v (.int .i64 s8))]) (fun s8 H1 => Own Eq H0 [.tl t7] H1) (fun x e l H1 => match (generalizing := false) x with | .inl y => e = .exit 2 ∧ l = [(3, .v (.eref [.int .i64 x_x.From, .int .i64 x_x.To, .int .i64 x_x.Var, .int .i64 x_x.Typ, .int .i64 x_x.Cond.Op, .sl (Ar.lst Encs.eGExpr x_x.Cond.Args) .ro, .int .i64 x_x.Cond.Var, .int .i64 x_x.Cond.Field, .int .i64 x_x.Cond.Kind, .int .i64 x_x.Cond.Value.Kind, .int .i64 x_x.Cond.Value.Num, .str x_x.Cond.Value.Text, .sl (Ar.lst (V.int .i64) x_x.Opens) .ro, .sl (Ar.lst (V.int .i64) x_x.Closes) .ro, .sl (Ar.lst Encs.eGExpr x_x.Checks) .ro, .sl (Ar.lst Encs.eGLimit x_x.Limits) .ro, .sl (Ar.lst (V.int .i64) x_x.Inside) .ro] 0))] ∧ Own Eq H0 [.tl t7] H1 | .inr y => e = .ret ∧ l = [(4, .v (.int .i64 y))] ∧ Own Eq H0 [.tl t7] H1) (by kernel_rfl) ?_ hx ?_ hO ?_
 ·intro s8 H o hO h;clear hx;cbv;refine n_ln hE ?_;cbv;refine n_br hE h (fun hc h => ?_) (fun hc h => ?_)
  ·cbv;refine n_idx hE Encs.eLI_eq h fun x10 h => ?_;cbv;refine n_call hE (g := fun r11 => .int .i64 r11) h (fun r11 hx => c104 N x10 x_a.Scopes r11 hx) (.refl _) fun r11 h => ?_;cbv;refine n_br hE h (fun hc h => ?_) (fun hc h => ?_)
   ·cbv;have h := ret_some h;subst h;exact ⟨_, _, rfl, ⟨rfl, rfl, hO⟩, .e rfl (.z), rfl⟩
   cbv;have h := ret_some h;subst h;exact ⟨_, rfl, .e rfl (.e rfl (.e rfl (.e rfl (.z)))), rfl, hO⟩
  cbv;have h := ret_some h;subst h;exact ⟨_, _, rfl, ⟨rfl, rfl, hO⟩, .e rfl (.z), rfl⟩
 ·exact .e rfl (.e rfl (.v (.sl _ (.lstc (.eq (Encs.eLI_eq x_x.Opens) (.refl _)) (.lstc (.eq (Encs.eLI_eq x_x.Closes) (.refl _)) (.lstc (.eq (Encs.eLI_eq x_x.Inside) (.refl _)) (.lstc (.eq (Encs.eLI_eq s3) (.ro _ _)) (.lst0)))))) (.e rfl (.z))))
 clear hx
 rcases s9 with y12 | y19
 ·rintro e l H ⟨rfl, rfl, hO⟩;cbv;obtain ⟨s14, hx, h⟩ := bind_some h;refine n_loopN cf89 hE okP (fun s13 => [(3, .v (.eref [.int .i64 x_x.From, .int .i64 x_x.To, .int .i64 x_x.Var, .int .i64 x_x.Typ, .int .i64 x_x.Cond.Op, .sl (Ar.lst Encs.eGExpr x_x.Cond.Args) .ro, .int .i64 x_x.Cond.Var, .int .i64 x_x.Cond.Field, .int .i64 x_x.Cond.Kind, .int .i64 x_x.Cond.Value.Kind, .int .i64 x_x.Cond.Value.Num, .str x_x.Cond.Value.Text, .sl (Ar.lst (V.int .i64) x_x.Opens) .ro, .sl (Ar.lst (V.int .i64) x_x.Closes) .ro, .sl (Ar.lst Encs.eGExpr x_x.Checks) .ro, .sl (Ar.lst Encs.eGLimit x_x.Limits) .ro, .sl (Ar.lst (V.int .i64) x_x.Inside) .ro] 0)), (10, .v (.int .i64 s13))]) (fun s13 H1 => Own Eq H0 [.tl t7] H1) (fun x e l H1 => match (generalizing := false) x with | .inl y => e = .exit 4 ∧ l = [] ∧ Own Eq H0 [.tl t7] H1 | .inr y => e = .ret ∧ l = [(4, .v (.int .i64 2))] ∧ Own Eq H0 [.tl t7] H1) (by kernel_rfl) ?_ hx ?_ hO ?_
  ·intro s13 H o hO h;clear hx;cbv;refine n_ln hE ?_;cbv;refine n_br hE h (fun hc h => ?_) (fun hc h => ?_)
   ·cbv;refine n_idx hE Encs.eGLimit_eq h fun x15 h => ?_;cbv;refine n_call hE (g := fun r16 => .bool r16) h (fun r16 hx => c65 N x15.Span 1099511627776 r16 hx) (.refl _) fun r16 h => ?_;cbv;refine n_br hE h (fun hc h => ?_) (fun hc h => ?_)
    ·cbv;have h := ret_some h;subst h;exact ⟨_, _, rfl, ⟨rfl, rfl, hO⟩, .e rfl (.z), rfl⟩
    cbv;have h := ret_some h;subst h;exact ⟨_, rfl, .e rfl (.e rfl (.z)), rfl, hO⟩
   cbv;have h := ret_some h;subst h;exact ⟨_, _, rfl, ⟨rfl, rfl, hO⟩, .z, rfl⟩
  ·exact .e rfl (.e rfl (.z))
  clear hx
  rcases s14 with y17 | y18
  ·rintro e l H ⟨rfl, rfl, hO⟩;cbv;have h := ret_some h;subst h;exact hK _ _ _ hO (.refl _)
  rintro e l H ⟨rfl, rfl, hO⟩;cbv;have h := ret_some h;subst h;exact hK _ _ _ hO (.refl _)
 rintro e l H ⟨rfl, rfl, hO⟩;cbv;have h := ret_some h;subst h;exact hK _ _ _ hO (.refl _)
end Go.Ab

