/- GSCo4 -/
import Derived.Test.YtbjdkpckplopdaaGreatT35
set_option linter.all false

namespace Go.Ab
open Go.RowKit Go.Proofs
variable [Ar] [Encs]
set_option maxRecDepth 100000
def cf33 : Cf := ⟨[4, 3000042, 8000042, 9000042], [(11, 8), (17, 6), (18, 16)], [], [], [], []⟩
theorem c33 (N : Nat) : ∀ (n : Nat) (x_x : Gexpr_evaluator) (x_e : GExpr) (r : (GValue × Int)), expr_evaluator_eval N n x_x x_e = some r → CallP Tryz.prog 33 [.agg [.sl (Ar.lst Encs.eLGEvent x_x.env.Vars) .ro, .int .i64 x_x.own, .int .i64 x_x.event.Source, .int .i64 x_x.event.Seq, .int .i64 x_x.event.Typ, .int .i64 x_x.event.Time, .sl (Ar.lst Encs.eGValue x_x.event.Values) .ro, .fmap fmK89 fmX89], .agg [.int .i64 x_e.Op, .sl (Ar.lst Encs.eGExpr x_e.Args) .ro, .int .i64 x_e.Var, .int .i64 x_e.Field, .int .i64 x_e.Kind, .int .i64 x_e.Value.Kind, .int .i64 x_e.Value.Num, .str x_e.Value.Text]] (.tup [.agg [.int .i64 r.1.Kind, .int .i64 r.1.Num, .str r.1.Text], .int .i64 r.2]) := by
 intro n
 induction n with
 | zero => intro x_x x_e r h; cases h
 | succ n ih =>
 intro x_x x_e r h
 unfold expr_evaluator_eval at h
 refine callP_of_spec cf33 okP Tryz.func33 (by rfl) (by kernel_rfl) Tryz.call33 Tryz.ntmps33 (by rfl) (by rfl) ?_;intro E H0 K hE hK
 have hO : Own Eq H0 [] H0 := .start stable_eq rfl
 cbv;refine n_alloc hE hO fun b1 H hO => ?_;cbv;refine n_ln hE ?_;cbv;refine n_br hE h (fun hc h => ?_) (fun hc h => ?_)
 ·cbv;refine n_call hE (g := fun r2 => .tup [.agg [.int .i64 r2.1.Kind, .int .i64 r2.1.Num, .str r2.1.Text], .int .i64 r2.2]) h (fun r2 hx => c60 N x_x x_e r2 hx) (.refl _) fun r2 h => ?_;cbv;refine n_store hE hO 0 rfl rfl fun H hO => ?_;cbv;refine n_load hE hO 0 rfl ?_;cbv;have h := ret_some h;subst h;exact hK _ _ _ hO (.refl _)
 ·cbv;refine n_ln hE ?_;cbv;replace hO := hO.tl0 (t := .nil) rfl;replace hO := hO.tl0 (t := .nil) rfl;obtain ⟨s6, hx, h⟩ := bind_some h;refine n_loopG cf33 hE okP (γ := Tail × Tail) (fun s3 g => [(2, .v (.eref [.sl (Ar.lst Encs.eLGEvent x_x.env.Vars) .ro, .int .i64 x_x.own, .int .i64 x_x.event.Source, .int .i64 x_x.event.Seq, .int .i64 x_x.event.Typ, .int .i64 x_x.event.Time, .sl (Ar.lst Encs.eGValue x_x.event.Values) .ro, .fmap fmK89 fmX89] 0)), (3, .v (.eref [.int .i64 x_e.Op, .sl (Ar.lst Encs.eGExpr x_e.Args) .ro, .int .i64 x_e.Var, .int .i64 x_e.Field, .int .i64 x_e.Kind, .int .i64 x_e.Value.Kind, .int .i64 x_e.Value.Num, .str x_e.Value.Text] 0)), (4, .v (.ref b1 0)), (6, .v (.sl (Ar.lst Encs.eGValue s3.1) g.2)), (7, .v (.sl (Ar.lst (V.int .i64) s3.2.1) g.1)), (23, .v (.sl (Ar.lst Encs.eGExpr x_e.Args) .ro)), (24, .v (.int .i64 (Ar.len x_e.Args))), (25, .v (.int .i64 s3.2.2))]) (fun s3 g H1 => Appn g.1 ∧ Appn g.2 ∧ Own Eq H0 [.tl g.1, .tl g.2, .blk b1 (.cells [.int .i64 0, .int .i64 0, .str (⟨#[]⟩)])] H1) (fun x e l H1 => match (generalizing := false) x with | .inl y => ∃ u1 : Tail, Appn u1 ∧ ∃ u2 : Tail, Appn u2 ∧ e = .exit 0 ∧ l = [(2, .v (.eref [.sl (Ar.lst Encs.eLGEvent x_x.env.Vars) .ro, .int .i64 x_x.own, .int .i64 x_x.event.Source, .int .i64 x_x.event.Seq, .int .i64 x_x.event.Typ, .int .i64 x_x.event.Time, .sl (Ar.lst Encs.eGValue x_x.event.Values) .ro, .fmap fmK89 fmX89] 0)), (3, .v (.eref [.int .i64 x_e.Op, .sl (Ar.lst Encs.eGExpr x_e.Args) .ro, .int .i64 x_e.Var, .int .i64 x_e.Field, .int .i64 x_e.Kind, .int .i64 x_e.Value.Kind, .int .i64 x_e.Value.Num, .str x_e.Value.Text] 0)), (4, .v (.ref b1 0)), (6, .v (.sl (Ar.lst Encs.eGValue y.1) u2)), (7, .v (.sl (Ar.lst (V.int .i64) y.2) u1))] ∧ Own Eq H0 [.tl u1, .tl u2, .blk b1 (.cells [.int .i64 0, .int .i64 0, .str (⟨#[]⟩)])] H1 | .inr y => ∃ u1 : Tail, Appn u1 ∧ ∃ u2 : Tail, Appn u2 ∧ e = .ret ∧ l = [(4, .v (.ref b1 0)), (5, .v (.int .i64 y))] ∧ Own Eq H0 [.tl u1, .tl u2, .blk b1 (.cells [.int .i64 0, .int .i64 0, .str (⟨#[]⟩)])] H1) (by kernel_rfl) ?_ (⟨.nil, .nil⟩) hx ?_ ?_ ?_
  ·rintro s3 ⟨t4, t5⟩ H o ⟨ht4, ht5, hO⟩ h;clear hx;cbv;refine n_br hE h (fun hc h => ?_) (fun hc h => ?_)
   ·cbv;refine n_idx hE Encs.eGExpr_eq h fun x7 h => ?_;cbv;refine n_call hE (g := fun r8 => .tup [.agg [.int .i64 r8.1.Kind, .int .i64 r8.1.Num, .str r8.1.Text], .int .i64 r8.2]) h (fun r8 hx => ih x_x x7 r8 hx) (.refl _) fun r8 h => ?_;cbv;refine n_br hE h (fun hc h => ?_) (fun hc h => ?_)
    ·cbv;refine n_store hE hO 2 rfl rfl fun H hO => ?_;cbv;have h := ret_some h;subst h;exact ⟨_, _, rfl, ⟨t4, ht4, t5, ht5, rfl, rfl, hO⟩, .e rfl (.e rfl (.z)), rfl⟩
    ·cbv;refine n_takeT hE hO 1 rfl ht5 fun H hO => ?_;cbv;refine n_need hE trivial ?_;cbv;refine n_appq (f := Encs.eGValue) hE sz_GValue (by decide) (l := s3.1) (m := [r8.1]) (.refl _) (.lstc (.eq (Encs.eGValue_eq r8.1) (.refl _)) (.lst0)) h fun l9 h => ?_;cbv;refine n_nameT hE hO 1 rfl fun t10 H hO ht10 => ?_;cbv;refine n_appn (f := (V.int .i64)) hE (fun _ => rfl) (by decide) hO 0 rfl ht4 (l := s3.2.1) (m := [r8.1.Kind]) (.refl _) (.lstc (.refl _) (.lst0)) h fun l12 t11 H hO ht11 h => ?_;cbv;have h := ret_some h;subst h;exact ⟨_, ⟨t11, t10⟩, rfl, .e rfl (.e rfl (.e rfl (.e rfl (.e rfl (.e rfl (.e rfl (.e rfl (.z)))))))), rfl, ht11, ht10, hO⟩
   ·cbv;have h := ret_some h;subst h;exact ⟨_, _, rfl, ⟨t4, ht4, t5, ht5, rfl, rfl, hO⟩, .e rfl (.e rfl (.e rfl (.e rfl (.e rfl (.z))))), rfl⟩
  ·exact .e rfl (.e rfl (.e rfl (.v (.slt _ (.lst0)) (.v (.slt _ (.lst0)) (.e rfl (.e rfl (.e rfl (.z))))))))
  ·exact ⟨trivial, trivial, hO⟩
  ·clear hx
   rcases s6 with y13 | y43
   ·rintro e l H ⟨t14, ht14, t15, ht15, rfl, rfl, hO⟩;cbv;refine n_call hE (g := fun r16 => .int .i64 r16) h (fun r16 hx => c61 N x_e.Op y13.2 r16 hx) (.cons (.refl _) (.cons (.ro _ _) (.refl _))) fun r16 h => ?_;cbv;refine n_br hE h (fun hc h => ?_) (fun hc h => ?_)
    ·cbv;refine n_store hE hO 2 rfl rfl fun H hO => ?_;cbv;refine n_load hE hO 2 rfl ?_;cbv;have h := ret_some h;subst h;exact hK _ _ _ hO (.refl _)
    ·cbv;refine n_br hE h (fun hc h => ?_) (fun hc h => ?_)
     ·cbv;refine n_idx hE Encs.eGValue_eq h fun x17 h => ?_;cbv;refine n_idx hE Encs.eGValue_eq h fun x18 h => ?_;cbv;refine n_call hE (g := fun r19 => .agg [.int .i64 r19.Kind, .int .i64 r19.Num, .str r19.Text]) h (fun r19 hx => c42 N (Ar.an (Ar.cmp .eql x17.Kind x18.Kind) (Ar.an (Ar.cmp .eql x17.Num x18.Num) (Ar.an (Ar.scmp .eql x17.Text x18.Text) true))) r19 hx) (.refl _) fun r19 h => ?_;cbv;refine n_store hE hO 2 rfl rfl fun H hO => ?_;cbv;refine n_load hE hO 2 rfl ?_;cbv;have h := ret_some h;subst h;exact hK _ _ _ hO (.refl _)
     ·cbv;refine n_fget hE (kt := 3) (et := 117) (z := .nilf) (by kernel_rfl) (by kernel_rfl) (by kernel_rfl) rfl ?_;cbv;refine n_br hE h (fun hc h => ?_) (fun hc h => ?_)
      ·cbv;refine n_idx hE Encs.eGValue_eq h fun x20 h => ?_;cbv;refine n_ln hE ?_;cbv;refine n_idx hE Encs.eGValue_eq h fun x21 h => ?_;cbv;refine n_callF hE (g := fun r22 => .agg [.int .i64 r22.Kind, .int .i64 r22.Num, .str r22.Text]) h (fun r22 hx => CallP.value (F := []) (C := [.eref [.func (.func 52) [] []] 0]) (c53 N x20.Num x21.Num (.func (.func 52) [] []) (fun y1 => expr_operations_1 N y1) (fun y1 r hx => CallP.value (F := []) (C := []) (c52 N y1 r hx)) r22 hx)) (.refl _) fun r22 h => ?_;cbv;refine n_store hE hO 2 rfl rfl fun H hO => ?_;cbv;refine n_load hE hO 2 rfl ?_;cbv;have h := ret_some h;subst h;exact hK _ _ _ hO (.refl _)
      ·cbv;refine n_br hE h (fun hc h => ?_) (fun hc h => ?_)
       ·cbv;refine n_idx hE Encs.eGValue_eq h fun x23 h => ?_;cbv;refine n_ln hE ?_;cbv;refine n_idx hE Encs.eGValue_eq h fun x24 h => ?_;cbv;refine n_callF hE (g := fun r25 => .agg [.int .i64 r25.Kind, .int .i64 r25.Num, .str r25.Text]) h (fun r25 hx => CallP.value (F := []) (C := [.eref [.func (.func 52) [] []] 0]) (c54 N x23.Num x24.Num (.func (.func 52) [] []) (fun y1 => expr_operations_1 N y1) (fun y1 r hx => CallP.value (F := []) (C := []) (c52 N y1 r hx)) r25 hx)) (.refl _) fun r25 h => ?_;cbv;refine n_store hE hO 2 rfl rfl fun H hO => ?_;cbv;refine n_load hE hO 2 rfl ?_;cbv;have h := ret_some h;subst h;exact hK _ _ _ hO (.refl _)
       ·cbv;refine n_br hE h (fun hc h => ?_) (fun hc h => ?_)
        ·cbv;refine n_idx hE Encs.eGValue_eq h fun x26 h => ?_;cbv;refine n_ln hE ?_;cbv;refine n_idx hE Encs.eGValue_eq h fun x27 h => ?_;cbv;refine n_call hE (g := fun r28 => .agg [.int .i64 r28.Kind, .int .i64 r28.Num, .str r28.Text]) h (fun r28 hx => c55 N x26.Num x27.Num r28 hx) (.refl _) fun r28 h => ?_;cbv;refine n_store hE hO 2 rfl rfl fun H hO => ?_;cbv;refine n_load hE hO 2 rfl ?_;cbv;have h := ret_some h;subst h;exact hK _ _ _ hO (.refl _)
        ·cbv;refine n_br hE h (fun hc h => ?_) (fun hc h => ?_)
         ·cbv;refine n_idx hE Encs.eGValue_eq h fun x29 h => ?_;cbv;refine n_ln hE ?_;cbv;refine n_idx hE Encs.eGValue_eq h fun x30 h => ?_;cbv;refine n_call hE (g := fun r31 => .agg [.int .i64 r31.Kind, .int .i64 r31.Num, .str r31.Text]) h (fun r31 hx => c56 N x29.Num x30.Num r31 hx) (.refl _) fun r31 h => ?_;cbv;refine n_store hE hO 2 rfl rfl fun H hO => ?_;cbv;refine n_load hE hO 2 rfl ?_;cbv;have h := ret_some h;subst h;exact hK _ _ _ hO (.refl _)
         ·cbv;refine n_br hE h (fun hc h => ?_) (fun hc h => ?_)
          ·cbv;refine n_idx hE Encs.eGValue_eq h fun x32 h => ?_;cbv;refine n_ln hE ?_;cbv;refine n_idx hE Encs.eGValue_eq h fun x33 h => ?_;cbv;refine n_call hE (g := fun r34 => .agg [.int .i64 r34.Kind, .int .i64 r34.Num, .str r34.Text]) h (fun r34 hx => c57 N x32.Num x33.Num r34 hx) (.refl _) fun r34 h => ?_;cbv;refine n_store hE hO 2 rfl rfl fun H hO => ?_;cbv;refine n_load hE hO 2 rfl ?_;cbv;have h := ret_some h;subst h;exact hK _ _ _ hO (.refl _)
          ·cbv;refine n_br hE h (fun hc h => ?_) (fun hc h => ?_)
           ·cbv;refine n_idx hE Encs.eGValue_eq h fun x35 h => ?_;cbv;refine n_ln hE ?_;cbv;refine n_idx hE Encs.eGValue_eq h fun x36 h => ?_;cbv;refine n_call hE (g := fun r37 => .agg [.int .i64 r37.Kind, .int .i64 r37.Num, .str r37.Text]) h (fun r37 hx => c58 N x35.Num x36.Num r37 hx) (.refl _) fun r37 h => ?_;cbv;refine n_store hE hO 2 rfl rfl fun H hO => ?_;cbv;refine n_load hE hO 2 rfl ?_;cbv;have h := ret_some h;subst h;exact hK _ _ _ hO (.refl _)
           ·cbv;refine n_br hE h (fun hc h => ?_) (fun hc h => ?_)
            ·cbv;refine n_idx hE Encs.eGValue_eq h fun x38 h => ?_;cbv;refine n_ln hE ?_;cbv;refine n_idx hE Encs.eGValue_eq h fun x39 h => ?_;cbv;refine n_call hE (g := fun r40 => .agg [.int .i64 r40.Kind, .int .i64 r40.Num, .str r40.Text]) h (fun r40 hx => c59 N x38.Num x39.Num r40 hx) (.refl _) fun r40 h => ?_;cbv;refine n_store hE hO 2 rfl rfl fun H hO => ?_;cbv;refine n_load hE hO 2 rfl ?_;cbv;have h := ret_some h;subst h;exact hK _ _ _ hO (.refl _)
            ·cbv;refine n_idx hE Encs.eGValue_eq h fun x41 h => ?_;cbv;refine n_ln hE ?_;cbv;refine n_idx hE Encs.eGValue_eq h fun x42 h => ?_;cbv
             cases h
   ·rintro e l H ⟨t44, ht44, t45, ht45, rfl, rfl, hO⟩;cbv;refine n_load hE hO 2 rfl ?_;cbv;have h := ret_some h;subst h;exact hK _ _ _ hO (.refl _)
def cf11 : Cf := ⟨[8], [], [], [2000004], [], []⟩
set_option maxHeartbeats 2000000 in
theorem c11 (N : Nat) (x_e : GExpr) (x_env : GEnv) (x_own : Int) (x_event : GEvent) (r : (GValue × Int)) (h : expr_Eval N x_e x_env x_own x_event = some r) : CallP Tryz.prog 11 [.agg [.int .i64 x_e.Op, .sl (Ar.lst Encs.eGExpr x_e.Args) .ro, .int .i64 x_e.Var, .int .i64 x_e.Field, .int .i64 x_e.Kind, .int .i64 x_e.Value.Kind, .int .i64 x_e.Value.Num, .str x_e.Value.Text], .agg [.sl (Ar.lst Encs.eLGEvent x_env.Vars) .ro], .int .i64 x_own, .agg [.int .i64 x_event.Source, .int .i64 x_event.Seq, .int .i64 x_event.Typ, .int .i64 x_event.Time, .sl (Ar.lst Encs.eGValue x_event.Values) .ro]] (.tup [.agg [.int .i64 r.1.Kind, .int .i64 r.1.Num, .str r.1.Text], .int .i64 r.2]) := by
 unfold expr_Eval at h
 refine callP_of_spec cf11 okP Tryz.func11 (by rfl) (by kernel_rfl) Tryz.call11 Tryz.ntmps11 (by rfl) (by rfl) ?_;intro E H0 K hE hK
 have hO : Own Eq H0 [] H0 := .start stable_eq rfl
 cbv;refine n_alloc hE hO fun b1 H hO => ?_;cbv;refine n_call hE (g := fun r2 => .int .i64 r2) h (fun r2 hx => c9 N x_e r2 hx) (.refl _) fun r2 h => ?_;cbv;refine n_br hE h (fun hc h => ?_) (fun hc h => ?_)
 ·cbv;refine n_store hE hO 0 rfl rfl fun H hO => ?_;cbv;refine n_load hE hO 0 rfl ?_;cbv;have h := ret_some h;subst h;exact hK _ _ _ hO (.refl _)
 ·cbv;obtain ⟨s3, hx, h⟩ := bind_some h;refine n_join cf11 hE okP (fun e l H1 => e = .normal ∧ l = [(8, .v (.ref b1 0)), (9, .v (.int .i64 s3.1))] ∧ Own Eq H0 [.blk b1 (.cells [.int .i64 s3.2.Kind, .int .i64 s3.2.Num, .str s3.2.Text])] H1) (by kernel_rfl) ?_ ?_
  ·clear h;have h := hx;clear hx;cbv
   repeat' first | refine And.intro ?_ ?_ | (refine n_callFM hE (c32 N  () rfl) (.refl _) hO fun m5 H hO => ?_; cbv) | (refine n_callB hE (g := fun r6 => .tup [.agg [.int .i64 r6.1.Kind, .int .i64 r6.1.Num, .str r6.1.Text], .int .i64 r6.2]) h (fun r6 hx => c33 N N (⟨x_env, x_own, x_event, ()⟩ : Gexpr_evaluator) x_e r6 hx) (fun _ => .tup2 (.agg rfl) (.int _ _)) (.agg (.le (.refl _) (.le (.refl _) (.le (.refl _) (.le (.refl _) (.le (.refl _) (.le (.refl _) (.le (.refl _) (.fm (hO.get 0 rfl) (.nil))))))))) (.le (.refl _) (.nil))) fun r6 h => ?_; cbv) | (refine n_store hE hO 1 rfl rfl fun H hO => ?_; cbv) | (have h := ret_some h; subst h; exact ⟨_, ⟨rfl, rfl, hO.tail⟩, .e rfl (.e rfl (.z)), rfl⟩)
  ·clear hx;rintro e l H ⟨rfl, rfl, hO⟩;cbv;refine n_load hE hO 0 rfl ?_;cbv;have h := ret_some h;subst h;exact hK _ _ _ hO (.refl _)
def cf34 : Cf := ⟨[], [], [], [], [], []⟩
theorem c34 (N : Nat) (x_s1 : List (List GEvent)) (x_s2 : List (List GEvent)) (v_eq : V) (x_eq : (List GEvent) → (List GEvent) → Option Bool) (h_eq : ∀ y1 y2 q, x_eq y1 y2 = some q → CallVP Tryz.prog v_eq [.sl (Ar.lst Encs.eGEvent y1) .ro, .sl (Ar.lst Encs.eGEvent y2) .ro] (.bool q)) (r : Bool) (h : slices_EqualFunc_LEvent_LEvent_LEvent_LEvent N x_s1 x_s2 x_eq = some r) : CallP Tryz.prog 34 [.sl (Ar.lst Encs.eLGEvent x_s1) .ro, .sl (Ar.lst Encs.eLGEvent x_s2) .ro, v_eq] (.bool r) := by
 unfold slices_EqualFunc_LEvent_LEvent_LEvent_LEvent at h
 refine callP_of_spec cf34 okP Tryz.func34 (by rfl) (by kernel_rfl) Tryz.call34 Tryz.ntmps34 (by rfl) (by rfl) ?_;intro E H0 K hE hK
 have hO : Own Eq H0 [] H0 := .start stable_eq rfl
 cbv;refine n_ln hE ?_;cbv;refine n_ln hE ?_;cbv;refine n_br hE h (fun hc h => ?_) (fun hc h => ?_)
 ·cbv;have h := ret_some h;subst h;exact hK _ _ _ hO (.refl _)
 ·cbv;refine n_ln hE ?_;cbv;obtain ⟨s2, hx, h⟩ := bind_some h;refine n_loopN cf34 hE okP (fun s1 => [(1, .v (.sl (Ar.lst Encs.eLGEvent x_s2) .ro)), (2, .v (v_eq)), (15, .v (.sl (Ar.lst Encs.eLGEvent x_s1) .ro)), (16, .v (.int .i64 (Ar.len x_s1))), (17, .v (.int .i64 s1))]) (fun s1 H1 => Own Eq H0 [] H1) (fun x e l H1 => match (generalizing := false) x with | .inl y => e = .exit 0 ∧ l = [] ∧ Own Eq H0 [] H1 | .inr y => e = .ret ∧ l = [(6, .b false)] ∧ Own Eq H0 [] H1) (by kernel_rfl) ?_ hx ?_ hO ?_
  ·intro s1 H o hO h;clear hx;cbv;refine n_br hE h (fun hc h => ?_) (fun hc h => ?_)
   ·cbv;refine n_idx hE Encs.eLGEvent_eq h fun x3 h => ?_;cbv;refine n_idx hE Encs.eLGEvent_eq h fun x4 h => ?_;cbv;refine n_callF hE (g := fun r5 => .bool r5) h (fun r5 hx => h_eq x3 x4 r5 hx) (.refl _) fun r5 h => ?_;cbv;refine n_br hE h (fun hc h => ?_) (fun hc h => ?_)
    ·cbv;have h := ret_some h;subst h;exact ⟨_, _, rfl, ⟨rfl, rfl, hO⟩, .b rfl (.z), rfl⟩
    ·cbv;have h := ret_some h;subst h;exact ⟨_, rfl, .e rfl (.e rfl (.e rfl (.e rfl (.e rfl (.z))))), rfl, hO⟩
   ·cbv;have h := ret_some h;subst h;exact ⟨_, _, rfl, ⟨rfl, rfl, hO⟩, .z, rfl⟩
  ·exact .e rfl (.e rfl (.e rfl (.e rfl (.e rfl (.z)))))
  ·clear hx
   rcases s2 with y6 | y7
   ·rintro e l H ⟨rfl, rfl, hO⟩;cbv;have h := ret_some h;subst h;exact hK _ _ _ hO (.refl _)
   ·rintro e l H ⟨rfl, rfl, hO⟩;cbv;have h := ret_some h;subst h;exact hK _ _ _ hO (.refl _)
def cf36 : Cf := ⟨[8], [], [], [], [], []⟩
theorem c36 (N : Nat) (x_s1 : List GEvent) (x_s2 : List GEvent) (v_eq : V) (x_eq : GEvent → GEvent → Option Bool) (h_eq : ∀ y1 y2 q, x_eq y1 y2 = some q → CallVP Tryz.prog v_eq [.agg [.int .i64 y1.Source, .int .i64 y1.Seq, .int .i64 y1.Typ, .int .i64 y1.Time, .sl (Ar.lst Encs.eGValue y1.Values) .ro], .agg [.int .i64 y2.Source, .int .i64 y2.Seq, .int .i64 y2.Typ, .int .i64 y2.Time, .sl (Ar.lst Encs.eGValue y2.Values) .ro]] (.bool q)) (r : Bool) (h : slices_EqualFunc_LEvent_LEvent_Event_Event N x_s1 x_s2 x_eq = some r) : CallP Tryz.prog 36 [.sl (Ar.lst Encs.eGEvent x_s1) .ro, .sl (Ar.lst Encs.eGEvent x_s2) .ro, v_eq] (.bool r) := by
 unfold slices_EqualFunc_LEvent_LEvent_Event_Event at h
 refine callP_of_spec cf36 okP Tryz.func36 (by rfl) (by kernel_rfl) Tryz.call36 Tryz.ntmps36 (by rfl) (by rfl) ?_;intro E H0 K hE hK
 have hO : Own Eq H0 [] H0 := .start stable_eq rfl
 cbv;refine n_ln hE ?_;cbv;refine n_ln hE ?_;cbv;refine n_br hE h (fun hc h => ?_) (fun hc h => ?_)
 ·cbv;have h := ret_some h;subst h;exact hK _ _ _ hO (.refl _)
 ·cbv;refine n_ln hE ?_;cbv;obtain ⟨s2, hx, h⟩ := bind_some h;refine n_loopN cf36 hE okP (fun s1 => [(1, .v (.sl (Ar.lst Encs.eGEvent x_s2) .ro)), (2, .v (v_eq)), (15, .v (.sl (Ar.lst Encs.eGEvent x_s1) .ro)), (16, .v (.int .i64 (Ar.len x_s1))), (17, .v (.int .i64 s1))]) (fun s1 H1 => Own Eq H0 [] H1) (fun x e l H1 => match (generalizing := false) x with | .inl y => e = .exit 0 ∧ l = [] ∧ Own Eq H0 [] H1 | .inr y => e = .ret ∧ l = [(6, .b false)] ∧ Own Eq H0 [] H1) (by kernel_rfl) ?_ hx ?_ hO ?_
  ·intro s1 H o hO h;clear hx;cbv;refine n_br hE h (fun hc h => ?_) (fun hc h => ?_)
   ·cbv;refine n_idx hE Encs.eGEvent_eq h fun x3 h => ?_;cbv;refine n_alloc hE hO fun b4 H hO => ?_;cbv;refine n_store hE hO 0 rfl rfl fun H hO => ?_;cbv;refine n_idx hE Encs.eGEvent_eq h fun x5 h => ?_;cbv;refine n_load hE hO 0 rfl ?_;cbv;refine n_callF hE (g := fun r6 => .bool r6) h (fun r6 hx => h_eq x3 x5 r6 hx) (.refl _) fun r6 h => ?_;cbv;refine n_br hE h (fun hc h => ?_) (fun hc h => ?_)
    ·cbv;have h := ret_some h;subst h;exact ⟨_, _, rfl, ⟨rfl, rfl, hO.tail⟩, .b rfl (.z), rfl⟩
    ·cbv;have h := ret_some h;subst h;exact ⟨_, rfl, .e rfl (.e rfl (.e rfl (.e rfl (.e rfl (.z))))), rfl, hO.tail⟩
   ·cbv;have h := ret_some h;subst h;exact ⟨_, _, rfl, ⟨rfl, rfl, hO⟩, .z, rfl⟩
  ·exact .e rfl (.e rfl (.e rfl (.e rfl (.e rfl (.z)))))
  ·clear hx
   rcases s2 with y7 | y8
   ·rintro e l H ⟨rfl, rfl, hO⟩;cbv;have h := ret_some h;subst h;exact hK _ _ _ hO (.refl _)
   ·rintro e l H ⟨rfl, rfl, hO⟩;cbv;have h := ret_some h;subst h;exact hK _ _ _ hO (.refl _)
def cf62 : Cf := ⟨[], [(6, 8)], [], [], [], []⟩
theorem c62 (N : Nat) (x_s1 : List GValue) (x_s2 : List GValue) (r : Bool) (h : slices_Equal_LValue_Value N x_s1 x_s2 = some r) : CallP Tryz.prog 62 [.sl (Ar.lst Encs.eGValue x_s1) .ro, .sl (Ar.lst Encs.eGValue x_s2) .ro] (.bool r) := by
 unfold slices_Equal_LValue_Value at h
 refine callP_of_spec cf62 okP Tryz.func62 (by rfl) (by kernel_rfl) Tryz.call62 Tryz.ntmps62 (by rfl) (by rfl) ?_;intro E H0 K hE hK
 have hO : Own Eq H0 [] H0 := .start stable_eq rfl
 cbv;refine n_ln hE ?_;cbv;refine n_ln hE ?_;cbv;refine n_br hE h (fun hc h => ?_) (fun hc h => ?_)
 ·cbv;have h := ret_some h;subst h;exact hK _ _ _ hO (.refl _)
 ·cbv;refine n_ln hE ?_;cbv;obtain ⟨s2, hx, h⟩ := bind_some h;refine n_loopN cf62 hE okP (fun s1 => [(0, .v (.sl (Ar.lst Encs.eGValue x_s1) .ro)), (1, .v (.sl (Ar.lst Encs.eGValue x_s2) .ro)), (12, .v (.int .i64 (Ar.len x_s1))), (13, .v (.int .i64 s1))]) (fun s1 H1 => Own Eq H0 [] H1) (fun x e l H1 => match (generalizing := false) x with | .inl y => e = .exit 0 ∧ l = [] ∧ Own Eq H0 [] H1 | .inr y => e = .ret ∧ l = [(4, .b false)] ∧ Own Eq H0 [] H1) (by kernel_rfl) ?_ hx ?_ hO ?_
  ·intro s1 H o hO h;clear hx;cbv;refine n_br hE h (fun hc h => ?_) (fun hc h => ?_)
   ·cbv;refine n_idx hE Encs.eGValue_eq h fun x3 h => ?_;cbv;refine n_idx hE Encs.eGValue_eq h fun x4 h => ?_;cbv;refine n_br hE h (fun hc h => ?_) (fun hc h => ?_)
    ·cbv;have h := ret_some h;subst h;exact ⟨_, _, rfl, ⟨rfl, rfl, hO⟩, .b rfl (.z), rfl⟩
    ·cbv;have h := ret_some h;subst h;exact ⟨_, rfl, .e rfl (.e rfl (.e rfl (.e rfl (.z)))), rfl, hO⟩
   ·cbv;have h := ret_some h;subst h;exact ⟨_, _, rfl, ⟨rfl, rfl, hO⟩, .z, rfl⟩
  ·exact .e rfl (.e rfl (.e rfl (.e rfl (.z))))
  ·clear hx
   rcases s2 with y5 | y6
   ·rintro e l H ⟨rfl, rfl, hO⟩;cbv;have h := ret_some h;subst h;exact hK _ _ _ hO (.refl _)
   ·rintro e l H ⟨rfl, rfl, hO⟩;cbv;have h := ret_some h;subst h;exact hK _ _ _ hO (.refl _)
def cf37 : Cf := ⟨[], [], [], [], [], []⟩
theorem c37 (N : Nat) (x_a : GEvent) (x_b : GEvent) (r : Bool) (h : registers_same N x_a x_b = some r) : CallP Tryz.prog 37 [.agg [.int .i64 x_a.Source, .int .i64 x_a.Seq, .int .i64 x_a.Typ, .int .i64 x_a.Time, .sl (Ar.lst Encs.eGValue x_a.Values) .ro], .agg [.int .i64 x_b.Source, .int .i64 x_b.Seq, .int .i64 x_b.Typ, .int .i64 x_b.Time, .sl (Ar.lst Encs.eGValue x_b.Values) .ro]] (.bool r) := by
 unfold registers_same at h
 refine callP_of_spec cf37 okP Tryz.func37 (by rfl) (by kernel_rfl) Tryz.call37 Tryz.ntmps37 (by rfl) (by rfl) ?_;intro E H0 K hE hK
 have hO : Own Eq H0 [] H0 := .start stable_eq rfl
 cbv;refine n_br hE h (fun hc h => ?_) (fun hc h => ?_)
 ·cbv;refine n_call hE (g := fun r1 => .bool r1) h (fun r1 hx => c62 N x_a.Values x_b.Values r1 hx) (.refl _) fun r1 h => ?_;cbv;have h := ret_some h;subst h;exact hK _ _ _ hO (.refl _)
 ·cbv;have h := ret_some h;subst h;exact hK _ _ _ hO (.refl _)
def cf35 : Cf := ⟨[], [], [], [], [], []⟩
theorem c35 (N : Nat) (x_x : List GEvent) (x_y : List GEvent) (r : Bool) (h : registers_Agree_1 N x_x x_y = some r) : CallP Tryz.prog 35 [.sl (Ar.lst Encs.eGEvent x_x) .ro, .sl (Ar.lst Encs.eGEvent x_y) .ro] (.bool r) := by
 unfold registers_Agree_1 at h
 refine callP_of_spec cf35 okP Tryz.func35 (by rfl) (by kernel_rfl) Tryz.call35 Tryz.ntmps35 (by rfl) (by rfl) ?_;intro E H0 K hE hK
 have hO : Own Eq H0 [] H0 := .start stable_eq rfl
 cbv;refine n_call hE (g := fun r1 => .bool r1) h (fun r1 hx => c36 N x_x x_y (.func (.func 37) [] []) (fun y1 y2 => registers_same N y1 y2) (fun y1 y2 r hx => CallP.value (F := []) (C := []) (c37 N y1 y2 r hx)) r1 hx) (.refl _) fun r1 h => ?_;cbv;have h := ret_some h;subst h;exact hK _ _ _ hO (.refl _)
def cf12 : Cf := ⟨[], [(4, 8)], [], [], [], []⟩
theorem c12 (N : Nat) (x_l : List GNeed) (x_a : GEnv) (x_b : GEnv) (r : (Bool × Int)) (h : registers_Agree N x_l x_a x_b = some r) : CallP Tryz.prog 12 [.sl (Ar.lst Encs.eGNeed x_l) .ro, .agg [.sl (Ar.lst Encs.eLGEvent x_a.Vars) .ro], .agg [.sl (Ar.lst Encs.eLGEvent x_b.Vars) .ro]] (.tup [.bool r.1, .int .i64 r.2]) := by
 unfold registers_Agree at h
 refine callP_of_spec cf12 okP Tryz.func12 (by rfl) (by kernel_rfl) Tryz.call12 Tryz.ntmps12 (by rfl) (by rfl) ?_;intro E H0 K hE hK
 have hO : Own Eq H0 [] H0 := .start stable_eq rfl
 cbv;refine n_call hE (g := fun r1 => .int .i64 r1) h (fun r1 hx => c30 N x_l r1 hx) (.refl _) fun r1 h => ?_;cbv;refine n_br hE h (fun hc h => ?_) (fun hc h => ?_)
 ·cbv;have h := ret_some h;subst h;exact hK _ _ _ hO (.refl _)
 ·cbv;refine n_pcall hE (g := fun r2 => .agg [.sl (Ar.lst Encs.eLGEvent r2.Vars) .ro]) h (fun r2 hx => c31 N x_l x_a r2 hx) (.refl _) fun r2 h => ?_;cbv;refine n_pcall hE (g := fun r3 => .agg [.sl (Ar.lst Encs.eLGEvent r3.Vars) .ro]) h (fun r3 hx => c31 N x_l x_b r3 hx) (.refl _) fun r3 h => ?_;cbv;refine n_call hE (g := fun r4 => .bool r4) h (fun r4 hx => c34 N r2.Vars r3.Vars (.func (.func 35) [] []) (fun y1 y2 => registers_Agree_1 N y1 y2) (fun y1 y2 r hx => CallP.value (F := []) (C := []) (c35 N y1 y2 r hx)) r4 hx) (.refl _) fun r4 h => ?_;cbv;have h := ret_some h;subst h;exact hK _ _ _ hO (.refl _)
def cf3 : Cf := ⟨[8, 10000008], [(5, 26), (6, 13)], [(55, 7)], [], [], []⟩
set_option maxHeartbeats 2000000 in
theorem c3 (N : Nat) (x_e : GExpr) (x_env : GEnv) (x_own : GS30) (r : Bool) (h : law26_RegistersSuffices N x_e x_env x_own = some r) : CallP Tryz.prog 3 [.agg [.int .i64 x_e.Op, .sl (Ar.lst Encs.eGExpr x_e.Args) .ro, .int .i64 x_e.Var, .int .i64 x_e.Field, .int .i64 x_e.Kind, .int .i64 x_e.Value.Kind, .int .i64 x_e.Value.Num, .str x_e.Value.Text], .agg [.sl (Ar.lst Encs.eLGEvent x_env.Vars) .ro], .agg [.int .i64 x_own.E0, .int .i64 x_own.E1]] (.bool r) := by
 unfold law26_RegistersSuffices at h
 refine callP_of_spec cf3 okP Tryz.func3 (by rfl) (by kernel_rfl) Tryz.call3 Tryz.ntmps3 (by rfl) (by rfl) ?_;intro E H0 K hE hK
 have hO : Own Eq H0 [] H0 := .start stable_eq rfl
 cbv;refine n_call hE (g := fun r1 => .bool r1) h (fun r1 hx => c5 N x_e r1 hx) (.refl _) fun r1 h => ?_;cbv;refine n_br hE h (fun hc h => ?_) (fun hc h => ?_)
 ·cbv;refine n_call hE (g := fun r2 => .bool r2) h (fun r2 hx => c7 N  r2 hx) (.refl _) fun r2 h => ?_;cbv;have h := ret_some h;subst h;exact hK _ _ _ hO (.refl _)
 ·cbv;refine n_call hE (g := fun r3 => .bool r3) h (fun r3 hx => c6 N x_env r3 hx) (.refl _) fun r3 h => ?_;cbv;refine n_br hE h (fun hc h => ?_) (fun hc h => ?_)
  ·cbv;refine n_call hE (g := fun r4 => .bool r4) h (fun r4 hx => c7 N  r4 hx) (.refl _) fun r4 h => ?_;cbv;have h := ret_some h;subst h;exact hK _ _ _ hO (.refl _)
  ·cbv;refine n_alloc hE hO fun b5 H hO => ?_;cbv;refine n_wkB hE (ds := [.int .i64 0, .int .i64 0, .int .i64 0, .int .i64 0, .sl (Ar.lst Encs.eGValue ([])) .ro]) hO 0 rfl (.cons (.refl _) (.cons (.refl _) (.cons (.refl _) (.cons (.refl _) (.cons (.lit _ (lst_nil)) (.refl _)))))) fun H hO => ?_;cbv;refine n_elemK hE (by kernel_rfl) rfl ?_;cbv;refine n_br hE h (fun hc h => ?_) (fun hc h => ?_)
   ·cbv;refine n_elemK hE (by kernel_rfl) rfl ?_;cbv;refine n_ln hE ?_;cbv;refine n_br hE h (fun hc h => ?_) (fun hc h => ?_)
    ·cbv;refine n_elemK hE (by kernel_rfl) rfl ?_;cbv;refine n_br hE h (fun hc h => ?_) (fun hc h => ?_)
     ·cbv;refine n_elemK hE (by kernel_rfl) rfl ?_;cbv;refine n_elemK hE (by kernel_rfl) rfl ?_;cbv;refine n_idx hE Encs.eLGEvent_eq h fun x6 h => ?_;cbv;refine n_ln hE ?_;cbv;obtain ⟨s7, hx, h⟩ := bind_some h;refine n_join cf3 hE okP (fun e l H1 => e = .normal ∧ l = [(3, .v (.eref [.int .i64 x_e.Op, .sl (Ar.lst Encs.eGExpr x_e.Args) .ro, .int .i64 x_e.Var, .int .i64 x_e.Field, .int .i64 x_e.Kind, .int .i64 x_e.Value.Kind, .int .i64 x_e.Value.Num, .str x_e.Value.Text] 0)), (4, .v (.eref [.sl (Ar.lst Encs.eLGEvent x_env.Vars) .ro] 0)), (7, .v (.int .i64 s7.1)), (8, .v (.ref b5 0))] ∧ Own Eq H0 [.blk b5 (.cells [.int .i64 s7.2.Source, .int .i64 s7.2.Seq, .int .i64 s7.2.Typ, .int .i64 s7.2.Time, .sl (Ar.lst Encs.eGValue s7.2.Values) .ro])] H1) (by kernel_rfl) ?_ ?_
      ·clear h;have h := hx;clear hx;cbv;refine n_br hE h (fun hc h => ?_) (fun hc h => ?_)
       ·cbv;refine n_elemK hE (by kernel_rfl) rfl ?_;cbv;refine n_elemK hE (by kernel_rfl) rfl ?_;cbv;refine n_idx hE Encs.eLGEvent_eq h fun x8 h => ?_;cbv;refine n_elemK hE (by kernel_rfl) rfl ?_;cbv;refine n_idx hE Encs.eGEvent_eq h fun x9 h => ?_;cbv;refine n_store hE hO 0 rfl rfl fun H hO => ?_;cbv;have h := ret_some h;subst h;exact ⟨_, ⟨rfl, rfl, hO⟩, .e rfl (.e rfl (.e rfl (.e rfl (.z)))), rfl⟩
       ·cbv;have h := ret_some h;subst h;exact ⟨_, ⟨rfl, rfl, hO⟩, .e rfl (.e rfl (.e rfl (.e rfl (.z)))), rfl⟩
      ·clear hx;rintro e l H ⟨rfl, rfl, hO⟩;cbv;refine n_call hE (g := fun r10 => .tup [.sl (Ar.lst Encs.eGNeed r10.1) .ro, .int .i64 r10.2]) h (fun r10 hx => c8 N x_e s7.1 r10 hx) (.refl _) fun r10 h => ?_;cbv;refine n_br hE h (fun hc h => ?_) (fun hc h => ?_)
       ·cbv;refine n_call hE (g := fun r11 => .bool r11) h (fun r11 hx => c7 N  r11 hx) (.refl _) fun r11 h => ?_;cbv;refine n_br hE h (fun hc h => ?_) (fun hc h => ?_)
        ·cbv;refine n_call hE (g := fun r12 => .int .i64 r12) h (fun r12 hx => c9 N x_e r12 hx) (.refl _) fun r12 h => ?_;cbv;have h := ret_some h;subst h;exact hK _ _ _ hO (.refl _)
        ·cbv;have h := ret_some h;subst h;exact hK _ _ _ hO (.refl _)
       ·cbv;refine n_call hE (g := fun r13 => .tup [.agg [.sl (Ar.lst Encs.eLGEvent r13.1.Vars) .ro], .int .i64 r13.2]) h (fun r13 hx => c10 N r10.1 x_env r13 hx) (.refl _) fun r13 h => ?_;cbv;refine n_br hE h (fun hc h => ?_) (fun hc h => ?_)
        ·cbv;have h := ret_some h;subst h;exact hK _ _ _ hO (.refl _)
        ·cbv;refine n_load hE hO 0 rfl ?_;cbv;refine n_call hE (g := fun r14 => .tup [.agg [.int .i64 r14.1.Kind, .int .i64 r14.1.Num, .str r14.1.Text], .int .i64 r14.2]) h (fun r14 hx => c11 N x_e x_env s7.1 s7.2 r14 hx) (.refl _) fun r14 h => ?_;cbv;refine n_load hE hO 0 rfl ?_;cbv;refine n_call hE (g := fun r15 => .tup [.agg [.int .i64 r15.1.Kind, .int .i64 r15.1.Num, .str r15.1.Text], .int .i64 r15.2]) h (fun r15 hx => c11 N x_e r13.1 s7.1 s7.2 r15 hx) (.refl _) fun r15 h => ?_;cbv;refine n_call hE (g := fun r16 => .tup [.bool r16.1, .int .i64 r16.2]) h (fun r16 hx => c12 N r10.1 x_env r13.1 r16 hx) (.refl _) fun r16 h => ?_;cbv;refine n_call hE (g := fun r17 => .bool r17) h (fun r17 hx => c7 N  r17 hx) (.refl _) fun r17 h => ?_;cbv;have h := ret_some h;subst h;exact hK _ _ _ hO (.refl _)
     ·cbv;refine n_thru cf3 hE okP (by kernel_rfl) ?_;cbv;refine n_call hE (g := fun r18 => .tup [.sl (Ar.lst Encs.eGNeed r18.1) .ro, .int .i64 r18.2]) h (fun r18 hx => c8 N x_e (-1) r18 hx) (.refl _) fun r18 h => ?_;cbv;refine n_br hE h (fun hc h => ?_) (fun hc h => ?_)
      ·cbv;refine n_call hE (g := fun r19 => .bool r19) h (fun r19 hx => c7 N  r19 hx) (.refl _) fun r19 h => ?_;cbv;refine n_br hE h (fun hc h => ?_) (fun hc h => ?_)
       ·cbv;refine n_call hE (g := fun r20 => .int .i64 r20) h (fun r20 hx => c9 N x_e r20 hx) (.refl _) fun r20 h => ?_;cbv;have h := ret_some h;subst h;exact hK _ _ _ hO (.refl _)
       ·cbv;have h := ret_some h;subst h;exact hK _ _ _ hO (.refl _)
      ·cbv;refine n_call hE (g := fun r21 => .tup [.agg [.sl (Ar.lst Encs.eLGEvent r21.1.Vars) .ro], .int .i64 r21.2]) h (fun r21 hx => c10 N r18.1 x_env r21 hx) (.refl _) fun r21 h => ?_;cbv;refine n_br hE h (fun hc h => ?_) (fun hc h => ?_)
       ·cbv;have h := ret_some h;subst h;exact hK _ _ _ hO (.refl _)
       ·cbv;refine n_load hE hO 0 rfl ?_;cbv;refine n_call hE (g := fun r22 => .tup [.agg [.int .i64 r22.1.Kind, .int .i64 r22.1.Num, .str r22.1.Text], .int .i64 r22.2]) h (fun r22 hx => c11 N x_e x_env (-1) (⟨0, 0, 0, 0, []⟩ : GEvent) r22 hx) (.refl _) fun r22 h => ?_;cbv;refine n_load hE hO 0 rfl ?_;cbv;refine n_call hE (g := fun r23 => .tup [.agg [.int .i64 r23.1.Kind, .int .i64 r23.1.Num, .str r23.1.Text], .int .i64 r23.2]) h (fun r23 hx => c11 N x_e r21.1 (-1) (⟨0, 0, 0, 0, []⟩ : GEvent) r23 hx) (.refl _) fun r23 h => ?_;cbv;refine n_call hE (g := fun r24 => .tup [.bool r24.1, .int .i64 r24.2]) h (fun r24 hx => c12 N r18.1 x_env r21.1 r24 hx) (.refl _) fun r24 h => ?_;cbv;refine n_call hE (g := fun r25 => .bool r25) h (fun r25 hx => c7 N  r25 hx) (.refl _) fun r25 h => ?_;cbv;have h := ret_some h;subst h;exact hK _ _ _ hO (.refl _)
    ·cbv;refine n_thru cf3 hE okP (by kernel_rfl) ?_;cbv;refine n_call hE (g := fun r26 => .tup [.sl (Ar.lst Encs.eGNeed r26.1) .ro, .int .i64 r26.2]) h (fun r26 hx => c8 N x_e (-1) r26 hx) (.refl _) fun r26 h => ?_;cbv;refine n_br hE h (fun hc h => ?_) (fun hc h => ?_)
     ·cbv;refine n_call hE (g := fun r27 => .bool r27) h (fun r27 hx => c7 N  r27 hx) (.refl _) fun r27 h => ?_;cbv;refine n_br hE h (fun hc h => ?_) (fun hc h => ?_)
      ·cbv;refine n_call hE (g := fun r28 => .int .i64 r28) h (fun r28 hx => c9 N x_e r28 hx) (.refl _) fun r28 h => ?_;cbv;have h := ret_some h;subst h;exact hK _ _ _ hO (.refl _)
      ·cbv;have h := ret_some h;subst h;exact hK _ _ _ hO (.refl _)
     ·cbv;refine n_call hE (g := fun r29 => .tup [.agg [.sl (Ar.lst Encs.eLGEvent r29.1.Vars) .ro], .int .i64 r29.2]) h (fun r29 hx => c10 N r26.1 x_env r29 hx) (.refl _) fun r29 h => ?_;cbv;refine n_br hE h (fun hc h => ?_) (fun hc h => ?_)
      ·cbv;have h := ret_some h;subst h;exact hK _ _ _ hO (.refl _)
      ·cbv;refine n_load hE hO 0 rfl ?_;cbv;refine n_call hE (g := fun r30 => .tup [.agg [.int .i64 r30.1.Kind, .int .i64 r30.1.Num, .str r30.1.Text], .int .i64 r30.2]) h (fun r30 hx => c11 N x_e x_env (-1) (⟨0, 0, 0, 0, []⟩ : GEvent) r30 hx) (.refl _) fun r30 h => ?_;cbv;refine n_load hE hO 0 rfl ?_;cbv;refine n_call hE (g := fun r31 => .tup [.agg [.int .i64 r31.1.Kind, .int .i64 r31.1.Num, .str r31.1.Text], .int .i64 r31.2]) h (fun r31 hx => c11 N x_e r29.1 (-1) (⟨0, 0, 0, 0, []⟩ : GEvent) r31 hx) (.refl _) fun r31 h => ?_;cbv;refine n_call hE (g := fun r32 => .tup [.bool r32.1, .int .i64 r32.2]) h (fun r32 hx => c12 N r26.1 x_env r29.1 r32 hx) (.refl _) fun r32 h => ?_;cbv;refine n_call hE (g := fun r33 => .bool r33) h (fun r33 hx => c7 N  r33 hx) (.refl _) fun r33 h => ?_;cbv;have h := ret_some h;subst h;exact hK _ _ _ hO (.refl _)
   ·cbv;refine n_thru cf3 hE okP (by kernel_rfl) ?_;cbv;refine n_call hE (g := fun r34 => .tup [.sl (Ar.lst Encs.eGNeed r34.1) .ro, .int .i64 r34.2]) h (fun r34 hx => c8 N x_e (-1) r34 hx) (.refl _) fun r34 h => ?_;cbv;refine n_br hE h (fun hc h => ?_) (fun hc h => ?_)
    ·cbv;refine n_call hE (g := fun r35 => .bool r35) h (fun r35 hx => c7 N  r35 hx) (.refl _) fun r35 h => ?_;cbv;refine n_br hE h (fun hc h => ?_) (fun hc h => ?_)
     ·cbv;refine n_call hE (g := fun r36 => .int .i64 r36) h (fun r36 hx => c9 N x_e r36 hx) (.refl _) fun r36 h => ?_;cbv;have h := ret_some h;subst h;exact hK _ _ _ hO (.refl _)
     ·cbv;have h := ret_some h;subst h;exact hK _ _ _ hO (.refl _)
    ·cbv;refine n_call hE (g := fun r37 => .tup [.agg [.sl (Ar.lst Encs.eLGEvent r37.1.Vars) .ro], .int .i64 r37.2]) h (fun r37 hx => c10 N r34.1 x_env r37 hx) (.refl _) fun r37 h => ?_;cbv;refine n_br hE h (fun hc h => ?_) (fun hc h => ?_)
     ·cbv;have h := ret_some h;subst h;exact hK _ _ _ hO (.refl _)
     ·cbv;refine n_load hE hO 0 rfl ?_;cbv;refine n_call hE (g := fun r38 => .tup [.agg [.int .i64 r38.1.Kind, .int .i64 r38.1.Num, .str r38.1.Text], .int .i64 r38.2]) h (fun r38 hx => c11 N x_e x_env (-1) (⟨0, 0, 0, 0, []⟩ : GEvent) r38 hx) (.refl _) fun r38 h => ?_;cbv;refine n_load hE hO 0 rfl ?_;cbv;refine n_call hE (g := fun r39 => .tup [.agg [.int .i64 r39.1.Kind, .int .i64 r39.1.Num, .str r39.1.Text], .int .i64 r39.2]) h (fun r39 hx => c11 N x_e r37.1 (-1) (⟨0, 0, 0, 0, []⟩ : GEvent) r39 hx) (.refl _) fun r39 h => ?_;cbv;refine n_call hE (g := fun r40 => .tup [.bool r40.1, .int .i64 r40.2]) h (fun r40 hx => c12 N r34.1 x_env r37.1 r40 hx) (.refl _) fun r40 h => ?_;cbv;refine n_call hE (g := fun r41 => .bool r41) h (fun r41 hx => c7 N  r41 hx) (.refl _) fun r41 h => ?_;cbv;have h := ret_some h;subst h;exact hK _ _ _ hO (.refl _)
def cf38 : Cf := ⟨[], [], [], [], [], []⟩
theorem c38 (N : Nat) (x_l : List GGuard) (r : Bool) (h : ref23_few N x_l = some r) : CallP Tryz.prog 38 [.sl (Ar.lst Encs.eGGuard x_l) .ro] (.bool r) := by
 unfold ref23_few at h
 refine callP_of_spec cf38 okP Tryz.func38 (by rfl) (by kernel_rfl) Tryz.call38 Tryz.ntmps38 (by rfl) (by rfl) ?_;intro E H0 K hE hK
 have hO : Own Eq H0 [] H0 := .start stable_eq rfl
 cbv;obtain ⟨s2, hx, h⟩ := bind_some h;refine n_loopN cf38 hE okP (fun s1 => [(0, .v (.sl (Ar.lst Encs.eGGuard x_l) .ro)), (3, .v (.int .i64 s1))]) (fun s1 H1 => Own Eq H0 [] H1) (fun x e l H1 => match (generalizing := false) x with | .inl y => e = .exit 0 ∧ l = [] ∧ Own Eq H0 [] H1 | .inr y => e = .ret ∧ l = [(2, .b false)] ∧ Own Eq H0 [] H1) (by kernel_rfl) ?_ hx ?_ hO ?_
 ·intro s1 H o hO h;clear hx;cbv;refine n_ln hE ?_;cbv;refine n_br hE h (fun hc h => ?_) (fun hc h => ?_)
  ·cbv;refine n_idx hE Encs.eGGuard_eq h fun x3 h => ?_;cbv;refine n_call hE (g := fun r4 => .bool r4) h (fun r4 hx => c5 N x3.Cond r4 hx) (.refl _) fun r4 h => ?_;cbv;refine n_br hE h (fun hc h => ?_) (fun hc h => ?_)
   ·cbv;have h := ret_some h;subst h;exact ⟨_, _, rfl, ⟨rfl, rfl, hO⟩, .b rfl (.z), rfl⟩
   ·cbv;have h := ret_some h;subst h;exact ⟨_, rfl, .e rfl (.e rfl (.z)), rfl, hO⟩
  ·cbv;have h := ret_some h;subst h;exact ⟨_, _, rfl, ⟨rfl, rfl, hO⟩, .z, rfl⟩
 ·exact .e rfl (.e rfl (.z))
 ·clear hx
  rcases s2 with y5 | y6
  ·rintro e l H ⟨rfl, rfl, hO⟩;cbv;have h := ret_some h;subst h;exact hK _ _ _ hO (.refl _)
  ·rintro e l H ⟨rfl, rfl, hO⟩;cbv;have h := ret_some h;subst h;exact hK _ _ _ hO (.refl _)
def cf13 : Cf := ⟨[], [], [], [], [], []⟩
theorem c13 (N : Nat) (x_a : GAutomaton) (r : Bool) (h : ref23_Few N x_a = some r) : CallP Tryz.prog 13 [.agg [.int .i64 x_a.Vars, .int .i64 x_a.Scopes, .sl (Ar.lst Encs.eGState x_a.States) .ro, .sl (Ar.lst Encs.eGEdge x_a.Edges) .ro]] (.bool r) := by
 unfold ref23_Few at h
 refine callP_of_spec cf13 okP Tryz.func13 (by rfl) (by kernel_rfl) Tryz.call13 Tryz.ntmps13 (by rfl) (by rfl) ?_;intro E H0 K hE hK
 have hO : Own Eq H0 [] H0 := .start stable_eq rfl
 cbv;obtain ⟨s2, hx, h⟩ := bind_some h;refine n_loopN cf13 hE okP (fun s1 => [(1, .v (.eref [.int .i64 x_a.Vars, .int .i64 x_a.Scopes, .sl (Ar.lst Encs.eGState x_a.States) .ro, .sl (Ar.lst Encs.eGEdge x_a.Edges) .ro] 0)), (3, .v (.int .i64 s1))]) (fun s1 H1 => Own Eq H0 [] H1) (fun x e l H1 => match (generalizing := false) x with | .inl y => e = .exit 0 ∧ l = [(1, .v (.eref [.int .i64 x_a.Vars, .int .i64 x_a.Scopes, .sl (Ar.lst Encs.eGState x_a.States) .ro, .sl (Ar.lst Encs.eGEdge x_a.Edges) .ro] 0))] ∧ Own Eq H0 [] H1 | .inr y => e = .ret ∧ l = [(2, .b false)] ∧ Own Eq H0 [] H1) (by kernel_rfl) ?_ hx ?_ hO ?_
 ·intro s1 H o hO h;clear hx;cbv;refine n_ln hE ?_;cbv;refine n_br hE h (fun hc h => ?_) (fun hc h => ?_)
  ·cbv;refine n_idx hE Encs.eGState_eq h fun x3 h => ?_;cbv;refine n_ln hE ?_;cbv;refine n_br hE h (fun hc h => ?_) (fun hc h => ?_)
   ·cbv;refine n_idx hE Encs.eGState_eq h fun x4 h => ?_;cbv;refine n_ln hE ?_;cbv;refine n_br hE h (fun hc h => ?_) (fun hc h => ?_)
    ·cbv;have h := ret_some h;subst h;exact ⟨_, _, rfl, ⟨rfl, rfl, hO⟩, .b rfl (.z), rfl⟩
    ·cbv;refine n_idx hE Encs.eGState_eq h fun x5 h => ?_;cbv;refine n_ln hE ?_;cbv;refine n_br hE h (fun hc h => ?_) (fun hc h => ?_)
     ·cbv;have h := ret_some h;subst h;exact ⟨_, _, rfl, ⟨rfl, rfl, hO⟩, .b rfl (.z), rfl⟩
     ·cbv;refine n_idx hE Encs.eGState_eq h fun x6 h => ?_;cbv;refine n_call hE (g := fun r7 => .bool r7) h (fun r7 hx => c38 N x6.Guards r7 hx) (.refl _) fun r7 h => ?_;cbv;refine n_br hE h (fun hc h => ?_) (fun hc h => ?_)
      ·cbv;have h := ret_some h;subst h;exact ⟨_, _, rfl, ⟨rfl, rfl, hO⟩, .b rfl (.z), rfl⟩
      ·cbv;have h := ret_some h;subst h;exact ⟨_, rfl, .e rfl (.e rfl (.z)), rfl, hO⟩
   ·cbv;refine n_idx hE Encs.eGState_eq h fun x8 h => ?_;cbv;refine n_ln hE ?_;cbv;refine n_br hE h (fun hc h => ?_) (fun hc h => ?_)
    ·cbv;have h := ret_some h;subst h;exact ⟨_, _, rfl, ⟨rfl, rfl, hO⟩, .b rfl (.z), rfl⟩
    ·cbv;refine n_idx hE Encs.eGState_eq h fun x9 h => ?_;cbv;refine n_call hE (g := fun r10 => .bool r10) h (fun r10 hx => c38 N x9.Guards r10 hx) (.refl _) fun r10 h => ?_;cbv;refine n_br hE h (fun hc h => ?_) (fun hc h => ?_)
     ·cbv;have h := ret_some h;subst h;exact ⟨_, _, rfl, ⟨rfl, rfl, hO⟩, .b rfl (.z), rfl⟩
     ·cbv;have h := ret_some h;subst h;exact ⟨_, rfl, .e rfl (.e rfl (.z)), rfl, hO⟩
  ·cbv;have h := ret_some h;subst h;exact ⟨_, _, rfl, ⟨rfl, rfl, hO⟩, .e rfl (.z), rfl⟩
 ·exact .e rfl (.e rfl (.z))
 ·clear hx
  rcases s2 with y11 | y24
  ·rintro e l H ⟨rfl, rfl, hO⟩;cbv;obtain ⟨s13, hx, h⟩ := bind_some h;refine n_loopN cf13 hE okP (fun s12 => [(1, .v (.eref [.int .i64 x_a.Vars, .int .i64 x_a.Scopes, .sl (Ar.lst Encs.eGState x_a.States) .ro, .sl (Ar.lst Encs.eGEdge x_a.Edges) .ro] 0)), (4, .v (.int .i64 s12))]) (fun s12 H1 => Own Eq H0 [] H1) (fun x e l H1 => match (generalizing := false) x with | .inl y => e = .exit 2 ∧ l = [(1, .v (.eref [.int .i64 x_a.Vars, .int .i64 x_a.Scopes, .sl (Ar.lst Encs.eGState x_a.States) .ro, .sl (Ar.lst Encs.eGEdge x_a.Edges) .ro] 0))] ∧ Own Eq H0 [] H1 | .inr y => e = .ret ∧ l = [(2, .b false)] ∧ Own Eq H0 [] H1) (by kernel_rfl) ?_ hx ?_ hO ?_
   ·intro s12 H o hO h;clear hx;cbv;refine n_ln hE ?_;cbv;refine n_br hE h (fun hc h => ?_) (fun hc h => ?_)
    ·cbv;refine n_idx hE Encs.eGEdge_eq h fun x14 h => ?_;cbv;refine n_call hE (g := fun r15 => .bool r15) h (fun r15 hx => c5 N x14.Cond r15 hx) (.refl _) fun r15 h => ?_;cbv;refine n_ln hE ?_;cbv;refine n_ln hE ?_;cbv;refine n_ln hE ?_;cbv;refine n_ln hE ?_;cbv;refine n_ln hE ?_;cbv;refine n_br hE h (fun hc h => ?_) (fun hc h => ?_)
     ·cbv;have h := ret_some h;subst h;exact ⟨_, _, rfl, ⟨rfl, rfl, hO⟩, .b rfl (.z), rfl⟩
     ·cbv;obtain ⟨s17, hx, h⟩ := bind_some h;refine n_loopN cf13 hE okP (fun s16 => [(1, .v (.eref [.int .i64 x_a.Vars, .int .i64 x_a.Scopes, .sl (Ar.lst Encs.eGState x_a.States) .ro, .sl (Ar.lst Encs.eGEdge x_a.Edges) .ro] 0)), (4, .v (.int .i64 s12)), (5, .v (.eref [.int .i64 x14.From, .int .i64 x14.To, .int .i64 x14.Var, .int .i64 x14.Typ, .int .i64 x14.Cond.Op, .sl (Ar.lst Encs.eGExpr x14.Cond.Args) .ro, .int .i64 x14.Cond.Var, .int .i64 x14.Cond.Field, .int .i64 x14.Cond.Kind, .int .i64 x14.Cond.Value.Kind, .int .i64 x14.Cond.Value.Num, .str x14.Cond.Value.Text, .sl (Ar.lst (V.int .i64) x14.Opens) .ro, .sl (Ar.lst (V.int .i64) x14.Closes) .ro, .sl (Ar.lst Encs.eGExpr x14.Checks) .ro, .sl (Ar.lst Encs.eGLimit x14.Limits) .ro, .sl (Ar.lst (V.int .i64) x14.Inside) .ro] 0)), (6, .v (.int .i64 s16))]) (fun s16 H1 => Own Eq H0 [] H1) (fun x e l H1 => match (generalizing := false) x with | .inl y => e = .exit 4 ∧ l = [(1, .v (.eref [.int .i64 x_a.Vars, .int .i64 x_a.Scopes, .sl (Ar.lst Encs.eGState x_a.States) .ro, .sl (Ar.lst Encs.eGEdge x_a.Edges) .ro] 0)), (4, .v (.int .i64 s12))] ∧ Own Eq H0 [] H1 | .inr y => e = .ret ∧ l = [(2, .b false)] ∧ Own Eq H0 [] H1) (by kernel_rfl) ?_ hx ?_ hO ?_
      ·intro s16 H o hO h;clear hx;cbv;refine n_ln hE ?_;cbv;refine n_br hE h (fun hc h => ?_) (fun hc h => ?_)
       ·cbv;refine n_idx hE Encs.eGExpr_eq h fun x18 h => ?_;cbv;refine n_call hE (g := fun r19 => .bool r19) h (fun r19 hx => c5 N x18 r19 hx) (.refl _) fun r19 h => ?_;cbv;refine n_br hE h (fun hc h => ?_) (fun hc h => ?_)
        ·cbv;have h := ret_some h;subst h;exact ⟨_, _, rfl, ⟨rfl, rfl, hO⟩, .b rfl (.z), rfl⟩
        ·cbv;have h := ret_some h;subst h;exact ⟨_, rfl, .e rfl (.e rfl (.e rfl (.e rfl (.z)))), rfl, hO⟩
       ·cbv;have h := ret_some h;subst h;exact ⟨_, _, rfl, ⟨rfl, rfl, hO⟩, .e rfl (.e rfl (.z)), rfl⟩
      ·exact .e rfl (.e rfl (.e rfl (.e rfl (.z))))
      ·clear hx
       rcases s17 with y20 | y21
       ·rintro e l H ⟨rfl, rfl, hO⟩;cbv;have h := ret_some h;subst h;exact ⟨_, rfl, .e rfl (.e rfl (.z)), rfl, hO⟩
       ·rintro e l H ⟨rfl, rfl, hO⟩;cbv;have h := ret_some h;subst h;exact ⟨_, _, rfl, ⟨rfl, rfl, hO⟩, .b rfl (.z), rfl⟩
    ·cbv;have h := ret_some h;subst h;exact ⟨_, _, rfl, ⟨rfl, rfl, hO⟩, .e rfl (.z), rfl⟩
   ·exact .e rfl (.e rfl (.z))
   ·clear hx
    rcases s13 with y22 | y23
    ·rintro e l H ⟨rfl, rfl, hO⟩;cbv;refine n_ln hE ?_;cbv;refine n_ln hE ?_;cbv;have h := ret_some h;subst h;exact hK _ _ _ hO (.refl _)
    ·rintro e l H ⟨rfl, rfl, hO⟩;cbv;have h := ret_some h;subst h;exact hK _ _ _ hO (.refl _)
  ·rintro e l H ⟨rfl, rfl, hO⟩;cbv;have h := ret_some h;subst h;exact hK _ _ _ hO (.refl _)
def cf15 : Cf := ⟨[], [(2, 5)], [], [], [], []⟩
theorem c15 (N : Nat) (x_e : GExpr) (x_env : GEnv) (x_own : Int) (x_event : GEvent) (r : Bool) (h : expr_Truth N x_e x_env x_own x_event = some r) : CallP Tryz.prog 15 [.agg [.int .i64 x_e.Op, .sl (Ar.lst Encs.eGExpr x_e.Args) .ro, .int .i64 x_e.Var, .int .i64 x_e.Field, .int .i64 x_e.Kind, .int .i64 x_e.Value.Kind, .int .i64 x_e.Value.Num, .str x_e.Value.Text], .agg [.sl (Ar.lst Encs.eLGEvent x_env.Vars) .ro], .int .i64 x_own, .agg [.int .i64 x_event.Source, .int .i64 x_event.Seq, .int .i64 x_event.Typ, .int .i64 x_event.Time, .sl (Ar.lst Encs.eGValue x_event.Values) .ro]] (.bool r) := by
 unfold expr_Truth at h
 refine callP_of_spec cf15 okP Tryz.func15 (by rfl) (by kernel_rfl) Tryz.call15 Tryz.ntmps15 (by rfl) (by rfl) ?_;intro E H0 K hE hK
 have hO : Own Eq H0 [] H0 := .start stable_eq rfl
 cbv;refine n_call hE (g := fun r1 => .tup [.agg [.int .i64 r1.1.Kind, .int .i64 r1.1.Num, .str r1.1.Text], .int .i64 r1.2]) h (fun r1 hx => c11 N x_e x_env x_own x_event r1 hx) (.refl _) fun r1 h => ?_;cbv;refine n_br hE h (fun hc h => ?_) (fun hc h => ?_)
 ·cbv;refine n_pcall hE (g := fun r2 => .agg [.int .i64 r2.Kind, .int .i64 r2.Num, .str r2.Text]) h (fun r2 hx => c42 N true r2 hx) (.refl _) fun r2 h => ?_;cbv;have h := ret_some h;subst h;exact hK _ _ _ hO (.refl _)
 ·cbv;have h := ret_some h;subst h;exact hK _ _ _ hO (.refl _)
def cf16 : Cf := ⟨[6, 7, 3000032, 3000035, 6000008], [(4, 13)], [], [], [(37, 1000007)], []⟩
theorem c16 (N : Nat) (x_env : GEnv) (x_v : Int) (x_e : GEvent) (r : GEnv) (h : law26_added N x_env x_v x_e = some r) : CallP Tryz.prog 16 [.agg [.sl (Ar.lst Encs.eLGEvent x_env.Vars) .ro], .int .i64 x_v, .agg [.int .i64 x_e.Source, .int .i64 x_e.Seq, .int .i64 x_e.Typ, .int .i64 x_e.Time, .sl (Ar.lst Encs.eGValue x_e.Values) .ro]] (.agg [.sl (Ar.lst Encs.eLGEvent r.Vars) .ro]) := by
 unfold law26_added at h
 refine callP_of_spec cf16 okP Tryz.func16 (by rfl) (by kernel_rfl) Tryz.call16 Tryz.ntmps16 (by rfl) (by rfl) ?_;intro E H0 K hE hK
 have hO : Own Eq H0 [] H0 := .start stable_eq rfl
 cbv;refine n_alloc hE hO fun b1 H hO => ?_;cbv;refine n_olit hE (f := Encs.eLGEvent) (l := ([] : List (List GEvent))) (.lst0) hO fun q2 H hq2 hO => ?_;cbv;refine n_oapp (f := Encs.eLGEvent) hE sz_LGEvent (by decide) hO hq2 0 rfl (m := x_env.Vars) (src_sl (f := Encs.eLGEvent) hE sz_LGEvent (.refl _)) h fun l4 q3 H hq3 hO h => ?_;cbv;refine n_alloc hE hO fun b5 H hO => ?_;cbv;refine n_store hE hO 0 rfl rfl fun H hO => ?_;cbv;obtain ⟨s8, hx, h⟩ := bind_some h;refine n_loopG cf16 hE okP (γ := OG) (fun s6 g => [(1, .v (.int .i64 x_v)), (5, .v (.eref [.int .i64 x_e.Source, .int .i64 x_e.Seq, .int .i64 x_e.Typ, .int .i64 x_e.Time, .sl (Ar.lst Encs.eGValue x_e.Values) .ro] 0)), (6, .v (.ref b1 0)), (7, .v (.ref b5 0))]) (fun s6 g H1 => Okn g (Ar.len s6) ∧ Own Eq H0 [.blk b5 (.cells [.own g.id g.lo g.n]), .blk g.id (.arr 1 (g.pre ++ Ar.lst Encs.eLGEvent s6 ++ g.rest)), .blk b1 (.cells [.sl [] .nil])] H1) (fun x e l H1 => ∃ u1 : OG, Okn u1 (Ar.len x) ∧ e = .exit 0 ∧ l = [(1, .v (.int .i64 x_v)), (5, .v (.eref [.int .i64 x_e.Source, .int .i64 x_e.Seq, .int .i64 x_e.Typ, .int .i64 x_e.Time, .sl (Ar.lst Encs.eGValue x_e.Values) .ro] 0)), (6, .v (.ref b1 0)), (7, .v (.ref b5 0))] ∧ Own Eq H0 [.blk b5 (.cells [.own u1.id u1.lo u1.n]), .blk u1.id (.arr 1 (u1.pre ++ Ar.lst Encs.eLGEvent x ++ u1.rest)), .blk b1 (.cells [.sl [] .nil])] H1) (by kernel_rfl) ?_ q3 hx ?_ ?_ ?_
 ·rintro s6 q7 H o ⟨hq7, hO⟩ h;clear hx;cbv;refine n_load hE hO 0 rfl ?_;cbv;refine n_olen hE hq7 ?_;cbv;refine n_br hE h (fun hc h => ?_) (fun hc h => ?_)
  ·cbv;refine n_load hE hO 0 rfl ?_;cbv;refine n_oapp (f := Encs.eLGEvent) hE sz_LGEvent (by decide) hO hq7 1 rfl (m := [[]]) (src_sl (f := Encs.eLGEvent) hE sz_LGEvent (.lstc (.eq (Encs.eLGEvent_eq ([])) (.lit _ (lst_nil))) (.lst0))) h fun l10 q9 H hq9 hO h => ?_;cbv;refine n_store hE hO 0 rfl rfl fun H hO => ?_;cbv;have h := ret_some h;subst h;exact ⟨_, q9, rfl, .e rfl (.e rfl (.e rfl (.e rfl (.z)))), rfl, hq9, hO⟩
  ·cbv;have h := ret_some h;subst h;exact ⟨_, _, rfl, ⟨q7, hq7, rfl, rfl, hO⟩, .e rfl (.e rfl (.e rfl (.e rfl (.z)))), rfl⟩
 ·exact .e rfl (.e rfl (.e rfl (.e rfl (.z))))
 ·exact ⟨hq3, hO⟩
 ·clear hx;rintro e l H ⟨q11, hq11, rfl, rfl, hO⟩;cbv;refine n_load hE hO 0 rfl ?_;cbv;refine n_load hE hO 0 rfl ?_;cbv;refine n_oidx hE hO hq11 1 rfl h fun h => ?_;cbv;refine n_oload hE Encs.eLGEvent_eq hO hq11 1 rfl h fun x12 h => ?_;cbv;refine n_appq (f := Encs.eGEvent) hE sz_GEvent (by decide) (l := []) (m := x12) (.lst0) (.refl _) h fun l13 h => ?_;cbv;refine n_appq (f := Encs.eGEvent) hE sz_GEvent (by decide) (l := l13) (m := [x_e]) (.refl _) (.lstc (.eq (Encs.eGEvent_eq x_e) (.refl _)) (.lst0)) h fun l14 h => ?_;cbv;refine n_oidx hE hO hq11 1 rfl h fun h => ?_;cbv;refine n_ostore hE (f := Encs.eLGEvent) (esz := 1) (tz := 1) (off := 0) (u := (fun x15 : List GEvent => l14)) (fun _ => ⟨_, .eq (Encs.eLGEvent_eq _) (.refl _), (by rw [Encs.eLGEvent_eq]; rfl), sz_LGEvent _, rfl⟩) (by decide) hO hq11 1 rfl h fun l16 H hq11 h hO => ?_;cbv;refine n_frzIn hE hO hq11 0 1 rfl rfl rfl (by decide) fun H hO => ?_;cbv;refine n_load hE hO 0 rfl ?_;cbv;refine n_store hE hO 1 rfl rfl fun H hO => ?_;cbv;refine n_load hE hO 1 rfl ?_;cbv;have h := ret_some h;subst h;exact hK _ _ _ hO (.refl _)
def cf4 : Cf := ⟨[9, 10000009], [(14, 11), (21, 25), (28, 13), (30, 14), (34, 15), (37, 12)], [], [], [], []⟩
set_option maxHeartbeats 2000000 in
theorem c4 (N : Nat) (x_a : GAutomaton) (x_env : GEnv) (x_event : GEvent) (r : Bool) (h : law26_RegistersCovers N x_a x_env x_event = some r) : CallP Tryz.prog 4 [.agg [.int .i64 x_a.Vars, .int .i64 x_a.Scopes, .sl (Ar.lst Encs.eGState x_a.States) .ro, .sl (Ar.lst Encs.eGEdge x_a.Edges) .ro], .agg [.sl (Ar.lst Encs.eLGEvent x_env.Vars) .ro], .agg [.int .i64 x_event.Source, .int .i64 x_event.Seq, .int .i64 x_event.Typ, .int .i64 x_event.Time, .sl (Ar.lst Encs.eGValue x_event.Values) .ro]] (.bool r) := by
 unfold law26_RegistersCovers at h
 refine callP_of_spec cf4 okP Tryz.func4 (by rfl) (by kernel_rfl) Tryz.call4 Tryz.ntmps4 (by rfl) (by rfl) ?_;intro E H0 K hE hK
 have hO : Own Eq H0 [] H0 := .start stable_eq rfl
 cbv;refine n_call hE (g := fun r1 => .bool r1) h (fun r1 hx => c13 N x_a r1 hx) (.refl _) fun r1 h => ?_;cbv;refine n_br hE h (fun hc h => ?_) (fun hc h => ?_)
 ·cbv;refine n_call hE (g := fun r2 => .bool r2) h (fun r2 hx => c7 N  r2 hx) (.refl _) fun r2 h => ?_;cbv;have h := ret_some h;subst h;exact hK _ _ _ hO (.refl _)
 ·cbv;refine n_call hE (g := fun r3 => .bool r3) h (fun r3 hx => c6 N x_env r3 hx) (.refl _) fun r3 h => ?_;cbv;refine n_ln hE ?_;cbv;refine n_ln hE ?_;cbv;refine n_ln hE ?_;cbv;refine n_br hE h (fun hc h => ?_) (fun hc h => ?_)
  ·cbv;refine n_call hE (g := fun r4 => .bool r4) h (fun r4 hx => c7 N  r4 hx) (.refl _) fun r4 h => ?_;cbv;have h := ret_some h;subst h;exact hK _ _ _ hO (.refl _)
  ·cbv;refine n_call hE (g := fun r5 => .tup [.sl (Ar.lst Encs.eLGNeed r5.1) .ro, .int .i64 r5.2]) h (fun r5 hx => c14 N x_a r5 hx) (.refl _) fun r5 h => ?_;cbv;refine n_br hE h (fun hc h => ?_) (fun hc h => ?_)
   ·cbv;refine n_call hE (g := fun r6 => .bool r6) h (fun r6 hx => c7 N  r6 hx) (.refl _) fun r6 h => ?_;cbv;have h := ret_some h;subst h;exact hK _ _ _ hO (.refl _)
   ·cbv;refine n_ln hE ?_;cbv;refine n_ln hE ?_;cbv;refine n_br hE h (fun hc h => ?_) (fun hc h => ?_)
    ·cbv;have h := ret_some h;subst h;exact hK _ _ _ hO (.refl _)
    ·cbv;refine n_alloc hE hO fun b7 H hO => ?_;cbv;refine n_wkB hE (ds := [.sl (Ar.lst Encs.eLGEvent ([])) .ro]) hO 0 rfl (.cons (.lit _ (lst_nil)) (.refl _)) fun H hO => ?_;cbv;refine n_store hE hO 0 rfl rfl fun H hO => ?_;cbv;obtain ⟨s9, hx, h⟩ := bind_some h;refine n_loopN cf4 hE okP (fun s8 => [(3, .v (.eref [.int .i64 x_a.Vars, .int .i64 x_a.Scopes, .sl (Ar.lst Encs.eGState x_a.States) .ro, .sl (Ar.lst Encs.eGEdge x_a.Edges) .ro] 0)), (5, .v (.eref [.int .i64 x_event.Source, .int .i64 x_event.Seq, .int .i64 x_event.Typ, .int .i64 x_event.Time, .sl (Ar.lst Encs.eGValue x_event.Values) .ro] 0)), (7, .v (.sl (Ar.lst Encs.eLGNeed r5.1) .ro)), (9, .v (.ref b7 0))]) (fun (s8 : GEnv) H1 => Own Eq H0 [.blk b7 (.cells [.sl (Ar.lst Encs.eLGEvent s8.Vars) .ro])] H1) (fun x e l H1 => e = .exit 0 ∧ l = [(3, .v (.eref [.int .i64 x_a.Vars, .int .i64 x_a.Scopes, .sl (Ar.lst Encs.eGState x_a.States) .ro, .sl (Ar.lst Encs.eGEdge x_a.Edges) .ro] 0)), (5, .v (.eref [.int .i64 x_event.Source, .int .i64 x_event.Seq, .int .i64 x_event.Typ, .int .i64 x_event.Time, .sl (Ar.lst Encs.eGValue x_event.Values) .ro] 0)), (7, .v (.sl (Ar.lst Encs.eLGNeed r5.1) .ro)), (9, .v (.ref b7 0))] ∧ Own Eq H0 [.blk b7 (.cells [.sl (Ar.lst Encs.eLGEvent x.Vars) .ro])] H1) (by kernel_rfl) ?_ hx ?_ hO ?_
     ·intro s8 H o hO h;clear hx;cbv;refine n_load hE hO 0 rfl ?_;cbv;refine n_ln hE ?_;cbv;refine n_br hE h (fun hc h => ?_) (fun hc h => ?_)
      ·cbv;refine n_load hE hO 0 rfl ?_;cbv;refine n_appn (f := Encs.eLGEvent) hE sz_LGEvent (by decide) (hO.tl0 (t := .full) rfl) 0 rfl trivial (l := []) (m := s8.Vars) (.lst0) (.refl _) h fun l11 t10 H hO ht10 h => ?_;cbv;refine n_appn (f := Encs.eLGEvent) hE sz_LGEvent (by decide) hO 0 rfl ht10 (l := l11) (m := [[]]) (.refl _) (.lstc (.eq (Encs.eLGEvent_eq ([])) (.lit _ (lst_nil))) (.lst0)) h fun l13 t12 H hO ht12 h => ?_;cbv;refine n_storeW hE (vs' := [.sl (Ar.lst Encs.eLGEvent l13) .ro]) hO 1 rfl rfl (.cons (.ro _ _) (.refl _)) fun H hO => ?_;cbv;have h := ret_some h;subst h;exact ⟨_, rfl, .e rfl (.e rfl (.e rfl (.e rfl (.z)))), rfl, hO.tail⟩
      ·cbv;have h := ret_some h;subst h;exact ⟨_, _, rfl, ⟨rfl, rfl, hO⟩, .e rfl (.e rfl (.e rfl (.e rfl (.z)))), rfl⟩
     ·exact .e rfl (.e rfl (.e rfl (.e rfl (.z))))
     ·clear hx;rintro e l H ⟨rfl, rfl, hO⟩;cbv;obtain ⟨s15, hx, h⟩ := bind_some h;refine n_loopN cf4 hE okP (fun s14 => [(3, .v (.eref [.int .i64 x_a.Vars, .int .i64 x_a.Scopes, .sl (Ar.lst Encs.eGState x_a.States) .ro, .sl (Ar.lst Encs.eGEdge x_a.Edges) .ro] 0)), (5, .v (.eref [.int .i64 x_event.Source, .int .i64 x_event.Seq, .int .i64 x_event.Typ, .int .i64 x_event.Time, .sl (Ar.lst Encs.eGValue x_event.Values) .ro] 0)), (7, .v (.sl (Ar.lst Encs.eLGNeed r5.1) .ro)), (9, .v (.ref b7 0)), (10, .v (.int .i64 s14))]) (fun s14 H1 => Own Eq H0 [.blk b7 (.cells [.sl (Ar.lst Encs.eLGEvent s9.Vars) .ro])] H1) (fun x e l H1 => match (generalizing := false) x with | .inl y => e = .exit 2 ∧ l = [] ∧ Own Eq H0 [.blk b7 (.cells [.sl (Ar.lst Encs.eLGEvent s9.Vars) .ro])] H1 | .inr y => e = .ret ∧ l = [(6, .b false)] ∧ Own Eq H0 [.blk b7 (.cells [.sl (Ar.lst Encs.eLGEvent s9.Vars) .ro])] H1) (by kernel_rfl) ?_ hx ?_ hO ?_
      ·intro s14 H o hO h;clear hx;cbv;refine n_ln hE ?_;cbv;refine n_br hE h (fun hc h => ?_) (fun hc h => ?_)
       ·cbv;refine n_idx hE Encs.eLGNeed_eq h fun x16 h => ?_;cbv;refine n_load hE hO 0 rfl ?_;cbv;refine n_pcall hE (g := fun r17 => .tup [.agg [.sl (Ar.lst Encs.eLGEvent r17.1.Vars) .ro], .int .i64 r17.2]) h (fun r17 hx => c10 N x16 s9 r17 hx) (.refl _) fun r17 h => ?_;cbv;refine n_br hE h (fun hc h => ?_) (fun hc h => ?_)
        ·cbv;have h := ret_some h;subst h;exact ⟨_, _, rfl, ⟨rfl, rfl, hO⟩, .b rfl (.z), rfl⟩
        ·cbv;refine n_idx hE Encs.eGState_eq h fun x18 h => ?_;cbv;obtain ⟨s20, hx, h⟩ := bind_some h;refine n_loopN cf4 hE okP (fun s19 => [(3, .v (.eref [.int .i64 x_a.Vars, .int .i64 x_a.Scopes, .sl (Ar.lst Encs.eGState x_a.States) .ro, .sl (Ar.lst Encs.eGEdge x_a.Edges) .ro] 0)), (5, .v (.eref [.int .i64 x_event.Source, .int .i64 x_event.Seq, .int .i64 x_event.Typ, .int .i64 x_event.Time, .sl (Ar.lst Encs.eGValue x_event.Values) .ro] 0)), (7, .v (.sl (Ar.lst Encs.eLGNeed r5.1) .ro)), (9, .v (.ref b7 0)), (10, .v (.int .i64 s14)), (11, .v (.eref [.sl (Ar.lst Encs.eLGEvent r17.1.Vars) .ro] 0)), (13, .v (.sl (Ar.lst Encs.eGGuard x18.Guards) .ro)), (14, .v (.int .i64 s19))]) (fun s19 H1 => Own Eq H0 [.blk b7 (.cells [.sl (Ar.lst Encs.eLGEvent s9.Vars) .ro])] H1) (fun x e l H1 => match (generalizing := false) x with | .inl y => e = .exit 4 ∧ l = [(3, .v (.eref [.int .i64 x_a.Vars, .int .i64 x_a.Scopes, .sl (Ar.lst Encs.eGState x_a.States) .ro, .sl (Ar.lst Encs.eGEdge x_a.Edges) .ro] 0)), (5, .v (.eref [.int .i64 x_event.Source, .int .i64 x_event.Seq, .int .i64 x_event.Typ, .int .i64 x_event.Time, .sl (Ar.lst Encs.eGValue x_event.Values) .ro] 0)), (7, .v (.sl (Ar.lst Encs.eLGNeed r5.1) .ro)), (9, .v (.ref b7 0)), (10, .v (.int .i64 s14)), (11, .v (.eref [.sl (Ar.lst Encs.eLGEvent r17.1.Vars) .ro] 0))] ∧ Own Eq H0 [.blk b7 (.cells [.sl (Ar.lst Encs.eLGEvent s9.Vars) .ro])] H1 | .inr y => e = .ret ∧ l = [(6, .b false)] ∧ Own Eq H0 [.blk b7 (.cells [.sl (Ar.lst Encs.eLGEvent s9.Vars) .ro])] H1) (by kernel_rfl) ?_ hx ?_ hO ?_
         ·intro s19 H o hO h;clear hx;cbv;refine n_ln hE ?_;cbv;refine n_br hE h (fun hc h => ?_) (fun hc h => ?_)
          ·cbv;refine n_idx hE Encs.eGGuard_eq h fun x21 h => ?_;cbv;refine n_load hE hO 0 rfl ?_;cbv;refine n_idx hE Encs.eGGuard_eq h fun x22 h => ?_;cbv;refine n_pcall hE (g := fun r23 => .bool r23) h (fun r23 hx => c15 N x21.Cond s9 x22.Var x_event r23 hx) (.refl _) fun r23 h => ?_;cbv;refine n_idx hE Encs.eGGuard_eq h fun x24 h => ?_;cbv;refine n_idx hE Encs.eGGuard_eq h fun x25 h => ?_;cbv;refine n_call hE (g := fun r26 => .bool r26) h (fun r26 hx => c15 N x24.Cond r17.1 x25.Var x_event r26 hx) (.refl _) fun r26 h => ?_;cbv;refine n_br hE h (fun hc h => ?_) (fun hc h => ?_)
           ·cbv;have h := ret_some h;subst h;exact ⟨_, _, rfl, ⟨rfl, rfl, hO⟩, .b rfl (.z), rfl⟩
           ·cbv;have h := ret_some h;subst h;exact ⟨_, rfl, .e rfl (.e rfl (.e rfl (.e rfl (.e rfl (.e rfl (.e rfl (.e rfl (.z)))))))), rfl, hO⟩
          ·cbv;have h := ret_some h;subst h;exact ⟨_, _, rfl, ⟨rfl, rfl, hO⟩, .e rfl (.e rfl (.e rfl (.e rfl (.e rfl (.e rfl (.z)))))), rfl⟩
         ·exact .e rfl (.e rfl (.e rfl (.e rfl (.e rfl (.e rfl (.e rfl (.e rfl (.z))))))))
         ·clear hx
          rcases s20 with y27 | y47
          ·rintro e l H ⟨rfl, rfl, hO⟩;cbv;obtain ⟨s29, hx, h⟩ := bind_some h;refine n_loopN cf4 hE okP (fun s28 => [(3, .v (.eref [.int .i64 x_a.Vars, .int .i64 x_a.Scopes, .sl (Ar.lst Encs.eGState x_a.States) .ro, .sl (Ar.lst Encs.eGEdge x_a.Edges) .ro] 0)), (5, .v (.eref [.int .i64 x_event.Source, .int .i64 x_event.Seq, .int .i64 x_event.Typ, .int .i64 x_event.Time, .sl (Ar.lst Encs.eGValue x_event.Values) .ro] 0)), (7, .v (.sl (Ar.lst Encs.eLGNeed r5.1) .ro)), (9, .v (.ref b7 0)), (10, .v (.int .i64 s14)), (11, .v (.eref [.sl (Ar.lst Encs.eLGEvent r17.1.Vars) .ro] 0)), (15, .v (.int .i64 s28))]) (fun s28 H1 => Own Eq H0 [.blk b7 (.cells [.sl (Ar.lst Encs.eLGEvent s9.Vars) .ro])] H1) (fun x e l H1 => match (generalizing := false) x with | .inl y => e = .exit 6 ∧ l = [(3, .v (.eref [.int .i64 x_a.Vars, .int .i64 x_a.Scopes, .sl (Ar.lst Encs.eGState x_a.States) .ro, .sl (Ar.lst Encs.eGEdge x_a.Edges) .ro] 0)), (5, .v (.eref [.int .i64 x_event.Source, .int .i64 x_event.Seq, .int .i64 x_event.Typ, .int .i64 x_event.Time, .sl (Ar.lst Encs.eGValue x_event.Values) .ro] 0)), (7, .v (.sl (Ar.lst Encs.eLGNeed r5.1) .ro)), (9, .v (.ref b7 0)), (10, .v (.int .i64 s14))] ∧ Own Eq H0 [.blk b7 (.cells [.sl (Ar.lst Encs.eLGEvent s9.Vars) .ro])] H1 | .inr y => e = .ret ∧ l = [(6, .b false)] ∧ Own Eq H0 [.blk b7 (.cells [.sl (Ar.lst Encs.eLGEvent s9.Vars) .ro])] H1) (by kernel_rfl) ?_ hx ?_ hO ?_
           ·intro s28 H o hO h;clear hx;cbv;refine n_ln hE ?_;cbv;refine n_br hE h (fun hc h => ?_) (fun hc h => ?_)
            ·cbv;refine n_idx hE Encs.eGEdge_eq h fun x30 h => ?_;cbv;refine n_br hE h (fun hc h => ?_) (fun hc h => ?_)
             ·cbv;have h := ret_some h;subst h;exact ⟨_, rfl, .e rfl (.e rfl (.e rfl (.e rfl (.e rfl (.e rfl (.e rfl (.z))))))), rfl, hO⟩
             ·cbv;refine n_load hE hO 0 rfl ?_;cbv;refine n_pcall hE (g := fun r31 => .bool r31) h (fun r31 hx => c15 N x30.Cond s9 x30.Var x_event r31 hx) (.refl _) fun r31 h => ?_;cbv;refine n_call hE (g := fun r32 => .bool r32) h (fun r32 hx => c15 N x30.Cond r17.1 x30.Var x_event r32 hx) (.refl _) fun r32 h => ?_;cbv;refine n_br hE h (fun hc h => ?_) (fun hc h => ?_)
              ·cbv;have h := ret_some h;subst h;exact ⟨_, _, rfl, ⟨rfl, rfl, hO⟩, .b rfl (.z), rfl⟩
              ·cbv;refine n_load hE hO 0 rfl ?_;cbv;refine n_pcall hE (g := fun r33 => .agg [.sl (Ar.lst Encs.eLGEvent r33.Vars) .ro]) h (fun r33 hx => c16 N s9 x30.Var x_event r33 hx) (.refl _) fun r33 h => ?_;cbv;refine n_pcall hE (g := fun r34 => .agg [.sl (Ar.lst Encs.eLGEvent r34.Vars) .ro]) h (fun r34 hx => c16 N r17.1 x30.Var x_event r34 hx) (.refl _) fun r34 h => ?_;cbv;obtain ⟨s36, hx, h⟩ := bind_some h;refine n_loopN cf4 hE okP (fun s35 => [(3, .v (.eref [.int .i64 x_a.Vars, .int .i64 x_a.Scopes, .sl (Ar.lst Encs.eGState x_a.States) .ro, .sl (Ar.lst Encs.eGEdge x_a.Edges) .ro] 0)), (5, .v (.eref [.int .i64 x_event.Source, .int .i64 x_event.Seq, .int .i64 x_event.Typ, .int .i64 x_event.Time, .sl (Ar.lst Encs.eGValue x_event.Values) .ro] 0)), (7, .v (.sl (Ar.lst Encs.eLGNeed r5.1) .ro)), (9, .v (.ref b7 0)), (10, .v (.int .i64 s14)), (11, .v (.eref [.sl (Ar.lst Encs.eLGEvent r17.1.Vars) .ro] 0)), (15, .v (.int .i64 s28)), (16, .v (.eref [.int .i64 x30.From, .int .i64 x30.To, .int .i64 x30.Var, .int .i64 x30.Typ, .int .i64 x30.Cond.Op, .sl (Ar.lst Encs.eGExpr x30.Cond.Args) .ro, .int .i64 x30.Cond.Var, .int .i64 x30.Cond.Field, .int .i64 x30.Cond.Kind, .int .i64 x30.Cond.Value.Kind, .int .i64 x30.Cond.Value.Num, .str x30.Cond.Value.Text, .sl (Ar.lst (V.int .i64) x30.Opens) .ro, .sl (Ar.lst (V.int .i64) x30.Closes) .ro, .sl (Ar.lst Encs.eGExpr x30.Checks) .ro, .sl (Ar.lst Encs.eGLimit x30.Limits) .ro, .sl (Ar.lst (V.int .i64) x30.Inside) .ro] 0)), (17, .v (.eref [.sl (Ar.lst Encs.eLGEvent r33.Vars) .ro] 0)), (18, .v (.eref [.sl (Ar.lst Encs.eLGEvent r34.Vars) .ro] 0)), (19, .v (.int .i64 s35))]) (fun s35 H1 => Own Eq H0 [.blk b7 (.cells [.sl (Ar.lst Encs.eLGEvent s9.Vars) .ro])] H1) (fun x e l H1 => match (generalizing := false) x with | .inl y => e = .exit 8 ∧ l = [(3, .v (.eref [.int .i64 x_a.Vars, .int .i64 x_a.Scopes, .sl (Ar.lst Encs.eGState x_a.States) .ro, .sl (Ar.lst Encs.eGEdge x_a.Edges) .ro] 0)), (5, .v (.eref [.int .i64 x_event.Source, .int .i64 x_event.Seq, .int .i64 x_event.Typ, .int .i64 x_event.Time, .sl (Ar.lst Encs.eGValue x_event.Values) .ro] 0)), (7, .v (.sl (Ar.lst Encs.eLGNeed r5.1) .ro)), (9, .v (.ref b7 0)), (10, .v (.int .i64 s14)), (11, .v (.eref [.sl (Ar.lst Encs.eLGEvent r17.1.Vars) .ro] 0)), (15, .v (.int .i64 s28)), (16, .v (.eref [.int .i64 x30.From, .int .i64 x30.To, .int .i64 x30.Var, .int .i64 x30.Typ, .int .i64 x30.Cond.Op, .sl (Ar.lst Encs.eGExpr x30.Cond.Args) .ro, .int .i64 x30.Cond.Var, .int .i64 x30.Cond.Field, .int .i64 x30.Cond.Kind, .int .i64 x30.Cond.Value.Kind, .int .i64 x30.Cond.Value.Num, .str x30.Cond.Value.Text, .sl (Ar.lst (V.int .i64) x30.Opens) .ro, .sl (Ar.lst (V.int .i64) x30.Closes) .ro, .sl (Ar.lst Encs.eGExpr x30.Checks) .ro, .sl (Ar.lst Encs.eGLimit x30.Limits) .ro, .sl (Ar.lst (V.int .i64) x30.Inside) .ro] 0)), (17, .v (.eref [.sl (Ar.lst Encs.eLGEvent r33.Vars) .ro] 0)), (18, .v (.eref [.sl (Ar.lst Encs.eLGEvent r34.Vars) .ro] 0))] ∧ Own Eq H0 [.blk b7 (.cells [.sl (Ar.lst Encs.eLGEvent s9.Vars) .ro])] H1 | .inr y => e = .ret ∧ l = [(6, .b false)] ∧ Own Eq H0 [.blk b7 (.cells [.sl (Ar.lst Encs.eLGEvent s9.Vars) .ro])] H1) (by kernel_rfl) ?_ hx ?_ hO ?_
               ·intro s35 H o hO h;clear hx;cbv;refine n_ln hE ?_;cbv;refine n_br hE h (fun hc h => ?_) (fun hc h => ?_)
                ·cbv;refine n_idx hE Encs.eGExpr_eq h fun x37 h => ?_;cbv;refine n_pcall hE (g := fun r38 => .bool r38) h (fun r38 hx => c15 N x37 r33 (-1) (⟨0, 0, 0, 0, []⟩ : GEvent) r38 hx) (.cons (.refl _) (.cons (.refl _) (.cons (.refl _) (.cons (.agg (.cons (.refl _) (.cons (.refl _) (.cons (.refl _) (.cons (.refl _) (.cons (.lit _ (lst_nil)) (.refl _))))))) (.refl _))))) fun r38 h => ?_;cbv;refine n_idx hE Encs.eGExpr_eq h fun x39 h => ?_;cbv;refine n_call hE (g := fun r40 => .bool r40) h (fun r40 hx => c15 N x39 r34 (-1) (⟨0, 0, 0, 0, []⟩ : GEvent) r40 hx) (.cons (.refl _) (.cons (.refl _) (.cons (.refl _) (.cons (.agg (.cons (.refl _) (.cons (.refl _) (.cons (.refl _) (.cons (.refl _) (.cons (.lit _ (lst_nil)) (.refl _))))))) (.refl _))))) fun r40 h => ?_;cbv;refine n_br hE h (fun hc h => ?_) (fun hc h => ?_)
                 ·cbv;have h := ret_some h;subst h;exact ⟨_, _, rfl, ⟨rfl, rfl, hO⟩, .b rfl (.z), rfl⟩
                 ·cbv;have h := ret_some h;subst h;exact ⟨_, rfl, .e rfl (.e rfl (.e rfl (.e rfl (.e rfl (.e rfl (.e rfl (.e rfl (.e rfl (.e rfl (.e rfl (.z))))))))))), rfl, hO⟩
                ·cbv;have h := ret_some h;subst h;exact ⟨_, _, rfl, ⟨rfl, rfl, hO⟩, .e rfl (.e rfl (.e rfl (.e rfl (.e rfl (.e rfl (.e rfl (.e rfl (.e rfl (.e rfl (.z)))))))))), rfl⟩
               ·exact .e rfl (.e rfl (.e rfl (.e rfl (.e rfl (.e rfl (.e rfl (.e rfl (.e rfl (.e rfl (.e rfl (.z)))))))))))
               ·clear hx
                rcases s36 with y41 | y44
                ·rintro e l H ⟨rfl, rfl, hO⟩;cbv;refine n_br hE h (fun hc h => ?_) (fun hc h => ?_)
                 ·cbv;have h := ret_some h;subst h;exact ⟨_, rfl, .e rfl (.e rfl (.e rfl (.e rfl (.e rfl (.e rfl (.e rfl (.z))))))), rfl, hO⟩
                 ·cbv;refine n_idx hE Encs.eLGNeed_eq h fun x42 h => ?_;cbv;refine n_pcall hE (g := fun r43 => .tup [.bool r43.1, .int .i64 r43.2]) h (fun r43 hx => c12 N x42 r33 r34 r43 hx) (.refl _) fun r43 h => ?_;cbv;refine n_br hE h (fun hc h => ?_) (fun hc h => ?_)
                  ·cbv;have h := ret_some h;subst h;exact ⟨_, _, rfl, ⟨rfl, rfl, hO⟩, .b rfl (.z), rfl⟩
                  ·cbv;have h := ret_some h;subst h;exact ⟨_, rfl, .e rfl (.e rfl (.e rfl (.e rfl (.e rfl (.e rfl (.e rfl (.z))))))), rfl, hO⟩
                ·rintro e l H ⟨rfl, rfl, hO⟩;cbv;have h := ret_some h;subst h;exact ⟨_, _, rfl, ⟨rfl, rfl, hO⟩, .b rfl (.z), rfl⟩
            ·cbv;have h := ret_some h;subst h;exact ⟨_, _, rfl, ⟨rfl, rfl, hO⟩, .e rfl (.e rfl (.e rfl (.e rfl (.e rfl (.z))))), rfl⟩
           ·exact .e rfl (.e rfl (.e rfl (.e rfl (.e rfl (.e rfl (.e rfl (.z)))))))
           ·clear hx
            rcases s29 with y45 | y46
            ·rintro e l H ⟨rfl, rfl, hO⟩;cbv;have h := ret_some h;subst h;exact ⟨_, rfl, .e rfl (.e rfl (.e rfl (.e rfl (.e rfl (.z))))), rfl, hO⟩
            ·rintro e l H ⟨rfl, rfl, hO⟩;cbv;have h := ret_some h;subst h;exact ⟨_, _, rfl, ⟨rfl, rfl, hO⟩, .b rfl (.z), rfl⟩
          ·rintro e l H ⟨rfl, rfl, hO⟩;cbv;have h := ret_some h;subst h;exact ⟨_, _, rfl, ⟨rfl, rfl, hO⟩, .b rfl (.z), rfl⟩
       ·cbv;have h := ret_some h;subst h;exact ⟨_, _, rfl, ⟨rfl, rfl, hO⟩, .z, rfl⟩
      ·exact .e rfl (.e rfl (.e rfl (.e rfl (.e rfl (.z)))))
      ·clear hx
       rcases s15 with y48 | y50
       ·rintro e l H ⟨rfl, rfl, hO⟩;cbv;refine n_call hE (g := fun r49 => .bool r49) h (fun r49 hx => c7 N  r49 hx) (.refl _) fun r49 h => ?_;cbv;have h := ret_some h;subst h;exact hK _ _ _ hO (.refl _)
       ·rintro e l H ⟨rfl, rfl, hO⟩;cbv;have h := ret_some h;subst h;exact hK _ _ _ hO (.refl _)
end Go.Ab

