/- GQCo5 -/
import Derived.Test.YtodfgmbacmnalaaGreatT35
set_option linter.all false

namespace Go.Ab
open Go.RowKit Go.Proofs
variable [Ar] [Encs]
set_option maxRecDepth 100000
def cf13 : Cf := ⟨[], [(8, 11)], [], [], [], []⟩
theorem c13 (N : Nat) (x_p : GPredicate) (x_s : GSymbol) (r : (Bool × Int)) (h : predicate_Contains N x_p x_s = some r) : CallP Tryz.prog 13 [.agg [.sl (Ar.lst Encs.eLGInterval x_p.Sets) .ro], .agg [.int .i64 x_s.Typ, .int .i64 x_s.Num]] (.tup [.bool r.1, .int .i64 r.2]) := by
 unfold predicate_Contains at h
 refine callP_of_spec cf13 okP Tryz.func13 (by rfl) (by kernel_rfl) Tryz.call13 Tryz.ntmps13 (by rfl) (by rfl) ?_;intro E H0 K hE hK
 have hO : Own Eq H0 [] H0 := .start stable_eq rfl
 cbv;refine n_call hE (g := fun r1 => .int .i64 r1) h (fun r1 hx => c38 N ([x_p]) r1 hx) (.cons (.lit _ (lst_cons ((Encs.eGPredicate_eq x_p).symm) (lst_nil))) (.refl _)) fun r1 h => ?_;cbv;refine n_br hE h (fun hc h => ?_) (fun hc h => ?_)
 ·cbv;have h := ret_some h;subst h;exact hK _ _ _ hO (.refl _)
 ·cbv;refine n_ln hE ?_;cbv;refine n_br hE h (fun hc h => ?_) (fun hc h => ?_)
  ·cbv;have h := ret_some h;subst h;exact hK _ _ _ hO (.refl _)
  ·cbv;refine n_br hE h (fun hc h => ?_) (fun hc h => ?_)
   ·cbv;have h := ret_some h;subst h;exact hK _ _ _ hO (.refl _)
   ·cbv;refine n_idx hE Encs.eLGInterval_eq h fun x2 h => ?_;cbv;refine n_pcall hE (g := fun r3 => .tup [.bool r3.1, .int .i64 r3.2]) h (fun r3 hx => c39 N x2 x_s.Num r3 hx) (.refl _) fun r3 h => ?_;cbv;have h := ret_some h;subst h;exact hK _ _ _ hO (.refl _)
def cf110 : Cf := ⟨[2], [], [], [], [], []⟩
theorem c110 (N : Nat) (x_n : Int) (r : GValue) (h : expr_operations_1 N x_n = some r) : CallP Tryz.prog 110 [.int .i64 x_n] (.agg [.int .i64 r.Kind, .int .i64 r.Num, .str r.Text]) := by
 unfold expr_operations_1 at h
 refine callP_of_spec cf110 okP Tryz.func110 (by rfl) (by kernel_rfl) Tryz.call110 Tryz.ntmps110 (by rfl) (by rfl) ?_;intro E H0 K hE hK
 have hO : Own Eq H0 [] H0 := .start stable_eq rfl
 cbv;refine n_alloc hE hO fun b1 H hO => ?_;cbv;refine n_store hE hO 0 rfl rfl fun H hO => ?_;cbv;refine n_load hE hO 0 rfl ?_;cbv;have h := ret_some h;subst h;exact hK _ _ _ hO (.refl _)
def cf111 : Cf := ⟨[5], [], [], [], [], []⟩
theorem c111 (N : Nat) (x_a : Int) (x_b : Int) (v_2 : V) (x_2 : Int → Option GValue) (h_2 : ∀ y1 q, x_2 y1 = some q → CallVP Tryz.prog v_2 [.int .i64 y1] (.agg [.int .i64 q.Kind, .int .i64 q.Num, .str q.Text])) (r : GValue) (h : expr_operations_2 N x_a x_b x_2 = some r) : CallP Tryz.prog 111 [.int .i64 x_a, .int .i64 x_b, .eref [v_2] 0] (.agg [.int .i64 r.Kind, .int .i64 r.Num, .str r.Text]) := by
 unfold expr_operations_2 at h
 refine callP_of_spec cf111 okP Tryz.func111 (by rfl) (by kernel_rfl) Tryz.call111 Tryz.ntmps111 (by rfl) (by rfl) ?_;intro E H0 K hE hK
 have hO : Own Eq H0 [] H0 := .start stable_eq rfl
 cbv;refine n_alloc hE hO fun b1 H hO => ?_;cbv;refine n_callF hE (g := fun r2 => .agg [.int .i64 r2.Kind, .int .i64 r2.Num, .str r2.Text]) h (fun r2 hx => h_2 (Ar.ar .add .i64 x_a x_b) r2 hx) (.refl _) fun r2 h => ?_;cbv;refine n_store hE hO 0 rfl rfl fun H hO => ?_;cbv;refine n_load hE hO 0 rfl ?_;cbv;have h := ret_some h;subst h;exact hK _ _ _ hO (.refl _)
def cf112 : Cf := ⟨[5], [], [], [], [], []⟩
theorem c112 (N : Nat) (x_a : Int) (x_b : Int) (v_2 : V) (x_2 : Int → Option GValue) (h_2 : ∀ y1 q, x_2 y1 = some q → CallVP Tryz.prog v_2 [.int .i64 y1] (.agg [.int .i64 q.Kind, .int .i64 q.Num, .str q.Text])) (r : GValue) (h : expr_operations_3 N x_a x_b x_2 = some r) : CallP Tryz.prog 112 [.int .i64 x_a, .int .i64 x_b, .eref [v_2] 0] (.agg [.int .i64 r.Kind, .int .i64 r.Num, .str r.Text]) := by
 unfold expr_operations_3 at h
 refine callP_of_spec cf112 okP Tryz.func112 (by rfl) (by kernel_rfl) Tryz.call112 Tryz.ntmps112 (by rfl) (by rfl) ?_;intro E H0 K hE hK
 have hO : Own Eq H0 [] H0 := .start stable_eq rfl
 cbv;refine n_alloc hE hO fun b1 H hO => ?_;cbv;refine n_callF hE (g := fun r2 => .agg [.int .i64 r2.Kind, .int .i64 r2.Num, .str r2.Text]) h (fun r2 hx => h_2 (Ar.ar .sub .i64 x_a x_b) r2 hx) (.refl _) fun r2 h => ?_;cbv;refine n_store hE hO 0 rfl rfl fun H hO => ?_;cbv;refine n_load hE hO 0 rfl ?_;cbv;have h := ret_some h;subst h;exact hK _ _ _ hO (.refl _)
def cf75 : Cf := ⟨[2, 3], [], [], [], [], []⟩
theorem c75 (N : Nat) (x_b : Bool) (r : GValue) (h : value_Bool N x_b = some r) : CallP Tryz.prog 75 [.bool x_b] (.agg [.int .i64 r.Kind, .int .i64 r.Num, .str r.Text]) := by
 unfold value_Bool at h
 refine callP_of_spec cf75 okP Tryz.func75 (by rfl) (by kernel_rfl) Tryz.call75 Tryz.ntmps75 (by rfl) (by rfl) ?_;intro E H0 K hE hK
 have hO : Own Eq H0 [] H0 := .start stable_eq rfl
 cbv;refine n_alloc hE hO fun b1 H hO => ?_;cbv;refine n_alloc hE hO fun b2 H hO => ?_;cbv;refine n_store hE hO 0 rfl rfl fun H hO => ?_;cbv;refine n_br hE h (fun hc h => ?_) (fun hc h => ?_)
 ·cbv;refine n_store hE hO 0 rfl rfl fun H hO => ?_;cbv;refine n_load hE hO 0 rfl ?_;cbv;refine n_store hE hO 1 rfl rfl fun H hO => ?_;cbv;refine n_load hE hO 1 rfl ?_;cbv;have h := ret_some h;subst h;exact hK _ _ _ hO (.refl _)
 ·cbv;refine n_load hE hO 0 rfl ?_;cbv;refine n_store hE hO 1 rfl rfl fun H hO => ?_;cbv;refine n_load hE hO 1 rfl ?_;cbv;have h := ret_some h;subst h;exact hK _ _ _ hO (.refl _)
def cf41 : Cf := ⟨[2], [], [], [], [], []⟩
theorem c41 (N : Nat) (x_b : Bool) (r : GValue) (h : expr_flag N x_b = some r) : CallP Tryz.prog 41 [.bool x_b] (.agg [.int .i64 r.Kind, .int .i64 r.Num, .str r.Text]) := by
 unfold expr_flag at h
 refine callP_of_spec cf41 okP Tryz.func41 (by rfl) (by kernel_rfl) Tryz.call41 Tryz.ntmps41 (by rfl) (by rfl) ?_;intro E H0 K hE hK
 have hO : Own Eq H0 [] H0 := .start stable_eq rfl
 cbv;refine n_alloc hE hO fun b1 H hO => ?_;cbv;refine n_call hE (g := fun r2 => .agg [.int .i64 r2.Kind, .int .i64 r2.Num, .str r2.Text]) h (fun r2 hx => c75 N x_b r2 hx) (.refl _) fun r2 h => ?_;cbv;refine n_store hE hO 0 rfl rfl fun H hO => ?_;cbv;refine n_load hE hO 0 rfl ?_;cbv;have h := ret_some h;subst h;exact hK _ _ _ hO (.refl _)
def cf113 : Cf := ⟨[4], [], [], [], [], []⟩
theorem c113 (N : Nat) (x_a : Int) (x_b : Int) (r : GValue) (h : expr_operations_4 N x_a x_b = some r) : CallP Tryz.prog 113 [.int .i64 x_a, .int .i64 x_b] (.agg [.int .i64 r.Kind, .int .i64 r.Num, .str r.Text]) := by
 unfold expr_operations_4 at h
 refine callP_of_spec cf113 okP Tryz.func113 (by rfl) (by kernel_rfl) Tryz.call113 Tryz.ntmps113 (by rfl) (by rfl) ?_;intro E H0 K hE hK
 have hO : Own Eq H0 [] H0 := .start stable_eq rfl
 cbv;refine n_alloc hE hO fun b1 H hO => ?_;cbv;refine n_call hE (g := fun r2 => .agg [.int .i64 r2.Kind, .int .i64 r2.Num, .str r2.Text]) h (fun r2 hx => c41 N (Ar.cmp .lss x_a x_b) r2 hx) (.refl _) fun r2 h => ?_;cbv;refine n_store hE hO 0 rfl rfl fun H hO => ?_;cbv;refine n_load hE hO 0 rfl ?_;cbv;have h := ret_some h;subst h;exact hK _ _ _ hO (.refl _)
def cf114 : Cf := ⟨[4], [], [], [], [], []⟩
theorem c114 (N : Nat) (x_a : Int) (x_b : Int) (r : GValue) (h : expr_operations_5 N x_a x_b = some r) : CallP Tryz.prog 114 [.int .i64 x_a, .int .i64 x_b] (.agg [.int .i64 r.Kind, .int .i64 r.Num, .str r.Text]) := by
 unfold expr_operations_5 at h
 refine callP_of_spec cf114 okP Tryz.func114 (by rfl) (by kernel_rfl) Tryz.call114 Tryz.ntmps114 (by rfl) (by rfl) ?_;intro E H0 K hE hK
 have hO : Own Eq H0 [] H0 := .start stable_eq rfl
 cbv;refine n_alloc hE hO fun b1 H hO => ?_;cbv;refine n_call hE (g := fun r2 => .agg [.int .i64 r2.Kind, .int .i64 r2.Num, .str r2.Text]) h (fun r2 hx => c41 N (Ar.cmp .leq x_a x_b) r2 hx) (.refl _) fun r2 h => ?_;cbv;refine n_store hE hO 0 rfl rfl fun H hO => ?_;cbv;refine n_load hE hO 0 rfl ?_;cbv;have h := ret_some h;subst h;exact hK _ _ _ hO (.refl _)
def cf115 : Cf := ⟨[4], [], [], [], [], []⟩
theorem c115 (N : Nat) (x_a : Int) (x_b : Int) (r : GValue) (h : expr_operations_6 N x_a x_b = some r) : CallP Tryz.prog 115 [.int .i64 x_a, .int .i64 x_b] (.agg [.int .i64 r.Kind, .int .i64 r.Num, .str r.Text]) := by
 unfold expr_operations_6 at h
 refine callP_of_spec cf115 okP Tryz.func115 (by rfl) (by kernel_rfl) Tryz.call115 Tryz.ntmps115 (by rfl) (by rfl) ?_;intro E H0 K hE hK
 have hO : Own Eq H0 [] H0 := .start stable_eq rfl
 cbv;refine n_alloc hE hO fun b1 H hO => ?_;cbv;refine n_call hE (g := fun r2 => .agg [.int .i64 r2.Kind, .int .i64 r2.Num, .str r2.Text]) h (fun r2 hx => c41 N (Ar.an (Ar.cmp .eql x_a 1) (Ar.cmp .eql x_b 1)) r2 hx) (.refl _) fun r2 h => ?_;cbv;refine n_store hE hO 0 rfl rfl fun H hO => ?_;cbv;refine n_load hE hO 0 rfl ?_;cbv;have h := ret_some h;subst h;exact hK _ _ _ hO (.refl _)
def cf116 : Cf := ⟨[4], [], [], [], [], []⟩
theorem c116 (N : Nat) (x_a : Int) (x_b : Int) (r : GValue) (h : expr_operations_7 N x_a x_b = some r) : CallP Tryz.prog 116 [.int .i64 x_a, .int .i64 x_b] (.agg [.int .i64 r.Kind, .int .i64 r.Num, .str r.Text]) := by
 unfold expr_operations_7 at h
 refine callP_of_spec cf116 okP Tryz.func116 (by rfl) (by kernel_rfl) Tryz.call116 Tryz.ntmps116 (by rfl) (by rfl) ?_;intro E H0 K hE hK
 have hO : Own Eq H0 [] H0 := .start stable_eq rfl
 cbv;refine n_alloc hE hO fun b1 H hO => ?_;cbv;refine n_call hE (g := fun r2 => .agg [.int .i64 r2.Kind, .int .i64 r2.Num, .str r2.Text]) h (fun r2 hx => c41 N (Ar.or (Ar.cmp .eql x_a 1) (Ar.cmp .eql x_b 1)) r2 hx) (.refl _) fun r2 h => ?_;cbv;refine n_store hE hO 0 rfl rfl fun H hO => ?_;cbv;refine n_load hE hO 0 rfl ?_;cbv;have h := ret_some h;subst h;exact hK _ _ _ hO (.refl _)
def cf117 : Cf := ⟨[4], [], [], [], [], []⟩
theorem c117 (N : Nat) (x_a : Int) (x_1 : Int) (r : GValue) (h : expr_operations_8 N x_a x_1 = some r) : CallP Tryz.prog 117 [.int .i64 x_a, .int .i64 x_1] (.agg [.int .i64 r.Kind, .int .i64 r.Num, .str r.Text]) := by
 unfold expr_operations_8 at h
 refine callP_of_spec cf117 okP Tryz.func117 (by rfl) (by kernel_rfl) Tryz.call117 Tryz.ntmps117 (by rfl) (by rfl) ?_;intro E H0 K hE hK
 have hO : Own Eq H0 [] H0 := .start stable_eq rfl
 cbv;refine n_alloc hE hO fun b1 H hO => ?_;cbv;refine n_call hE (g := fun r2 => .agg [.int .i64 r2.Kind, .int .i64 r2.Num, .str r2.Text]) h (fun r2 hx => c41 N (Ar.cmp .neq x_a 1) r2 hx) (.refl _) fun r2 h => ?_;cbv;refine n_store hE hO 0 rfl rfl fun H hO => ?_;cbv;refine n_load hE hO 0 rfl ?_;cbv;have h := ret_some h;subst h;exact hK _ _ _ hO (.refl _)
def cf73 : Cf := ⟨[], [], [], [], [], []⟩
theorem c73 (N : Nat) (r : Unit) (h : expr_operations N  = some r) : CallFM Tryz.prog 73 [] fmK138 fmX138 := by
 unfold expr_operations at h
 refine callFM_run (T := TT) cf73 okP Tryz.func73 (by rfl) (by kernel_rfl) Tryz.call73 Tryz.ntmps73 (by rfl) (by rfl) ?_;intro E H0 K hE hK
 have hO : Own Eq H0 [] H0 := .start stable_eq rfl
 cbv;refine n_fmk hE hO fun m1 H hO => ?_;cbv;refine n_fset hE (kt := 3) (et := 175) (by kernel_rfl) (by kernel_rfl) hO 0 rfl rfl fun H hO => ?_;cbv;refine n_fset hE (kt := 3) (et := 175) (by kernel_rfl) (by kernel_rfl) hO 0 rfl rfl fun H hO => ?_;cbv;refine n_fset hE (kt := 3) (et := 175) (by kernel_rfl) (by kernel_rfl) hO 0 rfl rfl fun H hO => ?_;cbv;refine n_fset hE (kt := 3) (et := 175) (by kernel_rfl) (by kernel_rfl) hO 0 rfl rfl fun H hO => ?_;cbv;refine n_fset hE (kt := 3) (et := 175) (by kernel_rfl) (by kernel_rfl) hO 0 rfl rfl fun H hO => ?_;cbv;refine n_fset hE (kt := 3) (et := 175) (by kernel_rfl) (by kernel_rfl) hO 0 rfl rfl fun H hO => ?_;cbv;refine n_fset hE (kt := 3) (et := 175) (by kernel_rfl) (by kernel_rfl) hO 0 rfl rfl fun H hO => ?_;cbv;exact hK _ _ 0 _ rfl hO
def cf140 : Cf := ⟨[], [], [], [], [], []⟩
theorem c140 (N : Nat) (x_x : Gexpr_evaluator) (x_v : Int) (r : (List GEvent)) (h : expr_evaluator_events N x_x x_v = some r) : CallP Tryz.prog 140 [.agg [.sl (Ar.lst Encs.eLGEvent x_x.env.Vars) .ro, .int .i64 x_x.own, .int .i64 x_x.event.Source, .int .i64 x_x.event.Seq, .int .i64 x_x.event.Typ, .int .i64 x_x.event.Time, .sl (Ar.lst Encs.eGValue x_x.event.Values) .ro, .fmap fmK138 fmX138], .int .i64 x_v] (.sl (Ar.lst Encs.eGEvent r) .ro) := by
 unfold expr_evaluator_events at h
 refine callP_of_spec cf140 okP Tryz.func140 (by rfl) (by kernel_rfl) Tryz.call140 Tryz.ntmps140 (by rfl) (by rfl) ?_;intro E H0 K hE hK
 have hO : Own Eq H0 [] H0 := .start stable_eq rfl
 cbv;refine n_ln hE ?_;cbv;refine n_br hE h (fun hc h => ?_) (fun hc h => ?_)
 ·cbv;have h := ret_some h;subst h;exact hK _ _ _ hO (.lit _ (lst_nil))
 ·cbv;refine n_idx hE Encs.eLGEvent_eq h fun x1 h => ?_;cbv;have h := ret_some h;subst h;exact hK _ _ _ hO (.refl _)
def cf142 : Cf := ⟨[4], [], [], [], [], []⟩
theorem c142 (N : Nat) (x_e : GEvent) (x_k : Int) (r : (GValue × Int)) (h : expr_field N x_e x_k = some r) : CallP Tryz.prog 142 [.agg [.int .i64 x_e.Source, .int .i64 x_e.Seq, .int .i64 x_e.Typ, .int .i64 x_e.Time, .sl (Ar.lst Encs.eGValue x_e.Values) .ro], .int .i64 x_k] (.tup [.agg [.int .i64 r.1.Kind, .int .i64 r.1.Num, .str r.1.Text], .int .i64 r.2]) := by
 unfold expr_field at h
 refine callP_of_spec cf142 okP Tryz.func142 (by rfl) (by kernel_rfl) Tryz.call142 Tryz.ntmps142 (by rfl) (by rfl) ?_;intro E H0 K hE hK
 have hO : Own Eq H0 [] H0 := .start stable_eq rfl
 cbv;refine n_alloc hE hO fun b1 H hO => ?_;cbv;refine n_ln hE ?_;cbv;refine n_br hE h (fun hc h => ?_) (fun hc h => ?_)
 ·cbv;refine n_store hE hO 0 rfl rfl fun H hO => ?_;cbv;refine n_load hE hO 0 rfl ?_;cbv;have h := ret_some h;subst h;exact hK _ _ _ hO (.refl _)
 ·cbv;refine n_idx hE Encs.eGValue_eq h fun x2 h => ?_;cbv;refine n_store hE hO 0 rfl rfl fun H hO => ?_;cbv;refine n_load hE hO 0 rfl ?_;cbv;have h := ret_some h;subst h;exact hK _ _ _ hO (.refl _)
def cf166 : Cf := ⟨[], [], [], [], [], []⟩
theorem c166 (N : Nat) (x_kind : Int) (r : Bool) (h : aggregate_known N x_kind = some r) : CallP Tryz.prog 166 [.int .i64 x_kind] (.bool r) := by
 unfold aggregate_known at h
 refine callP_of_spec cf166 okP Tryz.func166 (by rfl) (by kernel_rfl) Tryz.call166 Tryz.ntmps166 (by rfl) (by rfl) ?_;intro E H0 K hE hK
 have hO : Own Eq H0 [] H0 := .start stable_eq rfl
 cbv;have h := ret_some h;subst h;exact hK _ _ _ hO (.refl _)
def cf174 : Cf := ⟨[], [], [], [], [], []⟩
theorem c174 (N : Nat) (x_kind : Int) (x_v : GValue) (r : Bool) (h : aggregate_suits N x_kind x_v = some r) : CallP Tryz.prog 174 [.int .i64 x_kind, .agg [.int .i64 x_v.Kind, .int .i64 x_v.Num, .str x_v.Text]] (.bool r) := by
 unfold aggregate_suits at h
 refine callP_of_spec cf174 okP Tryz.func174 (by rfl) (by kernel_rfl) Tryz.call174 Tryz.ntmps174 (by rfl) (by rfl) ?_;intro E H0 K hE hK
 have hO : Own Eq H0 [] H0 := .start stable_eq rfl
 cbv;have h := ret_some h;subst h;exact hK _ _ _ hO (.refl _)
def cf167 : Cf := ⟨[], [], [], [], [], []⟩
theorem c167 (N : Nat) (x_kind : Int) (x_v : GValue) (r : Int) (h : aggregate_wrong N x_kind x_v = some r) : CallP Tryz.prog 167 [.int .i64 x_kind, .agg [.int .i64 x_v.Kind, .int .i64 x_v.Num, .str x_v.Text]] (.int .i64 r) := by
 unfold aggregate_wrong at h
 refine callP_of_spec cf167 okP Tryz.func167 (by rfl) (by kernel_rfl) Tryz.call167 Tryz.ntmps167 (by rfl) (by rfl) ?_;intro E H0 K hE hK
 have hO : Own Eq H0 [] H0 := .start stable_eq rfl
 cbv;refine n_call hE (g := fun r1 => .int .i64 r1) h (fun r1 hx => c70 N x_v r1 hx) (.refl _) fun r1 h => ?_;cbv;refine n_br hE h (fun hc h => ?_) (fun hc h => ?_)
 ·cbv;have h := ret_some h;subst h;exact hK _ _ _ hO (.refl _)
 ·cbv;refine n_call hE (g := fun r2 => .bool r2) h (fun r2 hx => c174 N x_kind x_v r2 hx) (.refl _) fun r2 h => ?_;cbv;refine n_br hE h (fun hc h => ?_) (fun hc h => ?_)
  ·cbv;have h := ret_some h;subst h;exact hK _ _ _ hO (.refl _)
  ·cbv;have h := ret_some h;subst h;exact hK _ _ _ hO (.refl _)
def cf168 : Cf := ⟨[3, 6], [], [], [], [], []⟩
theorem c168 (N : Nat) (x_first : GAccumulator) (x_l : List GValue) (v_step : V) (x_step : GAccumulator → GValue → Option GAccumulator) (h_step : ∀ y1 y2 q, x_step y1 y2 = some q → CallVP Tryz.prog v_step [.agg [.int .i64 y1.Kind, .int .i64 y1.Count, .int .i64 y1.Value.Kind, .int .i64 y1.Value.Num, .str y1.Value.Text], .agg [.int .i64 y2.Kind, .int .i64 y2.Num, .str y2.Text]] (.agg [.int .i64 q.Kind, .int .i64 q.Count, .int .i64 q.Value.Kind, .int .i64 q.Value.Num, .str q.Value.Text])) (r : GAccumulator) (h : aggregate_folded_Accumulator_Value N x_first x_l x_step = some r) : CallP Tryz.prog 168 [.agg [.int .i64 x_first.Kind, .int .i64 x_first.Count, .int .i64 x_first.Value.Kind, .int .i64 x_first.Value.Num, .str x_first.Value.Text], .sl (Ar.lst Encs.eGValue x_l) .ro, v_step] (.agg [.int .i64 r.Kind, .int .i64 r.Count, .int .i64 r.Value.Kind, .int .i64 r.Value.Num, .str r.Value.Text]) := by
 unfold aggregate_folded_Accumulator_Value at h
 refine callP_of_spec cf168 okP Tryz.func168 (by rfl) (by kernel_rfl) Tryz.call168 Tryz.ntmps168 (by rfl) (by rfl) ?_;intro E H0 K hE hK
 have hO : Own Eq H0 [] H0 := .start stable_eq rfl
 cbv;refine n_alloc hE hO fun b1 H hO => ?_;cbv;refine n_alloc hE hO fun b2 H hO => ?_;cbv;refine n_ln hE ?_;cbv;obtain ⟨s4, hx, h⟩ := bind_some h;refine n_loopN cf168 hE okP (fun s3 => [(2, .v (v_step)), (3, .v (.ref b1 0)), (6, .v (.ref b2 0)), (9, .v (.sl (Ar.lst Encs.eGValue x_l) .ro)), (10, .v (.int .i64 (Ar.len x_l))), (11, .v (.int .i64 s3.1))]) (fun s3 H1 => Own Eq H0 [.blk b2 (.cells [.int .i64 0, .int .i64 0, .int .i64 0, .int .i64 0, .str (⟨#[]⟩)]), .blk b1 (.cells [.int .i64 s3.2.Kind, .int .i64 s3.2.Count, .int .i64 s3.2.Value.Kind, .int .i64 s3.2.Value.Num, .str s3.2.Value.Text])] H1) (fun x e l H1 => e = .exit 0 ∧ l = [(3, .v (.ref b1 0)), (6, .v (.ref b2 0))] ∧ Own Eq H0 [.blk b2 (.cells [.int .i64 0, .int .i64 0, .int .i64 0, .int .i64 0, .str (⟨#[]⟩)]), .blk b1 (.cells [.int .i64 x.Kind, .int .i64 x.Count, .int .i64 x.Value.Kind, .int .i64 x.Value.Num, .str x.Value.Text])] H1) (by kernel_rfl) ?_ hx ?_ hO ?_
 ·intro s3 H o hO h;clear hx;cbv;refine n_br hE h (fun hc h => ?_) (fun hc h => ?_)
  ·cbv;refine n_idx hE Encs.eGValue_eq h fun x5 h => ?_;cbv;refine n_load hE hO 1 rfl ?_;cbv;refine n_callF hE (g := fun r6 => .agg [.int .i64 r6.Kind, .int .i64 r6.Count, .int .i64 r6.Value.Kind, .int .i64 r6.Value.Num, .str r6.Value.Text]) h (fun r6 hx => h_step s3.2 x5 r6 hx) (.refl _) fun r6 h => ?_;cbv;refine n_store hE hO 1 rfl rfl fun H hO => ?_;cbv;have h := ret_some h;subst h;exact ⟨_, rfl, .e rfl (.e rfl (.e rfl (.e rfl (.e rfl (.e rfl (.z)))))), rfl, hO⟩
  ·cbv;have h := ret_some h;subst h;exact ⟨_, _, rfl, ⟨rfl, rfl, hO⟩, .e rfl (.e rfl (.z)), rfl⟩
 ·exact .e rfl (.e rfl (.e rfl (.e rfl (.e rfl (.e rfl (.z))))))
 ·clear hx;rintro e l H ⟨rfl, rfl, hO⟩;cbv;refine n_load hE hO 1 rfl ?_;cbv;refine n_store hE hO 0 rfl rfl fun H hO => ?_;cbv;refine n_load hE hO 0 rfl ?_;cbv;have h := ret_some h;subst h;exact hK _ _ _ hO (.refl _)
def cf177 : Cf := ⟨[0], [], [], [], [], []⟩
theorem c177 (N : Nat) (r : GValue) (h : aggregate_combine_1 N  = some r) : CallP Tryz.prog 177 [] (.agg [.int .i64 r.Kind, .int .i64 r.Num, .str r.Text]) := by
 unfold aggregate_combine_1 at h
 refine callP_of_spec cf177 okP Tryz.func177 (by rfl) (by kernel_rfl) Tryz.call177 Tryz.ntmps177 (by rfl) (by rfl) ?_;intro E H0 K hE hK
 have hO : Own Eq H0 [] H0 := .start stable_eq rfl
 cbv;refine n_alloc hE hO fun b1 H hO => ?_;cbv;refine n_store hE hO 0 rfl rfl fun H hO => ?_;cbv;refine n_load hE hO 0 rfl ?_;cbv;have h := ret_some h;subst h;exact hK _ _ _ hO (.refl _)
def cf178 : Cf := ⟨[2], [], [], [], [], []⟩
theorem c178 (N : Nat) (x_0 : GValue) (x_1 : GValue) (r : GValue) (h : aggregate_combine_2 N x_0 x_1 = some r) : CallP Tryz.prog 178 [.eref [.int .i64 x_0.Kind, .int .i64 x_0.Num, .str x_0.Text] 0, .eref [.int .i64 x_1.Kind, .int .i64 x_1.Num, .str x_1.Text] 0] (.agg [.int .i64 r.Kind, .int .i64 r.Num, .str r.Text]) := by
 unfold aggregate_combine_2 at h
 refine callP_of_spec cf178 okP Tryz.func178 (by rfl) (by kernel_rfl) Tryz.call178 Tryz.ntmps178 (by rfl) (by rfl) ?_;intro E H0 K hE hK
 have hO : Own Eq H0 [] H0 := .start stable_eq rfl
 cbv;refine n_alloc hE hO fun b1 H hO => ?_;cbv;refine n_store hE hO 0 rfl rfl fun H hO => ?_;cbv;refine n_load hE hO 0 rfl ?_;cbv;have h := ret_some h;subst h;exact hK _ _ _ hO (.refl _)
def cf179 : Cf := ⟨[2], [], [], [], [], []⟩
theorem c179 (N : Nat) (x_0 : GValue) (x_1 : GValue) (r : GValue) (h : aggregate_combine_3 N x_0 x_1 = some r) : CallP Tryz.prog 179 [.eref [.int .i64 x_0.Kind, .int .i64 x_0.Num, .str x_0.Text] 0, .eref [.int .i64 x_1.Kind, .int .i64 x_1.Num, .str x_1.Text] 0] (.agg [.int .i64 r.Kind, .int .i64 r.Num, .str r.Text]) := by
 unfold aggregate_combine_3 at h
 refine callP_of_spec cf179 okP Tryz.func179 (by rfl) (by kernel_rfl) Tryz.call179 Tryz.ntmps179 (by rfl) (by rfl) ?_;intro E H0 K hE hK
 have hO : Own Eq H0 [] H0 := .start stable_eq rfl
 cbv;refine n_alloc hE hO fun b1 H hO => ?_;cbv;refine n_store hE hO 0 rfl rfl fun H hO => ?_;cbv;refine n_load hE hO 0 rfl ?_;cbv;have h := ret_some h;subst h;exact hK _ _ _ hO (.refl _)
def cf180 : Cf := ⟨[2], [], [], [], [], []⟩
theorem c180 (N : Nat) (x_0 : GValue) (x_1 : GValue) (r : GValue) (h : aggregate_combine_4 N x_0 x_1 = some r) : CallP Tryz.prog 180 [.eref [.int .i64 x_0.Kind, .int .i64 x_0.Num, .str x_0.Text] 0, .eref [.int .i64 x_1.Kind, .int .i64 x_1.Num, .str x_1.Text] 0] (.agg [.int .i64 r.Kind, .int .i64 r.Num, .str r.Text]) := by
 unfold aggregate_combine_4 at h
 refine callP_of_spec cf180 okP Tryz.func180 (by rfl) (by kernel_rfl) Tryz.call180 Tryz.ntmps180 (by rfl) (by rfl) ?_;intro E H0 K hE hK
 have hO : Own Eq H0 [] H0 := .start stable_eq rfl
 cbv;refine n_alloc hE hO fun b1 H hO => ?_;cbv;refine n_store hE hO 0 rfl rfl fun H hO => ?_;cbv;refine n_load hE hO 0 rfl ?_;cbv;have h := ret_some h;subst h;exact hK _ _ _ hO (.refl _)
def cf181 : Cf := ⟨[1], [], [], [], [], []⟩
theorem c181 (N : Nat) (x_0 : GValue) (r : GValue) (h : aggregate_combine_5 N x_0 = some r) : CallP Tryz.prog 181 [.eref [.int .i64 x_0.Kind, .int .i64 x_0.Num, .str x_0.Text] 0] (.agg [.int .i64 r.Kind, .int .i64 r.Num, .str r.Text]) := by
 unfold aggregate_combine_5 at h
 refine callP_of_spec cf181 okP Tryz.func181 (by rfl) (by kernel_rfl) Tryz.call181 Tryz.ntmps181 (by rfl) (by rfl) ?_;intro E H0 K hE hK
 have hO : Own Eq H0 [] H0 := .start stable_eq rfl
 cbv;refine n_alloc hE hO fun b1 H hO => ?_;cbv;refine n_store hE hO 0 rfl rfl fun H hO => ?_;cbv;refine n_load hE hO 0 rfl ?_;cbv;have h := ret_some h;subst h;exact hK _ _ _ hO (.refl _)
def cf182 : Cf := ⟨[1], [], [], [], [], []⟩
theorem c182 (N : Nat) (x_0 : GValue) (r : GValue) (h : aggregate_combine_6 N x_0 = some r) : CallP Tryz.prog 182 [.eref [.int .i64 x_0.Kind, .int .i64 x_0.Num, .str x_0.Text] 0] (.agg [.int .i64 r.Kind, .int .i64 r.Num, .str r.Text]) := by
 unfold aggregate_combine_6 at h
 refine callP_of_spec cf182 okP Tryz.func182 (by rfl) (by kernel_rfl) Tryz.call182 Tryz.ntmps182 (by rfl) (by rfl) ?_;intro E H0 K hE hK
 have hO : Own Eq H0 [] H0 := .start stable_eq rfl
 cbv;refine n_alloc hE hO fun b1 H hO => ?_;cbv;refine n_store hE hO 0 rfl rfl fun H hO => ?_;cbv;refine n_load hE hO 0 rfl ?_;cbv;have h := ret_some h;subst h;exact hK _ _ _ hO (.refl _)
def cf175 : Cf := ⟨[6], [], [], [], [], []⟩
theorem c175 (N : Nat) (x_kind : Int) (x_a : GValue) (x_b : GValue) (r : GValue) (h : aggregate_combine N x_kind x_a x_b = some r) : CallP Tryz.prog 175 [.int .i64 x_kind, .agg [.int .i64 x_a.Kind, .int .i64 x_a.Num, .str x_a.Text], .agg [.int .i64 x_b.Kind, .int .i64 x_b.Num, .str x_b.Text]] (.agg [.int .i64 r.Kind, .int .i64 r.Num, .str r.Text]) := by
 unfold aggregate_combine at h
 refine callP_of_spec cf175 okP Tryz.func175 (by rfl) (by kernel_rfl) Tryz.call175 Tryz.ntmps175 (by rfl) (by rfl) ?_;intro E H0 K hE hK
 have hO : Own Eq H0 [] H0 := .start stable_eq rfl
 cbv;refine n_alloc hE hO fun b1 H hO => ?_;cbv;refine n_aidxB hE [0, 1, 2, 3, 4, 5] (by rfl) ?_;cbv;refine n_br hE h (fun hc h => ?_) (fun hc h => ?_)
 ·cbv;refine n_call hE (g := fun r2 => .agg [.int .i64 r2.Kind, .int .i64 r2.Num, .str r2.Text]) h (fun r2 hx => c177 N  r2 hx) (.refl _) fun r2 h => ?_;cbv;refine n_store hE hO 0 rfl rfl fun H hO => ?_;cbv;refine n_load hE hO 0 rfl ?_;cbv;have h := ret_some h;subst h;exact hK _ _ _ hO (.refl _)
 ·cbv;refine n_br hE h (fun hc h => ?_) (fun hc h => ?_)
  ·cbv;refine n_callF hE (g := fun r3 => .agg [.int .i64 r3.Kind, .int .i64 r3.Num, .str r3.Text]) h (fun r3 hx => CallP.value (F := []) (C := [.eref [.int .i64 x_a.Kind, .int .i64 x_a.Num, .str x_a.Text] 0, .eref [.int .i64 x_b.Kind, .int .i64 x_b.Num, .str x_b.Text] 0]) (c178 N x_a x_b r3 hx)) (.refl _) fun r3 h => ?_;cbv;refine n_store hE hO 0 rfl rfl fun H hO => ?_;cbv;refine n_load hE hO 0 rfl ?_;cbv;have h := ret_some h;subst h;exact hK _ _ _ hO (.refl _)
  ·cbv;refine n_br hE h (fun hc h => ?_) (fun hc h => ?_)
   ·cbv;refine n_callF hE (g := fun r4 => .agg [.int .i64 r4.Kind, .int .i64 r4.Num, .str r4.Text]) h (fun r4 hx => CallP.value (F := []) (C := [.eref [.int .i64 x_a.Kind, .int .i64 x_a.Num, .str x_a.Text] 0, .eref [.int .i64 x_b.Kind, .int .i64 x_b.Num, .str x_b.Text] 0]) (c179 N x_a x_b r4 hx)) (.refl _) fun r4 h => ?_;cbv;refine n_store hE hO 0 rfl rfl fun H hO => ?_;cbv;refine n_load hE hO 0 rfl ?_;cbv;have h := ret_some h;subst h;exact hK _ _ _ hO (.refl _)
   ·cbv;refine n_br hE h (fun hc h => ?_) (fun hc h => ?_)
    ·cbv;refine n_callF hE (g := fun r5 => .agg [.int .i64 r5.Kind, .int .i64 r5.Num, .str r5.Text]) h (fun r5 hx => CallP.value (F := []) (C := [.eref [.int .i64 x_a.Kind, .int .i64 x_a.Num, .str x_a.Text] 0, .eref [.int .i64 x_b.Kind, .int .i64 x_b.Num, .str x_b.Text] 0]) (c180 N x_a x_b r5 hx)) (.refl _) fun r5 h => ?_;cbv;refine n_store hE hO 0 rfl rfl fun H hO => ?_;cbv;refine n_load hE hO 0 rfl ?_;cbv;have h := ret_some h;subst h;exact hK _ _ _ hO (.refl _)
    ·cbv;refine n_br hE h (fun hc h => ?_) (fun hc h => ?_)
     ·cbv;refine n_callF hE (g := fun r6 => .agg [.int .i64 r6.Kind, .int .i64 r6.Num, .str r6.Text]) h (fun r6 hx => CallP.value (F := []) (C := [.eref [.int .i64 x_a.Kind, .int .i64 x_a.Num, .str x_a.Text] 0]) (c181 N x_a r6 hx)) (.refl _) fun r6 h => ?_;cbv;refine n_store hE hO 0 rfl rfl fun H hO => ?_;cbv;refine n_load hE hO 0 rfl ?_;cbv;have h := ret_some h;subst h;exact hK _ _ _ hO (.refl _)
     ·cbv;refine n_br hE h (fun hc h => ?_) (fun hc h => ?_)
      ·cbv;refine n_callF hE (g := fun r7 => .agg [.int .i64 r7.Kind, .int .i64 r7.Num, .str r7.Text]) h (fun r7 hx => CallP.value (F := []) (C := [.eref [.int .i64 x_b.Kind, .int .i64 x_b.Num, .str x_b.Text] 0]) (c182 N x_b r7 hx)) (.refl _) fun r7 h => ?_;cbv;refine n_store hE hO 0 rfl rfl fun H hO => ?_;cbv;refine n_load hE hO 0 rfl ?_;cbv;have h := ret_some h;subst h;exact hK _ _ _ hO (.refl _)
      ·cbv
       cases h
def cf170 : Cf := ⟨[4], [(5, 14)], [], [], [], []⟩
theorem c170 (N : Nat) (x_a : GAccumulator) (x_b : GAccumulator) (r : GAccumulator) (h : aggregate_merged N x_a x_b = some r) : CallP Tryz.prog 170 [.agg [.int .i64 x_a.Kind, .int .i64 x_a.Count, .int .i64 x_a.Value.Kind, .int .i64 x_a.Value.Num, .str x_a.Value.Text], .agg [.int .i64 x_b.Kind, .int .i64 x_b.Count, .int .i64 x_b.Value.Kind, .int .i64 x_b.Value.Num, .str x_b.Value.Text]] (.agg [.int .i64 r.Kind, .int .i64 r.Count, .int .i64 r.Value.Kind, .int .i64 r.Value.Num, .str r.Value.Text]) := by
 unfold aggregate_merged at h
 refine callP_of_spec cf170 okP Tryz.func170 (by rfl) (by kernel_rfl) Tryz.call170 Tryz.ntmps170 (by rfl) (by rfl) ?_;intro E H0 K hE hK
 have hO : Own Eq H0 [] H0 := .start stable_eq rfl
 cbv;refine n_alloc hE hO fun b1 H hO => ?_;cbv;refine n_br hE h (fun hc h => ?_) (fun hc h => ?_)
 ·cbv;refine n_store hE hO 0 rfl rfl fun H hO => ?_;cbv;refine n_load hE hO 0 rfl ?_;cbv;have h := ret_some h;subst h;exact hK _ _ _ hO (.refl _)
 ·cbv;refine n_br hE h (fun hc h => ?_) (fun hc h => ?_)
  ·cbv;refine n_store hE hO 0 rfl rfl fun H hO => ?_;cbv;refine n_load hE hO 0 rfl ?_;cbv;have h := ret_some h;subst h;exact hK _ _ _ hO (.refl _)
  ·cbv;refine n_pcall hE (g := fun r2 => .agg [.int .i64 r2.Kind, .int .i64 r2.Num, .str r2.Text]) h (fun r2 hx => c175 N x_a.Kind x_a.Value x_b.Value r2 hx) (.refl _) fun r2 h => ?_;cbv;refine n_store hE hO 0 rfl rfl fun H hO => ?_;cbv;refine n_load hE hO 0 rfl ?_;cbv;have h := ret_some h;subst h;exact hK _ _ _ hO (.refl _)
def cf171 : Cf := ⟨[4], [], [], [], [], []⟩
theorem c171 (N : Nat) (x_kind : Int) (x_v : GValue) (r : GValue) (h : aggregate_single N x_kind x_v = some r) : CallP Tryz.prog 171 [.int .i64 x_kind, .agg [.int .i64 x_v.Kind, .int .i64 x_v.Num, .str x_v.Text]] (.agg [.int .i64 r.Kind, .int .i64 r.Num, .str r.Text]) := by
 unfold aggregate_single at h
 refine callP_of_spec cf171 okP Tryz.func171 (by rfl) (by kernel_rfl) Tryz.call171 Tryz.ntmps171 (by rfl) (by rfl) ?_;intro E H0 K hE hK
 have hO : Own Eq H0 [] H0 := .start stable_eq rfl
 cbv;refine n_alloc hE hO fun b1 H hO => ?_;cbv;refine n_br hE h (fun hc h => ?_) (fun hc h => ?_)
 ·cbv;refine n_store hE hO 0 rfl rfl fun H hO => ?_;cbv;refine n_load hE hO 0 rfl ?_;cbv;have h := ret_some h;subst h;exact hK _ _ _ hO (.refl _)
 ·cbv;refine n_store hE hO 0 rfl rfl fun H hO => ?_;cbv;refine n_load hE hO 0 rfl ?_;cbv;have h := ret_some h;subst h;exact hK _ _ _ hO (.refl _)
def cf169 : Cf := ⟨[5], [(1, 6)], [], [], [], []⟩
theorem c169 (N : Nat) (x_a : GAccumulator) (x_v : GValue) (x_2 : Int) (r : GAccumulator) (h : aggregate_Of_1 N x_a x_v x_2 = some r) : CallP Tryz.prog 169 [.agg [.int .i64 x_a.Kind, .int .i64 x_a.Count, .int .i64 x_a.Value.Kind, .int .i64 x_a.Value.Num, .str x_a.Value.Text], .agg [.int .i64 x_v.Kind, .int .i64 x_v.Num, .str x_v.Text], .eref [.int .i64 x_2] 0] (.agg [.int .i64 r.Kind, .int .i64 r.Count, .int .i64 r.Value.Kind, .int .i64 r.Value.Num, .str r.Value.Text]) := by
 unfold aggregate_Of_1 at h
 refine callP_of_spec cf169 okP Tryz.func169 (by rfl) (by kernel_rfl) Tryz.call169 Tryz.ntmps169 (by rfl) (by rfl) ?_;intro E H0 K hE hK
 have hO : Own Eq H0 [] H0 := .start stable_eq rfl
 cbv;refine n_alloc hE hO fun b1 H hO => ?_;cbv;refine n_pcall hE (g := fun r2 => .agg [.int .i64 r2.Kind, .int .i64 r2.Num, .str r2.Text]) h (fun r2 hx => c171 N x_2 x_v r2 hx) (.refl _) fun r2 h => ?_;cbv;refine n_call hE (g := fun r3 => .agg [.int .i64 r3.Kind, .int .i64 r3.Count, .int .i64 r3.Value.Kind, .int .i64 r3.Value.Num, .str r3.Value.Text]) h (fun r3 hx => c170 N x_a (⟨x_2, 1, r2⟩ : GAccumulator) r3 hx) (.refl _) fun r3 h => ?_;cbv;refine n_store hE hO 0 rfl rfl fun H hO => ?_;cbv;refine n_load hE hO 0 rfl ?_;cbv;have h := ret_some h;subst h;exact hK _ _ _ hO (.refl _)
def cf176 : Cf := ⟨[], [], [], [], [], []⟩
theorem c176 (N : Nat) (x_a : GAccumulator) (r : Int) (h : aggregate_Check N x_a = some r) : CallP Tryz.prog 176 [.agg [.int .i64 x_a.Kind, .int .i64 x_a.Count, .int .i64 x_a.Value.Kind, .int .i64 x_a.Value.Num, .str x_a.Value.Text]] (.int .i64 r) := by
 unfold aggregate_Check at h
 refine callP_of_spec cf176 okP Tryz.func176 (by rfl) (by kernel_rfl) Tryz.call176 Tryz.ntmps176 (by rfl) (by rfl) ?_;intro E H0 K hE hK
 have hO : Own Eq H0 [] H0 := .start stable_eq rfl
 cbv;refine n_call hE (g := fun r1 => .bool r1) h (fun r1 hx => c166 N x_a.Kind r1 hx) (.refl _) fun r1 h => ?_;cbv;refine n_br hE h (fun hc h => ?_) (fun hc h => ?_)
 ·cbv;have h := ret_some h;subst h;exact hK _ _ _ hO (.refl _)
 ·cbv;refine n_br hE h (fun hc h => ?_) (fun hc h => ?_)
  ·cbv;have h := ret_some h;subst h;exact hK _ _ _ hO (.refl _)
  ·cbv;refine n_br hE h (fun hc h => ?_) (fun hc h => ?_)
   ·cbv;refine n_br hE h (fun hc h => ?_) (fun hc h => ?_)
    ·cbv;have h := ret_some h;subst h;exact hK _ _ _ hO (.refl _)
    ·cbv;have h := ret_some h;subst h;exact hK _ _ _ hO (.refl _)
   ·cbv;refine n_br hE h (fun hc h => ?_) (fun hc h => ?_)
    ·cbv;refine n_br hE h (fun hc h => ?_) (fun hc h => ?_)
     ·cbv;have h := ret_some h;subst h;exact hK _ _ _ hO (.refl _)
     ·cbv;have h := ret_some h;subst h;exact hK _ _ _ hO (.refl _)
    ·cbv;refine n_call hE (g := fun r2 => .int .i64 r2) h (fun r2 hx => c70 N x_a.Value r2 hx) (.refl _) fun r2 h => ?_;cbv;refine n_br hE h (fun hc h => ?_) (fun hc h => ?_)
     ·cbv;refine n_call hE (g := fun r3 => .bool r3) h (fun r3 hx => c174 N x_a.Kind x_a.Value r3 hx) (.refl _) fun r3 h => ?_;cbv;refine n_br hE h (fun hc h => ?_) (fun hc h => ?_)
      ·cbv;have h := ret_some h;subst h;exact hK _ _ _ hO (.refl _)
      ·cbv;have h := ret_some h;subst h;exact hK _ _ _ hO (.refl _)
     ·cbv;have h := ret_some h;subst h;exact hK _ _ _ hO (.refl _)
def cf172 : Cf := ⟨[4], [], [], [], [], []⟩
theorem c172 (N : Nat) (x_a : GAccumulator) (x_otherwise : GValue) (r : (GValue × Int)) (h : aggregate_Result N x_a x_otherwise = some r) : CallP Tryz.prog 172 [.agg [.int .i64 x_a.Kind, .int .i64 x_a.Count, .int .i64 x_a.Value.Kind, .int .i64 x_a.Value.Num, .str x_a.Value.Text], .agg [.int .i64 x_otherwise.Kind, .int .i64 x_otherwise.Num, .str x_otherwise.Text]] (.tup [.agg [.int .i64 r.1.Kind, .int .i64 r.1.Num, .str r.1.Text], .int .i64 r.2]) := by
 unfold aggregate_Result at h
 refine callP_of_spec cf172 okP Tryz.func172 (by rfl) (by kernel_rfl) Tryz.call172 Tryz.ntmps172 (by rfl) (by rfl) ?_;intro E H0 K hE hK
 have hO : Own Eq H0 [] H0 := .start stable_eq rfl
 cbv;refine n_alloc hE hO fun b1 H hO => ?_;cbv;refine n_call hE (g := fun r2 => .int .i64 r2) h (fun r2 hx => c176 N x_a r2 hx) (.refl _) fun r2 h => ?_;cbv;refine n_br hE h (fun hc h => ?_) (fun hc h => ?_)
 ·cbv;refine n_store hE hO 0 rfl rfl fun H hO => ?_;cbv;refine n_load hE hO 0 rfl ?_;cbv;have h := ret_some h;subst h;exact hK _ _ _ hO (.refl _)
 ·cbv;refine n_call hE (g := fun r3 => .int .i64 r3) h (fun r3 hx => c167 N x_a.Kind x_otherwise r3 hx) (.refl _) fun r3 h => ?_;cbv;refine n_br hE h (fun hc h => ?_) (fun hc h => ?_)
  ·cbv;refine n_store hE hO 0 rfl rfl fun H hO => ?_;cbv;refine n_load hE hO 0 rfl ?_;cbv;have h := ret_some h;subst h;exact hK _ _ _ hO (.refl _)
  ·cbv;refine n_br hE h (fun hc h => ?_) (fun hc h => ?_)
   ·cbv;refine n_store hE hO 0 rfl rfl fun H hO => ?_;cbv;refine n_load hE hO 0 rfl ?_;cbv;have h := ret_some h;subst h;exact hK _ _ _ hO (.refl _)
   ·cbv;refine n_br hE h (fun hc h => ?_) (fun hc h => ?_)
    ·cbv;refine n_store hE hO 0 rfl rfl fun H hO => ?_;cbv;refine n_load hE hO 0 rfl ?_;cbv;have h := ret_some h;subst h;exact hK _ _ _ hO (.refl _)
    ·cbv;refine n_store hE hO 0 rfl rfl fun H hO => ?_;cbv;refine n_load hE hO 0 rfl ?_;cbv;have h := ret_some h;subst h;exact hK _ _ _ hO (.refl _)
def cf158 : Cf := ⟨[6], [], [], [], [], []⟩
theorem c158 (N : Nat) (x_kind : Int) (x_l : List GValue) (x_otherwise : GValue) (r : (GValue × Int)) (h : aggregate_Of N x_kind x_l x_otherwise = some r) : CallP Tryz.prog 158 [.int .i64 x_kind, .sl (Ar.lst Encs.eGValue x_l) .ro, .agg [.int .i64 x_otherwise.Kind, .int .i64 x_otherwise.Num, .str x_otherwise.Text]] (.tup [.agg [.int .i64 r.1.Kind, .int .i64 r.1.Num, .str r.1.Text], .int .i64 r.2]) := by
 unfold aggregate_Of at h
 refine callP_of_spec cf158 okP Tryz.func158 (by rfl) (by kernel_rfl) Tryz.call158 Tryz.ntmps158 (by rfl) (by rfl) ?_;intro E H0 K hE hK
 have hO : Own Eq H0 [] H0 := .start stable_eq rfl
 cbv;refine n_alloc hE hO fun b1 H hO => ?_;cbv;refine n_call hE (g := fun r2 => .bool r2) h (fun r2 hx => c166 N x_kind r2 hx) (.refl _) fun r2 h => ?_;cbv;refine n_br hE h (fun hc h => ?_) (fun hc h => ?_)
 ·cbv;refine n_store hE hO 0 rfl rfl fun H hO => ?_;cbv;refine n_load hE hO 0 rfl ?_;cbv;have h := ret_some h;subst h;exact hK _ _ _ hO (.refl _)
 ·cbv;refine n_ln hE ?_;cbv;refine n_br hE h (fun hc h => ?_) (fun hc h => ?_)
  ·cbv;refine n_store hE hO 0 rfl rfl fun H hO => ?_;cbv;refine n_load hE hO 0 rfl ?_;cbv;have h := ret_some h;subst h;exact hK _ _ _ hO (.refl _)
  ·cbv;refine n_ln hE ?_;cbv;obtain ⟨s4, hx, h⟩ := bind_some h;refine n_loopN cf158 hE okP (fun s3 => [(1, .v (.sl (Ar.lst Encs.eGValue x_l) .ro)), (3, .v (.eref [.int .i64 x_kind] 0)), (5, .v (.eref [.int .i64 x_otherwise.Kind, .int .i64 x_otherwise.Num, .str x_otherwise.Text] 0)), (6, .v (.ref b1 0)), (22, .v (.sl (Ar.lst Encs.eGValue x_l) .ro)), (23, .v (.int .i64 (Ar.len x_l))), (24, .v (.int .i64 s3))]) (fun s3 H1 => Own Eq H0 [.blk b1 (.cells [.int .i64 0, .int .i64 0, .str (⟨#[]⟩)])] H1) (fun x e l H1 => match (generalizing := false) x with | .inl y => e = .exit 1 ∧ l = [(1, .v (.sl (Ar.lst Encs.eGValue x_l) .ro)), (3, .v (.eref [.int .i64 x_kind] 0)), (5, .v (.eref [.int .i64 x_otherwise.Kind, .int .i64 x_otherwise.Num, .str x_otherwise.Text] 0)), (6, .v (.ref b1 0))] ∧ Own Eq H0 [.blk b1 (.cells [.int .i64 0, .int .i64 0, .str (⟨#[]⟩)])] H1 | .inr y => e = .ret ∧ l = [(6, .v (.ref b1 0)), (7, .v (.int .i64 y))] ∧ Own Eq H0 [.blk b1 (.cells [.int .i64 0, .int .i64 0, .str (⟨#[]⟩)])] H1) (by kernel_rfl) ?_ hx ?_ hO ?_
   ·intro s3 H o hO h;clear hx;cbv;refine n_br hE h (fun hc h => ?_) (fun hc h => ?_)
    ·cbv;refine n_idx hE Encs.eGValue_eq h fun x5 h => ?_;cbv;refine n_call hE (g := fun r6 => .int .i64 r6) h (fun r6 hx => c167 N x_kind x5 r6 hx) (.refl _) fun r6 h => ?_;cbv;refine n_br hE h (fun hc h => ?_) (fun hc h => ?_)
     ·cbv;refine n_store hE hO 0 rfl rfl fun H hO => ?_;cbv;have h := ret_some h;subst h;exact ⟨_, _, rfl, ⟨rfl, rfl, hO⟩, .e rfl (.e rfl (.z)), rfl⟩
     ·cbv;have h := ret_some h;subst h;exact ⟨_, rfl, .e rfl (.e rfl (.e rfl (.e rfl (.e rfl (.e rfl (.e rfl (.z))))))), rfl, hO⟩
    ·cbv;have h := ret_some h;subst h;exact ⟨_, _, rfl, ⟨rfl, rfl, hO⟩, .e rfl (.e rfl (.e rfl (.e rfl (.z)))), rfl⟩
   ·exact .e rfl (.e rfl (.e rfl (.e rfl (.e rfl (.e rfl (.e rfl (.z)))))))
   ·clear hx
    rcases s4 with y7 | y10
    ·rintro e l H ⟨rfl, rfl, hO⟩;cbv;refine n_call hE (g := fun r8 => .agg [.int .i64 r8.Kind, .int .i64 r8.Count, .int .i64 r8.Value.Kind, .int .i64 r8.Value.Num, .str r8.Value.Text]) h (fun r8 hx => c168 N (⟨x_kind, 0, (⟨0, 0, ⟨#[]⟩⟩ : GValue)⟩ : GAccumulator) x_l (.func (.func 169) [] [.eref [.int .i64 x_kind] 0]) (fun y1 y2 => aggregate_Of_1 N y1 y2 x_kind) (fun y1 y2 r hx => CallP.value (F := []) (C := [.eref [.int .i64 x_kind] 0]) (c169 N y1 y2 x_kind r hx)) r8 hx) (.refl _) fun r8 h => ?_;cbv;refine n_call hE (g := fun r9 => .tup [.agg [.int .i64 r9.1.Kind, .int .i64 r9.1.Num, .str r9.1.Text], .int .i64 r9.2]) h (fun r9 hx => c172 N r8 x_otherwise r9 hx) (.refl _) fun r9 h => ?_;cbv;refine n_store hE hO 0 rfl rfl fun H hO => ?_;cbv;refine n_load hE hO 0 rfl ?_;cbv;have h := ret_some h;subst h;exact hK _ _ _ hO (.refl _)
    ·rintro e l H ⟨rfl, rfl, hO⟩;cbv;refine n_load hE hO 0 rfl ?_;cbv;have h := ret_some h;subst h;exact hK _ _ _ hO (.refl _)
def cf141 : Cf := ⟨[4], [], [], [], [], []⟩
theorem c141 (N : Nat) (x_x : Gexpr_evaluator) (x_e : GExpr) (r : (GValue × Int)) (h : expr_evaluator_total N x_x x_e = some r) : CallP Tryz.prog 141 [.agg [.sl (Ar.lst Encs.eLGEvent x_x.env.Vars) .ro, .int .i64 x_x.own, .int .i64 x_x.event.Source, .int .i64 x_x.event.Seq, .int .i64 x_x.event.Typ, .int .i64 x_x.event.Time, .sl (Ar.lst Encs.eGValue x_x.event.Values) .ro, .fmap fmK138 fmX138], .agg [.int .i64 x_e.Op, .sl (Ar.lst Encs.eGExpr x_e.Args) .ro, .int .i64 x_e.Var, .int .i64 x_e.Field, .int .i64 x_e.Kind, .int .i64 x_e.Value.Kind, .int .i64 x_e.Value.Num, .str x_e.Value.Text]] (.tup [.agg [.int .i64 r.1.Kind, .int .i64 r.1.Num, .str r.1.Text], .int .i64 r.2]) := by
 unfold expr_evaluator_total at h
 refine callP_of_spec cf141 okP Tryz.func141 (by rfl) (by kernel_rfl) Tryz.call141 Tryz.ntmps141 (by rfl) (by rfl) ?_;intro E H0 K hE hK
 have hO : Own Eq H0 [] H0 := .start stable_eq rfl
 cbv;refine n_alloc hE hO fun b1 H hO => ?_;cbv;refine n_call hE (g := fun r2 => .sl (Ar.lst Encs.eGEvent r2) .ro) h (fun r2 hx => c140 N x_x x_e.Var r2 hx) (.refl _) fun r2 h => ?_;cbv;refine n_ln hE ?_;cbv;replace hO := hO.tl0 (t := .nil) rfl;obtain ⟨s5, hx, h⟩ := bind_some h;refine n_loopG cf141 hE okP (γ := Tail) (fun s3 g => [(3, .v (.eref [.int .i64 x_e.Op, .sl (Ar.lst Encs.eGExpr x_e.Args) .ro, .int .i64 x_e.Var, .int .i64 x_e.Field, .int .i64 x_e.Kind, .int .i64 x_e.Value.Kind, .int .i64 x_e.Value.Num, .str x_e.Value.Text] 0)), (4, .v (.ref b1 0)), (6, .v (.sl (Ar.lst Encs.eGValue s3.1) g)), (14, .v (.sl (Ar.lst Encs.eGEvent r2) .ro)), (15, .v (.int .i64 (Ar.len r2))), (16, .v (.int .i64 s3.2))]) (fun s3 g H1 => Appn g ∧ Own Eq H0 [.tl g, .blk b1 (.cells [.int .i64 0, .int .i64 0, .str (⟨#[]⟩)])] H1) (fun x e l H1 => match (generalizing := false) x with | .inl y => ∃ u1 : Tail, Appn u1 ∧ e = .exit 0 ∧ l = [(3, .v (.eref [.int .i64 x_e.Op, .sl (Ar.lst Encs.eGExpr x_e.Args) .ro, .int .i64 x_e.Var, .int .i64 x_e.Field, .int .i64 x_e.Kind, .int .i64 x_e.Value.Kind, .int .i64 x_e.Value.Num, .str x_e.Value.Text] 0)), (4, .v (.ref b1 0)), (6, .v (.sl (Ar.lst Encs.eGValue y) u1))] ∧ Own Eq H0 [.tl u1, .blk b1 (.cells [.int .i64 0, .int .i64 0, .str (⟨#[]⟩)])] H1 | .inr y => ∃ u1 : Tail, Appn u1 ∧ e = .ret ∧ l = [(4, .v (.ref b1 0)), (5, .v (.int .i64 y))] ∧ Own Eq H0 [.tl u1, .blk b1 (.cells [.int .i64 0, .int .i64 0, .str (⟨#[]⟩)])] H1) (by kernel_rfl) ?_ .nil hx ?_ ?_ ?_
 ·rintro s3 t4 H o ⟨ht4, hO⟩ h;clear hx;cbv;refine n_br hE h (fun hc h => ?_) (fun hc h => ?_)
  ·cbv;refine n_idx hE Encs.eGEvent_eq h fun x6 h => ?_;cbv;refine n_call hE (g := fun r7 => .tup [.agg [.int .i64 r7.1.Kind, .int .i64 r7.1.Num, .str r7.1.Text], .int .i64 r7.2]) h (fun r7 hx => c142 N x6 x_e.Field r7 hx) (.refl _) fun r7 h => ?_;cbv;refine n_br hE h (fun hc h => ?_) (fun hc h => ?_)
   ·cbv;refine n_store hE hO 1 rfl rfl fun H hO => ?_;cbv;have h := ret_some h;subst h;exact ⟨_, _, rfl, ⟨t4, ht4, rfl, rfl, hO⟩, .e rfl (.e rfl (.z)), rfl⟩
   ·cbv;refine n_appn (f := Encs.eGValue) hE sz_GValue (by decide) hO 0 rfl ht4 (l := s3.1) (m := [r7.1]) (.refl _) (.lstc (.eq (Encs.eGValue_eq r7.1) (.refl _)) (.lst0)) h fun l9 t8 H hO ht8 h => ?_;cbv;have h := ret_some h;subst h;exact ⟨_, t8, rfl, .e rfl (.e rfl (.e rfl (.e rfl (.e rfl (.e rfl (.z)))))), rfl, ht8, hO⟩
  ·cbv;have h := ret_some h;subst h;exact ⟨_, _, rfl, ⟨t4, ht4, rfl, rfl, hO⟩, .e rfl (.e rfl (.e rfl (.z))), rfl⟩
 ·exact .e rfl (.e rfl (.v (.slt _ (.lst0)) (.e rfl (.e rfl (.e rfl (.z))))))
 ·exact ⟨trivial, hO⟩
 ·clear hx
  rcases s5 with y10 | y13
  ·rintro e l H ⟨t11, ht11, rfl, rfl, hO⟩;cbv;refine n_call hE (g := fun r12 => .tup [.agg [.int .i64 r12.1.Kind, .int .i64 r12.1.Num, .str r12.1.Text], .int .i64 r12.2]) h (fun r12 hx => c158 N x_e.Kind y10 x_e.Value r12 hx) (.cons (.refl _) (.cons (.ro _ _) (.refl _))) fun r12 h => ?_;cbv;refine n_store hE hO 1 rfl rfl fun H hO => ?_;cbv;refine n_load hE hO 1 rfl ?_;cbv;have h := ret_some h;subst h;exact hK _ _ _ hO (.refl _)
  ·rintro e l H ⟨t14, ht14, rfl, rfl, hO⟩;cbv;refine n_load hE hO 1 rfl ?_;cbv;have h := ret_some h;subst h;exact hK _ _ _ hO (.refl _)
def cf118 : Cf := ⟨[4, 7], [], [(38, 12), (63, 19)], [], [], []⟩
theorem c118 (N : Nat) (x_x : Gexpr_evaluator) (x_e : GExpr) (r : (GValue × Int)) (h : expr_evaluator_leaf N x_x x_e = some r) : CallP Tryz.prog 118 [.agg [.sl (Ar.lst Encs.eLGEvent x_x.env.Vars) .ro, .int .i64 x_x.own, .int .i64 x_x.event.Source, .int .i64 x_x.event.Seq, .int .i64 x_x.event.Typ, .int .i64 x_x.event.Time, .sl (Ar.lst Encs.eGValue x_x.event.Values) .ro, .fmap fmK138 fmX138], .agg [.int .i64 x_e.Op, .sl (Ar.lst Encs.eGExpr x_e.Args) .ro, .int .i64 x_e.Var, .int .i64 x_e.Field, .int .i64 x_e.Kind, .int .i64 x_e.Value.Kind, .int .i64 x_e.Value.Num, .str x_e.Value.Text]] (.tup [.agg [.int .i64 r.1.Kind, .int .i64 r.1.Num, .str r.1.Text], .int .i64 r.2]) := by
 unfold expr_evaluator_leaf at h
 refine callP_of_spec cf118 okP Tryz.func118 (by rfl) (by kernel_rfl) Tryz.call118 Tryz.ntmps118 (by rfl) (by rfl) ?_;intro E H0 K hE hK
 have hO : Own Eq H0 [] H0 := .start stable_eq rfl
 cbv;refine n_alloc hE hO fun b1 H hO => ?_;cbv;refine n_call hE (g := fun r2 => .sl (Ar.lst Encs.eGEvent r2) .ro) h (fun r2 hx => c140 N x_x x_e.Var r2 hx) (.refl _) fun r2 h => ?_;cbv;refine n_br hE h (fun hc h => ?_) (fun hc h => ?_)
 ·cbv;refine n_store hE hO 0 rfl rfl fun H hO => ?_;cbv;refine n_load hE hO 0 rfl ?_;cbv;have h := ret_some h;subst h;exact hK _ _ _ hO (.refl _)
 ·cbv;refine n_br hE h (fun hc h => ?_) (fun hc h => ?_)
  ·cbv;refine n_ln hE ?_;cbv;refine n_store hE hO 0 rfl rfl fun H hO => ?_;cbv;refine n_load hE hO 0 rfl ?_;cbv;have h := ret_some h;subst h;exact hK _ _ _ hO (.refl _)
  ·cbv;refine n_br hE h (fun hc h => ?_) (fun hc h => ?_)
   ·cbv;refine n_call hE (g := fun r3 => .tup [.agg [.int .i64 r3.1.Kind, .int .i64 r3.1.Num, .str r3.1.Text], .int .i64 r3.2]) h (fun r3 hx => c141 N x_x x_e r3 hx) (.refl _) fun r3 h => ?_;cbv;refine n_store hE hO 0 rfl rfl fun H hO => ?_;cbv;refine n_load hE hO 0 rfl ?_;cbv;have h := ret_some h;subst h;exact hK _ _ _ hO (.refl _)
   ·cbv;refine n_alloc hE hO fun b4 H hO => ?_;cbv;refine n_store hE hO 0 rfl rfl fun H hO => ?_;cbv;obtain ⟨s5, hx, h⟩ := bind_some h;refine n_join cf118 hE okP (fun e l H1 => match (generalizing := false) s5 with | .inl y => e = .normal ∧ l = [(3, .v (.eref [.int .i64 x_e.Op, .sl (Ar.lst Encs.eGExpr x_e.Args) .ro, .int .i64 x_e.Var, .int .i64 x_e.Field, .int .i64 x_e.Kind, .int .i64 x_e.Value.Kind, .int .i64 x_e.Value.Num, .str x_e.Value.Text] 0)), (4, .v (.ref b1 0)), (7, .v (.ref b4 0))] ∧ Own Eq H0 [.blk b4 (.cells [.int .i64 y.Source, .int .i64 y.Seq, .int .i64 y.Typ, .int .i64 y.Time, .sl (Ar.lst Encs.eGValue y.Values) .ro]), .blk b1 (.cells [.int .i64 0, .int .i64 0, .str (⟨#[]⟩)])] H1 | .inr y => e = .ret ∧ l = [(4, .v (.ref b1 0)), (5, .v (.int .i64 10))] ∧ Own Eq H0 [.blk b4 (.cells [.int .i64 x_x.event.Source, .int .i64 x_x.event.Seq, .int .i64 x_x.event.Typ, .int .i64 x_x.event.Time, .sl (Ar.lst Encs.eGValue x_x.event.Values) .ro]), .blk b1 (.cells [.int .i64 0, .int .i64 0, .str (⟨#[]⟩)])] H1) (by kernel_rfl) ?_ ?_
    ·clear h;have h := hx;clear hx;cbv;refine n_br hE h (fun hc h => ?_) (fun hc h => ?_)
     ·cbv;refine n_ln hE ?_;cbv;refine n_br hE h (fun hc h => ?_) (fun hc h => ?_)
      ·cbv;refine n_store hE hO 1 rfl rfl fun H hO => ?_;cbv;have h := ret_some h;subst h;exact ⟨_, ⟨rfl, rfl, hO⟩, .e rfl (.e rfl (.z)), rfl⟩
      ·cbv;refine n_ln hE ?_;cbv;refine n_idx hE Encs.eGEvent_eq h fun x6 h => ?_;cbv;refine n_store hE hO 0 rfl rfl fun H hO => ?_;cbv;have h := ret_some h;subst h;exact ⟨_, ⟨rfl, rfl, hO⟩, .e rfl (.e rfl (.e rfl (.z))), rfl⟩
     ·cbv;have h := ret_some h;subst h;exact ⟨_, ⟨rfl, rfl, hO⟩, .e rfl (.e rfl (.e rfl (.z))), rfl⟩
    ·clear hx
     rcases s5 with y7 | y11
     ·rintro e l H ⟨rfl, rfl, hO⟩;cbv;refine n_br hE h (fun hc h => ?_) (fun hc h => ?_)
      ·cbv;refine n_load hE hO 0 rfl ?_;cbv;refine n_store hE hO 1 rfl rfl fun H hO => ?_;cbv;refine n_load hE hO 1 rfl ?_;cbv;have h := ret_some h;subst h;exact hK _ _ _ hO (.refl _)
      ·cbv;refine n_load hE hO 0 rfl ?_;cbv;refine n_call hE (g := fun r8 => .tup [.agg [.int .i64 r8.1.Kind, .int .i64 r8.1.Num, .str r8.1.Text], .int .i64 r8.2]) h (fun r8 hx => c142 N y7 x_e.Field r8 hx) (.refl _) fun r8 h => ?_;cbv;obtain ⟨s9, hx, h⟩ := bind_some h;refine n_join cf118 hE okP (fun e l H1 => e = .normal ∧ l = [(4, .v (.ref b1 0)), (8, .v (.eref [.int .i64 r8.1.Kind, .int .i64 r8.1.Num, .str r8.1.Text] 0)), (9, .v (.int .i64 s9))] ∧ Own Eq H0 [.blk b4 (.cells [.int .i64 y7.Source, .int .i64 y7.Seq, .int .i64 y7.Typ, .int .i64 y7.Time, .sl (Ar.lst Encs.eGValue y7.Values) .ro]), .blk b1 (.cells [.int .i64 0, .int .i64 0, .str (⟨#[]⟩)])] H1) (by kernel_rfl) ?_ ?_
       ·clear h;have h := hx;clear hx;cbv;refine n_br hE h (fun hc h => ?_) (fun hc h => ?_)
        ·cbv;refine n_call hE (g := fun r10 => .int .i64 r10) h (fun r10 hx => c70 N r8.1 r10 hx) (.refl _) fun r10 h => ?_;cbv;have h := ret_some h;subst h;exact ⟨_, ⟨rfl, rfl, hO⟩, .e rfl (.e rfl (.e rfl (.z))), rfl⟩
        ·cbv;have h := ret_some h;subst h;exact ⟨_, ⟨rfl, rfl, hO⟩, .e rfl (.e rfl (.e rfl (.z))), rfl⟩
       ·clear hx;rintro e l H ⟨rfl, rfl, hO⟩;cbv;refine n_br hE h (fun hc h => ?_) (fun hc h => ?_)
        ·cbv;refine n_store hE hO 1 rfl rfl fun H hO => ?_;cbv;refine n_load hE hO 1 rfl ?_;cbv;have h := ret_some h;subst h;exact hK _ _ _ hO (.refl _)
        ·cbv;refine n_store hE hO 1 rfl rfl fun H hO => ?_;cbv;refine n_load hE hO 1 rfl ?_;cbv;have h := ret_some h;subst h;exact hK _ _ _ hO (.refl _)
     ·rintro e l H ⟨rfl, rfl, hO⟩;cbv;refine n_load hE hO 1 rfl ?_;cbv;have h := ret_some h;subst h;exact hK _ _ _ hO (.refl _)
def cf74 : Cf := ⟨[4, 3000042, 8000042, 9000042], [(11, 8), (17, 6), (18, 16)], [], [], [], []⟩
theorem c74 (N : Nat) : ∀ (n : Nat) (x_x : Gexpr_evaluator) (x_e : GExpr) (r : (GValue × Int)), expr_evaluator_eval N n x_x x_e = some r → CallP Tryz.prog 74 [.agg [.sl (Ar.lst Encs.eLGEvent x_x.env.Vars) .ro, .int .i64 x_x.own, .int .i64 x_x.event.Source, .int .i64 x_x.event.Seq, .int .i64 x_x.event.Typ, .int .i64 x_x.event.Time, .sl (Ar.lst Encs.eGValue x_x.event.Values) .ro, .fmap fmK138 fmX138], .agg [.int .i64 x_e.Op, .sl (Ar.lst Encs.eGExpr x_e.Args) .ro, .int .i64 x_e.Var, .int .i64 x_e.Field, .int .i64 x_e.Kind, .int .i64 x_e.Value.Kind, .int .i64 x_e.Value.Num, .str x_e.Value.Text]] (.tup [.agg [.int .i64 r.1.Kind, .int .i64 r.1.Num, .str r.1.Text], .int .i64 r.2]) := by
 intro n
 induction n with
 | zero => intro x_x x_e r h; cases h
 | succ n ih =>
 intro x_x x_e r h
 unfold expr_evaluator_eval at h
 refine callP_of_spec cf74 okP Tryz.func74 (by rfl) (by kernel_rfl) Tryz.call74 Tryz.ntmps74 (by rfl) (by rfl) ?_;intro E H0 K hE hK
 have hO : Own Eq H0 [] H0 := .start stable_eq rfl
 cbv;refine n_alloc hE hO fun b1 H hO => ?_;cbv;refine n_ln hE ?_;cbv;refine n_br hE h (fun hc h => ?_) (fun hc h => ?_)
 ·cbv;refine n_call hE (g := fun r2 => .tup [.agg [.int .i64 r2.1.Kind, .int .i64 r2.1.Num, .str r2.1.Text], .int .i64 r2.2]) h (fun r2 hx => c118 N x_x x_e r2 hx) (.refl _) fun r2 h => ?_;cbv;refine n_store hE hO 0 rfl rfl fun H hO => ?_;cbv;refine n_load hE hO 0 rfl ?_;cbv;have h := ret_some h;subst h;exact hK _ _ _ hO (.refl _)
 ·cbv;refine n_ln hE ?_;cbv;replace hO := hO.tl0 (t := .nil) rfl;replace hO := hO.tl0 (t := .nil) rfl;obtain ⟨s6, hx, h⟩ := bind_some h;refine n_loopG cf74 hE okP (γ := Tail × Tail) (fun s3 g => [(2, .v (.eref [.sl (Ar.lst Encs.eLGEvent x_x.env.Vars) .ro, .int .i64 x_x.own, .int .i64 x_x.event.Source, .int .i64 x_x.event.Seq, .int .i64 x_x.event.Typ, .int .i64 x_x.event.Time, .sl (Ar.lst Encs.eGValue x_x.event.Values) .ro, .fmap fmK138 fmX138] 0)), (3, .v (.eref [.int .i64 x_e.Op, .sl (Ar.lst Encs.eGExpr x_e.Args) .ro, .int .i64 x_e.Var, .int .i64 x_e.Field, .int .i64 x_e.Kind, .int .i64 x_e.Value.Kind, .int .i64 x_e.Value.Num, .str x_e.Value.Text] 0)), (4, .v (.ref b1 0)), (6, .v (.sl (Ar.lst Encs.eGValue s3.1) g.2)), (7, .v (.sl (Ar.lst (V.int .i64) s3.2.1) g.1)), (23, .v (.sl (Ar.lst Encs.eGExpr x_e.Args) .ro)), (24, .v (.int .i64 (Ar.len x_e.Args))), (25, .v (.int .i64 s3.2.2))]) (fun s3 g H1 => Appn g.1 ∧ Appn g.2 ∧ Own Eq H0 [.tl g.1, .tl g.2, .blk b1 (.cells [.int .i64 0, .int .i64 0, .str (⟨#[]⟩)])] H1) (fun x e l H1 => match (generalizing := false) x with | .inl y => ∃ u1 : Tail, Appn u1 ∧ ∃ u2 : Tail, Appn u2 ∧ e = .exit 0 ∧ l = [(2, .v (.eref [.sl (Ar.lst Encs.eLGEvent x_x.env.Vars) .ro, .int .i64 x_x.own, .int .i64 x_x.event.Source, .int .i64 x_x.event.Seq, .int .i64 x_x.event.Typ, .int .i64 x_x.event.Time, .sl (Ar.lst Encs.eGValue x_x.event.Values) .ro, .fmap fmK138 fmX138] 0)), (3, .v (.eref [.int .i64 x_e.Op, .sl (Ar.lst Encs.eGExpr x_e.Args) .ro, .int .i64 x_e.Var, .int .i64 x_e.Field, .int .i64 x_e.Kind, .int .i64 x_e.Value.Kind, .int .i64 x_e.Value.Num, .str x_e.Value.Text] 0)), (4, .v (.ref b1 0)), (6, .v (.sl (Ar.lst Encs.eGValue y.1) u2)), (7, .v (.sl (Ar.lst (V.int .i64) y.2) u1))] ∧ Own Eq H0 [.tl u1, .tl u2, .blk b1 (.cells [.int .i64 0, .int .i64 0, .str (⟨#[]⟩)])] H1 | .inr y => ∃ u1 : Tail, Appn u1 ∧ ∃ u2 : Tail, Appn u2 ∧ e = .ret ∧ l = [(4, .v (.ref b1 0)), (5, .v (.int .i64 y))] ∧ Own Eq H0 [.tl u1, .tl u2, .blk b1 (.cells [.int .i64 0, .int .i64 0, .str (⟨#[]⟩)])] H1) (by kernel_rfl) ?_ (⟨.nil, .nil⟩) hx ?_ ?_ ?_
  ·rintro s3 ⟨t4, t5⟩ H o ⟨ht4, ht5, hO⟩ h;clear hx;cbv;refine n_br hE h (fun hc h => ?_) (fun hc h => ?_)
   ·cbv;refine n_idx hE Encs.eGExpr_eq h fun x7 h => ?_;cbv;refine n_call hE (g := fun r8 => .tup [.agg [.int .i64 r8.1.Kind, .int .i64 r8.1.Num, .str r8.1.Text], .int .i64 r8.2]) h (fun r8 hx => ih x_x x7 r8 hx) (.refl _) fun r8 h => ?_;cbv;refine n_br hE h (fun hc h => ?_) (fun hc h => ?_)
    ·cbv;refine n_store hE hO 2 rfl rfl fun H hO => ?_;cbv;have h := ret_some h;subst h;exact ⟨_, _, rfl, ⟨t4, ht4, t5, ht5, rfl, rfl, hO⟩, .e rfl (.e rfl (.z)), rfl⟩
    ·cbv;refine n_takeT hE hO 1 rfl ht5 fun H hO => ?_;cbv;refine n_need hE trivial ?_;cbv;refine n_appq (f := Encs.eGValue) hE sz_GValue (by decide) (l := s3.1) (m := [r8.1]) (.refl _) (.lstc (.eq (Encs.eGValue_eq r8.1) (.refl _)) (.lst0)) h fun l9 h => ?_;cbv;refine n_nameT hE hO 1 rfl fun t10 H hO ht10 => ?_;cbv;refine n_appn (f := (V.int .i64)) hE (fun _ => rfl) (by decide) hO 0 rfl ht4 (l := s3.2.1) (m := [r8.1.Kind]) (.refl _) (.lstc (.refl _) (.lst0)) h fun l12 t11 H hO ht11 h => ?_;cbv;have h := ret_some h;subst h;exact ⟨_, ⟨t11, t10⟩, rfl, .e rfl (.e rfl (.e rfl (.e rfl (.e rfl (.e rfl (.e rfl (.e rfl (.z)))))))), rfl, ht11, ht10, hO⟩
   ·cbv;have h := ret_some h;subst h;exact ⟨_, _, rfl, ⟨t4, ht4, t5, ht5, rfl, rfl, hO⟩, .e rfl (.e rfl (.e rfl (.e rfl (.e rfl (.z))))), rfl⟩
  ·exact .e rfl (.e rfl (.e rfl (.v (.slt _ (.lst0)) (.v (.slt _ (.lst0)) (.e rfl (.e rfl (.e rfl (.z))))))))
  ·exact ⟨trivial, trivial, hO⟩
  ·clear hx
   rcases s6 with y13 | y43
   ·rintro e l H ⟨t14, ht14, t15, ht15, rfl, rfl, hO⟩;cbv;refine n_call hE (g := fun r16 => .int .i64 r16) h (fun r16 hx => c85 N x_e.Op y13.2 r16 hx) (.cons (.refl _) (.cons (.ro _ _) (.refl _))) fun r16 h => ?_;cbv;refine n_br hE h (fun hc h => ?_) (fun hc h => ?_)
    ·cbv;refine n_store hE hO 2 rfl rfl fun H hO => ?_;cbv;refine n_load hE hO 2 rfl ?_;cbv;have h := ret_some h;subst h;exact hK _ _ _ hO (.refl _)
    ·cbv;refine n_br hE h (fun hc h => ?_) (fun hc h => ?_)
     ·cbv;refine n_idx hE Encs.eGValue_eq h fun x17 h => ?_;cbv;refine n_idx hE Encs.eGValue_eq h fun x18 h => ?_;cbv;refine n_call hE (g := fun r19 => .agg [.int .i64 r19.Kind, .int .i64 r19.Num, .str r19.Text]) h (fun r19 hx => c41 N (Ar.an (Ar.cmp .eql x17.Kind x18.Kind) (Ar.an (Ar.cmp .eql x17.Num x18.Num) (Ar.an (Ar.scmp .eql x17.Text x18.Text) true))) r19 hx) (.refl _) fun r19 h => ?_;cbv;refine n_store hE hO 2 rfl rfl fun H hO => ?_;cbv;refine n_load hE hO 2 rfl ?_;cbv;have h := ret_some h;subst h;exact hK _ _ _ hO (.refl _)
     ·cbv;refine n_fget hE (kt := 3) (et := 175) (z := .nilf) (by kernel_rfl) (by kernel_rfl) (by kernel_rfl) rfl ?_;cbv;refine n_br hE h (fun hc h => ?_) (fun hc h => ?_)
      ·cbv;refine n_idx hE Encs.eGValue_eq h fun x20 h => ?_;cbv;refine n_ln hE ?_;cbv;refine n_idx hE Encs.eGValue_eq h fun x21 h => ?_;cbv;refine n_callF hE (g := fun r22 => .agg [.int .i64 r22.Kind, .int .i64 r22.Num, .str r22.Text]) h (fun r22 hx => CallP.value (F := []) (C := [.eref [.func (.func 110) [] []] 0]) (c111 N x20.Num x21.Num (.func (.func 110) [] []) (fun y1 => expr_operations_1 N y1) (fun y1 r hx => CallP.value (F := []) (C := []) (c110 N y1 r hx)) r22 hx)) (.refl _) fun r22 h => ?_;cbv;refine n_store hE hO 2 rfl rfl fun H hO => ?_;cbv;refine n_load hE hO 2 rfl ?_;cbv;have h := ret_some h;subst h;exact hK _ _ _ hO (.refl _)
      ·cbv;refine n_br hE h (fun hc h => ?_) (fun hc h => ?_)
       ·cbv;refine n_idx hE Encs.eGValue_eq h fun x23 h => ?_;cbv;refine n_ln hE ?_;cbv;refine n_idx hE Encs.eGValue_eq h fun x24 h => ?_;cbv;refine n_callF hE (g := fun r25 => .agg [.int .i64 r25.Kind, .int .i64 r25.Num, .str r25.Text]) h (fun r25 hx => CallP.value (F := []) (C := [.eref [.func (.func 110) [] []] 0]) (c112 N x23.Num x24.Num (.func (.func 110) [] []) (fun y1 => expr_operations_1 N y1) (fun y1 r hx => CallP.value (F := []) (C := []) (c110 N y1 r hx)) r25 hx)) (.refl _) fun r25 h => ?_;cbv;refine n_store hE hO 2 rfl rfl fun H hO => ?_;cbv;refine n_load hE hO 2 rfl ?_;cbv;have h := ret_some h;subst h;exact hK _ _ _ hO (.refl _)
       ·cbv;refine n_br hE h (fun hc h => ?_) (fun hc h => ?_)
        ·cbv;refine n_idx hE Encs.eGValue_eq h fun x26 h => ?_;cbv;refine n_ln hE ?_;cbv;refine n_idx hE Encs.eGValue_eq h fun x27 h => ?_;cbv;refine n_call hE (g := fun r28 => .agg [.int .i64 r28.Kind, .int .i64 r28.Num, .str r28.Text]) h (fun r28 hx => c113 N x26.Num x27.Num r28 hx) (.refl _) fun r28 h => ?_;cbv;refine n_store hE hO 2 rfl rfl fun H hO => ?_;cbv;refine n_load hE hO 2 rfl ?_;cbv;have h := ret_some h;subst h;exact hK _ _ _ hO (.refl _)
        ·cbv;refine n_br hE h (fun hc h => ?_) (fun hc h => ?_)
         ·cbv;refine n_idx hE Encs.eGValue_eq h fun x29 h => ?_;cbv;refine n_ln hE ?_;cbv;refine n_idx hE Encs.eGValue_eq h fun x30 h => ?_;cbv;refine n_call hE (g := fun r31 => .agg [.int .i64 r31.Kind, .int .i64 r31.Num, .str r31.Text]) h (fun r31 hx => c114 N x29.Num x30.Num r31 hx) (.refl _) fun r31 h => ?_;cbv;refine n_store hE hO 2 rfl rfl fun H hO => ?_;cbv;refine n_load hE hO 2 rfl ?_;cbv;have h := ret_some h;subst h;exact hK _ _ _ hO (.refl _)
         ·cbv;refine n_br hE h (fun hc h => ?_) (fun hc h => ?_)
          ·cbv;refine n_idx hE Encs.eGValue_eq h fun x32 h => ?_;cbv;refine n_ln hE ?_;cbv;refine n_idx hE Encs.eGValue_eq h fun x33 h => ?_;cbv;refine n_call hE (g := fun r34 => .agg [.int .i64 r34.Kind, .int .i64 r34.Num, .str r34.Text]) h (fun r34 hx => c115 N x32.Num x33.Num r34 hx) (.refl _) fun r34 h => ?_;cbv;refine n_store hE hO 2 rfl rfl fun H hO => ?_;cbv;refine n_load hE hO 2 rfl ?_;cbv;have h := ret_some h;subst h;exact hK _ _ _ hO (.refl _)
          ·cbv;refine n_br hE h (fun hc h => ?_) (fun hc h => ?_)
           ·cbv;refine n_idx hE Encs.eGValue_eq h fun x35 h => ?_;cbv;refine n_ln hE ?_;cbv;refine n_idx hE Encs.eGValue_eq h fun x36 h => ?_;cbv;refine n_call hE (g := fun r37 => .agg [.int .i64 r37.Kind, .int .i64 r37.Num, .str r37.Text]) h (fun r37 hx => c116 N x35.Num x36.Num r37 hx) (.refl _) fun r37 h => ?_;cbv;refine n_store hE hO 2 rfl rfl fun H hO => ?_;cbv;refine n_load hE hO 2 rfl ?_;cbv;have h := ret_some h;subst h;exact hK _ _ _ hO (.refl _)
           ·cbv;refine n_br hE h (fun hc h => ?_) (fun hc h => ?_)
            ·cbv;refine n_idx hE Encs.eGValue_eq h fun x38 h => ?_;cbv;refine n_ln hE ?_;cbv;refine n_idx hE Encs.eGValue_eq h fun x39 h => ?_;cbv;refine n_call hE (g := fun r40 => .agg [.int .i64 r40.Kind, .int .i64 r40.Num, .str r40.Text]) h (fun r40 hx => c117 N x38.Num x39.Num r40 hx) (.refl _) fun r40 h => ?_;cbv;refine n_store hE hO 2 rfl rfl fun H hO => ?_;cbv;refine n_load hE hO 2 rfl ?_;cbv;have h := ret_some h;subst h;exact hK _ _ _ hO (.refl _)
            ·cbv;refine n_idx hE Encs.eGValue_eq h fun x41 h => ?_;cbv;refine n_ln hE ?_;cbv;refine n_idx hE Encs.eGValue_eq h fun x42 h => ?_;cbv
             cases h
   ·rintro e l H ⟨t44, ht44, t45, ht45, rfl, rfl, hO⟩;cbv;refine n_load hE hO 2 rfl ?_;cbv;have h := ret_some h;subst h;exact hK _ _ _ hO (.refl _)
def cf40 : Cf := ⟨[8], [], [], [2000004], [], []⟩
set_option maxHeartbeats 2000000 in
theorem c40 (N : Nat) (x_e : GExpr) (x_env : GEnv) (x_own : Int) (x_event : GEvent) (r : (GValue × Int)) (h : expr_Eval N x_e x_env x_own x_event = some r) : CallP Tryz.prog 40 [.agg [.int .i64 x_e.Op, .sl (Ar.lst Encs.eGExpr x_e.Args) .ro, .int .i64 x_e.Var, .int .i64 x_e.Field, .int .i64 x_e.Kind, .int .i64 x_e.Value.Kind, .int .i64 x_e.Value.Num, .str x_e.Value.Text], .agg [.sl (Ar.lst Encs.eLGEvent x_env.Vars) .ro], .int .i64 x_own, .agg [.int .i64 x_event.Source, .int .i64 x_event.Seq, .int .i64 x_event.Typ, .int .i64 x_event.Time, .sl (Ar.lst Encs.eGValue x_event.Values) .ro]] (.tup [.agg [.int .i64 r.1.Kind, .int .i64 r.1.Num, .str r.1.Text], .int .i64 r.2]) := by
 unfold expr_Eval at h
 refine callP_of_spec cf40 okP Tryz.func40 (by rfl) (by kernel_rfl) Tryz.call40 Tryz.ntmps40 (by rfl) (by rfl) ?_;intro E H0 K hE hK
 have hO : Own Eq H0 [] H0 := .start stable_eq rfl
 cbv;refine n_alloc hE hO fun b1 H hO => ?_;cbv;refine n_call hE (g := fun r2 => .int .i64 r2) h (fun r2 hx => c48 N x_e r2 hx) (.refl _) fun r2 h => ?_;cbv;refine n_br hE h (fun hc h => ?_) (fun hc h => ?_)
 ·cbv;refine n_store hE hO 0 rfl rfl fun H hO => ?_;cbv;refine n_load hE hO 0 rfl ?_;cbv;have h := ret_some h;subst h;exact hK _ _ _ hO (.refl _)
 ·cbv;obtain ⟨s3, hx, h⟩ := bind_some h;refine n_join cf40 hE okP (fun e l H1 => e = .normal ∧ l = [(8, .v (.ref b1 0)), (9, .v (.int .i64 s3.1))] ∧ Own Eq H0 [.blk b1 (.cells [.int .i64 s3.2.Kind, .int .i64 s3.2.Num, .str s3.2.Text])] H1) (by kernel_rfl) ?_ ?_
  ·clear h;have h := hx;clear hx;cbv
   repeat' first | refine And.intro ?_ ?_ | (refine n_callFM hE (c73 N  () rfl) (.refl _) hO fun m5 H hO => ?_; cbv) | (refine n_callB hE (g := fun r6 => .tup [.agg [.int .i64 r6.1.Kind, .int .i64 r6.1.Num, .str r6.1.Text], .int .i64 r6.2]) h (fun r6 hx => c74 N N (⟨x_env, x_own, x_event, ()⟩ : Gexpr_evaluator) x_e r6 hx) (fun _ => .tup2 (.agg rfl) (.int _ _)) (.agg (.le (.refl _) (.le (.refl _) (.le (.refl _) (.le (.refl _) (.le (.refl _) (.le (.refl _) (.le (.refl _) (.fm (hO.get 0 rfl) (.nil))))))))) (.le (.refl _) (.nil))) fun r6 h => ?_; cbv) | (refine n_store hE hO 1 rfl rfl fun H hO => ?_; cbv) | (have h := ret_some h; subst h; exact ⟨_, ⟨rfl, rfl, hO.tail⟩, .e rfl (.e rfl (.z)), rfl⟩)
  ·clear hx;rintro e l H ⟨rfl, rfl, hO⟩;cbv;refine n_load hE hO 0 rfl ?_;cbv;have h := ret_some h;subst h;exact hK _ _ _ hO (.refl _)
def cf14 : Cf := ⟨[], [(2, 5)], [], [], [], []⟩
theorem c14 (N : Nat) (x_e : GExpr) (x_env : GEnv) (x_own : Int) (x_event : GEvent) (r : Bool) (h : expr_Truth N x_e x_env x_own x_event = some r) : CallP Tryz.prog 14 [.agg [.int .i64 x_e.Op, .sl (Ar.lst Encs.eGExpr x_e.Args) .ro, .int .i64 x_e.Var, .int .i64 x_e.Field, .int .i64 x_e.Kind, .int .i64 x_e.Value.Kind, .int .i64 x_e.Value.Num, .str x_e.Value.Text], .agg [.sl (Ar.lst Encs.eLGEvent x_env.Vars) .ro], .int .i64 x_own, .agg [.int .i64 x_event.Source, .int .i64 x_event.Seq, .int .i64 x_event.Typ, .int .i64 x_event.Time, .sl (Ar.lst Encs.eGValue x_event.Values) .ro]] (.bool r) := by
 unfold expr_Truth at h
 refine callP_of_spec cf14 okP Tryz.func14 (by rfl) (by kernel_rfl) Tryz.call14 Tryz.ntmps14 (by rfl) (by rfl) ?_;intro E H0 K hE hK
 have hO : Own Eq H0 [] H0 := .start stable_eq rfl
 cbv;refine n_call hE (g := fun r1 => .tup [.agg [.int .i64 r1.1.Kind, .int .i64 r1.1.Num, .str r1.1.Text], .int .i64 r1.2]) h (fun r1 hx => c40 N x_e x_env x_own x_event r1 hx) (.refl _) fun r1 h => ?_;cbv;refine n_br hE h (fun hc h => ?_) (fun hc h => ?_)
 ·cbv;refine n_pcall hE (g := fun r2 => .agg [.int .i64 r2.Kind, .int .i64 r2.Num, .str r2.Text]) h (fun r2 hx => c41 N true r2 hx) (.refl _) fun r2 h => ?_;cbv;have h := ret_some h;subst h;exact hK _ _ _ hO (.refl _)
 ·cbv;have h := ret_some h;subst h;exact hK _ _ _ hO (.refl _)
def cf4 : Cf := ⟨[], [], [], [], [], []⟩
theorem c4 (N : Nat) (x_types : List GSchema) (x_c : Gtidegatelaw27_Case) (r : Bool) (h : law27_PredicateDecides N x_types x_c = some r) : CallP Tryz.prog 4 [.sl (Ar.lst Encs.eGSchema x_types) .ro, .agg [.int .i64 x_c.Index, .int .i64 x_c.Own, .int .i64 x_c.Cond.Op, .sl (Ar.lst Encs.eGExpr x_c.Cond.Args) .ro, .int .i64 x_c.Cond.Var, .int .i64 x_c.Cond.Field, .int .i64 x_c.Cond.Kind, .int .i64 x_c.Cond.Value.Kind, .int .i64 x_c.Cond.Value.Num, .str x_c.Cond.Value.Text, .int .i64 x_c.Event.Source, .int .i64 x_c.Event.Seq, .int .i64 x_c.Event.Typ, .int .i64 x_c.Event.Time, .sl (Ar.lst Encs.eGValue x_c.Event.Values) .ro]] (.bool r) := by
 unfold law27_PredicateDecides at h
 refine callP_of_spec cf4 okP Tryz.func4 (by rfl) (by kernel_rfl) Tryz.call4 Tryz.ntmps4 (by rfl) (by rfl) ?_;intro E H0 K hE hK
 have hO : Own Eq H0 [] H0 := .start stable_eq rfl
 cbv;refine n_ln hE ?_;cbv;refine n_br hE h (fun hc h => ?_) (fun hc h => ?_)
 ·cbv;refine n_call hE (g := fun r1 => .bool r1) h (fun r1 hx => c6 N  r1 hx) (.refl _) fun r1 h => ?_;cbv;have h := ret_some h;subst h;exact hK _ _ _ hO (.refl _)
 ·cbv;refine n_call hE (g := fun r2 => .bool r2) h (fun r2 hx => c5 N x_c.Cond r2 hx) (.refl _) fun r2 h => ?_;cbv;refine n_ln hE ?_;cbv;refine n_br hE h (fun hc h => ?_) (fun hc h => ?_)
  ·cbv;refine n_call hE (g := fun r3 => .bool r3) h (fun r3 hx => c6 N  r3 hx) (.refl _) fun r3 h => ?_;cbv;have h := ret_some h;subst h;exact hK _ _ _ hO (.refl _)
  ·cbv;refine n_call hE (g := fun r4 => .int .i64 r4) h (fun r4 hx => c12 N x_types x_c.Event r4 hx) (.refl _) fun r4 h => ?_;cbv;refine n_br hE h (fun hc h => ?_) (fun hc h => ?_)
   ·cbv;refine n_call hE (g := fun r5 => .bool r5) h (fun r5 hx => c6 N  r5 hx) (.refl _) fun r5 h => ?_;cbv;have h := ret_some h;subst h;exact hK _ _ _ hO (.refl _)
   ·cbv;refine n_call hE (g := fun r6 => .tup [.agg [.sl (Ar.lst Encs.eLGInterval r6.1.Sets) .ro], .int .i64 r6.2]) h (fun r6 hx => c7 N x_types x_c.Index x_c.Cond x_c.Own r6 hx) (.refl _) fun r6 h => ?_;cbv;refine n_call hE (g := fun r7 => .tup [.agg [.int .i64 r7.1.Typ, .int .i64 r7.1.Num], .int .i64 r7.2]) h (fun r7 hx => c9 N x_types x_c.Event r7 hx) (.refl _) fun r7 h => ?_;cbv;refine n_br hE h (fun hc h => ?_) (fun hc h => ?_)
    ·cbv;refine n_br hE h (fun hc h => ?_) (fun hc h => ?_)
     ·cbv;refine n_call hE (g := fun r8 => .bool r8) h (fun r8 hx => c6 N  r8 hx) (.refl _) fun r8 h => ?_;cbv;have h := ret_some h;subst h;exact hK _ _ _ hO (.refl _)
     ·cbv;have h := ret_some h;subst h;exact hK _ _ _ hO (.refl _)
    ·cbv;refine n_call hE (g := fun r9 => .tup [.bool r9.1, .int .i64 r9.2]) h (fun r9 hx => c13 N r6.1 r7.1 r9 hx) (.refl _) fun r9 h => ?_;cbv;refine n_br hE h (fun hc h => ?_) (fun hc h => ?_)
     ·cbv;refine n_call hE (g := fun r10 => .bool r10) h (fun r10 hx => c14 N x_c.Cond (⟨[]⟩ : GEnv) x_c.Own x_c.Event r10 hx) (.cons (.refl _) (.cons (.agg (.cons (.lit _ (lst_nil)) (.refl _))) (.refl _))) fun r10 h => ?_;cbv;refine n_br hE h (fun hc h => ?_) (fun hc h => ?_)
      ·cbv;refine n_call hE (g := fun r11 => .bool r11) h (fun r11 hx => c6 N  r11 hx) (.refl _) fun r11 h => ?_;cbv;have h := ret_some h;subst h;exact hK _ _ _ hO (.refl _)
      ·cbv;have h := ret_some h;subst h;exact hK _ _ _ hO (.refl _)
     ·cbv;have h := ret_some h;subst h;exact hK _ _ _ hO (.refl _)
end Go.Ab

