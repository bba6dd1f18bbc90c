/- GPCo2 -/
import Derived.Test.YtpapabjndpgcnaaGreatT30
set_option linter.all false

namespace Go.Ab
open Go.RowKit Go.Proofs
variable [Ar] [Encs]
set_option maxRecDepth 100000
def cf150 : Cf := ⟨[], [], [], [], [], []⟩
theorem c150 (N : Nat) (x_s : ByteArray) (r : Bool) (h : schema_fieldName N x_s = some r) : CallP Tryz.prog 150 [.str x_s] (.bool r) := by
 unfold schema_fieldName at h
 refine callP_of_spec cf150 okP Tryz.func150 (by rfl) (by kernel_rfl) Tryz.call150 Tryz.ntmps150 (by rfl) (by rfl) ?_;intro E H0 K hE hK
 have hO : Own Eq H0 [] H0 := .start stable_eq rfl
 cbv;refine n_call hE (g := fun r1 => .bool r1) h (fun r1 hx => c149 N x_s r1 hx) (.refl _) fun r1 h => ?_;cbv;have h := ret_some h;subst h;exact hK _ _ _ hO (.refl _)
def cf118 : Cf := ⟨[], [], [], [], [], []⟩
theorem c118 (N : Nat) (x_s : GSchema) (r : Int) (h : schema_Check N x_s = some r) : CallP Tryz.prog 118 [.agg [.str x_s.Name, .sl (Ar.lst Encs.eGField x_s.Fields) .ro]] (.int .i64 r) := by
 unfold schema_Check at h
 refine callP_of_spec cf118 okP Tryz.func118 (by rfl) (by kernel_rfl) Tryz.call118 Tryz.ntmps118 (by rfl) (by rfl) ?_;intro E H0 K hE hK
 have hO : Own Eq H0 [] H0 := .start stable_eq rfl
 cbv;refine n_call hE (g := fun r1 => .bool r1) h (fun r1 hx => c149 N x_s.Name r1 hx) (.refl _) fun r1 h => ?_;cbv;refine n_br hE h (fun hc h => ?_) (fun hc h => ?_)
 ·cbv;have h := ret_some h;subst h;exact hK _ _ _ hO (.refl _)
 ·cbv;refine n_ln hE ?_;cbv;refine n_br hE h (fun hc h => ?_) (fun hc h => ?_)
  ·cbv;have h := ret_some h;subst h;exact hK _ _ _ hO (.refl _)
  ·cbv;refine n_mmk hE .string V.str V.bool hO fun m2 o3 H ho3 hO => ?_;cbv;refine n_ln hE ?_;cbv;obtain ⟨s6, hx, h⟩ := bind_some h;refine n_loopG cf118 hE okP (γ := Obj) (fun s4 g => [(3, .v (.map m2)), (16, .v (.sl (Ar.lst Encs.eGField x_s.Fields) .ro)), (17, .v (.int .i64 (Ar.len x_s.Fields))), (18, .v (.int .i64 s4.1))]) (fun s4 g H1 => Mok .string V.str V.bool g s4.2 ∧ Own Eq H0 [.blk m2 (.obj g)] H1) (fun x e l H1 => match (generalizing := false) x with | .inl y => ∃ u1 : Obj, Mok .string V.str V.bool u1 y ∧ e = .exit 0 ∧ l = [] ∧ Own Eq H0 [.blk m2 (.obj u1)] H1 | .inr y => ∃ u1 : Obj, Mok .string V.str V.bool u1 y.2 ∧ e = .ret ∧ l = [(2, .v (.int .i64 y.1))] ∧ Own Eq H0 [.blk m2 (.obj u1)] H1) (by kernel_rfl) ?_ o3 hx ?_ ?_ ?_
   ·rintro s4 q5 H o ⟨hq5, hO⟩ h;clear hx;cbv;refine n_br hE h (fun hc h => ?_) (fun hc h => ?_)
    ·cbv;refine n_idx hE Encs.eGField_eq h fun x7 h => ?_;cbv;refine n_call hE (g := fun r8 => .bool r8) h (fun r8 hx => c150 N x7.Name r8 hx) (.refl _) fun r8 h => ?_;cbv;refine n_br hE h (fun hc h => ?_) (fun hc h => ?_)
     ·cbv;have h := ret_some h;subst h;exact ⟨_, _, rfl, ⟨q5, hq5, rfl, rfl, hO⟩, .e rfl (.z), rfl⟩
     ·cbv;refine n_mget hE (kt := 9) (et := 4) (by kernel_rfl) (by kernel_rfl) mkOk_str (false : Bool) (by kernel_rfl) rfl hO hq5 0 rfl h fun r9 h => ?_;cbv;refine n_br hE h (fun hc h => ?_) (fun hc h => ?_)
      ·cbv;have h := ret_some h;subst h;exact ⟨_, _, rfl, ⟨q5, hq5, rfl, rfl, hO⟩, .e rfl (.z), rfl⟩
      ·cbv;refine n_br hE h (fun hc h => ?_) (fun hc h => ?_)
       ·cbv;have h := ret_some h;subst h;exact ⟨_, _, rfl, ⟨q5, hq5, rfl, rfl, hO⟩, .e rfl (.z), rfl⟩
       ·cbv;refine n_mset hE (kt := 9) (et := 4) (by kernel_rfl) (by kernel_rfl) mkOk_str mvOk_bool hO hq5 0 rfl h fun l11 o10 H ho10 h hO => ?_;cbv;have h := ret_some h;subst h;exact ⟨_, o10, rfl, .e rfl (.e rfl (.e rfl (.e rfl (.z)))), rfl, ho10, hO⟩
    ·cbv;have h := ret_some h;subst h;exact ⟨_, _, rfl, ⟨q5, hq5, rfl, rfl, hO⟩, .z, rfl⟩
   ·exact .e rfl (.e rfl (.e rfl (.e rfl (.z))))
   ·exact ⟨ho3, hO⟩
   ·clear hx
    rcases s6 with y12 | y14
    ·rintro e l H ⟨q13, hq13, rfl, rfl, hO⟩;cbv;have h := ret_some h;subst h;exact hK _ _ _ hO (.refl _)
    ·rintro e l H ⟨q15, hq15, rfl, rfl, hO⟩;cbv;have h := ret_some h;subst h;exact hK _ _ _ hO (.refl _)
def cf89 : Cf := ⟨[], [], [], [], [], []⟩
theorem c89 (N : Nat) (x_l : List GSchema) (r : Int) (h : schema_CheckAll N x_l = some r) : CallP Tryz.prog 89 [.sl (Ar.lst Encs.eGSchema x_l) .ro] (.int .i64 r) := by
 unfold schema_CheckAll at h
 refine callP_of_spec cf89 okP Tryz.func89 (by rfl) (by kernel_rfl) Tryz.call89 Tryz.ntmps89 (by rfl) (by rfl) ?_;intro E H0 K hE hK
 have hO : Own Eq H0 [] H0 := .start stable_eq rfl
 cbv;refine n_ln hE ?_;cbv;refine n_br hE h (fun hc h => ?_) (fun hc h => ?_)
 ·cbv;have h := ret_some h;subst h;exact hK _ _ _ hO (.refl _)
 ·cbv;refine n_mmk hE .string V.str V.bool hO fun m1 o2 H ho2 hO => ?_;cbv;refine n_ln hE ?_;cbv;obtain ⟨s5, hx, h⟩ := bind_some h;refine n_loopG cf89 hE okP (γ := Obj) (fun s3 g => [(3, .v (.map m1)), (11, .v (.sl (Ar.lst Encs.eGSchema x_l) .ro)), (12, .v (.int .i64 (Ar.len x_l))), (13, .v (.int .i64 s3.1))]) (fun s3 g H1 => Mok .string V.str V.bool g s3.2 ∧ Own Eq H0 [.blk m1 (.obj g)] H1) (fun x e l H1 => match (generalizing := false) x with | .inl y => ∃ u1 : Obj, Mok .string V.str V.bool u1 y ∧ e = .exit 0 ∧ l = [] ∧ Own Eq H0 [.blk m1 (.obj u1)] H1 | .inr y => ∃ u1 : Obj, Mok .string V.str V.bool u1 y.2 ∧ e = .ret ∧ l = [(2, .v (.int .i64 y.1))] ∧ Own Eq H0 [.blk m1 (.obj u1)] H1) (by kernel_rfl) ?_ o2 hx ?_ ?_ ?_
  ·rintro s3 q4 H o ⟨hq4, hO⟩ h;clear hx;cbv;refine n_br hE h (fun hc h => ?_) (fun hc h => ?_)
   ·cbv;refine n_idx hE Encs.eGSchema_eq h fun x6 h => ?_;cbv;refine n_call hE (g := fun r7 => .int .i64 r7) h (fun r7 hx => c118 N x6 r7 hx) (.refl _) fun r7 h => ?_;cbv;refine n_br hE h (fun hc h => ?_) (fun hc h => ?_)
    ·cbv;have h := ret_some h;subst h;exact ⟨_, _, rfl, ⟨q4, hq4, rfl, rfl, hO⟩, .e rfl (.z), rfl⟩
    ·cbv;refine n_mget hE (kt := 9) (et := 4) (by kernel_rfl) (by kernel_rfl) mkOk_str (false : Bool) (by kernel_rfl) rfl hO hq4 0 rfl h fun r8 h => ?_;cbv;refine n_br hE h (fun hc h => ?_) (fun hc h => ?_)
     ·cbv;have h := ret_some h;subst h;exact ⟨_, _, rfl, ⟨q4, hq4, rfl, rfl, hO⟩, .e rfl (.z), rfl⟩
     ·cbv;refine n_mset hE (kt := 9) (et := 4) (by kernel_rfl) (by kernel_rfl) mkOk_str mvOk_bool hO hq4 0 rfl h fun l10 o9 H ho9 h hO => ?_;cbv;have h := ret_some h;subst h;exact ⟨_, o9, rfl, .e rfl (.e rfl (.e rfl (.e rfl (.z)))), rfl, ho9, hO⟩
   ·cbv;have h := ret_some h;subst h;exact ⟨_, _, rfl, ⟨q4, hq4, rfl, rfl, hO⟩, .z, rfl⟩
  ·exact .e rfl (.e rfl (.e rfl (.e rfl (.z))))
  ·exact ⟨ho2, hO⟩
  ·clear hx
   rcases s5 with y11 | y13
   ·rintro e l H ⟨q12, hq12, rfl, rfl, hO⟩;cbv;have h := ret_some h;subst h;exact hK _ _ _ hO (.refl _)
   ·rintro e l H ⟨q14, hq14, rfl, rfl, hO⟩;cbv;have h := ret_some h;subst h;exact hK _ _ _ hO (.refl _)
def cf151 : Cf := ⟨[], [], [], [], [], []⟩
theorem c151 (N : Nat) : ∀ (n : Nat) (x_e : GExpr) (r : (Int × Int)), expr_Size N n x_e = some r → CallP Tryz.prog 151 [.agg [.int .i64 x_e.Op, .sl (Ar.lst Encs.eGExpr x_e.Args) .ro, .int .i64 x_e.Var, .int .i64 x_e.Field, .int .i64 x_e.Kind, .int .i64 x_e.Value.Kind, .int .i64 x_e.Value.Num, .str x_e.Value.Text]] (.tup [.int .i64 r.1, .int .i64 r.2]) := by
 intro n
 induction n with
 | zero => intro x_e r h; cases h
 | succ n ih =>
 intro x_e r h
 unfold expr_Size at h
 refine callP_of_spec cf151 okP Tryz.func151 (by rfl) (by kernel_rfl) Tryz.call151 Tryz.ntmps151 (by rfl) (by rfl) ?_;intro E H0 K hE hK
 have hO : Own Eq H0 [] H0 := .start stable_eq rfl
 cbv;refine n_ln hE ?_;cbv;obtain ⟨s2, hx, h⟩ := bind_some h;refine n_loopN cf151 hE okP (fun s1 => [(4, .v (.int .i64 s1.1)), (5, .v (.int .i64 s1.2.1)), (11, .v (.sl (Ar.lst Encs.eGExpr x_e.Args) .ro)), (12, .v (.int .i64 (Ar.len x_e.Args))), (13, .v (.int .i64 s1.2.2))]) (fun s1 H1 => Own Eq H0 [] H1) (fun x e l H1 => e = .exit 0 ∧ l = [(4, .v (.int .i64 x.1)), (5, .v (.int .i64 x.2))] ∧ Own Eq H0 [] H1) (by kernel_rfl) ?_ hx ?_ hO ?_
 ·intro s1 H o hO h;clear hx;cbv;refine n_br hE h (fun hc h => ?_) (fun hc h => ?_)
  ·cbv;refine n_idx hE Encs.eGExpr_eq h fun x3 h => ?_;cbv;refine n_call hE (g := fun r4 => .tup [.int .i64 r4.1, .int .i64 r4.2]) h (fun r4 hx => ih x3 r4 hx) (.refl _) fun r4 h => ?_;cbv;have h := ret_some h;subst h;exact ⟨_, rfl, .e rfl (.e rfl (.e rfl (.e rfl (.e rfl (.z))))), rfl, hO⟩
  ·cbv;have h := ret_some h;subst h;exact ⟨_, _, rfl, ⟨rfl, rfl, hO⟩, .e rfl (.e rfl (.z)), rfl⟩
 ·exact .e rfl (.e rfl (.e rfl (.e rfl (.e rfl (.z)))))
 ·clear hx;rintro e l H ⟨rfl, rfl, hO⟩;cbv;have h := ret_some h;subst h;exact hK _ _ _ hO (.refl _)
def cf152 : Cf := ⟨[], [], [], [], [], []⟩
theorem c152 (N : Nat) : ∀ (n : Nat) (x_e : GExpr) (v_f : V) (x_f : GExpr → Option Int) (h_f : ∀ y1 q, x_f y1 = some q → CallVP Tryz.prog v_f [.agg [.int .i64 y1.Op, .sl (Ar.lst Encs.eGExpr y1.Args) .ro, .int .i64 y1.Var, .int .i64 y1.Field, .int .i64 y1.Kind, .int .i64 y1.Value.Kind, .int .i64 y1.Value.Num, .str y1.Value.Text]] (.int .i64 q)) (r : Int), expr_visit N n x_e x_f = some r → CallP Tryz.prog 152 [.agg [.int .i64 x_e.Op, .sl (Ar.lst Encs.eGExpr x_e.Args) .ro, .int .i64 x_e.Var, .int .i64 x_e.Field, .int .i64 x_e.Kind, .int .i64 x_e.Value.Kind, .int .i64 x_e.Value.Num, .str x_e.Value.Text], v_f] (.int .i64 r) := by
 intro n
 induction n with
 | zero => intro x_e v_f x_f h_f r h; cases h
 | succ n ih =>
 intro x_e v_f x_f h_f r h
 unfold expr_visit at h
 refine callP_of_spec cf152 okP Tryz.func152 (by rfl) (by kernel_rfl) Tryz.call152 Tryz.ntmps152 (by rfl) (by rfl) ?_;intro E H0 K hE hK
 have hO : Own Eq H0 [] H0 := .start stable_eq rfl
 cbv;refine n_callF hE (g := fun r1 => .int .i64 r1) h (fun r1 hx => h_f x_e r1 hx) (.refl _) fun r1 h => ?_;cbv;refine n_br hE h (fun hc h => ?_) (fun hc h => ?_)
 ·cbv;have h := ret_some h;subst h;exact hK _ _ _ hO (.refl _)
 ·cbv;refine n_ln hE ?_;cbv;obtain ⟨s3, hx, h⟩ := bind_some h;refine n_loopN cf152 hE okP (fun s2 => [(1, .v (v_f)), (16, .v (.sl (Ar.lst Encs.eGExpr x_e.Args) .ro)), (17, .v (.int .i64 (Ar.len x_e.Args))), (18, .v (.int .i64 s2))]) (fun s2 H1 => Own Eq H0 [] H1) (fun x e l H1 => match (generalizing := false) x with | .inl y => e = .exit 0 ∧ l = [] ∧ Own Eq H0 [] H1 | .inr y => e = .ret ∧ l = [(4, .v (.int .i64 y))] ∧ Own Eq H0 [] H1) (by kernel_rfl) ?_ hx ?_ hO ?_
  ·intro s2 H o hO h;clear hx;cbv;refine n_br hE h (fun hc h => ?_) (fun hc h => ?_)
   ·cbv;refine n_idx hE Encs.eGExpr_eq h fun x4 h => ?_;cbv;refine n_call hE (g := fun r5 => .int .i64 r5) h (fun r5 hx => ih x4 v_f x_f h_f r5 hx) (.refl _) fun r5 h => ?_;cbv;refine n_br hE h (fun hc h => ?_) (fun hc h => ?_)
    ·cbv;have h := ret_some h;subst h;exact ⟨_, _, rfl, ⟨rfl, rfl, hO⟩, .e rfl (.z), rfl⟩
    ·cbv;have h := ret_some h;subst h;exact ⟨_, rfl, .e rfl (.e rfl (.e rfl (.e rfl (.z)))), rfl, hO⟩
   ·cbv;have h := ret_some h;subst h;exact ⟨_, _, rfl, ⟨rfl, rfl, hO⟩, .z, rfl⟩
  ·exact .e rfl (.e rfl (.e rfl (.e rfl (.z))))
  ·clear hx
   rcases s3 with y6 | y7
   ·rintro e l H ⟨rfl, rfl, hO⟩;cbv;have h := ret_some h;subst h;exact hK _ _ _ hO (.refl _)
   ·rintro e l H ⟨rfl, rfl, hO⟩;cbv;have h := ret_some h;subst h;exact hK _ _ _ hO (.refl _)
def cf194 : Cf := ⟨[], [], [], [], [], []⟩
theorem c194 (N : Nat) (x_op : Int) (r : (Int × Bool)) (h : expr_arity N x_op = some r) : CallP Tryz.prog 194 [.int .i64 x_op] (.tup [.int .i64 r.1, .bool r.2]) := by
 unfold expr_arity at h
 refine callP_of_spec cf194 okP Tryz.func194 (by rfl) (by kernel_rfl) Tryz.call194 Tryz.ntmps194 (by rfl) (by rfl) ?_;intro E H0 K hE hK
 have hO : Own Eq H0 [] H0 := .start stable_eq rfl
 cbv;refine n_br hE h (fun hc h => ?_) (fun hc h => ?_)
 ·cbv;have h := ret_some h;subst h;exact hK _ _ _ hO (.refl _)
 ·cbv;refine n_br hE h (fun hc h => ?_) (fun hc h => ?_)
  ·cbv;have h := ret_some h;subst h;exact hK _ _ _ hO (.refl _)
  ·cbv;refine n_br hE h (fun hc h => ?_) (fun hc h => ?_)
   ·cbv;have h := ret_some h;subst h;exact hK _ _ _ hO (.refl _)
   ·cbv;have h := ret_some h;subst h;exact hK _ _ _ hO (.refl _)
def cf195 : Cf := ⟨[], [], [(5, 4)], [], [], []⟩
theorem c195 (N : Nat) (x_op : Int) (r : (Bool × Bool)) (h : expr_uses N x_op = some r) : CallP Tryz.prog 195 [.int .i64 x_op] (.tup [.bool r.1, .bool r.2]) := by
 unfold expr_uses at h
 refine callP_of_spec cf195 okP Tryz.func195 (by rfl) (by kernel_rfl) Tryz.call195 Tryz.ntmps195 (by rfl) (by rfl) ?_;intro E H0 K hE hK
 have hO : Own Eq H0 [] H0 := .start stable_eq rfl
 cbv;obtain ⟨s1, hx, h⟩ := bind_some h;refine n_join cf195 hE okP (fun e l H1 => e = .normal ∧ l = [(4, .v (.int .i64 x_op)), (5, .v (.bool s1))] ∧ Own Eq H0 [] H1) (by kernel_rfl) ?_ ?_
 ·clear h;have h := hx;clear hx;cbv;refine n_br hE h (fun hc h => ?_) (fun hc h => ?_)
  ·cbv;have h := ret_some h;subst h;exact ⟨_, ⟨rfl, rfl, hO⟩, .e rfl (.e rfl (.z)), rfl⟩
  ·cbv;have h := ret_some h;subst h;exact ⟨_, ⟨rfl, rfl, hO⟩, .e rfl (.e rfl (.z)), rfl⟩
 ·clear hx;rintro e l H ⟨rfl, rfl, hO⟩;cbv;refine n_br hE h (fun hc h => ?_) (fun hc h => ?_)
  ·cbv;have h := ret_some h;subst h;exact hK _ _ _ hO (.refl _)
  ·cbv;refine n_br hE h (fun hc h => ?_) (fun hc h => ?_)
   ·cbv;have h := ret_some h;subst h;exact hK _ _ _ hO (.refl _)
   ·cbv;refine n_br hE h (fun hc h => ?_) (fun hc h => ?_)
    ·cbv;have h := ret_some h;subst h;exact hK _ _ _ hO (.refl _)
    ·cbv;have h := ret_some h;subst h;exact hK _ _ _ hO (.refl _)
def cf169 : Cf := ⟨[], [], [], [], [], []⟩
theorem c169 (N : Nat) (x_v : GValue) (r : Int) (h : value_size N x_v = some r) : CallP Tryz.prog 169 [.agg [.int .i64 x_v.Kind, .int .i64 x_v.Num, .str x_v.Text]] (.int .i64 r) := by
 unfold value_size at h
 refine callP_of_spec cf169 okP Tryz.func169 (by rfl) (by kernel_rfl) Tryz.call169 Tryz.ntmps169 (by rfl) (by rfl) ?_;intro E H0 K hE hK
 have hO : Own Eq H0 [] H0 := .start stable_eq rfl
 cbv;refine n_br hE h (fun hc h => ?_) (fun hc h => ?_)
 ·cbv;have h := ret_some h;subst h;exact hK _ _ _ hO (.refl _)
 ·cbv;refine n_br hE h (fun hc h => ?_) (fun hc h => ?_)
  ·cbv;have h := ret_some h;subst h;exact hK _ _ _ hO (.refl _)
  ·cbv;refine n_br hE h (fun hc h => ?_) (fun hc h => ?_)
   ·cbv;have h := ret_some h;subst h;exact hK _ _ _ hO (.refl _)
   ·cbv;have h := ret_some h;subst h;exact hK _ _ _ hO (.refl _)
def cf137 : Cf := ⟨[], [], [(5, 5)], [], [], []⟩
theorem c137 (N : Nat) (x_v : GValue) (r : Int) (h : value_Check N x_v = some r) : CallP Tryz.prog 137 [.agg [.int .i64 x_v.Kind, .int .i64 x_v.Num, .str x_v.Text]] (.int .i64 r) := by
 unfold value_Check at h
 refine callP_of_spec cf137 okP Tryz.func137 (by rfl) (by kernel_rfl) Tryz.call137 Tryz.ntmps137 (by rfl) (by rfl) ?_;intro E H0 K hE hK
 have hO : Own Eq H0 [] H0 := .start stable_eq rfl
 cbv;obtain ⟨s1, hx, h⟩ := bind_some h;refine n_join cf137 hE okP (fun e l H1 => e = .normal ∧ l = [(1, .v (.eref [.int .i64 x_v.Kind, .int .i64 x_v.Num, .str x_v.Text] 0)), (4, .v (.int .i64 x_v.Kind)), (5, .v (.bool s1))] ∧ Own Eq H0 [] H1) (by kernel_rfl) ?_ ?_
 ·clear h;have h := hx;clear hx;cbv;refine n_br hE h (fun hc h => ?_) (fun hc h => ?_)
  ·cbv;have h := ret_some h;subst h;exact ⟨_, ⟨rfl, rfl, hO⟩, .e rfl (.e rfl (.e rfl (.z))), rfl⟩
  ·cbv;have h := ret_some h;subst h;exact ⟨_, ⟨rfl, rfl, hO⟩, .e rfl (.e rfl (.e rfl (.z))), rfl⟩
 ·clear hx;rintro e l H ⟨rfl, rfl, hO⟩;cbv;refine n_br hE h (fun hc h => ?_) (fun hc h => ?_)
  ·cbv;refine n_br hE h (fun hc h => ?_) (fun hc h => ?_)
   ·cbv;have h := ret_some h;subst h;exact hK _ _ _ hO (.refl _)
   ·cbv;refine n_call hE (g := fun r2 => .int .i64 r2) h (fun r2 hx => c169 N x_v r2 hx) (.refl _) fun r2 h => ?_;cbv;have h := ret_some h;subst h;exact hK _ _ _ hO (.refl _)
  ·cbv;refine n_br hE h (fun hc h => ?_) (fun hc h => ?_)
   ·cbv;refine n_br hE h (fun hc h => ?_) (fun hc h => ?_)
    ·cbv;have h := ret_some h;subst h;exact hK _ _ _ hO (.refl _)
    ·cbv;refine n_call hE (g := fun r3 => .int .i64 r3) h (fun r3 hx => c169 N x_v r3 hx) (.refl _) fun r3 h => ?_;cbv;have h := ret_some h;subst h;exact hK _ _ _ hO (.refl _)
   ·cbv;have h := ret_some h;subst h;exact hK _ _ _ hO (.refl _)
def cf197 : Cf := ⟨[], [], [], [], [], []⟩
theorem c197 (N : Nat) (x_kind : Int) (x_v : GValue) (r : Bool) (h : expr_suits N x_kind x_v = some r) : CallP Tryz.prog 197 [.int .i64 x_kind, .agg [.int .i64 x_v.Kind, .int .i64 x_v.Num, .str x_v.Text]] (.bool r) := by
 unfold expr_suits at h
 refine callP_of_spec cf197 okP Tryz.func197 (by rfl) (by kernel_rfl) Tryz.call197 Tryz.ntmps197 (by rfl) (by rfl) ?_;intro E H0 K hE hK
 have hO : Own Eq H0 [] H0 := .start stable_eq rfl
 cbv;have h := ret_some h;subst h;exact hK _ _ _ hO (.refl _)
def cf196 : Cf := ⟨[], [], [], [], [], []⟩
theorem c196 (N : Nat) (x_e : GExpr) (r : Int) (h : expr_constants N x_e = some r) : CallP Tryz.prog 196 [.agg [.int .i64 x_e.Op, .sl (Ar.lst Encs.eGExpr x_e.Args) .ro, .int .i64 x_e.Var, .int .i64 x_e.Field, .int .i64 x_e.Kind, .int .i64 x_e.Value.Kind, .int .i64 x_e.Value.Num, .str x_e.Value.Text]] (.int .i64 r) := by
 unfold expr_constants at h
 refine callP_of_spec cf196 okP Tryz.func196 (by rfl) (by kernel_rfl) Tryz.call196 Tryz.ntmps196 (by rfl) (by rfl) ?_;intro E H0 K hE hK
 have hO : Own Eq H0 [] H0 := .start stable_eq rfl
 cbv;refine n_call hE (g := fun r1 => .int .i64 r1) h (fun r1 hx => c137 N x_e.Value r1 hx) (.refl _) fun r1 h => ?_;cbv;refine n_br hE h (fun hc h => ?_) (fun hc h => ?_)
 ·cbv;have h := ret_some h;subst h;exact hK _ _ _ hO (.refl _)
 ·cbv;refine n_br hE h (fun hc h => ?_) (fun hc h => ?_)
  ·cbv;refine n_call hE (g := fun r2 => .bool r2) h (fun r2 hx => c197 N x_e.Kind x_e.Value r2 hx) (.refl _) fun r2 h => ?_;cbv;refine n_br hE h (fun hc h => ?_) (fun hc h => ?_)
   ·cbv;have h := ret_some h;subst h;exact hK _ _ _ hO (.refl _)
   ·cbv;have h := ret_some h;subst h;exact hK _ _ _ hO (.refl _)
  ·cbv;have h := ret_some h;subst h;exact hK _ _ _ hO (.refl _)
def cf153 : Cf := ⟨[], [], [(73, 15)], [], [], []⟩
theorem c153 (N : Nat) (x_e : GExpr) (r : Int) (h : expr_node N x_e = some r) : CallP Tryz.prog 153 [.agg [.int .i64 x_e.Op, .sl (Ar.lst Encs.eGExpr x_e.Args) .ro, .int .i64 x_e.Var, .int .i64 x_e.Field, .int .i64 x_e.Kind, .int .i64 x_e.Value.Kind, .int .i64 x_e.Value.Num, .str x_e.Value.Text]] (.int .i64 r) := by
 unfold expr_node at h
 refine callP_of_spec cf153 okP Tryz.func153 (by rfl) (by kernel_rfl) Tryz.call153 Tryz.ntmps153 (by rfl) (by rfl) ?_;intro E H0 K hE hK
 have hO : Own Eq H0 [] H0 := .start stable_eq rfl
 cbv;refine n_call hE (g := fun r1 => .tup [.int .i64 r1.1, .bool r1.2]) h (fun r1 hx => c194 N x_e.Op r1 hx) (.refl _) fun r1 h => ?_;cbv;refine n_br hE h (fun hc h => ?_) (fun hc h => ?_)
 ·cbv;have h := ret_some h;subst h;exact hK _ _ _ hO (.refl _)
 ·cbv;refine n_ln hE ?_;cbv;refine n_br hE h (fun hc h => ?_) (fun hc h => ?_)
  ·cbv;have h := ret_some h;subst h;exact hK _ _ _ hO (.refl _)
  ·cbv;refine n_call hE (g := fun r2 => .tup [.bool r2.1, .bool r2.2]) h (fun r2 hx => c195 N x_e.Op r2 hx) (.refl _) fun r2 h => ?_;cbv;refine n_br hE h (fun hc h => ?_) (fun hc h => ?_)
   ·cbv;have h := ret_some h;subst h;exact hK _ _ _ hO (.refl _)
   ·cbv;refine n_br hE h (fun hc h => ?_) (fun hc h => ?_)
    ·cbv;have h := ret_some h;subst h;exact hK _ _ _ hO (.refl _)
    ·cbv;obtain ⟨s3, hx, h⟩ := bind_some h;refine n_join cf153 hE okP (fun e l H1 => match (generalizing := false) s3 with | .inl y => e = .normal ∧ l = [(1, .v (.eref [.int .i64 x_e.Op, .sl (Ar.lst Encs.eGExpr x_e.Args) .ro, .int .i64 x_e.Var, .int .i64 x_e.Field, .int .i64 x_e.Kind, .int .i64 x_e.Value.Kind, .int .i64 x_e.Value.Num, .str x_e.Value.Text] 0)), (5, .v (.bool r2.1)), (6, .v (.bool r2.2)), (7, .v (.bool (Ar.cmp .eql x_e.Op 4))), (8, .v (.bool (Ar.or (Ar.cmp .eql x_e.Op 4) (Ar.cmp .eql x_e.Op 0))))] ∧ Own Eq H0 [] H1 | .inr y => e = .ret ∧ l = [(2, .v (.int .i64 y))] ∧ Own Eq H0 [] H1) (by kernel_rfl) ?_ ?_
     ·clear h;have h := hx;clear hx;cbv;refine n_br hE h (fun hc h => ?_) (fun hc h => ?_)
      ·cbv;refine n_call hE (g := fun r4 => .int .i64 r4) h (fun r4 hx => c196 N x_e r4 hx) (.refl _) fun r4 h => ?_;cbv;refine n_br hE h (fun hc h => ?_) (fun hc h => ?_)
       ·cbv;have h := ret_some h;subst h;exact ⟨_, ⟨rfl, rfl, hO⟩, .e rfl (.z), rfl⟩
       ·cbv;have h := ret_some h;subst h;exact ⟨_, ⟨rfl, rfl, hO⟩, .e rfl (.e rfl (.e rfl (.e rfl (.e rfl (.z))))), rfl⟩
      ·cbv;have h := ret_some h;subst h;exact ⟨_, ⟨rfl, rfl, hO⟩, .e rfl (.e rfl (.e rfl (.e rfl (.e rfl (.z))))), rfl⟩
     ·clear hx
      rcases s3 with y5 | y6
      ·rintro e l H ⟨rfl, rfl, hO⟩;cbv;refine n_br hE h (fun hc h => ?_) (fun hc h => ?_)
       ·cbv;have h := ret_some h;subst h;exact hK _ _ _ hO (.refl _)
       ·cbv;have h := ret_some h;subst h;exact hK _ _ _ hO (.refl _)
      ·rintro e l H ⟨rfl, rfl, hO⟩;cbv;have h := ret_some h;subst h;exact hK _ _ _ hO (.refl _)
def cf119 : Cf := ⟨[], [], [], [], [], []⟩
theorem c119 (N : Nat) (x_e : GExpr) (r : Int) (h : expr_Check N x_e = some r) : CallP Tryz.prog 119 [.agg [.int .i64 x_e.Op, .sl (Ar.lst Encs.eGExpr x_e.Args) .ro, .int .i64 x_e.Var, .int .i64 x_e.Field, .int .i64 x_e.Kind, .int .i64 x_e.Value.Kind, .int .i64 x_e.Value.Num, .str x_e.Value.Text]] (.int .i64 r) := by
 unfold expr_Check at h
 refine callP_of_spec cf119 okP Tryz.func119 (by rfl) (by kernel_rfl) Tryz.call119 Tryz.ntmps119 (by rfl) (by rfl) ?_;intro E H0 K hE hK
 have hO : Own Eq H0 [] H0 := .start stable_eq rfl
 cbv;refine n_call hE (g := fun r1 => .tup [.int .i64 r1.1, .int .i64 r1.2]) h (fun r1 hx => c151 N N x_e r1 hx) (.refl _) fun r1 h => ?_;cbv;refine n_br hE h (fun hc h => ?_) (fun hc h => ?_)
 ·cbv;have h := ret_some h;subst h;exact hK _ _ _ hO (.refl _)
 ·cbv;refine n_br hE h (fun hc h => ?_) (fun hc h => ?_)
  ·cbv;have h := ret_some h;subst h;exact hK _ _ _ hO (.refl _)
  ·cbv;refine n_call hE (g := fun r2 => .int .i64 r2) h (fun r2 hx => c152 N N x_e (.func (.func 153) [] []) (fun y1 => expr_node N y1) (fun y1 r hx => CallP.value (F := []) (C := []) (c153 N y1 r hx)) r2 hx) (.refl _) fun r2 h => ?_;cbv;have h := ret_some h;subst h;exact hK _ _ _ hO (.refl _)
def cf154 : Cf := ⟨[], [(7, 9)], [], [], [], []⟩
theorem c154 (N : Nat) (x_t : Gexpr_typer) (x_e : GExpr) (r : (Int × Int)) (h : expr_typer_leaf N x_t x_e = some r) : CallP Tryz.prog 154 [.agg [.sl (Ar.lst Encs.eGSchema x_t.types) .ro, .sl (Ar.lst Encs.eGVariable x_t.vars) .ro], .agg [.int .i64 x_e.Op, .sl (Ar.lst Encs.eGExpr x_e.Args) .ro, .int .i64 x_e.Var, .int .i64 x_e.Field, .int .i64 x_e.Kind, .int .i64 x_e.Value.Kind, .int .i64 x_e.Value.Num, .str x_e.Value.Text]] (.tup [.int .i64 r.1, .int .i64 r.2]) := by
 unfold expr_typer_leaf at h
 refine callP_of_spec cf154 okP Tryz.func154 (by rfl) (by kernel_rfl) Tryz.call154 Tryz.ntmps154 (by rfl) (by rfl) ?_;intro E H0 K hE hK
 have hO : Own Eq H0 [] H0 := .start stable_eq rfl
 cbv;refine n_br hE h (fun hc h => ?_) (fun hc h => ?_)
 ·cbv;have h := ret_some h;subst h;exact hK _ _ _ hO (.refl _)
 ·cbv;refine n_ln hE ?_;cbv;refine n_br hE h (fun hc h => ?_) (fun hc h => ?_)
  ·cbv;have h := ret_some h;subst h;exact hK _ _ _ hO (.refl _)
  ·cbv;refine n_br hE h (fun hc h => ?_) (fun hc h => ?_)
   ·cbv;have h := ret_some h;subst h;exact hK _ _ _ hO (.refl _)
   ·cbv;refine n_idx hE Encs.eGVariable_eq h fun x1 h => ?_;cbv;refine n_idx hE Encs.eGSchema_eq h fun x2 h => ?_;cbv;refine n_ln hE ?_;cbv;refine n_br hE h (fun hc h => ?_) (fun hc h => ?_)
    ·cbv;have h := ret_some h;subst h;exact hK _ _ _ hO (.refl _)
    ·cbv;refine n_idx hE Encs.eGField_eq h fun x3 h => ?_;cbv;refine n_br hE h (fun hc h => ?_) (fun hc h => ?_)
     ·cbv;refine n_br hE h (fun hc h => ?_) (fun hc h => ?_)
      ·cbv;have h := ret_some h;subst h;exact hK _ _ _ hO (.refl _)
      ·cbv;refine n_call hE (g := fun r4 => .bool r4) h (fun r4 hx => c197 N x_e.Kind (⟨x3.Kind, 0, ⟨#[]⟩⟩ : GValue) r4 hx) (.refl _) fun r4 h => ?_;cbv;refine n_br hE h (fun hc h => ?_) (fun hc h => ?_)
       ·cbv;have h := ret_some h;subst h;exact hK _ _ _ hO (.refl _)
       ·cbv;have h := ret_some h;subst h;exact hK _ _ _ hO (.refl _)
     ·cbv;have h := ret_some h;subst h;exact hK _ _ _ hO (.refl _)
def cf155 : Cf := ⟨[], [], [(15, 8), (22, 13)], [], [], []⟩
theorem c155 (N : Nat) (x_op : Int) (x_kinds : List Int) (r : Int) (h : expr_operands N x_op x_kinds = some r) : CallP Tryz.prog 155 [.int .i64 x_op, .sl (Ar.lst (V.int .i64) x_kinds) .ro] (.int .i64 r) := by
 unfold expr_operands at h
 refine callP_of_spec cf155 okP Tryz.func155 (by rfl) (by kernel_rfl) Tryz.call155 Tryz.ntmps155 (by rfl) (by rfl) ?_;intro E H0 K hE hK
 have hO : Own Eq H0 [] H0 := .start stable_eq rfl
 cbv;refine n_ln hE ?_;cbv;obtain ⟨s2, hx, h⟩ := bind_some h;refine n_loopN cf155 hE okP (fun s1 => [(0, .v (.int .i64 x_op)), (1, .v (.sl (Ar.lst (V.int .i64) x_kinds) .ro)), (8, .v (.sl (Ar.lst (V.int .i64) x_kinds) .ro)), (9, .v (.int .i64 (Ar.len x_kinds))), (10, .v (.int .i64 s1))]) (fun s1 H1 => Own Eq H0 [] H1) (fun x e l H1 => match (generalizing := false) x with | .inl y => e = .exit 0 ∧ l = [] ∧ Own Eq H0 [] H1 | .inr y => e = .ret ∧ l = [(4, .v (.int .i64 9))] ∧ Own Eq H0 [] H1) (by kernel_rfl) ?_ hx ?_ hO ?_
 ·intro s1 H o hO h;clear hx;cbv;refine n_br hE h (fun hc h => ?_) (fun hc h => ?_)
  ·cbv;refine n_idx hE (fun _ => rfl) h fun x3 h => ?_;cbv;obtain ⟨s4, hx, h⟩ := bind_some h;refine n_join cf155 hE okP (fun e l H1 => e = .normal ∧ l = [(0, .v (.int .i64 x_op)), (1, .v (.sl (Ar.lst (V.int .i64) x_kinds) .ro)), (6, .v (.int .i64 x3)), (7, .b true), (8, .v (.sl (Ar.lst (V.int .i64) x_kinds) .ro)), (9, .v (.int .i64 (Ar.len x_kinds))), (10, .v (.int .i64 s1)), (14, .v (.int .i64 x_op)), (15, .v (.bool s4))] ∧ Own Eq H0 [] H1) (by kernel_rfl) ?_ ?_
   ·clear h;have h := hx;clear hx;cbv;refine n_br hE h (fun hc h => ?_) (fun hc h => ?_)
    ·cbv;have h := ret_some h;subst h;exact ⟨_, ⟨rfl, rfl, hO⟩, .e rfl (.e rfl (.e rfl (.b rfl (.e rfl (.e rfl (.e rfl (.e rfl (.e rfl (.z))))))))), rfl⟩
    ·cbv;refine n_br hE h (fun hc h => ?_) (fun hc h => ?_)
     ·cbv;have h := ret_some h;subst h;exact ⟨_, ⟨rfl, rfl, hO⟩, .e rfl (.e rfl (.e rfl (.b rfl (.e rfl (.e rfl (.e rfl (.e rfl (.e rfl (.z))))))))), rfl⟩
     ·cbv;refine n_br hE h (fun hc h => ?_) (fun hc h => ?_)
      ·cbv;have h := ret_some h;subst h;exact ⟨_, ⟨rfl, rfl, hO⟩, .e rfl (.e rfl (.e rfl (.b rfl (.e rfl (.e rfl (.e rfl (.e rfl (.e rfl (.z))))))))), rfl⟩
      ·cbv;have h := ret_some h;subst h;exact ⟨_, ⟨rfl, rfl, hO⟩, .e rfl (.e rfl (.e rfl (.b rfl (.e rfl (.e rfl (.e rfl (.e rfl (.e rfl (.z))))))))), rfl⟩
   ·clear hx;rintro e l H ⟨rfl, rfl, hO⟩;cbv;refine n_br hE h (fun hc h => ?_) (fun hc h => ?_)
    ·cbv;refine n_br hE h (fun hc h => ?_) (fun hc h => ?_)
     ·cbv;have h := ret_some h;subst h;exact ⟨_, _, rfl, ⟨rfl, rfl, hO⟩, .e rfl (.z), rfl⟩
     ·cbv;have h := ret_some h;subst h;exact ⟨_, rfl, .e rfl (.e rfl (.e rfl (.e rfl (.e rfl (.z))))), rfl, hO⟩
    ·cbv;obtain ⟨s5, hx, h⟩ := bind_some h;refine n_join cf155 hE okP (fun e l H1 => e = .normal ∧ l = [(0, .v (.int .i64 x_op)), (1, .v (.sl (Ar.lst (V.int .i64) x_kinds) .ro)), (6, .v (.int .i64 x3)), (7, .b true), (8, .v (.sl (Ar.lst (V.int .i64) x_kinds) .ro)), (9, .v (.int .i64 (Ar.len x_kinds))), (10, .v (.int .i64 s1)), (14, .v (.int .i64 x_op)), (22, .v (.bool s5))] ∧ Own Eq H0 [] H1) (by kernel_rfl) ?_ ?_
     ·clear h;have h := hx;clear hx;cbv;refine n_br hE h (fun hc h => ?_) (fun hc h => ?_)
      ·cbv;have h := ret_some h;subst h;exact ⟨_, ⟨rfl, rfl, hO⟩, .e rfl (.e rfl (.e rfl (.b rfl (.e rfl (.e rfl (.e rfl (.e rfl (.e rfl (.z))))))))), rfl⟩
      ·cbv;refine n_br hE h (fun hc h => ?_) (fun hc h => ?_)
       ·cbv;have h := ret_some h;subst h;exact ⟨_, ⟨rfl, rfl, hO⟩, .e rfl (.e rfl (.e rfl (.b rfl (.e rfl (.e rfl (.e rfl (.e rfl (.e rfl (.z))))))))), rfl⟩
       ·cbv;have h := ret_some h;subst h;exact ⟨_, ⟨rfl, rfl, hO⟩, .e rfl (.e rfl (.e rfl (.b rfl (.e rfl (.e rfl (.e rfl (.e rfl (.e rfl (.z))))))))), rfl⟩
     ·clear hx;rintro e l H ⟨rfl, rfl, hO⟩;cbv;refine n_br hE h (fun hc h => ?_) (fun hc h => ?_)
      ·cbv;refine n_br hE h (fun hc h => ?_) (fun hc h => ?_)
       ·cbv;have h := ret_some h;subst h;exact ⟨_, _, rfl, ⟨rfl, rfl, hO⟩, .e rfl (.z), rfl⟩
       ·cbv;have h := ret_some h;subst h;exact ⟨_, rfl, .e rfl (.e rfl (.e rfl (.e rfl (.e rfl (.z))))), rfl, hO⟩
      ·cbv;refine n_br hE h (fun hc h => ?_) (fun hc h => ?_)
       ·cbv;refine n_idx hE (fun _ => rfl) h fun x6 h => ?_;cbv;refine n_br hE h (fun hc h => ?_) (fun hc h => ?_)
        ·cbv;have h := ret_some h;subst h;exact ⟨_, _, rfl, ⟨rfl, rfl, hO⟩, .e rfl (.z), rfl⟩
        ·cbv;have h := ret_some h;subst h;exact ⟨_, rfl, .e rfl (.e rfl (.e rfl (.e rfl (.e rfl (.z))))), rfl, hO⟩
       ·cbv;have h := ret_some h;subst h;exact ⟨_, rfl, .e rfl (.e rfl (.e rfl (.e rfl (.e rfl (.z))))), rfl, hO⟩
  ·cbv;have h := ret_some h;subst h;exact ⟨_, _, rfl, ⟨rfl, rfl, hO⟩, .z, rfl⟩
 ·exact .e rfl (.e rfl (.e rfl (.e rfl (.e rfl (.z)))))
 ·clear hx
  rcases s2 with y7 | y8
  ·rintro e l H ⟨rfl, rfl, hO⟩;cbv;have h := ret_some h;subst h;exact hK _ _ _ hO (.refl _)
  ·rintro e l H ⟨rfl, rfl, hO⟩;cbv;have h := ret_some h;subst h;exact hK _ _ _ hO (.refl _)
def cf120 : Cf := ⟨[], [], [], [], [], []⟩
theorem c120 (N : Nat) : ∀ (n : Nat) (x_t : Gexpr_typer) (x_e : GExpr) (r : (Int × Int)), expr_typer_kind N n x_t x_e = some r → CallP Tryz.prog 120 [.agg [.sl (Ar.lst Encs.eGSchema x_t.types) .ro, .sl (Ar.lst Encs.eGVariable x_t.vars) .ro], .agg [.int .i64 x_e.Op, .sl (Ar.lst Encs.eGExpr x_e.Args) .ro, .int .i64 x_e.Var, .int .i64 x_e.Field, .int .i64 x_e.Kind, .int .i64 x_e.Value.Kind, .int .i64 x_e.Value.Num, .str x_e.Value.Text]] (.tup [.int .i64 r.1, .int .i64 r.2]) := by
 intro n
 induction n with
 | zero => intro x_t x_e r h; cases h
 | succ n ih =>
 intro x_t x_e r h
 unfold expr_typer_kind at h
 refine callP_of_spec cf120 okP Tryz.func120 (by rfl) (by kernel_rfl) Tryz.call120 Tryz.ntmps120 (by rfl) (by rfl) ?_;intro E H0 K hE hK
 have hO : Own Eq H0 [] H0 := .start stable_eq rfl
 cbv;refine n_ln hE ?_;cbv;refine n_br hE h (fun hc h => ?_) (fun hc h => ?_)
 ·cbv;refine n_call hE (g := fun r1 => .tup [.int .i64 r1.1, .int .i64 r1.2]) h (fun r1 hx => c154 N x_t x_e r1 hx) (.refl _) fun r1 h => ?_;cbv;have h := ret_some h;subst h;exact hK _ _ _ hO (.refl _)
 ·cbv;refine n_ln hE ?_;cbv;replace hO := hO.tl0 (t := .nil) rfl;obtain ⟨s4, hx, h⟩ := bind_some h;refine n_loopG cf120 hE okP (γ := Tail) (fun s2 g => [(2, .v (.eref [.sl (Ar.lst Encs.eGSchema x_t.types) .ro, .sl (Ar.lst Encs.eGVariable x_t.vars) .ro] 0)), (3, .v (.eref [.int .i64 x_e.Op, .sl (Ar.lst Encs.eGExpr x_e.Args) .ro, .int .i64 x_e.Var, .int .i64 x_e.Field, .int .i64 x_e.Kind, .int .i64 x_e.Value.Kind, .int .i64 x_e.Value.Num, .str x_e.Value.Text] 0)), (6, .v (.sl (Ar.lst (V.int .i64) s2.1) g)), (22, .v (.sl (Ar.lst Encs.eGExpr x_e.Args) .ro)), (23, .v (.int .i64 (Ar.len x_e.Args))), (24, .v (.int .i64 s2.2))]) (fun s2 g H1 => Appn g ∧ Own Eq H0 [.tl g] H1) (fun x e l H1 => match (generalizing := false) x with | .inl y => ∃ u1 : Tail, Appn u1 ∧ e = .exit 0 ∧ l = [(3, .v (.eref [.int .i64 x_e.Op, .sl (Ar.lst Encs.eGExpr x_e.Args) .ro, .int .i64 x_e.Var, .int .i64 x_e.Field, .int .i64 x_e.Kind, .int .i64 x_e.Value.Kind, .int .i64 x_e.Value.Num, .str x_e.Value.Text] 0)), (6, .v (.sl (Ar.lst (V.int .i64) y) u1))] ∧ Own Eq H0 [.tl u1] H1 | .inr y => ∃ u1 : Tail, Appn u1 ∧ e = .ret ∧ l = [(4, .v (.int .i64 0)), (5, .v (.int .i64 y))] ∧ Own Eq H0 [.tl u1] H1) (by kernel_rfl) ?_ .nil hx ?_ ?_ ?_
  ·rintro s2 t3 H o ⟨ht3, hO⟩ h;clear hx;cbv;refine n_br hE h (fun hc h => ?_) (fun hc h => ?_)
   ·cbv;refine n_idx hE Encs.eGExpr_eq h fun x5 h => ?_;cbv;refine n_call hE (g := fun r6 => .tup [.int .i64 r6.1, .int .i64 r6.2]) h (fun r6 hx => ih x_t x5 r6 hx) (.refl _) fun r6 h => ?_;cbv;refine n_br hE h (fun hc h => ?_) (fun hc h => ?_)
    ·cbv;have h := ret_some h;subst h;exact ⟨_, _, rfl, ⟨t3, ht3, rfl, rfl, hO⟩, .e rfl (.e rfl (.z)), rfl⟩
    ·cbv;refine n_appn (f := (V.int .i64)) hE (fun _ => rfl) (by decide) hO 0 rfl ht3 (l := s2.1) (m := [r6.1]) (.refl _) (.lstc (.refl _) (.lst0)) h fun l8 t7 H hO ht7 h => ?_;cbv;have h := ret_some h;subst h;exact ⟨_, t7, rfl, .e rfl (.e rfl (.e rfl (.e rfl (.e rfl (.e rfl (.z)))))), rfl, ht7, hO⟩
   ·cbv;have h := ret_some h;subst h;exact ⟨_, _, rfl, ⟨t3, ht3, rfl, rfl, hO⟩, .e rfl (.e rfl (.z)), rfl⟩
  ·exact .e rfl (.e rfl (.v (.slt _ (.lst0)) (.e rfl (.e rfl (.e rfl (.z))))))
  ·exact ⟨trivial, hO⟩
  ·clear hx
   rcases s4 with y9 | y12
   ·rintro e l H ⟨t10, ht10, rfl, rfl, hO⟩;cbv;refine n_call hE (g := fun r11 => .int .i64 r11) h (fun r11 hx => c155 N x_e.Op y9 r11 hx) (.cons (.refl _) (.cons (.ro _ _) (.refl _))) fun r11 h => ?_;cbv;refine n_br hE h (fun hc h => ?_) (fun hc h => ?_)
    ·cbv;have h := ret_some h;subst h;exact hK _ _ _ hO (.refl _)
    ·cbv;refine n_br hE h (fun hc h => ?_) (fun hc h => ?_)
     ·cbv;have h := ret_some h;subst h;exact hK _ _ _ hO (.refl _)
     ·cbv;have h := ret_some h;subst h;exact hK _ _ _ hO (.refl _)
   ·rintro e l H ⟨t13, ht13, rfl, rfl, hO⟩;cbv;have h := ret_some h;subst h;exact hK _ _ _ hO (.refl _)
def cf90 : Cf := ⟨[], [], [], [], [], []⟩
theorem c90 (N : Nat) (x_types : List GSchema) (x_vars : List GVariable) (x_e : GExpr) (r : (Int × Int)) (h : expr_Kind N x_types x_vars x_e = some r) : CallP Tryz.prog 90 [.sl (Ar.lst Encs.eGSchema x_types) .ro, .sl (Ar.lst Encs.eGVariable x_vars) .ro, .agg [.int .i64 x_e.Op, .sl (Ar.lst Encs.eGExpr x_e.Args) .ro, .int .i64 x_e.Var, .int .i64 x_e.Field, .int .i64 x_e.Kind, .int .i64 x_e.Value.Kind, .int .i64 x_e.Value.Num, .str x_e.Value.Text]] (.tup [.int .i64 r.1, .int .i64 r.2]) := by
 unfold expr_Kind at h
 refine callP_of_spec cf90 okP Tryz.func90 (by rfl) (by kernel_rfl) Tryz.call90 Tryz.ntmps90 (by rfl) (by rfl) ?_;intro E H0 K hE hK
 have hO : Own Eq H0 [] H0 := .start stable_eq rfl
 cbv;refine n_call hE (g := fun r1 => .int .i64 r1) h (fun r1 hx => c89 N x_types r1 hx) (.refl _) fun r1 h => ?_;cbv;refine n_br hE h (fun hc h => ?_) (fun hc h => ?_)
 ·cbv;have h := ret_some h;subst h;exact hK _ _ _ hO (.refl _)
 ·cbv;refine n_ln hE ?_;cbv;refine n_br hE h (fun hc h => ?_) (fun hc h => ?_)
  ·cbv;have h := ret_some h;subst h;exact hK _ _ _ hO (.refl _)
  ·cbv;refine n_ln hE ?_;cbv;obtain ⟨s3, hx, h⟩ := bind_some h;refine n_loopN cf90 hE okP (fun s2 => [(0, .v (.sl (Ar.lst Encs.eGSchema x_types) .ro)), (1, .v (.sl (Ar.lst Encs.eGVariable x_vars) .ro)), (5, .v (.eref [.int .i64 x_e.Op, .sl (Ar.lst Encs.eGExpr x_e.Args) .ro, .int .i64 x_e.Var, .int .i64 x_e.Field, .int .i64 x_e.Kind, .int .i64 x_e.Value.Kind, .int .i64 x_e.Value.Num, .str x_e.Value.Text] 0)), (20, .v (.sl (Ar.lst Encs.eGVariable x_vars) .ro)), (21, .v (.int .i64 (Ar.len x_vars))), (22, .v (.int .i64 s2))]) (fun s2 H1 => Own Eq H0 [] H1) (fun x e l H1 => match (generalizing := false) x with | .inl y => e = .exit 0 ∧ l = [(0, .v (.sl (Ar.lst Encs.eGSchema x_types) .ro)), (1, .v (.sl (Ar.lst Encs.eGVariable x_vars) .ro)), (5, .v (.eref [.int .i64 x_e.Op, .sl (Ar.lst Encs.eGExpr x_e.Args) .ro, .int .i64 x_e.Var, .int .i64 x_e.Field, .int .i64 x_e.Kind, .int .i64 x_e.Value.Kind, .int .i64 x_e.Value.Num, .str x_e.Value.Text] 0))] ∧ Own Eq H0 [] H1 | .inr y => e = .ret ∧ l = [(6, .v (.int .i64 0)), (7, .v (.int .i64 6))] ∧ Own Eq H0 [] H1) (by kernel_rfl) ?_ hx ?_ hO ?_
   ·intro s2 H o hO h;clear hx;cbv;refine n_br hE h (fun hc h => ?_) (fun hc h => ?_)
    ·cbv;refine n_idx hE Encs.eGVariable_eq h fun x4 h => ?_;cbv;refine n_ln hE ?_;cbv;refine n_br hE h (fun hc h => ?_) (fun hc h => ?_)
     ·cbv;have h := ret_some h;subst h;exact ⟨_, _, rfl, ⟨rfl, rfl, hO⟩, .e rfl (.e rfl (.z)), rfl⟩
     ·cbv;have h := ret_some h;subst h;exact ⟨_, rfl, .e rfl (.e rfl (.e rfl (.e rfl (.e rfl (.e rfl (.z)))))), rfl, hO⟩
    ·cbv;have h := ret_some h;subst h;exact ⟨_, _, rfl, ⟨rfl, rfl, hO⟩, .e rfl (.e rfl (.e rfl (.z))), rfl⟩
   ·exact .e rfl (.e rfl (.e rfl (.e rfl (.e rfl (.e rfl (.z))))))
   ·clear hx
    rcases s3 with y5 | y8
    ·rintro e l H ⟨rfl, rfl, hO⟩;cbv;refine n_call hE (g := fun r6 => .int .i64 r6) h (fun r6 hx => c119 N x_e r6 hx) (.refl _) fun r6 h => ?_;cbv;refine n_br hE h (fun hc h => ?_) (fun hc h => ?_)
     ·cbv;have h := ret_some h;subst h;exact hK _ _ _ hO (.refl _)
     ·cbv;refine n_call hE (g := fun r7 => .tup [.int .i64 r7.1, .int .i64 r7.2]) h (fun r7 hx => c120 N N (⟨x_types, x_vars⟩ : Gexpr_typer) x_e r7 hx) (.refl _) fun r7 h => ?_;cbv;have h := ret_some h;subst h;exact hK _ _ _ hO (.refl _)
    ·rintro e l H ⟨rfl, rfl, hO⟩;cbv;have h := ret_some h;subst h;exact hK _ _ _ hO (.refl _)
def cf157 : Cf := ⟨[], [], [], [], [], []⟩
theorem c157 (N : Nat) (x_x : Int) (x_y : Int) (r : (Int × Int)) (h : bits_Mul64 N x_x x_y = some r) : CallP Tryz.prog 157 [.int .u64 x_x, .int .u64 x_y] (.tup [.int .u64 r.1, .int .u64 r.2]) := by
 unfold bits_Mul64 at h
 refine callP_of_spec cf157 okP Tryz.func157 (by rfl) (by kernel_rfl) Tryz.call157 Tryz.ntmps157 (by rfl) (by rfl) ?_;intro E H0 K hE hK
 have hO : Own Eq H0 [] H0 := .start stable_eq rfl
 cbv;refine n_needT hE (cmp_true hE rfl) ?_;cbv;refine n_needT hE (cmp_true hE rfl) ?_;cbv;refine n_needT hE (cmp_true hE rfl) ?_;cbv;refine n_needT hE (cmp_true hE rfl) ?_;cbv;refine n_needT hE (cmp_true hE rfl) ?_;cbv;have h := ret_some h;subst h;exact hK _ _ _ hO (.refl _)
def cf121 : Cf := ⟨[], [], [], [], [], []⟩
theorem c121 (N : Nat) (x_x : Int) (x_y : Int) (r : (Int × Int)) (h : bits_Mul N x_x x_y = some r) : CallP Tryz.prog 121 [.int .u64 x_x, .int .u64 x_y] (.tup [.int .u64 r.1, .int .u64 r.2]) := by
 unfold bits_Mul at h
 refine callP_of_spec cf121 okP Tryz.func121 (by rfl) (by kernel_rfl) Tryz.call121 Tryz.ntmps121 (by rfl) (by rfl) ?_;intro E H0 K hE hK
 have hO : Own Eq H0 [] H0 := .start stable_eq rfl
 cbv;refine n_call hE (g := fun r1 => .tup [.int .u64 r1.1, .int .u64 r1.2]) h (fun r1 hx => c157 N x_x x_y r1 hx) (.refl _) fun r1 h => ?_;cbv;have h := ret_some h;subst h;exact hK _ _ _ hO (.refl _)
def cf91 : Cf := ⟨[], [(9, 7), (1000009, 0)], [(10, 3), (26, 6)], [], [], []⟩
theorem c91 (N : Nat) (x_x : List GVariable) (x_count : Int) (r : (List GVariable)) (h : slices_Repeat_LVariable_Variable N x_x x_count = some r) : CallP Tryz.prog 91 [.sl (Ar.lst Encs.eGVariable x_x) .ro, .int .i64 x_count] (.sl (Ar.lst Encs.eGVariable r) .ro) := by
 unfold slices_Repeat_LVariable_Variable at h
 refine callP_of_specF (T := TT) cf91 okP Tryz.func91 (by rfl) (by kernel_rfl) Tryz.call91 Tryz.ntmps91 (by rfl) (by rfl) ?_;intro E H0 K hE hK hF
 have hO : Own Eq H0 [] H0 := .start stable_eq rfl
 cbv;obtain ⟨s1, hx, h⟩ := bind_some h;refine n_join cf91 hE okP (fun e l H1 => e = .normal ∧ l = [(0, .v (.sl (Ar.lst Encs.eGVariable x_x) .ro)), (1, .v (.int .i64 x_count))] ∧ Own Eq H0 [] H1) (by kernel_rfl) ?_ ?_
 ·clear h;have h := hx;clear hx;cbv;refine n_br hE h (fun hc h => ?_) (fun hc h => ?_)
  ·cbv
   cases h
  ·cbv;have h := ret_some h;subst h;exact ⟨_, ⟨rfl, rfl, hO⟩, .e rfl (.e rfl (.z)), rfl⟩
 ·clear hx;rintro e l H ⟨rfl, rfl, hO⟩;cbv;refine n_ln hE ?_;cbv;refine n_call hE (g := fun r2 => .tup [.int .u64 r2.1, .int .u64 r2.2]) h (fun r2 hx => c121 N (Ar.wr .u64 (Ar.len x_x)) (Ar.wr .u64 x_count) r2 hx) (.refl _) fun r2 h => ?_;cbv;obtain ⟨s3, hx, h⟩ := bind_some h;refine n_join cf91 hE okP (fun e l H1 => e = .normal ∧ l = [(0, .v (.sl (Ar.lst Encs.eGVariable x_x) .ro)), (6, .v (.int .u64 r2.2))] ∧ Own Eq H0 [] H1) (by kernel_rfl) ?_ ?_
  ·clear h;have h := hx;clear hx;cbv;refine n_br hE h (fun hc h => ?_) (fun hc h => ?_)
   ·cbv
    cases h
   ·cbv;have h := ret_some h;subst h;exact ⟨_, ⟨rfl, rfl, hO⟩, .e rfl (.e rfl (.z)), rfl⟩
  ·clear hx;rintro e l H ⟨rfl, rfl, hO⟩;cbv;refine n_omk hE (f := Encs.eGVariable) (by decide) (z0 := ((⟨⟨#[]⟩, 0⟩ : GVariable) : GVariable)) ((.eq (Encs.eGVariable_eq _) (.refl _))) hO h fun l5 q4 H hq4 h hO => ?_;cbv;refine n_ocopy (f := Encs.eGVariable) hE hO hq4 0 rfl (m := x_x) (src_sl (f := Encs.eGVariable) hE sz_GVariable (.refl _)) h fun p6 H hq4 hO h => ?_;cbv;obtain ⟨s9, hx, h⟩ := bind_some h;refine n_loopG cf91 hE okP (γ := OG) (fun s7 g => [(7, .v (.own g.id g.lo g.n)), (8, .v (.int .i64 s7.1))]) (fun s7 g H1 => Okn g (Ar.len s7.2) ∧ Own Eq H0 [.blk g.id (.arr 2 (g.pre ++ Ar.lst Encs.eGVariable s7.2 ++ g.rest))] H1) (fun x e l H1 => ∃ u1 : OG, Okn u1 (Ar.len x) ∧ e = .exit 0 ∧ l = [(7, .v (.own u1.id u1.lo u1.n))] ∧ Own Eq H0 [.blk u1.id (.arr 2 (u1.pre ++ Ar.lst Encs.eGVariable x ++ u1.rest))] H1) (by kernel_rfl) ?_ q4 hx ?_ ?_ ?_
   ·rintro s7 q8 H o ⟨hq8, hO⟩ h;clear hx;cbv;refine n_olen hE hq8 ?_;cbv;refine n_br hE h (fun hc h => ?_) (fun hc h => ?_)
    ·cbv;refine n_osliceD hE hO hq8 0 rfl h fun l11 q10 hq10 h => ?_;cbv;refine n_osliceK hE hO hq8 0 rfl h fun l13 q12 hq12 h => ?_;cbv;refine n_ocopyD (f := Encs.eGVariable) hE hO hq8 0 rfl hq10 (m := l13) (hq12) h fun p14 H hq8 hO h => ?_;cbv;have h := ret_some h;subst h;exact ⟨_, q8, rfl, .e rfl (.e rfl (.z)), rfl, hq8, hO⟩
    ·cbv;have h := ret_some h;subst h;exact ⟨_, _, rfl, ⟨q8, hq8, rfl, rfl, hO⟩, .e rfl (.z), rfl⟩
   ·exact .e rfl (.e rfl (.z))
   ·exact ⟨hq4, hO⟩
   ·clear hx;rintro e l H ⟨q15, hq15, rfl, rfl, hO⟩;cbv;have h := ret_some h;subst h;exact hF q15 _ _ 0 _ _ hO rfl (okn_lst hE hq15) (.refl _)
def cf112 : Cf := ⟨[], [], [], [], [], []⟩
theorem c112 (N : Nat) (x_l : List GInterval) (r : ((List GInterval) × Int)) (h : interval_limited N x_l = some r) : CallP Tryz.prog 112 [.sl (Ar.lst Encs.eGInterval x_l) .ro] (.tup [.sl (Ar.lst Encs.eGInterval r.1) .ro, .int .i64 r.2]) := by
 unfold interval_limited at h
 refine callP_of_spec cf112 okP Tryz.func112 (by rfl) (by kernel_rfl) Tryz.call112 Tryz.ntmps112 (by rfl) (by rfl) ?_;intro E H0 K hE hK
 have hO : Own Eq H0 [] H0 := .start stable_eq rfl
 cbv;refine n_ln hE ?_;cbv;refine n_br hE h (fun hc h => ?_) (fun hc h => ?_)
 ·cbv;have h := ret_some h;subst h;exact hK _ _ _ hO (.tup (.cons (.lit _ (lst_nil)) (.refl _)))
 ·cbv;have h := ret_some h;subst h;exact hK _ _ _ hO (.refl _)
def cf143 : Cf := ⟨[], [], [], [], [], []⟩
theorem c143 (N : Nat) (x_a : List GInterval) (x_b : List GInterval) (r : Int) (h : interval_both N x_a x_b = some r) : CallP Tryz.prog 143 [.sl (Ar.lst Encs.eGInterval x_a) .ro, .sl (Ar.lst Encs.eGInterval x_b) .ro] (.int .i64 r) := by
 unfold interval_both at h
 refine callP_of_spec cf143 okP Tryz.func143 (by rfl) (by kernel_rfl) Tryz.call143 Tryz.ntmps143 (by rfl) (by rfl) ?_;intro E H0 K hE hK
 have hO : Own Eq H0 [] H0 := .start stable_eq rfl
 cbv;refine n_call hE (g := fun r1 => .int .i64 r1) h (fun r1 hx => c82 N x_a r1 hx) (.refl _) fun r1 h => ?_;cbv;refine n_br hE h (fun hc h => ?_) (fun hc h => ?_)
 ·cbv;have h := ret_some h;subst h;exact hK _ _ _ hO (.refl _)
 ·cbv;refine n_call hE (g := fun r2 => .int .i64 r2) h (fun r2 hx => c82 N x_b r2 hx) (.refl _) fun r2 h => ?_;cbv;have h := ret_some h;subst h;exact hK _ _ _ hO (.refl _)
def cf216 : Cf := ⟨[22], [], [], [], [], []⟩
theorem c216 (N : Nat) (x_s : List GInterval) (x_n : Int) (r : List GInterval) (h : slices_Grow_LInterval_Interval N x_s x_n = some r) : CallO Tryz.prog 216 [.sl [] .nil, .int .i64 x_n] 2 (Ar.lst Encs.eGInterval r) := by
 unfold slices_Grow_LInterval_Interval at h
 obtain ⟨h1, h2, hr⟩ := lst_grow (f := Encs.eGInterval) h;rw [hr];clear hr h;intro H0
 have hneg : ∀ b, Ar.cmp .lss x_n 0 = b → b = false := fun b h => by rw [Ar.cmp_eq] at h; subst h; simp [cmpI]; omega
 have hsub : Ar.ar .sub .i64 x_n (Ar.ar .sub .i64 0 0) = x_n := by rw [Ar.ar_eq, Ar.ar_eq]; simp only [arI]; rw [show (0 : Int) - 0 = 0 from rfl, wrap_small 0 (by omega) (by omega), Int.sub_zero]; exact wrap_small _ (by omega) (by omega)
 have hgt : ∀ b, Ar.cmp .gtr (Ar.ar .sub .i64 x_n (Ar.ar .sub .i64 0 0)) 0 = b → (b = false → x_n = 0) := fun b h => by rw [hsub, Ar.cmp_eq] at h; subst h; simp [cmpI]; omega
 have hbn : x_n.toNat * 16 ≤ 140737488355328 := by have := mul_bnd (a := x_n.toNat) (b := 0) (by_ := 16) (by omega) (by decide); simpa using this
 have hl0 : (0 : Int) = (([] : List V).length : Nat) := rfl
 refine callO_run (T := TT) cf216 okP Tryz.func216 (by rfl) (by kernel_rfl) Tryz.call216 Tryz.ntmps216 (by rfl) (by rfl) ?_;intro E K hE hK hN;cbv;refine r_br hE (fun hc => absurd (hneg _ hc) (by decide)) (fun hc => ?_);cbv;refine r_ln hE hl0 ?_;cbv;refine r_br hE (fun hc2 => ?_) (fun hc2 => ?_)
 ·cbv;refine r_slnil hE ?_;cbv;refine r_oappz0 hE x_n hsub (.inl rfl) h1 hbn fun t m row j ht hm hrow => ?_;obtain ⟨RL, hRL, hR0⟩ : ∃ RL : Int, RL = (row.length : Nat) ∧ 0 ≤ RL := ⟨_, rfl, by omega⟩;cbv;refine r_ln hE hl0 ?_;cbv;refine r_oslice hE (upd_same _ _ _) hRL 0 0 rfl rfl (Int.le_refl _) (Int.le_refl _) hR0 fun l' n' q1 q2 => ?_;cbv
  have e1 : 0 = l' := by omega
  have e2 : 0 = n' := by omega
  subst e1 e2;exact hK ⟨t, 0, 0, [], row⟩ [] _ ⟨rfl, rfl⟩ ((Own.start stable_eq rfl).push ht rfl)
 ·cbv;exact hN rfl [] H0 (.start stable_eq rfl)
def cf190 : Cf := ⟨[], [], [], [], [], []⟩
theorem c190 (N : Nat) (x_slices : List (List GInterval)) (r : (List GInterval)) (h : slices_Concat_LInterval_Interval N x_slices = some r) : CallP Tryz.prog 190 [.sl (Ar.lst Encs.eLGInterval x_slices) .ro] (.sl (Ar.lst Encs.eGInterval r) .ro) := by
 unfold slices_Concat_LInterval_Interval at h
 refine callP_of_specF (T := TT) cf190 okP Tryz.func190 (by rfl) (by kernel_rfl) Tryz.call190 Tryz.ntmps190 (by rfl) (by rfl) ?_;intro E H0 K hE hK hF
 have hO : Own Eq H0 [] H0 := .start stable_eq rfl
 cbv;refine n_ln hE ?_;cbv;obtain ⟨s2, hx, h⟩ := bind_some h;refine n_loopN cf190 hE okP (fun s1 => [(0, .v (.sl (Ar.lst Encs.eLGInterval x_slices) .ro)), (3, .v (.int .i64 s1.1)), (9, .v (.sl (Ar.lst Encs.eLGInterval x_slices) .ro)), (10, .v (.int .i64 (Ar.len x_slices))), (11, .v (.int .i64 s1.2))]) (fun s1 H1 => Own Eq H0 [] H1) (fun x e l H1 => e = .exit 0 ∧ l = [(0, .v (.sl (Ar.lst Encs.eLGInterval x_slices) .ro)), (3, .v (.int .i64 x))] ∧ Own Eq H0 [] H1) (by kernel_rfl) ?_ hx ?_ hO ?_
 ·intro s1 H o hO h;clear hx;cbv;refine n_br hE h (fun hc h => ?_) (fun hc h => ?_)
  ·cbv;refine n_idx hE Encs.eLGInterval_eq h fun x3 h => ?_;cbv;refine n_ln hE ?_;cbv;refine n_br hE h (fun hc h => ?_) (fun hc h => ?_)
   ·cbv
    cases h
   ·cbv;have h := ret_some h;subst h;exact ⟨_, rfl, .e rfl (.e rfl (.e rfl (.e rfl (.e rfl (.z))))), rfl, hO⟩
  ·cbv;have h := ret_some h;subst h;exact ⟨_, _, rfl, ⟨rfl, rfl, hO⟩, .e rfl (.e rfl (.z)), rfl⟩
 ·exact .e rfl (.e rfl (.e rfl (.e rfl (.e rfl (.z)))))
 ·clear hx;rintro e l H ⟨rfl, rfl, hO⟩;cbv;refine n_callO hE (f := Encs.eGInterval) h (fun l4 hx => c216 N [] s2 l4 hx) (.cons (.refl _) (.cons (.refl _) .nil)) hO fun l4 q5 H hq5 hO h => ?_;cbv;refine n_ln hE ?_;cbv;obtain ⟨s8, hx, h⟩ := bind_some h;refine n_loopG cf190 hE okP (γ := OG) (fun s6 g => [(6, .v (.own g.id g.lo g.n)), (25, .v (.sl (Ar.lst Encs.eLGInterval x_slices) .ro)), (26, .v (.int .i64 (Ar.len x_slices))), (27, .v (.int .i64 s6.1))]) (fun s6 g H1 => Okn g (Ar.len s6.2) ∧ Own Eq H0 [.blk g.id (.arr 2 (g.pre ++ Ar.lst Encs.eGInterval s6.2 ++ g.rest))] H1) (fun x e l H1 => ∃ u1 : OG, Okn u1 (Ar.len x) ∧ e = .exit 2 ∧ l = [(6, .v (.own u1.id u1.lo u1.n))] ∧ Own Eq H0 [.blk u1.id (.arr 2 (u1.pre ++ Ar.lst Encs.eGInterval x ++ u1.rest))] H1) (by kernel_rfl) ?_ q5 hx ?_ ?_ ?_
  ·rintro s6 q7 H o ⟨hq7, hO⟩ h;clear hx;cbv;refine n_br hE h (fun hc h => ?_) (fun hc h => ?_)
   ·cbv;refine n_idx hE Encs.eLGInterval_eq h fun x9 h => ?_;cbv;refine n_oapp (f := Encs.eGInterval) hE sz_GInterval (by decide) hO hq7 0 rfl (m := x9) (src_sl (f := Encs.eGInterval) hE sz_GInterval (.refl _)) h fun l11 q10 H hq10 hO h => ?_;cbv;have h := ret_some h;subst h;exact ⟨_, q10, rfl, .e rfl (.e rfl (.e rfl (.e rfl (.z)))), rfl, hq10, hO⟩
   ·cbv;have h := ret_some h;subst h;exact ⟨_, _, rfl, ⟨q7, hq7, rfl, rfl, hO⟩, .e rfl (.z), rfl⟩
  ·exact .e rfl (.e rfl (.e rfl (.e rfl (.z))))
  ·exact ⟨hq5, hO⟩
  ·clear hx;rintro e l H ⟨q12, hq12, rfl, rfl, hO⟩;cbv;have h := ret_some h;subst h;exact hF q12 _ _ 0 _ _ hO rfl (okn_lst hE hq12) (.refl _)
def cf191 : Cf := ⟨[], [(2, 12), (3, 12)], [], [], [], []⟩
theorem c191 (N : Nat) (x_l : List GInterval) (x_x : GInterval) (r : (List GInterval)) (h : interval_push N x_l x_x = some r) : CallOO Tryz.prog 191 [.agg [.int .i64 x_x.Low, .int .i64 x_x.High]] 2 (Ar.lst Encs.eGInterval x_l) (Ar.lst Encs.eGInterval r) := by
 unfold interval_push at h
 intro H0 q0 hq0 hk0;refine callO_run (T := TT) (F := upd H0 q0.id none) cf191 okP Tryz.func191 (by rfl) (by kernel_rfl) Tryz.call191 Tryz.ntmps191 (by rfl) (by rfl) ?_;intro E K hE hK hN
 have hO : Own Eq (upd H0 q0.id none) [.blk q0.id (.arr 2 (q0.pre ++ Ar.lst Encs.eGInterval x_l ++ q0.rest))] H0 := Own.startO hk0
 have hq0 : Okn q0 (Ar.len x_l) := okn_len hq0
 cbv;refine n_olen hE hq0 ?_;cbv;refine n_br hE h (fun hc h => ?_) (fun hc h => ?_)
 ·cbv;refine n_oidx hE hO hq0 0 rfl h fun h => ?_;cbv;refine n_oload hE Encs.eGInterval_eq hO hq0 0 rfl h fun x1 h => ?_;cbv;refine n_br hE h (fun hc h => ?_) (fun hc h => ?_)
  ·cbv;refine n_oidx hE hO hq0 0 rfl h fun h => ?_;cbv;refine n_oload hE Encs.eGInterval_eq hO hq0 0 rfl h fun x2 h => ?_;cbv;refine n_oidx hE hO hq0 0 rfl h fun h => ?_;cbv;refine n_ostore hE (f := Encs.eGInterval) (esz := 2) (tz := 1) (off := 1) (u := (fun x3 : GInterval => { x3 with High := Ar.mx x2.High x_x.High })) (fun x3 => ⟨.int .i64 (Ar.mx x2.High x_x.High), .refl _, rfl, rfl, (by rw [Encs.eGInterval_eq, Encs.eGInterval_eq]; rfl)⟩) (by decide) hO hq0 0 rfl h fun l4 H hq0 h hO => ?_;cbv;have h := ret_some h;subst h;exact hK q0 _ _ (okn_lst hE hq0) (hO)
  ·cbv;refine n_oapp (f := Encs.eGInterval) hE sz_GInterval (by decide) hO hq0 0 rfl (m := [x_x]) (src_sl (f := Encs.eGInterval) hE sz_GInterval (.lstc (.eq (Encs.eGInterval_eq x_x) (.refl _)) (.lst0))) h fun l6 q5 H hq5 hO h => ?_;cbv;have h := ret_some h;subst h;exact hK q5 _ _ (okn_lst hE hq5) (hO)
 ·cbv;refine n_oapp (f := Encs.eGInterval) hE sz_GInterval (by decide) hO hq0 0 rfl (m := [x_x]) (src_sl (f := Encs.eGInterval) hE sz_GInterval (.lstc (.eq (Encs.eGInterval_eq x_x) (.refl _)) (.lst0))) h fun l8 q7 H hq7 hO h => ?_;cbv;have h := ret_some h;subst h;exact hK q7 _ _ (okn_lst hE hq7) (hO)
def cf144 : Cf := ⟨[6000007, 6000010], [(13, 13), (14, 12)], [], [], [], []⟩
theorem c144 (N : Nat) (x_a : List GInterval) (x_b : List GInterval) (v_belongs : V) (x_belongs : Bool → Bool → Option Bool) (h_belongs : ∀ y1 y2 q, x_belongs y1 y2 = some q → CallVP Tryz.prog v_belongs [.bool y1, .bool y2] (.bool q)) (r : (List GInterval)) (h : interval_sweep N x_a x_b x_belongs = some r) : CallP Tryz.prog 144 [.sl (Ar.lst Encs.eGInterval x_a) .ro, .sl (Ar.lst Encs.eGInterval x_b) .ro, v_belongs] (.sl (Ar.lst Encs.eGInterval r) .ro) := by
 unfold interval_sweep at h
 refine callP_of_specF (T := TT) cf144 okP Tryz.func144 (by rfl) (by kernel_rfl) Tryz.call144 Tryz.ntmps144 (by rfl) (by rfl) ?_;intro E H0 K hE hK hF
 have hO : Own Eq H0 [] H0 := .start stable_eq rfl
 cbv;refine n_onil hE (f := (V.int .i64)) hO fun q1 H hq1 hO => ?_;cbv;refine n_call hE (g := fun r2 => .sl (Ar.lst Encs.eGInterval r2) .ro) h (fun r2 hx => c190 N ([x_a, x_b]) r2 hx) (.cons (.lit _ (lst_cons ((Encs.eLGInterval_eq x_a).symm) (lst_cons ((Encs.eLGInterval_eq x_b).symm) (lst_nil)))) (.refl _)) fun r2 h => ?_;cbv;refine n_ln hE ?_;cbv;obtain ⟨s5, hx, h⟩ := bind_some h;refine n_loopG cf144 hE okP (γ := OG) (fun s3 g => [(0, .v (.sl (Ar.lst Encs.eGInterval x_a) .ro)), (1, .v (.sl (Ar.lst Encs.eGInterval x_b) .ro)), (2, .v (v_belongs)), (7, .v (.own g.id g.lo g.n)), (15, .v (.sl (Ar.lst Encs.eGInterval r2) .ro)), (16, .v (.int .i64 (Ar.len r2))), (17, .v (.int .i64 s3.1))]) (fun s3 g H1 => Okn g (Ar.len s3.2) ∧ Own Eq H0 [.blk g.id (.arr 1 (g.pre ++ Ar.lst (V.int .i64) s3.2 ++ g.rest))] H1) (fun x e l H1 => ∃ u1 : OG, Okn u1 (Ar.len x) ∧ e = .exit 0 ∧ l = [(0, .v (.sl (Ar.lst Encs.eGInterval x_a) .ro)), (1, .v (.sl (Ar.lst Encs.eGInterval x_b) .ro)), (2, .v (v_belongs)), (7, .v (.own u1.id u1.lo u1.n))] ∧ Own Eq H0 [.blk u1.id (.arr 1 (u1.pre ++ Ar.lst (V.int .i64) x ++ u1.rest))] H1) (by kernel_rfl) ?_ q1 hx ?_ ?_ ?_
 ·rintro s3 q4 H o ⟨hq4, hO⟩ h;clear hx;cbv;refine n_br hE h (fun hc h => ?_) (fun hc h => ?_)
  ·cbv;refine n_idx hE Encs.eGInterval_eq h fun x6 h => ?_;cbv;refine n_oapp (f := (V.int .i64)) hE (fun _ => rfl) (by decide) hO hq4 0 rfl (m := [x6.Low, Ar.ar .add .i64 x6.High 1]) (src_sl (f := (V.int .i64)) hE (fun _ => rfl) (.lstc (.refl _) (.lstc (.refl _) (.lst0)))) h fun l8 q7 H hq7 hO h => ?_;cbv;have h := ret_some h;subst h;exact ⟨_, q7, rfl, .e rfl (.e rfl (.e rfl (.e rfl (.e rfl (.e rfl (.e rfl (.z))))))), rfl, hq7, hO⟩
  ·cbv;have h := ret_some h;subst h;exact ⟨_, _, rfl, ⟨q4, hq4, rfl, rfl, hO⟩, .e rfl (.e rfl (.e rfl (.e rfl (.z)))), rfl⟩
 ·exact .e rfl (.e rfl (.e rfl (.e rfl (.e rfl (.e rfl (.e rfl (.z)))))))
 ·exact ⟨hq1, hO⟩
 ·clear hx;rintro e l H ⟨q9, hq9, rfl, rfl, hO⟩;cbv;refine n_callS hE hO hq9 0 rfl h (fun l10 hx => c104 N s5 l10 hx) fun l10 H hq9 hO h => ?_;cbv;refine n_callOO hE (f := (V.int .i64)) hO hq9 0 rfl h (fun l11 hx => c105 N l10 l11 hx) (.refl _) fun l11 q12 H hq12 hO h => ?_;cbv;refine n_onil hE (f := Encs.eGInterval) hO fun q13 H hq13 hO => ?_;cbv;obtain ⟨s16, hx, h⟩ := bind_some h;refine n_loopG cf144 hE okP (γ := OG) (fun s14 g => [(0, .v (.sl (Ar.lst Encs.eGInterval x_a) .ro)), (1, .v (.sl (Ar.lst Encs.eGInterval x_b) .ro)), (2, .v (v_belongs)), (7, .v (.own q12.id q12.lo q12.n)), (10, .v (.own g.id g.lo g.n)), (11, .v (.int .i64 s14.1))]) (fun s14 g H1 => Okn g (Ar.len s14.2) ∧ Own Eq H0 [.blk g.id (.arr 2 (g.pre ++ Ar.lst Encs.eGInterval s14.2 ++ g.rest)), .blk q12.id (.arr 1 (q12.pre ++ Ar.lst (V.int .i64) l11 ++ q12.rest))] H1) (fun x e l H1 => ∃ u1 : OG, Okn u1 (Ar.len x) ∧ e = .exit 2 ∧ l = [(10, .v (.own u1.id u1.lo u1.n))] ∧ Own Eq H0 [.blk u1.id (.arr 2 (u1.pre ++ Ar.lst Encs.eGInterval x ++ u1.rest)), .blk q12.id (.arr 1 (q12.pre ++ Ar.lst (V.int .i64) l11 ++ q12.rest))] H1) (by kernel_rfl) ?_ q13 hx ?_ ?_ ?_
  ·rintro s14 q15 H o ⟨hq15, hO⟩ h;clear hx;cbv;refine n_olen hE hq12 ?_;cbv;refine n_br hE h (fun hc h => ?_) (fun hc h => ?_)
   ·cbv;refine n_oidx hE hO hq12 1 rfl h fun h => ?_;cbv;refine n_oload hE (fun _ => rfl) hO hq12 1 rfl h fun x17 h => ?_;cbv;refine n_pcall hE (g := fun r18 => .bool r18) h (fun r18 hx => c113 N x_a x17 r18 hx) (.refl _) fun r18 h => ?_;cbv;refine n_oidx hE hO hq12 1 rfl h fun h => ?_;cbv;refine n_oload hE (fun _ => rfl) hO hq12 1 rfl h fun x19 h => ?_;cbv;refine n_pcall hE (g := fun r20 => .bool r20) h (fun r20 hx => c113 N x_b x19 r20 hx) (.refl _) fun r20 h => ?_;cbv;refine n_callF hE (g := fun r21 => .bool r21) h (fun r21 hx => h_belongs r18 r20 r21 hx) (.refl _) fun r21 h => ?_;cbv;refine n_br hE h (fun hc h => ?_) (fun hc h => ?_)
    ·cbv;refine n_oidx hE hO hq12 1 rfl h fun h => ?_;cbv;refine n_oload hE (fun _ => rfl) hO hq12 1 rfl h fun x22 h => ?_;cbv;refine n_oidx hE hO hq12 1 rfl h fun h => ?_;cbv;refine n_oload hE (fun _ => rfl) hO hq12 1 rfl h fun x23 h => ?_;cbv;refine n_callOO hE (f := Encs.eGInterval) hO hq15 0 rfl h (fun l24 hx => c191 N s14.2 (⟨x22, Ar.ar .sub .i64 x23 1⟩ : GInterval) l24 hx) (.refl _) fun l24 q25 H hq25 hO h => ?_;cbv;have h := ret_some h;subst h;exact ⟨_, q25, rfl, .e rfl (.e rfl (.e rfl (.e rfl (.e rfl (.e rfl (.z)))))), rfl, hq25, hO⟩
    ·cbv;have h := ret_some h;subst h;exact ⟨_, q15, rfl, .e rfl (.e rfl (.e rfl (.e rfl (.e rfl (.e rfl (.z)))))), rfl, hq15, hO⟩
   ·cbv;have h := ret_some h;subst h;exact ⟨_, _, rfl, ⟨q15, hq15, rfl, rfl, hO⟩, .e rfl (.z), rfl⟩
  ·exact .e rfl (.e rfl (.e rfl (.e rfl (.e rfl (.e rfl (.z))))))
  ·exact ⟨hq13, hO⟩
  ·clear hx;rintro e l H ⟨q26, hq26, rfl, rfl, hO⟩;cbv;have h := ret_some h;subst h;exact hF q26 _ _ 0 _ _ hO rfl (okn_lst hE hq26) (.refl _)
def cf108 : Cf := ⟨[], [], [], [], [], []⟩
theorem c108 (N : Nat) (x_a : List GInterval) (x_b : List GInterval) (v_belongs : V) (x_belongs : Bool → Bool → Option Bool) (h_belongs : ∀ y1 y2 q, x_belongs y1 y2 = some q → CallVP Tryz.prog v_belongs [.bool y1, .bool y2] (.bool q)) (r : ((List GInterval) × Int)) (h : interval_combine N x_a x_b x_belongs = some r) : CallP Tryz.prog 108 [.sl (Ar.lst Encs.eGInterval x_a) .ro, .sl (Ar.lst Encs.eGInterval x_b) .ro, v_belongs] (.tup [.sl (Ar.lst Encs.eGInterval r.1) .ro, .int .i64 r.2]) := by
 unfold interval_combine at h
 refine callP_of_spec cf108 okP Tryz.func108 (by rfl) (by kernel_rfl) Tryz.call108 Tryz.ntmps108 (by rfl) (by rfl) ?_;intro E H0 K hE hK
 have hO : Own Eq H0 [] H0 := .start stable_eq rfl
 cbv;refine n_call hE (g := fun r1 => .int .i64 r1) h (fun r1 hx => c143 N x_a x_b r1 hx) (.refl _) fun r1 h => ?_;cbv;refine n_br hE h (fun hc h => ?_) (fun hc h => ?_)
 ·cbv;have h := ret_some h;subst h;exact hK _ _ _ hO (.tup (.cons (.lit _ (lst_nil)) (.refl _)))
 ·cbv;refine n_call hE (g := fun r2 => .sl (Ar.lst Encs.eGInterval r2) .ro) h (fun r2 hx => c144 N x_a x_b v_belongs x_belongs h_belongs r2 hx) (.refl _) fun r2 h => ?_;cbv;refine n_call hE (g := fun r3 => .tup [.sl (Ar.lst Encs.eGInterval r3.1) .ro, .int .i64 r3.2]) h (fun r3 hx => c112 N r2 r3 hx) (.refl _) fun r3 h => ?_;cbv;have h := ret_some h;subst h;exact hK _ _ _ hO (.refl _)
def cf109 : Cf := ⟨[], [], [], [], [], []⟩
theorem c109 (N : Nat) (x_x : Bool) (x_y : Bool) (r : Bool) (h : interval_Intersect_1 N x_x x_y = some r) : CallP Tryz.prog 109 [.bool x_x, .bool x_y] (.bool r) := by
 unfold interval_Intersect_1 at h
 refine callP_of_spec cf109 okP Tryz.func109 (by rfl) (by kernel_rfl) Tryz.call109 Tryz.ntmps109 (by rfl) (by rfl) ?_;intro E H0 K hE hK
 have hO : Own Eq H0 [] H0 := .start stable_eq rfl
 cbv;have h := ret_some h;subst h;exact hK _ _ _ hO (.refl _)
def cf63 : Cf := ⟨[], [], [], [], [], []⟩
theorem c63 (N : Nat) (x_a : List GInterval) (x_b : List GInterval) (r : ((List GInterval) × Int)) (h : interval_Intersect N x_a x_b = some r) : CallP Tryz.prog 63 [.sl (Ar.lst Encs.eGInterval x_a) .ro, .sl (Ar.lst Encs.eGInterval x_b) .ro] (.tup [.sl (Ar.lst Encs.eGInterval r.1) .ro, .int .i64 r.2]) := by
 unfold interval_Intersect at h
 refine callP_of_spec cf63 okP Tryz.func63 (by rfl) (by kernel_rfl) Tryz.call63 Tryz.ntmps63 (by rfl) (by rfl) ?_;intro E H0 K hE hK
 have hO : Own Eq H0 [] H0 := .start stable_eq rfl
 cbv;refine n_call hE (g := fun r1 => .tup [.sl (Ar.lst Encs.eGInterval r1.1) .ro, .int .i64 r1.2]) h (fun r1 hx => c108 N x_a x_b (.func (.func 109) [] []) (fun y1 y2 => interval_Intersect_1 N y1 y2) (fun y1 y2 r hx => CallP.value (F := []) (C := []) (c109 N y1 y2 r hx)) r1 hx) (.refl _) fun r1 h => ?_;cbv;have h := ret_some h;subst h;exact hK _ _ _ hO (.refl _)
def cf110 : Cf := ⟨[], [], [], [], [], []⟩
theorem c110 (N : Nat) (x_x : Bool) (x_y : Bool) (r : Bool) (h : interval_Union_1 N x_x x_y = some r) : CallP Tryz.prog 110 [.bool x_x, .bool x_y] (.bool r) := by
 unfold interval_Union_1 at h
 refine callP_of_spec cf110 okP Tryz.func110 (by rfl) (by kernel_rfl) Tryz.call110 Tryz.ntmps110 (by rfl) (by rfl) ?_;intro E H0 K hE hK
 have hO : Own Eq H0 [] H0 := .start stable_eq rfl
 cbv;have h := ret_some h;subst h;exact hK _ _ _ hO (.refl _)
def cf66 : Cf := ⟨[], [], [], [], [], []⟩
theorem c66 (N : Nat) (x_a : List GInterval) (x_b : List GInterval) (r : ((List GInterval) × Int)) (h : interval_Union N x_a x_b = some r) : CallP Tryz.prog 66 [.sl (Ar.lst Encs.eGInterval x_a) .ro, .sl (Ar.lst Encs.eGInterval x_b) .ro] (.tup [.sl (Ar.lst Encs.eGInterval r.1) .ro, .int .i64 r.2]) := by
 unfold interval_Union at h
 refine callP_of_spec cf66 okP Tryz.func66 (by rfl) (by kernel_rfl) Tryz.call66 Tryz.ntmps66 (by rfl) (by rfl) ?_;intro E H0 K hE hK
 have hO : Own Eq H0 [] H0 := .start stable_eq rfl
 cbv;refine n_call hE (g := fun r1 => .tup [.sl (Ar.lst Encs.eGInterval r1.1) .ro, .int .i64 r1.2]) h (fun r1 hx => c108 N x_a x_b (.func (.func 110) [] []) (fun y1 y2 => interval_Union_1 N y1 y2) (fun y1 y2 r hx => CallP.value (F := []) (C := []) (c110 N y1 y2 r hx)) r1 hx) (.refl _) fun r1 h => ?_;cbv;have h := ret_some h;subst h;exact hK _ _ _ hO (.refl _)
def cf145 : Cf := ⟨[], [], [], [], [], []⟩
theorem c145 (N : Nat) (x_1 : List GInterval) (r : (List GInterval)) (h : interval_gaps_1 N x_1 = some r) : EmitP Tryz.prog 145 (fun yv => [yv, .eref [.sl (Ar.lst Encs.eGInterval x_1) .ro] 0]) (List.map (fun (x : GInterval) => [.agg [.int .i64 x.Low, .int .i64 x.High]]) r) rbN := by
 unfold interval_gaps_1 at h
 obtain ⟨⟨w0, u0⟩, h1, hr⟩ := bind_some h;clear h
 have hr := ret_some hr
 subst hr;have h := h1;clear h1;refine emitP_of_spec cf145 okP Tryz.func145 (by rfl) (by kernel_rfl) Tryz.call145 Tryz.ntmps145 (by rfl) (fun _ => rfl) ?_;intro yv I D hI hD hy tl F E H K hE hO hK hKD
 have hO : Own (I (List.map (fun (x : GInterval) => [.agg [.int .i64 x.Low, .int .i64 x.High]]) (w0 ++ []) ++ tl)) F [] H := by rw [List.append_nil]; exact hO
 cbv;refine n_ln hE ?_;cbv;obtain ⟨w2, w3, s6, hx, h1, he⟩ := thenE_some h;clear h;have h := h1;clear h1
 rw [he, List.append_assoc] at hO
 clear he;refine n_loopE cf145 hE okP (γ := Unit) (fun s1 g => [(0, .v (yv)), (3, .v (.int .i64 s1.1)), (6, .v (.sl (Ar.lst Encs.eGInterval x_1) .ro)), (7, .v (.int .i64 (Ar.len x_1))), (8, .v (.int .i64 s1.2))]) (fun s1 g w H1 => Own (I (List.map (fun (x : GInterval) => [.agg [.int .i64 x.Low, .int .i64 x.High]]) w ++ tl)) F [] H1) (fun x e l w H1 => e = .exit 0 ∧ l = [(0, .v (yv)), (3, .v (.int .i64 x))] ∧ Own (I (List.map (fun (x : GInterval) => [.agg [.int .i64 x.Low, .int .i64 x.High]]) w ++ tl)) F [] H1) (fun e l H1 => (e = .ret ∧ l = [] ∧ Own D F [] H1)) (by kernel_rfl) ?_ (w' := w3 ++ []) () hx ?_ ?_ ?_ ?_
 ·rintro s1 _ w4 w5 H o hO h;clear hx
  skip
  cbv;refine n_br hE h (fun hc h => ?_) (fun hc h => ?_)
  ·cbv;refine n_idx hE Encs.eGInterval_eq h fun x7 h => ?_;cbv;refine n_br hE h (fun hc h => ?_) (fun hc h => ?_)
   ·cbv;obtain ⟨w8, h1, he⟩ := thenE_ret h;clear h;have h := h1;clear h1
    rw [he, List.append_assoc] at hO
    clear he
    have hO : Own (I ([.agg [.int .i64 s1.1, .int .i64 (Ar.ar .sub .i64 x7.Low 1)]] :: (List.map (fun (x : GInterval) => [.agg [.int .i64 x.Low, .int .i64 x.High]]) (w8 ++ w5) ++ tl))) F [] _ := hO
    refine n_yield hE hI hD hy hO (.refl _) (fun H hO => ?_) (fun H hO => ?_)
    ·cbv;refine n_brF hE (Ar.nt_eq _) ?_;cbv;obtain ⟨hw, rfl⟩ := pair_some h
     rw [← hw] at hO
     exact ⟨_, (), rfl, .e rfl (.e rfl (.e rfl (.e rfl (.e rfl (.z))))), rfl, hO⟩
    ·clear h;cbv;refine n_brT hE (Ar.nt_eq _) ?_;cbv;exact .inr ⟨_, ⟨rfl, rfl, hO⟩, .z, rfl⟩
   ·cbv;obtain ⟨hw, rfl⟩ := pair_some h
    rw [← hw] at hO
    exact ⟨_, (), rfl, .e rfl (.e rfl (.e rfl (.e rfl (.e rfl (.z))))), rfl, hO⟩
  ·cbv;obtain ⟨hw, rfl⟩ := pair_some h
   rw [← hw] at hO
   exact .inl ⟨_, _, rfl, ⟨rfl, rfl, hO⟩, .e rfl (.e rfl (.z)), rfl⟩
 ·exact .e rfl (.e rfl (.e rfl (.e rfl (.e rfl (.z)))))
 ·exact hO
 ·rintro e l H ⟨rfl, rfl, hO⟩;clear hx;cbv;refine n_br hE h (fun hc h => ?_) (fun hc h => ?_)
  ·cbv;obtain ⟨w9, h1, he⟩ := thenE_ret h;clear h;have h := h1;clear h1
   rw [he, List.append_assoc] at hO
   clear he
   have hO : Own (I ([.agg [.int .i64 s6, .int .i64 1099511627776]] :: (List.map (fun (x : GInterval) => [.agg [.int .i64 x.Low, .int .i64 x.High]]) (w9 ++ []) ++ tl))) F [] _ := hO
   refine n_yield hE hI hD hy hO (.refl _) (fun H hO => ?_) (fun H hO => ?_)
   ·cbv;obtain ⟨hw, _⟩ := pair_some h
    rw [← hw] at hO
    exact hK _ _ _ hO trivial
   ·clear h;cbv;exact hKD _ _ _ hO trivial
  ·cbv;obtain ⟨hw, _⟩ := pair_some h
   rw [← hw] at hO
   exact hK _ _ _ hO trivial
 ·rintro e l H hX;obtain ⟨rfl, rfl, hO⟩ := hX;clear h;cbv;exact hKD _ _ _ hO trivial
def cf111 : Cf := ⟨[], [], [], [], [], []⟩
theorem c111 (N : Nat) (x_l : List GInterval) (r : (List GInterval)) (h : interval_gaps N x_l = some r) : CallQ Tryz.prog 111 [.sl (Ar.lst Encs.eGInterval x_l) .ro] (fun v => IterV Tryz.prog v (r.map fun (x : GInterval) => [.agg [.int .i64 x.Low, .int .i64 x.High]])) := by
 unfold interval_gaps at h
 refine callQ_of_spec cf111 okP Tryz.func111 (by rfl) (by kernel_rfl) Tryz.call111 Tryz.ntmps111 (by rfl) (by rfl) ?_;intro E H0 K hE hK
 have hO : Own Eq H0 [] H0 := .start stable_eq rfl
 cbv;exact hK _ _ _ hO (iterV_of_emit Tryz.call145 (c145 N x_l r h))
def cf71 : Cf := ⟨[5], [], [], [], [], []⟩
theorem c71 (N : Nat) (x_l : List GInterval) (r : ((List GInterval) × Int)) (h : interval_Complement N x_l = some r) : CallP Tryz.prog 71 [.sl (Ar.lst Encs.eGInterval x_l) .ro] (.tup [.sl (Ar.lst Encs.eGInterval r.1) .ro, .int .i64 r.2]) := by
 unfold interval_Complement at h
 refine callP_of_spec cf71 okP Tryz.func71 (by rfl) (by kernel_rfl) Tryz.call71 Tryz.ntmps71 (by rfl) (by rfl) ?_;intro E H0 K hE hK
 have hO : Own Eq H0 [] H0 := .start stable_eq rfl
 cbv;refine n_call hE (g := fun r1 => .int .i64 r1) h (fun r1 hx => c82 N x_l r1 hx) (.refl _) fun r1 h => ?_;cbv;refine n_br hE h (fun hc h => ?_) (fun hc h => ?_)
 ·cbv;have h := ret_some h;subst h;exact hK _ _ _ hO (.tup (.cons (.lit _ (lst_nil)) (.refl _)))
 ·cbv;refine n_alloc hE hO fun b2 H hO => ?_;cbv;refine n_callQ hE h (fun r3 hx => c111 N x_l r3 hx) (.refl _) fun r3 v4 hv4 h => ?_;cbv;replace hO := hO.tl0 (t := .nil) rfl;obtain ⟨o10, hx, h⟩ := bind_some h;replace hO := hO.cast (L' := [.tl .nil, .blk b2 (.cells [.sl (Ar.lst Encs.eGInterval ([])) .nil])]) (by first | (simp only [← lst_nil]; done) | (simp only [← lst_nil]; rfl));refine n_range cf71 hE okP (ι := Unit) (enc := fun (x : GInterval) => [.agg [.int .i64 x.Low, .int .i64 x.High]]) (fun (s6 : (List GInterval)) F H => ∃ g : Tail, (Appn g) ∧ Own Eq F [.tl g, .blk b2 (.cells [.sl (Ar.lst Encs.eGInterval s6) g])] H) (fun (r : Unit) e F H => False) (fun i s6 y5 => [(5, .v (.ref b2 0)), (6, .v (.eref [.int .i64 y5.Low, .int .i64 y5.High] 0))]) (fun i s6 y5 F H => ∃ g : Tail, (Appn g) ∧ Own Eq F [.tl g, .blk b2 (.cells [.sl (Ar.lst Encs.eGInterval s6) g])] H) (fun _ => Stable.ex fun _ => Own.stable stable_eq _) (fun _ _ => ⟨fun h => h.elim, fun _ _ h => h.elim⟩) (fun _ _ _ => Stable.ex fun _ => Own.stable stable_eq _) hv4 hx (⟨.nil, trivial, hO⟩) (by decide) (fun _ => rfl) (by kernel_rfl) (by kernel_rfl) ?_ ?_ ?_ ?_
  ·rintro E i8 y5 s6 F7 H hE ⟨t9, ht9, hO⟩;clear hx h;cbv;exact ⟨(), ⟨t9, ht9, hO⟩, .e rfl (.e rfl (.z)), rfl⟩
  ·rintro E i8 _ y5 s6 F7 H o hE hF h ⟨t9, ht9, hO⟩;clear hx;cbv;refine n_load hE hO 1 rfl ?_;cbv;refine n_appn (f := Encs.eGInterval) hE sz_GInterval (by decide) hO 0 rfl ht9 (l := s6) (m := [y5]) (.refl _) (.lstc (.eq (Encs.eGInterval_eq y5) (.refl _)) (.lst0)) h fun l12 t11 H hO ht11 h => ?_;cbv;refine n_store hE hO 1 rfl rfl fun H hO => ?_;cbv;have h := ret_some h;subst h;exact ⟨_, rfl, ⟨t11, ht11, hO⟩⟩
  ·rintro d13 s16 H rfl hd ⟨t17, ht17, hO⟩
   have hO : Own Eq H0 [.tl t17, .blk b2 (.cells [.sl (Ar.lst Encs.eGInterval s16) t17]), .blk d13 DB] H := Own.dblk hd hO
   clear hd;clear hx;cbv;refine n_load hE hO 1 rfl ?_;cbv;refine n_call hE (g := fun r18 => .tup [.sl (Ar.lst Encs.eGInterval r18.1) .ro, .int .i64 r18.2]) h (fun r18 hx => c112 N s16 r18 hx) (.cons (.ro _ _) (.refl _)) fun r18 h => ?_;cbv;refine n_fin hE hO 2 rfl fun H hO => ?_;cbv;have h := ret_some h;subst h;exact hK _ _ _ hO (.refl _)
  ·rintro d r e H rfl hd hO;exact hO.elim
end Go.Ab

