/- GQCo1 -/
import Derived.Test.YtodfgmbacmnalaaGreatT29
import Derived.Test.YtodfgmbacmnalaaGreatT30
import Derived.Test.YtodfgmbacmnalaaGreatT26
import Derived.Test.YtodfgmbacmnalaaGreatT31
import Derived.Test.YtodfgmbacmnalaaGreatT27
import Derived.Test.YtodfgmbacmnalaaGreatT28
set_option linter.all false

namespace Go.Ab
open Go.RowKit Go.Proofs
instance globs : Glob := ⟨fun n => match n with
 | _ => .bad⟩
variable [Ar] [Encs]
set_option maxRecDepth 100000
theorem okP : POk Tryz.prog TT := ⟨okT, by rfl⟩
def cf15 : Cf := ⟨[], [], [], [], [], []⟩
theorem c15 (N : Nat) : ∀ (n : Nat) (x_e : GExpr) (x_limit : Int) (r : Int), ref08_Count N n x_e x_limit = some r → CallP Tryz.prog 15 [.agg [.int .i64 x_e.Op, .sl (Ar.lst Encs.eGExpr x_e.Args) .ro, .int .i64 x_e.Var, .int .i64 x_e.Field, .int .i64 x_e.Kind, .int .i64 x_e.Value.Kind, .int .i64 x_e.Value.Num, .str x_e.Value.Text], .int .i64 x_limit] (.int .i64 r) := by
 intro n
 induction n with
 | zero => intro x_e x_limit r h; cases h
 | succ n ih =>
 intro x_e x_limit r h
 unfold ref08_Count at h
 refine callP_of_spec cf15 okP Tryz.func15 (by rfl) (by kernel_rfl) Tryz.call15 Tryz.ntmps15 (by rfl) (by rfl) ?_;intro E H0 K hE hK
 have hO : Own Eq H0 [] H0 := .start stable_eq rfl
 cbv;obtain ⟨s2, hx, h⟩ := bind_some h;refine n_loopN cf15 hE okP (fun s1 => [(1, .v (.int .i64 x_limit)), (2, .v (.eref [.int .i64 x_e.Op, .sl (Ar.lst Encs.eGExpr x_e.Args) .ro, .int .i64 x_e.Var, .int .i64 x_e.Field, .int .i64 x_e.Kind, .int .i64 x_e.Value.Kind, .int .i64 x_e.Value.Num, .str x_e.Value.Text] 0)), (5, .v (.int .i64 s1.1)), (6, .v (.int .i64 s1.2))]) (fun s1 H1 => Own Eq H0 [] H1) (fun x e l H1 => e = .exit 0 ∧ l = [(5, .v (.int .i64 x))] ∧ Own Eq H0 [] H1) (by kernel_rfl) ?_ hx ?_ hO ?_
 ·intro s1 H o hO h;clear hx;cbv;refine n_ln hE ?_;cbv;refine n_br hE h (fun hc h => ?_) (fun hc h => ?_)
  ·cbv;refine n_idx hE Encs.eGExpr_eq h fun x3 h => ?_;cbv;refine n_call hE (g := fun r4 => .int .i64 r4) h (fun r4 hx => ih x3 x_limit r4 hx) (.refl _) fun r4 h => ?_;cbv;have h := ret_some h;subst h;exact ⟨_, rfl, .e rfl (.e rfl (.e rfl (.e rfl (.z)))), rfl, hO⟩
  ·cbv;have h := ret_some h;subst h;exact ⟨_, _, rfl, ⟨rfl, rfl, hO⟩, .e rfl (.z), rfl⟩
 ·exact .e rfl (.e rfl (.e rfl (.e rfl (.z))))
 ·clear hx;rintro e l H ⟨rfl, rfl, hO⟩;cbv;have h := ret_some h;subst h;exact hK _ _ _ hO (.refl _)
def cf16 : Cf := ⟨[], [], [], [], [], []⟩
theorem c16 (N : Nat) : ∀ (n : Nat) (x_e : GExpr) (r : Int), ref08_Depth N n x_e = some r → CallP Tryz.prog 16 [.agg [.int .i64 x_e.Op, .sl (Ar.lst Encs.eGExpr x_e.Args) .ro, .int .i64 x_e.Var, .int .i64 x_e.Field, .int .i64 x_e.Kind, .int .i64 x_e.Value.Kind, .int .i64 x_e.Value.Num, .str x_e.Value.Text]] (.int .i64 r) := by
 intro n
 induction n with
 | zero => intro x_e r h; cases h
 | succ n ih =>
 intro x_e r h
 unfold ref08_Depth at h
 refine callP_of_spec cf16 okP Tryz.func16 (by rfl) (by kernel_rfl) Tryz.call16 Tryz.ntmps16 (by rfl) (by rfl) ?_;intro E H0 K hE hK
 have hO : Own Eq H0 [] H0 := .start stable_eq rfl
 cbv;obtain ⟨s2, hx, h⟩ := bind_some h;refine n_loopN cf16 hE okP (fun s1 => [(1, .v (.eref [.int .i64 x_e.Op, .sl (Ar.lst Encs.eGExpr x_e.Args) .ro, .int .i64 x_e.Var, .int .i64 x_e.Field, .int .i64 x_e.Kind, .int .i64 x_e.Value.Kind, .int .i64 x_e.Value.Num, .str x_e.Value.Text] 0)), (3, .v (.int .i64 s1.1)), (4, .v (.int .i64 s1.2))]) (fun s1 H1 => Own Eq H0 [] H1) (fun x e l H1 => e = .exit 0 ∧ l = [(3, .v (.int .i64 x))] ∧ Own Eq H0 [] H1) (by kernel_rfl) ?_ hx ?_ hO ?_
 ·intro s1 H o hO h;clear hx;cbv;refine n_ln hE ?_;cbv;refine n_br hE h (fun hc h => ?_) (fun hc h => ?_)
  ·cbv;refine n_idx hE Encs.eGExpr_eq h fun x3 h => ?_;cbv;refine n_call hE (g := fun r4 => .int .i64 r4) h (fun r4 hx => ih x3 r4 hx) (.refl _) fun r4 h => ?_;cbv;have h := ret_some h;subst h;exact ⟨_, rfl, .e rfl (.e rfl (.e rfl (.z))), rfl, hO⟩
  ·cbv;have h := ret_some h;subst h;exact ⟨_, _, rfl, ⟨rfl, rfl, hO⟩, .e rfl (.z), rfl⟩
 ·exact .e rfl (.e rfl (.e rfl (.z)))
 ·clear hx;rintro e l H ⟨rfl, rfl, hO⟩;cbv;have h := ret_some h;subst h;exact hK _ _ _ hO (.refl _)
def cf5 : Cf := ⟨[], [], [], [], [], []⟩
theorem c5 (N : Nat) (x_e : GExpr) (r : Bool) (h : ref08_Few N x_e = some r) : CallP Tryz.prog 5 [.agg [.int .i64 x_e.Op, .sl (Ar.lst Encs.eGExpr x_e.Args) .ro, .int .i64 x_e.Var, .int .i64 x_e.Field, .int .i64 x_e.Kind, .int .i64 x_e.Value.Kind, .int .i64 x_e.Value.Num, .str x_e.Value.Text]] (.bool r) := by
 unfold ref08_Few at h
 refine callP_of_spec cf5 okP Tryz.func5 (by rfl) (by kernel_rfl) Tryz.call5 Tryz.ntmps5 (by rfl) (by rfl) ?_;intro E H0 K hE hK
 have hO : Own Eq H0 [] H0 := .start stable_eq rfl
 cbv;refine n_call hE (g := fun r1 => .int .i64 r1) h (fun r1 hx => c15 N N x_e 200 r1 hx) (.refl _) fun r1 h => ?_;cbv;refine n_br hE h (fun hc h => ?_) (fun hc h => ?_)
 ·cbv;refine n_call hE (g := fun r2 => .int .i64 r2) h (fun r2 hx => c16 N N x_e r2 hx) (.refl _) fun r2 h => ?_;cbv;have h := ret_some h;subst h;exact hK _ _ _ hO (.refl _)
 ·cbv;have h := ret_some h;subst h;exact hK _ _ _ hO (.refl _)
def cf121 : Cf := ⟨[], [], [], [], [], []⟩
theorem c121 (N : Nat) (x_c : Int) (r : Bool) (h : schema_digit N x_c = some r) : CallP Tryz.prog 121 [.int .u8 x_c] (.bool r) := by
 unfold schema_digit at h
 refine callP_of_spec cf121 okP Tryz.func121 (by rfl) (by kernel_rfl) Tryz.call121 Tryz.ntmps121 (by rfl) (by rfl) ?_;intro E H0 K hE hK
 have hO : Own Eq H0 [] H0 := .start stable_eq rfl
 cbv;have h := ret_some h;subst h;exact hK _ _ _ hO (.refl _)
def cf122 : Cf := ⟨[], [], [], [], [], []⟩
theorem c122 (N : Nat) (x_c : Int) (r : Bool) (h : schema_letter N x_c = some r) : CallP Tryz.prog 122 [.int .u8 x_c] (.bool r) := by
 unfold schema_letter at h
 refine callP_of_spec cf122 okP Tryz.func122 (by rfl) (by kernel_rfl) Tryz.call122 Tryz.ntmps122 (by rfl) (by rfl) ?_;intro E H0 K hE hK
 have hO : Own Eq H0 [] H0 := .start stable_eq rfl
 cbv;have h := ret_some h;subst h;exact hK _ _ _ hO (.refl _)
def cf79 : Cf := ⟨[], [], [], [], [], []⟩
theorem c79 (N : Nat) (x_s : ByteArray) (r : Bool) (h : schema_name N x_s = some r) : CallP Tryz.prog 79 [.str x_s] (.bool r) := by
 unfold schema_name at h
 refine callP_of_spec cf79 okP Tryz.func79 (by rfl) (by kernel_rfl) Tryz.call79 Tryz.ntmps79 (by rfl) (by rfl) ?_;intro E H0 K hE hK
 have hO : Own Eq H0 [] H0 := .start stable_eq rfl
 cbv;refine n_br hE h (fun hc h => ?_) (fun hc h => ?_)
 ·cbv;have h := ret_some h;subst h;exact hK _ _ _ hO (.refl _)
 ·cbv;refine n_needB hE h fun h => ?_;cbv;refine n_call hE (g := fun r1 => .bool r1) h (fun r1 hx => c121 N (Ar.sat x_s 0) r1 hx) (.refl _) fun r1 h => ?_;cbv;refine n_br hE h (fun hc h => ?_) (fun hc h => ?_)
  ·cbv;have h := ret_some h;subst h;exact hK _ _ _ hO (.refl _)
  ·cbv;obtain ⟨s3, hx, h⟩ := bind_some h;refine n_loopN cf79 hE okP (fun s2 => [(0, .v (.str x_s)), (18, .v (.int .i64 (Ar.slen x_s))), (19, .v (.int .i64 s2))]) (fun s2 H1 => Own Eq H0 [] H1) (fun x e l H1 => match (generalizing := false) x with | .inl y => e = .exit 0 ∧ l = [] ∧ Own Eq H0 [] H1 | .inr y => e = .ret ∧ l = [(2, .b false)] ∧ Own Eq H0 [] H1) (by kernel_rfl) ?_ hx ?_ hO ?_
   ·intro s2 H o hO h;clear hx;cbv;refine n_br hE h (fun hc h => ?_) (fun hc h => ?_)
    ·cbv;refine n_needB hE h fun h => ?_;cbv;refine n_call hE (g := fun r4 => .bool r4) h (fun r4 hx => c122 N (Ar.sat x_s s2) r4 hx) (.refl _) fun r4 h => ?_;cbv;refine n_br hE h (fun hc h => ?_) (fun hc h => ?_)
     ·cbv;refine n_needB hE h fun h => ?_;cbv;refine n_call hE (g := fun r5 => .bool r5) h (fun r5 hx => c121 N (Ar.sat x_s s2) r5 hx) (.refl _) fun r5 h => ?_;cbv;refine n_br hE h (fun hc h => ?_) (fun hc h => ?_)
      ·cbv;have h := ret_some h;subst h;exact ⟨_, _, rfl, ⟨rfl, rfl, hO⟩, .b rfl (.z), rfl⟩
      ·cbv;have h := ret_some h;subst h;exact ⟨_, rfl, .e rfl (.e rfl (.e rfl (.z))), rfl, hO⟩
     ·cbv;have h := ret_some h;subst h;exact ⟨_, rfl, .e rfl (.e rfl (.e rfl (.z))), rfl, hO⟩
    ·cbv;have h := ret_some h;subst h;exact ⟨_, _, rfl, ⟨rfl, rfl, hO⟩, .z, rfl⟩
   ·exact .e rfl (.e rfl (.e rfl (.z)))
   ·clear hx
    rcases s3 with y6 | y7
    ·rintro e l H ⟨rfl, rfl, hO⟩;cbv;have h := ret_some h;subst h;exact hK _ _ _ hO (.refl _)
    ·rintro e l H ⟨rfl, rfl, hO⟩;cbv;have h := ret_some h;subst h;exact hK _ _ _ hO (.refl _)
def cf80 : Cf := ⟨[], [], [], [], [], []⟩
theorem c80 (N : Nat) (x_s : ByteArray) (r : Bool) (h : schema_fieldName N x_s = some r) : CallP Tryz.prog 80 [.str x_s] (.bool r) := by
 unfold schema_fieldName at h
 refine callP_of_spec cf80 okP Tryz.func80 (by rfl) (by kernel_rfl) Tryz.call80 Tryz.ntmps80 (by rfl) (by rfl) ?_;intro E H0 K hE hK
 have hO : Own Eq H0 [] H0 := .start stable_eq rfl
 cbv;refine n_call hE (g := fun r1 => .bool r1) h (fun r1 hx => c79 N x_s r1 hx) (.refl _) fun r1 h => ?_;cbv;have h := ret_some h;subst h;exact hK _ _ _ hO (.refl _)
def cf47 : Cf := ⟨[], [], [], [], [], []⟩
theorem c47 (N : Nat) (x_s : GSchema) (r : Int) (h : schema_Check N x_s = some r) : CallP Tryz.prog 47 [.agg [.str x_s.Name, .sl (Ar.lst Encs.eGField x_s.Fields) .ro]] (.int .i64 r) := by
 unfold schema_Check at h
 refine callP_of_spec cf47 okP Tryz.func47 (by rfl) (by kernel_rfl) Tryz.call47 Tryz.ntmps47 (by rfl) (by rfl) ?_;intro E H0 K hE hK
 have hO : Own Eq H0 [] H0 := .start stable_eq rfl
 cbv;refine n_call hE (g := fun r1 => .bool r1) h (fun r1 hx => c79 N x_s.Name r1 hx) (.refl _) fun r1 h => ?_;cbv;refine n_br hE h (fun hc h => ?_) (fun hc h => ?_)
 ·cbv;have h := ret_some h;subst h;exact hK _ _ _ hO (.refl _)
 ·cbv;refine n_ln hE ?_;cbv;refine n_br hE h (fun hc h => ?_) (fun hc h => ?_)
  ·cbv;have h := ret_some h;subst h;exact hK _ _ _ hO (.refl _)
  ·cbv;refine n_mmk hE .string V.str V.bool hO fun m2 o3 H ho3 hO => ?_;cbv;refine n_ln hE ?_;cbv;obtain ⟨s6, hx, h⟩ := bind_some h;refine n_loopG cf47 hE okP (γ := Obj) (fun s4 g => [(3, .v (.map m2)), (16, .v (.sl (Ar.lst Encs.eGField x_s.Fields) .ro)), (17, .v (.int .i64 (Ar.len x_s.Fields))), (18, .v (.int .i64 s4.1))]) (fun s4 g H1 => Mok .string V.str V.bool g s4.2 ∧ Own Eq H0 [.blk m2 (.obj g)] H1) (fun x e l H1 => match (generalizing := false) x with | .inl y => ∃ u1 : Obj, Mok .string V.str V.bool u1 y ∧ e = .exit 0 ∧ l = [] ∧ Own Eq H0 [.blk m2 (.obj u1)] H1 | .inr y => ∃ u1 : Obj, Mok .string V.str V.bool u1 y.2 ∧ e = .ret ∧ l = [(2, .v (.int .i64 y.1))] ∧ Own Eq H0 [.blk m2 (.obj u1)] H1) (by kernel_rfl) ?_ o3 hx ?_ ?_ ?_
   ·rintro s4 q5 H o ⟨hq5, hO⟩ h;clear hx;cbv;refine n_br hE h (fun hc h => ?_) (fun hc h => ?_)
    ·cbv;refine n_idx hE Encs.eGField_eq h fun x7 h => ?_;cbv;refine n_call hE (g := fun r8 => .bool r8) h (fun r8 hx => c80 N x7.Name r8 hx) (.refl _) fun r8 h => ?_;cbv;refine n_br hE h (fun hc h => ?_) (fun hc h => ?_)
     ·cbv;have h := ret_some h;subst h;exact ⟨_, _, rfl, ⟨q5, hq5, rfl, rfl, hO⟩, .e rfl (.z), rfl⟩
     ·cbv;refine n_mget hE (kt := 9) (et := 4) (by kernel_rfl) (by kernel_rfl) mkOk_str (false : Bool) (by kernel_rfl) rfl hO hq5 0 rfl h fun r9 h => ?_;cbv;refine n_br hE h (fun hc h => ?_) (fun hc h => ?_)
      ·cbv;have h := ret_some h;subst h;exact ⟨_, _, rfl, ⟨q5, hq5, rfl, rfl, hO⟩, .e rfl (.z), rfl⟩
      ·cbv;refine n_br hE h (fun hc h => ?_) (fun hc h => ?_)
       ·cbv;have h := ret_some h;subst h;exact ⟨_, _, rfl, ⟨q5, hq5, rfl, rfl, hO⟩, .e rfl (.z), rfl⟩
       ·cbv;refine n_mset hE (kt := 9) (et := 4) (by kernel_rfl) (by kernel_rfl) mkOk_str mvOk_bool hO hq5 0 rfl h fun l11 o10 H ho10 h hO => ?_;cbv;have h := ret_some h;subst h;exact ⟨_, o10, rfl, .e rfl (.e rfl (.e rfl (.e rfl (.z)))), rfl, ho10, hO⟩
    ·cbv;have h := ret_some h;subst h;exact ⟨_, _, rfl, ⟨q5, hq5, rfl, rfl, hO⟩, .z, rfl⟩
   ·exact .e rfl (.e rfl (.e rfl (.e rfl (.z))))
   ·exact ⟨ho3, hO⟩
   ·clear hx
    rcases s6 with y12 | y14
    ·rintro e l H ⟨q13, hq13, rfl, rfl, hO⟩;cbv;have h := ret_some h;subst h;exact hK _ _ _ hO (.refl _)
    ·rintro e l H ⟨q15, hq15, rfl, rfl, hO⟩;cbv;have h := ret_some h;subst h;exact hK _ _ _ hO (.refl _)
def cf23 : Cf := ⟨[], [], [], [], [], []⟩
theorem c23 (N : Nat) (x_l : List GSchema) (r : Int) (h : schema_CheckAll N x_l = some r) : CallP Tryz.prog 23 [.sl (Ar.lst Encs.eGSchema x_l) .ro] (.int .i64 r) := by
 unfold schema_CheckAll at h
 refine callP_of_spec cf23 okP Tryz.func23 (by rfl) (by kernel_rfl) Tryz.call23 Tryz.ntmps23 (by rfl) (by rfl) ?_;intro E H0 K hE hK
 have hO : Own Eq H0 [] H0 := .start stable_eq rfl
 cbv;refine n_ln hE ?_;cbv;refine n_br hE h (fun hc h => ?_) (fun hc h => ?_)
 ·cbv;have h := ret_some h;subst h;exact hK _ _ _ hO (.refl _)
 ·cbv;refine n_mmk hE .string V.str V.bool hO fun m1 o2 H ho2 hO => ?_;cbv;refine n_ln hE ?_;cbv;obtain ⟨s5, hx, h⟩ := bind_some h;refine n_loopG cf23 hE okP (γ := Obj) (fun s3 g => [(3, .v (.map m1)), (11, .v (.sl (Ar.lst Encs.eGSchema x_l) .ro)), (12, .v (.int .i64 (Ar.len x_l))), (13, .v (.int .i64 s3.1))]) (fun s3 g H1 => Mok .string V.str V.bool g s3.2 ∧ Own Eq H0 [.blk m1 (.obj g)] H1) (fun x e l H1 => match (generalizing := false) x with | .inl y => ∃ u1 : Obj, Mok .string V.str V.bool u1 y ∧ e = .exit 0 ∧ l = [] ∧ Own Eq H0 [.blk m1 (.obj u1)] H1 | .inr y => ∃ u1 : Obj, Mok .string V.str V.bool u1 y.2 ∧ e = .ret ∧ l = [(2, .v (.int .i64 y.1))] ∧ Own Eq H0 [.blk m1 (.obj u1)] H1) (by kernel_rfl) ?_ o2 hx ?_ ?_ ?_
  ·rintro s3 q4 H o ⟨hq4, hO⟩ h;clear hx;cbv;refine n_br hE h (fun hc h => ?_) (fun hc h => ?_)
   ·cbv;refine n_idx hE Encs.eGSchema_eq h fun x6 h => ?_;cbv;refine n_call hE (g := fun r7 => .int .i64 r7) h (fun r7 hx => c47 N x6 r7 hx) (.refl _) fun r7 h => ?_;cbv;refine n_br hE h (fun hc h => ?_) (fun hc h => ?_)
    ·cbv;have h := ret_some h;subst h;exact ⟨_, _, rfl, ⟨q4, hq4, rfl, rfl, hO⟩, .e rfl (.z), rfl⟩
    ·cbv;refine n_mget hE (kt := 9) (et := 4) (by kernel_rfl) (by kernel_rfl) mkOk_str (false : Bool) (by kernel_rfl) rfl hO hq4 0 rfl h fun r8 h => ?_;cbv;refine n_br hE h (fun hc h => ?_) (fun hc h => ?_)
     ·cbv;have h := ret_some h;subst h;exact ⟨_, _, rfl, ⟨q4, hq4, rfl, rfl, hO⟩, .e rfl (.z), rfl⟩
     ·cbv;refine n_mset hE (kt := 9) (et := 4) (by kernel_rfl) (by kernel_rfl) mkOk_str mvOk_bool hO hq4 0 rfl h fun l10 o9 H ho9 h hO => ?_;cbv;have h := ret_some h;subst h;exact ⟨_, o9, rfl, .e rfl (.e rfl (.e rfl (.e rfl (.z)))), rfl, ho9, hO⟩
   ·cbv;have h := ret_some h;subst h;exact ⟨_, _, rfl, ⟨q4, hq4, rfl, rfl, hO⟩, .z, rfl⟩
  ·exact .e rfl (.e rfl (.e rfl (.e rfl (.z))))
  ·exact ⟨ho2, hO⟩
  ·clear hx
   rcases s5 with y11 | y13
   ·rintro e l H ⟨q12, hq12, rfl, rfl, hO⟩;cbv;have h := ret_some h;subst h;exact hK _ _ _ hO (.refl _)
   ·rintro e l H ⟨q14, hq14, rfl, rfl, hO⟩;cbv;have h := ret_some h;subst h;exact hK _ _ _ hO (.refl _)
def cf81 : Cf := ⟨[], [], [], [], [], []⟩
theorem c81 (N : Nat) : ∀ (n : Nat) (x_e : GExpr) (r : (Int × Int)), expr_Size N n x_e = some r → CallP Tryz.prog 81 [.agg [.int .i64 x_e.Op, .sl (Ar.lst Encs.eGExpr x_e.Args) .ro, .int .i64 x_e.Var, .int .i64 x_e.Field, .int .i64 x_e.Kind, .int .i64 x_e.Value.Kind, .int .i64 x_e.Value.Num, .str x_e.Value.Text]] (.tup [.int .i64 r.1, .int .i64 r.2]) := by
 intro n
 induction n with
 | zero => intro x_e r h; cases h
 | succ n ih =>
 intro x_e r h
 unfold expr_Size at h
 refine callP_of_spec cf81 okP Tryz.func81 (by rfl) (by kernel_rfl) Tryz.call81 Tryz.ntmps81 (by rfl) (by rfl) ?_;intro E H0 K hE hK
 have hO : Own Eq H0 [] H0 := .start stable_eq rfl
 cbv;refine n_ln hE ?_;cbv;obtain ⟨s2, hx, h⟩ := bind_some h;refine n_loopN cf81 hE okP (fun s1 => [(4, .v (.int .i64 s1.1)), (5, .v (.int .i64 s1.2.1)), (11, .v (.sl (Ar.lst Encs.eGExpr x_e.Args) .ro)), (12, .v (.int .i64 (Ar.len x_e.Args))), (13, .v (.int .i64 s1.2.2))]) (fun s1 H1 => Own Eq H0 [] H1) (fun x e l H1 => e = .exit 0 ∧ l = [(4, .v (.int .i64 x.1)), (5, .v (.int .i64 x.2))] ∧ Own Eq H0 [] H1) (by kernel_rfl) ?_ hx ?_ hO ?_
 ·intro s1 H o hO h;clear hx;cbv;refine n_br hE h (fun hc h => ?_) (fun hc h => ?_)
  ·cbv;refine n_idx hE Encs.eGExpr_eq h fun x3 h => ?_;cbv;refine n_call hE (g := fun r4 => .tup [.int .i64 r4.1, .int .i64 r4.2]) h (fun r4 hx => ih x3 r4 hx) (.refl _) fun r4 h => ?_;cbv;have h := ret_some h;subst h;exact ⟨_, rfl, .e rfl (.e rfl (.e rfl (.e rfl (.e rfl (.z))))), rfl, hO⟩
  ·cbv;have h := ret_some h;subst h;exact ⟨_, _, rfl, ⟨rfl, rfl, hO⟩, .e rfl (.e rfl (.z)), rfl⟩
 ·exact .e rfl (.e rfl (.e rfl (.e rfl (.e rfl (.z)))))
 ·clear hx;rintro e l H ⟨rfl, rfl, hO⟩;cbv;have h := ret_some h;subst h;exact hK _ _ _ hO (.refl _)
def cf82 : Cf := ⟨[], [], [], [], [], []⟩
theorem c82 (N : Nat) : ∀ (n : Nat) (x_e : GExpr) (v_f : V) (x_f : GExpr → Option Int) (h_f : ∀ y1 q, x_f y1 = some q → CallVP Tryz.prog v_f [.agg [.int .i64 y1.Op, .sl (Ar.lst Encs.eGExpr y1.Args) .ro, .int .i64 y1.Var, .int .i64 y1.Field, .int .i64 y1.Kind, .int .i64 y1.Value.Kind, .int .i64 y1.Value.Num, .str y1.Value.Text]] (.int .i64 q)) (r : Int), expr_visit N n x_e x_f = some r → CallP Tryz.prog 82 [.agg [.int .i64 x_e.Op, .sl (Ar.lst Encs.eGExpr x_e.Args) .ro, .int .i64 x_e.Var, .int .i64 x_e.Field, .int .i64 x_e.Kind, .int .i64 x_e.Value.Kind, .int .i64 x_e.Value.Num, .str x_e.Value.Text], v_f] (.int .i64 r) := by
 intro n
 induction n with
 | zero => intro x_e v_f x_f h_f r h; cases h
 | succ n ih =>
 intro x_e v_f x_f h_f r h
 unfold expr_visit at h
 refine callP_of_spec cf82 okP Tryz.func82 (by rfl) (by kernel_rfl) Tryz.call82 Tryz.ntmps82 (by rfl) (by rfl) ?_;intro E H0 K hE hK
 have hO : Own Eq H0 [] H0 := .start stable_eq rfl
 cbv;refine n_callF hE (g := fun r1 => .int .i64 r1) h (fun r1 hx => h_f x_e r1 hx) (.refl _) fun r1 h => ?_;cbv;refine n_br hE h (fun hc h => ?_) (fun hc h => ?_)
 ·cbv;have h := ret_some h;subst h;exact hK _ _ _ hO (.refl _)
 ·cbv;refine n_ln hE ?_;cbv;obtain ⟨s3, hx, h⟩ := bind_some h;refine n_loopN cf82 hE okP (fun s2 => [(1, .v (v_f)), (16, .v (.sl (Ar.lst Encs.eGExpr x_e.Args) .ro)), (17, .v (.int .i64 (Ar.len x_e.Args))), (18, .v (.int .i64 s2))]) (fun s2 H1 => Own Eq H0 [] H1) (fun x e l H1 => match (generalizing := false) x with | .inl y => e = .exit 0 ∧ l = [] ∧ Own Eq H0 [] H1 | .inr y => e = .ret ∧ l = [(4, .v (.int .i64 y))] ∧ Own Eq H0 [] H1) (by kernel_rfl) ?_ hx ?_ hO ?_
  ·intro s2 H o hO h;clear hx;cbv;refine n_br hE h (fun hc h => ?_) (fun hc h => ?_)
   ·cbv;refine n_idx hE Encs.eGExpr_eq h fun x4 h => ?_;cbv;refine n_call hE (g := fun r5 => .int .i64 r5) h (fun r5 hx => ih x4 v_f x_f h_f r5 hx) (.refl _) fun r5 h => ?_;cbv;refine n_br hE h (fun hc h => ?_) (fun hc h => ?_)
    ·cbv;have h := ret_some h;subst h;exact ⟨_, _, rfl, ⟨rfl, rfl, hO⟩, .e rfl (.z), rfl⟩
    ·cbv;have h := ret_some h;subst h;exact ⟨_, rfl, .e rfl (.e rfl (.e rfl (.e rfl (.z)))), rfl, hO⟩
   ·cbv;have h := ret_some h;subst h;exact ⟨_, _, rfl, ⟨rfl, rfl, hO⟩, .z, rfl⟩
  ·exact .e rfl (.e rfl (.e rfl (.e rfl (.z))))
  ·clear hx
   rcases s3 with y6 | y7
   ·rintro e l H ⟨rfl, rfl, hO⟩;cbv;have h := ret_some h;subst h;exact hK _ _ _ hO (.refl _)
   ·rintro e l H ⟨rfl, rfl, hO⟩;cbv;have h := ret_some h;subst h;exact hK _ _ _ hO (.refl _)
def cf123 : Cf := ⟨[], [], [], [], [], []⟩
theorem c123 (N : Nat) (x_op : Int) (r : (Int × Bool)) (h : expr_arity N x_op = some r) : CallP Tryz.prog 123 [.int .i64 x_op] (.tup [.int .i64 r.1, .bool r.2]) := by
 unfold expr_arity at h
 refine callP_of_spec cf123 okP Tryz.func123 (by rfl) (by kernel_rfl) Tryz.call123 Tryz.ntmps123 (by rfl) (by rfl) ?_;intro E H0 K hE hK
 have hO : Own Eq H0 [] H0 := .start stable_eq rfl
 cbv;refine n_br hE h (fun hc h => ?_) (fun hc h => ?_)
 ·cbv;have h := ret_some h;subst h;exact hK _ _ _ hO (.refl _)
 ·cbv;refine n_br hE h (fun hc h => ?_) (fun hc h => ?_)
  ·cbv;have h := ret_some h;subst h;exact hK _ _ _ hO (.refl _)
  ·cbv;refine n_br hE h (fun hc h => ?_) (fun hc h => ?_)
   ·cbv;have h := ret_some h;subst h;exact hK _ _ _ hO (.refl _)
   ·cbv;have h := ret_some h;subst h;exact hK _ _ _ hO (.refl _)
def cf124 : Cf := ⟨[], [], [(5, 4)], [], [], []⟩
theorem c124 (N : Nat) (x_op : Int) (r : (Bool × Bool)) (h : expr_uses N x_op = some r) : CallP Tryz.prog 124 [.int .i64 x_op] (.tup [.bool r.1, .bool r.2]) := by
 unfold expr_uses at h
 refine callP_of_spec cf124 okP Tryz.func124 (by rfl) (by kernel_rfl) Tryz.call124 Tryz.ntmps124 (by rfl) (by rfl) ?_;intro E H0 K hE hK
 have hO : Own Eq H0 [] H0 := .start stable_eq rfl
 cbv;obtain ⟨s1, hx, h⟩ := bind_some h;refine n_join cf124 hE okP (fun e l H1 => e = .normal ∧ l = [(4, .v (.int .i64 x_op)), (5, .v (.bool s1))] ∧ Own Eq H0 [] H1) (by kernel_rfl) ?_ ?_
 ·clear h;have h := hx;clear hx;cbv;refine n_br hE h (fun hc h => ?_) (fun hc h => ?_)
  ·cbv;have h := ret_some h;subst h;exact ⟨_, ⟨rfl, rfl, hO⟩, .e rfl (.e rfl (.z)), rfl⟩
  ·cbv;have h := ret_some h;subst h;exact ⟨_, ⟨rfl, rfl, hO⟩, .e rfl (.e rfl (.z)), rfl⟩
 ·clear hx;rintro e l H ⟨rfl, rfl, hO⟩;cbv;refine n_br hE h (fun hc h => ?_) (fun hc h => ?_)
  ·cbv;have h := ret_some h;subst h;exact hK _ _ _ hO (.refl _)
  ·cbv;refine n_br hE h (fun hc h => ?_) (fun hc h => ?_)
   ·cbv;have h := ret_some h;subst h;exact hK _ _ _ hO (.refl _)
   ·cbv;refine n_br hE h (fun hc h => ?_) (fun hc h => ?_)
    ·cbv;have h := ret_some h;subst h;exact hK _ _ _ hO (.refl _)
    ·cbv;have h := ret_some h;subst h;exact hK _ _ _ hO (.refl _)
def cf106 : Cf := ⟨[], [], [], [], [], []⟩
theorem c106 (N : Nat) (x_v : GValue) (r : Int) (h : value_size N x_v = some r) : CallP Tryz.prog 106 [.agg [.int .i64 x_v.Kind, .int .i64 x_v.Num, .str x_v.Text]] (.int .i64 r) := by
 unfold value_size at h
 refine callP_of_spec cf106 okP Tryz.func106 (by rfl) (by kernel_rfl) Tryz.call106 Tryz.ntmps106 (by rfl) (by rfl) ?_;intro E H0 K hE hK
 have hO : Own Eq H0 [] H0 := .start stable_eq rfl
 cbv;refine n_br hE h (fun hc h => ?_) (fun hc h => ?_)
 ·cbv;have h := ret_some h;subst h;exact hK _ _ _ hO (.refl _)
 ·cbv;refine n_br hE h (fun hc h => ?_) (fun hc h => ?_)
  ·cbv;have h := ret_some h;subst h;exact hK _ _ _ hO (.refl _)
  ·cbv;refine n_br hE h (fun hc h => ?_) (fun hc h => ?_)
   ·cbv;have h := ret_some h;subst h;exact hK _ _ _ hO (.refl _)
   ·cbv;have h := ret_some h;subst h;exact hK _ _ _ hO (.refl _)
def cf70 : Cf := ⟨[], [], [(5, 5)], [], [], []⟩
theorem c70 (N : Nat) (x_v : GValue) (r : Int) (h : value_Check N x_v = some r) : CallP Tryz.prog 70 [.agg [.int .i64 x_v.Kind, .int .i64 x_v.Num, .str x_v.Text]] (.int .i64 r) := by
 unfold value_Check at h
 refine callP_of_spec cf70 okP Tryz.func70 (by rfl) (by kernel_rfl) Tryz.call70 Tryz.ntmps70 (by rfl) (by rfl) ?_;intro E H0 K hE hK
 have hO : Own Eq H0 [] H0 := .start stable_eq rfl
 cbv;obtain ⟨s1, hx, h⟩ := bind_some h;refine n_join cf70 hE okP (fun e l H1 => e = .normal ∧ l = [(1, .v (.eref [.int .i64 x_v.Kind, .int .i64 x_v.Num, .str x_v.Text] 0)), (4, .v (.int .i64 x_v.Kind)), (5, .v (.bool s1))] ∧ Own Eq H0 [] H1) (by kernel_rfl) ?_ ?_
 ·clear h;have h := hx;clear hx;cbv;refine n_br hE h (fun hc h => ?_) (fun hc h => ?_)
  ·cbv;have h := ret_some h;subst h;exact ⟨_, ⟨rfl, rfl, hO⟩, .e rfl (.e rfl (.e rfl (.z))), rfl⟩
  ·cbv;have h := ret_some h;subst h;exact ⟨_, ⟨rfl, rfl, hO⟩, .e rfl (.e rfl (.e rfl (.z))), rfl⟩
 ·clear hx;rintro e l H ⟨rfl, rfl, hO⟩;cbv;refine n_br hE h (fun hc h => ?_) (fun hc h => ?_)
  ·cbv;refine n_br hE h (fun hc h => ?_) (fun hc h => ?_)
   ·cbv;have h := ret_some h;subst h;exact hK _ _ _ hO (.refl _)
   ·cbv;refine n_call hE (g := fun r2 => .int .i64 r2) h (fun r2 hx => c106 N x_v r2 hx) (.refl _) fun r2 h => ?_;cbv;have h := ret_some h;subst h;exact hK _ _ _ hO (.refl _)
  ·cbv;refine n_br hE h (fun hc h => ?_) (fun hc h => ?_)
   ·cbv;refine n_br hE h (fun hc h => ?_) (fun hc h => ?_)
    ·cbv;have h := ret_some h;subst h;exact hK _ _ _ hO (.refl _)
    ·cbv;refine n_call hE (g := fun r3 => .int .i64 r3) h (fun r3 hx => c106 N x_v r3 hx) (.refl _) fun r3 h => ?_;cbv;have h := ret_some h;subst h;exact hK _ _ _ hO (.refl _)
   ·cbv;have h := ret_some h;subst h;exact hK _ _ _ hO (.refl _)
def cf126 : Cf := ⟨[], [], [], [], [], []⟩
theorem c126 (N : Nat) (x_kind : Int) (x_v : GValue) (r : Bool) (h : expr_suits N x_kind x_v = some r) : CallP Tryz.prog 126 [.int .i64 x_kind, .agg [.int .i64 x_v.Kind, .int .i64 x_v.Num, .str x_v.Text]] (.bool r) := by
 unfold expr_suits at h
 refine callP_of_spec cf126 okP Tryz.func126 (by rfl) (by kernel_rfl) Tryz.call126 Tryz.ntmps126 (by rfl) (by rfl) ?_;intro E H0 K hE hK
 have hO : Own Eq H0 [] H0 := .start stable_eq rfl
 cbv;have h := ret_some h;subst h;exact hK _ _ _ hO (.refl _)
def cf125 : Cf := ⟨[], [], [], [], [], []⟩
theorem c125 (N : Nat) (x_e : GExpr) (r : Int) (h : expr_constants N x_e = some r) : CallP Tryz.prog 125 [.agg [.int .i64 x_e.Op, .sl (Ar.lst Encs.eGExpr x_e.Args) .ro, .int .i64 x_e.Var, .int .i64 x_e.Field, .int .i64 x_e.Kind, .int .i64 x_e.Value.Kind, .int .i64 x_e.Value.Num, .str x_e.Value.Text]] (.int .i64 r) := by
 unfold expr_constants at h
 refine callP_of_spec cf125 okP Tryz.func125 (by rfl) (by kernel_rfl) Tryz.call125 Tryz.ntmps125 (by rfl) (by rfl) ?_;intro E H0 K hE hK
 have hO : Own Eq H0 [] H0 := .start stable_eq rfl
 cbv;refine n_call hE (g := fun r1 => .int .i64 r1) h (fun r1 hx => c70 N x_e.Value r1 hx) (.refl _) fun r1 h => ?_;cbv;refine n_br hE h (fun hc h => ?_) (fun hc h => ?_)
 ·cbv;have h := ret_some h;subst h;exact hK _ _ _ hO (.refl _)
 ·cbv;refine n_br hE h (fun hc h => ?_) (fun hc h => ?_)
  ·cbv;refine n_call hE (g := fun r2 => .bool r2) h (fun r2 hx => c126 N x_e.Kind x_e.Value r2 hx) (.refl _) fun r2 h => ?_;cbv;refine n_br hE h (fun hc h => ?_) (fun hc h => ?_)
   ·cbv;have h := ret_some h;subst h;exact hK _ _ _ hO (.refl _)
   ·cbv;have h := ret_some h;subst h;exact hK _ _ _ hO (.refl _)
  ·cbv;have h := ret_some h;subst h;exact hK _ _ _ hO (.refl _)
def cf83 : Cf := ⟨[], [], [(73, 15)], [], [], []⟩
theorem c83 (N : Nat) (x_e : GExpr) (r : Int) (h : expr_node N x_e = some r) : CallP Tryz.prog 83 [.agg [.int .i64 x_e.Op, .sl (Ar.lst Encs.eGExpr x_e.Args) .ro, .int .i64 x_e.Var, .int .i64 x_e.Field, .int .i64 x_e.Kind, .int .i64 x_e.Value.Kind, .int .i64 x_e.Value.Num, .str x_e.Value.Text]] (.int .i64 r) := by
 unfold expr_node at h
 refine callP_of_spec cf83 okP Tryz.func83 (by rfl) (by kernel_rfl) Tryz.call83 Tryz.ntmps83 (by rfl) (by rfl) ?_;intro E H0 K hE hK
 have hO : Own Eq H0 [] H0 := .start stable_eq rfl
 cbv;refine n_call hE (g := fun r1 => .tup [.int .i64 r1.1, .bool r1.2]) h (fun r1 hx => c123 N x_e.Op r1 hx) (.refl _) fun r1 h => ?_;cbv;refine n_br hE h (fun hc h => ?_) (fun hc h => ?_)
 ·cbv;have h := ret_some h;subst h;exact hK _ _ _ hO (.refl _)
 ·cbv;refine n_ln hE ?_;cbv;refine n_br hE h (fun hc h => ?_) (fun hc h => ?_)
  ·cbv;have h := ret_some h;subst h;exact hK _ _ _ hO (.refl _)
  ·cbv;refine n_call hE (g := fun r2 => .tup [.bool r2.1, .bool r2.2]) h (fun r2 hx => c124 N x_e.Op r2 hx) (.refl _) fun r2 h => ?_;cbv;refine n_br hE h (fun hc h => ?_) (fun hc h => ?_)
   ·cbv;have h := ret_some h;subst h;exact hK _ _ _ hO (.refl _)
   ·cbv;refine n_br hE h (fun hc h => ?_) (fun hc h => ?_)
    ·cbv;have h := ret_some h;subst h;exact hK _ _ _ hO (.refl _)
    ·cbv;obtain ⟨s3, hx, h⟩ := bind_some h;refine n_join cf83 hE okP (fun e l H1 => match (generalizing := false) s3 with | .inl y => e = .normal ∧ l = [(1, .v (.eref [.int .i64 x_e.Op, .sl (Ar.lst Encs.eGExpr x_e.Args) .ro, .int .i64 x_e.Var, .int .i64 x_e.Field, .int .i64 x_e.Kind, .int .i64 x_e.Value.Kind, .int .i64 x_e.Value.Num, .str x_e.Value.Text] 0)), (5, .v (.bool r2.1)), (6, .v (.bool r2.2)), (7, .v (.bool (Ar.cmp .eql x_e.Op 4))), (8, .v (.bool (Ar.or (Ar.cmp .eql x_e.Op 4) (Ar.cmp .eql x_e.Op 0))))] ∧ Own Eq H0 [] H1 | .inr y => e = .ret ∧ l = [(2, .v (.int .i64 y))] ∧ Own Eq H0 [] H1) (by kernel_rfl) ?_ ?_
     ·clear h;have h := hx;clear hx;cbv;refine n_br hE h (fun hc h => ?_) (fun hc h => ?_)
      ·cbv;refine n_call hE (g := fun r4 => .int .i64 r4) h (fun r4 hx => c125 N x_e r4 hx) (.refl _) fun r4 h => ?_;cbv;refine n_br hE h (fun hc h => ?_) (fun hc h => ?_)
       ·cbv;have h := ret_some h;subst h;exact ⟨_, ⟨rfl, rfl, hO⟩, .e rfl (.z), rfl⟩
       ·cbv;have h := ret_some h;subst h;exact ⟨_, ⟨rfl, rfl, hO⟩, .e rfl (.e rfl (.e rfl (.e rfl (.e rfl (.z))))), rfl⟩
      ·cbv;have h := ret_some h;subst h;exact ⟨_, ⟨rfl, rfl, hO⟩, .e rfl (.e rfl (.e rfl (.e rfl (.e rfl (.z))))), rfl⟩
     ·clear hx
      rcases s3 with y5 | y6
      ·rintro e l H ⟨rfl, rfl, hO⟩;cbv;refine n_br hE h (fun hc h => ?_) (fun hc h => ?_)
       ·cbv;have h := ret_some h;subst h;exact hK _ _ _ hO (.refl _)
       ·cbv;have h := ret_some h;subst h;exact hK _ _ _ hO (.refl _)
      ·rintro e l H ⟨rfl, rfl, hO⟩;cbv;have h := ret_some h;subst h;exact hK _ _ _ hO (.refl _)
def cf48 : Cf := ⟨[], [], [], [], [], []⟩
theorem c48 (N : Nat) (x_e : GExpr) (r : Int) (h : expr_Check N x_e = some r) : CallP Tryz.prog 48 [.agg [.int .i64 x_e.Op, .sl (Ar.lst Encs.eGExpr x_e.Args) .ro, .int .i64 x_e.Var, .int .i64 x_e.Field, .int .i64 x_e.Kind, .int .i64 x_e.Value.Kind, .int .i64 x_e.Value.Num, .str x_e.Value.Text]] (.int .i64 r) := by
 unfold expr_Check at h
 refine callP_of_spec cf48 okP Tryz.func48 (by rfl) (by kernel_rfl) Tryz.call48 Tryz.ntmps48 (by rfl) (by rfl) ?_;intro E H0 K hE hK
 have hO : Own Eq H0 [] H0 := .start stable_eq rfl
 cbv;refine n_call hE (g := fun r1 => .tup [.int .i64 r1.1, .int .i64 r1.2]) h (fun r1 hx => c81 N N x_e r1 hx) (.refl _) fun r1 h => ?_;cbv;refine n_br hE h (fun hc h => ?_) (fun hc h => ?_)
 ·cbv;have h := ret_some h;subst h;exact hK _ _ _ hO (.refl _)
 ·cbv;refine n_br hE h (fun hc h => ?_) (fun hc h => ?_)
  ·cbv;have h := ret_some h;subst h;exact hK _ _ _ hO (.refl _)
  ·cbv;refine n_call hE (g := fun r2 => .int .i64 r2) h (fun r2 hx => c82 N N x_e (.func (.func 83) [] []) (fun y1 => expr_node N y1) (fun y1 r hx => CallP.value (F := []) (C := []) (c83 N y1 r hx)) r2 hx) (.refl _) fun r2 h => ?_;cbv;have h := ret_some h;subst h;exact hK _ _ _ hO (.refl _)
def cf84 : Cf := ⟨[], [(7, 9)], [], [], [], []⟩
theorem c84 (N : Nat) (x_t : Gexpr_typer) (x_e : GExpr) (r : (Int × Int)) (h : expr_typer_leaf N x_t x_e = some r) : CallP Tryz.prog 84 [.agg [.sl (Ar.lst Encs.eGSchema x_t.types) .ro, .sl (Ar.lst Encs.eGVariable x_t.vars) .ro], .agg [.int .i64 x_e.Op, .sl (Ar.lst Encs.eGExpr x_e.Args) .ro, .int .i64 x_e.Var, .int .i64 x_e.Field, .int .i64 x_e.Kind, .int .i64 x_e.Value.Kind, .int .i64 x_e.Value.Num, .str x_e.Value.Text]] (.tup [.int .i64 r.1, .int .i64 r.2]) := by
 unfold expr_typer_leaf at h
 refine callP_of_spec cf84 okP Tryz.func84 (by rfl) (by kernel_rfl) Tryz.call84 Tryz.ntmps84 (by rfl) (by rfl) ?_;intro E H0 K hE hK
 have hO : Own Eq H0 [] H0 := .start stable_eq rfl
 cbv;refine n_br hE h (fun hc h => ?_) (fun hc h => ?_)
 ·cbv;have h := ret_some h;subst h;exact hK _ _ _ hO (.refl _)
 ·cbv;refine n_ln hE ?_;cbv;refine n_br hE h (fun hc h => ?_) (fun hc h => ?_)
  ·cbv;have h := ret_some h;subst h;exact hK _ _ _ hO (.refl _)
  ·cbv;refine n_br hE h (fun hc h => ?_) (fun hc h => ?_)
   ·cbv;have h := ret_some h;subst h;exact hK _ _ _ hO (.refl _)
   ·cbv;refine n_idx hE Encs.eGVariable_eq h fun x1 h => ?_;cbv;refine n_idx hE Encs.eGSchema_eq h fun x2 h => ?_;cbv;refine n_ln hE ?_;cbv;refine n_br hE h (fun hc h => ?_) (fun hc h => ?_)
    ·cbv;have h := ret_some h;subst h;exact hK _ _ _ hO (.refl _)
    ·cbv;refine n_idx hE Encs.eGField_eq h fun x3 h => ?_;cbv;refine n_br hE h (fun hc h => ?_) (fun hc h => ?_)
     ·cbv;refine n_br hE h (fun hc h => ?_) (fun hc h => ?_)
      ·cbv;have h := ret_some h;subst h;exact hK _ _ _ hO (.refl _)
      ·cbv;refine n_call hE (g := fun r4 => .bool r4) h (fun r4 hx => c126 N x_e.Kind (⟨x3.Kind, 0, ⟨#[]⟩⟩ : GValue) r4 hx) (.refl _) fun r4 h => ?_;cbv;refine n_br hE h (fun hc h => ?_) (fun hc h => ?_)
       ·cbv;have h := ret_some h;subst h;exact hK _ _ _ hO (.refl _)
       ·cbv;have h := ret_some h;subst h;exact hK _ _ _ hO (.refl _)
     ·cbv;have h := ret_some h;subst h;exact hK _ _ _ hO (.refl _)
def cf85 : Cf := ⟨[], [], [(15, 8), (22, 13)], [], [], []⟩
theorem c85 (N : Nat) (x_op : Int) (x_kinds : List Int) (r : Int) (h : expr_operands N x_op x_kinds = some r) : CallP Tryz.prog 85 [.int .i64 x_op, .sl (Ar.lst (V.int .i64) x_kinds) .ro] (.int .i64 r) := by
 unfold expr_operands at h
 refine callP_of_spec cf85 okP Tryz.func85 (by rfl) (by kernel_rfl) Tryz.call85 Tryz.ntmps85 (by rfl) (by rfl) ?_;intro E H0 K hE hK
 have hO : Own Eq H0 [] H0 := .start stable_eq rfl
 cbv;refine n_ln hE ?_;cbv;obtain ⟨s2, hx, h⟩ := bind_some h;refine n_loopN cf85 hE okP (fun s1 => [(0, .v (.int .i64 x_op)), (1, .v (.sl (Ar.lst (V.int .i64) x_kinds) .ro)), (8, .v (.sl (Ar.lst (V.int .i64) x_kinds) .ro)), (9, .v (.int .i64 (Ar.len x_kinds))), (10, .v (.int .i64 s1))]) (fun s1 H1 => Own Eq H0 [] H1) (fun x e l H1 => match (generalizing := false) x with | .inl y => e = .exit 0 ∧ l = [] ∧ Own Eq H0 [] H1 | .inr y => e = .ret ∧ l = [(4, .v (.int .i64 9))] ∧ Own Eq H0 [] H1) (by kernel_rfl) ?_ hx ?_ hO ?_
 ·intro s1 H o hO h;clear hx;cbv;refine n_br hE h (fun hc h => ?_) (fun hc h => ?_)
  ·cbv;refine n_idx hE (fun _ => rfl) h fun x3 h => ?_;cbv;obtain ⟨s4, hx, h⟩ := bind_some h;refine n_join cf85 hE okP (fun e l H1 => e = .normal ∧ l = [(0, .v (.int .i64 x_op)), (1, .v (.sl (Ar.lst (V.int .i64) x_kinds) .ro)), (6, .v (.int .i64 x3)), (7, .b true), (8, .v (.sl (Ar.lst (V.int .i64) x_kinds) .ro)), (9, .v (.int .i64 (Ar.len x_kinds))), (10, .v (.int .i64 s1)), (14, .v (.int .i64 x_op)), (15, .v (.bool s4))] ∧ Own Eq H0 [] H1) (by kernel_rfl) ?_ ?_
   ·clear h;have h := hx;clear hx;cbv;refine n_br hE h (fun hc h => ?_) (fun hc h => ?_)
    ·cbv;have h := ret_some h;subst h;exact ⟨_, ⟨rfl, rfl, hO⟩, .e rfl (.e rfl (.e rfl (.b rfl (.e rfl (.e rfl (.e rfl (.e rfl (.e rfl (.z))))))))), rfl⟩
    ·cbv;refine n_br hE h (fun hc h => ?_) (fun hc h => ?_)
     ·cbv;have h := ret_some h;subst h;exact ⟨_, ⟨rfl, rfl, hO⟩, .e rfl (.e rfl (.e rfl (.b rfl (.e rfl (.e rfl (.e rfl (.e rfl (.e rfl (.z))))))))), rfl⟩
     ·cbv;refine n_br hE h (fun hc h => ?_) (fun hc h => ?_)
      ·cbv;have h := ret_some h;subst h;exact ⟨_, ⟨rfl, rfl, hO⟩, .e rfl (.e rfl (.e rfl (.b rfl (.e rfl (.e rfl (.e rfl (.e rfl (.e rfl (.z))))))))), rfl⟩
      ·cbv;have h := ret_some h;subst h;exact ⟨_, ⟨rfl, rfl, hO⟩, .e rfl (.e rfl (.e rfl (.b rfl (.e rfl (.e rfl (.e rfl (.e rfl (.e rfl (.z))))))))), rfl⟩
   ·clear hx;rintro e l H ⟨rfl, rfl, hO⟩;cbv;refine n_br hE h (fun hc h => ?_) (fun hc h => ?_)
    ·cbv;refine n_br hE h (fun hc h => ?_) (fun hc h => ?_)
     ·cbv;have h := ret_some h;subst h;exact ⟨_, _, rfl, ⟨rfl, rfl, hO⟩, .e rfl (.z), rfl⟩
     ·cbv;have h := ret_some h;subst h;exact ⟨_, rfl, .e rfl (.e rfl (.e rfl (.e rfl (.e rfl (.z))))), rfl, hO⟩
    ·cbv;obtain ⟨s5, hx, h⟩ := bind_some h;refine n_join cf85 hE okP (fun e l H1 => e = .normal ∧ l = [(0, .v (.int .i64 x_op)), (1, .v (.sl (Ar.lst (V.int .i64) x_kinds) .ro)), (6, .v (.int .i64 x3)), (7, .b true), (8, .v (.sl (Ar.lst (V.int .i64) x_kinds) .ro)), (9, .v (.int .i64 (Ar.len x_kinds))), (10, .v (.int .i64 s1)), (14, .v (.int .i64 x_op)), (22, .v (.bool s5))] ∧ Own Eq H0 [] H1) (by kernel_rfl) ?_ ?_
     ·clear h;have h := hx;clear hx;cbv;refine n_br hE h (fun hc h => ?_) (fun hc h => ?_)
      ·cbv;have h := ret_some h;subst h;exact ⟨_, ⟨rfl, rfl, hO⟩, .e rfl (.e rfl (.e rfl (.b rfl (.e rfl (.e rfl (.e rfl (.e rfl (.e rfl (.z))))))))), rfl⟩
      ·cbv;refine n_br hE h (fun hc h => ?_) (fun hc h => ?_)
       ·cbv;have h := ret_some h;subst h;exact ⟨_, ⟨rfl, rfl, hO⟩, .e rfl (.e rfl (.e rfl (.b rfl (.e rfl (.e rfl (.e rfl (.e rfl (.e rfl (.z))))))))), rfl⟩
       ·cbv;have h := ret_some h;subst h;exact ⟨_, ⟨rfl, rfl, hO⟩, .e rfl (.e rfl (.e rfl (.b rfl (.e rfl (.e rfl (.e rfl (.e rfl (.e rfl (.z))))))))), rfl⟩
     ·clear hx;rintro e l H ⟨rfl, rfl, hO⟩;cbv;refine n_br hE h (fun hc h => ?_) (fun hc h => ?_)
      ·cbv;refine n_br hE h (fun hc h => ?_) (fun hc h => ?_)
       ·cbv;have h := ret_some h;subst h;exact ⟨_, _, rfl, ⟨rfl, rfl, hO⟩, .e rfl (.z), rfl⟩
       ·cbv;have h := ret_some h;subst h;exact ⟨_, rfl, .e rfl (.e rfl (.e rfl (.e rfl (.e rfl (.z))))), rfl, hO⟩
      ·cbv;refine n_br hE h (fun hc h => ?_) (fun hc h => ?_)
       ·cbv;refine n_idx hE (fun _ => rfl) h fun x6 h => ?_;cbv;refine n_br hE h (fun hc h => ?_) (fun hc h => ?_)
        ·cbv;have h := ret_some h;subst h;exact ⟨_, _, rfl, ⟨rfl, rfl, hO⟩, .e rfl (.z), rfl⟩
        ·cbv;have h := ret_some h;subst h;exact ⟨_, rfl, .e rfl (.e rfl (.e rfl (.e rfl (.e rfl (.z))))), rfl, hO⟩
       ·cbv;have h := ret_some h;subst h;exact ⟨_, rfl, .e rfl (.e rfl (.e rfl (.e rfl (.e rfl (.z))))), rfl, hO⟩
  ·cbv;have h := ret_some h;subst h;exact ⟨_, _, rfl, ⟨rfl, rfl, hO⟩, .z, rfl⟩
 ·exact .e rfl (.e rfl (.e rfl (.e rfl (.e rfl (.z)))))
 ·clear hx
  rcases s2 with y7 | y8
  ·rintro e l H ⟨rfl, rfl, hO⟩;cbv;have h := ret_some h;subst h;exact hK _ _ _ hO (.refl _)
  ·rintro e l H ⟨rfl, rfl, hO⟩;cbv;have h := ret_some h;subst h;exact hK _ _ _ hO (.refl _)
def cf49 : Cf := ⟨[], [], [], [], [], []⟩
theorem c49 (N : Nat) : ∀ (n : Nat) (x_t : Gexpr_typer) (x_e : GExpr) (r : (Int × Int)), expr_typer_kind N n x_t x_e = some r → CallP Tryz.prog 49 [.agg [.sl (Ar.lst Encs.eGSchema x_t.types) .ro, .sl (Ar.lst Encs.eGVariable x_t.vars) .ro], .agg [.int .i64 x_e.Op, .sl (Ar.lst Encs.eGExpr x_e.Args) .ro, .int .i64 x_e.Var, .int .i64 x_e.Field, .int .i64 x_e.Kind, .int .i64 x_e.Value.Kind, .int .i64 x_e.Value.Num, .str x_e.Value.Text]] (.tup [.int .i64 r.1, .int .i64 r.2]) := by
 intro n
 induction n with
 | zero => intro x_t x_e r h; cases h
 | succ n ih =>
 intro x_t x_e r h
 unfold expr_typer_kind at h
 refine callP_of_spec cf49 okP Tryz.func49 (by rfl) (by kernel_rfl) Tryz.call49 Tryz.ntmps49 (by rfl) (by rfl) ?_;intro E H0 K hE hK
 have hO : Own Eq H0 [] H0 := .start stable_eq rfl
 cbv;refine n_ln hE ?_;cbv;refine n_br hE h (fun hc h => ?_) (fun hc h => ?_)
 ·cbv;refine n_call hE (g := fun r1 => .tup [.int .i64 r1.1, .int .i64 r1.2]) h (fun r1 hx => c84 N x_t x_e r1 hx) (.refl _) fun r1 h => ?_;cbv;have h := ret_some h;subst h;exact hK _ _ _ hO (.refl _)
 ·cbv;refine n_ln hE ?_;cbv;replace hO := hO.tl0 (t := .nil) rfl;obtain ⟨s4, hx, h⟩ := bind_some h;refine n_loopG cf49 hE okP (γ := Tail) (fun s2 g => [(2, .v (.eref [.sl (Ar.lst Encs.eGSchema x_t.types) .ro, .sl (Ar.lst Encs.eGVariable x_t.vars) .ro] 0)), (3, .v (.eref [.int .i64 x_e.Op, .sl (Ar.lst Encs.eGExpr x_e.Args) .ro, .int .i64 x_e.Var, .int .i64 x_e.Field, .int .i64 x_e.Kind, .int .i64 x_e.Value.Kind, .int .i64 x_e.Value.Num, .str x_e.Value.Text] 0)), (6, .v (.sl (Ar.lst (V.int .i64) s2.1) g)), (22, .v (.sl (Ar.lst Encs.eGExpr x_e.Args) .ro)), (23, .v (.int .i64 (Ar.len x_e.Args))), (24, .v (.int .i64 s2.2))]) (fun s2 g H1 => Appn g ∧ Own Eq H0 [.tl g] H1) (fun x e l H1 => match (generalizing := false) x with | .inl y => ∃ u1 : Tail, Appn u1 ∧ e = .exit 0 ∧ l = [(3, .v (.eref [.int .i64 x_e.Op, .sl (Ar.lst Encs.eGExpr x_e.Args) .ro, .int .i64 x_e.Var, .int .i64 x_e.Field, .int .i64 x_e.Kind, .int .i64 x_e.Value.Kind, .int .i64 x_e.Value.Num, .str x_e.Value.Text] 0)), (6, .v (.sl (Ar.lst (V.int .i64) y) u1))] ∧ Own Eq H0 [.tl u1] H1 | .inr y => ∃ u1 : Tail, Appn u1 ∧ e = .ret ∧ l = [(4, .v (.int .i64 0)), (5, .v (.int .i64 y))] ∧ Own Eq H0 [.tl u1] H1) (by kernel_rfl) ?_ .nil hx ?_ ?_ ?_
  ·rintro s2 t3 H o ⟨ht3, hO⟩ h;clear hx;cbv;refine n_br hE h (fun hc h => ?_) (fun hc h => ?_)
   ·cbv;refine n_idx hE Encs.eGExpr_eq h fun x5 h => ?_;cbv;refine n_call hE (g := fun r6 => .tup [.int .i64 r6.1, .int .i64 r6.2]) h (fun r6 hx => ih x_t x5 r6 hx) (.refl _) fun r6 h => ?_;cbv;refine n_br hE h (fun hc h => ?_) (fun hc h => ?_)
    ·cbv;have h := ret_some h;subst h;exact ⟨_, _, rfl, ⟨t3, ht3, rfl, rfl, hO⟩, .e rfl (.e rfl (.z)), rfl⟩
    ·cbv;refine n_appn (f := (V.int .i64)) hE (fun _ => rfl) (by decide) hO 0 rfl ht3 (l := s2.1) (m := [r6.1]) (.refl _) (.lstc (.refl _) (.lst0)) h fun l8 t7 H hO ht7 h => ?_;cbv;have h := ret_some h;subst h;exact ⟨_, t7, rfl, .e rfl (.e rfl (.e rfl (.e rfl (.e rfl (.e rfl (.z)))))), rfl, ht7, hO⟩
   ·cbv;have h := ret_some h;subst h;exact ⟨_, _, rfl, ⟨t3, ht3, rfl, rfl, hO⟩, .e rfl (.e rfl (.z)), rfl⟩
  ·exact .e rfl (.e rfl (.v (.slt _ (.lst0)) (.e rfl (.e rfl (.e rfl (.z))))))
  ·exact ⟨trivial, hO⟩
  ·clear hx
   rcases s4 with y9 | y12
   ·rintro e l H ⟨t10, ht10, rfl, rfl, hO⟩;cbv;refine n_call hE (g := fun r11 => .int .i64 r11) h (fun r11 hx => c85 N x_e.Op y9 r11 hx) (.cons (.refl _) (.cons (.ro _ _) (.refl _))) fun r11 h => ?_;cbv;refine n_br hE h (fun hc h => ?_) (fun hc h => ?_)
    ·cbv;have h := ret_some h;subst h;exact hK _ _ _ hO (.refl _)
    ·cbv;refine n_br hE h (fun hc h => ?_) (fun hc h => ?_)
     ·cbv;have h := ret_some h;subst h;exact hK _ _ _ hO (.refl _)
     ·cbv;have h := ret_some h;subst h;exact hK _ _ _ hO (.refl _)
   ·rintro e l H ⟨t13, ht13, rfl, rfl, hO⟩;cbv;have h := ret_some h;subst h;exact hK _ _ _ hO (.refl _)
def cf24 : Cf := ⟨[], [], [], [], [], []⟩
theorem c24 (N : Nat) (x_types : List GSchema) (x_vars : List GVariable) (x_e : GExpr) (r : (Int × Int)) (h : expr_Kind N x_types x_vars x_e = some r) : CallP Tryz.prog 24 [.sl (Ar.lst Encs.eGSchema x_types) .ro, .sl (Ar.lst Encs.eGVariable x_vars) .ro, .agg [.int .i64 x_e.Op, .sl (Ar.lst Encs.eGExpr x_e.Args) .ro, .int .i64 x_e.Var, .int .i64 x_e.Field, .int .i64 x_e.Kind, .int .i64 x_e.Value.Kind, .int .i64 x_e.Value.Num, .str x_e.Value.Text]] (.tup [.int .i64 r.1, .int .i64 r.2]) := by
 unfold expr_Kind at h
 refine callP_of_spec cf24 okP Tryz.func24 (by rfl) (by kernel_rfl) Tryz.call24 Tryz.ntmps24 (by rfl) (by rfl) ?_;intro E H0 K hE hK
 have hO : Own Eq H0 [] H0 := .start stable_eq rfl
 cbv;refine n_call hE (g := fun r1 => .int .i64 r1) h (fun r1 hx => c23 N x_types r1 hx) (.refl _) fun r1 h => ?_;cbv;refine n_br hE h (fun hc h => ?_) (fun hc h => ?_)
 ·cbv;have h := ret_some h;subst h;exact hK _ _ _ hO (.refl _)
 ·cbv;refine n_ln hE ?_;cbv;refine n_br hE h (fun hc h => ?_) (fun hc h => ?_)
  ·cbv;have h := ret_some h;subst h;exact hK _ _ _ hO (.refl _)
  ·cbv;refine n_ln hE ?_;cbv;obtain ⟨s3, hx, h⟩ := bind_some h;refine n_loopN cf24 hE okP (fun s2 => [(0, .v (.sl (Ar.lst Encs.eGSchema x_types) .ro)), (1, .v (.sl (Ar.lst Encs.eGVariable x_vars) .ro)), (5, .v (.eref [.int .i64 x_e.Op, .sl (Ar.lst Encs.eGExpr x_e.Args) .ro, .int .i64 x_e.Var, .int .i64 x_e.Field, .int .i64 x_e.Kind, .int .i64 x_e.Value.Kind, .int .i64 x_e.Value.Num, .str x_e.Value.Text] 0)), (20, .v (.sl (Ar.lst Encs.eGVariable x_vars) .ro)), (21, .v (.int .i64 (Ar.len x_vars))), (22, .v (.int .i64 s2))]) (fun s2 H1 => Own Eq H0 [] H1) (fun x e l H1 => match (generalizing := false) x with | .inl y => e = .exit 0 ∧ l = [(0, .v (.sl (Ar.lst Encs.eGSchema x_types) .ro)), (1, .v (.sl (Ar.lst Encs.eGVariable x_vars) .ro)), (5, .v (.eref [.int .i64 x_e.Op, .sl (Ar.lst Encs.eGExpr x_e.Args) .ro, .int .i64 x_e.Var, .int .i64 x_e.Field, .int .i64 x_e.Kind, .int .i64 x_e.Value.Kind, .int .i64 x_e.Value.Num, .str x_e.Value.Text] 0))] ∧ Own Eq H0 [] H1 | .inr y => e = .ret ∧ l = [(6, .v (.int .i64 0)), (7, .v (.int .i64 6))] ∧ Own Eq H0 [] H1) (by kernel_rfl) ?_ hx ?_ hO ?_
   ·intro s2 H o hO h;clear hx;cbv;refine n_br hE h (fun hc h => ?_) (fun hc h => ?_)
    ·cbv;refine n_idx hE Encs.eGVariable_eq h fun x4 h => ?_;cbv;refine n_ln hE ?_;cbv;refine n_br hE h (fun hc h => ?_) (fun hc h => ?_)
     ·cbv;have h := ret_some h;subst h;exact ⟨_, _, rfl, ⟨rfl, rfl, hO⟩, .e rfl (.e rfl (.z)), rfl⟩
     ·cbv;have h := ret_some h;subst h;exact ⟨_, rfl, .e rfl (.e rfl (.e rfl (.e rfl (.e rfl (.e rfl (.z)))))), rfl, hO⟩
    ·cbv;have h := ret_some h;subst h;exact ⟨_, _, rfl, ⟨rfl, rfl, hO⟩, .e rfl (.e rfl (.e rfl (.z))), rfl⟩
   ·exact .e rfl (.e rfl (.e rfl (.e rfl (.e rfl (.e rfl (.z))))))
   ·clear hx
    rcases s3 with y5 | y8
    ·rintro e l H ⟨rfl, rfl, hO⟩;cbv;refine n_call hE (g := fun r6 => .int .i64 r6) h (fun r6 hx => c48 N x_e r6 hx) (.refl _) fun r6 h => ?_;cbv;refine n_br hE h (fun hc h => ?_) (fun hc h => ?_)
     ·cbv;have h := ret_some h;subst h;exact hK _ _ _ hO (.refl _)
     ·cbv;refine n_call hE (g := fun r7 => .tup [.int .i64 r7.1, .int .i64 r7.2]) h (fun r7 hx => c49 N N (⟨x_types, x_vars⟩ : Gexpr_typer) x_e r7 hx) (.refl _) fun r7 h => ?_;cbv;have h := ret_some h;subst h;exact hK _ _ _ hO (.refl _)
    ·rintro e l H ⟨rfl, rfl, hO⟩;cbv;have h := ret_some h;subst h;exact hK _ _ _ hO (.refl _)
def cf87 : Cf := ⟨[], [], [], [], [], []⟩
theorem c87 (N : Nat) (x_x : Int) (x_y : Int) (r : (Int × Int)) (h : bits_Mul64 N x_x x_y = some r) : CallP Tryz.prog 87 [.int .u64 x_x, .int .u64 x_y] (.tup [.int .u64 r.1, .int .u64 r.2]) := by
 unfold bits_Mul64 at h
 refine callP_of_spec cf87 okP Tryz.func87 (by rfl) (by kernel_rfl) Tryz.call87 Tryz.ntmps87 (by rfl) (by rfl) ?_;intro E H0 K hE hK
 have hO : Own Eq H0 [] H0 := .start stable_eq rfl
 cbv;refine n_needT hE (cmp_true hE rfl) ?_;cbv;refine n_needT hE (cmp_true hE rfl) ?_;cbv;refine n_needT hE (cmp_true hE rfl) ?_;cbv;refine n_needT hE (cmp_true hE rfl) ?_;cbv;refine n_needT hE (cmp_true hE rfl) ?_;cbv;have h := ret_some h;subst h;exact hK _ _ _ hO (.refl _)
def cf50 : Cf := ⟨[], [], [], [], [], []⟩
theorem c50 (N : Nat) (x_x : Int) (x_y : Int) (r : (Int × Int)) (h : bits_Mul N x_x x_y = some r) : CallP Tryz.prog 50 [.int .u64 x_x, .int .u64 x_y] (.tup [.int .u64 r.1, .int .u64 r.2]) := by
 unfold bits_Mul at h
 refine callP_of_spec cf50 okP Tryz.func50 (by rfl) (by kernel_rfl) Tryz.call50 Tryz.ntmps50 (by rfl) (by rfl) ?_;intro E H0 K hE hK
 have hO : Own Eq H0 [] H0 := .start stable_eq rfl
 cbv;refine n_call hE (g := fun r1 => .tup [.int .u64 r1.1, .int .u64 r1.2]) h (fun r1 hx => c87 N x_x x_y r1 hx) (.refl _) fun r1 h => ?_;cbv;have h := ret_some h;subst h;exact hK _ _ _ hO (.refl _)
def cf25 : Cf := ⟨[], [(9, 7), (1000009, 0)], [(10, 3), (26, 6)], [], [], []⟩
theorem c25 (N : Nat) (x_x : List GVariable) (x_count : Int) (r : (List GVariable)) (h : slices_Repeat_LVariable_Variable N x_x x_count = some r) : CallP Tryz.prog 25 [.sl (Ar.lst Encs.eGVariable x_x) .ro, .int .i64 x_count] (.sl (Ar.lst Encs.eGVariable r) .ro) := by
 unfold slices_Repeat_LVariable_Variable at h
 refine callP_of_specF (T := TT) cf25 okP Tryz.func25 (by rfl) (by kernel_rfl) Tryz.call25 Tryz.ntmps25 (by rfl) (by rfl) ?_;intro E H0 K hE hK hF
 have hO : Own Eq H0 [] H0 := .start stable_eq rfl
 cbv;obtain ⟨s1, hx, h⟩ := bind_some h;refine n_join cf25 hE okP (fun e l H1 => e = .normal ∧ l = [(0, .v (.sl (Ar.lst Encs.eGVariable x_x) .ro)), (1, .v (.int .i64 x_count))] ∧ Own Eq H0 [] H1) (by kernel_rfl) ?_ ?_
 ·clear h;have h := hx;clear hx;cbv;refine n_br hE h (fun hc h => ?_) (fun hc h => ?_)
  ·cbv
   cases h
  ·cbv;have h := ret_some h;subst h;exact ⟨_, ⟨rfl, rfl, hO⟩, .e rfl (.e rfl (.z)), rfl⟩
 ·clear hx;rintro e l H ⟨rfl, rfl, hO⟩;cbv;refine n_ln hE ?_;cbv;refine n_call hE (g := fun r2 => .tup [.int .u64 r2.1, .int .u64 r2.2]) h (fun r2 hx => c50 N (Ar.wr .u64 (Ar.len x_x)) (Ar.wr .u64 x_count) r2 hx) (.refl _) fun r2 h => ?_;cbv;obtain ⟨s3, hx, h⟩ := bind_some h;refine n_join cf25 hE okP (fun e l H1 => e = .normal ∧ l = [(0, .v (.sl (Ar.lst Encs.eGVariable x_x) .ro)), (6, .v (.int .u64 r2.2))] ∧ Own Eq H0 [] H1) (by kernel_rfl) ?_ ?_
  ·clear h;have h := hx;clear hx;cbv;refine n_br hE h (fun hc h => ?_) (fun hc h => ?_)
   ·cbv
    cases h
   ·cbv;have h := ret_some h;subst h;exact ⟨_, ⟨rfl, rfl, hO⟩, .e rfl (.e rfl (.z)), rfl⟩
  ·clear hx;rintro e l H ⟨rfl, rfl, hO⟩;cbv;refine n_omk hE (f := Encs.eGVariable) (by decide) (z0 := ((⟨⟨#[]⟩, 0⟩ : GVariable) : GVariable)) ((.eq (Encs.eGVariable_eq _) (.refl _))) hO h fun l5 q4 H hq4 h hO => ?_;cbv;refine n_ocopy (f := Encs.eGVariable) hE hO hq4 0 rfl (m := x_x) (src_sl (f := Encs.eGVariable) hE sz_GVariable (.refl _)) h fun p6 H hq4 hO h => ?_;cbv;obtain ⟨s9, hx, h⟩ := bind_some h;refine n_loopG cf25 hE okP (γ := OG) (fun s7 g => [(7, .v (.own g.id g.lo g.n)), (8, .v (.int .i64 s7.1))]) (fun s7 g H1 => Okn g (Ar.len s7.2) ∧ Own Eq H0 [.blk g.id (.arr 2 (g.pre ++ Ar.lst Encs.eGVariable s7.2 ++ g.rest))] H1) (fun x e l H1 => ∃ u1 : OG, Okn u1 (Ar.len x) ∧ e = .exit 0 ∧ l = [(7, .v (.own u1.id u1.lo u1.n))] ∧ Own Eq H0 [.blk u1.id (.arr 2 (u1.pre ++ Ar.lst Encs.eGVariable x ++ u1.rest))] H1) (by kernel_rfl) ?_ q4 hx ?_ ?_ ?_
   ·rintro s7 q8 H o ⟨hq8, hO⟩ h;clear hx;cbv;refine n_olen hE hq8 ?_;cbv;refine n_br hE h (fun hc h => ?_) (fun hc h => ?_)
    ·cbv;refine n_osliceD hE hO hq8 0 rfl h fun l11 q10 hq10 h => ?_;cbv;refine n_osliceK hE hO hq8 0 rfl h fun l13 q12 hq12 h => ?_;cbv;refine n_ocopyD (f := Encs.eGVariable) hE hO hq8 0 rfl hq10 (m := l13) (hq12) h fun p14 H hq8 hO h => ?_;cbv;have h := ret_some h;subst h;exact ⟨_, q8, rfl, .e rfl (.e rfl (.z)), rfl, hq8, hO⟩
    ·cbv;have h := ret_some h;subst h;exact ⟨_, _, rfl, ⟨q8, hq8, rfl, rfl, hO⟩, .e rfl (.z), rfl⟩
   ·exact .e rfl (.e rfl (.z))
   ·exact ⟨hq4, hO⟩
   ·clear hx;rintro e l H ⟨q15, hq15, rfl, rfl, hO⟩;cbv;have h := ret_some h;subst h;exact hF q15 _ _ 0 _ _ hO rfl (okn_lst hE hq15) (.refl _)
def cf51 : Cf := ⟨[], [], [], [], [], []⟩
theorem c51 (N : Nat) (r : (List GInterval)) (h : predicate_whole N  = some r) : CallP Tryz.prog 51 [] (.sl (Ar.lst Encs.eGInterval r) .ro) := by
 unfold predicate_whole at h
 refine callP_of_spec cf51 okP Tryz.func51 (by rfl) (by kernel_rfl) Tryz.call51 Tryz.ntmps51 (by rfl) (by rfl) ?_;intro E H0 K hE hK
 have hO : Own Eq H0 [] H0 := .start stable_eq rfl
 cbv;have h := ret_some h;subst h;exact hK _ _ _ hO (.lit _ (lst_cons ((Encs.eGInterval_eq (⟨(-1099511627776), 1099511627776⟩ : GInterval)).symm) (lst_nil)))
def cf52 : Cf := ⟨[6, 10], [(3, 9), (5, 12)], [(37, 8), (62, 12)], [], [], [(3, 6, [6]), (5, 6, [6])]⟩
theorem c52 (N : Nat) : ∀ (n : Nat) (x_e : GExpr) (x_field : Int) (x_own : Int) (r : (Gpredicate_line × Bool)), predicate_linear N n x_e x_field x_own = some r → CallP Tryz.prog 52 [.agg [.int .i64 x_e.Op, .sl (Ar.lst Encs.eGExpr x_e.Args) .ro, .int .i64 x_e.Var, .int .i64 x_e.Field, .int .i64 x_e.Kind, .int .i64 x_e.Value.Kind, .int .i64 x_e.Value.Num, .str x_e.Value.Text], .int .i64 x_field, .int .i64 x_own] (.tup [.agg [.int .i64 r.1.times, .int .i64 r.1.plus], .bool r.2]) := by
 intro n
 induction n with
 | zero => intro x_e x_field x_own r h; cases h
 | succ n ih =>
 intro x_e x_field x_own r h
 unfold predicate_linear at h
 refine callP_of_spec cf52 okP Tryz.func52 (by rfl) (by kernel_rfl) Tryz.call52 Tryz.ntmps52 (by rfl) (by rfl) ?_;intro E H0 K hE hK
 have hO : Own Eq H0 [] H0 := .start stable_eq rfl
 cbv;refine n_alloc hE hO fun b1 H hO => ?_;cbv;refine n_br hE h (fun hc h => ?_) (fun hc h => ?_)
 ·cbv;refine n_take hE hO 0 rfl fun H1 hT hW => ?_;cbv;refine n_need hE trivial ?_;cbv;refine n_give hE hO 0 rfl hT fun H hO => ?_;cbv;refine n_load hE hO 0 rfl ?_;cbv;have h := ret_some h;subst h;exact hK _ _ _ hO (.refl _)
 ·cbv;refine n_br hE h (fun hc h => ?_) (fun hc h => ?_)
  ·cbv;refine n_take hE hO 0 rfl fun H1 hT hW => ?_;cbv;refine n_need hE trivial ?_;cbv;refine n_give hE hO 0 rfl hT fun H hO => ?_;cbv;refine n_load hE hO 0 rfl ?_;cbv;have h := ret_some h;subst h;exact hK _ _ _ hO (.refl _)
  ·cbv;obtain ⟨s2, hx, h⟩ := bind_some h;refine n_join cf52 hE okP (fun e l H1 => e = .normal ∧ l = [(1, .v (.int .i64 x_field)), (2, .v (.int .i64 x_own)), (3, .v (.eref [.int .i64 x_e.Op, .sl (Ar.lst Encs.eGExpr x_e.Args) .ro, .int .i64 x_e.Var, .int .i64 x_e.Field, .int .i64 x_e.Kind, .int .i64 x_e.Value.Kind, .int .i64 x_e.Value.Num, .str x_e.Value.Text] 0)), (6, .v (.ref b1 0)), (37, .v (.bool s2))] ∧ Own Eq H0 [.blk b1 (.cells [.int .i64 0, .int .i64 0])] H1) (by kernel_rfl) ?_ ?_
   ·clear h;have h := hx;clear hx;cbv;refine n_br hE h (fun hc h => ?_) (fun hc h => ?_)
    ·cbv;have h := ret_some h;subst h;exact ⟨_, ⟨rfl, rfl, hO⟩, .e rfl (.e rfl (.e rfl (.e rfl (.e rfl (.z))))), rfl⟩
    ·cbv;have h := ret_some h;subst h;exact ⟨_, ⟨rfl, rfl, hO⟩, .e rfl (.e rfl (.e rfl (.e rfl (.e rfl (.z))))), rfl⟩
   ·clear hx;rintro e l H ⟨rfl, rfl, hO⟩;cbv;refine n_br hE h (fun hc h => ?_) (fun hc h => ?_)
    ·cbv;refine n_idx hE Encs.eGExpr_eq h fun x3 h => ?_;cbv;refine n_call hE (g := fun r4 => .tup [.agg [.int .i64 r4.1.times, .int .i64 r4.1.plus], .bool r4.2]) h (fun r4 hx => ih x3 x_field x_own r4 hx) (.refl _) fun r4 h => ?_;cbv;refine n_idx hE Encs.eGExpr_eq h fun x5 h => ?_;cbv;refine n_call hE (g := fun r6 => .tup [.agg [.int .i64 r6.1.times, .int .i64 r6.1.plus], .bool r6.2]) h (fun r6 hx => ih x5 x_field x_own r6 hx) (.refl _) fun r6 h => ?_;cbv;refine n_alloc hE hO fun b7 H hO => ?_;cbv;refine n_store hE hO 0 rfl rfl fun H hO => ?_;cbv;obtain ⟨s8, hx, h⟩ := bind_some h;refine n_join cf52 hE okP (fun e l H1 => e = .normal ∧ l = [(6, .v (.ref b1 0)), (8, .v (.eref [.int .i64 r4.1.times, .int .i64 r4.1.plus] 0)), (9, .v (.bool r4.2)), (10, .v (.ref b7 0)), (11, .v (.bool r6.2))] ∧ Own Eq H0 [.blk b7 (.cells [.int .i64 s8.times, .int .i64 s8.plus]), .blk b1 (.cells [.int .i64 0, .int .i64 0])] H1) (by kernel_rfl) ?_ ?_
     ·clear h;have h := hx;clear hx;cbv;refine n_br hE h (fun hc h => ?_) (fun hc h => ?_)
      ·cbv;refine n_load hE hO 0 rfl ?_;cbv;refine n_load hE hO 0 rfl ?_;cbv;refine n_store hE hO 0 rfl rfl fun H hO => ?_;cbv;have h := ret_some h;subst h;exact ⟨_, ⟨rfl, rfl, hO⟩, .e rfl (.e rfl (.e rfl (.e rfl (.e rfl (.z))))), rfl⟩
      ·cbv;have h := ret_some h;subst h;exact ⟨_, ⟨rfl, rfl, hO⟩, .e rfl (.e rfl (.e rfl (.e rfl (.e rfl (.z))))), rfl⟩
     ·clear hx;rintro e l H ⟨rfl, rfl, hO⟩;cbv;refine n_load hE hO 0 rfl ?_;cbv;refine n_load hE hO 0 rfl ?_;cbv;refine n_store hE hO 1 rfl rfl fun H hO => ?_;cbv;refine n_load hE hO 1 rfl ?_;cbv;have h := ret_some h;subst h;exact hK _ _ _ hO (.refl _)
    ·cbv;refine n_store hE hO 0 rfl rfl fun H hO => ?_;cbv;refine n_load hE hO 0 rfl ?_;cbv;have h := ret_some h;subst h;exact hK _ _ _ hO (.refl _)
def cf93 : Cf := ⟨[], [], [], [], [], []⟩
theorem c93 (N : Nat) (x_l : List GInterval) (r : ((List GInterval) × Int)) (h : interval_limited N x_l = some r) : CallP Tryz.prog 93 [.sl (Ar.lst Encs.eGInterval x_l) .ro] (.tup [.sl (Ar.lst Encs.eGInterval r.1) .ro, .int .i64 r.2]) := by
 unfold interval_limited at h
 refine callP_of_spec cf93 okP Tryz.func93 (by rfl) (by kernel_rfl) Tryz.call93 Tryz.ntmps93 (by rfl) (by rfl) ?_;intro E H0 K hE hK
 have hO : Own Eq H0 [] H0 := .start stable_eq rfl
 cbv;refine n_ln hE ?_;cbv;refine n_br hE h (fun hc h => ?_) (fun hc h => ?_)
 ·cbv;have h := ret_some h;subst h;exact hK _ _ _ hO (.tup (.cons (.lit _ (lst_nil)) (.refl _)))
 ·cbv;have h := ret_some h;subst h;exact hK _ _ _ hO (.refl _)
def cf107 : Cf := ⟨[], [], [], [], [], []⟩
theorem c107 (N : Nat) (x_x : GInterval) (r : Int) (h : interval_formed N x_x = some r) : CallP Tryz.prog 107 [.agg [.int .i64 x_x.Low, .int .i64 x_x.High]] (.int .i64 r) := by
 unfold interval_formed at h
 refine callP_of_spec cf107 okP Tryz.func107 (by rfl) (by kernel_rfl) Tryz.call107 Tryz.ntmps107 (by rfl) (by rfl) ?_;intro E H0 K hE hK
 have hO : Own Eq H0 [] H0 := .start stable_eq rfl
 cbv;refine n_br hE h (fun hc h => ?_) (fun hc h => ?_)
 ·cbv;have h := ret_some h;subst h;exact hK _ _ _ hO (.refl _)
 ·cbv;refine n_br hE h (fun hc h => ?_) (fun hc h => ?_)
  ·cbv;have h := ret_some h;subst h;exact hK _ _ _ hO (.refl _)
  ·cbv;have h := ret_some h;subst h;exact hK _ _ _ hO (.refl _)
def cf71 : Cf := ⟨[4], [(9, 12)], [], [], [], []⟩
theorem c71 (N : Nat) (x_l : List GInterval) (r : Int) (h : interval_Check N x_l = some r) : CallP Tryz.prog 71 [.sl (Ar.lst Encs.eGInterval x_l) .ro] (.int .i64 r) := by
 unfold interval_Check at h
 refine callP_of_spec cf71 okP Tryz.func71 (by rfl) (by kernel_rfl) Tryz.call71 Tryz.ntmps71 (by rfl) (by rfl) ?_;intro E H0 K hE hK
 have hO : Own Eq H0 [] H0 := .start stable_eq rfl
 cbv;refine n_ln hE ?_;cbv;refine n_br hE h (fun hc h => ?_) (fun hc h => ?_)
 ·cbv;have h := ret_some h;subst h;exact hK _ _ _ hO (.refl _)
 ·cbv;refine n_ln hE ?_;cbv;obtain ⟨s2, hx, h⟩ := bind_some h;refine n_loopN cf71 hE okP (fun s1 => [(0, .v (.sl (Ar.lst Encs.eGInterval x_l) .ro)), (9, .v (.sl (Ar.lst Encs.eGInterval x_l) .ro)), (10, .v (.int .i64 (Ar.len x_l))), (11, .v (.int .i64 s1))]) (fun s1 H1 => Own Eq H0 [] H1) (fun x e l H1 => match (generalizing := false) x with | .inl y => e = .exit 0 ∧ l = [] ∧ Own Eq H0 [] H1 | .inr y => e = .ret ∧ l = [(2, .v (.int .i64 y))] ∧ Own Eq H0 [] H1) (by kernel_rfl) ?_ hx ?_ hO ?_
  ·intro s1 H o hO h;clear hx;cbv;refine n_br hE h (fun hc h => ?_) (fun hc h => ?_)
   ·cbv;refine n_idx hE Encs.eGInterval_eq h fun x3 h => ?_;cbv;refine n_alloc hE hO fun b4 H hO => ?_;cbv;refine n_store hE hO 0 rfl rfl fun H hO => ?_;cbv;refine n_load hE hO 0 rfl ?_;cbv;refine n_call hE (g := fun r5 => .int .i64 r5) h (fun r5 hx => c107 N x3 r5 hx) (.refl _) fun r5 h => ?_;cbv;refine n_br hE h (fun hc h => ?_) (fun hc h => ?_)
    ·cbv;have h := ret_some h;subst h;exact ⟨_, _, rfl, ⟨rfl, rfl, hO.tail⟩, .e rfl (.z), rfl⟩
    ·cbv;refine n_load hE hO 0 rfl ?_;cbv;refine n_br hE h (fun hc h => ?_) (fun hc h => ?_)
     ·cbv;refine n_idx hE Encs.eGInterval_eq h fun x6 h => ?_;cbv;refine n_br hE h (fun hc h => ?_) (fun hc h => ?_)
      ·cbv;have h := ret_some h;subst h;exact ⟨_, _, rfl, ⟨rfl, rfl, hO.tail⟩, .e rfl (.z), rfl⟩
      ·cbv;have h := ret_some h;subst h;exact ⟨_, rfl, .e rfl (.e rfl (.e rfl (.e rfl (.z)))), rfl, hO.tail⟩
     ·cbv;have h := ret_some h;subst h;exact ⟨_, rfl, .e rfl (.e rfl (.e rfl (.e rfl (.z)))), rfl, hO.tail⟩
   ·cbv;have h := ret_some h;subst h;exact ⟨_, _, rfl, ⟨rfl, rfl, hO⟩, .z, rfl⟩
  ·exact .e rfl (.e rfl (.e rfl (.e rfl (.z))))
  ·clear hx
   rcases s2 with y7 | y8
   ·rintro e l H ⟨rfl, rfl, hO⟩;cbv;have h := ret_some h;subst h;exact hK _ _ _ hO (.refl _)
   ·rintro e l H ⟨rfl, rfl, hO⟩;cbv;have h := ret_some h;subst h;exact hK _ _ _ hO (.refl _)
def cf129 : Cf := ⟨[], [], [], [], [], []⟩
theorem c129 (N : Nat) (x_a : List GInterval) (x_b : List GInterval) (r : Int) (h : interval_both N x_a x_b = some r) : CallP Tryz.prog 129 [.sl (Ar.lst Encs.eGInterval x_a) .ro, .sl (Ar.lst Encs.eGInterval x_b) .ro] (.int .i64 r) := by
 unfold interval_both at h
 refine callP_of_spec cf129 okP Tryz.func129 (by rfl) (by kernel_rfl) Tryz.call129 Tryz.ntmps129 (by rfl) (by rfl) ?_;intro E H0 K hE hK
 have hO : Own Eq H0 [] H0 := .start stable_eq rfl
 cbv;refine n_call hE (g := fun r1 => .int .i64 r1) h (fun r1 hx => c71 N x_a r1 hx) (.refl _) fun r1 h => ?_;cbv;refine n_br hE h (fun hc h => ?_) (fun hc h => ?_)
 ·cbv;have h := ret_some h;subst h;exact hK _ _ _ hO (.refl _)
 ·cbv;refine n_call hE (g := fun r2 => .int .i64 r2) h (fun r2 hx => c71 N x_b r2 hx) (.refl _) fun r2 h => ?_;cbv;have h := ret_some h;subst h;exact hK _ _ _ hO (.refl _)
def cf108 : Cf := ⟨[], [], [], [], [], []⟩
theorem c108 (N : Nat) (x_x : List GInterval) (x_target : Int) (v_cmp : V) (x_cmp : GInterval → Int → Option Int) (h_cmp : ∀ y1 y2 q, x_cmp y1 y2 = some q → CallVP Tryz.prog v_cmp [.agg [.int .i64 y1.Low, .int .i64 y1.High], .int .i64 y2] (.int .i64 q)) (r : (Int × Bool)) (h : slices_BinarySearchFunc_LInterval_Interval_int N x_x x_target x_cmp = some r) : CallP Tryz.prog 108 [.sl (Ar.lst Encs.eGInterval x_x) .ro, .int .i64 x_target, v_cmp] (.tup [.int .i64 r.1, .bool r.2]) := by
 unfold slices_BinarySearchFunc_LInterval_Interval_int at h
 refine callP_of_spec cf108 okP Tryz.func108 (by rfl) (by kernel_rfl) Tryz.call108 Tryz.ntmps108 (by rfl) (by rfl) ?_;intro E H0 K hE hK
 have hO : Own Eq H0 [] H0 := .start stable_eq rfl
 cbv;refine n_ln hE ?_;cbv;obtain ⟨s2, hx, h⟩ := bind_some h;refine n_loopN cf108 hE okP (fun s1 => [(0, .v (.sl (Ar.lst Encs.eGInterval x_x) .ro)), (1, .v (.int .i64 x_target)), (2, .v (v_cmp)), (8, .v (.int .i64 (Ar.len x_x))), (9, .v (.int .i64 s1.1)), (10, .v (.int .i64 s1.2))]) (fun s1 H1 => Own Eq H0 [] H1) (fun x e l H1 => e = .exit 0 ∧ l = [(0, .v (.sl (Ar.lst Encs.eGInterval x_x) .ro)), (1, .v (.int .i64 x_target)), (2, .v (v_cmp)), (8, .v (.int .i64 (Ar.len x_x))), (9, .v (.int .i64 x))] ∧ Own Eq H0 [] H1) (by kernel_rfl) ?_ hx ?_ hO ?_
 ·intro s1 H o hO h;clear hx;cbv;refine n_br hE h (fun hc h => ?_) (fun hc h => ?_)
  ·cbv;refine n_needT hE (cmp_true hE rfl) ?_;cbv;refine n_idx hE Encs.eGInterval_eq h fun x3 h => ?_;cbv;refine n_callF hE (g := fun r4 => .int .i64 r4) h (fun r4 hx => h_cmp x3 x_target r4 hx) (.refl _) fun r4 h => ?_;cbv;refine n_br hE h (fun hc h => ?_) (fun hc h => ?_)
   ·cbv;have h := ret_some h;subst h;exact ⟨_, rfl, .e rfl (.e rfl (.e rfl (.e rfl (.e rfl (.e rfl (.z)))))), rfl, hO⟩
   ·cbv;have h := ret_some h;subst h;exact ⟨_, rfl, .e rfl (.e rfl (.e rfl (.e rfl (.e rfl (.e rfl (.z)))))), rfl, hO⟩
  ·cbv;have h := ret_some h;subst h;exact ⟨_, _, rfl, ⟨rfl, rfl, hO⟩, .e rfl (.e rfl (.e rfl (.e rfl (.e rfl (.z))))), rfl⟩
 ·exact .e rfl (.e rfl (.e rfl (.e rfl (.e rfl (.e rfl (.z))))))
 ·clear hx;rintro e l H ⟨rfl, rfl, hO⟩;cbv;refine n_br hE h (fun hc h => ?_) (fun hc h => ?_)
  ·cbv;refine n_idx hE Encs.eGInterval_eq h fun x5 h => ?_;cbv;refine n_callF hE (g := fun r6 => .int .i64 r6) h (fun r6 hx => h_cmp x5 x_target r6 hx) (.refl _) fun r6 h => ?_;cbv;have h := ret_some h;subst h;exact hK _ _ _ hO (.refl _)
  ·cbv;have h := ret_some h;subst h;exact hK _ _ _ hO (.refl _)
def cf109 : Cf := ⟨[], [], [], [], [], []⟩
theorem c109 (N : Nat) (x_x : GInterval) (x_n : Int) (r : Int) (h : interval_has_1 N x_x x_n = some r) : CallP Tryz.prog 109 [.agg [.int .i64 x_x.Low, .int .i64 x_x.High], .int .i64 x_n] (.int .i64 r) := by
 unfold interval_has_1 at h
 refine callP_of_spec cf109 okP Tryz.func109 (by rfl) (by kernel_rfl) Tryz.call109 Tryz.ntmps109 (by rfl) (by rfl) ?_;intro E H0 K hE hK
 have hO : Own Eq H0 [] H0 := .start stable_eq rfl
 cbv;refine n_br hE h (fun hc h => ?_) (fun hc h => ?_)
 ·cbv;have h := ret_some h;subst h;exact hK _ _ _ hO (.refl _)
 ·cbv;refine n_br hE h (fun hc h => ?_) (fun hc h => ?_)
  ·cbv;have h := ret_some h;subst h;exact hK _ _ _ hO (.refl _)
  ·cbv;have h := ret_some h;subst h;exact hK _ _ _ hO (.refl _)
def cf72 : Cf := ⟨[], [], [], [], [], []⟩
theorem c72 (N : Nat) (x_l : List GInterval) (x_n : Int) (r : Bool) (h : interval_has N x_l x_n = some r) : CallP Tryz.prog 72 [.sl (Ar.lst Encs.eGInterval x_l) .ro, .int .i64 x_n] (.bool r) := by
 unfold interval_has at h
 refine callP_of_spec cf72 okP Tryz.func72 (by rfl) (by kernel_rfl) Tryz.call72 Tryz.ntmps72 (by rfl) (by rfl) ?_;intro E H0 K hE hK
 have hO : Own Eq H0 [] H0 := .start stable_eq rfl
 cbv;refine n_call hE (g := fun r1 => .tup [.int .i64 r1.1, .bool r1.2]) h (fun r1 hx => c108 N x_l x_n (.func (.func 109) [] []) (fun y1 y2 => interval_has_1 N y1 y2) (fun y1 y2 r hx => CallP.value (F := []) (C := []) (c109 N y1 y2 r hx)) r1 hx) (.refl _) fun r1 h => ?_;cbv;have h := ret_some h;subst h;exact hK _ _ _ hO (.refl _)
end Go.Ab

