/- GPCo5 -/
import Derived.Test.YtpapabjndpgcnaaGreatT33
set_option linter.all false

namespace Go.Ab
open Go.RowKit Go.Proofs
variable [Ar] [Encs]
set_option maxRecDepth 100000
def cf87 : Cf := ⟨[], [], [], [], [], []⟩
theorem c87 (N : Nat) : ∀ (n : Nat) (x_e : GExpr) (x_limit : Int) (r : Int), ref08_Count N n x_e x_limit = some r → CallP Tryz.prog 87 [.agg [.int .i64 x_e.Op, .sl (Ar.lst Encs.eGExpr x_e.Args) .ro, .int .i64 x_e.Var, .int .i64 x_e.Field, .int .i64 x_e.Kind, .int .i64 x_e.Value.Kind, .int .i64 x_e.Value.Num, .str x_e.Value.Text], .int .i64 x_limit] (.int .i64 r) := by
 intro n
 induction n with
 | zero => intro x_e x_limit r h; cases h
 | succ n ih =>
 intro x_e x_limit r h
 unfold ref08_Count at h
 refine callP_of_spec cf87 okP Tryz.func87 (by rfl) (by kernel_rfl) Tryz.call87 Tryz.ntmps87 (by rfl) (by rfl) ?_;intro E H0 K hE hK
 have hO : Own Eq H0 [] H0 := .start stable_eq rfl
 cbv;obtain ⟨s2, hx, h⟩ := bind_some h;refine n_loopN cf87 hE okP (fun s1 => [(1, .v (.int .i64 x_limit)), (2, .v (.eref [.int .i64 x_e.Op, .sl (Ar.lst Encs.eGExpr x_e.Args) .ro, .int .i64 x_e.Var, .int .i64 x_e.Field, .int .i64 x_e.Kind, .int .i64 x_e.Value.Kind, .int .i64 x_e.Value.Num, .str x_e.Value.Text] 0)), (5, .v (.int .i64 s1.1)), (6, .v (.int .i64 s1.2))]) (fun s1 H1 => Own Eq H0 [] H1) (fun x e l H1 => e = .exit 0 ∧ l = [(5, .v (.int .i64 x))] ∧ Own Eq H0 [] H1) (by kernel_rfl) ?_ hx ?_ hO ?_
 ·intro s1 H o hO h;clear hx;cbv;refine n_ln hE ?_;cbv;refine n_br hE h (fun hc h => ?_) (fun hc h => ?_)
  ·cbv;refine n_idx hE Encs.eGExpr_eq h fun x3 h => ?_;cbv;refine n_call hE (g := fun r4 => .int .i64 r4) h (fun r4 hx => ih x3 x_limit r4 hx) (.refl _) fun r4 h => ?_;cbv;have h := ret_some h;subst h;exact ⟨_, rfl, .e rfl (.e rfl (.e rfl (.e rfl (.z)))), rfl, hO⟩
  ·cbv;have h := ret_some h;subst h;exact ⟨_, _, rfl, ⟨rfl, rfl, hO⟩, .e rfl (.z), rfl⟩
 ·exact .e rfl (.e rfl (.e rfl (.e rfl (.z))))
 ·clear hx;rintro e l H ⟨rfl, rfl, hO⟩;cbv;have h := ret_some h;subst h;exact hK _ _ _ hO (.refl _)
def cf88 : Cf := ⟨[], [], [], [], [], []⟩
theorem c88 (N : Nat) : ∀ (n : Nat) (x_e : GExpr) (r : Int), ref08_Depth N n x_e = some r → CallP Tryz.prog 88 [.agg [.int .i64 x_e.Op, .sl (Ar.lst Encs.eGExpr x_e.Args) .ro, .int .i64 x_e.Var, .int .i64 x_e.Field, .int .i64 x_e.Kind, .int .i64 x_e.Value.Kind, .int .i64 x_e.Value.Num, .str x_e.Value.Text]] (.int .i64 r) := by
 intro n
 induction n with
 | zero => intro x_e r h; cases h
 | succ n ih =>
 intro x_e r h
 unfold ref08_Depth at h
 refine callP_of_spec cf88 okP Tryz.func88 (by rfl) (by kernel_rfl) Tryz.call88 Tryz.ntmps88 (by rfl) (by rfl) ?_;intro E H0 K hE hK
 have hO : Own Eq H0 [] H0 := .start stable_eq rfl
 cbv;obtain ⟨s2, hx, h⟩ := bind_some h;refine n_loopN cf88 hE okP (fun s1 => [(1, .v (.eref [.int .i64 x_e.Op, .sl (Ar.lst Encs.eGExpr x_e.Args) .ro, .int .i64 x_e.Var, .int .i64 x_e.Field, .int .i64 x_e.Kind, .int .i64 x_e.Value.Kind, .int .i64 x_e.Value.Num, .str x_e.Value.Text] 0)), (3, .v (.int .i64 s1.1)), (4, .v (.int .i64 s1.2))]) (fun s1 H1 => Own Eq H0 [] H1) (fun x e l H1 => e = .exit 0 ∧ l = [(3, .v (.int .i64 x))] ∧ Own Eq H0 [] H1) (by kernel_rfl) ?_ hx ?_ hO ?_
 ·intro s1 H o hO h;clear hx;cbv;refine n_ln hE ?_;cbv;refine n_br hE h (fun hc h => ?_) (fun hc h => ?_)
  ·cbv;refine n_idx hE Encs.eGExpr_eq h fun x3 h => ?_;cbv;refine n_call hE (g := fun r4 => .int .i64 r4) h (fun r4 hx => ih x3 r4 hx) (.refl _) fun r4 h => ?_;cbv;have h := ret_some h;subst h;exact ⟨_, rfl, .e rfl (.e rfl (.e rfl (.z))), rfl, hO⟩
  ·cbv;have h := ret_some h;subst h;exact ⟨_, _, rfl, ⟨rfl, rfl, hO⟩, .e rfl (.z), rfl⟩
 ·exact .e rfl (.e rfl (.e rfl (.z)))
 ·clear hx;rintro e l H ⟨rfl, rfl, hO⟩;cbv;have h := ret_some h;subst h;exact hK _ _ _ hO (.refl _)
def cf43 : Cf := ⟨[], [], [], [], [], []⟩
theorem c43 (N : Nat) (x_e : GExpr) (r : Bool) (h : ref08_Few N x_e = some r) : CallP Tryz.prog 43 [.agg [.int .i64 x_e.Op, .sl (Ar.lst Encs.eGExpr x_e.Args) .ro, .int .i64 x_e.Var, .int .i64 x_e.Field, .int .i64 x_e.Kind, .int .i64 x_e.Value.Kind, .int .i64 x_e.Value.Num, .str x_e.Value.Text]] (.bool r) := by
 unfold ref08_Few at h
 refine callP_of_spec cf43 okP Tryz.func43 (by rfl) (by kernel_rfl) Tryz.call43 Tryz.ntmps43 (by rfl) (by rfl) ?_;intro E H0 K hE hK
 have hO : Own Eq H0 [] H0 := .start stable_eq rfl
 cbv;refine n_call hE (g := fun r1 => .int .i64 r1) h (fun r1 hx => c87 N N x_e 200 r1 hx) (.refl _) fun r1 h => ?_;cbv;refine n_br hE h (fun hc h => ?_) (fun hc h => ?_)
 ·cbv;refine n_call hE (g := fun r2 => .int .i64 r2) h (fun r2 hx => c88 N N x_e r2 hx) (.refl _) fun r2 h => ?_;cbv;have h := ret_some h;subst h;exact hK _ _ _ hO (.refl _)
 ·cbv;have h := ret_some h;subst h;exact hK _ _ _ hO (.refl _)
def cf201 : Cf := ⟨[], [], [], [], [], []⟩
theorem c201 (N : Nat) (x_c : Int) (r : Bool) (h : ref03_letter N x_c = some r) : CallP Tryz.prog 201 [.int .u8 x_c] (.bool r) := by
 unfold ref03_letter at h
 refine callP_of_spec cf201 okP Tryz.func201 (by rfl) (by kernel_rfl) Tryz.call201 Tryz.ntmps201 (by rfl) (by rfl) ?_;intro E H0 K hE hK
 have hO : Own Eq H0 [] H0 := .start stable_eq rfl
 cbv;have h := ret_some h;subst h;exact hK _ _ _ hO (.refl _)
def cf160 : Cf := ⟨[], [], [], [], [], []⟩
theorem c160 (N : Nat) (x_s : ByteArray) (r : Bool) (h : ref03_Name N x_s = some r) : CallP Tryz.prog 160 [.str x_s] (.bool r) := by
 unfold ref03_Name at h
 refine callP_of_spec cf160 okP Tryz.func160 (by rfl) (by kernel_rfl) Tryz.call160 Tryz.ntmps160 (by rfl) (by rfl) ?_;intro E H0 K hE hK
 have hO : Own Eq H0 [] H0 := .start stable_eq rfl
 cbv;refine n_br hE h (fun hc h => ?_) (fun hc h => ?_)
 ·cbv;have h := ret_some h;subst h;exact hK _ _ _ hO (.refl _)
 ·cbv;refine n_needB hE h fun h => ?_;cbv;refine n_call hE (g := fun r1 => .bool r1) h (fun r1 hx => c201 N (Ar.sat x_s 0) r1 hx) (.refl _) fun r1 h => ?_;cbv;refine n_br hE h (fun hc h => ?_) (fun hc h => ?_)
  ·cbv;have h := ret_some h;subst h;exact hK _ _ _ hO (.refl _)
  ·cbv;obtain ⟨s3, hx, h⟩ := bind_some h;refine n_loopN cf160 hE okP (fun s2 => [(0, .v (.str x_s)), (3, .v (.int .i64 s2))]) (fun s2 H1 => Own Eq H0 [] H1) (fun x e l H1 => match (generalizing := false) x with | .inl y => e = .exit 0 ∧ l = [] ∧ Own Eq H0 [] H1 | .inr y => e = .ret ∧ l = [(2, .b false)] ∧ Own Eq H0 [] H1) (by kernel_rfl) ?_ hx ?_ hO ?_
   ·intro s2 H o hO h;clear hx;cbv;refine n_br hE h (fun hc h => ?_) (fun hc h => ?_)
    ·cbv;refine n_needB hE h fun h => ?_;cbv;refine n_call hE (g := fun r4 => .bool r4) h (fun r4 hx => c201 N (Ar.sat x_s s2) r4 hx) (.refl _) fun r4 h => ?_;cbv;refine n_br hE h (fun hc h => ?_) (fun hc h => ?_)
     ·cbv;refine n_needB hE h fun h => ?_;cbv;refine n_br hE h (fun hc h => ?_) (fun hc h => ?_)
      ·cbv;have h := ret_some h;subst h;exact ⟨_, _, rfl, ⟨rfl, rfl, hO⟩, .b rfl (.z), rfl⟩
      ·cbv;refine n_needB hE h fun h => ?_;cbv;refine n_br hE h (fun hc h => ?_) (fun hc h => ?_)
       ·cbv;have h := ret_some h;subst h;exact ⟨_, _, rfl, ⟨rfl, rfl, hO⟩, .b rfl (.z), rfl⟩
       ·cbv;have h := ret_some h;subst h;exact ⟨_, rfl, .e rfl (.e rfl (.z)), rfl, hO⟩
     ·cbv;have h := ret_some h;subst h;exact ⟨_, rfl, .e rfl (.e rfl (.z)), rfl, hO⟩
    ·cbv;have h := ret_some h;subst h;exact ⟨_, _, rfl, ⟨rfl, rfl, hO⟩, .z, rfl⟩
   ·exact .e rfl (.e rfl (.z))
   ·clear hx
    rcases s3 with y5 | y6
    ·rintro e l H ⟨rfl, rfl, hO⟩;cbv;have h := ret_some h;subst h;exact hK _ _ _ hO (.refl _)
    ·rintro e l H ⟨rfl, rfl, hO⟩;cbv;have h := ret_some h;subst h;exact hK _ _ _ hO (.refl _)
def cf161 : Cf := ⟨[], [], [], [], [], []⟩
theorem c161 (N : Nat) (x_s : GSchema) (x_field : ByteArray) (r : Int) (h : ref03_Position N x_s x_field = some r) : CallP Tryz.prog 161 [.agg [.str x_s.Name, .sl (Ar.lst Encs.eGField x_s.Fields) .ro], .str x_field] (.int .i64 r) := by
 unfold ref03_Position at h
 refine callP_of_spec cf161 okP Tryz.func161 (by rfl) (by kernel_rfl) Tryz.call161 Tryz.ntmps161 (by rfl) (by rfl) ?_;intro E H0 K hE hK
 have hO : Own Eq H0 [] H0 := .start stable_eq rfl
 cbv;obtain ⟨s2, hx, h⟩ := bind_some h;refine n_loopN cf161 hE okP (fun s1 => [(1, .v (.str x_field)), (2, .v (.eref [.str x_s.Name, .sl (Ar.lst Encs.eGField x_s.Fields) .ro] 0)), (5, .v (.int .i64 s1))]) (fun s1 H1 => Own Eq H0 [] H1) (fun x e l H1 => match (generalizing := false) x with | .inl y => e = .exit 0 ∧ l = [] ∧ Own Eq H0 [] H1 | .inr y => e = .ret ∧ l = [(4, .v (.int .i64 y))] ∧ Own Eq H0 [] H1) (by kernel_rfl) ?_ hx ?_ hO ?_
 ·intro s1 H o hO h;clear hx;cbv;refine n_ln hE ?_;cbv;refine n_br hE h (fun hc h => ?_) (fun hc h => ?_)
  ·cbv;refine n_idx hE Encs.eGField_eq h fun x3 h => ?_;cbv;refine n_br hE h (fun hc h => ?_) (fun hc h => ?_)
   ·cbv;have h := ret_some h;subst h;exact ⟨_, _, rfl, ⟨rfl, rfl, hO⟩, .e rfl (.z), rfl⟩
   ·cbv;have h := ret_some h;subst h;exact ⟨_, rfl, .e rfl (.e rfl (.e rfl (.z))), rfl, hO⟩
  ·cbv;have h := ret_some h;subst h;exact ⟨_, _, rfl, ⟨rfl, rfl, hO⟩, .z, rfl⟩
 ·exact .e rfl (.e rfl (.e rfl (.z)))
 ·clear hx
  rcases s2 with y4 | y5
  ·rintro e l H ⟨rfl, rfl, hO⟩;cbv;have h := ret_some h;subst h;exact hK _ _ _ hO (.refl _)
  ·rintro e l H ⟨rfl, rfl, hO⟩;cbv;have h := ret_some h;subst h;exact hK _ _ _ hO (.refl _)
def cf127 : Cf := ⟨[], [], [], [], [], []⟩
theorem c127 (N : Nat) (x_s : GSchema) (r : Int) (h : ref03_Check N x_s = some r) : CallP Tryz.prog 127 [.agg [.str x_s.Name, .sl (Ar.lst Encs.eGField x_s.Fields) .ro]] (.int .i64 r) := by
 unfold ref03_Check at h
 refine callP_of_spec cf127 okP Tryz.func127 (by rfl) (by kernel_rfl) Tryz.call127 Tryz.ntmps127 (by rfl) (by rfl) ?_;intro E H0 K hE hK
 have hO : Own Eq H0 [] H0 := .start stable_eq rfl
 cbv;refine n_call hE (g := fun r1 => .bool r1) h (fun r1 hx => c160 N x_s.Name r1 hx) (.refl _) fun r1 h => ?_;cbv;refine n_br hE h (fun hc h => ?_) (fun hc h => ?_)
 ·cbv;have h := ret_some h;subst h;exact hK _ _ _ hO (.refl _)
 ·cbv;refine n_ln hE ?_;cbv;refine n_br hE h (fun hc h => ?_) (fun hc h => ?_)
  ·cbv;have h := ret_some h;subst h;exact hK _ _ _ hO (.refl _)
  ·cbv;obtain ⟨s3, hx, h⟩ := bind_some h;refine n_loopN cf127 hE okP (fun s2 => [(1, .v (.eref [.str x_s.Name, .sl (Ar.lst Encs.eGField x_s.Fields) .ro] 0)), (3, .v (.int .i64 s2))]) (fun s2 H1 => Own Eq H0 [] H1) (fun x e l H1 => match (generalizing := false) x with | .inl y => e = .exit 0 ∧ l = [] ∧ Own Eq H0 [] H1 | .inr y => e = .ret ∧ l = [(2, .v (.int .i64 y))] ∧ Own Eq H0 [] H1) (by kernel_rfl) ?_ hx ?_ hO ?_
   ·intro s2 H o hO h;clear hx;cbv;refine n_ln hE ?_;cbv;refine n_br hE h (fun hc h => ?_) (fun hc h => ?_)
    ·cbv;refine n_idx hE Encs.eGField_eq h fun x4 h => ?_;cbv;refine n_call hE (g := fun r5 => .bool r5) h (fun r5 hx => c160 N x4.Name r5 hx) (.refl _) fun r5 h => ?_;cbv;refine n_br hE h (fun hc h => ?_) (fun hc h => ?_)
     ·cbv;have h := ret_some h;subst h;exact ⟨_, _, rfl, ⟨rfl, rfl, hO⟩, .e rfl (.z), rfl⟩
     ·cbv;refine n_call hE (g := fun r6 => .int .i64 r6) h (fun r6 hx => c161 N x_s x4.Name r6 hx) (.refl _) fun r6 h => ?_;cbv;refine n_br hE h (fun hc h => ?_) (fun hc h => ?_)
      ·cbv;have h := ret_some h;subst h;exact ⟨_, _, rfl, ⟨rfl, rfl, hO⟩, .e rfl (.z), rfl⟩
      ·cbv;refine n_br hE h (fun hc h => ?_) (fun hc h => ?_)
       ·cbv;have h := ret_some h;subst h;exact ⟨_, _, rfl, ⟨rfl, rfl, hO⟩, .e rfl (.z), rfl⟩
       ·cbv;have h := ret_some h;subst h;exact ⟨_, rfl, .e rfl (.e rfl (.z)), rfl, hO⟩
    ·cbv;have h := ret_some h;subst h;exact ⟨_, _, rfl, ⟨rfl, rfl, hO⟩, .z, rfl⟩
   ·exact .e rfl (.e rfl (.z))
   ·clear hx
    rcases s3 with y7 | y8
    ·rintro e l H ⟨rfl, rfl, hO⟩;cbv;have h := ret_some h;subst h;exact hK _ _ _ hO (.refl _)
    ·rintro e l H ⟨rfl, rfl, hO⟩;cbv;have h := ret_some h;subst h;exact hK _ _ _ hO (.refl _)
def cf128 : Cf := ⟨[], [], [], [], [], []⟩
theorem c128 (N : Nat) (x_l : List GSchema) (x_name : ByteArray) (r : Int) (h : ref03_Where N x_l x_name = some r) : CallP Tryz.prog 128 [.sl (Ar.lst Encs.eGSchema x_l) .ro, .str x_name] (.int .i64 r) := by
 unfold ref03_Where at h
 refine callP_of_spec cf128 okP Tryz.func128 (by rfl) (by kernel_rfl) Tryz.call128 Tryz.ntmps128 (by rfl) (by rfl) ?_;intro E H0 K hE hK
 have hO : Own Eq H0 [] H0 := .start stable_eq rfl
 cbv;obtain ⟨s2, hx, h⟩ := bind_some h;refine n_loopN cf128 hE okP (fun s1 => [(0, .v (.sl (Ar.lst Encs.eGSchema x_l) .ro)), (1, .v (.str x_name)), (5, .v (.int .i64 s1))]) (fun s1 H1 => Own Eq H0 [] H1) (fun x e l H1 => match (generalizing := false) x with | .inl y => e = .exit 0 ∧ l = [] ∧ Own Eq H0 [] H1 | .inr y => e = .ret ∧ l = [(4, .v (.int .i64 y))] ∧ Own Eq H0 [] H1) (by kernel_rfl) ?_ hx ?_ hO ?_
 ·intro s1 H o hO h;clear hx;cbv;refine n_ln hE ?_;cbv;refine n_br hE h (fun hc h => ?_) (fun hc h => ?_)
  ·cbv;refine n_idx hE Encs.eGSchema_eq h fun x3 h => ?_;cbv;refine n_br hE h (fun hc h => ?_) (fun hc h => ?_)
   ·cbv;have h := ret_some h;subst h;exact ⟨_, _, rfl, ⟨rfl, rfl, hO⟩, .e rfl (.z), rfl⟩
   ·cbv;have h := ret_some h;subst h;exact ⟨_, rfl, .e rfl (.e rfl (.e rfl (.z))), rfl, hO⟩
  ·cbv;have h := ret_some h;subst h;exact ⟨_, _, rfl, ⟨rfl, rfl, hO⟩, .z, rfl⟩
 ·exact .e rfl (.e rfl (.e rfl (.z)))
 ·clear hx
  rcases s2 with y4 | y5
  ·rintro e l H ⟨rfl, rfl, hO⟩;cbv;have h := ret_some h;subst h;exact hK _ _ _ hO (.refl _)
  ·rintro e l H ⟨rfl, rfl, hO⟩;cbv;have h := ret_some h;subst h;exact hK _ _ _ hO (.refl _)
def cf94 : Cf := ⟨[], [], [], [], [], []⟩
theorem c94 (N : Nat) (x_l : List GSchema) (r : Int) (h : ref03_CheckAll N x_l = some r) : CallP Tryz.prog 94 [.sl (Ar.lst Encs.eGSchema x_l) .ro] (.int .i64 r) := by
 unfold ref03_CheckAll at h
 refine callP_of_spec cf94 okP Tryz.func94 (by rfl) (by kernel_rfl) Tryz.call94 Tryz.ntmps94 (by rfl) (by rfl) ?_;intro E H0 K hE hK
 have hO : Own Eq H0 [] H0 := .start stable_eq rfl
 cbv;refine n_ln hE ?_;cbv;refine n_br hE h (fun hc h => ?_) (fun hc h => ?_)
 ·cbv;have h := ret_some h;subst h;exact hK _ _ _ hO (.refl _)
 ·cbv;obtain ⟨s2, hx, h⟩ := bind_some h;refine n_loopN cf94 hE okP (fun s1 => [(0, .v (.sl (Ar.lst Encs.eGSchema x_l) .ro)), (3, .v (.int .i64 s1))]) (fun s1 H1 => Own Eq H0 [] H1) (fun x e l H1 => match (generalizing := false) x with | .inl y => e = .exit 0 ∧ l = [] ∧ Own Eq H0 [] H1 | .inr y => e = .ret ∧ l = [(2, .v (.int .i64 y))] ∧ Own Eq H0 [] H1) (by kernel_rfl) ?_ hx ?_ hO ?_
  ·intro s1 H o hO h;clear hx;cbv;refine n_ln hE ?_;cbv;refine n_br hE h (fun hc h => ?_) (fun hc h => ?_)
   ·cbv;refine n_idx hE Encs.eGSchema_eq h fun x3 h => ?_;cbv;refine n_call hE (g := fun r4 => .int .i64 r4) h (fun r4 hx => c127 N x3 r4 hx) (.refl _) fun r4 h => ?_;cbv;refine n_br hE h (fun hc h => ?_) (fun hc h => ?_)
    ·cbv;have h := ret_some h;subst h;exact ⟨_, _, rfl, ⟨rfl, rfl, hO⟩, .e rfl (.z), rfl⟩
    ·cbv;refine n_idx hE Encs.eGSchema_eq h fun x5 h => ?_;cbv;refine n_call hE (g := fun r6 => .int .i64 r6) h (fun r6 hx => c128 N x_l x5.Name r6 hx) (.refl _) fun r6 h => ?_;cbv;refine n_br hE h (fun hc h => ?_) (fun hc h => ?_)
     ·cbv;have h := ret_some h;subst h;exact ⟨_, _, rfl, ⟨rfl, rfl, hO⟩, .e rfl (.z), rfl⟩
     ·cbv;have h := ret_some h;subst h;exact ⟨_, rfl, .e rfl (.e rfl (.z)), rfl, hO⟩
   ·cbv;have h := ret_some h;subst h;exact ⟨_, _, rfl, ⟨rfl, rfl, hO⟩, .z, rfl⟩
  ·exact .e rfl (.e rfl (.z))
  ·clear hx
   rcases s2 with y7 | y8
   ·rintro e l H ⟨rfl, rfl, hO⟩;cbv;have h := ret_some h;subst h;exact hK _ _ _ hO (.refl _)
   ·rintro e l H ⟨rfl, rfl, hO⟩;cbv;have h := ret_some h;subst h;exact hK _ _ _ hO (.refl _)
def cf129 : Cf := ⟨[], [], [], [], [], []⟩
theorem c129 (N : Nat) (x_types : List GSchema) (x_vars : List GVariable) (r : Int) (h : ref08_Variables1 N x_types x_vars = some r) : CallP Tryz.prog 129 [.sl (Ar.lst Encs.eGSchema x_types) .ro, .sl (Ar.lst Encs.eGVariable x_vars) .ro] (.int .i64 r) := by
 unfold ref08_Variables1 at h
 refine callP_of_spec cf129 okP Tryz.func129 (by rfl) (by kernel_rfl) Tryz.call129 Tryz.ntmps129 (by rfl) (by rfl) ?_;intro E H0 K hE hK
 have hO : Own Eq H0 [] H0 := .start stable_eq rfl
 cbv;refine n_ln hE ?_;cbv;refine n_br hE h (fun hc h => ?_) (fun hc h => ?_)
 ·cbv;have h := ret_some h;subst h;exact hK _ _ _ hO (.refl _)
 ·cbv;obtain ⟨s2, hx, h⟩ := bind_some h;refine n_loopN cf129 hE okP (fun s1 => [(0, .v (.sl (Ar.lst Encs.eGSchema x_types) .ro)), (1, .v (.sl (Ar.lst Encs.eGVariable x_vars) .ro)), (5, .v (.int .i64 s1))]) (fun s1 H1 => Own Eq H0 [] H1) (fun x e l H1 => match (generalizing := false) x with | .inl y => e = .exit 0 ∧ l = [] ∧ Own Eq H0 [] H1 | .inr y => e = .ret ∧ l = [(4, .v (.int .i64 6))] ∧ Own Eq H0 [] H1) (by kernel_rfl) ?_ hx ?_ hO ?_
  ·intro s1 H o hO h;clear hx;cbv;refine n_ln hE ?_;cbv;refine n_br hE h (fun hc h => ?_) (fun hc h => ?_)
   ·cbv;refine n_idx hE Encs.eGVariable_eq h fun x3 h => ?_;cbv;refine n_br hE h (fun hc h => ?_) (fun hc h => ?_)
    ·cbv;have h := ret_some h;subst h;exact ⟨_, _, rfl, ⟨rfl, rfl, hO⟩, .e rfl (.z), rfl⟩
    ·cbv;refine n_idx hE Encs.eGVariable_eq h fun x4 h => ?_;cbv;refine n_ln hE ?_;cbv;refine n_br hE h (fun hc h => ?_) (fun hc h => ?_)
     ·cbv;have h := ret_some h;subst h;exact ⟨_, _, rfl, ⟨rfl, rfl, hO⟩, .e rfl (.z), rfl⟩
     ·cbv;have h := ret_some h;subst h;exact ⟨_, rfl, .e rfl (.e rfl (.e rfl (.z))), rfl, hO⟩
   ·cbv;have h := ret_some h;subst h;exact ⟨_, _, rfl, ⟨rfl, rfl, hO⟩, .z, rfl⟩
  ·exact .e rfl (.e rfl (.e rfl (.z)))
  ·clear hx
   rcases s2 with y5 | y6
   ·rintro e l H ⟨rfl, rfl, hO⟩;cbv;have h := ret_some h;subst h;exact hK _ _ _ hO (.refl _)
   ·rintro e l H ⟨rfl, rfl, hO⟩;cbv;have h := ret_some h;subst h;exact hK _ _ _ hO (.refl _)
def cf168 : Cf := ⟨[], [], [], [], [], []⟩
theorem c168 (N : Nat) (x_v : GValue) (r : Int) (h : ref01_Check N x_v = some r) : CallP Tryz.prog 168 [.agg [.int .i64 x_v.Kind, .int .i64 x_v.Num, .str x_v.Text]] (.int .i64 r) := by
 unfold ref01_Check at h
 refine callP_of_spec cf168 okP Tryz.func168 (by rfl) (by kernel_rfl) Tryz.call168 Tryz.ntmps168 (by rfl) (by rfl) ?_;intro E H0 K hE hK
 have hO : Own Eq H0 [] H0 := .start stable_eq rfl
 cbv;refine n_br hE h (fun hc h => ?_) (fun hc h => ?_)
 ·cbv;have h := ret_some h;subst h;exact hK _ _ _ hO (.refl _)
 ·cbv;refine n_br hE h (fun hc h => ?_) (fun hc h => ?_)
  ·cbv;refine n_br hE h (fun hc h => ?_) (fun hc h => ?_)
   ·cbv;have h := ret_some h;subst h;exact hK _ _ _ hO (.refl _)
   ·cbv;refine n_br hE h (fun hc h => ?_) (fun hc h => ?_)
    ·cbv;have h := ret_some h;subst h;exact hK _ _ _ hO (.refl _)
    ·cbv;have h := ret_some h;subst h;exact hK _ _ _ hO (.refl _)
  ·cbv;refine n_br hE h (fun hc h => ?_) (fun hc h => ?_)
   ·cbv;have h := ret_some h;subst h;exact hK _ _ _ hO (.refl _)
   ·cbv;refine n_br hE h (fun hc h => ?_) (fun hc h => ?_)
    ·cbv;have h := ret_some h;subst h;exact hK _ _ _ hO (.refl _)
    ·cbv;have h := ret_some h;subst h;exact hK _ _ _ hO (.refl _)
def cf203 : Cf := ⟨[], [], [], [], [], []⟩
theorem c203 (N : Nat) (x_k : Int) (x_v : GValue) (r : Bool) (h : ref07_Suits N x_k x_v = some r) : CallP Tryz.prog 203 [.int .i64 x_k, .agg [.int .i64 x_v.Kind, .int .i64 x_v.Num, .str x_v.Text]] (.bool r) := by
 unfold ref07_Suits at h
 refine callP_of_spec cf203 okP Tryz.func203 (by rfl) (by kernel_rfl) Tryz.call203 Tryz.ntmps203 (by rfl) (by rfl) ?_;intro E H0 K hE hK
 have hO : Own Eq H0 [] H0 := .start stable_eq rfl
 cbv;have h := ret_some h;subst h;exact hK _ _ _ hO (.refl _)
def cf217 : Cf := ⟨[], [], [(4, 4)], [], [], []⟩
theorem c217 (N : Nat) (x_op : Int) (r : Int) (h : ref08_arity N x_op = some r) : CallP Tryz.prog 217 [.int .i64 x_op] (.int .i64 r) := by
 unfold ref08_arity at h
 refine callP_of_spec cf217 okP Tryz.func217 (by rfl) (by kernel_rfl) Tryz.call217 Tryz.ntmps217 (by rfl) (by rfl) ?_;intro E H0 K hE hK
 have hO : Own Eq H0 [] H0 := .start stable_eq rfl
 cbv;obtain ⟨s1, hx, h⟩ := bind_some h;refine n_join cf217 hE okP (fun e l H1 => e = .normal ∧ l = [(3, .v (.int .i64 x_op)), (4, .v (.bool s1))] ∧ Own Eq H0 [] H1) (by kernel_rfl) ?_ ?_
 ·clear h;have h := hx;clear hx;cbv;refine n_br hE h (fun hc h => ?_) (fun hc h => ?_)
  ·cbv;have h := ret_some h;subst h;exact ⟨_, ⟨rfl, rfl, hO⟩, .e rfl (.e rfl (.z)), rfl⟩
  ·cbv;refine n_br hE h (fun hc h => ?_) (fun hc h => ?_)
   ·cbv;have h := ret_some h;subst h;exact ⟨_, ⟨rfl, rfl, hO⟩, .e rfl (.e rfl (.z)), rfl⟩
   ·cbv;refine n_br hE h (fun hc h => ?_) (fun hc h => ?_)
    ·cbv;have h := ret_some h;subst h;exact ⟨_, ⟨rfl, rfl, hO⟩, .e rfl (.e rfl (.z)), rfl⟩
    ·cbv;refine n_br hE h (fun hc h => ?_) (fun hc h => ?_)
     ·cbv;have h := ret_some h;subst h;exact ⟨_, ⟨rfl, rfl, hO⟩, .e rfl (.e rfl (.z)), rfl⟩
     ·cbv;have h := ret_some h;subst h;exact ⟨_, ⟨rfl, rfl, hO⟩, .e rfl (.e rfl (.z)), rfl⟩
 ·clear hx;rintro e l H ⟨rfl, rfl, hO⟩;cbv;refine n_br hE h (fun hc h => ?_) (fun hc h => ?_)
  ·cbv;have h := ret_some h;subst h;exact hK _ _ _ hO (.refl _)
  ·cbv;refine n_br hE h (fun hc h => ?_) (fun hc h => ?_)
   ·cbv;have h := ret_some h;subst h;exact hK _ _ _ hO (.refl _)
   ·cbv;refine n_br hE h (fun hc h => ?_) (fun hc h => ?_)
    ·cbv;have h := ret_some h;subst h;exact hK _ _ _ hO (.refl _)
    ·cbv;refine n_br hE h (fun hc h => ?_) (fun hc h => ?_)
     ·cbv;have h := ret_some h;subst h;exact hK _ _ _ hO (.refl _)
     ·cbv;refine n_br hE h (fun hc h => ?_) (fun hc h => ?_)
      ·cbv;have h := ret_some h;subst h;exact hK _ _ _ hO (.refl _)
      ·cbv;refine n_br hE h (fun hc h => ?_) (fun hc h => ?_)
       ·cbv;have h := ret_some h;subst h;exact hK _ _ _ hO (.refl _)
       ·cbv;refine n_br hE h (fun hc h => ?_) (fun hc h => ?_)
        ·cbv;have h := ret_some h;subst h;exact hK _ _ _ hO (.refl _)
        ·cbv;refine n_br hE h (fun hc h => ?_) (fun hc h => ?_)
         ·cbv;have h := ret_some h;subst h;exact hK _ _ _ hO (.refl _)
         ·cbv;refine n_br hE h (fun hc h => ?_) (fun hc h => ?_)
          ·cbv;have h := ret_some h;subst h;exact hK _ _ _ hO (.refl _)
          ·cbv;have h := ret_some h;subst h;exact hK _ _ _ hO (.refl _)
def cf218 : Cf := ⟨[], [], [], [], [], []⟩
theorem c218 (N : Nat) (x_op : Int) (r : (Bool × Bool)) (h : ref08_uses N x_op = some r) : CallP Tryz.prog 218 [.int .i64 x_op] (.tup [.bool r.1, .bool r.2]) := by
 unfold ref08_uses at h
 refine callP_of_spec cf218 okP Tryz.func218 (by rfl) (by kernel_rfl) Tryz.call218 Tryz.ntmps218 (by rfl) (by rfl) ?_;intro E H0 K hE hK
 have hO : Own Eq H0 [] H0 := .start stable_eq rfl
 cbv;have h := ret_some h;subst h;exact hK _ _ _ hO (.refl _)
def cf202 : Cf := ⟨[], [], [(69, 15)], [], [], []⟩
theorem c202 (N : Nat) (x_e : GExpr) (r : Int) (h : ref08_node N x_e = some r) : CallP Tryz.prog 202 [.agg [.int .i64 x_e.Op, .sl (Ar.lst Encs.eGExpr x_e.Args) .ro, .int .i64 x_e.Var, .int .i64 x_e.Field, .int .i64 x_e.Kind, .int .i64 x_e.Value.Kind, .int .i64 x_e.Value.Num, .str x_e.Value.Text]] (.int .i64 r) := by
 unfold ref08_node at h
 refine callP_of_spec cf202 okP Tryz.func202 (by rfl) (by kernel_rfl) Tryz.call202 Tryz.ntmps202 (by rfl) (by rfl) ?_;intro E H0 K hE hK
 have hO : Own Eq H0 [] H0 := .start stable_eq rfl
 cbv;refine n_call hE (g := fun r1 => .int .i64 r1) h (fun r1 hx => c217 N x_e.Op r1 hx) (.refl _) fun r1 h => ?_;cbv;refine n_br hE h (fun hc h => ?_) (fun hc h => ?_)
 ·cbv;have h := ret_some h;subst h;exact hK _ _ _ hO (.refl _)
 ·cbv;refine n_ln hE ?_;cbv;refine n_br hE h (fun hc h => ?_) (fun hc h => ?_)
  ·cbv;have h := ret_some h;subst h;exact hK _ _ _ hO (.refl _)
  ·cbv;refine n_call hE (g := fun r2 => .tup [.bool r2.1, .bool r2.2]) h (fun r2 hx => c218 N x_e.Op r2 hx) (.refl _) fun r2 h => ?_;cbv;refine n_br hE h (fun hc h => ?_) (fun hc h => ?_)
   ·cbv;have h := ret_some h;subst h;exact hK _ _ _ hO (.refl _)
   ·cbv;refine n_br hE h (fun hc h => ?_) (fun hc h => ?_)
    ·cbv;have h := ret_some h;subst h;exact hK _ _ _ hO (.refl _)
    ·cbv;obtain ⟨s3, hx, h⟩ := bind_some h;refine n_join cf202 hE okP (fun e l H1 => match (generalizing := false) s3 with | .inl y => e = .normal ∧ l = [(1, .v (.eref [.int .i64 x_e.Op, .sl (Ar.lst Encs.eGExpr x_e.Args) .ro, .int .i64 x_e.Var, .int .i64 x_e.Field, .int .i64 x_e.Kind, .int .i64 x_e.Value.Kind, .int .i64 x_e.Value.Num, .str x_e.Value.Text] 0)), (4, .v (.bool r2.1)), (5, .v (.bool r2.2)), (6, .v (.bool (Ar.cmp .eql x_e.Op 4))), (7, .v (.bool (Ar.or (Ar.cmp .eql x_e.Op 4) (Ar.cmp .eql x_e.Op 0))))] ∧ Own Eq H0 [] H1 | .inr y => e = .ret ∧ l = [(2, .v (.int .i64 y))] ∧ Own Eq H0 [] H1) (by kernel_rfl) ?_ ?_
     ·clear h;have h := hx;clear hx;cbv;refine n_br hE h (fun hc h => ?_) (fun hc h => ?_)
      ·cbv;refine n_call hE (g := fun r4 => .int .i64 r4) h (fun r4 hx => c168 N x_e.Value r4 hx) (.refl _) fun r4 h => ?_;cbv;refine n_br hE h (fun hc h => ?_) (fun hc h => ?_)
       ·cbv;have h := ret_some h;subst h;exact ⟨_, ⟨rfl, rfl, hO⟩, .e rfl (.z), rfl⟩
       ·cbv;have h := ret_some h;subst h;exact ⟨_, ⟨rfl, rfl, hO⟩, .e rfl (.e rfl (.e rfl (.e rfl (.e rfl (.z))))), rfl⟩
      ·cbv;have h := ret_some h;subst h;exact ⟨_, ⟨rfl, rfl, hO⟩, .e rfl (.e rfl (.e rfl (.e rfl (.e rfl (.z))))), rfl⟩
     ·clear hx
      rcases s3 with y5 | y7
      ·rintro e l H ⟨rfl, rfl, hO⟩;cbv;refine n_br hE h (fun hc h => ?_) (fun hc h => ?_)
       ·cbv;refine n_call hE (g := fun r6 => .bool r6) h (fun r6 hx => c203 N x_e.Kind x_e.Value r6 hx) (.refl _) fun r6 h => ?_;cbv;refine n_br hE h (fun hc h => ?_) (fun hc h => ?_)
        ·cbv;have h := ret_some h;subst h;exact hK _ _ _ hO (.refl _)
        ·cbv;refine n_br hE h (fun hc h => ?_) (fun hc h => ?_)
         ·cbv;have h := ret_some h;subst h;exact hK _ _ _ hO (.refl _)
         ·cbv;have h := ret_some h;subst h;exact hK _ _ _ hO (.refl _)
       ·cbv;refine n_br hE h (fun hc h => ?_) (fun hc h => ?_)
        ·cbv;have h := ret_some h;subst h;exact hK _ _ _ hO (.refl _)
        ·cbv;have h := ret_some h;subst h;exact hK _ _ _ hO (.refl _)
      ·rintro e l H ⟨rfl, rfl, hO⟩;cbv;have h := ret_some h;subst h;exact hK _ _ _ hO (.refl _)
def cf162 : Cf := ⟨[], [], [], [], [], []⟩
theorem c162 (N : Nat) : ∀ (n : Nat) (x_e : GExpr) (r : Int), ref08_nodes N n x_e = some r → CallP Tryz.prog 162 [.agg [.int .i64 x_e.Op, .sl (Ar.lst Encs.eGExpr x_e.Args) .ro, .int .i64 x_e.Var, .int .i64 x_e.Field, .int .i64 x_e.Kind, .int .i64 x_e.Value.Kind, .int .i64 x_e.Value.Num, .str x_e.Value.Text]] (.int .i64 r) := by
 intro n
 induction n with
 | zero => intro x_e r h; cases h
 | succ n ih =>
 intro x_e r h
 unfold ref08_nodes at h
 refine callP_of_spec cf162 okP Tryz.func162 (by rfl) (by kernel_rfl) Tryz.call162 Tryz.ntmps162 (by rfl) (by rfl) ?_;intro E H0 K hE hK
 have hO : Own Eq H0 [] H0 := .start stable_eq rfl
 cbv;refine n_call hE (g := fun r1 => .int .i64 r1) h (fun r1 hx => c202 N x_e r1 hx) (.refl _) fun r1 h => ?_;cbv;refine n_br hE h (fun hc h => ?_) (fun hc h => ?_)
 ·cbv;have h := ret_some h;subst h;exact hK _ _ _ hO (.refl _)
 ·cbv;obtain ⟨s3, hx, h⟩ := bind_some h;refine n_loopN cf162 hE okP (fun s2 => [(1, .v (.eref [.int .i64 x_e.Op, .sl (Ar.lst Encs.eGExpr x_e.Args) .ro, .int .i64 x_e.Var, .int .i64 x_e.Field, .int .i64 x_e.Kind, .int .i64 x_e.Value.Kind, .int .i64 x_e.Value.Num, .str x_e.Value.Text] 0)), (4, .v (.int .i64 s2))]) (fun s2 H1 => Own Eq H0 [] H1) (fun x e l H1 => match (generalizing := false) x with | .inl y => e = .exit 0 ∧ l = [] ∧ Own Eq H0 [] H1 | .inr y => e = .ret ∧ l = [(2, .v (.int .i64 y))] ∧ Own Eq H0 [] H1) (by kernel_rfl) ?_ hx ?_ hO ?_
  ·intro s2 H o hO h;clear hx;cbv;refine n_ln hE ?_;cbv;refine n_br hE h (fun hc h => ?_) (fun hc h => ?_)
   ·cbv;refine n_idx hE Encs.eGExpr_eq h fun x4 h => ?_;cbv;refine n_call hE (g := fun r5 => .int .i64 r5) h (fun r5 hx => ih x4 r5 hx) (.refl _) fun r5 h => ?_;cbv;refine n_br hE h (fun hc h => ?_) (fun hc h => ?_)
    ·cbv;have h := ret_some h;subst h;exact ⟨_, _, rfl, ⟨rfl, rfl, hO⟩, .e rfl (.z), rfl⟩
    ·cbv;have h := ret_some h;subst h;exact ⟨_, rfl, .e rfl (.e rfl (.z)), rfl, hO⟩
   ·cbv;have h := ret_some h;subst h;exact ⟨_, _, rfl, ⟨rfl, rfl, hO⟩, .z, rfl⟩
  ·exact .e rfl (.e rfl (.z))
  ·clear hx
   rcases s3 with y6 | y7
   ·rintro e l H ⟨rfl, rfl, hO⟩;cbv;have h := ret_some h;subst h;exact hK _ _ _ hO (.refl _)
   ·rintro e l H ⟨rfl, rfl, hO⟩;cbv;have h := ret_some h;subst h;exact hK _ _ _ hO (.refl _)
def cf130 : Cf := ⟨[], [], [], [], [], []⟩
theorem c130 (N : Nat) (x_e : GExpr) (r : Int) (h : ref08_Check N x_e = some r) : CallP Tryz.prog 130 [.agg [.int .i64 x_e.Op, .sl (Ar.lst Encs.eGExpr x_e.Args) .ro, .int .i64 x_e.Var, .int .i64 x_e.Field, .int .i64 x_e.Kind, .int .i64 x_e.Value.Kind, .int .i64 x_e.Value.Num, .str x_e.Value.Text]] (.int .i64 r) := by
 unfold ref08_Check at h
 refine callP_of_spec cf130 okP Tryz.func130 (by rfl) (by kernel_rfl) Tryz.call130 Tryz.ntmps130 (by rfl) (by rfl) ?_;intro E H0 K hE hK
 have hO : Own Eq H0 [] H0 := .start stable_eq rfl
 cbv;refine n_call hE (g := fun r1 => .int .i64 r1) h (fun r1 hx => c87 N N x_e 64 r1 hx) (.refl _) fun r1 h => ?_;cbv;refine n_br hE h (fun hc h => ?_) (fun hc h => ?_)
 ·cbv;have h := ret_some h;subst h;exact hK _ _ _ hO (.refl _)
 ·cbv;refine n_call hE (g := fun r2 => .int .i64 r2) h (fun r2 hx => c88 N N x_e r2 hx) (.refl _) fun r2 h => ?_;cbv;refine n_br hE h (fun hc h => ?_) (fun hc h => ?_)
  ·cbv;have h := ret_some h;subst h;exact hK _ _ _ hO (.refl _)
  ·cbv;refine n_call hE (g := fun r3 => .int .i64 r3) h (fun r3 hx => c162 N N x_e r3 hx) (.refl _) fun r3 h => ?_;cbv;have h := ret_some h;subst h;exact hK _ _ _ hO (.refl _)
def cf163 : Cf := ⟨[], [], [], [], [], []⟩
theorem c163 (N : Nat) (x_types : List GSchema) (x_vars : List GVariable) (x_e : GExpr) (r : (Int × Int)) (h : ref08_leaf N x_types x_vars x_e = some r) : CallP Tryz.prog 163 [.sl (Ar.lst Encs.eGSchema x_types) .ro, .sl (Ar.lst Encs.eGVariable x_vars) .ro, .agg [.int .i64 x_e.Op, .sl (Ar.lst Encs.eGExpr x_e.Args) .ro, .int .i64 x_e.Var, .int .i64 x_e.Field, .int .i64 x_e.Kind, .int .i64 x_e.Value.Kind, .int .i64 x_e.Value.Num, .str x_e.Value.Text]] (.tup [.int .i64 r.1, .int .i64 r.2]) := by
 unfold ref08_leaf at h
 refine callP_of_spec cf163 okP Tryz.func163 (by rfl) (by kernel_rfl) Tryz.call163 Tryz.ntmps163 (by rfl) (by rfl) ?_;intro E H0 K hE hK
 have hO : Own Eq H0 [] H0 := .start stable_eq rfl
 cbv;refine n_br hE h (fun hc h => ?_) (fun hc h => ?_)
 ·cbv;have h := ret_some h;subst h;exact hK _ _ _ hO (.refl _)
 ·cbv;refine n_ln hE ?_;cbv;refine n_br hE h (fun hc h => ?_) (fun hc h => ?_)
  ·cbv;have h := ret_some h;subst h;exact hK _ _ _ hO (.refl _)
  ·cbv;refine n_br hE h (fun hc h => ?_) (fun hc h => ?_)
   ·cbv;have h := ret_some h;subst h;exact hK _ _ _ hO (.refl _)
   ·cbv;refine n_idx hE Encs.eGVariable_eq h fun x1 h => ?_;cbv;refine n_idx hE Encs.eGSchema_eq h fun x2 h => ?_;cbv;refine n_ln hE ?_;cbv;refine n_br hE h (fun hc h => ?_) (fun hc h => ?_)
    ·cbv;have h := ret_some h;subst h;exact hK _ _ _ hO (.refl _)
    ·cbv;refine n_idx hE Encs.eGField_eq h fun x3 h => ?_;cbv;refine n_br hE h (fun hc h => ?_) (fun hc h => ?_)
     ·cbv;refine n_br hE h (fun hc h => ?_) (fun hc h => ?_)
      ·cbv;have h := ret_some h;subst h;exact hK _ _ _ hO (.refl _)
      ·cbv;refine n_call hE (g := fun r4 => .bool r4) h (fun r4 hx => c203 N x_e.Kind (⟨x3.Kind, 0, ⟨#[]⟩⟩ : GValue) r4 hx) (.refl _) fun r4 h => ?_;cbv;refine n_br hE h (fun hc h => ?_) (fun hc h => ?_)
       ·cbv;have h := ret_some h;subst h;exact hK _ _ _ hO (.refl _)
       ·cbv;have h := ret_some h;subst h;exact hK _ _ _ hO (.refl _)
     ·cbv;have h := ret_some h;subst h;exact hK _ _ _ hO (.refl _)
def cf204 : Cf := ⟨[], [], [(4, 4)], [], [], []⟩
theorem c204 (N : Nat) (x_op : Int) (r : Int) (h : ref08_demanded N x_op = some r) : CallP Tryz.prog 204 [.int .i64 x_op] (.int .i64 r) := by
 unfold ref08_demanded at h
 refine callP_of_spec cf204 okP Tryz.func204 (by rfl) (by kernel_rfl) Tryz.call204 Tryz.ntmps204 (by rfl) (by rfl) ?_;intro E H0 K hE hK
 have hO : Own Eq H0 [] H0 := .start stable_eq rfl
 cbv;obtain ⟨s1, hx, h⟩ := bind_some h;refine n_join cf204 hE okP (fun e l H1 => e = .normal ∧ l = [(3, .v (.int .i64 x_op)), (4, .v (.bool s1))] ∧ Own Eq H0 [] H1) (by kernel_rfl) ?_ ?_
 ·clear h;have h := hx;clear hx;cbv;refine n_br hE h (fun hc h => ?_) (fun hc h => ?_)
  ·cbv;have h := ret_some h;subst h;exact ⟨_, ⟨rfl, rfl, hO⟩, .e rfl (.e rfl (.z)), rfl⟩
  ·cbv;refine n_br hE h (fun hc h => ?_) (fun hc h => ?_)
   ·cbv;have h := ret_some h;subst h;exact ⟨_, ⟨rfl, rfl, hO⟩, .e rfl (.e rfl (.z)), rfl⟩
   ·cbv;refine n_br hE h (fun hc h => ?_) (fun hc h => ?_)
    ·cbv;have h := ret_some h;subst h;exact ⟨_, ⟨rfl, rfl, hO⟩, .e rfl (.e rfl (.z)), rfl⟩
    ·cbv;have h := ret_some h;subst h;exact ⟨_, ⟨rfl, rfl, hO⟩, .e rfl (.e rfl (.z)), rfl⟩
 ·clear hx;rintro e l H ⟨rfl, rfl, hO⟩;cbv;refine n_br hE h (fun hc h => ?_) (fun hc h => ?_)
  ·cbv;have h := ret_some h;subst h;exact hK _ _ _ hO (.refl _)
  ·cbv;refine n_br hE h (fun hc h => ?_) (fun hc h => ?_)
   ·cbv;have h := ret_some h;subst h;exact hK _ _ _ hO (.refl _)
   ·cbv;refine n_br hE h (fun hc h => ?_) (fun hc h => ?_)
    ·cbv;have h := ret_some h;subst h;exact hK _ _ _ hO (.refl _)
    ·cbv;refine n_br hE h (fun hc h => ?_) (fun hc h => ?_)
     ·cbv;have h := ret_some h;subst h;exact hK _ _ _ hO (.refl _)
     ·cbv;have h := ret_some h;subst h;exact hK _ _ _ hO (.refl _)
def cf164 : Cf := ⟨[], [(5, 21)], [], [], [], []⟩
theorem c164 (N : Nat) (x_op : Int) (x_kinds : List Int) (r : Int) (h : ref08_operands N x_op x_kinds = some r) : CallP Tryz.prog 164 [.int .i64 x_op, .sl (Ar.lst (V.int .i64) x_kinds) .ro] (.int .i64 r) := by
 unfold ref08_operands at h
 refine callP_of_spec cf164 okP Tryz.func164 (by rfl) (by kernel_rfl) Tryz.call164 Tryz.ntmps164 (by rfl) (by rfl) ?_;intro E H0 K hE hK
 have hO : Own Eq H0 [] H0 := .start stable_eq rfl
 cbv;obtain ⟨s2, hx, h⟩ := bind_some h;refine n_loopN cf164 hE okP (fun s1 => [(0, .v (.int .i64 x_op)), (1, .v (.sl (Ar.lst (V.int .i64) x_kinds) .ro)), (5, .v (.int .i64 s1))]) (fun s1 H1 => Own Eq H0 [] H1) (fun x e l H1 => match (generalizing := false) x with | .inl y => e = .exit 0 ∧ l = [] ∧ Own Eq H0 [] H1 | .inr y => e = .ret ∧ l = [(4, .v (.int .i64 9))] ∧ Own Eq H0 [] H1) (by kernel_rfl) ?_ hx ?_ hO ?_
 ·intro s1 H o hO h;clear hx;cbv;refine n_ln hE ?_;cbv;refine n_br hE h (fun hc h => ?_) (fun hc h => ?_)
  ·cbv;refine n_call hE (g := fun r3 => .int .i64 r3) h (fun r3 hx => c204 N x_op r3 hx) (.refl _) fun r3 h => ?_;cbv;refine n_br hE h (fun hc h => ?_) (fun hc h => ?_)
   ·cbv;refine n_idx hE (fun _ => rfl) h fun x4 h => ?_;cbv;refine n_br hE h (fun hc h => ?_) (fun hc h => ?_)
    ·cbv;have h := ret_some h;subst h;exact ⟨_, _, rfl, ⟨rfl, rfl, hO⟩, .e rfl (.z), rfl⟩
    ·cbv;refine n_br hE h (fun hc h => ?_) (fun hc h => ?_)
     ·cbv;refine n_idx hE (fun _ => rfl) h fun x5 h => ?_;cbv;refine n_idx hE (fun _ => rfl) h fun x6 h => ?_;cbv;refine n_br hE h (fun hc h => ?_) (fun hc h => ?_)
      ·cbv;have h := ret_some h;subst h;exact ⟨_, _, rfl, ⟨rfl, rfl, hO⟩, .e rfl (.z), rfl⟩
      ·cbv;have h := ret_some h;subst h;exact ⟨_, rfl, .e rfl (.e rfl (.e rfl (.z))), rfl, hO⟩
     ·cbv;have h := ret_some h;subst h;exact ⟨_, rfl, .e rfl (.e rfl (.e rfl (.z))), rfl, hO⟩
   ·cbv;refine n_br hE h (fun hc h => ?_) (fun hc h => ?_)
    ·cbv;refine n_idx hE (fun _ => rfl) h fun x7 h => ?_;cbv;refine n_idx hE (fun _ => rfl) h fun x8 h => ?_;cbv;refine n_br hE h (fun hc h => ?_) (fun hc h => ?_)
     ·cbv;have h := ret_some h;subst h;exact ⟨_, _, rfl, ⟨rfl, rfl, hO⟩, .e rfl (.z), rfl⟩
     ·cbv;have h := ret_some h;subst h;exact ⟨_, rfl, .e rfl (.e rfl (.e rfl (.z))), rfl, hO⟩
    ·cbv;have h := ret_some h;subst h;exact ⟨_, rfl, .e rfl (.e rfl (.e rfl (.z))), rfl, hO⟩
  ·cbv;have h := ret_some h;subst h;exact ⟨_, _, rfl, ⟨rfl, rfl, hO⟩, .z, rfl⟩
 ·exact .e rfl (.e rfl (.e rfl (.z)))
 ·clear hx
  rcases s2 with y9 | y10
  ·rintro e l H ⟨rfl, rfl, hO⟩;cbv;have h := ret_some h;subst h;exact hK _ _ _ hO (.refl _)
  ·rintro e l H ⟨rfl, rfl, hO⟩;cbv;have h := ret_some h;subst h;exact hK _ _ _ hO (.refl _)
def cf165 : Cf := ⟨[], [], [], [], [], []⟩
theorem c165 (N : Nat) (x_op : Int) (r : Int) (h : ref08_result N x_op = some r) : CallP Tryz.prog 165 [.int .i64 x_op] (.int .i64 r) := by
 unfold ref08_result at h
 refine callP_of_spec cf165 okP Tryz.func165 (by rfl) (by kernel_rfl) Tryz.call165 Tryz.ntmps165 (by rfl) (by rfl) ?_;intro E H0 K hE hK
 have hO : Own Eq H0 [] H0 := .start stable_eq rfl
 cbv;refine n_br hE h (fun hc h => ?_) (fun hc h => ?_)
 ·cbv;have h := ret_some h;subst h;exact hK _ _ _ hO (.refl _)
 ·cbv;have h := ret_some h;subst h;exact hK _ _ _ hO (.refl _)
def cf131 : Cf := ⟨[], [], [], [], [], []⟩
theorem c131 (N : Nat) : ∀ (n : Nat) (x_types : List GSchema) (x_vars : List GVariable) (x_e : GExpr) (r : (Int × Int)), ref08_kind N n x_types x_vars x_e = some r → CallP Tryz.prog 131 [.sl (Ar.lst Encs.eGSchema x_types) .ro, .sl (Ar.lst Encs.eGVariable x_vars) .ro, .agg [.int .i64 x_e.Op, .sl (Ar.lst Encs.eGExpr x_e.Args) .ro, .int .i64 x_e.Var, .int .i64 x_e.Field, .int .i64 x_e.Kind, .int .i64 x_e.Value.Kind, .int .i64 x_e.Value.Num, .str x_e.Value.Text]] (.tup [.int .i64 r.1, .int .i64 r.2]) := by
 intro n
 induction n with
 | zero => intro x_types x_vars x_e r h; cases h
 | succ n ih =>
 intro x_types x_vars x_e r h
 unfold ref08_kind at h
 refine callP_of_spec cf131 okP Tryz.func131 (by rfl) (by kernel_rfl) Tryz.call131 Tryz.ntmps131 (by rfl) (by rfl) ?_;intro E H0 K hE hK
 have hO : Own Eq H0 [] H0 := .start stable_eq rfl
 cbv;refine n_ln hE ?_;cbv;refine n_br hE h (fun hc h => ?_) (fun hc h => ?_)
 ·cbv;refine n_call hE (g := fun r1 => .tup [.int .i64 r1.1, .int .i64 r1.2]) h (fun r1 hx => c163 N x_types x_vars x_e r1 hx) (.refl _) fun r1 h => ?_;cbv;have h := ret_some h;subst h;exact hK _ _ _ hO (.refl _)
 ·cbv;replace hO := hO.tl0 (t := .nil) rfl;obtain ⟨s4, hx, h⟩ := bind_some h;refine n_loopG cf131 hE okP (γ := Tail) (fun s2 g => [(0, .v (.sl (Ar.lst Encs.eGSchema x_types) .ro)), (1, .v (.sl (Ar.lst Encs.eGVariable x_vars) .ro)), (5, .v (.eref [.int .i64 x_e.Op, .sl (Ar.lst Encs.eGExpr x_e.Args) .ro, .int .i64 x_e.Var, .int .i64 x_e.Field, .int .i64 x_e.Kind, .int .i64 x_e.Value.Kind, .int .i64 x_e.Value.Num, .str x_e.Value.Text] 0)), (8, .v (.sl (Ar.lst (V.int .i64) s2.1) g)), (9, .v (.int .i64 s2.2))]) (fun s2 g H1 => Appn g ∧ Own Eq H0 [.tl g] H1) (fun x e l H1 => match (generalizing := false) x with | .inl y => ∃ u1 : Tail, Appn u1 ∧ e = .exit 0 ∧ l = [(5, .v (.eref [.int .i64 x_e.Op, .sl (Ar.lst Encs.eGExpr x_e.Args) .ro, .int .i64 x_e.Var, .int .i64 x_e.Field, .int .i64 x_e.Kind, .int .i64 x_e.Value.Kind, .int .i64 x_e.Value.Num, .str x_e.Value.Text] 0)), (8, .v (.sl (Ar.lst (V.int .i64) y) u1))] ∧ Own Eq H0 [.tl u1] H1 | .inr y => ∃ u1 : Tail, Appn u1 ∧ e = .ret ∧ l = [(6, .v (.int .i64 0)), (7, .v (.int .i64 y))] ∧ Own Eq H0 [.tl u1] H1) (by kernel_rfl) ?_ .nil hx ?_ ?_ ?_
  ·rintro s2 t3 H o ⟨ht3, hO⟩ h;clear hx;cbv;refine n_ln hE ?_;cbv;refine n_br hE h (fun hc h => ?_) (fun hc h => ?_)
   ·cbv;refine n_idx hE Encs.eGExpr_eq h fun x5 h => ?_;cbv;refine n_call hE (g := fun r6 => .tup [.int .i64 r6.1, .int .i64 r6.2]) h (fun r6 hx => ih x_types x_vars x5 r6 hx) (.refl _) fun r6 h => ?_;cbv;refine n_br hE h (fun hc h => ?_) (fun hc h => ?_)
    ·cbv;have h := ret_some h;subst h;exact ⟨_, _, rfl, ⟨t3, ht3, rfl, rfl, hO⟩, .e rfl (.e rfl (.z)), rfl⟩
    ·cbv;refine n_appn (f := (V.int .i64)) hE (fun _ => rfl) (by decide) hO 0 rfl ht3 (l := s2.1) (m := [r6.1]) (.refl _) (.lstc (.refl _) (.lst0)) h fun l8 t7 H hO ht7 h => ?_;cbv;have h := ret_some h;subst h;exact ⟨_, t7, rfl, .e rfl (.e rfl (.e rfl (.e rfl (.e rfl (.z))))), rfl, ht7, hO⟩
   ·cbv;have h := ret_some h;subst h;exact ⟨_, _, rfl, ⟨t3, ht3, rfl, rfl, hO⟩, .e rfl (.e rfl (.z)), rfl⟩
  ·exact .e rfl (.e rfl (.e rfl (.v (.slt _ (.lst0)) (.e rfl (.z)))))
  ·exact ⟨trivial, hO⟩
  ·clear hx
   rcases s4 with y9 | y13
   ·rintro e l H ⟨t10, ht10, rfl, rfl, hO⟩;cbv;refine n_call hE (g := fun r11 => .int .i64 r11) h (fun r11 hx => c164 N x_e.Op y9 r11 hx) (.cons (.refl _) (.cons (.ro _ _) (.refl _))) fun r11 h => ?_;cbv;refine n_br hE h (fun hc h => ?_) (fun hc h => ?_)
    ·cbv;have h := ret_some h;subst h;exact hK _ _ _ hO (.refl _)
    ·cbv;refine n_call hE (g := fun r12 => .int .i64 r12) h (fun r12 hx => c165 N x_e.Op r12 hx) (.refl _) fun r12 h => ?_;cbv;have h := ret_some h;subst h;exact hK _ _ _ hO (.refl _)
   ·rintro e l H ⟨t14, ht14, rfl, rfl, hO⟩;cbv;have h := ret_some h;subst h;exact hK _ _ _ hO (.refl _)
def cf95 : Cf := ⟨[], [], [], [], [], []⟩
theorem c95 (N : Nat) (x_types : List GSchema) (x_vars : List GVariable) (x_e : GExpr) (r : (Int × Int)) (h : ref08_Kind N x_types x_vars x_e = some r) : CallP Tryz.prog 95 [.sl (Ar.lst Encs.eGSchema x_types) .ro, .sl (Ar.lst Encs.eGVariable x_vars) .ro, .agg [.int .i64 x_e.Op, .sl (Ar.lst Encs.eGExpr x_e.Args) .ro, .int .i64 x_e.Var, .int .i64 x_e.Field, .int .i64 x_e.Kind, .int .i64 x_e.Value.Kind, .int .i64 x_e.Value.Num, .str x_e.Value.Text]] (.tup [.int .i64 r.1, .int .i64 r.2]) := by
 unfold ref08_Kind at h
 refine callP_of_spec cf95 okP Tryz.func95 (by rfl) (by kernel_rfl) Tryz.call95 Tryz.ntmps95 (by rfl) (by rfl) ?_;intro E H0 K hE hK
 have hO : Own Eq H0 [] H0 := .start stable_eq rfl
 cbv;refine n_call hE (g := fun r1 => .int .i64 r1) h (fun r1 hx => c94 N x_types r1 hx) (.refl _) fun r1 h => ?_;cbv;refine n_br hE h (fun hc h => ?_) (fun hc h => ?_)
 ·cbv;have h := ret_some h;subst h;exact hK _ _ _ hO (.refl _)
 ·cbv;refine n_call hE (g := fun r2 => .int .i64 r2) h (fun r2 hx => c129 N x_types x_vars r2 hx) (.refl _) fun r2 h => ?_;cbv;refine n_br hE h (fun hc h => ?_) (fun hc h => ?_)
  ·cbv;have h := ret_some h;subst h;exact hK _ _ _ hO (.refl _)
  ·cbv;refine n_call hE (g := fun r3 => .int .i64 r3) h (fun r3 hx => c130 N x_e r3 hx) (.refl _) fun r3 h => ?_;cbv;refine n_br hE h (fun hc h => ?_) (fun hc h => ?_)
   ·cbv;have h := ret_some h;subst h;exact hK _ _ _ hO (.refl _)
   ·cbv;refine n_call hE (g := fun r4 => .tup [.int .i64 r4.1, .int .i64 r4.2]) h (fun r4 hx => c131 N N x_types x_vars x_e r4 hx) (.refl _) fun r4 h => ?_;cbv;have h := ret_some h;subst h;exact hK _ _ _ hO (.refl _)
def cf166 : Cf := ⟨[], [(2, 9), (4, 12)], [(70, 11)], [], [], []⟩
theorem c166 (N : Nat) : ∀ (n : Nat) (x_e : GExpr) (x_own : Int) (x_field : Int) (r : (Int × Int × Bool)), ref27_linear N n x_e x_own x_field = some r → CallP Tryz.prog 166 [.agg [.int .i64 x_e.Op, .sl (Ar.lst Encs.eGExpr x_e.Args) .ro, .int .i64 x_e.Var, .int .i64 x_e.Field, .int .i64 x_e.Kind, .int .i64 x_e.Value.Kind, .int .i64 x_e.Value.Num, .str x_e.Value.Text], .int .i64 x_own, .int .i64 x_field] (.tup [.int .i64 r.1, .int .i64 r.2.1, .bool r.2.2]) := by
 intro n
 induction n with
 | zero => intro x_e x_own x_field r h; cases h
 | succ n ih =>
 intro x_e x_own x_field r h
 unfold ref27_linear at h
 refine callP_of_spec cf166 okP Tryz.func166 (by rfl) (by kernel_rfl) Tryz.call166 Tryz.ntmps166 (by rfl) (by rfl) ?_;intro E H0 K hE hK
 have hO : Own Eq H0 [] H0 := .start stable_eq rfl
 cbv;refine n_br hE h (fun hc h => ?_) (fun hc h => ?_)
 ·cbv;have h := ret_some h;subst h;exact hK _ _ _ hO (.refl _)
 ·cbv;refine n_br hE h (fun hc h => ?_) (fun hc h => ?_)
  ·cbv;have h := ret_some h;subst h;exact hK _ _ _ hO (.refl _)
  ·cbv;refine n_br hE h (fun hc h => ?_) (fun hc h => ?_)
   ·cbv;have h := ret_some h;subst h;exact hK _ _ _ hO (.refl _)
   ·cbv;refine n_idx hE Encs.eGExpr_eq h fun x1 h => ?_;cbv;refine n_call hE (g := fun r2 => .tup [.int .i64 r2.1, .int .i64 r2.2.1, .bool r2.2.2]) h (fun r2 hx => ih x1 x_own x_field r2 hx) (.refl _) fun r2 h => ?_;cbv;refine n_idx hE Encs.eGExpr_eq h fun x3 h => ?_;cbv;refine n_call hE (g := fun r4 => .tup [.int .i64 r4.1, .int .i64 r4.2.1, .bool r4.2.2]) h (fun r4 hx => ih x3 x_own x_field r4 hx) (.refl _) fun r4 h => ?_;cbv;obtain ⟨s5, hx, h⟩ := bind_some h;refine n_join cf166 hE okP (fun e l H1 => e = .normal ∧ l = [(9, .v (.int .i64 r2.1)), (10, .v (.int .i64 r2.2.1)), (11, .v (.bool r2.2.2)), (12, .v (.int .i64 s5.1)), (13, .v (.int .i64 s5.2)), (14, .v (.bool r4.2.2))] ∧ Own Eq H0 [] H1) (by kernel_rfl) ?_ ?_
    ·clear h;have h := hx;clear hx;cbv;refine n_br hE h (fun hc h => ?_) (fun hc h => ?_)
     ·cbv;have h := ret_some h;subst h;exact ⟨_, ⟨rfl, rfl, hO⟩, .e rfl (.e rfl (.e rfl (.e rfl (.e rfl (.e rfl (.z)))))), rfl⟩
     ·cbv;have h := ret_some h;subst h;exact ⟨_, ⟨rfl, rfl, hO⟩, .e rfl (.e rfl (.e rfl (.e rfl (.e rfl (.e rfl (.z)))))), rfl⟩
    ·clear hx;rintro e l H ⟨rfl, rfl, hO⟩;cbv;have h := ret_some h;subst h;exact hK _ _ _ hO (.refl _)
def cf205 : Cf := ⟨[], [], [], [], [], []⟩
theorem c205 (N : Nat) (x_low : Int) (x_high : Int) (r : (List GInterval)) (h : ref27_span N x_low x_high = some r) : CallP Tryz.prog 205 [.int .i64 x_low, .int .i64 x_high] (.sl (Ar.lst Encs.eGInterval r) .ro) := by
 unfold ref27_span at h
 refine callP_of_spec cf205 okP Tryz.func205 (by rfl) (by kernel_rfl) Tryz.call205 Tryz.ntmps205 (by rfl) (by rfl) ?_;intro E H0 K hE hK
 have hO : Own Eq H0 [] H0 := .start stable_eq rfl
 cbv;refine n_br hE h (fun hc h => ?_) (fun hc h => ?_)
 ·cbv;have h := ret_some h;subst h;exact hK _ _ _ hO (.lit _ (lst_nil))
 ·cbv;have h := ret_some h;subst h;exact hK _ _ _ hO (.lit _ (lst_cons ((Encs.eGInterval_eq (⟨Ar.mx x_low (-1099511627776), Ar.mn x_high 1099511627776⟩ : GInterval)).symm) (lst_nil)))
def cf206 : Cf := ⟨[], [], [], [], [], []⟩
theorem c206 (N : Nat) (x_a : Int) (x_b : Int) (r : Int) (h : ref27_floor N x_a x_b = some r) : CallP Tryz.prog 206 [.int .i64 x_a, .int .i64 x_b] (.int .i64 r) := by
 unfold ref27_floor at h
 refine callP_of_spec cf206 okP Tryz.func206 (by rfl) (by kernel_rfl) Tryz.call206 Tryz.ntmps206 (by rfl) (by rfl) ?_;intro E H0 K hE hK
 have hO : Own Eq H0 [] H0 := .start stable_eq rfl
 cbv;refine n_needB hE h fun h => ?_;cbv;refine n_needB hE h fun h => ?_;cbv;refine n_br hE h (fun hc h => ?_) (fun hc h => ?_)
 ·cbv;have h := ret_some h;subst h;exact hK _ _ _ hO (.refl _)
 ·cbv;have h := ret_some h;subst h;exact hK _ _ _ hO (.refl _)
def cf167 : Cf := ⟨[], [], [], [], [], []⟩
theorem c167 (N : Nat) (x_factor : Int) (x_bound : Int) (r : (List GInterval)) (h : ref27_most N x_factor x_bound = some r) : CallP Tryz.prog 167 [.int .i64 x_factor, .int .i64 x_bound] (.sl (Ar.lst Encs.eGInterval r) .ro) := by
 unfold ref27_most at h
 refine callP_of_spec cf167 okP Tryz.func167 (by rfl) (by kernel_rfl) Tryz.call167 Tryz.ntmps167 (by rfl) (by rfl) ?_;intro E H0 K hE hK
 have hO : Own Eq H0 [] H0 := .start stable_eq rfl
 cbv;refine n_br hE h (fun hc h => ?_) (fun hc h => ?_)
 ·cbv;refine n_call hE (g := fun r1 => .int .i64 r1) h (fun r1 hx => c206 N x_bound x_factor r1 hx) (.refl _) fun r1 h => ?_;cbv;refine n_call hE (g := fun r2 => .sl (Ar.lst Encs.eGInterval r2) .ro) h (fun r2 hx => c205 N (-1099511627776) r1 r2 hx) (.refl _) fun r2 h => ?_;cbv;have h := ret_some h;subst h;exact hK _ _ _ hO (.refl _)
 ·cbv;refine n_br hE h (fun hc h => ?_) (fun hc h => ?_)
  ·cbv;refine n_call hE (g := fun r3 => .int .i64 r3) h (fun r3 hx => c206 N x_bound (Ar.neg .i64 x_factor) r3 hx) (.refl _) fun r3 h => ?_;cbv;refine n_call hE (g := fun r4 => .sl (Ar.lst Encs.eGInterval r4) .ro) h (fun r4 hx => c205 N (Ar.neg .i64 r3) 1099511627776 r4 hx) (.refl _) fun r4 h => ?_;cbv;have h := ret_some h;subst h;exact hK _ _ _ hO (.refl _)
  ·cbv;refine n_br hE h (fun hc h => ?_) (fun hc h => ?_)
   ·cbv;refine n_call hE (g := fun r5 => .sl (Ar.lst Encs.eGInterval r5) .ro) h (fun r5 hx => c86 N ([]) r5 hx) (.cons (.lit _ (lst_nil)) (.refl _)) fun r5 h => ?_;cbv;have h := ret_some h;subst h;exact hK _ _ _ hO (.refl _)
   ·cbv;have h := ret_some h;subst h;exact hK _ _ _ hO (.lit _ (lst_nil))
def cf132 : Cf := ⟨[], [], [], [], [], []⟩
theorem c132 (N : Nat) (x_e : GExpr) (x_own : Int) (x_field : Int) (r : ((List GInterval) × Bool)) (h : ref27_compared N x_e x_own x_field = some r) : CallP Tryz.prog 132 [.agg [.int .i64 x_e.Op, .sl (Ar.lst Encs.eGExpr x_e.Args) .ro, .int .i64 x_e.Var, .int .i64 x_e.Field, .int .i64 x_e.Kind, .int .i64 x_e.Value.Kind, .int .i64 x_e.Value.Num, .str x_e.Value.Text], .int .i64 x_own, .int .i64 x_field] (.tup [.sl (Ar.lst Encs.eGInterval r.1) .ro, .bool r.2]) := by
 unfold ref27_compared at h
 refine callP_of_spec cf132 okP Tryz.func132 (by rfl) (by kernel_rfl) Tryz.call132 Tryz.ntmps132 (by rfl) (by rfl) ?_;intro E H0 K hE hK
 have hO : Own Eq H0 [] H0 := .start stable_eq rfl
 cbv;refine n_idx hE Encs.eGExpr_eq h fun x1 h => ?_;cbv;refine n_call hE (g := fun r2 => .tup [.int .i64 r2.1, .int .i64 r2.2.1, .bool r2.2.2]) h (fun r2 hx => c166 N N x1 x_own x_field r2 hx) (.refl _) fun r2 h => ?_;cbv;refine n_idx hE Encs.eGExpr_eq h fun x3 h => ?_;cbv;refine n_call hE (g := fun r4 => .tup [.int .i64 r4.1, .int .i64 r4.2.1, .bool r4.2.2]) h (fun r4 hx => c166 N N x3 x_own x_field r4 hx) (.refl _) fun r4 h => ?_;cbv;refine n_br hE h (fun hc h => ?_) (fun hc h => ?_)
 ·cbv;have h := ret_some h;subst h;exact hK _ _ _ hO (.tup (.cons (.lit _ (lst_nil)) (.refl _)))
 ·cbv;refine n_br hE h (fun hc h => ?_) (fun hc h => ?_)
  ·cbv;refine n_call hE (g := fun r5 => .sl (Ar.lst Encs.eGInterval r5) .ro) h (fun r5 hx => c167 N (Ar.ar .sub .i64 r2.1 r4.1) (Ar.ar .sub .i64 (Ar.neg .i64 (Ar.ar .sub .i64 r2.2.1 r4.2.1)) 1) r5 hx) (.refl _) fun r5 h => ?_;cbv;have h := ret_some h;subst h;exact hK _ _ _ hO (.refl _)
  ·cbv;refine n_br hE h (fun hc h => ?_) (fun hc h => ?_)
   ·cbv;refine n_call hE (g := fun r6 => .sl (Ar.lst Encs.eGInterval r6) .ro) h (fun r6 hx => c167 N (Ar.ar .sub .i64 r2.1 r4.1) (Ar.neg .i64 (Ar.ar .sub .i64 r2.2.1 r4.2.1)) r6 hx) (.refl _) fun r6 h => ?_;cbv;have h := ret_some h;subst h;exact hK _ _ _ hO (.refl _)
   ·cbv;refine n_call hE (g := fun r7 => .sl (Ar.lst Encs.eGInterval r7) .ro) h (fun r7 hx => c167 N (Ar.ar .sub .i64 r2.1 r4.1) (Ar.neg .i64 (Ar.ar .sub .i64 r2.2.1 r4.2.1)) r7 hx) (.refl _) fun r7 h => ?_;cbv;refine n_call hE (g := fun r8 => .sl (Ar.lst Encs.eGInterval r8) .ro) h (fun r8 hx => c167 N (Ar.neg .i64 (Ar.ar .sub .i64 r2.1 r4.1)) (Ar.ar .sub .i64 r2.2.1 r4.2.1) r8 hx) (.refl _) fun r8 h => ?_;cbv;refine n_call hE (g := fun r9 => .sl (Ar.lst Encs.eGInterval r9) .ro) h (fun r9 hx => c48 N r7 r8 r9 hx) (.refl _) fun r9 h => ?_;cbv;have h := ret_some h;subst h;exact hK _ _ _ hO (.refl _)
end Go.Ab

