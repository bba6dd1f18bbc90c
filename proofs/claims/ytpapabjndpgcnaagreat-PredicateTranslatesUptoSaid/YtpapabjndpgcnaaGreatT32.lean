/- GPCo3 -/
import Derived.Test.YtpapabjndpgcnaaGreatT31
set_option linter.all false

namespace Go.Ab
open Go.RowKit Go.Proofs
variable [Ar] [Encs]
set_option maxRecDepth 100000
def cf76 : Cf := ⟨[], [], [], [], [], []⟩
theorem c76 (N : Nat) (r : (List GInterval)) (h : predicate_whole N  = some r) : CallP Tryz.prog 76 [] (.sl (Ar.lst Encs.eGInterval r) .ro) := by
 unfold predicate_whole at h
 refine callP_of_spec cf76 okP Tryz.func76 (by rfl) (by kernel_rfl) Tryz.call76 Tryz.ntmps76 (by rfl) (by rfl) ?_;intro E H0 K hE hK
 have hO : Own Eq H0 [] H0 := .start stable_eq rfl
 cbv;have h := ret_some h;subst h;exact hK _ _ _ hO (.lit _ (lst_cons ((Encs.eGInterval_eq (⟨(-1099511627776), 1099511627776⟩ : GInterval)).symm) (lst_nil)))
def cf122 : Cf := ⟨[6, 10], [(3, 9), (5, 12)], [(37, 8), (62, 12)], [], [], [(3, 6, [6]), (5, 6, [6])]⟩
theorem c122 (N : Nat) : ∀ (n : Nat) (x_e : GExpr) (x_field : Int) (x_own : Int) (r : (Gpredicate_line × Bool)), predicate_linear N n x_e x_field x_own = some r → CallP Tryz.prog 122 [.agg [.int .i64 x_e.Op, .sl (Ar.lst Encs.eGExpr x_e.Args) .ro, .int .i64 x_e.Var, .int .i64 x_e.Field, .int .i64 x_e.Kind, .int .i64 x_e.Value.Kind, .int .i64 x_e.Value.Num, .str x_e.Value.Text], .int .i64 x_field, .int .i64 x_own] (.tup [.agg [.int .i64 r.1.times, .int .i64 r.1.plus], .bool r.2]) := by
 intro n
 induction n with
 | zero => intro x_e x_field x_own r h; cases h
 | succ n ih =>
 intro x_e x_field x_own r h
 unfold predicate_linear at h
 refine callP_of_spec cf122 okP Tryz.func122 (by rfl) (by kernel_rfl) Tryz.call122 Tryz.ntmps122 (by rfl) (by rfl) ?_;intro E H0 K hE hK
 have hO : Own Eq H0 [] H0 := .start stable_eq rfl
 cbv;refine n_alloc hE hO fun b1 H hO => ?_;cbv;refine n_br hE h (fun hc h => ?_) (fun hc h => ?_)
 ·cbv;refine n_take hE hO 0 rfl fun H1 hT hW => ?_;cbv;refine n_need hE trivial ?_;cbv;refine n_give hE hO 0 rfl hT fun H hO => ?_;cbv;refine n_load hE hO 0 rfl ?_;cbv;have h := ret_some h;subst h;exact hK _ _ _ hO (.refl _)
 ·cbv;refine n_br hE h (fun hc h => ?_) (fun hc h => ?_)
  ·cbv;refine n_take hE hO 0 rfl fun H1 hT hW => ?_;cbv;refine n_need hE trivial ?_;cbv;refine n_give hE hO 0 rfl hT fun H hO => ?_;cbv;refine n_load hE hO 0 rfl ?_;cbv;have h := ret_some h;subst h;exact hK _ _ _ hO (.refl _)
  ·cbv;obtain ⟨s2, hx, h⟩ := bind_some h;refine n_join cf122 hE okP (fun e l H1 => e = .normal ∧ l = [(1, .v (.int .i64 x_field)), (2, .v (.int .i64 x_own)), (3, .v (.eref [.int .i64 x_e.Op, .sl (Ar.lst Encs.eGExpr x_e.Args) .ro, .int .i64 x_e.Var, .int .i64 x_e.Field, .int .i64 x_e.Kind, .int .i64 x_e.Value.Kind, .int .i64 x_e.Value.Num, .str x_e.Value.Text] 0)), (6, .v (.ref b1 0)), (37, .v (.bool s2))] ∧ Own Eq H0 [.blk b1 (.cells [.int .i64 0, .int .i64 0])] H1) (by kernel_rfl) ?_ ?_
   ·clear h;have h := hx;clear hx;cbv;refine n_br hE h (fun hc h => ?_) (fun hc h => ?_)
    ·cbv;have h := ret_some h;subst h;exact ⟨_, ⟨rfl, rfl, hO⟩, .e rfl (.e rfl (.e rfl (.e rfl (.e rfl (.z))))), rfl⟩
    ·cbv;have h := ret_some h;subst h;exact ⟨_, ⟨rfl, rfl, hO⟩, .e rfl (.e rfl (.e rfl (.e rfl (.e rfl (.z))))), rfl⟩
   ·clear hx;rintro e l H ⟨rfl, rfl, hO⟩;cbv;refine n_br hE h (fun hc h => ?_) (fun hc h => ?_)
    ·cbv;refine n_idx hE Encs.eGExpr_eq h fun x3 h => ?_;cbv;refine n_call hE (g := fun r4 => .tup [.agg [.int .i64 r4.1.times, .int .i64 r4.1.plus], .bool r4.2]) h (fun r4 hx => ih x3 x_field x_own r4 hx) (.refl _) fun r4 h => ?_;cbv;refine n_idx hE Encs.eGExpr_eq h fun x5 h => ?_;cbv;refine n_call hE (g := fun r6 => .tup [.agg [.int .i64 r6.1.times, .int .i64 r6.1.plus], .bool r6.2]) h (fun r6 hx => ih x5 x_field x_own r6 hx) (.refl _) fun r6 h => ?_;cbv;refine n_alloc hE hO fun b7 H hO => ?_;cbv;refine n_store hE hO 0 rfl rfl fun H hO => ?_;cbv;obtain ⟨s8, hx, h⟩ := bind_some h;refine n_join cf122 hE okP (fun e l H1 => e = .normal ∧ l = [(6, .v (.ref b1 0)), (8, .v (.eref [.int .i64 r4.1.times, .int .i64 r4.1.plus] 0)), (9, .v (.bool r4.2)), (10, .v (.ref b7 0)), (11, .v (.bool r6.2))] ∧ Own Eq H0 [.blk b7 (.cells [.int .i64 s8.times, .int .i64 s8.plus]), .blk b1 (.cells [.int .i64 0, .int .i64 0])] H1) (by kernel_rfl) ?_ ?_
     ·clear h;have h := hx;clear hx;cbv;refine n_br hE h (fun hc h => ?_) (fun hc h => ?_)
      ·cbv;refine n_load hE hO 0 rfl ?_;cbv;refine n_load hE hO 0 rfl ?_;cbv;refine n_store hE hO 0 rfl rfl fun H hO => ?_;cbv;have h := ret_some h;subst h;exact ⟨_, ⟨rfl, rfl, hO⟩, .e rfl (.e rfl (.e rfl (.e rfl (.e rfl (.z))))), rfl⟩
      ·cbv;have h := ret_some h;subst h;exact ⟨_, ⟨rfl, rfl, hO⟩, .e rfl (.e rfl (.e rfl (.e rfl (.e rfl (.z))))), rfl⟩
     ·clear hx;rintro e l H ⟨rfl, rfl, hO⟩;cbv;refine n_load hE hO 0 rfl ?_;cbv;refine n_load hE hO 0 rfl ?_;cbv;refine n_store hE hO 1 rfl rfl fun H hO => ?_;cbv;refine n_load hE hO 1 rfl ?_;cbv;have h := ret_some h;subst h;exact hK _ _ _ hO (.refl _)
    ·cbv;refine n_store hE hO 0 rfl rfl fun H hO => ?_;cbv;refine n_load hE hO 0 rfl ?_;cbv;have h := ret_some h;subst h;exact hK _ _ _ hO (.refl _)
def cf198 : Cf := ⟨[], [], [], [], [], []⟩
theorem c198 (N : Nat) (x_low : Int) (x_high : Int) (r : (List GInterval)) (h : predicate_between N x_low x_high = some r) : CallP Tryz.prog 198 [.int .i64 x_low, .int .i64 x_high] (.sl (Ar.lst Encs.eGInterval r) .ro) := by
 unfold predicate_between at h
 refine callP_of_spec cf198 okP Tryz.func198 (by rfl) (by kernel_rfl) Tryz.call198 Tryz.ntmps198 (by rfl) (by rfl) ?_;intro E H0 K hE hK
 have hO : Own Eq H0 [] H0 := .start stable_eq rfl
 cbv;refine n_br hE h (fun hc h => ?_) (fun hc h => ?_)
 ·cbv;have h := ret_some h;subst h;exact hK _ _ _ hO (.lit _ (lst_nil))
 ·cbv;have h := ret_some h;subst h;exact hK _ _ _ hO (.lit _ (lst_cons ((Encs.eGInterval_eq (⟨Ar.mx x_low (-1099511627776), Ar.mn x_high 1099511627776⟩ : GInterval)).symm) (lst_nil)))
def cf199 : Cf := ⟨[], [], [], [], [], []⟩
theorem c199 (N : Nat) (x_a : Int) (x_b : Int) (r : Int) (h : predicate_down N x_a x_b = some r) : CallP Tryz.prog 199 [.int .i64 x_a, .int .i64 x_b] (.int .i64 r) := by
 unfold predicate_down at h
 refine callP_of_spec cf199 okP Tryz.func199 (by rfl) (by kernel_rfl) Tryz.call199 Tryz.ntmps199 (by rfl) (by rfl) ?_;intro E H0 K hE hK
 have hO : Own Eq H0 [] H0 := .start stable_eq rfl
 cbv;refine n_needB hE h fun h => ?_;cbv;refine n_needB hE h fun h => ?_;cbv;refine n_br hE h (fun hc h => ?_) (fun hc h => ?_)
 ·cbv;have h := ret_some h;subst h;exact hK _ _ _ hO (.refl _)
 ·cbv;have h := ret_some h;subst h;exact hK _ _ _ hO (.refl _)
def cf158 : Cf := ⟨[], [], [], [], [], []⟩
theorem c158 (N : Nat) (x_a : Gpredicate_line) (r : (List GInterval)) (h : predicate_most N x_a = some r) : CallP Tryz.prog 158 [.agg [.int .i64 x_a.times, .int .i64 x_a.plus]] (.sl (Ar.lst Encs.eGInterval r) .ro) := by
 unfold predicate_most at h
 refine callP_of_spec cf158 okP Tryz.func158 (by rfl) (by kernel_rfl) Tryz.call158 Tryz.ntmps158 (by rfl) (by rfl) ?_;intro E H0 K hE hK
 have hO : Own Eq H0 [] H0 := .start stable_eq rfl
 cbv;refine n_br hE h (fun hc h => ?_) (fun hc h => ?_)
 ·cbv;refine n_call hE (g := fun r1 => .int .i64 r1) h (fun r1 hx => c199 N (Ar.neg .i64 x_a.plus) x_a.times r1 hx) (.refl _) fun r1 h => ?_;cbv;refine n_call hE (g := fun r2 => .sl (Ar.lst Encs.eGInterval r2) .ro) h (fun r2 hx => c198 N (-1099511627776) r1 r2 hx) (.refl _) fun r2 h => ?_;cbv;have h := ret_some h;subst h;exact hK _ _ _ hO (.refl _)
 ·cbv;refine n_br hE h (fun hc h => ?_) (fun hc h => ?_)
  ·cbv;refine n_call hE (g := fun r3 => .int .i64 r3) h (fun r3 hx => c199 N (Ar.neg .i64 x_a.plus) (Ar.neg .i64 x_a.times) r3 hx) (.refl _) fun r3 h => ?_;cbv;refine n_call hE (g := fun r4 => .sl (Ar.lst Encs.eGInterval r4) .ro) h (fun r4 hx => c198 N (Ar.neg .i64 r3) 1099511627776 r4 hx) (.refl _) fun r4 h => ?_;cbv;have h := ret_some h;subst h;exact hK _ _ _ hO (.refl _)
  ·cbv;refine n_br hE h (fun hc h => ?_) (fun hc h => ?_)
   ·cbv;refine n_call hE (g := fun r5 => .sl (Ar.lst Encs.eGInterval r5) .ro) h (fun r5 hx => c76 N  r5 hx) (.refl _) fun r5 h => ?_;cbv;have h := ret_some h;subst h;exact hK _ _ _ hO (.refl _)
   ·cbv;have h := ret_some h;subst h;exact hK _ _ _ hO (.lit _ (lst_nil))
def cf123 : Cf := ⟨[8], [(8, 13)], [], [], [], []⟩
theorem c123 (N : Nat) (x_op : Int) (x_a : Gpredicate_line) (x_b : Gpredicate_line) (r : ((List GInterval) × Int)) (h : predicate_compared N x_op x_a x_b = some r) : CallP Tryz.prog 123 [.int .i64 x_op, .agg [.int .i64 x_a.times, .int .i64 x_a.plus], .agg [.int .i64 x_b.times, .int .i64 x_b.plus]] (.tup [.sl (Ar.lst Encs.eGInterval r.1) .ro, .int .i64 r.2]) := by
 unfold predicate_compared at h
 refine callP_of_spec cf123 okP Tryz.func123 (by rfl) (by kernel_rfl) Tryz.call123 Tryz.ntmps123 (by rfl) (by rfl) ?_;intro E H0 K hE hK
 have hO : Own Eq H0 [] H0 := .start stable_eq rfl
 cbv;refine n_alloc hE hO fun b1 H hO => ?_;cbv;refine n_store hE hO 0 rfl rfl fun H hO => ?_;cbv;refine n_br hE h (fun hc h => ?_) (fun hc h => ?_)
 ·cbv;refine n_load hE hO 0 rfl ?_;cbv;refine n_store hE hO 0 rfl rfl fun H hO => ?_;cbv;refine n_load hE hO 0 rfl ?_;cbv;refine n_call hE (g := fun r2 => .sl (Ar.lst Encs.eGInterval r2) .ro) h (fun r2 hx => c158 N (⟨Ar.ar .sub .i64 x_a.times x_b.times, Ar.ar .add .i64 (Ar.ar .sub .i64 x_a.plus x_b.plus) 1⟩ : Gpredicate_line) r2 hx) (.refl _) fun r2 h => ?_;cbv;have h := ret_some h;subst h;exact hK _ _ _ hO (.refl _)
 ·cbv;refine n_br hE h (fun hc h => ?_) (fun hc h => ?_)
  ·cbv;refine n_load hE hO 0 rfl ?_;cbv;refine n_call hE (g := fun r3 => .sl (Ar.lst Encs.eGInterval r3) .ro) h (fun r3 hx => c158 N (⟨Ar.ar .sub .i64 x_a.times x_b.times, Ar.ar .sub .i64 x_a.plus x_b.plus⟩ : Gpredicate_line) r3 hx) (.refl _) fun r3 h => ?_;cbv;have h := ret_some h;subst h;exact hK _ _ _ hO (.refl _)
  ·cbv;refine n_load hE hO 0 rfl ?_;cbv;refine n_pcall hE (g := fun r4 => .sl (Ar.lst Encs.eGInterval r4) .ro) h (fun r4 hx => c158 N (⟨Ar.ar .sub .i64 x_a.times x_b.times, Ar.ar .sub .i64 x_a.plus x_b.plus⟩ : Gpredicate_line) r4 hx) (.refl _) fun r4 h => ?_;cbv;refine n_load hE hO 0 rfl ?_;cbv;refine n_load hE hO 0 rfl ?_;cbv;refine n_pcall hE (g := fun r5 => .sl (Ar.lst Encs.eGInterval r5) .ro) h (fun r5 hx => c158 N (⟨Ar.neg .i64 (Ar.ar .sub .i64 x_a.times x_b.times), Ar.neg .i64 (Ar.ar .sub .i64 x_a.plus x_b.plus)⟩ : Gpredicate_line) r5 hx) (.refl _) fun r5 h => ?_;cbv;refine n_pcall hE (g := fun r6 => .tup [.sl (Ar.lst Encs.eGInterval r6.1) .ro, .int .i64 r6.2]) h (fun r6 hx => c63 N r4 r5 r6 hx) (.refl _) fun r6 h => ?_;cbv;have h := ret_some h;subst h;exact hK _ _ _ hO (.refl _)
def cf200 : Cf := ⟨[], [], [], [], [], []⟩
theorem c200 (N : Nat) (x_x : Bool) (x_y : Bool) (r : Bool) (h : interval_Minus_1 N x_x x_y = some r) : CallP Tryz.prog 200 [.bool x_x, .bool x_y] (.bool r) := by
 unfold interval_Minus_1 at h
 refine callP_of_spec cf200 okP Tryz.func200 (by rfl) (by kernel_rfl) Tryz.call200 Tryz.ntmps200 (by rfl) (by rfl) ?_;intro E H0 K hE hK
 have hO : Own Eq H0 [] H0 := .start stable_eq rfl
 cbv;have h := ret_some h;subst h;exact hK _ _ _ hO (.refl _)
def cf159 : Cf := ⟨[], [], [], [], [], []⟩
theorem c159 (N : Nat) (x_a : List GInterval) (x_b : List GInterval) (r : ((List GInterval) × Int)) (h : interval_Minus N x_a x_b = some r) : CallP Tryz.prog 159 [.sl (Ar.lst Encs.eGInterval x_a) .ro, .sl (Ar.lst Encs.eGInterval x_b) .ro] (.tup [.sl (Ar.lst Encs.eGInterval r.1) .ro, .int .i64 r.2]) := by
 unfold interval_Minus at h
 refine callP_of_spec cf159 okP Tryz.func159 (by rfl) (by kernel_rfl) Tryz.call159 Tryz.ntmps159 (by rfl) (by rfl) ?_;intro E H0 K hE hK
 have hO : Own Eq H0 [] H0 := .start stable_eq rfl
 cbv;refine n_call hE (g := fun r1 => .tup [.sl (Ar.lst Encs.eGInterval r1.1) .ro, .int .i64 r1.2]) h (fun r1 hx => c108 N x_a x_b (.func (.func 200) [] []) (fun y1 y2 => interval_Minus_1 N y1 y2) (fun y1 y2 r hx => CallP.value (F := []) (C := []) (c200 N y1 y2 r hx)) r1 hx) (.refl _) fun r1 h => ?_;cbv;have h := ret_some h;subst h;exact hK _ _ _ hO (.refl _)
def cf124 : Cf := ⟨[], [], [], [], [], []⟩
theorem c124 (N : Nat) (x_a : List GInterval) (x_b : List GInterval) (r : ((List GInterval) × Int)) (h : predicate_same N x_a x_b = some r) : CallP Tryz.prog 124 [.sl (Ar.lst Encs.eGInterval x_a) .ro, .sl (Ar.lst Encs.eGInterval x_b) .ro] (.tup [.sl (Ar.lst Encs.eGInterval r.1) .ro, .int .i64 r.2]) := by
 unfold predicate_same at h
 refine callP_of_spec cf124 okP Tryz.func124 (by rfl) (by kernel_rfl) Tryz.call124 Tryz.ntmps124 (by rfl) (by rfl) ?_;intro E H0 K hE hK
 have hO : Own Eq H0 [] H0 := .start stable_eq rfl
 cbv;refine n_call hE (g := fun r1 => .tup [.sl (Ar.lst Encs.eGInterval r1.1) .ro, .int .i64 r1.2]) h (fun r1 hx => c159 N x_a x_b r1 hx) (.refl _) fun r1 h => ?_;cbv;refine n_br hE h (fun hc h => ?_) (fun hc h => ?_)
 ·cbv;have h := ret_some h;subst h;exact hK _ _ _ hO (.tup (.cons (.lit _ (lst_nil)) (.refl _)))
 ·cbv;refine n_call hE (g := fun r2 => .tup [.sl (Ar.lst Encs.eGInterval r2.1) .ro, .int .i64 r2.2]) h (fun r2 hx => c159 N x_b x_a r2 hx) (.refl _) fun r2 h => ?_;cbv;refine n_br hE h (fun hc h => ?_) (fun hc h => ?_)
  ·cbv;have h := ret_some h;subst h;exact hK _ _ _ hO (.tup (.cons (.lit _ (lst_nil)) (.refl _)))
  ·cbv;refine n_call hE (g := fun r3 => .tup [.sl (Ar.lst Encs.eGInterval r3.1) .ro, .int .i64 r3.2]) h (fun r3 hx => c66 N r1.1 r2.1 r3 hx) (.refl _) fun r3 h => ?_;cbv;refine n_br hE h (fun hc h => ?_) (fun hc h => ?_)
   ·cbv;have h := ret_some h;subst h;exact hK _ _ _ hO (.tup (.cons (.lit _ (lst_nil)) (.refl _)))
   ·cbv;refine n_call hE (g := fun r4 => .tup [.sl (Ar.lst Encs.eGInterval r4.1) .ro, .int .i64 r4.2]) h (fun r4 hx => c71 N r3.1 r4 hx) (.refl _) fun r4 h => ?_;cbv;have h := ret_some h;subst h;exact hK _ _ _ hO (.refl _)
def cf92 : Cf := ⟨[], [(32, 9), (34, 9), (37, 9)], [(32, 11)], [0], [], []⟩
theorem c92 (N : Nat) : ∀ (n : Nat) (x_e : GExpr) (x_field : Int) (x_own : Int) (r : ((List GInterval) × Int)), predicate_solve N n x_e x_field x_own = some r → CallP Tryz.prog 92 [.agg [.int .i64 x_e.Op, .sl (Ar.lst Encs.eGExpr x_e.Args) .ro, .int .i64 x_e.Var, .int .i64 x_e.Field, .int .i64 x_e.Kind, .int .i64 x_e.Value.Kind, .int .i64 x_e.Value.Num, .str x_e.Value.Text], .int .i64 x_field, .int .i64 x_own] (.tup [.sl (Ar.lst Encs.eGInterval r.1) .ro, .int .i64 r.2]) := by
 intro n
 induction n with
 | zero => intro x_e x_field x_own r h; cases h
 | succ n ih =>
 intro x_e x_field x_own r h
 unfold predicate_solve at h
 refine callP_of_spec cf92 okP Tryz.func92 (by rfl) (by kernel_rfl) Tryz.call92 Tryz.ntmps92 (by rfl) (by rfl) ?_;intro E H0 K hE hK
 have hO : Own Eq H0 [] H0 := .start stable_eq rfl
 cbv;obtain ⟨s1, hx, h⟩ := bind_some h;refine n_join cf92 hE okP (fun e l H1 => match (generalizing := false) s1 with | .inl y => e = .normal ∧ l = [(1, .v (.int .i64 x_field)), (2, .v (.int .i64 x_own)), (3, .v (.eref [.int .i64 x_e.Op, .sl (Ar.lst Encs.eGExpr x_e.Args) .ro, .int .i64 x_e.Var, .int .i64 x_e.Field, .int .i64 x_e.Kind, .int .i64 x_e.Value.Kind, .int .i64 x_e.Value.Num, .str x_e.Value.Text] 0))] ∧ Own Eq H0 [] H1 | .inr y => e = .ret ∧ l = [(6, .v (.sl (Ar.lst Encs.eGInterval y.1) .ro)), (7, .v (.int .i64 y.2))] ∧ Own Eq H0 [] H1) (by kernel_rfl) ?_ ?_
 ·clear h;have h := hx;clear hx;cbv;refine n_br hE h (fun hc h => ?_) (fun hc h => ?_)
  ·cbv;refine n_br hE h (fun hc h => ?_) (fun hc h => ?_)
   ·cbv;have h := ret_some h;subst h;exact ⟨_, ⟨rfl, rfl, hO⟩, .v (.lit _ (lst_nil)) (.e rfl (.z)), rfl⟩
   ·cbv;refine n_br hE h (fun hc h => ?_) (fun hc h => ?_)
    ·cbv;refine n_call hE (g := fun r2 => .sl (Ar.lst Encs.eGInterval r2) .ro) h (fun r2 hx => c76 N  r2 hx) (.refl _) fun r2 h => ?_;cbv;have h := ret_some h;subst h;exact ⟨_, ⟨rfl, rfl, hO⟩, .e rfl (.e rfl (.z)), rfl⟩
    ·cbv;have h := ret_some h;subst h;exact ⟨_, ⟨rfl, rfl, hO⟩, .v (.lit _ (lst_nil)) (.e rfl (.z)), rfl⟩
  ·cbv;obtain ⟨s3, hx, h⟩ := bind_some h;refine n_join cf92 hE okP (fun e l H1 => e = .normal ∧ l = [(1, .v (.int .i64 x_field)), (2, .v (.int .i64 x_own)), (3, .v (.eref [.int .i64 x_e.Op, .sl (Ar.lst Encs.eGExpr x_e.Args) .ro, .int .i64 x_e.Var, .int .i64 x_e.Field, .int .i64 x_e.Kind, .int .i64 x_e.Value.Kind, .int .i64 x_e.Value.Num, .str x_e.Value.Text] 0)), (18, .v (.int .i64 x_e.Op)), (32, .v (.bool s3))] ∧ Own Eq H0 [] H1) (by kernel_rfl) ?_ ?_
   ·clear h;have h := hx;clear hx;cbv;refine n_br hE h (fun hc h => ?_) (fun hc h => ?_)
    ·cbv;have h := ret_some h;subst h;exact ⟨_, ⟨rfl, rfl, hO⟩, .e rfl (.e rfl (.e rfl (.e rfl (.e rfl (.z))))), rfl⟩
    ·cbv;refine n_br hE h (fun hc h => ?_) (fun hc h => ?_)
     ·cbv;have h := ret_some h;subst h;exact ⟨_, ⟨rfl, rfl, hO⟩, .e rfl (.e rfl (.e rfl (.e rfl (.e rfl (.z))))), rfl⟩
     ·cbv;have h := ret_some h;subst h;exact ⟨_, ⟨rfl, rfl, hO⟩, .e rfl (.e rfl (.e rfl (.e rfl (.e rfl (.z))))), rfl⟩
   ·clear hx;rintro e l H ⟨rfl, rfl, hO⟩;cbv;refine n_br hE h (fun hc h => ?_) (fun hc h => ?_)
    ·cbv;refine n_idx hE Encs.eGExpr_eq h fun x4 h => ?_;cbv;refine n_call hE (g := fun r5 => .tup [.agg [.int .i64 r5.1.times, .int .i64 r5.1.plus], .bool r5.2]) h (fun r5 hx => c122 N N x4 x_field x_own r5 hx) (.refl _) fun r5 h => ?_;cbv;refine n_idx hE Encs.eGExpr_eq h fun x6 h => ?_;cbv;refine n_call hE (g := fun r7 => .tup [.agg [.int .i64 r7.1.times, .int .i64 r7.1.plus], .bool r7.2]) h (fun r7 hx => c122 N N x6 x_field x_own r7 hx) (.refl _) fun r7 h => ?_;cbv;refine n_br hE h (fun hc h => ?_) (fun hc h => ?_)
     ·cbv;refine n_call hE (g := fun r8 => .tup [.sl (Ar.lst Encs.eGInterval r8.1) .ro, .int .i64 r8.2]) h (fun r8 hx => c123 N x_e.Op r5.1 r7.1 r8 hx) (.refl _) fun r8 h => ?_;cbv;have h := ret_some h;subst h;exact ⟨_, ⟨rfl, rfl, hO⟩, .e rfl (.e rfl (.z)), rfl⟩
     ·cbv;refine n_br hE h (fun hc h => ?_) (fun hc h => ?_)
      ·cbv;have h := ret_some h;subst h;exact ⟨_, ⟨rfl, rfl, hO⟩, .v (.lit _ (lst_nil)) (.e rfl (.z)), rfl⟩
      ·cbv;have h := ret_some h;subst h;exact ⟨_, ⟨rfl, rfl, hO⟩, .e rfl (.e rfl (.e rfl (.z))), rfl⟩
    ·cbv;refine n_br hE h (fun hc h => ?_) (fun hc h => ?_)
     ·cbv;have h := ret_some h;subst h;exact ⟨_, ⟨rfl, rfl, hO⟩, .e rfl (.e rfl (.e rfl (.z))), rfl⟩
     ·cbv;refine n_br hE h (fun hc h => ?_) (fun hc h => ?_)
      ·cbv;have h := ret_some h;subst h;exact ⟨_, ⟨rfl, rfl, hO⟩, .e rfl (.e rfl (.e rfl (.z))), rfl⟩
      ·cbv;refine n_br hE h (fun hc h => ?_) (fun hc h => ?_)
       ·cbv;have h := ret_some h;subst h;exact ⟨_, ⟨rfl, rfl, hO⟩, .e rfl (.e rfl (.e rfl (.z))), rfl⟩
       ·cbv;have h := ret_some h;subst h;exact ⟨_, ⟨rfl, rfl, hO⟩, .v (.lit _ (lst_nil)) (.e rfl (.z)), rfl⟩
 ·clear hx
  rcases s1 with y9 | y32
  ·rintro e l H ⟨rfl, rfl, hO⟩;cbv;refine n_ln hE ?_;cbv;replace hO := hO.tl0 (t := .nil) rfl;obtain ⟨s12, hx, h⟩ := bind_some h;refine n_loopG cf92 hE okP (γ := Tail) (fun s10 g => [(1, .v (.int .i64 x_field)), (2, .v (.int .i64 x_own)), (3, .v (.eref [.int .i64 x_e.Op, .sl (Ar.lst Encs.eGExpr x_e.Args) .ro, .int .i64 x_e.Var, .int .i64 x_e.Field, .int .i64 x_e.Kind, .int .i64 x_e.Value.Kind, .int .i64 x_e.Value.Num, .str x_e.Value.Text] 0)), (12, .v (.sl (Ar.lst Encs.eLGInterval s10.1) g)), (75, .v (.sl (Ar.lst Encs.eGExpr x_e.Args) .ro)), (76, .v (.int .i64 (Ar.len x_e.Args))), (77, .v (.int .i64 s10.2))]) (fun s10 g H1 => Appn g ∧ Own Eq H0 [.tl g] H1) (fun x e l H1 => match (generalizing := false) x with | .inl y => ∃ u1 : Tail, Appn u1 ∧ e = .exit 2 ∧ l = [(3, .v (.eref [.int .i64 x_e.Op, .sl (Ar.lst Encs.eGExpr x_e.Args) .ro, .int .i64 x_e.Var, .int .i64 x_e.Field, .int .i64 x_e.Kind, .int .i64 x_e.Value.Kind, .int .i64 x_e.Value.Num, .str x_e.Value.Text] 0)), (12, .v (.sl (Ar.lst Encs.eLGInterval y) u1))] ∧ Own Eq H0 [.tl u1] H1 | .inr y => ∃ u1 : Tail, Appn u1 ∧ e = .ret ∧ l = [(6, .v (.sl [] .nil)), (7, .v (.int .i64 y))] ∧ Own Eq H0 [.tl u1] H1) (by kernel_rfl) ?_ .nil hx ?_ ?_ ?_
   ·rintro s10 t11 H o ⟨ht11, hO⟩ h;clear hx;cbv;refine n_br hE h (fun hc h => ?_) (fun hc h => ?_)
    ·cbv;refine n_idx hE Encs.eGExpr_eq h fun x13 h => ?_;cbv;refine n_call hE (g := fun r14 => .tup [.sl (Ar.lst Encs.eGInterval r14.1) .ro, .int .i64 r14.2]) h (fun r14 hx => ih x13 x_field x_own r14 hx) (.refl _) fun r14 h => ?_;cbv;refine n_br hE h (fun hc h => ?_) (fun hc h => ?_)
     ·cbv;have h := ret_some h;subst h;exact ⟨_, _, rfl, ⟨t11, ht11, rfl, rfl, hO⟩, .e rfl (.e rfl (.z)), rfl⟩
     ·cbv;refine n_appn (f := Encs.eLGInterval) hE sz_LGInterval (by decide) hO 0 rfl ht11 (l := s10.1) (m := [r14.1]) (.refl _) (.lstc (.eq (Encs.eLGInterval_eq r14.1) (.refl _)) (.lst0)) h fun l16 t15 H hO ht15 h => ?_;cbv;have h := ret_some h;subst h;exact ⟨_, t15, rfl, .e rfl (.e rfl (.e rfl (.e rfl (.e rfl (.e rfl (.e rfl (.z))))))), rfl, ht15, hO⟩
    ·cbv;have h := ret_some h;subst h;exact ⟨_, _, rfl, ⟨t11, ht11, rfl, rfl, hO⟩, .e rfl (.e rfl (.z)), rfl⟩
   ·exact .e rfl (.e rfl (.e rfl (.v (.slt _ (.lst0)) (.e rfl (.e rfl (.e rfl (.z)))))))
   ·exact ⟨trivial, hO⟩
   ·clear hx
    rcases s12 with y17 | y30
    ·rintro e l H ⟨t18, ht18, rfl, rfl, hO⟩;cbv;refine n_br hE h (fun hc h => ?_) (fun hc h => ?_)
     ·cbv;refine n_idx hE Encs.eLGInterval_eq h fun x19 h => ?_;cbv;refine n_idx hE Encs.eLGInterval_eq h fun x20 h => ?_;cbv;refine n_pcall hE (g := fun r21 => .tup [.sl (Ar.lst Encs.eGInterval r21.1) .ro, .int .i64 r21.2]) h (fun r21 hx => c63 N x19 x20 r21 hx) (.refl _) fun r21 h => ?_;cbv;have h := ret_some h;subst h;exact hK _ _ _ hO (.refl _)
     ·cbv;refine n_br hE h (fun hc h => ?_) (fun hc h => ?_)
      ·cbv;refine n_idx hE Encs.eLGInterval_eq h fun x22 h => ?_;cbv;refine n_idx hE Encs.eLGInterval_eq h fun x23 h => ?_;cbv;refine n_pcall hE (g := fun r24 => .tup [.sl (Ar.lst Encs.eGInterval r24.1) .ro, .int .i64 r24.2]) h (fun r24 hx => c66 N x22 x23 r24 hx) (.refl _) fun r24 h => ?_;cbv;have h := ret_some h;subst h;exact hK _ _ _ hO (.refl _)
      ·cbv;refine n_br hE h (fun hc h => ?_) (fun hc h => ?_)
       ·cbv;refine n_idx hE Encs.eLGInterval_eq h fun x25 h => ?_;cbv;refine n_call hE (g := fun r26 => .tup [.sl (Ar.lst Encs.eGInterval r26.1) .ro, .int .i64 r26.2]) h (fun r26 hx => c71 N x25 r26 hx) (.refl _) fun r26 h => ?_;cbv;have h := ret_some h;subst h;exact hK _ _ _ hO (.refl _)
       ·cbv;refine n_idx hE Encs.eLGInterval_eq h fun x27 h => ?_;cbv;refine n_idx hE Encs.eLGInterval_eq h fun x28 h => ?_;cbv;refine n_pcall hE (g := fun r29 => .tup [.sl (Ar.lst Encs.eGInterval r29.1) .ro, .int .i64 r29.2]) h (fun r29 hx => c124 N x27 x28 r29 hx) (.refl _) fun r29 h => ?_;cbv;have h := ret_some h;subst h;exact hK _ _ _ hO (.refl _)
    ·rintro e l H ⟨t31, ht31, rfl, rfl, hO⟩;cbv;have h := ret_some h;subst h;exact hK _ _ _ hO (.tup (.cons (.lit _ (lst_nil)) (.refl _)))
  ·rintro e l H ⟨rfl, rfl, hO⟩;cbv;have h := ret_some h;subst h;exact hK _ _ _ hO (.refl _)
def cf125 : Cf := ⟨[], [], [], [], [], []⟩
theorem c125 (N : Nat) (x_s : List GField) (v_f : V) (x_f : GField → Option Bool) (h_f : ∀ y1 q, x_f y1 = some q → CallVP Tryz.prog v_f [.agg [.str y1.Name, .int .i64 y1.Kind]] (.bool q)) (r : Int) (h : slices_IndexFunc_LField_Field N x_s x_f = some r) : CallP Tryz.prog 125 [.sl (Ar.lst Encs.eGField x_s) .ro, v_f] (.int .i64 r) := by
 unfold slices_IndexFunc_LField_Field at h
 refine callP_of_spec cf125 okP Tryz.func125 (by rfl) (by kernel_rfl) Tryz.call125 Tryz.ntmps125 (by rfl) (by rfl) ?_;intro E H0 K hE hK
 have hO : Own Eq H0 [] H0 := .start stable_eq rfl
 cbv;refine n_ln hE ?_;cbv;obtain ⟨s2, hx, h⟩ := bind_some h;refine n_loopN cf125 hE okP (fun s1 => [(0, .v (.sl (Ar.lst Encs.eGField x_s) .ro)), (1, .v (v_f)), (7, .v (.int .i64 (Ar.len x_s))), (8, .v (.int .i64 s1))]) (fun s1 H1 => Own Eq H0 [] H1) (fun x e l H1 => match (generalizing := false) x with | .inl y => e = .exit 0 ∧ l = [] ∧ Own Eq H0 [] H1 | .inr y => e = .ret ∧ l = [(4, .v (.int .i64 y))] ∧ Own Eq H0 [] H1) (by kernel_rfl) ?_ hx ?_ hO ?_
 ·intro s1 H o hO h;clear hx;cbv;refine n_br hE h (fun hc h => ?_) (fun hc h => ?_)
  ·cbv;refine n_idx hE Encs.eGField_eq h fun x3 h => ?_;cbv;refine n_callF hE (g := fun r4 => .bool r4) h (fun r4 hx => h_f x3 r4 hx) (.refl _) fun r4 h => ?_;cbv;refine n_br hE h (fun hc h => ?_) (fun hc h => ?_)
   ·cbv;have h := ret_some h;subst h;exact ⟨_, _, rfl, ⟨rfl, rfl, hO⟩, .e rfl (.z), rfl⟩
   ·cbv;have h := ret_some h;subst h;exact ⟨_, rfl, .e rfl (.e rfl (.e rfl (.e rfl (.z)))), rfl, hO⟩
  ·cbv;have h := ret_some h;subst h;exact ⟨_, _, rfl, ⟨rfl, rfl, hO⟩, .z, rfl⟩
 ·exact .e rfl (.e rfl (.e rfl (.e rfl (.z))))
 ·clear hx
  rcases s2 with y5 | y6
  ·rintro e l H ⟨rfl, rfl, hO⟩;cbv;have h := ret_some h;subst h;exact hK _ _ _ hO (.refl _)
  ·rintro e l H ⟨rfl, rfl, hO⟩;cbv;have h := ret_some h;subst h;exact hK _ _ _ hO (.refl _)
def cf126 : Cf := ⟨[], [], [], [], [], []⟩
theorem c126 (N : Nat) (x_f : GField) (r : Bool) (h : predicate_numeric_1 N x_f = some r) : CallP Tryz.prog 126 [.agg [.str x_f.Name, .int .i64 x_f.Kind]] (.bool r) := by
 unfold predicate_numeric_1 at h
 refine callP_of_spec cf126 okP Tryz.func126 (by rfl) (by kernel_rfl) Tryz.call126 Tryz.ntmps126 (by rfl) (by rfl) ?_;intro E H0 K hE hK
 have hO : Own Eq H0 [] H0 := .start stable_eq rfl
 cbv;have h := ret_some h;subst h;exact hK _ _ _ hO (.refl _)
def cf93 : Cf := ⟨[], [], [], [], [], []⟩
theorem c93 (N : Nat) (x_s : GSchema) (r : Int) (h : predicate_numeric N x_s = some r) : CallP Tryz.prog 93 [.agg [.str x_s.Name, .sl (Ar.lst Encs.eGField x_s.Fields) .ro]] (.int .i64 r) := by
 unfold predicate_numeric at h
 refine callP_of_spec cf93 okP Tryz.func93 (by rfl) (by kernel_rfl) Tryz.call93 Tryz.ntmps93 (by rfl) (by rfl) ?_;intro E H0 K hE hK
 have hO : Own Eq H0 [] H0 := .start stable_eq rfl
 cbv;refine n_call hE (g := fun r1 => .int .i64 r1) h (fun r1 hx => c125 N x_s.Fields (.func (.func 126) [] []) (fun y1 => predicate_numeric_1 N y1) (fun y1 r hx => CallP.value (F := []) (C := []) (c126 N y1 r hx)) r1 hx) (.refl _) fun r1 h => ?_;cbv;have h := ret_some h;subst h;exact hK _ _ _ hO (.refl _)
def cf44 : Cf := ⟨[8], [(8, 13), (13, 12)], [], [], [], []⟩
theorem c44 (N : Nat) (x_types : List GSchema) (x_index : Int) (x_cond : GExpr) (x_own : Int) (r : (GPredicate × Int)) (h : predicate_Of N x_types x_index x_cond x_own = some r) : CallP Tryz.prog 44 [.sl (Ar.lst Encs.eGSchema x_types) .ro, .int .i64 x_index, .agg [.int .i64 x_cond.Op, .sl (Ar.lst Encs.eGExpr x_cond.Args) .ro, .int .i64 x_cond.Var, .int .i64 x_cond.Field, .int .i64 x_cond.Kind, .int .i64 x_cond.Value.Kind, .int .i64 x_cond.Value.Num, .str x_cond.Value.Text], .int .i64 x_own] (.tup [.agg [.sl (Ar.lst Encs.eLGInterval r.1.Sets) .ro], .int .i64 r.2]) := by
 unfold predicate_Of at h
 refine callP_of_specG cf44 okP Tryz.func44 (by rfl) (by kernel_rfl) Tryz.call44 Tryz.ntmps44 (by rfl) (by rfl) ?_;intro E H0 K hE hK hG
 have hO : Own Eq H0 [] H0 := .start stable_eq rfl
 cbv;refine n_alloc hE hO fun b1 H hO => ?_;cbv;refine n_call hE (g := fun r2 => .int .i64 r2) h (fun r2 hx => c89 N x_types r2 hx) (.refl _) fun r2 h => ?_;cbv;refine n_br hE h (fun hc h => ?_) (fun hc h => ?_)
 ·cbv;refine n_store hE hO 0 rfl rfl fun H hO => ?_;cbv;refine n_load hE hO 0 rfl ?_;cbv;have h := ret_some h;subst h;exact hK _ _ _ hO (.tup (.cons (.agg (.cons (.lit _ (lst_nil)) (.refl _))) (.refl _)))
 ·cbv;refine n_ln hE ?_;cbv;refine n_br hE h (fun hc h => ?_) (fun hc h => ?_)
  ·cbv;refine n_store hE hO 0 rfl rfl fun H hO => ?_;cbv;refine n_load hE hO 0 rfl ?_;cbv;have h := ret_some h;subst h;exact hK _ _ _ hO (.tup (.cons (.agg (.cons (.lit _ (lst_nil)) (.refl _))) (.refl _)))
  ·cbv;refine n_br hE h (fun hc h => ?_) (fun hc h => ?_)
   ·cbv;refine n_store hE hO 0 rfl rfl fun H hO => ?_;cbv;refine n_load hE hO 0 rfl ?_;cbv;have h := ret_some h;subst h;exact hK _ _ _ hO (.tup (.cons (.agg (.cons (.lit _ (lst_nil)) (.refl _))) (.refl _)))
   ·cbv;refine n_pcall hE (g := fun r3 => .sl (Ar.lst Encs.eGVariable r3) .ro) h (fun r3 hx => c91 N ([(⟨⟨#[]⟩, x_index⟩ : GVariable)]) (Ar.ar .add .i64 x_own 1) r3 hx) (.cons (.lit _ (lst_cons ((Encs.eGVariable_eq (⟨⟨#[]⟩, x_index⟩ : GVariable)).symm) (lst_nil))) (.refl _)) fun r3 h => ?_;cbv;refine n_pcall hE (g := fun r4 => .tup [.int .i64 r4.1, .int .i64 r4.2]) h (fun r4 hx => c90 N x_types r3 x_cond r4 hx) (.refl _) fun r4 h => ?_;cbv;refine n_br hE h (fun hc h => ?_) (fun hc h => ?_)
    ·cbv;refine n_store hE hO 0 rfl rfl fun H hO => ?_;cbv;refine n_load hE hO 0 rfl ?_;cbv;have h := ret_some h;subst h;exact hK _ _ _ hO (.tup (.cons (.agg (.cons (.lit _ (lst_nil)) (.refl _))) (.refl _)))
    ·cbv;refine n_br hE h (fun hc h => ?_) (fun hc h => ?_)
     ·cbv;refine n_store hE hO 0 rfl rfl fun H hO => ?_;cbv;refine n_load hE hO 0 rfl ?_;cbv;have h := ret_some h;subst h;exact hK _ _ _ hO (.tup (.cons (.agg (.cons (.lit _ (lst_nil)) (.refl _))) (.refl _)))
     ·cbv;refine n_idx hE Encs.eGSchema_eq h fun x5 h => ?_;cbv;refine n_pcall hE (g := fun r6 => .int .i64 r6) h (fun r6 hx => c93 N x5 r6 hx) (.refl _) fun r6 h => ?_;cbv;refine n_pcall hE (g := fun r7 => .tup [.sl (Ar.lst Encs.eGInterval r7.1) .ro, .int .i64 r7.2]) h (fun r7 hx => c92 N N x_cond r6 x_own r7 hx) (.refl _) fun r7 h => ?_;cbv;refine n_br hE h (fun hc h => ?_) (fun hc h => ?_)
      ·cbv;refine n_store hE hO 0 rfl rfl fun H hO => ?_;cbv;refine n_load hE hO 0 rfl ?_;cbv;have h := ret_some h;subst h;exact hK _ _ _ hO (.tup (.cons (.agg (.cons (.lit _ (lst_nil)) (.refl _))) (.refl _)))
      ·cbv;refine n_ln hE ?_;cbv;obtain ⟨l8, hmk, h⟩ := bind_some h;obtain ⟨_, hin, h⟩ := bind_some h;obtain ⟨l9, hup, h⟩ := bind_some h;refine n_omk hE (f := Encs.eLGInterval) (z0 := ([] : List GInterval)) (by decide) (.eq (Encs.eLGInterval_eq []) (.lit _ (lst_nil))) hO (F := fun l => some l) (r := l8) (show (mkL (Ar.len x_types) (Ar.len x_types) ([] : List GInterval)).bind (fun l => some l) = some l8 by rw [hmk]; rfl) fun l8' q8 H hq8 e8 hO => ?_
       cases e8
       cbv
       have hb : 0 ≤ x_index ∧ x_index < (l8.length : Nat) := by
        unfold req inR at hin
        split at hin
        ·rename_i hd; exact of_decide_eq_true hd
        ·cases hin
       have e9 : l9 = l8.set x_index.toNat r7.1 := by
        unfold updL at hup
        cases hx : idxL l8 x_index with
        | none => rw [hx] at hup; cases hup
        | some y => rw [hx] at hup; cases hup; rfl
       refine f_oidx hE (f := Encs.eLGInterval) hO hq8 0 rfl hb ?_;cbv;refine f_ostore hE (f := Encs.eLGInterval) (tz := 1) (x' := r7.1) (fun x => ⟨.sl (Ar.lst Encs.eGInterval r7.1) .ro, .refl _, rfl, rfl, by rw [Encs.eLGInterval_eq, Encs.eLGInterval_eq]; rfl⟩) (by decide) hO hq8 0 rfl hb fun H hO => ?_
       rw [← e9] at hO
       have hq9 : Okn q8 (Ar.len l9) := by rw [e9, Ar.len_eq, List.length_set, ← Ar.len_eq]; exact hq8
       cbv;refine n_store hE hO 1 rfl rfl fun H hO => ?_;cbv;refine n_load hE hO 1 rfl ?_;cbv;have h := ret_some h;subst h;obtain ⟨H2, g1, g2⟩ := hO.frzG (f := Encs.eLGInterval) 0 rfl hq9;exact hG _ _ _ _ g1.agg1.tup2 g2 (.refl _)
def cf54 : Cf := ⟨[4], [], [], [], [], []⟩
theorem c54 (N : Nat) (x_low : Int) (x_high : Int) (r : GPredicate) (h : law27_single N x_low x_high = some r) : CallP Tryz.prog 54 [.int .i64 x_low, .int .i64 x_high] (.agg [.sl (Ar.lst Encs.eLGInterval r.Sets) .ro]) := by
 unfold law27_single at h
 refine callP_of_spec cf54 okP Tryz.func54 (by rfl) (by kernel_rfl) Tryz.call54 Tryz.ntmps54 (by rfl) (by rfl) ?_;intro E H0 K hE hK
 have hO : Own Eq H0 [] H0 := .start stable_eq rfl
 cbv;refine n_alloc hE hO fun b1 H hO => ?_;cbv;refine n_store hE hO 0 rfl rfl fun H hO => ?_;cbv;refine n_load hE hO 0 rfl ?_;cbv;have h := ret_some h;subst h;exact hK _ _ _ hO (.agg (.cons (.sl _ (.lstc (.eq (Encs.eLGInterval_eq ([(⟨x_low, x_high⟩ : GInterval)])) (.lit _ (lst_cons ((Encs.eGInterval_eq (⟨x_low, x_high⟩ : GInterval)).symm) (lst_nil)))) (.lst0))) (.refl _)))
def cf55 : Cf := ⟨[0], [], [], [], [], []⟩
theorem c55 (N : Nat) (r : GExpr) (h : law27_x N  = some r) : CallP Tryz.prog 55 [] (.agg [.int .i64 r.Op, .sl (Ar.lst Encs.eGExpr r.Args) .ro, .int .i64 r.Var, .int .i64 r.Field, .int .i64 r.Kind, .int .i64 r.Value.Kind, .int .i64 r.Value.Num, .str r.Value.Text]) := by
 unfold law27_x at h
 refine callP_of_spec cf55 okP Tryz.func55 (by rfl) (by kernel_rfl) Tryz.call55 Tryz.ntmps55 (by rfl) (by rfl) ?_;intro E H0 K hE hK
 have hO : Own Eq H0 [] H0 := .start stable_eq rfl
 cbv;refine n_alloc hE hO fun b1 H hO => ?_;cbv;refine n_store hE hO 0 rfl rfl fun H hO => ?_;cbv;refine n_load hE hO 0 rfl ?_;cbv;have h := ret_some h;subst h;exact hK _ _ _ hO (.agg (.cons (.refl _) (.cons (.lit _ (lst_nil)) (.refl _))))
def cf56 : Cf := ⟨[2], [], [], [], [], []⟩
theorem c56 (N : Nat) (x_n : Int) (r : GExpr) (h : law27_number N x_n = some r) : CallP Tryz.prog 56 [.int .i64 x_n] (.agg [.int .i64 r.Op, .sl (Ar.lst Encs.eGExpr r.Args) .ro, .int .i64 r.Var, .int .i64 r.Field, .int .i64 r.Kind, .int .i64 r.Value.Kind, .int .i64 r.Value.Num, .str r.Value.Text]) := by
 unfold law27_number at h
 refine callP_of_spec cf56 okP Tryz.func56 (by rfl) (by kernel_rfl) Tryz.call56 Tryz.ntmps56 (by rfl) (by rfl) ?_;intro E H0 K hE hK
 have hO : Own Eq H0 [] H0 := .start stable_eq rfl
 cbv;refine n_alloc hE hO fun b1 H hO => ?_;cbv;refine n_store hE hO 0 rfl rfl fun H hO => ?_;cbv;refine n_load hE hO 0 rfl ?_;cbv;have h := ret_some h;subst h;exact hK _ _ _ hO (.agg (.cons (.refl _) (.cons (.lit _ (lst_nil)) (.refl _))))
def cf14 : Cf := ⟨[], [(5, 20), (8, 6)], [], [], [], []⟩
theorem c14 (N : Nat) (r : Bool) (h : law27_awake N  = some r) : CallP Tryz.prog 14 [] (.bool r) := by
 unfold law27_awake at h
 refine callP_of_spec cf14 okP Tryz.func14 (by rfl) (by kernel_rfl) Tryz.call14 Tryz.ntmps14 (by rfl) (by rfl) ?_;intro E H0 K hE hK
 have hO : Own Eq H0 [] H0 := .start stable_eq rfl
 cbv;refine n_call hE (g := fun r1 => .agg [.sl (Ar.lst Encs.eLGInterval r1.Sets) .ro]) h (fun r1 hx => c54 N 1 5 r1 hx) (.refl _) fun r1 h => ?_;cbv;refine n_call hE (g := fun r2 => .agg [.sl (Ar.lst Encs.eLGInterval r2.Sets) .ro]) h (fun r2 hx => c54 N 4 9 r2 hx) (.refl _) fun r2 h => ?_;cbv;refine n_call hE (g := fun r3 => .tup [.sl (Ar.lst Encs.eGPredicate r3.1) .ro, .int .i64 r3.2]) h (fun r3 hx => c15 N 1 ([r1, r2]) r3 hx) (.cons (.refl _) (.cons (.lit _ (lst_cons ((Encs.eGPredicate_eq r1).symm) (lst_cons ((Encs.eGPredicate_eq r2).symm) (lst_nil)))) (.refl _))) fun r3 h => ?_;cbv;refine n_call hE (g := fun r4 => .agg [.int .i64 r4.Op, .sl (Ar.lst Encs.eGExpr r4.Args) .ro, .int .i64 r4.Var, .int .i64 r4.Field, .int .i64 r4.Kind, .int .i64 r4.Value.Kind, .int .i64 r4.Value.Num, .str r4.Value.Text]) h (fun r4 hx => c55 N  r4 hx) (.refl _) fun r4 h => ?_;cbv;refine n_call hE (g := fun r5 => .agg [.int .i64 r5.Op, .sl (Ar.lst Encs.eGExpr r5.Args) .ro, .int .i64 r5.Var, .int .i64 r5.Field, .int .i64 r5.Kind, .int .i64 r5.Value.Kind, .int .i64 r5.Value.Num, .str r5.Value.Text]) h (fun r5 hx => c55 N  r5 hx) (.refl _) fun r5 h => ?_;cbv;refine n_call hE (g := fun r6 => .agg [.int .i64 r6.Op, .sl (Ar.lst Encs.eGExpr r6.Args) .ro, .int .i64 r6.Var, .int .i64 r6.Field, .int .i64 r6.Kind, .int .i64 r6.Value.Kind, .int .i64 r6.Value.Num, .str r6.Value.Text]) h (fun r6 hx => c56 N 7 r6 hx) (.refl _) fun r6 h => ?_;cbv;refine n_call hE (g := fun r7 => .tup [.agg [.sl (Ar.lst Encs.eLGInterval r7.1.Sets) .ro], .int .i64 r7.2]) h (fun r7 hx => c44 N ([(⟨(⟨#[97]⟩ : ByteArray), [(⟨(⟨#[120]⟩ : ByteArray), 0⟩ : GField)]⟩ : GSchema)]) 0 (⟨7, [(⟨5, [r4, r5], 0, 0, 0, (⟨0, 0, ⟨#[]⟩⟩ : GValue)⟩ : GExpr), r6], 0, 0, 0, (⟨0, 0, ⟨#[]⟩⟩ : GValue)⟩ : GExpr) 0 r7 hx) (.cons (.sl _ (.lstc (.eq (Encs.eGSchema_eq (⟨(⟨#[97]⟩ : ByteArray), [(⟨(⟨#[120]⟩ : ByteArray), 0⟩ : GField)]⟩ : GSchema)) (.agg (.cons (.refl _) (.cons (.lit _ (lst_cons ((Encs.eGField_eq (⟨(⟨#[120]⟩ : ByteArray), 0⟩ : GField)).symm) (lst_nil))) (.refl _))))) (.lst0))) (.cons (.refl _) (.cons (.agg (.cons (.refl _) (.cons (.sl _ (.lstc (.eq (Encs.eGExpr_eq (⟨5, [r4, r5], 0, 0, 0, (⟨0, 0, ⟨#[]⟩⟩ : GValue)⟩ : GExpr)) (.agg (.cons (.refl _) (.cons (.lit _ (lst_cons ((Encs.eGExpr_eq r4).symm) (lst_cons ((Encs.eGExpr_eq r5).symm) (lst_nil)))) (.refl _))))) (.lstc (.eq (Encs.eGExpr_eq r6) (.refl _)) (.lst0)))) (.refl _)))) (.refl _)))) fun r7 h => ?_;cbv;refine n_call hE (g := fun r8 => .tup [.agg [.int .i64 r8.1.Typ, .int .i64 r8.1.Num], .int .i64 r8.2]) h (fun r8 hx => c31 N (⟨[[], [(⟨3, 4⟩ : GInterval)]]⟩ : GPredicate) r8 hx) (.cons (.agg (.cons (.sl _ (.lstc (.eq (Encs.eLGInterval_eq ([])) (.lit _ (lst_nil))) (.lstc (.eq (Encs.eLGInterval_eq ([(⟨3, 4⟩ : GInterval)])) (.lit _ (lst_cons ((Encs.eGInterval_eq (⟨3, 4⟩ : GInterval)).symm) (lst_nil)))) (.lst0)))) (.refl _))) (.refl _)) fun r8 h => ?_;cbv;refine n_ln hE ?_;cbv;refine n_br hE h (fun hc h => ?_) (fun hc h => ?_)
 ·cbv;have h := ret_some h;subst h;exact hK _ _ _ hO (.refl _)
 ·cbv;refine n_pcall hE (g := fun r9 => .agg [.sl (Ar.lst Encs.eLGInterval r9.Sets) .ro]) h (fun r9 hx => c54 N (-1099511627776) 3 r9 hx) (.refl _) fun r9 h => ?_;cbv;refine n_pcall hE (g := fun r10 => .bool r10) h (fun r10 hx => c24 N r7.1 r9 r10 hx) (.refl _) fun r10 h => ?_;cbv;refine n_br hE h (fun hc h => ?_) (fun hc h => ?_)
  ·cbv;have h := ret_some h;subst h;exact hK _ _ _ hO (.refl _)
  ·cbv;refine n_pcall hE (g := fun r11 => .agg [.sl (Ar.lst Encs.eLGInterval r11.Sets) .ro]) h (fun r11 hx => c54 N 1 3 r11 hx) (.refl _) fun r11 h => ?_;cbv;refine n_pcall hE (g := fun r12 => .agg [.sl (Ar.lst Encs.eLGInterval r12.Sets) .ro]) h (fun r12 hx => c54 N 4 5 r12 hx) (.refl _) fun r12 h => ?_;cbv;refine n_pcall hE (g := fun r13 => .agg [.sl (Ar.lst Encs.eLGInterval r13.Sets) .ro]) h (fun r13 hx => c54 N 6 9 r13 hx) (.refl _) fun r13 h => ?_;cbv;refine n_call hE (g := fun r14 => .bool r14) h (fun r14 hx => c17 N r3.1 ([(⟨[[(⟨(-1099511627776), 0⟩ : GInterval), (⟨10, 1099511627776⟩ : GInterval)]]⟩ : GPredicate), r11, r12, r13]) r14 hx) (.cons (.refl _) (.cons (.sl _ (.lstc (.eq (Encs.eGPredicate_eq (⟨[[(⟨(-1099511627776), 0⟩ : GInterval), (⟨10, 1099511627776⟩ : GInterval)]]⟩ : GPredicate)) (.agg (.cons (.sl _ (.lstc (.eq (Encs.eLGInterval_eq ([(⟨(-1099511627776), 0⟩ : GInterval), (⟨10, 1099511627776⟩ : GInterval)])) (.lit _ (lst_cons ((Encs.eGInterval_eq (⟨(-1099511627776), 0⟩ : GInterval)).symm) (lst_cons ((Encs.eGInterval_eq (⟨10, 1099511627776⟩ : GInterval)).symm) (lst_nil))))) (.lst0))) (.refl _)))) (.lstc (.eq (Encs.eGPredicate_eq r11) (.refl _)) (.lstc (.eq (Encs.eGPredicate_eq r12) (.refl _)) (.lstc (.eq (Encs.eGPredicate_eq r13) (.refl _)) (.lst0)))))) (.refl _))) fun r14 h => ?_;cbv;have h := ret_some h;subst h;exact hK _ _ _ hO (.refl _)
def cf86 : Cf := ⟨[], [], [(18, 8)], [], [], []⟩
theorem c86 (N : Nat) (x_l : List GInterval) (r : (List GInterval)) (h : ref02_Rest N x_l = some r) : CallP Tryz.prog 86 [.sl (Ar.lst Encs.eGInterval x_l) .ro] (.sl (Ar.lst Encs.eGInterval r) .ro) := by
 unfold ref02_Rest at h
 refine callP_of_spec cf86 okP Tryz.func86 (by rfl) (by kernel_rfl) Tryz.call86 Tryz.ntmps86 (by rfl) (by rfl) ?_;intro E H0 K hE hK
 have hO : Own Eq H0 [] H0 := .start stable_eq rfl
 cbv;replace hO := hO.tl0 (t := .nil) rfl;obtain ⟨s3, hx, h⟩ := bind_some h;refine n_loopG cf86 hE okP (γ := Tail) (fun s1 g => [(0, .v (.sl (Ar.lst Encs.eGInterval x_l) .ro)), (3, .v (.sl (Ar.lst Encs.eGInterval s1.1) g)), (4, .v (.int .i64 s1.2.1)), (5, .v (.int .i64 s1.2.2))]) (fun s1 g H1 => Appn g ∧ Own Eq H0 [.tl g] H1) (fun x e l H1 => ∃ u1 : Tail, Appn u1 ∧ e = .exit 0 ∧ l = [(3, .v (.sl (Ar.lst Encs.eGInterval x.1) u1)), (4, .v (.int .i64 x.2))] ∧ Own Eq H0 [.tl u1] H1) (by kernel_rfl) ?_ .nil hx ?_ ?_ ?_
 ·rintro s1 t2 H o ⟨ht2, hO⟩ h;clear hx;cbv;refine n_ln hE ?_;cbv;refine n_br hE h (fun hc h => ?_) (fun hc h => ?_)
  ·cbv;refine n_idx hE Encs.eGInterval_eq h fun x4 h => ?_;cbv;obtain ⟨s5, hx, h⟩ := bind_some h;refine n_join cf86 hE okP (fun e l H1 => ∃ u1 : Tail, Appn u1 ∧ e = .normal ∧ l = [(0, .v (.sl (Ar.lst Encs.eGInterval x_l) .ro)), (3, .v (.sl (Ar.lst Encs.eGInterval s5) u1)), (5, .v (.int .i64 s1.2.2))] ∧ Own Eq H0 [.tl u1] H1) (by kernel_rfl) ?_ ?_
   ·clear h;have h := hx;clear hx;cbv;refine n_br hE h (fun hc h => ?_) (fun hc h => ?_)
    ·cbv;refine n_idx hE Encs.eGInterval_eq h fun x6 h => ?_;cbv;refine n_appn (f := Encs.eGInterval) hE sz_GInterval (by decide) hO 0 rfl ht2 (l := s1.1) (m := [(⟨s1.2.1, Ar.ar .sub .i64 x6.Low 1⟩ : GInterval)]) (.refl _) (.lstc (.eq (Encs.eGInterval_eq (⟨s1.2.1, Ar.ar .sub .i64 x6.Low 1⟩ : GInterval)) (.refl _)) (.lst0)) h fun l8 t7 H hO ht7 h => ?_;cbv;have h := ret_some h;subst h;exact ⟨_, ⟨t7, ht7, rfl, rfl, hO⟩, .e rfl (.e rfl (.e rfl (.z))), rfl⟩
    ·cbv;have h := ret_some h;subst h;exact ⟨_, ⟨t2, ht2, rfl, rfl, hO⟩, .e rfl (.e rfl (.e rfl (.z))), rfl⟩
   ·clear hx;rintro e l H ⟨t9, ht9, rfl, rfl, hO⟩;cbv;refine n_idx hE Encs.eGInterval_eq h fun x10 h => ?_;cbv;have h := ret_some h;subst h;exact ⟨_, t9, rfl, .e rfl (.e rfl (.e rfl (.e rfl (.z)))), rfl, ht9, hO⟩
  ·cbv;have h := ret_some h;subst h;exact ⟨_, _, rfl, ⟨t2, ht2, rfl, rfl, hO⟩, .e rfl (.e rfl (.z)), rfl⟩
 ·exact .e rfl (.v (.slt _ (.lst0)) (.e rfl (.e rfl (.z))))
 ·exact ⟨trivial, hO⟩
 ·clear hx;rintro e l H ⟨t11, ht11, rfl, rfl, hO⟩;cbv;refine n_br hE h (fun hc h => ?_) (fun hc h => ?_)
  ·cbv;refine n_appn (f := Encs.eGInterval) hE sz_GInterval (by decide) hO 0 rfl ht11 (l := s3.1) (m := [(⟨s3.2, 1099511627776⟩ : GInterval)]) (.refl _) (.lstc (.eq (Encs.eGInterval_eq (⟨s3.2, 1099511627776⟩ : GInterval)) (.refl _)) (.lst0)) h fun l13 t12 H hO ht12 h => ?_;cbv;have h := ret_some h;subst h;exact hK _ _ _ hO (.ro _ _)
  ·cbv;have h := ret_some h;subst h;exact hK _ _ _ hO (.ro _ _)
def cf135 : Cf := ⟨[], [(6, 14)], [], [], [], []⟩
theorem c135 (N : Nat) (x_l : List GInterval) (r : (List GInterval)) (h : ref02_sorted N x_l = some r) : CallP Tryz.prog 135 [.sl (Ar.lst Encs.eGInterval x_l) .ro] (.sl (Ar.lst Encs.eGInterval r) .ro) := by
 unfold ref02_sorted at h
 refine callP_of_spec cf135 okP Tryz.func135 (by rfl) (by kernel_rfl) Tryz.call135 Tryz.ntmps135 (by rfl) (by rfl) ?_;intro E H0 K hE hK
 have hO : Own Eq H0 [] H0 := .start stable_eq rfl
 cbv;replace hO := hO.tl0 (t := .nil) rfl;obtain ⟨s2, hx, h⟩ := bind_some h;refine n_loopN cf135 hE okP (fun s1 => [(0, .v (.sl (Ar.lst Encs.eGInterval x_l) .ro)), (3, .v (.sl (Ar.lst Encs.eGInterval s1.1) .ro)), (4, .v (.int .i64 s1.2))]) (fun s1 H1 => Own Eq H0 [.tl .nil] H1) (fun x e l H1 => e = .exit 0 ∧ l = [(3, .v (.sl (Ar.lst Encs.eGInterval x) .ro))] ∧ Own Eq H0 [.tl .nil] H1) (by kernel_rfl) ?_ hx ?_ hO ?_
 ·intro s1 H o hO h;clear hx;cbv;refine n_ln hE ?_;cbv;refine n_br hE h (fun hc h => ?_) (fun hc h => ?_)
  ·cbv;refine n_ln hE ?_;cbv;obtain ⟨s4, hx, h⟩ := bind_some h;refine n_loopN cf135 hE okP (fun s3 => [(0, .v (.sl (Ar.lst Encs.eGInterval x_l) .ro)), (3, .v (.sl (Ar.lst Encs.eGInterval s1.1) .ro)), (4, .v (.int .i64 s1.2)), (5, .v (.int .i64 s3))]) (fun s3 H1 => Own Eq H0 [.tl .nil] H1) (fun x e l H1 => e = .exit 2 ∧ l = [(0, .v (.sl (Ar.lst Encs.eGInterval x_l) .ro)), (3, .v (.sl (Ar.lst Encs.eGInterval s1.1) .ro)), (4, .v (.int .i64 s1.2)), (5, .v (.int .i64 x))] ∧ Own Eq H0 [.tl .nil] H1) (by kernel_rfl) ?_ hx ?_ hO ?_
   ·intro s3 H o hO h;clear hx;cbv;refine n_br hE h (fun hc h => ?_) (fun hc h => ?_)
    ·cbv;refine n_idx hE Encs.eGInterval_eq h fun x5 h => ?_;cbv;refine n_idx hE Encs.eGInterval_eq h fun x6 h => ?_;cbv;refine n_br hE h (fun hc h => ?_) (fun hc h => ?_)
     ·cbv;have h := ret_some h;subst h;exact ⟨_, rfl, .e rfl (.e rfl (.e rfl (.e rfl (.z)))), rfl, hO⟩
     ·cbv;have h := ret_some h;subst h;exact ⟨_, _, rfl, ⟨rfl, rfl, hO⟩, .e rfl (.e rfl (.e rfl (.e rfl (.z)))), rfl⟩
    ·cbv;have h := ret_some h;subst h;exact ⟨_, _, rfl, ⟨rfl, rfl, hO⟩, .e rfl (.e rfl (.e rfl (.e rfl (.z)))), rfl⟩
   ·exact .e rfl (.e rfl (.e rfl (.e rfl (.z))))
   ·clear hx;rintro e l H ⟨rfl, rfl, hO⟩;cbv;refine n_slice hE sz_GInterval h fun l7 t8 h => ?_;cbv;refine n_appn (f := Encs.eGInterval) hE sz_GInterval (by decide) (hO.tl0 (t := .full) rfl) 0 rfl trivial (l := []) (m := l7) (.lst0) (.refl _) h fun l10 t9 H hO ht9 h => ?_;cbv;refine n_idx hE Encs.eGInterval_eq h fun x11 h => ?_;cbv;refine n_appn (f := Encs.eGInterval) hE sz_GInterval (by decide) hO 0 rfl ht9 (l := l10) (m := [x11]) (.refl _) (.lstc (.eq (Encs.eGInterval_eq x11) (.refl _)) (.lst0)) h fun l13 t12 H hO ht12 h => ?_;cbv;refine n_slice hE sz_GInterval h fun l14 t15 h => ?_;cbv;refine n_appn (f := Encs.eGInterval) hE sz_GInterval (by decide) hO 0 rfl ht12 (l := l13) (m := l14) (.refl _) (.refl _) h fun l17 t16 H hO ht16 h => ?_;cbv;have h := ret_some h;subst h;exact ⟨_, rfl, .e rfl (.v (.ro _ _) (.e rfl (.z))), rfl, hO.tail⟩
  ·cbv;have h := ret_some h;subst h;exact ⟨_, _, rfl, ⟨rfl, rfl, hO⟩, .e rfl (.z), rfl⟩
 ·exact .e rfl (.v (.lit _ (lst_nil)) (.e rfl (.z)))
 ·clear hx;rintro e l H ⟨rfl, rfl, hO⟩;cbv;have h := ret_some h;subst h;exact hK _ _ _ hO (.refl _)
def cf100 : Cf := ⟨[6000004], [(7, 14), (9, 10)], [], [], [], []⟩
theorem c100 (N : Nat) (x_l : List GInterval) (r : (List GInterval)) (h : ref02_Normal N x_l = some r) : CallP Tryz.prog 100 [.sl (Ar.lst Encs.eGInterval x_l) .ro] (.sl (Ar.lst Encs.eGInterval r) .ro) := by
 unfold ref02_Normal at h
 refine callP_of_specF (T := TT) cf100 okP Tryz.func100 (by rfl) (by kernel_rfl) Tryz.call100 Tryz.ntmps100 (by rfl) (by rfl) ?_;intro E H0 K hE hK hF
 have hO : Own Eq H0 [] H0 := .start stable_eq rfl
 cbv;refine n_call hE (g := fun r1 => .sl (Ar.lst Encs.eGInterval r1) .ro) h (fun r1 hx => c135 N x_l r1 hx) (.refl _) fun r1 h => ?_;cbv;refine n_onil hE (f := Encs.eGInterval) hO fun q2 H hq2 hO => ?_;cbv;obtain ⟨s5, hx, h⟩ := bind_some h;refine n_loopG cf100 hE okP (γ := OG) (fun s3 g => [(3, .v (.sl (Ar.lst Encs.eGInterval r1) .ro)), (4, .v (.own g.id g.lo g.n)), (5, .v (.int .i64 s3.1))]) (fun s3 g H1 => Okn g (Ar.len s3.2) ∧ Own Eq H0 [.blk g.id (.arr 2 (g.pre ++ Ar.lst Encs.eGInterval s3.2 ++ g.rest))] H1) (fun x e l H1 => ∃ u1 : OG, Okn u1 (Ar.len x) ∧ e = .exit 0 ∧ l = [(4, .v (.own u1.id u1.lo u1.n))] ∧ Own Eq H0 [.blk u1.id (.arr 2 (u1.pre ++ Ar.lst Encs.eGInterval x ++ u1.rest))] H1) (by kernel_rfl) ?_ q2 hx ?_ ?_ ?_
 ·rintro s3 q4 H o ⟨hq4, hO⟩ h;clear hx;cbv;refine n_ln hE ?_;cbv;refine n_br hE h (fun hc h => ?_) (fun hc h => ?_)
  ·cbv;refine n_olen hE hq4 ?_;cbv;refine n_br hE h (fun hc h => ?_) (fun hc h => ?_)
   ·cbv;refine n_idx hE Encs.eGInterval_eq h fun x6 h => ?_;cbv;refine n_oapp (f := Encs.eGInterval) hE sz_GInterval (by decide) hO hq4 0 rfl (m := [x6]) (src_sl (f := Encs.eGInterval) hE sz_GInterval (.lstc (.eq (Encs.eGInterval_eq x6) (.refl _)) (.lst0))) h fun l8 q7 H hq7 hO h => ?_;cbv;have h := ret_some h;subst h;exact ⟨_, q7, rfl, .e rfl (.e rfl (.e rfl (.z))), rfl, hq7, hO⟩
   ·cbv;refine n_idx hE Encs.eGInterval_eq h fun x9 h => ?_;cbv;refine n_oidx hE hO hq4 0 rfl h fun h => ?_;cbv;refine n_oload hE Encs.eGInterval_eq hO hq4 0 rfl h fun x10 h => ?_;cbv;refine n_br hE h (fun hc h => ?_) (fun hc h => ?_)
    ·cbv;refine n_idx hE Encs.eGInterval_eq h fun x11 h => ?_;cbv;refine n_oapp (f := Encs.eGInterval) hE sz_GInterval (by decide) hO hq4 0 rfl (m := [x11]) (src_sl (f := Encs.eGInterval) hE sz_GInterval (.lstc (.eq (Encs.eGInterval_eq x11) (.refl _)) (.lst0))) h fun l13 q12 H hq12 hO h => ?_;cbv;have h := ret_some h;subst h;exact ⟨_, q12, rfl, .e rfl (.e rfl (.e rfl (.z))), rfl, hq12, hO⟩
    ·cbv;refine n_idx hE Encs.eGInterval_eq h fun x14 h => ?_;cbv;refine n_oidx hE hO hq4 0 rfl h fun h => ?_;cbv;refine n_oload hE Encs.eGInterval_eq hO hq4 0 rfl h fun x15 h => ?_;cbv;refine n_br hE h (fun hc h => ?_) (fun hc h => ?_)
     ·cbv;refine n_idx hE Encs.eGInterval_eq h fun x16 h => ?_;cbv;refine n_oidx hE hO hq4 0 rfl h fun h => ?_;cbv;refine n_ostore hE (f := Encs.eGInterval) (esz := 2) (tz := 1) (off := 1) (u := (fun x17 : GInterval => { x17 with High := x16.High })) (fun x17 => ⟨.int .i64 x16.High, .refl _, rfl, rfl, (by rw [Encs.eGInterval_eq, Encs.eGInterval_eq]; rfl)⟩) (by decide) hO hq4 0 rfl h fun l18 H hq4 h hO => ?_;cbv;have h := ret_some h;subst h;exact ⟨_, q4, rfl, .e rfl (.e rfl (.e rfl (.z))), rfl, hq4, hO⟩
     ·cbv;have h := ret_some h;subst h;exact ⟨_, q4, rfl, .e rfl (.e rfl (.e rfl (.z))), rfl, hq4, hO⟩
  ·cbv;have h := ret_some h;subst h;exact ⟨_, _, rfl, ⟨q4, hq4, rfl, rfl, hO⟩, .e rfl (.z), rfl⟩
 ·exact .e rfl (.e rfl (.e rfl (.z)))
 ·exact ⟨hq2, hO⟩
 ·clear hx;rintro e l H ⟨q19, hq19, rfl, rfl, hO⟩;cbv;have h := ret_some h;subst h;exact hF q19 _ _ 0 _ _ hO rfl (okn_lst hE hq19) (.refl _)
def cf48 : Cf := ⟨[], [(8, 23)], [], [], [], []⟩
theorem c48 (N : Nat) (x_a : List GInterval) (x_b : List GInterval) (r : (List GInterval)) (h : ref02_Both N x_a x_b = some r) : CallP Tryz.prog 48 [.sl (Ar.lst Encs.eGInterval x_a) .ro, .sl (Ar.lst Encs.eGInterval x_b) .ro] (.sl (Ar.lst Encs.eGInterval r) .ro) := by
 unfold ref02_Both at h
 refine callP_of_spec cf48 okP Tryz.func48 (by rfl) (by kernel_rfl) Tryz.call48 Tryz.ntmps48 (by rfl) (by rfl) ?_;intro E H0 K hE hK
 have hO : Own Eq H0 [] H0 := .start stable_eq rfl
 cbv;replace hO := hO.tl0 (t := .nil) rfl;obtain ⟨s3, hx, h⟩ := bind_some h;refine n_loopG cf48 hE okP (γ := Tail) (fun s1 g => [(0, .v (.sl (Ar.lst Encs.eGInterval x_a) .ro)), (1, .v (.sl (Ar.lst Encs.eGInterval x_b) .ro)), (5, .v (.sl (Ar.lst Encs.eGInterval s1.1) g)), (6, .v (.int .i64 s1.2))]) (fun s1 g H1 => Appn g ∧ Own Eq H0 [.tl g] H1) (fun x e l H1 => ∃ u1 : Tail, Appn u1 ∧ e = .exit 0 ∧ l = [(5, .v (.sl (Ar.lst Encs.eGInterval x) u1))] ∧ Own Eq H0 [.tl u1] H1) (by kernel_rfl) ?_ .nil hx ?_ ?_ ?_
 ·rintro s1 t2 H o ⟨ht2, hO⟩ h;clear hx;cbv;refine n_ln hE ?_;cbv;refine n_br hE h (fun hc h => ?_) (fun hc h => ?_)
  ·cbv;obtain ⟨s6, hx, h⟩ := bind_some h;refine n_loopG cf48 hE okP (γ := Tail) (fun s4 g => [(0, .v (.sl (Ar.lst Encs.eGInterval x_a) .ro)), (1, .v (.sl (Ar.lst Encs.eGInterval x_b) .ro)), (5, .v (.sl (Ar.lst Encs.eGInterval s4.1) g)), (6, .v (.int .i64 s1.2)), (7, .v (.int .i64 s4.2))]) (fun s4 g H1 => Appn g ∧ Own Eq H0 [.tl g] H1) (fun x e l H1 => ∃ u1 : Tail, Appn u1 ∧ e = .exit 2 ∧ l = [(0, .v (.sl (Ar.lst Encs.eGInterval x_a) .ro)), (1, .v (.sl (Ar.lst Encs.eGInterval x_b) .ro)), (5, .v (.sl (Ar.lst Encs.eGInterval x) u1)), (6, .v (.int .i64 s1.2))] ∧ Own Eq H0 [.tl u1] H1) (by kernel_rfl) ?_ t2 hx ?_ ?_ ?_
   ·rintro s4 t5 H o ⟨ht5, hO⟩ h;clear hx;cbv;refine n_ln hE ?_;cbv;refine n_br hE h (fun hc h => ?_) (fun hc h => ?_)
    ·cbv;refine n_idx hE Encs.eGInterval_eq h fun x7 h => ?_;cbv;refine n_idx hE Encs.eGInterval_eq h fun x8 h => ?_;cbv;refine n_idx hE Encs.eGInterval_eq h fun x9 h => ?_;cbv;refine n_idx hE Encs.eGInterval_eq h fun x10 h => ?_;cbv;refine n_br hE h (fun hc h => ?_) (fun hc h => ?_)
     ·cbv;refine n_appn (f := Encs.eGInterval) hE sz_GInterval (by decide) hO 0 rfl ht5 (l := s4.1) (m := [(⟨Ar.mx x7.Low x8.Low, Ar.mn x9.High x10.High⟩ : GInterval)]) (.refl _) (.lstc (.eq (Encs.eGInterval_eq (⟨Ar.mx x7.Low x8.Low, Ar.mn x9.High x10.High⟩ : GInterval)) (.refl _)) (.lst0)) h fun l12 t11 H hO ht11 h => ?_;cbv;have h := ret_some h;subst h;exact ⟨_, t11, rfl, .e rfl (.e rfl (.e rfl (.e rfl (.e rfl (.z))))), rfl, ht11, hO⟩
     ·cbv;have h := ret_some h;subst h;exact ⟨_, t5, rfl, .e rfl (.e rfl (.e rfl (.e rfl (.e rfl (.z))))), rfl, ht5, hO⟩
    ·cbv;have h := ret_some h;subst h;exact ⟨_, _, rfl, ⟨t5, ht5, rfl, rfl, hO⟩, .e rfl (.e rfl (.e rfl (.e rfl (.z)))), rfl⟩
   ·exact .e rfl (.e rfl (.e rfl (.e rfl (.e rfl (.z)))))
   ·exact ⟨ht2, hO⟩
   ·clear hx;rintro e l H ⟨t13, ht13, rfl, rfl, hO⟩;cbv;have h := ret_some h;subst h;exact ⟨_, t13, rfl, .e rfl (.e rfl (.e rfl (.e rfl (.z)))), rfl, ht13, hO⟩
  ·cbv;have h := ret_some h;subst h;exact ⟨_, _, rfl, ⟨t2, ht2, rfl, rfl, hO⟩, .e rfl (.z), rfl⟩
 ·exact .e rfl (.e rfl (.v (.slt _ (.lst0)) (.e rfl (.z))))
 ·exact ⟨trivial, hO⟩
 ·clear hx;rintro e l H ⟨t14, ht14, rfl, rfl, hO⟩;cbv;refine n_call hE (g := fun r15 => .sl (Ar.lst Encs.eGInterval r15) .ro) h (fun r15 hx => c100 N s3 r15 hx) (.cons (.ro _ _) (.refl _)) fun r15 h => ?_;cbv;have h := ret_some h;subst h;exact hK _ _ _ hO (.refl _)
end Go.Ab

