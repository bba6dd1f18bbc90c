/- GRCo4 -/
import Derived.Test.YtbjdkpckplopdaaT35
set_option linter.all false

namespace Go.Ab
open Go.RowKit Go.Proofs
variable [Ar] [Encs]
set_option maxRecDepth 100000
def cf67 : Cf := ⟨[], [], [], [], [], []⟩
theorem c67 (N : Nat) (x_a : GAutomaton) (x_x : GEdge) (x_before : Int) (r : Int) (h : ref23_edge N x_a x_x x_before = some r) : CallP Try.prog 67 [.agg [.int .i64 x_a.Vars, .int .i64 x_a.Scopes, .sl (Ar.lst Encs.eGState x_a.States) .ro, .sl (Ar.lst Encs.eGEdge x_a.Edges) .ro], .agg [.int .i64 x_x.From, .int .i64 x_x.To, .int .i64 x_x.Var, .int .i64 x_x.Typ, .int .i64 x_x.Cond.Op, .sl (Ar.lst Encs.eGExpr x_x.Cond.Args) .ro, .int .i64 x_x.Cond.Var, .int .i64 x_x.Cond.Field, .int .i64 x_x.Cond.Kind, .int .i64 x_x.Cond.Value.Kind, .int .i64 x_x.Cond.Value.Num, .str x_x.Cond.Value.Text, .sl (Ar.lst (V.int .i64) x_x.Opens) .ro, .sl (Ar.lst (V.int .i64) x_x.Closes) .ro, .sl (Ar.lst Encs.eGExpr x_x.Checks) .ro, .sl (Ar.lst Encs.eGLimit x_x.Limits) .ro, .sl (Ar.lst (V.int .i64) x_x.Inside) .ro], .int .i64 x_before] (.int .i64 r) := by
 unfold ref23_edge at h
 refine callP_of_spec cf67 okP Try.func67 (by rfl) (by kernel_rfl) Try.call67 Try.ntmps67 (by rfl) (by rfl) ?_;intro E H0 K hE hK
 have hO : Own Eq H0 [] H0 := .start stable_eq rfl
 cbv;refine n_ln hE ?_;cbv;refine n_call hE (g := fun r1 => .bool r1) h (fun r1 hx => c65 N x_x.From (Ar.ar .sub .i64 (Ar.len x_a.States) 1) r1 hx) (.refl _) fun r1 h => ?_;cbv;refine n_br hE h (fun hc h => ?_) (fun hc h => ?_)
 ·cbv;have h := ret_some h;subst h;exact hK _ _ _ hO (.refl _)
 cbv;refine n_br hE h (fun hc h => ?_) (fun hc h => ?_)
 ·cbv;refine n_call hE (g := fun r2 => .bool r2) h (fun r2 hx => c65 N x_x.To (Ar.ar .sub .i64 (Ar.len x_a.States) 1) r2 hx) (.refl _) fun r2 h => ?_;cbv;refine n_br hE h (fun hc h => ?_) (fun hc h => ?_)
  ·cbv;have h := ret_some h;subst h;exact hK _ _ _ hO (.refl _)
  cbv;refine n_call hE (g := fun r3 => .bool r3) h (fun r3 hx => c65 N x_x.Var (Ar.ar .sub .i64 x_a.Vars 1) r3 hx) (.refl _) fun r3 h => ?_;cbv;refine n_br hE h (fun hc h => ?_) (fun hc h => ?_)
  ·cbv;have h := ret_some h;subst h;exact hK _ _ _ hO (.refl _)
  cbv;refine n_call hE (g := fun r4 => .bool r4) h (fun r4 hx => c65 N x_x.Typ 15 r4 hx) (.refl _) fun r4 h => ?_;cbv;refine n_br hE h (fun hc h => ?_) (fun hc h => ?_)
  ·cbv;have h := ret_some h;subst h;exact hK _ _ _ hO (.refl _)
  cbv;refine n_br hE h (fun hc h => ?_) (fun hc h => ?_)
  ·cbv;have h := ret_some h;subst h;exact hK _ _ _ hO (.refl _)
  cbv;refine n_call hE (g := fun r5 => .int .i64 r5) h (fun r5 hx => c37 N x_x.Cond r5 hx) (.refl _) fun r5 h => ?_;cbv;refine n_br hE h (fun hc h => ?_) (fun hc h => ?_)
  ·cbv;have h := ret_some h;subst h;exact hK _ _ _ hO (.refl _)
  cbv;refine n_ln hE ?_;cbv;refine n_br hE h (fun hc h => ?_) (fun hc h => ?_)
  ·cbv;have h := ret_some h;subst h;exact hK _ _ _ hO (.refl _)
  cbv;obtain ⟨s7, hx, h⟩ := bind_some h;refine n_loopN cf67 hE okP (fun s6 => [(3, .v (.eref [.int .i64 x_a.Vars, .int .i64 x_a.Scopes, .sl (Ar.lst Encs.eGState x_a.States) .ro, .sl (Ar.lst Encs.eGEdge x_a.Edges) .ro] 0)), (4, .v (.eref [.int .i64 x_x.From, .int .i64 x_x.To, .int .i64 x_x.Var, .int .i64 x_x.Typ, .int .i64 x_x.Cond.Op, .sl (Ar.lst Encs.eGExpr x_x.Cond.Args) .ro, .int .i64 x_x.Cond.Var, .int .i64 x_x.Cond.Field, .int .i64 x_x.Cond.Kind, .int .i64 x_x.Cond.Value.Kind, .int .i64 x_x.Cond.Value.Num, .str x_x.Cond.Value.Text, .sl (Ar.lst (V.int .i64) x_x.Opens) .ro, .sl (Ar.lst (V.int .i64) x_x.Closes) .ro, .sl (Ar.lst Encs.eGExpr x_x.Checks) .ro, .sl (Ar.lst Encs.eGLimit x_x.Limits) .ro, .sl (Ar.lst (V.int .i64) x_x.Inside) .ro] 0)), (9, .v (.int .i64 s6))]) (fun s6 H1 => Own Eq H0 [] H1) (fun x e l H1 => match (generalizing := false) x with | .inl y => e = .exit 0 ∧ l = [(3, .v (.eref [.int .i64 x_a.Vars, .int .i64 x_a.Scopes, .sl (Ar.lst Encs.eGState x_a.States) .ro, .sl (Ar.lst Encs.eGEdge x_a.Edges) .ro] 0)), (4, .v (.eref [.int .i64 x_x.From, .int .i64 x_x.To, .int .i64 x_x.Var, .int .i64 x_x.Typ, .int .i64 x_x.Cond.Op, .sl (Ar.lst Encs.eGExpr x_x.Cond.Args) .ro, .int .i64 x_x.Cond.Var, .int .i64 x_x.Cond.Field, .int .i64 x_x.Cond.Kind, .int .i64 x_x.Cond.Value.Kind, .int .i64 x_x.Cond.Value.Num, .str x_x.Cond.Value.Text, .sl (Ar.lst (V.int .i64) x_x.Opens) .ro, .sl (Ar.lst (V.int .i64) x_x.Closes) .ro, .sl (Ar.lst Encs.eGExpr x_x.Checks) .ro, .sl (Ar.lst Encs.eGLimit x_x.Limits) .ro, .sl (Ar.lst (V.int .i64) x_x.Inside) .ro] 0))] ∧ Own Eq H0 [] H1 | .inr y => e = .ret ∧ l = [(6, .v (.int .i64 y))] ∧ Own Eq H0 [] H1) (by kernel_rfl) ?_ hx ?_ hO ?_
  ·intro s6 H o hO h;clear hx;cbv;refine n_ln hE ?_;cbv;refine n_br hE h (fun hc h => ?_) (fun hc h => ?_)
   ·cbv;refine n_idx hE Encs.eGExpr_eq h fun x8 h => ?_;cbv;refine n_call hE (g := fun r9 => .int .i64 r9) h (fun r9 hx => c37 N x8 r9 hx) (.refl _) fun r9 h => ?_;cbv;refine n_br hE h (fun hc h => ?_) (fun hc h => ?_)
    ·cbv;have h := ret_some h;subst h;exact ⟨_, _, rfl, ⟨rfl, rfl, hO⟩, .e rfl (.z), rfl⟩
    cbv;have h := ret_some h;subst h;exact ⟨_, rfl, .e rfl (.e rfl (.e rfl (.z))), rfl, hO⟩
   cbv;have h := ret_some h;subst h;exact ⟨_, _, rfl, ⟨rfl, rfl, hO⟩, .e rfl (.e rfl (.z)), rfl⟩
  ·exact .e rfl (.e rfl (.e rfl (.z)))
  clear hx
  rcases s7 with y10 | y12
  ·rintro e l H ⟨rfl, rfl, hO⟩;cbv;refine n_call hE (g := fun r11 => .int .i64 r11) h (fun r11 hx => c89 N x_a x_x r11 hx) (.refl _) fun r11 h => ?_;cbv;have h := ret_some h;subst h;exact hK _ _ _ hO (.refl _)
  rintro e l H ⟨rfl, rfl, hO⟩;cbv;have h := ret_some h;subst h;exact hK _ _ _ hO (.refl _)
 cbv;refine n_call hE (g := fun r13 => .bool r13) h (fun r13 hx => c65 N x_x.Var (Ar.ar .sub .i64 x_a.Vars 1) r13 hx) (.refl _) fun r13 h => ?_;cbv;refine n_br hE h (fun hc h => ?_) (fun hc h => ?_)
 ·cbv;have h := ret_some h;subst h;exact hK _ _ _ hO (.refl _)
 cbv;refine n_call hE (g := fun r14 => .bool r14) h (fun r14 hx => c65 N x_x.Typ 15 r14 hx) (.refl _) fun r14 h => ?_;cbv;refine n_br hE h (fun hc h => ?_) (fun hc h => ?_)
 ·cbv;have h := ret_some h;subst h;exact hK _ _ _ hO (.refl _)
 cbv;refine n_br hE h (fun hc h => ?_) (fun hc h => ?_)
 ·cbv;have h := ret_some h;subst h;exact hK _ _ _ hO (.refl _)
 cbv;refine n_call hE (g := fun r15 => .int .i64 r15) h (fun r15 hx => c37 N x_x.Cond r15 hx) (.refl _) fun r15 h => ?_;cbv;refine n_br hE h (fun hc h => ?_) (fun hc h => ?_)
 ·cbv;have h := ret_some h;subst h;exact hK _ _ _ hO (.refl _)
 cbv;refine n_ln hE ?_;cbv;refine n_br hE h (fun hc h => ?_) (fun hc h => ?_)
 ·cbv;have h := ret_some h;subst h;exact hK _ _ _ hO (.refl _)
 cbv;obtain ⟨s17, hx, h⟩ := bind_some h;refine n_loopN cf67 hE okP (fun s16 => [(3, .v (.eref [.int .i64 x_a.Vars, .int .i64 x_a.Scopes, .sl (Ar.lst Encs.eGState x_a.States) .ro, .sl (Ar.lst Encs.eGEdge x_a.Edges) .ro] 0)), (4, .v (.eref [.int .i64 x_x.From, .int .i64 x_x.To, .int .i64 x_x.Var, .int .i64 x_x.Typ, .int .i64 x_x.Cond.Op, .sl (Ar.lst Encs.eGExpr x_x.Cond.Args) .ro, .int .i64 x_x.Cond.Var, .int .i64 x_x.Cond.Field, .int .i64 x_x.Cond.Kind, .int .i64 x_x.Cond.Value.Kind, .int .i64 x_x.Cond.Value.Num, .str x_x.Cond.Value.Text, .sl (Ar.lst (V.int .i64) x_x.Opens) .ro, .sl (Ar.lst (V.int .i64) x_x.Closes) .ro, .sl (Ar.lst Encs.eGExpr x_x.Checks) .ro, .sl (Ar.lst Encs.eGLimit x_x.Limits) .ro, .sl (Ar.lst (V.int .i64) x_x.Inside) .ro] 0)), (9, .v (.int .i64 s16))]) (fun s16 H1 => Own Eq H0 [] H1) (fun x e l H1 => match (generalizing := false) x with | .inl y => e = .exit 0 ∧ l = [(3, .v (.eref [.int .i64 x_a.Vars, .int .i64 x_a.Scopes, .sl (Ar.lst Encs.eGState x_a.States) .ro, .sl (Ar.lst Encs.eGEdge x_a.Edges) .ro] 0)), (4, .v (.eref [.int .i64 x_x.From, .int .i64 x_x.To, .int .i64 x_x.Var, .int .i64 x_x.Typ, .int .i64 x_x.Cond.Op, .sl (Ar.lst Encs.eGExpr x_x.Cond.Args) .ro, .int .i64 x_x.Cond.Var, .int .i64 x_x.Cond.Field, .int .i64 x_x.Cond.Kind, .int .i64 x_x.Cond.Value.Kind, .int .i64 x_x.Cond.Value.Num, .str x_x.Cond.Value.Text, .sl (Ar.lst (V.int .i64) x_x.Opens) .ro, .sl (Ar.lst (V.int .i64) x_x.Closes) .ro, .sl (Ar.lst Encs.eGExpr x_x.Checks) .ro, .sl (Ar.lst Encs.eGLimit x_x.Limits) .ro, .sl (Ar.lst (V.int .i64) x_x.Inside) .ro] 0))] ∧ Own Eq H0 [] H1 | .inr y => e = .ret ∧ l = [(6, .v (.int .i64 y))] ∧ Own Eq H0 [] H1) (by kernel_rfl) ?_ hx ?_ hO ?_
 ·intro s16 H o hO h;clear hx;cbv;refine n_ln hE ?_;cbv;refine n_br hE h (fun hc h => ?_) (fun hc h => ?_)
  ·cbv;refine n_idx hE Encs.eGExpr_eq h fun x18 h => ?_;cbv;refine n_call hE (g := fun r19 => .int .i64 r19) h (fun r19 hx => c37 N x18 r19 hx) (.refl _) fun r19 h => ?_;cbv;refine n_br hE h (fun hc h => ?_) (fun hc h => ?_)
   ·cbv;have h := ret_some h;subst h;exact ⟨_, _, rfl, ⟨rfl, rfl, hO⟩, .e rfl (.z), rfl⟩
   cbv;have h := ret_some h;subst h;exact ⟨_, rfl, .e rfl (.e rfl (.e rfl (.z))), rfl, hO⟩
  cbv;have h := ret_some h;subst h;exact ⟨_, _, rfl, ⟨rfl, rfl, hO⟩, .e rfl (.e rfl (.z)), rfl⟩
 ·exact .e rfl (.e rfl (.e rfl (.z)))
 clear hx
 rcases s17 with y20 | y22
 ·rintro e l H ⟨rfl, rfl, hO⟩;cbv;refine n_call hE (g := fun r21 => .int .i64 r21) h (fun r21 hx => c89 N x_a x_x r21 hx) (.refl _) fun r21 h => ?_;cbv;have h := ret_some h;subst h;exact hK _ _ _ hO (.refl _)
 rintro e l H ⟨rfl, rfl, hO⟩;cbv;have h := ret_some h;subst h;exact hK _ _ _ hO (.refl _)
def cf43 : Cf := ⟨[], [(8, 7), (15, 7)], [], [], [], []⟩
theorem c43 (N : Nat) (x_a : GAutomaton) (r : Int) (h : ref23_Check N x_a = some r) : CallP Try.prog 43 [.agg [.int .i64 x_a.Vars, .int .i64 x_a.Scopes, .sl (Ar.lst Encs.eGState x_a.States) .ro, .sl (Ar.lst Encs.eGEdge x_a.Edges) .ro]] (.int .i64 r) := by
 unfold ref23_Check at h
 refine callP_of_spec cf43 okP Try.func43 (by rfl) (by kernel_rfl) Try.call43 Try.ntmps43 (by rfl) (by rfl) ?_;intro E H0 K hE hK
 have hO : Own Eq H0 [] H0 := .start stable_eq rfl
 cbv;refine n_call hE (g := fun r1 => .bool r1) h (fun r1 hx => c65 N x_a.Vars 16 r1 hx) (.refl _) fun r1 h => ?_;cbv;refine n_br hE h (fun hc h => ?_) (fun hc h => ?_)
 ·cbv;have h := ret_some h;subst h;exact hK _ _ _ hO (.refl _)
 cbv;refine n_call hE (g := fun r2 => .bool r2) h (fun r2 hx => c65 N x_a.Scopes 64 r2 hx) (.refl _) fun r2 h => ?_;cbv;refine n_br hE h (fun hc h => ?_) (fun hc h => ?_)
 ·cbv;have h := ret_some h;subst h;exact hK _ _ _ hO (.refl _)
 cbv;refine n_ln hE ?_;cbv;refine n_ln hE ?_;cbv;refine n_ln hE ?_;cbv;refine n_br hE h (fun hc h => ?_) (fun hc h => ?_)
 ·cbv;have h := ret_some h;subst h;exact hK _ _ _ hO (.refl _)
 cbv;obtain ⟨s4, hx, h⟩ := bind_some h;refine n_loopN cf43 hE okP (fun s3 => [(1, .v (.eref [.int .i64 x_a.Vars, .int .i64 x_a.Scopes, .sl (Ar.lst Encs.eGState x_a.States) .ro, .sl (Ar.lst Encs.eGEdge x_a.Edges) .ro] 0)), (3, .v (.int .i64 s3))]) (fun s3 H1 => Own Eq H0 [] H1) (fun x e l H1 => match (generalizing := false) x with | .inl y => e = .exit 0 ∧ l = [(1, .v (.eref [.int .i64 x_a.Vars, .int .i64 x_a.Scopes, .sl (Ar.lst Encs.eGState x_a.States) .ro, .sl (Ar.lst Encs.eGEdge x_a.Edges) .ro] 0))] ∧ Own Eq H0 [] H1 | .inr y => e = .ret ∧ l = [(2, .v (.int .i64 y))] ∧ Own Eq H0 [] H1) (by kernel_rfl) ?_ hx ?_ hO ?_
 ·intro s3 H o hO h;clear hx;cbv;refine n_ln hE ?_;cbv;refine n_br hE h (fun hc h => ?_) (fun hc h => ?_)
  ·cbv;refine n_idx hE Encs.eGState_eq h fun x5 h => ?_;cbv;refine n_call hE (g := fun r6 => .int .i64 r6) h (fun r6 hx => c66 N x_a x5.Guards r6 hx) (.refl _) fun r6 h => ?_;cbv;refine n_br hE h (fun hc h => ?_) (fun hc h => ?_)
   ·cbv;have h := ret_some h;subst h;exact ⟨_, _, rfl, ⟨rfl, rfl, hO⟩, .e rfl (.z), rfl⟩
   cbv;have h := ret_some h;subst h;exact ⟨_, rfl, .e rfl (.e rfl (.z)), rfl, hO⟩
  cbv;have h := ret_some h;subst h;exact ⟨_, _, rfl, ⟨rfl, rfl, hO⟩, .e rfl (.z), rfl⟩
 ·exact .e rfl (.e rfl (.z))
 clear hx
 rcases s4 with y7 | y15
 ·rintro e l H ⟨rfl, rfl, hO⟩;cbv;obtain ⟨s9, hx, h⟩ := bind_some h;refine n_loopN cf43 hE okP (fun s8 => [(1, .v (.eref [.int .i64 x_a.Vars, .int .i64 x_a.Scopes, .sl (Ar.lst Encs.eGState x_a.States) .ro, .sl (Ar.lst Encs.eGEdge x_a.Edges) .ro] 0)), (5, .v (.int .i64 s8.1)), (6, .v (.int .i64 s8.2))]) (fun s8 H1 => Own Eq H0 [] H1) (fun x e l H1 => match (generalizing := false) x with | .inl y => e = .exit 2 ∧ l = [] ∧ Own Eq H0 [] H1 | .inr y => e = .ret ∧ l = [(2, .v (.int .i64 y))] ∧ Own Eq H0 [] H1) (by kernel_rfl) ?_ hx ?_ hO ?_
  ·intro s8 H o hO h;clear hx;cbv;refine n_ln hE ?_;cbv;refine n_br hE h (fun hc h => ?_) (fun hc h => ?_)
   ·cbv;refine n_idx hE Encs.eGEdge_eq h fun x10 h => ?_;cbv;refine n_call hE (g := fun r11 => .int .i64 r11) h (fun r11 hx => c67 N x_a x10 s8.1 r11 hx) (.refl _) fun r11 h => ?_;cbv;refine n_br hE h (fun hc h => ?_) (fun hc h => ?_)
    ·cbv;have h := ret_some h;subst h;exact ⟨_, _, rfl, ⟨rfl, rfl, hO⟩, .e rfl (.z), rfl⟩
    cbv;refine n_idx hE Encs.eGEdge_eq h fun x12 h => ?_;cbv;have h := ret_some h;subst h;exact ⟨_, rfl, .e rfl (.e rfl (.e rfl (.z))), rfl, hO⟩
   cbv;have h := ret_some h;subst h;exact ⟨_, _, rfl, ⟨rfl, rfl, hO⟩, .z, rfl⟩
  ·exact .e rfl (.e rfl (.e rfl (.z)))
  clear hx
  rcases s9 with y13 | y14
  ·rintro e l H ⟨rfl, rfl, hO⟩;cbv;have h := ret_some h;subst h;exact hK _ _ _ hO (.refl _)
  rintro e l H ⟨rfl, rfl, hO⟩;cbv;have h := ret_some h;subst h;exact hK _ _ _ hO (.refl _)
 rintro e l H ⟨rfl, rfl, hO⟩;cbv;have h := ret_some h;subst h;exact hK _ _ _ hO (.refl _)
def cf90 : Cf := ⟨[7], [], [(21, 8)], [], [], []⟩
theorem c90 (N : Nat) (x_l : List GNeed) (x_v : Int) (r : (List GNeed)) (h : ref26_without N x_l x_v = some r) : CallP Try.prog 90 [.sl (Ar.lst Encs.eGNeed x_l) .ro, .int .i64 x_v] (.sl (Ar.lst Encs.eGNeed r) .ro) := by
 unfold ref26_without at h
 refine callP_of_spec cf90 okP Try.func90 (by rfl) (by kernel_rfl) Try.call90 Try.ntmps90 (by rfl) (by rfl) ?_;intro E H0 K hE hK
 have hO : Own Eq H0 [] H0 := .start stable_eq rfl
 cbv;replace hO := hO.tl0 (t := .nil) rfl;obtain ⟨s3, hx, h⟩ := bind_some h;refine n_loopG cf90 hE okP (γ := Tail) (fun s1 g => [(0, .v (.sl (Ar.lst Encs.eGNeed x_l) .ro)), (1, .v (.int .i64 x_v)), (5, .v (.sl (Ar.lst Encs.eGNeed s1.1) g)), (6, .v (.int .i64 s1.2))]) (fun s1 g H1 => Appn g ∧ Own Eq H0 [.tl g] H1) (fun x e l H1 => ∃ u1 : Tail, Appn u1 ∧ e = .exit 0 ∧ l = [(5, .v (.sl (Ar.lst Encs.eGNeed x) u1))] ∧ Own Eq H0 [.tl u1] H1) (by kernel_rfl) ?_ .nil hx ?_ ?_ ?_
 ·rintro s1 t2 H o ⟨ht2, hO⟩ h;clear hx;cbv;refine n_ln hE ?_;cbv;refine n_br hE h (fun hc h => ?_) (fun hc h => ?_)
  ·cbv;refine n_idx hE Encs.eGNeed_eq h fun x4 h => ?_;cbv;refine n_alloc hE hO fun b5 H hO => ?_;cbv;refine n_store hE hO 0 rfl rfl fun H hO => ?_;cbv;refine n_load hE hO 0 rfl ?_;cbv;obtain ⟨s6, hx, h⟩ := bind_some h;refine n_join cf90 hE okP (fun e l H1 => e = .normal ∧ l = [(0, .v (.sl (Ar.lst Encs.eGNeed x_l) .ro)), (1, .v (.int .i64 x_v)), (5, .v (.sl (Ar.lst Encs.eGNeed s1.1) t2)), (6, .v (.int .i64 s1.2)), (7, .v (.ref b5 0))] ∧ Own Eq H0 [.blk b5 (.cells [.int .i64 s6.Var, .int .i64 s6.Last, .int .i64 s6.All]), .tl t2] H1) (by kernel_rfl) ?_ ?_
   ·clear h;have h := hx;clear hx;cbv;refine n_br hE h (fun hc h => ?_) (fun hc h => ?_)
    ·cbv;refine n_store hE hO 0 rfl rfl fun H hO => ?_;cbv;have h := ret_some h;subst h;exact ⟨_, ⟨rfl, rfl, hO⟩, .e rfl (.e rfl (.e rfl (.e rfl (.e rfl (.z))))), rfl⟩
    cbv;have h := ret_some h;subst h;exact ⟨_, ⟨rfl, rfl, hO⟩, .e rfl (.e rfl (.e rfl (.e rfl (.e rfl (.z))))), rfl⟩
   clear hx;rintro e l H ⟨rfl, rfl, hO⟩;cbv;refine n_load hE hO 0 rfl ?_;cbv;refine n_load hE hO 0 rfl ?_;cbv;refine n_br hE h (fun hc h => ?_) (fun hc h => ?_)
   ·cbv;refine n_load hE hO 0 rfl ?_;cbv;refine n_appn (f := Encs.eGNeed) hE sz_GNeed (by decide) hO 1 rfl ht2 (l := s1.1) (m := [s6]) (.refl _) (.lstc (.eq (Encs.eGNeed_eq s6) (.refl _)) (.lst0)) h fun l8 t7 H hO ht7 h => ?_;cbv;have h := ret_some h;subst h;exact ⟨_, t7, rfl, .e rfl (.e rfl (.e rfl (.e rfl (.z)))), rfl, ht7, hO.tail⟩
   cbv;have h := ret_some h;subst h;exact ⟨_, t2, rfl, .e rfl (.e rfl (.e rfl (.e rfl (.z)))), rfl, ht2, hO.tail⟩
  cbv;have h := ret_some h;subst h;exact ⟨_, _, rfl, ⟨t2, ht2, rfl, rfl, hO⟩, .e rfl (.z), rfl⟩
 ·exact .e rfl (.e rfl (.v (.slt _ (.lst0)) (.e rfl (.z))))
 ·exact ⟨trivial, hO⟩
 clear hx;rintro e l H ⟨t9, ht9, rfl, rfl, hO⟩;cbv;have h := ret_some h;subst h;exact hK _ _ _ hO (.ro _ _)
def cfb91_1 : Cf := ⟨[], [], [], [], [], []⟩
theorem b91_1 (N : Nat) (x_x : GEdge) (x_states : List (List GNeed)) (r : (List GNeed)) (h : ref26_Behind_b1 N x_x x_states = some r) : CallB1 Try.prog 91 (fun q => [.agg [.int .i64 x_x.From, .int .i64 x_x.To, .int .i64 x_x.Var, .int .i64 x_x.Typ, .int .i64 x_x.Cond.Op, .sl (Ar.lst Encs.eGExpr x_x.Cond.Args) .ro, .int .i64 x_x.Cond.Var, .int .i64 x_x.Cond.Field, .int .i64 x_x.Cond.Kind, .int .i64 x_x.Cond.Value.Kind, .int .i64 x_x.Cond.Value.Num, .str x_x.Cond.Value.Text, .sl (Ar.lst (V.int .i64) x_x.Opens) .ro, .sl (Ar.lst (V.int .i64) x_x.Closes) .ro, .sl (Ar.lst Encs.eGExpr x_x.Checks) .ro, .sl (Ar.lst Encs.eGLimit x_x.Limits) .ro, .sl (Ar.lst (V.int .i64) x_x.Inside) .ro], .own q.id q.lo q.n]) 1 (Ar.lst Encs.eLGNeed x_states) (.sl (Ar.lst Encs.eGNeed r) .ro) := by
 unfold ref26_Behind_b1 at h
 refine callB1_run (T := TT) (m := 2) cfb91_1 okP Try.func91 (by rfl) (by kernel_rfl) Try.call91 Try.ntmps91 (by rfl) (fun _ => rfl) (by rfl) ?_;intro E H0 q0 K hE hq0 hO hK;cbv;replace hO := hO.tl0 (t := .nil) rfl;obtain ⟨s2, hx, h⟩ := bind_some h;refine n_loopN cfb91_1 hE okP (fun s1 => [(1, .v (.own q0.id q0.lo q0.n)), (2, .v (.eref [.int .i64 x_x.From, .int .i64 x_x.To, .int .i64 x_x.Var, .int .i64 x_x.Typ, .int .i64 x_x.Cond.Op, .sl (Ar.lst Encs.eGExpr x_x.Cond.Args) .ro, .int .i64 x_x.Cond.Var, .int .i64 x_x.Cond.Field, .int .i64 x_x.Cond.Kind, .int .i64 x_x.Cond.Value.Kind, .int .i64 x_x.Cond.Value.Num, .str x_x.Cond.Value.Text, .sl (Ar.lst (V.int .i64) x_x.Opens) .ro, .sl (Ar.lst (V.int .i64) x_x.Closes) .ro, .sl (Ar.lst Encs.eGExpr x_x.Checks) .ro, .sl (Ar.lst Encs.eGLimit x_x.Limits) .ro, .sl (Ar.lst (V.int .i64) x_x.Inside) .ro] 0)), (5, .v (.sl (Ar.lst Encs.eGNeed s1.1) .ro)), (6, .v (.int .i64 s1.2))]) (fun s1 H1 => Own Eq (upd H0 q0.id none) [.tl .nil, .blk q0.id (.arr 1 (q0.pre ++ Ar.lst Encs.eLGNeed x_states ++ q0.rest))] H1) (fun x e l H1 => e = .exit 0 ∧ l = [(1, .v (.own q0.id q0.lo q0.n)), (2, .v (.eref [.int .i64 x_x.From, .int .i64 x_x.To, .int .i64 x_x.Var, .int .i64 x_x.Typ, .int .i64 x_x.Cond.Op, .sl (Ar.lst Encs.eGExpr x_x.Cond.Args) .ro, .int .i64 x_x.Cond.Var, .int .i64 x_x.Cond.Field, .int .i64 x_x.Cond.Kind, .int .i64 x_x.Cond.Value.Kind, .int .i64 x_x.Cond.Value.Num, .str x_x.Cond.Value.Text, .sl (Ar.lst (V.int .i64) x_x.Opens) .ro, .sl (Ar.lst (V.int .i64) x_x.Closes) .ro, .sl (Ar.lst Encs.eGExpr x_x.Checks) .ro, .sl (Ar.lst Encs.eGLimit x_x.Limits) .ro, .sl (Ar.lst (V.int .i64) x_x.Inside) .ro] 0)), (5, .v (.sl (Ar.lst Encs.eGNeed x) .ro))] ∧ Own Eq (upd H0 q0.id none) [.tl .nil, .blk q0.id (.arr 1 (q0.pre ++ Ar.lst Encs.eLGNeed x_states ++ q0.rest))] H1) (by kernel_rfl) ?_ hx ?_ hO ?_
 ·intro s1 H o hO h;clear hx;cbv;refine n_ln hE ?_;cbv;refine n_br hE h (fun hc h => ?_) (fun hc h => ?_)
  ·cbv;refine n_idx hE Encs.eGExpr_eq h fun x3 h => ?_;cbv;refine n_call hE (g := fun r4 => .sl (Ar.lst Encs.eGNeed r4) .ro) h (fun r4 hx => c38 N N x3 (-1) r4 hx) (.refl _) fun r4 h => ?_;cbv;refine n_call hE (g := fun r5 => .sl (Ar.lst Encs.eGNeed r5) .ro) h (fun r5 hx => c53 N s1.1 r4 r5 hx) (.refl _) fun r5 h => ?_;cbv;have h := ret_some h;subst h;exact ⟨_, rfl, .e rfl (.e rfl (.e rfl (.e rfl (.z)))), rfl, hO⟩
  cbv;have h := ret_some h;subst h;exact ⟨_, _, rfl, ⟨rfl, rfl, hO⟩, .e rfl (.e rfl (.e rfl (.z))), rfl⟩
 ·exact .e rfl (.e rfl (.v (.lit _ (lst_nil)) (.e rfl (.z))))
 clear hx;rintro e l H ⟨rfl, rfl, hO⟩;cbv;refine n_br hE h (fun hc h => ?_) (fun hc h => ?_)
 ·cbv;refine n_oidx hE hO hq0 1 rfl h fun h => ?_;cbv;refine n_oload hE Encs.eLGNeed_eq hO hq0 1 rfl h fun x6 h => ?_;cbv;refine n_call hE (g := fun r7 => .sl (Ar.lst Encs.eGNeed r7) .ro) h (fun r7 hx => c53 N s2 x6 r7 hx) (.refl _) fun r7 h => ?_;cbv;have h := ret_some h;subst h;exact hK _ _ 1 _ rfl hO (.refl _)
 cbv;have h := ret_some h;subst h;exact hK _ _ 1 _ rfl hO (.refl _)
def cfb68_1 : Cf := ⟨[], [(6, 12), (12, 13)], [], [], [], []⟩
theorem b68_1 (N : Nat) (x_a : GAutomaton) (x_states : List (List GNeed)) (x_s : Int) (r : (List GNeed)) (h : ref26_once_b1 N x_a x_states x_s = some r) : CallB1 Try.prog 68 (fun q => [.agg [.int .i64 x_a.Vars, .int .i64 x_a.Scopes, .sl (Ar.lst Encs.eGState x_a.States) .ro, .sl (Ar.lst Encs.eGEdge x_a.Edges) .ro], .own q.id q.lo q.n, .int .i64 x_s]) 1 (Ar.lst Encs.eLGNeed x_states) (.sl (Ar.lst Encs.eGNeed r) .ro) := by
 unfold ref26_once_b1 at h
 refine callB1_run (T := TT) (m := 3) cfb68_1 okP Try.func68 (by rfl) (by kernel_rfl) Try.call68 Try.ntmps68 (by rfl) (fun _ => rfl) (by rfl) ?_;intro E H0 q0 K hE hq0 hO hK;cbv;refine n_oidx hE hO hq0 0 rfl h fun h => ?_;cbv;refine n_oload hE Encs.eLGNeed_eq hO hq0 0 rfl h fun x1 h => ?_;cbv;refine n_idx hE Encs.eGState_eq h fun x2 h => ?_;cbv;obtain ⟨s4, hx, h⟩ := bind_some h;refine n_loopN cfb68_1 hE okP (fun s3 => [(1, .v (.own q0.id q0.lo q0.n)), (2, .v (.int .i64 x_s)), (3, .v (.eref [.int .i64 x_a.Vars, .int .i64 x_a.Scopes, .sl (Ar.lst Encs.eGState x_a.States) .ro, .sl (Ar.lst Encs.eGEdge x_a.Edges) .ro] 0)), (7, .v (.sl (Ar.lst Encs.eGNeed s3.1) .ro)), (8, .v (.sl (Ar.lst Encs.eGGuard x2.Guards) .ro)), (9, .v (.int .i64 s3.2))]) (fun s3 H1 => Own Eq (upd H0 q0.id none) [.blk q0.id (.arr 1 (q0.pre ++ Ar.lst Encs.eLGNeed x_states ++ q0.rest))] H1) (fun x e l H1 => e = .exit 0 ∧ l = [(1, .v (.own q0.id q0.lo q0.n)), (2, .v (.int .i64 x_s)), (3, .v (.eref [.int .i64 x_a.Vars, .int .i64 x_a.Scopes, .sl (Ar.lst Encs.eGState x_a.States) .ro, .sl (Ar.lst Encs.eGEdge x_a.Edges) .ro] 0)), (7, .v (.sl (Ar.lst Encs.eGNeed x) .ro))] ∧ Own Eq (upd H0 q0.id none) [.blk q0.id (.arr 1 (q0.pre ++ Ar.lst Encs.eLGNeed x_states ++ q0.rest))] H1) (by kernel_rfl) ?_ hx ?_ hO ?_
 ·intro s3 H o hO h;clear hx;cbv;refine n_ln hE ?_;cbv;refine n_br hE h (fun hc h => ?_) (fun hc h => ?_)
  ·cbv;refine n_idx hE Encs.eGGuard_eq h fun x5 h => ?_;cbv;refine n_idx hE Encs.eGGuard_eq h fun x6 h => ?_;cbv;refine n_pcall hE (g := fun r7 => .sl (Ar.lst Encs.eGNeed r7) .ro) h (fun r7 hx => c38 N N x5.Cond x6.Var r7 hx) (.refl _) fun r7 h => ?_;cbv;refine n_call hE (g := fun r8 => .sl (Ar.lst Encs.eGNeed r8) .ro) h (fun r8 hx => c53 N s3.1 r7 r8 hx) (.refl _) fun r8 h => ?_;cbv;have h := ret_some h;subst h;exact ⟨_, rfl, .e rfl (.e rfl (.e rfl (.e rfl (.e rfl (.e rfl (.z)))))), rfl, hO⟩
  cbv;have h := ret_some h;subst h;exact ⟨_, _, rfl, ⟨rfl, rfl, hO⟩, .e rfl (.e rfl (.e rfl (.e rfl (.z)))), rfl⟩
 ·exact .e rfl (.e rfl (.e rfl (.e rfl (.e rfl (.e rfl (.z))))))
 clear hx;rintro e l H ⟨rfl, rfl, hO⟩;cbv;obtain ⟨s10, hx, h⟩ := bind_some h;refine n_loopN cfb68_1 hE okP (fun s9 => [(1, .v (.own q0.id q0.lo q0.n)), (2, .v (.int .i64 x_s)), (3, .v (.eref [.int .i64 x_a.Vars, .int .i64 x_a.Scopes, .sl (Ar.lst Encs.eGState x_a.States) .ro, .sl (Ar.lst Encs.eGEdge x_a.Edges) .ro] 0)), (7, .v (.sl (Ar.lst Encs.eGNeed s9.1) .ro)), (10, .v (.int .i64 s9.2))]) (fun s9 H1 => Own Eq (upd H0 q0.id none) [.blk q0.id (.arr 1 (q0.pre ++ Ar.lst Encs.eLGNeed x_states ++ q0.rest))] H1) (fun x e l H1 => e = .exit 2 ∧ l = [(7, .v (.sl (Ar.lst Encs.eGNeed x) .ro))] ∧ Own Eq (upd H0 q0.id none) [.blk q0.id (.arr 1 (q0.pre ++ Ar.lst Encs.eLGNeed x_states ++ q0.rest))] H1) (by kernel_rfl) ?_ hx ?_ hO ?_
 ·intro s9 H o hO h;clear hx;cbv;refine n_ln hE ?_;cbv;refine n_br hE h (fun hc h => ?_) (fun hc h => ?_)
  ·cbv;refine n_idx hE Encs.eGEdge_eq h fun x11 h => ?_;cbv;refine n_br hE h (fun hc h => ?_) (fun hc h => ?_)
   ·cbv;refine n_pcall hE (g := fun r12 => .sl (Ar.lst Encs.eGNeed r12) .ro) h (fun r12 hx => c38 N N x11.Cond x11.Var r12 hx) (.refl _) fun r12 h => ?_;cbv;refine n_pcallB1 hE (g := fun r13 => .sl (Ar.lst Encs.eGNeed r13) .ro) hO hq0 0 rfl h (fun r13 hx => b91_1 N x11 x_states r13 hx) (.refl _) fun r13 h => ?_;cbv;refine n_pcall hE (g := fun r14 => .sl (Ar.lst Encs.eGNeed r14) .ro) h (fun r14 hx => c90 N r13 x11.Var r14 hx) (.refl _) fun r14 h => ?_;cbv;refine n_pcall hE (g := fun r15 => .sl (Ar.lst Encs.eGNeed r15) .ro) h (fun r15 hx => c53 N r12 r14 r15 hx) (.refl _) fun r15 h => ?_;cbv;refine n_call hE (g := fun r16 => .sl (Ar.lst Encs.eGNeed r16) .ro) h (fun r16 hx => c53 N s9.1 r15 r16 hx) (.refl _) fun r16 h => ?_;cbv;have h := ret_some h;subst h;exact ⟨_, rfl, .e rfl (.e rfl (.e rfl (.e rfl (.e rfl (.z))))), rfl, hO⟩
   cbv;have h := ret_some h;subst h;exact ⟨_, rfl, .e rfl (.e rfl (.e rfl (.e rfl (.e rfl (.z))))), rfl, hO⟩
  cbv;have h := ret_some h;subst h;exact ⟨_, _, rfl, ⟨rfl, rfl, hO⟩, .e rfl (.z), rfl⟩
 ·exact .e rfl (.e rfl (.e rfl (.e rfl (.e rfl (.z)))))
 clear hx;rintro e l H ⟨rfl, rfl, hO⟩;cbv;have h := ret_some h;subst h;exact hK _ _ 0 _ rfl hO (.refl _)
def cf44 : Cf := ⟨[], [], [], [], [], []⟩
theorem c44 (N : Nat) (x_a : GAutomaton) (r : (List (List GNeed))) (h : ref26_All N x_a = some r) : CallP Try.prog 44 [.agg [.int .i64 x_a.Vars, .int .i64 x_a.Scopes, .sl (Ar.lst Encs.eGState x_a.States) .ro, .sl (Ar.lst Encs.eGEdge x_a.Edges) .ro]] (.sl (Ar.lst Encs.eLGNeed r) .ro) := by
 unfold ref26_All at h
 refine callP_of_specF (T := TT) cf44 okP Try.func44 (by rfl) (by kernel_rfl) Try.call44 Try.ntmps44 (by rfl) (by rfl) ?_;intro E H0 K hE hK hF
 have hO : Own Eq H0 [] H0 := .start stable_eq rfl
 cbv;refine n_ln hE ?_;cbv;refine n_omk hE (f := Encs.eLGNeed) (by decide) (z0 := ([] : List GNeed)) ((.eq (Encs.eLGNeed_eq _) (.lit _ (lst_nil)))) hO h fun l2 q1 H hq1 h hO => ?_;cbv;obtain ⟨s5, hx, h⟩ := bind_some h;refine n_loopG cf44 hE okP (γ := OG) (fun s3 g => [(1, .v (.eref [.int .i64 x_a.Vars, .int .i64 x_a.Scopes, .sl (Ar.lst Encs.eGState x_a.States) .ro, .sl (Ar.lst Encs.eGEdge x_a.Edges) .ro] 0)), (3, .v (.own g.id g.lo g.n)), (4, .v (.bool s3.1))]) (fun s3 g H1 => Okn g (Ar.len s3.2) ∧ Own Eq H0 [.blk g.id (.arr 1 (g.pre ++ Ar.lst Encs.eLGNeed s3.2 ++ g.rest))] H1) (fun x e l H1 => ∃ u1 : OG, Okn u1 (Ar.len x) ∧ e = .exit 0 ∧ l = [(3, .v (.own u1.id u1.lo u1.n))] ∧ Own Eq H0 [.blk u1.id (.arr 1 (u1.pre ++ Ar.lst Encs.eLGNeed x ++ u1.rest))] H1) (by kernel_rfl) ?_ q1 hx ?_ ?_ ?_
 ·rintro s3 q4 H o ⟨hq4, hO⟩ h;clear hx;cbv;refine n_br hE h (fun hc h => ?_) (fun hc h => ?_)
  ·cbv;obtain ⟨s8, hx, h⟩ := bind_some h;refine n_loopG cf44 hE okP (γ := OG) (fun s6 g => [(1, .v (.eref [.int .i64 x_a.Vars, .int .i64 x_a.Scopes, .sl (Ar.lst Encs.eGState x_a.States) .ro, .sl (Ar.lst Encs.eGEdge x_a.Edges) .ro] 0)), (3, .v (.own g.id g.lo g.n)), (4, .v (.bool s6.1)), (5, .v (.int .i64 s6.2.1))]) (fun s6 g H1 => Okn g (Ar.len s6.2.2) ∧ Own Eq H0 [.blk g.id (.arr 1 (g.pre ++ Ar.lst Encs.eLGNeed s6.2.2 ++ g.rest))] H1) (fun x e l H1 => ∃ u1 : OG, Okn u1 (Ar.len x.2) ∧ e = .exit 2 ∧ l = [(1, .v (.eref [.int .i64 x_a.Vars, .int .i64 x_a.Scopes, .sl (Ar.lst Encs.eGState x_a.States) .ro, .sl (Ar.lst Encs.eGEdge x_a.Edges) .ro] 0)), (3, .v (.own u1.id u1.lo u1.n)), (4, .v (.bool x.1))] ∧ Own Eq H0 [.blk u1.id (.arr 1 (u1.pre ++ Ar.lst Encs.eLGNeed x.2 ++ u1.rest))] H1) (by kernel_rfl) ?_ q4 hx ?_ ?_ ?_
   ·rintro s6 q7 H o ⟨hq7, hO⟩ h;clear hx;cbv;refine n_olen hE hq7 ?_;cbv;refine n_br hE h (fun hc h => ?_) (fun hc h => ?_)
    ·cbv;refine n_callB1 hE (g := fun r9 => .sl (Ar.lst Encs.eGNeed r9) .ro) hO hq7 0 rfl h (fun r9 hx => b68_1 N x_a s6.2.2 s6.2.1 r9 hx) (.refl _) fun r9 h => ?_;cbv;refine n_oidx hE hO hq7 0 rfl h fun h => ?_;cbv;refine n_oload hE Encs.eLGNeed_eq hO hq7 0 rfl h fun x10 h => ?_;cbv;refine n_call hE (g := fun r11 => .bool r11) h (fun r11 hx => c12 N r9 x10 r11 hx) (.refl _) fun r11 h => ?_;cbv;refine n_br hE h (fun hc h => ?_) (fun hc h => ?_)
     ·cbv;refine n_oidx hE hO hq7 0 rfl h fun h => ?_;cbv;refine n_ostore hE (f := Encs.eLGNeed) (esz := 1) (tz := 1) (off := 0) (u := (fun x12 : List GNeed => r9)) (fun _ => ⟨_, .eq (Encs.eLGNeed_eq _) (.refl _), (by rw [Encs.eLGNeed_eq]; rfl), sz_LGNeed _, rfl⟩) (by decide) hO hq7 0 rfl h fun l13 H hq7 h hO => ?_;cbv;have h := ret_some h;subst h;exact ⟨_, q7, rfl, .e rfl (.e rfl (.e rfl (.e rfl (.z)))), rfl, hq7, hO⟩
     cbv;have h := ret_some h;subst h;exact ⟨_, q7, rfl, .e rfl (.e rfl (.e rfl (.e rfl (.z)))), rfl, hq7, hO⟩
    cbv;have h := ret_some h;subst h;exact ⟨_, _, rfl, ⟨q7, hq7, rfl, rfl, hO⟩, .e rfl (.e rfl (.e rfl (.z))), rfl⟩
   ·exact .e rfl (.e rfl (.e rfl (.e rfl (.z))))
   ·exact ⟨hq4, hO⟩
   clear hx;rintro e l H ⟨q14, hq14, rfl, rfl, hO⟩;cbv;have h := ret_some h;subst h;exact ⟨_, q14, rfl, .e rfl (.e rfl (.e rfl (.z))), rfl, hq14, hO⟩
  cbv;have h := ret_some h;subst h;exact ⟨_, _, rfl, ⟨q4, hq4, rfl, rfl, hO⟩, .e rfl (.z), rfl⟩
 ·exact .e rfl (.e rfl (.e rfl (.z)))
 ·exact ⟨hq1, hO⟩
 clear hx;rintro e l H ⟨q15, hq15, rfl, rfl, hO⟩;cbv;have h := ret_some h;subst h;exact hF q15 _ _ 0 _ _ hO rfl (okn_lst hE hq15) (.refl _)
def cf15 : Cf := ⟨[], [], [], [], [], []⟩
theorem c15 (N : Nat) (x_a : GAutomaton) (r : ((List (List GNeed)) × Int)) (h : ref26_Needs N x_a = some r) : CallP Try.prog 15 [.agg [.int .i64 x_a.Vars, .int .i64 x_a.Scopes, .sl (Ar.lst Encs.eGState x_a.States) .ro, .sl (Ar.lst Encs.eGEdge x_a.Edges) .ro]] (.tup [.sl (Ar.lst Encs.eLGNeed r.1) .ro, .int .i64 r.2]) := by
 unfold ref26_Needs at h
 refine callP_of_spec cf15 okP Try.func15 (by rfl) (by kernel_rfl) Try.call15 Try.ntmps15 (by rfl) (by rfl) ?_;intro E H0 K hE hK
 have hO : Own Eq H0 [] H0 := .start stable_eq rfl
 cbv;refine n_call hE (g := fun r1 => .int .i64 r1) h (fun r1 hx => c43 N x_a r1 hx) (.refl _) fun r1 h => ?_;cbv;refine n_br hE h (fun hc h => ?_) (fun hc h => ?_)
 ·cbv;have h := ret_some h;subst h;exact hK _ _ _ hO (.tup (.cons (.lit _ (lst_nil)) (.refl _)))
 cbv;refine n_call hE (g := fun r2 => .sl (Ar.lst Encs.eLGNeed r2) .ro) h (fun r2 hx => c44 N x_a r2 hx) (.refl _) fun r2 h => ?_;cbv;have h := ret_some h;subst h;exact hK _ _ _ hO (.refl _)
def cf4 : Cf := ⟨[], [], [], [], [], []⟩
theorem c4 (N : Nat) (x_a : GAutomaton) (r : Bool) (h : law26_RegistersNeeds N x_a = some r) : CallP Try.prog 4 [.agg [.int .i64 x_a.Vars, .int .i64 x_a.Scopes, .sl (Ar.lst Encs.eGState x_a.States) .ro, .sl (Ar.lst Encs.eGEdge x_a.Edges) .ro]] (.bool r) := by
 unfold law26_RegistersNeeds at h
 refine callP_of_spec cf4 okP Try.func4 (by rfl) (by kernel_rfl) Try.call4 Try.ntmps4 (by rfl) (by rfl) ?_;intro E H0 K hE hK
 have hO : Own Eq H0 [] H0 := .start stable_eq rfl
 cbv;refine n_call hE (g := fun r1 => .bool r1) h (fun r1 hx => c13 N x_a r1 hx) (.refl _) fun r1 h => ?_;cbv;refine n_br hE h (fun hc h => ?_) (fun hc h => ?_)
 ·cbv;refine n_call hE (g := fun r2 => .bool r2) h (fun r2 hx => c9 N  r2 hx) (.refl _) fun r2 h => ?_;cbv;have h := ret_some h;subst h;exact hK _ _ _ hO (.refl _)
 cbv;refine n_call hE (g := fun r3 => .tup [.sl (Ar.lst Encs.eLGNeed r3.1) .ro, .int .i64 r3.2]) h (fun r3 hx => c14 N x_a r3 hx) (.refl _) fun r3 h => ?_;cbv;refine n_call hE (g := fun r4 => .tup [.sl (Ar.lst Encs.eLGNeed r4.1) .ro, .int .i64 r4.2]) h (fun r4 hx => c15 N x_a r4 hx) (.refl _) fun r4 h => ?_;cbv;refine n_call hE (g := fun r5 => .bool r5) h (fun r5 hx => c9 N  r5 hx) (.refl _) fun r5 h => ?_;cbv;refine n_br hE h (fun hc h => ?_) (fun hc h => ?_)
 ·cbv;refine n_call hE (g := fun r6 => .bool r6) h (fun r6 hx => c16 N r3.1 r4.1 r6 hx) (.refl _) fun r6 h => ?_;cbv;have h := ret_some h;subst h;exact hK _ _ _ hO (.refl _)
 cbv;have h := ret_some h;subst h;exact hK _ _ _ hO (.refl _)
def cf17 : Cf := ⟨[], [], [], [], [], []⟩
theorem c17 (N : Nat) (x_env : GEnv) (r : Bool) (h : ref08_FewEnv N x_env = some r) : CallP Try.prog 17 [.agg [.sl (Ar.lst Encs.eLGEvent x_env.Vars) .ro]] (.bool r) := by
 unfold ref08_FewEnv at h
 refine callP_of_spec cf17 okP Try.func17 (by rfl) (by kernel_rfl) Try.call17 Try.ntmps17 (by rfl) (by rfl) ?_;intro E H0 K hE hK
 have hO : Own Eq H0 [] H0 := .start stable_eq rfl
 cbv;obtain ⟨s2, hx, h⟩ := bind_some h;refine n_loopN cf17 hE okP (fun s1 => [(1, .v (.eref [.sl (Ar.lst Encs.eLGEvent x_env.Vars) .ro] 0)), (3, .v (.int .i64 s1))]) (fun s1 H1 => Own Eq H0 [] H1) (fun x e l H1 => match (generalizing := false) x with | .inl y => e = .exit 0 ∧ l = [(1, .v (.eref [.sl (Ar.lst Encs.eLGEvent x_env.Vars) .ro] 0))] ∧ Own Eq H0 [] H1 | .inr y => e = .ret ∧ l = [(2, .b false)] ∧ Own Eq H0 [] H1) (by kernel_rfl) ?_ hx ?_ hO ?_
 ·intro s1 H o hO h;clear hx;cbv;refine n_ln hE ?_;cbv;refine n_br hE h (fun hc h => ?_) (fun hc h => ?_)
  ·cbv;refine n_idx hE Encs.eLGEvent_eq h fun x3 h => ?_;cbv;refine n_ln hE ?_;cbv;refine n_br hE h (fun hc h => ?_) (fun hc h => ?_)
   ·cbv;have h := ret_some h;subst h;exact ⟨_, _, rfl, ⟨rfl, rfl, hO⟩, .b rfl (.z), rfl⟩
   cbv;obtain ⟨s5, hx, h⟩ := bind_some h;refine n_loopN cf17 hE okP (fun s4 => [(1, .v (.eref [.sl (Ar.lst Encs.eLGEvent x_env.Vars) .ro] 0)), (3, .v (.int .i64 s1)), (4, .v (.int .i64 s4))]) (fun s4 H1 => Own Eq H0 [] H1) (fun x e l H1 => match (generalizing := false) x with | .inl y => e = .exit 2 ∧ l = [(1, .v (.eref [.sl (Ar.lst Encs.eLGEvent x_env.Vars) .ro] 0)), (3, .v (.int .i64 s1))] ∧ Own Eq H0 [] H1 | .inr y => e = .ret ∧ l = [(2, .b false)] ∧ Own Eq H0 [] H1) (by kernel_rfl) ?_ hx ?_ hO ?_
   ·intro s4 H o hO h;clear hx;cbv;refine n_idx hE Encs.eLGEvent_eq h fun x6 h => ?_;cbv;refine n_ln hE ?_;cbv;refine n_br hE h (fun hc h => ?_) (fun hc h => ?_)
    ·cbv;refine n_idx hE Encs.eLGEvent_eq h fun x7 h => ?_;cbv;refine n_idx hE Encs.eGEvent_eq h fun x8 h => ?_;cbv;refine n_ln hE ?_;cbv;refine n_br hE h (fun hc h => ?_) (fun hc h => ?_)
     ·cbv;have h := ret_some h;subst h;exact ⟨_, _, rfl, ⟨rfl, rfl, hO⟩, .b rfl (.z), rfl⟩
     cbv;have h := ret_some h;subst h;exact ⟨_, rfl, .e rfl (.e rfl (.e rfl (.z))), rfl, hO⟩
    cbv;have h := ret_some h;subst h;exact ⟨_, _, rfl, ⟨rfl, rfl, hO⟩, .e rfl (.e rfl (.z)), rfl⟩
   ·exact .e rfl (.e rfl (.e rfl (.z)))
   clear hx
   rcases s5 with y9 | y10
   ·rintro e l H ⟨rfl, rfl, hO⟩;cbv;have h := ret_some h;subst h;exact ⟨_, rfl, .e rfl (.e rfl (.z)), rfl, hO⟩
   rintro e l H ⟨rfl, rfl, hO⟩;cbv;have h := ret_some h;subst h;exact ⟨_, _, rfl, ⟨rfl, rfl, hO⟩, .b rfl (.z), rfl⟩
  cbv;have h := ret_some h;subst h;exact ⟨_, _, rfl, ⟨rfl, rfl, hO⟩, .e rfl (.z), rfl⟩
 ·exact .e rfl (.e rfl (.z))
 clear hx
 rcases s2 with y11 | y12
 ·rintro e l H ⟨rfl, rfl, hO⟩;cbv;refine n_ln hE ?_;cbv;have h := ret_some h;subst h;exact hK _ _ _ hO (.refl _)
 rintro e l H ⟨rfl, rfl, hO⟩;cbv;have h := ret_some h;subst h;exact hK _ _ _ hO (.refl _)
def cf47 : Cf := ⟨[], [], [], [], [], []⟩
theorem c47 (N : Nat) (x_s1 : List (List GEvent)) (x_s2 : List (List GEvent)) (v_eq : V) (x_eq : (List GEvent) → (List GEvent) → Option Bool) (h_eq : ∀ y1 y2 q, x_eq y1 y2 = some q → CallVP Try.prog v_eq [.sl (Ar.lst Encs.eGEvent y1) .ro, .sl (Ar.lst Encs.eGEvent y2) .ro] (.bool q)) (r : Bool) (h : slices_EqualFunc_LEvent_LEvent_LEvent_LEvent N x_s1 x_s2 x_eq = some r) : CallP Try.prog 47 [.sl (Ar.lst Encs.eLGEvent x_s1) .ro, .sl (Ar.lst Encs.eLGEvent x_s2) .ro, v_eq] (.bool r) := by
 unfold slices_EqualFunc_LEvent_LEvent_LEvent_LEvent at h
 refine callP_of_spec cf47 okP Try.func47 (by rfl) (by kernel_rfl) Try.call47 Try.ntmps47 (by rfl) (by rfl) ?_;intro E H0 K hE hK
 have hO : Own Eq H0 [] H0 := .start stable_eq rfl
 cbv;refine n_ln hE ?_;cbv;refine n_ln hE ?_;cbv;refine n_br hE h (fun hc h => ?_) (fun hc h => ?_)
 ·cbv;have h := ret_some h;subst h;exact hK _ _ _ hO (.refl _)
 cbv;refine n_ln hE ?_;cbv;obtain ⟨s2, hx, h⟩ := bind_some h;refine n_loopN cf47 hE okP (fun s1 => [(1, .v (.sl (Ar.lst Encs.eLGEvent x_s2) .ro)), (2, .v (v_eq)), (15, .v (.sl (Ar.lst Encs.eLGEvent x_s1) .ro)), (16, .v (.int .i64 (Ar.len x_s1))), (17, .v (.int .i64 s1))]) (fun s1 H1 => Own Eq H0 [] H1) (fun x e l H1 => match (generalizing := false) x with | .inl y => e = .exit 0 ∧ l = [] ∧ Own Eq H0 [] H1 | .inr y => e = .ret ∧ l = [(6, .b false)] ∧ Own Eq H0 [] H1) (by kernel_rfl) ?_ hx ?_ hO ?_
 ·intro s1 H o hO h;clear hx;cbv;refine n_br hE h (fun hc h => ?_) (fun hc h => ?_)
  ·cbv;refine n_idx hE Encs.eLGEvent_eq h fun x3 h => ?_;cbv;refine n_idx hE Encs.eLGEvent_eq h fun x4 h => ?_;cbv;refine n_callF hE (g := fun r5 => .bool r5) h (fun r5 hx => h_eq x3 x4 r5 hx) (.refl _) fun r5 h => ?_;cbv;refine n_br hE h (fun hc h => ?_) (fun hc h => ?_)
   ·cbv;have h := ret_some h;subst h;exact ⟨_, _, rfl, ⟨rfl, rfl, hO⟩, .b rfl (.z), rfl⟩
   cbv;have h := ret_some h;subst h;exact ⟨_, rfl, .e rfl (.e rfl (.e rfl (.e rfl (.e rfl (.z))))), rfl, hO⟩
  cbv;have h := ret_some h;subst h;exact ⟨_, _, rfl, ⟨rfl, rfl, hO⟩, .z, rfl⟩
 ·exact .e rfl (.e rfl (.e rfl (.e rfl (.e rfl (.z)))))
 clear hx
 rcases s2 with y6 | y7
 ·rintro e l H ⟨rfl, rfl, hO⟩;cbv;have h := ret_some h;subst h;exact hK _ _ _ hO (.refl _)
 rintro e l H ⟨rfl, rfl, hO⟩;cbv;have h := ret_some h;subst h;exact hK _ _ _ hO (.refl _)
def cf49 : Cf := ⟨[8], [], [], [], [], []⟩
theorem c49 (N : Nat) (x_s1 : List GEvent) (x_s2 : List GEvent) (v_eq : V) (x_eq : GEvent → GEvent → Option Bool) (h_eq : ∀ y1 y2 q, x_eq y1 y2 = some q → CallVP Try.prog v_eq [.agg [.int .i64 y1.Source, .int .i64 y1.Seq, .int .i64 y1.Typ, .int .i64 y1.Time, .sl (Ar.lst Encs.eGValue y1.Values) .ro], .agg [.int .i64 y2.Source, .int .i64 y2.Seq, .int .i64 y2.Typ, .int .i64 y2.Time, .sl (Ar.lst Encs.eGValue y2.Values) .ro]] (.bool q)) (r : Bool) (h : slices_EqualFunc_LEvent_LEvent_Event_Event N x_s1 x_s2 x_eq = some r) : CallP Try.prog 49 [.sl (Ar.lst Encs.eGEvent x_s1) .ro, .sl (Ar.lst Encs.eGEvent x_s2) .ro, v_eq] (.bool r) := by
 unfold slices_EqualFunc_LEvent_LEvent_Event_Event at h
 refine callP_of_spec cf49 okP Try.func49 (by rfl) (by kernel_rfl) Try.call49 Try.ntmps49 (by rfl) (by rfl) ?_;intro E H0 K hE hK
 have hO : Own Eq H0 [] H0 := .start stable_eq rfl
 cbv;refine n_ln hE ?_;cbv;refine n_ln hE ?_;cbv;refine n_br hE h (fun hc h => ?_) (fun hc h => ?_)
 ·cbv;have h := ret_some h;subst h;exact hK _ _ _ hO (.refl _)
 cbv;refine n_ln hE ?_;cbv;obtain ⟨s2, hx, h⟩ := bind_some h;refine n_loopN cf49 hE okP (fun s1 => [(1, .v (.sl (Ar.lst Encs.eGEvent x_s2) .ro)), (2, .v (v_eq)), (15, .v (.sl (Ar.lst Encs.eGEvent x_s1) .ro)), (16, .v (.int .i64 (Ar.len x_s1))), (17, .v (.int .i64 s1))]) (fun s1 H1 => Own Eq H0 [] H1) (fun x e l H1 => match (generalizing := false) x with | .inl y => e = .exit 0 ∧ l = [] ∧ Own Eq H0 [] H1 | .inr y => e = .ret ∧ l = [(6, .b false)] ∧ Own Eq H0 [] H1) (by kernel_rfl) ?_ hx ?_ hO ?_
 ·intro s1 H o hO h;clear hx;cbv;refine n_br hE h (fun hc h => ?_) (fun hc h => ?_)
  ·cbv;refine n_idx hE Encs.eGEvent_eq h fun x3 h => ?_;cbv;refine n_alloc hE hO fun b4 H hO => ?_;cbv;refine n_store hE hO 0 rfl rfl fun H hO => ?_;cbv;refine n_idx hE Encs.eGEvent_eq h fun x5 h => ?_;cbv;refine n_load hE hO 0 rfl ?_;cbv;refine n_callF hE (g := fun r6 => .bool r6) h (fun r6 hx => h_eq x3 x5 r6 hx) (.refl _) fun r6 h => ?_;cbv;refine n_br hE h (fun hc h => ?_) (fun hc h => ?_)
   ·cbv;have h := ret_some h;subst h;exact ⟨_, _, rfl, ⟨rfl, rfl, hO.tail⟩, .b rfl (.z), rfl⟩
   cbv;have h := ret_some h;subst h;exact ⟨_, rfl, .e rfl (.e rfl (.e rfl (.e rfl (.e rfl (.z))))), rfl, hO.tail⟩
  cbv;have h := ret_some h;subst h;exact ⟨_, _, rfl, ⟨rfl, rfl, hO⟩, .z, rfl⟩
 ·exact .e rfl (.e rfl (.e rfl (.e rfl (.e rfl (.z)))))
 clear hx
 rcases s2 with y7 | y8
 ·rintro e l H ⟨rfl, rfl, hO⟩;cbv;have h := ret_some h;subst h;exact hK _ _ _ hO (.refl _)
 rintro e l H ⟨rfl, rfl, hO⟩;cbv;have h := ret_some h;subst h;exact hK _ _ _ hO (.refl _)
end Go.Ab

