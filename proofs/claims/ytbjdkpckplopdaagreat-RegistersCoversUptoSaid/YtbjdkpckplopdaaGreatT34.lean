/- GSCo2 -/
import Derived.Test.YtbjdkpckplopdaaGreatT33
set_option linter.all false

namespace Go.Ab
open Go.RowKit Go.Proofs
variable [Ar] [Encs]
set_option maxRecDepth 100000
def cf63 : Cf := ⟨[6], [], [], [], [(43, 6)], []⟩
theorem c63 (N : Nat) (x_a : GAutomaton) (x_l : List GGuard) (r : Int) (h : automaton_guards N x_a x_l = some r) : CallP Tryz.prog 63 [.agg [.int .i64 x_a.Vars, .int .i64 x_a.Scopes, .sl (Ar.lst Encs.eGState x_a.States) .ro, .sl (Ar.lst Encs.eGEdge x_a.Edges) .ro], .sl (Ar.lst Encs.eGGuard x_l) .ro] (.int .i64 r) := by
 unfold automaton_guards at h
 refine callP_of_spec cf63 okP Tryz.func63 (by rfl) (by kernel_rfl) Tryz.call63 Tryz.ntmps63 (by rfl) (by rfl) ?_;intro E H0 K hE hK
 have hO : Own Eq H0 [] H0 := .start stable_eq rfl
 cbv;refine n_ln hE ?_;cbv;refine n_br hE h (fun hc h => ?_) (fun hc h => ?_)
 ·cbv;have h := ret_some h;subst h;exact hK _ _ _ hO (.refl _)
 ·cbv;refine n_ln hE ?_;cbv;obtain ⟨s2, hx, h⟩ := bind_some h;refine n_loopN cf63 hE okP (fun s1 => [(1, .v (.sl (Ar.lst Encs.eGGuard x_l) .ro)), (2, .v (.eref [.int .i64 x_a.Vars, .int .i64 x_a.Scopes, .sl (Ar.lst Encs.eGState x_a.States) .ro, .sl (Ar.lst Encs.eGEdge x_a.Edges) .ro] 0)), (11, .v (.sl (Ar.lst Encs.eGGuard x_l) .ro)), (12, .v (.int .i64 (Ar.len x_l))), (13, .v (.int .i64 s1))]) (fun s1 H1 => Own Eq H0 [] H1) (fun x e l H1 => match (generalizing := false) x with | .inl y => e = .exit 0 ∧ l = [] ∧ Own Eq H0 [] H1 | .inr y => e = .ret ∧ l = [(4, .v (.int .i64 y))] ∧ Own Eq H0 [] H1) (by kernel_rfl) ?_ hx ?_ hO ?_
  ·intro s1 H o hO h;clear hx;cbv;refine n_br hE h (fun hc h => ?_) (fun hc h => ?_)
   ·cbv;refine n_idx hE Encs.eGGuard_eq h fun x3 h => ?_;cbv;refine n_alloc hE hO fun b4 H hO => ?_;cbv;refine n_store hE hO 0 rfl rfl fun H hO => ?_;cbv;refine n_load hE hO 0 rfl ?_;cbv;refine n_call hE (g := fun r5 => .bool r5) h (fun r5 hx => c74 N x3.Scope x_a.Scopes r5 hx) (.refl _) fun r5 h => ?_;cbv;refine n_load hE hO 0 rfl ?_;cbv;refine n_br hE h (fun hc h => ?_) (fun hc h => ?_)
    ·cbv;have h := ret_some h;subst h;exact ⟨_, _, rfl, ⟨rfl, rfl, hO.tail⟩, .e rfl (.z), rfl⟩
    ·cbv;refine n_call hE (g := fun r6 => .bool r6) h (fun r6 hx => c74 N x3.Typ 16 r6 hx) (.refl _) fun r6 h => ?_;cbv;refine n_load hE hO 0 rfl ?_;cbv;refine n_br hE h (fun hc h => ?_) (fun hc h => ?_)
     ·cbv;have h := ret_some h;subst h;exact ⟨_, _, rfl, ⟨rfl, rfl, hO.tail⟩, .e rfl (.z), rfl⟩
     ·cbv;refine n_call hE (g := fun r7 => .bool r7) h (fun r7 hx => c74 N x3.Var x_a.Vars r7 hx) (.refl _) fun r7 h => ?_;cbv;refine n_br hE h (fun hc h => ?_) (fun hc h => ?_)
      ·cbv;have h := ret_some h;subst h;exact ⟨_, _, rfl, ⟨rfl, rfl, hO.tail⟩, .e rfl (.z), rfl⟩
      ·cbv;refine n_slice hE (f := Encs.eGGuard) sz_GGuard h fun l8 t9 h => ?_;cbv;refine n_frz hE hO 0 rfl fun H hO => ?_;cbv;refine n_call hE (g := fun r10 => .bool r10) h (fun r10 hx => c75 N l8 (.func (.func 76) [] [.eref [.int .i64 x3.Scope, .int .i64 x3.Typ, .int .i64 x3.Var, .int .i64 x3.Cond.Op, .sl (Ar.lst Encs.eGExpr x3.Cond.Args) .ro, .int .i64 x3.Cond.Var, .int .i64 x3.Cond.Field, .int .i64 x3.Cond.Kind, .int .i64 x3.Cond.Value.Kind, .int .i64 x3.Cond.Value.Num, .str x3.Cond.Value.Text] 0]) (fun y1 => automaton_guards_1 N y1 x3) (fun y1 r hx => CallP.value (F := []) (C := [.eref [.int .i64 x3.Scope, .int .i64 x3.Typ, .int .i64 x3.Var, .int .i64 x3.Cond.Op, .sl (Ar.lst Encs.eGExpr x3.Cond.Args) .ro, .int .i64 x3.Cond.Var, .int .i64 x3.Cond.Field, .int .i64 x3.Cond.Kind, .int .i64 x3.Cond.Value.Kind, .int .i64 x3.Cond.Value.Num, .str x3.Cond.Value.Text] 0]) (c76 N y1 x3 r hx)) r10 hx) (.cons (.ro _ _) (.refl _)) fun r10 h => ?_;cbv;refine n_br hE h (fun hc h => ?_) (fun hc h => ?_)
       ·cbv;have h := ret_some h;subst h;exact ⟨_, _, rfl, ⟨rfl, rfl, hO⟩, .e rfl (.z), rfl⟩
       ·cbv;refine n_call hE (g := fun r11 => .int .i64 r11) h (fun r11 hx => c9 N x3.Cond r11 hx) (.refl _) fun r11 h => ?_;cbv;refine n_br hE h (fun hc h => ?_) (fun hc h => ?_)
        ·cbv;have h := ret_some h;subst h;exact ⟨_, _, rfl, ⟨rfl, rfl, hO⟩, .e rfl (.z), rfl⟩
        ·cbv;have h := ret_some h;subst h;exact ⟨_, rfl, .e rfl (.e rfl (.e rfl (.e rfl (.e rfl (.z))))), rfl, hO⟩
   ·cbv;have h := ret_some h;subst h;exact ⟨_, _, rfl, ⟨rfl, rfl, hO⟩, .z, rfl⟩
  ·exact .e rfl (.e rfl (.e rfl (.e rfl (.e rfl (.z)))))
  ·clear hx
   rcases s2 with y12 | y13
   ·rintro e l H ⟨rfl, rfl, hO⟩;cbv;have h := ret_some h;subst h;exact hK _ _ _ hO (.refl _)
   ·rintro e l H ⟨rfl, rfl, hO⟩;cbv;have h := ret_some h;subst h;exact hK _ _ _ hO (.refl _)
def cf107 : Cf := ⟨[], [], [], [], [], []⟩
theorem c107 (N : Nat) (x_s : List Int) (x_v : Int) (r : Int) (h : slices_Index_Lint_int N x_s x_v = some r) : CallP Tryz.prog 107 [.sl (Ar.lst (V.int .i64) x_s) .ro, .int .i64 x_v] (.int .i64 r) := by
 unfold slices_Index_Lint_int at h
 refine callP_of_spec cf107 okP Tryz.func107 (by rfl) (by kernel_rfl) Tryz.call107 Tryz.ntmps107 (by rfl) (by rfl) ?_;intro E H0 K hE hK
 have hO : Own Eq H0 [] H0 := .start stable_eq rfl
 cbv;refine n_ln hE ?_;cbv;obtain ⟨s2, hx, h⟩ := bind_some h;refine n_loopN cf107 hE okP (fun s1 => [(0, .v (.sl (Ar.lst (V.int .i64) x_s) .ro)), (1, .v (.int .i64 x_v)), (7, .v (.int .i64 (Ar.len x_s))), (8, .v (.int .i64 s1))]) (fun s1 H1 => Own Eq H0 [] H1) (fun x e l H1 => match (generalizing := false) x with | .inl y => e = .exit 0 ∧ l = [] ∧ Own Eq H0 [] H1 | .inr y => e = .ret ∧ l = [(4, .v (.int .i64 y))] ∧ Own Eq H0 [] H1) (by kernel_rfl) ?_ hx ?_ hO ?_
 ·intro s1 H o hO h;clear hx;cbv;refine n_br hE h (fun hc h => ?_) (fun hc h => ?_)
  ·cbv;refine n_idx hE (fun _ => rfl) h fun x3 h => ?_;cbv;refine n_br hE h (fun hc h => ?_) (fun hc h => ?_)
   ·cbv;have h := ret_some h;subst h;exact ⟨_, _, rfl, ⟨rfl, rfl, hO⟩, .e rfl (.z), rfl⟩
   ·cbv;have h := ret_some h;subst h;exact ⟨_, rfl, .e rfl (.e rfl (.e rfl (.e rfl (.z)))), rfl, hO⟩
  ·cbv;have h := ret_some h;subst h;exact ⟨_, _, rfl, ⟨rfl, rfl, hO⟩, .z, rfl⟩
 ·exact .e rfl (.e rfl (.e rfl (.e rfl (.z))))
 ·clear hx
  rcases s2 with y4 | y5
  ·rintro e l H ⟨rfl, rfl, hO⟩;cbv;have h := ret_some h;subst h;exact hK _ _ _ hO (.refl _)
  ·rintro e l H ⟨rfl, rfl, hO⟩;cbv;have h := ret_some h;subst h;exact hK _ _ _ hO (.refl _)
def cf87 : Cf := ⟨[], [], [], [], [], []⟩
theorem c87 (N : Nat) (x_s : List Int) (x_v : Int) (r : Bool) (h : slices_Contains_Lint_int N x_s x_v = some r) : CallP Tryz.prog 87 [.sl (Ar.lst (V.int .i64) x_s) .ro, .int .i64 x_v] (.bool r) := by
 unfold slices_Contains_Lint_int at h
 refine callP_of_spec cf87 okP Tryz.func87 (by rfl) (by kernel_rfl) Tryz.call87 Tryz.ntmps87 (by rfl) (by rfl) ?_;intro E H0 K hE hK
 have hO : Own Eq H0 [] H0 := .start stable_eq rfl
 cbv;refine n_call hE (g := fun r1 => .int .i64 r1) h (fun r1 hx => c107 N x_s x_v r1 hx) (.refl _) fun r1 h => ?_;cbv;have h := ret_some h;subst h;exact hK _ _ _ hO (.refl _)
def cf77 : Cf := ⟨[], [], [], [], [], []⟩
theorem c77 (N : Nat) (x_a : GAutomaton) (x_lists : List (List Int)) (r : Int) (h : automaton_scopes N x_a x_lists = some r) : CallP Tryz.prog 77 [.agg [.int .i64 x_a.Vars, .int .i64 x_a.Scopes, .sl (Ar.lst Encs.eGState x_a.States) .ro, .sl (Ar.lst Encs.eGEdge x_a.Edges) .ro], .sl (Ar.lst Encs.eLI x_lists) .ro] (.int .i64 r) := by
 unfold automaton_scopes at h
 refine callP_of_spec cf77 okP Tryz.func77 (by rfl) (by kernel_rfl) Tryz.call77 Tryz.ntmps77 (by rfl) (by rfl) ?_;intro E H0 K hE hK
 have hO : Own Eq H0 [] H0 := .start stable_eq rfl
 cbv;refine n_ln hE ?_;cbv;obtain ⟨s2, hx, h⟩ := bind_some h;refine n_loopN cf77 hE okP (fun s1 => [(2, .v (.eref [.int .i64 x_a.Vars, .int .i64 x_a.Scopes, .sl (Ar.lst Encs.eGState x_a.States) .ro, .sl (Ar.lst Encs.eGEdge x_a.Edges) .ro] 0)), (9, .v (.sl (Ar.lst Encs.eLI x_lists) .ro)), (10, .v (.int .i64 (Ar.len x_lists))), (11, .v (.int .i64 s1))]) (fun s1 H1 => Own Eq H0 [] H1) (fun x e l H1 => match (generalizing := false) x with | .inl y => e = .exit 0 ∧ l = [] ∧ Own Eq H0 [] H1 | .inr y => e = .ret ∧ l = [(4, .v (.int .i64 y))] ∧ Own Eq H0 [] H1) (by kernel_rfl) ?_ hx ?_ hO ?_
 ·intro s1 H o hO h;clear hx;cbv;refine n_br hE h (fun hc h => ?_) (fun hc h => ?_)
  ·cbv;refine n_idx hE Encs.eLI_eq h fun x3 h => ?_;cbv;refine n_ln hE ?_;cbv;obtain ⟨s5, hx, h⟩ := bind_some h;refine n_loopN cf77 hE okP (fun s4 => [(2, .v (.eref [.int .i64 x_a.Vars, .int .i64 x_a.Scopes, .sl (Ar.lst Encs.eGState x_a.States) .ro, .sl (Ar.lst Encs.eGEdge x_a.Edges) .ro] 0)), (6, .v (.sl (Ar.lst (V.int .i64) x3) .ro)), (9, .v (.sl (Ar.lst Encs.eLI x_lists) .ro)), (10, .v (.int .i64 (Ar.len x_lists))), (11, .v (.int .i64 s1)), (15, .v (.sl (Ar.lst (V.int .i64) x3) .ro)), (16, .v (.int .i64 (Ar.len x3))), (17, .v (.int .i64 s4))]) (fun s4 H1 => Own Eq H0 [] H1) (fun x e l H1 => match (generalizing := false) x with | .inl y => e = .exit 2 ∧ l = [(2, .v (.eref [.int .i64 x_a.Vars, .int .i64 x_a.Scopes, .sl (Ar.lst Encs.eGState x_a.States) .ro, .sl (Ar.lst Encs.eGEdge x_a.Edges) .ro] 0)), (9, .v (.sl (Ar.lst Encs.eLI x_lists) .ro)), (10, .v (.int .i64 (Ar.len x_lists))), (11, .v (.int .i64 s1))] ∧ Own Eq H0 [] H1 | .inr y => e = .ret ∧ l = [(4, .v (.int .i64 y))] ∧ Own Eq H0 [] H1) (by kernel_rfl) ?_ hx ?_ hO ?_
   ·intro s4 H o hO h;clear hx;cbv;refine n_br hE h (fun hc h => ?_) (fun hc h => ?_)
    ·cbv;refine n_idx hE (fun _ => rfl) h fun x6 h => ?_;cbv;refine n_call hE (g := fun r7 => .bool r7) h (fun r7 hx => c74 N x6 x_a.Scopes r7 hx) (.refl _) fun r7 h => ?_;cbv;refine n_br hE h (fun hc h => ?_) (fun hc h => ?_)
     ·cbv;have h := ret_some h;subst h;exact ⟨_, _, rfl, ⟨rfl, rfl, hO⟩, .e rfl (.z), rfl⟩
     ·cbv;refine n_slice hE (f := (V.int .i64)) (fun _ => rfl) h fun l8 t9 h => ?_;cbv;refine n_call hE (g := fun r10 => .bool r10) h (fun r10 hx => c87 N l8 x6 r10 hx) (.cons (.ro _ _) (.refl _)) fun r10 h => ?_;cbv;refine n_br hE h (fun hc h => ?_) (fun hc h => ?_)
      ·cbv;have h := ret_some h;subst h;exact ⟨_, _, rfl, ⟨rfl, rfl, hO⟩, .e rfl (.z), rfl⟩
      ·cbv;have h := ret_some h;subst h;exact ⟨_, rfl, .e rfl (.e rfl (.e rfl (.e rfl (.e rfl (.e rfl (.e rfl (.e rfl (.z)))))))), rfl, hO⟩
    ·cbv;have h := ret_some h;subst h;exact ⟨_, _, rfl, ⟨rfl, rfl, hO⟩, .e rfl (.e rfl (.e rfl (.e rfl (.z)))), rfl⟩
   ·exact .e rfl (.e rfl (.e rfl (.e rfl (.e rfl (.e rfl (.e rfl (.e rfl (.z))))))))
   ·clear hx
    rcases s5 with y11 | y12
    ·rintro e l H ⟨rfl, rfl, hO⟩;cbv;have h := ret_some h;subst h;exact ⟨_, rfl, .e rfl (.e rfl (.e rfl (.e rfl (.z)))), rfl, hO⟩
    ·rintro e l H ⟨rfl, rfl, hO⟩;cbv;have h := ret_some h;subst h;exact ⟨_, _, rfl, ⟨rfl, rfl, hO⟩, .e rfl (.z), rfl⟩
  ·cbv;have h := ret_some h;subst h;exact ⟨_, _, rfl, ⟨rfl, rfl, hO⟩, .z, rfl⟩
 ·exact .e rfl (.e rfl (.e rfl (.e rfl (.z))))
 ·clear hx
  rcases s2 with y13 | y14
  ·rintro e l H ⟨rfl, rfl, hO⟩;cbv;have h := ret_some h;subst h;exact hK _ _ _ hO (.refl _)
  ·rintro e l H ⟨rfl, rfl, hO⟩;cbv;have h := ret_some h;subst h;exact hK _ _ _ hO (.refl _)
def cf78 : Cf := ⟨[], [], [], [], [], []⟩
theorem c78 (N : Nat) (x_l : List GLimit) (r : (List Int)) (h : automaton_limited N x_l = some r) : CallP Tryz.prog 78 [.sl (Ar.lst Encs.eGLimit x_l) .ro] (.sl (Ar.lst (V.int .i64) r) .ro) := by
 unfold automaton_limited at h
 refine callP_of_spec cf78 okP Tryz.func78 (by rfl) (by kernel_rfl) Tryz.call78 Tryz.ntmps78 (by rfl) (by rfl) ?_;intro E H0 K hE hK
 have hO : Own Eq H0 [] H0 := .start stable_eq rfl
 cbv;refine n_ln hE ?_;cbv;replace hO := hO.tl0 (t := .nil) rfl;obtain ⟨s3, hx, h⟩ := bind_some h;refine n_loopG cf78 hE okP (γ := Tail) (fun s1 g => [(3, .v (.sl (Ar.lst (V.int .i64) s1.1) g)), (6, .v (.sl (Ar.lst Encs.eGLimit x_l) .ro)), (7, .v (.int .i64 (Ar.len x_l))), (8, .v (.int .i64 s1.2))]) (fun s1 g H1 => Appn g ∧ Own Eq H0 [.tl g] H1) (fun x e l H1 => ∃ u1 : Tail, Appn u1 ∧ e = .exit 0 ∧ l = [(3, .v (.sl (Ar.lst (V.int .i64) x) u1))] ∧ Own Eq H0 [.tl u1] H1) (by kernel_rfl) ?_ .nil hx ?_ ?_ ?_
 ·rintro s1 t2 H o ⟨ht2, hO⟩ h;clear hx;cbv;refine n_br hE h (fun hc h => ?_) (fun hc h => ?_)
  ·cbv;refine n_idx hE Encs.eGLimit_eq h fun x4 h => ?_;cbv;refine n_appn (f := (V.int .i64)) hE (fun _ => rfl) (by decide) hO 0 rfl ht2 (l := s1.1) (m := [x4.Scope]) (.refl _) (.lstc (.refl _) (.lst0)) h fun l6 t5 H hO ht5 h => ?_;cbv;have h := ret_some h;subst h;exact ⟨_, t5, rfl, .e rfl (.e rfl (.e rfl (.e rfl (.z)))), rfl, ht5, hO⟩
  ·cbv;have h := ret_some h;subst h;exact ⟨_, _, rfl, ⟨t2, ht2, rfl, rfl, hO⟩, .e rfl (.z), rfl⟩
 ·exact .v (.slt _ (.lst0)) (.e rfl (.e rfl (.e rfl (.z))))
 ·exact ⟨trivial, hO⟩
 ·clear hx;rintro e l H ⟨t7, ht7, rfl, rfl, hO⟩;cbv;have h := ret_some h;subst h;exact hK _ _ _ hO (.ro _ _)
def cf88 : Cf := ⟨[], [], [], [], [], []⟩
theorem c88 (N : Nat) (x_s : List GLimit) (v_f : V) (x_f : GLimit → Option Bool) (h_f : ∀ y1 q, x_f y1 = some q → CallVP Tryz.prog v_f [.agg [.int .i64 y1.Scope, .int .i64 y1.Span]] (.bool q)) (r : Int) (h : slices_IndexFunc_LLimit_Limit N x_s x_f = some r) : CallP Tryz.prog 88 [.sl (Ar.lst Encs.eGLimit x_s) .ro, v_f] (.int .i64 r) := by
 unfold slices_IndexFunc_LLimit_Limit at h
 refine callP_of_spec cf88 okP Tryz.func88 (by rfl) (by kernel_rfl) Tryz.call88 Tryz.ntmps88 (by rfl) (by rfl) ?_;intro E H0 K hE hK
 have hO : Own Eq H0 [] H0 := .start stable_eq rfl
 cbv;refine n_ln hE ?_;cbv;obtain ⟨s2, hx, h⟩ := bind_some h;refine n_loopN cf88 hE okP (fun s1 => [(0, .v (.sl (Ar.lst Encs.eGLimit x_s) .ro)), (1, .v (v_f)), (7, .v (.int .i64 (Ar.len x_s))), (8, .v (.int .i64 s1))]) (fun s1 H1 => Own Eq H0 [] H1) (fun x e l H1 => match (generalizing := false) x with | .inl y => e = .exit 0 ∧ l = [] ∧ Own Eq H0 [] H1 | .inr y => e = .ret ∧ l = [(4, .v (.int .i64 y))] ∧ Own Eq H0 [] H1) (by kernel_rfl) ?_ hx ?_ hO ?_
 ·intro s1 H o hO h;clear hx;cbv;refine n_br hE h (fun hc h => ?_) (fun hc h => ?_)
  ·cbv;refine n_idx hE Encs.eGLimit_eq h fun x3 h => ?_;cbv;refine n_callF hE (g := fun r4 => .bool r4) h (fun r4 hx => h_f x3 r4 hx) (.refl _) fun r4 h => ?_;cbv;refine n_br hE h (fun hc h => ?_) (fun hc h => ?_)
   ·cbv;have h := ret_some h;subst h;exact ⟨_, _, rfl, ⟨rfl, rfl, hO⟩, .e rfl (.z), rfl⟩
   ·cbv;have h := ret_some h;subst h;exact ⟨_, rfl, .e rfl (.e rfl (.e rfl (.e rfl (.z)))), rfl, hO⟩
  ·cbv;have h := ret_some h;subst h;exact ⟨_, _, rfl, ⟨rfl, rfl, hO⟩, .z, rfl⟩
 ·exact .e rfl (.e rfl (.e rfl (.e rfl (.z))))
 ·clear hx
  rcases s2 with y5 | y6
  ·rintro e l H ⟨rfl, rfl, hO⟩;cbv;have h := ret_some h;subst h;exact hK _ _ _ hO (.refl _)
  ·rintro e l H ⟨rfl, rfl, hO⟩;cbv;have h := ret_some h;subst h;exact hK _ _ _ hO (.refl _)
def cf79 : Cf := ⟨[], [], [], [], [], []⟩
theorem c79 (N : Nat) (x_s : List GLimit) (v_f : V) (x_f : GLimit → Option Bool) (h_f : ∀ y1 q, x_f y1 = some q → CallVP Tryz.prog v_f [.agg [.int .i64 y1.Scope, .int .i64 y1.Span]] (.bool q)) (r : Bool) (h : slices_ContainsFunc_LLimit_Limit N x_s x_f = some r) : CallP Tryz.prog 79 [.sl (Ar.lst Encs.eGLimit x_s) .ro, v_f] (.bool r) := by
 unfold slices_ContainsFunc_LLimit_Limit at h
 refine callP_of_spec cf79 okP Tryz.func79 (by rfl) (by kernel_rfl) Tryz.call79 Tryz.ntmps79 (by rfl) (by rfl) ?_;intro E H0 K hE hK
 have hO : Own Eq H0 [] H0 := .start stable_eq rfl
 cbv;refine n_call hE (g := fun r1 => .int .i64 r1) h (fun r1 hx => c88 N x_s v_f x_f h_f r1 hx) (.refl _) fun r1 h => ?_;cbv;have h := ret_some h;subst h;exact hK _ _ _ hO (.refl _)
def cf80 : Cf := ⟨[], [], [], [], [], []⟩
theorem c80 (N : Nat) (x_l : GLimit) (r : Bool) (h : automaton_edge_1 N x_l = some r) : CallP Tryz.prog 80 [.agg [.int .i64 x_l.Scope, .int .i64 x_l.Span]] (.bool r) := by
 unfold automaton_edge_1 at h
 refine callP_of_spec cf80 okP Tryz.func80 (by rfl) (by kernel_rfl) Tryz.call80 Tryz.ntmps80 (by rfl) (by rfl) ?_;intro E H0 K hE hK
 have hO : Own Eq H0 [] H0 := .start stable_eq rfl
 cbv;have h := ret_some h;subst h;exact hK _ _ _ hO (.refl _)
def cf64 : Cf := ⟨[], [(17, 11)], [], [], [], []⟩
theorem c64 (N : Nat) (x_a : GAutomaton) (x_x : GEdge) (x_before : Int) (r : Int) (h : automaton_edge N x_a x_x x_before = some r) : CallP Tryz.prog 64 [.agg [.int .i64 x_a.Vars, .int .i64 x_a.Scopes, .sl (Ar.lst Encs.eGState x_a.States) .ro, .sl (Ar.lst Encs.eGEdge x_a.Edges) .ro], .agg [.int .i64 x_x.From, .int .i64 x_x.To, .int .i64 x_x.Var, .int .i64 x_x.Typ, .int .i64 x_x.Cond.Op, .sl (Ar.lst Encs.eGExpr x_x.Cond.Args) .ro, .int .i64 x_x.Cond.Var, .int .i64 x_x.Cond.Field, .int .i64 x_x.Cond.Kind, .int .i64 x_x.Cond.Value.Kind, .int .i64 x_x.Cond.Value.Num, .str x_x.Cond.Value.Text, .sl (Ar.lst (V.int .i64) x_x.Opens) .ro, .sl (Ar.lst (V.int .i64) x_x.Closes) .ro, .sl (Ar.lst Encs.eGExpr x_x.Checks) .ro, .sl (Ar.lst Encs.eGLimit x_x.Limits) .ro, .sl (Ar.lst (V.int .i64) x_x.Inside) .ro], .int .i64 x_before] (.int .i64 r) := by
 unfold automaton_edge at h
 refine callP_of_spec cf64 okP Tryz.func64 (by rfl) (by kernel_rfl) Tryz.call64 Tryz.ntmps64 (by rfl) (by rfl) ?_;intro E H0 K hE hK
 have hO : Own Eq H0 [] H0 := .start stable_eq rfl
 cbv;refine n_ln hE ?_;cbv;refine n_call hE (g := fun r1 => .bool r1) h (fun r1 hx => c74 N x_x.From (Ar.len x_a.States) r1 hx) (.refl _) fun r1 h => ?_;cbv;refine n_ln hE ?_;cbv;refine n_br hE h (fun hc h => ?_) (fun hc h => ?_)
 ·cbv;have h := ret_some h;subst h;exact hK _ _ _ hO (.refl _)
 ·cbv;refine n_call hE (g := fun r2 => .bool r2) h (fun r2 hx => c74 N x_x.Var x_a.Vars r2 hx) (.refl _) fun r2 h => ?_;cbv;refine n_br hE h (fun hc h => ?_) (fun hc h => ?_)
  ·cbv;have h := ret_some h;subst h;exact hK _ _ _ hO (.refl _)
  ·cbv;refine n_call hE (g := fun r3 => .bool r3) h (fun r3 hx => c74 N x_x.Typ 16 r3 hx) (.refl _) fun r3 h => ?_;cbv;refine n_br hE h (fun hc h => ?_) (fun hc h => ?_)
   ·cbv;have h := ret_some h;subst h;exact hK _ _ _ hO (.refl _)
   ·cbv;refine n_br hE h (fun hc h => ?_) (fun hc h => ?_)
    ·cbv;have h := ret_some h;subst h;exact hK _ _ _ hO (.refl _)
    ·cbv;refine n_call hE (g := fun r4 => .int .i64 r4) h (fun r4 hx => c9 N x_x.Cond r4 hx) (.refl _) fun r4 h => ?_;cbv;refine n_br hE h (fun hc h => ?_) (fun hc h => ?_)
     ·cbv;have h := ret_some h;subst h;exact hK _ _ _ hO (.refl _)
     ·cbv;refine n_ln hE ?_;cbv;refine n_br hE h (fun hc h => ?_) (fun hc h => ?_)
      ·cbv;have h := ret_some h;subst h;exact hK _ _ _ hO (.refl _)
      ·cbv;refine n_ln hE ?_;cbv;obtain ⟨s6, hx, h⟩ := bind_some h;refine n_loopN cf64 hE okP (fun s5 => [(3, .v (.eref [.int .i64 x_a.Vars, .int .i64 x_a.Scopes, .sl (Ar.lst Encs.eGState x_a.States) .ro, .sl (Ar.lst Encs.eGEdge x_a.Edges) .ro] 0)), (4, .v (.eref [.int .i64 x_x.From, .int .i64 x_x.To, .int .i64 x_x.Var, .int .i64 x_x.Typ, .int .i64 x_x.Cond.Op, .sl (Ar.lst Encs.eGExpr x_x.Cond.Args) .ro, .int .i64 x_x.Cond.Var, .int .i64 x_x.Cond.Field, .int .i64 x_x.Cond.Kind, .int .i64 x_x.Cond.Value.Kind, .int .i64 x_x.Cond.Value.Num, .str x_x.Cond.Value.Text, .sl (Ar.lst (V.int .i64) x_x.Opens) .ro, .sl (Ar.lst (V.int .i64) x_x.Closes) .ro, .sl (Ar.lst Encs.eGExpr x_x.Checks) .ro, .sl (Ar.lst Encs.eGLimit x_x.Limits) .ro, .sl (Ar.lst (V.int .i64) x_x.Inside) .ro] 0)), (63, .v (.sl (Ar.lst Encs.eGExpr x_x.Checks) .ro)), (64, .v (.int .i64 (Ar.len x_x.Checks))), (65, .v (.int .i64 s5))]) (fun s5 H1 => Own Eq H0 [] H1) (fun x e l H1 => match (generalizing := false) x with | .inl y => e = .exit 1 ∧ l = [(3, .v (.eref [.int .i64 x_a.Vars, .int .i64 x_a.Scopes, .sl (Ar.lst Encs.eGState x_a.States) .ro, .sl (Ar.lst Encs.eGEdge x_a.Edges) .ro] 0)), (4, .v (.eref [.int .i64 x_x.From, .int .i64 x_x.To, .int .i64 x_x.Var, .int .i64 x_x.Typ, .int .i64 x_x.Cond.Op, .sl (Ar.lst Encs.eGExpr x_x.Cond.Args) .ro, .int .i64 x_x.Cond.Var, .int .i64 x_x.Cond.Field, .int .i64 x_x.Cond.Kind, .int .i64 x_x.Cond.Value.Kind, .int .i64 x_x.Cond.Value.Num, .str x_x.Cond.Value.Text, .sl (Ar.lst (V.int .i64) x_x.Opens) .ro, .sl (Ar.lst (V.int .i64) x_x.Closes) .ro, .sl (Ar.lst Encs.eGExpr x_x.Checks) .ro, .sl (Ar.lst Encs.eGLimit x_x.Limits) .ro, .sl (Ar.lst (V.int .i64) x_x.Inside) .ro] 0))] ∧ Own Eq H0 [] H1 | .inr y => e = .ret ∧ l = [(6, .v (.int .i64 y))] ∧ Own Eq H0 [] H1) (by kernel_rfl) ?_ hx ?_ hO ?_
       ·intro s5 H o hO h;clear hx;cbv;refine n_br hE h (fun hc h => ?_) (fun hc h => ?_)
        ·cbv;refine n_idx hE Encs.eGExpr_eq h fun x7 h => ?_;cbv;refine n_call hE (g := fun r8 => .int .i64 r8) h (fun r8 hx => c9 N x7 r8 hx) (.refl _) fun r8 h => ?_;cbv;refine n_br hE h (fun hc h => ?_) (fun hc h => ?_)
         ·cbv;have h := ret_some h;subst h;exact ⟨_, _, rfl, ⟨rfl, rfl, hO⟩, .e rfl (.z), rfl⟩
         ·cbv;have h := ret_some h;subst h;exact ⟨_, rfl, .e rfl (.e rfl (.e rfl (.e rfl (.e rfl (.z))))), rfl, hO⟩
        ·cbv;have h := ret_some h;subst h;exact ⟨_, _, rfl, ⟨rfl, rfl, hO⟩, .e rfl (.e rfl (.z)), rfl⟩
       ·exact .e rfl (.e rfl (.e rfl (.e rfl (.e rfl (.z)))))
       ·clear hx
        rcases s6 with y9 | y13
        ·rintro e l H ⟨rfl, rfl, hO⟩;cbv;refine n_pcall hE (g := fun r10 => .sl (Ar.lst (V.int .i64) r10) .ro) h (fun r10 hx => c78 N x_x.Limits r10 hx) (.refl _) fun r10 h => ?_;cbv;refine n_call hE (g := fun r11 => .int .i64 r11) h (fun r11 hx => c77 N x_a ([x_x.Opens, x_x.Closes, x_x.Inside, r10]) r11 hx) (.cons (.refl _) (.cons (.lit _ (lst_cons ((Encs.eLI_eq x_x.Opens).symm) (lst_cons ((Encs.eLI_eq x_x.Closes).symm) (lst_cons ((Encs.eLI_eq x_x.Inside).symm) (lst_cons ((Encs.eLI_eq r10).symm) (lst_nil)))))) (.refl _))) fun r11 h => ?_;cbv;refine n_br hE h (fun hc h => ?_) (fun hc h => ?_)
         ·cbv;have h := ret_some h;subst h;exact hK _ _ _ hO (.refl _)
         ·cbv;refine n_call hE (g := fun r12 => .bool r12) h (fun r12 hx => c79 N x_x.Limits (.func (.func 80) [] []) (fun y1 => automaton_edge_1 N y1) (fun y1 r hx => CallP.value (F := []) (C := []) (c80 N y1 r hx)) r12 hx) (.refl _) fun r12 h => ?_;cbv;refine n_br hE h (fun hc h => ?_) (fun hc h => ?_)
          ·cbv;have h := ret_some h;subst h;exact hK _ _ _ hO (.refl _)
          ·cbv;have h := ret_some h;subst h;exact hK _ _ _ hO (.refl _)
        ·rintro e l H ⟨rfl, rfl, hO⟩;cbv;have h := ret_some h;subst h;exact hK _ _ _ hO (.refl _)
def cf39 : Cf := ⟨[], [], [], [], [], []⟩
theorem c39 (N : Nat) (x_a : GAutomaton) (r : Int) (h : automaton_Check N x_a = some r) : CallP Tryz.prog 39 [.agg [.int .i64 x_a.Vars, .int .i64 x_a.Scopes, .sl (Ar.lst Encs.eGState x_a.States) .ro, .sl (Ar.lst Encs.eGEdge x_a.Edges) .ro]] (.int .i64 r) := by
 unfold automaton_Check at h
 refine callP_of_spec cf39 okP Tryz.func39 (by rfl) (by kernel_rfl) Tryz.call39 Tryz.ntmps39 (by rfl) (by rfl) ?_;intro E H0 K hE hK
 have hO : Own Eq H0 [] H0 := .start stable_eq rfl
 cbv;refine n_br hE h (fun hc h => ?_) (fun hc h => ?_)
 ·cbv;have h := ret_some h;subst h;exact hK _ _ _ hO (.refl _)
 ·cbv;refine n_ln hE ?_;cbv;refine n_ln hE ?_;cbv;refine n_ln hE ?_;cbv;refine n_br hE h (fun hc h => ?_) (fun hc h => ?_)
  ·cbv;have h := ret_some h;subst h;exact hK _ _ _ hO (.refl _)
  ·cbv;refine n_ln hE ?_;cbv;obtain ⟨s2, hx, h⟩ := bind_some h;refine n_loopN cf39 hE okP (fun s1 => [(1, .v (.eref [.int .i64 x_a.Vars, .int .i64 x_a.Scopes, .sl (Ar.lst Encs.eGState x_a.States) .ro, .sl (Ar.lst Encs.eGEdge x_a.Edges) .ro] 0)), (47, .v (.sl (Ar.lst Encs.eGState x_a.States) .ro)), (48, .v (.int .i64 (Ar.len x_a.States))), (49, .v (.int .i64 s1))]) (fun s1 H1 => Own Eq H0 [] H1) (fun x e l H1 => match (generalizing := false) x with | .inl y => e = .exit 1 ∧ l = [(1, .v (.eref [.int .i64 x_a.Vars, .int .i64 x_a.Scopes, .sl (Ar.lst Encs.eGState x_a.States) .ro, .sl (Ar.lst Encs.eGEdge x_a.Edges) .ro] 0))] ∧ Own Eq H0 [] H1 | .inr y => e = .ret ∧ l = [(2, .v (.int .i64 y))] ∧ Own Eq H0 [] H1) (by kernel_rfl) ?_ hx ?_ hO ?_
   ·intro s1 H o hO h;clear hx;cbv;refine n_br hE h (fun hc h => ?_) (fun hc h => ?_)
    ·cbv;refine n_idx hE Encs.eGState_eq h fun x3 h => ?_;cbv;refine n_call hE (g := fun r4 => .int .i64 r4) h (fun r4 hx => c63 N x_a x3.Guards r4 hx) (.refl _) fun r4 h => ?_;cbv;refine n_br hE h (fun hc h => ?_) (fun hc h => ?_)
     ·cbv;have h := ret_some h;subst h;exact ⟨_, _, rfl, ⟨rfl, rfl, hO⟩, .e rfl (.z), rfl⟩
     ·cbv;have h := ret_some h;subst h;exact ⟨_, rfl, .e rfl (.e rfl (.e rfl (.e rfl (.z)))), rfl, hO⟩
    ·cbv;have h := ret_some h;subst h;exact ⟨_, _, rfl, ⟨rfl, rfl, hO⟩, .e rfl (.z), rfl⟩
   ·exact .e rfl (.e rfl (.e rfl (.e rfl (.z))))
   ·clear hx
    rcases s2 with y5 | y12
    ·rintro e l H ⟨rfl, rfl, hO⟩;cbv;refine n_ln hE ?_;cbv;obtain ⟨s7, hx, h⟩ := bind_some h;refine n_loopN cf39 hE okP (fun s6 => [(1, .v (.eref [.int .i64 x_a.Vars, .int .i64 x_a.Scopes, .sl (Ar.lst Encs.eGState x_a.States) .ro, .sl (Ar.lst Encs.eGEdge x_a.Edges) .ro] 0)), (6, .v (.int .i64 s6.1)), (62, .v (.sl (Ar.lst Encs.eGEdge x_a.Edges) .ro)), (63, .v (.int .i64 (Ar.len x_a.Edges))), (64, .v (.int .i64 s6.2))]) (fun s6 H1 => Own Eq H0 [] H1) (fun x e l H1 => match (generalizing := false) x with | .inl y => e = .exit 3 ∧ l = [] ∧ Own Eq H0 [] H1 | .inr y => e = .ret ∧ l = [(2, .v (.int .i64 y))] ∧ Own Eq H0 [] H1) (by kernel_rfl) ?_ hx ?_ hO ?_
     ·intro s6 H o hO h;clear hx;cbv;refine n_br hE h (fun hc h => ?_) (fun hc h => ?_)
      ·cbv;refine n_idx hE Encs.eGEdge_eq h fun x8 h => ?_;cbv;refine n_call hE (g := fun r9 => .int .i64 r9) h (fun r9 hx => c64 N x_a x8 s6.1 r9 hx) (.refl _) fun r9 h => ?_;cbv;refine n_br hE h (fun hc h => ?_) (fun hc h => ?_)
       ·cbv;have h := ret_some h;subst h;exact ⟨_, _, rfl, ⟨rfl, rfl, hO⟩, .e rfl (.z), rfl⟩
       ·cbv;have h := ret_some h;subst h;exact ⟨_, rfl, .e rfl (.e rfl (.e rfl (.e rfl (.e rfl (.z))))), rfl, hO⟩
      ·cbv;have h := ret_some h;subst h;exact ⟨_, _, rfl, ⟨rfl, rfl, hO⟩, .z, rfl⟩
     ·exact .e rfl (.e rfl (.e rfl (.e rfl (.e rfl (.z)))))
     ·clear hx
      rcases s7 with y10 | y11
      ·rintro e l H ⟨rfl, rfl, hO⟩;cbv;have h := ret_some h;subst h;exact hK _ _ _ hO (.refl _)
      ·rintro e l H ⟨rfl, rfl, hO⟩;cbv;have h := ret_some h;subst h;exact hK _ _ _ hO (.refl _)
    ·rintro e l H ⟨rfl, rfl, hO⟩;cbv;have h := ret_some h;subst h;exact hK _ _ _ hO (.refl _)
def lkM {X : Type} (m : List (Int × X)) (v : Int) : Option X := (m.find? fun p => decide (p.1 = v)).map (·.2)
theorem lkM_cons {X : Type} (p : Int × X) (m : List (Int × X)) (v : Int) : lkM (p :: m) v = if p.1 = v then some p.2 else lkM m v := by
 unfold lkM
 by_cases h : p.1 = v <;> simp [h]
theorem lkM_mem {X : Type} {m : List (Int × X)} (hn : (m.map (·.1)).Nodup) (p : Int × X) : lkM m p.1 = some p.2 ↔ p ∈ m := by
 induction m with
 | nil => simp [lkM]
 | cons a m ih =>
  rw [List.map_cons, List.nodup_cons] at hn
  rw [lkM_cons, List.mem_cons]
  split
  ·rename_i h
   constructor
   ·intro e; left; cases a; cases p; simp_all
   ·rintro (rfl | h2)
    ·rfl
    ·exact absurd (List.mem_map.2 ⟨p, h2, h.symm⟩) hn.1
  ·rename_i h
   rw [ih hn.2]
   constructor
   ·exact .inr
   ·rintro (rfl | h2)
    ·exact absurd rfl h
    ·exact h2
theorem nodup_of_keys {X : Type} {m : List (Int × X)} (hn : (m.map (·.1)).Nodup) : m.Nodup := List.Pairwise.imp (fun h e => h (by rw [e])) (List.pairwise_map.1 hn)
theorem perm_of_lk {X : Type} {m m' : List (Int × X)} (hn : (m.map (·.1)).Nodup) (hn' : (m'.map (·.1)).Nodup) (h : ∀ v, lkM m v = lkM m' v) : m.Perm m' := by
 refine (List.perm_ext_iff_of_nodup (nodup_of_keys hn) (nodup_of_keys hn')).2 fun p => ?_;rw [← lkM_mem hn, ← lkM_mem hn', h]
theorem lk_perm {X : Type} {m m' : List (Int × X)} (hn : (m.map (·.1)).Nodup) (hp : m.Perm m') (v : Int) : lkM m v = lkM m' v := by
 have hn' : (m'.map (·.1)).Nodup := (hp.map _).nodup hn
 cases h : lkM m v with
 | some x =>
  have := (lkM_mem hn (v, x)).1 h
  exact ((lkM_mem hn' (v, x)).2 (hp.mem_iff.1 this)).symm
 | none =>
  cases h' : lkM m' v with
  | none => rfl
  | some x =>
   have := (lkM_mem hn' (v, x)).1 h'
   rw [(lkM_mem hn (v, x)).2 (hp.mem_iff.2 this)] at h
   cases h
theorem getM_lk {X : Type} (m : List (Int × X)) (v : Int) (z : X) : getM m v z = some (match lkM m v with | some x => (x, true) | none => (z, false)) := by
 unfold getM lkM
 cases m.find? (fun p => decide (p.1 = v)) <;> rfl
theorem setM_lk {X : Type} {m m' : List (Int × X)} {v : Int} {x : X} (h : setM m v x = some m') (hn : (m.map (·.1)).Nodup) : (m'.map (·.1)).Nodup ∧ ∀ w, lkM m' w = if v = w then some x else lkM m w := by
 unfold setM at h
 cases h
 by_cases ha : (m.any fun p => decide (p.1 = v)) = true
 ·rw [if_pos ha]
  constructor
  ·rw [List.map_map]
   have : (m.map ((·.1) ∘ fun p => if p.1 = v then (v, x) else p)) = m.map (·.1) := List.map_congr_left fun p _ => by
    simp only [Function.comp_apply]; split
    ·rename_i h; exact h.symm
    ·rfl
   rw [this]; exact hn
  ·intro w
   induction m with
   | nil => simp at ha
   | cons a m ih =>
    rw [List.map_cons, lkM_cons, lkM_cons]
    rw [List.map_cons, List.nodup_cons] at hn
    by_cases h1 : a.1 = v
    ·rw [if_pos h1]
     by_cases h2 : v = w
     ·simp [h2]
     ·simp only [h2, if_false];rw [if_neg (by rw [h1]; exact h2)]
      have : (m.map fun p => if p.1 = v then (v, x) else p) = m := by
       have : ∀ l : List (Int × X), (∀ q ∈ l, q.1 ≠ v) → (l.map (fun p => if p.1 = v then (v, x) else p)) = l := fun l hl => by
        induction l with
        | nil => rfl
        | cons y l ih => rw [List.map_cons, if_neg (hl y (by simp)), ih fun q hq => hl q (by simp [hq])]
       exact this m fun q hq e => hn.1 (List.mem_map.2 ⟨q, hq, by rw [e, h1]⟩)
      rw [this]
    ·rw [if_neg h1]
     have ha' : (m.any fun p => decide (p.1 = v)) = true := by simpa [h1] using ha
     by_cases h2 : a.1 = w
     ·rw [if_pos h2, if_pos h2, if_neg (fun e => h1 (h2.trans e.symm))]
     ·rw [if_neg h2, if_neg h2, ih hn.2 ha']
 ·rw [if_neg ha]
  have hm : ∀ p ∈ m, p.1 ≠ v := fun p hp e => ha (List.any_eq_true.2 ⟨p, hp, by simpa using e⟩)
  constructor
  ·rw [List.map_append, List.nodup_append];refine ⟨hn, by simp, fun a h1 b h2 => ?_⟩;obtain ⟨p, hp, rfl⟩ := List.mem_map.1 h1
   simp at h2; subst h2
   exact hm p hp
  ·intro w
   induction m with
   | nil => simp [lkM_cons, lkM]
   | cons a m ih =>
    rw [List.cons_append, lkM_cons, lkM_cons]
    rw [List.map_cons, List.nodup_cons] at hn
    by_cases h2 : a.1 = w
    ·rw [if_pos h2, if_pos h2, if_neg (fun e => hm a (by simp) (h2.trans e.symm))]
    ·rw [if_neg h2, if_neg h2];refine ih hn.2 (fun h => ?_) fun p hp => hm p (by simp [hp]);obtain ⟨q, hq, e⟩ := List.any_eq_true.1 h;exact hm q (by simp [hq]) (by simpa using e)
def addC (N : Nat) (o : Option GNeed) (n : GNeed) : Option (Bool × GNeed) := (registers_needs_add N (match o with | some x => [(n.Var, x)] | none => []) n).bind fun a => some (a.1, match a.2 with | (_, x) :: _ => x | [] => ⟨0, 0, 0⟩)
theorem add_facts {N : Nat} {m : List (Int × GNeed)} {n : GNeed} {r : Bool × List (Int × GNeed)} (h : registers_needs_add N m n = some r) (hn : (m.map (·.1)).Nodup) :
 ∃ y, addC N (lkM m n.Var) n = some (r.1, y) ∧ (r.2.map (·.1)).Nodup ∧ ∀ w, lkM r.2 w = if r.1 = true ∧ n.Var = w then some y else lkM m w := by
 unfold addC
 unfold registers_needs_add at h ⊢
 rw [getM_lk] at h
 generalize lkM m n.Var = o at h ⊢
 cases o with
 | none =>
  simp only [Option.bind_some, getM_lk, lkM, List.find?_nil, Option.map_none] at h ⊢
  split at h
  ·rename_i hc
   rw [if_pos hc];obtain ⟨l3, h3, h⟩ := bind_some h
   cases h
   obtain ⟨h4, h5⟩ := setM_lk h3 hn;exact ⟨_, rfl, h4, fun w => by have := h5 w; unfold lkM at this; rw [this]; simp⟩
  ·rename_i hc
   rw [if_neg hc]
   cases h
   exact ⟨_, rfl, hn, fun w => by simp⟩
 | some x =>
  simp only [Option.bind_some, getM_lk, lkM, List.find?_cons, decide_true, Option.map_some] at h ⊢
  split at h
  ·rename_i hc
   rw [if_pos hc];obtain ⟨l3, h3, h⟩ := bind_some h
   cases h
   obtain ⟨h4, h5⟩ := setM_lk h3 hn;exact ⟨⟨n.Var, Ar.ar .or .i64 x.Last n.Last, Ar.ar .or .i64 x.All n.All⟩, by simp [setM], h4, fun w => by have := h5 w; unfold lkM at this; rw [this]; simp⟩
  ·rename_i hc
   rw [if_neg hc]
   cases h
   exact ⟨_, rfl, hn, fun w => by simp⟩
structure Joined (N : Nat) (m done : List (Int × GNeed)) (fr : Bool) (c : List (Int × GNeed)) : Prop where
 nd : (c.map (·.1)).Nodup
 at_ : ∀ v, match lkM done v with
  | none => lkM c v = lkM m v
  | some n => ∃ b y, addC N (lkM m v) n = some (b, y) ∧ lkM c v = if b = true then some y else lkM m v
 fr_ : fr = true ↔ ∃ p ∈ done, ∃ y, addC N (lkM m p.1) p.2 = some (true, y)
theorem Joined.nil {N : Nat} {m : List (Int × GNeed)} (hn : (m.map (·.1)).Nodup) : Joined N m [] false m := ⟨hn, fun v => rfl, by simp⟩
theorem Joined.step {N : Nat} {m done c : List (Int × GNeed)} {fr : Bool} {p : Int × GNeed} {a : Bool × List (Int × GNeed)} (h : Joined N m done fr c) (hp : p.2.Var = p.1) (hd : lkM done p.1 = none) (ha : registers_needs_add N c p.2 = some a) :
 Joined N m (p :: done) (a.1 || fr) a.2 := by
 obtain ⟨y, h1, h2, h3⟩ := add_facts ha h.nd
 have hc : lkM c p.1 = lkM m p.1 := by have := h.at_ p.1; rw [hd] at this; exact this
 rw [hp] at h1 h3
 rw [hc] at h1
 refine ⟨h2, fun v => ?_, ?_⟩
 ·rw [lkM_cons]
  by_cases hv : p.1 = v
  ·subst hv;rw [if_pos rfl];refine ⟨_, _, h1, ?_⟩;rw [h3]; simp [hc]
  ·rw [if_neg hv]
   have := h.at_ v
   rw [h3]; simp only [hv, and_false, if_false];exact this
 ·rw [Bool.or_eq_true, h.fr_]
  constructor
  ·rintro (e | ⟨q, hq, z⟩)
   ·exact ⟨p, by simp, y, by rw [h1, e]⟩
   ·exact ⟨q, by simp [hq], z⟩
  ·rintro ⟨q, hq, z, e⟩
   rcases List.mem_cons.1 hq with rfl | hq
   ·left; rw [h1, Option.some.injEq, Prod.mk.injEq] at e; exact e.1
   ·exact .inr ⟨q, hq, z, e⟩
theorem Joined.uniq {N : Nat} {m done done' c c' : List (Int × GNeed)} {fr fr' : Bool} (h : Joined N m done fr c) (h' : Joined N m done' fr' c') (hn : (done.map (·.1)).Nodup) (hp : done.Perm done') : fr = fr' ∧ c.Perm c' := by
 constructor
 ·rw [Bool.eq_iff_iff, h.fr_, h'.fr_];exact ⟨fun ⟨p, h1, h2⟩ => ⟨p, hp.mem_iff.1 h1, h2⟩, fun ⟨p, h1, h2⟩ => ⟨p, hp.mem_iff.2 h1, h2⟩⟩
 ·refine perm_of_lk h.nd h'.nd fun v => ?_
  have h1 := h.at_ v
  have h2 := h'.at_ v
  rw [← lk_perm hn hp] at h2
  cases hl : lkM done v with
  | none => rw [hl] at h1 h2; exact h1.trans h2.symm
  | some n =>
   rw [hl] at h1 h2
   obtain ⟨b, y, e1, e2⟩ := h1;obtain ⟨b', y', e3, e4⟩ := h2
   rw [e1] at e3; cases e3
   rw [e2, e4]
theorem add_some (N : Nat) (m : List (Int × GNeed)) (n : GNeed) : ∃ a, registers_needs_add N m n = some a := by
 unfold registers_needs_add
 rw [getM_lk]
 generalize lkM m n.Var = o
 cases o <;> (simp only [Option.bind_some]; split <;> exact ⟨_, rfl⟩)
theorem joinF_joined {N : Nat} {m : List (Int × GNeed)} : ∀ {l done c : List (Int × GNeed)} {fr : Bool} {r : Bool × List (Int × GNeed)}, Joined N m done fr c → ((l ++ done).map (·.1)).Nodup → (∀ p ∈ l, p.2.Var = p.1) → registers_needs_joinF N l (fr, c) = some r →
 ∃ done', done'.Perm (l ++ done) ∧ Joined N m done' r.1 r.2
 | [], done, c, fr, r, h, hn, hw, hr => by cases hr; exact ⟨done, .refl _, h⟩
 | p :: l, done, c, fr, r, h, hn, hw, hr => by
  unfold registers_needs_joinF at hr
  obtain ⟨a, h1, h2⟩ := bind_some hr
  rw [List.cons_append, List.map_cons, List.nodup_cons] at hn
  have hd : lkM done p.1 = none := by
   cases e : lkM done p.1 with
   | none => rfl
   | some x =>
    have hn2 : (done.map (·.1)).Nodup := by have := hn.2; rw [List.map_append, List.nodup_append] at this; exact this.2.1
    exact absurd (List.mem_map.2 ⟨_, List.mem_append_right l ((lkM_mem hn2 (p.1, x)).1 e), rfl⟩) hn.1
  have h3 := h.step (hw p (by simp)) hd h1
  have hp : (l ++ p :: done).Perm (p :: (l ++ done)) := List.perm_middle
  obtain ⟨d', e1, e2⟩ := joinF_joined h3 (((hp.map (·.1)).nodup_iff).2 (by rw [List.map_cons, List.nodup_cons]; exact hn)) (fun q hq => hw q (by simp [hq])) h2;exact ⟨d', e1.trans hp, e2⟩
def cf40 : Cf := ⟨[], [], [], [], [], []⟩
set_option maxHeartbeats 1000000 in
theorem c40 (N : Nat) (x_m x_l : List (Int × GNeed)) (r : Bool × List (Int × GNeed)) (h : registers_needs_join N x_m x_l = some r) : CallM2 Tryz.prog 40 (.int .i64) (V.int .i64) Encs.eGNeed x_m x_l (.bool r.1) r.2 := by
 unfold registers_needs_join at h
 split at h
 case isFalse => cases h
 rename_i hw
 have hw : ∀ p ∈ x_l, p.2.Var = p.1 := by simpa using hw
 refine callM2_run (T := TT) cf40 okP Tryz.func40 (by rfl) (by kernel_rfl) Tryz.call40 Tryz.ntmps40 (by rfl) (by rfl) ?_;intro E H0 id0 id2 o0 o2 K hE hne ho0 ho2 hk2 hO hK
 have hnm : (x_m.map (·.1)).Nodup := by obtain ⟨m', hq, hp⟩ := ho0; exact (hp.map _).nodup (keys_nodup hq)
 have hnl : (x_l.map (·.1)).Nodup := by obtain ⟨m', hq, hp⟩ := ho2; exact (hp.map _).nodup (keys_nodup hq)
 obtain ⟨D, hD, hJ⟩ := joinF_joined (Joined.nil hnm) (by simpa using hnl) hw h
 rw [List.append_nil] at hD
 clear h;cbv;refine n_mrg hE (kt := 3) (et := 76) (by kernel_rfl) hO (hO.ext _ _ hk2) ho2 fun it b0 H hI hO => ?_;cbv
 refine n_loopI hE cf40 okP (fun n l H1 => ∃ left done fr c oc bt, n = left.length ∧ (left ++ done).Perm x_l ∧ Joined N x_m done fr c ∧ Mok (.int .i64) (V.int .i64) Encs.eGNeed oc c ∧ ItOk (V.int .i64) Encs.eGNeed o2 id2 bt left ∧
  l = [(0, .v (.map id0)), (5, .v (.bool fr)), (9, .v (.ref it 0))] ∧ Own Eq (upd H0 id0 none) [.blk it bt, .blk id0 (.obj oc)] H1)
  (fun e l H1 => ∃ oc, Mok (.int .i64) (V.int .i64) Encs.eGNeed oc r.2 ∧ e = .exit 0 ∧ l = [(5, .v (.bool r.1))] ∧ Own Eq (upd H0 id0 none) [.blk id0 (.obj oc)] H1) (by kernel_rfl) ?_ (n0 := x_l.length) (l0 := [(0, .v (.map id0)), (5, .v (.bool false)), (9, .v (.ref it 0))]) ?_ ?_ ?_
 ·rintro n l H ⟨left, done, fr, c, oc, bt, rfl, hp, hJ1, hoc, hI, rfl, hO⟩;cbv;refine n_mnx hE hO hI 0 rfl (hO.ext _ _ hk2) (fun hl => ?_) fun p left' b' H hpp hI hO => ?_
  ·cbv;refine n_br0 hE (fun hc => by cases hc) fun _ => ?_;cbv;subst hl
   have hn1 : (done.map (·.1)).Nodup := ((hp.map (·.1)).nodup_iff).2 hnl
   obtain ⟨e1, e2⟩ := hJ1.uniq hJ hn1 (hp.trans hD.symm);subst e1;exact ⟨_, ⟨oc, hoc.perm e2, rfl, rfl, hO.tail⟩, .e rfl (.z), rfl⟩
  ·cbv
   refine n_br0 hE (fun _ => ?_) fun hc => by cases hc
   cbv;refine n_men hE hO hI 0 rfl (hO.ext _ _ hk2) ?_;rw [Encs.eGNeed_eq];cbv;obtain ⟨a, ha⟩ := add_some N c p.2;refine n_callM1 hE (m := registers_needs_add N c p.2) (F := some) (r := a) (g := fun y => .bool y) hO hoc 1 rfl (by rw [ha]; rfl) (fun y hy => c44 N c p.2 y hy) (.refl _) fun y oc' H hoc' hO hy => ?_
   cases hy
   cbv
   have hlen := hpp.length_eq
   refine ⟨left'.length, _, by simp only [List.length_cons] at hlen; omega, ?_, rfl, left', p :: done, a.1 || fr, a.2, oc', b', rfl, ?_, ?_, hoc', hI.1, rfl, hO⟩
   ·refine .e rfl (.e (congrArg V.bool (Ar.or_eq a.1 fr)) (.e rfl (.z)))
   ·exact List.perm_middle.trans ((hpp.symm.append_right done).trans hp)
   ·have hm : (p :: left' ++ done).Perm x_l := (hpp.symm.append_right done).trans hp
    refine hJ1.step (hw p (hm.mem_iff.1 (by simp))) ?_ ha
    have hn1 := ((hm.map (·.1)).nodup_iff).2 hnl
    rw [List.cons_append, List.map_cons, List.nodup_cons] at hn1
    cases e : lkM done p.1 with
    | none => rfl
    | some x =>
     have hn2 : (done.map (·.1)).Nodup := by have := hn1.2; rw [List.map_append, List.nodup_append] at this; exact this.2.1
     exact absurd (List.mem_map.2 ⟨_, List.mem_append_right left' ((lkM_mem hn2 (p.1, x)).1 e), rfl⟩) hn1.1
 ·exact .e rfl (.e rfl (.e rfl (.z)))
 ·exact ⟨x_l, [], false, x_m, o0, b0, rfl, by rw [List.append_nil], Joined.nil hnm, ho0, hI, rfl, hO⟩
 ·rintro e l H ⟨oc, hoc, rfl, rfl, hO⟩;cbv;exact hK _ _ _ 0 _ hoc rfl hO (.refl _)
abbrev MRow := List (Option (Nat × Obj × List (Int × GNeed)))
def mcell : Option (Nat × Obj × List (Int × GNeed)) → V
 | none => .nilmap
 | some c => .map c.1
def rowMs (row : MRow) : List (Option (List (Int × GNeed))) := row.map fun o => o.map (·.2.2)
structure StatesAt (H : Heap) (q : OG) (row : MRow) (ms : List (Option (List (Int × GNeed)))) : Prop where
 ok : Okn q (Ar.len row)
 arr : H q.id = some (.arr 1 (q.pre ++ Ar.lst mcell row ++ q.rest))
 eq : rowMs row = ms
 at_ : ∀ c, some c ∈ row → H c.1 = some (.obj c.2.1) ∧ Mok (.int .i64) (V.int .i64) Encs.eGNeed c.2.1 c.2.2
theorem row_idx {row : MRow} {ms : List (Option (List (Int × GNeed)))} (he : rowMs row = ms) {j : Int} {l : List (Int × GNeed)} (h : idxL ms j = some (some l)) : ∃ c, idxL row j = some (some c) ∧ c.2.2 = l ∧ row[j.toNat]? = some (some c) ∧ 0 ≤ j ∧ j < (row.length : Nat) := by
 obtain ⟨h1, h2⟩ := idxL_ok h
 have hlen : ms.length = row.length := by rw [← he]; exact List.length_map ..
 rw [← he] at h2
 unfold rowMs at h2
 rw [List.getElem?_map] at h2
 cases hc : row[j.toNat]? with
 | none => rw [hc] at h2; cases h2
 | some o =>
  rw [hc] at h2
  cases o with
  | none => cases h2
  | some c =>
   simp only [Option.map_some, Option.some.injEq] at h2
   exact ⟨c, by unfold idxL; rw [if_pos h1.1, hc], h2, rfl, h1.1, by omega⟩
theorem row_inR {row : MRow} {ms : List (Option (List (Int × GNeed)))} (he : rowMs row = ms) (j : Int) : inR row j = inR ms j := by
 unfold inR; rw [← he]; unfold rowMs; rw [List.length_map]
def CallBe (P : Program) (f : FuncId) (args : List V) (ms : List (Option (List (Int × GNeed)))) (r : List (Int × GNeed)) : Prop :=
 ∀ H q row, StatesAt H q row ms → CallA P f (args ++ [.own q.id q.lo q.n]) H fun v H' => ∃ id o, H id = none ∧ Mok (.int .i64) (V.int .i64) Encs.eGNeed o r ∧ v = .map id ∧ H' = upd H id (some (.obj o))
def cf41 : Cf := ⟨[], [], [(24, 9)], [], [], []⟩
set_option maxHeartbeats 4000000 in
theorem c41 (N : Nat) (x_x : GEdge) (x_states : List (Option (List (Int × GNeed)))) (r : List (Int × GNeed)) (h : registers_behind N x_x x_states = some r) : CallBe Tryz.prog 41 [.agg [.int .i64 x_x.From, .int .i64 x_x.To, .int .i64 x_x.Var, .int .i64 x_x.Typ, .int .i64 x_x.Cond.Op, .sl (Ar.lst Encs.eGExpr x_x.Cond.Args) .ro, .int .i64 x_x.Cond.Var, .int .i64 x_x.Cond.Field, .int .i64 x_x.Cond.Kind, .int .i64 x_x.Cond.Value.Kind, .int .i64 x_x.Cond.Value.Num, .str x_x.Cond.Value.Text, .sl (Ar.lst (V.int .i64) x_x.Opens) .ro, .sl (Ar.lst (V.int .i64) x_x.Closes) .ro, .sl (Ar.lst Encs.eGExpr x_x.Checks) .ro, .sl (Ar.lst Encs.eGLimit x_x.Limits) .ro, .sl (Ar.lst (V.int .i64) x_x.Inside) .ro]] x_states r := by
 unfold registers_behind at h
 intro H0 q row hS;refine CallA.le (callA_of_run (T := TT) (K := fun v H' => ∃ y H2, LeV v y ∧ HLe H2 H' ∧ ∃ id o, H0 id = none ∧ Mok (.int .i64) (V.int .i64) Encs.eGNeed o r ∧ y = .map id ∧ H2 = upd H0 id (some (.obj o))) cf41 okP.1 okP.2 Tryz.func41 (by rfl) (by kernel_rfl) Tryz.call41 Tryz.ntmps41 (by rfl) (by rfl) fun E hE => ?_)
 have hO : Own Eq H0 [] H0 := .start stable_eq rfl
 have hK : ∀ (id : Nat) (o : Obj) (L : List En) (i : Nat) (H' : Heap), Mok (.int .i64) (V.int .i64) Encs.eGNeed o r → L[i]? = some (.blk id (.obj o)) → Own Eq H0 L H' → ∃ y H2, LeV (V.map id) y ∧ HLe H2 H' ∧ ∃ id o, H0 id = none ∧ Mok (.int .i64) (V.int .i64) Encs.eGNeed o r ∧ y = .map id ∧ H2 = upd H0 id (some (.obj o)) := by
  intro id o L i H' hq hi hO;obtain ⟨h1, h2⟩ := (hO.only i hi).last;exact ⟨_, _, .refl _, h2, id, o, h1, hq, rfl, rfl⟩
 cbv;refine n_mmk hE (.int .i64) (V.int .i64) Encs.eGNeed hO fun m1 o2 H ho2 hO => ?_;cbv;refine n_ln hE ?_;cbv;obtain ⟨m6, hx, h⟩ := bind_some h
 refine n_loopG cf41 hE okP (γ := Obj) (fun s1 g => [(1, .v (.own q.id q.lo q.n)), (2, .v (.eref [.int .i64 x_x.From, .int .i64 x_x.To, .int .i64 x_x.Var, .int .i64 x_x.Typ, .int .i64 x_x.Cond.Op, .sl (Ar.lst Encs.eGExpr x_x.Cond.Args) .ro, .int .i64 x_x.Cond.Var, .int .i64 x_x.Cond.Field, .int .i64 x_x.Cond.Kind, .int .i64 x_x.Cond.Value.Kind, .int .i64 x_x.Cond.Value.Num, .str x_x.Cond.Value.Text, .sl (Ar.lst (V.int .i64) x_x.Opens) .ro, .sl (Ar.lst (V.int .i64) x_x.Closes) .ro, .sl (Ar.lst Encs.eGExpr x_x.Checks) .ro, .sl (Ar.lst Encs.eGLimit x_x.Limits) .ro, .sl (Ar.lst (V.int .i64) x_x.Inside) .ro] 0)), (5, .v (.map m1)), (11, .v (.sl (Ar.lst Encs.eGExpr x_x.Checks) .ro)), (12, .v (.int .i64 (Ar.len x_x.Checks))), (13, .v (.int .i64 s1.2))])
  (fun s1 g H1 => Mok (.int .i64) (V.int .i64) Encs.eGNeed g s1.1 ∧ Own Eq H0 [.blk m1 (.obj g)] H1)
  (fun x e l H1 => ∃ g, Mok (.int .i64) (V.int .i64) Encs.eGNeed g x ∧ e = .exit 0 ∧ l = [(1, .v (.own q.id q.lo q.n)), (2, .v (.eref [.int .i64 x_x.From, .int .i64 x_x.To, .int .i64 x_x.Var, .int .i64 x_x.Typ, .int .i64 x_x.Cond.Op, .sl (Ar.lst Encs.eGExpr x_x.Cond.Args) .ro, .int .i64 x_x.Cond.Var, .int .i64 x_x.Cond.Field, .int .i64 x_x.Cond.Kind, .int .i64 x_x.Cond.Value.Kind, .int .i64 x_x.Cond.Value.Num, .str x_x.Cond.Value.Text, .sl (Ar.lst (V.int .i64) x_x.Opens) .ro, .sl (Ar.lst (V.int .i64) x_x.Closes) .ro, .sl (Ar.lst Encs.eGExpr x_x.Checks) .ro, .sl (Ar.lst Encs.eGLimit x_x.Limits) .ro, .sl (Ar.lst (V.int .i64) x_x.Inside) .ro] 0)), (5, .v (.map m1))] ∧ Own Eq H0 [.blk m1 (.obj g)] H1) (by kernel_rfl) ?_ o2 hx ?_ ⟨ho2, hO⟩ ?_
 ·rintro s1 g H o ⟨hg, hO⟩ h;clear hx;cbv;refine n_br hE h (fun hc h => ?_) (fun hc h => ?_)
  ·cbv;refine n_idx hE Encs.eGExpr_eq h fun x3 h => ?_;cbv;refine n_callMF hE h (fun y hy => c25 N x3 (-1) y hy) (.refl _) hO fun l4 id4 o4 H ho4 hO h => ?_;cbv;refine n_callM2 hE (g := fun y => .bool y) hO hg 1 rfl (hO.ne 1 0 rfl rfl (by decide)) (hO.get 0 rfl) ho4 h (fun y hy => c40 N s1.1 l4 y hy) fun a5 g' H hg' hO _ h => ?_;cbv;have h := ret_some h;subst h;exact ⟨_, g', rfl, .e rfl (.e rfl (.e rfl (.e rfl (.e rfl (.e rfl (.z)))))), rfl, hg', hO.tail⟩
  ·cbv;have h := ret_some h;subst h;exact ⟨_, _, rfl, ⟨g, hg, rfl, rfl, hO⟩, .e rfl (.e rfl (.e rfl (.z))), rfl⟩
 ·exact .e rfl (.e rfl (.e rfl (.e rfl (.e rfl (.e rfl (.z))))))
 ·clear hx;rintro e l H ⟨g, hg, rfl, rfl, hO⟩;cbv;obtain ⟨m9, hx, h⟩ := bind_some h;refine n_join cf41 hE okP (fun e l H1 => ∃ g, Mok (.int .i64) (V.int .i64) Encs.eGNeed g m9 ∧ e = .normal ∧ l = [(2, .v (.eref [.int .i64 x_x.From, .int .i64 x_x.To, .int .i64 x_x.Var, .int .i64 x_x.Typ, .int .i64 x_x.Cond.Op, .sl (Ar.lst Encs.eGExpr x_x.Cond.Args) .ro, .int .i64 x_x.Cond.Var, .int .i64 x_x.Cond.Field, .int .i64 x_x.Cond.Kind, .int .i64 x_x.Cond.Value.Kind, .int .i64 x_x.Cond.Value.Num, .str x_x.Cond.Value.Text, .sl (Ar.lst (V.int .i64) x_x.Opens) .ro, .sl (Ar.lst (V.int .i64) x_x.Closes) .ro, .sl (Ar.lst Encs.eGExpr x_x.Checks) .ro, .sl (Ar.lst Encs.eGLimit x_x.Limits) .ro, .sl (Ar.lst (V.int .i64) x_x.Inside) .ro] 0)), (5, .v (.map m1))] ∧ Own Eq H0 [.blk m1 (.obj g)] H1) (by kernel_rfl) ?_ ?_
  ·clear h;have h := hx;clear hx;cbv;refine n_br hE h (fun hc h => ?_) (fun hc h => ?_)
   ·cbv;refine n_oidx hE (Own.startO (hO.ext _ _ hS.arr)) hS.ok 0 rfl (by rw [row_inR hS.eq]; exact h) fun h => ?_;cbv;obtain ⟨o7, hl7, h⟩ := bind_some h;obtain ⟨l7, rfl, h⟩ := bind_some h;obtain ⟨c, hc1, hc2, hc3, _, _⟩ := row_idx hS.eq hl7;obtain ⟨d1, d2⟩ := hS.at_ c (List.mem_of_getElem? hc3);refine n_oload hE (f := mcell) (g := mcell) (fun _ => rfl) (Own.startO (hO.ext _ _ hS.arr)) hS.ok 0 rfl (F := some) (r := some c) (by rw [hc1]; rfl) fun c' hc' => ?_
    cases hc'
    have hne : m1 ≠ c.1 := fun e => by
     have := (hO.only 0 rfl).last.1
     rw [e, d1] at this; cases this
    cbv;refine n_callM2 hE (g := fun y => .bool y) hO hg 0 rfl hne (hO.ext _ _ d1) (hc2 ▸ d2) h (fun y hy => c40 N m6 l7 y hy) fun a8 g' H hg' hO _ h => ?_;cbv;have h := ret_some h;subst h;exact ⟨_, ⟨g', hg', rfl, rfl, hO⟩, .e rfl (.e rfl (.z)), rfl⟩
   ·cbv;have h := ret_some h;subst h;exact ⟨_, ⟨g, hg, rfl, rfl, hO⟩, .e rfl (.e rfl (.z)), rfl⟩
  ·clear hx hg hO;rintro e l H ⟨g, hg, rfl, rfl, hO⟩;cbv;refine n_mgetG hE Encs.eGNeed_eq (kt := 3) (et := 76) (by kernel_rfl) (by kernel_rfl) (mkOk_int .i64) ((⟨0, 0, 0⟩ : GNeed) : GNeed) (by kernel_rfl) (Encs.eGNeed_eq _).symm hO hg 0 rfl h fun n10 h => ?_;cbv;refine n_mdel hE (R := Unit) (r := ()) (kt := 3) (et := 76) (by kernel_rfl) (by kernel_rfl) (mkOk_int .i64) hO hg 0 rfl fun g2 H hg2 hO => ?_;cbv;refine n_callM1 hE (g := fun y => .bool y) hO hg2 0 rfl h (fun y hy => c44 N _ _ y hy) (.refl _) fun a11 g3 H hg3 hO h => ?_;cbv;have h := ret_some h;subst h;exact hK _ _ _ 0 _ hg3 rfl hO
def rowTok (row : MRow) : List En := row.filterMap fun o => o.map fun c => .blk c.1 (.obj c.2.1)
theorem rowTok_set {j : Nat} {o : Option (Nat × Obj × List (Int × GNeed))} : ∀ {row : MRow}, row[j]? = some o → ∃ R, (rowTok row).Perm (rowTok [o] ++ R) ∧ ∀ c, (rowTok (row.set j (some c))).Perm (.blk c.1 (.obj c.2.1) :: R) := by
 induction j with
 | zero =>
  intro row h
  match row, h with
  | x :: row, h =>
   simp only [List.getElem?_cons_zero, Option.some.injEq] at h
   subst h;refine ⟨rowTok row, ?_, fun c => ?_⟩
   ·unfold rowTok
    rw [← List.filterMap_append];exact .refl _
   ·exact .refl _
 | succ j ih =>
  intro row h
  match row, h with
  | x :: row, h =>
   obtain ⟨R, h1, h2⟩ := ih (row := row) (by simpa using h);refine ⟨rowTok [x] ++ R, ?_, fun c => ?_⟩
   ·have e : rowTok (x :: row) = rowTok [x] ++ rowTok row := by unfold rowTok; rw [← List.filterMap_append]; rfl
    rw [e];refine (h1.append_left _).trans ?_;exact List.perm_append_comm_assoc _ _ _
   ·have e : rowTok ((x :: row).set (j + 1) (some c)) = rowTok [x] ++ rowTok (row.set j (some c)) := by unfold rowTok; rw [← List.filterMap_append]; rfl
    rw [e];exact ((h2 c).append_left _).trans List.perm_middle
theorem rowMs_set (row : MRow) (j : Nat) (c : Nat × Obj × List (Int × GNeed)) : rowMs (row.set j (some c)) = (rowMs row).set j (some c.2.2) := by
 unfold rowMs; rw [List.map_set]; rfl
structure RowAt (F : Heap) (q : OG) (row : MRow) (ms : List (Option (List (Int × GNeed)))) (Lx : List En) (H : Heap) : Prop where
 ok : Okn q (Ar.len row)
 eq : rowMs row = ms
 moks : ∀ c, some c ∈ row → Mok (.int .i64) (V.int .i64) Encs.eGNeed c.2.1 c.2.2
 own : Own Eq F (.blk q.id (.arr 1 (q.pre ++ Ar.lst mcell row ++ q.rest)) :: (rowTok row ++ Lx)) H
theorem lst_set {row : MRow} {j : Nat} {c c' : Nat × Obj × List (Int × GNeed)} (h : row[j]? = some (some c)) (he : c'.1 = c.1) : Ar.lst mcell (row.set j (some c')) = Ar.lst mcell row := by
 rw [Ar.lst_eq, Ar.lst_eq, List.map_set];refine List.ext_getElem? fun i => ?_;rw [List.getElem?_set]
 split
 ·rename_i e
  subst e;rw [List.length_map]
  have hlt : j < row.length := by
   rcases Nat.lt_or_ge j row.length with h' | h'
   ·exact h'
   ·rw [List.getElem?_eq_none h'] at h; cases h
  rw [if_pos hlt, List.getElem?_map, h];simp only [Option.map_some, mcell, he]
 ·rfl
theorem RowAt.take {F H : Heap} {q : OG} {row : MRow} {ms : List (Option (List (Int × GNeed)))} {Lx : List En} (h : RowAt F q row ms Lx H) {j : Nat} {c : Nat × Obj × List (Int × GNeed)} (hc : row[j]? = some (some c)) :
 ∃ R, Own Eq F (.blk c.1 (.obj c.2.1) :: .blk q.id (.arr 1 (q.pre ++ Ar.lst mcell row ++ q.rest)) :: (R ++ Lx)) H ∧ Mok (.int .i64) (V.int .i64) Encs.eGNeed c.2.1 c.2.2 ∧
  ∀ (o' : Obj) (m' : List (Int × GNeed)) (H' : Heap) (Ly : List En), Mok (.int .i64) (V.int .i64) Encs.eGNeed o' m' → Own Eq F (.blk c.1 (.obj o') :: .blk q.id (.arr 1 (q.pre ++ Ar.lst mcell row ++ q.rest)) :: (R ++ Ly)) H' →
   RowAt F q (row.set j (some (c.1, o', m'))) (ms.set j (some m')) Ly H' := by
 obtain ⟨R, h1, h2⟩ := rowTok_set hc;refine ⟨R, ?_, h.moks c (List.mem_of_getElem? hc), fun o' m' H' Ly hm hO => ⟨?_, ?_, fun c' hc' => ?_, ?_⟩⟩
 ·refine h.own.perm ?_;refine ((h1.append_right Lx).cons _).trans ?_;exact List.Perm.swap _ _ _
 ·have := h.ok
  rw [Ar.len_eq] at this ⊢
  rwa [List.length_set]
 ·rw [rowMs_set, h.eq]
 ·rcases List.mem_or_eq_of_mem_set hc' with hc' | e
  ·exact h.moks c' hc'
  ·cases e; exact hm
 ·rw [lst_set (c' := (c.1, o', m')) hc rfl];refine hO.perm ?_;refine (List.Perm.swap _ _ _).trans ?_;exact (((h2 (c.1, o', m')).symm.append_right Ly)).cons _
theorem RowAt.put {F H : Heap} {q : OG} {row : MRow} {ms : List (Option (List (Int × GNeed)))} {Lx : List En} (hok : Okn q (Ar.len row)) (heq : rowMs row = ms) (hmk : ∀ c, some c ∈ row → Mok (.int .i64) (V.int .i64) Encs.eGNeed c.2.1 c.2.2) {j : Nat} (hj : j < row.length) {m : Nat} {o : Obj} {l : List (Int × GNeed)} (ho : Mok (.int .i64) (V.int .i64) Encs.eGNeed o l)
 (hO : Own Eq F (.blk m (.obj o) :: .blk q.id (.arr 1 (q.pre ++ Ar.lst mcell (row.set j (some (m, o, l))) ++ q.rest)) :: (rowTok row ++ Lx)) H) : RowAt F q (row.set j (some (m, o, l))) (ms.set j (some l)) Lx H := by
 obtain ⟨R, h1, h2⟩ := rowTok_set (List.getElem?_eq_getElem hj);refine ⟨?_, by rw [rowMs_set, heq], fun c' hc' => ?_, ?_⟩
 ·rw [Ar.len_eq] at hok ⊢; rwa [List.length_set]
 ·rcases List.mem_or_eq_of_mem_set hc' with hc' | e
  ·exact hmk c' hc'
  ·cases e; exact ho
 ·refine Own.drops (X := rowTok [row[j]]) (hO.perm ?_)
  have e1 : (En.blk m (.obj o) :: .blk q.id (.arr 1 (q.pre ++ Ar.lst mcell (row.set j (some (m, o, l))) ++ q.rest)) :: (rowTok row ++ Lx)).Perm (.blk m (.obj o) :: .blk q.id (.arr 1 (q.pre ++ Ar.lst mcell (row.set j (some (m, o, l))) ++ q.rest)) :: (rowTok [row[j]] ++ (R ++ Lx))) := by
   have h3 : (rowTok row ++ Lx).Perm (rowTok [row[j]] ++ (R ++ Lx)) := by rw [← List.append_assoc]; exact h1.append_right Lx
   exact (h3.cons _).cons _
  refine e1.trans ?_
  have e2 : (En.blk m (.obj o) :: .blk q.id (.arr 1 (q.pre ++ Ar.lst mcell (row.set j (some (m, o, l))) ++ q.rest)) :: (rowTok [row[j]] ++ (R ++ Lx))).Perm (rowTok [row[j]] ++ (En.blk m (.obj o) :: .blk q.id (.arr 1 (q.pre ++ Ar.lst mcell (row.set j (some (m, o, l))) ++ q.rest)) :: (R ++ Lx))) :=
   List.perm_append_comm_assoc [En.blk m (.obj o), .blk q.id (.arr 1 (q.pre ++ Ar.lst mcell (row.set j (some (m, o, l))) ++ q.rest))] (rowTok [row[j]]) (R ++ Lx)
  refine e2.trans (List.Perm.append_left _ ?_);refine (List.Perm.swap _ _ _).trans ?_;exact (((h2 (m, o, l)).symm.append_right Lx)).cons _
theorem RowAt.states {F H : Heap} {q : OG} {row : MRow} {ms : List (Option (List (Int × GNeed)))} {Lx : List En} (h : RowAt F q row ms Lx H) : StatesAt H q row ms := by
 refine ⟨h.ok, h.own.get 0 rfl, h.eq, fun c hc => ⟨?_, h.moks c hc⟩⟩
 have hm : En.blk c.1 (.obj c.2.1) ∈ rowTok row := List.mem_filterMap.2 ⟨some c, hc, rfl⟩
 have hm2 : En.blk c.1 (.obj c.2.1) ∈ (En.blk q.id (.arr 1 (q.pre ++ Ar.lst mcell row ++ q.rest)) :: (rowTok row ++ Lx)) := List.mem_cons_of_mem _ (List.mem_append_left _ hm)
 obtain ⟨i, hi, e⟩ := List.getElem_of_mem hm2;exact h.own.get i (by rw [List.getElem?_eq_getElem hi, e])
theorem joinAt_some {N : Nat} {st : List (Option (List (Int × GNeed)))} {j : Int} {ol : Option (List (Int × GNeed))} {a : Bool × List (Option (List (Int × GNeed)))} (h : registers_joinAt N st j ol = some a) :
 ∃ m l b, idxL st j = some (some m) ∧ ol = some l ∧ registers_needs_join N m l = some b ∧ a = (b.1, st.set j.toNat (some b.2)) := by
 unfold registers_joinAt at h
 obtain ⟨o, h1, h⟩ := bind_some h
 cases o with
 | none => cases h
 | some m =>
  cases ol with
  | none => cases h
  | some l =>
   obtain ⟨b, h4, h⟩ := bind_some (m := registers_needs_join N m l) (F := fun a => some (a.1, st.set j.toNat (some a.2))) h;exact ⟨m, l, b, h1, rfl, h4, (Option.some.inj h).symm⟩
theorem len_ms {row : MRow} {ms : List (Option (List (Int × GNeed)))} (h : rowMs row = ms) : Ar.len row = Ar.len ms := by
 rw [Ar.len_eq, Ar.len_eq, ← h]; unfold rowMs; rw [List.length_map]
def cf14 : Cf := ⟨[], [(1000012, 0)], [], [2000012], [], []⟩
set_option maxHeartbeats 16000000 in
theorem c14 (N : Nat) (x_a : GAutomaton) (r : (List (List GNeed)) × Int) (h : registers_Needs N x_a = some r) : CallP Tryz.prog 14 [.agg [.int .i64 x_a.Vars, .int .i64 x_a.Scopes, .sl (Ar.lst Encs.eGState x_a.States) .ro, .sl (Ar.lst Encs.eGEdge x_a.Edges) .ro]] (.tup [.sl (Ar.lst Encs.eLGNeed r.1) .ro, .int .i64 r.2]) := by
 unfold registers_Needs at h
 refine callP_of_spec cf14 okP Tryz.func14 (by rfl) (by kernel_rfl) Tryz.call14 Tryz.ntmps14 (by rfl) (by rfl) ?_;intro E H0 K hE hK
 have hO : Own Eq H0 [] H0 := .start stable_eq rfl
 cbv;refine n_call hE (g := fun r1 => .int .i64 r1) h (fun r1 hx => c39 N x_a r1 hx) (.refl _) fun r1 h => ?_;cbv;refine n_br hE h (fun hc h => ?_) (fun hc h => ?_)
 ·cbv;have h := ret_some h;subst h;exact hK _ _ _ hO (.tup (.cons (.lit _ (lst_nil)) (.refl _)))
 ·cbv;refine n_ln hE ?_;cbv;obtain ⟨l2, hl2, h⟩ := bind_some h
  have hmk : mkL (Ar.len x_a.States) (Ar.len x_a.States) (none : Option (Nat × Obj × List (Int × GNeed))) = some (List.replicate (Ar.len x_a.States).toNat none) := by
   unfold mkL at hl2 ⊢
   split at hl2
   ·rename_i hc; rw [if_pos hc]
   ·cases hl2
  refine n_omk hE (f := mcell) (z0 := none) (F := some) (r := List.replicate (Ar.len x_a.States).toNat none) (by decide) (.refl _) hO (congrArg (fun z => z.bind some) hmk) fun row0 q H hq hrow hO => ?_
  cases hrow
  have hA : RowAt H0 q (List.replicate (Ar.len x_a.States).toNat none) l2 [] H := by
   refine ⟨hq, ?_, fun c hc => (by have := List.eq_of_mem_replicate hc; cases this), ?_⟩
   ·rw [mkL_some hl2]; unfold rowMs; rw [List.map_replicate]; rfl
   ·have e : ∀ n, rowTok (List.replicate n none) = [] := fun n => by
     induction n with
     | zero => rfl
     | succ n ih => exact ih
    rw [e]; exact hO
  clear hO hl2;cbv;refine n_ln hE ?_;cbv;obtain ⟨s4, hx, h⟩ := bind_some h
  refine n_loopG cf14 hE okP (γ := MRow) (fun s3 g => [(1, .v (.eref [.int .i64 x_a.Vars, .int .i64 x_a.Scopes, .sl (Ar.lst Encs.eGState x_a.States) .ro, .sl (Ar.lst Encs.eGEdge x_a.Edges) .ro] 0)), (5, .v (.own q.id q.lo q.n)), (27, .v (.sl (Ar.lst Encs.eGState x_a.States) .ro)), (28, .v (.int .i64 (Ar.len x_a.States))), (29, .v (.int .i64 s3.2))])
   (fun s3 g H1 => RowAt H0 q g s3.1 [] H1) (fun x e l H1 => ∃ g, RowAt H0 q g x [] H1 ∧ e = .exit 0 ∧ l = [(1, .v (.eref [.int .i64 x_a.Vars, .int .i64 x_a.Scopes, .sl (Ar.lst Encs.eGState x_a.States) .ro, .sl (Ar.lst Encs.eGEdge x_a.Edges) .ro] 0)), (5, .v (.own q.id q.lo q.n))]) (by kernel_rfl) ?_ _ hx ?_ hA ?_
  ·rintro s3 row H o hA h;clear hx;cbv;refine n_br hE h (fun hc h => ?_) (fun hc h => ?_)
   ·cbv;refine n_idx hE Encs.eGState_eq h fun x5 h => ?_;cbv;obtain ⟨l6, hl6, h⟩ := bind_some h;refine n_alloc hE hA.own fun b7 H hO => ?_;cbv;refine n_store hE hO 0 rfl rfl fun H hO => ?_;cbv;refine n_mmk hE (.int .i64) (V.int .i64) Encs.eGNeed hO fun m1 o1 H ho1 hO => ?_;cbv
    have hj : 0 ≤ s3.2 ∧ s3.2 < (row.length : Nat) := by
     unfold updL at hl6
     cases hz : idxL s3.1 s3.2 with
     | none => rw [hz] at hl6; cases hl6
     | some z =>
      have := (idxL_ok hz).1
      rw [← hA.eq] at this
      unfold rowMs at this
      rwa [List.length_map] at this
    have hz : idxL row s3.2 = some (row[s3.2.toNat]'(by omega)) := by unfold idxL; rw [if_pos hj.1]; exact List.getElem?_eq_getElem _
    refine n_oidx hE hO hA.ok 2 (F := fun _ => some ()) (r := ()) rfl (by unfold req inR; rw [if_pos (by simpa using hj)]; rfl) fun _ => ?_;cbv;refine n_ostore hE (f := mcell) (esz := 1) (tz := 1) (off := 0) (u := fun _ => some (m1, o1, [])) (F := some) (r := row.set s3.2.toNat (some (m1, o1, []))) (fun x => ⟨_, .refl _, rfl, rfl, by cases x <;> rfl⟩) (by decide) hO hA.ok 2 rfl (by unfold updL; rw [hz]; rfl) fun row' H hq' hr hO => ?_
    cases hr
    cbv;refine n_load hE hO 1 rfl ?_
    have hO : Own Eq H0 (.blk m1 (.obj o1) :: .blk q.id (.arr 1 (q.pre ++ Ar.lst mcell (row.set s3.2.toNat (some (m1, o1, []))) ++ q.rest)) :: (rowTok row ++ [])) H := (hO.perm (List.Perm.swap _ _ _)).tail
    have hjn : s3.2.toNat < row.length := (Int.toNat_lt hj.1).2 hj.2
    have hA := RowAt.put hA.ok hA.eq hA.moks (j := s3.2.toNat) hjn ho1 hO
    have el6 : l6 = s3.1.set s3.2.toNat (some []) := updL_put hl6
    rw [← el6] at hA
    clear hO hq' hz el6;cbv;refine n_ln hE ?_;cbv;obtain ⟨l8, hx, h⟩ := bind_some h
    refine n_loopG cf14 hE okP (γ := MRow) (fun s7 g => [(1, .v (.eref [.int .i64 x_a.Vars, .int .i64 x_a.Scopes, .sl (Ar.lst Encs.eGState x_a.States) .ro, .sl (Ar.lst Encs.eGEdge x_a.Edges) .ro] 0)), (5, .v (.own q.id q.lo q.n)), (6, .v (.int .i64 s3.2)), (27, .v (.sl (Ar.lst Encs.eGState x_a.States) .ro)), (28, .v (.int .i64 (Ar.len x_a.States))), (29, .v (.int .i64 s3.2)), (39, .v (.sl (Ar.lst Encs.eGGuard x5.Guards) .ro)), (40, .v (.int .i64 (Ar.len x5.Guards))), (41, .v (.int .i64 s7.2))])
     (fun s7 g H1 => RowAt H0 q g s7.1 [] H1) (fun x e l H1 => ∃ g, RowAt H0 q g x [] H1 ∧ e = .exit 2 ∧ l = [(1, .v (.eref [.int .i64 x_a.Vars, .int .i64 x_a.Scopes, .sl (Ar.lst Encs.eGState x_a.States) .ro, .sl (Ar.lst Encs.eGEdge x_a.Edges) .ro] 0)), (5, .v (.own q.id q.lo q.n)), (27, .v (.sl (Ar.lst Encs.eGState x_a.States) .ro)), (28, .v (.int .i64 (Ar.len x_a.States))), (29, .v (.int .i64 s3.2))]) (by kernel_rfl) ?_ _ hx ?_ hA ?_
    ·rintro s7 row7 H o7 hA h;clear hx;cbv;refine n_br hE h (fun hc h => ?_) (fun hc h => ?_)
     ·cbv;refine n_idx hE Encs.eGGuard_eq h fun x9 h => ?_;cbv;obtain ⟨a10, ha10, h⟩ := bind_some h;obtain ⟨m, l, b, k1, k2, k3, rfl⟩ := joinAt_some ha10;obtain ⟨c, c1, c2, c3, c4, c5⟩ := row_idx hA.eq k1;obtain ⟨R, hO, hmo, hback⟩ := hA.take c3
      have hq7 := hA.ok
      subst c2;clear hA
      refine n_join cf14 hE okP (fun e l1 H1 => ∃ g', Mok (.int .i64) (V.int .i64) Encs.eGNeed g' b.2 ∧ e = .normal ∧ l1 = [(1, .v (.eref [.int .i64 x_a.Vars, .int .i64 x_a.Scopes, .sl (Ar.lst Encs.eGState x_a.States) .ro, .sl (Ar.lst Encs.eGEdge x_a.Edges) .ro] 0)), (5, .v (.own q.id q.lo q.n)), (6, .v (.int .i64 s3.2)), (27, .v (.sl (Ar.lst Encs.eGState x_a.States) .ro)), (28, .v (.int .i64 (Ar.len x_a.States))), (29, .v (.int .i64 s3.2)), (39, .v (.sl (Ar.lst Encs.eGGuard x5.Guards) .ro)), (40, .v (.int .i64 (Ar.len x5.Guards))), (41, .v (.int .i64 s7.2))] ∧
       Own Eq H0 (.blk c.1 (.obj g') :: .blk q.id (.arr 1 (q.pre ++ Ar.lst mcell row7 ++ q.rest)) :: (R ++ [])) H1) (by kernel_rfl) ?_ ?_
      ·clear h hback
       have hix : (req (inR row7 s3.2)).bind (fun _ => some ()) = some () := by unfold req inR; rw [if_pos (by simpa using ⟨c4, c5⟩)]; rfl
       have hld : (idxL row7 s3.2).bind some = some (some c) := by rw [c1]; rfl
       have hrd : (registers_read N x9.Cond x9.Var).bind some = some l := by rw [k2]; rfl
       have hjn : (registers_needs_join N c.2.2 l).bind some = some b := by rw [k3]; rfl
       cbv
       repeat' first
        | refine And.intro ?_ ?_
        | (refine n_oidx hE hO hq7 1 rfl hix fun _ => ?_; cbv)
        | (refine n_oidx hE hO hq7 2 rfl hix fun _ => ?_; cbv)
        | (refine n_oload hE (f := mcell) (g := mcell) (fun _ => rfl) hO hq7 1 rfl hld fun c' hc' => ?_; cases hc'; cbv)
        | (refine n_oload hE (f := mcell) (g := mcell) (fun _ => rfl) hO hq7 2 rfl hld fun c' hc' => ?_; cases hc'; cbv)
        | (refine n_callMF hE hrd (fun y hy => c25 N x9.Cond x9.Var y hy) (.refl _) hO fun l9 id9 o9 H ho9 hO he => ?_; cases he; cbv)
        | (refine n_callM2 hE (g := fun y => .bool y) hO hmo 1 rfl (hO.ne 1 0 rfl rfl (by decide)) (hO.get 0 rfl) ho9 hjn (fun y hy => c40 N c.2.2 l y hy) fun b' g' H hg' hO _ he => ?_; cases he; cbv
           exact ⟨_, ⟨g', hg', rfl, rfl, hO.tail⟩, .e rfl (.e rfl (.e rfl (.e rfl (.e rfl (.e rfl (.e rfl (.e rfl (.e rfl (.z))))))))), rfl⟩)
      ·rintro e l1 H ⟨g', hg', rfl, rfl, hO⟩
       have hA := hback g' b.2 H [] hg' hO
       cbv;have h := ret_some h;subst h;exact ⟨_, _, rfl, .e rfl (.e rfl (.e rfl (.e rfl (.e rfl (.e rfl (.e rfl (.e rfl (.e rfl (.z))))))))), rfl, hA⟩
     ·cbv;have h := ret_some h;subst h;exact ⟨_, _, rfl, ⟨row7, hA, rfl, rfl⟩, .e rfl (.e rfl (.e rfl (.e rfl (.e rfl (.z))))), rfl⟩
    ·exact .e rfl (.e rfl (.e rfl (.e rfl (.e rfl (.e rfl (.e rfl (.e rfl (.e rfl (.z)))))))))
    ·clear hx;rintro e l H ⟨row8, hA, rfl, rfl⟩;cbv;have h := ret_some h;subst h;exact ⟨_, row8, rfl, .e rfl (.e rfl (.e rfl (.e rfl (.e rfl (.z))))), rfl, hA⟩
   ·cbv;have h := ret_some h;subst h;exact ⟨_, _, rfl, ⟨row, hA, rfl, rfl⟩, .e rfl (.e rfl (.z)), rfl⟩
  ·exact .e rfl (.e rfl (.e rfl (.e rfl (.e rfl (.z)))))
  ·clear hx hA;rintro e l H ⟨row4, hA, rfl, rfl⟩;cbv;obtain ⟨s12, hx, h⟩ := bind_some h
   refine n_loopG cf14 hE okP (γ := MRow) (fun s11 g => [(1, .v (.eref [.int .i64 x_a.Vars, .int .i64 x_a.Scopes, .sl (Ar.lst Encs.eGState x_a.States) .ro, .sl (Ar.lst Encs.eGEdge x_a.Edges) .ro] 0)), (5, .v (.own q.id q.lo q.n)), (10, .v (.bool s11.2))])
    (fun s11 g H1 => RowAt H0 q g s11.1 [] H1) (fun x e l H1 => ∃ g, RowAt H0 q g x [] H1 ∧ e = .exit 4 ∧ l = [(5, .v (.own q.id q.lo q.n))]) (by kernel_rfl) ?_ _ hx ?_ hA ?_
   ·rintro s11 row11 H o11 hA h;clear hx;cbv;refine n_br hE h (fun hc h => ?_) (fun hc h => ?_)
    ·cbv;refine n_ln hE ?_;cbv;obtain ⟨s14, hx, h⟩ := bind_some h
     refine n_loopG cf14 hE okP (γ := MRow) (fun s13 g => [(1, .v (.eref [.int .i64 x_a.Vars, .int .i64 x_a.Scopes, .sl (Ar.lst Encs.eGState x_a.States) .ro, .sl (Ar.lst Encs.eGEdge x_a.Edges) .ro] 0)), (5, .v (.own q.id q.lo q.n)), (10, .v (.bool s13.2.1)), (59, .v (.sl (Ar.lst Encs.eGEdge x_a.Edges) .ro)), (60, .v (.int .i64 (Ar.len x_a.Edges))), (61, .v (.int .i64 s13.2.2))])
      (fun s13 g H1 => RowAt H0 q g s13.1 [] H1) (fun x e l H1 => ∃ g, RowAt H0 q g x.1 [] H1 ∧ e = .exit 6 ∧ l = [(1, .v (.eref [.int .i64 x_a.Vars, .int .i64 x_a.Scopes, .sl (Ar.lst Encs.eGState x_a.States) .ro, .sl (Ar.lst Encs.eGEdge x_a.Edges) .ro] 0)), (5, .v (.own q.id q.lo q.n)), (10, .v (.bool x.2))]) (by kernel_rfl) ?_ _ hx ?_ hA ?_
     ·rintro s13 row13 H o13 hA h;clear hx;cbv;refine n_br hE h (fun hc h => ?_) (fun hc h => ?_)
      ·cbv;refine n_idx hE Encs.eGEdge_eq h fun x15 h => ?_;cbv;obtain ⟨a16, ha16, h⟩ := bind_some h;obtain ⟨a17, ha17, h⟩ := bind_some h;obtain ⟨m, l, b, k1, k2, k3, rfl⟩ := joinAt_some ha16;obtain ⟨c, c1, c2, c3, c4, c5⟩ := row_idx hA.eq k1;refine n_oidx hE hA.own hA.ok 0 (F := fun _ => some ()) (r := ()) rfl (by unfold req inR; rw [if_pos (by simpa using ⟨c4, c5⟩)]; rfl) fun _ => ?_;cbv;refine n_oload hE (f := mcell) (g := mcell) (fun _ => rfl) hA.own hA.ok 0 rfl (F := some) (r := some c) (by rw [c1]; rfl) fun c' hc' => ?_
       cases hc'
       cbv;obtain ⟨R, hO, hmo, hback⟩ := hA.take c3;refine n_callMF hE (F := some) (r := l) (m := registers_read N x15.Cond x15.Var) (by rw [k2]; rfl) (fun y hy => c25 N x15.Cond x15.Var y hy) (.refl _) hO fun l9 id9 o9 H ho9 hO he => ?_
       cases he
       cbv;subst c2;refine n_callM2 hE (g := fun y => .bool y) (F := some) (r := b) hO hmo 1 rfl (hO.ne 1 0 rfl rfl (by decide)) (hO.get 0 rfl) ho9 (by rw [k3]; rfl) (fun y hy => c40 N c.2.2 l y hy) fun b' g' H hg' hO _ he => ?_
       cases he
       cbv
       have hA := hback g' b.2 H [] hg' hO.tail
       clear hO hback hmo ho9;obtain ⟨m', l', d, j1, j2, j3, rfl⟩ := joinAt_some ha17;obtain ⟨c', e1, e2, e3, e4, e5⟩ := row_idx hA.eq j1
       have hcc : c'.1 = c.1 := by
        have hlt : x15.From.toNat < row13.length := (Int.toNat_lt c4).2 c5
        rw [List.getElem?_set_self hlt] at e3
        cases e3; rfl
       refine n_callX hE (c41 N x15 _ l' j2 H q _ hA.states) fun v H' ⟨id10, o10, n1, n2, n3, n4⟩ => ?_;subst n3;obtain ⟨R', hO, hmo, hback⟩ := hA.take e3
       have hO := hO.push (en := .blk id10 (.obj o10)) n1 rfl
       rw [← n4] at hO
       clear n4;cbv;subst e2
       rw [hcc] at hO hback
       refine n_callM2 hE (g := fun y => .bool y) (F := some) (r := d) hO hmo 1 rfl (hO.ne 1 0 rfl rfl (by decide)) (hO.get 0 rfl) n2 (by rw [j3]; rfl) (fun y hy => c40 N c'.2.2 l' y hy) fun b' g2 H hg2 hO _ he => ?_
       cases he
       cbv
       have hA := hback g2 d.2 H [] hg2 hO.tail
       have h := ret_some h;subst h;exact ⟨_, _, rfl, .e rfl (.e rfl (.e rfl (.e rfl (.e rfl (.e rfl (.z)))))), rfl, hA⟩
      ·cbv;have h := ret_some h;subst h;exact ⟨_, _, rfl, ⟨row13, hA, rfl, rfl⟩, .e rfl (.e rfl (.e rfl (.z))), rfl⟩
     ·exact .e rfl (.e rfl (.e rfl (.e rfl (.e rfl (.e rfl (.z))))))
     ·clear hx;rintro e l H ⟨row14, hA, rfl, rfl⟩;cbv;have h := ret_some h;subst h;exact ⟨_, row14, rfl, .e rfl (.e rfl (.e rfl (.z))), rfl, hA⟩
    ·cbv;have h := ret_some h;subst h;exact ⟨_, _, rfl, ⟨row11, hA, rfl, rfl⟩, .e rfl (.z), rfl⟩
   ·exact .e rfl (.e rfl (.e rfl (.z)))
   ·clear hx hA;rintro e l H ⟨row12, hA, rfl, rfl⟩;cbv;refine n_olen hE hA.ok ?_;rw [len_ms hA.eq];cbv;obtain ⟨s19, hx, h⟩ := bind_some h
    have hq12 := hA.ok
    refine n_loopG cf14 hE okP (γ := Tail) (fun s18 g => [(14, .v (.sl (Ar.lst Encs.eLGNeed s18.2) g)), (89, .v (.own q.id q.lo q.n)), (90, .v (.int .i64 (Ar.len s12))), (91, .v (.int .i64 s18.1))])
     (fun s18 g H1 => Appn g ∧ Own Eq H0 (.tl g :: .blk q.id (.arr 1 (q.pre ++ Ar.lst mcell row12 ++ q.rest)) :: (rowTok row12 ++ [])) H1) (fun x e l H1 => ∃ (u : Tail) (Lx : List En), Appn u ∧ e = .exit 8 ∧ l = [(14, .v (.sl (Ar.lst Encs.eLGNeed x) u))] ∧ Own Eq H0 (.tl u :: Lx) H1) (by kernel_rfl) ?_ .nil hx ?_ ⟨trivial, hA.own.tl0 rfl⟩ ?_
    ·rintro s18 t18 H1 o18 ⟨ht18, hO⟩ h;clear hx;cbv;refine n_br hE h (fun hc h => ?_) (fun hc h => ?_)
     ·cbv;obtain ⟨o20, ho20, h⟩ := bind_some h
      cases o20 with
      | none => cases h
      | some m21 =>
      have h : (registers_needs_list N m21).bind _ = some o18 := h
      obtain ⟨c, c1, c2, c3, c4, c5⟩ := row_idx hA.eq ho20;refine n_oidx hE hO hq12 1 (F := fun _ => some ()) (r := ()) rfl (by unfold req inR; rw [if_pos (by simpa using ⟨c4, c5⟩)]; rfl) fun _ => ?_;cbv;refine n_oload hE (f := mcell) (g := mcell) (fun _ => rfl) hO hq12 1 rfl (F := some) (r := some c) (by rw [c1]; rfl) fun c' hc' => ?_
      cases hc'
      cbv;subst c2
      have hA2 : RowAt H0 q row12 s12 [] H1 := ⟨hq12, hA.eq, hA.moks, hO.tail⟩
      obtain ⟨d1, d2⟩ := hA2.states.at_ c (List.mem_of_getElem? c3);refine n_callMR hE (g := fun y => .sl (Ar.lst Encs.eGNeed y) .ro) d1 d2 h (fun y hy => c26 N c.2.2 y hy) fun l22 h => ?_;cbv;refine n_appn (f := Encs.eLGNeed) hE sz_LGNeed (by decide) hO 0 rfl ht18 (l := s18.2) (m := [l22]) (.refl _) (.lstc (.eq (Encs.eLGNeed_eq l22) (.refl _)) (.lst0)) h fun l23 t23 H hO ht23 h => ?_;cbv;have h := ret_some h;subst h;exact ⟨_, t23, rfl, .e rfl (.e rfl (.e rfl (.e rfl (.z)))), rfl, ht23, hO⟩
     ·cbv;have h := ret_some h;subst h;exact ⟨_, _, rfl, ⟨t18, _, ht18, rfl, rfl, hO⟩, .e rfl (.z), rfl⟩
    ·exact .v (.slt _ (.lst0)) (.e rfl (.e rfl (.e rfl (.z))))
    ·clear hx;rintro e l H ⟨u, Lx, hu, rfl, rfl, hO⟩;cbv;have h := ret_some h;subst h;exact hK _ _ _ hO (.tup (.cons (.ro _ _) (.refl _)))
end Go.Ab

