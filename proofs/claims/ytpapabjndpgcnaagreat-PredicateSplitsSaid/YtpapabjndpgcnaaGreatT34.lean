/- GPCo5 AbG1 AbI1 -/
import Derived.Test.YtpapabjndpgcnaaGreatT33
import Derived.Test.YtpapabjndpgcnaaGreatT24
import Derived.Deep.Slices
import Derived.Carry
set_option linter.all false

namespace Go.Ab
open Go.RowKit Go.Proofs
variable [Ar] [Encs]
set_option maxRecDepth 100000
def cf38 : Cf := ⟨[2], [], [], [], [(5, 4)], []⟩
theorem c38 (N : Nat) (x_types : Int) (r : GPredicate) (h : ref27_None N x_types = some r) : CallP Tryz.prog 38 [.int .i64 x_types] (.agg [.sl (Ar.lst Encs.eLGInterval r.Sets) .ro]) := by
 unfold ref27_None at h
 refine callP_of_spec cf38 okP Tryz.func38 (by rfl) (by kernel_rfl) Tryz.call38 Tryz.ntmps38 (by rfl) (by rfl) ?_;intro E H0 K hE hK
 have hO : Own Eq H0 [] H0 := .start stable_eq rfl
 cbv;refine n_alloc hE hO fun b1 H hO => ?_;cbv;refine n_omk hE (f := Encs.eLGInterval) (by decide) (z0 := ([] : List GInterval)) ((.eq (Encs.eLGInterval_eq _) (.lit _ (lst_nil)))) hO h fun l3 q2 H hq2 h hO => ?_;cbv;refine n_ofrz hE hO hq2 0 rfl fun H hO => ?_;cbv;refine n_store hE hO 0 rfl rfl fun H hO => ?_;cbv;refine n_load hE hO 0 rfl ?_;cbv;have h := ret_some h;subst h;exact hK _ _ _ hO (.refl _)
def cf85 : Cf := ⟨[], [], [], [], [], []⟩
theorem c85 (N : Nat) (x_s : List (List Bool)) (v_f : V) (x_f : (List Bool) → Option Bool) (h_f : ∀ y1 q, x_f y1 = some q → CallVP Tryz.prog v_f [.sl (Ar.lst V.bool y1) .ro] (.bool q)) (r : Int) (h : slices_IndexFunc_Lbool_Lbool N x_s x_f = some r) : CallP Tryz.prog 85 [.sl (Ar.lst Encs.eLB x_s) .ro, v_f] (.int .i64 r) := by
 unfold slices_IndexFunc_Lbool_Lbool at h
 refine callP_of_spec cf85 okP Tryz.func85 (by rfl) (by kernel_rfl) Tryz.call85 Tryz.ntmps85 (by rfl) (by rfl) ?_;intro E H0 K hE hK
 have hO : Own Eq H0 [] H0 := .start stable_eq rfl
 cbv;refine n_ln hE ?_;cbv;obtain ⟨s2, hx, h⟩ := bind_some h;refine n_loopN cf85 hE okP (fun s1 => [(0, .v (.sl (Ar.lst Encs.eLB x_s) .ro)), (1, .v (v_f)), (7, .v (.int .i64 (Ar.len x_s))), (8, .v (.int .i64 s1))]) (fun s1 H1 => Own Eq H0 [] H1) (fun x e l H1 => match (generalizing := false) x with | .inl y => e = .exit 0 ∧ l = [] ∧ Own Eq H0 [] H1 | .inr y => e = .ret ∧ l = [(4, .v (.int .i64 y))] ∧ Own Eq H0 [] H1) (by kernel_rfl) ?_ hx ?_ hO ?_
 ·intro s1 H o hO h;clear hx;cbv;refine n_br hE h (fun hc h => ?_) (fun hc h => ?_)
  ·cbv;refine n_idx hE Encs.eLB_eq h fun x3 h => ?_;cbv;refine n_callF hE (g := fun r4 => .bool r4) h (fun r4 hx => h_f x3 r4 hx) (.refl _) fun r4 h => ?_;cbv;refine n_br hE h (fun hc h => ?_) (fun hc h => ?_)
   ·cbv;have h := ret_some h;subst h;exact ⟨_, _, rfl, ⟨rfl, rfl, hO⟩, .e rfl (.z), rfl⟩
   ·cbv;have h := ret_some h;subst h;exact ⟨_, rfl, .e rfl (.e rfl (.e rfl (.e rfl (.z)))), rfl, hO⟩
  ·cbv;have h := ret_some h;subst h;exact ⟨_, _, rfl, ⟨rfl, rfl, hO⟩, .z, rfl⟩
 ·exact .e rfl (.e rfl (.e rfl (.e rfl (.z))))
 ·clear hx
  rcases s2 with y5 | y6
  ·rintro e l H ⟨rfl, rfl, hO⟩;cbv;have h := ret_some h;subst h;exact hK _ _ _ hO (.refl _)
  ·rintro e l H ⟨rfl, rfl, hO⟩;cbv;have h := ret_some h;subst h;exact hK _ _ _ hO (.refl _)
def cf39 : Cf := ⟨[], [], [], [], [], []⟩
theorem c39 (N : Nat) (x_s : List (List Bool)) (v_f : V) (x_f : (List Bool) → Option Bool) (h_f : ∀ y1 q, x_f y1 = some q → CallVP Tryz.prog v_f [.sl (Ar.lst V.bool y1) .ro] (.bool q)) (r : Bool) (h : slices_ContainsFunc_Lbool_Lbool N x_s x_f = some r) : CallP Tryz.prog 39 [.sl (Ar.lst Encs.eLB x_s) .ro, v_f] (.bool r) := by
 unfold slices_ContainsFunc_Lbool_Lbool at h
 refine callP_of_spec cf39 okP Tryz.func39 (by rfl) (by kernel_rfl) Tryz.call39 Tryz.ntmps39 (by rfl) (by rfl) ?_;intro E H0 K hE hK
 have hO : Own Eq H0 [] H0 := .start stable_eq rfl
 cbv;refine n_call hE (g := fun r1 => .int .i64 r1) h (fun r1 hx => c85 N x_s v_f x_f h_f r1 hx) (.refl _) fun r1 h => ?_;cbv;have h := ret_some h;subst h;exact hK _ _ _ hO (.refl _)
def cf41 : Cf := ⟨[], [(6, 8)], [], [], [], []⟩
theorem c41 (N : Nat) (x_s1 : List Bool) (x_s2 : List Bool) (r : Bool) (h : slices_Equal_Lbool_bool N x_s1 x_s2 = some r) : CallP Tryz.prog 41 [.sl (Ar.lst V.bool x_s1) .ro, .sl (Ar.lst V.bool x_s2) .ro] (.bool r) := by
 unfold slices_Equal_Lbool_bool at h
 refine callP_of_spec cf41 okP Tryz.func41 (by rfl) (by kernel_rfl) Tryz.call41 Tryz.ntmps41 (by rfl) (by rfl) ?_;intro E H0 K hE hK
 have hO : Own Eq H0 [] H0 := .start stable_eq rfl
 cbv;refine n_ln hE ?_;cbv;refine n_ln hE ?_;cbv;refine n_br hE h (fun hc h => ?_) (fun hc h => ?_)
 ·cbv;have h := ret_some h;subst h;exact hK _ _ _ hO (.refl _)
 ·cbv;refine n_ln hE ?_;cbv;obtain ⟨s2, hx, h⟩ := bind_some h;refine n_loopN cf41 hE okP (fun s1 => [(0, .v (.sl (Ar.lst V.bool x_s1) .ro)), (1, .v (.sl (Ar.lst V.bool x_s2) .ro)), (12, .v (.int .i64 (Ar.len x_s1))), (13, .v (.int .i64 s1))]) (fun s1 H1 => Own Eq H0 [] H1) (fun x e l H1 => match (generalizing := false) x with | .inl y => e = .exit 0 ∧ l = [] ∧ Own Eq H0 [] H1 | .inr y => e = .ret ∧ l = [(4, .b false)] ∧ Own Eq H0 [] H1) (by kernel_rfl) ?_ hx ?_ hO ?_
  ·intro s1 H o hO h;clear hx;cbv;refine n_br hE h (fun hc h => ?_) (fun hc h => ?_)
   ·cbv;refine n_idx hE (fun _ => rfl) h fun x3 h => ?_;cbv;refine n_idx hE (fun _ => rfl) h fun x4 h => ?_;cbv;refine n_br hE h (fun hc h => ?_) (fun hc h => ?_)
    ·cbv;have h := ret_some h;subst h;exact ⟨_, _, rfl, ⟨rfl, rfl, hO⟩, .b rfl (.z), rfl⟩
    ·cbv;have h := ret_some h;subst h;exact ⟨_, rfl, .e rfl (.e rfl (.e rfl (.e rfl (.z)))), rfl, hO⟩
   ·cbv;have h := ret_some h;subst h;exact ⟨_, _, rfl, ⟨rfl, rfl, hO⟩, .z, rfl⟩
  ·exact .e rfl (.e rfl (.e rfl (.e rfl (.z))))
  ·clear hx
   rcases s2 with y5 | y6
   ·rintro e l H ⟨rfl, rfl, hO⟩;cbv;have h := ret_some h;subst h;exact hK _ _ _ hO (.refl _)
   ·rintro e l H ⟨rfl, rfl, hO⟩;cbv;have h := ret_some h;subst h;exact hK _ _ _ hO (.refl _)
def cf40 : Cf := ⟨[], [], [], [], [], []⟩
theorem c40 (N : Nat) (x_w : List Bool) (x_1 : List Bool) (r : Bool) (h : law27_PredicateCovers_1 N x_w x_1 = some r) : CallP Tryz.prog 40 [.sl (Ar.lst V.bool x_w) .ro, .eref [.sl (Ar.lst V.bool x_1) .ro] 0] (.bool r) := by
 unfold law27_PredicateCovers_1 at h
 refine callP_of_spec cf40 okP Tryz.func40 (by rfl) (by kernel_rfl) Tryz.call40 Tryz.ntmps40 (by rfl) (by rfl) ?_;intro E H0 K hE hK
 have hO : Own Eq H0 [] H0 := .start stable_eq rfl
 cbv;refine n_call hE (g := fun r1 => .bool r1) h (fun r1 hx => c41 N x_w x_1 r1 hx) (.refl _) fun r1 h => ?_;cbv;have h := ret_some h;subst h;exact hK _ _ _ hO (.refl _)
def cf7 : Cf := ⟨[6, 18], [(33, 3)], [], [], [(141, 18)], []⟩
theorem c7 (N : Nat) (x_l : List GPredicate) (r : Bool) (h : law27_PredicateCovers N x_l = some r) : CallP Tryz.prog 7 [.sl (Ar.lst Encs.eGPredicate x_l) .ro] (.bool r) := by
 unfold law27_PredicateCovers at h
 refine callP_of_spec cf7 okP Tryz.func7 (by rfl) (by kernel_rfl) Tryz.call7 Tryz.ntmps7 (by rfl) (by rfl) ?_;intro E H0 K hE hK
 have hO : Own Eq H0 [] H0 := .start stable_eq rfl
 cbv;refine n_ln hE ?_;cbv;refine n_ln hE ?_;cbv;refine n_br hE h (fun hc h => ?_) (fun hc h => ?_)
 ·cbv;refine n_call hE (g := fun r1 => .bool r1) h (fun r1 hx => c14 N  r1 hx) (.refl _) fun r1 h => ?_;cbv;have h := ret_some h;subst h;exact hK _ _ _ hO (.refl _)
 ·cbv;refine n_call hE (g := fun r2 => .bool r2) h (fun r2 hx => c35 N x_l r2 hx) (.refl _) fun r2 h => ?_;cbv;refine n_br hE h (fun hc h => ?_) (fun hc h => ?_)
  ·cbv;refine n_call hE (g := fun r3 => .bool r3) h (fun r3 hx => c14 N  r3 hx) (.refl _) fun r3 h => ?_;cbv;have h := ret_some h;subst h;exact hK _ _ _ hO (.refl _)
  ·cbv;refine n_idx hE Encs.eGPredicate_eq h fun x4 h => ?_;cbv;refine n_ln hE ?_;cbv;refine n_call hE (g := fun r5 => .tup [.sl (Ar.lst Encs.eGPredicate r5.1) .ro, .int .i64 r5.2]) h (fun r5 hx => c15 N (Ar.len x4.Sets) x_l r5 hx) (.refl _) fun r5 h => ?_;cbv;refine n_call hE (g := fun r6 => .agg [.sl (Ar.lst Encs.eLGInterval r6.Sets) .ro]) h (fun r6 hx => c38 N (Ar.len x4.Sets) r6 hx) (.refl _) fun r6 h => ?_;cbv;refine n_alloc hE hO fun b7 H hO => ?_;cbv;refine n_store hE hO 0 rfl rfl fun H hO => ?_;cbv;refine n_ln hE ?_;cbv;refine n_br hE h (fun hc h => ?_) (fun hc h => ?_)
   ·cbv;have h := ret_some h;subst h;exact hK _ _ _ hO (.refl _)
   ·cbv;refine n_ln hE ?_;cbv;replace hO := hO.tl0 (t := .nil) rfl;obtain ⟨s10, hx, h⟩ := bind_some h;refine n_loopG cf7 hE okP (γ := Tail) (fun s8 g => [(0, .v (.sl (Ar.lst Encs.eGPredicate x_l) .ro)), (3, .v (.int .i64 (Ar.len x4.Sets))), (6, .v (.ref b7 0)), (7, .v (.sl (Ar.lst Encs.eLB s8.1) g)), (59, .v (.sl (Ar.lst Encs.eGPredicate r5.1) .ro)), (60, .v (.int .i64 (Ar.len r5.1))), (61, .v (.int .i64 s8.2.1))]) (fun s8 g H1 => Appn g ∧ Own Eq H0 [.tl g, .blk b7 (.cells [.sl (Ar.lst Encs.eLGInterval s8.2.2.Sets) .ro])] H1) (fun x e l H1 => match (generalizing := false) x with | .inl y => ∃ u1 : Tail, Appn u1 ∧ e = .exit 0 ∧ l = [(3, .v (.int .i64 (Ar.len x4.Sets))), (6, .v (.ref b7 0))] ∧ Own Eq H0 [.tl u1, .blk b7 (.cells [.sl (Ar.lst Encs.eLGInterval y.Sets) .ro])] H1 | .inr y => ∃ u1 : Tail, Appn u1 ∧ e = .ret ∧ l = [(2, .b false)] ∧ Own Eq H0 [.tl u1, .blk b7 (.cells [.sl (Ar.lst Encs.eLGInterval y.Sets) .ro])] H1) (by kernel_rfl) ?_ .nil hx ?_ ?_ ?_
    ·rintro s8 t9 H o ⟨ht9, hO⟩ h;clear hx;cbv;refine n_br hE h (fun hc h => ?_) (fun hc h => ?_)
     ·cbv;refine n_idx hE Encs.eGPredicate_eq h fun x11 h => ?_;cbv;refine n_load hE hO 1 rfl ?_;cbv;refine n_call hE (g := fun r12 => .tup [.agg [.sl (Ar.lst Encs.eLGInterval r12.1.Sets) .ro], .int .i64 r12.2]) h (fun r12 hx => c18 N s8.2.2 x11 r12 hx) (.refl _) fun r12 h => ?_;cbv;refine n_call hE (g := fun r13 => .tup [.bool r13.1, .int .i64 r13.2]) h (fun r13 hx => c29 N r12.1 r13 hx) (.refl _) fun r13 h => ?_;cbv;refine n_call hE (g := fun r14 => .tup [.bool r14.1, .int .i64 r14.2]) h (fun r14 hx => c29 N x11 r14 hx) (.refl _) fun r14 h => ?_;cbv;refine n_load hE hO 1 rfl ?_;cbv;refine n_call hE (g := fun r15 => .tup [.agg [.sl (Ar.lst Encs.eLGInterval r15.1.Sets) .ro], .int .i64 r15.2]) h (fun r15 hx => c20 N s8.2.2 x11 r15 hx) (.refl _) fun r15 h => ?_;cbv;refine n_br hE h (fun hc h => ?_) (fun hc h => ?_)
      ·cbv;have h := ret_some h;subst h;exact ⟨_, _, rfl, ⟨t9, ht9, rfl, rfl, hO⟩, .b rfl (.z), rfl⟩
      ·cbv;refine n_store hE hO 1 rfl rfl fun H hO => ?_;cbv;refine n_alloc hE hO fun b16 H hO => ?_;cbv;refine n_ln hE ?_;cbv;replace hO := hO.cast (L' := [.blk b16 (.cells [.sl (Ar.lst V.bool ([])) .nil]), .tl t9, .blk b7 (.cells [.sl (Ar.lst Encs.eLGInterval r15.1.Sets) .ro])]) (by first | (simp only [← lst_nil]; done) | (simp only [← lst_nil]; rfl));replace hO := hO.tl0 (t := .nil) rfl;obtain ⟨s19, hx, h⟩ := bind_some h;refine n_loopG cf7 hE okP (γ := Tail) (fun s17 g => [(0, .v (.sl (Ar.lst Encs.eGPredicate x_l) .ro)), (3, .v (.int .i64 (Ar.len x4.Sets))), (6, .v (.ref b7 0)), (7, .v (.sl (Ar.lst Encs.eLB s8.1) t9)), (9, .v (.eref [.sl (Ar.lst Encs.eLGInterval x11.Sets) .ro] 0)), (18, .v (.ref b16 0)), (59, .v (.sl (Ar.lst Encs.eGPredicate r5.1) .ro)), (60, .v (.int .i64 (Ar.len r5.1))), (61, .v (.int .i64 s8.2.1)), (103, .v (.sl (Ar.lst Encs.eGPredicate x_l) .ro)), (104, .v (.int .i64 (Ar.len x_l))), (105, .v (.int .i64 s17.1))]) (fun s17 g H1 => Appn g ∧ Own Eq H0 [.tl g, .blk b16 (.cells [.sl (Ar.lst V.bool s17.2) g]), .tl t9, .blk b7 (.cells [.sl (Ar.lst Encs.eLGInterval r15.1.Sets) .ro])] H1) (fun x e l H1 => match (generalizing := false) x with | .inl y => ∃ u1 : Tail, Appn u1 ∧ e = .exit 2 ∧ l = [(0, .v (.sl (Ar.lst Encs.eGPredicate x_l) .ro)), (3, .v (.int .i64 (Ar.len x4.Sets))), (6, .v (.ref b7 0)), (7, .v (.sl (Ar.lst Encs.eLB s8.1) t9)), (18, .v (.ref b16 0)), (59, .v (.sl (Ar.lst Encs.eGPredicate r5.1) .ro)), (60, .v (.int .i64 (Ar.len r5.1))), (61, .v (.int .i64 s8.2.1))] ∧ Own Eq H0 [.tl u1, .blk b16 (.cells [.sl (Ar.lst V.bool y) u1]), .tl t9, .blk b7 (.cells [.sl (Ar.lst Encs.eLGInterval r15.1.Sets) .ro])] H1 | .inr y => ∃ u1 : Tail, Appn u1 ∧ e = .ret ∧ l = [(2, .b false)] ∧ Own Eq H0 [.tl u1, .blk b16 (.cells [.sl (Ar.lst V.bool y) u1]), .tl t9, .blk b7 (.cells [.sl (Ar.lst Encs.eLGInterval r15.1.Sets) .ro])] H1) (by kernel_rfl) ?_ .nil hx ?_ ?_ ?_
       ·rintro s17 t18 H o ⟨ht18, hO⟩ h;clear hx;cbv;refine n_br hE h (fun hc h => ?_) (fun hc h => ?_)
        ·cbv;refine n_idx hE Encs.eGPredicate_eq h fun x20 h => ?_;cbv;refine n_call hE (g := fun r21 => .tup [.agg [.sl (Ar.lst Encs.eLGInterval r21.1.Sets) .ro], .int .i64 r21.2]) h (fun r21 hx => c18 N x11 x20 r21 hx) (.refl _) fun r21 h => ?_;cbv;refine n_call hE (g := fun r22 => .tup [.bool r22.1, .int .i64 r22.2]) h (fun r22 hx => c29 N r21.1 r22 hx) (.refl _) fun r22 h => ?_;cbv;refine n_br hE h (fun hc h => ?_) (fun hc h => ?_)
         ·cbv;have h := ret_some h;subst h;exact ⟨_, _, rfl, ⟨t18, ht18, rfl, rfl, hO⟩, .b rfl (.z), rfl⟩
         ·cbv;refine n_br hE h (fun hc h => ?_) (fun hc h => ?_)
          ·cbv;refine n_call hE (g := fun r23 => .bool r23) h (fun r23 hx => c24 N r21.1 x11 r23 hx) (.refl _) fun r23 h => ?_;cbv;refine n_br hE h (fun hc h => ?_) (fun hc h => ?_)
           ·cbv;have h := ret_some h;subst h;exact ⟨_, _, rfl, ⟨t18, ht18, rfl, rfl, hO⟩, .b rfl (.z), rfl⟩
           ·cbv;refine n_load hE hO 1 rfl ?_;cbv;refine n_appn (f := V.bool) hE (fun _ => rfl) (by decide) hO 0 rfl ht18 (l := s17.2) (m := [Ar.nt r22.1]) (.refl _) (.lstc (.refl _) (.lst0)) h fun l25 t24 H hO ht24 h => ?_;cbv;refine n_store hE hO 1 rfl rfl fun H hO => ?_;cbv;have h := ret_some h;subst h;exact ⟨_, t24, rfl, .e rfl (.e rfl (.e rfl (.e rfl (.e rfl (.e rfl (.e rfl (.e rfl (.e rfl (.e rfl (.e rfl (.e rfl (.z)))))))))))), rfl, ht24, hO⟩
          ·cbv;refine n_load hE hO 1 rfl ?_;cbv;refine n_appn (f := V.bool) hE (fun _ => rfl) (by decide) hO 0 rfl ht18 (l := s17.2) (m := [Ar.nt r22.1]) (.refl _) (.lstc (.refl _) (.lst0)) h fun l27 t26 H hO ht26 h => ?_;cbv;refine n_store hE hO 1 rfl rfl fun H hO => ?_;cbv;have h := ret_some h;subst h;exact ⟨_, t26, rfl, .e rfl (.e rfl (.e rfl (.e rfl (.e rfl (.e rfl (.e rfl (.e rfl (.e rfl (.e rfl (.e rfl (.e rfl (.z)))))))))))), rfl, ht26, hO⟩
        ·cbv;have h := ret_some h;subst h;exact ⟨_, _, rfl, ⟨t18, ht18, rfl, rfl, hO⟩, .e rfl (.e rfl (.e rfl (.e rfl (.e rfl (.e rfl (.e rfl (.e rfl (.z)))))))), rfl⟩
       ·exact .e rfl (.e rfl (.e rfl (.e rfl (.e rfl (.e rfl (.e rfl (.e rfl (.e rfl (.e rfl (.e rfl (.e rfl (.z))))))))))))
       ·exact ⟨trivial, hO⟩
       ·clear hx
        rcases s19 with y28 | y33
        ·rintro e l H ⟨t29, ht29, rfl, rfl, hO⟩;cbv;refine n_frzL hE hO 1 rfl (.cons (.ro _ _) (.refl _)) fun H hO => ?_;cbv;refine n_call hE (g := fun r30 => .bool r30) h (fun r30 hx => c39 N s8.1 (.func (.func 40) [] [.eref [.sl (Ar.lst V.bool y28) .ro] 0]) (fun y1 => law27_PredicateCovers_1 N y1 y28) (fun y1 r hx => CallP.value (F := []) (C := [.eref [.sl (Ar.lst V.bool y28) .ro] 0]) (c40 N y1 y28 r hx)) r30 hx) (.cons (.ro _ _) (.refl _)) fun r30 h => ?_;cbv;refine n_br hE h (fun hc h => ?_) (fun hc h => ?_)
         ·cbv;have h := ret_some h;subst h;exact ⟨_, _, rfl, ⟨t9, ht9, rfl, rfl, hO.tail⟩, .b rfl (.z), rfl⟩
         ·cbv;refine n_appn (f := Encs.eLB) hE sz_LB (by decide) hO 1 rfl ht9 (l := s8.1) (m := [y28]) (.refl _) (.lstc (.eq (Encs.eLB_eq y28) (.refl _)) (.lst0)) h fun l32 t31 H hO ht31 h => ?_;cbv;have h := ret_some h;subst h;exact ⟨_, t31, rfl, .e rfl (.e rfl (.e rfl (.e rfl (.e rfl (.e rfl (.e rfl (.z))))))), rfl, ht31, hO.tail⟩
        ·rintro e l H ⟨t34, ht34, rfl, rfl, hO⟩;cbv;have h := ret_some h;subst h;exact ⟨_, _, rfl, ⟨t9, ht9, rfl, rfl, hO.tail.tail⟩, .b rfl (.z), rfl⟩
     ·cbv;have h := ret_some h;subst h;exact ⟨_, _, rfl, ⟨t9, ht9, rfl, rfl, hO⟩, .e rfl (.e rfl (.z)), rfl⟩
    ·exact .e rfl (.e rfl (.e rfl (.v (.slt _ (.lst0)) (.e rfl (.e rfl (.e rfl (.z)))))))
    ·exact ⟨trivial, hO⟩
    ·clear hx
     rcases s10 with y35 | y40
     ·rintro e l H ⟨t36, ht36, rfl, rfl, hO⟩;cbv;refine n_load hE hO 1 rfl ?_;cbv;refine n_pcall hE (g := fun r37 => .agg [.sl (Ar.lst Encs.eLGInterval r37.Sets) .ro]) h (fun r37 hx => c42 N (Ar.len x4.Sets) r37 hx) (.refl _) fun r37 h => ?_;cbv;refine n_call hE (g := fun r38 => .bool r38) h (fun r38 hx => c24 N y35 r37 r38 hx) (.refl _) fun r38 h => ?_;cbv;refine n_br hE h (fun hc h => ?_) (fun hc h => ?_)
      ·cbv;refine n_call hE (g := fun r39 => .bool r39) h (fun r39 hx => c14 N  r39 hx) (.refl _) fun r39 h => ?_;cbv;have h := ret_some h;subst h;exact hK _ _ _ hO (.refl _)
      ·cbv;have h := ret_some h;subst h;exact hK _ _ _ hO (.refl _)
     ·rintro e l H ⟨t41, ht41, rfl, rfl, hO⟩;cbv;have h := ret_some h;subst h;exact hK _ _ _ hO (.refl _)
end Go.Ab

namespace Go.Ab
open Go.RowKit Go.ChangeShapes Go.WideShapes
variable [Glob]
def g0 (W : World) : Gh := ⟨fun _ => none, fun _ => ⟨0, 0, 0⟩, fun _ => none, fun b o => ∃ v, W.cell? ⟨b, o, none⟩ = some v, 0, W.heap.size⟩
theorem rl0 {W : World} (hg : ∀ n, VR (g0 W) W (.pointer (some ⟨n, 0, none⟩)) (Glob.gl n)) : Rl (g0 W) (fun _ => none) W :=
 ⟨fun id b h => (by cases h), fun id id' b h => (by simp [Gh.at] at h), fun b o h => h, fun id _ => ⟨rfl, rfl, rfl⟩, Nat.le_refl _, hg⟩
def RowV (g : Gh) (w : World) (cs : List Value) (xs : List V) : Prop :=
 cs.length = xs.length ∧ ∀ i, i < xs.length → (cs.getD i undef).oneCell' = true ∧ VR g w (cs.getD i undef) (xs.getD i .bad)
theorem RowV.nil (g : Gh) (w : World) : RowV g w [] [] := ⟨rfl, fun i hi => by simp at hi⟩
theorem RowV.one {g : Gh} {w : World} {v : Value} {x : V} (h1 : v.oneCell' = true) (h : VR g w v x) : RowV g w [v] [x] := by
 refine ⟨rfl, fun i hi => ?_⟩
 have : i = 0 := by simpa using hi
 subst this
 exact ⟨h1, h⟩
theorem RowV.append {g : Gh} {w : World} {cs ds : List Value} {xs ys : List V} (h : RowV g w cs xs) (k : RowV g w ds ys) : RowV g w (cs ++ ds) (xs ++ ys) := by
 refine ⟨by simp [h.1, k.1], fun i hi => ?_⟩
 have hl := h.1
 simp only [List.length_append] at hi
 by_cases hx : i < xs.length
 ·have e1 : (cs ++ ds).getD i undef = cs.getD i undef := by simp [List.getD, List.getElem?_append_left (show i < cs.length by omega)]
  have e2 : (xs ++ ys).getD i .bad = xs.getD i .bad := by simp [List.getD, List.getElem?_append_left hx]
  rw [e1, e2]; exact h.2 i hx
 ·have e1 : (cs ++ ds).getD i undef = ds.getD (i - xs.length) undef := by simp [List.getD, List.getElem?_append_right (show cs.length ≤ i by omega), hl]
  have e2 : (xs ++ ys).getD i .bad = ys.getD (i - xs.length) .bad := by simp [List.getD, List.getElem?_append_right (show xs.length ≤ i by omega)]
  rw [e1, e2]; exact k.2 _ (by omega)
theorem RowV.join {g : Gh} {w : World} {cs : List Value} {xs ys : List V} {a n m : Nat} (h : RowV g w ((cs.drop a).take n) xs) (k : RowV g w ((cs.drop (a + n)).take m) ys) : RowV g w ((cs.drop a).take (n + m)) (xs ++ ys) := by
 have := h.append k
 rwa [show (cs.drop (a + n)) = (cs.drop a).drop n by rw [List.drop_drop], ← List.take_add] at this
theorem RowV.agg {g : Gh} {w : World} {cs : Array Value} {xs : List V} (h : RowV g w cs.toList xs) : VR g w (.agg cs) (.agg xs) := by
 refine .agg (by simpa using h.1) (fun i hi => ?_) fun i hi => ?_
 ·have := (h.2 i hi).1
  simpa [List.getD, Array.getD_eq_getD_getElem?] using this
 ·have := (h.2 i hi).2
  simpa [List.getD, Array.getD_eq_getD_getElem?] using this
section
variable {H α : Type} {enc : TypeId × Value → H} {P : Program} {W : World} {base : Nat} {spare : Nat → Bool} {held : Bool} {t e : TypeId} {n : Nat}
def Opens (enc : TypeId × Value → H) (P : Program) (W : World) (base : Nat) (spare : Nat → Bool) (held : Bool) (t : TypeId) (f : α → V) (R : α → DataW H → Prop) (n : Nat) : Prop :=
 ∀ cs x, DataW.trod enc P W base spare held n t cs = some x → ∃ a, RowV (g0 W) W cs (f a).cells ∧ R a x.1
theorem opens_int {k : IntKind} (ht : P.underlying t = some (.int k)) : Opens enc P W base spare held t (V.int k) (fun a d => d = .lit (.int k a)) n := by
 intro cs x h
 obtain ⟨a, rfl, rfl, _⟩ := DataW.trod_int ht h
 exact ⟨a, .one rfl (.int _ _), rfl⟩
def RL (R : α → DataW H → Prop) (l : List α) (ds : List (DataW H)) : Prop := l.length = ds.length ∧ ∀ (i : Nat) a d, l[i]? = some a → ds[i]? = some d → R a d
def RS (R : α → DataW H → Prop) (l : List α) (d : DataW H) : Prop := l.length ≤ maxLen ∧ ((d = .nil ∧ l = []) ∨ ∃ es sp, d = .slice es sp ∧ RL R l es)
theorem opens_slice {f : α → V} {R : α → DataW H → Prop} (ht : P.underlying t = some (.slice e)) (hc : 0 < P.cellsOf e) (he : Opens enc P W base spare held e f R n) :
 Opens enc P W base spare held t (fun l : List α => .sl (l.map f) .ro) (RS R) (n + 1) := by
 intro cs x h
 rcases DataW.trod_slice ht h with ⟨rfl, rfl⟩ | ⟨a, len, cap, elems, rest, n', hn, rfl, rfl, hb, hl, hm, hlen, hel, hsp, hns⟩
 ·exact ⟨[], .one rfl (.sl0 rfl), Nat.zero_le _, .inl ⟨rfl, rfl⟩⟩
 have hn' : n' = n := by omega
 subst hn'
 rcases Nat.eq_zero_or_pos len with h0 | h0
 ·subst h0
  have : elems = [] := List.length_eq_zero_iff.1 hlen
  subst this
  exact ⟨[], .one rfl (.sle (.inl rfl)), Nat.zero_le _, .inr ⟨_, _, rfl, rfl, fun i a d hi => by simp at hi⟩⟩
 have one : ∀ i, i < len → ∃ cs' y b, W.cells? base (a.add (i * P.cellsOf e)) (P.cellsOf e) = some cs' ∧ elems[i]? = some y ∧ RowV (g0 W) W cs' (f b).cells ∧ R b y.1 := by
  intro i hi
  have h1 := hel i hi
  have h2 : elems[i]? = some (elems[i]'(by omega)) := by simp [hlen, hi]
  rw [h2] at h1
  obtain ⟨cs', hcs, hy⟩ := Option.bind_eq_some_iff.1 h1
  obtain ⟨b, hr, hR⟩ := he cs' _ hy
  exact ⟨cs', _, b, hcs, h2, hr, hR⟩
 obtain ⟨_, _, b0, _⟩ := one 0 h0
 haveI : Inhabited α := ⟨b0⟩
 obtain ⟨A, hA⟩ := Deep.choose_lt (α := α) (p := fun i b => ∃ cs' y, W.cells? base (a.add (i * P.cellsOf e)) (P.cellsOf e) = some cs' ∧ elems[i]? = some y ∧ RowV (g0 W) W cs' (f b).cells ∧ R b y.1)
  (fun i hi => let ⟨cs', y, b, h1, h2, h3, h4⟩ := one i hi; ⟨b, cs', y, h1, h2, h3, h4⟩)
 have hspot : a.spot = none := by
  obtain ⟨cs', y, h1, _, _, _⟩ := hA 0 h0
  obtain ⟨_, hcl, hcell⟩ := World.cells?_some h1
  have h2 := hcell 0 hc
  have e0 : (a.add (0 * P.cellsOf e)).add 0 = a := by simp [Addr.add]
  rw [e0] at h2
  have h3 : cs'[0]? = some (cs'[0]'(by omega)) := by simp [hcl, hc]
  rw [h3] at h2
  unfold World.cell? at h2
  split at h2
  ·split at h2
   ·cases h2
   ·rename_i hs; simpa using hs
  ·cases h2
 obtain ⟨b, o, s⟩ := a
 simp only at hspot
 subst hspot
 let l := (List.range len).map A
 have hll : l.length = len := by simp [l]
 have hg : ∀ i, i < len → (l.map f).getD i .bad = f (A i) := fun i hi => by simp [l, List.getD, hi]
 have cell : ∀ i j, i < len → j < P.cellsOf e → ∃ v, W.cell? ⟨b, o + i * P.cellsOf e + j, none⟩ = some v ∧ v.oneCell' = true ∧ VR (g0 W) W v ((f (A i)).cells.getD j .bad) := by
  intro i j hi hj
  obtain ⟨cs', y, h1, _, hr, _⟩ := hA i hi
  obtain ⟨_, hcl, hcell⟩ := World.cells?_some h1
  have h2 := hcell j hj
  rw [addr_add, addr_add] at h2
  have h3 : cs'[j]? = some (cs'.getD j undef) := by simp [List.getD, hcl, hj]
  rw [h3] at h2
  have := hr.2 j (by rw [← hr.1, hcl]; exact hj)
  exact ⟨_, h2, this.1, this.2⟩
 refine ⟨l, .one rfl ?_, by omega, .inr ⟨_, _, rfl, by simp [hll, hlen], fun i a' d hi hd => ?_⟩⟩
 ·have hz : ∀ i, i < len → ((l.map f).getD i .bad).cells.length = P.cellsOf e := fun i hi => by
   obtain ⟨cs', y, h1, _, hr, _⟩ := hA i hi
   obtain ⟨_, hcl, _⟩ := World.cells?_some h1
   rw [hg i hi, ← hr.1, hcl]
  refine .sl (sz := P.cellsOf e) (fun i j => (W.cell? ⟨b, o + i * P.cellsOf e + j, none⟩).getD undef) (by simp [hll]) hl hz (fun i j hi hj => ?_) (fun i j hi hj => ?_) (fun i j hi hj => ?_) (fun i j hi hj => ?_) trivial
  ·obtain ⟨v, h1, _⟩ := cell i j hi hj; exact ⟨v, h1⟩
  ·obtain ⟨v, h1, _⟩ := cell i j hi hj; rw [h1]; rfl
  ·obtain ⟨v, h1, h2, _⟩ := cell i j hi hj; rw [h1]; exact h2
  ·obtain ⟨v, h1, h2, h3⟩ := cell i j hi hj; rw [h1, hg i hi]; exact h3
 ·have hi' : i < len := by
   rcases Nat.lt_or_ge i l.length with h | h
   ·omega
   ·rw [List.getElem?_eq_none h] at hi; cases hi
  obtain ⟨cs', y, h1, h2, h3, h4⟩ := hA i hi'
  have e1 : a' = A i := by simp [l, hi'] at hi; exact hi.symm
  have e2 : d = y.1 := by simp [h2] at hd; exact hd.symm
  rw [e1, e2]; exact h4
theorem field_some {fs : Array Field} {xs : List (DataW H × List MemPlace)} {cs : List Value} {n : Nat} (hl : xs.length = fs.size)
 (hf : ∀ (i : Nat) (f : Field), fs[i]? = some f → DataW.trod enc P W base spare held n f.type ((cs.drop f.offset).take (P.cellsOf f.type)) = xs[i]?) (i : Nat) {f : Field} (h : fs[i]? = some f) :
 ∃ y, xs[i]? = some y ∧ DataW.trod enc P W base spare held n f.type ((cs.drop f.offset).take (P.cellsOf f.type)) = some y := by
 have hi : i < fs.size := by
  rcases Nat.lt_or_ge i fs.size with h' | h'
  ·exact h'
  ·rw [Array.getElem?_eq_none h'] at h; cases h
 have h1 : xs[i]? = some (xs[i]'(by omega)) := by simp [hl, hi]
 exact ⟨_, h1, by rw [hf i f h, h1]⟩
end
end Go.Ab

namespace Go.Ab
noncomputable instance arInst : Ar where
 cmp := cmpI
 cmp_eq := fun _ _ _ => rfl
 ar := arI
 ar_eq := fun _ _ _ _ => rfl
 sh := shI
 sh_eq := fun _ _ _ _ => rfl
 neg := fun k n => k.wrap (0 - n)
 neg_eq := fun _ _ => rfl
 wr := fun k n => k.wrap n
 wr_eq := fun _ _ => rfl
 scmp := cmpS
 scmp_eq := fun _ _ _ => rfl
 cat := fun a b => a ++ b
 cat_eq := fun _ _ => rfl
 slen := fun s => s.size
 slen_eq := fun _ => rfl
 sat := fun s i => match s[i.toNat]? with | some b => (b.toNat : Int) | none => 0
 sat_eq := fun _ _ => rfl
 beq := fun a b => a == b
 beq_eq := fun _ _ => rfl
 nt := fun a => !a
 nt_eq := fun _ => rfl
 an := fun a b => a && b
 an_eq := fun _ _ => rfl
 or := fun a b => a || b
 or_eq := fun _ _ => rfl
 pk := fun c a b => if c then a else b
 pk_eq := fun _ _ _ => rfl
 mx := fun a b => if a < b then b else a
 mx_eq := fun _ _ => rfl
 mn := fun a b => if b < a then b else a
 mn_eq := fun _ _ => rfl
 ofs := fun a b => a + b
 ofs_eq := fun _ _ => rfl
 ofN := fun n => n
 ofN_eq := fun _ => rfl
 len := fun l => l.length
 len_eq := fun _ => rfl
 lst := fun f l => l.map f
 lst_eq := fun _ _ => rfl
end Go.Ab

