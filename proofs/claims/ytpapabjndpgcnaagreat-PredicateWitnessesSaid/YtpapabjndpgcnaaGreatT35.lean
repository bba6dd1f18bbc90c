/- GPCo6 -/
import Derived.Test.YtpapabjndpgcnaaGreatT34
set_option linter.all false

namespace Go.Ab
open Go.RowKit Go.Proofs
variable [Ar] [Encs]
set_option maxRecDepth 100000
def cf49 : Cf := ⟨[], [(5, 13)], [], [], [], []⟩
theorem c49 (N : Nat) (x_l : List GInterval) (r : Int) (h : ref02_Count N x_l = some r) : CallP Tryz.prog 49 [.sl (Ar.lst Encs.eGInterval x_l) .ro] (.int .i64 r) := by
 unfold ref02_Count at h
 refine callP_of_spec cf49 okP Tryz.func49 (by rfl) (by kernel_rfl) Tryz.call49 Tryz.ntmps49 (by rfl) (by rfl) ?_;intro E H0 K hE hK
 have hO : Own Eq H0 [] H0 := .start stable_eq rfl
 cbv;obtain ⟨s2, hx, h⟩ := bind_some h;refine n_loopN cf49 hE okP (fun s1 => [(0, .v (.sl (Ar.lst Encs.eGInterval x_l) .ro)), (3, .v (.int .i64 s1.1)), (4, .v (.int .i64 s1.2))]) (fun s1 H1 => Own Eq H0 [] H1) (fun x e l H1 => e = .exit 0 ∧ l = [(3, .v (.int .i64 x))] ∧ Own Eq H0 [] H1) (by kernel_rfl) ?_ hx ?_ hO ?_
 ·intro s1 H o hO h;clear hx;cbv;refine n_ln hE ?_;cbv;refine n_br hE h (fun hc h => ?_) (fun hc h => ?_)
  ·cbv;refine n_idx hE Encs.eGInterval_eq h fun x3 h => ?_;cbv;refine n_idx hE Encs.eGInterval_eq h fun x4 h => ?_;cbv;have h := ret_some h;subst h;exact ⟨_, rfl, .e rfl (.e rfl (.e rfl (.z))), rfl, hO⟩
  ·cbv;have h := ret_some h;subst h;exact ⟨_, _, rfl, ⟨rfl, rfl, hO⟩, .e rfl (.z), rfl⟩
 ·exact .e rfl (.e rfl (.e rfl (.z)))
 ·clear hx;rintro e l H ⟨rfl, rfl, hO⟩;cbv;have h := ret_some h;subst h;exact hK _ _ _ hO (.refl _)
def cfo69 : Cf := ⟨[4, 6], [], [], [], [(10, 100000006)], []⟩
theorem o69 (N : Nat) (x_types : Int) (v_set : V) (x_set : Int → Option ((List GInterval) × Int)) (h_set : ∀ y1 q, x_set y1 = some q → CallVP Tryz.prog v_set [.int .i64 y1] (.tup [.sl (Ar.lst Encs.eGInterval q.1) .ro, .int .i64 q.2])) (r : (GPredicate × Int)) (h : predicate_each_o N x_types x_set = some r) : CallG Tryz.prog 69 [.int .i64 x_types, v_set] 1 (Ar.lst Encs.eLGInterval r.1.Sets) (fun o => .tup [.agg [o], .int .i64 r.2]) := by
 unfold predicate_each_o at h
 intro H0;refine callG_run (T := TT) (F := H0) (mk := fun o => .tup [.agg [o], .int .i64 r.2]) ((HoldOk.tup [.bad, .int .i64 r.2] 0 (by simp)).comp (HoldOk.agg [.bad] 0 (by simp))) cfo69 okP Tryz.func69 (by rfl) (by kernel_rfl) Tryz.call69 Tryz.ntmps69 (by rfl) (by rfl) ?_;intro E K hE hK hN
 have hO : Own Eq H0 [] H0 := .start stable_eq rfl
 cbv;refine n_alloc hE hO fun b1 H hO => ?_;cbv;refine n_alloc hE hO fun b2 H hO => ?_;cbv;refine n_adoptIn (f0 := Encs.eLGInterval) (esz := 1) hE hO 0 rfl rfl fun q3 H hq3 hO => ?_;cbv;obtain ⟨s6, hx, h⟩ := bind_some h;refine n_loopG cfo69 hE okP (γ := OG) (fun s4 g => [(1, .v (v_set)), (4, .v (.ref b1 0)), (6, .v (.ref b2 0)), (10, .v (.int .i64 x_types)), (11, .v (.int .i64 s4.1))]) (fun s4 g H1 => Okn g (Ar.len s4.2) ∧ Own Eq H0 [.blk g.id (.arr 1 (g.pre ++ Ar.lst Encs.eLGInterval s4.2 ++ g.rest)), .blk b2 (.cells [.own g.id g.lo g.n]), .blk b1 (.cells [.sl [] .nil])] H1) (fun x e l H1 => match (generalizing := false) x with | .inl y => ∃ u1 : OG, Okn u1 (Ar.len y) ∧ e = .exit 0 ∧ l = [(4, .v (.ref b1 0)), (6, .v (.ref b2 0))] ∧ Own Eq H0 [.blk u1.id (.arr 1 (u1.pre ++ Ar.lst Encs.eLGInterval y ++ u1.rest)), .blk b2 (.cells [.own u1.id u1.lo u1.n]), .blk b1 (.cells [.sl [] .nil])] H1 | .inr y => ∃ u1 : OG, Okn u1 (Ar.len y.2) ∧ e = .ret ∧ l = [(4, .v (.ref b1 0)), (5, .v (.int .i64 y.1))] ∧ Own Eq H0 [.blk u1.id (.arr 1 (u1.pre ++ Ar.lst Encs.eLGInterval y.2 ++ u1.rest)), .blk b2 (.cells [.own u1.id u1.lo u1.n]), .blk b1 (.cells [.sl [] .nil])] H1) (by kernel_rfl) ?_ q3 hx ?_ ?_ ?_
 ·rintro s4 q5 H o ⟨hq5, hO⟩ h;clear hx;cbv;refine n_br hE h (fun hc h => ?_) (fun hc h => ?_)
  ·cbv;refine n_callF hE (g := fun r7 => .tup [.sl (Ar.lst Encs.eGInterval r7.1) .ro, .int .i64 r7.2]) h (fun r7 hx => h_set s4.1 r7 hx) (.refl _) fun r7 h => ?_;cbv;refine n_br hE h (fun hc h => ?_) (fun hc h => ?_)
   ·cbv;refine n_store hE hO 2 rfl rfl fun H hO => ?_;cbv;have h := ret_some h;subst h;exact ⟨_, _, rfl, ⟨q5, hq5, rfl, rfl, hO⟩, .e rfl (.e rfl (.z)), rfl⟩
   ·cbv;refine n_load hE hO 1 rfl ?_;cbv;refine n_oapp (f := Encs.eLGInterval) hE sz_LGInterval (by decide) hO hq5 0 rfl (m := [r7.1]) (src_sl (f := Encs.eLGInterval) hE sz_LGInterval (.lstc (.eq (Encs.eLGInterval_eq r7.1) (.refl _)) (.lst0))) h fun l9 q8 H hq8 hO h => ?_;cbv;refine n_store hE hO 1 rfl rfl fun H hO => ?_;cbv;have h := ret_some h;subst h;exact ⟨_, q8, rfl, .e rfl (.e rfl (.e rfl (.e rfl (.e rfl (.z))))), rfl, hq8, hO⟩
  ·cbv;have h := ret_some h;subst h;exact ⟨_, _, rfl, ⟨q5, hq5, rfl, rfl, hO⟩, .e rfl (.e rfl (.z)), rfl⟩
 ·exact .e rfl (.e rfl (.e rfl (.e rfl (.e rfl (.z)))))
 ·exact ⟨hq3, hO⟩
 ·clear hx
  rcases s6 with y10 | y12
  ·rintro e l H ⟨q11, hq11, rfl, rfl, hO⟩;cbv;refine n_load hE hO 1 rfl ?_;cbv;refine n_store hE hO 2 rfl rfl fun H hO => ?_;cbv;refine n_load hE hO 2 rfl ?_;cbv;have h := ret_some h;subst h;exact hK q11 _ 0 _ (okn_lst hE hq11) rfl hO
  ·rintro e l H ⟨q13, hq13, rfl, rfl, hO⟩;cbv;refine n_load hE hO 2 rfl ?_;cbv;have h := ret_some h;subst h;exact hN (by rw [Ar.lst_eq]; rfl) _ _ hO
def cfo25 : Cf := ⟨[2], [], [], [], [], []⟩
theorem o25 (N : Nat) (x_types : Int) (r : (GPredicate × Int)) (h : predicate_All_o N x_types = some r) : CallG Tryz.prog 25 [.int .i64 x_types] 1 (Ar.lst Encs.eLGInterval r.1.Sets) (fun o => .tup [.agg [o], .int .i64 r.2]) := by
 unfold predicate_All_o at h
 intro H0;refine callG_run (T := TT) (F := H0) (mk := fun o => .tup [.agg [o], .int .i64 r.2]) ((HoldOk.tup [.bad, .int .i64 r.2] 0 (by simp)).comp (HoldOk.agg [.bad] 0 (by simp))) cfo25 okP Tryz.func25 (by rfl) (by kernel_rfl) Tryz.call25 Tryz.ntmps25 (by rfl) (by rfl) ?_;intro E K hE hK hN
 have hO : Own Eq H0 [] H0 := .start stable_eq rfl
 cbv;refine n_alloc hE hO fun b1 H hO => ?_;cbv;refine n_br hE h (fun hc h => ?_) (fun hc h => ?_)
 ·cbv;refine n_store hE hO 0 rfl rfl fun H hO => ?_;cbv;refine n_load hE hO 0 rfl ?_;cbv;have h := ret_some h;subst h;exact hN (by rw [Ar.lst_eq]; rfl) _ _ hO
 ·cbv;refine n_callG hE (f := Encs.eLGInterval) (g := fun l2 => l2.1.Sets) (mk := fun l2 o => .tup [.agg [o], .int .i64 l2.2]) h (fun l2 hx => o69 N x_types (.func (.func 75) [] []) (fun y1 => predicate_All_1 N y1) (fun y1 r hx => CallP.value (F := []) (C := []) (c75 N y1 r hx)) l2 hx) (.refl _) hO fun l2 q3 H hq3 hO h => ?_;cbv;refine n_store hE hO 1 rfl rfl fun H hO => ?_;cbv;refine n_load hE hO 1 rfl ?_;cbv;have h := ret_some h;subst h;exact hK q3 _ 0 _ (okn_lst hE hq3) rfl hO
def cf9 : Cf := ⟨[7], [(19, 13)], [(101, 18)], [], [(127, 1000007)], []⟩
theorem c9 (N : Nat) (x_p : GPredicate) (r : Bool) (h : law27_PredicateWitnesses N x_p = some r) : CallP Tryz.prog 9 [.agg [.sl (Ar.lst Encs.eLGInterval x_p.Sets) .ro]] (.bool r) := by
 unfold law27_PredicateWitnesses at h
 refine callP_of_spec cf9 okP Tryz.func9 (by rfl) (by kernel_rfl) Tryz.call9 Tryz.ntmps9 (by rfl) (by rfl) ?_;intro E H0 K hE hK
 have hO : Own Eq H0 [] H0 := .start stable_eq rfl
 cbv;refine n_call hE (g := fun r1 => .bool r1) h (fun r1 hx => c35 N ([x_p]) r1 hx) (.cons (.lit _ (lst_cons ((Encs.eGPredicate_eq x_p).symm) (lst_nil))) (.refl _)) fun r1 h => ?_;cbv;refine n_br hE h (fun hc h => ?_) (fun hc h => ?_)
 ·cbv;refine n_call hE (g := fun r2 => .bool r2) h (fun r2 hx => c14 N  r2 hx) (.refl _) fun r2 h => ?_;cbv;have h := ret_some h;subst h;exact hK _ _ _ hO (.refl _)
 ·cbv;refine n_call hE (g := fun r3 => .tup [.bool r3.1, .int .i64 r3.2]) h (fun r3 hx => c29 N x_p r3 hx) (.refl _) fun r3 h => ?_;cbv;refine n_call hE (g := fun r4 => .tup [.agg [.int .i64 r4.1.Typ, .int .i64 r4.1.Num], .int .i64 r4.2]) h (fun r4 hx => c31 N x_p r4 hx) (.refl _) fun r4 h => ?_;cbv;refine n_ln hE ?_;cbv;refine n_callG hE (f := Encs.eLGInterval) (g := fun l5 => l5.1.Sets) (mk := fun l5 o => .tup [.agg [o], .int .i64 l5.2]) h (fun l5 hx => o25 N (Ar.len x_p.Sets) l5 hx) (.refl _) hO fun l5 q6 H hq6 hO h => ?_;cbv;refine n_alloc hE hO fun b7 H hO => ?_;cbv;refine n_store hE hO 0 rfl rfl fun H hO => ?_;cbv;refine n_br hE h (fun hc h => ?_) (fun hc h => ?_)
  ·cbv;have h := ret_some h;subst h;exact hK _ _ _ hO (.refl _)
  ·cbv;refine n_br hE h (fun hc h => ?_) (fun hc h => ?_)
   ·cbv;refine n_br hE h (fun hc h => ?_) (fun hc h => ?_)
    ·cbv;refine n_call hE (g := fun r8 => .bool r8) h (fun r8 hx => c14 N  r8 hx) (.refl _) fun r8 h => ?_;cbv;have h := ret_some h;subst h;exact hK _ _ _ hO (.refl _)
    ·cbv;have h := ret_some h;subst h;exact hK _ _ _ hO (.refl _)
   ·cbv;refine n_call hE (g := fun r9 => .tup [.bool r9.1, .int .i64 r9.2]) h (fun r9 hx => c27 N x_p r4.1 r9 hx) (.refl _) fun r9 h => ?_;cbv;refine n_ln hE ?_;cbv;refine n_load hE hO 0 rfl ?_;cbv;refine n_olen hE hq6 ?_;cbv;refine n_ln hE ?_;cbv;refine n_br hE h (fun hc h => ?_) (fun hc h => ?_)
    ·cbv;have h := ret_some h;subst h;exact hK _ _ _ hO (.refl _)
    ·cbv;refine n_load hE hO 0 rfl ?_;cbv;refine n_olen hE hq6 ?_;cbv;obtain ⟨s12, hx, h⟩ := bind_some h;refine n_loopG cf9 hE okP (γ := OG) (fun s10 g => [(1, .v (.eref [.sl (Ar.lst Encs.eLGInterval x_p.Sets) .ro] 0)), (5, .v (.eref [.int .i64 r4.1.Typ, .int .i64 r4.1.Num] 0)), (7, .v (.ref b7 0)), (94, .v (.int .i64 (Ar.len l5.1.Sets))), (95, .v (.int .i64 s10.1))]) (fun s10 g H1 => Okn g (Ar.len s10.2) ∧ Own Eq H0 [.blk b7 (.cells [.own g.id g.lo g.n]), .blk g.id (.arr 1 (g.pre ++ Ar.lst Encs.eLGInterval s10.2 ++ g.rest))] H1) (fun x e l H1 => ∃ u1 : OG, Okn u1 (Ar.len x) ∧ e = .exit 0 ∧ l = [(1, .v (.eref [.sl (Ar.lst Encs.eLGInterval x_p.Sets) .ro] 0)), (7, .v (.ref b7 0))] ∧ Own Eq H0 [.blk b7 (.cells [.own u1.id u1.lo u1.n]), .blk u1.id (.arr 1 (u1.pre ++ Ar.lst Encs.eLGInterval x ++ u1.rest))] H1) (by kernel_rfl) ?_ q6 hx ?_ ?_ ?_
     ·rintro s10 q11 H o ⟨hq11, hO⟩ h;clear hx;cbv;refine n_br hE h (fun hc h => ?_) (fun hc h => ?_)
      ·cbv;obtain ⟨s13, hx, h⟩ := bind_some h;refine n_join cf9 hE okP (fun e l H1 => ∃ u1 : OG, Okn u1 (Ar.len s13) ∧ e = .normal ∧ l = [(1, .v (.eref [.sl (Ar.lst Encs.eLGInterval x_p.Sets) .ro] 0)), (5, .v (.eref [.int .i64 r4.1.Typ, .int .i64 r4.1.Num] 0)), (7, .v (.ref b7 0)), (11, .v (.int .i64 s10.1)), (94, .v (.int .i64 (Ar.len l5.1.Sets))), (95, .v (.int .i64 s10.1))] ∧ Own Eq H0 [.blk b7 (.cells [.own u1.id u1.lo u1.n]), .blk u1.id (.arr 1 (u1.pre ++ Ar.lst Encs.eLGInterval s13 ++ u1.rest))] H1) (by kernel_rfl) ?_ ?_
       ·clear h;have h := hx;clear hx;cbv;refine n_br hE h (fun hc h => ?_) (fun hc h => ?_)
        ·cbv;refine n_load hE hO 0 rfl ?_;cbv;refine n_oidx hE hO hq11 1 rfl h fun h => ?_;cbv;refine n_ostore hE (f := Encs.eLGInterval) (esz := 1) (tz := 1) (off := 0) (u := (fun x14 : List GInterval => [])) (fun _ => ⟨_, .eq (Encs.eLGInterval_eq _) (.lit _ (lst_nil)), (by rw [Encs.eLGInterval_eq]; rfl), sz_LGInterval _, rfl⟩) (by decide) hO hq11 1 rfl h fun l15 H hq11 h hO => ?_;cbv;have h := ret_some h;subst h;exact ⟨_, ⟨q11, hq11, rfl, rfl, hO⟩, .e rfl (.e rfl (.e rfl (.e rfl (.e rfl (.e rfl (.z)))))), rfl⟩
        ·cbv;have h := ret_some h;subst h;exact ⟨_, ⟨q11, hq11, rfl, rfl, hO⟩, .e rfl (.e rfl (.e rfl (.e rfl (.e rfl (.e rfl (.z)))))), rfl⟩
       ·clear hx;rintro e l H ⟨q16, hq16, rfl, rfl, hO⟩;cbv;refine n_br hE h (fun hc h => ?_) (fun hc h => ?_)
        ·cbv;refine n_load hE hO 0 rfl ?_;cbv;refine n_load hE hO 0 rfl ?_;cbv;refine n_oidx hE hO hq16 1 rfl h fun h => ?_;cbv;refine n_oload hE Encs.eLGInterval_eq hO hq16 1 rfl h fun x17 h => ?_;cbv;refine n_pcall hE (g := fun r18 => .sl (Ar.lst Encs.eGInterval r18) .ro) h (fun r18 hx => c48 N x17 ([(⟨(-1099511627776), r4.1.Num⟩ : GInterval)]) r18 hx) (.cons (.refl _) (.cons (.lit _ (lst_cons ((Encs.eGInterval_eq (⟨(-1099511627776), r4.1.Num⟩ : GInterval)).symm) (lst_nil))) (.refl _))) fun r18 h => ?_;cbv;refine n_oidx hE hO hq16 1 rfl h fun h => ?_;cbv;refine n_ostore hE (f := Encs.eLGInterval) (esz := 1) (tz := 1) (off := 0) (u := (fun x19 : List GInterval => r18)) (fun _ => ⟨_, .eq (Encs.eLGInterval_eq _) (.refl _), (by rw [Encs.eLGInterval_eq]; rfl), sz_LGInterval _, rfl⟩) (by decide) hO hq16 1 rfl h fun l20 H hq16 h hO => ?_;cbv;have h := ret_some h;subst h;exact ⟨_, q16, rfl, .e rfl (.e rfl (.e rfl (.e rfl (.e rfl (.z))))), rfl, hq16, hO⟩
        ·cbv;have h := ret_some h;subst h;exact ⟨_, q16, rfl, .e rfl (.e rfl (.e rfl (.e rfl (.e rfl (.z))))), rfl, hq16, hO⟩
      ·cbv;have h := ret_some h;subst h;exact ⟨_, _, rfl, ⟨q11, hq11, rfl, rfl, hO⟩, .e rfl (.e rfl (.z)), rfl⟩
     ·exact .e rfl (.e rfl (.e rfl (.e rfl (.e rfl (.z)))))
     ·exact ⟨hq6, hO⟩
     ·clear hx;rintro e l H ⟨q21, hq21, rfl, rfl, hO⟩;cbv;refine n_frzIn hE hO hq21 0 1 rfl rfl rfl (by decide) fun H hO => ?_;cbv;refine n_load hE hO 0 rfl ?_;cbv;refine n_call hE (g := fun r22 => .tup [.agg [.sl (Ar.lst Encs.eLGInterval r22.1.Sets) .ro], .int .i64 r22.2]) h (fun r22 hx => c18 N x_p ({ l5.1 with Sets := s12 }) r22 hx) (.refl _) fun r22 h => ?_;cbv;refine n_ln hE ?_;cbv;obtain ⟨s24, hx, h⟩ := bind_some h;refine n_loopN cf9 hE okP (fun s23 => [(13, .v (.int .i64 r22.2)), (14, .v (.int .i64 s23.1)), (132, .v (.sl (Ar.lst Encs.eLGInterval r22.1.Sets) .ro)), (133, .v (.int .i64 (Ar.len r22.1.Sets))), (134, .v (.int .i64 s23.2))]) (fun s23 H1 => Own Eq H0 [.blk b7 (.cells [.sl (Ar.lst Encs.eLGInterval s12) .ro])] H1) (fun x e l H1 => e = .exit 2 ∧ l = [(13, .v (.int .i64 r22.2)), (14, .v (.int .i64 x))] ∧ Own Eq H0 [.blk b7 (.cells [.sl (Ar.lst Encs.eLGInterval s12) .ro])] H1) (by kernel_rfl) ?_ hx ?_ hO ?_
      ·intro s23 H o hO h;clear hx;cbv;refine n_br hE h (fun hc h => ?_) (fun hc h => ?_)
       ·cbv;refine n_idx hE Encs.eLGInterval_eq h fun x25 h => ?_;cbv;refine n_call hE (g := fun r26 => .int .i64 r26) h (fun r26 hx => c49 N x25 r26 hx) (.refl _) fun r26 h => ?_;cbv;have h := ret_some h;subst h;exact ⟨_, rfl, .e rfl (.e rfl (.e rfl (.e rfl (.e rfl (.z))))), rfl, hO⟩
       ·cbv;have h := ret_some h;subst h;exact ⟨_, _, rfl, ⟨rfl, rfl, hO⟩, .e rfl (.e rfl (.z)), rfl⟩
      ·exact .e rfl (.e rfl (.e rfl (.e rfl (.e rfl (.z)))))
      ·clear hx;rintro e l H ⟨rfl, rfl, hO⟩;cbv;refine n_br hE h (fun hc h => ?_) (fun hc h => ?_)
       ·cbv;refine n_call hE (g := fun r27 => .bool r27) h (fun r27 hx => c14 N  r27 hx) (.refl _) fun r27 h => ?_;cbv;have h := ret_some h;subst h;exact hK _ _ _ hO (.refl _)
       ·cbv;have h := ret_some h;subst h;exact hK _ _ _ hO (.refl _)
end Go.Ab

