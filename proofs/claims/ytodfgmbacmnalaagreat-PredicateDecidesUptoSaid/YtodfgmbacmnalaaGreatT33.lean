/- GQCo2 -/
import Derived.Test.YtodfgmbacmnalaaGreatT32
set_option linter.all false

namespace Go.Ab
open Go.RowKit Go.Proofs
variable [Ar] [Encs]
set_option maxRecDepth 100000
theorem c76 (N : Nat) (x_s r : List Int) (h : slices_Sort_Lint_int N x_s = some r) : CallS Tryz.prog 76 x_s r := callS_sort Go.Proofs.Tryz.laysNm189 Tryz.call76 h
theorem c77 (N : Nat) (x_s r : List Int) (h : slices_Compact_Lint_int N x_s = some r) : CallOO Tryz.prog 77 [] 1 (Ar.lst (V.int .i64) x_s) (Ar.lst (V.int .i64) r) := callOO_compact Go.Proofs.Tryz.laysNm220 Tryz.call77 h
def cf165 : Cf := ⟨[22], [], [], [], [], []⟩
theorem c165 (N : Nat) (x_s : List GInterval) (x_n : Int) (r : List GInterval) (h : slices_Grow_LInterval_Interval N x_s x_n = some r) : CallO Tryz.prog 165 [.sl [] .nil, .int .i64 x_n] 2 (Ar.lst Encs.eGInterval r) := by
 unfold slices_Grow_LInterval_Interval at h
 obtain ⟨h1, h2, hr⟩ := lst_grow (f := Encs.eGInterval) h;rw [hr];clear hr h;intro H0
 have hneg : ∀ b, Ar.cmp .lss x_n 0 = b → b = false := fun b h => by rw [Ar.cmp_eq] at h; subst h; simp [cmpI]; omega
 have hsub : Ar.ar .sub .i64 x_n (Ar.ar .sub .i64 0 0) = x_n := by rw [Ar.ar_eq, Ar.ar_eq]; simp only [arI]; rw [show (0 : Int) - 0 = 0 from rfl, wrap_small 0 (by omega) (by omega), Int.sub_zero]; exact wrap_small _ (by omega) (by omega)
 have hgt : ∀ b, Ar.cmp .gtr (Ar.ar .sub .i64 x_n (Ar.ar .sub .i64 0 0)) 0 = b → (b = false → x_n = 0) := fun b h => by rw [hsub, Ar.cmp_eq] at h; subst h; simp [cmpI]; omega
 have hbn : x_n.toNat * 16 ≤ 140737488355328 := by have := mul_bnd (a := x_n.toNat) (b := 0) (by_ := 16) (by omega) (by decide); simpa using this
 have hl0 : (0 : Int) = (([] : List V).length : Nat) := rfl
 refine callO_run (T := TT) cf165 okP Tryz.func165 (by rfl) (by kernel_rfl) Tryz.call165 Tryz.ntmps165 (by rfl) (by rfl) ?_;intro E K hE hK hN;cbv;refine r_br hE (fun hc => absurd (hneg _ hc) (by decide)) (fun hc => ?_);cbv;refine r_ln hE hl0 ?_;cbv;refine r_br hE (fun hc2 => ?_) (fun hc2 => ?_)
 ·cbv;refine r_slnil hE ?_;cbv;refine r_oappz0 hE x_n hsub (.inl rfl) h1 hbn fun t m row j ht hm hrow => ?_;obtain ⟨RL, hRL, hR0⟩ : ∃ RL : Int, RL = (row.length : Nat) ∧ 0 ≤ RL := ⟨_, rfl, by omega⟩;cbv;refine r_ln hE hl0 ?_;cbv;refine r_oslice hE (upd_same _ _ _) hRL 0 0 rfl rfl (Int.le_refl _) (Int.le_refl _) hR0 fun l' n' q1 q2 => ?_;cbv
  have e1 : 0 = l' := by omega
  have e2 : 0 = n' := by omega
  subst e1 e2;exact hK ⟨t, 0, 0, [], row⟩ [] _ ⟨rfl, rfl⟩ ((Own.start stable_eq rfl).push ht rfl)
 ·cbv;exact hN rfl [] H0 (.start stable_eq rfl)
def cf154 : Cf := ⟨[], [], [], [], [], []⟩
theorem c154 (N : Nat) (x_slices : List (List GInterval)) (r : (List GInterval)) (h : slices_Concat_LInterval_Interval N x_slices = some r) : CallP Tryz.prog 154 [.sl (Ar.lst Encs.eLGInterval x_slices) .ro] (.sl (Ar.lst Encs.eGInterval r) .ro) := by
 unfold slices_Concat_LInterval_Interval at h
 refine callP_of_specF (T := TT) cf154 okP Tryz.func154 (by rfl) (by kernel_rfl) Tryz.call154 Tryz.ntmps154 (by rfl) (by rfl) ?_;intro E H0 K hE hK hF
 have hO : Own Eq H0 [] H0 := .start stable_eq rfl
 cbv;refine n_ln hE ?_;cbv;obtain ⟨s2, hx, h⟩ := bind_some h;refine n_loopN cf154 hE okP (fun s1 => [(0, .v (.sl (Ar.lst Encs.eLGInterval x_slices) .ro)), (3, .v (.int .i64 s1.1)), (9, .v (.sl (Ar.lst Encs.eLGInterval x_slices) .ro)), (10, .v (.int .i64 (Ar.len x_slices))), (11, .v (.int .i64 s1.2))]) (fun s1 H1 => Own Eq H0 [] H1) (fun x e l H1 => e = .exit 0 ∧ l = [(0, .v (.sl (Ar.lst Encs.eLGInterval x_slices) .ro)), (3, .v (.int .i64 x))] ∧ Own Eq H0 [] H1) (by kernel_rfl) ?_ hx ?_ hO ?_
 ·intro s1 H o hO h;clear hx;cbv;refine n_br hE h (fun hc h => ?_) (fun hc h => ?_)
  ·cbv;refine n_idx hE Encs.eLGInterval_eq h fun x3 h => ?_;cbv;refine n_ln hE ?_;cbv;refine n_br hE h (fun hc h => ?_) (fun hc h => ?_)
   ·cbv
    cases h
   ·cbv;have h := ret_some h;subst h;exact ⟨_, rfl, .e rfl (.e rfl (.e rfl (.e rfl (.e rfl (.z))))), rfl, hO⟩
  ·cbv;have h := ret_some h;subst h;exact ⟨_, _, rfl, ⟨rfl, rfl, hO⟩, .e rfl (.e rfl (.z)), rfl⟩
 ·exact .e rfl (.e rfl (.e rfl (.e rfl (.e rfl (.z)))))
 ·clear hx;rintro e l H ⟨rfl, rfl, hO⟩;cbv;refine n_callO hE (f := Encs.eGInterval) h (fun l4 hx => c165 N [] s2 l4 hx) (.cons (.refl _) (.cons (.refl _) .nil)) hO fun l4 q5 H hq5 hO h => ?_;cbv;refine n_ln hE ?_;cbv;obtain ⟨s8, hx, h⟩ := bind_some h;refine n_loopG cf154 hE okP (γ := OG) (fun s6 g => [(6, .v (.own g.id g.lo g.n)), (25, .v (.sl (Ar.lst Encs.eLGInterval x_slices) .ro)), (26, .v (.int .i64 (Ar.len x_slices))), (27, .v (.int .i64 s6.1))]) (fun s6 g H1 => Okn g (Ar.len s6.2) ∧ Own Eq H0 [.blk g.id (.arr 2 (g.pre ++ Ar.lst Encs.eGInterval s6.2 ++ g.rest))] H1) (fun x e l H1 => ∃ u1 : OG, Okn u1 (Ar.len x) ∧ e = .exit 2 ∧ l = [(6, .v (.own u1.id u1.lo u1.n))] ∧ Own Eq H0 [.blk u1.id (.arr 2 (u1.pre ++ Ar.lst Encs.eGInterval x ++ u1.rest))] H1) (by kernel_rfl) ?_ q5 hx ?_ ?_ ?_
  ·rintro s6 q7 H o ⟨hq7, hO⟩ h;clear hx;cbv;refine n_br hE h (fun hc h => ?_) (fun hc h => ?_)
   ·cbv;refine n_idx hE Encs.eLGInterval_eq h fun x9 h => ?_;cbv;refine n_oapp (f := Encs.eGInterval) hE sz_GInterval (by decide) hO hq7 0 rfl (m := x9) (src_sl (f := Encs.eGInterval) hE sz_GInterval (.refl _)) h fun l11 q10 H hq10 hO h => ?_;cbv;have h := ret_some h;subst h;exact ⟨_, q10, rfl, .e rfl (.e rfl (.e rfl (.e rfl (.z)))), rfl, hq10, hO⟩
   ·cbv;have h := ret_some h;subst h;exact ⟨_, _, rfl, ⟨q7, hq7, rfl, rfl, hO⟩, .e rfl (.z), rfl⟩
  ·exact .e rfl (.e rfl (.e rfl (.e rfl (.z))))
  ·exact ⟨hq5, hO⟩
  ·clear hx;rintro e l H ⟨q12, hq12, rfl, rfl, hO⟩;cbv;have h := ret_some h;subst h;exact hF q12 _ _ 0 _ _ hO rfl (okn_lst hE hq12) (.refl _)
def cf155 : Cf := ⟨[], [(2, 12), (3, 12)], [], [], [], []⟩
theorem c155 (N : Nat) (x_l : List GInterval) (x_x : GInterval) (r : (List GInterval)) (h : interval_push N x_l x_x = some r) : CallOO Tryz.prog 155 [.agg [.int .i64 x_x.Low, .int .i64 x_x.High]] 2 (Ar.lst Encs.eGInterval x_l) (Ar.lst Encs.eGInterval r) := by
 unfold interval_push at h
 intro H0 q0 hq0 hk0;refine callO_run (T := TT) (F := upd H0 q0.id none) cf155 okP Tryz.func155 (by rfl) (by kernel_rfl) Tryz.call155 Tryz.ntmps155 (by rfl) (by rfl) ?_;intro E K hE hK hN
 have hO : Own Eq (upd H0 q0.id none) [.blk q0.id (.arr 2 (q0.pre ++ Ar.lst Encs.eGInterval x_l ++ q0.rest))] H0 := Own.startO hk0
 have hq0 : Okn q0 (Ar.len x_l) := okn_len hq0
 cbv;refine n_olen hE hq0 ?_;cbv;refine n_br hE h (fun hc h => ?_) (fun hc h => ?_)
 ·cbv;refine n_oidx hE hO hq0 0 rfl h fun h => ?_;cbv;refine n_oload hE Encs.eGInterval_eq hO hq0 0 rfl h fun x1 h => ?_;cbv;refine n_br hE h (fun hc h => ?_) (fun hc h => ?_)
  ·cbv;refine n_oidx hE hO hq0 0 rfl h fun h => ?_;cbv;refine n_oload hE Encs.eGInterval_eq hO hq0 0 rfl h fun x2 h => ?_;cbv;refine n_oidx hE hO hq0 0 rfl h fun h => ?_;cbv;refine n_ostore hE (f := Encs.eGInterval) (esz := 2) (tz := 1) (off := 1) (u := (fun x3 : GInterval => { x3 with High := Ar.mx x2.High x_x.High })) (fun x3 => ⟨.int .i64 (Ar.mx x2.High x_x.High), .refl _, rfl, rfl, (by rw [Encs.eGInterval_eq, Encs.eGInterval_eq]; rfl)⟩) (by decide) hO hq0 0 rfl h fun l4 H hq0 h hO => ?_;cbv;have h := ret_some h;subst h;exact hK q0 _ _ (okn_lst hE hq0) (hO)
  ·cbv;refine n_oapp (f := Encs.eGInterval) hE sz_GInterval (by decide) hO hq0 0 rfl (m := [x_x]) (src_sl (f := Encs.eGInterval) hE sz_GInterval (.lstc (.eq (Encs.eGInterval_eq x_x) (.refl _)) (.lst0))) h fun l6 q5 H hq5 hO h => ?_;cbv;have h := ret_some h;subst h;exact hK q5 _ _ (okn_lst hE hq5) (hO)
 ·cbv;refine n_oapp (f := Encs.eGInterval) hE sz_GInterval (by decide) hO hq0 0 rfl (m := [x_x]) (src_sl (f := Encs.eGInterval) hE sz_GInterval (.lstc (.eq (Encs.eGInterval_eq x_x) (.refl _)) (.lst0))) h fun l8 q7 H hq7 hO h => ?_;cbv;have h := ret_some h;subst h;exact hK q7 _ _ (okn_lst hE hq7) (hO)
def cf130 : Cf := ⟨[6000007, 6000010], [(13, 13), (14, 12)], [], [], [], []⟩
theorem c130 (N : Nat) (x_a : List GInterval) (x_b : List GInterval) (v_belongs : V) (x_belongs : Bool → Bool → Option Bool) (h_belongs : ∀ y1 y2 q, x_belongs y1 y2 = some q → CallVP Tryz.prog v_belongs [.bool y1, .bool y2] (.bool q)) (r : (List GInterval)) (h : interval_sweep N x_a x_b x_belongs = some r) : CallP Tryz.prog 130 [.sl (Ar.lst Encs.eGInterval x_a) .ro, .sl (Ar.lst Encs.eGInterval x_b) .ro, v_belongs] (.sl (Ar.lst Encs.eGInterval r) .ro) := by
 unfold interval_sweep at h
 refine callP_of_specF (T := TT) cf130 okP Tryz.func130 (by rfl) (by kernel_rfl) Tryz.call130 Tryz.ntmps130 (by rfl) (by rfl) ?_;intro E H0 K hE hK hF
 have hO : Own Eq H0 [] H0 := .start stable_eq rfl
 cbv;refine n_onil hE (f := (V.int .i64)) hO fun q1 H hq1 hO => ?_;cbv;refine n_call hE (g := fun r2 => .sl (Ar.lst Encs.eGInterval r2) .ro) h (fun r2 hx => c154 N ([x_a, x_b]) r2 hx) (.cons (.lit _ (lst_cons ((Encs.eLGInterval_eq x_a).symm) (lst_cons ((Encs.eLGInterval_eq x_b).symm) (lst_nil)))) (.refl _)) fun r2 h => ?_;cbv;refine n_ln hE ?_;cbv;obtain ⟨s5, hx, h⟩ := bind_some h;refine n_loopG cf130 hE okP (γ := OG) (fun s3 g => [(0, .v (.sl (Ar.lst Encs.eGInterval x_a) .ro)), (1, .v (.sl (Ar.lst Encs.eGInterval x_b) .ro)), (2, .v (v_belongs)), (7, .v (.own g.id g.lo g.n)), (15, .v (.sl (Ar.lst Encs.eGInterval r2) .ro)), (16, .v (.int .i64 (Ar.len r2))), (17, .v (.int .i64 s3.1))]) (fun s3 g H1 => Okn g (Ar.len s3.2) ∧ Own Eq H0 [.blk g.id (.arr 1 (g.pre ++ Ar.lst (V.int .i64) s3.2 ++ g.rest))] H1) (fun x e l H1 => ∃ u1 : OG, Okn u1 (Ar.len x) ∧ e = .exit 0 ∧ l = [(0, .v (.sl (Ar.lst Encs.eGInterval x_a) .ro)), (1, .v (.sl (Ar.lst Encs.eGInterval x_b) .ro)), (2, .v (v_belongs)), (7, .v (.own u1.id u1.lo u1.n))] ∧ Own Eq H0 [.blk u1.id (.arr 1 (u1.pre ++ Ar.lst (V.int .i64) x ++ u1.rest))] H1) (by kernel_rfl) ?_ q1 hx ?_ ?_ ?_
 ·rintro s3 q4 H o ⟨hq4, hO⟩ h;clear hx;cbv;refine n_br hE h (fun hc h => ?_) (fun hc h => ?_)
  ·cbv;refine n_idx hE Encs.eGInterval_eq h fun x6 h => ?_;cbv;refine n_oapp (f := (V.int .i64)) hE (fun _ => rfl) (by decide) hO hq4 0 rfl (m := [x6.Low, Ar.ar .add .i64 x6.High 1]) (src_sl (f := (V.int .i64)) hE (fun _ => rfl) (.lstc (.refl _) (.lstc (.refl _) (.lst0)))) h fun l8 q7 H hq7 hO h => ?_;cbv;have h := ret_some h;subst h;exact ⟨_, q7, rfl, .e rfl (.e rfl (.e rfl (.e rfl (.e rfl (.e rfl (.e rfl (.z))))))), rfl, hq7, hO⟩
  ·cbv;have h := ret_some h;subst h;exact ⟨_, _, rfl, ⟨q4, hq4, rfl, rfl, hO⟩, .e rfl (.e rfl (.e rfl (.e rfl (.z)))), rfl⟩
 ·exact .e rfl (.e rfl (.e rfl (.e rfl (.e rfl (.e rfl (.e rfl (.z)))))))
 ·exact ⟨hq1, hO⟩
 ·clear hx;rintro e l H ⟨q9, hq9, rfl, rfl, hO⟩;cbv;refine n_callS hE hO hq9 0 rfl h (fun l10 hx => c76 N s5 l10 hx) fun l10 H hq9 hO h => ?_;cbv;refine n_callOO hE (f := (V.int .i64)) hO hq9 0 rfl h (fun l11 hx => c77 N l10 l11 hx) (.refl _) fun l11 q12 H hq12 hO h => ?_;cbv;refine n_onil hE (f := Encs.eGInterval) hO fun q13 H hq13 hO => ?_;cbv;obtain ⟨s16, hx, h⟩ := bind_some h;refine n_loopG cf130 hE okP (γ := OG) (fun s14 g => [(0, .v (.sl (Ar.lst Encs.eGInterval x_a) .ro)), (1, .v (.sl (Ar.lst Encs.eGInterval x_b) .ro)), (2, .v (v_belongs)), (7, .v (.own q12.id q12.lo q12.n)), (10, .v (.own g.id g.lo g.n)), (11, .v (.int .i64 s14.1))]) (fun s14 g H1 => Okn g (Ar.len s14.2) ∧ Own Eq H0 [.blk g.id (.arr 2 (g.pre ++ Ar.lst Encs.eGInterval s14.2 ++ g.rest)), .blk q12.id (.arr 1 (q12.pre ++ Ar.lst (V.int .i64) l11 ++ q12.rest))] H1) (fun x e l H1 => ∃ u1 : OG, Okn u1 (Ar.len x) ∧ e = .exit 2 ∧ l = [(10, .v (.own u1.id u1.lo u1.n))] ∧ Own Eq H0 [.blk u1.id (.arr 2 (u1.pre ++ Ar.lst Encs.eGInterval x ++ u1.rest)), .blk q12.id (.arr 1 (q12.pre ++ Ar.lst (V.int .i64) l11 ++ q12.rest))] H1) (by kernel_rfl) ?_ q13 hx ?_ ?_ ?_
  ·rintro s14 q15 H o ⟨hq15, hO⟩ h;clear hx;cbv;refine n_olen hE hq12 ?_;cbv;refine n_br hE h (fun hc h => ?_) (fun hc h => ?_)
   ·cbv;refine n_oidx hE hO hq12 1 rfl h fun h => ?_;cbv;refine n_oload hE (fun _ => rfl) hO hq12 1 rfl h fun x17 h => ?_;cbv;refine n_pcall hE (g := fun r18 => .bool r18) h (fun r18 hx => c72 N x_a x17 r18 hx) (.refl _) fun r18 h => ?_;cbv;refine n_oidx hE hO hq12 1 rfl h fun h => ?_;cbv;refine n_oload hE (fun _ => rfl) hO hq12 1 rfl h fun x19 h => ?_;cbv;refine n_pcall hE (g := fun r20 => .bool r20) h (fun r20 hx => c72 N x_b x19 r20 hx) (.refl _) fun r20 h => ?_;cbv;refine n_callF hE (g := fun r21 => .bool r21) h (fun r21 hx => h_belongs r18 r20 r21 hx) (.refl _) fun r21 h => ?_;cbv;refine n_br hE h (fun hc h => ?_) (fun hc h => ?_)
    ·cbv;refine n_oidx hE hO hq12 1 rfl h fun h => ?_;cbv;refine n_oload hE (fun _ => rfl) hO hq12 1 rfl h fun x22 h => ?_;cbv;refine n_oidx hE hO hq12 1 rfl h fun h => ?_;cbv;refine n_oload hE (fun _ => rfl) hO hq12 1 rfl h fun x23 h => ?_;cbv;refine n_callOO hE (f := Encs.eGInterval) hO hq15 0 rfl h (fun l24 hx => c155 N s14.2 (⟨x22, Ar.ar .sub .i64 x23 1⟩ : GInterval) l24 hx) (.refl _) fun l24 q25 H hq25 hO h => ?_;cbv;have h := ret_some h;subst h;exact ⟨_, q25, rfl, .e rfl (.e rfl (.e rfl (.e rfl (.e rfl (.e rfl (.z)))))), rfl, hq25, hO⟩
    ·cbv;have h := ret_some h;subst h;exact ⟨_, q15, rfl, .e rfl (.e rfl (.e rfl (.e rfl (.e rfl (.e rfl (.z)))))), rfl, hq15, hO⟩
   ·cbv;have h := ret_some h;subst h;exact ⟨_, _, rfl, ⟨q15, hq15, rfl, rfl, hO⟩, .e rfl (.z), rfl⟩
  ·exact .e rfl (.e rfl (.e rfl (.e rfl (.e rfl (.e rfl (.z))))))
  ·exact ⟨hq13, hO⟩
  ·clear hx;rintro e l H ⟨q26, hq26, rfl, rfl, hO⟩;cbv;have h := ret_some h;subst h;exact hF q26 _ _ 0 _ _ hO rfl (okn_lst hE hq26) (.refl _)
def cf89 : Cf := ⟨[], [], [], [], [], []⟩
theorem c89 (N : Nat) (x_a : List GInterval) (x_b : List GInterval) (v_belongs : V) (x_belongs : Bool → Bool → Option Bool) (h_belongs : ∀ y1 y2 q, x_belongs y1 y2 = some q → CallVP Tryz.prog v_belongs [.bool y1, .bool y2] (.bool q)) (r : ((List GInterval) × Int)) (h : interval_combine N x_a x_b x_belongs = some r) : CallP Tryz.prog 89 [.sl (Ar.lst Encs.eGInterval x_a) .ro, .sl (Ar.lst Encs.eGInterval x_b) .ro, v_belongs] (.tup [.sl (Ar.lst Encs.eGInterval r.1) .ro, .int .i64 r.2]) := by
 unfold interval_combine at h
 refine callP_of_spec cf89 okP Tryz.func89 (by rfl) (by kernel_rfl) Tryz.call89 Tryz.ntmps89 (by rfl) (by rfl) ?_;intro E H0 K hE hK
 have hO : Own Eq H0 [] H0 := .start stable_eq rfl
 cbv;refine n_call hE (g := fun r1 => .int .i64 r1) h (fun r1 hx => c129 N x_a x_b r1 hx) (.refl _) fun r1 h => ?_;cbv;refine n_br hE h (fun hc h => ?_) (fun hc h => ?_)
 ·cbv;have h := ret_some h;subst h;exact hK _ _ _ hO (.tup (.cons (.lit _ (lst_nil)) (.refl _)))
 ·cbv;refine n_call hE (g := fun r2 => .sl (Ar.lst Encs.eGInterval r2) .ro) h (fun r2 hx => c130 N x_a x_b v_belongs x_belongs h_belongs r2 hx) (.refl _) fun r2 h => ?_;cbv;refine n_call hE (g := fun r3 => .tup [.sl (Ar.lst Encs.eGInterval r3.1) .ro, .int .i64 r3.2]) h (fun r3 hx => c93 N r2 r3 hx) (.refl _) fun r3 h => ?_;cbv;have h := ret_some h;subst h;exact hK _ _ _ hO (.refl _)
def cf90 : Cf := ⟨[], [], [], [], [], []⟩
theorem c90 (N : Nat) (x_x : Bool) (x_y : Bool) (r : Bool) (h : interval_Intersect_1 N x_x x_y = some r) : CallP Tryz.prog 90 [.bool x_x, .bool x_y] (.bool r) := by
 unfold interval_Intersect_1 at h
 refine callP_of_spec cf90 okP Tryz.func90 (by rfl) (by kernel_rfl) Tryz.call90 Tryz.ntmps90 (by rfl) (by rfl) ?_;intro E H0 K hE hK
 have hO : Own Eq H0 [] H0 := .start stable_eq rfl
 cbv;have h := ret_some h;subst h;exact hK _ _ _ hO (.refl _)
def cf54 : Cf := ⟨[], [], [], [], [], []⟩
theorem c54 (N : Nat) (x_a : List GInterval) (x_b : List GInterval) (r : ((List GInterval) × Int)) (h : interval_Intersect N x_a x_b = some r) : CallP Tryz.prog 54 [.sl (Ar.lst Encs.eGInterval x_a) .ro, .sl (Ar.lst Encs.eGInterval x_b) .ro] (.tup [.sl (Ar.lst Encs.eGInterval r.1) .ro, .int .i64 r.2]) := by
 unfold interval_Intersect at h
 refine callP_of_spec cf54 okP Tryz.func54 (by rfl) (by kernel_rfl) Tryz.call54 Tryz.ntmps54 (by rfl) (by rfl) ?_;intro E H0 K hE hK
 have hO : Own Eq H0 [] H0 := .start stable_eq rfl
 cbv;refine n_call hE (g := fun r1 => .tup [.sl (Ar.lst Encs.eGInterval r1.1) .ro, .int .i64 r1.2]) h (fun r1 hx => c89 N x_a x_b (.func (.func 90) [] []) (fun y1 y2 => interval_Intersect_1 N y1 y2) (fun y1 y2 r hx => CallP.value (F := []) (C := []) (c90 N y1 y2 r hx)) r1 hx) (.refl _) fun r1 h => ?_;cbv;have h := ret_some h;subst h;exact hK _ _ _ hO (.refl _)
def cf127 : Cf := ⟨[], [], [], [], [], []⟩
theorem c127 (N : Nat) (x_low : Int) (x_high : Int) (r : (List GInterval)) (h : predicate_between N x_low x_high = some r) : CallP Tryz.prog 127 [.int .i64 x_low, .int .i64 x_high] (.sl (Ar.lst Encs.eGInterval r) .ro) := by
 unfold predicate_between at h
 refine callP_of_spec cf127 okP Tryz.func127 (by rfl) (by kernel_rfl) Tryz.call127 Tryz.ntmps127 (by rfl) (by rfl) ?_;intro E H0 K hE hK
 have hO : Own Eq H0 [] H0 := .start stable_eq rfl
 cbv;refine n_br hE h (fun hc h => ?_) (fun hc h => ?_)
 ·cbv;have h := ret_some h;subst h;exact hK _ _ _ hO (.lit _ (lst_nil))
 ·cbv;have h := ret_some h;subst h;exact hK _ _ _ hO (.lit _ (lst_cons ((Encs.eGInterval_eq (⟨Ar.mx x_low (-1099511627776), Ar.mn x_high 1099511627776⟩ : GInterval)).symm) (lst_nil)))
def cf128 : Cf := ⟨[], [], [], [], [], []⟩
theorem c128 (N : Nat) (x_a : Int) (x_b : Int) (r : Int) (h : predicate_down N x_a x_b = some r) : CallP Tryz.prog 128 [.int .i64 x_a, .int .i64 x_b] (.int .i64 r) := by
 unfold predicate_down at h
 refine callP_of_spec cf128 okP Tryz.func128 (by rfl) (by kernel_rfl) Tryz.call128 Tryz.ntmps128 (by rfl) (by rfl) ?_;intro E H0 K hE hK
 have hO : Own Eq H0 [] H0 := .start stable_eq rfl
 cbv;refine n_needB hE h fun h => ?_;cbv;refine n_needB hE h fun h => ?_;cbv;refine n_br hE h (fun hc h => ?_) (fun hc h => ?_)
 ·cbv;have h := ret_some h;subst h;exact hK _ _ _ hO (.refl _)
 ·cbv;have h := ret_some h;subst h;exact hK _ _ _ hO (.refl _)
def cf88 : Cf := ⟨[], [], [], [], [], []⟩
theorem c88 (N : Nat) (x_a : Gpredicate_line) (r : (List GInterval)) (h : predicate_most N x_a = some r) : CallP Tryz.prog 88 [.agg [.int .i64 x_a.times, .int .i64 x_a.plus]] (.sl (Ar.lst Encs.eGInterval r) .ro) := by
 unfold predicate_most at h
 refine callP_of_spec cf88 okP Tryz.func88 (by rfl) (by kernel_rfl) Tryz.call88 Tryz.ntmps88 (by rfl) (by rfl) ?_;intro E H0 K hE hK
 have hO : Own Eq H0 [] H0 := .start stable_eq rfl
 cbv;refine n_br hE h (fun hc h => ?_) (fun hc h => ?_)
 ·cbv;refine n_call hE (g := fun r1 => .int .i64 r1) h (fun r1 hx => c128 N (Ar.neg .i64 x_a.plus) x_a.times r1 hx) (.refl _) fun r1 h => ?_;cbv;refine n_call hE (g := fun r2 => .sl (Ar.lst Encs.eGInterval r2) .ro) h (fun r2 hx => c127 N (-1099511627776) r1 r2 hx) (.refl _) fun r2 h => ?_;cbv;have h := ret_some h;subst h;exact hK _ _ _ hO (.refl _)
 ·cbv;refine n_br hE h (fun hc h => ?_) (fun hc h => ?_)
  ·cbv;refine n_call hE (g := fun r3 => .int .i64 r3) h (fun r3 hx => c128 N (Ar.neg .i64 x_a.plus) (Ar.neg .i64 x_a.times) r3 hx) (.refl _) fun r3 h => ?_;cbv;refine n_call hE (g := fun r4 => .sl (Ar.lst Encs.eGInterval r4) .ro) h (fun r4 hx => c127 N (Ar.neg .i64 r3) 1099511627776 r4 hx) (.refl _) fun r4 h => ?_;cbv;have h := ret_some h;subst h;exact hK _ _ _ hO (.refl _)
  ·cbv;refine n_br hE h (fun hc h => ?_) (fun hc h => ?_)
   ·cbv;refine n_call hE (g := fun r5 => .sl (Ar.lst Encs.eGInterval r5) .ro) h (fun r5 hx => c51 N  r5 hx) (.refl _) fun r5 h => ?_;cbv;have h := ret_some h;subst h;exact hK _ _ _ hO (.refl _)
   ·cbv;have h := ret_some h;subst h;exact hK _ _ _ hO (.lit _ (lst_nil))
def cf53 : Cf := ⟨[8], [(8, 13)], [], [], [], []⟩
theorem c53 (N : Nat) (x_op : Int) (x_a : Gpredicate_line) (x_b : Gpredicate_line) (r : ((List GInterval) × Int)) (h : predicate_compared N x_op x_a x_b = some r) : CallP Tryz.prog 53 [.int .i64 x_op, .agg [.int .i64 x_a.times, .int .i64 x_a.plus], .agg [.int .i64 x_b.times, .int .i64 x_b.plus]] (.tup [.sl (Ar.lst Encs.eGInterval r.1) .ro, .int .i64 r.2]) := by
 unfold predicate_compared at h
 refine callP_of_spec cf53 okP Tryz.func53 (by rfl) (by kernel_rfl) Tryz.call53 Tryz.ntmps53 (by rfl) (by rfl) ?_;intro E H0 K hE hK
 have hO : Own Eq H0 [] H0 := .start stable_eq rfl
 cbv;refine n_alloc hE hO fun b1 H hO => ?_;cbv;refine n_store hE hO 0 rfl rfl fun H hO => ?_;cbv;refine n_br hE h (fun hc h => ?_) (fun hc h => ?_)
 ·cbv;refine n_load hE hO 0 rfl ?_;cbv;refine n_store hE hO 0 rfl rfl fun H hO => ?_;cbv;refine n_load hE hO 0 rfl ?_;cbv;refine n_call hE (g := fun r2 => .sl (Ar.lst Encs.eGInterval r2) .ro) h (fun r2 hx => c88 N (⟨Ar.ar .sub .i64 x_a.times x_b.times, Ar.ar .add .i64 (Ar.ar .sub .i64 x_a.plus x_b.plus) 1⟩ : Gpredicate_line) r2 hx) (.refl _) fun r2 h => ?_;cbv;have h := ret_some h;subst h;exact hK _ _ _ hO (.refl _)
 ·cbv;refine n_br hE h (fun hc h => ?_) (fun hc h => ?_)
  ·cbv;refine n_load hE hO 0 rfl ?_;cbv;refine n_call hE (g := fun r3 => .sl (Ar.lst Encs.eGInterval r3) .ro) h (fun r3 hx => c88 N (⟨Ar.ar .sub .i64 x_a.times x_b.times, Ar.ar .sub .i64 x_a.plus x_b.plus⟩ : Gpredicate_line) r3 hx) (.refl _) fun r3 h => ?_;cbv;have h := ret_some h;subst h;exact hK _ _ _ hO (.refl _)
  ·cbv;refine n_load hE hO 0 rfl ?_;cbv;refine n_pcall hE (g := fun r4 => .sl (Ar.lst Encs.eGInterval r4) .ro) h (fun r4 hx => c88 N (⟨Ar.ar .sub .i64 x_a.times x_b.times, Ar.ar .sub .i64 x_a.plus x_b.plus⟩ : Gpredicate_line) r4 hx) (.refl _) fun r4 h => ?_;cbv;refine n_load hE hO 0 rfl ?_;cbv;refine n_load hE hO 0 rfl ?_;cbv;refine n_pcall hE (g := fun r5 => .sl (Ar.lst Encs.eGInterval r5) .ro) h (fun r5 hx => c88 N (⟨Ar.neg .i64 (Ar.ar .sub .i64 x_a.times x_b.times), Ar.neg .i64 (Ar.ar .sub .i64 x_a.plus x_b.plus)⟩ : Gpredicate_line) r5 hx) (.refl _) fun r5 h => ?_;cbv;refine n_pcall hE (g := fun r6 => .tup [.sl (Ar.lst Encs.eGInterval r6.1) .ro, .int .i64 r6.2]) h (fun r6 hx => c54 N r4 r5 r6 hx) (.refl _) fun r6 h => ?_;cbv;have h := ret_some h;subst h;exact hK _ _ _ hO (.refl _)
def cf91 : Cf := ⟨[], [], [], [], [], []⟩
theorem c91 (N : Nat) (x_x : Bool) (x_y : Bool) (r : Bool) (h : interval_Union_1 N x_x x_y = some r) : CallP Tryz.prog 91 [.bool x_x, .bool x_y] (.bool r) := by
 unfold interval_Union_1 at h
 refine callP_of_spec cf91 okP Tryz.func91 (by rfl) (by kernel_rfl) Tryz.call91 Tryz.ntmps91 (by rfl) (by rfl) ?_;intro E H0 K hE hK
 have hO : Own Eq H0 [] H0 := .start stable_eq rfl
 cbv;have h := ret_some h;subst h;exact hK _ _ _ hO (.refl _)
def cf55 : Cf := ⟨[], [], [], [], [], []⟩
theorem c55 (N : Nat) (x_a : List GInterval) (x_b : List GInterval) (r : ((List GInterval) × Int)) (h : interval_Union N x_a x_b = some r) : CallP Tryz.prog 55 [.sl (Ar.lst Encs.eGInterval x_a) .ro, .sl (Ar.lst Encs.eGInterval x_b) .ro] (.tup [.sl (Ar.lst Encs.eGInterval r.1) .ro, .int .i64 r.2]) := by
 unfold interval_Union at h
 refine callP_of_spec cf55 okP Tryz.func55 (by rfl) (by kernel_rfl) Tryz.call55 Tryz.ntmps55 (by rfl) (by rfl) ?_;intro E H0 K hE hK
 have hO : Own Eq H0 [] H0 := .start stable_eq rfl
 cbv;refine n_call hE (g := fun r1 => .tup [.sl (Ar.lst Encs.eGInterval r1.1) .ro, .int .i64 r1.2]) h (fun r1 hx => c89 N x_a x_b (.func (.func 91) [] []) (fun y1 y2 => interval_Union_1 N y1 y2) (fun y1 y2 r hx => CallP.value (F := []) (C := []) (c91 N y1 y2 r hx)) r1 hx) (.refl _) fun r1 h => ?_;cbv;have h := ret_some h;subst h;exact hK _ _ _ hO (.refl _)
def cf131 : Cf := ⟨[], [], [], [], [], []⟩
theorem c131 (N : Nat) (x_1 : List GInterval) (r : (List GInterval)) (h : interval_gaps_1 N x_1 = some r) : EmitP Tryz.prog 131 (fun yv => [yv, .eref [.sl (Ar.lst Encs.eGInterval x_1) .ro] 0]) (List.map (fun (x : GInterval) => [.agg [.int .i64 x.Low, .int .i64 x.High]]) r) rbN := by
 unfold interval_gaps_1 at h
 obtain ⟨⟨w0, u0⟩, h1, hr⟩ := bind_some h;clear h
 have hr := ret_some hr
 subst hr;have h := h1;clear h1;refine emitP_of_spec cf131 okP Tryz.func131 (by rfl) (by kernel_rfl) Tryz.call131 Tryz.ntmps131 (by rfl) (fun _ => rfl) ?_;intro yv I D hI hD hy tl F E H K hE hO hK hKD
 have hO : Own (I (List.map (fun (x : GInterval) => [.agg [.int .i64 x.Low, .int .i64 x.High]]) (w0 ++ []) ++ tl)) F [] H := by rw [List.append_nil]; exact hO
 cbv;refine n_ln hE ?_;cbv;obtain ⟨w2, w3, s6, hx, h1, he⟩ := thenE_some h;clear h;have h := h1;clear h1
 rw [he, List.append_assoc] at hO
 clear he;refine n_loopE cf131 hE okP (γ := Unit) (fun s1 g => [(0, .v (yv)), (3, .v (.int .i64 s1.1)), (6, .v (.sl (Ar.lst Encs.eGInterval x_1) .ro)), (7, .v (.int .i64 (Ar.len x_1))), (8, .v (.int .i64 s1.2))]) (fun s1 g w H1 => Own (I (List.map (fun (x : GInterval) => [.agg [.int .i64 x.Low, .int .i64 x.High]]) w ++ tl)) F [] H1) (fun x e l w H1 => e = .exit 0 ∧ l = [(0, .v (yv)), (3, .v (.int .i64 x))] ∧ Own (I (List.map (fun (x : GInterval) => [.agg [.int .i64 x.Low, .int .i64 x.High]]) w ++ tl)) F [] H1) (fun e l H1 => (e = .ret ∧ l = [] ∧ Own D F [] H1)) (by kernel_rfl) ?_ (w' := w3 ++ []) () hx ?_ ?_ ?_ ?_
 ·rintro s1 _ w4 w5 H o hO h;clear hx
  skip
  cbv;refine n_br hE h (fun hc h => ?_) (fun hc h => ?_)
  ·cbv;refine n_idx hE Encs.eGInterval_eq h fun x7 h => ?_;cbv;refine n_br hE h (fun hc h => ?_) (fun hc h => ?_)
   ·cbv;obtain ⟨w8, h1, he⟩ := thenE_ret h;clear h;have h := h1;clear h1
    rw [he, List.append_assoc] at hO
    clear he
    have hO : Own (I ([.agg [.int .i64 s1.1, .int .i64 (Ar.ar .sub .i64 x7.Low 1)]] :: (List.map (fun (x : GInterval) => [.agg [.int .i64 x.Low, .int .i64 x.High]]) (w8 ++ w5) ++ tl))) F [] _ := hO
    refine n_yield hE hI hD hy hO (.refl _) (fun H hO => ?_) (fun H hO => ?_)
    ·cbv;refine n_brF hE (Ar.nt_eq _) ?_;cbv;obtain ⟨hw, rfl⟩ := pair_some h
     rw [← hw] at hO
     exact ⟨_, (), rfl, .e rfl (.e rfl (.e rfl (.e rfl (.e rfl (.z))))), rfl, hO⟩
    ·clear h;cbv;refine n_brT hE (Ar.nt_eq _) ?_;cbv;exact .inr ⟨_, ⟨rfl, rfl, hO⟩, .z, rfl⟩
   ·cbv;obtain ⟨hw, rfl⟩ := pair_some h
    rw [← hw] at hO
    exact ⟨_, (), rfl, .e rfl (.e rfl (.e rfl (.e rfl (.e rfl (.z))))), rfl, hO⟩
  ·cbv;obtain ⟨hw, rfl⟩ := pair_some h
   rw [← hw] at hO
   exact .inl ⟨_, _, rfl, ⟨rfl, rfl, hO⟩, .e rfl (.e rfl (.z)), rfl⟩
 ·exact .e rfl (.e rfl (.e rfl (.e rfl (.e rfl (.z)))))
 ·exact hO
 ·rintro e l H ⟨rfl, rfl, hO⟩;clear hx;cbv;refine n_br hE h (fun hc h => ?_) (fun hc h => ?_)
  ·cbv;obtain ⟨w9, h1, he⟩ := thenE_ret h;clear h;have h := h1;clear h1
   rw [he, List.append_assoc] at hO
   clear he
   have hO : Own (I ([.agg [.int .i64 s6, .int .i64 1099511627776]] :: (List.map (fun (x : GInterval) => [.agg [.int .i64 x.Low, .int .i64 x.High]]) (w9 ++ []) ++ tl))) F [] _ := hO
   refine n_yield hE hI hD hy hO (.refl _) (fun H hO => ?_) (fun H hO => ?_)
   ·cbv;obtain ⟨hw, _⟩ := pair_some h
    rw [← hw] at hO
    exact hK _ _ _ hO trivial
   ·clear h;cbv;exact hKD _ _ _ hO trivial
  ·cbv;obtain ⟨hw, _⟩ := pair_some h
   rw [← hw] at hO
   exact hK _ _ _ hO trivial
 ·rintro e l H hX;obtain ⟨rfl, rfl, hO⟩ := hX;clear h;cbv;exact hKD _ _ _ hO trivial
def cf92 : Cf := ⟨[], [], [], [], [], []⟩
theorem c92 (N : Nat) (x_l : List GInterval) (r : (List GInterval)) (h : interval_gaps N x_l = some r) : CallQ Tryz.prog 92 [.sl (Ar.lst Encs.eGInterval x_l) .ro] (fun v => IterV Tryz.prog v (r.map fun (x : GInterval) => [.agg [.int .i64 x.Low, .int .i64 x.High]])) := by
 unfold interval_gaps at h
 refine callQ_of_spec cf92 okP Tryz.func92 (by rfl) (by kernel_rfl) Tryz.call92 Tryz.ntmps92 (by rfl) (by rfl) ?_;intro E H0 K hE hK
 have hO : Own Eq H0 [] H0 := .start stable_eq rfl
 cbv;exact hK _ _ _ hO (iterV_of_emit Tryz.call131 (c131 N x_l r h))
def cf56 : Cf := ⟨[5], [], [], [], [], []⟩
theorem c56 (N : Nat) (x_l : List GInterval) (r : ((List GInterval) × Int)) (h : interval_Complement N x_l = some r) : CallP Tryz.prog 56 [.sl (Ar.lst Encs.eGInterval x_l) .ro] (.tup [.sl (Ar.lst Encs.eGInterval r.1) .ro, .int .i64 r.2]) := by
 unfold interval_Complement at h
 refine callP_of_spec cf56 okP Tryz.func56 (by rfl) (by kernel_rfl) Tryz.call56 Tryz.ntmps56 (by rfl) (by rfl) ?_;intro E H0 K hE hK
 have hO : Own Eq H0 [] H0 := .start stable_eq rfl
 cbv;refine n_call hE (g := fun r1 => .int .i64 r1) h (fun r1 hx => c71 N x_l r1 hx) (.refl _) fun r1 h => ?_;cbv;refine n_br hE h (fun hc h => ?_) (fun hc h => ?_)
 ·cbv;have h := ret_some h;subst h;exact hK _ _ _ hO (.tup (.cons (.lit _ (lst_nil)) (.refl _)))
 ·cbv;refine n_alloc hE hO fun b2 H hO => ?_;cbv;refine n_callQ hE h (fun r3 hx => c92 N x_l r3 hx) (.refl _) fun r3 v4 hv4 h => ?_;cbv;replace hO := hO.tl0 (t := .nil) rfl;obtain ⟨o10, hx, h⟩ := bind_some h;replace hO := hO.cast (L' := [.tl .nil, .blk b2 (.cells [.sl (Ar.lst Encs.eGInterval ([])) .nil])]) (by first | (simp only [← lst_nil]; done) | (simp only [← lst_nil]; rfl));refine n_range cf56 hE okP (ι := Unit) (enc := fun (x : GInterval) => [.agg [.int .i64 x.Low, .int .i64 x.High]]) (fun (s6 : (List GInterval)) F H => ∃ g : Tail, (Appn g) ∧ Own Eq F [.tl g, .blk b2 (.cells [.sl (Ar.lst Encs.eGInterval s6) g])] H) (fun (r : Unit) e F H => False) (fun i s6 y5 => [(5, .v (.ref b2 0)), (6, .v (.eref [.int .i64 y5.Low, .int .i64 y5.High] 0))]) (fun i s6 y5 F H => ∃ g : Tail, (Appn g) ∧ Own Eq F [.tl g, .blk b2 (.cells [.sl (Ar.lst Encs.eGInterval s6) g])] H) (fun _ => Stable.ex fun _ => Own.stable stable_eq _) (fun _ _ => ⟨fun h => h.elim, fun _ _ h => h.elim⟩) (fun _ _ _ => Stable.ex fun _ => Own.stable stable_eq _) hv4 hx (⟨.nil, trivial, hO⟩) (by decide) (fun _ => rfl) (by kernel_rfl) (by kernel_rfl) ?_ ?_ ?_ ?_
  ·rintro E i8 y5 s6 F7 H hE ⟨t9, ht9, hO⟩;clear hx h;cbv;exact ⟨(), ⟨t9, ht9, hO⟩, .e rfl (.e rfl (.z)), rfl⟩
  ·rintro E i8 _ y5 s6 F7 H o hE hF h ⟨t9, ht9, hO⟩;clear hx;cbv;refine n_load hE hO 1 rfl ?_;cbv;refine n_appn (f := Encs.eGInterval) hE sz_GInterval (by decide) hO 0 rfl ht9 (l := s6) (m := [y5]) (.refl _) (.lstc (.eq (Encs.eGInterval_eq y5) (.refl _)) (.lst0)) h fun l12 t11 H hO ht11 h => ?_;cbv;refine n_store hE hO 1 rfl rfl fun H hO => ?_;cbv;have h := ret_some h;subst h;exact ⟨_, rfl, ⟨t11, ht11, hO⟩⟩
  ·rintro d13 s16 H rfl hd ⟨t17, ht17, hO⟩
   have hO : Own Eq H0 [.tl t17, .blk b2 (.cells [.sl (Ar.lst Encs.eGInterval s16) t17]), .blk d13 DB] H := Own.dblk hd hO
   clear hd;clear hx;cbv;refine n_load hE hO 1 rfl ?_;cbv;refine n_call hE (g := fun r18 => .tup [.sl (Ar.lst Encs.eGInterval r18.1) .ro, .int .i64 r18.2]) h (fun r18 hx => c93 N s16 r18 hx) (.cons (.ro _ _) (.refl _)) fun r18 h => ?_;cbv;refine n_fin hE hO 2 rfl fun H hO => ?_;cbv;have h := ret_some h;subst h;exact hK _ _ _ hO (.refl _)
  ·rintro d r e H rfl hd hO;exact hO.elim
def cf132 : Cf := ⟨[], [], [], [], [], []⟩
theorem c132 (N : Nat) (x_x : Bool) (x_y : Bool) (r : Bool) (h : interval_Minus_1 N x_x x_y = some r) : CallP Tryz.prog 132 [.bool x_x, .bool x_y] (.bool r) := by
 unfold interval_Minus_1 at h
 refine callP_of_spec cf132 okP Tryz.func132 (by rfl) (by kernel_rfl) Tryz.call132 Tryz.ntmps132 (by rfl) (by rfl) ?_;intro E H0 K hE hK
 have hO : Own Eq H0 [] H0 := .start stable_eq rfl
 cbv;have h := ret_some h;subst h;exact hK _ _ _ hO (.refl _)
def cf94 : Cf := ⟨[], [], [], [], [], []⟩
theorem c94 (N : Nat) (x_a : List GInterval) (x_b : List GInterval) (r : ((List GInterval) × Int)) (h : interval_Minus N x_a x_b = some r) : CallP Tryz.prog 94 [.sl (Ar.lst Encs.eGInterval x_a) .ro, .sl (Ar.lst Encs.eGInterval x_b) .ro] (.tup [.sl (Ar.lst Encs.eGInterval r.1) .ro, .int .i64 r.2]) := by
 unfold interval_Minus at h
 refine callP_of_spec cf94 okP Tryz.func94 (by rfl) (by kernel_rfl) Tryz.call94 Tryz.ntmps94 (by rfl) (by rfl) ?_;intro E H0 K hE hK
 have hO : Own Eq H0 [] H0 := .start stable_eq rfl
 cbv;refine n_call hE (g := fun r1 => .tup [.sl (Ar.lst Encs.eGInterval r1.1) .ro, .int .i64 r1.2]) h (fun r1 hx => c89 N x_a x_b (.func (.func 132) [] []) (fun y1 y2 => interval_Minus_1 N y1 y2) (fun y1 y2 r hx => CallP.value (F := []) (C := []) (c132 N y1 y2 r hx)) r1 hx) (.refl _) fun r1 h => ?_;cbv;have h := ret_some h;subst h;exact hK _ _ _ hO (.refl _)
def cf57 : Cf := ⟨[], [], [], [], [], []⟩
theorem c57 (N : Nat) (x_a : List GInterval) (x_b : List GInterval) (r : ((List GInterval) × Int)) (h : predicate_same N x_a x_b = some r) : CallP Tryz.prog 57 [.sl (Ar.lst Encs.eGInterval x_a) .ro, .sl (Ar.lst Encs.eGInterval x_b) .ro] (.tup [.sl (Ar.lst Encs.eGInterval r.1) .ro, .int .i64 r.2]) := by
 unfold predicate_same at h
 refine callP_of_spec cf57 okP Tryz.func57 (by rfl) (by kernel_rfl) Tryz.call57 Tryz.ntmps57 (by rfl) (by rfl) ?_;intro E H0 K hE hK
 have hO : Own Eq H0 [] H0 := .start stable_eq rfl
 cbv;refine n_call hE (g := fun r1 => .tup [.sl (Ar.lst Encs.eGInterval r1.1) .ro, .int .i64 r1.2]) h (fun r1 hx => c94 N x_a x_b r1 hx) (.refl _) fun r1 h => ?_;cbv;refine n_br hE h (fun hc h => ?_) (fun hc h => ?_)
 ·cbv;have h := ret_some h;subst h;exact hK _ _ _ hO (.tup (.cons (.lit _ (lst_nil)) (.refl _)))
 ·cbv;refine n_call hE (g := fun r2 => .tup [.sl (Ar.lst Encs.eGInterval r2.1) .ro, .int .i64 r2.2]) h (fun r2 hx => c94 N x_b x_a r2 hx) (.refl _) fun r2 h => ?_;cbv;refine n_br hE h (fun hc h => ?_) (fun hc h => ?_)
  ·cbv;have h := ret_some h;subst h;exact hK _ _ _ hO (.tup (.cons (.lit _ (lst_nil)) (.refl _)))
  ·cbv;refine n_call hE (g := fun r3 => .tup [.sl (Ar.lst Encs.eGInterval r3.1) .ro, .int .i64 r3.2]) h (fun r3 hx => c55 N r1.1 r2.1 r3 hx) (.refl _) fun r3 h => ?_;cbv;refine n_br hE h (fun hc h => ?_) (fun hc h => ?_)
   ·cbv;have h := ret_some h;subst h;exact hK _ _ _ hO (.tup (.cons (.lit _ (lst_nil)) (.refl _)))
   ·cbv;refine n_call hE (g := fun r4 => .tup [.sl (Ar.lst Encs.eGInterval r4.1) .ro, .int .i64 r4.2]) h (fun r4 hx => c56 N r3.1 r4 hx) (.refl _) fun r4 h => ?_;cbv;have h := ret_some h;subst h;exact hK _ _ _ hO (.refl _)
def cf26 : Cf := ⟨[], [(32, 9), (34, 9), (37, 9)], [(32, 11)], [0], [], []⟩
theorem c26 (N : Nat) : ∀ (n : Nat) (x_e : GExpr) (x_field : Int) (x_own : Int) (r : ((List GInterval) × Int)), predicate_solve N n x_e x_field x_own = some r → CallP Tryz.prog 26 [.agg [.int .i64 x_e.Op, .sl (Ar.lst Encs.eGExpr x_e.Args) .ro, .int .i64 x_e.Var, .int .i64 x_e.Field, .int .i64 x_e.Kind, .int .i64 x_e.Value.Kind, .int .i64 x_e.Value.Num, .str x_e.Value.Text], .int .i64 x_field, .int .i64 x_own] (.tup [.sl (Ar.lst Encs.eGInterval r.1) .ro, .int .i64 r.2]) := by
 intro n
 induction n with
 | zero => intro x_e x_field x_own r h; cases h
 | succ n ih =>
 intro x_e x_field x_own r h
 unfold predicate_solve at h
 refine callP_of_spec cf26 okP Tryz.func26 (by rfl) (by kernel_rfl) Tryz.call26 Tryz.ntmps26 (by rfl) (by rfl) ?_;intro E H0 K hE hK
 have hO : Own Eq H0 [] H0 := .start stable_eq rfl
 cbv;obtain ⟨s1, hx, h⟩ := bind_some h;refine n_join cf26 hE okP (fun e l H1 => match (generalizing := false) s1 with | .inl y => e = .normal ∧ l = [(1, .v (.int .i64 x_field)), (2, .v (.int .i64 x_own)), (3, .v (.eref [.int .i64 x_e.Op, .sl (Ar.lst Encs.eGExpr x_e.Args) .ro, .int .i64 x_e.Var, .int .i64 x_e.Field, .int .i64 x_e.Kind, .int .i64 x_e.Value.Kind, .int .i64 x_e.Value.Num, .str x_e.Value.Text] 0))] ∧ Own Eq H0 [] H1 | .inr y => e = .ret ∧ l = [(6, .v (.sl (Ar.lst Encs.eGInterval y.1) .ro)), (7, .v (.int .i64 y.2))] ∧ Own Eq H0 [] H1) (by kernel_rfl) ?_ ?_
 ·clear h;have h := hx;clear hx;cbv;refine n_br hE h (fun hc h => ?_) (fun hc h => ?_)
  ·cbv;refine n_br hE h (fun hc h => ?_) (fun hc h => ?_)
   ·cbv;have h := ret_some h;subst h;exact ⟨_, ⟨rfl, rfl, hO⟩, .v (.lit _ (lst_nil)) (.e rfl (.z)), rfl⟩
   ·cbv;refine n_br hE h (fun hc h => ?_) (fun hc h => ?_)
    ·cbv;refine n_call hE (g := fun r2 => .sl (Ar.lst Encs.eGInterval r2) .ro) h (fun r2 hx => c51 N  r2 hx) (.refl _) fun r2 h => ?_;cbv;have h := ret_some h;subst h;exact ⟨_, ⟨rfl, rfl, hO⟩, .e rfl (.e rfl (.z)), rfl⟩
    ·cbv;have h := ret_some h;subst h;exact ⟨_, ⟨rfl, rfl, hO⟩, .v (.lit _ (lst_nil)) (.e rfl (.z)), rfl⟩
  ·cbv;obtain ⟨s3, hx, h⟩ := bind_some h;refine n_join cf26 hE okP (fun e l H1 => e = .normal ∧ l = [(1, .v (.int .i64 x_field)), (2, .v (.int .i64 x_own)), (3, .v (.eref [.int .i64 x_e.Op, .sl (Ar.lst Encs.eGExpr x_e.Args) .ro, .int .i64 x_e.Var, .int .i64 x_e.Field, .int .i64 x_e.Kind, .int .i64 x_e.Value.Kind, .int .i64 x_e.Value.Num, .str x_e.Value.Text] 0)), (18, .v (.int .i64 x_e.Op)), (32, .v (.bool s3))] ∧ Own Eq H0 [] H1) (by kernel_rfl) ?_ ?_
   ·clear h;have h := hx;clear hx;cbv;refine n_br hE h (fun hc h => ?_) (fun hc h => ?_)
    ·cbv;have h := ret_some h;subst h;exact ⟨_, ⟨rfl, rfl, hO⟩, .e rfl (.e rfl (.e rfl (.e rfl (.e rfl (.z))))), rfl⟩
    ·cbv;refine n_br hE h (fun hc h => ?_) (fun hc h => ?_)
     ·cbv;have h := ret_some h;subst h;exact ⟨_, ⟨rfl, rfl, hO⟩, .e rfl (.e rfl (.e rfl (.e rfl (.e rfl (.z))))), rfl⟩
     ·cbv;have h := ret_some h;subst h;exact ⟨_, ⟨rfl, rfl, hO⟩, .e rfl (.e rfl (.e rfl (.e rfl (.e rfl (.z))))), rfl⟩
   ·clear hx;rintro e l H ⟨rfl, rfl, hO⟩;cbv;refine n_br hE h (fun hc h => ?_) (fun hc h => ?_)
    ·cbv;refine n_idx hE Encs.eGExpr_eq h fun x4 h => ?_;cbv;refine n_call hE (g := fun r5 => .tup [.agg [.int .i64 r5.1.times, .int .i64 r5.1.plus], .bool r5.2]) h (fun r5 hx => c52 N N x4 x_field x_own r5 hx) (.refl _) fun r5 h => ?_;cbv;refine n_idx hE Encs.eGExpr_eq h fun x6 h => ?_;cbv;refine n_call hE (g := fun r7 => .tup [.agg [.int .i64 r7.1.times, .int .i64 r7.1.plus], .bool r7.2]) h (fun r7 hx => c52 N N x6 x_field x_own r7 hx) (.refl _) fun r7 h => ?_;cbv;refine n_br hE h (fun hc h => ?_) (fun hc h => ?_)
     ·cbv;refine n_call hE (g := fun r8 => .tup [.sl (Ar.lst Encs.eGInterval r8.1) .ro, .int .i64 r8.2]) h (fun r8 hx => c53 N x_e.Op r5.1 r7.1 r8 hx) (.refl _) fun r8 h => ?_;cbv;have h := ret_some h;subst h;exact ⟨_, ⟨rfl, rfl, hO⟩, .e rfl (.e rfl (.z)), rfl⟩
     ·cbv;refine n_br hE h (fun hc h => ?_) (fun hc h => ?_)
      ·cbv;have h := ret_some h;subst h;exact ⟨_, ⟨rfl, rfl, hO⟩, .v (.lit _ (lst_nil)) (.e rfl (.z)), rfl⟩
      ·cbv;have h := ret_some h;subst h;exact ⟨_, ⟨rfl, rfl, hO⟩, .e rfl (.e rfl (.e rfl (.z))), rfl⟩
    ·cbv;refine n_br hE h (fun hc h => ?_) (fun hc h => ?_)
     ·cbv;have h := ret_some h;subst h;exact ⟨_, ⟨rfl, rfl, hO⟩, .e rfl (.e rfl (.e rfl (.z))), rfl⟩
     ·cbv;refine n_br hE h (fun hc h => ?_) (fun hc h => ?_)
      ·cbv;have h := ret_some h;subst h;exact ⟨_, ⟨rfl, rfl, hO⟩, .e rfl (.e rfl (.e rfl (.z))), rfl⟩
      ·cbv;refine n_br hE h (fun hc h => ?_) (fun hc h => ?_)
       ·cbv;have h := ret_some h;subst h;exact ⟨_, ⟨rfl, rfl, hO⟩, .e rfl (.e rfl (.e rfl (.z))), rfl⟩
       ·cbv;have h := ret_some h;subst h;exact ⟨_, ⟨rfl, rfl, hO⟩, .v (.lit _ (lst_nil)) (.e rfl (.z)), rfl⟩
 ·clear hx
  rcases s1 with y9 | y32
  ·rintro e l H ⟨rfl, rfl, hO⟩;cbv;refine n_ln hE ?_;cbv;replace hO := hO.tl0 (t := .nil) rfl;obtain ⟨s12, hx, h⟩ := bind_some h;refine n_loopG cf26 hE okP (γ := Tail) (fun s10 g => [(1, .v (.int .i64 x_field)), (2, .v (.int .i64 x_own)), (3, .v (.eref [.int .i64 x_e.Op, .sl (Ar.lst Encs.eGExpr x_e.Args) .ro, .int .i64 x_e.Var, .int .i64 x_e.Field, .int .i64 x_e.Kind, .int .i64 x_e.Value.Kind, .int .i64 x_e.Value.Num, .str x_e.Value.Text] 0)), (12, .v (.sl (Ar.lst Encs.eLGInterval s10.1) g)), (75, .v (.sl (Ar.lst Encs.eGExpr x_e.Args) .ro)), (76, .v (.int .i64 (Ar.len x_e.Args))), (77, .v (.int .i64 s10.2))]) (fun s10 g H1 => Appn g ∧ Own Eq H0 [.tl g] H1) (fun x e l H1 => match (generalizing := false) x with | .inl y => ∃ u1 : Tail, Appn u1 ∧ e = .exit 2 ∧ l = [(3, .v (.eref [.int .i64 x_e.Op, .sl (Ar.lst Encs.eGExpr x_e.Args) .ro, .int .i64 x_e.Var, .int .i64 x_e.Field, .int .i64 x_e.Kind, .int .i64 x_e.Value.Kind, .int .i64 x_e.Value.Num, .str x_e.Value.Text] 0)), (12, .v (.sl (Ar.lst Encs.eLGInterval y) u1))] ∧ Own Eq H0 [.tl u1] H1 | .inr y => ∃ u1 : Tail, Appn u1 ∧ e = .ret ∧ l = [(6, .v (.sl [] .nil)), (7, .v (.int .i64 y))] ∧ Own Eq H0 [.tl u1] H1) (by kernel_rfl) ?_ .nil hx ?_ ?_ ?_
   ·rintro s10 t11 H o ⟨ht11, hO⟩ h;clear hx;cbv;refine n_br hE h (fun hc h => ?_) (fun hc h => ?_)
    ·cbv;refine n_idx hE Encs.eGExpr_eq h fun x13 h => ?_;cbv;refine n_call hE (g := fun r14 => .tup [.sl (Ar.lst Encs.eGInterval r14.1) .ro, .int .i64 r14.2]) h (fun r14 hx => ih x13 x_field x_own r14 hx) (.refl _) fun r14 h => ?_;cbv;refine n_br hE h (fun hc h => ?_) (fun hc h => ?_)
     ·cbv;have h := ret_some h;subst h;exact ⟨_, _, rfl, ⟨t11, ht11, rfl, rfl, hO⟩, .e rfl (.e rfl (.z)), rfl⟩
     ·cbv;refine n_appn (f := Encs.eLGInterval) hE sz_LGInterval (by decide) hO 0 rfl ht11 (l := s10.1) (m := [r14.1]) (.refl _) (.lstc (.eq (Encs.eLGInterval_eq r14.1) (.refl _)) (.lst0)) h fun l16 t15 H hO ht15 h => ?_;cbv;have h := ret_some h;subst h;exact ⟨_, t15, rfl, .e rfl (.e rfl (.e rfl (.e rfl (.e rfl (.e rfl (.e rfl (.z))))))), rfl, ht15, hO⟩
    ·cbv;have h := ret_some h;subst h;exact ⟨_, _, rfl, ⟨t11, ht11, rfl, rfl, hO⟩, .e rfl (.e rfl (.z)), rfl⟩
   ·exact .e rfl (.e rfl (.e rfl (.v (.slt _ (.lst0)) (.e rfl (.e rfl (.e rfl (.z)))))))
   ·exact ⟨trivial, hO⟩
   ·clear hx
    rcases s12 with y17 | y30
    ·rintro e l H ⟨t18, ht18, rfl, rfl, hO⟩;cbv;refine n_br hE h (fun hc h => ?_) (fun hc h => ?_)
     ·cbv;refine n_idx hE Encs.eLGInterval_eq h fun x19 h => ?_;cbv;refine n_idx hE Encs.eLGInterval_eq h fun x20 h => ?_;cbv;refine n_pcall hE (g := fun r21 => .tup [.sl (Ar.lst Encs.eGInterval r21.1) .ro, .int .i64 r21.2]) h (fun r21 hx => c54 N x19 x20 r21 hx) (.refl _) fun r21 h => ?_;cbv;have h := ret_some h;subst h;exact hK _ _ _ hO (.refl _)
     ·cbv;refine n_br hE h (fun hc h => ?_) (fun hc h => ?_)
      ·cbv;refine n_idx hE Encs.eLGInterval_eq h fun x22 h => ?_;cbv;refine n_idx hE Encs.eLGInterval_eq h fun x23 h => ?_;cbv;refine n_pcall hE (g := fun r24 => .tup [.sl (Ar.lst Encs.eGInterval r24.1) .ro, .int .i64 r24.2]) h (fun r24 hx => c55 N x22 x23 r24 hx) (.refl _) fun r24 h => ?_;cbv;have h := ret_some h;subst h;exact hK _ _ _ hO (.refl _)
      ·cbv;refine n_br hE h (fun hc h => ?_) (fun hc h => ?_)
       ·cbv;refine n_idx hE Encs.eLGInterval_eq h fun x25 h => ?_;cbv;refine n_call hE (g := fun r26 => .tup [.sl (Ar.lst Encs.eGInterval r26.1) .ro, .int .i64 r26.2]) h (fun r26 hx => c56 N x25 r26 hx) (.refl _) fun r26 h => ?_;cbv;have h := ret_some h;subst h;exact hK _ _ _ hO (.refl _)
       ·cbv;refine n_idx hE Encs.eLGInterval_eq h fun x27 h => ?_;cbv;refine n_idx hE Encs.eLGInterval_eq h fun x28 h => ?_;cbv;refine n_pcall hE (g := fun r29 => .tup [.sl (Ar.lst Encs.eGInterval r29.1) .ro, .int .i64 r29.2]) h (fun r29 hx => c57 N x27 x28 r29 hx) (.refl _) fun r29 h => ?_;cbv;have h := ret_some h;subst h;exact hK _ _ _ hO (.refl _)
    ·rintro e l H ⟨t31, ht31, rfl, rfl, hO⟩;cbv;have h := ret_some h;subst h;exact hK _ _ _ hO (.tup (.cons (.lit _ (lst_nil)) (.refl _)))
  ·rintro e l H ⟨rfl, rfl, hO⟩;cbv;have h := ret_some h;subst h;exact hK _ _ _ hO (.refl _)
def cf58 : Cf := ⟨[], [], [], [], [], []⟩
theorem c58 (N : Nat) (x_s : List GField) (v_f : V) (x_f : GField → Option Bool) (h_f : ∀ y1 q, x_f y1 = some q → CallVP Tryz.prog v_f [.agg [.str y1.Name, .int .i64 y1.Kind]] (.bool q)) (r : Int) (h : slices_IndexFunc_LField_Field N x_s x_f = some r) : CallP Tryz.prog 58 [.sl (Ar.lst Encs.eGField x_s) .ro, v_f] (.int .i64 r) := by
 unfold slices_IndexFunc_LField_Field at h
 refine callP_of_spec cf58 okP Tryz.func58 (by rfl) (by kernel_rfl) Tryz.call58 Tryz.ntmps58 (by rfl) (by rfl) ?_;intro E H0 K hE hK
 have hO : Own Eq H0 [] H0 := .start stable_eq rfl
 cbv;refine n_ln hE ?_;cbv;obtain ⟨s2, hx, h⟩ := bind_some h;refine n_loopN cf58 hE okP (fun s1 => [(0, .v (.sl (Ar.lst Encs.eGField x_s) .ro)), (1, .v (v_f)), (7, .v (.int .i64 (Ar.len x_s))), (8, .v (.int .i64 s1))]) (fun s1 H1 => Own Eq H0 [] H1) (fun x e l H1 => match (generalizing := false) x with | .inl y => e = .exit 0 ∧ l = [] ∧ Own Eq H0 [] H1 | .inr y => e = .ret ∧ l = [(4, .v (.int .i64 y))] ∧ Own Eq H0 [] H1) (by kernel_rfl) ?_ hx ?_ hO ?_
 ·intro s1 H o hO h;clear hx;cbv;refine n_br hE h (fun hc h => ?_) (fun hc h => ?_)
  ·cbv;refine n_idx hE Encs.eGField_eq h fun x3 h => ?_;cbv;refine n_callF hE (g := fun r4 => .bool r4) h (fun r4 hx => h_f x3 r4 hx) (.refl _) fun r4 h => ?_;cbv;refine n_br hE h (fun hc h => ?_) (fun hc h => ?_)
   ·cbv;have h := ret_some h;subst h;exact ⟨_, _, rfl, ⟨rfl, rfl, hO⟩, .e rfl (.z), rfl⟩
   ·cbv;have h := ret_some h;subst h;exact ⟨_, rfl, .e rfl (.e rfl (.e rfl (.e rfl (.z)))), rfl, hO⟩
  ·cbv;have h := ret_some h;subst h;exact ⟨_, _, rfl, ⟨rfl, rfl, hO⟩, .z, rfl⟩
 ·exact .e rfl (.e rfl (.e rfl (.e rfl (.z))))
 ·clear hx
  rcases s2 with y5 | y6
  ·rintro e l H ⟨rfl, rfl, hO⟩;cbv;have h := ret_some h;subst h;exact hK _ _ _ hO (.refl _)
  ·rintro e l H ⟨rfl, rfl, hO⟩;cbv;have h := ret_some h;subst h;exact hK _ _ _ hO (.refl _)
def cf59 : Cf := ⟨[], [], [], [], [], []⟩
theorem c59 (N : Nat) (x_f : GField) (r : Bool) (h : predicate_numeric_1 N x_f = some r) : CallP Tryz.prog 59 [.agg [.str x_f.Name, .int .i64 x_f.Kind]] (.bool r) := by
 unfold predicate_numeric_1 at h
 refine callP_of_spec cf59 okP Tryz.func59 (by rfl) (by kernel_rfl) Tryz.call59 Tryz.ntmps59 (by rfl) (by rfl) ?_;intro E H0 K hE hK
 have hO : Own Eq H0 [] H0 := .start stable_eq rfl
 cbv;have h := ret_some h;subst h;exact hK _ _ _ hO (.refl _)
def cf27 : Cf := ⟨[], [], [], [], [], []⟩
theorem c27 (N : Nat) (x_s : GSchema) (r : Int) (h : predicate_numeric N x_s = some r) : CallP Tryz.prog 27 [.agg [.str x_s.Name, .sl (Ar.lst Encs.eGField x_s.Fields) .ro]] (.int .i64 r) := by
 unfold predicate_numeric at h
 refine callP_of_spec cf27 okP Tryz.func27 (by rfl) (by kernel_rfl) Tryz.call27 Tryz.ntmps27 (by rfl) (by rfl) ?_;intro E H0 K hE hK
 have hO : Own Eq H0 [] H0 := .start stable_eq rfl
 cbv;refine n_call hE (g := fun r1 => .int .i64 r1) h (fun r1 hx => c58 N x_s.Fields (.func (.func 59) [] []) (fun y1 => predicate_numeric_1 N y1) (fun y1 r hx => CallP.value (F := []) (C := []) (c59 N y1 r hx)) r1 hx) (.refl _) fun r1 h => ?_;cbv;have h := ret_some h;subst h;exact hK _ _ _ hO (.refl _)
def cf7 : Cf := ⟨[8], [(8, 13), (13, 12)], [], [], [], []⟩
theorem c7 (N : Nat) (x_types : List GSchema) (x_index : Int) (x_cond : GExpr) (x_own : Int) (r : (GPredicate × Int)) (h : predicate_Of N x_types x_index x_cond x_own = some r) : CallP Tryz.prog 7 [.sl (Ar.lst Encs.eGSchema x_types) .ro, .int .i64 x_index, .agg [.int .i64 x_cond.Op, .sl (Ar.lst Encs.eGExpr x_cond.Args) .ro, .int .i64 x_cond.Var, .int .i64 x_cond.Field, .int .i64 x_cond.Kind, .int .i64 x_cond.Value.Kind, .int .i64 x_cond.Value.Num, .str x_cond.Value.Text], .int .i64 x_own] (.tup [.agg [.sl (Ar.lst Encs.eLGInterval r.1.Sets) .ro], .int .i64 r.2]) := by
 unfold predicate_Of at h
 refine callP_of_specG cf7 okP Tryz.func7 (by rfl) (by kernel_rfl) Tryz.call7 Tryz.ntmps7 (by rfl) (by rfl) ?_;intro E H0 K hE hK hG
 have hO : Own Eq H0 [] H0 := .start stable_eq rfl
 cbv;refine n_alloc hE hO fun b1 H hO => ?_;cbv;refine n_call hE (g := fun r2 => .int .i64 r2) h (fun r2 hx => c23 N x_types r2 hx) (.refl _) fun r2 h => ?_;cbv;refine n_br hE h (fun hc h => ?_) (fun hc h => ?_)
 ·cbv;refine n_store hE hO 0 rfl rfl fun H hO => ?_;cbv;refine n_load hE hO 0 rfl ?_;cbv;have h := ret_some h;subst h;exact hK _ _ _ hO (.tup (.cons (.agg (.cons (.lit _ (lst_nil)) (.refl _))) (.refl _)))
 ·cbv;refine n_ln hE ?_;cbv;refine n_br hE h (fun hc h => ?_) (fun hc h => ?_)
  ·cbv;refine n_store hE hO 0 rfl rfl fun H hO => ?_;cbv;refine n_load hE hO 0 rfl ?_;cbv;have h := ret_some h;subst h;exact hK _ _ _ hO (.tup (.cons (.agg (.cons (.lit _ (lst_nil)) (.refl _))) (.refl _)))
  ·cbv;refine n_br hE h (fun hc h => ?_) (fun hc h => ?_)
   ·cbv;refine n_store hE hO 0 rfl rfl fun H hO => ?_;cbv;refine n_load hE hO 0 rfl ?_;cbv;have h := ret_some h;subst h;exact hK _ _ _ hO (.tup (.cons (.agg (.cons (.lit _ (lst_nil)) (.refl _))) (.refl _)))
   ·cbv;refine n_pcall hE (g := fun r3 => .sl (Ar.lst Encs.eGVariable r3) .ro) h (fun r3 hx => c25 N ([(⟨⟨#[]⟩, x_index⟩ : GVariable)]) (Ar.ar .add .i64 x_own 1) r3 hx) (.cons (.lit _ (lst_cons ((Encs.eGVariable_eq (⟨⟨#[]⟩, x_index⟩ : GVariable)).symm) (lst_nil))) (.refl _)) fun r3 h => ?_;cbv;refine n_pcall hE (g := fun r4 => .tup [.int .i64 r4.1, .int .i64 r4.2]) h (fun r4 hx => c24 N x_types r3 x_cond r4 hx) (.refl _) fun r4 h => ?_;cbv;refine n_br hE h (fun hc h => ?_) (fun hc h => ?_)
    ·cbv;refine n_store hE hO 0 rfl rfl fun H hO => ?_;cbv;refine n_load hE hO 0 rfl ?_;cbv;have h := ret_some h;subst h;exact hK _ _ _ hO (.tup (.cons (.agg (.cons (.lit _ (lst_nil)) (.refl _))) (.refl _)))
    ·cbv;refine n_br hE h (fun hc h => ?_) (fun hc h => ?_)
     ·cbv;refine n_store hE hO 0 rfl rfl fun H hO => ?_;cbv;refine n_load hE hO 0 rfl ?_;cbv;have h := ret_some h;subst h;exact hK _ _ _ hO (.tup (.cons (.agg (.cons (.lit _ (lst_nil)) (.refl _))) (.refl _)))
     ·cbv;refine n_idx hE Encs.eGSchema_eq h fun x5 h => ?_;cbv;refine n_pcall hE (g := fun r6 => .int .i64 r6) h (fun r6 hx => c27 N x5 r6 hx) (.refl _) fun r6 h => ?_;cbv;refine n_pcall hE (g := fun r7 => .tup [.sl (Ar.lst Encs.eGInterval r7.1) .ro, .int .i64 r7.2]) h (fun r7 hx => c26 N N x_cond r6 x_own r7 hx) (.refl _) fun r7 h => ?_;cbv;refine n_br hE h (fun hc h => ?_) (fun hc h => ?_)
      ·cbv;refine n_store hE hO 0 rfl rfl fun H hO => ?_;cbv;refine n_load hE hO 0 rfl ?_;cbv;have h := ret_some h;subst h;exact hK _ _ _ hO (.tup (.cons (.agg (.cons (.lit _ (lst_nil)) (.refl _))) (.refl _)))
      ·cbv;refine n_ln hE ?_;cbv;obtain ⟨l8, hmk, h⟩ := bind_some h;obtain ⟨_, hin, h⟩ := bind_some h;obtain ⟨l9, hup, h⟩ := bind_some h;refine n_omk hE (f := Encs.eLGInterval) (z0 := ([] : List GInterval)) (by decide) (.eq (Encs.eLGInterval_eq []) (.lit _ (lst_nil))) hO (F := fun l => some l) (r := l8) (show (mkL (Ar.len x_types) (Ar.len x_types) ([] : List GInterval)).bind (fun l => some l) = some l8 by rw [hmk]; rfl) fun l8' q8 H hq8 e8 hO => ?_
       cases e8
       cbv
       have hb : 0 ≤ x_index ∧ x_index < (l8.length : Nat) := by
        unfold req inR at hin
        split at hin
        ·rename_i hd; exact of_decide_eq_true hd
        ·cases hin
       have e9 : l9 = l8.set x_index.toNat r7.1 := by
        unfold updL at hup
        cases hx : idxL l8 x_index with
        | none => rw [hx] at hup; cases hup
        | some y => rw [hx] at hup; cases hup; rfl
       refine f_oidx hE (f := Encs.eLGInterval) hO hq8 0 rfl hb ?_;cbv;refine f_ostore hE (f := Encs.eLGInterval) (tz := 1) (x' := r7.1) (fun x => ⟨.sl (Ar.lst Encs.eGInterval r7.1) .ro, .refl _, rfl, rfl, by rw [Encs.eLGInterval_eq, Encs.eLGInterval_eq]; rfl⟩) (by decide) hO hq8 0 rfl hb fun H hO => ?_
       rw [← e9] at hO
       have hq9 : Okn q8 (Ar.len l9) := by rw [e9, Ar.len_eq, List.length_set, ← Ar.len_eq]; exact hq8
       cbv;refine n_store hE hO 1 rfl rfl fun H hO => ?_;cbv;refine n_load hE hO 1 rfl ?_;cbv;have h := ret_some h;subst h;obtain ⟨H2, g1, g2⟩ := hO.frzG (f := Encs.eLGInterval) 0 rfl hq9;exact hG _ _ _ _ g1.agg1.tup2 g2 (.refl _)
def cf36 : Cf := ⟨[], [(6, 8)], [], [], [], []⟩
theorem c36 (N : Nat) (x_a : List GInterval) (x_b : List GInterval) (r : Bool) (h : ref02_Same N x_a x_b = some r) : CallP Tryz.prog 36 [.sl (Ar.lst Encs.eGInterval x_a) .ro, .sl (Ar.lst Encs.eGInterval x_b) .ro] (.bool r) := by
 unfold ref02_Same at h
 refine callP_of_spec cf36 okP Tryz.func36 (by rfl) (by kernel_rfl) Tryz.call36 Tryz.ntmps36 (by rfl) (by rfl) ?_;intro E H0 K hE hK
 have hO : Own Eq H0 [] H0 := .start stable_eq rfl
 cbv;refine n_ln hE ?_;cbv;refine n_ln hE ?_;cbv;refine n_br hE h (fun hc h => ?_) (fun hc h => ?_)
 ·cbv;have h := ret_some h;subst h;exact hK _ _ _ hO (.refl _)
 ·cbv;obtain ⟨s2, hx, h⟩ := bind_some h;refine n_loopN cf36 hE okP (fun s1 => [(0, .v (.sl (Ar.lst Encs.eGInterval x_a) .ro)), (1, .v (.sl (Ar.lst Encs.eGInterval x_b) .ro)), (5, .v (.int .i64 s1))]) (fun s1 H1 => Own Eq H0 [] H1) (fun x e l H1 => match (generalizing := false) x with | .inl y => e = .exit 0 ∧ l = [] ∧ Own Eq H0 [] H1 | .inr y => e = .ret ∧ l = [(4, .b false)] ∧ Own Eq H0 [] H1) (by kernel_rfl) ?_ hx ?_ hO ?_
  ·intro s1 H o hO h;clear hx;cbv;refine n_ln hE ?_;cbv;refine n_br hE h (fun hc h => ?_) (fun hc h => ?_)
   ·cbv;refine n_idx hE Encs.eGInterval_eq h fun x3 h => ?_;cbv;refine n_idx hE Encs.eGInterval_eq h fun x4 h => ?_;cbv;refine n_br hE h (fun hc h => ?_) (fun hc h => ?_)
    ·cbv;have h := ret_some h;subst h;exact ⟨_, _, rfl, ⟨rfl, rfl, hO⟩, .b rfl (.z), rfl⟩
    ·cbv;have h := ret_some h;subst h;exact ⟨_, rfl, .e rfl (.e rfl (.e rfl (.z))), rfl, hO⟩
   ·cbv;have h := ret_some h;subst h;exact ⟨_, _, rfl, ⟨rfl, rfl, hO⟩, .z, rfl⟩
  ·exact .e rfl (.e rfl (.e rfl (.z)))
  ·clear hx
   rcases s2 with y5 | y6
   ·rintro e l H ⟨rfl, rfl, hO⟩;cbv;have h := ret_some h;subst h;exact hK _ _ _ hO (.refl _)
   ·rintro e l H ⟨rfl, rfl, hO⟩;cbv;have h := ret_some h;subst h;exact hK _ _ _ hO (.refl _)
def cf11 : Cf := ⟨[], [(6, 10)], [], [], [], []⟩
theorem c11 (N : Nat) (x_p : GPredicate) (x_q : GPredicate) (r : Bool) (h : ref27_Same N x_p x_q = some r) : CallP Tryz.prog 11 [.agg [.sl (Ar.lst Encs.eLGInterval x_p.Sets) .ro], .agg [.sl (Ar.lst Encs.eLGInterval x_q.Sets) .ro]] (.bool r) := by
 unfold ref27_Same at h
 refine callP_of_spec cf11 okP Tryz.func11 (by rfl) (by kernel_rfl) Tryz.call11 Tryz.ntmps11 (by rfl) (by rfl) ?_;intro E H0 K hE hK
 have hO : Own Eq H0 [] H0 := .start stable_eq rfl
 cbv;refine n_ln hE ?_;cbv;refine n_ln hE ?_;cbv;refine n_br hE h (fun hc h => ?_) (fun hc h => ?_)
 ·cbv;have h := ret_some h;subst h;exact hK _ _ _ hO (.refl _)
 ·cbv;obtain ⟨s2, hx, h⟩ := bind_some h;refine n_loopN cf11 hE okP (fun s1 => [(2, .v (.eref [.sl (Ar.lst Encs.eLGInterval x_p.Sets) .ro] 0)), (3, .v (.eref [.sl (Ar.lst Encs.eLGInterval x_q.Sets) .ro] 0)), (5, .v (.int .i64 s1))]) (fun s1 H1 => Own Eq H0 [] H1) (fun x e l H1 => match (generalizing := false) x with | .inl y => e = .exit 0 ∧ l = [] ∧ Own Eq H0 [] H1 | .inr y => e = .ret ∧ l = [(4, .b false)] ∧ Own Eq H0 [] H1) (by kernel_rfl) ?_ hx ?_ hO ?_
  ·intro s1 H o hO h;clear hx;cbv;refine n_ln hE ?_;cbv;refine n_br hE h (fun hc h => ?_) (fun hc h => ?_)
   ·cbv;refine n_idx hE Encs.eLGInterval_eq h fun x3 h => ?_;cbv;refine n_idx hE Encs.eLGInterval_eq h fun x4 h => ?_;cbv;refine n_call hE (g := fun r5 => .bool r5) h (fun r5 hx => c36 N x3 x4 r5 hx) (.refl _) fun r5 h => ?_;cbv;refine n_br hE h (fun hc h => ?_) (fun hc h => ?_)
    ·cbv;have h := ret_some h;subst h;exact ⟨_, _, rfl, ⟨rfl, rfl, hO⟩, .b rfl (.z), rfl⟩
    ·cbv;have h := ret_some h;subst h;exact ⟨_, rfl, .e rfl (.e rfl (.e rfl (.z))), rfl, hO⟩
   ·cbv;have h := ret_some h;subst h;exact ⟨_, _, rfl, ⟨rfl, rfl, hO⟩, .z, rfl⟩
  ·exact .e rfl (.e rfl (.e rfl (.z)))
  ·clear hx
   rcases s2 with y6 | y7
   ·rintro e l H ⟨rfl, rfl, hO⟩;cbv;have h := ret_some h;subst h;exact hK _ _ _ hO (.refl _)
   ·rintro e l H ⟨rfl, rfl, hO⟩;cbv;have h := ret_some h;subst h;exact hK _ _ _ hO (.refl _)
def cf42 : Cf := ⟨[], [], [], [], [], []⟩
theorem c42 (N : Nat) (x_types : Int) (x_p : GPredicate) (r : Int) (h : predicate_Check N x_types x_p = some r) : CallP Tryz.prog 42 [.int .i64 x_types, .agg [.sl (Ar.lst Encs.eLGInterval x_p.Sets) .ro]] (.int .i64 r) := by
 unfold predicate_Check at h
 refine callP_of_spec cf42 okP Tryz.func42 (by rfl) (by kernel_rfl) Tryz.call42 Tryz.ntmps42 (by rfl) (by rfl) ?_;intro E H0 K hE hK
 have hO : Own Eq H0 [] H0 := .start stable_eq rfl
 cbv;refine n_br hE h (fun hc h => ?_) (fun hc h => ?_)
 ·cbv;have h := ret_some h;subst h;exact hK _ _ _ hO (.refl _)
 ·cbv;refine n_ln hE ?_;cbv;refine n_br hE h (fun hc h => ?_) (fun hc h => ?_)
  ·cbv;have h := ret_some h;subst h;exact hK _ _ _ hO (.refl _)
  ·cbv;refine n_ln hE ?_;cbv;obtain ⟨s2, hx, h⟩ := bind_some h;refine n_loopN cf42 hE okP (fun s1 => [(22, .v (.sl (Ar.lst Encs.eLGInterval x_p.Sets) .ro)), (23, .v (.int .i64 (Ar.len x_p.Sets))), (24, .v (.int .i64 s1))]) (fun s1 H1 => Own Eq H0 [] H1) (fun x e l H1 => match (generalizing := false) x with | .inl y => e = .exit 1 ∧ l = [] ∧ Own Eq H0 [] H1 | .inr y => e = .ret ∧ l = [(4, .v (.int .i64 y))] ∧ Own Eq H0 [] H1) (by kernel_rfl) ?_ hx ?_ hO ?_
   ·intro s1 H o hO h;clear hx;cbv;refine n_br hE h (fun hc h => ?_) (fun hc h => ?_)
    ·cbv;refine n_idx hE Encs.eLGInterval_eq h fun x3 h => ?_;cbv;refine n_call hE (g := fun r4 => .int .i64 r4) h (fun r4 hx => c71 N x3 r4 hx) (.refl _) fun r4 h => ?_;cbv;refine n_br hE h (fun hc h => ?_) (fun hc h => ?_)
     ·cbv;have h := ret_some h;subst h;exact ⟨_, _, rfl, ⟨rfl, rfl, hO⟩, .e rfl (.z), rfl⟩
     ·cbv;have h := ret_some h;subst h;exact ⟨_, rfl, .e rfl (.e rfl (.e rfl (.z))), rfl, hO⟩
    ·cbv;have h := ret_some h;subst h;exact ⟨_, _, rfl, ⟨rfl, rfl, hO⟩, .z, rfl⟩
   ·exact .e rfl (.e rfl (.e rfl (.z)))
   ·clear hx
    rcases s2 with y5 | y6
    ·rintro e l H ⟨rfl, rfl, hO⟩;cbv;have h := ret_some h;subst h;exact hK _ _ _ hO (.refl _)
    ·rintro e l H ⟨rfl, rfl, hO⟩;cbv;have h := ret_some h;subst h;exact hK _ _ _ hO (.refl _)
def cf43 : Cf := ⟨[6000010], [], [], [], [], []⟩
theorem c43 (N : Nat) (x_l : List GPredicate) (x_index : Int) (r : (List Int)) (h : predicate_cuts N x_l x_index = some r) : CallP Tryz.prog 43 [.sl (Ar.lst Encs.eGPredicate x_l) .ro, .int .i64 x_index] (.sl (Ar.lst (V.int .i64) r) .ro) := by
 unfold predicate_cuts at h
 refine callP_of_specF (T := TT) cf43 okP Tryz.func43 (by rfl) (by kernel_rfl) Tryz.call43 Tryz.ntmps43 (by rfl) (by rfl) ?_;intro E H0 K hE hK hF
 have hO : Own Eq H0 [] H0 := .start stable_eq rfl
 cbv;refine n_olit hE (f := (V.int .i64)) (l := ([(-1099511627776), 1099511627777] : List Int)) (.lstc (.refl _) (.lstc (.refl _) (.lst0))) hO fun q1 H hq1 hO => ?_;cbv;refine n_ln hE ?_;cbv;obtain ⟨s4, hx, h⟩ := bind_some h;refine n_loopG cf43 hE okP (γ := OG) (fun s2 g => [(1, .v (.int .i64 x_index)), (5, .v (.own g.id g.lo g.n)), (11, .v (.sl (Ar.lst Encs.eGPredicate x_l) .ro)), (12, .v (.int .i64 (Ar.len x_l))), (13, .v (.int .i64 s2.1))]) (fun s2 g H1 => Okn g (Ar.len s2.2) ∧ Own Eq H0 [.blk g.id (.arr 1 (g.pre ++ Ar.lst (V.int .i64) s2.2 ++ g.rest))] H1) (fun x e l H1 => ∃ u1 : OG, Okn u1 (Ar.len x) ∧ e = .exit 0 ∧ l = [(5, .v (.own u1.id u1.lo u1.n))] ∧ Own Eq H0 [.blk u1.id (.arr 1 (u1.pre ++ Ar.lst (V.int .i64) x ++ u1.rest))] H1) (by kernel_rfl) ?_ q1 hx ?_ ?_ ?_
 ·rintro s2 q3 H o ⟨hq3, hO⟩ h;clear hx;cbv;refine n_br hE h (fun hc h => ?_) (fun hc h => ?_)
  ·cbv;refine n_idx hE Encs.eGPredicate_eq h fun x5 h => ?_;cbv;refine n_idx hE Encs.eLGInterval_eq h fun x6 h => ?_;cbv;refine n_ln hE ?_;cbv;obtain ⟨s9, hx, h⟩ := bind_some h;refine n_loopG cf43 hE okP (γ := OG) (fun s7 g => [(1, .v (.int .i64 x_index)), (5, .v (.own g.id g.lo g.n)), (11, .v (.sl (Ar.lst Encs.eGPredicate x_l) .ro)), (12, .v (.int .i64 (Ar.len x_l))), (13, .v (.int .i64 s2.1)), (21, .v (.sl (Ar.lst Encs.eGInterval x6) .ro)), (22, .v (.int .i64 (Ar.len x6))), (23, .v (.int .i64 s7.1))]) (fun s7 g H1 => Okn g (Ar.len s7.2) ∧ Own Eq H0 [.blk g.id (.arr 1 (g.pre ++ Ar.lst (V.int .i64) s7.2 ++ g.rest))] H1) (fun x e l H1 => ∃ u1 : OG, Okn u1 (Ar.len x) ∧ e = .exit 2 ∧ l = [(1, .v (.int .i64 x_index)), (5, .v (.own u1.id u1.lo u1.n)), (11, .v (.sl (Ar.lst Encs.eGPredicate x_l) .ro)), (12, .v (.int .i64 (Ar.len x_l))), (13, .v (.int .i64 s2.1))] ∧ Own Eq H0 [.blk u1.id (.arr 1 (u1.pre ++ Ar.lst (V.int .i64) x ++ u1.rest))] H1) (by kernel_rfl) ?_ q3 hx ?_ ?_ ?_
   ·rintro s7 q8 H o ⟨hq8, hO⟩ h;clear hx;cbv;refine n_br hE h (fun hc h => ?_) (fun hc h => ?_)
    ·cbv;refine n_idx hE Encs.eGInterval_eq h fun x10 h => ?_;cbv;refine n_oapp (f := (V.int .i64)) hE (fun _ => rfl) (by decide) hO hq8 0 rfl (m := [x10.Low, Ar.ar .add .i64 x10.High 1]) (src_sl (f := (V.int .i64)) hE (fun _ => rfl) (.lstc (.refl _) (.lstc (.refl _) (.lst0)))) h fun l12 q11 H hq11 hO h => ?_;cbv;have h := ret_some h;subst h;exact ⟨_, q11, rfl, .e rfl (.e rfl (.e rfl (.e rfl (.e rfl (.e rfl (.e rfl (.e rfl (.z)))))))), rfl, hq11, hO⟩
    ·cbv;have h := ret_some h;subst h;exact ⟨_, _, rfl, ⟨q8, hq8, rfl, rfl, hO⟩, .e rfl (.e rfl (.e rfl (.e rfl (.e rfl (.z))))), rfl⟩
   ·exact .e rfl (.e rfl (.e rfl (.e rfl (.e rfl (.e rfl (.e rfl (.e rfl (.z))))))))
   ·exact ⟨hq3, hO⟩
   ·clear hx;rintro e l H ⟨q13, hq13, rfl, rfl, hO⟩;cbv;have h := ret_some h;subst h;exact ⟨_, q13, rfl, .e rfl (.e rfl (.e rfl (.e rfl (.e rfl (.z))))), rfl, hq13, hO⟩
  ·cbv;have h := ret_some h;subst h;exact ⟨_, _, rfl, ⟨q3, hq3, rfl, rfl, hO⟩, .e rfl (.z), rfl⟩
 ·exact .e rfl (.e rfl (.e rfl (.e rfl (.e rfl (.z)))))
 ·exact ⟨hq1, hO⟩
 ·clear hx;rintro e l H ⟨q14, hq14, rfl, rfl, hO⟩;cbv;refine n_callS hE hO hq14 0 rfl h (fun l15 hx => c76 N s4 l15 hx) fun l15 H hq14 hO h => ?_;cbv;refine n_callOO hE (f := (V.int .i64)) hO hq14 0 rfl h (fun l16 hx => c77 N l15 l16 hx) (.refl _) fun l16 q17 H hq17 hO h => ?_;cbv;have h := ret_some h;subst h;exact hF q17 _ _ 0 _ _ hO rfl (okn_lst hE hq17) (.refl _)
def cf39 : Cf := ⟨[], [], [], [], [], []⟩
theorem c39 (N : Nat) (x_l : List GInterval) (x_n : Int) (r : (Bool × Int)) (h : interval_Contains N x_l x_n = some r) : CallP Tryz.prog 39 [.sl (Ar.lst Encs.eGInterval x_l) .ro, .int .i64 x_n] (.tup [.bool r.1, .int .i64 r.2]) := by
 unfold interval_Contains at h
 refine callP_of_spec cf39 okP Tryz.func39 (by rfl) (by kernel_rfl) Tryz.call39 Tryz.ntmps39 (by rfl) (by rfl) ?_;intro E H0 K hE hK
 have hO : Own Eq H0 [] H0 := .start stable_eq rfl
 cbv;refine n_call hE (g := fun r1 => .int .i64 r1) h (fun r1 hx => c71 N x_l r1 hx) (.refl _) fun r1 h => ?_;cbv;refine n_br hE h (fun hc h => ?_) (fun hc h => ?_)
 ·cbv;have h := ret_some h;subst h;exact hK _ _ _ hO (.refl _)
 ·cbv;refine n_call hE (g := fun r2 => .bool r2) h (fun r2 hx => c72 N x_l x_n r2 hx) (.refl _) fun r2 h => ?_;cbv;have h := ret_some h;subst h;exact hK _ _ _ hO (.refl _)
def cf44 : Cf := ⟨[9], [], [], [], [], []⟩
theorem c44 (N : Nat) (x_l : List GPredicate) (x_index : Int) (x_n : Int) (r : ByteArray) (h : predicate_signature N x_l x_index x_n = some r) : CallP Tryz.prog 44 [.sl (Ar.lst Encs.eGPredicate x_l) .ro, .int .i64 x_index, .int .i64 x_n] (.str r) := by
 unfold predicate_signature at h
 refine callP_of_spec cf44 okP Tryz.func44 (by rfl) (by kernel_rfl) Tryz.call44 Tryz.ntmps44 (by rfl) (by rfl) ?_;intro E H0 K hE hK
 have hO : Own Eq H0 [] H0 := .start stable_eq rfl
 cbv;refine n_ln hE ?_;cbv;refine n_omk hE (f := (V.int .u8)) (by decide) (z0 := (0 : Int)) ((.refl _)) hO h fun l2 q1 H hq1 h hO => ?_;cbv;refine n_ln hE ?_;cbv;obtain ⟨s5, hx, h⟩ := bind_some h;refine n_loopG cf44 hE okP (γ := OG) (fun s3 g => [(1, .v (.int .i64 x_index)), (2, .v (.int .i64 x_n)), (7, .v (.own g.id g.lo g.n)), (15, .v (.sl (Ar.lst Encs.eGPredicate x_l) .ro)), (16, .v (.int .i64 (Ar.len x_l))), (17, .v (.int .i64 s3.1))]) (fun s3 g H1 => Okn g (Ar.len s3.2) ∧ Own Eq H0 [.blk g.id (.arr 1 (g.pre ++ Ar.lst (V.int .u8) s3.2 ++ g.rest))] H1) (fun x e l H1 => ∃ u1 : OG, Okn u1 (Ar.len x) ∧ e = .exit 0 ∧ l = [(7, .v (.own u1.id u1.lo u1.n))] ∧ Own Eq H0 [.blk u1.id (.arr 1 (u1.pre ++ Ar.lst (V.int .u8) x ++ u1.rest))] H1) (by kernel_rfl) ?_ q1 hx ?_ ?_ ?_
 ·rintro s3 q4 H o ⟨hq4, hO⟩ h;clear hx;cbv;refine n_br hE h (fun hc h => ?_) (fun hc h => ?_)
  ·cbv;refine n_idx hE Encs.eGPredicate_eq h fun x6 h => ?_;cbv;refine n_alloc hE hO fun b7 H hO => ?_;cbv;refine n_store hE hO 0 rfl rfl fun H hO => ?_;cbv;refine n_load hE hO 0 rfl ?_;cbv;refine n_idx hE Encs.eLGInterval_eq h fun x8 h => ?_;cbv;refine n_call hE (g := fun r9 => .tup [.bool r9.1, .int .i64 r9.2]) h (fun r9 hx => c39 N x8 x_n r9 hx) (.refl _) fun r9 h => ?_;cbv;refine n_br hE h (fun hc h => ?_) (fun hc h => ?_)
   ·cbv;refine n_oidx hE hO hq4 1 rfl h fun h => ?_;cbv;refine n_ostore hE (f := (V.int .u8)) (esz := 1) (tz := 1) (off := 0) (u := (fun x10 : Int => 1)) (fun _ => ⟨.int .u8 1, .refl _, rfl, rfl, rfl⟩) (by decide) hO hq4 1 rfl h fun l11 H hq4 h hO => ?_;cbv;have h := ret_some h;subst h;exact ⟨_, q4, rfl, .e rfl (.e rfl (.e rfl (.e rfl (.e rfl (.e rfl (.z)))))), rfl, hq4, hO.tail⟩
   ·cbv;have h := ret_some h;subst h;exact ⟨_, q4, rfl, .e rfl (.e rfl (.e rfl (.e rfl (.e rfl (.e rfl (.z)))))), rfl, hq4, hO.tail⟩
  ·cbv;have h := ret_some h;subst h;exact ⟨_, _, rfl, ⟨q4, hq4, rfl, rfl, hO⟩, .e rfl (.z), rfl⟩
 ·exact .e rfl (.e rfl (.e rfl (.e rfl (.e rfl (.e rfl (.z))))))
 ·exact ⟨hq1, hO⟩
 ·clear hx;rintro e l H ⟨q12, hq12, rfl, rfl, hO⟩;cbv;refine n_ostr (e := 5) hE (by kernel_rfl) (by kernel_rfl) (by kernel_rfl) hO hq12 0 rfl h fun r13 h => ?_;cbv;have h := ret_some h;subst h;exact hK _ _ _ hO (.refl _)
abbrev RwI := Rw GInterval
def rwP (w : RwI) : GPredicate := ⟨w.row.map (·.1)⟩
abbrev fI : GInterval → V := Encs.eGInterval
theorem okn_set {α : Type} {q : OG} {l : List α} {i : Nat} {x : α} (h : Okn q (Ar.len l)) : Okn q (Ar.len (l.set i x)) := by rw [Ar.len_eq, List.length_set, ← Ar.len_eq]; exact h
theorem mkL_other {α β : Type} {n m : Int} {z : α} {z' : β} {l : List α} (h : mkL n m z = some l) : mkL n m z' = some (List.replicate n.toNat z') := by
 unfold mkL at h ⊢
 split at h
 ·rename_i hc; rw [if_pos hc]
 ·cases h
def tabB (q : OG) (F : List RwI) : En := .blk q.id (.arr 1 (q.pre ++ Ar.lst rwV F ++ q.rest))
theorem idx_rwP {F : List RwI} {c : Int} {p : GPredicate} (h : idxL (F.map rwP) c = some p) : (0 ≤ c ∧ c < (F.length : Nat)) ∧ ∃ w, F[c.toNat]? = some w ∧ p = rwP w := by
 obtain ⟨h1, h2⟩ := idxL_ok h
 rw [List.getElem?_map] at h2
 cases hw : F[c.toNat]? with
 | none => rw [hw] at h2; cases h2
 | some w => rw [hw] at h2; cases h2; exact ⟨by simpa using h1, w, rfl, rfl⟩
theorem getC_rwP {F : List RwI} {c i : Int} {x : List GInterval} (h : getC (F.map rwP) c i = some x) : (0 ≤ c ∧ c < (F.length : Nat)) ∧ ∃ w, F[c.toNat]? = some w ∧ (0 ≤ i ∧ i < (w.row.length : Nat)) ∧ ∃ t, w.row[i.toNat]? = some (x, t) := by
 obtain ⟨p, h1, h2⟩ := bind_some h;obtain ⟨h3, w, h4, rfl⟩ := idx_rwP h1;obtain ⟨h5, h6⟩ := idxL_ok h2
 simp only [rwP, List.length_map] at h5
 refine ⟨h3, w, h4, h5, ?_⟩
 simp only [rwP, List.getElem?_map] at h6
 cases hw : w.row[i.toNat]? with
 | none => rw [hw] at h6; cases h6
 | some y => rw [hw] at h6; cases h6; exact ⟨y.2, rfl⟩
theorem setC_rwP {F : List RwI} {c i : Int} {x : List GInterval} {l : List GPredicate} {w : RwI} (hw : F[c.toNat]? = some w) (h : setC (F.map rwP) c i x = some l) (t : Tail) : l = (F.set c.toNat ⟨w.q, w.row.set i.toNat (x, t)⟩).map rwP := by
 obtain ⟨p, h1, h2⟩ := bind_some h;obtain ⟨h3, w', h4, rfl⟩ := idx_rwP h1
 rw [hw] at h4; cases h4
 split at h2
 ·cases h2
  rw [List.map_set];simp only [rwP, List.map_set]
 ·cases h2
theorem tabB_set {q : OG} {F : List RwI} {c i : Nat} {w : RwI} {x' : List GInterval × Tail} (hc : F[c]? = some w) : tabB q (F.set c ⟨w.q, w.row.set i x'⟩) = tabB q F := by
 unfold tabB; rw [lst_rwV_set hc]
def cf45 : Cf := ⟨[6000008], [(14, 12)], [], [], [(69, 8)], []⟩
theorem c45 (N : Nat) (q : OG) (F : List RwI) (r : ((List GPredicate) × Int)) (h : predicate_tidy N (F.map rwP) = some r) {H0 H : Heap} {L : List En} (hO : Own Eq H0 (tabB q F :: (fo fI F ++ L)) H) (hq : Okn q (Ar.len F)) (hF : ∀ w ∈ F, RwOk w) :
 CallA Tryz.prog 45 [.own q.id q.lo q.n] H fun v H' => (∃ F' : List RwI, r = (F'.map rwP, 0) ∧ v = .tup [.own q.id q.lo q.n, .int .i64 0] ∧ Okn q (Ar.len F') ∧ (∀ w ∈ F', RwOk w) ∧ Own Eq H0 (tabB q F' :: (fo fI F' ++ L)) H') ∨ (r = ([], 5) ∧ v = .tup [.sl [] .nil, .int .i64 5] ∧ ∃ L', Own Eq H0 L' H') := by
 unfold predicate_tidy at h
 refine callA_of_run (T := TT) cf45 okP.1 okP.2 Tryz.func45 rfl (by kernel_rfl) Tryz.call45 Tryz.ntmps45 rfl rfl ?_;intro E hE
 have hlen : Ar.len (F.map rwP) = Ar.len F := by rw [Ar.len_eq, Ar.len_eq, List.length_map]
 rw [hlen] at h
 cbv;refine n_olen hE hq ?_;cbv;refine n_br hE h (fun hc h => ?_) (fun hc h => ?_)
 ·cbv;have h := ret_some h;subst h;exact .inr ⟨rfl, rfl, _, hO⟩
 ·cbv;refine n_olen hE hq ?_;cbv;obtain ⟨s2, hx, h⟩ := bind_some h
  refine n_loopG cf45 hE okP (γ := List RwI) (fun s1 g => [(0, .v (.own q.id q.lo q.n)), (15, .v (.own q.id q.lo q.n)), (16, .v (.int .i64 (Ar.len F))), (17, .v (.int .i64 s1.2))])
   (fun s1 g H1 => g.map rwP = s1.1 ∧ Okn q (Ar.len g) ∧ (∀ w ∈ g, RwOk w) ∧ Own Eq H0 (tabB q g :: (fo fI g ++ L)) H1)
   (fun x e l H1 => match (generalizing := false) x with | .inl y => ∃ g : List RwI, g.map rwP = y ∧ Okn q (Ar.len g) ∧ (∀ w ∈ g, RwOk w) ∧ e = .exit 0 ∧ l = [(0, .v (.own q.id q.lo q.n))] ∧ Own Eq H0 (tabB q g :: (fo fI g ++ L)) H1 | .inr y => e = .ret ∧ l = [(2, .v (.sl [] .nil)), (3, .v (.int .i64 5))] ∧ ∃ L', Own Eq H0 L' H1) (by kernel_rfl) ?_ F hx ?_ ?_ ?_
  ·rintro ⟨s1, c⟩ G H o ⟨hg, hq, hF, hO⟩ h;clear hx;subst hg;cbv;refine n_br hE h (fun hc h => ?_) (fun hc h => ?_)
   ·obtain ⟨x3, hi3, h⟩ := bind_some h;obtain ⟨hc0, w, hw, rfl⟩ := idx_rwP hi3
    have hwq : Okn w.q (Ar.len w.row) := hF w (List.mem_of_getElem? hw)
    have hsets : Ar.len (rwP w).Sets = Ar.len w.row := by rw [Ar.len_eq, Ar.len_eq]; simp [rwP]
    rw [hsets] at h
    cbv;refine f_oidx hE (f := rwV) hO hq 0 rfl hc0 ?_;cbv;refine f_oload hE (f := rwV) (fun _ => rfl) hO hq 0 rfl hc0.1 hw ?_;cbv;refine n_olen hE hwq ?_;cbv;obtain ⟨s5, hx, h⟩ := bind_some h
    refine n_loopG cf45 hE okP (γ := List RwI) (fun s4 g => [(0, .v (.own q.id q.lo q.n)), (5, .v (.eref [.own w.q.id w.q.lo w.q.n] 0)), (15, .v (.own q.id q.lo q.n)), (16, .v (.int .i64 (Ar.len F))), (17, .v (.int .i64 c)), (22, .v (.own w.q.id w.q.lo w.q.n)), (23, .v (.int .i64 (Ar.len w.row))), (24, .v (.int .i64 s4.2))])
     (fun s4 g H1 => (g.map rwP = s4.1 ∧ ∃ v, g[c.toNat]? = some v ∧ v.q = w.q) ∧ Okn q (Ar.len g) ∧ (∀ w ∈ g, RwOk w) ∧ Own Eq H0 (tabB q g :: (fo fI g ++ L)) H1)
     (fun x e l H1 => match (generalizing := false) x with | .inl y => ∃ g : List RwI, g.map rwP = y ∧ Okn q (Ar.len g) ∧ (∀ w ∈ g, RwOk w) ∧ e = .exit 2 ∧ l = [(0, .v (.own q.id q.lo q.n)), (15, .v (.own q.id q.lo q.n)), (16, .v (.int .i64 (Ar.len F))), (17, .v (.int .i64 c))] ∧ Own Eq H0 (tabB q g :: (fo fI g ++ L)) H1 | .inr y => e = .ret ∧ l = [(2, .v (.sl [] .nil)), (3, .v (.int .i64 5))] ∧ ∃ L', Own Eq H0 L' H1) (by kernel_rfl) ?_ G hx ?_ ?_ ?_
    ·rintro ⟨s4, i⟩ g H o ⟨⟨hg, v, hv, hvw⟩, hq, hF, hO⟩ h;clear hx;subst hg;cbv;refine n_br hE h (fun hc h => ?_) (fun hc h => ?_)
     ·obtain ⟨x6, hi6, h⟩ := bind_some h;obtain ⟨_, v', hv', hi0, t0, hi1⟩ := getC_rwP hi6
      rw [hv] at hv'; cases hv'
      obtain ⟨R, hO1, hback⟩ := hO.cell hv hi1
      have hvq : Okn w.q (Ar.len v.row) := by rw [← hvw]; exact hF v (List.mem_of_getElem? hv)
      have hrow : rwB fI v = .blk w.q.id (.arr 1 (w.q.pre ++ Ar.lst (cellV fI) v.row ++ w.q.rest)) := by rw [← hvw]; rfl
      rw [hrow] at hO1
      cbv;refine f_oidx hE (f := cellV fI) hO1 hvq 1 rfl hi0 ?_;cbv;refine f_oload hE (f := cellV fI) (fun _ => rfl) hO1 hvq 1 rfl hi0.1 hi1 ?_;cbv;refine n_onil hE (f := fI) hO1 fun q7 H hq7 hO => ?_;cbv;refine n_ln hE ?_;cbv;obtain ⟨s10, hx, h⟩ := bind_some h
      generalize hM : (En.tl t0 :: En.blk w.q.id (.arr 1 (w.q.pre ++ Ar.lst (cellV fI) v.row ++ w.q.rest)) :: tabB q g :: R : List En) = M1 at *
      refine n_loopG cf45 hE okP (γ := OG) (fun s8 g => [(0, .v (.own q.id q.lo q.n)), (5, .v (.eref [.own w.q.id w.q.lo w.q.n] 0)), (6, .v (.int .i64 i)), (8, .v (.own g.id g.lo g.n)), (15, .v (.own q.id q.lo q.n)), (16, .v (.int .i64 (Ar.len F))), (17, .v (.int .i64 c)), (22, .v (.own w.q.id w.q.lo w.q.n)), (23, .v (.int .i64 (Ar.len w.row))), (24, .v (.int .i64 i)), (29, .v (.sl (Ar.lst fI x6) .ro)), (30, .v (.int .i64 (Ar.len x6))), (31, .v (.int .i64 s8.1))])
       (fun s8 g H1 => Okn g (Ar.len s8.2) ∧ Own Eq H0 (.blk g.id (.arr 2 (g.pre ++ Ar.lst fI s8.2 ++ g.rest)) :: M1) H1)
       (fun x e l H1 => ∃ u1 : OG, Okn u1 (Ar.len x) ∧ e = .exit 4 ∧ l = [(0, .v (.own q.id q.lo q.n)), (5, .v (.eref [.own w.q.id w.q.lo w.q.n] 0)), (6, .v (.int .i64 i)), (8, .v (.own u1.id u1.lo u1.n)), (15, .v (.own q.id q.lo q.n)), (16, .v (.int .i64 (Ar.len F))), (17, .v (.int .i64 c)), (22, .v (.own w.q.id w.q.lo w.q.n)), (23, .v (.int .i64 (Ar.len w.row))), (24, .v (.int .i64 i))] ∧ Own Eq H0 (.blk u1.id (.arr 2 (u1.pre ++ Ar.lst fI x ++ u1.rest)) :: M1) H1) (by kernel_rfl) ?_ q7 hx ?_ ?_ ?_
      ·rintro s8 q9 H o ⟨hq9, hO⟩ h;clear hx;cbv;refine n_br hE h (fun hc h => ?_) (fun hc h => ?_)
       ·cbv;refine n_idx hE Encs.eGInterval_eq h fun x11 h => ?_;cbv;refine n_olen hE hq9 ?_;cbv;refine n_br hE h (fun hc h => ?_) (fun hc h => ?_)
        ·cbv;refine n_oidx hE hO hq9 0 rfl h fun h => ?_;cbv;refine n_oload hE Encs.eGInterval_eq hO hq9 0 rfl h fun x12 h => ?_;cbv;refine n_br hE h (fun hc h => ?_) (fun hc h => ?_)
         ·cbv;refine n_oidx hE hO hq9 0 rfl h fun h => ?_;cbv;refine n_ostore hE (f := Encs.eGInterval) (esz := 2) (tz := 1) (off := 1) (u := (fun x13 : GInterval => { x13 with High := x11.High })) (fun x13 => ⟨.int .i64 x11.High, .refl _, rfl, rfl, (by rw [Encs.eGInterval_eq, Encs.eGInterval_eq]; rfl)⟩) (by decide) hO hq9 0 rfl h fun l14 H hq9 h hO => ?_;cbv;have h := ret_some h;subst h;exact ⟨_, q9, rfl, .e rfl (.e rfl (.e rfl (.e rfl (.e rfl (.e rfl (.e rfl (.e rfl (.e rfl (.e rfl (.e rfl (.e rfl (.e rfl (.z))))))))))))), rfl, hq9, hO⟩
         ·cbv;refine n_oapp (f := Encs.eGInterval) hE sz_GInterval (by decide) hO hq9 0 rfl (m := [x11]) (src_sl (f := Encs.eGInterval) hE sz_GInterval (.lstc (.eq (Encs.eGInterval_eq x11) (.refl _)) (.lst0))) h fun l16 q15 H hq15 hO h => ?_;cbv;have h := ret_some h;subst h;exact ⟨_, q15, rfl, .e rfl (.e rfl (.e rfl (.e rfl (.e rfl (.e rfl (.e rfl (.e rfl (.e rfl (.e rfl (.e rfl (.e rfl (.e rfl (.z))))))))))))), rfl, hq15, hO⟩
        ·cbv;refine n_oapp (f := Encs.eGInterval) hE sz_GInterval (by decide) hO hq9 0 rfl (m := [x11]) (src_sl (f := Encs.eGInterval) hE sz_GInterval (.lstc (.eq (Encs.eGInterval_eq x11) (.refl _)) (.lst0))) h fun l18 q17 H hq17 hO h => ?_;cbv;have h := ret_some h;subst h;exact ⟨_, q17, rfl, .e rfl (.e rfl (.e rfl (.e rfl (.e rfl (.e rfl (.e rfl (.e rfl (.e rfl (.e rfl (.e rfl (.e rfl (.e rfl (.z))))))))))))), rfl, hq17, hO⟩
       ·cbv;have h := ret_some h;subst h;exact ⟨_, _, rfl, ⟨q9, hq9, rfl, rfl, hO⟩, .e rfl (.e rfl (.e rfl (.e rfl (.e rfl (.e rfl (.e rfl (.e rfl (.e rfl (.e rfl (.z)))))))))), rfl⟩
      ·exact .e rfl (.e rfl (.e rfl (.e rfl (.e rfl (.e rfl (.e rfl (.e rfl (.e rfl (.e rfl (.v (.ro _ _) (.e rfl (.e rfl (.z)))))))))))))
      ·exact ⟨hq7, hO⟩
      ·clear hx;rintro e l H ⟨q19, hq19, rfl, rfl, hO⟩;cbv;refine n_olen hE hq19 ?_;cbv;refine n_br hE h (fun hc h => ?_) (fun hc h => ?_)
       ·cbv;have h := ret_some h;subst h;exact ⟨_, _, rfl, ⟨rfl, rfl, _, hO⟩, .e rfl (.e rfl (.z)), rfl⟩
       ·subst hM;obtain ⟨l20, hs, h⟩ := bind_some h
        have hl := setC_rwP hv hs .ro
        cbv;refine n_ofrz hE (f := fI) hO hq19 0 rfl fun H hO => ?_;cbv;refine f_oidx hE (f := cellV fI) hO hvq 1 rfl hi0 ?_;cbv;refine f_ostore hE (f := cellV fI) (tz := 1) (x' := (s10, .ro)) (fun x => ⟨.sl (Ar.lst fI s10) .ro, .refl _, rfl, rfl, rfl⟩) (by decide) hO hvq 1 rfl hi0 fun H hO => ?_;cbv;have h := ret_some h;subst h
        have hO2 := hback (s10, .ro) H (by
         have := hO.tail.tl0 (t := .ro) rfl
         rw [show rwB fI ⟨v.q, v.row.set i.toNat (s10, .ro)⟩ = .blk w.q.id (.arr 1 (w.q.pre ++ Ar.lst (cellV fI) (v.row.set i.toNat (s10, .ro)) ++ w.q.rest)) by rw [← hvw]; rfl]
         exact this)
        rw [← tabB_set (q := q) (i := i.toNat) (x' := (s10, .ro)) hv] at hO2
        exact ⟨_, _, rfl, .e rfl (.e rfl (.e rfl (.e rfl (.e rfl (.e rfl (.e rfl (.e rfl (.z)))))))), rfl, ⟨hl.symm, ⟨_, List.getElem?_set_self (List.getElem?_eq_some_iff.1 hv).1, hvw⟩⟩, okn_set hq, ok_set hF hv, hO2⟩
     ·cbv;have h := ret_some h;subst h;exact ⟨_, _, rfl, ⟨g, rfl, hq, hF, rfl, rfl, hO⟩, .e rfl (.e rfl (.e rfl (.e rfl (.z)))), rfl⟩
    ·exact .e rfl (.e rfl (.e rfl (.e rfl (.e rfl (.e rfl (.e rfl (.e rfl (.z))))))))
    ·exact ⟨⟨rfl, w, hw, rfl⟩, hq, hF, hO⟩
    ·clear hx
     rcases s5 with y20 | y21
     ·rintro e l H ⟨g, hg, hq, hF, rfl, rfl, hO⟩;cbv;have h := ret_some h;subst h;exact ⟨_, g, rfl, .e rfl (.e rfl (.e rfl (.e rfl (.z)))), rfl, hg, hq, hF, hO⟩
     ·rintro e l H ⟨rfl, rfl, hO⟩;cbv;have h := ret_some h;subst h;exact ⟨_, _, rfl, ⟨rfl, rfl, hO⟩, .e rfl (.e rfl (.z)), rfl⟩
   ·cbv;have h := ret_some h;subst h;exact ⟨_, _, rfl, ⟨G, rfl, hq, hF, rfl, rfl, hO⟩, .e rfl (.z), rfl⟩
  ·exact .e rfl (.e rfl (.e rfl (.e rfl (.z))))
  ·exact ⟨rfl, hq, hF, hO⟩
  ·clear hx
   rcases s2 with y22 | y23
   ·rintro e l H ⟨g, hg, hq, hF, rfl, rfl, hO⟩;cbv;have h := ret_some h;subst h;exact .inl ⟨g, by rw [hg], rfl, hq, hF, hO⟩
   ·rintro e l H ⟨rfl, rfl, hO⟩;cbv;have h := ret_some h;subst h;exact .inr ⟨rfl, rfl, hO⟩
end Go.Ab

