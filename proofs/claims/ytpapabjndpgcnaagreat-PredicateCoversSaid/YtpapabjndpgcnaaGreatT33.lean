/- GPCo4 -/
import Derived.Test.YtpapabjndpgcnaaGreatT32
set_option linter.all false

namespace Go.Ab
open Go.RowKit Go.Proofs
variable [Ar] [Encs]
set_option maxRecDepth 100000
def cf106 : Cf := ⟨[], [], [], [], [], []⟩
theorem c106 (N : Nat) (x_a : GSymbol) (x_b : GSymbol) (r : Bool) (h : ref27_Before N x_a x_b = some r) : CallP Tryz.prog 106 [.agg [.int .i64 x_a.Typ, .int .i64 x_a.Num], .agg [.int .i64 x_b.Typ, .int .i64 x_b.Num]] (.bool r) := by
 unfold ref27_Before at h
 refine callP_of_spec cf106 okP Tryz.func106 (by rfl) (by kernel_rfl) Tryz.call106 Tryz.ntmps106 (by rfl) (by rfl) ?_;intro E H0 K hE hK
 have hO : Own Eq H0 [] H0 := .start stable_eq rfl
 cbv;have h := ret_some h;subst h;exact hK _ _ _ hO (.refl _)
def cf60 : Cf := ⟨[94, 6000011], [(9, 23), (20, 13), (23, 9), (1000023, 9)], [(51, 12)], [], [], []⟩
theorem c60 (N : Nat) (x_types : Int) (x_l : List GPredicate) (r : (List GPredicate)) (h : ref27_Classes N x_types x_l = some r) : CallP Tryz.prog 60 [.int .i64 x_types, .sl (Ar.lst Encs.eGPredicate x_l) .ro] (.sl (Ar.lst Encs.eGPredicate r) .ro) := by
 unfold ref27_Classes at h
 refine callP_of_specF (T := TT) cf60 okP Tryz.func60 (by rfl) (by kernel_rfl) Tryz.call60 Tryz.ntmps60 (by rfl) (by rfl) ?_;intro E H0 K hE hK hF
 have hO : Own Eq H0 [] H0 := .start stable_eq rfl
 cbv;refine n_call hE (g := fun r1 => .agg [.sl (Ar.lst Encs.eLGInterval r1.Sets) .ro]) h (fun r1 hx => c42 N x_types r1 hx) (.refl _) fun r1 h => ?_;cbv;replace hO := hO.tl0 (t := .full) rfl;obtain ⟨s3, hx, h⟩ := bind_some h;refine n_loopN cf60 hE okP (fun s2 => [(1, .v (.sl (Ar.lst Encs.eGPredicate x_l) .ro)), (5, .v (.sl (Ar.lst Encs.eGPredicate s2.1) .ro)), (6, .v (.int .i64 s2.2))]) (fun s2 H1 => Own Eq H0 [.tl .full] H1) (fun x e l H1 => e = .exit 0 ∧ l = [(5, .v (.sl (Ar.lst Encs.eGPredicate x) .ro))] ∧ Own Eq H0 [.tl .full] H1) (by kernel_rfl) ?_ hx ?_ hO ?_
 ·intro s2 H o hO h;clear hx;cbv;refine n_ln hE ?_;cbv;refine n_br hE h (fun hc h => ?_) (fun hc h => ?_)
  ·cbv;replace hO := hO.tl0 (t := .nil) rfl;obtain ⟨s6, hx, h⟩ := bind_some h;refine n_loopG cf60 hE okP (γ := Tail) (fun s4 g => [(1, .v (.sl (Ar.lst Encs.eGPredicate x_l) .ro)), (5, .v (.sl (Ar.lst Encs.eGPredicate s2.1) .ro)), (6, .v (.int .i64 s2.2)), (7, .v (.sl (Ar.lst Encs.eGPredicate s4.1) g)), (8, .v (.int .i64 s4.2))]) (fun s4 g H1 => Appn g ∧ Own Eq H0 [.tl g, .tl .full] H1) (fun x e l H1 => ∃ u1 : Tail, Appn u1 ∧ e = .exit 2 ∧ l = [(1, .v (.sl (Ar.lst Encs.eGPredicate x_l) .ro)), (6, .v (.int .i64 s2.2)), (7, .v (.sl (Ar.lst Encs.eGPredicate x) u1))] ∧ Own Eq H0 [.tl u1, .tl .full] H1) (by kernel_rfl) ?_ .nil hx ?_ ?_ ?_
   ·rintro s4 t5 H o ⟨ht5, hO⟩ h;clear hx;cbv;refine n_ln hE ?_;cbv;refine n_br hE h (fun hc h => ?_) (fun hc h => ?_)
    ·cbv;refine n_idx hE Encs.eGPredicate_eq h fun x7 h => ?_;cbv;refine n_idx hE Encs.eGPredicate_eq h fun x8 h => ?_;cbv;refine n_pcall hE (g := fun r9 => .agg [.sl (Ar.lst Encs.eLGInterval r9.Sets) .ro]) h (fun r9 hx => c65 N x7 x8 r9 hx) (.refl _) fun r9 h => ?_;cbv;refine n_idx hE Encs.eGPredicate_eq h fun x10 h => ?_;cbv;refine n_idx hE Encs.eGPredicate_eq h fun x11 h => ?_;cbv;refine n_pcall hE (g := fun r12 => .agg [.sl (Ar.lst Encs.eLGInterval r12.Sets) .ro]) h (fun r12 hx => c73 N x11 r12 hx) (.refl _) fun r12 h => ?_;cbv;refine n_pcall hE (g := fun r13 => .agg [.sl (Ar.lst Encs.eLGInterval r13.Sets) .ro]) h (fun r13 hx => c65 N x10 r12 r13 hx) (.refl _) fun r13 h => ?_;cbv;refine n_call hE (g := fun r14 => .bool r14) h (fun r14 hx => c80 N r9 r14 hx) (.refl _) fun r14 h => ?_;cbv;obtain ⟨s15, hx, h⟩ := bind_some h;refine n_join cf60 hE okP (fun e l H1 => ∃ u1 : Tail, Appn u1 ∧ e = .normal ∧ l = [(1, .v (.sl (Ar.lst Encs.eGPredicate x_l) .ro)), (5, .v (.sl (Ar.lst Encs.eGPredicate s2.1) .ro)), (6, .v (.int .i64 s2.2)), (7, .v (.sl (Ar.lst Encs.eGPredicate s15) u1)), (8, .v (.int .i64 s4.2)), (10, .v (.eref [.sl (Ar.lst Encs.eLGInterval r13.Sets) .ro] 0))] ∧ Own Eq H0 [.tl u1, .tl .full] H1) (by kernel_rfl) ?_ ?_
     ·clear h;have h := hx;clear hx;cbv;refine n_br hE h (fun hc h => ?_) (fun hc h => ?_)
      ·cbv;refine n_appn (f := Encs.eGPredicate) hE sz_GPredicate (by decide) hO 0 rfl ht5 (l := s4.1) (m := [r9]) (.refl _) (.lstc (.eq (Encs.eGPredicate_eq r9) (.refl _)) (.lst0)) h fun l17 t16 H hO ht16 h => ?_;cbv;have h := ret_some h;subst h;exact ⟨_, ⟨t16, ht16, rfl, rfl, hO⟩, .e rfl (.e rfl (.e rfl (.e rfl (.e rfl (.e rfl (.z)))))), rfl⟩
      ·cbv;have h := ret_some h;subst h;exact ⟨_, ⟨t5, ht5, rfl, rfl, hO⟩, .e rfl (.e rfl (.e rfl (.e rfl (.e rfl (.e rfl (.z)))))), rfl⟩
     ·clear hx;rintro e l H ⟨t18, ht18, rfl, rfl, hO⟩;cbv;refine n_call hE (g := fun r19 => .bool r19) h (fun r19 hx => c80 N r13 r19 hx) (.refl _) fun r19 h => ?_;cbv;refine n_br hE h (fun hc h => ?_) (fun hc h => ?_)
      ·cbv;refine n_appn (f := Encs.eGPredicate) hE sz_GPredicate (by decide) hO 0 rfl ht18 (l := s15) (m := [r13]) (.refl _) (.lstc (.eq (Encs.eGPredicate_eq r13) (.refl _)) (.lst0)) h fun l21 t20 H hO ht20 h => ?_;cbv;have h := ret_some h;subst h;exact ⟨_, t20, rfl, .e rfl (.e rfl (.e rfl (.e rfl (.e rfl (.z))))), rfl, ht20, hO⟩
      ·cbv;have h := ret_some h;subst h;exact ⟨_, t18, rfl, .e rfl (.e rfl (.e rfl (.e rfl (.e rfl (.z))))), rfl, ht18, hO⟩
    ·cbv;have h := ret_some h;subst h;exact ⟨_, _, rfl, ⟨t5, ht5, rfl, rfl, hO⟩, .e rfl (.e rfl (.e rfl (.z))), rfl⟩
   ·exact .e rfl (.e rfl (.e rfl (.v (.slt _ (.lst0)) (.e rfl (.z)))))
   ·exact ⟨trivial, hO⟩
   ·clear hx;rintro e l H ⟨t22, ht22, rfl, rfl, hO⟩;cbv;have h := ret_some h;subst h;exact ⟨_, rfl, .e rfl (.v (.ro _ _) (.e rfl (.z))), rfl, hO.tail⟩
  ·cbv;have h := ret_some h;subst h;exact ⟨_, _, rfl, ⟨rfl, rfl, hO⟩, .e rfl (.z), rfl⟩
 ·exact .e rfl (.v (.lit _ (lst_cons ((Encs.eGPredicate_eq r1).symm) (lst_nil))) (.e rfl (.z)))
 ·clear hx;rintro e l H ⟨rfl, rfl, hO⟩;cbv;refine n_onil hE (f := Encs.eGPredicate) hO fun q23 H hq23 hO => ?_;cbv;obtain ⟨s26, hx, h⟩ := bind_some h;refine n_loopG cf60 hE okP (γ := OG) (fun s24 g => [(5, .v (.sl (Ar.lst Encs.eGPredicate s3) .ro)), (11, .v (.own g.id g.lo g.n)), (12, .v (.int .i64 s24.1))]) (fun s24 g H1 => Okn g (Ar.len s24.2) ∧ Own Eq H0 [.blk g.id (.arr 1 (g.pre ++ Ar.lst Encs.eGPredicate s24.2 ++ g.rest)), .tl .full] H1) (fun x e l H1 => ∃ u1 : OG, Okn u1 (Ar.len x) ∧ e = .exit 4 ∧ l = [(11, .v (.own u1.id u1.lo u1.n))] ∧ Own Eq H0 [.blk u1.id (.arr 1 (u1.pre ++ Ar.lst Encs.eGPredicate x ++ u1.rest)), .tl .full] H1) (by kernel_rfl) ?_ q23 hx ?_ ?_ ?_
  ·rintro s24 q25 H o ⟨hq25, hO⟩ h;clear hx;cbv;refine n_ln hE ?_;cbv;refine n_br hE h (fun hc h => ?_) (fun hc h => ?_)
   ·cbv;refine n_olen hE hq25 ?_;cbv;obtain ⟨s28, hx, h⟩ := bind_some h;refine n_loopN cf60 hE okP (fun s27 => [(5, .v (.sl (Ar.lst Encs.eGPredicate s3) .ro)), (11, .v (.own q25.id q25.lo q25.n)), (12, .v (.int .i64 s24.1)), (13, .v (.int .i64 s27))]) (fun s27 H1 => Own Eq H0 [.blk q25.id (.arr 1 (q25.pre ++ Ar.lst Encs.eGPredicate s24.2 ++ q25.rest)), .tl .full] H1) (fun x e l H1 => e = .exit 6 ∧ l = [(5, .v (.sl (Ar.lst Encs.eGPredicate s3) .ro)), (11, .v (.own q25.id q25.lo q25.n)), (12, .v (.int .i64 s24.1)), (13, .v (.int .i64 x))] ∧ Own Eq H0 [.blk q25.id (.arr 1 (q25.pre ++ Ar.lst Encs.eGPredicate s24.2 ++ q25.rest)), .tl .full] H1) (by kernel_rfl) ?_ hx ?_ hO ?_
    ·intro s27 H o hO h;clear hx;cbv;refine n_br hE h (fun hc h => ?_) (fun hc h => ?_)
     ·cbv;refine n_idx hE Encs.eGPredicate_eq h fun x29 h => ?_;cbv;refine n_pcall hE (g := fun r30 => .agg [.int .i64 r30.Typ, .int .i64 r30.Num]) h (fun r30 hx => c81 N x29 r30 hx) (.refl _) fun r30 h => ?_;cbv;refine n_oidx hE hO hq25 0 rfl h fun h => ?_;cbv;refine n_oload hE Encs.eGPredicate_eq hO hq25 0 rfl h fun x31 h => ?_;cbv;refine n_call hE (g := fun r32 => .agg [.int .i64 r32.Typ, .int .i64 r32.Num]) h (fun r32 hx => c81 N x31 r32 hx) (.refl _) fun r32 h => ?_;cbv;refine n_call hE (g := fun r33 => .bool r33) h (fun r33 hx => c106 N r30 r32 r33 hx) (.refl _) fun r33 h => ?_;cbv;refine n_br hE h (fun hc h => ?_) (fun hc h => ?_)
      ·cbv;have h := ret_some h;subst h;exact ⟨_, rfl, .e rfl (.e rfl (.e rfl (.e rfl (.z)))), rfl, hO⟩
      ·cbv;have h := ret_some h;subst h;exact ⟨_, _, rfl, ⟨rfl, rfl, hO⟩, .e rfl (.e rfl (.e rfl (.e rfl (.z)))), rfl⟩
     ·cbv;have h := ret_some h;subst h;exact ⟨_, _, rfl, ⟨rfl, rfl, hO⟩, .e rfl (.e rfl (.e rfl (.e rfl (.z)))), rfl⟩
    ·exact .e rfl (.e rfl (.e rfl (.e rfl (.z))))
    ·clear hx;rintro e l H ⟨rfl, rfl, hO⟩;cbv;refine n_osliceK hE hO hq25 0 rfl h fun l35 q34 hq34 h => ?_;cbv;refine n_oapp0 (f := Encs.eGPredicate) hE sz_GPredicate (by decide) hO (.inr rfl) (m := l35) (hq34) h fun l37 q36 H hq36 hO h => ?_;cbv;refine n_oslice hE hO hq25 1 rfl h fun l39 q38 hq38 hO h => ?_;cbv;refine n_idx hE Encs.eGPredicate_eq h fun x40 h => ?_;cbv;refine n_oapp (f := Encs.eGPredicate) hE sz_GPredicate (by decide) hO hq38 1 rfl (m := [x40]) (src_sl (f := Encs.eGPredicate) hE sz_GPredicate (.lstc (.eq (Encs.eGPredicate_eq x40) (.refl _)) (.lst0))) h fun l42 q41 H hq41 hO h => ?_;cbv;refine n_oapp (f := Encs.eGPredicate) hE sz_GPredicate (by decide) hO hq41 1 rfl (m := l37) (src_own hE hO hq36 0 rfl) h fun l44 q43 H hq43 hO h => ?_;cbv;have h := ret_some h;subst h;exact ⟨_, q43, rfl, .e rfl (.e rfl (.e rfl (.z))), rfl, hq43, hO.tail⟩
   ·cbv;have h := ret_some h;subst h;exact ⟨_, _, rfl, ⟨q25, hq25, rfl, rfl, hO⟩, .e rfl (.z), rfl⟩
  ·exact .e rfl (.e rfl (.e rfl (.z)))
  ·exact ⟨hq23, hO⟩
  ·clear hx;rintro e l H ⟨q45, hq45, rfl, rfl, hO⟩;cbv;have h := ret_some h;subst h;exact hF q45 _ _ 0 _ _ hO rfl (okn_lst hE hq45) (.refl _)
def cf61 : Cf := ⟨[2], [], [], [], [], []⟩
theorem c61 (N : Nat) (x_p : GPredicate) (r : (GPredicate × Int)) (h : ref27_limited N x_p = some r) : CallP Tryz.prog 61 [.agg [.sl (Ar.lst Encs.eLGInterval x_p.Sets) .ro]] (.tup [.agg [.sl (Ar.lst Encs.eLGInterval r.1.Sets) .ro], .int .i64 r.2]) := by
 unfold ref27_limited at h
 refine callP_of_spec cf61 okP Tryz.func61 (by rfl) (by kernel_rfl) Tryz.call61 Tryz.ntmps61 (by rfl) (by rfl) ?_;intro E H0 K hE hK
 have hO : Own Eq H0 [] H0 := .start stable_eq rfl
 cbv;refine n_alloc hE hO fun b1 H hO => ?_;cbv;obtain ⟨s3, hx, h⟩ := bind_some h;refine n_loopN cf61 hE okP (fun s2 => [(1, .v (.eref [.sl (Ar.lst Encs.eLGInterval x_p.Sets) .ro] 0)), (2, .v (.ref b1 0)), (4, .v (.int .i64 s2))]) (fun s2 H1 => Own Eq H0 [.blk b1 (.cells [.sl [] .nil])] H1) (fun x e l H1 => match (generalizing := false) x with | .inl y => e = .exit 0 ∧ l = [(1, .v (.eref [.sl (Ar.lst Encs.eLGInterval x_p.Sets) .ro] 0)), (2, .v (.ref b1 0))] ∧ Own Eq H0 [.blk b1 (.cells [.sl [] .nil])] H1 | .inr y => e = .ret ∧ l = [(2, .v (.ref b1 0)), (3, .v (.int .i64 5))] ∧ Own Eq H0 [.blk b1 (.cells [.sl [] .nil])] H1) (by kernel_rfl) ?_ hx ?_ hO ?_
 ·intro s2 H o hO h;clear hx;cbv;refine n_ln hE ?_;cbv;refine n_br hE h (fun hc h => ?_) (fun hc h => ?_)
  ·cbv;refine n_idx hE Encs.eLGInterval_eq h fun x4 h => ?_;cbv;refine n_ln hE ?_;cbv;refine n_br hE h (fun hc h => ?_) (fun hc h => ?_)
   ·cbv;refine n_store hE hO 0 rfl rfl fun H hO => ?_;cbv;have h := ret_some h;subst h;exact ⟨_, _, rfl, ⟨rfl, rfl, hO⟩, .e rfl (.e rfl (.z)), rfl⟩
   ·cbv;have h := ret_some h;subst h;exact ⟨_, rfl, .e rfl (.e rfl (.e rfl (.z))), rfl, hO⟩
  ·cbv;have h := ret_some h;subst h;exact ⟨_, _, rfl, ⟨rfl, rfl, hO⟩, .e rfl (.e rfl (.z)), rfl⟩
 ·exact .e rfl (.e rfl (.e rfl (.z)))
 ·clear hx
  rcases s3 with y5 | y6
  ·rintro e l H ⟨rfl, rfl, hO⟩;cbv;refine n_store hE hO 0 rfl rfl fun H hO => ?_;cbv;refine n_load hE hO 0 rfl ?_;cbv;have h := ret_some h;subst h;exact hK _ _ _ hO (.refl _)
  ·rintro e l H ⟨rfl, rfl, hO⟩;cbv;refine n_load hE hO 0 rfl ?_;cbv;have h := ret_some h;subst h;exact hK _ _ _ hO (.tup (.cons (.agg (.cons (.lit _ (lst_nil)) (.refl _))) (.refl _)))
def cf16 : Cf := ⟨[], [], [], [], [], []⟩
theorem c16 (N : Nat) (x_types : Int) (x_l : List GPredicate) (r : ((List GPredicate) × Int)) (h : ref27_Minterms N x_types x_l = some r) : CallP Tryz.prog 16 [.int .i64 x_types, .sl (Ar.lst Encs.eGPredicate x_l) .ro] (.tup [.sl (Ar.lst Encs.eGPredicate r.1) .ro, .int .i64 r.2]) := by
 unfold ref27_Minterms at h
 refine callP_of_spec cf16 okP Tryz.func16 (by rfl) (by kernel_rfl) Tryz.call16 Tryz.ntmps16 (by rfl) (by rfl) ?_;intro E H0 K hE hK
 have hO : Own Eq H0 [] H0 := .start stable_eq rfl
 cbv;refine n_br hE h (fun hc h => ?_) (fun hc h => ?_)
 ·cbv;have h := ret_some h;subst h;exact hK _ _ _ hO (.tup (.cons (.lit _ (lst_nil)) (.refl _)))
 ·cbv;refine n_ln hE ?_;cbv;refine n_br hE h (fun hc h => ?_) (fun hc h => ?_)
  ·cbv;have h := ret_some h;subst h;exact hK _ _ _ hO (.tup (.cons (.lit _ (lst_nil)) (.refl _)))
  ·cbv;obtain ⟨s2, hx, h⟩ := bind_some h;refine n_loopN cf16 hE okP (fun s1 => [(0, .v (.int .i64 x_types)), (1, .v (.sl (Ar.lst Encs.eGPredicate x_l) .ro)), (6, .v (.int .i64 s1))]) (fun s1 H1 => Own Eq H0 [] H1) (fun x e l H1 => match (generalizing := false) x with | .inl y => e = .exit 0 ∧ l = [(0, .v (.int .i64 x_types)), (1, .v (.sl (Ar.lst Encs.eGPredicate x_l) .ro))] ∧ Own Eq H0 [] H1 | .inr y => e = .ret ∧ l = [(4, .v (.sl [] .nil)), (5, .v (.int .i64 y))] ∧ Own Eq H0 [] H1) (by kernel_rfl) ?_ hx ?_ hO ?_
   ·intro s1 H o hO h;clear hx;cbv;refine n_ln hE ?_;cbv;refine n_br hE h (fun hc h => ?_) (fun hc h => ?_)
    ·cbv;refine n_idx hE Encs.eGPredicate_eq h fun x3 h => ?_;cbv;refine n_call hE (g := fun r4 => .int .i64 r4) h (fun r4 hx => c34 N x_types x3 r4 hx) (.refl _) fun r4 h => ?_;cbv;refine n_br hE h (fun hc h => ?_) (fun hc h => ?_)
     ·cbv;have h := ret_some h;subst h;exact ⟨_, _, rfl, ⟨rfl, rfl, hO⟩, .e rfl (.e rfl (.z)), rfl⟩
     ·cbv;have h := ret_some h;subst h;exact ⟨_, rfl, .e rfl (.e rfl (.e rfl (.z))), rfl, hO⟩
    ·cbv;have h := ret_some h;subst h;exact ⟨_, _, rfl, ⟨rfl, rfl, hO⟩, .e rfl (.e rfl (.z)), rfl⟩
   ·exact .e rfl (.e rfl (.e rfl (.z)))
   ·clear hx
    rcases s2 with y5 | y13
    ·rintro e l H ⟨rfl, rfl, hO⟩;cbv;refine n_call hE (g := fun r6 => .sl (Ar.lst Encs.eGPredicate r6) .ro) h (fun r6 hx => c60 N x_types x_l r6 hx) (.refl _) fun r6 h => ?_;cbv;refine n_ln hE ?_;cbv;refine n_br hE h (fun hc h => ?_) (fun hc h => ?_)
     ·cbv;have h := ret_some h;subst h;exact hK _ _ _ hO (.tup (.cons (.lit _ (lst_nil)) (.refl _)))
     ·cbv;obtain ⟨s8, hx, h⟩ := bind_some h;refine n_loopN cf16 hE okP (fun s7 => [(8, .v (.sl (Ar.lst Encs.eGPredicate r6) .ro)), (9, .v (.int .i64 s7))]) (fun s7 H1 => Own Eq H0 [] H1) (fun x e l H1 => match (generalizing := false) x with | .inl y => e = .exit 2 ∧ l = [(8, .v (.sl (Ar.lst Encs.eGPredicate r6) .ro))] ∧ Own Eq H0 [] H1 | .inr y => e = .ret ∧ l = [(4, .v (.sl [] .nil)), (5, .v (.int .i64 y))] ∧ Own Eq H0 [] H1) (by kernel_rfl) ?_ hx ?_ hO ?_
      ·intro s7 H o hO h;clear hx;cbv;refine n_ln hE ?_;cbv;refine n_br hE h (fun hc h => ?_) (fun hc h => ?_)
       ·cbv;refine n_idx hE Encs.eGPredicate_eq h fun x9 h => ?_;cbv;refine n_call hE (g := fun r10 => .tup [.agg [.sl (Ar.lst Encs.eLGInterval r10.1.Sets) .ro], .int .i64 r10.2]) h (fun r10 hx => c61 N x9 r10 hx) (.refl _) fun r10 h => ?_;cbv;refine n_br hE h (fun hc h => ?_) (fun hc h => ?_)
        ·cbv;have h := ret_some h;subst h;exact ⟨_, _, rfl, ⟨rfl, rfl, hO⟩, .e rfl (.e rfl (.z)), rfl⟩
        ·cbv;have h := ret_some h;subst h;exact ⟨_, rfl, .e rfl (.e rfl (.z)), rfl, hO⟩
       ·cbv;have h := ret_some h;subst h;exact ⟨_, _, rfl, ⟨rfl, rfl, hO⟩, .e rfl (.z), rfl⟩
      ·exact .e rfl (.e rfl (.z))
      ·clear hx
       rcases s8 with y11 | y12
       ·rintro e l H ⟨rfl, rfl, hO⟩;cbv;have h := ret_some h;subst h;exact hK _ _ _ hO (.refl _)
       ·rintro e l H ⟨rfl, rfl, hO⟩;cbv;have h := ret_some h;subst h;exact hK _ _ _ hO (.tup (.cons (.lit _ (lst_nil)) (.refl _)))
    ·rintro e l H ⟨rfl, rfl, hO⟩;cbv;have h := ret_some h;subst h;exact hK _ _ _ hO (.tup (.cons (.lit _ (lst_nil)) (.refl _)))
def cf3 : Cf := ⟨[], [], [], [], [], []⟩
theorem c3 (N : Nat) (x_types : Int) (x_l : List GPredicate) (r : Bool) (h : law27_PredicateSplits N x_types x_l = some r) : CallP Tryz.prog 3 [.int .i64 x_types, .sl (Ar.lst Encs.eGPredicate x_l) .ro] (.bool r) := by
 unfold law27_PredicateSplits at h
 refine callP_of_spec cf3 okP Tryz.func3 (by rfl) (by kernel_rfl) Tryz.call3 Tryz.ntmps3 (by rfl) (by rfl) ?_;intro E H0 K hE hK
 have hO : Own Eq H0 [] H0 := .start stable_eq rfl
 cbv;refine n_ln hE ?_;cbv;refine n_br hE h (fun hc h => ?_) (fun hc h => ?_)
 ·cbv;refine n_call hE (g := fun r1 => .bool r1) h (fun r1 hx => c14 N  r1 hx) (.refl _) fun r1 h => ?_;cbv;have h := ret_some h;subst h;exact hK _ _ _ hO (.refl _)
 ·cbv;refine n_call hE (g := fun r2 => .bool r2) h (fun r2 hx => c11 N x_l (.func (.func 12) [] []) (fun y1 => law27_PredicateSplits_1 N y1) (fun y1 r hx => CallP.value (F := []) (C := []) (c12 N y1 r hx)) r2 hx) (.refl _) fun r2 h => ?_;cbv;refine n_br hE h (fun hc h => ?_) (fun hc h => ?_)
  ·cbv;refine n_call hE (g := fun r3 => .bool r3) h (fun r3 hx => c14 N  r3 hx) (.refl _) fun r3 h => ?_;cbv;have h := ret_some h;subst h;exact hK _ _ _ hO (.refl _)
  ·cbv;refine n_call hE (g := fun r4 => .tup [.sl (Ar.lst Encs.eGPredicate r4.1) .ro, .int .i64 r4.2]) h (fun r4 hx => c15 N x_types x_l r4 hx) (.refl _) fun r4 h => ?_;cbv;refine n_call hE (g := fun r5 => .tup [.sl (Ar.lst Encs.eGPredicate r5.1) .ro, .int .i64 r5.2]) h (fun r5 hx => c16 N x_types x_l r5 hx) (.refl _) fun r5 h => ?_;cbv;refine n_call hE (g := fun r6 => .bool r6) h (fun r6 hx => c17 N r4.1 r5.1 r6 hx) (.refl _) fun r6 h => ?_;cbv;refine n_br hE h (fun hc h => ?_) (fun hc h => ?_)
   ·cbv;refine n_call hE (g := fun r7 => .bool r7) h (fun r7 hx => c14 N  r7 hx) (.refl _) fun r7 h => ?_;cbv;have h := ret_some h;subst h;exact hK _ _ _ hO (.refl _)
   ·cbv;have h := ret_some h;subst h;exact hK _ _ _ hO (.refl _)
def cf69 : Cf := ⟨[4, 6], [], [], [], [], []⟩
theorem c69 (N : Nat) (x_types : Int) (v_set : V) (x_set : Int → Option ((List GInterval) × Int)) (h_set : ∀ y1 q, x_set y1 = some q → CallVP Tryz.prog v_set [.int .i64 y1] (.tup [.sl (Ar.lst Encs.eGInterval q.1) .ro, .int .i64 q.2])) (r : (GPredicate × Int)) (h : predicate_each N x_types x_set = some r) : CallP Tryz.prog 69 [.int .i64 x_types, v_set] (.tup [.agg [.sl (Ar.lst Encs.eLGInterval r.1.Sets) .ro], .int .i64 r.2]) := by
 unfold predicate_each at h
 refine callP_of_spec cf69 okP Tryz.func69 (by rfl) (by kernel_rfl) Tryz.call69 Tryz.ntmps69 (by rfl) (by rfl) ?_;intro E H0 K hE hK
 have hO : Own Eq H0 [] H0 := .start stable_eq rfl
 cbv;refine n_alloc hE hO fun b1 H hO => ?_;cbv;refine n_alloc hE hO fun b2 H hO => ?_;cbv;replace hO := hO.cast (L' := [.blk b2 (.cells [.sl (Ar.lst Encs.eLGInterval ([])) .nil]), .blk b1 (.cells [.sl [] .nil])]) (by first | (simp only [← lst_nil]; done) | (simp only [← lst_nil]; rfl));replace hO := hO.tl0 (t := .nil) rfl;obtain ⟨s5, hx, h⟩ := bind_some h;refine n_loopG cf69 hE okP (γ := Tail) (fun s3 g => [(1, .v (v_set)), (4, .v (.ref b1 0)), (6, .v (.ref b2 0)), (10, .v (.int .i64 x_types)), (11, .v (.int .i64 s3.1))]) (fun s3 g H1 => Appn g ∧ Own Eq H0 [.tl g, .blk b2 (.cells [.sl (Ar.lst Encs.eLGInterval s3.2.Sets) g]), .blk b1 (.cells [.sl [] .nil])] H1) (fun x e l H1 => match (generalizing := false) x with | .inl y => ∃ u1 : Tail, Appn u1 ∧ e = .exit 0 ∧ l = [(4, .v (.ref b1 0)), (6, .v (.ref b2 0))] ∧ Own Eq H0 [.tl u1, .blk b2 (.cells [.sl (Ar.lst Encs.eLGInterval y.Sets) u1]), .blk b1 (.cells [.sl [] .nil])] H1 | .inr y => ∃ u1 : Tail, Appn u1 ∧ e = .ret ∧ l = [(4, .v (.ref b1 0)), (5, .v (.int .i64 y.1))] ∧ Own Eq H0 [.tl u1, .blk b2 (.cells [.sl (Ar.lst Encs.eLGInterval y.2.Sets) u1]), .blk b1 (.cells [.sl [] .nil])] H1) (by kernel_rfl) ?_ .nil hx ?_ ?_ ?_
 ·rintro s3 t4 H o ⟨ht4, hO⟩ h;clear hx;cbv;refine n_br hE h (fun hc h => ?_) (fun hc h => ?_)
  ·cbv;refine n_callF hE (g := fun r6 => .tup [.sl (Ar.lst Encs.eGInterval r6.1) .ro, .int .i64 r6.2]) h (fun r6 hx => h_set s3.1 r6 hx) (.refl _) fun r6 h => ?_;cbv;refine n_br hE h (fun hc h => ?_) (fun hc h => ?_)
   ·cbv;refine n_store hE hO 2 rfl rfl fun H hO => ?_;cbv;have h := ret_some h;subst h;exact ⟨_, _, rfl, ⟨t4, ht4, rfl, rfl, hO⟩, .e rfl (.e rfl (.z)), rfl⟩
   ·cbv;refine n_load hE hO 1 rfl ?_;cbv;refine n_appn (f := Encs.eLGInterval) hE sz_LGInterval (by decide) hO 0 rfl ht4 (l := s3.2.Sets) (m := [r6.1]) (.refl _) (.lstc (.eq (Encs.eLGInterval_eq r6.1) (.refl _)) (.lst0)) h fun l8 t7 H hO ht7 h => ?_;cbv;refine n_store hE hO 1 rfl rfl fun H hO => ?_;cbv;have h := ret_some h;subst h;exact ⟨_, t7, rfl, .e rfl (.e rfl (.e rfl (.e rfl (.e rfl (.z))))), rfl, ht7, hO⟩
  ·cbv;have h := ret_some h;subst h;exact ⟨_, _, rfl, ⟨t4, ht4, rfl, rfl, hO⟩, .e rfl (.e rfl (.z)), rfl⟩
 ·exact .e rfl (.e rfl (.e rfl (.e rfl (.e rfl (.z)))))
 ·exact ⟨trivial, hO⟩
 ·clear hx
  rcases s5 with y9 | y11
  ·rintro e l H ⟨t10, ht10, rfl, rfl, hO⟩;cbv;refine n_load hE hO 1 rfl ?_;cbv;refine n_store hE hO 2 rfl rfl fun H hO => ?_;cbv;refine n_load hE hO 2 rfl ?_;cbv;have h := ret_some h;subst h;exact hK _ _ _ hO (.tup (.cons (.agg (.cons (.ro _ _) (.refl _))) (.refl _)))
  ·rintro e l H ⟨t12, ht12, rfl, rfl, hO⟩;cbv;refine n_load hE hO 2 rfl ?_;cbv;have h := ret_some h;subst h;exact hK _ _ _ hO (.tup (.cons (.agg (.cons (.lit _ (lst_nil)) (.refl _))) (.refl _)))
def cf107 : Cf := ⟨[], [(1, 14)], [], [], [], []⟩
theorem c107 (N : Nat) (x_i : Int) (v_1 : V) (x_1 : (List GInterval) → (List GInterval) → Option ((List GInterval) × Int)) (h_1 : ∀ y1 y2 q, x_1 y1 y2 = some q → CallVP Tryz.prog v_1 [.sl (Ar.lst Encs.eGInterval y1) .ro, .sl (Ar.lst Encs.eGInterval y2) .ro] (.tup [.sl (Ar.lst Encs.eGInterval q.1) .ro, .int .i64 q.2])) (x_2 : GPredicate) (x_3 : GPredicate) (r : ((List GInterval) × Int)) (h : predicate_both_1 N x_i x_1 x_2 x_3 = some r) : CallP Tryz.prog 107 [.int .i64 x_i, .eref [v_1] 0, .eref [.sl (Ar.lst Encs.eLGInterval x_2.Sets) .ro] 0, .eref [.sl (Ar.lst Encs.eLGInterval x_3.Sets) .ro] 0] (.tup [.sl (Ar.lst Encs.eGInterval r.1) .ro, .int .i64 r.2]) := by
 unfold predicate_both_1 at h
 refine callP_of_spec cf107 okP Tryz.func107 (by rfl) (by kernel_rfl) Tryz.call107 Tryz.ntmps107 (by rfl) (by rfl) ?_;intro E H0 K hE hK
 have hO : Own Eq H0 [] H0 := .start stable_eq rfl
 cbv;refine n_idx hE Encs.eLGInterval_eq h fun x1 h => ?_;cbv;refine n_idx hE Encs.eLGInterval_eq h fun x2 h => ?_;cbv;refine n_pcallF hE (g := fun r3 => .tup [.sl (Ar.lst Encs.eGInterval r3.1) .ro, .int .i64 r3.2]) h (fun r3 hx => h_1 x1 x2 r3 hx) (.refl _) fun r3 h => ?_;cbv;have h := ret_some h;subst h;exact hK _ _ _ hO (.refl _)
def cf62 : Cf := ⟨[6, 1000005], [], [], [], [], []⟩
theorem c62 (N : Nat) (x_p : GPredicate) (x_q : GPredicate) (v_on : V) (x_on : (List GInterval) → (List GInterval) → Option ((List GInterval) × Int)) (h_on : ∀ y1 y2 q, x_on y1 y2 = some q → CallVP Tryz.prog v_on [.sl (Ar.lst Encs.eGInterval y1) .ro, .sl (Ar.lst Encs.eGInterval y2) .ro] (.tup [.sl (Ar.lst Encs.eGInterval q.1) .ro, .int .i64 q.2])) (o_on : OneV v_on) (r : (GPredicate × Int)) (h : predicate_both N x_p x_q x_on = some r) : CallP Tryz.prog 62 [.agg [.sl (Ar.lst Encs.eLGInterval x_p.Sets) .ro], .agg [.sl (Ar.lst Encs.eLGInterval x_q.Sets) .ro], v_on] (.tup [.agg [.sl (Ar.lst Encs.eLGInterval r.1.Sets) .ro], .int .i64 r.2]) := by
 unfold predicate_both at h
 refine callP_of_spec cf62 okP Tryz.func62 (by rfl) (by kernel_rfl) Tryz.call62 Tryz.ntmps62 (by rfl) (by rfl) ?_;intro E H0 K hE hK
 have hO : Own Eq H0 [] H0 := .start stable_eq rfl
 cbv;refine n_need hE o_on ?_;cbv;refine n_alloc hE hO fun b1 H hO => ?_;cbv;refine n_call hE (g := fun r2 => .int .i64 r2) h (fun r2 hx => c68 N ([x_p, x_q]) r2 hx) (.cons (.lit _ (lst_cons ((Encs.eGPredicate_eq x_p).symm) (lst_cons ((Encs.eGPredicate_eq x_q).symm) (lst_nil)))) (.refl _)) fun r2 h => ?_;cbv;refine n_br hE h (fun hc h => ?_) (fun hc h => ?_)
 ·cbv;refine n_store hE hO 0 rfl rfl fun H hO => ?_;cbv;refine n_load hE hO 0 rfl ?_;cbv;have h := ret_some h;subst h;exact hK _ _ _ hO (.tup (.cons (.agg (.cons (.lit _ (lst_nil)) (.refl _))) (.refl _)))
 ·cbv;refine n_ln hE ?_;cbv;refine n_ln hE ?_;cbv;refine n_br hE h (fun hc h => ?_) (fun hc h => ?_)
  ·cbv;refine n_store hE hO 0 rfl rfl fun H hO => ?_;cbv;refine n_load hE hO 0 rfl ?_;cbv;have h := ret_some h;subst h;exact hK _ _ _ hO (.tup (.cons (.agg (.cons (.lit _ (lst_nil)) (.refl _))) (.refl _)))
  ·cbv;refine n_ln hE ?_;cbv;refine n_call hE (g := fun r3 => .tup [.agg [.sl (Ar.lst Encs.eLGInterval r3.1.Sets) .ro], .int .i64 r3.2]) h (fun r3 hx => c69 N (Ar.len x_p.Sets) (.func (.func 107) [] [.eref [v_on] 0, .eref [.sl (Ar.lst Encs.eLGInterval x_p.Sets) .ro] 0, .eref [.sl (Ar.lst Encs.eLGInterval x_q.Sets) .ro] 0]) (fun y1 => predicate_both_1 N y1 x_on x_p x_q) (fun y1 r hx => CallP.value (F := []) (C := [.eref [v_on] 0, .eref [.sl (Ar.lst Encs.eLGInterval x_p.Sets) .ro] 0, .eref [.sl (Ar.lst Encs.eLGInterval x_q.Sets) .ro] 0]) (c107 N y1 v_on x_on h_on x_p x_q r hx)) r3 hx) (.refl _) fun r3 h => ?_;cbv;refine n_store hE hO 0 rfl rfl fun H hO => ?_;cbv;refine n_load hE hO 0 rfl ?_;cbv;have h := ret_some h;subst h;exact hK _ _ _ hO (.refl _)
def cf18 : Cf := ⟨[4], [], [], [], [], []⟩
theorem c18 (N : Nat) (x_p : GPredicate) (x_q : GPredicate) (r : (GPredicate × Int)) (h : predicate_And N x_p x_q = some r) : CallP Tryz.prog 18 [.agg [.sl (Ar.lst Encs.eLGInterval x_p.Sets) .ro], .agg [.sl (Ar.lst Encs.eLGInterval x_q.Sets) .ro]] (.tup [.agg [.sl (Ar.lst Encs.eLGInterval r.1.Sets) .ro], .int .i64 r.2]) := by
 unfold predicate_And at h
 refine callP_of_spec cf18 okP Tryz.func18 (by rfl) (by kernel_rfl) Tryz.call18 Tryz.ntmps18 (by rfl) (by rfl) ?_;intro E H0 K hE hK
 have hO : Own Eq H0 [] H0 := .start stable_eq rfl
 cbv;refine n_alloc hE hO fun b1 H hO => ?_;cbv;refine n_call hE (g := fun r2 => .tup [.agg [.sl (Ar.lst Encs.eLGInterval r2.1.Sets) .ro], .int .i64 r2.2]) h (fun r2 hx => c62 N x_p x_q (.func (.func 63) [] []) (fun y1 y2 => interval_Intersect N y1 y2) (fun y1 y2 r hx => CallP.value (F := []) (C := []) (c63 N y1 y2 r hx)) ⟨rfl, rfl⟩ r2 hx) (.refl _) fun r2 h => ?_;cbv;refine n_store hE hO 0 rfl rfl fun H hO => ?_;cbv;refine n_load hE hO 0 rfl ?_;cbv;have h := ret_some h;subst h;exact hK _ _ _ hO (.refl _)
def cf72 : Cf := ⟨[], [], [], [], [], []⟩
theorem c72 (N : Nat) (x_p : GPredicate) (r : Int) (h : ref27_own N x_p = some r) : CallP Tryz.prog 72 [.agg [.sl (Ar.lst Encs.eLGInterval x_p.Sets) .ro]] (.int .i64 r) := by
 unfold ref27_own at h
 refine callP_of_spec cf72 okP Tryz.func72 (by rfl) (by kernel_rfl) Tryz.call72 Tryz.ntmps72 (by rfl) (by rfl) ?_;intro E H0 K hE hK
 have hO : Own Eq H0 [] H0 := .start stable_eq rfl
 cbv;refine n_ln hE ?_;cbv;refine n_call hE (g := fun r1 => .int .i64 r1) h (fun r1 hx => c34 N (Ar.len x_p.Sets) x_p r1 hx) (.refl _) fun r1 h => ?_;cbv;have h := ret_some h;subst h;exact hK _ _ _ hO (.refl _)
def cf64 : Cf := ⟨[], [], [], [], [], []⟩
theorem c64 (N : Nat) (x_p : GPredicate) (x_q : GPredicate) (r : Int) (h : ref27_two N x_p x_q = some r) : CallP Tryz.prog 64 [.agg [.sl (Ar.lst Encs.eLGInterval x_p.Sets) .ro], .agg [.sl (Ar.lst Encs.eLGInterval x_q.Sets) .ro]] (.int .i64 r) := by
 unfold ref27_two at h
 refine callP_of_spec cf64 okP Tryz.func64 (by rfl) (by kernel_rfl) Tryz.call64 Tryz.ntmps64 (by rfl) (by rfl) ?_;intro E H0 K hE hK
 have hO : Own Eq H0 [] H0 := .start stable_eq rfl
 cbv;refine n_call hE (g := fun r1 => .int .i64 r1) h (fun r1 hx => c72 N x_p r1 hx) (.refl _) fun r1 h => ?_;cbv;refine n_br hE h (fun hc h => ?_) (fun hc h => ?_)
 ·cbv;have h := ret_some h;subst h;exact hK _ _ _ hO (.refl _)
 ·cbv;refine n_call hE (g := fun r2 => .int .i64 r2) h (fun r2 hx => c72 N x_q r2 hx) (.refl _) fun r2 h => ?_;cbv;refine n_br hE h (fun hc h => ?_) (fun hc h => ?_)
  ·cbv;have h := ret_some h;subst h;exact hK _ _ _ hO (.refl _)
  ·cbv;refine n_ln hE ?_;cbv;refine n_ln hE ?_;cbv;refine n_br hE h (fun hc h => ?_) (fun hc h => ?_)
   ·cbv;have h := ret_some h;subst h;exact hK _ _ _ hO (.refl _)
   ·cbv;have h := ret_some h;subst h;exact hK _ _ _ hO (.refl _)
def cf19 : Cf := ⟨[4], [], [], [], [], []⟩
theorem c19 (N : Nat) (x_p : GPredicate) (x_q : GPredicate) (r : (GPredicate × Int)) (h : ref27_And N x_p x_q = some r) : CallP Tryz.prog 19 [.agg [.sl (Ar.lst Encs.eLGInterval x_p.Sets) .ro], .agg [.sl (Ar.lst Encs.eLGInterval x_q.Sets) .ro]] (.tup [.agg [.sl (Ar.lst Encs.eLGInterval r.1.Sets) .ro], .int .i64 r.2]) := by
 unfold ref27_And at h
 refine callP_of_spec cf19 okP Tryz.func19 (by rfl) (by kernel_rfl) Tryz.call19 Tryz.ntmps19 (by rfl) (by rfl) ?_;intro E H0 K hE hK
 have hO : Own Eq H0 [] H0 := .start stable_eq rfl
 cbv;refine n_alloc hE hO fun b1 H hO => ?_;cbv;refine n_call hE (g := fun r2 => .int .i64 r2) h (fun r2 hx => c64 N x_p x_q r2 hx) (.refl _) fun r2 h => ?_;cbv;refine n_br hE h (fun hc h => ?_) (fun hc h => ?_)
 ·cbv;refine n_store hE hO 0 rfl rfl fun H hO => ?_;cbv;refine n_load hE hO 0 rfl ?_;cbv;have h := ret_some h;subst h;exact hK _ _ _ hO (.tup (.cons (.agg (.cons (.lit _ (lst_nil)) (.refl _))) (.refl _)))
 ·cbv;refine n_call hE (g := fun r3 => .agg [.sl (Ar.lst Encs.eLGInterval r3.Sets) .ro]) h (fun r3 hx => c65 N x_p x_q r3 hx) (.refl _) fun r3 h => ?_;cbv;refine n_call hE (g := fun r4 => .tup [.agg [.sl (Ar.lst Encs.eLGInterval r4.1.Sets) .ro], .int .i64 r4.2]) h (fun r4 hx => c61 N r3 r4 hx) (.refl _) fun r4 h => ?_;cbv;refine n_store hE hO 0 rfl rfl fun H hO => ?_;cbv;refine n_load hE hO 0 rfl ?_;cbv;have h := ret_some h;subst h;exact hK _ _ _ hO (.refl _)
def cf20 : Cf := ⟨[4], [], [], [], [], []⟩
theorem c20 (N : Nat) (x_p : GPredicate) (x_q : GPredicate) (r : (GPredicate × Int)) (h : predicate_Or N x_p x_q = some r) : CallP Tryz.prog 20 [.agg [.sl (Ar.lst Encs.eLGInterval x_p.Sets) .ro], .agg [.sl (Ar.lst Encs.eLGInterval x_q.Sets) .ro]] (.tup [.agg [.sl (Ar.lst Encs.eLGInterval r.1.Sets) .ro], .int .i64 r.2]) := by
 unfold predicate_Or at h
 refine callP_of_spec cf20 okP Tryz.func20 (by rfl) (by kernel_rfl) Tryz.call20 Tryz.ntmps20 (by rfl) (by rfl) ?_;intro E H0 K hE hK
 have hO : Own Eq H0 [] H0 := .start stable_eq rfl
 cbv;refine n_alloc hE hO fun b1 H hO => ?_;cbv;refine n_call hE (g := fun r2 => .tup [.agg [.sl (Ar.lst Encs.eLGInterval r2.1.Sets) .ro], .int .i64 r2.2]) h (fun r2 hx => c62 N x_p x_q (.func (.func 66) [] []) (fun y1 y2 => interval_Union N y1 y2) (fun y1 y2 r hx => CallP.value (F := []) (C := []) (c66 N y1 y2 r hx)) ⟨rfl, rfl⟩ r2 hx) (.refl _) fun r2 h => ?_;cbv;refine n_store hE hO 0 rfl rfl fun H hO => ?_;cbv;refine n_load hE hO 0 rfl ?_;cbv;have h := ret_some h;subst h;exact hK _ _ _ hO (.refl _)
def cf67 : Cf := ⟨[4, 5, 3000022, 3000028], [(5, 17)], [], [], [], []⟩
theorem c67 (N : Nat) (x_p : GPredicate) (x_q : GPredicate) (r : GPredicate) (h : ref27_Either N x_p x_q = some r) : CallP Tryz.prog 67 [.agg [.sl (Ar.lst Encs.eLGInterval x_p.Sets) .ro], .agg [.sl (Ar.lst Encs.eLGInterval x_q.Sets) .ro]] (.agg [.sl (Ar.lst Encs.eLGInterval r.Sets) .ro]) := by
 unfold ref27_Either at h
 refine callP_of_spec cf67 okP Tryz.func67 (by rfl) (by kernel_rfl) Tryz.call67 Tryz.ntmps67 (by rfl) (by rfl) ?_;intro E H0 K hE hK
 have hO : Own Eq H0 [] H0 := .start stable_eq rfl
 cbv;refine n_alloc hE hO fun b1 H hO => ?_;cbv;refine n_alloc hE hO fun b2 H hO => ?_;cbv;replace hO := hO.cast (L' := [.blk b2 (.cells [.sl (Ar.lst Encs.eLGInterval ([])) .nil]), .blk b1 (.cells [.sl [] .nil])]) (by first | (simp only [← lst_nil]; done) | (simp only [← lst_nil]; rfl));replace hO := hO.tl0 (t := .nil) rfl;obtain ⟨s5, hx, h⟩ := bind_some h;refine n_loopG cf67 hE okP (γ := Tail) (fun s3 g => [(2, .v (.eref [.sl (Ar.lst Encs.eLGInterval x_p.Sets) .ro] 0)), (3, .v (.eref [.sl (Ar.lst Encs.eLGInterval x_q.Sets) .ro] 0)), (4, .v (.ref b1 0)), (5, .v (.ref b2 0)), (6, .v (.int .i64 s3.1))]) (fun s3 g H1 => Appn g ∧ Own Eq H0 [.tl g, .blk b2 (.cells [.sl (Ar.lst Encs.eLGInterval s3.2.Sets) g]), .blk b1 (.cells [.sl [] .nil])] H1) (fun x e l H1 => ∃ u1 : Tail, Appn u1 ∧ e = .exit 0 ∧ l = [(4, .v (.ref b1 0)), (5, .v (.ref b2 0))] ∧ Own Eq H0 [.tl u1, .blk b2 (.cells [.sl (Ar.lst Encs.eLGInterval x.Sets) u1]), .blk b1 (.cells [.sl [] .nil])] H1) (by kernel_rfl) ?_ .nil hx ?_ ?_ ?_
 ·rintro s3 t4 H o ⟨ht4, hO⟩ h;clear hx;cbv;refine n_ln hE ?_;cbv;refine n_br hE h (fun hc h => ?_) (fun hc h => ?_)
  ·cbv;refine n_load hE hO 1 rfl ?_;cbv;refine n_idx hE Encs.eLGInterval_eq h fun x6 h => ?_;cbv;refine n_appq (f := Encs.eGInterval) hE sz_GInterval (by decide) (l := []) (m := x6) (.lst0) (.refl _) h fun l7 h => ?_;cbv;refine n_idx hE Encs.eLGInterval_eq h fun x8 h => ?_;cbv;refine n_appq (f := Encs.eGInterval) hE sz_GInterval (by decide) (l := l7) (m := x8) (.refl _) (.refl _) h fun l9 h => ?_;cbv;refine n_pcall hE (g := fun r10 => .sl (Ar.lst Encs.eGInterval r10) .ro) h (fun r10 hx => c100 N l9 r10 hx) (.refl _) fun r10 h => ?_;cbv;refine n_appn (f := Encs.eLGInterval) hE sz_LGInterval (by decide) hO 0 rfl ht4 (l := s3.2.Sets) (m := [r10]) (.refl _) (.lstc (.eq (Encs.eLGInterval_eq r10) (.refl _)) (.lst0)) h fun l12 t11 H hO ht11 h => ?_;cbv;refine n_store hE hO 1 rfl rfl fun H hO => ?_;cbv;have h := ret_some h;subst h;exact ⟨_, t11, rfl, .e rfl (.e rfl (.e rfl (.e rfl (.e rfl (.z))))), rfl, ht11, hO⟩
  ·cbv;have h := ret_some h;subst h;exact ⟨_, _, rfl, ⟨t4, ht4, rfl, rfl, hO⟩, .e rfl (.e rfl (.z)), rfl⟩
 ·exact .e rfl (.e rfl (.e rfl (.e rfl (.e rfl (.z)))))
 ·exact ⟨trivial, hO⟩
 ·clear hx;rintro e l H ⟨t13, ht13, rfl, rfl, hO⟩;cbv;refine n_load hE hO 1 rfl ?_;cbv;refine n_store hE hO 2 rfl rfl fun H hO => ?_;cbv;refine n_load hE hO 2 rfl ?_;cbv;have h := ret_some h;subst h;exact hK _ _ _ hO (.agg (.cons (.ro _ _) (.refl _)))
def cf21 : Cf := ⟨[4], [], [], [], [], []⟩
theorem c21 (N : Nat) (x_p : GPredicate) (x_q : GPredicate) (r : (GPredicate × Int)) (h : ref27_Or N x_p x_q = some r) : CallP Tryz.prog 21 [.agg [.sl (Ar.lst Encs.eLGInterval x_p.Sets) .ro], .agg [.sl (Ar.lst Encs.eLGInterval x_q.Sets) .ro]] (.tup [.agg [.sl (Ar.lst Encs.eLGInterval r.1.Sets) .ro], .int .i64 r.2]) := by
 unfold ref27_Or at h
 refine callP_of_spec cf21 okP Tryz.func21 (by rfl) (by kernel_rfl) Tryz.call21 Tryz.ntmps21 (by rfl) (by rfl) ?_;intro E H0 K hE hK
 have hO : Own Eq H0 [] H0 := .start stable_eq rfl
 cbv;refine n_alloc hE hO fun b1 H hO => ?_;cbv;refine n_call hE (g := fun r2 => .int .i64 r2) h (fun r2 hx => c64 N x_p x_q r2 hx) (.refl _) fun r2 h => ?_;cbv;refine n_br hE h (fun hc h => ?_) (fun hc h => ?_)
 ·cbv;refine n_store hE hO 0 rfl rfl fun H hO => ?_;cbv;refine n_load hE hO 0 rfl ?_;cbv;have h := ret_some h;subst h;exact hK _ _ _ hO (.tup (.cons (.agg (.cons (.lit _ (lst_nil)) (.refl _))) (.refl _)))
 ·cbv;refine n_call hE (g := fun r3 => .agg [.sl (Ar.lst Encs.eLGInterval r3.Sets) .ro]) h (fun r3 hx => c67 N x_p x_q r3 hx) (.refl _) fun r3 h => ?_;cbv;refine n_call hE (g := fun r4 => .tup [.agg [.sl (Ar.lst Encs.eLGInterval r4.1.Sets) .ro], .int .i64 r4.2]) h (fun r4 hx => c61 N r3 r4 hx) (.refl _) fun r4 h => ?_;cbv;refine n_store hE hO 0 rfl rfl fun H hO => ?_;cbv;refine n_load hE hO 0 rfl ?_;cbv;have h := ret_some h;subst h;exact hK _ _ _ hO (.refl _)
def cf70 : Cf := ⟨[], [], [], [], [], []⟩
theorem c70 (N : Nat) (x_i : Int) (x_1 : GPredicate) (r : ((List GInterval) × Int)) (h : predicate_Not_1 N x_i x_1 = some r) : CallP Tryz.prog 70 [.int .i64 x_i, .eref [.sl (Ar.lst Encs.eLGInterval x_1.Sets) .ro] 0] (.tup [.sl (Ar.lst Encs.eGInterval r.1) .ro, .int .i64 r.2]) := by
 unfold predicate_Not_1 at h
 refine callP_of_spec cf70 okP Tryz.func70 (by rfl) (by kernel_rfl) Tryz.call70 Tryz.ntmps70 (by rfl) (by rfl) ?_;intro E H0 K hE hK
 have hO : Own Eq H0 [] H0 := .start stable_eq rfl
 cbv;refine n_idx hE Encs.eLGInterval_eq h fun x1 h => ?_;cbv;refine n_call hE (g := fun r2 => .tup [.sl (Ar.lst Encs.eGInterval r2.1) .ro, .int .i64 r2.2]) h (fun r2 hx => c71 N x1 r2 hx) (.refl _) fun r2 h => ?_;cbv;have h := ret_some h;subst h;exact hK _ _ _ hO (.refl _)
def cf22 : Cf := ⟨[2], [], [], [], [], []⟩
theorem c22 (N : Nat) (x_p : GPredicate) (r : (GPredicate × Int)) (h : predicate_Not N x_p = some r) : CallP Tryz.prog 22 [.agg [.sl (Ar.lst Encs.eLGInterval x_p.Sets) .ro]] (.tup [.agg [.sl (Ar.lst Encs.eLGInterval r.1.Sets) .ro], .int .i64 r.2]) := by
 unfold predicate_Not at h
 refine callP_of_spec cf22 okP Tryz.func22 (by rfl) (by kernel_rfl) Tryz.call22 Tryz.ntmps22 (by rfl) (by rfl) ?_;intro E H0 K hE hK
 have hO : Own Eq H0 [] H0 := .start stable_eq rfl
 cbv;refine n_alloc hE hO fun b1 H hO => ?_;cbv;refine n_call hE (g := fun r2 => .int .i64 r2) h (fun r2 hx => c68 N ([x_p]) r2 hx) (.cons (.lit _ (lst_cons ((Encs.eGPredicate_eq x_p).symm) (lst_nil))) (.refl _)) fun r2 h => ?_;cbv;refine n_br hE h (fun hc h => ?_) (fun hc h => ?_)
 ·cbv;refine n_store hE hO 0 rfl rfl fun H hO => ?_;cbv;refine n_load hE hO 0 rfl ?_;cbv;have h := ret_some h;subst h;exact hK _ _ _ hO (.tup (.cons (.agg (.cons (.lit _ (lst_nil)) (.refl _))) (.refl _)))
 ·cbv;refine n_ln hE ?_;cbv;refine n_call hE (g := fun r3 => .tup [.agg [.sl (Ar.lst Encs.eLGInterval r3.1.Sets) .ro], .int .i64 r3.2]) h (fun r3 hx => c69 N (Ar.len x_p.Sets) (.func (.func 70) [] [.eref [.sl (Ar.lst Encs.eLGInterval x_p.Sets) .ro] 0]) (fun y1 => predicate_Not_1 N y1 x_p) (fun y1 r hx => CallP.value (F := []) (C := [.eref [.sl (Ar.lst Encs.eLGInterval x_p.Sets) .ro] 0]) (c70 N y1 x_p r hx)) r3 hx) (.refl _) fun r3 h => ?_;cbv;refine n_store hE hO 0 rfl rfl fun H hO => ?_;cbv;refine n_load hE hO 0 rfl ?_;cbv;have h := ret_some h;subst h;exact hK _ _ _ hO (.refl _)
def cf23 : Cf := ⟨[2], [], [], [], [], []⟩
theorem c23 (N : Nat) (x_p : GPredicate) (r : (GPredicate × Int)) (h : ref27_Not N x_p = some r) : CallP Tryz.prog 23 [.agg [.sl (Ar.lst Encs.eLGInterval x_p.Sets) .ro]] (.tup [.agg [.sl (Ar.lst Encs.eLGInterval r.1.Sets) .ro], .int .i64 r.2]) := by
 unfold ref27_Not at h
 refine callP_of_spec cf23 okP Tryz.func23 (by rfl) (by kernel_rfl) Tryz.call23 Tryz.ntmps23 (by rfl) (by rfl) ?_;intro E H0 K hE hK
 have hO : Own Eq H0 [] H0 := .start stable_eq rfl
 cbv;refine n_alloc hE hO fun b1 H hO => ?_;cbv;refine n_call hE (g := fun r2 => .int .i64 r2) h (fun r2 hx => c72 N x_p r2 hx) (.refl _) fun r2 h => ?_;cbv;refine n_br hE h (fun hc h => ?_) (fun hc h => ?_)
 ·cbv;refine n_store hE hO 0 rfl rfl fun H hO => ?_;cbv;refine n_load hE hO 0 rfl ?_;cbv;have h := ret_some h;subst h;exact hK _ _ _ hO (.tup (.cons (.agg (.cons (.lit _ (lst_nil)) (.refl _))) (.refl _)))
 ·cbv;refine n_call hE (g := fun r3 => .agg [.sl (Ar.lst Encs.eLGInterval r3.Sets) .ro]) h (fun r3 hx => c73 N x_p r3 hx) (.refl _) fun r3 h => ?_;cbv;refine n_call hE (g := fun r4 => .tup [.agg [.sl (Ar.lst Encs.eLGInterval r4.1.Sets) .ro], .int .i64 r4.2]) h (fun r4 hx => c61 N r3 r4 hx) (.refl _) fun r4 h => ?_;cbv;refine n_store hE hO 0 rfl rfl fun H hO => ?_;cbv;refine n_load hE hO 0 rfl ?_;cbv;have h := ret_some h;subst h;exact hK _ _ _ hO (.refl _)
def cf4 : Cf := ⟨[], [], [], [], [], []⟩
theorem c4 (N : Nat) (x_p : GPredicate) (x_q : GPredicate) (r : Bool) (h : law27_PredicateCombines N x_p x_q = some r) : CallP Tryz.prog 4 [.agg [.sl (Ar.lst Encs.eLGInterval x_p.Sets) .ro], .agg [.sl (Ar.lst Encs.eLGInterval x_q.Sets) .ro]] (.bool r) := by
 unfold law27_PredicateCombines at h
 refine callP_of_spec cf4 okP Tryz.func4 (by rfl) (by kernel_rfl) Tryz.call4 Tryz.ntmps4 (by rfl) (by rfl) ?_;intro E H0 K hE hK
 have hO : Own Eq H0 [] H0 := .start stable_eq rfl
 cbv;refine n_call hE (g := fun r1 => .bool r1) h (fun r1 hx => c13 N x_p r1 hx) (.refl _) fun r1 h => ?_;cbv;refine n_br hE h (fun hc h => ?_) (fun hc h => ?_)
 ·cbv;refine n_call hE (g := fun r2 => .bool r2) h (fun r2 hx => c14 N  r2 hx) (.refl _) fun r2 h => ?_;cbv;have h := ret_some h;subst h;exact hK _ _ _ hO (.refl _)
 ·cbv;refine n_call hE (g := fun r3 => .bool r3) h (fun r3 hx => c13 N x_q r3 hx) (.refl _) fun r3 h => ?_;cbv;refine n_br hE h (fun hc h => ?_) (fun hc h => ?_)
  ·cbv;refine n_call hE (g := fun r4 => .bool r4) h (fun r4 hx => c14 N  r4 hx) (.refl _) fun r4 h => ?_;cbv;have h := ret_some h;subst h;exact hK _ _ _ hO (.refl _)
  ·cbv;refine n_call hE (g := fun r5 => .tup [.agg [.sl (Ar.lst Encs.eLGInterval r5.1.Sets) .ro], .int .i64 r5.2]) h (fun r5 hx => c18 N x_p x_q r5 hx) (.refl _) fun r5 h => ?_;cbv;refine n_call hE (g := fun r6 => .tup [.agg [.sl (Ar.lst Encs.eLGInterval r6.1.Sets) .ro], .int .i64 r6.2]) h (fun r6 hx => c19 N x_p x_q r6 hx) (.refl _) fun r6 h => ?_;cbv;refine n_call hE (g := fun r7 => .tup [.agg [.sl (Ar.lst Encs.eLGInterval r7.1.Sets) .ro], .int .i64 r7.2]) h (fun r7 hx => c20 N x_p x_q r7 hx) (.refl _) fun r7 h => ?_;cbv;refine n_call hE (g := fun r8 => .tup [.agg [.sl (Ar.lst Encs.eLGInterval r8.1.Sets) .ro], .int .i64 r8.2]) h (fun r8 hx => c21 N x_p x_q r8 hx) (.refl _) fun r8 h => ?_;cbv;refine n_call hE (g := fun r9 => .tup [.agg [.sl (Ar.lst Encs.eLGInterval r9.1.Sets) .ro], .int .i64 r9.2]) h (fun r9 hx => c22 N x_p r9 hx) (.refl _) fun r9 h => ?_;cbv;refine n_call hE (g := fun r10 => .tup [.agg [.sl (Ar.lst Encs.eLGInterval r10.1.Sets) .ro], .int .i64 r10.2]) h (fun r10 hx => c23 N x_p r10 hx) (.refl _) fun r10 h => ?_;cbv;refine n_call hE (g := fun r11 => .bool r11) h (fun r11 hx => c24 N r5.1 r6.1 r11 hx) (.refl _) fun r11 h => ?_;cbv;refine n_br hE h (fun hc h => ?_) (fun hc h => ?_)
   ·cbv;refine n_call hE (g := fun r12 => .bool r12) h (fun r12 hx => c24 N r7.1 r8.1 r12 hx) (.refl _) fun r12 h => ?_;cbv;refine n_br hE h (fun hc h => ?_) (fun hc h => ?_)
    ·cbv;refine n_call hE (g := fun r13 => .bool r13) h (fun r13 hx => c24 N r9.1 r10.1 r13 hx) (.refl _) fun r13 h => ?_;cbv;refine n_br hE h (fun hc h => ?_) (fun hc h => ?_)
     ·cbv;refine n_call hE (g := fun r14 => .bool r14) h (fun r14 hx => c14 N  r14 hx) (.refl _) fun r14 h => ?_;cbv;have h := ret_some h;subst h;exact hK _ _ _ hO (.refl _)
     ·cbv;have h := ret_some h;subst h;exact hK _ _ _ hO (.refl _)
    ·cbv;have h := ret_some h;subst h;exact hK _ _ _ hO (.refl _)
   ·cbv;have h := ret_some h;subst h;exact hK _ _ _ hO (.refl _)
def cf75 : Cf := ⟨[], [], [], [], [], []⟩
theorem c75 (N : Nat) (x_0 : Int) (r : ((List GInterval) × Int)) (h : predicate_All_1 N x_0 = some r) : CallP Tryz.prog 75 [.int .i64 x_0] (.tup [.sl (Ar.lst Encs.eGInterval r.1) .ro, .int .i64 r.2]) := by
 unfold predicate_All_1 at h
 refine callP_of_spec cf75 okP Tryz.func75 (by rfl) (by kernel_rfl) Tryz.call75 Tryz.ntmps75 (by rfl) (by rfl) ?_;intro E H0 K hE hK
 have hO : Own Eq H0 [] H0 := .start stable_eq rfl
 cbv;refine n_call hE (g := fun r1 => .sl (Ar.lst Encs.eGInterval r1) .ro) h (fun r1 hx => c76 N  r1 hx) (.refl _) fun r1 h => ?_;cbv;have h := ret_some h;subst h;exact hK _ _ _ hO (.refl _)
def cf25 : Cf := ⟨[2], [], [], [], [], []⟩
theorem c25 (N : Nat) (x_types : Int) (r : (GPredicate × Int)) (h : predicate_All N x_types = some r) : CallP Tryz.prog 25 [.int .i64 x_types] (.tup [.agg [.sl (Ar.lst Encs.eLGInterval r.1.Sets) .ro], .int .i64 r.2]) := by
 unfold predicate_All at h
 refine callP_of_spec cf25 okP Tryz.func25 (by rfl) (by kernel_rfl) Tryz.call25 Tryz.ntmps25 (by rfl) (by rfl) ?_;intro E H0 K hE hK
 have hO : Own Eq H0 [] H0 := .start stable_eq rfl
 cbv;refine n_alloc hE hO fun b1 H hO => ?_;cbv;refine n_br hE h (fun hc h => ?_) (fun hc h => ?_)
 ·cbv;refine n_store hE hO 0 rfl rfl fun H hO => ?_;cbv;refine n_load hE hO 0 rfl ?_;cbv;have h := ret_some h;subst h;exact hK _ _ _ hO (.tup (.cons (.agg (.cons (.lit _ (lst_nil)) (.refl _))) (.refl _)))
 ·cbv;refine n_call hE (g := fun r2 => .tup [.agg [.sl (Ar.lst Encs.eLGInterval r2.1.Sets) .ro], .int .i64 r2.2]) h (fun r2 hx => c69 N x_types (.func (.func 75) [] []) (fun y1 => predicate_All_1 N y1) (fun y1 r hx => CallP.value (F := []) (C := []) (c75 N y1 r hx)) r2 hx) (.refl _) fun r2 h => ?_;cbv;refine n_store hE hO 0 rfl rfl fun H hO => ?_;cbv;refine n_load hE hO 0 rfl ?_;cbv;have h := ret_some h;subst h;exact hK _ _ _ hO (.refl _)
def cf26 : Cf := ⟨[2], [], [], [], [], []⟩
theorem c26 (N : Nat) (x_types : Int) (r : (GPredicate × Int)) (h : ref27_All N x_types = some r) : CallP Tryz.prog 26 [.int .i64 x_types] (.tup [.agg [.sl (Ar.lst Encs.eLGInterval r.1.Sets) .ro], .int .i64 r.2]) := by
 unfold ref27_All at h
 refine callP_of_spec cf26 okP Tryz.func26 (by rfl) (by kernel_rfl) Tryz.call26 Tryz.ntmps26 (by rfl) (by rfl) ?_;intro E H0 K hE hK
 have hO : Own Eq H0 [] H0 := .start stable_eq rfl
 cbv;refine n_alloc hE hO fun b1 H hO => ?_;cbv;refine n_br hE h (fun hc h => ?_) (fun hc h => ?_)
 ·cbv;refine n_store hE hO 0 rfl rfl fun H hO => ?_;cbv;refine n_load hE hO 0 rfl ?_;cbv;have h := ret_some h;subst h;exact hK _ _ _ hO (.tup (.cons (.agg (.cons (.lit _ (lst_nil)) (.refl _))) (.refl _)))
 ·cbv;refine n_call hE (g := fun r2 => .agg [.sl (Ar.lst Encs.eLGInterval r2.Sets) .ro]) h (fun r2 hx => c42 N x_types r2 hx) (.refl _) fun r2 h => ?_;cbv;refine n_store hE hO 0 rfl rfl fun H hO => ?_;cbv;refine n_load hE hO 0 rfl ?_;cbv;have h := ret_some h;subst h;exact hK _ _ _ hO (.refl _)
def cf27 : Cf := ⟨[], [(8, 11)], [], [], [], []⟩
theorem c27 (N : Nat) (x_p : GPredicate) (x_s : GSymbol) (r : (Bool × Int)) (h : predicate_Contains N x_p x_s = some r) : CallP Tryz.prog 27 [.agg [.sl (Ar.lst Encs.eLGInterval x_p.Sets) .ro], .agg [.int .i64 x_s.Typ, .int .i64 x_s.Num]] (.tup [.bool r.1, .int .i64 r.2]) := by
 unfold predicate_Contains at h
 refine callP_of_spec cf27 okP Tryz.func27 (by rfl) (by kernel_rfl) Tryz.call27 Tryz.ntmps27 (by rfl) (by rfl) ?_;intro E H0 K hE hK
 have hO : Own Eq H0 [] H0 := .start stable_eq rfl
 cbv;refine n_call hE (g := fun r1 => .int .i64 r1) h (fun r1 hx => c68 N ([x_p]) r1 hx) (.cons (.lit _ (lst_cons ((Encs.eGPredicate_eq x_p).symm) (lst_nil))) (.refl _)) fun r1 h => ?_;cbv;refine n_br hE h (fun hc h => ?_) (fun hc h => ?_)
 ·cbv;have h := ret_some h;subst h;exact hK _ _ _ hO (.refl _)
 ·cbv;refine n_ln hE ?_;cbv;refine n_br hE h (fun hc h => ?_) (fun hc h => ?_)
  ·cbv;have h := ret_some h;subst h;exact hK _ _ _ hO (.refl _)
  ·cbv;refine n_br hE h (fun hc h => ?_) (fun hc h => ?_)
   ·cbv;have h := ret_some h;subst h;exact hK _ _ _ hO (.refl _)
   ·cbv;refine n_idx hE Encs.eLGInterval_eq h fun x2 h => ?_;cbv;refine n_pcall hE (g := fun r3 => .tup [.bool r3.1, .int .i64 r3.2]) h (fun r3 hx => c77 N x2 x_s.Num r3 hx) (.refl _) fun r3 h => ?_;cbv;have h := ret_some h;subst h;exact hK _ _ _ hO (.refl _)
def cf36 : Cf := ⟨[], [], [], [], [], []⟩
theorem c36 (N : Nat) (x_types : Int) (x_s : GSymbol) (r : Int) (h : ref27_CheckSymbol N x_types x_s = some r) : CallP Tryz.prog 36 [.int .i64 x_types, .agg [.int .i64 x_s.Typ, .int .i64 x_s.Num]] (.int .i64 r) := by
 unfold ref27_CheckSymbol at h
 refine callP_of_spec cf36 okP Tryz.func36 (by rfl) (by kernel_rfl) Tryz.call36 Tryz.ntmps36 (by rfl) (by rfl) ?_;intro E H0 K hE hK
 have hO : Own Eq H0 [] H0 := .start stable_eq rfl
 cbv;refine n_br hE h (fun hc h => ?_) (fun hc h => ?_)
 ·cbv;have h := ret_some h;subst h;exact hK _ _ _ hO (.refl _)
 ·cbv;refine n_br hE h (fun hc h => ?_) (fun hc h => ?_)
  ·cbv;have h := ret_some h;subst h;exact hK _ _ _ hO (.refl _)
  ·cbv;have h := ret_some h;subst h;exact hK _ _ _ hO (.refl _)
def cf114 : Cf := ⟨[], [], [], [], [], []⟩
theorem c114 (N : Nat) (x_l : List GInterval) (x_n : Int) (r : Bool) (h : ref02_Has N x_l x_n = some r) : CallP Tryz.prog 114 [.sl (Ar.lst Encs.eGInterval x_l) .ro, .int .i64 x_n] (.bool r) := by
 unfold ref02_Has at h
 refine callP_of_spec cf114 okP Tryz.func114 (by rfl) (by kernel_rfl) Tryz.call114 Tryz.ntmps114 (by rfl) (by rfl) ?_;intro E H0 K hE hK
 have hO : Own Eq H0 [] H0 := .start stable_eq rfl
 cbv;obtain ⟨s2, hx, h⟩ := bind_some h;refine n_loopN cf114 hE okP (fun s1 => [(0, .v (.sl (Ar.lst Encs.eGInterval x_l) .ro)), (1, .v (.int .i64 x_n)), (5, .v (.int .i64 s1))]) (fun s1 H1 => Own Eq H0 [] H1) (fun x e l H1 => match (generalizing := false) x with | .inl y => e = .exit 0 ∧ l = [] ∧ Own Eq H0 [] H1 | .inr y => e = .ret ∧ l = [(4, .b true)] ∧ Own Eq H0 [] H1) (by kernel_rfl) ?_ hx ?_ hO ?_
 ·intro s1 H o hO h;clear hx;cbv;refine n_ln hE ?_;cbv;refine n_br hE h (fun hc h => ?_) (fun hc h => ?_)
  ·cbv;refine n_idx hE Encs.eGInterval_eq h fun x3 h => ?_;cbv;refine n_br hE h (fun hc h => ?_) (fun hc h => ?_)
   ·cbv;refine n_idx hE Encs.eGInterval_eq h fun x4 h => ?_;cbv;refine n_br hE h (fun hc h => ?_) (fun hc h => ?_)
    ·cbv;have h := ret_some h;subst h;exact ⟨_, _, rfl, ⟨rfl, rfl, hO⟩, .b rfl (.z), rfl⟩
    ·cbv;have h := ret_some h;subst h;exact ⟨_, rfl, .e rfl (.e rfl (.e rfl (.z))), rfl, hO⟩
   ·cbv;have h := ret_some h;subst h;exact ⟨_, rfl, .e rfl (.e rfl (.e rfl (.z))), rfl, hO⟩
  ·cbv;have h := ret_some h;subst h;exact ⟨_, _, rfl, ⟨rfl, rfl, hO⟩, .z, rfl⟩
 ·exact .e rfl (.e rfl (.e rfl (.z)))
 ·clear hx
  rcases s2 with y5 | y6
  ·rintro e l H ⟨rfl, rfl, hO⟩;cbv;have h := ret_some h;subst h;exact hK _ _ _ hO (.refl _)
  ·rintro e l H ⟨rfl, rfl, hO⟩;cbv;have h := ret_some h;subst h;exact hK _ _ _ hO (.refl _)
def cf78 : Cf := ⟨[], [(1, 20)], [], [], [], []⟩
theorem c78 (N : Nat) (x_p : GPredicate) (x_s : GSymbol) (r : Bool) (h : ref27_Has N x_p x_s = some r) : CallP Tryz.prog 78 [.agg [.sl (Ar.lst Encs.eLGInterval x_p.Sets) .ro], .agg [.int .i64 x_s.Typ, .int .i64 x_s.Num]] (.bool r) := by
 unfold ref27_Has at h
 refine callP_of_spec cf78 okP Tryz.func78 (by rfl) (by kernel_rfl) Tryz.call78 Tryz.ntmps78 (by rfl) (by rfl) ?_;intro E H0 K hE hK
 have hO : Own Eq H0 [] H0 := .start stable_eq rfl
 cbv;refine n_ln hE ?_;cbv;refine n_br hE h (fun hc h => ?_) (fun hc h => ?_)
 ·cbv;refine n_idx hE Encs.eLGInterval_eq h fun x1 h => ?_;cbv;refine n_call hE (g := fun r2 => .bool r2) h (fun r2 hx => c114 N x1 x_s.Num r2 hx) (.refl _) fun r2 h => ?_;cbv;have h := ret_some h;subst h;exact hK _ _ _ hO (.refl _)
 ·cbv;have h := ret_some h;subst h;exact hK _ _ _ hO (.refl _)
def cf28 : Cf := ⟨[], [], [], [], [], []⟩
theorem c28 (N : Nat) (x_p : GPredicate) (x_s : GSymbol) (r : (Bool × Int)) (h : ref27_Contains N x_p x_s = some r) : CallP Tryz.prog 28 [.agg [.sl (Ar.lst Encs.eLGInterval x_p.Sets) .ro], .agg [.int .i64 x_s.Typ, .int .i64 x_s.Num]] (.tup [.bool r.1, .int .i64 r.2]) := by
 unfold ref27_Contains at h
 refine callP_of_spec cf28 okP Tryz.func28 (by rfl) (by kernel_rfl) Tryz.call28 Tryz.ntmps28 (by rfl) (by rfl) ?_;intro E H0 K hE hK
 have hO : Own Eq H0 [] H0 := .start stable_eq rfl
 cbv;refine n_call hE (g := fun r1 => .int .i64 r1) h (fun r1 hx => c72 N x_p r1 hx) (.refl _) fun r1 h => ?_;cbv;refine n_br hE h (fun hc h => ?_) (fun hc h => ?_)
 ·cbv;have h := ret_some h;subst h;exact hK _ _ _ hO (.refl _)
 ·cbv;refine n_ln hE ?_;cbv;refine n_call hE (g := fun r2 => .int .i64 r2) h (fun r2 hx => c36 N (Ar.len x_p.Sets) x_s r2 hx) (.refl _) fun r2 h => ?_;cbv;refine n_br hE h (fun hc h => ?_) (fun hc h => ?_)
  ·cbv;have h := ret_some h;subst h;exact hK _ _ _ hO (.refl _)
  ·cbv;refine n_call hE (g := fun r3 => .bool r3) h (fun r3 hx => c78 N x_p x_s r3 hx) (.refl _) fun r3 h => ?_;cbv;have h := ret_some h;subst h;exact hK _ _ _ hO (.refl _)
def cf29 : Cf := ⟨[2, 3], [], [], [], [], []⟩
theorem c29 (N : Nat) (x_p : GPredicate) (r : (Bool × Int)) (h : predicate_Empty N x_p = some r) : CallP Tryz.prog 29 [.agg [.sl (Ar.lst Encs.eLGInterval x_p.Sets) .ro]] (.tup [.bool r.1, .int .i64 r.2]) := by
 unfold predicate_Empty at h
 refine callP_of_spec cf29 okP Tryz.func29 (by rfl) (by kernel_rfl) Tryz.call29 Tryz.ntmps29 (by rfl) (by rfl) ?_;intro E H0 K hE hK
 have hO : Own Eq H0 [] H0 := .start stable_eq rfl
 cbv;refine n_alloc hE hO fun b1 H hO => ?_;cbv;refine n_alloc hE hO fun b2 H hO => ?_;cbv;refine n_call hE (g := fun r3 => .int .i64 r3) h (fun r3 hx => c68 N ([x_p]) r3 hx) (.cons (.lit _ (lst_cons ((Encs.eGPredicate_eq x_p).symm) (lst_nil))) (.refl _)) fun r3 h => ?_;cbv;refine n_br hE h (fun hc h => ?_) (fun hc h => ?_)
 ·cbv;refine n_store hE hO 1 rfl rfl fun H hO => ?_;cbv;refine n_store hE hO 0 rfl rfl fun H hO => ?_;cbv;refine n_load hE hO 1 rfl ?_;cbv;refine n_load hE hO 0 rfl ?_;cbv;have h := ret_some h;subst h;exact hK _ _ _ hO (.refl _)
 ·cbv;refine n_callQ hE h (fun r4 hx => c79 N x_p r4 hx) (.refl _) fun r4 v5 hv5 h => ?_;cbv;obtain ⟨o10, hx, h⟩ := bind_some h;refine n_range cf29 hE okP (ι := Unit) (enc := fun (x : (Int × (List GInterval))) => [.int .i64 x.1, .sl (Ar.lst Encs.eGInterval x.2) .ro]) (fun (s7 : Unit) F H => Own Eq F [.blk b2 (.cells [.int .i64 0]), .blk b1 (.cells [.bool false])] H) (fun (r : Unit) e F H => e = .ret ∧ Own Eq F [.blk b2 (.cells [.int .i64 0]), .blk b1 (.cells [.bool false])] H) (fun i s7 y6 => [(2, .v (.ref b1 0)), (3, .v (.ref b2 0))]) (fun i s7 y6 F H => Own Eq F [.blk b2 (.cells [.int .i64 0]), .blk b1 (.cells [.bool false])] H) (fun _ => Own.stable stable_eq _) (fun _ _ => Stable.con (Own.stable stable_eq _)) (fun _ _ _ => Own.stable stable_eq _) hv5 hx (hO) (by decide) (fun _ => rfl) (by kernel_rfl) (by kernel_rfl) ?_ ?_ ?_ ?_
  ·rintro E i9 y6 s7 F8 H hE hO;clear hx h;cbv;exact ⟨(), hO, .e rfl (.e rfl (.z)), rfl⟩
  ·rintro E i9 _ y6 s7 F8 H o hE hF h hO;clear hx;cbv;refine n_store hE hO 1 rfl rfl fun H hO => ?_;cbv;refine n_store hE hO 0 rfl rfl fun H hO => ?_;cbv;have h := ret_some h;subst h;exact ⟨_, rfl, rfl, ⟨rfl, hO⟩⟩
  ·rintro d11 s13 H rfl hd hO
   have hO : Own Eq H0 [.blk b2 (.cells [.int .i64 0]), .blk b1 (.cells [.bool false]), .blk d11 DB] H := Own.dblk hd hO
   clear hd;clear hx;cbv;refine n_store hE hO 1 rfl rfl fun H hO => ?_;cbv;refine n_store hE hO 0 rfl rfl fun H hO => ?_;cbv;refine n_fin hE hO 2 rfl fun H hO => ?_;cbv;refine n_load hE hO 1 rfl ?_;cbv;refine n_load hE hO 0 rfl ?_;cbv;have h := ret_some h;subst h;exact hK _ _ _ hO (.refl _)
  ·rintro d11 y14 e H rfl hd hX;clear hx
   rcases hX with ⟨rfl, hO⟩
   have hO : Own Eq H0 [.blk b2 (.cells [.int .i64 0]), .blk b1 (.cells [.bool false]), .blk d11 DB] H := Own.dblk hd hO
   clear hd;cbv;refine n_fin hE hO 2 rfl fun H hO => ?_;cbv;refine n_load hE hO 1 rfl ?_;cbv;refine n_load hE hO 0 rfl ?_;cbv;have h := ret_some h;subst h;exact hK _ _ _ hO (.refl _)
def cf30 : Cf := ⟨[], [], [], [], [], []⟩
theorem c30 (N : Nat) (x_p : GPredicate) (r : (Bool × Int)) (h : ref27_Empty N x_p = some r) : CallP Tryz.prog 30 [.agg [.sl (Ar.lst Encs.eLGInterval x_p.Sets) .ro]] (.tup [.bool r.1, .int .i64 r.2]) := by
 unfold ref27_Empty at h
 refine callP_of_spec cf30 okP Tryz.func30 (by rfl) (by kernel_rfl) Tryz.call30 Tryz.ntmps30 (by rfl) (by rfl) ?_;intro E H0 K hE hK
 have hO : Own Eq H0 [] H0 := .start stable_eq rfl
 cbv;refine n_call hE (g := fun r1 => .int .i64 r1) h (fun r1 hx => c72 N x_p r1 hx) (.refl _) fun r1 h => ?_;cbv;refine n_br hE h (fun hc h => ?_) (fun hc h => ?_)
 ·cbv;have h := ret_some h;subst h;exact hK _ _ _ hO (.refl _)
 ·cbv;refine n_call hE (g := fun r2 => .bool r2) h (fun r2 hx => c80 N x_p r2 hx) (.refl _) fun r2 h => ?_;cbv;have h := ret_some h;subst h;exact hK _ _ _ hO (.refl _)
def cf32 : Cf := ⟨[2], [], [], [], [], []⟩
theorem c32 (N : Nat) (x_p : GPredicate) (r : (GSymbol × Int)) (h : ref27_Witness N x_p = some r) : CallP Tryz.prog 32 [.agg [.sl (Ar.lst Encs.eLGInterval x_p.Sets) .ro]] (.tup [.agg [.int .i64 r.1.Typ, .int .i64 r.1.Num], .int .i64 r.2]) := by
 unfold ref27_Witness at h
 refine callP_of_spec cf32 okP Tryz.func32 (by rfl) (by kernel_rfl) Tryz.call32 Tryz.ntmps32 (by rfl) (by rfl) ?_;intro E H0 K hE hK
 have hO : Own Eq H0 [] H0 := .start stable_eq rfl
 cbv;refine n_alloc hE hO fun b1 H hO => ?_;cbv;refine n_call hE (g := fun r2 => .int .i64 r2) h (fun r2 hx => c72 N x_p r2 hx) (.refl _) fun r2 h => ?_;cbv;refine n_br hE h (fun hc h => ?_) (fun hc h => ?_)
 ·cbv;refine n_store hE hO 0 rfl rfl fun H hO => ?_;cbv;refine n_load hE hO 0 rfl ?_;cbv;have h := ret_some h;subst h;exact hK _ _ _ hO (.refl _)
 ·cbv;refine n_call hE (g := fun r3 => .bool r3) h (fun r3 hx => c80 N x_p r3 hx) (.refl _) fun r3 h => ?_;cbv;refine n_br hE h (fun hc h => ?_) (fun hc h => ?_)
  ·cbv;refine n_store hE hO 0 rfl rfl fun H hO => ?_;cbv;refine n_load hE hO 0 rfl ?_;cbv;have h := ret_some h;subst h;exact hK _ _ _ hO (.refl _)
  ·cbv;refine n_call hE (g := fun r4 => .agg [.int .i64 r4.Typ, .int .i64 r4.Num]) h (fun r4 hx => c81 N x_p r4 hx) (.refl _) fun r4 h => ?_;cbv;refine n_store hE hO 0 rfl rfl fun H hO => ?_;cbv;refine n_load hE hO 0 rfl ?_;cbv;have h := ret_some h;subst h;exact hK _ _ _ hO (.refl _)
def cf5 : Cf := ⟨[], [(11, 50)], [], [], [], []⟩
theorem c5 (N : Nat) (x_p : GPredicate) (x_s : GSymbol) (x_types : Int) (r : Bool) (h : law27_PredicateChecks N x_p x_s x_types = some r) : CallP Tryz.prog 5 [.agg [.sl (Ar.lst Encs.eLGInterval x_p.Sets) .ro], .agg [.int .i64 x_s.Typ, .int .i64 x_s.Num], .int .i64 x_types] (.bool r) := by
 unfold law27_PredicateChecks at h
 refine callP_of_spec cf5 okP Tryz.func5 (by rfl) (by kernel_rfl) Tryz.call5 Tryz.ntmps5 (by rfl) (by rfl) ?_;intro E H0 K hE hK
 have hO : Own Eq H0 [] H0 := .start stable_eq rfl
 cbv;refine n_call hE (g := fun r1 => .bool r1) h (fun r1 hx => c13 N x_p r1 hx) (.refl _) fun r1 h => ?_;cbv;refine n_br hE h (fun hc h => ?_) (fun hc h => ?_)
 ·cbv;refine n_call hE (g := fun r2 => .bool r2) h (fun r2 hx => c14 N  r2 hx) (.refl _) fun r2 h => ?_;cbv;have h := ret_some h;subst h;exact hK _ _ _ hO (.refl _)
 ·cbv;refine n_call hE (g := fun r3 => .tup [.agg [.sl (Ar.lst Encs.eLGInterval r3.1.Sets) .ro], .int .i64 r3.2]) h (fun r3 hx => c25 N x_types r3 hx) (.refl _) fun r3 h => ?_;cbv;refine n_call hE (g := fun r4 => .tup [.agg [.sl (Ar.lst Encs.eLGInterval r4.1.Sets) .ro], .int .i64 r4.2]) h (fun r4 hx => c26 N x_types r4 hx) (.refl _) fun r4 h => ?_;cbv;refine n_call hE (g := fun r5 => .tup [.bool r5.1, .int .i64 r5.2]) h (fun r5 hx => c27 N x_p x_s r5 hx) (.refl _) fun r5 h => ?_;cbv;refine n_call hE (g := fun r6 => .tup [.bool r6.1, .int .i64 r6.2]) h (fun r6 hx => c28 N x_p x_s r6 hx) (.refl _) fun r6 h => ?_;cbv;refine n_call hE (g := fun r7 => .tup [.bool r7.1, .int .i64 r7.2]) h (fun r7 hx => c29 N x_p r7 hx) (.refl _) fun r7 h => ?_;cbv;refine n_call hE (g := fun r8 => .tup [.bool r8.1, .int .i64 r8.2]) h (fun r8 hx => c30 N x_p r8 hx) (.refl _) fun r8 h => ?_;cbv;refine n_call hE (g := fun r9 => .tup [.agg [.int .i64 r9.1.Typ, .int .i64 r9.1.Num], .int .i64 r9.2]) h (fun r9 hx => c31 N x_p r9 hx) (.refl _) fun r9 h => ?_;cbv;refine n_call hE (g := fun r10 => .tup [.agg [.int .i64 r10.1.Typ, .int .i64 r10.1.Num], .int .i64 r10.2]) h (fun r10 hx => c32 N x_p r10 hx) (.refl _) fun r10 h => ?_;cbv;refine n_pcall hE (g := fun r11 => .int .i64 r11) h (fun r11 hx => c33 N x_types x_p r11 hx) (.refl _) fun r11 h => ?_;cbv;refine n_pcall hE (g := fun r12 => .int .i64 r12) h (fun r12 hx => c34 N x_types x_p r12 hx) (.refl _) fun r12 h => ?_;cbv;refine n_br hE h (fun hc h => ?_) (fun hc h => ?_)
  ·cbv;refine n_pcall hE (g := fun r13 => .bool r13) h (fun r13 hx => c24 N r3.1 r4.1 r13 hx) (.refl _) fun r13 h => ?_;cbv;refine n_br hE h (fun hc h => ?_) (fun hc h => ?_)
   ·cbv;refine n_pcall hE (g := fun r14 => .bool r14) h (fun r14 hx => c14 N  r14 hx) (.refl _) fun r14 h => ?_;cbv;have h := ret_some h;subst h;exact hK _ _ _ hO (.refl _)
   ·cbv;have h := ret_some h;subst h;exact hK _ _ _ hO (.refl _)
  ·cbv;have h := ret_some h;subst h;exact hK _ _ _ hO (.refl _)
def cf84 : Cf := ⟨[], [(1, 10)], [], [], [], []⟩
theorem c84 (N : Nat) (x_p : GPredicate) (x_1 : List GPredicate) (r : Bool) (h : law27_good_1 N x_p x_1 = some r) : CallP Tryz.prog 84 [.agg [.sl (Ar.lst Encs.eLGInterval x_p.Sets) .ro], .eref [.sl (Ar.lst Encs.eGPredicate x_1) .ro] 0] (.bool r) := by
 unfold law27_good_1 at h
 refine callP_of_spec cf84 okP Tryz.func84 (by rfl) (by kernel_rfl) Tryz.call84 Tryz.ntmps84 (by rfl) (by rfl) ?_;intro E H0 K hE hK
 have hO : Own Eq H0 [] H0 := .start stable_eq rfl
 cbv;refine n_pcall hE (g := fun r1 => .bool r1) h (fun r1 hx => c13 N x_p r1 hx) (.refl _) fun r1 h => ?_;cbv;refine n_br hE h (fun hc h => ?_) (fun hc h => ?_)
 ·cbv;have h := ret_some h;subst h;exact hK _ _ _ hO (.refl _)
 ·cbv;refine n_idx hE Encs.eGPredicate_eq h fun x2 h => ?_;cbv;refine n_ln hE ?_;cbv;refine n_call hE (g := fun r3 => .int .i64 r3) h (fun r3 hx => c34 N (Ar.len x2.Sets) x_p r3 hx) (.refl _) fun r3 h => ?_;cbv;have h := ret_some h;subst h;exact hK _ _ _ hO (.refl _)
def cf35 : Cf := ⟨[], [], [], [], [], []⟩
theorem c35 (N : Nat) (x_l : List GPredicate) (r : Bool) (h : law27_good N x_l = some r) : CallP Tryz.prog 35 [.sl (Ar.lst Encs.eGPredicate x_l) .ro] (.bool r) := by
 unfold law27_good at h
 refine callP_of_spec cf35 okP Tryz.func35 (by rfl) (by kernel_rfl) Tryz.call35 Tryz.ntmps35 (by rfl) (by rfl) ?_;intro E H0 K hE hK
 have hO : Own Eq H0 [] H0 := .start stable_eq rfl
 cbv;refine n_call hE (g := fun r1 => .bool r1) h (fun r1 hx => c11 N x_l (.func (.func 84) [] [.eref [.sl (Ar.lst Encs.eGPredicate x_l) .ro] 0]) (fun y1 => law27_good_1 N y1 x_l) (fun y1 r hx => CallP.value (F := []) (C := [.eref [.sl (Ar.lst Encs.eGPredicate x_l) .ro] 0]) (c84 N y1 x_l r hx)) r1 hx) (.refl _) fun r1 h => ?_;cbv;have h := ret_some h;subst h;exact hK _ _ _ hO (.refl _)
def cf37 : Cf := ⟨[], [], [], [], [], []⟩
theorem c37 (N : Nat) (x_p : GPredicate) (x_1 : GSymbol) (r : Bool) (h : law27_PredicateBoolean_1 N x_p x_1 = some r) : CallP Tryz.prog 37 [.agg [.sl (Ar.lst Encs.eLGInterval x_p.Sets) .ro], .eref [.int .i64 x_1.Typ, .int .i64 x_1.Num] 0] (.bool r) := by
 unfold law27_PredicateBoolean_1 at h
 refine callP_of_spec cf37 okP Tryz.func37 (by rfl) (by kernel_rfl) Tryz.call37 Tryz.ntmps37 (by rfl) (by rfl) ?_;intro E H0 K hE hK
 have hO : Own Eq H0 [] H0 := .start stable_eq rfl
 cbv;refine n_call hE (g := fun r1 => .tup [.bool r1.1, .int .i64 r1.2]) h (fun r1 hx => c27 N x_p x_1 r1 hx) (.refl _) fun r1 h => ?_;cbv;have h := ret_some h;subst h;exact hK _ _ _ hO (.refl _)
def cf6 : Cf := ⟨[], [(10, 32)], [], [], [], []⟩
theorem c6 (N : Nat) (x_p : GPredicate) (x_q : GPredicate) (x_s : GSymbol) (r : Bool) (h : law27_PredicateBoolean N x_p x_q x_s = some r) : CallP Tryz.prog 6 [.agg [.sl (Ar.lst Encs.eLGInterval x_p.Sets) .ro], .agg [.sl (Ar.lst Encs.eLGInterval x_q.Sets) .ro], .agg [.int .i64 x_s.Typ, .int .i64 x_s.Num]] (.bool r) := by
 unfold law27_PredicateBoolean at h
 refine callP_of_spec cf6 okP Tryz.func6 (by rfl) (by kernel_rfl) Tryz.call6 Tryz.ntmps6 (by rfl) (by rfl) ?_;intro E H0 K hE hK
 have hO : Own Eq H0 [] H0 := .start stable_eq rfl
 cbv;refine n_call hE (g := fun r1 => .bool r1) h (fun r1 hx => c35 N ([x_p, x_q]) r1 hx) (.cons (.lit _ (lst_cons ((Encs.eGPredicate_eq x_p).symm) (lst_cons ((Encs.eGPredicate_eq x_q).symm) (lst_nil)))) (.refl _)) fun r1 h => ?_;cbv;refine n_ln hE ?_;cbv;refine n_br hE h (fun hc h => ?_) (fun hc h => ?_)
 ·cbv;refine n_call hE (g := fun r2 => .bool r2) h (fun r2 hx => c14 N  r2 hx) (.refl _) fun r2 h => ?_;cbv;have h := ret_some h;subst h;exact hK _ _ _ hO (.refl _)
 ·cbv;refine n_call hE (g := fun r3 => .int .i64 r3) h (fun r3 hx => c36 N (Ar.len x_p.Sets) x_s r3 hx) (.refl _) fun r3 h => ?_;cbv;refine n_br hE h (fun hc h => ?_) (fun hc h => ?_)
  ·cbv;refine n_call hE (g := fun r4 => .bool r4) h (fun r4 hx => c14 N  r4 hx) (.refl _) fun r4 h => ?_;cbv;have h := ret_some h;subst h;exact hK _ _ _ hO (.refl _)
  ·cbv;refine n_call hE (g := fun r5 => .tup [.agg [.sl (Ar.lst Encs.eLGInterval r5.1.Sets) .ro], .int .i64 r5.2]) h (fun r5 hx => c18 N x_p x_q r5 hx) (.refl _) fun r5 h => ?_;cbv;refine n_call hE (g := fun r6 => .tup [.agg [.sl (Ar.lst Encs.eLGInterval r6.1.Sets) .ro], .int .i64 r6.2]) h (fun r6 hx => c20 N x_p x_q r6 hx) (.refl _) fun r6 h => ?_;cbv;refine n_call hE (g := fun r7 => .tup [.agg [.sl (Ar.lst Encs.eLGInterval r7.1.Sets) .ro], .int .i64 r7.2]) h (fun r7 hx => c22 N x_p r7 hx) (.refl _) fun r7 h => ?_;cbv;refine n_call hE (g := fun r8 => .tup [.agg [.sl (Ar.lst Encs.eLGInterval r8.1.Sets) .ro], .int .i64 r8.2]) h (fun r8 hx => c22 N x_q r8 hx) (.refl _) fun r8 h => ?_;cbv;refine n_br hE h (fun hc h => ?_) (fun hc h => ?_)
   ·cbv;have h := ret_some h;subst h;exact hK _ _ _ hO (.refl _)
   ·cbv;refine n_pcallF hE (g := fun r9 => .bool r9) h (fun r9 hx => CallP.value (F := []) (C := [.eref [.int .i64 x_s.Typ, .int .i64 x_s.Num] 0]) (c37 N r5.1 x_s r9 hx)) (.refl _) fun r9 h => ?_;cbv;refine n_pcallF hE (g := fun r10 => .bool r10) h (fun r10 hx => CallP.value (F := []) (C := [.eref [.int .i64 x_s.Typ, .int .i64 x_s.Num] 0]) (c37 N x_p x_s r10 hx)) (.refl _) fun r10 h => ?_;cbv;refine n_br hE h (fun hc h => ?_) (fun hc h => ?_)
    ·cbv;refine n_pcallF hE (g := fun r11 => .bool r11) h (fun r11 hx => CallP.value (F := []) (C := [.eref [.int .i64 x_s.Typ, .int .i64 x_s.Num] 0]) (c37 N x_q x_s r11 hx)) (.refl _) fun r11 h => ?_;cbv;refine n_br hE h (fun hc h => ?_) (fun hc h => ?_)
     ·cbv;have h := ret_some h;subst h;exact hK _ _ _ hO (.refl _)
     ·cbv;refine n_pcallF hE (g := fun r12 => .bool r12) h (fun r12 hx => CallP.value (F := []) (C := [.eref [.int .i64 x_s.Typ, .int .i64 x_s.Num] 0]) (c37 N r6.1 x_s r12 hx)) (.refl _) fun r12 h => ?_;cbv;refine n_pcallF hE (g := fun r13 => .bool r13) h (fun r13 hx => CallP.value (F := []) (C := [.eref [.int .i64 x_s.Typ, .int .i64 x_s.Num] 0]) (c37 N x_p x_s r13 hx)) (.refl _) fun r13 h => ?_;cbv;refine n_br hE h (fun hc h => ?_) (fun hc h => ?_)
      ·cbv;refine n_br hE h (fun hc h => ?_) (fun hc h => ?_)
       ·cbv;have h := ret_some h;subst h;exact hK _ _ _ hO (.refl _)
       ·cbv;refine n_pcallF hE (g := fun r14 => .bool r14) h (fun r14 hx => CallP.value (F := []) (C := [.eref [.int .i64 x_s.Typ, .int .i64 x_s.Num] 0]) (c37 N r7.1 x_s r14 hx)) (.refl _) fun r14 h => ?_;cbv;refine n_callF hE (g := fun r15 => .bool r15) h (fun r15 hx => CallP.value (F := []) (C := [.eref [.int .i64 x_s.Typ, .int .i64 x_s.Num] 0]) (c37 N x_p x_s r15 hx)) (.refl _) fun r15 h => ?_;cbv;refine n_br hE h (fun hc h => ?_) (fun hc h => ?_)
        ·cbv;have h := ret_some h;subst h;exact hK _ _ _ hO (.refl _)
        ·cbv;refine n_call hE (g := fun r16 => .tup [.agg [.sl (Ar.lst Encs.eLGInterval r16.1.Sets) .ro], .int .i64 r16.2]) h (fun r16 hx => c22 N r6.1 r16 hx) (.refl _) fun r16 h => ?_;cbv;refine n_call hE (g := fun r17 => .tup [.agg [.sl (Ar.lst Encs.eLGInterval r17.1.Sets) .ro], .int .i64 r17.2]) h (fun r17 hx => c18 N r7.1 r8.1 r17 hx) (.refl _) fun r17 h => ?_;cbv;refine n_call hE (g := fun r18 => .tup [.agg [.sl (Ar.lst Encs.eLGInterval r18.1.Sets) .ro], .int .i64 r18.2]) h (fun r18 hx => c22 N r7.1 r18 hx) (.refl _) fun r18 h => ?_;cbv;refine n_br hE h (fun hc h => ?_) (fun hc h => ?_)
         ·cbv;refine n_call hE (g := fun r19 => .bool r19) h (fun r19 hx => c24 N r16.1 r17.1 r19 hx) (.refl _) fun r19 h => ?_;cbv;refine n_br hE h (fun hc h => ?_) (fun hc h => ?_)
          ·cbv;refine n_call hE (g := fun r20 => .bool r20) h (fun r20 hx => c24 N r18.1 x_p r20 hx) (.refl _) fun r20 h => ?_;cbv;refine n_br hE h (fun hc h => ?_) (fun hc h => ?_)
           ·cbv;refine n_call hE (g := fun r21 => .bool r21) h (fun r21 hx => c14 N  r21 hx) (.refl _) fun r21 h => ?_;cbv;have h := ret_some h;subst h;exact hK _ _ _ hO (.refl _)
           ·cbv;have h := ret_some h;subst h;exact hK _ _ _ hO (.refl _)
          ·cbv;have h := ret_some h;subst h;exact hK _ _ _ hO (.refl _)
         ·cbv;have h := ret_some h;subst h;exact hK _ _ _ hO (.refl _)
      ·cbv;refine n_pcallF hE (g := fun r22 => .bool r22) h (fun r22 hx => CallP.value (F := []) (C := [.eref [.int .i64 x_s.Typ, .int .i64 x_s.Num] 0]) (c37 N x_q x_s r22 hx)) (.refl _) fun r22 h => ?_;cbv;refine n_br hE h (fun hc h => ?_) (fun hc h => ?_)
       ·cbv;have h := ret_some h;subst h;exact hK _ _ _ hO (.refl _)
       ·cbv;refine n_pcallF hE (g := fun r23 => .bool r23) h (fun r23 hx => CallP.value (F := []) (C := [.eref [.int .i64 x_s.Typ, .int .i64 x_s.Num] 0]) (c37 N r7.1 x_s r23 hx)) (.refl _) fun r23 h => ?_;cbv;refine n_callF hE (g := fun r24 => .bool r24) h (fun r24 hx => CallP.value (F := []) (C := [.eref [.int .i64 x_s.Typ, .int .i64 x_s.Num] 0]) (c37 N x_p x_s r24 hx)) (.refl _) fun r24 h => ?_;cbv;refine n_br hE h (fun hc h => ?_) (fun hc h => ?_)
        ·cbv;have h := ret_some h;subst h;exact hK _ _ _ hO (.refl _)
        ·cbv;refine n_call hE (g := fun r25 => .tup [.agg [.sl (Ar.lst Encs.eLGInterval r25.1.Sets) .ro], .int .i64 r25.2]) h (fun r25 hx => c22 N r6.1 r25 hx) (.refl _) fun r25 h => ?_;cbv;refine n_call hE (g := fun r26 => .tup [.agg [.sl (Ar.lst Encs.eLGInterval r26.1.Sets) .ro], .int .i64 r26.2]) h (fun r26 hx => c18 N r7.1 r8.1 r26 hx) (.refl _) fun r26 h => ?_;cbv;refine n_call hE (g := fun r27 => .tup [.agg [.sl (Ar.lst Encs.eLGInterval r27.1.Sets) .ro], .int .i64 r27.2]) h (fun r27 hx => c22 N r7.1 r27 hx) (.refl _) fun r27 h => ?_;cbv;refine n_br hE h (fun hc h => ?_) (fun hc h => ?_)
         ·cbv;refine n_call hE (g := fun r28 => .bool r28) h (fun r28 hx => c24 N r25.1 r26.1 r28 hx) (.refl _) fun r28 h => ?_;cbv;refine n_br hE h (fun hc h => ?_) (fun hc h => ?_)
          ·cbv;refine n_call hE (g := fun r29 => .bool r29) h (fun r29 hx => c24 N r27.1 x_p r29 hx) (.refl _) fun r29 h => ?_;cbv;refine n_br hE h (fun hc h => ?_) (fun hc h => ?_)
           ·cbv;refine n_call hE (g := fun r30 => .bool r30) h (fun r30 hx => c14 N  r30 hx) (.refl _) fun r30 h => ?_;cbv;have h := ret_some h;subst h;exact hK _ _ _ hO (.refl _)
           ·cbv;have h := ret_some h;subst h;exact hK _ _ _ hO (.refl _)
          ·cbv;have h := ret_some h;subst h;exact hK _ _ _ hO (.refl _)
         ·cbv;have h := ret_some h;subst h;exact hK _ _ _ hO (.refl _)
    ·cbv;refine n_br hE h (fun hc h => ?_) (fun hc h => ?_)
     ·cbv;have h := ret_some h;subst h;exact hK _ _ _ hO (.refl _)
     ·cbv;refine n_pcallF hE (g := fun r31 => .bool r31) h (fun r31 hx => CallP.value (F := []) (C := [.eref [.int .i64 x_s.Typ, .int .i64 x_s.Num] 0]) (c37 N r6.1 x_s r31 hx)) (.refl _) fun r31 h => ?_;cbv;refine n_pcallF hE (g := fun r32 => .bool r32) h (fun r32 hx => CallP.value (F := []) (C := [.eref [.int .i64 x_s.Typ, .int .i64 x_s.Num] 0]) (c37 N x_p x_s r32 hx)) (.refl _) fun r32 h => ?_;cbv;refine n_br hE h (fun hc h => ?_) (fun hc h => ?_)
      ·cbv;refine n_br hE h (fun hc h => ?_) (fun hc h => ?_)
       ·cbv;have h := ret_some h;subst h;exact hK _ _ _ hO (.refl _)
       ·cbv;refine n_pcallF hE (g := fun r33 => .bool r33) h (fun r33 hx => CallP.value (F := []) (C := [.eref [.int .i64 x_s.Typ, .int .i64 x_s.Num] 0]) (c37 N r7.1 x_s r33 hx)) (.refl _) fun r33 h => ?_;cbv;refine n_callF hE (g := fun r34 => .bool r34) h (fun r34 hx => CallP.value (F := []) (C := [.eref [.int .i64 x_s.Typ, .int .i64 x_s.Num] 0]) (c37 N x_p x_s r34 hx)) (.refl _) fun r34 h => ?_;cbv;refine n_br hE h (fun hc h => ?_) (fun hc h => ?_)
        ·cbv;have h := ret_some h;subst h;exact hK _ _ _ hO (.refl _)
        ·cbv;refine n_call hE (g := fun r35 => .tup [.agg [.sl (Ar.lst Encs.eLGInterval r35.1.Sets) .ro], .int .i64 r35.2]) h (fun r35 hx => c22 N r6.1 r35 hx) (.refl _) fun r35 h => ?_;cbv;refine n_call hE (g := fun r36 => .tup [.agg [.sl (Ar.lst Encs.eLGInterval r36.1.Sets) .ro], .int .i64 r36.2]) h (fun r36 hx => c18 N r7.1 r8.1 r36 hx) (.refl _) fun r36 h => ?_;cbv;refine n_call hE (g := fun r37 => .tup [.agg [.sl (Ar.lst Encs.eLGInterval r37.1.Sets) .ro], .int .i64 r37.2]) h (fun r37 hx => c22 N r7.1 r37 hx) (.refl _) fun r37 h => ?_;cbv;refine n_br hE h (fun hc h => ?_) (fun hc h => ?_)
         ·cbv;refine n_call hE (g := fun r38 => .bool r38) h (fun r38 hx => c24 N r35.1 r36.1 r38 hx) (.refl _) fun r38 h => ?_;cbv;refine n_br hE h (fun hc h => ?_) (fun hc h => ?_)
          ·cbv;refine n_call hE (g := fun r39 => .bool r39) h (fun r39 hx => c24 N r37.1 x_p r39 hx) (.refl _) fun r39 h => ?_;cbv;refine n_br hE h (fun hc h => ?_) (fun hc h => ?_)
           ·cbv;refine n_call hE (g := fun r40 => .bool r40) h (fun r40 hx => c14 N  r40 hx) (.refl _) fun r40 h => ?_;cbv;have h := ret_some h;subst h;exact hK _ _ _ hO (.refl _)
           ·cbv;have h := ret_some h;subst h;exact hK _ _ _ hO (.refl _)
          ·cbv;have h := ret_some h;subst h;exact hK _ _ _ hO (.refl _)
         ·cbv;have h := ret_some h;subst h;exact hK _ _ _ hO (.refl _)
      ·cbv;refine n_pcallF hE (g := fun r41 => .bool r41) h (fun r41 hx => CallP.value (F := []) (C := [.eref [.int .i64 x_s.Typ, .int .i64 x_s.Num] 0]) (c37 N x_q x_s r41 hx)) (.refl _) fun r41 h => ?_;cbv;refine n_br hE h (fun hc h => ?_) (fun hc h => ?_)
       ·cbv;have h := ret_some h;subst h;exact hK _ _ _ hO (.refl _)
       ·cbv;refine n_pcallF hE (g := fun r42 => .bool r42) h (fun r42 hx => CallP.value (F := []) (C := [.eref [.int .i64 x_s.Typ, .int .i64 x_s.Num] 0]) (c37 N r7.1 x_s r42 hx)) (.refl _) fun r42 h => ?_;cbv;refine n_callF hE (g := fun r43 => .bool r43) h (fun r43 hx => CallP.value (F := []) (C := [.eref [.int .i64 x_s.Typ, .int .i64 x_s.Num] 0]) (c37 N x_p x_s r43 hx)) (.refl _) fun r43 h => ?_;cbv;refine n_br hE h (fun hc h => ?_) (fun hc h => ?_)
        ·cbv;have h := ret_some h;subst h;exact hK _ _ _ hO (.refl _)
        ·cbv;refine n_call hE (g := fun r44 => .tup [.agg [.sl (Ar.lst Encs.eLGInterval r44.1.Sets) .ro], .int .i64 r44.2]) h (fun r44 hx => c22 N r6.1 r44 hx) (.refl _) fun r44 h => ?_;cbv;refine n_call hE (g := fun r45 => .tup [.agg [.sl (Ar.lst Encs.eLGInterval r45.1.Sets) .ro], .int .i64 r45.2]) h (fun r45 hx => c18 N r7.1 r8.1 r45 hx) (.refl _) fun r45 h => ?_;cbv;refine n_call hE (g := fun r46 => .tup [.agg [.sl (Ar.lst Encs.eLGInterval r46.1.Sets) .ro], .int .i64 r46.2]) h (fun r46 hx => c22 N r7.1 r46 hx) (.refl _) fun r46 h => ?_;cbv;refine n_br hE h (fun hc h => ?_) (fun hc h => ?_)
         ·cbv;refine n_call hE (g := fun r47 => .bool r47) h (fun r47 hx => c24 N r44.1 r45.1 r47 hx) (.refl _) fun r47 h => ?_;cbv;refine n_br hE h (fun hc h => ?_) (fun hc h => ?_)
          ·cbv;refine n_call hE (g := fun r48 => .bool r48) h (fun r48 hx => c24 N r46.1 x_p r48 hx) (.refl _) fun r48 h => ?_;cbv;refine n_br hE h (fun hc h => ?_) (fun hc h => ?_)
           ·cbv;refine n_call hE (g := fun r49 => .bool r49) h (fun r49 hx => c14 N  r49 hx) (.refl _) fun r49 h => ?_;cbv;have h := ret_some h;subst h;exact hK _ _ _ hO (.refl _)
           ·cbv;have h := ret_some h;subst h;exact hK _ _ _ hO (.refl _)
          ·cbv;have h := ret_some h;subst h;exact hK _ _ _ hO (.refl _)
         ·cbv;have h := ret_some h;subst h;exact hK _ _ _ hO (.refl _)
end Go.Ab

