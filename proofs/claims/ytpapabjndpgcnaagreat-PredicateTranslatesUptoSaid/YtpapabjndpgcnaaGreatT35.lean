/- GPCo6 -/
import Derived.Test.YtpapabjndpgcnaaGreatT34
set_option linter.all false

namespace Go.Ab
open Go.RowKit Go.Proofs
variable [Ar] [Encs]
set_option maxRecDepth 100000
def cfo100 : Cf := ⟨[6000002, 6000004], [(7, 14), (9, 10)], [], [], [], []⟩
theorem o100 (N : Nat) (x_l : List GInterval) (r : (List GInterval)) (h : ref02_Normal N x_l = some r) : CallO Tryz.prog 100 [.sl (Ar.lst Encs.eGInterval x_l) .ro] 2 (Ar.lst Encs.eGInterval r) := by
 unfold ref02_Normal at h
 intro H0;refine callO_run (T := TT) (F := H0) cfo100 okP Tryz.func100 (by rfl) (by kernel_rfl) Tryz.call100 Tryz.ntmps100 (by rfl) (by rfl) ?_;intro E K hE hK hN
 have hO : Own Eq H0 [] H0 := .start stable_eq rfl
 cbv;refine n_onil hE (f := Encs.eGInterval) hO fun q1 H hq1 hO => ?_;cbv;refine n_call hE (g := fun r2 => .sl (Ar.lst Encs.eGInterval r2) .ro) h (fun r2 hx => c135 N x_l r2 hx) (.refl _) fun r2 h => ?_;cbv;refine n_onil hE (f := Encs.eGInterval) hO fun q3 H hq3 hO => ?_;cbv;obtain ⟨s6, hx, h⟩ := bind_some h;refine n_loopG cfo100 hE okP (γ := OG) (fun s4 g => [(3, .v (.sl (Ar.lst Encs.eGInterval r2) .ro)), (4, .v (.own g.id g.lo g.n)), (5, .v (.int .i64 s4.1))]) (fun s4 g H1 => Okn g (Ar.len s4.2) ∧ Own Eq H0 [.blk g.id (.arr 2 (g.pre ++ Ar.lst Encs.eGInterval s4.2 ++ g.rest)), .blk q1.id (.arr 2 (q1.pre ++ Ar.lst Encs.eGInterval ([] : List GInterval) ++ q1.rest))] H1) (fun x e l H1 => ∃ u1 : OG, Okn u1 (Ar.len x) ∧ e = .exit 0 ∧ l = [(4, .v (.own u1.id u1.lo u1.n))] ∧ Own Eq H0 [.blk u1.id (.arr 2 (u1.pre ++ Ar.lst Encs.eGInterval x ++ u1.rest)), .blk q1.id (.arr 2 (q1.pre ++ Ar.lst Encs.eGInterval ([] : List GInterval) ++ q1.rest))] H1) (by kernel_rfl) ?_ q3 hx ?_ ?_ ?_
 ·rintro s4 q5 H o ⟨hq5, hO⟩ h;clear hx;cbv;refine n_ln hE ?_;cbv;refine n_br hE h (fun hc h => ?_) (fun hc h => ?_)
  ·cbv;refine n_olen hE hq5 ?_;cbv;refine n_br hE h (fun hc h => ?_) (fun hc h => ?_)
   ·cbv;refine n_idx hE Encs.eGInterval_eq h fun x7 h => ?_;cbv;refine n_oapp (f := Encs.eGInterval) hE sz_GInterval (by decide) hO hq5 0 rfl (m := [x7]) (src_sl (f := Encs.eGInterval) hE sz_GInterval (.lstc (.eq (Encs.eGInterval_eq x7) (.refl _)) (.lst0))) h fun l9 q8 H hq8 hO h => ?_;cbv;have h := ret_some h;subst h;exact ⟨_, q8, rfl, .e rfl (.e rfl (.e rfl (.z))), rfl, hq8, hO⟩
   ·cbv;refine n_idx hE Encs.eGInterval_eq h fun x10 h => ?_;cbv;refine n_oidx hE hO hq5 0 rfl h fun h => ?_;cbv;refine n_oload hE Encs.eGInterval_eq hO hq5 0 rfl h fun x11 h => ?_;cbv;refine n_br hE h (fun hc h => ?_) (fun hc h => ?_)
    ·cbv;refine n_idx hE Encs.eGInterval_eq h fun x12 h => ?_;cbv;refine n_oapp (f := Encs.eGInterval) hE sz_GInterval (by decide) hO hq5 0 rfl (m := [x12]) (src_sl (f := Encs.eGInterval) hE sz_GInterval (.lstc (.eq (Encs.eGInterval_eq x12) (.refl _)) (.lst0))) h fun l14 q13 H hq13 hO h => ?_;cbv;have h := ret_some h;subst h;exact ⟨_, q13, rfl, .e rfl (.e rfl (.e rfl (.z))), rfl, hq13, hO⟩
    ·cbv;refine n_idx hE Encs.eGInterval_eq h fun x15 h => ?_;cbv;refine n_oidx hE hO hq5 0 rfl h fun h => ?_;cbv;refine n_oload hE Encs.eGInterval_eq hO hq5 0 rfl h fun x16 h => ?_;cbv;refine n_br hE h (fun hc h => ?_) (fun hc h => ?_)
     ·cbv;refine n_idx hE Encs.eGInterval_eq h fun x17 h => ?_;cbv;refine n_oidx hE hO hq5 0 rfl h fun h => ?_;cbv;refine n_ostore hE (f := Encs.eGInterval) (esz := 2) (tz := 1) (off := 1) (u := (fun x18 : GInterval => { x18 with High := x17.High })) (fun x18 => ⟨.int .i64 x17.High, .refl _, rfl, rfl, (by rw [Encs.eGInterval_eq, Encs.eGInterval_eq]; rfl)⟩) (by decide) hO hq5 0 rfl h fun l19 H hq5 h hO => ?_;cbv;have h := ret_some h;subst h;exact ⟨_, q5, rfl, .e rfl (.e rfl (.e rfl (.z))), rfl, hq5, hO⟩
     ·cbv;have h := ret_some h;subst h;exact ⟨_, q5, rfl, .e rfl (.e rfl (.e rfl (.z))), rfl, hq5, hO⟩
  ·cbv;have h := ret_some h;subst h;exact ⟨_, _, rfl, ⟨q5, hq5, rfl, rfl, hO⟩, .e rfl (.z), rfl⟩
 ·exact .e rfl (.e rfl (.e rfl (.z)))
 ·exact ⟨hq3, hO⟩
 ·clear hx;rintro e l H ⟨q20, hq20, rfl, rfl, hO⟩;cbv;have h := ret_some h;subst h;exact hK q20 _ _ (okn_lst hE hq20) (hO)
def cfo48 : Cf := ⟨[6000004], [(8, 23)], [], [], [], []⟩
theorem o48 (N : Nat) (x_a : List GInterval) (x_b : List GInterval) (r : (List GInterval)) (h : ref02_Both N x_a x_b = some r) : CallO Tryz.prog 48 [.sl (Ar.lst Encs.eGInterval x_a) .ro, .sl (Ar.lst Encs.eGInterval x_b) .ro] 2 (Ar.lst Encs.eGInterval r) := by
 unfold ref02_Both at h
 intro H0;refine callO_run (T := TT) (F := H0) cfo48 okP Tryz.func48 (by rfl) (by kernel_rfl) Tryz.call48 Tryz.ntmps48 (by rfl) (by rfl) ?_;intro E K hE hK hN
 have hO : Own Eq H0 [] H0 := .start stable_eq rfl
 cbv;refine n_onil hE (f := Encs.eGInterval) hO fun q1 H hq1 hO => ?_;cbv;replace hO := hO.tl0 (t := .nil) rfl;obtain ⟨s4, hx, h⟩ := bind_some h;refine n_loopG cfo48 hE okP (γ := Tail) (fun s2 g => [(0, .v (.sl (Ar.lst Encs.eGInterval x_a) .ro)), (1, .v (.sl (Ar.lst Encs.eGInterval x_b) .ro)), (5, .v (.sl (Ar.lst Encs.eGInterval s2.1) g)), (6, .v (.int .i64 s2.2))]) (fun s2 g H1 => Appn g ∧ Own Eq H0 [.tl g, .blk q1.id (.arr 2 (q1.pre ++ Ar.lst Encs.eGInterval ([] : List GInterval) ++ q1.rest))] H1) (fun x e l H1 => ∃ u1 : Tail, Appn u1 ∧ e = .exit 0 ∧ l = [(5, .v (.sl (Ar.lst Encs.eGInterval x) u1))] ∧ Own Eq H0 [.tl u1, .blk q1.id (.arr 2 (q1.pre ++ Ar.lst Encs.eGInterval ([] : List GInterval) ++ q1.rest))] H1) (by kernel_rfl) ?_ .nil hx ?_ ?_ ?_
 ·rintro s2 t3 H o ⟨ht3, hO⟩ h;clear hx;cbv;refine n_ln hE ?_;cbv;refine n_br hE h (fun hc h => ?_) (fun hc h => ?_)
  ·cbv;obtain ⟨s7, hx, h⟩ := bind_some h;refine n_loopG cfo48 hE okP (γ := Tail) (fun s5 g => [(0, .v (.sl (Ar.lst Encs.eGInterval x_a) .ro)), (1, .v (.sl (Ar.lst Encs.eGInterval x_b) .ro)), (5, .v (.sl (Ar.lst Encs.eGInterval s5.1) g)), (6, .v (.int .i64 s2.2)), (7, .v (.int .i64 s5.2))]) (fun s5 g H1 => Appn g ∧ Own Eq H0 [.tl g, .blk q1.id (.arr 2 (q1.pre ++ Ar.lst Encs.eGInterval ([] : List GInterval) ++ q1.rest))] H1) (fun x e l H1 => ∃ u1 : Tail, Appn u1 ∧ e = .exit 2 ∧ l = [(0, .v (.sl (Ar.lst Encs.eGInterval x_a) .ro)), (1, .v (.sl (Ar.lst Encs.eGInterval x_b) .ro)), (5, .v (.sl (Ar.lst Encs.eGInterval x) u1)), (6, .v (.int .i64 s2.2))] ∧ Own Eq H0 [.tl u1, .blk q1.id (.arr 2 (q1.pre ++ Ar.lst Encs.eGInterval ([] : List GInterval) ++ q1.rest))] H1) (by kernel_rfl) ?_ t3 hx ?_ ?_ ?_
   ·rintro s5 t6 H o ⟨ht6, hO⟩ h;clear hx;cbv;refine n_ln hE ?_;cbv;refine n_br hE h (fun hc h => ?_) (fun hc h => ?_)
    ·cbv;refine n_idx hE Encs.eGInterval_eq h fun x8 h => ?_;cbv;refine n_idx hE Encs.eGInterval_eq h fun x9 h => ?_;cbv;refine n_idx hE Encs.eGInterval_eq h fun x10 h => ?_;cbv;refine n_idx hE Encs.eGInterval_eq h fun x11 h => ?_;cbv;refine n_br hE h (fun hc h => ?_) (fun hc h => ?_)
     ·cbv;refine n_appn (f := Encs.eGInterval) hE sz_GInterval (by decide) hO 0 rfl ht6 (l := s5.1) (m := [(⟨Ar.mx x8.Low x9.Low, Ar.mn x10.High x11.High⟩ : GInterval)]) (.refl _) (.lstc (.eq (Encs.eGInterval_eq (⟨Ar.mx x8.Low x9.Low, Ar.mn x10.High x11.High⟩ : GInterval)) (.refl _)) (.lst0)) h fun l13 t12 H hO ht12 h => ?_;cbv;have h := ret_some h;subst h;exact ⟨_, t12, rfl, .e rfl (.e rfl (.e rfl (.e rfl (.e rfl (.z))))), rfl, ht12, hO⟩
     ·cbv;have h := ret_some h;subst h;exact ⟨_, t6, rfl, .e rfl (.e rfl (.e rfl (.e rfl (.e rfl (.z))))), rfl, ht6, hO⟩
    ·cbv;have h := ret_some h;subst h;exact ⟨_, _, rfl, ⟨t6, ht6, rfl, rfl, hO⟩, .e rfl (.e rfl (.e rfl (.e rfl (.z)))), rfl⟩
   ·exact .e rfl (.e rfl (.e rfl (.e rfl (.e rfl (.z)))))
   ·exact ⟨ht3, hO⟩
   ·clear hx;rintro e l H ⟨t14, ht14, rfl, rfl, hO⟩;cbv;have h := ret_some h;subst h;exact ⟨_, t14, rfl, .e rfl (.e rfl (.e rfl (.e rfl (.z)))), rfl, ht14, hO⟩
  ·cbv;have h := ret_some h;subst h;exact ⟨_, _, rfl, ⟨t3, ht3, rfl, rfl, hO⟩, .e rfl (.z), rfl⟩
 ·exact .e rfl (.e rfl (.v (.slt _ (.lst0)) (.e rfl (.z))))
 ·exact ⟨trivial, hO⟩
 ·clear hx;rintro e l H ⟨t15, ht15, rfl, rfl, hO⟩;cbv;refine n_callO hE (f := Encs.eGInterval) h (fun l16 hx => o100 N s4 l16 hx) (.cons (.ro _ _) (.refl _)) hO fun l16 q17 H hq17 hO h => ?_;cbv;have h := ret_some h;subst h;exact hK q17 _ _ (okn_lst hE hq17) (hO)
def cf133 : Cf := ⟨[], [], [], [], [(28, 27)], []⟩
theorem c133 (N : Nat) (x_op : Int) (x_a : List GInterval) (x_b : List GInterval) (r : (List GInterval)) (h : ref27_logical N x_op x_a x_b = some r) : CallP Tryz.prog 133 [.int .i64 x_op, .sl (Ar.lst Encs.eGInterval x_a) .ro, .sl (Ar.lst Encs.eGInterval x_b) .ro] (.sl (Ar.lst Encs.eGInterval r) .ro) := by
 unfold ref27_logical at h
 refine callP_of_spec cf133 okP Tryz.func133 (by rfl) (by kernel_rfl) Tryz.call133 Tryz.ntmps133 (by rfl) (by rfl) ?_;intro E H0 K hE hK
 have hO : Own Eq H0 [] H0 := .start stable_eq rfl
 cbv;refine n_br hE h (fun hc h => ?_) (fun hc h => ?_)
 ·cbv;refine n_call hE (g := fun r1 => .sl (Ar.lst Encs.eGInterval r1) .ro) h (fun r1 hx => c48 N x_a x_b r1 hx) (.refl _) fun r1 h => ?_;cbv;have h := ret_some h;subst h;exact hK _ _ _ hO (.refl _)
 ·cbv;refine n_appn (f := Encs.eGInterval) hE sz_GInterval (by decide) (hO.tl0 (t := .full) rfl) 0 rfl trivial (l := []) (m := x_a) (.lst0) (.refl _) h fun l3 t2 H hO ht2 h => ?_;cbv;refine n_appn (f := Encs.eGInterval) hE sz_GInterval (by decide) hO 0 rfl ht2 (l := l3) (m := x_b) (.refl _) (.refl _) h fun l5 t4 H hO ht4 h => ?_;cbv;refine n_call hE (g := fun r6 => .sl (Ar.lst Encs.eGInterval r6) .ro) h (fun r6 hx => c100 N l5 r6 hx) (.cons (.ro _ _) (.refl _)) fun r6 h => ?_;cbv;refine n_br hE h (fun hc h => ?_) (fun hc h => ?_)
  ·cbv;have h := ret_some h;subst h;exact hK _ _ _ hO (.refl _)
  ·cbv;refine n_callO hE (f := Encs.eGInterval) h (fun l7 hx => o48 N x_a x_b l7 hx) (.refl _) hO fun l7 q8 H hq8 hO h => ?_;cbv;refine n_call hE (g := fun r9 => .sl (Ar.lst Encs.eGInterval r9) .ro) h (fun r9 hx => c86 N r6 r9 hx) (.refl _) fun r9 h => ?_;cbv;refine n_oapp (f := Encs.eGInterval) hE sz_GInterval (by decide) hO hq8 0 rfl (m := r9) (src_sl (f := Encs.eGInterval) hE sz_GInterval (.refl _)) h fun l11 q10 H hq10 hO h => ?_;cbv;refine n_ofrz hE hO hq10 0 rfl fun H hO => ?_;cbv;refine n_call hE (g := fun r12 => .sl (Ar.lst Encs.eGInterval r12) .ro) h (fun r12 hx => c100 N l11 r12 hx) (.refl _) fun r12 h => ?_;cbv;have h := ret_some h;subst h;exact hK _ _ _ hO (.refl _)
def cf96 : Cf := ⟨[], [(3, 6), (4, 5)], [(64, 12)], [], [], []⟩
theorem c96 (N : Nat) : ∀ (n : Nat) (x_e : GExpr) (x_own : Int) (x_field : Int) (r : ((List GInterval) × Bool)), ref27_Solve N n x_e x_own x_field = some r → CallP Tryz.prog 96 [.agg [.int .i64 x_e.Op, .sl (Ar.lst Encs.eGExpr x_e.Args) .ro, .int .i64 x_e.Var, .int .i64 x_e.Field, .int .i64 x_e.Kind, .int .i64 x_e.Value.Kind, .int .i64 x_e.Value.Num, .str x_e.Value.Text], .int .i64 x_own, .int .i64 x_field] (.tup [.sl (Ar.lst Encs.eGInterval r.1) .ro, .bool r.2]) := by
 intro n
 induction n with
 | zero => intro x_e x_own x_field r h; cases h
 | succ n ih =>
 intro x_e x_own x_field r h
 unfold ref27_Solve at h
 refine callP_of_spec cf96 okP Tryz.func96 (by rfl) (by kernel_rfl) Tryz.call96 Tryz.ntmps96 (by rfl) (by rfl) ?_;intro E H0 K hE hK
 have hO : Own Eq H0 [] H0 := .start stable_eq rfl
 cbv;refine n_br hE h (fun hc h => ?_) (fun hc h => ?_)
 ·cbv;refine n_br hE h (fun hc h => ?_) (fun hc h => ?_)
  ·cbv;refine n_pcall hE (g := fun r1 => .sl (Ar.lst Encs.eGInterval r1) .ro) h (fun r1 hx => c86 N ([]) r1 hx) (.cons (.lit _ (lst_nil)) (.refl _)) fun r1 h => ?_;cbv;have h := ret_some h;subst h;exact hK _ _ _ hO (.refl _)
  ·cbv;have h := ret_some h;subst h;exact hK _ _ _ hO (.tup (.cons (.lit _ (lst_nil)) (.refl _)))
 ·cbv;refine n_br hE h (fun hc h => ?_) (fun hc h => ?_)
  ·cbv;refine n_idx hE Encs.eGExpr_eq h fun x2 h => ?_;cbv;refine n_call hE (g := fun r3 => .tup [.sl (Ar.lst Encs.eGInterval r3.1) .ro, .bool r3.2]) h (fun r3 hx => ih x2 x_own x_field r3 hx) (.refl _) fun r3 h => ?_;cbv;refine n_call hE (g := fun r4 => .sl (Ar.lst Encs.eGInterval r4) .ro) h (fun r4 hx => c86 N r3.1 r4 hx) (.refl _) fun r4 h => ?_;cbv;have h := ret_some h;subst h;exact hK _ _ _ hO (.refl _)
  ·cbv;refine n_br hE h (fun hc h => ?_) (fun hc h => ?_)
   ·cbv;refine n_call hE (g := fun r5 => .tup [.sl (Ar.lst Encs.eGInterval r5.1) .ro, .bool r5.2]) h (fun r5 hx => c132 N x_e x_own x_field r5 hx) (.refl _) fun r5 h => ?_;cbv;have h := ret_some h;subst h;exact hK _ _ _ hO (.refl _)
   ·cbv;obtain ⟨s6, hx, h⟩ := bind_some h;refine n_join cf96 hE okP (fun e l H1 => match (generalizing := false) s6 with | .inl y => e = .normal ∧ l = [(1, .v (.int .i64 x_own)), (2, .v (.int .i64 x_field)), (3, .v (.eref [.int .i64 x_e.Op, .sl (Ar.lst Encs.eGExpr x_e.Args) .ro, .int .i64 x_e.Var, .int .i64 x_e.Field, .int .i64 x_e.Kind, .int .i64 x_e.Value.Kind, .int .i64 x_e.Value.Num, .str x_e.Value.Text] 0))] ∧ Own Eq H0 [] H1 | .inr y => e = .ret ∧ l = [(6, .v (.sl (Ar.lst Encs.eGInterval y) .ro)), (7, .b true)] ∧ Own Eq H0 [] H1) (by kernel_rfl) ?_ ?_
    ·clear h;have h := hx;clear hx;cbv;refine n_br hE h (fun hc h => ?_) (fun hc h => ?_)
     ·cbv;refine n_call hE (g := fun r7 => .tup [.sl (Ar.lst Encs.eGInterval r7.1) .ro, .bool r7.2]) h (fun r7 hx => c132 N x_e x_own x_field r7 hx) (.refl _) fun r7 h => ?_;cbv;refine n_br hE h (fun hc h => ?_) (fun hc h => ?_)
      ·cbv;have h := ret_some h;subst h;exact ⟨_, ⟨rfl, rfl, hO⟩, .e rfl (.b rfl (.z)), rfl⟩
      ·cbv;have h := ret_some h;subst h;exact ⟨_, ⟨rfl, rfl, hO⟩, .e rfl (.e rfl (.e rfl (.z))), rfl⟩
     ·cbv;have h := ret_some h;subst h;exact ⟨_, ⟨rfl, rfl, hO⟩, .e rfl (.e rfl (.e rfl (.z))), rfl⟩
    ·clear hx
     rcases s6 with y8 | y14
     ·rintro e l H ⟨rfl, rfl, hO⟩;cbv;refine n_br hE h (fun hc h => ?_) (fun hc h => ?_)
      ·cbv;have h := ret_some h;subst h;exact hK _ _ _ hO (.tup (.cons (.lit _ (lst_nil)) (.refl _)))
      ·cbv;refine n_idx hE Encs.eGExpr_eq h fun x9 h => ?_;cbv;refine n_call hE (g := fun r10 => .tup [.sl (Ar.lst Encs.eGInterval r10.1) .ro, .bool r10.2]) h (fun r10 hx => ih x9 x_own x_field r10 hx) (.refl _) fun r10 h => ?_;cbv;refine n_idx hE Encs.eGExpr_eq h fun x11 h => ?_;cbv;refine n_call hE (g := fun r12 => .tup [.sl (Ar.lst Encs.eGInterval r12.1) .ro, .bool r12.2]) h (fun r12 hx => ih x11 x_own x_field r12 hx) (.refl _) fun r12 h => ?_;cbv;refine n_call hE (g := fun r13 => .sl (Ar.lst Encs.eGInterval r13) .ro) h (fun r13 hx => c133 N x_e.Op r10.1 r12.1 r13 hx) (.refl _) fun r13 h => ?_;cbv;have h := ret_some h;subst h;exact hK _ _ _ hO (.refl _)
     ·rintro e l H ⟨rfl, rfl, hO⟩;cbv;have h := ret_some h;subst h;exact hK _ _ _ hO (.refl _)
def cf97 : Cf := ⟨[], [], [], [], [], []⟩
theorem c97 (N : Nat) (x_s : GSchema) (r : Int) (h : ref27_Numeric N x_s = some r) : CallP Tryz.prog 97 [.agg [.str x_s.Name, .sl (Ar.lst Encs.eGField x_s.Fields) .ro]] (.int .i64 r) := by
 unfold ref27_Numeric at h
 refine callP_of_spec cf97 okP Tryz.func97 (by rfl) (by kernel_rfl) Tryz.call97 Tryz.ntmps97 (by rfl) (by rfl) ?_;intro E H0 K hE hK
 have hO : Own Eq H0 [] H0 := .start stable_eq rfl
 cbv;obtain ⟨s2, hx, h⟩ := bind_some h;refine n_loopN cf97 hE okP (fun s1 => [(1, .v (.eref [.str x_s.Name, .sl (Ar.lst Encs.eGField x_s.Fields) .ro] 0)), (3, .v (.int .i64 s1))]) (fun s1 H1 => Own Eq H0 [] H1) (fun x e l H1 => match (generalizing := false) x with | .inl y => e = .exit 0 ∧ l = [] ∧ Own Eq H0 [] H1 | .inr y => e = .ret ∧ l = [(2, .v (.int .i64 y))] ∧ Own Eq H0 [] H1) (by kernel_rfl) ?_ hx ?_ hO ?_
 ·intro s1 H o hO h;clear hx;cbv;refine n_ln hE ?_;cbv;refine n_br hE h (fun hc h => ?_) (fun hc h => ?_)
  ·cbv;refine n_idx hE Encs.eGField_eq h fun x3 h => ?_;cbv;refine n_br hE h (fun hc h => ?_) (fun hc h => ?_)
   ·cbv;have h := ret_some h;subst h;exact ⟨_, _, rfl, ⟨rfl, rfl, hO⟩, .e rfl (.z), rfl⟩
   ·cbv;have h := ret_some h;subst h;exact ⟨_, rfl, .e rfl (.e rfl (.z)), rfl, hO⟩
  ·cbv;have h := ret_some h;subst h;exact ⟨_, _, rfl, ⟨rfl, rfl, hO⟩, .z, rfl⟩
 ·exact .e rfl (.e rfl (.z))
 ·clear hx
  rcases s2 with y4 | y5
  ·rintro e l H ⟨rfl, rfl, hO⟩;cbv;have h := ret_some h;subst h;exact hK _ _ _ hO (.refl _)
  ·rintro e l H ⟨rfl, rfl, hO⟩;cbv;have h := ret_some h;subst h;exact hK _ _ _ hO (.refl _)
def cfo38 : Cf := ⟨[2], [], [], [], [], []⟩
theorem o38 (N : Nat) (x_types : Int) (r : GPredicate) (h : ref27_None N x_types = some r) : CallG Tryz.prog 38 [.int .i64 x_types] 1 (Ar.lst Encs.eLGInterval r.Sets) (fun o => .agg [o]) := by
 unfold ref27_None at h
 intro H0;refine callG_run (T := TT) (F := H0) (mk := fun o => .agg [o]) (HoldOk.agg [.bad] 0 (by simp)) cfo38 okP Tryz.func38 (by rfl) (by kernel_rfl) Tryz.call38 Tryz.ntmps38 (by rfl) (by rfl) ?_;intro E K hE hK hN
 have hO : Own Eq H0 [] H0 := .start stable_eq rfl
 cbv;refine n_alloc hE hO fun b1 H hO => ?_;cbv;refine n_omk hE (f := Encs.eLGInterval) (by decide) (z0 := ([] : List GInterval)) ((.eq (Encs.eLGInterval_eq _) (.lit _ (lst_nil)))) hO h fun l3 q2 H hq2 h hO => ?_;cbv;refine n_store hE hO 1 rfl rfl fun H hO => ?_;cbv;refine n_load hE hO 1 rfl ?_;cbv;have h := ret_some h;subst h;exact hK q2 _ 0 _ (okn_lst hE hq2) rfl hO
def cf45 : Cf := ⟨[8, 17], [(18, 12)], [], [], [(86, 1000017)], []⟩
theorem c45 (N : Nat) (x_types : List GSchema) (x_index : Int) (x_cond : GExpr) (x_own : Int) (r : (GPredicate × Int)) (h : ref27_Of N x_types x_index x_cond x_own = some r) : CallP Tryz.prog 45 [.sl (Ar.lst Encs.eGSchema x_types) .ro, .int .i64 x_index, .agg [.int .i64 x_cond.Op, .sl (Ar.lst Encs.eGExpr x_cond.Args) .ro, .int .i64 x_cond.Var, .int .i64 x_cond.Field, .int .i64 x_cond.Kind, .int .i64 x_cond.Value.Kind, .int .i64 x_cond.Value.Num, .str x_cond.Value.Text], .int .i64 x_own] (.tup [.agg [.sl (Ar.lst Encs.eLGInterval r.1.Sets) .ro], .int .i64 r.2]) := by
 unfold ref27_Of at h
 refine callP_of_spec cf45 okP Tryz.func45 (by rfl) (by kernel_rfl) Tryz.call45 Tryz.ntmps45 (by rfl) (by rfl) ?_;intro E H0 K hE hK
 have hO : Own Eq H0 [] H0 := .start stable_eq rfl
 cbv;refine n_alloc hE hO fun b1 H hO => ?_;cbv;refine n_call hE (g := fun r2 => .int .i64 r2) h (fun r2 hx => c94 N x_types r2 hx) (.refl _) fun r2 h => ?_;cbv;refine n_br hE h (fun hc h => ?_) (fun hc h => ?_)
 ·cbv;refine n_store hE hO 0 rfl rfl fun H hO => ?_;cbv;refine n_load hE hO 0 rfl ?_;cbv;have h := ret_some h;subst h;exact hK _ _ _ hO (.tup (.cons (.agg (.cons (.lit _ (lst_nil)) (.refl _))) (.refl _)))
 ·cbv;refine n_ln hE ?_;cbv;refine n_br hE h (fun hc h => ?_) (fun hc h => ?_)
  ·cbv;refine n_store hE hO 0 rfl rfl fun H hO => ?_;cbv;refine n_load hE hO 0 rfl ?_;cbv;have h := ret_some h;subst h;exact hK _ _ _ hO (.tup (.cons (.agg (.cons (.lit _ (lst_nil)) (.refl _))) (.refl _)))
  ·cbv;refine n_br hE h (fun hc h => ?_) (fun hc h => ?_)
   ·cbv;refine n_store hE hO 0 rfl rfl fun H hO => ?_;cbv;refine n_load hE hO 0 rfl ?_;cbv;have h := ret_some h;subst h;exact hK _ _ _ hO (.tup (.cons (.agg (.cons (.lit _ (lst_nil)) (.refl _))) (.refl _)))
   ·cbv;replace hO := hO.tl0 (t := .nil) rfl;obtain ⟨s5, hx, h⟩ := bind_some h;refine n_loopG cf45 hE okP (γ := Tail) (fun s3 g => [(0, .v (.sl (Ar.lst Encs.eGSchema x_types) .ro)), (1, .v (.int .i64 x_index)), (3, .v (.int .i64 x_own)), (6, .v (.eref [.int .i64 x_cond.Op, .sl (Ar.lst Encs.eGExpr x_cond.Args) .ro, .int .i64 x_cond.Var, .int .i64 x_cond.Field, .int .i64 x_cond.Kind, .int .i64 x_cond.Value.Kind, .int .i64 x_cond.Value.Num, .str x_cond.Value.Text] 0)), (8, .v (.ref b1 0)), (11, .v (.sl (Ar.lst Encs.eGVariable s3.1) g)), (12, .v (.int .i64 s3.2))]) (fun s3 g H1 => Appn g ∧ Own Eq H0 [.tl g, .blk b1 (.cells [.sl [] .nil])] H1) (fun x e l H1 => ∃ u1 : Tail, Appn u1 ∧ e = .exit 0 ∧ l = [(0, .v (.sl (Ar.lst Encs.eGSchema x_types) .ro)), (1, .v (.int .i64 x_index)), (3, .v (.int .i64 x_own)), (6, .v (.eref [.int .i64 x_cond.Op, .sl (Ar.lst Encs.eGExpr x_cond.Args) .ro, .int .i64 x_cond.Var, .int .i64 x_cond.Field, .int .i64 x_cond.Kind, .int .i64 x_cond.Value.Kind, .int .i64 x_cond.Value.Num, .str x_cond.Value.Text] 0)), (8, .v (.ref b1 0)), (11, .v (.sl (Ar.lst Encs.eGVariable x) u1))] ∧ Own Eq H0 [.tl u1, .blk b1 (.cells [.sl [] .nil])] H1) (by kernel_rfl) ?_ .nil hx ?_ ?_ ?_
    ·rintro s3 t4 H o ⟨ht4, hO⟩ h;clear hx;cbv;refine n_br hE h (fun hc h => ?_) (fun hc h => ?_)
     ·cbv;refine n_appn (f := Encs.eGVariable) hE sz_GVariable (by decide) hO 0 rfl ht4 (l := s3.1) (m := [(⟨⟨#[]⟩, x_index⟩ : GVariable)]) (.refl _) (.lstc (.eq (Encs.eGVariable_eq (⟨⟨#[]⟩, x_index⟩ : GVariable)) (.refl _)) (.lst0)) h fun l7 t6 H hO ht6 h => ?_;cbv;have h := ret_some h;subst h;exact ⟨_, t6, rfl, .e rfl (.e rfl (.e rfl (.e rfl (.e rfl (.e rfl (.e rfl (.z))))))), rfl, ht6, hO⟩
     ·cbv;have h := ret_some h;subst h;exact ⟨_, _, rfl, ⟨t4, ht4, rfl, rfl, hO⟩, .e rfl (.e rfl (.e rfl (.e rfl (.e rfl (.e rfl (.z)))))), rfl⟩
    ·exact .e rfl (.e rfl (.e rfl (.e rfl (.e rfl (.v (.slt _ (.lst0)) (.e rfl (.z)))))))
    ·exact ⟨trivial, hO⟩
    ·clear hx;rintro e l H ⟨t8, ht8, rfl, rfl, hO⟩;cbv;refine n_call hE (g := fun r9 => .tup [.int .i64 r9.1, .int .i64 r9.2]) h (fun r9 hx => c95 N x_types s5 x_cond r9 hx) (.cons (.refl _) (.cons (.ro _ _) (.refl _))) fun r9 h => ?_;cbv;refine n_br hE h (fun hc h => ?_) (fun hc h => ?_)
     ·cbv;refine n_store hE hO 1 rfl rfl fun H hO => ?_;cbv;refine n_load hE hO 1 rfl ?_;cbv;have h := ret_some h;subst h;exact hK _ _ _ hO (.tup (.cons (.agg (.cons (.lit _ (lst_nil)) (.refl _))) (.refl _)))
     ·cbv;refine n_br hE h (fun hc h => ?_) (fun hc h => ?_)
      ·cbv;refine n_store hE hO 1 rfl rfl fun H hO => ?_;cbv;refine n_load hE hO 1 rfl ?_;cbv;have h := ret_some h;subst h;exact hK _ _ _ hO (.tup (.cons (.agg (.cons (.lit _ (lst_nil)) (.refl _))) (.refl _)))
      ·cbv;refine n_idx hE Encs.eGSchema_eq h fun x10 h => ?_;cbv;refine n_pcall hE (g := fun r11 => .int .i64 r11) h (fun r11 hx => c97 N x10 r11 hx) (.refl _) fun r11 h => ?_;cbv;refine n_pcall hE (g := fun r12 => .tup [.sl (Ar.lst Encs.eGInterval r12.1) .ro, .bool r12.2]) h (fun r12 hx => c96 N N x_cond x_own r11 r12 hx) (.refl _) fun r12 h => ?_;cbv;refine n_br hE h (fun hc h => ?_) (fun hc h => ?_)
       ·cbv;refine n_store hE hO 1 rfl rfl fun H hO => ?_;cbv;refine n_load hE hO 1 rfl ?_;cbv;have h := ret_some h;subst h;exact hK _ _ _ hO (.tup (.cons (.agg (.cons (.lit _ (lst_nil)) (.refl _))) (.refl _)))
       ·cbv;refine n_ln hE ?_;cbv;refine n_callG hE (f := Encs.eLGInterval) (g := fun l13 => l13.Sets) (mk := fun l13 o => .agg [o]) h (fun l13 hx => o38 N (Ar.len x_types) l13 hx) (.refl _) hO fun l13 q14 H hq14 hO h => ?_;cbv;refine n_alloc hE hO fun b15 H hO => ?_;cbv;refine n_store hE hO 0 rfl rfl fun H hO => ?_;cbv;refine n_load hE hO 0 rfl ?_;cbv;refine n_oidx hE hO hq14 1 rfl h fun h => ?_;cbv;refine n_ostore hE (f := Encs.eLGInterval) (esz := 1) (tz := 1) (off := 0) (u := (fun x16 : List GInterval => r12.1)) (fun _ => ⟨_, .eq (Encs.eLGInterval_eq _) (.refl _), (by rw [Encs.eLGInterval_eq]; rfl), sz_LGInterval _, rfl⟩) (by decide) hO hq14 1 rfl h fun l17 H hq14 h hO => ?_;cbv;refine n_frzIn hE hO hq14 0 1 rfl rfl rfl (by decide) fun H hO => ?_;cbv;refine n_load hE hO 0 rfl ?_;cbv;refine n_call hE (g := fun r18 => .tup [.agg [.sl (Ar.lst Encs.eLGInterval r18.1.Sets) .ro], .int .i64 r18.2]) h (fun r18 hx => c61 N ({ l13 with Sets := l17 }) r18 hx) (.refl _) fun r18 h => ?_;cbv;refine n_store hE hO 2 rfl rfl fun H hO => ?_;cbv;refine n_load hE hO 2 rfl ?_;cbv;have h := ret_some h;subst h;exact hK _ _ _ hO (.refl _)
def cf136 : Cf := ⟨[], [], [], [], [], []⟩
theorem c136 (N : Nat) (x_e : GEvent) (r : Int) (h : event_numbers N x_e = some r) : CallP Tryz.prog 136 [.agg [.int .i64 x_e.Source, .int .i64 x_e.Seq, .int .i64 x_e.Typ, .int .i64 x_e.Time, .sl (Ar.lst Encs.eGValue x_e.Values) .ro]] (.int .i64 r) := by
 unfold event_numbers at h
 refine callP_of_spec cf136 okP Tryz.func136 (by rfl) (by kernel_rfl) Tryz.call136 Tryz.ntmps136 (by rfl) (by rfl) ?_;intro E H0 K hE hK
 have hO : Own Eq H0 [] H0 := .start stable_eq rfl
 cbv;refine n_br hE h (fun hc h => ?_) (fun hc h => ?_)
 ·cbv;have h := ret_some h;subst h;exact hK _ _ _ hO (.refl _)
 ·cbv;refine n_br hE h (fun hc h => ?_) (fun hc h => ?_)
  ·cbv;have h := ret_some h;subst h;exact hK _ _ _ hO (.refl _)
  ·cbv;have h := ret_some h;subst h;exact hK _ _ _ hO (.refl _)
def cf101 : Cf := ⟨[8], [(15, 7)], [], [], [], []⟩
theorem c101 (N : Nat) (x_types : List GSchema) (x_e : GEvent) (r : Int) (h : event_valid N x_types x_e = some r) : CallP Tryz.prog 101 [.sl (Ar.lst Encs.eGSchema x_types) .ro, .agg [.int .i64 x_e.Source, .int .i64 x_e.Seq, .int .i64 x_e.Typ, .int .i64 x_e.Time, .sl (Ar.lst Encs.eGValue x_e.Values) .ro]] (.int .i64 r) := by
 unfold event_valid at h
 refine callP_of_spec cf101 okP Tryz.func101 (by rfl) (by kernel_rfl) Tryz.call101 Tryz.ntmps101 (by rfl) (by rfl) ?_;intro E H0 K hE hK
 have hO : Own Eq H0 [] H0 := .start stable_eq rfl
 cbv;refine n_call hE (g := fun r1 => .int .i64 r1) h (fun r1 hx => c136 N x_e r1 hx) (.refl _) fun r1 h => ?_;cbv;refine n_br hE h (fun hc h => ?_) (fun hc h => ?_)
 ·cbv;have h := ret_some h;subst h;exact hK _ _ _ hO (.refl _)
 ·cbv;refine n_ln hE ?_;cbv;refine n_br hE h (fun hc h => ?_) (fun hc h => ?_)
  ·cbv;have h := ret_some h;subst h;exact hK _ _ _ hO (.refl _)
  ·cbv;refine n_idx hE Encs.eGSchema_eq h fun x2 h => ?_;cbv;refine n_ln hE ?_;cbv;refine n_ln hE ?_;cbv;refine n_br hE h (fun hc h => ?_) (fun hc h => ?_)
   ·cbv;have h := ret_some h;subst h;exact hK _ _ _ hO (.refl _)
   ·cbv;refine n_ln hE ?_;cbv;obtain ⟨s4, hx, h⟩ := bind_some h;refine n_loopN cf101 hE okP (fun s3 => [(6, .v (.sl (Ar.lst Encs.eGField x2.Fields) .ro)), (38, .v (.sl (Ar.lst Encs.eGValue x_e.Values) .ro)), (39, .v (.int .i64 (Ar.len x_e.Values))), (40, .v (.int .i64 s3))]) (fun s3 H1 => Own Eq H0 [] H1) (fun x e l H1 => match (generalizing := false) x with | .inl y => e = .exit 0 ∧ l = [] ∧ Own Eq H0 [] H1 | .inr y => e = .ret ∧ l = [(4, .v (.int .i64 y))] ∧ Own Eq H0 [] H1) (by kernel_rfl) ?_ hx ?_ hO ?_
    ·intro s3 H o hO h;clear hx;cbv;refine n_br hE h (fun hc h => ?_) (fun hc h => ?_)
     ·cbv;refine n_idx hE Encs.eGValue_eq h fun x5 h => ?_;cbv;refine n_alloc hE hO fun b6 H hO => ?_;cbv;refine n_store hE hO 0 rfl rfl fun H hO => ?_;cbv;refine n_load hE hO 0 rfl ?_;cbv;refine n_call hE (g := fun r7 => .int .i64 r7) h (fun r7 hx => c137 N x5 r7 hx) (.refl _) fun r7 h => ?_;cbv;refine n_br hE h (fun hc h => ?_) (fun hc h => ?_)
      ·cbv;have h := ret_some h;subst h;exact ⟨_, _, rfl, ⟨rfl, rfl, hO.tail⟩, .e rfl (.z), rfl⟩
      ·cbv;refine n_load hE hO 0 rfl ?_;cbv;refine n_idx hE Encs.eGField_eq h fun x8 h => ?_;cbv;refine n_br hE h (fun hc h => ?_) (fun hc h => ?_)
       ·cbv;have h := ret_some h;subst h;exact ⟨_, _, rfl, ⟨rfl, rfl, hO.tail⟩, .e rfl (.z), rfl⟩
       ·cbv;have h := ret_some h;subst h;exact ⟨_, rfl, .e rfl (.e rfl (.e rfl (.e rfl (.z)))), rfl, hO.tail⟩
     ·cbv;have h := ret_some h;subst h;exact ⟨_, _, rfl, ⟨rfl, rfl, hO⟩, .z, rfl⟩
    ·exact .e rfl (.e rfl (.e rfl (.e rfl (.z))))
    ·clear hx
     rcases s4 with y9 | y10
     ·rintro e l H ⟨rfl, rfl, hO⟩;cbv;have h := ret_some h;subst h;exact hK _ _ _ hO (.refl _)
     ·rintro e l H ⟨rfl, rfl, hO⟩;cbv;have h := ret_some h;subst h;exact hK _ _ _ hO (.refl _)
def cf50 : Cf := ⟨[], [], [], [], [], []⟩
theorem c50 (N : Nat) (x_types : List GSchema) (x_e : GEvent) (r : Int) (h : event_Check N x_types x_e = some r) : CallP Tryz.prog 50 [.sl (Ar.lst Encs.eGSchema x_types) .ro, .agg [.int .i64 x_e.Source, .int .i64 x_e.Seq, .int .i64 x_e.Typ, .int .i64 x_e.Time, .sl (Ar.lst Encs.eGValue x_e.Values) .ro]] (.int .i64 r) := by
 unfold event_Check at h
 refine callP_of_spec cf50 okP Tryz.func50 (by rfl) (by kernel_rfl) Tryz.call50 Tryz.ntmps50 (by rfl) (by rfl) ?_;intro E H0 K hE hK
 have hO : Own Eq H0 [] H0 := .start stable_eq rfl
 cbv;refine n_call hE (g := fun r1 => .int .i64 r1) h (fun r1 hx => c89 N x_types r1 hx) (.refl _) fun r1 h => ?_;cbv;refine n_br hE h (fun hc h => ?_) (fun hc h => ?_)
 ·cbv;have h := ret_some h;subst h;exact hK _ _ _ hO (.refl _)
 ·cbv;refine n_call hE (g := fun r2 => .int .i64 r2) h (fun r2 hx => c101 N x_types x_e r2 hx) (.refl _) fun r2 h => ?_;cbv;have h := ret_some h;subst h;exact hK _ _ _ hO (.refl _)
def cf46 : Cf := ⟨[4, 7], [], [], [], [], []⟩
theorem c46 (N : Nat) (x_types : List GSchema) (x_e : GEvent) (r : (GSymbol × Int)) (h : predicate_Symbol N x_types x_e = some r) : CallP Tryz.prog 46 [.sl (Ar.lst Encs.eGSchema x_types) .ro, .agg [.int .i64 x_e.Source, .int .i64 x_e.Seq, .int .i64 x_e.Typ, .int .i64 x_e.Time, .sl (Ar.lst Encs.eGValue x_e.Values) .ro]] (.tup [.agg [.int .i64 r.1.Typ, .int .i64 r.1.Num], .int .i64 r.2]) := by
 unfold predicate_Symbol at h
 refine callP_of_spec cf46 okP Tryz.func46 (by rfl) (by kernel_rfl) Tryz.call46 Tryz.ntmps46 (by rfl) (by rfl) ?_;intro E H0 K hE hK
 have hO : Own Eq H0 [] H0 := .start stable_eq rfl
 cbv;refine n_alloc hE hO fun b1 H hO => ?_;cbv;refine n_call hE (g := fun r2 => .int .i64 r2) h (fun r2 hx => c50 N x_types x_e r2 hx) (.refl _) fun r2 h => ?_;cbv;refine n_br hE h (fun hc h => ?_) (fun hc h => ?_)
 ·cbv;refine n_store hE hO 0 rfl rfl fun H hO => ?_;cbv;refine n_load hE hO 0 rfl ?_;cbv;have h := ret_some h;subst h;exact hK _ _ _ hO (.refl _)
 ·cbv;refine n_alloc hE hO fun b3 H hO => ?_;cbv;refine n_store hE hO 0 rfl rfl fun H hO => ?_;cbv;refine n_idx hE Encs.eGSchema_eq h fun x4 h => ?_;cbv;refine n_call hE (g := fun r5 => .int .i64 r5) h (fun r5 hx => c93 N x4 r5 hx) (.refl _) fun r5 h => ?_;cbv;refine n_br hE h (fun hc h => ?_) (fun hc h => ?_)
  ·cbv;refine n_idx hE Encs.eGValue_eq h fun x6 h => ?_;cbv;refine n_store hE hO 0 rfl rfl fun H hO => ?_;cbv;refine n_load hE hO 0 rfl ?_;cbv;refine n_store hE hO 1 rfl rfl fun H hO => ?_;cbv;refine n_load hE hO 1 rfl ?_;cbv;have h := ret_some h;subst h;exact hK _ _ _ hO (.refl _)
  ·cbv;refine n_load hE hO 0 rfl ?_;cbv;refine n_store hE hO 1 rfl rfl fun H hO => ?_;cbv;refine n_load hE hO 1 rfl ?_;cbv;have h := ret_some h;subst h;exact hK _ _ _ hO (.refl _)
def cf134 : Cf := ⟨[], [(16, 11)], [], [], [], []⟩
theorem c134 (N : Nat) (x_types : List GSchema) (x_e : GEvent) (r : Int) (h : ref04_Valid N x_types x_e = some r) : CallP Tryz.prog 134 [.sl (Ar.lst Encs.eGSchema x_types) .ro, .agg [.int .i64 x_e.Source, .int .i64 x_e.Seq, .int .i64 x_e.Typ, .int .i64 x_e.Time, .sl (Ar.lst Encs.eGValue x_e.Values) .ro]] (.int .i64 r) := by
 unfold ref04_Valid at h
 refine callP_of_spec cf134 okP Tryz.func134 (by rfl) (by kernel_rfl) Tryz.call134 Tryz.ntmps134 (by rfl) (by rfl) ?_;intro E H0 K hE hK
 have hO : Own Eq H0 [] H0 := .start stable_eq rfl
 cbv;refine n_br hE h (fun hc h => ?_) (fun hc h => ?_)
 ·cbv;have h := ret_some h;subst h;exact hK _ _ _ hO (.refl _)
 ·cbv;refine n_br hE h (fun hc h => ?_) (fun hc h => ?_)
  ·cbv;have h := ret_some h;subst h;exact hK _ _ _ hO (.refl _)
  ·cbv;refine n_ln hE ?_;cbv;refine n_br hE h (fun hc h => ?_) (fun hc h => ?_)
   ·cbv;have h := ret_some h;subst h;exact hK _ _ _ hO (.refl _)
   ·cbv;refine n_idx hE Encs.eGSchema_eq h fun x1 h => ?_;cbv;refine n_ln hE ?_;cbv;refine n_ln hE ?_;cbv;refine n_br hE h (fun hc h => ?_) (fun hc h => ?_)
    ·cbv;have h := ret_some h;subst h;exact hK _ _ _ hO (.refl _)
    ·cbv;obtain ⟨s3, hx, h⟩ := bind_some h;refine n_loopN cf134 hE okP (fun s2 => [(3, .v (.eref [.int .i64 x_e.Source, .int .i64 x_e.Seq, .int .i64 x_e.Typ, .int .i64 x_e.Time, .sl (Ar.lst Encs.eGValue x_e.Values) .ro] 0)), (5, .v (.sl (Ar.lst Encs.eGField x1.Fields) .ro)), (6, .v (.int .i64 s2))]) (fun s2 H1 => Own Eq H0 [] H1) (fun x e l H1 => match (generalizing := false) x with | .inl y => e = .exit 0 ∧ l = [] ∧ Own Eq H0 [] H1 | .inr y => e = .ret ∧ l = [(4, .v (.int .i64 y))] ∧ Own Eq H0 [] H1) (by kernel_rfl) ?_ hx ?_ hO ?_
     ·intro s2 H o hO h;clear hx;cbv;refine n_ln hE ?_;cbv;refine n_br hE h (fun hc h => ?_) (fun hc h => ?_)
      ·cbv;refine n_idx hE Encs.eGValue_eq h fun x4 h => ?_;cbv;refine n_call hE (g := fun r5 => .int .i64 r5) h (fun r5 hx => c168 N x4 r5 hx) (.refl _) fun r5 h => ?_;cbv;refine n_br hE h (fun hc h => ?_) (fun hc h => ?_)
       ·cbv;have h := ret_some h;subst h;exact ⟨_, _, rfl, ⟨rfl, rfl, hO⟩, .e rfl (.z), rfl⟩
       ·cbv;refine n_idx hE Encs.eGValue_eq h fun x6 h => ?_;cbv;refine n_idx hE Encs.eGField_eq h fun x7 h => ?_;cbv;refine n_br hE h (fun hc h => ?_) (fun hc h => ?_)
        ·cbv;have h := ret_some h;subst h;exact ⟨_, _, rfl, ⟨rfl, rfl, hO⟩, .e rfl (.z), rfl⟩
        ·cbv;have h := ret_some h;subst h;exact ⟨_, rfl, .e rfl (.e rfl (.e rfl (.z))), rfl, hO⟩
      ·cbv;have h := ret_some h;subst h;exact ⟨_, _, rfl, ⟨rfl, rfl, hO⟩, .z, rfl⟩
     ·exact .e rfl (.e rfl (.e rfl (.z)))
     ·clear hx
      rcases s3 with y8 | y9
      ·rintro e l H ⟨rfl, rfl, hO⟩;cbv;have h := ret_some h;subst h;exact hK _ _ _ hO (.refl _)
      ·rintro e l H ⟨rfl, rfl, hO⟩;cbv;have h := ret_some h;subst h;exact hK _ _ _ hO (.refl _)
def cf98 : Cf := ⟨[], [], [], [], [], []⟩
theorem c98 (N : Nat) (x_types : List GSchema) (x_e : GEvent) (r : Int) (h : ref04_Check N x_types x_e = some r) : CallP Tryz.prog 98 [.sl (Ar.lst Encs.eGSchema x_types) .ro, .agg [.int .i64 x_e.Source, .int .i64 x_e.Seq, .int .i64 x_e.Typ, .int .i64 x_e.Time, .sl (Ar.lst Encs.eGValue x_e.Values) .ro]] (.int .i64 r) := by
 unfold ref04_Check at h
 refine callP_of_spec cf98 okP Tryz.func98 (by rfl) (by kernel_rfl) Tryz.call98 Tryz.ntmps98 (by rfl) (by rfl) ?_;intro E H0 K hE hK
 have hO : Own Eq H0 [] H0 := .start stable_eq rfl
 cbv;refine n_call hE (g := fun r1 => .int .i64 r1) h (fun r1 hx => c94 N x_types r1 hx) (.refl _) fun r1 h => ?_;cbv;refine n_br hE h (fun hc h => ?_) (fun hc h => ?_)
 ·cbv;have h := ret_some h;subst h;exact hK _ _ _ hO (.refl _)
 ·cbv;refine n_call hE (g := fun r2 => .int .i64 r2) h (fun r2 hx => c134 N x_types x_e r2 hx) (.refl _) fun r2 h => ?_;cbv;have h := ret_some h;subst h;exact hK _ _ _ hO (.refl _)
def cf99 : Cf := ⟨[4], [(4, 8)], [], [], [], []⟩
theorem c99 (N : Nat) (x_types : List GSchema) (x_e : GEvent) (r : GSymbol) (h : ref27_Letter N x_types x_e = some r) : CallP Tryz.prog 99 [.sl (Ar.lst Encs.eGSchema x_types) .ro, .agg [.int .i64 x_e.Source, .int .i64 x_e.Seq, .int .i64 x_e.Typ, .int .i64 x_e.Time, .sl (Ar.lst Encs.eGValue x_e.Values) .ro]] (.agg [.int .i64 r.Typ, .int .i64 r.Num]) := by
 unfold ref27_Letter at h
 refine callP_of_spec cf99 okP Tryz.func99 (by rfl) (by kernel_rfl) Tryz.call99 Tryz.ntmps99 (by rfl) (by rfl) ?_;intro E H0 K hE hK
 have hO : Own Eq H0 [] H0 := .start stable_eq rfl
 cbv;refine n_alloc hE hO fun b1 H hO => ?_;cbv;refine n_idx hE Encs.eGSchema_eq h fun x2 h => ?_;cbv;refine n_call hE (g := fun r3 => .int .i64 r3) h (fun r3 hx => c97 N x2 r3 hx) (.refl _) fun r3 h => ?_;cbv;refine n_br hE h (fun hc h => ?_) (fun hc h => ?_)
 ·cbv;refine n_store hE hO 0 rfl rfl fun H hO => ?_;cbv;refine n_load hE hO 0 rfl ?_;cbv;have h := ret_some h;subst h;exact hK _ _ _ hO (.refl _)
 ·cbv;refine n_idx hE Encs.eGValue_eq h fun x4 h => ?_;cbv;refine n_store hE hO 0 rfl rfl fun H hO => ?_;cbv;refine n_load hE hO 0 rfl ?_;cbv;have h := ret_some h;subst h;exact hK _ _ _ hO (.refl _)
def cf47 : Cf := ⟨[4], [], [], [], [], []⟩
theorem c47 (N : Nat) (x_types : List GSchema) (x_e : GEvent) (r : (GSymbol × Int)) (h : ref27_Symbol N x_types x_e = some r) : CallP Tryz.prog 47 [.sl (Ar.lst Encs.eGSchema x_types) .ro, .agg [.int .i64 x_e.Source, .int .i64 x_e.Seq, .int .i64 x_e.Typ, .int .i64 x_e.Time, .sl (Ar.lst Encs.eGValue x_e.Values) .ro]] (.tup [.agg [.int .i64 r.1.Typ, .int .i64 r.1.Num], .int .i64 r.2]) := by
 unfold ref27_Symbol at h
 refine callP_of_spec cf47 okP Tryz.func47 (by rfl) (by kernel_rfl) Tryz.call47 Tryz.ntmps47 (by rfl) (by rfl) ?_;intro E H0 K hE hK
 have hO : Own Eq H0 [] H0 := .start stable_eq rfl
 cbv;refine n_alloc hE hO fun b1 H hO => ?_;cbv;refine n_call hE (g := fun r2 => .int .i64 r2) h (fun r2 hx => c98 N x_types x_e r2 hx) (.refl _) fun r2 h => ?_;cbv;refine n_br hE h (fun hc h => ?_) (fun hc h => ?_)
 ·cbv;refine n_store hE hO 0 rfl rfl fun H hO => ?_;cbv;refine n_load hE hO 0 rfl ?_;cbv;have h := ret_some h;subst h;exact hK _ _ _ hO (.refl _)
 ·cbv;refine n_call hE (g := fun r3 => .agg [.int .i64 r3.Typ, .int .i64 r3.Num]) h (fun r3 hx => c99 N x_types x_e r3 hx) (.refl _) fun r3 h => ?_;cbv;refine n_store hE hO 0 rfl rfl fun H hO => ?_;cbv;refine n_load hE hO 0 rfl ?_;cbv;have h := ret_some h;subst h;exact hK _ _ _ hO (.refl _)
def cf8 : Cf := ⟨[], [], [], [], [], []⟩
theorem c8 (N : Nat) (x_types : List GSchema) (x_c : Gtidegatelaw27_Case) (r : Bool) (h : law27_PredicateTranslates N x_types x_c = some r) : CallP Tryz.prog 8 [.sl (Ar.lst Encs.eGSchema x_types) .ro, .agg [.int .i64 x_c.Index, .int .i64 x_c.Own, .int .i64 x_c.Cond.Op, .sl (Ar.lst Encs.eGExpr x_c.Cond.Args) .ro, .int .i64 x_c.Cond.Var, .int .i64 x_c.Cond.Field, .int .i64 x_c.Cond.Kind, .int .i64 x_c.Cond.Value.Kind, .int .i64 x_c.Cond.Value.Num, .str x_c.Cond.Value.Text, .int .i64 x_c.Event.Source, .int .i64 x_c.Event.Seq, .int .i64 x_c.Event.Typ, .int .i64 x_c.Event.Time, .sl (Ar.lst Encs.eGValue x_c.Event.Values) .ro]] (.bool r) := by
 unfold law27_PredicateTranslates at h
 refine callP_of_spec cf8 okP Tryz.func8 (by rfl) (by kernel_rfl) Tryz.call8 Tryz.ntmps8 (by rfl) (by rfl) ?_;intro E H0 K hE hK
 have hO : Own Eq H0 [] H0 := .start stable_eq rfl
 cbv;refine n_ln hE ?_;cbv;refine n_br hE h (fun hc h => ?_) (fun hc h => ?_)
 ·cbv;refine n_call hE (g := fun r1 => .bool r1) h (fun r1 hx => c14 N  r1 hx) (.refl _) fun r1 h => ?_;cbv;have h := ret_some h;subst h;exact hK _ _ _ hO (.refl _)
 ·cbv;refine n_call hE (g := fun r2 => .bool r2) h (fun r2 hx => c43 N x_c.Cond r2 hx) (.refl _) fun r2 h => ?_;cbv;refine n_ln hE ?_;cbv;refine n_br hE h (fun hc h => ?_) (fun hc h => ?_)
  ·cbv;refine n_call hE (g := fun r3 => .bool r3) h (fun r3 hx => c14 N  r3 hx) (.refl _) fun r3 h => ?_;cbv;have h := ret_some h;subst h;exact hK _ _ _ hO (.refl _)
  ·cbv;refine n_call hE (g := fun r4 => .tup [.agg [.sl (Ar.lst Encs.eLGInterval r4.1.Sets) .ro], .int .i64 r4.2]) h (fun r4 hx => c44 N x_types x_c.Index x_c.Cond x_c.Own r4 hx) (.refl _) fun r4 h => ?_;cbv;refine n_call hE (g := fun r5 => .tup [.agg [.sl (Ar.lst Encs.eLGInterval r5.1.Sets) .ro], .int .i64 r5.2]) h (fun r5 hx => c45 N x_types x_c.Index x_c.Cond x_c.Own r5 hx) (.refl _) fun r5 h => ?_;cbv;refine n_call hE (g := fun r6 => .tup [.agg [.int .i64 r6.1.Typ, .int .i64 r6.1.Num], .int .i64 r6.2]) h (fun r6 hx => c46 N x_types x_c.Event r6 hx) (.refl _) fun r6 h => ?_;cbv;refine n_call hE (g := fun r7 => .tup [.agg [.int .i64 r7.1.Typ, .int .i64 r7.1.Num], .int .i64 r7.2]) h (fun r7 hx => c47 N x_types x_c.Event r7 hx) (.refl _) fun r7 h => ?_;cbv;refine n_call hE (g := fun r8 => .bool r8) h (fun r8 hx => c24 N r4.1 r5.1 r8 hx) (.refl _) fun r8 h => ?_;cbv;refine n_br hE h (fun hc h => ?_) (fun hc h => ?_)
   ·cbv;refine n_call hE (g := fun r9 => .bool r9) h (fun r9 hx => c14 N  r9 hx) (.refl _) fun r9 h => ?_;cbv;have h := ret_some h;subst h;exact hK _ _ _ hO (.refl _)
   ·cbv;have h := ret_some h;subst h;exact hK _ _ _ hO (.refl _)
end Go.Ab

