/- GPCo1 -/
import Derived.Test.YtpapabjndpgcnaaGreatT27
import Derived.Test.YtpapabjndpgcnaaGreatT28
import Derived.Test.YtpapabjndpgcnaaGreatT25
import Derived.Test.YtpapabjndpgcnaaGreatT29
import Derived.Test.YtpapabjndpgcnaaGreatT26
set_option linter.all false

namespace Go.Ab
open Go.RowKit Go.Proofs
instance globs : Glob := ⟨fun n => match n with
 | _ => .bad⟩
variable [Ar] [Encs]
set_option maxRecDepth 100000
theorem okP : POk Tryz.prog TT := ⟨okT, by rfl⟩
def cf116 : Cf := ⟨[], [], [], [], [], []⟩
theorem c116 (N : Nat) (x_x : GInterval) (r : Int) (h : interval_formed N x_x = some r) : CallP Tryz.prog 116 [.agg [.int .i64 x_x.Low, .int .i64 x_x.High]] (.int .i64 r) := by
 unfold interval_formed at h
 refine callP_of_spec cf116 okP Tryz.func116 (by rfl) (by kernel_rfl) Tryz.call116 Tryz.ntmps116 (by rfl) (by rfl) ?_;intro E H0 K hE hK
 have hO : Own Eq H0 [] H0 := .start stable_eq rfl
 cbv;refine n_br hE h (fun hc h => ?_) (fun hc h => ?_)
 ·cbv;have h := ret_some h;subst h;exact hK _ _ _ hO (.refl _)
 ·cbv;refine n_br hE h (fun hc h => ?_) (fun hc h => ?_)
  ·cbv;have h := ret_some h;subst h;exact hK _ _ _ hO (.refl _)
  ·cbv;have h := ret_some h;subst h;exact hK _ _ _ hO (.refl _)
def cf82 : Cf := ⟨[4], [(9, 12)], [], [], [], []⟩
theorem c82 (N : Nat) (x_l : List GInterval) (r : Int) (h : interval_Check N x_l = some r) : CallP Tryz.prog 82 [.sl (Ar.lst Encs.eGInterval x_l) .ro] (.int .i64 r) := by
 unfold interval_Check at h
 refine callP_of_spec cf82 okP Tryz.func82 (by rfl) (by kernel_rfl) Tryz.call82 Tryz.ntmps82 (by rfl) (by rfl) ?_;intro E H0 K hE hK
 have hO : Own Eq H0 [] H0 := .start stable_eq rfl
 cbv;refine n_ln hE ?_;cbv;refine n_br hE h (fun hc h => ?_) (fun hc h => ?_)
 ·cbv;have h := ret_some h;subst h;exact hK _ _ _ hO (.refl _)
 ·cbv;refine n_ln hE ?_;cbv;obtain ⟨s2, hx, h⟩ := bind_some h;refine n_loopN cf82 hE okP (fun s1 => [(0, .v (.sl (Ar.lst Encs.eGInterval x_l) .ro)), (9, .v (.sl (Ar.lst Encs.eGInterval x_l) .ro)), (10, .v (.int .i64 (Ar.len x_l))), (11, .v (.int .i64 s1))]) (fun s1 H1 => Own Eq H0 [] H1) (fun x e l H1 => match (generalizing := false) x with | .inl y => e = .exit 0 ∧ l = [] ∧ Own Eq H0 [] H1 | .inr y => e = .ret ∧ l = [(2, .v (.int .i64 y))] ∧ Own Eq H0 [] H1) (by kernel_rfl) ?_ hx ?_ hO ?_
  ·intro s1 H o hO h;clear hx;cbv;refine n_br hE h (fun hc h => ?_) (fun hc h => ?_)
   ·cbv;refine n_idx hE Encs.eGInterval_eq h fun x3 h => ?_;cbv;refine n_alloc hE hO fun b4 H hO => ?_;cbv;refine n_store hE hO 0 rfl rfl fun H hO => ?_;cbv;refine n_load hE hO 0 rfl ?_;cbv;refine n_call hE (g := fun r5 => .int .i64 r5) h (fun r5 hx => c116 N x3 r5 hx) (.refl _) fun r5 h => ?_;cbv;refine n_br hE h (fun hc h => ?_) (fun hc h => ?_)
    ·cbv;have h := ret_some h;subst h;exact ⟨_, _, rfl, ⟨rfl, rfl, hO.tail⟩, .e rfl (.z), rfl⟩
    ·cbv;refine n_load hE hO 0 rfl ?_;cbv;refine n_br hE h (fun hc h => ?_) (fun hc h => ?_)
     ·cbv;refine n_idx hE Encs.eGInterval_eq h fun x6 h => ?_;cbv;refine n_br hE h (fun hc h => ?_) (fun hc h => ?_)
      ·cbv;have h := ret_some h;subst h;exact ⟨_, _, rfl, ⟨rfl, rfl, hO.tail⟩, .e rfl (.z), rfl⟩
      ·cbv;have h := ret_some h;subst h;exact ⟨_, rfl, .e rfl (.e rfl (.e rfl (.e rfl (.z)))), rfl, hO.tail⟩
     ·cbv;have h := ret_some h;subst h;exact ⟨_, rfl, .e rfl (.e rfl (.e rfl (.e rfl (.z)))), rfl, hO.tail⟩
   ·cbv;have h := ret_some h;subst h;exact ⟨_, _, rfl, ⟨rfl, rfl, hO⟩, .z, rfl⟩
  ·exact .e rfl (.e rfl (.e rfl (.e rfl (.z))))
  ·clear hx
   rcases s2 with y7 | y8
   ·rintro e l H ⟨rfl, rfl, hO⟩;cbv;have h := ret_some h;subst h;exact hK _ _ _ hO (.refl _)
   ·rintro e l H ⟨rfl, rfl, hO⟩;cbv;have h := ret_some h;subst h;exact hK _ _ _ hO (.refl _)
def cf33 : Cf := ⟨[], [], [], [], [], []⟩
theorem c33 (N : Nat) (x_types : Int) (x_p : GPredicate) (r : Int) (h : predicate_Check N x_types x_p = some r) : CallP Tryz.prog 33 [.int .i64 x_types, .agg [.sl (Ar.lst Encs.eLGInterval x_p.Sets) .ro]] (.int .i64 r) := by
 unfold predicate_Check at h
 refine callP_of_spec cf33 okP Tryz.func33 (by rfl) (by kernel_rfl) Tryz.call33 Tryz.ntmps33 (by rfl) (by rfl) ?_;intro E H0 K hE hK
 have hO : Own Eq H0 [] H0 := .start stable_eq rfl
 cbv;refine n_br hE h (fun hc h => ?_) (fun hc h => ?_)
 ·cbv;have h := ret_some h;subst h;exact hK _ _ _ hO (.refl _)
 ·cbv;refine n_ln hE ?_;cbv;refine n_br hE h (fun hc h => ?_) (fun hc h => ?_)
  ·cbv;have h := ret_some h;subst h;exact hK _ _ _ hO (.refl _)
  ·cbv;refine n_ln hE ?_;cbv;obtain ⟨s2, hx, h⟩ := bind_some h;refine n_loopN cf33 hE okP (fun s1 => [(22, .v (.sl (Ar.lst Encs.eLGInterval x_p.Sets) .ro)), (23, .v (.int .i64 (Ar.len x_p.Sets))), (24, .v (.int .i64 s1))]) (fun s1 H1 => Own Eq H0 [] H1) (fun x e l H1 => match (generalizing := false) x with | .inl y => e = .exit 1 ∧ l = [] ∧ Own Eq H0 [] H1 | .inr y => e = .ret ∧ l = [(4, .v (.int .i64 y))] ∧ Own Eq H0 [] H1) (by kernel_rfl) ?_ hx ?_ hO ?_
   ·intro s1 H o hO h;clear hx;cbv;refine n_br hE h (fun hc h => ?_) (fun hc h => ?_)
    ·cbv;refine n_idx hE Encs.eLGInterval_eq h fun x3 h => ?_;cbv;refine n_call hE (g := fun r4 => .int .i64 r4) h (fun r4 hx => c82 N x3 r4 hx) (.refl _) fun r4 h => ?_;cbv;refine n_br hE h (fun hc h => ?_) (fun hc h => ?_)
     ·cbv;have h := ret_some h;subst h;exact ⟨_, _, rfl, ⟨rfl, rfl, hO⟩, .e rfl (.z), rfl⟩
     ·cbv;have h := ret_some h;subst h;exact ⟨_, rfl, .e rfl (.e rfl (.e rfl (.z))), rfl, hO⟩
    ·cbv;have h := ret_some h;subst h;exact ⟨_, _, rfl, ⟨rfl, rfl, hO⟩, .z, rfl⟩
   ·exact .e rfl (.e rfl (.e rfl (.z)))
   ·clear hx
    rcases s2 with y5 | y6
    ·rintro e l H ⟨rfl, rfl, hO⟩;cbv;have h := ret_some h;subst h;exact hK _ _ _ hO (.refl _)
    ·rintro e l H ⟨rfl, rfl, hO⟩;cbv;have h := ret_some h;subst h;exact hK _ _ _ hO (.refl _)
theorem c104 (N : Nat) (x_s r : List Int) (h : slices_Sort_Lint_int N x_s = some r) : CallS Tryz.prog 104 x_s r := callS_sort Go.Proofs.Tryz.laysNm189 Tryz.call104 h
theorem c105 (N : Nat) (x_s r : List Int) (h : slices_Compact_Lint_int N x_s = some r) : CallOO Tryz.prog 105 [] 1 (Ar.lst (V.int .i64) x_s) (Ar.lst (V.int .i64) r) := callOO_compact Go.Proofs.Tryz.laysNm220 Tryz.call105 h
def cf57 : Cf := ⟨[6000010], [], [], [], [], []⟩
theorem c57 (N : Nat) (x_l : List GPredicate) (x_index : Int) (r : (List Int)) (h : predicate_cuts N x_l x_index = some r) : CallP Tryz.prog 57 [.sl (Ar.lst Encs.eGPredicate x_l) .ro, .int .i64 x_index] (.sl (Ar.lst (V.int .i64) r) .ro) := by
 unfold predicate_cuts at h
 refine callP_of_specF (T := TT) cf57 okP Tryz.func57 (by rfl) (by kernel_rfl) Tryz.call57 Tryz.ntmps57 (by rfl) (by rfl) ?_;intro E H0 K hE hK hF
 have hO : Own Eq H0 [] H0 := .start stable_eq rfl
 cbv;refine n_olit hE (f := (V.int .i64)) (l := ([(-1099511627776), 1099511627777] : List Int)) (.lstc (.refl _) (.lstc (.refl _) (.lst0))) hO fun q1 H hq1 hO => ?_;cbv;refine n_ln hE ?_;cbv;obtain ⟨s4, hx, h⟩ := bind_some h;refine n_loopG cf57 hE okP (γ := OG) (fun s2 g => [(1, .v (.int .i64 x_index)), (5, .v (.own g.id g.lo g.n)), (11, .v (.sl (Ar.lst Encs.eGPredicate x_l) .ro)), (12, .v (.int .i64 (Ar.len x_l))), (13, .v (.int .i64 s2.1))]) (fun s2 g H1 => Okn g (Ar.len s2.2) ∧ Own Eq H0 [.blk g.id (.arr 1 (g.pre ++ Ar.lst (V.int .i64) s2.2 ++ g.rest))] H1) (fun x e l H1 => ∃ u1 : OG, Okn u1 (Ar.len x) ∧ e = .exit 0 ∧ l = [(5, .v (.own u1.id u1.lo u1.n))] ∧ Own Eq H0 [.blk u1.id (.arr 1 (u1.pre ++ Ar.lst (V.int .i64) x ++ u1.rest))] H1) (by kernel_rfl) ?_ q1 hx ?_ ?_ ?_
 ·rintro s2 q3 H o ⟨hq3, hO⟩ h;clear hx;cbv;refine n_br hE h (fun hc h => ?_) (fun hc h => ?_)
  ·cbv;refine n_idx hE Encs.eGPredicate_eq h fun x5 h => ?_;cbv;refine n_idx hE Encs.eLGInterval_eq h fun x6 h => ?_;cbv;refine n_ln hE ?_;cbv;obtain ⟨s9, hx, h⟩ := bind_some h;refine n_loopG cf57 hE okP (γ := OG) (fun s7 g => [(1, .v (.int .i64 x_index)), (5, .v (.own g.id g.lo g.n)), (11, .v (.sl (Ar.lst Encs.eGPredicate x_l) .ro)), (12, .v (.int .i64 (Ar.len x_l))), (13, .v (.int .i64 s2.1)), (21, .v (.sl (Ar.lst Encs.eGInterval x6) .ro)), (22, .v (.int .i64 (Ar.len x6))), (23, .v (.int .i64 s7.1))]) (fun s7 g H1 => Okn g (Ar.len s7.2) ∧ Own Eq H0 [.blk g.id (.arr 1 (g.pre ++ Ar.lst (V.int .i64) s7.2 ++ g.rest))] H1) (fun x e l H1 => ∃ u1 : OG, Okn u1 (Ar.len x) ∧ e = .exit 2 ∧ l = [(1, .v (.int .i64 x_index)), (5, .v (.own u1.id u1.lo u1.n)), (11, .v (.sl (Ar.lst Encs.eGPredicate x_l) .ro)), (12, .v (.int .i64 (Ar.len x_l))), (13, .v (.int .i64 s2.1))] ∧ Own Eq H0 [.blk u1.id (.arr 1 (u1.pre ++ Ar.lst (V.int .i64) x ++ u1.rest))] H1) (by kernel_rfl) ?_ q3 hx ?_ ?_ ?_
   ·rintro s7 q8 H o ⟨hq8, hO⟩ h;clear hx;cbv;refine n_br hE h (fun hc h => ?_) (fun hc h => ?_)
    ·cbv;refine n_idx hE Encs.eGInterval_eq h fun x10 h => ?_;cbv;refine n_oapp (f := (V.int .i64)) hE (fun _ => rfl) (by decide) hO hq8 0 rfl (m := [x10.Low, Ar.ar .add .i64 x10.High 1]) (src_sl (f := (V.int .i64)) hE (fun _ => rfl) (.lstc (.refl _) (.lstc (.refl _) (.lst0)))) h fun l12 q11 H hq11 hO h => ?_;cbv;have h := ret_some h;subst h;exact ⟨_, q11, rfl, .e rfl (.e rfl (.e rfl (.e rfl (.e rfl (.e rfl (.e rfl (.e rfl (.z)))))))), rfl, hq11, hO⟩
    ·cbv;have h := ret_some h;subst h;exact ⟨_, _, rfl, ⟨q8, hq8, rfl, rfl, hO⟩, .e rfl (.e rfl (.e rfl (.e rfl (.e rfl (.z))))), rfl⟩
   ·exact .e rfl (.e rfl (.e rfl (.e rfl (.e rfl (.e rfl (.e rfl (.e rfl (.z))))))))
   ·exact ⟨hq3, hO⟩
   ·clear hx;rintro e l H ⟨q13, hq13, rfl, rfl, hO⟩;cbv;have h := ret_some h;subst h;exact ⟨_, q13, rfl, .e rfl (.e rfl (.e rfl (.e rfl (.e rfl (.z))))), rfl, hq13, hO⟩
  ·cbv;have h := ret_some h;subst h;exact ⟨_, _, rfl, ⟨q3, hq3, rfl, rfl, hO⟩, .e rfl (.z), rfl⟩
 ·exact .e rfl (.e rfl (.e rfl (.e rfl (.e rfl (.z)))))
 ·exact ⟨hq1, hO⟩
 ·clear hx;rintro e l H ⟨q14, hq14, rfl, rfl, hO⟩;cbv;refine n_callS hE hO hq14 0 rfl h (fun l15 hx => c104 N s4 l15 hx) fun l15 H hq14 hO h => ?_;cbv;refine n_callOO hE (f := (V.int .i64)) hO hq14 0 rfl h (fun l16 hx => c105 N l15 l16 hx) (.refl _) fun l16 q17 H hq17 hO h => ?_;cbv;have h := ret_some h;subst h;exact hF q17 _ _ 0 _ _ hO rfl (okn_lst hE hq17) (.refl _)
def cf146 : Cf := ⟨[], [], [], [], [], []⟩
theorem c146 (N : Nat) (x_x : List GInterval) (x_target : Int) (v_cmp : V) (x_cmp : GInterval → Int → Option Int) (h_cmp : ∀ y1 y2 q, x_cmp y1 y2 = some q → CallVP Tryz.prog v_cmp [.agg [.int .i64 y1.Low, .int .i64 y1.High], .int .i64 y2] (.int .i64 q)) (r : (Int × Bool)) (h : slices_BinarySearchFunc_LInterval_Interval_int N x_x x_target x_cmp = some r) : CallP Tryz.prog 146 [.sl (Ar.lst Encs.eGInterval x_x) .ro, .int .i64 x_target, v_cmp] (.tup [.int .i64 r.1, .bool r.2]) := by
 unfold slices_BinarySearchFunc_LInterval_Interval_int at h
 refine callP_of_spec cf146 okP Tryz.func146 (by rfl) (by kernel_rfl) Tryz.call146 Tryz.ntmps146 (by rfl) (by rfl) ?_;intro E H0 K hE hK
 have hO : Own Eq H0 [] H0 := .start stable_eq rfl
 cbv;refine n_ln hE ?_;cbv;obtain ⟨s2, hx, h⟩ := bind_some h;refine n_loopN cf146 hE okP (fun s1 => [(0, .v (.sl (Ar.lst Encs.eGInterval x_x) .ro)), (1, .v (.int .i64 x_target)), (2, .v (v_cmp)), (8, .v (.int .i64 (Ar.len x_x))), (9, .v (.int .i64 s1.1)), (10, .v (.int .i64 s1.2))]) (fun s1 H1 => Own Eq H0 [] H1) (fun x e l H1 => e = .exit 0 ∧ l = [(0, .v (.sl (Ar.lst Encs.eGInterval x_x) .ro)), (1, .v (.int .i64 x_target)), (2, .v (v_cmp)), (8, .v (.int .i64 (Ar.len x_x))), (9, .v (.int .i64 x))] ∧ Own Eq H0 [] H1) (by kernel_rfl) ?_ hx ?_ hO ?_
 ·intro s1 H o hO h;clear hx;cbv;refine n_br hE h (fun hc h => ?_) (fun hc h => ?_)
  ·cbv;refine n_needT hE (cmp_true hE rfl) ?_;cbv;refine n_idx hE Encs.eGInterval_eq h fun x3 h => ?_;cbv;refine n_callF hE (g := fun r4 => .int .i64 r4) h (fun r4 hx => h_cmp x3 x_target r4 hx) (.refl _) fun r4 h => ?_;cbv;refine n_br hE h (fun hc h => ?_) (fun hc h => ?_)
   ·cbv;have h := ret_some h;subst h;exact ⟨_, rfl, .e rfl (.e rfl (.e rfl (.e rfl (.e rfl (.e rfl (.z)))))), rfl, hO⟩
   ·cbv;have h := ret_some h;subst h;exact ⟨_, rfl, .e rfl (.e rfl (.e rfl (.e rfl (.e rfl (.e rfl (.z)))))), rfl, hO⟩
  ·cbv;have h := ret_some h;subst h;exact ⟨_, _, rfl, ⟨rfl, rfl, hO⟩, .e rfl (.e rfl (.e rfl (.e rfl (.e rfl (.z))))), rfl⟩
 ·exact .e rfl (.e rfl (.e rfl (.e rfl (.e rfl (.e rfl (.z))))))
 ·clear hx;rintro e l H ⟨rfl, rfl, hO⟩;cbv;refine n_br hE h (fun hc h => ?_) (fun hc h => ?_)
  ·cbv;refine n_idx hE Encs.eGInterval_eq h fun x5 h => ?_;cbv;refine n_callF hE (g := fun r6 => .int .i64 r6) h (fun r6 hx => h_cmp x5 x_target r6 hx) (.refl _) fun r6 h => ?_;cbv;have h := ret_some h;subst h;exact hK _ _ _ hO (.refl _)
  ·cbv;have h := ret_some h;subst h;exact hK _ _ _ hO (.refl _)
def cf147 : Cf := ⟨[], [], [], [], [], []⟩
theorem c147 (N : Nat) (x_x : GInterval) (x_n : Int) (r : Int) (h : interval_has_1 N x_x x_n = some r) : CallP Tryz.prog 147 [.agg [.int .i64 x_x.Low, .int .i64 x_x.High], .int .i64 x_n] (.int .i64 r) := by
 unfold interval_has_1 at h
 refine callP_of_spec cf147 okP Tryz.func147 (by rfl) (by kernel_rfl) Tryz.call147 Tryz.ntmps147 (by rfl) (by rfl) ?_;intro E H0 K hE hK
 have hO : Own Eq H0 [] H0 := .start stable_eq rfl
 cbv;refine n_br hE h (fun hc h => ?_) (fun hc h => ?_)
 ·cbv;have h := ret_some h;subst h;exact hK _ _ _ hO (.refl _)
 ·cbv;refine n_br hE h (fun hc h => ?_) (fun hc h => ?_)
  ·cbv;have h := ret_some h;subst h;exact hK _ _ _ hO (.refl _)
  ·cbv;have h := ret_some h;subst h;exact hK _ _ _ hO (.refl _)
def cf113 : Cf := ⟨[], [], [], [], [], []⟩
theorem c113 (N : Nat) (x_l : List GInterval) (x_n : Int) (r : Bool) (h : interval_has N x_l x_n = some r) : CallP Tryz.prog 113 [.sl (Ar.lst Encs.eGInterval x_l) .ro, .int .i64 x_n] (.bool r) := by
 unfold interval_has at h
 refine callP_of_spec cf113 okP Tryz.func113 (by rfl) (by kernel_rfl) Tryz.call113 Tryz.ntmps113 (by rfl) (by rfl) ?_;intro E H0 K hE hK
 have hO : Own Eq H0 [] H0 := .start stable_eq rfl
 cbv;refine n_call hE (g := fun r1 => .tup [.int .i64 r1.1, .bool r1.2]) h (fun r1 hx => c146 N x_l x_n (.func (.func 147) [] []) (fun y1 y2 => interval_has_1 N y1 y2) (fun y1 y2 r hx => CallP.value (F := []) (C := []) (c147 N y1 y2 r hx)) r1 hx) (.refl _) fun r1 h => ?_;cbv;have h := ret_some h;subst h;exact hK _ _ _ hO (.refl _)
def cf77 : Cf := ⟨[], [], [], [], [], []⟩
theorem c77 (N : Nat) (x_l : List GInterval) (x_n : Int) (r : (Bool × Int)) (h : interval_Contains N x_l x_n = some r) : CallP Tryz.prog 77 [.sl (Ar.lst Encs.eGInterval x_l) .ro, .int .i64 x_n] (.tup [.bool r.1, .int .i64 r.2]) := by
 unfold interval_Contains at h
 refine callP_of_spec cf77 okP Tryz.func77 (by rfl) (by kernel_rfl) Tryz.call77 Tryz.ntmps77 (by rfl) (by rfl) ?_;intro E H0 K hE hK
 have hO : Own Eq H0 [] H0 := .start stable_eq rfl
 cbv;refine n_call hE (g := fun r1 => .int .i64 r1) h (fun r1 hx => c82 N x_l r1 hx) (.refl _) fun r1 h => ?_;cbv;refine n_br hE h (fun hc h => ?_) (fun hc h => ?_)
 ·cbv;have h := ret_some h;subst h;exact hK _ _ _ hO (.refl _)
 ·cbv;refine n_call hE (g := fun r2 => .bool r2) h (fun r2 hx => c113 N x_l x_n r2 hx) (.refl _) fun r2 h => ?_;cbv;have h := ret_some h;subst h;exact hK _ _ _ hO (.refl _)
def cf58 : Cf := ⟨[9], [], [], [], [], []⟩
theorem c58 (N : Nat) (x_l : List GPredicate) (x_index : Int) (x_n : Int) (r : ByteArray) (h : predicate_signature N x_l x_index x_n = some r) : CallP Tryz.prog 58 [.sl (Ar.lst Encs.eGPredicate x_l) .ro, .int .i64 x_index, .int .i64 x_n] (.str r) := by
 unfold predicate_signature at h
 refine callP_of_spec cf58 okP Tryz.func58 (by rfl) (by kernel_rfl) Tryz.call58 Tryz.ntmps58 (by rfl) (by rfl) ?_;intro E H0 K hE hK
 have hO : Own Eq H0 [] H0 := .start stable_eq rfl
 cbv;refine n_ln hE ?_;cbv;refine n_omk hE (f := (V.int .u8)) (by decide) (z0 := (0 : Int)) ((.refl _)) hO h fun l2 q1 H hq1 h hO => ?_;cbv;refine n_ln hE ?_;cbv;obtain ⟨s5, hx, h⟩ := bind_some h;refine n_loopG cf58 hE okP (γ := OG) (fun s3 g => [(1, .v (.int .i64 x_index)), (2, .v (.int .i64 x_n)), (7, .v (.own g.id g.lo g.n)), (15, .v (.sl (Ar.lst Encs.eGPredicate x_l) .ro)), (16, .v (.int .i64 (Ar.len x_l))), (17, .v (.int .i64 s3.1))]) (fun s3 g H1 => Okn g (Ar.len s3.2) ∧ Own Eq H0 [.blk g.id (.arr 1 (g.pre ++ Ar.lst (V.int .u8) s3.2 ++ g.rest))] H1) (fun x e l H1 => ∃ u1 : OG, Okn u1 (Ar.len x) ∧ e = .exit 0 ∧ l = [(7, .v (.own u1.id u1.lo u1.n))] ∧ Own Eq H0 [.blk u1.id (.arr 1 (u1.pre ++ Ar.lst (V.int .u8) x ++ u1.rest))] H1) (by kernel_rfl) ?_ q1 hx ?_ ?_ ?_
 ·rintro s3 q4 H o ⟨hq4, hO⟩ h;clear hx;cbv;refine n_br hE h (fun hc h => ?_) (fun hc h => ?_)
  ·cbv;refine n_idx hE Encs.eGPredicate_eq h fun x6 h => ?_;cbv;refine n_alloc hE hO fun b7 H hO => ?_;cbv;refine n_store hE hO 0 rfl rfl fun H hO => ?_;cbv;refine n_load hE hO 0 rfl ?_;cbv;refine n_idx hE Encs.eLGInterval_eq h fun x8 h => ?_;cbv;refine n_call hE (g := fun r9 => .tup [.bool r9.1, .int .i64 r9.2]) h (fun r9 hx => c77 N x8 x_n r9 hx) (.refl _) fun r9 h => ?_;cbv;refine n_br hE h (fun hc h => ?_) (fun hc h => ?_)
   ·cbv;refine n_oidx hE hO hq4 1 rfl h fun h => ?_;cbv;refine n_ostore hE (f := (V.int .u8)) (esz := 1) (tz := 1) (off := 0) (u := (fun x10 : Int => 1)) (fun _ => ⟨.int .u8 1, .refl _, rfl, rfl, rfl⟩) (by decide) hO hq4 1 rfl h fun l11 H hq4 h hO => ?_;cbv;have h := ret_some h;subst h;exact ⟨_, q4, rfl, .e rfl (.e rfl (.e rfl (.e rfl (.e rfl (.e rfl (.z)))))), rfl, hq4, hO.tail⟩
   ·cbv;have h := ret_some h;subst h;exact ⟨_, q4, rfl, .e rfl (.e rfl (.e rfl (.e rfl (.e rfl (.e rfl (.z)))))), rfl, hq4, hO.tail⟩
  ·cbv;have h := ret_some h;subst h;exact ⟨_, _, rfl, ⟨q4, hq4, rfl, rfl, hO⟩, .e rfl (.z), rfl⟩
 ·exact .e rfl (.e rfl (.e rfl (.e rfl (.e rfl (.e rfl (.z))))))
 ·exact ⟨hq1, hO⟩
 ·clear hx;rintro e l H ⟨q12, hq12, rfl, rfl, hO⟩;cbv;refine n_ostr (e := 5) hE (by kernel_rfl) (by kernel_rfl) (by kernel_rfl) hO hq12 0 rfl h fun r13 h => ?_;cbv;have h := ret_some h;subst h;exact hK _ _ _ hO (.refl _)
abbrev RwI := Rw GInterval
def rwP (w : RwI) : GPredicate := ⟨w.row.map (·.1)⟩
abbrev fI : GInterval → V := Encs.eGInterval
theorem okn_set {α : Type} {q : OG} {l : List α} {i : Nat} {x : α} (h : Okn q (Ar.len l)) : Okn q (Ar.len (l.set i x)) := by rw [Ar.len_eq, List.length_set, ← Ar.len_eq]; exact h
theorem mkL_other {α β : Type} {n m : Int} {z : α} {z' : β} {l : List α} (h : mkL n m z = some l) : mkL n m z' = some (List.replicate n.toNat z') := by
 unfold mkL at h ⊢
 split at h
 ·rename_i hc; rw [if_pos hc]
 ·cases h
def tabB (q : OG) (F : List RwI) : En := .blk q.id (.arr 1 (q.pre ++ Ar.lst rwV F ++ q.rest))
theorem idx_rwP {F : List RwI} {c : Int} {p : GPredicate} (h : idxL (F.map rwP) c = some p) : (0 ≤ c ∧ c < (F.length : Nat)) ∧ ∃ w, F[c.toNat]? = some w ∧ p = rwP w := by
 obtain ⟨h1, h2⟩ := idxL_ok h
 rw [List.getElem?_map] at h2
 cases hw : F[c.toNat]? with
 | none => rw [hw] at h2; cases h2
 | some w => rw [hw] at h2; cases h2; exact ⟨by simpa using h1, w, rfl, rfl⟩
theorem getC_rwP {F : List RwI} {c i : Int} {x : List GInterval} (h : getC (F.map rwP) c i = some x) : (0 ≤ c ∧ c < (F.length : Nat)) ∧ ∃ w, F[c.toNat]? = some w ∧ (0 ≤ i ∧ i < (w.row.length : Nat)) ∧ ∃ t, w.row[i.toNat]? = some (x, t) := by
 obtain ⟨p, h1, h2⟩ := bind_some h;obtain ⟨h3, w, h4, rfl⟩ := idx_rwP h1;obtain ⟨h5, h6⟩ := idxL_ok h2
 simp only [rwP, List.length_map] at h5
 refine ⟨h3, w, h4, h5, ?_⟩
 simp only [rwP, List.getElem?_map] at h6
 cases hw : w.row[i.toNat]? with
 | none => rw [hw] at h6; cases h6
 | some y => rw [hw] at h6; cases h6; exact ⟨y.2, rfl⟩
theorem setC_rwP {F : List RwI} {c i : Int} {x : List GInterval} {l : List GPredicate} {w : RwI} (hw : F[c.toNat]? = some w) (h : setC (F.map rwP) c i x = some l) (t : Tail) : l = (F.set c.toNat ⟨w.q, w.row.set i.toNat (x, t)⟩).map rwP := by
 obtain ⟨p, h1, h2⟩ := bind_some h;obtain ⟨h3, w', h4, rfl⟩ := idx_rwP h1
 rw [hw] at h4; cases h4
 split at h2
 ·cases h2
  rw [List.map_set];simp only [rwP, List.map_set]
 ·cases h2
theorem tabB_set {q : OG} {F : List RwI} {c i : Nat} {w : RwI} {x' : List GInterval × Tail} (hc : F[c]? = some w) : tabB q (F.set c ⟨w.q, w.row.set i x'⟩) = tabB q F := by
 unfold tabB; rw [lst_rwV_set hc]
def cf59 : Cf := ⟨[6000008], [(14, 12)], [], [], [(69, 8)], []⟩
theorem c59 (N : Nat) (q : OG) (F : List RwI) (r : ((List GPredicate) × Int)) (h : predicate_tidy N (F.map rwP) = some r) {H0 H : Heap} {L : List En} (hO : Own Eq H0 (tabB q F :: (fo fI F ++ L)) H) (hq : Okn q (Ar.len F)) (hF : ∀ w ∈ F, RwOk w) :
 CallA Tryz.prog 59 [.own q.id q.lo q.n] H fun v H' => (∃ F' : List RwI, r = (F'.map rwP, 0) ∧ v = .tup [.own q.id q.lo q.n, .int .i64 0] ∧ Okn q (Ar.len F') ∧ (∀ w ∈ F', RwOk w) ∧ Own Eq H0 (tabB q F' :: (fo fI F' ++ L)) H') ∨ (r = ([], 5) ∧ v = .tup [.sl [] .nil, .int .i64 5] ∧ ∃ L', Own Eq H0 L' H') := by
 unfold predicate_tidy at h
 refine callA_of_run (T := TT) cf59 okP.1 okP.2 Tryz.func59 rfl (by kernel_rfl) Tryz.call59 Tryz.ntmps59 rfl rfl ?_;intro E hE
 have hlen : Ar.len (F.map rwP) = Ar.len F := by rw [Ar.len_eq, Ar.len_eq, List.length_map]
 rw [hlen] at h
 cbv;refine n_olen hE hq ?_;cbv;refine n_br hE h (fun hc h => ?_) (fun hc h => ?_)
 ·cbv;have h := ret_some h;subst h;exact .inr ⟨rfl, rfl, _, hO⟩
 ·cbv;refine n_olen hE hq ?_;cbv;obtain ⟨s2, hx, h⟩ := bind_some h
  refine n_loopG cf59 hE okP (γ := List RwI) (fun s1 g => [(0, .v (.own q.id q.lo q.n)), (15, .v (.own q.id q.lo q.n)), (16, .v (.int .i64 (Ar.len F))), (17, .v (.int .i64 s1.2))])
   (fun s1 g H1 => g.map rwP = s1.1 ∧ Okn q (Ar.len g) ∧ (∀ w ∈ g, RwOk w) ∧ Own Eq H0 (tabB q g :: (fo fI g ++ L)) H1)
   (fun x e l H1 => match (generalizing := false) x with | .inl y => ∃ g : List RwI, g.map rwP = y ∧ Okn q (Ar.len g) ∧ (∀ w ∈ g, RwOk w) ∧ e = .exit 0 ∧ l = [(0, .v (.own q.id q.lo q.n))] ∧ Own Eq H0 (tabB q g :: (fo fI g ++ L)) H1 | .inr y => e = .ret ∧ l = [(2, .v (.sl [] .nil)), (3, .v (.int .i64 5))] ∧ ∃ L', Own Eq H0 L' H1) (by kernel_rfl) ?_ F hx ?_ ?_ ?_
  ·rintro ⟨s1, c⟩ G H o ⟨hg, hq, hF, hO⟩ h;clear hx;subst hg;cbv;refine n_br hE h (fun hc h => ?_) (fun hc h => ?_)
   ·obtain ⟨x3, hi3, h⟩ := bind_some h;obtain ⟨hc0, w, hw, rfl⟩ := idx_rwP hi3
    have hwq : Okn w.q (Ar.len w.row) := hF w (List.mem_of_getElem? hw)
    have hsets : Ar.len (rwP w).Sets = Ar.len w.row := by rw [Ar.len_eq, Ar.len_eq]; simp [rwP]
    rw [hsets] at h
    cbv;refine f_oidx hE (f := rwV) hO hq 0 rfl hc0 ?_;cbv;refine f_oload hE (f := rwV) (fun _ => rfl) hO hq 0 rfl hc0.1 hw ?_;cbv;refine n_olen hE hwq ?_;cbv;obtain ⟨s5, hx, h⟩ := bind_some h
    refine n_loopG cf59 hE okP (γ := List RwI) (fun s4 g => [(0, .v (.own q.id q.lo q.n)), (5, .v (.eref [.own w.q.id w.q.lo w.q.n] 0)), (15, .v (.own q.id q.lo q.n)), (16, .v (.int .i64 (Ar.len F))), (17, .v (.int .i64 c)), (22, .v (.own w.q.id w.q.lo w.q.n)), (23, .v (.int .i64 (Ar.len w.row))), (24, .v (.int .i64 s4.2))])
     (fun s4 g H1 => (g.map rwP = s4.1 ∧ ∃ v, g[c.toNat]? = some v ∧ v.q = w.q) ∧ Okn q (Ar.len g) ∧ (∀ w ∈ g, RwOk w) ∧ Own Eq H0 (tabB q g :: (fo fI g ++ L)) H1)
     (fun x e l H1 => match (generalizing := false) x with | .inl y => ∃ g : List RwI, g.map rwP = y ∧ Okn q (Ar.len g) ∧ (∀ w ∈ g, RwOk w) ∧ e = .exit 2 ∧ l = [(0, .v (.own q.id q.lo q.n)), (15, .v (.own q.id q.lo q.n)), (16, .v (.int .i64 (Ar.len F))), (17, .v (.int .i64 c))] ∧ Own Eq H0 (tabB q g :: (fo fI g ++ L)) H1 | .inr y => e = .ret ∧ l = [(2, .v (.sl [] .nil)), (3, .v (.int .i64 5))] ∧ ∃ L', Own Eq H0 L' H1) (by kernel_rfl) ?_ G hx ?_ ?_ ?_
    ·rintro ⟨s4, i⟩ g H o ⟨⟨hg, v, hv, hvw⟩, hq, hF, hO⟩ h;clear hx;subst hg;cbv;refine n_br hE h (fun hc h => ?_) (fun hc h => ?_)
     ·obtain ⟨x6, hi6, h⟩ := bind_some h;obtain ⟨_, v', hv', hi0, t0, hi1⟩ := getC_rwP hi6
      rw [hv] at hv'; cases hv'
      obtain ⟨R, hO1, hback⟩ := hO.cell hv hi1
      have hvq : Okn w.q (Ar.len v.row) := by rw [← hvw]; exact hF v (List.mem_of_getElem? hv)
      have hrow : rwB fI v = .blk w.q.id (.arr 1 (w.q.pre ++ Ar.lst (cellV fI) v.row ++ w.q.rest)) := by rw [← hvw]; rfl
      rw [hrow] at hO1
      cbv;refine f_oidx hE (f := cellV fI) hO1 hvq 1 rfl hi0 ?_;cbv;refine f_oload hE (f := cellV fI) (fun _ => rfl) hO1 hvq 1 rfl hi0.1 hi1 ?_;cbv;refine n_onil hE (f := fI) hO1 fun q7 H hq7 hO => ?_;cbv;refine n_ln hE ?_;cbv;obtain ⟨s10, hx, h⟩ := bind_some h
      generalize hM : (En.tl t0 :: En.blk w.q.id (.arr 1 (w.q.pre ++ Ar.lst (cellV fI) v.row ++ w.q.rest)) :: tabB q g :: R : List En) = M1 at *
      refine n_loopG cf59 hE okP (γ := OG) (fun s8 g => [(0, .v (.own q.id q.lo q.n)), (5, .v (.eref [.own w.q.id w.q.lo w.q.n] 0)), (6, .v (.int .i64 i)), (8, .v (.own g.id g.lo g.n)), (15, .v (.own q.id q.lo q.n)), (16, .v (.int .i64 (Ar.len F))), (17, .v (.int .i64 c)), (22, .v (.own w.q.id w.q.lo w.q.n)), (23, .v (.int .i64 (Ar.len w.row))), (24, .v (.int .i64 i)), (29, .v (.sl (Ar.lst fI x6) .ro)), (30, .v (.int .i64 (Ar.len x6))), (31, .v (.int .i64 s8.1))])
       (fun s8 g H1 => Okn g (Ar.len s8.2) ∧ Own Eq H0 (.blk g.id (.arr 2 (g.pre ++ Ar.lst fI s8.2 ++ g.rest)) :: M1) H1)
       (fun x e l H1 => ∃ u1 : OG, Okn u1 (Ar.len x) ∧ e = .exit 4 ∧ l = [(0, .v (.own q.id q.lo q.n)), (5, .v (.eref [.own w.q.id w.q.lo w.q.n] 0)), (6, .v (.int .i64 i)), (8, .v (.own u1.id u1.lo u1.n)), (15, .v (.own q.id q.lo q.n)), (16, .v (.int .i64 (Ar.len F))), (17, .v (.int .i64 c)), (22, .v (.own w.q.id w.q.lo w.q.n)), (23, .v (.int .i64 (Ar.len w.row))), (24, .v (.int .i64 i))] ∧ Own Eq H0 (.blk u1.id (.arr 2 (u1.pre ++ Ar.lst fI x ++ u1.rest)) :: M1) H1) (by kernel_rfl) ?_ q7 hx ?_ ?_ ?_
      ·rintro s8 q9 H o ⟨hq9, hO⟩ h;clear hx;cbv;refine n_br hE h (fun hc h => ?_) (fun hc h => ?_)
       ·cbv;refine n_idx hE Encs.eGInterval_eq h fun x11 h => ?_;cbv;refine n_olen hE hq9 ?_;cbv;refine n_br hE h (fun hc h => ?_) (fun hc h => ?_)
        ·cbv;refine n_oidx hE hO hq9 0 rfl h fun h => ?_;cbv;refine n_oload hE Encs.eGInterval_eq hO hq9 0 rfl h fun x12 h => ?_;cbv;refine n_br hE h (fun hc h => ?_) (fun hc h => ?_)
         ·cbv;refine n_oidx hE hO hq9 0 rfl h fun h => ?_;cbv;refine n_ostore hE (f := Encs.eGInterval) (esz := 2) (tz := 1) (off := 1) (u := (fun x13 : GInterval => { x13 with High := x11.High })) (fun x13 => ⟨.int .i64 x11.High, .refl _, rfl, rfl, (by rw [Encs.eGInterval_eq, Encs.eGInterval_eq]; rfl)⟩) (by decide) hO hq9 0 rfl h fun l14 H hq9 h hO => ?_;cbv;have h := ret_some h;subst h;exact ⟨_, q9, rfl, .e rfl (.e rfl (.e rfl (.e rfl (.e rfl (.e rfl (.e rfl (.e rfl (.e rfl (.e rfl (.e rfl (.e rfl (.e rfl (.z))))))))))))), rfl, hq9, hO⟩
         ·cbv;refine n_oapp (f := Encs.eGInterval) hE sz_GInterval (by decide) hO hq9 0 rfl (m := [x11]) (src_sl (f := Encs.eGInterval) hE sz_GInterval (.lstc (.eq (Encs.eGInterval_eq x11) (.refl _)) (.lst0))) h fun l16 q15 H hq15 hO h => ?_;cbv;have h := ret_some h;subst h;exact ⟨_, q15, rfl, .e rfl (.e rfl (.e rfl (.e rfl (.e rfl (.e rfl (.e rfl (.e rfl (.e rfl (.e rfl (.e rfl (.e rfl (.e rfl (.z))))))))))))), rfl, hq15, hO⟩
        ·cbv;refine n_oapp (f := Encs.eGInterval) hE sz_GInterval (by decide) hO hq9 0 rfl (m := [x11]) (src_sl (f := Encs.eGInterval) hE sz_GInterval (.lstc (.eq (Encs.eGInterval_eq x11) (.refl _)) (.lst0))) h fun l18 q17 H hq17 hO h => ?_;cbv;have h := ret_some h;subst h;exact ⟨_, q17, rfl, .e rfl (.e rfl (.e rfl (.e rfl (.e rfl (.e rfl (.e rfl (.e rfl (.e rfl (.e rfl (.e rfl (.e rfl (.e rfl (.z))))))))))))), rfl, hq17, hO⟩
       ·cbv;have h := ret_some h;subst h;exact ⟨_, _, rfl, ⟨q9, hq9, rfl, rfl, hO⟩, .e rfl (.e rfl (.e rfl (.e rfl (.e rfl (.e rfl (.e rfl (.e rfl (.e rfl (.e rfl (.z)))))))))), rfl⟩
      ·exact .e rfl (.e rfl (.e rfl (.e rfl (.e rfl (.e rfl (.e rfl (.e rfl (.e rfl (.e rfl (.v (.ro _ _) (.e rfl (.e rfl (.z)))))))))))))
      ·exact ⟨hq7, hO⟩
      ·clear hx;rintro e l H ⟨q19, hq19, rfl, rfl, hO⟩;cbv;refine n_olen hE hq19 ?_;cbv;refine n_br hE h (fun hc h => ?_) (fun hc h => ?_)
       ·cbv;have h := ret_some h;subst h;exact ⟨_, _, rfl, ⟨rfl, rfl, _, hO⟩, .e rfl (.e rfl (.z)), rfl⟩
       ·subst hM;obtain ⟨l20, hs, h⟩ := bind_some h
        have hl := setC_rwP hv hs .ro
        cbv;refine n_ofrz hE (f := fI) hO hq19 0 rfl fun H hO => ?_;cbv;refine f_oidx hE (f := cellV fI) hO hvq 1 rfl hi0 ?_;cbv;refine f_ostore hE (f := cellV fI) (tz := 1) (x' := (s10, .ro)) (fun x => ⟨.sl (Ar.lst fI s10) .ro, .refl _, rfl, rfl, rfl⟩) (by decide) hO hvq 1 rfl hi0 fun H hO => ?_;cbv;have h := ret_some h;subst h
        have hO2 := hback (s10, .ro) H (by
         have := hO.tail.tl0 (t := .ro) rfl
         rw [show rwB fI ⟨v.q, v.row.set i.toNat (s10, .ro)⟩ = .blk w.q.id (.arr 1 (w.q.pre ++ Ar.lst (cellV fI) (v.row.set i.toNat (s10, .ro)) ++ w.q.rest)) by rw [← hvw]; rfl]
         exact this)
        rw [← tabB_set (q := q) (i := i.toNat) (x' := (s10, .ro)) hv] at hO2
        exact ⟨_, _, rfl, .e rfl (.e rfl (.e rfl (.e rfl (.e rfl (.e rfl (.e rfl (.e rfl (.z)))))))), rfl, ⟨hl.symm, ⟨_, List.getElem?_set_self (List.getElem?_eq_some_iff.1 hv).1, hvw⟩⟩, okn_set hq, ok_set hF hv, hO2⟩
     ·cbv;have h := ret_some h;subst h;exact ⟨_, _, rfl, ⟨g, rfl, hq, hF, rfl, rfl, hO⟩, .e rfl (.e rfl (.e rfl (.e rfl (.z)))), rfl⟩
    ·exact .e rfl (.e rfl (.e rfl (.e rfl (.e rfl (.e rfl (.e rfl (.e rfl (.z))))))))
    ·exact ⟨⟨rfl, w, hw, rfl⟩, hq, hF, hO⟩
    ·clear hx
     rcases s5 with y20 | y21
     ·rintro e l H ⟨g, hg, hq, hF, rfl, rfl, hO⟩;cbv;have h := ret_some h;subst h;exact ⟨_, g, rfl, .e rfl (.e rfl (.e rfl (.e rfl (.z)))), rfl, hg, hq, hF, hO⟩
     ·rintro e l H ⟨rfl, rfl, hO⟩;cbv;have h := ret_some h;subst h;exact ⟨_, _, rfl, ⟨rfl, rfl, hO⟩, .e rfl (.e rfl (.z)), rfl⟩
   ·cbv;have h := ret_some h;subst h;exact ⟨_, _, rfl, ⟨G, rfl, hq, hF, rfl, rfl, hO⟩, .e rfl (.z), rfl⟩
  ·exact .e rfl (.e rfl (.e rfl (.e rfl (.z))))
  ·exact ⟨rfl, hq, hF, hO⟩
  ·clear hx
   rcases s2 with y22 | y23
   ·rintro e l H ⟨g, hg, hq, hF, rfl, rfl, hO⟩;cbv;have h := ret_some h;subst h;exact .inl ⟨g, by rw [hg], rfl, hq, hF, hO⟩
   ·rintro e l H ⟨rfl, rfl, hO⟩;cbv;have h := ret_some h;subst h;exact .inr ⟨rfl, rfl, hO⟩
theorem frz_le (F : List RwI) : LeV (.sl (F.map (frzV fI)) .ro) (.sl (Ar.lst Encs.eGPredicate (F.map rwP)) .ro) := by
 have h1 : ∀ row : List (List GInterval × Tail), LeVs (row.map (cellV fI)) ((row.map (·.1)).map Encs.eLGInterval) := by
  intro row
  induction row with
  | nil => exact .nil
  | cons c row ih => exact .cons (by rw [Encs.eLGInterval_eq]; exact .ro _ _) ih
 have h2 : ∀ F : List RwI, LeVs (F.map (frzV fI)) ((F.map rwP).map Encs.eGPredicate) := by
  intro F
  induction F with
  | nil => exact .nil
  | cons w F ih =>
   refine .cons ?_ ih;rw [Encs.eGPredicate_eq];refine .agg (.cons ?_ .nil);rw [Ar.lst_eq, Ar.lst_eq];exact .sl _ (h1 w.row)
 rw [Ar.lst_eq];exact .sl _ (h2 F)
theorem put_facts {F : List RwI} {c i k : Int} {cuts : List Int} {r : List GPredicate} (h : predicate_put (F.map rwP) c i cuts k = some r) :
 ∃ w x t a b y, (0 ≤ c ∧ c < (F.length : Nat)) ∧ F[c.toNat]? = some w ∧ (0 ≤ i ∧ i < (w.row.length : Nat)) ∧ w.row[i.toNat]? = some (x, t) ∧ idxL cuts k = some a ∧ idxL cuts (Ar.ar .add .i64 k 1) = some b ∧ appL x ([⟨a, Ar.ar .sub .i64 b 1⟩] : List GInterval) = some y ∧
  ∀ t', r = (F.set c.toNat ⟨w.q, w.row.set i.toNat (y, t')⟩).map rwP := by
 unfold predicate_put at h
 obtain ⟨x, h1, h⟩ := bind_some h;obtain ⟨a, h2, h⟩ := bind_some h;obtain ⟨b, h3, h⟩ := bind_some h;obtain ⟨y, h4, h⟩ := bind_some h;obtain ⟨e1, w, e2, e3, t, e4⟩ := getC_rwP h1;exact ⟨w, x, t, a, b, y, e1, e2, e3, e4, h2, h3, h4, setC_rwP e2 h⟩
def cf15 : Cf := ⟨[6000009, 3000108, 8000108, 9000108], [(27, 27)], [], [], [], []⟩
theorem c15 (N : Nat) (x_types : Int) (x_l : List GPredicate) (r : ((List GPredicate) × Int)) (h : predicate_Minterms N x_types x_l = some r) : CallP Tryz.prog 15 [.int .i64 x_types, .sl (Ar.lst Encs.eGPredicate x_l) .ro] (.tup [.sl (Ar.lst Encs.eGPredicate r.1) .ro, .int .i64 r.2]) := by
 unfold predicate_Minterms at h
 intro H0
 refine CallA.le (CallA.ghost (callA_of_run (T := TT) (K := fun x H' => (∃ y H2, LeV x y ∧ HLe H2 H' ∧ y = V.tup [.sl (Ar.lst Encs.eGPredicate r.1) .ro, .int .i64 r.2] ∧ H2 = H0) ∨ ∃ (q : OG) (F : List RwI) (L : List En), x = .tup [.own q.id q.lo q.n, .int .i64 0] ∧ Okn q (Ar.len F) ∧ (∀ w ∈ F, RwOk w) ∧ Own Eq H0 (tabB q F :: (fo fI F ++ L)) H' ∧ r = (F.map rwP, 0))
  cf15 okP.1 okP.2 Tryz.func15 rfl (by kernel_rfl) Tryz.call15 Tryz.ntmps15 rfl rfl ?_) ?_)
 rotate_left
 ·rintro x H' (h | ⟨q, F, L, rfl, hq, hF, hO, rfl⟩)
  ·exact ⟨x, H', Gst.refl _ _, h⟩
  ·obtain ⟨H2, g1, g2⟩ := hO.table hq hF;exact ⟨_, H2, g1.tup2, _, H0, .tup (.cons (frz_le F) (.refl _)), g2, rfl, rfl⟩
 intro E hE
 have hO : Own Eq H0 [] H0 := .start stable_eq rfl
 have hK : ∀ (x : V) (L : List En) (H' : Heap), Own Eq H0 L H' → LeV x (V.tup [.sl (Ar.lst Encs.eGPredicate r.1) .ro, .int .i64 r.2]) → (∃ y H2, LeV x y ∧ HLe H2 H' ∧ y = V.tup [.sl (Ar.lst Encs.eGPredicate r.1) .ro, .int .i64 r.2] ∧ H2 = H0) ∨ ∃ (q : OG) (F : List RwI) (L : List En), x = .tup [.own q.id q.lo q.n, .int .i64 0] ∧ Okn q (Ar.len F) ∧ (∀ w ∈ F, RwOk w) ∧ Own Eq H0 (tabB q F :: (fo fI F ++ L)) H' ∧ r = (F.map rwP, 0) :=
  fun x L H' hO hx => .inl ⟨_, H0, hx, hO.ext, rfl, rfl⟩
 cbv;refine n_br hE h (fun hc h => ?_) (fun hc h => ?_)
 ·cbv;have h := ret_some h;subst h;exact hK _ _ _ hO (.tup (.cons (.lit _ (lst_nil)) (.refl _)))
 ·cbv;refine n_ln hE ?_;cbv;refine n_br hE h (fun hc h => ?_) (fun hc h => ?_)
  ·cbv;have h := ret_some h;subst h;exact hK _ _ _ hO (.tup (.cons (.lit _ (lst_nil)) (.refl _)))
  ·cbv;refine n_ln hE ?_;cbv;obtain ⟨s2, hx, h⟩ := bind_some h;refine n_loopN cf15 hE okP (fun s1 => [(0, .v (.int .i64 x_types)), (1, .v (.sl (Ar.lst Encs.eGPredicate x_l) .ro)), (28, .v (.sl (Ar.lst Encs.eGPredicate x_l) .ro)), (29, .v (.int .i64 (Ar.len x_l))), (30, .v (.int .i64 s1))]) (fun s1 H1 => Own Eq H0 [] H1) (fun x e l H1 => match (generalizing := false) x with | .inl y => e = .exit 1 ∧ l = [(0, .v (.int .i64 x_types)), (1, .v (.sl (Ar.lst Encs.eGPredicate x_l) .ro))] ∧ Own Eq H0 [] H1 | .inr y => e = .ret ∧ l = [(4, .v (.sl [] .nil)), (5, .v (.int .i64 y))] ∧ Own Eq H0 [] H1) (by kernel_rfl) ?_ hx ?_ hO ?_
   ·intro s1 H o hO h;clear hx;cbv;refine n_br hE h (fun hc h => ?_) (fun hc h => ?_)
    ·cbv;refine n_idx hE Encs.eGPredicate_eq h fun x3 h => ?_;cbv;refine n_call hE (g := fun r4 => .int .i64 r4) h (fun r4 hx => c33 N x_types x3 r4 hx) (.refl _) fun r4 h => ?_;cbv;refine n_br hE h (fun hc h => ?_) (fun hc h => ?_)
     ·cbv;have h := ret_some h;subst h;exact ⟨_, _, rfl, ⟨rfl, rfl, hO⟩, .e rfl (.e rfl (.z)), rfl⟩
     ·cbv;have h := ret_some h;subst h;exact ⟨_, rfl, .e rfl (.e rfl (.e rfl (.e rfl (.e rfl (.z))))), rfl, hO⟩
    ·cbv;have h := ret_some h;subst h;exact ⟨_, _, rfl, ⟨rfl, rfl, hO⟩, .e rfl (.e rfl (.z)), rfl⟩
   ·exact .e rfl (.e rfl (.e rfl (.e rfl (.e rfl (.z)))))
   ·clear hx
    rcases s2 with y5 | y28
    ·rintro e l H ⟨rfl, rfl, hO⟩;cbv;refine n_onil hE (f := (rwV : RwI → V)) hO fun q0 H hq0 hO => ?_;cbv;refine n_mmk hE .string V.str (V.int .i64) hO fun m6 o7 H ho7 hO => ?_;cbv;obtain ⟨s11, hx, h⟩ := bind_some h
     refine n_loopG cf15 hE okP (γ := OG × List RwI × Obj) (fun s8 g => [(0, .v (.int .i64 x_types)), (1, .v (.sl (Ar.lst Encs.eGPredicate x_l) .ro)), (9, .v (.own g.1.id g.1.lo g.1.n)), (10, .v (.map m6)), (42, .v (.int .i64 x_types)), (43, .v (.int .i64 s8.2.1))])
      (fun s8 g H1 => g.2.1.map rwP = s8.1 ∧ Okn g.1 (Ar.len g.2.1) ∧ (∀ w ∈ g.2.1, RwOk w) ∧ (∀ w ∈ g.2.1, RwA w) ∧ Mok .string V.str (V.int .i64) g.2.2 s8.2.2 ∧ Own Eq H0 (.blk m6 (.obj g.2.2) :: tabB g.1 g.2.1 :: (fo fI g.2.1 ++ [])) H1)
      (fun x e l H1 => ∃ g : OG × List RwI × Obj, (g.2.1.map rwP = x.1 ∧ Okn g.1 (Ar.len g.2.1) ∧ (∀ w ∈ g.2.1, RwOk w) ∧ (∀ w ∈ g.2.1, RwA w) ∧ Mok .string V.str (V.int .i64) g.2.2 x.2) ∧ e = .exit 3 ∧ l = [(9, .v (.own g.1.id g.1.lo g.1.n))] ∧ Own Eq H0 (.blk m6 (.obj g.2.2) :: tabB g.1 g.2.1 :: (fo fI g.2.1 ++ [])) H1) (by kernel_rfl) ?_ (⟨q0, [], o7⟩) hx ?_ ?_ ?_
     ·rintro ⟨s8, ix, mm⟩ ⟨q8, G8, o8⟩ H o ⟨hg, hq, hF, hA, hm, hO⟩ h;clear hx
      simp only at hg hm
      subst hg;cbv;refine n_br hE h (fun hc h => ?_) (fun hc h => ?_)
      ·cbv;refine n_call hE (g := fun r12 => .sl (Ar.lst (V.int .i64) r12) .ro) h (fun r12 hx => c57 N x_l ix r12 hx) (.refl _) fun r12 h => ?_;cbv;obtain ⟨s16, hx, h⟩ := bind_some h
       refine n_loopG cf15 hE okP (γ := OG × List RwI × Obj) (fun s13 g => [(0, .v (.int .i64 x_types)), (1, .v (.sl (Ar.lst Encs.eGPredicate x_l) .ro)), (9, .v (.own g.1.id g.1.lo g.1.n)), (10, .v (.map m6)), (11, .v (.int .i64 ix)), (12, .v (.sl (Ar.lst (V.int .i64) r12) .ro)), (13, .v (.int .i64 s13.2.1)), (42, .v (.int .i64 x_types)), (43, .v (.int .i64 ix))])
        (fun s13 g H1 => g.2.1.map rwP = s13.1 ∧ Okn g.1 (Ar.len g.2.1) ∧ (∀ w ∈ g.2.1, RwOk w) ∧ (∀ w ∈ g.2.1, RwA w) ∧ Mok .string V.str (V.int .i64) g.2.2 s13.2.2 ∧ Own Eq H0 (.blk m6 (.obj g.2.2) :: tabB g.1 g.2.1 :: (fo fI g.2.1 ++ [])) H1)
        (fun x e l H1 => ∃ g : OG × List RwI × Obj, (g.2.1.map rwP = x.1 ∧ Okn g.1 (Ar.len g.2.1) ∧ (∀ w ∈ g.2.1, RwOk w) ∧ (∀ w ∈ g.2.1, RwA w) ∧ Mok .string V.str (V.int .i64) g.2.2 x.2) ∧ e = .exit 5 ∧ l = [(0, .v (.int .i64 x_types)), (1, .v (.sl (Ar.lst Encs.eGPredicate x_l) .ro)), (9, .v (.own g.1.id g.1.lo g.1.n)), (10, .v (.map m6)), (42, .v (.int .i64 x_types)), (43, .v (.int .i64 ix))] ∧ Own Eq H0 (.blk m6 (.obj g.2.2) :: tabB g.1 g.2.1 :: (fo fI g.2.1 ++ [])) H1) (by kernel_rfl) ?_ (⟨q8, G8, o8⟩) hx ?_ ?_ ?_
       ·rintro ⟨s13, k, mm⟩ ⟨q9, G9, o9⟩ H o ⟨hg, hq, hF, hA, hm, hO⟩ h;clear hx
        simp only at hg hm
        subst hg;cbv;refine n_ln hE ?_;cbv;refine n_br hE h (fun hc h => ?_) (fun hc h => ?_)
        ·cbv;refine n_idx hE (fun _ => rfl) h fun x17 h => ?_;cbv;refine n_call hE (g := fun r18 => .str r18) h (fun r18 hx => c58 N x_l ix x17 r18 hx) (.refl _) fun r18 h => ?_;cbv;refine n_mget2 hE (kt := 9) (et := 3) (by kernel_rfl) (by kernel_rfl) mkOk_str (0 : Int) (by kernel_rfl) rfl hO hm 0 rfl h fun r19 h => ?_;cbv;refine n_br hE h (fun hc h => ?_) (fun hc h => ?_)
         ·have hlen : Ar.len (G9.map rwP) = Ar.len G9 := by rw [Ar.len_eq, Ar.len_eq, List.length_map]
          rw [hlen] at h
          cbv;refine n_olen hE hq ?_;cbv;refine n_mset hE (kt := 9) (et := 3) (by kernel_rfl) (by kernel_rfl) mkOk_str (mvOk_int .i64) hO hm 0 rfl h fun l21 o20 H hm h hO => ?_;cbv;obtain ⟨l22, hmk, h⟩ := bind_some h;obtain ⟨l23, hap, h⟩ := bind_some h;obtain ⟨hal, rfl⟩ := appL_some hap;refine n_omk hE (f := cellV fI) (z0 := (([] : List GInterval), Tail.nil)) (by decide) (.slt _ (.lst0)) hO (F := fun l => some l) (r := List.replicate x_types.toNat (([] : List GInterval), Tail.nil)) (by rw [mkL_other hmk]; rfl) fun row qn H hqn hrow hO => ?_
          cases hrow
          cbv;refine f_oapp hE (f := (rwV : RwI → V)) (fun _ => rfl) (by decide) hO hq 2 rfl (m := [(⟨qn, List.replicate x_types.toNat (([] : List GInterval), Tail.nil)⟩ : RwI)]) (src_sl (f := (rwV : RwI → V)) (l := [(⟨qn, List.replicate x_types.toNat (([] : List GInterval), Tail.nil)⟩ : RwI)]) hE (fun _ => rfl) (.lstc (.refl _) (.lst0))) (by simpa using hal) fun q' H hq' hO => ?_
          generalize hw0 : (⟨qn, List.replicate x_types.toNat (([] : List GInterval), Tail.nil)⟩ : RwI) = w0 at *
          have hO := Own.rowB [.blk m6 (.obj o20), tabB q' (G9 ++ [w0])] (w := w0) (F := G9) (L := []) (by subst hw0; exact hO) (fun c hc => by subst hw0; rw [List.eq_of_mem_replicate hc]; rfl)
          have hF' : ∀ w ∈ G9 ++ [w0], RwOk w := fun w hw => by
           rcases List.mem_append.1 hw with hw | hw
           ·exact hF w hw
           ·rw [List.mem_singleton.1 hw]; subst hw0; exact hqn
          have hA' : ∀ w ∈ G9 ++ [w0], RwA w := fun w hw => by
           rcases List.mem_append.1 hw with hw | hw
           ·exact hA w hw
           ·rw [List.mem_singleton.1 hw]; subst hw0; exact fun c hc => by rw [List.eq_of_mem_replicate hc]; trivial
          have hrw : G9.map rwP ++ [(⟨l22⟩ : GPredicate)] = (G9 ++ [w0]).map rwP := by
           rw [List.map_append, mkL_some hmk, ← hw0]; simp [rwP]
          rw [hrw] at h
          generalize G9 ++ [w0] = G at *
          obtain ⟨l24, hp, h⟩ := bind_some h;obtain ⟨w, x, t0, a, b, y, hc0, hw, hi0, hx0, ha, hb, hy, hset⟩ := put_facts hp
          have hwq : Okn w.q (Ar.len w.row) := hF' w (List.mem_of_getElem? hw)
          obtain ⟨R, hO1, hback⟩ := Own.cellB [_, _] hO hw hx0;cbv;refine n_takeT hE hO1 0 rfl (hA' w (List.mem_of_getElem? hw) _ (List.mem_of_getElem? hx0)) fun H hO => ?_;cbv;refine f_oidx hE (f := (rwV : RwI → V)) hO hq' 3 rfl hc0 ?_;cbv;refine f_oload hE (f := (rwV : RwI → V)) (fun _ => rfl) hO hq' 3 rfl hc0.1 hw ?_;cbv;refine f_oidx hE (f := (rwV : RwI → V)) hO hq' 3 rfl hc0 ?_;cbv;refine f_oload hE (f := (rwV : RwI → V)) (fun _ => rfl) hO hq' 3 rfl hc0.1 hw ?_;cbv;refine f_oidx hE (f := cellV fI) hO hwq 1 rfl hi0 ?_;cbv;refine f_oload hE (f := cellV fI) (fun _ => rfl) hO hwq 1 rfl hi0.1 hx0 ?_;cbv;refine f_idx hE (fun _ => rfl) ha ?_;cbv;refine f_idx hE (fun _ => rfl) hb ?_;cbv;refine n_need hE trivial ?_;cbv;refine f_appq hE sz_GInterval (by decide) (l := x) (.refl _) (.lstc (.eq (Encs.eGInterval_eq ⟨a, Ar.ar .sub .i64 b 1⟩) (.refl _)) (.lst0)) hy ?_;cbv;refine n_nameT hE hO 0 rfl fun tl H hO htl => ?_;cbv;refine f_oidx hE (f := cellV fI) hO hwq 1 rfl hi0 ?_;cbv;refine f_ostore hE (f := cellV fI) (tz := 1) (x' := (y, tl)) (fun x => ⟨.sl (Ar.lst fI y) tl, .refl _, rfl, rfl, rfl⟩) (by decide) hO hwq 1 rfl hi0 fun H hO => ?_;cbv
          have hO2 := hback (y, tl) H hO
          have h := ret_some h;subst h
          exact ⟨_, ⟨q', _, o20⟩, rfl, .e rfl (.e rfl (.e rfl (.e rfl (.e rfl (.e rfl (.e rfl (.e rfl (.e rfl (.z))))))))), rfl, (hset tl).symm, okn_set hq', ok_set hF' hw, okA_set hA' hw htl, hm, by
           have := hO2
           rw [← tabB_set (q := q') (i := ix.toNat) (x' := (y, tl)) hw] at this
           exact this⟩
         ·obtain ⟨l24, hp, h⟩ := bind_some h;obtain ⟨w, x, t0, a, b, y, hc0, hw, hi0, hx0, ha, hb, hy, hset⟩ := put_facts hp
          have hwq : Okn w.q (Ar.len w.row) := hF w (List.mem_of_getElem? hw)
          obtain ⟨R, hO1, hback⟩ := Own.cellB [_, _] hO hw hx0;cbv;refine n_takeT hE hO1 0 rfl (hA w (List.mem_of_getElem? hw) _ (List.mem_of_getElem? hx0)) fun H hO => ?_;cbv;refine f_oidx hE (f := (rwV : RwI → V)) hO hq 3 rfl hc0 ?_;cbv;refine f_oload hE (f := (rwV : RwI → V)) (fun _ => rfl) hO hq 3 rfl hc0.1 hw ?_;cbv;refine f_oidx hE (f := (rwV : RwI → V)) hO hq 3 rfl hc0 ?_;cbv;refine f_oload hE (f := (rwV : RwI → V)) (fun _ => rfl) hO hq 3 rfl hc0.1 hw ?_;cbv;refine f_oidx hE (f := cellV fI) hO hwq 1 rfl hi0 ?_;cbv;refine f_oload hE (f := cellV fI) (fun _ => rfl) hO hwq 1 rfl hi0.1 hx0 ?_;cbv;refine f_idx hE (fun _ => rfl) ha ?_;cbv;refine f_idx hE (fun _ => rfl) hb ?_;cbv;refine n_need hE trivial ?_;cbv;refine f_appq hE sz_GInterval (by decide) (l := x) (.refl _) (.lstc (.eq (Encs.eGInterval_eq ⟨a, Ar.ar .sub .i64 b 1⟩) (.refl _)) (.lst0)) hy ?_;cbv;refine n_nameT hE hO 0 rfl fun tl H hO htl => ?_;cbv;refine f_oidx hE (f := cellV fI) hO hwq 1 rfl hi0 ?_;cbv;refine f_ostore hE (f := cellV fI) (tz := 1) (x' := (y, tl)) (fun x => ⟨.sl (Ar.lst fI y) tl, .refl _, rfl, rfl, rfl⟩) (by decide) hO hwq 1 rfl hi0 fun H hO => ?_;cbv
          have hO2 := hback (y, tl) H hO
          have h := ret_some h;subst h
          exact ⟨_, ⟨q9, _, o9⟩, rfl, .e rfl (.e rfl (.e rfl (.e rfl (.e rfl (.e rfl (.e rfl (.e rfl (.e rfl (.z))))))))), rfl, (hset tl).symm, okn_set hq, ok_set hF hw, okA_set hA hw htl, hm, by
           have := hO2
           rw [← tabB_set (q := q9) (i := ix.toNat) (x' := (y, tl)) hw] at this
           exact this⟩
        ·cbv;have h := ret_some h;subst h;exact ⟨_, _, rfl, ⟨⟨q9, G9, o9⟩, ⟨rfl, hq, hF, hA, hm⟩, rfl, rfl, hO⟩, .e rfl (.e rfl (.e rfl (.e rfl (.e rfl (.e rfl (.z)))))), rfl⟩
       ·exact .e rfl (.e rfl (.e rfl (.e rfl (.e rfl (.e rfl (.e rfl (.e rfl (.e rfl (.z)))))))))
       ·exact ⟨rfl, hq, hF, hA, hm, hO⟩
       ·clear hx;rintro e l H ⟨⟨q9, G9, o9⟩, ⟨hg, hq, hF, hA, hm⟩, rfl, rfl, hO⟩;cbv;have h := ret_some h;subst h;exact ⟨_, ⟨q9, G9, o9⟩, rfl, .e rfl (.e rfl (.e rfl (.e rfl (.e rfl (.e rfl (.z)))))), rfl, hg, hq, hF, hA, hm, hO⟩
      ·cbv;have h := ret_some h;subst h;exact ⟨_, _, rfl, ⟨⟨q8, G8, o8⟩, ⟨rfl, hq, hF, hA, hm⟩, rfl, rfl, hO⟩, .e rfl (.z), rfl⟩
     ·exact .e rfl (.e rfl (.e rfl (.e rfl (.e rfl (.e rfl (.z))))))
     ·exact ⟨rfl, hq0, fun w hw => (by cases hw), fun w hw => (by cases hw), ho7, hO⟩
     ·clear hx;rintro e l H ⟨⟨q, F, o9⟩, ⟨hg, hq, hF, hA, hm⟩, rfl, rfl, hO⟩
      simp only at hg
      rw [← hg] at h
      cbv;refine n_callX hE (c59 N q F r h hO.tail hq hF) fun v H' hv => ?_
      rcases hv with ⟨F', rfl, rfl, hq', hF', hO'⟩ | ⟨rfl, rfl, L', hO'⟩
      ·cbv;exact .inr ⟨q, F', _, rfl, hq', hF', hO', rfl⟩
      ·cbv;exact hK _ _ _ hO' (.tup (.cons (.lit _ (lst_nil)) (.refl _)))
    ·rintro e l H ⟨rfl, rfl, hO⟩;cbv;have h := ret_some h;subst h;exact hK _ _ _ hO (.tup (.cons (.lit _ (lst_nil)) (.refl _)))
def cf74 : Cf := ⟨[], [(6, 8)], [], [], [], []⟩
theorem c74 (N : Nat) (x_a : List GInterval) (x_b : List GInterval) (r : Bool) (h : ref02_Same N x_a x_b = some r) : CallP Tryz.prog 74 [.sl (Ar.lst Encs.eGInterval x_a) .ro, .sl (Ar.lst Encs.eGInterval x_b) .ro] (.bool r) := by
 unfold ref02_Same at h
 refine callP_of_spec cf74 okP Tryz.func74 (by rfl) (by kernel_rfl) Tryz.call74 Tryz.ntmps74 (by rfl) (by rfl) ?_;intro E H0 K hE hK
 have hO : Own Eq H0 [] H0 := .start stable_eq rfl
 cbv;refine n_ln hE ?_;cbv;refine n_ln hE ?_;cbv;refine n_br hE h (fun hc h => ?_) (fun hc h => ?_)
 ·cbv;have h := ret_some h;subst h;exact hK _ _ _ hO (.refl _)
 ·cbv;obtain ⟨s2, hx, h⟩ := bind_some h;refine n_loopN cf74 hE okP (fun s1 => [(0, .v (.sl (Ar.lst Encs.eGInterval x_a) .ro)), (1, .v (.sl (Ar.lst Encs.eGInterval x_b) .ro)), (5, .v (.int .i64 s1))]) (fun s1 H1 => Own Eq H0 [] H1) (fun x e l H1 => match (generalizing := false) x with | .inl y => e = .exit 0 ∧ l = [] ∧ Own Eq H0 [] H1 | .inr y => e = .ret ∧ l = [(4, .b false)] ∧ Own Eq H0 [] H1) (by kernel_rfl) ?_ hx ?_ hO ?_
  ·intro s1 H o hO h;clear hx;cbv;refine n_ln hE ?_;cbv;refine n_br hE h (fun hc h => ?_) (fun hc h => ?_)
   ·cbv;refine n_idx hE Encs.eGInterval_eq h fun x3 h => ?_;cbv;refine n_idx hE Encs.eGInterval_eq h fun x4 h => ?_;cbv;refine n_br hE h (fun hc h => ?_) (fun hc h => ?_)
    ·cbv;have h := ret_some h;subst h;exact ⟨_, _, rfl, ⟨rfl, rfl, hO⟩, .b rfl (.z), rfl⟩
    ·cbv;have h := ret_some h;subst h;exact ⟨_, rfl, .e rfl (.e rfl (.e rfl (.z))), rfl, hO⟩
   ·cbv;have h := ret_some h;subst h;exact ⟨_, _, rfl, ⟨rfl, rfl, hO⟩, .z, rfl⟩
  ·exact .e rfl (.e rfl (.e rfl (.z)))
  ·clear hx
   rcases s2 with y5 | y6
   ·rintro e l H ⟨rfl, rfl, hO⟩;cbv;have h := ret_some h;subst h;exact hK _ _ _ hO (.refl _)
   ·rintro e l H ⟨rfl, rfl, hO⟩;cbv;have h := ret_some h;subst h;exact hK _ _ _ hO (.refl _)
def cf24 : Cf := ⟨[], [(6, 10)], [], [], [], []⟩
theorem c24 (N : Nat) (x_p : GPredicate) (x_q : GPredicate) (r : Bool) (h : ref27_Same N x_p x_q = some r) : CallP Tryz.prog 24 [.agg [.sl (Ar.lst Encs.eLGInterval x_p.Sets) .ro], .agg [.sl (Ar.lst Encs.eLGInterval x_q.Sets) .ro]] (.bool r) := by
 unfold ref27_Same at h
 refine callP_of_spec cf24 okP Tryz.func24 (by rfl) (by kernel_rfl) Tryz.call24 Tryz.ntmps24 (by rfl) (by rfl) ?_;intro E H0 K hE hK
 have hO : Own Eq H0 [] H0 := .start stable_eq rfl
 cbv;refine n_ln hE ?_;cbv;refine n_ln hE ?_;cbv;refine n_br hE h (fun hc h => ?_) (fun hc h => ?_)
 ·cbv;have h := ret_some h;subst h;exact hK _ _ _ hO (.refl _)
 ·cbv;obtain ⟨s2, hx, h⟩ := bind_some h;refine n_loopN cf24 hE okP (fun s1 => [(2, .v (.eref [.sl (Ar.lst Encs.eLGInterval x_p.Sets) .ro] 0)), (3, .v (.eref [.sl (Ar.lst Encs.eLGInterval x_q.Sets) .ro] 0)), (5, .v (.int .i64 s1))]) (fun s1 H1 => Own Eq H0 [] H1) (fun x e l H1 => match (generalizing := false) x with | .inl y => e = .exit 0 ∧ l = [] ∧ Own Eq H0 [] H1 | .inr y => e = .ret ∧ l = [(4, .b false)] ∧ Own Eq H0 [] H1) (by kernel_rfl) ?_ hx ?_ hO ?_
  ·intro s1 H o hO h;clear hx;cbv;refine n_ln hE ?_;cbv;refine n_br hE h (fun hc h => ?_) (fun hc h => ?_)
   ·cbv;refine n_idx hE Encs.eLGInterval_eq h fun x3 h => ?_;cbv;refine n_idx hE Encs.eLGInterval_eq h fun x4 h => ?_;cbv;refine n_call hE (g := fun r5 => .bool r5) h (fun r5 hx => c74 N x3 x4 r5 hx) (.refl _) fun r5 h => ?_;cbv;refine n_br hE h (fun hc h => ?_) (fun hc h => ?_)
    ·cbv;have h := ret_some h;subst h;exact ⟨_, _, rfl, ⟨rfl, rfl, hO⟩, .b rfl (.z), rfl⟩
    ·cbv;have h := ret_some h;subst h;exact ⟨_, rfl, .e rfl (.e rfl (.e rfl (.z))), rfl, hO⟩
   ·cbv;have h := ret_some h;subst h;exact ⟨_, _, rfl, ⟨rfl, rfl, hO⟩, .z, rfl⟩
  ·exact .e rfl (.e rfl (.e rfl (.z)))
  ·clear hx
   rcases s2 with y6 | y7
   ·rintro e l H ⟨rfl, rfl, hO⟩;cbv;have h := ret_some h;subst h;exact hK _ _ _ hO (.refl _)
   ·rintro e l H ⟨rfl, rfl, hO⟩;cbv;have h := ret_some h;subst h;exact hK _ _ _ hO (.refl _)
def cf17 : Cf := ⟨[], [(6, 8)], [], [], [], []⟩
theorem c17 (N : Nat) (x_a : List GPredicate) (x_b : List GPredicate) (r : Bool) (h : ref27_SameAll N x_a x_b = some r) : CallP Tryz.prog 17 [.sl (Ar.lst Encs.eGPredicate x_a) .ro, .sl (Ar.lst Encs.eGPredicate x_b) .ro] (.bool r) := by
 unfold ref27_SameAll at h
 refine callP_of_spec cf17 okP Tryz.func17 (by rfl) (by kernel_rfl) Tryz.call17 Tryz.ntmps17 (by rfl) (by rfl) ?_;intro E H0 K hE hK
 have hO : Own Eq H0 [] H0 := .start stable_eq rfl
 cbv;refine n_ln hE ?_;cbv;refine n_ln hE ?_;cbv;refine n_br hE h (fun hc h => ?_) (fun hc h => ?_)
 ·cbv;have h := ret_some h;subst h;exact hK _ _ _ hO (.refl _)
 ·cbv;obtain ⟨s2, hx, h⟩ := bind_some h;refine n_loopN cf17 hE okP (fun s1 => [(0, .v (.sl (Ar.lst Encs.eGPredicate x_a) .ro)), (1, .v (.sl (Ar.lst Encs.eGPredicate x_b) .ro)), (5, .v (.int .i64 s1))]) (fun s1 H1 => Own Eq H0 [] H1) (fun x e l H1 => match (generalizing := false) x with | .inl y => e = .exit 0 ∧ l = [] ∧ Own Eq H0 [] H1 | .inr y => e = .ret ∧ l = [(4, .b false)] ∧ Own Eq H0 [] H1) (by kernel_rfl) ?_ hx ?_ hO ?_
  ·intro s1 H o hO h;clear hx;cbv;refine n_ln hE ?_;cbv;refine n_br hE h (fun hc h => ?_) (fun hc h => ?_)
   ·cbv;refine n_idx hE Encs.eGPredicate_eq h fun x3 h => ?_;cbv;refine n_idx hE Encs.eGPredicate_eq h fun x4 h => ?_;cbv;refine n_call hE (g := fun r5 => .bool r5) h (fun r5 hx => c24 N x3 x4 r5 hx) (.refl _) fun r5 h => ?_;cbv;refine n_br hE h (fun hc h => ?_) (fun hc h => ?_)
    ·cbv;have h := ret_some h;subst h;exact ⟨_, _, rfl, ⟨rfl, rfl, hO⟩, .b rfl (.z), rfl⟩
    ·cbv;have h := ret_some h;subst h;exact ⟨_, rfl, .e rfl (.e rfl (.e rfl (.z))), rfl, hO⟩
   ·cbv;have h := ret_some h;subst h;exact ⟨_, _, rfl, ⟨rfl, rfl, hO⟩, .z, rfl⟩
  ·exact .e rfl (.e rfl (.e rfl (.z)))
  ·clear hx
   rcases s2 with y6 | y7
   ·rintro e l H ⟨rfl, rfl, hO⟩;cbv;have h := ret_some h;subst h;exact hK _ _ _ hO (.refl _)
   ·rintro e l H ⟨rfl, rfl, hO⟩;cbv;have h := ret_some h;subst h;exact hK _ _ _ hO (.refl _)
def cf68 : Cf := ⟨[], [], [], [], [], []⟩
theorem c68 (N : Nat) (x_l : List GPredicate) (r : Int) (h : predicate_checked N x_l = some r) : CallP Tryz.prog 68 [.sl (Ar.lst Encs.eGPredicate x_l) .ro] (.int .i64 r) := by
 unfold predicate_checked at h
 refine callP_of_spec cf68 okP Tryz.func68 (by rfl) (by kernel_rfl) Tryz.call68 Tryz.ntmps68 (by rfl) (by rfl) ?_;intro E H0 K hE hK
 have hO : Own Eq H0 [] H0 := .start stable_eq rfl
 cbv;refine n_ln hE ?_;cbv;obtain ⟨s2, hx, h⟩ := bind_some h;refine n_loopN cf68 hE okP (fun s1 => [(6, .v (.sl (Ar.lst Encs.eGPredicate x_l) .ro)), (7, .v (.int .i64 (Ar.len x_l))), (8, .v (.int .i64 s1))]) (fun s1 H1 => Own Eq H0 [] H1) (fun x e l H1 => match (generalizing := false) x with | .inl y => e = .exit 0 ∧ l = [] ∧ Own Eq H0 [] H1 | .inr y => e = .ret ∧ l = [(2, .v (.int .i64 y))] ∧ Own Eq H0 [] H1) (by kernel_rfl) ?_ hx ?_ hO ?_
 ·intro s1 H o hO h;clear hx;cbv;refine n_br hE h (fun hc h => ?_) (fun hc h => ?_)
  ·cbv;refine n_idx hE Encs.eGPredicate_eq h fun x3 h => ?_;cbv;refine n_ln hE ?_;cbv;refine n_call hE (g := fun r4 => .int .i64 r4) h (fun r4 hx => c33 N (Ar.len x3.Sets) x3 r4 hx) (.refl _) fun r4 h => ?_;cbv;refine n_br hE h (fun hc h => ?_) (fun hc h => ?_)
   ·cbv;have h := ret_some h;subst h;exact ⟨_, _, rfl, ⟨rfl, rfl, hO⟩, .e rfl (.z), rfl⟩
   ·cbv;have h := ret_some h;subst h;exact ⟨_, rfl, .e rfl (.e rfl (.e rfl (.z))), rfl, hO⟩
  ·cbv;have h := ret_some h;subst h;exact ⟨_, _, rfl, ⟨rfl, rfl, hO⟩, .z, rfl⟩
 ·exact .e rfl (.e rfl (.e rfl (.z)))
 ·clear hx
  rcases s2 with y5 | y6
  ·rintro e l H ⟨rfl, rfl, hO⟩;cbv;have h := ret_some h;subst h;exact hK _ _ _ hO (.refl _)
  ·rintro e l H ⟨rfl, rfl, hO⟩;cbv;have h := ret_some h;subst h;exact hK _ _ _ hO (.refl _)
def cf115 : Cf := ⟨[], [], [], [], [], []⟩
theorem c115 (N : Nat) (x_1 : GPredicate) (r : (List (Int × (List GInterval)))) (h : predicate_filled_1 N x_1 = some r) : EmitP Tryz.prog 115 (fun yv => [yv, .eref [.sl (Ar.lst Encs.eLGInterval x_1.Sets) .ro] 0]) (List.map (fun (x : (Int × (List GInterval))) => [.int .i64 x.1, .sl (Ar.lst Encs.eGInterval x.2) .ro]) r) rbN := by
 unfold predicate_filled_1 at h
 obtain ⟨⟨w0, u0⟩, h1, hr⟩ := bind_some h;clear h
 have hr := ret_some hr
 subst hr;have h := h1;clear h1;refine emitP_of_spec cf115 okP Tryz.func115 (by rfl) (by kernel_rfl) Tryz.call115 Tryz.ntmps115 (by rfl) (fun _ => rfl) ?_;intro yv I D hI hD hy tl F E H K hE hO hK hKD
 have hO : Own (I (List.map (fun (x : (Int × (List GInterval))) => [.int .i64 x.1, .sl (Ar.lst Encs.eGInterval x.2) .ro]) (w0 ++ []) ++ tl)) F [] H := by rw [List.append_nil]; exact hO
 cbv;refine n_ln hE ?_;cbv;obtain ⟨w2, w3, s6, hx, h1, he⟩ := thenE_some h;clear h;have h := h1;clear h1
 rw [he, List.append_assoc] at hO
 clear he;refine n_loopE cf115 hE okP (γ := Unit) (fun s1 g => [(0, .v (yv)), (6, .v (.sl (Ar.lst Encs.eLGInterval x_1.Sets) .ro)), (7, .v (.int .i64 (Ar.len x_1.Sets))), (8, .v (.int .i64 s1))]) (fun s1 g w H1 => Own (I (List.map (fun (x : (Int × (List GInterval))) => [.int .i64 x.1, .sl (Ar.lst Encs.eGInterval x.2) .ro]) w ++ tl)) F [] H1) (fun x e l w H1 => e = .exit 0 ∧ l = [] ∧ Own (I (List.map (fun (x : (Int × (List GInterval))) => [.int .i64 x.1, .sl (Ar.lst Encs.eGInterval x.2) .ro]) w ++ tl)) F [] H1) (fun e l H1 => (e = .ret ∧ l = [] ∧ Own D F [] H1)) (by kernel_rfl) ?_ (w' := w3 ++ []) () hx ?_ ?_ ?_ ?_
 ·rintro s1 _ w4 w5 H o hO h;clear hx
  skip
  cbv;refine n_br hE h (fun hc h => ?_) (fun hc h => ?_)
  ·cbv;refine n_idx hE Encs.eLGInterval_eq h fun x7 h => ?_;cbv;refine n_ln hE ?_;cbv;refine n_br hE h (fun hc h => ?_) (fun hc h => ?_)
   ·cbv;obtain ⟨w8, h1, he⟩ := thenE_ret h;clear h;have h := h1;clear h1
    rw [he, List.append_assoc] at hO
    clear he
    have hO : Own (I ([.int .i64 s1, .sl (Ar.lst Encs.eGInterval x7) .ro] :: (List.map (fun (x : (Int × (List GInterval))) => [.int .i64 x.1, .sl (Ar.lst Encs.eGInterval x.2) .ro]) (w8 ++ w5) ++ tl))) F [] _ := hO
    refine n_yield hE hI hD hy hO (.refl _) (fun H hO => ?_) (fun H hO => ?_)
    ·cbv;refine n_brF hE (Ar.nt_eq _) ?_;cbv;obtain ⟨hw, rfl⟩ := pair_some h
     rw [← hw] at hO
     exact ⟨_, (), rfl, .e rfl (.e rfl (.e rfl (.e rfl (.z)))), rfl, hO⟩
    ·clear h;cbv;refine n_brT hE (Ar.nt_eq _) ?_;cbv;exact .inr ⟨_, ⟨rfl, rfl, hO⟩, .z, rfl⟩
   ·cbv;obtain ⟨hw, rfl⟩ := pair_some h
    rw [← hw] at hO
    exact ⟨_, (), rfl, .e rfl (.e rfl (.e rfl (.e rfl (.z)))), rfl, hO⟩
  ·cbv;obtain ⟨hw, rfl⟩ := pair_some h
   rw [← hw] at hO
   exact .inl ⟨_, _, rfl, ⟨rfl, rfl, hO⟩, .z, rfl⟩
 ·exact .e rfl (.e rfl (.e rfl (.e rfl (.z))))
 ·exact hO
 ·rintro e l H ⟨rfl, rfl, hO⟩;clear hx;cbv;obtain ⟨hw, _⟩ := pair_some h
  rw [← hw] at hO
  exact hK _ _ _ hO trivial
 ·rintro e l H hX;obtain ⟨rfl, rfl, hO⟩ := hX;clear h;cbv;exact hKD _ _ _ hO trivial
def cf79 : Cf := ⟨[], [], [], [], [], []⟩
theorem c79 (N : Nat) (x_p : GPredicate) (r : (List (Int × (List GInterval)))) (h : predicate_filled N x_p = some r) : CallQ Tryz.prog 79 [.agg [.sl (Ar.lst Encs.eLGInterval x_p.Sets) .ro]] (fun v => IterV Tryz.prog v (r.map fun (x : (Int × (List GInterval))) => [.int .i64 x.1, .sl (Ar.lst Encs.eGInterval x.2) .ro])) := by
 unfold predicate_filled at h
 refine callQ_of_spec cf79 okP Tryz.func79 (by rfl) (by kernel_rfl) Tryz.call79 Tryz.ntmps79 (by rfl) (by rfl) ?_;intro E H0 K hE hK
 have hO : Own Eq H0 [] H0 := .start stable_eq rfl
 cbv;exact hK _ _ _ hO (iterV_of_emit Tryz.call115 (c115 N x_p r h))
def cf31 : Cf := ⟨[2, 3], [], [], [], [], []⟩
theorem c31 (N : Nat) (x_p : GPredicate) (r : (GSymbol × Int)) (h : predicate_Witness N x_p = some r) : CallP Tryz.prog 31 [.agg [.sl (Ar.lst Encs.eLGInterval x_p.Sets) .ro]] (.tup [.agg [.int .i64 r.1.Typ, .int .i64 r.1.Num], .int .i64 r.2]) := by
 unfold predicate_Witness at h
 refine callP_of_spec cf31 okP Tryz.func31 (by rfl) (by kernel_rfl) Tryz.call31 Tryz.ntmps31 (by rfl) (by rfl) ?_;intro E H0 K hE hK
 have hO : Own Eq H0 [] H0 := .start stable_eq rfl
 cbv;refine n_alloc hE hO fun b1 H hO => ?_;cbv;refine n_alloc hE hO fun b2 H hO => ?_;cbv;refine n_call hE (g := fun r3 => .int .i64 r3) h (fun r3 hx => c68 N ([x_p]) r3 hx) (.cons (.lit _ (lst_cons ((Encs.eGPredicate_eq x_p).symm) (lst_nil))) (.refl _)) fun r3 h => ?_;cbv;refine n_br hE h (fun hc h => ?_) (fun hc h => ?_)
 ·cbv;refine n_store hE hO 1 rfl rfl fun H hO => ?_;cbv;refine n_store hE hO 0 rfl rfl fun H hO => ?_;cbv;refine n_load hE hO 1 rfl ?_;cbv;refine n_load hE hO 0 rfl ?_;cbv;have h := ret_some h;subst h;exact hK _ _ _ hO (.refl _)
 ·cbv;refine n_callQ hE h (fun r4 hx => c79 N x_p r4 hx) (.refl _) fun r4 v5 hv5 h => ?_;cbv;obtain ⟨o10, hx, h⟩ := bind_some h;refine n_range cf31 hE okP (ι := Unit) (enc := fun (x : (Int × (List GInterval))) => [.int .i64 x.1, .sl (Ar.lst Encs.eGInterval x.2) .ro]) (fun (s7 : Unit) F H => Own Eq F [.blk b2 (.cells [.int .i64 0]), .blk b1 (.cells [.int .i64 0, .int .i64 0])] H) (fun (r : GSymbol) e F H => e = .ret ∧ Own Eq F [.blk b2 (.cells [.int .i64 0]), .blk b1 (.cells [.int .i64 r.Typ, .int .i64 r.Num])] H) (fun i s7 y6 => [(2, .v (.ref b1 0)), (3, .v (.ref b2 0)), (5, .v (.int .i64 y6.1)), (6, .v (.sl (Ar.lst Encs.eGInterval y6.2) .ro))]) (fun i s7 y6 F H => Own Eq F [.blk b2 (.cells [.int .i64 0]), .blk b1 (.cells [.int .i64 0, .int .i64 0])] H) (fun _ => Own.stable stable_eq _) (fun _ _ => Stable.con (Own.stable stable_eq _)) (fun _ _ _ => Own.stable stable_eq _) hv5 hx (hO) (by decide) (fun _ => rfl) (by kernel_rfl) (by kernel_rfl) ?_ ?_ ?_ ?_
  ·rintro E i9 y6 s7 F8 H hE hO;clear hx h;cbv;exact ⟨(), hO, .e rfl (.e rfl (.e rfl (.e rfl (.z)))), rfl⟩
  ·rintro E i9 _ y6 s7 F8 H o hE hF h hO;clear hx;cbv;refine n_idx hE Encs.eGInterval_eq h fun x11 h => ?_;cbv;refine n_store hE hO 1 rfl rfl fun H hO => ?_;cbv;refine n_store hE hO 0 rfl rfl fun H hO => ?_;cbv;have h := ret_some h;subst h;exact ⟨_, rfl, rfl, ⟨rfl, hO⟩⟩
  ·rintro d12 s14 H rfl hd hO
   have hO : Own Eq H0 [.blk b2 (.cells [.int .i64 0]), .blk b1 (.cells [.int .i64 0, .int .i64 0]), .blk d12 DB] H := Own.dblk hd hO
   clear hd;clear hx;cbv;refine n_store hE hO 1 rfl rfl fun H hO => ?_;cbv;refine n_store hE hO 0 rfl rfl fun H hO => ?_;cbv;refine n_fin hE hO 2 rfl fun H hO => ?_;cbv;refine n_load hE hO 1 rfl ?_;cbv;refine n_load hE hO 0 rfl ?_;cbv;have h := ret_some h;subst h;exact hK _ _ _ hO (.refl _)
  ·rintro d12 y15 e H rfl hd hX;clear hx
   rcases hX with ⟨rfl, hO⟩
   have hO : Own Eq H0 [.blk b2 (.cells [.int .i64 0]), .blk b1 (.cells [.int .i64 y15.Typ, .int .i64 y15.Num]), .blk d12 DB] H := Own.dblk hd hO
   clear hd;cbv;refine n_fin hE hO 2 rfl fun H hO => ?_;cbv;refine n_load hE hO 1 rfl ?_;cbv;refine n_load hE hO 0 rfl ?_;cbv;have h := ret_some h;subst h;exact hK _ _ _ hO (.refl _)
def cf192 : Cf := ⟨[], [], [], [], [], []⟩
theorem c192 (N : Nat) (x_c : Int) (r : Bool) (h : schema_digit N x_c = some r) : CallP Tryz.prog 192 [.int .u8 x_c] (.bool r) := by
 unfold schema_digit at h
 refine callP_of_spec cf192 okP Tryz.func192 (by rfl) (by kernel_rfl) Tryz.call192 Tryz.ntmps192 (by rfl) (by rfl) ?_;intro E H0 K hE hK
 have hO : Own Eq H0 [] H0 := .start stable_eq rfl
 cbv;have h := ret_some h;subst h;exact hK _ _ _ hO (.refl _)
def cf193 : Cf := ⟨[], [], [], [], [], []⟩
theorem c193 (N : Nat) (x_c : Int) (r : Bool) (h : schema_letter N x_c = some r) : CallP Tryz.prog 193 [.int .u8 x_c] (.bool r) := by
 unfold schema_letter at h
 refine callP_of_spec cf193 okP Tryz.func193 (by rfl) (by kernel_rfl) Tryz.call193 Tryz.ntmps193 (by rfl) (by rfl) ?_;intro E H0 K hE hK
 have hO : Own Eq H0 [] H0 := .start stable_eq rfl
 cbv;have h := ret_some h;subst h;exact hK _ _ _ hO (.refl _)
def cf149 : Cf := ⟨[], [], [], [], [], []⟩
theorem c149 (N : Nat) (x_s : ByteArray) (r : Bool) (h : schema_name N x_s = some r) : CallP Tryz.prog 149 [.str x_s] (.bool r) := by
 unfold schema_name at h
 refine callP_of_spec cf149 okP Tryz.func149 (by rfl) (by kernel_rfl) Tryz.call149 Tryz.ntmps149 (by rfl) (by rfl) ?_;intro E H0 K hE hK
 have hO : Own Eq H0 [] H0 := .start stable_eq rfl
 cbv;refine n_br hE h (fun hc h => ?_) (fun hc h => ?_)
 ·cbv;have h := ret_some h;subst h;exact hK _ _ _ hO (.refl _)
 ·cbv;refine n_needB hE h fun h => ?_;cbv;refine n_call hE (g := fun r1 => .bool r1) h (fun r1 hx => c192 N (Ar.sat x_s 0) r1 hx) (.refl _) fun r1 h => ?_;cbv;refine n_br hE h (fun hc h => ?_) (fun hc h => ?_)
  ·cbv;have h := ret_some h;subst h;exact hK _ _ _ hO (.refl _)
  ·cbv;obtain ⟨s3, hx, h⟩ := bind_some h;refine n_loopN cf149 hE okP (fun s2 => [(0, .v (.str x_s)), (18, .v (.int .i64 (Ar.slen x_s))), (19, .v (.int .i64 s2))]) (fun s2 H1 => Own Eq H0 [] H1) (fun x e l H1 => match (generalizing := false) x with | .inl y => e = .exit 0 ∧ l = [] ∧ Own Eq H0 [] H1 | .inr y => e = .ret ∧ l = [(2, .b false)] ∧ Own Eq H0 [] H1) (by kernel_rfl) ?_ hx ?_ hO ?_
   ·intro s2 H o hO h;clear hx;cbv;refine n_br hE h (fun hc h => ?_) (fun hc h => ?_)
    ·cbv;refine n_needB hE h fun h => ?_;cbv;refine n_call hE (g := fun r4 => .bool r4) h (fun r4 hx => c193 N (Ar.sat x_s s2) r4 hx) (.refl _) fun r4 h => ?_;cbv;refine n_br hE h (fun hc h => ?_) (fun hc h => ?_)
     ·cbv;refine n_needB hE h fun h => ?_;cbv;refine n_call hE (g := fun r5 => .bool r5) h (fun r5 hx => c192 N (Ar.sat x_s s2) r5 hx) (.refl _) fun r5 h => ?_;cbv;refine n_br hE h (fun hc h => ?_) (fun hc h => ?_)
      ·cbv;have h := ret_some h;subst h;exact ⟨_, _, rfl, ⟨rfl, rfl, hO⟩, .b rfl (.z), rfl⟩
      ·cbv;have h := ret_some h;subst h;exact ⟨_, rfl, .e rfl (.e rfl (.e rfl (.z))), rfl, hO⟩
     ·cbv;have h := ret_some h;subst h;exact ⟨_, rfl, .e rfl (.e rfl (.e rfl (.z))), rfl, hO⟩
    ·cbv;have h := ret_some h;subst h;exact ⟨_, _, rfl, ⟨rfl, rfl, hO⟩, .z, rfl⟩
   ·exact .e rfl (.e rfl (.e rfl (.z)))
   ·clear hx
    rcases s3 with y6 | y7
    ·rintro e l H ⟨rfl, rfl, hO⟩;cbv;have h := ret_some h;subst h;exact hK _ _ _ hO (.refl _)
    ·rintro e l H ⟨rfl, rfl, hO⟩;cbv;have h := ret_some h;subst h;exact hK _ _ _ hO (.refl _)
end Go.Ab

