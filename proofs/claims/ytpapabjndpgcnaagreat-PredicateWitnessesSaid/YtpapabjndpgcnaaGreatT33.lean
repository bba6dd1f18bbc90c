/- GPCo4 -/
import Derived.Test.YtpapabjndpgcnaaGreatT32
set_option linter.all false

namespace Go.Ab
open Go.RowKit Go.Proofs
variable [Ar] [Encs]
set_option maxRecDepth 100000
def cf69 : Cf := ⟨[4, 6], [], [], [], [], []⟩
theorem c69 (N : Nat) (x_types : Int) (v_set : V) (x_set : Int → Option ((List GInterval) × Int)) (h_set : ∀ y1 q, x_set y1 = some q → CallVP Tryz.prog v_set [.int .i64 y1] (.tup [.sl (Ar.lst Encs.eGInterval q.1) .ro, .int .i64 q.2])) (r : (GPredicate × Int)) (h : predicate_each N x_types x_set = some r) : CallP Tryz.prog 69 [.int .i64 x_types, v_set] (.tup [.agg [.sl (Ar.lst Encs.eLGInterval r.1.Sets) .ro], .int .i64 r.2]) := by
 unfold predicate_each at h
 refine callP_of_spec cf69 okP Tryz.func69 (by rfl) (by kernel_rfl) Tryz.call69 Tryz.ntmps69 (by rfl) (by rfl) ?_;intro E H0 K hE hK
 have hO : Own Eq H0 [] H0 := .start stable_eq rfl
 cbv;refine n_alloc hE hO fun b1 H hO => ?_;cbv;refine n_alloc hE hO fun b2 H hO => ?_;cbv;replace hO := hO.cast (L' := [.blk b2 (.cells [.sl (Ar.lst Encs.eLGInterval ([])) .nil]), .blk b1 (.cells [.sl [] .nil])]) (by first | (simp only [← lst_nil]; done) | (simp only [← lst_nil]; rfl));replace hO := hO.tl0 (t := .nil) rfl;obtain ⟨s5, hx, h⟩ := bind_some h;refine n_loopG cf69 hE okP (γ := Tail) (fun s3 g => [(1, .v (v_set)), (4, .v (.ref b1 0)), (6, .v (.ref b2 0)), (10, .v (.int .i64 x_types)), (11, .v (.int .i64 s3.1))]) (fun s3 g H1 => Appn g ∧ Own Eq H0 [.tl g, .blk b2 (.cells [.sl (Ar.lst Encs.eLGInterval s3.2.Sets) g]), .blk b1 (.cells [.sl [] .nil])] H1) (fun x e l H1 => match (generalizing := false) x with | .inl y => ∃ u1 : Tail, Appn u1 ∧ e = .exit 0 ∧ l = [(4, .v (.ref b1 0)), (6, .v (.ref b2 0))] ∧ Own Eq H0 [.tl u1, .blk b2 (.cells [.sl (Ar.lst Encs.eLGInterval y.Sets) u1]), .blk b1 (.cells [.sl [] .nil])] H1 | .inr y => ∃ u1 : Tail, Appn u1 ∧ e = .ret ∧ l = [(4, .v (.ref b1 0)), (5, .v (.int .i64 y.1))] ∧ Own Eq H0 [.tl u1, .blk b2 (.cells [.sl (Ar.lst Encs.eLGInterval y.2.Sets) u1]), .blk b1 (.cells [.sl [] .nil])] H1) (by kernel_rfl) ?_ .nil hx ?_ ?_ ?_
 ·rintro s3 t4 H o ⟨ht4, hO⟩ h;clear hx;cbv;refine n_br hE h (fun hc h => ?_) (fun hc h => ?_)
  ·cbv;refine n_callF hE (g := fun r6 => .tup [.sl (Ar.lst Encs.eGInterval r6.1) .ro, .int .i64 r6.2]) h (fun r6 hx => h_set s3.1 r6 hx) (.refl _) fun r6 h => ?_;cbv;refine n_br hE h (fun hc h => ?_) (fun hc h => ?_)
   ·cbv;refine n_store hE hO 2 rfl rfl fun H hO => ?_;cbv;have h := ret_some h;subst h;exact ⟨_, _, rfl, ⟨t4, ht4, rfl, rfl, hO⟩, .e rfl (.e rfl (.z)), rfl⟩
   ·cbv;refine n_load hE hO 1 rfl ?_;cbv;refine n_appn (f := Encs.eLGInterval) hE sz_LGInterval (by decide) hO 0 rfl ht4 (l := s3.2.Sets) (m := [r6.1]) (.refl _) (.lstc (.eq (Encs.eLGInterval_eq r6.1) (.refl _)) (.lst0)) h fun l8 t7 H hO ht7 h => ?_;cbv;refine n_store hE hO 1 rfl rfl fun H hO => ?_;cbv;have h := ret_some h;subst h;exact ⟨_, t7, rfl, .e rfl (.e rfl (.e rfl (.e rfl (.e rfl (.z))))), rfl, ht7, hO⟩
  ·cbv;have h := ret_some h;subst h;exact ⟨_, _, rfl, ⟨t4, ht4, rfl, rfl, hO⟩, .e rfl (.e rfl (.z)), rfl⟩
 ·exact .e rfl (.e rfl (.e rfl (.e rfl (.e rfl (.z)))))
 ·exact ⟨trivial, hO⟩
 ·clear hx
  rcases s5 with y9 | y11
  ·rintro e l H ⟨t10, ht10, rfl, rfl, hO⟩;cbv;refine n_load hE hO 1 rfl ?_;cbv;refine n_store hE hO 2 rfl rfl fun H hO => ?_;cbv;refine n_load hE hO 2 rfl ?_;cbv;have h := ret_some h;subst h;exact hK _ _ _ hO (.tup (.cons (.agg (.cons (.ro _ _) (.refl _))) (.refl _)))
  ·rintro e l H ⟨t12, ht12, rfl, rfl, hO⟩;cbv;refine n_load hE hO 2 rfl ?_;cbv;have h := ret_some h;subst h;exact hK _ _ _ hO (.tup (.cons (.agg (.cons (.lit _ (lst_nil)) (.refl _))) (.refl _)))
def cf107 : Cf := ⟨[], [(1, 14)], [], [], [], []⟩
theorem c107 (N : Nat) (x_i : Int) (v_1 : V) (x_1 : (List GInterval) → (List GInterval) → Option ((List GInterval) × Int)) (h_1 : ∀ y1 y2 q, x_1 y1 y2 = some q → CallVP Tryz.prog v_1 [.sl (Ar.lst Encs.eGInterval y1) .ro, .sl (Ar.lst Encs.eGInterval y2) .ro] (.tup [.sl (Ar.lst Encs.eGInterval q.1) .ro, .int .i64 q.2])) (x_2 : GPredicate) (x_3 : GPredicate) (r : ((List GInterval) × Int)) (h : predicate_both_1 N x_i x_1 x_2 x_3 = some r) : CallP Tryz.prog 107 [.int .i64 x_i, .eref [v_1] 0, .eref [.sl (Ar.lst Encs.eLGInterval x_2.Sets) .ro] 0, .eref [.sl (Ar.lst Encs.eLGInterval x_3.Sets) .ro] 0] (.tup [.sl (Ar.lst Encs.eGInterval r.1) .ro, .int .i64 r.2]) := by
 unfold predicate_both_1 at h
 refine callP_of_spec cf107 okP Tryz.func107 (by rfl) (by kernel_rfl) Tryz.call107 Tryz.ntmps107 (by rfl) (by rfl) ?_;intro E H0 K hE hK
 have hO : Own Eq H0 [] H0 := .start stable_eq rfl
 cbv;refine n_idx hE Encs.eLGInterval_eq h fun x1 h => ?_;cbv;refine n_idx hE Encs.eLGInterval_eq h fun x2 h => ?_;cbv;refine n_pcallF hE (g := fun r3 => .tup [.sl (Ar.lst Encs.eGInterval r3.1) .ro, .int .i64 r3.2]) h (fun r3 hx => h_1 x1 x2 r3 hx) (.refl _) fun r3 h => ?_;cbv;have h := ret_some h;subst h;exact hK _ _ _ hO (.refl _)
def cf62 : Cf := ⟨[6, 1000005], [], [], [], [], []⟩
theorem c62 (N : Nat) (x_p : GPredicate) (x_q : GPredicate) (v_on : V) (x_on : (List GInterval) → (List GInterval) → Option ((List GInterval) × Int)) (h_on : ∀ y1 y2 q, x_on y1 y2 = some q → CallVP Tryz.prog v_on [.sl (Ar.lst Encs.eGInterval y1) .ro, .sl (Ar.lst Encs.eGInterval y2) .ro] (.tup [.sl (Ar.lst Encs.eGInterval q.1) .ro, .int .i64 q.2])) (o_on : OneV v_on) (r : (GPredicate × Int)) (h : predicate_both N x_p x_q x_on = some r) : CallP Tryz.prog 62 [.agg [.sl (Ar.lst Encs.eLGInterval x_p.Sets) .ro], .agg [.sl (Ar.lst Encs.eLGInterval x_q.Sets) .ro], v_on] (.tup [.agg [.sl (Ar.lst Encs.eLGInterval r.1.Sets) .ro], .int .i64 r.2]) := by
 unfold predicate_both at h
 refine callP_of_spec cf62 okP Tryz.func62 (by rfl) (by kernel_rfl) Tryz.call62 Tryz.ntmps62 (by rfl) (by rfl) ?_;intro E H0 K hE hK
 have hO : Own Eq H0 [] H0 := .start stable_eq rfl
 cbv;refine n_need hE o_on ?_;cbv;refine n_alloc hE hO fun b1 H hO => ?_;cbv;refine n_call hE (g := fun r2 => .int .i64 r2) h (fun r2 hx => c68 N ([x_p, x_q]) r2 hx) (.cons (.lit _ (lst_cons ((Encs.eGPredicate_eq x_p).symm) (lst_cons ((Encs.eGPredicate_eq x_q).symm) (lst_nil)))) (.refl _)) fun r2 h => ?_;cbv;refine n_br hE h (fun hc h => ?_) (fun hc h => ?_)
 ·cbv;refine n_store hE hO 0 rfl rfl fun H hO => ?_;cbv;refine n_load hE hO 0 rfl ?_;cbv;have h := ret_some h;subst h;exact hK _ _ _ hO (.tup (.cons (.agg (.cons (.lit _ (lst_nil)) (.refl _))) (.refl _)))
 ·cbv;refine n_ln hE ?_;cbv;refine n_ln hE ?_;cbv;refine n_br hE h (fun hc h => ?_) (fun hc h => ?_)
  ·cbv;refine n_store hE hO 0 rfl rfl fun H hO => ?_;cbv;refine n_load hE hO 0 rfl ?_;cbv;have h := ret_some h;subst h;exact hK _ _ _ hO (.tup (.cons (.agg (.cons (.lit _ (lst_nil)) (.refl _))) (.refl _)))
  ·cbv;refine n_ln hE ?_;cbv;refine n_call hE (g := fun r3 => .tup [.agg [.sl (Ar.lst Encs.eLGInterval r3.1.Sets) .ro], .int .i64 r3.2]) h (fun r3 hx => c69 N (Ar.len x_p.Sets) (.func (.func 107) [] [.eref [v_on] 0, .eref [.sl (Ar.lst Encs.eLGInterval x_p.Sets) .ro] 0, .eref [.sl (Ar.lst Encs.eLGInterval x_q.Sets) .ro] 0]) (fun y1 => predicate_both_1 N y1 x_on x_p x_q) (fun y1 r hx => CallP.value (F := []) (C := [.eref [v_on] 0, .eref [.sl (Ar.lst Encs.eLGInterval x_p.Sets) .ro] 0, .eref [.sl (Ar.lst Encs.eLGInterval x_q.Sets) .ro] 0]) (c107 N y1 v_on x_on h_on x_p x_q r hx)) r3 hx) (.refl _) fun r3 h => ?_;cbv;refine n_store hE hO 0 rfl rfl fun H hO => ?_;cbv;refine n_load hE hO 0 rfl ?_;cbv;have h := ret_some h;subst h;exact hK _ _ _ hO (.refl _)
def cf18 : Cf := ⟨[4], [], [], [], [], []⟩
theorem c18 (N : Nat) (x_p : GPredicate) (x_q : GPredicate) (r : (GPredicate × Int)) (h : predicate_And N x_p x_q = some r) : CallP Tryz.prog 18 [.agg [.sl (Ar.lst Encs.eLGInterval x_p.Sets) .ro], .agg [.sl (Ar.lst Encs.eLGInterval x_q.Sets) .ro]] (.tup [.agg [.sl (Ar.lst Encs.eLGInterval r.1.Sets) .ro], .int .i64 r.2]) := by
 unfold predicate_And at h
 refine callP_of_spec cf18 okP Tryz.func18 (by rfl) (by kernel_rfl) Tryz.call18 Tryz.ntmps18 (by rfl) (by rfl) ?_;intro E H0 K hE hK
 have hO : Own Eq H0 [] H0 := .start stable_eq rfl
 cbv;refine n_alloc hE hO fun b1 H hO => ?_;cbv;refine n_call hE (g := fun r2 => .tup [.agg [.sl (Ar.lst Encs.eLGInterval r2.1.Sets) .ro], .int .i64 r2.2]) h (fun r2 hx => c62 N x_p x_q (.func (.func 63) [] []) (fun y1 y2 => interval_Intersect N y1 y2) (fun y1 y2 r hx => CallP.value (F := []) (C := []) (c63 N y1 y2 r hx)) ⟨rfl, rfl⟩ r2 hx) (.refl _) fun r2 h => ?_;cbv;refine n_store hE hO 0 rfl rfl fun H hO => ?_;cbv;refine n_load hE hO 0 rfl ?_;cbv;have h := ret_some h;subst h;exact hK _ _ _ hO (.refl _)
def cf75 : Cf := ⟨[], [], [], [], [], []⟩
theorem c75 (N : Nat) (x_0 : Int) (r : ((List GInterval) × Int)) (h : predicate_All_1 N x_0 = some r) : CallP Tryz.prog 75 [.int .i64 x_0] (.tup [.sl (Ar.lst Encs.eGInterval r.1) .ro, .int .i64 r.2]) := by
 unfold predicate_All_1 at h
 refine callP_of_spec cf75 okP Tryz.func75 (by rfl) (by kernel_rfl) Tryz.call75 Tryz.ntmps75 (by rfl) (by rfl) ?_;intro E H0 K hE hK
 have hO : Own Eq H0 [] H0 := .start stable_eq rfl
 cbv;refine n_call hE (g := fun r1 => .sl (Ar.lst Encs.eGInterval r1) .ro) h (fun r1 hx => c76 N  r1 hx) (.refl _) fun r1 h => ?_;cbv;have h := ret_some h;subst h;exact hK _ _ _ hO (.refl _)
def cf27 : Cf := ⟨[], [(8, 11)], [], [], [], []⟩
theorem c27 (N : Nat) (x_p : GPredicate) (x_s : GSymbol) (r : (Bool × Int)) (h : predicate_Contains N x_p x_s = some r) : CallP Tryz.prog 27 [.agg [.sl (Ar.lst Encs.eLGInterval x_p.Sets) .ro], .agg [.int .i64 x_s.Typ, .int .i64 x_s.Num]] (.tup [.bool r.1, .int .i64 r.2]) := by
 unfold predicate_Contains at h
 refine callP_of_spec cf27 okP Tryz.func27 (by rfl) (by kernel_rfl) Tryz.call27 Tryz.ntmps27 (by rfl) (by rfl) ?_;intro E H0 K hE hK
 have hO : Own Eq H0 [] H0 := .start stable_eq rfl
 cbv;refine n_call hE (g := fun r1 => .int .i64 r1) h (fun r1 hx => c68 N ([x_p]) r1 hx) (.cons (.lit _ (lst_cons ((Encs.eGPredicate_eq x_p).symm) (lst_nil))) (.refl _)) fun r1 h => ?_;cbv;refine n_br hE h (fun hc h => ?_) (fun hc h => ?_)
 ·cbv;have h := ret_some h;subst h;exact hK _ _ _ hO (.refl _)
 ·cbv;refine n_ln hE ?_;cbv;refine n_br hE h (fun hc h => ?_) (fun hc h => ?_)
  ·cbv;have h := ret_some h;subst h;exact hK _ _ _ hO (.refl _)
  ·cbv;refine n_br hE h (fun hc h => ?_) (fun hc h => ?_)
   ·cbv;have h := ret_some h;subst h;exact hK _ _ _ hO (.refl _)
   ·cbv;refine n_idx hE Encs.eLGInterval_eq h fun x2 h => ?_;cbv;refine n_pcall hE (g := fun r3 => .tup [.bool r3.1, .int .i64 r3.2]) h (fun r3 hx => c77 N x2 x_s.Num r3 hx) (.refl _) fun r3 h => ?_;cbv;have h := ret_some h;subst h;exact hK _ _ _ hO (.refl _)
def cf29 : Cf := ⟨[2, 3], [], [], [], [], []⟩
theorem c29 (N : Nat) (x_p : GPredicate) (r : (Bool × Int)) (h : predicate_Empty N x_p = some r) : CallP Tryz.prog 29 [.agg [.sl (Ar.lst Encs.eLGInterval x_p.Sets) .ro]] (.tup [.bool r.1, .int .i64 r.2]) := by
 unfold predicate_Empty at h
 refine callP_of_spec cf29 okP Tryz.func29 (by rfl) (by kernel_rfl) Tryz.call29 Tryz.ntmps29 (by rfl) (by rfl) ?_;intro E H0 K hE hK
 have hO : Own Eq H0 [] H0 := .start stable_eq rfl
 cbv;refine n_alloc hE hO fun b1 H hO => ?_;cbv;refine n_alloc hE hO fun b2 H hO => ?_;cbv;refine n_call hE (g := fun r3 => .int .i64 r3) h (fun r3 hx => c68 N ([x_p]) r3 hx) (.cons (.lit _ (lst_cons ((Encs.eGPredicate_eq x_p).symm) (lst_nil))) (.refl _)) fun r3 h => ?_;cbv;refine n_br hE h (fun hc h => ?_) (fun hc h => ?_)
 ·cbv;refine n_store hE hO 1 rfl rfl fun H hO => ?_;cbv;refine n_store hE hO 0 rfl rfl fun H hO => ?_;cbv;refine n_load hE hO 1 rfl ?_;cbv;refine n_load hE hO 0 rfl ?_;cbv;have h := ret_some h;subst h;exact hK _ _ _ hO (.refl _)
 ·cbv;refine n_callQ hE h (fun r4 hx => c79 N x_p r4 hx) (.refl _) fun r4 v5 hv5 h => ?_;cbv;obtain ⟨o10, hx, h⟩ := bind_some h;refine n_range cf29 hE okP (ι := Unit) (enc := fun (x : (Int × (List GInterval))) => [.int .i64 x.1, .sl (Ar.lst Encs.eGInterval x.2) .ro]) (fun (s7 : Unit) F H => Own Eq F [.blk b2 (.cells [.int .i64 0]), .blk b1 (.cells [.bool false])] H) (fun (r : Unit) e F H => e = .ret ∧ Own Eq F [.blk b2 (.cells [.int .i64 0]), .blk b1 (.cells [.bool false])] H) (fun i s7 y6 => [(2, .v (.ref b1 0)), (3, .v (.ref b2 0))]) (fun i s7 y6 F H => Own Eq F [.blk b2 (.cells [.int .i64 0]), .blk b1 (.cells [.bool false])] H) (fun _ => Own.stable stable_eq _) (fun _ _ => Stable.con (Own.stable stable_eq _)) (fun _ _ _ => Own.stable stable_eq _) hv5 hx (hO) (by decide) (fun _ => rfl) (by kernel_rfl) (by kernel_rfl) ?_ ?_ ?_ ?_
  ·rintro E i9 y6 s7 F8 H hE hO;clear hx h;cbv;exact ⟨(), hO, .e rfl (.e rfl (.z)), rfl⟩
  ·rintro E i9 _ y6 s7 F8 H o hE hF h hO;clear hx;cbv;refine n_store hE hO 1 rfl rfl fun H hO => ?_;cbv;refine n_store hE hO 0 rfl rfl fun H hO => ?_;cbv;have h := ret_some h;subst h;exact ⟨_, rfl, rfl, ⟨rfl, hO⟩⟩
  ·rintro d11 s13 H rfl hd hO
   have hO : Own Eq H0 [.blk b2 (.cells [.int .i64 0]), .blk b1 (.cells [.bool false]), .blk d11 DB] H := Own.dblk hd hO
   clear hd;clear hx;cbv;refine n_store hE hO 1 rfl rfl fun H hO => ?_;cbv;refine n_store hE hO 0 rfl rfl fun H hO => ?_;cbv;refine n_fin hE hO 2 rfl fun H hO => ?_;cbv;refine n_load hE hO 1 rfl ?_;cbv;refine n_load hE hO 0 rfl ?_;cbv;have h := ret_some h;subst h;exact hK _ _ _ hO (.refl _)
  ·rintro d11 y14 e H rfl hd hX;clear hx
   rcases hX with ⟨rfl, hO⟩
   have hO : Own Eq H0 [.blk b2 (.cells [.int .i64 0]), .blk b1 (.cells [.bool false]), .blk d11 DB] H := Own.dblk hd hO
   clear hd;cbv;refine n_fin hE hO 2 rfl fun H hO => ?_;cbv;refine n_load hE hO 1 rfl ?_;cbv;refine n_load hE hO 0 rfl ?_;cbv;have h := ret_some h;subst h;exact hK _ _ _ hO (.refl _)
def cf84 : Cf := ⟨[], [(1, 10)], [], [], [], []⟩
theorem c84 (N : Nat) (x_p : GPredicate) (x_1 : List GPredicate) (r : Bool) (h : law27_good_1 N x_p x_1 = some r) : CallP Tryz.prog 84 [.agg [.sl (Ar.lst Encs.eLGInterval x_p.Sets) .ro], .eref [.sl (Ar.lst Encs.eGPredicate x_1) .ro] 0] (.bool r) := by
 unfold law27_good_1 at h
 refine callP_of_spec cf84 okP Tryz.func84 (by rfl) (by kernel_rfl) Tryz.call84 Tryz.ntmps84 (by rfl) (by rfl) ?_;intro E H0 K hE hK
 have hO : Own Eq H0 [] H0 := .start stable_eq rfl
 cbv;refine n_pcall hE (g := fun r1 => .bool r1) h (fun r1 hx => c13 N x_p r1 hx) (.refl _) fun r1 h => ?_;cbv;refine n_br hE h (fun hc h => ?_) (fun hc h => ?_)
 ·cbv;have h := ret_some h;subst h;exact hK _ _ _ hO (.refl _)
 ·cbv;refine n_idx hE Encs.eGPredicate_eq h fun x2 h => ?_;cbv;refine n_ln hE ?_;cbv;refine n_call hE (g := fun r3 => .int .i64 r3) h (fun r3 hx => c34 N (Ar.len x2.Sets) x_p r3 hx) (.refl _) fun r3 h => ?_;cbv;have h := ret_some h;subst h;exact hK _ _ _ hO (.refl _)
def cf35 : Cf := ⟨[], [], [], [], [], []⟩
theorem c35 (N : Nat) (x_l : List GPredicate) (r : Bool) (h : law27_good N x_l = some r) : CallP Tryz.prog 35 [.sl (Ar.lst Encs.eGPredicate x_l) .ro] (.bool r) := by
 unfold law27_good at h
 refine callP_of_spec cf35 okP Tryz.func35 (by rfl) (by kernel_rfl) Tryz.call35 Tryz.ntmps35 (by rfl) (by rfl) ?_;intro E H0 K hE hK
 have hO : Own Eq H0 [] H0 := .start stable_eq rfl
 cbv;refine n_call hE (g := fun r1 => .bool r1) h (fun r1 hx => c11 N x_l (.func (.func 84) [] [.eref [.sl (Ar.lst Encs.eGPredicate x_l) .ro] 0]) (fun y1 => law27_good_1 N y1 x_l) (fun y1 r hx => CallP.value (F := []) (C := [.eref [.sl (Ar.lst Encs.eGPredicate x_l) .ro] 0]) (c84 N y1 x_l r hx)) r1 hx) (.refl _) fun r1 h => ?_;cbv;have h := ret_some h;subst h;exact hK _ _ _ hO (.refl _)
end Go.Ab

