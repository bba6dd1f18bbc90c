/- GRCo4 -/
import Derived.Test.YtbjdkpckplopdaaT35
set_option linter.all false

namespace Go.Ab
open Go.RowKit Go.Proofs
variable [Ar] [Encs]
set_option maxRecDepth 100000
def cf17 : Cf := ⟨[], [], [], [], [], []⟩
theorem c17 (N : Nat) (x_env : GEnv) (r : Bool) (h : ref08_FewEnv N x_env = some r) : CallP Try.prog 17 [.agg [.sl (Ar.lst Encs.eLGEvent x_env.Vars) .ro]] (.bool r) := by
 unfold ref08_FewEnv at h
 refine callP_of_spec cf17 okP Try.func17 (by rfl) (by kernel_rfl) Try.call17 Try.ntmps17 (by rfl) (by rfl) ?_;intro E H0 K hE hK
 have hO : Own Eq H0 [] H0 := .start stable_eq rfl
 cbv;obtain ⟨s2, hx, h⟩ := bind_some h;refine n_loopN cf17 hE okP (fun s1 => [(1, .v (.eref [.sl (Ar.lst Encs.eLGEvent x_env.Vars) .ro] 0)), (3, .v (.int .i64 s1))]) (fun s1 H1 => Own Eq H0 [] H1) (fun x e l H1 => match (generalizing := false) x with | .inl y => e = .exit 0 ∧ l = [(1, .v (.eref [.sl (Ar.lst Encs.eLGEvent x_env.Vars) .ro] 0))] ∧ Own Eq H0 [] H1 | .inr y => e = .ret ∧ l = [(2, .b false)] ∧ Own Eq H0 [] H1) (by kernel_rfl) ?_ hx ?_ hO ?_
 ·intro s1 H o hO h;clear hx;cbv;refine n_ln hE ?_;cbv;refine n_br hE h (fun hc h => ?_) (fun hc h => ?_)
  ·cbv;refine n_idx hE Encs.eLGEvent_eq h fun x3 h => ?_;cbv;refine n_ln hE ?_;cbv;refine n_br hE h (fun hc h => ?_) (fun hc h => ?_)
   ·cbv;have h := ret_some h;subst h;exact ⟨_, _, rfl, ⟨rfl, rfl, hO⟩, .b rfl (.z), rfl⟩
   ·cbv;obtain ⟨s5, hx, h⟩ := bind_some h;refine n_loopN cf17 hE okP (fun s4 => [(1, .v (.eref [.sl (Ar.lst Encs.eLGEvent x_env.Vars) .ro] 0)), (3, .v (.int .i64 s1)), (4, .v (.int .i64 s4))]) (fun s4 H1 => Own Eq H0 [] H1) (fun x e l H1 => match (generalizing := false) x with | .inl y => e = .exit 2 ∧ l = [(1, .v (.eref [.sl (Ar.lst Encs.eLGEvent x_env.Vars) .ro] 0)), (3, .v (.int .i64 s1))] ∧ Own Eq H0 [] H1 | .inr y => e = .ret ∧ l = [(2, .b false)] ∧ Own Eq H0 [] H1) (by kernel_rfl) ?_ hx ?_ hO ?_
    ·intro s4 H o hO h;clear hx;cbv;refine n_idx hE Encs.eLGEvent_eq h fun x6 h => ?_;cbv;refine n_ln hE ?_;cbv;refine n_br hE h (fun hc h => ?_) (fun hc h => ?_)
     ·cbv;refine n_idx hE Encs.eLGEvent_eq h fun x7 h => ?_;cbv;refine n_idx hE Encs.eGEvent_eq h fun x8 h => ?_;cbv;refine n_ln hE ?_;cbv;refine n_br hE h (fun hc h => ?_) (fun hc h => ?_)
      ·cbv;have h := ret_some h;subst h;exact ⟨_, _, rfl, ⟨rfl, rfl, hO⟩, .b rfl (.z), rfl⟩
      ·cbv;have h := ret_some h;subst h;exact ⟨_, rfl, .e rfl (.e rfl (.e rfl (.z))), rfl, hO⟩
     ·cbv;have h := ret_some h;subst h;exact ⟨_, _, rfl, ⟨rfl, rfl, hO⟩, .e rfl (.e rfl (.z)), rfl⟩
    ·exact .e rfl (.e rfl (.e rfl (.z)))
    ·clear hx
     rcases s5 with y9 | y10
     ·rintro e l H ⟨rfl, rfl, hO⟩;cbv;have h := ret_some h;subst h;exact ⟨_, rfl, .e rfl (.e rfl (.z)), rfl, hO⟩
     ·rintro e l H ⟨rfl, rfl, hO⟩;cbv;have h := ret_some h;subst h;exact ⟨_, _, rfl, ⟨rfl, rfl, hO⟩, .b rfl (.z), rfl⟩
  ·cbv;have h := ret_some h;subst h;exact ⟨_, _, rfl, ⟨rfl, rfl, hO⟩, .e rfl (.z), rfl⟩
 ·exact .e rfl (.e rfl (.z))
 ·clear hx
  rcases s2 with y11 | y12
  ·rintro e l H ⟨rfl, rfl, hO⟩;cbv;refine n_ln hE ?_;cbv;have h := ret_some h;subst h;exact hK _ _ _ hO (.refl _)
  ·rintro e l H ⟨rfl, rfl, hO⟩;cbv;have h := ret_some h;subst h;exact hK _ _ _ hO (.refl _)
def cf28 : Cf := ⟨[], [(9, 11)], [], [], [], []⟩
theorem c28 (N : Nat) (x_l : List GNeed) (r : Int) (h : ref26_Check N x_l = some r) : CallP Try.prog 28 [.sl (Ar.lst Encs.eGNeed x_l) .ro] (.int .i64 r) := by
 unfold ref26_Check at h
 refine callP_of_spec cf28 okP Try.func28 (by rfl) (by kernel_rfl) Try.call28 Try.ntmps28 (by rfl) (by rfl) ?_;intro E H0 K hE hK
 have hO : Own Eq H0 [] H0 := .start stable_eq rfl
 cbv;refine n_ln hE ?_;cbv;refine n_br hE h (fun hc h => ?_) (fun hc h => ?_)
 ·cbv;have h := ret_some h;subst h;exact hK _ _ _ hO (.refl _)
 ·cbv;obtain ⟨s2, hx, h⟩ := bind_some h;refine n_loopN cf28 hE okP (fun s1 => [(0, .v (.sl (Ar.lst Encs.eGNeed x_l) .ro)), (3, .v (.int .i64 s1))]) (fun s1 H1 => Own Eq H0 [] H1) (fun x e l H1 => match (generalizing := false) x with | .inl y => e = .exit 0 ∧ l = [] ∧ Own Eq H0 [] H1 | .inr y => e = .ret ∧ l = [(2, .v (.int .i64 y))] ∧ Own Eq H0 [] H1) (by kernel_rfl) ?_ hx ?_ hO ?_
  ·intro s1 H o hO h;clear hx;cbv;refine n_ln hE ?_;cbv;refine n_br hE h (fun hc h => ?_) (fun hc h => ?_)
   ·cbv;refine n_idx hE Encs.eGNeed_eq h fun x3 h => ?_;cbv;refine n_br hE h (fun hc h => ?_) (fun hc h => ?_)
    ·cbv;have h := ret_some h;subst h;exact ⟨_, _, rfl, ⟨rfl, rfl, hO⟩, .e rfl (.z), rfl⟩
    ·cbv;refine n_br hE h (fun hc h => ?_) (fun hc h => ?_)
     ·cbv;refine n_idx hE Encs.eGNeed_eq h fun x4 h => ?_;cbv;refine n_br hE h (fun hc h => ?_) (fun hc h => ?_)
      ·cbv;have h := ret_some h;subst h;exact ⟨_, _, rfl, ⟨rfl, rfl, hO⟩, .e rfl (.z), rfl⟩
      ·cbv;refine n_br hE h (fun hc h => ?_) (fun hc h => ?_)
       ·cbv;have h := ret_some h;subst h;exact ⟨_, _, rfl, ⟨rfl, rfl, hO⟩, .e rfl (.z), rfl⟩
       ·cbv;have h := ret_some h;subst h;exact ⟨_, rfl, .e rfl (.e rfl (.z)), rfl, hO⟩
     ·cbv;refine n_br hE h (fun hc h => ?_) (fun hc h => ?_)
      ·cbv;have h := ret_some h;subst h;exact ⟨_, _, rfl, ⟨rfl, rfl, hO⟩, .e rfl (.z), rfl⟩
      ·cbv;have h := ret_some h;subst h;exact ⟨_, rfl, .e rfl (.e rfl (.z)), rfl, hO⟩
   ·cbv;have h := ret_some h;subst h;exact ⟨_, _, rfl, ⟨rfl, rfl, hO⟩, .z, rfl⟩
  ·exact .e rfl (.e rfl (.z))
  ·clear hx
   rcases s2 with y5 | y6
   ·rintro e l H ⟨rfl, rfl, hO⟩;cbv;have h := ret_some h;subst h;exact hK _ _ _ hO (.refl _)
   ·rintro e l H ⟨rfl, rfl, hO⟩;cbv;have h := ret_some h;subst h;exact hK _ _ _ hO (.refl _)
def cf71 : Cf := ⟨[6, 7, 9], [], [(10, 4), (30, 10)], [], [], []⟩
theorem c71 (N : Nat) (x_e : GEvent) (x_keep : Int) (x_time : Bool) (r : GEvent) (h : ref26_event N x_e x_keep x_time = some r) : CallP Try.prog 71 [.agg [.int .i64 x_e.Source, .int .i64 x_e.Seq, .int .i64 x_e.Typ, .int .i64 x_e.Time, .sl (Ar.lst Encs.eGValue x_e.Values) .ro], .int .i64 x_keep, .bool x_time] (.agg [.int .i64 r.Source, .int .i64 r.Seq, .int .i64 r.Typ, .int .i64 r.Time, .sl (Ar.lst Encs.eGValue r.Values) .ro]) := by
 unfold ref26_event at h
 refine callP_of_spec cf71 okP Try.func71 (by rfl) (by kernel_rfl) Try.call71 Try.ntmps71 (by rfl) (by rfl) ?_;intro E H0 K hE hK
 have hO : Own Eq H0 [] H0 := .start stable_eq rfl
 cbv;refine n_alloc hE hO fun b1 H hO => ?_;cbv;refine n_alloc hE hO fun b2 H hO => ?_;cbv;obtain ⟨s3, hx, h⟩ := bind_some h;refine n_join cf71 hE okP (fun e l H1 => e = .normal ∧ l = [(1, .v (.int .i64 x_keep)), (3, .v (.eref [.int .i64 x_e.Source, .int .i64 x_e.Seq, .int .i64 x_e.Typ, .int .i64 x_e.Time, .sl (Ar.lst Encs.eGValue x_e.Values) .ro] 0)), (6, .v (.ref b1 0)), (7, .v (.ref b2 0))] ∧ Own Eq H0 [.blk b2 (.cells [.int .i64 s3.Source, .int .i64 s3.Seq, .int .i64 s3.Typ, .int .i64 s3.Time, .sl [] .nil]), .blk b1 (.cells [.int .i64 0, .int .i64 0, .int .i64 0, .int .i64 0, .sl [] .nil])] H1) (by kernel_rfl) ?_ ?_
 ·clear h;have h := hx;clear hx;cbv;refine n_br hE h (fun hc h => ?_) (fun hc h => ?_)
  ·cbv;refine n_store hE hO 0 rfl rfl fun H hO => ?_;cbv;have h := ret_some h;subst h;exact ⟨_, ⟨rfl, rfl, hO⟩, .e rfl (.e rfl (.e rfl (.e rfl (.z)))), rfl⟩
  ·cbv;have h := ret_some h;subst h;exact ⟨_, ⟨rfl, rfl, hO⟩, .e rfl (.e rfl (.e rfl (.e rfl (.z)))), rfl⟩
 ·clear hx;rintro e l H ⟨rfl, rfl, hO⟩;cbv;replace hO := hO.cast (L' := [.blk b2 (.cells [.int .i64 s3.Source, .int .i64 s3.Seq, .int .i64 s3.Typ, .int .i64 s3.Time, .sl (Ar.lst Encs.eGValue ([])) .nil]), .blk b1 (.cells [.int .i64 0, .int .i64 0, .int .i64 0, .int .i64 0, .sl [] .nil])]) (by first | (simp only [← lst_nil]; done) | (simp only [← lst_nil]; rfl));replace hO := hO.tl0 (t := .nil) rfl;obtain ⟨s6, hx, h⟩ := bind_some h;refine n_loopG cf71 hE okP (γ := Tail) (fun s4 g => [(1, .v (.int .i64 x_keep)), (3, .v (.eref [.int .i64 x_e.Source, .int .i64 x_e.Seq, .int .i64 x_e.Typ, .int .i64 x_e.Time, .sl (Ar.lst Encs.eGValue x_e.Values) .ro] 0)), (6, .v (.ref b1 0)), (7, .v (.ref b2 0)), (8, .v (.int .i64 s4.1))]) (fun s4 g H1 => Appn g ∧ Own Eq H0 [.tl g, .blk b2 (.cells [.int .i64 s4.2.Source, .int .i64 s4.2.Seq, .int .i64 s4.2.Typ, .int .i64 s4.2.Time, .sl (Ar.lst Encs.eGValue s4.2.Values) g]), .blk b1 (.cells [.int .i64 0, .int .i64 0, .int .i64 0, .int .i64 0, .sl [] .nil])] H1) (fun x e l H1 => ∃ u1 : Tail, Appn u1 ∧ e = .exit 0 ∧ l = [(6, .v (.ref b1 0)), (7, .v (.ref b2 0))] ∧ Own Eq H0 [.tl u1, .blk b2 (.cells [.int .i64 x.Source, .int .i64 x.Seq, .int .i64 x.Typ, .int .i64 x.Time, .sl (Ar.lst Encs.eGValue x.Values) u1]), .blk b1 (.cells [.int .i64 0, .int .i64 0, .int .i64 0, .int .i64 0, .sl [] .nil])] H1) (by kernel_rfl) ?_ .nil hx ?_ ?_ ?_
  ·rintro s4 t5 H o ⟨ht5, hO⟩ h;clear hx;cbv;refine n_ln hE ?_;cbv;refine n_br hE h (fun hc h => ?_) (fun hc h => ?_)
   ·cbv;refine n_alloc hE hO fun b7 H hO => ?_;cbv;refine n_store hE hO 0 rfl rfl fun H hO => ?_;cbv;refine n_br hE h (fun hc h => ?_) (fun hc h => ?_)
    ·cbv;refine n_needB hE h fun h => ?_;cbv;obtain ⟨s8, hx, h⟩ := bind_some h;refine n_join cf71 hE okP (fun e l H1 => e = .normal ∧ l = [(1, .v (.int .i64 x_keep)), (3, .v (.eref [.int .i64 x_e.Source, .int .i64 x_e.Seq, .int .i64 x_e.Typ, .int .i64 x_e.Time, .sl (Ar.lst Encs.eGValue x_e.Values) .ro] 0)), (6, .v (.ref b1 0)), (7, .v (.ref b2 0)), (8, .v (.int .i64 s4.1)), (9, .v (.ref b7 0))] ∧ Own Eq H0 [.blk b7 (.cells [.int .i64 s8.Kind, .int .i64 s8.Num, .str s8.Text]), .tl t5, .blk b2 (.cells [.int .i64 s4.2.Source, .int .i64 s4.2.Seq, .int .i64 s4.2.Typ, .int .i64 s4.2.Time, .sl (Ar.lst Encs.eGValue s4.2.Values) t5]), .blk b1 (.cells [.int .i64 0, .int .i64 0, .int .i64 0, .int .i64 0, .sl [] .nil])] H1) (by kernel_rfl) ?_ ?_
     ·clear h;have h := hx;clear hx;cbv;refine n_br hE h (fun hc h => ?_) (fun hc h => ?_)
      ·cbv;refine n_idx hE Encs.eGValue_eq h fun x9 h => ?_;cbv;refine n_store hE hO 0 rfl rfl fun H hO => ?_;cbv;have h := ret_some h;subst h;exact ⟨_, ⟨rfl, rfl, hO⟩, .e rfl (.e rfl (.e rfl (.e rfl (.e rfl (.e rfl (.z)))))), rfl⟩
      ·cbv;have h := ret_some h;subst h;exact ⟨_, ⟨rfl, rfl, hO⟩, .e rfl (.e rfl (.e rfl (.e rfl (.e rfl (.e rfl (.z)))))), rfl⟩
     ·clear hx;rintro e l H ⟨rfl, rfl, hO⟩;cbv;refine n_load hE hO 2 rfl ?_;cbv;refine n_load hE hO 0 rfl ?_;cbv;refine n_appn (f := Encs.eGValue) hE sz_GValue (by decide) hO 1 rfl ht5 (l := s4.2.Values) (m := [s8]) (.refl _) (.lstc (.eq (Encs.eGValue_eq s8) (.refl _)) (.lst0)) h fun l11 t10 H hO ht10 h => ?_;cbv;refine n_store hE hO 2 rfl rfl fun H hO => ?_;cbv;have h := ret_some h;subst h;exact ⟨_, t10, rfl, .e rfl (.e rfl (.e rfl (.e rfl (.e rfl (.z))))), rfl, ht10, hO.tail⟩
    ·cbv;refine n_thru cf71 hE okP (by kernel_rfl) ?_;cbv;refine n_load hE hO 2 rfl ?_;cbv;refine n_load hE hO 0 rfl ?_;cbv;refine n_appn (f := Encs.eGValue) hE sz_GValue (by decide) hO 1 rfl ht5 (l := s4.2.Values) (m := [(⟨0, 0, ⟨#[]⟩⟩ : GValue)]) (.refl _) (.lstc (.eq (Encs.eGValue_eq (⟨0, 0, ⟨#[]⟩⟩ : GValue)) (.refl _)) (.lst0)) h fun l13 t12 H hO ht12 h => ?_;cbv;refine n_store hE hO 2 rfl rfl fun H hO => ?_;cbv;have h := ret_some h;subst h;exact ⟨_, t12, rfl, .e rfl (.e rfl (.e rfl (.e rfl (.e rfl (.z))))), rfl, ht12, hO.tail⟩
   ·cbv;have h := ret_some h;subst h;exact ⟨_, _, rfl, ⟨t5, ht5, rfl, rfl, hO⟩, .e rfl (.e rfl (.z)), rfl⟩
  ·exact .e rfl (.e rfl (.e rfl (.e rfl (.e rfl (.z)))))
  ·exact ⟨trivial, hO⟩
  ·clear hx;rintro e l H ⟨t14, ht14, rfl, rfl, hO⟩;cbv;refine n_load hE hO 1 rfl ?_;cbv;refine n_store hE hO 2 rfl rfl fun H hO => ?_;cbv;refine n_load hE hO 2 rfl ?_;cbv;have h := ret_some h;subst h;exact hK _ _ _ hO (.agg (.cons (.refl _) (.cons (.refl _) (.cons (.refl _) (.cons (.refl _) (.cons (.ro _ _) (.refl _)))))))
def cf46 : Cf := ⟨[4, 5, 3000068, 3000094, 8000068, 8000094, 9000068, 9000094], [(5, 10), (12, 17), (13, 25)], [], [], [(96, 1000005)], []⟩
theorem c46 (N : Nat) (x_l : List GNeed) (x_env : GEnv) (r : GEnv) (h : ref26_Kept N x_l x_env = some r) : CallP Try.prog 46 [.sl (Ar.lst Encs.eGNeed x_l) .ro, .agg [.sl (Ar.lst Encs.eLGEvent x_env.Vars) .ro]] (.agg [.sl (Ar.lst Encs.eLGEvent r.Vars) .ro]) := by
 unfold ref26_Kept at h
 refine callP_of_spec cf46 okP Try.func46 (by rfl) (by kernel_rfl) Try.call46 Try.ntmps46 (by rfl) (by rfl) ?_;intro E H0 K hE hK
 have hO : Own Eq H0 [] H0 := .start stable_eq rfl
 cbv;refine n_alloc hE hO fun b1 H hO => ?_;cbv;refine n_ln hE ?_;cbv;refine n_rmk hE (f := Encs.eGEvent) (by decide) hO 1 h fun l3 w2 H hw2 h hO => ?_
 have hO : Own Eq H0 (.blk w2.q.id (.arr 1 (w2.q.pre ++ Ar.lst (cellV Encs.eGEvent) w2.row ++ w2.q.rest)) :: .blk b1 (.cells [.sl [] .nil]) :: (rtok w2 ++ [])) H := hO
 cbv;refine n_alloc hE hO fun b4 H hO => ?_;cbv;refine n_store hE hO 0 rfl rfl fun H hO => ?_;cbv;obtain ⟨s7, hx, h⟩ := bind_some h;refine n_loopG cf46 hE okP (γ := Rw GEvent) (fun s5 g => [(0, .v (.sl (Ar.lst Encs.eGNeed x_l) .ro)), (3, .v (.eref [.sl (Ar.lst Encs.eLGEvent x_env.Vars) .ro] 0)), (4, .v (.ref b1 0)), (5, .v (.ref b4 0)), (6, .v (.int .i64 s5.1))]) (fun s5 g H1 => RowsOk g s5.2 ∧ Own Eq H0 (.blk b4 (.cells [.own g.q.id g.q.lo g.q.n]) :: .blk g.q.id (.arr 1 (g.q.pre ++ Ar.lst (cellV Encs.eGEvent) g.row ++ g.q.rest)) :: .blk b1 (.cells [.sl [] .nil]) :: (rtok g ++ [])) H1) (fun x e l H1 => ∃ u1 : Rw GEvent, RowsOk u1 x ∧ e = .exit 0 ∧ l = [(4, .v (.ref b1 0)), (5, .v (.ref b4 0))] ∧ Own Eq H0 (.blk b4 (.cells [.own u1.q.id u1.q.lo u1.q.n]) :: .blk u1.q.id (.arr 1 (u1.q.pre ++ Ar.lst (cellV Encs.eGEvent) u1.row ++ u1.q.rest)) :: .blk b1 (.cells [.sl [] .nil]) :: (rtok u1 ++ [])) H1) (by kernel_rfl) ?_ w2 hx ?_ ?_ ?_
 ·rintro s5 w6 H o ⟨hw6, hO⟩ h;clear hx;cbv;refine n_ln hE ?_;cbv;refine n_br hE h (fun hc h => ?_) (fun hc h => ?_)
  ·cbv;refine n_pcall hE (g := fun r8 => .agg [.int .i64 r8.Var, .int .i64 r8.Last, .int .i64 r8.All]) h (fun r8 hx => c70 N x_l s5.1 r8 hx) (.refl _) fun r8 h => ?_;cbv;refine n_idx hE Encs.eLGEvent_eq h fun x9 h => ?_;cbv;refine n_br hE h (fun hc h => ?_) (fun hc h => ?_)
   ·cbv;have h := ret_some h;subst h;exact ⟨_, w6, rfl, .e rfl (.e rfl (.e rfl (.e rfl (.e rfl (.z))))), rfl, hw6, hO⟩
   ·cbv;obtain ⟨s12, hx, h⟩ := bind_some h;refine n_loopG cf46 hE okP (γ := Rw GEvent) (fun s10 g => [(0, .v (.sl (Ar.lst Encs.eGNeed x_l) .ro)), (3, .v (.eref [.sl (Ar.lst Encs.eLGEvent x_env.Vars) .ro] 0)), (4, .v (.ref b1 0)), (5, .v (.ref b4 0)), (6, .v (.int .i64 s5.1)), (7, .v (.eref [.int .i64 r8.Var, .int .i64 r8.Last, .int .i64 r8.All] 0)), (8, .v (.sl (Ar.lst Encs.eGEvent x9) .ro)), (9, .v (.int .i64 s10.1))]) (fun s10 g H1 => RowsOk g s10.2 ∧ Own Eq H0 (.blk b4 (.cells [.own g.q.id g.q.lo g.q.n]) :: .blk g.q.id (.arr 1 (g.q.pre ++ Ar.lst (cellV Encs.eGEvent) g.row ++ g.q.rest)) :: .blk b1 (.cells [.sl [] .nil]) :: (rtok g ++ [])) H1) (fun x e l H1 => ∃ u1 : Rw GEvent, RowsOk u1 x ∧ e = .exit 2 ∧ l = [(0, .v (.sl (Ar.lst Encs.eGNeed x_l) .ro)), (3, .v (.eref [.sl (Ar.lst Encs.eLGEvent x_env.Vars) .ro] 0)), (4, .v (.ref b1 0)), (5, .v (.ref b4 0)), (6, .v (.int .i64 s5.1))] ∧ Own Eq H0 (.blk b4 (.cells [.own u1.q.id u1.q.lo u1.q.n]) :: .blk u1.q.id (.arr 1 (u1.q.pre ++ Ar.lst (cellV Encs.eGEvent) u1.row ++ u1.q.rest)) :: .blk b1 (.cells [.sl [] .nil]) :: (rtok u1 ++ [])) H1) (by kernel_rfl) ?_ w6 hx ?_ ?_ ?_
    ·rintro s10 w11 H o ⟨hw11, hO⟩ h;clear hx;cbv;refine n_ln hE ?_;cbv;refine n_br hE h (fun hc h => ?_) (fun hc h => ?_)
     ·cbv;refine n_ln hE ?_;cbv;refine n_br hE h (fun hc h => ?_) (fun hc h => ?_)
      ·cbv;refine n_br hE h (fun hc h => ?_) (fun hc h => ?_)
       ·cbv;obtain ⟨x13, hxx13, h⟩ := bind_some h
        obtain ⟨hjx13, t14, hrx13, hax13⟩ := hw11.at hxx13
        obtain ⟨Rx13, hO, hbx13⟩ := hO.rtake (w := w11) (T1 := []) (T2 := []) 3 rfl hrx13;refine n_takeT hE hO 0 rfl hax13 fun H hO => ?_;cbv;refine n_load hE hO 1 rfl ?_;cbv;refine n_load hE hO 1 rfl ?_;cbv;refine f_oidx hE (f := cellV Encs.eGEvent) hO hw11.ok 2 rfl hjx13 ?_;cbv;refine f_oload hE (f := cellV Encs.eGEvent) (fun _ => rfl) hO hw11.ok 2 rfl hjx13.1 hrx13 ?_;cbv;refine n_idx hE Encs.eGEvent_eq h fun x18 h => ?_;cbv;refine n_pcall hE (g := fun r19 => .agg [.int .i64 r19.Source, .int .i64 r19.Seq, .int .i64 r19.Typ, .int .i64 r19.Time, .sl (Ar.lst Encs.eGValue r19.Values) .ro]) h (fun r19 hx => c71 N x18 r8.All false r19 hx) (.refl _) fun r19 h => ?_;cbv;refine n_need hE trivial ?_;cbv;refine n_appq (f := Encs.eGEvent) hE sz_GEvent (by decide) (l := x13) (m := [r19]) (.refl _) (.lstc (.eq (Encs.eGEvent_eq r19) (.refl _)) (.lst0)) h fun l20 h => ?_;cbv;refine n_nameT hE hO 0 rfl fun t15 H hO htt15 => ?_;cbv;refine f_oidx hE (f := cellV Encs.eGEvent) hO hw11.ok 2 rfl hjx13 ?_;cbv;refine f_ostore hE (f := cellV Encs.eGEvent) (tz := 1) (x' := (l20, t15)) (fun _ => ⟨.sl (Ar.lst Encs.eGEvent l20) t15, .refl _, rfl, rfl, rfl⟩) (by decide) hO hw11.ok 2 rfl hjx13 fun H hO => ?_;cbv;obtain ⟨l17, hu, h⟩ := bind_some h;obtain ⟨w16, hqw16, hw16, hO⟩ : ∃ w0 : Rw GEvent, w0.q = w11.q ∧ RowsOk w0 l17 ∧ Own Eq H0 (.blk b4 (.cells [.own w0.q.id w0.q.lo w0.q.n]) :: .blk w0.q.id (.arr 1 (w0.q.pre ++ Ar.lst (cellV Encs.eGEvent) w0.row ++ w0.q.rest)) :: .blk b1 (.cells [.sl [] .nil]) :: (rtok w0 ++ [])) H := ⟨(⟨w11.q, w11.row.set (s5.1).toNat (l20, t15)⟩ : Rw GEvent), rfl, by rw [updL_put hu]; exact hw11.put _ htt15, (by have e := hbx13 (l20, t15) H [.blk b4 (.cells [.own w11.q.id w11.q.lo w11.q.n]), .blk w11.q.id (.arr 1 (w11.q.pre ++ Ar.lst (cellV Encs.eGEvent) (w11.row.set (s5.1).toNat (l20, t15)) ++ w11.q.rest)), .blk b1 (.cells [.sl [] .nil])] hO; simp only [List.cons_append, List.nil_append, List.append_nil] at e ⊢; exact e)⟩
        try rw [← hqw16]
        have h := ret_some h;subst h;exact ⟨_, w16, rfl, .e rfl (.e rfl (.e rfl (.e rfl (.e rfl (.e rfl (.e rfl (.e rfl (.z)))))))), rfl, hw16, hO⟩
       ·cbv;have h := ret_some h;subst h;exact ⟨_, w11, rfl, .e rfl (.e rfl (.e rfl (.e rfl (.e rfl (.e rfl (.e rfl (.e rfl (.z)))))))), rfl, hw11, hO⟩
      ·cbv;obtain ⟨x21, hxx21, h⟩ := bind_some h
       obtain ⟨hjx21, t22, hrx21, hax21⟩ := hw11.at hxx21
       obtain ⟨Rx21, hO, hbx21⟩ := hO.rtake (w := w11) (T1 := []) (T2 := []) 3 rfl hrx21;refine n_takeT hE hO 0 rfl hax21 fun H hO => ?_;cbv;refine n_load hE hO 1 rfl ?_;cbv;refine n_load hE hO 1 rfl ?_;cbv;refine f_oidx hE (f := cellV Encs.eGEvent) hO hw11.ok 2 rfl hjx21 ?_;cbv;refine f_oload hE (f := cellV Encs.eGEvent) (fun _ => rfl) hO hw11.ok 2 rfl hjx21.1 hrx21 ?_;cbv;refine n_idx hE Encs.eGEvent_eq h fun x26 h => ?_;cbv;refine n_needT hE (cmp_true hE rfl) ?_;cbv;refine n_pcall hE (g := fun r27 => .agg [.int .i64 r27.Source, .int .i64 r27.Seq, .int .i64 r27.Typ, .int .i64 r27.Time, .sl (Ar.lst Encs.eGValue r27.Values) .ro]) h (fun r27 hx => c71 N x26 (Ar.ar .or .i64 r8.All r8.Last) (Ar.cmp .eql (Ar.ar .and .i64 (Ar.sh .shr .i64 r8.Last 8) 1) 1) r27 hx) (.refl _) fun r27 h => ?_;cbv;refine n_need hE trivial ?_;cbv;refine n_appq (f := Encs.eGEvent) hE sz_GEvent (by decide) (l := x21) (m := [r27]) (.refl _) (.lstc (.eq (Encs.eGEvent_eq r27) (.refl _)) (.lst0)) h fun l28 h => ?_;cbv;refine n_nameT hE hO 0 rfl fun t23 H hO htt23 => ?_;cbv;refine f_oidx hE (f := cellV Encs.eGEvent) hO hw11.ok 2 rfl hjx21 ?_;cbv;refine f_ostore hE (f := cellV Encs.eGEvent) (tz := 1) (x' := (l28, t23)) (fun _ => ⟨.sl (Ar.lst Encs.eGEvent l28) t23, .refl _, rfl, rfl, rfl⟩) (by decide) hO hw11.ok 2 rfl hjx21 fun H hO => ?_;cbv;obtain ⟨l25, hu, h⟩ := bind_some h;obtain ⟨w24, hqw24, hw24, hO⟩ : ∃ w0 : Rw GEvent, w0.q = w11.q ∧ RowsOk w0 l25 ∧ Own Eq H0 (.blk b4 (.cells [.own w0.q.id w0.q.lo w0.q.n]) :: .blk w0.q.id (.arr 1 (w0.q.pre ++ Ar.lst (cellV Encs.eGEvent) w0.row ++ w0.q.rest)) :: .blk b1 (.cells [.sl [] .nil]) :: (rtok w0 ++ [])) H := ⟨(⟨w11.q, w11.row.set (s5.1).toNat (l28, t23)⟩ : Rw GEvent), rfl, by rw [updL_put hu]; exact hw11.put _ htt23, (by have e := hbx21 (l28, t23) H [.blk b4 (.cells [.own w11.q.id w11.q.lo w11.q.n]), .blk w11.q.id (.arr 1 (w11.q.pre ++ Ar.lst (cellV Encs.eGEvent) (w11.row.set (s5.1).toNat (l28, t23)) ++ w11.q.rest)), .blk b1 (.cells [.sl [] .nil])] hO; simp only [List.cons_append, List.nil_append, List.append_nil] at e ⊢; exact e)⟩
       try rw [← hqw24]
       have h := ret_some h;subst h;exact ⟨_, w24, rfl, .e rfl (.e rfl (.e rfl (.e rfl (.e rfl (.e rfl (.e rfl (.e rfl (.z)))))))), rfl, hw24, hO⟩
     ·cbv;have h := ret_some h;subst h;exact ⟨_, _, rfl, ⟨w11, hw11, rfl, rfl, hO⟩, .e rfl (.e rfl (.e rfl (.e rfl (.e rfl (.z))))), rfl⟩
    ·exact .e rfl (.e rfl (.e rfl (.e rfl (.e rfl (.e rfl (.e rfl (.e rfl (.z))))))))
    ·exact ⟨hw6, hO⟩
    ·clear hx;rintro e l H ⟨w29, hw29, rfl, rfl, hO⟩;cbv;have h := ret_some h;subst h;exact ⟨_, w29, rfl, .e rfl (.e rfl (.e rfl (.e rfl (.e rfl (.z))))), rfl, hw29, hO⟩
  ·cbv;have h := ret_some h;subst h;exact ⟨_, _, rfl, ⟨w6, hw6, rfl, rfl, hO⟩, .e rfl (.e rfl (.z)), rfl⟩
 ·exact .e rfl (.e rfl (.e rfl (.e rfl (.e rfl (.z)))))
 ·exact ⟨hw2, hO⟩
 ·clear hx;rintro e l H ⟨w30, hw30, rfl, rfl, hO⟩;cbv;refine n_rfrzIn hE (e := Encs.eLGEvent) Encs.eLGEvent_eq hO hw30 0 1 rfl rfl rfl (by decide) fun H hO => ?_
  have hO : Own Eq H0 [.blk b4 (.cells [.sl (Ar.lst Encs.eLGEvent s7) .ro]), .blk b1 (.cells [.sl [] .nil])] H := hO.rdrop (w := w30) (T1 := []) (T2 := []) 2 rfl
  cbv;refine n_load hE hO 0 rfl ?_;cbv;refine n_store hE hO 1 rfl rfl fun H hO => ?_;cbv;refine n_load hE hO 1 rfl ?_;cbv;have h := ret_some h;subst h;exact hK _ _ _ hO (.refl _)
def cf19 : Cf := ⟨[4], [], [], [], [], []⟩
theorem c19 (N : Nat) (x_l : List GNeed) (x_env : GEnv) (r : (GEnv × Int)) (h : ref26_Reduce N x_l x_env = some r) : CallP Try.prog 19 [.sl (Ar.lst Encs.eGNeed x_l) .ro, .agg [.sl (Ar.lst Encs.eLGEvent x_env.Vars) .ro]] (.tup [.agg [.sl (Ar.lst Encs.eLGEvent r.1.Vars) .ro], .int .i64 r.2]) := by
 unfold ref26_Reduce at h
 refine callP_of_spec cf19 okP Try.func19 (by rfl) (by kernel_rfl) Try.call19 Try.ntmps19 (by rfl) (by rfl) ?_;intro E H0 K hE hK
 have hO : Own Eq H0 [] H0 := .start stable_eq rfl
 cbv;refine n_alloc hE hO fun b1 H hO => ?_;cbv;refine n_call hE (g := fun r2 => .int .i64 r2) h (fun r2 hx => c28 N x_l r2 hx) (.refl _) fun r2 h => ?_;cbv;refine n_br hE h (fun hc h => ?_) (fun hc h => ?_)
 ·cbv;refine n_store hE hO 0 rfl rfl fun H hO => ?_;cbv;refine n_load hE hO 0 rfl ?_;cbv;have h := ret_some h;subst h;exact hK _ _ _ hO (.tup (.cons (.agg (.cons (.lit _ (lst_nil)) (.refl _))) (.refl _)))
 ·cbv;refine n_call hE (g := fun r3 => .agg [.sl (Ar.lst Encs.eLGEvent r3.Vars) .ro]) h (fun r3 hx => c46 N x_l x_env r3 hx) (.refl _) fun r3 h => ?_;cbv;refine n_store hE hO 0 rfl rfl fun H hO => ?_;cbv;refine n_load hE hO 0 rfl ?_;cbv;have h := ret_some h;subst h;exact hK _ _ _ hO (.refl _)
def cf47 : Cf := ⟨[], [], [], [], [], []⟩
theorem c47 (N : Nat) (x_s1 : List (List GEvent)) (x_s2 : List (List GEvent)) (v_eq : V) (x_eq : (List GEvent) → (List GEvent) → Option Bool) (h_eq : ∀ y1 y2 q, x_eq y1 y2 = some q → CallVP Try.prog v_eq [.sl (Ar.lst Encs.eGEvent y1) .ro, .sl (Ar.lst Encs.eGEvent y2) .ro] (.bool q)) (r : Bool) (h : slices_EqualFunc_LEvent_LEvent_LEvent_LEvent N x_s1 x_s2 x_eq = some r) : CallP Try.prog 47 [.sl (Ar.lst Encs.eLGEvent x_s1) .ro, .sl (Ar.lst Encs.eLGEvent x_s2) .ro, v_eq] (.bool r) := by
 unfold slices_EqualFunc_LEvent_LEvent_LEvent_LEvent at h
 refine callP_of_spec cf47 okP Try.func47 (by rfl) (by kernel_rfl) Try.call47 Try.ntmps47 (by rfl) (by rfl) ?_;intro E H0 K hE hK
 have hO : Own Eq H0 [] H0 := .start stable_eq rfl
 cbv;refine n_ln hE ?_;cbv;refine n_ln hE ?_;cbv;refine n_br hE h (fun hc h => ?_) (fun hc h => ?_)
 ·cbv;have h := ret_some h;subst h;exact hK _ _ _ hO (.refl _)
 ·cbv;refine n_ln hE ?_;cbv;obtain ⟨s2, hx, h⟩ := bind_some h;refine n_loopN cf47 hE okP (fun s1 => [(1, .v (.sl (Ar.lst Encs.eLGEvent x_s2) .ro)), (2, .v (v_eq)), (15, .v (.sl (Ar.lst Encs.eLGEvent x_s1) .ro)), (16, .v (.int .i64 (Ar.len x_s1))), (17, .v (.int .i64 s1))]) (fun s1 H1 => Own Eq H0 [] H1) (fun x e l H1 => match (generalizing := false) x with | .inl y => e = .exit 0 ∧ l = [] ∧ Own Eq H0 [] H1 | .inr y => e = .ret ∧ l = [(6, .b false)] ∧ Own Eq H0 [] H1) (by kernel_rfl) ?_ hx ?_ hO ?_
  ·intro s1 H o hO h;clear hx;cbv;refine n_br hE h (fun hc h => ?_) (fun hc h => ?_)
   ·cbv;refine n_idx hE Encs.eLGEvent_eq h fun x3 h => ?_;cbv;refine n_idx hE Encs.eLGEvent_eq h fun x4 h => ?_;cbv;refine n_callF hE (g := fun r5 => .bool r5) h (fun r5 hx => h_eq x3 x4 r5 hx) (.refl _) fun r5 h => ?_;cbv;refine n_br hE h (fun hc h => ?_) (fun hc h => ?_)
    ·cbv;have h := ret_some h;subst h;exact ⟨_, _, rfl, ⟨rfl, rfl, hO⟩, .b rfl (.z), rfl⟩
    ·cbv;have h := ret_some h;subst h;exact ⟨_, rfl, .e rfl (.e rfl (.e rfl (.e rfl (.e rfl (.z))))), rfl, hO⟩
   ·cbv;have h := ret_some h;subst h;exact ⟨_, _, rfl, ⟨rfl, rfl, hO⟩, .z, rfl⟩
  ·exact .e rfl (.e rfl (.e rfl (.e rfl (.e rfl (.z)))))
  ·clear hx
   rcases s2 with y6 | y7
   ·rintro e l H ⟨rfl, rfl, hO⟩;cbv;have h := ret_some h;subst h;exact hK _ _ _ hO (.refl _)
   ·rintro e l H ⟨rfl, rfl, hO⟩;cbv;have h := ret_some h;subst h;exact hK _ _ _ hO (.refl _)
def cf49 : Cf := ⟨[8], [], [], [], [], []⟩
theorem c49 (N : Nat) (x_s1 : List GEvent) (x_s2 : List GEvent) (v_eq : V) (x_eq : GEvent → GEvent → Option Bool) (h_eq : ∀ y1 y2 q, x_eq y1 y2 = some q → CallVP Try.prog v_eq [.agg [.int .i64 y1.Source, .int .i64 y1.Seq, .int .i64 y1.Typ, .int .i64 y1.Time, .sl (Ar.lst Encs.eGValue y1.Values) .ro], .agg [.int .i64 y2.Source, .int .i64 y2.Seq, .int .i64 y2.Typ, .int .i64 y2.Time, .sl (Ar.lst Encs.eGValue y2.Values) .ro]] (.bool q)) (r : Bool) (h : slices_EqualFunc_LEvent_LEvent_Event_Event N x_s1 x_s2 x_eq = some r) : CallP Try.prog 49 [.sl (Ar.lst Encs.eGEvent x_s1) .ro, .sl (Ar.lst Encs.eGEvent x_s2) .ro, v_eq] (.bool r) := by
 unfold slices_EqualFunc_LEvent_LEvent_Event_Event at h
 refine callP_of_spec cf49 okP Try.func49 (by rfl) (by kernel_rfl) Try.call49 Try.ntmps49 (by rfl) (by rfl) ?_;intro E H0 K hE hK
 have hO : Own Eq H0 [] H0 := .start stable_eq rfl
 cbv;refine n_ln hE ?_;cbv;refine n_ln hE ?_;cbv;refine n_br hE h (fun hc h => ?_) (fun hc h => ?_)
 ·cbv;have h := ret_some h;subst h;exact hK _ _ _ hO (.refl _)
 ·cbv;refine n_ln hE ?_;cbv;obtain ⟨s2, hx, h⟩ := bind_some h;refine n_loopN cf49 hE okP (fun s1 => [(1, .v (.sl (Ar.lst Encs.eGEvent x_s2) .ro)), (2, .v (v_eq)), (15, .v (.sl (Ar.lst Encs.eGEvent x_s1) .ro)), (16, .v (.int .i64 (Ar.len x_s1))), (17, .v (.int .i64 s1))]) (fun s1 H1 => Own Eq H0 [] H1) (fun x e l H1 => match (generalizing := false) x with | .inl y => e = .exit 0 ∧ l = [] ∧ Own Eq H0 [] H1 | .inr y => e = .ret ∧ l = [(6, .b false)] ∧ Own Eq H0 [] H1) (by kernel_rfl) ?_ hx ?_ hO ?_
  ·intro s1 H o hO h;clear hx;cbv;refine n_br hE h (fun hc h => ?_) (fun hc h => ?_)
   ·cbv;refine n_idx hE Encs.eGEvent_eq h fun x3 h => ?_;cbv;refine n_alloc hE hO fun b4 H hO => ?_;cbv;refine n_store hE hO 0 rfl rfl fun H hO => ?_;cbv;refine n_idx hE Encs.eGEvent_eq h fun x5 h => ?_;cbv;refine n_load hE hO 0 rfl ?_;cbv;refine n_callF hE (g := fun r6 => .bool r6) h (fun r6 hx => h_eq x3 x5 r6 hx) (.refl _) fun r6 h => ?_;cbv;refine n_br hE h (fun hc h => ?_) (fun hc h => ?_)
    ·cbv;have h := ret_some h;subst h;exact ⟨_, _, rfl, ⟨rfl, rfl, hO.tail⟩, .b rfl (.z), rfl⟩
    ·cbv;have h := ret_some h;subst h;exact ⟨_, rfl, .e rfl (.e rfl (.e rfl (.e rfl (.e rfl (.z))))), rfl, hO.tail⟩
   ·cbv;have h := ret_some h;subst h;exact ⟨_, _, rfl, ⟨rfl, rfl, hO⟩, .z, rfl⟩
  ·exact .e rfl (.e rfl (.e rfl (.e rfl (.e rfl (.z)))))
  ·clear hx
   rcases s2 with y7 | y8
   ·rintro e l H ⟨rfl, rfl, hO⟩;cbv;have h := ret_some h;subst h;exact hK _ _ _ hO (.refl _)
   ·rintro e l H ⟨rfl, rfl, hO⟩;cbv;have h := ret_some h;subst h;exact hK _ _ _ hO (.refl _)
end Go.Ab

