/- GPCo4 -/
import Derived.Test.YtpapabjndpgcnaaGreatT32
set_option linter.all false

namespace Go.Ab
open Go.RowKit Go.Proofs
variable [Ar] [Encs]
set_option maxRecDepth 100000
def cf61 : Cf := ⟨[2], [], [], [], [], []⟩
theorem c61 (N : Nat) (x_p : GPredicate) (r : (GPredicate × Int)) (h : ref27_limited N x_p = some r) : CallP Tryz.prog 61 [.agg [.sl (Ar.lst Encs.eLGInterval x_p.Sets) .ro]] (.tup [.agg [.sl (Ar.lst Encs.eLGInterval r.1.Sets) .ro], .int .i64 r.2]) := by
 unfold ref27_limited at h
 refine callP_of_spec cf61 okP Tryz.func61 (by rfl) (by kernel_rfl) Tryz.call61 Tryz.ntmps61 (by rfl) (by rfl) ?_;intro E H0 K hE hK
 have hO : Own Eq H0 [] H0 := .start stable_eq rfl
 cbv;refine n_alloc hE hO fun b1 H hO => ?_;cbv;obtain ⟨s3, hx, h⟩ := bind_some h;refine n_loopN cf61 hE okP (fun s2 => [(1, .v (.eref [.sl (Ar.lst Encs.eLGInterval x_p.Sets) .ro] 0)), (2, .v (.ref b1 0)), (4, .v (.int .i64 s2))]) (fun s2 H1 => Own Eq H0 [.blk b1 (.cells [.sl [] .nil])] H1) (fun x e l H1 => match (generalizing := false) x with | .inl y => e = .exit 0 ∧ l = [(1, .v (.eref [.sl (Ar.lst Encs.eLGInterval x_p.Sets) .ro] 0)), (2, .v (.ref b1 0))] ∧ Own Eq H0 [.blk b1 (.cells [.sl [] .nil])] H1 | .inr y => e = .ret ∧ l = [(2, .v (.ref b1 0)), (3, .v (.int .i64 5))] ∧ Own Eq H0 [.blk b1 (.cells [.sl [] .nil])] H1) (by kernel_rfl) ?_ hx ?_ hO ?_
 ·intro s2 H o hO h;clear hx;cbv;refine n_ln hE ?_;cbv;refine n_br hE h (fun hc h => ?_) (fun hc h => ?_)
  ·cbv;refine n_idx hE Encs.eLGInterval_eq h fun x4 h => ?_;cbv;refine n_ln hE ?_;cbv;refine n_br hE h (fun hc h => ?_) (fun hc h => ?_)
   ·cbv;refine n_store hE hO 0 rfl rfl fun H hO => ?_;cbv;have h := ret_some h;subst h;exact ⟨_, _, rfl, ⟨rfl, rfl, hO⟩, .e rfl (.e rfl (.z)), rfl⟩
   ·cbv;have h := ret_some h;subst h;exact ⟨_, rfl, .e rfl (.e rfl (.e rfl (.z))), rfl, hO⟩
  ·cbv;have h := ret_some h;subst h;exact ⟨_, _, rfl, ⟨rfl, rfl, hO⟩, .e rfl (.e rfl (.z)), rfl⟩
 ·exact .e rfl (.e rfl (.e rfl (.z)))
 ·clear hx
  rcases s3 with y5 | y6
  ·rintro e l H ⟨rfl, rfl, hO⟩;cbv;refine n_store hE hO 0 rfl rfl fun H hO => ?_;cbv;refine n_load hE hO 0 rfl ?_;cbv;have h := ret_some h;subst h;exact hK _ _ _ hO (.refl _)
  ·rintro e l H ⟨rfl, rfl, hO⟩;cbv;refine n_load hE hO 0 rfl ?_;cbv;have h := ret_some h;subst h;exact hK _ _ _ hO (.tup (.cons (.agg (.cons (.lit _ (lst_nil)) (.refl _))) (.refl _)))
end Go.Ab

