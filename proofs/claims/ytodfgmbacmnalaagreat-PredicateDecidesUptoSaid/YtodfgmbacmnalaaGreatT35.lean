/- GQCo4 -/
import Derived.Test.YtodfgmbacmnalaaGreatT34
set_option linter.all false

namespace Go.Ab
open Go.RowKit Go.Proofs
variable [Ar] [Encs]
set_option maxRecDepth 100000
def cf69 : Cf := ⟨[], [], [], [], [], []⟩
theorem c69 (N : Nat) (x_e : GEvent) (r : Int) (h : event_numbers N x_e = some r) : CallP Tryz.prog 69 [.agg [.int .i64 x_e.Source, .int .i64 x_e.Seq, .int .i64 x_e.Typ, .int .i64 x_e.Time, .sl (Ar.lst Encs.eGValue x_e.Values) .ro]] (.int .i64 r) := by
 unfold event_numbers at h
 refine callP_of_spec cf69 okP Tryz.func69 (by rfl) (by kernel_rfl) Tryz.call69 Tryz.ntmps69 (by rfl) (by rfl) ?_;intro E H0 K hE hK
 have hO : Own Eq H0 [] H0 := .start stable_eq rfl
 cbv;refine n_br hE h (fun hc h => ?_) (fun hc h => ?_)
 ·cbv;have h := ret_some h;subst h;exact hK _ _ _ hO (.refl _)
 ·cbv;refine n_br hE h (fun hc h => ?_) (fun hc h => ?_)
  ·cbv;have h := ret_some h;subst h;exact hK _ _ _ hO (.refl _)
  ·cbv;have h := ret_some h;subst h;exact hK _ _ _ hO (.refl _)
def cf37 : Cf := ⟨[8], [(15, 7)], [], [], [], []⟩
theorem c37 (N : Nat) (x_types : List GSchema) (x_e : GEvent) (r : Int) (h : event_valid N x_types x_e = some r) : CallP Tryz.prog 37 [.sl (Ar.lst Encs.eGSchema x_types) .ro, .agg [.int .i64 x_e.Source, .int .i64 x_e.Seq, .int .i64 x_e.Typ, .int .i64 x_e.Time, .sl (Ar.lst Encs.eGValue x_e.Values) .ro]] (.int .i64 r) := by
 unfold event_valid at h
 refine callP_of_spec cf37 okP Tryz.func37 (by rfl) (by kernel_rfl) Tryz.call37 Tryz.ntmps37 (by rfl) (by rfl) ?_;intro E H0 K hE hK
 have hO : Own Eq H0 [] H0 := .start stable_eq rfl
 cbv;refine n_call hE (g := fun r1 => .int .i64 r1) h (fun r1 hx => c69 N x_e r1 hx) (.refl _) fun r1 h => ?_;cbv;refine n_br hE h (fun hc h => ?_) (fun hc h => ?_)
 ·cbv;have h := ret_some h;subst h;exact hK _ _ _ hO (.refl _)
 ·cbv;refine n_ln hE ?_;cbv;refine n_br hE h (fun hc h => ?_) (fun hc h => ?_)
  ·cbv;have h := ret_some h;subst h;exact hK _ _ _ hO (.refl _)
  ·cbv;refine n_idx hE Encs.eGSchema_eq h fun x2 h => ?_;cbv;refine n_ln hE ?_;cbv;refine n_ln hE ?_;cbv;refine n_br hE h (fun hc h => ?_) (fun hc h => ?_)
   ·cbv;have h := ret_some h;subst h;exact hK _ _ _ hO (.refl _)
   ·cbv;refine n_ln hE ?_;cbv;obtain ⟨s4, hx, h⟩ := bind_some h;refine n_loopN cf37 hE okP (fun s3 => [(6, .v (.sl (Ar.lst Encs.eGField x2.Fields) .ro)), (38, .v (.sl (Ar.lst Encs.eGValue x_e.Values) .ro)), (39, .v (.int .i64 (Ar.len x_e.Values))), (40, .v (.int .i64 s3))]) (fun s3 H1 => Own Eq H0 [] H1) (fun x e l H1 => match (generalizing := false) x with | .inl y => e = .exit 0 ∧ l = [] ∧ Own Eq H0 [] H1 | .inr y => e = .ret ∧ l = [(4, .v (.int .i64 y))] ∧ Own Eq H0 [] H1) (by kernel_rfl) ?_ hx ?_ hO ?_
    ·intro s3 H o hO h;clear hx;cbv;refine n_br hE h (fun hc h => ?_) (fun hc h => ?_)
     ·cbv;refine n_idx hE Encs.eGValue_eq h fun x5 h => ?_;cbv;refine n_alloc hE hO fun b6 H hO => ?_;cbv;refine n_store hE hO 0 rfl rfl fun H hO => ?_;cbv;refine n_load hE hO 0 rfl ?_;cbv;refine n_call hE (g := fun r7 => .int .i64 r7) h (fun r7 hx => c70 N x5 r7 hx) (.refl _) fun r7 h => ?_;cbv;refine n_br hE h (fun hc h => ?_) (fun hc h => ?_)
      ·cbv;have h := ret_some h;subst h;exact ⟨_, _, rfl, ⟨rfl, rfl, hO.tail⟩, .e rfl (.z), rfl⟩
      ·cbv;refine n_load hE hO 0 rfl ?_;cbv;refine n_idx hE Encs.eGField_eq h fun x8 h => ?_;cbv;refine n_br hE h (fun hc h => ?_) (fun hc h => ?_)
       ·cbv;have h := ret_some h;subst h;exact ⟨_, _, rfl, ⟨rfl, rfl, hO.tail⟩, .e rfl (.z), rfl⟩
       ·cbv;have h := ret_some h;subst h;exact ⟨_, rfl, .e rfl (.e rfl (.e rfl (.e rfl (.z)))), rfl, hO.tail⟩
     ·cbv;have h := ret_some h;subst h;exact ⟨_, _, rfl, ⟨rfl, rfl, hO⟩, .z, rfl⟩
    ·exact .e rfl (.e rfl (.e rfl (.e rfl (.z))))
    ·clear hx
     rcases s4 with y9 | y10
     ·rintro e l H ⟨rfl, rfl, hO⟩;cbv;have h := ret_some h;subst h;exact hK _ _ _ hO (.refl _)
     ·rintro e l H ⟨rfl, rfl, hO⟩;cbv;have h := ret_some h;subst h;exact hK _ _ _ hO (.refl _)
def cf12 : Cf := ⟨[], [], [], [], [], []⟩
theorem c12 (N : Nat) (x_types : List GSchema) (x_e : GEvent) (r : Int) (h : event_Check N x_types x_e = some r) : CallP Tryz.prog 12 [.sl (Ar.lst Encs.eGSchema x_types) .ro, .agg [.int .i64 x_e.Source, .int .i64 x_e.Seq, .int .i64 x_e.Typ, .int .i64 x_e.Time, .sl (Ar.lst Encs.eGValue x_e.Values) .ro]] (.int .i64 r) := by
 unfold event_Check at h
 refine callP_of_spec cf12 okP Tryz.func12 (by rfl) (by kernel_rfl) Tryz.call12 Tryz.ntmps12 (by rfl) (by rfl) ?_;intro E H0 K hE hK
 have hO : Own Eq H0 [] H0 := .start stable_eq rfl
 cbv;refine n_call hE (g := fun r1 => .int .i64 r1) h (fun r1 hx => c23 N x_types r1 hx) (.refl _) fun r1 h => ?_;cbv;refine n_br hE h (fun hc h => ?_) (fun hc h => ?_)
 ·cbv;have h := ret_some h;subst h;exact hK _ _ _ hO (.refl _)
 ·cbv;refine n_call hE (g := fun r2 => .int .i64 r2) h (fun r2 hx => c37 N x_types x_e r2 hx) (.refl _) fun r2 h => ?_;cbv;have h := ret_some h;subst h;exact hK _ _ _ hO (.refl _)
def cf9 : Cf := ⟨[4, 7], [], [], [], [], []⟩
theorem c9 (N : Nat) (x_types : List GSchema) (x_e : GEvent) (r : (GSymbol × Int)) (h : predicate_Symbol N x_types x_e = some r) : CallP Tryz.prog 9 [.sl (Ar.lst Encs.eGSchema x_types) .ro, .agg [.int .i64 x_e.Source, .int .i64 x_e.Seq, .int .i64 x_e.Typ, .int .i64 x_e.Time, .sl (Ar.lst Encs.eGValue x_e.Values) .ro]] (.tup [.agg [.int .i64 r.1.Typ, .int .i64 r.1.Num], .int .i64 r.2]) := by
 unfold predicate_Symbol at h
 refine callP_of_spec cf9 okP Tryz.func9 (by rfl) (by kernel_rfl) Tryz.call9 Tryz.ntmps9 (by rfl) (by rfl) ?_;intro E H0 K hE hK
 have hO : Own Eq H0 [] H0 := .start stable_eq rfl
 cbv;refine n_alloc hE hO fun b1 H hO => ?_;cbv;refine n_call hE (g := fun r2 => .int .i64 r2) h (fun r2 hx => c12 N x_types x_e r2 hx) (.refl _) fun r2 h => ?_;cbv;refine n_br hE h (fun hc h => ?_) (fun hc h => ?_)
 ·cbv;refine n_store hE hO 0 rfl rfl fun H hO => ?_;cbv;refine n_load hE hO 0 rfl ?_;cbv;have h := ret_some h;subst h;exact hK _ _ _ hO (.refl _)
 ·cbv;refine n_alloc hE hO fun b3 H hO => ?_;cbv;refine n_store hE hO 0 rfl rfl fun H hO => ?_;cbv;refine n_idx hE Encs.eGSchema_eq h fun x4 h => ?_;cbv;refine n_call hE (g := fun r5 => .int .i64 r5) h (fun r5 hx => c27 N x4 r5 hx) (.refl _) fun r5 h => ?_;cbv;refine n_br hE h (fun hc h => ?_) (fun hc h => ?_)
  ·cbv;refine n_idx hE Encs.eGValue_eq h fun x6 h => ?_;cbv;refine n_store hE hO 0 rfl rfl fun H hO => ?_;cbv;refine n_load hE hO 0 rfl ?_;cbv;refine n_store hE hO 1 rfl rfl fun H hO => ?_;cbv;refine n_load hE hO 1 rfl ?_;cbv;have h := ret_some h;subst h;exact hK _ _ _ hO (.refl _)
  ·cbv;refine n_load hE hO 0 rfl ?_;cbv;refine n_store hE hO 1 rfl rfl fun H hO => ?_;cbv;refine n_load hE hO 1 rfl ?_;cbv;have h := ret_some h;subst h;exact hK _ _ _ hO (.refl _)
end Go.Ab

