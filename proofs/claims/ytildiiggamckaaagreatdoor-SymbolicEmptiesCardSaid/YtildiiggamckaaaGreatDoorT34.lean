/- GYCo1 -/
import Derived.Test.YtildiiggamckaaaGreatDoorT31
import Derived.Test.YtildiiggamckaaaGreatDoorT32
import Derived.Test.YtildiiggamckaaaGreatDoorT27
import Derived.Test.YtildiiggamckaaaGreatDoorT33
import Derived.Test.YtildiiggamckaaaGreatDoorT28
import Derived.Test.YtildiiggamckaaaGreatDoorT29
import Derived.Test.YtildiiggamckaaaGreatDoorT30
set_option linter.all false
namespace Go.Ab
open Go.RowKit Go.Proofs Go.Proofs.Tryz G6
abbrev vi (n : Int) : V := .int .i64 n
instance globs : G5 := ⟨fun n => match n with
 | 0 => .eref [vi 0, vi 0, .bool true, .bool true, .bool false, .bool false, vi 2, vi 64, .bool false, .bool false, .bool false, .bool false, vi 2, vi 64, .bool false, .bool false, .bool false, .bool false, vi 2, vi 64, .bool false, .bool false, .bool false, .bool false, vi 1, vi 1, .bool false, .bool false, .bool false, .bool false, vi 1, vi 1, .bool true, .bool true, .bool true, .bool false, vi 1, vi 1, .bool false, .bool false, .bool true, .bool true, vi 1, vi 1, .bool false, .bool true, .bool false, .bool false, vi 2, vi 2, .bool false, .bool false, .bool false, .bool false, vi 1, vi 1, .bool true, .bool true, .bool true, .bool false, vi 1, vi 1, .bool false, .bool false, .bool true, .bool true] 0
 | _ => .bad⟩
variable [Ar] [G6]
set_option maxRecDepth 100000
theorem G7 : KE prog TT := ⟨okT, by rfl⟩
def cf0 : Cf := ⟨[], [], [], [], [], []⟩
theorem Cx.e2 {l r : Fl} {k1 k2 : Nat} {x1 x2 : V} (hr : Cx l r) (h1 : Y3 l k1 = x1 := by rfl) (h2 : Y3 l k2 = x2 := by rfl) : Cx l ((k1, .v x1) :: (k2, .v x2) :: r) := .e h1 (.e h2 hr)
theorem Cx.e4 {l r : Fl} {k1 k2 k3 k4 : Nat} {x1 x2 x3 x4 : V} (hr : Cx l r) (h1 : Y3 l k1 = x1 := by rfl) (h2 : Y3 l k2 = x2 := by rfl) (h3 : Y3 l k3 = x3 := by rfl) (h4 : Y3 l k4 = x4 := by rfl) : Cx l ((k1, .v x1) :: (k2, .v x2) :: (k3, .v x3) :: (k4, .v x4) :: r) := .e2 (.e2 hr h3 h4) h1 h2
theorem J9 {f : FuncId} {fn : Func} {c : Code} {n : Nat} {rs : List ResultVar} {args : List V} {r : V} (cf : Cf) (hf : prog.funcs[f]? = some fn) (hcall : ∀ vals w, (callFunc f vals).run prog w = .ok (.enter f vals) w) (hnt : fn.ntmps = n)
 (h : ∀ (E : CM) (H : A0) (K : V → A0 → Prop), E = E6 prog n none → (∀ x L H', B4 Eq H L H' → Y4 x r → K x H') → B4 Eq H [] H → run E TT n cf c ⟨Z7 args 0, []⟩ H (Ib E TT rs K))
 (hb : fn.body = some c := by rfl) (hd : E9 cf c = true := by kernel_rfl) (hrs : fn.results.toList = rs := by rfl) (hn : Nat.ble args.length n = true := by rfl) : B6 prog f args r :=
 KV cf G7 hf hb hd hcall hnt hrs hn fun E H K hE hK => h E H K hE hK (.start B7 rfl)
theorem c86 (N aG r) (h : FP N aG = some r) : B6 prog 86 [.sl (Ar.lst eXI aG) .ro] (.bool r) := by
 unfold FP at h
 refine J9 cf0 func86 call86 ntmps86 ?_;intro E H0 K hE hK hO;cbv;refine D5 hE ?_;cbv;cases h;exact hK _ _ _ hO (.refl _)
theorem c34 (N aA r) (h : BH N aA = some r) : B6 prog 34 [(E3 aA)] (.bool r) := by
 unfold BH at h
 refine J9 cf0 func34 call34 ntmps34 ?_;intro E H0 K hE hK hO;cbv;obtain ⟨s2, hx, h⟩ := bind_some h;refine F3 cf0 hE G7 (fun s1 => [(1, .v (.eref (O6 aA) 0)), (3, .v (vi s1))]) (fun s1 H1 => B4 Eq H0 [] H1) (fun x e l H1 => match (generalizing := false) x with | .inl y => e = .exit 0 ∧ l = [(1, .v (.eref (O6 aA) 0))] ∧ B4 Eq H0 [] H1 | .inr y => e = .ret ∧ l = [(2, .b false)] ∧ B4 Eq H0 [] H1) (by kernel_rfl) ?_ hx ?_ hO ?_
 ·intro s1 H o hO h;clear hx;cbv;refine D5 hE ?_;cbv;refine A6 hE h (fun hc h => ?_) (fun hc h => ?_)
  ·cbv;refine C2 hE eXP h fun x3 h => ?_;cbv;refine A7 hE h (c86 N x3) (.refl _) fun r4 h => ?_;cbv;refine A6 hE h (fun hc h => ?_) (fun hc h => ?_)
   ·cbv;cases h;exact ⟨_, _, rfl, ⟨rfl, rfl, hO⟩, .b rfl (.z), rfl⟩
   cbv;cases h;exact ⟨_, rfl, .e2 .z, rfl, hO⟩
  cbv;cases h;exact ⟨_, _, rfl, ⟨rfl, rfl, hO⟩, .e rfl .z, rfl⟩
 ·exact .e2 .z
 clear hx
 rcases s2 with y5 | y6
 ·rintro e l H ⟨rfl, rfl, hO⟩;cbv;refine D5 hE ?_;cbv;cases h;exact hK _ _ _ hO (.refl _)
 rintro e l H ⟨rfl, rfl, hO⟩;cbv;cases h;exact hK _ _ _ hO (.refl _)
theorem c9 (N aB r) (h : Eb N aB = some r) : B6 prog 9 [(H6 aB)] (.bool r) := by
 unfold Eb at h
 refine J9 cf0 func9 call9 ntmps9 ?_;intro E H0 K hE hK hO;cbv;obtain ⟨s2, hx, h⟩ := bind_some h;refine F3 cf0 hE G7 (fun s1 => [(1, .v (.eref (C1 aB) 0)), (3, .v (vi s1))]) (fun s1 H1 => B4 Eq H0 [] H1) (fun x e l H1 => match (generalizing := false) x with | .inl y => e = .exit 0 ∧ l = [(1, .v (.eref (C1 aB) 0))] ∧ B4 Eq H0 [] H1 | .inr y => e = .ret ∧ l = [(2, .b false)] ∧ B4 Eq H0 [] H1) (by kernel_rfl) ?_ hx ?_ hO ?_
 ·intro s1 H o hO h;clear hx;cbv;refine D5 hE ?_;cbv;refine A6 hE h (fun hc h => ?_) (fun hc h => ?_)
  ·cbv;refine C2 hE eXQ h fun x3 h => ?_;cbv;refine A7 hE h (c34 N x3.On) (.refl _) fun r4 h => ?_;cbv;refine A6 hE h (fun hc h => ?_) (fun hc h => ?_)
   ·cbv;cases h;exact ⟨_, _, rfl, ⟨rfl, rfl, hO⟩, .b rfl (.z), rfl⟩
   cbv;cases h;exact ⟨_, rfl, .e2 .z, rfl, hO⟩
  cbv;cases h;exact ⟨_, _, rfl, ⟨rfl, rfl, hO⟩, .e rfl .z, rfl⟩
 ·exact .e2 .z
 clear hx
 rcases s2 with y5 | y6
 ·rintro e l H ⟨rfl, rfl, hO⟩;cbv;refine D5 hE ?_;cbv;refine D5 hE ?_;cbv;cases h;exact hK _ _ _ hO (.refl _)
 rintro e l H ⟨rfl, rfl, hO⟩;cbv;cases h;exact hK _ _ _ hO (.refl _)
theorem c45 (N aP aF r) (h : U4 N aP aF = some r) : B6 prog 45 [vi aP, .eref (C1 aF) 0] (.bool r) := by
 unfold U4 at h
 refine J9 cf0 func45 call45 ntmps45 ?_;intro E H0 K hE hK hO;cbv;refine D5 hE ?_;cbv;cases h;exact hK _ _ _ hO (.refl _)
theorem c126 (N aH r) (h : X1 N aH = some r) : B6 prog 126 [(M5 aH)] (vi r) := by
 unfold X1 at h
 refine J9 cf0 func126 call126 ntmps126 ?_;intro E H0 K hE hK hO;cbv;refine A6 hE h (fun hc h => ?_) (fun hc h => ?_)
 ·cbv;cases h;exact hK _ _ _ hO (.refl _)
 cbv;refine A6 hE h (fun hc h => ?_) (fun hc h => ?_)
 ·cbv;cases h;exact hK _ _ _ hO (.refl _)
 cbv;cases h;exact hK _ _ _ hO (.refl _)
def cf94 : Cf := ⟨[4], [(9, 12)], [], [], [], []⟩
theorem c94 (N aG r) (h : L8 N aG = some r) : B6 prog 94 [.sl (Ar.lst eXI aG) .ro] (vi r) := by
 unfold L8 at h
 refine J9 cf94 func94 call94 ntmps94 ?_;intro E H0 K hE hK hO;cbv;refine D5 hE ?_;cbv;refine A6 hE h (fun hc h => ?_) (fun hc h => ?_)
 ·cbv;cases h;exact hK _ _ _ hO (.refl _)
 cbv;refine D5 hE ?_;cbv;obtain ⟨s2, hx, h⟩ := bind_some h;refine F3 cf94 hE G7 (fun s1 => [(0, .v (.sl (Ar.lst eXI aG) .ro)), (9, .v (.sl (Ar.lst eXI aG) .ro)), (10, .v (vi (Ar.len aG))), (11, .v (vi s1))]) (fun s1 H1 => B4 Eq H0 [] H1) (fun x e l H1 => match (generalizing := false) x with | .inl y => e = .exit 0 ∧ l = [] ∧ B4 Eq H0 [] H1 | .inr y => e = .ret ∧ l = [(2, .v (vi y))] ∧ B4 Eq H0 [] H1) (by kernel_rfl) ?_ hx ?_ hO ?_
 ·intro s1 H o hO h;clear hx;cbv;refine A6 hE h (fun hc h => ?_) (fun hc h => ?_)
  ·cbv;refine C2 hE eXR h fun x3 h => ?_;cbv;refine C8 hE hO fun b4 H hO => ?_;cbv;refine A8 hE hO 0 rfl rfl fun H hO => ?_;cbv;refine B1 hE hO 0 rfl ?_;cbv;refine A7 hE h (c126 N x3) (.refl _) fun r5 h => ?_;cbv;refine A6 hE h (fun hc h => ?_) (fun hc h => ?_)
   ·cbv;cases h;exact ⟨_, _, rfl, ⟨rfl, rfl, hO.tail⟩, .e rfl .z, rfl⟩
   cbv;refine B1 hE hO 0 rfl ?_;cbv;refine A6 hE h (fun hc h => ?_) (fun hc h => ?_)
   ·cbv;refine C2 hE eXR h fun x6 h => ?_;cbv;refine A6 hE h (fun hc h => ?_) (fun hc h => ?_)
    ·cbv;cases h;exact ⟨_, _, rfl, ⟨rfl, rfl, hO.tail⟩, .e rfl .z, rfl⟩
    cbv;cases h;exact ⟨_, rfl, .e4 .z, rfl, hO.tail⟩
   cbv;cases h;exact ⟨_, rfl, .e4 .z, rfl, hO.tail⟩
  cbv;cases h;exact ⟨_, _, rfl, ⟨rfl, rfl, hO⟩, .z, rfl⟩
 ·exact .e4 .z
 clear hx
 rcases s2 with y7 | y8
 ·rintro e l H ⟨rfl, rfl, hO⟩;cbv;cases h;exact hK _ _ _ hO (.refl _)
 rintro e l H ⟨rfl, rfl, hO⟩;cbv;cases h;exact hK _ _ _ hO (.refl _)
theorem c46 (N aJ aA r) (h : S4 N aJ aA = some r) : B6 prog 46 [vi aJ, (E3 aA)] (vi r) := by
 unfold S4 at h
 refine J9 cf0 func46 call46 ntmps46 ?_;intro E H0 K hE hK hO;cbv;refine A6 hE h (fun hc h => ?_) (fun hc h => ?_)
 ·cbv;cases h;exact hK _ _ _ hO (.refl _)
 cbv;refine D5 hE ?_;cbv;refine A6 hE h (fun hc h => ?_) (fun hc h => ?_)
 ·cbv;cases h;exact hK _ _ _ hO (.refl _)
 cbv;refine D5 hE ?_;cbv;obtain ⟨s2, hx, h⟩ := bind_some h;refine F3 cf0 hE G7 (fun s1 => [(22, .v (.sl (Ar.lst eXM aA.Sets) .ro)), (23, .v (vi (Ar.len aA.Sets))), (24, .v (vi s1))]) (fun s1 H1 => B4 Eq H0 [] H1) (fun x e l H1 => match (generalizing := false) x with | .inl y => e = .exit 1 ∧ l = [] ∧ B4 Eq H0 [] H1 | .inr y => e = .ret ∧ l = [(4, .v (vi y))] ∧ B4 Eq H0 [] H1) (by kernel_rfl) ?_ hx ?_ hO ?_
 ·intro s1 H o hO h;clear hx;cbv;refine A6 hE h (fun hc h => ?_) (fun hc h => ?_)
  ·cbv;refine C2 hE eXP h fun x3 h => ?_;cbv;refine A7 hE h (c94 N x3) (.refl _) fun r4 h => ?_;cbv;refine A6 hE h (fun hc h => ?_) (fun hc h => ?_)
   ·cbv;cases h;exact ⟨_, _, rfl, ⟨rfl, rfl, hO⟩, .e rfl .z, rfl⟩
   cbv;cases h;exact ⟨_, rfl, .e rfl (.e2 .z), rfl, hO⟩
  cbv;cases h;exact ⟨_, _, rfl, ⟨rfl, rfl, hO⟩, .z, rfl⟩
 ·exact .e rfl (.e2 .z)
 clear hx
 rcases s2 with y5 | y6
 ·rintro e l H ⟨rfl, rfl, hO⟩;cbv;cases h;exact hK _ _ _ hO (.refl _)
 rintro e l H ⟨rfl, rfl, hO⟩;cbv;cases h;exact hK _ _ _ hO (.refl _)
theorem c13 (N aB r) (h : O0 N aB = some r) : B6 prog 13 [(H6 aB)] (vi r) := by
 unfold O0 at h
 refine J9 cf0 func13 call13 ntmps13 ?_;intro E H0 K hE hK hO;cbv;refine A6 hE h (fun hc h => ?_) (fun hc h => ?_)
 ·cbv;cases h;exact hK _ _ _ hO (.refl _)
 cbv;refine D5 hE ?_;cbv;refine D5 hE ?_;cbv;refine D5 hE ?_;cbv;refine A6 hE h (fun hc h => ?_) (fun hc h => ?_)
 ·cbv;cases h;exact hK _ _ _ hO (.refl _)
 cbv;refine D5 hE ?_;cbv;obtain ⟨s2, hx, h⟩ := bind_some h;refine F3 cf0 hE G7 (fun s1 => [(1, .v (.eref (C1 aB) 0)), (3, .v (.func (.func 45) [] [.eref (C1 aB) 0])), (33, .v (.sl (Ar.lst eXS aB.Moves) .ro)), (34, .v (vi (Ar.len aB.Moves))), (35, .v (vi s1))]) (fun s1 H1 => B4 Eq H0 [] H1) (fun x e l H1 => match (generalizing := false) x with | .inl y => e = .exit 0 ∧ l = [] ∧ B4 Eq H0 [] H1 | .inr y => e = .ret ∧ l = [(2, .v (vi y))] ∧ B4 Eq H0 [] H1) (by kernel_rfl) ?_ hx ?_ hO ?_
 ·intro s1 H o hO h;clear hx;cbv;refine A6 hE h (fun hc h => ?_) (fun hc h => ?_)
  ·cbv;refine C2 hE eXQ h fun x3 h => ?_;cbv;refine AI hE (g := fun r4 => .bool r4) h (fun r4 hx => B6.value (F := []) (C := [.eref (C1 aB) 0]) (c45 N x3.From aB r4 hx)) (.refl _) fun r4 h => ?_;cbv;refine A6 hE h (fun hc h => ?_) (fun hc h => ?_)
   ·cbv;cases h;exact ⟨_, _, rfl, ⟨rfl, rfl, hO⟩, .e rfl .z, rfl⟩
   cbv;refine AI hE (g := fun r5 => .bool r5) h (fun r5 hx => B6.value (F := []) (C := [.eref (C1 aB) 0]) (c45 N x3.To aB r5 hx)) (.refl _) fun r5 h => ?_;cbv;refine A6 hE h (fun hc h => ?_) (fun hc h => ?_)
   ·cbv;cases h;exact ⟨_, _, rfl, ⟨rfl, rfl, hO⟩, .e rfl .z, rfl⟩
   cbv;refine A7 hE h (c46 N aB.Types x3.On) (.refl _) fun r6 h => ?_;cbv;refine A6 hE h (fun hc h => ?_) (fun hc h => ?_)
   ·cbv;cases h;exact ⟨_, _, rfl, ⟨rfl, rfl, hO⟩, .e rfl .z, rfl⟩
   cbv;cases h;exact ⟨_, rfl, .e rfl (.e4 .z), rfl, hO⟩
  cbv;cases h;exact ⟨_, _, rfl, ⟨rfl, rfl, hO⟩, .z, rfl⟩
 ·exact .e rfl (.e4 .z)
 clear hx
 rcases s2 with y7 | y8
 ·rintro e l H ⟨rfl, rfl, hO⟩;cbv;cases h;exact hK _ _ _ hO (.refl _)
 rintro e l H ⟨rfl, rfl, hO⟩;cbv;cases h;exact hK _ _ _ hO (.refl _)
def cf87 : Cf := ⟨[4, 6], [], [], [], [], []⟩
theorem c87 (N : Nat) (aJ : Int) (cG : V) (bF : Int → Option ((List A2) × Int)) (cK : ∀ y1 q, bF y1 = some q → R4 prog cG [vi y1] (.tup [.sl (Ar.lst eXI q.1) .ro, vi q.2])) (r : (B5 × Int)) (h : CU N aJ bF = some r) : B6 prog 87 [vi aJ, cG] (.tup [(E3 r.1), vi r.2]) := by
 unfold CU at h
 refine J9 cf87 func87 call87 ntmps87 ?_;intro E H0 K hE hK hO;cbv;refine C8 hE hO fun b1 H hO => ?_;cbv;refine C8 hE hO fun b2 H hO => ?_;cbv;replace hO := hO.cast (L' := [.blk b2 (.cells [.sl (Ar.lst eXM ([])) .nil]), .blk b1 (.cells [.sl [] .nil])]) (by first | (simp only [← B3]; done) | (simp only [← B3]; rfl));replace hO := hO.tl0 (t := .nil) rfl;obtain ⟨s5, hx, h⟩ := bind_some h;refine I6 cf87 hE G7 (γ := D6) (fun s3 g => [(1, .v (cG)), (4, .v (.ref b1 0)), (6, .v (.ref b2 0)), (10, .v (vi aJ)), (11, .v (vi s3.1))]) (fun s3 g H1 => N2 g ∧ B4 Eq H0 [.tl g, .blk b2 (.cells [.sl (Ar.lst eXM s3.2.Sets) g]), .blk b1 (.cells [.sl [] .nil])] H1) (fun x e l H1 => match (generalizing := false) x with | .inl y => ∃ u1 : D6, N2 u1 ∧ e = .exit 0 ∧ l = [(4, .v (.ref b1 0)), (6, .v (.ref b2 0))] ∧ B4 Eq H0 [.tl u1, .blk b2 (.cells [.sl (Ar.lst eXM y.Sets) u1]), .blk b1 (.cells [.sl [] .nil])] H1 | .inr y => ∃ u1 : D6, N2 u1 ∧ e = .ret ∧ l = [(4, .v (.ref b1 0)), (5, .v (vi y.1))] ∧ B4 Eq H0 [.tl u1, .blk b2 (.cells [.sl (Ar.lst eXM y.2.Sets) u1]), .blk b1 (.cells [.sl [] .nil])] H1) (by kernel_rfl) ?_ .nil hx ?_ ?_ ?_
 ·rintro s3 t4 H o ⟨ht4, hO⟩ h;clear hx;cbv;refine A6 hE h (fun hc h => ?_) (fun hc h => ?_)
  ·cbv;refine AI hE (g := fun r6 => .tup [.sl (Ar.lst eXI r6.1) .ro, vi r6.2]) h (fun r6 hx => cK s3.1 r6 hx) (.refl _) fun r6 h => ?_;cbv;refine A6 hE h (fun hc h => ?_) (fun hc h => ?_)
   ·cbv;refine A8 hE hO 2 rfl rfl fun H hO => ?_;cbv;cases h;exact ⟨_, _, rfl, ⟨t4, ht4, rfl, rfl, hO⟩, .e2 .z, rfl⟩
   cbv;refine B1 hE hO 1 rfl ?_;cbv;refine V9 (f := eXM) hE DF (by decide) hO 0 rfl ht4 (l := s3.2.Sets) (m := [r6.1]) (.refl _) (.lstc (.eq (eXP r6.1) (.refl _)) (.lst0)) h fun l8 t7 H hO ht7 h => ?_;cbv;refine A8 hE hO 1 rfl rfl fun H hO => ?_;cbv;cases h;exact ⟨_, t7, rfl, .e rfl (.e4 .z), rfl, ht7, hO⟩
  cbv;cases h;exact ⟨_, _, rfl, ⟨t4, ht4, rfl, rfl, hO⟩, .e2 .z, rfl⟩
 ·exact .e rfl (.e4 .z)
 ·exact ⟨trivial, hO⟩
 clear hx
 rcases s5 with y9 | y11
 ·rintro e l H ⟨t10, ht10, rfl, rfl, hO⟩;cbv;refine B1 hE hO 1 rfl ?_;cbv;refine A8 hE hO 2 rfl rfl fun H hO => ?_;cbv;refine B1 hE hO 2 rfl ?_;cbv;cases h;exact hK _ _ _ hO (.tup (.cons (.agg (.cons (.ro _ _) (.refl _))) (.refl _)))
 rintro e l H ⟨t12, ht12, rfl, rfl, hO⟩;cbv;refine B1 hE hO 2 rfl ?_;cbv;cases h;exact hK _ _ _ hO (.tup (.cons (.agg (.cons (.lit _ (B3)) (.refl _))) (.refl _)))
theorem c89 (N r) (h : W9 N  = some r) : B6 prog 89 [] (.sl (Ar.lst eXI r) .ro) := by
 unfold W9 at h
 refine J9 cf0 func89 call89 ntmps89 ?_;intro E H0 K hE hK hO;cbv;cases h;exact hK _ _ _ hO (.lit _ (C7 ((eXR (⟨(-1099511627776), 1099511627776⟩ : A2)).symm) (B3)))
theorem c88 (N cF r) (h : AE N cF = some r) : B6 prog 88 [vi cF] (.tup [.sl (Ar.lst eXI r.1) .ro, vi r.2]) := by
 unfold AE at h
 refine J9 cf0 func88 call88 ntmps88 ?_;intro E H0 K hE hK hO;cbv;refine A7 hE h (c89 N ) (.refl _) fun r1 h => ?_;cbv;cases h;exact hK _ _ _ hO (.refl _)
def cf39 : Cf := ⟨[2], [], [], [], [], []⟩
theorem c39 (N aJ r) (h : DH N aJ = some r) : B6 prog 39 [vi aJ] (.tup [(E3 r.1), vi r.2]) := by
 unfold DH at h
 refine J9 cf39 func39 call39 ntmps39 ?_;intro E H0 K hE hK hO;cbv;refine C8 hE hO fun b1 H hO => ?_;cbv;refine A6 hE h (fun hc h => ?_) (fun hc h => ?_)
 ·cbv;refine A8 hE hO 0 rfl rfl fun H hO => ?_;cbv;refine B1 hE hO 0 rfl ?_;cbv;cases h;exact hK _ _ _ hO (.tup (.cons (.agg (.cons (.lit _ (B3)) (.refl _))) (.refl _)))
 cbv;refine A7 hE (g := fun r2 => .tup [(E3 r2.1), vi r2.2]) h (fun r2 hx => c87 N aJ (.func (.func 88) [] []) (fun y1 => AE N y1) (fun y1 r hx => B6.value (F := []) (C := []) (c88 N y1 r hx)) r2 hx) (.refl _) fun r2 h => ?_;cbv;refine A8 hE hO 0 rfl rfl fun H hO => ?_;cbv;refine B1 hE hO 0 rfl ?_;cbv;cases h;exact hK _ _ _ hO (.refl _)
theorem c90 (N aG r) (h : J6 N aG = some r) : B6 prog 90 [.sl (Ar.lst eYj aG) .ro] (vi r) := by
 unfold J6 at h
 refine J9 cf0 func90 call90 ntmps90 ?_;intro E H0 K hE hK hO;cbv;refine D5 hE ?_;cbv;obtain ⟨s2, hx, h⟩ := bind_some h;refine F3 cf0 hE G7 (fun s1 => [(6, .v (.sl (Ar.lst eYj aG) .ro)), (7, .v (vi (Ar.len aG))), (8, .v (vi s1))]) (fun s1 H1 => B4 Eq H0 [] H1) (fun x e l H1 => match (generalizing := false) x with | .inl y => e = .exit 0 ∧ l = [] ∧ B4 Eq H0 [] H1 | .inr y => e = .ret ∧ l = [(2, .v (vi y))] ∧ B4 Eq H0 [] H1) (by kernel_rfl) ?_ hx ?_ hO ?_
 ·intro s1 H o hO h;clear hx;cbv;refine A6 hE h (fun hc h => ?_) (fun hc h => ?_)
  ·cbv;refine C2 hE eYg h fun x3 h => ?_;cbv;refine D5 hE ?_;cbv;refine A7 hE h (c46 N (Ar.len x3.Sets) x3) (.refl _) fun r4 h => ?_;cbv;refine A6 hE h (fun hc h => ?_) (fun hc h => ?_)
   ·cbv;cases h;exact ⟨_, _, rfl, ⟨rfl, rfl, hO⟩, .e rfl .z, rfl⟩
   cbv;cases h;exact ⟨_, rfl, .e rfl (.e2 .z), rfl, hO⟩
  cbv;cases h;exact ⟨_, _, rfl, ⟨rfl, rfl, hO⟩, .z, rfl⟩
 ·exact .e rfl (.e2 .z)
 clear hx
 rcases s2 with y5 | y6
 ·rintro e l H ⟨rfl, rfl, hO⟩;cbv;cases h;exact hK _ _ _ hO (.refl _)
 rintro e l H ⟨rfl, rfl, hO⟩;cbv;cases h;exact hK _ _ _ hO (.refl _)
theorem c163 (N : Nat) (aH : List A2) (bK : Int) (cE : V) (bW : A2 → Int → Option Int) (cJ : ∀ y1 y2 q, bW y1 y2 = some q → R4 prog cE [(M5 y1), vi y2] (vi q)) (r : (Int × Bool)) (h : E5 N aH bK bW = some r) : B6 prog 163 [.sl (Ar.lst eXI aH) .ro, vi bK, cE] (.tup [vi r.1, .bool r.2]) := by
 unfold E5 at h
 refine J9 cf0 func163 call163 ntmps163 ?_;intro E H0 K hE hK hO;cbv;refine D5 hE ?_;cbv;obtain ⟨s2, hx, h⟩ := bind_some h;refine F3 cf0 hE G7 (fun s1 => [(0, .v (.sl (Ar.lst eXI aH) .ro)), (1, .v (vi bK)), (2, .v (cE)), (8, .v (vi (Ar.len aH))), (9, .v (vi s1.1)), (10, .v (vi s1.2))]) (fun s1 H1 => B4 Eq H0 [] H1) (fun x e l H1 => e = .exit 0 ∧ l = [(0, .v (.sl (Ar.lst eXI aH) .ro)), (1, .v (vi bK)), (2, .v (cE)), (8, .v (vi (Ar.len aH))), (9, .v (vi x))] ∧ B4 Eq H0 [] H1) (by kernel_rfl) ?_ hx ?_ hO ?_
 ·intro s1 H o hO h;clear hx;cbv;refine A6 hE h (fun hc h => ?_) (fun hc h => ?_)
  ·cbv;refine FW hE (Ek hE rfl) ?_;cbv;refine C2 hE eXR h fun x3 h => ?_;cbv;refine AI hE (g := fun r4 => vi r4) h (fun r4 hx => cJ x3 bK r4 hx) (.refl _) fun r4 h => ?_;cbv;refine A6 hE h (fun hc h => ?_) (fun hc h => ?_)
   ·cbv;cases h;exact ⟨_, rfl, .e2 (.e4 .z), rfl, hO⟩
   cbv;cases h;exact ⟨_, rfl, .e2 (.e4 .z), rfl, hO⟩
  cbv;cases h;exact ⟨_, _, rfl, ⟨rfl, rfl, hO⟩, .e rfl (.e4 .z), rfl⟩
 ·exact .e2 (.e4 .z)
 clear hx;rintro e l H ⟨rfl, rfl, hO⟩;cbv;refine A6 hE h (fun hc h => ?_) (fun hc h => ?_)
 ·cbv;refine C2 hE eXR h fun x5 h => ?_;cbv;refine AI hE (g := fun r6 => vi r6) h (fun r6 hx => cJ x5 bK r6 hx) (.refl _) fun r6 h => ?_;cbv;cases h;exact hK _ _ _ hO (.refl _)
 cbv;cases h;exact hK _ _ _ hO (.refl _)
theorem c164 (N aH aI r) (h : Q8 N aH aI = some r) : B6 prog 164 [(M5 aH), vi aI] (vi r) := by
 unfold Q8 at h
 refine J9 cf0 func164 call164 ntmps164 ?_;intro E H0 K hE hK hO;cbv;refine A6 hE h (fun hc h => ?_) (fun hc h => ?_)
 ·cbv;cases h;exact hK _ _ _ hO (.refl _)
 cbv;refine A6 hE h (fun hc h => ?_) (fun hc h => ?_)
 ·cbv;cases h;exact hK _ _ _ hO (.refl _)
 cbv;cases h;exact hK _ _ _ hO (.refl _)
theorem c124 (N aG aI r) (h : W0 N aG aI = some r) : B6 prog 124 [.sl (Ar.lst eXI aG) .ro, vi aI] (.bool r) := by
 unfold W0 at h
 refine J9 cf0 func124 call124 ntmps124 ?_;intro E H0 K hE hK hO;cbv;refine A7 hE (g := fun r1 => .tup [vi r1.1, .bool r1.2]) h (fun r1 hx => c163 N aG aI (.func (.func 164) [] []) (fun y1 y2 => Q8 N y1 y2) (fun y1 y2 r hx => B6.value (F := []) (C := []) (c164 N y1 y2 r hx)) r1 hx) (.refl _) fun r1 h => ?_;cbv;cases h;exact hK _ _ _ hO (.refl _)
theorem c91 (N aG aI r) (h : X8 N aG aI = some r) : B6 prog 91 [.sl (Ar.lst eXI aG) .ro, vi aI] (.tup [.bool r.1, vi r.2]) := by
 unfold X8 at h
 refine J9 cf0 func91 call91 ntmps91 ?_;intro E H0 K hE hK hO;cbv;refine A7 hE h (c94 N aG) (.refl _) fun r1 h => ?_;cbv;refine A6 hE h (fun hc h => ?_) (fun hc h => ?_)
 ·cbv;cases h;exact hK _ _ _ hO (.refl _)
 cbv;refine A7 hE h (c124 N aG aI) (.refl _) fun r2 h => ?_;cbv;cases h;exact hK _ _ _ hO (.refl _)
def cf40 : Cf := ⟨[], [(8, 11)], [], [], [], []⟩
theorem c40 (N aA aB r) (h : N1 N aA aB = some r) : B6 prog 40 [(E3 aA), (Av aB)] (.tup [.bool r.1, vi r.2]) := by
 unfold N1 at h
 refine J9 cf40 func40 call40 ntmps40 ?_;intro E H0 K hE hK hO;cbv;refine A7 hE h (c90 N ([aA])) (.cons (.lit _ (C7 ((eYg aA).symm) (B3))) (.refl _)) fun r1 h => ?_;cbv;refine A6 hE h (fun hc h => ?_) (fun hc h => ?_)
 ·cbv;cases h;exact hK _ _ _ hO (.refl _)
 cbv;refine D5 hE ?_;cbv;refine A6 hE h (fun hc h => ?_) (fun hc h => ?_)
 ·cbv;cases h;exact hK _ _ _ hO (.refl _)
 cbv;refine A6 hE h (fun hc h => ?_) (fun hc h => ?_)
 ·cbv;cases h;exact hK _ _ _ hO (.refl _)
 cbv;refine C2 hE eXP h fun x2 h => ?_;cbv;refine P2 hE (g := fun r3 => .tup [.bool r3.1, vi r3.2]) h (c91 N x2 aB.Num) (.refl _) fun r3 h => ?_;cbv;cases h;exact hK _ _ _ hO (.refl _)
theorem c92 (N aF aR r) (h : AA N aF aR = some r) : El prog 92 (fun yv => [yv, .eref (C1 aF) 0, .eref [vi aR] 0]) (List.map (fun (x : D0) => [(Bz x)]) r) UL := by
 unfold AA at h
 obtain ⟨⟨w0, u0⟩, h1, hr⟩ := bind_some h;clear h;have hr := O2 hr;subst hr;have h := h1;clear h1;refine K7 cf0 G7 func92 (by rfl) (by kernel_rfl) call92 ntmps92 (by rfl) (fun _ => rfl) ?_;intro yv I D hI hD hy tl F E H K hE hO hK hKD
 have hO : B4 (I (List.map (fun (x : D0) => [(Bz x)]) (w0 ++ []) ++ tl)) F [] H := by rw [List.append_nil]; exact hO
 cbv;refine D5 hE ?_;cbv;obtain ⟨w2, w3, s6, hx, h1, he⟩ := K2 h;clear h;have h := h1;clear h1
 rw [he, List.append_assoc] at hO
 clear he;refine FX cf0 hE G7 (γ := Unit) (fun s1 g => [(0, .v (yv)), (2, .v (.eref [vi aR] 0)), (7, .v (.sl (Ar.lst eXS aF.Moves) .ro)), (8, .v (vi (Ar.len aF.Moves))), (9, .v (vi s1))]) (fun s1 g w H1 => B4 (I (List.map (fun (x : D0) => [(Bz x)]) w ++ tl)) F [] H1) (fun x e l w H1 => e = .exit 0 ∧ l = [] ∧ B4 (I (List.map (fun (x : D0) => [(Bz x)]) w ++ tl)) F [] H1) (fun e l H1 => (e = .ret ∧ l = [] ∧ B4 D F [] H1)) (by kernel_rfl) ?_ (w' := w3 ++ []) () hx ?_ ?_ ?_ ?_
 ·rintro s1 _ w4 w5 H o hO h;clear hx
  skip
  cbv;refine A6 hE h (fun hc h => ?_) (fun hc h => ?_)
  ·cbv;refine C2 hE eXQ h fun x7 h => ?_;cbv;refine A6 hE h (fun hc h => ?_) (fun hc h => ?_)
   ·cbv;obtain ⟨w8, h1, he⟩ := P0 h;clear h;have h := h1;clear h1
    rw [he, List.append_assoc] at hO
    clear he;have hO : B4 (I ([(Bz x7)] :: (List.map (fun (x : D0) => [(Bz x)]) (w8 ++ w5) ++ tl))) F [] _ := hO;refine AF hE hI hD hy hO (.refl _) (fun H hO => ?_) (fun H hO => ?_)
    ·cbv;refine Fv hE (Ar.nt_eq _) ?_;cbv;obtain ⟨hw, rfl⟩ := C5 h
     rw [← hw] at hO
     exact ⟨_, (), rfl, .e rfl (.e4 .z), rfl, hO⟩
    clear h;cbv;refine Fu hE (Ar.nt_eq _) ?_;cbv;exact .inr ⟨_, ⟨rfl, rfl, hO⟩, .z, rfl⟩
   cbv;obtain ⟨hw, rfl⟩ := C5 h
   rw [← hw] at hO
   exact ⟨_, (), rfl, .e rfl (.e4 .z), rfl, hO⟩
  cbv;obtain ⟨hw, rfl⟩ := C5 h
  rw [← hw] at hO
  exact .inl ⟨_, _, rfl, ⟨rfl, rfl, hO⟩, .z, rfl⟩
 ·exact .e rfl (.e4 .z)
 ·exact hO
 ·rintro e l H ⟨rfl, rfl, hO⟩;clear hx;cbv;obtain ⟨hw, _⟩ := C5 h
  rw [← hw] at hO
  exact hK _ _ _ hO trivial
 rintro e l H hX;obtain ⟨rfl, rfl, hO⟩ := hX;clear h;cbv;exact hKD _ _ _ hO trivial
theorem c41 (N aB bX r) (h : N4 N aB bX = some r) : CA prog 41 [(H6 aB), vi bX] (fun v => DD prog v (r.map fun (x : D0) => [(Bz x)])) := by
 unfold N4 at h
 refine N7 cf0 G7 func41 (by rfl) (by kernel_rfl) call41 ntmps41 (by rfl) (by rfl) ?_;intro E H0 K hE hK;have hO : B4 Eq H0 [] H0 := .start B7 rfl;cbv;exact hK _ _ _ hO (N5 call92 (c92 N aB bX r h))
theorem c42 (N aA aH r) (h : K8 N aA aH = some r) : B6 prog 42 [(E3 aA), (Av aH)] (.bool r) := by
 unfold K8 at h
 refine J9 cf0 func42 call42 ntmps42 ?_;intro E H0 K hE hK hO;cbv;refine A7 hE h (c40 N aA aH) (.refl _) fun r1 h => ?_;cbv;cases h;exact hK _ _ _ hO (.refl _)
theorem c11 (N aB aW r) (h : BC N aB aW = some r) : B6 prog 11 [(H6 aB), .sl (Ar.lst eXN aW) .ro] (.tup [.bool r.1, vi r.2]) := by
 unfold BC at h
 refine J9 cf0 func11 call11 ntmps11 ?_;intro E H0 K hE hK hO;cbv;refine A7 hE h (c13 N aB) (.refl _) fun r1 h => ?_;cbv;refine A6 hE h (fun hc h => ?_) (fun hc h => ?_)
 ·cbv;cases h;exact hK _ _ _ hO (.refl _)
 cbv;refine D5 hE ?_;cbv;refine A6 hE h (fun hc h => ?_) (fun hc h => ?_)
 ·cbv;cases h;exact hK _ _ _ hO (.refl _)
 cbv;refine A7 hE h (c39 N aB.Types) (.refl _) fun r2 h => ?_;cbv;refine D5 hE ?_;cbv;obtain ⟨s4, hx, h⟩ := bind_some h;refine F3 cf0 hE G7 (fun s3 => [(1, .v (.sl (Ar.lst eXN aW) .ro)), (2, .v (.eref (C1 aB) 0)), (4, .b false), (5, .v (vi 0)), (7, .v (.eref (O6 r2.1) 0)), (34, .v (.sl (Ar.lst eXN aW) .ro)), (35, .v (vi (Ar.len aW))), (36, .v (vi s3))]) (fun s3 H1 => B4 Eq H0 [] H1) (fun x e l H1 => match (generalizing := false) x with | .inl y => e = .exit 0 ∧ l = [(1, .v (.sl (Ar.lst eXN aW) .ro)), (2, .v (.eref (C1 aB) 0)), (4, .b false), (5, .v (vi 0))] ∧ B4 Eq H0 [] H1 | .inr y => e = .ret ∧ l = [(4, .b false), (5, .v (vi y))] ∧ B4 Eq H0 [] H1) (by kernel_rfl) ?_ hx ?_ hO ?_
 ·intro s3 H o hO h;clear hx;cbv;refine A6 hE h (fun hc h => ?_) (fun hc h => ?_)
  ·cbv;refine C2 hE eYa h fun x5 h => ?_;cbv;refine A7 hE h (c40 N r2.1 x5) (.refl _) fun r6 h => ?_;cbv;refine A6 hE h (fun hc h => ?_) (fun hc h => ?_)
   ·cbv;cases h;exact ⟨_, _, rfl, ⟨rfl, rfl, hO⟩, .b rfl (.e rfl .z), rfl⟩
   cbv;cases h;exact ⟨_, rfl, .e2 (.b rfl (.e rfl (.e rfl (.e rfl (.e rfl (.e rfl (.z))))))), rfl, hO⟩
  cbv;cases h;exact ⟨_, _, rfl, ⟨rfl, rfl, hO⟩, .e2 (.b rfl (.e rfl (.z))), rfl⟩
 ·exact .e2 (.b rfl (.e rfl (.e rfl (.e rfl (.e rfl (.e rfl (.z)))))))
 clear hx
 rcases s4 with y7 | y65
 ·rintro e l H ⟨rfl, rfl, hO⟩;cbv;refine JO hE (.int .i64) (V.int .i64) V.bool hO fun m8 o9 H ho9 hO => ?_;cbv;refine Ft hE (kt := 3) (et := 4) (by kernel_rfl) (by kernel_rfl) (Z2 .i64) CJ hO ho9 0 rfl h fun l11 o10 H ho10 h hO => ?_;cbv;refine D5 hE ?_;cbv;obtain ⟨s17, hx, h⟩ := bind_some h;refine NV cf0 hE G7 (γ := Obj × Nat) (fun s13 g => [(2, .v (.eref (C1 aB) 0)), (4, .b false), (5, .v (vi 0)), (13, .v (.map g.2)), (52, .v (.sl (Ar.lst eXN aW) .ro)), (53, .v (vi (Ar.len aW))), (54, .v (vi s13.1))]) (fun s13 g ds16 H1 => DX (.int .i64) (V.int .i64) V.bool g.1 s13.2 ∧ True ∧ B4 Eq H0 (.blk g.2 (.obj g.1) :: CL ds16) H1) (fun x e l ds16 H1 => ∃ u1 : Obj, DX (.int .i64) (V.int .i64) V.bool u1 x ∧ ∃ u2 : Nat, True ∧ e = .exit 2 ∧ l = [(2, .v (.eref (C1 aB) 0)), (13, .v (.map u2))] ∧ B4 Eq H0 (.blk u2 (.obj u1) :: CL ds16) H1) (by kernel_rfl) ?_ (⟨o10, m8⟩) hx ?_ ?_ ?_
  ·rintro s13 ⟨q14, m15⟩ ds16 H o ⟨hq14, hm15, hO⟩ h;clear hx;cbv;refine A6 hE h (fun hc h => ?_) (fun hc h => ?_)
   ·cbv;refine C2 hE eYa h fun x18 h => ?_;cbv;refine JO hE (.int .i64) (V.int .i64) V.bool hO fun m19 o20 H ho20 hO => ?_;cbv;refine Qz hE (kt := 3) (et := 4) (by kernel_rfl) hO (hO.get 1 rfl) hq14 fun m21 b22 H hb22 hO => ?_;cbv;obtain ⟨s29, hx, h⟩ := bind_some h;refine IZ cf0 hE G7 (γ := Obj) (fun s24 g => [(2, .v (.eref (C1 aB) 0)), (4, .b false), (5, .v (vi 0)), (13, .v (.map m15)), (15, .v (.eref (K0 x18) 0)), (16, .v (.eref [.map m19] 0)), (52, .v (.sl (Ar.lst eXN aW) .ro)), (53, .v (vi (Ar.len aW))), (54, .v (vi s13.1)), (60, .v (.ref m21 0))]) (fun s24 g ds28 b26 H1 => DX (.int .i64) (V.int .i64) V.bool g s24 ∧ B4 Eq H0 (.blk m21 b26 :: .blk m19 (.obj g) :: .blk m15 (.obj q14) :: CL ds28) H1) (fun x e l ds28 H1 => ∃ u1 : Obj, DX (.int .i64) (V.int .i64) V.bool u1 x ∧ e = .exit 4 ∧ l = [(2, .v (.eref (C1 aB) 0)), (4, .b false), (5, .v (vi 0)), (16, .v (.eref [.map m19] 0)), (52, .v (.sl (Ar.lst eXN aW) .ro)), (53, .v (vi (Ar.len aW))), (54, .v (vi s13.1))] ∧ B4 Eq H0 (.blk m19 (.obj u1) :: .blk m15 (.obj q14) :: CL ds28) H1) (by kernel_rfl) ?_ o20 hx ?_ hb22 ?_ ?_
    ·rintro s24 q27 ds28 lf24 b26 H hb26 ⟨hq27, hO⟩ hs24;clear hx;cbv;refine QA hE hO hb26 0 rfl (hO.get 2 rfl) (fun hl => ?_) fun p25 l30 b31 H hpp25 hb31 hO => ?_
     ·cbv;refine Ix hE (fun hc => by cases hc) (fun hc => ?_);cbv;exact ⟨_, _, _, .inl ⟨hl, rfl⟩, ⟨q27, hq27.srt, rfl, rfl, hO.tail⟩, .e rfl (.b rfl (.e rfl (.e rfl (.e rfl (.e rfl (.e rfl (.z))))))), rfl⟩
     obtain ⟨o, h⟩ := hs24 p25 l30 hpp25;have h0p25 := h;cbv;refine Ix hE (fun hc => ?_) (fun hc => by cases hc);cbv;refine QB hE hO hb31 0 rfl (hO.get 2 rfl) ?_;cbv;refine Q0 hE h (c41 N aB p25.1) (.refl _) fun r32 v33 hv33 h => ?_;cbv;obtain ⟨o39, hx, h⟩ := bind_some h;refine AG cf0 hE G7 (ι := Unit) (enc := fun (x : D0) => [(Bz x)]) (fun (s35 : (List (Int × Bool))) F H => ∃ g : Obj, (DX (.int .i64) (V.int .i64) V.bool g s35) ∧ B4 Eq F (.blk m21 b31 :: .blk m19 (.obj g) :: .blk m15 (.obj q14) :: CL ds28) H) (fun (r : Unit) e F H => False) (fun i s35 y34 => [(15, .v (.eref (K0 x18) 0)), (16, .v (.eref [.map m19] 0)), (18, .v (.eref (MS y34) 0))]) (fun i s35 y34 F H => ∃ g : Obj, (DX (.int .i64) (V.int .i64) V.bool g s35) ∧ B4 Eq F (.blk m21 b31 :: .blk m19 (.obj g) :: .blk m15 (.obj q14) :: CL ds28) H) (fun _ => C6.ex fun _ => B4.stable B7 _) (fun _ _ => ⟨fun h => h.elim, fun _ _ h => h.elim⟩) (fun _ _ _ => C6.ex fun _ => B4.stable B7 _) hv33 hx (⟨q27, hq27, hO⟩) (by decide) (fun _ => rfl) (by kernel_rfl) (by kernel_rfl) ?_ ?_ ?_ ?_
     ·rintro E i37 y34 s35 F36 H hE ⟨q38, hq38, hO⟩;clear hx h;cbv;exact ⟨(), ⟨q38, hq38, hO⟩, .e rfl (.e2 .z), rfl⟩
     ·rintro E i37 _ y34 s35 F36 H o hE hF h ⟨q38, hq38, hO⟩;clear hx;cbv;refine MA hE (kt := 3) (et := 4) (by kernel_rfl) (by kernel_rfl) (Z2 .i64) (false : Bool) (by kernel_rfl) rfl hO hq38 1 rfl h fun r40 h => ?_;cbv;refine A6 hE h (fun hc h => ?_) (fun hc h => ?_)
      ·cbv;refine A7 hE h (c42 N y34.On x18) (.refl _) fun r41 h => ?_;cbv;refine A6 hE h (fun hc h => ?_) (fun hc h => ?_)
       ·cbv;refine Ft hE (kt := 3) (et := 4) (by kernel_rfl) (by kernel_rfl) (Z2 .i64) CJ hO hq38 1 rfl h fun l43 o42 H ho42 h hO => ?_;cbv;cases h;exact ⟨_, rfl, ⟨o42, ho42, hO⟩⟩
       cbv;cases h;exact ⟨_, rfl, ⟨q38, hq38, hO⟩⟩
      cbv;cases h;exact ⟨_, rfl, ⟨q38, hq38, hO⟩⟩
     ·rintro d44 s47 H rfl hd ⟨q48, hq48, hO⟩;have hO : B4 Eq H0 (.blk m21 b31 :: .blk m19 (.obj q48) :: .blk m15 (.obj q14) :: CL (d44 :: ds28)) H := B4.dbs1 (A := [_, _, _]) (ds := ds28) (B4.dblk hd hO);clear hd;clear hx;cbv;cases h;exact ⟨p25, l30, _, q48, b31, _, hpp25, h0p25, .e rfl (.b rfl (.e rfl (.e rfl (.e rfl (.e rfl (.e rfl (.e rfl (.e rfl (.e rfl (.z)))))))))), rfl, hb31.1, hq48, hO⟩
     rintro d r e H rfl hd hO;exact hO.elim
    ·exact .e rfl (.b rfl (.e rfl (.e rfl (.e rfl (.e rfl (.e rfl (.e rfl (.e rfl (.e rfl (.z))))))))))
    ·exact ⟨ho20, hO⟩
    clear hx;rintro e l ds28 H ⟨q49, hq49, rfl, rfl, hO⟩;cbv;have hO : B4 Eq H0 (.blk m15 (.obj q14) :: .blk m19 (.obj q49) :: CL ds28) H := hO.swp 0 1 rfl rfl;cases h;exact ⟨_, ⟨q49, m19⟩, _, rfl, .e rfl (.b rfl (.e rfl (.e rfl (.e rfl (.e rfl (.e rfl (.z))))))), rfl, hq49, trivial, hO.tail⟩
   cbv;cases h;exact ⟨_, _, _, rfl, ⟨q14, hq14, m15, trivial, rfl, rfl, hO⟩, .e2 .z, rfl⟩
  ·exact .e rfl (.b rfl (.e rfl (.e rfl (.e rfl (.e rfl (.e rfl (.z)))))))
  ·exact ⟨ho10, trivial, hO⟩
  clear hx;rintro e l ds16 H ⟨q50, hq50, m51, hm51, rfl, rfl, hO⟩;cbv;refine Qz hE (kt := 3) (et := 4) (by kernel_rfl) hO (hO.get 0 rfl) hq50 fun m52 b53 H hb53 hO => ?_;cbv;obtain ⟨s59, hx, h⟩ := bind_some h;refine IZ cf0 hE G7 (γ := Unit) (fun s55 _ => [(2, .v (.eref (C1 aB) 0)), (86, .v (.ref m52 0))]) (fun s55 _ ds58 b57 H1 => B4 Eq H0 (.blk m52 b57 :: .blk m51 (.obj q50) :: CL ds58) H1) (fun x e l ds58 H1 => match (generalizing := false) x with | .inl y => e = .exit 8 ∧ l = [] ∧ B4 Eq H0 (.blk m51 (.obj q50) :: CL ds58) H1 | .inr y => e = .ret ∧ l = [(4, .b true), (5, .v (vi 0))] ∧ B4 Eq H0 (.blk m51 (.obj q50) :: CL ds58) H1) (by kernel_rfl) ?_ () hx ?_ hb53 ?_ ?_
  ·rintro s55 _ ds58 lf55 b57 H hb57 hO hs55;clear hx;cbv;refine QA hE hO hb57 0 rfl (hO.get 1 rfl) (fun hl => ?_) fun p56 l60 b61 H hpp56 hb61 hO => ?_
   ·cbv;refine Ix hE (fun hc => by cases hc) (fun hc => ?_);cbv;exact ⟨_, _, _, .inl ⟨hl, rfl⟩, ⟨rfl, rfl, hO.tail⟩, .z, rfl⟩
   obtain ⟨o, h⟩ := hs55 p56 l60 hpp56;have h0p56 := h;cbv;refine Ix hE (fun hc => ?_) (fun hc => by cases hc);cbv;refine QB hE hO hb61 0 rfl (hO.get 1 rfl) ?_;cbv;refine C2 hE (fun _ => rfl) h fun x62 h => ?_;cbv;refine A6 hE h (fun hc h => ?_) (fun hc h => ?_)
   ·cbv;cases h;exact ⟨_, _, _, .inr ⟨p56, l60, hpp56, h0p56⟩, ⟨rfl, rfl, hO.tail⟩, .b rfl (.e rfl .z), rfl⟩
   cbv;cases h;exact ⟨p56, l60, _, (), b61, _, hpp56, h0p56, .e2 .z, rfl, hb61.1, hO⟩
  ·exact .e2 .z
  ·exact hO
  clear hx
  rcases s59 with y63 | y64
  ·rintro e l ds58 H ⟨rfl, rfl, hO⟩;cbv
   rcases ds58 with _ | ⟨d0, ds58⟩
   ·cbv;have hO : B4 _ _ [.blk m51 (.obj q50)] H := hO;cases h;exact hK _ _ _ hO (.refl _)
   cbv;refine HU (A := [_]) (ds := d0 :: ds58) hE hO fun H hO => ?_;cbv;cases h;exact hK _ _ _ hO (.refl _)
  rintro e l ds58 H ⟨rfl, rfl, hO⟩;cbv
  rcases ds58 with _ | ⟨d0, ds58⟩
  ·cbv;have hO : B4 _ _ [.blk m51 (.obj q50)] H := hO;cases h;exact hK _ _ _ hO (.refl _)
  cbv;refine HU (A := [_]) (ds := d0 :: ds58) hE hO fun H hO => ?_;cbv;cases h;exact hK _ _ _ hO (.refl _)
 rintro e l H ⟨rfl, rfl, hO⟩;cbv;cases h;exact hK _ _ _ hO (.refl _)
theorem c167 (N bA r) (h : CC N bA = some r) : B6 prog 167 [.int .u8 bA] (.bool r) := by
 unfold CC at h
 refine J9 cf0 func167 call167 ntmps167 ?_;intro E H0 K hE hK hO;cbv;cases h;exact hK _ _ _ hO (.refl _)
theorem c168 (N bA r) (h : DG N bA = some r) : B6 prog 168 [.int .u8 bA] (.bool r) := by
 unfold DG at h
 refine J9 cf0 func168 call168 ntmps168 ?_;intro E H0 K hE hK hO;cbv;cases h;exact hK _ _ _ hO (.refl _)
theorem c128 (N aB r) (h : Dq N aB = some r) : B6 prog 128 [.str aB] (.bool r) := by
 unfold Dq at h
 refine J9 cf0 func128 call128 ntmps128 ?_;intro E H0 K hE hK hO;cbv;refine A6 hE h (fun hc h => ?_) (fun hc h => ?_)
 ·cbv;cases h;exact hK _ _ _ hO (.refl _)
 cbv;refine Hg hE h fun h => ?_;cbv;refine A7 hE h (c167 N (Ar.sat aB 0)) (.refl _) fun r1 h => ?_;cbv;refine A6 hE h (fun hc h => ?_) (fun hc h => ?_)
 ·cbv;cases h;exact hK _ _ _ hO (.refl _)
 cbv;obtain ⟨s3, hx, h⟩ := bind_some h;refine F3 cf0 hE G7 (fun s2 => [(0, .v (.str aB)), (18, .v (vi (Ar.slen aB))), (19, .v (vi s2))]) (fun s2 H1 => B4 Eq H0 [] H1) (fun x e l H1 => match (generalizing := false) x with | .inl y => e = .exit 0 ∧ l = [] ∧ B4 Eq H0 [] H1 | .inr y => e = .ret ∧ l = [(2, .b false)] ∧ B4 Eq H0 [] H1) (by kernel_rfl) ?_ hx ?_ hO ?_
 ·intro s2 H o hO h;clear hx;cbv;refine A6 hE h (fun hc h => ?_) (fun hc h => ?_)
  ·cbv;refine Hg hE h fun h => ?_;cbv;refine A7 hE h (c168 N (Ar.sat aB s2)) (.refl _) fun r4 h => ?_;cbv;refine A6 hE h (fun hc h => ?_) (fun hc h => ?_)
   ·cbv;refine Hg hE h fun h => ?_;cbv;refine A7 hE h (c167 N (Ar.sat aB s2)) (.refl _) fun r5 h => ?_;cbv;refine A6 hE h (fun hc h => ?_) (fun hc h => ?_)
    ·cbv;cases h;exact ⟨_, _, rfl, ⟨rfl, rfl, hO⟩, .b rfl (.z), rfl⟩
    cbv;cases h;exact ⟨_, rfl, .e rfl (.e2 .z), rfl, hO⟩
   cbv;cases h;exact ⟨_, rfl, .e rfl (.e2 .z), rfl, hO⟩
  cbv;cases h;exact ⟨_, _, rfl, ⟨rfl, rfl, hO⟩, .z, rfl⟩
 ·exact .e rfl (.e2 .z)
 clear hx
 rcases s3 with y6 | y7
 ·rintro e l H ⟨rfl, rfl, hO⟩;cbv;cases h;exact hK _ _ _ hO (.refl _)
 rintro e l H ⟨rfl, rfl, hO⟩;cbv;cases h;exact hK _ _ _ hO (.refl _)
theorem c129 (N aB r) (h : BE N aB = some r) : B6 prog 129 [.str aB] (.bool r) := by
 unfold BE at h
 refine J9 cf0 func129 call129 ntmps129 ?_;intro E H0 K hE hK hO;cbv;refine A7 hE h (c128 N aB) (.refl _) fun r1 h => ?_;cbv;cases h;exact hK _ _ _ hO (.refl _)
theorem c96 (N aB r) (h : Ev N aB = some r) : B6 prog 96 [(Nj aB)] (vi r) := by
 unfold Ev at h
 refine J9 cf0 func96 call96 ntmps96 ?_;intro E H0 K hE hK hO;cbv;refine A7 hE h (c128 N aB.Name) (.refl _) fun r1 h => ?_;cbv;refine A6 hE h (fun hc h => ?_) (fun hc h => ?_)
 ·cbv;cases h;exact hK _ _ _ hO (.refl _)
 cbv;refine D5 hE ?_;cbv;refine A6 hE h (fun hc h => ?_) (fun hc h => ?_)
 ·cbv;cases h;exact hK _ _ _ hO (.refl _)
 cbv;refine JO hE .string V.str V.bool hO fun m2 o3 H ho3 hO => ?_;cbv;refine D5 hE ?_;cbv;obtain ⟨s6, hx, h⟩ := bind_some h;refine I6 cf0 hE G7 (γ := Obj) (fun s4 g => [(3, .v (.map m2)), (16, .v (.sl (Ar.lst eYc aB.Fields) .ro)), (17, .v (vi (Ar.len aB.Fields))), (18, .v (vi s4.1))]) (fun s4 g H1 => DX .string V.str V.bool g s4.2 ∧ B4 Eq H0 [.blk m2 (.obj g)] H1) (fun x e l H1 => match (generalizing := false) x with | .inl y => ∃ u1 : Obj, DX .string V.str V.bool u1 y ∧ e = .exit 0 ∧ l = [] ∧ B4 Eq H0 [.blk m2 (.obj u1)] H1 | .inr y => ∃ u1 : Obj, DX .string V.str V.bool u1 y.2 ∧ e = .ret ∧ l = [(2, .v (vi y.1))] ∧ B4 Eq H0 [.blk m2 (.obj u1)] H1) (by kernel_rfl) ?_ o3 hx ?_ ?_ ?_
 ·rintro s4 q5 H o ⟨hq5, hO⟩ h;clear hx;cbv;refine A6 hE h (fun hc h => ?_) (fun hc h => ?_)
  ·cbv;refine C2 hE eYq h fun x7 h => ?_;cbv;refine A7 hE h (c129 N x7.Name) (.refl _) fun r8 h => ?_;cbv;refine A6 hE h (fun hc h => ?_) (fun hc h => ?_)
   ·cbv;cases h;exact ⟨_, _, rfl, ⟨q5, hq5, rfl, rfl, hO⟩, .e rfl .z, rfl⟩
   cbv;refine MA hE (kt := 9) (et := 4) (by kernel_rfl) (by kernel_rfl) Hi (false : Bool) (by kernel_rfl) rfl hO hq5 0 rfl h fun r9 h => ?_;cbv;refine A6 hE h (fun hc h => ?_) (fun hc h => ?_)
   ·cbv;cases h;exact ⟨_, _, rfl, ⟨q5, hq5, rfl, rfl, hO⟩, .e rfl .z, rfl⟩
   cbv;refine A6 hE h (fun hc h => ?_) (fun hc h => ?_)
   ·cbv;cases h;exact ⟨_, _, rfl, ⟨q5, hq5, rfl, rfl, hO⟩, .e rfl .z, rfl⟩
   cbv;refine Ft hE (kt := 9) (et := 4) (by kernel_rfl) (by kernel_rfl) Hi CJ hO hq5 0 rfl h fun l11 o10 H ho10 h hO => ?_;cbv;cases h;exact ⟨_, o10, rfl, .e4 .z, rfl, ho10, hO⟩
  cbv;cases h;exact ⟨_, _, rfl, ⟨q5, hq5, rfl, rfl, hO⟩, .z, rfl⟩
 ·exact .e4 .z
 ·exact ⟨ho3, hO⟩
 clear hx
 rcases s6 with y12 | y14
 ·rintro e l H ⟨q13, hq13, rfl, rfl, hO⟩;cbv;cases h;exact hK _ _ _ hO (.refl _)
 rintro e l H ⟨q15, hq15, rfl, rfl, hO⟩;cbv;cases h;exact hK _ _ _ hO (.refl _)
theorem c51 (N aG r) (h : W8 N aG = some r) : B6 prog 51 [.sl (Ar.lst eXW aG) .ro] (vi r) := by
 unfold W8 at h
 refine J9 cf0 func51 call51 ntmps51 ?_;intro E H0 K hE hK hO;cbv;refine D5 hE ?_;cbv;refine A6 hE h (fun hc h => ?_) (fun hc h => ?_)
 ·cbv;cases h;exact hK _ _ _ hO (.refl _)
 cbv;refine JO hE .string V.str V.bool hO fun m1 o2 H ho2 hO => ?_;cbv;refine D5 hE ?_;cbv;obtain ⟨s5, hx, h⟩ := bind_some h;refine I6 cf0 hE G7 (γ := Obj) (fun s3 g => [(3, .v (.map m1)), (11, .v (.sl (Ar.lst eXW aG) .ro)), (12, .v (vi (Ar.len aG))), (13, .v (vi s3.1))]) (fun s3 g H1 => DX .string V.str V.bool g s3.2 ∧ B4 Eq H0 [.blk m1 (.obj g)] H1) (fun x e l H1 => match (generalizing := false) x with | .inl y => ∃ u1 : Obj, DX .string V.str V.bool u1 y ∧ e = .exit 0 ∧ l = [] ∧ B4 Eq H0 [.blk m1 (.obj u1)] H1 | .inr y => ∃ u1 : Obj, DX .string V.str V.bool u1 y.2 ∧ e = .ret ∧ l = [(2, .v (vi y.1))] ∧ B4 Eq H0 [.blk m1 (.obj u1)] H1) (by kernel_rfl) ?_ o2 hx ?_ ?_ ?_
 ·rintro s3 q4 H o ⟨hq4, hO⟩ h;clear hx;cbv;refine A6 hE h (fun hc h => ?_) (fun hc h => ?_)
  ·cbv;refine C2 hE eYk h fun x6 h => ?_;cbv;refine A7 hE h (c96 N x6) (.refl _) fun r7 h => ?_;cbv;refine A6 hE h (fun hc h => ?_) (fun hc h => ?_)
   ·cbv;cases h;exact ⟨_, _, rfl, ⟨q4, hq4, rfl, rfl, hO⟩, .e rfl .z, rfl⟩
   cbv;refine MA hE (kt := 9) (et := 4) (by kernel_rfl) (by kernel_rfl) Hi (false : Bool) (by kernel_rfl) rfl hO hq4 0 rfl h fun r8 h => ?_;cbv;refine A6 hE h (fun hc h => ?_) (fun hc h => ?_)
   ·cbv;cases h;exact ⟨_, _, rfl, ⟨q4, hq4, rfl, rfl, hO⟩, .e rfl .z, rfl⟩
   cbv;refine Ft hE (kt := 9) (et := 4) (by kernel_rfl) (by kernel_rfl) Hi CJ hO hq4 0 rfl h fun l10 o9 H ho9 h hO => ?_;cbv;cases h;exact ⟨_, o9, rfl, .e4 .z, rfl, ho9, hO⟩
  cbv;cases h;exact ⟨_, _, rfl, ⟨q4, hq4, rfl, rfl, hO⟩, .z, rfl⟩
 ·exact .e4 .z
 ·exact ⟨ho2, hO⟩
 clear hx
 rcases s5 with y11 | y13
 ·rintro e l H ⟨q12, hq12, rfl, rfl, hO⟩;cbv;cases h;exact hK _ _ _ hO (.refl _)
 rintro e l H ⟨q14, hq14, rfl, rfl, hO⟩;cbv;cases h;exact hK _ _ _ hO (.refl _)
theorem c255 (N : Nat) : ∀ n aA r, CD N n aA = some r → El prog 255 (fun yv => [(B9 aA), yv]) (List.map (fun (x : A4) => [(B9 x)]) r) rbB := by
 intro n
 induction n with
 | zero => intro aA r h; cases h
 | succ n ih =>
 intro aA r h
 unfold CD at h
 obtain ⟨⟨w0, u0⟩, h1, hr⟩ := bind_some h;clear h;have hr := O2 hr;subst hr;have h := h1;clear h1;refine K7 cf0 G7 func255 (by rfl) (by kernel_rfl) call255 ntmps255 (by rfl) (fun _ => rfl) ?_;intro yv I D hI hD hy tl F E H K hE hO hK hKD
 have hO : B4 (I (List.map (fun (x : A4) => [(B9 x)]) (w0 ++ []) ++ tl)) F [] H := by rw [List.append_nil]; exact hO
 cbv;obtain ⟨w1, h1, he⟩ := P0 h;clear h;have h := h1;clear h1
 rw [he, List.append_assoc] at hO
 clear he;have hO : B4 (I ([(B9 aA)] :: (List.map (fun (x : A4) => [(B9 x)]) (w1 ++ []) ++ tl))) F [] _ := hO;refine AF hE hI hD hy hO (.refl _) (fun H hO => ?_) (fun H hO => ?_)
 ·cbv;refine Fv hE (Ar.nt_eq _) ?_;cbv;refine D5 hE ?_;cbv;obtain ⟨w3, w4, s7, hx, h1, he⟩ := K2 h;clear h;have h := h1;clear h1
  rw [he, List.append_assoc] at hO
  clear he;refine FX cf0 hE G7 (γ := Unit) (fun s2 g => [(1, .v (yv)), (12, .v (.sl (Ar.lst eXJ aA.Args) .ro)), (13, .v (vi (Ar.len aA.Args))), (14, .v (vi s2))]) (fun s2 g w H1 => B4 (I (List.map (fun (x : A4) => [(B9 x)]) w ++ tl)) F [] H1) (fun x e l w H1 => e = .exit 0 ∧ l = [] ∧ B4 (I (List.map (fun (x : A4) => [(B9 x)]) w ++ tl)) F [] H1) (fun e l H1 => (e = .ret ∧ l = [(4, .b false)] ∧ B4 D F [] H1)) (by kernel_rfl) ?_ (w' := w4 ++ []) () hx ?_ ?_ ?_ ?_
  ·rintro s2 _ w5 w6 H o hO h;clear hx
   skip
   cbv;refine A6 hE h (fun hc h => ?_) (fun hc h => ?_)
   ·cbv;refine C2 hE eXO h fun x8 h => ?_;cbv;obtain ⟨l9, hl, h⟩ := bind_some h;obtain ⟨w10, h1, he⟩ := P0 h;clear h;have h := h1;clear h1
    rw [he, List.append_assoc] at hO
    clear he
    rw [List.map_append, List.append_assoc] at hO
    refine Tr hE hI hD hy (ih x8 l9 hl) hO (.refl _) (fun v H hb hO => ?_) (fun v H hb hO => ?_)
    ·cases hb;clear hl;cbv;refine Fv hE (Ar.nt_eq _) ?_;cbv;obtain ⟨hw, rfl⟩ := C5 h
     rw [← hw] at hO
     exact ⟨_, (), rfl, .e4 .z, rfl, hO⟩
    cases hb;clear h hl;cbv;refine Fu hE (Ar.nt_eq _) ?_;cbv;exact .inr ⟨_, ⟨rfl, rfl, hO⟩, .b rfl (.z), rfl⟩
   cbv;obtain ⟨hw, rfl⟩ := C5 h
   rw [← hw] at hO
   exact .inl ⟨_, _, rfl, ⟨rfl, rfl, hO⟩, .z, rfl⟩
  ·exact .e4 .z
  ·exact hO
  ·rintro e l H ⟨rfl, rfl, hO⟩;clear hx;cbv;obtain ⟨hw, _⟩ := C5 h
   rw [← hw] at hO
   exact hK _ _ _ hO rfl
  rintro e l H hX;obtain ⟨rfl, rfl, hO⟩ := hX;clear h;cbv;exact hKD _ _ _ hO rfl
 clear h;cbv;refine Fu hE (Ar.nt_eq _) ?_;cbv;exact hKD _ _ _ hO rfl
theorem c254 (N aF r) (h : AL N aF = some r) : El prog 254 (fun yv => [yv, .eref (D3 aF) 0]) (List.map (fun (x : A4) => [(B9 x)]) r) UL := by
 unfold AL at h
 obtain ⟨⟨w0, u0⟩, h1, hr⟩ := bind_some h;clear h;have hr := O2 hr;subst hr;have h := h1;clear h1;refine K7 cf0 G7 func254 (by rfl) (by kernel_rfl) call254 ntmps254 (by rfl) (fun _ => rfl) ?_;intro yv I D hI hD hy tl F E H K hE hO hK hKD
 have hO : B4 (I (List.map (fun (x : A4) => [(B9 x)]) (w0 ++ []) ++ tl)) F [] H := by rw [List.append_nil]; exact hO
 cbv;obtain ⟨l1, hl, h⟩ := bind_some h;obtain ⟨w2, h1, he⟩ := P0 h;clear h;have h := h1;clear h1
 rw [he, List.append_assoc] at hO
 clear he
 rw [List.map_append, List.append_assoc] at hO
 refine Tr hE hI hD hy (c255 N N aF l1 hl) hO (.refl _) (fun v H hb hO => ?_) (fun v H hb hO => ?_)
 ·cases hb;clear hl;cbv;obtain ⟨hw, _⟩ := C5 h
  rw [← hw] at hO
  exact hK _ _ _ hO trivial
 cases hb;clear h hl;cbv;exact hKD _ _ _ hO trivial
theorem c216 (N aA r) (h : U7 N aA = some r) : CA prog 216 [(B9 aA)] (fun v => DD prog v (r.map fun (x : A4) => [(B9 x)])) := by
 unfold U7 at h
 refine N7 cf0 G7 func216 (by rfl) (by kernel_rfl) call216 ntmps216 (by rfl) (by rfl) ?_;intro E H0 K hE hK;have hO : B4 Eq H0 [] H0 := .start B7 rfl;cbv;exact hK _ _ _ hO (N5 call254 (c254 N aA r h))
def cf172 : Cf := ⟨[5, 6, 7], [(11, 5)], [(18, 7)], [], [], []⟩
theorem c172 (N aA r) (h : BU N aA = some r) : B6 prog 172 [(B9 aA)] (.tup [vi r.1, vi r.2.1, .bool r.2.2]) := by
 unfold BU at h
 refine J9 cf172 func172 call172 ntmps172 ?_;intro E H0 K hE hK hO;cbv;refine C8 hE hO fun b1 H hO => ?_;cbv;refine C8 hE hO fun b2 H hO => ?_;cbv;refine C8 hE hO fun b3 H hO => ?_;cbv;refine A8 hE hO 2 rfl rfl fun H hO => ?_;cbv;refine A8 hE hO 1 rfl rfl fun H hO => ?_;cbv;refine A8 hE hO 0 rfl rfl fun H hO => ?_;cbv;refine Q0 hE h (c216 N aA) (.refl _) fun r4 v5 hv5 h => ?_;cbv;obtain ⟨o10, hx, h⟩ := bind_some h;refine AG cf172 hE G7 (ι := Unit) (enc := fun (x : A4) => [(B9 x)]) (fun (s7 : Bool × Int × Int) F H => B4 Eq F [.blk b3 (.cells [.bool s7.1]), .blk b2 (.cells [vi s7.2.1]), .blk b1 (.cells [vi s7.2.2])] H) (fun (r : Unit) e F H => False) (fun i s7 y6 => [(5, .v (.ref b1 0)), (6, .v (.ref b2 0)), (7, .v (.ref b3 0)), (8, .v (.eref (D3 y6) 0))]) (fun i s7 y6 F H => B4 Eq F [.blk b3 (.cells [.bool s7.1]), .blk b2 (.cells [vi s7.2.1]), .blk b1 (.cells [vi s7.2.2])] H) (fun _ => B4.stable B7 _) (fun _ _ => ⟨fun h => h.elim, fun _ _ h => h.elim⟩) (fun _ _ _ => B4.stable B7 _) hv5 hx (hO) (by decide) (fun _ => rfl) (by kernel_rfl) (by kernel_rfl) ?_ ?_ ?_ ?_
 ·rintro E i9 y6 s7 F8 H hE hO;clear hx h;cbv;exact ⟨(), hO, .e4 .z, rfl⟩
 ·rintro E i9 _ y6 s7 F8 H o hE hF h hO;clear hx;cbv;refine Ts hE (g := fun x => (EU x)) (l := K3) rfl (fun _ => rfl) rfl rfl h fun x11 h => ?_;cbv;obtain ⟨s12, hx, h⟩ := bind_some h;refine J8 cf172 hE G7 (fun e l H1 => e = .normal ∧ l = [(6, .v (.ref b2 0)), (7, .v (.ref b3 0)), (8, .v (.eref (D3 y6) 0)), (9, .v (.eref (Ct x11) 0))] ∧ B4 Eq F8 [.blk b3 (.cells [.bool s12.1]), .blk b2 (.cells [vi s7.2.1]), .blk b1 (.cells [vi s12.2])] H1) (by kernel_rfl) ?_ ?_
  ·clear h;have h := hx;clear hx;cbv;refine A6 hE h (fun hc h => ?_) (fun hc h => ?_)
   ·cbv;refine B1 hE hO 0 rfl ?_;cbv;refine B1 hE hO 2 rfl ?_;cbv;refine A8 hE hO 0 rfl rfl fun H hO => ?_;cbv;refine B1 hE hO 2 rfl ?_;cbv;refine A8 hE hO 2 rfl rfl fun H hO => ?_;cbv;cases h;exact ⟨_, ⟨rfl, rfl, hO⟩, .e4 .z, rfl⟩
   cbv;cases h;exact ⟨_, ⟨rfl, rfl, hO⟩, .e4 .z, rfl⟩
  clear hx;rintro e l H ⟨rfl, rfl, hO⟩;cbv;refine A6 hE h (fun hc h => ?_) (fun hc h => ?_)
  ·cbv;refine B1 hE hO 0 rfl ?_;cbv;refine B1 hE hO 1 rfl ?_;cbv;refine A8 hE hO 0 rfl rfl fun H hO => ?_;cbv;refine B1 hE hO 1 rfl ?_;cbv;refine A8 hE hO 1 rfl rfl fun H hO => ?_;cbv;cases h;exact ⟨_, rfl, hO⟩
  cbv;cases h;exact ⟨_, rfl, hO⟩
 ·rintro d13 s15 H rfl hd hO;have hO : B4 Eq H0 [.blk b3 (.cells [.bool s15.1]), .blk b2 (.cells [vi s15.2.1]), .blk b1 (.cells [vi s15.2.2]), .blk d13 DB] H := B4.dblk hd hO;clear hd;clear hx;cbv;refine B1 hE hO 2 rfl ?_;cbv;refine B1 hE hO 1 rfl ?_;cbv;refine B1 hE hO 0 rfl ?_;cbv;refine Ax hE hO 3 rfl fun H hO => ?_;cbv;cases h;exact hK _ _ _ hO (.refl _)
 rintro d r e H rfl hd hO;exact hO.elim
theorem c218 (N : Nat) : ∀ n aA r, CE N n aA = some r → B6 prog 218 [(B9 aA)] (.tup [vi r.1, vi r.2]) := by
 intro n
 induction n with
 | zero => intro aA r h; cases h
 | succ n ih =>
 intro aA r h
 unfold CE at h
 refine J9 cf0 func218 call218 ntmps218 ?_;intro E H0 K hE hK hO;cbv;refine D5 hE ?_;cbv;obtain ⟨s2, hx, h⟩ := bind_some h;refine F3 cf0 hE G7 (fun s1 => [(4, .v (vi s1.1)), (5, .v (vi s1.2.1)), (11, .v (.sl (Ar.lst eXJ aA.Args) .ro)), (12, .v (vi (Ar.len aA.Args))), (13, .v (vi s1.2.2))]) (fun s1 H1 => B4 Eq H0 [] H1) (fun x e l H1 => e = .exit 0 ∧ l = [(4, .v (vi x.1)), (5, .v (vi x.2))] ∧ B4 Eq H0 [] H1) (by kernel_rfl) ?_ hx ?_ hO ?_
 ·intro s1 H o hO h;clear hx;cbv;refine A6 hE h (fun hc h => ?_) (fun hc h => ?_)
  ·cbv;refine C2 hE eXO h fun x3 h => ?_;cbv;refine A7 hE h (ih x3) (.refl _) fun r4 h => ?_;cbv;cases h;exact ⟨_, rfl, .e rfl (.e4 .z), rfl, hO⟩
  cbv;cases h;exact ⟨_, _, rfl, ⟨rfl, rfl, hO⟩, .e2 .z, rfl⟩
 ·exact .e rfl (.e4 .z)
 clear hx;rintro e l H ⟨rfl, rfl, hO⟩;cbv;cases h;exact hK _ _ _ hO (.refl _)
theorem c178 (N : Nat) : ∀ n aD r, Gc N n aD = some r → B6 prog 178 [(An aD)] (.tup [vi r.1, vi r.2]) := by
 intro n
 induction n with
 | zero => intro aD r h; cases h
 | succ n ih =>
 intro aD r h
 unfold Gc at h
 refine J9 cf0 func178 call178 ntmps178 ?_;intro E H0 K hE hK hO;cbv;refine D5 hE ?_;cbv;obtain ⟨s2, hx, h⟩ := bind_some h;refine F3 cf0 hE G7 (fun s1 => [(4, .v (vi s1.1)), (5, .v (vi s1.2.1)), (11, .v (.sl (Ar.lst eXL aD.Args) .ro)), (12, .v (vi (Ar.len aD.Args))), (13, .v (vi s1.2.2))]) (fun s1 H1 => B4 Eq H0 [] H1) (fun x e l H1 => e = .exit 0 ∧ l = [(4, .v (vi x.1)), (5, .v (vi x.2))] ∧ B4 Eq H0 [] H1) (by kernel_rfl) ?_ hx ?_ hO ?_
 ·intro s1 H o hO h;clear hx;cbv;refine A6 hE h (fun hc h => ?_) (fun hc h => ?_)
  ·cbv;refine C2 hE eXV h fun x3 h => ?_;cbv;refine A7 hE h (ih x3) (.refl _) fun r4 h => ?_;cbv;cases h;exact ⟨_, rfl, .e rfl (.e4 .z), rfl, hO⟩
  cbv;cases h;exact ⟨_, _, rfl, ⟨rfl, rfl, hO⟩, .e2 .z, rfl⟩
 ·exact .e rfl (.e4 .z)
 clear hx;rintro e l H ⟨rfl, rfl, hO⟩;cbv;cases h;exact hK _ _ _ hO (.refl _)
theorem c179 (N : Nat) : ∀ (n : Nat) (aD : G2) (aV : V) (aO : G2 → Option Int) (bC : ∀ y1 q, aO y1 = some q → R4 prog aV [(An y1)] (vi q)) (r : Int), EG N n aD aO = some r → B6 prog 179 [(An aD), aV] (vi r) := by
 intro n
 induction n with
 | zero => intro aD aV aO bC r h; cases h
 | succ n ih =>
 intro aD aV aO bC r h
 unfold EG at h
 refine J9 cf0 func179 call179 ntmps179 ?_;intro E H0 K hE hK hO;cbv;refine AI hE (g := fun r1 => vi r1) h (fun r1 hx => bC aD r1 hx) (.refl _) fun r1 h => ?_;cbv;refine A6 hE h (fun hc h => ?_) (fun hc h => ?_)
 ·cbv;cases h;exact hK _ _ _ hO (.refl _)
 cbv;refine D5 hE ?_;cbv;obtain ⟨s3, hx, h⟩ := bind_some h;refine F3 cf0 hE G7 (fun s2 => [(1, .v (aV)), (16, .v (.sl (Ar.lst eXL aD.Args) .ro)), (17, .v (vi (Ar.len aD.Args))), (18, .v (vi s2))]) (fun s2 H1 => B4 Eq H0 [] H1) (fun x e l H1 => match (generalizing := false) x with | .inl y => e = .exit 0 ∧ l = [] ∧ B4 Eq H0 [] H1 | .inr y => e = .ret ∧ l = [(4, .v (vi y))] ∧ B4 Eq H0 [] H1) (by kernel_rfl) ?_ hx ?_ hO ?_
 ·intro s2 H o hO h;clear hx;cbv;refine A6 hE h (fun hc h => ?_) (fun hc h => ?_)
  ·cbv;refine C2 hE eXV h fun x4 h => ?_;cbv;refine A7 hE h (ih x4 aV aO bC) (.refl _) fun r5 h => ?_;cbv;refine A6 hE h (fun hc h => ?_) (fun hc h => ?_)
   ·cbv;cases h;exact ⟨_, _, rfl, ⟨rfl, rfl, hO⟩, .e rfl .z, rfl⟩
   cbv;cases h;exact ⟨_, rfl, .e4 .z, rfl, hO⟩
  cbv;cases h;exact ⟨_, _, rfl, ⟨rfl, rfl, hO⟩, .z, rfl⟩
 ·exact .e4 .z
 clear hx
 rcases s3 with y6 | y7
 ·rintro e l H ⟨rfl, rfl, hO⟩;cbv;cases h;exact hK _ _ _ hO (.refl _)
 rintro e l H ⟨rfl, rfl, hO⟩;cbv;cases h;exact hK _ _ _ hO (.refl _)
theorem c220 (N aL r) (h : GJ N aL = some r) : B6 prog 220 [vi aL] (.tup [vi r.1, .bool r.2]) := by
 unfold GJ at h
 refine J9 cf0 func220 call220 ntmps220 ?_;intro E H0 K hE hK hO;cbv;refine A6 hE h (fun hc h => ?_) (fun hc h => ?_)
 ·cbv;cases h;exact hK _ _ _ hO (.refl _)
 cbv;refine A6 hE h (fun hc h => ?_) (fun hc h => ?_)
 ·cbv;cases h;exact hK _ _ _ hO (.refl _)
 cbv;refine A6 hE h (fun hc h => ?_) (fun hc h => ?_)
 ·cbv;cases h;exact hK _ _ _ hO (.refl _)
 cbv;cases h;exact hK _ _ _ hO (.refl _)
def cf221 : Cf := ⟨[], [], [(5, 4)], [], [], []⟩
theorem c221 (N aL r) (h : Ic N aL = some r) : B6 prog 221 [vi aL] (.tup [.bool r.1, .bool r.2]) := by
 unfold Ic at h
 refine J9 cf221 func221 call221 ntmps221 ?_;intro E H0 K hE hK hO;cbv;obtain ⟨s1, hx, h⟩ := bind_some h;refine J8 cf221 hE G7 (fun e l H1 => e = .normal ∧ l = [(4, .v (vi aL)), (5, .v (.bool s1))] ∧ B4 Eq H0 [] H1) (by kernel_rfl) ?_ ?_
 ·clear h;have h := hx;clear hx;cbv;refine A6 hE h (fun hc h => ?_) (fun hc h => ?_)
  ·cbv;cases h;exact ⟨_, ⟨rfl, rfl, hO⟩, .e2 .z, rfl⟩
  cbv;cases h;exact ⟨_, ⟨rfl, rfl, hO⟩, .e2 .z, rfl⟩
 clear hx;rintro e l H ⟨rfl, rfl, hO⟩;cbv;refine A6 hE h (fun hc h => ?_) (fun hc h => ?_)
 ·cbv;cases h;exact hK _ _ _ hO (.refl _)
 cbv;refine A6 hE h (fun hc h => ?_) (fun hc h => ?_)
 ·cbv;cases h;exact hK _ _ _ hO (.refl _)
 cbv;refine A6 hE h (fun hc h => ?_) (fun hc h => ?_)
 ·cbv;cases h;exact hK _ _ _ hO (.refl _)
 cbv;cases h;exact hK _ _ _ hO (.refl _)
end Go.Ab
