/- GYCo3 -/
import Derived.Test.YtildiiggamckaaaGreatDoorT35
set_option linter.all false
namespace Go.Ab
open Go.RowKit Go.Proofs Go.Proofs.Tryz G6
variable [Ar] [G6]
set_option maxRecDepth 100000
def cf280 : Cf := ⟨[3, 6], [(1, 5)], [], [], [], [(1, 3, [10])]⟩
theorem c280 (N aA aL cA r) (h : Bn N aA aL cA = some r) : B6 prog 280 [(B9 aA), vi aL, (B9 cA)] ((B9 r)) := by
 unfold Bn at h
 refine J9 cf280 func280 call280 ntmps280 ?_;intro E H0 K hE hK hO;cbv;refine C8 hE hO fun b1 H hO => ?_;cbv;refine C8 hE hO fun b2 H hO => ?_;cbv;refine JM hE hO 1 rfl fun H1 hT hW => ?_;cbv;refine CX hE trivial ?_;cbv;refine JP hE hO 1 rfl hT fun H hO => ?_;cbv;refine A8 hE hO 1 rfl rfl fun H hO => ?_;cbv;refine B1 hE hO 1 rfl ?_;cbv;refine A8 hE hO 0 rfl rfl fun H hO => ?_;cbv;refine B1 hE hO 0 rfl ?_;cbv;cases h;exact hK _ _ _ hO (.agg (.cons (.refl _) (.cons (.lit _ (C7 ((eXO cA).symm) (B3))) (.refl _))))
def cf210 : Cf := ⟨[], [(9, 5), (11, 8)], [(8, 6)], [], [], []⟩
def Um (N n : Nat) : Prop := ∀ (aA : A4) (r : (List (B8 × A1))), J0 N n aA = some r → CA prog 210 [(B9 aA)] (fun v => DD prog v (r.map fun (x : (B8 × A1)) => [(E8 x.1), (B0 x.2)]))
def Xb (N n : Nat) : Prop := ∀ (aA : A4) (r : (List (B8 × A1))), U0 N n aA = some r → CA prog 245 [(B9 aA)] (fun v => DD prog v (r.map fun (x : (B8 × A1)) => [(E8 x.1), (B0 x.2)]))
def WZ (N n : Nat) : Prop := ∀ (bQ : A4) (bR : A4) (r : (List (B8 × A1))), P5 N n bQ bR = some r → CA prog 246 [(B9 bQ), (B9 bR)] (fun v => DD prog v (r.map fun (x : (B8 × A1)) => [(E8 x.1), (B0 x.2)]))
def WY (N n : Nat) : Prop := ∀ (aA : A4) (r : (List (B8 × A1))), Al N n aA = some r → CA prog 247 [(B9 aA)] (fun v => DD prog v (r.map fun (x : (B8 × A1)) => [(E8 x.1), (B0 x.2)]))
def cf273 : Cf := ⟨[3, 4, 6, 1000002], [(10, 4)], [], [4], [], []⟩
def WX (N n : Nat) : Prop := ∀ (aF : A4) (r : (List (B8 × A1))), R8 N n aF = some r → El prog 273 (fun yv => [yv, .eref (D3 aF) 0]) (List.map (fun (x : (B8 × A1)) => [(E8 x.1), (B0 x.2)]) r) UL
def cf276 : Cf := ⟨[1000003], [(5, 11)], [], [], [], []⟩
def WW (N n : Nat) : Prop := ∀ (aF : A4) (aR : A4) (r : (List (B8 × A1))), R7 N n aF aR = some r → El prog 276 (fun yv => [yv, .eref (D3 aF) 0, .eref (D3 aR) 0]) (List.map (fun (x : (B8 × A1)) => [(E8 x.1), (B0 x.2)]) r) UL
def cf277 : Cf := ⟨[3, 4, 1000002], [], [(37, 13), (50, 17)], [2], [], []⟩
def WV (N n : Nat) : Prop := ∀ (aF : A4) (r : (List (B8 × A1))), W2 N n aF = some r → El prog 277 (fun yv => [yv, .eref (D3 aF) 0]) (List.map (fun (x : (B8 × A1)) => [(E8 x.1), (B0 x.2)]) r) UL
theorem k210 (N n : Nat) (ih245 : Xb N n) (ih246 : WZ N n) (ih247 : WY N n) : Um N (n + 1) := by
 intro aA r h
 unfold J0 at h
 refine N7 cf210 G7 func210 (by rfl) (by kernel_rfl) call210 ntmps210 (by rfl) (by rfl) ?_;intro E H0 K hE hK;have hO : B4 Eq H0 [] H0 := .start B7 rfl;cbv;refine A6 hE h (fun hc h => ?_) (fun hc h => ?_)
 ·cbv;exact hK _ _ _ hO (N5 call244 (c244 N aA r h))
 cbv;obtain ⟨s1, hx, h⟩ := bind_some h;refine J8 cf210 hE G7 (fun e l H1 => e = .normal ∧ l = [(1, .v (.eref (D3 aA) 0)), (4, .v (vi aA.Op)), (8, .v (.bool s1))] ∧ B4 Eq H0 [] H1) (by kernel_rfl) ?_ ?_
 ·clear h;have h := hx;clear hx;cbv;refine A6 hE h (fun hc h => ?_) (fun hc h => ?_)
  ·cbv;cases h;exact ⟨_, ⟨rfl, rfl, hO⟩, .e rfl (.e2 .z), rfl⟩
  cbv;refine A6 hE h (fun hc h => ?_) (fun hc h => ?_)
  ·cbv;cases h;exact ⟨_, ⟨rfl, rfl, hO⟩, .e rfl (.e2 .z), rfl⟩
  cbv;cases h;exact ⟨_, ⟨rfl, rfl, hO⟩, .e rfl (.e2 .z), rfl⟩
 clear hx;rintro e l H ⟨rfl, rfl, hO⟩;cbv;refine A6 hE h (fun hc h => ?_) (fun hc h => ?_)
 ·cbv;refine Q0 hE h (ih245 aA) (.refl _) fun r2 v3 hv3 h => ?_;cbv;cases h;exact hK _ _ _ hO hv3
 cbv;refine A6 hE h (fun hc h => ?_) (fun hc h => ?_)
 ·cbv;refine C2 hE eXO h fun x4 h => ?_;cbv;refine Q0 hE h (ih246 x4 aA) (.refl _) fun r5 v6 hv6 h => ?_;cbv;cases h;exact hK _ _ _ hO hv6
 cbv;refine A6 hE h (fun hc h => ?_) (fun hc h => ?_)
 ·cbv;refine C2 hE eXO h fun x7 h => ?_;cbv;refine Qx hE (f := eXJ) S5 h fun l8 t9 h => ?_;cbv;refine Q0 hE h (ih246 x7 (⟨4, l8, 0, 0, 0, 0, (⟨0, [], 0, 0, 0, (⟨0, 0, ⟨#[]⟩⟩ : O9)⟩ : G2)⟩ : A4)) (.cons (.refl _) (.cons (.agg (.cons (.refl _) (.cons (.ro _ _) (.cons (.refl _) (.cons (.refl _) (.cons (.refl _) (.cons (.refl _) (.cons (.refl _) (.cons (.lit _ (B3)) (.refl _)))))))))) (.refl _))) fun r10 v11 hv11 h => ?_;cbv;cases h;exact hK _ _ _ hO hv11
 cbv;refine Q0 hE h (ih247 aA) (.refl _) fun r12 v13 hv13 h => ?_;cbv;cases h;exact hK _ _ _ hO hv13
theorem k245 (N n : Nat) (ih273 : WX N n) : Xb N (n + 1) := by
 intro aA r h
 unfold U0 at h
 refine N7 cf0 G7 func245 (by rfl) (by kernel_rfl) call245 ntmps245 (by rfl) (by rfl) ?_;intro E H0 K hE hK;have hO : B4 Eq H0 [] H0 := .start B7 rfl;cbv;exact hK _ _ _ hO (N5 call273 (ih273 aA r h))
theorem k246 (N n : Nat) (ih276 : WW N n) : WZ N (n + 1) := by
 intro bQ bR r h
 unfold P5 at h
 refine N7 cf0 G7 func246 (by rfl) (by kernel_rfl) call246 ntmps246 (by rfl) (by rfl) ?_;intro E H0 K hE hK;have hO : B4 Eq H0 [] H0 := .start B7 rfl;cbv;exact hK _ _ _ hO (N5 call276 (ih276 bQ bR r h))
theorem k247 (N n : Nat) (ih277 : WV N n) : WY N (n + 1) := by
 intro aA r h
 unfold Al at h
 refine N7 cf0 G7 func247 (by rfl) (by kernel_rfl) call247 ntmps247 (by rfl) (by rfl) ?_;intro E H0 K hE hK;have hO : B4 Eq H0 [] H0 := .start B7 rfl;cbv;exact hK _ _ _ hO (N5 call277 (ih277 aA r h))
theorem k273 (N n : Nat) (ih210 : Um N n) : WX N (n + 1) := by
 intro aF r h
 unfold R8 at h
 obtain ⟨⟨w0, u0⟩, h1, hr⟩ := bind_some h;clear h;have hr := O2 hr;subst hr;have h := h1;clear h1;refine K7 cf273 G7 func273 (by rfl) (by kernel_rfl) call273 ntmps273 (by rfl) (fun _ => rfl) ?_;intro yv I D hI hD hy tl F E H K hE hO hK hKD
 have hO : B4 (I (List.map (fun (x : (B8 × A1)) => [(E8 x.1), (B0 x.2)]) (w0 ++ []) ++ tl)) F [] H := by rw [List.append_nil]; exact hO
 cbv;refine CX hE hy.1 ?_;cbv;refine D5 hE ?_;cbv;obtain ⟨w3, w4, s7, hx, h1, he⟩ := K2 h;clear h;have h := h1;clear h1
 rw [he, List.append_assoc] at hO
 clear he;refine Tq cf273 hE G7 (γ := Unit) (fun s2 g => [(1, .v (.eref (D3 aF) 0)), (2, .v (.eref [yv] 0)), (8, .v (.sl (Ar.lst eXJ aF.Args) .ro)), (9, .v (vi (Ar.len aF.Args))), (10, .v (vi s2))]) (fun s2 g ds1 w H1 => B4 (I (List.map (fun (x : (B8 × A1)) => [(E8 x.1), (B0 x.2)]) w ++ tl)) F (CL ds1) H1) (fun x e l ds1 w H1 => match (generalizing := false) x with | .inl y => e = .exit 0 ∧ l = [] ∧ B4 (I (List.map (fun (x : (B8 × A1)) => [(E8 x.1), (B0 x.2)]) w ++ tl)) F (CL ds1) H1 | .inr y => e = .ret ∧ l = [] ∧ B4 (I (List.map (fun (x : (B8 × A1)) => [(E8 x.1), (B0 x.2)]) w ++ tl)) F (CL ds1) H1) (fun e l ds1 H1 => (e = .ret ∧ l = [] ∧ B4 D F (CL ds1) H1)) (by kernel_rfl) ?_ (w' := w4 ++ []) () hx rfl ?_ ?_ ?_ ?_
 ·rintro s2 _ ds1 w5 w6 H o hO h;clear hx
  skip
  cbv;refine A6 hE h (fun hc h => ?_) (fun hc h => ?_)
  ·cbv;refine C2 hE eXO h fun x8 h => ?_;cbv;refine C8 hE hO fun b9 H hO => ?_;cbv;refine C8 hE hO fun b10 H hO => ?_;cbv;refine A8 hE hO 1 rfl rfl fun H hO => ?_;cbv;refine A8 hE hO 0 rfl rfl fun H hO => ?_;cbv;refine B1 hE hO 1 rfl ?_;cbv;refine A6 hE h (fun hc h => ?_) (fun hc h => ?_)
   ·cbv;obtain ⟨hw, rfl⟩ := C5 h
    rw [← hw] at hO
    exact .inl ⟨_, _, _, rfl, ⟨rfl, rfl, hO.tail.tail⟩, .z, rfl⟩
   cbv;refine B1 hE hO 0 rfl ?_;cbv;refine Q0 hE h (ih210 x8) (.refl _) fun r11 v12 hv12 h => ?_;cbv;obtain ⟨w16, w17, o20, hx, h1, he⟩ := K2 h;clear h;have h := h1;clear h1
   rw [he, List.append_assoc] at hO
   clear he;refine JN cf273 hE G7 (ι := Nat) (σ := Unit) (R := Unit) (enc := fun (x : (B8 × A1)) => [(E8 x.1), (B0 x.2)]) (fun _ w F1 H => B4 (I (List.map (fun (x : (B8 × A1)) => [(E8 x.1), (B0 x.2)]) w ++ tl)) F1 (.blk b10 (.cells (D3 x8)) :: .blk b9 (.cells [vi s2]) :: CL ds1) H) (fun _ e w F1 H => False) (fun e F1 H => e = .ret ∧ B4 D F1 (.blk b10 (.cells (D3 x8)) :: .blk b9 (.cells [vi s2]) :: CL ds1) H) (fun i _ y13 => [(1, .v (.eref (D3 aF) 0)), (2, .v (.eref [yv] 0)), (3, .v (.ref b9 0)), (5, .v (.eref (R0 y13.1) 0)), (6, .v (.ref i 0))]) (fun i _ y13 w F1 H => B4 (I (List.map (fun (x : (B8 × A1)) => [(E8 x.1), (B0 x.2)]) w ++ tl)) F1 (.blk i (.cells (F6 y13.2)) :: .blk b10 (.cells (D3 x8)) :: .blk b9 (.cells [vi s2]) :: CL ds1) H) (fun _ _ => B4.stable (hI _) _) (fun _ _ _ => ⟨fun h => h.elim, fun _ _ h => h.elim⟩) (fun _ => C6.con (B4.stable hD _)) (fun _ _ _ _ => B4.stable (hI _) _) hv12 hx (w' := w17 ++ w6) hO (by decide) (fun _ => rfl) (by kernel_rfl) (by kernel_rfl) ?_ ?_ ?_ ?_ ?_
   ·rintro E i15 y13 _ w F14 H hE hO;clear hx h;cbv;refine C8 hE hO fun b21 H hO => ?_;cbv;refine A8 hE hO 0 rfl rfl fun H hO => ?_;cbv;exact ⟨b21, hO, .e rfl (.e4 .z), rfl⟩
   ·rintro E i15 b21 y13 _ w18 w19 F14 H o hE hF h hO;clear hx;cbv;obtain ⟨w23, w24, s22, hx, h1, he⟩ := K2 h;clear h;have h := h1;clear h1
    rw [he, List.append_assoc] at hO
    clear he;refine J8 cf273 hE G7 (fun e l H1 => (e = .normal ∧ l = [(2, .v (.eref [yv] 0)), (5, .v (.eref (R0 y13.1) 0)), (6, .v (.ref b21 0))] ∧ B4 (I (List.map (fun (x : (B8 × A1)) => [(E8 x.1), (B0 x.2)]) (w24 ++ w19) ++ tl)) F14 (.blk b21 (.cells (F6 s22)) :: .blk b10 (.cells (D3 x8)) :: .blk b9 (.cells [vi s2]) :: CL ds1) H1) ∨ (False)) (by kernel_rfl) ?_ ?_
    ·clear h;have h := hx;clear hx;cbv;refine A6 hE h (fun hc h => ?_) (fun hc h => ?_)
     ·cbv;refine B1 hE hO 0 rfl ?_;cbv;refine Qx hE (f := eXJ) S5 h fun l25 t26 h => ?_;cbv;refine A7 hE h (c274 N y13.2 l25) (.cons (.refl _) (.cons (.ro _ _) (.refl _))) fun r27 h => ?_;cbv;refine A8 hE hO 0 rfl rfl fun H hO => ?_;cbv;obtain ⟨hw, rfl⟩ := C5 h
      rw [← hw] at hO
      exact ⟨_, .inl ⟨rfl, rfl, hO⟩, .e rfl (.e2 .z), rfl⟩
     cbv;refine A6 hE h (fun hc h => ?_) (fun hc h => ?_)
     ·cbv;refine B1 hE hO 2 rfl ?_;cbv;refine B1 hE hO 0 rfl ?_;cbv;refine A7 hE h (c275 N aF.Args s2 y13.2) (.refl _) fun r28 h => ?_;cbv;refine A8 hE hO 0 rfl rfl fun H hO => ?_;cbv;obtain ⟨hw, rfl⟩ := C5 h
      rw [← hw] at hO
      exact ⟨_, .inl ⟨rfl, rfl, hO⟩, .e rfl (.e2 .z), rfl⟩
     cbv;obtain ⟨hw, rfl⟩ := C5 h
     rw [← hw] at hO
     exact ⟨_, .inl ⟨rfl, rfl, hO⟩, .e rfl (.e2 .z), rfl⟩
    clear hx;rintro e l H hX
    rcases hX with hX | hX
    ·obtain ⟨rfl, rfl, hO⟩ := hX;cbv;refine B1 hE hO 0 rfl ?_;cbv;obtain ⟨w29, h1, he⟩ := P0 h;clear h;have h := h1;clear h1
     rw [he, List.append_assoc] at hO
     clear he;have hO : B4 (I ([(E8 y13.1), (B0 s22)] :: (List.map (fun (x : (B8 × A1)) => [(E8 x.1), (B0 x.2)]) (w29 ++ w19) ++ tl))) F14 (.blk b21 (.cells (F6 s22)) :: .blk b10 (.cells (D3 x8)) :: .blk b9 (.cells [vi s2]) :: CL ds1) _ := hO;refine AF hE hI hD hy hO (.refl _) (fun H hO => ?_) (fun H hO => ?_)
     ·cbv;refine Fv hE (Ar.nt_eq _) ?_;cbv;obtain ⟨hw, rfl⟩ := C5 h
      rw [← hw] at hO
      exact ⟨_, rfl, hO.tail⟩
     clear h;cbv;refine Fu hE (Ar.nt_eq _) ?_;cbv
     first | exact .inr ⟨rfl, rfl, hO.tail⟩ | exact .inr (hO.tail)
    exact hX.elim
   ·rintro d30 _ H rfl hd hO;have hO : B4 (I (List.map (fun (x : (B8 × A1)) => [(E8 x.1), (B0 x.2)]) (w17 ++ w6) ++ tl)) F (.blk b10 (.cells (D3 x8)) :: .blk b9 (.cells [vi s2]) :: CL (d30 :: ds1)) H := B4.dbs1 (A := [_, _]) (ds := ds1) (B4.dblk hd hO);clear hd hx;cbv;obtain ⟨hw, rfl⟩ := C5 h
    rw [← hw] at hO
    exact ⟨_, (), _, rfl, .e rfl (.e4 .z), rfl, hO.tail.tail⟩
   ·rintro _ _ _ _ _ _ h;exact h.elim
   rintro d30 e H hd ⟨rfl, hO⟩;have hO : B4 D F (.blk b10 (.cells (D3 x8)) :: .blk b9 (.cells [vi s2]) :: CL (d30 :: ds1)) H := B4.dbs1 (A := [_, _]) (ds := ds1) (B4.dblk hd hO);clear hd hx h;cbv;exact .inr ⟨_, _, ⟨rfl, rfl, hO.tail.tail⟩, .z, rfl⟩
  cbv;obtain ⟨hw, rfl⟩ := C5 h
  rw [← hw] at hO
  exact .inl ⟨_, _, _, rfl, ⟨rfl, rfl, hO⟩, .z, rfl⟩
 ·exact .e rfl (.e4 .z)
 ·exact hO
 ·rintro e l ds1 H hX;clear hx
  rcases s7 with y31 | y32
  ·obtain ⟨rfl, rfl, hO⟩ := hX;cbv
   rcases ds1 with _ | ⟨d0, ds1⟩
   ·cbv;have hO : B4 _ _ [] H := hO;obtain ⟨hw, _⟩ := C5 h
    rw [← hw] at hO
    exact hK _ _ _ hO trivial
   cbv;refine HU (A := []) (ds := d0 :: ds1) hE hO fun H hO => ?_;cbv;obtain ⟨hw, _⟩ := C5 h
   rw [← hw] at hO
   exact hK _ _ _ hO trivial
  obtain ⟨rfl, rfl, hO⟩ := hX;cbv
  rcases ds1 with _ | ⟨d0, ds1⟩
  ·cbv;have hO : B4 _ _ [] H := hO;obtain ⟨hw, _⟩ := C5 h
   rw [← hw] at hO
   exact hK _ _ _ hO trivial
  cbv;refine HU (A := []) (ds := d0 :: ds1) hE hO fun H hO => ?_;cbv;obtain ⟨hw, _⟩ := C5 h
  rw [← hw] at hO
  exact hK _ _ _ hO trivial
 rintro e l ds1 H hX;obtain ⟨rfl, rfl, hO⟩ := hX;clear h;cbv
 rcases ds1 with _ | ⟨d0, ds1⟩
 ·cbv;have hO : B4 _ _ [] H := hO;exact hKD _ _ _ hO trivial
 cbv;refine HU (A := []) (ds := d0 :: ds1) hE hO fun H hO => ?_;cbv;exact hKD _ _ _ hO trivial
theorem k276 (N n : Nat) (ih210 : Um N n) : WW N (n + 1) := by
 intro aF aR r h
 unfold R7 at h
 obtain ⟨⟨w0, u0⟩, h1, hr⟩ := bind_some h;clear h;have hr := O2 hr;subst hr;have h := h1;clear h1;refine K7 cf276 G7 func276 (by rfl) (by kernel_rfl) call276 ntmps276 (by rfl) (fun _ => rfl) ?_;intro yv I D hI hD hy tl F E H K hE hO hK hKD
 have hO : B4 (I (List.map (fun (x : (B8 × A1)) => [(E8 x.1), (B0 x.2)]) (w0 ++ []) ++ tl)) F [] H := by rw [List.append_nil]; exact hO
 cbv;refine CX hE hy.1 ?_;cbv;refine Q0 hE h (ih210 aF) (.refl _) fun r1 v2 hv2 h => ?_;cbv;obtain ⟨w6, w7, o10, hx, h1, he⟩ := K2 h;clear h;have h := h1;clear h1
 rw [he, List.append_assoc] at hO
 clear he;refine JN cf276 hE G7 (ι := Unit) (σ := Unit) (R := Unit) (enc := fun (x : (B8 × A1)) => [(E8 x.1), (B0 x.2)]) (fun _ w F1 H => B4 (I (List.map (fun (x : (B8 × A1)) => [(E8 x.1), (B0 x.2)]) w ++ tl)) F1 [] H) (fun _ e w F1 H => False) (fun e F1 H => e = .ret ∧ B4 D F1 [] H) (fun i _ y3 => [(2, .v (.eref (D3 aR) 0)), (3, .v (.eref [yv] 0)), (4, .v (.eref (R0 y3.1) 0)), (5, .v (.eref (F6 y3.2) 0))]) (fun i _ y3 w F1 H => B4 (I (List.map (fun (x : (B8 × A1)) => [(E8 x.1), (B0 x.2)]) w ++ tl)) F1 [] H) (fun _ _ => B4.stable (hI _) _) (fun _ _ _ => ⟨fun h => h.elim, fun _ _ h => h.elim⟩) (fun _ => C6.con (B4.stable hD _)) (fun _ _ _ _ => B4.stable (hI _) _) hv2 hx (w' := w7 ++ []) hO (by decide) (fun _ => rfl) (by kernel_rfl) (by kernel_rfl) ?_ ?_ ?_ ?_ ?_
 ·rintro E i5 y3 _ w F4 H hE hO;clear hx h;cbv;exact ⟨(), hO, .e4 .z, rfl⟩
 ·rintro E i5 _ y3 _ w8 w9 F4 H o hE hF h hO;clear hx;cbv;refine A6 hE h (fun hc h => ?_) (fun hc h => ?_)
  ·cbv;refine C2 hE eXO h fun x11 h => ?_;cbv;obtain ⟨w12, h1, he⟩ := P0 h;clear h;have h := h1;clear h1
   rw [he, List.append_assoc] at hO
   clear he;have hO : B4 (I ([(E8 y3.1), .agg [.bool false, vi 8, .sl (Ar.lst eXJ ([y3.2.p, x11])) .ro, vi 0, vi 0, vi 0, vi 0, vi 0, .sl (Ar.lst eXL ([])) .ro, vi 0, vi 0, vi 0, vi 0, vi 0, .str (⟨#[]⟩)]] :: (List.map (fun (x : (B8 × A1)) => [(E8 x.1), (B0 x.2)]) (w12 ++ w9) ++ tl))) F4 [] _ := hO;refine AF hE hI hD hy hO (.cons (.refl _) (.cons (.agg (.cons (.refl _) (.cons (.refl _) (.cons (.lit _ (C7 ((eXO y3.2.p).symm) (C7 ((eXO x11).symm) (B3)))) (.cons (.refl _) (.cons (.refl _) (.cons (.refl _) (.cons (.refl _) (.cons (.refl _) (.cons (.lit _ (B3)) (.refl _))))))))))) (.refl _))) (fun H hO => ?_) (fun H hO => ?_)
   ·cbv;refine Fv hE (Ar.nt_eq _) ?_;cbv;obtain ⟨hw, rfl⟩ := C5 h
    rw [← hw] at hO
    exact ⟨_, rfl, hO⟩
   clear h;cbv;refine Fu hE (Ar.nt_eq _) ?_;cbv
   first | exact .inr ⟨rfl, rfl, hO⟩ | exact .inr (hO)
  cbv;obtain ⟨w13, h1, he⟩ := P0 h;clear h;have h := h1;clear h1
  rw [he, List.append_assoc] at hO
  clear he;have hO : B4 (I ([(E8 y3.1), (B0 y3.2)] :: (List.map (fun (x : (B8 × A1)) => [(E8 x.1), (B0 x.2)]) (w13 ++ w9) ++ tl))) F4 [] _ := hO;refine AF hE hI hD hy hO (.refl _) (fun H hO => ?_) (fun H hO => ?_)
  ·cbv;refine Fv hE (Ar.nt_eq _) ?_;cbv;obtain ⟨w14, h1, he⟩ := P0 h;clear h;have h := h1;clear h1
   rw [he, List.append_assoc] at hO
   clear he;have hO : B4 (I ([(E8 y3.1), .agg [.bool false, vi aR.Op, .sl (Ar.lst eXJ aR.Args) .ro, vi aR.Typ, vi aR.Var, vi aR.Scope, vi aR.Span, vi aR.Cond.Op, .sl (Ar.lst eXL aR.Cond.Args) .ro, vi aR.Cond.Var, vi aR.Cond.Field, vi aR.Cond.Kind, vi aR.Cond.Value.Kind, vi aR.Cond.Value.Num, .str aR.Cond.Value.Text]] :: (List.map (fun (x : (B8 × A1)) => [(E8 x.1), (B0 x.2)]) (w14 ++ w9) ++ tl))) F4 [] _ := hO;refine AF hE hI hD hy hO (.refl _) (fun H hO => ?_) (fun H hO => ?_)
   ·cbv;refine Fv hE (Ar.nt_eq _) ?_;cbv;obtain ⟨hw, rfl⟩ := C5 h
    rw [← hw] at hO
    exact ⟨_, rfl, hO⟩
   clear h;cbv;refine Fu hE (Ar.nt_eq _) ?_;cbv
   first | exact .inr ⟨rfl, rfl, hO⟩ | exact .inr (hO)
  clear h;cbv;refine Fu hE (Ar.nt_eq _) ?_;cbv
  first | exact .inr ⟨rfl, rfl, hO⟩ | exact .inr (hO)
 ·rintro d15 _ H rfl hd hO;have hO : B4 (I (List.map (fun (x : (B8 × A1)) => [(E8 x.1), (B0 x.2)]) (w7 ++ []) ++ tl)) F [.blk d15 DB] H := B4.dblk hd hO;clear hd hx;cbv;refine Ax hE hO 0 rfl fun H hO => ?_;cbv;obtain ⟨hw, _⟩ := C5 h
  rw [← hw] at hO
  exact hK _ _ _ hO trivial
 ·rintro _ _ _ _ _ _ h;exact h.elim
 rintro d15 e H hd ⟨rfl, hO⟩;have hO : B4 D F [.blk d15 DB] H := B4.dblk hd hO;clear hd hx h;cbv;refine Ax hE hO 0 rfl fun H hO => ?_;cbv;exact hKD _ _ _ hO trivial
theorem k277 (N n : Nat) (ih210 : Um N n) : WV N (n + 1) := by
 intro aF r h
 unfold W2 at h
 obtain ⟨⟨w0, u0⟩, h1, hr⟩ := bind_some h;clear h;have hr := O2 hr;subst hr;have h := h1;clear h1;refine K7 cf277 G7 func277 (by rfl) (by kernel_rfl) call277 ntmps277 (by rfl) (fun _ => rfl) ?_;intro yv I D hI hD hy tl F E H K hE hO hK hKD
 have hO : B4 (I (List.map (fun (x : (B8 × A1)) => [(E8 x.1), (B0 x.2)]) (w0 ++ []) ++ tl)) F [] H := by rw [List.append_nil]; exact hO
 cbv;refine CX hE hy.1 ?_;cbv;refine C2 hE eXO h fun x1 h => ?_;cbv;refine Q0 hE h (ih210 x1) (.refl _) fun r2 v3 hv3 h => ?_;cbv;obtain ⟨w7, w8, o11, hx, h1, he⟩ := K2 h;clear h;have h := h1;clear h1
 rw [he, List.append_assoc] at hO
 clear he;refine JN cf277 hE G7 (ι := Nat × Nat) (σ := Unit) (R := Unit) (enc := fun (x : (B8 × A1)) => [(E8 x.1), (B0 x.2)]) (fun _ w F1 H => B4 (I (List.map (fun (x : (B8 × A1)) => [(E8 x.1), (B0 x.2)]) w ++ tl)) F1 [] H) (fun _ e w F1 H => False) (fun e F1 H => e = .ret ∧ B4 D F1 [] H) (fun i _ y4 => [(1, .v (.eref (D3 aF) 0)), (2, .v (.eref [yv] 0)), (3, .v (.ref i.2 0)), (4, .v (.ref i.1 0))]) (fun i _ y4 w F1 H => B4 (I (List.map (fun (x : (B8 × A1)) => [(E8 x.1), (B0 x.2)]) w ++ tl)) F1 [.blk i.1 (.cells (F6 y4.2)), .blk i.2 (.cells (R0 y4.1))] H) (fun _ _ => B4.stable (hI _) _) (fun _ _ _ => ⟨fun h => h.elim, fun _ _ h => h.elim⟩) (fun _ => C6.con (B4.stable hD _)) (fun _ _ _ _ => B4.stable (hI _) _) hv3 hx (w' := w8 ++ []) hO (by decide) (fun _ => rfl) (by kernel_rfl) (by kernel_rfl) ?_ ?_ ?_ ?_ ?_
 ·rintro E i6 y4 _ w F5 H hE hO;clear hx h;cbv;refine C8 hE hO fun b12 H hO => ?_;cbv;refine A8 hE hO 0 rfl rfl fun H hO => ?_;cbv;refine C8 hE hO fun b13 H hO => ?_;cbv;refine A8 hE hO 0 rfl rfl fun H hO => ?_;cbv;exact ⟨⟨b13, b12⟩, hO, .e4 .z, rfl⟩
 ·rintro E i6 ⟨b13, b12⟩ y4 _ w9 w10 F5 H o hE hF h hO;clear hx;cbv;obtain ⟨w15, w16, s14, hx, h1, he⟩ := K2 h;clear h;have h := h1;clear h1
  rw [he, List.append_assoc] at hO
  clear he;refine J8 cf277 hE G7 (fun e l H1 => (e = .normal ∧ l = [(1, .v (.eref (D3 aF) 0)), (2, .v (.eref [yv] 0)), (3, .v (.ref b12 0)), (4, .v (.ref b13 0)), (5, .v (vi s14.1))] ∧ B4 (I (List.map (fun (x : (B8 × A1)) => [(E8 x.1), (B0 x.2)]) (w16 ++ w10) ++ tl)) F5 [.blk b13 (.cells (F6 y4.2)), .blk b12 (.cells (R0 s14.2))] H1) ∨ (False)) (by kernel_rfl) ?_ ?_
  ·clear h;have h := hx;clear hx;cbv;refine A6 hE h (fun hc h => ?_) (fun hc h => ?_)
   ·cbv;refine B1 hE hO 0 rfl ?_;cbv;refine A6 hE h (fun hc h => ?_) (fun hc h => ?_)
    ·cbv;refine B1 hE hO 1 rfl ?_;cbv;refine A7 hE h (c278 N ([y4.1.Checks, [aF.Cond]])) (.cons (.sl _ (.lstc (.eq (eYn y4.1.Checks) (.refl _)) (.lstc (.eq (eYn ([aF.Cond])) (.lit _ (C7 ((eXV aF.Cond).symm) (B3)))) (.lst0)))) (.refl _)) fun r17 h => ?_;cbv;refine A8 hE hO 1 rfl rfl fun H hO => ?_;cbv;obtain ⟨hw, rfl⟩ := C5 h
     rw [← hw] at hO
     exact ⟨_, .inl ⟨rfl, rfl, hO⟩, .e rfl (.e4 .z), rfl⟩
    cbv;obtain ⟨hw, rfl⟩ := C5 h
    rw [← hw] at hO
    exact ⟨_, .inl ⟨rfl, rfl, hO⟩, .e rfl (.e4 .z), rfl⟩
   cbv;obtain ⟨w19, w20, s18, hx, h1, he⟩ := K2 h;clear h;have h := h1;clear h1
   rw [he, List.append_assoc] at hO
   clear he;refine J8 cf277 hE G7 (fun e l H1 => (e = .normal ∧ l = [(1, .v (.eref (D3 aF) 0)), (2, .v (.eref [yv] 0)), (3, .v (.ref b12 0)), (4, .v (.ref b13 0)), (37, .v (.bool s18))] ∧ B4 (I (List.map (fun (x : (B8 × A1)) => [(E8 x.1), (B0 x.2)]) (w20 ++ (w16 ++ w10)) ++ tl)) F5 [.blk b13 (.cells (F6 y4.2)), .blk b12 (.cells (R0 y4.1))] H1) ∨ (False)) (by kernel_rfl) ?_ ?_
   ·clear h;have h := hx;clear hx;cbv;refine A6 hE h (fun hc h => ?_) (fun hc h => ?_)
    ·cbv;obtain ⟨hw, rfl⟩ := C5 h
     rw [← hw] at hO
     exact ⟨_, .inl ⟨rfl, rfl, hO⟩, .e rfl (.e4 .z), rfl⟩
    cbv;obtain ⟨hw, rfl⟩ := C5 h
    rw [← hw] at hO
    exact ⟨_, .inl ⟨rfl, rfl, hO⟩, .e rfl (.e4 .z), rfl⟩
   clear hx;rintro e l H hX
   rcases hX with hX | hX
   ·obtain ⟨rfl, rfl, hO⟩ := hX;cbv;refine A6 hE h (fun hc h => ?_) (fun hc h => ?_)
    ·cbv;refine B1 hE hO 1 rfl ?_;cbv;refine B1 hE hO 0 rfl ?_;cbv;refine A7 hE h (c279 N aF y4.1 y4.2.done (Ar.cmp .eql aF.Op 5)) (.refl _) fun r21 h => ?_;cbv;refine A8 hE hO 1 rfl rfl fun H hO => ?_;cbv;obtain ⟨hw, rfl⟩ := C5 h
     rw [← hw] at hO
     exact ⟨_, .inl ⟨rfl, rfl, hO⟩, .e rfl (.e4 .z), rfl⟩
    cbv;refine B1 hE hO 1 rfl ?_;cbv;refine B1 hE hO 0 rfl ?_;cbv;refine A7 hE h (c279 N aF y4.1 y4.2.done (Ar.cmp .eql aF.Op 6)) (.refl _) fun r22 h => ?_;cbv;refine A8 hE hO 1 rfl rfl fun H hO => ?_;cbv;obtain ⟨hw, rfl⟩ := C5 h
    rw [← hw] at hO
    exact ⟨_, .inl ⟨rfl, rfl, hO⟩, .e rfl (.e4 .z), rfl⟩
   exact hX.elim
  clear hx;rintro e l H hX
  rcases hX with hX | hX
  ·obtain ⟨rfl, rfl, hO⟩ := hX;cbv;refine B1 hE hO 0 rfl ?_;cbv;obtain ⟨w24, w25, s23, hx, h1, he⟩ := K2 h;clear h;have h := h1;clear h1
   rw [he, List.append_assoc] at hO
   clear he;refine J8 cf277 hE G7 (fun e l H1 => (e = .normal ∧ l = [(2, .v (.eref [yv] 0)), (3, .v (.ref b12 0)), (4, .v (.ref b13 0))] ∧ B4 (I (List.map (fun (x : (B8 × A1)) => [(E8 x.1), (B0 x.2)]) (w25 ++ w10) ++ tl)) F5 [.blk b13 (.cells (F6 s23)), .blk b12 (.cells (R0 s14.2))] H1) ∨ (False)) (by kernel_rfl) ?_ ?_
   ·clear h;have h := hx;clear hx;cbv;refine A6 hE h (fun hc h => ?_) (fun hc h => ?_)
    ·cbv;refine B1 hE hO 0 rfl ?_;cbv;refine A7 hE h (c280 N aF s14.1 y4.2.p) (.refl _) fun r26 h => ?_;cbv;refine A8 hE hO 0 rfl rfl fun H hO => ?_;cbv;obtain ⟨hw, rfl⟩ := C5 h
     rw [← hw] at hO
     exact ⟨_, .inl ⟨rfl, rfl, hO⟩, .e rfl (.e2 .z), rfl⟩
    cbv;obtain ⟨hw, rfl⟩ := C5 h
    rw [← hw] at hO
    exact ⟨_, .inl ⟨rfl, rfl, hO⟩, .e rfl (.e2 .z), rfl⟩
   clear hx;rintro e l H hX
   rcases hX with hX | hX
   ·obtain ⟨rfl, rfl, hO⟩ := hX;cbv;refine B1 hE hO 1 rfl ?_;cbv;refine B1 hE hO 0 rfl ?_;cbv;obtain ⟨w27, h1, he⟩ := P0 h;clear h;have h := h1;clear h1
    rw [he, List.append_assoc] at hO
    clear he;have hO : B4 (I ([(E8 s14.2), (B0 s23)] :: (List.map (fun (x : (B8 × A1)) => [(E8 x.1), (B0 x.2)]) (w27 ++ w10) ++ tl))) F5 [.blk b13 (.cells (F6 s23)), .blk b12 (.cells (R0 s14.2))] _ := hO;refine AF hE hI hD hy hO (.refl _) (fun H hO => ?_) (fun H hO => ?_)
    ·cbv;refine Fv hE (Ar.nt_eq _) ?_;cbv;obtain ⟨hw, rfl⟩ := C5 h
     rw [← hw] at hO
     exact ⟨_, rfl, hO.tail.tail⟩
    clear h;cbv;refine Fu hE (Ar.nt_eq _) ?_;cbv
    first | exact .inr ⟨rfl, rfl, hO.tail.tail⟩ | exact .inr (hO.tail.tail)
   exact hX.elim
  exact hX.elim
 ·rintro d28 _ H rfl hd hO;have hO : B4 (I (List.map (fun (x : (B8 × A1)) => [(E8 x.1), (B0 x.2)]) (w8 ++ []) ++ tl)) F [.blk d28 DB] H := B4.dblk hd hO;clear hd hx;cbv;refine Ax hE hO 0 rfl fun H hO => ?_;cbv;obtain ⟨hw, _⟩ := C5 h
  rw [← hw] at hO
  exact hK _ _ _ hO trivial
 ·rintro _ _ _ _ _ _ h;exact h.elim
 rintro d28 e H hd ⟨rfl, hO⟩;have hO : B4 D F [.blk d28 DB] H := B4.dblk hd hO;clear hd hx h;cbv;refine Ax hE hO 0 rfl fun H hO => ?_;cbv;exact hKD _ _ _ hO trivial
theorem Cm (N : Nat) : ∀ n, Um N n ∧ Xb N n ∧ WZ N n ∧ WY N n ∧ WX N n ∧ WW N n ∧ WV N n := by
 intro n
 induction n with
 | zero => exact ⟨(by intro aA r h; unfold J0 at h; cases h), (by intro aA r h; unfold U0 at h; cases h), (by intro bQ bR r h; unfold P5 at h; cases h), (by intro aA r h; unfold Al at h; cases h), (by intro aF r h; unfold R8 at h; cases h), (by intro aF aR r h; unfold R7 at h; cases h), (by intro aF r h; unfold W2 at h; cases h)⟩
 | succ n ih =>
  obtain ⟨ih210, ih245, ih246, ih247, ih273, ih276, ih277⟩ := ih;exact ⟨k210 N n ih245 ih246 ih247, k245 N n ih273, k246 N n ih276, k247 N n ih277, k273 N n ih210, k276 N n ih210, k277 N n ih210⟩
theorem c210 (N n aA r) (h : J0 N n aA = some r) : CA prog 210 [(B9 aA)] (fun v => DD prog v (r.map fun (x : (B8 × A1)) => [(E8 x.1), (B0 x.2)])) := (Cm N n).1 aA r h
theorem c248 (N : Nat) (aB : List B8) (aV : V) (aO : B8 → Option Bool) (bC : ∀ y1 q, aO y1 = some q → R4 prog aV [(E8 y1)] (.bool q)) (r : Int) (h : P8 N aB aO = some r) : B6 prog 248 [.sl (Ar.lst eXK aB) .ro, aV] (vi r) := by
 unfold P8 at h
 refine J9 cf0 func248 call248 ntmps248 ?_;intro E H0 K hE hK hO;cbv;refine D5 hE ?_;cbv;obtain ⟨s2, hx, h⟩ := bind_some h;refine F3 cf0 hE G7 (fun s1 => [(0, .v (.sl (Ar.lst eXK aB) .ro)), (1, .v (aV)), (7, .v (vi (Ar.len aB))), (8, .v (vi s1))]) (fun s1 H1 => B4 Eq H0 [] H1) (fun x e l H1 => match (generalizing := false) x with | .inl y => e = .exit 0 ∧ l = [] ∧ B4 Eq H0 [] H1 | .inr y => e = .ret ∧ l = [(4, .v (vi y))] ∧ B4 Eq H0 [] H1) (by kernel_rfl) ?_ hx ?_ hO ?_
 ·intro s1 H o hO h;clear hx;cbv;refine A6 hE h (fun hc h => ?_) (fun hc h => ?_)
  ·cbv;refine C2 hE eXY h fun x3 h => ?_;cbv;refine AI hE (g := fun r4 => .bool r4) h (fun r4 hx => bC x3 r4 hx) (.refl _) fun r4 h => ?_;cbv;refine A6 hE h (fun hc h => ?_) (fun hc h => ?_)
   ·cbv;cases h;exact ⟨_, _, rfl, ⟨rfl, rfl, hO⟩, .e rfl .z, rfl⟩
   cbv;cases h;exact ⟨_, rfl, .e4 .z, rfl, hO⟩
  cbv;cases h;exact ⟨_, _, rfl, ⟨rfl, rfl, hO⟩, .z, rfl⟩
 ·exact .e4 .z
 clear hx
 rcases s2 with y5 | y6
 ·rintro e l H ⟨rfl, rfl, hO⟩;cbv;cases h;exact hK _ _ _ hO (.refl _)
 rintro e l H ⟨rfl, rfl, hO⟩;cbv;cases h;exact hK _ _ _ hO (.refl _)
theorem c211 (N : Nat) (aB : List B8) (aV : V) (aO : B8 → Option Bool) (bC : ∀ y1 q, aO y1 = some q → R4 prog aV [(E8 y1)] (.bool q)) (r : Bool) (h : I9 N aB aO = some r) : B6 prog 211 [.sl (Ar.lst eXK aB) .ro, aV] (.bool r) := by
 unfold I9 at h
 refine J9 cf0 func211 call211 ntmps211 ?_;intro E H0 K hE hK hO;cbv;refine A7 hE h (c248 N aB aV aO bC) (.refl _) fun r1 h => ?_;cbv;cases h;exact hK _ _ _ hO (.refl _)
def cf250 : Cf := ⟨[], [(6, 8)], [], [], [], []⟩
theorem c250 (N aS aT r) (h : M3 N aS aT = some r) : B6 prog 250 [.sl (Ar.lst (V.int .i64) aS) .ro, .sl (Ar.lst (V.int .i64) aT) .ro] (.bool r) := by
 unfold M3 at h
 refine J9 cf250 func250 call250 ntmps250 ?_;intro E H0 K hE hK hO;cbv;refine D5 hE ?_;cbv;refine D5 hE ?_;cbv;refine A6 hE h (fun hc h => ?_) (fun hc h => ?_)
 ·cbv;cases h;exact hK _ _ _ hO (.refl _)
 cbv;refine D5 hE ?_;cbv;obtain ⟨s2, hx, h⟩ := bind_some h;refine F3 cf250 hE G7 (fun s1 => [(0, .v (.sl (Ar.lst (V.int .i64) aS) .ro)), (1, .v (.sl (Ar.lst (V.int .i64) aT) .ro)), (12, .v (vi (Ar.len aS))), (13, .v (vi s1))]) (fun s1 H1 => B4 Eq H0 [] H1) (fun x e l H1 => match (generalizing := false) x with | .inl y => e = .exit 0 ∧ l = [] ∧ B4 Eq H0 [] H1 | .inr y => e = .ret ∧ l = [(4, .b false)] ∧ B4 Eq H0 [] H1) (by kernel_rfl) ?_ hx ?_ hO ?_
 ·intro s1 H o hO h;clear hx;cbv;refine A6 hE h (fun hc h => ?_) (fun hc h => ?_)
  ·cbv;refine C2 hE (fun _ => rfl) h fun x3 h => ?_;cbv;refine C2 hE (fun _ => rfl) h fun x4 h => ?_;cbv;refine A6 hE h (fun hc h => ?_) (fun hc h => ?_)
   ·cbv;cases h;exact ⟨_, _, rfl, ⟨rfl, rfl, hO⟩, .b rfl (.z), rfl⟩
   cbv;cases h;exact ⟨_, rfl, .e4 .z, rfl, hO⟩
  cbv;cases h;exact ⟨_, _, rfl, ⟨rfl, rfl, hO⟩, .z, rfl⟩
 ·exact .e4 .z
 clear hx
 rcases s2 with y5 | y6
 ·rintro e l H ⟨rfl, rfl, hO⟩;cbv;cases h;exact hK _ _ _ hO (.refl _)
 rintro e l H ⟨rfl, rfl, hO⟩;cbv;cases h;exact hK _ _ _ hO (.refl _)
def cf251 : Cf := ⟨[8], [], [], [], [], []⟩
theorem c251 (N : Nat) (aS : List G2) (aT : List G2) (bU : V) (bM : G2 → G2 → Option Bool) (cH : ∀ y1 y2 q, bM y1 y2 = some q → R4 prog bU [(An y1), (An y2)] (.bool q)) (r : Bool) (h : I7 N aS aT bM = some r) : B6 prog 251 [.sl (Ar.lst eXL aS) .ro, .sl (Ar.lst eXL aT) .ro, bU] (.bool r) := by
 unfold I7 at h
 refine J9 cf251 func251 call251 ntmps251 ?_;intro E H0 K hE hK hO;cbv;refine D5 hE ?_;cbv;refine D5 hE ?_;cbv;refine A6 hE h (fun hc h => ?_) (fun hc h => ?_)
 ·cbv;cases h;exact hK _ _ _ hO (.refl _)
 cbv;refine D5 hE ?_;cbv;obtain ⟨s2, hx, h⟩ := bind_some h;refine F3 cf251 hE G7 (fun s1 => [(1, .v (.sl (Ar.lst eXL aT) .ro)), (2, .v (bU)), (15, .v (.sl (Ar.lst eXL aS) .ro)), (16, .v (vi (Ar.len aS))), (17, .v (vi s1))]) (fun s1 H1 => B4 Eq H0 [] H1) (fun x e l H1 => match (generalizing := false) x with | .inl y => e = .exit 0 ∧ l = [] ∧ B4 Eq H0 [] H1 | .inr y => e = .ret ∧ l = [(6, .b false)] ∧ B4 Eq H0 [] H1) (by kernel_rfl) ?_ hx ?_ hO ?_
 ·intro s1 H o hO h;clear hx;cbv;refine A6 hE h (fun hc h => ?_) (fun hc h => ?_)
  ·cbv;refine C2 hE eXV h fun x3 h => ?_;cbv;refine C8 hE hO fun b4 H hO => ?_;cbv;refine A8 hE hO 0 rfl rfl fun H hO => ?_;cbv;refine C2 hE eXV h fun x5 h => ?_;cbv;refine B1 hE hO 0 rfl ?_;cbv;refine AI hE (g := fun r6 => .bool r6) h (fun r6 hx => cH x3 x5 r6 hx) (.refl _) fun r6 h => ?_;cbv;refine A6 hE h (fun hc h => ?_) (fun hc h => ?_)
   ·cbv;cases h;exact ⟨_, _, rfl, ⟨rfl, rfl, hO.tail⟩, .b rfl (.z), rfl⟩
   cbv;cases h;exact ⟨_, rfl, .e rfl (.e4 .z), rfl, hO.tail⟩
  cbv;cases h;exact ⟨_, _, rfl, ⟨rfl, rfl, hO⟩, .z, rfl⟩
 ·exact .e rfl (.e4 .z)
 clear hx
 rcases s2 with y7 | y8
 ·rintro e l H ⟨rfl, rfl, hO⟩;cbv;cases h;exact hK _ _ _ hO (.refl _)
 rintro e l H ⟨rfl, rfl, hO⟩;cbv;cases h;exact hK _ _ _ hO (.refl _)
def cf252 : Cf := ⟨[], [(6, 8)], [], [], [], []⟩
theorem c252 (N aS aT r) (h : R9 N aS aT = some r) : B6 prog 252 [.sl (Ar.lst eXT aS) .ro, .sl (Ar.lst eXT aT) .ro] (.bool r) := by
 unfold R9 at h
 refine J9 cf252 func252 call252 ntmps252 ?_;intro E H0 K hE hK hO;cbv;refine D5 hE ?_;cbv;refine D5 hE ?_;cbv;refine A6 hE h (fun hc h => ?_) (fun hc h => ?_)
 ·cbv;cases h;exact hK _ _ _ hO (.refl _)
 cbv;refine D5 hE ?_;cbv;obtain ⟨s2, hx, h⟩ := bind_some h;refine F3 cf252 hE G7 (fun s1 => [(0, .v (.sl (Ar.lst eXT aS) .ro)), (1, .v (.sl (Ar.lst eXT aT) .ro)), (12, .v (vi (Ar.len aS))), (13, .v (vi s1))]) (fun s1 H1 => B4 Eq H0 [] H1) (fun x e l H1 => match (generalizing := false) x with | .inl y => e = .exit 0 ∧ l = [] ∧ B4 Eq H0 [] H1 | .inr y => e = .ret ∧ l = [(4, .b false)] ∧ B4 Eq H0 [] H1) (by kernel_rfl) ?_ hx ?_ hO ?_
 ·intro s1 H o hO h;clear hx;cbv;refine A6 hE h (fun hc h => ?_) (fun hc h => ?_)
  ·cbv;refine C2 hE eYl h fun x3 h => ?_;cbv;refine C2 hE eYl h fun x4 h => ?_;cbv;refine A6 hE h (fun hc h => ?_) (fun hc h => ?_)
   ·cbv;cases h;exact ⟨_, _, rfl, ⟨rfl, rfl, hO⟩, .b rfl (.z), rfl⟩
   cbv;cases h;exact ⟨_, rfl, .e4 .z, rfl, hO⟩
  cbv;cases h;exact ⟨_, _, rfl, ⟨rfl, rfl, hO⟩, .z, rfl⟩
 ·exact .e4 .z
 clear hx
 rcases s2 with y5 | y6
 ·rintro e l H ⟨rfl, rfl, hO⟩;cbv;cases h;exact hK _ _ _ hO (.refl _)
 rintro e l H ⟨rfl, rfl, hO⟩;cbv;cases h;exact hK _ _ _ hO (.refl _)
theorem c213 (N aC aE r) (h : Aq N aC aE = some r) : B6 prog 213 [(E8 aC), (E8 aE)] (.bool r) := by
 unfold Aq at h
 refine J9 cf0 func213 call213 ntmps213 ?_;intro E H0 K hE hK hO;cbv;refine A6 hE h (fun hc h => ?_) (fun hc h => ?_)
 ·cbv;refine A7 hE h (c249 N N aC.Cond aE.Cond) (.refl _) fun r1 h => ?_;cbv;refine A6 hE h (fun hc h => ?_) (fun hc h => ?_)
  ·cbv;refine A7 hE h (c250 N aC.Opens aE.Opens) (.refl _) fun r2 h => ?_;cbv;refine A6 hE h (fun hc h => ?_) (fun hc h => ?_)
   ·cbv;refine A7 hE h (c250 N aC.Closes aE.Closes) (.refl _) fun r3 h => ?_;cbv;refine A6 hE h (fun hc h => ?_) (fun hc h => ?_)
    ·cbv;refine A7 hE (g := fun r4 => .bool r4) h (fun r4 hx => c251 N aC.Checks aE.Checks (.func (.func 249) [] []) (fun y1 y2 => AU N N y1 y2) (fun y1 y2 r hx => B6.value (F := []) (C := []) (c249 N N y1 y2 r hx)) r4 hx) (.refl _) fun r4 h => ?_;cbv;refine A6 hE h (fun hc h => ?_) (fun hc h => ?_)
     ·cbv;refine A7 hE h (c252 N aC.Limits aE.Limits) (.refl _) fun r5 h => ?_;cbv;refine A6 hE h (fun hc h => ?_) (fun hc h => ?_)
      ·cbv;refine A7 hE h (c250 N aC.Inside aE.Inside) (.refl _) fun r6 h => ?_;cbv;cases h;exact hK _ _ _ hO (.refl _)
      cbv;cases h;exact hK _ _ _ hO (.refl _)
     cbv;cases h;exact hK _ _ _ hO (.refl _)
    cbv;cases h;exact hK _ _ _ hO (.refl _)
   cbv;cases h;exact hK _ _ _ hO (.refl _)
  cbv;cases h;exact hK _ _ _ hO (.refl _)
 cbv;cases h;exact hK _ _ _ hO (.refl _)
theorem c212 (N aM aF r) (h : K5 N aM aF = some r) : B6 prog 212 [(E8 aM), .eref (R0 aF) 0] (.bool r) := by
 unfold K5 at h
 refine J9 cf0 func212 call212 ntmps212 ?_;intro E H0 K hE hK hO;cbv;refine A6 hE h (fun hc h => ?_) (fun hc h => ?_)
 ·cbv;refine A7 hE h (c213 N aF aM) (.refl _) fun r1 h => ?_;cbv;cases h;exact hK _ _ _ hO (.refl _)
 cbv;cases h;exact hK _ _ _ hO (.refl _)
def cf170 : Cf := ⟨[2, 3, 4, 5, 6, 7], [(13, 5), (18, 3)], [(16, 9)], [1000013], [(40, 7)], [(18, 2, [2])]⟩
theorem c170 (N aA r) (h : AO N aA = some r) : B6 prog 170 [(B9 aA)] (.tup [.sl (Ar.lst eXK r.1) .ro, .sl (Ar.lst eXJ r.2.1) .ro, vi r.2.2]) := by
 unfold AO at h
 refine J9 cf170 func170 call170 ntmps170 ?_;intro E H0 K hE hK hO;cbv;refine C8 hE hO fun b1 H hO => ?_;cbv;refine C8 hE hO fun b2 H hO => ?_;cbv;refine C8 hE hO fun b3 H hO => ?_;cbv;refine C8 hE hO fun b4 H hO => ?_;cbv;refine C8 hE hO fun b5 H hO => ?_;cbv;refine Q0 hE h (c210 N N aA) (.refl _) fun r6 v7 hv7 h => ?_;cbv;replace hO := hO.tl0 (t := .nil) rfl;replace hO := hO.tl0 (t := .nil) rfl;obtain ⟨o14, hx, h⟩ := bind_some h;replace hO := hO.cast (L' := [.tl .nil, .tl .nil, .blk b5 (.cells [.sl (Ar.lst eXJ ([])) .nil]), .blk b4 (.cells [.sl (Ar.lst eXK ([])) .nil]), .blk b3 (.cells [vi 0]), .blk b2 (.cells [.sl [] .nil]), .blk b1 (.cells [.sl [] .nil])]) (by first | (simp only [← B3]; done) | (simp only [← B3]; rfl));refine AG cf170 hE G7 (ι := Nat) (enc := fun (x : (B8 × A1)) => [(E8 x.1), (B0 x.2)]) (fun (s9 : (List A4) × (List B8)) F H => ∃ g : D6 × D6, (N2 g.1 ∧ N2 g.2) ∧ B4 Eq F [.tl g.1, .tl g.2, .blk b5 (.cells [.sl (Ar.lst eXJ s9.1) g.2]), .blk b4 (.cells [.sl (Ar.lst eXK s9.2) g.1]), .blk b3 (.cells [vi 0]), .blk b2 (.cells [.sl [] .nil]), .blk b1 (.cells [.sl [] .nil])] H) (fun (r : ((List A4) × (List B8) × Int)) e F H => ∃ g : D6 × D6, (e = .ret ∧ N2 g.1 ∧ N2 g.2) ∧ B4 Eq F [.tl g.1, .tl g.2, .blk b5 (.cells [.sl (Ar.lst eXJ r.1) g.2]), .blk b4 (.cells [.sl (Ar.lst eXK r.2.1) g.1]), .blk b3 (.cells [vi r.2.2]), .blk b2 (.cells [.sl [] .nil]), .blk b1 (.cells [.sl [] .nil])] H) (fun i s9 y8 => [(2, .v (.ref b1 0)), (3, .v (.ref b2 0)), (4, .v (.ref b3 0)), (5, .v (.ref b4 0)), (6, .v (.ref b5 0)), (7, .v (.ref i 0)), (8, .v (.eref (F6 y8.2) 0))]) (fun i s9 y8 F H => ∃ g : D6 × D6, (N2 g.1 ∧ N2 g.2) ∧ B4 Eq F [.blk i (.cells (R0 y8.1)), .tl g.1, .tl g.2, .blk b5 (.cells [.sl (Ar.lst eXJ s9.1) g.2]), .blk b4 (.cells [.sl (Ar.lst eXK s9.2) g.1]), .blk b3 (.cells [vi 0]), .blk b2 (.cells [.sl [] .nil]), .blk b1 (.cells [.sl [] .nil])] H) (fun _ => C6.ex fun _ => B4.stable B7 _) (fun _ _ => C6.ex fun _ => B4.stable B7 _) (fun _ _ _ => C6.ex fun _ => B4.stable B7 _) hv7 hx (⟨⟨.nil, .nil⟩, ⟨trivial, trivial⟩, hO⟩) (by decide) (fun _ => rfl) (by kernel_rfl) (by kernel_rfl) ?_ ?_ ?_ ?_
 ·rintro E i11 y8 s9 F10 H hE ⟨⟨t12, t13⟩, ⟨ht12, ht13⟩, hO⟩;clear hx h;cbv;refine C8 hE hO fun b15 H hO => ?_;cbv;refine A8 hE hO 0 rfl rfl fun H hO => ?_;cbv;exact ⟨b15, ⟨⟨t12, t13⟩, ⟨ht12, ht13⟩, hO⟩, .e rfl (.e2 (.e4 .z)), rfl⟩
 ·rintro E i11 b15 y8 s9 F10 H o hE hF h ⟨⟨t12, t13⟩, ⟨ht12, ht13⟩, hO⟩;clear hx;cbv;refine A8 hE hO 0 rfl rfl fun H hO => ?_;cbv;obtain ⟨s16, hx, h⟩ := bind_some h;refine J8 cf170 hE G7 (fun e l H1 => match (generalizing := false) s16 with | .inl y => ∃ u1 : D6, N2 u1 ∧ e = .normal ∧ l = [(2, .v (.ref b1 0)), (3, .v (.ref b2 0)), (4, .v (.ref b3 0)), (5, .v (.ref b4 0)), (7, .v (.ref b15 0))] ∧ B4 Eq F10 [.blk b15 (.cells (R0 y.1)), .tl t12, .tl u1, .blk b5 (.cells [.sl (Ar.lst eXJ y.2) u1]), .blk b4 (.cells [.sl (Ar.lst eXK s9.2) t12]), .blk b3 (.cells [vi 0]), .blk b2 (.cells [.sl [] .nil]), .blk b1 (.cells [.sl [] .nil])] H1 | .inr y => e = .ret ∧ l = [(2, .v (.ref b1 0)), (3, .v (.ref b2 0)), (4, .v (.ref b3 0))] ∧ B4 Eq F10 [.blk b15 (.cells (R0 y.1)), .tl t12, .tl t13, .blk b5 (.cells [.sl (Ar.lst eXJ s9.1) t13]), .blk b4 (.cells [.sl (Ar.lst eXK s9.2) t12]), .blk b3 (.cells [vi y.2]), .blk b2 (.cells [.sl [] .nil]), .blk b1 (.cells [.sl [] .nil])] H1) (by kernel_rfl) ?_ ?_
  ·clear h;have h := hx;clear hx;cbv;refine A6 hE h (fun hc h => ?_) (fun hc h => ?_)
   ·cbv;refine B1 hE hO 3 rfl ?_;cbv;refine A7 hE h (c171 N s9.1 y8.2.p) (.cons (.ro _ _) (.refl _)) fun r17 h => ?_;cbv;refine A8 hE hO 0 rfl rfl fun H hO => ?_;cbv;refine B1 hE hO 0 rfl ?_;cbv;refine A6 hE h (fun hc h => ?_) (fun hc h => ?_)
    ·cbv;refine A7 hE h (c176 N y8.2.p) (.refl _) fun r18 h => ?_;cbv;refine A6 hE h (fun hc h => ?_) (fun hc h => ?_)
     ·cbv;refine A8 hE hO 7 rfl rfl fun H hO => ?_;cbv;refine A8 hE hO 6 rfl rfl fun H hO => ?_;cbv;refine A8 hE hO 5 rfl rfl fun H hO => ?_;cbv;cases h;exact ⟨_, ⟨rfl, rfl, hO⟩, .e rfl (.e2 .z), rfl⟩
     cbv;refine B1 hE hO 3 rfl ?_;cbv;refine D5 hE ?_;cbv;refine A8 hE hO 0 rfl rfl fun H hO => ?_;cbv;refine B1 hE hO 3 rfl ?_;cbv;refine D5 hE ?_;cbv;refine CX hE (by first | exact MD _ | exact Ob _ | trivial | rfl) ?_;cbv;refine V9 (f := eXJ) hE S5 (by decide) hO 2 rfl ht13 (l := s9.1) (m := [y8.2.p]) (.refl _) (.lstc (.eq (eXO y8.2.p) (.refl _)) (.lst0)) h fun l20 t19 H hO ht19 h => ?_;cbv;refine NR hE hO 3 rfl rfl fun H hO => ?_;cbv;cases h;exact ⟨_, ⟨t19, ht19, rfl, rfl, hO⟩, .e rfl (.e4 .z), rfl⟩
    cbv;cases h;exact ⟨_, ⟨t13, ht13, rfl, rfl, hO⟩, .e rfl (.e4 .z), rfl⟩
   cbv;cases h;exact ⟨_, ⟨t13, ht13, rfl, rfl, hO⟩, .e rfl (.e4 .z), rfl⟩
  clear hx
  rcases s16 with y21 | y26
  ·rintro e l H ⟨t22, ht22, rfl, rfl, hO⟩;cbv;refine B1 hE hO 4 rfl ?_;cbv;refine Wa hE hO 0 rfl fun H hO => ?_;cbv;refine A7 hE (g := fun r23 => .bool r23) h (fun r23 hx => c211 N s9.2 (.func (.func 212) [] [.eref (R0 y21.1) 0]) (fun y1 => K5 N y1 y21.1) (fun y1 r hx => B6.value (F := []) (C := [.eref (R0 y21.1) 0]) (c212 N y1 y21.1 r hx)) r23 hx) (.cons (.ro _ _) (.refl _)) fun r23 h => ?_;cbv;refine A6 hE h (fun hc h => ?_) (fun hc h => ?_)
   ·cbv;cases h;exact ⟨_, rfl, ⟨⟨t12, t22⟩, ⟨ht12, ht22⟩, hO⟩⟩
   cbv;refine B1 hE hO 3 rfl ?_;cbv;refine V9 (f := eXK) hE GZ (by decide) hO 0 rfl ht12 (l := s9.2) (m := [y21.1]) (.refl _) (.lstc (.eq (eXY y21.1) (.refl _)) (.lst0)) h fun l25 t24 H hO ht24 h => ?_;cbv;refine A8 hE hO 3 rfl rfl fun H hO => ?_;cbv;refine B1 hE hO 3 rfl ?_;cbv;refine D5 hE ?_;cbv;refine A6 hE h (fun hc h => ?_) (fun hc h => ?_)
   ·cbv;refine A8 hE hO 6 rfl rfl fun H hO => ?_;cbv;refine A8 hE hO 5 rfl rfl fun H hO => ?_;cbv;refine A8 hE hO 4 rfl rfl fun H hO => ?_;cbv;cases h;exact ⟨_, rfl, rfl, ⟨⟨t24, t22⟩, ⟨rfl, ⟨ht24, ht22⟩⟩, hO⟩⟩
   cbv;cases h;exact ⟨_, rfl, ⟨⟨t24, t22⟩, ⟨ht24, ht22⟩, hO⟩⟩
  rintro e l H ⟨rfl, rfl, hO⟩;cbv;cases h;exact ⟨_, rfl, rfl, ⟨⟨t12, t13⟩, ⟨rfl, ⟨ht12, ht13⟩⟩, hO.tail⟩⟩
 ·rintro d27 s31 H rfl hd ⟨⟨t32, t33⟩, ⟨ht32, ht33⟩, hO⟩;have hO : B4 Eq H0 [.tl t32, .tl t33, .blk b5 (.cells [.sl (Ar.lst eXJ s31.1) t33]), .blk b4 (.cells [.sl (Ar.lst eXK s31.2) t32]), .blk b3 (.cells [vi 0]), .blk b2 (.cells [.sl [] .nil]), .blk b1 (.cells [.sl [] .nil]), .blk d27 DB] H := B4.dblk hd hO;clear hd;clear hx;cbv;refine JM hE hO 6 rfl fun H1 hT hW => ?_;cbv;refine B1 hE hW 3 rfl ?_;cbv;refine B1 hE hW 2 rfl ?_;cbv;refine CX hE trivial ?_;cbv;refine JP hE hO 6 rfl hT fun H hO => ?_;cbv;refine A8 hE hO 5 rfl rfl fun H hO => ?_;cbv;refine A8 hE hO 4 rfl rfl fun H hO => ?_;cbv;refine Ax hE hO 7 rfl fun H hO => ?_;cbv;refine B1 hE hO 6 rfl ?_;cbv;refine B1 hE hO 5 rfl ?_;cbv;refine B1 hE hO 4 rfl ?_;cbv;cases h;exact hK _ _ _ hO (.tup (.cons (.ro _ _) (.cons (.ro _ _) (.refl _))))
 rintro d27 y34 e H rfl hd hX;clear hx
 rcases hX with ⟨⟨t35, t36⟩, ⟨rfl, ht35, ht36⟩, hO⟩
 have hO : B4 Eq H0 [.tl t35, .tl t36, .blk b5 (.cells [.sl (Ar.lst eXJ y34.1) t36]), .blk b4 (.cells [.sl (Ar.lst eXK y34.2.1) t35]), .blk b3 (.cells [vi y34.2.2]), .blk b2 (.cells [.sl [] .nil]), .blk b1 (.cells [.sl [] .nil]), .blk d27 DB] H := B4.dblk hd hO;clear hd;cbv;refine Ax hE hO 7 rfl fun H hO => ?_;cbv;refine B1 hE hO 6 rfl ?_;cbv;refine B1 hE hO 5 rfl ?_;cbv;refine B1 hE hO 4 rfl ?_;cbv;cases h;exact hK _ _ _ hO (.tup (.cons (.lit _ (B3)) (.cons (.lit _ (B3)) (.refl _))))
theorem c130 (N aA r) (h : Aa N aA = some r) : B6 prog 130 [(B9 aA)] (.tup [.sl (Ar.lst eXJ r.1) .ro, vi r.2]) := by
 unfold Aa at h
 refine J9 cf0 func130 call130 ntmps130 ?_;intro E H0 K hE hK hO;cbv;refine A7 hE h (c169 N aA) (.refl _) fun r1 h => ?_;cbv;refine A6 hE h (fun hc h => ?_) (fun hc h => ?_)
 ·cbv;cases h;exact hK _ _ _ hO (.tup (.cons (.lit _ (B3)) (.refl _)))
 cbv;replace hO := hO.tl0 (t := .full) rfl;obtain ⟨s4, hx, h⟩ := bind_some h;refine I6 cf0 hE G7 (γ := D6) (fun s2 g => [(5, .v (.sl (Ar.lst eXJ s2.1) g)), (6, .v (vi s2.2))]) (fun s2 g H1 => N2 g ∧ B4 Eq H0 [.tl g] H1) (fun x e l H1 => match (generalizing := false) x with | .inl y => ∃ u1 : D6, N2 u1 ∧ e = .exit 0 ∧ l = [(5, .v (.sl (Ar.lst eXJ y) u1))] ∧ B4 Eq H0 [.tl u1] H1 | .inr y => ∃ u1 : D6, N2 u1 ∧ e = .ret ∧ l = [(2, .v (.sl [] .nil)), (3, .v (vi y))] ∧ B4 Eq H0 [.tl u1] H1) (by kernel_rfl) ?_ .full hx ?_ ?_ ?_
 ·rintro s2 t3 H o ⟨ht3, hO⟩ h;clear hx;cbv;refine D5 hE ?_;cbv;refine A6 hE h (fun hc h => ?_) (fun hc h => ?_)
  ·cbv;refine C2 hE eXO h fun x5 h => ?_;cbv;refine A7 hE h (c170 N x5) (.refl _) fun r6 h => ?_;cbv;refine A6 hE h (fun hc h => ?_) (fun hc h => ?_)
   ·cbv;cases h;exact ⟨_, _, rfl, ⟨t3, ht3, rfl, rfl, hO⟩, .e2 .z, rfl⟩
   cbv;refine D5 hE ?_;cbv;obtain ⟨s9, hx, h⟩ := bind_some h;refine I6 cf0 hE G7 (γ := D6) (fun s7 g => [(5, .v (.sl (Ar.lst eXJ s7.1) g)), (6, .v (vi s2.2)), (37, .v (.sl (Ar.lst eXJ r6.2.1) .ro)), (38, .v (vi (Ar.len r6.2.1))), (39, .v (vi s7.2))]) (fun s7 g H1 => N2 g ∧ B4 Eq H0 [.tl g] H1) (fun x e l H1 => ∃ u1 : D6, N2 u1 ∧ e = .exit 2 ∧ l = [(5, .v (.sl (Ar.lst eXJ x) u1)), (6, .v (vi s2.2))] ∧ B4 Eq H0 [.tl u1] H1) (by kernel_rfl) ?_ t3 hx ?_ ?_ ?_
   ·rintro s7 t8 H o ⟨ht8, hO⟩ h;clear hx;cbv;refine A6 hE h (fun hc h => ?_) (fun hc h => ?_)
    ·cbv;refine C2 hE eXO h fun x10 h => ?_;cbv;refine A7 hE h (c171 N s7.1 x10) (.cons (.ro _ _) (.refl _)) fun r11 h => ?_;cbv;refine A6 hE h (fun hc h => ?_) (fun hc h => ?_)
     ·cbv;refine V9 (f := eXJ) hE S5 (by decide) hO 0 rfl ht8 (l := s7.1) (m := [x10]) (.refl _) (.lstc (.eq (eXO x10) (.refl _)) (.lst0)) h fun l13 t12 H hO ht12 h => ?_;cbv;cases h;exact ⟨_, t12, rfl, .e rfl (.e4 .z), rfl, ht12, hO⟩
     cbv;cases h;exact ⟨_, t8, rfl, .e rfl (.e4 .z), rfl, ht8, hO⟩
    cbv;cases h;exact ⟨_, _, rfl, ⟨t8, ht8, rfl, rfl, hO⟩, .e2 .z, rfl⟩
   ·exact .e rfl (.e4 .z)
   ·exact ⟨ht3, hO⟩
   clear hx;rintro e l H ⟨t14, ht14, rfl, rfl, hO⟩;cbv;refine D5 hE ?_;cbv;refine A6 hE h (fun hc h => ?_) (fun hc h => ?_)
   ·cbv;cases h;exact ⟨_, _, rfl, ⟨t14, ht14, rfl, rfl, hO⟩, .e2 .z, rfl⟩
   cbv;cases h;exact ⟨_, t14, rfl, .e2 .z, rfl, ht14, hO⟩
  cbv;cases h;exact ⟨_, _, rfl, ⟨t3, ht3, rfl, rfl, hO⟩, .e rfl .z, rfl⟩
 ·exact .v (.slt _ (.lstc (.eq (eXO aA) (.refl _)) (.lst0))) (.e rfl .z)
 ·exact ⟨trivial, hO⟩
 clear hx
 rcases s4 with y15 | y17
 ·rintro e l H ⟨t16, ht16, rfl, rfl, hO⟩;cbv;cases h;exact hK _ _ _ hO (.tup (.cons (.ro _ _) (.refl _)))
 rintro e l H ⟨t18, ht18, rfl, rfl, hO⟩;cbv;cases h;exact hK _ _ _ hO (.tup (.cons (.lit _ (B3)) (.refl _)))
theorem c131 (N aA r) (h : DK N aA = some r) : B6 prog 131 [(B9 aA)] (.tup [vi r.1, vi r.2.1, vi r.2.2]) := by
 unfold DK at h
 refine J9 cf0 func131 call131 ntmps131 ?_;intro E H0 K hE hK hO;cbv;refine A7 hE h (c169 N aA) (.refl _) fun r1 h => ?_;cbv;refine A6 hE h (fun hc h => ?_) (fun hc h => ?_)
 ·cbv;cases h;exact hK _ _ _ hO (.refl _)
 cbv;refine A7 hE h (c172 N aA) (.refl _) fun r2 h => ?_;cbv;cases h;exact hK _ _ _ hO (.refl _)
theorem c217 (N aH aF r) (h : Br N aH aF = some r) : B6 prog 217 [(B9 aH), .eref (D3 aF) 0] (.bool r) := by
 unfold Br at h
 refine J9 cf0 func217 call217 ntmps217 ?_;intro E H0 K hE hK hO;cbv;refine A7 hE h (c215 N N aH aF) (.refl _) fun r1 h => ?_;cbv;cases h;exact hK _ _ _ hO (.refl _)
theorem c175 (N aG aA r) (h : EO N aG aA = some r) : B6 prog 175 [.sl (Ar.lst eXJ aG) .ro, (B9 aA)] (vi r) := by
 unfold EO at h
 refine J9 cf0 func175 call175 ntmps175 ?_;intro E H0 K hE hK hO;cbv;refine A7 hE (g := fun r1 => vi r1) h (fun r1 hx => c134 N aG (.func (.func 217) [] [.eref (D3 aA) 0]) (fun y1 => Br N y1 aA) (fun y1 r hx => B6.value (F := []) (C := [.eref (D3 aA) 0]) (c217 N y1 aA r hx)) r1 hx) (.refl _) fun r1 h => ?_;cbv;cases h;exact hK _ _ _ hO (.refl _)
def cfo170 : Cf := ⟨[2, 3, 4, 5, 6, 7, 5000002, 5000005], [(13, 5), (3000018, 0), (3000018, 1)], [(16, 9)], [1000013, 2000018], [(40, 7)], []⟩
set_option maxHeartbeats 2000000 in
theorem o170 (N aA r) (h : Z8 N aA = some r) : Ur prog 170 [(B9 aA)] 17 (Ar.lst eXK r.1) (fun o => .tup [o, .sl (Ar.lst eXJ r.2.1) .ro, vi r.2.2]) := by
 unfold Z8 at h
 intro H0;refine Kv (T := TT) (F := H0) (mk := fun o => .tup [o, .sl (Ar.lst eXJ r.2.1) .ro, vi r.2.2]) (DV.tup [.bad, .sl (Ar.lst eXJ r.2.1) .ro, vi r.2.2] 0 (by simp)) cfo170 G7 func170 (by rfl) (by kernel_rfl) call170 ntmps170 (by rfl) (by rfl) ?_;intro E K hE hK hN;have hO : B4 Eq H0 [] H0 := .start B7 rfl;cbv;refine NU hE (f0 := eXK) hO fun q2 b1 H hq2 hO => ?_;cbv;refine C8 hE hO fun b3 H hO => ?_;cbv;refine C8 hE hO fun b4 H hO => ?_;cbv;refine NU hE (f0 := eXK) hO fun q6 b5 H hq6 hO => ?_;cbv;refine C8 hE hO fun b7 H hO => ?_;cbv;refine Q0 hE h (c210 N N aA) (.refl _) fun r8 v9 hv9 h => ?_;cbv;replace hO := hO.tl0 (t := .nil) rfl;obtain ⟨o16, hx, h⟩ := bind_some h;replace hO := hO.cast (L' := [.tl .nil, .blk b7 (.cells [.sl (Ar.lst eXJ ([])) .nil]), .blk b5 (.cells [.own q6.id q6.lo q6.n]), .blk q6.id (.arr 17 (q6.pre ++ Ar.lst eXK ([]) ++ q6.rest)), .blk b4 (.cells [vi 0]), .blk b3 (.cells [.sl [] .nil]), .blk b1 (.cells [.own q2.id q2.lo q2.n]), .blk q2.id (.arr 17 (q2.pre ++ Ar.lst eXK ([]) ++ q2.rest))]) (by first | (simp only [← B3]; done) | (simp only [← B3]; rfl));refine AG cfo170 hE G7 (ι := Nat) (enc := fun (x : (B8 × A1)) => [(E8 x.1), (B0 x.2)]) (fun (s11 : (List A4) × (List B8)) F H => ∃ g : D6 × OG, (N2 g.1 ∧ T6 g.2 (Ar.len s11.2)) ∧ B4 Eq F [.tl g.1, .blk b7 (.cells [.sl (Ar.lst eXJ s11.1) g.1]), .blk b5 (.cells [.own g.2.id g.2.lo g.2.n]), .blk g.2.id (.arr 17 (g.2.pre ++ Ar.lst eXK s11.2 ++ g.2.rest)), .blk b4 (.cells [vi 0]), .blk b3 (.cells [.sl [] .nil]), .blk b1 (.cells [.own q2.id q2.lo q2.n]), .blk q2.id (.arr 17 (q2.pre ++ Ar.lst eXK ([]) ++ q2.rest))] H) (fun (r : ((List A4) × (List B8) × Int × (List B8))) e F H => ∃ g : D6 × OG, (e = .ret ∧ N2 g.1 ∧ T6 g.2 (Ar.len r.2.1)) ∧ B4 Eq F [.tl g.1, .blk b7 (.cells [.sl (Ar.lst eXJ r.1) g.1]), .blk b5 (.cells [.own g.2.id g.2.lo g.2.n]), .blk g.2.id (.arr 17 (g.2.pre ++ Ar.lst eXK r.2.1 ++ g.2.rest)), .blk b4 (.cells [vi r.2.2.1]), .blk b3 (.cells [.sl [] .nil]), .blk b1 (.cells [.sl [] .nil]), .blk q2.id (.arr 17 (q2.pre ++ Ar.lst eXK ([]) ++ q2.rest))] H) (fun i s11 y10 => [(2, .v (.ref b1 0)), (3, .v (.ref b3 0)), (4, .v (.ref b4 0)), (5, .v (.ref b5 0)), (6, .v (.ref b7 0)), (7, .v (.ref i 0)), (8, .v (.eref (F6 y10.2) 0))]) (fun i s11 y10 F H => ∃ g : D6 × OG, (N2 g.1 ∧ T6 g.2 (Ar.len s11.2)) ∧ B4 Eq F [.blk i (.cells (R0 y10.1)), .tl g.1, .blk b7 (.cells [.sl (Ar.lst eXJ s11.1) g.1]), .blk b5 (.cells [.own g.2.id g.2.lo g.2.n]), .blk g.2.id (.arr 17 (g.2.pre ++ Ar.lst eXK s11.2 ++ g.2.rest)), .blk b4 (.cells [vi 0]), .blk b3 (.cells [.sl [] .nil]), .blk b1 (.cells [.own q2.id q2.lo q2.n]), .blk q2.id (.arr 17 (q2.pre ++ Ar.lst eXK ([]) ++ q2.rest))] H) (fun _ => C6.ex fun _ => B4.stable B7 _) (fun _ _ => C6.ex fun _ => B4.stable B7 _) (fun _ _ _ => C6.ex fun _ => B4.stable B7 _) hv9 hx (⟨⟨.nil, q6⟩, ⟨trivial, hq6⟩, hO⟩) (by decide) (fun _ => rfl) (by kernel_rfl) (by kernel_rfl) ?_ ?_ ?_ ?_
 ·rintro E i13 y10 s11 F12 H hE ⟨⟨t14, q15⟩, ⟨ht14, hq15⟩, hO⟩;clear hx h;cbv;refine C8 hE hO fun b17 H hO => ?_;cbv;refine A8 hE hO 0 rfl rfl fun H hO => ?_;cbv;exact ⟨b17, ⟨⟨t14, q15⟩, ⟨ht14, hq15⟩, hO⟩, .e rfl (.e2 (.e4 .z)), rfl⟩
 ·rintro E i13 b17 y10 s11 F12 H o hE hF h ⟨⟨t14, q15⟩, ⟨ht14, hq15⟩, hO⟩;clear hx;cbv;refine A8 hE hO 0 rfl rfl fun H hO => ?_;cbv;obtain ⟨s18, hx, h⟩ := bind_some h;refine J8 cfo170 hE G7 (fun e l H1 => match (generalizing := false) s18 with | .inl y => ∃ u1 : D6, N2 u1 ∧ e = .normal ∧ l = [(2, .v (.ref b1 0)), (3, .v (.ref b3 0)), (4, .v (.ref b4 0)), (5, .v (.ref b5 0)), (7, .v (.ref b17 0))] ∧ B4 Eq F12 [.blk b17 (.cells (R0 y.1)), .tl u1, .blk b7 (.cells [.sl (Ar.lst eXJ y.2) u1]), .blk b5 (.cells [.own q15.id q15.lo q15.n]), .blk q15.id (.arr 17 (q15.pre ++ Ar.lst eXK s11.2 ++ q15.rest)), .blk b4 (.cells [vi 0]), .blk b3 (.cells [.sl [] .nil]), .blk b1 (.cells [.own q2.id q2.lo q2.n]), .blk q2.id (.arr 17 (q2.pre ++ Ar.lst eXK ([]) ++ q2.rest))] H1 | .inr y => e = .ret ∧ l = [(2, .v (.ref b1 0)), (3, .v (.ref b3 0)), (4, .v (.ref b4 0))] ∧ B4 Eq F12 [.blk b17 (.cells (R0 y.1)), .tl t14, .blk b7 (.cells [.sl (Ar.lst eXJ s11.1) t14]), .blk b5 (.cells [.own q15.id q15.lo q15.n]), .blk q15.id (.arr 17 (q15.pre ++ Ar.lst eXK s11.2 ++ q15.rest)), .blk b4 (.cells [vi y.2.1]), .blk b3 (.cells [.sl [] .nil]), .blk b1 (.cells [.sl [] .nil]), .blk q2.id (.arr 17 (q2.pre ++ Ar.lst eXK ([]) ++ q2.rest))] H1) (by kernel_rfl) ?_ ?_
  ·clear h;have h := hx;clear hx;cbv;refine A6 hE h (fun hc h => ?_) (fun hc h => ?_)
   ·cbv;refine B1 hE hO 2 rfl ?_;cbv;refine A7 hE h (c171 N s11.1 y10.2.p) (.cons (.ro _ _) (.refl _)) fun r19 h => ?_;cbv;refine A8 hE hO 0 rfl rfl fun H hO => ?_;cbv;refine B1 hE hO 0 rfl ?_;cbv;refine A6 hE h (fun hc h => ?_) (fun hc h => ?_)
    ·cbv;refine A7 hE h (c176 N y10.2.p) (.refl _) fun r20 h => ?_;cbv;refine A6 hE h (fun hc h => ?_) (fun hc h => ?_)
     ·cbv;refine A8 hE hO 7 rfl rfl fun H hO => ?_;cbv;refine A8 hE hO 6 rfl rfl fun H hO => ?_;cbv;refine A8 hE hO 5 rfl rfl fun H hO => ?_;cbv;cases h;exact ⟨_, ⟨rfl, rfl, hO⟩, .e rfl (.e2 .z), rfl⟩
     cbv;refine B1 hE hO 2 rfl ?_;cbv;refine D5 hE ?_;cbv;refine A8 hE hO 0 rfl rfl fun H hO => ?_;cbv;refine B1 hE hO 2 rfl ?_;cbv;refine D5 hE ?_;cbv;refine CX hE (by first | exact MD _ | exact Ob _ | trivial | rfl) ?_;cbv;refine V9 (f := eXJ) hE S5 (by decide) hO 1 rfl ht14 (l := s11.1) (m := [y10.2.p]) (.refl _) (.lstc (.eq (eXO y10.2.p) (.refl _)) (.lst0)) h fun l22 t21 H hO ht21 h => ?_;cbv;refine NR hE hO 2 rfl rfl fun H hO => ?_;cbv;cases h;exact ⟨_, ⟨t21, ht21, rfl, rfl, hO⟩, .e rfl (.e4 .z), rfl⟩
    cbv;cases h;exact ⟨_, ⟨t14, ht14, rfl, rfl, hO⟩, .e rfl (.e4 .z), rfl⟩
   cbv;cases h;exact ⟨_, ⟨t14, ht14, rfl, rfl, hO⟩, .e rfl (.e4 .z), rfl⟩
  clear hx
  rcases s18 with y23 | y28
  ·rintro e l H ⟨t24, ht24, rfl, rfl, hO⟩;cbv;refine B1 hE hO 3 rfl ?_;cbv;refine Wa hE hO 0 rfl fun H hO => ?_;cbv;refine Vg hE (g := fun r25 => .bool r25) h (fun r25 hx => c211 N s11.2 (.func (.func 212) [] [.eref (R0 y23.1) 0]) (fun y1 => K5 N y1 y23.1) (fun y1 r hx => B6.value (F := []) (C := [.eref (R0 y23.1) 0]) (c212 N y1 y23.1 r hx)) r25 hx) (fun _ => .bool _) (TA hE hO hq15 3 rfl (.le (.refl _) (.nil))) fun r25 h => ?_;cbv;refine A6 hE h (fun hc h => ?_) (fun hc h => ?_)
   ·cbv;cases h;exact ⟨_, rfl, ⟨⟨t24, q15⟩, ⟨ht24, hq15⟩, hO⟩⟩
   cbv;refine B1 hE hO 2 rfl ?_;cbv;refine DN (f := eXK) hE GZ (by decide) hO hq15 3 rfl (m := [y23.1]) (BD (f := eXK) hE GZ (.lstc (.eq (eXY y23.1) (.refl _)) (.lst0))) h fun l27 q26 H hq26 hO h => ?_;cbv;refine A8 hE hO 2 rfl rfl fun H hO => ?_;cbv;refine B1 hE hO 2 rfl ?_;cbv;refine EC hE hq26 ?_;cbv;refine A6 hE h (fun hc h => ?_) (fun hc h => ?_)
   ·cbv;refine A8 hE hO 6 rfl rfl fun H hO => ?_;cbv;refine A8 hE hO 5 rfl rfl fun H hO => ?_;cbv;refine A8 hE hO 4 rfl rfl fun H hO => ?_;cbv;cases h;exact ⟨_, rfl, rfl, ⟨⟨t24, q26⟩, ⟨rfl, ⟨ht24, hq26⟩⟩, hO⟩⟩
   cbv;cases h;exact ⟨_, rfl, ⟨⟨t24, q26⟩, ⟨ht24, hq26⟩, hO⟩⟩
  rintro e l H ⟨rfl, rfl, hO⟩;cbv;cases h;exact ⟨_, rfl, rfl, ⟨⟨t14, q15⟩, ⟨rfl, ⟨ht14, hq15⟩⟩, hO.tail⟩⟩
 ·rintro d29 s33 H rfl hd ⟨⟨t34, q35⟩, ⟨ht34, hq35⟩, hO⟩;have hO : B4 Eq H0 [.tl t34, .blk b7 (.cells [.sl (Ar.lst eXJ s33.1) t34]), .blk b5 (.cells [.own q35.id q35.lo q35.n]), .blk q35.id (.arr 17 (q35.pre ++ Ar.lst eXK s33.2 ++ q35.rest)), .blk b4 (.cells [vi 0]), .blk b3 (.cells [.sl [] .nil]), .blk b1 (.cells [.own q2.id q2.lo q2.n]), .blk q2.id (.arr 17 (q2.pre ++ Ar.lst eXK ([]) ++ q2.rest)), .blk d29 DB] H := B4.dblk hd hO;clear hd;clear hx;cbv;replace hO := hO.cast (L' := [.tl t34, .blk b7 (.cells [.sl (Ar.lst eXJ s33.1) t34]), .blk b5 (.cells [.own q35.id q35.lo q35.n]), .blk q35.id (.arr 17 (q35.pre ++ Ar.lst eXK s33.2 ++ q35.rest)), .blk b4 (.cells [vi 0]), .blk b3 (.cells [.sl (Ar.lst eXJ ([])) .nil]), .blk b1 (.cells [.own q2.id q2.lo q2.n]), .blk q2.id (.arr 17 (q2.pre ++ Ar.lst eXK ([]) ++ q2.rest)), .blk d29 DB]) (by first | (simp only [← B3]; done) | (simp only [← B3]; rfl));replace hO := hO.tl0 (t := .nil) rfl;obtain ⟨s36, hx, h⟩ := bind_some h;refine J8 cfo170 hE G7 (fun e l H1 => e = .normal ∧ l = [(2, .v (.ref b1 0)), (3, .v (.ref b3 0)), (4, .v (.ref b4 0))] ∧ B4 Eq H0 [.tl .nil, .tl t34, .blk b7 (.cells [.sl (Ar.lst eXJ s33.1) t34]), .blk b5 (.cells [.own q35.id q35.lo q35.n]), .blk q35.id (.arr 17 (q35.pre ++ Ar.lst eXK s33.2 ++ q35.rest)), .blk b4 (.cells [vi 0]), .blk b3 (.cells [.sl (Ar.lst eXJ s36) t34]), .blk b1 (.cells [.own q35.id q35.lo q35.n]), .blk q2.id (.arr 17 (q2.pre ++ Ar.lst eXK ([]) ++ q2.rest)), .blk d29 DB] H1) (by kernel_rfl) ?_ ?_
  ·clear h;have h := hx;clear hx;cbv
   repeat' first | refine And.intro ?_ ?_ | (refine B1 hE hO 3 rfl ?_; cbv) | (refine B1 hE hO 2 rfl ?_; cbv) | (refine A8 hE hO 7 rfl rfl fun H hO => ?_; cbv) | (refine A8 hE hO 6 rfl rfl fun H hO => ?_; cbv) | (refine A8 hE hO 5 rfl rfl fun H hO => ?_; cbv) | (have h := O2 h; subst h; exact ⟨_, ⟨rfl, rfl, hO⟩, .e rfl (.e2 .z), rfl⟩)
  clear hx;rintro e l H ⟨rfl, rfl, hO⟩;cbv;refine Ax hE hO 9 rfl fun H hO => ?_;cbv;refine B1 hE hO 7 rfl ?_;cbv;refine B1 hE hO 6 rfl ?_;cbv;refine B1 hE hO 5 rfl ?_;cbv;cases h;exact hK q35 _ 4 _ _ (T8 hE hq35) rfl hO (.tup (.cons (.refl _) (.cons (.ro _ _) (.refl _))))
 rintro d29 y277 e H rfl hd hX;clear hx
 rcases hX with ⟨⟨t278, q279⟩, ⟨rfl, ht278, hq279⟩, hO⟩
 have hO : B4 Eq H0 [.tl t278, .blk b7 (.cells [.sl (Ar.lst eXJ y277.1) t278]), .blk b5 (.cells [.own q279.id q279.lo q279.n]), .blk q279.id (.arr 17 (q279.pre ++ Ar.lst eXK y277.2.1 ++ q279.rest)), .blk b4 (.cells [vi y277.2.2.1]), .blk b3 (.cells [.sl [] .nil]), .blk b1 (.cells [.sl [] .nil]), .blk q2.id (.arr 17 (q2.pre ++ Ar.lst eXK ([]) ++ q2.rest)), .blk d29 DB] H := B4.dblk hd hO;clear hd;cbv;refine Ax hE hO 8 rfl fun H hO => ?_;cbv;refine B1 hE hO 6 rfl ?_;cbv;refine B1 hE hO 5 rfl ?_;cbv;refine B1 hE hO 4 rfl ?_;cbv;cases h;exact hN (by rw [Ar.lst_eq]; rfl) _ _ _ hO (.tup (.cons (.refl _) (.cons (.lit _ (B3)) (.refl _))))
end Go.Ab
