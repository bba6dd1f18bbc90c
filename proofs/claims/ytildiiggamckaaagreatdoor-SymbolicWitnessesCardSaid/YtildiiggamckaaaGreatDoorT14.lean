/- GXCo3 GXCo4 -/
import Derived.Test.YtildiiggamckaaaGreatDoorT13
set_option linter.all false
namespace Go.Ab
open Go.RowKit Go.Proofs Go.Proofs.Tryz G4
variable [Ar] [G4]
set_option maxRecDepth 100000
def cf280 : Cf := ⟨[3, 6], [(1, 5)], [], [], [], [(1, 3, [10])]⟩
theorem c280 (N aB aM cB r) (h : Bw N aB aM cB = some r) : B5 prog 280 [(C1 aB), vi aM, (C1 cB)] ((C1 r)) := by
 unfold Bw at h
 refine K2 cf280 func280 call280 ntmps280 ?_;intro E H0 K hE hK hO;cbv;refine D1 hE hO fun b1 H hO => ?_;cbv;refine D1 hE hO fun b2 H hO => ?_;cbv;refine MX hE hO 1 rfl fun H1 hT hW => ?_;cbv;refine EE hE trivial ?_;cbv;refine MY hE hO 1 rfl hT fun H hO => ?_;cbv;refine A8 hE hO 1 rfl rfl fun H hO => ?_;cbv;refine B1 hE hO 1 rfl ?_;cbv;refine A8 hE hO 0 rfl rfl fun H hO => ?_;cbv;refine B1 hE hO 0 rfl ?_;cbv;cases h;exact hK hO (.agg (.cons (.refl _) (.cons (.lit _ (C5 ((eYi cB).symm) (B4))) (.refl _))))
def cf210 : Cf := ⟨[], [(9, 5), (11, 8)], [(8, 6)], [], [], []⟩
def UE (N n : Nat) : Prop := ∀ (aB : A5) (r : (List (B8 × A1))), L3 N n aB = some r → CH prog 210 [(C1 aB)] (fun v => DE prog v (r.map fun (x : (B8 × A1)) => [(F3 x.1), (B0 x.2)]))
def Xu (N n : Nat) : Prop := ∀ (aB : A5) (r : (List (B8 × A1))), U7 N n aB = some r → CH prog 245 [(C1 aB)] (fun v => DE prog v (r.map fun (x : (B8 × A1)) => [(F3 x.1), (B0 x.2)]))
def Xt (N n : Nat) : Prop := ∀ (bR : A5) (bS : A5) (r : (List (B8 × A1))), Q8 N n bR bS = some r → CH prog 246 [(C1 bR), (C1 bS)] (fun v => DE prog v (r.map fun (x : (B8 × A1)) => [(F3 x.1), (B0 x.2)]))
def Xs (N n : Nat) : Prop := ∀ (aB : A5) (r : (List (B8 × A1))), Az N n aB = some r → CH prog 247 [(C1 aB)] (fun v => DE prog v (r.map fun (x : (B8 × A1)) => [(F3 x.1), (B0 x.2)]))
def cf273 : Cf := ⟨[3, 4, 6, 1000002], [(10, 4)], [], [4], [], []⟩
def Xq (N n : Nat) : Prop := ∀ (aF : A5) (r : (List (B8 × A1))), S8 N n aF = some r → Et prog 273 (fun yv => [yv, .eref (D5 aF) 0]) (List.map (fun (x : (B8 × A1)) => [(F3 x.1), (B0 x.2)]) r) Vd
def cf276 : Cf := ⟨[1000003], [(5, 11)], [], [], [], []⟩
def Xp (N n : Nat) : Prop := ∀ (aF : A5) (aO : A5) (r : (List (B8 × A1))), S7 N n aF aO = some r → Et prog 276 (fun yv => [yv, .eref (D5 aF) 0, .eref (D5 aO) 0]) (List.map (fun (x : (B8 × A1)) => [(F3 x.1), (B0 x.2)]) r) Vd
def cf277 : Cf := ⟨[3, 4, 1000002], [], [(37, 13), (50, 17)], [2], [], []⟩
def Xo (N n : Nat) : Prop := ∀ (aF : A5) (r : (List (B8 × A1))), X2 N n aF = some r → Et prog 277 (fun yv => [yv, .eref (D5 aF) 0]) (List.map (fun (x : (B8 × A1)) => [(F3 x.1), (B0 x.2)]) r) Vd
theorem k210 (N n : Nat) (ih245 : Xu N n) (ih246 : Xt N n) (ih247 : Xs N n) : UE N (n + 1) := by
 intro aB r h
 unfold L3 at h
 refine O6 cf210 H6 func210 (by rfl) (by kernel_rfl) call210 ntmps210 (by rfl) (by rfl) ?_;intro E H0 K hE hK;have hO : B3 Eq H0 [] H0 := .start B7 rfl;cbv;refine A6 hE h (fun _ h => ?_) fun _ h => ?_
 ·cbv;exact hK _ _ _ hO (O4 call244 (c244 N aB r h))
 cbv;obtain ⟨s1, hx, h⟩ := bind_some h;refine K5 cf210 hE H6 (fun e l H1 => e = .normal ∧ l = [(1, .v (.eref (D5 aB) 0)), fi 4 aB.Op, (8, .v (.bool s1))] ∧ B3 Eq H0 [] H1) (by kernel_rfl) ?_ ?_
 ·clear h;have h := hx;clear hx;cbv;refine A6 hE h (fun _ h => ?_) fun _ h => ?_
  ·cbv;cases h;exact ⟨_, ⟨rfl, rfl, hO⟩, .e rfl (.e2 .z), rfl⟩
  cbv;refine A6 hE h (fun _ h => ?_) fun _ h => ?_
  ·cbv;cases h;exact ⟨_, ⟨rfl, rfl, hO⟩, .e rfl (.e2 .z), rfl⟩
  cbv;cases h;exact ⟨_, ⟨rfl, rfl, hO⟩, .e rfl (.e2 .z), rfl⟩
 clear hx;rintro e l H ⟨rfl, rfl, hO⟩;cbv;refine A6 hE h (fun _ h => ?_) fun _ h => ?_
 ·cbv;refine R5 hE h (ih245 aB) (.refl _) fun r2 v3 hv3 h => ?_;cbv;cases h;exact hK _ _ _ hO hv3
 cbv;refine A6 hE h (fun _ h => ?_) fun _ h => ?_
 ·cbv;refine C2 hE eYi h fun x4 h => ?_;cbv;refine R5 hE h (ih246 x4 aB) (.refl _) fun r5 v6 hv6 h => ?_;cbv;cases h;exact hK _ _ _ hO hv6
 cbv;refine A6 hE h (fun _ h => ?_) fun _ h => ?_
 ·cbv;refine C2 hE eYi h fun x7 h => ?_;cbv;refine QR hE (f := eYd) W3 h fun l8 t9 h => ?_;cbv;refine R5 hE h (ih246 x7 (⟨4, l8, 0, 0, 0, 0, (⟨0, [], 0, 0, 0, (⟨0, 0, ⟨#[]⟩⟩ : P7)⟩ : G7)⟩ : A5)) (.cons (.refl _) (.cons (.agg (.cons (.refl _) (.cons (.ro _ _) (.cons (.refl _) (.cons (.refl _) (.cons (.refl _) (.cons (.refl _) (.cons (.refl _) (.cons (.lit _ (B4)) (.refl _)))))))))) (.refl _))) fun r10 v11 hv11 h => ?_;cbv;cases h;exact hK _ _ _ hO hv11
 cbv;refine R5 hE h (ih247 aB) (.refl _) fun r12 v13 hv13 h => ?_;cbv;cases h;exact hK _ _ _ hO hv13
theorem k245 (N n : Nat) (ih273 : Xq N n) : Xu N (n + 1) := by
 intro aB r h
 unfold U7 at h
 refine O6 cf0 H6 func245 (by rfl) (by kernel_rfl) call245 ntmps245 (by rfl) (by rfl) ?_;intro E H0 K hE hK;have hO : B3 Eq H0 [] H0 := .start B7 rfl;cbv;exact hK _ _ _ hO (O4 call273 (ih273 aB r h))
theorem k246 (N n : Nat) (ih276 : Xp N n) : Xt N (n + 1) := by
 intro bR bS r h
 unfold Q8 at h
 refine O6 cf0 H6 func246 (by rfl) (by kernel_rfl) call246 ntmps246 (by rfl) (by rfl) ?_;intro E H0 K hE hK;have hO : B3 Eq H0 [] H0 := .start B7 rfl;cbv;exact hK _ _ _ hO (O4 call276 (ih276 bR bS r h))
theorem k247 (N n : Nat) (ih277 : Xo N n) : Xs N (n + 1) := by
 intro aB r h
 unfold Az at h
 refine O6 cf0 H6 func247 (by rfl) (by kernel_rfl) call247 ntmps247 (by rfl) (by rfl) ?_;intro E H0 K hE hK;have hO : B3 Eq H0 [] H0 := .start B7 rfl;cbv;exact hK _ _ _ hO (O4 call277 (ih277 aB r h))
theorem k273 (N n : Nat) (ih210 : UE N n) : Xq N (n + 1) := by
 intro aF r h
 unfold S8 at h
 obtain ⟨⟨w0, u0⟩, h1, hr⟩ := bind_some h;clear h;have hr := N2 hr;subst hr;have h := h1;clear h1;refine L7 cf273 H6 func273 (by rfl) (by kernel_rfl) call273 ntmps273 (by rfl) (fun _ => rfl) ?_;intro yv I D hI hD hy tl F E H K hE hO hK hKD
 have hO : B3 (I (List.map (fun (x : (B8 × A1)) => [(F3 x.1), (B0 x.2)]) (w0 ++ []) ++ tl)) F [] H := by rw [List.append_nil]; exact hO
 cbv;refine EE hE hy.1 ?_;cbv;refine D4 hE ?_;cbv;obtain ⟨w3, w4, s7, hx, h1, he⟩ := K7 h;clear h;have h := h1;clear h1
 rw [he, List.append_assoc] at hO
 clear he;refine TL cf273 hE H6 (γ := Unit) (fun s2 g => [(1, .v (.eref (D5 aF) 0)), (2, .v (.eref [yv] 0)), (8, .v (sr eYd aF.cR)), fi 9 (Ar.len aF.cR), fi 10 s2]) (fun s2 g ds1 w H1 => B3 (I (List.map (fun (x : (B8 × A1)) => [(F3 x.1), (B0 x.2)]) w ++ tl)) F (BR ds1) H1) (fun x e l ds1 w H1 => match (generalizing := false) x with | .inl y => e = .exit 0 ∧ l = [] ∧ B3 (I (List.map (fun (x : (B8 × A1)) => [(F3 x.1), (B0 x.2)]) w ++ tl)) F (BR ds1) H1 | .inr y => e = .ret ∧ l = [] ∧ B3 (I (List.map (fun (x : (B8 × A1)) => [(F3 x.1), (B0 x.2)]) w ++ tl)) F (BR ds1) H1) (fun e l ds1 H1 => (e = .ret ∧ l = [] ∧ B3 D F (BR ds1) H1)) (by kernel_rfl) ?_ (w' := w4 ++ []) () hx rfl ?_ ?_ ?_ ?_
 ·rintro s2 _ ds1 w5 w6 H o hO h;clear hx
  skip
  cbv;refine A6 hE h (fun _ h => ?_) fun _ h => ?_
  ·cbv;refine C2 hE eYi h fun x8 h => ?_;cbv;refine D1 hE hO fun b9 H hO => ?_;cbv;refine D1 hE hO fun b10 H hO => ?_;cbv;refine A8 hE hO 1 rfl rfl fun H hO => ?_;cbv;refine A8 hE hO 0 rfl rfl fun H hO => ?_;cbv;refine B1 hE hO 1 rfl ?_;cbv;refine A6 hE h (fun _ h => ?_) fun _ h => ?_
   ·cbv;obtain ⟨hw, rfl⟩ := C4 h
    rw [← hw] at hO
    exact .inl ⟨_, _, _, rfl, ⟨rfl, rfl, hO.tail.tail⟩, .z, rfl⟩
   cbv;refine B1 hE hO 0 rfl ?_;cbv;refine R5 hE h (ih210 x8) (.refl _) fun r11 v12 hv12 h => ?_;cbv;obtain ⟨w16, w17, o20, hx, h1, he⟩ := K7 h;clear h;have h := h1;clear h1
   rw [he, List.append_assoc] at hO
   clear he;refine Kg cf273 hE H6 (ι := Nat) (σ := Unit) (R := Unit) (enc := fun (x : (B8 × A1)) => [(F3 x.1), (B0 x.2)]) (fun _ w F1 H => B3 (I (List.map (fun (x : (B8 × A1)) => [(F3 x.1), (B0 x.2)]) w ++ tl)) F1 (cb b10 (D5 x8) :: cb b9 [vi s2] :: BR ds1) H) (fun _ e w F1 H => False) (fun e F1 H => e = .ret ∧ B3 D F1 (cb b10 (D5 x8) :: cb b9 [vi s2] :: BR ds1) H) (fun i _ y13 => [(1, .v (.eref (D5 aF) 0)), (2, .v (.eref [yv] 0)), (3, .v (.ref b9 0)), (5, .v (.eref (Y8 y13.1) 0)), (6, .v (.ref i 0))]) (fun i _ y13 w F1 H => B3 (I (List.map (fun (x : (B8 × A1)) => [(F3 x.1), (B0 x.2)]) w ++ tl)) F1 (cb i (G6 y13.2) :: cb b10 (D5 x8) :: cb b9 [vi s2] :: BR ds1) H) (fun _ _ => B3.stable (hI _) _) (fun _ _ _ => ⟨fun h => h.elim, fun _ _ h => h.elim⟩) (fun _ => C7.con (B3.stable hD _)) (fun _ _ _ _ => B3.stable (hI _) _) hv12 hx (w' := w17 ++ w6) hO (by decide) (fun _ => rfl) (by kernel_rfl) (by kernel_rfl) ?_ ?_ ?_ ?_ ?_
   ·rintro E i15 y13 _ w F14 H hE hO;clear hx h;cbv;refine D1 hE hO fun b21 H hO => ?_;cbv;refine A8 hE hO 0 rfl rfl fun H hO => ?_;cbv;exact ⟨b21, hO, .e rfl (.e4 .z), rfl⟩
   ·rintro E i15 b21 y13 _ w18 w19 F14 H o hE hF h hO;clear hx;cbv;obtain ⟨w23, w24, s22, hx, h1, he⟩ := K7 h;clear h;have h := h1;clear h1
    rw [he, List.append_assoc] at hO
    clear he;refine K5 cf273 hE H6 (fun e l H1 => (e = .normal ∧ l = [(2, .v (.eref [yv] 0)), (5, .v (.eref (Y8 y13.1) 0)), (6, .v (.ref b21 0))] ∧ B3 (I (List.map (fun (x : (B8 × A1)) => [(F3 x.1), (B0 x.2)]) (w24 ++ w19) ++ tl)) F14 (cb b21 (G6 s22) :: cb b10 (D5 x8) :: cb b9 [vi s2] :: BR ds1) H1) ∨ (False)) (by kernel_rfl) ?_ ?_
    ·clear h;have h := hx;clear hx;cbv;refine A6 hE h (fun _ h => ?_) fun _ h => ?_
     ·cbv;refine B1 hE hO 0 rfl ?_;cbv;refine QR hE (f := eYd) W3 h fun l25 t26 h => ?_;cbv;refine A7 hE h (c274 N y13.2 l25) (.cons (.refl _) (.cons (.ro _ _) (.refl _))) fun r27 h => ?_;cbv;refine A8 hE hO 0 rfl rfl fun H hO => ?_;cbv;obtain ⟨hw, rfl⟩ := C4 h
      rw [← hw] at hO
      exact ⟨_, .inl ⟨rfl, rfl, hO⟩, .e rfl (.e2 .z), rfl⟩
     cbv;refine A6 hE h (fun _ h => ?_) fun _ h => ?_
     ·cbv;refine B1 hE hO 2 rfl ?_;cbv;refine B1 hE hO 0 rfl ?_;cbv;refine A7 hE h (c275 N aF.cR s2 y13.2) (.refl _) fun r28 h => ?_;cbv;refine A8 hE hO 0 rfl rfl fun H hO => ?_;cbv;obtain ⟨hw, rfl⟩ := C4 h
      rw [← hw] at hO
      exact ⟨_, .inl ⟨rfl, rfl, hO⟩, .e rfl (.e2 .z), rfl⟩
     cbv;obtain ⟨hw, rfl⟩ := C4 h
     rw [← hw] at hO
     exact ⟨_, .inl ⟨rfl, rfl, hO⟩, .e rfl (.e2 .z), rfl⟩
    clear hx;rintro e l H hX
    rcases hX with hX | hX
    ·obtain ⟨rfl, rfl, hO⟩ := hX;cbv;refine B1 hE hO 0 rfl ?_;cbv;obtain ⟨w29, h1, he⟩ := P8 h;clear h;have h := h1;clear h1
     rw [he, List.append_assoc] at hO
     clear he;have hO : B3 (I ([(F3 y13.1), (B0 s22)] :: (List.map (fun (x : (B8 × A1)) => [(F3 x.1), (B0 x.2)]) (w29 ++ w19) ++ tl))) F14 (cb b21 (G6 s22) :: cb b10 (D5 x8) :: cb b9 [vi s2] :: BR ds1) _ := hO;refine AT hE hI hD hy hO (.refl _) (fun H hO => ?_) (fun H hO => ?_)
     ·cbv;refine Fv hE (Ar.nt_eq _) ?_;cbv;obtain ⟨hw, rfl⟩ := C4 h
      rw [← hw] at hO
      exact ⟨_, rfl, hO.tail⟩
     clear h;cbv;refine Fu hE (Ar.nt_eq _) ?_;cbv
     first | exact .inr ⟨rfl, rfl, hO.tail⟩ | exact .inr (hO.tail)
    exact hX.elim
   ·rintro d30 _ H rfl hd hO;have hO : B3 (I (List.map (fun (x : (B8 × A1)) => [(F3 x.1), (B0 x.2)]) (w17 ++ w6) ++ tl)) F (cb b10 (D5 x8) :: cb b9 [vi s2] :: BR (d30 :: ds1)) H := B3.dbs1 (A := [_, _]) (ds := ds1) (B3.dblk hd hO);clear hd hx;cbv;obtain ⟨hw, rfl⟩ := C4 h
    rw [← hw] at hO
    exact ⟨_, (), _, rfl, .e rfl (.e4 .z), rfl, hO.tail.tail⟩
   ·rintro _ _ _ _ _ _ h;exact h.elim
   rintro d30 e H hd ⟨rfl, hO⟩;have hO : B3 D F (cb b10 (D5 x8) :: cb b9 [vi s2] :: BR (d30 :: ds1)) H := B3.dbs1 (A := [_, _]) (ds := ds1) (B3.dblk hd hO);clear hd hx h;cbv;exact .inr ⟨_, _, ⟨rfl, rfl, hO.tail.tail⟩, .z, rfl⟩
  cbv;obtain ⟨hw, rfl⟩ := C4 h
  rw [← hw] at hO
  exact .inl ⟨_, _, _, rfl, ⟨rfl, rfl, hO⟩, .z, rfl⟩
 ·exact .e rfl (.e4 .z)
 ·exact hO
 ·rintro e l ds1 H hX;clear hx
  rcases s7 with y31 | y32
  ·obtain ⟨rfl, rfl, hO⟩ := hX;cbv
   rcases ds1 with _ | ⟨d0, ds1⟩
   ·cbv;have hO : B3 _ _ [] H := hO;obtain ⟨hw, _⟩ := C4 h
    rw [← hw] at hO
    exact hK _ _ _ hO trivial
   cbv;refine GK (A := []) (ds := d0 :: ds1) hE hO fun H hO => ?_;cbv;obtain ⟨hw, _⟩ := C4 h
   rw [← hw] at hO
   exact hK _ _ _ hO trivial
  obtain ⟨rfl, rfl, hO⟩ := hX;cbv
  rcases ds1 with _ | ⟨d0, ds1⟩
  ·cbv;have hO : B3 _ _ [] H := hO;obtain ⟨hw, _⟩ := C4 h
   rw [← hw] at hO
   exact hK _ _ _ hO trivial
  cbv;refine GK (A := []) (ds := d0 :: ds1) hE hO fun H hO => ?_;cbv;obtain ⟨hw, _⟩ := C4 h
  rw [← hw] at hO
  exact hK _ _ _ hO trivial
 rintro e l ds1 H hX;obtain ⟨rfl, rfl, hO⟩ := hX;clear h;cbv
 rcases ds1 with _ | ⟨d0, ds1⟩
 ·cbv;have hO : B3 _ _ [] H := hO;exact hKD _ _ _ hO trivial
 cbv;refine GK (A := []) (ds := d0 :: ds1) hE hO fun H hO => ?_;cbv;exact hKD _ _ _ hO trivial
theorem k276 (N n : Nat) (ih210 : UE N n) : Xp N (n + 1) := by
 intro aF aO r h
 unfold S7 at h
 obtain ⟨⟨w0, u0⟩, h1, hr⟩ := bind_some h;clear h;have hr := N2 hr;subst hr;have h := h1;clear h1;refine L7 cf276 H6 func276 (by rfl) (by kernel_rfl) call276 ntmps276 (by rfl) (fun _ => rfl) ?_;intro yv I D hI hD hy tl F E H K hE hO hK hKD
 have hO : B3 (I (List.map (fun (x : (B8 × A1)) => [(F3 x.1), (B0 x.2)]) (w0 ++ []) ++ tl)) F [] H := by rw [List.append_nil]; exact hO
 cbv;refine EE hE hy.1 ?_;cbv;refine R5 hE h (ih210 aF) (.refl _) fun r1 v2 hv2 h => ?_;cbv;obtain ⟨w6, w7, o10, hx, h1, he⟩ := K7 h;clear h;have h := h1;clear h1
 rw [he, List.append_assoc] at hO
 clear he;refine Kg cf276 hE H6 (ι := Unit) (σ := Unit) (R := Unit) (enc := fun (x : (B8 × A1)) => [(F3 x.1), (B0 x.2)]) (fun _ w F1 H => B3 (I (List.map (fun (x : (B8 × A1)) => [(F3 x.1), (B0 x.2)]) w ++ tl)) F1 [] H) (fun _ e w F1 H => False) (fun e F1 H => e = .ret ∧ B3 D F1 [] H) (fun i _ y3 => [(2, .v (.eref (D5 aO) 0)), (3, .v (.eref [yv] 0)), (4, .v (.eref (Y8 y3.1) 0)), (5, .v (.eref (G6 y3.2) 0))]) (fun i _ y3 w F1 H => B3 (I (List.map (fun (x : (B8 × A1)) => [(F3 x.1), (B0 x.2)]) w ++ tl)) F1 [] H) (fun _ _ => B3.stable (hI _) _) (fun _ _ _ => ⟨fun h => h.elim, fun _ _ h => h.elim⟩) (fun _ => C7.con (B3.stable hD _)) (fun _ _ _ _ => B3.stable (hI _) _) hv2 hx (w' := w7 ++ []) hO (by decide) (fun _ => rfl) (by kernel_rfl) (by kernel_rfl) ?_ ?_ ?_ ?_ ?_
 ·rintro E i5 y3 _ w F4 H hE hO;clear hx h;cbv;exact ⟨(), hO, .e4 .z, rfl⟩
 ·rintro E i5 _ y3 _ w8 w9 F4 H o hE hF h hO;clear hx;cbv;refine A6 hE h (fun _ h => ?_) fun _ h => ?_
  ·cbv;refine C2 hE eYi h fun x11 h => ?_;cbv;obtain ⟨w12, h1, he⟩ := P8 h;clear h;have h := h1;clear h1
   rw [he, List.append_assoc] at hO
   clear he;have hO : B3 (I ([(F3 y3.1), .agg [.bool false, vi 8, sr eYd ([y3.2.p, x11]), vi 0, vi 0, vi 0, vi 0, vi 0, sr eYg ([]), vi 0, vi 0, vi 0, vi 0, vi 0, .str (⟨#[]⟩)]] :: (List.map (fun (x : (B8 × A1)) => [(F3 x.1), (B0 x.2)]) (w12 ++ w9) ++ tl))) F4 [] _ := hO;refine AT hE hI hD hy hO (.cons (.refl _) (.cons (.agg (.cons (.refl _) (.cons (.refl _) (.cons (.lit _ (C5 ((eYi y3.2.p).symm) (C5 ((eYi x11).symm) (B4)))) (.cons (.refl _) (.cons (.refl _) (.cons (.refl _) (.cons (.refl _) (.cons (.refl _) (.cons (.lit _ (B4)) (.refl _))))))))))) (.refl _))) (fun H hO => ?_) (fun H hO => ?_)
   ·cbv;refine Fv hE (Ar.nt_eq _) ?_;cbv;obtain ⟨hw, rfl⟩ := C4 h
    rw [← hw] at hO
    exact ⟨_, rfl, hO⟩
   clear h;cbv;refine Fu hE (Ar.nt_eq _) ?_;cbv
   first | exact .inr ⟨rfl, rfl, hO⟩ | exact .inr (hO)
  cbv;obtain ⟨w13, h1, he⟩ := P8 h;clear h;have h := h1;clear h1
  rw [he, List.append_assoc] at hO
  clear he;have hO : B3 (I ([(F3 y3.1), (B0 y3.2)] :: (List.map (fun (x : (B8 × A1)) => [(F3 x.1), (B0 x.2)]) (w13 ++ w9) ++ tl))) F4 [] _ := hO;refine AT hE hI hD hy hO (.refl _) (fun H hO => ?_) (fun H hO => ?_)
  ·cbv;refine Fv hE (Ar.nt_eq _) ?_;cbv;obtain ⟨w14, h1, he⟩ := P8 h;clear h;have h := h1;clear h1
   rw [he, List.append_assoc] at hO
   clear he;have hO : B3 (I ([(F3 y3.1), .agg [.bool false, vi aO.Op, sr eYd aO.cR, vi aO.Typ, vi aO.Var, vi aO.cU, vi aO.Span, vi aO.cN.Op, sr eYg aO.cN.cR, vi aO.cN.Var, vi aO.cN.Field, vi aO.cN.Kind, vi aO.cN.Value.Kind, vi aO.cN.Value.Num, .str aO.cN.Value.Text]] :: (List.map (fun (x : (B8 × A1)) => [(F3 x.1), (B0 x.2)]) (w14 ++ w9) ++ tl))) F4 [] _ := hO;refine AT hE hI hD hy hO (.refl _) (fun H hO => ?_) (fun H hO => ?_)
   ·cbv;refine Fv hE (Ar.nt_eq _) ?_;cbv;obtain ⟨hw, rfl⟩ := C4 h
    rw [← hw] at hO
    exact ⟨_, rfl, hO⟩
   clear h;cbv;refine Fu hE (Ar.nt_eq _) ?_;cbv
   first | exact .inr ⟨rfl, rfl, hO⟩ | exact .inr (hO)
  clear h;cbv;refine Fu hE (Ar.nt_eq _) ?_;cbv
  first | exact .inr ⟨rfl, rfl, hO⟩ | exact .inr (hO)
 ·rintro d15 _ H rfl hd hO;have hO : B3 (I (List.map (fun (x : (B8 × A1)) => [(F3 x.1), (B0 x.2)]) (w7 ++ []) ++ tl)) F [.blk d15 DB] H := B3.dblk hd hO;clear hd hx;cbv;refine Bp hE hO 0 rfl fun H hO => ?_;cbv;obtain ⟨hw, _⟩ := C4 h
  rw [← hw] at hO
  exact hK _ _ _ hO trivial
 ·rintro _ _ _ _ _ _ h;exact h.elim
 rintro d15 e H hd ⟨rfl, hO⟩;have hO : B3 D F [.blk d15 DB] H := B3.dblk hd hO;clear hd hx h;cbv;refine Bp hE hO 0 rfl fun H hO => ?_;cbv;exact hKD _ _ _ hO trivial
theorem k277 (N n : Nat) (ih210 : UE N n) : Xo N (n + 1) := by
 intro aF r h
 unfold X2 at h
 obtain ⟨⟨w0, u0⟩, h1, hr⟩ := bind_some h;clear h;have hr := N2 hr;subst hr;have h := h1;clear h1;refine L7 cf277 H6 func277 (by rfl) (by kernel_rfl) call277 ntmps277 (by rfl) (fun _ => rfl) ?_;intro yv I D hI hD hy tl F E H K hE hO hK hKD
 have hO : B3 (I (List.map (fun (x : (B8 × A1)) => [(F3 x.1), (B0 x.2)]) (w0 ++ []) ++ tl)) F [] H := by rw [List.append_nil]; exact hO
 cbv;refine EE hE hy.1 ?_;cbv;refine C2 hE eYi h fun x1 h => ?_;cbv;refine R5 hE h (ih210 x1) (.refl _) fun r2 v3 hv3 h => ?_;cbv;obtain ⟨w7, w8, o11, hx, h1, he⟩ := K7 h;clear h;have h := h1;clear h1
 rw [he, List.append_assoc] at hO
 clear he;refine Kg cf277 hE H6 (ι := Nat × Nat) (σ := Unit) (R := Unit) (enc := fun (x : (B8 × A1)) => [(F3 x.1), (B0 x.2)]) (fun _ w F1 H => B3 (I (List.map (fun (x : (B8 × A1)) => [(F3 x.1), (B0 x.2)]) w ++ tl)) F1 [] H) (fun _ e w F1 H => False) (fun e F1 H => e = .ret ∧ B3 D F1 [] H) (fun i _ y4 => [(1, .v (.eref (D5 aF) 0)), (2, .v (.eref [yv] 0)), (3, .v (.ref i.2 0)), (4, .v (.ref i.1 0))]) (fun i _ y4 w F1 H => B3 (I (List.map (fun (x : (B8 × A1)) => [(F3 x.1), (B0 x.2)]) w ++ tl)) F1 [.blk i.1 (.cells (G6 y4.2)), .blk i.2 (.cells (Y8 y4.1))] H) (fun _ _ => B3.stable (hI _) _) (fun _ _ _ => ⟨fun h => h.elim, fun _ _ h => h.elim⟩) (fun _ => C7.con (B3.stable hD _)) (fun _ _ _ _ => B3.stable (hI _) _) hv3 hx (w' := w8 ++ []) hO (by decide) (fun _ => rfl) (by kernel_rfl) (by kernel_rfl) ?_ ?_ ?_ ?_ ?_
 ·rintro E i6 y4 _ w F5 H hE hO;clear hx h;cbv;refine D1 hE hO fun b12 H hO => ?_;cbv;refine A8 hE hO 0 rfl rfl fun H hO => ?_;cbv;refine D1 hE hO fun b13 H hO => ?_;cbv;refine A8 hE hO 0 rfl rfl fun H hO => ?_;cbv;exact ⟨⟨b13, b12⟩, hO, .e4 .z, rfl⟩
 ·rintro E i6 ⟨b13, b12⟩ y4 _ w9 w10 F5 H o hE hF h hO;clear hx;cbv;obtain ⟨w15, w16, s14, hx, h1, he⟩ := K7 h;clear h;have h := h1;clear h1
  rw [he, List.append_assoc] at hO
  clear he;refine K5 cf277 hE H6 (fun e l H1 => (e = .normal ∧ l = [(1, .v (.eref (D5 aF) 0)), (2, .v (.eref [yv] 0)), (3, .v (.ref b12 0)), (4, .v (.ref b13 0)), fi 5 s14.1] ∧ B3 (I (List.map (fun (x : (B8 × A1)) => [(F3 x.1), (B0 x.2)]) (w16 ++ w10) ++ tl)) F5 [cb b13 (G6 y4.2), cb b12 (Y8 s14.2)] H1) ∨ (False)) (by kernel_rfl) ?_ ?_
  ·clear h;have h := hx;clear hx;cbv;refine A6 hE h (fun _ h => ?_) fun _ h => ?_
   ·cbv;refine B1 hE hO 0 rfl ?_;cbv;refine A6 hE h (fun _ h => ?_) fun _ h => ?_
    ·cbv;refine B1 hE hO 1 rfl ?_;cbv;refine A7 hE h (c278 N ([y4.1.cY, [aF.cN]])) (.cons (.sl _ (.lstc (.eq (eYI y4.1.cY) (.refl _)) (.lstc (.eq (eYI ([aF.cN])) (.lit _ (C5 ((eYp aF.cN).symm) (B4)))) (.lst0)))) (.refl _)) fun r17 h => ?_;cbv;refine A8 hE hO 1 rfl rfl fun H hO => ?_;cbv;obtain ⟨hw, rfl⟩ := C4 h
     rw [← hw] at hO
     exact ⟨_, .inl ⟨rfl, rfl, hO⟩, .e rfl (.e4 .z), rfl⟩
    cbv;obtain ⟨hw, rfl⟩ := C4 h
    rw [← hw] at hO
    exact ⟨_, .inl ⟨rfl, rfl, hO⟩, .e rfl (.e4 .z), rfl⟩
   cbv;obtain ⟨w19, w20, s18, hx, h1, he⟩ := K7 h;clear h;have h := h1;clear h1
   rw [he, List.append_assoc] at hO
   clear he;refine K5 cf277 hE H6 (fun e l H1 => (e = .normal ∧ l = [(1, .v (.eref (D5 aF) 0)), (2, .v (.eref [yv] 0)), (3, .v (.ref b12 0)), (4, .v (.ref b13 0)), (37, .v (.bool s18))] ∧ B3 (I (List.map (fun (x : (B8 × A1)) => [(F3 x.1), (B0 x.2)]) (w20 ++ (w16 ++ w10)) ++ tl)) F5 [cb b13 (G6 y4.2), cb b12 (Y8 y4.1)] H1) ∨ (False)) (by kernel_rfl) ?_ ?_
   ·clear h;have h := hx;clear hx;cbv;refine A6 hE h (fun _ h => ?_) fun _ h => ?_
    ·cbv;obtain ⟨hw, rfl⟩ := C4 h
     rw [← hw] at hO
     exact ⟨_, .inl ⟨rfl, rfl, hO⟩, .e rfl (.e4 .z), rfl⟩
    cbv;obtain ⟨hw, rfl⟩ := C4 h
    rw [← hw] at hO
    exact ⟨_, .inl ⟨rfl, rfl, hO⟩, .e rfl (.e4 .z), rfl⟩
   clear hx;rintro e l H hX
   rcases hX with hX | hX
   ·obtain ⟨rfl, rfl, hO⟩ := hX;cbv;refine A6 hE h (fun _ h => ?_) fun _ h => ?_
    ·cbv;refine B1 hE hO 1 rfl ?_;cbv;refine B1 hE hO 0 rfl ?_;cbv;refine A7 hE h (c279 N aF y4.1 y4.2.done (Ar.k .eql aF.Op 5)) (.refl _) fun r21 h => ?_;cbv;refine A8 hE hO 1 rfl rfl fun H hO => ?_;cbv;obtain ⟨hw, rfl⟩ := C4 h
     rw [← hw] at hO
     exact ⟨_, .inl ⟨rfl, rfl, hO⟩, .e rfl (.e4 .z), rfl⟩
    cbv;refine B1 hE hO 1 rfl ?_;cbv;refine B1 hE hO 0 rfl ?_;cbv;refine A7 hE h (c279 N aF y4.1 y4.2.done (Ar.k .eql aF.Op 6)) (.refl _) fun r22 h => ?_;cbv;refine A8 hE hO 1 rfl rfl fun H hO => ?_;cbv;obtain ⟨hw, rfl⟩ := C4 h
    rw [← hw] at hO
    exact ⟨_, .inl ⟨rfl, rfl, hO⟩, .e rfl (.e4 .z), rfl⟩
   exact hX.elim
  clear hx;rintro e l H hX
  rcases hX with hX | hX
  ·obtain ⟨rfl, rfl, hO⟩ := hX;cbv;refine B1 hE hO 0 rfl ?_;cbv;obtain ⟨w24, w25, s23, hx, h1, he⟩ := K7 h;clear h;have h := h1;clear h1
   rw [he, List.append_assoc] at hO
   clear he;refine K5 cf277 hE H6 (fun e l H1 => (e = .normal ∧ l = [(2, .v (.eref [yv] 0)), (3, .v (.ref b12 0)), (4, .v (.ref b13 0))] ∧ B3 (I (List.map (fun (x : (B8 × A1)) => [(F3 x.1), (B0 x.2)]) (w25 ++ w10) ++ tl)) F5 [cb b13 (G6 s23), cb b12 (Y8 s14.2)] H1) ∨ (False)) (by kernel_rfl) ?_ ?_
   ·clear h;have h := hx;clear hx;cbv;refine A6 hE h (fun _ h => ?_) fun _ h => ?_
    ·cbv;refine B1 hE hO 0 rfl ?_;cbv;refine A7 hE h (c280 N aF s14.1 y4.2.p) (.refl _) fun r26 h => ?_;cbv;refine A8 hE hO 0 rfl rfl fun H hO => ?_;cbv;obtain ⟨hw, rfl⟩ := C4 h
     rw [← hw] at hO
     exact ⟨_, .inl ⟨rfl, rfl, hO⟩, .e rfl (.e2 .z), rfl⟩
    cbv;obtain ⟨hw, rfl⟩ := C4 h
    rw [← hw] at hO
    exact ⟨_, .inl ⟨rfl, rfl, hO⟩, .e rfl (.e2 .z), rfl⟩
   clear hx;rintro e l H hX
   rcases hX with hX | hX
   ·obtain ⟨rfl, rfl, hO⟩ := hX;cbv;refine B1 hE hO 1 rfl ?_;cbv;refine B1 hE hO 0 rfl ?_;cbv;obtain ⟨w27, h1, he⟩ := P8 h;clear h;have h := h1;clear h1
    rw [he, List.append_assoc] at hO
    clear he;have hO : B3 (I ([(F3 s14.2), (B0 s23)] :: (List.map (fun (x : (B8 × A1)) => [(F3 x.1), (B0 x.2)]) (w27 ++ w10) ++ tl))) F5 [cb b13 (G6 s23), cb b12 (Y8 s14.2)] _ := hO;refine AT hE hI hD hy hO (.refl _) (fun H hO => ?_) (fun H hO => ?_)
    ·cbv;refine Fv hE (Ar.nt_eq _) ?_;cbv;obtain ⟨hw, rfl⟩ := C4 h
     rw [← hw] at hO
     exact ⟨_, rfl, hO.tail.tail⟩
    clear h;cbv;refine Fu hE (Ar.nt_eq _) ?_;cbv
    first | exact .inr ⟨rfl, rfl, hO.tail.tail⟩ | exact .inr (hO.tail.tail)
   exact hX.elim
  exact hX.elim
 ·rintro d28 _ H rfl hd hO;have hO : B3 (I (List.map (fun (x : (B8 × A1)) => [(F3 x.1), (B0 x.2)]) (w8 ++ []) ++ tl)) F [.blk d28 DB] H := B3.dblk hd hO;clear hd hx;cbv;refine Bp hE hO 0 rfl fun H hO => ?_;cbv;obtain ⟨hw, _⟩ := C4 h
  rw [← hw] at hO
  exact hK _ _ _ hO trivial
 ·rintro _ _ _ _ _ _ h;exact h.elim
 rintro d28 e H hd ⟨rfl, hO⟩;have hO : B3 D F [.blk d28 DB] H := B3.dblk hd hO;clear hd hx h;cbv;refine Bp hE hO 0 rfl fun H hO => ?_;cbv;exact hKD _ _ _ hO trivial
theorem Cu (N : Nat) : ∀ n, UE N n ∧ Xu N n ∧ Xt N n ∧ Xs N n ∧ Xq N n ∧ Xp N n ∧ Xo N n := by
 intro n
 induction n with
 | zero => exact ⟨(by intro aB r h; unfold L3 at h; cases h), (by intro aB r h; unfold U7 at h; cases h), (by intro bR bS r h; unfold Q8 at h; cases h), (by intro aB r h; unfold Az at h; cases h), (by intro aF r h; unfold S8 at h; cases h), (by intro aF aO r h; unfold S7 at h; cases h), (by intro aF r h; unfold X2 at h; cases h)⟩
 | succ n ih =>
  obtain ⟨ih210, ih245, ih246, ih247, ih273, ih276, ih277⟩ := ih;exact ⟨k210 N n ih245 ih246 ih247, k245 N n ih273, k246 N n ih276, k247 N n ih277, k273 N n ih210, k276 N n ih210, k277 N n ih210⟩
theorem c210 (N n aB r) (h : L3 N n aB = some r) : CH prog 210 [(C1 aB)] (fun v => DE prog v (r.map fun (x : (B8 × A1)) => [(F3 x.1), (B0 x.2)])) := (Cu N n).1 aB r h
theorem c248 (N : Nat) (aA : List B8) (aU : V) (aL : B8 → Option Bool) (aY : ∀ y1 q, aL y1 = some q → Q6 prog aU [(F3 y1)] (.bool q)) (r : Int) (h : R3 N aA aL = some r) : B5 prog 248 [sr eYe aA, aU] (vi r) := by
 unfold R3 at h
 refine K2 cf0 func248 call248 ntmps248 ?_;intro E H0 K hE hK hO;cbv;refine D4 hE ?_;cbv;obtain ⟨s2, hx, h⟩ := bind_some h;refine F6 cf0 hE H6 (fun s1 => [(0, .v (sr eYe aA)), (1, .v (aU)), fi 7 (Ar.len aA), fi 8 s1]) (fun s1 H1 => B3 Eq H0 [] H1) (fun x e l H1 => match (generalizing := false) x with | .inl y => e = .exit 0 ∧ l = [] ∧ B3 Eq H0 [] H1 | .inr y => e = .ret ∧ l = [fi 4 y] ∧ B3 Eq H0 [] H1) (by kernel_rfl) ?_ hx ?_ hO ?_
 ·intro s1 H o hO h;clear hx;cbv;refine A6 hE h (fun _ h => ?_) fun _ h => ?_
  ·cbv;refine C2 hE eYv h fun x3 h => ?_;cbv;refine As hE (g := fun r4 => .bool r4) h (fun r4 hx => aY x3 r4 hx) (.refl _) fun r4 h => ?_;cbv;refine A6 hE h (fun _ h => ?_) fun _ h => ?_
   ·cbv;cases h;exact ⟨_, _, rfl, ⟨rfl, rfl, hO⟩, .e rfl .z, rfl⟩
   cbv;cases h;exact ⟨_, rfl, .e4 .z, rfl, hO⟩
  cbv;cases h;exact ⟨_, _, rfl, ⟨rfl, rfl, hO⟩, .z, rfl⟩
 ·exact .e4 .z
 clear hx
 rcases s2 with y5 | y6
 ·rintro e l H ⟨rfl, rfl, hO⟩;cbv;cases h;exact hK hO (.refl _)
 rintro e l H ⟨rfl, rfl, hO⟩;cbv;cases h;exact hK hO (.refl _)
theorem c211 (N : Nat) (aA : List B8) (aU : V) (aL : B8 → Option Bool) (aY : ∀ y1 q, aL y1 = some q → Q6 prog aU [(F3 y1)] (.bool q)) (r : Bool) (h : O1 N aA aL = some r) : B5 prog 211 [sr eYe aA, aU] (.bool r) := by
 unfold O1 at h
 refine K2 cf0 func211 call211 ntmps211 ?_;intro E H0 K hE hK hO;cbv;refine A7 hE h (c248 N aA aU aL aY) (.refl _) fun r1 h => ?_;cbv;cases h;exact hK hO (.refl _)
def cf250 : Cf := ⟨[], [(6, 8)], [], [], [], []⟩
theorem c250 (N aT aV r) (h : N1 N aT aV = some r) : B5 prog 250 [sr (V.int .i64) aT, sr (V.int .i64) aV] (.bool r) := by
 unfold N1 at h
 refine K2 cf250 func250 call250 ntmps250 ?_;intro E H0 K hE hK hO;cbv;refine D4 hE ?_;cbv;refine D4 hE ?_;cbv;refine A6 hE h (fun _ h => ?_) fun _ h => ?_
 ·cbv;cases h;exact hK hO (.refl _)
 cbv;refine D4 hE ?_;cbv;obtain ⟨s2, hx, h⟩ := bind_some h;refine F6 cf250 hE H6 (fun s1 => [(0, .v (sr (V.int .i64) aT)), (1, .v (sr (V.int .i64) aV)), fi 12 (Ar.len aT), fi 13 s1]) (fun s1 H1 => B3 Eq H0 [] H1) (fun x e l H1 => match (generalizing := false) x with | .inl y => e = .exit 0 ∧ l = [] ∧ B3 Eq H0 [] H1 | .inr y => e = .ret ∧ l = [(4, .b false)] ∧ B3 Eq H0 [] H1) (by kernel_rfl) ?_ hx ?_ hO ?_
 ·intro s1 H o hO h;clear hx;cbv;refine A6 hE h (fun _ h => ?_) fun _ h => ?_
  ·cbv;refine C2 hE (fun _ => rfl) h fun x3 h => ?_;cbv;refine C2 hE (fun _ => rfl) h fun x4 h => ?_;cbv;refine A6 hE h (fun _ h => ?_) fun _ h => ?_
   ·cbv;cases h;exact ⟨_, _, rfl, ⟨rfl, rfl, hO⟩, .b rfl (.z), rfl⟩
   cbv;cases h;exact ⟨_, rfl, .e4 .z, rfl, hO⟩
  cbv;cases h;exact ⟨_, _, rfl, ⟨rfl, rfl, hO⟩, .z, rfl⟩
 ·exact .e4 .z
 clear hx
 rcases s2 with y5 | y6
 ·rintro e l H ⟨rfl, rfl, hO⟩;cbv;cases h;exact hK hO (.refl _)
 rintro e l H ⟨rfl, rfl, hO⟩;cbv;cases h;exact hK hO (.refl _)
def cf251 : Cf := ⟨[8], [], [], [], [], []⟩
theorem c251 (N : Nat) (aT : List G7) (aV : List G7) (bV : V) (bN : G7 → G7 → Option Bool) (cI : ∀ y1 y2 q, bN y1 y2 = some q → Q6 prog bV [(AE y1), (AE y2)] (.bool q)) (r : Bool) (h : J0 N aT aV bN = some r) : B5 prog 251 [sr eYg aT, sr eYg aV, bV] (.bool r) := by
 unfold J0 at h
 refine K2 cf251 func251 call251 ntmps251 ?_;intro E H0 K hE hK hO;cbv;refine D4 hE ?_;cbv;refine D4 hE ?_;cbv;refine A6 hE h (fun _ h => ?_) fun _ h => ?_
 ·cbv;cases h;exact hK hO (.refl _)
 cbv;refine D4 hE ?_;cbv;obtain ⟨s2, hx, h⟩ := bind_some h;refine F6 cf251 hE H6 (fun s1 => [(1, .v (sr eYg aV)), (2, .v (bV)), (15, .v (sr eYg aT)), fi 16 (Ar.len aT), fi 17 s1]) (fun s1 H1 => B3 Eq H0 [] H1) (fun x e l H1 => match (generalizing := false) x with | .inl y => e = .exit 0 ∧ l = [] ∧ B3 Eq H0 [] H1 | .inr y => e = .ret ∧ l = [(6, .b false)] ∧ B3 Eq H0 [] H1) (by kernel_rfl) ?_ hx ?_ hO ?_
 ·intro s1 H o hO h;clear hx;cbv;refine A6 hE h (fun _ h => ?_) fun _ h => ?_
  ·cbv;refine C2 hE eYp h fun x3 h => ?_;cbv;refine D1 hE hO fun b4 H hO => ?_;cbv;refine A8 hE hO 0 rfl rfl fun H hO => ?_;cbv;refine C2 hE eYp h fun x5 h => ?_;cbv;refine B1 hE hO 0 rfl ?_;cbv;refine As hE (g := fun r6 => .bool r6) h (fun r6 hx => cI x3 x5 r6 hx) (.refl _) fun r6 h => ?_;cbv;refine A6 hE h (fun _ h => ?_) fun _ h => ?_
   ·cbv;cases h;exact ⟨_, _, rfl, ⟨rfl, rfl, hO.tail⟩, .b rfl (.z), rfl⟩
   cbv;cases h;exact ⟨_, rfl, .e rfl (.e4 .z), rfl, hO.tail⟩
  cbv;cases h;exact ⟨_, _, rfl, ⟨rfl, rfl, hO⟩, .z, rfl⟩
 ·exact .e rfl (.e4 .z)
 clear hx
 rcases s2 with y7 | y8
 ·rintro e l H ⟨rfl, rfl, hO⟩;cbv;cases h;exact hK hO (.refl _)
 rintro e l H ⟨rfl, rfl, hO⟩;cbv;cases h;exact hK hO (.refl _)
def cf252 : Cf := ⟨[], [(6, 8)], [], [], [], []⟩
theorem c252 (N aT aV r) (h : S9 N aT aV = some r) : B5 prog 252 [sr eYn aT, sr eYn aV] (.bool r) := by
 unfold S9 at h
 refine K2 cf252 func252 call252 ntmps252 ?_;intro E H0 K hE hK hO;cbv;refine D4 hE ?_;cbv;refine D4 hE ?_;cbv;refine A6 hE h (fun _ h => ?_) fun _ h => ?_
 ·cbv;cases h;exact hK hO (.refl _)
 cbv;refine D4 hE ?_;cbv;obtain ⟨s2, hx, h⟩ := bind_some h;refine F6 cf252 hE H6 (fun s1 => [(0, .v (sr eYn aT)), (1, .v (sr eYn aV)), fi 12 (Ar.len aT), fi 13 s1]) (fun s1 H1 => B3 Eq H0 [] H1) (fun x e l H1 => match (generalizing := false) x with | .inl y => e = .exit 0 ∧ l = [] ∧ B3 Eq H0 [] H1 | .inr y => e = .ret ∧ l = [(4, .b false)] ∧ B3 Eq H0 [] H1) (by kernel_rfl) ?_ hx ?_ hO ?_
 ·intro s1 H o hO h;clear hx;cbv;refine A6 hE h (fun _ h => ?_) fun _ h => ?_
  ·cbv;refine C2 hE eYG h fun x3 h => ?_;cbv;refine C2 hE eYG h fun x4 h => ?_;cbv;refine A6 hE h (fun _ h => ?_) fun _ h => ?_
   ·cbv;cases h;exact ⟨_, _, rfl, ⟨rfl, rfl, hO⟩, .b rfl (.z), rfl⟩
   cbv;cases h;exact ⟨_, rfl, .e4 .z, rfl, hO⟩
  cbv;cases h;exact ⟨_, _, rfl, ⟨rfl, rfl, hO⟩, .z, rfl⟩
 ·exact .e4 .z
 clear hx
 rcases s2 with y5 | y6
 ·rintro e l H ⟨rfl, rfl, hO⟩;cbv;cases h;exact hK hO (.refl _)
 rintro e l H ⟨rfl, rfl, hO⟩;cbv;cases h;exact hK hO (.refl _)
theorem c213 (N aC aE r) (h : AG N aC aE = some r) : B5 prog 213 [(F3 aC), (F3 aE)] (.bool r) := by
 unfold AG at h
 refine K2 cf0 func213 call213 ntmps213 ?_;intro E H0 K hE hK hO;cbv;refine A6 hE h (fun _ h => ?_) fun _ h => ?_
 ·cbv;refine A7 hE h (c249 N N aC.cN aE.cN) (.refl _) fun r1 h => ?_;cbv;refine A6 hE h (fun _ h => ?_) fun _ h => ?_
  ·cbv;refine A7 hE h (c250 N aC.cZ aE.cZ) (.refl _) fun r2 h => ?_;cbv;refine A6 hE h (fun _ h => ?_) fun _ h => ?_
   ·cbv;refine A7 hE h (c250 N aC.cX aE.cX) (.refl _) fun r3 h => ?_;cbv;refine A6 hE h (fun _ h => ?_) fun _ h => ?_
    ·cbv;refine A7 hE (g := fun r4 => .bool r4) h (fun r4 hx => c251 N aC.cY aE.cY (.func (.func 249) [] []) (fun y1 y2 => Bf N N y1 y2) (fun y1 y2 r hx => B5.value (F := []) (C := []) (c249 N N y1 y2 r hx)) r4 hx) (.refl _) fun r4 h => ?_;cbv;refine A6 hE h (fun _ h => ?_) fun _ h => ?_
     ·cbv;refine A7 hE h (c252 N aC.dC aE.dC) (.refl _) fun r5 h => ?_;cbv;refine A6 hE h (fun _ h => ?_) fun _ h => ?_
      ·cbv;refine A7 hE h (c250 N aC.dA aE.dA) (.refl _) fun r6 h => ?_;cbv;cases h;exact hK hO (.refl _)
      cbv;cases h;exact hK hO (.refl _)
     cbv;cases h;exact hK hO (.refl _)
    cbv;cases h;exact hK hO (.refl _)
   cbv;cases h;exact hK hO (.refl _)
  cbv;cases h;exact hK hO (.refl _)
 cbv;cases h;exact hK hO (.refl _)
theorem c212 (N aP aF r) (h : T6 N aP aF = some r) : B5 prog 212 [(F3 aP), .eref (Y8 aF) 0] (.bool r) := by
 unfold T6 at h
 refine K2 cf0 func212 call212 ntmps212 ?_;intro E H0 K hE hK hO;cbv;refine A6 hE h (fun _ h => ?_) fun _ h => ?_
 ·cbv;refine A7 hE h (c213 N aF aP) (.refl _) fun r1 h => ?_;cbv;cases h;exact hK hO (.refl _)
 cbv;cases h;exact hK hO (.refl _)
def cfo170 : Cf := ⟨[2, 3, 4, 5, 6, 7, 5000002, 5000005], [(13, 5), (3000018, 0), (3000018, 1)], [(16, 9)], [1000013, 2000018], [(40, 7)], []⟩
set_option maxHeartbeats 2000000 in
theorem o170 (N aB r) (h : T5 N aB = some r) : UI prog 170 [(C1 aB)] 17 (Ar.lst eYe r.1) (fun o => .tup [o, sr eYd r.2.1, vi r.2.2]) := by
 unfold T5 at h
 intro H0;refine KR (T := TT) (F := H0) (mk := fun o => .tup [o, sr eYd r.2.1, vi r.2.2]) (DV.tup [.bad, sr eYd r.2.1, vi r.2.2] 0 (by simp)) cfo170 H6 func170 (by rfl) (by kernel_rfl) call170 ntmps170 (by rfl) (by rfl) ?_;intro E K hE hK hN;have hO : B3 Eq H0 [] H0 := .start B7 rfl;cbv;refine Oz hE (f0 := eYe) hO fun q2 b1 H hq2 hO => ?_;cbv;refine D1 hE hO fun b3 H hO => ?_;cbv;refine D1 hE hO fun b4 H hO => ?_;cbv;refine Oz hE (f0 := eYe) hO fun q6 b5 H hq6 hO => ?_;cbv;refine D1 hE hO fun b7 H hO => ?_;cbv;refine R5 hE h (c210 N N aB) (.refl _) fun r8 v9 hv9 h => ?_;cbv;replace hO := hO.tl0 (t := .nil) rfl;obtain ⟨o16, hx, h⟩ := bind_some h;replace hO := hO.cast (L' := [.tl .nil, cb b7 [.sl (Ar.lst eYd ([])) .nil], cb b5 [.own q6.id q6.lo q6.n], ob q6 17 eYe ([]), cb b4 [vi 0], cb b3 [.sl [] .nil], cb b1 [.own q2.id q2.lo q2.n], ob q2 17 eYe ([])]) (by simp only [ob, cb, sr, ← B4]);refine AU cfo170 hE H6 (ι := Nat) (enc := fun (x : (B8 × A1)) => [(F3 x.1), (B0 x.2)]) (fun (s11 : (List A5) × (List B8)) F H => ∃ g : D8 × OG, (O8 g.1 ∧ X6 g.2 (Ar.len s11.2)) ∧ B3 Eq F [.tl g.1, cb b7 [.sl (Ar.lst eYd s11.1) g.1], cb b5 [.own g.2.id g.2.lo g.2.n], .blk g.2.id (.arr 17 (g.2.pre ++ Ar.lst eYe s11.2 ++ g.2.rest)), cb b4 [vi 0], cb b3 [.sl [] .nil], cb b1 [.own q2.id q2.lo q2.n], ob q2 17 eYe ([])] H) (fun (r : ((List A5) × (List B8) × Int × (List B8))) e F H => ∃ g : D8 × OG, (e = .ret ∧ O8 g.1 ∧ X6 g.2 (Ar.len r.2.1)) ∧ B3 Eq F [.tl g.1, cb b7 [.sl (Ar.lst eYd r.1) g.1], cb b5 [.own g.2.id g.2.lo g.2.n], .blk g.2.id (.arr 17 (g.2.pre ++ Ar.lst eYe r.2.1 ++ g.2.rest)), cb b4 [vi r.2.2.1], cb b3 [.sl [] .nil], cb b1 [.sl [] .nil], ob q2 17 eYe ([])] H) (fun i s11 y10 => [(2, .v (.ref b1 0)), (3, .v (.ref b3 0)), (4, .v (.ref b4 0)), (5, .v (.ref b5 0)), (6, .v (.ref b7 0)), (7, .v (.ref i 0)), (8, .v (.eref (G6 y10.2) 0))]) (fun i s11 y10 F H => ∃ g : D8 × OG, (O8 g.1 ∧ X6 g.2 (Ar.len s11.2)) ∧ B3 Eq F [cb i (Y8 y10.1), .tl g.1, cb b7 [.sl (Ar.lst eYd s11.1) g.1], cb b5 [.own g.2.id g.2.lo g.2.n], .blk g.2.id (.arr 17 (g.2.pre ++ Ar.lst eYe s11.2 ++ g.2.rest)), cb b4 [vi 0], cb b3 [.sl [] .nil], cb b1 [.own q2.id q2.lo q2.n], ob q2 17 eYe ([])] H) (fun _ => C7.ex fun _ => B3.stable B7 _) (fun _ _ => C7.ex fun _ => B3.stable B7 _) (fun _ _ _ => C7.ex fun _ => B3.stable B7 _) hv9 hx (⟨⟨.nil, q6⟩, ⟨trivial, hq6⟩, hO⟩) (by decide) (fun _ => rfl) (by kernel_rfl) (by kernel_rfl) ?_ ?_ ?_ ?_
 ·rintro E i13 y10 s11 F12 H hE ⟨⟨t14, q15⟩, ⟨ht14, hq15⟩, hO⟩;clear hx h;cbv;refine D1 hE hO fun b17 H hO => ?_;cbv;refine A8 hE hO 0 rfl rfl fun H hO => ?_;cbv;exact ⟨b17, ⟨⟨t14, q15⟩, ⟨ht14, hq15⟩, hO⟩, .e rfl (.e2 (.e4 .z)), rfl⟩
 ·rintro E i13 b17 y10 s11 F12 H o hE hF h ⟨⟨t14, q15⟩, ⟨ht14, hq15⟩, hO⟩;clear hx;cbv;refine A8 hE hO 0 rfl rfl fun H hO => ?_;cbv;obtain ⟨s18, hx, h⟩ := bind_some h;refine K5 cfo170 hE H6 (fun e l H1 => match (generalizing := false) s18 with | .inl y => ∃ u1 : D8, O8 u1 ∧ e = .normal ∧ l = [(2, .v (.ref b1 0)), (3, .v (.ref b3 0)), (4, .v (.ref b4 0)), (5, .v (.ref b5 0)), (7, .v (.ref b17 0))] ∧ B3 Eq F12 [cb b17 (Y8 y.1), .tl u1, cb b7 [.sl (Ar.lst eYd y.2) u1], cb b5 [.own q15.id q15.lo q15.n], ob q15 17 eYe s11.2, cb b4 [vi 0], cb b3 [.sl [] .nil], cb b1 [.own q2.id q2.lo q2.n], ob q2 17 eYe ([])] H1 | .inr y => e = .ret ∧ l = [(2, .v (.ref b1 0)), (3, .v (.ref b3 0)), (4, .v (.ref b4 0))] ∧ B3 Eq F12 [cb b17 (Y8 y.1), .tl t14, cb b7 [.sl (Ar.lst eYd s11.1) t14], cb b5 [.own q15.id q15.lo q15.n], ob q15 17 eYe s11.2, cb b4 [vi y.2.1], cb b3 [.sl [] .nil], cb b1 [.sl [] .nil], ob q2 17 eYe ([])] H1) (by kernel_rfl) ?_ ?_
  ·clear h;have h := hx;clear hx;cbv;refine A6 hE h (fun _ h => ?_) fun _ h => ?_
   ·cbv;refine B1 hE hO 2 rfl ?_;cbv;refine A7 hE h (c171 N s11.1 y10.2.p) (.cons (.ro _ _) (.refl _)) fun r19 h => ?_;cbv;refine A8 hE hO 0 rfl rfl fun H hO => ?_;cbv;refine B1 hE hO 0 rfl ?_;cbv;refine A6 hE h (fun _ h => ?_) fun _ h => ?_
    ·cbv;refine A7 hE h (c176 N y10.2.p) (.refl _) fun r20 h => ?_;cbv;refine A6 hE h (fun _ h => ?_) fun _ h => ?_
     ·cbv;refine A8 hE hO 7 rfl rfl fun H hO => ?_;cbv;refine A8 hE hO 6 rfl rfl fun H hO => ?_;cbv;refine A8 hE hO 5 rfl rfl fun H hO => ?_;cbv;cases h;exact ⟨_, ⟨rfl, rfl, hO⟩, .e rfl (.e2 .z), rfl⟩
     cbv;refine B1 hE hO 2 rfl ?_;cbv;refine D4 hE ?_;cbv;refine A8 hE hO 0 rfl rfl fun H hO => ?_;cbv;refine B1 hE hO 2 rfl ?_;cbv;refine D4 hE ?_;cbv;refine EE hE (by first | exact QZ _ | exact TW _ | trivial | rfl) ?_;cbv;refine V7 (f := eYd) hE W3 (by decide) hO 1 rfl ht14 (l := s11.1) (m := [y10.2.p]) (.refl _) (.lstc (.eq (eYi y10.2.p) (.refl _)) (.lst0)) h fun l22 t21 H hO ht21 h => ?_;cbv;refine TI hE hO 2 rfl rfl fun H hO => ?_;cbv;cases h;exact ⟨_, ⟨t21, ht21, rfl, rfl, hO⟩, .e rfl (.e4 .z), rfl⟩
    cbv;cases h;exact ⟨_, ⟨t14, ht14, rfl, rfl, hO⟩, .e rfl (.e4 .z), rfl⟩
   cbv;cases h;exact ⟨_, ⟨t14, ht14, rfl, rfl, hO⟩, .e rfl (.e4 .z), rfl⟩
  clear hx
  rcases s18 with y23 | y28
  ·rintro e l H ⟨t24, ht24, rfl, rfl, hO⟩;cbv;refine B1 hE hO 3 rfl ?_;cbv;refine TM hE hO 0 rfl fun H hO => ?_;cbv;refine Vz hE (g := fun r25 => .bool r25) h (fun r25 hx => c211 N s11.2 (.func (.func 212) [] [.eref (Y8 y23.1) 0]) (fun y1 => T6 N y1 y23.1) (fun y1 r hx => B5.value (F := []) (C := [.eref (Y8 y23.1) 0]) (c212 N y1 y23.1 r hx)) r25 hx) (fun _ => .bool _) (TV hE hO hq15 3 rfl (.le (.refl _) (.nil))) fun r25 h => ?_;cbv;refine A6 hE h (fun _ h => ?_) fun _ h => ?_
   ·cbv;cases h;exact ⟨_, rfl, ⟨⟨t24, q15⟩, ⟨ht24, hq15⟩, hO⟩⟩
   cbv;refine B1 hE hO 2 rfl ?_;cbv;refine DO (f := eYe) hE JG (by decide) hO hq15 3 rfl (m := [y23.1]) (BI (f := eYe) hE JG (.lstc (.eq (eYv y23.1) (.refl _)) (.lst0))) h fun l27 q26 H hq26 hO h => ?_;cbv;refine A8 hE hO 2 rfl rfl fun H hO => ?_;cbv;refine B1 hE hO 2 rfl ?_;cbv;refine GI hE hq26 ?_;cbv;refine A6 hE h (fun _ h => ?_) fun _ h => ?_
   ·cbv;refine A8 hE hO 6 rfl rfl fun H hO => ?_;cbv;refine A8 hE hO 5 rfl rfl fun H hO => ?_;cbv;refine A8 hE hO 4 rfl rfl fun H hO => ?_;cbv;cases h;exact ⟨_, rfl, rfl, ⟨⟨t24, q26⟩, ⟨rfl, ⟨ht24, hq26⟩⟩, hO⟩⟩
   cbv;cases h;exact ⟨_, rfl, ⟨⟨t24, q26⟩, ⟨ht24, hq26⟩, hO⟩⟩
  rintro e l H ⟨rfl, rfl, hO⟩;cbv;cases h;exact ⟨_, rfl, rfl, ⟨⟨t14, q15⟩, ⟨rfl, ⟨ht14, hq15⟩⟩, hO.tail⟩⟩
 ·rintro d29 s33 H rfl hd ⟨⟨t34, q35⟩, ⟨ht34, hq35⟩, hO⟩;have hO : B3 Eq H0 [.tl t34, cb b7 [.sl (Ar.lst eYd s33.1) t34], cb b5 [.own q35.id q35.lo q35.n], ob q35 17 eYe s33.2, cb b4 [vi 0], cb b3 [.sl [] .nil], cb b1 [.own q2.id q2.lo q2.n], ob q2 17 eYe ([]), .blk d29 DB] H := B3.dblk hd hO;clear hd;clear hx;cbv;replace hO := hO.cast (L' := [.tl t34, cb b7 [.sl (Ar.lst eYd s33.1) t34], cb b5 [.own q35.id q35.lo q35.n], ob q35 17 eYe s33.2, cb b4 [vi 0], cb b3 [.sl (Ar.lst eYd ([])) .nil], cb b1 [.own q2.id q2.lo q2.n], ob q2 17 eYe ([]), .blk d29 DB]) (by simp only [ob, cb, sr, ← B4]);replace hO := hO.tl0 (t := .nil) rfl;obtain ⟨s36, hx, h⟩ := bind_some h;refine K5 cfo170 hE H6 (fun e l H1 => e = .normal ∧ l = [(2, .v (.ref b1 0)), (3, .v (.ref b3 0)), (4, .v (.ref b4 0))] ∧ B3 Eq H0 [.tl .nil, .tl t34, cb b7 [.sl (Ar.lst eYd s33.1) t34], cb b5 [.own q35.id q35.lo q35.n], ob q35 17 eYe s33.2, cb b4 [vi 0], cb b3 [.sl (Ar.lst eYd s36) t34], cb b1 [.own q35.id q35.lo q35.n], ob q2 17 eYe ([]), .blk d29 DB] H1) (by kernel_rfl) ?_ ?_
  ·clear h;have h := hx;clear hx;cbv
   repeat' first | refine And.intro ?_ ?_ | (refine B1 hE hO 3 rfl ?_; cbv) | (refine B1 hE hO 2 rfl ?_; cbv) | (refine A8 hE hO 7 rfl rfl fun H hO => ?_; cbv) | (refine A8 hE hO 6 rfl rfl fun H hO => ?_; cbv) | (refine A8 hE hO 5 rfl rfl fun H hO => ?_; cbv) | (have h := N2 h; subst h; exact ⟨_, ⟨rfl, rfl, hO⟩, .e rfl (.e2 .z), rfl⟩)
  clear hx;rintro e l H ⟨rfl, rfl, hO⟩;cbv;refine Bp hE hO 9 rfl fun H hO => ?_;cbv;refine B1 hE hO 7 rfl ?_;cbv;refine B1 hE hO 6 rfl ?_;cbv;refine B1 hE hO 5 rfl ?_;cbv;cases h;exact hK q35 _ 4 _ _ (W9 hE hq35) rfl hO (.tup (.cons (.refl _) (.cons (.ro _ _) (.refl _))))
 rintro d29 y277 e H rfl hd hX;clear hx
 rcases hX with ⟨⟨t278, q279⟩, ⟨rfl, ht278, hq279⟩, hO⟩
 have hO : B3 Eq H0 [.tl t278, cb b7 [.sl (Ar.lst eYd y277.1) t278], cb b5 [.own q279.id q279.lo q279.n], ob q279 17 eYe y277.2.1, cb b4 [vi y277.2.2.1], cb b3 [.sl [] .nil], cb b1 [.sl [] .nil], ob q2 17 eYe ([]), .blk d29 DB] H := B3.dblk hd hO;clear hd;cbv;refine Bp hE hO 8 rfl fun H hO => ?_;cbv;refine B1 hE hO 6 rfl ?_;cbv;refine B1 hE hO 5 rfl ?_;cbv;refine B1 hE hO 4 rfl ?_;cbv;cases h;exact hN (by rw [Ar.lst_eq]; rfl) _ _ _ hO (.tup (.cons (.refl _) (.cons (.lit _ (B4)) (.refl _))))
theorem c130 (N aB r) (h : Am N aB = some r) : B5 prog 130 [(C1 aB)] (.tup [sr eYd r.1, vi r.2]) := by
 unfold Am at h
 refine K2 cf0 func130 call130 ntmps130 ?_;intro E H0 K hE hK hO;cbv;refine A7 hE h (c169 N aB) (.refl _) fun r1 h => ?_;cbv;refine A6 hE h (fun _ h => ?_) fun _ h => ?_
 ·cbv;cases h;exact hK hO (.tup (.cons (.lit _ (B4)) (.refl _)))
 cbv;replace hO := hO.tl0 (t := .full) rfl;obtain ⟨s4, hx, h⟩ := bind_some h;refine K1 cf0 hE H6 (γ := D8) (fun s2 g => [(5, .v (.sl (Ar.lst eYd s2.1) g)), fi 6 s2.2]) (fun s2 g H1 => O8 g ∧ B3 Eq H0 [.tl g] H1) (fun x e l H1 => match (generalizing := false) x with | .inl y => ∃ u1 : D8, O8 u1 ∧ e = .exit 0 ∧ l = [(5, .v (.sl (Ar.lst eYd y) u1))] ∧ B3 Eq H0 [.tl u1] H1 | .inr y => ∃ u1 : D8, O8 u1 ∧ e = .ret ∧ l = [(2, .v (.sl [] .nil)), fi 3 y] ∧ B3 Eq H0 [.tl u1] H1) (by kernel_rfl) ?_ .full hx ?_ ?_ ?_
 ·rintro s2 t3 H o ⟨ht3, hO⟩ h;clear hx;cbv;refine D4 hE ?_;cbv;refine A6 hE h (fun _ h => ?_) fun _ h => ?_
  ·cbv;refine C2 hE eYi h fun x5 h => ?_;cbv;refine MZ hE (f := eYe) (g := fun l6 => l6.1) (mk := fun l6 o => .tup [o, sr eYd l6.2.1, vi l6.2.2]) h (o170 N x5) (.refl _) hO fun l6 q7 H hq7 hO h => ?_;cbv;refine A6 hE h (fun _ h => ?_) fun _ h => ?_
   ·cbv;cases h;exact ⟨_, _, rfl, ⟨t3, ht3, rfl, rfl, hO.tail⟩, .e2 .z, rfl⟩
   cbv;refine D4 hE ?_;cbv;obtain ⟨s10, hx, h⟩ := bind_some h;refine K1 cf0 hE H6 (γ := D8) (fun s8 g => [(5, .v (.sl (Ar.lst eYd s8.1) g)), fi 6 s2.2, (37, .v (sr eYd l6.2.1)), fi 38 (Ar.len l6.2.1), fi 39 s8.2]) (fun s8 g H1 => O8 g ∧ B3 Eq H0 [ob q7 17 eYe l6.1, .tl g] H1) (fun x e l H1 => ∃ u1 : D8, O8 u1 ∧ e = .exit 2 ∧ l = [(5, .v (.sl (Ar.lst eYd x) u1)), fi 6 s2.2] ∧ B3 Eq H0 [ob q7 17 eYe l6.1, .tl u1] H1) (by kernel_rfl) ?_ t3 hx ?_ ?_ ?_
   ·rintro s8 t9 H o ⟨ht9, hO⟩ h;clear hx;cbv;refine A6 hE h (fun _ h => ?_) fun _ h => ?_
    ·cbv;refine C2 hE eYi h fun x11 h => ?_;cbv;refine A7 hE h (c171 N s8.1 x11) (.cons (.ro _ _) (.refl _)) fun r12 h => ?_;cbv;refine A6 hE h (fun _ h => ?_) fun _ h => ?_
     ·cbv;refine V7 (f := eYd) hE W3 (by decide) hO 1 rfl ht9 (l := s8.1) (m := [x11]) (.refl _) (.lstc (.eq (eYi x11) (.refl _)) (.lst0)) h fun l14 t13 H hO ht13 h => ?_;cbv;cases h;exact ⟨_, t13, rfl, .e rfl (.e4 .z), rfl, ht13, hO⟩
     cbv;cases h;exact ⟨_, t9, rfl, .e rfl (.e4 .z), rfl, ht9, hO⟩
    cbv;cases h;exact ⟨_, _, rfl, ⟨t9, ht9, rfl, rfl, hO⟩, .e2 .z, rfl⟩
   ·exact .e rfl (.e4 .z)
   ·exact ⟨ht3, hO⟩
   clear hx;rintro e l H ⟨t15, ht15, rfl, rfl, hO⟩;cbv;refine D4 hE ?_;cbv;refine A6 hE h (fun _ h => ?_) fun _ h => ?_
   ·cbv;cases h;exact ⟨_, _, rfl, ⟨t15, ht15, rfl, rfl, hO.tail⟩, .e2 .z, rfl⟩
   cbv;cases h;exact ⟨_, t15, rfl, .e2 .z, rfl, ht15, hO.tail⟩
  cbv;cases h;exact ⟨_, _, rfl, ⟨t3, ht3, rfl, rfl, hO⟩, .e rfl .z, rfl⟩
 ·exact .v (.slt _ (.lstc (.eq (eYi aB) (.refl _)) (.lst0))) (.e rfl .z)
 ·exact ⟨trivial, hO⟩
 clear hx
 rcases s4 with y16 | y18
 ·rintro e l H ⟨t17, ht17, rfl, rfl, hO⟩;cbv;cases h;exact hK hO (.tup (.cons (.ro _ _) (.refl _)))
 rintro e l H ⟨t19, ht19, rfl, rfl, hO⟩;cbv;cases h;exact hK hO (.tup (.cons (.lit _ (B4)) (.refl _)))
end Go.Ab
namespace Go.Ab
open Go.RowKit Go.Proofs Go.Proofs.Tryz G4
variable [Ar] [G4]
set_option maxRecDepth 100000
theorem c131 (N aB r) (h : DK N aB = some r) : B5 prog 131 [(C1 aB)] (.tup [vi r.1, vi r.2.1, vi r.2.2]) := by
 unfold DK at h
 refine K2 cf0 func131 call131 ntmps131 ?_;intro E H0 K hE hK hO;cbv;refine A7 hE h (c169 N aB) (.refl _) fun r1 h => ?_;cbv;refine A6 hE h (fun _ h => ?_) fun _ h => ?_
 ·cbv;cases h;exact hK hO (.refl _)
 cbv;refine A7 hE h (c172 N aB) (.refl _) fun r2 h => ?_;cbv;cases h;exact hK hO (.refl _)
theorem c217 (N aH aF r) (h : BB N aH aF = some r) : B5 prog 217 [(C1 aH), .eref (D5 aF) 0] (.bool r) := by
 unfold BB at h
 refine K2 cf0 func217 call217 ntmps217 ?_;intro E H0 K hE hK hO;cbv;refine A7 hE h (c215 N N aH aF) (.refl _) fun r1 h => ?_;cbv;cases h;exact hK hO (.refl _)
theorem c175 (N aG aB r) (h : EQ N aG aB = some r) : B5 prog 175 [sr eYd aG, (C1 aB)] (vi r) := by
 unfold EQ at h
 refine K2 cf0 func175 call175 ntmps175 ?_;intro E H0 K hE hK hO;cbv;refine A7 hE (g := fun r1 => vi r1) h (fun r1 hx => c134 N aG (.func (.func 217) [] [.eref (D5 aB) 0]) (fun y1 => BB N y1 aB) (fun y1 r hx => B5.value (F := []) (C := [.eref (D5 aB) 0]) (c217 N y1 aB r hx)) r1 hx) (.refl _) fun r1 h => ?_;cbv;cases h;exact hK hO (.refl _)
def cfo174 : Cf := ⟨[6000002], [], [], [], [], []⟩
theorem o174 (N aB r) (h : AH N aB = some r) : UI prog 174 [(C1 aB)] 17 (Ar.lst eYe r.1) (fun o => .tup [o, sr eYd r.2.1, vi r.2.2]) := by
 unfold AH at h
 intro H0;refine KR (T := TT) (F := H0) (mk := fun o => .tup [o, sr eYd r.2.1, vi r.2.2]) (DV.tup [.bad, sr eYd r.2.1, vi r.2.2] 0 (by simp)) cfo174 H6 func174 (by rfl) (by kernel_rfl) call174 ntmps174 (by rfl) (by rfl) ?_;intro E K hE hK hN;have hO : B3 Eq H0 [] H0 := .start B7 rfl;cbv;refine Kh hE (f := eYe) hO fun q1 H hq1 hO => ?_;cbv;refine A7 hE h (c176 N aB) (.refl _) fun r2 h => ?_;cbv;refine A6 hE h (fun _ h => ?_) fun _ h => ?_
 ·cbv;refine Kh hE (f := eYe) hO fun q3 H hq3 hO => ?_;cbv;cases h;exact hK q3 _ 0 _ _ (W9 hE hq3) rfl hO (.tup (.cons (.refl _) (.cons (.lit _ (B4)) (.refl _))))
 cbv;refine MZ hE (f := eYe) (g := fun l4 => l4.1) (mk := fun l4 o => .tup [o, sr eYd l4.2.1, vi l4.2.2]) h (o170 N aB) (.refl _) hO fun l4 q5 H hq5 hO h => ?_;cbv;cases h;exact hK q5 _ 0 _ _ (W9 hE hq5) rfl hO (.tup (.refl _))
def cf173 : Cf := ⟨[4], [(10, 10)], [], [], [(55, 5)], []⟩
theorem c173 (N aF r) (h : BS N aF = some r) : Et prog 173 (fun yv => [yv, .eref [sr eYd aF] 0]) (List.map (fun (x : (Int × (List B8))) => [vi x.1, sr eYe x.2]) r) Vd := by
 unfold BS at h
 obtain ⟨⟨w0, u0⟩, h1, hr⟩ := bind_some h;clear h;have hr := N2 hr;subst hr;have h := h1;clear h1;refine L7 cf173 H6 func173 (by rfl) (by kernel_rfl) call173 ntmps173 (by rfl) (fun _ => rfl) ?_;intro yv I D hI hD hy tl F E H K hE hO hK hKD
 have hO : B3 (I (List.map (fun (x : (Int × (List B8))) => [vi x.1, sr eYe x.2]) (w0 ++ []) ++ tl)) F [] H := by rw [List.append_nil]; exact hO
 cbv;refine D4 hE ?_;cbv;obtain ⟨w2, w3, s6, hx, h1, he⟩ := K7 h;clear h;have h := h1;clear h1
 rw [he, List.append_assoc] at hO
 clear he;refine FZ cf173 hE H6 (γ := Unit) (fun s1 g => [(0, .v (yv)), (1, .v (.eref [sr eYd aF] 0)), (10, .v (sr eYd aF)), fi 11 (Ar.len aF), fi 12 s1]) (fun s1 g w H1 => B3 (I (List.map (fun (x : (Int × (List B8))) => [vi x.1, sr eYe x.2]) w ++ tl)) F [] H1) (fun x e l w H1 => e = .exit 0 ∧ l = [] ∧ B3 (I (List.map (fun (x : (Int × (List B8))) => [vi x.1, sr eYe x.2]) w ++ tl)) F [] H1) (fun e l H1 => (e = .ret ∧ l = [] ∧ B3 D F [] H1)) (by kernel_rfl) ?_ (w' := w3 ++ []) () hx ?_ ?_ ?_ ?_
 ·rintro s1 _ w4 w5 H o hO h;clear hx
  skip
  cbv;refine A6 hE h (fun _ h => ?_) fun _ h => ?_
  ·cbv;refine C2 hE eYi h fun x7 h => ?_;cbv;refine D1 hE hO fun b8 H hO => ?_;cbv;refine A8 hE hO 0 rfl rfl fun H hO => ?_;cbv;refine B1 hE hO 0 rfl ?_;cbv;refine MZ hE (f := eYe) (g := fun l9 => l9.1) (mk := fun l9 o => .tup [o, sr eYd l9.2.1, vi l9.2.2]) h (o174 N x7) (.refl _) hO fun l9 q10 H hq10 hO h => ?_;cbv;refine GI hE hq10 ?_;cbv;obtain ⟨w13, w14, s17, hx, h1, he⟩ := K7 h;clear h;have h := h1;clear h1
   rw [he, List.append_assoc] at hO
   clear he;refine FZ cf173 hE H6 (γ := OG) (fun s11 g => [(0, .v (yv)), (1, .v (.eref [sr eYd aF] 0)), fi 3 s1, (5, .v (.own g.id g.lo g.n)), (6, .v (sr eYd l9.2.1)), (10, .v (sr eYd aF)), fi 11 (Ar.len aF), fi 12 s1, fi 24 (Ar.len l9.1), fi 25 s11.1]) (fun s11 g w H1 => X6 g (Ar.len s11.2) ∧ B3 (I (List.map (fun (x : (Int × (List B8))) => [vi x.1, sr eYe x.2]) w ++ tl)) F [ob g 17 eYe s11.2, cb b8 (D5 x7)] H1) (fun x e l w H1 => ∃ u1 : OG, X6 u1 (Ar.len x) ∧ e = .exit 2 ∧ l = [(0, .v (yv)), (1, .v (.eref [sr eYd aF] 0)), fi 3 s1, (5, .v (.own u1.id u1.lo u1.n)), (10, .v (sr eYd aF)), fi 11 (Ar.len aF), fi 12 s1] ∧ B3 (I (List.map (fun (x : (Int × (List B8))) => [vi x.1, sr eYe x.2]) w ++ tl)) F [ob u1 17 eYe x, cb b8 (D5 x7)] H1) (fun e l H1 => False) (by kernel_rfl) ?_ (w' := w14 ++ w5) q10 hx ?_ ?_ ?_ ?_
   ·rintro s11 q12 w15 w16 H o ⟨hq12, hO⟩ h;clear hx
    skip
    cbv;refine A6 hE h (fun _ h => ?_) fun _ h => ?_
    ·cbv;refine Af hE hO hq12 0 rfl h fun h => ?_;cbv;refine Ae hE (f := eYe) (esz := 17) (tz := 1) (off := 0) (u := (fun x18 : B8 => { x18 with cQ := s1 })) (fun x18 => ⟨.int .i64 s1, .refl _, rfl, rfl, (by rw [eYv, eYv]; rfl)⟩) (by decide) hO hq12 0 rfl h fun l19 H hq12 h hO => ?_;cbv;refine Cb hE eYv hO hq12 0 rfl h fun x20 h => ?_;cbv;refine A6 hE h (fun _ h => ?_) fun _ h => ?_
     ·cbv;refine Cb hE eYv hO hq12 0 rfl h fun x21 h => ?_;cbv;refine C2 hE eYi h fun x22 h => ?_;cbv;refine M9 hE (g := fun r23 => vi r23) h (c175 N aF x22) (.refl _) fun r23 h => ?_;cbv;refine Ae hE (f := eYe) (esz := 17) (tz := 1) (off := 1) (u := (fun x24 : B8 => { x24 with To := r23 })) (fun x24 => ⟨.int .i64 r23, .refl _, rfl, rfl, (by rw [eYv, eYv]; rfl)⟩) (by decide) hO hq12 0 rfl h fun l25 H hq12 h hO => ?_;cbv;obtain ⟨hw, rfl⟩ := C4 h
      rw [← hw] at hO
      exact ⟨_, q12, rfl, .e2 (.e4 (.e4 .z)), rfl, ⟨hq12, hO⟩⟩
     cbv;obtain ⟨hw, rfl⟩ := C4 h
     rw [← hw] at hO
     exact ⟨_, q12, rfl, .e2 (.e4 (.e4 .z)), rfl, ⟨hq12, hO⟩⟩
    cbv;obtain ⟨hw, rfl⟩ := C4 h
    rw [← hw] at hO
    exact .inl ⟨_, _, rfl, ⟨q12, hq12, rfl, rfl, hO⟩, .e rfl (.e2 (.e4 .z)), rfl⟩
   ·exact .e2 (.e4 (.e4 .z))
   ·exact ⟨hq10, hO⟩
   ·rintro e l H ⟨t26, ht26, rfl, rfl, hO⟩;clear hx;cbv;refine GJ hE hO ht26 0 rfl fun H hO => ?_;cbv;obtain ⟨w27, h1, he⟩ := P8 h;clear h;have h := h1;clear h1
    rw [he, List.append_assoc] at hO
    clear he;have hO : B3 (I ([vi s1, sr eYe s17] :: (List.map (fun (x : (Int × (List B8))) => [vi x.1, sr eYe x.2]) (w27 ++ w5) ++ tl))) F [cb b8 (D5 x7)] _ := hO;refine AT hE hI hD hy hO (.refl _) (fun H hO => ?_) (fun H hO => ?_)
    ·cbv;refine Fv hE (Ar.nt_eq _) ?_;cbv;obtain ⟨hw, rfl⟩ := C4 h
     rw [← hw] at hO
     exact ⟨_, (), rfl, .e rfl (.e4 .z), rfl, hO.tail⟩
    clear h;cbv;refine Fu hE (Ar.nt_eq _) ?_;cbv;exact .inr ⟨_, ⟨rfl, rfl, hO.tail⟩, .z, rfl⟩
   rintro e l H hX;exact hX.elim
  cbv;obtain ⟨hw, rfl⟩ := C4 h
  rw [← hw] at hO
  exact .inl ⟨_, _, rfl, ⟨rfl, rfl, hO⟩, .z, rfl⟩
 ·exact .e rfl (.e4 .z)
 ·exact hO
 ·rintro e l H ⟨rfl, rfl, hO⟩;clear hx;cbv;obtain ⟨hw, _⟩ := C4 h
  rw [← hw] at hO
  exact hK _ _ _ hO trivial
 rintro e l H hX;obtain ⟨rfl, rfl, hO⟩ := hX;clear h;cbv;exact hKD _ _ _ hO trivial
theorem c132 (N aG r) (h : Dm N aG = some r) : CH prog 132 [sr eYd aG] (fun v => DE prog v (r.map fun (x : (Int × (List B8))) => [vi x.1, sr eYe x.2])) := by
 unfold Dm at h
 refine O6 cf0 H6 func132 (by rfl) (by kernel_rfl) call132 ntmps132 (by rfl) (by rfl) ?_;intro E H0 K hE hK;have hO : B3 Eq H0 [] H0 := .start B7 rfl;cbv;exact hK _ _ _ hO (O4 call173 (c173 N aG r h))
def cf177 : Cf := ⟨[], [], [(8, 5), (51, 17)], [], [], []⟩
theorem c177 (N : Nat) : ∀ n aB r, M7 N n aB = some r → B5 prog 177 [(C1 aB)] (sr eYt r) := by
 intro n
 induction n with
 | zero => intro aB r h; cases h
 | succ n ih =>
 intro aB r h
 unfold M7 at h
 refine K2 cf177 func177 call177 ntmps177 ?_;intro E H0 K hE hK hO;cbv;obtain ⟨s1, hx, h⟩ := bind_some h;refine K5 cf177 hE H6 (fun e l H1 => e = .normal ∧ l = [(1, .v (.eref (D5 aB) 0)), (3, .v (.sl [] .nil)), fi 7 aB.Op, (8, .v (.bool s1))] ∧ B3 Eq H0 [] H1) (by kernel_rfl) ?_ ?_
 ·clear h;have h := hx;clear hx;cbv;refine A6 hE h (fun _ h => ?_) fun _ h => ?_
  ·cbv;cases h;exact ⟨_, ⟨rfl, rfl, hO⟩, .e4 .z, rfl⟩
  cbv;cases h;exact ⟨_, ⟨rfl, rfl, hO⟩, .e4 .z, rfl⟩
 clear hx;rintro e l H ⟨rfl, rfl, hO⟩;cbv;refine A6 hE h (fun _ h => ?_) fun _ h => ?_
 ·cbv;refine C2 hE eYi h fun x2 h => ?_;cbv;refine A7 hE h (ih x2) (.refl _) fun r3 h => ?_;cbv;cases h;exact hK hO (.refl _)
 cbv;refine A6 hE h (fun _ h => ?_) fun _ h => ?_
 ·cbv;refine D4 hE ?_;cbv;replace hO := hO.tl0 (t := .nil) rfl;obtain ⟨s6, hx, h⟩ := bind_some h;refine K1 cf177 hE H6 (γ := D8) (fun s4 g => [(3, .v (.sl (Ar.lst eYt s4.1) g)), (19, .v (sr eYd aB.cR)), fi 20 (Ar.len aB.cR), fi 21 s4.2]) (fun s4 g H1 => O8 g ∧ B3 Eq H0 [.tl g] H1) (fun x e l H1 => ∃ u1 : D8, O8 u1 ∧ e = .exit 1 ∧ l = [(3, .v (.sl (Ar.lst eYt x) u1))] ∧ B3 Eq H0 [.tl u1] H1) (by kernel_rfl) ?_ .nil hx ?_ ?_ ?_
  ·rintro s4 t5 H o ⟨ht5, hO⟩ h;clear hx;cbv;refine A6 hE h (fun _ h => ?_) fun _ h => ?_
   ·cbv;refine C2 hE eYi h fun x7 h => ?_;cbv;refine A7 hE h (ih x7) (.refl _) fun r8 h => ?_;cbv;refine V7 (f := eYt) hE HZ (by decide) hO 0 rfl ht5 (l := s4.1) (m := r8) (.refl _) (.refl _) h fun l10 t9 H hO ht9 h => ?_;cbv;cases h;exact ⟨_, t9, rfl, .e4 .z, rfl, ht9, hO⟩
   cbv;cases h;exact ⟨_, _, rfl, ⟨t5, ht5, rfl, rfl, hO⟩, .e rfl .z, rfl⟩
  ·exact .v (.slt _ (.lst0)) (.e rfl (.e2 .z))
  ·exact ⟨trivial, hO⟩
  clear hx;rintro e l H ⟨t11, ht11, rfl, rfl, hO⟩;cbv;cases h;exact hK hO (.ro _ _)
 cbv;refine A6 hE h (fun _ h => ?_) fun _ h => ?_
 ·cbv;refine V7 (f := eYt) hE HZ (by decide) (hO.tl0 (t := .nil) rfl) 0 rfl trivial (l := []) (m := [(⟨aB.cU, aB.Typ, aB.Var, aB.cN⟩ : CB)]) (.lst0) (.lstc (.eq (eYO (⟨aB.cU, aB.Typ, aB.Var, aB.cN⟩ : CB)) (.refl _)) (.lst0)) h fun l13 t12 H hO ht12 h => ?_;cbv;refine C2 hE eYi h fun x14 h => ?_;cbv;refine A7 hE h (ih x14) (.refl _) fun r15 h => ?_;cbv;refine V7 (f := eYt) hE HZ (by decide) hO 0 rfl ht12 (l := l13) (m := r15) (.refl _) (.refl _) h fun l17 t16 H hO ht16 h => ?_;cbv;cases h;exact hK hO (.ro _ _)
 cbv;obtain ⟨s18, hx, h⟩ := bind_some h;refine K5 cf177 hE H6 (fun e l H1 => e = .normal ∧ l = [(1, .v (.eref (D5 aB) 0)), (3, .v (.sl [] .nil)), (51, .v (.bool s18))] ∧ B3 Eq H0 [] H1) (by kernel_rfl) ?_ ?_
 ·clear h;have h := hx;clear hx;cbv;refine A6 hE h (fun _ h => ?_) fun _ h => ?_
  ·cbv;cases h;exact ⟨_, ⟨rfl, rfl, hO⟩, .e rfl (.e2 .z), rfl⟩
  cbv;cases h;exact ⟨_, ⟨rfl, rfl, hO⟩, .e rfl (.e2 .z), rfl⟩
 clear hx;rintro e l H ⟨rfl, rfl, hO⟩;cbv;refine A6 hE h (fun _ h => ?_) fun _ h => ?_
 ·cbv;refine C2 hE eYi h fun x19 h => ?_;cbv;refine A7 hE h (ih x19) (.refl _) fun r20 h => ?_;cbv;cases h;exact hK hO (.refl _)
 cbv;cases h;exact hK hO (.lit _ (B4))
theorem c133 (N aB r) (h : Bz N aB = some r) : B5 prog 133 [(C1 aB)] (.tup [sr eYt r.1, vi r.2]) := by
 unfold Bz at h
 refine K2 cf0 func133 call133 ntmps133 ?_;intro E H0 K hE hK hO;cbv;refine A7 hE h (c176 N aB) (.refl _) fun r1 h => ?_;cbv;refine A6 hE h (fun _ h => ?_) fun _ h => ?_
 ·cbv;cases h;exact hK hO (.tup (.cons (.lit _ (B4)) (.refl _)))
 cbv;refine A7 hE h (c177 N N aB) (.refl _) fun r2 h => ?_;cbv;cases h;exact hK hO (.refl _)
def cf97 : Cf := ⟨[2, 3, 4, 7], [(17, 3), (3000014, 0), (3000014, 1), (3000014, 2), (3000014, 3), (3000014, 6), (3000014, 7), (3000014, 8), (3000014, 10), (3000014, 12)], [], [2000014], [], [(17, 2, [2])]⟩
set_option maxHeartbeats 2000000 in
theorem c97 (N aB r) (h : BT N aB = some r) : B5 prog 97 [(C1 aB)] (.tup [(IF r.1), sr eYd r.2.1, vi r.2.2]) := by
 unfold BT at h
 refine K2 cf97 func97 call97 ntmps97 ?_;intro E H0 K hE hK hO;cbv;refine D1 hE hO fun b1 H hO => ?_;cbv;refine D1 hE hO fun b2 H hO => ?_;cbv;refine D1 hE hO fun b3 H hO => ?_;cbv;refine A7 hE h (c130 N aB) (.refl _) fun r4 h => ?_;cbv;refine A6 hE h (fun _ h => ?_) fun _ h => ?_
 ·cbv;refine A8 hE hO 2 rfl rfl fun H hO => ?_;cbv;refine A8 hE hO 1 rfl rfl fun H hO => ?_;cbv;refine A8 hE hO 0 rfl rfl fun H hO => ?_;cbv;refine B1 hE hO 2 rfl ?_;cbv;refine B1 hE hO 1 rfl ?_;cbv;refine B1 hE hO 0 rfl ?_;cbv;cases h;exact hK hO (.tup (.cons (.agg (.cons (.refl _) (.cons (.refl _) (.cons (.lit _ (B4)) (.cons (.lit _ (B4)) (.refl _)))))) (.cons (.lit _ (B4)) (.refl _))))
 cbv;refine D1 hE hO fun b5 H hO => ?_;cbv;refine A7 hE h (c131 N aB) (.refl _) fun r6 h => ?_;cbv;refine A8 hE hO 0 rfl rfl fun H hO => ?_;cbv;refine A8 hE hO 0 rfl rfl fun H hO => ?_;cbv;refine A6 hE h (fun _ h => ?_) fun _ h => ?_
 ·cbv;refine A8 hE hO 3 rfl rfl fun H hO => ?_;cbv;refine A8 hE hO 2 rfl rfl fun H hO => ?_;cbv;refine A8 hE hO 1 rfl rfl fun H hO => ?_;cbv;refine B1 hE hO 3 rfl ?_;cbv;refine B1 hE hO 2 rfl ?_;cbv;refine B1 hE hO 1 rfl ?_;cbv;cases h;exact hK hO (.tup (.cons (.agg (.cons (.refl _) (.cons (.refl _) (.cons (.lit _ (B4)) (.cons (.lit _ (B4)) (.refl _)))))) (.cons (.lit _ (B4)) (.refl _))))
 cbv;refine R5 hE h (c132 N r4.1) (.refl _) fun r7 v8 hv8 h => ?_;cbv;replace hO := hO.cast (L' := [cb b5 [vi r6.1, vi r6.2.1, .sl (Ar.lst eYs ([])) .nil, .sl (Ar.lst eYe ([])) .nil], cb b3 [vi 0], cb b2 [.sl [] .nil], cb b1 [vi 0, vi 0, .sl [] .nil, .sl [] .nil]]) (by simp only [ob, cb, sr, ← B4] <;> rfl);replace hO := hO.tl0 (t := .nil) rfl;replace hO := hO.tl0 (t := .nil) rfl;obtain ⟨o15, hx, h⟩ := bind_some h;refine AU cf97 hE H6 (ι := Unit) (enc := fun (x : (Int × (List B8))) => [vi x.1, sr eYe x.2]) (fun (s10 : J1) F H => ∃ g : D8 × D8, (O8 g.1 ∧ O8 g.2) ∧ B3 Eq F [.tl g.1, .tl g.2, cb b5 [vi s10.Vars, vi s10.dD, .sl (Ar.lst eYs s10.cV) g.2, .sl (Ar.lst eYe s10.cW) g.1], cb b3 [vi 0], cb b2 [.sl [] .nil], cb b1 [vi 0, vi 0, .sl [] .nil, .sl [] .nil]] H) (fun (r : (J1 × Int)) e F H => ∃ g : D8 × D8, (e = .ret ∧ O8 g.1 ∧ O8 g.2) ∧ B3 Eq F [.tl g.1, .tl g.2, cb b5 [vi r.1.Vars, vi r.1.dD, .sl (Ar.lst eYs r.1.cV) g.2, .sl (Ar.lst eYe r.1.cW) g.1], cb b3 [vi r.2], cb b2 [.sl [] .nil], cb b1 [vi 0, vi 0, .sl [] .nil, .sl [] .nil]] H) (fun i s10 y9 => [(2, .v (.ref b1 0)), (3, .v (.ref b2 0)), (4, .v (.ref b3 0)), (5, .v (.eref [sr eYd r4.1] 0)), (7, .v (.ref b5 0)), fi 8 y9.1, (9, .v (sr eYe y9.2))]) (fun i s10 y9 F H => ∃ g : D8 × D8, (O8 g.1 ∧ O8 g.2) ∧ B3 Eq F [.tl g.1, .tl g.2, cb b5 [vi s10.Vars, vi s10.dD, .sl (Ar.lst eYs s10.cV) g.2, .sl (Ar.lst eYe s10.cW) g.1], cb b3 [vi 0], cb b2 [.sl [] .nil], cb b1 [vi 0, vi 0, .sl [] .nil, .sl [] .nil]] H) (fun _ => C7.ex fun _ => B3.stable B7 _) (fun _ _ => C7.ex fun _ => B3.stable B7 _) (fun _ _ _ => C7.ex fun _ => B3.stable B7 _) hv8 hx (⟨⟨.nil, .nil⟩, ⟨trivial, trivial⟩, hO⟩) (by decide) (fun _ => rfl) (by kernel_rfl) (by kernel_rfl) ?_ ?_ ?_ ?_
 ·rintro E i12 y9 s10 F11 H hE ⟨⟨t13, t14⟩, ⟨ht13, ht14⟩, hO⟩;clear hx h;cbv;exact ⟨(), ⟨⟨t13, t14⟩, ⟨ht13, ht14⟩, hO⟩, .e rfl (.e2 (.e4 .z)), rfl⟩
 ·rintro E i12 _ y9 s10 F11 H o hE hF h ⟨⟨t13, t14⟩, ⟨ht13, ht14⟩, hO⟩;clear hx;cbv;refine C2 hE eYi h fun x16 h => ?_;cbv;refine A7 hE h (c133 N x16) (.refl _) fun r17 h => ?_;cbv;refine A6 hE h (fun _ h => ?_) fun _ h => ?_
  ·cbv;refine A8 hE hO 5 rfl rfl fun H hO => ?_;cbv;refine A8 hE hO 4 rfl rfl fun H hO => ?_;cbv;refine A8 hE hO 3 rfl rfl fun H hO => ?_;cbv;cases h;exact ⟨_, rfl, rfl, ⟨⟨t13, t14⟩, ⟨rfl, ⟨ht13, ht14⟩⟩, hO⟩⟩
  cbv;obtain ⟨s18, hx, h⟩ := bind_some h;refine K5 cf97 hE H6 (fun e l H1 => ∃ u1 : D8, O8 u1 ∧ ∃ u2 : D8, O8 u2 ∧ e = .normal ∧ l = [] ∧ B3 Eq F11 [.tl u1, .tl u2, cb b5 [vi s18.Vars, vi s18.dD, .sl (Ar.lst eYs s18.cV) u2, .sl (Ar.lst eYe s18.cW) u1], cb b3 [vi 0], cb b2 [.sl [] .nil], cb b1 [vi 0, vi 0, .sl [] .nil, .sl [] .nil]] H1) (by kernel_rfl) ?_ ?_
  ·clear h;have h := hx;clear hx;cbv
   repeat' first | refine And.intro ?_ ?_ | (refine B1 hE hO 2 rfl ?_; cbv) | (refine V7 (f := eYs) hE RB (by decide) hO 1 rfl ht14 (l := s10.cV) (m := [(⟨r17.1⟩ : GX)]) (.refl _) (.lstc (.eq (eYP (⟨r17.1⟩ : GX)) (.refl _)) (.lst0)) h fun l220 t219 H hO ht219 h => ?_; cbv) | (refine V7 (f := eYe) hE JG (by decide) hO 0 rfl ht13 (l := s10.cW) (m := y9.2) (.refl _) (.refl _) h fun l380 t379 H hO ht379 h => ?_; cbv) | (refine A8 hE hO 2 rfl rfl fun H hO => ?_; cbv) | (have h := N2 h; subst h; exact ⟨_, ⟨t379, ht379, t219, ht219, rfl, rfl, hO⟩, .z, rfl⟩)
  clear hx;rintro e l H ⟨t619, ht619, t620, ht620, rfl, rfl, hO⟩;cbv;cases h;exact ⟨_, rfl, ⟨⟨t619, t620⟩, ⟨ht619, ht620⟩, hO⟩⟩
 ·rintro d621 s625 H rfl hd ⟨⟨t626, t627⟩, ⟨ht626, ht627⟩, hO⟩;have hO : B3 Eq H0 [.tl t626, .tl t627, cb b5 [vi s625.Vars, vi s625.dD, .sl (Ar.lst eYs s625.cV) t627, .sl (Ar.lst eYe s625.cW) t626], cb b3 [vi 0], cb b2 [.sl [] .nil], cb b1 [vi 0, vi 0, .sl [] .nil, .sl [] .nil], .blk d621 DB] H := B3.dblk hd hO;clear hd;clear hx;cbv;refine B1 hE hO 2 rfl ?_;cbv;refine D4 hE ?_;cbv;refine A6 hE h (fun _ h => ?_) fun _ h => ?_
  ·cbv;refine A8 hE hO 5 rfl rfl fun H hO => ?_;cbv;refine A8 hE hO 4 rfl rfl fun H hO => ?_;cbv;refine A8 hE hO 3 rfl rfl fun H hO => ?_;cbv;refine Bp hE hO 6 rfl fun H hO => ?_;cbv;refine B1 hE hO 5 rfl ?_;cbv;refine B1 hE hO 4 rfl ?_;cbv;refine B1 hE hO 3 rfl ?_;cbv;cases h;exact hK hO (.tup (.cons (.agg (.cons (.refl _) (.cons (.refl _) (.cons (.lit _ (B4)) (.cons (.lit _ (B4)) (.refl _)))))) (.cons (.lit _ (B4)) (.refl _))))
  cbv;refine MX hE hO 5 rfl fun H1 hT hW => ?_;cbv;refine B1 hE hW 2 rfl ?_;cbv;refine EE hE trivial ?_;cbv;refine MY hE hO 5 rfl hT fun H hO => ?_;cbv;refine A8 hE hO 4 rfl rfl fun H hO => ?_;cbv;refine A8 hE hO 3 rfl rfl fun H hO => ?_;cbv;refine Bp hE hO 6 rfl fun H hO => ?_;cbv;refine B1 hE hO 5 rfl ?_;cbv;refine B1 hE hO 4 rfl ?_;cbv;refine B1 hE hO 3 rfl ?_;cbv;cases h;exact hK hO (.tup (.cons (.agg (.cons (.refl _) (.cons (.refl _) (.cons (.ro _ _) (.cons (.ro _ _) (.refl _)))))) (.refl _)))
 rintro d621 y628 e H rfl hd hX;clear hx
 rcases hX with ⟨⟨t629, t630⟩, ⟨rfl, ht629, ht630⟩, hO⟩
 have hO : B3 Eq H0 [.tl t629, .tl t630, cb b5 [vi y628.1.Vars, vi y628.1.dD, .sl (Ar.lst eYs y628.1.cV) t630, .sl (Ar.lst eYe y628.1.cW) t629], cb b3 [vi y628.2], cb b2 [.sl [] .nil], cb b1 [vi 0, vi 0, .sl [] .nil, .sl [] .nil], .blk d621 DB] H := B3.dblk hd hO;clear hd;cbv;refine Bp hE hO 6 rfl fun H hO => ?_;cbv;refine B1 hE hO 5 rfl ?_;cbv;refine B1 hE hO 4 rfl ?_;cbv;refine B1 hE hO 3 rfl ?_;cbv;cases h;exact hK hO (.tup (.cons (.agg (.cons (.refl _) (.cons (.refl _) (.cons (.lit _ (B4)) (.cons (.lit _ (B4)) (.refl _)))))) (.cons (.lit _ (B4)) (.refl _))))
def cf52 : Cf := ⟨[2], [], [], [], [], []⟩
theorem c52 (N aB r) (h : Cz N aB = some r) : B5 prog 52 [(C1 aB)] (.tup [(IF r.1), vi r.2]) := by
 unfold Cz at h
 refine K2 cf52 func52 call52 ntmps52 ?_;intro E H0 K hE hK hO;cbv;refine D1 hE hO fun b1 H hO => ?_;cbv;refine A7 hE h (c97 N aB) (.refl _) fun r2 h => ?_;cbv;refine A8 hE hO 0 rfl rfl fun H hO => ?_;cbv;refine B1 hE hO 0 rfl ?_;cbv;cases h;exact hK hO (.refl _)
theorem c98 (N : Nat) (aA : List A5) (aU : V) (aL : A5 → Option Bool) (aY : ∀ y1 q, aL y1 = some q → Q6 prog aU [(C1 y1)] (.bool q)) (r : Bool) (h : J4 N aA aL = some r) : B5 prog 98 [sr eYd aA, aU] (.bool r) := by
 unfold J4 at h
 refine K2 cf0 func98 call98 ntmps98 ?_;intro E H0 K hE hK hO;cbv;refine A7 hE h (c134 N aA aU aL aY) (.refl _) fun r1 h => ?_;cbv;cases h;exact hK hO (.refl _)
def cf53 : Cf := ⟨[], [], [(5, 4)], [], [], []⟩
def K53 (N n : Nat) : Prop := ∀ (aB : A5) (r : Bool), U9 N n aB = some r → B5 prog 53 [(C1 aB)] (.bool r)
def K99 (N n : Nat) : Prop := ∀ (aC : A5) (r : Bool), U8 N n aC = some r → B5 prog 99 [(C1 aC)] (.bool r)
theorem k53 (N n : Nat) (ih99 : K99 N n) : K53 N (n + 1) := by
 intro aB r h
 unfold U9 at h
 refine K2 cf53 func53 call53 ntmps53 ?_;intro E H0 K hE hK hO;cbv;obtain ⟨s1, hx, h⟩ := bind_some h;refine K5 cf53 hE H6 (fun e l H1 => e = .normal ∧ l = [(1, .v (.eref (D5 aB) 0)), (5, .v (.bool s1))] ∧ B3 Eq H0 [] H1) (by kernel_rfl) ?_ ?_
 ·clear h;have h := hx;clear hx;cbv;refine A6 hE h (fun _ h => ?_) fun _ h => ?_
  ·cbv;cases h;exact ⟨_, ⟨rfl, rfl, hO⟩, .e2 .z, rfl⟩
  cbv;refine A6 hE h (fun _ h => ?_) fun _ h => ?_
  ·cbv;cases h;exact ⟨_, ⟨rfl, rfl, hO⟩, .e2 .z, rfl⟩
  cbv;refine A6 hE h (fun _ h => ?_) fun _ h => ?_
  ·cbv;cases h;exact ⟨_, ⟨rfl, rfl, hO⟩, .e2 .z, rfl⟩
  cbv;refine A6 hE h (fun _ h => ?_) fun _ h => ?_
  ·cbv;cases h;exact ⟨_, ⟨rfl, rfl, hO⟩, .e2 .z, rfl⟩
  cbv;cases h;exact ⟨_, ⟨rfl, rfl, hO⟩, .e2 .z, rfl⟩
 clear hx;rintro e l H ⟨rfl, rfl, hO⟩;cbv;refine A6 hE h (fun _ h => ?_) fun _ h => ?_
 ·cbv;refine A7 hE (g := fun r2 => .bool r2) h (fun r2 hx => c98 N aB.cR (.func (.func 99) [] []) (fun y1 => U8 N n y1) (fun y1 r hx => B5.value (F := []) (C := []) (ih99 y1 r hx)) r2 hx) (.refl _) fun r2 h => ?_;cbv;cases h;exact hK hO (.refl _)
 cbv;cases h;exact hK hO (.refl _)
theorem k99 (N n : Nat) (ih53 : K53 N n) : K99 N (n + 1) := by
 intro aC r h
 unfold U8 at h
 refine K2 cf0 func99 call99 ntmps99 ?_;intro E H0 K hE hK hO;cbv;refine A7 hE h (ih53 aC) (.refl _) fun r1 h => ?_;cbv;cases h;exact hK hO (.refl _)
theorem WQ (N : Nat) : ∀ n, K53 N n ∧ K99 N n := by
 intro n
 induction n with
 | zero => exact ⟨(by intro aB r h; unfold U9 at h; cases h), (by intro aC r h; unfold U8 at h; cases h)⟩
 | succ n ih =>
  obtain ⟨ih53, ih99⟩ := ih;exact ⟨k53 N n ih99, k99 N n ih53⟩
theorem c53 (N n aB r) (h : U9 N n aB = some r) : B5 prog 53 [(C1 aB)] (.bool r) := (WQ N n).1 aB r h
def cf181 : Cf := ⟨[], [(7, 9)], [], [], [], []⟩
theorem c181 (N aZ aD r) (h : Cy N aZ aD = some r) : B5 prog 181 [(Hg aZ), (AE aD)] (.tup [vi r.1, vi r.2]) := by
 unfold Cy at h
 refine K2 cf181 func181 call181 ntmps181 ?_;intro E H0 K hE hK hO;cbv;refine A6 hE h (fun _ h => ?_) fun _ h => ?_
 ·cbv;cases h;exact hK hO (.refl _)
 cbv;refine D4 hE ?_;cbv;refine A6 hE h (fun _ h => ?_) fun _ h => ?_
 ·cbv;cases h;exact hK hO (.refl _)
 cbv;refine A6 hE h (fun _ h => ?_) fun _ h => ?_
 ·cbv;cases h;exact hK hO (.refl _)
 cbv;refine C2 hE eYD h fun x1 h => ?_;cbv;refine C2 hE eYF h fun x2 h => ?_;cbv;refine D4 hE ?_;cbv;refine A6 hE h (fun _ h => ?_) fun _ h => ?_
 ·cbv;cases h;exact hK hO (.refl _)
 cbv;refine C2 hE eYK h fun x3 h => ?_;cbv;refine A6 hE h (fun _ h => ?_) fun _ h => ?_
 ·cbv;refine A6 hE h (fun _ h => ?_) fun _ h => ?_
  ·cbv;cases h;exact hK hO (.refl _)
  cbv;refine A7 hE h (c223 N aD.Kind (⟨x3.Kind, 0, ⟨#[]⟩⟩ : P7)) (.refl _) fun r4 h => ?_;cbv;refine A6 hE h (fun _ h => ?_) fun _ h => ?_
  ·cbv;cases h;exact hK hO (.refl _)
  cbv;cases h;exact hK hO (.refl _)
 cbv;cases h;exact hK hO (.refl _)
def cf182 : Cf := ⟨[], [], [(15, 8), (22, 13)], [], [], []⟩
theorem c182 (N aM bA r) (h : DS N aM bA = some r) : B5 prog 182 [vi aM, sr (V.int .i64) bA] (vi r) := by
 unfold DS at h
 refine K2 cf182 func182 call182 ntmps182 ?_;intro E H0 K hE hK hO;cbv;refine D4 hE ?_;cbv;obtain ⟨s2, hx, h⟩ := bind_some h;refine F6 cf182 hE H6 (fun s1 => [fi 0 aM, (1, .v (sr (V.int .i64) bA)), (8, .v (sr (V.int .i64) bA)), fi 9 (Ar.len bA), fi 10 s1]) (fun s1 H1 => B3 Eq H0 [] H1) (fun x e l H1 => match (generalizing := false) x with | .inl y => e = .exit 0 ∧ l = [] ∧ B3 Eq H0 [] H1 | .inr y => e = .ret ∧ l = [fi 4 9] ∧ B3 Eq H0 [] H1) (by kernel_rfl) ?_ hx ?_ hO ?_
 ·intro s1 H o hO h;clear hx;cbv;refine A6 hE h (fun _ h => ?_) fun _ h => ?_
  ·cbv;refine C2 hE (fun _ => rfl) h fun x3 h => ?_;cbv;obtain ⟨s4, hx, h⟩ := bind_some h;refine K5 cf182 hE H6 (fun e l H1 => e = .normal ∧ l = [fi 0 aM, (1, .v (sr (V.int .i64) bA)), fi 6 x3, (7, .b true), (8, .v (sr (V.int .i64) bA)), fi 9 (Ar.len bA), fi 10 s1, fi 14 aM, (15, .v (.bool s4))] ∧ B3 Eq H0 [] H1) (by kernel_rfl) ?_ ?_
   ·clear h;have h := hx;clear hx;cbv;refine A6 hE h (fun _ h => ?_) fun _ h => ?_
    ·cbv;cases h;exact ⟨_, ⟨rfl, rfl, hO⟩, .e rfl (.e2 (.b rfl (.e rfl (.e rfl (.e rfl (.e rfl (.e rfl (.z)))))))), rfl⟩
    cbv;refine A6 hE h (fun _ h => ?_) fun _ h => ?_
    ·cbv;cases h;exact ⟨_, ⟨rfl, rfl, hO⟩, .e rfl (.e2 (.b rfl (.e rfl (.e rfl (.e rfl (.e rfl (.e rfl (.z)))))))), rfl⟩
    cbv;refine A6 hE h (fun _ h => ?_) fun _ h => ?_
    ·cbv;cases h;exact ⟨_, ⟨rfl, rfl, hO⟩, .e rfl (.e2 (.b rfl (.e rfl (.e rfl (.e rfl (.e rfl (.e rfl (.z)))))))), rfl⟩
    cbv;cases h;exact ⟨_, ⟨rfl, rfl, hO⟩, .e rfl (.e2 (.b rfl (.e rfl (.e rfl (.e rfl (.e rfl (.e rfl (.z)))))))), rfl⟩
   clear hx;rintro e l H ⟨rfl, rfl, hO⟩;cbv;refine A6 hE h (fun _ h => ?_) fun _ h => ?_
   ·cbv;refine A6 hE h (fun _ h => ?_) fun _ h => ?_
    ·cbv;cases h;exact ⟨_, _, rfl, ⟨rfl, rfl, hO⟩, .e rfl .z, rfl⟩
    cbv;cases h;exact ⟨_, rfl, .e rfl (.e4 .z), rfl, hO⟩
   cbv;obtain ⟨s5, hx, h⟩ := bind_some h;refine K5 cf182 hE H6 (fun e l H1 => e = .normal ∧ l = [fi 0 aM, (1, .v (sr (V.int .i64) bA)), fi 6 x3, (7, .b true), (8, .v (sr (V.int .i64) bA)), fi 9 (Ar.len bA), fi 10 s1, fi 14 aM, (22, .v (.bool s5))] ∧ B3 Eq H0 [] H1) (by kernel_rfl) ?_ ?_
   ·clear h;have h := hx;clear hx;cbv;refine A6 hE h (fun _ h => ?_) fun _ h => ?_
    ·cbv;cases h;exact ⟨_, ⟨rfl, rfl, hO⟩, .e rfl (.e2 (.b rfl (.e rfl (.e rfl (.e rfl (.e rfl (.e rfl (.z)))))))), rfl⟩
    cbv;refine A6 hE h (fun _ h => ?_) fun _ h => ?_
    ·cbv;cases h;exact ⟨_, ⟨rfl, rfl, hO⟩, .e rfl (.e2 (.b rfl (.e rfl (.e rfl (.e rfl (.e rfl (.e rfl (.z)))))))), rfl⟩
    cbv;cases h;exact ⟨_, ⟨rfl, rfl, hO⟩, .e rfl (.e2 (.b rfl (.e rfl (.e rfl (.e rfl (.e rfl (.e rfl (.z)))))))), rfl⟩
   clear hx;rintro e l H ⟨rfl, rfl, hO⟩;cbv;refine A6 hE h (fun _ h => ?_) fun _ h => ?_
   ·cbv;refine A6 hE h (fun _ h => ?_) fun _ h => ?_
    ·cbv;cases h;exact ⟨_, _, rfl, ⟨rfl, rfl, hO⟩, .e rfl .z, rfl⟩
    cbv;cases h;exact ⟨_, rfl, .e rfl (.e4 .z), rfl, hO⟩
   cbv;refine A6 hE h (fun _ h => ?_) fun _ h => ?_
   ·cbv;refine C2 hE (fun _ => rfl) h fun x6 h => ?_;cbv;refine A6 hE h (fun _ h => ?_) fun _ h => ?_
    ·cbv;cases h;exact ⟨_, _, rfl, ⟨rfl, rfl, hO⟩, .e rfl .z, rfl⟩
    cbv;cases h;exact ⟨_, rfl, .e rfl (.e4 .z), rfl, hO⟩
   cbv;cases h;exact ⟨_, rfl, .e rfl (.e4 .z), rfl, hO⟩
  cbv;cases h;exact ⟨_, _, rfl, ⟨rfl, rfl, hO⟩, .z, rfl⟩
 ·exact .e rfl (.e4 .z)
 clear hx
 rcases s2 with y7 | y8
 ·rintro e l H ⟨rfl, rfl, hO⟩;cbv;cases h;exact hK hO (.refl _)
 rintro e l H ⟨rfl, rfl, hO⟩;cbv;cases h;exact hK hO (.refl _)
theorem c136 (N : Nat) : ∀ n aZ aD r, AV N n aZ aD = some r → B5 prog 136 [(Hg aZ), (AE aD)] (.tup [vi r.1, vi r.2]) := by
 intro n
 induction n with
 | zero => intro aZ aD r h; cases h
 | succ n ih =>
 intro aZ aD r h
 unfold AV at h
 refine K2 cf0 func136 call136 ntmps136 ?_;intro E H0 K hE hK hO;cbv;refine D4 hE ?_;cbv;refine A6 hE h (fun _ h => ?_) fun _ h => ?_
 ·cbv;refine A7 hE h (c181 N aZ aD) (.refl _) fun r1 h => ?_;cbv;cases h;exact hK hO (.refl _)
 cbv;refine D4 hE ?_;cbv;replace hO := hO.tl0 (t := .nil) rfl;obtain ⟨s4, hx, h⟩ := bind_some h;refine K1 cf0 hE H6 (γ := D8) (fun s2 g => [(2, .v (.eref (HL aZ) 0)), (3, .v (.eref (BW aD) 0)), (6, .v (.sl (Ar.lst (V.int .i64) s2.1) g)), (22, .v (sr eYg aD.cR)), fi 23 (Ar.len aD.cR), fi 24 s2.2]) (fun s2 g H1 => O8 g ∧ B3 Eq H0 [.tl g] H1) (fun x e l H1 => match (generalizing := false) x with | .inl y => ∃ u1 : D8, O8 u1 ∧ e = .exit 0 ∧ l = [(3, .v (.eref (BW aD) 0)), (6, .v (.sl (Ar.lst (V.int .i64) y) u1))] ∧ B3 Eq H0 [.tl u1] H1 | .inr y => ∃ u1 : D8, O8 u1 ∧ e = .ret ∧ l = [fi 4 0, fi 5 y] ∧ B3 Eq H0 [.tl u1] H1) (by kernel_rfl) ?_ .nil hx ?_ ?_ ?_
 ·rintro s2 t3 H o ⟨ht3, hO⟩ h;clear hx;cbv;refine A6 hE h (fun _ h => ?_) fun _ h => ?_
  ·cbv;refine C2 hE eYp h fun x5 h => ?_;cbv;refine A7 hE h (ih aZ x5) (.refl _) fun r6 h => ?_;cbv;refine A6 hE h (fun _ h => ?_) fun _ h => ?_
   ·cbv;cases h;exact ⟨_, _, rfl, ⟨t3, ht3, rfl, rfl, hO⟩, .e2 .z, rfl⟩
   cbv;refine V7 (f := (V.int .i64)) hE (fun _ => rfl) (by decide) hO 0 rfl ht3 (l := s2.1) (m := [r6.1]) (.refl _) (.lstc (.refl _) (.lst0)) h fun l8 t7 H hO ht7 h => ?_;cbv;cases h;exact ⟨_, t7, rfl, .e2 (.e4 .z), rfl, ht7, hO⟩
  cbv;cases h;exact ⟨_, _, rfl, ⟨t3, ht3, rfl, rfl, hO⟩, .e2 .z, rfl⟩
 ·exact .e2 (.v (.slt _ (.lst0)) (.e rfl (.e rfl (.e rfl (.z)))))
 ·exact ⟨trivial, hO⟩
 clear hx
 rcases s4 with y9 | y12
 ·rintro e l H ⟨t10, ht10, rfl, rfl, hO⟩;cbv;refine A7 hE h (c182 N aD.Op y9) (.cons (.refl _) (.cons (.ro _ _) (.refl _))) fun r11 h => ?_;cbv;refine A6 hE h (fun _ h => ?_) fun _ h => ?_
  ·cbv;cases h;exact hK hO (.refl _)
  cbv;refine A6 hE h (fun _ h => ?_) fun _ h => ?_
  ·cbv;cases h;exact hK hO (.refl _)
  cbv;cases h;exact hK hO (.refl _)
 rintro e l H ⟨t13, ht13, rfl, rfl, hO⟩;cbv;cases h;exact hK hO (.refl _)
theorem c100 (N aJ bJ aD r) (h : Iv N aJ bJ aD = some r) : B5 prog 100 [sr eYr aJ, sr eYo bJ, (AE aD)] (.tup [vi r.1, vi r.2]) := by
 unfold Iv at h
 refine K2 cf0 func100 call100 ntmps100 ?_;intro E H0 K hE hK hO;cbv;refine A7 hE h (c51 N aJ) (.refl _) fun r1 h => ?_;cbv;refine A6 hE h (fun _ h => ?_) fun _ h => ?_
 ·cbv;cases h;exact hK hO (.refl _)
 cbv;refine D4 hE ?_;cbv;refine A6 hE h (fun _ h => ?_) fun _ h => ?_
 ·cbv;cases h;exact hK hO (.refl _)
 cbv;refine D4 hE ?_;cbv;obtain ⟨s3, hx, h⟩ := bind_some h;refine F6 cf0 hE H6 (fun s2 => [(0, .v (sr eYr aJ)), (1, .v (sr eYo bJ)), (5, .v (.eref (BW aD) 0)), (20, .v (sr eYo bJ)), fi 21 (Ar.len bJ), fi 22 s2]) (fun s2 H1 => B3 Eq H0 [] H1) (fun x e l H1 => match (generalizing := false) x with | .inl y => e = .exit 0 ∧ l = [(0, .v (sr eYr aJ)), (1, .v (sr eYo bJ)), (5, .v (.eref (BW aD) 0))] ∧ B3 Eq H0 [] H1 | .inr y => e = .ret ∧ l = [fi 6 0, fi 7 6] ∧ B3 Eq H0 [] H1) (by kernel_rfl) ?_ hx ?_ hO ?_
 ·intro s2 H o hO h;clear hx;cbv;refine A6 hE h (fun _ h => ?_) fun _ h => ?_
  ·cbv;refine C2 hE eYD h fun x4 h => ?_;cbv;refine D4 hE ?_;cbv;refine A6 hE h (fun _ h => ?_) fun _ h => ?_
   ·cbv;cases h;exact ⟨_, _, rfl, ⟨rfl, rfl, hO⟩, .e2 .z, rfl⟩
   cbv;cases h;exact ⟨_, rfl, .e2 (.e4 .z), rfl, hO⟩
  cbv;cases h;exact ⟨_, _, rfl, ⟨rfl, rfl, hO⟩, .e rfl (.e2 .z), rfl⟩
 ·exact .e2 (.e4 .z)
 clear hx
 rcases s3 with y5 | y8
 ·rintro e l H ⟨rfl, rfl, hO⟩;cbv;refine A7 hE h (c135 N aD) (.refl _) fun r6 h => ?_;cbv;refine A6 hE h (fun _ h => ?_) fun _ h => ?_
  ·cbv;cases h;exact hK hO (.refl _)
  cbv;refine A7 hE h (c136 N N (⟨aJ, bJ⟩ : W5) aD) (.refl _) fun r7 h => ?_;cbv;cases h;exact hK hO (.refl _)
 rintro e l H ⟨rfl, rfl, hO⟩;cbv;cases h;exact hK hO (.refl _)
theorem c184 (N aH aP r) (h : GV N aH aP = some r) : B5 prog 184 [.int .u64 aH, .int .u64 aP] (.tup [.int .u64 r.1, .int .u64 r.2]) := by
 unfold GV at h
 refine K2 cf0 func184 call184 ntmps184 ?_;intro E H0 K hE hK hO;cbv;refine FY hE (Es hE rfl) ?_;cbv;refine FY hE (Es hE rfl) ?_;cbv;refine FY hE (Es hE rfl) ?_;cbv;refine FY hE (Es hE rfl) ?_;cbv;refine FY hE (Es hE rfl) ?_;cbv;cases h;exact hK hO (.refl _)
theorem c137 (N aH aP r) (h : KW N aH aP = some r) : B5 prog 137 [.int .u64 aH, .int .u64 aP] (.tup [.int .u64 r.1, .int .u64 r.2]) := by
 unfold KW at h
 refine K2 cf0 func137 call137 ntmps137 ?_;intro E H0 K hE hK hO;cbv;refine A7 hE h (c184 N aH aP) (.refl _) fun r1 h => ?_;cbv;cases h;exact hK hO (.refl _)
def cf101 : Cf := ⟨[], [(9, 7), (1000009, 0)], [(10, 3), (26, 6)], [], [], []⟩
theorem c101 (N aH bT r) (h : L9 N aH bT = some r) : B5 prog 101 [sr eYo aH, vi bT] (sr eYo r) := by
 unfold L9 at h
 refine S4 (T := TT) cf101 H6 func101 (by rfl) (by kernel_rfl) call101 ntmps101 (by rfl) (by rfl) ?_;intro E H0 K hE hK hF;have hO : B3 Eq H0 [] H0 := .start B7 rfl;cbv;obtain ⟨s1, hx, h⟩ := bind_some h;refine K5 cf101 hE H6 (fun e l H1 => e = .normal ∧ l = [(0, .v (sr eYo aH)), fi 1 bT] ∧ B3 Eq H0 [] H1) (by kernel_rfl) ?_ ?_
 ·clear h;have h := hx;clear hx;cbv;refine A6 hE h (fun _ h => ?_) fun _ h => ?_
  ·cbv;cases h
  cbv;cases h;exact ⟨_, ⟨rfl, rfl, hO⟩, .e2 .z, rfl⟩
 clear hx;rintro e l H ⟨rfl, rfl, hO⟩;cbv;refine D4 hE ?_;cbv;refine A7 hE h (c137 N (Ar.wr .u64 (Ar.len aH)) (Ar.wr .u64 bT)) (.refl _) fun r2 h => ?_;cbv;obtain ⟨s3, hx, h⟩ := bind_some h;refine K5 cf101 hE H6 (fun e l H1 => e = .normal ∧ l = [(0, .v (sr eYo aH)), (6, .v (.int .u64 r2.2))] ∧ B3 Eq H0 [] H1) (by kernel_rfl) ?_ ?_
 ·clear h;have h := hx;clear hx;cbv;refine A6 hE h (fun _ h => ?_) fun _ h => ?_
  ·cbv;cases h
  cbv;cases h;exact ⟨_, ⟨rfl, rfl, hO⟩, .e2 .z, rfl⟩
 clear hx;rintro e l H ⟨rfl, rfl, hO⟩;cbv;refine Ki hE (f := eYo) (by decide) (z0 := ((⟨⟨#[]⟩, 0⟩ : L4) : L4)) ((.eq (eYD _) (.refl _))) hO h fun l5 q4 H hq4 h hO => ?_;cbv;refine Vx (f := eYo) hE hO hq4 0 rfl (m := aH) (BI (f := eYo) hE Mz (.refl _)) h fun p6 H hq4 hO h => ?_;cbv;obtain ⟨s9, hx, h⟩ := bind_some h;refine K1 cf101 hE H6 (γ := OG) (fun s7 g => [(7, .v (.own g.id g.lo g.n)), fi 8 s7.1]) (fun s7 g H1 => X6 g (Ar.len s7.2) ∧ B3 Eq H0 [ob g 2 eYo s7.2] H1) (fun x e l H1 => ∃ u1 : OG, X6 u1 (Ar.len x) ∧ e = .exit 0 ∧ l = [(7, .v (.own u1.id u1.lo u1.n))] ∧ B3 Eq H0 [ob u1 2 eYo x] H1) (by kernel_rfl) ?_ q4 hx ?_ ?_ ?_
 ·rintro s7 q8 H o ⟨hq8, hO⟩ h;clear hx;cbv;refine GI hE hq8 ?_;cbv;refine A6 hE h (fun _ h => ?_) fun _ h => ?_
  ·cbv;refine Sg hE hO hq8 0 rfl h fun l11 q10 hq10 h => ?_;cbv;refine Sf hE hO hq8 0 rfl h fun l13 q12 hq12 h => ?_;cbv;refine Oy (f := eYo) hE hO hq8 0 rfl hq10 (m := l13) (hq12) h fun p14 H hq8 hO h => ?_;cbv;cases h;exact ⟨_, q8, rfl, .e2 .z, rfl, hq8, hO⟩
  cbv;cases h;exact ⟨_, _, rfl, ⟨q8, hq8, rfl, rfl, hO⟩, .e rfl .z, rfl⟩
 ·exact .e2 .z
 ·exact ⟨hq4, hO⟩
 clear hx;rintro e l H ⟨q15, hq15, rfl, rfl, hO⟩;cbv;cases h;exact hF q15 _ _ 0 _ _ hO rfl (W9 hE hq15) (.refl _)
theorem c188 (N aG r) (h : Av N aG = some r) : B5 prog 188 [sr eYc aG] (.tup [sr eYc r.1, vi r.2]) := by
 unfold Av at h
 refine K2 cf0 func188 call188 ntmps188 ?_;intro E H0 K hE hK hO;cbv;refine D4 hE ?_;cbv;refine A6 hE h (fun _ h => ?_) fun _ h => ?_
 ·cbv;cases h;exact hK hO (.tup (.cons (.lit _ (B4)) (.refl _)))
 cbv;cases h;exact hK hO (.refl _)
theorem c206 (N aC aE r) (h : DR N aC aE = some r) : B5 prog 206 [sr eYc aC, sr eYc aE] (vi r) := by
 unfold DR at h
 refine K2 cf0 func206 call206 ntmps206 ?_;intro E H0 K hE hK hO;cbv;refine A7 hE h (c94 N aC) (.refl _) fun r1 h => ?_;cbv;refine A6 hE h (fun _ h => ?_) fun _ h => ?_
 ·cbv;cases h;exact hK hO (.refl _)
 cbv;refine A7 hE h (c94 N aE) (.refl _) fun r2 h => ?_;cbv;cases h;exact hK hO (.refl _)
def cf270 : Cf := ⟨[22], [], [], [], [], []⟩
theorem c270 (N aA aI r) (h : N9 N aA aI = some r) : Ld prog 270 [.sl [] .nil, vi aI] 2 (Ar.lst eYc r) := by
 unfold N9 at h
 obtain ⟨h1, h2, hr⟩ := Hv (f := eYc) h;rw [hr];clear hr h;intro H0
 have hneg : ∀ b, Ar.k .lss aI 0 = b → b = false := fun b h => by rw [Ar.cmp_eq] at h; subst h; simp [Dn]; omega
 have hsub : Ar.ar .sub .i64 aI (Ar.ar .sub .i64 0 0) = aI := by rw [Ar.ar_eq, Ar.ar_eq]; simp only [Xf]; rw [show (0 : Int) - 0 = 0 from rfl, wrap_small 0 (by omega) (by omega), Int.sub_zero]; exact wrap_small _ (by omega) (by omega)
 have hgt : ∀ b, Ar.k .gtr (Ar.ar .sub .i64 aI (Ar.ar .sub .i64 0 0)) 0 = b → (b = false → aI = 0) := fun b h => by rw [hsub, Ar.cmp_eq] at h; subst h; simp [Dn]; omega
 have hbn : aI.toNat * 16 ≤ 140737488355328 := by have := Ga (a := aI.toNat) (b := 0) (by_ := 16) (by omega) (by decide); simpa using this
 have hl0 : (0 : Int) = (([] : List V).length : Nat) := rfl;refine BU (T := TT) cf270 H6 func270 (by rfl) (by kernel_rfl) call270 ntmps270 (by rfl) (by rfl) ?_;intro E K hE hK hN;cbv;refine Ij hE (fun hc => absurd (hneg _ hc) (by decide)) (fun hc => ?_);cbv;refine MR hE hl0 ?_;cbv;refine Ij hE (fun hc2 => ?_) (fun hc2 => ?_)
 ·cbv;refine Jn hE ?_;cbv;refine Hl hE aI hsub (.inl rfl) h1 hbn fun t m row j ht hm hrow => ?_;obtain ⟨RL, hRL, hR0⟩ : ∃ RL : Int, RL = (row.length : Nat) ∧ 0 ≤ RL := ⟨_, rfl, by omega⟩;cbv;refine MR hE hl0 ?_;cbv;refine P1 hE (A9 _ _ _) hRL 0 0 rfl rfl (Int.le_refl _) (Int.le_refl _) hR0 fun l' n' q1 q2 => ?_;cbv
  have e1 : 0 = l' := by omega
  have e2 : 0 = n' := by omega
  subst e1 e2;exact hK ⟨t, 0, 0, [], row⟩ [] _ ⟨rfl, rfl⟩ ((B3.start B7 rfl).push ht rfl)
 cbv;exact hN rfl [] H0 (.start B7 rfl)
theorem c240 (N aK r) (h : M1 N aK = some r) : B5 prog 240 [sr eYh aK] (sr eYc r) := by
 unfold M1 at h
 refine S4 (T := TT) cf0 H6 func240 (by rfl) (by kernel_rfl) call240 ntmps240 (by rfl) (by rfl) ?_;intro E H0 K hE hK hF;have hO : B3 Eq H0 [] H0 := .start B7 rfl;cbv;refine D4 hE ?_;cbv;obtain ⟨s2, hx, h⟩ := bind_some h;refine F6 cf0 hE H6 (fun s1 => [(0, .v (sr eYh aK)), fi 3 s1.1, (9, .v (sr eYh aK)), fi 10 (Ar.len aK), fi 11 s1.2]) (fun s1 H1 => B3 Eq H0 [] H1) (fun x e l H1 => e = .exit 0 ∧ l = [(0, .v (sr eYh aK)), fi 3 x] ∧ B3 Eq H0 [] H1) (by kernel_rfl) ?_ hx ?_ hO ?_
 ·intro s1 H o hO h;clear hx;cbv;refine A6 hE h (fun _ h => ?_) fun _ h => ?_
  ·cbv;refine C2 hE eYj h fun x3 h => ?_;cbv;refine D4 hE ?_;cbv;refine A6 hE h (fun _ h => ?_) fun _ h => ?_
   ·cbv;cases h
   cbv;cases h;exact ⟨_, rfl, .e rfl (.e4 .z), rfl, hO⟩
  cbv;cases h;exact ⟨_, _, rfl, ⟨rfl, rfl, hO⟩, .e2 .z, rfl⟩
 ·exact .e rfl (.e4 .z)
 clear hx;rintro e l H ⟨rfl, rfl, hO⟩;cbv;refine EF hE (f := eYc) h (c270 N [] s2) (.cons (.refl _) (.cons (.refl _) .nil)) hO fun l4 q5 H hq5 hO h => ?_;cbv;refine D4 hE ?_;cbv;obtain ⟨s8, hx, h⟩ := bind_some h;refine K1 cf0 hE H6 (γ := OG) (fun s6 g => [(6, .v (.own g.id g.lo g.n)), (25, .v (sr eYh aK)), fi 26 (Ar.len aK), fi 27 s6.1]) (fun s6 g H1 => X6 g (Ar.len s6.2) ∧ B3 Eq H0 [ob g 2 eYc s6.2] H1) (fun x e l H1 => ∃ u1 : OG, X6 u1 (Ar.len x) ∧ e = .exit 2 ∧ l = [(6, .v (.own u1.id u1.lo u1.n))] ∧ B3 Eq H0 [ob u1 2 eYc x] H1) (by kernel_rfl) ?_ q5 hx ?_ ?_ ?_
 ·rintro s6 q7 H o ⟨hq7, hO⟩ h;clear hx;cbv;refine A6 hE h (fun _ h => ?_) fun _ h => ?_
  ·cbv;refine C2 hE eYj h fun x9 h => ?_;cbv;refine DO (f := eYc) hE R0 (by decide) hO hq7 0 rfl (m := x9) (BI (f := eYc) hE R0 (.refl _)) h fun l11 q10 H hq10 hO h => ?_;cbv;cases h;exact ⟨_, q10, rfl, .e4 .z, rfl, hq10, hO⟩
  cbv;cases h;exact ⟨_, _, rfl, ⟨q7, hq7, rfl, rfl, hO⟩, .e rfl .z, rfl⟩
 ·exact .e4 .z
 ·exact ⟨hq5, hO⟩
 clear hx;rintro e l H ⟨q12, hq12, rfl, rfl, hO⟩;cbv;cases h;exact hF q12 _ _ 0 _ _ hO rfl (W9 hE hq12) (.refl _)
theorem c241 (N aA r) (h : Ci N aA = some r) : UG prog 241 aA r := Qy Go.Proofs.Tryz.laysNm189 call241 h
theorem c242 (N aA r) (h : Ba N aA = some r) : IA prog 242 [] 1 (Ar.lst (V.int .i64) aA) (Ar.lst (V.int .i64) r) := KP Go.Proofs.Tryz.laysNm220 call242 h
def cf243 : Cf := ⟨[], [(2, 12), (3, 12)], [], [], [], []⟩
theorem c243 (N aG aH r) (h : DP N aG aH = some r) : IA prog 243 [(N5 aH)] 2 (Ar.lst eYc aG) (Ar.lst eYc r) := by
 unfold DP at h
 intro H0 q0 hq0 hk0;refine BU (T := TT) (F := upd H0 q0.id none) cf243 H6 func243 (by rfl) (by kernel_rfl) call243 ntmps243 (by rfl) (by rfl) ?_;intro E K hE hK hN;have hO : B3 Eq (upd H0 q0.id none) [ob q0 2 eYc aG] H0 := B3.startO hk0;have hq0 : X6 q0 (Ar.len aG) := Vv hq0;cbv;refine GI hE hq0 ?_;cbv;refine A6 hE h (fun _ h => ?_) fun _ h => ?_
 ·cbv;refine Af hE hO hq0 0 rfl h fun h => ?_;cbv;refine Cb hE eYm hO hq0 0 rfl h fun x1 h => ?_;cbv;refine A6 hE h (fun _ h => ?_) fun _ h => ?_
  ·cbv;refine Af hE hO hq0 0 rfl h fun h => ?_;cbv;refine Cb hE eYm hO hq0 0 rfl h fun x2 h => ?_;cbv;refine Af hE hO hq0 0 rfl h fun h => ?_;cbv;refine Ae hE (f := eYc) (esz := 2) (tz := 1) (off := 1) (u := (fun x3 : A2 => { x3 with cT := Ar.mx x2.cT aH.cT })) (fun x3 => ⟨.int .i64 (Ar.mx x2.cT aH.cT), .refl _, rfl, rfl, (by rw [eYm, eYm]; rfl)⟩) (by decide) hO hq0 0 rfl h fun l4 H hq0 h hO => ?_;cbv;cases h;exact hK q0 _ _ (W9 hE hq0) (hO)
  cbv;refine DO (f := eYc) hE R0 (by decide) hO hq0 0 rfl (m := [aH]) (BI (f := eYc) hE R0 (.lstc (.eq (eYm aH) (.refl _)) (.lst0))) h fun l6 q5 H hq5 hO h => ?_;cbv;cases h;exact hK q5 _ _ (W9 hE hq5) (hO)
 cbv;refine DO (f := eYc) hE R0 (by decide) hO hq0 0 rfl (m := [aH]) (BI (f := eYc) hE R0 (.lstc (.eq (eYm aH) (.refl _)) (.lst0))) h fun l8 q7 H hq7 hO h => ?_;cbv;cases h;exact hK q7 _ _ (W9 hE hq7) (hO)
def cf207 : Cf := ⟨[6000007, 6000010], [(13, 13), (14, 12)], [], [], [], []⟩
theorem c207 (N : Nat) (aC : List A2) (aE : List A2) (bP : V) (bK : Bool → Bool → Option Bool) (cJ : ∀ y1 y2 q, bK y1 y2 = some q → Q6 prog bP [.bool y1, .bool y2] (.bool q)) (r : (List A2)) (h : Dh N aC aE bK = some r) : B5 prog 207 [sr eYc aC, sr eYc aE, bP] (sr eYc r) := by
 unfold Dh at h
 refine S4 (T := TT) cf207 H6 func207 (by rfl) (by kernel_rfl) call207 ntmps207 (by rfl) (by rfl) ?_;intro E H0 K hE hK hF;have hO : B3 Eq H0 [] H0 := .start B7 rfl;cbv;refine Kh hE (f := (V.int .i64)) hO fun q1 H hq1 hO => ?_;cbv;refine A7 hE h (c240 N ([aC, aE])) (.cons (.lit _ (C5 ((eYj aC).symm) (C5 ((eYj aE).symm) (B4)))) (.refl _)) fun r2 h => ?_;cbv;refine D4 hE ?_;cbv;obtain ⟨s5, hx, h⟩ := bind_some h;refine K1 cf207 hE H6 (γ := OG) (fun s3 g => [(0, .v (sr eYc aC)), (1, .v (sr eYc aE)), (2, .v (bP)), (7, .v (.own g.id g.lo g.n)), (15, .v (sr eYc r2)), fi 16 (Ar.len r2), fi 17 s3.1]) (fun s3 g H1 => X6 g (Ar.len s3.2) ∧ B3 Eq H0 [ob g 1 (V.int .i64) s3.2] H1) (fun x e l H1 => ∃ u1 : OG, X6 u1 (Ar.len x) ∧ e = .exit 0 ∧ l = [(0, .v (sr eYc aC)), (1, .v (sr eYc aE)), (2, .v (bP)), (7, .v (.own u1.id u1.lo u1.n))] ∧ B3 Eq H0 [ob u1 1 (V.int .i64) x] H1) (by kernel_rfl) ?_ q1 hx ?_ ?_ ?_
 ·rintro s3 q4 H o ⟨hq4, hO⟩ h;clear hx;cbv;refine A6 hE h (fun _ h => ?_) fun _ h => ?_
  ·cbv;refine C2 hE eYm h fun x6 h => ?_;cbv;refine DO (f := (V.int .i64)) hE (fun _ => rfl) (by decide) hO hq4 0 rfl (m := [x6.Low, Ar.ar .add .i64 x6.cT 1]) (BI (f := (V.int .i64)) hE (fun _ => rfl) (.lstc (.refl _) (.lstc (.refl _) (.lst0)))) h fun l8 q7 H hq7 hO h => ?_;cbv;cases h;exact ⟨_, q7, rfl, .e rfl (.e2 (.e4 .z)), rfl, hq7, hO⟩
  cbv;cases h;exact ⟨_, _, rfl, ⟨q4, hq4, rfl, rfl, hO⟩, .e4 .z, rfl⟩
 ·exact .e rfl (.e2 (.e4 .z))
 ·exact ⟨hq1, hO⟩
 clear hx;rintro e l H ⟨q9, hq9, rfl, rfl, hO⟩;cbv;refine Vy hE hO hq9 0 rfl h (c241 N s5) fun l10 H hq9 hO h => ?_;cbv;refine Hs hE (f := (V.int .i64)) hO hq9 0 rfl h (c242 N l10) (.refl _) fun l11 q12 H hq12 hO h => ?_;cbv;refine Kh hE (f := eYc) hO fun q13 H hq13 hO => ?_;cbv;obtain ⟨s16, hx, h⟩ := bind_some h;refine K1 cf207 hE H6 (γ := OG) (fun s14 g => [(0, .v (sr eYc aC)), (1, .v (sr eYc aE)), (2, .v (bP)), (7, .v (.own q12.id q12.lo q12.n)), (10, .v (.own g.id g.lo g.n)), fi 11 s14.1]) (fun s14 g H1 => X6 g (Ar.len s14.2) ∧ B3 Eq H0 [ob g 2 eYc s14.2, ob q12 1 (V.int .i64) l11] H1) (fun x e l H1 => ∃ u1 : OG, X6 u1 (Ar.len x) ∧ e = .exit 2 ∧ l = [(10, .v (.own u1.id u1.lo u1.n))] ∧ B3 Eq H0 [ob u1 2 eYc x, ob q12 1 (V.int .i64) l11] H1) (by kernel_rfl) ?_ q13 hx ?_ ?_ ?_
 ·rintro s14 q15 H o ⟨hq15, hO⟩ h;clear hx;cbv;refine GI hE hq12 ?_;cbv;refine A6 hE h (fun _ h => ?_) fun _ h => ?_
  ·cbv;refine Af hE hO hq12 1 rfl h fun h => ?_;cbv;refine Cb hE (fun _ => rfl) hO hq12 1 rfl h fun x17 h => ?_;cbv;refine M9 hE (g := fun r18 => .bool r18) h (c124 N aC x17) (.refl _) fun r18 h => ?_;cbv;refine Af hE hO hq12 1 rfl h fun h => ?_;cbv;refine Cb hE (fun _ => rfl) hO hq12 1 rfl h fun x19 h => ?_;cbv;refine M9 hE (g := fun r20 => .bool r20) h (c124 N aE x19) (.refl _) fun r20 h => ?_;cbv;refine As hE (g := fun r21 => .bool r21) h (fun r21 hx => cJ r18 r20 r21 hx) (.refl _) fun r21 h => ?_;cbv;refine A6 hE h (fun _ h => ?_) fun _ h => ?_
   ·cbv;refine Af hE hO hq12 1 rfl h fun h => ?_;cbv;refine Cb hE (fun _ => rfl) hO hq12 1 rfl h fun x22 h => ?_;cbv;refine Af hE hO hq12 1 rfl h fun h => ?_;cbv;refine Cb hE (fun _ => rfl) hO hq12 1 rfl h fun x23 h => ?_;cbv;refine Hs hE (f := eYc) hO hq15 0 rfl h (c243 N s14.2 (⟨x22, Ar.ar .sub .i64 x23 1⟩ : A2)) (.refl _) fun l24 q25 H hq25 hO h => ?_;cbv;cases h;exact ⟨_, q25, rfl, .e2 (.e4 .z), rfl, hq25, hO⟩
   cbv;cases h;exact ⟨_, q15, rfl, .e2 (.e4 .z), rfl, hq15, hO⟩
  cbv;cases h;exact ⟨_, _, rfl, ⟨q15, hq15, rfl, rfl, hO⟩, .e rfl .z, rfl⟩
 ·exact .e2 (.e4 .z)
 ·exact ⟨hq13, hO⟩
 clear hx;rintro e l H ⟨q26, hq26, rfl, rfl, hO⟩;cbv;cases h;exact hF q26 _ _ 0 _ _ hO rfl (W9 hE hq26) (.refl _)
theorem c160 (N : Nat) (aC : List A2) (aE : List A2) (bP : V) (bK : Bool → Bool → Option Bool) (cJ : ∀ y1 y2 q, bK y1 y2 = some q → Q6 prog bP [.bool y1, .bool y2] (.bool q)) (r : ((List A2) × Int)) (h : V8 N aC aE bK = some r) : B5 prog 160 [sr eYc aC, sr eYc aE, bP] (.tup [sr eYc r.1, vi r.2]) := by
 unfold V8 at h
 refine K2 cf0 func160 call160 ntmps160 ?_;intro E H0 K hE hK hO;cbv;refine A7 hE h (c206 N aC aE) (.refl _) fun r1 h => ?_;cbv;refine A6 hE h (fun _ h => ?_) fun _ h => ?_
 ·cbv;cases h;exact hK hO (.tup (.cons (.lit _ (B4)) (.refl _)))
 cbv;refine A7 hE h (c207 N aC aE bP bK cJ) (.refl _) fun r2 h => ?_;cbv;refine A7 hE h (c188 N r2) (.refl _) fun r3 h => ?_;cbv;cases h;exact hK hO (.refl _)
theorem c161 (N aH aP r) (h : T4 N aH aP = some r) : B5 prog 161 [.bool aH, .bool aP] (.bool r) := by
 unfold T4 at h
 refine K2 cf0 func161 call161 ntmps161 ?_;intro E H0 K hE hK hO;cbv;cases h;exact hK hO (.refl _)
theorem c120 (N aC aE r) (h : X1 N aC aE = some r) : B5 prog 120 [sr eYc aC, sr eYc aE] (.tup [sr eYc r.1, vi r.2]) := by
 unfold X1 at h
 refine K2 cf0 func120 call120 ntmps120 ?_;intro E H0 K hE hK hO;cbv;refine A7 hE (g := fun r1 => .tup [sr eYc r1.1, vi r1.2]) h (fun r1 hx => c160 N aC aE (.func (.func 161) [] []) (fun y1 y2 => T4 N y1 y2) (fun y1 y2 r hx => B5.value (F := []) (C := []) (c161 N y1 y2 r hx)) r1 hx) (.refl _) fun r1 h => ?_;cbv;cases h;exact hK hO (.refl _)
end Go.Ab
