/- GYCo3 -/
import Derived.Test.YtildiiggamckaaaGreatDoorT35
set_option linter.all false
namespace Go.Ab
open Go.RowKit Go.Proofs Go.Proofs.Tryz G1
variable [Ar] [G1]
set_option maxRecDepth 100000
def cf280 : Cf := ⟨[3, 6], [(1, 5)], [], [], [], [(1, 3, [10])]⟩
theorem c280 (N aA aL cB r) (h : Be N aA aL cB = some r) : B4 prog 280 [(B9 aA), vi aL, (B9 cB)] ((B9 r)) := by
 unfold Be at h
 refine J7 cf280 func280 call280 ntmps280 ?_;intro E H0 K hE hK hO;cbv;refine C8 hE hO fun b1 H hO => ?_;cbv;refine C8 hE hO fun b2 H hO => ?_;cbv;refine Jl hE hO 1 rfl fun H1 hT hW => ?_;cbv;refine CK hE trivial ?_;cbv;refine Jq hE hO 1 rfl hT fun H hO => ?_;cbv;refine A7 hE hO 1 rfl rfl fun H hO => ?_;cbv;refine B0 hE hO 1 rfl ?_;cbv;refine A7 hE hO 0 rfl rfl fun H hO => ?_;cbv;refine B0 hE hO 0 rfl ?_;cbv;cases h;exact hK _ _ _ hO (.agg (.cons (.refl _) (.cons (.lit _ (C6 ((eWs cB).symm) (B1))) (.refl _))))
def cf210 : Cf := ⟨[], [(9, 5), (11, 8)], [(8, 6)], [], [], []⟩
def SX (N n : Nat) : Prop := ∀ (aA : A4) (r : (List (B7 × A1))), I8 N n aA = some r → Cn prog 210 [(B9 aA)] (fun v => Dg prog v (r.map fun (x : (B7 × A1)) => [(E7 x.1), (A9 x.2)]))
def VH (N n : Nat) : Prop := ∀ (aA : A4) (r : (List (B7 × A1))), S8 N n aA = some r → Cn prog 245 [(B9 aA)] (fun v => Dg prog v (r.map fun (x : (B7 × A1)) => [(E7 x.1), (A9 x.2)]))
def VG (N n : Nat) : Prop := ∀ (bR : A4) (bS : A4) (r : (List (B7 × A1))), P1 N n bR bS = some r → Cn prog 246 [(B9 bR), (B9 bS)] (fun v => Dg prog v (r.map fun (x : (B7 × A1)) => [(E7 x.1), (A9 x.2)]))
def VF (N n : Nat) : Prop := ∀ (aA : A4) (r : (List (B7 × A1))), Z7 N n aA = some r → Cn prog 247 [(B9 aA)] (fun v => Dg prog v (r.map fun (x : (B7 × A1)) => [(E7 x.1), (A9 x.2)]))
def cf273 : Cf := ⟨[3, 4, 6, 1000002], [(10, 4)], [], [4], [], []⟩
def VE (N n : Nat) : Prop := ∀ (aF : A4) (r : (List (B7 × A1))), Q9 N n aF = some r → DQ prog 273 (fun yv => [yv, .eref (D1 aF) 0]) (List.map (fun (x : (B7 × A1)) => [(E7 x.1), (A9 x.2)]) r) Tw
def cf276 : Cf := ⟨[1000003], [(5, 11)], [], [], [], []⟩
def VD (N n : Nat) : Prop := ∀ (aF : A4) (aS : A4) (r : (List (B7 × A1))), Q8 N n aF aS = some r → DQ prog 276 (fun yv => [yv, .eref (D1 aF) 0, .eref (D1 aS) 0]) (List.map (fun (x : (B7 × A1)) => [(E7 x.1), (A9 x.2)]) r) Tw
def cf277 : Cf := ⟨[3, 4, 1000002], [], [(37, 13), (50, 17)], [2], [], []⟩
def VC (N n : Nat) : Prop := ∀ (aF : A4) (r : (List (B7 × A1))), V0 N n aF = some r → DQ prog 277 (fun yv => [yv, .eref (D1 aF) 0]) (List.map (fun (x : (B7 × A1)) => [(E7 x.1), (A9 x.2)]) r) Tw
theorem k210 (N n : Nat) (ih245 : VH N n) (ih246 : VG N n) (ih247 : VF N n) : SX N (n + 1) := by
 intro aA r h
 unfold I8 at h
 refine N3 cf210 G8 func210 (by rfl) (by kernel_rfl) call210 ntmps210 (by rfl) (by rfl) ?_;intro E H0 K hE hK;have hO : B2 Eq H0 [] H0 := .start B6 rfl;cbv;refine A5 hE h (fun hc h => ?_) (fun hc h => ?_)
 ·cbv;exact hK _ _ _ hO (N1 call244 (c244 N aA r h))
 cbv;obtain ⟨s1, hx, h⟩ := bind_some h;refine J6 cf210 hE G8 (fun e l H1 => e = .normal ∧ l = [(1, .v (.eref (D1 aA) 0)), (4, .v (vi aA.Op)), (8, .v (.bool s1))] ∧ B2 Eq H0 [] H1) (by kernel_rfl) ?_ ?_
 ·clear h;have h := hx;clear hx;cbv;refine A5 hE h (fun hc h => ?_) (fun hc h => ?_)
  ·cbv;cases h;exact ⟨_, ⟨rfl, rfl, hO⟩, .e rfl (.e2 .z), rfl⟩
  cbv;refine A5 hE h (fun hc h => ?_) (fun hc h => ?_)
  ·cbv;cases h;exact ⟨_, ⟨rfl, rfl, hO⟩, .e rfl (.e2 .z), rfl⟩
  cbv;cases h;exact ⟨_, ⟨rfl, rfl, hO⟩, .e rfl (.e2 .z), rfl⟩
 clear hx;rintro e l H ⟨rfl, rfl, hO⟩;cbv;refine A5 hE h (fun hc h => ?_) (fun hc h => ?_)
 ·cbv;refine P6 hE h (ih245 aA) (.refl _) fun r2 v3 hv3 h => ?_;cbv;cases h;exact hK _ _ _ hO hv3
 cbv;refine A5 hE h (fun hc h => ?_) (fun hc h => ?_)
 ·cbv;refine C2 hE eWs h fun x4 h => ?_;cbv;refine P6 hE h (ih246 x4 aA) (.refl _) fun r5 v6 hv6 h => ?_;cbv;cases h;exact hK _ _ _ hO hv6
 cbv;refine A5 hE h (fun hc h => ?_) (fun hc h => ?_)
 ·cbv;refine C2 hE eWs h fun x7 h => ?_;cbv;refine PA hE (f := eWn) R3 h fun l8 t9 h => ?_;cbv;refine P6 hE h (ih246 x7 (⟨4, l8, 0, 0, 0, 0, (⟨0, [], 0, 0, 0, (⟨0, 0, ⟨#[]⟩⟩ : O5)⟩ : G2)⟩ : A4)) (.cons (.refl _) (.cons (.agg (.cons (.refl _) (.cons (.ro _ _) (.cons (.refl _) (.cons (.refl _) (.cons (.refl _) (.cons (.refl _) (.cons (.refl _) (.cons (.lit _ (B1)) (.refl _)))))))))) (.refl _))) fun r10 v11 hv11 h => ?_;cbv;cases h;exact hK _ _ _ hO hv11
 cbv;refine P6 hE h (ih247 aA) (.refl _) fun r12 v13 hv13 h => ?_;cbv;cases h;exact hK _ _ _ hO hv13
theorem k245 (N n : Nat) (ih273 : VE N n) : VH N (n + 1) := by
 intro aA r h
 unfold S8 at h
 refine N3 cf0 G8 func245 (by rfl) (by kernel_rfl) call245 ntmps245 (by rfl) (by rfl) ?_;intro E H0 K hE hK;have hO : B2 Eq H0 [] H0 := .start B6 rfl;cbv;exact hK _ _ _ hO (N1 call273 (ih273 aA r h))
theorem k246 (N n : Nat) (ih276 : VD N n) : VG N (n + 1) := by
 intro bR bS r h
 unfold P1 at h
 refine N3 cf0 G8 func246 (by rfl) (by kernel_rfl) call246 ntmps246 (by rfl) (by rfl) ?_;intro E H0 K hE hK;have hO : B2 Eq H0 [] H0 := .start B6 rfl;cbv;exact hK _ _ _ hO (N1 call276 (ih276 bR bS r h))
theorem k247 (N n : Nat) (ih277 : VC N n) : VF N (n + 1) := by
 intro aA r h
 unfold Z7 at h
 refine N3 cf0 G8 func247 (by rfl) (by kernel_rfl) call247 ntmps247 (by rfl) (by rfl) ?_;intro E H0 K hE hK;have hO : B2 Eq H0 [] H0 := .start B6 rfl;cbv;exact hK _ _ _ hO (N1 call277 (ih277 aA r h))
theorem k273 (N n : Nat) (ih210 : SX N n) : VE N (n + 1) := by
 intro aF r h
 unfold Q9 at h
 obtain ⟨⟨w0, u0⟩, h1, hr⟩ := bind_some h;clear h;have hr := N8 hr;subst hr;have h := h1;clear h1;refine K4 cf273 G8 func273 (by rfl) (by kernel_rfl) call273 ntmps273 (by rfl) (fun _ => rfl) ?_;intro yv I D hI hD hy tl F E H K hE hO hK hKD
 have hO : B2 (I (List.map (fun (x : (B7 × A1)) => [(E7 x.1), (A9 x.2)]) (w0 ++ []) ++ tl)) F [] H := by rw [List.append_nil]; exact hO
 cbv;refine CK hE hy.1 ?_;cbv;refine D3 hE ?_;cbv;obtain ⟨w3, w4, s7, hx, h1, he⟩ := J9 h;clear h;have h := h1;clear h1
 rw [he, List.append_assoc] at hO
 clear he;refine Sd cf273 hE G8 (γ := Unit) (fun s2 g => [(1, .v (.eref (D1 aF) 0)), (2, .v (.eref [yv] 0)), (8, .v (.sl (Ar.lst eWn aF.Args) .ro)), (9, .v (vi (Ar.len aF.Args))), (10, .v (vi s2))]) (fun s2 g ds1 w H1 => B2 (I (List.map (fun (x : (B7 × A1)) => [(E7 x.1), (A9 x.2)]) w ++ tl)) F (Cy ds1) H1) (fun x e l ds1 w H1 => match (generalizing := false) x with | .inl y => e = .exit 0 ∧ l = [] ∧ B2 (I (List.map (fun (x : (B7 × A1)) => [(E7 x.1), (A9 x.2)]) w ++ tl)) F (Cy ds1) H1 | .inr y => e = .ret ∧ l = [] ∧ B2 (I (List.map (fun (x : (B7 × A1)) => [(E7 x.1), (A9 x.2)]) w ++ tl)) F (Cy ds1) H1) (fun e l ds1 H1 => (e = .ret ∧ l = [] ∧ B2 D F (Cy ds1) H1)) (by kernel_rfl) ?_ (w' := w4 ++ []) () hx rfl ?_ ?_ ?_ ?_
 ·rintro s2 _ ds1 w5 w6 H o hO h;clear hx
  skip
  cbv;refine A5 hE h (fun hc h => ?_) (fun hc h => ?_)
  ·cbv;refine C2 hE eWs h fun x8 h => ?_;cbv;refine C8 hE hO fun b9 H hO => ?_;cbv;refine C8 hE hO fun b10 H hO => ?_;cbv;refine A7 hE hO 1 rfl rfl fun H hO => ?_;cbv;refine A7 hE hO 0 rfl rfl fun H hO => ?_;cbv;refine B0 hE hO 1 rfl ?_;cbv;refine A5 hE h (fun hc h => ?_) (fun hc h => ?_)
   ·cbv;obtain ⟨hw, rfl⟩ := C4 h
    rw [← hw] at hO
    exact .inl ⟨_, _, _, rfl, ⟨rfl, rfl, hO.tail.tail⟩, .z, rfl⟩
   cbv;refine B0 hE hO 0 rfl ?_;cbv;refine P6 hE h (ih210 x8) (.refl _) fun r11 v12 hv12 h => ?_;cbv;obtain ⟨w16, w17, o20, hx, h1, he⟩ := J9 h;clear h;have h := h1;clear h1
   rw [he, List.append_assoc] at hO
   clear he;refine Jm cf273 hE G8 (ι := Nat) (σ := Unit) (R := Unit) (enc := fun (x : (B7 × A1)) => [(E7 x.1), (A9 x.2)]) (fun _ w F1 H => B2 (I (List.map (fun (x : (B7 × A1)) => [(E7 x.1), (A9 x.2)]) w ++ tl)) F1 (.blk b10 (.cells (D1 x8)) :: .blk b9 (.cells [vi s2]) :: Cy ds1) H) (fun _ e w F1 H => False) (fun e F1 H => e = .ret ∧ B2 D F1 (.blk b10 (.cells (D1 x8)) :: .blk b9 (.cells [vi s2]) :: Cy ds1) H) (fun i _ y13 => [(1, .v (.eref (D1 aF) 0)), (2, .v (.eref [yv] 0)), (3, .v (.ref b9 0)), (5, .v (.eref (Q4 y13.1) 0)), (6, .v (.ref i 0))]) (fun i _ y13 w F1 H => B2 (I (List.map (fun (x : (B7 × A1)) => [(E7 x.1), (A9 x.2)]) w ++ tl)) F1 (.blk i (.cells (F3 y13.2)) :: .blk b10 (.cells (D1 x8)) :: .blk b9 (.cells [vi s2]) :: Cy ds1) H) (fun _ _ => B2.stable (hI _) _) (fun _ _ _ => ⟨fun h => h.elim, fun _ _ h => h.elim⟩) (fun _ => C5.con (B2.stable hD _)) (fun _ _ _ _ => B2.stable (hI _) _) hv12 hx (w' := w17 ++ w6) hO (by decide) (fun _ => rfl) (by kernel_rfl) (by kernel_rfl) ?_ ?_ ?_ ?_ ?_
   ·rintro E i15 y13 _ w F14 H hE hO;clear hx h;cbv;refine C8 hE hO fun b21 H hO => ?_;cbv;refine A7 hE hO 0 rfl rfl fun H hO => ?_;cbv;exact ⟨b21, hO, .e rfl (.e4 .z), rfl⟩
   ·rintro E i15 b21 y13 _ w18 w19 F14 H o hE hF h hO;clear hx;cbv;obtain ⟨w23, w24, s22, hx, h1, he⟩ := J9 h;clear h;have h := h1;clear h1
    rw [he, List.append_assoc] at hO
    clear he;refine J6 cf273 hE G8 (fun e l H1 => (e = .normal ∧ l = [(2, .v (.eref [yv] 0)), (5, .v (.eref (Q4 y13.1) 0)), (6, .v (.ref b21 0))] ∧ B2 (I (List.map (fun (x : (B7 × A1)) => [(E7 x.1), (A9 x.2)]) (w24 ++ w19) ++ tl)) F14 (.blk b21 (.cells (F3 s22)) :: .blk b10 (.cells (D1 x8)) :: .blk b9 (.cells [vi s2]) :: Cy ds1) H1) ∨ (False)) (by kernel_rfl) ?_ ?_
    ·clear h;have h := hx;clear hx;cbv;refine A5 hE h (fun hc h => ?_) (fun hc h => ?_)
     ·cbv;refine B0 hE hO 0 rfl ?_;cbv;refine PA hE (f := eWn) R3 h fun l25 t26 h => ?_;cbv;refine A6 hE h (c274 N y13.2 l25) (.cons (.refl _) (.cons (.ro _ _) (.refl _))) fun r27 h => ?_;cbv;refine A7 hE hO 0 rfl rfl fun H hO => ?_;cbv;obtain ⟨hw, rfl⟩ := C4 h
      rw [← hw] at hO
      exact ⟨_, .inl ⟨rfl, rfl, hO⟩, .e rfl (.e2 .z), rfl⟩
     cbv;refine A5 hE h (fun hc h => ?_) (fun hc h => ?_)
     ·cbv;refine B0 hE hO 2 rfl ?_;cbv;refine B0 hE hO 0 rfl ?_;cbv;refine A6 hE h (c275 N aF.Args s2 y13.2) (.refl _) fun r28 h => ?_;cbv;refine A7 hE hO 0 rfl rfl fun H hO => ?_;cbv;obtain ⟨hw, rfl⟩ := C4 h
      rw [← hw] at hO
      exact ⟨_, .inl ⟨rfl, rfl, hO⟩, .e rfl (.e2 .z), rfl⟩
     cbv;obtain ⟨hw, rfl⟩ := C4 h
     rw [← hw] at hO
     exact ⟨_, .inl ⟨rfl, rfl, hO⟩, .e rfl (.e2 .z), rfl⟩
    clear hx;rintro e l H hX
    rcases hX with hX | hX
    ·obtain ⟨rfl, rfl, hO⟩ := hX;cbv;refine B0 hE hO 0 rfl ?_;cbv;obtain ⟨w29, h1, he⟩ := O7 h;clear h;have h := h1;clear h1
     rw [he, List.append_assoc] at hO
     clear he;have hO : B2 (I ([(E7 y13.1), (A9 s22)] :: (List.map (fun (x : (B7 × A1)) => [(E7 x.1), (A9 x.2)]) (w29 ++ w19) ++ tl))) F14 (.blk b21 (.cells (F3 s22)) :: .blk b10 (.cells (D1 x8)) :: .blk b9 (.cells [vi s2]) :: Cy ds1) _ := hO;refine As hE hI hD hy hO (.refl _) (fun H hO => ?_) (fun H hO => ?_)
     ·cbv;refine EV hE (Ar.nt_eq _) ?_;cbv;obtain ⟨hw, rfl⟩ := C4 h
      rw [← hw] at hO
      exact ⟨_, rfl, hO.tail⟩
     clear h;cbv;refine EU hE (Ar.nt_eq _) ?_;cbv
     first | exact .inr ⟨rfl, rfl, hO.tail⟩ | exact .inr (hO.tail)
    exact hX.elim
   ·rintro d30 _ H rfl hd hO;have hO : B2 (I (List.map (fun (x : (B7 × A1)) => [(E7 x.1), (A9 x.2)]) (w17 ++ w6) ++ tl)) F (.blk b10 (.cells (D1 x8)) :: .blk b9 (.cells [vi s2]) :: Cy (d30 :: ds1)) H := B2.dbs1 (A := [_, _]) (ds := ds1) (B2.dblk hd hO);clear hd hx;cbv;obtain ⟨hw, rfl⟩ := C4 h
    rw [← hw] at hO
    exact ⟨_, (), _, rfl, .e rfl (.e4 .z), rfl, hO.tail.tail⟩
   ·rintro _ _ _ _ _ _ h;exact h.elim
   rintro d30 e H hd ⟨rfl, hO⟩;have hO : B2 D F (.blk b10 (.cells (D1 x8)) :: .blk b9 (.cells [vi s2]) :: Cy (d30 :: ds1)) H := B2.dbs1 (A := [_, _]) (ds := ds1) (B2.dblk hd hO);clear hd hx h;cbv;exact .inr ⟨_, _, ⟨rfl, rfl, hO.tail.tail⟩, .z, rfl⟩
  cbv;obtain ⟨hw, rfl⟩ := C4 h
  rw [← hw] at hO
  exact .inl ⟨_, _, _, rfl, ⟨rfl, rfl, hO⟩, .z, rfl⟩
 ·exact .e rfl (.e4 .z)
 ·exact hO
 ·rintro e l ds1 H hX;clear hx
  rcases s7 with y31 | y32
  ·obtain ⟨rfl, rfl, hO⟩ := hX;cbv
   rcases ds1 with _ | ⟨d0, ds1⟩
   ·cbv;have hO : B2 _ _ [] H := hO;obtain ⟨hw, _⟩ := C4 h
    rw [← hw] at hO
    exact hK _ _ _ hO trivial
   cbv;refine Hv (A := []) (ds := d0 :: ds1) hE hO fun H hO => ?_;cbv;obtain ⟨hw, _⟩ := C4 h
   rw [← hw] at hO
   exact hK _ _ _ hO trivial
  obtain ⟨rfl, rfl, hO⟩ := hX;cbv
  rcases ds1 with _ | ⟨d0, ds1⟩
  ·cbv;have hO : B2 _ _ [] H := hO;obtain ⟨hw, _⟩ := C4 h
   rw [← hw] at hO
   exact hK _ _ _ hO trivial
  cbv;refine Hv (A := []) (ds := d0 :: ds1) hE hO fun H hO => ?_;cbv;obtain ⟨hw, _⟩ := C4 h
  rw [← hw] at hO
  exact hK _ _ _ hO trivial
 rintro e l ds1 H hX;obtain ⟨rfl, rfl, hO⟩ := hX;clear h;cbv
 rcases ds1 with _ | ⟨d0, ds1⟩
 ·cbv;have hO : B2 _ _ [] H := hO;exact hKD _ _ _ hO trivial
 cbv;refine Hv (A := []) (ds := d0 :: ds1) hE hO fun H hO => ?_;cbv;exact hKD _ _ _ hO trivial
theorem k276 (N n : Nat) (ih210 : SX N n) : VD N (n + 1) := by
 intro aF aS r h
 unfold Q8 at h
 obtain ⟨⟨w0, u0⟩, h1, hr⟩ := bind_some h;clear h;have hr := N8 hr;subst hr;have h := h1;clear h1;refine K4 cf276 G8 func276 (by rfl) (by kernel_rfl) call276 ntmps276 (by rfl) (fun _ => rfl) ?_;intro yv I D hI hD hy tl F E H K hE hO hK hKD
 have hO : B2 (I (List.map (fun (x : (B7 × A1)) => [(E7 x.1), (A9 x.2)]) (w0 ++ []) ++ tl)) F [] H := by rw [List.append_nil]; exact hO
 cbv;refine CK hE hy.1 ?_;cbv;refine P6 hE h (ih210 aF) (.refl _) fun r1 v2 hv2 h => ?_;cbv;obtain ⟨w6, w7, o10, hx, h1, he⟩ := J9 h;clear h;have h := h1;clear h1
 rw [he, List.append_assoc] at hO
 clear he;refine Jm cf276 hE G8 (ι := Unit) (σ := Unit) (R := Unit) (enc := fun (x : (B7 × A1)) => [(E7 x.1), (A9 x.2)]) (fun _ w F1 H => B2 (I (List.map (fun (x : (B7 × A1)) => [(E7 x.1), (A9 x.2)]) w ++ tl)) F1 [] H) (fun _ e w F1 H => False) (fun e F1 H => e = .ret ∧ B2 D F1 [] H) (fun i _ y3 => [(2, .v (.eref (D1 aS) 0)), (3, .v (.eref [yv] 0)), (4, .v (.eref (Q4 y3.1) 0)), (5, .v (.eref (F3 y3.2) 0))]) (fun i _ y3 w F1 H => B2 (I (List.map (fun (x : (B7 × A1)) => [(E7 x.1), (A9 x.2)]) w ++ tl)) F1 [] H) (fun _ _ => B2.stable (hI _) _) (fun _ _ _ => ⟨fun h => h.elim, fun _ _ h => h.elim⟩) (fun _ => C5.con (B2.stable hD _)) (fun _ _ _ _ => B2.stable (hI _) _) hv2 hx (w' := w7 ++ []) hO (by decide) (fun _ => rfl) (by kernel_rfl) (by kernel_rfl) ?_ ?_ ?_ ?_ ?_
 ·rintro E i5 y3 _ w F4 H hE hO;clear hx h;cbv;exact ⟨(), hO, .e4 .z, rfl⟩
 ·rintro E i5 _ y3 _ w8 w9 F4 H o hE hF h hO;clear hx;cbv;refine A5 hE h (fun hc h => ?_) (fun hc h => ?_)
  ·cbv;refine C2 hE eWs h fun x11 h => ?_;cbv;obtain ⟨w12, h1, he⟩ := O7 h;clear h;have h := h1;clear h1
   rw [he, List.append_assoc] at hO
   clear he;have hO : B2 (I ([(E7 y3.1), .agg [.bool false, vi 8, .sl (Ar.lst eWn ([y3.2.p, x11])) .ro, vi 0, vi 0, vi 0, vi 0, vi 0, .sl (Ar.lst eWp ([])) .ro, vi 0, vi 0, vi 0, vi 0, vi 0, .str (⟨#[]⟩)]] :: (List.map (fun (x : (B7 × A1)) => [(E7 x.1), (A9 x.2)]) (w12 ++ w9) ++ tl))) F4 [] _ := hO;refine As hE hI hD hy hO (.cons (.refl _) (.cons (.agg (.cons (.refl _) (.cons (.refl _) (.cons (.lit _ (C6 ((eWs y3.2.p).symm) (C6 ((eWs x11).symm) (B1)))) (.cons (.refl _) (.cons (.refl _) (.cons (.refl _) (.cons (.refl _) (.cons (.refl _) (.cons (.lit _ (B1)) (.refl _))))))))))) (.refl _))) (fun H hO => ?_) (fun H hO => ?_)
   ·cbv;refine EV hE (Ar.nt_eq _) ?_;cbv;obtain ⟨hw, rfl⟩ := C4 h
    rw [← hw] at hO
    exact ⟨_, rfl, hO⟩
   clear h;cbv;refine EU hE (Ar.nt_eq _) ?_;cbv
   first | exact .inr ⟨rfl, rfl, hO⟩ | exact .inr (hO)
  cbv;obtain ⟨w13, h1, he⟩ := O7 h;clear h;have h := h1;clear h1
  rw [he, List.append_assoc] at hO
  clear he;have hO : B2 (I ([(E7 y3.1), (A9 y3.2)] :: (List.map (fun (x : (B7 × A1)) => [(E7 x.1), (A9 x.2)]) (w13 ++ w9) ++ tl))) F4 [] _ := hO;refine As hE hI hD hy hO (.refl _) (fun H hO => ?_) (fun H hO => ?_)
  ·cbv;refine EV hE (Ar.nt_eq _) ?_;cbv;obtain ⟨w14, h1, he⟩ := O7 h;clear h;have h := h1;clear h1
   rw [he, List.append_assoc] at hO
   clear he;have hO : B2 (I ([(E7 y3.1), .agg [.bool false, vi aS.Op, .sl (Ar.lst eWn aS.Args) .ro, vi aS.Typ, vi aS.Var, vi aS.Scope, vi aS.Span, vi aS.Cond.Op, .sl (Ar.lst eWp aS.Cond.Args) .ro, vi aS.Cond.Var, vi aS.Cond.Field, vi aS.Cond.Kind, vi aS.Cond.Value.Kind, vi aS.Cond.Value.Num, .str aS.Cond.Value.Text]] :: (List.map (fun (x : (B7 × A1)) => [(E7 x.1), (A9 x.2)]) (w14 ++ w9) ++ tl))) F4 [] _ := hO;refine As hE hI hD hy hO (.refl _) (fun H hO => ?_) (fun H hO => ?_)
   ·cbv;refine EV hE (Ar.nt_eq _) ?_;cbv;obtain ⟨hw, rfl⟩ := C4 h
    rw [← hw] at hO
    exact ⟨_, rfl, hO⟩
   clear h;cbv;refine EU hE (Ar.nt_eq _) ?_;cbv
   first | exact .inr ⟨rfl, rfl, hO⟩ | exact .inr (hO)
  clear h;cbv;refine EU hE (Ar.nt_eq _) ?_;cbv
  first | exact .inr ⟨rfl, rfl, hO⟩ | exact .inr (hO)
 ·rintro d15 _ H rfl hd hO;have hO : B2 (I (List.map (fun (x : (B7 × A1)) => [(E7 x.1), (A9 x.2)]) (w7 ++ []) ++ tl)) F [.blk d15 DB] H := B2.dblk hd hO;clear hd hx;cbv;refine Ak hE hO 0 rfl fun H hO => ?_;cbv;obtain ⟨hw, _⟩ := C4 h
  rw [← hw] at hO
  exact hK _ _ _ hO trivial
 ·rintro _ _ _ _ _ _ h;exact h.elim
 rintro d15 e H hd ⟨rfl, hO⟩;have hO : B2 D F [.blk d15 DB] H := B2.dblk hd hO;clear hd hx h;cbv;refine Ak hE hO 0 rfl fun H hO => ?_;cbv;exact hKD _ _ _ hO trivial
theorem k277 (N n : Nat) (ih210 : SX N n) : VC N (n + 1) := by
 intro aF r h
 unfold V0 at h
 obtain ⟨⟨w0, u0⟩, h1, hr⟩ := bind_some h;clear h;have hr := N8 hr;subst hr;have h := h1;clear h1;refine K4 cf277 G8 func277 (by rfl) (by kernel_rfl) call277 ntmps277 (by rfl) (fun _ => rfl) ?_;intro yv I D hI hD hy tl F E H K hE hO hK hKD
 have hO : B2 (I (List.map (fun (x : (B7 × A1)) => [(E7 x.1), (A9 x.2)]) (w0 ++ []) ++ tl)) F [] H := by rw [List.append_nil]; exact hO
 cbv;refine CK hE hy.1 ?_;cbv;refine C2 hE eWs h fun x1 h => ?_;cbv;refine P6 hE h (ih210 x1) (.refl _) fun r2 v3 hv3 h => ?_;cbv;obtain ⟨w7, w8, o11, hx, h1, he⟩ := J9 h;clear h;have h := h1;clear h1
 rw [he, List.append_assoc] at hO
 clear he;refine Jm cf277 hE G8 (ι := Nat × Nat) (σ := Unit) (R := Unit) (enc := fun (x : (B7 × A1)) => [(E7 x.1), (A9 x.2)]) (fun _ w F1 H => B2 (I (List.map (fun (x : (B7 × A1)) => [(E7 x.1), (A9 x.2)]) w ++ tl)) F1 [] H) (fun _ e w F1 H => False) (fun e F1 H => e = .ret ∧ B2 D F1 [] H) (fun i _ y4 => [(1, .v (.eref (D1 aF) 0)), (2, .v (.eref [yv] 0)), (3, .v (.ref i.2 0)), (4, .v (.ref i.1 0))]) (fun i _ y4 w F1 H => B2 (I (List.map (fun (x : (B7 × A1)) => [(E7 x.1), (A9 x.2)]) w ++ tl)) F1 [.blk i.1 (.cells (F3 y4.2)), .blk i.2 (.cells (Q4 y4.1))] H) (fun _ _ => B2.stable (hI _) _) (fun _ _ _ => ⟨fun h => h.elim, fun _ _ h => h.elim⟩) (fun _ => C5.con (B2.stable hD _)) (fun _ _ _ _ => B2.stable (hI _) _) hv3 hx (w' := w8 ++ []) hO (by decide) (fun _ => rfl) (by kernel_rfl) (by kernel_rfl) ?_ ?_ ?_ ?_ ?_
 ·rintro E i6 y4 _ w F5 H hE hO;clear hx h;cbv;refine C8 hE hO fun b12 H hO => ?_;cbv;refine A7 hE hO 0 rfl rfl fun H hO => ?_;cbv;refine C8 hE hO fun b13 H hO => ?_;cbv;refine A7 hE hO 0 rfl rfl fun H hO => ?_;cbv;exact ⟨⟨b13, b12⟩, hO, .e4 .z, rfl⟩
 ·rintro E i6 ⟨b13, b12⟩ y4 _ w9 w10 F5 H o hE hF h hO;clear hx;cbv;obtain ⟨w15, w16, s14, hx, h1, he⟩ := J9 h;clear h;have h := h1;clear h1
  rw [he, List.append_assoc] at hO
  clear he;refine J6 cf277 hE G8 (fun e l H1 => (e = .normal ∧ l = [(1, .v (.eref (D1 aF) 0)), (2, .v (.eref [yv] 0)), (3, .v (.ref b12 0)), (4, .v (.ref b13 0)), (5, .v (vi s14.1))] ∧ B2 (I (List.map (fun (x : (B7 × A1)) => [(E7 x.1), (A9 x.2)]) (w16 ++ w10) ++ tl)) F5 [.blk b13 (.cells (F3 y4.2)), .blk b12 (.cells (Q4 s14.2))] H1) ∨ (False)) (by kernel_rfl) ?_ ?_
  ·clear h;have h := hx;clear hx;cbv;refine A5 hE h (fun hc h => ?_) (fun hc h => ?_)
   ·cbv;refine B0 hE hO 0 rfl ?_;cbv;refine A5 hE h (fun hc h => ?_) (fun hc h => ?_)
    ·cbv;refine B0 hE hO 1 rfl ?_;cbv;refine A6 hE h (c278 N ([y4.1.Checks, [aF.Cond]])) (.cons (.sl _ (.lstc (.eq (eWR y4.1.Checks) (.refl _)) (.lstc (.eq (eWR ([aF.Cond])) (.lit _ (C6 ((eWz aF.Cond).symm) (B1)))) (.lst0)))) (.refl _)) fun r17 h => ?_;cbv;refine A7 hE hO 1 rfl rfl fun H hO => ?_;cbv;obtain ⟨hw, rfl⟩ := C4 h
     rw [← hw] at hO
     exact ⟨_, .inl ⟨rfl, rfl, hO⟩, .e rfl (.e4 .z), rfl⟩
    cbv;obtain ⟨hw, rfl⟩ := C4 h
    rw [← hw] at hO
    exact ⟨_, .inl ⟨rfl, rfl, hO⟩, .e rfl (.e4 .z), rfl⟩
   cbv;obtain ⟨w19, w20, s18, hx, h1, he⟩ := J9 h;clear h;have h := h1;clear h1
   rw [he, List.append_assoc] at hO
   clear he;refine J6 cf277 hE G8 (fun e l H1 => (e = .normal ∧ l = [(1, .v (.eref (D1 aF) 0)), (2, .v (.eref [yv] 0)), (3, .v (.ref b12 0)), (4, .v (.ref b13 0)), (37, .v (.bool s18))] ∧ B2 (I (List.map (fun (x : (B7 × A1)) => [(E7 x.1), (A9 x.2)]) (w20 ++ (w16 ++ w10)) ++ tl)) F5 [.blk b13 (.cells (F3 y4.2)), .blk b12 (.cells (Q4 y4.1))] H1) ∨ (False)) (by kernel_rfl) ?_ ?_
   ·clear h;have h := hx;clear hx;cbv;refine A5 hE h (fun hc h => ?_) (fun hc h => ?_)
    ·cbv;obtain ⟨hw, rfl⟩ := C4 h
     rw [← hw] at hO
     exact ⟨_, .inl ⟨rfl, rfl, hO⟩, .e rfl (.e4 .z), rfl⟩
    cbv;obtain ⟨hw, rfl⟩ := C4 h
    rw [← hw] at hO
    exact ⟨_, .inl ⟨rfl, rfl, hO⟩, .e rfl (.e4 .z), rfl⟩
   clear hx;rintro e l H hX
   rcases hX with hX | hX
   ·obtain ⟨rfl, rfl, hO⟩ := hX;cbv;refine A5 hE h (fun hc h => ?_) (fun hc h => ?_)
    ·cbv;refine B0 hE hO 1 rfl ?_;cbv;refine B0 hE hO 0 rfl ?_;cbv;refine A6 hE h (c279 N aF y4.1 y4.2.done (Ar.cmp .eql aF.Op 5)) (.refl _) fun r21 h => ?_;cbv;refine A7 hE hO 1 rfl rfl fun H hO => ?_;cbv;obtain ⟨hw, rfl⟩ := C4 h
     rw [← hw] at hO
     exact ⟨_, .inl ⟨rfl, rfl, hO⟩, .e rfl (.e4 .z), rfl⟩
    cbv;refine B0 hE hO 1 rfl ?_;cbv;refine B0 hE hO 0 rfl ?_;cbv;refine A6 hE h (c279 N aF y4.1 y4.2.done (Ar.cmp .eql aF.Op 6)) (.refl _) fun r22 h => ?_;cbv;refine A7 hE hO 1 rfl rfl fun H hO => ?_;cbv;obtain ⟨hw, rfl⟩ := C4 h
    rw [← hw] at hO
    exact ⟨_, .inl ⟨rfl, rfl, hO⟩, .e rfl (.e4 .z), rfl⟩
   exact hX.elim
  clear hx;rintro e l H hX
  rcases hX with hX | hX
  ·obtain ⟨rfl, rfl, hO⟩ := hX;cbv;refine B0 hE hO 0 rfl ?_;cbv;obtain ⟨w24, w25, s23, hx, h1, he⟩ := J9 h;clear h;have h := h1;clear h1
   rw [he, List.append_assoc] at hO
   clear he;refine J6 cf277 hE G8 (fun e l H1 => (e = .normal ∧ l = [(2, .v (.eref [yv] 0)), (3, .v (.ref b12 0)), (4, .v (.ref b13 0))] ∧ B2 (I (List.map (fun (x : (B7 × A1)) => [(E7 x.1), (A9 x.2)]) (w25 ++ w10) ++ tl)) F5 [.blk b13 (.cells (F3 s23)), .blk b12 (.cells (Q4 s14.2))] H1) ∨ (False)) (by kernel_rfl) ?_ ?_
   ·clear h;have h := hx;clear hx;cbv;refine A5 hE h (fun hc h => ?_) (fun hc h => ?_)
    ·cbv;refine B0 hE hO 0 rfl ?_;cbv;refine A6 hE h (c280 N aF s14.1 y4.2.p) (.refl _) fun r26 h => ?_;cbv;refine A7 hE hO 0 rfl rfl fun H hO => ?_;cbv;obtain ⟨hw, rfl⟩ := C4 h
     rw [← hw] at hO
     exact ⟨_, .inl ⟨rfl, rfl, hO⟩, .e rfl (.e2 .z), rfl⟩
    cbv;obtain ⟨hw, rfl⟩ := C4 h
    rw [← hw] at hO
    exact ⟨_, .inl ⟨rfl, rfl, hO⟩, .e rfl (.e2 .z), rfl⟩
   clear hx;rintro e l H hX
   rcases hX with hX | hX
   ·obtain ⟨rfl, rfl, hO⟩ := hX;cbv;refine B0 hE hO 1 rfl ?_;cbv;refine B0 hE hO 0 rfl ?_;cbv;obtain ⟨w27, h1, he⟩ := O7 h;clear h;have h := h1;clear h1
    rw [he, List.append_assoc] at hO
    clear he;have hO : B2 (I ([(E7 s14.2), (A9 s23)] :: (List.map (fun (x : (B7 × A1)) => [(E7 x.1), (A9 x.2)]) (w27 ++ w10) ++ tl))) F5 [.blk b13 (.cells (F3 s23)), .blk b12 (.cells (Q4 s14.2))] _ := hO;refine As hE hI hD hy hO (.refl _) (fun H hO => ?_) (fun H hO => ?_)
    ·cbv;refine EV hE (Ar.nt_eq _) ?_;cbv;obtain ⟨hw, rfl⟩ := C4 h
     rw [← hw] at hO
     exact ⟨_, rfl, hO.tail.tail⟩
    clear h;cbv;refine EU hE (Ar.nt_eq _) ?_;cbv
    first | exact .inr ⟨rfl, rfl, hO.tail.tail⟩ | exact .inr (hO.tail.tail)
   exact hX.elim
  exact hX.elim
 ·rintro d28 _ H rfl hd hO;have hO : B2 (I (List.map (fun (x : (B7 × A1)) => [(E7 x.1), (A9 x.2)]) (w8 ++ []) ++ tl)) F [.blk d28 DB] H := B2.dblk hd hO;clear hd hx;cbv;refine Ak hE hO 0 rfl fun H hO => ?_;cbv;obtain ⟨hw, _⟩ := C4 h
  rw [← hw] at hO
  exact hK _ _ _ hO trivial
 ·rintro _ _ _ _ _ _ h;exact h.elim
 rintro d28 e H hd ⟨rfl, hO⟩;have hO : B2 D F [.blk d28 DB] H := B2.dblk hd hO;clear hd hx h;cbv;refine Ak hE hO 0 rfl fun H hO => ?_;cbv;exact hKD _ _ _ hO trivial
theorem BZ (N : Nat) : ∀ n, SX N n ∧ VH N n ∧ VG N n ∧ VF N n ∧ VE N n ∧ VD N n ∧ VC N n := by
 intro n
 induction n with
 | zero => exact ⟨(by intro aA r h; unfold I8 at h; cases h), (by intro aA r h; unfold S8 at h; cases h), (by intro bR bS r h; unfold P1 at h; cases h), (by intro aA r h; unfold Z7 at h; cases h), (by intro aF r h; unfold Q9 at h; cases h), (by intro aF aS r h; unfold Q8 at h; cases h), (by intro aF r h; unfold V0 at h; cases h)⟩
 | succ n ih =>
  obtain ⟨ih210, ih245, ih246, ih247, ih273, ih276, ih277⟩ := ih;exact ⟨k210 N n ih245 ih246 ih247, k245 N n ih273, k246 N n ih276, k247 N n ih277, k273 N n ih210, k276 N n ih210, k277 N n ih210⟩
theorem c210 (N n aA r) (h : I8 N n aA = some r) : Cn prog 210 [(B9 aA)] (fun v => Dg prog v (r.map fun (x : (B7 × A1)) => [(E7 x.1), (A9 x.2)])) := (BZ N n).1 aA r h
theorem c248 (N : Nat) (aB : List B7) (aW : V) (aO : B7 → Option Bool) (bC : ∀ y1 q, aO y1 = some q → Q6 prog aW [(E7 y1)] (.bool q)) (r : Int) (h : P4 N aB aO = some r) : B4 prog 248 [.sl (Ar.lst eWo aB) .ro, aW] (vi r) := by
 unfold P4 at h
 refine J7 cf0 func248 call248 ntmps248 ?_;intro E H0 K hE hK hO;cbv;refine D3 hE ?_;cbv;obtain ⟨s2, hx, h⟩ := bind_some h;refine F2 cf0 hE G8 (fun s1 => [(0, .v (.sl (Ar.lst eWo aB) .ro)), (1, .v (aW)), (7, .v (vi (Ar.len aB))), (8, .v (vi s1))]) (fun s1 H1 => B2 Eq H0 [] H1) (fun x e l H1 => match (generalizing := false) x with | .inl y => e = .exit 0 ∧ l = [] ∧ B2 Eq H0 [] H1 | .inr y => e = .ret ∧ l = [(4, .v (vi y))] ∧ B2 Eq H0 [] H1) (by kernel_rfl) ?_ hx ?_ hO ?_
 ·intro s1 H o hO h;clear hx;cbv;refine A5 hE h (fun hc h => ?_) (fun hc h => ?_)
  ·cbv;refine C2 hE eWC h fun x3 h => ?_;cbv;refine Av hE (g := fun r4 => .bool r4) h (fun r4 hx => bC x3 r4 hx) (.refl _) fun r4 h => ?_;cbv;refine A5 hE h (fun hc h => ?_) (fun hc h => ?_)
   ·cbv;cases h;exact ⟨_, _, rfl, ⟨rfl, rfl, hO⟩, .e rfl .z, rfl⟩
   cbv;cases h;exact ⟨_, rfl, .e4 .z, rfl, hO⟩
  cbv;cases h;exact ⟨_, _, rfl, ⟨rfl, rfl, hO⟩, .z, rfl⟩
 ·exact .e4 .z
 clear hx
 rcases s2 with y5 | y6
 ·rintro e l H ⟨rfl, rfl, hO⟩;cbv;cases h;exact hK _ _ _ hO (.refl _)
 rintro e l H ⟨rfl, rfl, hO⟩;cbv;cases h;exact hK _ _ _ hO (.refl _)
theorem c211 (N : Nat) (aB : List B7) (aW : V) (aO : B7 → Option Bool) (bC : ∀ y1 q, aO y1 = some q → Q6 prog aW [(E7 y1)] (.bool q)) (r : Bool) (h : I7 N aB aO = some r) : B4 prog 211 [.sl (Ar.lst eWo aB) .ro, aW] (.bool r) := by
 unfold I7 at h
 refine J7 cf0 func211 call211 ntmps211 ?_;intro E H0 K hE hK hO;cbv;refine A6 hE h (c248 N aB aW aO bC) (.refl _) fun r1 h => ?_;cbv;cases h;exact hK _ _ _ hO (.refl _)
def cf250 : Cf := ⟨[], [(6, 8)], [], [], [], []⟩
theorem c250 (N aT aU r) (h : M2 N aT aU = some r) : B4 prog 250 [.sl (Ar.lst (V.int .i64) aT) .ro, .sl (Ar.lst (V.int .i64) aU) .ro] (.bool r) := by
 unfold M2 at h
 refine J7 cf250 func250 call250 ntmps250 ?_;intro E H0 K hE hK hO;cbv;refine D3 hE ?_;cbv;refine D3 hE ?_;cbv;refine A5 hE h (fun hc h => ?_) (fun hc h => ?_)
 ·cbv;cases h;exact hK _ _ _ hO (.refl _)
 cbv;refine D3 hE ?_;cbv;obtain ⟨s2, hx, h⟩ := bind_some h;refine F2 cf250 hE G8 (fun s1 => [(0, .v (.sl (Ar.lst (V.int .i64) aT) .ro)), (1, .v (.sl (Ar.lst (V.int .i64) aU) .ro)), (12, .v (vi (Ar.len aT))), (13, .v (vi s1))]) (fun s1 H1 => B2 Eq H0 [] H1) (fun x e l H1 => match (generalizing := false) x with | .inl y => e = .exit 0 ∧ l = [] ∧ B2 Eq H0 [] H1 | .inr y => e = .ret ∧ l = [(4, .b false)] ∧ B2 Eq H0 [] H1) (by kernel_rfl) ?_ hx ?_ hO ?_
 ·intro s1 H o hO h;clear hx;cbv;refine A5 hE h (fun hc h => ?_) (fun hc h => ?_)
  ·cbv;refine C2 hE (fun _ => rfl) h fun x3 h => ?_;cbv;refine C2 hE (fun _ => rfl) h fun x4 h => ?_;cbv;refine A5 hE h (fun hc h => ?_) (fun hc h => ?_)
   ·cbv;cases h;exact ⟨_, _, rfl, ⟨rfl, rfl, hO⟩, .b rfl (.z), rfl⟩
   cbv;cases h;exact ⟨_, rfl, .e4 .z, rfl, hO⟩
  cbv;cases h;exact ⟨_, _, rfl, ⟨rfl, rfl, hO⟩, .z, rfl⟩
 ·exact .e4 .z
 clear hx
 rcases s2 with y5 | y6
 ·rintro e l H ⟨rfl, rfl, hO⟩;cbv;cases h;exact hK _ _ _ hO (.refl _)
 rintro e l H ⟨rfl, rfl, hO⟩;cbv;cases h;exact hK _ _ _ hO (.refl _)
def cf251 : Cf := ⟨[8], [], [], [], [], []⟩
theorem c251 (N : Nat) (aT : List G2) (aU : List G2) (bV : V) (bM : G2 → G2 → Option Bool) (cI : ∀ y1 y2 q, bM y1 y2 = some q → Q6 prog bV [(Aa y1), (Aa y2)] (.bool q)) (r : Bool) (h : I1 N aT aU bM = some r) : B4 prog 251 [.sl (Ar.lst eWp aT) .ro, .sl (Ar.lst eWp aU) .ro, bV] (.bool r) := by
 unfold I1 at h
 refine J7 cf251 func251 call251 ntmps251 ?_;intro E H0 K hE hK hO;cbv;refine D3 hE ?_;cbv;refine D3 hE ?_;cbv;refine A5 hE h (fun hc h => ?_) (fun hc h => ?_)
 ·cbv;cases h;exact hK _ _ _ hO (.refl _)
 cbv;refine D3 hE ?_;cbv;obtain ⟨s2, hx, h⟩ := bind_some h;refine F2 cf251 hE G8 (fun s1 => [(1, .v (.sl (Ar.lst eWp aU) .ro)), (2, .v (bV)), (15, .v (.sl (Ar.lst eWp aT) .ro)), (16, .v (vi (Ar.len aT))), (17, .v (vi s1))]) (fun s1 H1 => B2 Eq H0 [] H1) (fun x e l H1 => match (generalizing := false) x with | .inl y => e = .exit 0 ∧ l = [] ∧ B2 Eq H0 [] H1 | .inr y => e = .ret ∧ l = [(6, .b false)] ∧ B2 Eq H0 [] H1) (by kernel_rfl) ?_ hx ?_ hO ?_
 ·intro s1 H o hO h;clear hx;cbv;refine A5 hE h (fun hc h => ?_) (fun hc h => ?_)
  ·cbv;refine C2 hE eWz h fun x3 h => ?_;cbv;refine C8 hE hO fun b4 H hO => ?_;cbv;refine A7 hE hO 0 rfl rfl fun H hO => ?_;cbv;refine C2 hE eWz h fun x5 h => ?_;cbv;refine B0 hE hO 0 rfl ?_;cbv;refine Av hE (g := fun r6 => .bool r6) h (fun r6 hx => cI x3 x5 r6 hx) (.refl _) fun r6 h => ?_;cbv;refine A5 hE h (fun hc h => ?_) (fun hc h => ?_)
   ·cbv;cases h;exact ⟨_, _, rfl, ⟨rfl, rfl, hO.tail⟩, .b rfl (.z), rfl⟩
   cbv;cases h;exact ⟨_, rfl, .e rfl (.e4 .z), rfl, hO.tail⟩
  cbv;cases h;exact ⟨_, _, rfl, ⟨rfl, rfl, hO⟩, .z, rfl⟩
 ·exact .e rfl (.e4 .z)
 clear hx
 rcases s2 with y7 | y8
 ·rintro e l H ⟨rfl, rfl, hO⟩;cbv;cases h;exact hK _ _ _ hO (.refl _)
 rintro e l H ⟨rfl, rfl, hO⟩;cbv;cases h;exact hK _ _ _ hO (.refl _)
def cf252 : Cf := ⟨[], [(6, 8)], [], [], [], []⟩
theorem c252 (N aT aU r) (h : R0 N aT aU = some r) : B4 prog 252 [.sl (Ar.lst eWx aT) .ro, .sl (Ar.lst eWx aU) .ro] (.bool r) := by
 unfold R0 at h
 refine J7 cf252 func252 call252 ntmps252 ?_;intro E H0 K hE hK hO;cbv;refine D3 hE ?_;cbv;refine D3 hE ?_;cbv;refine A5 hE h (fun hc h => ?_) (fun hc h => ?_)
 ·cbv;cases h;exact hK _ _ _ hO (.refl _)
 cbv;refine D3 hE ?_;cbv;obtain ⟨s2, hx, h⟩ := bind_some h;refine F2 cf252 hE G8 (fun s1 => [(0, .v (.sl (Ar.lst eWx aT) .ro)), (1, .v (.sl (Ar.lst eWx aU) .ro)), (12, .v (vi (Ar.len aT))), (13, .v (vi s1))]) (fun s1 H1 => B2 Eq H0 [] H1) (fun x e l H1 => match (generalizing := false) x with | .inl y => e = .exit 0 ∧ l = [] ∧ B2 Eq H0 [] H1 | .inr y => e = .ret ∧ l = [(4, .b false)] ∧ B2 Eq H0 [] H1) (by kernel_rfl) ?_ hx ?_ hO ?_
 ·intro s1 H o hO h;clear hx;cbv;refine A5 hE h (fun hc h => ?_) (fun hc h => ?_)
  ·cbv;refine C2 hE eWP h fun x3 h => ?_;cbv;refine C2 hE eWP h fun x4 h => ?_;cbv;refine A5 hE h (fun hc h => ?_) (fun hc h => ?_)
   ·cbv;cases h;exact ⟨_, _, rfl, ⟨rfl, rfl, hO⟩, .b rfl (.z), rfl⟩
   cbv;cases h;exact ⟨_, rfl, .e4 .z, rfl, hO⟩
  cbv;cases h;exact ⟨_, _, rfl, ⟨rfl, rfl, hO⟩, .z, rfl⟩
 ·exact .e4 .z
 clear hx
 rcases s2 with y5 | y6
 ·rintro e l H ⟨rfl, rfl, hO⟩;cbv;cases h;exact hK _ _ _ hO (.refl _)
 rintro e l H ⟨rfl, rfl, hO⟩;cbv;cases h;exact hK _ _ _ hO (.refl _)
theorem c213 (N aC aE r) (h : Ae N aC aE = some r) : B4 prog 213 [(E7 aC), (E7 aE)] (.bool r) := by
 unfold Ae at h
 refine J7 cf0 func213 call213 ntmps213 ?_;intro E H0 K hE hK hO;cbv;refine A5 hE h (fun hc h => ?_) (fun hc h => ?_)
 ·cbv;refine A6 hE h (c249 N N aC.Cond aE.Cond) (.refl _) fun r1 h => ?_;cbv;refine A5 hE h (fun hc h => ?_) (fun hc h => ?_)
  ·cbv;refine A6 hE h (c250 N aC.Opens aE.Opens) (.refl _) fun r2 h => ?_;cbv;refine A5 hE h (fun hc h => ?_) (fun hc h => ?_)
   ·cbv;refine A6 hE h (c250 N aC.Closes aE.Closes) (.refl _) fun r3 h => ?_;cbv;refine A5 hE h (fun hc h => ?_) (fun hc h => ?_)
    ·cbv;refine A6 hE (g := fun r4 => .bool r4) h (fun r4 hx => c251 N aC.Checks aE.Checks (.func (.func 249) [] []) (fun y1 y2 => AN N N y1 y2) (fun y1 y2 r hx => B4.value (F := []) (C := []) (c249 N N y1 y2 r hx)) r4 hx) (.refl _) fun r4 h => ?_;cbv;refine A5 hE h (fun hc h => ?_) (fun hc h => ?_)
     ·cbv;refine A6 hE h (c252 N aC.Limits aE.Limits) (.refl _) fun r5 h => ?_;cbv;refine A5 hE h (fun hc h => ?_) (fun hc h => ?_)
      ·cbv;refine A6 hE h (c250 N aC.Inside aE.Inside) (.refl _) fun r6 h => ?_;cbv;cases h;exact hK _ _ _ hO (.refl _)
      cbv;cases h;exact hK _ _ _ hO (.refl _)
     cbv;cases h;exact hK _ _ _ hO (.refl _)
    cbv;cases h;exact hK _ _ _ hO (.refl _)
   cbv;cases h;exact hK _ _ _ hO (.refl _)
  cbv;cases h;exact hK _ _ _ hO (.refl _)
 cbv;cases h;exact hK _ _ _ hO (.refl _)
theorem c212 (N aM aF r) (h : K1 N aM aF = some r) : B4 prog 212 [(E7 aM), .eref (Q4 aF) 0] (.bool r) := by
 unfold K1 at h
 refine J7 cf0 func212 call212 ntmps212 ?_;intro E H0 K hE hK hO;cbv;refine A5 hE h (fun hc h => ?_) (fun hc h => ?_)
 ·cbv;refine A6 hE h (c213 N aF aM) (.refl _) fun r1 h => ?_;cbv;cases h;exact hK _ _ _ hO (.refl _)
 cbv;cases h;exact hK _ _ _ hO (.refl _)
def cf170 : Cf := ⟨[2, 3, 4, 5, 6, 7], [(13, 5), (18, 3)], [(16, 9)], [1000013], [(40, 7)], [(18, 2, [2])]⟩
theorem c170 (N aA r) (h : AF N aA = some r) : B4 prog 170 [(B9 aA)] (.tup [.sl (Ar.lst eWo r.1) .ro, .sl (Ar.lst eWn r.2.1) .ro, vi r.2.2]) := by
 unfold AF at h
 refine J7 cf170 func170 call170 ntmps170 ?_;intro E H0 K hE hK hO;cbv;refine C8 hE hO fun b1 H hO => ?_;cbv;refine C8 hE hO fun b2 H hO => ?_;cbv;refine C8 hE hO fun b3 H hO => ?_;cbv;refine C8 hE hO fun b4 H hO => ?_;cbv;refine C8 hE hO fun b5 H hO => ?_;cbv;refine P6 hE h (c210 N N aA) (.refl _) fun r6 v7 hv7 h => ?_;cbv;replace hO := hO.tl0 (t := .nil) rfl;replace hO := hO.tl0 (t := .nil) rfl;obtain ⟨o14, hx, h⟩ := bind_some h;replace hO := hO.cast (L' := [.tl .nil, .tl .nil, .blk b5 (.cells [.sl (Ar.lst eWn ([])) .nil]), .blk b4 (.cells [.sl (Ar.lst eWo ([])) .nil]), .blk b3 (.cells [vi 0]), .blk b2 (.cells [.sl [] .nil]), .blk b1 (.cells [.sl [] .nil])]) (by first | (simp only [← B1]; done) | (simp only [← B1]; rfl));refine Au cf170 hE G8 (ι := Nat) (enc := fun (x : (B7 × A1)) => [(E7 x.1), (A9 x.2)]) (fun (s9 : (List A4) × (List B7)) F H => ∃ g : D4 × D4, (O6 g.1 ∧ O6 g.2) ∧ B2 Eq F [.tl g.1, .tl g.2, .blk b5 (.cells [.sl (Ar.lst eWn s9.1) g.2]), .blk b4 (.cells [.sl (Ar.lst eWo s9.2) g.1]), .blk b3 (.cells [vi 0]), .blk b2 (.cells [.sl [] .nil]), .blk b1 (.cells [.sl [] .nil])] H) (fun (r : ((List A4) × (List B7) × Int)) e F H => ∃ g : D4 × D4, (e = .ret ∧ O6 g.1 ∧ O6 g.2) ∧ B2 Eq F [.tl g.1, .tl g.2, .blk b5 (.cells [.sl (Ar.lst eWn r.1) g.2]), .blk b4 (.cells [.sl (Ar.lst eWo r.2.1) g.1]), .blk b3 (.cells [vi r.2.2]), .blk b2 (.cells [.sl [] .nil]), .blk b1 (.cells [.sl [] .nil])] H) (fun i s9 y8 => [(2, .v (.ref b1 0)), (3, .v (.ref b2 0)), (4, .v (.ref b3 0)), (5, .v (.ref b4 0)), (6, .v (.ref b5 0)), (7, .v (.ref i 0)), (8, .v (.eref (F3 y8.2) 0))]) (fun i s9 y8 F H => ∃ g : D4 × D4, (O6 g.1 ∧ O6 g.2) ∧ B2 Eq F [.blk i (.cells (Q4 y8.1)), .tl g.1, .tl g.2, .blk b5 (.cells [.sl (Ar.lst eWn s9.1) g.2]), .blk b4 (.cells [.sl (Ar.lst eWo s9.2) g.1]), .blk b3 (.cells [vi 0]), .blk b2 (.cells [.sl [] .nil]), .blk b1 (.cells [.sl [] .nil])] H) (fun _ => C5.ex fun _ => B2.stable B6 _) (fun _ _ => C5.ex fun _ => B2.stable B6 _) (fun _ _ _ => C5.ex fun _ => B2.stable B6 _) hv7 hx (⟨⟨.nil, .nil⟩, ⟨trivial, trivial⟩, hO⟩) (by decide) (fun _ => rfl) (by kernel_rfl) (by kernel_rfl) ?_ ?_ ?_ ?_
 ·rintro E i11 y8 s9 F10 H hE ⟨⟨t12, t13⟩, ⟨ht12, ht13⟩, hO⟩;clear hx h;cbv;refine C8 hE hO fun b15 H hO => ?_;cbv;refine A7 hE hO 0 rfl rfl fun H hO => ?_;cbv;exact ⟨b15, ⟨⟨t12, t13⟩, ⟨ht12, ht13⟩, hO⟩, .e rfl (.e2 (.e4 .z)), rfl⟩
 ·rintro E i11 b15 y8 s9 F10 H o hE hF h ⟨⟨t12, t13⟩, ⟨ht12, ht13⟩, hO⟩;clear hx;cbv;refine A7 hE hO 0 rfl rfl fun H hO => ?_;cbv;obtain ⟨s16, hx, h⟩ := bind_some h;refine J6 cf170 hE G8 (fun e l H1 => match (generalizing := false) s16 with | .inl y => ∃ u1 : D4, O6 u1 ∧ e = .normal ∧ l = [(2, .v (.ref b1 0)), (3, .v (.ref b2 0)), (4, .v (.ref b3 0)), (5, .v (.ref b4 0)), (7, .v (.ref b15 0))] ∧ B2 Eq F10 [.blk b15 (.cells (Q4 y.1)), .tl t12, .tl u1, .blk b5 (.cells [.sl (Ar.lst eWn y.2) u1]), .blk b4 (.cells [.sl (Ar.lst eWo s9.2) t12]), .blk b3 (.cells [vi 0]), .blk b2 (.cells [.sl [] .nil]), .blk b1 (.cells [.sl [] .nil])] H1 | .inr y => e = .ret ∧ l = [(2, .v (.ref b1 0)), (3, .v (.ref b2 0)), (4, .v (.ref b3 0))] ∧ B2 Eq F10 [.blk b15 (.cells (Q4 y.1)), .tl t12, .tl t13, .blk b5 (.cells [.sl (Ar.lst eWn s9.1) t13]), .blk b4 (.cells [.sl (Ar.lst eWo s9.2) t12]), .blk b3 (.cells [vi y.2]), .blk b2 (.cells [.sl [] .nil]), .blk b1 (.cells [.sl [] .nil])] H1) (by kernel_rfl) ?_ ?_
  ·clear h;have h := hx;clear hx;cbv;refine A5 hE h (fun hc h => ?_) (fun hc h => ?_)
   ·cbv;refine B0 hE hO 3 rfl ?_;cbv;refine A6 hE h (c171 N s9.1 y8.2.p) (.cons (.ro _ _) (.refl _)) fun r17 h => ?_;cbv;refine A7 hE hO 0 rfl rfl fun H hO => ?_;cbv;refine B0 hE hO 0 rfl ?_;cbv;refine A5 hE h (fun hc h => ?_) (fun hc h => ?_)
    ·cbv;refine A6 hE h (c176 N y8.2.p) (.refl _) fun r18 h => ?_;cbv;refine A5 hE h (fun hc h => ?_) (fun hc h => ?_)
     ·cbv;refine A7 hE hO 7 rfl rfl fun H hO => ?_;cbv;refine A7 hE hO 6 rfl rfl fun H hO => ?_;cbv;refine A7 hE hO 5 rfl rfl fun H hO => ?_;cbv;cases h;exact ⟨_, ⟨rfl, rfl, hO⟩, .e rfl (.e2 .z), rfl⟩
     cbv;refine B0 hE hO 3 rfl ?_;cbv;refine D3 hE ?_;cbv;refine A7 hE hO 0 rfl rfl fun H hO => ?_;cbv;refine B0 hE hO 3 rfl ?_;cbv;refine D3 hE ?_;cbv;refine CK hE (by first | exact LT _ | exact Nm _ | trivial | rfl) ?_;cbv;refine W4 (f := eWn) hE R3 (by decide) hO 2 rfl ht13 (l := s9.1) (m := [y8.2.p]) (.refl _) (.lstc (.eq (eWs y8.2.p) (.refl _)) (.lst0)) h fun l20 t19 H hO ht19 h => ?_;cbv;refine Na hE hO 3 rfl rfl fun H hO => ?_;cbv;cases h;exact ⟨_, ⟨t19, ht19, rfl, rfl, hO⟩, .e rfl (.e4 .z), rfl⟩
    cbv;cases h;exact ⟨_, ⟨t13, ht13, rfl, rfl, hO⟩, .e rfl (.e4 .z), rfl⟩
   cbv;cases h;exact ⟨_, ⟨t13, ht13, rfl, rfl, hO⟩, .e rfl (.e4 .z), rfl⟩
  clear hx
  rcases s16 with y21 | y26
  ·rintro e l H ⟨t22, ht22, rfl, rfl, hO⟩;cbv;refine B0 hE hO 4 rfl ?_;cbv;refine UL hE hO 0 rfl fun H hO => ?_;cbv;refine A6 hE (g := fun r23 => .bool r23) h (fun r23 hx => c211 N s9.2 (.func (.func 212) [] [.eref (Q4 y21.1) 0]) (fun y1 => K1 N y1 y21.1) (fun y1 r hx => B4.value (F := []) (C := [.eref (Q4 y21.1) 0]) (c212 N y1 y21.1 r hx)) r23 hx) (.cons (.ro _ _) (.refl _)) fun r23 h => ?_;cbv;refine A5 hE h (fun hc h => ?_) (fun hc h => ?_)
   ·cbv;cases h;exact ⟨_, rfl, ⟨⟨t12, t22⟩, ⟨ht12, ht22⟩, hO⟩⟩
   cbv;refine B0 hE hO 3 rfl ?_;cbv;refine W4 (f := eWo) hE GE (by decide) hO 0 rfl ht12 (l := s9.2) (m := [y21.1]) (.refl _) (.lstc (.eq (eWC y21.1) (.refl _)) (.lst0)) h fun l25 t24 H hO ht24 h => ?_;cbv;refine A7 hE hO 3 rfl rfl fun H hO => ?_;cbv;refine B0 hE hO 3 rfl ?_;cbv;refine D3 hE ?_;cbv;refine A5 hE h (fun hc h => ?_) (fun hc h => ?_)
   ·cbv;refine A7 hE hO 6 rfl rfl fun H hO => ?_;cbv;refine A7 hE hO 5 rfl rfl fun H hO => ?_;cbv;refine A7 hE hO 4 rfl rfl fun H hO => ?_;cbv;cases h;exact ⟨_, rfl, rfl, ⟨⟨t24, t22⟩, ⟨rfl, ⟨ht24, ht22⟩⟩, hO⟩⟩
   cbv;cases h;exact ⟨_, rfl, ⟨⟨t24, t22⟩, ⟨ht24, ht22⟩, hO⟩⟩
  rintro e l H ⟨rfl, rfl, hO⟩;cbv;cases h;exact ⟨_, rfl, rfl, ⟨⟨t12, t13⟩, ⟨rfl, ⟨ht12, ht13⟩⟩, hO.tail⟩⟩
 ·rintro d27 s31 H rfl hd ⟨⟨t32, t33⟩, ⟨ht32, ht33⟩, hO⟩;have hO : B2 Eq H0 [.tl t32, .tl t33, .blk b5 (.cells [.sl (Ar.lst eWn s31.1) t33]), .blk b4 (.cells [.sl (Ar.lst eWo s31.2) t32]), .blk b3 (.cells [vi 0]), .blk b2 (.cells [.sl [] .nil]), .blk b1 (.cells [.sl [] .nil]), .blk d27 DB] H := B2.dblk hd hO;clear hd;clear hx;cbv;refine Jl hE hO 6 rfl fun H1 hT hW => ?_;cbv;refine B0 hE hW 3 rfl ?_;cbv;refine B0 hE hW 2 rfl ?_;cbv;refine CK hE trivial ?_;cbv;refine Jq hE hO 6 rfl hT fun H hO => ?_;cbv;refine A7 hE hO 5 rfl rfl fun H hO => ?_;cbv;refine A7 hE hO 4 rfl rfl fun H hO => ?_;cbv;refine Ak hE hO 7 rfl fun H hO => ?_;cbv;refine B0 hE hO 6 rfl ?_;cbv;refine B0 hE hO 5 rfl ?_;cbv;refine B0 hE hO 4 rfl ?_;cbv;cases h;exact hK _ _ _ hO (.tup (.cons (.ro _ _) (.cons (.ro _ _) (.refl _))))
 rintro d27 y34 e H rfl hd hX;clear hx
 rcases hX with ⟨⟨t35, t36⟩, ⟨rfl, ht35, ht36⟩, hO⟩
 have hO : B2 Eq H0 [.tl t35, .tl t36, .blk b5 (.cells [.sl (Ar.lst eWn y34.1) t36]), .blk b4 (.cells [.sl (Ar.lst eWo y34.2.1) t35]), .blk b3 (.cells [vi y34.2.2]), .blk b2 (.cells [.sl [] .nil]), .blk b1 (.cells [.sl [] .nil]), .blk d27 DB] H := B2.dblk hd hO;clear hd;cbv;refine Ak hE hO 7 rfl fun H hO => ?_;cbv;refine B0 hE hO 6 rfl ?_;cbv;refine B0 hE hO 5 rfl ?_;cbv;refine B0 hE hO 4 rfl ?_;cbv;cases h;exact hK _ _ _ hO (.tup (.cons (.lit _ (B1)) (.cons (.lit _ (B1)) (.refl _))))
theorem c130 (N aA r) (h : Y7 N aA = some r) : B4 prog 130 [(B9 aA)] (.tup [.sl (Ar.lst eWn r.1) .ro, vi r.2]) := by
 unfold Y7 at h
 refine J7 cf0 func130 call130 ntmps130 ?_;intro E H0 K hE hK hO;cbv;refine A6 hE h (c169 N aA) (.refl _) fun r1 h => ?_;cbv;refine A5 hE h (fun hc h => ?_) (fun hc h => ?_)
 ·cbv;cases h;exact hK _ _ _ hO (.tup (.cons (.lit _ (B1)) (.refl _)))
 cbv;replace hO := hO.tl0 (t := .full) rfl;obtain ⟨s4, hx, h⟩ := bind_some h;refine K3 cf0 hE G8 (γ := D4) (fun s2 g => [(5, .v (.sl (Ar.lst eWn s2.1) g)), (6, .v (vi s2.2))]) (fun s2 g H1 => O6 g ∧ B2 Eq H0 [.tl g] H1) (fun x e l H1 => match (generalizing := false) x with | .inl y => ∃ u1 : D4, O6 u1 ∧ e = .exit 0 ∧ l = [(5, .v (.sl (Ar.lst eWn y) u1))] ∧ B2 Eq H0 [.tl u1] H1 | .inr y => ∃ u1 : D4, O6 u1 ∧ e = .ret ∧ l = [(2, .v (.sl [] .nil)), (3, .v (vi y))] ∧ B2 Eq H0 [.tl u1] H1) (by kernel_rfl) ?_ .full hx ?_ ?_ ?_
 ·rintro s2 t3 H o ⟨ht3, hO⟩ h;clear hx;cbv;refine D3 hE ?_;cbv;refine A5 hE h (fun hc h => ?_) (fun hc h => ?_)
  ·cbv;refine C2 hE eWs h fun x5 h => ?_;cbv;refine A6 hE h (c170 N x5) (.refl _) fun r6 h => ?_;cbv;refine A5 hE h (fun hc h => ?_) (fun hc h => ?_)
   ·cbv;cases h;exact ⟨_, _, rfl, ⟨t3, ht3, rfl, rfl, hO⟩, .e2 .z, rfl⟩
   cbv;refine D3 hE ?_;cbv;obtain ⟨s9, hx, h⟩ := bind_some h;refine K3 cf0 hE G8 (γ := D4) (fun s7 g => [(5, .v (.sl (Ar.lst eWn s7.1) g)), (6, .v (vi s2.2)), (37, .v (.sl (Ar.lst eWn r6.2.1) .ro)), (38, .v (vi (Ar.len r6.2.1))), (39, .v (vi s7.2))]) (fun s7 g H1 => O6 g ∧ B2 Eq H0 [.tl g] H1) (fun x e l H1 => ∃ u1 : D4, O6 u1 ∧ e = .exit 2 ∧ l = [(5, .v (.sl (Ar.lst eWn x) u1)), (6, .v (vi s2.2))] ∧ B2 Eq H0 [.tl u1] H1) (by kernel_rfl) ?_ t3 hx ?_ ?_ ?_
   ·rintro s7 t8 H o ⟨ht8, hO⟩ h;clear hx;cbv;refine A5 hE h (fun hc h => ?_) (fun hc h => ?_)
    ·cbv;refine C2 hE eWs h fun x10 h => ?_;cbv;refine A6 hE h (c171 N s7.1 x10) (.cons (.ro _ _) (.refl _)) fun r11 h => ?_;cbv;refine A5 hE h (fun hc h => ?_) (fun hc h => ?_)
     ·cbv;refine W4 (f := eWn) hE R3 (by decide) hO 0 rfl ht8 (l := s7.1) (m := [x10]) (.refl _) (.lstc (.eq (eWs x10) (.refl _)) (.lst0)) h fun l13 t12 H hO ht12 h => ?_;cbv;cases h;exact ⟨_, t12, rfl, .e rfl (.e4 .z), rfl, ht12, hO⟩
     cbv;cases h;exact ⟨_, t8, rfl, .e rfl (.e4 .z), rfl, ht8, hO⟩
    cbv;cases h;exact ⟨_, _, rfl, ⟨t8, ht8, rfl, rfl, hO⟩, .e2 .z, rfl⟩
   ·exact .e rfl (.e4 .z)
   ·exact ⟨ht3, hO⟩
   clear hx;rintro e l H ⟨t14, ht14, rfl, rfl, hO⟩;cbv;refine D3 hE ?_;cbv;refine A5 hE h (fun hc h => ?_) (fun hc h => ?_)
   ·cbv;cases h;exact ⟨_, _, rfl, ⟨t14, ht14, rfl, rfl, hO⟩, .e2 .z, rfl⟩
   cbv;cases h;exact ⟨_, t14, rfl, .e2 .z, rfl, ht14, hO⟩
  cbv;cases h;exact ⟨_, _, rfl, ⟨t3, ht3, rfl, rfl, hO⟩, .e rfl .z, rfl⟩
 ·exact .v (.slt _ (.lstc (.eq (eWs aA) (.refl _)) (.lst0))) (.e rfl .z)
 ·exact ⟨trivial, hO⟩
 clear hx
 rcases s4 with y15 | y17
 ·rintro e l H ⟨t16, ht16, rfl, rfl, hO⟩;cbv;cases h;exact hK _ _ _ hO (.tup (.cons (.ro _ _) (.refl _)))
 rintro e l H ⟨t18, ht18, rfl, rfl, hO⟩;cbv;cases h;exact hK _ _ _ hO (.tup (.cons (.lit _ (B1)) (.refl _)))
theorem c131 (N aA r) (h : Dn N aA = some r) : B4 prog 131 [(B9 aA)] (.tup [vi r.1, vi r.2.1, vi r.2.2]) := by
 unfold Dn at h
 refine J7 cf0 func131 call131 ntmps131 ?_;intro E H0 K hE hK hO;cbv;refine A6 hE h (c169 N aA) (.refl _) fun r1 h => ?_;cbv;refine A5 hE h (fun hc h => ?_) (fun hc h => ?_)
 ·cbv;cases h;exact hK _ _ _ hO (.refl _)
 cbv;refine A6 hE h (c172 N aA) (.refl _) fun r2 h => ?_;cbv;cases h;exact hK _ _ _ hO (.refl _)
theorem c217 (N aH aF r) (h : Bi N aH aF = some r) : B4 prog 217 [(B9 aH), .eref (D1 aF) 0] (.bool r) := by
 unfold Bi at h
 refine J7 cf0 func217 call217 ntmps217 ?_;intro E H0 K hE hK hO;cbv;refine A6 hE h (c215 N N aH aF) (.refl _) fun r1 h => ?_;cbv;cases h;exact hK _ _ _ hO (.refl _)
theorem c175 (N aG aA r) (h : Et N aG aA = some r) : B4 prog 175 [.sl (Ar.lst eWn aG) .ro, (B9 aA)] (vi r) := by
 unfold Et at h
 refine J7 cf0 func175 call175 ntmps175 ?_;intro E H0 K hE hK hO;cbv;refine A6 hE (g := fun r1 => vi r1) h (fun r1 hx => c134 N aG (.func (.func 217) [] [.eref (D1 aA) 0]) (fun y1 => Bi N y1 aA) (fun y1 r hx => B4.value (F := []) (C := [.eref (D1 aA) 0]) (c217 N y1 aA r hx)) r1 hx) (.refl _) fun r1 h => ?_;cbv;cases h;exact hK _ _ _ hO (.refl _)
def cfo170 : Cf := ⟨[2, 3, 4, 5, 6, 7, 5000002, 5000005], [(13, 5), (3000018, 0), (3000018, 1)], [(16, 9)], [1000013, 2000018], [(40, 7)], []⟩
set_option maxHeartbeats 2000000 in
theorem o170 (N aA r) (h : Y5 N aA = some r) : Tb prog 170 [(B9 aA)] 17 (Ar.lst eWo r.1) (fun o => .tup [o, .sl (Ar.lst eWn r.2.1) .ro, vi r.2.2]) := by
 unfold Y5 at h
 intro H0;refine JT (T := TT) (F := H0) (mk := fun o => .tup [o, .sl (Ar.lst eWn r.2.1) .ro, vi r.2.2]) (DA.tup [.bad, .sl (Ar.lst eWn r.2.1) .ro, vi r.2.2] 0 (by simp)) cfo170 G8 func170 (by rfl) (by kernel_rfl) call170 ntmps170 (by rfl) (by rfl) ?_;intro E K hE hK hN;have hO : B2 Eq H0 [] H0 := .start B6 rfl;cbv;refine Nd hE (f0 := eWo) hO fun q2 b1 H hq2 hO => ?_;cbv;refine C8 hE hO fun b3 H hO => ?_;cbv;refine C8 hE hO fun b4 H hO => ?_;cbv;refine Nd hE (f0 := eWo) hO fun q6 b5 H hq6 hO => ?_;cbv;refine C8 hE hO fun b7 H hO => ?_;cbv;refine P6 hE h (c210 N N aA) (.refl _) fun r8 v9 hv9 h => ?_;cbv;replace hO := hO.tl0 (t := .nil) rfl;obtain ⟨o16, hx, h⟩ := bind_some h;replace hO := hO.cast (L' := [.tl .nil, .blk b7 (.cells [.sl (Ar.lst eWn ([])) .nil]), .blk b5 (.cells [.own q6.id q6.lo q6.n]), .blk q6.id (.arr 17 (q6.pre ++ Ar.lst eWo ([]) ++ q6.rest)), .blk b4 (.cells [vi 0]), .blk b3 (.cells [.sl [] .nil]), .blk b1 (.cells [.own q2.id q2.lo q2.n]), .blk q2.id (.arr 17 (q2.pre ++ Ar.lst eWo ([]) ++ q2.rest))]) (by first | (simp only [← B1]; done) | (simp only [← B1]; rfl));refine Au cfo170 hE G8 (ι := Nat) (enc := fun (x : (B7 × A1)) => [(E7 x.1), (A9 x.2)]) (fun (s11 : (List A4) × (List B7)) F H => ∃ g : D4 × OG, (O6 g.1 ∧ V3 g.2 (Ar.len s11.2)) ∧ B2 Eq F [.tl g.1, .blk b7 (.cells [.sl (Ar.lst eWn s11.1) g.1]), .blk b5 (.cells [.own g.2.id g.2.lo g.2.n]), .blk g.2.id (.arr 17 (g.2.pre ++ Ar.lst eWo s11.2 ++ g.2.rest)), .blk b4 (.cells [vi 0]), .blk b3 (.cells [.sl [] .nil]), .blk b1 (.cells [.own q2.id q2.lo q2.n]), .blk q2.id (.arr 17 (q2.pre ++ Ar.lst eWo ([]) ++ q2.rest))] H) (fun (r : ((List A4) × (List B7) × Int × (List B7))) e F H => ∃ g : D4 × OG, (e = .ret ∧ O6 g.1 ∧ V3 g.2 (Ar.len r.2.1)) ∧ B2 Eq F [.tl g.1, .blk b7 (.cells [.sl (Ar.lst eWn r.1) g.1]), .blk b5 (.cells [.own g.2.id g.2.lo g.2.n]), .blk g.2.id (.arr 17 (g.2.pre ++ Ar.lst eWo r.2.1 ++ g.2.rest)), .blk b4 (.cells [vi r.2.2.1]), .blk b3 (.cells [.sl [] .nil]), .blk b1 (.cells [.sl [] .nil]), .blk q2.id (.arr 17 (q2.pre ++ Ar.lst eWo ([]) ++ q2.rest))] H) (fun i s11 y10 => [(2, .v (.ref b1 0)), (3, .v (.ref b3 0)), (4, .v (.ref b4 0)), (5, .v (.ref b5 0)), (6, .v (.ref b7 0)), (7, .v (.ref i 0)), (8, .v (.eref (F3 y10.2) 0))]) (fun i s11 y10 F H => ∃ g : D4 × OG, (O6 g.1 ∧ V3 g.2 (Ar.len s11.2)) ∧ B2 Eq F [.blk i (.cells (Q4 y10.1)), .tl g.1, .blk b7 (.cells [.sl (Ar.lst eWn s11.1) g.1]), .blk b5 (.cells [.own g.2.id g.2.lo g.2.n]), .blk g.2.id (.arr 17 (g.2.pre ++ Ar.lst eWo s11.2 ++ g.2.rest)), .blk b4 (.cells [vi 0]), .blk b3 (.cells [.sl [] .nil]), .blk b1 (.cells [.own q2.id q2.lo q2.n]), .blk q2.id (.arr 17 (q2.pre ++ Ar.lst eWo ([]) ++ q2.rest))] H) (fun _ => C5.ex fun _ => B2.stable B6 _) (fun _ _ => C5.ex fun _ => B2.stable B6 _) (fun _ _ _ => C5.ex fun _ => B2.stable B6 _) hv9 hx (⟨⟨.nil, q6⟩, ⟨trivial, hq6⟩, hO⟩) (by decide) (fun _ => rfl) (by kernel_rfl) (by kernel_rfl) ?_ ?_ ?_ ?_
 ·rintro E i13 y10 s11 F12 H hE ⟨⟨t14, q15⟩, ⟨ht14, hq15⟩, hO⟩;clear hx h;cbv;refine C8 hE hO fun b17 H hO => ?_;cbv;refine A7 hE hO 0 rfl rfl fun H hO => ?_;cbv;exact ⟨b17, ⟨⟨t14, q15⟩, ⟨ht14, hq15⟩, hO⟩, .e rfl (.e2 (.e4 .z)), rfl⟩
 ·rintro E i13 b17 y10 s11 F12 H o hE hF h ⟨⟨t14, q15⟩, ⟨ht14, hq15⟩, hO⟩;clear hx;cbv;refine A7 hE hO 0 rfl rfl fun H hO => ?_;cbv;obtain ⟨s18, hx, h⟩ := bind_some h;refine J6 cfo170 hE G8 (fun e l H1 => match (generalizing := false) s18 with | .inl y => ∃ u1 : D4, O6 u1 ∧ e = .normal ∧ l = [(2, .v (.ref b1 0)), (3, .v (.ref b3 0)), (4, .v (.ref b4 0)), (5, .v (.ref b5 0)), (7, .v (.ref b17 0))] ∧ B2 Eq F12 [.blk b17 (.cells (Q4 y.1)), .tl u1, .blk b7 (.cells [.sl (Ar.lst eWn y.2) u1]), .blk b5 (.cells [.own q15.id q15.lo q15.n]), .blk q15.id (.arr 17 (q15.pre ++ Ar.lst eWo s11.2 ++ q15.rest)), .blk b4 (.cells [vi 0]), .blk b3 (.cells [.sl [] .nil]), .blk b1 (.cells [.own q2.id q2.lo q2.n]), .blk q2.id (.arr 17 (q2.pre ++ Ar.lst eWo ([]) ++ q2.rest))] H1 | .inr y => e = .ret ∧ l = [(2, .v (.ref b1 0)), (3, .v (.ref b3 0)), (4, .v (.ref b4 0))] ∧ B2 Eq F12 [.blk b17 (.cells (Q4 y.1)), .tl t14, .blk b7 (.cells [.sl (Ar.lst eWn s11.1) t14]), .blk b5 (.cells [.own q15.id q15.lo q15.n]), .blk q15.id (.arr 17 (q15.pre ++ Ar.lst eWo s11.2 ++ q15.rest)), .blk b4 (.cells [vi y.2.1]), .blk b3 (.cells [.sl [] .nil]), .blk b1 (.cells [.sl [] .nil]), .blk q2.id (.arr 17 (q2.pre ++ Ar.lst eWo ([]) ++ q2.rest))] H1) (by kernel_rfl) ?_ ?_
  ·clear h;have h := hx;clear hx;cbv;refine A5 hE h (fun hc h => ?_) (fun hc h => ?_)
   ·cbv;refine B0 hE hO 2 rfl ?_;cbv;refine A6 hE h (c171 N s11.1 y10.2.p) (.cons (.ro _ _) (.refl _)) fun r19 h => ?_;cbv;refine A7 hE hO 0 rfl rfl fun H hO => ?_;cbv;refine B0 hE hO 0 rfl ?_;cbv;refine A5 hE h (fun hc h => ?_) (fun hc h => ?_)
    ·cbv;refine A6 hE h (c176 N y10.2.p) (.refl _) fun r20 h => ?_;cbv;refine A5 hE h (fun hc h => ?_) (fun hc h => ?_)
     ·cbv;refine A7 hE hO 7 rfl rfl fun H hO => ?_;cbv;refine A7 hE hO 6 rfl rfl fun H hO => ?_;cbv;refine A7 hE hO 5 rfl rfl fun H hO => ?_;cbv;cases h;exact ⟨_, ⟨rfl, rfl, hO⟩, .e rfl (.e2 .z), rfl⟩
     cbv;refine B0 hE hO 2 rfl ?_;cbv;refine D3 hE ?_;cbv;refine A7 hE hO 0 rfl rfl fun H hO => ?_;cbv;refine B0 hE hO 2 rfl ?_;cbv;refine D3 hE ?_;cbv;refine CK hE (by first | exact LT _ | exact Nm _ | trivial | rfl) ?_;cbv;refine W4 (f := eWn) hE R3 (by decide) hO 1 rfl ht14 (l := s11.1) (m := [y10.2.p]) (.refl _) (.lstc (.eq (eWs y10.2.p) (.refl _)) (.lst0)) h fun l22 t21 H hO ht21 h => ?_;cbv;refine Na hE hO 2 rfl rfl fun H hO => ?_;cbv;cases h;exact ⟨_, ⟨t21, ht21, rfl, rfl, hO⟩, .e rfl (.e4 .z), rfl⟩
    cbv;cases h;exact ⟨_, ⟨t14, ht14, rfl, rfl, hO⟩, .e rfl (.e4 .z), rfl⟩
   cbv;cases h;exact ⟨_, ⟨t14, ht14, rfl, rfl, hO⟩, .e rfl (.e4 .z), rfl⟩
  clear hx
  rcases s18 with y23 | y28
  ·rintro e l H ⟨t24, ht24, rfl, rfl, hO⟩;cbv;refine B0 hE hO 3 rfl ?_;cbv;refine UL hE hO 0 rfl fun H hO => ?_;cbv;refine TS hE (g := fun r25 => .bool r25) h (fun r25 hx => c211 N s11.2 (.func (.func 212) [] [.eref (Q4 y23.1) 0]) (fun y1 => K1 N y1 y23.1) (fun y1 r hx => B4.value (F := []) (C := [.eref (Q4 y23.1) 0]) (c212 N y1 y23.1 r hx)) r25 hx) (fun _ => .bool _) (Sp hE hO hq15 3 rfl (.le (.refl _) (.nil))) fun r25 h => ?_;cbv;refine A5 hE h (fun hc h => ?_) (fun hc h => ?_)
   ·cbv;cases h;exact ⟨_, rfl, ⟨⟨t24, q15⟩, ⟨ht24, hq15⟩, hO⟩⟩
   cbv;refine B0 hE hO 2 rfl ?_;cbv;refine Dr (f := eWo) hE GE (by decide) hO hq15 3 rfl (m := [y23.1]) (Bq (f := eWo) hE GE (.lstc (.eq (eWC y23.1) (.refl _)) (.lst0))) h fun l27 q26 H hq26 hO h => ?_;cbv;refine A7 hE hO 2 rfl rfl fun H hO => ?_;cbv;refine B0 hE hO 2 rfl ?_;cbv;refine Gi hE hq26 ?_;cbv;refine A5 hE h (fun hc h => ?_) (fun hc h => ?_)
   ·cbv;refine A7 hE hO 6 rfl rfl fun H hO => ?_;cbv;refine A7 hE hO 5 rfl rfl fun H hO => ?_;cbv;refine A7 hE hO 4 rfl rfl fun H hO => ?_;cbv;cases h;exact ⟨_, rfl, rfl, ⟨⟨t24, q26⟩, ⟨rfl, ⟨ht24, hq26⟩⟩, hO⟩⟩
   cbv;cases h;exact ⟨_, rfl, ⟨⟨t24, q26⟩, ⟨ht24, hq26⟩, hO⟩⟩
  rintro e l H ⟨rfl, rfl, hO⟩;cbv;cases h;exact ⟨_, rfl, rfl, ⟨⟨t14, q15⟩, ⟨rfl, ⟨ht14, hq15⟩⟩, hO.tail⟩⟩
 ·rintro d29 s33 H rfl hd ⟨⟨t34, q35⟩, ⟨ht34, hq35⟩, hO⟩;have hO : B2 Eq H0 [.tl t34, .blk b7 (.cells [.sl (Ar.lst eWn s33.1) t34]), .blk b5 (.cells [.own q35.id q35.lo q35.n]), .blk q35.id (.arr 17 (q35.pre ++ Ar.lst eWo s33.2 ++ q35.rest)), .blk b4 (.cells [vi 0]), .blk b3 (.cells [.sl [] .nil]), .blk b1 (.cells [.own q2.id q2.lo q2.n]), .blk q2.id (.arr 17 (q2.pre ++ Ar.lst eWo ([]) ++ q2.rest)), .blk d29 DB] H := B2.dblk hd hO;clear hd;clear hx;cbv;replace hO := hO.cast (L' := [.tl t34, .blk b7 (.cells [.sl (Ar.lst eWn s33.1) t34]), .blk b5 (.cells [.own q35.id q35.lo q35.n]), .blk q35.id (.arr 17 (q35.pre ++ Ar.lst eWo s33.2 ++ q35.rest)), .blk b4 (.cells [vi 0]), .blk b3 (.cells [.sl (Ar.lst eWn ([])) .nil]), .blk b1 (.cells [.own q2.id q2.lo q2.n]), .blk q2.id (.arr 17 (q2.pre ++ Ar.lst eWo ([]) ++ q2.rest)), .blk d29 DB]) (by first | (simp only [← B1]; done) | (simp only [← B1]; rfl));replace hO := hO.tl0 (t := .nil) rfl;obtain ⟨s36, hx, h⟩ := bind_some h;refine J6 cfo170 hE G8 (fun e l H1 => e = .normal ∧ l = [(2, .v (.ref b1 0)), (3, .v (.ref b3 0)), (4, .v (.ref b4 0))] ∧ B2 Eq H0 [.tl .nil, .tl t34, .blk b7 (.cells [.sl (Ar.lst eWn s33.1) t34]), .blk b5 (.cells [.own q35.id q35.lo q35.n]), .blk q35.id (.arr 17 (q35.pre ++ Ar.lst eWo s33.2 ++ q35.rest)), .blk b4 (.cells [vi 0]), .blk b3 (.cells [.sl (Ar.lst eWn s36) t34]), .blk b1 (.cells [.own q35.id q35.lo q35.n]), .blk q2.id (.arr 17 (q2.pre ++ Ar.lst eWo ([]) ++ q2.rest)), .blk d29 DB] H1) (by kernel_rfl) ?_ ?_
  ·clear h;have h := hx;clear hx;cbv
   repeat' first | refine And.intro ?_ ?_ | (refine B0 hE hO 3 rfl ?_; cbv) | (refine B0 hE hO 2 rfl ?_; cbv) | (refine A7 hE hO 7 rfl rfl fun H hO => ?_; cbv) | (refine A7 hE hO 6 rfl rfl fun H hO => ?_; cbv) | (refine A7 hE hO 5 rfl rfl fun H hO => ?_; cbv) | (have h := N8 h; subst h; exact ⟨_, ⟨rfl, rfl, hO⟩, .e rfl (.e2 .z), rfl⟩)
  clear hx;rintro e l H ⟨rfl, rfl, hO⟩;cbv;refine Ak hE hO 9 rfl fun H hO => ?_;cbv;refine B0 hE hO 7 rfl ?_;cbv;refine B0 hE hO 6 rfl ?_;cbv;refine B0 hE hO 5 rfl ?_;cbv;cases h;exact hK q35 _ 4 _ _ (U7 hE hq35) rfl hO (.tup (.cons (.refl _) (.cons (.ro _ _) (.refl _))))
 rintro d29 y277 e H rfl hd hX;clear hx
 rcases hX with ⟨⟨t278, q279⟩, ⟨rfl, ht278, hq279⟩, hO⟩
 have hO : B2 Eq H0 [.tl t278, .blk b7 (.cells [.sl (Ar.lst eWn y277.1) t278]), .blk b5 (.cells [.own q279.id q279.lo q279.n]), .blk q279.id (.arr 17 (q279.pre ++ Ar.lst eWo y277.2.1 ++ q279.rest)), .blk b4 (.cells [vi y277.2.2.1]), .blk b3 (.cells [.sl [] .nil]), .blk b1 (.cells [.sl [] .nil]), .blk q2.id (.arr 17 (q2.pre ++ Ar.lst eWo ([]) ++ q2.rest)), .blk d29 DB] H := B2.dblk hd hO;clear hd;cbv;refine Ak hE hO 8 rfl fun H hO => ?_;cbv;refine B0 hE hO 6 rfl ?_;cbv;refine B0 hE hO 5 rfl ?_;cbv;refine B0 hE hO 4 rfl ?_;cbv;cases h;exact hN (by rw [Ar.lst_eq]; rfl) _ _ _ hO (.tup (.cons (.refl _) (.cons (.lit _ (B1)) (.refl _))))
end Go.Ab
