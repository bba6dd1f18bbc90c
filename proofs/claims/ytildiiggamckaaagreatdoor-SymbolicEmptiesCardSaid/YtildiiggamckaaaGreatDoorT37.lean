/- GYCo4 -/
import Derived.Test.YtildiiggamckaaaGreatDoorT36
set_option linter.all false
namespace Go.Ab
open Go.RowKit Go.Proofs Go.Proofs.Tryz G6
variable [Ar] [G6]
set_option maxRecDepth 100000
def cfo174 : Cf := ⟨[6000002], [], [], [], [], []⟩
theorem o174 (N aA r) (h : As N aA = some r) : Ur prog 174 [(B9 aA)] 17 (Ar.lst eXK r.1) (fun o => .tup [o, .sl (Ar.lst eXJ r.2.1) .ro, vi r.2.2]) := by
 unfold As at h
 intro H0;refine Kv (T := TT) (F := H0) (mk := fun o => .tup [o, .sl (Ar.lst eXJ r.2.1) .ro, vi r.2.2]) (DV.tup [.bad, .sl (Ar.lst eXJ r.2.1) .ro, vi r.2.2] 0 (by simp)) cfo174 G7 func174 (by rfl) (by kernel_rfl) call174 ntmps174 (by rfl) (by rfl) ?_;intro E K hE hK hN;have hO : B4 Eq H0 [] H0 := .start B7 rfl;cbv;refine HT hE (f := eXK) hO fun q1 H hq1 hO => ?_;cbv;refine A7 hE h (c176 N aA) (.refl _) fun r2 h => ?_;cbv;refine A6 hE h (fun hc h => ?_) (fun hc h => ?_)
 ·cbv;refine HT hE (f := eXK) hO fun q3 H hq3 hO => ?_;cbv;cases h;exact hK q3 _ 0 _ _ (T8 hE hq3) rfl hO (.tup (.cons (.refl _) (.cons (.lit _ (B3)) (.refl _))))
 cbv;refine QD hE (f := eXK) (g := fun l4 => l4.1) (mk := fun l4 o => .tup [o, .sl (Ar.lst eXJ l4.2.1) .ro, vi l4.2.2]) h (o170 N aA) (.refl _) hO fun l4 q5 H hq5 hO h => ?_;cbv;cases h;exact hK q5 _ 0 _ _ (T8 hE hq5) rfl hO (.tup (.refl _))
def cf173 : Cf := ⟨[4], [(10, 10)], [], [], [(55, 5)], []⟩
theorem c173 (N aF r) (h : BO N aF = some r) : El prog 173 (fun yv => [yv, .eref [.sl (Ar.lst eXJ aF) .ro] 0]) (List.map (fun (x : (Int × (List B8))) => [vi x.1, .sl (Ar.lst eXK x.2) .ro]) r) UL := by
 unfold BO at h
 obtain ⟨⟨w0, u0⟩, h1, hr⟩ := bind_some h;clear h;have hr := O2 hr;subst hr;have h := h1;clear h1;refine K7 cf173 G7 func173 (by rfl) (by kernel_rfl) call173 ntmps173 (by rfl) (fun _ => rfl) ?_;intro yv I D hI hD hy tl F E H K hE hO hK hKD
 have hO : B4 (I (List.map (fun (x : (Int × (List B8))) => [vi x.1, .sl (Ar.lst eXK x.2) .ro]) (w0 ++ []) ++ tl)) F [] H := by rw [List.append_nil]; exact hO
 cbv;refine D5 hE ?_;cbv;obtain ⟨w2, w3, s6, hx, h1, he⟩ := K2 h;clear h;have h := h1;clear h1
 rw [he, List.append_assoc] at hO
 clear he;refine FX cf173 hE G7 (γ := Unit) (fun s1 g => [(0, .v (yv)), (1, .v (.eref [.sl (Ar.lst eXJ aF) .ro] 0)), (10, .v (.sl (Ar.lst eXJ aF) .ro)), (11, .v (vi (Ar.len aF))), (12, .v (vi s1))]) (fun s1 g w H1 => B4 (I (List.map (fun (x : (Int × (List B8))) => [vi x.1, .sl (Ar.lst eXK x.2) .ro]) w ++ tl)) F [] H1) (fun x e l w H1 => e = .exit 0 ∧ l = [] ∧ B4 (I (List.map (fun (x : (Int × (List B8))) => [vi x.1, .sl (Ar.lst eXK x.2) .ro]) w ++ tl)) F [] H1) (fun e l H1 => (e = .ret ∧ l = [] ∧ B4 D F [] H1)) (by kernel_rfl) ?_ (w' := w3 ++ []) () hx ?_ ?_ ?_ ?_
 ·rintro s1 _ w4 w5 H o hO h;clear hx
  skip
  cbv;refine A6 hE h (fun hc h => ?_) (fun hc h => ?_)
  ·cbv;refine C2 hE eXO h fun x7 h => ?_;cbv;refine C8 hE hO fun b8 H hO => ?_;cbv;refine A8 hE hO 0 rfl rfl fun H hO => ?_;cbv;refine B1 hE hO 0 rfl ?_;cbv;refine QD hE (f := eXK) (g := fun l9 => l9.1) (mk := fun l9 o => .tup [o, .sl (Ar.lst eXJ l9.2.1) .ro, vi l9.2.2]) h (o174 N x7) (.refl _) hO fun l9 q10 H hq10 hO h => ?_;cbv;refine EC hE hq10 ?_;cbv;obtain ⟨w13, w14, s17, hx, h1, he⟩ := K2 h;clear h;have h := h1;clear h1
   rw [he, List.append_assoc] at hO
   clear he;refine FX cf173 hE G7 (γ := OG) (fun s11 g => [(0, .v (yv)), (1, .v (.eref [.sl (Ar.lst eXJ aF) .ro] 0)), (3, .v (vi s1)), (5, .v (.own g.id g.lo g.n)), (6, .v (.sl (Ar.lst eXJ l9.2.1) .ro)), (10, .v (.sl (Ar.lst eXJ aF) .ro)), (11, .v (vi (Ar.len aF))), (12, .v (vi s1)), (24, .v (vi (Ar.len l9.1))), (25, .v (vi s11.1))]) (fun s11 g w H1 => T6 g (Ar.len s11.2) ∧ B4 (I (List.map (fun (x : (Int × (List B8))) => [vi x.1, .sl (Ar.lst eXK x.2) .ro]) w ++ tl)) F [.blk g.id (.arr 17 (g.pre ++ Ar.lst eXK s11.2 ++ g.rest)), .blk b8 (.cells (D3 x7))] H1) (fun x e l w H1 => ∃ u1 : OG, T6 u1 (Ar.len x) ∧ e = .exit 2 ∧ l = [(0, .v (yv)), (1, .v (.eref [.sl (Ar.lst eXJ aF) .ro] 0)), (3, .v (vi s1)), (5, .v (.own u1.id u1.lo u1.n)), (10, .v (.sl (Ar.lst eXJ aF) .ro)), (11, .v (vi (Ar.len aF))), (12, .v (vi s1))] ∧ B4 (I (List.map (fun (x : (Int × (List B8))) => [vi x.1, .sl (Ar.lst eXK x.2) .ro]) w ++ tl)) F [.blk u1.id (.arr 17 (u1.pre ++ Ar.lst eXK x ++ u1.rest)), .blk b8 (.cells (D3 x7))] H1) (fun e l H1 => False) (by kernel_rfl) ?_ (w' := w14 ++ w5) q10 hx ?_ ?_ ?_ ?_
   ·rintro s11 q12 w15 w16 H o ⟨hq12, hO⟩ h;clear hx
    skip
    cbv;refine A6 hE h (fun hc h => ?_) (fun hc h => ?_)
    ·cbv;refine S0 hE hO hq12 0 rfl h fun h => ?_;cbv;refine S6 hE (f := eXK) (esz := 17) (tz := 1) (off := 0) (u := (fun x18 : B8 => { x18 with From := s1 })) (fun x18 => ⟨.int .i64 s1, .refl _, rfl, rfl, (by rw [eXY, eXY]; rfl)⟩) (by decide) hO hq12 0 rfl h fun l19 H hq12 h hO => ?_;cbv;refine AH hE eXY hO hq12 0 rfl h fun x20 h => ?_;cbv;refine A6 hE h (fun hc h => ?_) (fun hc h => ?_)
     ·cbv;refine AH hE eXY hO hq12 0 rfl h fun x21 h => ?_;cbv;refine C2 hE eXO h fun x22 h => ?_;cbv;refine P2 hE (g := fun r23 => vi r23) h (c175 N aF x22) (.refl _) fun r23 h => ?_;cbv;refine S6 hE (f := eXK) (esz := 17) (tz := 1) (off := 1) (u := (fun x24 : B8 => { x24 with To := r23 })) (fun x24 => ⟨.int .i64 r23, .refl _, rfl, rfl, (by rw [eXY, eXY]; rfl)⟩) (by decide) hO hq12 0 rfl h fun l25 H hq12 h hO => ?_;cbv;obtain ⟨hw, rfl⟩ := C5 h
      rw [← hw] at hO
      exact ⟨_, q12, rfl, .e2 (.e4 (.e4 .z)), rfl, ⟨hq12, hO⟩⟩
     cbv;obtain ⟨hw, rfl⟩ := C5 h
     rw [← hw] at hO
     exact ⟨_, q12, rfl, .e2 (.e4 (.e4 .z)), rfl, ⟨hq12, hO⟩⟩
    cbv;obtain ⟨hw, rfl⟩ := C5 h
    rw [← hw] at hO
    exact .inl ⟨_, _, rfl, ⟨q12, hq12, rfl, rfl, hO⟩, .e rfl (.e2 (.e4 .z)), rfl⟩
   ·exact .e2 (.e4 (.e4 .z))
   ·exact ⟨hq10, hO⟩
   ·rintro e l H ⟨t26, ht26, rfl, rfl, hO⟩;clear hx;cbv;refine Fs hE hO ht26 0 rfl fun H hO => ?_;cbv;obtain ⟨w27, h1, he⟩ := P0 h;clear h;have h := h1;clear h1
    rw [he, List.append_assoc] at hO
    clear he;have hO : B4 (I ([vi s1, .sl (Ar.lst eXK s17) .ro] :: (List.map (fun (x : (Int × (List B8))) => [vi x.1, .sl (Ar.lst eXK x.2) .ro]) (w27 ++ w5) ++ tl))) F [.blk b8 (.cells (D3 x7))] _ := hO;refine AF hE hI hD hy hO (.refl _) (fun H hO => ?_) (fun H hO => ?_)
    ·cbv;refine Fv hE (Ar.nt_eq _) ?_;cbv;obtain ⟨hw, rfl⟩ := C5 h
     rw [← hw] at hO
     exact ⟨_, (), rfl, .e rfl (.e4 .z), rfl, hO.tail⟩
    clear h;cbv;refine Fu hE (Ar.nt_eq _) ?_;cbv;exact .inr ⟨_, ⟨rfl, rfl, hO.tail⟩, .z, rfl⟩
   rintro e l H hX;exact hX.elim
  cbv;obtain ⟨hw, rfl⟩ := C5 h
  rw [← hw] at hO
  exact .inl ⟨_, _, rfl, ⟨rfl, rfl, hO⟩, .z, rfl⟩
 ·exact .e rfl (.e4 .z)
 ·exact hO
 ·rintro e l H ⟨rfl, rfl, hO⟩;clear hx;cbv;obtain ⟨hw, _⟩ := C5 h
  rw [← hw] at hO
  exact hK _ _ _ hO trivial
 rintro e l H hX;obtain ⟨rfl, rfl, hO⟩ := hX;clear h;cbv;exact hKD _ _ _ hO trivial
theorem c132 (N aG r) (h : Df N aG = some r) : CA prog 132 [.sl (Ar.lst eXJ aG) .ro] (fun v => DD prog v (r.map fun (x : (Int × (List B8))) => [vi x.1, .sl (Ar.lst eXK x.2) .ro])) := by
 unfold Df at h
 refine N7 cf0 G7 func132 (by rfl) (by kernel_rfl) call132 ntmps132 (by rfl) (by rfl) ?_;intro E H0 K hE hK;have hO : B4 Eq H0 [] H0 := .start B7 rfl;cbv;exact hK _ _ _ hO (N5 call173 (c173 N aG r h))
def cf177 : Cf := ⟨[], [], [(8, 5), (51, 17)], [], [], []⟩
theorem c177 (N : Nat) : ∀ n aA r, M1 N n aA = some r → B6 prog 177 [(B9 aA)] (.sl (Ar.lst eXZ r) .ro) := by
 intro n
 induction n with
 | zero => intro aA r h; cases h
 | succ n ih =>
 intro aA r h
 unfold M1 at h
 refine J9 cf177 func177 call177 ntmps177 ?_;intro E H0 K hE hK hO;cbv;obtain ⟨s1, hx, h⟩ := bind_some h;refine J8 cf177 hE G7 (fun e l H1 => e = .normal ∧ l = [(1, .v (.eref (D3 aA) 0)), (3, .v (.sl [] .nil)), (7, .v (vi aA.Op)), (8, .v (.bool s1))] ∧ B4 Eq H0 [] H1) (by kernel_rfl) ?_ ?_
 ·clear h;have h := hx;clear hx;cbv;refine A6 hE h (fun hc h => ?_) (fun hc h => ?_)
  ·cbv;cases h;exact ⟨_, ⟨rfl, rfl, hO⟩, .e4 .z, rfl⟩
  cbv;cases h;exact ⟨_, ⟨rfl, rfl, hO⟩, .e4 .z, rfl⟩
 clear hx;rintro e l H ⟨rfl, rfl, hO⟩;cbv;refine A6 hE h (fun hc h => ?_) (fun hc h => ?_)
 ·cbv;refine C2 hE eXO h fun x2 h => ?_;cbv;refine A7 hE h (ih x2) (.refl _) fun r3 h => ?_;cbv;cases h;exact hK _ _ _ hO (.refl _)
 cbv;refine A6 hE h (fun hc h => ?_) (fun hc h => ?_)
 ·cbv;refine D5 hE ?_;cbv;replace hO := hO.tl0 (t := .nil) rfl;obtain ⟨s6, hx, h⟩ := bind_some h;refine I6 cf177 hE G7 (γ := D6) (fun s4 g => [(3, .v (.sl (Ar.lst eXZ s4.1) g)), (19, .v (.sl (Ar.lst eXJ aA.Args) .ro)), (20, .v (vi (Ar.len aA.Args))), (21, .v (vi s4.2))]) (fun s4 g H1 => N2 g ∧ B4 Eq H0 [.tl g] H1) (fun x e l H1 => ∃ u1 : D6, N2 u1 ∧ e = .exit 1 ∧ l = [(3, .v (.sl (Ar.lst eXZ x) u1))] ∧ B4 Eq H0 [.tl u1] H1) (by kernel_rfl) ?_ .nil hx ?_ ?_ ?_
  ·rintro s4 t5 H o ⟨ht5, hO⟩ h;clear hx;cbv;refine A6 hE h (fun hc h => ?_) (fun hc h => ?_)
   ·cbv;refine C2 hE eXO h fun x7 h => ?_;cbv;refine A7 hE h (ih x7) (.refl _) fun r8 h => ?_;cbv;refine V9 (f := eXZ) hE HG (by decide) hO 0 rfl ht5 (l := s4.1) (m := r8) (.refl _) (.refl _) h fun l10 t9 H hO ht9 h => ?_;cbv;cases h;exact ⟨_, t9, rfl, .e4 .z, rfl, ht9, hO⟩
   cbv;cases h;exact ⟨_, _, rfl, ⟨t5, ht5, rfl, rfl, hO⟩, .e rfl .z, rfl⟩
  ·exact .v (.slt _ (.lst0)) (.e rfl (.e2 .z))
  ·exact ⟨trivial, hO⟩
  clear hx;rintro e l H ⟨t11, ht11, rfl, rfl, hO⟩;cbv;cases h;exact hK _ _ _ hO (.ro _ _)
 cbv;refine A6 hE h (fun hc h => ?_) (fun hc h => ?_)
 ·cbv;refine V9 (f := eXZ) hE HG (by decide) (hO.tl0 (t := .nil) rfl) 0 rfl trivial (l := []) (m := [(⟨aA.Scope, aA.Typ, aA.Var, aA.Cond⟩ : Cu)]) (.lst0) (.lstc (.eq (eYt (⟨aA.Scope, aA.Typ, aA.Var, aA.Cond⟩ : Cu)) (.refl _)) (.lst0)) h fun l13 t12 H hO ht12 h => ?_;cbv;refine C2 hE eXO h fun x14 h => ?_;cbv;refine A7 hE h (ih x14) (.refl _) fun r15 h => ?_;cbv;refine V9 (f := eXZ) hE HG (by decide) hO 0 rfl ht12 (l := l13) (m := r15) (.refl _) (.refl _) h fun l17 t16 H hO ht16 h => ?_;cbv;cases h;exact hK _ _ _ hO (.ro _ _)
 cbv;obtain ⟨s18, hx, h⟩ := bind_some h;refine J8 cf177 hE G7 (fun e l H1 => e = .normal ∧ l = [(1, .v (.eref (D3 aA) 0)), (3, .v (.sl [] .nil)), (51, .v (.bool s18))] ∧ B4 Eq H0 [] H1) (by kernel_rfl) ?_ ?_
 ·clear h;have h := hx;clear hx;cbv;refine A6 hE h (fun hc h => ?_) (fun hc h => ?_)
  ·cbv;cases h;exact ⟨_, ⟨rfl, rfl, hO⟩, .e rfl (.e2 .z), rfl⟩
  cbv;cases h;exact ⟨_, ⟨rfl, rfl, hO⟩, .e rfl (.e2 .z), rfl⟩
 clear hx;rintro e l H ⟨rfl, rfl, hO⟩;cbv;refine A6 hE h (fun hc h => ?_) (fun hc h => ?_)
 ·cbv;refine C2 hE eXO h fun x19 h => ?_;cbv;refine A7 hE h (ih x19) (.refl _) fun r20 h => ?_;cbv;cases h;exact hK _ _ _ hO (.refl _)
 cbv;cases h;exact hK _ _ _ hO (.lit _ (B3))
theorem c133 (N aA r) (h : Bp N aA = some r) : B6 prog 133 [(B9 aA)] (.tup [.sl (Ar.lst eXZ r.1) .ro, vi r.2]) := by
 unfold Bp at h
 refine J9 cf0 func133 call133 ntmps133 ?_;intro E H0 K hE hK hO;cbv;refine A7 hE h (c176 N aA) (.refl _) fun r1 h => ?_;cbv;refine A6 hE h (fun hc h => ?_) (fun hc h => ?_)
 ·cbv;cases h;exact hK _ _ _ hO (.tup (.cons (.lit _ (B3)) (.refl _)))
 cbv;refine A7 hE h (c177 N N aA) (.refl _) fun r2 h => ?_;cbv;cases h;exact hK _ _ _ hO (.refl _)
def cf97 : Cf := ⟨[2, 3, 4, 7], [(17, 3), (3000014, 0), (3000014, 1), (3000014, 2), (3000014, 3), (3000014, 6), (3000014, 7), (3000014, 8), (3000014, 10), (3000014, 12)], [], [2000014], [], [(17, 2, [2])]⟩
set_option maxHeartbeats 2000000 in
theorem c97 (N aA r) (h : BP N aA = some r) : B6 prog 97 [(B9 aA)] (.tup [(Io r.1), .sl (Ar.lst eXJ r.2.1) .ro, vi r.2.2]) := by
 unfold BP at h
 refine J9 cf97 func97 call97 ntmps97 ?_;intro E H0 K hE hK hO;cbv;refine C8 hE hO fun b1 H hO => ?_;cbv;refine C8 hE hO fun b2 H hO => ?_;cbv;refine C8 hE hO fun b3 H hO => ?_;cbv;refine A7 hE h (c130 N aA) (.refl _) fun r4 h => ?_;cbv;refine A6 hE h (fun hc h => ?_) (fun hc h => ?_)
 ·cbv;refine A8 hE hO 2 rfl rfl fun H hO => ?_;cbv;refine A8 hE hO 1 rfl rfl fun H hO => ?_;cbv;refine A8 hE hO 0 rfl rfl fun H hO => ?_;cbv;refine B1 hE hO 2 rfl ?_;cbv;refine B1 hE hO 1 rfl ?_;cbv;refine B1 hE hO 0 rfl ?_;cbv;cases h;exact hK _ _ _ hO (.tup (.cons (.agg (.cons (.refl _) (.cons (.refl _) (.cons (.lit _ (B3)) (.cons (.lit _ (B3)) (.refl _)))))) (.cons (.lit _ (B3)) (.refl _))))
 cbv;refine C8 hE hO fun b5 H hO => ?_;cbv;refine A7 hE h (c131 N aA) (.refl _) fun r6 h => ?_;cbv;refine A8 hE hO 0 rfl rfl fun H hO => ?_;cbv;refine A8 hE hO 0 rfl rfl fun H hO => ?_;cbv;refine A6 hE h (fun hc h => ?_) (fun hc h => ?_)
 ·cbv;refine A8 hE hO 3 rfl rfl fun H hO => ?_;cbv;refine A8 hE hO 2 rfl rfl fun H hO => ?_;cbv;refine A8 hE hO 1 rfl rfl fun H hO => ?_;cbv;refine B1 hE hO 3 rfl ?_;cbv;refine B1 hE hO 2 rfl ?_;cbv;refine B1 hE hO 1 rfl ?_;cbv;cases h;exact hK _ _ _ hO (.tup (.cons (.agg (.cons (.refl _) (.cons (.refl _) (.cons (.lit _ (B3)) (.cons (.lit _ (B3)) (.refl _)))))) (.cons (.lit _ (B3)) (.refl _))))
 cbv;refine Q0 hE h (c132 N r4.1) (.refl _) fun r7 v8 hv8 h => ?_;cbv;replace hO := hO.cast (L' := [.blk b5 (.cells [vi r6.1, vi r6.2.1, .sl (Ar.lst eXX ([])) .nil, .sl (Ar.lst eXK ([])) .nil]), .blk b3 (.cells [vi 0]), .blk b2 (.cells [.sl [] .nil]), .blk b1 (.cells [vi 0, vi 0, .sl [] .nil, .sl [] .nil])]) (by first | (simp only [← B3]; done) | (simp only [← B3]; rfl));replace hO := hO.tl0 (t := .nil) rfl;replace hO := hO.tl0 (t := .nil) rfl;obtain ⟨o15, hx, h⟩ := bind_some h;refine AG cf97 hE G7 (ι := Unit) (enc := fun (x : (Int × (List B8))) => [vi x.1, .sl (Ar.lst eXK x.2) .ro]) (fun (s10 : I8) F H => ∃ g : D6 × D6, (N2 g.1 ∧ N2 g.2) ∧ B4 Eq F [.tl g.1, .tl g.2, .blk b5 (.cells [vi s10.Vars, vi s10.Scopes, .sl (Ar.lst eXX s10.States) g.2, .sl (Ar.lst eXK s10.Edges) g.1]), .blk b3 (.cells [vi 0]), .blk b2 (.cells [.sl [] .nil]), .blk b1 (.cells [vi 0, vi 0, .sl [] .nil, .sl [] .nil])] H) (fun (r : (I8 × Int)) e F H => ∃ g : D6 × D6, (e = .ret ∧ N2 g.1 ∧ N2 g.2) ∧ B4 Eq F [.tl g.1, .tl g.2, .blk b5 (.cells [vi r.1.Vars, vi r.1.Scopes, .sl (Ar.lst eXX r.1.States) g.2, .sl (Ar.lst eXK r.1.Edges) g.1]), .blk b3 (.cells [vi r.2]), .blk b2 (.cells [.sl [] .nil]), .blk b1 (.cells [vi 0, vi 0, .sl [] .nil, .sl [] .nil])] H) (fun i s10 y9 => [(2, .v (.ref b1 0)), (3, .v (.ref b2 0)), (4, .v (.ref b3 0)), (5, .v (.eref [.sl (Ar.lst eXJ r4.1) .ro] 0)), (7, .v (.ref b5 0)), (8, .v (vi y9.1)), (9, .v (.sl (Ar.lst eXK y9.2) .ro))]) (fun i s10 y9 F H => ∃ g : D6 × D6, (N2 g.1 ∧ N2 g.2) ∧ B4 Eq F [.tl g.1, .tl g.2, .blk b5 (.cells [vi s10.Vars, vi s10.Scopes, .sl (Ar.lst eXX s10.States) g.2, .sl (Ar.lst eXK s10.Edges) g.1]), .blk b3 (.cells [vi 0]), .blk b2 (.cells [.sl [] .nil]), .blk b1 (.cells [vi 0, vi 0, .sl [] .nil, .sl [] .nil])] H) (fun _ => C6.ex fun _ => B4.stable B7 _) (fun _ _ => C6.ex fun _ => B4.stable B7 _) (fun _ _ _ => C6.ex fun _ => B4.stable B7 _) hv8 hx (⟨⟨.nil, .nil⟩, ⟨trivial, trivial⟩, hO⟩) (by decide) (fun _ => rfl) (by kernel_rfl) (by kernel_rfl) ?_ ?_ ?_ ?_
 ·rintro E i12 y9 s10 F11 H hE ⟨⟨t13, t14⟩, ⟨ht13, ht14⟩, hO⟩;clear hx h;cbv;exact ⟨(), ⟨⟨t13, t14⟩, ⟨ht13, ht14⟩, hO⟩, .e rfl (.e2 (.e4 .z)), rfl⟩
 ·rintro E i12 _ y9 s10 F11 H o hE hF h ⟨⟨t13, t14⟩, ⟨ht13, ht14⟩, hO⟩;clear hx;cbv;refine C2 hE eXO h fun x16 h => ?_;cbv;refine A7 hE h (c133 N x16) (.refl _) fun r17 h => ?_;cbv;refine A6 hE h (fun hc h => ?_) (fun hc h => ?_)
  ·cbv;refine A8 hE hO 5 rfl rfl fun H hO => ?_;cbv;refine A8 hE hO 4 rfl rfl fun H hO => ?_;cbv;refine A8 hE hO 3 rfl rfl fun H hO => ?_;cbv;cases h;exact ⟨_, rfl, rfl, ⟨⟨t13, t14⟩, ⟨rfl, ⟨ht13, ht14⟩⟩, hO⟩⟩
  cbv;obtain ⟨s18, hx, h⟩ := bind_some h;refine J8 cf97 hE G7 (fun e l H1 => ∃ u1 : D6, N2 u1 ∧ ∃ u2 : D6, N2 u2 ∧ e = .normal ∧ l = [] ∧ B4 Eq F11 [.tl u1, .tl u2, .blk b5 (.cells [vi s18.Vars, vi s18.Scopes, .sl (Ar.lst eXX s18.States) u2, .sl (Ar.lst eXK s18.Edges) u1]), .blk b3 (.cells [vi 0]), .blk b2 (.cells [.sl [] .nil]), .blk b1 (.cells [vi 0, vi 0, .sl [] .nil, .sl [] .nil])] H1) (by kernel_rfl) ?_ ?_
  ·clear h;have h := hx;clear hx;cbv
   repeat' first | refine And.intro ?_ ?_ | (refine B1 hE hO 2 rfl ?_; cbv) | (refine V9 (f := eXX) hE Rf (by decide) hO 1 rfl ht14 (l := s10.States) (m := [(⟨r17.1⟩ : GR)]) (.refl _) (.lstc (.eq (eYu (⟨r17.1⟩ : GR)) (.refl _)) (.lst0)) h fun l220 t219 H hO ht219 h => ?_; cbv) | (refine V9 (f := eXK) hE GZ (by decide) hO 0 rfl ht13 (l := s10.Edges) (m := y9.2) (.refl _) (.refl _) h fun l380 t379 H hO ht379 h => ?_; cbv) | (refine A8 hE hO 2 rfl rfl fun H hO => ?_; cbv) | (have h := O2 h; subst h; exact ⟨_, ⟨t379, ht379, t219, ht219, rfl, rfl, hO⟩, .z, rfl⟩)
  clear hx;rintro e l H ⟨t619, ht619, t620, ht620, rfl, rfl, hO⟩;cbv;cases h;exact ⟨_, rfl, ⟨⟨t619, t620⟩, ⟨ht619, ht620⟩, hO⟩⟩
 ·rintro d621 s625 H rfl hd ⟨⟨t626, t627⟩, ⟨ht626, ht627⟩, hO⟩;have hO : B4 Eq H0 [.tl t626, .tl t627, .blk b5 (.cells [vi s625.Vars, vi s625.Scopes, .sl (Ar.lst eXX s625.States) t627, .sl (Ar.lst eXK s625.Edges) t626]), .blk b3 (.cells [vi 0]), .blk b2 (.cells [.sl [] .nil]), .blk b1 (.cells [vi 0, vi 0, .sl [] .nil, .sl [] .nil]), .blk d621 DB] H := B4.dblk hd hO;clear hd;clear hx;cbv;refine B1 hE hO 2 rfl ?_;cbv;refine D5 hE ?_;cbv;refine A6 hE h (fun hc h => ?_) (fun hc h => ?_)
  ·cbv;refine A8 hE hO 5 rfl rfl fun H hO => ?_;cbv;refine A8 hE hO 4 rfl rfl fun H hO => ?_;cbv;refine A8 hE hO 3 rfl rfl fun H hO => ?_;cbv;refine Ax hE hO 6 rfl fun H hO => ?_;cbv;refine B1 hE hO 5 rfl ?_;cbv;refine B1 hE hO 4 rfl ?_;cbv;refine B1 hE hO 3 rfl ?_;cbv;cases h;exact hK _ _ _ hO (.tup (.cons (.agg (.cons (.refl _) (.cons (.refl _) (.cons (.lit _ (B3)) (.cons (.lit _ (B3)) (.refl _)))))) (.cons (.lit _ (B3)) (.refl _))))
  cbv;refine JM hE hO 5 rfl fun H1 hT hW => ?_;cbv;refine B1 hE hW 2 rfl ?_;cbv;refine CX hE trivial ?_;cbv;refine JP hE hO 5 rfl hT fun H hO => ?_;cbv;refine A8 hE hO 4 rfl rfl fun H hO => ?_;cbv;refine A8 hE hO 3 rfl rfl fun H hO => ?_;cbv;refine Ax hE hO 6 rfl fun H hO => ?_;cbv;refine B1 hE hO 5 rfl ?_;cbv;refine B1 hE hO 4 rfl ?_;cbv;refine B1 hE hO 3 rfl ?_;cbv;cases h;exact hK _ _ _ hO (.tup (.cons (.agg (.cons (.refl _) (.cons (.refl _) (.cons (.ro _ _) (.cons (.ro _ _) (.refl _)))))) (.refl _)))
 rintro d621 y628 e H rfl hd hX;clear hx
 rcases hX with ⟨⟨t629, t630⟩, ⟨rfl, ht629, ht630⟩, hO⟩
 have hO : B4 Eq H0 [.tl t629, .tl t630, .blk b5 (.cells [vi y628.1.Vars, vi y628.1.Scopes, .sl (Ar.lst eXX y628.1.States) t630, .sl (Ar.lst eXK y628.1.Edges) t629]), .blk b3 (.cells [vi y628.2]), .blk b2 (.cells [.sl [] .nil]), .blk b1 (.cells [vi 0, vi 0, .sl [] .nil, .sl [] .nil]), .blk d621 DB] H := B4.dblk hd hO;clear hd;cbv;refine Ax hE hO 6 rfl fun H hO => ?_;cbv;refine B1 hE hO 5 rfl ?_;cbv;refine B1 hE hO 4 rfl ?_;cbv;refine B1 hE hO 3 rfl ?_;cbv;cases h;exact hK _ _ _ hO (.tup (.cons (.agg (.cons (.refl _) (.cons (.refl _) (.cons (.lit _ (B3)) (.cons (.lit _ (B3)) (.refl _)))))) (.cons (.lit _ (B3)) (.refl _))))
def cf52 : Cf := ⟨[2], [], [], [], [], []⟩
theorem c52 (N aA r) (h : Cs N aA = some r) : B6 prog 52 [(B9 aA)] (.tup [(Io r.1), vi r.2]) := by
 unfold Cs at h
 refine J9 cf52 func52 call52 ntmps52 ?_;intro E H0 K hE hK hO;cbv;refine C8 hE hO fun b1 H hO => ?_;cbv;refine A7 hE h (c97 N aA) (.refl _) fun r2 h => ?_;cbv;refine A8 hE hO 0 rfl rfl fun H hO => ?_;cbv;refine B1 hE hO 0 rfl ?_;cbv;cases h;exact hK _ _ _ hO (.refl _)
theorem c98 (N : Nat) (aB : List A4) (aV : V) (aO : A4 → Option Bool) (bC : ∀ y1 q, aO y1 = some q → R4 prog aV [(B9 y1)] (.bool q)) (r : Bool) (h : J1 N aB aO = some r) : B6 prog 98 [.sl (Ar.lst eXJ aB) .ro, aV] (.bool r) := by
 unfold J1 at h
 refine J9 cf0 func98 call98 ntmps98 ?_;intro E H0 K hE hK hO;cbv;refine A7 hE h (c134 N aB aV aO bC) (.refl _) fun r1 h => ?_;cbv;cases h;exact hK _ _ _ hO (.refl _)
def cf53 : Cf := ⟨[], [], [(5, 4)], [], [], []⟩
def K53 (N n : Nat) : Prop := ∀ (aA : A4) (r : Bool), U2 N n aA = some r → B6 prog 53 [(B9 aA)] (.bool r)
def K99 (N n : Nat) : Prop := ∀ (aC : A4) (r : Bool), U1 N n aC = some r → B6 prog 99 [(B9 aC)] (.bool r)
theorem k53 (N n : Nat) (ih99 : K99 N n) : K53 N (n + 1) := by
 intro aA r h
 unfold U2 at h
 refine J9 cf53 func53 call53 ntmps53 ?_;intro E H0 K hE hK hO;cbv;obtain ⟨s1, hx, h⟩ := bind_some h;refine J8 cf53 hE G7 (fun e l H1 => e = .normal ∧ l = [(1, .v (.eref (D3 aA) 0)), (5, .v (.bool s1))] ∧ B4 Eq H0 [] H1) (by kernel_rfl) ?_ ?_
 ·clear h;have h := hx;clear hx;cbv;refine A6 hE h (fun hc h => ?_) (fun hc h => ?_)
  ·cbv;cases h;exact ⟨_, ⟨rfl, rfl, hO⟩, .e2 .z, rfl⟩
  cbv;refine A6 hE h (fun hc h => ?_) (fun hc h => ?_)
  ·cbv;cases h;exact ⟨_, ⟨rfl, rfl, hO⟩, .e2 .z, rfl⟩
  cbv;refine A6 hE h (fun hc h => ?_) (fun hc h => ?_)
  ·cbv;cases h;exact ⟨_, ⟨rfl, rfl, hO⟩, .e2 .z, rfl⟩
  cbv;refine A6 hE h (fun hc h => ?_) (fun hc h => ?_)
  ·cbv;cases h;exact ⟨_, ⟨rfl, rfl, hO⟩, .e2 .z, rfl⟩
  cbv;cases h;exact ⟨_, ⟨rfl, rfl, hO⟩, .e2 .z, rfl⟩
 clear hx;rintro e l H ⟨rfl, rfl, hO⟩;cbv;refine A6 hE h (fun hc h => ?_) (fun hc h => ?_)
 ·cbv;refine A7 hE (g := fun r2 => .bool r2) h (fun r2 hx => c98 N aA.Args (.func (.func 99) [] []) (fun y1 => U1 N n y1) (fun y1 r hx => B6.value (F := []) (C := []) (ih99 y1 r hx)) r2 hx) (.refl _) fun r2 h => ?_;cbv;cases h;exact hK _ _ _ hO (.refl _)
 cbv;cases h;exact hK _ _ _ hO (.refl _)
theorem k99 (N n : Nat) (ih53 : K53 N n) : K99 N (n + 1) := by
 intro aC r h
 unfold U1 at h
 refine J9 cf0 func99 call99 ntmps99 ?_;intro E H0 K hE hK hO;cbv;refine A7 hE h (ih53 aC) (.refl _) fun r1 h => ?_;cbv;cases h;exact hK _ _ _ hO (.refl _)
theorem Wx (N : Nat) : ∀ n, K53 N n ∧ K99 N n := by
 intro n
 induction n with
 | zero => exact ⟨(by intro aA r h; unfold U2 at h; cases h), (by intro aC r h; unfold U1 at h; cases h)⟩
 | succ n ih =>
  obtain ⟨ih53, ih99⟩ := ih;exact ⟨k53 N n ih99, k99 N n ih53⟩
theorem c53 (N n aA r) (h : U2 N n aA = some r) : B6 prog 53 [(B9 aA)] (.bool r) := (Wx N n).1 aA r h
def cf181 : Cf := ⟨[], [(7, 9)], [], [], [], []⟩
theorem c181 (N aX aD r) (h : Cr N aX aD = some r) : B6 prog 181 [(GY aX), (An aD)] (.tup [vi r.1, vi r.2]) := by
 unfold Cr at h
 refine J9 cf181 func181 call181 ntmps181 ?_;intro E H0 K hE hK hO;cbv;refine A6 hE h (fun hc h => ?_) (fun hc h => ?_)
 ·cbv;cases h;exact hK _ _ _ hO (.refl _)
 cbv;refine D5 hE ?_;cbv;refine A6 hE h (fun hc h => ?_) (fun hc h => ?_)
 ·cbv;cases h;exact hK _ _ _ hO (.refl _)
 cbv;refine A6 hE h (fun hc h => ?_) (fun hc h => ?_)
 ·cbv;cases h;exact hK _ _ _ hO (.refl _)
 cbv;refine C2 hE eYi h fun x1 h => ?_;cbv;refine C2 hE eYk h fun x2 h => ?_;cbv;refine D5 hE ?_;cbv;refine A6 hE h (fun hc h => ?_) (fun hc h => ?_)
 ·cbv;cases h;exact hK _ _ _ hO (.refl _)
 cbv;refine C2 hE eYq h fun x3 h => ?_;cbv;refine A6 hE h (fun hc h => ?_) (fun hc h => ?_)
 ·cbv;refine A6 hE h (fun hc h => ?_) (fun hc h => ?_)
  ·cbv;cases h;exact hK _ _ _ hO (.refl _)
  cbv;refine A7 hE h (c223 N aD.Kind (⟨x3.Kind, 0, ⟨#[]⟩⟩ : O9)) (.refl _) fun r4 h => ?_;cbv;refine A6 hE h (fun hc h => ?_) (fun hc h => ?_)
  ·cbv;cases h;exact hK _ _ _ hO (.refl _)
  cbv;cases h;exact hK _ _ _ hO (.refl _)
 cbv;cases h;exact hK _ _ _ hO (.refl _)
def cf182 : Cf := ⟨[], [], [(15, 8), (22, 13)], [], [], []⟩
theorem c182 (N aL aY r) (h : DR N aL aY = some r) : B6 prog 182 [vi aL, .sl (Ar.lst (V.int .i64) aY) .ro] (vi r) := by
 unfold DR at h
 refine J9 cf182 func182 call182 ntmps182 ?_;intro E H0 K hE hK hO;cbv;refine D5 hE ?_;cbv;obtain ⟨s2, hx, h⟩ := bind_some h;refine F3 cf182 hE G7 (fun s1 => [(0, .v (vi aL)), (1, .v (.sl (Ar.lst (V.int .i64) aY) .ro)), (8, .v (.sl (Ar.lst (V.int .i64) aY) .ro)), (9, .v (vi (Ar.len aY))), (10, .v (vi s1))]) (fun s1 H1 => B4 Eq H0 [] H1) (fun x e l H1 => match (generalizing := false) x with | .inl y => e = .exit 0 ∧ l = [] ∧ B4 Eq H0 [] H1 | .inr y => e = .ret ∧ l = [(4, .v (vi 9))] ∧ B4 Eq H0 [] H1) (by kernel_rfl) ?_ hx ?_ hO ?_
 ·intro s1 H o hO h;clear hx;cbv;refine A6 hE h (fun hc h => ?_) (fun hc h => ?_)
  ·cbv;refine C2 hE (fun _ => rfl) h fun x3 h => ?_;cbv;obtain ⟨s4, hx, h⟩ := bind_some h;refine J8 cf182 hE G7 (fun e l H1 => e = .normal ∧ l = [(0, .v (vi aL)), (1, .v (.sl (Ar.lst (V.int .i64) aY) .ro)), (6, .v (vi x3)), (7, .b true), (8, .v (.sl (Ar.lst (V.int .i64) aY) .ro)), (9, .v (vi (Ar.len aY))), (10, .v (vi s1)), (14, .v (vi aL)), (15, .v (.bool s4))] ∧ B4 Eq H0 [] H1) (by kernel_rfl) ?_ ?_
   ·clear h;have h := hx;clear hx;cbv;refine A6 hE h (fun hc h => ?_) (fun hc h => ?_)
    ·cbv;cases h;exact ⟨_, ⟨rfl, rfl, hO⟩, .e rfl (.e2 (.b rfl (.e rfl (.e rfl (.e rfl (.e rfl (.e rfl (.z)))))))), rfl⟩
    cbv;refine A6 hE h (fun hc h => ?_) (fun hc h => ?_)
    ·cbv;cases h;exact ⟨_, ⟨rfl, rfl, hO⟩, .e rfl (.e2 (.b rfl (.e rfl (.e rfl (.e rfl (.e rfl (.e rfl (.z)))))))), rfl⟩
    cbv;refine A6 hE h (fun hc h => ?_) (fun hc h => ?_)
    ·cbv;cases h;exact ⟨_, ⟨rfl, rfl, hO⟩, .e rfl (.e2 (.b rfl (.e rfl (.e rfl (.e rfl (.e rfl (.e rfl (.z)))))))), rfl⟩
    cbv;cases h;exact ⟨_, ⟨rfl, rfl, hO⟩, .e rfl (.e2 (.b rfl (.e rfl (.e rfl (.e rfl (.e rfl (.e rfl (.z)))))))), rfl⟩
   clear hx;rintro e l H ⟨rfl, rfl, hO⟩;cbv;refine A6 hE h (fun hc h => ?_) (fun hc h => ?_)
   ·cbv;refine A6 hE h (fun hc h => ?_) (fun hc h => ?_)
    ·cbv;cases h;exact ⟨_, _, rfl, ⟨rfl, rfl, hO⟩, .e rfl .z, rfl⟩
    cbv;cases h;exact ⟨_, rfl, .e rfl (.e4 .z), rfl, hO⟩
   cbv;obtain ⟨s5, hx, h⟩ := bind_some h;refine J8 cf182 hE G7 (fun e l H1 => e = .normal ∧ l = [(0, .v (vi aL)), (1, .v (.sl (Ar.lst (V.int .i64) aY) .ro)), (6, .v (vi x3)), (7, .b true), (8, .v (.sl (Ar.lst (V.int .i64) aY) .ro)), (9, .v (vi (Ar.len aY))), (10, .v (vi s1)), (14, .v (vi aL)), (22, .v (.bool s5))] ∧ B4 Eq H0 [] H1) (by kernel_rfl) ?_ ?_
   ·clear h;have h := hx;clear hx;cbv;refine A6 hE h (fun hc h => ?_) (fun hc h => ?_)
    ·cbv;cases h;exact ⟨_, ⟨rfl, rfl, hO⟩, .e rfl (.e2 (.b rfl (.e rfl (.e rfl (.e rfl (.e rfl (.e rfl (.z)))))))), rfl⟩
    cbv;refine A6 hE h (fun hc h => ?_) (fun hc h => ?_)
    ·cbv;cases h;exact ⟨_, ⟨rfl, rfl, hO⟩, .e rfl (.e2 (.b rfl (.e rfl (.e rfl (.e rfl (.e rfl (.e rfl (.z)))))))), rfl⟩
    cbv;cases h;exact ⟨_, ⟨rfl, rfl, hO⟩, .e rfl (.e2 (.b rfl (.e rfl (.e rfl (.e rfl (.e rfl (.e rfl (.z)))))))), rfl⟩
   clear hx;rintro e l H ⟨rfl, rfl, hO⟩;cbv;refine A6 hE h (fun hc h => ?_) (fun hc h => ?_)
   ·cbv;refine A6 hE h (fun hc h => ?_) (fun hc h => ?_)
    ·cbv;cases h;exact ⟨_, _, rfl, ⟨rfl, rfl, hO⟩, .e rfl .z, rfl⟩
    cbv;cases h;exact ⟨_, rfl, .e rfl (.e4 .z), rfl, hO⟩
   cbv;refine A6 hE h (fun hc h => ?_) (fun hc h => ?_)
   ·cbv;refine C2 hE (fun _ => rfl) h fun x6 h => ?_;cbv;refine A6 hE h (fun hc h => ?_) (fun hc h => ?_)
    ·cbv;cases h;exact ⟨_, _, rfl, ⟨rfl, rfl, hO⟩, .e rfl .z, rfl⟩
    cbv;cases h;exact ⟨_, rfl, .e rfl (.e4 .z), rfl, hO⟩
   cbv;cases h;exact ⟨_, rfl, .e rfl (.e4 .z), rfl, hO⟩
  cbv;cases h;exact ⟨_, _, rfl, ⟨rfl, rfl, hO⟩, .z, rfl⟩
 ·exact .e rfl (.e4 .z)
 clear hx
 rcases s2 with y7 | y8
 ·rintro e l H ⟨rfl, rfl, hO⟩;cbv;cases h;exact hK _ _ _ hO (.refl _)
 rintro e l H ⟨rfl, rfl, hO⟩;cbv;cases h;exact hK _ _ _ hO (.refl _)
theorem c136 (N : Nat) : ∀ n aX aD r, AJ N n aX aD = some r → B6 prog 136 [(GY aX), (An aD)] (.tup [vi r.1, vi r.2]) := by
 intro n
 induction n with
 | zero => intro aX aD r h; cases h
 | succ n ih =>
 intro aX aD r h
 unfold AJ at h
 refine J9 cf0 func136 call136 ntmps136 ?_;intro E H0 K hE hK hO;cbv;refine D5 hE ?_;cbv;refine A6 hE h (fun hc h => ?_) (fun hc h => ?_)
 ·cbv;refine A7 hE h (c181 N aX aD) (.refl _) fun r1 h => ?_;cbv;cases h;exact hK _ _ _ hO (.refl _)
 cbv;refine D5 hE ?_;cbv;replace hO := hO.tl0 (t := .nil) rfl;obtain ⟨s4, hx, h⟩ := bind_some h;refine I6 cf0 hE G7 (γ := D6) (fun s2 g => [(2, .v (.eref (Hx aX) 0)), (3, .v (.eref (BR aD) 0)), (6, .v (.sl (Ar.lst (V.int .i64) s2.1) g)), (22, .v (.sl (Ar.lst eXL aD.Args) .ro)), (23, .v (vi (Ar.len aD.Args))), (24, .v (vi s2.2))]) (fun s2 g H1 => N2 g ∧ B4 Eq H0 [.tl g] H1) (fun x e l H1 => match (generalizing := false) x with | .inl y => ∃ u1 : D6, N2 u1 ∧ e = .exit 0 ∧ l = [(3, .v (.eref (BR aD) 0)), (6, .v (.sl (Ar.lst (V.int .i64) y) u1))] ∧ B4 Eq H0 [.tl u1] H1 | .inr y => ∃ u1 : D6, N2 u1 ∧ e = .ret ∧ l = [(4, .v (vi 0)), (5, .v (vi y))] ∧ B4 Eq H0 [.tl u1] H1) (by kernel_rfl) ?_ .nil hx ?_ ?_ ?_
 ·rintro s2 t3 H o ⟨ht3, hO⟩ h;clear hx;cbv;refine A6 hE h (fun hc h => ?_) (fun hc h => ?_)
  ·cbv;refine C2 hE eXV h fun x5 h => ?_;cbv;refine A7 hE h (ih aX x5) (.refl _) fun r6 h => ?_;cbv;refine A6 hE h (fun hc h => ?_) (fun hc h => ?_)
   ·cbv;cases h;exact ⟨_, _, rfl, ⟨t3, ht3, rfl, rfl, hO⟩, .e2 .z, rfl⟩
   cbv;refine V9 (f := (V.int .i64)) hE (fun _ => rfl) (by decide) hO 0 rfl ht3 (l := s2.1) (m := [r6.1]) (.refl _) (.lstc (.refl _) (.lst0)) h fun l8 t7 H hO ht7 h => ?_;cbv;cases h;exact ⟨_, t7, rfl, .e2 (.e4 .z), rfl, ht7, hO⟩
  cbv;cases h;exact ⟨_, _, rfl, ⟨t3, ht3, rfl, rfl, hO⟩, .e2 .z, rfl⟩
 ·exact .e2 (.v (.slt _ (.lst0)) (.e rfl (.e rfl (.e rfl (.z)))))
 ·exact ⟨trivial, hO⟩
 clear hx
 rcases s4 with y9 | y12
 ·rintro e l H ⟨t10, ht10, rfl, rfl, hO⟩;cbv;refine A7 hE h (c182 N aD.Op y9) (.cons (.refl _) (.cons (.ro _ _) (.refl _))) fun r11 h => ?_;cbv;refine A6 hE h (fun hc h => ?_) (fun hc h => ?_)
  ·cbv;cases h;exact hK _ _ _ hO (.refl _)
  cbv;refine A6 hE h (fun hc h => ?_) (fun hc h => ?_)
  ·cbv;cases h;exact hK _ _ _ hO (.refl _)
  cbv;cases h;exact hK _ _ _ hO (.refl _)
 rintro e l H ⟨t13, ht13, rfl, rfl, hO⟩;cbv;cases h;exact hK _ _ _ hO (.refl _)
theorem c100 (N aJ bI aD r) (h : Id N aJ bI aD = some r) : B6 prog 100 [.sl (Ar.lst eXW aJ) .ro, .sl (Ar.lst eXU bI) .ro, (An aD)] (.tup [vi r.1, vi r.2]) := by
 unfold Id at h
 refine J9 cf0 func100 call100 ntmps100 ?_;intro E H0 K hE hK hO;cbv;refine A7 hE h (c51 N aJ) (.refl _) fun r1 h => ?_;cbv;refine A6 hE h (fun hc h => ?_) (fun hc h => ?_)
 ·cbv;cases h;exact hK _ _ _ hO (.refl _)
 cbv;refine D5 hE ?_;cbv;refine A6 hE h (fun hc h => ?_) (fun hc h => ?_)
 ·cbv;cases h;exact hK _ _ _ hO (.refl _)
 cbv;refine D5 hE ?_;cbv;obtain ⟨s3, hx, h⟩ := bind_some h;refine F3 cf0 hE G7 (fun s2 => [(0, .v (.sl (Ar.lst eXW aJ) .ro)), (1, .v (.sl (Ar.lst eXU bI) .ro)), (5, .v (.eref (BR aD) 0)), (20, .v (.sl (Ar.lst eXU bI) .ro)), (21, .v (vi (Ar.len bI))), (22, .v (vi s2))]) (fun s2 H1 => B4 Eq H0 [] H1) (fun x e l H1 => match (generalizing := false) x with | .inl y => e = .exit 0 ∧ l = [(0, .v (.sl (Ar.lst eXW aJ) .ro)), (1, .v (.sl (Ar.lst eXU bI) .ro)), (5, .v (.eref (BR aD) 0))] ∧ B4 Eq H0 [] H1 | .inr y => e = .ret ∧ l = [(6, .v (vi 0)), (7, .v (vi 6))] ∧ B4 Eq H0 [] H1) (by kernel_rfl) ?_ hx ?_ hO ?_
 ·intro s2 H o hO h;clear hx;cbv;refine A6 hE h (fun hc h => ?_) (fun hc h => ?_)
  ·cbv;refine C2 hE eYi h fun x4 h => ?_;cbv;refine D5 hE ?_;cbv;refine A6 hE h (fun hc h => ?_) (fun hc h => ?_)
   ·cbv;cases h;exact ⟨_, _, rfl, ⟨rfl, rfl, hO⟩, .e2 .z, rfl⟩
   cbv;cases h;exact ⟨_, rfl, .e2 (.e4 .z), rfl, hO⟩
  cbv;cases h;exact ⟨_, _, rfl, ⟨rfl, rfl, hO⟩, .e rfl (.e2 .z), rfl⟩
 ·exact .e2 (.e4 .z)
 clear hx
 rcases s3 with y5 | y8
 ·rintro e l H ⟨rfl, rfl, hO⟩;cbv;refine A7 hE h (c135 N aD) (.refl _) fun r6 h => ?_;cbv;refine A6 hE h (fun hc h => ?_) (fun hc h => ?_)
  ·cbv;cases h;exact hK _ _ _ hO (.refl _)
  cbv;refine A7 hE h (c136 N N (⟨aJ, bI⟩ : V4) aD) (.refl _) fun r7 h => ?_;cbv;cases h;exact hK _ _ _ hO (.refl _)
 rintro e l H ⟨rfl, rfl, hO⟩;cbv;cases h;exact hK _ _ _ hO (.refl _)
theorem c184 (N aH aM r) (h : GO N aH aM = some r) : B6 prog 184 [.int .u64 aH, .int .u64 aM] (.tup [.int .u64 r.1, .int .u64 r.2]) := by
 unfold GO at h
 refine J9 cf0 func184 call184 ntmps184 ?_;intro E H0 K hE hK hO;cbv;refine FW hE (Ek hE rfl) ?_;cbv;refine FW hE (Ek hE rfl) ?_;cbv;refine FW hE (Ek hE rfl) ?_;cbv;refine FW hE (Ek hE rfl) ?_;cbv;refine FW hE (Ek hE rfl) ?_;cbv;cases h;exact hK _ _ _ hO (.refl _)
theorem c137 (N aH aM r) (h : KA N aH aM = some r) : B6 prog 137 [.int .u64 aH, .int .u64 aM] (.tup [.int .u64 r.1, .int .u64 r.2]) := by
 unfold KA at h
 refine J9 cf0 func137 call137 ntmps137 ?_;intro E H0 K hE hK hO;cbv;refine A7 hE h (c184 N aH aM) (.refl _) fun r1 h => ?_;cbv;cases h;exact hK _ _ _ hO (.refl _)
def cf101 : Cf := ⟨[], [(9, 7), (1000009, 0)], [(10, 3), (26, 6)], [], [], []⟩
theorem c101 (N aH bS r) (h : L1 N aH bS = some r) : B6 prog 101 [.sl (Ar.lst eXU aH) .ro, vi bS] (.sl (Ar.lst eXU r) .ro) := by
 unfold L1 at h
 refine Q9 (T := TT) cf101 G7 func101 (by rfl) (by kernel_rfl) call101 ntmps101 (by rfl) (by rfl) ?_;intro E H0 K hE hK hF;have hO : B4 Eq H0 [] H0 := .start B7 rfl;cbv;obtain ⟨s1, hx, h⟩ := bind_some h;refine J8 cf101 hE G7 (fun e l H1 => e = .normal ∧ l = [(0, .v (.sl (Ar.lst eXU aH) .ro)), (1, .v (vi bS))] ∧ B4 Eq H0 [] H1) (by kernel_rfl) ?_ ?_
 ·clear h;have h := hx;clear hx;cbv;refine A6 hE h (fun hc h => ?_) (fun hc h => ?_)
  ·cbv;cases h
  cbv;cases h;exact ⟨_, ⟨rfl, rfl, hO⟩, .e2 .z, rfl⟩
 clear hx;rintro e l H ⟨rfl, rfl, hO⟩;cbv;refine D5 hE ?_;cbv;refine A7 hE h (c137 N (Ar.wr .u64 (Ar.len aH)) (Ar.wr .u64 bS)) (.refl _) fun r2 h => ?_;cbv;obtain ⟨s3, hx, h⟩ := bind_some h;refine J8 cf101 hE G7 (fun e l H1 => e = .normal ∧ l = [(0, .v (.sl (Ar.lst eXU aH) .ro)), (6, .v (.int .u64 r2.2))] ∧ B4 Eq H0 [] H1) (by kernel_rfl) ?_ ?_
 ·clear h;have h := hx;clear hx;cbv;refine A6 hE h (fun hc h => ?_) (fun hc h => ?_)
  ·cbv;cases h
  cbv;cases h;exact ⟨_, ⟨rfl, rfl, hO⟩, .e2 .z, rfl⟩
 clear hx;rintro e l H ⟨rfl, rfl, hO⟩;cbv;refine Iw hE (f := eXU) (by decide) (z0 := ((⟨⟨#[]⟩, 0⟩ : K6) : K6)) ((.eq (eYi _) (.refl _))) hO h fun l5 q4 H hq4 h hO => ?_;cbv;refine Ve (f := eXU) hE hO hq4 0 rfl (m := aH) (BD (f := eXU) hE LY (.refl _)) h fun p6 H hq4 hO h => ?_;cbv;obtain ⟨s9, hx, h⟩ := bind_some h;refine I6 cf101 hE G7 (γ := OG) (fun s7 g => [(7, .v (.own g.id g.lo g.n)), (8, .v (vi s7.1))]) (fun s7 g H1 => T6 g (Ar.len s7.2) ∧ B4 Eq H0 [.blk g.id (.arr 2 (g.pre ++ Ar.lst eXU s7.2 ++ g.rest))] H1) (fun x e l H1 => ∃ u1 : OG, T6 u1 (Ar.len x) ∧ e = .exit 0 ∧ l = [(7, .v (.own u1.id u1.lo u1.n))] ∧ B4 Eq H0 [.blk u1.id (.arr 2 (u1.pre ++ Ar.lst eXU x ++ u1.rest))] H1) (by kernel_rfl) ?_ q4 hx ?_ ?_ ?_
 ·rintro s7 q8 H o ⟨hq8, hO⟩ h;clear hx;cbv;refine EC hE hq8 ?_;cbv;refine A6 hE h (fun hc h => ?_) (fun hc h => ?_)
  ·cbv;refine RO hE hO hq8 0 rfl h fun l11 q10 hq10 h => ?_;cbv;refine RN hE hO hq8 0 rfl h fun l13 q12 hq12 h => ?_;cbv;refine NT (f := eXU) hE hO hq8 0 rfl hq10 (m := l13) (hq12) h fun p14 H hq8 hO h => ?_;cbv;cases h;exact ⟨_, q8, rfl, .e2 .z, rfl, hq8, hO⟩
  cbv;cases h;exact ⟨_, _, rfl, ⟨q8, hq8, rfl, rfl, hO⟩, .e rfl .z, rfl⟩
 ·exact .e2 .z
 ·exact ⟨hq4, hO⟩
 clear hx;rintro e l H ⟨q15, hq15, rfl, rfl, hO⟩;cbv;cases h;exact hF q15 _ _ 0 _ _ hO rfl (T8 hE hq15) (.refl _)
theorem c188 (N aG r) (h : Ai N aG = some r) : B6 prog 188 [.sl (Ar.lst eXI aG) .ro] (.tup [.sl (Ar.lst eXI r.1) .ro, vi r.2]) := by
 unfold Ai at h
 refine J9 cf0 func188 call188 ntmps188 ?_;intro E H0 K hE hK hO;cbv;refine D5 hE ?_;cbv;refine A6 hE h (fun hc h => ?_) (fun hc h => ?_)
 ·cbv;cases h;exact hK _ _ _ hO (.tup (.cons (.lit _ (B3)) (.refl _)))
 cbv;cases h;exact hK _ _ _ hO (.refl _)
theorem c206 (N aC aE r) (h : DQ N aC aE = some r) : B6 prog 206 [.sl (Ar.lst eXI aC) .ro, .sl (Ar.lst eXI aE) .ro] (vi r) := by
 unfold DQ at h
 refine J9 cf0 func206 call206 ntmps206 ?_;intro E H0 K hE hK hO;cbv;refine A7 hE h (c94 N aC) (.refl _) fun r1 h => ?_;cbv;refine A6 hE h (fun hc h => ?_) (fun hc h => ?_)
 ·cbv;cases h;exact hK _ _ _ hO (.refl _)
 cbv;refine A7 hE h (c94 N aE) (.refl _) fun r2 h => ?_;cbv;cases h;exact hK _ _ _ hO (.refl _)
def cf270 : Cf := ⟨[22], [], [], [], [], []⟩
theorem c270 (N aB aI r) (h : M8 N aB aI = some r) : IN prog 270 [.sl [] .nil, vi aI] 2 (Ar.lst eXI r) := by
 unfold M8 at h
 obtain ⟨h1, h2, hr⟩ := Hj (f := eXI) h;rw [hr];clear hr h;intro H0
 have hneg : ∀ b, Ar.cmp .lss aI 0 = b → b = false := fun b h => by rw [Ar.cmp_eq] at h; subst h; simp [Dk]; omega
 have hsub : Ar.ar .sub .i64 aI (Ar.ar .sub .i64 0 0) = aI := by rw [Ar.ar_eq, Ar.ar_eq]; simp only [WO]; rw [show (0 : Int) - 0 = 0 from rfl, wrap_small 0 (by omega) (by omega), Int.sub_zero]; exact wrap_small _ (by omega) (by omega)
 have hgt : ∀ b, Ar.cmp .gtr (Ar.ar .sub .i64 aI (Ar.ar .sub .i64 0 0)) 0 = b → (b = false → aI = 0) := fun b h => by rw [hsub, Ar.cmp_eq] at h; subst h; simp [Dk]; omega
 have hbn : aI.toNat * 16 ≤ 140737488355328 := by have := FY (a := aI.toNat) (b := 0) (by_ := 16) (by omega) (by decide); simpa using this
 have hl0 : (0 : Int) = (([] : List V).length : Nat) := rfl;refine AW (T := TT) cf270 G7 func270 (by rfl) (by kernel_rfl) call270 ntmps270 (by rfl) (by rfl) ?_;intro E K hE hK hN;cbv;refine HQ hE (fun hc => absurd (hneg _ hc) (by decide)) (fun hc => ?_);cbv;refine Ms hE hl0 ?_;cbv;refine HQ hE (fun hc2 => ?_) (fun hc2 => ?_)
 ·cbv;refine IX hE ?_;cbv;refine Hc hE aI hsub (.inl rfl) h1 hbn fun t m row j ht hm hrow => ?_;obtain ⟨RL, hRL, hR0⟩ : ∃ RL : Int, RL = (row.length : Nat) ∧ 0 ≤ RL := ⟨_, rfl, by omega⟩;cbv;refine Ms hE hl0 ?_;cbv;refine O3 hE (A9 _ _ _) hRL 0 0 rfl rfl (Int.le_refl _) (Int.le_refl _) hR0 fun l' n' q1 q2 => ?_;cbv
  have e1 : 0 = l' := by omega
  have e2 : 0 = n' := by omega
  subst e1 e2;exact hK ⟨t, 0, 0, [], row⟩ [] _ ⟨rfl, rfl⟩ ((B4.start B7 rfl).push ht rfl)
 cbv;exact hN rfl [] H0 (.start B7 rfl)
theorem c240 (N aK r) (h : L4 N aK = some r) : B6 prog 240 [.sl (Ar.lst eXM aK) .ro] (.sl (Ar.lst eXI r) .ro) := by
 unfold L4 at h
 refine Q9 (T := TT) cf0 G7 func240 (by rfl) (by kernel_rfl) call240 ntmps240 (by rfl) (by rfl) ?_;intro E H0 K hE hK hF;have hO : B4 Eq H0 [] H0 := .start B7 rfl;cbv;refine D5 hE ?_;cbv;obtain ⟨s2, hx, h⟩ := bind_some h;refine F3 cf0 hE G7 (fun s1 => [(0, .v (.sl (Ar.lst eXM aK) .ro)), (3, .v (vi s1.1)), (9, .v (.sl (Ar.lst eXM aK) .ro)), (10, .v (vi (Ar.len aK))), (11, .v (vi s1.2))]) (fun s1 H1 => B4 Eq H0 [] H1) (fun x e l H1 => e = .exit 0 ∧ l = [(0, .v (.sl (Ar.lst eXM aK) .ro)), (3, .v (vi x))] ∧ B4 Eq H0 [] H1) (by kernel_rfl) ?_ hx ?_ hO ?_
 ·intro s1 H o hO h;clear hx;cbv;refine A6 hE h (fun hc h => ?_) (fun hc h => ?_)
  ·cbv;refine C2 hE eXP h fun x3 h => ?_;cbv;refine D5 hE ?_;cbv;refine A6 hE h (fun hc h => ?_) (fun hc h => ?_)
   ·cbv;cases h
   cbv;cases h;exact ⟨_, rfl, .e rfl (.e4 .z), rfl, hO⟩
  cbv;cases h;exact ⟨_, _, rfl, ⟨rfl, rfl, hO⟩, .e2 .z, rfl⟩
 ·exact .e rfl (.e4 .z)
 clear hx;rintro e l H ⟨rfl, rfl, hO⟩;cbv;refine Dt hE (f := eXI) h (c270 N [] s2) (.cons (.refl _) (.cons (.refl _) .nil)) hO fun l4 q5 H hq5 hO h => ?_;cbv;refine D5 hE ?_;cbv;obtain ⟨s8, hx, h⟩ := bind_some h;refine I6 cf0 hE G7 (γ := OG) (fun s6 g => [(6, .v (.own g.id g.lo g.n)), (25, .v (.sl (Ar.lst eXM aK) .ro)), (26, .v (vi (Ar.len aK))), (27, .v (vi s6.1))]) (fun s6 g H1 => T6 g (Ar.len s6.2) ∧ B4 Eq H0 [.blk g.id (.arr 2 (g.pre ++ Ar.lst eXI s6.2 ++ g.rest))] H1) (fun x e l H1 => ∃ u1 : OG, T6 u1 (Ar.len x) ∧ e = .exit 2 ∧ l = [(6, .v (.own u1.id u1.lo u1.n))] ∧ B4 Eq H0 [.blk u1.id (.arr 2 (u1.pre ++ Ar.lst eXI x ++ u1.rest))] H1) (by kernel_rfl) ?_ q5 hx ?_ ?_ ?_
 ·rintro s6 q7 H o ⟨hq7, hO⟩ h;clear hx;cbv;refine A6 hE h (fun hc h => ?_) (fun hc h => ?_)
  ·cbv;refine C2 hE eXP h fun x9 h => ?_;cbv;refine DN (f := eXI) hE P7 (by decide) hO hq7 0 rfl (m := x9) (BD (f := eXI) hE P7 (.refl _)) h fun l11 q10 H hq10 hO h => ?_;cbv;cases h;exact ⟨_, q10, rfl, .e4 .z, rfl, hq10, hO⟩
  cbv;cases h;exact ⟨_, _, rfl, ⟨q7, hq7, rfl, rfl, hO⟩, .e rfl .z, rfl⟩
 ·exact .e4 .z
 ·exact ⟨hq5, hO⟩
 clear hx;rintro e l H ⟨q12, hq12, rfl, rfl, hO⟩;cbv;cases h;exact hF q12 _ _ 0 _ _ hO rfl (T8 hE hq12) (.refl _)
theorem c241 (N aB r) (h : Cb N aB = some r) : Uo prog 241 aB r := Qb Go.Proofs.Tryz.laysNm189 call241 h
theorem c242 (N aB r) (h : AP N aB = some r) : Ij prog 242 [] 1 (Ar.lst (V.int .i64) aB) (Ar.lst (V.int .i64) r) := Ku Go.Proofs.Tryz.laysNm220 call242 h
def cf243 : Cf := ⟨[], [(2, 12), (3, 12)], [], [], [], []⟩
theorem c243 (N aG aH r) (h : DO N aG aH = some r) : Ij prog 243 [(M5 aH)] 2 (Ar.lst eXI aG) (Ar.lst eXI r) := by
 unfold DO at h
 intro H0 q0 hq0 hk0;refine AW (T := TT) (F := upd H0 q0.id none) cf243 G7 func243 (by rfl) (by kernel_rfl) call243 ntmps243 (by rfl) (by rfl) ?_;intro E K hE hK hN;have hO : B4 Eq (upd H0 q0.id none) [.blk q0.id (.arr 2 (q0.pre ++ Ar.lst eXI aG ++ q0.rest))] H0 := B4.startO hk0;have hq0 : T6 q0 (Ar.len aG) := Vb hq0;cbv;refine EC hE hq0 ?_;cbv;refine A6 hE h (fun hc h => ?_) (fun hc h => ?_)
 ·cbv;refine S0 hE hO hq0 0 rfl h fun h => ?_;cbv;refine AH hE eXR hO hq0 0 rfl h fun x1 h => ?_;cbv;refine A6 hE h (fun hc h => ?_) (fun hc h => ?_)
  ·cbv;refine S0 hE hO hq0 0 rfl h fun h => ?_;cbv;refine AH hE eXR hO hq0 0 rfl h fun x2 h => ?_;cbv;refine S0 hE hO hq0 0 rfl h fun h => ?_;cbv;refine S6 hE (f := eXI) (esz := 2) (tz := 1) (off := 1) (u := (fun x3 : A2 => { x3 with High := Ar.mx x2.High aH.High })) (fun x3 => ⟨.int .i64 (Ar.mx x2.High aH.High), .refl _, rfl, rfl, (by rw [eXR, eXR]; rfl)⟩) (by decide) hO hq0 0 rfl h fun l4 H hq0 h hO => ?_;cbv;cases h;exact hK q0 _ _ (T8 hE hq0) (hO)
  cbv;refine DN (f := eXI) hE P7 (by decide) hO hq0 0 rfl (m := [aH]) (BD (f := eXI) hE P7 (.lstc (.eq (eXR aH) (.refl _)) (.lst0))) h fun l6 q5 H hq5 hO h => ?_;cbv;cases h;exact hK q5 _ _ (T8 hE hq5) (hO)
 cbv;refine DN (f := eXI) hE P7 (by decide) hO hq0 0 rfl (m := [aH]) (BD (f := eXI) hE P7 (.lstc (.eq (eXR aH) (.refl _)) (.lst0))) h fun l8 q7 H hq7 hO h => ?_;cbv;cases h;exact hK q7 _ _ (T8 hE hq7) (hO)
def cf207 : Cf := ⟨[6000007, 6000010], [(13, 13), (14, 12)], [], [], [], []⟩
theorem c207 (N : Nat) (aC : List A2) (aE : List A2) (bO : V) (bJ : Bool → Bool → Option Bool) (cI : ∀ y1 y2 q, bJ y1 y2 = some q → R4 prog bO [.bool y1, .bool y2] (.bool q)) (r : (List A2)) (h : CZ N aC aE bJ = some r) : B6 prog 207 [.sl (Ar.lst eXI aC) .ro, .sl (Ar.lst eXI aE) .ro, bO] (.sl (Ar.lst eXI r) .ro) := by
 unfold CZ at h
 refine Q9 (T := TT) cf207 G7 func207 (by rfl) (by kernel_rfl) call207 ntmps207 (by rfl) (by rfl) ?_;intro E H0 K hE hK hF;have hO : B4 Eq H0 [] H0 := .start B7 rfl;cbv;refine HT hE (f := (V.int .i64)) hO fun q1 H hq1 hO => ?_;cbv;refine A7 hE h (c240 N ([aC, aE])) (.cons (.lit _ (C7 ((eXP aC).symm) (C7 ((eXP aE).symm) (B3)))) (.refl _)) fun r2 h => ?_;cbv;refine D5 hE ?_;cbv;obtain ⟨s5, hx, h⟩ := bind_some h;refine I6 cf207 hE G7 (γ := OG) (fun s3 g => [(0, .v (.sl (Ar.lst eXI aC) .ro)), (1, .v (.sl (Ar.lst eXI aE) .ro)), (2, .v (bO)), (7, .v (.own g.id g.lo g.n)), (15, .v (.sl (Ar.lst eXI r2) .ro)), (16, .v (vi (Ar.len r2))), (17, .v (vi s3.1))]) (fun s3 g H1 => T6 g (Ar.len s3.2) ∧ B4 Eq H0 [.blk g.id (.arr 1 (g.pre ++ Ar.lst (V.int .i64) s3.2 ++ g.rest))] H1) (fun x e l H1 => ∃ u1 : OG, T6 u1 (Ar.len x) ∧ e = .exit 0 ∧ l = [(0, .v (.sl (Ar.lst eXI aC) .ro)), (1, .v (.sl (Ar.lst eXI aE) .ro)), (2, .v (bO)), (7, .v (.own u1.id u1.lo u1.n))] ∧ B4 Eq H0 [.blk u1.id (.arr 1 (u1.pre ++ Ar.lst (V.int .i64) x ++ u1.rest))] H1) (by kernel_rfl) ?_ q1 hx ?_ ?_ ?_
 ·rintro s3 q4 H o ⟨hq4, hO⟩ h;clear hx;cbv;refine A6 hE h (fun hc h => ?_) (fun hc h => ?_)
  ·cbv;refine C2 hE eXR h fun x6 h => ?_;cbv;refine DN (f := (V.int .i64)) hE (fun _ => rfl) (by decide) hO hq4 0 rfl (m := [x6.Low, Ar.ar .add .i64 x6.High 1]) (BD (f := (V.int .i64)) hE (fun _ => rfl) (.lstc (.refl _) (.lstc (.refl _) (.lst0)))) h fun l8 q7 H hq7 hO h => ?_;cbv;cases h;exact ⟨_, q7, rfl, .e rfl (.e2 (.e4 .z)), rfl, hq7, hO⟩
  cbv;cases h;exact ⟨_, _, rfl, ⟨q4, hq4, rfl, rfl, hO⟩, .e4 .z, rfl⟩
 ·exact .e rfl (.e2 (.e4 .z))
 ·exact ⟨hq1, hO⟩
 clear hx;rintro e l H ⟨q9, hq9, rfl, rfl, hO⟩;cbv;refine Vf hE hO hq9 0 rfl h (c241 N s5) fun l10 H hq9 hO h => ?_;cbv;refine Hh hE (f := (V.int .i64)) hO hq9 0 rfl h (c242 N l10) (.refl _) fun l11 q12 H hq12 hO h => ?_;cbv;refine HT hE (f := eXI) hO fun q13 H hq13 hO => ?_;cbv;obtain ⟨s16, hx, h⟩ := bind_some h;refine I6 cf207 hE G7 (γ := OG) (fun s14 g => [(0, .v (.sl (Ar.lst eXI aC) .ro)), (1, .v (.sl (Ar.lst eXI aE) .ro)), (2, .v (bO)), (7, .v (.own q12.id q12.lo q12.n)), (10, .v (.own g.id g.lo g.n)), (11, .v (vi s14.1))]) (fun s14 g H1 => T6 g (Ar.len s14.2) ∧ B4 Eq H0 [.blk g.id (.arr 2 (g.pre ++ Ar.lst eXI s14.2 ++ g.rest)), .blk q12.id (.arr 1 (q12.pre ++ Ar.lst (V.int .i64) l11 ++ q12.rest))] H1) (fun x e l H1 => ∃ u1 : OG, T6 u1 (Ar.len x) ∧ e = .exit 2 ∧ l = [(10, .v (.own u1.id u1.lo u1.n))] ∧ B4 Eq H0 [.blk u1.id (.arr 2 (u1.pre ++ Ar.lst eXI x ++ u1.rest)), .blk q12.id (.arr 1 (q12.pre ++ Ar.lst (V.int .i64) l11 ++ q12.rest))] H1) (by kernel_rfl) ?_ q13 hx ?_ ?_ ?_
 ·rintro s14 q15 H o ⟨hq15, hO⟩ h;clear hx;cbv;refine EC hE hq12 ?_;cbv;refine A6 hE h (fun hc h => ?_) (fun hc h => ?_)
  ·cbv;refine S0 hE hO hq12 1 rfl h fun h => ?_;cbv;refine AH hE (fun _ => rfl) hO hq12 1 rfl h fun x17 h => ?_;cbv;refine P2 hE (g := fun r18 => .bool r18) h (c124 N aC x17) (.refl _) fun r18 h => ?_;cbv;refine S0 hE hO hq12 1 rfl h fun h => ?_;cbv;refine AH hE (fun _ => rfl) hO hq12 1 rfl h fun x19 h => ?_;cbv;refine P2 hE (g := fun r20 => .bool r20) h (c124 N aE x19) (.refl _) fun r20 h => ?_;cbv;refine AI hE (g := fun r21 => .bool r21) h (fun r21 hx => cI r18 r20 r21 hx) (.refl _) fun r21 h => ?_;cbv;refine A6 hE h (fun hc h => ?_) (fun hc h => ?_)
   ·cbv;refine S0 hE hO hq12 1 rfl h fun h => ?_;cbv;refine AH hE (fun _ => rfl) hO hq12 1 rfl h fun x22 h => ?_;cbv;refine S0 hE hO hq12 1 rfl h fun h => ?_;cbv;refine AH hE (fun _ => rfl) hO hq12 1 rfl h fun x23 h => ?_;cbv;refine Hh hE (f := eXI) hO hq15 0 rfl h (c243 N s14.2 (⟨x22, Ar.ar .sub .i64 x23 1⟩ : A2)) (.refl _) fun l24 q25 H hq25 hO h => ?_;cbv;cases h;exact ⟨_, q25, rfl, .e2 (.e4 .z), rfl, hq25, hO⟩
   cbv;cases h;exact ⟨_, q15, rfl, .e2 (.e4 .z), rfl, hq15, hO⟩
  cbv;cases h;exact ⟨_, _, rfl, ⟨q15, hq15, rfl, rfl, hO⟩, .e rfl .z, rfl⟩
 ·exact .e2 (.e4 .z)
 ·exact ⟨hq13, hO⟩
 clear hx;rintro e l H ⟨q26, hq26, rfl, rfl, hO⟩;cbv;cases h;exact hF q26 _ _ 0 _ _ hO rfl (T8 hE hq26) (.refl _)
theorem c160 (N : Nat) (aC : List A2) (aE : List A2) (bO : V) (bJ : Bool → Bool → Option Bool) (cI : ∀ y1 y2 q, bJ y1 y2 = some q → R4 prog bO [.bool y1, .bool y2] (.bool q)) (r : ((List A2) × Int)) (h : U8 N aC aE bJ = some r) : B6 prog 160 [.sl (Ar.lst eXI aC) .ro, .sl (Ar.lst eXI aE) .ro, bO] (.tup [.sl (Ar.lst eXI r.1) .ro, vi r.2]) := by
 unfold U8 at h
 refine J9 cf0 func160 call160 ntmps160 ?_;intro E H0 K hE hK hO;cbv;refine A7 hE h (c206 N aC aE) (.refl _) fun r1 h => ?_;cbv;refine A6 hE h (fun hc h => ?_) (fun hc h => ?_)
 ·cbv;cases h;exact hK _ _ _ hO (.tup (.cons (.lit _ (B3)) (.refl _)))
 cbv;refine A7 hE h (c207 N aC aE bO bJ cI) (.refl _) fun r2 h => ?_;cbv;refine A7 hE h (c188 N r2) (.refl _) fun r3 h => ?_;cbv;cases h;exact hK _ _ _ hO (.refl _)
theorem c161 (N aH aM r) (h : S7 N aH aM = some r) : B6 prog 161 [.bool aH, .bool aM] (.bool r) := by
 unfold S7 at h
 refine J9 cf0 func161 call161 ntmps161 ?_;intro E H0 K hE hK hO;cbv;cases h;exact hK _ _ _ hO (.refl _)
theorem c120 (N aC aE r) (h : W1 N aC aE = some r) : B6 prog 120 [.sl (Ar.lst eXI aC) .ro, .sl (Ar.lst eXI aE) .ro] (.tup [.sl (Ar.lst eXI r.1) .ro, vi r.2]) := by
 unfold W1 at h
 refine J9 cf0 func120 call120 ntmps120 ?_;intro E H0 K hE hK hO;cbv;refine A7 hE (g := fun r1 => .tup [.sl (Ar.lst eXI r1.1) .ro, vi r1.2]) h (fun r1 hx => c160 N aC aE (.func (.func 161) [] []) (fun y1 y2 => S7 N y1 y2) (fun y1 y2 r hx => B6.value (F := []) (C := []) (c161 N y1 y2 r hx)) r1 hx) (.refl _) fun r1 h => ?_;cbv;cases h;exact hK _ _ _ hO (.refl _)
def cf138 : Cf := ⟨[6, 10], [(3, 9), (5, 12)], [(37, 8), (62, 12)], [], [], [(3, 6, [6]), (5, 6, [6])]⟩
theorem c138 (N : Nat) : ∀ n aD aU aQ r, Q4 N n aD aU aQ = some r → B6 prog 138 [(An aD), vi aU, vi aQ] (.tup [(Ag r.1), .bool r.2]) := by
 intro n
 induction n with
 | zero => intro aD aU aQ r h; cases h
 | succ n ih =>
 intro aD aU aQ r h
 unfold Q4 at h
 refine J9 cf138 func138 call138 ntmps138 ?_;intro E H0 K hE hK hO;cbv;refine C8 hE hO fun b1 H hO => ?_;cbv;refine A6 hE h (fun hc h => ?_) (fun hc h => ?_)
 ·cbv;refine JM hE hO 0 rfl fun H1 hT hW => ?_;cbv;refine CX hE trivial ?_;cbv;refine JP hE hO 0 rfl hT fun H hO => ?_;cbv;refine B1 hE hO 0 rfl ?_;cbv;cases h;exact hK _ _ _ hO (.refl _)
 cbv;refine A6 hE h (fun hc h => ?_) (fun hc h => ?_)
 ·cbv;refine JM hE hO 0 rfl fun H1 hT hW => ?_;cbv;refine CX hE trivial ?_;cbv;refine JP hE hO 0 rfl hT fun H hO => ?_;cbv;refine B1 hE hO 0 rfl ?_;cbv;cases h;exact hK _ _ _ hO (.refl _)
 cbv;obtain ⟨s2, hx, h⟩ := bind_some h;refine J8 cf138 hE G7 (fun e l H1 => e = .normal ∧ l = [(1, .v (vi aU)), (2, .v (vi aQ)), (3, .v (.eref (BR aD) 0)), (6, .v (.ref b1 0)), (37, .v (.bool s2))] ∧ B4 Eq H0 [.blk b1 (.cells [vi 0, vi 0])] H1) (by kernel_rfl) ?_ ?_
 ·clear h;have h := hx;clear hx;cbv;refine A6 hE h (fun hc h => ?_) (fun hc h => ?_)
  ·cbv;cases h;exact ⟨_, ⟨rfl, rfl, hO⟩, .e rfl (.e4 .z), rfl⟩
  cbv;cases h;exact ⟨_, ⟨rfl, rfl, hO⟩, .e rfl (.e4 .z), rfl⟩
 clear hx;rintro e l H ⟨rfl, rfl, hO⟩;cbv;refine A6 hE h (fun hc h => ?_) (fun hc h => ?_)
 ·cbv;refine C2 hE eXV h fun x3 h => ?_;cbv;refine A7 hE h (ih x3 aU aQ) (.refl _) fun r4 h => ?_;cbv;refine C2 hE eXV h fun x5 h => ?_;cbv;refine A7 hE h (ih x5 aU aQ) (.refl _) fun r6 h => ?_;cbv;refine C8 hE hO fun b7 H hO => ?_;cbv;refine A8 hE hO 0 rfl rfl fun H hO => ?_;cbv;obtain ⟨s8, hx, h⟩ := bind_some h;refine J8 cf138 hE G7 (fun e l H1 => e = .normal ∧ l = [(6, .v (.ref b1 0)), (8, .v (.eref (BQ r4.1) 0)), (9, .v (.bool r4.2)), (10, .v (.ref b7 0)), (11, .v (.bool r6.2))] ∧ B4 Eq H0 [.blk b7 (.cells (BQ s8)), .blk b1 (.cells [vi 0, vi 0])] H1) (by kernel_rfl) ?_ ?_
  ·clear h;have h := hx;clear hx;cbv;refine A6 hE h (fun hc h => ?_) (fun hc h => ?_)
   ·cbv;refine B1 hE hO 0 rfl ?_;cbv;refine B1 hE hO 0 rfl ?_;cbv;refine A8 hE hO 0 rfl rfl fun H hO => ?_;cbv;cases h;exact ⟨_, ⟨rfl, rfl, hO⟩, .e rfl (.e4 .z), rfl⟩
   cbv;cases h;exact ⟨_, ⟨rfl, rfl, hO⟩, .e rfl (.e4 .z), rfl⟩
  clear hx;rintro e l H ⟨rfl, rfl, hO⟩;cbv;refine B1 hE hO 0 rfl ?_;cbv;refine B1 hE hO 0 rfl ?_;cbv;refine A8 hE hO 1 rfl rfl fun H hO => ?_;cbv;refine B1 hE hO 1 rfl ?_;cbv;cases h;exact hK _ _ _ hO (.refl _)
 cbv;refine A8 hE hO 0 rfl rfl fun H hO => ?_;cbv;refine B1 hE hO 0 rfl ?_;cbv;cases h;exact hK _ _ _ hO (.refl _)
end Go.Ab
