/- GQCo3 -/
import Derived.Test.YtodfgmbacmnalaaGreatT33
set_option linter.all false

namespace Go.Ab
open Go.RowKit Go.Proofs
variable [Ar] [Encs]
set_option maxRecDepth 100000
theorem frz_le (F : List RwI) : LeV (.sl (F.map (frzV fI)) .ro) (.sl (Ar.lst Encs.eGPredicate (F.map rwP)) .ro) := by
 have h1 : ∀ row : List (List GInterval × Tail), LeVs (row.map (cellV fI)) ((row.map (·.1)).map Encs.eLGInterval) := by
  intro row
  induction row with
  | nil => exact .nil
  | cons c row ih => exact .cons (by rw [Encs.eLGInterval_eq]; exact .ro _ _) ih
 have h2 : ∀ F : List RwI, LeVs (F.map (frzV fI)) ((F.map rwP).map Encs.eGPredicate) := by
  intro F
  induction F with
  | nil => exact .nil
  | cons w F ih =>
   refine .cons ?_ ih;rw [Encs.eGPredicate_eq];refine .agg (.cons ?_ .nil);rw [Ar.lst_eq, Ar.lst_eq];exact .sl _ (h1 w.row)
 rw [Ar.lst_eq];exact .sl _ (h2 F)
theorem put_facts {F : List RwI} {c i k : Int} {cuts : List Int} {r : List GPredicate} (h : predicate_put (F.map rwP) c i cuts k = some r) :
 ∃ w x t a b y, (0 ≤ c ∧ c < (F.length : Nat)) ∧ F[c.toNat]? = some w ∧ (0 ≤ i ∧ i < (w.row.length : Nat)) ∧ w.row[i.toNat]? = some (x, t) ∧ idxL cuts k = some a ∧ idxL cuts (Ar.ar .add .i64 k 1) = some b ∧ appL x ([⟨a, Ar.ar .sub .i64 b 1⟩] : List GInterval) = some y ∧
  ∀ t', r = (F.set c.toNat ⟨w.q, w.row.set i.toNat (y, t')⟩).map rwP := by
 unfold predicate_put at h
 obtain ⟨x, h1, h⟩ := bind_some h;obtain ⟨a, h2, h⟩ := bind_some h;obtain ⟨b, h3, h⟩ := bind_some h;obtain ⟨y, h4, h⟩ := bind_some h;obtain ⟨e1, w, e2, e3, t, e4⟩ := getC_rwP h1;exact ⟨w, x, t, a, b, y, e1, e2, e3, e4, h2, h3, h4, setC_rwP e2 h⟩
def cf17 : Cf := ⟨[6000009, 3000108, 8000108, 9000108], [(27, 27)], [], [], [], []⟩
theorem c17 (N : Nat) (x_types : Int) (x_l : List GPredicate) (r : ((List GPredicate) × Int)) (h : predicate_Minterms N x_types x_l = some r) : CallP Tryz.prog 17 [.int .i64 x_types, .sl (Ar.lst Encs.eGPredicate x_l) .ro] (.tup [.sl (Ar.lst Encs.eGPredicate r.1) .ro, .int .i64 r.2]) := by
 unfold predicate_Minterms at h
 intro H0
 refine CallA.le (CallA.ghost (callA_of_run (T := TT) (K := fun x H' => (∃ y H2, LeV x y ∧ HLe H2 H' ∧ y = V.tup [.sl (Ar.lst Encs.eGPredicate r.1) .ro, .int .i64 r.2] ∧ H2 = H0) ∨ ∃ (q : OG) (F : List RwI) (L : List En), x = .tup [.own q.id q.lo q.n, .int .i64 0] ∧ Okn q (Ar.len F) ∧ (∀ w ∈ F, RwOk w) ∧ Own Eq H0 (tabB q F :: (fo fI F ++ L)) H' ∧ r = (F.map rwP, 0))
  cf17 okP.1 okP.2 Tryz.func17 rfl (by kernel_rfl) Tryz.call17 Tryz.ntmps17 rfl rfl ?_) ?_)
 rotate_left
 ·rintro x H' (h | ⟨q, F, L, rfl, hq, hF, hO, rfl⟩)
  ·exact ⟨x, H', Gst.refl _ _, h⟩
  ·obtain ⟨H2, g1, g2⟩ := hO.table hq hF;exact ⟨_, H2, g1.tup2, _, H0, .tup (.cons (frz_le F) (.refl _)), g2, rfl, rfl⟩
 intro E hE
 have hO : Own Eq H0 [] H0 := .start stable_eq rfl
 have hK : ∀ (x : V) (L : List En) (H' : Heap), Own Eq H0 L H' → LeV x (V.tup [.sl (Ar.lst Encs.eGPredicate r.1) .ro, .int .i64 r.2]) → (∃ y H2, LeV x y ∧ HLe H2 H' ∧ y = V.tup [.sl (Ar.lst Encs.eGPredicate r.1) .ro, .int .i64 r.2] ∧ H2 = H0) ∨ ∃ (q : OG) (F : List RwI) (L : List En), x = .tup [.own q.id q.lo q.n, .int .i64 0] ∧ Okn q (Ar.len F) ∧ (∀ w ∈ F, RwOk w) ∧ Own Eq H0 (tabB q F :: (fo fI F ++ L)) H' ∧ r = (F.map rwP, 0) :=
  fun x L H' hO hx => .inl ⟨_, H0, hx, hO.ext, rfl, rfl⟩
 cbv;refine n_br hE h (fun hc h => ?_) (fun hc h => ?_)
 ·cbv;have h := ret_some h;subst h;exact hK _ _ _ hO (.tup (.cons (.lit _ (lst_nil)) (.refl _)))
 ·cbv;refine n_ln hE ?_;cbv;refine n_br hE h (fun hc h => ?_) (fun hc h => ?_)
  ·cbv;have h := ret_some h;subst h;exact hK _ _ _ hO (.tup (.cons (.lit _ (lst_nil)) (.refl _)))
  ·cbv;refine n_ln hE ?_;cbv;obtain ⟨s2, hx, h⟩ := bind_some h;refine n_loopN cf17 hE okP (fun s1 => [(0, .v (.int .i64 x_types)), (1, .v (.sl (Ar.lst Encs.eGPredicate x_l) .ro)), (28, .v (.sl (Ar.lst Encs.eGPredicate x_l) .ro)), (29, .v (.int .i64 (Ar.len x_l))), (30, .v (.int .i64 s1))]) (fun s1 H1 => Own Eq H0 [] H1) (fun x e l H1 => match (generalizing := false) x with | .inl y => e = .exit 1 ∧ l = [(0, .v (.int .i64 x_types)), (1, .v (.sl (Ar.lst Encs.eGPredicate x_l) .ro))] ∧ Own Eq H0 [] H1 | .inr y => e = .ret ∧ l = [(4, .v (.sl [] .nil)), (5, .v (.int .i64 y))] ∧ Own Eq H0 [] H1) (by kernel_rfl) ?_ hx ?_ hO ?_
   ·intro s1 H o hO h;clear hx;cbv;refine n_br hE h (fun hc h => ?_) (fun hc h => ?_)
    ·cbv;refine n_idx hE Encs.eGPredicate_eq h fun x3 h => ?_;cbv;refine n_call hE (g := fun r4 => .int .i64 r4) h (fun r4 hx => c42 N x_types x3 r4 hx) (.refl _) fun r4 h => ?_;cbv;refine n_br hE h (fun hc h => ?_) (fun hc h => ?_)
     ·cbv;have h := ret_some h;subst h;exact ⟨_, _, rfl, ⟨rfl, rfl, hO⟩, .e rfl (.e rfl (.z)), rfl⟩
     ·cbv;have h := ret_some h;subst h;exact ⟨_, rfl, .e rfl (.e rfl (.e rfl (.e rfl (.e rfl (.z))))), rfl, hO⟩
    ·cbv;have h := ret_some h;subst h;exact ⟨_, _, rfl, ⟨rfl, rfl, hO⟩, .e rfl (.e rfl (.z)), rfl⟩
   ·exact .e rfl (.e rfl (.e rfl (.e rfl (.e rfl (.z)))))
   ·clear hx
    rcases s2 with y5 | y28
    ·rintro e l H ⟨rfl, rfl, hO⟩;cbv;refine n_onil hE (f := (rwV : RwI → V)) hO fun q0 H hq0 hO => ?_;cbv;refine n_mmk hE .string V.str (V.int .i64) hO fun m6 o7 H ho7 hO => ?_;cbv;obtain ⟨s11, hx, h⟩ := bind_some h
     refine n_loopG cf17 hE okP (γ := OG × List RwI × Obj) (fun s8 g => [(0, .v (.int .i64 x_types)), (1, .v (.sl (Ar.lst Encs.eGPredicate x_l) .ro)), (9, .v (.own g.1.id g.1.lo g.1.n)), (10, .v (.map m6)), (42, .v (.int .i64 x_types)), (43, .v (.int .i64 s8.2.1))])
      (fun s8 g H1 => g.2.1.map rwP = s8.1 ∧ Okn g.1 (Ar.len g.2.1) ∧ (∀ w ∈ g.2.1, RwOk w) ∧ (∀ w ∈ g.2.1, RwA w) ∧ Mok .string V.str (V.int .i64) g.2.2 s8.2.2 ∧ Own Eq H0 (.blk m6 (.obj g.2.2) :: tabB g.1 g.2.1 :: (fo fI g.2.1 ++ [])) H1)
      (fun x e l H1 => ∃ g : OG × List RwI × Obj, (g.2.1.map rwP = x.1 ∧ Okn g.1 (Ar.len g.2.1) ∧ (∀ w ∈ g.2.1, RwOk w) ∧ (∀ w ∈ g.2.1, RwA w) ∧ Mok .string V.str (V.int .i64) g.2.2 x.2) ∧ e = .exit 3 ∧ l = [(9, .v (.own g.1.id g.1.lo g.1.n))] ∧ Own Eq H0 (.blk m6 (.obj g.2.2) :: tabB g.1 g.2.1 :: (fo fI g.2.1 ++ [])) H1) (by kernel_rfl) ?_ (⟨q0, [], o7⟩) hx ?_ ?_ ?_
     ·rintro ⟨s8, ix, mm⟩ ⟨q8, G8, o8⟩ H o ⟨hg, hq, hF, hA, hm, hO⟩ h;clear hx
      simp only at hg hm
      subst hg;cbv;refine n_br hE h (fun hc h => ?_) (fun hc h => ?_)
      ·cbv;refine n_call hE (g := fun r12 => .sl (Ar.lst (V.int .i64) r12) .ro) h (fun r12 hx => c43 N x_l ix r12 hx) (.refl _) fun r12 h => ?_;cbv;obtain ⟨s16, hx, h⟩ := bind_some h
       refine n_loopG cf17 hE okP (γ := OG × List RwI × Obj) (fun s13 g => [(0, .v (.int .i64 x_types)), (1, .v (.sl (Ar.lst Encs.eGPredicate x_l) .ro)), (9, .v (.own g.1.id g.1.lo g.1.n)), (10, .v (.map m6)), (11, .v (.int .i64 ix)), (12, .v (.sl (Ar.lst (V.int .i64) r12) .ro)), (13, .v (.int .i64 s13.2.1)), (42, .v (.int .i64 x_types)), (43, .v (.int .i64 ix))])
        (fun s13 g H1 => g.2.1.map rwP = s13.1 ∧ Okn g.1 (Ar.len g.2.1) ∧ (∀ w ∈ g.2.1, RwOk w) ∧ (∀ w ∈ g.2.1, RwA w) ∧ Mok .string V.str (V.int .i64) g.2.2 s13.2.2 ∧ Own Eq H0 (.blk m6 (.obj g.2.2) :: tabB g.1 g.2.1 :: (fo fI g.2.1 ++ [])) H1)
        (fun x e l H1 => ∃ g : OG × List RwI × Obj, (g.2.1.map rwP = x.1 ∧ Okn g.1 (Ar.len g.2.1) ∧ (∀ w ∈ g.2.1, RwOk w) ∧ (∀ w ∈ g.2.1, RwA w) ∧ Mok .string V.str (V.int .i64) g.2.2 x.2) ∧ e = .exit 5 ∧ l = [(0, .v (.int .i64 x_types)), (1, .v (.sl (Ar.lst Encs.eGPredicate x_l) .ro)), (9, .v (.own g.1.id g.1.lo g.1.n)), (10, .v (.map m6)), (42, .v (.int .i64 x_types)), (43, .v (.int .i64 ix))] ∧ Own Eq H0 (.blk m6 (.obj g.2.2) :: tabB g.1 g.2.1 :: (fo fI g.2.1 ++ [])) H1) (by kernel_rfl) ?_ (⟨q8, G8, o8⟩) hx ?_ ?_ ?_
       ·rintro ⟨s13, k, mm⟩ ⟨q9, G9, o9⟩ H o ⟨hg, hq, hF, hA, hm, hO⟩ h;clear hx
        simp only at hg hm
        subst hg;cbv;refine n_ln hE ?_;cbv;refine n_br hE h (fun hc h => ?_) (fun hc h => ?_)
        ·cbv;refine n_idx hE (fun _ => rfl) h fun x17 h => ?_;cbv;refine n_call hE (g := fun r18 => .str r18) h (fun r18 hx => c44 N x_l ix x17 r18 hx) (.refl _) fun r18 h => ?_;cbv;refine n_mget2 hE (kt := 9) (et := 3) (by kernel_rfl) (by kernel_rfl) mkOk_str (0 : Int) (by kernel_rfl) rfl hO hm 0 rfl h fun r19 h => ?_;cbv;refine n_br hE h (fun hc h => ?_) (fun hc h => ?_)
         ·have hlen : Ar.len (G9.map rwP) = Ar.len G9 := by rw [Ar.len_eq, Ar.len_eq, List.length_map]
          rw [hlen] at h
          cbv;refine n_olen hE hq ?_;cbv;refine n_mset hE (kt := 9) (et := 3) (by kernel_rfl) (by kernel_rfl) mkOk_str (mvOk_int .i64) hO hm 0 rfl h fun l21 o20 H hm h hO => ?_;cbv;obtain ⟨l22, hmk, h⟩ := bind_some h;obtain ⟨l23, hap, h⟩ := bind_some h;obtain ⟨hal, rfl⟩ := appL_some hap;refine n_omk hE (f := cellV fI) (z0 := (([] : List GInterval), Tail.nil)) (by decide) (.slt _ (.lst0)) hO (F := fun l => some l) (r := List.replicate x_types.toNat (([] : List GInterval), Tail.nil)) (by rw [mkL_other hmk]; rfl) fun row qn H hqn hrow hO => ?_
          cases hrow
          cbv;refine f_oapp hE (f := (rwV : RwI → V)) (fun _ => rfl) (by decide) hO hq 2 rfl (m := [(⟨qn, List.replicate x_types.toNat (([] : List GInterval), Tail.nil)⟩ : RwI)]) (src_sl (f := (rwV : RwI → V)) (l := [(⟨qn, List.replicate x_types.toNat (([] : List GInterval), Tail.nil)⟩ : RwI)]) hE (fun _ => rfl) (.lstc (.refl _) (.lst0))) (by simpa using hal) fun q' H hq' hO => ?_
          generalize hw0 : (⟨qn, List.replicate x_types.toNat (([] : List GInterval), Tail.nil)⟩ : RwI) = w0 at *
          have hO := Own.rowB [.blk m6 (.obj o20), tabB q' (G9 ++ [w0])] (w := w0) (F := G9) (L := []) (by subst hw0; exact hO) (fun c hc => by subst hw0; rw [List.eq_of_mem_replicate hc]; rfl)
          have hF' : ∀ w ∈ G9 ++ [w0], RwOk w := fun w hw => by
           rcases List.mem_append.1 hw with hw | hw
           ·exact hF w hw
           ·rw [List.mem_singleton.1 hw]; subst hw0; exact hqn
          have hA' : ∀ w ∈ G9 ++ [w0], RwA w := fun w hw => by
           rcases List.mem_append.1 hw with hw | hw
           ·exact hA w hw
           ·rw [List.mem_singleton.1 hw]; subst hw0; exact fun c hc => by rw [List.eq_of_mem_replicate hc]; trivial
          have hrw : G9.map rwP ++ [(⟨l22⟩ : GPredicate)] = (G9 ++ [w0]).map rwP := by
           rw [List.map_append, mkL_some hmk, ← hw0]; simp [rwP]
          rw [hrw] at h
          generalize G9 ++ [w0] = G at *
          obtain ⟨l24, hp, h⟩ := bind_some h;obtain ⟨w, x, t0, a, b, y, hc0, hw, hi0, hx0, ha, hb, hy, hset⟩ := put_facts hp
          have hwq : Okn w.q (Ar.len w.row) := hF' w (List.mem_of_getElem? hw)
          obtain ⟨R, hO1, hback⟩ := Own.cellB [_, _] hO hw hx0;cbv;refine n_takeT hE hO1 0 rfl (hA' w (List.mem_of_getElem? hw) _ (List.mem_of_getElem? hx0)) fun H hO => ?_;cbv;refine f_oidx hE (f := (rwV : RwI → V)) hO hq' 3 rfl hc0 ?_;cbv;refine f_oload hE (f := (rwV : RwI → V)) (fun _ => rfl) hO hq' 3 rfl hc0.1 hw ?_;cbv;refine f_oidx hE (f := (rwV : RwI → V)) hO hq' 3 rfl hc0 ?_;cbv;refine f_oload hE (f := (rwV : RwI → V)) (fun _ => rfl) hO hq' 3 rfl hc0.1 hw ?_;cbv;refine f_oidx hE (f := cellV fI) hO hwq 1 rfl hi0 ?_;cbv;refine f_oload hE (f := cellV fI) (fun _ => rfl) hO hwq 1 rfl hi0.1 hx0 ?_;cbv;refine f_idx hE (fun _ => rfl) ha ?_;cbv;refine f_idx hE (fun _ => rfl) hb ?_;cbv;refine n_need hE trivial ?_;cbv;refine f_appq hE sz_GInterval (by decide) (l := x) (.refl _) (.lstc (.eq (Encs.eGInterval_eq ⟨a, Ar.ar .sub .i64 b 1⟩) (.refl _)) (.lst0)) hy ?_;cbv;refine n_nameT hE hO 0 rfl fun tl H hO htl => ?_;cbv;refine f_oidx hE (f := cellV fI) hO hwq 1 rfl hi0 ?_;cbv;refine f_ostore hE (f := cellV fI) (tz := 1) (x' := (y, tl)) (fun x => ⟨.sl (Ar.lst fI y) tl, .refl _, rfl, rfl, rfl⟩) (by decide) hO hwq 1 rfl hi0 fun H hO => ?_;cbv
          have hO2 := hback (y, tl) H hO
          have h := ret_some h;subst h
          exact ⟨_, ⟨q', _, o20⟩, rfl, .e rfl (.e rfl (.e rfl (.e rfl (.e rfl (.e rfl (.e rfl (.e rfl (.e rfl (.z))))))))), rfl, (hset tl).symm, okn_set hq', ok_set hF' hw, okA_set hA' hw htl, hm, by
           have := hO2
           rw [← tabB_set (q := q') (i := ix.toNat) (x' := (y, tl)) hw] at this
           exact this⟩
         ·obtain ⟨l24, hp, h⟩ := bind_some h;obtain ⟨w, x, t0, a, b, y, hc0, hw, hi0, hx0, ha, hb, hy, hset⟩ := put_facts hp
          have hwq : Okn w.q (Ar.len w.row) := hF w (List.mem_of_getElem? hw)
          obtain ⟨R, hO1, hback⟩ := Own.cellB [_, _] hO hw hx0;cbv;refine n_takeT hE hO1 0 rfl (hA w (List.mem_of_getElem? hw) _ (List.mem_of_getElem? hx0)) fun H hO => ?_;cbv;refine f_oidx hE (f := (rwV : RwI → V)) hO hq 3 rfl hc0 ?_;cbv;refine f_oload hE (f := (rwV : RwI → V)) (fun _ => rfl) hO hq 3 rfl hc0.1 hw ?_;cbv;refine f_oidx hE (f := (rwV : RwI → V)) hO hq 3 rfl hc0 ?_;cbv;refine f_oload hE (f := (rwV : RwI → V)) (fun _ => rfl) hO hq 3 rfl hc0.1 hw ?_;cbv;refine f_oidx hE (f := cellV fI) hO hwq 1 rfl hi0 ?_;cbv;refine f_oload hE (f := cellV fI) (fun _ => rfl) hO hwq 1 rfl hi0.1 hx0 ?_;cbv;refine f_idx hE (fun _ => rfl) ha ?_;cbv;refine f_idx hE (fun _ => rfl) hb ?_;cbv;refine n_need hE trivial ?_;cbv;refine f_appq hE sz_GInterval (by decide) (l := x) (.refl _) (.lstc (.eq (Encs.eGInterval_eq ⟨a, Ar.ar .sub .i64 b 1⟩) (.refl _)) (.lst0)) hy ?_;cbv;refine n_nameT hE hO 0 rfl fun tl H hO htl => ?_;cbv;refine f_oidx hE (f := cellV fI) hO hwq 1 rfl hi0 ?_;cbv;refine f_ostore hE (f := cellV fI) (tz := 1) (x' := (y, tl)) (fun x => ⟨.sl (Ar.lst fI y) tl, .refl _, rfl, rfl, rfl⟩) (by decide) hO hwq 1 rfl hi0 fun H hO => ?_;cbv
          have hO2 := hback (y, tl) H hO
          have h := ret_some h;subst h
          exact ⟨_, ⟨q9, _, o9⟩, rfl, .e rfl (.e rfl (.e rfl (.e rfl (.e rfl (.e rfl (.e rfl (.e rfl (.e rfl (.z))))))))), rfl, (hset tl).symm, okn_set hq, ok_set hF hw, okA_set hA hw htl, hm, by
           have := hO2
           rw [← tabB_set (q := q9) (i := ix.toNat) (x' := (y, tl)) hw] at this
           exact this⟩
        ·cbv;have h := ret_some h;subst h;exact ⟨_, _, rfl, ⟨⟨q9, G9, o9⟩, ⟨rfl, hq, hF, hA, hm⟩, rfl, rfl, hO⟩, .e rfl (.e rfl (.e rfl (.e rfl (.e rfl (.e rfl (.z)))))), rfl⟩
       ·exact .e rfl (.e rfl (.e rfl (.e rfl (.e rfl (.e rfl (.e rfl (.e rfl (.e rfl (.z)))))))))
       ·exact ⟨rfl, hq, hF, hA, hm, hO⟩
       ·clear hx;rintro e l H ⟨⟨q9, G9, o9⟩, ⟨hg, hq, hF, hA, hm⟩, rfl, rfl, hO⟩;cbv;have h := ret_some h;subst h;exact ⟨_, ⟨q9, G9, o9⟩, rfl, .e rfl (.e rfl (.e rfl (.e rfl (.e rfl (.e rfl (.z)))))), rfl, hg, hq, hF, hA, hm, hO⟩
      ·cbv;have h := ret_some h;subst h;exact ⟨_, _, rfl, ⟨⟨q8, G8, o8⟩, ⟨rfl, hq, hF, hA, hm⟩, rfl, rfl, hO⟩, .e rfl (.z), rfl⟩
     ·exact .e rfl (.e rfl (.e rfl (.e rfl (.e rfl (.e rfl (.z))))))
     ·exact ⟨rfl, hq0, fun w hw => (by cases hw), fun w hw => (by cases hw), ho7, hO⟩
     ·clear hx;rintro e l H ⟨⟨q, F, o9⟩, ⟨hg, hq, hF, hA, hm⟩, rfl, rfl, hO⟩
      simp only at hg
      rw [← hg] at h
      cbv;refine n_callX hE (c45 N q F r h hO.tail hq hF) fun v H' hv => ?_
      rcases hv with ⟨F', rfl, rfl, hq', hF', hO'⟩ | ⟨rfl, rfl, L', hO'⟩
      ·cbv;exact .inr ⟨q, F', _, rfl, hq', hF', hO', rfl⟩
      ·cbv;exact hK _ _ _ hO' (.tup (.cons (.lit _ (lst_nil)) (.refl _)))
    ·rintro e l H ⟨rfl, rfl, hO⟩;cbv;have h := ret_some h;subst h;exact hK _ _ _ hO (.tup (.cons (.lit _ (lst_nil)) (.refl _)))
def cf18 : Cf := ⟨[4], [], [], [], [], []⟩
theorem c18 (N : Nat) (x_low : Int) (x_high : Int) (r : GPredicate) (h : law27_single N x_low x_high = some r) : CallP Tryz.prog 18 [.int .i64 x_low, .int .i64 x_high] (.agg [.sl (Ar.lst Encs.eLGInterval r.Sets) .ro]) := by
 unfold law27_single at h
 refine callP_of_spec cf18 okP Tryz.func18 (by rfl) (by kernel_rfl) Tryz.call18 Tryz.ntmps18 (by rfl) (by rfl) ?_;intro E H0 K hE hK
 have hO : Own Eq H0 [] H0 := .start stable_eq rfl
 cbv;refine n_alloc hE hO fun b1 H hO => ?_;cbv;refine n_store hE hO 0 rfl rfl fun H hO => ?_;cbv;refine n_load hE hO 0 rfl ?_;cbv;have h := ret_some h;subst h;exact hK _ _ _ hO (.agg (.cons (.sl _ (.lstc (.eq (Encs.eLGInterval_eq ([(⟨x_low, x_high⟩ : GInterval)])) (.lit _ (lst_cons ((Encs.eGInterval_eq (⟨x_low, x_high⟩ : GInterval)).symm) (lst_nil)))) (.lst0))) (.refl _)))
def cf19 : Cf := ⟨[0], [], [], [], [], []⟩
theorem c19 (N : Nat) (r : GExpr) (h : law27_x N  = some r) : CallP Tryz.prog 19 [] (.agg [.int .i64 r.Op, .sl (Ar.lst Encs.eGExpr r.Args) .ro, .int .i64 r.Var, .int .i64 r.Field, .int .i64 r.Kind, .int .i64 r.Value.Kind, .int .i64 r.Value.Num, .str r.Value.Text]) := by
 unfold law27_x at h
 refine callP_of_spec cf19 okP Tryz.func19 (by rfl) (by kernel_rfl) Tryz.call19 Tryz.ntmps19 (by rfl) (by rfl) ?_;intro E H0 K hE hK
 have hO : Own Eq H0 [] H0 := .start stable_eq rfl
 cbv;refine n_alloc hE hO fun b1 H hO => ?_;cbv;refine n_store hE hO 0 rfl rfl fun H hO => ?_;cbv;refine n_load hE hO 0 rfl ?_;cbv;have h := ret_some h;subst h;exact hK _ _ _ hO (.agg (.cons (.refl _) (.cons (.lit _ (lst_nil)) (.refl _))))
def cf20 : Cf := ⟨[2], [], [], [], [], []⟩
theorem c20 (N : Nat) (x_n : Int) (r : GExpr) (h : law27_number N x_n = some r) : CallP Tryz.prog 20 [.int .i64 x_n] (.agg [.int .i64 r.Op, .sl (Ar.lst Encs.eGExpr r.Args) .ro, .int .i64 r.Var, .int .i64 r.Field, .int .i64 r.Kind, .int .i64 r.Value.Kind, .int .i64 r.Value.Num, .str r.Value.Text]) := by
 unfold law27_number at h
 refine callP_of_spec cf20 okP Tryz.func20 (by rfl) (by kernel_rfl) Tryz.call20 Tryz.ntmps20 (by rfl) (by rfl) ?_;intro E H0 K hE hK
 have hO : Own Eq H0 [] H0 := .start stable_eq rfl
 cbv;refine n_alloc hE hO fun b1 H hO => ?_;cbv;refine n_store hE hO 0 rfl rfl fun H hO => ?_;cbv;refine n_load hE hO 0 rfl ?_;cbv;have h := ret_some h;subst h;exact hK _ _ _ hO (.agg (.cons (.refl _) (.cons (.lit _ (lst_nil)) (.refl _))))
def cf38 : Cf := ⟨[], [], [], [], [], []⟩
theorem c38 (N : Nat) (x_l : List GPredicate) (r : Int) (h : predicate_checked N x_l = some r) : CallP Tryz.prog 38 [.sl (Ar.lst Encs.eGPredicate x_l) .ro] (.int .i64 r) := by
 unfold predicate_checked at h
 refine callP_of_spec cf38 okP Tryz.func38 (by rfl) (by kernel_rfl) Tryz.call38 Tryz.ntmps38 (by rfl) (by rfl) ?_;intro E H0 K hE hK
 have hO : Own Eq H0 [] H0 := .start stable_eq rfl
 cbv;refine n_ln hE ?_;cbv;obtain ⟨s2, hx, h⟩ := bind_some h;refine n_loopN cf38 hE okP (fun s1 => [(6, .v (.sl (Ar.lst Encs.eGPredicate x_l) .ro)), (7, .v (.int .i64 (Ar.len x_l))), (8, .v (.int .i64 s1))]) (fun s1 H1 => Own Eq H0 [] H1) (fun x e l H1 => match (generalizing := false) x with | .inl y => e = .exit 0 ∧ l = [] ∧ Own Eq H0 [] H1 | .inr y => e = .ret ∧ l = [(2, .v (.int .i64 y))] ∧ Own Eq H0 [] H1) (by kernel_rfl) ?_ hx ?_ hO ?_
 ·intro s1 H o hO h;clear hx;cbv;refine n_br hE h (fun hc h => ?_) (fun hc h => ?_)
  ·cbv;refine n_idx hE Encs.eGPredicate_eq h fun x3 h => ?_;cbv;refine n_ln hE ?_;cbv;refine n_call hE (g := fun r4 => .int .i64 r4) h (fun r4 hx => c42 N (Ar.len x3.Sets) x3 r4 hx) (.refl _) fun r4 h => ?_;cbv;refine n_br hE h (fun hc h => ?_) (fun hc h => ?_)
   ·cbv;have h := ret_some h;subst h;exact ⟨_, _, rfl, ⟨rfl, rfl, hO⟩, .e rfl (.z), rfl⟩
   ·cbv;have h := ret_some h;subst h;exact ⟨_, rfl, .e rfl (.e rfl (.e rfl (.z))), rfl, hO⟩
  ·cbv;have h := ret_some h;subst h;exact ⟨_, _, rfl, ⟨rfl, rfl, hO⟩, .z, rfl⟩
 ·exact .e rfl (.e rfl (.e rfl (.z)))
 ·clear hx
  rcases s2 with y5 | y6
  ·rintro e l H ⟨rfl, rfl, hO⟩;cbv;have h := ret_some h;subst h;exact hK _ _ _ hO (.refl _)
  ·rintro e l H ⟨rfl, rfl, hO⟩;cbv;have h := ret_some h;subst h;exact hK _ _ _ hO (.refl _)
def cf78 : Cf := ⟨[], [], [], [], [], []⟩
theorem c78 (N : Nat) (x_1 : GPredicate) (r : (List (Int × (List GInterval)))) (h : predicate_filled_1 N x_1 = some r) : EmitP Tryz.prog 78 (fun yv => [yv, .eref [.sl (Ar.lst Encs.eLGInterval x_1.Sets) .ro] 0]) (List.map (fun (x : (Int × (List GInterval))) => [.int .i64 x.1, .sl (Ar.lst Encs.eGInterval x.2) .ro]) r) rbN := by
 unfold predicate_filled_1 at h
 obtain ⟨⟨w0, u0⟩, h1, hr⟩ := bind_some h;clear h
 have hr := ret_some hr
 subst hr;have h := h1;clear h1;refine emitP_of_spec cf78 okP Tryz.func78 (by rfl) (by kernel_rfl) Tryz.call78 Tryz.ntmps78 (by rfl) (fun _ => rfl) ?_;intro yv I D hI hD hy tl F E H K hE hO hK hKD
 have hO : Own (I (List.map (fun (x : (Int × (List GInterval))) => [.int .i64 x.1, .sl (Ar.lst Encs.eGInterval x.2) .ro]) (w0 ++ []) ++ tl)) F [] H := by rw [List.append_nil]; exact hO
 cbv;refine n_ln hE ?_;cbv;obtain ⟨w2, w3, s6, hx, h1, he⟩ := thenE_some h;clear h;have h := h1;clear h1
 rw [he, List.append_assoc] at hO
 clear he;refine n_loopE cf78 hE okP (γ := Unit) (fun s1 g => [(0, .v (yv)), (6, .v (.sl (Ar.lst Encs.eLGInterval x_1.Sets) .ro)), (7, .v (.int .i64 (Ar.len x_1.Sets))), (8, .v (.int .i64 s1))]) (fun s1 g w H1 => Own (I (List.map (fun (x : (Int × (List GInterval))) => [.int .i64 x.1, .sl (Ar.lst Encs.eGInterval x.2) .ro]) w ++ tl)) F [] H1) (fun x e l w H1 => e = .exit 0 ∧ l = [] ∧ Own (I (List.map (fun (x : (Int × (List GInterval))) => [.int .i64 x.1, .sl (Ar.lst Encs.eGInterval x.2) .ro]) w ++ tl)) F [] H1) (fun e l H1 => (e = .ret ∧ l = [] ∧ Own D F [] H1)) (by kernel_rfl) ?_ (w' := w3 ++ []) () hx ?_ ?_ ?_ ?_
 ·rintro s1 _ w4 w5 H o hO h;clear hx
  skip
  cbv;refine n_br hE h (fun hc h => ?_) (fun hc h => ?_)
  ·cbv;refine n_idx hE Encs.eLGInterval_eq h fun x7 h => ?_;cbv;refine n_ln hE ?_;cbv;refine n_br hE h (fun hc h => ?_) (fun hc h => ?_)
   ·cbv;obtain ⟨w8, h1, he⟩ := thenE_ret h;clear h;have h := h1;clear h1
    rw [he, List.append_assoc] at hO
    clear he
    have hO : Own (I ([.int .i64 s1, .sl (Ar.lst Encs.eGInterval x7) .ro] :: (List.map (fun (x : (Int × (List GInterval))) => [.int .i64 x.1, .sl (Ar.lst Encs.eGInterval x.2) .ro]) (w8 ++ w5) ++ tl))) F [] _ := hO
    refine n_yield hE hI hD hy hO (.refl _) (fun H hO => ?_) (fun H hO => ?_)
    ·cbv;refine n_brF hE (Ar.nt_eq _) ?_;cbv;obtain ⟨hw, rfl⟩ := pair_some h
     rw [← hw] at hO
     exact ⟨_, (), rfl, .e rfl (.e rfl (.e rfl (.e rfl (.z)))), rfl, hO⟩
    ·clear h;cbv;refine n_brT hE (Ar.nt_eq _) ?_;cbv;exact .inr ⟨_, ⟨rfl, rfl, hO⟩, .z, rfl⟩
   ·cbv;obtain ⟨hw, rfl⟩ := pair_some h
    rw [← hw] at hO
    exact ⟨_, (), rfl, .e rfl (.e rfl (.e rfl (.e rfl (.z)))), rfl, hO⟩
  ·cbv;obtain ⟨hw, rfl⟩ := pair_some h
   rw [← hw] at hO
   exact .inl ⟨_, _, rfl, ⟨rfl, rfl, hO⟩, .z, rfl⟩
 ·exact .e rfl (.e rfl (.e rfl (.e rfl (.z))))
 ·exact hO
 ·rintro e l H ⟨rfl, rfl, hO⟩;clear hx;cbv;obtain ⟨hw, _⟩ := pair_some h
  rw [← hw] at hO
  exact hK _ _ _ hO trivial
 ·rintro e l H hX;obtain ⟨rfl, rfl, hO⟩ := hX;clear h;cbv;exact hKD _ _ _ hO trivial
def cf46 : Cf := ⟨[], [], [], [], [], []⟩
theorem c46 (N : Nat) (x_p : GPredicate) (r : (List (Int × (List GInterval)))) (h : predicate_filled N x_p = some r) : CallQ Tryz.prog 46 [.agg [.sl (Ar.lst Encs.eLGInterval x_p.Sets) .ro]] (fun v => IterV Tryz.prog v (r.map fun (x : (Int × (List GInterval))) => [.int .i64 x.1, .sl (Ar.lst Encs.eGInterval x.2) .ro])) := by
 unfold predicate_filled at h
 refine callQ_of_spec cf46 okP Tryz.func46 (by rfl) (by kernel_rfl) Tryz.call46 Tryz.ntmps46 (by rfl) (by rfl) ?_;intro E H0 K hE hK
 have hO : Own Eq H0 [] H0 := .start stable_eq rfl
 cbv;exact hK _ _ _ hO (iterV_of_emit Tryz.call78 (c78 N x_p r h))
def cf21 : Cf := ⟨[2, 3], [], [], [], [], []⟩
theorem c21 (N : Nat) (x_p : GPredicate) (r : (GSymbol × Int)) (h : predicate_Witness N x_p = some r) : CallP Tryz.prog 21 [.agg [.sl (Ar.lst Encs.eLGInterval x_p.Sets) .ro]] (.tup [.agg [.int .i64 r.1.Typ, .int .i64 r.1.Num], .int .i64 r.2]) := by
 unfold predicate_Witness at h
 refine callP_of_spec cf21 okP Tryz.func21 (by rfl) (by kernel_rfl) Tryz.call21 Tryz.ntmps21 (by rfl) (by rfl) ?_;intro E H0 K hE hK
 have hO : Own Eq H0 [] H0 := .start stable_eq rfl
 cbv;refine n_alloc hE hO fun b1 H hO => ?_;cbv;refine n_alloc hE hO fun b2 H hO => ?_;cbv;refine n_call hE (g := fun r3 => .int .i64 r3) h (fun r3 hx => c38 N ([x_p]) r3 hx) (.cons (.lit _ (lst_cons ((Encs.eGPredicate_eq x_p).symm) (lst_nil))) (.refl _)) fun r3 h => ?_;cbv;refine n_br hE h (fun hc h => ?_) (fun hc h => ?_)
 ·cbv;refine n_store hE hO 1 rfl rfl fun H hO => ?_;cbv;refine n_store hE hO 0 rfl rfl fun H hO => ?_;cbv;refine n_load hE hO 1 rfl ?_;cbv;refine n_load hE hO 0 rfl ?_;cbv;have h := ret_some h;subst h;exact hK _ _ _ hO (.refl _)
 ·cbv;refine n_callQ hE h (fun r4 hx => c46 N x_p r4 hx) (.refl _) fun r4 v5 hv5 h => ?_;cbv;obtain ⟨o10, hx, h⟩ := bind_some h;refine n_range cf21 hE okP (ι := Unit) (enc := fun (x : (Int × (List GInterval))) => [.int .i64 x.1, .sl (Ar.lst Encs.eGInterval x.2) .ro]) (fun (s7 : Unit) F H => Own Eq F [.blk b2 (.cells [.int .i64 0]), .blk b1 (.cells [.int .i64 0, .int .i64 0])] H) (fun (r : GSymbol) e F H => e = .ret ∧ Own Eq F [.blk b2 (.cells [.int .i64 0]), .blk b1 (.cells [.int .i64 r.Typ, .int .i64 r.Num])] H) (fun i s7 y6 => [(2, .v (.ref b1 0)), (3, .v (.ref b2 0)), (5, .v (.int .i64 y6.1)), (6, .v (.sl (Ar.lst Encs.eGInterval y6.2) .ro))]) (fun i s7 y6 F H => Own Eq F [.blk b2 (.cells [.int .i64 0]), .blk b1 (.cells [.int .i64 0, .int .i64 0])] H) (fun _ => Own.stable stable_eq _) (fun _ _ => Stable.con (Own.stable stable_eq _)) (fun _ _ _ => Own.stable stable_eq _) hv5 hx (hO) (by decide) (fun _ => rfl) (by kernel_rfl) (by kernel_rfl) ?_ ?_ ?_ ?_
  ·rintro E i9 y6 s7 F8 H hE hO;clear hx h;cbv;exact ⟨(), hO, .e rfl (.e rfl (.e rfl (.e rfl (.z)))), rfl⟩
  ·rintro E i9 _ y6 s7 F8 H o hE hF h hO;clear hx;cbv;refine n_idx hE Encs.eGInterval_eq h fun x11 h => ?_;cbv;refine n_store hE hO 1 rfl rfl fun H hO => ?_;cbv;refine n_store hE hO 0 rfl rfl fun H hO => ?_;cbv;have h := ret_some h;subst h;exact ⟨_, rfl, rfl, ⟨rfl, hO⟩⟩
  ·rintro d12 s14 H rfl hd hO
   have hO : Own Eq H0 [.blk b2 (.cells [.int .i64 0]), .blk b1 (.cells [.int .i64 0, .int .i64 0]), .blk d12 DB] H := Own.dblk hd hO
   clear hd;clear hx;cbv;refine n_store hE hO 1 rfl rfl fun H hO => ?_;cbv;refine n_store hE hO 0 rfl rfl fun H hO => ?_;cbv;refine n_fin hE hO 2 rfl fun H hO => ?_;cbv;refine n_load hE hO 1 rfl ?_;cbv;refine n_load hE hO 0 rfl ?_;cbv;have h := ret_some h;subst h;exact hK _ _ _ hO (.refl _)
  ·rintro d12 y15 e H rfl hd hX;clear hx
   rcases hX with ⟨rfl, hO⟩
   have hO : Own Eq H0 [.blk b2 (.cells [.int .i64 0]), .blk b1 (.cells [.int .i64 y15.Typ, .int .i64 y15.Num]), .blk d12 DB] H := Own.dblk hd hO
   clear hd;cbv;refine n_fin hE hO 2 rfl fun H hO => ?_;cbv;refine n_load hE hO 1 rfl ?_;cbv;refine n_load hE hO 0 rfl ?_;cbv;have h := ret_some h;subst h;exact hK _ _ _ hO (.refl _)
def cf22 : Cf := ⟨[], [(6, 8)], [], [], [], []⟩
theorem c22 (N : Nat) (x_a : List GPredicate) (x_b : List GPredicate) (r : Bool) (h : ref27_SameAll N x_a x_b = some r) : CallP Tryz.prog 22 [.sl (Ar.lst Encs.eGPredicate x_a) .ro, .sl (Ar.lst Encs.eGPredicate x_b) .ro] (.bool r) := by
 unfold ref27_SameAll at h
 refine callP_of_spec cf22 okP Tryz.func22 (by rfl) (by kernel_rfl) Tryz.call22 Tryz.ntmps22 (by rfl) (by rfl) ?_;intro E H0 K hE hK
 have hO : Own Eq H0 [] H0 := .start stable_eq rfl
 cbv;refine n_ln hE ?_;cbv;refine n_ln hE ?_;cbv;refine n_br hE h (fun hc h => ?_) (fun hc h => ?_)
 ·cbv;have h := ret_some h;subst h;exact hK _ _ _ hO (.refl _)
 ·cbv;obtain ⟨s2, hx, h⟩ := bind_some h;refine n_loopN cf22 hE okP (fun s1 => [(0, .v (.sl (Ar.lst Encs.eGPredicate x_a) .ro)), (1, .v (.sl (Ar.lst Encs.eGPredicate x_b) .ro)), (5, .v (.int .i64 s1))]) (fun s1 H1 => Own Eq H0 [] H1) (fun x e l H1 => match (generalizing := false) x with | .inl y => e = .exit 0 ∧ l = [] ∧ Own Eq H0 [] H1 | .inr y => e = .ret ∧ l = [(4, .b false)] ∧ Own Eq H0 [] H1) (by kernel_rfl) ?_ hx ?_ hO ?_
  ·intro s1 H o hO h;clear hx;cbv;refine n_ln hE ?_;cbv;refine n_br hE h (fun hc h => ?_) (fun hc h => ?_)
   ·cbv;refine n_idx hE Encs.eGPredicate_eq h fun x3 h => ?_;cbv;refine n_idx hE Encs.eGPredicate_eq h fun x4 h => ?_;cbv;refine n_call hE (g := fun r5 => .bool r5) h (fun r5 hx => c11 N x3 x4 r5 hx) (.refl _) fun r5 h => ?_;cbv;refine n_br hE h (fun hc h => ?_) (fun hc h => ?_)
    ·cbv;have h := ret_some h;subst h;exact ⟨_, _, rfl, ⟨rfl, rfl, hO⟩, .b rfl (.z), rfl⟩
    ·cbv;have h := ret_some h;subst h;exact ⟨_, rfl, .e rfl (.e rfl (.e rfl (.z))), rfl, hO⟩
   ·cbv;have h := ret_some h;subst h;exact ⟨_, _, rfl, ⟨rfl, rfl, hO⟩, .z, rfl⟩
  ·exact .e rfl (.e rfl (.e rfl (.z)))
  ·clear hx
   rcases s2 with y6 | y7
   ·rintro e l H ⟨rfl, rfl, hO⟩;cbv;have h := ret_some h;subst h;exact hK _ _ _ hO (.refl _)
   ·rintro e l H ⟨rfl, rfl, hO⟩;cbv;have h := ret_some h;subst h;exact hK _ _ _ hO (.refl _)
def cf6 : Cf := ⟨[], [(5, 20), (8, 6)], [], [], [], []⟩
theorem c6 (N : Nat) (r : Bool) (h : law27_awake N  = some r) : CallP Tryz.prog 6 [] (.bool r) := by
 unfold law27_awake at h
 refine callP_of_spec cf6 okP Tryz.func6 (by rfl) (by kernel_rfl) Tryz.call6 Tryz.ntmps6 (by rfl) (by rfl) ?_;intro E H0 K hE hK
 have hO : Own Eq H0 [] H0 := .start stable_eq rfl
 cbv;refine n_call hE (g := fun r1 => .agg [.sl (Ar.lst Encs.eLGInterval r1.Sets) .ro]) h (fun r1 hx => c18 N 1 5 r1 hx) (.refl _) fun r1 h => ?_;cbv;refine n_call hE (g := fun r2 => .agg [.sl (Ar.lst Encs.eLGInterval r2.Sets) .ro]) h (fun r2 hx => c18 N 4 9 r2 hx) (.refl _) fun r2 h => ?_;cbv;refine n_call hE (g := fun r3 => .tup [.sl (Ar.lst Encs.eGPredicate r3.1) .ro, .int .i64 r3.2]) h (fun r3 hx => c17 N 1 ([r1, r2]) r3 hx) (.cons (.refl _) (.cons (.lit _ (lst_cons ((Encs.eGPredicate_eq r1).symm) (lst_cons ((Encs.eGPredicate_eq r2).symm) (lst_nil)))) (.refl _))) fun r3 h => ?_;cbv;refine n_call hE (g := fun r4 => .agg [.int .i64 r4.Op, .sl (Ar.lst Encs.eGExpr r4.Args) .ro, .int .i64 r4.Var, .int .i64 r4.Field, .int .i64 r4.Kind, .int .i64 r4.Value.Kind, .int .i64 r4.Value.Num, .str r4.Value.Text]) h (fun r4 hx => c19 N  r4 hx) (.refl _) fun r4 h => ?_;cbv;refine n_call hE (g := fun r5 => .agg [.int .i64 r5.Op, .sl (Ar.lst Encs.eGExpr r5.Args) .ro, .int .i64 r5.Var, .int .i64 r5.Field, .int .i64 r5.Kind, .int .i64 r5.Value.Kind, .int .i64 r5.Value.Num, .str r5.Value.Text]) h (fun r5 hx => c19 N  r5 hx) (.refl _) fun r5 h => ?_;cbv;refine n_call hE (g := fun r6 => .agg [.int .i64 r6.Op, .sl (Ar.lst Encs.eGExpr r6.Args) .ro, .int .i64 r6.Var, .int .i64 r6.Field, .int .i64 r6.Kind, .int .i64 r6.Value.Kind, .int .i64 r6.Value.Num, .str r6.Value.Text]) h (fun r6 hx => c20 N 7 r6 hx) (.refl _) fun r6 h => ?_;cbv;refine n_call hE (g := fun r7 => .tup [.agg [.sl (Ar.lst Encs.eLGInterval r7.1.Sets) .ro], .int .i64 r7.2]) h (fun r7 hx => c7 N ([(⟨(⟨#[97]⟩ : ByteArray), [(⟨(⟨#[120]⟩ : ByteArray), 0⟩ : GField)]⟩ : GSchema)]) 0 (⟨7, [(⟨5, [r4, r5], 0, 0, 0, (⟨0, 0, ⟨#[]⟩⟩ : GValue)⟩ : GExpr), r6], 0, 0, 0, (⟨0, 0, ⟨#[]⟩⟩ : GValue)⟩ : GExpr) 0 r7 hx) (.cons (.sl _ (.lstc (.eq (Encs.eGSchema_eq (⟨(⟨#[97]⟩ : ByteArray), [(⟨(⟨#[120]⟩ : ByteArray), 0⟩ : GField)]⟩ : GSchema)) (.agg (.cons (.refl _) (.cons (.lit _ (lst_cons ((Encs.eGField_eq (⟨(⟨#[120]⟩ : ByteArray), 0⟩ : GField)).symm) (lst_nil))) (.refl _))))) (.lst0))) (.cons (.refl _) (.cons (.agg (.cons (.refl _) (.cons (.sl _ (.lstc (.eq (Encs.eGExpr_eq (⟨5, [r4, r5], 0, 0, 0, (⟨0, 0, ⟨#[]⟩⟩ : GValue)⟩ : GExpr)) (.agg (.cons (.refl _) (.cons (.lit _ (lst_cons ((Encs.eGExpr_eq r4).symm) (lst_cons ((Encs.eGExpr_eq r5).symm) (lst_nil)))) (.refl _))))) (.lstc (.eq (Encs.eGExpr_eq r6) (.refl _)) (.lst0)))) (.refl _)))) (.refl _)))) fun r7 h => ?_;cbv;refine n_call hE (g := fun r8 => .tup [.agg [.int .i64 r8.1.Typ, .int .i64 r8.1.Num], .int .i64 r8.2]) h (fun r8 hx => c21 N (⟨[[], [(⟨3, 4⟩ : GInterval)]]⟩ : GPredicate) r8 hx) (.cons (.agg (.cons (.sl _ (.lstc (.eq (Encs.eLGInterval_eq ([])) (.lit _ (lst_nil))) (.lstc (.eq (Encs.eLGInterval_eq ([(⟨3, 4⟩ : GInterval)])) (.lit _ (lst_cons ((Encs.eGInterval_eq (⟨3, 4⟩ : GInterval)).symm) (lst_nil)))) (.lst0)))) (.refl _))) (.refl _)) fun r8 h => ?_;cbv;refine n_ln hE ?_;cbv;refine n_br hE h (fun hc h => ?_) (fun hc h => ?_)
 ·cbv;have h := ret_some h;subst h;exact hK _ _ _ hO (.refl _)
 ·cbv;refine n_pcall hE (g := fun r9 => .agg [.sl (Ar.lst Encs.eLGInterval r9.Sets) .ro]) h (fun r9 hx => c18 N (-1099511627776) 3 r9 hx) (.refl _) fun r9 h => ?_;cbv;refine n_pcall hE (g := fun r10 => .bool r10) h (fun r10 hx => c11 N r7.1 r9 r10 hx) (.refl _) fun r10 h => ?_;cbv;refine n_br hE h (fun hc h => ?_) (fun hc h => ?_)
  ·cbv;have h := ret_some h;subst h;exact hK _ _ _ hO (.refl _)
  ·cbv;refine n_pcall hE (g := fun r11 => .agg [.sl (Ar.lst Encs.eLGInterval r11.Sets) .ro]) h (fun r11 hx => c18 N 1 3 r11 hx) (.refl _) fun r11 h => ?_;cbv;refine n_pcall hE (g := fun r12 => .agg [.sl (Ar.lst Encs.eLGInterval r12.Sets) .ro]) h (fun r12 hx => c18 N 4 5 r12 hx) (.refl _) fun r12 h => ?_;cbv;refine n_pcall hE (g := fun r13 => .agg [.sl (Ar.lst Encs.eLGInterval r13.Sets) .ro]) h (fun r13 hx => c18 N 6 9 r13 hx) (.refl _) fun r13 h => ?_;cbv;refine n_call hE (g := fun r14 => .bool r14) h (fun r14 hx => c22 N r3.1 ([(⟨[[(⟨(-1099511627776), 0⟩ : GInterval), (⟨10, 1099511627776⟩ : GInterval)]]⟩ : GPredicate), r11, r12, r13]) r14 hx) (.cons (.refl _) (.cons (.sl _ (.lstc (.eq (Encs.eGPredicate_eq (⟨[[(⟨(-1099511627776), 0⟩ : GInterval), (⟨10, 1099511627776⟩ : GInterval)]]⟩ : GPredicate)) (.agg (.cons (.sl _ (.lstc (.eq (Encs.eLGInterval_eq ([(⟨(-1099511627776), 0⟩ : GInterval), (⟨10, 1099511627776⟩ : GInterval)])) (.lit _ (lst_cons ((Encs.eGInterval_eq (⟨(-1099511627776), 0⟩ : GInterval)).symm) (lst_cons ((Encs.eGInterval_eq (⟨10, 1099511627776⟩ : GInterval)).symm) (lst_nil))))) (.lst0))) (.refl _)))) (.lstc (.eq (Encs.eGPredicate_eq r11) (.refl _)) (.lstc (.eq (Encs.eGPredicate_eq r12) (.refl _)) (.lstc (.eq (Encs.eGPredicate_eq r13) (.refl _)) (.lst0)))))) (.refl _))) fun r14 h => ?_;cbv;have h := ret_some h;subst h;exact hK _ _ _ hO (.refl _)
end Go.Ab

