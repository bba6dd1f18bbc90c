/- AbF3 AbB13 AbB14 AbB15 AbB19 -/
import Derived.Test.YtildiiggamckaaaGreatDoorT08
set_option linter.all false
namespace Go.Ab
open Go.RowKit
variable [H5] [Ar]
section
variable {P : Program} {nt : Nat} {rd : Option Nat} {E : CU} (hE : E = E7 P nt rd)
include hE
variable {α : Type} {f : α → V} {Φ : A0 → A0 → Prop} {H0 H : A0} {L : List En} {sz : Nat} {q : OG} {l : List α}
theorem WZ (hO : B3 Φ H0 L H) (hq : X6 q (Ar.len l)) (i : Nat) {j : Int} {k : Int → Prop} (hi : L[i]? = some (.blk q.id (.arr sz (q.pre ++ Ar.lst f l ++ q.rest)))) (hj : 0 ≤ j ∧ j < (l.length : Nat)) (hk : k (Ar.ofs q.lo j)) : E.oidx H q.id sz q.lo q.n j k :=
 Af hE hO hq i hi (F := fun _ => some ()) (r := ()) (by unfold Ea Gb; rw [if_pos]; rfl; exact decide_eq_true hj) fun _ => hk
theorem Um {esz tz off : Nat} {y : V} {x' : α} (hu : ∀ x, ∃ y', Z6 y y' ∧ y'.one = true ∧ y'.cells.length = tz ∧ MT (f x) esz tz off y' = f x') (hle : off + tz ≤ esz) (hO : B3 Φ H0 L H) (hq : X6 q (Ar.len l)) (i : Nat) {j : Int} {k : A0 → Prop}
 (hi : L[i]? = some (.blk q.id (.arr esz (q.pre ++ Ar.lst f l ++ q.rest)))) (hj : 0 ≤ j ∧ j < (l.length : Nat))
 (hk : ∀ H', B3 Φ H0 (L.set i (.blk q.id (.arr esz (q.pre ++ Ar.lst f (l.set j.toNat x') ++ q.rest)))) H' → k H') : E.ostore H q.id (Ar.ofs q.lo j) esz tz off y k := by
 obtain ⟨x, hx⟩ : ∃ x, l[j.toNat]? = some x := ⟨l[j.toNat], List.getElem?_eq_getElem (by omega)⟩
 exact Ae hE (u := fun _ => x') hu hle hO hq i hi (F := fun l => some l) (r := l.set j.toNat x') (by unfold CW C6; rw [if_pos hj.1, hx]; rfl) fun l' H' hq' e hO' => by cases e; exact hk H' hO'
end
end Go.Ab
namespace Go.Ab
open Go.RowKit
variable [H5] [Ar]
section
variable {P : Program} {nt : Nat} {rd : Option Nat} {E : CU} (hE : E = E7 P nt rd)
include hE
variable {α R : Type} {f : α → V} {Φ : A0 → A0 → Prop} {H0 H : A0} {L : List En} {sz : Nat} {q : OG} {l : List α} {r : R}
theorem Sg (hO : B3 Φ H0 L H) (hq : X6 q (Ar.len l)) (i : Nat) (hi : L[i]? = some (.blk q.id (.arr sz (q.pre ++ Ar.lst f l ++ q.rest)))) {lo : Option Int} {k : V → Prop} {F : List α → Option R}
 (h : (V2 l lo none none).bind F = some r) (hk : ∀ x (q' : OG), q'.id = q.id ∧ q'.lo = q.lo + lo.getD 0 ∧ q'.n = q.n - lo.getD 0 → F x = some r → k (.own q'.id q'.lo q'.n)) :
 E.oslice sz H q.id q.lo q.n lo none none k := by
 have hE' := hE;subst hE;obtain ⟨x, h1, h2⟩ := bind_some h
 have hn : q.n = (l.length : Nat) := by rw [hq.2, Ar.len_eq]
 have el := I0 (f := f) l
 unfold V2 at h1
 split at h1
 ·rename_i hc;cases h1;obtain ⟨c1, c2, c3, c4, c5⟩ := hc
  simp only [Option.getD_none] at c2 c3 c4
  refine ⟨_, hO.get i hi, ?_, ?_⟩
  ·rw [hn, hq.1];simp only [List.length_append, el, Option.getD_none];refine ⟨c1, c2, by omega, by omega, fun h => by cases h⟩
  exact hk _ ⟨q.id, q.lo + lo.getD 0, q.n - lo.getD 0, [], []⟩ ⟨rfl, rfl, rfl⟩ h2
 cases h1
theorem Oy (hO : B3 Φ H0 L H) (hq : X6 q (Ar.len l)) (i : Nat) (hi : L[i]? = some (.blk q.id (.arr sz (q.pre ++ Ar.lst f l ++ q.rest)))) {q' : OG} {a : Int} (hd : q'.id = q.id ∧ q'.lo = q.lo + a ∧ q'.n = q.n - a) {y : V} {m : List α} {k : V → A0 → Prop} {F : List α × Int → Option R}
 (hs : Jf sz H y (Ar.lst f m)) (h : (OX l a m).bind F = some r) (hk : ∀ p H', X6 q (Ar.len p.1) → B3 Φ H0 (L.set i (.blk q.id (.arr sz (q.pre ++ Ar.lst f p.1 ++ q.rest)))) H' → F p = some r → k (.int .i64 p.2) H') : E.ocopy sz H (.own q'.id q'.lo q'.n) y k := by
 have hn : q.n = (l.length : Nat) := by rw [hq.2, Ar.len_eq]
 have el := I0 (f := f) l;have em := I0 (f := f) m;obtain ⟨p, h1, h2⟩ := bind_some h
 unfold OX at h1
 split at h1
 ·rename_i hc;cases h1;rw [hd.1, hd.2.1, hd.2.2];refine Hk hE (hO.get i hi) hs (YL := (m.length : Nat)) (by rw [em]) fun n row' hm hrow => ?_
  have e1 : n = (if (l.length : Int) - a < (m.length : Nat) then (l.length : Int) - a else (m.length : Nat)) := by rw [hm, hn]
  have ea : (q.lo + a).toNat = q.pre.length + a.toNat := by rw [hq.1]; omega
  have en : (q.n - a).toNat = l.length - a.toNat := by rw [hn]; omega
  have e2 : row' = q.pre ++ Ar.lst f (l.take a.toNat ++ m.take (l.length - a.toNat) ++ l.drop (a.toNat + m.length)) ++ q.rest := by
   rw [hrow, ea, en, Ar.lst_eq, Ar.lst_eq, Ar.lst_eq];rw [EC (A := q.pre ++ (l.take a.toNat).map f) (B := ((l.drop a.toNat).take m.length).map f) (C := (l.drop (a.toNat + m.length)).map f ++ q.rest) ?_ ?_ ?_]
   ·simp only [List.map_append, List.map_take, List.append_assoc]
   ·have : l = l.take a.toNat ++ ((l.drop a.toNat).take m.length ++ l.drop (a.toNat + m.length)) := by
     rw [← List.drop_drop, List.take_append_drop, List.take_append_drop]
    conv => lhs; rw [this]
    simp only [List.map_append, List.append_assoc]
   ·simp; omega
   simp; omega
  rw [e1, e2];refine hk _ _ ⟨hq.1, ?_⟩ (hO.set i hi) h2;rw [hn, Ar.len_eq];simp only [List.length_append, List.length_take, List.length_drop];omega
 cases h1
theorem Vx (hO : B3 Φ H0 L H) (hq : X6 q (Ar.len l)) (i : Nat) (hi : L[i]? = some (.blk q.id (.arr sz (q.pre ++ Ar.lst f l ++ q.rest)))) {y : V} {m : List α} {k : V → A0 → Prop} {F : List α × Int → Option R}
 (hs : Jf sz H y (Ar.lst f m)) (h : (OX l 0 m).bind F = some r) (hk : ∀ p H', X6 q (Ar.len p.1) → B3 Φ H0 (L.set i (.blk q.id (.arr sz (q.pre ++ Ar.lst f p.1 ++ q.rest)))) H' → F p = some r → k (.int .i64 p.2) H') : E.ocopy sz H (.own q.id q.lo q.n) y k :=
 Oy hE hO hq i hi (a := 0) ⟨rfl, by omega, by omega⟩ hs h hk
end
end Go.Ab
namespace Go.Ab
open Go.RowKit
variable [H5] [Ar]
def Gh.lend (g : Gh) (w : World) : Gh := { g with fz := fun b o => ∃ v, w.cell? ⟨b, o, none⟩ = some v, base := w.heap.size }
theorem VR.lend {g : Gh} {w : World} {B : Nat} {F : Nat → Nat → Prop} (hB : g.base ≤ B) (hF : ∀ b o, g.fz b o → F b o) {v : Value} {x : V} (h : VR g w v x) : VR { g with fz := F, base := B } w v x := by
 induction h with
 | bad v => exact .bad v
 | bool b => exact .bool b
 | int k n => exact .int k n
 | str s => exact .str s
 | nilp => exact .nilp
 | nilf => exact .nilf
 | nili => exact .nili
 | nilmap => exact .nilmap
 | map h => exact .map h
 | fmap hb hw hk hn hl hv ih => exact VR.fmap (g := { g with fz := F, base := B }) (Nat.lt_of_lt_of_le hb hB) hw hk hn hl ih
 | ref h => exact .ref h
 | own h h0 h1 h2 hp => exact VR.own (g := { g with fz := F, base := B }) h h0 h1 h2 hp
 | elem h hs => exact VR.elem (g := { g with fz := F, base := B }) h hs
 | eref vs hf hw h1 hv ih => exact .eref vs (fun j hj => hF _ _ (hf j hj)) hw h1 ih
 | sl0 ht => exact .sl0 ht
 | sle ht => exact .sle ht
 | sl vs hn hc hz hf hw h1 hv ht ih => exact .sl vs hn hc hz (fun i j hi hj => hF _ _ (hf i j hi hj)) hw h1 ih (ht.mono fun _ _ e => e)
 | func hl hv hl' hv' ih ih' => exact .func hl ih hl' ih'
 | yield h => exact .yield h
 | iface h ih => exact .iface ih
 | agg hl h1 hv ih => exact .agg hl h1 ih
 | tup hl hv ih => exact .tup hl ih
theorem Rl.lend {g : Gh} {H : A0} {w : World} (h : Rl g H w) : Rl (g.lend w) (fun _ => none) w := by
 refine ⟨fun id b hb => (by cases hb), fun id id' b h1 _ => (by simp [Gh.at] at h1), fun b o hf => hf, fun id hi => ⟨(h.nxt id hi).1, (h.nxt id hi).2.1, rfl⟩, Nat.le_refl _, fun n => (h.glb n).lend h.bnd fun b o hf => h.frz b o hf⟩
theorem Rl.lendOwn {g : Gh} {H : A0} {w : World} (h : Rl g H w) {id sz : Nat} {xs : List V} (hk : H id = some (.arr sz xs)) {v : Value} {lo n : Int} (hv : VR g w v (.own id lo n)) : VR (g.lend w) w v (.sl (G8 xs lo n) .ro) := by
 obtain ⟨g', ⟨e1, e2, e3⟩, s, hR, hw⟩ := h.freezeArr' hk;have := (hw v lo n (hv.mono s)).lend (F := fun b o => ∃ v, w.cell? ⟨b, o, none⟩ = some v) (B := w.heap.size) hR.bnd fun b o hf => hR.frz b o hf
 have e : ({ g' with fz := fun b o => ∃ v, w.cell? ⟨b, o, none⟩ = some v, base := w.heap.size } : Gh) = { (g.lend w) with nx := g'.nx } := by
  simp only [Gh.lend, Gh.mk.injEq, and_true];exact ⟨e1, e3, e2⟩
 rw [e] at this
 exact VR.nxt this
where
 VR.nxt {g : Gh} {w : World} {n : Nat} {v : Value} {x : V} (h : VR { g with nx := n } w v x) : VR g w v x := by
  generalize hg : ({ g with nx := n } : Gh) = g1 at h
  have hmu : g1.mu = g.mu := by rw [← hg]
  have htk : g1.tk = g.tk := by rw [← hg]
  have hfz : g1.fz = g.fz := by rw [← hg]
  have how : g1.ow = g.ow := by rw [← hg]
  have hba : g1.base = g.base := by rw [← hg]
  clear hg
  induction h with
  | bad v => exact .bad v
  | bool b => exact .bool b
  | int k n => exact .int k n
  | str s => exact .str s
  | nilp => exact .nilp
  | nilf => exact .nilf
  | nili => exact .nili
  | nilmap => exact .nilmap
  | map h => exact .map (hmu ▸ h)
  | fmap hb hw hk hn hl hv ih => exact .fmap (hba ▸ hb) hw hk hn hl ih
  | ref h => exact .ref (hmu ▸ h)
  | own h h0 h1 h2 hp => rw [how] at h2 hp ⊢; exact VR.own (hmu ▸ h) h0 h1 h2 hp
  | elem h hs => rw [how] at hs ⊢; exact VR.elem (hmu ▸ h) hs
  | eref vs hf hw h1 hv ih => exact .eref vs (fun j hj => hfz ▸ hf j hj) hw h1 ih
  | sl0 ht => exact .sl0 ht
  | sle ht => exact .sle ht
  | sl vs hn hc hz hf hw h1 hv ht ih => exact .sl vs hn hc hz (fun i j hi hj => hfz ▸ hf i j hi hj) hw h1 ih (ht.mono fun _ _ e => htk ▸ e)
  | func hl hv hl' hv' ih ih' => exact .func hl ih hl' ih'
  | yield h => exact .yield (hmu ▸ h)
  | iface h ih => exact .iface ih
  | agg hl h1 hv ih => exact .agg hl h1 ih
  | tup hl hv ih => exact .tup hl ih
def Ty : V → Bool
 | .bool _ => true
 | .int _ _ => true
 | .str _ => true
 | _ => false
inductive GW : V → Prop
 | bool (b : Bool) : GW (.bool b)
 | int (k : IntKind) (n : Int) : GW (.int k n)
 | str (s : ByteArray) : GW (.str s)
 | agg {cs : List V} (h : cs.all Ty = true) : GW (.agg cs)
 | tup2 {x y : V} (h : GW x) (k : GW y) : GW (.tup [x, y])
 | tup3 {x y z : V} (h : GW x) (k : GW y) (m : GW z) : GW (.tup [x, y, z])
theorem GW.any {x : V} (h : GW x) : ∀ {g g' : Gh} {w w' : World} {v : Value}, VR g w v x → VR g' w' v x := by
 induction h with
 | bool b => intro g g' w w' v h; cases h; exact .bool b
 | int k n => intro g g' w w' v h; cases h; exact .int k n
 | str s => intro g g' w w' v h; cases h; exact .str s
 | @agg cs hp =>
  intro g g' w w' v h
  cases h with
  | agg hl h1 hv =>
   refine .agg hl h1 fun i hi => ?_;have hvi := hv i hi;have hm := List.all_eq_true.1 hp _ (List.getElem_mem hi)
   rw [show cs.getD i .bad = cs[i] by rw [List.getD_eq_getElem?_getD, List.getElem?_eq_getElem hi]; rfl] at hvi ⊢
   generalize cs[i] = c at hvi hm ⊢
   generalize Array.getD _ i undef = u at hvi ⊢
   cases c <;> simp only [Ty, Bool.false_eq_true] at hm <;> cases hvi <;> constructor
 | tup2 _ _ ih1 ih2 =>
  intro g g' w w' v h
  cases h with
  | tup hl hv =>
   refine .tup hl fun i hi => ?_
   match i with
   | 0 => exact ih1 (hv 0 hi)
   | 1 => exact ih2 (hv 1 hi)
   | i + 2 => simp at hi; omega
 | tup3 _ _ _ ih1 ih2 ih3 =>
  intro g g' w w' v h
  cases h with
  | tup hl hv =>
   refine .tup hl fun i hi => ?_
   match i with
   | 0 => exact ih1 (hv 0 hi)
   | 1 => exact ih2 (hv 1 hi)
   | 2 => exact ih3 (hv 2 hi)
   | i + 3 => simp at hi; omega
inductive EU (H : A0) : List V → List V → Prop
 | nil : EU H [] []
 | le {x y : V} {xs ys : List V} (h : Z6 x y) (k : EU H xs ys) : EU H (x :: xs) (y :: ys)
 | fm {id : Nat} {ks : List Int} {zs xs ys : List V} (h : H id = some (.fm ks zs)) (k : EU H xs ys) : EU H (.map id :: xs) (.fmap ks zs :: ys)
 | agg {us ws xs ys : List V} (h : EU H us ws) (k : EU H xs ys) : EU H (.agg us :: xs) (.agg ws :: ys)
 | own {id sz : Nat} {zs : List V} {lo n : Int} {xs ys : List V} (h : H id = some (.arr sz zs)) (k : EU H xs ys) : EU H (.own id lo n :: xs) (.sl (G8 zs lo n) .ro :: ys)
theorem EU.length {H : A0} {xs ys : List V} (h : EU H xs ys) : xs.length = ys.length := by
 induction h with
 | nil => rfl
 | le _ _ ih => simp [ih]
 | fm _ _ ih => simp [ih]
 | agg _ _ _ ih => simp [ih]
 | own _ _ ih => simp [ih]
theorem EU.at {g : Gh} {H : A0} {w : World} (hR : Rl g H w) {xs ys : List V} (h : EU H xs ys) : ∀ (vals : Nat → Value), (∀ i, i < xs.length → VR g w (vals i) (xs.getD i .bad)) → ∀ i, i < ys.length → VR (g.lend w) w (vals i) (ys.getD i .bad) := by
 induction h with
 | nil => intro _ _ i hi; simp at hi
 | le h k ih =>
  intro vals hv i hi
  cases i with
  | zero => exact ((hv 0 (by simp)).le h).lend hR.bnd fun b o hf => hR.frz b o hf
  | succ i => exact ih (fun i => vals (i + 1)) (fun i hi => by simpa using hv (i + 1) (by simpa using hi)) i (by simpa using hi)
 | fm h k ih =>
  intro vals hv i hi
  cases i with
  | zero =>
   have h0 := hv 0 (by simp)
   simp only [List.getD_cons_zero] at h0 ⊢
   generalize vals 0 = u at h0
   cases h0 with
   | map hm =>
    obtain ⟨b, es, clock, k1, k2, k3, k4, k5, k6, k7⟩ := hR.blk _ _ h
    rw [hm] at k1; cases k1
    exact VR.fmap (g := Gh.lend _ _) (Kl k3) k3 k4 k5 k6 fun i e hi => (k7 i e hi).lend hR.bnd fun b o hf => hR.frz b o hf
  | succ i => exact ih (fun i => vals (i + 1)) (fun i hi => by simpa using hv (i + 1) (by simpa using hi)) i (by simpa using hi)
 | agg h k ih1 ih =>
  intro vals hv i hi
  cases i with
  | zero =>
   have h0 := hv 0 (by simp)
   simp only [List.getD_cons_zero] at h0 ⊢
   generalize vals 0 = u at h0
   cases h0 with
   | agg hl h1 hv1 =>
    have e := h.length;exact .agg (hl.trans e) (fun i hi => h1 i (by omega)) fun i hi => ih1 (fun i => Array.getD _ i undef) hv1 i hi
  | succ i => exact ih (fun i => vals (i + 1)) (fun i hi => by simpa using hv (i + 1) (by simpa using hi)) i (by simpa using hi)
 | own h k ih =>
  intro vals hv i hi
  cases i with
  | zero => exact hR.lendOwn h (hv 0 (by simp))
  | succ i => exact ih (fun i => vals (i + 1)) (fun i hi => by simpa using hv (i + 1) (by simpa using hi)) i (by simpa using hi)
theorem B5.lent {P : Program} {f : FuncId} {ys : List V} {r : V} (c : B5 P f ys r) (hr : GW r) {H : A0} {xs : List V} (hl : EU H xs ys) : E8 P f xs H fun x H' => x = r ∧ H' = H := by
 intro g w vals hR hA;have hA2 : Args (g.lend w) w vals ys := ⟨hA.1.trans hl.length, hl.at hR (fun i => vals.getD i undef) hA.2⟩;refine (c _ _ w vals hR.lend hA2).mono fun v w' ⟨g', x, H', s, hR', hv, e1, e2⟩ => ?_;subst e1;have hb : Below w.heap.size w w' := s.low;have sg : N4 g w g w' := ⟨fun _ _ e => e, fun _ _ e => e, fun _ _ e => e, rfl, fun b o hf => hb.cell (hR.fz_lt hf), hb.mono hR.bnd, fun _ _ _ => rfl⟩;refine ⟨g, x, H, sg, ⟨fun id b hk => (hR.blk id b hk).mono hk sg fun y hy => ⟨hb.block _ (hR.lt hy), fun _ ho => ho⟩, hR.inj, fun b o hf => ?_, hR.nxt, Nat.le_trans hR.bnd hb.size, fun n => (hR.glb n).mono sg⟩, hr.any hv, rfl, rfl⟩;obtain ⟨u, hu⟩ := hR.frz b o hf;exact ⟨u, (hb.cell (hR.fz_lt hf)).trans hu⟩
section
variable {P : Program} {nt : Nat} {rd : Option Nat} {T : Dt} {E : CU}
variable (hE : E = E7 P nt rd)
include hE
theorem Vz {R S : Type} {m : Option S} {F : S → Option R} {r : R} {f : FuncId} {args args' : List V} {g : S → V} {H : A0} {k : V → A0 → Prop} (h : m.bind F = some r) (hc : ∀ x, m = some x → B5 P f args' (g x)) (hs : ∀ x, GW (g x)) (hl : EU H args args')
 (hk : ∀ x, F x = some r → k (g x) H) : E.call (.func (.func f) [] []) args H k := by
 subst hE;obtain ⟨x, h1, h2⟩ := bind_some h;refine E8.value (F := []) (C := []) ?_;simp only [List.nil_append, List.append_nil]
 exact ((hc x h1).lent (hs x) hl).mono fun v H' ⟨e1, e2⟩ => by subst e1; subst e2; exact hk x h2
theorem TV {α : Type} {f : α → V} {Φ : A0 → A0 → Prop} {H0 H : A0} {L : List En} {sz : Nat} {q : OG} {l : List α} (hO : B3 Φ H0 L H) (hq : X6 q (Ar.len l)) (i : Nat) (hi : L[i]? = some (.blk q.id (.arr sz (q.pre ++ Ar.lst f l ++ q.rest)))) {xs ys : List V} (k : EU H xs ys) :
 EU H (.own q.id q.lo q.n :: xs) (.sl (Ar.lst f l) .ro :: ys) := by
 have := EU.own (lo := q.lo) (n := q.n) (hO.get i hi) k
 rwa [FO hq.1 (by rw [hq.2, Ar.len_eq, I0])] at this
end
end Go.Ab
namespace Go.Ab
open Go.RowKit
variable [H5] [Ar]
theorem B3.swp {Φ : A0 → A0 → Prop} {F H : A0} {L : List En} (h : B3 Φ F L H) (a b : Nat) {x y : En} (ha : L[a]? = some x) (hb : L[b]? = some y) : B3 Φ F ((L.set a y).set b x) H := by
 obtain ⟨h1, e1⟩ := List.getElem?_eq_some_iff.1 ha;obtain ⟨h2, e2⟩ := List.getElem?_eq_some_iff.1 hb;subst e1; subst e2;exact h.perm (List.set_set_perm h1 h2).symm
end Go.Ab
namespace Go.Ab
open Go.RowKit
variable [H5] [Ar]
theorem KR {P : Program} {T : Dt} {f : FuncId} {fn : Func} {c : Code} {n : Nat} {rs : List ResultVar} {args : List V} {F H : A0} {sz : Nat} {xs : List V} {mk : V → V} (hmk : DV mk) (cf : Cf) (hP : Lf P T) (hf : P.funcs[f]? = some fn) (hb : fn.body = some c) (hd : E9 cf c = true)
 (hcall : ∀ vals w, (callFunc f vals).run P w = .ok (.enter f vals) w) (hnt : fn.ntmps = n) (hrs : fn.results.toList = rs) (hn : Nat.ble args.length n = true)
 (h : ∀ (E : CU) (K : V → A0 → Prop), E = E7 P n none → (∀ (q : OG) (L : List En) (i : Nat) H' x, X6 q (xs.length : Nat) → L[i]? = some (.blk q.id (.arr sz (q.pre ++ xs ++ q.rest))) → B3 Eq F L H' → Z6 x (mk (.own q.id q.lo q.n)) → K x H') → (xs = [] → ∀ L H' x, B3 Eq F L H' → Z6 x (mk (.sl [] .nil)) → K x H') → run E T n cf c ⟨Ak args 0, []⟩ H (It E T rs K)) :
 E8 P f args H (Wg F sz xs mk) := by
 refine E8.adoptG (sz := sz) hmk (E8.le (O7 (K := fun x H' => ∃ y H2, Z6 x y ∧ Ds H2 H' ∧ (Wg F sz xs mk y H2 ∨ (y = mk (.sl [] .nil) ∧ ∀ t, H2 t = none → Wg F sz xs mk (mk (.own t 0 0)) (upd H2 t (some (.arr sz [])))))) cf hP.1 hP.2 hf hb hd hcall hnt hrs hn fun E hE => ?_));refine h E _ hE (fun q L i H' x hq hi hO hx => ?_) fun hx L H' x hO hl => ?_
 ·obtain ⟨h1, h2⟩ := (hO.only i hi).last;exact ⟨_, _, hx, h2, .inl ⟨q, rfl, hq, h1, rfl⟩⟩
 exact ⟨_, F, hl, hO.ext, .inr ⟨rfl, fun t ht => ⟨⟨t, 0, 0, [], []⟩, rfl, ⟨rfl, by rw [hx]; rfl⟩, ht, by rw [hx]; rfl⟩⟩⟩
end Go.Ab
