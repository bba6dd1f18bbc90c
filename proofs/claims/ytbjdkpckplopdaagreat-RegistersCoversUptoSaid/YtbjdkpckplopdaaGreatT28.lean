/- AbB13 AbB14 AbB15 AbB16 AbB17 AbB18 -/
import Derived.Test.YtbjdkpckplopdaaGreatT27
import Derived.Test.YtbjdkpckplopdaaGreatT23
import Derived.Test.YtbjdkpckplopdaaGreatT25
set_option linter.all false

namespace Go.Ab
open Go.RowKit
variable [Glob] [Ar]
section
variable {P : Program} {nt : Nat} {rd : Option Nat} {E : Env} (hE : E = real P nt rd)
include hE
variable {α R : Type} {f : α → V} {Φ : Heap → Heap → Prop} {H0 H : Heap} {L : List En} {sz : Nat} {q : OG} {l : List α} {r : R}
end
end Go.Ab

namespace Go.Ab
open Go.RowKit
variable [Glob] [Ar]
def Gh.lend (g : Gh) (w : World) : Gh := { g with fz := fun b o => ∃ v, w.cell? ⟨b, o, none⟩ = some v, base := w.heap.size }
theorem VR.lend {g : Gh} {w : World} {B : Nat} {F : Nat → Nat → Prop} (hB : g.base ≤ B) (hF : ∀ b o, g.fz b o → F b o) {v : Value} {x : V} (h : VR g w v x) : VR { g with fz := F, base := B } w v x := by
 induction h with
 | bad v => exact .bad v
 | bool b => exact .bool b
 | int k n => exact .int k n
 | str s => exact .str s
 | nilp => exact .nilp
 | nilf => exact .nilf
 | nili => exact .nili
 | nilmap => exact .nilmap
 | map h => exact .map h
 | fmap hb hw hk hn hl hv ih => exact VR.fmap (g := { g with fz := F, base := B }) (Nat.lt_of_lt_of_le hb hB) hw hk hn hl ih
 | ref h => exact .ref h
 | own h h0 h1 h2 hp => exact VR.own (g := { g with fz := F, base := B }) h h0 h1 h2 hp
 | elem h hs => exact VR.elem (g := { g with fz := F, base := B }) h hs
 | eref vs hf hw h1 hv ih => exact .eref vs (fun j hj => hF _ _ (hf j hj)) hw h1 ih
 | sl0 ht => exact .sl0 ht
 | sle ht => exact .sle ht
 | sl vs hn hc hz hf hw h1 hv ht ih => exact .sl vs hn hc hz (fun i j hi hj => hF _ _ (hf i j hi hj)) hw h1 ih (ht.mono fun _ _ e => e)
 | func hl hv hl' hv' ih ih' => exact .func hl ih hl' ih'
 | yield h => exact .yield h
 | iface h ih => exact .iface ih
 | agg hl h1 hv ih => exact .agg hl h1 ih
 | tup hl hv ih => exact .tup hl ih
theorem Rl.lend {g : Gh} {H : Heap} {w : World} (h : Rl g H w) : Rl (g.lend w) (fun _ => none) w := by
 refine ⟨fun id b hb => (by cases hb), fun id id' b h1 _ => (by simp [Gh.at] at h1), fun b o hf => hf, fun id hi => ⟨(h.nxt id hi).1, (h.nxt id hi).2.1, rfl⟩, Nat.le_refl _, fun n => (h.glb n).lend h.bnd fun b o hf => h.frz b o hf⟩
theorem Rl.lendOwn {g : Gh} {H : Heap} {w : World} (h : Rl g H w) {id sz : Nat} {xs : List V} (hk : H id = some (.arr sz xs)) {v : Value} {lo n : Int} (hv : VR g w v (.own id lo n)) : VR (g.lend w) w v (.sl (subL xs lo n) .ro) := by
 obtain ⟨g', ⟨e1, e2, e3⟩, s, hR, hw⟩ := h.freezeArr' hk
 have := (hw v lo n (hv.mono s)).lend (F := fun b o => ∃ v, w.cell? ⟨b, o, none⟩ = some v) (B := w.heap.size) hR.bnd fun b o hf => hR.frz b o hf
 have e : ({ g' with fz := fun b o => ∃ v, w.cell? ⟨b, o, none⟩ = some v, base := w.heap.size } : Gh) = { (g.lend w) with nx := g'.nx } := by
  simp only [Gh.lend, Gh.mk.injEq, and_true]
  exact ⟨e1, e3, e2⟩
 rw [e] at this
 exact VR.nxt this
where
 VR.nxt {g : Gh} {w : World} {n : Nat} {v : Value} {x : V} (h : VR { g with nx := n } w v x) : VR g w v x := by
  generalize hg : ({ g with nx := n } : Gh) = g1 at h
  have hmu : g1.mu = g.mu := by rw [← hg]
  have htk : g1.tk = g.tk := by rw [← hg]
  have hfz : g1.fz = g.fz := by rw [← hg]
  have how : g1.ow = g.ow := by rw [← hg]
  have hba : g1.base = g.base := by rw [← hg]
  clear hg
  induction h with
  | bad v => exact .bad v
  | bool b => exact .bool b
  | int k n => exact .int k n
  | str s => exact .str s
  | nilp => exact .nilp
  | nilf => exact .nilf
  | nili => exact .nili
  | nilmap => exact .nilmap
  | map h => exact .map (hmu ▸ h)
  | fmap hb hw hk hn hl hv ih => exact .fmap (hba ▸ hb) hw hk hn hl ih
  | ref h => exact .ref (hmu ▸ h)
  | own h h0 h1 h2 hp => rw [how] at h2 hp ⊢; exact VR.own (hmu ▸ h) h0 h1 h2 hp
  | elem h hs => rw [how] at hs ⊢; exact VR.elem (hmu ▸ h) hs
  | eref vs hf hw h1 hv ih => exact .eref vs (fun j hj => hfz ▸ hf j hj) hw h1 ih
  | sl0 ht => exact .sl0 ht
  | sle ht => exact .sle ht
  | sl vs hn hc hz hf hw h1 hv ht ih => exact .sl vs hn hc hz (fun i j hi hj => hfz ▸ hf i j hi hj) hw h1 ih (ht.mono fun _ _ e => htk ▸ e)
  | func hl hv hl' hv' ih ih' => exact .func hl ih hl' ih'
  | yield h => exact .yield (hmu ▸ h)
  | iface h ih => exact .iface ih
  | agg hl h1 hv ih => exact .agg hl h1 ih
  | tup hl hv ih => exact .tup hl ih
def plainV : V → Bool
 | .bool _ => true
 | .int _ _ => true
 | .str _ => true
 | _ => false
inductive Scal : V → Prop
 | bool (b : Bool) : Scal (.bool b)
 | int (k : IntKind) (n : Int) : Scal (.int k n)
 | str (s : ByteArray) : Scal (.str s)
 | agg {cs : List V} (h : cs.all plainV = true) : Scal (.agg cs)
 | tup2 {x y : V} (h : Scal x) (k : Scal y) : Scal (.tup [x, y])
 | tup3 {x y z : V} (h : Scal x) (k : Scal y) (m : Scal z) : Scal (.tup [x, y, z])
theorem Scal.any {x : V} (h : Scal x) : ∀ {g g' : Gh} {w w' : World} {v : Value}, VR g w v x → VR g' w' v x := by
 induction h with
 | bool b => intro g g' w w' v h; cases h; exact .bool b
 | int k n => intro g g' w w' v h; cases h; exact .int k n
 | str s => intro g g' w w' v h; cases h; exact .str s
 | @agg cs hp =>
  intro g g' w w' v h
  cases h with
  | agg hl h1 hv =>
   refine .agg hl h1 fun i hi => ?_
   have hvi := hv i hi
   have hm := List.all_eq_true.1 hp _ (List.getElem_mem hi)
   rw [show cs.getD i .bad = cs[i] by rw [List.getD_eq_getElem?_getD, List.getElem?_eq_getElem hi]; rfl] at hvi ⊢
   generalize cs[i] = c at hvi hm ⊢
   generalize Array.getD _ i undef = u at hvi ⊢
   cases c <;> simp only [plainV, Bool.false_eq_true] at hm <;> cases hvi <;> constructor
 | tup2 _ _ ih1 ih2 =>
  intro g g' w w' v h
  cases h with
  | tup hl hv =>
   refine .tup hl fun i hi => ?_
   match i with
   | 0 => exact ih1 (hv 0 hi)
   | 1 => exact ih2 (hv 1 hi)
   | i + 2 => simp at hi; omega
 | tup3 _ _ _ ih1 ih2 ih3 =>
  intro g g' w w' v h
  cases h with
  | tup hl hv =>
   refine .tup hl fun i hi => ?_
   match i with
   | 0 => exact ih1 (hv 0 hi)
   | 1 => exact ih2 (hv 1 hi)
   | 2 => exact ih3 (hv 2 hi)
   | i + 3 => simp at hi; omega
inductive Lend (H : Heap) : List V → List V → Prop
 | nil : Lend H [] []
 | le {x y : V} {xs ys : List V} (h : LeV x y) (k : Lend H xs ys) : Lend H (x :: xs) (y :: ys)
 | fm {id : Nat} {ks : List Int} {zs xs ys : List V} (h : H id = some (.fm ks zs)) (k : Lend H xs ys) : Lend H (.map id :: xs) (.fmap ks zs :: ys)
 | agg {us ws xs ys : List V} (h : Lend H us ws) (k : Lend H xs ys) : Lend H (.agg us :: xs) (.agg ws :: ys)
 | own {id sz : Nat} {zs : List V} {lo n : Int} {xs ys : List V} (h : H id = some (.arr sz zs)) (k : Lend H xs ys) : Lend H (.own id lo n :: xs) (.sl (subL zs lo n) .ro :: ys)
theorem Lend.length {H : Heap} {xs ys : List V} (h : Lend H xs ys) : xs.length = ys.length := by
 induction h with
 | nil => rfl
 | le _ _ ih => simp [ih]
 | fm _ _ ih => simp [ih]
 | agg _ _ _ ih => simp [ih]
 | own _ _ ih => simp [ih]
theorem Lend.at {g : Gh} {H : Heap} {w : World} (hR : Rl g H w) {xs ys : List V} (h : Lend H xs ys) : ∀ (vals : Nat → Value), (∀ i, i < xs.length → VR g w (vals i) (xs.getD i .bad)) → ∀ i, i < ys.length → VR (g.lend w) w (vals i) (ys.getD i .bad) := by
 induction h with
 | nil => intro _ _ i hi; simp at hi
 | le h k ih =>
  intro vals hv i hi
  cases i with
  | zero => exact ((hv 0 (by simp)).le h).lend hR.bnd fun b o hf => hR.frz b o hf
  | succ i => exact ih (fun i => vals (i + 1)) (fun i hi => by simpa using hv (i + 1) (by simpa using hi)) i (by simpa using hi)
 | fm h k ih =>
  intro vals hv i hi
  cases i with
  | zero =>
   have h0 := hv 0 (by simp)
   simp only [List.getD_cons_zero] at h0 ⊢
   generalize vals 0 = u at h0
   cases h0 with
   | map hm =>
    obtain ⟨b, es, clock, k1, k2, k3, k4, k5, k6, k7⟩ := hR.blk _ _ h
    rw [hm] at k1; cases k1
    exact VR.fmap (g := Gh.lend _ _) (mem_lt k3) k3 k4 k5 k6 fun i e hi => (k7 i e hi).lend hR.bnd fun b o hf => hR.frz b o hf
  | succ i => exact ih (fun i => vals (i + 1)) (fun i hi => by simpa using hv (i + 1) (by simpa using hi)) i (by simpa using hi)
 | agg h k ih1 ih =>
  intro vals hv i hi
  cases i with
  | zero =>
   have h0 := hv 0 (by simp)
   simp only [List.getD_cons_zero] at h0 ⊢
   generalize vals 0 = u at h0
   cases h0 with
   | agg hl h1 hv1 =>
    have e := h.length
    exact .agg (hl.trans e) (fun i hi => h1 i (by omega)) fun i hi => ih1 (fun i => Array.getD _ i undef) hv1 i hi
  | succ i => exact ih (fun i => vals (i + 1)) (fun i hi => by simpa using hv (i + 1) (by simpa using hi)) i (by simpa using hi)
 | own h k ih =>
  intro vals hv i hi
  cases i with
  | zero => exact hR.lendOwn h (hv 0 (by simp))
  | succ i => exact ih (fun i => vals (i + 1)) (fun i hi => by simpa using hv (i + 1) (by simpa using hi)) i (by simpa using hi)
theorem CallP.lent {P : Program} {f : FuncId} {ys : List V} {r : V} (c : CallP P f ys r) (hr : Scal r) {H : Heap} {xs : List V} (hl : Lend H xs ys) : CallA P f xs H fun x H' => x = r ∧ H' = H := by
 intro g w vals hR hA
 have hA2 : Args (g.lend w) w vals ys := ⟨hA.1.trans hl.length, hl.at hR (fun i => vals.getD i undef) hA.2⟩
 refine (c _ _ w vals hR.lend hA2).mono fun v w' ⟨g', x, H', s, hR', hv, e1, e2⟩ => ?_
 subst e1
 have hb : Below w.heap.size w w' := s.low
 have sg : Stp g w g w' := ⟨fun _ _ e => e, fun _ _ e => e, fun _ _ e => e, rfl, fun b o hf => hb.cell (hR.fz_lt hf), hb.mono hR.bnd, fun _ _ _ => rfl⟩
 refine ⟨g, x, H, sg, ⟨fun id b hk => (hR.blk id b hk).mono hk sg fun y hy => ⟨hb.block _ (hR.lt hy), fun _ ho => ho⟩, hR.inj, fun b o hf => ?_, hR.nxt, Nat.le_trans hR.bnd hb.size, fun n => (hR.glb n).mono sg⟩, hr.any hv, rfl, rfl⟩
 obtain ⟨u, hu⟩ := hR.frz b o hf
 exact ⟨u, (hb.cell (hR.fz_lt hf)).trans hu⟩
section
variable {P : Program} {nt : Nat} {rd : Option Nat} {T : Tbl} {E : Env}
variable (hE : E = real P nt rd)
include hE
theorem n_callB {R S : Type} {m : Option S} {F : S → Option R} {r : R} {f : FuncId} {args args' : List V} {g : S → V} {H : Heap} {k : V → Heap → Prop} (h : m.bind F = some r) (hc : ∀ x, m = some x → CallP P f args' (g x)) (hs : ∀ x, Scal (g x)) (hl : Lend H args args')
 (hk : ∀ x, F x = some r → k (g x) H) : E.call (.func (.func f) [] []) args H k := by
 subst hE
 obtain ⟨x, h1, h2⟩ := bind_some h
 refine CallA.value (F := []) (C := []) ?_
 simp only [List.nil_append, List.append_nil]
 exact ((hc x h1).lent (hs x) hl).mono fun v H' ⟨e1, e2⟩ => by subst e1; subst e2; exact hk x h2
end
end Go.Ab

namespace Go.Ab
open Go.RowKit
variable [Glob] [Ar]
end Go.Ab

namespace Go.Ab
open Go.RowKit Go.MapKept
variable [Glob] [Ar]
section
variable {K X : Type}
def CallMF (P : Program) (f : FuncId) (args : List V) (d : TypeDesc) (kf : K → V) (vf : X → V) (m : List (K × X)) : Prop :=
 ∀ H, CallA P f args H fun v H' => ∃ id o, H id = none ∧ Mok d kf vf o m ∧ v = .map id ∧ H' = upd H id (some (.obj o))
def CallM1 (P : Program) (f : FuncId) (args : List V) (d : TypeDesc) (kf : K → V) (vf : X → V) (m : List (K × X)) (x : V) (m' : List (K × X)) : Prop :=
 ∀ H id o, H id = some (.obj o) → Mok d kf vf o m → CallA P f (.map id :: args) H fun v H' => ∃ o', Mok d kf vf o' m' ∧ v = x ∧ H' = upd H id (some (.obj o'))
def CallM2 (P : Program) (f : FuncId) (d : TypeDesc) (kf : K → V) (vf : X → V) (m l : List (K × X)) (x : V) (m' : List (K × X)) : Prop :=
 ∀ H id o id2 o2, id ≠ id2 → H id = some (.obj o) → H id2 = some (.obj o2) → Mok d kf vf o m → Mok d kf vf o2 l → CallA P f [.map id, .map id2] H fun v H' => ∃ o', Mok d kf vf o' m' ∧ v = x ∧ H' = upd H id (some (.obj o'))
def CallMR (P : Program) (f : FuncId) (d : TypeDesc) (kf : K → V) (vf : X → V) (m : List (K × X)) (x : V) : Prop :=
 ∀ H id o, H id = some (.obj o) → Mok d kf vf o m → CallA P f [.map id] H fun v H' => v = x ∧ H' = H
end
section
variable {P : Program} {nt : Nat} {rd : Option Nat} {T : Tbl} {E : Env}
variable (hE : E = real P nt rd)
include hE
variable {K X R S : Type} {kf : K → V} {vf : X → V} {d : TypeDesc} {Φ : Heap → Heap → Prop} {H0 H : Heap} {L : List En} {r : R} {fid : FuncId} {args args' : List V} {k : V → Heap → Prop}
theorem n_callMF {m : Option (List (K × X))} {F : List (K × X) → Option R} (h : m.bind F = some r) (hc : ∀ x, m = some x → CallMF P fid args' d kf vf x) (hl : LeVs args args') (hO : Own Φ H0 L H)
 (hk : ∀ x id o H', Mok d kf vf o x → Own Φ H0 (.blk id (.obj o) :: L) H' → F x = some r → k (.map id) H') : E.call (.func (.func fid) [] []) args H k := by
 subst hE
 obtain ⟨x, h1, h2⟩ := bind_some h
 refine CallA.value (F := []) (C := []) ?_
 simp only [List.nil_append, List.append_nil]
 exact ((hc x h1 H).args hl).mono fun v H' ⟨id, o, e1, e2, e3, e4⟩ => by subst e3; subst e4; exact hk x id o _ e2 (hO.push e1 rfl) h2
theorem n_callM1 {m : Option (S × List (K × X))} {F : S × List (K × X) → Option R} {g : S → V} {l : List (K × X)} {o : Obj} {id : Nat} (hO : Own Φ H0 L H) (hq : Mok d kf vf o l) (i : Nat) (hi : L[i]? = some (.blk id (.obj o))) (h : m.bind F = some r)
 (hc : ∀ x, m = some x → CallM1 P fid args' d kf vf l (g x.1) x.2) (hl : LeVs args args')
 (hk : ∀ x o' H', Mok d kf vf o' x.2 → Own Φ H0 (L.set i (.blk id (.obj o'))) H' → F x = some r → k (g x.1) H') : E.call (.func (.func fid) [] []) (.map id :: args) H k := by
 subst hE
 obtain ⟨x, h1, h2⟩ := bind_some h
 refine CallA.value (F := []) (C := []) ?_
 simp only [List.nil_append, List.append_nil]
 exact ((hc x h1 H id o (hO.get i hi) hq).args (.cons (.refl _) hl)).mono fun v H' ⟨o', e2, e3, e4⟩ => by subst e3; subst e4; exact hk x o' _ e2 (hO.set i hi) h2
theorem n_callM2 {m : Option (S × List (K × X))} {F : S × List (K × X) → Option R} {g : S → V} {l l2 : List (K × X)} {o o2 : Obj} {id id2 : Nat} (hO : Own Φ H0 L H) (hq : Mok d kf vf o l) (i : Nat) (hi : L[i]? = some (.blk id (.obj o))) (hne : id ≠ id2) (h2 : H id2 = some (.obj o2)) (hq2 : Mok d kf vf o2 l2) (h : m.bind F = some r)
 (hc : ∀ x, m = some x → CallM2 P fid d kf vf l l2 (g x.1) x.2)
 (hk : ∀ x o' H', Mok d kf vf o' x.2 → Own Φ H0 (L.set i (.blk id (.obj o'))) H' → H' = upd H id (some (.obj o')) → F x = some r → k (g x.1) H') : E.call (.func (.func fid) [] []) [.map id, .map id2] H k := by
 subst hE
 obtain ⟨x, h1, h3⟩ := bind_some h
 refine CallA.value (F := []) (C := []) ?_
 simp only [List.nil_append, List.append_nil]
 exact (hc x h1 H id o id2 o2 hne (hO.get i hi) h2 hq hq2).mono fun v H' ⟨o', e2, e3, e4⟩ => by subst e3; subst e4; exact hk x o' _ e2 (hO.set i hi) rfl h3
theorem n_callMR {m : Option S} {F : S → Option R} {g : S → V} {l : List (K × X)} {o : Obj} {id : Nat} (h1 : H id = some (.obj o)) (hq : Mok d kf vf o l) (h : m.bind F = some r) (hc : ∀ x, m = some x → CallMR P fid d kf vf l (g x))
 (hk : ∀ x, F x = some r → k (g x) H) : E.call (.func (.func fid) [] []) [.map id] H k := by
 subst hE
 obtain ⟨x, h2, h3⟩ := bind_some h
 refine CallA.value (F := []) (C := []) ?_
 simp only [List.nil_append, List.append_nil]
 exact (hc x h2 H id o h1 hq).mono fun v H' ⟨e1, e2⟩ => by subst e1; subst e2; exact hk x h3
end
theorem Own.ne {Φ : Heap → Heap → Prop} {F H : Heap} {L : List En} {a b : Nat} {x y : Blk} (h : Own Φ F L H) (i j : Nat) (hi : L[i]? = some (.blk a x)) (hj : L[j]? = some (.blk b y)) (hij : i ≠ j) : a ≠ b := fun e => by
 obtain ⟨hs, F', H1, h0, h1, h2⟩ := h
 subst e
 exact hij (h0.inj i j _ _ a x y hi hj rfl rfl)
section
variable {P : Program} {T : Tbl} {f : FuncId} {fn : Func} {c : Code} {n : Nat} {rs : List ResultVar} {args : List V} {K X : Type} {kf : K → V} {vf : X → V} {d : TypeDesc}
theorem callMF_run {m : List (K × X)} (cf : Cf) (hP : POk P T) (hf : P.funcs[f]? = some fn) (hb : fn.body = some c) (hd : drawsOk cf c = true)
 (hcall : ∀ vals w, (callFunc f vals).run P w = .ok (.enter f vals) w) (hnt : fn.ntmps = n) (hrs : fn.results.toList = rs) (hn : Nat.ble args.length n = true)
 (h : ∀ (E : Env) (H : Heap) (k : V → Heap → Prop), E = real P n none → (∀ id o (L : List En) (i : Nat) H', Mok d kf vf o m → L[i]? = some (.blk id (.obj o)) → Own Eq H L H' → k (.map id) H') → run E T n cf c ⟨entryL args 0, []⟩ H (finX E T rs k)) : CallMF P f args d kf vf m := fun H => by
 refine CallA.le (callA_of_run (K := fun x H' => ∃ y H2, LeV x y ∧ HLe H2 H' ∧ ∃ id o, H id = none ∧ Mok d kf vf o m ∧ y = .map id ∧ H2 = upd H id (some (.obj o))) cf hP.1 hP.2 hf hb hd hcall hnt hrs hn fun E hE => ?_)
 refine h E H _ hE fun id o L i H' hq hi hO => ?_
 obtain ⟨h1, h2⟩ := (hO.only i hi).last
 exact ⟨_, _, .refl _, h2, id, o, h1, hq, rfl, rfl⟩
theorem callM1_run {m m' : List (K × X)} {x : V} (cf : Cf) (hP : POk P T) (hf : P.funcs[f]? = some fn) (hb : fn.body = some c) (hd : drawsOk cf c = true)
 (hcall : ∀ vals w, (callFunc f vals).run P w = .ok (.enter f vals) w) (hnt : fn.ntmps = n) (hrs : fn.results.toList = rs) (hn : Nat.ble (args.length + 1) n = true)
 (h : ∀ (E : Env) (H : Heap) (id : Nat) (o : Obj) (k : V → Heap → Prop), E = real P n none → Mok d kf vf o m → Own Eq (upd H id none) [.blk id (.obj o)] H → (∀ v o' (L : List En) (i : Nat) H', Mok d kf vf o' m' → L[i]? = some (.blk id (.obj o')) → Own Eq (upd H id none) L H' → LeV v x → k v H') → run E T n cf c ⟨entryL (.map id :: args) 0, []⟩ H (finX E T rs k)) : CallM1 P f args d kf vf m x m' := fun H id o hk hq => by
 refine CallA.le (callA_of_run (K := fun v H' => ∃ y H2, LeV v y ∧ HLe H2 H' ∧ ∃ o', Mok d kf vf o' m' ∧ y = x ∧ H2 = upd H id (some (.obj o'))) cf hP.1 hP.2 hf hb hd hcall hnt hrs (by simpa using hn) fun E hE => ?_)
 refine h E H id o _ hE hq (Own.startO hk) fun v o' L i H' hq' hi hO hv => ?_
 obtain ⟨h1, h2⟩ := (hO.only i hi).last
 rw [upd_upd] at h2
 exact ⟨_, _, hv, h2, o', hq', rfl, rfl⟩
theorem callM2_run {m l m' : List (K × X)} {x : V} (cf : Cf) (hP : POk P T) (hf : P.funcs[f]? = some fn) (hb : fn.body = some c) (hd : drawsOk cf c = true)
 (hcall : ∀ vals w, (callFunc f vals).run P w = .ok (.enter f vals) w) (hnt : fn.ntmps = n) (hrs : fn.results.toList = rs) (hn : Nat.ble 2 n = true)
 (h : ∀ (E : Env) (H : Heap) (id id2 : Nat) (o o2 : Obj) (k : V → Heap → Prop), E = real P n none → id ≠ id2 → Mok d kf vf o m → Mok d kf vf o2 l → upd H id none id2 = some (.obj o2) → Own Eq (upd H id none) [.blk id (.obj o)] H → (∀ v o' (L : List En) (i : Nat) H', Mok d kf vf o' m' → L[i]? = some (.blk id (.obj o')) → Own Eq (upd H id none) L H' → LeV v x → k v H') → run E T n cf c ⟨entryL [.map id, .map id2] 0, []⟩ H (finX E T rs k)) : CallM2 P f d kf vf m l x m' := fun H id o id2 o2 hne hk hk2 hq hq2 => by
 refine CallA.le (callA_of_run (K := fun v H' => ∃ y H2, LeV v y ∧ HLe H2 H' ∧ ∃ o', Mok d kf vf o' m' ∧ y = x ∧ H2 = upd H id (some (.obj o'))) cf hP.1 hP.2 hf hb hd hcall hnt hrs hn fun E hE => ?_)
 refine h E H id id2 o o2 _ hE hne hq hq2 (by rw [upd_other _ _ (Ne.symm hne)]; exact hk2) (Own.startO hk) fun v o' L i H' hq' hi hO hv => ?_
 obtain ⟨h1, h2⟩ := (hO.only i hi).last
 rw [upd_upd] at h2
 exact ⟨_, _, hv, h2, o', hq', rfl, rfl⟩
theorem callMR_run {m : List (K × X)} {x : V} (cf : Cf) (hP : POk P T) (hf : P.funcs[f]? = some fn) (hb : fn.body = some c) (hd : drawsOk cf c = true)
 (hcall : ∀ vals w, (callFunc f vals).run P w = .ok (.enter f vals) w) (hnt : fn.ntmps = n) (hrs : fn.results.toList = rs) (hn : Nat.ble 1 n = true)
 (h : ∀ (E : Env) (H : Heap) (id : Nat) (o : Obj) (k : V → Heap → Prop), E = real P n none → Mok d kf vf o m → H id = some (.obj o) → (∀ v (L : List En) H', Own Eq H L H' → LeV v x → k v H') → run E T n cf c ⟨entryL [.map id] 0, []⟩ H (finX E T rs k)) : CallMR P f d kf vf m x := fun H id o hk hq => by
 refine CallA.le (callA_of_run (K := fun v H' => ∃ y H2, LeV v y ∧ HLe H2 H' ∧ y = x ∧ H2 = H) cf hP.1 hP.2 hf hb hd hcall hnt hrs hn fun E hE => ?_)
 exact h E H id o _ hE hq hk fun v L H' hO hv => ⟨_, _, hv, hO.ext, rfl, rfl⟩
end
section
variable {K X : Type}
def ItOk (kf : K → V) (vf : X → V) (o : Obj) (mid : Nat) (b : Blk) (left : List (K × X)) : Prop :=
 ∃ (es : Array MapEntry) (clock : Nat) (seen : Array Nat) (zs : List (MapEntry × (K × X))), o = .map es clock ∧ b = .iter mid clock seen clock ∧ Born es clock ∧ zs.map (·.1) = (leftOf es seen).toList ∧
  (∀ z ∈ zs, rawS (kf z.2.1) = some z.1.key ∧ rawV (vf z.2.2) = some z.1.val) ∧ (zs.map (·.2)).Perm left
def ItAt (kf : K → V) (vf : X → V) (o : Obj) (mid : Nat) (b : Blk) (left : List (K × X)) (p : K × X) : Prop :=
 ItOk kf vf o mid b left ∧ ∃ (es : Array MapEntry) (clock : Nat) (seen : Array Nat) (e : MapEntry), o = .map es clock ∧ b = .iter mid clock (seen.push e.born) clock ∧ e ∈ es.toList ∧ rawS (kf p.1) = some e.key ∧ rawV (vf p.2) = some e.val
theorem perm_drop {α : Type} (key : α → Nat) : ∀ {l : List α} {x : α}, (l.map key).Nodup → x ∈ l → l.Perm (x :: l.filter fun y => !(key y == key x))
 | a :: l, x, hn, hx => by
  rw [List.map_cons, List.nodup_cons] at hn
  rcases List.mem_cons.1 hx with rfl | hx
  ·have : l.filter (fun y => !(key y == key x)) = l := List.filter_eq_self.2 fun y hy => by
    have : key y ≠ key x := fun e => hn.1 (List.mem_map.2 ⟨y, hy, e⟩)
    simp [this]
   rw [List.filter_cons, if_neg (by simp), this]
  ·have hne : key a ≠ key x := fun e => hn.1 (List.mem_map.2 ⟨x, hx, e.symm⟩)
   rw [List.filter_cons, if_pos (by simp [hne])]
   exact ((perm_drop key hn.2 hx).cons a).trans (List.Perm.swap _ _ _)
theorem left_push (es : Array MapEntry) (seen : Array Nat) (b : Nat) : (leftOf es (seen.push b)).toList = (leftOf es seen).toList.filter fun y => !(y.born == b) := by
 unfold leftOf
 rw [Array.toList_filter, Array.toList_filter, List.filter_filter]
 congr 1
 funext y
 rw [contains_push]
 cases seen.contains y.born <;> cases y.born == b <;> rfl
theorem itOk_start {d : TypeDesc} {kf : K → V} {vf : X → V} {es : Array MapEntry} {clock : Nat} {m : List (K × X)} (h : Mok d kf vf (.map es clock) m) (mid : Nat) : ItOk kf vf (.map es clock) mid (.iter mid clock #[] clock) m := by
 obtain ⟨m', ⟨⟨es', c', e1, e2⟩, hk, hn, hst⟩, hp⟩ := h
 cases e1
 have hlen : es.toList.length = m'.length := by have := congrArg List.length e2; simpa using this
 refine ⟨es, clock, #[], es.toList.zip m', rfl, rfl, hst _ _ rfl, ?_, fun z hz => ?_, ?_⟩
 ·have : (leftOf es #[]).toList = es.toList := by
   unfold leftOf
   rw [Array.toList_filter]
   exact List.filter_eq_self.2 fun y _ => by simp
  rw [this, List.map_fst_zip (by omega)]
 ·obtain ⟨i, hi, e⟩ := List.getElem_of_mem hz
  have hi' : i < min es.toList.length m'.length := by simpa [List.length_zip] using hi
  have h1 : i < es.toList.length := by omega
  have h2 : i < m'.length := by omega
  have := congrArg (fun l => l[i]?) e2
  simp only [List.getElem?_map, List.getElem?_eq_getElem h1, List.getElem?_eq_getElem h2, Option.map_some, Option.some.injEq, Prod.mk.injEq] at this
  rw [← e, List.getElem_zip]
  exact ⟨this.1.symm, this.2.symm⟩
 ·rw [List.map_snd_zip (by omega)]; exact hp
end
section
variable {P : Program} {nt : Nat} {rd : Option Nat} {T : Tbl} {E : Env}
variable (hE : E = real P nt rd)
include hE
variable {K X : Type} {kf : K → V} {vf : X → V} {d : TypeDesc} {Φ : Heap → Heap → Prop} {H0 H : Heap} {L : List En} {k : V → Heap → Prop} {m left : List (K × X)} {o : Obj} {mid it : Nat} {b : Blk} {p : K × X}
theorem n_mrg {t kt et : Nat} (hm : P.underlying t = some (.map kt et)) (hO : Own Φ H0 L H) (h1 : H mid = some (.obj o)) (hq : Mok d kf vf o m)
 (hk : ∀ it b H', ItOk kf vf o mid b m → Own Φ H0 (.blk it b :: L) H' → k (.ref it 0) H') : E.mrg t H (.map mid) k := by
 subst hE
 obtain ⟨es, clock, e⟩ : ∃ es clock, o = .map es clock := by obtain ⟨_, ⟨⟨es, c, e, _⟩, _⟩, _⟩ := hq; exact ⟨es, c, e⟩
 subst e
 exact ⟨kt, et, mid, es, clock, hm, rfl, h1, fun id hid => hk id _ _ (itOk_start hq mid) (hO.push hid rfl)⟩
theorem n_mnx (hO : Own Φ H0 L H) (hI : ItOk kf vf o mid b left) (i : Nat) (hi : L[i]? = some (.blk it b)) (h1 : H mid = some (.obj o)) (h0 : left = [] → k (.tup [.bool false]) H)
 (hk : ∀ p left' b' H', left.Perm (p :: left') → ItAt kf vf o mid b' left' p → Own Φ H0 (L.set i (.blk it b')) H' → k (.tup [.bool true, .bad, .bad]) H') : E.mnx H (.ref it 0) k := by
 subst hE
 obtain ⟨es, clock, seen, zs, rfl, rfl, hst, z1, z2, z3⟩ := hI
 have hlen : zs.length = (leftOf es seen).size := by have := congrArg List.length z1; simpa using this
 refine ⟨it, mid, clock, seen, clock, es, clock, rfl, hO.get i hi, h1, hst.1, Nat.le_refl _, fun hs => h0 ?_, fun e he => ?_⟩
 ·have : zs = [] := List.eq_nil_of_length_eq_zero (by omega)
  subst this
  exact List.Perm.eq_nil z3.symm
 ·have he' : e ∈ zs.map (·.1) := by rw [z1]; exact he
  obtain ⟨z, hz, rfl⟩ := List.mem_map.1 he'
  have hnd : (zs.map fun z => z.1.born).Nodup := by
   have e0 : (zs.map fun z => z.1.born) = (leftOf es seen).toList.map (·.born) := by rw [← z1, List.map_map]; rfl
   rw [e0]
   have hs : (leftOf es seen).toList.Sublist es.toList := by unfold leftOf; rw [Array.toList_filter]; exact List.filter_sublist
   exact (hs.map _).nodup hst.2
  have hp := perm_drop (fun z : MapEntry × (K × X) => z.1.born) hnd hz
  refine hk z.2 ((zs.filter fun y => !(y.1.born == z.1.born)).map (·.2)) _ _ (z3.symm.trans (hp.map (·.2))) ⟨⟨es, clock, _, zs.filter fun y => !(y.1.born == z.1.born), rfl, rfl, hst, ?_, fun y hy => z2 y (List.mem_filter.1 hy).1, .refl _⟩, es, clock, seen, z.1, rfl, rfl, ?_, (z2 z hz).1, (z2 z hz).2⟩ (hO.set i hi)
  ·rw [left_push, ← z1, List.filter_map]; rfl
  ·exact (mem_left he).1
theorem n_men (hO : Own Φ H0 L H) (hI : ItAt kf vf o mid b left p) (i : Nat) (hi : L[i]? = some (.blk it b)) (h1 : H mid = some (.obj o)) (hk : k (.tup [kf p.1, vf p.2]) H) : E.men H (.ref it 0) k := by
 subst hE
 obtain ⟨⟨es0, c0, _, _, e0, _, hst, _⟩, es, clock, seen, e, rfl, rfl, he, h3, h4⟩ := hI
 cases e0
 exact ⟨it, mid, c0, seen, c0, es0, c0, e, _, _, rfl, hO.get i hi, rfl, h1, he, hst.2, h3, h4, hk⟩
theorem n_loopI (cf : Cf) (hP : POk P T) {c : Code} {st : St} {H : Heap} {K : Exit → St → Heap → Prop} (Inv : Nat → Fl → Heap → Prop) (X : Exit → Fl → Heap → Prop) (hd : drawsOk cf c = true)
 (round : ∀ n l H, Inv n l H → run E T nt cf c ⟨l, st.df⟩ H fun e st' H' => match e with
  | .normal => ∃ m l', m < n ∧ LeL st'.l l' ∧ st'.df = st.df ∧ Inv m l' H'
  | e => ∃ l, X e l H' ∧ LeL st'.l l ∧ st'.df = st.df)
 {n0 : Nat} {l0 : Fl} (hf : LeL st.l l0) (hI : Inv n0 l0 H) (after : ∀ e l H', X e l H' → K e ⟨l, st.df⟩ H') : E.sim (.loop c) st H K := by
 subst hE
 refine Sim.loopN (fun n fr' H' => ∃ l, FrLe fr' ⟨l, st.df⟩ ∧ Inv n l H') n0 ⟨l0, ⟨fun t => hf.wk t, rfl⟩, hI⟩ fun n fr' H' ⟨l, hle, hi⟩ => ?_
 refine Sim.frLe hle ((run_sound hP.1 hP.2 c _ _ _ hd (round n l H' hi)).mono fun e fr2 H2 ⟨st', hle', hq⟩ => ?_)
 cases e with
 | normal =>
  obtain ⟨m, l', h1, h2, h3, h4⟩ := hq
  exact ⟨m, h1, l', ⟨fun t => (hle'.s t).trans (h2.wk t), hle'.df.trans h3⟩, h4⟩
 | _ =>
  obtain ⟨l', h4, h2, h3⟩ := hq
  exact ⟨⟨l', st.df⟩, ⟨fun t => (hle'.s t).trans (h2.wk t), hle'.df.trans h3⟩, after _ _ _ h4⟩
omit hE in
theorem erase_filter [DecidableEq K] : ∀ {m : List (K × X)} {j : Nat} {p : K × X}, (m.map (·.1)).Nodup → m[j]? = some p → m.eraseIdx j = m.filter fun q => !decide (q.1 = p.1)
 | a :: m, 0, p, hn, h => by
  simp only [List.getElem?_cons_zero, Option.some.injEq] at h
  subst h
  rw [List.map_cons, List.nodup_cons] at hn
  rw [List.filter_cons, if_neg (by simp), List.eraseIdx_cons_zero]
  exact (List.filter_eq_self.2 fun q hq => by
   have : q.1 ≠ a.1 := fun e => hn.1 (List.mem_map.2 ⟨q, hq, e⟩)
   simp [this]).symm
 | a :: m, j + 1, p, hn, h => by
  simp only [List.getElem?_cons_succ] at h
  rw [List.map_cons, List.nodup_cons] at hn
  have : a.1 ≠ p.1 := fun e => hn.1 (List.mem_map.2 ⟨p, List.mem_of_getElem? h, e.symm⟩)
  rw [List.filter_cons, if_pos (by simp [this]), List.eraseIdx_cons_succ, erase_filter hn.2 h]
theorem n_mdel [DecidableEq K] {R : Type} {r : R} {t kt et t2 : Nat} (hm : P.underlying t = some (.map kt et)) (hd : P.underlying kt = some d) (hK : MkOk d kf) (hO : Own Φ H0 L H) (hq : Mok d kf vf o m) (i : Nat) (hi : L[i]? = some (.blk mid (.obj o))) {key : K}
 (hk : ∀ o' H', Mok d kf vf o' (m.filter fun p => !decide (p.1 = key)) → Own Φ H0 (L.set i (.blk mid (.obj o'))) H' → k (.tup []) H') : E.mdel [t, t2] H [.map mid, kf key] k := by
 subst hE
 obtain ⟨m0, hq, hp⟩ := hq
 obtain ⟨kv, hv1, hv2⟩ := hK.raw key
 have hnd := keys_nodup hq
 refine ⟨kt, et, d, kv, mid, o, _, hm, hd, hv1, hv2, rfl, hO.get i hi, hq, fun o' m' h1 h2 => hk o' _ ?_ (hO.set i hi)⟩
 rcases h2 with ⟨rfl, h3⟩ | ⟨j, q, h3, h4, rfl⟩
 ·refine ⟨m0, h1, ?_⟩
  have e : m0.filter (fun p => !decide (p.1 = key)) = m0 := List.filter_eq_self.2 fun p hp => by
   have := h3 (kf p.1, vf p.2) (List.mem_map.2 ⟨p, hp, rfl⟩)
   have : p.1 ≠ key := fun e => this (by rw [e])
   simp [this]
  rw [← e]
  exact hp.filter _
 ·rw [List.getElem?_map] at h3
  cases hj : m0[j]? with
  | none => rw [hj] at h3; cases h3
  | some p0 =>
   rw [hj] at h3
   simp only [Option.map_some, Option.some.injEq] at h3
   subst h3
   have ek : p0.1 = key := hK.inj _ _ h4
   have em : (m0.map fun p => (kf p.1, vf p.2)).eraseIdx j = (m0.eraseIdx j).map fun p => (kf p.1, vf p.2) := by
    apply List.ext_getElem?
    intro i
    simp only [List.getElem?_eraseIdx, List.getElem?_map]
    split <;> rfl
   refine ⟨m0.eraseIdx j, by rw [em] at h1; exact h1, ?_⟩
   rw [erase_filter hnd hj, ek]
   exact hp.filter _
theorem n_mgetG [DecidableEq K] {R : Type} {r : R} {t kt et : Nat} {g : X → V} (hg : ∀ x, vf x = g x) (hm : P.underlying t = some (.map kt et)) (hd : P.underlying kt = some d) (hK : MkOk d kf) {z : V} (z0 : X) (hz : zeO P et = some z) (hvz : z = vf z0) (hO : Own Φ H0 L H) (hq : Mok d kf vf o m) (i : Nat) (hi : L[i]? = some (.blk mid (.obj o)))
 {key : K} {k : V → Prop} {F : X × Bool → Option R} (h : (getM m key z0).bind F = some r) (hk : ∀ x, F x = some r → k (g x.1)) : E.mget t H (.map mid) (kf key) false k :=
 n_mget hE hm hd hK z0 hz hvz hO hq i hi h fun x hx => by rw [hg]; exact hk x hx
theorem n_mget2G [DecidableEq K] {R : Type} {r : R} {t kt et : Nat} {g : X → V} (hg : ∀ x, vf x = g x) (hm : P.underlying t = some (.map kt et)) (hd : P.underlying kt = some d) (hK : MkOk d kf) {z : V} (z0 : X) (hz : zeO P et = some z) (hvz : z = vf z0) (hO : Own Φ H0 L H) (hq : Mok d kf vf o m) (i : Nat) (hi : L[i]? = some (.blk mid (.obj o)))
 {key : K} {k : V → Prop} {F : X × Bool → Option R} (h : (getM m key z0).bind F = some r) (hk : ∀ x, F x = some r → k (.tup [g x.1, .bool x.2])) : E.mget t H (.map mid) (kf key) true k :=
 n_mget2 hE hm hd hK z0 hz hvz hO hq i hi h fun x hx => by rw [hg]; exact hk x hx
theorem n_msetG [DecidableEq K] {R : Type} {r : R} {t kt et : Nat} {y : V} {v : X} (hy : y = vf v) (hm : P.underlying t = some (.map kt et)) (hd : P.underlying kt = some d) (hK : MkOk d kf) (hV : MvOk vf) (hO : Own Φ H0 L H) (hq : Mok d kf vf o m) (i : Nat) (hi : L[i]? = some (.blk mid (.obj o)))
 {key : K} {k : Heap → Prop} {F : List (K × X) → Option R} (h : (setM m key v).bind F = some r) (hk : ∀ m' o' H', Mok d kf vf o' m' → F m' = some r → Own Φ H0 (L.set i (.blk mid (.obj o'))) H' → k H') : E.mset t H (.map mid) (kf key) y k := by
 rw [hy]; exact n_mset hE hm hd hK hV hO hq i hi h hk
end
end Go.Ab

namespace Go.Ab
open Go.RowKit
variable [Glob] [Ar]
def CallB1 (P : Program) (f : FuncId) (A : OG → List V) (sz : Nat) (xs : List V) (r : V) : Prop :=
 ∀ H (q : OG), Okn q (xs.length : Nat) → H q.id = some (.arr sz (q.pre ++ xs ++ q.rest)) → CallA P f (A q) H fun v H' => v = r ∧ H' = H
section
variable {P : Program} {nt : Nat} {rd : Option Nat} {T : Tbl} {E : Env}
variable (hE : E = real P nt rd)
include hE
theorem n_callB1 {α R S : Type} {f : α → V} {Φ : Heap → Heap → Prop} {H0 H : Heap} {L : List En} {sz : Nat} {q : OG} {l : List α} {r : R} {m : Option S} {F : S → Option R} {g : S → V} {fid : FuncId} {args : List V} {A : OG → List V} {k : V → Heap → Prop}
 (hO : Own Φ H0 L H) (hq : Okn q (Ar.len l)) (i : Nat) (hi : L[i]? = some (.blk q.id (.arr sz (q.pre ++ Ar.lst f l ++ q.rest)))) (h : m.bind F = some r) (hc : ∀ x, m = some x → CallB1 P fid A sz (Ar.lst f l) (g x)) (hl : LeVs args (A q))
 (hk : ∀ x, F x = some r → k (g x) H) : E.call (.func (.func fid) [] []) args H k := by
 subst hE
 obtain ⟨x, h1, h2⟩ := bind_some h
 refine CallA.value (F := []) (C := []) ?_
 simp only [List.nil_append, List.append_nil]
 exact ((hc x h1 H q (by rw [lst_len, ← Ar.len_eq]; exact hq) (hO.get i hi)).args hl).mono fun v H' ⟨e1, e2⟩ => by subst e1; subst e2; exact hk x h2
end
end Go.Ab

namespace Go.Ab
open Go.RowKit
variable [Glob] [Ar]
section
variable {P : Program} {nt : Nat} {rd : Option Nat} {T : Tbl} {E : Env}
variable (hE : E = real P nt rd)
include hE
theorem n_elemK {cs ds : List V} {off sz n : Nat} {i : Int} {k : V → Prop} (h : decide (0 ≤ i ∧ i < (n : Int) ∧ off + n * sz ≤ cs.length) = true) (hd : (cs.drop (off + i.toNat * sz)).take sz = ds) (hk : k (.eref ds 0)) : E.elem cs off sz n i k := by
 subst hE; subst hd
 have := of_decide_eq_true h
 exact ⟨⟨this.1, by exact_mod_cast this.2.1, this.2.2⟩, hk⟩
end
end Go.Ab

