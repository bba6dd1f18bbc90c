/- AbF1 AbB14 AbB15 GNTypes GNTy GNEn -/
import Derived.Test.YtfeppncgdbbbeaaGreatDoorT25
import Derived.Test.YtfeppncgdbbbeaaGreatDoorT24
import Derived.Test.YtfeppncgdbbbeaaGreatDoorT21
import Derived.KernelRfl
import Derived.Test.YtfeppncgdbbbeaaGreatDoorChecked
import Derived.Test.YtfeppncgdbbbeaaGreatDoorT22
set_option linter.all false

namespace Go.Ab
open Go.RowKit
variable [Glob] [Ar]
def EnNe (e e' : En) : Prop := ∀ id b b', e.id = some (id, b) → e'.id = some (id, b') → False
theorem Own0.perm {H0 H : Heap} {L L' : List En} (h : Own0 H0 L H) (p : L.Perm L') : Own0 H0 L' H := by
 have hp : L.Pairwise EnNe := by
  rw [List.pairwise_iff_getElem]
  intro i j hi hj hlt id b b' e1 e2
  have := h.inj i j _ _ id b b' (List.getElem?_eq_getElem hi) (List.getElem?_eq_getElem hj) e1 e2
  omega
 have hp' : L'.Pairwise EnNe := (p.pairwise_iff (fun {x y} (h : EnNe x y) id b b' e1 e2 => h id b' b e2 e1)).1 hp
 rw [List.pairwise_iff_getElem] at hp'
 refine ⟨h.ext, fun i e id b hi he => ?_, fun i j e e' id b b' hi hj he he' => ?_, fun x b hx => (h.only x b hx).imp (fun h => h) fun ⟨i, e, h1, h2⟩ => ?_⟩
 ·obtain ⟨j, hj⟩ := List.getElem?_of_mem (p.mem_iff.2 (List.mem_of_getElem? hi))
  exact h.has j e id b hj he
 ·obtain ⟨hi', ei⟩ := List.getElem?_eq_some_iff.1 hi
  obtain ⟨hj', ej⟩ := List.getElem?_eq_some_iff.1 hj
  rcases Nat.lt_trichotomy i j with hlt | heq | hlt
  ·exact (hp' i j hi' hj' hlt id b b' (by rw [ei]; exact he) (by rw [ej]; exact he')).elim
  ·exact heq
  exact (hp' j i hj' hi' hlt id b' b (by rw [ej]; exact he') (by rw [ei]; exact he)).elim
 obtain ⟨j, hj⟩ := List.getElem?_of_mem (p.mem_iff.1 (List.mem_of_getElem? h1))
 exact ⟨j, e, hj, h2⟩
theorem Own.perm {Φ : Heap → Heap → Prop} {F H : Heap} {L L' : List En} (h : Own Φ F L H) (p : L.Perm L') : Own Φ F L' H :=
 let ⟨hs, F', H1, h0, h1, h2⟩ := h; ⟨hs, F', H1, h0.perm p, h1, h2⟩
structure Rw (α : Type) where
 q : OG
 row : List (List α × Tail)
variable {α : Type} (f : α → V)
def cellV (c : List α × Tail) : V := .sl (Ar.lst f c.1) c.2
def rwB (w : Rw α) : En := .blk w.q.id (.arr 1 (w.q.pre ++ Ar.lst (cellV f) w.row ++ w.q.rest))
def rwL (w : Rw α) : List En := rwB f w :: w.row.map fun c => .tl c.2
def fo : List (Rw α) → List En
 | [] => []
 | w :: F => rwL f w ++ fo F
variable {f}
theorem fo_app : ∀ (F G : List (Rw α)), fo f (F ++ G) = fo f F ++ fo f G
 | [], _ => rfl
 | w :: F, G => by rw [List.cons_append, fo, fo, fo_app F G, List.append_assoc]
theorem fo_split : ∀ {F : List (Rw α)} {c : Nat} {w : Rw α}, F[c]? = some w → ∃ R, (fo f F).Perm (rwL f w ++ R) ∧ ∀ w', (fo f (F.set c w')).Perm (rwL f w' ++ R)
 | [], _, _, h => by simp at h
 | v :: F, 0, w, h => by
  simp at h; subst h
  exact ⟨fo f F, .refl _, fun w' => .refl _⟩
 | v :: F, c + 1, w, h => by
  obtain ⟨R, h1, h2⟩ := fo_split (F := F) (c := c) (w := w) (by simpa using h)
  have key : ∀ (X Y : List En), X.Perm (Y ++ R) → (rwL f v ++ X).Perm (Y ++ (rwL f v ++ R)) := fun X Y hX =>
   (hX.append_left _).trans (by
    rw [← List.append_assoc, ← List.append_assoc]
    exact List.perm_append_comm.append_right R)
  exact ⟨rwL f v ++ R, key _ _ h1, fun w' => key _ _ (h2 w')⟩
theorem row_split : ∀ {row : List (List α × Tail)} {i : Nat} {c : List α × Tail}, row[i]? = some c → ∃ R, (row.map fun c => En.tl c.2).Perm (.tl c.2 :: R) ∧ ∀ c', ((row.set i c').map fun c => En.tl c.2).Perm (.tl c'.2 :: R)
 | [], _, _, h => by simp at h
 | v :: F, 0, w, h => by
  simp at h; subst h
  exact ⟨F.map fun c => .tl c.2, .refl _, fun w' => .refl _⟩
 | v :: F, i + 1, w, h => by
  obtain ⟨R, h1, h2⟩ := row_split (row := F) (i := i) (c := w) (by simpa using h)
  exact ⟨.tl v.2 :: R, (h1.cons _).trans (.swap ..), fun w' => ((h2 w').cons _).trans (.swap ..)⟩
theorem cell_split {F : List (Rw α)} {c i : Nat} {w : Rw α} {x : List α × Tail} (hc : F[c]? = some w) (hi : w.row[i]? = some x) :
 ∃ R, (fo f F).Perm (.tl x.2 :: rwB f w :: R) ∧ ∀ x', (fo f (F.set c ⟨w.q, w.row.set i x'⟩)).Perm (.tl x'.2 :: rwB f ⟨w.q, w.row.set i x'⟩ :: R) := by
 obtain ⟨R, h1, h2⟩ := fo_split (f := f) hc
 obtain ⟨S, k1, k2⟩ := row_split hi
 have key : ∀ (b : En) (X : List En) (t : En), X.Perm (t :: S) → (b :: (X ++ R)).Perm (t :: b :: (S ++ R)) := fun b X t hX =>
  ((hX.append_right R).cons b).trans (.swap ..)
 exact ⟨S ++ R, h1.trans (key _ _ _ k1), fun x' => (h2 _).trans (key _ _ _ (k2 x'))⟩
theorem Own.cell {Φ : Heap → Heap → Prop} {H0 H : Heap} {b : En} {L : List En} {F : List (Rw α)} {c i : Nat} {w : Rw α} {x : List α × Tail} (hO : Own Φ H0 (b :: (fo f F ++ L)) H) (hc : F[c]? = some w) (hi : w.row[i]? = some x) :
 ∃ R, Own Φ H0 (.tl x.2 :: rwB f w :: b :: R) H ∧ ∀ x' H', Own Φ H0 (.tl x'.2 :: rwB f ⟨w.q, w.row.set i x'⟩ :: b :: R) H' → Own Φ H0 (b :: (fo f (F.set c ⟨w.q, w.row.set i x'⟩) ++ L)) H' := by
 obtain ⟨R, h1, h2⟩ := cell_split (f := f) hc hi
 have key : ∀ (X : List En) (t r : En), X.Perm (t :: r :: R) → (b :: (X ++ L)).Perm (t :: r :: b :: (R ++ L)) := fun X t r h =>
  ((h.append_right L).cons b).trans ((List.Perm.swap t b _).trans ((List.Perm.swap r b _).cons t))
 exact ⟨R ++ L, hO.perm (key _ _ _ h1), fun x' H' h => h.perm (key _ _ _ (h2 x')).symm⟩
theorem Own.row {Φ : Heap → Heap → Prop} {H0 H : Heap} {b b' : En} {L : List En} {F : List (Rw α)} {w : Rw α} (hO : Own Φ H0 (rwB f w :: b :: b' :: (fo f F ++ L)) H) (hw : ∀ c ∈ w.row, (En.tl c.2).id = none) : Own Φ H0 (b' :: (fo f (F ++ [w]) ++ (b :: L))) H := by
 have h1 : ∀ (row : List (List α × Tail)) (M : List En), (∀ c ∈ row, (En.tl c.2).id = none) → Own Φ H0 M H → Own Φ H0 ((row.map fun c => .tl c.2) ++ M) H := by
  intro row
  induction row with
  | nil => exact fun _ _ h => h
  | cons c row ih => exact fun M hr h => (ih M (fun c hc => hr c (by simp [hc])) h).tl0 (hr c (by simp))
 have h2 := h1 w.row _ hw hO
 refine h2.perm ?_
 rw [fo_app]
 simp only [fo, rwL, List.append_nil]
 generalize w.row.map (fun c => En.tl c.2) = X
 generalize fo f F = Y
 have p1 : (X ++ rwB f w :: b :: b' :: (Y ++ L)).Perm (rwB f w :: X ++ (b :: b' :: (Y ++ L))) := List.perm_middle
 have p2 : (rwB f w :: X ++ (b :: b' :: (Y ++ L))).Perm (b' :: (rwB f w :: X ++ (b :: (Y ++ L)))) :=
  ((List.Perm.swap b' b (Y ++ L)).append_left (rwB f w :: X)).trans List.perm_middle
 refine p1.trans (p2.trans (.cons b' ?_))
 have p3 : (rwB f w :: X ++ (b :: (Y ++ L))).Perm (rwB f w :: X ++ (Y ++ b :: L)) := (List.perm_middle.symm).append_left _
 refine p3.trans ?_
 rw [← List.append_assoc]
 exact (List.perm_append_comm (l₁ := rwB f w :: X) (l₂ := Y)).append_right _
end Go.Ab

namespace Go.Ab
open Go.RowKit
variable [Glob] [Ar]
def Gh.lend (g : Gh) (w : World) : Gh := { g with fz := fun b o => ∃ v, w.cell? ⟨b, o, none⟩ = some v, base := w.heap.size }
theorem VR.lend {g : Gh} {w : World} {B : Nat} {F : Nat → Nat → Prop} (hF : ∀ b o, g.fz b o → F b o) {v : Value} {x : V} (h : VR g w v x) : VR { g with fz := F, base := B } w v x := by
 induction h with
 | bad v => exact .bad v
 | bool b => exact .bool b
 | int k n => exact .int k n
 | str s => exact .str s
 | nilp => exact .nilp
 | nilf => exact .nilf
 | nili => exact .nili
 | nilmap => exact .nilmap
 | map h => exact .map h
 | ref h => exact .ref h
 | own h h0 h1 h2 hp => exact VR.own (g := { g with fz := F, base := B }) h h0 h1 h2 hp
 | elem h hs => exact VR.elem (g := { g with fz := F, base := B }) h hs
 | eref vs hf hw h1 hv ih => exact .eref vs (fun j hj => hF _ _ (hf j hj)) hw h1 ih
 | sl0 ht => exact .sl0 ht
 | sle ht => exact .sle ht
 | sl vs hn hc hz hf hw h1 hv ht ih => exact .sl vs hn hc hz (fun i j hi hj => hF _ _ (hf i j hi hj)) hw h1 ih (ht.mono fun _ _ e => e)
 | func hl hv hl' hv' ih ih' => exact .func hl ih hl' ih'
 | yield h => exact .yield h
 | iface h ih => exact .iface ih
 | agg hl h1 hv ih => exact .agg hl h1 ih
 | tup hl hv ih => exact .tup hl ih
theorem Rl.lend {g : Gh} {H : Heap} {w : World} (h : Rl g H w) : Rl (g.lend w) (fun _ => none) w := by
 refine ⟨fun id b hb => (by cases hb), fun id id' b h1 _ => (by simp [Gh.at] at h1), fun b o hf => hf, fun id hi => ⟨(h.nxt id hi).1, (h.nxt id hi).2.1, rfl⟩, Nat.le_refl _, fun n => (h.glb n).lend fun b o hf => h.frz b o hf⟩
theorem Rl.lendOwn {g : Gh} {H : Heap} {w : World} (h : Rl g H w) {id sz : Nat} {xs : List V} (hk : H id = some (.arr sz xs)) {v : Value} {lo n : Int} (hv : VR g w v (.own id lo n)) : VR (g.lend w) w v (.sl (subL xs lo n) .ro) := by
 obtain ⟨g', ⟨e1, e2, e3⟩, s, hR, hw⟩ := h.freezeArr' hk
 have := (hw v lo n (hv.mono s)).lend (F := fun b o => ∃ v, w.cell? ⟨b, o, none⟩ = some v) (B := w.heap.size) fun b o hf => hR.frz b o hf
 have e : ({ g' with fz := fun b o => ∃ v, w.cell? ⟨b, o, none⟩ = some v, base := w.heap.size } : Gh) = { (g.lend w) with nx := g'.nx } := by
  simp only [Gh.lend, Gh.mk.injEq, and_true]
  exact ⟨e1, e3, e2⟩
 rw [e] at this
 exact VR.nxt this
where
 VR.nxt {g : Gh} {w : World} {n : Nat} {v : Value} {x : V} (h : VR { g with nx := n } w v x) : VR g w v x := by
  generalize hg : ({ g with nx := n } : Gh) = g1 at h
  have hmu : g1.mu = g.mu := by rw [← hg]
  have htk : g1.tk = g.tk := by rw [← hg]
  have hfz : g1.fz = g.fz := by rw [← hg]
  have how : g1.ow = g.ow := by rw [← hg]
  clear hg
  induction h with
  | bad v => exact .bad v
  | bool b => exact .bool b
  | int k n => exact .int k n
  | str s => exact .str s
  | nilp => exact .nilp
  | nilf => exact .nilf
  | nili => exact .nili
  | nilmap => exact .nilmap
  | map h => exact .map (hmu ▸ h)
  | ref h => exact .ref (hmu ▸ h)
  | own h h0 h1 h2 hp => rw [how] at h2 hp ⊢; exact VR.own (hmu ▸ h) h0 h1 h2 hp
  | elem h hs => rw [how] at hs ⊢; exact VR.elem (hmu ▸ h) hs
  | eref vs hf hw h1 hv ih => exact .eref vs (fun j hj => hfz ▸ hf j hj) hw h1 ih
  | sl0 ht => exact .sl0 ht
  | sle ht => exact .sle ht
  | sl vs hn hc hz hf hw h1 hv ht ih => exact .sl vs hn hc hz (fun i j hi hj => hfz ▸ hf i j hi hj) hw h1 ih (ht.mono fun _ _ e => htk ▸ e)
  | func hl hv hl' hv' ih ih' => exact .func hl ih hl' ih'
  | yield h => exact .yield (hmu ▸ h)
  | iface h ih => exact .iface ih
  | agg hl h1 hv ih => exact .agg hl h1 ih
  | tup hl hv ih => exact .tup hl ih
inductive Scal : V → Prop
 | bool (b : Bool) : Scal (.bool b)
 | int (k : IntKind) (n : Int) : Scal (.int k n)
 | tup2 {x y : V} (h : Scal x) (k : Scal y) : Scal (.tup [x, y])
 | tup3 {x y z : V} (h : Scal x) (k : Scal y) (m : Scal z) : Scal (.tup [x, y, z])
theorem Scal.any {x : V} (h : Scal x) : ∀ {g g' : Gh} {w w' : World} {v : Value}, VR g w v x → VR g' w' v x := by
 induction h with
 | bool b => intro g g' w w' v h; cases h; exact .bool b
 | int k n => intro g g' w w' v h; cases h; exact .int k n
 | tup2 _ _ ih1 ih2 =>
  intro g g' w w' v h
  cases h with
  | tup hl hv =>
   refine .tup hl fun i hi => ?_
   match i with
   | 0 => exact ih1 (hv 0 hi)
   | 1 => exact ih2 (hv 1 hi)
   | i + 2 => simp at hi; omega
 | tup3 _ _ _ ih1 ih2 ih3 =>
  intro g g' w w' v h
  cases h with
  | tup hl hv =>
   refine .tup hl fun i hi => ?_
   match i with
   | 0 => exact ih1 (hv 0 hi)
   | 1 => exact ih2 (hv 1 hi)
   | 2 => exact ih3 (hv 2 hi)
   | i + 3 => simp at hi; omega
inductive Lend (H : Heap) : List V → List V → Prop
 | nil : Lend H [] []
 | le {x y : V} {xs ys : List V} (h : LeV x y) (k : Lend H xs ys) : Lend H (x :: xs) (y :: ys)
 | own {id sz : Nat} {zs : List V} {lo n : Int} {xs ys : List V} (h : H id = some (.arr sz zs)) (k : Lend H xs ys) : Lend H (.own id lo n :: xs) (.sl (subL zs lo n) .ro :: ys)
theorem Lend.of {H : Heap} {xs ys : List V} (h : LeVs xs ys) : Lend H xs ys := by
 induction xs generalizing ys with
 | nil => cases h; exact .nil
 | cons x xs ih => cases h with | cons h1 h2 => exact .le h1 (ih h2)
theorem Lend.length {H : Heap} {xs ys : List V} (h : Lend H xs ys) : xs.length = ys.length := by
 induction h with
 | nil => rfl
 | le _ _ ih => simp [ih]
 | own _ _ ih => simp [ih]
theorem Lend.at {g : Gh} {H : Heap} {w : World} (hR : Rl g H w) {xs ys : List V} (h : Lend H xs ys) : ∀ (vals : Nat → Value), (∀ i, i < xs.length → VR g w (vals i) (xs.getD i .bad)) → ∀ i, i < ys.length → VR (g.lend w) w (vals i) (ys.getD i .bad) := by
 induction h with
 | nil => intro _ _ i hi; simp at hi
 | le h k ih =>
  intro vals hv i hi
  cases i with
  | zero => exact ((hv 0 (by simp)).le h).lend fun b o hf => hR.frz b o hf
  | succ i => exact ih (fun i => vals (i + 1)) (fun i hi => by simpa using hv (i + 1) (by simpa using hi)) i (by simpa using hi)
 | own h k ih =>
  intro vals hv i hi
  cases i with
  | zero => exact hR.lendOwn h (hv 0 (by simp))
  | succ i => exact ih (fun i => vals (i + 1)) (fun i hi => by simpa using hv (i + 1) (by simpa using hi)) i (by simpa using hi)
theorem CallP.lent {P : Program} {f : FuncId} {ys : List V} {r : V} (c : CallP P f ys r) (hr : Scal r) {H : Heap} {xs : List V} (hl : Lend H xs ys) : CallA P f xs H fun x H' => x = r ∧ H' = H := by
 intro g w vals hR hA
 have hA2 : Args (g.lend w) w vals ys := ⟨hA.1.trans hl.length, hl.at hR (fun i => vals.getD i undef) hA.2⟩
 refine (c _ _ w vals hR.lend hA2).mono fun v w' ⟨g', x, H', s, hR', hv, e1, e2⟩ => ?_
 subst e1
 have hb : Below w.heap.size w w' := s.low
 have sg : Stp g w g w' := ⟨fun _ _ e => e, fun _ _ e => e, fun _ _ e => e, rfl, fun b o hf => hb.cell (hR.fz_lt hf), hb.mono hR.bnd, fun _ _ _ => rfl⟩
 refine ⟨g, x, H, sg, ⟨fun id b hk => (hR.blk id b hk).mono hk sg fun y hy => ⟨hb.block _ (hR.lt hy), fun _ ho => ho⟩, hR.inj, fun b o hf => ?_, hR.nxt, Nat.le_trans hR.bnd hb.size, fun n => (hR.glb n).mono sg⟩, hr.any hv, rfl, rfl⟩
 obtain ⟨u, hu⟩ := hR.frz b o hf
 exact ⟨u, (hb.cell (hR.fz_lt hf)).trans hu⟩
section
variable {P : Program} {nt : Nat} {rd : Option Nat} {T : Tbl} {E : Env}
variable (hE : E = real P nt rd)
include hE
theorem n_callB {R S : Type} {m : Option S} {F : S → Option R} {r : R} {f : FuncId} {args args' : List V} {g : S → V} {H : Heap} {k : V → Heap → Prop} (h : m.bind F = some r) (hc : ∀ x, m = some x → CallP P f args' (g x)) (hs : ∀ x, Scal (g x)) (hl : Lend H args args')
 (hk : ∀ x, F x = some r → k (g x) H) : E.call (.func (.func f) [] []) args H k := by
 subst hE
 obtain ⟨x, h1, h2⟩ := bind_some h
 refine CallA.value (F := []) (C := []) ?_
 simp only [List.nil_append, List.append_nil]
 exact ((hc x h1).lent (hs x) hl).mono fun v H' ⟨e1, e2⟩ => by subst e1; subst e2; exact hk x h2
theorem lend_own {α : Type} {f : α → V} {Φ : Heap → Heap → Prop} {H0 H : Heap} {L : List En} {sz : Nat} {q : OG} {l : List α} (hO : Own Φ H0 L H) (hq : Okn q (Ar.len l)) (i : Nat) (hi : L[i]? = some (.blk q.id (.arr sz (q.pre ++ Ar.lst f l ++ q.rest)))) {xs ys : List V} (k : Lend H xs ys) :
 Lend H (.own q.id q.lo q.n :: xs) (.sl (Ar.lst f l) .ro :: ys) := by
 have := Lend.own (lo := q.lo) (n := q.n) (hO.get i hi) k
 rwa [sub_mid hq.1 (by rw [hq.2, Ar.len_eq, lst_len])] at this
end
end Go.Ab

namespace Go.Ab
open Go.RowKit
variable [Glob] [Ar]
theorem Own.swp {Φ : Heap → Heap → Prop} {F H : Heap} {L : List En} (h : Own Φ F L H) (a b : Nat) {x y : En} (ha : L[a]? = some x) (hb : L[b]? = some y) : Own Φ F ((L.set a y).set b x) H := by
 obtain ⟨h1, e1⟩ := List.getElem?_eq_some_iff.1 ha
 obtain ⟨h2, e2⟩ := List.getElem?_eq_some_iff.1 hb
 subst e1; subst e2
 exact h.perm (List.set_set_perm h1 h2).symm
end Go.Ab

namespace Go.Ab
open Go.RowKit Go.Proofs
set_option maxRecDepth 100000
def ti3 : TInf := ⟨1, 8, false, none, none, [], none, some (.int .i64 0), some [0], false, false, some .i64, true⟩
theorem tiOk3 : TOk1 Tryz.prog 3 ti3 := ⟨by kernel_rfl, by kernel_rfl, by kernel_rfl, by kernel_rfl, by kernel_rfl, trivial, trivial, (by show zeO Tryz.prog 3 = some _; kernel_rfl), (by show flatEq Tryz.prog 9 3 = some _; kernel_rfl), by kernel_rfl, (fun h => (by cases h)), (by show Tryz.prog.underlying 3 = some (.int _); kernel_rfl), (fun _ => (by kernel_rfl))⟩
def ti4 : TInf := ⟨1, 1, false, none, none, [], none, some (.bool false), some [1], false, true, none, true⟩
theorem tiOk4 : TOk1 Tryz.prog 4 ti4 := ⟨by kernel_rfl, by kernel_rfl, by kernel_rfl, by kernel_rfl, by kernel_rfl, trivial, trivial, (by show zeO Tryz.prog 4 = some _; kernel_rfl), (by show flatEq Tryz.prog 9 4 = some _; kernel_rfl), by kernel_rfl, (fun _ => (by kernel_rfl)), trivial, (fun _ => (by kernel_rfl))⟩
def ti5 : TInf := ⟨1, 1, false, none, none, [], none, some (.int .u8 0), some [0], false, false, some .u8, true⟩
theorem tiOk5 : TOk1 Tryz.prog 5 ti5 := ⟨by kernel_rfl, by kernel_rfl, by kernel_rfl, by kernel_rfl, by kernel_rfl, trivial, trivial, (by show zeO Tryz.prog 5 = some _; kernel_rfl), (by show flatEq Tryz.prog 9 5 = some _; kernel_rfl), by kernel_rfl, (fun h => (by cases h)), (by show Tryz.prog.underlying 5 = some (.int _); kernel_rfl), (fun _ => (by kernel_rfl))⟩
def ti9 : TInf := ⟨1, 16, false, none, none, [], none, some (.str ⟨#[]⟩), some [2], true, false, none, true⟩
theorem tiOk9 : TOk1 Tryz.prog 9 ti9 := ⟨by kernel_rfl, by kernel_rfl, by kernel_rfl, by kernel_rfl, by kernel_rfl, trivial, trivial, (by show zeO Tryz.prog 9 = some _; kernel_rfl), (by show flatEq Tryz.prog 9 9 = some _; kernel_rfl), by kernel_rfl, (fun h => (by cases h)), trivial, (fun _ => (by kernel_rfl))⟩
def ti22 : TInf := ⟨1, 24, false, some (29), none, [], none, some (.sl [] .nil), none, false, false, none, true⟩
theorem tiOk22 : TOk1 Tryz.prog 22 ti22 := ⟨by kernel_rfl, by kernel_rfl, by kernel_rfl, by kernel_rfl, by kernel_rfl, trivial, trivial, (by show zeO Tryz.prog 22 = some _; kernel_rfl), trivial, by kernel_rfl, (fun h => (by cases h)), trivial, (fun _ => (by kernel_rfl))⟩
def ti23 : TInf := ⟨1, 24, false, some (27), none, [], none, some (.sl [] .nil), none, false, false, none, true⟩
theorem tiOk23 : TOk1 Tryz.prog 23 ti23 := ⟨by kernel_rfl, by kernel_rfl, by kernel_rfl, by kernel_rfl, by kernel_rfl, trivial, trivial, (by show zeO Tryz.prog 23 = some _; kernel_rfl), trivial, by kernel_rfl, (fun h => (by cases h)), trivial, (fun _ => (by kernel_rfl))⟩
def ti25 : TInf := ⟨3, 32, true, none, none, [some (0, 3), some (1, 3), some (2, 9)], some [(0, 1), (1, 1), (2, 1)], some (.agg [.int .i64 0, .int .i64 0, .str ⟨#[]⟩]), some [0, 0, 2], false, false, none, true⟩
theorem tiOk25 : TOk1 Tryz.prog 25 ti25 := ⟨by kernel_rfl, by kernel_rfl, by kernel_rfl, by kernel_rfl, by kernel_rfl, ⟨by kernel_rfl, by kernel_rfl, by kernel_rfl, trivial⟩, (by show placesO Tryz.prog 25 = some _; kernel_rfl), (by show zeO Tryz.prog 25 = some _; kernel_rfl), (by show flatEq Tryz.prog 9 25 = some _; kernel_rfl), by kernel_rfl, (fun h => (by cases h)), trivial, (fun _ => (by kernel_rfl))⟩
def ti27 : TInf := ⟨8, 88, true, none, none, [some (0, 3), some (1, 23), some (2, 3), some (3, 3), some (4, 3), some (5, 25)], some [(0, 1), (1, 1), (2, 1), (3, 1), (4, 1), (5, 3)], some (.agg [.int .i64 0, .sl [] .nil, .int .i64 0, .int .i64 0, .int .i64 0, .int .i64 0, .int .i64 0, .str ⟨#[]⟩]), none, false, false, none, true⟩
theorem tiOk27 : TOk1 Tryz.prog 27 ti27 := ⟨by kernel_rfl, by kernel_rfl, by kernel_rfl, by kernel_rfl, by kernel_rfl, ⟨by kernel_rfl, by kernel_rfl, by kernel_rfl, by kernel_rfl, by kernel_rfl, by kernel_rfl, trivial⟩, (by show placesO Tryz.prog 27 = some _; kernel_rfl), (by show zeO Tryz.prog 27 = some _; kernel_rfl), trivial, by kernel_rfl, (fun h => (by cases h)), trivial, (fun _ => (by kernel_rfl))⟩
def ti29 : TInf := ⟨14, 152, true, none, none, [some (0, 3), some (1, 22), some (2, 3), some (3, 3), some (4, 3), some (5, 3), some (6, 27)], some [(0, 1), (1, 1), (2, 1), (3, 1), (4, 1), (5, 1), (6, 8)], some (.agg [.int .i64 0, .sl [] .nil, .int .i64 0, .int .i64 0, .int .i64 0, .int .i64 0, .int .i64 0, .sl [] .nil, .int .i64 0, .int .i64 0, .int .i64 0, .int .i64 0, .int .i64 0, .str ⟨#[]⟩]), none, false, false, none, true⟩
theorem tiOk29 : TOk1 Tryz.prog 29 ti29 := ⟨by kernel_rfl, by kernel_rfl, by kernel_rfl, by kernel_rfl, by kernel_rfl, ⟨by kernel_rfl, by kernel_rfl, by kernel_rfl, by kernel_rfl, by kernel_rfl, by kernel_rfl, by kernel_rfl, trivial⟩, (by show placesO Tryz.prog 29 = some _; kernel_rfl), (by show zeO Tryz.prog 29 = some _; kernel_rfl), trivial, by kernel_rfl, (fun h => (by cases h)), trivial, (fun _ => (by kernel_rfl))⟩
def ti31 : TInf := ⟨1, 8, false, none, none, [], none, some (.int .i64 0), some [0], false, false, some .i64, true⟩
theorem tiOk31 : TOk1 Tryz.prog 31 ti31 := ⟨by kernel_rfl, by kernel_rfl, by kernel_rfl, by kernel_rfl, by kernel_rfl, trivial, trivial, (by show zeO Tryz.prog 31 = some _; kernel_rfl), (by show flatEq Tryz.prog 9 31 = some _; kernel_rfl), by kernel_rfl, (fun h => (by cases h)), (by show Tryz.prog.underlying 31 = some (.int _); kernel_rfl), (fun _ => (by kernel_rfl))⟩
def ti36 : TInf := ⟨1, 24, false, some (3), none, [], none, some (.sl [] .nil), none, false, false, none, true⟩
theorem tiOk36 : TOk1 Tryz.prog 36 ti36 := ⟨by kernel_rfl, by kernel_rfl, by kernel_rfl, by kernel_rfl, by kernel_rfl, trivial, trivial, (by show zeO Tryz.prog 36 = some _; kernel_rfl), trivial, by kernel_rfl, (fun h => (by cases h)), trivial, (fun _ => (by kernel_rfl))⟩
def ti38 : TInf := ⟨1, 24, false, some (51), none, [], none, some (.sl [] .nil), none, false, false, none, true⟩
theorem tiOk38 : TOk1 Tryz.prog 38 ti38 := ⟨by kernel_rfl, by kernel_rfl, by kernel_rfl, by kernel_rfl, by kernel_rfl, trivial, trivial, (by show zeO Tryz.prog 38 = some _; kernel_rfl), trivial, by kernel_rfl, (fun h => (by cases h)), trivial, (fun _ => (by kernel_rfl))⟩
def ti41 : TInf := ⟨1, 24, false, some (46), none, [], none, some (.sl [] .nil), none, false, false, none, true⟩
theorem tiOk41 : TOk1 Tryz.prog 41 ti41 := ⟨by kernel_rfl, by kernel_rfl, by kernel_rfl, by kernel_rfl, by kernel_rfl, trivial, trivial, (by show zeO Tryz.prog 41 = some _; kernel_rfl), trivial, by kernel_rfl, (fun h => (by cases h)), trivial, (fun _ => (by kernel_rfl))⟩
def ti46 : TInf := ⟨11, 112, true, none, none, [some (0, 3), some (1, 3), some (2, 3), some (3, 27)], some [(0, 1), (1, 1), (2, 1), (3, 8)], some (.agg [.int .i64 0, .int .i64 0, .int .i64 0, .int .i64 0, .sl [] .nil, .int .i64 0, .int .i64 0, .int .i64 0, .int .i64 0, .int .i64 0, .str ⟨#[]⟩]), none, false, false, none, true⟩
theorem tiOk46 : TOk1 Tryz.prog 46 ti46 := ⟨by kernel_rfl, by kernel_rfl, by kernel_rfl, by kernel_rfl, by kernel_rfl, ⟨by kernel_rfl, by kernel_rfl, by kernel_rfl, by kernel_rfl, trivial⟩, (by show placesO Tryz.prog 46 = some _; kernel_rfl), (by show zeO Tryz.prog 46 = some _; kernel_rfl), trivial, by kernel_rfl, (fun h => (by cases h)), trivial, (fun _ => (by kernel_rfl))⟩
def ti49 : TInf := ⟨1, 24, false, some (59), none, [], none, some (.sl [] .nil), none, false, false, none, true⟩
theorem tiOk49 : TOk1 Tryz.prog 49 ti49 := ⟨by kernel_rfl, by kernel_rfl, by kernel_rfl, by kernel_rfl, by kernel_rfl, trivial, trivial, (by show zeO Tryz.prog 49 = some _; kernel_rfl), trivial, by kernel_rfl, (fun h => (by cases h)), trivial, (fun _ => (by kernel_rfl))⟩
def ti51 : TInf := ⟨17, 240, true, none, none, [some (0, 3), some (1, 3), some (2, 3), some (3, 3), some (4, 27), some (12, 36), some (13, 36), some (14, 23), some (15, 49), some (16, 36)], some [(0, 1), (1, 1), (2, 1), (3, 1), (4, 8), (12, 1), (13, 1), (14, 1), (15, 1), (16, 1)], some (.agg [.int .i64 0, .int .i64 0, .int .i64 0, .int .i64 0, .int .i64 0, .sl [] .nil, .int .i64 0, .int .i64 0, .int .i64 0, .int .i64 0, .int .i64 0, .str ⟨#[]⟩, .sl [] .nil, .sl [] .nil, .sl [] .nil, .sl [] .nil, .sl [] .nil]), none, false, false, none, true⟩
theorem tiOk51 : TOk1 Tryz.prog 51 ti51 := ⟨by kernel_rfl, by kernel_rfl, by kernel_rfl, by kernel_rfl, by kernel_rfl, ⟨by kernel_rfl, by kernel_rfl, by kernel_rfl, by kernel_rfl, by kernel_rfl, by kernel_rfl, by kernel_rfl, by kernel_rfl, by kernel_rfl, by kernel_rfl, trivial⟩, (by show placesO Tryz.prog 51 = some _; kernel_rfl), (by show zeO Tryz.prog 51 = some _; kernel_rfl), trivial, by kernel_rfl, (fun h => (by cases h)), trivial, (fun _ => (by kernel_rfl))⟩
def ti59 : TInf := ⟨2, 16, true, none, none, [some (0, 3), some (1, 3)], some [(0, 1), (1, 1)], some (.agg [.int .i64 0, .int .i64 0]), some [0, 0], false, false, none, true⟩
theorem tiOk59 : TOk1 Tryz.prog 59 ti59 := ⟨by kernel_rfl, by kernel_rfl, by kernel_rfl, by kernel_rfl, by kernel_rfl, ⟨by kernel_rfl, by kernel_rfl, trivial⟩, (by show placesO Tryz.prog 59 = some _; kernel_rfl), (by show zeO Tryz.prog 59 = some _; kernel_rfl), (by show flatEq Tryz.prog 9 59 = some _; kernel_rfl), by kernel_rfl, (fun h => (by cases h)), trivial, (fun _ => (by kernel_rfl))⟩
def ti76 : TInf := ⟨1, 8, false, none, none, [], none, some (.int .u64 0), some [0], false, false, some .u64, true⟩
theorem tiOk76 : TOk1 Tryz.prog 76 ti76 := ⟨by kernel_rfl, by kernel_rfl, by kernel_rfl, by kernel_rfl, by kernel_rfl, trivial, trivial, (by show zeO Tryz.prog 76 = some _; kernel_rfl), (by show flatEq Tryz.prog 9 76 = some _; kernel_rfl), by kernel_rfl, (fun h => (by cases h)), (by show Tryz.prog.underlying 76 = some (.int _); kernel_rfl), (fun _ => (by kernel_rfl))⟩
def ti82 : TInf := ⟨6, 24, true, none, none, [some (0, 3), some (1, 3), some (2, 4), some (3, 4), some (4, 4), some (5, 4)], some [(0, 1), (1, 1), (2, 1), (3, 1), (4, 1), (5, 1)], some (.agg [.int .i64 0, .int .i64 0, .bool false, .bool false, .bool false, .bool false]), some [0, 0, 1, 1, 1, 1], false, false, none, true⟩
theorem tiOk82 : TOk1 Tryz.prog 82 ti82 := ⟨by kernel_rfl, by kernel_rfl, by kernel_rfl, by kernel_rfl, by kernel_rfl, ⟨by kernel_rfl, by kernel_rfl, by kernel_rfl, by kernel_rfl, by kernel_rfl, by kernel_rfl, trivial⟩, (by show placesO Tryz.prog 82 = some _; kernel_rfl), (by show zeO Tryz.prog 82 = some _; kernel_rfl), (by show flatEq Tryz.prog 9 82 = some _; kernel_rfl), by kernel_rfl, (fun h => (by cases h)), trivial, (fun _ => (by kernel_rfl))⟩
def ti83 : TInf := ⟨66, 264, true, none, some (11, 82), [], none, none, none, false, false, none, true⟩
theorem tiOk83 : TOk1 Tryz.prog 83 ti83 := ⟨by kernel_rfl, by kernel_rfl, by kernel_rfl, by kernel_rfl, by kernel_rfl, trivial, trivial, trivial, trivial, by kernel_rfl, (fun h => (by cases h)), trivial, (fun _ => (by kernel_rfl))⟩
def ti90 : TInf := ⟨15, 160, true, none, none, [some (0, 4), some (1, 29)], some [(0, 1), (1, 14)], some (.agg [.bool false, .int .i64 0, .sl [] .nil, .int .i64 0, .int .i64 0, .int .i64 0, .int .i64 0, .int .i64 0, .sl [] .nil, .int .i64 0, .int .i64 0, .int .i64 0, .int .i64 0, .int .i64 0, .str ⟨#[]⟩]), none, false, false, none, true⟩
theorem tiOk90 : TOk1 Tryz.prog 90 ti90 := ⟨by kernel_rfl, by kernel_rfl, by kernel_rfl, by kernel_rfl, by kernel_rfl, ⟨by kernel_rfl, by kernel_rfl, trivial⟩, (by show placesO Tryz.prog 90 = some _; kernel_rfl), (by show zeO Tryz.prog 90 = some _; kernel_rfl), trivial, by kernel_rfl, (fun h => (by cases h)), trivial, (fun _ => (by kernel_rfl))⟩
def ti98 : TInf := ⟨1, 8, false, none, none, [], none, some (.int .i64 0), some [0], false, false, some .i64, true⟩
theorem tiOk98 : TOk1 Tryz.prog 98 ti98 := ⟨by kernel_rfl, by kernel_rfl, by kernel_rfl, by kernel_rfl, by kernel_rfl, trivial, trivial, (by show zeO Tryz.prog 98 = some _; kernel_rfl), (by show flatEq Tryz.prog 9 98 = some _; kernel_rfl), by kernel_rfl, (fun h => (by cases h)), (by show Tryz.prog.underlying 98 = some (.int _); kernel_rfl), (fun _ => (by kernel_rfl))⟩
def ti107 : TInf := ⟨1, 4, false, none, none, [], none, some (.int .u32 0), some [0], false, false, some .u32, true⟩
theorem tiOk107 : TOk1 Tryz.prog 107 ti107 := ⟨by kernel_rfl, by kernel_rfl, by kernel_rfl, by kernel_rfl, by kernel_rfl, trivial, trivial, (by show zeO Tryz.prog 107 = some _; kernel_rfl), (by show flatEq Tryz.prog 9 107 = some _; kernel_rfl), by kernel_rfl, (fun h => (by cases h)), (by show Tryz.prog.underlying 107 = some (.int _); kernel_rfl), (fun _ => (by kernel_rfl))⟩
def ti109 : TInf := ⟨1, 8, false, none, none, [], none, some (.int .u64 0), some [0], false, false, some .u64, true⟩
theorem tiOk109 : TOk1 Tryz.prog 109 ti109 := ⟨by kernel_rfl, by kernel_rfl, by kernel_rfl, by kernel_rfl, by kernel_rfl, trivial, trivial, (by show zeO Tryz.prog 109 = some _; kernel_rfl), (by show flatEq Tryz.prog 9 109 = some _; kernel_rfl), by kernel_rfl, (fun h => (by cases h)), (by show Tryz.prog.underlying 109 = some (.int _); kernel_rfl), (fun _ => (by kernel_rfl))⟩
def ti112 : TInf := ⟨1, 8, false, none, none, [], none, some (.nilf), none, false, false, none, true⟩
theorem tiOk112 : TOk1 Tryz.prog 112 ti112 := ⟨by kernel_rfl, by kernel_rfl, by kernel_rfl, by kernel_rfl, by kernel_rfl, trivial, trivial, (by show zeO Tryz.prog 112 = some _; kernel_rfl), trivial, by kernel_rfl, (fun h => (by cases h)), trivial, (fun _ => (by kernel_rfl))⟩
def ti120 : TInf := ⟨1, 8, false, none, none, [], none, some (.int .u64 0), some [0], false, false, some .u64, true⟩
theorem tiOk120 : TOk1 Tryz.prog 120 ti120 := ⟨by kernel_rfl, by kernel_rfl, by kernel_rfl, by kernel_rfl, by kernel_rfl, trivial, trivial, (by show zeO Tryz.prog 120 = some _; kernel_rfl), (by show flatEq Tryz.prog 9 120 = some _; kernel_rfl), by kernel_rfl, (fun h => (by cases h)), (by show Tryz.prog.underlying 120 = some (.int _); kernel_rfl), (fun _ => (by kernel_rfl))⟩
def ti140 : TInf := ⟨1, 24, false, some (23), none, [], none, some (.sl [] .nil), none, false, false, none, true⟩
theorem tiOk140 : TOk1 Tryz.prog 140 ti140 := ⟨by kernel_rfl, by kernel_rfl, by kernel_rfl, by kernel_rfl, by kernel_rfl, trivial, trivial, (by show zeO Tryz.prog 140 = some _; kernel_rfl), trivial, by kernel_rfl, (fun h => (by cases h)), trivial, (fun _ => (by kernel_rfl))⟩
def ti148 : TInf := ⟨1, 24, false, some (36), none, [], none, some (.sl [] .nil), none, false, false, none, true⟩
theorem tiOk148 : TOk1 Tryz.prog 148 ti148 := ⟨by kernel_rfl, by kernel_rfl, by kernel_rfl, by kernel_rfl, by kernel_rfl, trivial, trivial, (by show zeO Tryz.prog 148 = some _; kernel_rfl), trivial, by kernel_rfl, (fun h => (by cases h)), trivial, (fun _ => (by kernel_rfl))⟩
def ti150 : TInf := ⟨1, 24, false, some (49), none, [], none, some (.sl [] .nil), none, false, false, none, true⟩
theorem tiOk150 : TOk1 Tryz.prog 150 ti150 := ⟨by kernel_rfl, by kernel_rfl, by kernel_rfl, by kernel_rfl, by kernel_rfl, trivial, trivial, (by show zeO Tryz.prog 150 = some _; kernel_rfl), trivial, by kernel_rfl, (fun h => (by cases h)), trivial, (fun _ => (by kernel_rfl))⟩
def TT : Tbl := [(3, ti3), (4, ti4), (5, ti5), (9, ti9), (22, ti22), (23, ti23), (25, ti25), (27, ti27), (29, ti29), (31, ti31), (36, ti36), (38, ti38), (41, ti41), (46, ti46), (49, ti49), (51, ti51), (59, ti59), (76, ti76), (82, ti82), (83, ti83), (90, ti90), (98, ti98), (107, ti107), (109, ti109), (112, ti112), (120, ti120), (140, ti140), (148, ti148), (150, ti150)]
theorem okT : TOk Tryz.prog TT := ⟨tiOk3, tiOk4, tiOk5, tiOk9, tiOk22, tiOk23, tiOk25, tiOk27, tiOk29, tiOk31, tiOk36, tiOk38, tiOk41, tiOk46, tiOk49, tiOk51, tiOk59, tiOk76, tiOk82, tiOk83, tiOk90, tiOk98, tiOk107, tiOk109, tiOk112, tiOk120, tiOk140, tiOk148, tiOk150, trivial⟩
end Go.Ab

namespace Go.Ab
structure GValue where
 Kind : Int
 Num : Int
 Text : ByteArray
structure GExpr where
 Op : Int
 Args : List GExpr
 Var : Int
 Field : Int
 Kind : Int
 Value : GValue
structure GPattern where
 Op : Int
 Args : List GPattern
 Typ : Int
 Var : Int
 Scope : Int
 Span : Int
 Cond : GExpr
structure GLimit where
 Scope : Int
 Span : Int
structure GEdge where
 From : Int
 To : Int
 Var : Int
 Typ : Int
 Cond : GExpr
 Opens : List Int
 Closes : List Int
 Checks : List GExpr
 Limits : List GLimit
 Inside : List Int
structure GGuard where
 Scope : Int
 Typ : Int
 Var : Int
 Cond : GExpr
structure Gpattern_shape where
 least : Int
 most : Int
 typed : Bool
 cond : Bool
 scope : Bool
 span : Bool
structure Gderivative_rest where
 done : Bool
 p : GPattern
def tab_pattern_shapes : List Gpattern_shape := [⟨0, 0, true, true, false, false⟩, ⟨2, 64, false, false, false, false⟩, ⟨2, 64, false, false, false, false⟩, ⟨2, 64, false, false, false, false⟩, ⟨1, 1, false, false, false, false⟩, ⟨1, 1, true, true, true, false⟩, ⟨1, 1, false, false, true, true⟩, ⟨1, 1, false, true, false, false⟩, ⟨2, 2, false, false, false, false⟩, ⟨1, 1, true, true, true, false⟩, ⟨1, 1, false, false, true, true⟩]
end Go.Ab

namespace Go.Ab
variable [Ar]
class Encs where
 eGValue : GValue → V
 eGExpr : GExpr → V
 eGPattern : GPattern → V
 eGLimit : GLimit → V
 eGEdge : GEdge → V
 eGGuard : GGuard → V
 eGpattern_shape : Gpattern_shape → V
 eGderivative_rest : Gderivative_rest → V
 eLGExpr : List GExpr → V
 eLI : List Int → V
 eLGLimit : List GLimit → V
 eGValue_eq : ∀ x, eGValue x = .agg [.int .i64 x.Kind, .int .i64 x.Num, .str x.Text]
 eGExpr_eq : ∀ x, eGExpr x = .agg [.int .i64 x.Op, .sl (Ar.lst eGExpr x.Args) .ro, .int .i64 x.Var, .int .i64 x.Field, .int .i64 x.Kind, .int .i64 x.Value.Kind, .int .i64 x.Value.Num, .str x.Value.Text]
 eGPattern_eq : ∀ x, eGPattern x = .agg [.int .i64 x.Op, .sl (Ar.lst eGPattern x.Args) .ro, .int .i64 x.Typ, .int .i64 x.Var, .int .i64 x.Scope, .int .i64 x.Span, .int .i64 x.Cond.Op, .sl (Ar.lst eGExpr x.Cond.Args) .ro, .int .i64 x.Cond.Var, .int .i64 x.Cond.Field, .int .i64 x.Cond.Kind, .int .i64 x.Cond.Value.Kind, .int .i64 x.Cond.Value.Num, .str x.Cond.Value.Text]
 eGLimit_eq : ∀ x, eGLimit x = .agg [.int .i64 x.Scope, .int .i64 x.Span]
 eGEdge_eq : ∀ x, eGEdge x = .agg [.int .i64 x.From, .int .i64 x.To, .int .i64 x.Var, .int .i64 x.Typ, .int .i64 x.Cond.Op, .sl (Ar.lst eGExpr x.Cond.Args) .ro, .int .i64 x.Cond.Var, .int .i64 x.Cond.Field, .int .i64 x.Cond.Kind, .int .i64 x.Cond.Value.Kind, .int .i64 x.Cond.Value.Num, .str x.Cond.Value.Text, .sl (Ar.lst (V.int .i64) x.Opens) .ro, .sl (Ar.lst (V.int .i64) x.Closes) .ro, .sl (Ar.lst eGExpr x.Checks) .ro, .sl (Ar.lst eGLimit x.Limits) .ro, .sl (Ar.lst (V.int .i64) x.Inside) .ro]
 eGGuard_eq : ∀ x, eGGuard x = .agg [.int .i64 x.Scope, .int .i64 x.Typ, .int .i64 x.Var, .int .i64 x.Cond.Op, .sl (Ar.lst eGExpr x.Cond.Args) .ro, .int .i64 x.Cond.Var, .int .i64 x.Cond.Field, .int .i64 x.Cond.Kind, .int .i64 x.Cond.Value.Kind, .int .i64 x.Cond.Value.Num, .str x.Cond.Value.Text]
 eGpattern_shape_eq : ∀ x, eGpattern_shape x = .agg [.int .i64 x.least, .int .i64 x.most, .bool x.typed, .bool x.cond, .bool x.scope, .bool x.span]
 eGderivative_rest_eq : ∀ x, eGderivative_rest x = .agg [.bool x.done, .int .i64 x.p.Op, .sl (Ar.lst eGPattern x.p.Args) .ro, .int .i64 x.p.Typ, .int .i64 x.p.Var, .int .i64 x.p.Scope, .int .i64 x.p.Span, .int .i64 x.p.Cond.Op, .sl (Ar.lst eGExpr x.p.Cond.Args) .ro, .int .i64 x.p.Cond.Var, .int .i64 x.p.Cond.Field, .int .i64 x.p.Cond.Kind, .int .i64 x.p.Cond.Value.Kind, .int .i64 x.p.Cond.Value.Num, .str x.p.Cond.Value.Text]
 eLGExpr_eq : ∀ x, eLGExpr x = .sl (Ar.lst eGExpr x) .ro
 eLI_eq : ∀ x, eLI x = .sl (Ar.lst (V.int .i64) x) .ro
 eLGLimit_eq : ∀ x, eLGLimit x = .sl (Ar.lst eGLimit x) .ro
theorem sz_GExpr [Encs] (x : GExpr) : (Encs.eGExpr x).cells.length = 8 := by rw [Encs.eGExpr_eq]; rfl
theorem sz_GPattern [Encs] (x : GPattern) : (Encs.eGPattern x).cells.length = 14 := by rw [Encs.eGPattern_eq]; rfl
theorem sz_GLimit [Encs] (x : GLimit) : (Encs.eGLimit x).cells.length = 2 := by rw [Encs.eGLimit_eq]; rfl
theorem sz_GEdge [Encs] (x : GEdge) : (Encs.eGEdge x).cells.length = 17 := by rw [Encs.eGEdge_eq]; rfl
theorem sz_GGuard [Encs] (x : GGuard) : (Encs.eGGuard x).cells.length = 11 := by rw [Encs.eGGuard_eq]; rfl
end Go.Ab

