/- AbF1 AbF2 AbF3 AbB13 AbB14 AbB15 -/
import Derived.Test.YtodfgmbacmnalaaGreatT26
import Derived.Test.YtodfgmbacmnalaaGreatT25
set_option linter.all false

namespace Go.Ab
open Go.RowKit
variable [Glob] [Ar]
def EnNe (e e' : En) : Prop := ∀ id b b', e.id = some (id, b) → e'.id = some (id, b') → False
theorem Own0.perm {H0 H : Heap} {L L' : List En} (h : Own0 H0 L H) (p : L.Perm L') : Own0 H0 L' H := by
 have hp : L.Pairwise EnNe := by
  rw [List.pairwise_iff_getElem]
  intro i j hi hj hlt id b b' e1 e2
  have := h.inj i j _ _ id b b' (List.getElem?_eq_getElem hi) (List.getElem?_eq_getElem hj) e1 e2
  omega
 have hp' : L'.Pairwise EnNe := (p.pairwise_iff (fun {x y} (h : EnNe x y) id b b' e1 e2 => h id b' b e2 e1)).1 hp
 rw [List.pairwise_iff_getElem] at hp'
 refine ⟨h.ext, fun i e id b hi he => ?_, fun i j e e' id b b' hi hj he he' => ?_, fun x b hx => (h.only x b hx).imp (fun h => h) fun ⟨i, e, h1, h2⟩ => ?_⟩
 ·obtain ⟨j, hj⟩ := List.getElem?_of_mem (p.mem_iff.2 (List.mem_of_getElem? hi))
  exact h.has j e id b hj he
 ·obtain ⟨hi', ei⟩ := List.getElem?_eq_some_iff.1 hi
  obtain ⟨hj', ej⟩ := List.getElem?_eq_some_iff.1 hj
  rcases Nat.lt_trichotomy i j with hlt | heq | hlt
  ·exact (hp' i j hi' hj' hlt id b b' (by rw [ei]; exact he) (by rw [ej]; exact he')).elim
  ·exact heq
  ·exact (hp' j i hj' hi' hlt id b' b (by rw [ej]; exact he') (by rw [ei]; exact he)).elim
 ·obtain ⟨j, hj⟩ := List.getElem?_of_mem (p.mem_iff.1 (List.mem_of_getElem? h1))
  exact ⟨j, e, hj, h2⟩
theorem Own.perm {Φ : Heap → Heap → Prop} {F H : Heap} {L L' : List En} (h : Own Φ F L H) (p : L.Perm L') : Own Φ F L' H :=
 let ⟨hs, F', H1, h0, h1, h2⟩ := h; ⟨hs, F', H1, h0.perm p, h1, h2⟩
structure Rw (α : Type) where
 q : OG
 row : List (List α × Tail)
variable {α : Type} (f : α → V)
def cellV (c : List α × Tail) : V := .sl (Ar.lst f c.1) c.2
def rwV (w : Rw α) : V := .agg [.own w.q.id w.q.lo w.q.n]
def rwB (w : Rw α) : En := .blk w.q.id (.arr 1 (w.q.pre ++ Ar.lst (cellV f) w.row ++ w.q.rest))
def rwL (w : Rw α) : List En := rwB f w :: w.row.map fun c => .tl c.2
def fo : List (Rw α) → List En
 | [] => []
 | w :: F => rwL f w ++ fo F
def RwOk (w : Rw α) : Prop := Okn w.q (Ar.len w.row)
def RwA (w : Rw α) : Prop := ∀ c ∈ w.row, Appn c.2
variable {f}
theorem fo_app : ∀ (F G : List (Rw α)), fo f (F ++ G) = fo f F ++ fo f G
 | [], _ => rfl
 | w :: F, G => by rw [List.cons_append, fo, fo, fo_app F G, List.append_assoc]
theorem fo_split : ∀ {F : List (Rw α)} {c : Nat} {w : Rw α}, F[c]? = some w → ∃ R, (fo f F).Perm (rwL f w ++ R) ∧ ∀ w', (fo f (F.set c w')).Perm (rwL f w' ++ R)
 | [], _, _, h => by simp at h
 | v :: F, 0, w, h => by
  simp at h; subst h
  exact ⟨fo f F, .refl _, fun w' => .refl _⟩
 | v :: F, c + 1, w, h => by
  obtain ⟨R, h1, h2⟩ := fo_split (F := F) (c := c) (w := w) (by simpa using h)
  have key : ∀ (X Y : List En), X.Perm (Y ++ R) → (rwL f v ++ X).Perm (Y ++ (rwL f v ++ R)) := fun X Y hX =>
   (hX.append_left _).trans (by
    rw [← List.append_assoc, ← List.append_assoc]
    exact List.perm_append_comm.append_right R)
  exact ⟨rwL f v ++ R, key _ _ h1, fun w' => key _ _ (h2 w')⟩
theorem row_split : ∀ {row : List (List α × Tail)} {i : Nat} {c : List α × Tail}, row[i]? = some c → ∃ R, (row.map fun c => En.tl c.2).Perm (.tl c.2 :: R) ∧ ∀ c', ((row.set i c').map fun c => En.tl c.2).Perm (.tl c'.2 :: R)
 | [], _, _, h => by simp at h
 | v :: F, 0, w, h => by
  simp at h; subst h
  exact ⟨F.map fun c => .tl c.2, .refl _, fun w' => .refl _⟩
 | v :: F, i + 1, w, h => by
  obtain ⟨R, h1, h2⟩ := row_split (row := F) (i := i) (c := w) (by simpa using h)
  exact ⟨.tl v.2 :: R, (h1.cons _).trans (.swap ..), fun w' => ((h2 w').cons _).trans (.swap ..)⟩
theorem cell_split {F : List (Rw α)} {c i : Nat} {w : Rw α} {x : List α × Tail} (hc : F[c]? = some w) (hi : w.row[i]? = some x) :
 ∃ R, (fo f F).Perm (.tl x.2 :: rwB f w :: R) ∧ ∀ x', (fo f (F.set c ⟨w.q, w.row.set i x'⟩)).Perm (.tl x'.2 :: rwB f ⟨w.q, w.row.set i x'⟩ :: R) := by
 obtain ⟨R, h1, h2⟩ := fo_split (f := f) hc
 obtain ⟨S, k1, k2⟩ := row_split hi
 have key : ∀ (b : En) (X : List En) (t : En), X.Perm (t :: S) → (b :: (X ++ R)).Perm (t :: b :: (S ++ R)) := fun b X t hX =>
  ((hX.append_right R).cons b).trans (.swap ..)
 exact ⟨S ++ R, h1.trans (key _ _ _ k1), fun x' => (h2 _).trans (key _ _ _ (k2 x'))⟩
theorem lst_rwV_set {F : List (Rw α)} {c i : Nat} {w : Rw α} {x' : List α × Tail} (hc : F[c]? = some w) : Ar.lst rwV (F.set c ⟨w.q, w.row.set i x'⟩) = Ar.lst rwV F := by
 rw [Ar.lst_eq, Ar.lst_eq, List.map_set]
 apply List.ext_getElem?
 intro j
 rw [List.getElem?_set]
 split
 ·rename_i h; subst h
  split
  ·rw [List.getElem?_map, hc]; rfl
  ·rename_i h; rw [List.getElem?_eq_none (by omega)]
 ·rfl
theorem ok_set {F : List (Rw α)} {c i : Nat} {w : Rw α} {x' : List α × Tail} (hF : ∀ w ∈ F, RwOk w) (hc : F[c]? = some w) : ∀ v ∈ F.set c ⟨w.q, w.row.set i x'⟩, RwOk v := by
 intro v hv
 rcases List.mem_or_eq_of_mem_set hv with hv | hv
 ·exact hF v hv
 ·rw [hv]
  have h1 := hF w (List.mem_of_getElem? hc)
  unfold RwOk at h1 ⊢
  rw [Ar.len_eq] at h1 ⊢; rw [List.length_set]; exact h1
theorem okA_set {F : List (Rw α)} {c i : Nat} {w : Rw α} {x' : List α × Tail} (hF : ∀ w ∈ F, RwA w) (hc : F[c]? = some w) (hx : Appn x'.2) : ∀ v ∈ F.set c ⟨w.q, w.row.set i x'⟩, RwA v := by
 intro v hv
 rcases List.mem_or_eq_of_mem_set hv with hv | hv
 ·exact hF v hv
 ·rw [hv]
  intro c hc'
  rcases List.mem_or_eq_of_mem_set hc' with h | rfl
  ·exact hF w (List.mem_of_getElem? hc) c h
  ·exact hx
theorem Own.cell {Φ : Heap → Heap → Prop} {H0 H : Heap} {b : En} {L : List En} {F : List (Rw α)} {c i : Nat} {w : Rw α} {x : List α × Tail} (hO : Own Φ H0 (b :: (fo f F ++ L)) H) (hc : F[c]? = some w) (hi : w.row[i]? = some x) :
 ∃ R, Own Φ H0 (.tl x.2 :: rwB f w :: b :: R) H ∧ ∀ x' H', Own Φ H0 (.tl x'.2 :: rwB f ⟨w.q, w.row.set i x'⟩ :: b :: R) H' → Own Φ H0 (b :: (fo f (F.set c ⟨w.q, w.row.set i x'⟩) ++ L)) H' := by
 obtain ⟨R, h1, h2⟩ := cell_split (f := f) hc hi
 have key : ∀ (X : List En) (t r : En), X.Perm (t :: r :: R) → (b :: (X ++ L)).Perm (t :: r :: b :: (R ++ L)) := fun X t r h =>
  ((h.append_right L).cons b).trans ((List.Perm.swap t b _).trans ((List.Perm.swap r b _).cons t))
 exact ⟨R ++ L, hO.perm (key _ _ _ h1), fun x' H' h => h.perm (key _ _ _ (h2 x')).symm⟩
theorem Own.row {Φ : Heap → Heap → Prop} {H0 H : Heap} {b b' : En} {L : List En} {F : List (Rw α)} {w : Rw α} (hO : Own Φ H0 (rwB f w :: b :: b' :: (fo f F ++ L)) H) (hw : ∀ c ∈ w.row, (En.tl c.2).id = none) : Own Φ H0 (b' :: (fo f (F ++ [w]) ++ (b :: L))) H := by
 have h1 : ∀ (row : List (List α × Tail)) (M : List En), (∀ c ∈ row, (En.tl c.2).id = none) → Own Φ H0 M H → Own Φ H0 ((row.map fun c => .tl c.2) ++ M) H := by
  intro row
  induction row with
  | nil => exact fun _ _ h => h
  | cons c row ih => exact fun M hr h => (ih M (fun c hc => hr c (by simp [hc])) h).tl0 (hr c (by simp))
 have h2 := h1 w.row _ hw hO
 refine h2.perm ?_
 rw [fo_app]
 simp only [fo, rwL, List.append_nil]
 generalize w.row.map (fun c => En.tl c.2) = X
 generalize fo f F = Y
 have p1 : (X ++ rwB f w :: b :: b' :: (Y ++ L)).Perm (rwB f w :: X ++ (b :: b' :: (Y ++ L))) := List.perm_middle
 have p2 : (rwB f w :: X ++ (b :: b' :: (Y ++ L))).Perm (b' :: (rwB f w :: X ++ (b :: (Y ++ L)))) :=
  ((List.Perm.swap b' b (Y ++ L)).append_left (rwB f w :: X)).trans List.perm_middle
 refine p1.trans (p2.trans (.cons b' ?_))
 have p3 : (rwB f w :: X ++ (b :: (Y ++ L))).Perm (rwB f w :: X ++ (Y ++ b :: L)) := (List.perm_middle.symm).append_left _
 refine p3.trans ?_
 rw [← List.append_assoc]
 exact (List.perm_append_comm (l₁ := rwB f w :: X) (l₂ := Y)).append_right _
theorem Own.cellB {Φ : Heap → Heap → Prop} {H0 H : Heap} (B : List En) {L : List En} {F : List (Rw α)} {c i : Nat} {w : Rw α} {x : List α × Tail} (hO : Own Φ H0 (B ++ (fo f F ++ L)) H) (hc : F[c]? = some w) (hi : w.row[i]? = some x) :
 ∃ R, Own Φ H0 (.tl x.2 :: rwB f w :: (B ++ R)) H ∧ ∀ x' H', Own Φ H0 (.tl x'.2 :: rwB f ⟨w.q, w.row.set i x'⟩ :: (B ++ R)) H' → Own Φ H0 (B ++ (fo f (F.set c ⟨w.q, w.row.set i x'⟩) ++ L)) H' := by
 obtain ⟨R, h1, h2⟩ := cell_split (f := f) hc hi
 have key : ∀ (X : List En) (t r : En), X.Perm (t :: r :: R) → (B ++ (X ++ L)).Perm (t :: r :: (B ++ (R ++ L))) := fun X t r h =>
  ((h.append_right L).append_left B).trans (List.perm_middle.trans (List.perm_middle.cons t))
 exact ⟨R ++ L, hO.perm (key _ _ _ h1), fun x' H' h => h.perm (key _ _ _ (h2 x')).symm⟩
theorem Own.rowB {Φ : Heap → Heap → Prop} {H0 H : Heap} (B : List En) {L : List En} {F : List (Rw α)} {w : Rw α} (hO : Own Φ H0 (rwB f w :: (B ++ (fo f F ++ L))) H) (hw : ∀ c ∈ w.row, (En.tl c.2).id = none) : Own Φ H0 (B ++ (fo f (F ++ [w]) ++ L)) H := by
 have h1 : ∀ (row : List (List α × Tail)) (M : List En), (∀ c ∈ row, (En.tl c.2).id = none) → Own Φ H0 M H → Own Φ H0 ((row.map fun c => .tl c.2) ++ M) H := by
  intro row
  induction row with
  | nil => exact fun _ _ h => h
  | cons c row ih => exact fun M hr h => (ih M (fun c hc => hr c (by simp [hc])) h).tl0 (hr c (by simp))
 refine (h1 w.row _ hw hO).perm ?_
 rw [fo_app]
 simp only [fo, rwL, List.append_nil]
 generalize w.row.map (fun c => En.tl c.2) = X
 generalize fo f F = Y
 have p1 : (X ++ rwB f w :: (B ++ (Y ++ L))).Perm (rwB f w :: X ++ (B ++ (Y ++ L))) := List.perm_middle
 refine p1.trans ?_
 have p2 : (rwB f w :: X ++ (B ++ (Y ++ L))).Perm (B ++ (rwB f w :: X ++ (Y ++ L))) := by
  rw [← List.append_assoc, ← List.append_assoc B]
  exact (List.perm_append_comm (l₁ := rwB f w :: X) (l₂ := B)).append_right _
 refine p2.trans (.append_left B ?_)
 rw [← List.append_assoc]
 exact (List.perm_append_comm (l₁ := rwB f w :: X) (l₂ := Y)).append_right _
end Go.Ab

namespace Go.Ab
open Go.RowKit
variable [Glob]
def Gst (H : Heap) (v : V) (H' : Heap) (v' : V) : Prop := ∀ g w, Rl g H w → ∃ g', Stp g w g' w ∧ Rl g' H' w ∧ ∀ u, VR g w u v → VR g' w u v'
theorem Gst.refl (H : Heap) (v : V) : Gst H v H v := fun g w h => ⟨g, Stp.refl _ _, h, fun _ h => h⟩
theorem Gst.trans {H H1 H2 : Heap} {v v1 v2 : V} (a : Gst H v H1 v1) (b : Gst H1 v1 H2 v2) : Gst H v H2 v2 := fun g w h => by
 obtain ⟨g1, s1, R1, k1⟩ := a g w h
 obtain ⟨g2, s2, R2, k2⟩ := b g1 w R1
 exact ⟨g2, s1.trans s2, R2, fun u hu => k2 u (k1 u hu)⟩
theorem Gst.tup2 {H H' : Heap} {v v' c : V} (a : Gst H v H' v') : Gst H (.tup [v, c]) H' (.tup [v', c]) := fun g w h => by
 obtain ⟨g1, s1, R1, k1⟩ := a g w h
 refine ⟨g1, s1, R1, fun u hu => ?_⟩
 cases hu with
 | tup hl hv =>
  refine .tup hl fun i hi => ?_
  have := hv i hi
  match i, hi with
  | 0, _ => exact k1 _ this
  | 1, _ => exact this.mono s1
theorem Gst.agg1 {H H' : Heap} {v v' : V} (a : Gst H v H' v') : Gst H (.agg [v]) H' (.agg [v']) := fun g w h => by
 obtain ⟨g1, s1, R1, k1⟩ := a g w h
 refine ⟨g1, s1, R1, fun u hu => ?_⟩
 cases hu with
 | agg hl h1 hv =>
  refine .agg hl h1 fun i hi => ?_
  have := hv i hi
  match i, hi with
  | 0, _ => exact k1 _ this
theorem CallA.ghost {P : Program} {f : FuncId} {args : List V} {H : Heap} {K K' : V → Heap → Prop} (h : CallA P f args H K) (hk : ∀ x H', K x H' → ∃ x' H2, Gst H' x H2 x' ∧ K' x' H2) : CallA P f args H K' :=
 fun g w vals hR hA => (h g w vals hR hA).mono fun v w' ⟨g', x, H', s, hR', hv, hK⟩ => by
  obtain ⟨x', H2, hg, hK'⟩ := hk x H' hK
  obtain ⟨g2, s2, R2, k2⟩ := hg g' w' hR'
  exact ⟨g2, x', H2, s.trans s2, R2, k2 v hv, hK'⟩
theorem Rl.chgArr {g : Gh} {H : Heap} {w : World} (h : Rl g H w) {id sz : Nat} {xs ys : List V} (hk : H id = some (.arr sz xs)) (el : xs.length = ys.length) (hc : ∀ i : Nat, (ys.getD i .bad).cells.length = (xs.getD i .bad).cells.length)
 (hv : ∀ (i j : Nat) u, VR g w u ((xs.getD i .bad).cells.getD j .bad) → VR g w u ((ys.getD i .bad).cells.getD j .bad)) : Rl g (upd H id (some (.arr sz ys))) w := by
 have hat : ∀ x, g.at (upd H id (some (.arr sz ys))) x = g.at H x := by
  intro x
  by_cases hx : x = id
  ·subst hx; simp only [Gh.at, upd_same, hk, el]
  ·simp only [Gh.at, upd_other _ _ hx]
 refine ⟨fun x k hx => ?_, fun x x' y h1 h2 => h.inj x x' y (hat x ▸ h1) (hat x' ▸ h2), h.frz, fun x hx => ?_, h.bnd, h.glb⟩
 ·by_cases hxe : x = id
  ·subst hxe; rw [upd_same] at hx; cases hx
   obtain ⟨b, h1, h2, h3, h4, h5⟩ := h.blk x _ hk
   refine ⟨b, h1, h2, h3.trans el, fun i hi => ?_, ?_⟩
   ·rw [hc i]; exact h4 i (by omega)
   ·rw [← el]
    refine h5.imp (fun h => h) fun ⟨c, T, k1, k2, k3, k4, k5⟩ => ⟨c, T, k1, k2, k3, fun i j hi hj => ⟨(k4 i j hi hj).1, hv i j _ (k4 i j hi hj).2⟩, k5⟩
  ·rw [upd_other _ _ hxe] at hx; exact h.blk x k hx
 ·obtain ⟨a1, a2, a3⟩ := h.nxt x hx
  have hne : x ≠ id := fun e => by subst e; rw [hk] at a3; cases a3
  exact ⟨a1, a2, by rw [upd_other _ _ hne]; exact a3⟩
theorem gst_row {H : Heap} {o id s : Nat} {row xs ys zs : List V} {lo n lo' n' : Int} (hne : id ≠ o) (hid : H id = some (.arr s row)) (ho : H o = some (.arr 1 (xs ++ .agg [.own id lo n] :: zs))) :
 Gst H (.own o lo' n') (upd (upd H id none) o (some (.arr 1 (xs ++ .agg [.sl (subL row lo n) .ro] :: zs)))) (.own o lo' n') := fun g w hR => by
 obtain ⟨g', s', R', hv⟩ := hR.freezeArr hid
 have ho' : upd H id none o = some (.arr 1 (xs ++ .agg [.own id lo n] :: zs)) := by rw [upd_other _ _ (Ne.symm hne)]; exact ho
 have hget : ∀ (i : Nat) (a b : V), i ≠ xs.length → (xs ++ a :: zs).getD i .bad = (xs ++ b :: zs).getD i .bad := fun i a b hi => by
  simp only [List.getD_eq_getElem?_getD]
  rcases Nat.lt_or_ge i xs.length with h | h
  ·rw [List.getElem?_append_left h, List.getElem?_append_left h]
  ·rw [List.getElem?_append_right h, List.getElem?_append_right h]
   obtain ⟨k, hk⟩ : ∃ k, i - xs.length = k + 1 := ⟨i - xs.length - 1, by omega⟩
   rw [hk]; rfl
 have hmid : ∀ a : V, (xs ++ a :: zs).getD xs.length .bad = a := fun a => by simp [List.getD_eq_getElem?_getD]
 refine ⟨g', s', R'.chgArr ho' (by simp) (fun i => ?_) (fun i j u hu => ?_), fun u hu => hu.mono s'⟩
 ·by_cases hi : i = xs.length
  ·subst hi; rw [hmid, hmid]; rfl
  ·rw [hget i _ _ hi]
 ·by_cases hi : i = xs.length
  ·subst hi
   rw [hmid] at hu ⊢
   cases j with
   | zero => exact hv u lo n hu
   | succ j => exact hu
  ·rw [hget i _ (.agg [.own id lo n]) hi]; exact hu
section
variable [Ar] {α : Type} {f : α → V}
def frzV (f : α → V) (w : Rw α) : V := .agg [.sl (Ar.lst (cellV f) w.row) .ro]
theorem gst_rows {o : Nat} {pre rest : List V} {lo n : Int} : ∀ (F : List (Rw α)) (done : List V) (H : Heap), (∀ w ∈ F, RwOk w) → H o = some (.arr 1 (pre ++ (done ++ F.map rwV) ++ rest)) →
 (∀ w ∈ F, H w.q.id = some (.arr 1 (w.q.pre ++ Ar.lst (cellV f) w.row ++ w.q.rest)) ∧ w.q.id ≠ o) → F.Pairwise (fun a b => a.q.id ≠ b.q.id) →
 ∃ H', Gst H (.own o lo n) H' (.own o lo n) ∧ H' o = some (.arr 1 (pre ++ (done ++ F.map (frzV f)) ++ rest)) ∧ ∀ x, x ≠ o → (∀ w ∈ F, x ≠ w.q.id) → H' x = H x
 | [], done, H, _, ho, _, _ => ⟨H, Gst.refl _ _, ho, fun _ _ _ => rfl⟩
 | w :: F, done, H, hF, ho, hr, hp => by
  obtain ⟨h1, h2⟩ := hr w (by simp)
  obtain ⟨hp1, hp2⟩ := List.pairwise_cons.1 hp
  have hq : Okn w.q (Ar.len w.row) := hF w (by simp)
  have hs : subL (w.q.pre ++ Ar.lst (cellV f) w.row ++ w.q.rest) w.q.lo w.q.n = Ar.lst (cellV f) w.row := sub_mid hq.1 (by rw [hq.2, Ar.len_eq, lst_len])
  have g1 := gst_row (lo' := lo) (n' := n) (xs := pre ++ done) (zs := F.map rwV ++ rest) (ys := []) h2 h1 (lo := w.q.lo) (n := w.q.n) (by rw [ho]; simp [rwV])
  rw [hs] at g1
  obtain ⟨H', k1, k2, k3⟩ := gst_rows (o := o) (pre := pre) (rest := rest) (lo := lo) (n := n) F (done ++ [frzV f w]) (upd (upd H w.q.id none) o (some (.arr 1 ((pre ++ done) ++ .agg [.sl (Ar.lst (cellV f) w.row) .ro] :: (F.map rwV ++ rest))))) (fun v hv => hF v (by simp [hv]))
   (by rw [upd_same]; simp [frzV]) (fun v hv => ⟨by
    obtain ⟨a1, a2⟩ := hr v (by simp [hv])
    rw [upd_other _ _ a2, upd_other _ _ fun e => hp1 v hv e.symm]; exact a1, (hr v (by simp [hv])).2⟩) hp2
  refine ⟨H', g1.trans k1, by rw [k2]; simp, fun x hx hxs => ?_⟩
  rw [k3 x hx fun v hv => hxs v (by simp [hv]), upd_other _ _ hx, upd_other _ _ (hxs w (by simp))]
theorem rwB_mem {F : List (Rw α)} {w : Rw α} (h : w ∈ F) : rwB f w ∈ fo f F := by
 induction F with
 | nil => cases h
 | cons v F ih =>
  rcases List.mem_cons.1 h with rfl | h
  ·simp [fo, rwL]
  ·simp only [fo, List.mem_append]; exact .inr (ih h)
theorem fo_pair : ∀ {F : List (Rw α)}, (fo f F).Pairwise EnNe → F.Pairwise fun a b => a.q.id ≠ b.q.id
 | [], _ => .nil
 | w :: F, h => by
  simp only [fo, rwL] at h
  obtain ⟨_, h2, h3⟩ := List.pairwise_append.1 h
  refine List.pairwise_cons.2 ⟨fun v hv e => ?_, fo_pair h2⟩
  exact h3 (rwB f w) (by simp) (rwB f v) (rwB_mem hv) w.q.id _ _ rfl (by rw [e]; rfl)
theorem Own.table {H0 H : Heap} {L : List En} {F : List (Rw α)} {q : OG} (hO : Own Eq H0 (.blk q.id (.arr 1 (q.pre ++ Ar.lst rwV F ++ q.rest)) :: (fo f F ++ L)) H) (hq : Okn q (Ar.len F)) (hF : ∀ w ∈ F, RwOk w) :
 ∃ H', Gst H (.own q.id q.lo q.n) H' (.sl (F.map (frzV f)) .ro) ∧ HLe H0 H' := by
 obtain ⟨hs, F', H1, h0, h1, h2⟩ := hO
 subst h1
 have hpw : (En.blk q.id (.arr 1 (q.pre ++ Ar.lst rwV F ++ q.rest)) :: (fo f F ++ L)).Pairwise EnNe := by
  rw [List.pairwise_iff_getElem]
  intro i j hi hj hlt id b b' e1 e2
  have := h0.inj i j _ _ id b b' (List.getElem?_eq_getElem hi) (List.getElem?_eq_getElem hj) e1 e2
  omega
 obtain ⟨p1, p2⟩ := List.pairwise_cons.1 hpw
 have p3 := fo_pair (List.pairwise_append.1 p2).1
 have hb := h0.has 0 _ q.id _ rfl rfl
 have hrow : ∀ w ∈ F, H0 w.q.id = none ∧ F' w.q.id = some (.arr 1 (w.q.pre ++ Ar.lst (cellV f) w.row ++ w.q.rest)) ∧ w.q.id ≠ q.id := fun w hw => by
  have hm := rwB_mem (f := f) hw
  obtain ⟨i, hi⟩ := List.getElem?_of_mem (show rwB f w ∈ En.blk q.id (.arr 1 (q.pre ++ Ar.lst rwV F ++ q.rest)) :: (fo f F ++ L) by simp [hm])
  have := h0.has i _ w.q.id _ hi rfl
  exact ⟨this.1, this.2, fun e => p1 (rwB f w) (by simp [hm]) q.id _ _ rfl (by rw [← e]; rfl)⟩
 obtain ⟨H', k1, k2, k3⟩ := gst_rows (f := f) (o := q.id) (pre := q.pre) (rest := q.rest) (lo := q.lo) (n := q.n) F [] H hF (by rw [h2 _ _ hb.2, Ar.lst_eq]; simp) (fun w hw => ⟨h2 _ _ (hrow w hw).2.1, (hrow w hw).2.2⟩) p3
 have hs2 : subL (q.pre ++ ([] ++ F.map (frzV f)) ++ q.rest) q.lo q.n = F.map (frzV f) := sub_mid hq.1 (by rw [hq.2, Ar.len_eq]; simp)
 refine ⟨upd H' q.id none, k1.trans fun g w hR => ?_, fun x b hx => ?_⟩
 ·obtain ⟨g', s', R', hv⟩ := hR.freezeArr k2
  exact ⟨g', s', R', fun u hu => by have := hv u q.lo q.n (hu.mono s'); rwa [hs2] at this⟩
 ·have hne : x ≠ q.id := fun e => by subst e; rw [hb.1] at hx; cases hx
  rw [upd_other _ _ hne, k3 x hne fun w hw e => by subst e; rw [(hrow w hw).1] at hx; cases hx]
  exact h2 _ _ (h0.ext x b hx)
theorem Own.frzG {H0 H : Heap} {L : List En} {q : OG} {l : List α} {sz : Nat} (hO : Own Eq H0 L H) (i : Nat) (hi : L[i]? = some (.blk q.id (.arr sz (q.pre ++ Ar.lst f l ++ q.rest)))) (hq : Okn q (Ar.len l)) :
 ∃ H', Gst H (.own q.id q.lo q.n) H' (.sl (Ar.lst f l) .ro) ∧ HLe H0 H' := by
 refine ⟨_, fun g w hR => ?_, (hO.del i hi).ext⟩
 obtain ⟨g', s', R', hv⟩ := hR.freezeArr (hO.get i hi)
 refine ⟨g', s', R', fun u hu => ?_⟩
 have := hv u q.lo q.n (hu.mono s')
 rwa [sub_mid hq.1 (by rw [hq.2, Ar.len_eq, lst_len])] at this
theorem callP_of_specG {P : Program} {T : Tbl} {f : FuncId} {fn : Func} {c : Code} {n : Nat} {rs : List ResultVar} {args : List V} {r : V} (cf : Cf) (hP : POk P T) (hf : P.funcs[f]? = some fn) (hb : fn.body = some c) (hd : drawsOk cf c = true)
 (hcall : ∀ vals w, (callFunc f vals).run P w = .ok (.enter f vals) w) (hnt : fn.ntmps = n) (hrs : fn.results.toList = rs) (hn : Nat.ble args.length n = true)
 (h : ∀ (E : Env) (H : Heap) (K : V → Heap → Prop), E = real P n none → (∀ x L H', Own Eq H L H' → LeV x r → K x H') → (∀ x H' x' H2, Gst H' x H2 x' → HLe H H2 → LeV x' r → K x H') → run E T n cf c ⟨entryL args 0, []⟩ H (finX E T rs K)) : CallP P f args r := fun H => by
 refine CallA.le (CallA.ghost (callA_of_run (K := fun x H' => (∃ y H2, LeV x y ∧ HLe H2 H' ∧ y = r ∧ H2 = H) ∨ ∃ x' H2, Gst H' x H2 x' ∧ HLe H H2 ∧ LeV x' r) cf hP.1 hP.2 hf hb hd hcall hnt hrs hn fun E hE => ?_) ?_)
 ·exact h E H _ hE (fun x L H' hO hx => .inl ⟨r, H, hx, hO.ext, rfl, rfl⟩) fun x H' x' H2 hg hle hx => .inr ⟨x', H2, hg, hle, hx⟩
 ·rintro x H' (h | ⟨x', H2, hg, hle, hx⟩)
  ·exact ⟨x, H', Gst.refl _ _, h⟩
  ·exact ⟨x', H2, hg, r, H, hx, hle, rfl, rfl⟩
end
end Go.Ab

namespace Go.Ab
open Go.RowKit
variable [Glob] [Ar]
section
variable {P : Program} {nt : Nat} {rd : Option Nat} {E : Env} (hE : E = real P nt rd)
include hE
variable {α : Type} {f : α → V} {Φ : Heap → Heap → Prop} {H0 H : Heap} {L : List En} {sz : Nat} {q : OG} {l : List α}
theorem f_oidx (hO : Own Φ H0 L H) (hq : Okn q (Ar.len l)) (i : Nat) {j : Int} {k : Int → Prop} (hi : L[i]? = some (.blk q.id (.arr sz (q.pre ++ Ar.lst f l ++ q.rest)))) (hj : 0 ≤ j ∧ j < (l.length : Nat)) (hk : k (Ar.ofs q.lo j)) : E.oidx H q.id sz q.lo q.n j k :=
 n_oidx hE hO hq i hi (F := fun _ => some ()) (r := ()) (by unfold req inR; rw [if_pos]; rfl; exact decide_eq_true hj) fun _ => hk
theorem f_oload {g : α → V} (hf : ∀ x, f x = g x) (hO : Own Φ H0 L H) (hq : Okn q (Ar.len l)) (i : Nat) {j : Int} {x : α} {k : V → Prop} (hi : L[i]? = some (.blk q.id (.arr sz (q.pre ++ Ar.lst f l ++ q.rest)))) (hj : 0 ≤ j) (hx : l[j.toNat]? = some x) (hk : k (g x)) :
 E.oload H q.id (Ar.ofs q.lo j) k := by
 have hlt : j < (l.length : Nat) := by
  rcases Nat.lt_or_ge j.toNat l.length with h | h
  ·omega
  ·rw [List.getElem?_eq_none h] at hx; cases hx
 exact n_oload hE hf hO hq i hi (F := fun y => some y) (r := x) (by unfold idxL; rw [if_pos hj, hx]; rfl) fun y hy => by cases hy; exact hk
theorem f_ostore {esz tz off : Nat} {y : V} {x' : α} (hu : ∀ x, ∃ y', LeV y y' ∧ y'.one = true ∧ y'.cells.length = tz ∧ putV (f x) esz tz off y' = f x') (hle : off + tz ≤ esz) (hO : Own Φ H0 L H) (hq : Okn q (Ar.len l)) (i : Nat) {j : Int} {k : Heap → Prop}
 (hi : L[i]? = some (.blk q.id (.arr esz (q.pre ++ Ar.lst f l ++ q.rest)))) (hj : 0 ≤ j ∧ j < (l.length : Nat))
 (hk : ∀ H', Own Φ H0 (L.set i (.blk q.id (.arr esz (q.pre ++ Ar.lst f (l.set j.toNat x') ++ q.rest)))) H' → k H') : E.ostore H q.id (Ar.ofs q.lo j) esz tz off y k := by
 obtain ⟨x, hx⟩ : ∃ x, l[j.toNat]? = some x := ⟨l[j.toNat], List.getElem?_eq_getElem (by omega)⟩
 exact n_ostore hE (u := fun _ => x') hu hle hO hq i hi (F := fun l => some l) (r := l.set j.toNat x') (by unfold updL idxL; rw [if_pos hj.1, hx]; rfl) fun l' H' hq' e hO' => by cases e; exact hk H' hO'
theorem f_oapp {by_ : Nat} {z : V} (hsz : ∀ x, (f x).cells.length = sz) (hby : by_ ≤ 131072) (hO : Own Φ H0 L H) (hq : Okn q (Ar.len l)) (i : Nat) (hi : L[i]? = some (.blk q.id (.arr sz (q.pre ++ Ar.lst f l ++ q.rest)))) {y : V} {m : List α} {k : V → Heap → Prop}
 (hs : Src sz H y (Ar.lst f m)) (hl : l.length + m.length ≤ 1073741824)
 (hk : ∀ (q : OG) H', Okn q (Ar.len (l ++ m)) → Own Φ H0 (L.set i (.blk q.id (.arr sz (q.pre ++ Ar.lst f (l ++ m) ++ q.rest)))) H' → k (.own q.id q.lo q.n) H') : E.oapp sz by_ z H (.own q.id q.lo q.n) y k :=
 n_oapp hE hsz hby hO hq i hi hs (F := fun l => some l) (r := l ++ m) (by unfold appL; rw [if_pos hl]; rfl) fun x q' H' hq' hO' e => by cases e; exact hk q' H' hq' hO'
theorem f_idx {g : α → V} (hf : ∀ x, f x = g x) {j : Int} {x : α} {k : V → Prop} (hx : idxL l j = some x) (hk : k (g x)) : E.idx (Ar.lst f l) j k :=
 n_idx hE hf (F := fun y => some y) (r := x) (by rw [hx]; rfl) fun y hy => by cases hy; exact hk
theorem f_appq {by_ : Nat} (hsz : ∀ x, (f x).cells.length = sz) (hby : by_ ≤ 131072) {xs ys : List V} {m x : List α} {k : V → Prop} (hx : LeVs xs (Ar.lst f l)) (hy : LeVs ys (Ar.lst f m)) (h : appL l m = some x) (hk : k (.sl (Ar.lst f x) .ro)) : E.appq sz by_ xs ys k :=
 n_appq hE hsz hby hx hy (F := fun y => some y) (r := x) (by rw [h]; rfl) fun y hy => by cases hy; exact hk
theorem n_callX {fid : FuncId} {args : List V} {k Q : V → Heap → Prop} (h : CallA P fid args H Q) (hk : ∀ v H', Q v H' → k v H') : E.call (.func (.func fid) [] []) args H k := by
 subst hE
 refine CallA.value (F := []) (C := []) ?_
 simp only [List.nil_append, List.append_nil]
 exact h.mono hk
end
theorem appL_some {α : Type} {l m x : List α} (h : appL l m = some x) : l.length + m.length ≤ 1073741824 ∧ x = l ++ m := by
 unfold appL at h
 split at h
 ·rename_i hc; cases h; exact ⟨hc, rfl⟩
 ·cases h
theorem mkL_some {α : Type} {n m : Int} {z : α} {l : List α} (h : mkL n m z = some l) : l = List.replicate n.toNat z := by
 unfold mkL at h
 split at h
 ·cases h; rfl
 ·cases h
theorem idxL_ok {α : Type} {l : List α} {i : Int} {x : α} (h : idxL l i = some x) : (0 ≤ i ∧ i < (l.length : Nat)) ∧ l[i.toNat]? = some x := by
 unfold idxL at h
 split at h
 ·rename_i h0
  refine ⟨⟨h0, ?_⟩, h⟩
  rcases Nat.lt_or_ge i.toNat l.length with h' | h'
  ·omega
  ·rw [List.getElem?_eq_none h'] at h; cases h
 ·cases h
end Go.Ab

namespace Go.Ab
open Go.RowKit
variable [Glob] [Ar]
section
variable {P : Program} {nt : Nat} {rd : Option Nat} {E : Env} (hE : E = real P nt rd)
include hE
variable {α R : Type} {f : α → V} {Φ : Heap → Heap → Prop} {H0 H : Heap} {L : List En} {sz : Nat} {q : OG} {l : List α} {r : R}
theorem n_osliceD (hO : Own Φ H0 L H) (hq : Okn q (Ar.len l)) (i : Nat) (hi : L[i]? = some (.blk q.id (.arr sz (q.pre ++ Ar.lst f l ++ q.rest)))) {lo : Option Int} {k : V → Prop} {F : List α → Option R}
 (h : (sliceL l lo none none).bind F = some r) (hk : ∀ x (q' : OG), q'.id = q.id ∧ q'.lo = q.lo + lo.getD 0 ∧ q'.n = q.n - lo.getD 0 → F x = some r → k (.own q'.id q'.lo q'.n)) :
 E.oslice sz H q.id q.lo q.n lo none none k := by
 have hE' := hE
 subst hE
 obtain ⟨x, h1, h2⟩ := bind_some h
 have hn : q.n = (l.length : Nat) := by rw [hq.2, Ar.len_eq]
 have el := lst_len (f := f) l
 unfold sliceL at h1
 split at h1
 ·rename_i hc
  cases h1
  obtain ⟨c1, c2, c3, c4, c5⟩ := hc
  simp only [Option.getD_none] at c2 c3 c4
  refine ⟨_, hO.get i hi, ?_, ?_⟩
  ·rw [hn, hq.1]
   simp only [List.length_append, el, Option.getD_none]
   refine ⟨c1, c2, by omega, by omega, fun h => by cases h⟩
  ·exact hk _ ⟨q.id, q.lo + lo.getD 0, q.n - lo.getD 0, [], []⟩ ⟨rfl, rfl, rfl⟩ h2
 ·cases h1
theorem n_ocopyD (hO : Own Φ H0 L H) (hq : Okn q (Ar.len l)) (i : Nat) (hi : L[i]? = some (.blk q.id (.arr sz (q.pre ++ Ar.lst f l ++ q.rest)))) {q' : OG} {a : Int} (hd : q'.id = q.id ∧ q'.lo = q.lo + a ∧ q'.n = q.n - a) {y : V} {m : List α} {k : V → Heap → Prop} {F : List α × Int → Option R}
 (hs : Src sz H y (Ar.lst f m)) (h : (copyE l a m).bind F = some r) (hk : ∀ p H', Okn q (Ar.len p.1) → Own Φ H0 (L.set i (.blk q.id (.arr sz (q.pre ++ Ar.lst f p.1 ++ q.rest)))) H' → F p = some r → k (.int .i64 p.2) H') : E.ocopy sz H (.own q'.id q'.lo q'.n) y k := by
 have hn : q.n = (l.length : Nat) := by rw [hq.2, Ar.len_eq]
 have el := lst_len (f := f) l
 have em := lst_len (f := f) m
 obtain ⟨p, h1, h2⟩ := bind_some h
 unfold copyE at h1
 split at h1
 ·rename_i hc
  cases h1
  rw [hd.1, hd.2.1, hd.2.2]
  refine r_ocopy hE (hO.get i hi) hs (YL := (m.length : Nat)) (by rw [em]) fun n row' hm hrow => ?_
  have e1 : n = (if (l.length : Int) - a < (m.length : Nat) then (l.length : Int) - a else (m.length : Nat)) := by rw [hm, hn]
  have ea : (q.lo + a).toNat = q.pre.length + a.toNat := by rw [hq.1]; omega
  have en : (q.n - a).toNat = l.length - a.toNat := by rw [hn]; omega
  have e2 : row' = q.pre ++ Ar.lst f (l.take a.toNat ++ m.take (l.length - a.toNat) ++ l.drop (a.toNat + m.length)) ++ q.rest := by
   rw [hrow, ea, en, Ar.lst_eq, Ar.lst_eq, Ar.lst_eq]
   rw [over_at (A := q.pre ++ (l.take a.toNat).map f) (B := ((l.drop a.toNat).take m.length).map f) (C := (l.drop (a.toNat + m.length)).map f ++ q.rest) ?_ ?_ ?_]
   ·simp only [List.map_append, List.map_take, List.append_assoc]
   ·have : l = l.take a.toNat ++ ((l.drop a.toNat).take m.length ++ l.drop (a.toNat + m.length)) := by
     rw [← List.drop_drop, List.take_append_drop, List.take_append_drop]
    conv => lhs; rw [this]
    simp only [List.map_append, List.append_assoc]
   ·simp; omega
   ·simp; omega
  rw [e1, e2]
  refine hk _ _ ⟨hq.1, ?_⟩ (hO.set i hi) h2
  rw [hn, Ar.len_eq]
  simp only [List.length_append, List.length_take, List.length_drop]
  omega
 ·cases h1
theorem n_ocopy (hO : Own Φ H0 L H) (hq : Okn q (Ar.len l)) (i : Nat) (hi : L[i]? = some (.blk q.id (.arr sz (q.pre ++ Ar.lst f l ++ q.rest)))) {y : V} {m : List α} {k : V → Heap → Prop} {F : List α × Int → Option R}
 (hs : Src sz H y (Ar.lst f m)) (h : (copyE l 0 m).bind F = some r) (hk : ∀ p H', Okn q (Ar.len p.1) → Own Φ H0 (L.set i (.blk q.id (.arr sz (q.pre ++ Ar.lst f p.1 ++ q.rest)))) H' → F p = some r → k (.int .i64 p.2) H') : E.ocopy sz H (.own q.id q.lo q.n) y k :=
 n_ocopyD hE hO hq i hi (a := 0) ⟨rfl, by omega, by omega⟩ hs h hk
end
end Go.Ab

namespace Go.Ab
open Go.RowKit
variable [Glob] [Ar]
def Gh.lend (g : Gh) (w : World) : Gh := { g with fz := fun b o => ∃ v, w.cell? ⟨b, o, none⟩ = some v, base := w.heap.size }
theorem VR.lend {g : Gh} {w : World} {B : Nat} {F : Nat → Nat → Prop} (hB : g.base ≤ B) (hF : ∀ b o, g.fz b o → F b o) {v : Value} {x : V} (h : VR g w v x) : VR { g with fz := F, base := B } w v x := by
 induction h with
 | bad v => exact .bad v
 | bool b => exact .bool b
 | int k n => exact .int k n
 | str s => exact .str s
 | nilp => exact .nilp
 | nilf => exact .nilf
 | nili => exact .nili
 | nilmap => exact .nilmap
 | map h => exact .map h
 | fmap hb hw hk hn hl hv ih => exact VR.fmap (g := { g with fz := F, base := B }) (Nat.lt_of_lt_of_le hb hB) hw hk hn hl ih
 | ref h => exact .ref h
 | own h h0 h1 h2 hp => exact VR.own (g := { g with fz := F, base := B }) h h0 h1 h2 hp
 | elem h hs => exact VR.elem (g := { g with fz := F, base := B }) h hs
 | eref vs hf hw h1 hv ih => exact .eref vs (fun j hj => hF _ _ (hf j hj)) hw h1 ih
 | sl0 ht => exact .sl0 ht
 | sle ht => exact .sle ht
 | sl vs hn hc hz hf hw h1 hv ht ih => exact .sl vs hn hc hz (fun i j hi hj => hF _ _ (hf i j hi hj)) hw h1 ih (ht.mono fun _ _ e => e)
 | func hl hv hl' hv' ih ih' => exact .func hl ih hl' ih'
 | yield h => exact .yield h
 | iface h ih => exact .iface ih
 | agg hl h1 hv ih => exact .agg hl h1 ih
 | tup hl hv ih => exact .tup hl ih
theorem Rl.lend {g : Gh} {H : Heap} {w : World} (h : Rl g H w) : Rl (g.lend w) (fun _ => none) w := by
 refine ⟨fun id b hb => (by cases hb), fun id id' b h1 _ => (by simp [Gh.at] at h1), fun b o hf => hf, fun id hi => ⟨(h.nxt id hi).1, (h.nxt id hi).2.1, rfl⟩, Nat.le_refl _, fun n => (h.glb n).lend h.bnd fun b o hf => h.frz b o hf⟩
theorem Rl.lendOwn {g : Gh} {H : Heap} {w : World} (h : Rl g H w) {id sz : Nat} {xs : List V} (hk : H id = some (.arr sz xs)) {v : Value} {lo n : Int} (hv : VR g w v (.own id lo n)) : VR (g.lend w) w v (.sl (subL xs lo n) .ro) := by
 obtain ⟨g', ⟨e1, e2, e3⟩, s, hR, hw⟩ := h.freezeArr' hk
 have := (hw v lo n (hv.mono s)).lend (F := fun b o => ∃ v, w.cell? ⟨b, o, none⟩ = some v) (B := w.heap.size) hR.bnd fun b o hf => hR.frz b o hf
 have e : ({ g' with fz := fun b o => ∃ v, w.cell? ⟨b, o, none⟩ = some v, base := w.heap.size } : Gh) = { (g.lend w) with nx := g'.nx } := by
  simp only [Gh.lend, Gh.mk.injEq, and_true]
  exact ⟨e1, e3, e2⟩
 rw [e] at this
 exact VR.nxt this
where
 VR.nxt {g : Gh} {w : World} {n : Nat} {v : Value} {x : V} (h : VR { g with nx := n } w v x) : VR g w v x := by
  generalize hg : ({ g with nx := n } : Gh) = g1 at h
  have hmu : g1.mu = g.mu := by rw [← hg]
  have htk : g1.tk = g.tk := by rw [← hg]
  have hfz : g1.fz = g.fz := by rw [← hg]
  have how : g1.ow = g.ow := by rw [← hg]
  have hba : g1.base = g.base := by rw [← hg]
  clear hg
  induction h with
  | bad v => exact .bad v
  | bool b => exact .bool b
  | int k n => exact .int k n
  | str s => exact .str s
  | nilp => exact .nilp
  | nilf => exact .nilf
  | nili => exact .nili
  | nilmap => exact .nilmap
  | map h => exact .map (hmu ▸ h)
  | fmap hb hw hk hn hl hv ih => exact .fmap (hba ▸ hb) hw hk hn hl ih
  | ref h => exact .ref (hmu ▸ h)
  | own h h0 h1 h2 hp => rw [how] at h2 hp ⊢; exact VR.own (hmu ▸ h) h0 h1 h2 hp
  | elem h hs => rw [how] at hs ⊢; exact VR.elem (hmu ▸ h) hs
  | eref vs hf hw h1 hv ih => exact .eref vs (fun j hj => hfz ▸ hf j hj) hw h1 ih
  | sl0 ht => exact .sl0 ht
  | sle ht => exact .sle ht
  | sl vs hn hc hz hf hw h1 hv ht ih => exact .sl vs hn hc hz (fun i j hi hj => hfz ▸ hf i j hi hj) hw h1 ih (ht.mono fun _ _ e => htk ▸ e)
  | func hl hv hl' hv' ih ih' => exact .func hl ih hl' ih'
  | yield h => exact .yield (hmu ▸ h)
  | iface h ih => exact .iface ih
  | agg hl h1 hv ih => exact .agg hl h1 ih
  | tup hl hv ih => exact .tup hl ih
def plainV : V → Bool
 | .bool _ => true
 | .int _ _ => true
 | .str _ => true
 | _ => false
inductive Scal : V → Prop
 | bool (b : Bool) : Scal (.bool b)
 | int (k : IntKind) (n : Int) : Scal (.int k n)
 | str (s : ByteArray) : Scal (.str s)
 | agg {cs : List V} (h : cs.all plainV = true) : Scal (.agg cs)
 | tup2 {x y : V} (h : Scal x) (k : Scal y) : Scal (.tup [x, y])
 | tup3 {x y z : V} (h : Scal x) (k : Scal y) (m : Scal z) : Scal (.tup [x, y, z])
theorem Scal.any {x : V} (h : Scal x) : ∀ {g g' : Gh} {w w' : World} {v : Value}, VR g w v x → VR g' w' v x := by
 induction h with
 | bool b => intro g g' w w' v h; cases h; exact .bool b
 | int k n => intro g g' w w' v h; cases h; exact .int k n
 | str s => intro g g' w w' v h; cases h; exact .str s
 | @agg cs hp =>
  intro g g' w w' v h
  cases h with
  | agg hl h1 hv =>
   refine .agg hl h1 fun i hi => ?_
   have hvi := hv i hi
   have hm := List.all_eq_true.1 hp _ (List.getElem_mem hi)
   rw [show cs.getD i .bad = cs[i] by rw [List.getD_eq_getElem?_getD, List.getElem?_eq_getElem hi]; rfl] at hvi ⊢
   generalize cs[i] = c at hvi hm ⊢
   generalize Array.getD _ i undef = u at hvi ⊢
   cases c <;> simp only [plainV, Bool.false_eq_true] at hm <;> cases hvi <;> constructor
 | tup2 _ _ ih1 ih2 =>
  intro g g' w w' v h
  cases h with
  | tup hl hv =>
   refine .tup hl fun i hi => ?_
   match i with
   | 0 => exact ih1 (hv 0 hi)
   | 1 => exact ih2 (hv 1 hi)
   | i + 2 => simp at hi; omega
 | tup3 _ _ _ ih1 ih2 ih3 =>
  intro g g' w w' v h
  cases h with
  | tup hl hv =>
   refine .tup hl fun i hi => ?_
   match i with
   | 0 => exact ih1 (hv 0 hi)
   | 1 => exact ih2 (hv 1 hi)
   | 2 => exact ih3 (hv 2 hi)
   | i + 3 => simp at hi; omega
inductive Lend (H : Heap) : List V → List V → Prop
 | nil : Lend H [] []
 | le {x y : V} {xs ys : List V} (h : LeV x y) (k : Lend H xs ys) : Lend H (x :: xs) (y :: ys)
 | fm {id : Nat} {ks : List Int} {zs xs ys : List V} (h : H id = some (.fm ks zs)) (k : Lend H xs ys) : Lend H (.map id :: xs) (.fmap ks zs :: ys)
 | agg {us ws xs ys : List V} (h : Lend H us ws) (k : Lend H xs ys) : Lend H (.agg us :: xs) (.agg ws :: ys)
 | own {id sz : Nat} {zs : List V} {lo n : Int} {xs ys : List V} (h : H id = some (.arr sz zs)) (k : Lend H xs ys) : Lend H (.own id lo n :: xs) (.sl (subL zs lo n) .ro :: ys)
theorem Lend.length {H : Heap} {xs ys : List V} (h : Lend H xs ys) : xs.length = ys.length := by
 induction h with
 | nil => rfl
 | le _ _ ih => simp [ih]
 | fm _ _ ih => simp [ih]
 | agg _ _ _ ih => simp [ih]
 | own _ _ ih => simp [ih]
theorem Lend.at {g : Gh} {H : Heap} {w : World} (hR : Rl g H w) {xs ys : List V} (h : Lend H xs ys) : ∀ (vals : Nat → Value), (∀ i, i < xs.length → VR g w (vals i) (xs.getD i .bad)) → ∀ i, i < ys.length → VR (g.lend w) w (vals i) (ys.getD i .bad) := by
 induction h with
 | nil => intro _ _ i hi; simp at hi
 | le h k ih =>
  intro vals hv i hi
  cases i with
  | zero => exact ((hv 0 (by simp)).le h).lend hR.bnd fun b o hf => hR.frz b o hf
  | succ i => exact ih (fun i => vals (i + 1)) (fun i hi => by simpa using hv (i + 1) (by simpa using hi)) i (by simpa using hi)
 | fm h k ih =>
  intro vals hv i hi
  cases i with
  | zero =>
   have h0 := hv 0 (by simp)
   simp only [List.getD_cons_zero] at h0 ⊢
   generalize vals 0 = u at h0
   cases h0 with
   | map hm =>
    obtain ⟨b, es, clock, k1, k2, k3, k4, k5, k6, k7⟩ := hR.blk _ _ h
    rw [hm] at k1; cases k1
    exact VR.fmap (g := Gh.lend _ _) (mem_lt k3) k3 k4 k5 k6 fun i e hi => (k7 i e hi).lend hR.bnd fun b o hf => hR.frz b o hf
  | succ i => exact ih (fun i => vals (i + 1)) (fun i hi => by simpa using hv (i + 1) (by simpa using hi)) i (by simpa using hi)
 | agg h k ih1 ih =>
  intro vals hv i hi
  cases i with
  | zero =>
   have h0 := hv 0 (by simp)
   simp only [List.getD_cons_zero] at h0 ⊢
   generalize vals 0 = u at h0
   cases h0 with
   | agg hl h1 hv1 =>
    have e := h.length
    exact .agg (hl.trans e) (fun i hi => h1 i (by omega)) fun i hi => ih1 (fun i => Array.getD _ i undef) hv1 i hi
  | succ i => exact ih (fun i => vals (i + 1)) (fun i hi => by simpa using hv (i + 1) (by simpa using hi)) i (by simpa using hi)
 | own h k ih =>
  intro vals hv i hi
  cases i with
  | zero => exact hR.lendOwn h (hv 0 (by simp))
  | succ i => exact ih (fun i => vals (i + 1)) (fun i hi => by simpa using hv (i + 1) (by simpa using hi)) i (by simpa using hi)
theorem CallP.lent {P : Program} {f : FuncId} {ys : List V} {r : V} (c : CallP P f ys r) (hr : Scal r) {H : Heap} {xs : List V} (hl : Lend H xs ys) : CallA P f xs H fun x H' => x = r ∧ H' = H := by
 intro g w vals hR hA
 have hA2 : Args (g.lend w) w vals ys := ⟨hA.1.trans hl.length, hl.at hR (fun i => vals.getD i undef) hA.2⟩
 refine (c _ _ w vals hR.lend hA2).mono fun v w' ⟨g', x, H', s, hR', hv, e1, e2⟩ => ?_
 subst e1
 have hb : Below w.heap.size w w' := s.low
 have sg : Stp g w g w' := ⟨fun _ _ e => e, fun _ _ e => e, fun _ _ e => e, rfl, fun b o hf => hb.cell (hR.fz_lt hf), hb.mono hR.bnd, fun _ _ _ => rfl⟩
 refine ⟨g, x, H, sg, ⟨fun id b hk => (hR.blk id b hk).mono hk sg fun y hy => ⟨hb.block _ (hR.lt hy), fun _ ho => ho⟩, hR.inj, fun b o hf => ?_, hR.nxt, Nat.le_trans hR.bnd hb.size, fun n => (hR.glb n).mono sg⟩, hr.any hv, rfl, rfl⟩
 obtain ⟨u, hu⟩ := hR.frz b o hf
 exact ⟨u, (hb.cell (hR.fz_lt hf)).trans hu⟩
section
variable {P : Program} {nt : Nat} {rd : Option Nat} {T : Tbl} {E : Env}
variable (hE : E = real P nt rd)
include hE
theorem n_callB {R S : Type} {m : Option S} {F : S → Option R} {r : R} {f : FuncId} {args args' : List V} {g : S → V} {H : Heap} {k : V → Heap → Prop} (h : m.bind F = some r) (hc : ∀ x, m = some x → CallP P f args' (g x)) (hs : ∀ x, Scal (g x)) (hl : Lend H args args')
 (hk : ∀ x, F x = some r → k (g x) H) : E.call (.func (.func f) [] []) args H k := by
 subst hE
 obtain ⟨x, h1, h2⟩ := bind_some h
 refine CallA.value (F := []) (C := []) ?_
 simp only [List.nil_append, List.append_nil]
 exact ((hc x h1).lent (hs x) hl).mono fun v H' ⟨e1, e2⟩ => by subst e1; subst e2; exact hk x h2
end
end Go.Ab

namespace Go.Ab
open Go.RowKit
variable [Glob] [Ar]
end Go.Ab

