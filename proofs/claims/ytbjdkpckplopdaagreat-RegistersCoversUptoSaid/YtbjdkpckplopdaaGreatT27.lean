/- AbB11 AbB12 AbF1 AbF2 AbF3 -/
import Derived.Test.YtbjdkpckplopdaaGreatT25
import Derived.Test.YtbjdkpckplopdaaGreatT23
import Derived.Test.YtbjdkpckplopdaaGreatT26
set_option linter.all false

namespace Go.Ab
open Go.RowKit Go.MapKept
variable [Glob] [Ar]
def Mok {K X : Type} (d : TypeDesc) (kf : K → V) (vf : X → V) (o : Obj) (m : List (K × X)) : Prop := ∃ m' : List (K × X), MapIs d o (m'.map fun p => (kf p.1, vf p.2)) ∧ m'.Perm m
theorem Mok.perm {K X : Type} {d : TypeDesc} {kf : K → V} {vf : X → V} {o : Obj} {m l : List (K × X)} (h : Mok d kf vf o m) (hp : m.Perm l) : Mok d kf vf o l :=
 let ⟨m', h1, h2⟩ := h; ⟨m', h1, h2.trans hp⟩
theorem key_inj {K X : Type} {m : List (K × X)} (hn : (m.map (·.1)).Nodup) {p q : K × X} (hp : p ∈ m) (hq : q ∈ m) (e : p.1 = q.1) : p = q := by
 obtain ⟨i, hi, rfl⟩ := List.getElem_of_mem hp
 obtain ⟨j, hj, rfl⟩ := List.getElem_of_mem hq
 have : i = j := nodup_inj hn (by simpa using hi) (by simpa using hj) (by simpa using e)
 subst this; rfl
theorem getM_perm {K X : Type} [DecidableEq K] {m m' : List (K × X)} (hp : m'.Perm m) (hn : (m'.map (·.1)).Nodup) (k : K) (z : X) : getM m' k z = getM m k z := by
 unfold getM
 cases hf : m.find? (fun p => decide (p.1 = k)) with
 | none =>
  have : m'.find? (fun p => decide (p.1 = k)) = none := List.find?_eq_none.2 fun p hm => List.find?_eq_none.1 hf p (hp.mem_iff.1 hm)
  rw [this]
 | some p =>
  have h1 : p.1 = k := by simpa using List.find?_some hf
  have h2 := hp.mem_iff.2 (List.mem_of_find?_eq_some hf)
  cases hg : m'.find? (fun p => decide (p.1 = k)) with
  | none => exact absurd h1 (by simpa using List.find?_eq_none.1 hg p h2)
  | some q =>
   have h3 : q.1 = k := by simpa using List.find?_some hg
   rw [key_inj hn (List.mem_of_find?_eq_some hg) h2 (h3.trans h1.symm)]
theorem setM_perm {K X : Type} [DecidableEq K] {m m' r : List (K × X)} (hp : m'.Perm m) {k : K} {v : X} (h : setM m k v = some r) : ∃ r', setM m' k v = some r' ∧ r'.Perm r := by
 unfold setM at h
 cases h
 refine ⟨_, rfl, ?_⟩
 have e : m'.any (fun p => decide (p.1 = k)) = m.any (fun p => decide (p.1 = k)) := by
  rw [Bool.eq_iff_iff, List.any_eq_true, List.any_eq_true]
  exact ⟨fun ⟨p, h1, h2⟩ => ⟨p, hp.mem_iff.1 h1, h2⟩, fun ⟨p, h1, h2⟩ => ⟨p, hp.mem_iff.2 h1, h2⟩⟩
 rw [e]
 split
 ·exact hp.map _
 ·exact hp.append_right _
theorem keys_nodup {K X : Type} {d : TypeDesc} {kf : K → V} {vf : X → V} {o : Obj} {m : List (K × X)} (h : MapIs d o (m.map fun p => (kf p.1, vf p.2))) : (m.map (·.1)).Nodup := by
 have := h.nodup
 rw [List.map_map] at this
 have e : (m.map ((·.1) ∘ fun p => (kf p.1, vf p.2))) = (m.map (·.1)).map kf := by rw [List.map_map]; rfl
 rw [e] at this
 exact List.Pairwise.imp (fun h e => h (by rw [e])) (List.pairwise_map.1 this)
structure MkOk {K : Type} (d : TypeDesc) (kf : K → V) : Prop where
 raw : ∀ x, ∃ v, rawS (kf x) = some v ∧ IsKey d v
 inj : ∀ x y, kf x = kf y → x = y
theorem mkOk_int (k : IntKind) : MkOk (.int k) (V.int k) := ⟨fun _ => ⟨_, rfl, rfl⟩, fun x y h => by cases h; rfl⟩
def MvOk {X : Type} (vf : X → V) : Prop := ∀ x, ∃ v, rawV (vf x) = some v
theorem Own.startO {H0 : Heap} {id : Nat} {b : Blk} (hk : H0 id = some b) : Own Eq (upd H0 id none) [.blk id b] H0 := by
 have h : Own Eq (upd H0 id none) [.blk id b] (upd (upd H0 id none) id (some b)) := (Own.start stable_eq rfl).push (upd_same _ _ _) rfl
 rwa [upd_upd, upd_self H0 id (some b) hk] at h
section
variable {P : Program} {nt : Nat} {rd : Option Nat} {T : Tbl} {E : Env}
variable (hE : E = real P nt rd)
include hE
variable {α R : Type} {f : α → V} {Φ : Heap → Heap → Prop} {H0 H : Heap} {L : List En} {sz : Nat} {q : OG} {l : List α} {r : R}
theorem n_olit {xs : List V} (hx : LeVs xs (Ar.lst f l)) (hO : Own Φ H0 L H) {k : V → Heap → Prop} (hk : ∀ (q : OG) H', Okn q (Ar.len l) → Own Φ H0 (.blk q.id (.arr sz (q.pre ++ Ar.lst f l ++ q.rest)) :: L) H' → k (.own q.id q.lo q.n) H') : E.olit sz H xs k := by
 subst hE
 have el : xs.length = l.length := by rw [hx.length, lst_len]
 refine ⟨_, hx, fun t ht => ?_⟩
 refine hk ⟨t, 0, (xs.length : Nat), [], []⟩ _ ⟨rfl, by rw [Ar.len_eq, el]⟩ ?_
 show Own Φ H0 (.blk t (.arr sz (([] : List V) ++ Ar.lst f l ++ [])) :: L) _
 rw [List.nil_append, List.append_nil]; exact hO.push ht rfl
section
variable {K X : Type} {kf : K → V} {vf : X → V} {t kt et : Nat} {d : TypeDesc} {m : List (K × X)} {o : Obj} {id : Nat}
theorem n_mmk (d : TypeDesc) (kf : K → V) (vf : X → V) (hO : Own Φ H0 L H) {k : V → Heap → Prop} (hk : ∀ id o H', Mok d kf vf o [] → Own Φ H0 (.blk id (.obj o) :: L) H' → k (.map id) H') : E.mmk H k := by
 subst hE
 exact .inl fun id hid => hk id _ _ ⟨[], MapIs.empty d, .refl _⟩ (hO.push hid rfl)
theorem asked [DecidableEq K] (hK : MkOk d kf) {z : V} {z0 : X} (hz : zeO P et = some z) (hvz : z = vf z0) {key : K} {x : X × Bool} (hx : getM m key z0 = some x) (ok : Bool) :
 Asked P et (m.map fun p => (kf p.1, vf p.2)) (kf key) ok (if ok = true then .tup [vf x.1, .bool x.2] else vf x.1) := by
 unfold getM at hx
 cases hx
 cases hf : m.find? (fun p => decide (p.1 = key)) with
 | none =>
  refine .inl ⟨fun p hp => ?_, z, hz, by simp only [hvz]⟩
  obtain ⟨q, hq, rfl⟩ := List.mem_map.1 hp
  have := List.find?_eq_none.1 hf q hq
  exact fun e => this (by simpa using hK.inj _ _ e)
 | some p =>
  have h1 := List.find?_some hf
  have h2 := List.mem_of_find?_eq_some hf
  refine .inr ⟨vf p.2, List.mem_map.2 ⟨p, h2, ?_⟩, rfl⟩
  rw [show p.1 = key by simpa using h1]
theorem n_mget [DecidableEq K] (hm : P.underlying t = some (.map kt et)) (hd : P.underlying kt = some d) (hK : MkOk d kf) {z : V} (z0 : X) (hz : zeO P et = some z) (hvz : z = vf z0) (hO : Own Φ H0 L H) (hq : Mok d kf vf o m) (i : Nat) (hi : L[i]? = some (.blk id (.obj o)))
 {key : K} {k : V → Prop} {F : X × Bool → Option R} (h : (getM m key z0).bind F = some r) (hk : ∀ x, F x = some r → k (vf x.1)) : E.mget t H (.map id) (kf key) false k := by
 obtain ⟨x, h1, h2⟩ := bind_some h
 obtain ⟨m', hq, hp⟩ := hq
 rw [← getM_perm hp (keys_nodup hq)] at h1
 have ha := asked (P := P) (vf := vf) hE hK hz hvz h1 false
 subst hE
 obtain ⟨v, hv1, hv2⟩ := hK.raw key
 exact ⟨_, .inl ⟨kt, et, d, v, id, o, _, hm, hd, hv1, hv2, rfl, hO.get i hi, hq, ha⟩, hk x h2⟩
theorem n_mget2 [DecidableEq K] (hm : P.underlying t = some (.map kt et)) (hd : P.underlying kt = some d) (hK : MkOk d kf) {z : V} (z0 : X) (hz : zeO P et = some z) (hvz : z = vf z0) (hO : Own Φ H0 L H) (hq : Mok d kf vf o m) (i : Nat) (hi : L[i]? = some (.blk id (.obj o)))
 {key : K} {k : V → Prop} {F : X × Bool → Option R} (h : (getM m key z0).bind F = some r) (hk : ∀ x, F x = some r → k (.tup [vf x.1, .bool x.2])) : E.mget t H (.map id) (kf key) true k := by
 obtain ⟨x, h1, h2⟩ := bind_some h
 obtain ⟨m', hq, hp⟩ := hq
 rw [← getM_perm hp (keys_nodup hq)] at h1
 have ha := asked (P := P) (vf := vf) hE hK hz hvz h1 true
 subst hE
 obtain ⟨v, hv1, hv2⟩ := hK.raw key
 exact ⟨_, .inl ⟨kt, et, d, v, id, o, _, hm, hd, hv1, hv2, rfl, hO.get i hi, hq, ha⟩, hk x h2⟩
theorem setV_of [DecidableEq K] (hK : MkOk d kf) (hn : ((m.map fun p => (kf p.1, vf p.2)).map (·.1)).Nodup) {key : K} {v : X} {m' : List (K × X)} (hx : setM m key v = some m') : SetV (m.map fun p => (kf p.1, vf p.2)) (kf key) (vf v) (m'.map fun p => (kf p.1, vf p.2)) := by
 unfold setM at hx
 cases hx
 split
 ·rename_i h
  obtain ⟨p, hp, he⟩ := List.any_eq_true.1 h
  have he : p.1 = key := by simpa using he
  obtain ⟨a, b, hab⟩ := List.append_of_mem hp
  subst hab
  refine .inr ⟨a.map fun p => (kf p.1, vf p.2), vf p.2, b.map fun p => (kf p.1, vf p.2), by simp [he], ?_⟩
  have hna : ∀ l : List (K × X), (∀ q ∈ l, q.1 ≠ key) → (l.map (fun p => if p.1 = key then (key, v) else p)) = l := fun l hl => by
   induction l with
   | nil => rfl
   | cons y l ih => rw [List.map_cons, if_neg (hl y (by simp)), ih fun q hq => hl q (by simp [hq])]
  rw [List.map_map, List.map_append, List.map_cons, List.nodup_append] at hn
  obtain ⟨_, n2, n3⟩ := hn
  rw [List.nodup_cons] at n2
  have ha : ∀ q ∈ a, q.1 ≠ key := fun q hq e => n3 (kf q.1) (List.mem_map.2 ⟨q, hq, rfl⟩) (kf p.1) (by simp) (by rw [e, he])
  have hb : ∀ q ∈ b, q.1 ≠ key := fun q hq e => n2.1 (List.mem_map.2 ⟨q, hq, by simp [e, he]⟩)
  rw [List.map_append, List.map_cons, hna a ha, hna b hb, if_pos he]
  simp
 ·rename_i h
  refine .inl ⟨fun p hp => ?_, by simp⟩
  obtain ⟨q, hq, rfl⟩ := List.mem_map.1 hp
  exact fun e => h (List.any_eq_true.2 ⟨q, hq, by simpa using hK.inj _ _ e⟩)
theorem n_mset [DecidableEq K] (hm : P.underlying t = some (.map kt et)) (hd : P.underlying kt = some d) (hK : MkOk d kf) (hV : MvOk vf) (hO : Own Φ H0 L H) (hq : Mok d kf vf o m) (i : Nat) (hi : L[i]? = some (.blk id (.obj o)))
 {key : K} {v : X} {k : Heap → Prop} {F : List (K × X) → Option R} (h : (setM m key v).bind F = some r) (hk : ∀ m' o' H', Mok d kf vf o' m' → F m' = some r → Own Φ H0 (L.set i (.blk id (.obj o'))) H' → k H') : E.mset t H (.map id) (kf key) (vf v) k := by
 obtain ⟨m', h1, h2⟩ := bind_some h
 obtain ⟨m0, hq, hp⟩ := hq
 obtain ⟨r', h3, hp'⟩ := setM_perm hp h1
 have hs := setV_of (d := d) hE hK hq.nodup h3
 subst hE
 obtain ⟨kv, hv1, hv2⟩ := hK.raw key
 obtain ⟨vv, hv3⟩ := hV v
 exact .inl ⟨kt, et, d, kv, vv, id, o, _, _, hm, hd, hv1, hv2, hv3, rfl, hO.get i hi, hq, hs, fun o' ho => hk m' o' _ ⟨r', ho, hp'⟩ h2 (hO.set i hi)⟩
end
end
end Go.Ab

namespace Go.Ab
variable [Glob] [Ar]
section
variable {P : Program} {nt : Nat} {rd : Option Nat} {E : Env} (hE : E = real P nt rd) {Φ : Heap → Heap → Prop} {H0 H : Heap} {L : List En}
include hE
theorem n_takeT (hO : Own Φ H0 L H) (i : Nat) {tl : Tail} (hi : L[i]? = some (.tl tl)) (ha : Appn tl) {k : Tail → Heap → Prop}
 (hk : ∀ H', Own Φ H0 (L.set i (.tl .nil)) H' → k tl H') : E.takeT H k := by
 subst hE
 exact ⟨tl, hO.appOk i hi ha, hk _ (hO.untok i hi rfl)⟩
theorem n_nameT (hO : Own Φ H0 L H) (i : Nat) (hi : L[i]? = some (.tl .nil)) {k : Tail → Heap → Prop}
 (hk : ∀ tl H', Own Φ H0 (L.set i (.tl tl)) H' → Appn tl → k tl H') : E.nameT H k := by
 subst hE
 refine ⟨fun tl htl => ?_, fun t ht => hk _ _ (hO.tok i hi ht) trivial⟩
 rcases htl with rfl | rfl
 ·exact hk _ _ (hO.untok i hi rfl) trivial
 ·exact hk _ _ (hO.untok i hi rfl) trivial
end
end Go.Ab

namespace Go.Ab
open Go.RowKit
variable [Glob] [Ar]
def EnNe (e e' : En) : Prop := ∀ id b b', e.id = some (id, b) → e'.id = some (id, b') → False
theorem Own0.perm {H0 H : Heap} {L L' : List En} (h : Own0 H0 L H) (p : L.Perm L') : Own0 H0 L' H := by
 have hp : L.Pairwise EnNe := by
  rw [List.pairwise_iff_getElem]
  intro i j hi hj hlt id b b' e1 e2
  have := h.inj i j _ _ id b b' (List.getElem?_eq_getElem hi) (List.getElem?_eq_getElem hj) e1 e2
  omega
 have hp' : L'.Pairwise EnNe := (p.pairwise_iff (fun {x y} (h : EnNe x y) id b b' e1 e2 => h id b' b e2 e1)).1 hp
 rw [List.pairwise_iff_getElem] at hp'
 refine ⟨h.ext, fun i e id b hi he => ?_, fun i j e e' id b b' hi hj he he' => ?_, fun x b hx => (h.only x b hx).imp (fun h => h) fun ⟨i, e, h1, h2⟩ => ?_⟩
 ·obtain ⟨j, hj⟩ := List.getElem?_of_mem (p.mem_iff.2 (List.mem_of_getElem? hi))
  exact h.has j e id b hj he
 ·obtain ⟨hi', ei⟩ := List.getElem?_eq_some_iff.1 hi
  obtain ⟨hj', ej⟩ := List.getElem?_eq_some_iff.1 hj
  rcases Nat.lt_trichotomy i j with hlt | heq | hlt
  ·exact (hp' i j hi' hj' hlt id b b' (by rw [ei]; exact he) (by rw [ej]; exact he')).elim
  ·exact heq
  ·exact (hp' j i hj' hi' hlt id b' b (by rw [ej]; exact he') (by rw [ei]; exact he)).elim
 ·obtain ⟨j, hj⟩ := List.getElem?_of_mem (p.mem_iff.1 (List.mem_of_getElem? h1))
  exact ⟨j, e, hj, h2⟩
theorem Own.perm {Φ : Heap → Heap → Prop} {F H : Heap} {L L' : List En} (h : Own Φ F L H) (p : L.Perm L') : Own Φ F L' H :=
 let ⟨hs, F', H1, h0, h1, h2⟩ := h; ⟨hs, F', H1, h0.perm p, h1, h2⟩
structure Rw (α : Type) where
 q : OG
 row : List (List α × Tail)
variable {α : Type} (f : α → V)
def cellV (c : List α × Tail) : V := .sl (Ar.lst f c.1) c.2
def rwB (w : Rw α) : En := .blk w.q.id (.arr 1 (w.q.pre ++ Ar.lst (cellV f) w.row ++ w.q.rest))
def rwL (w : Rw α) : List En := rwB f w :: w.row.map fun c => .tl c.2
def fo : List (Rw α) → List En
 | [] => []
 | w :: F => rwL f w ++ fo F
def RwA (w : Rw α) : Prop := ∀ c ∈ w.row, Appn c.2
variable {f}
theorem fo_app : ∀ (F G : List (Rw α)), fo f (F ++ G) = fo f F ++ fo f G
 | [], _ => rfl
 | w :: F, G => by rw [List.cons_append, fo, fo, fo_app F G, List.append_assoc]
theorem fo_split : ∀ {F : List (Rw α)} {c : Nat} {w : Rw α}, F[c]? = some w → ∃ R, (fo f F).Perm (rwL f w ++ R) ∧ ∀ w', (fo f (F.set c w')).Perm (rwL f w' ++ R)
 | [], _, _, h => by simp at h
 | v :: F, 0, w, h => by
  simp at h; subst h
  exact ⟨fo f F, .refl _, fun w' => .refl _⟩
 | v :: F, c + 1, w, h => by
  obtain ⟨R, h1, h2⟩ := fo_split (F := F) (c := c) (w := w) (by simpa using h)
  have key : ∀ (X Y : List En), X.Perm (Y ++ R) → (rwL f v ++ X).Perm (Y ++ (rwL f v ++ R)) := fun X Y hX =>
   (hX.append_left _).trans (by
    rw [← List.append_assoc, ← List.append_assoc]
    exact List.perm_append_comm.append_right R)
  exact ⟨rwL f v ++ R, key _ _ h1, fun w' => key _ _ (h2 w')⟩
theorem row_split : ∀ {row : List (List α × Tail)} {i : Nat} {c : List α × Tail}, row[i]? = some c → ∃ R, (row.map fun c => En.tl c.2).Perm (.tl c.2 :: R) ∧ ∀ c', ((row.set i c').map fun c => En.tl c.2).Perm (.tl c'.2 :: R)
 | [], _, _, h => by simp at h
 | v :: F, 0, w, h => by
  simp at h; subst h
  exact ⟨F.map fun c => .tl c.2, .refl _, fun w' => .refl _⟩
 | v :: F, i + 1, w, h => by
  obtain ⟨R, h1, h2⟩ := row_split (row := F) (i := i) (c := w) (by simpa using h)
  exact ⟨.tl v.2 :: R, (h1.cons _).trans (.swap ..), fun w' => ((h2 w').cons _).trans (.swap ..)⟩
theorem cell_split {F : List (Rw α)} {c i : Nat} {w : Rw α} {x : List α × Tail} (hc : F[c]? = some w) (hi : w.row[i]? = some x) :
 ∃ R, (fo f F).Perm (.tl x.2 :: rwB f w :: R) ∧ ∀ x', (fo f (F.set c ⟨w.q, w.row.set i x'⟩)).Perm (.tl x'.2 :: rwB f ⟨w.q, w.row.set i x'⟩ :: R) := by
 obtain ⟨R, h1, h2⟩ := fo_split (f := f) hc
 obtain ⟨S, k1, k2⟩ := row_split hi
 have key : ∀ (b : En) (X : List En) (t : En), X.Perm (t :: S) → (b :: (X ++ R)).Perm (t :: b :: (S ++ R)) := fun b X t hX =>
  ((hX.append_right R).cons b).trans (.swap ..)
 exact ⟨S ++ R, h1.trans (key _ _ _ k1), fun x' => (h2 _).trans (key _ _ _ (k2 x'))⟩
theorem Own.cell {Φ : Heap → Heap → Prop} {H0 H : Heap} {b : En} {L : List En} {F : List (Rw α)} {c i : Nat} {w : Rw α} {x : List α × Tail} (hO : Own Φ H0 (b :: (fo f F ++ L)) H) (hc : F[c]? = some w) (hi : w.row[i]? = some x) :
 ∃ R, Own Φ H0 (.tl x.2 :: rwB f w :: b :: R) H ∧ ∀ x' H', Own Φ H0 (.tl x'.2 :: rwB f ⟨w.q, w.row.set i x'⟩ :: b :: R) H' → Own Φ H0 (b :: (fo f (F.set c ⟨w.q, w.row.set i x'⟩) ++ L)) H' := by
 obtain ⟨R, h1, h2⟩ := cell_split (f := f) hc hi
 have key : ∀ (X : List En) (t r : En), X.Perm (t :: r :: R) → (b :: (X ++ L)).Perm (t :: r :: b :: (R ++ L)) := fun X t r h =>
  ((h.append_right L).cons b).trans ((List.Perm.swap t b _).trans ((List.Perm.swap r b _).cons t))
 exact ⟨R ++ L, hO.perm (key _ _ _ h1), fun x' H' h => h.perm (key _ _ _ (h2 x')).symm⟩
theorem Own.row {Φ : Heap → Heap → Prop} {H0 H : Heap} {b b' : En} {L : List En} {F : List (Rw α)} {w : Rw α} (hO : Own Φ H0 (rwB f w :: b :: b' :: (fo f F ++ L)) H) (hw : ∀ c ∈ w.row, (En.tl c.2).id = none) : Own Φ H0 (b' :: (fo f (F ++ [w]) ++ (b :: L))) H := by
 have h1 : ∀ (row : List (List α × Tail)) (M : List En), (∀ c ∈ row, (En.tl c.2).id = none) → Own Φ H0 M H → Own Φ H0 ((row.map fun c => .tl c.2) ++ M) H := by
  intro row
  induction row with
  | nil => exact fun _ _ h => h
  | cons c row ih => exact fun M hr h => (ih M (fun c hc => hr c (by simp [hc])) h).tl0 (hr c (by simp))
 have h2 := h1 w.row _ hw hO
 refine h2.perm ?_
 rw [fo_app]
 simp only [fo, rwL, List.append_nil]
 generalize w.row.map (fun c => En.tl c.2) = X
 generalize fo f F = Y
 have p1 : (X ++ rwB f w :: b :: b' :: (Y ++ L)).Perm (rwB f w :: X ++ (b :: b' :: (Y ++ L))) := List.perm_middle
 have p2 : (rwB f w :: X ++ (b :: b' :: (Y ++ L))).Perm (b' :: (rwB f w :: X ++ (b :: (Y ++ L)))) :=
  ((List.Perm.swap b' b (Y ++ L)).append_left (rwB f w :: X)).trans List.perm_middle
 refine p1.trans (p2.trans (.cons b' ?_))
 have p3 : (rwB f w :: X ++ (b :: (Y ++ L))).Perm (rwB f w :: X ++ (Y ++ b :: L)) := (List.perm_middle.symm).append_left _
 refine p3.trans ?_
 rw [← List.append_assoc]
 exact (List.perm_append_comm (l₁ := rwB f w :: X) (l₂ := Y)).append_right _
end Go.Ab

namespace Go.Ab
open Go.RowKit
variable [Glob]
def Gst (H : Heap) (v : V) (H' : Heap) (v' : V) : Prop := ∀ g w, Rl g H w → ∃ g', Stp g w g' w ∧ Rl g' H' w ∧ ∀ u, VR g w u v → VR g' w u v'
theorem Gst.refl (H : Heap) (v : V) : Gst H v H v := fun g w h => ⟨g, Stp.refl _ _, h, fun _ h => h⟩
theorem Gst.trans {H H1 H2 : Heap} {v v1 v2 : V} (a : Gst H v H1 v1) (b : Gst H1 v1 H2 v2) : Gst H v H2 v2 := fun g w h => by
 obtain ⟨g1, s1, R1, k1⟩ := a g w h
 obtain ⟨g2, s2, R2, k2⟩ := b g1 w R1
 exact ⟨g2, s1.trans s2, R2, fun u hu => k2 u (k1 u hu)⟩
theorem Gst.tup2 {H H' : Heap} {v v' c : V} (a : Gst H v H' v') : Gst H (.tup [v, c]) H' (.tup [v', c]) := fun g w h => by
 obtain ⟨g1, s1, R1, k1⟩ := a g w h
 refine ⟨g1, s1, R1, fun u hu => ?_⟩
 cases hu with
 | tup hl hv =>
  refine .tup hl fun i hi => ?_
  have := hv i hi
  match i, hi with
  | 0, _ => exact k1 _ this
  | 1, _ => exact this.mono s1
section
variable [Ar] {α : Type} {f : α → V}
end
end Go.Ab

namespace Go.Ab
open Go.RowKit
variable [Glob] [Ar]
section
variable {P : Program} {nt : Nat} {rd : Option Nat} {E : Env} (hE : E = real P nt rd)
include hE
variable {α : Type} {f : α → V} {Φ : Heap → Heap → Prop} {H0 H : Heap} {L : List En} {sz : Nat} {q : OG} {l : List α}
theorem f_oidx (hO : Own Φ H0 L H) (hq : Okn q (Ar.len l)) (i : Nat) {j : Int} {k : Int → Prop} (hi : L[i]? = some (.blk q.id (.arr sz (q.pre ++ Ar.lst f l ++ q.rest)))) (hj : 0 ≤ j ∧ j < (l.length : Nat)) (hk : k (Ar.ofs q.lo j)) : E.oidx H q.id sz q.lo q.n j k :=
 n_oidx hE hO hq i hi (F := fun _ => some ()) (r := ()) (by unfold req inR; rw [if_pos]; rfl; exact decide_eq_true hj) fun _ => hk
theorem f_oload {g : α → V} (hf : ∀ x, f x = g x) (hO : Own Φ H0 L H) (hq : Okn q (Ar.len l)) (i : Nat) {j : Int} {x : α} {k : V → Prop} (hi : L[i]? = some (.blk q.id (.arr sz (q.pre ++ Ar.lst f l ++ q.rest)))) (hj : 0 ≤ j) (hx : l[j.toNat]? = some x) (hk : k (g x)) :
 E.oload H q.id (Ar.ofs q.lo j) k := by
 have hlt : j < (l.length : Nat) := by
  rcases Nat.lt_or_ge j.toNat l.length with h | h
  ·omega
  ·rw [List.getElem?_eq_none h] at hx; cases hx
 exact n_oload hE hf hO hq i hi (F := fun y => some y) (r := x) (by unfold idxL; rw [if_pos hj, hx]; rfl) fun y hy => by cases hy; exact hk
theorem f_ostore {esz tz off : Nat} {y : V} {x' : α} (hu : ∀ x, ∃ y', LeV y y' ∧ y'.one = true ∧ y'.cells.length = tz ∧ putV (f x) esz tz off y' = f x') (hle : off + tz ≤ esz) (hO : Own Φ H0 L H) (hq : Okn q (Ar.len l)) (i : Nat) {j : Int} {k : Heap → Prop}
 (hi : L[i]? = some (.blk q.id (.arr esz (q.pre ++ Ar.lst f l ++ q.rest)))) (hj : 0 ≤ j ∧ j < (l.length : Nat))
 (hk : ∀ H', Own Φ H0 (L.set i (.blk q.id (.arr esz (q.pre ++ Ar.lst f (l.set j.toNat x') ++ q.rest)))) H' → k H') : E.ostore H q.id (Ar.ofs q.lo j) esz tz off y k := by
 obtain ⟨x, hx⟩ : ∃ x, l[j.toNat]? = some x := ⟨l[j.toNat], List.getElem?_eq_getElem (by omega)⟩
 exact n_ostore hE (u := fun _ => x') hu hle hO hq i hi (F := fun l => some l) (r := l.set j.toNat x') (by unfold updL idxL; rw [if_pos hj.1, hx]; rfl) fun l' H' hq' e hO' => by cases e; exact hk H' hO'
theorem n_callX {fid : FuncId} {args : List V} {k Q : V → Heap → Prop} (h : CallA P fid args H Q) (hk : ∀ v H', Q v H' → k v H') : E.call (.func (.func fid) [] []) args H k := by
 subst hE
 refine CallA.value (F := []) (C := []) ?_
 simp only [List.nil_append, List.append_nil]
 exact h.mono hk
end
theorem mkL_some {α : Type} {n m : Int} {z : α} {l : List α} (h : mkL n m z = some l) : l = List.replicate n.toNat z := by
 unfold mkL at h
 split at h
 ·cases h; rfl
 ·cases h
theorem idxL_ok {α : Type} {l : List α} {i : Int} {x : α} (h : idxL l i = some x) : (0 ≤ i ∧ i < (l.length : Nat)) ∧ l[i.toNat]? = some x := by
 unfold idxL at h
 split at h
 ·rename_i h0
  refine ⟨⟨h0, ?_⟩, h⟩
  rcases Nat.lt_or_ge i.toNat l.length with h' | h'
  ·omega
  ·rw [List.getElem?_eq_none h'] at h; cases h
 ·cases h
end Go.Ab

