/- AbF1 AbF2 AbF3 AbB13 AbB14 AbB15 -/
import Derived.Test.YtildiiggamckaaaGreatDoorT28
import Derived.Test.YtildiiggamckaaaGreatDoorT26
set_option linter.all false
namespace Go.Ab
open Go.RowKit
variable [G5] [Ar]
def Xc (e e' : En) : Prop := ∀ id b b', e.id = some (id, b) → e'.id = some (id, b') → False
theorem V2.perm {H0 H : A0} {L L' : List En} (h : V2 H0 L H) (p : L.Perm L') : V2 H0 L' H := by
 have hp : L.Pairwise Xc := by
  rw [List.pairwise_iff_getElem];intro i j hi hj hlt id b b' e1 e2;have := h.inj i j _ _ id b b' (List.getElem?_eq_getElem hi) (List.getElem?_eq_getElem hj) e1 e2;omega
 have hp' : L'.Pairwise Xc := (p.pairwise_iff (fun {x y} (h : Xc x y) id b b' e1 e2 => h id b' b e2 e1)).1 hp
 rw [List.pairwise_iff_getElem] at hp'
 refine ⟨h.ext, fun i e id b hi he => ?_, fun i j e e' id b b' hi hj he he' => ?_, fun x b hx => (h.only x b hx).imp (fun h => h) fun ⟨i, e, h1, h2⟩ => ?_⟩
 ·obtain ⟨j, hj⟩ := List.getElem?_of_mem (p.mem_iff.2 (List.mem_of_getElem? hi));exact h.has j e id b hj he
 ·obtain ⟨hi', ei⟩ := List.getElem?_eq_some_iff.1 hi;obtain ⟨hj', ej⟩ := List.getElem?_eq_some_iff.1 hj
  rcases Nat.lt_trichotomy i j with hlt | heq | hlt
  ·exact (hp' i j hi' hj' hlt id b b' (by rw [ei]; exact he) (by rw [ej]; exact he')).elim
  ·exact heq
  exact (hp' j i hj' hi' hlt id b' b (by rw [ej]; exact he') (by rw [ei]; exact he)).elim
 obtain ⟨j, hj⟩ := List.getElem?_of_mem (p.mem_iff.1 (List.mem_of_getElem? h1));exact ⟨j, e, hj, h2⟩
theorem B4.perm {Φ : A0 → A0 → Prop} {F H : A0} {L L' : List En} (h : B4 Φ F L H) (p : L.Perm L') : B4 Φ F L' H :=
 let ⟨hs, F', H1, h0, h1, h2⟩ := h; ⟨hs, F', H1, h0.perm p, h1, h2⟩
structure Rw (α : Type) where
 q : OG
 row : List (List α × D6)
variable {α : Type} (f : α → V)
def XA (c : List α × D6) : V := .sl (Ar.lst f c.1) c.2
def Qr (w : Rw α) : En := .blk w.q.id (.arr 1 (w.q.pre ++ Ar.lst (XA f) w.row ++ w.q.rest))
def Wp (w : Rw α) : List En := Qr f w :: w.row.map fun c => .tl c.2
def fo : List (Rw α) → List En
 | [] => []
 | w :: F => Wp f w ++ fo F
variable {f}
theorem TO : ∀ (F G : List (Rw α)), fo f (F ++ G) = fo f F ++ fo f G
 | [], _ => rfl
 | w :: F, G => by rw [List.cons_append, fo, fo, TO F G, List.append_assoc]
theorem Oi : ∀ {F : List (Rw α)} {c : Nat} {w : Rw α}, F[c]? = some w → ∃ R, (fo f F).Perm (Wp f w ++ R) ∧ ∀ w', (fo f (F.set c w')).Perm (Wp f w' ++ R)
 | [], _, _, h => by simp at h
 | v :: F, 0, w, h => by
  simp at h; subst h
  exact ⟨fo f F, .refl _, fun w' => .refl _⟩
 | v :: F, c + 1, w, h => by
  obtain ⟨R, h1, h2⟩ := Oi (F := F) (c := c) (w := w) (by simpa using h)
  have key : ∀ (X Y : List En), X.Perm (Y ++ R) → (Wp f v ++ X).Perm (Y ++ (Wp f v ++ R)) := fun X Y hX =>
   (hX.append_left _).trans (by
    rw [← List.append_assoc, ← List.append_assoc]
    exact List.perm_append_comm.append_right R)
  exact ⟨Wp f v ++ R, key _ _ h1, fun w' => key _ _ (h2 w')⟩
theorem Lh : ∀ {row : List (List α × D6)} {i : Nat} {c : List α × D6}, row[i]? = some c → ∃ R, (row.map fun c => En.tl c.2).Perm (.tl c.2 :: R) ∧ ∀ c', ((row.set i c').map fun c => En.tl c.2).Perm (.tl c'.2 :: R)
 | [], _, _, h => by simp at h
 | v :: F, 0, w, h => by
  simp at h; subst h
  exact ⟨F.map fun c => .tl c.2, .refl _, fun w' => .refl _⟩
 | v :: F, i + 1, w, h => by
  obtain ⟨R, h1, h2⟩ := Lh (row := F) (i := i) (c := w) (by simpa using h);exact ⟨.tl v.2 :: R, (h1.cons _).trans (.swap ..), fun w' => ((h2 w').cons _).trans (.swap ..)⟩
theorem PY {F : List (Rw α)} {c i : Nat} {w : Rw α} {x : List α × D6} (hc : F[c]? = some w) (hi : w.row[i]? = some x) :
 ∃ R, (fo f F).Perm (.tl x.2 :: Qr f w :: R) ∧ ∀ x', (fo f (F.set c ⟨w.q, w.row.set i x'⟩)).Perm (.tl x'.2 :: Qr f ⟨w.q, w.row.set i x'⟩ :: R) := by
 obtain ⟨R, h1, h2⟩ := Oi (f := f) hc;obtain ⟨S, k1, k2⟩ := Lh hi
 have key : ∀ (b : En) (X : List En) (t : En), X.Perm (t :: S) → (b :: (X ++ R)).Perm (t :: b :: (S ++ R)) := fun b X t hX =>
  ((hX.append_right R).cons b).trans (.swap ..)
 exact ⟨S ++ R, h1.trans (key _ _ _ k1), fun x' => (h2 _).trans (key _ _ _ (k2 x'))⟩
theorem B4.cell {Φ : A0 → A0 → Prop} {H0 H : A0} {b : En} {L : List En} {F : List (Rw α)} {c i : Nat} {w : Rw α} {x : List α × D6} (hO : B4 Φ H0 (b :: (fo f F ++ L)) H) (hc : F[c]? = some w) (hi : w.row[i]? = some x) :
 ∃ R, B4 Φ H0 (.tl x.2 :: Qr f w :: b :: R) H ∧ ∀ x' H', B4 Φ H0 (.tl x'.2 :: Qr f ⟨w.q, w.row.set i x'⟩ :: b :: R) H' → B4 Φ H0 (b :: (fo f (F.set c ⟨w.q, w.row.set i x'⟩) ++ L)) H' := by
 obtain ⟨R, h1, h2⟩ := PY (f := f) hc hi
 have key : ∀ (X : List En) (t r : En), X.Perm (t :: r :: R) → (b :: (X ++ L)).Perm (t :: r :: b :: (R ++ L)) := fun X t r h =>
  ((h.append_right L).cons b).trans ((List.Perm.swap t b _).trans ((List.Perm.swap r b _).cons t))
 exact ⟨R ++ L, hO.perm (key _ _ _ h1), fun x' H' h => h.perm (key _ _ _ (h2 x')).symm⟩
theorem B4.row {Φ : A0 → A0 → Prop} {H0 H : A0} {b b' : En} {L : List En} {F : List (Rw α)} {w : Rw α} (hO : B4 Φ H0 (Qr f w :: b :: b' :: (fo f F ++ L)) H) (hw : ∀ c ∈ w.row, (En.tl c.2).id = none) : B4 Φ H0 (b' :: (fo f (F ++ [w]) ++ (b :: L))) H := by
 have h1 : ∀ (row : List (List α × D6)) (M : List En), (∀ c ∈ row, (En.tl c.2).id = none) → B4 Φ H0 M H → B4 Φ H0 ((row.map fun c => .tl c.2) ++ M) H := by
  intro row
  induction row with
  | nil => exact fun _ _ h => h
  | cons c row ih => exact fun M hr h => (ih M (fun c hc => hr c (by simp [hc])) h).tl0 (hr c (by simp))
 have h2 := h1 w.row _ hw hO;refine h2.perm ?_;rw [TO];simp only [fo, Wp, List.append_nil];generalize w.row.map (fun c => En.tl c.2) = X;generalize fo f F = Y;have p1 : (X ++ Qr f w :: b :: b' :: (Y ++ L)).Perm (Qr f w :: X ++ (b :: b' :: (Y ++ L))) := List.perm_middle
 have p2 : (Qr f w :: X ++ (b :: b' :: (Y ++ L))).Perm (b' :: (Qr f w :: X ++ (b :: (Y ++ L)))) :=
  ((List.Perm.swap b' b (Y ++ L)).append_left (Qr f w :: X)).trans List.perm_middle
 refine p1.trans (p2.trans (.cons b' ?_));have p3 : (Qr f w :: X ++ (b :: (Y ++ L))).Perm (Qr f w :: X ++ (Y ++ b :: L)) := (List.perm_middle.symm).append_left _;refine p3.trans ?_;rw [← List.append_assoc];exact (List.perm_append_comm (l₁ := Qr f w :: X) (l₂ := Y)).append_right _
end Go.Ab
namespace Go.Ab
open Go.RowKit
variable [G5]
def OO (H : A0) (v : V) (H' : A0) (v' : V) : Prop := ∀ g w, Rl g H w → ∃ g', M4 g w g' w ∧ Rl g' H' w ∧ ∀ u, VR g w u v → VR g' w u v'
theorem OO.refl (H : A0) (v : V) : OO H v H v := fun g w h => ⟨g, M4.refl _ _, h, fun _ h => h⟩
theorem OO.trans {H H1 H2 : A0} {v v1 v2 : V} (a : OO H v H1 v1) (b : OO H1 v1 H2 v2) : OO H v H2 v2 := fun g w h => by
 obtain ⟨g1, s1, R1, k1⟩ := a g w h;obtain ⟨g2, s2, R2, k2⟩ := b g1 w R1;exact ⟨g2, s1.trans s2, R2, fun u hu => k2 u (k1 u hu)⟩
theorem OO.tup2 {H H' : A0} {v v' c : V} (a : OO H v H' v') : OO H (.tup [v, c]) H' (.tup [v', c]) := fun g w h => by
 obtain ⟨g1, s1, R1, k1⟩ := a g w h;refine ⟨g1, s1, R1, fun u hu => ?_⟩
 cases hu with
 | tup hl hv =>
  refine .tup hl fun i hi => ?_;have := hv i hi
  match i, hi with
  | 0, _ => exact k1 _ this
  | 1, _ => exact this.mono s1
theorem OO.agg1 {H H' : A0} {v v' : V} (a : OO H v H' v') : OO H (.agg [v]) H' (.agg [v']) := fun g w h => by
 obtain ⟨g1, s1, R1, k1⟩ := a g w h;refine ⟨g1, s1, R1, fun u hu => ?_⟩
 cases hu with
 | agg hl h1 hv =>
  refine .agg hl h1 fun i hi => ?_;have := hv i hi
  match i, hi with
  | 0, _ => exact k1 _ this
theorem E7.ghost {P : Program} {f : FuncId} {args : List V} {H : A0} {K K' : V → A0 → Prop} (h : E7 P f args H K) (hk : ∀ x H', K x H' → ∃ x' H2, OO H' x H2 x' ∧ K' x' H2) : E7 P f args H K' :=
 fun g w vals hR hA => (h g w vals hR hA).mono fun v w' ⟨g', x, H', s, hR', hv, hK⟩ => by
  obtain ⟨x', H2, hg, hK'⟩ := hk x H' hK;obtain ⟨g2, s2, R2, k2⟩ := hg g' w' hR';exact ⟨g2, x', H2, s.trans s2, R2, k2 v hv, hK'⟩
section
variable [Ar] {α : Type} {f : α → V}
theorem B4.frzG {H0 H : A0} {L : List En} {q : OG} {l : List α} {sz : Nat} (hO : B4 Eq H0 L H) (i : Nat) (hi : L[i]? = some (.blk q.id (.arr sz (q.pre ++ Ar.lst f l ++ q.rest)))) (hq : T6 q (Ar.len l)) :
 ∃ H', OO H (.own q.id q.lo q.n) H' (.sl (Ar.lst f l) .ro) ∧ Dj H0 H' := by
 refine ⟨_, fun g w hR => ?_, (hO.del i hi).ext⟩;obtain ⟨g', s', R', hv⟩ := hR.freezeArr (hO.get i hi);refine ⟨g', s', R', fun u hu => ?_⟩;have := hv u q.lo q.n (hu.mono s')
 rwa [FO hq.1 (by rw [hq.2, Ar.len_eq, I0])] at this
theorem Ks {P : Program} {T : Dm} {f : FuncId} {fn : Func} {c : Code} {n : Nat} {rs : List ResultVar} {args : List V} {r : V} (cf : Cf) (hP : KE P T) (hf : P.funcs[f]? = some fn) (hb : fn.body = some c) (hd : E9 cf c = true)
 (hcall : ∀ vals w, (callFunc f vals).run P w = .ok (.enter f vals) w) (hnt : fn.ntmps = n) (hrs : fn.results.toList = rs) (hn : Nat.ble args.length n = true)
 (h : ∀ (E : CM) (H : A0) (K : V → A0 → Prop), E = E6 P n none → (∀ x L H', B4 Eq H L H' → Y4 x r → K x H') → (∀ x H' x' H2, OO H' x H2 x' → Dj H H2 → Y4 x' r → K x H') → run E T n cf c ⟨Z7 args 0, []⟩ H (Ib E T rs K)) : B6 P f args r := fun H => by
 refine E7.le (E7.ghost (N8 (K := fun x H' => (∃ y H2, Y4 x y ∧ Dj H2 H' ∧ y = r ∧ H2 = H) ∨ ∃ x' H2, OO H' x H2 x' ∧ Dj H H2 ∧ Y4 x' r) cf hP.1 hP.2 hf hb hd hcall hnt hrs hn fun E hE => ?_) ?_)
 ·exact h E H _ hE (fun x L H' hO hx => .inl ⟨r, H, hx, hO.ext, rfl, rfl⟩) fun x H' x' H2 hg hle hx => .inr ⟨x', H2, hg, hle, hx⟩
 rintro x H' (h | ⟨x', H2, hg, hle, hx⟩)
 ·exact ⟨x, H', OO.refl _ _, h⟩
 exact ⟨x', H2, hg, r, H, hx, hle, rfl, rfl⟩
end
end Go.Ab
namespace Go.Ab
open Go.RowKit
variable [G5] [Ar]
section
variable {P : Program} {nt : Nat} {rd : Option Nat} {E : CM} (hE : E = E6 P nt rd)
include hE
variable {α : Type} {f : α → V} {Φ : A0 → A0 → Prop} {H0 H : A0} {L : List En} {sz : Nat} {q : OG} {l : List α}
theorem WJ (hO : B4 Φ H0 L H) (hq : T6 q (Ar.len l)) (i : Nat) {j : Int} {k : Int → Prop} (hi : L[i]? = some (.blk q.id (.arr sz (q.pre ++ Ar.lst f l ++ q.rest)))) (hj : 0 ≤ j ∧ j < (l.length : Nat)) (hk : k (Ar.ofs q.lo j)) : E.oidx H q.id sz q.lo q.n j k :=
 S0 hE hO hq i hi (F := fun _ => some ()) (r := ()) (by unfold Bx Dw; rw [if_pos]; rfl; exact decide_eq_true hj) fun _ => hk
theorem TR {esz tz off : Nat} {y : V} {x' : α} (hu : ∀ x, ∃ y', Y4 y y' ∧ y'.one = true ∧ y'.cells.length = tz ∧ Mu (f x) esz tz off y' = f x') (hle : off + tz ≤ esz) (hO : B4 Φ H0 L H) (hq : T6 q (Ar.len l)) (i : Nat) {j : Int} {k : A0 → Prop}
 (hi : L[i]? = some (.blk q.id (.arr esz (q.pre ++ Ar.lst f l ++ q.rest)))) (hj : 0 ≤ j ∧ j < (l.length : Nat))
 (hk : ∀ H', B4 Φ H0 (L.set i (.blk q.id (.arr esz (q.pre ++ Ar.lst f (l.set j.toNat x') ++ q.rest)))) H' → k H') : E.ostore H q.id (Ar.ofs q.lo j) esz tz off y k := by
 obtain ⟨x, hx⟩ : ∃ x, l[j.toNat]? = some x := ⟨l[j.toNat], List.getElem?_eq_getElem (by omega)⟩
 exact S6 hE (u := fun _ => x') hu hle hO hq i hi (F := fun l => some l) (r := l.set j.toNat x') (by unfold Ba C3; rw [if_pos hj.1, hx]; rfl) fun l' H' hq' e hO' => by cases e; exact hk H' hO'
end
end Go.Ab
namespace Go.Ab
open Go.RowKit
variable [G5] [Ar]
section
variable {P : Program} {nt : Nat} {rd : Option Nat} {E : CM} (hE : E = E6 P nt rd)
include hE
variable {α R : Type} {f : α → V} {Φ : A0 → A0 → Prop} {H0 H : A0} {L : List En} {sz : Nat} {q : OG} {l : List α} {r : R}
theorem RO (hO : B4 Φ H0 L H) (hq : T6 q (Ar.len l)) (i : Nat) (hi : L[i]? = some (.blk q.id (.arr sz (q.pre ++ Ar.lst f l ++ q.rest)))) {lo : Option Int} {k : V → Prop} {F : List α → Option R}
 (h : (Bb l lo none none).bind F = some r) (hk : ∀ x (q' : OG), q'.id = q.id ∧ q'.lo = q.lo + lo.getD 0 ∧ q'.n = q.n - lo.getD 0 → F x = some r → k (.own q'.id q'.lo q'.n)) :
 E.oslice sz H q.id q.lo q.n lo none none k := by
 have hE' := hE;subst hE;obtain ⟨x, h1, h2⟩ := bind_some h
 have hn : q.n = (l.length : Nat) := by rw [hq.2, Ar.len_eq]
 have el := I0 (f := f) l
 unfold Bb at h1
 split at h1
 ·rename_i hc;cases h1;obtain ⟨c1, c2, c3, c4, c5⟩ := hc
  simp only [Option.getD_none] at c2 c3 c4
  refine ⟨_, hO.get i hi, ?_, ?_⟩
  ·rw [hn, hq.1];simp only [List.length_append, el, Option.getD_none];refine ⟨c1, c2, by omega, by omega, fun h => by cases h⟩
  exact hk _ ⟨q.id, q.lo + lo.getD 0, q.n - lo.getD 0, [], []⟩ ⟨rfl, rfl, rfl⟩ h2
 cases h1
theorem NT (hO : B4 Φ H0 L H) (hq : T6 q (Ar.len l)) (i : Nat) (hi : L[i]? = some (.blk q.id (.arr sz (q.pre ++ Ar.lst f l ++ q.rest)))) {q' : OG} {a : Int} (hd : q'.id = q.id ∧ q'.lo = q.lo + a ∧ q'.n = q.n - a) {y : V} {m : List α} {k : V → A0 → Prop} {F : List α × Int → Option R}
 (hs : IR sz H y (Ar.lst f m)) (h : (Oz l a m).bind F = some r) (hk : ∀ p H', T6 q (Ar.len p.1) → B4 Φ H0 (L.set i (.blk q.id (.arr sz (q.pre ++ Ar.lst f p.1 ++ q.rest)))) H' → F p = some r → k (.int .i64 p.2) H') : E.ocopy sz H (.own q'.id q'.lo q'.n) y k := by
 have hn : q.n = (l.length : Nat) := by rw [hq.2, Ar.len_eq]
 have el := I0 (f := f) l;have em := I0 (f := f) m;obtain ⟨p, h1, h2⟩ := bind_some h
 unfold Oz at h1
 split at h1
 ·rename_i hc;cases h1;rw [hd.1, hd.2.1, hd.2.2];refine Hb hE (hO.get i hi) hs (YL := (m.length : Nat)) (by rw [em]) fun n row' hm hrow => ?_
  have e1 : n = (if (l.length : Int) - a < (m.length : Nat) then (l.length : Int) - a else (m.length : Nat)) := by rw [hm, hn]
  have ea : (q.lo + a).toNat = q.pre.length + a.toNat := by rw [hq.1]; omega
  have en : (q.n - a).toNat = l.length - a.toNat := by rw [hn]; omega
  have e2 : row' = q.pre ++ Ar.lst f (l.take a.toNat ++ m.take (l.length - a.toNat) ++ l.drop (a.toNat + m.length)) ++ q.rest := by
   rw [hrow, ea, en, Ar.lst_eq, Ar.lst_eq, Ar.lst_eq];rw [EA (A := q.pre ++ (l.take a.toNat).map f) (B := ((l.drop a.toNat).take m.length).map f) (C := (l.drop (a.toNat + m.length)).map f ++ q.rest) ?_ ?_ ?_]
   ·simp only [List.map_append, List.map_take, List.append_assoc]
   ·have : l = l.take a.toNat ++ ((l.drop a.toNat).take m.length ++ l.drop (a.toNat + m.length)) := by
     rw [← List.drop_drop, List.take_append_drop, List.take_append_drop]
    conv => lhs; rw [this]
    simp only [List.map_append, List.append_assoc]
   ·simp; omega
   simp; omega
  rw [e1, e2];refine hk _ _ ⟨hq.1, ?_⟩ (hO.set i hi) h2;rw [hn, Ar.len_eq];simp only [List.length_append, List.length_take, List.length_drop];omega
 cases h1
theorem Ve (hO : B4 Φ H0 L H) (hq : T6 q (Ar.len l)) (i : Nat) (hi : L[i]? = some (.blk q.id (.arr sz (q.pre ++ Ar.lst f l ++ q.rest)))) {y : V} {m : List α} {k : V → A0 → Prop} {F : List α × Int → Option R}
 (hs : IR sz H y (Ar.lst f m)) (h : (Oz l 0 m).bind F = some r) (hk : ∀ p H', T6 q (Ar.len p.1) → B4 Φ H0 (L.set i (.blk q.id (.arr sz (q.pre ++ Ar.lst f p.1 ++ q.rest)))) H' → F p = some r → k (.int .i64 p.2) H') : E.ocopy sz H (.own q.id q.lo q.n) y k :=
 NT hE hO hq i hi (a := 0) ⟨rfl, by omega, by omega⟩ hs h hk
end
end Go.Ab
namespace Go.Ab
open Go.RowKit
variable [G5] [Ar]
def Gh.lend (g : Gh) (w : World) : Gh := { g with fz := fun b o => ∃ v, w.cell? ⟨b, o, none⟩ = some v, base := w.heap.size }
theorem VR.lend {g : Gh} {w : World} {B : Nat} {F : Nat → Nat → Prop} (hB : g.base ≤ B) (hF : ∀ b o, g.fz b o → F b o) {v : Value} {x : V} (h : VR g w v x) : VR { g with fz := F, base := B } w v x := by
 induction h with
 | bad v => exact .bad v
 | bool b => exact .bool b
 | int k n => exact .int k n
 | str s => exact .str s
 | nilp => exact .nilp
 | nilf => exact .nilf
 | nili => exact .nili
 | nilmap => exact .nilmap
 | map h => exact .map h
 | fmap hb hw hk hn hl hv ih => exact VR.fmap (g := { g with fz := F, base := B }) (Nat.lt_of_lt_of_le hb hB) hw hk hn hl ih
 | ref h => exact .ref h
 | own h h0 h1 h2 hp => exact VR.own (g := { g with fz := F, base := B }) h h0 h1 h2 hp
 | elem h hs => exact VR.elem (g := { g with fz := F, base := B }) h hs
 | eref vs hf hw h1 hv ih => exact .eref vs (fun j hj => hF _ _ (hf j hj)) hw h1 ih
 | sl0 ht => exact .sl0 ht
 | sle ht => exact .sle ht
 | sl vs hn hc hz hf hw h1 hv ht ih => exact .sl vs hn hc hz (fun i j hi hj => hF _ _ (hf i j hi hj)) hw h1 ih (ht.mono fun _ _ e => e)
 | func hl hv hl' hv' ih ih' => exact .func hl ih hl' ih'
 | yield h => exact .yield h
 | iface h ih => exact .iface ih
 | agg hl h1 hv ih => exact .agg hl h1 ih
 | tup hl hv ih => exact .tup hl ih
theorem Rl.lend {g : Gh} {H : A0} {w : World} (h : Rl g H w) : Rl (g.lend w) (fun _ => none) w := by
 refine ⟨fun id b hb => (by cases hb), fun id id' b h1 _ => (by simp [Gh.at] at h1), fun b o hf => hf, fun id hi => ⟨(h.nxt id hi).1, (h.nxt id hi).2.1, rfl⟩, Nat.le_refl _, fun n => (h.glb n).lend h.bnd fun b o hf => h.frz b o hf⟩
theorem Rl.lendOwn {g : Gh} {H : A0} {w : World} (h : Rl g H w) {id sz : Nat} {xs : List V} (hk : H id = some (.arr sz xs)) {v : Value} {lo n : Int} (hv : VR g w v (.own id lo n)) : VR (g.lend w) w v (.sl (G3 xs lo n) .ro) := by
 obtain ⟨g', ⟨e1, e2, e3⟩, s, hR, hw⟩ := h.freezeArr' hk;have := (hw v lo n (hv.mono s)).lend (F := fun b o => ∃ v, w.cell? ⟨b, o, none⟩ = some v) (B := w.heap.size) hR.bnd fun b o hf => hR.frz b o hf
 have e : ({ g' with fz := fun b o => ∃ v, w.cell? ⟨b, o, none⟩ = some v, base := w.heap.size } : Gh) = { (g.lend w) with nx := g'.nx } := by
  simp only [Gh.lend, Gh.mk.injEq, and_true];exact ⟨e1, e3, e2⟩
 rw [e] at this
 exact VR.nxt this
where
 VR.nxt {g : Gh} {w : World} {n : Nat} {v : Value} {x : V} (h : VR { g with nx := n } w v x) : VR g w v x := by
  generalize hg : ({ g with nx := n } : Gh) = g1 at h
  have hmu : g1.mu = g.mu := by rw [← hg]
  have htk : g1.tk = g.tk := by rw [← hg]
  have hfz : g1.fz = g.fz := by rw [← hg]
  have how : g1.ow = g.ow := by rw [← hg]
  have hba : g1.base = g.base := by rw [← hg]
  clear hg
  induction h with
  | bad v => exact .bad v
  | bool b => exact .bool b
  | int k n => exact .int k n
  | str s => exact .str s
  | nilp => exact .nilp
  | nilf => exact .nilf
  | nili => exact .nili
  | nilmap => exact .nilmap
  | map h => exact .map (hmu ▸ h)
  | fmap hb hw hk hn hl hv ih => exact .fmap (hba ▸ hb) hw hk hn hl ih
  | ref h => exact .ref (hmu ▸ h)
  | own h h0 h1 h2 hp => rw [how] at h2 hp ⊢; exact VR.own (hmu ▸ h) h0 h1 h2 hp
  | elem h hs => rw [how] at hs ⊢; exact VR.elem (hmu ▸ h) hs
  | eref vs hf hw h1 hv ih => exact .eref vs (fun j hj => hfz ▸ hf j hj) hw h1 ih
  | sl0 ht => exact .sl0 ht
  | sle ht => exact .sle ht
  | sl vs hn hc hz hf hw h1 hv ht ih => exact .sl vs hn hc hz (fun i j hi hj => hfz ▸ hf i j hi hj) hw h1 ih (ht.mono fun _ _ e => htk ▸ e)
  | func hl hv hl' hv' ih ih' => exact .func hl ih hl' ih'
  | yield h => exact .yield (hmu ▸ h)
  | iface h ih => exact .iface ih
  | agg hl h1 hv ih => exact .agg hl h1 ih
  | tup hl hv ih => exact .tup hl ih
def Tb : V → Bool
 | .bool _ => true
 | .int _ _ => true
 | .str _ => true
 | _ => false
inductive GP : V → Prop
 | bool (b : Bool) : GP (.bool b)
 | int (k : IntKind) (n : Int) : GP (.int k n)
 | str (s : ByteArray) : GP (.str s)
 | agg {cs : List V} (h : cs.all Tb = true) : GP (.agg cs)
 | tup2 {x y : V} (h : GP x) (k : GP y) : GP (.tup [x, y])
 | tup3 {x y z : V} (h : GP x) (k : GP y) (m : GP z) : GP (.tup [x, y, z])
theorem GP.any {x : V} (h : GP x) : ∀ {g g' : Gh} {w w' : World} {v : Value}, VR g w v x → VR g' w' v x := by
 induction h with
 | bool b => intro g g' w w' v h; cases h; exact .bool b
 | int k n => intro g g' w w' v h; cases h; exact .int k n
 | str s => intro g g' w w' v h; cases h; exact .str s
 | @agg cs hp =>
  intro g g' w w' v h
  cases h with
  | agg hl h1 hv =>
   refine .agg hl h1 fun i hi => ?_;have hvi := hv i hi;have hm := List.all_eq_true.1 hp _ (List.getElem_mem hi)
   rw [show cs.getD i .bad = cs[i] by rw [List.getD_eq_getElem?_getD, List.getElem?_eq_getElem hi]; rfl] at hvi ⊢
   generalize cs[i] = c at hvi hm ⊢
   generalize Array.getD _ i undef = u at hvi ⊢
   cases c <;> simp only [Tb, Bool.false_eq_true] at hm <;> cases hvi <;> constructor
 | tup2 _ _ ih1 ih2 =>
  intro g g' w w' v h
  cases h with
  | tup hl hv =>
   refine .tup hl fun i hi => ?_
   match i with
   | 0 => exact ih1 (hv 0 hi)
   | 1 => exact ih2 (hv 1 hi)
   | i + 2 => simp at hi; omega
 | tup3 _ _ _ ih1 ih2 ih3 =>
  intro g g' w w' v h
  cases h with
  | tup hl hv =>
   refine .tup hl fun i hi => ?_
   match i with
   | 0 => exact ih1 (hv 0 hi)
   | 1 => exact ih2 (hv 1 hi)
   | 2 => exact ih3 (hv 2 hi)
   | i + 3 => simp at hi; omega
inductive ES (H : A0) : List V → List V → Prop
 | nil : ES H [] []
 | le {x y : V} {xs ys : List V} (h : Y4 x y) (k : ES H xs ys) : ES H (x :: xs) (y :: ys)
 | fm {id : Nat} {ks : List Int} {zs xs ys : List V} (h : H id = some (.fm ks zs)) (k : ES H xs ys) : ES H (.map id :: xs) (.fmap ks zs :: ys)
 | agg {us ws xs ys : List V} (h : ES H us ws) (k : ES H xs ys) : ES H (.agg us :: xs) (.agg ws :: ys)
 | own {id sz : Nat} {zs : List V} {lo n : Int} {xs ys : List V} (h : H id = some (.arr sz zs)) (k : ES H xs ys) : ES H (.own id lo n :: xs) (.sl (G3 zs lo n) .ro :: ys)
theorem ES.length {H : A0} {xs ys : List V} (h : ES H xs ys) : xs.length = ys.length := by
 induction h with
 | nil => rfl
 | le _ _ ih => simp [ih]
 | fm _ _ ih => simp [ih]
 | agg _ _ _ ih => simp [ih]
 | own _ _ ih => simp [ih]
theorem ES.at {g : Gh} {H : A0} {w : World} (hR : Rl g H w) {xs ys : List V} (h : ES H xs ys) : ∀ (vals : Nat → Value), (∀ i, i < xs.length → VR g w (vals i) (xs.getD i .bad)) → ∀ i, i < ys.length → VR (g.lend w) w (vals i) (ys.getD i .bad) := by
 induction h with
 | nil => intro _ _ i hi; simp at hi
 | le h k ih =>
  intro vals hv i hi
  cases i with
  | zero => exact ((hv 0 (by simp)).le h).lend hR.bnd fun b o hf => hR.frz b o hf
  | succ i => exact ih (fun i => vals (i + 1)) (fun i hi => by simpa using hv (i + 1) (by simpa using hi)) i (by simpa using hi)
 | fm h k ih =>
  intro vals hv i hi
  cases i with
  | zero =>
   have h0 := hv 0 (by simp)
   simp only [List.getD_cons_zero] at h0 ⊢
   generalize vals 0 = u at h0
   cases h0 with
   | map hm =>
    obtain ⟨b, es, clock, k1, k2, k3, k4, k5, k6, k7⟩ := hR.blk _ _ h
    rw [hm] at k1; cases k1
    exact VR.fmap (g := Gh.lend _ _) (JQ k3) k3 k4 k5 k6 fun i e hi => (k7 i e hi).lend hR.bnd fun b o hf => hR.frz b o hf
  | succ i => exact ih (fun i => vals (i + 1)) (fun i hi => by simpa using hv (i + 1) (by simpa using hi)) i (by simpa using hi)
 | agg h k ih1 ih =>
  intro vals hv i hi
  cases i with
  | zero =>
   have h0 := hv 0 (by simp)
   simp only [List.getD_cons_zero] at h0 ⊢
   generalize vals 0 = u at h0
   cases h0 with
   | agg hl h1 hv1 =>
    have e := h.length;exact .agg (hl.trans e) (fun i hi => h1 i (by omega)) fun i hi => ih1 (fun i => Array.getD _ i undef) hv1 i hi
  | succ i => exact ih (fun i => vals (i + 1)) (fun i hi => by simpa using hv (i + 1) (by simpa using hi)) i (by simpa using hi)
 | own h k ih =>
  intro vals hv i hi
  cases i with
  | zero => exact hR.lendOwn h (hv 0 (by simp))
  | succ i => exact ih (fun i => vals (i + 1)) (fun i hi => by simpa using hv (i + 1) (by simpa using hi)) i (by simpa using hi)
theorem B6.lent {P : Program} {f : FuncId} {ys : List V} {r : V} (c : B6 P f ys r) (hr : GP r) {H : A0} {xs : List V} (hl : ES H xs ys) : E7 P f xs H fun x H' => x = r ∧ H' = H := by
 intro g w vals hR hA;have hA2 : Args (g.lend w) w vals ys := ⟨hA.1.trans hl.length, hl.at hR (fun i => vals.getD i undef) hA.2⟩;refine (c _ _ w vals hR.lend hA2).mono fun v w' ⟨g', x, H', s, hR', hv, e1, e2⟩ => ?_;subst e1;have hb : Below w.heap.size w w' := s.low;have sg : M4 g w g w' := ⟨fun _ _ e => e, fun _ _ e => e, fun _ _ e => e, rfl, fun b o hf => hb.cell (hR.fz_lt hf), hb.mono hR.bnd, fun _ _ _ => rfl⟩;refine ⟨g, x, H, sg, ⟨fun id b hk => (hR.blk id b hk).mono hk sg fun y hy => ⟨hb.block _ (hR.lt hy), fun _ ho => ho⟩, hR.inj, fun b o hf => ?_, hR.nxt, Nat.le_trans hR.bnd hb.size, fun n => (hR.glb n).mono sg⟩, hr.any hv, rfl, rfl⟩;obtain ⟨u, hu⟩ := hR.frz b o hf;exact ⟨u, (hb.cell (hR.fz_lt hf)).trans hu⟩
section
variable {P : Program} {nt : Nat} {rd : Option Nat} {T : Dm} {E : CM}
variable (hE : E = E6 P nt rd)
include hE
theorem Vg {R S : Type} {m : Option S} {F : S → Option R} {r : R} {f : FuncId} {args args' : List V} {g : S → V} {H : A0} {k : V → A0 → Prop} (h : m.bind F = some r) (hc : ∀ x, m = some x → B6 P f args' (g x)) (hs : ∀ x, GP (g x)) (hl : ES H args args')
 (hk : ∀ x, F x = some r → k (g x) H) : E.call (.func (.func f) [] []) args H k := by
 subst hE;obtain ⟨x, h1, h2⟩ := bind_some h;refine E7.value (F := []) (C := []) ?_;simp only [List.nil_append, List.append_nil]
 exact ((hc x h1).lent (hs x) hl).mono fun v H' ⟨e1, e2⟩ => by subst e1; subst e2; exact hk x h2
theorem TA {α : Type} {f : α → V} {Φ : A0 → A0 → Prop} {H0 H : A0} {L : List En} {sz : Nat} {q : OG} {l : List α} (hO : B4 Φ H0 L H) (hq : T6 q (Ar.len l)) (i : Nat) (hi : L[i]? = some (.blk q.id (.arr sz (q.pre ++ Ar.lst f l ++ q.rest)))) {xs ys : List V} (k : ES H xs ys) :
 ES H (.own q.id q.lo q.n :: xs) (.sl (Ar.lst f l) .ro :: ys) := by
 have := ES.own (lo := q.lo) (n := q.n) (hO.get i hi) k
 rwa [FO hq.1 (by rw [hq.2, Ar.len_eq, I0])] at this
end
end Go.Ab
namespace Go.Ab
open Go.RowKit
variable [G5] [Ar]
theorem B4.swp {Φ : A0 → A0 → Prop} {F H : A0} {L : List En} (h : B4 Φ F L H) (a b : Nat) {x y : En} (ha : L[a]? = some x) (hb : L[b]? = some y) : B4 Φ F ((L.set a y).set b x) H := by
 obtain ⟨h1, e1⟩ := List.getElem?_eq_some_iff.1 ha;obtain ⟨h2, e2⟩ := List.getElem?_eq_some_iff.1 hb;subst e1; subst e2;exact h.perm (List.set_set_perm h1 h2).symm
end Go.Ab
