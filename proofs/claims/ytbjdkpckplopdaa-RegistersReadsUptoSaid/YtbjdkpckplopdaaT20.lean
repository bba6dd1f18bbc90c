/- AbP1 AbP2 -/
import Derived.Test.YtbjdkpckplopdaaT18
set_option linter.all false

namespace Go.Ab
open Go.RowKit
variable [Glob]
def lay (c : Array Value) (A sz : Nat) (f : Nat → Value) : Array Value := (c.toList.take A ++ (List.range sz).map f ++ c.toList.drop (A + sz)).toArray
theorem lay_size {c : Array Value} {A sz : Nat} {f : Nat → Value} (h : A + sz ≤ c.size) : (lay c A sz f).size = c.size := by simp [lay]; omega
theorem lay_lay {c : Array Value} {A sz : Nat} {f f' : Nat → Value} (h : A + sz ≤ c.size) : lay (lay c A sz f) A sz f' = lay c A sz f' := by
 have e1 : (lay c A sz f).toList.take A = c.toList.take A := by
  simp only [lay, List.append_assoc]
  rw [List.take_append_of_le_length (by simp; omega), List.take_take]; simp
 have e2 : (lay c A sz f).toList.drop (A + sz) = c.toList.drop (A + sz) := by
  simp only [lay]
  rw [List.drop_append_of_le_length (by simp; omega)]
  rw [List.drop_of_length_le (by simp; omega)]; simp
 unfold lay at e1 e2 ⊢
 rw [e1, e2]
theorem lay_get {c : Array Value} {A sz : Nat} {f : Nat → Value} (h : A + sz ≤ c.size) {k : Nat} (hk : k < c.size) : (lay c A sz f)[k]? = if A ≤ k ∧ k < A + sz then some (f (k - A)) else c[k]? := by
 have := (lay_row (vs := (List.range sz).map f) (m := sz) (A := A) (c := c) (by simp) h rfl).2 k hk
 rw [show lay c A sz f = (c.toList.take A ++ (List.range sz).map f ++ c.toList.drop (A + sz)).toArray from rfl, this]
 split
 ·rename_i hc; rw [List.getElem?_map, List.getElem?_range (by omega)]; rfl
 ·rfl
theorem setRow_setRow (w : World) (b : Nat) (c c' : Array Value) : (w.setRow b c).setRow b c' = w.setRow b c' := by
 simp only [World.setRow, World.mk.injEq, and_true]
 apply Array.ext
 ·simp
 ·intro i h1 h2
  simp only [Array.getElem_modify]
  split
  ·cases w.heap[i]'(by simpa using h1) <;> rfl
  ·rfl
theorem setRow_comm (w : World) {b b' : Nat} (c c' : Array Value) (h : b ≠ b') : (w.setRow b c).setRow b' c' = (w.setRow b' c').setRow b c := by
 simp only [World.setRow, World.mk.injEq, and_true]
 apply Array.ext
 ·simp
 ·intro i h1 h2
  simp only [Array.getElem_modify]
  by_cases e1 : b = i <;> by_cases e2 : b' = i
  ·omega
  ·simp [e1, e2]
  ·simp [e1, e2]
  ·simp [e1, e2]
theorem alloc_setRow (w : World) (C C' : Array Value) (e : TypeId) : (w.alloc (.cells C e)).setRow w.heap.size C' = w.alloc (.cells C' e) := by
 simp only [World.alloc, World.setRow, World.mk.injEq, and_true]
 apply Array.ext
 ·simp
 ·intro i h1 h2
  simp only [Array.getElem_modify, Array.getElem_push]
  have : i < w.heap.size + 1 := by simpa using h2
  by_cases e : w.heap.size = i
  ·subst e; simp
  ·rw [if_neg e]
   have : i < w.heap.size := by omega
   simp [this]
section
variable {P : Program} {H : Heap}
theorem storeCells_lay {w : World} {b A sz : Nat} {c : Array Value} {T : TypeId} {f : Nat → Value} (hw : w.heap[b]? = some (.cells c T (0, 0))) (h : A + sz ≤ c.size) (hf : ∀ j, j < sz → (f j).oneCell' = true) :
 (storeCells ⟨b, A, none⟩ ((List.range sz).map f)).run P w = .ok () (w.setRow b (lay c A sz f)) := by
 have := run_storeCells_at P b A T ((List.range sz).map f) 0 c w hw (by simp; omega) (by
  intro v hv
  obtain ⟨k, hk, rfl⟩ := List.mem_map.1 hv
  exact hf k (List.mem_range.1 hk))
 simpa [lay] using this
theorem append_one {g : Gh} {w : World} (hR : Rl g H w) {sT yT e ty : TypeId} {sz by_ : Nat} {z : V} {xs : List V} {tl : Tail} {vs : Value} (hvs : VR g w vs (.sl xs tl)) (he : slO P sT = some e) (hyT : (slO P yT).isSome = true) (hsz : szO P e = some sz) (hpos : 0 < sz) (hby : byO P e = some by_) (hbp : 0 < by_)
 (hz : zeO P e = some z) (hz1 : z.one = true) (hzl : z.cells.length = sz) (hA : AppOk H tl) (hax : xs.all (fun x => x.cells.length == sz) = true) (hbound : (xs.length + 1) * by_ ≤ 140737488355328) :
 ∃ (b off G : Nat) (W : (Nat → Value) → World) (C : (Nat → Value) → Array Value) (T : TypeId),
  (∀ (y0 : V) (tl' : Tail) (vy : Value), VR g w vy (.sl [y0] tl') → y0.cells.length = sz → ∃ f0, (∀ j, j < sz → (f0 j).oneCell' = true) ∧ (Builtin.append_ #[sT, yT] ty #[vs, vy]).run P w = .ok (.slice (some ⟨b, off, none⟩) (xs.length + 1) G) (W f0)) ∧
  xs.length + 1 ≤ G ∧
  (∀ f, (W f).heap[b]? = some (.cells (C f) T (0, 0)) ∧ off + xs.length * sz + sz ≤ (C f).size) ∧
  (∀ f f', (W f).setRow b (lay (C f) (off + xs.length * sz) sz f') = W f') ∧
  (∀ x, x ≠ b → x < w.heap.size → ∀ f, (W f).heap[x]? = w.heap[x]?) ∧
  (∀ id x, g.at (dropTok H tl) id = some x → x ≠ b) ∧
  (∀ (vV : V) (f : Nat → Value), vV.cells.length = sz → (∀ j, j < sz → (f j).oneCell' = true ∧ VR g w (f j) (vV.cells.getD j .bad)) →
   ∃ g' t, Stp g w g' (W f) ∧ dropTok H tl t = none ∧ Rl g' (upd (dropTok H tl) t (some .spare)) (W f) ∧ VR g' (W f) (.slice (some ⟨b, off, none⟩) (xs.length + 1) G) (.sl (xs ++ [vV]) (.tok t))) := by
 obtain ⟨base, cap, fs, es, hcap, hfs, hrs, hbs⟩ := slice_cells (P := P) hvs hax
 have hu := slO_some he
 obtain ⟨e', hyT'⟩ := Option.isSome_iff_exists.1 hyT
 have huy := slO_some hyT'
 obtain ⟨zv, ez, hzv⟩ := zeO_run hz
 have hzr : VR g w zv z := by rw [ez]; exact cv_rel g w zv
 have hzs : zv.cells.size = sz := by rw [(hzr.cells hz1).1, hzl]
 have hbytes : ∀ w, (typeInfo e).run P w = .ok ((P.info? e).getD default) w ∧ ((P.info? e).getD default).bytes = by_ := by
  intro w
  unfold byO at hby
  cases hi : P.info? e with
  | none => simp [hi] at hby
  | some i => simp [hi] at hby; simp [typeInfo, hi, hby]
 have hbi : ∀ w, (typeInfo e).run P w = .ok ((P.info? e).getD default) w := fun w => (hbytes w).1
 have hbb := (hbytes w).2
 have hR1 : Rl g (dropTok H tl) w := hR.less fun id b hb => dropTok_some hb
 have hlenx := getD_of_all hax
 have hlenxy : ∀ (vV : V), vV.cells.length = sz → ∀ i, i < xs.length + 1 → ((xs ++ [vV]).getD i .bad).cells.length = sz := fun vV hv i hi => by
  rw [getD_append]; split
  ·exact hlenx i (by assumption)
  ·rw [show i - xs.length = 0 by omega]; exact hv
 have hsrc : ∀ (y0 : V) (tl' : Tail) (vy : Value), VR g w vy (.sl [y0] tl') → y0.cells.length = sz → ∃ ybase ycap f0, vy = .slice ybase 1 ycap ∧ (∀ j, j < sz → (f0 j).oneCell' = true) ∧
  ∀ w' : World, (∀ b o, w'.cell? ⟨b, o, none⟩ = w.cell? ⟨b, o, none⟩) → (Builtin.firstCells sz 1 vy).run P w' = .ok ((List.range sz).map f0).toArray w' := fun y0 tl' vy hvy hy0 => by
  obtain ⟨ybase, ycap, fy, ey, _, hfy, hry, _⟩ := slice_cells (P := P) (sz := sz) hvy (by simp [hy0])
  refine ⟨ybase, ycap, fun j => fy 0 j, ey, fun j hj => (hfy 0 j (by simp) hj).1, fun w' hw' => ?_⟩
  have := hry w' hw'
  simp only [List.length_singleton, Nat.one_mul] at this
  rw [this]
  refine congrArg (fun l : List Value => Result.ok l.toArray w') (List.map_congr_left fun k hk => ?_)
  have hk' := List.mem_range.1 hk
  rw [Nat.div_eq_of_lt hk', Nat.mod_eq_of_lt hk']
 have hvals : ∀ (vV : V) (f : Nat → Value), (∀ j, j < sz → (f j).oneCell' = true ∧ VR g w (f j) (vV.cells.getD j .bad)) → ∀ (g' : Gh) (w' : World), Stp g w g' w' → ∀ i j, i < xs.length + 1 → j < sz → (if i < xs.length then fs i j else f j).oneCell' = true ∧
  VR g' w' (if i < xs.length then fs i j else f j) (((xs ++ [vV]).getD i .bad).cells.getD j .bad) := by
  intro vV f hf g' w' st i j hi hj
  rw [getD_append]
  split
  ·rename_i hlt; exact ⟨(hfs i j hlt hj).1, (hfs i j hlt hj).2.mono st⟩
  ·rw [show i - xs.length = 0 by omega]
   exact ⟨(hf j hj).1, (hf j hj).2.mono st⟩
 have hn63 : ¬ (IntKind.i64.max < ((xs.length + 1 : Nat) : Int) ∧ (False ∨ by_ = 0)) := by
  rintro ⟨_, hF | hF⟩
  ·exact hF
  ·omega
 by_cases hc : xs.length + 1 ≤ cap
 ·
  rcases hbs with ⟨hx0, hc0 | hc0, _⟩ | ⟨b, q, hbase, hcell, _, sz', hsz', htl⟩
  ·subst hx0; simp at hc; omega
  ·subst hc0; exact hA.elim
  ·cases tl with
   | nil => exact htl.elim
   | ro => exact hA.elim
   | full => simp only [TailOk] at htl; omega
   | tok t =>
    obtain ⟨hn0, lim, ht1, ht2⟩ := htl
    have := hsz' hn0
    subst this
    have hA' : H t = some .spare := hA
    obtain ⟨b2, e2, lim2, c, T, k1, k2, k3, k4, k5, k6⟩ := hR.blk t _ hA'
    rw [ht1] at k1
    simp only [Option.some.injEq, Prod.mk.injEq] at k1
    obtain ⟨rfl, rfl, rfl⟩ := k1
    have hcapsz : (xs.length + 1) * sz' ≤ cap * sz' := Nat.mul_le_mul_right _ hc
    have hadd : (xs.length + 1) * sz' = xs.length * sz' + sz' := by rw [Nat.add_mul, Nat.one_mul]
    have hfit : q + xs.length * sz' + sz' ≤ c.size := by omega
    have hnown : ∀ id x, g.at (dropTok H (.tok t)) id = some x → x ≠ b := by
     rintro id x hid rfl
     have hat : g.at H t = some x := by simp [Gh.at, hA', ht1]
     by_cases hid' : id = t
     ·subst hid'; simp [Gh.at, dropTok, upd_same] at hid
     ·have : g.at H id = some x := by simpa only [Gh.at, dropTok, upd_other _ _ hid'] using hid
      exact hid' (hR.inj _ _ _ this hat)
    refine ⟨b, q, cap, fun f => w.setRow b (lay c (q + xs.length * sz') sz' f), fun f => lay c (q + xs.length * sz') sz' f, T, fun y0 tl' vy hvy hy0 => ?_, hc, fun f => ?_, fun f f' => ?_, fun x hx _ f => heap_setRow_other w b _ x hx, hnown, fun vV f hv hf => ?_⟩
    ·obtain ⟨ybase, ycap, f0, ey, hf0, hry⟩ := hsrc y0 tl' vy hvy hy0
     refine ⟨f0, hf0, ?_⟩
     have hst := storeCells_lay (P := P) (f := f0) k3 hfit hf0
     have hry' := hry w fun _ _ => rfl
     rw [ey] at hry' ⊢
     rw [es, hbase]
     simp only [Builtin.append_, Sem.run_bind, run_underlying hu, Result.andThen_ok, run_szO hsz, run_underlying huy, Sem.run_pure, Builtin.lenOf, Sem.run_ite, List.getElem?_toArray,
      List.getElem?_cons_zero, List.getElem?_cons_succ, Bool.false_eq_true, if_false, Bool.not_false, if_true, if_pos hc, hry', addr_add, hst]
    ·exact ⟨setRow_heap w b c _ T (0, 0) k3, by rw [lay_size hfit]; exact hfit⟩
    ·rw [setRow_setRow, lay_lay hfit]
    ·dsimp only
     have hCg : ∀ k, k < c.size → (lay c (q + xs.length * sz') sz' f)[k]? = if q + xs.length * sz' ≤ k ∧ k < q + xs.length * sz' + sz' then some (f (k - (q + xs.length * sz'))) else c[k]? := fun k hk => lay_get hfit hk
     generalize hC : lay c (q + xs.length * sz') sz' f = C at hCg
     have hCs : C.size = c.size := by rw [← hC]; exact lay_size hfit
     have hcellp : ∀ x o, g.fz x o → (w.setRow b C).cell? ⟨x, o, none⟩ = w.cell? ⟨x, o, none⟩ := by
      intro x o hf
      by_cases hx : x = b
      ·subst hx
       have ho : o < q + xs.length * sz' := by
        rcases Nat.lt_or_ge o (q + xs.length * sz') with h | h
        ·exact h
        ·exact absurd hf (k6 o h)
       have hw' : (w.setRow x C).heap[x]? = some (.cells C T (0, 0)) := setRow_heap w x c C T (0, 0) k3
       simp only [World.cell?, hw', k3, Option.isSome_none, Bool.false_eq_true, if_false]
       rw [hCg o (by omega), if_neg (by omega)]
      ·exact cell_setRow_other w b C x o hx
     have hbel : Below g.base w (w.setRow b C) := below_setRow w b C k2
     have hRn := Rl.tok (e0 := q + xs.length * sz') (e := q + (xs.length + 1) * sz') (lim := c.size) hR1 k2 (setRow_heap w b c C T (0, 0) k3) hCs (by omega) k6 (by omega) hcellp hbel
      (fun x hx _ => heap_setRow_other w b C x hx) (fun id hid => hnown id _ hid rfl)
     have hStp := Stp.tok hR1 b (q + xs.length * sz') (q + (xs.length + 1) * sz') c.size hcellp hbel
     refine ⟨_, g.nx, hStp, (hR1.nxt _ (Nat.le_refl _)).2.2, hRn, ?_⟩
     refine .sl (sz := sz') (fun i j => if i < xs.length then fs i j else f j) (by simp) hc (fun i hi => hlenxy vV hv i hi) (fun i j hi hj => ?_) (fun i j hi hj => ?_)
      (fun i j hi hj => (hvals vV f hf _ _ hStp i j hi hj).1) (fun i j hi hj => (hvals vV f hf _ _ hStp i j hi hj).2) ?_
     ·by_cases hix : i < xs.length
      ·exact .inl (hcell i j hix hj).1
      ·have h2 := at_lt hi hj
       have h1 : xs.length * sz' ≤ i * sz' := Nat.mul_le_mul_right _ (by omega)
       exact .inr ⟨rfl, by omega, by omega⟩
     ·have h2 := at_lt hi hj
      have hw' : (w.setRow b C).heap[b]? = some (.cells C T (0, 0)) := setRow_heap w b c C T (0, 0) k3
      by_cases hix : i < xs.length
      ·rw [if_pos hix]
       exact (hcellp b _ (hcell i j hix hj).1).trans (hcell i j hix hj).2
      ·rw [if_neg hix]
       have h1 : i = xs.length := by omega
       subst h1
       simp only [World.cell?, hw', Option.isSome_none, Bool.false_eq_true, if_false]
       rw [hCg _ (by omega), if_pos (by omega), show q + xs.length * sz' + j - (q + xs.length * sz') = j by omega]
     ·refine ⟨by omega, c.size, ?_, by omega⟩
      simp [Gh.tok]
 ·
  have hnf : ¬ (2 ^ 48 < Builtin.nextslicecap (xs.length + 1) cap * by_) := by
   have := growslice_fits (Nat.lt_of_not_le hc) hbound; omega
  have hdr : ∀ b o, w.drew.cell? ⟨b, o, none⟩ = w.cell? ⟨b, o, none⟩ := fun _ _ => rfl
  generalize hG : grownCap w (xs.length + 1) cap e = G
  have hGe : xs.length + 1 ≤ G := by rw [← hG]; exact grownCap_ge w _ _ _
  have hGs : (xs.length + 1) * sz ≤ G * sz := Nat.mul_le_mul_right _ hGe
  have hadd : (xs.length + 1) * sz = xs.length * sz + sz := by rw [Nat.add_mul, Nat.one_mul]
  generalize hO : ((List.range (xs.length * sz)).map fun k => fs (k / sz) (k % sz)) = O at *
  have hOl : O.length = xs.length * sz := by rw [← hO]; simp
  generalize hZ : Builtin.zeroCells zv.cells (G - (xs.length + 1)) = Z at *
  have hZs : Z.size = G * sz - (xs.length + 1) * sz := by rw [← hZ, size_zeroCells, hzs, Nat.sub_mul]
  have hCs : ∀ f : Nat → Value, (O.toArray ++ ((List.range sz).map f).toArray ++ Z).size = G * sz := fun f => by
   simp only [Array.size_append, List.size_toArray, List.length_map, List.length_range, hOl, hZs]; omega
  have hCg : ∀ (f : Nat → Value) k, k < (xs.length + 1) * sz → (O.toArray ++ ((List.range sz).map f).toArray ++ Z)[k]? = some (if k < xs.length * sz then fs (k / sz) (k % sz) else f (k - xs.length * sz)) := by
   intro f k hk
   rw [Array.getElem?_append, if_pos (by simp [hOl]; omega), Array.getElem?_append]
   simp only [List.size_toArray, hOl, List.getElem?_toArray, List.getElem?_map]
   split
   ·rw [← hO, List.getElem?_map, List.getElem?_range (by assumption)]; rfl
   ·rw [List.getElem?_range (by omega)]; rfl
  refine ⟨w.heap.size, 0, G, fun f => w.drew.alloc (.cells (O.toArray ++ ((List.range sz).map f).toArray ++ Z) e), fun f => O.toArray ++ ((List.range sz).map f).toArray ++ Z, e, fun y0 tl' vy hvy hy0 => ?_, hGe, fun f => ⟨heap_new (w := w.drew), by rw [hCs]; omega⟩, fun f f' => ?_,
   fun x hx hlt f => heap_alloc (w := w.drew) hlt, fun id x hid e => absurd (e ▸ hR1.lt hid) (Nat.lt_irrefl _), fun vV f hv hf => ?_⟩
  ·obtain ⟨ybase, ycap, f0, ey, hf0, hry⟩ := hsrc y0 tl' vy hvy hy0
   refine ⟨f0, hf0, ?_⟩
   have hGd : (Question.appendCap (xs.length + 1) cap e).cut (w.tape w.drawn (.appendCap (xs.length + 1) cap e)) = G := hG
   have hf : (Question.appendCap (xs.length + 1) cap e).forced = false := rfl
   have hrs' := hrs w.drew hdr
   have hry' := hry w.drew hdr
   rw [es] at hrs' ⊢; rw [ey] at hry' ⊢
   simp only [Builtin.append_, Sem.run_bind, run_underlying hu, Result.andThen_ok, run_szO hsz, run_underlying huy, Sem.run_pure, Builtin.lenOf, Sem.run_ite, hbi, hbb, List.getElem?_toArray,
    List.getElem?_cons_zero, List.getElem?_cons_succ, Bool.false_eq_true, if_false, Bool.not_false, if_true, gt_iff_lt, false_or, if_neg hc, if_neg hnf, run_choose, hf, hGd, World.drew_eq, run_askRoom, hrs', hry', hzv, newRow, run_newObj,
    World.alloc_eq, World.size_drew, hO, hZ]
   rw [if_neg (by simpa using hn63)]
  ·rw [show w.heap.size = w.drew.heap.size from rfl, alloc_setRow]
   congr 2
   apply Array.ext'
   simp only [lay, Nat.zero_add, Array.toList_append, List.toList_toArray, List.append_assoc]
   rw [List.take_append_of_le_length (by omega), List.take_of_length_le (by omega), show xs.length * sz + sz = O.length + sz by omega, ← List.drop_drop, List.drop_left]
   congr 1
   congr 1
   exact List.drop_left' (by simp)
  ·have hcellp : ∀ x o, g.fz x o → (w.drew.alloc (.cells (O.toArray ++ ((List.range sz).map f).toArray ++ Z) e)).cell? ⟨x, o, none⟩ = w.cell? ⟨x, o, none⟩ := fun x o hf => cell_alloc (w := w.drew) (hR.fz_lt hf)
   have hbel : Below g.base w (w.drew.alloc (.cells (O.toArray ++ ((List.range sz).map f).toArray ++ Z) e)) := (Below.refl _ _).drew.alloc hR.bnd _
   have hnown : ∀ id, g.at (dropTok H tl) id ≠ some w.heap.size := fun id hid => absurd (hR1.lt hid) (Nat.lt_irrefl _)
   have hRn := Rl.tok (e0 := 0) (e := (xs.length + 1) * sz) (lim := G * sz) hR1 hR.bnd (heap_new (w := w.drew) (o := .cells (O.toArray ++ ((List.range sz).map f).toArray ++ Z) e)) (hCs f) hGs (fun o _ hf => absurd (hR.fz_lt hf) (Nat.lt_irrefl _)) (Nat.zero_le _) hcellp hbel
    (fun x hx hlt => heap_alloc (w := w.drew) hlt) hnown
   have hStp := Stp.tok hR1 w.heap.size 0 ((xs.length + 1) * sz) (G * sz) hcellp hbel
   refine ⟨_, g.nx, hStp, (hR1.nxt _ (Nat.le_refl _)).2.2, hRn, ?_⟩
   refine .sl (sz := sz) (fun i j => if i < xs.length then fs i j else f j) (by simp) hGe (fun i hi => hlenxy vV hv i hi) (fun i j hi hj => .inr ⟨rfl, Nat.zero_le _, by have := at_lt hi hj; omega⟩) (fun i j hi hj => ?_)
    (fun i j hi hj => (hvals vV f hf _ _ hStp i j hi hj).1) (fun i j hi hj => (hvals vV f hf _ _ hStp i j hi hj).2) ?_
   ·have h2 := at_lt hi hj
    rw [show (⟨w.heap.size, 0 + i * sz + j, none⟩ : Addr) = ⟨w.drew.heap.size, i * sz + j, none⟩ by simp]
    rw [cell_new (w := w.drew), hCg f _ h2]
    congr 1
    by_cases hix : i < xs.length
    ·have h3 := at_lt hix hj
     rw [if_pos h3, if_pos hix, (div_mod_at hj).1, (div_mod_at hj).2]
    ·have h1 : i = xs.length := by omega
     subst h1
     rw [if_neg (by omega), if_neg hix, show xs.length * sz + j - xs.length * sz = j by omega]
   ·refine ⟨by omega, G * sz, ?_, by simp⟩
    simp [Gh.tok]
end
end Go.Ab

namespace Go.Ab
open Go.RowKit
variable [Glob]
structure ApPat where
 sx : Operand
 sy : Operand
 nn : Operand
 zz : Operand
 sT : TypeId
 yT : TypeId
 t2 : TypeId
 eT : TypeId
 t3 : TypeId
 tA : Nat
 tI : Nat
 tp : Nat
structure ApOk (ops : Array Oper) (nt k : Nat) (p : ApPat) : Prop where
 lt : k + 3 < ops.size
 a1 : (ops.getD k default).op = .call { callee := .builtin .append, args := #[p.sx, p.sy], argTypes := #[p.sT, p.yT] }
 a2 : (ops.getD k default).dst = some p.tA
 a3 : (ops.getD k default).guard = none
 i1 : (ops.getD (k + 1) default).op = .indexAddr p.t2 (.tmp p.tA) p.nn
 i2 : (ops.getD (k + 1) default).dst = some p.tI
 i3 : (ops.getD (k + 1) default).guard = none
 s1 : (ops.getD (k + 2) default).op = .store p.eT (.tmp p.tI) p.zz
 s2 : (ops.getD (k + 2) default).dst = none
 s3 : (ops.getD (k + 2) default).guard = none
 u1 : (ops.getD (k + 3) default).op = .store p.t3 (.tmp p.tp) (.tmp p.tA)
 u2 : (ops.getD (k + 3) default).dst = none
 u3 : (ops.getD (k + 3) default).guard = none
 n1 : p.tA ≠ p.tI
 n2 : p.tp ≠ p.tA
 n3 : p.tp ≠ p.tI
 n4 : p.nn ≠ .tmp p.tA
 n5 : p.zz ≠ .tmp p.tA
 n6 : p.zz ≠ .tmp p.tI
 n7 : p.tA < nt
 n8 : p.tI < nt
section
variable {P : Program} {nt : Nat} {ops : Array Oper}
structure LC (ops : Array Oper) (listed : Array Bool) (S : Nat → Bool) : Prop where
 size : listed.size = ops.size
 get : ∀ i b, i < ops.size → listed.getD i b = S i
 cl : ∀ m j, listed.getD m false = true → edgeTo (ops.getD m default) j = true → listed.getD j false = true
theorem LC.step {listed : Array Bool} {S : Nat → Bool} {i : Nat} (h : LC ops listed S) (hi : i ∈ Region.ready .any ops listed) : LC ops (listed.setIfInBounds i true) fun j => j == i || S j := by
 obtain ⟨h1, h2, h3⟩ := mem_ready hi
 refine ⟨by simpa using h.size, fun j b hj => ?_, fun m j hm hj => ?_⟩
 ·rw [getD_set (by rw [h.size]; exact h1), h.get j b hj]
  by_cases e : j = i
  ·subst e; simp
  ·rw [if_neg e]; simp [e]
 ·rw [getD_set (by rw [h.size]; exact h1)] at hm ⊢
  by_cases ej : j = i
  ·rw [if_pos ej]
  ·rw [if_neg ej]
   by_cases em : m = i
   ·subst em; exact h3 j hj
   ·rw [if_neg em] at hm; exact h.cl m j hm hj
theorem LC.not {listed : Array Bool} {S : Nat → Bool} {i : Nat} (h : LC ops listed S) (hi : i ∈ Region.ready .any ops listed) : i < ops.size ∧ S i = false ∧ ∀ j, j < ops.size → reach ops rdep i j = true → S j = true := by
 obtain ⟨h1, h2, h3⟩ := mem_ready hi
 refine ⟨h1, by rw [← h.get i true h1]; exact h2, fun j hj hr => ?_⟩
 rw [← h.get j false hj]
 exact reach_listed h.cl rdep i j h3 hr
theorem LC.ready {listed : Array Bool} {S : Nat → Bool} {i : Nat} (h : LC ops listed S) (h1 : i < ops.size) (h2 : S i = false) (hb : backward (ops.getD i default) i = true) (h3 : ∀ j, j < i → S j = true) : i ∈ Region.ready .any ops listed :=
 ready_of h1 (by rw [h.get i true h1]; exact h2) hb fun j hj => by rw [h.get j false (by omega)]; exact h3 j hj
theorem LC.eq {listed : Array Bool} {S S' : Nat → Bool} (h : LC ops listed S) (e : ∀ i, S i = S' i) : LC ops listed S' := ⟨h.size, fun i b hi => (h.get i b hi).trans (e i), h.cl⟩
theorem LeV.one {x y : V} (h : LeV x y) (hx : x.one = true) : y.one = true := by
 cases h <;> first | exact hx | rfl | cases hx
theorem wpIn_of_run {o : Oper} {a : Act} {w : World} {r : Option Nat} {next : Act → World → Prop} {Q : Exit → Act → World → Prop} {Kx : Value → World → Prop} (hnd : ∀ c, o.op ≠ .defer c) (h : NextW P Kx ((execOp a.eval o).run P w)) (hk : ∀ v w', Kx v w' → next (a.put o.dst v) w') : o.wpIn (Fw r) 0 P a w next Q := by
 refine ⟨fun _ _ => trivial, ?_⟩
 rw [Oper.semAt_eq _ _ _ hnd]
 exact nextW_upon h hk
theorem any_one {r : Option Nat} {Q : Exit → Act → World → Prop} {fuel i : Nat} {listed : Array Bool} {a : Act} {w : World} {Kx : Value → World → Prop} (h1 : i < ops.size) (hg : (ops.getD i default).guard = none) (hnd : ∀ c, (ops.getD i default).op ≠ .defer c)
 (h : NextW P Kx ((execOp a.eval (ops.getD i default)).run P w)) (hk : ∀ v w', Kx v w' → wpAnyIn (Fw r) 0 P .any ops Q fuel (listed.setIfInBounds i true) (a.put (ops.getD i default).dst v) w') :
 wpOpIn (Fw r) 0 P ops Q i (wpAnyIn (Fw r) 0 P .any ops Q fuel (listed.setIfInBounds i true)) a w := by
 rw [getD_of h1] at *
 simp only [wpOpIn, Array.getElem?_eq_getElem h1]
 rw [if_pos (by simp [Region.wanted, hg])]
 exact wpIn_of_run hnd h hk
theorem eval_put_ne {a : Act} {d : Nat} {v : Value} {x : Operand} (h : x ≠ .tmp d) : (a.put (some d) v).eval x = a.eval x := by
 cases x with
 | tmp t =>
  have : d ≠ t := fun e => h (by rw [e])
  simp [Act.eval, Act.put, Array.getElem?_setIfInBounds, this]
 | _ => rfl
theorem eval_put_eq {a : Act} {d : Nat} {v : Value} (h : d < a.tmps.size) : (a.put (some d) v).eval (.tmp d) = v := by
 simp [Act.eval, Act.put, h]
theorem cells_range {v : Value} {n : Nat} (h : v.cells.size = n) : (List.range n).map (fun j => v.cells.getD j undef) = v.cells.toList := by
 subst h
 apply List.ext_getElem
 ·simp
 ·intro i h1 h2
  have : i < v.cells.size := by simpa using h2
  simp [Array.getD, this]
theorem run_storeAt {W : World} {B q n : Nat} {c : Array Value} {T t : TypeId} {x y : Operand} {a : Act} {o : Oper} (ho : o.op = .store t x y) (hs : szO P t = some n) (hx : a.eval x = .pointer (some ⟨B, q, none⟩)) (hc : W.heap[B]? = some (.cells c T (0, 0))) (hsz : (a.eval y).cells.size = n) (hfit : q + n ≤ c.size)
 (h1 : ∀ j, j < n → ((a.eval y).cells.getD j undef).oneCell' = true) : NextW P (fun _ w' => w' = W.setRow B (lay c q n fun j => (a.eval y).cells.getD j undef)) ((execOp a.eval o).run P W) := by
 have hst := storeCells_lay (P := P) (f := fun j => (a.eval y).cells.getD j undef) hc hfit h1
 rw [cells_range hsz] at hst
 unfold execOp; rw [ho]
 simp only [hx, Instr.storeAt, Instr.sureAddr, storeVar, Sem.run_bind, Sem.run_pure, Result.andThen_ok, run_szO hs W, hsz, ne_eq, not_true_eq_false, if_false, hst, NextW]
theorem app_tail {A : Ann} {r : Option Nat} {k : Nat} {p : ApPat} {K : Fr → Heap → Prop} {Q : Exit → Act → World → Prop} {g0 : Gh} {w0 : World} (hp : ApOk ops nt k p)
 (hat : ∀ i, i < ops.size → backward (ops.getD i default) i = true ∧ ∀ j, j < i → reach ops rdep i j = true ∨ i < k ∨ (i = k + 3 ∧ k < j))
 (hQ : ∀ g w a fr H, Stp g0 w0 g w → Rl g H w → FR nt g w a fr → K fr H → Q .normal a w)
 {listed : Array Bool} (hL : LC ops listed fun i => decide (i < k)) {fr : Fr} {H : Heap} {xs cs : List V} {tl tl' : Tail} {y0 vV z : V} {kk : IntKind} {e : TypeId} {sz by_ idp offp : Nat}
 (hx : LeV (ev fr p.sx) (.sl xs tl)) (hy : ev fr p.sy = .sl [y0] tl') (hy0 : y0.cells.length = sz) (hn : ev fr p.nn = .int kk (xs.length : Nat)) (hzz : LeV (ev fr p.zz) vV) (hv1 : vV.one = true) (hvl : vV.cells.length = sz)
 (he : slO P p.sT = some e) (hyT : (slO P p.yT).isSome = true) (he2 : slO P p.t2 = some e) (hsz : szO P e = some sz) (hse : szO P p.eT = some sz) (hpos : 0 < sz) (hby : byO P e = some by_) (hbp : 0 < by_)
 (hz : zeO P e = some z) (hz1 : z.one = true) (hzl : z.cells.length = sz) (hA : AppOk H tl) (hax : xs.all (fun x => x.cells.length == sz) = true) (hbound : (xs.length + 1) * by_ ≤ 140737488355328)
 (hU : fr.s p.tp = .ref idp offp) (hUc : H idp = some (.cells cs)) (hUs : szO P p.t3 = some 1) (hUf : offp + 1 ≤ cs.length)
 (hK : ∀ t, dropTok H tl t = none → opsA P A nt ops (ops.toList.drop (k + 4)) ((fr.put (some p.tA) (.sl (xs ++ [vV]) (.tok t))).put (some p.tI) .bad)
  (upd (upd (dropTok H tl) t (some .spare)) idp (some (.cells (splice cs offp [.sl (xs ++ [vV]) (.tok t)])))) K) :
 ∀ g w a, Stp g0 w0 g w → Rl g H w → FR nt g w a fr → wpAnyIn (Fw r) 0 P .any ops Q (ops.size - k) listed a w := by
 intro g w a st hR hF
 have hvs := (ev_rel hR hF.s p.sx).le hx
 have hvy := ev_rel hR hF.s p.sy
 rw [hy] at hvy
 have hvn := ev_rel hR hF.s p.nn
 rw [hn] at hvn
 have hvn := hvn.int_inv
 have hvz := (ev_rel hR hF.s p.zz).le hzz
 obtain ⟨hzc1, hzc2⟩ := hvz.cells hv1
 have hzsz : (a.eval p.zz).cells.size = sz := by rw [hzc1, hvl]
 have hpp : VR g w (a.eval (.tmp p.tp)) (.ref idp offp) := by have := ev_rel hR hF.s (.tmp p.tp); rwa [show ev fr (.tmp p.tp) = .ref idp offp from hU] at this
 obtain ⟨bp, hmp, hep⟩ : ∃ bp, g.mu idp = some bp ∧ a.eval (.tmp p.tp) = .pointer (some ⟨bp, offp, none⟩) := by
  generalize a.eval (.tmp p.tp) = v at hpp
  cases hpp with
  | ref hm => exact ⟨_, hm, rfl⟩
 obtain ⟨b, off, G, W, C, T, r1, r2, r3, r4, r5, r6, r7⟩ := append_one (P := P) (ty := (ops.getD k default).type) hR hvs he hyT hsz hpos hby hbp hz hz1 hzl hA hax hbound
 obtain ⟨f0, hf0, hrA⟩ := r1 y0 tl' _ hvy hy0
 obtain ⟨bp', cp, Tp, q1, q2, q3, q4, q5, q6⟩ := hR.blk idp _ hUc
 rw [hmp] at q1; cases q1
 have hdt : dropTok H tl idp = some (.cells cs) := by
  cases tl with
  | tok t =>
   have hA' : H t = some .spare := hA
   have : idp ≠ t := fun e => by subst e; rw [hUc] at hA'; cases hA'
   simp only [dropTok, upd_other _ _ this]; exact hUc
  | _ => exact hUc
 have hatp : g.at (dropTok H tl) idp = some bp := by simp only [Gh.at, hdt, hmp]
 have hne : bp ≠ b := r6 _ _ hatp
 have hplt : bp < w.heap.size := (Array.getElem?_eq_some_iff.1 q3).1
 have hpfit : offp + 1 ≤ cp.size := by omega
 generalize hs' : (Value.slice (some ⟨b, off, none⟩) (xs.length + 1) G) = s' at *
 generalize hfv : (fun j => (a.eval p.zz).cells.getD j undef) = fv
 have hfv1 : ∀ j, j < sz → (fv j).oneCell' = true ∧ VR g w (fv j) (vV.cells.getD j .bad) := fun j hj => by rw [← hfv]; exact hzc2 j (by omega)
 have hs1 : s'.cells = #[s'] := by rw [← hs']; rfl
 have hs2 : ∀ j, j < 1 → (s'.cells.getD j undef).oneCell' = true := fun j hj => by
  rw [show j = 0 by omega, hs1, ← hs']; rfl
 have hsf : (fun j => s'.cells.getD j undef) = fun j => (#[s'] : Array Value).getD j undef := by rw [hs1]
 generalize ha1 : a.put (some p.tA) s' = a1
 generalize hA0 : (Value.pointer (some ⟨b, off + xs.length * sz, none⟩)) = pA
 generalize ha2 : a1.put (some p.tI) pA = a2
 have hsize1 : a1.tmps.size = nt := by rw [← ha1]; simp [Act.put, hF.size]
 have e1A : a1.eval (.tmp p.tA) = s' := by rw [← ha1]; exact eval_put_eq (by rw [hF.size]; exact hp.n7)
 have e1n : a1.eval p.nn = .int kk (xs.length : Nat) := by rw [← ha1, eval_put_ne hp.n4]; exact hvn
 have e1p : a1.eval (.tmp p.tp) = .pointer (some ⟨bp, offp, none⟩) := by rw [← ha1, eval_put_ne (fun h => hp.n2 (Operand.tmp.inj h))]; exact hep
 have e2A : a2.eval (.tmp p.tA) = s' := by rw [← ha2, eval_put_ne (fun h => hp.n1 (Operand.tmp.inj h))]; exact e1A
 have e2p : a2.eval (.tmp p.tp) = .pointer (some ⟨bp, offp, none⟩) := by rw [← ha2, eval_put_ne (fun h => hp.n3 (Operand.tmp.inj h))]; exact e1p
 have e2I : a2.eval (.tmp p.tI) = pA := by rw [← ha2]; exact eval_put_eq (by rw [hsize1]; exact hp.n8)
 have e2z : a2.eval p.zz = a.eval p.zz := by rw [← ha2, eval_put_ne hp.n6, ← ha1, eval_put_ne hp.n5]
 have hndA : ∀ c, (ops.getD k default).op ≠ .defer c := fun c h => by rw [hp.a1] at h; cases h
 have hndI : ∀ c, (ops.getD (k + 1) default).op ≠ .defer c := fun c h => by rw [hp.i1] at h; cases h
 have hndS : ∀ c, (ops.getD (k + 2) default).op ≠ .defer c := fun c h => by rw [hp.s1] at h; cases h
 have hndU : ∀ c, (ops.getD (k + 3) default).op ≠ .defer c := fun c h => by rw [hp.u1] at h; cases h
 have runA : NextW P (fun v w' => v = s' ∧ w' = W f0) ((execOp a.eval (ops.getD k default)).run P w) := by
  rw [run_builtin hp.a1]
  simp only [builtin, List.map_toArray, List.map_cons, List.map_nil, Sem.run_bind, hrA, Result.andThen_ok, Sem.run_pure, NextW]
  trivial
 have runI : ∀ W' : World, NextW P (fun v w' => v = pA ∧ w' = W') ((execOp a1.eval (ops.getD (k + 1) default)).run P W') := fun W' => by
  have hu := slO_some he2
  unfold execOp; rw [hp.i1]
  have c1 : (0 : Int) ≤ (xs.length : Nat) := by omega
  have c2 : ((xs.length : Nat) : Int) < ((xs.length + 1 : Nat) : Int) := by omega
  simp only [e1A, ← hs', e1n, Instr.indexAt, asIntOf, Sem.run_bind, Sem.run_pure, Result.andThen_ok, run_underlying hu, c1, c2, and_self, if_true, run_szO hsz, NextW, Option.map_some, addr_add, Int.toNat_natCast, hA0]
 have runS : ∀ (W' : World) (c' : Array Value), W'.heap[b]? = some (.cells c' T (0, 0)) → off + xs.length * sz + sz ≤ c'.size → NextW P (fun _ w' => w' = W'.setRow b (lay c' (off + xs.length * sz) sz fv)) ((execOp a2.eval (ops.getD (k + 2) default)).run P W') := fun W' c' h1 h2 => by
  have := run_storeAt (P := P) (a := a2) hp.s1 hse (by rw [e2I, ← hA0]) h1 (by rw [e2z]; exact hzsz) h2 (fun j hj => by rw [e2z]; exact (hzc2 j (by omega)).1)
  rw [e2z, hfv] at this
  exact this
 have runU : ∀ (a' : Act) (W' : World), a'.eval (.tmp p.tA) = s' → a'.eval (.tmp p.tp) = .pointer (some ⟨bp, offp, none⟩) → W'.heap[bp]? = some (.cells cp Tp (0, 0)) → NextW P (fun _ w' => w' = W'.setRow bp (lay cp offp 1 fun j => s'.cells.getD j undef)) ((execOp a'.eval (ops.getD (k + 3) default)).run P W') := fun a' W' h1 h2 h3 => by
  have := run_storeAt (P := P) (a := a') hp.u1 hUs h2 h3 (by rw [h1, hs1]; rfl) hpfit (fun j hj => by rw [h1]; exact hs2 j hj)
  rw [h1] at this
  exact this
 generalize hU' : (lay cp offp 1 fun j => s'.cells.getD j undef) = U at runU
 have hWp : ∀ f, (W f).heap[bp]? = some (.cells cp Tp (0, 0)) := fun f => (r5 bp hne hplt f).trans q3
 have fin : ∀ {l : Array Bool}, LC ops l (fun i => decide (i < k + 4)) → wpAnyIn (Fw r) 0 P .any ops Q (ops.size - (k + 4)) l a2 ((W fv).setRow bp U) := by
  intro l hl
  obtain ⟨g', t, s1, hnone, hR1, hvr⟩ := r7 vV fv hvl hfv1
  have hne2 : idp ≠ t := fun e => by subst e; rw [hdt] at hnone; cases hnone
  have hk3 : upd (dropTok H tl) t (some .spare) idp = some (.cells cs) := by rw [upd_other _ _ hne2]; exact hdt
  have hmp' : g'.mu idp = some bp := s1.mu _ _ hmp
  obtain ⟨b2, c2, T2, z1, z2, z3, z4, z5, z6⟩ := hR1.blk idp _ hk3
  rw [hmp'] at z1; cases z1
  rw [hWp fv] at z3
  have ec : c2 = cp := by cases z3; rfl
  subst ec
  have hset := hR1.setNamed (cs' := splice cs offp [.sl (xs ++ [vV]) (.tok t)]) (c' := U) hk3 hmp' (hWp fv) (by rw [← hU']; exact lay_size hpfit) (length_splice (by simpa using hUf)) (fun j hj => by
   rw [length_splice (by simpa using hUf)] at hj
   have hj' : j < c2.size := by omega
   have hg := lay_get (c := c2) (A := offp) (sz := 1) (f := fun j => s'.cells.getD j undef) hpfit hj'
   rw [hU'] at hg
   rw [getD_splice (by simpa using hUf)]
   simp only [Array.getD_eq_getD_getElem?, hg, List.length_singleton]
   by_cases q : offp ≤ j ∧ j < offp + 1
   ·rw [if_pos q, if_pos q]
    rw [show j - offp = 0 by omega, hs1, ← hs']
    refine ⟨rfl, ?_⟩
    rw [hs']
    simpa using hvr
   ·rw [if_neg q, if_neg q]
    have := z5 j hj
    simpa only [Array.getD_eq_getD_getElem?] using this)
  have hF1 := (hF.mono s1).put (d := some p.tA) (fun t ht => by cases ht; exact hp.n7) hvr
  rw [ha1] at hF1
  have hF2 := hF1.put (d := some p.tI) (v := pA) (V := .bad) (fun t ht => by cases ht; exact hp.n8) (.bad _)
  rw [ha2] at hF2
  have hm : k + 4 ≤ ops.size := hp.lt
  exact tail_any (A := A) (r := r) (K := K) (k := k + 4) (fun i hi => ⟨(hat i hi).1, fun j hj hkj => ((hat i hi).2 j hj).elim (fun h => h) fun h => absurd h (by omega)⟩) hQ (ops.size - (k + 4)) (k + 4) l _ _ (by omega) (Nat.le_refl _) hl.size
   hl.get (hK t hnone) g' _ a2 (st.trans (s1.trans hset.1)) hset.2 (hF2.mono hset.1)
 have hlt := hp.lt
 rw [show ops.size - k = (ops.size - (k + 4)) + 1 + 1 + 1 + 1 by omega]
 have bw : ∀ i, i < ops.size → backward (ops.getD i default) i = true := fun i hi => (hat i hi).1
 have rch : ∀ i j, i < ops.size → k ≤ i → j < i → ¬ (i = k + 3 ∧ k < j) → reach ops rdep i j = true := fun i j hi hki hj hn => ((hat i hi).2 j hj).elim (fun h => h) fun h => absurd h (by omega)
 have rdyA : k ∈ Region.ready .any ops listed := hL.ready (by omega) (by simp) (bw _ (by omega)) fun j hj => by simpa using hj
 refine ⟨fun e => (by rw [e] at rdyA; cases rdyA), fun i hi => ?_⟩
 obtain ⟨h1, h2, h3⟩ := hL.not hi
 have ik : i = k := by
  have : k ≤ i := by simpa using h2
  rcases Nat.lt_or_ge k i with h | h
  ·have := h3 k (by omega) (rch i k h1 (by omega) h (by omega)); exact absurd this (by simp)
  ·omega
 subst ik
 refine any_one h1 hp.a3 hndA runA fun v w1 ⟨ev1, ew1⟩ => ?_
 subst ev1; subst ew1
 rw [hp.a2, ha1]
 have hL1 := hL.step hi
 have rdyI : i + 1 ∈ Region.ready .any ops (listed.setIfInBounds i true) := hL1.ready (by omega) (by simp) (bw _ (by omega)) fun j hj => by simp; omega
 refine ⟨fun e => (by rw [e] at rdyI; cases rdyI), fun i2 hi2 => ?_⟩
 obtain ⟨h1, h2, h3⟩ := hL1.not hi2
 have ik : i2 = i + 1 ∨ i2 = i + 3 := by
  simp at h2
  rcases Nat.lt_or_ge (i + 1) i2 with h | h
  ·rcases Nat.lt_or_ge i2 (i + 3) with h' | h'
   ·have := h3 (i + 1) (by omega) (rch i2 (i + 1) h1 (by omega) h (by omega)); exact absurd this (by simp <;> omega)
   ·rcases Nat.lt_or_ge (i + 3) i2 with h'' | h''
    ·have := h3 (i + 1) (by omega) (rch i2 (i + 1) h1 (by omega) h (by omega)); exact absurd this (by simp <;> omega)
    ·omega
  ·omega
 have hWf0 : ((W f0).setRow b (lay (C f0) (off + xs.length * sz) sz fv)).setRow bp U = (W fv).setRow bp U := by rw [r4]
 have hcm : ((W f0).setRow bp U).setRow b (lay (C f0) (off + xs.length * sz) sz fv) = (W fv).setRow bp U := by rw [setRow_comm _ _ _ hne, r4]
 have hbU : ((W f0).setRow bp U).heap[b]? = some (.cells (C f0) T (0, 0)) := (heap_setRow_other _ _ _ _ hne.symm).trans (r3 f0).1
 have lastS : ∀ {l : Array Bool}, LC ops l (fun j => decide (j < i + 2) || j == i + 3) → wpAnyIn (Fw r) 0 P .any ops Q (ops.size - (i + 4) + 1) l a2 ((W f0).setRow bp U) := fun {l} hl => by
  have rdy : i + 2 ∈ Region.ready .any ops l := hl.ready (by omega) (by simp) (bw _ (by omega)) fun j hj => by simp; omega
  refine ⟨fun e => (by rw [e] at rdy; cases rdy), fun i3 hi3 => ?_⟩
  obtain ⟨h1, h2, h3⟩ := hl.not hi3
  have ik : i3 = i + 2 := by
   simp at h2
   rcases Nat.lt_or_ge (i + 2) i3 with h | h
   ·have := h3 (i + 2) (by omega) (rch i3 (i + 2) h1 (by omega) h (by omega)); exact absurd this (by simp <;> omega)
   ·omega
  subst ik
  refine any_one h1 hp.s3 hndS (runS _ _ hbU (r3 f0).2) fun v w1 ew => ?_
  rw [ew, hcm, hp.s2]
  exact fin ((hl.step hi3).eq fun j => by rw [Bool.eq_iff_iff]; simp; omega)
 rcases ik with rfl | rfl
 ·refine any_one h1 hp.i3 hndI (runI _) fun v w1 ⟨ev1, ew1⟩ => ?_
  subst ev1; subst ew1
  rw [hp.i2, ha2]
  have hL2 := (hL1.step hi2).eq (S' := fun j => decide (j < i + 2)) fun j => by rw [Bool.eq_iff_iff]; simp; omega
  have rdyS : i + 2 ∈ Region.ready .any ops ((listed.setIfInBounds i true).setIfInBounds (i + 1) true) := hL2.ready (by omega) (by simp) (bw _ (by omega)) fun j hj => by simp; omega
  refine ⟨fun e => (by rw [e] at rdyS; cases rdyS), fun i3 hi3 => ?_⟩
  obtain ⟨h1, h2, h3⟩ := hL2.not hi3
  have ik : i3 = i + 2 ∨ i3 = i + 3 := by
   simp at h2
   rcases Nat.lt_or_ge (i + 3) i3 with h | h
   ·have := h3 (i + 2) (by omega) (rch i3 (i + 2) h1 (by omega) (by omega) (by omega)); exact absurd this (by simp <;> omega)
   ·omega
  rcases ik with rfl | rfl
  ·refine any_one h1 hp.s3 hndS (runS _ _ (r3 f0).1 (r3 f0).2) fun v w1 ew => ?_
   rw [ew, r4, hp.s2]
   have hL3 := (hL2.step hi3).eq (S' := fun j => decide (j < i + 3)) fun j => by rw [Bool.eq_iff_iff]; simp; omega
   have rdyU : i + 3 ∈ Region.ready .any ops (((listed.setIfInBounds i true).setIfInBounds (i + 1) true).setIfInBounds (i + 2) true) := hL3.ready (by omega) (by simp) (bw _ (by omega)) fun j hj => by simp; omega
   refine ⟨fun e => (by rw [e] at rdyU; cases rdyU), fun i4 hi4 => ?_⟩
   obtain ⟨h1, h2, h3⟩ := hL3.not hi4
   have ik : i4 = i + 3 := by
    simp at h2
    rcases Nat.lt_or_ge (i + 3) i4 with h | h
    ·have := h3 (i + 3) (by omega) (rch i4 (i + 3) h1 (by omega) h (by omega)); exact absurd this (by simp <;> omega)
    ·omega
   subst ik
   refine any_one h1 hp.u3 hndU (runU a2 _ e2A e2p (hWp fv)) fun v w1 ew => ?_
   rw [ew, hp.u2]
   exact fin ((hL3.step hi4).eq fun j => by rw [Bool.eq_iff_iff]; simp; omega)
  ·refine any_one h1 hp.u3 hndU (runU a2 _ e2A e2p (hWp f0)) fun v w1 ew => ?_
   rw [ew, hp.u2]
   exact lastS ((hL2.step hi3).eq fun j => by rw [Bool.eq_iff_iff]; simp; omega)
 ·refine any_one h1 hp.u3 hndU (runU a1 _ e1A e1p (hWp f0)) fun v w1 ew => ?_
  rw [ew, hp.u2]
  have hL2 := (hL1.step hi2).eq (S' := fun j => decide (j < i + 1) || j == i + 3) fun j => by rw [Bool.eq_iff_iff]; simp; omega
  have rdy : i + 1 ∈ Region.ready .any ops ((listed.setIfInBounds i true).setIfInBounds (i + 3) true) := hL2.ready (by omega) (by simp) (bw _ (by omega)) fun j hj => by simp; omega
  refine ⟨fun e => (by rw [e] at rdy; cases rdy), fun i3 hi3 => ?_⟩
  obtain ⟨h1, h2, h3⟩ := hL2.not hi3
  have ik : i3 = i + 1 := by
   simp at h2
   rcases Nat.lt_or_ge (i + 1) i3 with h | h
   ·have := h3 (i + 1) (by omega) (rch i3 (i + 1) h1 (by omega) h (by omega)); exact absurd this (by simp <;> omega)
   ·omega
  subst ik
  refine any_one h1 hp.i3 hndI (runI _) fun v w1 ⟨ev1, ew1⟩ => ?_
  subst ev1; subst ew1
  rw [hp.i2]
  have := lastS ((hL2.step hi3).eq fun j => by rw [Bool.eq_iff_iff]; simp; omega)
  rw [← ha2] at this
  exact this
end
end Go.Ab

