/- AbA23 AbP1 AbD1 -/
import Derived.Test.YtodfgmbacmnalaaGreatT17
set_option linter.all false

namespace Go.Ab
open Go.RowKit
variable [Glob] [Ar]
section
variable {P : Program} {nt : Nat} {rd : Option Nat} {T : Tbl} {A : Nat → Bool} {Z : Nat → List Nat} {df : List Nat}
theorem isPair_inv {o o2 : Oper} {d : Nat} {t t2 : TypeId} {x : Operand} (h : isPair A o o2 = some (d, t, t2, x)) :
 o.op = .alloc t ∧ o.dst = some d ∧ o.guard = none ∧ o2.op = .store t2 (.tmp d) x ∧ o2.dst = none ∧ o2.guard = none ∧ x ≠ .tmp d := by
 unfold isPair at h
 split at h
 ·rename_i t' d' h1 h2 h3
  split at h
  ·rename_i t2' d2 x' k1 k2 k3
   split at h
   ·rename_i hA hb
    have hd := Nat.eq_of_beq_eq_true hb
    subst hd
    split at h
    ·rename_i d3
     split at h
     ·cases h
     ·rename_i hn
      cases h
      refine ⟨h1, h2, h3, k1, k2, k3, fun e => ?_⟩
      cases e
      rw [Nat.beq_refl] at hn; cases hn
    ·rename_i hx
     cases h
     exact ⟨h1, h2, h3, k1, k2, k3, fun e => hx _ e⟩
   ·cases h
  ·cases h
 ·cases h
theorem xops_sound (hT : TOk P T) {ops : Array Oper} {r : Option Nat} {K : Fl → Heap → Prop} {Q : Exit → Act → World → Prop} {g0 : Gh} {w0 : World}
 (hQ : ∀ g w a l H, Stp g0 w0 g w → Rl g H w → FR nt g w a (frOf ⟨l, df⟩) → K l H → Q .normal a w) :
 ∀ (m i : Nat) (l : Fl) (H : Heap), i + m = ops.size → xops (real P nt rd) T nt A Z ops (ops.toList.drop i) l H K → ∀ g w a, Stp g0 w0 g w → Rl g H w → FR nt g w a (frOf ⟨l, df⟩) → wpOpsIn (Fw r) 0 P ops Q (List.range' i m) a w := by
 intro m
 induction m using Nat.strongRecOn with
 | _ m ih =>
 intro i l H hi h g w a s hR hF
 cases m with
 | zero =>
  have : ops.toList.drop i = [] := by simp; omega
  rw [this] at h
  unfold xops at h
  exact hQ g w a l H s hR hF h
 | succ m =>
  have hlt : i < ops.toList.length := by simp; omega
  have hlt' : i < ops.size := by omega
  have hdrop := List.drop_eq_getElem_cons hlt
  rw [hdrop] at h
  simp only [Array.getElem_toList] at h
  generalize ho : ops[i] = o at h
  simp only [List.range'_succ, wpOpsIn, Array.getElem?_eq_getElem hlt', ho]
  unfold xops at h
  split at h
  ·exact h.elim
  rename_i hd
  obtain ⟨g1, l1, H1, s1, hR1, hF1, h⟩ := xfrz_sound (df := df) none _ _ _ _ _ (fun _ _ _ _ h => by cases h) hR hF h
  replace s := s.trans s1
  clear s1 hR hF
  revert h hF1 hR1 s
  generalize l1 = l, H1 = H, g1 = g
  intro hR hF h s
  have guarded : ∀ {rest : List Oper}, dstOk nt o.dst = true → rest = ops.toList.drop (i + 1) →
   xguard (real P nt rd) ops o 4 l (fun G l' wr => xop (real P nt rd) T A G o l' H fun s H' => xops (real P nt rd) T nt A Z ops rest (putl o.dst (wr s) l') H' K) (fun l' => xops (real P nt rd) T nt A Z ops rest (putl o.dst (.v (.tup [])) l') H K) →
   if Region.wanted o (yielded ops a.tmps) then o.wpIn (Fw r) 0 P a w (wpOpsIn (Fw r) 0 P ops Q (List.range' (i + 1) m)) Q else (∀ f, o.about P w a.eval = some f → (Fw r).fn f) ∧ wpOpsIn (Fw r) 0 P ops Q (List.range' (i + 1) m) (a.put o.dst undef) w := by
   intro rest hd hrest h
   subst hrest
   obtain ⟨l', e, h⟩ := xguard_sound (df := df) 4 l h
   have ef : frOf ⟨l', df⟩ = frOf ⟨l, df⟩ := by simp only [frOf, Fr.mk.injEq, and_true]; funext t; exact e t
   have hF' : FR nt g w a (frOf ⟨l', df⟩) := ef ▸ hF
   rcases h with ⟨hgv, G, wr, hG, hwr, h⟩ | ⟨hgv, h⟩
   ·have hw : Region.wanted o (yielded ops a.tmps) = true := guard_wanted hF.s hgv
    rw [if_pos hw]
    refine wp_op (A := A) hR hF' hd (xop_sound (df := df) hT hG h) fun g' w' a' v H' s' hR' hF2 ⟨sl, hv, hK⟩ => ?_
    subst hv
    rw [← hwr sl, ← frOf_put] at hF2
    exact ih m (by omega) (i + 1) _ _ (by omega) hK g' w' a' (s.trans s') hR' hF2
   ·have hw : Region.wanted o (yielded ops a.tmps) = false := guard_wanted hF.s hgv
    rw [if_neg (by rw [hw]; simp)]
    refine ⟨fun _ _ => trivial, ?_⟩
    have hput : FR nt g w (a.put o.dst undef) ((frOf ⟨l', df⟩).put o.dst (.tup [])) := hF'.put (dstOk_lt hd) (VR.und _ _)
    rcases h with h | ⟨G, d, want, ht, hb, h⟩
    ·refine ih m (by omega) (i + 1) _ _ (by omega) h g w _ s hR ?_
     rw [frOf_put]
     exact hput
    ·obtain ⟨sl, h⟩ := xop_tot hT ht h
     refine ih m (by omega) (i + 1) _ _ (by omega) h g w _ s hR ?_
     rw [frOf_put]
     simp only [slV, hb, cond_false]
     exact hput
  ·split at h
   ·rename_i hrest
    refine guarded hd hrest.symm ?_
    have e : (fun (G : List (Nat × Bool)) (l' : Fl) (wr : Sl → Sl) => xop (real P nt rd) T A G o l' H fun s H' => xops (real P nt rd) T nt A Z ops [] (putl o.dst (wr s) l') H' K) = fun G l' wr => xop (real P nt rd) T A G o l' H fun s H' => K (putl o.dst (wr s) l') H' := by
     funext G l' wr
     have : (fun s H' => xops (real P nt rd) T nt A Z ops [] (putl o.dst (wr s) l') H' K) = fun s H' => K (putl o.dst (wr s) l') H' := by
      funext s H'; unfold xops; rfl
     rw [this]
    have e2 : (fun l' => xops (real P nt rd) T nt A Z ops [] (putl o.dst (.v (.tup [])) l') H K) = fun l' => K (putl o.dst (.v (.tup [])) l') H := by
     funext l'; unfold xops; rfl
    rw [e, e2]; exact h
   ·rename_i o2 rest' hrest
    split at h
    ·rename_i d t t2 x hp
     obtain ⟨p1, p2, p3, p4, p5, p6, p7⟩ := isPair_inv hp
     have hw : ∀ y, Region.wanted o y = true := fun y => by simp [Region.wanted, p3]
     rw [if_pos (hw _)]
     split at h
     ·rename_i cs hcs
      unfold pairV at hcs
      split at hcs
      ·rename_i I I2 hI hI2
       split at hcs
       ·rename_i z hz
        have ez := (tg_ok hT hI).ze; rw [hz] at ez; simp only [optOk] at ez
        split at hcs
        ·rename_i hc
         obtain ⟨c1, c2, c3, c4⟩ := hc
         cases hcs
         have hlen : i + 1 < ops.toList.length := by
          rcases Nat.lt_or_ge (i + 1) ops.toList.length with h' | h'
          ·exact h'
          ·rw [List.drop_eq_nil_of_le h'] at hrest; cases hrest
         have hlen' : i + 1 < ops.size := by simpa using hlen
         have hdrop2 := List.drop_eq_getElem_cons hlen
         rw [hrest, Array.getElem_toList] at hdrop2
         have ho2 : ops[i + 1] = o2 := by injection hdrop2 with e _; exact e.symm
         have hr2 : rest' = ops.toList.drop (i + 2) := by injection hdrop2
         rw [hr2] at h
         obtain ⟨m', rfl⟩ : ∃ m', m = m' + 1 := ⟨m - 1, by omega⟩
         refine wp_op (A := A) (K := fun v H' => ∃ id, v = .ref id 0 ∧ H id = none ∧ H' = upd H id (some (.cells z.cells))) hR hF hd (by
          simp only [opA, p1]
          exact .inl ⟨z, ez, c1, fun id hid => ⟨_, .refl _, id, rfl, hid, rfl⟩⟩) fun g1 w1 a1 v H1 s1 hR1 hF1 hK1 => ?_
         obtain ⟨id, rfl, hid, rfl⟩ := hK1
         simp only [List.range'_succ, wpOpsIn, Array.getElem?_eq_getElem hlen', ho2]
         rw [if_pos (by simp [Region.wanted, p6])]
         have hev : ev ((frOf ⟨l, df⟩).put o.dst (.ref id 0)) x = (evS [] l x).V := by
          rw [evS_ev (df := df) Gok.nil, p2]
          cases x with
          | tmp t =>
           have : t ≠ d := fun e => p7 (by rw [e])
           simp [ev, Fr.put, this]
          | const _ => rfl
          | global _ => rfl
          | func _ => rfl
         have hev2 : ev ((frOf ⟨l, df⟩).put o.dst (.ref id 0)) (.tmp d) = .ref id 0 := by rw [p2]; simp [ev, Fr.put]
         refine wp_op (A := A) (K := fun v H' => H' = upd (upd H id (some (.cells z.cells))) id (some (.cells (splice z.cells 0 (evS [] l x).V.cells)))) hR1 hF1 (by rw [p5]; rfl) (by
          simp only [opA, p4]
          refine .inl ⟨_, _, .refl _, ?_, rfl⟩
          simp only [storeV, (tg_ok hT hI2).sz, hev, hev2, upd_same]
          rw [if_pos ⟨c2, c3, by omega⟩]) fun g2 w2 a2 v2 H2 s2 hR2 hF2 hK2 => ?_
         subst hK2
         obtain ⟨g3, s3, hR3, hv3⟩ := hR2.freeze (upd_same _ _ _)
         rw [upd_upd, upd_back _ _ _ hid] at hR3
         refine ih m' (by omega) (i + 2) _ H (by omega) h g3 w2 a2 (((s.trans s1).trans s2).trans s3) hR3 ?_
         rw [p5, p2] at hF2
         have hF3 := hF2.mono s3
         have e1 := frOf_put (df := df) l (some d) (.v (.eref (splice z.cells 0 (evS [] l x).V.cells) 0))
         rw [show putl (some d) (.v (.eref (splice z.cells 0 (evS [] l x).V.cells) 0)) l = (d, .v (.eref (splice z.cells 0 (evS [] l x).V.cells) 0)) :: l from rfl] at e1
         rw [e1]
         refine ⟨hF3.size, fun q => ?_, hF3.df⟩
         have hq := hF2.s q
         have hq3 := hF3.s q
         simp only [Fr.put] at hq hq3 ⊢
         split
         ·rename_i e; rw [if_pos e] at hq; exact hv3 _ _ hq
         ·rename_i e; rw [if_neg e] at hq3; exact hq3
        ·cases hcs
       ·cases hcs
      ·cases hcs
     ·exact h.elim
    ·exact guarded hd hrest.symm h
end
end Go.Ab

namespace Go.Ab
open Go.RowKit
variable [Glob]
def lay (c : Array Value) (A sz : Nat) (f : Nat → Value) : Array Value := (c.toList.take A ++ (List.range sz).map f ++ c.toList.drop (A + sz)).toArray
theorem lay_size {c : Array Value} {A sz : Nat} {f : Nat → Value} (h : A + sz ≤ c.size) : (lay c A sz f).size = c.size := by simp [lay]; omega
theorem lay_lay {c : Array Value} {A sz : Nat} {f f' : Nat → Value} (h : A + sz ≤ c.size) : lay (lay c A sz f) A sz f' = lay c A sz f' := by
 have e1 : (lay c A sz f).toList.take A = c.toList.take A := by
  simp only [lay, List.append_assoc]
  rw [List.take_append_of_le_length (by simp; omega), List.take_take]; simp
 have e2 : (lay c A sz f).toList.drop (A + sz) = c.toList.drop (A + sz) := by
  simp only [lay]
  rw [List.drop_append_of_le_length (by simp; omega)]
  rw [List.drop_of_length_le (by simp; omega)]; simp
 unfold lay at e1 e2 ⊢
 rw [e1, e2]
theorem lay_get {c : Array Value} {A sz : Nat} {f : Nat → Value} (h : A + sz ≤ c.size) {k : Nat} (hk : k < c.size) : (lay c A sz f)[k]? = if A ≤ k ∧ k < A + sz then some (f (k - A)) else c[k]? := by
 have := (lay_row (vs := (List.range sz).map f) (m := sz) (A := A) (c := c) (by simp) h rfl).2 k hk
 rw [show lay c A sz f = (c.toList.take A ++ (List.range sz).map f ++ c.toList.drop (A + sz)).toArray from rfl, this]
 split
 ·rename_i hc; rw [List.getElem?_map, List.getElem?_range (by omega)]; rfl
 ·rfl
theorem setRow_setRow (w : World) (b : Nat) (c c' : Array Value) : (w.setRow b c).setRow b c' = w.setRow b c' := by
 simp only [World.setRow, World.mk.injEq, and_true]
 apply Array.ext
 ·simp
 ·intro i h1 h2
  simp only [Array.getElem_modify]
  split
  ·cases w.heap[i]'(by simpa using h1) <;> rfl
  ·rfl
theorem setRow_comm (w : World) {b b' : Nat} (c c' : Array Value) (h : b ≠ b') : (w.setRow b c).setRow b' c' = (w.setRow b' c').setRow b c := by
 simp only [World.setRow, World.mk.injEq, and_true]
 apply Array.ext
 ·simp
 ·intro i h1 h2
  simp only [Array.getElem_modify]
  by_cases e1 : b = i <;> by_cases e2 : b' = i
  ·omega
  ·simp [e1, e2]
  ·simp [e1, e2]
  ·simp [e1, e2]
theorem alloc_setRow (w : World) (C C' : Array Value) (e : TypeId) : (w.alloc (.cells C e)).setRow w.heap.size C' = w.alloc (.cells C' e) := by
 simp only [World.alloc, World.setRow, World.mk.injEq, and_true]
 apply Array.ext
 ·simp
 ·intro i h1 h2
  simp only [Array.getElem_modify, Array.getElem_push]
  have : i < w.heap.size + 1 := by simpa using h2
  by_cases e : w.heap.size = i
  ·subst e; simp
  ·rw [if_neg e]
   have : i < w.heap.size := by omega
   simp [this]
section
variable {P : Program} {H : Heap}
theorem storeCells_lay {w : World} {b A sz : Nat} {c : Array Value} {T : TypeId} {f : Nat → Value} (hw : w.heap[b]? = some (.cells c T (0, 0))) (h : A + sz ≤ c.size) (hf : ∀ j, j < sz → (f j).oneCell' = true) :
 (storeCells ⟨b, A, none⟩ ((List.range sz).map f)).run P w = .ok () (w.setRow b (lay c A sz f)) := by
 have := run_storeCells_at P b A T ((List.range sz).map f) 0 c w hw (by simp; omega) (by
  intro v hv
  obtain ⟨k, hk, rfl⟩ := List.mem_map.1 hv
  exact hf k (List.mem_range.1 hk))
 simpa [lay] using this
theorem append_one {g : Gh} {w : World} (hR : Rl g H w) {sT yT e ty : TypeId} {sz by_ : Nat} {z : V} {xs : List V} {tl : Tail} {vs : Value} (hvs : VR g w vs (.sl xs tl)) (he : slO P sT = some e) (hyT : (slO P yT).isSome = true) (hsz : szO P e = some sz) (hpos : 0 < sz) (hby : byO P e = some by_) (hbp : 0 < by_)
 (hz : zeO P e = some z) (hz1 : z.one = true) (hzl : z.cells.length = sz) (hA : AppOk H tl) (hax : xs.all (fun x => x.cells.length == sz) = true) (hbound : (xs.length + 1) * by_ ≤ 140737488355328) :
 ∃ (b off G : Nat) (W : (Nat → Value) → World) (C : (Nat → Value) → Array Value) (T : TypeId),
  (∀ (y0 : V) (tl' : Tail) (vy : Value), VR g w vy (.sl [y0] tl') → y0.cells.length = sz → ∃ f0, (∀ j, j < sz → (f0 j).oneCell' = true) ∧ (Builtin.append_ #[sT, yT] ty #[vs, vy]).run P w = .ok (.slice (some ⟨b, off, none⟩) (xs.length + 1) G) (W f0)) ∧
  xs.length + 1 ≤ G ∧
  (∀ f, (W f).heap[b]? = some (.cells (C f) T (0, 0)) ∧ off + xs.length * sz + sz ≤ (C f).size) ∧
  (∀ f f', (W f).setRow b (lay (C f) (off + xs.length * sz) sz f') = W f') ∧
  (∀ x, x ≠ b → x < w.heap.size → ∀ f, (W f).heap[x]? = w.heap[x]?) ∧
  (∀ id x, g.at (dropTok H tl) id = some x → x ≠ b) ∧
  (∀ (vV : V) (f : Nat → Value), vV.cells.length = sz → (∀ j, j < sz → (f j).oneCell' = true ∧ VR g w (f j) (vV.cells.getD j .bad)) →
   ∃ g' t, Stp g w g' (W f) ∧ dropTok H tl t = none ∧ Rl g' (upd (dropTok H tl) t (some .spare)) (W f) ∧ VR g' (W f) (.slice (some ⟨b, off, none⟩) (xs.length + 1) G) (.sl (xs ++ [vV]) (.tok t))) := by
 obtain ⟨base, cap, fs, es, hcap, hfs, hrs, hbs⟩ := slice_cells (P := P) hvs hax
 have hu := slO_some he
 obtain ⟨e', hyT'⟩ := Option.isSome_iff_exists.1 hyT
 have huy := slO_some hyT'
 obtain ⟨zv, ez, hzv⟩ := zeO_run hz
 have hzr : VR g w zv z := by rw [ez]; exact cv_rel g w zv
 have hzs : zv.cells.size = sz := by rw [(hzr.cells hz1).1, hzl]
 have hbytes : ∀ w, (typeInfo e).run P w = .ok ((P.info? e).getD default) w ∧ ((P.info? e).getD default).bytes = by_ := by
  intro w
  unfold byO at hby
  cases hi : P.info? e with
  | none => simp [hi] at hby
  | some i => simp [hi] at hby; simp [typeInfo, hi, hby]
 have hbi : ∀ w, (typeInfo e).run P w = .ok ((P.info? e).getD default) w := fun w => (hbytes w).1
 have hbb := (hbytes w).2
 have hR1 : Rl g (dropTok H tl) w := hR.less fun id b hb => dropTok_some hb
 have hlenx := getD_of_all hax
 have hlenxy : ∀ (vV : V), vV.cells.length = sz → ∀ i, i < xs.length + 1 → ((xs ++ [vV]).getD i .bad).cells.length = sz := fun vV hv i hi => by
  rw [getD_append]; split
  ·exact hlenx i (by assumption)
  ·rw [show i - xs.length = 0 by omega]; exact hv
 have hsrc : ∀ (y0 : V) (tl' : Tail) (vy : Value), VR g w vy (.sl [y0] tl') → y0.cells.length = sz → ∃ ybase ycap f0, vy = .slice ybase 1 ycap ∧ (∀ j, j < sz → (f0 j).oneCell' = true) ∧
  ∀ w' : World, (∀ b o, w'.cell? ⟨b, o, none⟩ = w.cell? ⟨b, o, none⟩) → (Builtin.firstCells sz 1 vy).run P w' = .ok ((List.range sz).map f0).toArray w' := fun y0 tl' vy hvy hy0 => by
  obtain ⟨ybase, ycap, fy, ey, _, hfy, hry, _⟩ := slice_cells (P := P) (sz := sz) hvy (by simp [hy0])
  refine ⟨ybase, ycap, fun j => fy 0 j, ey, fun j hj => (hfy 0 j (by simp) hj).1, fun w' hw' => ?_⟩
  have := hry w' hw'
  simp only [List.length_singleton, Nat.one_mul] at this
  rw [this]
  refine congrArg (fun l : List Value => Result.ok l.toArray w') (List.map_congr_left fun k hk => ?_)
  have hk' := List.mem_range.1 hk
  rw [Nat.div_eq_of_lt hk', Nat.mod_eq_of_lt hk']
 have hvals : ∀ (vV : V) (f : Nat → Value), (∀ j, j < sz → (f j).oneCell' = true ∧ VR g w (f j) (vV.cells.getD j .bad)) → ∀ (g' : Gh) (w' : World), Stp g w g' w' → ∀ i j, i < xs.length + 1 → j < sz → (if i < xs.length then fs i j else f j).oneCell' = true ∧
  VR g' w' (if i < xs.length then fs i j else f j) (((xs ++ [vV]).getD i .bad).cells.getD j .bad) := by
  intro vV f hf g' w' st i j hi hj
  rw [getD_append]
  split
  ·rename_i hlt; exact ⟨(hfs i j hlt hj).1, (hfs i j hlt hj).2.mono st⟩
  ·rw [show i - xs.length = 0 by omega]
   exact ⟨(hf j hj).1, (hf j hj).2.mono st⟩
 have hn63 : ¬ (IntKind.i64.max < ((xs.length + 1 : Nat) : Int) ∧ (False ∨ by_ = 0)) := by
  rintro ⟨_, hF | hF⟩
  ·exact hF
  ·omega
 by_cases hc : xs.length + 1 ≤ cap
 ·
  rcases hbs with ⟨hx0, hc0 | hc0, _⟩ | ⟨b, q, hbase, hcell, _, sz', hsz', htl⟩
  ·subst hx0; simp at hc; omega
  ·subst hc0; exact hA.elim
  ·cases tl with
   | nil => exact htl.elim
   | ro => exact hA.elim
   | full => simp only [TailOk] at htl; omega
   | tok t =>
    obtain ⟨hn0, lim, ht1, ht2⟩ := htl
    have := hsz' hn0
    subst this
    have hA' : H t = some .spare := hA
    obtain ⟨b2, e2, lim2, c, T, k1, k2, k3, k4, k5, k6⟩ := hR.blk t _ hA'
    rw [ht1] at k1
    simp only [Option.some.injEq, Prod.mk.injEq] at k1
    obtain ⟨rfl, rfl, rfl⟩ := k1
    have hcapsz : (xs.length + 1) * sz' ≤ cap * sz' := Nat.mul_le_mul_right _ hc
    have hadd : (xs.length + 1) * sz' = xs.length * sz' + sz' := by rw [Nat.add_mul, Nat.one_mul]
    have hfit : q + xs.length * sz' + sz' ≤ c.size := by omega
    have hnown : ∀ id x, g.at (dropTok H (.tok t)) id = some x → x ≠ b := by
     rintro id x hid rfl
     have hat : g.at H t = some x := by simp [Gh.at, hA', ht1]
     by_cases hid' : id = t
     ·subst hid'; simp [Gh.at, dropTok, upd_same] at hid
     ·have : g.at H id = some x := by simpa only [Gh.at, dropTok, upd_other _ _ hid'] using hid
      exact hid' (hR.inj _ _ _ this hat)
    refine ⟨b, q, cap, fun f => w.setRow b (lay c (q + xs.length * sz') sz' f), fun f => lay c (q + xs.length * sz') sz' f, T, fun y0 tl' vy hvy hy0 => ?_, hc, fun f => ?_, fun f f' => ?_, fun x hx _ f => heap_setRow_other w b _ x hx, hnown, fun vV f hv hf => ?_⟩
    ·obtain ⟨ybase, ycap, f0, ey, hf0, hry⟩ := hsrc y0 tl' vy hvy hy0
     refine ⟨f0, hf0, ?_⟩
     have hst := storeCells_lay (P := P) (f := f0) k3 hfit hf0
     have hry' := hry w fun _ _ => rfl
     rw [ey] at hry' ⊢
     rw [es, hbase]
     simp only [Builtin.append_, Sem.run_bind, run_underlying hu, Result.andThen_ok, run_szO hsz, run_underlying huy, Sem.run_pure, Builtin.lenOf, Sem.run_ite, List.getElem?_toArray,
      List.getElem?_cons_zero, List.getElem?_cons_succ, Bool.false_eq_true, if_false, Bool.not_false, if_true, if_pos hc, hry', addr_add, hst]
    ·exact ⟨setRow_heap w b c _ T (0, 0) k3, by rw [lay_size hfit]; exact hfit⟩
    ·rw [setRow_setRow, lay_lay hfit]
    ·dsimp only
     have hCg : ∀ k, k < c.size → (lay c (q + xs.length * sz') sz' f)[k]? = if q + xs.length * sz' ≤ k ∧ k < q + xs.length * sz' + sz' then some (f (k - (q + xs.length * sz'))) else c[k]? := fun k hk => lay_get hfit hk
     generalize hC : lay c (q + xs.length * sz') sz' f = C at hCg
     have hCs : C.size = c.size := by rw [← hC]; exact lay_size hfit
     have hcellp : ∀ x o, g.fz x o → (w.setRow b C).cell? ⟨x, o, none⟩ = w.cell? ⟨x, o, none⟩ := by
      intro x o hf
      by_cases hx : x = b
      ·subst hx
       have ho : o < q + xs.length * sz' := by
        rcases Nat.lt_or_ge o (q + xs.length * sz') with h | h
        ·exact h
        ·exact absurd hf (k6 o h)
       have hw' : (w.setRow x C).heap[x]? = some (.cells C T (0, 0)) := setRow_heap w x c C T (0, 0) k3
       simp only [World.cell?, hw', k3, Option.isSome_none, Bool.false_eq_true, if_false]
       rw [hCg o (by omega), if_neg (by omega)]
      ·exact cell_setRow_other w b C x o hx
     have hbel : Below g.base w (w.setRow b C) := below_setRow w b C k2
     have hRn := Rl.tok (e0 := q + xs.length * sz') (e := q + (xs.length + 1) * sz') (lim := c.size) hR1 k2 (setRow_heap w b c C T (0, 0) k3) hCs (by omega) k6 (by omega) hcellp hbel
      (fun x hx _ => heap_setRow_other w b C x hx) (fun id hid => hnown id _ hid rfl)
     have hStp := Stp.tok hR1 b (q + xs.length * sz') (q + (xs.length + 1) * sz') c.size hcellp hbel
     refine ⟨_, g.nx, hStp, (hR1.nxt _ (Nat.le_refl _)).2.2, hRn, ?_⟩
     refine .sl (sz := sz') (fun i j => if i < xs.length then fs i j else f j) (by simp) hc (fun i hi => hlenxy vV hv i hi) (fun i j hi hj => ?_) (fun i j hi hj => ?_)
      (fun i j hi hj => (hvals vV f hf _ _ hStp i j hi hj).1) (fun i j hi hj => (hvals vV f hf _ _ hStp i j hi hj).2) ?_
     ·by_cases hix : i < xs.length
      ·exact .inl (hcell i j hix hj).1
      ·have h2 := at_lt hi hj
       have h1 : xs.length * sz' ≤ i * sz' := Nat.mul_le_mul_right _ (by omega)
       exact .inr ⟨rfl, by omega, by omega⟩
     ·have h2 := at_lt hi hj
      have hw' : (w.setRow b C).heap[b]? = some (.cells C T (0, 0)) := setRow_heap w b c C T (0, 0) k3
      by_cases hix : i < xs.length
      ·rw [if_pos hix]
       exact (hcellp b _ (hcell i j hix hj).1).trans (hcell i j hix hj).2
      ·rw [if_neg hix]
       have h1 : i = xs.length := by omega
       subst h1
       simp only [World.cell?, hw', Option.isSome_none, Bool.false_eq_true, if_false]
       rw [hCg _ (by omega), if_pos (by omega), show q + xs.length * sz' + j - (q + xs.length * sz') = j by omega]
     ·refine ⟨by omega, c.size, ?_, by omega⟩
      simp [Gh.tok]
 ·
  have hnf : ¬ (2 ^ 48 < Builtin.nextslicecap (xs.length + 1) cap * by_) := by
   have := growslice_fits (Nat.lt_of_not_le hc) hbound; omega
  have hdr : ∀ b o, w.drew.cell? ⟨b, o, none⟩ = w.cell? ⟨b, o, none⟩ := fun _ _ => rfl
  generalize hG : grownCap w (xs.length + 1) cap e = G
  have hGe : xs.length + 1 ≤ G := by rw [← hG]; exact grownCap_ge w _ _ _
  have hGs : (xs.length + 1) * sz ≤ G * sz := Nat.mul_le_mul_right _ hGe
  have hadd : (xs.length + 1) * sz = xs.length * sz + sz := by rw [Nat.add_mul, Nat.one_mul]
  generalize hO : ((List.range (xs.length * sz)).map fun k => fs (k / sz) (k % sz)) = O at *
  have hOl : O.length = xs.length * sz := by rw [← hO]; simp
  generalize hZ : Builtin.zeroCells zv.cells (G - (xs.length + 1)) = Z at *
  have hZs : Z.size = G * sz - (xs.length + 1) * sz := by rw [← hZ, size_zeroCells, hzs, Nat.sub_mul]
  have hCs : ∀ f : Nat → Value, (O.toArray ++ ((List.range sz).map f).toArray ++ Z).size = G * sz := fun f => by
   simp only [Array.size_append, List.size_toArray, List.length_map, List.length_range, hOl, hZs]; omega
  have hCg : ∀ (f : Nat → Value) k, k < (xs.length + 1) * sz → (O.toArray ++ ((List.range sz).map f).toArray ++ Z)[k]? = some (if k < xs.length * sz then fs (k / sz) (k % sz) else f (k - xs.length * sz)) := by
   intro f k hk
   rw [Array.getElem?_append, if_pos (by simp [hOl]; omega), Array.getElem?_append]
   simp only [List.size_toArray, hOl, List.getElem?_toArray, List.getElem?_map]
   split
   ·rw [← hO, List.getElem?_map, List.getElem?_range (by assumption)]; rfl
   ·rw [List.getElem?_range (by omega)]; rfl
  refine ⟨w.heap.size, 0, G, fun f => w.drew.alloc (.cells (O.toArray ++ ((List.range sz).map f).toArray ++ Z) e), fun f => O.toArray ++ ((List.range sz).map f).toArray ++ Z, e, fun y0 tl' vy hvy hy0 => ?_, hGe, fun f => ⟨heap_new (w := w.drew), by rw [hCs]; omega⟩, fun f f' => ?_,
   fun x hx hlt f => heap_alloc (w := w.drew) hlt, fun id x hid e => absurd (e ▸ hR1.lt hid) (Nat.lt_irrefl _), fun vV f hv hf => ?_⟩
  ·obtain ⟨ybase, ycap, f0, ey, hf0, hry⟩ := hsrc y0 tl' vy hvy hy0
   refine ⟨f0, hf0, ?_⟩
   have hGd : (Question.appendCap (xs.length + 1) cap e).cut (w.tape w.drawn (.appendCap (xs.length + 1) cap e)) = G := hG
   have hf : (Question.appendCap (xs.length + 1) cap e).forced = false := rfl
   have hrs' := hrs w.drew hdr
   have hry' := hry w.drew hdr
   rw [es] at hrs' ⊢; rw [ey] at hry' ⊢
   simp only [Builtin.append_, Sem.run_bind, run_underlying hu, Result.andThen_ok, run_szO hsz, run_underlying huy, Sem.run_pure, Builtin.lenOf, Sem.run_ite, hbi, hbb, List.getElem?_toArray,
    List.getElem?_cons_zero, List.getElem?_cons_succ, Bool.false_eq_true, if_false, Bool.not_false, if_true, gt_iff_lt, false_or, if_neg hc, if_neg hnf, run_choose, hf, hGd, World.drew_eq, run_askRoom, hrs', hry', hzv, newRow, run_newObj,
    World.alloc_eq, World.size_drew, hO, hZ]
   rw [if_neg (by simpa using hn63)]
  ·rw [show w.heap.size = w.drew.heap.size from rfl, alloc_setRow]
   congr 2
   apply Array.ext'
   simp only [lay, Nat.zero_add, Array.toList_append, List.toList_toArray, List.append_assoc]
   rw [List.take_append_of_le_length (by omega), List.take_of_length_le (by omega), show xs.length * sz + sz = O.length + sz by omega, ← List.drop_drop, List.drop_left]
   congr 1
   congr 1
   exact List.drop_left' (by simp)
  ·have hcellp : ∀ x o, g.fz x o → (w.drew.alloc (.cells (O.toArray ++ ((List.range sz).map f).toArray ++ Z) e)).cell? ⟨x, o, none⟩ = w.cell? ⟨x, o, none⟩ := fun x o hf => cell_alloc (w := w.drew) (hR.fz_lt hf)
   have hbel : Below g.base w (w.drew.alloc (.cells (O.toArray ++ ((List.range sz).map f).toArray ++ Z) e)) := (Below.refl _ _).drew.alloc hR.bnd _
   have hnown : ∀ id, g.at (dropTok H tl) id ≠ some w.heap.size := fun id hid => absurd (hR1.lt hid) (Nat.lt_irrefl _)
   have hRn := Rl.tok (e0 := 0) (e := (xs.length + 1) * sz) (lim := G * sz) hR1 hR.bnd (heap_new (w := w.drew) (o := .cells (O.toArray ++ ((List.range sz).map f).toArray ++ Z) e)) (hCs f) hGs (fun o _ hf => absurd (hR.fz_lt hf) (Nat.lt_irrefl _)) (Nat.zero_le _) hcellp hbel
    (fun x hx hlt => heap_alloc (w := w.drew) hlt) hnown
   have hStp := Stp.tok hR1 w.heap.size 0 ((xs.length + 1) * sz) (G * sz) hcellp hbel
   refine ⟨_, g.nx, hStp, (hR1.nxt _ (Nat.le_refl _)).2.2, hRn, ?_⟩
   refine .sl (sz := sz) (fun i j => if i < xs.length then fs i j else f j) (by simp) hGe (fun i hi => hlenxy vV hv i hi) (fun i j hi hj => .inr ⟨rfl, Nat.zero_le _, by have := at_lt hi hj; omega⟩) (fun i j hi hj => ?_)
    (fun i j hi hj => (hvals vV f hf _ _ hStp i j hi hj).1) (fun i j hi hj => (hvals vV f hf _ _ hStp i j hi hj).2) ?_
   ·have h2 := at_lt hi hj
    rw [show (⟨w.heap.size, 0 + i * sz + j, none⟩ : Addr) = ⟨w.drew.heap.size, i * sz + j, none⟩ by simp]
    rw [cell_new (w := w.drew), hCg f _ h2]
    congr 1
    by_cases hix : i < xs.length
    ·have h3 := at_lt hix hj
     rw [if_pos h3, if_pos hix, (div_mod_at hj).1, (div_mod_at hj).2]
    ·have h1 : i = xs.length := by omega
     subst h1
     rw [if_neg (by omega), if_neg hix, show xs.length * sz + j - xs.length * sz = j by omega]
   ·refine ⟨by omega, G * sz, ?_, by simp⟩
    simp [Gh.tok]
end
end Go.Ab

namespace Go.Ab
open Go.RowKit
variable [Glob] [Ar]
section
variable {P : Program} {nt : Nat} {ops : Array Oper} {H0 : Heap}
def nameF (A : Nat → Bool) : List Nat → Pv → Fr → Heap → (Fr → Heap → Prop) → Prop
 | [], _, fr, H, K => K fr H
 | d :: ds, pv, fr, H, K =>
  match pv (.inl d) with
  | some cs => if A d then ∀ id, H id = none → nameF A ds pv (fr.put (some d) (.ref id 0)) (upd H id (some (.cells cs))) K else nameF A ds pv (fr.put (some d) (.eref cs 0)) H K
  | none => False
theorem nameF_at {A : Nat → Bool} {w : World} {a : Act} {ids : Pk → Nat} {pv : Pv} {K : Fr → Heap → Prop} (hinj : ∀ d d' cs cs', pv d = some cs → pv d' = some cs' → d.var = true → d'.var = true → ids d = ids d' → d = d') :
 ∀ (ds : List Nat) (fr : Fr) (g : Gh) (H H1 : Heap), Rl g H w → ds.Nodup → (∀ d ∈ ds, ∀ cs, pv (.inl d) = some cs → H (ids (.inl d)) = some (.cells cs) ∧ ∃ b, g.mu (ids (.inl d)) = some b ∧ a.tmps.getD d undef = .pointer (some ⟨b, 0, none⟩)) →
  (∀ id b, H1 id = some b → H id = some b) → (∀ d ∈ ds, ∀ cs, pv (.inl d) = some cs → H1 (ids (.inl d)) = none) → FR nt g w a fr → nameF A ds pv fr H1 K → ∃ g' fr' H', Stp g w g' w ∧ Rl g' H' w ∧ FR nt g' w a fr' ∧ K fr' H'
 | [], fr, g, H, H1, hR, _, _, hl, _, hF, h => ⟨g, fr, H1, Stp.refl _ _, hR.less hl, hF, h⟩
 | d :: ds, fr, g, H, H1, hR, hnd, hpv, hl, hfr, hF, h => by
  simp only [nameF] at h
  have hnd' := List.nodup_cons.1 hnd
  split at h
  ·rename_i cs hcs
   obtain ⟨k1, b, k2, k3⟩ := hpv d (by simp) cs hcs
   split at h
   ·refine nameF_at hinj ds _ g H _ hR hnd'.2 (fun d' hd' => hpv d' (by simp [hd'])) (fun id bk hb => ?_) (fun d' hd' cs' hp => ?_) ?_ (h (ids (.inl d)) (hfr d (by simp) cs hcs))
    ·by_cases e : id = ids (.inl d)
     ·subst e; rw [upd_same] at hb; cases hb; exact k1
     ·rw [upd_other _ _ e] at hb; exact hl _ _ hb
    ·by_cases e : ids (.inl d') = ids (.inl d)
     ·exact absurd (hinj _ _ _ _ hp hcs rfl rfl e) fun x => hnd'.1 (by cases x; exact hd')
     ·rw [upd_other _ _ e]; exact hfr d' (by simp [hd']) cs' hp
    ·refine ⟨hF.size, fun t => ?_, hF.df⟩
     simp only [Fr.put]
     split
     ·rename_i e; subst e; rw [k3]; exact .ref k2
     ·exact hF.s t
   ·obtain ⟨g', s, hR', hv⟩ := hR.freeze k1
    have hF' := hF.mono s
    have e1 : ∀ d' ∈ ds, ∀ cs', pv (.inl d') = some cs' → (upd H (ids (.inl d)) none) (ids (.inl d')) = some (.cells cs') ∧ ∃ b, g'.mu (ids (.inl d')) = some b ∧ a.tmps.getD d' undef = .pointer (some ⟨b, 0, none⟩) := fun d' hd' cs' hp => by
     obtain ⟨q1, b', q2, q3⟩ := hpv d' (by simp [hd']) cs' hp
     have hne : ids (.inl d') ≠ ids (.inl d) := fun e => absurd (hinj _ _ _ _ hp hcs rfl rfl e) fun x => hnd'.1 (by cases x; exact hd')
     exact ⟨by rw [upd_other _ _ hne]; exact q1, b', s.mu _ _ q2, q3⟩
    have e2 : ∀ id bk, H1 id = some bk → (upd H (ids (.inl d)) none) id = some bk := fun id bk hb => by
     have hne : id ≠ ids (.inl d) := fun e => by subst e; rw [hfr d (by simp) cs hcs] at hb; cases hb
     rw [upd_other _ _ hne]; exact hl _ _ hb
    have e3 : FR nt g' w a (fr.put (some d) (.eref cs 0)) := by
     refine ⟨hF'.size, fun t => ?_, hF'.df⟩
     simp only [Fr.put]
     split
     ·rename_i e; subst e; rw [k3]; exact hv _ _ (.ref k2)
     ·exact hF'.s t
    obtain ⟨g2, fr2, H2, s2, r⟩ := nameF_at hinj ds _ g' _ H1 hR' hnd'.2 e1 e2 (fun d' hd' => hfr d' (by simp [hd'])) e3 h
    exact ⟨g2, fr2, H2, s.trans s2, r⟩
  ·exact h.elim
abbrev Tk := List (Nat × List V)
def pvW (W : Tk) (ex : Option Tail) : Pv
 | .inl _ => none
 | .inr id => (W.find? fun p => p.1 == id).map (·.2)
 | .tk _ => none
 | .ex => ex.map fun τ => [.sl [] τ]
def dropEx (H : Heap) : Option Tail → Heap
 | some τ => dropTok H τ
 | none => H
def nameTF (dx : Option Nat) (pv : Pv) (fr : Fr) (H : Heap) (K : Fr → Heap → Prop) : Prop :=
 match dx with
 | none => K fr H
 | some d => ∃ xs, (pv (.tk d)).isSome = true ∧ fr.s d = .sl xs .ro ∧ (∀ tl, tl = .nil ∨ tl = .full → K (fr.put (some d) (.sl xs tl)) H) ∧ ∀ t, H t = none → K (fr.put (some d) (.sl xs (.tok t))) (upd H t (some .spare))
theorem dropEx_sub {H : Heap} {ex : Option Tail} {id : Nat} {b : Blk} (h : dropEx H ex id = some b) : H id = some b ∧ ∀ t, ex = some (.tok t) → id ≠ t := by
 cases ex with
 | none => exact ⟨h, fun t ht => by cases ht⟩
 | some τ =>
  cases τ with
  | tok t =>
   simp only [dropEx, dropTok] at h
   by_cases e : id = t
   ·subst e; rw [upd_same] at h; cases h
   ·rw [upd_other _ _ e] at h; exact ⟨h, fun t' ht => by cases ht; exact e⟩
  | _ => exact ⟨h, fun t ht => by cases ht⟩
def without (H : Heap) : Tk → Heap
 | [] => H
 | (id, _) :: W => upd (without H W) id none
def giveF : Tk → Pv → Heap → (Heap → Prop) → Prop
 | [], _, H, K => K H
 | (id, _) :: W, pv, H, K => giveF W pv H fun H' => match pv (.inr id) with | some cs => K (upd H' id (some (.cells cs))) | none => False
theorem without_sub {H : Heap} : ∀ {W : Tk} {id : Nat} {b : Blk}, without H W id = some b → H id = some b ∧ ∀ p ∈ W, p.1 ≠ id
 | [], id, b, h => ⟨h, fun p hp => by simp at hp⟩
 | (i, c) :: W, id, b, h => by
  simp only [without] at h
  by_cases e : id = i
  ·subst e; rw [upd_same] at h; cases h
  ·rw [upd_other _ _ e] at h
   obtain ⟨h1, h2⟩ := without_sub h
   refine ⟨h1, fun p hp => ?_⟩
   rcases List.mem_cons.1 hp with rfl | hp
   ·exact fun x => e x.symm
   ·exact h2 p hp
theorem without_none {H : Heap} : ∀ {W : Tk} {p : Nat × List V}, p ∈ W → without H W p.1 = none
 | (i, c) :: W, p, h => by
  simp only [without]
  by_cases e : p.1 = i
  ·rw [e, upd_same]
  ·rw [upd_other _ _ e]
   rcases List.mem_cons.1 h with rfl | h
   ·exact absurd rfl e
   ·exact without_none h
theorem giveF_at {Hw : Heap} {pv : Pv} (hpv : ∀ id cs, pv (.inr id) = some cs → Hw id = some (.cells cs)) : ∀ (W : Tk) (H : Heap) (K : Heap → Prop), (∀ id b, H id = some b → Hw id = some b) → giveF W pv H K → ∃ H', (∀ id b, H' id = some b → Hw id = some b) ∧ (∀ id, H' id ≠ none → H id ≠ none ∨ ∃ cs, pv (.inr id) = some cs) ∧ K H'
 | [], H, K, hl, h => ⟨H, hl, fun id hn => .inl hn, h⟩
 | (i, c) :: W, H, K, hl, h => by
  simp only [giveF] at h
  obtain ⟨H', h1, h2, h3⟩ := giveF_at hpv W H _ hl h
  split at h3
  ·rename_i cs hcs
   refine ⟨_, fun id b hb => ?_, fun id hn => ?_, h3⟩
   ·by_cases e : id = i
    ·subst e; rw [upd_same] at hb; cases hb; exact hpv _ _ hcs
    ·rw [upd_other _ _ e] at hb; exact h1 _ _ hb
   ·by_cases e : id = i
    ·exact .inr ⟨cs, e ▸ hcs⟩
    ·rw [upd_other _ _ e] at hn
     exact h2 id hn
  ·exact h3.elim
end
def SimAny (P : Program) (nt : Nat) (rd : Option Nat) (ops : Array Oper) (fr : Fr) (H : Heap) (Q : Exit → Fr → Heap → Prop) : Prop :=
 ∀ r g w a, RdOk g rd r → Rl g H w → FR nt g w a fr → wpAnyIn (Fw r) 0 P .any ops (End nt g w Q) ops.size (Array.replicate ops.size false) a w.drew
theorem Sim.of_any {P : Program} {nt id : Nat} {rd : Option Nat} {ops : Array Oper} {fr : Fr} {H : Heap} {Q : Exit → Fr → Heap → Prop} (hm : P.follows .mixedOrders = true) (h : SimAny P nt rd ops fr H Q) : Sim P nt rd (.region id ops true) fr H Q :=
 fun r g w a hr hR hF => wpIn_region_any hm (h r g w a hr hR hF)
section
variable {P : Program} {nt : Nat} {ops : Array Oper} {H0 : Heap}
theorem SimAny.drawF {A : Ann} {rd : Option Nat} {k : Nat} {al : List Nat} {W : Tk} {ex : Option Tail} {dx : Option Nat} {fr : Fr} {Q : Exit → Fr → Heap → Prop} (hok : drawOk ops k = true) (hnd : al.Nodup)
 (hX : ∀ τ, ex = some τ → AppOk H0 τ) (hW : ∀ p ∈ W, dropEx H0 ex p.1 = some (.cells p.2))
 (h : drawB P nt ops (without (dropEx H0 ex) W) (ops.toList.take k) fr (pvW W ex) fun fr' pv => giveF W pv (without (dropEx H0 ex) W) fun H1 => nameTF dx pv fr' H1 fun fr1 H2 => nameF A al pv fr1 H2 fun fr'' H => opsA P A nt ops (ops.toList.drop k) fr'' H (Q .normal)) : SimAny P nt rd ops fr H0 Q := by
 intro r g w a _ hR hF
 obtain ⟨hk, hat⟩ := drawOk_at hok
 have sd : Stp g w g w.drew := ⟨fun _ _ e => e, fun _ _ e => e, fun _ _ e => e, rfl, fun _ _ _ => rfl, (Below.refl _ _).drew, fun _ _ _ => rfl⟩
 have hRd : Rl g H0 w.drew := by
  refine ⟨fun id b hb => (hR.blk id b hb).mono hb sd fun _ _ => ⟨rfl, fun _ ho => ho⟩, hR.inj, hR.frz, hR.nxt, hR.bnd, fun n => (hR.glb n).mono sd⟩
 have hI : DInv nt (without (dropEx H0 ex) W) g w.drew fr (pvW W ex) g w.drew a := by
  refine ⟨H0, fun k => match k with | .inl _ => 0 | .inr n => n | .tk _ => 0 | .ex => 0, Stp.refl _ _, hRd, hF.mono sd, fun id b hb => (dropEx_sub (without_sub hb).1).1, fun d cs h hv => ?_, fun d d' cs cs' h h' hv hv' e => ?_, fun _ => none, fun d cs h => (by cases h), fun d d' cs cs' t h => (by cases h), fun cs h => ?_⟩
  ·cases d with
   | inl d => cases h
   | inr n =>
    simp only [pvW] at h
    cases hf : W.find? fun p => p.1 == n with
    | none => rw [hf] at h; cases h
    | some p =>
     rw [hf] at h
     simp only [Option.map_some, Option.some.injEq] at h
     have hp := List.mem_of_find?_eq_some hf
     have hn : p.1 = n := by have := List.find?_some hf; simpa using this
     subst h; subst hn
     exact ⟨(dropEx_sub (hW p hp)).1, without_none hp, rfl⟩
   | tk d => cases h
   | ex => cases hv
  ·cases d with
   | inl d => cases h
   | tk d => cases h
   | ex => cases hv
   | inr n =>
    cases d' with
    | inl d' => cases h'
    | tk d' => cases h'
    | ex => cases hv'
    | inr n' => simp only at e; rw [e]
  ·cases hx : ex with
   | none => rw [hx] at h; cases h
   | some τ =>
    rw [hx] at h
    cases h
    refine ⟨τ, rfl, ?_⟩
    have hA := hX τ hx
    cases τ with
    | nil => exact .inl (.inl rfl)
    | full => exact .inl (.inr rfl)
    | ro => exact hA.elim
    | tok t =>
     refine .inr ⟨t, rfl, hA, ?_, fun d cs' h => by cases h⟩
     cases hn : without (dropEx H0 (some (.tok t))) W t with
     | none => rfl
     | some b => exact absurd rfl ((dropEx_sub (without_sub hn).1).2 t rfl)
 have hmap : (List.range k).map (fun i => ops.getD i default) = ops.toList.take k := by
  apply List.ext_getElem
  ·simp; omega
  ·intro i h1 h2
   simp at h1
   simp [Array.getD, show i < ops.size by omega]
 have hb := body_any (r := r) (Q := End nt g w Q) hk (fun i hi => ⟨(hat i hi).1, fun j hj => ((hat i hi).2 j hj).imp (fun h => h) .inl⟩) (K := fun fr' pv => giveF W pv (without (dropEx H0 ex) W) fun H1 => nameTF dx pv fr' H1 fun fr1 H2 => nameF A al pv fr1 H2 fun fr'' H => opsA P A nt ops (ops.toList.drop k) fr'' H (Q .normal)) (g0 := g) (w0 := w.drew)
  (fun g' w' a' fr' pv listed hsz hl hI' hK => ?_) k (List.range k) (Array.replicate ops.size false) fr (pvW W ex) (by simp) (List.pairwise_lt_range) (fun i hi => by simpa using hi) (by simp) (fun i b hi => by simp [Array.getD, hi]) (fun m j hm _ => by simp [Array.getD] at hm) (by rw [hmap]; exact h) g w.drew a hI
 ·rw [show k + (ops.size - k) = ops.size by omega] at hb
  exact hb
 ·obtain ⟨H, ids, s, hR', hF', hext, hpv, hinj, tks, htk, _⟩ := hI'
  have hex : ∀ n cs, pv (.inr n) = some cs → H n = some (.cells cs) := fun n cs hn => by
   obtain ⟨k1, _, k3⟩ := hpv _ cs hn rfl
   have k3 : ids (.inr n) = n := k3
   rwa [k3] at k1
  obtain ⟨H1, g1, g2, hK⟩ := giveF_at hex W _ _ hext hK
  have hfree : ∀ d cs, pv (.inl d) = some cs → H1 (ids (.inl d)) = none := fun d cs hd => by
   obtain ⟨k1, k2, _⟩ := hpv _ cs hd rfl
   cases hn : H1 (ids (.inl d)) with
   | none => rfl
   | some b =>
    exfalso
    rcases g2 _ (by rw [hn]; simp) with h | ⟨cs', hp⟩
    ·exact h k2
    ·have k3 : ids (.inr (ids (.inl d))) = ids (.inl d) := (hpv _ cs' hp rfl).2.2
     cases hinj _ _ _ _ hp hd rfl rfl k3
  have hmid : ∃ fr1 H1', FR nt g' w' a' fr1 ∧ (∀ id b, H1' id = some b → H id = some b) ∧ (∀ d cs, pv (.inl d) = some cs → H1' (ids (.inl d)) = none) ∧ nameF A al pv fr1 H1' fun fr'' H => opsA P A nt ops (ops.toList.drop k) fr'' H (Q .normal) := by
   rcases dx with _ | d
   ·exact ⟨fr', H1, hF', g1, hfree, hK⟩
   ·simp only [nameTF] at hK
    obtain ⟨xs, e1, e2, e3, e4⟩ := hK
    obtain ⟨c, hc⟩ := Option.isSome_iff_exists.1 e1
    obtain ⟨xs', tl, q1, q2, q3⟩ := htk d c hc
    rw [e2] at q1
    cases q1
    have hFR : FR nt g' w' a' (fr'.put (some d) (.sl xs tl)) := by
     refine ⟨hF'.size, fun t => ?_, hF'.df⟩
     simp only [Fr.put]
     split
     ·rename_i e; subst e; exact q2
     ·exact hF'.s t
    rcases q3 with ⟨_, q⟩ | ⟨t, _, q, q4, q5⟩
    ·exact ⟨_, H1, hFR, g1, hfree, e3 tl q⟩
    ·subst q
     have ht : H1 t = none := by
      cases hn : H1 t with
      | none => rfl
      | some b =>
       exfalso
       rcases g2 _ (by rw [hn]; simp) with h | ⟨cs', hp⟩
       ·exact h q5
       ·have := hex _ _ hp; rw [q4] at this; cases this
     refine ⟨_, _, hFR, fun id b hb => ?_, fun d' cs hd' => ?_, e4 t ht⟩
     ·by_cases e : id = t
      ·subst e; rw [upd_same] at hb; cases hb; exact q4
      ·rw [upd_other _ _ e] at hb; exact g1 _ _ hb
     ·have hne : ids (.inl d') ≠ t := fun e => by
       have := (hpv _ cs hd' rfl).1
       rw [e, q4] at this; cases this
      rw [upd_other _ _ hne]; exact hfree d' cs hd'
  obtain ⟨fr1, H1', hF1, g1', hfree', hK⟩ := hmid
  obtain ⟨g3, fr2, H2, s2, hR2, hF2, hK2⟩ := nameF_at hinj al fr1 g' H H1' hR' hnd (fun d _ cs hd => by
   obtain ⟨k1, _, _, b, k4, k5⟩ := hpv _ cs hd rfl
   exact ⟨k1, b, k4, k5⟩) g1' (fun d _ cs hd => hfree' d cs hd) hF1 hK
  exact tail_any (A := A) (r := r) (K := Q .normal) (k := k) (fun i hi => ⟨(hat i hi).1, fun j hj hkj => ((hat i hi).2 j hj).elim (fun h => h) fun h => absurd h.1 (by omega)⟩) (g0 := g) (w0 := w) (fun g3 w3 a3 fr3 H3 s3 hR3 hF3 hK3 => ⟨g3, fr3, H3, s3, hR3, hF3, hK3⟩) (ops.size - k) k listed fr2 H2 (by omega) (by omega) hsz hl hK2 g3 w' a' ((sd.trans s).trans s2) hR2 hF2
end
end Go.Ab

