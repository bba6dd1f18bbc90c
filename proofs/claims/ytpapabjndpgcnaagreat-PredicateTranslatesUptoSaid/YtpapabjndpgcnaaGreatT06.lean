/- AbO4 -/
import Derived.Test.YtpapabjndpgcnaaGreatT05
set_option linter.all false

namespace Go.Ab
open Go.RowKit
variable [Glob]
def over (xs : List V) (i : Nat) (ys : List V) : List V := xs.take i ++ ys ++ xs.drop (i + ys.length)
theorem over_length {xs ys : List V} {i : Nat} (h : i + ys.length ≤ xs.length) : (over xs i ys).length = xs.length := by simp [over]; omega
theorem over_getD {xs ys : List V} {i k : Nat} (h : i + ys.length ≤ xs.length) : (over xs i ys).getD k .bad = if i ≤ k ∧ k < i + ys.length then ys.getD (k - i) .bad else xs.getD k .bad := by
 simp only [over, List.getD_eq_getElem?_getD]
 rw [List.getElem?_append, List.getElem?_append]
 simp only [List.length_append, List.length_take, Nat.min_eq_left (show i ≤ xs.length by omega), List.getElem?_take, List.getElem?_drop]
 by_cases h1 : k < i
 ·rw [if_pos (by omega), if_pos h1, if_pos h1, if_neg (by omega)]
 ·by_cases h2 : k < i + ys.length
  ·rw [if_pos h2, if_neg h1, if_pos ⟨by omega, h2⟩]
  ·rw [if_neg h2, if_neg (by omega), show i + ys.length + (k - (i + ys.length)) = k by omega]
def srcO (H : Heap) (v : V) : Option (List V) :=
 match v with
 | .sl xs _ => some xs
 | .own id lo n => (arrO H id).map fun q => subL q.2 lo n
 | _ => none
theorem NextW.mono {P : Program} {K K' : Value → World → Prop} (h : ∀ v w, K v w → K' v w) {r : Result Next} (hr : NextW P K r) : NextW P K' r := by
 cases r with
 | halt x w => exact hr
 | ok n w =>
  cases n <;> first
   | exact h _ _ hr
   | exact CallsIn.mono hr fun e w' ⟨v, e1, e2⟩ => ⟨v, e1, h _ _ e2⟩
   | exact RoundIn.mono hr fun e w' ⟨v, e1, e2⟩ => ⟨v, e1, h _ _ e2⟩
   | exact hr
section
variable {P : Program} {o : Oper} {fr : Fr} {H : Heap} {K : V → Heap → Prop}
theorem VR.ownN {g : Gh} {w : World} {b o cap sz : Nat} {n : Int} (h1 : 0 ≤ n) (h2 : n ≤ cap) : VR (g.own b ⟨o, cap, sz⟩) w (.slice (some ⟨b, o, none⟩) n.toNat cap) (.own g.nx 0 n) := by
 have e' : (g.own b ⟨o, cap, sz⟩).ow g.nx = ⟨o, cap, sz⟩ := by simp [Gh.own]
 have := VR.own (g := g.own b ⟨o, cap, sz⟩) (w := w) (id := g.nx) (b := b) (lo := 0) (n := n) (p := some ⟨b, o, none⟩) (by simp [Gh.own]) (by omega) h1 (by rw [e']; simp only; omega) (by rw [e']; simp)
 rw [e'] at this
 exact this
theorem own_row {g : Gh} {H : Heap} {w : World} (hR : Rl g H w) {id sz : Nat} {lo n : Int} {xs : List V} {v : Value} (hk : H id = some (.arr sz xs)) (hv : VR g w v (.own id lo n)) :
 ∃ b p, g.mu id = some b ∧ v = .slice p n.toNat (xs.length - lo.toNat) ∧ 0 ≤ lo ∧ 0 ≤ n ∧ lo + n ≤ (xs.length : Nat) ∧ (g.ow id).sz = sz ∧ (g.ow id).cap = xs.length ∧
  (lo < (xs.length : Nat) → p = some ⟨b, (g.ow id).o + lo.toNat * sz, none⟩) ∧ (∀ i, i < xs.length → (xs.getD i .bad).cells.length = sz) ∧
  (xs.length = 0 ∨ ∃ c T, g.base ≤ b ∧ w.heap[b]? = some (.cells c T (0, 0)) ∧ (g.ow id).o + xs.length * sz ≤ c.size ∧
   (∀ i j, i < xs.length → j < sz → (c.getD ((g.ow id).o + i * sz + j) undef).oneCell' = true ∧ VR g w (c.getD ((g.ow id).o + i * sz + j) undef) ((xs.getD i .bad).cells.getD j .bad)) ∧
   (∀ o, (g.ow id).o ≤ o → ¬ g.fz b o) ∧ g.at H id = some b) := by
 obtain ⟨b, h1, h2, h3, h4, h5⟩ := hR.blk id _ hk
 cases hv with
 | own hm h0 h1' h2' hp =>
  rename_i p
  rw [h1] at hm; cases hm
  rw [h3] at h2' hp
  rw [h2] at hp
  refine ⟨b, p, h1, by rw [h3], h0, h1', h2', h2, h3, hp, h4, ?_⟩
  by_cases hc : xs.length = 0
  ·exact .inl hc
  ·rcases h5 with h5 | ⟨c, T, k1, k2, k3, k4, k5⟩
   ·exact .inl h5
   ·exact .inr ⟨c, T, k1, k2, k3, k4, k5, by simp only [Gh.at, hk, hc, if_false, h1]⟩
theorem src_cells (P : Program) {g : Gh} {H : Heap} {w : World} (hR : Rl g H w) {x : V} {v : Value} {xs : List V} {sz : Nat} (hx : srcO H x = some xs) (hv : VR g w v x) (hall : xs.all (fun x => x.cells.length == sz) = true) :
 ∃ (base : Option Addr) (cap : Nat) (vs : Nat → Nat → Value), v = .slice base xs.length cap ∧
  (∀ i j, i < xs.length → j < sz → (vs i j).oneCell' = true ∧ VR g w (vs i j) ((xs.getD i .bad).cells.getD j .bad)) ∧
  (∀ m, m ≤ xs.length → ∀ w' : World, (∀ b o, w'.cell? ⟨b, o, none⟩ = w.cell? ⟨b, o, none⟩) → (Builtin.firstCells sz m v).run P w' = .ok ((List.range (m * sz)).map fun k => vs (k / sz) (k % sz)).toArray w') := by
 unfold srcO at hx
 split at hx
 ·cases hx
  obtain ⟨base, cap, vs, h1, _, h2, h3, h4⟩ := slice_cells (P := P) hv hall
  refine ⟨base, cap, vs, h1, h2, fun m hm w' hw' => ?_⟩
  rcases h4 with ⟨rfl, _, _⟩ | ⟨b, q, rfl, h5, _⟩
  ·have : m = 0 := by simpa using hm
   subst this; cases base <;> simp [h1, Builtin.firstCells, loadCells, loadCellsFrom]
  ·rw [h1]
   simp only [Builtin.firstCells]
   refine run_loadCells w' _ _ _ fun k hk => ?_
   have hp : 0 < sz := by
    rcases Nat.eq_zero_or_pos sz with h | h
    ·rw [h, Nat.mul_zero] at hk; omega
    ·exact h
   have hi : k / sz < m := (Nat.div_lt_iff_lt_mul hp).2 hk
   have hj : k % sz < sz := Nat.mod_lt _ hp
   rw [addr_add, hw']
   have e3 : q + k = q + k / sz * sz + k % sz := by have := Nat.div_add_mod k sz; rw [Nat.mul_comm] at this; omega
   rw [e3]
   exact (h5 _ _ (by omega) hj).2
 ·rename_i id lo n
  cases ha : arrO H id with
  | none => rw [ha] at hx; cases hx
  | some q =>
   obtain ⟨sz0, zs⟩ := q
   rw [ha] at hx
   simp only [Option.map_some, Option.some.injEq] at hx
   subst hx
   obtain ⟨b, p, h1, h2, h3, h4, h5, h6, h7, h8, h9, h10⟩ := own_row hR (arrO_some ha) hv
   have hl : (subL zs lo n).length = n.toNat := by simp [subL]; omega
   rw [hl]
   have hsub : ∀ i, i < n.toNat → (subL zs lo n).getD i .bad = zs.getD (lo.toNat + i) .bad := fun i hi => by
    simp only [subL, List.getD_eq_getElem?_getD, List.getElem?_take, List.getElem?_drop, if_pos hi]
   by_cases hn : n.toNat = 0
   ·rw [hn] at h2 ⊢
    refine ⟨_, _, fun _ _ => undef, h2, fun i j hi => by omega, fun m hm w' _ => ?_⟩
    have : m = 0 := by omega
    subst this
    subst h2
    cases p with
    | none => simp [Builtin.firstCells]
    | some q => simp [Builtin.firstCells, loadCells, loadCellsFrom]
   ·have hlt : lo < (zs.length : Nat) := by omega
    rcases h10 with h10 | ⟨c, T, k1, k2, k3, k4, k5, k6⟩
    ·omega
    have hp := h8 hlt
    subst hp
    have hse : sz0 = sz := by
     have e1 := h9 (lo.toNat + 0) (by omega)
     have e2 := (List.all_eq_true.1 hall) ((subL zs lo n).getD 0 .bad) (by simp [List.getD, show 0 < (subL zs lo n).length by omega])
     rw [hsub 0 (by omega)] at e2
     rw [← e1]; simpa using e2
    subst hse
    refine ⟨_, _, fun i j => c.getD ((g.ow id).o + (lo.toNat + i) * sz0 + j) undef, h2, fun i j hi hj => ?_, fun m hm w' hw' => ?_⟩
    ·rw [hsub i hi]; exact k4 _ j (by omega) hj
    ·subst h2
     simp only [Builtin.firstCells, Option.map_some]
     have hp : 0 < sz0 ∨ sz0 = 0 := by omega
     refine run_loadCells w' _ _ _ fun k hk => ?_
     rcases hp with hp | hp
     ·have hi : k / sz0 < n.toNat := Nat.lt_of_lt_of_le ((Nat.div_lt_iff_lt_mul hp).2 hk) hm
      have hj : k % sz0 < sz0 := Nat.mod_lt _ hp
      have e1 := at_lt (n := zs.length) (i := lo.toNat + k / sz0) (by omega) hj
      rw [addr_add, hw']
      have e3 : (g.ow id).o + lo.toNat * sz0 + k = (g.ow id).o + (lo.toNat + k / sz0) * sz0 + k % sz0 := by
       have := Nat.div_add_mod k sz0; rw [Nat.mul_comm] at this; rw [Nat.add_mul]; omega
      rw [e3]
      simp [World.cell?, k2, Array.getD, show (g.ow id).o + (lo.toNat + k / sz0) * sz0 + k % sz0 < c.size by omega]
     ·subst hp; simp at hk
 ·cases hx
theorem lay_row {c C : Array Value} {A m : Nat} {vs : List Value} (hm : vs.length = m) (hA : A + m ≤ c.size) (hC : (c.toList.take A ++ vs ++ c.toList.drop (A + m)).toArray = C) :
 C.size = c.size ∧ ∀ k, k < c.size → C[k]? = if A ≤ k ∧ k < A + m then vs[k - A]? else c[k]? := by
 subst hC
 refine ⟨by simp; omega, fun k hk => ?_⟩
 simp only [List.getElem?_toArray, List.append_assoc]
 rw [List.getElem?_append, List.getElem?_append]
 simp only [List.length_take, Array.length_toList, Nat.min_eq_left (show A ≤ c.size by omega), List.getElem?_take, List.getElem?_drop, Array.getElem?_toList]
 by_cases q1 : k < A
 ·rw [if_pos q1, if_pos q1, if_neg (by omega)]
 ·rw [if_neg q1]
  by_cases q2 : k < A + m
  ·rw [if_pos (by omega), if_pos ⟨by omega, q2⟩]
  ·rw [if_neg (by omega), if_neg (by omega), hm, show A + m + (k - A - m) = k by omega]
theorem lay_own (P : Program) {g : Gh} {H : Heap} {w : World} (hR : Rl g H w) {id sz i m : Nat} {xs ys : List V} {b : Nat} {c : Array Value} {T : TypeId} (hpos : 0 < sz) (hk : H id = some (.arr sz xs)) (hb : g.mu id = some b)
 (hsz : (g.ow id).sz = sz) (hin : i + ys.length ≤ xs.length) (hnz : xs.length ≠ 0) (hm : ys.length = m)
 (k2 : w.heap[b]? = some (.cells c T (0, 0))) (k3 : (g.ow id).o + xs.length * sz ≤ c.size)
 (k4 : ∀ i j, i < xs.length → j < sz → (c.getD ((g.ow id).o + i * sz + j) undef).oneCell' = true ∧ VR g w (c.getD ((g.ow id).o + i * sz + j) undef) ((xs.getD i .bad).cells.getD j .bad))
 (hlenx : ∀ i, i < xs.length → (xs.getD i .bad).cells.length = sz) (hleny : ∀ i, i < ys.length → (ys.getD i .bad).cells.length = sz) (fy : Nat → Nat → Value)
 (hfy : ∀ i j, i < ys.length → j < sz → (fy i j).oneCell' = true ∧ VR g w (fy i j) ((ys.getD i .bad).cells.getD j .bad)) :
 ∃ C, (storeCells ⟨b, (g.ow id).o + i * sz, none⟩ ((List.range (m * sz)).map fun k => fy (k / sz) (k % sz))).run P w = .ok () (w.setRow b C) ∧
  Stp g w g (w.setRow b C) ∧ Rl g (upd H id (some (.arr sz (over xs i ys)))) (w.setRow b C) := by
 subst hm
 have hadd : (i + ys.length) * sz = i * sz + ys.length * sz := Nat.add_mul _ _ _
 have hcapsz : (i + ys.length) * sz ≤ xs.length * sz := Nat.mul_le_mul_right _ hin
 have hmem : ∀ v ∈ ((List.range (ys.length * sz)).map fun k => fy (k / sz) (k % sz)), v.oneCell' = true := by
  intro v hv
  obtain ⟨k, hk, rfl⟩ := List.mem_map.1 hv
  have hk' := List.mem_range.1 hk
  exact (hfy _ _ ((Nat.div_lt_iff_lt_mul hpos).2 hk') (Nat.mod_lt _ hpos)).1
 have hst := run_storeCells_at P b ((g.ow id).o + i * sz) T ((List.range (ys.length * sz)).map fun k => fy (k / sz) (k % sz)) 0 c w k2 (by simp; omega) hmem
 generalize hC : (c.toList.take ((g.ow id).o + i * sz + 0) ++ ((List.range (ys.length * sz)).map fun k => fy (k / sz) (k % sz)) ++
  c.toList.drop ((g.ow id).o + i * sz + 0 + ((List.range (ys.length * sz)).map fun k => fy (k / sz) (k % sz)).length)).toArray = C at hst
 have hL : ((List.range (ys.length * sz)).map fun k => fy (k / sz) (k % sz)).length = ys.length * sz := by simp
 rw [hL, Nat.add_zero] at hC
 obtain ⟨hCs, hCg⟩ := lay_row hL (by omega) hC
 refine ⟨C, hst, ?_⟩
 refine hR.setArr hk hb hnz k2 hCs (fun o ho => ?_) (over_length hin) (fun j hj => ?_) (fun j t hj ht => ?_)
 ·by_cases h : o < c.size
  ·rw [hCg o h, if_neg (by omega)]
  ·rw [Array.getElem?_eq_none (by omega), Array.getElem?_eq_none (by omega)]
 ·rw [over_length hin] at hj
  rw [over_getD hin]
  split
  ·exact hleny _ (by omega)
  ·exact hlenx _ hj
 ·rw [over_length hin] at hj
  have e1 := at_lt (n := xs.length) hj ht
  have hin' : (g.ow id).o + j * sz + t < c.size := by omega
  rw [over_getD hin]
  simp only [Array.getD_eq_getD_getElem?, hCg _ hin']
  by_cases hji : i ≤ j ∧ j < i + ys.length
  ·have h1 : i * sz ≤ j * sz := Nat.mul_le_mul_right _ hji.1
   have h2 := at_lt (n := i + ys.length) hji.2 ht
   have h3 : (j - i) * sz = j * sz - i * sz := Nat.sub_mul _ _ _
   rw [if_pos ⟨by omega, by omega⟩, if_pos hji, show (g.ow id).o + j * sz + t - ((g.ow id).o + i * sz) = (j - i) * sz + t by omega, List.getElem?_map, List.getElem?_range (by have := at_lt (n := ys.length) (i := j - i) (by omega) ht; omega)]
   simp only [Option.map_some, Option.getD_some, (div_mod_at ht).1, (div_mod_at ht).2]
   exact hfy _ t (by omega) ht
  ·have hne : ¬ ((g.ow id).o + i * sz ≤ (g.ow id).o + j * sz + t ∧ (g.ow id).o + j * sz + t < (g.ow id).o + i * sz + ys.length * sz) := by
    rintro ⟨q1, q2⟩
    rcases Nat.lt_or_ge j i with h | h
    ·have := Nat.mul_le_mul_right sz (show j + 1 ≤ i by omega)
     rw [Nat.add_mul, Nat.one_mul] at this
     omega
    ·have h' : i + ys.length ≤ j := by omega
     have := Nat.mul_le_mul_right sz h'
     omega
   rw [if_neg hne, if_neg hji]
   have := k4 j t hj ht
   simpa only [Array.getD_eq_getD_getElem?] using this
theorem subL_length {xs : List V} {lo n : Int} (h0 : 0 ≤ lo) (h1 : 0 ≤ n) (h2 : lo + n ≤ (xs.length : Nat)) : (subL xs lo n).length = n.toNat := by simp [subL]; omega
theorem subL_getD {xs : List V} {lo n : Int} {i : Nat} (hi : i < n.toNat) : (subL xs lo n).getD i .bad = xs.getD (lo.toNat + i) .bad := by
 simp only [subL, List.getD_eq_getElem?_getD, List.getElem?_take, List.getElem?_drop, if_pos hi]
theorem all_of_getD {xs : List V} {sz : Nat} (h : ∀ i, i < xs.length → (xs.getD i .bad).cells.length = sz) : xs.all (fun x => x.cells.length == sz) = true := by
 rw [List.all_eq_true]
 intro x hx
 obtain ⟨i, hi, rfl⟩ := List.getElem_of_mem hx
 have := h i hi
 simpa [List.getD, hi] using this
theorem getD_of_all {xs : List V} {sz : Nat} (h : xs.all (fun x => x.cells.length == sz) = true) : ∀ i, i < xs.length → (xs.getD i .bad).cells.length = sz := fun i hi => by
 have := (List.all_eq_true.1 h) (xs.getD i .bad) (by simp [List.getD, hi])
 simpa using this
theorem app_new {g : Gh} {w : World} {H : Heap} {K : V → Heap → Prop} (hR : Rl g H w) {e : TypeId} {sz G : Nat} {z : V} {xs ys : List V} {zv : Value} (hpos : 0 < sz) (hzv : VR g w zv z) (hz1 : z.one = true) (hzl : z.cells.length = sz)
 (hlenx : ∀ i, i < xs.length → (xs.getD i .bad).cells.length = sz) (hleny : ∀ i, i < ys.length → (ys.getD i .bad).cells.length = sz) {fs fy : Nat → Nat → Value}
 (hfs : ∀ i j, i < xs.length → j < sz → (fs i j).oneCell' = true ∧ VR g w (fs i j) ((xs.getD i .bad).cells.getD j .bad))
 (hfy : ∀ i j, i < ys.length → j < sz → (fy i j).oneCell' = true ∧ VR g w (fy i j) ((ys.getD i .bad).cells.getD j .bad)) (hGe : xs.length + ys.length ≤ G) {m : Int} (hm : m = ((xs.length + ys.length : Nat) : Int))
 (hout : ∀ t k, H t = none → K (.own t 0 m) (upd H t (some (.arr sz (xs ++ ys ++ List.replicate k z))))) :
 Post g w K (.slice (some ⟨w.heap.size, 0, none⟩) (xs.length + ys.length) G)
  (w.drew.alloc (.cells (((List.range (xs.length * sz)).map fun k => fs (k / sz) (k % sz)).toArray ++ ((List.range (ys.length * sz)).map fun k => fy (k / sz) (k % sz)).toArray ++
   Builtin.zeroCells zv.cells (G - (xs.length + ys.length))) e)) := by
 obtain ⟨hzs', hzc⟩ := hzv.cells hz1
 have hzs : zv.cells.size = sz := by rw [hzs', hzl]
 generalize hC : ((List.range (xs.length * sz)).map fun k => fs (k / sz) (k % sz)).toArray ++ ((List.range (ys.length * sz)).map fun k => fy (k / sz) (k % sz)).toArray ++ Builtin.zeroCells zv.cells (G - (xs.length + ys.length)) = C
 have hadd : (xs.length + ys.length) * sz = xs.length * sz + ys.length * sz := Nat.add_mul _ _ _
 have hGs : (xs.length + ys.length) * sz ≤ G * sz := Nat.mul_le_mul_right _ hGe
 have hCs : C.size = G * sz := by
  rw [← hC]
  simp only [Array.size_append, List.size_toArray, List.length_map, List.length_range, size_zeroCells, hzs, Nat.sub_mul]
  omega
 have hCg : ∀ k, k < (xs.length + ys.length) * sz → C[k]? = some (if k < xs.length * sz then fs (k / sz) (k % sz) else fy ((k - xs.length * sz) / sz) ((k - xs.length * sz) % sz)) := by
  intro k hk
  rw [← hC, Array.getElem?_append, if_pos (by simp; omega), Array.getElem?_append]
  simp only [List.size_toArray, List.length_map, List.length_range, List.getElem?_toArray, List.getElem?_map]
  split
  ·rw [List.getElem?_range (by assumption)]; rfl
  ·rw [List.getElem?_range (by omega)]; rfl
 have hCz : ∀ k, (xs.length + ys.length) * sz ≤ k → k < G * sz → C[k]? = zv.cells[(k - (xs.length + ys.length) * sz) % sz]? := by
  intro k hk hk2
  rw [← hC, Array.getElem?_append, if_neg (by simp; omega)]
  simp only [Array.size_append, List.size_toArray, List.length_map, List.length_range]
  rw [show k - (xs.length * sz + ys.length * sz) = k - (xs.length + ys.length) * sz by omega]
  have hs := size_zeroCells zv.cells (G - (xs.length + ys.length))
  have hlt : k - (xs.length + ys.length) * sz < (G - (xs.length + ys.length)) * sz := by rw [Nat.sub_mul]; omega
  generalize k - (xs.length + ys.length) * sz = q at hlt ⊢
  have hq : q % sz < zv.cells.size := by rw [hzs]; exact Nat.mod_lt _ hpos
  unfold Builtin.zeroCells
  simp [hzs, hlt, Array.getElem?_map, Array.getElem?_range]
  rw [getElem!_pos zv.cells (q % sz) hq, getElem?_pos zv.cells (q % sz) hq]
 have hcellp : ∀ x o, g.fz x o → (w.drew.alloc (.cells C e)).cell? ⟨x, o, none⟩ = w.cell? ⟨x, o, none⟩ := fun x o hf => cell_alloc (w := w.drew) (hR.fz_lt hf)
 have hbel : Below g.base w (w.drew.alloc (.cells C e)) := (Below.refl _ _).drew.alloc hR.bnd _
 have hln : (xs ++ ys ++ List.replicate (G - (xs.length + ys.length)) z).length = G := by simp; omega
 have hget : ∀ i, i < G → (xs ++ ys ++ List.replicate (G - (xs.length + ys.length)) z).getD i .bad = if i < xs.length then xs.getD i .bad else if i < xs.length + ys.length then ys.getD (i - xs.length) .bad else z := by
  intro i hi
  rw [getD_append, getD_append]
  simp only [List.length_append]
  by_cases h1 : i < xs.length
  ·rw [if_pos (by omega), if_pos h1, if_pos h1]
  ·rw [if_neg h1]
   by_cases h2 : i < xs.length + ys.length
   ·rw [if_pos h2, if_pos h2, if_neg h1]
   ·rw [if_neg h2, if_neg h2, if_neg h1]
    simp only [List.getD_eq_getElem?_getD, List.getElem?_replicate]
    rw [if_pos (by omega)]; rfl
 obtain ⟨s, r, hnone⟩ := Rl.newArr (w' := w.drew.alloc (.cells C e)) hR (b := w.heap.size) (o := 0) (sz := sz) (ys := xs ++ ys ++ List.replicate (G - (xs.length + ys.length)) z)
  (fun i hi => by
   rw [hln] at hi
   rw [hget i hi]
   split
   ·exact hlenx i (by assumption)
   ·split
    ·exact hleny _ (by omega)
    ·exact hzl) hcellp hbel (fun x _ hlt => heap_alloc (w := w.drew) hlt)
  (.inr ⟨C, e, hR.bnd, heap_new (w := w.drew) (o := .cells C e), by rw [hln, hCs]; omega, fun i j hi hj => by
   rw [hln] at hi
   have h2 := at_lt (n := G) hi hj
   rw [hget i hi]
   simp only [Nat.zero_add]
   by_cases hix : i < xs.length
   ·have h3 := at_lt hix hj
    have h4 : i * sz + j < (xs.length + ys.length) * sz := by omega
    simp only [Array.getD_eq_getD_getElem?, hCg _ h4, Option.getD_some]
    rw [if_pos h3, if_pos hix, (div_mod_at hj).1, (div_mod_at hj).2]
    exact hfs i j hix hj
   ·have h1 : xs.length * sz ≤ i * sz := Nat.mul_le_mul_right _ (by omega)
    have h3 : (i - xs.length) * sz = i * sz - xs.length * sz := Nat.sub_mul _ _ _
    rw [if_neg hix]
    by_cases hiy : i < xs.length + ys.length
    ·have h4 := at_lt hiy hj
     simp only [Array.getD_eq_getD_getElem?, hCg _ h4, Option.getD_some]
     rw [if_neg (by omega), if_pos hiy, show i * sz + j - xs.length * sz = (i - xs.length) * sz + j by omega, (div_mod_at hj).1, (div_mod_at hj).2]
     exact hfy _ j (by omega) hj
    ·have h1' : (xs.length + ys.length) * sz ≤ i * sz := Nat.mul_le_mul_right _ (by omega)
     have h3' : (i - (xs.length + ys.length)) * sz = i * sz - (xs.length + ys.length) * sz := Nat.sub_mul _ _ _
     rw [if_neg hiy]
     have e1 : C.getD (i * sz + j) undef = zv.cells.getD j undef := by
      simp only [Array.getD_eq_getD_getElem?]
      rw [hCz _ (by omega) h2, show i * sz + j - (xs.length + ys.length) * sz = (i - (xs.length + ys.length)) * sz + j by omega, (div_mod_at hj).2]
     rw [e1]
     exact hzc j (by omega), fun q _ hf => absurd (hR.fz_lt hf) (Nat.lt_irrefl _), fun id hid => absurd (hR.lt hid) (Nat.lt_irrefl _)⟩)
 rw [hln] at s r
 refine ⟨_, _, _, s, r, ?_, hout g.nx _ hnone⟩
 have := VR.ownN (g := g) (w := w.drew.alloc (.cells C e)) (b := w.heap.size) (o := 0) (cap := G) (sz := sz) (n := m) (by omega) (by omega)
 rwa [hm, Int.toNat_natCast, ← hm] at this
theorem app_in {g : Gh} {w : World} {H : Heap} {K : V → Heap → Prop} (hR : Rl g H w) {id sz : Nat} {lo n : Int} {xs ys : List V} {vs : Value} (hk : H id = some (.arr sz xs)) (hv : VR g w vs (.own id lo n)) (hpos : 0 < sz)
 (hleny : ∀ i, i < ys.length → (ys.getD i .bad).cells.length = sz) {fy : Nat → Nat → Value} (hfy : ∀ i j, i < ys.length → j < sz → (fy i j).oneCell' = true ∧ VR g w (fy i j) ((ys.getD i .bad).cells.getD j .bad))
 (hfit : lo + n + (ys.length : Nat) ≤ (xs.length : Nat)) (hin : K (.own id lo (n + (ys.length : Nat))) (upd H id (some (.arr sz (over xs (lo + n).toNat ys))))) :
 ∃ base cap w', vs = .slice base n.toNat cap ∧ n.toNat + ys.length ≤ cap ∧ cap = xs.length - lo.toNat ∧
  (match base with | some a => (storeCells (a.add (n.toNat * sz)) ((List.range (ys.length * sz)).map fun k => fy (k / sz) (k % sz))).run P w | none => .ok () w) = .ok () w' ∧
  Post g w K (.slice base (n.toNat + ys.length) cap) w' := by
 obtain ⟨b, p, h1, h2, h3, h4, h5, h6, h7, h8, h9, h10⟩ := own_row hR hk hv
 by_cases hcap0 : lo = (xs.length : Nat)
 ·
  have hy0 : ys = [] := List.length_eq_zero_iff.1 (by omega)
  have hn0 : n = 0 := by omega
  subst hy0; subst hn0
  refine ⟨_, _, w, h2, by simp, rfl, by cases p <;> simp [storeCells], ?_⟩
  have e : over xs (lo + 0).toNat [] = xs := by simp [over]
  rw [e] at hin
  refine ⟨g, .own id lo 0, H, Stp.refl _ _, hR, ?_, ?_⟩
  rotate_right
  ·have : upd H id (some (.arr sz xs)) = H := by
    funext x
    simp only [upd]
    split
    ·next e => subst e; exact hk.symm
    ·rfl
   rw [this] at hin
   exact hin
  ·rw [h2] at hv; simpa using hv
 ·have hlt : lo < (xs.length : Nat) := by omega
  have hp := h8 hlt
  subst hp
  rcases h10 with h10 | ⟨c, T, k1, k2, k3, k4, k5, k6⟩
  ·omega
  obtain ⟨C, hst, s, r⟩ := lay_own P hR (i := (lo + n).toNat) (m := ys.length) (ys := ys) hpos hk h1 h6 (by omega) (by omega) rfl k2 k3 k4 h9 hleny fy hfy
  refine ⟨_, _, w.setRow b C, h2, by omega, rfl, ?_, ?_⟩
  ·simp only [Option.map_some, addr_add]
   rw [show (g.ow id).o + lo.toNat * sz + n.toNat * sz = (g.ow id).o + (lo + n).toNat * sz by rw [show (lo + n).toNat = lo.toNat + n.toNat by omega, Nat.add_mul]; omega]
   exact hst
  ·refine ⟨g, _, _, s, r, ?_, hin⟩
   have := VR.own (g := g) (w := w.setRow b C) (id := id) (b := b) (lo := lo) (n := n + (ys.length : Nat)) (p := some ⟨b, (g.ow id).o + lo.toNat * sz, none⟩) h1 h3 (by omega) (by rw [h7]; omega) (fun _ => by rw [h6])
   rw [h7] at this
   rwa [show (n + (ys.length : Nat)).toNat = n.toNat + ys.length by omega] at this
theorem oappend_core {g : Gh} {w : World} (hR : Rl g H w) {vs vy : Value} {yV : V} {ty : TypeId} {cs : Array Bool} {sT yT e : TypeId} {id sz by_ : Nat} {lo n : Int} {z : V} {xs ys ys0 : List V} (hvs : VR g w vs (.own id lo n)) (hvy : VR g w vy yV)
 (hk : H id = some (.arr sz xs)) (hy : srcO H yV = some ys0) (hle : LeVs ys0 ys) (he : slO P sT = some e) (hyT : (slO P yT).isSome = true) (hsz : szO P e = some sz) (hpos : 0 < sz) (hby : byO P e = some by_) (hbp : 0 < by_)
 (hz : zeO P e = some z) (hz1 : z.one = true) (hzl : z.cells.length = sz) (hay : ys.all (fun x => x.cells.length == sz) = true)
 (hin : lo + n + (ys.length : Nat) ≤ (xs.length : Nat) → K (.own id lo (n + (ys.length : Nat))) (upd H id (some (.arr sz (over xs (lo + n).toNat ys)))))
 (hout : (xs.length : Nat) < lo + n + (ys.length : Nat) → (n.toNat + ys.length) * by_ ≤ 140737488355328 ∧ ∀ t k, H t = none → K (.own t 0 (n + (ys.length : Nat))) (upd H t (some (.arr sz (subL xs lo n ++ ys ++ List.replicate k z))))) :
 NextW P (Post g w K) ((builtin .append #[sT, yT] ty cs #[vs, vy]).run P w) := by
 obtain ⟨ybase, ycap, fy, ey, hfy0, hry⟩ := src_cells P hR hy hvy (hle.sz hay)
 rw [hle.length] at ey hfy0 hry
 have hry := hry _ (Nat.le_refl _)
 have hfy : ∀ i j, i < ys.length → j < sz → (fy i j).oneCell' = true ∧ VR g w (fy i j) ((ys.getD i .bad).cells.getD j .bad) := fun i j hi hj => ⟨(hfy0 i j hi hj).1, (hfy0 i j hi hj).2.le ((hle.at i).cells.at j)⟩
 have hleny := getD_of_all hay
 have hu := slO_some he
 obtain ⟨e', hyT'⟩ := Option.isSome_iff_exists.1 hyT
 have huy := slO_some hyT'
 obtain ⟨zv, ez, hzv⟩ := zeO_run hz
 have hzr : VR g w zv z := by rw [ez]; exact cv_rel g w zv
 have hzs : zv.cells.size = sz := by rw [(hzr.cells hz1).1, hzl]
 have hbytes : ∀ w, (typeInfo e).run P w = .ok ((P.info? e).getD default) w ∧ ((P.info? e).getD default).bytes = by_ := by
  intro w
  unfold byO at hby
  cases hi : P.info? e with
  | none => simp [hi] at hby
  | some i => simp [hi] at hby; simp [typeInfo, hi, hby]
 have hbi : ∀ w, (typeInfo e).run P w = .ok ((P.info? e).getD default) w := fun w => (hbytes w).1
 have hbb := (hbytes w).2
 obtain ⟨b, p, h1, h2, h3, h4, h5, h6, h7, h8, h9, h10⟩ := own_row hR hk hvs
 simp only [builtin, List.map_toArray, List.map_cons, List.map_nil, Sem.run_bind, ey]
 by_cases hc : lo + n + (ys.length : Nat) ≤ (xs.length : Nat)
 ·obtain ⟨base, cap, w', q1, q2, q3, q4, q5⟩ := app_in (P := P) hR hk hvs hpos hleny hfy hc (hin hc)
  rw [q1]
  have hrun : (Builtin.append_ #[sT, yT] ty #[.slice base n.toNat cap, .slice ybase ys.length ycap]).run P w = .ok (.slice base (n.toNat + ys.length) cap) w' := by
   have hry' := hry w fun _ _ => rfl
   rw [ey] at hry'
   simp only [Builtin.append_, Sem.run_bind, run_underlying hu, Result.andThen_ok, run_szO hsz, run_underlying huy, Sem.run_pure, Builtin.lenOf, Sem.run_ite, List.getElem?_toArray,
    List.getElem?_cons_zero, List.getElem?_cons_succ, Bool.false_eq_true, if_false, Bool.not_false, if_true, if_pos q2, hry']
   cases base with
   | none => simp only at q4; cases q4; rfl
   | some a => simp only at q4; simp only [q4, Sem.run_bind, Sem.run_pure, Result.andThen_ok]
  rw [hrun]
  simp only [Result.andThen_ok, Sem.run_pure, NextW]
  exact q5
 ·obtain ⟨hbound, hout⟩ := hout (by omega)
  have hall : (subL xs lo n).all (fun x => x.cells.length == sz) = true := all_of_getD fun i hi => by
   rw [subL_length h3 h4 h5] at hi
   rw [subL_getD hi]; exact h9 _ (by omega)
  obtain ⟨base, cap, fs, es, hfs, hrs⟩ := src_cells P hR (x := .own id lo n) (xs := subL xs lo n) (by simp [srcO, arrO, hk]) hvs hall
  have hrs := hrs _ (Nat.le_refl _)
  have hsl := subL_length h3 h4 h5
  have hcap : cap = xs.length - lo.toNat := by rw [h2] at es; simp only [Value.slice.injEq] at es; omega
  have hc' : ¬ ((subL xs lo n).length + ys.length ≤ cap) := by omega
  have hnf : ¬ (2 ^ 48 < Builtin.nextslicecap ((subL xs lo n).length + ys.length) cap * by_) := by
   have := growslice_fits (Nat.lt_of_not_le hc') (by rw [hsl]; exact hbound); omega
  have hdr : ∀ b o, w.drew.cell? ⟨b, o, none⟩ = w.cell? ⟨b, o, none⟩ := fun _ _ => rfl
  generalize hG : grownCap w ((subL xs lo n).length + ys.length) cap e = G
  have hGe : (subL xs lo n).length + ys.length ≤ G := by rw [← hG]; exact grownCap_ge w _ _ _
  have hn63' : ¬ (IntKind.i64.max < (((subL xs lo n).length + ys.length : Nat) : Int) ∧ (False ∨ by_ = 0)) := by
   rintro ⟨_, hF | hF⟩
   ·exact hF
   ·omega
  have hrun : (Builtin.append_ #[sT, yT] ty #[.slice base (subL xs lo n).length cap, .slice ybase ys.length ycap]).run P w =
   .ok (.slice (some ⟨w.heap.size, 0, none⟩) ((subL xs lo n).length + ys.length) G)
    (w.drew.alloc (.cells (((List.range ((subL xs lo n).length * sz)).map fun k => fs (k / sz) (k % sz)).toArray ++ ((List.range (ys.length * sz)).map fun k => fy (k / sz) (k % sz)).toArray ++
     Builtin.zeroCells zv.cells (G - ((subL xs lo n).length + ys.length))) e)) := by
   have hGd : (Question.appendCap ((subL xs lo n).length + ys.length) cap e).cut (w.tape w.drawn (.appendCap ((subL xs lo n).length + ys.length) cap e)) = G := hG
   have hf : (Question.appendCap ((subL xs lo n).length + ys.length) cap e).forced = false := rfl
   have hrs' := hrs w.drew hdr
   rw [es] at hrs'
   have hry' := hry w.drew hdr
   rw [ey] at hry'
   simp only [Builtin.append_, Sem.run_bind, run_underlying hu, Result.andThen_ok, run_szO hsz, run_underlying huy, Sem.run_pure, Builtin.lenOf, Sem.run_ite, hbi, hbb, List.getElem?_toArray,
    List.getElem?_cons_zero, List.getElem?_cons_succ, Bool.false_eq_true, if_false, Bool.not_false, if_true, gt_iff_lt, false_or, if_neg hc', if_neg hnf, run_choose, hf, hGd, World.drew_eq, run_askRoom, hrs', hry', hzv, newRow, run_newObj,
    World.alloc_eq, World.size_drew]
   rw [if_neg (by simpa using hn63')]
  rw [es, hrun]
  simp only [Result.andThen_ok, Sem.run_pure, NextW]
  exact app_new (K := K) hR hpos hzr hz1 hzl (getD_of_all hall) hleny hfs hfy hGe (m := n + (ys.length : Nat)) (by omega) hout
def Src (sz : Nat) (H : Heap) (v : V) (ys' : List V) : Prop :=
 match v with
 | .sl xs _ => LeVs xs ys' ∧ ys'.all (fun x => x.cells.length == sz) = true
 | .own id lo n => ∃ xs, H id = some (.arr sz xs) ∧ LeVs (subL xs lo n) ys'
 | _ => False
theorem Src.inv {g : Gh} {w : World} {sz : Nat} {x : V} {v : Value} {ys' : List V} (h : Src sz H x ys') (hR : Rl g H w) (hv : VR g w v x) : ∃ ys0, srcO H x = some ys0 ∧ LeVs ys0 ys' ∧ ys'.all (fun x => x.cells.length == sz) = true := by
 unfold Src at h
 split at h
 ·exact ⟨_, rfl, h⟩
 ·obtain ⟨xs, hk, hl⟩ := h
  obtain ⟨b, p, h1, h2, h3, h4, h5, h6, h7, h8, h9, h10⟩ := own_row hR hk hv
  refine ⟨_, by simp only [srcO, arrO, hk, Option.map_some], hl, all_of_getD fun i hi => ?_⟩
  rw [← hl.length] at hi
  rw [← (hl.at i).cells.length]
  rw [subL_length h3 h4 h5] at hi
  rw [subL_getD hi]
  exact h9 _ (by omega)
 ·exact h.elim
theorem sim_oappend {s y : Operand} {sT yT e : TypeId} {id sz by_ : Nat} {lo n : Int} {z : V} {xs ys : List V} (ho : o.op = .call { callee := .builtin .append, args := #[s, y], argTypes := #[sT, yT] })
 (hs : ev fr s = .own id lo n) (hk : H id = some (.arr sz xs)) (hsrc : Src sz H (ev fr y) ys) (he : slO P sT = some e) (hyT : (slO P yT).isSome = true) (hsz : szO P e = some sz) (hpos : 0 < sz) (hby : byO P e = some by_) (hbp : 0 < by_)
 (hz : zeO P e = some z) (hz1 : z.one = true) (hzl : z.cells.length = sz)
 (hin : lo + n + (ys.length : Nat) ≤ (xs.length : Nat) → K (.own id lo (n + (ys.length : Nat))) (upd H id (some (.arr sz (over xs (lo + n).toNat ys)))))
 (hout : (xs.length : Nat) < lo + n + (ys.length : Nat) → (n.toNat + ys.length) * by_ ≤ 140737488355328 ∧ ∀ t k, H t = none → K (.own t 0 (n + (ys.length : Nat))) (upd H t (some (.arr sz (subL xs lo n ++ ys ++ List.replicate k z))))) : SimOp P o fr H K := by
 intro g w a hR hE
 have hvs := ev_rel hR hE s
 rw [hs] at hvs
 obtain ⟨ys0, hy, hle, hay⟩ := hsrc.inv hR (ev_rel hR hE y)
 rw [run_builtin ho]
 simp only [List.map_toArray, List.map_cons, List.map_nil]
 exact oappend_core hR hvs (ev_rel hR hE y) hk hy hle he hyT hsz hpos hby hbp hz hz1 hzl hay hin hout
theorem sim_oappend0 {s y : Operand} {sT yT e : TypeId} {sz by_ : Nat} {z : V} {ys : List V} (ho : o.op = .call { callee := .builtin .append, args := #[s, y], argTypes := #[sT, yT] })
 (hs : ev fr s = .sl [] .nil ∨ ev fr s = .sl [] .full) (hsrc : Src sz H (ev fr y) ys) (he : slO P sT = some e) (hyT : (slO P yT).isSome = true) (hsz : szO P e = some sz) (hpos : 0 < sz) (hby : byO P e = some by_) (hbp : 0 < by_)
 (hz : zeO P e = some z) (hz1 : z.one = true) (hzl : z.cells.length = sz)
 (hbound : ys.length * by_ ≤ 140737488355328)
 (hout : ∀ t k, H t = none → K (.own t 0 (ys.length : Nat)) (upd H t (some (.arr sz (ys ++ List.replicate k z))))) : SimOp P o fr H K := by
 intro g w a hR hE
 obtain ⟨g', st, hR', hn, hv⟩ := own_empty hR sz hs (ev_rel hR hE s)
 obtain ⟨ys0, hy, hle, hay⟩ := hsrc.inv hR (ev_rel hR hE y)
 have hvy := (ev_rel hR hE y).mono st
 rw [run_builtin ho]
 simp only [List.map_toArray, List.map_cons, List.map_nil]
 have hy' : srcO (upd H g.nx (some (.arr sz []))) (ev fr y) = some ys0 := by
  unfold srcO at hy ⊢
  split at hy
  ·exact hy
  ·rename_i id lo n _
   cases ha : arrO H id with
   | none => rw [ha] at hy; cases hy
   | some q =>
    have h1 := arrO_some (sz := q.1) (xs := q.2) ha
    have hne : id ≠ g.nx := fun e => by subst e; rw [hn] at h1; cases h1
    have : arrO (upd H g.nx (some (.arr sz []))) id = arrO H id := by simp only [arrO, upd_other _ _ hne]
    rw [this]; exact hy
  ·cases hy
 refine NextW.mono ?_ (oappend_core (K := fun v H2 => ∃ H3, K v H3 ∧ ∀ id b, H3 id = some b → H2 id = some b) hR' hv hvy (upd_same _ _ _) hy' hle he hyT hsz hpos hby hbp hz hz1 hzl hay (fun hle' => ?_) (fun _ => ⟨by simpa using hbound, fun t k ht => ?_⟩))
 ·exact fun v w' ⟨g2, x, H2, s2, hR2, hv2, H3, hK, hle3⟩ => ⟨g2, x, H3, st.trans s2, hR2.less hle3, hv2, hK⟩
 ·have hy0 : ys = [] := List.length_eq_zero_iff.1 (by simp only [List.length_nil] at hle'; omega)
  subst hy0
  have := hout g.nx 0 hn
  refine ⟨_, this, fun id b hb => ?_⟩
  by_cases e : id = g.nx
  ·subst e; rw [upd_same] at hb ⊢; simpa [over] using hb
  ·rw [upd_other _ _ e] at hb; rw [upd_other _ _ e, upd_other _ _ e]; exact hb
 ·have hne : t ≠ g.nx := fun e => by subst e; rw [upd_same] at ht; cases ht
  rw [upd_other _ _ hne] at ht
  have := hout t k ht
  rw [Int.zero_add]
  refine ⟨_, this, fun id b hb => ?_⟩
  by_cases e : id = t
  ·subst e; rw [upd_same] at hb ⊢; simpa [subL] using hb
  ·rw [upd_other _ _ e] at hb ⊢
   by_cases e2 : id = g.nx
   ·subst e2; rw [hn] at hb; cases hb
   ·rw [upd_other _ _ e2]; exact hb
end
end Go.Ab

