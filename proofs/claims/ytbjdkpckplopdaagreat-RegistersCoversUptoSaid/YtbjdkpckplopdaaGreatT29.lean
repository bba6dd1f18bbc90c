/- AbR1 AbR2 AbK1 AbH1 -/
import Derived.Test.YtbjdkpckplopdaaGreatT27
import Derived.Test.YtbjdkpckplopdaaGreatT28
import Derived.Test.YtbjdkpckplopdaaGreatT26
import Derived.Test.YtbjdkpckplopdaaGreatT23
import Derived.Shelf.SlIterI.Nil
set_option linter.all false

namespace Go.Ab
open Go.RowKit
variable [Glob] [Ar]
def rtok {α : Type} (w : Rw α) : List En := w.row.map fun c => .tl c.2
structure RowsOk {α : Type} (w : Rw α) (l : List (List α)) : Prop where
 ok : Okn w.q (Ar.len w.row)
 ap : RwA w
 eq : w.row.map (·.1) = l
section
variable {α : Type} {f : α → V} {w : Rw α} {l : List (List α)}
theorem RowsOk.len (h : RowsOk w l) : Ar.len l = Ar.len w.row := by rw [Ar.len_eq, Ar.len_eq, ← h.eq, List.length_map]
theorem RowsOk.at (h : RowsOk w l) {i : Int} {x : List α} (hx : idxL l i = some x) : (0 ≤ i ∧ i < (w.row.length : Nat)) ∧ ∃ t, w.row[i.toNat]? = some (x, t) ∧ Appn t := by
 obtain ⟨h1, h2⟩ := idxL_ok hx
 rw [← h.eq] at h1 h2
 rw [List.length_map] at h1
 rw [List.getElem?_map] at h2
 cases hr : w.row[i.toNat]? with
 | none => rw [hr] at h2; cases h2
 | some c =>
  rw [hr] at h2
  simp only [Option.map_some, Option.some.injEq] at h2
  refine ⟨h1, c.2, by rw [← h2], h.ap c (List.mem_of_getElem? hr)⟩
theorem RowsOk.put (h : RowsOk w l) (i : Nat) {y : List α} {t : Tail} (ht : Appn t) : RowsOk ⟨w.q, w.row.set i (y, t)⟩ (l.set i y) := by
 refine ⟨?_, fun c hc => ?_, ?_⟩
 ·have := h.ok
  rw [Ar.len_eq] at this ⊢
  rw [List.length_set]; exact this
 ·rcases List.mem_or_eq_of_mem_set hc with hc | rfl
  ·exact h.ap c hc
  ·exact ht
 ·rw [List.map_set, h.eq]
theorem rtok_split {i : Nat} {c : List α × Tail} (hi : w.row[i]? = some c) : ∃ R, (rtok w).Perm (.tl c.2 :: R) ∧ ∀ c', (rtok ⟨w.q, w.row.set i c'⟩).Perm (.tl c'.2 :: R) := row_split hi
theorem Own.rtake {Φ : Heap → Heap → Prop} {H0 H : Heap} {L T1 T2 : List En} (hO : Own Φ H0 L H) (n : Nat) (hL : L = L.take n ++ (T1 ++ (rtok w ++ T2))) {i : Nat} {c : List α × Tail} (hi : w.row[i]? = some c) :
 ∃ R, Own Φ H0 (.tl c.2 :: (L.take n ++ R)) H ∧ ∀ c' H' (L2 : List En), Own Φ H0 (.tl c'.2 :: (L2 ++ R)) H' → Own Φ H0 (L2 ++ (T1 ++ (rtok ⟨w.q, w.row.set i c'⟩ ++ T2))) H' := by
 obtain ⟨R, h1, h2⟩ := rtok_split hi
 have key : ∀ (L2 X : List En) (t : En), X.Perm (t :: R) → (L2 ++ (T1 ++ (X ++ T2))).Perm (t :: (L2 ++ (T1 ++ (R ++ T2)))) := fun L2 X t h =>
  ((((h.append_right T2).append_left T1).append_left L2).trans ((List.perm_middle (l₁ := T1)).append_left L2)).trans List.perm_middle
 refine ⟨T1 ++ (R ++ T2), ?_, fun c' H' L2 h => h.perm (key _ _ _ (h2 c')).symm⟩
 rw [hL] at hO
 exact hO.perm (key _ _ _ h1)
theorem Own.radd {Φ : Heap → Heap → Prop} {H0 H : Heap} {L : List En} (hO : Own Φ H0 L H) (n : Nat) (w : Rw α) (hw : ∀ c ∈ w.row, (En.tl c.2).id = none) : Own Φ H0 (L.take n ++ (rtok w ++ L.drop n)) H := by
 have h1 : ∀ (row : List (List α × Tail)) (M : List En), (∀ c ∈ row, (En.tl c.2).id = none) → Own Φ H0 M H → Own Φ H0 ((row.map fun c => .tl c.2) ++ M) H := by
  intro row
  induction row with
  | nil => exact fun _ _ h => h
  | cons c row ih => exact fun M hr h => (ih M (fun c hc => hr c (by simp [hc])) h).tl0 (hr c (by simp))
 refine (h1 w.row L hw hO).perm ?_
 show (rtok w ++ L).Perm _
 have e : rtok w ++ L = rtok w ++ (L.take n ++ L.drop n) := by rw [List.take_append_drop]
 rw [e, ← List.append_assoc, ← List.append_assoc]
 exact List.perm_append_comm.append_right _
theorem Own.drops {Φ : Heap → Heap → Prop} {H0 H : Heap} : ∀ {X L : List En}, Own Φ H0 (X ++ L) H → Own Φ H0 L H
 | [], _, h => h
 | _ :: X, _, h => Own.drops (X := X) h.tail
theorem Own.rdrop {Φ : Heap → Heap → Prop} {H0 H : Heap} {L T1 T2 : List En} (hO : Own Φ H0 L H) (n : Nat) (hL : L = L.take n ++ (T1 ++ (rtok w ++ T2))) : Own Φ H0 (L.take n ++ (T1 ++ T2)) H := by
 rw [hL] at hO
 refine (hO.perm (L' := rtok w ++ (L.take n ++ (T1 ++ T2))) ?_).drops
 refine (((List.perm_append_comm_assoc T1 (rtok w) T2).append_left _)).trans ?_
 exact List.perm_append_comm_assoc _ _ _
theorem updL_put {α : Type} {l r : List α} {i : Int} {y : α} (h : updL l i (fun _ => y) = some r) : r = l.set i.toNat y := by
 unfold updL at h
 cases hx : idxL l i with
 | none => rw [hx] at h; cases h
 | some x => rw [hx] at h; simp only [Option.map_some, Option.some.injEq] at h; exact h.symm
theorem rows_le {e : List α → V} (he : ∀ x, e x = .sl (Ar.lst f x) .ro) (h : RowsOk w l) : LeVs (Ar.lst (cellV f) w.row) (Ar.lst e l) := by
 rw [Ar.lst_eq, Ar.lst_eq, ← h.eq]
 have : ∀ row : List (List α × Tail), LeVs (row.map (cellV f)) ((row.map (·.1)).map e) := by
  intro row
  induction row with
  | nil => exact .nil
  | cons c row ih => exact .cons (by rw [he]; exact .ro _ _) ih
 exact this _
end
section
variable {P : Program} {nt : Nat} {rd : Option Nat} {T : Tbl} {E : Env}
variable (hE : E = real P nt rd)
include hE
variable {α R : Type} {f : α → V} {Φ : Heap → Heap → Prop} {H0 H : Heap} {L : List En} {w : Rw α} {l : List (List α)} {r : R}
theorem n_rmk {by_ : Nat} (hby : by_ ≤ 131072) (hO : Own Φ H0 L H) (c : Nat) {n m : Int} {k : V → Heap → Prop} {F : List (List α) → Option R} (h : (mkL n m ([] : List α)).bind F = some r)
 (hk : ∀ l (w : Rw α) H', RowsOk w l → F l = some r → Own Φ H0 (.blk w.q.id (.arr 1 (w.q.pre ++ Ar.lst (cellV f) w.row ++ w.q.rest)) :: (L.take c ++ (rtok w ++ L.drop c))) H' → k (.own w.q.id w.q.lo w.q.n) H') : E.omk 1 by_ (.sl [] .nil) n m H k := by
 obtain ⟨l, h1, h2⟩ := bind_some h
 have hl := mkL_some h1
 have h3 : mkL n m (([] : List α), Tail.nil) = some (List.replicate n.toNat (([] : List α), Tail.nil)) := by
  unfold mkL at h1 ⊢
  split at h1
  ·rename_i hc; rw [if_pos hc]
  ·cases h1
 refine n_omk hE (f := cellV f) hby (z0 := (([] : List α), Tail.nil)) (.slt _ .lst0) hO (F := fun l => some l) (r := List.replicate n.toNat (([] : List α), Tail.nil)) (by rw [h3]; rfl) fun row q H' hq hr hO' => ?_
 cases hr
 refine hk l ⟨q, List.replicate n.toNat (([] : List α), Tail.nil)⟩ H' ⟨hq, fun c hc => by rw [List.eq_of_mem_replicate hc]; trivial, by rw [hl]; simp⟩ h2 ?_
 exact hO'.radd (c + 1) ⟨q, List.replicate n.toNat (([] : List α), Tail.nil)⟩ fun c hc => by rw [List.eq_of_mem_replicate hc]; rfl
theorem n_rfrzIn {e : List α → V} (he : ∀ x, e x = .sl (Ar.lst f x) .ro) (hO : Own Φ H0 L H) (hw : RowsOk w l) (i m : Nat) {id j : Nat} {cs : List V} {k : Heap → Prop} (hi : L[i]? = some (.blk id (.cells cs))) (hm : L[m]? = some (.blk w.q.id (.arr 1 (w.q.pre ++ Ar.lst (cellV f) w.row ++ w.q.rest)))) (hj : cs[j]? = some (.own w.q.id w.q.lo w.q.n)) (him : i ≠ m)
 (hk : ∀ H', Own Φ H0 ((L.set i (.blk id (.cells (cs.set j (.sl (Ar.lst e l) .ro))))).eraseIdx m) H' → k H') : E.frzIn H id j k := by
 subst hE
 have h1 := hO.get i hi
 have h2 := hO.get m hm
 have hne : w.q.id ≠ id := fun e => by rw [e, h1] at h2; cases h2
 refine ⟨cs, w.q.id, w.q.lo, w.q.n, 1, _, Ar.lst e l, h1, hj, h2, ?_, ?_⟩
 ·rw [sub_mid hw.ok.1 (by rw [hw.ok.2, Ar.len_eq, lst_len])]
  exact rows_le he hw
 ·have h3 := (hO.set i (b' := .cells (cs.set j (.sl (Ar.lst e l) .ro))) hi).del m (id := w.q.id) (b := .arr 1 (w.q.pre ++ Ar.lst (cellV f) w.row ++ w.q.rest)) (by rw [List.getElem?_set, if_neg him]; exact hm)
  rw [upd_comm _ _ _ hne]
  exact hk _ h3
end
end Go.Ab

namespace Go.Ab
variable [Glob] [Ar]
variable {P : Program} {nt : Nat} {rd : Option Nat} {T : Tbl} {E : Env}
theorem n_thru (cf : Cf) (hE : E = real P nt rd) (hP : POk P T) {c : Code} {st : St} {H : Heap} {K : Exit → St → Heap → Prop} (hd : drawsOk cf c = true)
 (h : runJ E T nt cf c st H K) : E.sim c st H K := by
 subst hE
 exact runJ_sound hP.1 hP.2 c _ _ _ hd h
end Go.Ab

namespace Go.Ab
open Go.RowKit Go.Sort Go.MapKept
open Go.WideElems (Fit rd rg)
variable [Glob] [Ar]
open Go.WideShapes (sorted_perm)
theorem Rl.freezeB {g : Gh} {H : Heap} {w : World} (h : Rl g H w) {b : Nat} {c : Array Value} {T : Nat} {n : Nat} (hw : w.heap[b]? = some (.cells c T (0, 0))) (hn : n ≤ c.size) (hf : ∀ id, g.at H id ≠ some b) :
 ∃ g', Stp g w g' w ∧ Rl g' H w ∧ ∀ o, o < n → g'.fz b o := by
 let g' : Gh := { g with fz := fun x o => g.fz x o ∨ (x = b ∧ o < n) }
 have s : Stp g w g' w := ⟨fun _ _ e => e, fun _ _ e => e, fun _ _ e => .inl e, rfl, fun _ _ _ => rfl, Below.refl _ _, fun _ _ _ => rfl⟩
 have hat : ∀ x, g'.at H x = g.at H x := fun x => rfl
 refine ⟨g', s, ⟨fun x k hx => ?_, fun x x' y h1 h2 => h.inj _ _ _ h1 h2, fun y o hf' => ?_, fun x hx => h.nxt x hx, h.bnd, fun n => (h.glb n).mono s⟩, fun o ho => .inr ⟨rfl, ho⟩⟩
 ·refine (h.blk x k hx).mono hx s fun y hy => ⟨rfl, fun o ho => ?_⟩
  rcases ho with ho | ⟨e, _⟩
  ·exact ho
  ·subst e; exact absurd hy (hf x)
 ·rcases hf' with hf' | ⟨e, ho⟩
  ·exact h.frz y o hf'
  ·subst e; exact ⟨c[o]'(by omega), by simp [World.cell?, hw, show o < c.size by omega]⟩
theorem VR.ints {g : Gh} {w : World} {b cap : Nat} {T : Nat} {c : Array Value} {zs : List Int} (hw : w.heap[b]? = some (.cells c T (0, 0))) (hc : zs.length ≤ cap) (hz : c.toList.take zs.length = zs.map (Value.int .i64)) (hf : ∀ o, o < zs.length → g.fz b o) :
 VR g w (.slice (some ⟨b, 0, none⟩) zs.length cap) (.sl (zs.map (V.int .i64)) .ro) := by
 have hcell : ∀ o, w.cell? ⟨b, o, none⟩ = c[o]? := fun o => by simp [World.cell?, hw]
 refine VR.sl (sz := 1) (fun i _ => .int .i64 (zs.getD i 0)) (by simp) hc (fun i hi => ?_) (fun i j hi hj => ?_) (fun i j hi hj => ?_) (fun i j hi hj => rfl) (fun i j hi hj => ?_) trivial
 ·simp [List.getD_eq_getElem?_getD, List.getElem?_map, List.getElem?_eq_getElem hi, V.cells]
 ·exact hf _ (by omega)
 ·have hj0 : j = 0 := by omega
  subst hj0
  rw [hcell]
  have h1 := congrArg (fun l => l[i]?) hz
  simp only [List.getElem?_take_of_lt hi, List.getElem?_map, List.getElem?_eq_getElem hi, Option.map_some] at h1
  have : 0 + i * 1 + 0 = i := by omega
  rw [this, ← Array.getElem?_toList, h1]
  simp [List.getD_eq_getElem?_getD, List.getElem?_eq_getElem hi]
 ·have hj0 : j = 0 := by omega
  subst hj0
  simp only [List.getD_eq_getElem?_getD, List.getElem?_map, List.getElem?_eq_getElem hi, Option.map_some, Option.getD_some, V.cells]
  exact VR.int _ _
theorem ownsMap_of {P : Program} {kt : Nat} (hkt : P.underlying kt = some (.int .i64)) {X : Type} {vf : X → V} {o : Obj} {m : List (Int × X)} (ho : Mok (.int .i64) (V.int .i64) vf o m) (hsz : m.length ≤ 1073741824) (hr : ∀ p ∈ m, -9223372036854775808 ≤ p.1 ∧ p.1 < 9223372036854775808)
 {w : World} {b : Nat} (hb : w.heap[b]? = some o) : ∃ D0 : DataW Unit, w.ownsMap P kt (fun _ => some (.lit (.bool true), [])) b m.length D0 ∧ (intKeys D0).Perm (m.map (·.1)) ∧ Maps.size D0 = m.length := by
 obtain ⟨m', hq, hp⟩ := ho
 obtain ⟨⟨es, clock, rfl, he⟩, hk, hnd, hst⟩ := hq
 have hn := keys_nodup (d := .int .i64) ⟨⟨es, clock, rfl, he⟩, hk, hnd, hst⟩
 have hkeys : es.toList.map (·.key) = (m'.map (·.1)).map (Value.int .i64) := by
  have h1 := congrArg (List.map (fun q : Option Value × Option Value => q.1.getD undef)) he
  simp only [List.map_map] at h1 ⊢
  exact h1
 have hlen : es.toList.length = m'.length := by have := congrArg List.length hkeys; simpa using this
 have hlen2 : m'.length = m.length := hp.length_eq
 have hkey : ∀ e ∈ es.toList, ∃ x : Int, e.key = .int .i64 x ∧ keyOf P kt e.key = some (.int .i64 x) := by
  intro e hm
  have : e.key ∈ (m'.map (·.1)).map (Value.int .i64) := by rw [← hkeys]; exact List.mem_map.2 ⟨e, hm, rfl⟩
  obtain ⟨x, hx, hxe⟩ := List.mem_map.1 this
  obtain ⟨p, hpm, rfl⟩ := List.mem_map.1 hx
  have hb := hr p (hp.mem_iff.1 hpm)
  refine ⟨p.1, hxe.symm, ?_⟩
  rw [← hxe]
  have h1 : IntKind.min .i64 = -9223372036854775808 := by decide
  have h2 : IntKind.max .i64 = 9223372036854775807 := by decide
  simp only [keyOf, hkt, mapKey, Lit.wf, h1, h2]
  rw [if_pos]
  simp only [Bool.and_eq_true, decide_eq_true_eq, true_and]
  omega
 have hrd : ∀ e ∈ es.toList, ∃ x : Int, e.key = .int .i64 x ∧ Go.WideElems.rd (H := Unit) P kt (fun _ => some (.lit (.bool true), [])) e = some (.int .i64 x, .lit (.bool true)) := fun e hm => by
  obtain ⟨x, h1, h2⟩ := hkey e hm
  exact ⟨x, h1, by simp [Go.WideElems.rd, h2]⟩
 refine ⟨_, ⟨es, clock, hb, ⟨?_, ⟨(hst _ _ rfl).1, (hst _ _ rfl).2, ?_⟩, fun x hx => ?_⟩, ?_, rfl⟩, ?_, ?_⟩
 ·have : es.size = es.toList.length := by simp
  have : maxLen = 2 ^ 63 - 1 := rfl
  omega
 ·rw [hkeys]
  exact List.pairwise_map.2 (hn.imp fun h e => h (by simpa using e))
 ·obtain ⟨x, _, h⟩ := hrd x hx; exact ⟨_, h⟩
 ·have : es.size = es.toList.length := by simp
  omega
 ·have h1 := (sorted_perm (H := Unit) (es.toList.map (rg P kt fun _ => some (.lit (.bool true), [])))).map fun p => intOf p.1
  refine h1.trans ?_
  have h2 : (es.toList.map (rg (H := Unit) P kt fun _ => some (.lit (.bool true), []))).map (fun p => intOf p.1) = m'.map (·.1) := by
   have h3 := congrArg (List.map (fun v : Value => match v with | .int _ a => a | _ => 0)) hkeys
   simp only [List.map_map] at h3 ⊢
   refine Eq.trans (List.map_congr_left fun e he => ?_) h3
   obtain ⟨x, h4, h5⟩ := hrd e he
   simp only [Function.comp_apply, rg, h5, h4, Option.getD_some, intOf]
  rw [h2]; exact hp.map _
 ·show ((es.toList.map (rg (H := Unit) P kt fun _ => some (.lit (.bool true), []))).foldr DataW.insert []).length = _
  rw [(sorted_perm _).length_eq, List.length_map]; omega
def SortedAt (P : Program) (f fk kt : Nat) : Prop := ∀ (w : World) (bx b nn : Nat) (D0 : DataW Unit) (R : Value → Option (DataW Unit × List MemPlace)), bx < w.heap.size → w.cell? ⟨bx, 0, none⟩ = some (.map (some b)) → w.ownsMap P kt R b nn D0 → Maps.size D0 ≤ 1073741824 →
 Calls P f #[.func (.func fk) #[] #[.pointer (some ⟨bx, 0, none⟩)]] w fun e w' => ∃ (v : Value) (ss : List Int), e = .returned v ∧ ss.Perm (intKeys D0) ∧ w'.ownsRow w.heap.size kt 1 v ss.length ((ss.mergeSort (fun x y => decide (x ≤ y))).map encZ) ∧ Below w.heap.size w w'
theorem VR.func1 {g : Gh} {w : World} {v : Value} {fn : Fn} {x : V} (h : VR g w v (.func fn [] [x])) : ∃ c, v = .func fn #[] #[c] ∧ VR g w c x := by
 cases h with
 | @func _ fs cs _ _ hl hv hl' hv' =>
  have e1 : fs = #[] := Array.eq_empty_of_size_eq_zero hl
  subst e1
  obtain ⟨cs⟩ := cs
  match cs, hl' with
  | [c], _ =>
   have hc := hv' 0 (by simp)
   exact ⟨c, rfl, by simpa using hc⟩
theorem callA_sorted {P : Program} {f fk kt : Nat} (hS : SortedAt P f fk kt) (hkt : P.underlying kt = some (.int .i64)) (hrun : ∀ vals w, (callFunc f vals).run P w = .ok (.enter f vals) w)
 {X : Type} {vf : X → V} {o : Obj} {m : List (Int × X)} {r : List Int} (hs : sortL (m.map (·.1)) = some r) (hsz : m.length ≤ 1073741824) (hr : ∀ p ∈ m, -9223372036854775808 ≤ p.1 ∧ p.1 < 9223372036854775808)
 {H : Heap} {bx id : Nat} (hbx : H bx = some (.cells [.map id])) (hid : H id = some (.obj o)) (ho : Mok (.int .i64) (V.int .i64) vf o m) :
 CallA P f [.func (.func fk) [] [.ref bx 0]] H fun v H' => v = .sl (Ar.lst (V.int .i64) r) .ro ∧ H' = H := by
 intro g w vals hR hA
 obtain ⟨hlen, hv⟩ := hA
 obtain ⟨vals⟩ := vals
 match vals, hlen with
 | [v], _ =>
  have hv1 := hv 0 (by simp)
  simp at hv1
  obtain ⟨c, rfl, hc⟩ := hv1.func1
  obtain ⟨b, rfl, hb⟩ := hc.ref_inv
  obtain ⟨b', c0, T, h1, h2, h3, h4, h5, h6⟩ := hR.blk bx _ hbx
  rw [hb] at h1; cases h1
  obtain ⟨bm, g1, g2, g3, g4⟩ := hR.blk id _ hid
  have hcm := (h5 0 (by simp)).2
  simp at hcm
  have hc0 : c0[0]? = some (.map (some bm)) := by
   have hlt : 0 < c0.size := by rw [h4]; simp
   generalize hx : c0.getD 0 undef = x at hcm
   have hx' : c0[0]? = some x := by
    rw [← hx]; simp [Array.getD, hlt]
   have hcm : VR g w x (.map id) := by
    have : c0[0]?.getD undef = x := by rw [hx']; rfl
    simpa [this] using hcm
   cases hcm with
   | map hm => rw [g1] at hm; cases hm; exact hx'
  have hcell : w.cell? ⟨b, 0, none⟩ = some (.map (some bm)) := by simp [World.cell?, h3, hc0]
  obtain ⟨D0, d1, d2, d3⟩ := ownsMap_of hkt ho hsz hr g3
  have hlt : b < w.heap.size := (Array.getElem?_eq_some_iff.1 h3).1
  rw [hrun]
  show CallsIn Fence.wide 0 P f _ w _
  rw [callsIn_wide]
  refine (hS w b bm _ D0 _ hlt hcell d1 (by rw [d3]; exact hsz)).mono ?_
  rintro e w' ⟨v, ss, rfl, hp, hrow, hbel⟩
  obtain ⟨hq, hr2⟩ := sortL_some hs
  have hss : ss.mergeSort (fun x y => decide (x ≤ y)) = r := by rw [hr2]; exact mergeSort_of_perm_i (hp.trans d2)
  rw [hss] at hrow
  have hrl : r.length = ss.length := by rw [← hss]; exact List.length_mergeSort ..
  obtain ⟨s1, R1⟩ := hR.more (hbel.mono hR.bnd) fun x hx => hbel.block x hx
  rcases hrow.2 with ⟨rfl, hz⟩ | ⟨gb, cap, cur, rfl, k1, k2, k3, k4, k5, k6⟩
  ·have : r = [] := List.eq_nil_of_length_eq_zero (by omega)
   subst this
   refine ⟨_, rfl, g, _, H, s1, R1, ?_, rfl, rfl⟩
   rw [← lst_nil]; exact .sl0 rfl
  ·obtain ⟨g', s2, R2, hfz⟩ := R1.freezeB (n := ss.length) k2 (by rw [k5]; omega) fun x hx => by have := hR.lt hx; omega
   refine ⟨_, rfl, g', _, H, s1.trans s2, R2, ?_, rfl, rfl⟩
   rw [Ar.lst_eq, ← hrl]
   exact VR.ints k2 (by omega) (by rw [hrl]; simpa using k6) fun o ho => hfz o (by omega)
end Go.Ab

namespace Go.Ab
open Go.RowKit
variable [Glob] [Ar]
def CallFM (P : Program) (f : FuncId) (args : List V) (ks : List Int) (xs : List V) : Prop := ∀ H, CallA P f args H fun v H' => ∃ id, H id = none ∧ v = .map id ∧ H' = upd H id (some (.fm ks xs))
def FG (E : Env) (n : Int) (K : V → Prop) (z : V) : List Int → List V → Prop
 | k :: ks, x :: xs => E.br (Ar.cmp .eql n k) (fun _ => K x) (fun _ => FG E n K z ks xs)
 | _, _ => K z
def AG (E : Env) (i : Int) (K : Nat → Prop) : List Int → Prop
 | m :: ms => E.br (Ar.cmp .eql i m) (fun _ => K m.toNat) (fun _ => AG E i K ms)
 | [] => False
section
variable {P : Program} {nt : Nat} {rd : Option Nat} {T : Tbl} {E : Env}
variable (hE : E = real P nt rd)
include hE
variable {Φ : Heap → Heap → Prop} {H0 H : Heap} {L : List En} {t kt et id : Nat} {ks : List Int} {xs : List V}
theorem n_fmk (hO : Own Φ H0 L H) {k : V → Heap → Prop} (hk : ∀ id H', Own Φ H0 (.blk id (.fm [] []) :: L) H' → k (.map id) H') : E.mmk H k := by
 subst hE
 exact .inr fun id hid => hk id _ (hO.push hid rfl)
theorem n_fset (hm : P.underlying t = some (.map kt et)) (hd : P.underlying kt = some (.int .i64)) (hO : Own Φ H0 L H) (i : Nat) (hi : L[i]? = some (.blk id (.fm ks xs))) {n : Int} {v : V} (hn : ks.all (fun k => !(k == n)) = true)
 {k : Heap → Prop} (hk : ∀ H', Own Φ H0 (L.set i (.blk id (.fm (ks ++ [n]) (xs ++ [v])))) H' → k H') : E.mset t H (.map id) (.int .i64 n) v k := by
 subst hE
 exact .inr ⟨kt, et, ks, xs, n, id, hm, hd, rfl, hO.get i hi, rfl, (fun x hx => by have := List.all_eq_true.1 hn x hx; simpa using this), hk _ (hO.set i hi)⟩
theorem fg_case {n : Int} {K : V → Prop} {z : V} : ∀ (ks : List Int) (xs : List V), xs.length = ks.length → FG E n K z ks xs → ∃ v, ((∃ i : Nat, ks[i]? = some n ∧ v = xs.getD i .bad) ∨ ((∀ k ∈ ks, k ≠ n) ∧ z = v)) ∧ K v
 | [], [], _, h => ⟨z, .inr ⟨(fun _ h => by cases h), rfl⟩, h⟩
 | [], _ :: _, hl, _ => by simp at hl
 | _ :: _, [], hl, _ => by simp at hl
 | k :: ks, x :: xs, hl, h => by
  have ih := fg_case (n := n) (K := K) (z := z) ks xs (by simpa using hl)
  unfold FG at h
  subst hE
  obtain ⟨h1, h2⟩ := h
  rw [Ar.cmp_eq] at h1 h2
  cases hb : cmpI .eql n k with
  | true =>
   have e : n = k := by simpa [cmpI] using hb
   exact ⟨x, .inl ⟨0, by simp [e], by simp⟩, h1 hb⟩
  | false =>
   have e : n ≠ k := by simpa [cmpI] using hb
   obtain ⟨v, hv, hk⟩ := ih (h2 hb)
   refine ⟨v, ?_, hk⟩
   rcases hv with ⟨i, q1, q2⟩ | ⟨q1, q2⟩
   ·exact .inl ⟨i + 1, by simpa using q1, by simpa using q2⟩
   ·refine .inr ⟨fun y hy => ?_, q2⟩
    rcases List.mem_cons.1 hy with rfl | hy
    ·exact fun e' => e e'.symm
    ·exact q1 y hy
theorem ag_case {i : Int} {K : Nat → Prop} : ∀ ms : List Int, AG E i K ms → ∃ m ∈ ms, i = m ∧ K i.toNat
 | [], h => h.elim
 | m :: ms, h => by
  have ih := ag_case (i := i) (K := K) ms
  unfold AG at h
  subst hE
  obtain ⟨h1, h2⟩ := h
  rw [Ar.cmp_eq] at h1 h2
  cases hb : cmpI .eql i m with
  | true =>
   have e : i = m := by simpa [cmpI] using hb
   exact ⟨m, by simp, e, by rw [e]; exact h1 hb⟩
  | false =>
   obtain ⟨m', q1, q2, q3⟩ := ih (h2 hb)
   exact ⟨m', by simp [q1], q2, q3⟩
theorem n_fget (hm : P.underlying t = some (.map kt et)) (hd : P.underlying kt = some (.int .i64)) {z : V} (hz : zeO P et = some z) (hl : xs.length = ks.length) {n : Int} {k : V → Prop} (h : FG E n k z ks xs) : E.mget t H (.fmap ks xs) (.int .i64 n) false k := by
 obtain ⟨v, hv, hk⟩ := fg_case hE ks xs hl h
 subst hE
 exact ⟨v, .inr ⟨kt, et, ks, xs, n, hm, hd, rfl, rfl, rfl, hv.imp (fun h => h) fun ⟨h1, h2⟩ => ⟨h1, h2 ▸ hz⟩⟩, hk⟩
theorem n_wkB (hO : Own Φ H0 L H) (i : Nat) {cs ds : List V} {k : Heap → Prop} (hi : L[i]? = some (.blk id (.cells cs))) (hl : LeVs cs ds) (hk : ∀ H', Own Φ H0 (L.set i (.blk id (.cells ds))) H' → k H') : E.wkB H id k := by
 subst hE
 exact ⟨cs, ds, hO.get i hi, hl, hk _ (hO.set i hi)⟩
theorem n_aidxB {n : Nat} {i : Int} {K : Nat → Prop} (ms : List Int) (hm : (ms.map Int.toNat == List.range n && ms.all (fun m => decide (0 ≤ m))) = true) (h : AG E i K ms) : E.aidx i n K := by
 obtain ⟨m, h1, h2, h3⟩ := ag_case hE ms h
 subst hE; subst h2
 simp only [Bool.and_eq_true, beq_iff_eq, List.all_eq_true, decide_eq_true_eq] at hm
 have hmem : i.toNat ∈ List.range n := by rw [← hm.1]; exact List.mem_map.2 ⟨_, h1, rfl⟩
 have h0 := hm.2 _ h1
 rw [List.mem_range] at hmem
 exact ⟨⟨h0, by omega⟩, h3⟩
theorem n_callFM {fid : FuncId} {args args' : List V} (hc : CallFM P fid args' ks xs) (hl : LeVs args args') (hO : Own Φ H0 L H) {k : V → Heap → Prop} (hk : ∀ id H', Own Φ H0 (.blk id (.fm ks xs) :: L) H' → k (.map id) H') : E.call (.func (.func fid) [] []) args H k := by
 subst hE
 refine CallA.value (F := []) (C := []) ?_
 simp only [List.nil_append, List.append_nil]
 exact ((hc H).args hl).mono fun v H' ⟨id, e1, e2, e3⟩ => by subst e2; subst e3; exact hk id _ (hO.push e1 rfl)
end
theorem callFM_run {P : Program} {T : Tbl} {f : FuncId} {fn : Func} {c : Code} {n : Nat} {rs : List ResultVar} {args : List V} {ks : List Int} {xs : List V} (cf : Cf) (hP : POk P T) (hf : P.funcs[f]? = some fn) (hb : fn.body = some c) (hd : drawsOk cf c = true)
 (hcall : ∀ vals w, (callFunc f vals).run P w = .ok (.enter f vals) w) (hnt : fn.ntmps = n) (hrs : fn.results.toList = rs) (hn : Nat.ble args.length n = true)
 (h : ∀ (E : Env) (H : Heap) (k : V → Heap → Prop), E = real P n none → (∀ id (L : List En) (i : Nat) H', L[i]? = some (.blk id (.fm ks xs)) → Own Eq H L H' → k (.map id) H') → run E T n cf c ⟨entryL args 0, []⟩ H (finX E T rs k)) : CallFM P f args ks xs := fun H => by
 refine CallA.le (callA_of_run (K := fun x H' => ∃ y H2, LeV x y ∧ HLe H2 H' ∧ ∃ id, H id = none ∧ y = .map id ∧ H2 = upd H id (some (.fm ks xs))) cf hP.1 hP.2 hf hb hd hcall hnt hrs hn fun E hE => ?_)
 refine h E H _ hE fun id L i H' hi hO => ?_
 obtain ⟨h1, h2⟩ := (hO.only i hi).last
 exact ⟨_, _, .refl _, h2, id, h1, rfl, rfl⟩
end Go.Ab

