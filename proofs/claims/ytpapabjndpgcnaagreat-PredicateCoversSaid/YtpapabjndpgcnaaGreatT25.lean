/- AbC1 AbC2 AbC3 AbC4 AbB11 AbB12 AbF1 -/
import Derived.Test.YtpapabjndpgcnaaGreatT24
import Derived.Sort.Grow
import Derived.Test.YtpapabjndpgcnaaGreatT22
import Derived.Shelf.Sort.Plain
import Derived.Shelf.Slices.In.SortNone
import Derived.Shelf.Slices.CompactI
set_option linter.all false

namespace Go.Ab
open Go.RowKit Go.Sort
variable [Glob]
theorem Rl.more {g : Gh} {H : Heap} {w w' : World} (h : Rl g H w) (hb : Below g.base w w') (hs : ∀ b, b < w.heap.size → w'.heap[b]? = w.heap[b]?) : Stp g w g w' ∧ Rl g H w' := by
 have s : Stp g w g w' := ⟨fun _ _ e => e, fun _ _ e => e, fun _ _ e => e, rfl, fun b o hf => by simp only [World.cell?, hs b (h.fz_lt hf)], hb, fun _ _ _ => rfl⟩
 exact ⟨s, fun x k hx => (h.blk x k hx).mono hx s fun y hy => ⟨hs y (h.lt hy), fun _ ho => ho⟩, h.inj, fun b o hf => by obtain ⟨v, hv⟩ := h.frz b o hf; exact ⟨v, (s.cell b o hf).trans hv⟩, h.nxt, Nat.le_trans h.bnd hb.size, fun n => (h.glb n).mono s⟩
def rowI (q : OG) (zs : List Int) : List V := q.pre ++ zs.map (V.int .i64) ++ q.rest
theorem rowI_len (q : OG) (zs : List Int) : (rowI q zs).length = q.pre.length + zs.length + q.rest.length := by simp [rowI]; omega
theorem rowI_mid {q : OG} {zs : List Int} {j : Nat} (hj : j < zs.length) : (rowI q zs).getD (q.pre.length + j) .bad = .int .i64 zs[j] := by
 unfold rowI
 rw [List.append_assoc, List.getD_eq_getElem?_getD, List.getElem?_append_right (by omega), Nat.add_sub_cancel_left, List.getElem?_append_left (by simpa using hj), List.getElem?_map, List.getElem?_eq_getElem hj]
 rfl
theorem rowI_out {q : OG} {zs ds : List Int} (hl : ds.length = zs.length) {i : Nat} (hi : i < q.pre.length ∨ q.pre.length + ds.length ≤ i) : (rowI q ds).getD i .bad = (rowI q zs).getD i .bad := by
 unfold rowI
 simp only [List.append_assoc, List.getD_eq_getElem?_getD]
 rcases hi with hi | hi
 ·rw [List.getElem?_append_left hi, List.getElem?_append_left hi]
 ·have key : ∀ l : List V, l.length = zs.length → (q.pre ++ (l ++ q.rest))[i]? = q.rest[i - q.pre.length - zs.length]? := fun l h => by
   rw [List.getElem?_append_right (by omega), List.getElem?_append_right (by omega), h]
  rw [key _ (by simp [hl]), key _ (by simp)]
theorem put_get {off : Nat} {ds : List Int} {c : Array Value} {k : Nat} (hk : k < c.size) : (putCells (Value.int .i64) off ds.toArray c).getD k undef = if off ≤ k ∧ k < off + ds.length then .int .i64 (ds.toArray[k - off]!) else c.getD k undef := by
 unfold putCells
 simp only [Array.getD, Array.size_mapIdx, hk, dif_pos, Array.getInternal_eq_getElem, Array.getElem_mapIdx, List.size_toArray]
def CallI (P : Program) (f : FuncId) (zs ds : List Int) (r : OG → V) : Prop :=
 ∀ H (q : OG), Okn q (zs.length : Nat) → H q.id = some (.arr 1 (rowI q zs)) → CallA P f [.own q.id q.lo q.n] H fun x H' => x = r q ∧ H' = upd H q.id (some (.arr 1 (rowI q ds)))
theorem callI_of {P : Program} {f : FuncId} {zs ds : List Int} {r : OG → V} {m : Nat} (hl : ds.length = zs.length)
 (hrun : ∀ vals w, (callFunc f vals).run P w = .ok (.enter f vals) w)
 (h0 : zs = [] → ∀ p cap w, Calls P f #[.slice p 0 cap] w fun e w' => ∃ v, e = .returned v ∧ w' = w ∧ (v = .slice p 0 cap ∧ (∀ q, Okn q (zs.length : Nat) → r q = .own q.id q.lo q.n) ∨ v = .tuple #[] ∧ ∀ q, r q = .tup []))
 (h1 : ∀ blk off cap w, 0 < zs.length → zs.length ≤ cap → Holds (Value.int .i64) w blk off zs.toArray → blk < w.heap.size →
  Calls P f #[.slice (some ⟨blk, off, none⟩) zs.length cap] w fun e w' => ∃ v, e = .returned v ∧ (v = .slice (some ⟨blk, off, none⟩) m cap ∧ m ≤ zs.length ∧ (∀ q, r q = .own q.id q.lo (m : Nat)) ∨ v = .tuple #[] ∧ ∀ q, r q = .tup []) ∧
   ∃ n os, w' = grow (putRow (Value.int .i64) (Sort.ahead w n) blk off ds.toArray) os) : CallI P f zs ds r := by
 intro H q hq hk g w vals hR hA
 obtain ⟨hlen, hv⟩ := hA
 obtain ⟨vals⟩ := vals
 match vals, hlen with
 | [v], _ =>
  have hv1 := hv 0 (by simp)
  simp at hv1
  rw [hrun]
  show CallsIn Fence.wide 0 P f #[v] w _
  rw [callsIn_wide]
  have hq0 := hq
  obtain ⟨hlo, hn⟩ := hq
  obtain ⟨b, p, e1, e2, e3, e4, e5, e6, e7, e8, e9, e10⟩ := own_row hR hk hv1
  rw [rowI_len] at e2 e5 e7 e8 e10
  subst e2
  have hnn : q.n.toNat = zs.length := by omega
  by_cases hz : zs = []
  ·subst hz
   have hd : ds = [] := List.length_eq_zero_iff.1 hl
   subst hd
   rw [hnn]
   refine (h0 rfl p _ w).mono ?_
   rintro e w' ⟨v, rfl, rfl, hcase⟩
   refine ⟨v, rfl, g, r q, H, Stp.refl _ _, hR, ?_, rfl, ?_⟩
   ·rcases hcase with ⟨rfl, hr⟩ | ⟨rfl, hr⟩
    ·rw [hr q hq0]; rw [hnn] at hv1; exact hv1
    ·rw [hr]; exact VR.und g w'
   ·funext x
    by_cases hx : x = q.id
    ·subst hx; rw [upd_same]; exact hk
    ·rw [upd_other _ _ hx]
  ·have hzl : 0 < zs.length := List.length_pos_iff.2 hz
   rcases e10 with e10 | ⟨c, T, k1, k2, k3, k4, k5, k6⟩
   ·omega
   have hp := e8 (by omega)
   subst hp
   have hoff : (g.ow q.id).o + q.lo.toNat * 1 = (g.ow q.id).o + q.pre.length := by rw [hlo]; simp
   rw [hnn, hoff]
   have hblt : b < w.heap.size := by
    rcases Nat.lt_or_ge b w.heap.size with h | h
    ·exact h
    ·rw [Array.getElem?_eq_none h] at k2; cases k2
   have hcell : ∀ o, w.cell? ⟨b, o, none⟩ = c[o]? := fun o => by simp [World.cell?, k2]
   have hH : Holds (Value.int .i64) w b ((g.ow q.id).o + q.pre.length) zs.toArray := fun j hj => by
    have hj' : j < zs.length := by simpa using hj
    refine ⟨?_, by simp [World.frozen?, k2]⟩
    have h := (k4 (q.pre.length + j) 0 (by omega) (by omega)).2
    rw [rowI_mid hj'] at h
    have h := VR.int_inv h
    rw [hcell]
    have hlt : (g.ow q.id).o + q.pre.length + j < c.size := by omega
    rw [show (g.ow q.id).o + (q.pre.length + j) * 1 + 0 = (g.ow q.id).o + q.pre.length + j by omega] at h
    simp only [Array.getD, hlt, dif_pos, Array.getInternal_eq_getElem] at h
    rw [Array.getElem?_eq_getElem hlt, h]
    simp [hj']
   refine (h1 b _ _ w hzl (by omega) hH hblt).mono ?_
   rintro e w' ⟨v, rfl, hcase, n, os, rfl⟩
   have hs := Rl.setArr hR (ys := rowI q ds) (c' := putCells (Value.int .i64) ((g.ow q.id).o + q.pre.length) ds.toArray c) hk e1 (by rw [rowI_len]; omega) k2 (by simp [putCells])
    (fun o ho => by
     simp only [putCells, Array.getElem?_mapIdx]
     cases c[o]? with
     | none => rfl
     | some x => simp only [Option.map_some]; rw [if_neg (by omega)])
    (by rw [rowI_len, rowI_len, hl])
    (fun i hi => by
     rw [rowI_len] at hi
     by_cases hm : i < q.pre.length ∨ q.pre.length + ds.length ≤ i
     ·rw [rowI_out hl hm]; exact e9 i (by rw [rowI_len]; omega)
     ·obtain ⟨j, rfl⟩ : ∃ j, i = q.pre.length + j := ⟨i - q.pre.length, by omega⟩
      rw [rowI_mid (show j < ds.length by omega)]; rfl)
    (fun i j hi hj => by
     rw [rowI_len] at hi
     have hj0 : j = 0 := by omega
     subst hj0
     rw [put_get (by omega)]
     by_cases hm : i < q.pre.length ∨ q.pre.length + ds.length ≤ i
     ·rw [if_neg (by omega), rowI_out hl hm]
      exact k4 i 0 (by omega) (by omega)
     ·obtain ⟨j, rfl⟩ : ∃ j, i = q.pre.length + j := ⟨i - q.pre.length, by omega⟩
      have hj : j < ds.length := by omega
      rw [if_pos (by omega), rowI_mid hj, show (g.ow q.id).o + (q.pre.length + j) * 1 + 0 - ((g.ow q.id).o + q.pre.length) = j by omega]
      have : ds.toArray[j]! = ds[j] := by simp [hj]
      rw [this]
      exact ⟨rfl, VR.int _ _⟩)
   obtain ⟨s1, R1⟩ := hs
   generalize hw1 : w.setRow b (putCells (Value.int .i64) ((g.ow q.id).o + q.pre.length) ds.toArray c) = w1 at s1 R1
   have hsz1 : w1.heap.size = w.heap.size := by rw [← hw1]; simp [World.setRow]
   have hheap : ∀ x, x < w1.heap.size → (grow (putRow (Value.int .i64) (Sort.ahead w n) b ((g.ow q.id).o + q.pre.length) ds.toArray) os).heap[x]? = w1.heap[x]? := fun x hx => by
    have hx' : x < w.heap.size := by omega
    simp only [grow, putRow, mapBlock, Sort.ahead]
    rw [Array.getElem?_append_left (by simpa using hx'), Array.getElem?_modify]
    by_cases hxb : b = x
    ·subst hxb
     rw [if_pos rfl, k2, ← hw1, setRow_heap w b c _ T (0, 0) k2]
     rfl
    ·rw [if_neg hxb, ← hw1, heap_setRow_other w b _ x (fun e => hxb e.symm)]
   have hbel : Below g.base w1 (grow (putRow (Value.int .i64) (Sort.ahead w n) b ((g.ow q.id).o + q.pre.length) ds.toArray) os) := by
    refine ⟨by rw [← hw1]; rfl, by rw [← hw1]; rfl, by rw [← hw1]; rfl, ?_, fun k hk' => ?_⟩
    ·rw [hsz1]; simp [grow, putRow, mapBlock, Sort.ahead]
    ·exact hheap k (by have := hR.bnd; omega)
   obtain ⟨s2, R2⟩ := R1.more hbel hheap
   refine ⟨v, rfl, g, r q, _, s1.trans s2, R2, ?_, rfl, rfl⟩
   rcases hcase with ⟨rfl, hm, hr⟩ | ⟨rfl, hr⟩
   ·rw [hr]
    have hcap : (g.ow q.id).cap = q.pre.length + zs.length + q.rest.length := by rw [e7]
    have := VR.own (g := g) (w := grow (putRow (Value.int .i64) (Sort.ahead w n) b ((g.ow q.id).o + q.pre.length) ds.toArray) os) (id := q.id) (b := b) (lo := q.lo) (n := (m : Nat)) (p := some ⟨b, (g.ow q.id).o + q.pre.length, none⟩) e1 e3 (by omega) (by omega) (fun _ => by rw [e6, hoff])
    rw [hcap] at this
    simpa using this
   ·rw [hr]; exact VR.und _ _
end Go.Ab

namespace Go.Ab
open Go.RowKit
variable [Glob]
def CallS (P : Program) (f : FuncId) (zs ds : List Int) : Prop := CallI P f zs ds (fun _ => .tup []) ∧ ds.length = zs.length
theorem rowI_lst [Ar] (q : OG) (zs : List Int) : q.pre ++ Ar.lst (V.int .i64) zs ++ q.rest = rowI q zs := by rw [Ar.lst_eq]; rfl
section
variable [Ar] {P : Program} {nt : Nat} {rd : Option Nat} {E : Env} (hE : E = real P nt rd)
include hE
theorem n_callS {Φ : Heap → Heap → Prop} {H0 H : Heap} {L : List En} {fid : FuncId} {q : OG} {k : V → Heap → Prop} {R : Type} {m : Option (List Int)} {F : List Int → Option R} {r : R}
 {l : List Int} (hO : Own Φ H0 L H) (hq : Okn q (Ar.len l)) (i : Nat) (hi : L[i]? = some (.blk q.id (.arr 1 (q.pre ++ Ar.lst (V.int .i64) l ++ q.rest)))) (h : m.bind F = some r) (hc : ∀ x, m = some x → CallS P fid l x)
 (hk : ∀ x H', Okn q (Ar.len x) → Own Φ H0 (L.set i (.blk q.id (.arr 1 (q.pre ++ Ar.lst (V.int .i64) x ++ q.rest)))) H' → F x = some r → k (.tup []) H') :
 E.call (.func (.func fid) [] []) [.own q.id q.lo q.n] H k := by
 subst hE
 obtain ⟨x, h1, h2⟩ := bind_some h
 obtain ⟨c1, c2⟩ := hc x h1
 refine CallA.value (F := []) (C := []) ?_
 simp only [List.nil_append, List.append_nil]
 rw [rowI_lst] at hi
 refine (c1 H q (by rw [← Ar.len_eq]; exact hq) (hO.get i hi)).mono fun v H' ⟨e1, e2⟩ => ?_
 subst e1; subst e2
 refine hk x _ ?_ ?_ h2
 ·rw [Ar.len_eq] at hq ⊢; rw [c2]; exact hq
 ·rw [rowI_lst]; exact hO.set i hi
end
end Go.Ab

namespace Go.Ab
open Go.RowKit Go.Shelf Go.Sort
variable [Glob]
theorem callS_sort {P : Program} {ρ : Ren} (Ly : Go.Proofs.Lays.n189 P ρ) (hrun : ∀ vals w, (callFunc (ρ.f 189) vals).run P w = .ok (.enter (ρ.f 189) vals) w) {zs r : List Int} (h : sortL zs = some r) : CallS P (ρ.f 189) zs r := by
 obtain ⟨hlt, rfl⟩ := sortL_some h
 have hl : (zs.mergeSort fun x y => decide (x ≤ y)).length = zs.length := List.length_mergeSort ..
 refine ⟨callI_of (m := 0) hl hrun ?_ ?_, hl⟩
 ·intro _ p cap w
  exact (Go.Proofs.Any.slices_Sort_int_none Ly p cap w).mono fun e w' ⟨a, b⟩ => ⟨_, a, b, .inr ⟨rfl, fun _ => rfl⟩⟩
 ·intro blk off cap w _ _ hH hb
  exact (Go.Proofs.Any.slices_Sort_int Ly blk off cap zs w hH hb hlt).mono fun e w' ⟨a, n, os, b⟩ => ⟨_, a, .inr ⟨rfl, fun _ => rfl⟩, n, os, b⟩
def compactL (l : List Int) : Option (List Int) := if l.length ≤ 9223372036854775807 then some (Lib.compact l) else none
theorem compact_len (zs : List Int) : (Lib.compact zs).length ≤ zs.length := by
 unfold Lib.compact Lib.compactUpTo
 rw [List.length_map]
 exact Nat.le_trans (List.length_filter_le ..) (by simp)
theorem callOO_compact [Ar] {P : Program} {ρ : Ren} (Ly : Go.Proofs.Lays2.n20 P ρ) (hrun : ∀ vals w, (callFunc (ρ.f 20) vals).run P w = .ok (.enter (ρ.f 20) vals) w) {zs r : List Int} (h : compactL zs = some r) :
 CallOO P (ρ.f 20) [] 1 (Ar.lst (V.int .i64) zs) (Ar.lst (V.int .i64) r) := by
 unfold compactL at h
 split at h
 case isFalse => cases h
 rename_i hlt
 cases h
 have hle : (Lib.compact zs).length ≤ zs.length := compact_len zs
 have key : CallI P (ρ.f 20) zs (Lib.compact zs ++ List.replicate (zs.length - (Lib.compact zs).length) 0) (fun q => .own q.id q.lo ((Lib.compact zs).length : Nat)) := by
  refine callI_of (m := (Lib.compact zs).length) (by simp; omega) hrun ?_ ?_
  ·rintro rfl p cap w
   refine (Go.Proofs.Any.slices_Compact_int_empty Ly p cap w).mono fun e w' ⟨a, b⟩ => ⟨_, a, b, .inl ⟨rfl, fun q hq => ?_⟩⟩
   rw [hq.2]
   have : (Lib.compact ([] : List Int)).length = 0 := by have := compact_len []; simp only [List.length_nil] at this; omega
   rw [this]; rfl
  ·intro blk off cap w _ hc hH hb
   refine (Go.Proofs.Any.slices_Compact_int Ly blk off cap zs w hH hlt hc).mono fun e w' ⟨a, n, b⟩ => ⟨_, a, .inl ⟨rfl, hle, fun _ => rfl⟩, n, #[], by rw [b, grow_empty]⟩
 intro H q hq hk
 rw [Ar.lst_eq] at hk hq
 refine (key H q (by simpa using hq) (by unfold rowI; exact hk)).mono fun v H' ⟨e1, e2⟩ => ?_
 subst e1; subst e2
 refine ⟨⟨q.id, q.lo, ((Lib.compact zs).length : Nat), q.pre, (List.replicate (zs.length - (Lib.compact zs).length) 0).map (V.int .i64) ++ q.rest⟩, rfl, ⟨hq.1, by rw [Ar.lst_eq]; simp⟩, by rw [upd_same], ?_⟩
 funext x
 rw [Ar.lst_eq]
 by_cases hx : x = q.id
 ·subst hx; rw [upd_same, upd_same]; simp [rowI]
 ·rw [upd_other _ _ hx, upd_other _ _ hx, upd_other _ _ hx]
end Go.Ab

namespace Go.Ab
open Go.RowKit
variable [Glob]
theorem CallA.thaw {P : Program} {f : FuncId} {args : List V} {H : Heap} {K K' : V → Heap → Prop} (h : CallA P f args H K)
 (hk : ∀ x H', K x H' → K' x H' ∨ ∃ id sz row lo n, x = .own id lo n ∧ H' id = some (.arr sz row) ∧ K' (.sl (subL row lo n) .ro) (upd H' id none)) : CallA P f args H K' :=
 fun g w vals hR hA => (h g w vals hR hA).mono fun v w' ⟨g', x, H', s, hR', hv, hK⟩ => by
  rcases hk x H' hK with hK | ⟨id, sz, row, lo, n, rfl, h1, h2⟩
  ·exact ⟨g', x, H', s, hR', hv, hK⟩
  ·obtain ⟨g2, s2, R2, hv2⟩ := hR'.freezeArr h1
   exact ⟨g2, _, _, s.trans s2, R2, hv2 _ _ _ (hv.mono s2), h2⟩
section
variable [Ar] {P : Program} {T : Tbl}
theorem callP_of_specF {f : FuncId} {fn : Func} {c : Code} {n : Nat} {rs : List ResultVar} {args : List V} {r : V} (cf : Cf) (hP : POk P T) (hf : P.funcs[f]? = some fn) (hb : fn.body = some c) (hd : drawsOk cf c = true)
 (hcall : ∀ vals w, (callFunc f vals).run P w = .ok (.enter f vals) w) (hnt : fn.ntmps = n) (hrs : fn.results.toList = rs) (hn : Nat.ble args.length n = true)
 (h : ∀ (E : Env) (H : Heap) (K : V → Heap → Prop), E = real P n none → (∀ x L H', Own Eq H L H' → LeV x r → K x H') →
  (∀ (q : OG) (sz : Nat) (xs : List V) (i : Nat) (L : List En) H', Own Eq H L H' → L[i]? = some (.blk q.id (.arr sz (q.pre ++ xs ++ q.rest))) → Okn q (xs.length : Nat) → LeV (.sl xs .ro) r → K (.own q.id q.lo q.n) H') → run E T n cf c ⟨entryL args 0, []⟩ H (finX E T rs K)) : CallP P f args r := fun H => by
 refine CallA.le ?_
 refine (callA_of_run (K := fun x H' => (∃ y H2, LeV x y ∧ HLe H2 H' ∧ y = r ∧ H2 = H) ∨ ∃ (q : OG) (sz : Nat) (xs : List V) (i : Nat) (L : List En), x = .own q.id q.lo q.n ∧ Own Eq H L H' ∧ L[i]? = some (.blk q.id (.arr sz (q.pre ++ xs ++ q.rest))) ∧ Okn q (xs.length : Nat) ∧ LeV (.sl xs .ro) r)
  cf hP.1 hP.2 hf hb hd hcall hnt hrs hn fun E hE => ?_).thaw ?_
 ·exact h E H _ hE (fun x L H' hO hx => .inl ⟨r, H, hx, hO.ext, rfl, rfl⟩) fun q sz xs i L H' hO hi hq hr => .inr ⟨q, sz, xs, i, L, rfl, hO, hi, hq, hr⟩
 ·rintro x H' (h | ⟨q, sz, xs, i, L, rfl, hO, hi, hq, hr⟩)
  ·exact .inl h
  ·refine .inr ⟨q.id, sz, _, q.lo, q.n, rfl, hO.get i hi, r, H, ?_, (hO.del i hi).ext, rfl, rfl⟩
   rw [sub_at rfl hq.1 hq.2]; exact hr
end
end Go.Ab

namespace Go.Ab
open Go.RowKit Go.MapKept
variable [Glob] [Ar]
def Mok {K X : Type} (d : TypeDesc) (kf : K → V) (vf : X → V) (o : Obj) (m : List (K × X)) : Prop := MapIs d o (m.map fun p => (kf p.1, vf p.2))
structure MkOk {K : Type} (d : TypeDesc) (kf : K → V) : Prop where
 raw : ∀ x, ∃ v, rawS (kf x) = some v ∧ IsKey d v
 inj : ∀ x y, kf x = kf y → x = y
theorem mkOk_str : MkOk .string V.str := ⟨fun _ => ⟨_, rfl, trivial⟩, fun x y h => by cases h; rfl⟩
def MvOk {X : Type} (vf : X → V) : Prop := ∀ x, ∃ v, rawV (vf x) = some v
theorem mvOk_int (k : IntKind) : MvOk (V.int k) := fun _ => ⟨_, rfl⟩
theorem mvOk_bool : MvOk V.bool := fun _ => ⟨_, rfl⟩
abbrev OneV (v : V) : Prop := v.one = true ∧ v.cells = [v]
theorem Own.startO {H0 : Heap} {id : Nat} {b : Blk} (hk : H0 id = some b) : Own Eq (upd H0 id none) [.blk id b] H0 := by
 have h : Own Eq (upd H0 id none) [.blk id b] (upd (upd H0 id none) id (some b)) := (Own.start stable_eq rfl).push (upd_same _ _ _) rfl
 rwa [upd_upd, upd_self H0 id (some b) hk] at h
theorem okn_len {α : Type} {f : α → V} {q : OG} {l : List α} (h : Okn q ((Ar.lst f l).length : Nat)) : Okn q (Ar.len l) := ⟨h.1, by rw [h.2, Ar.len_eq, lst_len]⟩
section
variable {P : Program} {nt : Nat} {rd : Option Nat} {T : Tbl} {E : Env}
variable (hE : E = real P nt rd)
include hE
variable {α R : Type} {f : α → V} {Φ : Heap → Heap → Prop} {H0 H : Heap} {L : List En} {sz : Nat} {q : OG} {l : List α} {r : R}
theorem n_onil (hO : Own Φ H0 L H) {k : V → Heap → Prop} (hk : ∀ (q : OG) H', Okn q (Ar.len ([] : List α)) → Own Φ H0 (.blk q.id (.arr sz (q.pre ++ Ar.lst f [] ++ q.rest)) :: L) H' → k (.own q.id q.lo q.n) H') : E.onil sz H k := by
 subst hE
 intro t ht
 have e : ([] : List V) ++ Ar.lst f [] ++ [] = [] := by rw [← lst_nil (f := f)]; rfl
 refine hk ⟨t, 0, 0, [], []⟩ _ ⟨rfl, by rw [Ar.len_eq]; rfl⟩ ?_
 show Own Φ H0 (.blk t (.arr sz (([] : List V) ++ Ar.lst f [] ++ [])) :: L) _
 rw [e]; exact hO.push ht rfl
theorem n_olit {xs : List V} (hx : LeVs xs (Ar.lst f l)) (hO : Own Φ H0 L H) {k : V → Heap → Prop} (hk : ∀ (q : OG) H', Okn q (Ar.len l) → Own Φ H0 (.blk q.id (.arr sz (q.pre ++ Ar.lst f l ++ q.rest)) :: L) H' → k (.own q.id q.lo q.n) H') : E.olit sz H xs k := by
 subst hE
 have el : xs.length = l.length := by rw [hx.length, lst_len]
 refine ⟨_, hx, fun t ht => ?_⟩
 refine hk ⟨t, 0, (xs.length : Nat), [], []⟩ _ ⟨rfl, by rw [Ar.len_eq, el]⟩ ?_
 show Own Φ H0 (.blk t (.arr sz (([] : List V) ++ Ar.lst f l ++ [])) :: L) _
 rw [List.nil_append, List.append_nil]; exact hO.push ht rfl
theorem n_ostr {s d e : Nat} {l : List Int} (hs : slO P s = some e) (he : P.underlying e = some (.int .u8)) (hd : P.underlying d = some .string) (hO : Own Φ H0 L H) (hq : Okn q (Ar.len l)) (i : Nat) (hi : L[i]? = some (.blk q.id (.arr 1 (q.pre ++ Ar.lst (V.int .u8) l ++ q.rest))))
 {k : V → Prop} {F : ByteArray → Option R} (h : (textL l).bind F = some r) (hk : ∀ b, F b = some r → k (.str b)) : E.ostr s d H (.own q.id q.lo q.n) k := by
 have hsrc := src_own hE hO hq i hi
 subst hE
 exact ⟨_, ⟨e, l, hs, he, hd, by rw [← Ar.lst_eq]; exact hsrc, rfl⟩, hk _ h⟩
section
variable {K X : Type} {kf : K → V} {vf : X → V} {t kt et : Nat} {d : TypeDesc} {m : List (K × X)} {o : Obj} {id : Nat}
theorem n_mmk (d : TypeDesc) (kf : K → V) (vf : X → V) (hO : Own Φ H0 L H) {k : V → Heap → Prop} (hk : ∀ id o H', Mok d kf vf o [] → Own Φ H0 (.blk id (.obj o) :: L) H' → k (.map id) H') : E.mmk H k := by
 subst hE
 exact fun id hid => hk id _ _ (MapIs.empty d) (hO.push hid rfl)
theorem asked [DecidableEq K] (hK : MkOk d kf) {z : V} {z0 : X} (hz : zeO P et = some z) (hvz : z = vf z0) {key : K} {x : X × Bool} (hx : getM m key z0 = some x) (ok : Bool) :
 Asked P et (m.map fun p => (kf p.1, vf p.2)) (kf key) ok (if ok = true then .tup [vf x.1, .bool x.2] else vf x.1) := by
 unfold getM at hx
 cases hx
 cases hf : m.find? (fun p => decide (p.1 = key)) with
 | none =>
  refine .inl ⟨fun p hp => ?_, z, hz, by simp only [hvz]⟩
  obtain ⟨q, hq, rfl⟩ := List.mem_map.1 hp
  have := List.find?_eq_none.1 hf q hq
  exact fun e => this (by simpa using hK.inj _ _ e)
 | some p =>
  have h1 := List.find?_some hf
  have h2 := List.mem_of_find?_eq_some hf
  refine .inr ⟨vf p.2, List.mem_map.2 ⟨p, h2, ?_⟩, rfl⟩
  rw [show p.1 = key by simpa using h1]
theorem n_mget [DecidableEq K] (hm : P.underlying t = some (.map kt et)) (hd : P.underlying kt = some d) (hK : MkOk d kf) {z : V} (z0 : X) (hz : zeO P et = some z) (hvz : z = vf z0) (hO : Own Φ H0 L H) (hq : Mok d kf vf o m) (i : Nat) (hi : L[i]? = some (.blk id (.obj o)))
 {key : K} {k : V → Prop} {F : X × Bool → Option R} (h : (getM m key z0).bind F = some r) (hk : ∀ x, F x = some r → k (vf x.1)) : E.mget t H (.map id) (kf key) false k := by
 obtain ⟨x, h1, h2⟩ := bind_some h
 have ha := asked (P := P) (vf := vf) hE hK hz hvz h1 false
 subst hE
 obtain ⟨v, hv1, hv2⟩ := hK.raw key
 exact ⟨_, ⟨kt, et, d, v, id, o, _, hm, hd, hv1, hv2, rfl, hO.get i hi, hq, ha⟩, hk x h2⟩
theorem n_mget2 [DecidableEq K] (hm : P.underlying t = some (.map kt et)) (hd : P.underlying kt = some d) (hK : MkOk d kf) {z : V} (z0 : X) (hz : zeO P et = some z) (hvz : z = vf z0) (hO : Own Φ H0 L H) (hq : Mok d kf vf o m) (i : Nat) (hi : L[i]? = some (.blk id (.obj o)))
 {key : K} {k : V → Prop} {F : X × Bool → Option R} (h : (getM m key z0).bind F = some r) (hk : ∀ x, F x = some r → k (.tup [vf x.1, .bool x.2])) : E.mget t H (.map id) (kf key) true k := by
 obtain ⟨x, h1, h2⟩ := bind_some h
 have ha := asked (P := P) (vf := vf) hE hK hz hvz h1 true
 subst hE
 obtain ⟨v, hv1, hv2⟩ := hK.raw key
 exact ⟨_, ⟨kt, et, d, v, id, o, _, hm, hd, hv1, hv2, rfl, hO.get i hi, hq, ha⟩, hk x h2⟩
theorem setV_of [DecidableEq K] (hK : MkOk d kf) (hn : ((m.map fun p => (kf p.1, vf p.2)).map (·.1)).Nodup) {key : K} {v : X} {m' : List (K × X)} (hx : setM m key v = some m') : SetV (m.map fun p => (kf p.1, vf p.2)) (kf key) (vf v) (m'.map fun p => (kf p.1, vf p.2)) := by
 unfold setM at hx
 cases hx
 split
 ·rename_i h
  obtain ⟨p, hp, he⟩ := List.any_eq_true.1 h
  have he : p.1 = key := by simpa using he
  obtain ⟨a, b, hab⟩ := List.append_of_mem hp
  subst hab
  refine .inr ⟨a.map fun p => (kf p.1, vf p.2), vf p.2, b.map fun p => (kf p.1, vf p.2), by simp [he], ?_⟩
  have hna : ∀ l : List (K × X), (∀ q ∈ l, q.1 ≠ key) → (l.map (fun p => if p.1 = key then (key, v) else p)) = l := fun l hl => by
   induction l with
   | nil => rfl
   | cons y l ih => rw [List.map_cons, if_neg (hl y (by simp)), ih fun q hq => hl q (by simp [hq])]
  rw [List.map_map, List.map_append, List.map_cons, List.nodup_append] at hn
  obtain ⟨_, n2, n3⟩ := hn
  rw [List.nodup_cons] at n2
  have ha : ∀ q ∈ a, q.1 ≠ key := fun q hq e => n3 (kf q.1) (List.mem_map.2 ⟨q, hq, rfl⟩) (kf p.1) (by simp) (by rw [e, he])
  have hb : ∀ q ∈ b, q.1 ≠ key := fun q hq e => n2.1 (List.mem_map.2 ⟨q, hq, by simp [e, he]⟩)
  rw [List.map_append, List.map_cons, hna a ha, hna b hb, if_pos he]
  simp
 ·rename_i h
  refine .inl ⟨fun p hp => ?_, by simp⟩
  obtain ⟨q, hq, rfl⟩ := List.mem_map.1 hp
  exact fun e => h (List.any_eq_true.2 ⟨q, hq, by simpa using hK.inj _ _ e⟩)
theorem n_mset [DecidableEq K] (hm : P.underlying t = some (.map kt et)) (hd : P.underlying kt = some d) (hK : MkOk d kf) (hV : MvOk vf) (hO : Own Φ H0 L H) (hq : Mok d kf vf o m) (i : Nat) (hi : L[i]? = some (.blk id (.obj o)))
 {key : K} {v : X} {k : Heap → Prop} {F : List (K × X) → Option R} (h : (setM m key v).bind F = some r) (hk : ∀ m' o' H', Mok d kf vf o' m' → F m' = some r → Own Φ H0 (L.set i (.blk id (.obj o'))) H' → k H') : E.mset t H (.map id) (kf key) (vf v) k := by
 obtain ⟨m', h1, h2⟩ := bind_some h
 have hs := setV_of (d := d) hE hK hq.nodup h1
 subst hE
 obtain ⟨kv, hv1, hv2⟩ := hK.raw key
 obtain ⟨vv, hv3⟩ := hV v
 exact ⟨kt, et, d, kv, vv, id, o, _, _, hm, hd, hv1, hv2, hv3, rfl, hO.get i hi, hq, hs, fun o' ho => hk m' o' _ ho h2 (hO.set i hi)⟩
end
end
end Go.Ab

namespace Go.Ab
variable [Glob] [Ar]
section
variable {P : Program} {nt : Nat} {rd : Option Nat} {E : Env} (hE : E = real P nt rd) {Φ : Heap → Heap → Prop} {H0 H : Heap} {L : List En}
include hE
theorem n_takeT (hO : Own Φ H0 L H) (i : Nat) {tl : Tail} (hi : L[i]? = some (.tl tl)) (ha : Appn tl) {k : Tail → Heap → Prop}
 (hk : ∀ H', Own Φ H0 (L.set i (.tl .nil)) H' → k tl H') : E.takeT H k := by
 subst hE
 exact ⟨tl, hO.appOk i hi ha, hk _ (hO.untok i hi rfl)⟩
theorem n_nameT (hO : Own Φ H0 L H) (i : Nat) (hi : L[i]? = some (.tl .nil)) {k : Tail → Heap → Prop}
 (hk : ∀ tl H', Own Φ H0 (L.set i (.tl tl)) H' → Appn tl → k tl H') : E.nameT H k := by
 subst hE
 refine ⟨fun tl htl => ?_, fun t ht => hk _ _ (hO.tok i hi ht) trivial⟩
 rcases htl with rfl | rfl
 ·exact hk _ _ (hO.untok i hi rfl) trivial
 ·exact hk _ _ (hO.untok i hi rfl) trivial
end
end Go.Ab

namespace Go.Ab
open Go.RowKit
variable [Glob] [Ar]
def EnNe (e e' : En) : Prop := ∀ id b b', e.id = some (id, b) → e'.id = some (id, b') → False
theorem Own0.perm {H0 H : Heap} {L L' : List En} (h : Own0 H0 L H) (p : L.Perm L') : Own0 H0 L' H := by
 have hp : L.Pairwise EnNe := by
  rw [List.pairwise_iff_getElem]
  intro i j hi hj hlt id b b' e1 e2
  have := h.inj i j _ _ id b b' (List.getElem?_eq_getElem hi) (List.getElem?_eq_getElem hj) e1 e2
  omega
 have hp' : L'.Pairwise EnNe := (p.pairwise_iff (fun {x y} (h : EnNe x y) id b b' e1 e2 => h id b' b e2 e1)).1 hp
 rw [List.pairwise_iff_getElem] at hp'
 refine ⟨h.ext, fun i e id b hi he => ?_, fun i j e e' id b b' hi hj he he' => ?_, fun x b hx => (h.only x b hx).imp (fun h => h) fun ⟨i, e, h1, h2⟩ => ?_⟩
 ·obtain ⟨j, hj⟩ := List.getElem?_of_mem (p.mem_iff.2 (List.mem_of_getElem? hi))
  exact h.has j e id b hj he
 ·obtain ⟨hi', ei⟩ := List.getElem?_eq_some_iff.1 hi
  obtain ⟨hj', ej⟩ := List.getElem?_eq_some_iff.1 hj
  rcases Nat.lt_trichotomy i j with hlt | heq | hlt
  ·exact (hp' i j hi' hj' hlt id b b' (by rw [ei]; exact he) (by rw [ej]; exact he')).elim
  ·exact heq
  ·exact (hp' j i hj' hi' hlt id b' b (by rw [ej]; exact he') (by rw [ei]; exact he)).elim
 ·obtain ⟨j, hj⟩ := List.getElem?_of_mem (p.mem_iff.1 (List.mem_of_getElem? h1))
  exact ⟨j, e, hj, h2⟩
theorem Own.perm {Φ : Heap → Heap → Prop} {F H : Heap} {L L' : List En} (h : Own Φ F L H) (p : L.Perm L') : Own Φ F L' H :=
 let ⟨hs, F', H1, h0, h1, h2⟩ := h; ⟨hs, F', H1, h0.perm p, h1, h2⟩
structure Rw (α : Type) where
 q : OG
 row : List (List α × Tail)
variable {α : Type} (f : α → V)
def cellV (c : List α × Tail) : V := .sl (Ar.lst f c.1) c.2
def rwV (w : Rw α) : V := .agg [.own w.q.id w.q.lo w.q.n]
def rwB (w : Rw α) : En := .blk w.q.id (.arr 1 (w.q.pre ++ Ar.lst (cellV f) w.row ++ w.q.rest))
def rwL (w : Rw α) : List En := rwB f w :: w.row.map fun c => .tl c.2
def fo : List (Rw α) → List En
 | [] => []
 | w :: F => rwL f w ++ fo F
def RwOk (w : Rw α) : Prop := Okn w.q (Ar.len w.row)
def RwA (w : Rw α) : Prop := ∀ c ∈ w.row, Appn c.2
variable {f}
theorem fo_app : ∀ (F G : List (Rw α)), fo f (F ++ G) = fo f F ++ fo f G
 | [], _ => rfl
 | w :: F, G => by rw [List.cons_append, fo, fo, fo_app F G, List.append_assoc]
theorem fo_split : ∀ {F : List (Rw α)} {c : Nat} {w : Rw α}, F[c]? = some w → ∃ R, (fo f F).Perm (rwL f w ++ R) ∧ ∀ w', (fo f (F.set c w')).Perm (rwL f w' ++ R)
 | [], _, _, h => by simp at h
 | v :: F, 0, w, h => by
  simp at h; subst h
  exact ⟨fo f F, .refl _, fun w' => .refl _⟩
 | v :: F, c + 1, w, h => by
  obtain ⟨R, h1, h2⟩ := fo_split (F := F) (c := c) (w := w) (by simpa using h)
  have key : ∀ (X Y : List En), X.Perm (Y ++ R) → (rwL f v ++ X).Perm (Y ++ (rwL f v ++ R)) := fun X Y hX =>
   (hX.append_left _).trans (by
    rw [← List.append_assoc, ← List.append_assoc]
    exact List.perm_append_comm.append_right R)
  exact ⟨rwL f v ++ R, key _ _ h1, fun w' => key _ _ (h2 w')⟩
theorem row_split : ∀ {row : List (List α × Tail)} {i : Nat} {c : List α × Tail}, row[i]? = some c → ∃ R, (row.map fun c => En.tl c.2).Perm (.tl c.2 :: R) ∧ ∀ c', ((row.set i c').map fun c => En.tl c.2).Perm (.tl c'.2 :: R)
 | [], _, _, h => by simp at h
 | v :: F, 0, w, h => by
  simp at h; subst h
  exact ⟨F.map fun c => .tl c.2, .refl _, fun w' => .refl _⟩
 | v :: F, i + 1, w, h => by
  obtain ⟨R, h1, h2⟩ := row_split (row := F) (i := i) (c := w) (by simpa using h)
  exact ⟨.tl v.2 :: R, (h1.cons _).trans (.swap ..), fun w' => ((h2 w').cons _).trans (.swap ..)⟩
theorem cell_split {F : List (Rw α)} {c i : Nat} {w : Rw α} {x : List α × Tail} (hc : F[c]? = some w) (hi : w.row[i]? = some x) :
 ∃ R, (fo f F).Perm (.tl x.2 :: rwB f w :: R) ∧ ∀ x', (fo f (F.set c ⟨w.q, w.row.set i x'⟩)).Perm (.tl x'.2 :: rwB f ⟨w.q, w.row.set i x'⟩ :: R) := by
 obtain ⟨R, h1, h2⟩ := fo_split (f := f) hc
 obtain ⟨S, k1, k2⟩ := row_split hi
 have key : ∀ (b : En) (X : List En) (t : En), X.Perm (t :: S) → (b :: (X ++ R)).Perm (t :: b :: (S ++ R)) := fun b X t hX =>
  ((hX.append_right R).cons b).trans (.swap ..)
 exact ⟨S ++ R, h1.trans (key _ _ _ k1), fun x' => (h2 _).trans (key _ _ _ (k2 x'))⟩
theorem lst_rwV_set {F : List (Rw α)} {c i : Nat} {w : Rw α} {x' : List α × Tail} (hc : F[c]? = some w) : Ar.lst rwV (F.set c ⟨w.q, w.row.set i x'⟩) = Ar.lst rwV F := by
 rw [Ar.lst_eq, Ar.lst_eq, List.map_set]
 apply List.ext_getElem?
 intro j
 rw [List.getElem?_set]
 split
 ·rename_i h; subst h
  split
  ·rw [List.getElem?_map, hc]; rfl
  ·rename_i h; rw [List.getElem?_eq_none (by omega)]
 ·rfl
theorem ok_set {F : List (Rw α)} {c i : Nat} {w : Rw α} {x' : List α × Tail} (hF : ∀ w ∈ F, RwOk w) (hc : F[c]? = some w) : ∀ v ∈ F.set c ⟨w.q, w.row.set i x'⟩, RwOk v := by
 intro v hv
 rcases List.mem_or_eq_of_mem_set hv with hv | hv
 ·exact hF v hv
 ·rw [hv]
  have h1 := hF w (List.mem_of_getElem? hc)
  unfold RwOk at h1 ⊢
  rw [Ar.len_eq] at h1 ⊢; rw [List.length_set]; exact h1
theorem okA_set {F : List (Rw α)} {c i : Nat} {w : Rw α} {x' : List α × Tail} (hF : ∀ w ∈ F, RwA w) (hc : F[c]? = some w) (hx : Appn x'.2) : ∀ v ∈ F.set c ⟨w.q, w.row.set i x'⟩, RwA v := by
 intro v hv
 rcases List.mem_or_eq_of_mem_set hv with hv | hv
 ·exact hF v hv
 ·rw [hv]
  intro c hc'
  rcases List.mem_or_eq_of_mem_set hc' with h | rfl
  ·exact hF w (List.mem_of_getElem? hc) c h
  ·exact hx
theorem Own.cell {Φ : Heap → Heap → Prop} {H0 H : Heap} {b : En} {L : List En} {F : List (Rw α)} {c i : Nat} {w : Rw α} {x : List α × Tail} (hO : Own Φ H0 (b :: (fo f F ++ L)) H) (hc : F[c]? = some w) (hi : w.row[i]? = some x) :
 ∃ R, Own Φ H0 (.tl x.2 :: rwB f w :: b :: R) H ∧ ∀ x' H', Own Φ H0 (.tl x'.2 :: rwB f ⟨w.q, w.row.set i x'⟩ :: b :: R) H' → Own Φ H0 (b :: (fo f (F.set c ⟨w.q, w.row.set i x'⟩) ++ L)) H' := by
 obtain ⟨R, h1, h2⟩ := cell_split (f := f) hc hi
 have key : ∀ (X : List En) (t r : En), X.Perm (t :: r :: R) → (b :: (X ++ L)).Perm (t :: r :: b :: (R ++ L)) := fun X t r h =>
  ((h.append_right L).cons b).trans ((List.Perm.swap t b _).trans ((List.Perm.swap r b _).cons t))
 exact ⟨R ++ L, hO.perm (key _ _ _ h1), fun x' H' h => h.perm (key _ _ _ (h2 x')).symm⟩
theorem Own.row {Φ : Heap → Heap → Prop} {H0 H : Heap} {b b' : En} {L : List En} {F : List (Rw α)} {w : Rw α} (hO : Own Φ H0 (rwB f w :: b :: b' :: (fo f F ++ L)) H) (hw : ∀ c ∈ w.row, (En.tl c.2).id = none) : Own Φ H0 (b' :: (fo f (F ++ [w]) ++ (b :: L))) H := by
 have h1 : ∀ (row : List (List α × Tail)) (M : List En), (∀ c ∈ row, (En.tl c.2).id = none) → Own Φ H0 M H → Own Φ H0 ((row.map fun c => .tl c.2) ++ M) H := by
  intro row
  induction row with
  | nil => exact fun _ _ h => h
  | cons c row ih => exact fun M hr h => (ih M (fun c hc => hr c (by simp [hc])) h).tl0 (hr c (by simp))
 have h2 := h1 w.row _ hw hO
 refine h2.perm ?_
 rw [fo_app]
 simp only [fo, rwL, List.append_nil]
 generalize w.row.map (fun c => En.tl c.2) = X
 generalize fo f F = Y
 have p1 : (X ++ rwB f w :: b :: b' :: (Y ++ L)).Perm (rwB f w :: X ++ (b :: b' :: (Y ++ L))) := List.perm_middle
 have p2 : (rwB f w :: X ++ (b :: b' :: (Y ++ L))).Perm (b' :: (rwB f w :: X ++ (b :: (Y ++ L)))) :=
  ((List.Perm.swap b' b (Y ++ L)).append_left (rwB f w :: X)).trans List.perm_middle
 refine p1.trans (p2.trans (.cons b' ?_))
 have p3 : (rwB f w :: X ++ (b :: (Y ++ L))).Perm (rwB f w :: X ++ (Y ++ b :: L)) := (List.perm_middle.symm).append_left _
 refine p3.trans ?_
 rw [← List.append_assoc]
 exact (List.perm_append_comm (l₁ := rwB f w :: X) (l₂ := Y)).append_right _
theorem Own.cellB {Φ : Heap → Heap → Prop} {H0 H : Heap} (B : List En) {L : List En} {F : List (Rw α)} {c i : Nat} {w : Rw α} {x : List α × Tail} (hO : Own Φ H0 (B ++ (fo f F ++ L)) H) (hc : F[c]? = some w) (hi : w.row[i]? = some x) :
 ∃ R, Own Φ H0 (.tl x.2 :: rwB f w :: (B ++ R)) H ∧ ∀ x' H', Own Φ H0 (.tl x'.2 :: rwB f ⟨w.q, w.row.set i x'⟩ :: (B ++ R)) H' → Own Φ H0 (B ++ (fo f (F.set c ⟨w.q, w.row.set i x'⟩) ++ L)) H' := by
 obtain ⟨R, h1, h2⟩ := cell_split (f := f) hc hi
 have key : ∀ (X : List En) (t r : En), X.Perm (t :: r :: R) → (B ++ (X ++ L)).Perm (t :: r :: (B ++ (R ++ L))) := fun X t r h =>
  ((h.append_right L).append_left B).trans (List.perm_middle.trans (List.perm_middle.cons t))
 exact ⟨R ++ L, hO.perm (key _ _ _ h1), fun x' H' h => h.perm (key _ _ _ (h2 x')).symm⟩
theorem Own.rowB {Φ : Heap → Heap → Prop} {H0 H : Heap} (B : List En) {L : List En} {F : List (Rw α)} {w : Rw α} (hO : Own Φ H0 (rwB f w :: (B ++ (fo f F ++ L))) H) (hw : ∀ c ∈ w.row, (En.tl c.2).id = none) : Own Φ H0 (B ++ (fo f (F ++ [w]) ++ L)) H := by
 have h1 : ∀ (row : List (List α × Tail)) (M : List En), (∀ c ∈ row, (En.tl c.2).id = none) → Own Φ H0 M H → Own Φ H0 ((row.map fun c => .tl c.2) ++ M) H := by
  intro row
  induction row with
  | nil => exact fun _ _ h => h
  | cons c row ih => exact fun M hr h => (ih M (fun c hc => hr c (by simp [hc])) h).tl0 (hr c (by simp))
 refine (h1 w.row _ hw hO).perm ?_
 rw [fo_app]
 simp only [fo, rwL, List.append_nil]
 generalize w.row.map (fun c => En.tl c.2) = X
 generalize fo f F = Y
 have p1 : (X ++ rwB f w :: (B ++ (Y ++ L))).Perm (rwB f w :: X ++ (B ++ (Y ++ L))) := List.perm_middle
 refine p1.trans ?_
 have p2 : (rwB f w :: X ++ (B ++ (Y ++ L))).Perm (B ++ (rwB f w :: X ++ (Y ++ L))) := by
  rw [← List.append_assoc, ← List.append_assoc B]
  exact (List.perm_append_comm (l₁ := rwB f w :: X) (l₂ := B)).append_right _
 refine p2.trans (.append_left B ?_)
 rw [← List.append_assoc]
 exact (List.perm_append_comm (l₁ := rwB f w :: X) (l₂ := Y)).append_right _
end Go.Ab

