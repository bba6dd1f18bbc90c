/- AbC1 AbC2 AbC3 AbC4 GCTypes GCTy GCEn -/
import Derived.Test.YtpapabjndpgcnaaGreatDoorT23
import Derived.Sort.Grow
import Derived.Test.YtpapabjndpgcnaaGreatDoorT21
import Derived.Shelf.Sort.Plain
import Derived.Shelf.Slices.In.SortNone
import Derived.Shelf.Slices.CompactI
import Derived.Test.YtpapabjndpgcnaaGreatDoorT20
import Derived.KernelRfl
import Derived.Test.YtpapabjndpgcnaaGreatDoorChecked
set_option linter.all false

namespace Go.Ab
open Go.RowKit Go.Sort
variable [Glob]
theorem Rl.more {g : Gh} {H : Heap} {w w' : World} (h : Rl g H w) (hb : Below g.base w w') (hs : ∀ b, b < w.heap.size → w'.heap[b]? = w.heap[b]?) : Stp g w g w' ∧ Rl g H w' := by
 have s : Stp g w g w' := ⟨fun _ _ e => e, fun _ _ e => e, fun _ _ e => e, rfl, fun b o hf => by simp only [World.cell?, hs b (h.fz_lt hf)], hb, fun _ _ _ => rfl⟩
 exact ⟨s, fun x k hx => (h.blk x k hx).mono hx s fun y hy => ⟨hs y (h.lt hy), fun _ ho => ho⟩, h.inj, fun b o hf => by obtain ⟨v, hv⟩ := h.frz b o hf; exact ⟨v, (s.cell b o hf).trans hv⟩, h.nxt, Nat.le_trans h.bnd hb.size, fun n => (h.glb n).mono s⟩
def rowI (q : OG) (zs : List Int) : List V := q.pre ++ zs.map (V.int .i64) ++ q.rest
theorem rowI_len (q : OG) (zs : List Int) : (rowI q zs).length = q.pre.length + zs.length + q.rest.length := by simp [rowI]; omega
theorem rowI_mid {q : OG} {zs : List Int} {j : Nat} (hj : j < zs.length) : (rowI q zs).getD (q.pre.length + j) .bad = .int .i64 zs[j] := by
 unfold rowI
 rw [List.append_assoc, List.getD_eq_getElem?_getD, List.getElem?_append_right (by omega), Nat.add_sub_cancel_left, List.getElem?_append_left (by simpa using hj), List.getElem?_map, List.getElem?_eq_getElem hj]
 rfl
theorem rowI_out {q : OG} {zs ds : List Int} (hl : ds.length = zs.length) {i : Nat} (hi : i < q.pre.length ∨ q.pre.length + ds.length ≤ i) : (rowI q ds).getD i .bad = (rowI q zs).getD i .bad := by
 unfold rowI
 simp only [List.append_assoc, List.getD_eq_getElem?_getD]
 rcases hi with hi | hi
 ·rw [List.getElem?_append_left hi, List.getElem?_append_left hi]
 ·have key : ∀ l : List V, l.length = zs.length → (q.pre ++ (l ++ q.rest))[i]? = q.rest[i - q.pre.length - zs.length]? := fun l h => by
   rw [List.getElem?_append_right (by omega), List.getElem?_append_right (by omega), h]
  rw [key _ (by simp [hl]), key _ (by simp)]
theorem put_get {off : Nat} {ds : List Int} {c : Array Value} {k : Nat} (hk : k < c.size) : (putCells (Value.int .i64) off ds.toArray c).getD k undef = if off ≤ k ∧ k < off + ds.length then .int .i64 (ds.toArray[k - off]!) else c.getD k undef := by
 unfold putCells
 simp only [Array.getD, Array.size_mapIdx, hk, dif_pos, Array.getInternal_eq_getElem, Array.getElem_mapIdx, List.size_toArray]
def CallI (P : Program) (f : FuncId) (zs ds : List Int) (r : OG → V) : Prop :=
 ∀ H (q : OG), Okn q (zs.length : Nat) → H q.id = some (.arr 1 (rowI q zs)) → CallA P f [.own q.id q.lo q.n] H fun x H' => x = r q ∧ H' = upd H q.id (some (.arr 1 (rowI q ds)))
theorem callI_of {P : Program} {f : FuncId} {zs ds : List Int} {r : OG → V} {m : Nat} (hl : ds.length = zs.length)
 (hrun : ∀ vals w, (callFunc f vals).run P w = .ok (.enter f vals) w)
 (h0 : zs = [] → ∀ p cap w, Calls P f #[.slice p 0 cap] w fun e w' => ∃ v, e = .returned v ∧ w' = w ∧ (v = .slice p 0 cap ∧ (∀ q, Okn q (zs.length : Nat) → r q = .own q.id q.lo q.n) ∨ v = .tuple #[] ∧ ∀ q, r q = .tup []))
 (h1 : ∀ blk off cap w, 0 < zs.length → zs.length ≤ cap → Holds (Value.int .i64) w blk off zs.toArray → blk < w.heap.size →
  Calls P f #[.slice (some ⟨blk, off, none⟩) zs.length cap] w fun e w' => ∃ v, e = .returned v ∧ (v = .slice (some ⟨blk, off, none⟩) m cap ∧ m ≤ zs.length ∧ (∀ q, r q = .own q.id q.lo (m : Nat)) ∨ v = .tuple #[] ∧ ∀ q, r q = .tup []) ∧
   ∃ n os, w' = grow (putRow (Value.int .i64) (Sort.ahead w n) blk off ds.toArray) os) : CallI P f zs ds r := by
 intro H q hq hk g w vals hR hA
 obtain ⟨hlen, hv⟩ := hA
 obtain ⟨vals⟩ := vals
 match vals, hlen with
 | [v], _ =>
  have hv1 := hv 0 (by simp)
  simp at hv1
  rw [hrun]
  show CallsIn Fence.wide 0 P f #[v] w _
  rw [callsIn_wide]
  have hq0 := hq
  obtain ⟨hlo, hn⟩ := hq
  obtain ⟨b, p, e1, e2, e3, e4, e5, e6, e7, e8, e9, e10⟩ := own_row hR hk hv1
  rw [rowI_len] at e2 e5 e7 e8 e10
  subst e2
  have hnn : q.n.toNat = zs.length := by omega
  by_cases hz : zs = []
  ·subst hz
   have hd : ds = [] := List.length_eq_zero_iff.1 hl
   subst hd
   rw [hnn]
   refine (h0 rfl p _ w).mono ?_
   rintro e w' ⟨v, rfl, rfl, hcase⟩
   refine ⟨v, rfl, g, r q, H, Stp.refl _ _, hR, ?_, rfl, ?_⟩
   ·rcases hcase with ⟨rfl, hr⟩ | ⟨rfl, hr⟩
    ·rw [hr q hq0]; rw [hnn] at hv1; exact hv1
    ·rw [hr]; exact VR.und g w'
   ·funext x
    by_cases hx : x = q.id
    ·subst hx; rw [upd_same]; exact hk
    ·rw [upd_other _ _ hx]
  ·have hzl : 0 < zs.length := List.length_pos_iff.2 hz
   rcases e10 with e10 | ⟨c, T, k1, k2, k3, k4, k5, k6⟩
   ·omega
   have hp := e8 (by omega)
   subst hp
   have hoff : (g.ow q.id).o + q.lo.toNat * 1 = (g.ow q.id).o + q.pre.length := by rw [hlo]; simp
   rw [hnn, hoff]
   have hblt : b < w.heap.size := by
    rcases Nat.lt_or_ge b w.heap.size with h | h
    ·exact h
    ·rw [Array.getElem?_eq_none h] at k2; cases k2
   have hcell : ∀ o, w.cell? ⟨b, o, none⟩ = c[o]? := fun o => by simp [World.cell?, k2]
   have hH : Holds (Value.int .i64) w b ((g.ow q.id).o + q.pre.length) zs.toArray := fun j hj => by
    have hj' : j < zs.length := by simpa using hj
    refine ⟨?_, by simp [World.frozen?, k2]⟩
    have h := (k4 (q.pre.length + j) 0 (by omega) (by omega)).2
    rw [rowI_mid hj'] at h
    have h := VR.int_inv h
    rw [hcell]
    have hlt : (g.ow q.id).o + q.pre.length + j < c.size := by omega
    rw [show (g.ow q.id).o + (q.pre.length + j) * 1 + 0 = (g.ow q.id).o + q.pre.length + j by omega] at h
    simp only [Array.getD, hlt, dif_pos, Array.getInternal_eq_getElem] at h
    rw [Array.getElem?_eq_getElem hlt, h]
    simp [hj']
   refine (h1 b _ _ w hzl (by omega) hH hblt).mono ?_
   rintro e w' ⟨v, rfl, hcase, n, os, rfl⟩
   have hs := Rl.setArr hR (ys := rowI q ds) (c' := putCells (Value.int .i64) ((g.ow q.id).o + q.pre.length) ds.toArray c) hk e1 (by rw [rowI_len]; omega) k2 (by simp [putCells])
    (fun o ho => by
     simp only [putCells, Array.getElem?_mapIdx]
     cases c[o]? with
     | none => rfl
     | some x => simp only [Option.map_some]; rw [if_neg (by omega)])
    (by rw [rowI_len, rowI_len, hl])
    (fun i hi => by
     rw [rowI_len] at hi
     by_cases hm : i < q.pre.length ∨ q.pre.length + ds.length ≤ i
     ·rw [rowI_out hl hm]; exact e9 i (by rw [rowI_len]; omega)
     ·obtain ⟨j, rfl⟩ : ∃ j, i = q.pre.length + j := ⟨i - q.pre.length, by omega⟩
      rw [rowI_mid (show j < ds.length by omega)]; rfl)
    (fun i j hi hj => by
     rw [rowI_len] at hi
     have hj0 : j = 0 := by omega
     subst hj0
     rw [put_get (by omega)]
     by_cases hm : i < q.pre.length ∨ q.pre.length + ds.length ≤ i
     ·rw [if_neg (by omega), rowI_out hl hm]
      exact k4 i 0 (by omega) (by omega)
     ·obtain ⟨j, rfl⟩ : ∃ j, i = q.pre.length + j := ⟨i - q.pre.length, by omega⟩
      have hj : j < ds.length := by omega
      rw [if_pos (by omega), rowI_mid hj, show (g.ow q.id).o + (q.pre.length + j) * 1 + 0 - ((g.ow q.id).o + q.pre.length) = j by omega]
      have : ds.toArray[j]! = ds[j] := by simp [hj]
      rw [this]
      exact ⟨rfl, VR.int _ _⟩)
   obtain ⟨s1, R1⟩ := hs
   generalize hw1 : w.setRow b (putCells (Value.int .i64) ((g.ow q.id).o + q.pre.length) ds.toArray c) = w1 at s1 R1
   have hsz1 : w1.heap.size = w.heap.size := by rw [← hw1]; simp [World.setRow]
   have hheap : ∀ x, x < w1.heap.size → (grow (putRow (Value.int .i64) (Sort.ahead w n) b ((g.ow q.id).o + q.pre.length) ds.toArray) os).heap[x]? = w1.heap[x]? := fun x hx => by
    have hx' : x < w.heap.size := by omega
    simp only [grow, putRow, mapBlock, Sort.ahead]
    rw [Array.getElem?_append_left (by simpa using hx'), Array.getElem?_modify]
    by_cases hxb : b = x
    ·subst hxb
     rw [if_pos rfl, k2, ← hw1, setRow_heap w b c _ T (0, 0) k2]
     rfl
    ·rw [if_neg hxb, ← hw1, heap_setRow_other w b _ x (fun e => hxb e.symm)]
   have hbel : Below g.base w1 (grow (putRow (Value.int .i64) (Sort.ahead w n) b ((g.ow q.id).o + q.pre.length) ds.toArray) os) := by
    refine ⟨by rw [← hw1]; rfl, by rw [← hw1]; rfl, by rw [← hw1]; rfl, ?_, fun k hk' => ?_⟩
    ·rw [hsz1]; simp [grow, putRow, mapBlock, Sort.ahead]
    ·exact hheap k (by have := hR.bnd; omega)
   obtain ⟨s2, R2⟩ := R1.more hbel hheap
   refine ⟨v, rfl, g, r q, _, s1.trans s2, R2, ?_, rfl, rfl⟩
   rcases hcase with ⟨rfl, hm, hr⟩ | ⟨rfl, hr⟩
   ·rw [hr]
    have hcap : (g.ow q.id).cap = q.pre.length + zs.length + q.rest.length := by rw [e7]
    have := VR.own (g := g) (w := grow (putRow (Value.int .i64) (Sort.ahead w n) b ((g.ow q.id).o + q.pre.length) ds.toArray) os) (id := q.id) (b := b) (lo := q.lo) (n := (m : Nat)) (p := some ⟨b, (g.ow q.id).o + q.pre.length, none⟩) e1 e3 (by omega) (by omega) (fun _ => by rw [e6, hoff])
    rw [hcap] at this
    simpa using this
   ·rw [hr]; exact VR.und _ _
end Go.Ab

namespace Go.Ab
open Go.RowKit
variable [Glob]
def CallS (P : Program) (f : FuncId) (zs ds : List Int) : Prop := CallI P f zs ds (fun _ => .tup []) ∧ ds.length = zs.length
theorem rowI_lst [Ar] (q : OG) (zs : List Int) : q.pre ++ Ar.lst (V.int .i64) zs ++ q.rest = rowI q zs := by rw [Ar.lst_eq]; rfl
section
variable [Ar] {P : Program} {nt : Nat} {rd : Option Nat} {E : Env} (hE : E = real P nt rd)
include hE
theorem n_callS {Φ : Heap → Heap → Prop} {H0 H : Heap} {L : List En} {fid : FuncId} {q : OG} {k : V → Heap → Prop} {R : Type} {m : Option (List Int)} {F : List Int → Option R} {r : R}
 {l : List Int} (hO : Own Φ H0 L H) (hq : Okn q (Ar.len l)) (i : Nat) (hi : L[i]? = some (.blk q.id (.arr 1 (q.pre ++ Ar.lst (V.int .i64) l ++ q.rest)))) (h : m.bind F = some r) (hc : ∀ x, m = some x → CallS P fid l x)
 (hk : ∀ x H', Okn q (Ar.len x) → Own Φ H0 (L.set i (.blk q.id (.arr 1 (q.pre ++ Ar.lst (V.int .i64) x ++ q.rest)))) H' → F x = some r → k (.tup []) H') :
 E.call (.func (.func fid) [] []) [.own q.id q.lo q.n] H k := by
 subst hE
 obtain ⟨x, h1, h2⟩ := bind_some h
 obtain ⟨c1, c2⟩ := hc x h1
 refine CallA.value (F := []) (C := []) ?_
 simp only [List.nil_append, List.append_nil]
 rw [rowI_lst] at hi
 refine (c1 H q (by rw [← Ar.len_eq]; exact hq) (hO.get i hi)).mono fun v H' ⟨e1, e2⟩ => ?_
 subst e1; subst e2
 refine hk x _ ?_ ?_ h2
 ·rw [Ar.len_eq] at hq ⊢; rw [c2]; exact hq
 ·rw [rowI_lst]; exact hO.set i hi
end
end Go.Ab

namespace Go.Ab
open Go.RowKit Go.Shelf Go.Sort
variable [Glob]
theorem callS_sort {P : Program} {ρ : Ren} (Ly : Go.Proofs.Lays.n189 P ρ) (hrun : ∀ vals w, (callFunc (ρ.f 189) vals).run P w = .ok (.enter (ρ.f 189) vals) w) {zs r : List Int} (h : sortL zs = some r) : CallS P (ρ.f 189) zs r := by
 obtain ⟨hlt, rfl⟩ := sortL_some h
 have hl : (zs.mergeSort fun x y => decide (x ≤ y)).length = zs.length := List.length_mergeSort ..
 refine ⟨callI_of (m := 0) hl hrun ?_ ?_, hl⟩
 ·intro _ p cap w
  exact (Go.Proofs.Any.slices_Sort_int_none Ly p cap w).mono fun e w' ⟨a, b⟩ => ⟨_, a, b, .inr ⟨rfl, fun _ => rfl⟩⟩
 ·intro blk off cap w _ _ hH hb
  exact (Go.Proofs.Any.slices_Sort_int Ly blk off cap zs w hH hb hlt).mono fun e w' ⟨a, n, os, b⟩ => ⟨_, a, .inr ⟨rfl, fun _ => rfl⟩, n, os, b⟩
def compactL (l : List Int) : Option (List Int) := if l.length ≤ 9223372036854775807 then some (Lib.compact l) else none
theorem compact_len (zs : List Int) : (Lib.compact zs).length ≤ zs.length := by
 unfold Lib.compact Lib.compactUpTo
 rw [List.length_map]
 exact Nat.le_trans (List.length_filter_le ..) (by simp)
theorem callOO_compact [Ar] {P : Program} {ρ : Ren} (Ly : Go.Proofs.Lays2.n20 P ρ) (hrun : ∀ vals w, (callFunc (ρ.f 20) vals).run P w = .ok (.enter (ρ.f 20) vals) w) {zs r : List Int} (h : compactL zs = some r) :
 CallOO P (ρ.f 20) [] 1 (Ar.lst (V.int .i64) zs) (Ar.lst (V.int .i64) r) := by
 unfold compactL at h
 split at h
 case isFalse => cases h
 rename_i hlt
 cases h
 have hle : (Lib.compact zs).length ≤ zs.length := compact_len zs
 have key : CallI P (ρ.f 20) zs (Lib.compact zs ++ List.replicate (zs.length - (Lib.compact zs).length) 0) (fun q => .own q.id q.lo ((Lib.compact zs).length : Nat)) := by
  refine callI_of (m := (Lib.compact zs).length) (by simp; omega) hrun ?_ ?_
  ·rintro rfl p cap w
   refine (Go.Proofs.Any.slices_Compact_int_empty Ly p cap w).mono fun e w' ⟨a, b⟩ => ⟨_, a, b, .inl ⟨rfl, fun q hq => ?_⟩⟩
   rw [hq.2]
   have : (Lib.compact ([] : List Int)).length = 0 := by have := compact_len []; simp only [List.length_nil] at this; omega
   rw [this]; rfl
  ·intro blk off cap w _ hc hH hb
   refine (Go.Proofs.Any.slices_Compact_int Ly blk off cap zs w hH hlt hc).mono fun e w' ⟨a, n, b⟩ => ⟨_, a, .inl ⟨rfl, hle, fun _ => rfl⟩, n, #[], by rw [b, grow_empty]⟩
 intro H q hq hk
 rw [Ar.lst_eq] at hk hq
 refine (key H q (by simpa using hq) (by unfold rowI; exact hk)).mono fun v H' ⟨e1, e2⟩ => ?_
 subst e1; subst e2
 refine ⟨⟨q.id, q.lo, ((Lib.compact zs).length : Nat), q.pre, (List.replicate (zs.length - (Lib.compact zs).length) 0).map (V.int .i64) ++ q.rest⟩, rfl, ⟨hq.1, by rw [Ar.lst_eq]; simp⟩, by rw [upd_same], ?_⟩
 funext x
 rw [Ar.lst_eq]
 by_cases hx : x = q.id
 ·subst hx; rw [upd_same, upd_same]; simp [rowI]
 ·rw [upd_other _ _ hx, upd_other _ _ hx, upd_other _ _ hx]
end Go.Ab

namespace Go.Ab
open Go.RowKit
variable [Glob]
theorem CallA.thaw {P : Program} {f : FuncId} {args : List V} {H : Heap} {K K' : V → Heap → Prop} (h : CallA P f args H K)
 (hk : ∀ x H', K x H' → K' x H' ∨ ∃ id sz row lo n, x = .own id lo n ∧ H' id = some (.arr sz row) ∧ K' (.sl (subL row lo n) .ro) (upd H' id none)) : CallA P f args H K' :=
 fun g w vals hR hA => (h g w vals hR hA).mono fun v w' ⟨g', x, H', s, hR', hv, hK⟩ => by
  rcases hk x H' hK with hK | ⟨id, sz, row, lo, n, rfl, h1, h2⟩
  ·exact ⟨g', x, H', s, hR', hv, hK⟩
  ·obtain ⟨g2, s2, R2, hv2⟩ := hR'.freezeArr h1
   exact ⟨g2, _, _, s.trans s2, R2, hv2 _ _ _ (hv.mono s2), h2⟩
section
variable [Ar] {P : Program} {T : Tbl}
theorem callP_of_specF {f : FuncId} {fn : Func} {c : Code} {n : Nat} {rs : List ResultVar} {args : List V} {r : V} (cf : Cf) (hP : POk P T) (hf : P.funcs[f]? = some fn) (hb : fn.body = some c) (hd : drawsOk cf c = true)
 (hcall : ∀ vals w, (callFunc f vals).run P w = .ok (.enter f vals) w) (hnt : fn.ntmps = n) (hrs : fn.results.toList = rs) (hn : Nat.ble args.length n = true)
 (h : ∀ (E : Env) (H : Heap) (K : V → Heap → Prop), E = real P n none → (∀ x L H', Own Eq H L H' → LeV x r → K x H') →
  (∀ (q : OG) (sz : Nat) (xs : List V) (i : Nat) (L : List En) H', Own Eq H L H' → L[i]? = some (.blk q.id (.arr sz (q.pre ++ xs ++ q.rest))) → Okn q (xs.length : Nat) → LeV (.sl xs .ro) r → K (.own q.id q.lo q.n) H') → run E T n cf c ⟨entryL args 0, []⟩ H (finX E T rs K)) : CallP P f args r := fun H => by
 refine CallA.le ?_
 refine (callA_of_run (K := fun x H' => (∃ y H2, LeV x y ∧ HLe H2 H' ∧ y = r ∧ H2 = H) ∨ ∃ (q : OG) (sz : Nat) (xs : List V) (i : Nat) (L : List En), x = .own q.id q.lo q.n ∧ Own Eq H L H' ∧ L[i]? = some (.blk q.id (.arr sz (q.pre ++ xs ++ q.rest))) ∧ Okn q (xs.length : Nat) ∧ LeV (.sl xs .ro) r)
  cf hP.1 hP.2 hf hb hd hcall hnt hrs hn fun E hE => ?_).thaw ?_
 ·exact h E H _ hE (fun x L H' hO hx => .inl ⟨r, H, hx, hO.ext, rfl, rfl⟩) fun q sz xs i L H' hO hi hq hr => .inr ⟨q, sz, xs, i, L, rfl, hO, hi, hq, hr⟩
 ·rintro x H' (h | ⟨q, sz, xs, i, L, rfl, hO, hi, hq, hr⟩)
  ·exact .inl h
  ·refine .inr ⟨q.id, sz, _, q.lo, q.n, rfl, hO.get i hi, r, H, ?_, (hO.del i hi).ext, rfl, rfl⟩
   rw [sub_at rfl hq.1 hq.2]; exact hr
end
end Go.Ab

namespace Go.Ab
open Go.RowKit Go.Proofs
set_option maxRecDepth 100000
def ti3 : TInf := ⟨1, 8, false, none, none, [], none, some (.int .i64 0), some [0], false, false, some .i64, true⟩
theorem tiOk3 : TOk1 Tryz.prog 3 ti3 := ⟨by kernel_rfl, by kernel_rfl, by kernel_rfl, by kernel_rfl, by kernel_rfl, trivial, trivial, (by show zeO Tryz.prog 3 = some _; kernel_rfl), (by show flatEq Tryz.prog 9 3 = some _; kernel_rfl), by kernel_rfl, (fun h => (by cases h)), (by show Tryz.prog.underlying 3 = some (.int _); kernel_rfl), (fun _ => (by kernel_rfl))⟩
def ti4 : TInf := ⟨1, 1, false, none, none, [], none, some (.bool false), some [1], false, true, none, true⟩
theorem tiOk4 : TOk1 Tryz.prog 4 ti4 := ⟨by kernel_rfl, by kernel_rfl, by kernel_rfl, by kernel_rfl, by kernel_rfl, trivial, trivial, (by show zeO Tryz.prog 4 = some _; kernel_rfl), (by show flatEq Tryz.prog 9 4 = some _; kernel_rfl), by kernel_rfl, (fun _ => (by kernel_rfl)), trivial, (fun _ => (by kernel_rfl))⟩
def ti5 : TInf := ⟨1, 1, false, none, none, [], none, some (.int .u8 0), some [0], false, false, some .u8, true⟩
theorem tiOk5 : TOk1 Tryz.prog 5 ti5 := ⟨by kernel_rfl, by kernel_rfl, by kernel_rfl, by kernel_rfl, by kernel_rfl, trivial, trivial, (by show zeO Tryz.prog 5 = some _; kernel_rfl), (by show flatEq Tryz.prog 9 5 = some _; kernel_rfl), by kernel_rfl, (fun h => (by cases h)), (by show Tryz.prog.underlying 5 = some (.int _); kernel_rfl), (fun _ => (by kernel_rfl))⟩
def ti9 : TInf := ⟨1, 16, false, none, none, [], none, some (.str ⟨#[]⟩), some [2], true, false, none, true⟩
theorem tiOk9 : TOk1 Tryz.prog 9 ti9 := ⟨by kernel_rfl, by kernel_rfl, by kernel_rfl, by kernel_rfl, by kernel_rfl, trivial, trivial, (by show zeO Tryz.prog 9 = some _; kernel_rfl), (by show flatEq Tryz.prog 9 9 = some _; kernel_rfl), by kernel_rfl, (fun h => (by cases h)), trivial, (fun _ => (by kernel_rfl))⟩
def ti22 : TInf := ⟨1, 24, false, some (29), none, [], none, some (.sl [] .nil), none, false, false, none, true⟩
theorem tiOk22 : TOk1 Tryz.prog 22 ti22 := ⟨by kernel_rfl, by kernel_rfl, by kernel_rfl, by kernel_rfl, by kernel_rfl, trivial, trivial, (by show zeO Tryz.prog 22 = some _; kernel_rfl), trivial, by kernel_rfl, (fun h => (by cases h)), trivial, (fun _ => (by kernel_rfl))⟩
def ti23 : TInf := ⟨1, 24, false, some (27), none, [], none, some (.sl [] .nil), none, false, false, none, true⟩
theorem tiOk23 : TOk1 Tryz.prog 23 ti23 := ⟨by kernel_rfl, by kernel_rfl, by kernel_rfl, by kernel_rfl, by kernel_rfl, trivial, trivial, (by show zeO Tryz.prog 23 = some _; kernel_rfl), trivial, by kernel_rfl, (fun h => (by cases h)), trivial, (fun _ => (by kernel_rfl))⟩
def ti25 : TInf := ⟨3, 32, true, none, none, [some (0, 3), some (1, 3), some (2, 9)], some [(0, 1), (1, 1), (2, 1)], some (.agg [.int .i64 0, .int .i64 0, .str ⟨#[]⟩]), some [0, 0, 2], false, false, none, true⟩
theorem tiOk25 : TOk1 Tryz.prog 25 ti25 := ⟨by kernel_rfl, by kernel_rfl, by kernel_rfl, by kernel_rfl, by kernel_rfl, ⟨by kernel_rfl, by kernel_rfl, by kernel_rfl, trivial⟩, (by show placesO Tryz.prog 25 = some _; kernel_rfl), (by show zeO Tryz.prog 25 = some _; kernel_rfl), (by show flatEq Tryz.prog 9 25 = some _; kernel_rfl), by kernel_rfl, (fun h => (by cases h)), trivial, (fun _ => (by kernel_rfl))⟩
def ti27 : TInf := ⟨8, 88, true, none, none, [some (0, 3), some (1, 23), some (2, 3), some (3, 3), some (4, 3), some (5, 25)], some [(0, 1), (1, 1), (2, 1), (3, 1), (4, 1), (5, 3)], some (.agg [.int .i64 0, .sl [] .nil, .int .i64 0, .int .i64 0, .int .i64 0, .int .i64 0, .int .i64 0, .str ⟨#[]⟩]), none, false, false, none, true⟩
theorem tiOk27 : TOk1 Tryz.prog 27 ti27 := ⟨by kernel_rfl, by kernel_rfl, by kernel_rfl, by kernel_rfl, by kernel_rfl, ⟨by kernel_rfl, by kernel_rfl, by kernel_rfl, by kernel_rfl, by kernel_rfl, by kernel_rfl, trivial⟩, (by show placesO Tryz.prog 27 = some _; kernel_rfl), (by show zeO Tryz.prog 27 = some _; kernel_rfl), trivial, by kernel_rfl, (fun h => (by cases h)), trivial, (fun _ => (by kernel_rfl))⟩
def ti29 : TInf := ⟨14, 152, true, none, none, [some (0, 3), some (1, 22), some (2, 3), some (3, 3), some (4, 3), some (5, 3), some (6, 27)], some [(0, 1), (1, 1), (2, 1), (3, 1), (4, 1), (5, 1), (6, 8)], some (.agg [.int .i64 0, .sl [] .nil, .int .i64 0, .int .i64 0, .int .i64 0, .int .i64 0, .int .i64 0, .sl [] .nil, .int .i64 0, .int .i64 0, .int .i64 0, .int .i64 0, .int .i64 0, .str ⟨#[]⟩]), none, false, false, none, true⟩
theorem tiOk29 : TOk1 Tryz.prog 29 ti29 := ⟨by kernel_rfl, by kernel_rfl, by kernel_rfl, by kernel_rfl, by kernel_rfl, ⟨by kernel_rfl, by kernel_rfl, by kernel_rfl, by kernel_rfl, by kernel_rfl, by kernel_rfl, by kernel_rfl, trivial⟩, (by show placesO Tryz.prog 29 = some _; kernel_rfl), (by show zeO Tryz.prog 29 = some _; kernel_rfl), trivial, by kernel_rfl, (fun h => (by cases h)), trivial, (fun _ => (by kernel_rfl))⟩
def ti31 : TInf := ⟨1, 8, false, none, none, [], none, some (.int .i64 0), some [0], false, false, some .i64, true⟩
theorem tiOk31 : TOk1 Tryz.prog 31 ti31 := ⟨by kernel_rfl, by kernel_rfl, by kernel_rfl, by kernel_rfl, by kernel_rfl, trivial, trivial, (by show zeO Tryz.prog 31 = some _; kernel_rfl), (by show flatEq Tryz.prog 9 31 = some _; kernel_rfl), by kernel_rfl, (fun h => (by cases h)), (by show Tryz.prog.underlying 31 = some (.int _); kernel_rfl), (fun _ => (by kernel_rfl))⟩
def ti37 : TInf := ⟨1, 24, false, some (3), none, [], none, some (.sl [] .nil), none, false, false, none, true⟩
theorem tiOk37 : TOk1 Tryz.prog 37 ti37 := ⟨by kernel_rfl, by kernel_rfl, by kernel_rfl, by kernel_rfl, by kernel_rfl, trivial, trivial, (by show zeO Tryz.prog 37 = some _; kernel_rfl), trivial, by kernel_rfl, (fun h => (by cases h)), trivial, (fun _ => (by kernel_rfl))⟩
def ti39 : TInf := ⟨1, 24, false, some (45), none, [], none, some (.sl [] .nil), none, false, false, none, true⟩
theorem tiOk39 : TOk1 Tryz.prog 39 ti39 := ⟨by kernel_rfl, by kernel_rfl, by kernel_rfl, by kernel_rfl, by kernel_rfl, trivial, trivial, (by show zeO Tryz.prog 39 = some _; kernel_rfl), trivial, by kernel_rfl, (fun h => (by cases h)), trivial, (fun _ => (by kernel_rfl))⟩
def ti43 : TInf := ⟨1, 24, false, some (64), none, [], none, some (.sl [] .nil), none, false, false, none, true⟩
theorem tiOk43 : TOk1 Tryz.prog 43 ti43 := ⟨by kernel_rfl, by kernel_rfl, by kernel_rfl, by kernel_rfl, by kernel_rfl, trivial, trivial, (by show zeO Tryz.prog 43 = some _; kernel_rfl), trivial, by kernel_rfl, (fun h => (by cases h)), trivial, (fun _ => (by kernel_rfl))⟩
def ti45 : TInf := ⟨17, 240, true, none, none, [some (0, 3), some (1, 3), some (2, 3), some (3, 3), some (4, 27), some (12, 37), some (13, 37), some (14, 23), some (15, 43), some (16, 37)], some [(0, 1), (1, 1), (2, 1), (3, 1), (4, 8), (12, 1), (13, 1), (14, 1), (15, 1), (16, 1)], some (.agg [.int .i64 0, .int .i64 0, .int .i64 0, .int .i64 0, .int .i64 0, .sl [] .nil, .int .i64 0, .int .i64 0, .int .i64 0, .int .i64 0, .int .i64 0, .str ⟨#[]⟩, .sl [] .nil, .sl [] .nil, .sl [] .nil, .sl [] .nil, .sl [] .nil]), none, false, false, none, true⟩
theorem tiOk45 : TOk1 Tryz.prog 45 ti45 := ⟨by kernel_rfl, by kernel_rfl, by kernel_rfl, by kernel_rfl, by kernel_rfl, ⟨by kernel_rfl, by kernel_rfl, by kernel_rfl, by kernel_rfl, by kernel_rfl, by kernel_rfl, by kernel_rfl, by kernel_rfl, by kernel_rfl, by kernel_rfl, trivial⟩, (by show placesO Tryz.prog 45 = some _; kernel_rfl), (by show zeO Tryz.prog 45 = some _; kernel_rfl), trivial, by kernel_rfl, (fun h => (by cases h)), trivial, (fun _ => (by kernel_rfl))⟩
def ti55 : TInf := ⟨1, 24, false, some (59), none, [], none, some (.sl [] .nil), none, false, false, none, true⟩
theorem tiOk55 : TOk1 Tryz.prog 55 ti55 := ⟨by kernel_rfl, by kernel_rfl, by kernel_rfl, by kernel_rfl, by kernel_rfl, trivial, trivial, (by show zeO Tryz.prog 55 = some _; kernel_rfl), trivial, by kernel_rfl, (fun h => (by cases h)), trivial, (fun _ => (by kernel_rfl))⟩
def ti59 : TInf := ⟨11, 112, true, none, none, [some (0, 3), some (1, 3), some (2, 3), some (3, 27)], some [(0, 1), (1, 1), (2, 1), (3, 8)], some (.agg [.int .i64 0, .int .i64 0, .int .i64 0, .int .i64 0, .sl [] .nil, .int .i64 0, .int .i64 0, .int .i64 0, .int .i64 0, .int .i64 0, .str ⟨#[]⟩]), none, false, false, none, true⟩
theorem tiOk59 : TOk1 Tryz.prog 59 ti59 := ⟨by kernel_rfl, by kernel_rfl, by kernel_rfl, by kernel_rfl, by kernel_rfl, ⟨by kernel_rfl, by kernel_rfl, by kernel_rfl, by kernel_rfl, trivial⟩, (by show placesO Tryz.prog 59 = some _; kernel_rfl), (by show zeO Tryz.prog 59 = some _; kernel_rfl), trivial, by kernel_rfl, (fun h => (by cases h)), trivial, (fun _ => (by kernel_rfl))⟩
def ti64 : TInf := ⟨2, 16, true, none, none, [some (0, 3), some (1, 3)], some [(0, 1), (1, 1)], some (.agg [.int .i64 0, .int .i64 0]), some [0, 0], false, false, none, true⟩
theorem tiOk64 : TOk1 Tryz.prog 64 ti64 := ⟨by kernel_rfl, by kernel_rfl, by kernel_rfl, by kernel_rfl, by kernel_rfl, ⟨by kernel_rfl, by kernel_rfl, trivial⟩, (by show placesO Tryz.prog 64 = some _; kernel_rfl), (by show zeO Tryz.prog 64 = some _; kernel_rfl), (by show flatEq Tryz.prog 9 64 = some _; kernel_rfl), by kernel_rfl, (fun h => (by cases h)), trivial, (fun _ => (by kernel_rfl))⟩
def ti77 : TInf := ⟨6, 24, true, none, none, [some (0, 3), some (1, 3), some (2, 4), some (3, 4), some (4, 4), some (5, 4)], some [(0, 1), (1, 1), (2, 1), (3, 1), (4, 1), (5, 1)], some (.agg [.int .i64 0, .int .i64 0, .bool false, .bool false, .bool false, .bool false]), some [0, 0, 1, 1, 1, 1], false, false, none, true⟩
theorem tiOk77 : TOk1 Tryz.prog 77 ti77 := ⟨by kernel_rfl, by kernel_rfl, by kernel_rfl, by kernel_rfl, by kernel_rfl, ⟨by kernel_rfl, by kernel_rfl, by kernel_rfl, by kernel_rfl, by kernel_rfl, by kernel_rfl, trivial⟩, (by show placesO Tryz.prog 77 = some _; kernel_rfl), (by show zeO Tryz.prog 77 = some _; kernel_rfl), (by show flatEq Tryz.prog 9 77 = some _; kernel_rfl), by kernel_rfl, (fun h => (by cases h)), trivial, (fun _ => (by kernel_rfl))⟩
def ti78 : TInf := ⟨66, 264, true, none, some (11, 77), [], none, none, none, false, false, none, true⟩
theorem tiOk78 : TOk1 Tryz.prog 78 ti78 := ⟨by kernel_rfl, by kernel_rfl, by kernel_rfl, by kernel_rfl, by kernel_rfl, trivial, trivial, trivial, trivial, by kernel_rfl, (fun h => (by cases h)), trivial, (fun _ => (by kernel_rfl))⟩
def ti85 : TInf := ⟨15, 160, true, none, none, [some (0, 4), some (1, 29)], some [(0, 1), (1, 14)], some (.agg [.bool false, .int .i64 0, .sl [] .nil, .int .i64 0, .int .i64 0, .int .i64 0, .int .i64 0, .int .i64 0, .sl [] .nil, .int .i64 0, .int .i64 0, .int .i64 0, .int .i64 0, .int .i64 0, .str ⟨#[]⟩]), none, false, false, none, true⟩
theorem tiOk85 : TOk1 Tryz.prog 85 ti85 := ⟨by kernel_rfl, by kernel_rfl, by kernel_rfl, by kernel_rfl, by kernel_rfl, ⟨by kernel_rfl, by kernel_rfl, trivial⟩, (by show placesO Tryz.prog 85 = some _; kernel_rfl), (by show zeO Tryz.prog 85 = some _; kernel_rfl), trivial, by kernel_rfl, (fun h => (by cases h)), trivial, (fun _ => (by kernel_rfl))⟩
def ti92 : TInf := ⟨1, 8, false, none, none, [], none, some (.int .u64 0), some [0], false, false, some .u64, true⟩
theorem tiOk92 : TOk1 Tryz.prog 92 ti92 := ⟨by kernel_rfl, by kernel_rfl, by kernel_rfl, by kernel_rfl, by kernel_rfl, trivial, trivial, (by show zeO Tryz.prog 92 = some _; kernel_rfl), (by show flatEq Tryz.prog 9 92 = some _; kernel_rfl), by kernel_rfl, (fun h => (by cases h)), (by show Tryz.prog.underlying 92 = some (.int _); kernel_rfl), (fun _ => (by kernel_rfl))⟩
def ti96 : TInf := ⟨1, 8, false, none, none, [], none, some (.nilf), none, false, false, none, true⟩
theorem tiOk96 : TOk1 Tryz.prog 96 ti96 := ⟨by kernel_rfl, by kernel_rfl, by kernel_rfl, by kernel_rfl, by kernel_rfl, trivial, trivial, (by show zeO Tryz.prog 96 = some _; kernel_rfl), trivial, by kernel_rfl, (fun h => (by cases h)), trivial, (fun _ => (by kernel_rfl))⟩
def ti102 : TInf := ⟨1, 8, false, none, none, [], none, some (.int .i64 0), some [0], false, false, some .i64, true⟩
theorem tiOk102 : TOk1 Tryz.prog 102 ti102 := ⟨by kernel_rfl, by kernel_rfl, by kernel_rfl, by kernel_rfl, by kernel_rfl, trivial, trivial, (by show zeO Tryz.prog 102 = some _; kernel_rfl), (by show flatEq Tryz.prog 9 102 = some _; kernel_rfl), by kernel_rfl, (fun h => (by cases h)), (by show Tryz.prog.underlying 102 = some (.int _); kernel_rfl), (fun _ => (by kernel_rfl))⟩
def ti111 : TInf := ⟨1, 4, false, none, none, [], none, some (.int .u32 0), some [0], false, false, some .u32, true⟩
theorem tiOk111 : TOk1 Tryz.prog 111 ti111 := ⟨by kernel_rfl, by kernel_rfl, by kernel_rfl, by kernel_rfl, by kernel_rfl, trivial, trivial, (by show zeO Tryz.prog 111 = some _; kernel_rfl), (by show flatEq Tryz.prog 9 111 = some _; kernel_rfl), by kernel_rfl, (fun h => (by cases h)), (by show Tryz.prog.underlying 111 = some (.int _); kernel_rfl), (fun _ => (by kernel_rfl))⟩
def ti113 : TInf := ⟨1, 8, false, none, none, [], none, some (.int .u64 0), some [0], false, false, some .u64, true⟩
theorem tiOk113 : TOk1 Tryz.prog 113 ti113 := ⟨by kernel_rfl, by kernel_rfl, by kernel_rfl, by kernel_rfl, by kernel_rfl, trivial, trivial, (by show zeO Tryz.prog 113 = some _; kernel_rfl), (by show flatEq Tryz.prog 9 113 = some _; kernel_rfl), by kernel_rfl, (fun h => (by cases h)), (by show Tryz.prog.underlying 113 = some (.int _); kernel_rfl), (fun _ => (by kernel_rfl))⟩
def ti121 : TInf := ⟨1, 8, false, none, none, [], none, some (.int .u64 0), some [0], false, false, some .u64, true⟩
theorem tiOk121 : TOk1 Tryz.prog 121 ti121 := ⟨by kernel_rfl, by kernel_rfl, by kernel_rfl, by kernel_rfl, by kernel_rfl, trivial, trivial, (by show zeO Tryz.prog 121 = some _; kernel_rfl), (by show flatEq Tryz.prog 9 121 = some _; kernel_rfl), by kernel_rfl, (fun h => (by cases h)), (by show Tryz.prog.underlying 121 = some (.int _); kernel_rfl), (fun _ => (by kernel_rfl))⟩
def ti135 : TInf := ⟨1, 24, false, some (23), none, [], none, some (.sl [] .nil), none, false, false, none, true⟩
theorem tiOk135 : TOk1 Tryz.prog 135 ti135 := ⟨by kernel_rfl, by kernel_rfl, by kernel_rfl, by kernel_rfl, by kernel_rfl, trivial, trivial, (by show zeO Tryz.prog 135 = some _; kernel_rfl), trivial, by kernel_rfl, (fun h => (by cases h)), trivial, (fun _ => (by kernel_rfl))⟩
def ti144 : TInf := ⟨1, 24, false, some (37), none, [], none, some (.sl [] .nil), none, false, false, none, true⟩
theorem tiOk144 : TOk1 Tryz.prog 144 ti144 := ⟨by kernel_rfl, by kernel_rfl, by kernel_rfl, by kernel_rfl, by kernel_rfl, trivial, trivial, (by show zeO Tryz.prog 144 = some _; kernel_rfl), trivial, by kernel_rfl, (fun h => (by cases h)), trivial, (fun _ => (by kernel_rfl))⟩
def ti146 : TInf := ⟨1, 24, false, some (43), none, [], none, some (.sl [] .nil), none, false, false, none, true⟩
theorem tiOk146 : TOk1 Tryz.prog 146 ti146 := ⟨by kernel_rfl, by kernel_rfl, by kernel_rfl, by kernel_rfl, by kernel_rfl, trivial, trivial, (by show zeO Tryz.prog 146 = some _; kernel_rfl), trivial, by kernel_rfl, (fun h => (by cases h)), trivial, (fun _ => (by kernel_rfl))⟩
def TT : Tbl := [(3, ti3), (4, ti4), (5, ti5), (9, ti9), (22, ti22), (23, ti23), (25, ti25), (27, ti27), (29, ti29), (31, ti31), (37, ti37), (39, ti39), (43, ti43), (45, ti45), (55, ti55), (59, ti59), (64, ti64), (77, ti77), (78, ti78), (85, ti85), (92, ti92), (96, ti96), (102, ti102), (111, ti111), (113, ti113), (121, ti121), (135, ti135), (144, ti144), (146, ti146)]
theorem okT : TOk Tryz.prog TT := ⟨tiOk3, tiOk4, tiOk5, tiOk9, tiOk22, tiOk23, tiOk25, tiOk27, tiOk29, tiOk31, tiOk37, tiOk39, tiOk43, tiOk45, tiOk55, tiOk59, tiOk64, tiOk77, tiOk78, tiOk85, tiOk92, tiOk96, tiOk102, tiOk111, tiOk113, tiOk121, tiOk135, tiOk144, tiOk146, trivial⟩
end Go.Ab

namespace Go.Ab
structure GValue where
 Kind : Int
 Num : Int
 Text : ByteArray
structure GExpr where
 Op : Int
 Args : List GExpr
 Var : Int
 Field : Int
 Kind : Int
 Value : GValue
structure GPattern where
 Op : Int
 Args : List GPattern
 Typ : Int
 Var : Int
 Scope : Int
 Span : Int
 Cond : GExpr
structure GLimit where
 Scope : Int
 Span : Int
structure GEdge where
 From : Int
 To : Int
 Var : Int
 Typ : Int
 Cond : GExpr
 Opens : List Int
 Closes : List Int
 Checks : List GExpr
 Limits : List GLimit
 Inside : List Int
structure GGuard where
 Scope : Int
 Typ : Int
 Var : Int
 Cond : GExpr
structure Gpattern_shape where
 least : Int
 most : Int
 typed : Bool
 cond : Bool
 scope : Bool
 span : Bool
structure Gderivative_rest where
 done : Bool
 p : GPattern
def tab_pattern_shapes : List Gpattern_shape := [⟨0, 0, true, true, false, false⟩, ⟨2, 64, false, false, false, false⟩, ⟨2, 64, false, false, false, false⟩, ⟨2, 64, false, false, false, false⟩, ⟨1, 1, false, false, false, false⟩, ⟨1, 1, true, true, true, false⟩, ⟨1, 1, false, false, true, true⟩, ⟨1, 1, false, true, false, false⟩, ⟨2, 2, false, false, false, false⟩, ⟨1, 1, true, true, true, false⟩, ⟨1, 1, false, false, true, true⟩]
end Go.Ab

namespace Go.Ab
variable [Ar]
class Encs where
 eGValue : GValue → V
 eGExpr : GExpr → V
 eGPattern : GPattern → V
 eGLimit : GLimit → V
 eGEdge : GEdge → V
 eGGuard : GGuard → V
 eGpattern_shape : Gpattern_shape → V
 eGderivative_rest : Gderivative_rest → V
 eLGExpr : List GExpr → V
 eLI : List Int → V
 eLGLimit : List GLimit → V
 eGValue_eq : ∀ x, eGValue x = .agg [.int .i64 x.Kind, .int .i64 x.Num, .str x.Text]
 eGExpr_eq : ∀ x, eGExpr x = .agg [.int .i64 x.Op, .sl (Ar.lst eGExpr x.Args) .ro, .int .i64 x.Var, .int .i64 x.Field, .int .i64 x.Kind, .int .i64 x.Value.Kind, .int .i64 x.Value.Num, .str x.Value.Text]
 eGPattern_eq : ∀ x, eGPattern x = .agg [.int .i64 x.Op, .sl (Ar.lst eGPattern x.Args) .ro, .int .i64 x.Typ, .int .i64 x.Var, .int .i64 x.Scope, .int .i64 x.Span, .int .i64 x.Cond.Op, .sl (Ar.lst eGExpr x.Cond.Args) .ro, .int .i64 x.Cond.Var, .int .i64 x.Cond.Field, .int .i64 x.Cond.Kind, .int .i64 x.Cond.Value.Kind, .int .i64 x.Cond.Value.Num, .str x.Cond.Value.Text]
 eGLimit_eq : ∀ x, eGLimit x = .agg [.int .i64 x.Scope, .int .i64 x.Span]
 eGEdge_eq : ∀ x, eGEdge x = .agg [.int .i64 x.From, .int .i64 x.To, .int .i64 x.Var, .int .i64 x.Typ, .int .i64 x.Cond.Op, .sl (Ar.lst eGExpr x.Cond.Args) .ro, .int .i64 x.Cond.Var, .int .i64 x.Cond.Field, .int .i64 x.Cond.Kind, .int .i64 x.Cond.Value.Kind, .int .i64 x.Cond.Value.Num, .str x.Cond.Value.Text, .sl (Ar.lst (V.int .i64) x.Opens) .ro, .sl (Ar.lst (V.int .i64) x.Closes) .ro, .sl (Ar.lst eGExpr x.Checks) .ro, .sl (Ar.lst eGLimit x.Limits) .ro, .sl (Ar.lst (V.int .i64) x.Inside) .ro]
 eGGuard_eq : ∀ x, eGGuard x = .agg [.int .i64 x.Scope, .int .i64 x.Typ, .int .i64 x.Var, .int .i64 x.Cond.Op, .sl (Ar.lst eGExpr x.Cond.Args) .ro, .int .i64 x.Cond.Var, .int .i64 x.Cond.Field, .int .i64 x.Cond.Kind, .int .i64 x.Cond.Value.Kind, .int .i64 x.Cond.Value.Num, .str x.Cond.Value.Text]
 eGpattern_shape_eq : ∀ x, eGpattern_shape x = .agg [.int .i64 x.least, .int .i64 x.most, .bool x.typed, .bool x.cond, .bool x.scope, .bool x.span]
 eGderivative_rest_eq : ∀ x, eGderivative_rest x = .agg [.bool x.done, .int .i64 x.p.Op, .sl (Ar.lst eGPattern x.p.Args) .ro, .int .i64 x.p.Typ, .int .i64 x.p.Var, .int .i64 x.p.Scope, .int .i64 x.p.Span, .int .i64 x.p.Cond.Op, .sl (Ar.lst eGExpr x.p.Cond.Args) .ro, .int .i64 x.p.Cond.Var, .int .i64 x.p.Cond.Field, .int .i64 x.p.Cond.Kind, .int .i64 x.p.Cond.Value.Kind, .int .i64 x.p.Cond.Value.Num, .str x.p.Cond.Value.Text]
 eLGExpr_eq : ∀ x, eLGExpr x = .sl (Ar.lst eGExpr x) .ro
 eLI_eq : ∀ x, eLI x = .sl (Ar.lst (V.int .i64) x) .ro
 eLGLimit_eq : ∀ x, eLGLimit x = .sl (Ar.lst eGLimit x) .ro
theorem sz_GExpr [Encs] (x : GExpr) : (Encs.eGExpr x).cells.length = 8 := by rw [Encs.eGExpr_eq]; rfl
theorem sz_GPattern [Encs] (x : GPattern) : (Encs.eGPattern x).cells.length = 14 := by rw [Encs.eGPattern_eq]; rfl
theorem sz_GLimit [Encs] (x : GLimit) : (Encs.eGLimit x).cells.length = 2 := by rw [Encs.eGLimit_eq]; rfl
theorem sz_GEdge [Encs] (x : GEdge) : (Encs.eGEdge x).cells.length = 17 := by rw [Encs.eGEdge_eq]; rfl
theorem sz_GGuard [Encs] (x : GGuard) : (Encs.eGGuard x).cells.length = 11 := by rw [Encs.eGGuard_eq]; rfl
end Go.Ab

