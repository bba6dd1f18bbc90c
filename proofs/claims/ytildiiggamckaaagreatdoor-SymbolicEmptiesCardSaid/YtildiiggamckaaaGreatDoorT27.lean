/- AbC1 AbS3 AbC2 AbC3 AbT1 AbB11 -/
import Derived.Test.YtildiiggamckaaaGreatDoorT26
import Derived.Sort.Grow
import Derived.Test.YtildiiggamckaaaGreatDoorT25
import Derived.Shelf.Sort.Plain
import Derived.Shelf.Slices.In.SortNone
import Derived.Shelf.Slices.CompactI
set_option linter.all false
namespace Go.Ab
open Go.RowKit Go.Sort
variable [G5]
theorem Rl.more {g : Gh} {H : A0} {w w' : World} (h : Rl g H w) (hb : Below g.base w w') (hs : ∀ b, b < w.heap.size → w'.heap[b]? = w.heap[b]?) : M4 g w g w' ∧ Rl g H w' := by
 have s : M4 g w g w' := ⟨fun _ _ e => e, fun _ _ e => e, fun _ _ e => e, rfl, fun b o hf => by simp only [World.cell?, hs b (h.fz_lt hf)], hb, fun _ _ _ => rfl⟩;exact ⟨s, fun x k hx => (h.blk x k hx).mono hx s fun y hy => ⟨hs y (h.lt hy), fun _ ho => ho⟩, h.inj, fun b o hf => by obtain ⟨v, hv⟩ := h.frz b o hf; exact ⟨v, (s.cell b o hf).trans hv⟩, h.nxt, Nat.le_trans h.bnd hb.size, fun n => (h.glb n).mono s⟩
def HN (q : OG) (zs : List Int) : List V := q.pre ++ zs.map (V.int .i64) ++ q.rest
theorem CR (q : OG) (zs : List Int) : (HN q zs).length = q.pre.length + zs.length + q.rest.length := by simp [HN]; omega
theorem Js {q : OG} {zs : List Int} {j : Nat} (hj : j < zs.length) : (HN q zs).getD (q.pre.length + j) .bad = .int .i64 zs[j] := by
 unfold HN;rw [List.append_assoc, List.getD_eq_getElem?_getD, List.getElem?_append_right (by omega), Nat.add_sub_cancel_left, List.getElem?_append_left (by simpa using hj), List.getElem?_map, List.getElem?_eq_getElem hj];rfl
theorem NA {q : OG} {zs ds : List Int} (hl : ds.length = zs.length) {i : Nat} (hi : i < q.pre.length ∨ q.pre.length + ds.length ≤ i) : (HN q ds).getD i .bad = (HN q zs).getD i .bad := by
 unfold HN;simp only [List.append_assoc, List.getD_eq_getElem?_getD]
 rcases hi with hi | hi
 ·rw [List.getElem?_append_left hi, List.getElem?_append_left hi]
 have key : ∀ l : List V, l.length = zs.length → (q.pre ++ (l ++ q.rest))[i]? = q.rest[i - q.pre.length - zs.length]? := fun l h => by
  rw [List.getElem?_append_right (by omega), List.getElem?_append_right (by omega), h]
 rw [key _ (by simp [hl]), key _ (by simp)]
theorem UR {off : Nat} {ds : List Int} {c : Array Value} {k : Nat} (hk : k < c.size) : (putCells (Value.int .i64) off ds.toArray c).getD k undef = if off ≤ k ∧ k < off + ds.length then .int .i64 (ds.toArray[k - off]!) else c.getD k undef := by
 unfold putCells;simp only [Array.getD, Array.size_mapIdx, hk, dif_pos, Array.getInternal_eq_getElem, Array.getElem_mapIdx, List.size_toArray]
def Uq (P : Program) (f : FuncId) (zs ds : List Int) (r : OG → V) : Prop :=
 ∀ H (q : OG), T6 q (zs.length : Nat) → H q.id = some (.arr 1 (HN q zs)) → E7 P f [.own q.id q.lo q.n] H fun x H' => x = r q ∧ H' = upd H q.id (some (.arr 1 (HN q ds)))
theorem OD {P : Program} {f : FuncId} {zs ds : List Int} {r : OG → V} {m : Nat} (hl : ds.length = zs.length)
 (hrun : ∀ vals w, (callFunc f vals).run P w = .ok (.enter f vals) w)
 (h0 : zs = [] → ∀ p cap w, Calls P f #[.slice p 0 cap] w fun e w' => ∃ v, e = .returned v ∧ w' = w ∧ (v = .slice p 0 cap ∧ (∀ q, T6 q (zs.length : Nat) → r q = .own q.id q.lo q.n) ∨ v = .tuple #[] ∧ ∀ q, r q = .tup []))
 (h1 : ∀ blk off cap w, 0 < zs.length → zs.length ≤ cap → Holds (Value.int .i64) w blk off zs.toArray → blk < w.heap.size →
  Calls P f #[.slice (some ⟨blk, off, none⟩) zs.length cap] w fun e w' => ∃ v, e = .returned v ∧ (v = .slice (some ⟨blk, off, none⟩) m cap ∧ m ≤ zs.length ∧ (∀ q, r q = .own q.id q.lo (m : Nat)) ∨ v = .tuple #[] ∧ ∀ q, r q = .tup []) ∧
   ∃ n os, w' = grow (putRow (Value.int .i64) (Sort.ahead w n) blk off ds.toArray) os) : Uq P f zs ds r := by
 intro H q hq hk g w vals hR hA;obtain ⟨hlen, hv⟩ := hA;obtain ⟨vals⟩ := vals
 match vals, hlen with
 | [v], _ =>
  have hv1 := hv 0 (by simp)
  simp at hv1
  rw [hrun]
  show CallsIn Fence.wide 0 P f #[v] w _
  rw [callsIn_wide];have hq0 := hq;obtain ⟨hlo, hn⟩ := hq;obtain ⟨b, p, e1, e2, e3, e4, e5, e6, e7, e8, e9, e10⟩ := Bg hR hk hv1
  rw [CR] at e2 e5 e7 e8 e10
  subst e2
  have hnn : q.n.toNat = zs.length := by omega
  by_cases hz : zs = []
  ·subst hz;have hd : ds = [] := List.length_eq_zero_iff.1 hl;subst hd;rw [hnn];refine (h0 rfl p _ w).mono ?_;rintro e w' ⟨v, rfl, rfl, hcase⟩;refine ⟨v, rfl, g, r q, H, M4.refl _ _, hR, ?_, rfl, ?_⟩
   ·rcases hcase with ⟨rfl, hr⟩ | ⟨rfl, hr⟩
    ·rw [hr q hq0]; rw [hnn] at hv1; exact hv1
    rw [hr]; exact VR.und g w'
   funext x
   by_cases hx : x = q.id
   ·subst hx; rw [A9]; exact hk
   rw [A3 _ _ hx]
  have hzl : 0 < zs.length := List.length_pos_iff.2 hz
  rcases e10 with e10 | ⟨c, T, k1, k2, k3, k4, k5, k6⟩
  ·omega
  have hp := e8 (by omega);subst hp
  have hoff : (g.ow q.id).o + q.lo.toNat * 1 = (g.ow q.id).o + q.pre.length := by rw [hlo]; simp
  rw [hnn, hoff]
  have hblt : b < w.heap.size := by
   rcases Nat.lt_or_ge b w.heap.size with h | h
   ·exact h
   rw [Array.getElem?_eq_none h] at k2; cases k2
  have hcell : ∀ o, w.cell? ⟨b, o, none⟩ = c[o]? := fun o => by simp [World.cell?, k2]
  have hH : Holds (Value.int .i64) w b ((g.ow q.id).o + q.pre.length) zs.toArray := fun j hj => by
   have hj' : j < zs.length := by simpa using hj
   refine ⟨?_, by simp [World.frozen?, k2]⟩;have h := (k4 (q.pre.length + j) 0 (by omega) (by omega)).2
   rw [Js hj'] at h
   have h := VR.int_inv h;rw [hcell]
   have hlt : (g.ow q.id).o + q.pre.length + j < c.size := by omega
   rw [show (g.ow q.id).o + (q.pre.length + j) * 1 + 0 = (g.ow q.id).o + q.pre.length + j by omega] at h
   simp only [Array.getD, hlt, dif_pos, Array.getInternal_eq_getElem] at h
   rw [Array.getElem?_eq_getElem hlt, h];simp [hj']
  refine (h1 b _ _ w hzl (by omega) hH hblt).mono ?_;rintro e w' ⟨v, rfl, hcase, n, os, rfl⟩
  have hs := Rl.setArr hR (ys := HN q ds) (c' := putCells (Value.int .i64) ((g.ow q.id).o + q.pre.length) ds.toArray c) hk e1 (by rw [CR]; omega) k2 (by simp [putCells])
   (fun o ho => by
    simp only [putCells, Array.getElem?_mapIdx]
    cases c[o]? with
    | none => rfl
    | some x => simp only [Option.map_some]; rw [if_neg (by omega)])
   (by rw [CR, CR, hl])
   (fun i hi => by
    rw [CR] at hi
    by_cases hm : i < q.pre.length ∨ q.pre.length + ds.length ≤ i
    ·rw [NA hl hm]; exact e9 i (by rw [CR]; omega)
    obtain ⟨j, rfl⟩ : ∃ j, i = q.pre.length + j := ⟨i - q.pre.length, by omega⟩
    rw [Js (show j < ds.length by omega)]; rfl)
   (fun i j hi hj => by
    rw [CR] at hi
    have hj0 : j = 0 := by omega
    subst hj0;rw [UR (by omega)]
    by_cases hm : i < q.pre.length ∨ q.pre.length + ds.length ≤ i
    ·rw [if_neg (by omega), NA hl hm];exact k4 i 0 (by omega) (by omega)
    obtain ⟨j, rfl⟩ : ∃ j, i = q.pre.length + j := ⟨i - q.pre.length, by omega⟩
    have hj : j < ds.length := by omega
    rw [if_pos (by omega), Js hj, show (g.ow q.id).o + (q.pre.length + j) * 1 + 0 - ((g.ow q.id).o + q.pre.length) = j by omega]
    have : ds.toArray[j]! = ds[j] := by simp [hj]
    rw [this]
    exact ⟨rfl, VR.int _ _⟩)
  obtain ⟨s1, R1⟩ := hs
  generalize hw1 : w.setRow b (putCells (Value.int .i64) ((g.ow q.id).o + q.pre.length) ds.toArray c) = w1 at s1 R1
  have hsz1 : w1.heap.size = w.heap.size := by rw [← hw1]; simp [World.setRow]
  have hheap : ∀ x, x < w1.heap.size → (grow (putRow (Value.int .i64) (Sort.ahead w n) b ((g.ow q.id).o + q.pre.length) ds.toArray) os).heap[x]? = w1.heap[x]? := fun x hx => by
   have hx' : x < w.heap.size := by omega
   simp only [grow, putRow, mapBlock, Sort.ahead];rw [Array.getElem?_append_left (by simpa using hx'), Array.getElem?_modify]
   by_cases hxb : b = x
   ·subst hxb;rw [if_pos rfl, k2, ← hw1, setRow_heap w b c _ T (0, 0) k2];rfl
   rw [if_neg hxb, ← hw1, I1 w b _ x (fun e => hxb e.symm)]
  have hbel : Below g.base w1 (grow (putRow (Value.int .i64) (Sort.ahead w n) b ((g.ow q.id).o + q.pre.length) ds.toArray) os) := by
   refine ⟨by rw [← hw1]; rfl, by rw [← hw1]; rfl, by rw [← hw1]; rfl, ?_, fun k hk' => ?_⟩
   ·rw [hsz1]; simp [grow, putRow, mapBlock, Sort.ahead]
   exact hheap k (by have := hR.bnd; omega)
  obtain ⟨s2, R2⟩ := R1.more hbel hheap;refine ⟨v, rfl, g, r q, _, s1.trans s2, R2, ?_, rfl, rfl⟩
  rcases hcase with ⟨rfl, hm, hr⟩ | ⟨rfl, hr⟩
  ·rw [hr]
   have hcap : (g.ow q.id).cap = q.pre.length + zs.length + q.rest.length := by rw [e7]
   have := VR.own (g := g) (w := grow (putRow (Value.int .i64) (Sort.ahead w n) b ((g.ow q.id).o + q.pre.length) ds.toArray) os) (id := q.id) (b := b) (lo := q.lo) (n := (m : Nat)) (p := some ⟨b, (g.ow q.id).o + q.pre.length, none⟩) e1 e3 (by omega) (by omega) (fun _ => by rw [e6, hoff])
   rw [hcap] at this
   simpa using this
  rw [hr]; exact VR.und _ _
end Go.Ab
namespace Go.Ab
def TI (x : Int) : List Int → List Int
 | [] => [x]
 | y :: r => if x ≤ y then x :: y :: r else y :: TI x r
def JV : List Int → List Int
 | [] => []
 | x :: r => TI x (JV r)
theorem QM (a : Int) : ∀ (l m : List Int), (∀ b ∈ l, ¬ a ≤ b) → (∀ b ∈ m, a ≤ b) → TI a (l ++ m) = l ++ a :: m
 | [], [], _, _ => rfl
 | [], y :: m, _, h => by simp only [List.nil_append, TI]; rw [if_pos (h y (by simp))]
 | y :: l, m, h, k => by
  simp only [List.cons_append, TI];rw [if_neg (h y (by simp)), QM a l m (fun b hb => h b (by simp [hb])) k]
theorem Lr : ∀ l : List Int, JV l = l.mergeSort fun x y => decide (x ≤ y)
 | [] => by simp [JV]
 | a :: l => by
  have ht : ∀ x y z : Int, decide (x ≤ y) = true → decide (y ≤ z) = true → decide (x ≤ z) = true := fun x y z h k => by simp at *; omega
  have hc : ∀ x y : Int, (decide (x ≤ y) || decide (y ≤ x)) = true := fun x y => by simp; omega
  obtain ⟨l1, l2, h1, h2, h3⟩ := List.mergeSort_cons ht hc a l;have hs := List.pairwise_mergeSort ht hc (a :: l)
  rw [h1] at hs
  rw [JV, Lr l, h1, h2];refine QM a l1 l2 (fun b hb => ?_) fun b hb => ?_
  ·have := h3 b hb; simpa using this
  have := (List.pairwise_cons.1 (List.pairwise_append.1 hs).2.1).1 b hb
  simpa using this
def Qq (l : List Int) : Option (List Int) := if l.length < 4611686018427387904 then some (JV l) else none
theorem Pg {l r : List Int} (h : Qq l = some r) : l.length < 4611686018427387904 ∧ r = l.mergeSort fun x y => decide (x ≤ y) := by
 unfold Qq at h
 split at h
 ·rename_i hc; cases h; exact ⟨hc, Lr l⟩
 cases h
end Go.Ab
namespace Go.Ab
open Go.RowKit
variable [G5]
def Uo (P : Program) (f : FuncId) (zs ds : List Int) : Prop := Uq P f zs ds (fun _ => .tup []) ∧ ds.length = zs.length
theorem NB [Ar] (q : OG) (zs : List Int) : q.pre ++ Ar.lst (V.int .i64) zs ++ q.rest = HN q zs := by rw [Ar.lst_eq]; rfl
section
variable [Ar] {P : Program} {nt : Nat} {rd : Option Nat} {E : CM} (hE : E = E6 P nt rd)
include hE
theorem Vf {Φ : A0 → A0 → Prop} {H0 H : A0} {L : List En} {fid : FuncId} {q : OG} {k : V → A0 → Prop} {R : Type} {m : Option (List Int)} {F : List Int → Option R} {r : R}
 {l : List Int} (hO : B4 Φ H0 L H) (hq : T6 q (Ar.len l)) (i : Nat) (hi : L[i]? = some (.blk q.id (.arr 1 (q.pre ++ Ar.lst (V.int .i64) l ++ q.rest)))) (h : m.bind F = some r) (hc : ∀ x, m = some x → Uo P fid l x)
 (hk : ∀ x H', T6 q (Ar.len x) → B4 Φ H0 (L.set i (.blk q.id (.arr 1 (q.pre ++ Ar.lst (V.int .i64) x ++ q.rest)))) H' → F x = some r → k (.tup []) H') :
 E.call (.func (.func fid) [] []) [.own q.id q.lo q.n] H k := by
 subst hE;obtain ⟨x, h1, h2⟩ := bind_some h;obtain ⟨c1, c2⟩ := hc x h1;refine E7.value (F := []) (C := []) ?_;simp only [List.nil_append, List.append_nil]
 rw [NB] at hi
 refine (c1 H q (by rw [← Ar.len_eq]; exact hq) (hO.get i hi)).mono fun v H' ⟨e1, e2⟩ => ?_;subst e1; subst e2;refine hk x _ ?_ ?_ h2
 ·rw [Ar.len_eq] at hq ⊢; rw [c2]; exact hq
 rw [NB]; exact hO.set i hi
end
end Go.Ab
namespace Go.Ab
open Go.RowKit Go.Shelf Go.Sort
variable [G5]
theorem Qb {P : Program} {ρ : Ren} (Ly : Go.Proofs.Lays.n189 P ρ) (hrun : ∀ vals w, (callFunc (ρ.f 189) vals).run P w = .ok (.enter (ρ.f 189) vals) w) {zs r : List Int} (h : Qq zs = some r) : Uo P (ρ.f 189) zs r := by
 obtain ⟨hlt, rfl⟩ := Pg h;have hl : (zs.mergeSort fun x y => decide (x ≤ y)).length = zs.length := List.length_mergeSort ..;refine ⟨OD (m := 0) hl hrun ?_ ?_, hl⟩
 ·intro _ p cap w;exact (Go.Proofs.Any.slices_Sort_int_none Ly p cap w).mono fun e w' ⟨a, b⟩ => ⟨_, a, b, .inr ⟨rfl, fun _ => rfl⟩⟩
 intro blk off cap w _ _ hH hb;exact (Go.Proofs.Any.slices_Sort_int Ly blk off cap zs w hH hb hlt).mono fun e w' ⟨a, n, os, b⟩ => ⟨_, a, .inr ⟨rfl, fun _ => rfl⟩, n, os, b⟩
def Kp (l : List Int) : Option (List Int) := if l.length ≤ 9223372036854775807 then some (Lib.compact l) else none
theorem II (zs : List Int) : (Lib.compact zs).length ≤ zs.length := by
 unfold Lib.compact Lib.compactUpTo;rw [List.length_map];exact Nat.le_trans (List.length_filter_le ..) (by simp)
theorem Ku [Ar] {P : Program} {ρ : Ren} (Ly : Go.Proofs.Lays2.n20 P ρ) (hrun : ∀ vals w, (callFunc (ρ.f 20) vals).run P w = .ok (.enter (ρ.f 20) vals) w) {zs r : List Int} (h : Kp zs = some r) :
 Ij P (ρ.f 20) [] 1 (Ar.lst (V.int .i64) zs) (Ar.lst (V.int .i64) r) := by
 unfold Kp at h
 split at h
 case isFalse => cases h
 rename_i hlt;cases h;have hle : (Lib.compact zs).length ≤ zs.length := II zs
 have key : Uq P (ρ.f 20) zs (Lib.compact zs ++ List.replicate (zs.length - (Lib.compact zs).length) 0) (fun q => .own q.id q.lo ((Lib.compact zs).length : Nat)) := by
  refine OD (m := (Lib.compact zs).length) (by simp; omega) hrun ?_ ?_
  ·rintro rfl p cap w;refine (Go.Proofs.Any.slices_Compact_int_empty Ly p cap w).mono fun e w' ⟨a, b⟩ => ⟨_, a, b, .inl ⟨rfl, fun q hq => ?_⟩⟩;rw [hq.2]
   have : (Lib.compact ([] : List Int)).length = 0 := by have := II []; simp only [List.length_nil] at this; omega
   rw [this]; rfl
  intro blk off cap w _ hc hH hb;refine (Go.Proofs.Any.slices_Compact_int Ly blk off cap zs w hH hlt hc).mono fun e w' ⟨a, n, b⟩ => ⟨_, a, .inl ⟨rfl, hle, fun _ => rfl⟩, n, #[], by rw [b, grow_empty]⟩
 intro H q hq hk
 rw [Ar.lst_eq] at hk hq
 refine (key H q (by simpa using hq) (by unfold HN; exact hk)).mono fun v H' ⟨e1, e2⟩ => ?_;subst e1; subst e2;refine ⟨⟨q.id, q.lo, ((Lib.compact zs).length : Nat), q.pre, (List.replicate (zs.length - (Lib.compact zs).length) 0).map (V.int .i64) ++ q.rest⟩, rfl, ⟨hq.1, by rw [Ar.lst_eq]; simp⟩, by rw [A9], ?_⟩
 funext x
 rw [Ar.lst_eq]
 by_cases hx : x = q.id
 ·subst hx; rw [A9, A9]; simp [HN]
 rw [A3 _ _ hx, A3 _ _ hx, A3 _ _ hx]
end Go.Ab
namespace Go.Ab
open Go.RowKit
variable [G5] [Ar]
theorem Ea {L : List En} {i j : Nat} {e' e : En} (hj : (L.set i e')[j]? = some e) : (j = i ∧ e = e') ∨ (j ≠ i ∧ L[j]? = some e) := by
 rw [List.getElem?_set] at hj
 split at hj
 ·rename_i hij;subst hij
  split at hj
  ·exact .inl ⟨rfl, (Option.some.inj hj).symm⟩
  cases hj
 rename_i hij;exact .inr ⟨fun e => hij e.symm, hj⟩
theorem Lg {L : List En} {i j : Nat} {e' : En} (h : j ≠ i) : (L.set i e')[j]? = L[j]? := by
 rw [List.getElem?_set, if_neg (fun e => h e.symm)]
theorem V2.setNone {H0 H : A0} {L : List En} (h : V2 H0 L H) (i : Nat) {e e' : En} (hi : L[i]? = some e) (he : e.id = none) (he' : e'.id = none) : V2 H0 (L.set i e') H := by
 refine ⟨h.ext, fun j x id b hj hx => ?_, fun j k x x' id b b' hj hk hx hx' => ?_, fun x b hx => ?_⟩
 ·rcases Ea hj with ⟨_, rfl⟩ | ⟨_, hj⟩
  ·rw [he'] at hx; cases hx
  exact h.has j x id b hj hx
 ·rcases Ea hj with ⟨_, rfl⟩ | ⟨_, hj⟩
  ·rw [he'] at hx; cases hx
  rcases Ea hk with ⟨_, rfl⟩ | ⟨_, hk⟩
  ·rw [he'] at hx'; cases hx'
  exact h.inj j k x x' id b b' hj hk hx hx'
 refine (h.only x b hx).imp (fun h => h) fun ⟨j, y, h1, h2⟩ => ⟨j, y, ?_, h2⟩;rw [Lg fun e => by subst e; rw [hi] at h1; cases h1; rw [he] at h2; cases h2];exact h1
theorem V2.drop {H0 H : A0} {L : List En} (h : V2 H0 L H) (i : Nat) {e e' : En} {id : Nat} {b0 : Au} (hi : L[i]? = some e) (he : e.id = some (id, b0)) (he' : e'.id = none) : V2 H0 (L.set i e') (upd H id none) := by
 have hid := h.has i e id b0 hi he;refine ⟨fun x b hx => ?_, fun j x y b hj hx => ?_, fun j k x x' y b b' hj hk hx hx' => ?_, fun x b hx => ?_⟩
 ·rw [A3 _ _ (L7 hid.1 hx)]; exact h.ext x b hx
 ·rcases Ea hj with ⟨_, rfl⟩ | ⟨hne, hj⟩
  ·rw [he'] at hx; cases hx
  have := h.has j x y b hj hx;refine ⟨this.1, ?_⟩;rw [A3 _ _ (fun eq => by subst eq; exact hne (h.inj j i x e y b b0 hj hi hx he))];exact this.2
 ·rcases Ea hj with ⟨_, rfl⟩ | ⟨_, hj⟩
  ·rw [he'] at hx; cases hx
  rcases Ea hk with ⟨_, rfl⟩ | ⟨_, hk⟩
  ·rw [he'] at hx'; cases hx'
  exact h.inj j k x x' y b b' hj hk hx hx'
 by_cases hxi : x = id
 ·subst hxi; rw [A9] at hx; cases hx
 rw [A3 _ _ hxi] at hx
 refine (h.only x b hx).imp (fun h => h) fun ⟨j, y, h1, h2⟩ => ⟨j, y, ?_, h2⟩;rw [Lg fun ej => by subst ej; rw [hi] at h1; cases h1; rw [he] at h2; cases h2; exact hxi rfl];exact h1
theorem B4.untok {Φ : A0 → A0 → Prop} {F H : A0} {L : List En} (h : B4 Φ F L H) (i : Nat) {tl tl' : D6} (hi : L[i]? = some (.tl tl)) (ht : (En.tl tl').id = none) : B4 Φ F (L.set i (.tl tl')) (C9 H tl) := by
 obtain ⟨hs, F', H1, h0, h1, h2⟩ := h
 cases tl with
 | tok t =>
  have e := (h0.has i _ t _ hi rfl).2;exact ⟨hs, _, _, h0.drop i hi rfl ht, hs.chg t none h1 (by rw [e, hs.le h1 _ _ e]), h2.upd t none⟩
 | nil => exact ⟨hs, _, _, h0.setNone i hi rfl ht, h1, h2⟩
 | full => exact ⟨hs, _, _, h0.setNone i hi rfl ht, h1, h2⟩
 | ro => exact ⟨hs, _, _, h0.setNone i hi rfl ht, h1, h2⟩
section
variable {P : Program} {T : Dm} {f : FuncId} {fn : Func} {c : Code} {n : Nat} {rs : List ResultVar} {args : List V}
end
section
variable {P : Program} {nt : Nat} {rd : Option Nat} {T : Dm} {E : CM}
variable (hE : E = E6 P nt rd)
include hE
variable {α R : Type} {f : α → V} {Φ : A0 → A0 → Prop} {H0 H : A0} {L : List En} {r : R} {m : Option (List α)} {F : List α → Option R} {fid : FuncId} {args args' : List V} {k : V → A0 → Prop}
end
end Go.Ab
namespace Go.Ab
open Go.RowKit Go.MapKept
variable [G5] [Ar]
def DX {K X : Type} (d : TypeDesc) (kf : K → V) (vf : X → V) (o : Obj) (m : List (K × X)) : Prop := ∃ m' : List (K × X), R3 d o (m'.map fun p => (kf p.1, vf p.2)) ∧ m'.Perm m
theorem DX.perm {K X : Type} {d : TypeDesc} {kf : K → V} {vf : X → V} {o : Obj} {m l : List (K × X)} (h : DX d kf vf o m) (hp : m.Perm l) : DX d kf vf o l :=
 let ⟨m', h1, h2⟩ := h; ⟨m', h1, h2.trans hp⟩
theorem Vp {K X : Type} {m : List (K × X)} (hn : (m.map (·.1)).Nodup) {p q : K × X} (hp : p ∈ m) (hq : q ∈ m) (e : p.1 = q.1) : p = q := by
 obtain ⟨i, hi, rfl⟩ := List.getElem_of_mem hp;obtain ⟨j, hj, rfl⟩ := List.getElem_of_mem hq;have : i = j := FV hn (by simpa using hi) (by simpa using hj) (by simpa using e);subst this; rfl
theorem LB {K X : Type} [DecidableEq K] {m m' : List (K × X)} (hp : m'.Perm m) (hn : (m'.map (·.1)).Nodup) (k : K) (z : X) : Da m' k z = Da m k z := by
 unfold Da
 cases hf : m.find? (fun p => decide (p.1 = k)) with
 | none =>
  have : m'.find? (fun p => decide (p.1 = k)) = none := List.find?_eq_none.2 fun p hm => List.find?_eq_none.1 hf p (hp.mem_iff.1 hm);rw [this]
 | some p =>
  have h1 : p.1 = k := by simpa using List.find?_some hf
  have h2 := hp.mem_iff.2 (List.mem_of_find?_eq_some hf)
  cases hg : m'.find? (fun p => decide (p.1 = k)) with
  | none => exact absurd h1 (by simpa using List.find?_eq_none.1 hg p h2)
  | some q =>
   have h3 : q.1 = k := by simpa using List.find?_some hg
   rw [Vp hn (List.mem_of_find?_eq_some hg) h2 (h3.trans h1.symm)]
theorem Rv {K X : Type} [DecidableEq K] {m m' r : List (K × X)} (hp : m'.Perm m) {k : K} {v : X} (h : Ck m k v = some r) : ∃ r', Ck m' k v = some r' ∧ r'.Perm r := by
 unfold Ck at h
 cases h;refine ⟨_, rfl, ?_⟩
 have e : m'.any (fun p => decide (p.1 = k)) = m.any (fun p => decide (p.1 = k)) := by
  rw [Bool.eq_iff_iff, List.any_eq_true, List.any_eq_true];exact ⟨fun ⟨p, h1, h2⟩ => ⟨p, hp.mem_iff.1 h1, h2⟩, fun ⟨p, h1, h2⟩ => ⟨p, hp.mem_iff.2 h1, h2⟩⟩
 rw [e]
 split
 ·exact hp.map _
 exact hp.append_right _
theorem JU {K X : Type} {d : TypeDesc} {kf : K → V} {vf : X → V} {o : Obj} {m : List (K × X)} (h : R3 d o (m.map fun p => (kf p.1, vf p.2))) : (m.map (·.1)).Nodup := by
 have := h.nodup
 rw [List.map_map] at this
 have e : (m.map ((·.1) ∘ fun p => (kf p.1, vf p.2))) = (m.map (·.1)).map kf := by rw [List.map_map]; rfl
 rw [e] at this
 exact List.Pairwise.imp (fun h e => h (by rw [e])) (List.pairwise_map.1 this)
structure Qg {K : Type} (d : TypeDesc) (kf : K → V) : Prop where
 raw : ∀ x, ∃ v, AY (kf x) = some v ∧ IsKey d v
 inj : ∀ x y, kf x = kf y → x = y
theorem Z2 (k : IntKind) : Qg (.int k) (V.int k) := ⟨fun _ => ⟨_, rfl, rfl⟩, fun x y h => by cases h; rfl⟩
theorem Hi : Qg .string V.str := ⟨fun _ => ⟨_, rfl, trivial⟩, fun x y h => by cases h; rfl⟩
def WU {X : Type} (vf : X → V) : Prop := ∀ x, ∃ v, Gf (vf x) = some v
theorem NX (k : IntKind) : WU (V.int k) := fun _ => ⟨_, rfl⟩
theorem CJ : WU V.bool := fun _ => ⟨_, rfl⟩
theorem B4.startO {H0 : A0} {id : Nat} {b : Au} (hk : H0 id = some b) : B4 Eq (upd H0 id none) [.blk id b] H0 := by
 have h : B4 Eq (upd H0 id none) [.blk id b] (upd (upd H0 id none) id (some b)) := (B4.start B7 rfl).push (A9 _ _ _) rfl
 rwa [P6, SF H0 id (some b) hk] at h
theorem Vb {α : Type} {f : α → V} {q : OG} {l : List α} (h : T6 q ((Ar.lst f l).length : Nat)) : T6 q (Ar.len l) := ⟨h.1, by rw [h.2, Ar.len_eq, I0]⟩
section
variable {P : Program} {nt : Nat} {rd : Option Nat} {T : Dm} {E : CM}
variable (hE : E = E6 P nt rd)
include hE
variable {α R : Type} {f : α → V} {Φ : A0 → A0 → Prop} {H0 H : A0} {L : List En} {sz : Nat} {q : OG} {l : List α} {r : R}
theorem HT (hO : B4 Φ H0 L H) {k : V → A0 → Prop} (hk : ∀ (q : OG) H', T6 q (Ar.len ([] : List α)) → B4 Φ H0 (.blk q.id (.arr sz (q.pre ++ Ar.lst f [] ++ q.rest)) :: L) H' → k (.own q.id q.lo q.n) H') : E.onil sz H k := by
 subst hE;intro t ht
 have e : ([] : List V) ++ Ar.lst f [] ++ [] = [] := by rw [← B3 (f := f)]; rfl
 refine hk ⟨t, 0, 0, [], []⟩ _ ⟨rfl, by rw [Ar.len_eq]; rfl⟩ ?_
 show B4 Φ H0 (.blk t (.arr sz (([] : List V) ++ Ar.lst f [] ++ [])) :: L) _
 rw [e]; exact hO.push ht rfl
section
variable {K X : Type} {kf : K → V} {vf : X → V} {t kt et : Nat} {d : TypeDesc} {m : List (K × X)} {o : Obj} {id : Nat}
theorem JO (d : TypeDesc) (kf : K → V) (vf : X → V) (hO : B4 Φ H0 L H) {k : V → A0 → Prop} (hk : ∀ id o H', DX d kf vf o [] → B4 Φ H0 (.blk id (.obj o) :: L) H' → k (.map id) H') : E.mmk H k := by
 subst hE;exact .inl fun id hid => hk id _ _ ⟨[], R3.empty d, .refl _⟩ (hO.push hid rfl)
theorem We [DecidableEq K] (hK : Qg d kf) {z : V} {z0 : X} (hz : Er P et = some z) (hvz : z = vf z0) {key : K} {x : X × Bool} (hx : Da m key z0 = some x) (ok : Bool) :
 Wh P et (m.map fun p => (kf p.1, vf p.2)) (kf key) ok (if ok = true then .tup [vf x.1, .bool x.2] else vf x.1) := by
 unfold Da at hx
 cases hx
 cases hf : m.find? (fun p => decide (p.1 = key)) with
 | none =>
  refine .inl ⟨fun p hp => ?_, z, hz, by simp only [hvz]⟩;obtain ⟨q, hq, rfl⟩ := List.mem_map.1 hp;have := List.find?_eq_none.1 hf q hq;exact fun e => this (by simpa using hK.inj _ _ e)
 | some p =>
  have h1 := List.find?_some hf;have h2 := List.mem_of_find?_eq_some hf;refine .inr ⟨vf p.2, List.mem_map.2 ⟨p, h2, ?_⟩, rfl⟩;rw [show p.1 = key by simpa using h1]
theorem MA [DecidableEq K] (hm : P.underlying t = some (.map kt et)) (hd : P.underlying kt = some d) (hK : Qg d kf) {z : V} (z0 : X) (hz : Er P et = some z) (hvz : z = vf z0) (hO : B4 Φ H0 L H) (hq : DX d kf vf o m) (i : Nat) (hi : L[i]? = some (.blk id (.obj o)))
 {key : K} {k : V → Prop} {F : X × Bool → Option R} (h : (Da m key z0).bind F = some r) (hk : ∀ x, F x = some r → k (vf x.1)) : E.mget t H (.map id) (kf key) false k := by
 obtain ⟨x, h1, h2⟩ := bind_some h;obtain ⟨m', hq, hp⟩ := hq
 rw [← LB hp (JU hq)] at h1
 have ha := We (P := P) (vf := vf) hE hK hz hvz h1 false;subst hE;obtain ⟨v, hv1, hv2⟩ := hK.raw key;exact ⟨_, .inl ⟨kt, et, d, v, id, o, _, hm, hd, hv1, hv2, rfl, hO.get i hi, hq, ha⟩, hk x h2⟩
theorem Mz [DecidableEq K] (hm : P.underlying t = some (.map kt et)) (hd : P.underlying kt = some d) (hK : Qg d kf) {z : V} (z0 : X) (hz : Er P et = some z) (hvz : z = vf z0) (hO : B4 Φ H0 L H) (hq : DX d kf vf o m) (i : Nat) (hi : L[i]? = some (.blk id (.obj o)))
 {key : K} {k : V → Prop} {F : X × Bool → Option R} (h : (Da m key z0).bind F = some r) (hk : ∀ x, F x = some r → k (.tup [vf x.1, .bool x.2])) : E.mget t H (.map id) (kf key) true k := by
 obtain ⟨x, h1, h2⟩ := bind_some h;obtain ⟨m', hq, hp⟩ := hq
 rw [← LB hp (JU hq)] at h1
 have ha := We (P := P) (vf := vf) hE hK hz hvz h1 true;subst hE;obtain ⟨v, hv1, hv2⟩ := hK.raw key;exact ⟨_, .inl ⟨kt, et, d, v, id, o, _, hm, hd, hv1, hv2, rfl, hO.get i hi, hq, ha⟩, hk x h2⟩
theorem UI [DecidableEq K] (hK : Qg d kf) (hn : ((m.map fun p => (kf p.1, vf p.2)).map (·.1)).Nodup) {key : K} {v : X} {m' : List (K × X)} (hx : Ck m key v = some m') : WS (m.map fun p => (kf p.1, vf p.2)) (kf key) (vf v) (m'.map fun p => (kf p.1, vf p.2)) := by
 unfold Ck at hx
 cases hx
 split
 ·rename_i h;obtain ⟨p, hp, he⟩ := List.any_eq_true.1 h
  have he : p.1 = key := by simpa using he
  obtain ⟨a, b, hab⟩ := List.append_of_mem hp;subst hab;refine .inr ⟨a.map fun p => (kf p.1, vf p.2), vf p.2, b.map fun p => (kf p.1, vf p.2), by simp [he], ?_⟩
  have hna : ∀ l : List (K × X), (∀ q ∈ l, q.1 ≠ key) → (l.map (fun p => if p.1 = key then (key, v) else p)) = l := fun l hl => by
   induction l with
   | nil => rfl
   | cons y l ih => rw [List.map_cons, if_neg (hl y (by simp)), ih fun q hq => hl q (by simp [hq])]
  rw [List.map_map, List.map_append, List.map_cons, List.nodup_append] at hn
  obtain ⟨_, n2, n3⟩ := hn
  rw [List.nodup_cons] at n2
  have ha : ∀ q ∈ a, q.1 ≠ key := fun q hq e => n3 (kf q.1) (List.mem_map.2 ⟨q, hq, rfl⟩) (kf p.1) (by simp) (by rw [e, he]);have hb : ∀ q ∈ b, q.1 ≠ key := fun q hq e => n2.1 (List.mem_map.2 ⟨q, hq, by simp [e, he]⟩);rw [List.map_append, List.map_cons, hna a ha, hna b hb, if_pos he];simp
 rename_i h;refine .inl ⟨fun p hp => ?_, by simp⟩;obtain ⟨q, hq, rfl⟩ := List.mem_map.1 hp;exact fun e => h (List.any_eq_true.2 ⟨q, hq, by simpa using hK.inj _ _ e⟩)
theorem Ft [DecidableEq K] (hm : P.underlying t = some (.map kt et)) (hd : P.underlying kt = some d) (hK : Qg d kf) (hV : WU vf) (hO : B4 Φ H0 L H) (hq : DX d kf vf o m) (i : Nat) (hi : L[i]? = some (.blk id (.obj o)))
 {key : K} {v : X} {k : A0 → Prop} {F : List (K × X) → Option R} (h : (Ck m key v).bind F = some r) (hk : ∀ m' o' H', DX d kf vf o' m' → F m' = some r → B4 Φ H0 (L.set i (.blk id (.obj o'))) H' → k H') : E.mset t H (.map id) (kf key) (vf v) k := by
 obtain ⟨m', h1, h2⟩ := bind_some h;obtain ⟨m0, hq, hp⟩ := hq;obtain ⟨r', h3, hp'⟩ := Rv hp h1;have hs := UI (d := d) hE hK hq.nodup h3;subst hE;obtain ⟨kv, hv1, hv2⟩ := hK.raw key;obtain ⟨vv, hv3⟩ := hV v;exact .inl ⟨kt, et, d, kv, vv, id, o, _, _, hm, hd, hv1, hv2, hv3, rfl, hO.get i hi, hq, hs, fun o' ho => hk m' o' _ ⟨r', ho, hp'⟩ h2 (hO.set i hi)⟩
end
end
end Go.Ab
