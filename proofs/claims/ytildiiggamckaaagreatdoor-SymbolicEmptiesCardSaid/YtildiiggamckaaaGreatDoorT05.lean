/- AbO2 AbO3 -/
import Derived.Test.YtildiiggamckaaaGreatDoorT04
import Derived.Laws.Runes
set_option linter.all false
namespace Go.Ab
open Go.RowKit
variable [G5]
def Bu (H : A0) (id : Nat) : Option (Nat × List V) :=
 match H id with
 | some (.arr sz xs) => some (sz, xs)
 | _ => none
theorem AX {H : A0} {id sz : Nat} {xs : List V} (h : Bu H id = some (sz, xs)) : H id = some (.arr sz xs) := by
 unfold Bu at h
 split at h
 ·cases h; assumption
 cases h
def Vl (P : Program) (_H : A0) (t : TypeId) (v : V) : Option V :=
 match BT P t, v with
 | some _, .own _ _ n => some (.int .i64 n)
 | _, _ => none
def PP (P : Program) (H : A0) (t : TypeId) (v : V) (i : Int) : Option V :=
 match BT P t, v with
 | some e, .own id lo n =>
  match Bu H id with
  | some (sz, _) => if (0 ≤ i ∧ i < n) ∧ Bw P e = some sz then some (.elem id (lo + i) sz 0) else none
  | none => none
 | _, _ => none
def Gm (P : Program) (H : A0) (t : TypeId) (v : V) : Option V :=
 match MX P t, Bw P t, v with
 | some ag, some sz, .elem id i _ off =>
  match Bu H id with
  | some (_, xs) => if 0 ≤ i ∧ i < xs.length then Cv ag sz (xs.getD i.toNat .bad).cells off else none
  | none => none
 | _, _, _ => none
def Mu (x : V) (esz sz off : Nat) (y : V) : V :=
 match Nat.beq off 0 && Nat.beq sz esz with
 | true => y
 | false => .agg (K9 x.cells off y.cells)
def Ma (P : Program) (H : A0) (t : TypeId) (v y : V) : Option A0 :=
 match Bw P t, v with
 | some sz, .elem id i esz off =>
  match Bu H id with
  | some (sz', xs) =>
   if (0 ≤ i ∧ i < xs.length) ∧ sz' = esz ∧ y.one = true ∧ y.cells.length = sz ∧ off + sz ≤ esz then some (upd H id (some (.arr esz (xs.set i.toNat (Mu (xs.getD i.toNat .bad) esz sz off y))))) else none
  | none => none
 | _, _ => none
theorem Pz {x y : V} {esz sz off : Nat} (hx : x.cells.length = esz) (hy : y.cells.length = sz) (h : off + sz ≤ esz) : (Mu x esz sz off y).cells = K9 x.cells off y.cells := by
 unfold Mu
 split
 ·rename_i e
  simp only [Bool.and_eq_true] at e
  have e1 := Nat.eq_of_beq_eq_true e.1;have e2 := Nat.eq_of_beq_eq_true e.2;subst e1; subst e2;simp [K9, hx, hy]
 rfl
section
variable {P : Program} {o : Oper} {fr : Fr} {H : A0} {K : V → A0 → Prop}
theorem SO {y : Operand} {t : TypeId} {x : V} (ho : o.op = .call { callee := .builtin .len, args := #[y], argTypes := #[t] }) (hl : Vl P H t (ev fr y) = some x) (h : K x H) : E4 P o fr H K := by
 intro g w a hR hE;have hv := C4 hR hE y;rw [J4 ho];simp only [builtin, List.map_toArray, List.map_cons, List.map_nil, Sem.run_bind]
 unfold Vl at hl
 split at hl
 ·rename_i e id lo n hse he
  rw [he] at hv
  cases hl;have hu := H8 hse
  generalize a.eval y = v at hv
  cases hv with
  | own hm h0 h1 h2 hp =>
   simp [Builtin.len_, run_underlying hu, goInt];rw [show (max n 0 : Int) = n by omega];exact G8.here hR (.int _ _) h
 cases hl
theorem SP {t : TypeId} {y z : Operand} {k : IntKind} {i : Int} {x : V} (ho : o.op = .indexAddr t y z) (hz : ev fr z = .int k i) (hl : PP P H t (ev fr y) i = some x) (h : K x H) : E4 P o fr H K := by
 intro g w a hR hE;have hv := C4 hR hE y;have hi := C4 hR hE z
 rw [hz] at hi
 have hi := hi.int_inv
 unfold PP at hl
 split at hl
 ·rename_i e id lo n hse he
  rw [he] at hv
  split at hl
  ·rename_i sz xs hx
   split at hl
   ·rename_i hc;cases hl;obtain ⟨b', k1, hs, k2, k3, k4⟩ := hR.blk id _ (AX hx);have hu := H8 hse
    generalize hav : a.eval y = v at hv
    cases hv with
    | own hm h0 h1 h2 hp =>
     have hlt : lo < ((g.ow id).cap : Nat) := by omega
     have hpe := hp hlt;subst hpe;unfold execOp; rw [ho];have c1 := hc.1.1
     have c2 : i < (n.toNat : Int) := by omega
     simp only [hav, hi, Instr.indexAt, asIntOf, Sem.run_bind, Sem.run_pure, Result.andThen_ok, run_underlying hu, c1, c2, and_self, if_true, H7 hc.2, D7, Option.map_some, O7];refine G8.here hR ?_ h;have := VR.elem (g := g) (w := w) (i := lo + i) (off := 0) hm hs;rw [hs]
     rw [show (lo + i).toNat = lo.toNat + i.toNat by omega, Nat.add_mul, Nat.add_zero, ← Nat.add_assoc] at this
     exact this
   cases hl
  cases hl
 cases hl
theorem Rj {t : TypeId} {y : Operand} {x : V} (ho : o.op = .load t y) (hl : Gm P H t (ev fr y) = some x) (h : K x H) : E4 P o fr H K := by
 intro g w a hR hE;have hv := C4 hR hE y
 unfold Gm at hl
 split at hl
 ·rename_i ag sz id i esz off ha hs he
  rw [he] at hv
  split at hl
  ·rename_i sz0 xs hx
   split at hl
   ·rename_i hc
    generalize hav : a.eval y = v at hv
    cases hv with
    | elem hm hsz =>
     rename_i b;obtain ⟨b', h1, hs0, h2, h4, h6⟩ := hR.blk id _ (AX hx)
     rw [hm] at h1; cases h1
     subst hs0
     have hlt : i.toNat < xs.length := by omega
     rcases h6 with h6 | ⟨c, T, k1, k2, k3, k4, k5⟩
     ·omega
     have hcells : Na g w b ((g.ow id).o + i.toNat * (g.ow id).sz) (xs.getD i.toNat .bad).cells := fun j hj => by
      have hj' : j < (g.ow id).sz := by rw [← h4 _ hlt]; exact hj
      have e1 := Ay (n := xs.length) hlt hj';have e2 : xs.length * (g.ow id).sz ≤ (g.ow id).cap * (g.ow id).sz := Nat.mul_le_mul_right _ (by omega);refine ⟨_, ?_, (k4 _ j hlt hj').1, (k4 _ j hlt hj').2⟩;simp [World.cell?, k2, Array.getD, show (g.ow id).o + i.toNat * (g.ow id).sz + j < c.size by omega]
     obtain ⟨u, hu, hr⟩ := CY (P := P) hcells ha hs hl;unfold execOp; rw [ho]
     rw [← hsz] at hav
     simp only [hav, Instr.loadAt, Instr.sureAddr, Sem.run_bind, Sem.run_pure, Result.andThen_ok, hu, D7];exact G8.here hR hr h
   cases hl
  cases hl
 cases hl
theorem Ph {t : TypeId} {y z : Operand} {zV : V} {H' : A0} (ho : o.op = .store t y z) (hle : Y4 (ev fr z) zV) (hl : Ma P H t (ev fr y) zV = some H') (h : K .bad H') : E4 P o fr H K := by
 intro g w a hR hE;have hv := C4 hR hE y;have hz := (C4 hR hE z).le hle
 unfold Ma at hl
 split at hl
 ·rename_i sz id i esz off hs he
  rw [he] at hv
  split at hl
  ·rename_i sz0 xs hx
   split at hl
   ·rename_i hc;obtain ⟨hb, hs1, hone, hysz, hfit⟩ := hc;cases hl
    generalize hav : a.eval y = v at hv
    cases hv with
    | elem hm hsz =>
     rename_i b;have hk := AX hx;obtain ⟨b', h1, hs0, h2, h4, h6⟩ := hR.blk id _ hk
     rw [hm] at h1; cases h1
     have hs1 := hs1.symm;subst hs1
     have hlt : i.toNat < xs.length := by omega
     rcases h6 with h6 | ⟨c, T, k1, k2, k3, k4, k5⟩
     ·omega
     obtain ⟨hcs, hcv⟩ := hz.cells hone
     have hzs : (a.eval z).cells.size = sz := by rw [hcs, hysz]
     have hmem : ∀ v ∈ (a.eval z).cells.toList, v.oneCell' = true := by
      intro v hv;obtain ⟨j, hj, rfl⟩ := List.getElem_of_mem hv
      have hj' : j < (a.eval z).cells.size := by simpa using hj
      have := (hcv j (by omega)).1
      simpa [Array.getD, hj'] using this
     have hcap0 : xs.length ≠ 0 := by omega
     have e2 : xs.length * esz ≤ (g.ow id).cap * esz := Nat.mul_le_mul_right _ (by omega);have e3 : (i.toNat + 1) * esz ≤ xs.length * esz := Nat.mul_le_mul_right _ (by omega)
     rw [Nat.add_mul, Nat.one_mul] at e3
     generalize hA : (g.ow id).o + i.toNat * esz + off = A
     have hAl : A + sz ≤ c.size := by rw [← hA]; omega
     have hst := run_storeCells_at P b A T (a.eval z).cells.toList 0 c w k2 (by simp; omega) hmem
     generalize hC : (c.toList.take (A + 0) ++ (a.eval z).cells.toList ++ c.toList.drop (A + 0 + (a.eval z).cells.toList.length)).toArray = C at hst
     have hCs : C.size = c.size := by rw [← hC]; simp; omega
     have hCg : ∀ j, j < c.size → C[j]? = if A ≤ j ∧ j < A + sz then (a.eval z).cells[j - A]? else c[j]? := by
      intro j hlt;rw [← hC];simp only [Nat.add_zero, List.getElem?_toArray, List.append_assoc];rw [List.getElem?_append, List.getElem?_append];simp only [List.length_take, Array.length_toList, Nat.min_eq_left (show A ≤ c.size by omega), List.getElem?_take, List.getElem?_drop, Array.getElem?_toList]
      by_cases q1 : j < A
      ·rw [if_pos q1, if_pos q1, if_neg (by omega)]
      rw [if_neg q1]
      by_cases q2 : j < A + sz
      ·rw [if_pos (by omega), if_pos ⟨by omega, q2⟩]
      rw [if_neg (by omega), if_neg (by omega), show A + (a.eval z).cells.size + (j - A - (a.eval z).cells.size) = j by omega]
     have hlen := h4 _ hlt;have hpc := Pz (x := xs.getD i.toNat .bad) (y := zV) hlen hysz hfit
     have hget : ∀ k, k < xs.length → (xs.set i.toNat (Mu (xs.getD i.toNat .bad) esz sz off zV)).getD k .bad = if k = i.toNat then Mu (xs.getD i.toNat .bad) esz sz off zV else xs.getD k .bad := by
      intro k hk;simp only [List.getD_eq_getElem?_getD, List.getElem?_set]
      by_cases e : i.toNat = k
      ·subst e; simp [hlt]
      rw [if_neg e, if_neg (fun e' => e e'.symm)]
     have hset := hR.setArr (c' := C) (ys := xs.set i.toNat (Mu (xs.getD i.toNat .bad) esz sz off zV)) hk hm hcap0 k2 hCs (fun q hq => by
      by_cases hqc : q < c.size
      ·rw [hCg q hqc, if_neg (by omega)]
      ·rw [Array.getElem?_eq_none (by omega), Array.getElem?_eq_none (by omega)]) (by simp) (fun k hk' => by
      have hk2 : k < xs.length := by simpa using hk'
      rw [hget k hk2]
      split
      ·rw [hpc, T4 (by rw [hysz, hlen]; omega), hlen]
      ·exact h4 k hk2) (fun k j hk' hj => by
      have hk2 : k < xs.length := by simpa using hk'
      rw [hget k hk2];have e1 := Ay (n := xs.length) hk2 hj
      have hin : (g.ow id).o + k * esz + j < c.size := by omega
      have hCd : C.getD ((g.ow id).o + k * esz + j) undef = if A ≤ (g.ow id).o + k * esz + j ∧ (g.ow id).o + k * esz + j < A + sz then (a.eval z).cells.getD ((g.ow id).o + k * esz + j - A) undef else c.getD ((g.ow id).o + k * esz + j) undef := by
       simp only [Array.getD_eq_getD_getElem?, hCg _ hin]
       split <;> rfl
      rw [hCd]
      by_cases hki : k = i.toNat
      ·subst hki;rw [if_pos rfl, hpc, Dx (by rw [hysz, hlen]; omega), hysz];rw [← hA]
       by_cases q : off ≤ j ∧ j < off + sz
       ·rw [if_pos ⟨by omega, by omega⟩, if_pos q, show (g.ow id).o + i.toNat * esz + j - ((g.ow id).o + i.toNat * esz + off) = j - off by omega];exact hcv (j - off) (by omega)
       rw [if_neg (by omega), if_neg q];exact k4 _ j hk2 hj
      rw [if_neg hki]
      have hne : ¬ (A ≤ (g.ow id).o + k * esz + j ∧ (g.ow id).o + k * esz + j < A + sz) := by
       rw [← hA];rintro ⟨q1, q2⟩
       rcases Nat.lt_or_gt_of_ne hki with hlt' | hgt
       ·have := Nat.mul_le_mul_right esz (show k + 1 ≤ i.toNat by omega)
        rw [Nat.add_mul, Nat.one_mul] at this
        omega
       have := Nat.mul_le_mul_right esz (show i.toNat + 1 ≤ k by omega)
       rw [Nat.add_mul, Nat.one_mul] at this
       omega
      rw [if_neg hne]
      exact k4 _ j hk2 hj)
     unfold execOp; rw [ho]
     rw [hA] at hav
     simp only [hav, Instr.storeAt, Instr.sureAddr, storeVar, Sem.run_bind, Sem.run_pure, Result.andThen_ok, H7 hs w, hzs, ne_eq, not_true_eq_false, if_false, hst, D7];exact ⟨g, .bad, _, hset.1, hset.2, .bad _, h⟩
   cases hl
  cases hl
 cases hl
end
end Go.Ab
namespace Go.Ab
open Go.RowKit
variable [G5]
theorem BJ {g : Gh} {H : A0} {w : World} (hR : Rl g H w) (sz : Nat) {v : Value} {x : V} (hx : x = .sl [] .nil ∨ x = .sl [] .full) (hv : VR g w v x) :
 ∃ g', M4 g w g' w ∧ Rl g' (upd H g.nx (some (.arr sz []))) w ∧ H g.nx = none ∧ VR g' w v (.own g.nx 0 0) := by
 obtain ⟨s, r, hn⟩ := Rl.newArr (w' := w) hR (b := 0) (o := 0) (sz := sz) (ys := []) (fun i hi => by simp at hi) (fun _ _ _ => rfl) (Below.refl _ _) (fun _ _ _ => rfl) (.inl rfl);refine ⟨_, s, r, hn, ?_⟩
 have key : ∀ p : Option Addr, VR (g.own 0 ⟨0, 0, sz⟩) w (.slice p 0 0) (.own g.nx 0 0) := fun p => by
  have e : (g.own 0 ⟨0, 0, sz⟩).ow g.nx = ⟨0, 0, sz⟩ := by simp [Gh.own]
  have := VR.own (g := g.own 0 ⟨0, 0, sz⟩) (w := w) (id := g.nx) (b := 0) (lo := 0) (n := 0) (p := p) (by simp [Gh.own]) (by omega) (by omega) (by rw [e]; simp) (by rw [e]; simp)
  rw [e] at this
  exact this
 rcases hx with rfl | rfl
 ·cases hv with
  | sl0 ht => exact key none
  | sle h => rcases h with h | ⟨h, _⟩ <;> cases h
  | sl vs hn hc hz hf hw h1 hv ht => exact ht.elim
 cases hv with
 | sl0 ht => exact key none
 | @sle a c t h =>
  rcases h with h | ⟨_, h⟩
  ·cases h
  subst h; exact key (some a)
 | sl vs hn hc hz hf hw h1 hv ht =>
  rename_i b o sz' n cap
  have e1 : n = 0 := by simpa using hn.symm
  have e2 : cap = n := ht;subst e2; subst e1;exact key (some ⟨b, o, none⟩)
section
variable {P : Program} {o : Oper} {fr : Fr} {H : A0} {K : V → A0 → Prop}
theorem Ns {t : TypeId} {l c : Operand} {e : TypeId} {k1 k2 : IntKind} {n m : Int} {sz by_ : Nat} {z : V} (ho : o.op = .makeSlice t l c) (hl : ev fr l = .int k1 n) (hc : ev fr c = .int k2 m) (he : BT P t = some e) (hsz : Bw P e = some sz)
 (hpos : 0 < sz) (hby : Jc P e = some by_) (hbp : 0 < by_) (hz : Er P e = some z) (hz1 : z.one = true) (hzl : z.cells.length = sz) (h0 : 0 ≤ n) (h1 : n ≤ m) (h2 : m * by_ ≤ 281474976710656)
 (h : ∀ id, H id = none → K (.own id 0 n) (upd H id (some (.arr sz (List.replicate m.toNat z))))) : E4 P o fr H K := by
 intro g w a hR hE;have hl' := C4 hR hE l;have hc' := C4 hR hE c
 rw [hl] at hl'; rw [hc] at hc'
 have hl' := hl'.int_inv; have hc' := hc'.int_inv;have hu := H8 he;obtain ⟨zv, ez, hzv⟩ := Az hz
 have hzr : VR g w zv z := by rw [ez]; exact Bq g w zv
 obtain ⟨hzs', hzc⟩ := hzr.cells hz1
 have hzs : zv.cells.size = sz := by rw [hzs', hzl]
 have hbi : ∀ w, (typeInfo e).run P w = .ok ((P.info? e).getD default) w ∧ ((P.info? e).getD default).bytes = by_ := by
  intro w
  unfold Jc at hby
  cases hi : P.info? e with
  | none => simp [hi] at hby
  | some i => simp [hi] at hby; simp [typeInfo, hi, hby]
 have hb1 : ∀ w, (typeInfo e).run P w = .ok ((P.info? e).getD default) w := fun w => (hbi w).1;have hb2 := (hbi w).2
 have hmb : m ≤ 281474976710656 := by
  have : m * 1 ≤ m * by_ := Int.mul_le_mul_of_nonneg_left (by omega) (by omega);omega
 have hw1 : IntKind.i64.wrap n = n := wrap_small n h0 (by omega);have hw2 : IntKind.i64.wrap m = m := wrap_small m (by omega) (by omega);have hcm : (by_ : Int) * m = m * by_ := Int.mul_comm _ _;generalize hA : (if m.toNat * sz = 0 then (#[] : Array Value) else zv.cells) = A;generalize hC : (Array.range (m.toNat * sz)).map (fun i => A[i % A.size]!) = C
 have hCs : C.size = m.toNat * sz := by rw [← hC]; simp
 have hrun : (Instr.makeSlice t (.int k1 n) (.int k2 m)).run P w = .ok (.slice (some ⟨w.heap.size, 0, none⟩) n.toNat m.toNat) (w.alloc (.cells C e)) := by
  have t1 : ¬ (m < 0) := by omega
  have t2 : ¬ (281474976710656 < (by_ : Int) * m) := by omega
  have t3 : ¬ (n < 0) := by omega
  have t4 : ¬ (m < n) := by omega
  simp only [Instr.makeSlice, Sem.run_bind, run_underlying hu, Result.andThen_ok, asInt, asIntOf, Sem.run_pure, hb1, hb2, hw1, hw2];simp only [gt_iff_lt, t1, t3, t4, decide_false, Bool.false_or, Bool.or_false, Int.reducePow, t2, Bool.false_eq_true, or_self, if_false, Sem.run_bind, Sem.run_pure, Result.andThen_ok, run_askRoom, H7 hsz]
  by_cases h0 : m.toNat * sz = 0
  ·rw [if_pos h0] at hA
   rw [if_pos h0];subst hA;simp [newRow, run_newObj, ← hC, World.alloc_eq, Sem.run_bind]
  rw [if_neg h0] at hA
  rw [if_neg h0];subst hA;simp [newRow, run_newObj, hC, World.alloc_eq, Sem.run_bind, hzv]
 have hn : n.toNat ≤ m.toNat := by omega
 have hCg : ∀ k, k < m.toNat * sz → C.getD k undef = zv.cells.getD (k % sz) undef := by
  intro k hk
  have hne : m.toNat * sz ≠ 0 := by omega
  rw [if_neg hne] at hA
  subst hA;rw [← hC]
  have hlt : k % sz < zv.cells.size := by rw [hzs]; exact Nat.mod_lt _ hpos
  simp only [Array.getD_eq_getD_getElem?, Array.getElem?_map, Array.getElem?_range, hk, if_true, Option.map_some, Option.getD_some, hzs];simp [hlt]
 have hrep : ∀ i, i < m.toNat → (List.replicate m.toNat z).getD i .bad = z := fun i hi => by simp [List.getD, hi]
 have hlen : (List.replicate m.toNat z).length = m.toNat := by simp
 obtain ⟨s, r, hnone⟩ := Rl.newArr (w' := w.alloc (.cells C e)) hR (b := w.heap.size) (o := 0) (sz := sz) (ys := List.replicate m.toNat z)
  (fun i hi => by rw [hrep i (by simpa using hi)]; exact hzl) (fun b q hf => Ad (hR.fz_lt hf)) ((Below.refl _ _).alloc hR.bnd _) (fun x _ hlt => heap_alloc hlt)
  (.inr ⟨C, e, hR.bnd, X2, by simp [hCs], fun i j hi hj => by
   have hi' : i < m.toNat := by simpa using hi
   have e1 := Ay (n := m.toNat) hi' hj;rw [hrep i hi', Nat.zero_add, hCg _ e1, (J2 hj).2]
   exact hzc j (by omega), fun q _ hf => absurd (hR.fz_lt hf) (Nat.lt_irrefl _), fun id hid => absurd (hR.lt hid) (Nat.lt_irrefl _)⟩)
 unfold execOp; rw [ho];simp only [hl', hc', Sem.run_bind, hrun, Result.andThen_ok, Sem.run_pure, D7];refine ⟨_, _, _, s, r, ?_, h g.nx hnone⟩;rw [hlen]
 have e' : (g.own w.heap.size ⟨0, m.toNat, sz⟩).ow g.nx = ⟨0, m.toNat, sz⟩ := by simp [Gh.own]
 have := VR.own (g := g.own w.heap.size ⟨0, m.toNat, sz⟩) (w := w.alloc (.cells C e)) (id := g.nx) (b := w.heap.size) (lo := 0) (n := n) (p := some ⟨w.heap.size, 0, none⟩) (by simp [Gh.own]) (by omega) h0 (by rw [e']; simp only; omega) (by rw [e']; simp)
 rw [e'] at this
 exact this
end
end Go.Ab
