/- AbA4 AbA5 AbA6 -/
import Derived.Test.YtildiiggamckaaaGreatDoorT01
set_option linter.all false
namespace Go.Ab
open Go.RowKit
variable [G5]
def Cv (ag : Bool) (sz : Nat) (cs : List V) (off : Nat) : Option V :=
 if ag then (if off + sz ≤ cs.length then some (.agg ((cs.drop off).take sz)) else none) else cs[off]?
def K9 (cs : List V) (off : Nat) (xs : List V) : List V := cs.take off ++ (xs ++ cs.drop (off + xs.length))
def Du (P : Program) (H : A0) (t : TypeId) (v : V) : Option V :=
 match MX P t, Bw P t, v with
 | some ag, some sz, .eref cs off => Cv ag sz cs off
 | some ag, some sz, .ref id off =>
  match H id with
  | some (.cells cs) => Cv ag sz cs off
  | _ => none
 | _, _, _ => none
def Gx (P : Program) (H : A0) (t : TypeId) (v x : V) : Option A0 :=
 match Bw P t, v with
 | some sz, .ref id off =>
  match H id with
  | some (.cells cs) => if x.one = true ∧ x.cells.length = sz ∧ off + sz ≤ cs.length then some (upd H id (some (.cells (K9 cs off x.cells)))) else none
  | _ => none
 | _, _ => none
def Na (g : Gh) (w : World) (b o : Nat) (cs : List V) : Prop :=
 ∀ j, j < cs.length → ∃ v, w.cell? ⟨b, o + j, none⟩ = some v ∧ v.oneCell' = true ∧ VR g w v (cs.getD j .bad)
theorem O7 (b o n : Nat) : (⟨b, o, none⟩ : Addr).add n = ⟨b, o + n, none⟩ := by
 unfold Addr.add; split <;> simp_all
section
variable {P : Program} {o : Oper} {fr : Fr} {H : A0} {K : V → A0 → Prop}
theorem Fg {t : TypeId} {ag : Bool} (h : MX P t = some ag) (w : World) : (isAgg t).run P w = .ok ag w := by
 unfold MX at h
 cases hu : P.underlying t with
 | none => simp [hu] at h
 | some d =>
  simp only [hu, Option.map_some, Option.some.injEq] at h
  unfold isAgg;rw [Sem.run_bind, run_underlying hu w];subst h;cases d <;> rfl
theorem H7 {t : TypeId} {sz : Nat} (h : Bw P t = some sz) (w : World) : (sizeOf t).run P w = .ok sz w := by
 unfold Bw at h
 cases hi : P.info? t with
 | none => simp [hi] at h
 | some i => simp [hi] at h; simp [sizeOf, typeInfo, hi, h]
theorem CY {g : Gh} {w : World} {b q : Nat} {cs : List V} (hc : Na g w b q cs) {t : TypeId} {ag : Bool} {sz off : Nat} {x : V} (ha : MX P t = some ag) (hs : Bw P t = some sz)
 (hp : Cv ag sz cs off = some x) : ∃ v, (loadVar t ⟨b, q + off, none⟩).run P w = .ok v w ∧ VR g w v x := by
 unfold loadVar;rw [Sem.run_bind, Fg ha w];simp only [Result.andThen_ok]
 cases ag with
 | true =>
  simp only [Cv, if_true] at hp
  split at hp
  ·next hle =>
   cases hp
   have hf : ∀ j, j < sz → w.cell? ((⟨b, q + off, none⟩ : Addr).add j) = some ((w.cell? ⟨b, q + off + j, none⟩).getD undef) := by
    intro j hj;obtain ⟨v, hv, _⟩ := hc (off + j) (by omega);rw [O7, show q + off + j = q + (off + j) by omega, hv]; rfl
   refine ⟨.agg ((List.range sz).map fun j => (w.cell? ⟨b, q + off + j, none⟩).getD undef).toArray, ?_, ?_⟩
   ·simp [Sem.run_bind, H7 hs w, run_loadCells w _ sz _ hf]
   refine .agg ?_ (fun i hi => ?_) fun i hi => ?_
   ·simp; omega
   ·have hi' : i < sz := by simp at hi; omega
    obtain ⟨v, hv, h1, _⟩ := hc (off + i) (by omega)
    have : (((List.range sz).map fun j => (w.cell? ⟨b, q + off + j, none⟩).getD undef).toArray).getD i undef = v := by
     simp [Array.getD, hi', show q + off + i = q + (off + i) by omega, hv]
    rw [this]; exact h1
   have hi' : i < sz := by simp at hi; omega
   obtain ⟨v, hv, _, h2⟩ := hc (off + i) (by omega)
   have : (((List.range sz).map fun j => (w.cell? ⟨b, q + off + j, none⟩).getD undef).toArray).getD i undef = v := by
    simp [Array.getD, hi', show q + off + i = q + (off + i) by omega, hv]
   rw [this]
   have e : ((cs.drop off).take sz).getD i .bad = cs.getD (off + i) .bad := by
    simp [List.getD, List.getElem?_take, List.getElem?_drop, hi']
   rw [e]; exact h2
  cases hp
 | false =>
  simp only [Cv, Bool.false_eq_true, if_false] at hp
  have hlt : off < cs.length := by
   rcases Nat.lt_or_ge off cs.length with h | h
   ·exact h
   simp [List.getElem?_eq_none h] at hp
  obtain ⟨v, hv, _, h2⟩ := hc off hlt;refine ⟨v, by simp [hv], ?_⟩
  have : cs.getD off .bad = x := by simp [List.getD, hp]
  rw [← this]; exact h2
theorem IK {g : Gh} {w : World} {id b : Nat} {cs : List V} (hR : Rl g H w) (hk : H id = some (.cells cs)) (hb : g.mu id = some b) : Na g w b 0 cs := by
 obtain ⟨b', c, T, h1, h2, h3, h4, h5, h6⟩ := hR.blk id _ hk
 rw [hb] at h1; cases h1
 intro j hj
 have hj' : j < c.size := by omega
 refine ⟨c.getD j undef, ?_, (h5 j hj).1, (h5 j hj).2⟩;simp [World.cell?, h3, Array.getD, hj']
theorem SS {t : TypeId} {y : Operand} {x : V} (ho : o.op = .load t y) (hl : Du P H t (ev fr y) = some x) (h : K x H) : E4 P o fr H K := by
 intro g w a hR hE;have hv := C4 hR hE y
 unfold Du at hl
 split at hl
 ·next ag sz cs off ha hs he =>
  rw [he] at hv
  generalize hav : a.eval y = v at hv
  cases hv with
  | eref vs hf hw h1 hvv =>
   rename_i b q;obtain ⟨u, hu, hr⟩ := CY (P := P) (g := g) (w := w) (b := b) (q := q) (cs := cs) (fun j hj => ⟨vs j, hw j hj, h1 j hj, hvv j hj⟩) ha hs hl;unfold execOp; rw [ho];simp only [hav, Instr.loadAt, Instr.sureAddr, Sem.run_bind, Sem.run_pure, Result.andThen_ok, hu, D7];exact G8.here hR hr h
 ·next ag sz id off ha hs he =>
  rw [he] at hv
  generalize hav : a.eval y = v at hv
  cases hv with
  | ref hm =>
   rename_i b
   split at hl
   ·next cs hk =>
    obtain ⟨u, hu, hr⟩ := CY (P := P) (IK hR hk hm) ha hs hl
    rw [Nat.zero_add] at hu
    unfold execOp; rw [ho];simp only [hav, Instr.loadAt, Instr.sureAddr, Sem.run_bind, Sem.run_pure, Result.andThen_ok, hu, D7];exact G8.here hR hr h
   cases hl
 cases hl
theorem T4 {cs xs : List V} {off : Nat} (h : off + xs.length ≤ cs.length) : (K9 cs off xs).length = cs.length := by
 simp [K9]; omega
theorem Dx {cs xs : List V} {off j : Nat} (h : off + xs.length ≤ cs.length) :
 (K9 cs off xs).getD j .bad = if off ≤ j ∧ j < off + xs.length then xs.getD (j - off) .bad else cs.getD j .bad := by
 simp only [K9, List.getD_eq_getElem?_getD];rw [List.getElem?_append, List.getElem?_append];simp only [List.length_take, Nat.min_eq_left (show off ≤ cs.length by omega), List.getElem?_take, List.getElem?_drop]
 by_cases h1 : j < off
 ·rw [if_pos h1, if_pos h1, if_neg (by omega)]
 rw [if_neg h1]
 by_cases h2 : j < off + xs.length
 ·rw [if_pos (by omega), if_pos ⟨by omega, h2⟩]
 rw [if_neg (by omega), if_neg (by omega), show off + xs.length + (j - off - xs.length) = j by omega]
theorem Le {t : TypeId} {y z : Operand} {zV : V} {H' : A0} (ho : o.op = .store t y z) (hw : ∀ g w v, VR g w v (ev fr z) → VR g w v zV) (hl : Gx P H t (ev fr y) zV = some H') (h : K .bad H') : E4 P o fr H K := by
 intro g w a hR hE;have hv := C4 hR hE y;have hz := hw _ _ _ (C4 hR hE z)
 unfold Gx at hl
 split at hl
 ·next sz id off hs he =>
  rw [he] at hv
  generalize hav : a.eval y = v at hv
  cases hv with
  | ref hm =>
   rename_i b
   split at hl
   ·next cs hk =>
    split at hl
    ·next hcond =>
     obtain ⟨hone, hlen, hfit⟩ := hcond;cases hl;obtain ⟨hcs, hcv⟩ := hz.cells hone;obtain ⟨b', c, T, h1, h2, h3, h4, h5, h6⟩ := hR.blk id _ hk
     rw [hm] at h1; cases h1
     have hsz : (a.eval z).cells.size = sz := by rw [hcs, hlen]
     have hmem : ∀ v ∈ (a.eval z).cells.toList, v.oneCell' = true := by
      intro v hv;obtain ⟨j, hj, rfl⟩ := List.getElem_of_mem hv
      have hj' : j < (a.eval z).cells.size := by simpa using hj
      have := (hcv j (by omega)).1
      simpa [Array.getD, hj'] using this
     have hst := run_storeCells_at P b off T (a.eval z).cells.toList 0 c w h3 (by simp; omega) hmem
     have hset := hR.setNamed (cs' := K9 cs off zV.cells) (c' := (c.toList.take (off + 0) ++ (a.eval z).cells.toList ++ c.toList.drop (off + 0 + (a.eval z).cells.toList.length)).toArray)
      hk hm h3 (by simp; omega) (T4 (by omega)) (fun j hj => by
       rw [T4 (by omega)] at hj
       rw [Dx (by omega)]
       have hc : ((c.toList.take (off + 0) ++ (a.eval z).cells.toList ++ c.toList.drop (off + 0 + (a.eval z).cells.toList.length)).toArray).getD j undef =
        if off ≤ j ∧ j < off + zV.cells.length then (a.eval z).cells.getD (j - off) undef else c.getD j undef := by
        have hlt : j < c.size := by omega
        simp only [Nat.add_zero, Array.getD_eq_getD_getElem?, List.getElem?_toArray, List.append_assoc];rw [List.getElem?_append, List.getElem?_append];simp only [List.length_take, Array.length_toList, Nat.min_eq_left (show off ≤ c.size by omega), List.getElem?_take, List.getElem?_drop, Array.getElem?_toList]
        by_cases q1 : j < off
        ·rw [if_pos q1, if_pos q1, if_neg (by omega)]
        rw [if_neg q1]
        by_cases q2 : j < off + zV.cells.length
        ·rw [if_pos (by omega), if_pos ⟨by omega, q2⟩]
        rw [if_neg (by omega), if_neg (by omega), show off + (a.eval z).cells.size + (j - off - (a.eval z).cells.size) = j by omega]
       rw [hc]
       split
       ·next hq => exact hcv (j - off) (by omega)
       exact h5 j hj)
     unfold execOp; rw [ho];simp only [hav, Instr.storeAt, Instr.sureAddr, storeVar, Sem.run_bind, Sem.run_pure, Result.andThen_ok, H7 hs w, hsz, ne_eq, not_true_eq_false, if_false, hst, D7];exact ⟨g, .bad, _, hset.1, hset.2, .bad _, h⟩
    cases hl
   cases hl
 cases hl
end
end Go.Ab
namespace Go.Ab
open Go.RowKit
variable [G5]
def Sm (v : V) (n : Nat) : Option V :=
 match v with
 | .eref cs off => some (.eref cs (off + n))
 | .ref id off => some (.ref id (off + n))
 | .elem id i sz off => some (.elem id i sz (off + n))
 | _ => none
def Dc (P : Program) (t : TypeId) (v : V) (f : Nat) : Option V :=
 match WI P t f with
 | some (off, _) => Sm v off
 | none => none
def Kg (P : Program) (t : TypeId) (v : V) (f : Nat) : Option V :=
 match WI P t f, v with
 | some (off, ft), .agg cs =>
  match MX P ft, Bw P ft with
  | some ag, some sz => Cv ag sz cs off
  | _, _ => none
 | _, _ => none
def AM (P : Program) (t : TypeId) (v : V) (i : Int) : Option V :=
 match BT P t, Wf P t, v with
 | some e, _, .sl xs _ => if (0 ≤ i ∧ i < xs.length) ∧ Bw P e = some (xs.getD i.toNat .bad).cells.length then some (.eref (xs.getD i.toNat .bad).cells 0) else none
 | none, some (n, e), v => if 0 ≤ i ∧ i < n then (Bw P e).bind fun sz => Sm v (i.toNat * sz) else none
 | _, _, _ => none
def HW (P : Program) (t : TypeId) (v : V) (i : Int) : Option V :=
 match Wf P t, v with
 | some (n, e), .agg cs =>
  if 0 ≤ i ∧ i < n then
   match MX P e, Bw P e with
   | some ag, some sz => Cv ag sz cs (i.toNat * sz)
   | _, _ => none
  else none
 | none, .str s => if LZ P t = true ∧ 0 ≤ i then (s[i.toNat]?).map fun b => .int .u8 b.toNat else none
 | _, _ => none
section
variable {P : Program} {o : Oper} {fr : Fr} {H : A0} {K : V → A0 → Prop}
theorem OL {g : Gh} {w : World} {v : Value} {x y : V} {n : Nat} (h : VR g w v x) (hy : Sm x n = some y) :
 ∃ b q, v = .pointer (some ⟨b, q, none⟩) ∧ VR g w (.pointer (some ⟨b, q + n, none⟩)) y := by
 unfold Sm at hy
 split at hy
 ·cases hy
  cases h with
  | eref vs hf hw h1 hv => exact ⟨_, _, rfl, by rw [Nat.add_assoc]; exact .eref vs hf hw h1 hv⟩
 ·cases hy
  cases h with
  | ref hm => exact ⟨_, _, rfl, .ref hm⟩
 ·cases hy
  cases h with
  | elem hm hs => exact ⟨_, _, rfl, by rw [Nat.add_assoc]; exact .elem hm hs⟩
 cases hy
theorem KL {t : TypeId} {y : Operand} {f : Nat} {x : V} (ho : o.op = .fieldAddr t y f) (hl : Dc P t (ev fr y) f = some x) (h : K x H) : E4 P o fr H K := by
 intro g w a hR hE;have hv := C4 hR hE y
 unfold Dc at hl
 split at hl
 ·next off ft hfd =>
  obtain ⟨b, q, hav, hr⟩ := OL hv hl
  unfold WI at hfd
  split at hfd
  ·next fs hu =>
   split at hfd
   ·next x' hx =>
    split at hfd
    ·cases hfd
    next hne =>
    cases hfd
    cases hs : Bw P x'.type with
    | none => simp [hs] at hne
    | some sz =>
     have hne' : sz ≠ 0 := by simpa [hs] using hne
     unfold execOp; rw [ho];simp only [hav, Instr.fieldAt, Instr.sureAddr, fieldPlace, Sem.run_bind, Sem.run_pure, Result.andThen_ok, run_underlying hu, hx, H7 hs, hne', if_false, D7, O7];exact G8.here hR hr h
   cases hfd
  cases hfd
 cases hl
theorem NI {g : Gh} {w : World} {vs : Array Value} {cs : List V} {x : V} {t : TypeId} {ag : Bool} {sz off : Nat} (hv : VR g w (.agg vs) (.agg cs)) (ha : MX P t = some ag) (hs : Bw P t = some sz)
 (hp : Cv ag sz cs off = some x) : ∃ v, (part t vs off).run P w = .ok v w ∧ VR g w v x := by
 cases hv with
 | agg hl h1 hv =>
  unfold part;rw [Sem.run_bind, Fg ha w];simp only [Result.andThen_ok]
  cases ag with
  | true =>
   simp only [Cv, if_true] at hp
   split at hp
   ·next hle =>
    cases hp;refine ⟨.agg (vs.extract off (off + sz)), by simp [Sem.run_bind, H7 hs w], .agg (by simp; omega) (fun i hi => ?_) fun i hi => ?_⟩
    all_goals
     have hi' : i < sz := by simp at hi; omega
     have e1 : (vs.extract off (off + sz)).getD i undef = vs.getD (off + i) undef := by
      simp only [Array.getD_eq_getD_getElem?, Array.getElem?_extract];rw [if_pos (by omega)]
     have e2 : ((cs.drop off).take sz).getD i .bad = cs.getD (off + i) .bad := by
      simp [List.getD, List.getElem?_take, List.getElem?_drop, hi']
    ·rw [e1]; exact h1 _ (by omega)
    rw [e1, e2]; exact hv _ (by omega)
   cases hp
  | false =>
   simp only [Cv, Bool.false_eq_true, if_false] at hp
   have hlt : off < cs.length := by
    rcases Nat.lt_or_ge off cs.length with h | h
    ·exact h
    simp [List.getElem?_eq_none h] at hp
   have hlt' : off < vs.size := by omega
   refine ⟨vs.getD off undef, by simp [Array.getD, hlt'], ?_⟩;have e := hv off hlt
   have : cs.getD off .bad = x := by simp [List.getD, hp]
   rw [this] at e; exact e
theorem Ro {t : TypeId} {y : Operand} {f : Nat} {x : V} (ho : o.op = .field t y f) (hl : Kg P t (ev fr y) f = some x) (h : K x H) : E4 P o fr H K := by
 intro g w a hR hE;have hv := C4 hR hE y
 unfold Kg at hl
 split at hl
 ·next off ft cs hfd he =>
  split at hl
  ·next ag sz ha hs =>
   rw [he] at hv
   generalize hav : a.eval y = v at hv
   cases hv with
   | agg hl' h1 hvv =>
    rename_i vs;obtain ⟨u, hu, hr⟩ := NI (P := P) (VR.agg hl' h1 hvv) ha hs hl
    unfold WI at hfd
    split at hfd
    ·next fs hun =>
     split at hfd
     ·next x' hx =>
      split at hfd
      ·cases hfd
      cases hfd;unfold execOp; rw [ho];simp only [hav, Instr.field, asAgg, Sem.run_bind, Sem.run_pure, Result.andThen_ok, run_underlying hun, hx, hu, D7];exact G8.here hR hr h
     cases hfd
    cases hfd
  cases hl
 cases hl
theorem H8 {t e : TypeId} (h : BT P t = some e) : P.underlying t = some (.slice e) := by
 unfold BT at h
 split at h
 ·next hu => cases h; exact hu
 cases h
theorem HA {t e : TypeId} {n : Nat} (h : Wf P t = some (n, e)) : P.underlying t = some (.array n e) := by
 unfold Wf at h
 split at h
 ·next hu => cases h; exact hu
 cases h
theorem KK {t : TypeId} {y z : Operand} {k : IntKind} {i : Int} {x : V} (ho : o.op = .indexAddr t y z) (hz : ev fr z = .int k i) (hl : AM P t (ev fr y) i = some x) (h : K x H) :
 E4 P o fr H K := by
 intro g w a hR hE;have hv := C4 hR hE y;have hi := C4 hR hE z
 rw [hz] at hi
 have hi := hi.int_inv
 unfold AM at hl
 split at hl
 ·next e _ xs tl hse he =>
  have hu := H8 hse
  split at hl
  ·next hc =>
   obtain ⟨⟨h0, h1⟩, hs⟩ := hc;cases hl
   rw [he] at hv
   generalize hav : a.eval y = v at hv
   cases hv with
   | sl0 ht => simp at h1; omega
   | sle ht => simp at h1; omega
   | sl vs hn hc hzz hf hw h1' hvv ht =>
    rename_i b q sz n cap
    have hlt : i.toNat < n := by omega
    have hsz : sz = (xs.getD i.toNat .bad).cells.length := (hzz _ hlt).symm;unfold execOp; rw [ho]
    have h1'' : i < (n : Int) := by omega
    simp only [hav, hi, Instr.indexAt, asIntOf, Sem.run_bind, Sem.run_pure, Result.andThen_ok, run_underlying hu, h0, h1'', and_self, if_true, H7 hs, D7, O7];refine G8.here hR ?_ h;rw [← hsz];refine VR.eref (o := q + i.toNat * sz) (off := 0) (vs i.toNat) (fun j hj => hf _ j hlt (by omega)) (fun j hj => hw _ j hlt (by omega)) (fun j hj => h1' _ j hlt (by omega)) fun j hj => hvv _ j hlt (by omega)
  cases hl
 ·rename_i n e hse hae;have hu := HA hae
  split at hl
  ·next hc =>
   cases hs : Bw P e with
   | none => simp [hs] at hl
   | some sz =>
    simp only [hs, Option.bind_some] at hl
    obtain ⟨b, q, hav, hr⟩ := OL hv hl;unfold execOp; rw [ho];simp only [hav, hi, Instr.indexAt, Instr.sureAddr, asIntOf, Sem.run_bind, Sem.run_pure, Result.andThen_ok, run_underlying hu, hc.1, hc.2, and_self, if_true, H7 hs, D7, O7];exact G8.here hR hr h
  cases hl
 cases hl
theorem Rn {t : TypeId} {y z : Operand} {k : IntKind} {i : Int} {x : V} (ho : o.op = .index t y z) (hz : ev fr z = .int k i) (hl : HW P t (ev fr y) i = some x) (h : K x H) :
 E4 P o fr H K := by
 intro g w a hR hE;have hv := C4 hR hE y;have hi := C4 hR hE z
 rw [hz] at hi
 have hi := hi.int_inv
 unfold HW at hl
 split at hl
 ·next n e cs hae he =>
  have hu := HA hae
  split at hl
  ·next hc =>
   split at hl
   ·next ag sz ha hs =>
    rw [he] at hv
    generalize hav : a.eval y = v at hv
    cases hv with
    | agg hl' h1 hvv =>
     obtain ⟨u, hu', hr⟩ := NI (P := P) (VR.agg hl' h1 hvv) ha hs hl;unfold execOp; rw [ho];simp only [hav, hi, Instr.index, asIntOf, Sem.run_bind, Sem.run_pure, Result.andThen_ok, run_underlying hu, hc.1, hc.2, and_self, if_true, H7 hs, hu', D7];exact G8.here hR hr h
   cases hl
  cases hl
 ·next s hae he =>
  split at hl
  ·next hc =>
   rw [he] at hv
   have hav := hv.str_inv
   cases hb : s[i.toNat]? with
   | none => simp [hb] at hl
   | some c =>
    simp only [hb, Option.map_some, Option.some.injEq] at hl
    subst hl
    have hu : P.underlying t = some .string := by
     have := hc.1
     unfold LZ at this
     split at this
     ·assumption
     cases this
    unfold execOp; rw [ho];simp only [hav, hi, Instr.index, asIntOf, Sem.run_bind, Sem.run_pure, Result.andThen_ok, run_underlying hu, hc.2, if_true, hb, D7];exact G8.here hR (.int _ _) h
  cases hl
 cases hl
theorem Nu {y : Operand} {n : Nat} {cs : List V} {x : V} (ho : o.op = .extract y n) (he : ev fr y = .tup cs) (hl : cs[n]? = some x) (h : K x H) : E4 P o fr H K := by
 intro g w a hR hE;have hv := C4 hR hE y
 rw [he] at hv
 generalize hav : a.eval y = v at hv
 cases hv with
 | tup hs hvv =>
  rename_i vs
  have hlt : n < cs.length := by
   rcases Nat.lt_or_ge n cs.length with h | h
   ·exact h
   simp [List.getElem?_eq_none h] at hl
  have hlt' : n < vs.size := by omega
  unfold execOp; rw [ho];simp only [hav, Instr.extract, Array.getElem?_eq_getElem hlt', Sem.run_bind, Sem.run_pure, Result.andThen_ok, D7];have e := hvv n hlt
  have e1 : vs.getD n undef = vs[n] := by simp [Array.getD, hlt']
  have e2 : cs.getD n .bad = x := by simp [List.getD, hl]
  rw [e1, e2] at e
  exact G8.here hR e h
theorem DA {g : Gh} {w : World} (hR : Rl g H w) {v : Value} {x : V} (T : TypeId) (hv : VR g w v x) (h1 : x.one = true) :
 ∃ g' id, H id = none ∧ M4 g w g' (w.alloc (.cells v.cells T)) ∧ Rl g' (upd H id (some (.cells x.cells))) (w.alloc (.cells v.cells T)) ∧
  VR g' (w.alloc (.cells v.cells T)) (.pointer (some ⟨w.heap.size, 0, none⟩)) (.ref id 0) := by
 have s := M4.new hR (.cells v.cells T) False 0;obtain ⟨hc1, hc2⟩ := hv.cells h1;refine ⟨g.new w False 0, g.nx, (hR.nxt _ (Nat.le_refl _)).2.2, s, hR.newNamed _ _ (by simp) ?_, .ref (by simp [Gh.new])⟩;refine ⟨w.heap.size, v.cells, T, by simp [Gh.new], hR.bnd, X2, hc1, fun j hj => ⟨(hc2 j hj).1, (hc2 j hj).2.mono s⟩, fun o ho => ?_⟩
 rcases ho with ho | ⟨hF, _⟩
 ·exact absurd (hR.fz_lt ho) (Nat.lt_irrefl _)
 exact hF
theorem MW {g : Gh} {w : World} (hR : Rl g H w) {v : Value} {x : V} (T : TypeId) (hv : VR g w v x) (h1 : x.one = true) :
 ∃ g', M4 g w g' (w.alloc (.cells v.cells T)) ∧ Rl g' H (w.alloc (.cells v.cells T)) ∧
  VR g' (w.alloc (.cells v.cells T)) (.pointer (some ⟨w.heap.size, 0, none⟩)) (.eref x.cells 0) := by
 have s := M4.new hR (.cells v.cells T) True v.cells.size;obtain ⟨hc1, hc2⟩ := hv.cells h1;refine ⟨g.new w True v.cells.size, s, hR.newFrozen v.cells T v.cells.size (Nat.le_refl _), ?_⟩
 have := VR.eref (g := g.new w True v.cells.size) (w := w.alloc (.cells v.cells T)) (b := w.heap.size) (o := 0) (off := 0) (cs := x.cells) (fun j => v.cells.getD j undef)
  (fun j hj => .inr ⟨trivial, rfl, by omega⟩) (fun j hj => by rw [FK]; simp only [Nat.zero_add]; simp [Array.getD, show j < v.cells.size by omega])
  (fun j hj => (hc2 j hj).1) (fun j hj => (hc2 j hj).2.mono s)
 simpa using this
theorem Ff {t : TypeId} {y : Operand} (ho : o.op = .box t y) (h1 : (ev fr y).one = true) (h : K (.eref (ev fr y).cells 0) H) : E4 P o fr H K := by
 intro g w a hR hE;obtain ⟨g', s, hR', hv'⟩ := MW hR t (C4 hR hE y) h1;unfold execOp; rw [ho];exact ⟨g', _, _, s, hR', hv', h⟩
theorem KM {t : TypeId} {y : Operand} (ho : o.op = .box t y) (h1 : (ev fr y).one = true) (h : ∀ id, H id = none → K (.ref id 0) (upd H id (some (.cells (ev fr y).cells)))) : E4 P o fr H K := by
 intro g w a hR hE;obtain ⟨g', id, hid, s, hR', hv'⟩ := DA hR t (C4 hR hE y) h1;unfold execOp; rw [ho];exact ⟨g', _, _, s, hR', hv', h id hid⟩
theorem Az {t : TypeId} {z : V} (h : Er P t = some z) : ∃ v, z = cv v ∧ ∀ w, (zeroValue t).run P w = .ok v w := by
 unfold Er at h
 cases hi : P.info? t with
 | none => simp [hi] at h
 | some i =>
  cases hz : i.zero with
  | none => simp [hi, hz] at h
  | some v =>
   simp [hi, hz] at h
   exact ⟨v, h.symm, fun w => by simp [zeroValue, typeInfo, hi, hz]⟩
theorem Rt {t : TypeId} {z : V} (ho : o.op = .alloc t) (hz : Er P t = some z) (h1 : z.one = true) (h : ∀ id, H id = none → K (.ref id 0) (upd H id (some (.cells z.cells)))) : E4 P o fr H K := by
 intro g w a hR hE;obtain ⟨v, e, hv⟩ := Az hz
 have hr : VR g w v z := by rw [e]; exact Bq g w v
 obtain ⟨g', id, hid, s, hR', hv'⟩ := DA hR t hr h1;unfold execOp; rw [ho];simp only [Instr.alloc, Sem.run_bind, hv, Result.andThen_ok, D7];exact ⟨g', _, _, s, hR', hv', h id hid⟩
end
end Go.Ab
namespace Go.Ab
open Go.RowKit
variable [G5]
def FF (place : Nat → Option (Nat × Nat)) (cs : List V) : List (Nat × V) → Option (List V)
 | [] => some cs
 | (i, v) :: rest =>
  match place i with
  | none => none
  | some (off, size) => if v.one = true ∧ v.cells.length = size ∧ off + size ≤ cs.length then FF place (K9 cs off v.cells) rest else none
def He (P : Program) (t : TypeId) : Option (List (Nat × Nat)) :=
 match P.underlying t with
 | some (.struct fields) => fields.toList.mapM (fun f => (P.info? f.type).map fun i => (f.offset, i.size))
 | _ => none
def Ig (P : Program) (t : TypeId) (parts : List (Nat × V)) : Option V :=
 match Wf P t, He P t, Er P t with
 | some (_, e), _, some (.agg cs) =>
  match Bw P e with
  | some sz => (FF (fun i => some (i * sz, sz)) cs parts).map .agg
  | none => none
 | none, some pl, some (.agg cs) => (FF (pl[·]?) cs parts).map .agg
 | _, _, _ => none
def Y8 (sz : Nat) : Nat → List (Nat × V) → Bool
 | _, [] => true
 | k, (i, v) :: rest => i == k && v.one && v.cells.length == sz && Y8 sz (k + 1) rest
def S8 (P : Program) (t : TypeId) (n : Nat) (parts : List (Nat × V)) : Option V :=
 match BT P t with
 | some e =>
  match Bw P e, Er P e with
  | some sz, some _ => if n * sz ≤ 16777216 ∧ parts.length = n ∧ Y8 sz 0 parts = true then some (.sl (parts.map (fun q => q.2)) .full) else none
  | _, _ => none
 | none => none
section
variable {P : Program} {o : Oper} {fr : Fr} {H : A0} {K : V → A0 → Prop}
theorem ID (off : Nat) : ∀ (l : List Value) (k : Nat) (c : Array Value), off + k + l.length ≤ c.size →
 let R := (l.zipIdx k).foldl (fun cs (x : Value × Nat) => cs.setIfInBounds (off + x.2) x.1) c
 R.size = c.size ∧ ∀ j, R.getD j undef = if off + k ≤ j ∧ j < off + k + l.length then l.getD (j - (off + k)) undef else c.getD j undef
 | [], k, c, _ => ⟨rfl, fun j => by rw [if_neg (by simp only [List.length_nil]; omega)]; rfl⟩
 | v :: l, k, c, h => by
  have hl : off + (k + 1) + l.length ≤ (c.setIfInBounds (off + k) v).size := by simp at h ⊢; omega
  have ih := ID off l (k + 1) (c.setIfInBounds (off + k) v) hl
  simp only [List.zipIdx_cons, List.foldl_cons] at ih ⊢
  refine ⟨ih.1.trans (by simp), fun j => ?_⟩;rw [ih.2 j];simp only [List.length_cons]
  by_cases h1 : off + (k + 1) ≤ j ∧ j < off + (k + 1) + l.length
  ·rw [if_pos h1, if_pos (by omega), show j - (off + k) = (j - (off + (k + 1))) + 1 by omega];rfl
  rw [if_neg h1]
  by_cases h2 : j = off + k
  ·subst h2;rw [if_pos (by omega)]
   simp at h
   simp [Array.getD, show off + k < c.size by omega]
  rw [if_neg (by omega)];simp only [Array.getD_eq_getD_getElem?, Array.getElem?_setIfInBounds];rw [if_neg (by omega)]
theorem Ho (off : Nat) (v : Value) (c : Array Value) (h : off + v.cells.size ≤ c.size) :
 let R := v.cells.zipIdx.foldl (fun cs (x : Value × Nat) => cs.setIfInBounds (off + x.2) x.1) c
 R.size = c.size ∧ ∀ j, R.getD j undef = if off ≤ j ∧ j < off + v.cells.size then v.cells.getD (j - off) undef else c.getD j undef := by
 have := ID off v.cells.toList 0 c (by simpa using h)
 simp only [Nat.add_zero, Array.length_toList] at this
 have e : v.cells.zipIdx.foldl (fun cs (x : Value × Nat) => cs.setIfInBounds (off + x.2) x.1) c =
  (v.cells.toList.zipIdx 0).foldl (fun cs (x : Value × Nat) => cs.setIfInBounds (off + x.2) x.1) c := by
  rw [← Array.foldl_toList]; simp
 simp only [e];refine ⟨this.1, fun j => ?_⟩;rw [this.2 j]
 split
 ·simp [List.getD, Array.getD_eq_getD_getElem?]
 rfl
def KB (g : Gh) (w : World) (c : Array Value) (cs : List V) : Prop :=
 c.size = cs.length ∧ ∀ j, j < cs.length → (c.getD j undef).oneCell' = true ∧ VR g w (c.getD j undef) (cs.getD j .bad)
theorem VR.row {g : Gh} {w : World} {v : Value} {cs : List V} (h : VR g w v (.agg cs)) : ∃ c, v = .agg c ∧ KB g w c cs := by
 cases h with
 | agg hl h1 hv => exact ⟨_, rfl, hl, fun j hj => ⟨h1 j hj, hv j hj⟩⟩
theorem KB.agg {g : Gh} {w : World} {c : Array Value} {cs : List V} (h : KB g w c cs) : VR g w (.agg c) (.agg cs) :=
 .agg h.1 (fun j hj => (h.2 j hj).1) fun j hj => (h.2 j hj).2
inductive Ih (g : Gh) (w : World) : List (Nat × Value) → List (Nat × V) → Prop
 | nil : Ih g w [] []
 | cons {i : Nat} {v : Value} {x : V} {l : List (Nat × Value)} {m : List (Nat × V)} (h : VR g w v x) (r : Ih g w l m) : Ih g w ((i, v) :: l) ((i, x) :: m)
theorem PA {g : Gh} {w : World} {H : A0} {a : Act} (hR : Rl g H w) (hE : ER g w a fr) : ∀ l : List (Nat × Operand), Ih g w (l.map fun x => (x.1, a.eval x.2)) (l.map fun x => (x.1, ev fr x.2))
 | [] => .nil
 | x :: l => .cons (C4 hR hE x.2) (PA hR hE l)
theorem Ok {g : Gh} {w : World} {place : Nat → Option (Nat × Nat)} {l : List (Nat × Value)} {m : List (Nat × V)} (hp : Ih g w l m) : ∀ {c : Array Value} {cs ds : List V}, KB g w c cs → FF place cs m = some ds →
 ∃ d, Instr.fill place c l = some d ∧ KB g w d ds := by
 induction hp with
 | nil => intro c cs ds hr h; simp only [FF, Option.some.injEq] at h; subst h; exact ⟨c, rfl, hr⟩
 | @cons i v x l m hv _ ih =>
  intro c cs ds hr h
  simp only [FF] at h
  cases hpl : place i with
  | none => simp [hpl] at h
  | some p =>
   obtain ⟨off, size⟩ := p
   simp only [hpl] at h
   split at h
   ·next hc =>
    obtain ⟨h1, h2, h3⟩ := hc;obtain ⟨k1, k2⟩ := hv.cells h1;have hf := Ho off v c (by rw [k1, hr.1]; omega)
    have hrow : KB g w (v.cells.zipIdx.foldl (fun cs (x : Value × Nat) => cs.setIfInBounds (off + x.2) x.1) c) (K9 cs off x.cells) := by
     refine ⟨by rw [hf.1, T4 (by omega), hr.1], fun j hj => ?_⟩
     rw [T4 (by omega)] at hj
     rw [hf.2 j, Dx (by omega), k1]
     split
     ·next hq => exact k2 _ (by omega)
     exact hr.2 j hj
    obtain ⟨d, hd, hdr⟩ := ih hrow h;refine ⟨d, ?_, hdr⟩;simp only [Instr.fill, hpl];rw [if_neg]
    ·exact hd
    simp only [k1, h2, hr.1, ne_eq, not_true_eq_false, decide_false, Bool.false_or, decide_eq_true_eq]; omega
   cases h
theorem Nc {t : TypeId} {z : V} (h : Er P t = some z) : ∃ i v, P.info? t = some i ∧ i.zero = some v ∧ z = cv v := by
 unfold Er at h
 cases hi : P.info? t with
 | none => simp [hi] at h
 | some i =>
  cases hz : i.zero with
  | none => simp [hi, hz] at h
  | some v => simp [hi, hz] at h; exact ⟨i, v, rfl, hz, h.symm⟩
theorem Rr {t : TypeId} {parts : Array (Nat × Operand)} {x : V} (ho : o.op = .build t parts) (hl : Ig P t (parts.toList.map fun (p : Nat × Operand) => (p.1, ev fr p.2)) = some x) (h : K x H) : E4 P o fr H K := by
 intro g w a hR hE;have hp := PA hR hE parts.toList
 have hpe : (parts.map fun (x : Nat × Operand) => (x.1, a.eval x.2)).toList = parts.toList.map fun x => (x.1, a.eval x.2) := by simp
 have key : ∃ d cs, P.built t (parts.toList.map fun x => (x.1, a.eval x.2)) = some d ∧ x = .agg cs ∧ KB g w d cs := by
  unfold Ig at hl
  split at hl
  ·rename_i e cs hae hze;have hu := HA hae
   split at hl
   ·next sz hs =>
    obtain ⟨i, v, hi, hz, hv⟩ := Nc hze
    have hrow : VR g w v (.agg cs) := by rw [hv]; exact Bq g w v
    obtain ⟨c, rfl, hrow'⟩ := hrow.row
    unfold Bw at hs
    cases hie : P.info? e with
    | none => simp [hie] at hs
    | some ie =>
     simp [hie] at hs
     cases hff : FF (fun i => some (i * sz, sz)) cs (parts.toList.map fun (p : Nat × Operand) => (p.1, ev fr p.2)) with
     | none => simp [hff] at hl
     | some ds =>
      simp only [hff, Option.map_some, Option.some.injEq] at hl
      obtain ⟨d, hd, hdr⟩ := Ok hp hrow' hff;exact ⟨d, ds, by simp [Program.built, hi, hu, hz, hie, hs, Value.cells, hd], hl.symm, hdr⟩
   cases hl
  ·next pl cs hae hpl hze =>
   unfold He at hpl
   split at hpl
   ·next fields hu =>
    obtain ⟨i, v, hi, hz, hv⟩ := Nc hze
    have hrow : VR g w v (.agg cs) := by rw [hv]; exact Bq g w v
    obtain ⟨c, rfl, hrow'⟩ := hrow.row
    cases hff : FF (pl[·]?) cs (parts.toList.map fun (p : Nat × Operand) => (p.1, ev fr p.2)) with
    | none => simp [hff] at hl
    | some ds =>
     simp only [hff, Option.map_some, Option.some.injEq] at hl
     obtain ⟨d, hd, hdr⟩ := Ok hp hrow' hff
     have hplace : (fun i : Nat => (pl.toArray)[i]?) = (fun i : Nat => pl[i]?) := by funext i; simp
     exact ⟨d, ds, by simp only [Program.built, hi, hu, hz, hpl, Value.cells, hplace, hd], hl.symm, hdr⟩
   cases hpl
  cases hl
 obtain ⟨d, cs, hb, rfl, hrow⟩ := key;unfold execOp; rw [ho];have := run_build (P := P) w t (parts.map fun (x : Nat × Operand) => (x.1, a.eval x.2)) d (by rw [hpe]; exact hb);simp only [Sem.run_bind, this, Result.andThen_ok, Sem.run_pure, D7];exact G8.here hR hrow.agg h
theorem TQ {g : Gh} {w : World} {sz : Nat} {l : List (Nat × Value)} {m : List (Nat × V)} (hp : Ih g w l m) : ∀ {c : Array Value} {k : Nat}, (k + m.length) * sz ≤ c.size → Y8 sz k m = true →
 ∃ d, Instr.fill (fun i => some (i * sz, sz)) c l = some d ∧ d.size = c.size ∧ (∀ j, j < k * sz → d.getD j undef = c.getD j undef) ∧
  ∀ i j, i < m.length → j < sz → ((m.getD i (0, .bad)).2.cells.length = sz) ∧ (d.getD ((k + i) * sz + j) undef).oneCell' = true ∧ VR g w (d.getD ((k + i) * sz + j) undef) ((m.getD i (0, .bad)).2.cells.getD j .bad) := by
 induction hp with
 | nil => intro c k hc _; exact ⟨c, rfl, rfl, fun _ _ => rfl, fun i j hi => by simp at hi⟩
 | @cons i v x l m hv _ ih =>
  intro c k hc hs
  simp only [Y8, Bool.and_eq_true, beq_iff_eq] at hs
  obtain ⟨⟨⟨rfl, h1⟩, h2⟩, h3⟩ := hs;obtain ⟨k1, k2⟩ := hv.cells h1
  have hmul : (i + (m.length + 1)) * sz = i * sz + sz + m.length * sz := by rw [Nat.add_mul, Nat.add_mul]; omega
  have hmul2 : (i + 1 + m.length) * sz = i * sz + sz + m.length * sz := by rw [Nat.add_mul, Nat.add_mul]; omega
  simp only [List.length_cons] at hc
  rw [hmul] at hc
  have hf := Ho (i * sz) v c (by rw [k1, h2]; omega);obtain ⟨d, hd, hdz, hdl, hdv⟩ := ih (c := v.cells.zipIdx.foldl (fun cs (x : Value × Nat) => cs.setIfInBounds (i * sz + x.2) x.1) c) (k := i + 1) (by rw [hf.1, hmul2]; omega) h3;refine ⟨d, ?_, hdz.trans hf.1, fun j hj => ?_, fun i' j hi' hj => ?_⟩
  ·simp only [Instr.fill];rw [if_neg]
   ·exact hd
   simp only [k1, h2, ne_eq, not_true_eq_false, decide_false, Bool.false_or, decide_eq_true_eq]; omega
  ·rw [hdl j (by rw [Nat.add_mul]; omega), hf.2 j, if_neg (by omega)]
  cases i' with
  | zero =>
   simp only [List.getD_cons_zero, Nat.add_zero];rw [hdl _ (by rw [Nat.add_mul]; omega), hf.2, if_pos (by rw [k1, h2]; omega), show i * sz + j - i * sz = j by omega];exact ⟨h2, k2 j (by omega)⟩
  | succ i' =>
   simp only [List.getD_cons_succ];rw [show i + (i' + 1) = i + 1 + i' by omega];exact hdv i' j (by simp at hi'; omega) hj
theorem Fh {g : Gh} {w : World} {a : Act} (hR : Rl g H w) (hE : ER g w a fr) {t : TypeId} {n : Nat} {parts : Array (Nat × Operand)} {x : V} (hl : S8 P t n (parts.toList.map fun (p : Nat × Operand) => (p.1, ev fr p.2)) = some x) :
 ∃ e sz z, BT P t = some e ∧ Bw P e = some sz ∧ Er P e = some z ∧ x = .sl ((parts.toList.map fun (p : Nat × Operand) => (p.1, ev fr p.2)).map fun (q : Nat × V) => q.2) .full ∧ (parts.toList.map fun (p : Nat × Operand) => (p.1, ev fr p.2)).length = n ∧ Y8 sz 0 (parts.toList.map fun (p : Nat × Operand) => (p.1, ev fr p.2)) = true ∧
 ∃ d : Array Value, (Instr.buildSlice t n (parts.map fun (x : Nat × Operand) => (x.1, a.eval x.2))).run P w = .ok (.slice (some ⟨w.heap.size, 0, none⟩) n n) (w.alloc (.cells d e)) ∧ d.size = n * sz ∧
  ∀ i j, i < n → j < sz → (((parts.toList.map fun (p : Nat × Operand) => (p.1, ev fr p.2)).getD i (0, .bad)).2.cells.length = sz) ∧ (d.getD (i * sz + j) undef).oneCell' = true ∧
   VR g w (d.getD (i * sz + j) undef) (((parts.toList.map fun (p : Nat × Operand) => (p.1, ev fr p.2)).getD i (0, .bad)).2.cells.getD j .bad) := by
 have hp := PA hR hE parts.toList
 have hpe : (parts.map fun (x : Nat × Operand) => (x.1, a.eval x.2)).toList = parts.toList.map fun x => (x.1, a.eval x.2) := by simp
 unfold S8 at hl
 split at hl
 ·next e hse =>
  have hu := H8 hse
  split at hl
  ·next sz z hs hze =>
   split at hl
   ·next hc =>
    obtain ⟨hlim, hn, hseq⟩ := hc;cases hl;obtain ⟨v0, _, hv0⟩ := Az hze
    have hfill : ∀ c0 : Array Value, c0.size = n * sz → ∃ d, Instr.fill (fun i => some (i * sz, sz)) c0 (parts.toList.map fun x => (x.1, a.eval x.2)) = some d ∧ d.size = n * sz ∧
     ∀ i j, i < n → j < sz → (((parts.toList.map fun (p : Nat × Operand) => (p.1, ev fr p.2)).getD i (0, .bad)).2.cells.length = sz) ∧ (d.getD (i * sz + j) undef).oneCell' = true ∧
      VR g w (d.getD (i * sz + j) undef) (((parts.toList.map fun (p : Nat × Operand) => (p.1, ev fr p.2)).getD i (0, .bad)).2.cells.getD j .bad) := by
     intro c0 hc0;obtain ⟨d, hd, hdz, _, hdv⟩ := TQ (sz := sz) hp (c := c0) (k := 0) (by rw [hn, Nat.zero_add, hc0]; exact Nat.le_refl _) hseq;exact ⟨d, hd, hdz.trans hc0, fun i j hi hj => by simpa using hdv i j (by rw [hn]; exact hi) hj⟩
    have hrun : ∃ d : Array Value, (Instr.buildSlice t n (parts.map fun (x : Nat × Operand) => (x.1, a.eval x.2))).run P w = .ok (.slice (some ⟨w.heap.size, 0, none⟩) n n) (w.alloc (.cells d e)) ∧ d.size = n * sz ∧
     ∀ i j, i < n → j < sz → (((parts.toList.map fun (p : Nat × Operand) => (p.1, ev fr p.2)).getD i (0, .bad)).2.cells.length = sz) ∧ (d.getD (i * sz + j) undef).oneCell' = true ∧
      VR g w (d.getD (i * sz + j) undef) (((parts.toList.map fun (p : Nat × Operand) => (p.1, ev fr p.2)).getD i (0, .bad)).2.cells.getD j .bad) := by
     by_cases h0 : n * sz = 0
     ·obtain ⟨d, hd, hdz, hdv⟩ := hfill ((Array.range (n * sz)).map ((#[] : Array Value)[· % (#[] : Array Value).size]!)) (by simp);refine ⟨d, ?_, hdz, hdv⟩
      rw [← hpe] at hd
      have h0' : ¬ (n * sz > 2 ^ 24) := by omega
      simp only [Instr.buildSlice, Sem.run_bind, run_underlying hu, Result.andThen_ok, H7 hs, Sem.run_ite, if_neg h0', Sem.run_pure, if_pos h0, hd, newRow, run_newObj];rfl
     obtain ⟨d, hd, hdz, hdv⟩ := hfill ((Array.range (n * sz)).map (v0.cells[· % v0.cells.size]!)) (by simp);refine ⟨d, ?_, hdz, hdv⟩
     rw [← hpe] at hd
     have h0' : ¬ (n * sz > 2 ^ 24) := by omega
     simp only [Instr.buildSlice, Sem.run_bind, run_underlying hu, Result.andThen_ok, H7 hs, Sem.run_ite, if_neg h0', Sem.run_pure, if_neg h0, hv0, hd, newRow, run_newObj];rfl
    exact ⟨e, sz, z, hse, hs, hze, rfl, hn, hseq, hrun⟩
   cases hl
  cases hl
 cases hl
theorem Jo {t : TypeId} {n : Nat} {parts : Array (Nat × Operand)} {x : V} (ho : o.op = .buildSlice t n parts) (hl : S8 P t n (parts.toList.map fun (p : Nat × Operand) => (p.1, ev fr p.2)) = some x) (h : K x H) :
 E4 P o fr H K := by
 intro g w a hR hE;obtain ⟨e, sz, z, hse, hs, hze, rfl, hn, hseq, d, hrun, hdz, hdv⟩ := Fh hR hE hl;have s := M4.new hR (.cells d e) True d.size;unfold execOp; rw [ho];simp only [Sem.run_bind, hrun, Result.andThen_ok, Sem.run_pure, D7]
 have hget : ∀ i, ((parts.toList.map fun (p : Nat × Operand) => (p.1, ev fr p.2)).map (fun (q : Nat × V) => q.2)).getD i .bad = ((parts.toList.map fun (p : Nat × Operand) => (p.1, ev fr p.2)).getD i (0, .bad)).2 := by
  intro i;simp only [List.getD_eq_getElem?_getD, List.getElem?_map];cases parts.toList[i]? <;> rfl
 have hin : ∀ i j, i < n → j < sz → i * sz + j < d.size := by
  intro i j hi hj;have : (i + 1) * sz ≤ n * sz := Nat.mul_le_mul_right _ (by omega)
  rw [Nat.add_mul] at this
  omega
 by_cases hsz : sz = 0
 ·subst hsz
  have hz : ∀ i, i < n → ((((parts.toList.map fun (p : Nat × Operand) => (p.1, ev fr p.2)).map (fun (q : Nat × V) => q.2)).getD i .bad).cells.length = 0) := by
   intro i hi
   have : ∀ (m : List (Nat × V)) (k i : Nat), Y8 0 k m = true → i < m.length → (m.getD i (0, .bad)).2.cells.length = 0 := by
    intro m
    induction m with
    | nil => intro k i _ hi; simp at hi
    | cons y m ih =>
     intro k i hs hi
     simp only [Y8, Bool.and_eq_true, beq_iff_eq] at hs
     cases i with
     | zero => exact hs.1.2
     | succ i => exact ih (k + 1) i hs.2 (by simpa using hi)
   rw [hget]; exact this _ 0 i hseq (by rw [hn]; exact hi)
  exact ⟨_, _, _, s, hR.newFrozen d e d.size (Nat.le_refl _), .sl (sz := 0) (fun _ _ => undef) (by simpa using hn) (Nat.le_refl _) hz (fun i j _ hj => by omega) (fun i j _ hj => by omega) (fun i j _ hj => by omega)
   (fun i j _ hj => by omega) (t := .full) rfl, h⟩
 refine ⟨_, _, _, s, hR.newFrozen d e d.size (Nat.le_refl _), .sl (sz := sz) (fun i j => d.getD (i * sz + j) undef) (by simpa using hn) (Nat.le_refl _) (fun i hi => ?_) (fun i j hi hj => .inr ⟨trivial, rfl, ?_⟩)
  (fun i j hi hj => ?_) (fun i j hi hj => (hdv i j hi hj).2.1) (fun i j hi hj => ?_) (t := .full) rfl, h⟩
 ·rw [hget]; exact (hdv i 0 hi (by omega)).1
 ·have := hin i j hi hj; omega
 ·have := hin i j hi hj;rw [FK]; simp [Array.getD, this]
 rw [hget]; exact (hdv i j hi hj).2.2.mono s
end
end Go.Ab
