/- AbN1 AbN2 AbN3 AbA11 AbA12 AbA13 AbA14 -/
import Derived.Test.YtildiiggamckaaaGreatDoorT02
import Derived.MapKept
import Derived.RangeFuncRecord
import Derived.Laws.BytesString
import Derived.Maps.RangeRun
import Derived.OrdersIn
set_option linter.all false
namespace Go.Ab
open Go.RowKit Go.MapKept
variable [H5]
def Bi : V → Option Value
 | .bool b => some (.bool b)
 | .int k n => some (.int k n)
 | .str s => some (.string s)
 | _ => none
def MP : List V → Option (List Value)
 | [] => some []
 | x :: l => match Bi x, MP l with | some v, some r => some (v :: r) | _, _ => none
def Gj : V → Option Value
 | .agg cs => (MP cs).map fun l => .agg l.toArray
 | v => Bi v
theorem Fm {g : Gh} {w : World} {x : V} {u v : Value} (h : Bi x = some u) (hv : VR g w v x) : v = u := by
 cases x <;> simp only [Bi, Option.some.injEq, reduceCtorEq] at h <;> subst h <;> cases hv <;> rfl
theorem JS {g : Gh} {w : World} {x : V} {u : Value} (h : Bi x = some u) : VR g w u x := by
 cases x <;> simp only [Bi, Option.some.injEq, reduceCtorEq] at h <;> subst h <;> constructor
theorem Tv {x : V} {u : Value} (h : Bi x = some u) : u.oneCell' = true := by
 cases x <;> simp only [Bi, Option.some.injEq, reduceCtorEq] at h <;> subst h <;> rfl
theorem JT {x y : V} {u : Value} (h : Bi x = some u) (h' : Bi y = some u) : x = y := by
 cases x <;> simp only [Bi, Option.some.injEq, reduceCtorEq] at h <;> subst h <;> cases y <;> simp_all [Bi]
theorem JU : ∀ {l : List V} {r : List Value}, MP l = some r → r.length = l.length
 | [], r, h => by simp only [MP, Option.some.injEq] at h; subst h; rfl
 | x :: l, r, h => by
  unfold MP at h
  split at h
  ·rename_i v r' h1 h2; cases h; simp [JU h2]
  cases h
theorem Jm : ∀ {l : List V} {r : List Value}, MP l = some r → ∀ i, i < l.length → Bi (l.getD i .bad) = some (r.getD i undef)
 | [], r, h, i, hi => by simp at hi
 | x :: l, r, h, i, hi => by
  unfold MP at h
  split at h
  ·rename_i v r' h1 h2;cases h
   cases i with
   | zero => simpa using h1
   | succ i => simpa using Jm h2 i (by simpa using hi)
  cases h
theorem Og {g : Gh} {w : World} {x : V} {u : Value} (h : Gj x = some u) : VR g w u x := by
 unfold Gj at h
 split at h
 ·rename_i cs
  cases hr : MP cs with
  | none => rw [hr] at h; cases h
  | some r =>
   rw [hr] at h
   simp only [Option.map_some, Option.some.injEq] at h
   subst h;have e := JU hr;refine .agg (by simp [e]) (fun i hi => ?_) fun i hi => ?_
   ·have := Tv (Jm hr i hi); simpa [Array.getD_eq_getD_getElem?, List.getD_eq_getElem?_getD] using this
   have := JS (g := g) (w := w) (Jm hr i hi); simpa [Array.getD_eq_getD_getElem?, List.getD_eq_getElem?_getD] using this
 exact JS h
theorem Tu {g : Gh} {w : World} {x : V} {u v : Value} (h : Gj x = some u) (hv : VR g w v x) : v = u := by
 unfold Gj at h
 split at h
 ·rename_i cs
  cases hr : MP cs with
  | none => rw [hr] at h; cases h
  | some r =>
   rw [hr] at h
   simp only [Option.map_some, Option.some.injEq] at h
   subst h;have e := JU hr
   cases hv with
   | agg hl h1 hv =>
    rename_i vs
    congr 1
    apply Array.ext
    ·simp [hl, e]
    intro i hi hi'
    have hi2 : i < cs.length := by omega
    have := Fm (Jm hr i hi2) (hv i hi2)
    simpa [Array.getD, hi, List.getD_eq_getElem?_getD, show i < r.length by omega] using this
 exact Fm h hv
def GY (es : Array MapEntry) (clock : Nat) : Prop := (∀ x ∈ es.toList, x.born < clock) ∧ (es.toList.map (·.born)).Nodup
theorem GY.empty : GY #[] 0 := ⟨fun x h => by simp at h, by simp⟩
theorem GY.push {es : Array MapEntry} {clock : Nat} (h : GY es clock) (k v : Value) : GY (es.push { key := k, val := v, born := clock }) (clock + 1) := by
 refine ⟨fun x hx => ?_, ?_⟩
 ·simp only [Array.toList_push, List.mem_append, List.mem_singleton] at hx
  rcases hx with hx | rfl
  ·exact Nat.lt_succ_of_lt (h.1 x hx)
  exact Nat.lt_succ_self _
 simp only [Array.toList_push, List.map_append, List.map_cons, List.map_nil];refine List.nodup_append.2 ⟨h.2, by simp, fun x hx z hz => ?_⟩
 simp at hz; subst hz
 obtain ⟨e, he, rfl⟩ := List.mem_map.1 hx;have := h.1 e he;omega
theorem GY.modify {es : Array MapEntry} {clock : Nat} (h : GY es clock) (i : Nat) (k v : Value) : GY (es.modify i fun e => { e with key := k, val := v }) clock := by
 have hb : (es.modify i fun e => { e with key := k, val := v }).toList.map (·.born) = es.toList.map (·.born) := by
  apply List.ext_getElem?;intro j;simp only [List.getElem?_map, Array.getElem?_toList, Array.getElem?_modify]
  by_cases hij : i = j
  ·subst hij; cases es[i]? <;> simp
  rw [if_neg hij]
 refine ⟨fun x hx => ?_, by rw [hb]; exact h.2⟩
 have : x.born ∈ es.toList.map (·.born) := by rw [← hb]; exact List.mem_map.2 ⟨x, hx, rfl⟩
 obtain ⟨y, hy, e⟩ := List.mem_map.1 this;rw [← e]; exact h.1 y hy
theorem GY.sub {es es' : Array MapEntry} {clock : Nat} (h : GY es clock) (hs : es'.toList.Sublist es.toList) : GY es' clock := ⟨fun x hx => h.1 x (hs.subset hx), (hs.map _).nodup h.2⟩
structure S5 (d : TypeDesc) (o : Obj) (m : List (V × V)) : Prop where
 ex : ∃ es clock, o = .map es clock ∧ es.toList.map (fun e => (some e.key, some e.val)) = m.map fun p => (Bi p.1, Gj p.2)
 keys : ∀ p ∈ m, ∃ k, Bi p.1 = some k ∧ IsKey d k
 nodup : (m.map (·.1)).Nodup
 st : ∀ es clock, o = .map es clock → GY es clock
theorem S5.empty (d : TypeDesc) : S5 d (.map #[] 0) [] := ⟨⟨_, _, rfl, rfl⟩, fun p h => (by cases h), List.nodup_nil, fun es clock h => by cases h; exact GY.empty⟩
theorem FX {α : Type} {l : List α} (h : l.Nodup) {i j : Nat} (hi : i < l.length) (hj : j < l.length) (e : l[i] = l[j]) : i = j := by
 have h := List.pairwise_iff_getElem.1 h
 rcases Nat.lt_trichotomy i j with h1 | h1 | h1
 ·exact absurd e (h i j hi hj h1)
 ·exact h1
 exact absurd e.symm (h j i hj hi h1)
def WC (P : Program) (et : TypeId) (m : List (V × V)) (key : V) (ok : Bool) (v : V) : Prop :=
 ((∀ p ∈ m, p.1 ≠ key) ∧ ∃ z, Eu P et = some z ∧ v = if ok = true then .tup [z, .bool false] else z) ∨ ∃ y, (key, y) ∈ m ∧ v = if ok = true then .tup [y, .bool true] else y
def VF (P : Program) (H : A0) (t : TypeId) (x key : V) (ok : Bool) (v : V) : Prop :=
 ∃ kt et d kv id o m, P.underlying t = some (.map kt et) ∧ P.underlying kt = some d ∧ Bi key = some kv ∧ IsKey d kv ∧ x = .map id ∧ H id = some (.obj o) ∧ S5 d o m ∧ WC P et m key ok v
def QX (P : Program) (t : TypeId) (x key : V) (ok : Bool) (v : V) : Prop :=
 ∃ kt et ks xs n, P.underlying t = some (.map kt et) ∧ P.underlying kt = some (.int .i64) ∧ x = .fmap ks xs ∧ key = .int .i64 n ∧ ok = false ∧ ((∃ i : Nat, ks[i]? = some n ∧ v = xs.getD i .bad) ∨ ((∀ k ∈ ks, k ≠ n) ∧ Eu P et = some v))
def Hy (P : Program) (H : A0) (t : TypeId) (x key : V) (ok : Bool) (v : V) : Prop := VF P H t x key ok v ∨ QX P t x key ok v
def VC (H : A0) (K : V → A0 → Prop) : Prop := (∀ id, H id = none → K (.map id) (upd H id (some (.obj (.map #[] 0))))) ∨ ∀ id, H id = none → K (.map id) (upd H id (some (.fm [] [])))
def QI (P : Program) (H : A0) (K : V → A0 → Prop) (t : TypeId) (x key val : V) : Prop :=
 ∃ kt et ks xs n id, P.underlying t = some (.map kt et) ∧ P.underlying kt = some (.int .i64) ∧ x = .map id ∧ H id = some (.fm ks xs) ∧ key = .int .i64 n ∧ (∀ k ∈ ks, k ≠ n) ∧ K .bad (upd H id (some (.fm (ks ++ [n]) (xs ++ [val]))))
def Xl (m : List (V × V)) (k v : V) (m' : List (V × V)) : Prop :=
 ((∀ p ∈ m, p.1 ≠ k) ∧ m' = m ++ [(k, v)]) ∨ ∃ a y b, m = a ++ (k, y) :: b ∧ m' = a ++ (k, v) :: b
def UQ (P : Program) (H : A0) (K : V → A0 → Prop) (t : TypeId) (x key val : V) : Prop :=
 ∃ kt et d kv vv id o m m', P.underlying t = some (.map kt et) ∧ P.underlying kt = some d ∧ Bi key = some kv ∧ IsKey d kv ∧ Gj val = some vv ∧ x = .map id ∧ H id = some (.obj o) ∧ S5 d o m ∧ Xl m key val m' ∧
  ∀ o', S5 d o' m' → K .bad (upd H id (some (.obj o')))
def FN (P : Program) (H : A0) (K : V → A0 → Prop) (t : TypeId) (x key val : V) : Prop := UQ P H K t x key val ∨ QI P H K t x key val
theorem LP {H : A0} {K K' : V → A0 → Prop} (h : VC H K) (hk : ∀ v H', K v H' → K' v H') : VC H K' := h.imp (fun h id hid => hk _ _ (h id hid)) fun h id hid => hk _ _ (h id hid)
theorem CI {P : Program} {H : A0} {K K' : V → A0 → Prop} {t : TypeId} {x key val : V} (h : FN P H K t x key val) (hk : ∀ H', K .bad H' → K' .bad H') : FN P H K' t x key val := by
 rcases h with ⟨kt, et, d, kv, vv, id, o, m, m', h1, h2, h3, h4, h5, h6, h7, h8, h9, h⟩ | ⟨kt, et, ks, xs, n, id, h1, h2, h3, h4, h5, h6, h⟩
 ·exact .inl ⟨kt, et, d, kv, vv, id, o, m, m', h1, h2, h3, h4, h5, h6, h7, h8, h9, fun o' ho => hk _ (h o' ho)⟩
 exact .inr ⟨kt, et, ks, xs, n, id, h1, h2, h3, h4, h5, h6, hk _ h⟩
theorem Nb {P : Program} {H H' : A0} {t : TypeId} {x key v : V} {ok : Bool} (hl : ∀ id b, H id = some b → H' id = some b) (h : Hy P H t x key ok v) : Hy P H' t x key ok v := by
 rcases h with ⟨kt, et, d, kv, id, o, m, h1, h2, h3, h4, h5, h6, h7⟩ | h
 ·exact .inl ⟨kt, et, d, kv, id, o, m, h1, h2, h3, h4, h5, hl _ _ h6, h7⟩
 exact .inr h
theorem S5.entry {d : TypeDesc} {m : List (V × V)} {es : Array MapEntry} (he : es.toList.map (fun e => (some e.key, some e.val)) = m.map fun p => (Bi p.1, Gj p.2)) (j : Nat) :
 (∀ e, es[j]? = some e → ∃ p, m[j]? = some p ∧ Bi p.1 = some e.key ∧ Gj p.2 = some e.val) ∧ ∀ p, m[j]? = some p → ∃ e, es[j]? = some e ∧ Bi p.1 = some e.key ∧ Gj p.2 = some e.val := by
 have := congrArg (fun l => l[j]?) he
 simp only [List.getElem?_map, Array.getElem?_toList] at this
 constructor
 ·intro e h
  rw [h] at this
  cases hm : m[j]? with
  | none => rw [hm] at this; cases this
  | some p => rw [hm] at this; simp at this; exact ⟨p, rfl, this.1.symm, this.2.symm⟩
 intro p h
 rw [h] at this
 cases hm : es[j]? with
 | none => rw [hm] at this; cases this
 | some e => rw [hm] at this; simp at this; exact ⟨e, rfl, this.1.symm, this.2.symm⟩
theorem S5.isKeys {d : TypeDesc} {m : List (V × V)} {es : Array MapEntry} (he : es.toList.map (fun e => (some e.key, some e.val)) = m.map fun p => (Bi p.1, Gj p.2)) (hk : ∀ p ∈ m, ∃ k, Bi p.1 = some k ∧ IsKey d k) : ∀ e ∈ es.toList, IsKey d e.key := by
 intro e h;obtain ⟨j, hj, e1⟩ := List.getElem_of_mem h;obtain ⟨p, h1, h2, _⟩ := (S5.entry (d := d) he j).1 e (by rw [← Array.getElem?_toList, List.getElem?_eq_getElem hj, e1]);obtain ⟨k, h3, h4⟩ := hk p (List.mem_of_getElem? h1)
 rw [h2] at h3; cases h3; exact h4
theorem FJ {w : World} {b : Nat} {o o' : Obj} (hw : w.heap[b]? = some o) (hc : Obj.isCells o = false) (hc' : Obj.isCells o' = false) (x i : Nat) : (w.putObj b o').cell? ⟨x, i, none⟩ = w.cell? ⟨x, i, none⟩ := by
 by_cases h : x = b
 ·subst h;have h1 := World.putObj_heap_same (w := w) (o := o') (Kl hw);simp only [World.cell?, h1, hw];cases o <;> cases o' <;> simp_all [Obj.isCells]
 exact World.cell?_of_block (w := w) (a := ⟨x, i, none⟩) (World.putObj_heap_other h)
theorem Rl.putObj {g : Gh} {H : A0} {w : World} (h : Rl g H w) {id b : Nat} {o o' : Obj} (hk : H id = some (.obj o)) (hb : g.mu id = some b) (hc' : Obj.isCells o' = false) :
 N4 g w g (w.putObj b o') ∧ Rl g (upd H id (some (.obj o'))) (w.putObj b o') := by
 obtain ⟨b', h1, h2, h3, h4⟩ := h.blk id _ hk
 have e : b' = b := by rw [hb] at h1; exact (Option.some.inj h1).symm
 subst e;have hcell := FJ (o' := o') h3 h4 hc'
 have s : N4 g w g (w.putObj b' o') := by
  refine ⟨fun _ _ e => e, fun _ _ e => e, fun _ _ e => e, rfl, fun b o _ => hcell b o, ⟨rfl, rfl, rfl, by simp, fun k hk => World.putObj_heap_other (by omega)⟩, fun _ _ _ => rfl⟩
 have hat : ∀ x, g.at (upd H id (some (.obj o'))) x = g.at H x := by
  intro x
  by_cases hx : x = id
  ·subst hx; simp [Gh.at, A9, hk]
  simp only [Gh.at, A4 _ _ hx]
 have hid : g.at H id = some b' := by simp [Gh.at, hk, hb]
 refine ⟨s, fun x k hx => ?_, fun x x' y h1 h2 => h.inj x x' y (hat x ▸ h1) (hat x' ▸ h2), fun y o hf => ?_, fun x hx => ?_, ?_, fun n => (h.glb n).mono s⟩
 ·by_cases hxe : x = id
  ·subst hxe; rw [A9] at hx; cases hx
   exact ⟨b', hb, h2, World.putObj_heap_same (Kl h3), hc'⟩
  rw [A4 _ _ hxe] at hx
  refine (h.blk x k hx).mono hx s fun y hy => ⟨World.putObj_heap_other fun e => ?_, fun _ ho => ho⟩;subst e; exact hxe (h.inj _ _ _ hy hid)
 ·obtain ⟨v, hv'⟩ := h.frz y o hf;exact ⟨v, (hcell y o).trans hv'⟩
 ·obtain ⟨a1, a2, a3⟩ := h.nxt x hx
  have hne : x ≠ id := fun e => by subst e; rw [hk] at a3; cases a3
  exact ⟨a1, a2, by rw [A4 _ _ hne]; exact a3⟩
 have := h.bnd; simp; omega
def AI.fixed : AI → Bool
 | .obj _ => true
 | .loop _ => true
 | .iter _ _ _ _ => true
 | .fm _ _ => true
 | _ => false
theorem Gu.fixed {g : Gh} {w : World} {id : Nat} {k : AI} (hk : k.fixed = true) (h : Gu g w id k) : ∃ b o, g.mu id = some b ∧ g.base ≤ b ∧ w.heap[b]? = some o ∧ Obj.isCells o = false := by
 cases k with
 | cells _ => cases hk
 | spare => cases hk
 | obj o => obtain ⟨b, h1, h2, h3, h4⟩ := h; exact ⟨b, o, h1, h2, h3, h4⟩
 | loop L => obtain ⟨b, r, h1, h2, h3, _⟩ := h; exact ⟨b, _, h1, h2, h3, rfl⟩
 | arr _ _ => cases hk
 | fm ks xs => obtain ⟨b, es, clock, h1, h2, h3, _⟩ := h; exact ⟨b, _, h1, h2, h3, rfl⟩
 | iter mid since seen c0 => obtain ⟨b, bm, h1, h2, _, h3⟩ := h; exact ⟨b, _, h1, h2, h3, rfl⟩
theorem Gh.at_fixed {g : Gh} {H : A0} {id : Nat} {k : AI} (hk : k.fixed = true) (h : H id = some k) : g.at H id = g.mu id := by
 cases k <;> simp_all [Gh.at, AI.fixed]
theorem Rl.putGen {g : Gh} {H : A0} {w : World} (h : Rl g H w) {id b : Nat} {k k' : AI} {o' : Obj} (hf : k.fixed = true) (hf' : k'.fixed = true) (hk : H id = some k) (hb : g.mu id = some b) (hc' : Obj.isCells o' = false)
 (hok : N4 g w g (w.putObj b o') → (w.putObj b o').heap[b]? = some o' → g.base ≤ b → Gu g (w.putObj b o') id k') :
 N4 g w g (w.putObj b o') ∧ Rl g (upd H id (some k')) (w.putObj b o') := by
 obtain ⟨b', o, h1, h2, h3, h4⟩ := (h.blk id _ hk).fixed hf
 have e : b' = b := by rw [hb] at h1; exact (Option.some.inj h1).symm
 subst e;have hcell := FJ (o' := o') h3 h4 hc'
 have s : N4 g w g (w.putObj b' o') := by
  refine ⟨fun _ _ e => e, fun _ _ e => e, fun _ _ e => e, rfl, fun b o _ => hcell b o, ⟨rfl, rfl, rfl, by simp, fun k hk => World.putObj_heap_other (by omega)⟩, fun _ _ _ => rfl⟩
 have hat : ∀ x, g.at (upd H id (some k')) x = g.at H x := by
  intro x
  by_cases hx : x = id
  ·subst hx; rw [Gh.at_fixed hf' (A9 _ _ _), Gh.at_fixed hf hk]
  simp only [Gh.at, A4 _ _ hx]
 have hid : g.at H id = some b' := by rw [Gh.at_fixed hf hk, hb]
 refine ⟨s, fun x k hx => ?_, fun x x' y h1 h2 => h.inj x x' y (hat x ▸ h1) (hat x' ▸ h2), fun y o hf => ?_, fun x hx => ?_, ?_, fun n => (h.glb n).mono s⟩
 ·by_cases hxe : x = id
  ·subst hxe; rw [A9] at hx; cases hx
   exact hok s (World.putObj_heap_same (Kl h3)) h2
  rw [A4 _ _ hxe] at hx
  refine (h.blk x k hx).mono hx s fun y hy => ⟨World.putObj_heap_other fun e => ?_, fun _ ho => ho⟩;subst e; exact hxe (h.inj _ _ _ hy hid)
 ·obtain ⟨v, hv'⟩ := h.frz y o hf;exact ⟨v, (hcell y o).trans hv'⟩
 ·obtain ⟨a1, a2, a3⟩ := h.nxt x hx
  have hne : x ≠ id := fun e => by subst e; rw [hk] at a3; cases a3
  exact ⟨a1, a2, by rw [A4 _ _ hne]; exact a3⟩
 have := h.bnd; simp; omega
section
variable {P : Program} {o : Oper} {fr : Fr} {H : A0} {K : V → A0 → Prop}
theorem NT {t : TypeId} (ho : o.op = .makeMap t none) (h : ∀ id, H id = none → K (.map id) (upd H id (some (.obj (.map #[] 0))))) : E4 P o fr H K := by
 intro g w a hR hE;have s := N4.new hR (.map #[] 0) False 0;have r := hR.newNamed (.map #[] 0) (.obj (.map #[] 0)) (by simp) ⟨w.heap.size, by simp [Gh.new], hR.bnd, Y3, rfl⟩;unfold execOp; rw [ho];simp only [Option.map_none, Instr.makeMap, Sem.run_bind, Sem.run_pure, run_newObj, Result.andThen_ok, D9];exact ⟨_, _, _, s, r, .map (by simp [Gh.new]), h g.nx (hR.nxt _ (Nat.le_refl _)).2.2⟩
theorem IQ {g : Gh} {w : World} {v : Value} {n : Int} (h : VR g w v (.int .i64 n)) : v = .int .i64 n := by cases h; rfl
theorem Uk {es : Array MapEntry} {ks : List Int} (hk : es.toList.map (·.key) = ks.map (Value.int .i64)) {j : Nat} {e : MapEntry} (he : es[j]? = some e) : ∃ k, ks[j]? = some k ∧ e.key = .int .i64 k := by
 have := congrArg (fun l => l[j]?) hk
 simp only [List.getElem?_map, Array.getElem?_toList, he, Option.map_some] at this
 cases hj : ks[j]? with
 | none => rw [hj] at this; cases this
 | some k => rw [hj] at this; exact ⟨k, rfl, by simpa using this⟩
theorem Rj {es : Array MapEntry} {ks : List Int} (hk : es.toList.map (·.key) = ks.map (Value.int .i64)) : ∀ e ∈ es.toList, IsKey (.int .i64) e.key := by
 intro e he;obtain ⟨j, hj, e1⟩ := List.getElem_of_mem he;obtain ⟨k, _, h2⟩ := Uk hk (j := j) (e := e) (by rw [← Array.getElem?_toList, List.getElem?_eq_getElem hj, e1]);rw [h2]; rfl
theorem NV {t : TypeId} {x y : Operand} {ok : Bool} {v : V} (ho : o.op = .lookup t x y ok) (hl : QX P t (ev fr x) (ev fr y) ok v) (h : K v H) : E4 P o fr H K := by
 intro g w a hR hE;obtain ⟨kt, et, ks, xs, n, h1, h2, h3, h4, rfl, h5⟩ := hl;have hx := C3 hR hE x;have hy := C3 hR hE y
 rw [h4] at hy
 have hy := IQ hy
 rw [h3] at hx
 generalize hav : a.eval x = xv at hx
 cases hx with
 | fmap hb hw hk hn hlen hv =>
  rename_i b es clock;have hks := Rj hk;have hIs : IsKey (.int .i64) (Value.int .i64 n) := rfl;unfold execOp; rw [ho];simp only [hav, hy, Instr.lookup, Sem.run_bind, run_underlying h1, Result.andThen_ok, Go.MapKept.run_getObj_map hw, Sem.run_pure, run_checkKey h2 hIs]
  rcases findNow_spec hIs es.toList 0 hks with ⟨f1, f2⟩ | ⟨j, e, f1, f2, f3⟩
  ·simp only [run_findKey h2 f1, Result.andThen_ok]
   rcases h5 with ⟨i, q1, q2⟩ | ⟨q1, q2⟩
   ·exfalso;have := congrArg (fun l => l[i]?) hk
    simp only [List.getElem?_map, Array.getElem?_toList, q1, Option.map_some] at this
    cases he : es[i]? with
    | none => rw [he] at this; cases this
    | some e => rw [he] at this; exact f2 e (Array.mem_toList_iff.2 (Array.mem_of_getElem? he)) (by simpa using this)
   obtain ⟨zv, ez, hz⟩ := AO q2
   have hzr : VR g w zv v := by rw [ez]; exact BA g w zv
   simp only [Sem.run_bind, hz, Result.andThen_ok, Sem.run_pure, D9];exact H7.here hR hzr h
  simp only [run_findKey h2 f1, Result.andThen_ok, Sem.run_pure, D9]
  have f2' : es[j]? = some e := by simpa using f2
  obtain ⟨k, g1, g2⟩ := Uk hk f2'
  have hkn : k = n := by rw [f3] at g2; simpa using g2.symm
  subst hkn;have hvr := hv j e f2'
  rcases h5 with ⟨i, q1, q2⟩ | ⟨q1, q2⟩
  ·have hj : j < ks.length := by
    rcases Nat.lt_or_ge j ks.length with h' | h'
    ·exact h'
    rw [List.getElem?_eq_none h'] at g1; cases g1
   have hi : i < ks.length := by
    rcases Nat.lt_or_ge i ks.length with h' | h'
    ·exact h'
    rw [List.getElem?_eq_none h'] at q1; cases q1
   have : i = j := FX hn hi hj (by rw [List.getElem?_eq_getElem hi] at q1; rw [List.getElem?_eq_getElem hj] at g1; rw [Option.some.inj q1, Option.some.inj g1]);subst this
   rw [← q2] at hvr
   exact H7.here hR hvr h
  exact absurd rfl (q1 k (List.mem_of_getElem? g1))
theorem MJ {t : TypeId} (ho : o.op = .makeMap t none) (h : ∀ id, H id = none → K (.map id) (upd H id (some (.fm [] [])))) : E4 P o fr H K := by
 intro g w a hR hE;have s := N4.new hR (.map #[] 0) False 0;have r := hR.newNamed (.map #[] 0) (.fm [] []) (by simp) ⟨w.heap.size, #[], 0, by simp [Gh.new], hR.bnd, Y3, rfl, List.nodup_nil, rfl, fun i e hi => by simp at hi⟩;unfold execOp; rw [ho];simp only [Option.map_none, Instr.makeMap, Sem.run_bind, Sem.run_pure, run_newObj, Result.andThen_ok, D9];exact ⟨_, _, _, s, r, .map (by simp [Gh.new]), h g.nx (hR.nxt _ (Nat.le_refl _)).2.2⟩
theorem JK {t : TypeId} {x y z : Operand} (ho : o.op = .mapUpdate t x y z ∨ o.op = .insert t x y z) (hl : QI P H K t (ev fr x) (ev fr y) (ev fr z)) : E4 P o fr H K := by
 intro g w a hR hE;obtain ⟨kt, et, ks, xs, n, id, h1, h2, h3, h4, h5, h6, h⟩ := hl;have hx := C3 hR hE x;have hy := C3 hR hE y;have hz := C3 hR hE z
 rw [h5] at hy
 have hy := IQ hy
 rw [h3] at hx
 generalize hav : a.eval x = xv at hx
 cases hx with
 | map hm =>
  rename_i b;obtain ⟨b', es, clock, k1, k2, k3, k4, k5, k6, k7⟩ := hR.blk id _ h4
  rw [hm] at k1; cases k1
  have hks := Rj k4;have hIs : IsKey (.int .i64) (Value.int .i64 n) := rfl
  have hne : ∀ e ∈ es.toList, e.key ≠ .int .i64 n := by
   intro e he hc;obtain ⟨j, hj, e1⟩ := List.getElem_of_mem he;obtain ⟨k, q1, q2⟩ := Uk k4 (j := j) (e := e) (by rw [← Array.getElem?_toList, List.getElem?_eq_getElem hj, e1])
   rw [hc] at q2
   exact h6 k (List.mem_of_getElem? q1) (by simpa using q2.symm)
  rcases findNow_spec hIs es.toList 0 hks with ⟨f1, f2⟩ | ⟨j, e, f1, f2, f3⟩
  ·have hes : es.size = ks.length := by have := congrArg List.length k4; simpa using this
   obtain ⟨q1, q2⟩ := hR.putGen (k' := .fm (ks ++ [n]) (xs ++ [ev fr z])) (o' := .map (es.push { key := .int .i64 n, val := a.eval z, born := clock }) (clock + 1)) rfl rfl h4 hm rfl fun s hh hb =>
    ⟨b, _, _, hm, hb, hh, by simp [k4], by
     rw [List.nodup_append]; exact ⟨k5, by simp, fun x hx y hy => by simp at hy; subst hy; exact h6 x hx⟩, by simp [k6], fun i e hi => by
     rw [Array.getElem?_push] at hi
     split at hi
     ·rename_i hie;cases hi
      have : i = xs.length := by omega
      subst this
      simpa using hz.mono s
     rename_i hie
     have hlt : i < xs.length := by
      have := (Array.getElem?_eq_some_iff.1 hi).1;omega
     have := (k7 i e hi).mono s
     simpa [List.getD_eq_getElem?_getD, List.getElem?_append_left hlt] using this⟩
   have hr : (Instr.mapUpdate t (.map (some b)) (.int .i64 n) (a.eval z)).run P w = .ok () (w.putObj b (.map (es.push { key := .int .i64 n, val := a.eval z, born := clock }) (clock + 1))) := by
    simp only [Instr.mapUpdate, Sem.run_bind, run_underlying h1, Result.andThen_ok, Go.MapKept.run_getObj_map k3, run_checkKey h2 hIs, run_findKey h2 f1, run_setObj_map _ k3];rfl
   have hex : (execOp a.eval o).run P w = .ok .skip (w.putObj b (.map (es.push { key := .int .i64 n, val := a.eval z, born := clock }) (clock + 1))) := by
    unfold execOp
    rcases ho with ho | ho <;> rw [ho] <;> simp only [hav, hy, Sem.run_bind, hr, Result.andThen_ok, Sem.run_pure]
   rw [hex];exact ⟨_, _, _, q1, q2, .bad _, h⟩
  have f2' : es[j]? = some e := by simpa using f2
  exact absurd f3 (hne e (Array.mem_toList_iff.2 (Array.mem_of_getElem? f2')))
theorem PF {t : TypeId} {x y : Operand} {ok : Bool} {v : V} (ho : o.op = .lookup t x y ok) (hl : Hy P H t (ev fr x) (ev fr y) ok v) (h : K v H) : E4 P o fr H K := by
 refine hl.elim (fun hl => ?_) fun hl => NV ho hl h;intro g w a hR hE;obtain ⟨kt, et, d, kv, id, ob, m, h1, h2, h3, h4, h5, h6, h7, h8⟩ := hl;have hx := C3 hR hE x;have hy := Fm h3 (C3 hR hE y)
 rw [h5] at hx
 generalize hav : a.eval x = xv at hx
 cases hx with
 | map hm =>
  rename_i b;obtain ⟨b', k1, k2, k3, k4⟩ := hR.blk id _ h6
  rw [hm] at k1; cases k1
  obtain ⟨⟨es, clock, e1, e2⟩, hk, hn⟩ := h7;subst e1;have hks := S5.isKeys e2 hk;unfold execOp; rw [ho];simp only [hav, hy, Instr.lookup, Sem.run_bind, run_underlying h1, Result.andThen_ok, Go.MapKept.run_getObj_map k3, Sem.run_pure, run_checkKey h2 h4]
  rcases findNow_spec h4 es.toList 0 hks with ⟨f1, f2⟩ | ⟨j, e, f1, f2, f3⟩
  ·simp only [run_findKey h2 f1, Result.andThen_ok]
   rcases h8 with ⟨q1, z, q2, q3⟩ | ⟨y', q1, q2⟩
   ·obtain ⟨zv, ez, hz⟩ := AO q2
    have hzr : VR g w zv z := by rw [ez]; exact BA g w zv
    simp only [Sem.run_bind, hz, Result.andThen_ok, Sem.run_pure, D9];subst q3;cases ok
    ·exact H7.here hR hzr h
    refine H7.here hR (.tup rfl fun i hi => ?_) h
    match i with
    | 0 => exact hzr
    | 1 => exact .bool _
    | i + 2 => simp at hi; omega
   exfalso;obtain ⟨i, hi, e⟩ := List.getElem_of_mem q1;obtain ⟨en, g1, g2, g3⟩ := (S5.entry (d := d) e2 i).2 _ (by rw [List.getElem?_eq_getElem hi, e])
   rw [h3] at g2
   exact f2 en (Array.mem_toList_iff.2 (Array.mem_of_getElem? g1)) (Option.some.inj g2).symm
  simp only [run_findKey h2 f1, Result.andThen_ok, Sem.run_pure, D9]
  have f2' : es[j]? = some e := by simpa using f2
  obtain ⟨p, g1, g2, g3⟩ := (S5.entry (d := d) e2 j).1 e f2';have hpk : p.1 = ev fr y := JT g2 (by rw [h3, f3])
  rcases h8 with ⟨q1, _⟩ | ⟨y', q1, q2⟩
  ·exact absurd hpk (q1 p (List.mem_of_getElem? g1))
  have hpy : p.2 = y' := by
   obtain ⟨i, hi, e⟩ := List.getElem_of_mem q1
   have hj : j < m.length := by
    rcases Nat.lt_or_ge j m.length with h' | h'
    ·exact h'
    rw [List.getElem?_eq_none h'] at g1; cases g1
   have e3 : m[j] = p := by rw [List.getElem?_eq_getElem hj] at g1; exact Option.some.inj g1
   have : i = j := FX hn (by simpa using hi) (by simpa using hj) (by simp [e, e3, hpk]);subst this;rw [← e3, e]
  rw [hpy] at g3
  have hvr : VR g w e.val y' := Og g3;subst q2;cases ok
  ·exact H7.here hR hvr h
  refine H7.here hR (.tup rfl fun i hi => ?_) h
  match i with
  | 0 => exact hvr
  | 1 => exact .bool _
  | i + 2 => simp at hi; omega
theorem S5.set {d : TypeDesc} {m m' : List (V × V)} {es : Array MapEntry} {clock : Nat} {key val : V} {kv vv : Value} (h3 : Bi key = some kv) (h4 : IsKey d kv) (h5 : Gj val = some vv)
 (e2 : es.toList.map (fun e => (some e.key, some e.val)) = m.map fun p => (Bi p.1, Gj p.2)) (hk : ∀ p ∈ m, ∃ k, Bi p.1 = some k ∧ IsKey d k) (hn : (m.map (·.1)).Nodup) (hst : GY es clock) (hs : Xl m key val m') :
 ((∀ e ∈ es.toList, e.key ≠ kv) → S5 d (.map (es.push { key := kv, val := vv, born := clock }) (clock + 1)) m') ∧
 ∀ (j : Nat) e, es[j]? = some e → e.key = kv → S5 d (.map (es.modify j fun e => { e with key := kv, val := vv }) clock) m' := by
 have key_of : ∀ (j : Nat) e, es[j]? = some e → e.key = kv → ∃ y, m[j]? = some (key, y) := fun j e hj hje => by
  obtain ⟨p, g1, g2, g3⟩ := (S5.entry (d := d) e2 j).1 e hj;have : p.1 = key := JT g2 (by rw [h3, hje]);exact ⟨p.2, by rw [g1, ← this]⟩
 constructor
 ·intro hne
  rcases hs with ⟨q1, rfl⟩ | ⟨a, y, b, rfl, rfl⟩
  ·refine ⟨⟨_, _, rfl, by simp [e2, h3, h5]⟩, fun p hp => ?_, ?_, fun es clock h => by cases h; exact hst.push _ _⟩
   ·rcases List.mem_append.1 hp with hp | hp
    ·exact hk p hp
    simp at hp; subst hp; exact ⟨_, h3, h4⟩
   rw [List.map_append];refine List.nodup_append.2 ⟨hn, by simp, fun x hx z hz => ?_⟩
   simp at hz; subst hz
   obtain ⟨p, hp, rfl⟩ := List.mem_map.1 hx;exact q1 p hp
  exfalso;obtain ⟨e, g1, g2, _⟩ := (S5.entry (d := d) e2 a.length).2 (key, y) (by simp)
  rw [h3] at g2
  exact hne e (Array.mem_toList_iff.2 (Array.mem_of_getElem? g1)) (Option.some.inj g2).symm
 intro j e hj hje;obtain ⟨y0, hm⟩ := key_of j e hj hje
 rcases hs with ⟨q1, rfl⟩ | ⟨a, y, b, rfl, rfl⟩
 ·exact absurd rfl (q1 _ (List.mem_of_getElem? hm))
 have hja : j = a.length := by
  have hjl : j < (a ++ (key, y) :: b).length := by
   rcases Nat.lt_or_ge j (a ++ (key, y) :: b).length with h' | h'
   ·exact h'
   rw [List.getElem?_eq_none h'] at hm; cases hm
  have e3 : (a ++ (key, y) :: b)[j] = (key, y0) := by rw [List.getElem?_eq_getElem hjl] at hm; exact Option.some.inj hm
  exact FX hn (by simpa using hjl) (by simp) (by rw [List.getElem_map, List.getElem_map, e3]; simp)
 subst hja;refine ⟨⟨_, _, rfl, ?_⟩, fun p hp => ?_, ?_, fun es clock h => by cases h; exact hst.modify _ _ _⟩
 ·apply List.ext_getElem?;intro i;simp only [List.getElem?_map, Array.getElem?_toList, Array.getElem?_modify]
  by_cases hi : a.length = i
  ·subst hi; simp [hj, h3, h5]
  rw [if_neg hi];have := congrArg (fun l => l[i]?) e2
  simp only [List.getElem?_map, Array.getElem?_toList] at this
  rw [this]
  rcases Nat.lt_or_ge i a.length with h' | h'
  ·rw [List.getElem?_append_left h', List.getElem?_append_left h']
  rw [List.getElem?_append_right h', List.getElem?_append_right h'];obtain ⟨q, hq⟩ : ∃ q, i - a.length = q + 1 := ⟨i - a.length - 1, by omega⟩;rw [hq]; rfl
 ·simp only [List.mem_append, List.mem_cons] at hp
  rcases hp with hp | rfl | hp
  ·exact hk p (by simp [hp])
  ·exact ⟨_, h3, h4⟩
  exact hk p (by simp [hp])
 simpa using hn
theorem Gm {t : TypeId} {x y z : Operand} (ho : o.op = .mapUpdate t x y z ∨ o.op = .insert t x y z) (hl : FN P H K t (ev fr x) (ev fr y) (ev fr z)) : E4 P o fr H K := by
 refine hl.elim (fun hl => ?_) fun hl => JK ho hl;intro g w a hR hE;obtain ⟨kt, et, d, kv, vv, id, ob, m, m', h1, h2, h3, h4, h5, h6, h7, h8, h9, h⟩ := hl;have hx := C3 hR hE x;have hy := Fm h3 (C3 hR hE y);have hz := Tu h5 (C3 hR hE z)
 rw [h6] at hx
 generalize hav : a.eval x = xv at hx
 cases hx with
 | map hm =>
  rename_i b;obtain ⟨b', k1, k2, k3, k4⟩ := hR.blk id _ h7
  rw [hm] at k1; cases k1
  obtain ⟨⟨es, clock, e1, e2⟩, hk, hn, hst⟩ := h8;subst e1;have hks := S5.isKeys e2 hk;obtain ⟨s1, s2⟩ := S5.set (clock := clock) h3 h4 h5 e2 hk hn (hst _ _ rfl) h9
  have run : ∀ o', S5 d o' m' → (Instr.mapUpdate t (.map (some b)) kv vv).run P w = .ok () (w.putObj b o') → D9 P (H7 g w K) ((execOp a.eval o).run P w) := by
   intro o' ho' hr;obtain ⟨q1, q2⟩ := hR.putObj (o' := o') h7 hm (by obtain ⟨⟨_, _, e, _⟩, _⟩ := ho'; rw [e]; rfl)
   have hex : (execOp a.eval o).run P w = .ok .skip (w.putObj b o') := by
    unfold execOp
    rcases ho with ho | ho <;> rw [ho] <;> simp only [hav, hy, hz, Sem.run_bind, hr, Result.andThen_ok, Sem.run_pure]
   rw [hex];exact ⟨_, _, _, q1, q2, .bad _, h o' ho'⟩
  rcases findNow_spec h4 es.toList 0 hks with ⟨f1, f2⟩ | ⟨j, e, f1, f2, f3⟩
  ·refine run _ (s1 f2) ?_;simp only [Instr.mapUpdate, Sem.run_bind, run_underlying h1, Result.andThen_ok, Go.MapKept.run_getObj_map k3, run_checkKey h2 h4, run_findKey h2 f1, run_setObj_map _ k3];rfl
  have f2' : es[j]? = some e := by simpa using f2
  refine run _ (s2 j e f2' f3) ?_;simp only [Nat.zero_add, Instr.mapUpdate, Sem.run_bind, run_underlying h1, Result.andThen_ok, Go.MapKept.run_getObj_map k3, run_checkKey h2 h4, run_findKey h2 f1, f2', Option.map_some, Option.getD_some, f3, run_keyThatStays h4, run_setObj_map _ k3];rfl
end
end Go.Ab
namespace Go.Ab
open Go.RowKit
variable [H5]
theorem Rl.lessArr {g : Gh} {H : A0} {w : World} (h : Rl g H w) {id sz : Nat} {xs ys : List V} (hk : H id = some (.arr sz xs)) (hl : G9 xs ys) : Rl g (upd H id (some (.arr sz ys))) w := by
 have el := hl.length
 have hat : ∀ x, g.at (upd H id (some (.arr sz ys))) x = g.at H x := by
  intro x
  by_cases hx : x = id
  ·subst hx; simp only [Gh.at, A9, hk, el]
  simp only [Gh.at, A4 _ _ hx]
 refine ⟨fun x k hx => ?_, fun x x' y h1 h2 => h.inj x x' y (hat x ▸ h1) (hat x' ▸ h2), h.frz, fun x hx => ?_, h.bnd, h.glb⟩
 ·by_cases hxe : x = id
  ·subst hxe; rw [A9] at hx; cases hx
   obtain ⟨b, h1, h2, h3, h4, h5⟩ := h.blk x _ hk;refine ⟨b, h1, h2, h3.trans el, fun i hi => ?_, ?_⟩
   ·rw [← (hl.at i).cells.length]; exact h4 i (by omega)
   rw [← el];refine h5.imp (fun h => h) fun ⟨c, T, k1, k2, k3, k4, k5⟩ => ⟨c, T, k1, k2, k3, fun i j hi hj => ⟨(k4 i j hi hj).1, (k4 i j hi hj).2.le ((hl.at i).cells.at j)⟩, k5⟩
  rw [A4 _ _ hxe] at hx; exact h.blk x k hx
 obtain ⟨a1, a2, a3⟩ := h.nxt x hx
 have hne : x ≠ id := fun e => by subst e; rw [hk] at a3; cases a3
 exact ⟨a1, a2, by rw [A4 _ _ hne]; exact a3⟩
section
variable {P : Program} {o : Oper} {fr : Fr} {H : A0} {K : V → A0 → Prop}
theorem E4.lessRow (h : E4 P o fr H fun x H' => ∃ id sz xs ys, H' id = some (.arr sz xs) ∧ G9 xs ys ∧ K x (upd H' id (some (.arr sz ys)))) : E4 P o fr H K := by
 intro g w a hR hE;have h := h g w a hR hE
 have key : ∀ v w', H7 g w (fun x H' => ∃ id sz xs ys, H' id = some (.arr sz xs) ∧ G9 xs ys ∧ K x (upd H' id (some (.arr sz ys)))) v w' → H7 g w K v w' := by
  rintro v w' ⟨g', x, H', s, hR', hv, id, sz, xs, ys, h1, h2, h3⟩;exact ⟨g', x, _, s, hR'.lessArr h1 h2, hv, h3⟩
 unfold D9 at h ⊢
 split at h
 ·exact key _ _ h
 ·exact key _ _ h
 ·exact h.mono fun e w' ⟨v, h1, h2⟩ => ⟨v, h1, key _ _ h2⟩
 ·exact h.mono fun e w' ⟨v, h1, h2⟩ => ⟨v, h1, key _ _ h2⟩
 exact h.elim
theorem IG {x : Operand} (ho : o.op = .assign x ∨ o.op = .move x) (hx : ev fr x = .sl [] .nil) (sz : Nat) (h : ∀ q, H q = none → K (.own q 0 0) (upd H q (some (.arr sz [])))) : E4 P o fr H K := by
 intro g w a hR hE;have hv := C3 hR hE x
 rw [hx] at hv
 obtain ⟨g1, s1, R1, hn, hv1⟩ := BN hR sz (.inl rfl) hv;unfold execOp
 rcases ho with ho | ho <;> rw [ho] <;> exact ⟨g1, _, _, s1, R1, hv1, h _ hn⟩
theorem Th {t e : TypeId} {n sz : Nat} {parts : Array (Nat × Operand)} {xs ys : List V} (ho : o.op = .buildSlice t n parts) (hl : T9 P t n (parts.toList.map fun (p : Nat × Operand) => (p.1, ev fr p.2)) = some (.sl xs .full))
 (he : BY P t = some e) (hs : BF P e = some sz) (hle : G9 xs ys) (h : ∀ q, H q = none → K (.own q 0 (xs.length : Nat)) (upd H q (some (.arr sz ys)))) : E4 P o fr H K := by
 refine E4.lessRow ?_;intro g w a hR hE;obtain ⟨e', sz', z, k1, k2, _, k3, k4, _, d, hrun, hdz, hdv⟩ := Fi hR hE hl
 rw [he] at k1; cases k1
 rw [hs] at k2; cases k2
 cases k3
 have hget : ∀ i, ((parts.toList.map fun (p : Nat × Operand) => (p.1, ev fr p.2)).map (fun (q : Nat × V) => q.2)).getD i .bad = ((parts.toList.map fun (p : Nat × Operand) => (p.1, ev fr p.2)).getD i (0, .bad)).2 := by
  intro i;simp only [List.getD_eq_getElem?_getD, List.getElem?_map];cases parts.toList[i]? <;> rfl
 generalize hL : (parts.toList.map fun (p : Nat × Operand) => (p.1, ev fr p.2)) = L at *
 have hz : ∀ i, i < (L.map fun (q : Nat × V) => q.2).length → ((L.map fun (q : Nat × V) => q.2).getD i .bad).cells.length = sz := by
  intro i hi
  have : ∀ (m : List (Nat × V)) (k i : Nat), Aa sz k m = true → i < m.length → (m.getD i (0, .bad)).2.cells.length = sz := by
   intro m
   induction m with
   | nil => intro k i _ hi; simp at hi
   | cons y m ih =>
    intro k i hs hi
    simp only [Aa, Bool.and_eq_true, beq_iff_eq] at hs
    cases i with
    | zero => exact hs.1.2
    | succ i => exact ih (k + 1) i hs.2 (by simpa using hi)
  rw [hget]; exact this L 0 i (by assumption) (by simpa using hi)
 have el : (L.map fun (q : Nat × V) => q.2).length = n := by simpa using k4
 obtain ⟨s, r, hn⟩ := Rl.newArr (w' := w.alloc (.cells d e)) hR (b := w.heap.size) (o := 0) (sz := sz) (ys := L.map fun (q : Nat × V) => q.2) hz (fun b q hf => An (hR.fz_lt hf)) ((Below.refl _ _).alloc hR.bnd _) (fun x _ hlt => heap_alloc hlt)
  (.inr ⟨d, e, hR.bnd, Y3, by rw [hdz, el]; omega, fun i j hi hj => by
   rw [Nat.zero_add, hget]; exact (hdv i j (by omega) hj).2, fun q _ hf => absurd (hR.fz_lt hf) (Nat.lt_irrefl _), fun id hid => absurd (hR.lt hid) (Nat.lt_irrefl _)⟩)
 unfold execOp; rw [ho];simp only [Sem.run_bind, hrun, Result.andThen_ok, Sem.run_pure, D9];refine ⟨_, .own g.nx 0 ((L.map fun (q : Nat × V) => q.2).length : Nat), _, s, r, ?_, g.nx, sz, _, ys, A9 _ _ _, hle, ?_⟩
 ·have e' : (g.own w.heap.size ⟨0, (L.map fun (q : Nat × V) => q.2).length, sz⟩).ow g.nx = ⟨0, (L.map fun (q : Nat × V) => q.2).length, sz⟩ := by simp [Gh.own]
  have := VR.own (g := g.own w.heap.size ⟨0, (L.map fun (q : Nat × V) => q.2).length, sz⟩) (w := w.alloc (.cells d e)) (id := g.nx) (b := w.heap.size) (lo := 0) (n := ((L.map fun (q : Nat × V) => q.2).length : Nat)) (p := some ⟨w.heap.size, 0, none⟩) (by simp [Gh.own]) (by omega) (by omega) (by rw [e']; simp) (by rw [e']; simp)
  rw [e'] at this
  simpa [el] using this
 rw [Q9]; exact h _ hn
def XA (l : List Int) : ByteArray := l.foldl (fun r n => r.push (UInt8.ofNat n.toNat)) ByteArray.empty
def Ml (P : Program) (H : A0) (s d : TypeId) (x v : V) : Prop :=
 ∃ e l, BY P s = some e ∧ P.underlying e = some (.int .u8) ∧ P.underlying d = some .string ∧ Jf 1 H x (l.map (V.int .u8)) ∧ v = .str (XA l)
theorem Jf.up {sz : Nat} {H H' : A0} {x : V} {ys : List V} (hl : ∀ id b, H id = some b → H' id = some b) (h : Jf sz H x ys) : Jf sz H' x ys := by
 unfold Jf at h ⊢
 split at h
 ·exact h
 ·obtain ⟨xs, h1, h2⟩ := h; exact ⟨xs, hl _ _ h1, h2⟩
 exact h
theorem Qu {P : Program} {H H' : A0} {s d : TypeId} {x v : V} (hl : ∀ id b, H id = some b → H' id = some b) (h : Ml P H s d x v) : Ml P H' s d x v := by
 obtain ⟨e, l, h1, h2, h3, h4, h5⟩ := h;exact ⟨e, l, h1, h2, h3, h4.up hl, h5⟩
def TU (K : V → A0 → Prop) (x : V) (H : A0) : Prop := ∃ id sz xs ys, H id = some (.arr sz xs) ∧ G9 xs ys ∧ K x (upd H id (some (.arr sz ys)))
def litO (P : Program) (H : A0) (K : V → A0 → Prop) (t : TypeId) (n : Nat) (parts : List (Nat × V)) : Prop :=
 ∃ e sz xs ys, T9 P t n parts = some (.sl xs .full) ∧ BY P t = some e ∧ BF P e = some sz ∧ G9 xs ys ∧ ∀ q, H q = none → K (.own q 0 (xs.length : Nat)) (upd H q (some (.arr sz ys)))
def Wv (H : A0) (K : V → A0 → Prop) (x : V) : Prop := x = .sl [] .nil ∧ ∃ sz, ∀ q, H q = none → K (.own q 0 0) (upd H q (some (.arr sz [])))
theorem Td {l : List Int} {ys0 : List V} (h : G9 ys0 (l.map (V.int .u8))) : ys0 = l.map (V.int .u8) := by
 induction l generalizing ys0 with
 | nil => cases h; rfl
 | cons n l ih =>
  cases h with
  | cons h1 h2 =>
   cases h1;rw [ih h2]; rfl
theorem RK {s d : TypeId} {y : Operand} {x : V} (ho : o.op = .convert s d y) (hl : Ml P H s d (ev fr y) x) (h : K x H) : E4 P o fr H K := by
 intro g w a hR hE;have hv := C3 hR hE y;obtain ⟨e, l, h1, h2, h3, h4, rfl⟩ := hl;obtain ⟨ys0, k1, k2, k3⟩ := h4.inv hR hv;have e1 := Td k2;subst e1;obtain ⟨base, cap, vs, r1, r2, r3⟩ := DY P hR k1 hv k3;have hs := I6 h1
 have hlen : (l.map (V.int .u8)).length = l.length := by simp
 have hcell : ∀ i, i < l.length → vs i 0 = .int .u8 (l.getD i 0) := by
  intro i hi;have := (r2 i 0 (by rw [hlen]; exact hi) (by omega)).2
  have e : ((l.map (V.int .u8)).getD i .bad).cells.getD 0 .bad = .int .u8 (l.getD i 0) := by
   simp [List.getD, hi, V.cells]
  rw [e] at this
  exact this.int_inv
 have hread := r3 l.length (by rw [hlen]; exact Nat.le_refl _) w (fun _ _ => rfl)
 have hcells : ((List.range (l.length * 1)).map fun k => vs (k / 1) (k % 1)).toArray = (l.map (Value.int .u8)).toArray := by
  congr 1
  apply List.ext_getElem?;intro i;simp only [List.getElem?_map, Nat.mul_one, Nat.div_one, Nat.mod_one]
  by_cases hi : i < l.length
  ·rw [List.getElem?_range hi, List.getElem?_eq_getElem hi];simp [hcell i hi, List.getD, hi]
  rw [List.getElem?_eq_none (by simpa using hi), List.getElem?_eq_none (by omega)]; rfl
 rw [hcells] at hread
 rw [hlen] at r1
 rw [r1] at hread
 have run : (convert s d (.slice base l.length cap)).run P w = .ok (.string (XA l)) w := by
  rw [run_convert_bytes_string w s d e base l.length cap hs h2 h3]
  cases base with
  | none =>
   have : l = [] := by
    simp only [Builtin.firstCells] at hread
    have hh : (.ok #[] w : Result (Array Value)) = .ok (l.map (Value.int .u8)).toArray w := by simpa [Sem.run_pure] using hread
    injection hh with hh _
    have := congrArg Array.size hh
    simp at this
    exact List.eq_nil_of_length_eq_zero this.symm
   subst this; rfl
  | some ad =>
   simp only [Builtin.firstCells, Nat.mul_one] at hread
   exact run_bytesToString w ad l.length cap l hread
 unfold execOp; rw [ho];simp only [r1, Sem.run_bind, run, Result.andThen_ok, Sem.run_pure, D9];exact H7.here hR (.str _) h
end
end Go.Ab
namespace Go.Ab
open Go.RowKit Go.MapKept
variable [H5]
def JV (P : Program) (H : A0) (K : V → A0 → Prop) (t : TypeId) (x : V) : Prop :=
 ∃ kt et mid es clock, P.underlying t = some (.map kt et) ∧ x = .map mid ∧ H mid = some (.obj (.map es clock)) ∧ ∀ id, H id = none → K (.ref id 0) (upd H id (some (.iter mid clock #[] clock)))
def Ov (H : A0) (K : V → A0 → Prop) (x : V) : Prop :=
 ∃ id mid since, ∃ seen : Array Nat, ∃ c0, ∃ es : Array MapEntry, ∃ clock, x = .ref id 0 ∧ H id = some (.iter mid since seen c0) ∧ H mid = some (.obj (.map es clock)) ∧ (∀ e ∈ es.toList, e.born < since) ∧ since ≤ c0 ∧
  ((leftOf es seen).size = 0 → K (.tup [.bool false]) H) ∧ ∀ e ∈ (leftOf es seen).toList, K (.tup [.bool true, .bad, .bad]) (upd H id (some (.iter mid since (seen.push e.born) clock)))
def KB (H : A0) (K : V → A0 → Prop) (x : V) : Prop :=
 ∃ id mid since, ∃ seen : Array Nat, ∃ c0, ∃ es : Array MapEntry, ∃ clock e kx vx, x = .ref id 0 ∧ H id = some (.iter mid since (seen.push e.born) c0) ∧ c0 = clock ∧ H mid = some (.obj (.map es clock)) ∧ e ∈ es.toList ∧ (es.toList.map (·.born)).Nodup ∧
  Bi kx = some e.key ∧ Gj vx = some e.val ∧ K (.tup [kx, vx]) H
def Cd (P : Program) (H : A0) (K : V → A0 → Prop) (ts : List TypeId) (vs : List V) : Prop :=
 match ts, vs with
 | [t, _], [x, key] =>
  ∃ kt et d kv id o m, P.underlying t = some (.map kt et) ∧ P.underlying kt = some d ∧ Bi key = some kv ∧ IsKey d kv ∧ x = .map id ∧ H id = some (.obj o) ∧ S5 d o m ∧
   ∀ o' m', S5 d o' m' → ((m' = m ∧ ∀ p ∈ m, p.1 ≠ key) ∨ ∃ j p, m[j]? = some p ∧ p.1 = key ∧ m' = m.eraseIdx j) → K (.tup []) (upd H id (some (.obj o')))
 | _, _ => False
theorem II {P : Program} {H : A0} {K K' : V → A0 → Prop} {t : TypeId} {x : V} (h : JV P H K t x) (hk : ∀ v H', K v H' → K' v H') : JV P H K' t x := by
 obtain ⟨kt, et, mid, es, clock, h1, h2, h3, h4⟩ := h;exact ⟨kt, et, mid, es, clock, h1, h2, h3, fun id hid => hk _ _ (h4 id hid)⟩
theorem Ke {H : A0} {K K' : V → A0 → Prop} {x : V} (h : Ov H K x) (hk : ∀ v H', K v H' → K' v H') : Ov H K' x := by
 obtain ⟨id, mid, since, seen, c0, es, clock, h1, h2, h3, h4, h5, h6, h7⟩ := h;exact ⟨id, mid, since, seen, c0, es, clock, h1, h2, h3, h4, h5, fun e => hk _ _ (h6 e), fun e he => hk _ _ (h7 e he)⟩
theorem IU {H : A0} {K K' : V → A0 → Prop} {x : V} (h : KB H K x) (hk : ∀ v H', K v H' → K' v H') : KB H K' x := by
 obtain ⟨id, mid, since, seen, c0, es, clock, e, kx, vx, h1, h2, h3, h4, h5, h6, h7, h8, h9⟩ := h;exact ⟨id, mid, since, seen, c0, es, clock, e, kx, vx, h1, h2, h3, h4, h5, h6, h7, h8, hk _ _ h9⟩
theorem HJ {P : Program} {H : A0} {K K' : V → A0 → Prop} {ts : List TypeId} {vs : List V} (h : Cd P H K ts vs) (hk : ∀ v H', K v H' → K' v H') : Cd P H K' ts vs := by
 unfold Cd at h ⊢
 split at h
 ·obtain ⟨kt, et, d, kv, id, o, m, h1, h2, h3, h4, h5, h6, h7, h8⟩ := h;exact ⟨kt, et, d, kv, id, o, m, h1, h2, h3, h4, h5, h6, h7, fun o' m' a b => hk _ _ (h8 o' m' a b)⟩
 exact h.elim
theorem Jw {g : Gh} {H : A0} {w : World} (hR : Rl g H w) {id b : Nat} {o : Obj} (h : H id = some (.obj o)) (hb : g.mu id = some b) : w.heap[b]? = some o := by
 obtain ⟨b', h1, _, h3, _⟩ := hR.blk id _ h
 rw [hb] at h1; cases h1; exact h3
theorem Rl.drew {g : Gh} {H : A0} {w : World} (hR : Rl g H w) : N4 g w g w.drew ∧ Rl g H w.drew := by
 have s : N4 g w g w.drew := ⟨fun _ _ e => e, fun _ _ e => e, fun _ _ e => e, rfl, fun _ _ _ => rfl, (Below.refl _ _).drew, fun _ _ _ => rfl⟩;exact ⟨s, ⟨fun id b hb => (hR.blk id b hb).mono hb s fun _ _ => ⟨rfl, fun _ ho => ho⟩, hR.inj, hR.frz, hR.nxt, hR.bnd, fun n => (hR.glb n).mono s⟩⟩
theorem Rl.putIter {g : Gh} {H : A0} {w : World} (h : Rl g H w) {id b mid bm since since' c0 c0' : Nat} {seen seen' : Array Nat} (hk : H id = some (.iter mid since seen c0)) (hb : g.mu id = some b) (hm : g.mu mid = some bm) :
 N4 g w g (ChangeMaps.setBlock w b (.mapIter (some bm) since' seen' c0')) ∧ Rl g (upd H id (some (.iter mid since' seen' c0'))) (ChangeMaps.setBlock w b (.mapIter (some bm) since' seen' c0')) := by
 have e0 : ChangeMaps.setBlock w b (.mapIter (some bm) since' seen' c0') = w.putObj b (.mapIter (some bm) since' seen' c0') := rfl;rw [e0];obtain ⟨b', bm', h1, h2, h3, h4⟩ := h.blk id _ hk
 rw [hb] at h1; cases h1
 have hcell := FJ (o' := .mapIter (some bm) since' seen' c0') h4 rfl rfl
 have s : N4 g w g (w.putObj b (.mapIter (some bm) since' seen' c0')) := by
  refine ⟨fun _ _ e => e, fun _ _ e => e, fun _ _ e => e, rfl, fun b o _ => hcell b o, ⟨rfl, rfl, rfl, by simp, fun k hk => World.putObj_heap_other (by omega)⟩, fun _ _ _ => rfl⟩
 have hat : ∀ x, g.at (upd H id (some (.iter mid since' seen' c0'))) x = g.at H x := by
  intro x
  by_cases hx : x = id
  ·subst hx; simp [Gh.at, A9, hk]
  simp only [Gh.at, A4 _ _ hx]
 have hid : g.at H id = some b := by simp [Gh.at, hk, hb]
 refine ⟨s, fun x k hx => ?_, fun x x' y h1 h2 => h.inj x x' y (hat x ▸ h1) (hat x' ▸ h2), fun y o hf => ?_, fun x hx => ?_, ?_, fun n => (h.glb n).mono s⟩
 ·by_cases hxe : x = id
  ·subst hxe; rw [A9] at hx; cases hx
   exact ⟨b, bm, hb, h2, hm, World.putObj_heap_same (Kl h4)⟩
  rw [A4 _ _ hxe] at hx
  refine (h.blk x k hx).mono hx s fun y hy => ⟨World.putObj_heap_other fun e => ?_, fun _ ho => ho⟩;subst e; exact hxe (h.inj _ _ _ hy hid)
 ·obtain ⟨v, hv'⟩ := h.frz y o hf;exact ⟨v, (hcell y o).trans hv'⟩
 ·obtain ⟨a1, a2, a3⟩ := h.nxt x hx
  have hne : x ≠ id := fun e => by subst e; rw [hk] at a3; cases a3
  exact ⟨a1, a2, by rw [A4 _ _ hne]; exact a3⟩
 have := h.bnd; simp; omega
section
variable {P : Program} {o : Oper} {fr : Fr} {H : A0} {K : V → A0 → Prop}
theorem RD {t : TypeId} {y : Operand} (ho : o.op = .range t y) (hl : JV P H K t (ev fr y)) : E4 P o fr H K := by
 intro g w a hR hE;obtain ⟨kt, et, mid, es, clock, h1, h2, h3, h4⟩ := hl;have hx := C3 hR hE y
 rw [h2] at hx
 generalize hav : a.eval y = xv at hx
 cases hx with
 | map hm =>
  rename_i bm;have k3 := Jw hR h3 hm;have s := N4.new hR (.mapIter (some bm) clock #[] clock) False 0
  have hne : mid ≠ g.nx := fun e => by subst e; rw [(hR.nxt _ (Nat.le_refl _)).1] at hm; cases hm
  have r := hR.newNamed (.mapIter (some bm) clock #[] clock) (.iter mid clock #[] clock) (by simp) ⟨w.heap.size, bm, by simp [Gh.new], hR.bnd, by simp [Gh.new, hne, hm], Y3⟩;unfold execOp; rw [ho];simp only [hav, Sem.run_bind, run_range_map w t kt et bm es clock h1 k3, Result.andThen_ok, Sem.run_pure, D9];exact ⟨_, _, _, s, r, .ref (by simp [Gh.new]), h4 g.nx (hR.nxt _ (Nat.le_refl _)).2.2⟩
theorem Tm {y : Operand} (ho : o.op = .next y false) (hl : Ov H K (ev fr y)) : E4 P o fr H K := by
 intro g w a hR hE;obtain ⟨id, mid, since, seen, c0, es, clock, h1, h2, h3, h4, h5, h6, h7⟩ := hl;have hx := C3 hR hE y
 rw [h1] at hx
 generalize hav : a.eval y = xv at hx
 obtain ⟨b, bm, k1, k2, k3, k4⟩ := hR.blk id _ h2;have k5 := Jw hR h3 k3
 cases hx with
 | ref hm =>
  rename_i b'
  rw [k1] at hm; cases hm
  unfold execOp; rw [ho];simp only [hav]
  rcases run_next_at (P := P) w o.type b bm since c0 seen es clock k4 k5 h4 h5 with ⟨e1, e2⟩ | ⟨e, e1, w1, e2, e3⟩
  ·simp only [Sem.run_bind, e2, Result.andThen_ok, Sem.run_pure, D9];refine H7.here hR (.tup rfl fun i hi => ?_) (h6 e1)
   match i with
   | 0 => exact .bool _
   | i + 1 => simp at hi
  simp only [Sem.run_bind, e3, Result.andThen_ok, Sem.run_pure, D9]
  have key : ∀ w1 : World, N4 g w g w1 → Rl g H w1 → H7 g w K (.tuple #[.bool true, e.key, e.val]) (ChangeMaps.setBlock w1 b (.mapIter (some bm) since (seen.push e.born) clock)) := by
   intro w1 s1 hR1;obtain ⟨s2, hR2⟩ := hR1.putIter (since' := since) (seen' := seen.push e.born) (c0' := clock) h2 k1 k3;refine ⟨g, _, _, s1.trans s2, hR2, .tup rfl fun i hi => ?_, h7 e e1⟩
   match i with
   | 0 => exact .bool _
   | 1 => exact .bad _
   | 2 => exact .bad _
   | i + 3 => simp at hi; omega
  rcases e2 with rfl | rfl
  ·exact key _ (N4.refl _ _) hR
  exact key _ hR.drew.1 hR.drew.2
theorem RJ {y : Operand} (ho : o.op = .entry y) (hl : KB H K (ev fr y)) : E4 P o fr H K := by
 intro g w a hR hE;obtain ⟨id, mid, since, seen, c0, es, clock, e, kx, vx, h1, h2, h0, h3, h4, h5, h6, h7, h8⟩ := hl;subst h0;have hx := C3 hR hE y
 rw [h1] at hx
 generalize hav : a.eval y = xv at hx
 obtain ⟨b, bm, k1, k2, k3, k4⟩ := hR.blk id _ h2;have k5 := Jw hR h3 k3
 cases hx with
 | ref hm =>
  rename_i b'
  rw [k1] at hm; cases hm
  unfold execOp; rw [ho];simp only [hav, Sem.run_bind, run_entry_at (P := P) w b bm since seen es _ e k4 k5 h4 h5, Result.andThen_ok, Sem.run_pure, D9];refine H7.here hR (.tup rfl fun i hi => ?_) h8
  match i with
  | 0 => exact JS h6
  | 1 => exact Og h7
  | i + 2 => simp at hi; omega
theorem S5.erase {d : TypeDesc} {m : List (V × V)} {es : Array MapEntry} {clock : Nat} (h : S5 d (.map es clock) m) (j : Nat) (hj : j < es.size) : S5 d (.map (es.eraseIdxIfInBounds j) clock) (m.eraseIdx j) := by
 obtain ⟨⟨es', c', e1, e2⟩, hk, hn, hst⟩ := h;cases e1;have hsub : (m.eraseIdx j).Sublist m := List.eraseIdx_sublist _ _;refine ⟨⟨_, _, rfl, ?_⟩, fun p hp => hk p (hsub.subset hp), (hsub.map _).nodup hn, fun es1 c1 h => by cases h; exact (hst _ _ rfl).sub (by unfold Array.eraseIdxIfInBounds; rw [dif_pos hj, Array.toList_eraseIdx]; exact List.eraseIdx_sublist _ _)⟩
 have e3 : (es.eraseIdxIfInBounds j).toList = es.toList.eraseIdx j := by
  unfold Array.eraseIdxIfInBounds;rw [dif_pos hj, Array.toList_eraseIdx]
 rw [e3];apply List.ext_getElem?;intro i;have e4 := congrArg (fun l => l[i]?) e2;have e5 := congrArg (fun l => l[i + 1]?) e2
 simp only [List.getElem?_map, List.getElem?_eraseIdx] at e4 e5 ⊢
 split
 ·exact e4
 exact e5
theorem PG {x y : Operand} {t t2 : TypeId} (ho : o.op = .call { callee := .builtin .delete, args := #[x, y], argTypes := #[t, t2] }) (hl : Cd P H K [t, t2] [ev fr x, ev fr y]) : E4 P o fr H K := by
 intro g w a hR hE;obtain ⟨kt, et, d, kv, id, ob, m, h1, h2, h3, h4, h5, h6, h7, h8⟩ := hl;have hx := C3 hR hE x;have hy := Fm h3 (C3 hR hE y)
 rw [h5] at hx
 rw [J8 ho];simp only [List.map_toArray, List.map_cons, List.map_nil]
 generalize hav : a.eval x = xv at hx
 cases hx with
 | map hm =>
  rename_i b;have k3 := Jw hR h6 hm;have h7' := h7;obtain ⟨⟨es, clock, e1, e2⟩, hk, hn, hst⟩ := h7;subst e1;have hks := S5.isKeys e2 hk
  have fin : ∀ o' m', S5 d o' m' → ((m' = m ∧ ∀ p ∈ m, p.1 ≠ ev fr y) ∨ ∃ j p, m[j]? = some p ∧ p.1 = ev fr y ∧ m' = m.eraseIdx j) → Obj.isCells o' = false → H7 g w K (.tuple #[]) (w.putObj b o') := fun o' m' a1 a2 a4 => by
   obtain ⟨s, hR'⟩ := hR.putObj h6 hm a4;exact ⟨g, _, _, s, hR', .tup rfl fun i hi => by simp at hi, h8 o' m' a1 a2⟩
  simp only [builtin, Builtin.delete_, hy, Sem.run_bind, run_underlying h1, Result.andThen_ok, Go.MapKept.run_getObj_map k3, run_checkKey h2 h4]
  rcases findNow_spec h4 es.toList 0 hks with ⟨f1, f2⟩ | ⟨j, e, f1, f2, f3⟩
  ·have hset : (setObj b (.map es clock)).run P w = .ok () (w.putObj b (.map es clock)) := by simp [setObj, Sem.run, k3, World.putObj]
   simp only [List.getElem?_toArray, List.getElem?_cons_zero, List.getElem?_cons_succ, Sem.run_bind, run_underlying h1, Result.andThen_ok, Go.MapKept.run_getObj_map k3, run_checkKey h2 h4, run_findKey h2 f1, hset, Sem.run_pure, D9];refine fin _ m ⟨⟨es, clock, rfl, e2⟩, hk, hn, hst⟩ (.inl ⟨rfl, fun p hp e => ?_⟩) rfl;obtain ⟨i, hi, e0⟩ := List.getElem_of_mem hp;obtain ⟨en, g1, g2, g3⟩ := (S5.entry (d := d) e2 i).2 _ (by rw [List.getElem?_eq_getElem hi, e0])
   rw [e, h3] at g2
   exact f2 en (Array.mem_toList_iff.2 (Array.mem_of_getElem? g1)) (Option.some.inj g2).symm
  have f2' : es[j]? = some e := by simpa using f2
  have hjs : j < es.size := (Array.getElem?_eq_some_iff.1 f2').1
  have hset : (setObj b (.map (es.eraseIdxIfInBounds j) clock)).run P w = .ok () (w.putObj b (.map (es.eraseIdxIfInBounds j) clock)) := by simp [setObj, Sem.run, k3, World.putObj]
  simp only [List.getElem?_toArray, List.getElem?_cons_zero, List.getElem?_cons_succ, Sem.run_bind, run_underlying h1, Result.andThen_ok, Go.MapKept.run_getObj_map k3, run_checkKey h2 h4, run_findKey h2 f1, Nat.zero_add, hset, Sem.run_pure, D9];obtain ⟨p0, g1, g2, g3⟩ := (S5.entry (d := d) e2 j).1 e f2';have hpk : p0.1 = ev fr y := JT g2 (by rw [h3, f3]);exact fin _ (m.eraseIdx j) (h7'.erase j hjs) (.inr ⟨j, p0, g1, hpk, rfl⟩) rfl
theorem Lu {c : Call} (ho : o.op = .call c) (hc : c.callee = .builtin .delete) (h : Cd P H K c.argTypes.toList (c.args.toList.map (ev fr))) : E4 P o fr H K := by
 obtain ⟨ce, args, ts⟩ := c
 simp only at hc h
 subst hc;obtain ⟨args⟩ := args;obtain ⟨ts⟩ := ts
 simp only at h
 match args, ts with
 | [x, y], [t, t2] => exact PG ho h
 | [], [] => exact h.elim
 | [], _ :: _ => exact absurd h (by simp [Cd])
 | [_], _ => exact absurd h (by simp [Cd])
 | _ :: _ :: _ :: _, _ => exact absurd h (by simp [Cd])
 | [_, _], [] => exact h.elim
 | [_, _], [_] => exact h.elim
 | [_, _], _ :: _ :: _ :: _ => exact h.elim
end
section
variable {P : Program} {o : Oper} {fr : Fr} {H : A0} {K : V → A0 → Prop}
def TP (P : Program) (t : TypeId) (l c v : V) : Prop :=
 ∃ k1 k2 n e sz by_ z, l = .int k1 n ∧ c = .int k2 n ∧ BY P t = some e ∧ BF P e = some sz ∧ 0 < sz ∧ Jv P e = some by_ ∧ 0 < by_ ∧ Eu P e = some z ∧ z.one = true ∧ z.cells.length = sz ∧ 0 ≤ n ∧ n * (by_ : Nat) ≤ 281474976710656 ∧ v = .sl (List.replicate n.toNat z) .ro
theorem RG {t : TypeId} {l c : Operand} {v : V} (ho : o.op = .makeSlice t l c) (h : TP P t (ev fr l) (ev fr c) v) (hK : K v H) : E4 P o fr H K := by
 obtain ⟨k1, k2, n, e, sz, by_, z, e1, e2, e3, e4, e5, e6, e7, e8, e9, e10, e11, e12, rfl⟩ := h;intro g w a hR hE;refine D9.mono ?_ (NU (K := fun x H' => ∃ id, H id = none ∧ x = .own id 0 n ∧ H' = upd H id (some (.arr sz (List.replicate n.toNat z)))) ho e1 e2 e3 e4 e5 e6 e7 e8 e9 e10 e11 (Int.le_refl _) e12 (fun id hid => ⟨id, hid, rfl, rfl⟩) g w a hR hE);rintro x w' ⟨g1, y, H1, s1, R1, hv, id, hid, rfl, rfl⟩;obtain ⟨g2, _, s2, R2, hfr⟩ := R1.freezeArr' (A9 _ _ _)
 have hH : upd (upd H id (some (.arr sz (List.replicate n.toNat z)))) id none = H := by
  funext x
  by_cases hx : x = id
  ·subst hx; rw [A9]; exact hid.symm
  rw [A4 _ _ hx, A4 _ _ hx]
 rw [hH] at R2
 refine ⟨g2, _, H, s1.trans s2, R2, ?_, hK⟩;have := hfr x 0 n (hv.mono s2)
 have hs : G8 (List.replicate n.toNat z) 0 n = List.replicate n.toNat z := by simp [G8]
 rw [hs] at this
 exact this
end
end Go.Ab
namespace Go.Ab
open Go.RowKit
variable [H5]
def Args (g : Gh) (w : World) (vals : Array Value) (args : List V) : Prop :=
 vals.size = args.length ∧ ∀ i, i < args.length → VR g w (vals.getD i undef) (args.getD i .bad)
def E8 (P : Program) (f : FuncId) (args : List V) (H : A0) (K : V → A0 → Prop) : Prop :=
 ∀ g w vals, Rl g H w → Args g w vals args → D9 P (H7 g w K) ((callFunc f vals).run P w)
def AD (P : Program) (fv : V) (args : List V) (H : A0) (K : V → A0 → Prop) : Prop :=
 ∀ g w v vals, Rl g H w → VR g w v fv → Args g w vals args → D9 P (H7 g w K) ((do let d ← Deferred.ofValue v vals; invoke d.target d.args : Sem Next).run P w)
def B5 (P : Program) (f : FuncId) (args : List V) (r : V) : Prop := ∀ H, E8 P f args H fun x H' => x = r ∧ H' = H
def Q6 (P : Program) (fv : V) (args : List V) (r : V) : Prop := ∀ H, AD P fv args H fun x H' => x = r ∧ H' = H
theorem H7.mono {g : Gh} {w : World} {K K' : V → A0 → Prop} (h : ∀ x H, K x H → K' x H) {v : Value} {w' : World} (p : H7 g w K v w') : H7 g w K' v w' :=
 let ⟨g', x, H', a, b, c, d⟩ := p; ⟨g', x, H', a, b, c, h _ _ d⟩
def Iz (P : Program) (fv : V) (args : List V) (H : A0) (r : V) : Prop := ∀ H', (∀ id b, H id = some b → H' id = some b) → AD P fv args H' fun x h => x = r ∧ h = H'
theorem Q6.toH {P : Program} {fv : V} {args : List V} {r : V} (h : Q6 P fv args r) (H : A0) : Iz P fv args H r := fun H' _ => h H'
theorem Iz.up {P : Program} {fv : V} {args : List V} {H H' : A0} {r : V} (h : Iz P fv args H r) (hl : ∀ id b, H id = some b → H' id = some b) : Iz P fv args H' r := fun H2 h2 => h H2 fun id b e => h2 id b (hl id b e)
theorem E8.mono {P : Program} {f : FuncId} {args : List V} {H : A0} {K K' : V → A0 → Prop} (c : E8 P f args H K) (h : ∀ x H, K x H → K' x H) : E8 P f args H K' :=
 fun g w vals hR hA => (c g w vals hR hA).mono fun _ _ p => p.mono h
theorem AD.mono {P : Program} {fv : V} {args : List V} {H : A0} {K K' : V → A0 → Prop} (c : AD P fv args H K) (h : ∀ x H, K x H → K' x H) : AD P fv args H K' :=
 fun g w v vals hR hv hA => (c g w v vals hR hv hA).mono fun _ _ p => p.mono h
theorem B5.at {P : Program} {f : FuncId} {args : List V} {r : V} (c : B5 P f args r) {H : A0} {K : V → A0 → Prop} (h : K r H) : E8 P f args H K :=
 (c H).mono fun x H' ⟨e1, e2⟩ => by rw [e1, e2]; exact h
theorem Q6.at {P : Program} {fv : V} {args : List V} {r : V} (c : Q6 P fv args r) {H : A0} {K : V → A0 → Prop} (h : K r H) : AD P fv args H K :=
 (c H).mono fun x H' ⟨e1, e2⟩ => by rw [e1, e2]; exact h
def Wk (x y : V) : Prop := ∀ g w v, VR g w v x → VR g w v y
theorem Wk.refl (x : V) : Wk x x := fun _ _ _ h => h
theorem Wk.bad (x : V) : Wk x .bad := fun _ _ _ _ => .bad _
theorem Wk.ro (xs : List V) (t : D8) : Wk (.sl xs t) (.sl xs .ro) := by
 intro g w v h
 cases h with
 | sl0 ht => exact .sl0 rfl
 | sle ht => exact .sle (.inl rfl)
 | sl vs hn hc hz hf hw h1 hv ht => exact .sl vs hn hc hz hf hw h1 hv trivial
theorem Wk.nil (t : D8) (ht : t.plain = true) : Wk (.sl [] .nil) (.sl [] t) := by
 intro g w v h
 cases h with
 | sl0 _ => exact .sl0 ht
 | sle h => rcases h with h | ⟨h, _⟩ <;> cases h
 | sl vs hn hc hz hf hw h1 hv ht => exact ht.elim
theorem Args.append {g : Gh} {w : World} {a b : Array Value} {x y : List V} (h : Args g w a x) (k : Args g w b y) : Args g w (a ++ b) (x ++ y) := by
 refine ⟨by simp [h.1, k.1], fun i hi => ?_⟩;rw [Aj]
 have e : (a ++ b).getD i undef = if i < x.length then a.getD i undef else b.getD (i - x.length) undef := by
  simp only [Array.getD_eq_getD_getElem?, Array.getElem?_append, h.1]
  split <;> rfl
 rw [e]
 split
 ·rename_i hlt; exact h.2 i hlt
 exact k.2 _ (by simp at hi; omega)
theorem E8.value {P : Program} {f : FuncId} {F C args : List V} {H : A0} {K : V → A0 → Prop} (h : E8 P f (F ++ args ++ C) H K) : AD P (.func (.func f) F C) args H K := by
 intro g w v vals hR hv hA
 cases hv with
 | func hl hv hl' hv' =>
  rename_i fs cs;have := h g w (fs ++ vals ++ cs) hR (Args.append (Args.append ⟨hl, hv⟩ hA) ⟨hl', hv'⟩)
  simpa only [Deferred.ofValue, Sem.run_bind, Sem.run_pure, Result.andThen_ok, invoke] using this
theorem B5.value {P : Program} {f : FuncId} {F C args : List V} {r : V} (h : B5 P f (F ++ args ++ C) r) : Q6 P (.func (.func f) F C) args r := fun H => (h H).value
theorem E4.le {P : Program} {o : Oper} {fr : Fr} {H : A0} {K : V → A0 → Prop} (h : E4 P o fr H fun x H' => ∃ y, Z6 x y ∧ K y H') : E4 P o fr H K :=
 fun g w a hR hE => (h g w a hR hE).mono fun v w' ⟨g', x, H', s, hR', hv, y, hxy, hK⟩ => ⟨g', y, H', s, hR', hv.le hxy, hK⟩
section
variable {P : Program} {o : Oper} {fr : Fr} {H : A0} {K : V → A0 → Prop}
theorem Ux {g : Gh} {w : World} {a : Act} (hR : Rl g H w) (hE : ER g w a fr) (l : Array Operand) : Args g w (l.map a.eval) (l.toList.map (ev fr)) := by
 refine ⟨by simp, fun i hi => ?_⟩
 have hi' : i < l.size := by simpa using hi
 have e1 : (l.map a.eval).getD i undef = a.eval l[i] := by simp [Array.getD, hi']
 have e2 : (l.toList.map (ev fr)).getD i .bad = ev fr l[i] := by simp [List.getD, hi']
 rw [e1, e2]; exact C3 hR hE _
theorem NY {x : Operand} {args : Array Operand} {ts : Array TypeId} (ho : o.op = .call { callee := .value x, args := args, argTypes := ts }) (h : AD P (ev fr x) (args.toList.map (ev fr)) H K) :
 E4 P o fr H K := by
 intro g w a hR hE;have := h g w (a.eval x) (args.map a.eval) hR (C3 hR hE x) (Ux hR hE args);unfold execOp; rw [ho]
 simpa only [resolve] using this
end
abbrev Lg := Nat → Bool
def BC (P : Program) (b : Builtin) (ts : List TypeId) (vs : List V) (v : V) : Prop :=
 match b, ts, vs with
 | .len, [t], [x] => Si P t x = some v
 | .max, _, [.int k a, .int k' b] => k = k' ∧ v = .int k (if a < b then b else a)
 | .min, _, [.int k a, .int k' b] => k = k' ∧ v = .int k (if b < a then b else a)
 | .append, [sT, yT], [.sl xs tl, .sl ys _] => (tl = .nil ∨ tl = .full) ∧ ∃ e sz by_ z xs' ys', BY P sT = some e ∧ (BY P yT).isSome = true ∧ BF P e = some sz ∧ 0 < sz ∧ Jv P e = some by_ ∧ 0 < by_ ∧ Eu P e = some z ∧ z.one = true ∧ z.cells.length = sz ∧
  G9 xs xs' ∧ G9 ys ys' ∧ xs'.all (fun x => x.cells.length == sz) = true ∧ ys'.all (fun x => x.cells.length == sz) = true ∧ (xs'.length + ys'.length) * by_ ≤ 140737488355328 ∧ v = .sl (xs' ++ ys') .ro
 | _, _, _ => False
theorem E4.lessH {P : Program} {o : Oper} {fr : Fr} {H : A0} {K : V → A0 → Prop} (h : E4 P o fr H fun x H' => ∃ y H2, Z6 x y ∧ (∀ id b, H2 id = some b → H' id = some b) ∧ K y H2) : E4 P o fr H K :=
 fun g w a hR hE => (h g w a hR hE).mono fun v w' ⟨g', x, H', s, hR', hv, y, H2, hxy, hH, hK⟩ => ⟨g', y, H2, s, hR'.less hH, hv.le hxy, hK⟩
theorem FL {P : Program} {o : Oper} {fr : Fr} {H : A0} {c : Call} {b : Builtin} {v : V} (ho : o.op = .call c) (hc : c.callee = .builtin b)
 (h : BC P b c.argTypes.toList (c.args.toList.map (ev fr)) v) {K : V → A0 → Prop} (k : K v H) : E4 P o fr H K := by
 obtain ⟨ce, args, ts⟩ := c
 simp only at hc h
 subst hc;obtain ⟨args⟩ := args;obtain ⟨ts⟩ := ts
 simp only at h
 unfold BC at h
 split at h
 ·rename_i t x e2
  match args, e2 with
  | [y], e2 =>
   simp only [List.map_cons, List.map_nil, List.cons.injEq, and_true] at e2
   subst e2;exact UW ho h k
  | [], e2 => simp at e2
  | _ :: _ :: _, e2 => simp at e2
 ·rename_i k a k' b e2;obtain ⟨rfl, rfl⟩ := h
  match args, e2 with
  | [x, y], e2 =>
   simp only [List.map_cons, List.map_nil, List.cons.injEq, and_true] at e2
   intro g w act hR hE;rw [J8 ho];have h1 := C3 hR hE x;have h2 := C3 hR hE y
   rw [e2.1] at h1; rw [e2.2] at h2
   have e1 := h1.int_inv; have e2' := h2.int_inv;simp [builtin, Builtin.max_, Builtin.max2, e1, e2', Sem.run_bind, Sem.run_pure]
   split <;> exact H7.here hR (by first | (rw [if_pos (by assumption)]; exact .int _ _) | (rw [if_neg (by omega)]; exact .int _ _) | exact .int _ _) k
  | [], e2 => simp at e2
  | [_], e2 => simp at e2
  | _ :: _ :: _ :: _, e2 => simp at e2
 ·rename_i k a k' b e2;obtain ⟨rfl, rfl⟩ := h
  match args, e2 with
  | [x, y], e2 =>
   simp only [List.map_cons, List.map_nil, List.cons.injEq, and_true] at e2
   intro g w act hR hE;rw [J8 ho];have h1 := C3 hR hE x;have h2 := C3 hR hE y
   rw [e2.1] at h1; rw [e2.2] at h2
   have e1 := h1.int_inv; have e2' := h2.int_inv;simp [builtin, Builtin.min_, Builtin.min2, e1, e2', Sem.run_bind, Sem.run_pure]
   split <;> exact H7.here hR (by first | (rw [if_pos (by assumption)]; exact .int _ _) | (rw [if_neg (by omega)]; exact .int _ _) | exact .int _ _) k
  | [], e2 => simp at e2
  | [_], e2 => simp at e2
  | _ :: _ :: _ :: _, e2 => simp at e2
 ·rename_i sT yT xs tl ys tl' e2;obtain ⟨htl, e, sz, by_, z, xs', ys', k1, k2, k3, k4, k5, k6, k7, k8, k9, l1, l2, k11, k12, k13, rfl⟩ := h
  match args, e2 with
  | [s, y], e2 =>
   simp only [List.map_cons, List.map_nil, List.cons.injEq, and_true] at e2
   have hA : DF H tl := by rcases htl with rfl | rfl <;> trivial
   have hd : C8 H tl = H := by rcases htl with rfl | rfl <;> rfl
   refine E4.lessH (GA (K := fun x H' => ∃ y H2, Z6 x y ∧ (∀ id b, H2 id = some b → H' id = some b) ∧ K y H2) ho e2.1 e2.2 k1 k2 k3 k4 k5 k6 k7 k8 k9 hA (l1.sz k11) (l2.sz k12) (by rw [l1.length, l2.length]; exact k13) (fun e => ⟨_, H, ?_, fun _ _ h => h, k⟩) fun t h1 h2 => ⟨_, H, Z6.sl _ (l1.append l2), fun id b hb => ?_, k⟩)
   ·subst e; cases l2; rw [List.append_nil]; exact Z6.sl _ l1
   rw [hd] at h2 ⊢
   by_cases e : id = t
   ·subst e; rw [h2] at hb; cases hb
   rw [A4 _ _ e]; exact hb
  | [], e2 => simp at e2
  | [_], e2 => simp at e2
  | _ :: _ :: _ :: _, e2 => simp at e2
 exact h.elim
def CO (P : Program) (H : A0) (K : V → A0 → Prop) : List TypeId → List V → Prop
 | [sT, yT], [.sl xs tl, .sl ys _] =>
  ∃ e sz by_ z, BY P sT = some e ∧ (BY P yT).isSome = true ∧ BF P e = some sz ∧ 0 < sz ∧ Jv P e = some by_ ∧ 0 < by_ ∧ Eu P e = some z ∧ z.one = true ∧ z.cells.length = sz ∧ ∃ xs' ys', G9 xs xs' ∧ G9 ys ys' ∧ DF H tl ∧
   xs'.all (fun x => x.cells.length == sz) = true ∧ ys'.all (fun x => x.cells.length == sz) = true ∧ (xs'.length + ys'.length) * by_ ≤ 140737488355328 ∧ (ys' = [] → K (.sl xs' tl) H) ∧
   ∀ t, ys' ≠ [] → C8 H tl t = none → K (.sl (xs' ++ ys') (.tok t)) (upd (C8 H tl) t (some .spare))
 | _, _ => False
theorem Gs {P : Program} {o : Oper} {fr : Fr} {H : A0} {c : Call} (ho : o.op = .call c) (hc : c.callee = .builtin .append) {K : V → A0 → Prop}
 (h : CO P H K c.argTypes.toList (c.args.toList.map (ev fr))) : E4 P o fr H K := by
 obtain ⟨ce, args, ts⟩ := c
 simp only at hc h
 subst hc;obtain ⟨args⟩ := args;obtain ⟨ts⟩ := ts
 simp only at h
 unfold CO at h
 split at h
 ·rename_i sT yT xs tl ys tl' e2
  match args, e2 with
  | [s, y], e2 =>
   simp only [List.map_cons, List.map_nil, List.cons.injEq, and_true] at e2
   obtain ⟨e, sz, by_, z, k1, k2, k3, k4, k5, k6, k7, k8, k9, xs', ys', l1, l2, k10, k11, k12, k13, k14, k15⟩ := h;refine E4.le (GA (K := fun x H' => ∃ y, Z6 x y ∧ K y H') ho e2.1 e2.2 k1 k2 k3 k4 k5 k6 k7 k8 k9 k10 (l1.sz k11) (l2.sz k12) (by rw [l1.length, l2.length]; exact k13) (fun e => ⟨_, .slt _ l1, k14 (by subst e; cases l2; rfl)⟩) fun t h1 h2 => ⟨_, .slt _ (l1.append l2), k15 t (fun e => h1 (by subst e; cases l2; rfl)) h2⟩)
  | [], e2 => simp at e2
  | [_], e2 => simp at e2
  | _ :: _ :: _ :: _, e2 => simp at e2
 exact h.elim
def GN (P : Program) (H : A0) (b : Builtin) (ts : List TypeId) (vs : List V) (v : V) : Prop :=
 match b, ts, vs with
 | .len, [t], [x] => VG P H t x = some v
 | .cap, [t], [x] => Qx P H t x = some v
 | _, _, _ => False
theorem Km {P : Program} {o : Oper} {fr : Fr} {H : A0} {c : Call} {b : Builtin} {v : V} (ho : o.op = .call c) (hc : c.callee = .builtin b)
 (h : GN P H b c.argTypes.toList (c.args.toList.map (ev fr)) v) {K : V → A0 → Prop} (k : K v H) : E4 P o fr H K := by
 obtain ⟨ce, args, ts⟩ := c
 simp only at hc h
 subst hc;obtain ⟨args⟩ := args;obtain ⟨ts⟩ := ts
 simp only at h
 unfold GN at h
 split at h
 ·rename_i t x e2
  match args, e2 with
  | [y], e2 =>
   simp only [List.map_cons, List.map_nil, List.cons.injEq, and_true] at e2
   subst e2;exact Ti ho h k
  | [], e2 => simp at e2
  | _ :: _ :: _, e2 => simp at e2
 ·rename_i t x e2
  match args, e2 with
  | [y], e2 =>
   simp only [List.map_cons, List.map_nil, List.cons.injEq, and_true] at e2
   subst e2;exact Tl ho h k
  | [], e2 => simp at e2
  | _ :: _ :: _, e2 => simp at e2
 exact h.elim
theorem Gi {H H' : A0} (hl : ∀ id b, H id = some b → H' id = some b) {id : Nat} {p : Nat × List V} (h : BD H id = some p) : BD H' id = some p := by
 have := Bh (sz := p.1) (xs := p.2) h;simp only [BD, hl _ _ this]
theorem Qc {P : Program} {H H' : A0} {t : TypeId} {x v : V} (hl : ∀ id b, H id = some b → H' id = some b) (h : Gq P H t x = some v) : Gq P H' t x = some v := by
 unfold Gq at h ⊢
 split at h
 ·rename_i id i esz off _ _
  cases hk : BD H id with
  | none => simp [hk] at h
  | some p => simpa only [hk, Gi hl hk] using h
 cases h
theorem Sn {P : Program} {H H' : A0} {t : TypeId} {x v : V} {i : Int} (hl : ∀ id b, H id = some b → H' id = some b) (h : Qk P H t x i = some v) : Qk P H' t x i = some v := by
 unfold Qk at h ⊢
 split at h
 ·rename_i e id lo n _
  cases hk : BD H id with
  | none => simp [hk] at h
  | some p => simpa only [hk, Gi hl hk] using h
 cases h
theorem NP {P : Program} {H H' : A0} {t : TypeId} {x v : V} {i j k : Option Int} (hl : ∀ id b, H id = some b → H' id = some b) (h : Ff P H t x i j k = some v) : Ff P H' t x i j k = some v := by
 unfold Ff at h ⊢
 split at h
 ·rename_i e id lo n _
  cases hk : BD H id with
  | none => cases hs : BF P e <;> simp [hk, hs] at h
  | some p => simpa only [hk, Gi hl hk] using h
 cases h
theorem Sj {P : Program} {H H' : A0} {b : Builtin} {ts : List TypeId} {vs : List V} {v : V} (hl : ∀ id b, H id = some b → H' id = some b) (h : GN P H b ts vs v) : GN P H' b ts vs v := by
 unfold GN at h ⊢
 split at h
 ·exact h
 ·rename_i t x
  unfold Qx at h ⊢
  split at h
  ·rename_i e id lo n _
   cases hk : BD H id with
   | none => simp [hk] at h
   | some p => simpa only [hk, Gi hl hk] using h
  ·exact h
  ·exact h
  cases h
 exact h.elim
def ownN (x : V) : Nat :=
 match x with
 | .own _ _ n => n.toNat
 | _ => 0
def Gt (H : A0) (K : V → A0 → Prop) (sz by_ : Nat) (z : V) (x : V) (ys : List V) : Prop :=
 match x with
 | .own id lo n => ∃ xs, H id = some (.arr sz xs) ∧
  (lo + n + (ys.length : Nat) ≤ (xs.length : Nat) → K (.own id lo (n + (ys.length : Nat))) (upd H id (some (.arr sz (U4 xs (lo + n).toNat ys))))) ∧
  ((xs.length : Nat) < lo + n + (ys.length : Nat) → (n.toNat + ys.length) * by_ ≤ 140737488355328 ∧ ∀ t k, H t = none → K (.own t 0 (n + (ys.length : Nat))) (upd H t (some (.arr sz (G8 xs lo n ++ ys ++ List.replicate k z)))))
 | x => (x = .sl [] .nil ∨ x = .sl [] .full) ∧ ys.length * by_ ≤ 140737488355328 ∧ ∀ t k, H t = none → K (.own t 0 (ys.length : Nat)) (upd H t (some (.arr sz (ys ++ List.replicate k z))))
theorem ET {H : A0} {K K' : V → A0 → Prop} {sz by_ : Nat} {z x : V} {ys : List V} (h : Gt H K sz by_ z x ys) (hk : ∀ v H', K v H' → K' v H') : Gt H K' sz by_ z x ys := by
 unfold Gt at h ⊢
 split at h
 ·obtain ⟨xs, m1, m3, m4⟩ := h;exact ⟨xs, m1, fun e => hk _ _ (m3 e), fun e => ⟨(m4 e).1, fun t k e' => hk _ _ ((m4 e).2 t k e')⟩⟩
 obtain ⟨m1, m2, m3⟩ := h;exact ⟨m1, m2, fun t k e => hk _ _ (m3 t k e)⟩
def HQ (P : Program) (H : A0) (K : V → A0 → Prop) : List TypeId → List V → Prop
 | [sT, yT], [x, y] =>
  ∃ e sz by_ z, BY P sT = some e ∧ BF P e = some sz ∧ 0 < sz ∧ Jv P e = some by_ ∧ 0 < by_ ∧ Eu P e = some z ∧ z.one = true ∧ z.cells.length = sz ∧
   (((BY P yT).isSome = true ∧ ∃ ys', Jf sz H y ys' ∧ Gt H K sz by_ z x ys') ∨
    ((∃ k', P.underlying yT = some (.int k')) ∧ ∃ k m, y = .int k m ∧ 0 ≤ m ∧ (ownN x + m.toNat) * by_ ≤ 140737488355328 ∧ Gt H K sz by_ z x (List.replicate m.toNat z)))
 | _, _ => False
theorem Lz {P : Program} {o : Oper} {fr : Fr} {H : A0} {c : Call} (ho : o.op = .call c) (hc : c.callee = .builtin .append) {K : V → A0 → Prop}
 (h : HQ P H K c.argTypes.toList (c.args.toList.map (ev fr))) : E4 P o fr H K := by
 obtain ⟨ce, args, ts⟩ := c
 simp only at hc h
 subst hc;obtain ⟨args⟩ := args;obtain ⟨ts⟩ := ts
 simp only at h
 unfold HQ at h
 split at h
 ·rename_i sT yT x y' e2
  match args, e2 with
  | [s, y], e2 =>
   simp only [List.map_cons, List.map_nil, List.cons.injEq, and_true] at e2
   obtain ⟨e, sz, by_, z, k1, k3, k4, k5, k6, k7, k8, k9, h⟩ := h
   rcases h with ⟨k2, ys', l1, l4⟩ | ⟨⟨k', k2⟩, k, m, l1, l2, l0, l4⟩
   ·unfold Gt at l4
    split at l4
    ·obtain ⟨xs, m1, m3, m4⟩ := l4;exact NR ho e2.1 m1 (by rw [e2.2]; exact l1) k1 k2 k3 k4 k5 k6 k7 k8 k9 m3 m4
    obtain ⟨m1, m2, m3⟩ := l4;exact MH ho (by rw [e2.1]; exact m1) (by rw [e2.2]; exact l1) k1 k2 k3 k4 k5 k6 k7 k8 k9 m2 m3
   have hm : ((m.toNat : Nat) : Int) = m := by omega
   unfold Gt at l4
   simp only [List.length_replicate, hm] at l4
   split at l4
   ·rename_i id lo n;obtain ⟨xs, m1, m3, m4⟩ := l4;exact MG ho e2.1 (e2.2.trans l1) m1 k1 k2 k3 k4 k5 k6 k7 k8 k9 l2 l0 m3 fun e => (m4 e).2
   obtain ⟨m1, m2, m3⟩ := l4;exact Lj ho (by rw [e2.1]; exact m1) (e2.2.trans l1) k1 k2 k3 k4 k5 k6 k7 k8 k9 l2 m2 m3
  | [], e2 => simp at e2
  | [_], e2 => simp at e2
  | _ :: _ :: _ :: _, e2 => simp at e2
 exact h.elim
def OW (P : Program) (H : A0) (K : V → A0 → Prop) : List TypeId → List V → Prop
 | [sT, _], [.own id lo n, y] =>
  ∃ e sz xs ys', BY P sT = some e ∧ BF P e = some sz ∧ 0 < sz ∧ H id = some (.arr sz xs) ∧ Jf sz H y ys' ∧
   K (.int .i64 (if n < (ys'.length : Nat) then n else (ys'.length : Nat))) (upd H id (some (.arr sz (U4 xs lo.toNat (ys'.take n.toNat)))))
 | _, _ => False
theorem OV {P : Program} {o : Oper} {fr : Fr} {H : A0} {c : Call} (ho : o.op = .call c) (hc : c.callee = .builtin .copy) {K : V → A0 → Prop}
 (h : OW P H K c.argTypes.toList (c.args.toList.map (ev fr))) : E4 P o fr H K := by
 obtain ⟨ce, args, ts⟩ := c
 simp only at hc h
 subst hc;obtain ⟨args⟩ := args;obtain ⟨ts⟩ := ts
 simp only at h
 unfold OW at h
 split at h
 ·rename_i sT yT id lo n y' e2
  match args, e2 with
  | [s, y], e2 =>
   simp only [List.map_cons, List.map_nil, List.cons.injEq, and_true] at e2
   obtain ⟨e, sz, xs, ys', k1, k2, k3, k4, k5, k8⟩ := h;exact RF ho e2.1 k4 (by rw [e2.2]; exact k5) k1 k2 k3 k8
  | [], e2 => simp at e2
  | [_], e2 => simp at e2
  | _ :: _ :: _ :: _, e2 => simp at e2
 exact h.elim
def KK (P : Program) (H : A0) (K : V → A0 → Prop) : List TypeId → List V → Prop
 | [sT], [.own id lo n] =>
  ∃ e sz z xs, BY P sT = some e ∧ BF P e = some sz ∧ 0 < sz ∧ Eu P e = some z ∧ z.one = true ∧ z.cells.length = sz ∧ H id = some (.arr sz xs) ∧ K (.tup []) (upd H id (some (.arr sz (U4 xs lo.toNat (List.replicate n.toNat z)))))
 | _, _ => False
theorem Nr {P : Program} {o : Oper} {fr : Fr} {H : A0} {c : Call} (ho : o.op = .call c) (hc : c.callee = .builtin .clear) {K : V → A0 → Prop}
 (h : KK P H K c.argTypes.toList (c.args.toList.map (ev fr))) : E4 P o fr H K := by
 obtain ⟨ce, args, ts⟩ := c
 simp only at hc h
 subst hc;obtain ⟨args⟩ := args;obtain ⟨ts⟩ := ts
 simp only at h
 unfold KK at h
 split at h
 ·rename_i sT id lo n e2
  match args, e2 with
  | [s], e2 =>
   simp only [List.map_cons, List.map_nil, List.cons.injEq, and_true] at e2
   obtain ⟨e, sz, z, xs, k1, k2, k3, k4, k5, k6, k7, k8⟩ := h;exact PE ho e2 k7 k1 k2 k3 k4 k5 k6 k8
  | [], e2 => simp at e2
  | _ :: _ :: _, e2 => simp at e2
 exact h.elim
def IM (P : Program) (H : A0) (K : V → A0 → Prop) (t : TypeId) (l c : V) : Prop :=
 match l, c with
 | .int _ n, .int _ m => ∃ e sz by_ z, BY P t = some e ∧ BF P e = some sz ∧ 0 < sz ∧ Jv P e = some by_ ∧ 0 < by_ ∧ Eu P e = some z ∧ z.one = true ∧ z.cells.length = sz ∧ 0 ≤ n ∧ n ≤ m ∧ m * by_ ≤ 281474976710656 ∧
  ∀ id, H id = none → K (.own id 0 n) (upd H id (some (.arr sz (List.replicate m.toNat z))))
 | _, _ => False
def GG (P : Program) (o : Oper) (ρ : Operand → V) (H : A0) (v : V) : Prop :=
 match o.op with
 | .move x => v = ρ x
 | .assign x => v = ρ x
 | .pick c x y =>
  match ρ c with
  | .bool t => v = if t then ρ x else ρ y
  | _ => False
 | .box _ x => (ρ x).one = true ∧ v = .eref (ρ x).cells 0
 | .build t ps => Ix P t (ps.toList.map fun p => (p.1, ρ p.2)) = some v
 | .buildSlice t n ps => T9 P t n (ps.toList.map fun p => (p.1, ρ p.2)) = some v
 | .makeSlice t l c => TP P t (ρ l) (ρ c) v
 | .load t x => Dx P H t (ρ x) = some v ∨ Gq P H t (ρ x) = some v
 | .nilCheck x => QO (ρ x) = true ∧ v = ρ x
 | .binOp op t x y _ => Je P op t (ρ x) (ρ y) = some v
 | .unOp op _ x => unV op (ρ x) = some v
 | .convert s d x => Mk P s d (ρ x) = some v ∨ Ml P H s d (ρ x) v
 | .lookup t x y ok => Hy P H t (ρ x) (ρ y) ok v
 | .makeInterface t x => XN P t = false ∧ v = .iface t (ρ x)
 | .makeFunc fn fs cs => v = .func fn (fs.toList.map ρ) (cs.toList.map ρ)
 | .slice t x lo hi mx =>
  match Y7 (lo.map ρ), Y7 (hi.map ρ), Y7 (mx.map ρ) with
  | some l, some h, some m => JJ P t (ρ x) l h m = some v ∨ Ff P H t (ρ x) l h m = some v
  | _, _, _ => False
 | .fieldAddr t x f => Dj P t (ρ x) f = some v
 | .field t x f => KA P t (ρ x) f = some v
 | .indexAddr t x y =>
  match ρ y with
  | .int _ i => (∃ u, AY P t (ρ x) i = some u ∧ Z6 u v) ∨ Qk P H t (ρ x) i = some v
  | _ => False
 | .index t x y =>
  match ρ y with
  | .int _ i => Io P t (ρ x) i = some v
  | _ => False
 | .extract x n =>
  match ρ x with
  | .tup cs => cs[n]? = some v
  | _ => False
 | .call c =>
  match c.callee with
  | .value x => Iz P (ρ x) (c.args.toList.map ρ) H v
  | .builtin b => BC P b c.argTypes.toList (c.args.toList.map ρ) v ∨ GN P H b c.argTypes.toList (c.args.toList.map ρ) v
  | _ => False
 | _ => False
theorem Qa {P : Program} {H H' : A0} {t : TypeId} {x v : V} (hl : ∀ id b, H id = some b → H' id = some b) (h : Dx P H t x = some v) : Dx P H' t x = some v := by
 unfold Dx at h ⊢
 split at h
 ·exact h
 ·rename_i ag sz id off _ _
  cases hk : H id with
  | none => simp [hk] at h
  | some b => simpa only [hk, hl _ _ hk] using h
 cases h
theorem TF {P : Program} {o : Oper} {ρ : Operand → V} {H H' : A0} {v : V} (hl : ∀ id b, H id = some b → H' id = some b) (h : GG P o ρ H v) : GG P o ρ H' v := by
 unfold GG at h ⊢
 cases ho : o.op <;> simp only [ho] at h ⊢ <;> first | exact h | exact h.imp (Qa hl) (Qc hl) | exact h.imp (fun h => h) (Qu hl) | exact Nb hl h | skip
 ·split at h
  ·exact h.imp (fun h => h) (NP hl)
  exact h
 ·split at h
  ·exact h.imp (fun h => h) (Sn hl)
  exact h
 split at h
 ·exact h.up hl
 ·exact h.imp (fun h => h) (Sj hl)
 exact h
theorem FV {P : Program} {o : Oper} {fr : Fr} {H : A0} {v : V} (h : GG P o (ev fr) H v) {K : V → A0 → Prop} (k : K v H) : E4 P o fr H K := by
 unfold GG at h
 split at h
 ·rename_i x ho; subst h; exact NS ho k
 ·rename_i x ho; subst h; exact JM ho k
 ·rename_i c x y ho
  split at h
  ·rename_i t hc; subst h; exact Tg ho hc k
  exact h.elim
 ·rename_i t x ho; obtain ⟨h1, rfl⟩ := h; exact Fg ho h1 k
 ·rename_i t ps ho; exact RM ho h k
 ·rename_i t n ps ho; exact JL ho h k
 ·rename_i t l c ho; exact RG ho h k
 ·rename_i t x ho; exact h.elim (fun h => Tn ho h k) fun h => RE ho h k
 ·rename_i x ho; obtain ⟨h1, rfl⟩ := h; exact MI ho h1 k
 ·rename_i op t x y ty ho; exact RN ho h k
 ·rename_i op t x ho; exact Tf ho h k
 ·rename_i s d x ho; exact h.elim (fun h => NX ho h k) fun h => RK ho h k
 ·rename_i t x y ok ho; exact PF ho h k
 ·rename_i t x ho; obtain ⟨h1, rfl⟩ := h; exact Hi ho h1 k
 ·rename_i fn fs cs ho; subst h; exact MK ho k
 ·rename_i t x lo hi mx ho
  split at h
  ·rename_i l hh m e1 e2 e3; exact h.elim (fun h => RC ho e1 e2 e3 h k) fun h => NQ ho e1 e2 e3 h k
  exact h.elim
 ·rename_i t x f ho; exact Ll ho h k
 ·rename_i t x f ho; exact RI ho h k
 ·rename_i t x y ho
  split at h
  ·rename_i kk i e
   rcases h with ⟨u, h1, h2⟩ | h
   rotate_left
   ·exact Tj ho e h k
   exact E4.le (Lk (K := fun x H' => ∃ y, Z6 x y ∧ K y H') ho e h1 ⟨v, h2, k⟩)
  exact h.elim
 ·rename_i t x y ho
  split at h
  ·rename_i kk i e; exact RH ho e h k
  exact h.elim
 ·rename_i x n ho
  split at h
  ·rename_i cs e; exact NW ho e h k
  exact h.elim
 ·rename_i c ho
  split at h
  ·rename_i x hc;obtain ⟨ce, args, ts⟩ := c
   simp only at hc h
   subst hc;exact NY ho ((h H fun _ _ e => e).mono fun x H' ⟨e1, e2⟩ => by rw [e1, e2]; exact k)
  ·rename_i b hc; exact h.elim (fun h => FL ho hc h k) fun h => Km ho hc h k
  exact h.elim
 exact h.elim
def XL (K : V → A0 → Prop) (x : V) (H : A0) : Prop := ∃ y H2, Z6 x y ∧ (∀ id b, H2 id = some b → H id = some b) ∧ K y H2
def Dr (P : Program) (A : Lg) (o : Oper) (ρ : Operand → V) (H : A0) (K : V → A0 → Prop) : Prop :=
 match o.op with
 | .alloc t => (∃ z, Eu P t = some z ∧ z.one = true ∧ ∀ id, H id = none → ∃ ds, G9 z.cells ds ∧ K (.ref id 0) (upd H id (some (.cells ds)))) ∨
  Eu P t = some (.sl [] .nil) ∧ ∃ sz, ∀ q id, H q = none → upd H q (some (.arr sz [])) id = none → K (.ref id 0) (upd (upd H q (some (.arr sz []))) id (some (.cells [.own q 0 0])))
 | .box _ x =>
  (ρ x).one = true ∧ if A (o.dst.getD 0) then ∀ id, H id = none → K (.ref id 0) (upd H id (some (.cells (ρ x).cells))) else K (.eref (ρ x).cells 0) H
 | .store t x y => (∃ z H', Z6 (ρ y) z ∧ Gz P H t (ρ x) z = some H' ∧ K .bad H') ∨ ∃ z H', Z6 (ρ y) z ∧ MC P H t (ρ x) z = some H' ∧ K .bad H'
 | .makeSlice t l c => IM P H K t (ρ l) (ρ c) ∨ IM P H (TU K) t (ρ l) (ρ c)
 | .assign x => K (ρ x) H ∨ Wv H K (ρ x)
 | .move x => K (ρ x) H ∨ Wv H K (ρ x)
 | .buildSlice t n ps => (∃ v, GG P o ρ H v ∧ K v H) ∨ litO P H K t n (ps.toList.map fun p => (p.1, ρ p.2))
 | .makeMap t r => r = none ∧ VC H K
 | .mapUpdate t x y z => FN P H K t (ρ x) (ρ y) (ρ z)
 | .insert t x y z => FN P H K t (ρ x) (ρ y) (ρ z)
 | .range t x => JV P H K t (ρ x)
 | .next x s => s = false ∧ Ov H K (ρ x)
 | .entry x => KB H K (ρ x)
 | .binOp op t x y _ => (∃ v, GG P o ρ H v ∧ K v H) ∨ ∃ q e p, Rk op = some q ∧ BY P t = some e ∧ Se (ρ x) = some p ∧ ρ y = .sl [] .nil ∧ (p → K (.bool q) H) ∧ K (.bool (!q)) H
 | .call c =>
  match c.callee with
  | .value x => AD P (ρ x) (c.args.toList.map ρ) H K
  | .builtin .append => CO P H K c.argTypes.toList (c.args.toList.map ρ) ∨ HQ P H K c.argTypes.toList (c.args.toList.map ρ) ∨ CO P H (XL K) c.argTypes.toList (c.args.toList.map ρ)
  | .builtin .copy => OW P H K c.argTypes.toList (c.args.toList.map ρ)
  | .builtin .clear => KK P H K c.argTypes.toList (c.args.toList.map ρ)
  | .builtin .delete => Cd P H K c.argTypes.toList (c.args.toList.map ρ)
  | .builtin b => ∃ v, (BC P b c.argTypes.toList (c.args.toList.map ρ) v ∨ GN P H b c.argTypes.toList (c.args.toList.map ρ) v) ∧ K v H
  | _ => False
 | _ => ∃ v, GG P o ρ H v ∧ K v H
theorem PI {P : Program} {o : Oper} {fr : Fr} {H : A0} {K : V → A0 → Prop} {t : TypeId} (ho : o.op = .alloc t) (hz : Eu P t = some (.sl [] .nil)) (sz : Nat)
 (h : ∀ q id, H q = none → upd H q (some (.arr sz [])) id = none → K (.ref id 0) (upd (upd H q (some (.arr sz []))) id (some (.cells [.own q 0 0])))) : E4 P o fr H K := by
 intro g w a hR hE;obtain ⟨v, e, hv⟩ := AO hz
 have hr : VR g w v (.sl [] .nil) := by rw [e]; exact BA g w v
 obtain ⟨g1, s1, R1, hn, hv1⟩ := BN hR sz (.inl rfl) hr;obtain ⟨g', id, hid, s, hR', hv'⟩ := DD R1 t hv1 rfl;unfold execOp; rw [ho];simp only [Instr.alloc, Sem.run_bind, hv, Result.andThen_ok, D9];exact ⟨g', _, _, s1.trans s, hR', hv', h _ id hn hid⟩
theorem Rl.chgCells {g : Gh} {H : A0} {w : World} (h : Rl g H w) {id : Nat} {cs ds : List V} (hk : H id = some (.cells cs)) (el : cs.length = ds.length)
 (hv : ∀ (j : Nat) u, j < cs.length → VR g w u (cs.getD j .bad) → VR g w u (ds.getD j .bad)) : Rl g (upd H id (some (.cells ds))) w := by
 have hat : ∀ x, g.at (upd H id (some (.cells ds))) x = g.at H x := by
  intro x
  by_cases hx : x = id
  ·subst hx; simp only [Gh.at, A9, hk]
  simp only [Gh.at, A4 _ _ hx]
 refine ⟨fun x k hx => ?_, fun x x' y h1 h2 => h.inj x x' y (hat x ▸ h1) (hat x' ▸ h2), h.frz, fun x hx => ?_, h.bnd, h.glb⟩
 ·by_cases hxe : x = id
  ·subst hxe; rw [A9] at hx; cases hx
   obtain ⟨b, c, T, h1, h2, h3, h4, h5, h6⟩ := h.blk x _ hk;exact ⟨b, c, T, h1, h2, h3, by omega, fun j hj => ⟨(h5 j (by omega)).1, hv j _ (by omega) (h5 j (by omega)).2⟩, h6⟩
  rw [A4 _ _ hxe] at hx; exact h.blk x k hx
 obtain ⟨a1, a2, a3⟩ := h.nxt x hx
 have hne : x ≠ id := fun e => by subst e; rw [hk] at a3; cases a3
 exact ⟨a1, a2, by rw [A4 _ _ hne]; exact a3⟩
theorem PH {P : Program} {o : Oper} {fr : Fr} {H : A0} {K : V → A0 → Prop} {t : TypeId} {z : V} (ho : o.op = .alloc t) (hz : Eu P t = some z) (h1 : z.one = true) (h : ∀ id, H id = none → ∃ ds, G9 z.cells ds ∧ K (.ref id 0) (upd H id (some (.cells ds)))) : E4 P o fr H K := by
 intro g w a hR hE;refine (RO (K := fun x H' => ∃ id, H id = none ∧ x = .ref id 0 ∧ H' = upd H id (some (.cells z.cells))) ho hz h1 (fun id hid => ⟨id, hid, rfl, rfl⟩) g w a hR hE).mono fun v w' ⟨g', x, H', s, hR', hv, id, hid, e1, e2⟩ => ?_;subst e1; subst e2;obtain ⟨ds, hle, hK⟩ := h id hid;have := hR'.chgCells (A9 _ _ _) (ds := ds) hle.length fun j u _ hu => hu.le (hle.at j)
 rw [Q9] at this
 exact ⟨g', _, _, s, this, hv, hK⟩
theorem Sc {P : Program} {A : Lg} {o : Oper} {fr : Fr} {H : A0} {K : V → A0 → Prop} (h : Dr P A o (ev fr) H K) : E4 P o fr H K := by
 unfold Dr at h
 split at h
 ·rename_i t ho
  rcases h with ⟨z, h1, h2, h3⟩ | ⟨h1, sz, h2⟩
  ·exact PH ho h1 h2 h3
  exact PI ho h1 sz h2
 ·rename_i t x ho;obtain ⟨h1, h2⟩ := h
  split at h2
  ·exact Lm ho h1 h2
  exact Fg ho h1 h2
 ·rename_i t x y ho
  rcases h with ⟨z, H', h0, h1, h2⟩ | ⟨z, H', h0, h1, h2⟩
  ·exact LH ho (fun _ _ _ h => h.le h0) h1 h2
  exact PD ho h0 h1 h2
 ·rename_i t l c ho
  have key : ∀ K, IM P H K t (ev fr l) (ev fr c) → E4 P o fr H K := by
   intro K h
   unfold IM at h
   split at h
   ·rename_i k1 n k2 m e1 e2;obtain ⟨e, sz, by_, z, q1, q2, q3, q4, q5, q6, q7, q8, q9, q10, q11, q12⟩ := h;exact NU ho e1 e2 q1 q2 q3 q4 q5 q6 q7 q8 q9 q10 q11 q12
   exact h.elim
  exact h.elim (key K) fun h => E4.lessRow (key _ h)
 ·rename_i x ho; exact h.elim (JM ho) fun ⟨h1, sz, h2⟩ => IG (.inl ho) h1 sz h2
 ·rename_i x ho; exact h.elim (NS ho) fun ⟨h1, sz, h2⟩ => IG (.inr ho) h1 sz h2
 ·rename_i t n ps ho
  rcases h with ⟨v, h1, h2⟩ | ⟨e, sz, xs, ys, h1, h2, h3, h4, h5⟩
  ·exact FV h1 h2
  exact Th ho h1 h2 h3 h4 h5
 ·rename_i t r ho; obtain ⟨rfl, h⟩ := h; exact h.elim (NT ho) (MJ ho)
 ·rename_i t x y z ho; exact Gm (.inl ho) h
 ·rename_i t x y z ho; exact Gm (.inr ho) h
 ·rename_i t x ho; exact RD ho h
 ·rename_i x s ho; obtain ⟨rfl, h⟩ := h; exact Tm ho h
 ·rename_i x ho; exact RJ ho h
 ·rename_i op t x y ty ho
  rcases h with ⟨v, h1, h2⟩ | ⟨q, e, xs, q1, q2, q3, q4, q5, q6⟩
  ·exact FV h1 h2
  exact UV ho q1 q2 q3 q4 q5 q6
 ·rename_i c ho
  split at h
  ·rename_i x hc;obtain ⟨ce, args, ts⟩ := c
   simp only at hc h
   subst hc;exact NY ho h
  ·rename_i hc; exact h.elim (Gs ho hc) fun h => h.elim (Lz ho hc) fun h => E4.lessH (Gs ho hc h)
  ·rename_i hc; exact OV ho hc h
  ·rename_i hc; exact Nr ho hc h
  ·rename_i hc; exact Lu ho hc h
  ·rename_i b _ _ _ _ hc; obtain ⟨v, h1, h2⟩ := h; exact h1.elim (fun h1 => FL ho hc h1 h2) fun h1 => Km ho hc h1 h2
  exact h.elim
 obtain ⟨v, h1, h2⟩ := h; exact FV h1 h2
end Go.Ab
namespace Go.Ab
open Go.RowKit
variable [H5]
def Fw (r : Option Nat) : Fence := { fn := fun _ => True, depth := none, alive := false, round := r }
theorem KL {r : Option Nat} {P : Program} {f : FuncId} {args : Array Value} {w : World} {R : Ending → World → Prop} (h : CallsIn Fence.wide 0 P f args w R) : CallsIn (Fw r) 0 P f args w R := h
theorem PO {r : Option Nat} {P : Program} {l : Nat} {f : FuncId} {tmps : Array Value} {c d : Code} {w : World} {R : Ending → World → Prop} (h : RoundIn Fence.wide 0 P l f tmps c d w R) : RoundIn (Fw r) 0 P l f tmps c d w R := h
theorem Ou {P : Program} {A : Lg} {o : Oper} {ρ : Operand → V} {H : A0} {K : V → A0 → Prop} (h : Dr P A o ρ H K) : ∀ c, o.op ≠ .defer c := by
 intro c hc
 simp [Dr, GG, hc] at h
theorem Dd {P : Program} {r : Option Nat} {o : Oper} {a : Act} {next : Act → World → Prop} {Q : Exit → Act → World → Prop} {K : Value → World → Prop} {x : Result Next} (h : D9 P K x)
 (hk : ∀ v w, K v w → next (a.put o.dst v) w) : o.uponIn (Fw r) 0 P a next Q x := by
 cases x with
 | halt x w => exact h.elim
 | ok n w =>
  cases n <;> first
   | exact h.elim
   | exact hk _ _ h
   | exact ⟨fun h => by simp [Fw] at h, (KL h).mono fun e w' ⟨v, e1, e2⟩ => by subst e1; exact hk _ _ e2⟩
   | exact ⟨fun h => by simp [Fw] at h, (PO h).mono fun e w' ⟨v, e1, e2⟩ => by subst e1; exact hk _ _ e2⟩
def CD (nt : Nat) : Option Tmp → Bool
 | some d => d < nt
 | none => true
def V9 (ops : Array Oper) (fr : Fr) (o : Oper) : Option Bool :=
 match o.guard with
 | none => some true
 | some (j, want) =>
  match (ops[j]?).bind (·.dst) with
  | some d =>
   match fr.s d with
   | .bool b => some (b == want)
   | .tup _ => some false
   | _ => none
  | none => none
def DN (P : Program) (A : Lg) (nt : Nat) (ops : Array Oper) : List Oper → Fr → A0 → (Fr → A0 → Prop) → Prop
 | [], fr, H, K => K fr H
 | o :: rest, fr, H, K =>
  CD nt o.dst = true ∧
   match V9 ops fr o with
   | some true => Dr P A o (ev fr) H fun v H' => DN P A nt ops rest (fr.put o.dst v) H' K
   | some false => DN P A nt ops rest (fr.put o.dst (.tup [])) H K
   | none => False
def Pn (nt : Nat) (g : Gh) (w : World) (Q : Exit → Fr → A0 → Prop) (e : Exit) (a' : Act) (w' : World) : Prop :=
 ∃ g' fr' H', N4 g w g' w' ∧ Rl g' H' w' ∧ FR nt g' w' a' fr' ∧ Q e fr' H'
def UD (g : Gh) : Option Nat → Option Nat → Prop
 | none, r => r = none
 | some id, r => ∃ b, g.mu id = some b ∧ r = some b
theorem UD.mono {g g' : Gh} {w w' : World} {rd r : Option Nat} (h : UD g rd r) (s : N4 g w g' w') : UD g' rd r := by
 cases rd with
 | none => exact h
 | some id => obtain ⟨b, h1, h2⟩ := h; exact ⟨b, s.mu _ _ h1, h2⟩
def O9 (P : Program) (nt : Nat) (rd : Option Nat) (c : Code) (fr : Fr) (H : A0) (Q : Exit → Fr → A0 → Prop) : Prop :=
 ∀ r g w a, UD g rd r → Rl g H w → FR nt g w a fr → c.wpIn (Fw r) 0 P (Pn nt g w Q) a w
theorem Pn.later {nt : Nat} {g g' : Gh} {w w' : World} {Q : Exit → Fr → A0 → Prop} {e : Exit} {a : Act} {w2 : World} (s : N4 g w g' w') (h : Pn nt g' w' Q e a w2) : Pn nt g w Q e a w2 :=
 let ⟨g2, fr, H, s2, x⟩ := h; ⟨g2, fr, H, s.trans s2, x⟩
theorem Pn.mono {nt : Nat} {g : Gh} {w : World} {Q Q' : Exit → Fr → A0 → Prop} (hq : ∀ e fr H, Q e fr H → Q' e fr H) {e : Exit} {a : Act} {w2 : World} (h : Pn nt g w Q e a w2) : Pn nt g w Q' e a w2 :=
 let ⟨g2, fr, H, s2, a, b, c⟩ := h; ⟨g2, fr, H, s2, a, b, hq _ _ _ c⟩
theorem O9.mono {P : Program} {nt : Nat} {rd : Option Nat} {c : Code} {fr : Fr} {H : A0} {Q Q' : Exit → Fr → A0 → Prop} (h : O9 P nt rd c fr H Q) (hq : ∀ e fr H, Q e fr H → Q' e fr H) : O9 P nt rd c fr H Q' :=
 fun r g w a hr hR hF => wpIn_mono (h r g w a hr hR hF) fun _ _ _ => Pn.mono hq
section
variable {P : Program} {nt : Nat} {rd : Option Nat} {fr : Fr} {H : A0} {Q : Exit → Fr → A0 → Prop}
theorem O5 {ops : Array Oper} {g : Gh} {w : World} {a : Act} {o : Oper} {b : Bool} (hE : ER g w a fr) (h : V9 ops fr o = some b) : Region.wanted o (yielded ops a.tmps) = b := by
 unfold V9 at h
 unfold Region.wanted
 split at h
 ·rename_i hg; cases h; simp [hg]
 rename_i j want hg;simp only [hg]
 split at h
 ·rename_i d hd
  split at h
  ·rename_i c hc;cases h;have := hE d
   rw [hc] at this
   have hv := this.bool_inv
   have ht : a.tmps[d]? = some (.bool c) := by
    rw [Array.getD_eq_getD_getElem?] at hv
    cases hx : a.tmps[d]? with
    | none => rw [hx] at hv; simp [undef] at hv
    | some y => rw [hx] at hv; simpa using hv
   simp only [yielded, hd, Option.bind_some, ht];cases c <;> cases want <;> rfl
  ·rename_i vs hc;cases h;have := hE d
   rw [hc] at this
   have hv : ∃ us, a.tmps.getD d undef = .tuple us := by
    generalize a.tmps.getD d undef = z at this
    cases this with
    | tup h1 h2 => exact ⟨_, rfl⟩
   obtain ⟨us, hv⟩ := hv
   have hy : yielded ops a.tmps j = none := by
    unfold yielded;simp only [hd, Option.bind_some]
    rw [Array.getD_eq_getD_getElem?] at hv
    cases hx : a.tmps[d]? with
    | none => rfl
    | some y => rw [hx] at hv; simp at hv; subst hv; rfl
   rw [hy]; cases want <;> rfl
  cases h
 cases h
theorem LE {A : Lg} {r : Option Nat} {g : Gh} {w : World} {a : Act} {o : Oper} {K : V → A0 → Prop} {next : Act → World → Prop} {Q : Exit → Act → World → Prop} (hR : Rl g H w) (hF : FR nt g w a fr) (hd : CD nt o.dst = true)
 (h : Dr P A o (ev fr) H K) (hk : ∀ g' w' a' v H', N4 g w g' w' → Rl g' H' w' → FR nt g' w' a' (fr.put o.dst v) → K v H' → next a' w') : o.wpIn (Fw r) 0 P a w next Q := by
 refine ⟨fun _ _ => trivial, ?_⟩;rw [Oper.semAt_eq _ _ _ (Ou h)];refine Dd (Sc h g w a hR hF.s) fun v w' ⟨g', x, H', s, hR', hv, hK⟩ => ?_;refine hk g' w' _ x H' s hR' ((hF.mono s).put (fun t ht => ?_) hv) hK
 rw [ht] at hd; simpa [CD] using hd
theorem Ka {A : Lg} {ops : Array Oper} {r : Option Nat} {K : Fr → A0 → Prop} {Q : Exit → Act → World → Prop} {g0 : Gh} {w0 : World} (hQ : ∀ g w a fr H, N4 g0 w0 g w → Rl g H w → FR nt g w a fr → K fr H → Q .normal a w) :
 ∀ (m i : Nat) (fr : Fr) (H : A0), i + m = ops.size → DN P A nt ops (ops.toList.drop i) fr H K → ∀ g w a, N4 g0 w0 g w → Rl g H w → FR nt g w a fr → wpOpsIn (Fw r) 0 P ops Q (List.range' i m) a w
 | 0, i, fr, H, hi, h, g, w, a, s, hR, hF => by
  have : ops.toList.drop i = [] := by simp; omega
  rw [this] at h
  exact hQ g w a fr H s hR hF h
 | m + 1, i, fr, H, hi, h, g, w, a, s, hR, hF => by
  have hlt : i < ops.toList.length := by simp; omega
  have hlt' : i < ops.size := by omega
  rw [List.drop_eq_getElem_cons hlt] at h
  simp only [DN, Array.getElem_toList] at h
  obtain ⟨hd, h⟩ := h;simp only [List.range'_succ, wpOpsIn, Array.getElem?_eq_getElem hlt'];have ih := Ka (A := A) (ops := ops) (r := r) (K := K) hQ m (i + 1)
  split at h
  ·rename_i hg;rw [if_pos (O5 hF.s hg)];exact LE hR hF hd h fun g' w' a' v H' s' hR' hF' hK => ih _ _ (by omega) hK g' w' a' (s.trans s') hR' hF'
  ·rename_i hg;rw [if_neg (by rw [O5 hF.s hg]; simp)];refine ⟨fun _ _ => trivial, ih _ _ (by omega) h g w _ s hR (hF.put (fun t ht => ?_) (VR.und _ _))⟩
   rw [ht] at hd; simpa [CD] using hd
  exact h.elim
theorem O9.region {A : Lg} {id : Nat} {ops : Array Oper} (h : DN P A nt ops ops.toList fr H (Q .normal)) : O9 P nt rd (.region id ops false) fr H Q := by
 intro r g w a hr hR hF;refine wpIn_region ?_
 have := Ka (P := P) (A := A) (nt := nt) (ops := ops) (r := r) (K := Q .normal) (Q := Pn nt g w Q) (g0 := g) (w0 := w) (fun g' w' a' fr' H' s hR hF hK => ⟨g', fr', H', s, hR, hF, hK⟩) ops.size 0 fr H (by omega)
  (by simpa using h) g w a (N4.refl _ _) hR hF
 rwa [← List.range_eq_range'] at this
theorem O9.skip (h : Q .normal fr H) : O9 P nt rd .skip fr H Q := fun r g w a hr hR hF => wpIn_skip ⟨g, fr, H, N4.refl _ _, hR, hF, h⟩
theorem O9.ret (h : Q .ret fr H) : O9 P nt rd .ret fr H Q := fun r g w a hr hR hF => wpIn_ret ⟨g, fr, H, N4.refl _ _, hR, hF, h⟩
theorem O9.exit {id : Nat} (h : Q (.exit id) fr H) : O9 P nt rd (.exit id) fr H Q := fun r g w a hr hR hF => wpIn_exit ⟨g, fr, H, N4.refl _ _, hR, hF, h⟩
theorem O9.seq {x y : Code} (h : O9 P nt rd x fr H fun e fr' H' => match e with | .normal => O9 P nt rd y fr' H' Q | e => Q e fr' H') : O9 P nt rd (.seq x y) fr H Q := by
 intro r g w a hr hR hF;refine wpIn_seq (wpIn_mono (h r g w a hr hR hF) fun e a' w' ⟨g', fr', H', s, hR', hF', hq⟩ => ?_)
 cases e with
 | normal => exact wpIn_mono (hq r g' w' a' (hr.mono s) hR' hF') fun _ _ _ => Pn.later s
 | _ => exact ⟨g', fr', H', s, hR', hF', hq⟩
theorem O9.cond {c : Operand} {x y : Code} {t : Bool} (hc : ev fr c = .bool t) (h1 : t = true → O9 P nt rd x fr H Q) (h2 : t = false → O9 P nt rd y fr H Q) : O9 P nt rd (.cond c x y) fr H Q := by
 intro r g w a hr hR hF;have hv := C3 hR hF.s c
 rw [hc] at hv
 refine wpIn_cond hv.bool_inv ?_;cases t
 ·exact h2 rfl r g w a hr hR hF
 exact h1 rfl r g w a hr hR hF
theorem O9.block {id : Nat} {c : Code} (h : O9 P nt rd c fr H fun e fr' H' => match e with | .exit id' => if id' = id then Q .normal fr' H' else Q (.exit id') fr' H' | e => Q e fr' H') : O9 P nt rd (.block id c) fr H Q := by
 intro r g w a hr hR hF;refine wpIn_block (wpIn_mono (h r g w a hr hR hF) fun e a' w' ⟨g', fr', H', s, hR', hF', hq⟩ => ?_)
 cases e with
 | exit id' =>
  simp only [Exit.inBlock]
  dsimp only at hq
  split <;> rename_i hid
  ·rw [if_pos hid] at hq; exact ⟨g', fr', H', s, hR', hF', hq⟩
  rw [if_neg hid] at hq; exact ⟨g', fr', H', s, hR', hF', hq⟩
 | _ => exact ⟨g', fr', H', s, hR', hF', hq⟩
theorem O9.loopN {c : Code} (I : Nat → Fr → A0 → Prop) (n0 : Nat) (h0 : I n0 fr H)
 (round : ∀ n fr H, I n fr H → O9 P nt rd c fr H fun e fr' H' => match e with | .normal => ∃ n', n' < n ∧ I n' fr' H' | e => Q e fr' H') : O9 P nt rd (.loop c) fr H Q := by
 intro r g w a hr hR hF;intro b k cs hro hb hrm
 have key : ∀ n fr H, I n fr H → ∀ g' w' a, N4 g w g' w' → Rl g' H w' → FR nt g' w' a fr →
  ∃ e a' w2, Pn nt g w Q e a' w2 ∧ ArrivesIn (Machine.fenced P (Fw r)) P (lone (b.atR a (.code c :: .inLoop c :: k)) cs w') b k cs e a' w2 := by
  intro n
  induction n using Nat.strongRecOn with
  | _ n ih =>
   intro fr H hI g' w' a s hR hF;obtain ⟨e, a₁, w₁, ⟨g1, fr1, H1, s1, hR1, hF1, hq⟩, harr⟩ := round n fr H hI r g' w' a (hr.mono s) hR hF b (.inLoop c :: k) cs hro hb hrm
   cases e with
   | normal =>
    obtain ⟨n', hlt, hI₁⟩ := hq;obtain ⟨e₂, a₂, w₂, hq₂, harr₂⟩ := ih n' hlt fr1 H1 hI₁ g1 w₁ a₁ (s.trans s1) hR1 hF1;exact ⟨e₂, a₂, w₂, hq₂, .of_steps (StepsIn.trans harr (.one (fenced_calm hb hrm rfl) stepR_inLoop)) harr₂⟩
   | exit id => exact ⟨_, a₁, w₁, ⟨g1, fr1, H1, s.trans s1, hR1, hF1, hq⟩, .pass (x := .inLoop c) rfl (fun _ _ => .inl (by simp)) harr⟩
   | goto l => exact ⟨_, a₁, w₁, ⟨g1, fr1, H1, s.trans s1, hR1, hF1, hq⟩, .pass (x := .inLoop c) rfl (fun _ _ => .inl (by simp)) harr⟩
   | ret => exact ⟨_, a₁, w₁, ⟨g1, fr1, H1, s.trans s1, hR1, hF1, hq⟩, .pass (x := .inLoop c) rfl (fun _ _ => .inl (by simp)) harr⟩
   | panic ch => exact ⟨_, a₁, w₁, ⟨g1, fr1, H1, s.trans s1, hR1, hF1, hq⟩, .pass (x := .inLoop c) rfl (fun _ _ => .inl (by simp)) harr⟩
   | outgrown => exact ⟨_, a₁, w₁, ⟨g1, fr1, H1, s.trans s1, hR1, hF1, hq⟩, .pass (x := .inLoop c) rfl (fun _ _ => .inl (by simp)) harr⟩
 obtain ⟨e, a', w', hq, harr⟩ := key _ fr H h0 g w a (N4.refl _ _) hR hF;exact ⟨e, a', w', hq, .of_steps (.one (fenced_calm hb hrm rfl) stepR_loop) harr⟩
theorem O9.loop {c : Code} (I : Fr → A0 → Prop) (μ : Fr → A0 → Nat) (h0 : I fr H)
 (round : ∀ fr H, I fr H → O9 P nt rd c fr H fun e fr' H' => match e with | .normal => I fr' H' ∧ μ fr' H' < μ fr H | e => Q e fr' H') : O9 P nt rd (.loop c) fr H Q :=
 O9.loopN (fun n fr H => I fr H ∧ μ fr H = n) _ ⟨h0, rfl⟩ fun n fr H ⟨hI, hn⟩ => (round fr H hI).mono fun e fr' H' hq => by
  cases e with
  | normal => exact ⟨_, hn ▸ hq.2, hq.1, rfl⟩
  | _ => exact hq
theorem O9.less {c : Code} {fr' : Fr} {H' : A0} (h : O9 P nt rd c fr' H' Q) (hs : ∀ t, Wk (fr.s t) (fr'.s t)) (hd : fr'.df = fr.df) (hl : ∀ id b, H' id = some b → H id = some b) : O9 P nt rd c fr H Q := by
 intro r g w a hr hR hF;refine h r g w a hr (hR.less hl) ⟨hF.size, fun t => hs t _ _ _ (hF.s t), ?_⟩;rw [hd]; exact hF.df
theorem O9.freeze {c : Code} {t id off : Nat} {cs : List V} (ht : fr.s t = .ref id off) (hk : H id = some (.cells cs)) (h : O9 P nt rd c (fr.put (some t) (.eref cs off)) (upd H id none) Q) : O9 P nt rd c fr H Q := by
 intro r g w a hr hR hF;obtain ⟨g', s, hR', hv⟩ := hR.freeze hk;refine wpIn_mono (h r g' w a (hr.mono s) hR' ?_) fun _ _ _ => Pn.later s;have hF' := hF.mono s;refine ⟨hF'.size, fun x => ?_, hF'.df⟩;simp only [Fr.put]
 split
 ·rename_i e; subst e;have := hF.s x
  rw [ht] at this
  exact hv _ _ this
 exact hF'.s x
end
end Go.Ab
namespace Go.Ab
open Go.RowKit
variable [H5]
def W7 (P : Program) (fr : Fr) (H : A0) : List ResultVar → Option (List V)
 | [] => some []
 | .tmp t :: r => (W7 P fr H r).map (fr.s t :: ·)
 | .cell a t :: r =>
  match Dx P H t (fr.s a), W7 P fr H r with
  | some v, some l => some (v :: l)
  | _, _ => none
def Kb : List V → V
 | [x] => x
 | l => .tup l
def VV (H : A0) (df : List Nat) : Prop := df.Nodup ∧ ∀ id ∈ df, H id = some (.obj (.deferred (some [])))
def clear (H : A0) (df : List Nat) : A0 := fun x => if x ∈ df then none else H x
section
variable {P : Program}
theorem TQ {g : Gh} {w : World} {H : A0} (hR : Rl g H w) {t : TypeId} {v : Value} {X x : V} (hv : VR g w v X) (hl : Dx P H t X = some x) :
 ∃ b q u, v = .pointer (some ⟨b, q, none⟩) ∧ (loadVar t ⟨b, q, none⟩).run P w = .ok u w ∧ VR g w u x := by
 unfold Dx at hl
 split at hl
 ·rename_i ag sz cs off ha hs
  cases hv with
  | eref vs hf hw h1 hvv =>
   rename_i b q;obtain ⟨u, hu, hr⟩ := De (P := P) (g := g) (w := w) (b := b) (q := q) (cs := cs) (fun j hj => ⟨vs j, hw j hj, h1 j hj, hvv j hj⟩) ha hs hl;exact ⟨b, q + off, u, rfl, hu, hr⟩
 ·rename_i ag sz id off ha hs
  cases hv with
  | ref hm =>
   rename_i b
   split at hl
   ·rename_i cs hk;obtain ⟨u, hu, hr⟩ := De (P := P) (Ja hR hk hm) ha hs hl
    rw [Nat.zero_add] at hu
    exact ⟨b, off, u, rfl, hu, hr⟩
   cases hl
 cases hl
theorem Fj {nt : Nat} {g : Gh} {w : World} {H : A0} {a : Act} {fr : Fr} (hR : Rl g H w) (hE : ER g w a fr) : ∀ (rs : List ResultVar) (l : List V), W7 P fr H rs = some l →
 ∃ vs : List Value, (rs.mapM (m := Sem) fun | .tmp t => pure (a.tmps.getD t undef) | .cell x t => do loadVar t (← asAddr (a.tmps.getD x undef))).run P w = .ok vs w ∧ vs.length = l.length ∧
  ∀ i, i < l.length → VR g w (vs.getD i undef) (l.getD i .bad)
 | [], l, h => by simp only [W7, Option.some.injEq] at h; subst h; exact ⟨[], rfl, rfl, fun i hi => by simp at hi⟩
 | .tmp t :: r, l, h => by
  simp only [W7] at h
  cases hr : W7 P fr H r with
  | none => simp [hr] at h
  | some l' =>
   simp only [hr, Option.map_some, Option.some.injEq] at h
   subst h;obtain ⟨vs, h1, h2, h3⟩ := Fj (nt := nt) hR hE r l' hr;refine ⟨a.tmps.getD t undef :: vs, ?_, by simp [h2], fun i hi => ?_⟩
   ·simp only [List.mapM_cons, Sem.run_bind, Sem.run_pure, Result.andThen_ok, h1]
   cases i with
   | zero => exact hE t
   | succ i => exact h3 i (by simpa using hi)
 | .cell x t :: r, l, h => by
  simp only [W7] at h
  split at h
  ·rename_i v l' hv hr;cases h;obtain ⟨vs, h1, h2, h3⟩ := Fj (nt := nt) hR hE r l' hr;obtain ⟨b, q, u, e1, e2, e3⟩ := TQ hR (hE x) hv;refine ⟨u :: vs, ?_, by simp [h2], fun i hi => ?_⟩
   ·have ea : (asAddr (.pointer (some ⟨b, q, none⟩))).run P w = .ok ⟨b, q, none⟩ w := rfl;simp only [List.mapM_cons, e1, ea, Sem.run_bind, Sem.run_pure, Result.andThen_ok, e2, h1]
   cases i with
   | zero => exact e3
   | succ i => exact h3 i (by simpa using hi)
  cases h
theorem Of {nt : Nat} {g : Gh} {w : World} {H : A0} {a : Act} {fr : Fr} {fn : Func} (hR : Rl g H w) (hE : ER g w a fr) {l : List V} (h : W7 P fr H fn.results.toList = some l) :
 ∃ v, (results fn a.tmps).run P w = .ok v w ∧ VR g w v (Kb l) := by
 obtain ⟨vs, h1, h2, h3⟩ := Fj (nt := nt) hR hE _ _ h
 have hm : (results fn a.tmps).run P w = .ok (if h : vs.toArray.size = 1 then vs.toArray[0] else .tuple vs.toArray) w := by
  unfold results;rw [Array.mapM_eq_mapM_toList];simp only [Sem.run_bind, Sem.run_map]
  erw [h1]
  rfl
 refine ⟨_, hm, ?_⟩
 match l, vs, h2, h3 with
 | [x], [v], _, h3 => exact h3 0 (by simp)
 | [], [], _, _ => exact .tup rfl fun i hi => by simp at hi
 | x :: y :: l, u :: v :: vs, h2, h3 =>
  simp only [List.size_toArray, List.length_cons, Kb];rw [dif_neg (by omega)];refine .tup (by simpa using h2) fun i hi => ?_;have := h3 i hi
  simpa [Array.getD_eq_getD_getElem?, List.getD_eq_getElem?_getD] using this
theorem LR {nt : Nat} {fn : Func} {a : Act} {R : Ending → World → Prop} {g : Gh} {fr : Fr} {l : List V} : ∀ (df : List Nat) (bs : List Nat) (H : A0) (w : World), Rl g H w → ER g w a fr → bs.length = df.length →
 (∀ i, i < bs.length → g.mu (df.getD i 0) = some (bs.getD i 0)) → VV H df → W7 P fr (clear H df) fn.results.toList = some l →
 (∀ w' v, N4 g w g w' → Rl g (clear H df) w' → VR g w' v (Kb l) → R (.returned v) w') →
 LeavesInM Fence.wide 0 P fn a.tmps R (bs.map fun b => { target := .collected b, args := #[] }) .returning w
 | [], [], H, w, hR, hE, _, _, _, hl, hr => by
  have hcl : clear H [] = H := by funext x; simp [clear]
  rw [hcl] at hl hr
  obtain ⟨v, h1, h2⟩ := Of (nt := nt) hR hE hl;exact ⟨v, h1, hr w v (N4.refl _ _) hR h2⟩
 | id :: df, b :: bs, H, w, hR, hE, hlen, hmu, hdf, hl, hr => by
  have hb : g.mu id = some b := hmu 0 (by simp);have hk := hdf.2 id (by simp);have hnd := List.nodup_cons.1 hdf.1;obtain ⟨s, hR'⟩ := hR.putObj (o' := .deferred none) hk hb rfl;obtain ⟨b', h1, h2, h3, h4⟩ := hR.blk id _ hk
  rw [hb] at h1; cases h1
  refine ⟨by simp, .inl ⟨b, w.putObj b (.deferred none), rfl, run_takeDeferred h3, ?_⟩⟩
  have hlt : ∀ id' b', (upd H id none) id' = some b' → (upd H id (some (.obj (.deferred none)))) id' = some b' := by
   intro id' b' h
   by_cases e : id' = id
   ·subst e; rw [A9] at h; cases h
   rw [A4 _ _ e] at h ⊢; exact h
  have hcl : clear (upd H id none) df = clear H (id :: df) := by
   funext x
   simp only [clear, upd, List.mem_cons]
   by_cases e : x = id
   ·subst e; simp
   simp [e]
  refine LR (nt := nt) df bs (upd H id none) (w.putObj b (.deferred none)) (hR'.less hlt) (hE.mono s) (by simpa using hlen) (fun i hi => ?_) ⟨hnd.2, fun id' hi' => ?_⟩ (by rw [hcl]; exact hl) fun w' v s' hR2 hv => ?_
  ·have := hmu (i + 1) (by simpa using hi)
   simpa using this
  ·have hne : id' ≠ id := fun e => by subst e; exact hnd.1 hi'
   rw [A4 _ _ hne]; exact hdf.2 id' (by simp [hi'])
  rw [hcl] at hR2
  exact hr w' v (s.trans s') hR2 hv
 | [], _ :: _, _, _, _, _, h, _, _, _, _ => by simp at h
 | _ :: _, [], _, _, _, _, h, _, _, _, _ => by simp at h
def Ret (P : Program) (fn : Func) (K : V → A0 → Prop) (e : Exit) (fr : Fr) (H : A0) : Prop :=
 (e = .normal ∨ e = .ret) ∧ VV H fr.df ∧ ∃ l, W7 P fr (clear H fr.df) fn.results.toList = some l ∧ K (Kb l) (clear H fr.df)
def entry (args : List V) : Fr := ⟨fun t => args.getD t .bad, []⟩
theorem Lw {f : FuncId} {fn : Func} {c : Code} {args : List V} {H : A0} {K : V → A0 → Prop} (hf : P.funcs[f]? = some fn) (hb : fn.body = some c) (hcall : ∀ vals w, (callFunc f vals).run P w = .ok (.enter f vals) w)
 (hn : args.length ≤ fn.ntmps) (h : O9 P fn.ntmps none c (entry args) H (Ret P fn K)) : E8 P f args H K := by
 intro g w vals hR hA;rw [hcall]
 show CallsIn Fence.wide 0 P f vals w _
 refine callsIn_of_wp_marks hf hb trivial ?_
 have hF : FR fn.ntmps g w { tmps := vals ++ Array.replicate (fn.ntmps - vals.size) undef, defers := [] } (entry args) := by
  refine ⟨by have := hA.1; simp; omega, fun t => ?_, ⟨[], rfl, fun i hi => by simp at hi, rfl⟩⟩
  by_cases ht : t < args.length
  ·have e : (vals ++ Array.replicate (fn.ntmps - vals.size) undef).getD t undef = vals.getD t undef := by
    simp only [Array.getD_eq_getD_getElem?, Array.getElem?_append, hA.1, if_pos ht]
   simp only [e];exact hA.2 t ht
  have : (entry args).s t = .bad := by simp [entry, List.getD, List.getElem?_eq_none (Nat.le_of_not_lt ht)]
  rw [this]; exact .bad _
 refine wpIn_mono (h none g w _ rfl hR hF) fun e a' w' ⟨g', fr', H', s, hR', hF', he, hdf, l, hl, hK⟩ => ?_;obtain ⟨bs, k1, k2, k3⟩ := hF'.df;have key := LR (P := P) (nt := fn.ntmps) (fn := fn) (a := a') (R := fun e w' => ∃ v, e = .returned v ∧ H7 g w K v w') fr'.df bs H' w' hR' hF'.s k1 k2 hdf hl fun w2 v s2 hR2 hv => ⟨v, rfl, g', _, _, s.trans s2, hR2, hv, hK⟩
 rw [← k3] at key
 rcases he with rfl | rfl
 ·exact key
 exact key
end
end Go.Ab
namespace Go.Ab
open Go.RowKit
variable [H5]
def VM : Op → Bool
 | .alloc _ => true
 | _ => false
def Jr : Op → Bool
 | .store _ _ _ => true
 | _ => false
def AF (o : Oper) (j : Nat) : Bool := o.after.any fun e => e.on == j && Region.binds .any e
def W0 (o : Oper) (i : Nat) : Bool := o.after.all fun e => !Region.binds .any e || e.on < i
def FD (ops : Array Oper) (x y : Oper) : Bool := x.apart ops y && !(Jr x.op && Jr y.op)
def EX (ops : Array Oper) : Nat → Nat → Nat → Bool
 | 0, i, j => AF (ops.getD i default) j
 | n + 1, i, j => AF (ops.getD i default) j || (ops.getD i default).after.any fun e => Region.binds .any e && (Nat.blt j e.on && EX ops n e.on j)
def Ii : Nat := 8
def KI (ops : Array Oper) (k : Nat) : Bool :=
 k ≤ ops.size && (List.range ops.size).all fun i =>
  W0 (ops.getD i default) i &&
   (List.range i).all fun j => (i < k && FD ops (ops.getD j default) (ops.getD i default)) || EX ops Ii i j
section
variable {P : Program} {nt : Nat} {ops : Array Oper} {H0 : A0}
theorem P3 {α β : Type} {f g : α → β} : ∀ {l : List α}, (∀ x ∈ l, f x = g x) → l.map f = l.map g
 | [], _ => rfl
 | x :: l, h => by rw [List.map_cons, List.map_cons, h x (by simp), P3 fun y hy => h y (by simp [hy])]
theorem DM {α β : Type} {f g : α → β} : ∀ {l : Option α}, (∀ x ∈ l, f x = g x) → l.map f = l.map g
 | none, _ => rfl
 | some x, h => by rw [Option.map_some, Option.map_some, h x rfl]
theorem FW {o : Oper} {ρ ρ' : Operand → V} {H : A0} {v : V} (hρ : ∀ x ∈ o.op.operands, ρ x = ρ' x) (h : GG P o ρ H v) : GG P o ρ' H v := by
 unfold GG at h ⊢
 cases ho : o.op <;> simp only [ho] at h ⊢ hρ <;> first
  | exact h.elim
  | (simp only [Op.operands, List.mem_toArray, List.mem_cons, List.not_mem_nil, or_false, forall_eq_or_imp, forall_eq] at hρ
     first
      | (rw [← hρ]; exact h)
      | (rw [← hρ.1, ← hρ.2]; exact h)
      | (rw [← hρ.1, ← hρ.2.1, ← hρ.2.2]; exact h))
  | skip
 ·
  rename_i t ps;rw [← P3 (l := ps.toList) (f := fun p => (p.1, ρ p.2)) (g := fun p => (p.1, ρ' p.2)) fun p hp => by rw [hρ p.2 (by simp only [Op.operands, List.mem_toArray, List.mem_map]; exact ⟨p, hp, rfl⟩)]];exact h
 ·rename_i t n ps;rw [← P3 (l := ps.toList) (f := fun p => (p.1, ρ p.2)) (g := fun p => (p.1, ρ' p.2)) fun p hp => by rw [hρ p.2 (by simp only [Op.operands, List.mem_toArray, List.mem_map]; exact ⟨p, hp, rfl⟩)]];exact h
 ·rename_i fn fs cs
  rw [← P3 (l := fs.toList) (f := ρ) (g := ρ') fun p hp => hρ p (by simp only [Op.operands, Array.mem_append]; exact .inl (by simpa using hp)),
   ← P3 (l := cs.toList) (f := ρ) (g := ρ') fun p hp => hρ p (by simp only [Op.operands, Array.mem_append]; exact .inr (by simpa using hp))]
  exact h
 ·rename_i t x lo hi mx
  rw [← hρ x (by simp [Op.operands]), ← DM (l := lo) (f := ρ) (g := ρ') fun p hp => hρ p (by simp [Op.operands, Option.mem_def.1 hp]),
   ← DM (l := hi) (f := ρ) (g := ρ') fun p hp => hρ p (by simp [Op.operands, Option.mem_def.1 hp]), ← DM (l := mx) (f := ρ) (g := ρ') fun p hp => hρ p (by simp [Op.operands, Option.mem_def.1 hp])]
  exact h
 rename_i c;have hargs : c.args.toList.map ρ = c.args.toList.map ρ' := P3 fun p hp => hρ p (by simp only [Op.operands, Call.operands, Array.mem_append]; exact .inr (by simpa using hp));rw [← hargs]
 cases hc : c.callee <;> simp only [hc] at h ⊢
 ·rename_i f;rw [← hρ f (by simp [Op.operands, Call.operands, hc])]; exact h
 exact h
theorem Qp {fr : Fr} {d : Option Tmp} {v : V} {x : Operand} (h : ∀ t, d = some t → x ≠ .tmp t) : ev (fr.put d v) x = ev fr x := by
 cases d with
 | none => rfl
 | some d =>
  cases x with
  | tmp t =>
   have hne : t ≠ d := fun e => h d rfl (by rw [e]);simp [ev, Fr.put, hne]
  | _ => rfl
theorem Fx {fr : Fr} {d : Option Tmp} {v : V} {y : Oper} (h : ∀ t, d = some t → t ∉ y.looksAt ops) : ∀ x ∈ y.op.operands, ev (fr.put d v) x = ev fr x := by
 intro x hx;refine Qp fun t ht e => h t ht ?_;subst e;exact List.mem_append_left _ (List.mem_filterMap.2 ⟨.tmp t, by simpa using hx, rfl⟩)
theorem IN {fr : Fr} {d : Option Tmp} {v : V} {y : Oper} (h : ∀ t, d = some t → t ∉ y.looksAt ops) : V9 ops (fr.put d v) y = V9 ops fr y := by
 unfold V9
 cases hg : y.guard with
 | none => rfl
 | some p =>
  obtain ⟨j, want⟩ := p
  dsimp only
  cases hd : (ops[j]?).bind (·.dst) with
  | none => rfl
  | some t =>
   have hne : ∀ d', d = some d' → t ≠ d' := by
    intro d' e1 e2;subst e2;refine h t e1 (List.mem_append_right _ ?_);simp [hg, hd]
   cases d with
   | none => rfl
   | some d =>
    have := hne d rfl;simp [Fr.put, this]
theorem put_comm {fr : Fr} {d e : Option Tmp} {v u : V} (h : ∀ t, d = some t → e ≠ some t) : (fr.put d v).put e u = (fr.put e u).put d v := by
 cases d with
 | none => rfl
 | some d =>
  cases e with
  | none => rfl
  | some e =>
   have hne : d ≠ e := fun x => h d rfl (by rw [x]);simp only [Fr.put, Fr.mk.injEq, and_true]
   funext t
   by_cases h1 : t = d
   ·subst h1; simp [hne]
   simp [h1]
theorem JC (H : A0) {a b : Nat} (x y : Option AI) (h : a ≠ b) : upd (upd H a x) b y = upd (upd H b y) a x := by
 funext t
 simp only [upd]
 by_cases h1 : t = a
 ·subst h1; simp [h]
 simp [h1]
end
end Go.Ab
