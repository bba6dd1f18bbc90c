/- AbN1 AbN2 -/
import Derived.Test.YtildiiggamckaaaGreatDoorT07
import Derived.MapKept
import Derived.RangeFuncRecord
import Derived.Laws.BytesString
set_option linter.all false
namespace Go.Ab
open Go.RowKit Go.MapKept
variable [G5]
def AY : V → Option Value
 | .bool b => some (.bool b)
 | .int k n => some (.int k n)
 | .str s => some (.string s)
 | _ => none
def Mq : List V → Option (List Value)
 | [] => some []
 | x :: l => match AY x, Mq l with | some v, some r => some (v :: r) | _, _ => none
def Gf : V → Option Value
 | .agg cs => (Mq cs).map fun l => .agg l.toArray
 | v => AY v
theorem Fk {g : Gh} {w : World} {x : V} {u v : Value} (h : AY x = some u) (hv : VR g w v x) : v = u := by
 cases x <;> simp only [AY, Option.some.injEq, reduceCtorEq] at h <;> subst h <;> cases hv <;> rfl
theorem Jw {g : Gh} {w : World} {x : V} {u : Value} (h : AY x = some u) : VR g w u x := by
 cases x <;> simp only [AY, Option.some.injEq, reduceCtorEq] at h <;> subst h <;> constructor
theorem SY {x : V} {u : Value} (h : AY x = some u) : u.oneCell' = true := by
 cases x <;> simp only [AY, Option.some.injEq, reduceCtorEq] at h <;> subst h <;> rfl
theorem Jx {x y : V} {u : Value} (h : AY x = some u) (h' : AY y = some u) : x = y := by
 cases x <;> simp only [AY, Option.some.injEq, reduceCtorEq] at h <;> subst h <;> cases y <;> simp_all [AY]
theorem Jy : ∀ {l : List V} {r : List Value}, Mq l = some r → r.length = l.length
 | [], r, h => by simp only [Mq, Option.some.injEq] at h; subst h; rfl
 | x :: l, r, h => by
  unfold Mq at h
  split at h
  ·rename_i v r' h1 h2; cases h; simp [Jy h2]
  cases h
theorem IW : ∀ {l : List V} {r : List Value}, Mq l = some r → ∀ i, i < l.length → AY (l.getD i .bad) = some (r.getD i undef)
 | [], r, h, i, hi => by simp at hi
 | x :: l, r, h, i, hi => by
  unfold Mq at h
  split at h
  ·rename_i v r' h1 h2;cases h
   cases i with
   | zero => simpa using h1
   | succ i => simpa using IW h2 i (by simpa using hi)
  cases h
theorem NF {g : Gh} {w : World} {x : V} {u : Value} (h : Gf x = some u) : VR g w u x := by
 unfold Gf at h
 split at h
 ·rename_i cs
  cases hr : Mq cs with
  | none => rw [hr] at h; cases h
  | some r =>
   rw [hr] at h
   simp only [Option.map_some, Option.some.injEq] at h
   subst h;have e := Jy hr;refine .agg (by simp [e]) (fun i hi => ?_) fun i hi => ?_
   ·have := SY (IW hr i hi); simpa [Array.getD_eq_getD_getElem?, List.getD_eq_getElem?_getD] using this
   have := Jw (g := g) (w := w) (IW hr i hi); simpa [Array.getD_eq_getD_getElem?, List.getD_eq_getElem?_getD] using this
 exact Jw h
theorem SX {g : Gh} {w : World} {x : V} {u v : Value} (h : Gf x = some u) (hv : VR g w v x) : v = u := by
 unfold Gf at h
 split at h
 ·rename_i cs
  cases hr : Mq cs with
  | none => rw [hr] at h; cases h
  | some r =>
   rw [hr] at h
   simp only [Option.map_some, Option.some.injEq] at h
   subst h;have e := Jy hr
   cases hv with
   | agg hl h1 hv =>
    rename_i vs
    congr 1
    apply Array.ext
    ·simp [hl, e]
    intro i hi hi'
    have hi2 : i < cs.length := by omega
    have := Fk (IW hr i hi2) (hv i hi2)
    simpa [Array.getD, hi, List.getD_eq_getElem?_getD, show i < r.length by omega] using this
 exact Fk h hv
def GS (es : Array MapEntry) (clock : Nat) : Prop := (∀ x ∈ es.toList, x.born < clock) ∧ (es.toList.map (·.born)).Nodup
theorem GS.empty : GS #[] 0 := ⟨fun x h => by simp at h, by simp⟩
theorem GS.push {es : Array MapEntry} {clock : Nat} (h : GS es clock) (k v : Value) : GS (es.push { key := k, val := v, born := clock }) (clock + 1) := by
 refine ⟨fun x hx => ?_, ?_⟩
 ·simp only [Array.toList_push, List.mem_append, List.mem_singleton] at hx
  rcases hx with hx | rfl
  ·exact Nat.lt_succ_of_lt (h.1 x hx)
  exact Nat.lt_succ_self _
 simp only [Array.toList_push, List.map_append, List.map_cons, List.map_nil];refine List.nodup_append.2 ⟨h.2, by simp, fun x hx z hz => ?_⟩
 simp at hz; subst hz
 obtain ⟨e, he, rfl⟩ := List.mem_map.1 hx;have := h.1 e he;omega
theorem GS.modify {es : Array MapEntry} {clock : Nat} (h : GS es clock) (i : Nat) (k v : Value) : GS (es.modify i fun e => { e with key := k, val := v }) clock := by
 have hb : (es.modify i fun e => { e with key := k, val := v }).toList.map (·.born) = es.toList.map (·.born) := by
  apply List.ext_getElem?;intro j;simp only [List.getElem?_map, Array.getElem?_toList, Array.getElem?_modify]
  by_cases hij : i = j
  ·subst hij; cases es[i]? <;> simp
  rw [if_neg hij]
 refine ⟨fun x hx => ?_, by rw [hb]; exact h.2⟩
 have : x.born ∈ es.toList.map (·.born) := by rw [← hb]; exact List.mem_map.2 ⟨x, hx, rfl⟩
 obtain ⟨y, hy, e⟩ := List.mem_map.1 this;rw [← e]; exact h.1 y hy
theorem GS.sub {es es' : Array MapEntry} {clock : Nat} (h : GS es clock) (hs : es'.toList.Sublist es.toList) : GS es' clock := ⟨fun x hx => h.1 x (hs.subset hx), (hs.map _).nodup h.2⟩
structure R3 (d : TypeDesc) (o : Obj) (m : List (V × V)) : Prop where
 ex : ∃ es clock, o = .map es clock ∧ es.toList.map (fun e => (some e.key, some e.val)) = m.map fun p => (AY p.1, Gf p.2)
 keys : ∀ p ∈ m, ∃ k, AY p.1 = some k ∧ IsKey d k
 nodup : (m.map (·.1)).Nodup
 st : ∀ es clock, o = .map es clock → GS es clock
theorem R3.empty (d : TypeDesc) : R3 d (.map #[] 0) [] := ⟨⟨_, _, rfl, rfl⟩, fun p h => (by cases h), List.nodup_nil, fun es clock h => by cases h; exact GS.empty⟩
theorem FV {α : Type} {l : List α} (h : l.Nodup) {i j : Nat} (hi : i < l.length) (hj : j < l.length) (e : l[i] = l[j]) : i = j := by
 have h := List.pairwise_iff_getElem.1 h
 rcases Nat.lt_trichotomy i j with h1 | h1 | h1
 ·exact absurd e (h i j hi hj h1)
 ·exact h1
 exact absurd e.symm (h j i hj hi h1)
def Wh (P : Program) (et : TypeId) (m : List (V × V)) (key : V) (ok : Bool) (v : V) : Prop :=
 ((∀ p ∈ m, p.1 ≠ key) ∧ ∃ z, Er P et = some z ∧ v = if ok = true then .tup [z, .bool false] else z) ∨ ∃ y, (key, y) ∈ m ∧ v = if ok = true then .tup [y, .bool true] else y
def Vk (P : Program) (H : A0) (t : TypeId) (x key : V) (ok : Bool) (v : V) : Prop :=
 ∃ kt et d kv id o m, P.underlying t = some (.map kt et) ∧ P.underlying kt = some d ∧ AY key = some kv ∧ IsKey d kv ∧ x = .map id ∧ H id = some (.obj o) ∧ R3 d o m ∧ Wh P et m key ok v
def QG (P : Program) (t : TypeId) (x key : V) (ok : Bool) (v : V) : Prop :=
 ∃ kt et ks xs n, P.underlying t = some (.map kt et) ∧ P.underlying kt = some (.int .i64) ∧ x = .fmap ks xs ∧ key = .int .i64 n ∧ ok = false ∧ ((∃ i : Nat, ks[i]? = some n ∧ v = xs.getD i .bad) ∨ ((∀ k ∈ ks, k ≠ n) ∧ Er P et = some v))
def Hl (P : Program) (H : A0) (t : TypeId) (x key : V) (ok : Bool) (v : V) : Prop := Vk P H t x key ok v ∨ QG P t x key ok v
def Vh (H : A0) (K : V → A0 → Prop) : Prop := (∀ id, H id = none → K (.map id) (upd H id (some (.obj (.map #[] 0))))) ∨ ∀ id, H id = none → K (.map id) (upd H id (some (.fm [] [])))
def Qo (P : Program) (H : A0) (K : V → A0 → Prop) (t : TypeId) (x key val : V) : Prop :=
 ∃ kt et ks xs n id, P.underlying t = some (.map kt et) ∧ P.underlying kt = some (.int .i64) ∧ x = .map id ∧ H id = some (.fm ks xs) ∧ key = .int .i64 n ∧ (∀ k ∈ ks, k ≠ n) ∧ K .bad (upd H id (some (.fm (ks ++ [n]) (xs ++ [val]))))
def WS (m : List (V × V)) (k v : V) (m' : List (V × V)) : Prop :=
 ((∀ p ∈ m, p.1 ≠ k) ∧ m' = m ++ [(k, v)]) ∨ ∃ a y b, m = a ++ (k, y) :: b ∧ m' = a ++ (k, v) :: b
def Uz (P : Program) (H : A0) (K : V → A0 → Prop) (t : TypeId) (x key val : V) : Prop :=
 ∃ kt et d kv vv id o m m', P.underlying t = some (.map kt et) ∧ P.underlying kt = some d ∧ AY key = some kv ∧ IsKey d kv ∧ Gf val = some vv ∧ x = .map id ∧ H id = some (.obj o) ∧ R3 d o m ∧ WS m key val m' ∧
  ∀ o', R3 d o' m' → K .bad (upd H id (some (.obj o')))
def FN (P : Program) (H : A0) (K : V → A0 → Prop) (t : TypeId) (x key val : V) : Prop := Uz P H K t x key val ∨ Qo P H K t x key val
theorem Ln {H : A0} {K K' : V → A0 → Prop} (h : Vh H K) (hk : ∀ v H', K v H' → K' v H') : Vh H K' := h.imp (fun h id hid => hk _ _ (h id hid)) fun h id hid => hk _ _ (h id hid)
theorem CB {P : Program} {H : A0} {K K' : V → A0 → Prop} {t : TypeId} {x key val : V} (h : FN P H K t x key val) (hk : ∀ H', K .bad H' → K' .bad H') : FN P H K' t x key val := by
 rcases h with ⟨kt, et, d, kv, vv, id, o, m, m', h1, h2, h3, h4, h5, h6, h7, h8, h9, h⟩ | ⟨kt, et, ks, xs, n, id, h1, h2, h3, h4, h5, h6, h⟩
 ·exact .inl ⟨kt, et, d, kv, vv, id, o, m, m', h1, h2, h3, h4, h5, h6, h7, h8, h9, fun o' ho => hk _ (h o' ho)⟩
 exact .inr ⟨kt, et, ks, xs, n, id, h1, h2, h3, h4, h5, h6, hk _ h⟩
theorem MC {P : Program} {H H' : A0} {t : TypeId} {x key v : V} {ok : Bool} (hl : ∀ id b, H id = some b → H' id = some b) (h : Hl P H t x key ok v) : Hl P H' t x key ok v := by
 rcases h with ⟨kt, et, d, kv, id, o, m, h1, h2, h3, h4, h5, h6, h7⟩ | h
 ·exact .inl ⟨kt, et, d, kv, id, o, m, h1, h2, h3, h4, h5, hl _ _ h6, h7⟩
 exact .inr h
theorem R3.entry {d : TypeDesc} {m : List (V × V)} {es : Array MapEntry} (he : es.toList.map (fun e => (some e.key, some e.val)) = m.map fun p => (AY p.1, Gf p.2)) (j : Nat) :
 (∀ e, es[j]? = some e → ∃ p, m[j]? = some p ∧ AY p.1 = some e.key ∧ Gf p.2 = some e.val) ∧ ∀ p, m[j]? = some p → ∃ e, es[j]? = some e ∧ AY p.1 = some e.key ∧ Gf p.2 = some e.val := by
 have := congrArg (fun l => l[j]?) he
 simp only [List.getElem?_map, Array.getElem?_toList] at this
 constructor
 ·intro e h
  rw [h] at this
  cases hm : m[j]? with
  | none => rw [hm] at this; cases this
  | some p => rw [hm] at this; simp at this; exact ⟨p, rfl, this.1.symm, this.2.symm⟩
 intro p h
 rw [h] at this
 cases hm : es[j]? with
 | none => rw [hm] at this; cases this
 | some e => rw [hm] at this; simp at this; exact ⟨e, rfl, this.1.symm, this.2.symm⟩
theorem R3.isKeys {d : TypeDesc} {m : List (V × V)} {es : Array MapEntry} (he : es.toList.map (fun e => (some e.key, some e.val)) = m.map fun p => (AY p.1, Gf p.2)) (hk : ∀ p ∈ m, ∃ k, AY p.1 = some k ∧ IsKey d k) : ∀ e ∈ es.toList, IsKey d e.key := by
 intro e h;obtain ⟨j, hj, e1⟩ := List.getElem_of_mem h;obtain ⟨p, h1, h2, _⟩ := (R3.entry (d := d) he j).1 e (by rw [← Array.getElem?_toList, List.getElem?_eq_getElem hj, e1]);obtain ⟨k, h3, h4⟩ := hk p (List.mem_of_getElem? h1)
 rw [h2] at h3; cases h3; exact h4
theorem FJ {w : World} {b : Nat} {o o' : Obj} (hw : w.heap[b]? = some o) (hc : Obj.isCells o = false) (hc' : Obj.isCells o' = false) (x i : Nat) : (w.putObj b o').cell? ⟨x, i, none⟩ = w.cell? ⟨x, i, none⟩ := by
 by_cases h : x = b
 ·subst h;have h1 := World.putObj_heap_same (w := w) (o := o') (JQ hw);simp only [World.cell?, h1, hw];cases o <;> cases o' <;> simp_all [Obj.isCells]
 exact World.cell?_of_block (w := w) (a := ⟨x, i, none⟩) (World.putObj_heap_other h)
theorem Rl.putObj {g : Gh} {H : A0} {w : World} (h : Rl g H w) {id b : Nat} {o o' : Obj} (hk : H id = some (.obj o)) (hb : g.mu id = some b) (hc' : Obj.isCells o' = false) :
 M4 g w g (w.putObj b o') ∧ Rl g (upd H id (some (.obj o'))) (w.putObj b o') := by
 obtain ⟨b', h1, h2, h3, h4⟩ := h.blk id _ hk
 have e : b' = b := by rw [hb] at h1; exact (Option.some.inj h1).symm
 subst e;have hcell := FJ (o' := o') h3 h4 hc'
 have s : M4 g w g (w.putObj b' o') := by
  refine ⟨fun _ _ e => e, fun _ _ e => e, fun _ _ e => e, rfl, fun b o _ => hcell b o, ⟨rfl, rfl, rfl, by simp, fun k hk => World.putObj_heap_other (by omega)⟩, fun _ _ _ => rfl⟩
 have hat : ∀ x, g.at (upd H id (some (.obj o'))) x = g.at H x := by
  intro x
  by_cases hx : x = id
  ·subst hx; simp [Gh.at, A9, hk]
  simp only [Gh.at, A3 _ _ hx]
 have hid : g.at H id = some b' := by simp [Gh.at, hk, hb]
 refine ⟨s, fun x k hx => ?_, fun x x' y h1 h2 => h.inj x x' y (hat x ▸ h1) (hat x' ▸ h2), fun y o hf => ?_, fun x hx => ?_, ?_, fun n => (h.glb n).mono s⟩
 ·by_cases hxe : x = id
  ·subst hxe; rw [A9] at hx; cases hx
   exact ⟨b', hb, h2, World.putObj_heap_same (JQ h3), hc'⟩
  rw [A3 _ _ hxe] at hx
  refine (h.blk x k hx).mono hx s fun y hy => ⟨World.putObj_heap_other fun e => ?_, fun _ ho => ho⟩;subst e; exact hxe (h.inj _ _ _ hy hid)
 ·obtain ⟨v, hv'⟩ := h.frz y o hf;exact ⟨v, (hcell y o).trans hv'⟩
 ·obtain ⟨a1, a2, a3⟩ := h.nxt x hx
  have hne : x ≠ id := fun e => by subst e; rw [hk] at a3; cases a3
  exact ⟨a1, a2, by rw [A3 _ _ hne]; exact a3⟩
 have := h.bnd; simp; omega
def Au.fixed : Au → Bool
 | .obj _ => true
 | .loop _ => true
 | .iter _ _ _ _ => true
 | .fm _ _ => true
 | _ => false
theorem Gr.fixed {g : Gh} {w : World} {id : Nat} {k : Au} (hk : k.fixed = true) (h : Gr g w id k) : ∃ b o, g.mu id = some b ∧ g.base ≤ b ∧ w.heap[b]? = some o ∧ Obj.isCells o = false := by
 cases k with
 | cells _ => cases hk
 | spare => cases hk
 | obj o => obtain ⟨b, h1, h2, h3, h4⟩ := h; exact ⟨b, o, h1, h2, h3, h4⟩
 | loop L => obtain ⟨b, r, h1, h2, h3, _⟩ := h; exact ⟨b, _, h1, h2, h3, rfl⟩
 | arr _ _ => cases hk
 | fm ks xs => obtain ⟨b, es, clock, h1, h2, h3, _⟩ := h; exact ⟨b, _, h1, h2, h3, rfl⟩
 | iter mid since seen c0 => obtain ⟨b, bm, h1, h2, _, h3⟩ := h; exact ⟨b, _, h1, h2, h3, rfl⟩
theorem Gh.at_fixed {g : Gh} {H : A0} {id : Nat} {k : Au} (hk : k.fixed = true) (h : H id = some k) : g.at H id = g.mu id := by
 cases k <;> simp_all [Gh.at, Au.fixed]
theorem Rl.putGen {g : Gh} {H : A0} {w : World} (h : Rl g H w) {id b : Nat} {k k' : Au} {o' : Obj} (hf : k.fixed = true) (hf' : k'.fixed = true) (hk : H id = some k) (hb : g.mu id = some b) (hc' : Obj.isCells o' = false)
 (hok : M4 g w g (w.putObj b o') → (w.putObj b o').heap[b]? = some o' → g.base ≤ b → Gr g (w.putObj b o') id k') :
 M4 g w g (w.putObj b o') ∧ Rl g (upd H id (some k')) (w.putObj b o') := by
 obtain ⟨b', o, h1, h2, h3, h4⟩ := (h.blk id _ hk).fixed hf
 have e : b' = b := by rw [hb] at h1; exact (Option.some.inj h1).symm
 subst e;have hcell := FJ (o' := o') h3 h4 hc'
 have s : M4 g w g (w.putObj b' o') := by
  refine ⟨fun _ _ e => e, fun _ _ e => e, fun _ _ e => e, rfl, fun b o _ => hcell b o, ⟨rfl, rfl, rfl, by simp, fun k hk => World.putObj_heap_other (by omega)⟩, fun _ _ _ => rfl⟩
 have hat : ∀ x, g.at (upd H id (some k')) x = g.at H x := by
  intro x
  by_cases hx : x = id
  ·subst hx; rw [Gh.at_fixed hf' (A9 _ _ _), Gh.at_fixed hf hk]
  simp only [Gh.at, A3 _ _ hx]
 have hid : g.at H id = some b' := by rw [Gh.at_fixed hf hk, hb]
 refine ⟨s, fun x k hx => ?_, fun x x' y h1 h2 => h.inj x x' y (hat x ▸ h1) (hat x' ▸ h2), fun y o hf => ?_, fun x hx => ?_, ?_, fun n => (h.glb n).mono s⟩
 ·by_cases hxe : x = id
  ·subst hxe; rw [A9] at hx; cases hx
   exact hok s (World.putObj_heap_same (JQ h3)) h2
  rw [A3 _ _ hxe] at hx
  refine (h.blk x k hx).mono hx s fun y hy => ⟨World.putObj_heap_other fun e => ?_, fun _ ho => ho⟩;subst e; exact hxe (h.inj _ _ _ hy hid)
 ·obtain ⟨v, hv'⟩ := h.frz y o hf;exact ⟨v, (hcell y o).trans hv'⟩
 ·obtain ⟨a1, a2, a3⟩ := h.nxt x hx
  have hne : x ≠ id := fun e => by subst e; rw [hk] at a3; cases a3
  exact ⟨a1, a2, by rw [A3 _ _ hne]; exact a3⟩
 have := h.bnd; simp; omega
section
variable {P : Program} {o : Oper} {fr : Fr} {H : A0} {K : V → A0 → Prop}
theorem Nr {t : TypeId} (ho : o.op = .makeMap t none) (h : ∀ id, H id = none → K (.map id) (upd H id (some (.obj (.map #[] 0))))) : E4 P o fr H K := by
 intro g w a hR hE;have s := M4.new hR (.map #[] 0) False 0;have r := hR.newNamed (.map #[] 0) (.obj (.map #[] 0)) (by simp) ⟨w.heap.size, by simp [Gh.new], hR.bnd, X2, rfl⟩;unfold execOp; rw [ho];simp only [Option.map_none, Instr.makeMap, Sem.run_bind, Sem.run_pure, run_newObj, Result.andThen_ok, D7];exact ⟨_, _, _, s, r, .map (by simp [Gh.new]), h g.nx (hR.nxt _ (Nat.le_refl _)).2.2⟩
theorem IB {g : Gh} {w : World} {v : Value} {n : Int} (h : VR g w v (.int .i64 n)) : v = .int .i64 n := by cases h; rfl
theorem TP {es : Array MapEntry} {ks : List Int} (hk : es.toList.map (·.key) = ks.map (Value.int .i64)) {j : Nat} {e : MapEntry} (he : es[j]? = some e) : ∃ k, ks[j]? = some k ∧ e.key = .int .i64 k := by
 have := congrArg (fun l => l[j]?) hk
 simp only [List.getElem?_map, Array.getElem?_toList, he, Option.map_some] at this
 cases hj : ks[j]? with
 | none => rw [hj] at this; cases this
 | some k => rw [hj] at this; exact ⟨k, rfl, by simpa using this⟩
theorem QQ {es : Array MapEntry} {ks : List Int} (hk : es.toList.map (·.key) = ks.map (Value.int .i64)) : ∀ e ∈ es.toList, IsKey (.int .i64) e.key := by
 intro e he;obtain ⟨j, hj, e1⟩ := List.getElem_of_mem he;obtain ⟨k, _, h2⟩ := TP hk (j := j) (e := e) (by rw [← Array.getElem?_toList, List.getElem?_eq_getElem hj, e1]);rw [h2]; rfl
theorem Nt {t : TypeId} {x y : Operand} {ok : Bool} {v : V} (ho : o.op = .lookup t x y ok) (hl : QG P t (ev fr x) (ev fr y) ok v) (h : K v H) : E4 P o fr H K := by
 intro g w a hR hE;obtain ⟨kt, et, ks, xs, n, h1, h2, h3, h4, rfl, h5⟩ := hl;have hx := C4 hR hE x;have hy := C4 hR hE y
 rw [h4] at hy
 have hy := IB hy
 rw [h3] at hx
 generalize hav : a.eval x = xv at hx
 cases hx with
 | fmap hb hw hk hn hlen hv =>
  rename_i b es clock;have hks := QQ hk;have hIs : IsKey (.int .i64) (Value.int .i64 n) := rfl;unfold execOp; rw [ho];simp only [hav, hy, Instr.lookup, Sem.run_bind, run_underlying h1, Result.andThen_ok, Go.MapKept.run_getObj_map hw, Sem.run_pure, run_checkKey h2 hIs]
  rcases findNow_spec hIs es.toList 0 hks with ⟨f1, f2⟩ | ⟨j, e, f1, f2, f3⟩
  ·simp only [run_findKey h2 f1, Result.andThen_ok]
   rcases h5 with ⟨i, q1, q2⟩ | ⟨q1, q2⟩
   ·exfalso;have := congrArg (fun l => l[i]?) hk
    simp only [List.getElem?_map, Array.getElem?_toList, q1, Option.map_some] at this
    cases he : es[i]? with
    | none => rw [he] at this; cases this
    | some e => rw [he] at this; exact f2 e (Array.mem_toList_iff.2 (Array.mem_of_getElem? he)) (by simpa using this)
   obtain ⟨zv, ez, hz⟩ := Az q2
   have hzr : VR g w zv v := by rw [ez]; exact Bq g w zv
   simp only [Sem.run_bind, hz, Result.andThen_ok, Sem.run_pure, D7];exact G8.here hR hzr h
  simp only [run_findKey h2 f1, Result.andThen_ok, Sem.run_pure, D7]
  have f2' : es[j]? = some e := by simpa using f2
  obtain ⟨k, g1, g2⟩ := TP hk f2'
  have hkn : k = n := by rw [f3] at g2; simpa using g2.symm
  subst hkn;have hvr := hv j e f2'
  rcases h5 with ⟨i, q1, q2⟩ | ⟨q1, q2⟩
  ·have hj : j < ks.length := by
    rcases Nat.lt_or_ge j ks.length with h' | h'
    ·exact h'
    rw [List.getElem?_eq_none h'] at g1; cases g1
   have hi : i < ks.length := by
    rcases Nat.lt_or_ge i ks.length with h' | h'
    ·exact h'
    rw [List.getElem?_eq_none h'] at q1; cases q1
   have : i = j := FV hn hi hj (by rw [List.getElem?_eq_getElem hi] at q1; rw [List.getElem?_eq_getElem hj] at g1; rw [Option.some.inj q1, Option.some.inj g1]);subst this
   rw [← q2] at hvr
   exact G8.here hR hvr h
  exact absurd rfl (q1 k (List.mem_of_getElem? g1))
theorem Mh {t : TypeId} (ho : o.op = .makeMap t none) (h : ∀ id, H id = none → K (.map id) (upd H id (some (.fm [] [])))) : E4 P o fr H K := by
 intro g w a hR hE;have s := M4.new hR (.map #[] 0) False 0;have r := hR.newNamed (.map #[] 0) (.fm [] []) (by simp) ⟨w.heap.size, #[], 0, by simp [Gh.new], hR.bnd, X2, rfl, List.nodup_nil, rfl, fun i e hi => by simp at hi⟩;unfold execOp; rw [ho];simp only [Option.map_none, Instr.makeMap, Sem.run_bind, Sem.run_pure, run_newObj, Result.andThen_ok, D7];exact ⟨_, _, _, s, r, .map (by simp [Gh.new]), h g.nx (hR.nxt _ (Nat.le_refl _)).2.2⟩
theorem Jn {t : TypeId} {x y z : Operand} (ho : o.op = .mapUpdate t x y z ∨ o.op = .insert t x y z) (hl : Qo P H K t (ev fr x) (ev fr y) (ev fr z)) : E4 P o fr H K := by
 intro g w a hR hE;obtain ⟨kt, et, ks, xs, n, id, h1, h2, h3, h4, h5, h6, h⟩ := hl;have hx := C4 hR hE x;have hy := C4 hR hE y;have hz := C4 hR hE z
 rw [h5] at hy
 have hy := IB hy
 rw [h3] at hx
 generalize hav : a.eval x = xv at hx
 cases hx with
 | map hm =>
  rename_i b;obtain ⟨b', es, clock, k1, k2, k3, k4, k5, k6, k7⟩ := hR.blk id _ h4
  rw [hm] at k1; cases k1
  have hks := QQ k4;have hIs : IsKey (.int .i64) (Value.int .i64 n) := rfl
  have hne : ∀ e ∈ es.toList, e.key ≠ .int .i64 n := by
   intro e he hc;obtain ⟨j, hj, e1⟩ := List.getElem_of_mem he;obtain ⟨k, q1, q2⟩ := TP k4 (j := j) (e := e) (by rw [← Array.getElem?_toList, List.getElem?_eq_getElem hj, e1])
   rw [hc] at q2
   exact h6 k (List.mem_of_getElem? q1) (by simpa using q2.symm)
  rcases findNow_spec hIs es.toList 0 hks with ⟨f1, f2⟩ | ⟨j, e, f1, f2, f3⟩
  ·have hes : es.size = ks.length := by have := congrArg List.length k4; simpa using this
   obtain ⟨q1, q2⟩ := hR.putGen (k' := .fm (ks ++ [n]) (xs ++ [ev fr z])) (o' := .map (es.push { key := .int .i64 n, val := a.eval z, born := clock }) (clock + 1)) rfl rfl h4 hm rfl fun s hh hb =>
    ⟨b, _, _, hm, hb, hh, by simp [k4], by
     rw [List.nodup_append]; exact ⟨k5, by simp, fun x hx y hy => by simp at hy; subst hy; exact h6 x hx⟩, by simp [k6], fun i e hi => by
     rw [Array.getElem?_push] at hi
     split at hi
     ·rename_i hie;cases hi
      have : i = xs.length := by omega
      subst this
      simpa using hz.mono s
     rename_i hie
     have hlt : i < xs.length := by
      have := (Array.getElem?_eq_some_iff.1 hi).1;omega
     have := (k7 i e hi).mono s
     simpa [List.getD_eq_getElem?_getD, List.getElem?_append_left hlt] using this⟩
   have hr : (Instr.mapUpdate t (.map (some b)) (.int .i64 n) (a.eval z)).run P w = .ok () (w.putObj b (.map (es.push { key := .int .i64 n, val := a.eval z, born := clock }) (clock + 1))) := by
    simp only [Instr.mapUpdate, Sem.run_bind, run_underlying h1, Result.andThen_ok, Go.MapKept.run_getObj_map k3, run_checkKey h2 hIs, run_findKey h2 f1, run_setObj_map _ k3];rfl
   have hex : (execOp a.eval o).run P w = .ok .skip (w.putObj b (.map (es.push { key := .int .i64 n, val := a.eval z, born := clock }) (clock + 1))) := by
    unfold execOp
    rcases ho with ho | ho <;> rw [ho] <;> simp only [hav, hy, Sem.run_bind, hr, Result.andThen_ok, Sem.run_pure]
   rw [hex];exact ⟨_, _, _, q1, q2, .bad _, h⟩
  have f2' : es[j]? = some e := by simpa using f2
  exact absurd f3 (hne e (Array.mem_toList_iff.2 (Array.mem_of_getElem? f2')))
theorem Pj {t : TypeId} {x y : Operand} {ok : Bool} {v : V} (ho : o.op = .lookup t x y ok) (hl : Hl P H t (ev fr x) (ev fr y) ok v) (h : K v H) : E4 P o fr H K := by
 refine hl.elim (fun hl => ?_) fun hl => Nt ho hl h;intro g w a hR hE;obtain ⟨kt, et, d, kv, id, ob, m, h1, h2, h3, h4, h5, h6, h7, h8⟩ := hl;have hx := C4 hR hE x;have hy := Fk h3 (C4 hR hE y)
 rw [h5] at hx
 generalize hav : a.eval x = xv at hx
 cases hx with
 | map hm =>
  rename_i b;obtain ⟨b', k1, k2, k3, k4⟩ := hR.blk id _ h6
  rw [hm] at k1; cases k1
  obtain ⟨⟨es, clock, e1, e2⟩, hk, hn⟩ := h7;subst e1;have hks := R3.isKeys e2 hk;unfold execOp; rw [ho];simp only [hav, hy, Instr.lookup, Sem.run_bind, run_underlying h1, Result.andThen_ok, Go.MapKept.run_getObj_map k3, Sem.run_pure, run_checkKey h2 h4]
  rcases findNow_spec h4 es.toList 0 hks with ⟨f1, f2⟩ | ⟨j, e, f1, f2, f3⟩
  ·simp only [run_findKey h2 f1, Result.andThen_ok]
   rcases h8 with ⟨q1, z, q2, q3⟩ | ⟨y', q1, q2⟩
   ·obtain ⟨zv, ez, hz⟩ := Az q2
    have hzr : VR g w zv z := by rw [ez]; exact Bq g w zv
    simp only [Sem.run_bind, hz, Result.andThen_ok, Sem.run_pure, D7];subst q3;cases ok
    ·exact G8.here hR hzr h
    refine G8.here hR (.tup rfl fun i hi => ?_) h
    match i with
    | 0 => exact hzr
    | 1 => exact .bool _
    | i + 2 => simp at hi; omega
   exfalso;obtain ⟨i, hi, e⟩ := List.getElem_of_mem q1;obtain ⟨en, g1, g2, g3⟩ := (R3.entry (d := d) e2 i).2 _ (by rw [List.getElem?_eq_getElem hi, e])
   rw [h3] at g2
   exact f2 en (Array.mem_toList_iff.2 (Array.mem_of_getElem? g1)) (Option.some.inj g2).symm
  simp only [run_findKey h2 f1, Result.andThen_ok, Sem.run_pure, D7]
  have f2' : es[j]? = some e := by simpa using f2
  obtain ⟨p, g1, g2, g3⟩ := (R3.entry (d := d) e2 j).1 e f2';have hpk : p.1 = ev fr y := Jx g2 (by rw [h3, f3])
  rcases h8 with ⟨q1, _⟩ | ⟨y', q1, q2⟩
  ·exact absurd hpk (q1 p (List.mem_of_getElem? g1))
  have hpy : p.2 = y' := by
   obtain ⟨i, hi, e⟩ := List.getElem_of_mem q1
   have hj : j < m.length := by
    rcases Nat.lt_or_ge j m.length with h' | h'
    ·exact h'
    rw [List.getElem?_eq_none h'] at g1; cases g1
   have e3 : m[j] = p := by rw [List.getElem?_eq_getElem hj] at g1; exact Option.some.inj g1
   have : i = j := FV hn (by simpa using hi) (by simpa using hj) (by simp [e, e3, hpk]);subst this;rw [← e3, e]
  rw [hpy] at g3
  have hvr : VR g w e.val y' := NF g3;subst q2;cases ok
  ·exact G8.here hR hvr h
  refine G8.here hR (.tup rfl fun i hi => ?_) h
  match i with
  | 0 => exact hvr
  | 1 => exact .bool _
  | i + 2 => simp at hi; omega
theorem R3.set {d : TypeDesc} {m m' : List (V × V)} {es : Array MapEntry} {clock : Nat} {key val : V} {kv vv : Value} (h3 : AY key = some kv) (h4 : IsKey d kv) (h5 : Gf val = some vv)
 (e2 : es.toList.map (fun e => (some e.key, some e.val)) = m.map fun p => (AY p.1, Gf p.2)) (hk : ∀ p ∈ m, ∃ k, AY p.1 = some k ∧ IsKey d k) (hn : (m.map (·.1)).Nodup) (hst : GS es clock) (hs : WS m key val m') :
 ((∀ e ∈ es.toList, e.key ≠ kv) → R3 d (.map (es.push { key := kv, val := vv, born := clock }) (clock + 1)) m') ∧
 ∀ (j : Nat) e, es[j]? = some e → e.key = kv → R3 d (.map (es.modify j fun e => { e with key := kv, val := vv }) clock) m' := by
 have key_of : ∀ (j : Nat) e, es[j]? = some e → e.key = kv → ∃ y, m[j]? = some (key, y) := fun j e hj hje => by
  obtain ⟨p, g1, g2, g3⟩ := (R3.entry (d := d) e2 j).1 e hj;have : p.1 = key := Jx g2 (by rw [h3, hje]);exact ⟨p.2, by rw [g1, ← this]⟩
 constructor
 ·intro hne
  rcases hs with ⟨q1, rfl⟩ | ⟨a, y, b, rfl, rfl⟩
  ·refine ⟨⟨_, _, rfl, by simp [e2, h3, h5]⟩, fun p hp => ?_, ?_, fun es clock h => by cases h; exact hst.push _ _⟩
   ·rcases List.mem_append.1 hp with hp | hp
    ·exact hk p hp
    simp at hp; subst hp; exact ⟨_, h3, h4⟩
   rw [List.map_append];refine List.nodup_append.2 ⟨hn, by simp, fun x hx z hz => ?_⟩
   simp at hz; subst hz
   obtain ⟨p, hp, rfl⟩ := List.mem_map.1 hx;exact q1 p hp
  exfalso;obtain ⟨e, g1, g2, _⟩ := (R3.entry (d := d) e2 a.length).2 (key, y) (by simp)
  rw [h3] at g2
  exact hne e (Array.mem_toList_iff.2 (Array.mem_of_getElem? g1)) (Option.some.inj g2).symm
 intro j e hj hje;obtain ⟨y0, hm⟩ := key_of j e hj hje
 rcases hs with ⟨q1, rfl⟩ | ⟨a, y, b, rfl, rfl⟩
 ·exact absurd rfl (q1 _ (List.mem_of_getElem? hm))
 have hja : j = a.length := by
  have hjl : j < (a ++ (key, y) :: b).length := by
   rcases Nat.lt_or_ge j (a ++ (key, y) :: b).length with h' | h'
   ·exact h'
   rw [List.getElem?_eq_none h'] at hm; cases hm
  have e3 : (a ++ (key, y) :: b)[j] = (key, y0) := by rw [List.getElem?_eq_getElem hjl] at hm; exact Option.some.inj hm
  exact FV hn (by simpa using hjl) (by simp) (by rw [List.getElem_map, List.getElem_map, e3]; simp)
 subst hja;refine ⟨⟨_, _, rfl, ?_⟩, fun p hp => ?_, ?_, fun es clock h => by cases h; exact hst.modify _ _ _⟩
 ·apply List.ext_getElem?;intro i;simp only [List.getElem?_map, Array.getElem?_toList, Array.getElem?_modify]
  by_cases hi : a.length = i
  ·subst hi; simp [hj, h3, h5]
  rw [if_neg hi];have := congrArg (fun l => l[i]?) e2
  simp only [List.getElem?_map, Array.getElem?_toList] at this
  rw [this]
  rcases Nat.lt_or_ge i a.length with h' | h'
  ·rw [List.getElem?_append_left h', List.getElem?_append_left h']
  rw [List.getElem?_append_right h', List.getElem?_append_right h'];obtain ⟨q, hq⟩ : ∃ q, i - a.length = q + 1 := ⟨i - a.length - 1, by omega⟩;rw [hq]; rfl
 ·simp only [List.mem_append, List.mem_cons] at hp
  rcases hp with hp | rfl | hp
  ·exact hk p (by simp [hp])
  ·exact ⟨_, h3, h4⟩
  exact hk p (by simp [hp])
 simpa using hn
theorem Gj {t : TypeId} {x y z : Operand} (ho : o.op = .mapUpdate t x y z ∨ o.op = .insert t x y z) (hl : FN P H K t (ev fr x) (ev fr y) (ev fr z)) : E4 P o fr H K := by
 refine hl.elim (fun hl => ?_) fun hl => Jn ho hl;intro g w a hR hE;obtain ⟨kt, et, d, kv, vv, id, ob, m, m', h1, h2, h3, h4, h5, h6, h7, h8, h9, h⟩ := hl;have hx := C4 hR hE x;have hy := Fk h3 (C4 hR hE y);have hz := SX h5 (C4 hR hE z)
 rw [h6] at hx
 generalize hav : a.eval x = xv at hx
 cases hx with
 | map hm =>
  rename_i b;obtain ⟨b', k1, k2, k3, k4⟩ := hR.blk id _ h7
  rw [hm] at k1; cases k1
  obtain ⟨⟨es, clock, e1, e2⟩, hk, hn, hst⟩ := h8;subst e1;have hks := R3.isKeys e2 hk;obtain ⟨s1, s2⟩ := R3.set (clock := clock) h3 h4 h5 e2 hk hn (hst _ _ rfl) h9
  have run : ∀ o', R3 d o' m' → (Instr.mapUpdate t (.map (some b)) kv vv).run P w = .ok () (w.putObj b o') → D7 P (G8 g w K) ((execOp a.eval o).run P w) := by
   intro o' ho' hr;obtain ⟨q1, q2⟩ := hR.putObj (o' := o') h7 hm (by obtain ⟨⟨_, _, e, _⟩, _⟩ := ho'; rw [e]; rfl)
   have hex : (execOp a.eval o).run P w = .ok .skip (w.putObj b o') := by
    unfold execOp
    rcases ho with ho | ho <;> rw [ho] <;> simp only [hav, hy, hz, Sem.run_bind, hr, Result.andThen_ok, Sem.run_pure]
   rw [hex];exact ⟨_, _, _, q1, q2, .bad _, h o' ho'⟩
  rcases findNow_spec h4 es.toList 0 hks with ⟨f1, f2⟩ | ⟨j, e, f1, f2, f3⟩
  ·refine run _ (s1 f2) ?_;simp only [Instr.mapUpdate, Sem.run_bind, run_underlying h1, Result.andThen_ok, Go.MapKept.run_getObj_map k3, run_checkKey h2 h4, run_findKey h2 f1, run_setObj_map _ k3];rfl
  have f2' : es[j]? = some e := by simpa using f2
  refine run _ (s2 j e f2' f3) ?_;simp only [Nat.zero_add, Instr.mapUpdate, Sem.run_bind, run_underlying h1, Result.andThen_ok, Go.MapKept.run_getObj_map k3, run_checkKey h2 h4, run_findKey h2 f1, f2', Option.map_some, Option.getD_some, f3, run_keyThatStays h4, run_setObj_map _ k3];rfl
end
end Go.Ab
namespace Go.Ab
open Go.RowKit
variable [G5]
theorem Rl.lessArr {g : Gh} {H : A0} {w : World} (h : Rl g H w) {id sz : Nat} {xs ys : List V} (hk : H id = some (.arr sz xs)) (hl : G4 xs ys) : Rl g (upd H id (some (.arr sz ys))) w := by
 have el := hl.length
 have hat : ∀ x, g.at (upd H id (some (.arr sz ys))) x = g.at H x := by
  intro x
  by_cases hx : x = id
  ·subst hx; simp only [Gh.at, A9, hk, el]
  simp only [Gh.at, A3 _ _ hx]
 refine ⟨fun x k hx => ?_, fun x x' y h1 h2 => h.inj x x' y (hat x ▸ h1) (hat x' ▸ h2), h.frz, fun x hx => ?_, h.bnd, h.glb⟩
 ·by_cases hxe : x = id
  ·subst hxe; rw [A9] at hx; cases hx
   obtain ⟨b, h1, h2, h3, h4, h5⟩ := h.blk x _ hk;refine ⟨b, h1, h2, h3.trans el, fun i hi => ?_, ?_⟩
   ·rw [← (hl.at i).cells.length]; exact h4 i (by omega)
   rw [← el];refine h5.imp (fun h => h) fun ⟨c, T, k1, k2, k3, k4, k5⟩ => ⟨c, T, k1, k2, k3, fun i j hi hj => ⟨(k4 i j hi hj).1, (k4 i j hi hj).2.le ((hl.at i).cells.at j)⟩, k5⟩
  rw [A3 _ _ hxe] at hx; exact h.blk x k hx
 obtain ⟨a1, a2, a3⟩ := h.nxt x hx
 have hne : x ≠ id := fun e => by subst e; rw [hk] at a3; cases a3
 exact ⟨a1, a2, by rw [A3 _ _ hne]; exact a3⟩
section
variable {P : Program} {o : Oper} {fr : Fr} {H : A0} {K : V → A0 → Prop}
theorem E4.lessRow (h : E4 P o fr H fun x H' => ∃ id sz xs ys, H' id = some (.arr sz xs) ∧ G4 xs ys ∧ K x (upd H' id (some (.arr sz ys)))) : E4 P o fr H K := by
 intro g w a hR hE;have h := h g w a hR hE
 have key : ∀ v w', G8 g w (fun x H' => ∃ id sz xs ys, H' id = some (.arr sz xs) ∧ G4 xs ys ∧ K x (upd H' id (some (.arr sz ys)))) v w' → G8 g w K v w' := by
  rintro v w' ⟨g', x, H', s, hR', hv, id, sz, xs, ys, h1, h2, h3⟩;exact ⟨g', x, _, s, hR'.lessArr h1 h2, hv, h3⟩
 unfold D7 at h ⊢
 split at h
 ·exact key _ _ h
 ·exact key _ _ h
 ·exact h.mono fun e w' ⟨v, h1, h2⟩ => ⟨v, h1, key _ _ h2⟩
 ·exact h.mono fun e w' ⟨v, h1, h2⟩ => ⟨v, h1, key _ _ h2⟩
 exact h.elim
theorem Ip {x : Operand} (ho : o.op = .assign x ∨ o.op = .move x) (hx : ev fr x = .sl [] .nil) (sz : Nat) (h : ∀ q, H q = none → K (.own q 0 0) (upd H q (some (.arr sz [])))) : E4 P o fr H K := by
 intro g w a hR hE;have hv := C4 hR hE x
 rw [hx] at hv
 obtain ⟨g1, s1, R1, hn, hv1⟩ := BJ hR sz (.inl rfl) hv;unfold execOp
 rcases ho with ho | ho <;> rw [ho] <;> exact ⟨g1, _, _, s1, R1, hv1, h _ hn⟩
theorem SN {t e : TypeId} {n sz : Nat} {parts : Array (Nat × Operand)} {xs ys : List V} (ho : o.op = .buildSlice t n parts) (hl : S8 P t n (parts.toList.map fun (p : Nat × Operand) => (p.1, ev fr p.2)) = some (.sl xs .full))
 (he : BT P t = some e) (hs : Bw P e = some sz) (hle : G4 xs ys) (h : ∀ q, H q = none → K (.own q 0 (xs.length : Nat)) (upd H q (some (.arr sz ys)))) : E4 P o fr H K := by
 refine E4.lessRow ?_;intro g w a hR hE;obtain ⟨e', sz', z, k1, k2, _, k3, k4, _, d, hrun, hdz, hdv⟩ := Fh hR hE hl
 rw [he] at k1; cases k1
 rw [hs] at k2; cases k2
 cases k3
 have hget : ∀ i, ((parts.toList.map fun (p : Nat × Operand) => (p.1, ev fr p.2)).map (fun (q : Nat × V) => q.2)).getD i .bad = ((parts.toList.map fun (p : Nat × Operand) => (p.1, ev fr p.2)).getD i (0, .bad)).2 := by
  intro i;simp only [List.getD_eq_getElem?_getD, List.getElem?_map];cases parts.toList[i]? <;> rfl
 generalize hL : (parts.toList.map fun (p : Nat × Operand) => (p.1, ev fr p.2)) = L at *
 have hz : ∀ i, i < (L.map fun (q : Nat × V) => q.2).length → ((L.map fun (q : Nat × V) => q.2).getD i .bad).cells.length = sz := by
  intro i hi
  have : ∀ (m : List (Nat × V)) (k i : Nat), Y8 sz k m = true → i < m.length → (m.getD i (0, .bad)).2.cells.length = sz := by
   intro m
   induction m with
   | nil => intro k i _ hi; simp at hi
   | cons y m ih =>
    intro k i hs hi
    simp only [Y8, Bool.and_eq_true, beq_iff_eq] at hs
    cases i with
    | zero => exact hs.1.2
    | succ i => exact ih (k + 1) i hs.2 (by simpa using hi)
  rw [hget]; exact this L 0 i (by assumption) (by simpa using hi)
 have el : (L.map fun (q : Nat × V) => q.2).length = n := by simpa using k4
 obtain ⟨s, r, hn⟩ := Rl.newArr (w' := w.alloc (.cells d e)) hR (b := w.heap.size) (o := 0) (sz := sz) (ys := L.map fun (q : Nat × V) => q.2) hz (fun b q hf => Ad (hR.fz_lt hf)) ((Below.refl _ _).alloc hR.bnd _) (fun x _ hlt => heap_alloc hlt)
  (.inr ⟨d, e, hR.bnd, X2, by rw [hdz, el]; omega, fun i j hi hj => by
   rw [Nat.zero_add, hget]; exact (hdv i j (by omega) hj).2, fun q _ hf => absurd (hR.fz_lt hf) (Nat.lt_irrefl _), fun id hid => absurd (hR.lt hid) (Nat.lt_irrefl _)⟩)
 unfold execOp; rw [ho];simp only [Sem.run_bind, hrun, Result.andThen_ok, Sem.run_pure, D7];refine ⟨_, .own g.nx 0 ((L.map fun (q : Nat × V) => q.2).length : Nat), _, s, r, ?_, g.nx, sz, _, ys, A9 _ _ _, hle, ?_⟩
 ·have e' : (g.own w.heap.size ⟨0, (L.map fun (q : Nat × V) => q.2).length, sz⟩).ow g.nx = ⟨0, (L.map fun (q : Nat × V) => q.2).length, sz⟩ := by simp [Gh.own]
  have := VR.own (g := g.own w.heap.size ⟨0, (L.map fun (q : Nat × V) => q.2).length, sz⟩) (w := w.alloc (.cells d e)) (id := g.nx) (b := w.heap.size) (lo := 0) (n := ((L.map fun (q : Nat × V) => q.2).length : Nat)) (p := some ⟨w.heap.size, 0, none⟩) (by simp [Gh.own]) (by omega) (by omega) (by rw [e']; simp) (by rw [e']; simp)
  rw [e'] at this
  simpa [el] using this
 rw [P6]; exact h _ hn
def Xh (l : List Int) : ByteArray := l.foldl (fun r n => r.push (UInt8.ofNat n.toNat)) ByteArray.empty
def LN (P : Program) (H : A0) (s d : TypeId) (x v : V) : Prop :=
 ∃ e l, BT P s = some e ∧ P.underlying e = some (.int .u8) ∧ P.underlying d = some .string ∧ IR 1 H x (l.map (V.int .u8)) ∧ v = .str (Xh l)
theorem IR.up {sz : Nat} {H H' : A0} {x : V} {ys : List V} (hl : ∀ id b, H id = some b → H' id = some b) (h : IR sz H x ys) : IR sz H' x ys := by
 unfold IR at h ⊢
 split at h
 ·exact h
 ·obtain ⟨xs, h1, h2⟩ := h; exact ⟨xs, hl _ _ h1, h2⟩
 exact h
theorem PW {P : Program} {H H' : A0} {s d : TypeId} {x v : V} (hl : ∀ id b, H id = some b → H' id = some b) (h : LN P H s d x v) : LN P H' s d x v := by
 obtain ⟨e, l, h1, h2, h3, h4, h5⟩ := h;exact ⟨e, l, h1, h2, h3, h4.up hl, h5⟩
def Tz (K : V → A0 → Prop) (x : V) (H : A0) : Prop := ∃ id sz xs ys, H id = some (.arr sz xs) ∧ G4 xs ys ∧ K x (upd H id (some (.arr sz ys)))
def litO (P : Program) (H : A0) (K : V → A0 → Prop) (t : TypeId) (n : Nat) (parts : List (Nat × V)) : Prop :=
 ∃ e sz xs ys, S8 P t n parts = some (.sl xs .full) ∧ BT P t = some e ∧ Bw P e = some sz ∧ G4 xs ys ∧ ∀ q, H q = none → K (.own q 0 (xs.length : Nat)) (upd H q (some (.arr sz ys)))
def VZ (H : A0) (K : V → A0 → Prop) (x : V) : Prop := x = .sl [] .nil ∧ ∃ sz, ∀ q, H q = none → K (.own q 0 0) (upd H q (some (.arr sz [])))
theorem SJ {l : List Int} {ys0 : List V} (h : G4 ys0 (l.map (V.int .u8))) : ys0 = l.map (V.int .u8) := by
 induction l generalizing ys0 with
 | nil => cases h; rfl
 | cons n l ih =>
  cases h with
  | cons h1 h2 =>
   cases h1;rw [ih h2]; rfl
theorem Rq {s d : TypeId} {y : Operand} {x : V} (ho : o.op = .convert s d y) (hl : LN P H s d (ev fr y) x) (h : K x H) : E4 P o fr H K := by
 intro g w a hR hE;have hv := C4 hR hE y;obtain ⟨e, l, h1, h2, h3, h4, rfl⟩ := hl;obtain ⟨ys0, k1, k2, k3⟩ := h4.inv hR hv;have e1 := SJ k2;subst e1;obtain ⟨base, cap, vs, r1, r2, r3⟩ := DZ P hR k1 hv k3;have hs := H8 h1
 have hlen : (l.map (V.int .u8)).length = l.length := by simp
 have hcell : ∀ i, i < l.length → vs i 0 = .int .u8 (l.getD i 0) := by
  intro i hi;have := (r2 i 0 (by rw [hlen]; exact hi) (by omega)).2
  have e : ((l.map (V.int .u8)).getD i .bad).cells.getD 0 .bad = .int .u8 (l.getD i 0) := by
   simp [List.getD, hi, V.cells]
  rw [e] at this
  exact this.int_inv
 have hread := r3 l.length (by rw [hlen]; exact Nat.le_refl _) w (fun _ _ => rfl)
 have hcells : ((List.range (l.length * 1)).map fun k => vs (k / 1) (k % 1)).toArray = (l.map (Value.int .u8)).toArray := by
  congr 1
  apply List.ext_getElem?;intro i;simp only [List.getElem?_map, Nat.mul_one, Nat.div_one, Nat.mod_one]
  by_cases hi : i < l.length
  ·rw [List.getElem?_range hi, List.getElem?_eq_getElem hi];simp [hcell i hi, List.getD, hi]
  rw [List.getElem?_eq_none (by simpa using hi), List.getElem?_eq_none (by omega)]; rfl
 rw [hcells] at hread
 rw [hlen] at r1
 rw [r1] at hread
 have run : (convert s d (.slice base l.length cap)).run P w = .ok (.string (Xh l)) w := by
  rw [run_convert_bytes_string w s d e base l.length cap hs h2 h3]
  cases base with
  | none =>
   have : l = [] := by
    simp only [Builtin.firstCells] at hread
    have hh : (.ok #[] w : Result (Array Value)) = .ok (l.map (Value.int .u8)).toArray w := by simpa [Sem.run_pure] using hread
    injection hh with hh _
    have := congrArg Array.size hh
    simp at this
    exact List.eq_nil_of_length_eq_zero this.symm
   subst this; rfl
  | some ad =>
   simp only [Builtin.firstCells, Nat.mul_one] at hread
   exact run_bytesToString w ad l.length cap l hread
 unfold execOp; rw [ho];simp only [r1, Sem.run_bind, run, Result.andThen_ok, Sem.run_pure, D7];exact G8.here hR (.str _) h
end
end Go.Ab
