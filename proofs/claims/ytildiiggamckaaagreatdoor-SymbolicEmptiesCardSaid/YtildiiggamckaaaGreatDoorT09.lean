/- AbN3 -/
import Derived.Test.YtildiiggamckaaaGreatDoorT08
import Derived.Maps.RangeRun
set_option linter.all false
namespace Go.Ab
open Go.RowKit Go.MapKept
variable [G5]
def Jz (P : Program) (H : A0) (K : V → A0 → Prop) (t : TypeId) (x : V) : Prop :=
 ∃ kt et mid es clock, P.underlying t = some (.map kt et) ∧ x = .map mid ∧ H mid = some (.obj (.map es clock)) ∧ ∀ id, H id = none → K (.ref id 0) (upd H id (some (.iter mid clock #[] clock)))
def NP (H : A0) (K : V → A0 → Prop) (x : V) : Prop :=
 ∃ id mid since, ∃ seen : Array Nat, ∃ c0, ∃ es : Array MapEntry, ∃ clock, x = .ref id 0 ∧ H id = some (.iter mid since seen c0) ∧ H mid = some (.obj (.map es clock)) ∧ (∀ e ∈ es.toList, e.born < since) ∧ since ≤ c0 ∧
  ((leftOf es seen).size = 0 → K (.tup [.bool false]) H) ∧ ∀ e ∈ (leftOf es seen).toList, K (.tup [.bool true, .bad, .bad]) (upd H id (some (.iter mid since (seen.push e.born) clock)))
def Kh (H : A0) (K : V → A0 → Prop) (x : V) : Prop :=
 ∃ id mid since, ∃ seen : Array Nat, ∃ c0, ∃ es : Array MapEntry, ∃ clock e kx vx, x = .ref id 0 ∧ H id = some (.iter mid since (seen.push e.born) c0) ∧ c0 = clock ∧ H mid = some (.obj (.map es clock)) ∧ e ∈ es.toList ∧ (es.toList.map (·.born)).Nodup ∧
  AY kx = some e.key ∧ Gf vx = some e.val ∧ K (.tup [kx, vx]) H
def BY (P : Program) (H : A0) (K : V → A0 → Prop) (ts : List TypeId) (vs : List V) : Prop :=
 match ts, vs with
 | [t, _], [x, key] =>
  ∃ kt et d kv id o m, P.underlying t = some (.map kt et) ∧ P.underlying kt = some d ∧ AY key = some kv ∧ IsKey d kv ∧ x = .map id ∧ H id = some (.obj o) ∧ R3 d o m ∧
   ∀ o' m', R3 d o' m' → ((m' = m ∧ ∀ p ∈ m, p.1 ≠ key) ∨ ∃ j p, m[j]? = some p ∧ p.1 = key ∧ m' = m.eraseIdx j) → K (.tup []) (upd H id (some (.obj o')))
 | _, _ => False
theorem Ir {P : Program} {H : A0} {K K' : V → A0 → Prop} {t : TypeId} {x : V} (h : Jz P H K t x) (hk : ∀ v H', K v H' → K' v H') : Jz P H K' t x := by
 obtain ⟨kt, et, mid, es, clock, h1, h2, h3, h4⟩ := h;exact ⟨kt, et, mid, es, clock, h1, h2, h3, fun id hid => hk _ _ (h4 id hid)⟩
theorem JK {H : A0} {K K' : V → A0 → Prop} {x : V} (h : NP H K x) (hk : ∀ v H', K v H' → K' v H') : NP H K' x := by
 obtain ⟨id, mid, since, seen, c0, es, clock, h1, h2, h3, h4, h5, h6, h7⟩ := h;exact ⟨id, mid, since, seen, c0, es, clock, h1, h2, h3, h4, h5, fun e => hk _ _ (h6 e), fun e he => hk _ _ (h7 e he)⟩
theorem IF {H : A0} {K K' : V → A0 → Prop} {x : V} (h : Kh H K x) (hk : ∀ v H', K v H' → K' v H') : Kh H K' x := by
 obtain ⟨id, mid, since, seen, c0, es, clock, e, kx, vx, h1, h2, h3, h4, h5, h6, h7, h8, h9⟩ := h;exact ⟨id, mid, since, seen, c0, es, clock, e, kx, vx, h1, h2, h3, h4, h5, h6, h7, h8, hk _ _ h9⟩
theorem Hu {P : Program} {H : A0} {K K' : V → A0 → Prop} {ts : List TypeId} {vs : List V} (h : BY P H K ts vs) (hk : ∀ v H', K v H' → K' v H') : BY P H K' ts vs := by
 unfold BY at h ⊢
 split at h
 ·obtain ⟨kt, et, d, kv, id, o, m, h1, h2, h3, h4, h5, h6, h7, h8⟩ := h;exact ⟨kt, et, d, kv, id, o, m, h1, h2, h3, h4, h5, h6, h7, fun o' m' a b => hk _ _ (h8 o' m' a b)⟩
 exact h.elim
theorem Jd {g : Gh} {H : A0} {w : World} (hR : Rl g H w) {id b : Nat} {o : Obj} (h : H id = some (.obj o)) (hb : g.mu id = some b) : w.heap[b]? = some o := by
 obtain ⟨b', h1, _, h3, _⟩ := hR.blk id _ h
 rw [hb] at h1; cases h1; exact h3
theorem Rl.drew {g : Gh} {H : A0} {w : World} (hR : Rl g H w) : M4 g w g w.drew ∧ Rl g H w.drew := by
 have s : M4 g w g w.drew := ⟨fun _ _ e => e, fun _ _ e => e, fun _ _ e => e, rfl, fun _ _ _ => rfl, (Below.refl _ _).drew, fun _ _ _ => rfl⟩;exact ⟨s, ⟨fun id b hb => (hR.blk id b hb).mono hb s fun _ _ => ⟨rfl, fun _ ho => ho⟩, hR.inj, hR.frz, hR.nxt, hR.bnd, fun n => (hR.glb n).mono s⟩⟩
theorem Rl.putIter {g : Gh} {H : A0} {w : World} (h : Rl g H w) {id b mid bm since since' c0 c0' : Nat} {seen seen' : Array Nat} (hk : H id = some (.iter mid since seen c0)) (hb : g.mu id = some b) (hm : g.mu mid = some bm) :
 M4 g w g (ChangeMaps.setBlock w b (.mapIter (some bm) since' seen' c0')) ∧ Rl g (upd H id (some (.iter mid since' seen' c0'))) (ChangeMaps.setBlock w b (.mapIter (some bm) since' seen' c0')) := by
 have e0 : ChangeMaps.setBlock w b (.mapIter (some bm) since' seen' c0') = w.putObj b (.mapIter (some bm) since' seen' c0') := rfl;rw [e0];obtain ⟨b', bm', h1, h2, h3, h4⟩ := h.blk id _ hk
 rw [hb] at h1; cases h1
 have hcell := FJ (o' := .mapIter (some bm) since' seen' c0') h4 rfl rfl
 have s : M4 g w g (w.putObj b (.mapIter (some bm) since' seen' c0')) := by
  refine ⟨fun _ _ e => e, fun _ _ e => e, fun _ _ e => e, rfl, fun b o _ => hcell b o, ⟨rfl, rfl, rfl, by simp, fun k hk => World.putObj_heap_other (by omega)⟩, fun _ _ _ => rfl⟩
 have hat : ∀ x, g.at (upd H id (some (.iter mid since' seen' c0'))) x = g.at H x := by
  intro x
  by_cases hx : x = id
  ·subst hx; simp [Gh.at, A9, hk]
  simp only [Gh.at, A3 _ _ hx]
 have hid : g.at H id = some b := by simp [Gh.at, hk, hb]
 refine ⟨s, fun x k hx => ?_, fun x x' y h1 h2 => h.inj x x' y (hat x ▸ h1) (hat x' ▸ h2), fun y o hf => ?_, fun x hx => ?_, ?_, fun n => (h.glb n).mono s⟩
 ·by_cases hxe : x = id
  ·subst hxe; rw [A9] at hx; cases hx
   exact ⟨b, bm, hb, h2, hm, World.putObj_heap_same (JQ h4)⟩
  rw [A3 _ _ hxe] at hx
  refine (h.blk x k hx).mono hx s fun y hy => ⟨World.putObj_heap_other fun e => ?_, fun _ ho => ho⟩;subst e; exact hxe (h.inj _ _ _ hy hid)
 ·obtain ⟨v, hv'⟩ := h.frz y o hf;exact ⟨v, (hcell y o).trans hv'⟩
 ·obtain ⟨a1, a2, a3⟩ := h.nxt x hx
  have hne : x ≠ id := fun e => by subst e; rw [hk] at a3; cases a3
  exact ⟨a1, a2, by rw [A3 _ _ hne]; exact a3⟩
 have := h.bnd; simp; omega
section
variable {P : Program} {o : Oper} {fr : Fr} {H : A0} {K : V → A0 → Prop}
theorem Ri {t : TypeId} {y : Operand} (ho : o.op = .range t y) (hl : Jz P H K t (ev fr y)) : E4 P o fr H K := by
 intro g w a hR hE;obtain ⟨kt, et, mid, es, clock, h1, h2, h3, h4⟩ := hl;have hx := C4 hR hE y
 rw [h2] at hx
 generalize hav : a.eval y = xv at hx
 cases hx with
 | map hm =>
  rename_i bm;have k3 := Jd hR h3 hm;have s := M4.new hR (.mapIter (some bm) clock #[] clock) False 0
  have hne : mid ≠ g.nx := fun e => by subst e; rw [(hR.nxt _ (Nat.le_refl _)).1] at hm; cases hm
  have r := hR.newNamed (.mapIter (some bm) clock #[] clock) (.iter mid clock #[] clock) (by simp) ⟨w.heap.size, bm, by simp [Gh.new], hR.bnd, by simp [Gh.new, hne, hm], X2⟩;unfold execOp; rw [ho];simp only [hav, Sem.run_bind, run_range_map w t kt et bm es clock h1 k3, Result.andThen_ok, Sem.run_pure, D7];exact ⟨_, _, _, s, r, .ref (by simp [Gh.new]), h4 g.nx (hR.nxt _ (Nat.le_refl _)).2.2⟩
theorem SR {y : Operand} (ho : o.op = .next y false) (hl : NP H K (ev fr y)) : E4 P o fr H K := by
 intro g w a hR hE;obtain ⟨id, mid, since, seen, c0, es, clock, h1, h2, h3, h4, h5, h6, h7⟩ := hl;have hx := C4 hR hE y
 rw [h1] at hx
 generalize hav : a.eval y = xv at hx
 obtain ⟨b, bm, k1, k2, k3, k4⟩ := hR.blk id _ h2;have k5 := Jd hR h3 k3
 cases hx with
 | ref hm =>
  rename_i b'
  rw [k1] at hm; cases hm
  unfold execOp; rw [ho];simp only [hav]
  rcases run_next_at (P := P) w o.type b bm since c0 seen es clock k4 k5 h4 h5 with ⟨e1, e2⟩ | ⟨e, e1, w1, e2, e3⟩
  ·simp only [Sem.run_bind, e2, Result.andThen_ok, Sem.run_pure, D7];refine G8.here hR (.tup rfl fun i hi => ?_) (h6 e1)
   match i with
   | 0 => exact .bool _
   | i + 1 => simp at hi
  simp only [Sem.run_bind, e3, Result.andThen_ok, Sem.run_pure, D7]
  have key : ∀ w1 : World, M4 g w g w1 → Rl g H w1 → G8 g w K (.tuple #[.bool true, e.key, e.val]) (ChangeMaps.setBlock w1 b (.mapIter (some bm) since (seen.push e.born) clock)) := by
   intro w1 s1 hR1;obtain ⟨s2, hR2⟩ := hR1.putIter (since' := since) (seen' := seen.push e.born) (c0' := clock) h2 k1 k3;refine ⟨g, _, _, s1.trans s2, hR2, .tup rfl fun i hi => ?_, h7 e e1⟩
   match i with
   | 0 => exact .bool _
   | 1 => exact .bad _
   | 2 => exact .bad _
   | i + 3 => simp at hi; omega
  rcases e2 with rfl | rfl
  ·exact key _ (M4.refl _ _) hR
  exact key _ hR.drew.1 hR.drew.2
theorem Rp {y : Operand} (ho : o.op = .entry y) (hl : Kh H K (ev fr y)) : E4 P o fr H K := by
 intro g w a hR hE;obtain ⟨id, mid, since, seen, c0, es, clock, e, kx, vx, h1, h2, h0, h3, h4, h5, h6, h7, h8⟩ := hl;subst h0;have hx := C4 hR hE y
 rw [h1] at hx
 generalize hav : a.eval y = xv at hx
 obtain ⟨b, bm, k1, k2, k3, k4⟩ := hR.blk id _ h2;have k5 := Jd hR h3 k3
 cases hx with
 | ref hm =>
  rename_i b'
  rw [k1] at hm; cases hm
  unfold execOp; rw [ho];simp only [hav, Sem.run_bind, run_entry_at (P := P) w b bm since seen es _ e k4 k5 h4 h5, Result.andThen_ok, Sem.run_pure, D7];refine G8.here hR (.tup rfl fun i hi => ?_) h8
  match i with
  | 0 => exact Jw h6
  | 1 => exact NF h7
  | i + 2 => simp at hi; omega
theorem R3.erase {d : TypeDesc} {m : List (V × V)} {es : Array MapEntry} {clock : Nat} (h : R3 d (.map es clock) m) (j : Nat) (hj : j < es.size) : R3 d (.map (es.eraseIdxIfInBounds j) clock) (m.eraseIdx j) := by
 obtain ⟨⟨es', c', e1, e2⟩, hk, hn, hst⟩ := h;cases e1;have hsub : (m.eraseIdx j).Sublist m := List.eraseIdx_sublist _ _;refine ⟨⟨_, _, rfl, ?_⟩, fun p hp => hk p (hsub.subset hp), (hsub.map _).nodup hn, fun es1 c1 h => by cases h; exact (hst _ _ rfl).sub (by unfold Array.eraseIdxIfInBounds; rw [dif_pos hj, Array.toList_eraseIdx]; exact List.eraseIdx_sublist _ _)⟩
 have e3 : (es.eraseIdxIfInBounds j).toList = es.toList.eraseIdx j := by
  unfold Array.eraseIdxIfInBounds;rw [dif_pos hj, Array.toList_eraseIdx]
 rw [e3];apply List.ext_getElem?;intro i;have e4 := congrArg (fun l => l[i]?) e2;have e5 := congrArg (fun l => l[i + 1]?) e2
 simp only [List.getElem?_map, List.getElem?_eraseIdx] at e4 e5 ⊢
 split
 ·exact e4
 exact e5
theorem Pl {x y : Operand} {t t2 : TypeId} (ho : o.op = .call { callee := .builtin .delete, args := #[x, y], argTypes := #[t, t2] }) (hl : BY P H K [t, t2] [ev fr x, ev fr y]) : E4 P o fr H K := by
 intro g w a hR hE;obtain ⟨kt, et, d, kv, id, ob, m, h1, h2, h3, h4, h5, h6, h7, h8⟩ := hl;have hx := C4 hR hE x;have hy := Fk h3 (C4 hR hE y)
 rw [h5] at hx
 rw [J4 ho];simp only [List.map_toArray, List.map_cons, List.map_nil]
 generalize hav : a.eval x = xv at hx
 cases hx with
 | map hm =>
  rename_i b;have k3 := Jd hR h6 hm;have h7' := h7;obtain ⟨⟨es, clock, e1, e2⟩, hk, hn, hst⟩ := h7;subst e1;have hks := R3.isKeys e2 hk
  have fin : ∀ o' m', R3 d o' m' → ((m' = m ∧ ∀ p ∈ m, p.1 ≠ ev fr y) ∨ ∃ j p, m[j]? = some p ∧ p.1 = ev fr y ∧ m' = m.eraseIdx j) → Obj.isCells o' = false → G8 g w K (.tuple #[]) (w.putObj b o') := fun o' m' a1 a2 a4 => by
   obtain ⟨s, hR'⟩ := hR.putObj h6 hm a4;exact ⟨g, _, _, s, hR', .tup rfl fun i hi => by simp at hi, h8 o' m' a1 a2⟩
  simp only [builtin, Builtin.delete_, hy, Sem.run_bind, run_underlying h1, Result.andThen_ok, Go.MapKept.run_getObj_map k3, run_checkKey h2 h4]
  rcases findNow_spec h4 es.toList 0 hks with ⟨f1, f2⟩ | ⟨j, e, f1, f2, f3⟩
  ·have hset : (setObj b (.map es clock)).run P w = .ok () (w.putObj b (.map es clock)) := by simp [setObj, Sem.run, k3, World.putObj]
   simp only [List.getElem?_toArray, List.getElem?_cons_zero, List.getElem?_cons_succ, Sem.run_bind, run_underlying h1, Result.andThen_ok, Go.MapKept.run_getObj_map k3, run_checkKey h2 h4, run_findKey h2 f1, hset, Sem.run_pure, D7];refine fin _ m ⟨⟨es, clock, rfl, e2⟩, hk, hn, hst⟩ (.inl ⟨rfl, fun p hp e => ?_⟩) rfl;obtain ⟨i, hi, e0⟩ := List.getElem_of_mem hp;obtain ⟨en, g1, g2, g3⟩ := (R3.entry (d := d) e2 i).2 _ (by rw [List.getElem?_eq_getElem hi, e0])
   rw [e, h3] at g2
   exact f2 en (Array.mem_toList_iff.2 (Array.mem_of_getElem? g1)) (Option.some.inj g2).symm
  have f2' : es[j]? = some e := by simpa using f2
  have hjs : j < es.size := (Array.getElem?_eq_some_iff.1 f2').1
  have hset : (setObj b (.map (es.eraseIdxIfInBounds j) clock)).run P w = .ok () (w.putObj b (.map (es.eraseIdxIfInBounds j) clock)) := by simp [setObj, Sem.run, k3, World.putObj]
  simp only [List.getElem?_toArray, List.getElem?_cons_zero, List.getElem?_cons_succ, Sem.run_bind, run_underlying h1, Result.andThen_ok, Go.MapKept.run_getObj_map k3, run_checkKey h2 h4, run_findKey h2 f1, Nat.zero_add, hset, Sem.run_pure, D7];obtain ⟨p0, g1, g2, g3⟩ := (R3.entry (d := d) e2 j).1 e f2';have hpk : p0.1 = ev fr y := Jx g2 (by rw [h3, f3]);exact fin _ (m.eraseIdx j) (h7'.erase j hjs) (.inr ⟨j, p0, g1, hpk, rfl⟩) rfl
theorem KU {c : Call} (ho : o.op = .call c) (hc : c.callee = .builtin .delete) (h : BY P H K c.argTypes.toList (c.args.toList.map (ev fr))) : E4 P o fr H K := by
 obtain ⟨ce, args, ts⟩ := c
 simp only at hc h
 subst hc;obtain ⟨args⟩ := args;obtain ⟨ts⟩ := ts
 simp only at h
 match args, ts with
 | [x, y], [t, t2] => exact Pl ho h
 | [], [] => exact h.elim
 | [], _ :: _ => exact absurd h (by simp [BY])
 | [_], _ => exact absurd h (by simp [BY])
 | _ :: _ :: _ :: _, _ => exact absurd h (by simp [BY])
 | [_, _], [] => exact h.elim
 | [_, _], [_] => exact h.elim
 | [_, _], _ :: _ :: _ :: _ => exact h.elim
end
section
variable {P : Program} {o : Oper} {fr : Fr} {H : A0} {K : V → A0 → Prop}
def Tu (P : Program) (t : TypeId) (l c v : V) : Prop :=
 ∃ k1 k2 n e sz by_ z, l = .int k1 n ∧ c = .int k2 n ∧ BT P t = some e ∧ Bw P e = some sz ∧ 0 < sz ∧ Jc P e = some by_ ∧ 0 < by_ ∧ Er P e = some z ∧ z.one = true ∧ z.cells.length = sz ∧ 0 ≤ n ∧ n * (by_ : Nat) ≤ 281474976710656 ∧ v = .sl (List.replicate n.toNat z) .ro
theorem Rm {t : TypeId} {l c : Operand} {v : V} (ho : o.op = .makeSlice t l c) (h : Tu P t (ev fr l) (ev fr c) v) (hK : K v H) : E4 P o fr H K := by
 obtain ⟨k1, k2, n, e, sz, by_, z, e1, e2, e3, e4, e5, e6, e7, e8, e9, e10, e11, e12, rfl⟩ := h;intro g w a hR hE;refine D7.mono ?_ (Ns (K := fun x H' => ∃ id, H id = none ∧ x = .own id 0 n ∧ H' = upd H id (some (.arr sz (List.replicate n.toNat z)))) ho e1 e2 e3 e4 e5 e6 e7 e8 e9 e10 e11 (Int.le_refl _) e12 (fun id hid => ⟨id, hid, rfl, rfl⟩) g w a hR hE);rintro x w' ⟨g1, y, H1, s1, R1, hv, id, hid, rfl, rfl⟩;obtain ⟨g2, _, s2, R2, hfr⟩ := R1.freezeArr' (A9 _ _ _)
 have hH : upd (upd H id (some (.arr sz (List.replicate n.toNat z)))) id none = H := by
  funext x
  by_cases hx : x = id
  ·subst hx; rw [A9]; exact hid.symm
  rw [A3 _ _ hx, A3 _ _ hx]
 rw [hH] at R2
 refine ⟨g2, _, H, s1.trans s2, R2, ?_, hK⟩;have := hfr x 0 n (hv.mono s2)
 have hs : G3 (List.replicate n.toNat z) 0 n = List.replicate n.toNat z := by simp [G3]
 rw [hs] at this
 exact this
end
end Go.Ab
