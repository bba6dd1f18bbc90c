/- AbA11 -/
import Derived.Test.YtildiiggamckaaaGreatDoorT09
set_option linter.all false
namespace Go.Ab
open Go.RowKit
variable [G5]
def Args (g : Gh) (w : World) (vals : Array Value) (args : List V) : Prop :=
 vals.size = args.length ∧ ∀ i, i < args.length → VR g w (vals.getD i undef) (args.getD i .bad)
def E6 (P : Program) (f : FuncId) (args : List V) (H : A0) (K : V → A0 → Prop) : Prop :=
 ∀ g w vals, Rl g H w → Args g w vals args → D6 P (G6 g w K) ((callFunc f vals).run P w)
def Z9 (P : Program) (fv : V) (args : List V) (H : A0) (K : V → A0 → Prop) : Prop :=
 ∀ g w v vals, Rl g H w → VR g w v fv → Args g w vals args → D6 P (G6 g w K) ((do let d ← Deferred.ofValue v vals; invoke d.target d.args : Sem Next).run P w)
def B4 (P : Program) (f : FuncId) (args : List V) (r : V) : Prop := ∀ H, E6 P f args H fun x H' => x = r ∧ H' = H
def Q6 (P : Program) (fv : V) (args : List V) (r : V) : Prop := ∀ H, Z9 P fv args H fun x H' => x = r ∧ H' = H
theorem G6.mono {g : Gh} {w : World} {K K' : V → A0 → Prop} (h : ∀ x H, K x H → K' x H) {v : Value} {w' : World} (p : G6 g w K v w') : G6 g w K' v w' :=
 let ⟨g', x, H', a, b, c, d⟩ := p; ⟨g', x, H', a, b, c, h _ _ d⟩
def HJ (P : Program) (fv : V) (args : List V) (H : A0) (r : V) : Prop := ∀ H', (∀ id b, H id = some b → H' id = some b) → Z9 P fv args H' fun x h => x = r ∧ h = H'
theorem Q6.toH {P : Program} {fv : V} {args : List V} {r : V} (h : Q6 P fv args r) (H : A0) : HJ P fv args H r := fun H' _ => h H'
theorem HJ.up {P : Program} {fv : V} {args : List V} {H H' : A0} {r : V} (h : HJ P fv args H r) (hl : ∀ id b, H id = some b → H' id = some b) : HJ P fv args H' r := fun H2 h2 => h H2 fun id b e => h2 id b (hl id b e)
theorem E6.mono {P : Program} {f : FuncId} {args : List V} {H : A0} {K K' : V → A0 → Prop} (c : E6 P f args H K) (h : ∀ x H, K x H → K' x H) : E6 P f args H K' :=
 fun g w vals hR hA => (c g w vals hR hA).mono fun _ _ p => p.mono h
theorem Z9.mono {P : Program} {fv : V} {args : List V} {H : A0} {K K' : V → A0 → Prop} (c : Z9 P fv args H K) (h : ∀ x H, K x H → K' x H) : Z9 P fv args H K' :=
 fun g w v vals hR hv hA => (c g w v vals hR hv hA).mono fun _ _ p => p.mono h
theorem B4.at {P : Program} {f : FuncId} {args : List V} {r : V} (c : B4 P f args r) {H : A0} {K : V → A0 → Prop} (h : K r H) : E6 P f args H K :=
 (c H).mono fun x H' ⟨e1, e2⟩ => by rw [e1, e2]; exact h
theorem Q6.at {P : Program} {fv : V} {args : List V} {r : V} (c : Q6 P fv args r) {H : A0} {K : V → A0 → Prop} (h : K r H) : Z9 P fv args H K :=
 (c H).mono fun x H' ⟨e1, e2⟩ => by rw [e1, e2]; exact h
def Wk (x y : V) : Prop := ∀ g w v, VR g w v x → VR g w v y
theorem Wk.refl (x : V) : Wk x x := fun _ _ _ h => h
theorem Wk.bad (x : V) : Wk x .bad := fun _ _ _ _ => .bad _
theorem Wk.ro (xs : List V) (t : D4) : Wk (.sl xs t) (.sl xs .ro) := by
 intro g w v h
 cases h with
 | sl0 ht => exact .sl0 rfl
 | sle ht => exact .sle (.inl rfl)
 | sl vs hn hc hz hf hw h1 hv ht => exact .sl vs hn hc hz hf hw h1 hv trivial
theorem Wk.nil (t : D4) (ht : t.plain = true) : Wk (.sl [] .nil) (.sl [] t) := by
 intro g w v h
 cases h with
 | sl0 _ => exact .sl0 ht
 | sle h => rcases h with h | ⟨h, _⟩ <;> cases h
 | sl vs hn hc hz hf hw h1 hv ht => exact ht.elim
theorem Args.append {g : Gh} {w : World} {a b : Array Value} {x y : List V} (h : Args g w a x) (k : Args g w b y) : Args g w (a ++ b) (x ++ y) := by
 refine ⟨by simp [h.1, k.1], fun i hi => ?_⟩;rw [Y3]
 have e : (a ++ b).getD i undef = if i < x.length then a.getD i undef else b.getD (i - x.length) undef := by
  simp only [Array.getD_eq_getD_getElem?, Array.getElem?_append, h.1]
  split <;> rfl
 rw [e]
 split
 ·rename_i hlt; exact h.2 i hlt
 exact k.2 _ (by simp at hi; omega)
theorem E6.value {P : Program} {f : FuncId} {F C args : List V} {H : A0} {K : V → A0 → Prop} (h : E6 P f (F ++ args ++ C) H K) : Z9 P (.func (.func f) F C) args H K := by
 intro g w v vals hR hv hA
 cases hv with
 | func hl hv hl' hv' =>
  rename_i fs cs;have := h g w (fs ++ vals ++ cs) hR (Args.append (Args.append ⟨hl, hv⟩ hA) ⟨hl', hv'⟩)
  simpa only [Deferred.ofValue, Sem.run_bind, Sem.run_pure, Result.andThen_ok, invoke] using this
theorem B4.value {P : Program} {f : FuncId} {F C args : List V} {r : V} (h : B4 P f (F ++ args ++ C) r) : Q6 P (.func (.func f) F C) args r := fun H => (h H).value
theorem D9.le {P : Program} {o : Oper} {fr : Fr} {H : A0} {K : V → A0 → Prop} (h : D9 P o fr H fun x H' => ∃ y, X2 x y ∧ K y H') : D9 P o fr H K :=
 fun g w a hR hE => (h g w a hR hE).mono fun v w' ⟨g', x, H', s, hR', hv, y, hxy, hK⟩ => ⟨g', y, H', s, hR', hv.le hxy, hK⟩
section
variable {P : Program} {o : Oper} {fr : Fr} {H : A0} {K : V → A0 → Prop}
theorem SO {g : Gh} {w : World} {a : Act} (hR : Rl g H w) (hE : ER g w a fr) (l : Array Operand) : Args g w (l.map a.eval) (l.toList.map (ev fr)) := by
 refine ⟨by simp, fun i hi => ?_⟩
 have hi' : i < l.size := by simpa using hi
 have e1 : (l.map a.eval).getD i undef = a.eval l[i] := by simp [Array.getD, hi']
 have e2 : (l.toList.map (ev fr)).getD i .bad = ev fr l[i] := by simp [List.getD, hi']
 rw [e1, e2]; exact C3 hR hE _
theorem MF {x : Operand} {args : Array Operand} {ts : Array TypeId} (ho : o.op = .call { callee := .value x, args := args, argTypes := ts }) (h : Z9 P (ev fr x) (args.toList.map (ev fr)) H K) :
 D9 P o fr H K := by
 intro g w a hR hE;have := h g w (a.eval x) (args.map a.eval) hR (C3 hR hE x) (SO hR hE args);unfold execOp; rw [ho]
 simpa only [resolve] using this
end
abbrev Kf := Nat → Bool
def Bj (P : Program) (b : Builtin) (ts : List TypeId) (vs : List V) (v : V) : Prop :=
 match b, ts, vs with
 | .len, [t], [x] => QI P t x = some v
 | .max, _, [.int k a, .int k' b] => k = k' ∧ v = .int k (if a < b then b else a)
 | .min, _, [.int k a, .int k' b] => k = k' ∧ v = .int k (if b < a then b else a)
 | .append, [sT, yT], [.sl xs tl, .sl ys _] => (tl = .nil ∨ tl = .full) ∧ ∃ e sz by_ z xs' ys', BF P sT = some e ∧ (BF P yT).isSome = true ∧ Bm P e = some sz ∧ 0 < sz ∧ IC P e = some by_ ∧ 0 < by_ ∧ DR P e = some z ∧ z.one = true ∧ z.cells.length = sz ∧
  G4 xs xs' ∧ G4 ys ys' ∧ xs'.all (fun x => x.cells.length == sz) = true ∧ ys'.all (fun x => x.cells.length == sz) = true ∧ (xs'.length + ys'.length) * by_ ≤ 140737488355328 ∧ v = .sl (xs' ++ ys') .ro
 | _, _, _ => False
theorem D9.lessH {P : Program} {o : Oper} {fr : Fr} {H : A0} {K : V → A0 → Prop} (h : D9 P o fr H fun x H' => ∃ y H2, X2 x y ∧ (∀ id b, H2 id = some b → H' id = some b) ∧ K y H2) : D9 P o fr H K :=
 fun g w a hR hE => (h g w a hR hE).mono fun v w' ⟨g', x, H', s, hR', hv, y, H2, hxy, hH, hK⟩ => ⟨g', y, H2, s, hR'.less hH, hv.le hxy, hK⟩
theorem Fi {P : Program} {o : Oper} {fr : Fr} {H : A0} {c : Call} {b : Builtin} {v : V} (ho : o.op = .call c) (hc : c.callee = .builtin b)
 (h : Bj P b c.argTypes.toList (c.args.toList.map (ev fr)) v) {K : V → A0 → Prop} (k : K v H) : D9 P o fr H K := by
 obtain ⟨ce, args, ts⟩ := c
 simp only at hc h
 subst hc;obtain ⟨args⟩ := args;obtain ⟨ts⟩ := ts
 simp only at h
 unfold Bj at h
 split at h
 ·rename_i t x e2
  match args, e2 with
  | [y], e2 =>
   simp only [List.map_cons, List.map_nil, List.cons.injEq, and_true] at e2
   subst e2;exact Tn ho h k
  | [], e2 => simp at e2
  | _ :: _ :: _, e2 => simp at e2
 ·rename_i k a k' b e2;obtain ⟨rfl, rfl⟩ := h
  match args, e2 with
  | [x, y], e2 =>
   simp only [List.map_cons, List.map_nil, List.cons.injEq, and_true] at e2
   intro g w act hR hE;rw [J2 ho];have h1 := C3 hR hE x;have h2 := C3 hR hE y
   rw [e2.1] at h1; rw [e2.2] at h2
   have e1 := h1.int_inv; have e2' := h2.int_inv;simp [builtin, Builtin.max_, Builtin.max2, e1, e2', Sem.run_bind, Sem.run_pure]
   split <;> exact G6.here hR (by first | (rw [if_pos (by assumption)]; exact .int _ _) | (rw [if_neg (by omega)]; exact .int _ _) | exact .int _ _) k
  | [], e2 => simp at e2
  | [_], e2 => simp at e2
  | _ :: _ :: _ :: _, e2 => simp at e2
 ·rename_i k a k' b e2;obtain ⟨rfl, rfl⟩ := h
  match args, e2 with
  | [x, y], e2 =>
   simp only [List.map_cons, List.map_nil, List.cons.injEq, and_true] at e2
   intro g w act hR hE;rw [J2 ho];have h1 := C3 hR hE x;have h2 := C3 hR hE y
   rw [e2.1] at h1; rw [e2.2] at h2
   have e1 := h1.int_inv; have e2' := h2.int_inv;simp [builtin, Builtin.min_, Builtin.min2, e1, e2', Sem.run_bind, Sem.run_pure]
   split <;> exact G6.here hR (by first | (rw [if_pos (by assumption)]; exact .int _ _) | (rw [if_neg (by omega)]; exact .int _ _) | exact .int _ _) k
  | [], e2 => simp at e2
  | [_], e2 => simp at e2
  | _ :: _ :: _ :: _, e2 => simp at e2
 ·rename_i sT yT xs tl ys tl' e2;obtain ⟨htl, e, sz, by_, z, xs', ys', k1, k2, k3, k4, k5, k6, k7, k8, k9, l1, l2, k11, k12, k13, rfl⟩ := h
  match args, e2 with
  | [s, y], e2 =>
   simp only [List.map_cons, List.map_nil, List.cons.injEq, and_true] at e2
   have hA : Dh H tl := by rcases htl with rfl | rfl <;> trivial
   have hd : C7 H tl = H := by rcases htl with rfl | rfl <;> rfl
   refine D9.lessH (FX (K := fun x H' => ∃ y H2, X2 x y ∧ (∀ id b, H2 id = some b → H' id = some b) ∧ K y H2) ho e2.1 e2.2 k1 k2 k3 k4 k5 k6 k7 k8 k9 hA (l1.sz k11) (l2.sz k12) (by rw [l1.length, l2.length]; exact k13) (fun e => ⟨_, H, ?_, fun _ _ h => h, k⟩) fun t h1 h2 => ⟨_, H, X2.sl _ (l1.append l2), fun id b hb => ?_, k⟩)
   ·subst e; cases l2; rw [List.append_nil]; exact X2.sl _ l1
   rw [hd] at h2 ⊢
   by_cases e : id = t
   ·subst e; rw [h2] at hb; cases hb
   rw [A3 _ _ e]; exact hb
  | [], e2 => simp at e2
  | [_], e2 => simp at e2
  | _ :: _ :: _ :: _, e2 => simp at e2
 exact h.elim
def Ct (P : Program) (H : A0) (K : V → A0 → Prop) : List TypeId → List V → Prop
 | [sT, yT], [.sl xs tl, .sl ys _] =>
  ∃ e sz by_ z, BF P sT = some e ∧ (BF P yT).isSome = true ∧ Bm P e = some sz ∧ 0 < sz ∧ IC P e = some by_ ∧ 0 < by_ ∧ DR P e = some z ∧ z.one = true ∧ z.cells.length = sz ∧ ∃ xs' ys', G4 xs xs' ∧ G4 ys ys' ∧ Dh H tl ∧
   xs'.all (fun x => x.cells.length == sz) = true ∧ ys'.all (fun x => x.cells.length == sz) = true ∧ (xs'.length + ys'.length) * by_ ≤ 140737488355328 ∧ (ys' = [] → K (.sl xs' tl) H) ∧
   ∀ t, ys' ≠ [] → C7 H tl t = none → K (.sl (xs' ++ ys') (.tok t)) (upd (C7 H tl) t (some .spare))
 | _, _ => False
theorem FO {P : Program} {o : Oper} {fr : Fr} {H : A0} {c : Call} (ho : o.op = .call c) (hc : c.callee = .builtin .append) {K : V → A0 → Prop}
 (h : Ct P H K c.argTypes.toList (c.args.toList.map (ev fr))) : D9 P o fr H K := by
 obtain ⟨ce, args, ts⟩ := c
 simp only at hc h
 subst hc;obtain ⟨args⟩ := args;obtain ⟨ts⟩ := ts
 simp only at h
 unfold Ct at h
 split at h
 ·rename_i sT yT xs tl ys tl' e2
  match args, e2 with
  | [s, y], e2 =>
   simp only [List.map_cons, List.map_nil, List.cons.injEq, and_true] at e2
   obtain ⟨e, sz, by_, z, k1, k2, k3, k4, k5, k6, k7, k8, k9, xs', ys', l1, l2, k10, k11, k12, k13, k14, k15⟩ := h;refine D9.le (FX (K := fun x H' => ∃ y, X2 x y ∧ K y H') ho e2.1 e2.2 k1 k2 k3 k4 k5 k6 k7 k8 k9 k10 (l1.sz k11) (l2.sz k12) (by rw [l1.length, l2.length]; exact k13) (fun e => ⟨_, .slt _ l1, k14 (by subst e; cases l2; rfl)⟩) fun t h1 h2 => ⟨_, .slt _ (l1.append l2), k15 t (fun e => h1 (by subst e; cases l2; rfl)) h2⟩)
  | [], e2 => simp at e2
  | [_], e2 => simp at e2
  | _ :: _ :: _ :: _, e2 => simp at e2
 exact h.elim
def Gl (P : Program) (H : A0) (b : Builtin) (ts : List TypeId) (vs : List V) (v : V) : Prop :=
 match b, ts, vs with
 | .len, [t], [x] => TY P H t x = some v
 | .cap, [t], [x] => Pb P H t x = some v
 | _, _, _ => False
theorem Jt {P : Program} {o : Oper} {fr : Fr} {H : A0} {c : Call} {b : Builtin} {v : V} (ho : o.op = .call c) (hc : c.callee = .builtin b)
 (h : Gl P H b c.argTypes.toList (c.args.toList.map (ev fr)) v) {K : V → A0 → Prop} (k : K v H) : D9 P o fr H K := by
 obtain ⟨ce, args, ts⟩ := c
 simp only at hc h
 subst hc;obtain ⟨args⟩ := args;obtain ⟨ts⟩ := ts
 simp only at h
 unfold Gl at h
 split at h
 ·rename_i t x e2
  match args, e2 with
  | [y], e2 =>
   simp only [List.map_cons, List.map_nil, List.cons.injEq, and_true] at e2
   subst e2;exact RG ho h k
  | [], e2 => simp at e2
  | _ :: _ :: _, e2 => simp at e2
 ·rename_i t x e2
  match args, e2 with
  | [y], e2 =>
   simp only [List.map_cons, List.map_nil, List.cons.injEq, and_true] at e2
   subst e2;exact RI ho h k
  | [], e2 => simp at e2
  | _ :: _ :: _, e2 => simp at e2
 exact h.elim
theorem FE {H H' : A0} (hl : ∀ id b, H id = some b → H' id = some b) {id : Nat} {p : Nat × List V} (h : Bk H id = some p) : Bk H' id = some p := by
 have := AP (sz := p.1) (xs := p.2) h;simp only [Bk, hl _ _ this]
theorem OI {P : Program} {H H' : A0} {t : TypeId} {x v : V} (hl : ∀ id b, H id = some b → H' id = some b) (h : FM P H t x = some v) : FM P H' t x = some v := by
 unfold FM at h ⊢
 split at h
 ·rename_i id i esz off _ _
  cases hk : Bk H id with
  | none => simp [hk] at h
  | some p => simpa only [hk, FE hl hk] using h
 cases h
theorem QM {P : Program} {H H' : A0} {t : TypeId} {x v : V} {i : Int} (hl : ∀ id b, H id = some b → H' id = some b) (h : OQ P H t x i = some v) : OQ P H' t x i = some v := by
 unfold OQ at h ⊢
 split at h
 ·rename_i e id lo n _
  cases hk : Bk H id with
  | none => simp [hk] at h
  | some p => simpa only [hk, FE hl hk] using h
 cases h
theorem Mw {P : Program} {H H' : A0} {t : TypeId} {x v : V} {i j k : Option Int} (hl : ∀ id b, H id = some b → H' id = some b) (h : EI P H t x i j k = some v) : EI P H' t x i j k = some v := by
 unfold EI at h ⊢
 split at h
 ·rename_i e id lo n _
  cases hk : Bk H id with
  | none => cases hs : Bm P e <;> simp [hk, hs] at h
  | some p => simpa only [hk, FE hl hk] using h
 cases h
theorem QJ {P : Program} {H H' : A0} {b : Builtin} {ts : List TypeId} {vs : List V} {v : V} (hl : ∀ id b, H id = some b → H' id = some b) (h : Gl P H b ts vs v) : Gl P H' b ts vs v := by
 unfold Gl at h ⊢
 split at h
 ·exact h
 ·rename_i t x
  unfold Pb at h ⊢
  split at h
  ·rename_i e id lo n _
   cases hk : Bk H id with
   | none => simp [hk] at h
   | some p => simpa only [hk, FE hl hk] using h
  ·exact h
  ·exact h
  cases h
 exact h.elim
def ownN (x : V) : Nat :=
 match x with
 | .own _ _ n => n.toNat
 | _ => 0
def FP (H : A0) (K : V → A0 → Prop) (sz by_ : Nat) (z : V) (x : V) (ys : List V) : Prop :=
 match x with
 | .own id lo n => ∃ xs, H id = some (.arr sz xs) ∧
  (lo + n + (ys.length : Nat) ≤ (xs.length : Nat) → K (.own id lo (n + (ys.length : Nat))) (upd H id (some (.arr sz (S5 xs (lo + n).toNat ys))))) ∧
  ((xs.length : Nat) < lo + n + (ys.length : Nat) → (n.toNat + ys.length) * by_ ≤ 140737488355328 ∧ ∀ t k, H t = none → K (.own t 0 (n + (ys.length : Nat))) (upd H t (some (.arr sz (G3 xs lo n ++ ys ++ List.replicate k z)))))
 | x => (x = .sl [] .nil ∨ x = .sl [] .full) ∧ ys.length * by_ ≤ 140737488355328 ∧ ∀ t k, H t = none → K (.own t 0 (ys.length : Nat)) (upd H t (some (.arr sz (ys ++ List.replicate k z))))
theorem Eu {H : A0} {K K' : V → A0 → Prop} {sz by_ : Nat} {z x : V} {ys : List V} (h : FP H K sz by_ z x ys) (hk : ∀ v H', K v H' → K' v H') : FP H K' sz by_ z x ys := by
 unfold FP at h ⊢
 split at h
 ·obtain ⟨xs, m1, m3, m4⟩ := h;exact ⟨xs, m1, fun e => hk _ _ (m3 e), fun e => ⟨(m4 e).1, fun t k e' => hk _ _ ((m4 e).2 t k e')⟩⟩
 obtain ⟨m1, m2, m3⟩ := h;exact ⟨m1, m2, fun t k e => hk _ _ (m3 t k e)⟩
def He (P : Program) (H : A0) (K : V → A0 → Prop) : List TypeId → List V → Prop
 | [sT, yT], [x, y] =>
  ∃ e sz by_ z, BF P sT = some e ∧ Bm P e = some sz ∧ 0 < sz ∧ IC P e = some by_ ∧ 0 < by_ ∧ DR P e = some z ∧ z.one = true ∧ z.cells.length = sz ∧
   (((BF P yT).isSome = true ∧ ∃ ys', Ip sz H y ys' ∧ FP H K sz by_ z x ys') ∨
    ((∃ k', P.underlying yT = some (.int k')) ∧ ∃ k m, y = .int k m ∧ 0 ≤ m ∧ (ownN x + m.toNat) * by_ ≤ 140737488355328 ∧ FP H K sz by_ z x (List.replicate m.toNat z)))
 | _, _ => False
theorem Kz {P : Program} {o : Oper} {fr : Fr} {H : A0} {c : Call} (ho : o.op = .call c) (hc : c.callee = .builtin .append) {K : V → A0 → Prop}
 (h : He P H K c.argTypes.toList (c.args.toList.map (ev fr))) : D9 P o fr H K := by
 obtain ⟨ce, args, ts⟩ := c
 simp only at hc h
 subst hc;obtain ⟨args⟩ := args;obtain ⟨ts⟩ := ts
 simp only at h
 unfold He at h
 split at h
 ·rename_i sT yT x y' e2
  match args, e2 with
  | [s, y], e2 =>
   simp only [List.map_cons, List.map_nil, List.cons.injEq, and_true] at e2
   obtain ⟨e, sz, by_, z, k1, k3, k4, k5, k6, k7, k8, k9, h⟩ := h
   rcases h with ⟨k2, ys', l1, l4⟩ | ⟨⟨k', k2⟩, k, m, l1, l2, l0, l4⟩
   ·unfold FP at l4
    split at l4
    ·obtain ⟨xs, m1, m3, m4⟩ := l4;exact My ho e2.1 m1 (by rw [e2.2]; exact l1) k1 k2 k3 k4 k5 k6 k7 k8 k9 m3 m4
    obtain ⟨m1, m2, m3⟩ := l4;exact Lz ho (by rw [e2.1]; exact m1) (by rw [e2.2]; exact l1) k1 k2 k3 k4 k5 k6 k7 k8 k9 m2 m3
   have hm : ((m.toNat : Nat) : Int) = m := by omega
   unfold FP at l4
   simp only [List.length_replicate, hm] at l4
   split at l4
   ·rename_i id lo n;obtain ⟨xs, m1, m3, m4⟩ := l4;exact Lx ho e2.1 (e2.2.trans l1) m1 k1 k2 k3 k4 k5 k6 k7 k8 k9 l2 l0 m3 fun e => (m4 e).2
   obtain ⟨m1, m2, m3⟩ := l4;exact Ki ho (by rw [e2.1]; exact m1) (e2.2.trans l1) k1 k2 k3 k4 k5 k6 k7 k8 k9 l2 m2 m3
  | [], e2 => simp at e2
  | [_], e2 => simp at e2
  | _ :: _ :: _ :: _, e2 => simp at e2
 exact h.elim
def ND (P : Program) (H : A0) (K : V → A0 → Prop) : List TypeId → List V → Prop
 | [sT, _], [.own id lo n, y] =>
  ∃ e sz xs ys', BF P sT = some e ∧ Bm P e = some sz ∧ 0 < sz ∧ H id = some (.arr sz xs) ∧ Ip sz H y ys' ∧
   K (.int .i64 (if n < (ys'.length : Nat) then n else (ys'.length : Nat))) (upd H id (some (.arr sz (S5 xs lo.toNat (ys'.take n.toNat)))))
 | _, _ => False
theorem NC {P : Program} {o : Oper} {fr : Fr} {H : A0} {c : Call} (ho : o.op = .call c) (hc : c.callee = .builtin .copy) {K : V → A0 → Prop}
 (h : ND P H K c.argTypes.toList (c.args.toList.map (ev fr))) : D9 P o fr H K := by
 obtain ⟨ce, args, ts⟩ := c
 simp only at hc h
 subst hc;obtain ⟨args⟩ := args;obtain ⟨ts⟩ := ts
 simp only at h
 unfold ND at h
 split at h
 ·rename_i sT yT id lo n y' e2
  match args, e2 with
  | [s, y], e2 =>
   simp only [List.map_cons, List.map_nil, List.cons.injEq, and_true] at e2
   obtain ⟨e, sz, xs, ys', k1, k2, k3, k4, k5, k8⟩ := h;exact Qk ho e2.1 k4 (by rw [e2.2]; exact k5) k1 k2 k3 k8
  | [], e2 => simp at e2
  | [_], e2 => simp at e2
  | _ :: _ :: _ :: _, e2 => simp at e2
 exact h.elim
def JO (P : Program) (H : A0) (K : V → A0 → Prop) : List TypeId → List V → Prop
 | [sT], [.own id lo n] =>
  ∃ e sz z xs, BF P sT = some e ∧ Bm P e = some sz ∧ 0 < sz ∧ DR P e = some z ∧ z.one = true ∧ z.cells.length = sz ∧ H id = some (.arr sz xs) ∧ K (.tup []) (upd H id (some (.arr sz (S5 xs lo.toNat (List.replicate n.toNat z)))))
 | _, _ => False
theorem Md {P : Program} {o : Oper} {fr : Fr} {H : A0} {c : Call} (ho : o.op = .call c) (hc : c.callee = .builtin .clear) {K : V → A0 → Prop}
 (h : JO P H K c.argTypes.toList (c.args.toList.map (ev fr))) : D9 P o fr H K := by
 obtain ⟨ce, args, ts⟩ := c
 simp only at hc h
 subst hc;obtain ⟨args⟩ := args;obtain ⟨ts⟩ := ts
 simp only at h
 unfold JO at h
 split at h
 ·rename_i sT id lo n e2
  match args, e2 with
  | [s], e2 =>
   simp only [List.map_cons, List.map_nil, List.cons.injEq, and_true] at e2
   obtain ⟨e, sz, z, xs, k1, k2, k3, k4, k5, k6, k7, k8⟩ := h;exact Oi ho e2 k7 k1 k2 k3 k4 k5 k6 k8
  | [], e2 => simp at e2
  | _ :: _ :: _, e2 => simp at e2
 exact h.elim
def HW (P : Program) (H : A0) (K : V → A0 → Prop) (t : TypeId) (l c : V) : Prop :=
 match l, c with
 | .int _ n, .int _ m => ∃ e sz by_ z, BF P t = some e ∧ Bm P e = some sz ∧ 0 < sz ∧ IC P e = some by_ ∧ 0 < by_ ∧ DR P e = some z ∧ z.one = true ∧ z.cells.length = sz ∧ 0 ≤ n ∧ n ≤ m ∧ m * by_ ≤ 281474976710656 ∧
  ∀ id, H id = none → K (.own id 0 n) (upd H id (some (.arr sz (List.replicate m.toNat z))))
 | _, _ => False
def Ge (P : Program) (o : Oper) (ρ : Operand → V) (H : A0) (v : V) : Prop :=
 match o.op with
 | .move x => v = ρ x
 | .assign x => v = ρ x
 | .pick c x y =>
  match ρ c with
  | .bool t => v = if t then ρ x else ρ y
  | _ => False
 | .box _ x => (ρ x).one = true ∧ v = .eref (ρ x).cells 0
 | .build t ps => HG P t (ps.toList.map fun p => (p.1, ρ p.2)) = some v
 | .buildSlice t n ps => R8 P t n (ps.toList.map fun p => (p.1, ρ p.2)) = some v
 | .makeSlice t l c => Sh P t (ρ l) (ρ c) v
 | .load t x => Da P H t (ρ x) = some v ∨ FM P H t (ρ x) = some v
 | .nilCheck x => Pz (ρ x) = true ∧ v = ρ x
 | .binOp op t x y _ => Io P op t (ρ x) (ρ y) = some v
 | .unOp op _ x => unV op (ρ x) = some v
 | .convert s d x => Lg P s d (ρ x) = some v ∨ Lh P H s d (ρ x) v
 | .lookup t x y ok => GP P H t (ρ x) (ρ y) ok v
 | .makeInterface t x => VZ P t = false ∧ v = .iface t (ρ x)
 | .makeFunc fn fs cs => v = .func fn (fs.toList.map ρ) (cs.toList.map ρ)
 | .slice t x lo hi mx =>
  match W3 (lo.map ρ), W3 (hi.map ρ), W3 (mx.map ρ) with
  | some l, some h, some m => IN P t (ρ x) l h m = some v ∨ EI P H t (ρ x) l h m = some v
  | _, _, _ => False
 | .fieldAddr t x f => CO P t (ρ x) f = some v
 | .field t x f => JE P t (ρ x) f = some v
 | .indexAddr t x y =>
  match ρ y with
  | .int _ i => (∃ u, AD P t (ρ x) i = some u ∧ X2 u v) ∨ OQ P H t (ρ x) i = some v
  | _ => False
 | .index t x y =>
  match ρ y with
  | .int _ i => Hy P t (ρ x) i = some v
  | _ => False
 | .extract x n =>
  match ρ x with
  | .tup cs => cs[n]? = some v
  | _ => False
 | .call c =>
  match c.callee with
  | .value x => HJ P (ρ x) (c.args.toList.map ρ) H v
  | .builtin b => Bj P b c.argTypes.toList (c.args.toList.map ρ) v ∨ Gl P H b c.argTypes.toList (c.args.toList.map ρ) v
  | _ => False
 | _ => False
theorem OH {P : Program} {H H' : A0} {t : TypeId} {x v : V} (hl : ∀ id b, H id = some b → H' id = some b) (h : Da P H t x = some v) : Da P H' t x = some v := by
 unfold Da at h ⊢
 split at h
 ·exact h
 ·rename_i ag sz id off _ _
  cases hk : H id with
  | none => simp [hk] at h
  | some b => simpa only [hk, hl _ _ hk] using h
 cases h
theorem RZ {P : Program} {o : Oper} {ρ : Operand → V} {H H' : A0} {v : V} (hl : ∀ id b, H id = some b → H' id = some b) (h : Ge P o ρ H v) : Ge P o ρ H' v := by
 unfold Ge at h ⊢
 cases ho : o.op <;> simp only [ho] at h ⊢ <;> first | exact h | exact h.imp (OH hl) (OI hl) | exact h.imp (fun h => h) (OY hl) | exact LS hl h | skip
 ·split at h
  ·exact h.imp (fun h => h) (Mw hl)
  exact h
 ·split at h
  ·exact h.imp (fun h => h) (QM hl)
  exact h
 split at h
 ·exact h.up hl
 ·exact h.imp (fun h => h) (QJ hl)
 exact h
theorem Fs {P : Program} {o : Oper} {fr : Fr} {H : A0} {v : V} (h : Ge P o (ev fr) H v) {K : V → A0 → Prop} (k : K v H) : D9 P o fr H K := by
 unfold Ge at h
 split at h
 ·rename_i x ho; subst h; exact Mz ho k
 ·rename_i x ho; subst h; exact IR ho k
 ·rename_i c x y ho
  split at h
  ·rename_i t hc; subst h; exact RE ho hc k
  exact h.elim
 ·rename_i t x ho; obtain ⟨h1, rfl⟩ := h; exact EJ ho h1 k
 ·rename_i t ps ho; exact Qq ho h k
 ·rename_i t n ps ho; exact IQ ho h k
 ·rename_i t l c ho; exact Ql ho h k
 ·rename_i t x ho; exact h.elim (fun h => RK ho h k) fun h => Qj ho h k
 ·rename_i x ho; obtain ⟨h1, rfl⟩ := h; exact LA ho h1 k
 ·rename_i op t x y ty ho; exact Qr ho h k
 ·rename_i op t x ho; exact RD ho h k
 ·rename_i s d x ho; exact h.elim (fun h => ME ho h k) fun h => Qp ho h k
 ·rename_i t x y ok ho; exact Oj ho h k
 ·rename_i t x ho; obtain ⟨h1, rfl⟩ := h; exact GF ho h1 k
 ·rename_i fn fs cs ho; subst h; exact LD ho k
 ·rename_i t x lo hi mx ho
  split at h
  ·rename_i l hh m e1 e2 e3; exact h.elim (fun h => Qh ho e1 e2 e3 h k) fun h => Mx ho e1 e2 e3 h k
  exact h.elim
 ·rename_i t x f ho; exact Kk ho h k
 ·rename_i t x f ho; exact Qn ho h k
 ·rename_i t x y ho
  split at h
  ·rename_i kk i e
   rcases h with ⟨u, h1, h2⟩ | h
   rotate_left
   ·exact RH ho e h k
   exact D9.le (Kj (K := fun x H' => ∃ y, X2 x y ∧ K y H') ho e h1 ⟨v, h2, k⟩)
  exact h.elim
 ·rename_i t x y ho
  split at h
  ·rename_i kk i e; exact Qm ho e h k
  exact h.elim
 ·rename_i x n ho
  split at h
  ·rename_i cs e; exact MD ho e h k
  exact h.elim
 ·rename_i c ho
  split at h
  ·rename_i x hc;obtain ⟨ce, args, ts⟩ := c
   simp only at hc h
   subst hc;exact MF ho ((h H fun _ _ e => e).mono fun x H' ⟨e1, e2⟩ => by rw [e1, e2]; exact k)
  ·rename_i b hc; exact h.elim (fun h => Fi ho hc h k) fun h => Jt ho hc h k
  exact h.elim
 exact h.elim
def VY (K : V → A0 → Prop) (x : V) (H : A0) : Prop := ∃ y H2, X2 x y ∧ (∀ id b, H2 id = some b → H id = some b) ∧ K y H2
def CT (P : Program) (A : Kf) (o : Oper) (ρ : Operand → V) (H : A0) (K : V → A0 → Prop) : Prop :=
 match o.op with
 | .alloc t => (∃ z, DR P t = some z ∧ z.one = true ∧ ∀ id, H id = none → ∃ ds, G4 z.cells ds ∧ K (.ref id 0) (upd H id (some (.cells ds)))) ∨
  DR P t = some (.sl [] .nil) ∧ ∃ sz, ∀ q id, H q = none → upd H q (some (.arr sz [])) id = none → K (.ref id 0) (upd (upd H q (some (.arr sz []))) id (some (.cells [.own q 0 0])))
 | .box _ x =>
  (ρ x).one = true ∧ if A (o.dst.getD 0) then ∀ id, H id = none → K (.ref id 0) (upd H id (some (.cells (ρ x).cells))) else K (.eref (ρ x).cells 0) H
 | .store t x y => (∃ z H', X2 (ρ y) z ∧ FW P H t (ρ x) z = some H' ∧ K .bad H') ∨ ∃ z H', X2 (ρ y) z ∧ Lt P H t (ρ x) z = some H' ∧ K .bad H'
 | .makeSlice t l c => HW P H K t (ρ l) (ρ c) ∨ HW P H (So K) t (ρ l) (ρ c)
 | .assign x => K (ρ x) H ∨ UK H K (ρ x)
 | .move x => K (ρ x) H ∨ UK H K (ρ x)
 | .buildSlice t n ps => (∃ v, Ge P o ρ H v ∧ K v H) ∨ litO P H K t n (ps.toList.map fun p => (p.1, ρ p.2))
 | .makeMap t r => r = none ∧ TU H K
 | .mapUpdate t x y z => Fk P H K t (ρ x) (ρ y) (ρ z)
 | .insert t x y z => Fk P H K t (ρ x) (ρ y) (ρ z)
 | .range t x => Jb P H K t (ρ x)
 | .next x s => s = false ∧ MY H K (ρ x)
 | .entry x => JF H K (ρ x)
 | .binOp op t x y _ => (∃ v, Ge P o ρ H v ∧ K v H) ∨ ∃ q e p, PS op = some q ∧ BF P t = some e ∧ QF (ρ x) = some p ∧ ρ y = .sl [] .nil ∧ (p → K (.bool q) H) ∧ K (.bool (!q)) H
 | .call c =>
  match c.callee with
  | .value x => Z9 P (ρ x) (c.args.toList.map ρ) H K
  | .builtin .append => Ct P H K c.argTypes.toList (c.args.toList.map ρ) ∨ He P H K c.argTypes.toList (c.args.toList.map ρ) ∨ Ct P H (VY K) c.argTypes.toList (c.args.toList.map ρ)
  | .builtin .copy => ND P H K c.argTypes.toList (c.args.toList.map ρ)
  | .builtin .clear => JO P H K c.argTypes.toList (c.args.toList.map ρ)
  | .builtin .delete => BK P H K c.argTypes.toList (c.args.toList.map ρ)
  | .builtin b => ∃ v, (Bj P b c.argTypes.toList (c.args.toList.map ρ) v ∨ Gl P H b c.argTypes.toList (c.args.toList.map ρ) v) ∧ K v H
  | _ => False
 | _ => ∃ v, Ge P o ρ H v ∧ K v H
theorem Om {P : Program} {o : Oper} {fr : Fr} {H : A0} {K : V → A0 → Prop} {t : TypeId} (ho : o.op = .alloc t) (hz : DR P t = some (.sl [] .nil)) (sz : Nat)
 (h : ∀ q id, H q = none → upd H q (some (.arr sz [])) id = none → K (.ref id 0) (upd (upd H q (some (.arr sz []))) id (some (.cells [.own q 0 0])))) : D9 P o fr H K := by
 intro g w a hR hE;obtain ⟨v, e, hv⟩ := Am hz
 have hr : VR g w v (.sl [] .nil) := by rw [e]; exact Bh g w v
 obtain ⟨g1, s1, R1, hn, hv1⟩ := Bu hR sz (.inl rfl) hr;obtain ⟨g', id, hid, s, hR', hv'⟩ := Df R1 t hv1 rfl;unfold execOp; rw [ho];simp only [Instr.alloc, Sem.run_bind, hv, Result.andThen_ok, D6];exact ⟨g', _, _, s1.trans s, hR', hv', h _ id hn hid⟩
theorem Rl.chgCells {g : Gh} {H : A0} {w : World} (h : Rl g H w) {id : Nat} {cs ds : List V} (hk : H id = some (.cells cs)) (el : cs.length = ds.length)
 (hv : ∀ (j : Nat) u, j < cs.length → VR g w u (cs.getD j .bad) → VR g w u (ds.getD j .bad)) : Rl g (upd H id (some (.cells ds))) w := by
 have hat : ∀ x, g.at (upd H id (some (.cells ds))) x = g.at H x := by
  intro x
  by_cases hx : x = id
  ·subst hx; simp only [Gh.at, A8, hk]
  simp only [Gh.at, A3 _ _ hx]
 refine ⟨fun x k hx => ?_, fun x x' y h1 h2 => h.inj x x' y (hat x ▸ h1) (hat x' ▸ h2), h.frz, fun x hx => ?_, h.bnd, h.glb⟩
 ·by_cases hxe : x = id
  ·subst hxe; rw [A8] at hx; cases hx
   obtain ⟨b, c, T, h1, h2, h3, h4, h5, h6⟩ := h.blk x _ hk;exact ⟨b, c, T, h1, h2, h3, by omega, fun j hj => ⟨(h5 j (by omega)).1, hv j _ (by omega) (h5 j (by omega)).2⟩, h6⟩
  rw [A3 _ _ hxe] at hx; exact h.blk x k hx
 obtain ⟨a1, a2, a3⟩ := h.nxt x hx
 have hne : x ≠ id := fun e => by subst e; rw [hk] at a3; cases a3
 exact ⟨a1, a2, by rw [A3 _ _ hne]; exact a3⟩
theorem Ol {P : Program} {o : Oper} {fr : Fr} {H : A0} {K : V → A0 → Prop} {t : TypeId} {z : V} (ho : o.op = .alloc t) (hz : DR P t = some z) (h1 : z.one = true) (h : ∀ id, H id = none → ∃ ds, G4 z.cells ds ∧ K (.ref id 0) (upd H id (some (.cells ds)))) : D9 P o fr H K := by
 intro g w a hR hE;refine (Qs (K := fun x H' => ∃ id, H id = none ∧ x = .ref id 0 ∧ H' = upd H id (some (.cells z.cells))) ho hz h1 (fun id hid => ⟨id, hid, rfl, rfl⟩) g w a hR hE).mono fun v w' ⟨g', x, H', s, hR', hv, id, hid, e1, e2⟩ => ?_;subst e1; subst e2;obtain ⟨ds, hle, hK⟩ := h id hid;have := hR'.chgCells (A8 _ _ _) (ds := ds) hle.length fun j u _ hu => hu.le (hle.at j)
 rw [P2] at this
 exact ⟨g', _, _, s, this, hv, hK⟩
theorem QD {P : Program} {A : Kf} {o : Oper} {fr : Fr} {H : A0} {K : V → A0 → Prop} (h : CT P A o (ev fr) H K) : D9 P o fr H K := by
 unfold CT at h
 split at h
 ·rename_i t ho
  rcases h with ⟨z, h1, h2, h3⟩ | ⟨h1, sz, h2⟩
  ·exact Ol ho h1 h2 h3
  exact Om ho h1 sz h2
 ·rename_i t x ho;obtain ⟨h1, h2⟩ := h
  split at h2
  ·exact Kl ho h1 h2
  exact EJ ho h1 h2
 ·rename_i t x y ho
  rcases h with ⟨z, H', h0, h1, h2⟩ | ⟨z, H', h0, h1, h2⟩
  ·exact KE ho (fun _ _ _ h => h.le h0) h1 h2
  exact Oh ho h0 h1 h2
 ·rename_i t l c ho
  have key : ∀ K, HW P H K t (ev fr l) (ev fr c) → D9 P o fr H K := by
   intro K h
   unfold HW at h
   split at h
   ·rename_i k1 n k2 m e1 e2;obtain ⟨e, sz, by_, z, q1, q2, q3, q4, q5, q6, q7, q8, q9, q10, q11, q12⟩ := h;exact MB ho e1 e2 q1 q2 q3 q4 q5 q6 q7 q8 q9 q10 q11 q12
   exact h.elim
  exact h.elim (key K) fun h => D9.lessRow (key _ h)
 ·rename_i x ho; exact h.elim (IR ho) fun ⟨h1, sz, h2⟩ => HQ (.inl ho) h1 sz h2
 ·rename_i x ho; exact h.elim (Mz ho) fun ⟨h1, sz, h2⟩ => HQ (.inr ho) h1 sz h2
 ·rename_i t n ps ho
  rcases h with ⟨v, h1, h2⟩ | ⟨e, sz, xs, ys, h1, h2, h3, h4, h5⟩
  ·exact Fs h1 h2
  exact RF ho h1 h2 h3 h4 h5
 ·rename_i t r ho; obtain ⟨rfl, h⟩ := h; exact h.elim (MA ho) (LB ho)
 ·rename_i t x y z ho; exact FJ (.inl ho) h
 ·rename_i t x y z ho; exact FJ (.inr ho) h
 ·rename_i t x ho; exact Qi ho h
 ·rename_i x s ho; obtain ⟨rfl, h⟩ := h; exact RJ ho h
 ·rename_i x ho; exact Qo ho h
 ·rename_i op t x y ty ho
  rcases h with ⟨v, h1, h2⟩ | ⟨q, e, xs, q1, q2, q3, q4, q5, q6⟩
  ·exact Fs h1 h2
  exact Tm ho q1 q2 q3 q4 q5 q6
 ·rename_i c ho
  split at h
  ·rename_i x hc;obtain ⟨ce, args, ts⟩ := c
   simp only at hc h
   subst hc;exact MF ho h
  ·rename_i hc; exact h.elim (FO ho hc) fun h => h.elim (Kz ho hc) fun h => D9.lessH (FO ho hc h)
  ·rename_i hc; exact NC ho hc h
  ·rename_i hc; exact Md ho hc h
  ·rename_i hc; exact Ku ho hc h
  ·rename_i b _ _ _ _ hc; obtain ⟨v, h1, h2⟩ := h; exact h1.elim (fun h1 => Fi ho hc h1 h2) fun h1 => Jt ho hc h1 h2
  exact h.elim
 obtain ⟨v, h1, h2⟩ := h; exact Fs h1 h2
end Go.Ab
