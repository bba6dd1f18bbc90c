/- AbA11 -/
import Derived.Test.YtildiiggamckaaaGreatDoorT09
set_option linter.all false
namespace Go.Ab
open Go.RowKit
variable [G5]
def Args (g : Gh) (w : World) (vals : Array Value) (args : List V) : Prop :=
 vals.size = args.length ∧ ∀ i, i < args.length → VR g w (vals.getD i undef) (args.getD i .bad)
def E7 (P : Program) (f : FuncId) (args : List V) (H : A0) (K : V → A0 → Prop) : Prop :=
 ∀ g w vals, Rl g H w → Args g w vals args → D7 P (G8 g w K) ((callFunc f vals).run P w)
def Am (P : Program) (fv : V) (args : List V) (H : A0) (K : V → A0 → Prop) : Prop :=
 ∀ g w v vals, Rl g H w → VR g w v fv → Args g w vals args → D7 P (G8 g w K) ((do let d ← Deferred.ofValue v vals; invoke d.target d.args : Sem Next).run P w)
def B6 (P : Program) (f : FuncId) (args : List V) (r : V) : Prop := ∀ H, E7 P f args H fun x H' => x = r ∧ H' = H
def R4 (P : Program) (fv : V) (args : List V) (r : V) : Prop := ∀ H, Am P fv args H fun x H' => x = r ∧ H' = H
theorem G8.mono {g : Gh} {w : World} {K K' : V → A0 → Prop} (h : ∀ x H, K x H → K' x H) {v : Value} {w' : World} (p : G8 g w K v w') : G8 g w K' v w' :=
 let ⟨g', x, H', a, b, c, d⟩ := p; ⟨g', x, H', a, b, c, h _ _ d⟩
def Ii (P : Program) (fv : V) (args : List V) (H : A0) (r : V) : Prop := ∀ H', (∀ id b, H id = some b → H' id = some b) → Am P fv args H' fun x h => x = r ∧ h = H'
theorem R4.toH {P : Program} {fv : V} {args : List V} {r : V} (h : R4 P fv args r) (H : A0) : Ii P fv args H r := fun H' _ => h H'
theorem Ii.up {P : Program} {fv : V} {args : List V} {H H' : A0} {r : V} (h : Ii P fv args H r) (hl : ∀ id b, H id = some b → H' id = some b) : Ii P fv args H' r := fun H2 h2 => h H2 fun id b e => h2 id b (hl id b e)
theorem E7.mono {P : Program} {f : FuncId} {args : List V} {H : A0} {K K' : V → A0 → Prop} (c : E7 P f args H K) (h : ∀ x H, K x H → K' x H) : E7 P f args H K' :=
 fun g w vals hR hA => (c g w vals hR hA).mono fun _ _ p => p.mono h
theorem Am.mono {P : Program} {fv : V} {args : List V} {H : A0} {K K' : V → A0 → Prop} (c : Am P fv args H K) (h : ∀ x H, K x H → K' x H) : Am P fv args H K' :=
 fun g w v vals hR hv hA => (c g w v vals hR hv hA).mono fun _ _ p => p.mono h
theorem B6.at {P : Program} {f : FuncId} {args : List V} {r : V} (c : B6 P f args r) {H : A0} {K : V → A0 → Prop} (h : K r H) : E7 P f args H K :=
 (c H).mono fun x H' ⟨e1, e2⟩ => by rw [e1, e2]; exact h
theorem R4.at {P : Program} {fv : V} {args : List V} {r : V} (c : R4 P fv args r) {H : A0} {K : V → A0 → Prop} (h : K r H) : Am P fv args H K :=
 (c H).mono fun x H' ⟨e1, e2⟩ => by rw [e1, e2]; exact h
def Wk (x y : V) : Prop := ∀ g w v, VR g w v x → VR g w v y
theorem Wk.refl (x : V) : Wk x x := fun _ _ _ h => h
theorem Wk.bad (x : V) : Wk x .bad := fun _ _ _ _ => .bad _
theorem Wk.ro (xs : List V) (t : D6) : Wk (.sl xs t) (.sl xs .ro) := by
 intro g w v h
 cases h with
 | sl0 ht => exact .sl0 rfl
 | sle ht => exact .sle (.inl rfl)
 | sl vs hn hc hz hf hw h1 hv ht => exact .sl vs hn hc hz hf hw h1 hv trivial
theorem Wk.nil (t : D6) (ht : t.plain = true) : Wk (.sl [] .nil) (.sl [] t) := by
 intro g w v h
 cases h with
 | sl0 _ => exact .sl0 ht
 | sle h => rcases h with h | ⟨h, _⟩ <;> cases h
 | sl vs hn hc hz hf hw h1 hv ht => exact ht.elim
theorem Args.append {g : Gh} {w : World} {a b : Array Value} {x y : List V} (h : Args g w a x) (k : Args g w b y) : Args g w (a ++ b) (x ++ y) := by
 refine ⟨by simp [h.1, k.1], fun i hi => ?_⟩;rw [Z6]
 have e : (a ++ b).getD i undef = if i < x.length then a.getD i undef else b.getD (i - x.length) undef := by
  simp only [Array.getD_eq_getD_getElem?, Array.getElem?_append, h.1]
  split <;> rfl
 rw [e]
 split
 ·rename_i hlt; exact h.2 i hlt
 exact k.2 _ (by simp at hi; omega)
theorem E7.value {P : Program} {f : FuncId} {F C args : List V} {H : A0} {K : V → A0 → Prop} (h : E7 P f (F ++ args ++ C) H K) : Am P (.func (.func f) F C) args H K := by
 intro g w v vals hR hv hA
 cases hv with
 | func hl hv hl' hv' =>
  rename_i fs cs;have := h g w (fs ++ vals ++ cs) hR (Args.append (Args.append ⟨hl, hv⟩ hA) ⟨hl', hv'⟩)
  simpa only [Deferred.ofValue, Sem.run_bind, Sem.run_pure, Result.andThen_ok, invoke] using this
theorem B6.value {P : Program} {f : FuncId} {F C args : List V} {r : V} (h : B6 P f (F ++ args ++ C) r) : R4 P (.func (.func f) F C) args r := fun H => (h H).value
theorem E4.le {P : Program} {o : Oper} {fr : Fr} {H : A0} {K : V → A0 → Prop} (h : E4 P o fr H fun x H' => ∃ y, Y4 x y ∧ K y H') : E4 P o fr H K :=
 fun g w a hR hE => (h g w a hR hE).mono fun v w' ⟨g', x, H', s, hR', hv, y, hxy, hK⟩ => ⟨g', y, H', s, hR', hv.le hxy, hK⟩
section
variable {P : Program} {o : Oper} {fr : Fr} {H : A0} {K : V → A0 → Prop}
theorem Ud {g : Gh} {w : World} {a : Act} (hR : Rl g H w) (hE : ER g w a fr) (l : Array Operand) : Args g w (l.map a.eval) (l.toList.map (ev fr)) := by
 refine ⟨by simp, fun i hi => ?_⟩
 have hi' : i < l.size := by simpa using hi
 have e1 : (l.map a.eval).getD i undef = a.eval l[i] := by simp [Array.getD, hi']
 have e2 : (l.toList.map (ev fr)).getD i .bad = ev fr l[i] := by simp [List.getD, hi']
 rw [e1, e2]; exact C4 hR hE _
theorem Nw {x : Operand} {args : Array Operand} {ts : Array TypeId} (ho : o.op = .call { callee := .value x, args := args, argTypes := ts }) (h : Am P (ev fr x) (args.toList.map (ev fr)) H K) :
 E4 P o fr H K := by
 intro g w a hR hE;have := h g w (a.eval x) (args.map a.eval) hR (C4 hR hE x) (Ud hR hE args);unfold execOp; rw [ho]
 simpa only [resolve] using this
end
abbrev KG := Nat → Bool
def Bt (P : Program) (b : Builtin) (ts : List TypeId) (vs : List V) (v : V) : Prop :=
 match b, ts, vs with
 | .len, [t], [x] => RP P t x = some v
 | .max, _, [.int k a, .int k' b] => k = k' ∧ v = .int k (if a < b then b else a)
 | .min, _, [.int k a, .int k' b] => k = k' ∧ v = .int k (if b < a then b else a)
 | .append, [sT, yT], [.sl xs tl, .sl ys _] => (tl = .nil ∨ tl = .full) ∧ ∃ e sz by_ z xs' ys', BT P sT = some e ∧ (BT P yT).isSome = true ∧ Bw P e = some sz ∧ 0 < sz ∧ Jc P e = some by_ ∧ 0 < by_ ∧ Er P e = some z ∧ z.one = true ∧ z.cells.length = sz ∧
  G4 xs xs' ∧ G4 ys ys' ∧ xs'.all (fun x => x.cells.length == sz) = true ∧ ys'.all (fun x => x.cells.length == sz) = true ∧ (xs'.length + ys'.length) * by_ ≤ 140737488355328 ∧ v = .sl (xs' ++ ys') .ro
 | _, _, _ => False
theorem E4.lessH {P : Program} {o : Oper} {fr : Fr} {H : A0} {K : V → A0 → Prop} (h : E4 P o fr H fun x H' => ∃ y H2, Y4 x y ∧ (∀ id b, H2 id = some b → H' id = some b) ∧ K y H2) : E4 P o fr H K :=
 fun g w a hR hE => (h g w a hR hE).mono fun v w' ⟨g', x, H', s, hR', hv, y, H2, hxy, hH, hK⟩ => ⟨g', y, H2, s, hR'.less hH, hv.le hxy, hK⟩
theorem FL {P : Program} {o : Oper} {fr : Fr} {H : A0} {c : Call} {b : Builtin} {v : V} (ho : o.op = .call c) (hc : c.callee = .builtin b)
 (h : Bt P b c.argTypes.toList (c.args.toList.map (ev fr)) v) {K : V → A0 → Prop} (k : K v H) : E4 P o fr H K := by
 obtain ⟨ce, args, ts⟩ := c
 simp only at hc h
 subst hc;obtain ⟨args⟩ := args;obtain ⟨ts⟩ := ts
 simp only at h
 unfold Bt at h
 split at h
 ·rename_i t x e2
  match args, e2 with
  | [y], e2 =>
   simp only [List.map_cons, List.map_nil, List.cons.injEq, and_true] at e2
   subst e2;exact UF ho h k
  | [], e2 => simp at e2
  | _ :: _ :: _, e2 => simp at e2
 ·rename_i k a k' b e2;obtain ⟨rfl, rfl⟩ := h
  match args, e2 with
  | [x, y], e2 =>
   simp only [List.map_cons, List.map_nil, List.cons.injEq, and_true] at e2
   intro g w act hR hE;rw [J4 ho];have h1 := C4 hR hE x;have h2 := C4 hR hE y
   rw [e2.1] at h1; rw [e2.2] at h2
   have e1 := h1.int_inv; have e2' := h2.int_inv;simp [builtin, Builtin.max_, Builtin.max2, e1, e2', Sem.run_bind, Sem.run_pure]
   split <;> exact G8.here hR (by first | (rw [if_pos (by assumption)]; exact .int _ _) | (rw [if_neg (by omega)]; exact .int _ _) | exact .int _ _) k
  | [], e2 => simp at e2
  | [_], e2 => simp at e2
  | _ :: _ :: _ :: _, e2 => simp at e2
 ·rename_i k a k' b e2;obtain ⟨rfl, rfl⟩ := h
  match args, e2 with
  | [x, y], e2 =>
   simp only [List.map_cons, List.map_nil, List.cons.injEq, and_true] at e2
   intro g w act hR hE;rw [J4 ho];have h1 := C4 hR hE x;have h2 := C4 hR hE y
   rw [e2.1] at h1; rw [e2.2] at h2
   have e1 := h1.int_inv; have e2' := h2.int_inv;simp [builtin, Builtin.min_, Builtin.min2, e1, e2', Sem.run_bind, Sem.run_pure]
   split <;> exact G8.here hR (by first | (rw [if_pos (by assumption)]; exact .int _ _) | (rw [if_neg (by omega)]; exact .int _ _) | exact .int _ _) k
  | [], e2 => simp at e2
  | [_], e2 => simp at e2
  | _ :: _ :: _ :: _, e2 => simp at e2
 ·rename_i sT yT xs tl ys tl' e2;obtain ⟨htl, e, sz, by_, z, xs', ys', k1, k2, k3, k4, k5, k6, k7, k8, k9, l1, l2, k11, k12, k13, rfl⟩ := h
  match args, e2 with
  | [s, y], e2 =>
   simp only [List.map_cons, List.map_nil, List.cons.injEq, and_true] at e2
   have hA : DE H tl := by rcases htl with rfl | rfl <;> trivial
   have hd : C9 H tl = H := by rcases htl with rfl | rfl <;> rfl
   refine E4.lessH (Gy (K := fun x H' => ∃ y H2, Y4 x y ∧ (∀ id b, H2 id = some b → H' id = some b) ∧ K y H2) ho e2.1 e2.2 k1 k2 k3 k4 k5 k6 k7 k8 k9 hA (l1.sz k11) (l2.sz k12) (by rw [l1.length, l2.length]; exact k13) (fun e => ⟨_, H, ?_, fun _ _ h => h, k⟩) fun t h1 h2 => ⟨_, H, Y4.sl _ (l1.append l2), fun id b hb => ?_, k⟩)
   ·subst e; cases l2; rw [List.append_nil]; exact Y4.sl _ l1
   rw [hd] at h2 ⊢
   by_cases e : id = t
   ·subst e; rw [h2] at hb; cases hb
   rw [A3 _ _ e]; exact hb
  | [], e2 => simp at e2
  | [_], e2 => simp at e2
  | _ :: _ :: _ :: _, e2 => simp at e2
 exact h.elim
def CG (P : Program) (H : A0) (K : V → A0 → Prop) : List TypeId → List V → Prop
 | [sT, yT], [.sl xs tl, .sl ys _] =>
  ∃ e sz by_ z, BT P sT = some e ∧ (BT P yT).isSome = true ∧ Bw P e = some sz ∧ 0 < sz ∧ Jc P e = some by_ ∧ 0 < by_ ∧ Er P e = some z ∧ z.one = true ∧ z.cells.length = sz ∧ ∃ xs' ys', G4 xs xs' ∧ G4 ys ys' ∧ DE H tl ∧
   xs'.all (fun x => x.cells.length == sz) = true ∧ ys'.all (fun x => x.cells.length == sz) = true ∧ (xs'.length + ys'.length) * by_ ≤ 140737488355328 ∧ (ys' = [] → K (.sl xs' tl) H) ∧
   ∀ t, ys' ≠ [] → C9 H tl t = none → K (.sl (xs' ++ ys') (.tok t)) (upd (C9 H tl) t (some .spare))
 | _, _ => False
theorem Gp {P : Program} {o : Oper} {fr : Fr} {H : A0} {c : Call} (ho : o.op = .call c) (hc : c.callee = .builtin .append) {K : V → A0 → Prop}
 (h : CG P H K c.argTypes.toList (c.args.toList.map (ev fr))) : E4 P o fr H K := by
 obtain ⟨ce, args, ts⟩ := c
 simp only at hc h
 subst hc;obtain ⟨args⟩ := args;obtain ⟨ts⟩ := ts
 simp only at h
 unfold CG at h
 split at h
 ·rename_i sT yT xs tl ys tl' e2
  match args, e2 with
  | [s, y], e2 =>
   simp only [List.map_cons, List.map_nil, List.cons.injEq, and_true] at e2
   obtain ⟨e, sz, by_, z, k1, k2, k3, k4, k5, k6, k7, k8, k9, xs', ys', l1, l2, k10, k11, k12, k13, k14, k15⟩ := h;refine E4.le (Gy (K := fun x H' => ∃ y, Y4 x y ∧ K y H') ho e2.1 e2.2 k1 k2 k3 k4 k5 k6 k7 k8 k9 k10 (l1.sz k11) (l2.sz k12) (by rw [l1.length, l2.length]; exact k13) (fun e => ⟨_, .slt _ l1, k14 (by subst e; cases l2; rfl)⟩) fun t h1 h2 => ⟨_, .slt _ (l1.append l2), k15 t (fun e => h1 (by subst e; cases l2; rfl)) h2⟩)
  | [], e2 => simp at e2
  | [_], e2 => simp at e2
  | _ :: _ :: _ :: _, e2 => simp at e2
 exact h.elim
def GG (P : Program) (H : A0) (b : Builtin) (ts : List TypeId) (vs : List V) (v : V) : Prop :=
 match b, ts, vs with
 | .len, [t], [x] => Vl P H t x = some v
 | .cap, [t], [x] => PZ P H t x = some v
 | _, _, _ => False
theorem JS {P : Program} {o : Oper} {fr : Fr} {H : A0} {c : Call} {b : Builtin} {v : V} (ho : o.op = .call c) (hc : c.callee = .builtin b)
 (h : GG P H b c.argTypes.toList (c.args.toList.map (ev fr)) v) {K : V → A0 → Prop} (k : K v H) : E4 P o fr H K := by
 obtain ⟨ce, args, ts⟩ := c
 simp only at hc h
 subst hc;obtain ⟨args⟩ := args;obtain ⟨ts⟩ := ts
 simp only at h
 unfold GG at h
 split at h
 ·rename_i t x e2
  match args, e2 with
  | [y], e2 =>
   simp only [List.map_cons, List.map_nil, List.cons.injEq, and_true] at e2
   subst e2;exact SO ho h k
  | [], e2 => simp at e2
  | _ :: _ :: _, e2 => simp at e2
 ·rename_i t x e2
  match args, e2 with
  | [y], e2 =>
   simp only [List.map_cons, List.map_nil, List.cons.injEq, and_true] at e2
   subst e2;exact SQ ho h k
  | [], e2 => simp at e2
  | _ :: _ :: _, e2 => simp at e2
 exact h.elim
theorem Ge {H H' : A0} (hl : ∀ id b, H id = some b → H' id = some b) {id : Nat} {p : Nat × List V} (h : Bu H id = some p) : Bu H' id = some p := by
 have := AX (sz := p.1) (xs := p.2) h;simp only [Bu, hl _ _ this]
theorem PH {P : Program} {H H' : A0} {t : TypeId} {x v : V} (hl : ∀ id b, H id = some b → H' id = some b) (h : Gm P H t x = some v) : Gm P H' t x = some v := by
 unfold Gm at h ⊢
 split at h
 ·rename_i id i esz off _ _
  cases hk : Bu H id with
  | none => simp [hk] at h
  | some p => simpa only [hk, Ge hl hk] using h
 cases h
theorem RU {P : Program} {H H' : A0} {t : TypeId} {x v : V} {i : Int} (hl : ∀ id b, H id = some b → H' id = some b) (h : PP P H t x i = some v) : PP P H' t x i = some v := by
 unfold PP at h ⊢
 split at h
 ·rename_i e id lo n _
  cases hk : Bu H id with
  | none => simp [hk] at h
  | some p => simpa only [hk, Ge hl hk] using h
 cases h
theorem Nn {P : Program} {H H' : A0} {t : TypeId} {x v : V} {i j k : Option Int} (hl : ∀ id b, H id = some b → H' id = some b) (h : Fe P H t x i j k = some v) : Fe P H' t x i j k = some v := by
 unfold Fe at h ⊢
 split at h
 ·rename_i e id lo n _
  cases hk : Bu H id with
  | none => cases hs : Bw P e <;> simp [hk, hs] at h
  | some p => simpa only [hk, Ge hl hk] using h
 cases h
theorem RQ {P : Program} {H H' : A0} {b : Builtin} {ts : List TypeId} {vs : List V} {v : V} (hl : ∀ id b, H id = some b → H' id = some b) (h : GG P H b ts vs v) : GG P H' b ts vs v := by
 unfold GG at h ⊢
 split at h
 ·exact h
 ·rename_i t x
  unfold PZ at h ⊢
  split at h
  ·rename_i e id lo n _
   cases hk : Bu H id with
   | none => simp [hk] at h
   | some p => simpa only [hk, Ge hl hk] using h
  ·exact h
  ·exact h
  cases h
 exact h.elim
def ownN (x : V) : Nat :=
 match x with
 | .own _ _ n => n.toNat
 | _ => 0
def Gq (H : A0) (K : V → A0 → Prop) (sz by_ : Nat) (z : V) (x : V) (ys : List V) : Prop :=
 match x with
 | .own id lo n => ∃ xs, H id = some (.arr sz xs) ∧
  (lo + n + (ys.length : Nat) ≤ (xs.length : Nat) → K (.own id lo (n + (ys.length : Nat))) (upd H id (some (.arr sz (T5 xs (lo + n).toNat ys))))) ∧
  ((xs.length : Nat) < lo + n + (ys.length : Nat) → (n.toNat + ys.length) * by_ ≤ 140737488355328 ∧ ∀ t k, H t = none → K (.own t 0 (n + (ys.length : Nat))) (upd H t (some (.arr sz (G3 xs lo n ++ ys ++ List.replicate k z)))))
 | x => (x = .sl [] .nil ∨ x = .sl [] .full) ∧ ys.length * by_ ≤ 140737488355328 ∧ ∀ t k, H t = none → K (.own t 0 (ys.length : Nat)) (upd H t (some (.arr sz (ys ++ List.replicate k z))))
theorem EQ {H : A0} {K K' : V → A0 → Prop} {sz by_ : Nat} {z x : V} {ys : List V} (h : Gq H K sz by_ z x ys) (hk : ∀ v H', K v H' → K' v H') : Gq H K' sz by_ z x ys := by
 unfold Gq at h ⊢
 split at h
 ·obtain ⟨xs, m1, m3, m4⟩ := h;exact ⟨xs, m1, fun e => hk _ _ (m3 e), fun e => ⟨(m4 e).1, fun t k e' => hk _ _ ((m4 e).2 t k e')⟩⟩
 obtain ⟨m1, m2, m3⟩ := h;exact ⟨m1, m2, fun t k e => hk _ _ (m3 t k e)⟩
def HB (P : Program) (H : A0) (K : V → A0 → Prop) : List TypeId → List V → Prop
 | [sT, yT], [x, y] =>
  ∃ e sz by_ z, BT P sT = some e ∧ Bw P e = some sz ∧ 0 < sz ∧ Jc P e = some by_ ∧ 0 < by_ ∧ Er P e = some z ∧ z.one = true ∧ z.cells.length = sz ∧
   (((BT P yT).isSome = true ∧ ∃ ys', IR sz H y ys' ∧ Gq H K sz by_ z x ys') ∨
    ((∃ k', P.underlying yT = some (.int k')) ∧ ∃ k m, y = .int k m ∧ 0 ≤ m ∧ (ownN x + m.toNat) * by_ ≤ 140737488355328 ∧ Gq H K sz by_ z x (List.replicate m.toNat z)))
 | _, _ => False
theorem KY {P : Program} {o : Oper} {fr : Fr} {H : A0} {c : Call} (ho : o.op = .call c) (hc : c.callee = .builtin .append) {K : V → A0 → Prop}
 (h : HB P H K c.argTypes.toList (c.args.toList.map (ev fr))) : E4 P o fr H K := by
 obtain ⟨ce, args, ts⟩ := c
 simp only at hc h
 subst hc;obtain ⟨args⟩ := args;obtain ⟨ts⟩ := ts
 simp only at h
 unfold HB at h
 split at h
 ·rename_i sT yT x y' e2
  match args, e2 with
  | [s, y], e2 =>
   simp only [List.map_cons, List.map_nil, List.cons.injEq, and_true] at e2
   obtain ⟨e, sz, by_, z, k1, k3, k4, k5, k6, k7, k8, k9, h⟩ := h
   rcases h with ⟨k2, ys', l1, l4⟩ | ⟨⟨k', k2⟩, k, m, l1, l2, l0, l4⟩
   ·unfold Gq at l4
    split at l4
    ·obtain ⟨xs, m1, m3, m4⟩ := l4;exact Np ho e2.1 m1 (by rw [e2.2]; exact l1) k1 k2 k3 k4 k5 k6 k7 k8 k9 m3 m4
    obtain ⟨m1, m2, m3⟩ := l4;exact Mf ho (by rw [e2.1]; exact m1) (by rw [e2.2]; exact l1) k1 k2 k3 k4 k5 k6 k7 k8 k9 m2 m3
   have hm : ((m.toNat : Nat) : Int) = m := by omega
   unfold Gq at l4
   simp only [List.length_replicate, hm] at l4
   split at l4
   ·rename_i id lo n;obtain ⟨xs, m1, m3, m4⟩ := l4;exact Me ho e2.1 (e2.2.trans l1) m1 k1 k2 k3 k4 k5 k6 k7 k8 k9 l2 l0 m3 fun e => (m4 e).2
   obtain ⟨m1, m2, m3⟩ := l4;exact KJ ho (by rw [e2.1]; exact m1) (e2.2.trans l1) k1 k2 k3 k4 k5 k6 k7 k8 k9 l2 m2 m3
  | [], e2 => simp at e2
  | [_], e2 => simp at e2
  | _ :: _ :: _ :: _, e2 => simp at e2
 exact h.elim
def Oy (P : Program) (H : A0) (K : V → A0 → Prop) : List TypeId → List V → Prop
 | [sT, _], [.own id lo n, y] =>
  ∃ e sz xs ys', BT P sT = some e ∧ Bw P e = some sz ∧ 0 < sz ∧ H id = some (.arr sz xs) ∧ IR sz H y ys' ∧
   K (.int .i64 (if n < (ys'.length : Nat) then n else (ys'.length : Nat))) (upd H id (some (.arr sz (T5 xs lo.toNat (ys'.take n.toNat)))))
 | _, _ => False
theorem Ox {P : Program} {o : Oper} {fr : Fr} {H : A0} {c : Call} (ho : o.op = .call c) (hc : c.callee = .builtin .copy) {K : V → A0 → Prop}
 (h : Oy P H K c.argTypes.toList (c.args.toList.map (ev fr))) : E4 P o fr H K := by
 obtain ⟨ce, args, ts⟩ := c
 simp only at hc h
 subst hc;obtain ⟨args⟩ := args;obtain ⟨ts⟩ := ts
 simp only at h
 unfold Oy at h
 split at h
 ·rename_i sT yT id lo n y' e2
  match args, e2 with
  | [s, y], e2 =>
   simp only [List.map_cons, List.map_nil, List.cons.injEq, and_true] at e2
   obtain ⟨e, sz, xs, ys', k1, k2, k3, k4, k5, k8⟩ := h;exact Rk ho e2.1 k4 (by rw [e2.2]; exact k5) k1 k2 k3 k8
  | [], e2 => simp at e2
  | [_], e2 => simp at e2
  | _ :: _ :: _ :: _, e2 => simp at e2
 exact h.elim
def Kq (P : Program) (H : A0) (K : V → A0 → Prop) : List TypeId → List V → Prop
 | [sT], [.own id lo n] =>
  ∃ e sz z xs, BT P sT = some e ∧ Bw P e = some sz ∧ 0 < sz ∧ Er P e = some z ∧ z.one = true ∧ z.cells.length = sz ∧ H id = some (.arr sz xs) ∧ K (.tup []) (upd H id (some (.arr sz (T5 xs lo.toNat (List.replicate n.toNat z)))))
 | _, _ => False
theorem MR {P : Program} {o : Oper} {fr : Fr} {H : A0} {c : Call} (ho : o.op = .call c) (hc : c.callee = .builtin .clear) {K : V → A0 → Prop}
 (h : Kq P H K c.argTypes.toList (c.args.toList.map (ev fr))) : E4 P o fr H K := by
 obtain ⟨ce, args, ts⟩ := c
 simp only at hc h
 subst hc;obtain ⟨args⟩ := args;obtain ⟨ts⟩ := ts
 simp only at h
 unfold Kq at h
 split at h
 ·rename_i sT id lo n e2
  match args, e2 with
  | [s], e2 =>
   simp only [List.map_cons, List.map_nil, List.cons.injEq, and_true] at e2
   obtain ⟨e, sz, z, xs, k1, k2, k3, k4, k5, k6, k7, k8⟩ := h;exact Pi ho e2 k7 k1 k2 k3 k4 k5 k6 k8
  | [], e2 => simp at e2
  | _ :: _ :: _, e2 => simp at e2
 exact h.elim
def Iy (P : Program) (H : A0) (K : V → A0 → Prop) (t : TypeId) (l c : V) : Prop :=
 match l, c with
 | .int _ n, .int _ m => ∃ e sz by_ z, BT P t = some e ∧ Bw P e = some sz ∧ 0 < sz ∧ Jc P e = some by_ ∧ 0 < by_ ∧ Er P e = some z ∧ z.one = true ∧ z.cells.length = sz ∧ 0 ≤ n ∧ n ≤ m ∧ m * by_ ≤ 281474976710656 ∧
  ∀ id, H id = none → K (.own id 0 n) (upd H id (some (.arr sz (List.replicate m.toNat z))))
 | _, _ => False
def GD (P : Program) (o : Oper) (ρ : Operand → V) (H : A0) (v : V) : Prop :=
 match o.op with
 | .move x => v = ρ x
 | .assign x => v = ρ x
 | .pick c x y =>
  match ρ c with
  | .bool t => v = if t then ρ x else ρ y
  | _ => False
 | .box _ x => (ρ x).one = true ∧ v = .eref (ρ x).cells 0
 | .build t ps => Ig P t (ps.toList.map fun p => (p.1, ρ p.2)) = some v
 | .buildSlice t n ps => S8 P t n (ps.toList.map fun p => (p.1, ρ p.2)) = some v
 | .makeSlice t l c => Tu P t (ρ l) (ρ c) v
 | .load t x => Du P H t (ρ x) = some v ∨ Gm P H t (ρ x) = some v
 | .nilCheck x => Qw (ρ x) = true ∧ v = ρ x
 | .binOp op t x y _ => IQ P op t (ρ x) (ρ y) = some v
 | .unOp op _ x => unV op (ρ x) = some v
 | .convert s d x => LM P s d (ρ x) = some v ∨ LN P H s d (ρ x) v
 | .lookup t x y ok => Hl P H t (ρ x) (ρ y) ok v
 | .makeInterface t x => Xv P t = false ∧ v = .iface t (ρ x)
 | .makeFunc fn fs cs => v = .func fn (fs.toList.map ρ) (cs.toList.map ρ)
 | .slice t x lo hi mx =>
  match X6 (lo.map ρ), X6 (hi.map ρ), X6 (mx.map ρ) with
  | some l, some h, some m => Jm P t (ρ x) l h m = some v ∨ Fe P H t (ρ x) l h m = some v
  | _, _, _ => False
 | .fieldAddr t x f => Dc P t (ρ x) f = some v
 | .field t x f => Kg P t (ρ x) f = some v
 | .indexAddr t x y =>
  match ρ y with
  | .int _ i => (∃ u, AM P t (ρ x) i = some u ∧ Y4 u v) ∨ PP P H t (ρ x) i = some v
  | _ => False
 | .index t x y =>
  match ρ y with
  | .int _ i => HW P t (ρ x) i = some v
  | _ => False
 | .extract x n =>
  match ρ x with
  | .tup cs => cs[n]? = some v
  | _ => False
 | .call c =>
  match c.callee with
  | .value x => Ii P (ρ x) (c.args.toList.map ρ) H v
  | .builtin b => Bt P b c.argTypes.toList (c.args.toList.map ρ) v ∨ GG P H b c.argTypes.toList (c.args.toList.map ρ) v
  | _ => False
 | _ => False
theorem PG {P : Program} {H H' : A0} {t : TypeId} {x v : V} (hl : ∀ id b, H id = some b → H' id = some b) (h : Du P H t x = some v) : Du P H' t x = some v := by
 unfold Du at h ⊢
 split at h
 ·exact h
 ·rename_i ag sz id off _ _
  cases hk : H id with
  | none => simp [hk] at h
  | some b => simpa only [hk, hl _ _ hk] using h
 cases h
theorem Tj {P : Program} {o : Oper} {ρ : Operand → V} {H H' : A0} {v : V} (hl : ∀ id b, H id = some b → H' id = some b) (h : GD P o ρ H v) : GD P o ρ H' v := by
 unfold GD at h ⊢
 cases ho : o.op <;> simp only [ho] at h ⊢ <;> first | exact h | exact h.imp (PG hl) (PH hl) | exact h.imp (fun h => h) (PW hl) | exact MC hl h | skip
 ·split at h
  ·exact h.imp (fun h => h) (Nn hl)
  exact h
 ·split at h
  ·exact h.imp (fun h => h) (RU hl)
  exact h
 split at h
 ·exact h.up hl
 ·exact h.imp (fun h => h) (RQ hl)
 exact h
theorem FT {P : Program} {o : Oper} {fr : Fr} {H : A0} {v : V} (h : GD P o (ev fr) H v) {K : V → A0 → Prop} (k : K v H) : E4 P o fr H K := by
 unfold GD at h
 split at h
 ·rename_i x ho; subst h; exact Nq ho k
 ·rename_i x ho; subst h; exact Jp ho k
 ·rename_i c x y ho
  split at h
  ·rename_i t hc; subst h; exact SM ho hc k
  exact h.elim
 ·rename_i t x ho; obtain ⟨h1, rfl⟩ := h; exact Ff ho h1 k
 ·rename_i t ps ho; exact Rr ho h k
 ·rename_i t n ps ho; exact Jo ho h k
 ·rename_i t l c ho; exact Rm ho h k
 ·rename_i t x ho; exact h.elim (fun h => SS ho h k) fun h => Rj ho h k
 ·rename_i x ho; obtain ⟨h1, rfl⟩ := h; exact Mg ho h1 k
 ·rename_i op t x y ty ho; exact Rs ho h k
 ·rename_i op t x ho; exact SL ho h k
 ·rename_i s d x ho; exact h.elim (fun h => Nv ho h k) fun h => Rq ho h k
 ·rename_i t x y ok ho; exact Pj ho h k
 ·rename_i t x ho; obtain ⟨h1, rfl⟩ := h; exact Ha ho h1 k
 ·rename_i fn fs cs ho; subst h; exact Mi ho k
 ·rename_i t x lo hi mx ho
  split at h
  ·rename_i l hh m e1 e2 e3; exact h.elim (fun h => Rh ho e1 e2 e3 h k) fun h => No ho e1 e2 e3 h k
  exact h.elim
 ·rename_i t x f ho; exact KL ho h k
 ·rename_i t x f ho; exact Ro ho h k
 ·rename_i t x y ho
  split at h
  ·rename_i kk i e
   rcases h with ⟨u, h1, h2⟩ | h
   rotate_left
   ·exact SP ho e h k
   exact E4.le (KK (K := fun x H' => ∃ y, Y4 x y ∧ K y H') ho e h1 ⟨v, h2, k⟩)
  exact h.elim
 ·rename_i t x y ho
  split at h
  ·rename_i kk i e; exact Rn ho e h k
  exact h.elim
 ·rename_i x n ho
  split at h
  ·rename_i cs e; exact Nu ho e h k
  exact h.elim
 ·rename_i c ho
  split at h
  ·rename_i x hc;obtain ⟨ce, args, ts⟩ := c
   simp only at hc h
   subst hc;exact Nw ho ((h H fun _ _ e => e).mono fun x H' ⟨e1, e2⟩ => by rw [e1, e2]; exact k)
  ·rename_i b hc; exact h.elim (fun h => FL ho hc h k) fun h => JS ho hc h k
  exact h.elim
 exact h.elim
def Xt (K : V → A0 → Prop) (x : V) (H : A0) : Prop := ∃ y H2, Y4 x y ∧ (∀ id b, H2 id = some b → H id = some b) ∧ K y H2
def Dh (P : Program) (A : KG) (o : Oper) (ρ : Operand → V) (H : A0) (K : V → A0 → Prop) : Prop :=
 match o.op with
 | .alloc t => (∃ z, Er P t = some z ∧ z.one = true ∧ ∀ id, H id = none → ∃ ds, G4 z.cells ds ∧ K (.ref id 0) (upd H id (some (.cells ds)))) ∨
  Er P t = some (.sl [] .nil) ∧ ∃ sz, ∀ q id, H q = none → upd H q (some (.arr sz [])) id = none → K (.ref id 0) (upd (upd H q (some (.arr sz []))) id (some (.cells [.own q 0 0])))
 | .box _ x =>
  (ρ x).one = true ∧ if A (o.dst.getD 0) then ∀ id, H id = none → K (.ref id 0) (upd H id (some (.cells (ρ x).cells))) else K (.eref (ρ x).cells 0) H
 | .store t x y => (∃ z H', Y4 (ρ y) z ∧ Gx P H t (ρ x) z = some H' ∧ K .bad H') ∨ ∃ z H', Y4 (ρ y) z ∧ Ma P H t (ρ x) z = some H' ∧ K .bad H'
 | .makeSlice t l c => Iy P H K t (ρ l) (ρ c) ∨ Iy P H (Tz K) t (ρ l) (ρ c)
 | .assign x => K (ρ x) H ∨ VZ H K (ρ x)
 | .move x => K (ρ x) H ∨ VZ H K (ρ x)
 | .buildSlice t n ps => (∃ v, GD P o ρ H v ∧ K v H) ∨ litO P H K t n (ps.toList.map fun p => (p.1, ρ p.2))
 | .makeMap t r => r = none ∧ Vh H K
 | .mapUpdate t x y z => FN P H K t (ρ x) (ρ y) (ρ z)
 | .insert t x y z => FN P H K t (ρ x) (ρ y) (ρ z)
 | .range t x => Jz P H K t (ρ x)
 | .next x s => s = false ∧ NP H K (ρ x)
 | .entry x => Kh H K (ρ x)
 | .binOp op t x y _ => (∃ v, GD P o ρ H v ∧ K v H) ∨ ∃ q e p, QR op = some q ∧ BT P t = some e ∧ RM (ρ x) = some p ∧ ρ y = .sl [] .nil ∧ (p → K (.bool q) H) ∧ K (.bool (!q)) H
 | .call c =>
  match c.callee with
  | .value x => Am P (ρ x) (c.args.toList.map ρ) H K
  | .builtin .append => CG P H K c.argTypes.toList (c.args.toList.map ρ) ∨ HB P H K c.argTypes.toList (c.args.toList.map ρ) ∨ CG P H (Xt K) c.argTypes.toList (c.args.toList.map ρ)
  | .builtin .copy => Oy P H K c.argTypes.toList (c.args.toList.map ρ)
  | .builtin .clear => Kq P H K c.argTypes.toList (c.args.toList.map ρ)
  | .builtin .delete => BY P H K c.argTypes.toList (c.args.toList.map ρ)
  | .builtin b => ∃ v, (Bt P b c.argTypes.toList (c.args.toList.map ρ) v ∨ GG P H b c.argTypes.toList (c.args.toList.map ρ) v) ∧ K v H
  | _ => False
 | _ => ∃ v, GD P o ρ H v ∧ K v H
theorem Pn {P : Program} {o : Oper} {fr : Fr} {H : A0} {K : V → A0 → Prop} {t : TypeId} (ho : o.op = .alloc t) (hz : Er P t = some (.sl [] .nil)) (sz : Nat)
 (h : ∀ q id, H q = none → upd H q (some (.arr sz [])) id = none → K (.ref id 0) (upd (upd H q (some (.arr sz []))) id (some (.cells [.own q 0 0])))) : E4 P o fr H K := by
 intro g w a hR hE;obtain ⟨v, e, hv⟩ := Az hz
 have hr : VR g w v (.sl [] .nil) := by rw [e]; exact Bq g w v
 obtain ⟨g1, s1, R1, hn, hv1⟩ := BJ hR sz (.inl rfl) hr;obtain ⟨g', id, hid, s, hR', hv'⟩ := DA R1 t hv1 rfl;unfold execOp; rw [ho];simp only [Instr.alloc, Sem.run_bind, hv, Result.andThen_ok, D7];exact ⟨g', _, _, s1.trans s, hR', hv', h _ id hn hid⟩
theorem Rl.chgCells {g : Gh} {H : A0} {w : World} (h : Rl g H w) {id : Nat} {cs ds : List V} (hk : H id = some (.cells cs)) (el : cs.length = ds.length)
 (hv : ∀ (j : Nat) u, j < cs.length → VR g w u (cs.getD j .bad) → VR g w u (ds.getD j .bad)) : Rl g (upd H id (some (.cells ds))) w := by
 have hat : ∀ x, g.at (upd H id (some (.cells ds))) x = g.at H x := by
  intro x
  by_cases hx : x = id
  ·subst hx; simp only [Gh.at, A9, hk]
  simp only [Gh.at, A3 _ _ hx]
 refine ⟨fun x k hx => ?_, fun x x' y h1 h2 => h.inj x x' y (hat x ▸ h1) (hat x' ▸ h2), h.frz, fun x hx => ?_, h.bnd, h.glb⟩
 ·by_cases hxe : x = id
  ·subst hxe; rw [A9] at hx; cases hx
   obtain ⟨b, c, T, h1, h2, h3, h4, h5, h6⟩ := h.blk x _ hk;exact ⟨b, c, T, h1, h2, h3, by omega, fun j hj => ⟨(h5 j (by omega)).1, hv j _ (by omega) (h5 j (by omega)).2⟩, h6⟩
  rw [A3 _ _ hxe] at hx; exact h.blk x k hx
 obtain ⟨a1, a2, a3⟩ := h.nxt x hx
 have hne : x ≠ id := fun e => by subst e; rw [hk] at a3; cases a3
 exact ⟨a1, a2, by rw [A3 _ _ hne]; exact a3⟩
theorem Pm {P : Program} {o : Oper} {fr : Fr} {H : A0} {K : V → A0 → Prop} {t : TypeId} {z : V} (ho : o.op = .alloc t) (hz : Er P t = some z) (h1 : z.one = true) (h : ∀ id, H id = none → ∃ ds, G4 z.cells ds ∧ K (.ref id 0) (upd H id (some (.cells ds)))) : E4 P o fr H K := by
 intro g w a hR hE;refine (Rt (K := fun x H' => ∃ id, H id = none ∧ x = .ref id 0 ∧ H' = upd H id (some (.cells z.cells))) ho hz h1 (fun id hid => ⟨id, hid, rfl, rfl⟩) g w a hR hE).mono fun v w' ⟨g', x, H', s, hR', hv, id, hid, e1, e2⟩ => ?_;subst e1; subst e2;obtain ⟨ds, hle, hK⟩ := h id hid;have := hR'.chgCells (A9 _ _ _) (ds := ds) hle.length fun j u _ hu => hu.le (hle.at j)
 rw [P6] at this
 exact ⟨g', _, _, s, this, hv, hK⟩
theorem RJ {P : Program} {A : KG} {o : Oper} {fr : Fr} {H : A0} {K : V → A0 → Prop} (h : Dh P A o (ev fr) H K) : E4 P o fr H K := by
 unfold Dh at h
 split at h
 ·rename_i t ho
  rcases h with ⟨z, h1, h2, h3⟩ | ⟨h1, sz, h2⟩
  ·exact Pm ho h1 h2 h3
  exact Pn ho h1 sz h2
 ·rename_i t x ho;obtain ⟨h1, h2⟩ := h
  split at h2
  ·exact KM ho h1 h2
  exact Ff ho h1 h2
 ·rename_i t x y ho
  rcases h with ⟨z, H', h0, h1, h2⟩ | ⟨z, H', h0, h1, h2⟩
  ·exact Le ho (fun _ _ _ h => h.le h0) h1 h2
  exact Ph ho h0 h1 h2
 ·rename_i t l c ho
  have key : ∀ K, Iy P H K t (ev fr l) (ev fr c) → E4 P o fr H K := by
   intro K h
   unfold Iy at h
   split at h
   ·rename_i k1 n k2 m e1 e2;obtain ⟨e, sz, by_, z, q1, q2, q3, q4, q5, q6, q7, q8, q9, q10, q11, q12⟩ := h;exact Ns ho e1 e2 q1 q2 q3 q4 q5 q6 q7 q8 q9 q10 q11 q12
   exact h.elim
  exact h.elim (key K) fun h => E4.lessRow (key _ h)
 ·rename_i x ho; exact h.elim (Jp ho) fun ⟨h1, sz, h2⟩ => Ip (.inl ho) h1 sz h2
 ·rename_i x ho; exact h.elim (Nq ho) fun ⟨h1, sz, h2⟩ => Ip (.inr ho) h1 sz h2
 ·rename_i t n ps ho
  rcases h with ⟨v, h1, h2⟩ | ⟨e, sz, xs, ys, h1, h2, h3, h4, h5⟩
  ·exact FT h1 h2
  exact SN ho h1 h2 h3 h4 h5
 ·rename_i t r ho; obtain ⟨rfl, h⟩ := h; exact h.elim (Nr ho) (Mh ho)
 ·rename_i t x y z ho; exact Gj (.inl ho) h
 ·rename_i t x y z ho; exact Gj (.inr ho) h
 ·rename_i t x ho; exact Ri ho h
 ·rename_i x s ho; obtain ⟨rfl, h⟩ := h; exact SR ho h
 ·rename_i x ho; exact Rp ho h
 ·rename_i op t x y ty ho
  rcases h with ⟨v, h1, h2⟩ | ⟨q, e, xs, q1, q2, q3, q4, q5, q6⟩
  ·exact FT h1 h2
  exact UE ho q1 q2 q3 q4 q5 q6
 ·rename_i c ho
  split at h
  ·rename_i x hc;obtain ⟨ce, args, ts⟩ := c
   simp only at hc h
   subst hc;exact Nw ho h
  ·rename_i hc; exact h.elim (Gp ho hc) fun h => h.elim (KY ho hc) fun h => E4.lessH (Gp ho hc h)
  ·rename_i hc; exact Ox ho hc h
  ·rename_i hc; exact MR ho hc h
  ·rename_i hc; exact KU ho hc h
  ·rename_i b _ _ _ _ hc; obtain ⟨v, h1, h2⟩ := h; exact h1.elim (fun h1 => FL ho hc h1 h2) fun h1 => JS ho hc h1 h2
  exact h.elim
 obtain ⟨v, h1, h2⟩ := h; exact FT h1 h2
end Go.Ab
