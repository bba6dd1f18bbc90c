/- AbA9 AbA10 AbL1 AbO1 -/
import Derived.Test.YtildiiggamckaaaGreatDoorT03
set_option linter.all false
namespace Go.Ab
open Go.RowKit
variable [G5]
def Dh (H : A0) : D4 → Prop
 | .nil => True
 | .full => True
 | .tok t => H t = some .spare
 | .ro => False
def C7 (H : A0) : D4 → A0
 | .tok t => upd H t none
 | _ => H
def QI (P : Program) (t : TypeId) (v : V) : Option V :=
 match BF P t, UQ P t, v with
 | some _, _, .sl xs _ => some (.int .i64 xs.length)
 | none, some (n, _), _ => some (.int .i64 n)
 | none, none, .str s => if Ls P t = true then some (.int .i64 s.size) else none
 | _, _, _ => none
section
variable {P : Program} {o : Oper} {fr : Fr} {H : A0} {K : V → A0 → Prop}
theorem J2 {a : Act} {w : World} {b : Builtin} {xs : Array Operand} {ts : Array TypeId} (ho : o.op = .call { callee := .builtin b, args := xs, argTypes := ts }) :
 (execOp a.eval o).run P w = (builtin b ts o.type (xs.map fun | .const _ => true | _ => false) (xs.map a.eval)).run P w := by
 unfold execOp; rw [ho];simp only [resolve, Sem.run_bind, Sem.run_pure, Result.andThen_ok, invoke];rfl
theorem Hn {t : TypeId} (h : Ls P t = true) : P.underlying t = some .string := by
 unfold Ls at h
 split at h
 ·assumption
 cases h
theorem Tn {y : Operand} {t : TypeId} {x : V} (ho : o.op = .call { callee := .builtin .len, args := #[y], argTypes := #[t] }) (hl : QI P t (ev fr y) = some x) (h : K x H) : D9 P o fr H K := by
 intro g w a hR hE;have hv := C3 hR hE y;rw [J2 ho];simp only [builtin, List.map_toArray, List.map_cons, List.map_nil, Sem.run_bind]
 unfold QI at hl
 split at hl
 ·rename_i e xs tl hse he;cases hl;have hu := H7 hse
  rw [he] at hv
  generalize hav : a.eval y = v at hv
  cases hv with
  | sl0 ht => simp [Builtin.len_, run_underlying hu, goInt]; exact G6.here hR (.int _ _) h
  | sle ht => simp [Builtin.len_, run_underlying hu, goInt]; exact G6.here hR (.int _ _) h
  | sl vs hn hc hz hf hw h1 hvv ht =>
   subst hn;simp [Builtin.len_, run_underlying hu, goInt]; exact G6.here hR (.int _ _) h
 ·rename_i n e hse hae;cases hl;have hu := Hc hae;simp [Builtin.len_, run_underlying hu, goInt]; exact G6.here hR (.int _ _) h
 ·rename_i s hse hae he
  split at hl
  ·rename_i hs;cases hl
   rw [he] at hv
   simp [hv.str_inv, Builtin.len_, run_underlying (Hn hs), goInt]; exact G6.here hR (.int _ _) h
  cases hl
 cases hl
theorem AH {g : Gh} {w : World} {v : Value} {xs : List V} {tl : D4} {sz : Nat} (h : VR g w v (.sl xs tl)) (hall : xs.all (fun x => x.cells.length == sz) = true) :
 ∃ (base : Option Addr) (cap : Nat) (vs : Nat → Nat → Value), v = .slice base xs.length cap ∧ xs.length ≤ cap ∧
  (∀ i j, i < xs.length → j < sz → (vs i j).oneCell' = true ∧ VR g w (vs i j) ((xs.getD i .bad).cells.getD j .bad)) ∧
  (∀ w' : World, (∀ b o, w'.cell? ⟨b, o, none⟩ = w.cell? ⟨b, o, none⟩) → (Builtin.firstCells sz xs.length v).run P w' = .ok ((List.range (xs.length * sz)).map fun k => vs (k / sz) (k % sz)).toArray w') ∧
  ((xs = [] ∧ (cap = 0 ∨ tl = .ro) ∧ tl.plain = true) ∨ ∃ b q, base = some ⟨b, q, none⟩ ∧ (∀ i j, i < xs.length → j < sz → g.fz b (q + i * sz + j) ∧ w.cell? ⟨b, q + i * sz + j, none⟩ = some (vs i j)) ∧
   (∀ i, i < xs.length → (xs.getD i .bad).cells.length = sz) ∧ ∃ sz', (0 < xs.length → sz' = sz) ∧ Dz g b q sz' xs.length cap tl) := by
 cases h with
 | sl0 ht => exact ⟨none, 0, fun _ _ => undef, rfl, Nat.le_refl _, fun i j hi => by simp at hi, fun _ _ => by simp [Builtin.firstCells], .inl ⟨rfl, .inl rfl, ht⟩⟩
 | sle ht => exact ⟨_, _, fun _ _ => undef, rfl, Nat.zero_le _, fun i j hi => by simp at hi, fun _ _ => by simp [Builtin.firstCells, loadCells, loadCellsFrom], .inl ⟨rfl, by rcases ht with h | h; exact .inr h; exact .inl h.2, by rcases ht with h | ⟨h, _⟩ <;> subst h <;> rfl⟩⟩
 | sl vs hn hc hz hf hw h1 hv ht =>
  rename_i b q sz' n cap;subst hn
  have hsz : 0 < xs.length → sz' = sz := by
   intro h0;have e1 := hz 0 h0;have e2 := (List.all_eq_true.1 hall) (xs.getD 0 .bad) (by simp [List.getD, h0])
   rw [← e1]; simpa using e2
  refine ⟨some ⟨b, q, none⟩, cap, vs, rfl, hc, fun i j hi hj => ?_, ?_, .inr ⟨b, q, rfl, fun i j hi hj => ?_, fun i hi => ?_, sz', hsz, ht⟩⟩
  ·have := hsz (by omega); subst this;exact ⟨h1 i j hi hj, hv i j hi hj⟩
  ·intro w' hw';simp only [Builtin.firstCells];refine run_loadCells w' _ _ _ fun k hk => ?_
   have h0 : 0 < xs.length := by
    rcases Nat.eq_zero_or_pos xs.length with h | h
    ·rw [h, Nat.zero_mul] at hk; omega
    exact h
   have := hsz h0; subst this
   have hp : 0 < sz' := by
    rcases Nat.eq_zero_or_pos sz' with h | h
    ·rw [h, Nat.mul_zero] at hk; omega
    exact h
   have hi : k / sz' < xs.length := (Nat.div_lt_iff_lt_mul hp).2 hk;have hj : k % sz' < sz' := Nat.mod_lt _ hp;have := hw (k / sz') (k % sz') hi hj;rw [O3, hw'];rw [show q + k = q + k / sz' * sz' + k % sz' by have := Nat.div_add_mod k sz'; rw [Nat.mul_comm] at this; omega];exact this
  ·have := hsz (by omega); subst this;exact ⟨hf i j hi hj, hw i j hi hj⟩
  have := hsz (by omega); subst this;exact hz i hi
def Gh.tok (g : Gh) (b e0 e lim : Nat) : Gh :=
 { g with tk := fun x => if x = g.nx then some (b, e, lim) else g.tk x, nx := g.nx + 1, fz := fun b' o => g.fz b' o ∨ (b' = b ∧ e0 ≤ o ∧ o < e) }
theorem M4.tok {g : Gh} {H : A0} {w w' : World} (h : Rl g H w) (b e0 e lim : Nat) (hc : ∀ b o, g.fz b o → w'.cell? ⟨b, o, none⟩ = w.cell? ⟨b, o, none⟩) (hl : Below g.base w w') :
 M4 g w (g.tok b e0 e lim) w' := by
 refine ⟨fun _ _ e => e, fun t x e => ?_, fun _ _ e => .inl e, rfl, hc, hl, fun _ _ _ => rfl⟩;simp only [Gh.tok]
 split
 ·next e' => subst e'; rw [(h.nxt _ (Nat.le_refl _)).2.1] at e; cases e
 exact e
end
end Go.Ab
namespace Go.Ab
open Go.RowKit
variable [G5]
section
variable {P : Program} {o : Oper} {fr : Fr} {H : A0} {K : V → A0 → Prop}
theorem Bd {H : A0} {tl : D4} {id : Nat} {b : Ag} (h : C7 H tl id = some b) : H id = some b := by
 cases tl with
 | tok t =>
  simp only [C7, upd] at h
  split at h
  ·cases h
  exact h
 | _ => exact h
theorem Rl.tok {g : Gh} {H : A0} {w w' : World} (h : Rl g H w) {b e0 e lim : Nat} {c : Array Value} {T : TypeId} (hb : g.base ≤ b) (hrow : w'.heap[b]? = some (.cells c T (0, 0))) (hlim : c.size = lim) (he : e ≤ lim)
 (hfree : ∀ o, e0 ≤ o → ¬ g.fz b o) (he0 : e0 ≤ e) (hcell : ∀ b o, g.fz b o → w'.cell? ⟨b, o, none⟩ = w.cell? ⟨b, o, none⟩) (hl : Below g.base w w') (hother : ∀ x, x ≠ b → x < w.heap.size → w'.heap[x]? = w.heap[x]?)
 (hown : ∀ id, g.at H id ≠ some b) : Rl (g.tok b e0 e lim) (upd H g.nx (some .spare)) w' := by
 have s := M4.tok h b e0 e lim hcell hl;have hnx := h.nxt g.nx (Nat.le_refl _)
 have hne : ∀ id, id ≠ g.nx → (g.tok b e0 e lim).at (upd H g.nx (some .spare)) id = g.at H id := fun id hi =>
  Hb (A3 _ _ hi) rfl (by simp [Gh.tok, hi])
 have hat : (g.tok b e0 e lim).at (upd H g.nx (some .spare)) g.nx = some b := by simp [Gh.at, A8, Gh.tok]
 refine ⟨fun id k hk => ?_, fun id id' x h1 h2 => ?_, fun x o hf => ?_, fun id hi => ?_, ?_, fun n => (h.glb n).mono s⟩
 ·by_cases hi : id = g.nx
  ·subst hi; rw [A8] at hk; cases hk
   refine ⟨b, e, lim, c, T, by simp [Gh.tok], hb, hrow, he, hlim, fun o ho hf => ?_⟩
   rcases hf with hf | ⟨_, _, h3⟩
   ·exact hfree o (by omega) hf
   omega
  rw [A3 _ _ hi] at hk
  refine (h.blk id k hk).mono hk s fun x hx => ⟨hother x (fun e => hown id (by rw [hx, e])) (h.lt hx), fun o ho => ?_⟩
  rcases ho with ho | ⟨e, _⟩
  ·exact ho
  subst e; exact absurd hx (hown id)
 ·by_cases hi : id = g.nx <;> by_cases hi' : id' = g.nx
  ·rw [hi, hi']
  ·subst hi; rw [hat] at h1; rw [hne _ hi'] at h2; cases h1; exact absurd h2 (hown _)
  ·subst hi'; rw [hat] at h2; rw [hne _ hi] at h1; cases h2; exact absurd h1 (hown _)
  rw [hne _ hi] at h1; rw [hne _ hi'] at h2; exact h.inj _ _ _ h1 h2
 ·rcases hf with hf | ⟨e', h1, h2⟩
  ·obtain ⟨v, hv⟩ := h.frz x o hf;exact ⟨v, (hcell x o hf).trans hv⟩
  subst e'
  have : o < c.size := by omega
  exact ⟨c[o], by simp [World.cell?, hrow, this]⟩
 ·have hi' : g.nx ≤ id := Nat.le_of_succ_le hi
  have hne' : id ≠ g.nx := fun e => by subst e; exact absurd hi (Nat.not_succ_le_self _)
  obtain ⟨a1, a2, a3⟩ := h.nxt id hi';exact ⟨a1, by simp [Gh.tok, hne', a2], by rw [A3 _ _ hne']; exact a3⟩
 have := h.bnd; have := hl.size; simp [Gh.tok]; omega
theorem Y3 {xs ys : List V} {i : Nat} : (xs ++ ys).getD i .bad = if i < xs.length then xs.getD i .bad else ys.getD (i - xs.length) .bad := by
 simp only [List.getD_eq_getElem?_getD, List.getElem?_append]
 split <;> rfl
theorem J0 {i j sz : Nat} (hj : j < sz) : (i * sz + j) / sz = i ∧ (i * sz + j) % sz = j := by
 have hp : 0 < sz := by omega
 constructor
 ·rw [Nat.add_comm, Nat.add_mul_div_right _ _ hp, Nat.div_eq_of_lt hj, Nat.zero_add]
 rw [Nat.add_comm, Nat.add_mul_mod_self_right, Nat.mod_eq_of_lt hj]
theorem Al {i j n sz : Nat} (hi : i < n) (hj : j < sz) : i * sz + j < n * sz := by
 have : (i + 1) * sz ≤ n * sz := Nat.mul_le_mul_right _ hi
 rw [Nat.add_mul] at this
 omega
theorem FX {s y : Operand} {sT yT e : TypeId} {sz by_ : Nat} {z : V} {xs ys : List V} {tl tl' : D4} (ho : o.op = .call { callee := .builtin .append, args := #[s, y], argTypes := #[sT, yT] })
 (hs : ev fr s = .sl xs tl) (hy : ev fr y = .sl ys tl') (he : BF P sT = some e) (hyT : (BF P yT).isSome = true) (hsz : Bm P e = some sz) (hpos : 0 < sz) (hby : IC P e = some by_) (hbp : 0 < by_)
 (hz : DR P e = some z) (hz1 : z.one = true) (hzl : z.cells.length = sz) (hA : Dh H tl) (hax : xs.all (fun x => x.cells.length == sz) = true) (hay : ys.all (fun x => x.cells.length == sz) = true)
 (hbound : (xs.length + ys.length) * by_ ≤ 140737488355328) (h0 : ys = [] → K (.sl xs tl) H)
 (h : ∀ t, ys ≠ [] → C7 H tl t = none → K (.sl (xs ++ ys) (.tok t)) (upd (C7 H tl) t (some .spare))) : D9 P o fr H K := by
 intro g w a hR hE;have hvs := C3 hR hE s;have hvy := C3 hR hE y
 rw [hs] at hvs; rw [hy] at hvy
 obtain ⟨base, cap, fs, es, hcap, hfs, hrs, hbs⟩ := AH (P := P) hvs hax;obtain ⟨ybase, ycap, fy, ey, _, hfy, hry, hby'⟩ := AH (P := P) hvy hay;have hu := H7 he;obtain ⟨e', hyT'⟩ := Option.isSome_iff_exists.1 hyT;have huy := H7 hyT';obtain ⟨zv, ez, hzv⟩ := Am hz
 have hzr : VR g w zv z := by rw [ez]; exact Bh g w zv
 have hzs : zv.cells.size = sz := by rw [(hzr.cells hz1).1, hzl]
 have hbytes : ∀ w, (typeInfo e).run P w = .ok ((P.info? e).getD default) w ∧ ((P.info? e).getD default).bytes = by_ := by
  intro w
  unfold IC at hby
  cases hi : P.info? e with
  | none => simp [hi] at hby
  | some i => simp [hi] at hby; simp [typeInfo, hi, hby]
 rw [J2 ho];simp only [builtin, List.map_toArray, List.map_cons, List.map_nil, Sem.run_bind, es, ey]
 have hn63' : ¬ (IntKind.i64.max < ((xs.length + ys.length : Nat) : Int) ∧ (False ∨ by_ = 0)) := by
  rintro ⟨_, hF | hF⟩
  ·exact hF
  omega
 have hbi : ∀ w, (typeInfo e).run P w = .ok ((P.info? e).getD default) w := fun w => (hbytes w).1;have hbb := (hbytes w).2;have hR1 : Rl g (C7 H tl) w := hR.less fun id b hb => Bd hb
 have hlenx : ∀ i, i < xs.length → (xs.getD i .bad).cells.length = sz := fun i hi => by
  have := (List.all_eq_true.1 hax) (xs.getD i .bad) (by simp [List.getD, hi])
  simpa using this
 have hleny : ∀ i, i < ys.length → (ys.getD i .bad).cells.length = sz := fun i hi => by
  have := (List.all_eq_true.1 hay) (ys.getD i .bad) (by simp [List.getD, hi])
  simpa using this
 have hlenxy : ∀ i, i < xs.length + ys.length → ((xs ++ ys).getD i .bad).cells.length = sz := fun i hi => by
  rw [Y3]; split
  ·exact hlenx i (by assumption)
  exact hleny _ (by omega)
 have hvals : ∀ (g' : Gh) (w' : World), M4 g w g' w' → ∀ i j, i < xs.length + ys.length → j < sz → (if i < xs.length then fs i j else fy (i - xs.length) j).oneCell' = true ∧
  VR g' w' (if i < xs.length then fs i j else fy (i - xs.length) j) (((xs ++ ys).getD i .bad).cells.getD j .bad) := by
  intro g' w' st i j hi hj;rw [Y3]
  split
  ·rename_i hlt; exact ⟨(hfs i j hlt hj).1, (hfs i j hlt hj).2.mono st⟩
  exact ⟨(hfy _ j (by omega) hj).1, (hfy _ j (by omega) hj).2.mono st⟩
 by_cases hc : xs.length + ys.length ≤ cap
 ·
  have hrun : ∀ w', (match base with | some a => (storeCells (a.add (xs.length * sz)) ((List.range (ys.length * sz)).map fun k => fy (k / sz) (k % sz))).run P w | none => .ok () w) = .ok () w' →
   (Builtin.append_ #[sT, yT] o.type #[.slice base xs.length cap, .slice ybase ys.length ycap]).run P w = .ok (.slice base (xs.length + ys.length) cap) w' := by
   intro w' hw';have hry' := hry w fun _ _ => rfl
   rw [ey] at hry'
   simp only [Builtin.append_, Sem.run_bind, run_underlying hu, Result.andThen_ok, H5 hsz, run_underlying huy, Sem.run_pure, Builtin.lenOf, Sem.run_ite, List.getElem?_toArray,
    List.getElem?_cons_zero, List.getElem?_cons_succ, Bool.false_eq_true, if_false, Bool.not_false, if_true, if_pos hc, hry']
   cases base with
   | none => simp only at hw'; cases hw'; rfl
   | some a => simp only at hw'; simp only [hw', Sem.run_bind, Sem.run_pure, Result.andThen_ok]
  by_cases hy0 : ys = []
  ·subst hy0
   have hst : (match base with | some a => (storeCells (a.add (xs.length * sz)) ((List.range (([] : List V).length * sz)).map fun k => fy (k / sz) (k % sz))).run P w | none => .ok () w) = .ok () w := by
    cases base <;> simp [storeCells]
   rw [hrun w hst];simp only [Result.andThen_ok, Sem.run_pure, D6, List.length_nil, Nat.add_zero, ← es];exact G6.here hR hvs (h0 rfl)
  have hylen : 0 < ys.length := List.length_pos_iff.2 hy0
  rcases hbs with ⟨hx0, hc0 | hc0, _⟩ | ⟨b, q, hbase, hcell, _, sz', hsz', htl⟩
  ·subst hx0; simp at hc; omega
  ·subst hc0; exact hA.elim
  cases tl with
  | nil => exact htl.elim
  | ro => exact hA.elim
  | full => simp only [Dz] at htl; omega
  | tok t =>
   obtain ⟨hn0, lim, ht1, ht2⟩ := htl;have := hsz' hn0;subst this;have hA' : H t = some .spare := hA;obtain ⟨b2, e2, lim2, c, T, k1, k2, k3, k4, k5, k6⟩ := hR.blk t _ hA'
   rw [ht1] at k1
   simp only [Option.some.injEq, Prod.mk.injEq] at k1
   obtain ⟨rfl, rfl, rfl⟩ := k1;have hcapsz : (xs.length + ys.length) * sz' ≤ cap * sz' := Nat.mul_le_mul_right _ hc;have hadd : (xs.length + ys.length) * sz' = xs.length * sz' + ys.length * sz' := Nat.add_mul _ _ _
   have hmem : ∀ v ∈ ((List.range (ys.length * sz')).map fun k => fy (k / sz') (k % sz')), v.oneCell' = true := by
    intro v hv;obtain ⟨k, hk, rfl⟩ := List.mem_map.1 hv;have hk' := List.mem_range.1 hk;exact (hfy _ _ ((Nat.div_lt_iff_lt_mul hpos).2 hk') (Nat.mod_lt _ hpos)).1
   have hst := run_storeCells_at P b (q + xs.length * sz') T ((List.range (ys.length * sz')).map fun k => fy (k / sz') (k % sz')) 0 c w k3 (by simp; omega) hmem;have hst' := hst
   rw [hbase] at hrun ⊢
   simp only [O3] at hrun
   rw [hrun _ hst];simp only [Result.andThen_ok, Sem.run_pure, D6]
   generalize hC : (c.toList.take (q + xs.length * sz' + 0) ++ ((List.range (ys.length * sz')).map fun k => fy (k / sz') (k % sz')) ++
    c.toList.drop (q + xs.length * sz' + 0 + ((List.range (ys.length * sz')).map fun k => fy (k / sz') (k % sz')).length)).toArray = C
   have hCs : C.size = c.size := by rw [← hC]; simp; omega
   have hCg : ∀ k, k < c.size → C[k]? = if k < q + xs.length * sz' then c[k]? else if k < q + xs.length * sz' + ys.length * sz' then some (fy ((k - (q + xs.length * sz')) / sz') ((k - (q + xs.length * sz')) % sz')) else c[k]? := by
    intro k hk;rw [← hC];simp only [Nat.add_zero, List.getElem?_toArray, List.append_assoc, List.length_map, List.length_range];rw [List.getElem?_append, List.getElem?_append];simp only [List.length_take, Array.length_toList, Nat.min_eq_left (show q + xs.length * sz' ≤ c.size by omega), List.getElem?_take, List.getElem?_drop, Array.getElem?_toList, List.length_map, List.length_range, List.getElem?_map]
    by_cases q1 : k < q + xs.length * sz'
    ·rw [if_pos q1, if_pos q1, if_pos q1]
    rw [if_neg q1, if_neg q1]
    by_cases q2 : k < q + xs.length * sz' + ys.length * sz'
    ·rw [if_pos (by omega), if_pos q2, List.getElem?_range (by omega)]; rfl
    rw [if_neg (by omega), if_neg q2, show q + xs.length * sz' + ys.length * sz' + (k - (q + xs.length * sz') - ys.length * sz') = k by omega]
   have hnown : ∀ id, g.at (C7 H (.tok t)) id ≠ some b := by
    intro id hid
    have hat : g.at H t = some b := by simp [Gh.at, hA', ht1]
    by_cases hid' : id = t
    ·subst hid'; simp [Gh.at, C7, A8] at hid
    have : g.at H id = some b := by simpa only [Gh.at, C7, A3 _ _ hid'] using hid
    exact hid' (hR.inj _ _ _ this hat)
   have hcellp : ∀ x o, g.fz x o → (w.setRow b C).cell? ⟨x, o, none⟩ = w.cell? ⟨x, o, none⟩ := by
    intro x o hf
    by_cases hx : x = b
    ·subst hx
     have ho : o < q + xs.length * sz' := by
      rcases Nat.lt_or_ge o (q + xs.length * sz') with h | h
      ·exact h
      exact absurd hf (k6 o h)
     have hw' : (w.setRow x C).heap[x]? = some (.cells C T (0, 0)) := setRow_heap w x c C T (0, 0) k3;simp only [World.cell?, hw', k3, Option.isSome_none, Bool.false_eq_true, if_false];rw [hCg o (by omega), if_pos ho]
    exact W9 w b C x o hx
   have hbel : Below g.base w (w.setRow b C) := Cs w b C k2
   have hRn := Rl.tok (e0 := q + xs.length * sz') (e := q + (xs.length + ys.length) * sz') (lim := c.size) hR1 k2 (setRow_heap w b c C T (0, 0) k3) hCs (by omega) k6 (by omega) hcellp hbel
    (fun x hx _ => I0 w b C x hx) hnown
   have hStp := M4.tok hR1 b (q + xs.length * sz') (q + (xs.length + ys.length) * sz') c.size hcellp hbel;refine ⟨_, _, _, hStp, hRn, ?_, h g.nx hy0 (hR1.nxt _ (Nat.le_refl _)).2.2⟩
   refine .sl (sz := sz') (fun i j => if i < xs.length then fs i j else fy (i - xs.length) j) (by simp) hc (fun i hi => hlenxy i hi) (fun i j hi hj => ?_) (fun i j hi hj => ?_)
    (fun i j hi hj => (hvals _ _ hStp i j hi hj).1) (fun i j hi hj => (hvals _ _ hStp i j hi hj).2) ?_
   ·by_cases hix : i < xs.length
    ·exact .inl (hcell i j hix hj).1
    have h1 : xs.length * sz' ≤ i * sz' := Nat.mul_le_mul_right _ (by omega);have h2 := Al hi hj;exact .inr ⟨rfl, by omega, by omega⟩
   ·have h2 := Al hi hj;have hw' : (w.setRow b C).heap[b]? = some (.cells C T (0, 0)) := setRow_heap w b c C T (0, 0) k3
    by_cases hix : i < xs.length
    ·rw [if_pos hix];exact (hcellp b _ (hcell i j hix hj).1).trans (hcell i j hix hj).2
    rw [if_neg hix];have h1 : xs.length * sz' ≤ i * sz' := Nat.mul_le_mul_right _ (by omega);have h3 : (i - xs.length) * sz' = i * sz' - xs.length * sz' := Nat.sub_mul _ _ _;simp only [World.cell?, hw', Option.isSome_none, Bool.false_eq_true, if_false];rw [hCg _ (by omega), if_neg (by omega), if_pos (by omega)];rw [show q + i * sz' + j - (q + xs.length * sz') = (i - xs.length) * sz' + j by omega, (J0 hj).1, (J0 hj).2]
   refine ⟨by omega, c.size, ?_, by omega⟩;simp [Gh.tok]
 have hnf : ¬ (2 ^ 48 < Builtin.nextslicecap (xs.length + ys.length) cap * by_) := by
  have := growslice_fits (Nat.lt_of_not_le hc) hbound; omega
 have hdr : ∀ b o, w.drew.cell? ⟨b, o, none⟩ = w.cell? ⟨b, o, none⟩ := fun _ _ => rfl;generalize hG : grownCap w (xs.length + ys.length) cap e = G
 have hGe : xs.length + ys.length ≤ G := by rw [← hG]; exact grownCap_ge w _ _ _
 have hrun : (Builtin.append_ #[sT, yT] o.type #[.slice base xs.length cap, .slice ybase ys.length ycap]).run P w =
  .ok (.slice (some ⟨w.heap.size, 0, none⟩) (xs.length + ys.length) G)
   (w.drew.alloc (.cells (((List.range (xs.length * sz)).map fun k => fs (k / sz) (k % sz)).toArray ++ ((List.range (ys.length * sz)).map fun k => fy (k / sz) (k % sz)).toArray ++
    Builtin.zeroCells zv.cells (G - (xs.length + ys.length))) e)) := by
  have hGd : (Question.appendCap (xs.length + ys.length) cap e).cut (w.tape w.drawn (.appendCap (xs.length + ys.length) cap e)) = G := hG;have hf : (Question.appendCap (xs.length + ys.length) cap e).forced = false := rfl;have hrs' := hrs w.drew hdr;have hry' := hry w.drew hdr
  rw [es] at hrs'; rw [ey] at hry'
  simp only [Builtin.append_, Sem.run_bind, run_underlying hu, Result.andThen_ok, H5 hsz, run_underlying huy, Sem.run_pure, Builtin.lenOf, Sem.run_ite, hbi, hbb, List.getElem?_toArray,
   List.getElem?_cons_zero, List.getElem?_cons_succ, Bool.false_eq_true, if_false, Bool.not_false, if_true, gt_iff_lt, false_or, if_neg hc, if_neg hnf, run_choose, hf, hGd, World.drew_eq, run_askRoom, hrs', hry', hzv, newRow, run_newObj,
   World.alloc_eq, World.size_drew]
  rw [if_neg (by simpa using hn63')]
 rw [hrun];simp only [Result.andThen_ok, Sem.run_pure, D6];generalize hC : ((List.range (xs.length * sz)).map fun k => fs (k / sz) (k % sz)).toArray ++ ((List.range (ys.length * sz)).map fun k => fy (k / sz) (k % sz)).toArray ++ Builtin.zeroCells zv.cells (G - (xs.length + ys.length)) = C;have hadd : (xs.length + ys.length) * sz = xs.length * sz + ys.length * sz := Nat.add_mul _ _ _
 have hCs : C.size = G * sz := by
  rw [← hC];simp only [Array.size_append, List.size_toArray, List.length_map, List.length_range, size_zeroCells, hzs, Nat.sub_mul];have : (xs.length + ys.length) * sz ≤ G * sz := Nat.mul_le_mul_right _ hGe;omega
 have hGs : (xs.length + ys.length) * sz ≤ G * sz := Nat.mul_le_mul_right _ hGe
 have hCg : ∀ k, k < (xs.length + ys.length) * sz → C[k]? = some (if k < xs.length * sz then fs (k / sz) (k % sz) else fy ((k - xs.length * sz) / sz) ((k - xs.length * sz) % sz)) := by
  intro k hk;rw [← hC, Array.getElem?_append, if_pos (by simp; omega), Array.getElem?_append];simp only [List.size_toArray, List.length_map, List.length_range, List.getElem?_toArray, List.getElem?_map]
  split
  ·rw [List.getElem?_range (by assumption)]; rfl
  rw [List.getElem?_range (by omega)]; rfl
 have hcellp : ∀ x o, g.fz x o → (w.drew.alloc (.cells C e)).cell? ⟨x, o, none⟩ = w.cell? ⟨x, o, none⟩ := fun x o hf => Y8 (w := w.drew) (hR.fz_lt hf);have hbel : Below g.base w (w.drew.alloc (.cells C e)) := (Below.refl _ _).drew.alloc hR.bnd _
 have hnown : ∀ id, g.at (C7 H tl) id ≠ some w.heap.size := fun id hid => absurd (hR1.lt hid) (Nat.lt_irrefl _)
 have hRn := Rl.tok (e0 := 0) (e := (xs.length + ys.length) * sz) (lim := G * sz) hR1 hR.bnd (V9 (w := w.drew) (o := .cells C e)) hCs hGs (fun o _ hf => absurd (hR.fz_lt hf) (Nat.lt_irrefl _)) (Nat.zero_le _) hcellp hbel
  (fun x hx hlt => heap_alloc (w := w.drew) hlt) hnown
 have hStp := M4.tok hR1 w.heap.size 0 ((xs.length + ys.length) * sz) (G * sz) hcellp hbel
 have hy0 : ys ≠ [] := by
  intro e; subst e; simp at hc
  have : xs.length ≤ cap := hcap;omega
 refine ⟨_, _, _, hStp, hRn, ?_, h g.nx hy0 (hR1.nxt _ (Nat.le_refl _)).2.2⟩;have hylen : 0 < ys.length := List.length_pos_iff.2 hy0
 refine .sl (sz := sz) (fun i j => if i < xs.length then fs i j else fy (i - xs.length) j) (by simp) hGe (fun i hi => hlenxy i hi) (fun i j hi hj => .inr ⟨rfl, Nat.zero_le _, by have := Al hi hj; omega⟩) (fun i j hi hj => ?_)
  (fun i j hi hj => (hvals _ _ hStp i j hi hj).1) (fun i j hi hj => (hvals _ _ hStp i j hi hj).2) ?_
 ·have h2 := Al hi hj;rw [show (⟨w.heap.size, 0 + i * sz + j, none⟩ : Addr) = ⟨w.drew.heap.size, i * sz + j, none⟩ by simp];rw [Fh (w := w.drew), hCg _ h2]
  congr 1
  by_cases hix : i < xs.length
  ·have h3 := Al hix hj;rw [if_pos h3, if_pos hix, (J0 hj).1, (J0 hj).2]
  have h1 : xs.length * sz ≤ i * sz := Nat.mul_le_mul_right _ (by omega);have h3 : (i - xs.length) * sz = i * sz - xs.length * sz := Nat.sub_mul _ _ _;rw [if_neg (by omega), if_neg hix, show i * sz + j - xs.length * sz = (i - xs.length) * sz + j by omega, (J0 hj).1, (J0 hj).2]
 refine ⟨by omega, G * sz, ?_, by simp⟩;simp [Gh.tok]
end
end Go.Ab
namespace Go.Ab
open Go.RowKit
variable [G5]
mutual
inductive X2 : V → V → Prop
 | refl (x : V) : X2 x x
 | ro (xs : List V) (t : D4) : X2 (.sl xs t) (.sl xs .ro)
 | sl {xs ys : List V} (t : D4) : G4 xs ys → X2 (.sl xs t) (.sl ys .ro)
 | slt {xs ys : List V} (t : D4) : G4 xs ys → X2 (.sl xs t) (.sl ys t)
 | sub {cs : List V} {d sz : Nat} (h : d + sz ≤ cs.length) : X2 (.eref cs d) (.eref ((cs.drop d).take sz) 0)
 | agg {xs ys : List V} : G4 xs ys → X2 (.agg xs) (.agg ys)
 | tup {xs ys : List V} : G4 xs ys → X2 (.tup xs) (.tup ys)
inductive G4 : List V → List V → Prop
 | nil : G4 [] []
 | cons {x y : V} {xs ys : List V} : X2 x y → G4 xs ys → G4 (x :: xs) (y :: ys)
end
theorem G4.refl : ∀ xs : List V, G4 xs xs
 | [] => .nil
 | x :: xs => .cons (.refl x) (.refl xs)
theorem G4.length : ∀ {xs ys : List V}, G4 xs ys → xs.length = ys.length
 | _, _, .nil => rfl
 | _, _, .cons _ h => by simp [G4.length h]
theorem G4.at : ∀ {xs ys : List V}, G4 xs ys → ∀ i : Nat, X2 (xs.getD i .bad) (ys.getD i .bad)
 | _, _, .nil, i => by simp; exact .refl _
 | _, _, .cons h _, 0 => by simpa using h
 | _, _, .cons _ h, i + 1 => by simpa using G4.at h i
theorem X2.cells {x y : V} (h : X2 x y) : G4 x.cells y.cells := by
 cases h with
 | refl => exact .refl _
 | ro => exact .cons (.ro _ _) .nil
 | sl t h => exact .cons (.sl t h) .nil
 | slt t h => exact .cons (.slt t h) .nil
 | sub h => exact .cons (.sub h) .nil
 | agg h => exact h
 | tup h => exact .cons (.tup h) .nil
theorem X2.one {x y : V} (h : X2 x y) (hx : x.one = true) : y.one = true := by
 cases h <;> first | exact hx | rfl | cases hx
theorem VR.le {g : Gh} {w : World} {v : Value} {x : V} (h : VR g w v x) : ∀ {y : V}, X2 x y → VR g w v y := by
 induction h with
 | sl0 ht =>
  intro y k
  cases k with
  | refl => exact .sl0 ht
  | ro => exact .sl0 rfl
  | sl t hs => cases hs; exact .sl0 rfl
  | slt t hs => cases hs; exact .sl0 ht
 | sle ht =>
  intro y k
  cases k with
  | refl => exact .sle ht
  | ro => exact .sle (.inl rfl)
  | sl t hs => cases hs; exact .sle (.inl rfl)
  | slt t hs => cases hs; exact .sle ht
 | sl vs hn hc hz hf hw h1 hv ht ih =>
  rename_i b o sz n cap xs t;intro y k
  cases k with
  | refl => exact .sl vs hn hc hz hf hw h1 hv ht
  | ro => exact .sl vs hn hc hz hf hw h1 hv trivial
  | sl t hs =>
   refine .sl vs (hs.length ▸ hn) hc (fun i hi => ?_) hf hw h1 (fun i j hi hj => ih i j hi hj ((hs.at i).cells.at j)) trivial;rw [← (hs.at i).cells.length]; exact hz i hi
  | slt t hs =>
   refine .sl vs (hs.length ▸ hn) hc (fun i hi => ?_) hf hw h1 (fun i j hi hj => ih i j hi hj ((hs.at i).cells.at j)) ht;rw [← (hs.at i).cells.length]; exact hz i hi
 | agg hl h1 hv ih =>
  intro y k
  cases k with
  | refl => exact .agg hl h1 hv
  | agg hs => exact .agg (hl.trans hs.length) (fun i hi => h1 i (hs.length ▸ hi)) fun i hi => ih i (hs.length ▸ hi) (hs.at i)
 | tup hl hv ih =>
  intro y k
  cases k with
  | refl => exact .tup hl hv
  | tup hs => exact .tup (hl.trans hs.length) fun i hi => ih i (hs.length ▸ hi) (hs.at i)
 | bad v => intro y k; cases k; exact .bad v
 | bool b => intro y k; cases k; exact .bool b
 | int k n => intro y k'; cases k'; exact .int k n
 | str s => intro y k; cases k; exact .str s
 | nilp => intro y k; cases k; exact .nilp
 | nilf => intro y k; cases k; exact .nilf
 | nili => intro y k; cases k; exact .nili
 | nilmap => intro y k; cases k; exact .nilmap
 | map h => intro y k; cases k; exact .map h
 | fmap hb hw hk hn hl hv ih => intro y k; cases k; exact .fmap hb hw hk hn hl hv
 | ref h => intro y k; cases k; exact .ref h
 | own h h0 h1 h2 hp => intro y k; cases k; exact .own h h0 h1 h2 hp
 | elem h hs => intro y k; cases k; exact .elem h hs
 | eref vs hf hw h1 hv ih =>
  rename_i b o off cs;intro y k
  cases k with
  | refl => exact .eref vs hf hw h1 hv
  | sub hd =>
   rename_i sz
   have hl : ((cs.drop off).take sz).length = sz := by simp; omega
   have hg : ∀ j, j < sz → ((cs.drop off).take sz).getD j .bad = cs.getD (off + j) .bad := fun j hj => by
    simp only [List.getD_eq_getElem?_getD, List.getElem?_take, List.getElem?_drop, if_pos hj]
   have := VR.eref (g := g) (w := w) (b := b) (o := o + off) (off := 0) (cs := (cs.drop off).take sz) (fun j => vs (off + j)) (fun j hj => by rw [hl] at hj; have := hf (off + j) (by omega); rwa [← Nat.add_assoc] at this)
    (fun j hj => by rw [hl] at hj; have := hw (off + j) (by omega); rwa [← Nat.add_assoc] at this) (fun j hj => by rw [hl] at hj; exact h1 (off + j) (by omega)) (fun j hj => by rw [hl] at hj; rw [hg j hj]; exact hv (off + j) (by omega))
   rwa [Nat.add_zero] at this
 | func hl hv hl' hv' ih ih' => intro y k; cases k; exact .func hl hv hl' hv'
 | yield h => intro y k; cases k; exact .yield h
 | iface h ih => intro y k; cases k; exact .iface h
theorem G4.sz {sz : Nat} : ∀ {xs ys : List V}, G4 xs ys → ys.all (fun x => x.cells.length == sz) = true → xs.all (fun x => x.cells.length == sz) = true
 | _, _, .nil, _ => rfl
 | _, _, .cons h k, ha => by
  simp only [List.all_cons, Bool.and_eq_true] at ha ⊢
  exact ⟨by rw [h.cells.length]; exact ha.1, G4.sz k ha.2⟩
theorem G4.append : ∀ {xs ys xs' ys' : List V}, G4 xs xs' → G4 ys ys' → G4 (xs ++ ys) (xs' ++ ys')
 | _, _, _, _, .nil, k => k
 | _, _, _, _, .cons h k, k' => .cons h (G4.append k k')
end Go.Ab
namespace Go.Ab
open Go.RowKit
variable [G5]
def Gh.own (g : Gh) (b : Nat) (hd : Hd) : Gh :=
 { g with mu := fun x => if x = g.nx then some b else g.mu x, ow := fun x => if x = g.nx then hd else g.ow x, nx := g.nx + 1 }
theorem M4.own {g : Gh} {H : A0} {w w' : World} (h : Rl g H w) (b : Nat) (hd : Hd) (hc : ∀ b o, g.fz b o → w'.cell? ⟨b, o, none⟩ = w.cell? ⟨b, o, none⟩) (hl : Below g.base w w') : M4 g w (g.own b hd) w' := by
 have hn := (h.nxt _ (Nat.le_refl _)).1;refine ⟨fun id b e => ?_, fun t x e => e, fun _ _ e => e, rfl, hc, hl, fun id b e => ?_⟩
 ·simp only [Gh.own]
  split
  ·next e' => subst e'; rw [hn] at e; cases e
  exact e
 simp only [Gh.own]
 split
 ·next e' => subst e'; rw [hn] at e; cases e
 rfl
theorem Rl.newArr {g : Gh} {H : A0} {w w' : World} (h : Rl g H w) {b o sz : Nat} {ys : List V} (hz : ∀ i, i < ys.length → (ys.getD i .bad).cells.length = sz)
 (hcell : ∀ b o, g.fz b o → w'.cell? ⟨b, o, none⟩ = w.cell? ⟨b, o, none⟩) (hl : Below g.base w w') (hother : ∀ x, (ys.length = 0 ∨ x ≠ b) → x < w.heap.size → w'.heap[x]? = w.heap[x]?)
 (hb : ys.length = 0 ∨ ∃ c T, g.base ≤ b ∧ w'.heap[b]? = some (.cells c T (0, 0)) ∧ o + ys.length * sz ≤ c.size ∧
  (∀ i j, i < ys.length → j < sz → (c.getD (o + i * sz + j) undef).oneCell' = true ∧ VR g w (c.getD (o + i * sz + j) undef) ((ys.getD i .bad).cells.getD j .bad)) ∧
  (∀ q, o ≤ q → ¬ g.fz b q) ∧ ∀ id, g.at H id ≠ some b) :
 M4 g w (g.own b ⟨o, ys.length, sz⟩) w' ∧ Rl (g.own b ⟨o, ys.length, sz⟩) (upd H g.nx (some (.arr sz ys))) w' ∧ H g.nx = none := by
 have s := M4.own h b ⟨o, ys.length, sz⟩ hcell hl;have hnx := h.nxt g.nx (Nat.le_refl _)
 generalize hG : g.own b ⟨o, ys.length, sz⟩ = g' at s ⊢
 have em : ∀ x, g'.mu x = if x = g.nx then some b else g.mu x := fun x => by rw [← hG]; rfl
 have eo : ∀ x, g'.ow x = if x = g.nx then ⟨o, ys.length, sz⟩ else g.ow x := fun x => by rw [← hG]; rfl
 have et : g'.tk = g.tk := by rw [← hG]; rfl
 have ef : g'.fz = g.fz := by rw [← hG]; rfl
 have en : g'.nx = g.nx + 1 := by rw [← hG]; rfl
 have eb : g'.base = g.base := by rw [← hG]; rfl
 have hne : ∀ id, id ≠ g.nx → g'.at (upd H g.nx (some (.arr sz ys))) id = g.at H id := fun id hi =>
  Hb (A3 _ _ hi) (by rw [em, if_neg hi]) (by rw [et]) (by rw [eo, if_neg hi])
 have hat : g'.at (upd H g.nx (some (.arr sz ys))) g.nx = if ys.length = 0 then none else some b := by simp only [Gh.at, A8, em, if_true]
 refine ⟨s, ⟨fun id k hk => ?_, fun id id' x h1 h2 => ?_, fun x q hf => ?_, fun id hi => ?_, ?_, fun n => (h.glb n).mono s⟩, hnx.2.2⟩
 ·by_cases hi : id = g.nx
  ·subst hi; rw [A8] at hk; cases hk
   refine ⟨b, by rw [em, if_pos rfl], ?_⟩;rw [eo, if_pos rfl];refine ⟨rfl, rfl, hz, hb.imp (fun h => h) fun ⟨c, T, k1, k2, k3, k4, k5, k6⟩ => ⟨c, T, by rw [eb]; exact k1, k2, k3, fun i j hi hj => ⟨(k4 i j hi hj).1, (k4 i j hi hj).2.mono s⟩, by rw [ef]; exact k5⟩⟩
  rw [A3 _ _ hi] at hk
  refine (h.blk id k hk).mono hk s fun x hx => ⟨hother x ?_ (h.lt hx), fun q hq => by rw [ef] at hq; exact hq⟩
  rcases hb with hb | ⟨c, T, k1, k2, k3, k4, k5, k6⟩
  ·exact .inl hb
  exact .inr fun e => k6 id (by rw [hx, e])
 ·have hx : ∀ id, g'.at (upd H g.nx (some (.arr sz ys))) g.nx = some x → g.at H id = some x → False := fun id h1 h2 => by
   rw [hat] at h1
   split at h1
   ·cases h1
   rename_i hc;cases h1
   rcases hb with hb | ⟨c, T, k1, k2, k3, k4, k5, k6⟩
   ·exact hc hb
   exact k6 id h2
  by_cases hi : id = g.nx <;> by_cases hi' : id' = g.nx
  ·rw [hi, hi']
  ·subst hi; rw [hne _ hi'] at h2; exact (hx _ h1 h2).elim
  ·subst hi'; rw [hne _ hi] at h1; exact (hx _ h2 h1).elim
  rw [hne _ hi] at h1; rw [hne _ hi'] at h2; exact h.inj _ _ _ h1 h2
 ·rw [ef] at hf
  obtain ⟨v, hv⟩ := h.frz x q hf;exact ⟨v, (hcell x q hf).trans hv⟩
 ·rw [en] at hi
  have hi' : g.nx ≤ id := Nat.le_of_succ_le hi
  have hne' : id ≠ g.nx := fun e => by subst e; exact absurd hi (Nat.not_succ_le_self _)
  obtain ⟨a1, a2, a3⟩ := h.nxt id hi';exact ⟨by rw [em, if_neg hne']; exact a1, by rw [et]; exact a2, by rw [A3 _ _ hne']; exact a3⟩
 have := h.bnd; have := hl.size; rw [eb]; omega
theorem Rl.setArr {g : Gh} {H : A0} {w : World} (h : Rl g H w) {id b sz : Nat} {xs ys : List V} {c c' : Array Value} {T : TypeId} (hk : H id = some (.arr sz xs)) (hb : g.mu id = some b) (hc0 : xs.length ≠ 0)
 (hw : w.heap[b]? = some (.cells c T (0, 0))) (hsz : c'.size = c.size) (hlo : ∀ o, o < (g.ow id).o → c'[o]? = c[o]?) (hl : ys.length = xs.length) (hz : ∀ i, i < ys.length → (ys.getD i .bad).cells.length = sz)
 (hv : ∀ i j, i < ys.length → j < sz → (c'.getD ((g.ow id).o + i * sz + j) undef).oneCell' = true ∧ VR g w (c'.getD ((g.ow id).o + i * sz + j) undef) ((ys.getD i .bad).cells.getD j .bad)) :
 M4 g w g (w.setRow b c') ∧ Rl g (upd H id (some (.arr sz ys))) (w.setRow b c') := by
 obtain ⟨b', h1, hs, h2, h4, h6⟩ := h.blk id _ hk
 have e : b' = b := by rw [hb] at h1; exact (Option.some.inj h1).symm
 subst e
 rcases h6 with h6 | ⟨c0, T0, k1, k2, k3, k4, k5⟩
 ·exact absurd h6 hc0
 rw [hw] at k2
 have e2 : c0 = c := by cases k2; rfl
 subst e2;have hrow := setRow_heap w b' c0 c' T (0, 0) hw
 have s : M4 g w g (w.setRow b' c') := by
  refine ⟨fun _ _ e => e, fun _ _ e => e, fun _ _ e => e, rfl, fun b o hf => ?_, Cs w b' c' k1, fun _ _ _ => rfl⟩
  by_cases e : b = b'
  ·subst e
   have ho : o < (g.ow id).o := by
    rcases Nat.lt_or_ge o (g.ow id).o with h | h
    ·exact h
    exact absurd hf (k5 o h)
   simp only [World.cell?, hrow, hw, Option.isSome_none, Bool.false_eq_true, if_false];exact hlo o ho
  exact W9 w b' c' b o e
 have hat : ∀ x, g.at (upd H id (some (.arr sz ys))) x = g.at H x := by
  intro x
  by_cases hx : x = id
  ·subst hx; simp only [Gh.at, A8, hk, hl]
  simp only [Gh.at, A3 _ _ hx]
 have hid : g.at H id = some b' := by simp only [Gh.at, hk, hc0, if_false, hb]
 refine ⟨s, fun x k hx => ?_, fun x x' y h1 h2 => h.inj x x' y (hat x ▸ h1) (hat x' ▸ h2), fun y o hf => ?_, fun x hx => ?_, ?_, fun n => (h.glb n).mono s⟩
 ·by_cases hxe : x = id
  ·subst hxe; rw [A8] at hx; cases hx
   exact ⟨b', hb, hs, h2.trans hl.symm, hz, .inr ⟨c', T, k1, hrow, by rw [hl]; omega, fun i j hi hj => ⟨(hv i j hi hj).1, (hv i j hi hj).2.mono s⟩, k5⟩⟩
  rw [A3 _ _ hxe] at hx
  refine (h.blk x k hx).mono hx s fun y hy => ⟨I0 w b' c' y fun e => ?_, fun _ ho => ho⟩;subst e; exact hxe (h.inj _ _ _ hy hid)
 ·obtain ⟨v, hv'⟩ := h.frz y o hf;exact ⟨v, (s.cell y o hf).trans hv'⟩
 ·obtain ⟨a1, a2, a3⟩ := h.nxt x hx
  have hne : x ≠ id := fun e => by subst e; rw [hk] at a3; cases a3
  exact ⟨a1, a2, by rw [A3 _ _ hne]; exact a3⟩
 have := h.bnd; simp [World.setRow]; omega
def G3 (xs : List V) (lo n : Int) : List V := (xs.drop lo.toNat).take n.toNat
theorem Rl.freezeArr' {g : Gh} {H : A0} {w : World} (h : Rl g H w) {id sz : Nat} {xs : List V} (hk : H id = some (.arr sz xs)) :
 ∃ g', (g'.mu = g.mu ∧ g'.tk = g.tk ∧ g'.ow = g.ow) ∧ M4 g w g' w ∧ Rl g' (upd H id none) w ∧ ∀ v lo n, VR g' w v (.own id lo n) → VR g' w v (.sl (G3 xs lo n) .ro) := by
 obtain ⟨b, h1, hs, h2, h4, h6⟩ := h.blk id _ hk
 by_cases hc : xs.length = 0
 ·have hx : xs = [] := List.length_eq_zero_iff.1 hc;refine ⟨g, ⟨rfl, rfl, rfl⟩, M4.refl _ _, h.less fun x k hx => ?_, fun v lo n hv => ?_⟩
  ·by_cases e : x = id
   ·subst e; rw [A8] at hx; cases hx
   rwa [A3 _ _ e] at hx
  subst hx
  cases hv with
  | own hm h0 h1' h2' hp =>
   rename_i p
   have e1 : lo = 0 := by simp at h2; omega
   have e2 : n = 0 := by simp at h2; omega
   subst e1; subst e2;rw [show (g.ow id).cap = 0 by simpa using h2]
   cases p with
   | none => exact .sl0 rfl
   | some a => exact .sle (.inl rfl)
 rcases h6 with h6 | ⟨c, T, k1, k2, k3, k4, k5⟩
 ·exact absurd h6 hc
 let g' : Gh := { g with fz := fun x o => g.fz x o ∨ (x = b ∧ o < c.size) }
 have s : M4 g w g' w := ⟨fun _ _ e => e, fun _ _ e => e, fun _ _ e => .inl e, rfl, fun _ _ _ => rfl, Below.refl _ _, fun _ _ _ => rfl⟩
 have hid : g.at H id = some b := by simp only [Gh.at, hk, hc, if_false, h1]
 have hcell : ∀ o, w.cell? ⟨b, o, none⟩ = c[o]? := fun o => by simp [World.cell?, k2]
 have hat : ∀ x y, g'.at (upd H id none) x = some y → x ≠ id ∧ g.at H x = some y := by
  intro x y hy
  by_cases hx : x = id
  ·subst hx; simp [Gh.at, A8] at hy
  exact ⟨hx, by simpa only [Gh.at, A3 _ _ hx] using hy⟩
 have hlt : ∀ i j, i < xs.length → j < sz → (g.ow id).o + i * sz + j < c.size := fun i j hi hj => by
  have e1 := Al (n := xs.length) hi hj;omega
 refine ⟨g', ⟨rfl, rfl, rfl⟩, s, ⟨fun x k hx => ?_, fun x x' y h1 h2 => h.inj _ _ _ (hat _ _ h1).2 (hat _ _ h2).2, fun y o hf => ?_, fun x hx => ?_, h.bnd, fun n => (h.glb n).mono s⟩, fun v lo n hv => ?_⟩
 ·have hxe : x ≠ id := fun e => by subst e; rw [A8] at hx; cases hx
  rw [A3 _ _ hxe] at hx
  refine (h.blk x k hx).mono hx s fun y hy => ⟨rfl, fun o ho => ?_⟩
  rcases ho with ho | ⟨e, _⟩
  ·exact ho
  subst e; exact absurd (h.inj _ _ _ hy hid) hxe
 ·rcases hf with hf | ⟨e, ho⟩
  ·exact h.frz y o hf
  subst e; exact ⟨c[o], by rw [hcell]; simp [ho]⟩
 ·obtain ⟨a1, a2, a3⟩ := h.nxt x hx
  have hne : x ≠ id := fun e => by subst e; rw [hk] at a3; cases a3
  exact ⟨a1, a2, by rw [A3 _ _ hne]; exact a3⟩
 have hsub : ∀ i, i < n.toNat → (G3 xs lo n).getD i .bad = xs.getD (lo.toNat + i) .bad := fun i hi => by
  simp only [G3, List.getD_eq_getElem?_getD, List.getElem?_take, List.getElem?_drop, if_pos hi]
 cases hv with
 | own hm h0 h1' h2' hp =>
  rename_i b' p;have hm' : g.mu id = some b' := hm
  rw [h1] at hm'; cases hm'
  have h2'' : lo + n ≤ ((g.ow id).cap : Nat) := h2'
  have hsl : (G3 xs lo n).length = n.toNat := by simp [G3]; omega
  show VR g' w (.slice p n.toNat ((g.ow id).cap - lo.toNat)) _
  by_cases hn : n = 0
  ·subst hn
   have e0 : G3 xs lo 0 = [] := by simp [G3]
   rw [e0]
   cases p with
   | none =>
    have : ¬ (lo < ((g.ow id).cap : Nat)) := fun hlt => by have := hp hlt; cases this
    rw [show (g.ow id).cap - lo.toNat = 0 by omega];exact .sl0 rfl
   | some a => exact .sle (.inl rfl)
  have hlt2 : lo < ((g.ow id).cap : Nat) := by omega
  have hpe := hp hlt2;rw [hpe];have hpe' : (g'.ow id) = g.ow id := rfl;rw [hpe', hs]
  refine .sl (sz := sz) (fun i j => c.getD ((g.ow id).o + (lo.toNat + i) * sz + j) undef) hsl (by omega) (fun i hi => by rw [hsub i hi]; exact h4 _ (by omega)) (fun i j hi hj => ?_) (fun i j hi hj => ?_)
   (fun i j hi hj => (k4 _ j (by omega) hj).1) (fun i j hi hj => by rw [hsub i hi]; exact (k4 _ j (by omega) hj).2.mono s) trivial
  ·have := hlt (lo.toNat + i) j (by omega) hj
   rw [Nat.add_mul] at this
   exact .inr ⟨rfl, by omega⟩
  rw [hcell];have := hlt (lo.toNat + i) j (by omega) hj
  rw [Nat.add_mul] at this ⊢
  rw [show (g.ow id).o + lo.toNat * sz + i * sz + j = (g.ow id).o + (lo.toNat * sz + i * sz) + j by omega];simp [Array.getD, show (g.ow id).o + (lo.toNat * sz + i * sz) + j < c.size by omega]
theorem Rl.freezeArr {g : Gh} {H : A0} {w : World} (h : Rl g H w) {id sz : Nat} {xs : List V} (hk : H id = some (.arr sz xs)) :
 ∃ g', M4 g w g' w ∧ Rl g' (upd H id none) w ∧ ∀ v lo n, VR g' w v (.own id lo n) → VR g' w v (.sl (G3 xs lo n) .ro) :=
 let ⟨g', _, h⟩ := h.freezeArr' hk; ⟨g', h⟩
end Go.Ab
