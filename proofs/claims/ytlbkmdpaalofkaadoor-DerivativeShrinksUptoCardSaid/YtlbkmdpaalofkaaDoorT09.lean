/- A part of the proof: AbA13 AbA14 AbA15. -/
import Derived.Test.YtlbkmdpaalofkaaDoorT08
import Derived.RangeFuncRecord
import Derived.OrdersIn
set_option linter.unusedVariables false
set_option linter.unusedSimpArgs false
set_option linter.unusedSectionVars false

/- Named objects that are no cells (the records of loops over functions, the blocks for deferred calls); a function's contract out of its code. -/
namespace Go.Ab
open Go.RowKit
variable [Glob]

theorem cell_putObj {w : World} {b : Nat} {o o' : Obj} (hw : w.heap[b]? = some o) (hc : Obj.isCells o = false) (hc' : Obj.isCells o' = false) (x i : Nat) : (w.putObj b o').cell? ⟨x, i, none⟩ = w.cell? ⟨x, i, none⟩ := by
  by_cases h : x = b
  · subst h
    have h1 := World.putObj_heap_same (w := w) (o := o') (mem_lt hw)
    simp only [World.cell?, h1, hw]
    cases o <;> cases o' <;> simp_all [Obj.isCells]
  · exact World.cell?_of_block (w := w) (a := ⟨x, i, none⟩) (World.putObj_heap_other h)

theorem Rl.putObj {g : Gh} {H : Heap} {w : World} (h : Rl g H w) {id b : Nat} {o o' : Obj} (hk : H id = some (.obj o)) (hb : g.mu id = some b) (hc' : Obj.isCells o' = false) :
    Stp g w g (w.putObj b o') ∧ Rl g (upd H id (some (.obj o'))) (w.putObj b o') := by
  obtain ⟨b', h1, h2, h3, h4⟩ := h.blk id _ hk
  have e : b' = b := by rw [hb] at h1; exact (Option.some.inj h1).symm
  subst e
  have hcell := cell_putObj (o' := o') h3 h4 hc'
  have s : Stp g w g (w.putObj b' o') := by
    refine ⟨fun _ _ e => e, fun _ _ e => e, fun _ _ e => e, rfl, fun b o _ => hcell b o, ⟨rfl, rfl, rfl, by simp, fun k hk => World.putObj_heap_other (by omega)⟩, fun _ _ _ => rfl⟩
  have hat : ∀ x, g.at (upd H id (some (.obj o'))) x = g.at H x := by
    intro x
    by_cases hx : x = id
    · subst hx; simp [Gh.at, upd_same, hk]
    · simp only [Gh.at, upd_other _ _ hx]
  have hid : g.at H id = some b' := by simp [Gh.at, hk, hb]
  refine ⟨s, fun x k hx => ?_, fun x x' y h1 h2 => h.inj x x' y (hat x ▸ h1) (hat x' ▸ h2), fun y o hf => ?_, fun x hx => ?_, ?_, fun n => (h.glb n).mono s⟩
  · by_cases hxe : x = id
    · subst hxe; rw [upd_same] at hx; cases hx
      exact ⟨b', hb, h2, World.putObj_heap_same (mem_lt h3), hc'⟩
    · rw [upd_other _ _ hxe] at hx
      refine (h.blk x k hx).mono hx s fun y hy => ⟨World.putObj_heap_other fun e => ?_, fun _ ho => ho⟩
      subst e; exact hxe (h.inj _ _ _ hy hid)
  · obtain ⟨v, hv'⟩ := h.frz y o hf
    exact ⟨v, (hcell y o).trans hv'⟩
  · obtain ⟨a1, a2, a3⟩ := h.nxt x hx
    have hne : x ≠ id := fun e => by subst e; rw [hk] at a3; cases a3
    exact ⟨a1, a2, by rw [upd_other _ _ hne]; exact a3⟩
  · have := h.bnd; simp; omega

def resList (P : Program) (fr : Fr) (H : Heap) : List ResultVar → Option (List V)
  | [] => some []
  | .tmp t :: r => (resList P fr H r).map (fr.s t :: ·)
  | .cell a t :: r =>
    match loadV P H t (fr.s a), resList P fr H r with
    | some v, some l => some (v :: l)
    | _, _ => none

def oneOf : List V → V
  | [x] => x
  | l => .tup l

def dfOk (H : Heap) (df : List Nat) : Prop := df.Nodup ∧ ∀ id ∈ df, H id = some (.obj (.deferred (some [])))
def clear (H : Heap) (df : List Nat) : Heap := fun x => if x ∈ df then none else H x

section
variable {P : Program}

theorem load_run {g : Gh} {w : World} {H : Heap} (hR : Rl g H w) {t : TypeId} {v : Value} {X x : V} (hv : VR g w v X) (hl : loadV P H t X = some x) :
    ∃ b q u, v = .pointer (some ⟨b, q, none⟩) ∧ (loadVar t ⟨b, q, none⟩).run P w = .ok u w ∧ VR g w u x := by
  unfold loadV at hl
  split at hl
  · rename_i ag sz cs off ha hs
    cases hv with
    | eref vs hf hw h1 hvv =>
      rename_i b q
      obtain ⟨u, hu, hr⟩ := load_cells (P := P) (g := g) (w := w) (b := b) (q := q) (cs := cs) (fun j hj => ⟨vs j, hw j hj, h1 j hj, hvv j hj⟩) ha hs hl
      exact ⟨b, q + off, u, rfl, hu, hr⟩
  · rename_i ag sz id off ha hs
    cases hv with
    | ref hm =>
      rename_i b
      split at hl
      · rename_i cs hk
        obtain ⟨u, hu, hr⟩ := load_cells (P := P) (cellsAt_ref hR hk hm) ha hs hl
        rw [Nat.zero_add] at hu
        exact ⟨b, off, u, rfl, hu, hr⟩
      · cases hl
  · cases hl

theorem resList_run {nt : Nat} {g : Gh} {w : World} {H : Heap} {a : Act} {fr : Fr} (hR : Rl g H w) (hE : ER g w a fr) : ∀ (rs : List ResultVar) (l : List V), resList P fr H rs = some l →
    ∃ vs : List Value, (rs.mapM (m := Sem) fun | .tmp t => pure (a.tmps.getD t undef) | .cell x t => do loadVar t (← asAddr (a.tmps.getD x undef))).run P w = .ok vs w ∧ vs.length = l.length ∧
      ∀ i, i < l.length → VR g w (vs.getD i undef) (l.getD i .bad)
  | [], l, h => by simp only [resList, Option.some.injEq] at h; subst h; exact ⟨[], rfl, rfl, fun i hi => by simp at hi⟩
  | .tmp t :: r, l, h => by
    simp only [resList] at h
    cases hr : resList P fr H r with
    | none => simp [hr] at h
    | some l' =>
      simp only [hr, Option.map_some, Option.some.injEq] at h
      subst h
      obtain ⟨vs, h1, h2, h3⟩ := resList_run (nt := nt) hR hE r l' hr
      refine ⟨a.tmps.getD t undef :: vs, ?_, by simp [h2], fun i hi => ?_⟩
      · simp only [List.mapM_cons, Sem.run_bind, Sem.run_pure, Result.andThen_ok, h1]
      · cases i with
        | zero => exact hE t
        | succ i => exact h3 i (by simpa using hi)
  | .cell x t :: r, l, h => by
    simp only [resList] at h
    split at h
    · rename_i v l' hv hr
      cases h
      obtain ⟨vs, h1, h2, h3⟩ := resList_run (nt := nt) hR hE r l' hr
      obtain ⟨b, q, u, e1, e2, e3⟩ := load_run hR (hE x) hv
      refine ⟨u :: vs, ?_, by simp [h2], fun i hi => ?_⟩
      · have ea : (asAddr (.pointer (some ⟨b, q, none⟩))).run P w = .ok ⟨b, q, none⟩ w := rfl
        simp only [List.mapM_cons, e1, ea, Sem.run_bind, Sem.run_pure, Result.andThen_ok, e2, h1]
      · cases i with
        | zero => exact e3
        | succ i => exact h3 i (by simpa using hi)
    · cases h

theorem results_run {nt : Nat} {g : Gh} {w : World} {H : Heap} {a : Act} {fr : Fr} {fn : Func} (hR : Rl g H w) (hE : ER g w a fr) {l : List V} (h : resList P fr H fn.results.toList = some l) :
    ∃ v, (results fn a.tmps).run P w = .ok v w ∧ VR g w v (oneOf l) := by
  obtain ⟨vs, h1, h2, h3⟩ := resList_run (nt := nt) hR hE _ _ h
  have hm : (results fn a.tmps).run P w = .ok (if h : vs.toArray.size = 1 then vs.toArray[0] else .tuple vs.toArray) w := by
    unfold results
    rw [Array.mapM_eq_mapM_toList]
    simp only [Sem.run_bind, Sem.run_map]
    erw [h1]
    rfl
  refine ⟨_, hm, ?_⟩
  match l, vs, h2, h3 with
  | [x], [v], _, h3 => exact h3 0 (by simp)
  | [], [], _, _ => exact .tup rfl fun i hi => by simp at hi
  | x :: y :: l, u :: v :: vs, h2, h3 =>
    simp only [List.size_toArray, List.length_cons, oneOf]
    rw [dif_neg (by omega)]
    refine .tup (by simpa using h2) fun i hi => ?_
    have := h3 i hi
    simpa [Array.getD_eq_getD_getElem?, List.getD_eq_getElem?_getD] using this

theorem clear_mono {H : Heap} {df : List Nat} {id : Nat} {b : Blk} (h : clear H df id = some b) : H id = some b ∧ id ∉ df := by
  unfold clear at h
  split at h
  · cases h
  · rename_i hn; exact ⟨h, hn⟩

theorem leaves_df {nt : Nat} {fn : Func} {a : Act} {R : Ending → World → Prop} {g : Gh} {fr : Fr} {l : List V} : ∀ (df : List Nat) (bs : List Nat) (H : Heap) (w : World), Rl g H w → ER g w a fr → bs.length = df.length →
    (∀ i, i < bs.length → g.mu (df.getD i 0) = some (bs.getD i 0)) → dfOk H df → resList P fr (clear H df) fn.results.toList = some l →
    (∀ w' v, Stp g w g w' → Rl g (clear H df) w' → VR g w' v (oneOf l) → R (.returned v) w') →
    LeavesInM Fence.wide 0 P fn a.tmps R (bs.map fun b => { target := .collected b, args := #[] }) .returning w
  | [], [], H, w, hR, hE, _, _, _, hl, hr => by
    have hcl : clear H [] = H := by funext x; simp [clear]
    rw [hcl] at hl hr
    obtain ⟨v, h1, h2⟩ := results_run (nt := nt) hR hE hl
    exact ⟨v, h1, hr w v (Stp.refl _ _) hR h2⟩
  | id :: df, b :: bs, H, w, hR, hE, hlen, hmu, hdf, hl, hr => by
    have hb : g.mu id = some b := hmu 0 (by simp)
    have hk := hdf.2 id (by simp)
    have hnd := List.nodup_cons.1 hdf.1
    obtain ⟨s, hR'⟩ := hR.putObj (o' := .deferred none) hk hb rfl
    obtain ⟨b', h1, h2, h3, h4⟩ := hR.blk id _ hk
    rw [hb] at h1; cases h1
    refine ⟨by simp, .inl ⟨b, w.putObj b (.deferred none), rfl, run_takeDeferred h3, ?_⟩⟩
    have hlt : ∀ id' b', (upd H id none) id' = some b' → (upd H id (some (.obj (.deferred none)))) id' = some b' := by
      intro id' b' h
      by_cases e : id' = id
      · subst e; rw [upd_same] at h; cases h
      · rw [upd_other _ _ e] at h ⊢; exact h
    have hcl : clear (upd H id none) df = clear H (id :: df) := by
      funext x
      simp only [clear, upd, List.mem_cons]
      by_cases e : x = id
      · subst e; simp
      · simp [e]
    refine leaves_df (nt := nt) df bs (upd H id none) (w.putObj b (.deferred none)) (hR'.less hlt) (hE.mono s) (by simpa using hlen) (fun i hi => ?_) ⟨hnd.2, fun id' hi' => ?_⟩ (by rw [hcl]; exact hl) fun w' v s' hR2 hv => ?_
    · have := hmu (i + 1) (by simpa using hi)
      simpa using this
    · have hne : id' ≠ id := fun e => by subst e; exact hnd.1 hi'
      rw [upd_other _ _ hne]; exact hdf.2 id' (by simp [hi'])
    · rw [hcl] at hR2
      exact hr w' v (s.trans s') hR2 hv
  | [], _ :: _, _, _, _, _, h, _, _, _, _ => by simp at h
  | _ :: _, [], _, _, _, _, h, _, _, _, _ => by simp at h

/-- What is asked at a function's end. -/
def Ret (P : Program) (fn : Func) (K : V → Heap → Prop) (e : Exit) (fr : Fr) (H : Heap) : Prop :=
  (e = .normal ∨ e = .ret) ∧ dfOk H fr.df ∧ ∃ l, resList P fr (clear H fr.df) fn.results.toList = some l ∧ K (oneOf l) (clear H fr.df)

def entry (args : List V) : Fr := ⟨fun t => args.getD t .bad, []⟩

theorem callA_of_code {f : FuncId} {fn : Func} {c : Code} {args : List V} {H : Heap} {K : V → Heap → Prop} (hf : P.funcs[f]? = some fn) (hb : fn.body = some c) (hcall : ∀ vals w, (callFunc f vals).run P w = .ok (.enter f vals) w)
    (hn : args.length ≤ fn.ntmps) (h : Sim P fn.ntmps none c (entry args) H (Ret P fn K)) : CallA P f args H K := by
  intro g w vals hR hA
  rw [hcall]
  show CallsIn Fence.wide 0 P f vals w _
  refine callsIn_of_wp_marks hf hb trivial ?_
  have hF : FR fn.ntmps g w { tmps := vals ++ Array.replicate (fn.ntmps - vals.size) undef, defers := [] } (entry args) := by
    refine ⟨by have := hA.1; simp; omega, fun t => ?_, ⟨[], rfl, fun i hi => by simp at hi, rfl⟩⟩
    by_cases ht : t < args.length
    · have e : (vals ++ Array.replicate (fn.ntmps - vals.size) undef).getD t undef = vals.getD t undef := by
        simp only [Array.getD_eq_getD_getElem?, Array.getElem?_append, hA.1, if_pos ht]
      simp only [e]
      exact hA.2 t ht
    · have : (entry args).s t = .bad := by simp [entry, List.getD, List.getElem?_eq_none (Nat.le_of_not_lt ht)]
      rw [this]; exact .bad _
  refine wpIn_mono (h none g w _ rfl hR hF) fun e a' w' ⟨g', fr', H', s, hR', hF', he, hdf, l, hl, hK⟩ => ?_
  obtain ⟨bs, k1, k2, k3⟩ := hF'.df
  have key := leaves_df (P := P) (nt := fn.ntmps) (fn := fn) (a := a') (R := fun e w' => ∃ v, e = .returned v ∧ Post g w K v w') fr'.df bs H' w' hR' hF'.s k1 k2 hdf hl fun w2 v s2 hR2 hv => ⟨v, rfl, g', _, _, s.trans s2, hR2, hv, hK⟩
  rw [← k3] at key
  rcases he with rfl | rfl
  · exact key
  · exact key

/-- A pure function's contract out of its code. -/
theorem callP_of_code {f : FuncId} {fn : Func} {c : Code} {args : List V} {r : V} (hf : P.funcs[f]? = some fn) (hb : fn.body = some c) (hcall : ∀ vals w, (callFunc f vals).run P w = .ok (.enter f vals) w) (hn : args.length ≤ fn.ntmps)
    (h : ∀ H, Sim P fn.ntmps none c (entry args) H (Ret P fn fun x H' => x = r ∧ H' = H)) : CallP P f args r := fun H => callA_of_code hf hb hcall hn (h H)

end
end Go.Ab

/- Regions that draw their order: a body of quiet operations, new variables and their first stores, in whatever order the edges allow; then a tail that comes behind all before it. -/
namespace Go.Ab
open Go.RowKit
variable [Glob]

def isAlloc : Op → Bool
  | .alloc _ => true
  | _ => false
def isStore : Op → Bool
  | .store _ _ _ => true
  | _ => false

def edgeTo (o : Oper) (j : Nat) : Bool := o.after.any fun e => e.on == j && Region.binds .any e
def backward (o : Oper) (i : Nat) : Bool := o.after.all fun e => !Region.binds .any e || e.on < i
def indep (ops : Array Oper) (x y : Oper) : Bool := x.apart ops y && !(isStore x.op && isStore y.op)

/-- Operation i comes behind operation j, by way of at most n others. -/
def reach (ops : Array Oper) : Nat → Nat → Nat → Bool
  | 0, i, j => edgeTo (ops.getD i default) j
  | n + 1, i, j => edgeTo (ops.getD i default) j || (ops.getD i default).after.any fun e => Region.binds .any e && (Nat.blt j e.on && reach ops n e.on j)

/-- How long a way is looked for. -/
def rdep : Nat := 8

/-- What is asked of the region's own text: k operations are the body. -/
def drawOk (ops : Array Oper) (k : Nat) : Bool :=
  k ≤ ops.size && (List.range ops.size).all fun i =>
    backward (ops.getD i default) i &&
      (List.range i).all fun j => reach ops rdep i j || (i < k && indep ops (ops.getD j default) (ops.getD i default))

section
variable {P : Program} {nt : Nat} {ops : Array Oper} {H0 : Heap}

theorem list_map_congr {α β : Type} {f g : α → β} : ∀ {l : List α}, (∀ x ∈ l, f x = g x) → l.map f = l.map g
  | [], _ => rfl
  | x :: l, h => by rw [List.map_cons, List.map_cons, h x (by simp), list_map_congr fun y hy => h y (by simp [hy])]

theorem opt_map_congr {α β : Type} {f g : α → β} : ∀ {l : Option α}, (∀ x ∈ l, f x = g x) → l.map f = l.map g
  | none, _ => rfl
  | some x, h => by rw [Option.map_some, Option.map_some, h x rfl]

theorem opQ_congr {o : Oper} {ρ ρ' : Operand → V} {H : Heap} {v : V} (hρ : ∀ x ∈ o.op.operands, ρ x = ρ' x) (h : opQ P o ρ H v) : opQ P o ρ' H v := by
  unfold opQ at h ⊢
  cases ho : o.op <;> simp only [ho] at h ⊢ hρ <;> first
    | exact h.elim
    | (simp only [Op.operands, List.mem_toArray, List.mem_cons, List.not_mem_nil, or_false, forall_eq_or_imp, forall_eq] at hρ
       first
        | (rw [← hρ]; exact h)
        | (rw [← hρ.1, ← hρ.2]; exact h)
        | (rw [← hρ.1, ← hρ.2.1, ← hρ.2.2]; exact h))
    | skip
  · -- build
    rename_i t ps
    rw [← list_map_congr (l := ps.toList) (f := fun p => (p.1, ρ p.2)) (g := fun p => (p.1, ρ' p.2)) fun p hp => by rw [hρ p.2 (by simp only [Op.operands, List.mem_toArray, List.mem_map]; exact ⟨p, hp, rfl⟩)]]
    exact h
  · rename_i t n ps
    rw [← list_map_congr (l := ps.toList) (f := fun p => (p.1, ρ p.2)) (g := fun p => (p.1, ρ' p.2)) fun p hp => by rw [hρ p.2 (by simp only [Op.operands, List.mem_toArray, List.mem_map]; exact ⟨p, hp, rfl⟩)]]
    exact h
  · rename_i fn fs cs
    rw [← list_map_congr (l := fs.toList) (f := ρ) (g := ρ') fun p hp => hρ p (by simp only [Op.operands, Array.mem_append]; exact .inl (by simpa using hp)),
      ← list_map_congr (l := cs.toList) (f := ρ) (g := ρ') fun p hp => hρ p (by simp only [Op.operands, Array.mem_append]; exact .inr (by simpa using hp))]
    exact h
  · rename_i t x lo hi mx
    rw [← hρ x (by simp [Op.operands]), ← opt_map_congr (l := lo) (f := ρ) (g := ρ') fun p hp => hρ p (by simp [Op.operands, Option.mem_def.1 hp]),
      ← opt_map_congr (l := hi) (f := ρ) (g := ρ') fun p hp => hρ p (by simp [Op.operands, Option.mem_def.1 hp]), ← opt_map_congr (l := mx) (f := ρ) (g := ρ') fun p hp => hρ p (by simp [Op.operands, Option.mem_def.1 hp])]
    exact h
  · rename_i c
    have hargs : c.args.toList.map ρ = c.args.toList.map ρ' := list_map_congr fun p hp => hρ p (by simp only [Op.operands, Call.operands, Array.mem_append]; exact .inr (by simpa using hp))
    rw [← hargs]
    cases hc : c.callee <;> simp only [hc] at h ⊢
    · rename_i f
      rw [← hρ f (by simp [Op.operands, Call.operands, hc])]; exact h
    · exact h

theorem ev_put {fr : Fr} {d : Option Tmp} {v : V} {x : Operand} (h : ∀ t, d = some t → x ≠ .tmp t) : ev (fr.put d v) x = ev fr x := by
  cases d with
  | none => rfl
  | some d =>
    cases x with
    | tmp t =>
      have hne : t ≠ d := fun e => h d rfl (by rw [e])
      simp [ev, Fr.put, hne]
    | _ => rfl

theorem looks_ev {fr : Fr} {d : Option Tmp} {v : V} {y : Oper} (h : ∀ t, d = some t → t ∉ y.looksAt ops) : ∀ x ∈ y.op.operands, ev (fr.put d v) x = ev fr x := by
  intro x hx
  refine ev_put fun t ht e => h t ht ?_
  subst e
  exact List.mem_append_left _ (List.mem_filterMap.2 ⟨.tmp t, by simpa using hx, rfl⟩)

theorem looks_guard {fr : Fr} {d : Option Tmp} {v : V} {y : Oper} (h : ∀ t, d = some t → t ∉ y.looksAt ops) : guardV ops (fr.put d v) y = guardV ops fr y := by
  unfold guardV
  cases hg : y.guard with
  | none => rfl
  | some p =>
    obtain ⟨j, want⟩ := p
    dsimp only
    cases hd : (ops[j]?).bind (·.dst) with
    | none => rfl
    | some t =>
      have hne : ∀ d', d = some d' → t ≠ d' := by
        intro d' e1 e2
        subst e2
        refine h t e1 (List.mem_append_right _ ?_)
        simp [hg, hd]
      cases d with
      | none => rfl
      | some d =>
        have := hne d rfl
        simp [Fr.put, this]

theorem put_comm {fr : Fr} {d e : Option Tmp} {v u : V} (h : ∀ t, d = some t → e ≠ some t) : (fr.put d v).put e u = (fr.put e u).put d v := by
  cases d with
  | none => rfl
  | some d =>
    cases e with
    | none => rfl
    | some e =>
      have hne : d ≠ e := fun x => h d rfl (by rw [x])
      simp only [Fr.put, Fr.mk.injEq, and_true]
      funext t
      by_cases h1 : t = d
      · subst h1; simp [hne]
      · simp [h1]

theorem upd_comm (H : Heap) {a b : Nat} (x y : Option Blk) (h : a ≠ b) : upd (upd H a x) b y = upd (upd H b y) a x := by
  funext t
  simp only [upd]
  by_cases h1 : t = a
  · subst h1; simp [h]
  · simp [h1]

end
end Go.Ab

/- The body of a region that draws its order: its steps commute. -/
namespace Go.Ab
open Go.RowKit
variable [Glob]

/-- What the region's own new variables hold (by their slots), and blocks that its body writes (by their names). -/
abbrev Pk := Nat ⊕ Nat
abbrev Pv := Pk → Option (List V)
def pvSet (pv : Pv) (d : Pk) (cs : List V) : Pv := fun x => if x = d then some cs else pv x

/-- No new variable's slot is written over. -/
def dstFree (pv : Pv) : Option Tmp → Prop
  | some d => pv (.inl d) = none
  | none => True

theorem dstFree_unset {pv : Pv} {d : Pk} {cs : List V} {D : Option Tmp} (h : dstFree (pvSet pv d cs) D) : dstFree pv D := by
  cases D with
  | none => trivial
  | some e =>
    simp only [dstFree, pvSet] at h ⊢
    split at h
    · cases h
    · exact h
theorem dstFree_set {pv : Pv} {d : Pk} {cs : List V} {D : Option Tmp} (h : dstFree pv D) (hn : ∀ e, D = some e → d ≠ .inl e) : dstFree (pvSet pv d cs) D := by
  cases D with
  | none => trivial
  | some e =>
    have : (Sum.inl e : Pk) ≠ d := fun x => hn e rfl x.symm
    simp only [dstFree, pvSet, if_neg this] at h ⊢
    exact h

/-- Where a store through slot d goes. -/
def Tgt (fr : Fr) (pv : Pv) (d : Nat) (k : Pk) (off : Nat) (cs : List V) : Prop :=
  (k = .inl d ∧ off = 0 ∧ pv (.inl d) = some cs) ∨ ∃ id, k = .inr id ∧ fr.s d = .ref id off ∧ pv (.inl d) = none ∧ pv (.inr id) = some cs

theorem Tgt.at {fr : Fr} {pv : Pv} {d off : Nat} {k : Pk} {cs : List V} (h : Tgt fr pv d k off cs) : pv k = some cs := by
  rcases h with ⟨rfl, _, h⟩ | ⟨id, rfl, _, _, h⟩ <;> exact h
theorem Tgt.put {fr : Fr} {pv : Pv} {d off : Nat} {k : Pk} {cs : List V} {D : Option Tmp} {v : V} (hn : ∀ e, D = some e → d ≠ e) : Tgt (fr.put D v) pv d k off cs ↔ Tgt fr pv d k off cs := by
  have : (fr.put D v).s d = fr.s d := by
    cases D with
    | none => rfl
    | some e => simp [Fr.put, hn e rfl]
  unfold Tgt
  rw [this]
theorem Tgt.set {fr : Fr} {pv : Pv} {d off : Nat} {k : Pk} {cs : List V} {e : Nat} {c : List V} (hn : d ≠ e) : Tgt fr (pvSet pv (.inl e) c) d k off cs ↔ Tgt fr pv d k off cs := by
  unfold Tgt pvSet
  simp only [Sum.inl.injEq, if_neg hn, reduceCtorEq, if_false]

section
variable {P : Program} {nt : Nat} {ops : Array Oper} {H0 : Heap}

def QStep (P : Program) (ops : Array Oper) (H0 : Heap) (o : Oper) (fr : Fr) (v : V) : Prop :=
  match guardV ops fr o with
  | some true => opQ P o (ev fr) H0 v
  | some false => v = .tup []
  | none => False

/-- One step of the body; quiet operations look at the heap H0 with which the region begins. -/
def drawS (P : Program) (nt : Nat) (ops : Array Oper) (H0 : Heap) (o : Oper) (fr : Fr) (pv : Pv) (K : Fr → Pv → Prop) : Prop :=
  (dstOk nt o.dst = true ∧ dstFree pv o.dst) ∧
    match o.op with
    | .alloc t => o.guard = none ∧ ∃ z d, o.dst = some d ∧ zeO P t = some z ∧ z.one = true ∧ K (fr.put o.dst .bad) (pvSet pv (.inl d) z.cells)
    | .store t x y =>
      match x with
      | .tmp d => o.guard = none ∧ ∃ k off cs, Tgt fr pv d k off cs ∧ (ev fr y).one = true ∧ szO P t = some (ev fr y).cells.length ∧ off + (ev fr y).cells.length ≤ cs.length ∧ K (fr.put o.dst .bad) (pvSet pv k (splice cs off (ev fr y).cells))
      | _ => False
    | _ => ∃ v, QStep P ops H0 o fr v ∧ K (fr.put o.dst v) pv

def drawB (P : Program) (nt : Nat) (ops : Array Oper) (H0 : Heap) : List Oper → Fr → Pv → (Fr → Pv → Prop) → Prop
  | [], fr, pv, K => K fr pv
  | o :: rest, fr, pv, K => drawS P nt ops H0 o fr pv fun fr' pv' => drawB P nt ops H0 rest fr' pv' K

theorem drawS_mono {o : Oper} {fr : Fr} {pv : Pv} {K K' : Fr → Pv → Prop} (h : drawS P nt ops H0 o fr pv K) (hk : ∀ fr pv, K fr pv → K' fr pv) : drawS P nt ops H0 o fr pv K' := by
  unfold drawS at h ⊢
  refine ⟨h.1, ?_⟩
  cases ho : o.op <;> simp only [ho] at h ⊢ <;> first
    | (obtain ⟨_, v, h1, h2⟩ := h; exact ⟨v, h1, hk _ _ h2⟩)
    | (obtain ⟨_, hg, z, d, h1, h2, h3, h4⟩ := h; exact ⟨hg, z, d, h1, h2, h3, hk _ _ h4⟩)
    | skip
  rename_i t x y
  cases x <;> simp only at h ⊢
  · obtain ⟨_, hg, k, off, cs, h1, h2, h3, h4, h5⟩ := h; exact ⟨hg, k, off, cs, h1, h2, h3, h4, hk _ _ h5⟩
  · exact h.2
  · exact h.2
  · exact h.2

theorem drawS_other {o : Oper} {fr : Fr} {pv : Pv} {K : Fr → Pv → Prop} (h1 : isAlloc o.op = false) (h2 : isStore o.op = false) :
    drawS P nt ops H0 o fr pv K ↔ (dstOk nt o.dst = true ∧ dstFree pv o.dst) ∧ ∃ v, QStep P ops H0 o fr v ∧ K (fr.put o.dst v) pv := by
  unfold drawS
  cases ho : o.op <;> first | (simp [ho, isAlloc] at h1; done) | (simp [ho, isStore] at h2; done) | exact Iff.rfl

theorem kinds (o : Oper) : (∃ t, o.op = .alloc t) ∨ (∃ t x y, o.op = .store t x y) ∨ (isAlloc o.op = false ∧ isStore o.op = false) := by
  cases o.op <;> simp [isAlloc, isStore]

theorem QStep_put {o : Oper} {fr : Fr} {d : Option Tmp} {u v : V} (hl : ∀ t, d = some t → t ∉ o.looksAt ops) : QStep P ops H0 o (fr.put d u) v ↔ QStep P ops H0 o fr v := by
  unfold QStep
  rw [looks_guard hl]
  have he := looks_ev (fr := fr) (v := u) hl
  split
  · exact ⟨opQ_congr fun x hx => he x hx, opQ_congr fun x hx => (he x hx).symm⟩
  · exact Iff.rfl
  · exact Iff.rfl

theorem pvSet_comm (pv : Pv) {a b : Pk} (x y : List V) (h : a ≠ b) : pvSet (pvSet pv a x) b y = pvSet (pvSet pv b y) a x := by
  funext t
  simp only [pvSet]
  by_cases h1 : t = a
  · subst h1; simp [h]
  · simp [h1]

/-- A step as a triple: what it puts into its slot, what it does to the variables. -/
theorem drawS_step {o : Oper} {fr : Fr} {pv : Pv} {K : Fr → Pv → Prop} : drawS P nt ops H0 o fr pv K ↔
    (dstOk nt o.dst = true ∧ dstFree pv o.dst) ∧ ((isAlloc o.op = false ∧ isStore o.op = false ∧ ∃ v, QStep P ops H0 o fr v ∧ K (fr.put o.dst v) pv) ∨
      (∃ t z d, o.op = .alloc t ∧ o.guard = none ∧ o.dst = some d ∧ zeO P t = some z ∧ z.one = true ∧ K (fr.put o.dst .bad) (pvSet pv (.inl d) z.cells)) ∨
      ∃ t d y k off cs, o.op = .store t (.tmp d) y ∧ o.guard = none ∧ Tgt fr pv d k off cs ∧ (ev fr y).one = true ∧ szO P t = some (ev fr y).cells.length ∧ off + (ev fr y).cells.length ≤ cs.length ∧
        K (fr.put o.dst .bad) (pvSet pv k (splice cs off (ev fr y).cells))) := by
  rcases kinds o with ⟨t, ho⟩ | ⟨t, x, y, ho⟩ | ⟨h1, h2⟩
  · constructor
    · intro h
      simp only [drawS, ho] at h
      obtain ⟨hd, hg, z, d, k1, k2, k3, k4⟩ := h
      exact ⟨hd, .inr (.inl ⟨t, z, d, ho, hg, k1, k2, k3, k4⟩)⟩
    · rintro ⟨hd, ⟨h1, _⟩ | ⟨t', z, d, ho', hg, k1, k2, k3, k4⟩ | ⟨t', d, y, k, off, cs, ho', _⟩⟩
      · simp [ho, isAlloc] at h1
      · rw [ho] at ho'; cases ho'
        simp only [drawS, ho]
        exact ⟨hd, hg, z, d, k1, k2, k3, k4⟩
      · rw [ho] at ho'; cases ho'
  · constructor
    · intro h
      simp only [drawS, ho] at h
      obtain ⟨hd, h⟩ := h
      cases x <;> simp only at h
      obtain ⟨hg, k, off, cs, k1, k2, k3, k4, k5⟩ := h
      exact ⟨hd, .inr (.inr ⟨t, _, y, k, off, cs, ho, hg, k1, k2, k3, k4, k5⟩)⟩
    · rintro ⟨hd, ⟨_, h1, _⟩ | ⟨t', z, d, ho', _⟩ | ⟨t', d, y', k, off, cs, ho', hg, k1, k2, k3, k4, k5⟩⟩
      · simp [ho, isStore] at h1
      · rw [ho] at ho'; cases ho'
      · rw [ho] at ho'; cases ho'
        simp only [drawS, ho]
        exact ⟨hd, hg, k, off, cs, k1, k2, k3, k4, k5⟩
  · rw [drawS_other h1 h2]
    constructor
    · rintro ⟨hd, h⟩; exact ⟨hd, .inl ⟨h1, h2, h⟩⟩
    · rintro ⟨hd, ⟨_, _, h⟩ | ⟨t', z, d, ho', _⟩ | ⟨t', d, y, k, off, cs, ho', _⟩⟩
      · exact ⟨hd, h⟩
      · simp [ho', isAlloc] at h1
      · simp [ho', isStore] at h2

theorem drawS_swap {x y : Oper} {fr : Fr} {pv : Pv} {K : Fr → Pv → Prop} (hi : indep ops x y = true) (h : drawS P nt ops H0 x fr pv fun fr1 pv1 => drawS P nt ops H0 y fr1 pv1 K) :
    drawS P nt ops H0 y fr pv fun fr1 pv1 => drawS P nt ops H0 x fr1 pv1 K := by
  simp only [indep, Bool.and_eq_true, Bool.not_eq_true'] at hi
  obtain ⟨hap, hss⟩ := hi
  obtain ⟨a1, a2, a3⟩ := Oper.apart_spec hap
  have pc : ∀ v u, (fr.put x.dst v).put y.dst u = (fr.put y.dst u).put x.dst v := fun v u => put_comm a2
  have oper : ∀ {o : Oper} {t : TypeId} {p q : Operand}, o.op = .store t p q → ∀ {d : Option Tmp} {u : V}, (∀ t, d = some t → t ∉ o.looksAt ops) → ev (fr.put d u) q = ev fr q := by
    intro o t p q ho d u hl
    have := looks_ev (fr := fr) (v := u) hl
    exact this q (by simp [ho, Op.operands])
  have addr : ∀ {o : Oper} {t : TypeId} {e : Nat} {q : Operand}, o.op = .store t (.tmp e) q → e ∈ o.looksAt ops := by
    intro o t e q ho
    exact List.mem_append_left _ (List.mem_filterMap.2 ⟨.tmp e, by simp [ho, Op.operands], rfl⟩)
  have tgt : ∀ {o : Oper} {t : TypeId} {e : Nat} {q : Operand}, o.op = .store t (.tmp e) q → ∀ {d : Option Tmp} {u : V} {pv : Pv} {k : Pk} {off : Nat} {cs : List V}, (∀ t, d = some t → t ∉ o.looksAt ops) → (Tgt (fr.put d u) pv e k off cs ↔ Tgt fr pv e k off cs) :=
    fun ho _ _ _ _ _ _ hl => Tgt.put fun e' he eq => hl e' he (eq ▸ addr ho)
  rw [drawS_step] at h ⊢
  obtain ⟨hd, h⟩ := h
  rcases h with ⟨x1, x2, v, hq, h⟩ | ⟨t, z, d, ho, hg, e1, e2, e3, h⟩ | ⟨t, d, p, k, off, cs, ho, hg, e1, e2, e3, e4, h⟩
  · rw [drawS_step] at h
    obtain ⟨hd', h⟩ := h
    refine ⟨hd', ?_⟩
    rcases h with ⟨y1, y2, u, hq', h⟩ | ⟨t, z, d, ho, hg, e1, e2, e3, h⟩ | ⟨t, d, p, k, off, cs, ho, hg, e1, e2, e3, e4, h⟩
    · refine .inl ⟨y1, y2, u, (QStep_put a1).1 hq', drawS_step.2 ⟨hd, .inl ⟨x1, x2, v, (QStep_put a3).2 hq, ?_⟩⟩⟩
      rw [← pc]; exact h
    · refine .inr (.inl ⟨t, z, d, ho, hg, e1, e2, e3, drawS_step.2 ⟨⟨hd.1, dstFree_set hd.2 fun e he eq => a2 e he (by rw [e1]; cases eq; rfl)⟩, .inl ⟨x1, x2, v, (QStep_put a3).2 hq, ?_⟩⟩⟩)
      rw [← pc]; exact h
    · rw [oper ho a1] at e2 e3 e4 h
      rw [tgt ho a1] at e1
      refine .inr (.inr ⟨t, d, p, k, off, cs, ho, hg, e1, e2, e3, e4, drawS_step.2 ⟨⟨hd.1, dstFree_set hd.2 fun e he eq => ?_⟩, .inl ⟨x1, x2, v, (QStep_put a3).2 hq, ?_⟩⟩⟩)
      · have h1 := hd.2; rw [he] at h1; simp only [dstFree] at h1
        have h2 := e1.at; rw [eq, h1] at h2; cases h2
      · rw [← pc]; exact h
  · rw [drawS_step] at h
    obtain ⟨hd', h⟩ := h
    refine ⟨⟨hd'.1, dstFree_unset hd'.2⟩, ?_⟩
    rcases h with ⟨y1, y2, u, hq', h⟩ | ⟨t', z', d', ho', hg', e1', e2', e3', h⟩ | ⟨t', d', p', k', off', cs', ho', hg', e1', e2', e3', e4', h⟩
    · refine .inl ⟨y1, y2, u, (QStep_put a1).1 hq', drawS_step.2 ⟨hd, .inr (.inl ⟨t, z, d, ho, hg, e1, e2, e3, ?_⟩)⟩⟩
      rw [← pc]; exact h
    · have hne : (Sum.inl d : Pk) ≠ .inl d' := fun e => a2 d e1 (by rw [e1']; cases e; rfl)
      refine .inr (.inl ⟨t', z', d', ho', hg', e1', e2', e3', drawS_step.2 ⟨⟨hd.1, dstFree_set hd.2 fun e he eq => a2 e he (by rw [e1']; cases eq; rfl)⟩, .inr (.inl ⟨t, z, d, ho, hg, e1, e2, e3, ?_⟩)⟩⟩)
      rw [← pc, pvSet_comm _ _ _ (Ne.symm hne)]; exact h
    · have hne : d' ≠ d := fun e => a1 d e1 (e ▸ addr ho')
      rw [tgt ho' a1, Tgt.set hne] at e1'
      have hkd : k' ≠ .inl d := fun e => by
        have h1 := hd.2; rw [e1] at h1; simp only [dstFree] at h1
        have h2 := e1'.at; rw [e, h1] at h2; cases h2
      rw [oper ho' a1] at e2' e3' e4' h
      refine .inr (.inr ⟨t', d', p', k', off', cs', ho', hg', e1', e2', e3', e4', drawS_step.2 ⟨⟨hd.1, dstFree_set hd.2 fun e he eq => hkd (by rw [eq]; rw [e1] at he; cases he; rfl)⟩, .inr (.inl ⟨t, z, d, ho, hg, e1, e2, e3, ?_⟩)⟩⟩)
      rw [← pc, pvSet_comm _ _ _ hkd]; exact h
  · rw [drawS_step] at h
    obtain ⟨hd', h⟩ := h
    refine ⟨⟨hd'.1, dstFree_unset hd'.2⟩, ?_⟩
    rcases h with ⟨y1, y2, u, hq', h⟩ | ⟨t', z', d', ho', hg', e1', e2', e3', h⟩ | ⟨t', d', p', k', off', cs', ho', _⟩
    · refine .inl ⟨y1, y2, u, (QStep_put a1).1 hq', drawS_step.2 ⟨hd, .inr (.inr ⟨t, d, p, k, off, cs, ho, hg, (tgt ho a3).2 e1, ?_⟩)⟩⟩
      rw [oper ho a3]
      exact ⟨e2, e3, e4, by rw [← pc]; exact h⟩
    · have hne : d ≠ d' := fun e => a3 d' e1' (e ▸ addr ho)
      have hkd : k ≠ .inl d' := fun e => by
        have h1 := dstFree_unset hd'.2; rw [e1'] at h1; simp only [dstFree] at h1
        have h2 := e1.at; rw [e, h1] at h2; cases h2
      refine .inr (.inl ⟨t', z', d', ho', hg', e1', e2', e3', drawS_step.2 ⟨⟨hd.1, dstFree_set hd.2 fun e he eq => a2 e he (by rw [e1']; cases eq; rfl)⟩, .inr (.inr ⟨t, d, p, k, off, cs, ho, hg, (Tgt.set hne).2 ((tgt ho a3).2 e1), ?_⟩)⟩⟩)
      rw [oper ho a3]
      exact ⟨e2, e3, e4, by rw [← pc, pvSet_comm _ _ _ (Ne.symm hkd)]; exact h⟩
    · simp [ho, ho', isStore] at hss

theorem drawB_front {pre post : List Oper} {o : Oper} {K : Fr → Pv → Prop} (hi : ∀ x ∈ pre, indep ops x o = true) : ∀ {fr : Fr} {pv : Pv}, drawB P nt ops H0 (pre ++ o :: post) fr pv K → drawB P nt ops H0 (o :: (pre ++ post)) fr pv K := by
  induction pre with
  | nil => exact fun h => h
  | cons x pre ih =>
    intro fr pv h
    have h1 : drawS P nt ops H0 x fr pv fun fr1 pv1 => drawB P nt ops H0 (o :: (pre ++ post)) fr1 pv1 K := drawS_mono h fun _ _ h => ih (fun y hy => hi y (by simp [hy])) h
    exact drawS_swap (hi x (by simp)) h1

end
end Go.Ab

