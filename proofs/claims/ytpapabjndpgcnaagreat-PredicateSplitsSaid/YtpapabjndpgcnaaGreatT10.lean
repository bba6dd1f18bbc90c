/- AbA12 AbA13 AbA14 -/
import Derived.Test.YtpapabjndpgcnaaGreatT09
import Derived.RangeFuncRecord
import Derived.OrdersIn
set_option linter.all false

namespace Go.Ab
open Go.RowKit
variable [Glob]
def Fw (r : Option Nat) : Fence := { fn := fun _ => True, depth := none, alive := false, round := r }
theorem callsIn_Fw {r : Option Nat} {P : Program} {f : FuncId} {args : Array Value} {w : World} {R : Ending → World → Prop} (h : CallsIn Fence.wide 0 P f args w R) : CallsIn (Fw r) 0 P f args w R := h
theorem roundIn_Fw {r : Option Nat} {P : Program} {l : Nat} {f : FuncId} {tmps : Array Value} {c d : Code} {w : World} {R : Ending → World → Prop} (h : RoundIn Fence.wide 0 P l f tmps c d w R) : RoundIn (Fw r) 0 P l f tmps c d w R := h
theorem opA_nodefer {P : Program} {A : Ann} {o : Oper} {ρ : Operand → V} {H : Heap} {K : V → Heap → Prop} (h : opA P A o ρ H K) : ∀ c, o.op ≠ .defer c := by
 intro c hc
 simp [opA, opQ, hc] at h
theorem nextW_upon {P : Program} {r : Option Nat} {o : Oper} {a : Act} {next : Act → World → Prop} {Q : Exit → Act → World → Prop} {K : Value → World → Prop} {x : Result Next} (h : NextW P K x)
 (hk : ∀ v w, K v w → next (a.put o.dst v) w) : o.uponIn (Fw r) 0 P a next Q x := by
 cases x with
 | halt x w => exact h.elim
 | ok n w =>
  cases n <;> first
   | exact h.elim
   | exact hk _ _ h
   | exact ⟨fun h => by simp [Fw] at h, (callsIn_Fw h).mono fun e w' ⟨v, e1, e2⟩ => by subst e1; exact hk _ _ e2⟩
   | exact ⟨fun h => by simp [Fw] at h, (roundIn_Fw h).mono fun e w' ⟨v, e1, e2⟩ => by subst e1; exact hk _ _ e2⟩
def dstOk (nt : Nat) : Option Tmp → Bool
 | some d => d < nt
 | none => true
def guardV (ops : Array Oper) (fr : Fr) (o : Oper) : Option Bool :=
 match o.guard with
 | none => some true
 | some (j, want) =>
  match (ops[j]?).bind (·.dst) with
  | some d =>
   match fr.s d with
   | .bool b => some (b == want)
   | .tup _ => some false
   | _ => none
  | none => none
def opsA (P : Program) (A : Ann) (nt : Nat) (ops : Array Oper) : List Oper → Fr → Heap → (Fr → Heap → Prop) → Prop
 | [], fr, H, K => K fr H
 | o :: rest, fr, H, K =>
  dstOk nt o.dst = true ∧
   match guardV ops fr o with
   | some true => opA P A o (ev fr) H fun v H' => opsA P A nt ops rest (fr.put o.dst v) H' K
   | some false => opsA P A nt ops rest (fr.put o.dst (.tup [])) H K
   | none => False
def End (nt : Nat) (g : Gh) (w : World) (Q : Exit → Fr → Heap → Prop) (e : Exit) (a' : Act) (w' : World) : Prop :=
 ∃ g' fr' H', Stp g w g' w' ∧ Rl g' H' w' ∧ FR nt g' w' a' fr' ∧ Q e fr' H'
def RdOk (g : Gh) : Option Nat → Option Nat → Prop
 | none, r => r = none
 | some id, r => ∃ b, g.mu id = some b ∧ r = some b
theorem RdOk.mono {g g' : Gh} {w w' : World} {rd r : Option Nat} (h : RdOk g rd r) (s : Stp g w g' w') : RdOk g' rd r := by
 cases rd with
 | none => exact h
 | some id => obtain ⟨b, h1, h2⟩ := h; exact ⟨b, s.mu _ _ h1, h2⟩
def Sim (P : Program) (nt : Nat) (rd : Option Nat) (c : Code) (fr : Fr) (H : Heap) (Q : Exit → Fr → Heap → Prop) : Prop :=
 ∀ r g w a, RdOk g rd r → Rl g H w → FR nt g w a fr → c.wpIn (Fw r) 0 P (End nt g w Q) a w
theorem End.later {nt : Nat} {g g' : Gh} {w w' : World} {Q : Exit → Fr → Heap → Prop} {e : Exit} {a : Act} {w2 : World} (s : Stp g w g' w') (h : End nt g' w' Q e a w2) : End nt g w Q e a w2 :=
 let ⟨g2, fr, H, s2, x⟩ := h; ⟨g2, fr, H, s.trans s2, x⟩
theorem End.mono {nt : Nat} {g : Gh} {w : World} {Q Q' : Exit → Fr → Heap → Prop} (hq : ∀ e fr H, Q e fr H → Q' e fr H) {e : Exit} {a : Act} {w2 : World} (h : End nt g w Q e a w2) : End nt g w Q' e a w2 :=
 let ⟨g2, fr, H, s2, a, b, c⟩ := h; ⟨g2, fr, H, s2, a, b, hq _ _ _ c⟩
theorem Sim.mono {P : Program} {nt : Nat} {rd : Option Nat} {c : Code} {fr : Fr} {H : Heap} {Q Q' : Exit → Fr → Heap → Prop} (h : Sim P nt rd c fr H Q) (hq : ∀ e fr H, Q e fr H → Q' e fr H) : Sim P nt rd c fr H Q' :=
 fun r g w a hr hR hF => wpIn_mono (h r g w a hr hR hF) fun _ _ _ => End.mono hq
section
variable {P : Program} {nt : Nat} {rd : Option Nat} {fr : Fr} {H : Heap} {Q : Exit → Fr → Heap → Prop}
theorem FR.er {g : Gh} {w : World} {a : Act} {fr : Fr} (h : FR nt g w a fr) : ER g w a fr := h.s
theorem guard_wanted {ops : Array Oper} {g : Gh} {w : World} {a : Act} {o : Oper} {b : Bool} (hE : ER g w a fr) (h : guardV ops fr o = some b) : Region.wanted o (yielded ops a.tmps) = b := by
 unfold guardV at h
 unfold Region.wanted
 split at h
 ·rename_i hg; cases h; simp [hg]
 ·rename_i j want hg
  simp only [hg]
  split at h
  ·rename_i d hd
   split at h
   ·rename_i c hc
    cases h
    have := hE d
    rw [hc] at this
    have hv := this.bool_inv
    have ht : a.tmps[d]? = some (.bool c) := by
     rw [Array.getD_eq_getD_getElem?] at hv
     cases hx : a.tmps[d]? with
     | none => rw [hx] at hv; simp [undef] at hv
     | some y => rw [hx] at hv; simpa using hv
    simp only [yielded, hd, Option.bind_some, ht]
    cases c <;> cases want <;> rfl
   ·rename_i vs hc
    cases h
    have := hE d
    rw [hc] at this
    have hv : ∃ us, a.tmps.getD d undef = .tuple us := by
     generalize a.tmps.getD d undef = z at this
     cases this with
     | tup h1 h2 => exact ⟨_, rfl⟩
    obtain ⟨us, hv⟩ := hv
    have hy : yielded ops a.tmps j = none := by
     unfold yielded
     simp only [hd, Option.bind_some]
     rw [Array.getD_eq_getD_getElem?] at hv
     cases hx : a.tmps[d]? with
     | none => rfl
     | some y => rw [hx] at hv; simp at hv; subst hv; rfl
    rw [hy]; cases want <;> rfl
   ·cases h
  ·cases h
theorem wp_op {A : Ann} {r : Option Nat} {g : Gh} {w : World} {a : Act} {o : Oper} {K : V → Heap → Prop} {next : Act → World → Prop} {Q : Exit → Act → World → Prop} (hR : Rl g H w) (hF : FR nt g w a fr) (hd : dstOk nt o.dst = true)
 (h : opA P A o (ev fr) H K) (hk : ∀ g' w' a' v H', Stp g w g' w' → Rl g' H' w' → FR nt g' w' a' (fr.put o.dst v) → K v H' → next a' w') : o.wpIn (Fw r) 0 P a w next Q := by
 refine ⟨fun _ _ => trivial, ?_⟩
 rw [Oper.semAt_eq _ _ _ (opA_nodefer h)]
 refine nextW_upon (opA_sound h g w a hR hF.s) fun v w' ⟨g', x, H', s, hR', hv, hK⟩ => ?_
 refine hk g' w' _ x H' s hR' ((hF.mono s).put (fun t ht => ?_) hv) hK
 rw [ht] at hd; simpa [dstOk] using hd
theorem opsA_sound {A : Ann} {ops : Array Oper} {r : Option Nat} {K : Fr → Heap → Prop} {Q : Exit → Act → World → Prop} {g0 : Gh} {w0 : World} (hQ : ∀ g w a fr H, Stp g0 w0 g w → Rl g H w → FR nt g w a fr → K fr H → Q .normal a w) :
 ∀ (m i : Nat) (fr : Fr) (H : Heap), i + m = ops.size → opsA P A nt ops (ops.toList.drop i) fr H K → ∀ g w a, Stp g0 w0 g w → Rl g H w → FR nt g w a fr → wpOpsIn (Fw r) 0 P ops Q (List.range' i m) a w
 | 0, i, fr, H, hi, h, g, w, a, s, hR, hF => by
  have : ops.toList.drop i = [] := by simp; omega
  rw [this] at h
  exact hQ g w a fr H s hR hF h
 | m + 1, i, fr, H, hi, h, g, w, a, s, hR, hF => by
  have hlt : i < ops.toList.length := by simp; omega
  have hlt' : i < ops.size := by omega
  rw [List.drop_eq_getElem_cons hlt] at h
  simp only [opsA, Array.getElem_toList] at h
  obtain ⟨hd, h⟩ := h
  simp only [List.range'_succ, wpOpsIn, Array.getElem?_eq_getElem hlt']
  have ih := opsA_sound (A := A) (ops := ops) (r := r) (K := K) hQ m (i + 1)
  split at h
  ·rename_i hg
   rw [if_pos (guard_wanted hF.s hg)]
   exact wp_op hR hF hd h fun g' w' a' v H' s' hR' hF' hK => ih _ _ (by omega) hK g' w' a' (s.trans s') hR' hF'
  ·rename_i hg
   rw [if_neg (by rw [guard_wanted hF.s hg]; simp)]
   refine ⟨fun _ _ => trivial, ih _ _ (by omega) h g w _ s hR (hF.put (fun t ht => ?_) (VR.und _ _))⟩
   rw [ht] at hd; simpa [dstOk] using hd
  ·exact h.elim
theorem Sim.region {A : Ann} {id : Nat} {ops : Array Oper} (h : opsA P A nt ops ops.toList fr H (Q .normal)) : Sim P nt rd (.region id ops false) fr H Q := by
 intro r g w a hr hR hF
 refine wpIn_region ?_
 have := opsA_sound (P := P) (A := A) (nt := nt) (ops := ops) (r := r) (K := Q .normal) (Q := End nt g w Q) (g0 := g) (w0 := w) (fun g' w' a' fr' H' s hR hF hK => ⟨g', fr', H', s, hR, hF, hK⟩) ops.size 0 fr H (by omega)
  (by simpa using h) g w a (Stp.refl _ _) hR hF
 rwa [← List.range_eq_range'] at this
theorem Sim.skip (h : Q .normal fr H) : Sim P nt rd .skip fr H Q := fun r g w a hr hR hF => wpIn_skip ⟨g, fr, H, Stp.refl _ _, hR, hF, h⟩
theorem Sim.ret (h : Q .ret fr H) : Sim P nt rd .ret fr H Q := fun r g w a hr hR hF => wpIn_ret ⟨g, fr, H, Stp.refl _ _, hR, hF, h⟩
theorem Sim.exit {id : Nat} (h : Q (.exit id) fr H) : Sim P nt rd (.exit id) fr H Q := fun r g w a hr hR hF => wpIn_exit ⟨g, fr, H, Stp.refl _ _, hR, hF, h⟩
theorem Sim.seq {x y : Code} (h : Sim P nt rd x fr H fun e fr' H' => match e with | .normal => Sim P nt rd y fr' H' Q | e => Q e fr' H') : Sim P nt rd (.seq x y) fr H Q := by
 intro r g w a hr hR hF
 refine wpIn_seq (wpIn_mono (h r g w a hr hR hF) fun e a' w' ⟨g', fr', H', s, hR', hF', hq⟩ => ?_)
 cases e with
 | normal => exact wpIn_mono (hq r g' w' a' (hr.mono s) hR' hF') fun _ _ _ => End.later s
 | _ => exact ⟨g', fr', H', s, hR', hF', hq⟩
theorem Sim.cond {c : Operand} {x y : Code} {t : Bool} (hc : ev fr c = .bool t) (h1 : t = true → Sim P nt rd x fr H Q) (h2 : t = false → Sim P nt rd y fr H Q) : Sim P nt rd (.cond c x y) fr H Q := by
 intro r g w a hr hR hF
 have hv := ev_rel hR hF.s c
 rw [hc] at hv
 refine wpIn_cond hv.bool_inv ?_
 cases t
 ·exact h2 rfl r g w a hr hR hF
 ·exact h1 rfl r g w a hr hR hF
theorem Sim.block {id : Nat} {c : Code} (h : Sim P nt rd c fr H fun e fr' H' => match e with | .exit id' => if id' = id then Q .normal fr' H' else Q (.exit id') fr' H' | e => Q e fr' H') : Sim P nt rd (.block id c) fr H Q := by
 intro r g w a hr hR hF
 refine wpIn_block (wpIn_mono (h r g w a hr hR hF) fun e a' w' ⟨g', fr', H', s, hR', hF', hq⟩ => ?_)
 cases e with
 | exit id' =>
  simp only [Exit.inBlock]
  dsimp only at hq
  split <;> rename_i hid
  ·rw [if_pos hid] at hq; exact ⟨g', fr', H', s, hR', hF', hq⟩
  ·rw [if_neg hid] at hq; exact ⟨g', fr', H', s, hR', hF', hq⟩
 | _ => exact ⟨g', fr', H', s, hR', hF', hq⟩
theorem Sim.loopN {c : Code} (I : Nat → Fr → Heap → Prop) (n0 : Nat) (h0 : I n0 fr H)
 (round : ∀ n fr H, I n fr H → Sim P nt rd c fr H fun e fr' H' => match e with | .normal => ∃ n', n' < n ∧ I n' fr' H' | e => Q e fr' H') : Sim P nt rd (.loop c) fr H Q := by
 intro r g w a hr hR hF
 intro b k cs hro hb hrm
 have key : ∀ n fr H, I n fr H → ∀ g' w' a, Stp g w g' w' → Rl g' H w' → FR nt g' w' a fr →
  ∃ e a' w2, End nt g w Q e a' w2 ∧ ArrivesIn (Machine.fenced P (Fw r)) P (lone (b.atR a (.code c :: .inLoop c :: k)) cs w') b k cs e a' w2 := by
  intro n
  induction n using Nat.strongRecOn with
  | _ n ih =>
   intro fr H hI g' w' a s hR hF
   obtain ⟨e, a₁, w₁, ⟨g1, fr1, H1, s1, hR1, hF1, hq⟩, harr⟩ := round n fr H hI r g' w' a (hr.mono s) hR hF b (.inLoop c :: k) cs hro hb hrm
   cases e with
   | normal =>
    obtain ⟨n', hlt, hI₁⟩ := hq
    obtain ⟨e₂, a₂, w₂, hq₂, harr₂⟩ := ih n' hlt fr1 H1 hI₁ g1 w₁ a₁ (s.trans s1) hR1 hF1
    exact ⟨e₂, a₂, w₂, hq₂, .of_steps (StepsIn.trans harr (.one (fenced_calm hb hrm rfl) stepR_inLoop)) harr₂⟩
   | exit id => exact ⟨_, a₁, w₁, ⟨g1, fr1, H1, s.trans s1, hR1, hF1, hq⟩, .pass (x := .inLoop c) rfl (fun _ _ => .inl (by simp)) harr⟩
   | goto l => exact ⟨_, a₁, w₁, ⟨g1, fr1, H1, s.trans s1, hR1, hF1, hq⟩, .pass (x := .inLoop c) rfl (fun _ _ => .inl (by simp)) harr⟩
   | ret => exact ⟨_, a₁, w₁, ⟨g1, fr1, H1, s.trans s1, hR1, hF1, hq⟩, .pass (x := .inLoop c) rfl (fun _ _ => .inl (by simp)) harr⟩
   | panic ch => exact ⟨_, a₁, w₁, ⟨g1, fr1, H1, s.trans s1, hR1, hF1, hq⟩, .pass (x := .inLoop c) rfl (fun _ _ => .inl (by simp)) harr⟩
   | outgrown => exact ⟨_, a₁, w₁, ⟨g1, fr1, H1, s.trans s1, hR1, hF1, hq⟩, .pass (x := .inLoop c) rfl (fun _ _ => .inl (by simp)) harr⟩
 obtain ⟨e, a', w', hq, harr⟩ := key _ fr H h0 g w a (Stp.refl _ _) hR hF
 exact ⟨e, a', w', hq, .of_steps (.one (fenced_calm hb hrm rfl) stepR_loop) harr⟩
theorem Sim.loop {c : Code} (I : Fr → Heap → Prop) (μ : Fr → Heap → Nat) (h0 : I fr H)
 (round : ∀ fr H, I fr H → Sim P nt rd c fr H fun e fr' H' => match e with | .normal => I fr' H' ∧ μ fr' H' < μ fr H | e => Q e fr' H') : Sim P nt rd (.loop c) fr H Q :=
 Sim.loopN (fun n fr H => I fr H ∧ μ fr H = n) _ ⟨h0, rfl⟩ fun n fr H ⟨hI, hn⟩ => (round fr H hI).mono fun e fr' H' hq => by
  cases e with
  | normal => exact ⟨_, hn ▸ hq.2, hq.1, rfl⟩
  | _ => exact hq
theorem Sim.less {c : Code} {fr' : Fr} {H' : Heap} (h : Sim P nt rd c fr' H' Q) (hs : ∀ t, Wk (fr.s t) (fr'.s t)) (hd : fr'.df = fr.df) (hl : ∀ id b, H' id = some b → H id = some b) : Sim P nt rd c fr H Q := by
 intro r g w a hr hR hF
 refine h r g w a hr (hR.less hl) ⟨hF.size, fun t => hs t _ _ _ (hF.s t), ?_⟩
 rw [hd]; exact hF.df
theorem Sim.freeze {c : Code} {t id off : Nat} {cs : List V} (ht : fr.s t = .ref id off) (hk : H id = some (.cells cs)) (h : Sim P nt rd c (fr.put (some t) (.eref cs off)) (upd H id none) Q) : Sim P nt rd c fr H Q := by
 intro r g w a hr hR hF
 obtain ⟨g', s, hR', hv⟩ := hR.freeze hk
 refine wpIn_mono (h r g' w a (hr.mono s) hR' ?_) fun _ _ _ => End.later s
 have hF' := hF.mono s
 refine ⟨hF'.size, fun x => ?_, hF'.df⟩
 simp only [Fr.put]
 split
 ·rename_i e; subst e
  have := hF.s x
  rw [ht] at this
  exact hv _ _ this
 ·exact hF'.s x
end
end Go.Ab

namespace Go.Ab
open Go.RowKit
variable [Glob]
def resList (P : Program) (fr : Fr) (H : Heap) : List ResultVar → Option (List V)
 | [] => some []
 | .tmp t :: r => (resList P fr H r).map (fr.s t :: ·)
 | .cell a t :: r =>
  match loadV P H t (fr.s a), resList P fr H r with
  | some v, some l => some (v :: l)
  | _, _ => none
def oneOf : List V → V
 | [x] => x
 | l => .tup l
def dfOk (H : Heap) (df : List Nat) : Prop := df.Nodup ∧ ∀ id ∈ df, H id = some (.obj (.deferred (some [])))
def clear (H : Heap) (df : List Nat) : Heap := fun x => if x ∈ df then none else H x
section
variable {P : Program}
theorem load_run {g : Gh} {w : World} {H : Heap} (hR : Rl g H w) {t : TypeId} {v : Value} {X x : V} (hv : VR g w v X) (hl : loadV P H t X = some x) :
 ∃ b q u, v = .pointer (some ⟨b, q, none⟩) ∧ (loadVar t ⟨b, q, none⟩).run P w = .ok u w ∧ VR g w u x := by
 unfold loadV at hl
 split at hl
 ·rename_i ag sz cs off ha hs
  cases hv with
  | eref vs hf hw h1 hvv =>
   rename_i b q
   obtain ⟨u, hu, hr⟩ := load_cells (P := P) (g := g) (w := w) (b := b) (q := q) (cs := cs) (fun j hj => ⟨vs j, hw j hj, h1 j hj, hvv j hj⟩) ha hs hl
   exact ⟨b, q + off, u, rfl, hu, hr⟩
 ·rename_i ag sz id off ha hs
  cases hv with
  | ref hm =>
   rename_i b
   split at hl
   ·rename_i cs hk
    obtain ⟨u, hu, hr⟩ := load_cells (P := P) (cellsAt_ref hR hk hm) ha hs hl
    rw [Nat.zero_add] at hu
    exact ⟨b, off, u, rfl, hu, hr⟩
   ·cases hl
 ·cases hl
theorem resList_run {nt : Nat} {g : Gh} {w : World} {H : Heap} {a : Act} {fr : Fr} (hR : Rl g H w) (hE : ER g w a fr) : ∀ (rs : List ResultVar) (l : List V), resList P fr H rs = some l →
 ∃ vs : List Value, (rs.mapM (m := Sem) fun | .tmp t => pure (a.tmps.getD t undef) | .cell x t => do loadVar t (← asAddr (a.tmps.getD x undef))).run P w = .ok vs w ∧ vs.length = l.length ∧
  ∀ i, i < l.length → VR g w (vs.getD i undef) (l.getD i .bad)
 | [], l, h => by simp only [resList, Option.some.injEq] at h; subst h; exact ⟨[], rfl, rfl, fun i hi => by simp at hi⟩
 | .tmp t :: r, l, h => by
  simp only [resList] at h
  cases hr : resList P fr H r with
  | none => simp [hr] at h
  | some l' =>
   simp only [hr, Option.map_some, Option.some.injEq] at h
   subst h
   obtain ⟨vs, h1, h2, h3⟩ := resList_run (nt := nt) hR hE r l' hr
   refine ⟨a.tmps.getD t undef :: vs, ?_, by simp [h2], fun i hi => ?_⟩
   ·simp only [List.mapM_cons, Sem.run_bind, Sem.run_pure, Result.andThen_ok, h1]
   ·cases i with
    | zero => exact hE t
    | succ i => exact h3 i (by simpa using hi)
 | .cell x t :: r, l, h => by
  simp only [resList] at h
  split at h
  ·rename_i v l' hv hr
   cases h
   obtain ⟨vs, h1, h2, h3⟩ := resList_run (nt := nt) hR hE r l' hr
   obtain ⟨b, q, u, e1, e2, e3⟩ := load_run hR (hE x) hv
   refine ⟨u :: vs, ?_, by simp [h2], fun i hi => ?_⟩
   ·have ea : (asAddr (.pointer (some ⟨b, q, none⟩))).run P w = .ok ⟨b, q, none⟩ w := rfl
    simp only [List.mapM_cons, e1, ea, Sem.run_bind, Sem.run_pure, Result.andThen_ok, e2, h1]
   ·cases i with
    | zero => exact e3
    | succ i => exact h3 i (by simpa using hi)
  ·cases h
theorem results_run {nt : Nat} {g : Gh} {w : World} {H : Heap} {a : Act} {fr : Fr} {fn : Func} (hR : Rl g H w) (hE : ER g w a fr) {l : List V} (h : resList P fr H fn.results.toList = some l) :
 ∃ v, (results fn a.tmps).run P w = .ok v w ∧ VR g w v (oneOf l) := by
 obtain ⟨vs, h1, h2, h3⟩ := resList_run (nt := nt) hR hE _ _ h
 have hm : (results fn a.tmps).run P w = .ok (if h : vs.toArray.size = 1 then vs.toArray[0] else .tuple vs.toArray) w := by
  unfold results
  rw [Array.mapM_eq_mapM_toList]
  simp only [Sem.run_bind, Sem.run_map]
  erw [h1]
  rfl
 refine ⟨_, hm, ?_⟩
 match l, vs, h2, h3 with
 | [x], [v], _, h3 => exact h3 0 (by simp)
 | [], [], _, _ => exact .tup rfl fun i hi => by simp at hi
 | x :: y :: l, u :: v :: vs, h2, h3 =>
  simp only [List.size_toArray, List.length_cons, oneOf]
  rw [dif_neg (by omega)]
  refine .tup (by simpa using h2) fun i hi => ?_
  have := h3 i hi
  simpa [Array.getD_eq_getD_getElem?, List.getD_eq_getElem?_getD] using this
theorem leaves_df {nt : Nat} {fn : Func} {a : Act} {R : Ending → World → Prop} {g : Gh} {fr : Fr} {l : List V} : ∀ (df : List Nat) (bs : List Nat) (H : Heap) (w : World), Rl g H w → ER g w a fr → bs.length = df.length →
 (∀ i, i < bs.length → g.mu (df.getD i 0) = some (bs.getD i 0)) → dfOk H df → resList P fr (clear H df) fn.results.toList = some l →
 (∀ w' v, Stp g w g w' → Rl g (clear H df) w' → VR g w' v (oneOf l) → R (.returned v) w') →
 LeavesInM Fence.wide 0 P fn a.tmps R (bs.map fun b => { target := .collected b, args := #[] }) .returning w
 | [], [], H, w, hR, hE, _, _, _, hl, hr => by
  have hcl : clear H [] = H := by funext x; simp [clear]
  rw [hcl] at hl hr
  obtain ⟨v, h1, h2⟩ := results_run (nt := nt) hR hE hl
  exact ⟨v, h1, hr w v (Stp.refl _ _) hR h2⟩
 | id :: df, b :: bs, H, w, hR, hE, hlen, hmu, hdf, hl, hr => by
  have hb : g.mu id = some b := hmu 0 (by simp)
  have hk := hdf.2 id (by simp)
  have hnd := List.nodup_cons.1 hdf.1
  obtain ⟨s, hR'⟩ := hR.putObj (o' := .deferred none) hk hb rfl
  obtain ⟨b', h1, h2, h3, h4⟩ := hR.blk id _ hk
  rw [hb] at h1; cases h1
  refine ⟨by simp, .inl ⟨b, w.putObj b (.deferred none), rfl, run_takeDeferred h3, ?_⟩⟩
  have hlt : ∀ id' b', (upd H id none) id' = some b' → (upd H id (some (.obj (.deferred none)))) id' = some b' := by
   intro id' b' h
   by_cases e : id' = id
   ·subst e; rw [upd_same] at h; cases h
   ·rw [upd_other _ _ e] at h ⊢; exact h
  have hcl : clear (upd H id none) df = clear H (id :: df) := by
   funext x
   simp only [clear, upd, List.mem_cons]
   by_cases e : x = id
   ·subst e; simp
   ·simp [e]
  refine leaves_df (nt := nt) df bs (upd H id none) (w.putObj b (.deferred none)) (hR'.less hlt) (hE.mono s) (by simpa using hlen) (fun i hi => ?_) ⟨hnd.2, fun id' hi' => ?_⟩ (by rw [hcl]; exact hl) fun w' v s' hR2 hv => ?_
  ·have := hmu (i + 1) (by simpa using hi)
   simpa using this
  ·have hne : id' ≠ id := fun e => by subst e; exact hnd.1 hi'
   rw [upd_other _ _ hne]; exact hdf.2 id' (by simp [hi'])
  ·rw [hcl] at hR2
   exact hr w' v (s.trans s') hR2 hv
 | [], _ :: _, _, _, _, _, h, _, _, _, _ => by simp at h
 | _ :: _, [], _, _, _, _, h, _, _, _, _ => by simp at h
def Ret (P : Program) (fn : Func) (K : V → Heap → Prop) (e : Exit) (fr : Fr) (H : Heap) : Prop :=
 (e = .normal ∨ e = .ret) ∧ dfOk H fr.df ∧ ∃ l, resList P fr (clear H fr.df) fn.results.toList = some l ∧ K (oneOf l) (clear H fr.df)
def entry (args : List V) : Fr := ⟨fun t => args.getD t .bad, []⟩
theorem callA_of_code {f : FuncId} {fn : Func} {c : Code} {args : List V} {H : Heap} {K : V → Heap → Prop} (hf : P.funcs[f]? = some fn) (hb : fn.body = some c) (hcall : ∀ vals w, (callFunc f vals).run P w = .ok (.enter f vals) w)
 (hn : args.length ≤ fn.ntmps) (h : Sim P fn.ntmps none c (entry args) H (Ret P fn K)) : CallA P f args H K := by
 intro g w vals hR hA
 rw [hcall]
 show CallsIn Fence.wide 0 P f vals w _
 refine callsIn_of_wp_marks hf hb trivial ?_
 have hF : FR fn.ntmps g w { tmps := vals ++ Array.replicate (fn.ntmps - vals.size) undef, defers := [] } (entry args) := by
  refine ⟨by have := hA.1; simp; omega, fun t => ?_, ⟨[], rfl, fun i hi => by simp at hi, rfl⟩⟩
  by_cases ht : t < args.length
  ·have e : (vals ++ Array.replicate (fn.ntmps - vals.size) undef).getD t undef = vals.getD t undef := by
    simp only [Array.getD_eq_getD_getElem?, Array.getElem?_append, hA.1, if_pos ht]
   simp only [e]
   exact hA.2 t ht
  ·have : (entry args).s t = .bad := by simp [entry, List.getD, List.getElem?_eq_none (Nat.le_of_not_lt ht)]
   rw [this]; exact .bad _
 refine wpIn_mono (h none g w _ rfl hR hF) fun e a' w' ⟨g', fr', H', s, hR', hF', he, hdf, l, hl, hK⟩ => ?_
 obtain ⟨bs, k1, k2, k3⟩ := hF'.df
 have key := leaves_df (P := P) (nt := fn.ntmps) (fn := fn) (a := a') (R := fun e w' => ∃ v, e = .returned v ∧ Post g w K v w') fr'.df bs H' w' hR' hF'.s k1 k2 hdf hl fun w2 v s2 hR2 hv => ⟨v, rfl, g', _, _, s.trans s2, hR2, hv, hK⟩
 rw [← k3] at key
 rcases he with rfl | rfl
 ·exact key
 ·exact key
end
end Go.Ab

namespace Go.Ab
open Go.RowKit
variable [Glob]
def isAlloc : Op → Bool
 | .alloc _ => true
 | _ => false
def isStore : Op → Bool
 | .store _ _ _ => true
 | _ => false
def edgeTo (o : Oper) (j : Nat) : Bool := o.after.any fun e => e.on == j && Region.binds .any e
def backward (o : Oper) (i : Nat) : Bool := o.after.all fun e => !Region.binds .any e || e.on < i
def indep (ops : Array Oper) (x y : Oper) : Bool := x.apart ops y && !(isStore x.op && isStore y.op)
def reach (ops : Array Oper) : Nat → Nat → Nat → Bool
 | 0, i, j => edgeTo (ops.getD i default) j
 | n + 1, i, j => edgeTo (ops.getD i default) j || (ops.getD i default).after.any fun e => Region.binds .any e && (Nat.blt j e.on && reach ops n e.on j)
def rdep : Nat := 8
def drawOk (ops : Array Oper) (k : Nat) : Bool :=
 k ≤ ops.size && (List.range ops.size).all fun i =>
  backward (ops.getD i default) i &&
   (List.range i).all fun j => (i < k && indep ops (ops.getD j default) (ops.getD i default)) || reach ops rdep i j
section
variable {P : Program} {nt : Nat} {ops : Array Oper} {H0 : Heap}
theorem list_map_congr {α β : Type} {f g : α → β} : ∀ {l : List α}, (∀ x ∈ l, f x = g x) → l.map f = l.map g
 | [], _ => rfl
 | x :: l, h => by rw [List.map_cons, List.map_cons, h x (by simp), list_map_congr fun y hy => h y (by simp [hy])]
theorem opt_map_congr {α β : Type} {f g : α → β} : ∀ {l : Option α}, (∀ x ∈ l, f x = g x) → l.map f = l.map g
 | none, _ => rfl
 | some x, h => by rw [Option.map_some, Option.map_some, h x rfl]
theorem opQ_congr {o : Oper} {ρ ρ' : Operand → V} {H : Heap} {v : V} (hρ : ∀ x ∈ o.op.operands, ρ x = ρ' x) (h : opQ P o ρ H v) : opQ P o ρ' H v := by
 unfold opQ at h ⊢
 cases ho : o.op <;> simp only [ho] at h ⊢ hρ <;> first
  | exact h.elim
  | (simp only [Op.operands, List.mem_toArray, List.mem_cons, List.not_mem_nil, or_false, forall_eq_or_imp, forall_eq] at hρ
     first
      | (rw [← hρ]; exact h)
      | (rw [← hρ.1, ← hρ.2]; exact h)
      | (rw [← hρ.1, ← hρ.2.1, ← hρ.2.2]; exact h))
  | skip
 ·
  rename_i t ps
  rw [← list_map_congr (l := ps.toList) (f := fun p => (p.1, ρ p.2)) (g := fun p => (p.1, ρ' p.2)) fun p hp => by rw [hρ p.2 (by simp only [Op.operands, List.mem_toArray, List.mem_map]; exact ⟨p, hp, rfl⟩)]]
  exact h
 ·rename_i t n ps
  rw [← list_map_congr (l := ps.toList) (f := fun p => (p.1, ρ p.2)) (g := fun p => (p.1, ρ' p.2)) fun p hp => by rw [hρ p.2 (by simp only [Op.operands, List.mem_toArray, List.mem_map]; exact ⟨p, hp, rfl⟩)]]
  exact h
 ·rename_i fn fs cs
  rw [← list_map_congr (l := fs.toList) (f := ρ) (g := ρ') fun p hp => hρ p (by simp only [Op.operands, Array.mem_append]; exact .inl (by simpa using hp)),
   ← list_map_congr (l := cs.toList) (f := ρ) (g := ρ') fun p hp => hρ p (by simp only [Op.operands, Array.mem_append]; exact .inr (by simpa using hp))]
  exact h
 ·rename_i t x lo hi mx
  rw [← hρ x (by simp [Op.operands]), ← opt_map_congr (l := lo) (f := ρ) (g := ρ') fun p hp => hρ p (by simp [Op.operands, Option.mem_def.1 hp]),
   ← opt_map_congr (l := hi) (f := ρ) (g := ρ') fun p hp => hρ p (by simp [Op.operands, Option.mem_def.1 hp]), ← opt_map_congr (l := mx) (f := ρ) (g := ρ') fun p hp => hρ p (by simp [Op.operands, Option.mem_def.1 hp])]
  exact h
 ·rename_i c
  have hargs : c.args.toList.map ρ = c.args.toList.map ρ' := list_map_congr fun p hp => hρ p (by simp only [Op.operands, Call.operands, Array.mem_append]; exact .inr (by simpa using hp))
  rw [← hargs]
  cases hc : c.callee <;> simp only [hc] at h ⊢
  ·rename_i f
   rw [← hρ f (by simp [Op.operands, Call.operands, hc])]; exact h
  ·exact h
theorem ev_put {fr : Fr} {d : Option Tmp} {v : V} {x : Operand} (h : ∀ t, d = some t → x ≠ .tmp t) : ev (fr.put d v) x = ev fr x := by
 cases d with
 | none => rfl
 | some d =>
  cases x with
  | tmp t =>
   have hne : t ≠ d := fun e => h d rfl (by rw [e])
   simp [ev, Fr.put, hne]
  | _ => rfl
theorem looks_ev {fr : Fr} {d : Option Tmp} {v : V} {y : Oper} (h : ∀ t, d = some t → t ∉ y.looksAt ops) : ∀ x ∈ y.op.operands, ev (fr.put d v) x = ev fr x := by
 intro x hx
 refine ev_put fun t ht e => h t ht ?_
 subst e
 exact List.mem_append_left _ (List.mem_filterMap.2 ⟨.tmp t, by simpa using hx, rfl⟩)
theorem looks_guard {fr : Fr} {d : Option Tmp} {v : V} {y : Oper} (h : ∀ t, d = some t → t ∉ y.looksAt ops) : guardV ops (fr.put d v) y = guardV ops fr y := by
 unfold guardV
 cases hg : y.guard with
 | none => rfl
 | some p =>
  obtain ⟨j, want⟩ := p
  dsimp only
  cases hd : (ops[j]?).bind (·.dst) with
  | none => rfl
  | some t =>
   have hne : ∀ d', d = some d' → t ≠ d' := by
    intro d' e1 e2
    subst e2
    refine h t e1 (List.mem_append_right _ ?_)
    simp [hg, hd]
   cases d with
   | none => rfl
   | some d =>
    have := hne d rfl
    simp [Fr.put, this]
theorem put_comm {fr : Fr} {d e : Option Tmp} {v u : V} (h : ∀ t, d = some t → e ≠ some t) : (fr.put d v).put e u = (fr.put e u).put d v := by
 cases d with
 | none => rfl
 | some d =>
  cases e with
  | none => rfl
  | some e =>
   have hne : d ≠ e := fun x => h d rfl (by rw [x])
   simp only [Fr.put, Fr.mk.injEq, and_true]
   funext t
   by_cases h1 : t = d
   ·subst h1; simp [hne]
   ·simp [h1]
theorem upd_comm (H : Heap) {a b : Nat} (x y : Option Blk) (h : a ≠ b) : upd (upd H a x) b y = upd (upd H b y) a x := by
 funext t
 simp only [upd]
 by_cases h1 : t = a
 ·subst h1; simp [h]
 ·simp [h1]
end
end Go.Ab

