/- AbA17 AbA18 AbA19 -/
import Derived.Test.YtfeppncgdbbbeaaGreatDoorT12
import Derived.RangeFuncNested
set_option linter.all false

namespace Go.Ab
open Go.RowKit
variable [Glob]
def Blk.fixed : Blk → Bool
 | .obj _ => true
 | .loop _ => true
 | _ => false
theorem BlkOk.fixed {g : Gh} {w : World} {id : Nat} {k : Blk} (hk : k.fixed = true) (h : BlkOk g w id k) : ∃ b o, g.mu id = some b ∧ g.base ≤ b ∧ w.heap[b]? = some o ∧ Obj.isCells o = false := by
 cases k with
 | cells _ => cases hk
 | spare => cases hk
 | obj o => obtain ⟨b, h1, h2, h3, h4⟩ := h; exact ⟨b, o, h1, h2, h3, h4⟩
 | loop L => obtain ⟨b, r, h1, h2, h3, _⟩ := h; exact ⟨b, _, h1, h2, h3, rfl⟩
 | arr _ _ => cases hk
theorem Gh.at_fixed {g : Gh} {H : Heap} {id : Nat} {k : Blk} (hk : k.fixed = true) (h : H id = some k) : g.at H id = g.mu id := by
 cases k <;> simp_all [Gh.at, Blk.fixed]
theorem Rl.putGen {g : Gh} {H : Heap} {w : World} (h : Rl g H w) {id b : Nat} {k k' : Blk} {o' : Obj} (hf : k.fixed = true) (hf' : k'.fixed = true) (hk : H id = some k) (hb : g.mu id = some b) (hc' : Obj.isCells o' = false)
 (hok : Stp g w g (w.putObj b o') → (w.putObj b o').heap[b]? = some o' → g.base ≤ b → BlkOk g (w.putObj b o') id k') :
 Stp g w g (w.putObj b o') ∧ Rl g (upd H id (some k')) (w.putObj b o') := by
 obtain ⟨b', o, h1, h2, h3, h4⟩ := (h.blk id _ hk).fixed hf
 have e : b' = b := by rw [hb] at h1; exact (Option.some.inj h1).symm
 subst e
 have hcell := cell_putObj (o' := o') h3 h4 hc'
 have s : Stp g w g (w.putObj b' o') := by
  refine ⟨fun _ _ e => e, fun _ _ e => e, fun _ _ e => e, rfl, fun b o _ => hcell b o, ⟨rfl, rfl, rfl, by simp, fun k hk => World.putObj_heap_other (by omega)⟩, fun _ _ _ => rfl⟩
 have hat : ∀ x, g.at (upd H id (some k')) x = g.at H x := by
  intro x
  by_cases hx : x = id
  ·subst hx; rw [Gh.at_fixed hf' (upd_same _ _ _), Gh.at_fixed hf hk]
  simp only [Gh.at, upd_other _ _ hx]
 have hid : g.at H id = some b' := by rw [Gh.at_fixed hf hk, hb]
 refine ⟨s, fun x k hx => ?_, fun x x' y h1 h2 => h.inj x x' y (hat x ▸ h1) (hat x' ▸ h2), fun y o hf => ?_, fun x hx => ?_, ?_, fun n => (h.glb n).mono s⟩
 ·by_cases hxe : x = id
  ·subst hxe; rw [upd_same] at hx; cases hx
   exact hok s (World.putObj_heap_same (mem_lt h3)) h2
  rw [upd_other _ _ hxe] at hx
  refine (h.blk x k hx).mono hx s fun y hy => ⟨World.putObj_heap_other fun e => ?_, fun _ ho => ho⟩
  subst e; exact hxe (h.inj _ _ _ hy hid)
 ·obtain ⟨v, hv'⟩ := h.frz y o hf
  exact ⟨v, (hcell y o).trans hv'⟩
 ·obtain ⟨a1, a2, a3⟩ := h.nxt x hx
  have hne : x ≠ id := fun e => by subst e; rw [hk] at a3; cases a3
  exact ⟨a1, a2, by rw [upd_other _ _ hne]; exact a3⟩
 have := h.bnd; simp; omega
def putAll (s : Nat → V) : List Tmp → List V → Nat → V
 | p :: ps, x :: xs => putAll (fun t => if t = p then x else s t) ps xs
 | _, _ => s
theorem putAll_rel {g : Gh} {w : World} {nt : Nat} : ∀ (ps : List Tmp) (vals : List Value) (xs : List V) (tmps : Array Value) (s : Nat → V), tmps.size = nt → (∀ p ∈ ps, p < nt) → vals.length = xs.length → (∀ i, i < xs.length → VR g w (vals.getD i undef) (xs.getD i .bad)) → xs.length = ps.length →
 (∀ t, VR g w (tmps.getD t undef) (s t)) → ((ps.zip vals).foldl (fun t (p, v) => t.setIfInBounds p v) tmps).size = nt ∧ ∀ t, VR g w (((ps.zip vals).foldl (fun t (p, v) => t.setIfInBounds p v) tmps).getD t undef) (putAll s ps xs t)
 | [], [], [], tmps, s, hn, _, _, _, _, h => ⟨hn, h⟩
 | p :: ps, v :: vals, x :: xs, tmps, s, hn, hp, hl, hv, hx, h => by
  simp only [List.zip_cons_cons, List.foldl_cons, putAll]
  refine putAll_rel ps vals xs _ _ (by simpa using hn) (fun q hq => hp q (by simp [hq])) (by simpa using hl) (fun i hi => by simpa using hv (i + 1) (by simpa using hi)) (by simpa using hx) fun t => ?_
  have hpn := hp p (by simp)
  by_cases e : t = p
  ·subst e
   have : (tmps.setIfInBounds t v).getD t undef = v := by simp [Array.getD, hn, hpn]
   rw [this]; simpa using hv 0 (by simp)
  have : (tmps.setIfInBounds p v).getD t undef = tmps.getD t undef := by
   simp only [Array.getD_eq_getD_getElem?, Array.getElem?_setIfInBounds]
   rw [if_neg (fun h => e h.symm)]
  rw [this]; simpa [e] using h t
 | [], [], _ :: _, _, _, _, _, hl, _, _, _ => by simp at hl
 | [], _ :: _, [], _, _, _, _, hl, _, _, _ => by simp at hl
 | [], _ :: _, _ :: _, _, _, _, _, _, _, hx, _ => by simp at hx
 | _ :: _, [], [], _, _, _, _, _, _, hx, _ => by simp at hx
 | _ :: _, [], _ :: _, _, _, _, _, hl, _, _, _ => by simp at hl
 | _ :: _, _ :: _, [], _, _, _, _, hl, _, _, _ => by simp at hl
def jumpOf : Exit → Option (Option Code)
 | .normal => some none
 | .ret => some (some .ret)
 | .exit id => some (some (.exit id))
 | .goto t => some (some (.goto t))
 | _ => none
def RoundQ (id : Nat) (L : LpI) (K : V → Heap → Prop) (e : Exit) (H2 : Heap) : Prop :=
 ∃ jump, jumpOf e = some jump ∧ H2 id = some (.loop { L with st := .busy }) ∧ K (.bool jump.isNone) (upd H2 id (some (.loop { L with st := if jump.isNone then .ready else .done, pe := jump })))
theorem callV_yield {P : Program} {id : Nat} {L : LpI} {x : List V} {H : Heap} {K : V → Heap → Prop} (hk : H id = some (.loop L)) (hst : L.st = .ready) (hx : x.length = L.ps.size) (hps : ∀ p ∈ L.ps, p < L.nt)
 (h : Sim P L.nt (some id) L.asg ⟨putAll L.s L.ps.toList x, []⟩ H fun e fr' H1 => e = .normal ∧ H1 id = some (.loop L) ∧
  Sim P L.nt (some id) L.body fr' (upd H1 id (some (.loop { L with st := .busy }))) fun e _ H2 => RoundQ id L K e H2) : CallV P (.yield id) x H K := by
 intro g w v vals hR hv hA
 cases hv with
 | yield hmu =>
  rename_i b
  obtain ⟨b', r, h1, h2, h3, h4, h5, h6, h7, h8, h9, h10⟩ := hR.blk id _ hk
  rw [hmu] at h1; cases h1
  have hrun : (do let d ← Deferred.ofValue (.func (.yield b) #[] #[]) vals; invoke d.target d.args : Sem Next).run P w =
   .ok (.round b r.fn ((r.params.zip vals).foldl (fun tmps (t, a) => tmps.setIfInBounds t a) r.tmps) r.assign r.body) w := by
   have hy := run_yield (P := P) (args := vals) h3 (by rw [hA.1, hx, h6])
   simpa [Deferred.ofValue, Sem.run_bind, Sem.run_pure, Result.andThen_ok, invoke] using hy
  rw [hrun]
  show RoundIn Fence.wide 0 P b r.fn _ r.assign r.body w _
  have hpa := putAll_rel (g := g) (w := w) (nt := L.nt) L.ps.toList vals.toList x r.tmps L.s h9 (fun p hp => hps p (by simpa using hp)) (by simpa using hA.1) (fun i hi => by
   have := hA.2 i hi
   simpa [Array.getD_eq_getD_getElem?, List.getD_eq_getElem?_getD] using this) (by simpa using hx) h10
  have hfold : (r.params.zip vals).foldl (fun tmps (t, a) => tmps.setIfInBounds t a) r.tmps = (L.ps.toList.zip vals.toList).foldl (fun t (p, v) => t.setIfInBounds p v) r.tmps := by
   rw [h6, ← Array.foldl_toList]; simp
  rw [hfold]
  refine roundIn_of_wpIn trivial ?_
  show r.assign.wpIn (Fw (some b)) 0 P _ _ w
  rw [h7]
  refine wpIn_mono (h (some b) g w _ ⟨b, hmu, rfl⟩ hR ⟨hpa.1, hpa.2, [], rfl, fun i hi => by simp at hi, rfl⟩) fun e a1 w1 ⟨g1, fr1, H1, s1, hR1, hF1, he, hk1, hbody⟩ => ?_
  subst he
  obtain ⟨b1, r1, i1, i2, i3, i4, i5, i6, i7, i8, i9, i10⟩ := hR1.blk id _ hk1
  have hmu1 := s1.mu _ _ hmu
  rw [hmu1] at i1; cases i1
  refine ⟨_, run_beginRound i3 (i4.trans hst), ?_⟩
  obtain ⟨s2, hR2⟩ := hR1.putGen (k' := .loop { L with st := .busy }) (o' := .loop { r1 with state := .busy }) rfl rfl hk1 hmu1 rfl fun s hh hb =>
   ⟨b, _, hmu1, hb, hh, rfl, i5, i6, i7, i8, i9, fun t => (i10 t).mono s⟩
  show r.body.wpIn (Fw (some b)) 0 P _ _ _
  rw [h8]
  refine wpIn_mono (hbody (some b) g1 _ a1 ⟨b, hmu1, rfl⟩ hR2 (hF1.mono s2)) fun e a3 w3 ⟨g3, fr3, H3, s3, hR3, hF3, jump, hj, hk3, hK⟩ => ?_
  obtain ⟨b3, r3, j1, j2, j3, j4, j5, j6, j7, j8, j9, j10⟩ := hR3.blk id _ hk3
  have hmu3 := s3.mu _ _ hmu1
  rw [hmu3] at j1; cases j1
  obtain ⟨s4, hR4⟩ := hR3.putGen (k' := .loop { L with st := if jump.isNone then .ready else .done, pe := jump }) (o' := .loop { r3 with state := if jump.isNone then .ready else .done, pending := jump }) rfl rfl hk3 hmu3 rfl fun s hh hb =>
   ⟨b, _, hmu3, hb, hh, rfl, rfl, j6, j7, j8, j9, fun t => (j10 t).mono s⟩
  have hend := run_endRound (P := P) jump j3
  have fin : ∃ v w', (Instr.endRound b jump).run P w3 = .ok v w' ∧ ∃ u, Ending.returned v = .returned u ∧ Post g w K u w' :=
   ⟨_, _, hend, _, rfl, g3, _, _, ((s1.trans s2).trans s3).trans s4, hR4, .bool _, hK⟩
  cases e <;> simp only [jumpOf, Option.some.injEq, reduceCtorEq] at hj <;> subst hj <;> exact fin
end Go.Ab

namespace Go.Ab
open Go.RowKit
variable [Glob]
structure Stable (I : Heap → Heap → Prop) : Prop where
 le : ∀ {F H}, I F H → ∀ id b, F id = some b → H id = some b
 chg : ∀ {F H} (id : Nat) (b : Option Blk), I F H → H id = F id → I (upd F id b) (upd H id b)
theorem Stable.fresh {I : Heap → Heap → Prop} (h : Stable I) {F H : Heap} (i : I F H) {id : Nat} (hn : H id = none) : F id = none := by
 cases hf : F id with
 | none => rfl
 | some b => rw [h.le i id b hf] at hn; cases hn
def IterV (P : Program) (it : V) (xs : List (List V)) : Prop :=
 ∃ f C, it = .func (.func f) [] C ∧ (∀ vals w, (callFunc f vals).run P w = .ok (.enter f vals) w) ∧
  ∀ (yv : V) (I : List (List V) → Heap → Heap → Prop) (D : Heap → Heap → Prop), (∀ l, Stable (I l)) → Stable D →
   ((yv.one = true ∧ yv.cells = [yv]) ∧ ∀ x l F H, I (x :: l) F H → CallV P yv x H fun r H' => (r = .bool true ∧ I l F H') ∨ (r = .bool false ∧ D F H')) →
   ∀ F H, I xs F H → CallA P f (yv :: C) H fun _ H' => I [] F H' ∨ D F H'
def endOk (I : Heap → Heap → Prop) (D : Code → Heap → Heap → Prop) (F : Heap) (e : Exit) (H : Heap) : Prop :=
 match e with
 | .normal => I F H
 | .ret => D .ret F H
 | .exit k => D (.exit k) F H
 | _ => False
theorem endOk_jump {I : Heap → Heap → Prop} {D : Code → Heap → Heap → Prop} {F : Heap} {e : Exit} {H : Heap} (h : endOk I D F e H) : (jumpOf e = some none ∧ I F H) ∨ ∃ c, jumpOf e = some (some c) ∧ D c F H := by
 cases e <;> simp only [endOk] at h
 ·exact .inl ⟨rfl, h⟩
 ·exact .inr ⟨_, rfl, h⟩
 exact .inr ⟨_, rfl, h⟩
section
variable {P : Program} {nt : Nat}
theorem range_core {fr : Fr} {ps : Array Tmp} {asg body : Code} {xs : List (List V)} {f : FuncId} {C : List V} {id : Nat} (hnt : ∀ p ∈ ps, p < nt) (hps : ∀ x ∈ xs, x.length = ps.size)
 (hit : ∀ (yv : V) (I : List (List V) → Heap → Heap → Prop) (D : Heap → Heap → Prop), (∀ l, Stable (I l)) → Stable D →
  ((yv.one = true ∧ yv.cells = [yv]) ∧ ∀ x l F H, I (x :: l) F H → CallV P yv x H fun r H' => (r = .bool true ∧ I l F H') ∨ (r = .bool false ∧ D F H')) →
  ∀ F H, I xs F H → CallA P f (yv :: C) H fun _ H' => I [] F H' ∨ D F H')
 (I : List (List V) → Heap → Heap → Prop) (D : Code → Heap → Heap → Prop) (hI : ∀ l, Stable (I l)) (hD : ∀ c, Stable (D c)) (J : List V → List (List V) → Fr → Heap → Heap → Prop) (hJ : ∀ x l fr, Stable (J x l fr))
 (assign : ∀ id L x l F H, I (x :: l) F H → F id = some (.loop L) → x.length = ps.size → Sim P nt (some id) asg ⟨putAll fr.s ps.toList x, []⟩ H fun e fr' H1 => e = .normal ∧ J x l fr' F H1)
 (round : ∀ id L x l fr' F H, J x l fr' F H → F id = some (.loop L) → Sim P nt (some id) body fr' H fun e _ H' => endOk (I l) D F e H')
 {F0 H2 : Heap} {L : LpI} (hL : L = { nt := nt, s := fr.s, st := .ready, pe := none, ps := ps, asg := asg, body := body }) (hF0 : F0 id = none) (h0 : I xs (upd F0 id (some (.loop L))) H2)
 {g2 : Gh} {w2 : World} {b : Nat} {vals : Array Value} (hR : Rl g2 H2 w2) (hmu : g2.mu id = some b) (hA : Args g2 w2 vals (.yield id :: C)) (hcf : (callFunc f vals).run P w2 = .ok (.enter f vals) w2) :
 CallsIn Fence.wide 0 P f vals w2 fun e w3 => ∃ v, e = .returned v ∧ ∃ g3 H3 jump w4, Stp g2 w2 g3 w4 ∧ Rl g3 H3 w4 ∧ (Instr.endLoop b).run P w3 = .ok jump w4 ∧ ((jump = none ∧ I [] F0 H3) ∨ ∃ c, jump = some c ∧ D c F0 H3) := by
 have hc := hit (.yield id) (fun l F H => (∀ x ∈ l, x.length = ps.size) ∧ F id = none ∧ I l (upd F id (some (.loop L))) H)
  (fun F H => F id = none ∧ ∃ c, D c (upd F id (some (.loop { L with st := .done, pe := some c }))) H) ?_ ?_ ⟨⟨rfl, rfl⟩, ?_⟩ F0 H2 ⟨hps, hF0, h0⟩ g2 w2 vals hR hA
 ·rw [hcf] at hc
  have hc' : CallsIn Fence.wide 0 P f vals w2 _ := hc
  refine hc'.mono fun e w3 ⟨v, he, g3, u, H3, s, hR3, _, hK⟩ => ⟨v, he, ?_⟩
  have hmu3 := s.mu _ _ hmu
  have fin : ∀ (L' : LpI) (X : Heap → Heap → Prop), Stable X → X (upd F0 id (some (.loop L'))) H3 → L'.st ≠ .busy → ∃ g4 H4 w4, Stp g2 w2 g4 w4 ∧ Rl g4 H4 w4 ∧ (Instr.endLoop b).run P w3 = .ok L'.pe w4 ∧ X F0 H4 := by
   intro L' X hX hx hst
   have hk3 := hX.le hx id _ (upd_same _ _ _)
   obtain ⟨b3, r3, j1, j2, j3, j4, j5, j6, j7, j8, j9, j10⟩ := hR3.blk id _ hk3
   rw [hmu3] at j1; cases j1
   have hend := run_endLoop (P := P) j3 (by rw [j4]; exact hst)
   rw [j5] at hend
   obtain ⟨s4, hR4⟩ := hR3.putGen (k' := .loop { L' with st := .exhausted }) (o' := .loop { r3 with state := .exhausted, pending := L'.pe }) rfl rfl hk3 hmu3 rfl fun s hh hb =>
    ⟨b, _, hmu3, hb, hh, rfl, rfl, j6, j7, j8, j9, fun t => (j10 t).mono s⟩
   refine ⟨g3, upd H3 id none, _, s.trans s4, hR4.less fun x bb hx => ?_, hend, ?_⟩
   ·by_cases e : x = id
    ·subst e; rw [upd_same] at hx; cases hx
    rw [upd_other _ _ e] at hx ⊢; exact hx
   have := hX.chg id none hx (by rw [hk3, upd_same])
   rwa [upd_back _ _ _ hF0] at this
  rcases hK with ⟨_, _, hi⟩ | ⟨_, c, hd⟩
  ·obtain ⟨g4, H4, w4, k1, k2, k3, k4⟩ := fin L (I []) (hI _) hi (by rw [hL]; simp)
   exact ⟨g4, H4, _, w4, k1, k2, k3, .inl ⟨by rw [hL], k4⟩⟩
  obtain ⟨g4, H4, w4, k1, k2, k3, k4⟩ := fin _ (D c) (hD _) hd (by simp)
  exact ⟨g4, H4, _, w4, k1, k2, k3, .inr ⟨c, rfl, k4⟩⟩
 ·intro l
  refine ⟨fun {F H} ⟨_, hn, hi⟩ x bb hx => (hI l).le hi x bb ?_, fun {F H} x bb ⟨hs, hn, hi⟩ hx => ?_⟩
  ·rw [upd_other _ _ (ne_of_none hn hx)]; exact hx
  have hne : x ≠ id := fun e => by subst e; rw [hn] at hx; rw [(hI l).le hi x _ (upd_same _ _ _)] at hx; cases hx
  refine ⟨hs, by rw [upd_other _ _ (fun e => hne e.symm)]; exact hn, ?_⟩
  have := (hI l).chg x bb hi (by rw [upd_other _ _ hne]; exact hx)
  rwa [upd_comm _ _ _ (Ne.symm hne)] at this
 ·refine ⟨fun {F H} ⟨hn, c, hi⟩ x bb hx => (hD c).le hi x bb ?_, fun {F H} x bb ⟨hn, c, hi⟩ hx => ?_⟩
  ·rw [upd_other _ _ (ne_of_none hn hx)]; exact hx
  have hne : x ≠ id := fun e => by subst e; rw [hn] at hx; rw [(hD c).le hi x _ (upd_same _ _ _)] at hx; cases hx
  refine ⟨by rw [upd_other _ _ (fun e => hne e.symm)]; exact hn, c, ?_⟩
  have := (hD c).chg x bb hi (by rw [upd_other _ _ hne]; exact hx)
  rwa [upd_comm _ _ _ (Ne.symm hne)] at this
 rintro x l F H ⟨hs, hn, hi⟩
 have hk := (hI _).le hi id _ (upd_same _ _ _)
 have hxs := hs x (by simp)
 have ha := assign id L x l _ H hi (upd_same _ _ _) hxs
 subst hL
 refine callV_yield hk rfl hxs hnt (ha.mono fun e fr' H1 ⟨he, hj⟩ => ?_)
 have hk1 := (hJ x l fr').le hj id _ (upd_same _ _ _)
 refine ⟨he, hk1, ?_⟩
 have hj2 := (hJ x l fr').chg id (some (.loop { ({ nt := nt, s := fr.s, st := .ready, pe := none, ps := ps, asg := asg, body := body } : LpI) with st := .busy })) hj (by rw [hk1, upd_same])
 rw [upd_upd] at hj2
 refine (round id _ x l fr' _ _ hj2 (upd_same _ _ _)).mono fun e fr'' H2 hq => ?_
 rcases endOk_jump hq with ⟨hjmp, hi2⟩ | ⟨c, hjmp, hd2⟩
 ·have hk2 := (hI l).le hi2 id _ (upd_same _ _ _)
  refine ⟨none, hjmp, hk2, .inl ⟨rfl, fun y hy => hs y (by simp [hy]), hn, ?_⟩⟩
  have := (hI l).chg id (some (.loop { nt := nt, s := fr.s, st := .ready, pe := none, ps := ps, asg := asg, body := body })) hi2 (by rw [hk2, upd_same])
  rwa [upd_upd] at this
 have hk2 := (hD c).le hd2 id _ (upd_same _ _ _)
 refine ⟨some c, hjmp, hk2, .inr ⟨rfl, hn, c, ?_⟩⟩
 have := (hD c).chg id (some (.loop { nt := nt, s := fr.s, st := .done, pe := some c, ps := ps, asg := asg, body := body })) hd2 (by rw [hk2, upd_same])
 rwa [upd_upd] at this
theorem args_yield {g : Gh} {w : World} {id b : Nat} {cs : Array Value} {C : List V} (hmu : g.mu id = some b) (h1 : cs.size = C.length) (h2 : ∀ i, i < C.length → VR g w (cs.getD i undef) (C.getD i .bad)) :
 Args g w (#[.func (.yield b) #[] #[]] ++ cs) (.yield id :: C) :=
 Args.append (x := [.yield id]) (a := #[.func (.yield b) #[] #[]]) ⟨rfl, fun i hi => match i, hi with | 0, _ => .yield hmu⟩ ⟨h1, h2⟩
theorem Sim.rangeOuter {fr : Fr} {H F : Heap} {g : Operand} {ps : Array Tmp} {asg body : Code} {xs : List (List V)} {Q : Exit → Fr → Heap → Prop} (hnt : ∀ p ∈ ps, p < nt) (hps : ∀ x ∈ xs, x.length = ps.size) (hit : IterV P (ev fr g) xs)
 (I : List (List V) → Heap → Heap → Prop) (D : Code → Heap → Heap → Prop) (hI : ∀ l, Stable (I l)) (hD : ∀ c, Stable (D c)) (J : List V → List (List V) → Fr → Heap → Heap → Prop) (hJ : ∀ x l fr, Stable (J x l fr)) (h0 : I xs F H)
 (assign : ∀ id L x l F H, I (x :: l) F H → F id = some (.loop L) → x.length = ps.size → Sim P nt (some id) asg ⟨putAll fr.s ps.toList x, []⟩ H fun e fr' H1 => e = .normal ∧ J x l fr' F H1)
 (round : ∀ id L x l fr' F H, J x l fr' F H → F id = some (.loop L) → Sim P nt (some id) body fr' H fun e _ H' => endOk (I l) D F e H')
 (done : ∀ d H', F d = none → I [] (upd F d (some (.obj (.deferred (some []))))) H' → Q .normal { fr with df := d :: fr.df } H')
 (stop : ∀ c d H', F d = none → D c (upd F d (some (.obj (.deferred (some []))))) H' → Sim P nt none c { fr with df := d :: fr.df } H' Q) : Sim P nt none (.rangeFunc g ps asg body) fr H Q := by
 intro r g0 w a hr hR hF
 have hr : r = none := hr
 subst hr
 obtain ⟨f, C, hev, hcf, hit⟩ := hit
 refine wpIn_rangeFunc fun fn _ => ?_
 have hv := ev_rel hR hF.s g
 rw [hev] at hv
 generalize hag : a.eval g = gv at hv
 cases hv with
 | func hl hv hl' hv' =>
  rename_i fs cs
  have hfs : fs = #[] := Array.eq_empty_of_size_eq_zero (by simpa using hl)
  subst hfs
  obtain ⟨dB, hdB⟩ : ∃ dB : Blk, dB = .obj (.deferred (some [])) := ⟨_, rfl⟩
  have hd0 : H g0.nx = none := (hR.nxt _ (Nat.le_refl _)).2.2
  have s1 := Stp.new hR (.deferred (some [])) False 0
  have hR1 := hR.newNamed (.deferred (some [])) dB (by rw [hdB]; simp) (by rw [hdB]; exact ⟨w.heap.size, by simp [Gh.new], hR.bnd, heap_new, rfl⟩) (by rw [hdB]; intro _ _ h; cases h)
  obtain ⟨w1, hw1⟩ : ∃ w1, w.alloc (.deferred (some [])) = w1 := ⟨_, rfl⟩
  obtain ⟨g1, hg1⟩ : ∃ g1, g0.new w False 0 = g1 := ⟨_, rfl⟩
  obtain ⟨L, hL⟩ : ∃ L : LpI, L = { nt := nt, s := fr.s, st := .ready, pe := none, ps := ps, asg := asg, body := body } := ⟨_, rfl⟩
  obtain ⟨rec, hrec⟩ : ∃ rec : Loop, rec = { state := .ready, pending := none, fn, tmps := a.tmps, params := ps, assign := asg, body, defers := w.heap.size } := ⟨_, rfl⟩
  rw [hw1, hg1] at hR1 s1
  have hd : g1.mu g0.nx = some w.heap.size := by rw [← hg1]; simp [Gh.new]
  have hnx : g1.nx = g0.nx + 1 := by rw [← hg1]; rfl
  have hF1 := hF.mono s1
  have s2 := Stp.new hR1 (.loop rec) False 0
  have hF2 := hF1.mono s2
  have hR2 := hR1.newNamed (.loop rec) (.loop L) (by simp) (by
   rw [hL, hrec]
   exact ⟨w1.heap.size, _, by simp [Gh.new], hR1.bnd, heap_new, rfl, rfl, rfl, rfl, rfl, hF.size, fun t => by have := hF2.s t; rw [hrec] at this; exact this⟩)
  obtain ⟨w2, hw2⟩ : ∃ w2, w1.alloc (.loop rec) = w2 := ⟨_, rfl⟩
  obtain ⟨g2, hg2⟩ : ∃ g2, g1.new w1 False 0 = g2 := ⟨_, rfl⟩
  rw [hw2, hg2] at hR2 s2 hF2
  have hmu : g2.mu g1.nx = some w1.heap.size := by rw [← hg2]; simp [Gh.new]
  have hi0 : (upd H g0.nx (some dB)) g1.nx = none := (hR1.nxt _ (Nat.le_refl _)).2.2
  have hsz : w1.heap.size = w.heap.size + 1 := by rw [← hw1]; simp
  have i1 := (hI xs).chg g0.nx (some dB) h0 (by rw [hd0, (hI xs).fresh h0 hd0])
  have hFi := (hI xs).fresh i1 hi0
  have i2 := (hI xs).chg g1.nx (some (.loop L)) i1 (by rw [hi0, hFi])
  have hcall := range_core (fr := fr) (nt := nt) hnt hps hit I D hI hD J hJ assign round hL hFi i2 (vals := #[.func (.yield w1.heap.size) #[] #[]] ++ cs) hR2 hmu (args_yield hmu hl' fun i hi => (hv' i hi).mono (s1.trans s2)) (hcf _ _)
  refine ⟨w1.heap.size, [{ target := .collected w.heap.size, args := #[] }], w2, { target := .fn (.func f) cs, args := #[.func (.yield w1.heap.size) #[] #[]] }, w2, f, #[.func (.yield w1.heap.size) #[] #[]] ++ cs, w2, ?_, ?_, fun _ _ => trivial, ?_, fun h => by simp [Fw] at h, ?_⟩
  ·rw [← hw2, hrec, ← hw1, show (w.alloc (.deferred (some []))).heap.size = w.heap.size + 1 by simp]; exact run_enterLoop_outer _ _ _ _ _
  ·simp only [resolve, hag]
   simp [go_sem]
  ·simp only [invoke]; exact hcf _ _
  refine callsIn_Fw (hcall.mono fun e w3 ⟨v, he, g3, H3, jump, w4, s3, hR3, hend, hj⟩ => ?_)
  subst he
  refine ⟨jump, w4, hend, ?_⟩
  have s := (s1.trans s2).trans s3
  have hF4 : FR nt g3 w4 { a with defers := [{ target := .collected w.heap.size, args := #[] }] ++ a.defers } { fr with df := g0.nx :: fr.df } := by
   have hF3 := hF.mono s
   refine ⟨hF3.size, hF3.s, ?_⟩
   obtain ⟨bs, k1, k2, k3⟩ := hF3.df
   refine ⟨w.heap.size :: bs, by simpa using k1, fun i hi => ?_, by simp [k3]⟩
   cases i with
   | zero => exact (s2.trans s3).mu _ _ hd
   | succ i => simpa using k2 i (by simpa using hi)
  have hFd : F g0.nx = none := (hI xs).fresh h0 hd0
  rw [hdB] at hj
  rcases hj with ⟨rfl, hi⟩ | ⟨c, rfl, hd⟩
  ·exact ⟨g3, _, H3, s, hR3, hF4, done _ _ hFd hi⟩
  exact wpIn_mono (stop c _ _ hFd hd none g3 w4 _ rfl hR3 hF4) fun _ _ _ => End.later s
end
end Go.Ab

namespace Go.Ab
open Go.RowKit
variable [Glob]
def opsG (P : Program) (A : Ann) (nt : Nat) (ops : Array Oper) : List Oper → Fr → Heap → (Fr → Heap → Prop) → Prop
 | [], fr, H, K => K fr H
 | o :: rest, fr, H, K =>
  dstOk nt o.dst = true ∧
   match o.guard with
   | none => opA P A o (ev fr) H fun v H' => opsG P A nt ops rest (fr.put o.dst v) H' K
   | some (j, want) =>
    match (ops[j]?).bind (·.dst) with
    | some d =>
     match fr.s d with
     | .bool c =>
      (c = want → opA P A o (ev (fr.put (some d) (.bool want))) H fun v H' => opsG P A nt ops rest ((fr.put (some d) (.bool want)).put o.dst v) H' K) ∧
       (c = !want → opsG P A nt ops rest ((fr.put (some d) (.bool !want)).put o.dst (.tup [])) H K)
     | _ => False
    | none => False
theorem appendA_mono {P : Program} {H : Heap} {K K' : V → Heap → Prop} {ts : List TypeId} {vs : List V} (h : appendA P H K ts vs) (hk : ∀ v H', K v H' → K' v H') : appendA P H K' ts vs := by
 unfold appendA at h ⊢
 split at h
 ·obtain ⟨e, sz, by_, z, k1, k2, k3, k4, k5, k6, k7, k8, k9, xs', ys', l1, l2, k10, k11, k12, k13, k14, k15⟩ := h
  exact ⟨e, sz, by_, z, k1, k2, k3, k4, k5, k6, k7, k8, k9, xs', ys', l1, l2, k10, k11, k12, k13, fun e => hk _ _ (k14 e), fun t e1 e2 => hk _ _ (k15 t e1 e2)⟩
 exact h.elim
theorem opA_mono {P : Program} {A : Ann} {o : Oper} {ρ : Operand → V} {H : Heap} {K K' : V → Heap → Prop} (h : opA P A o ρ H K) (hk : ∀ v H', K v H' → K' v H') : opA P A o ρ H K' := by
 unfold opA at h ⊢
 split at h
 ·rcases h with ⟨z, h1, h2, h3⟩ | ⟨h1, sz, h2⟩
  ·exact .inl ⟨z, h1, h2, fun id hid => hk _ _ (h3 id hid)⟩
  exact .inr ⟨h1, sz, fun q id hq hid => hk _ _ (h2 q id hq hid)⟩
 ·refine ⟨h.1, ?_⟩
  obtain ⟨_, h⟩ := h
  split at h <;> rename_i hA
  ·rw [if_pos hA]; exact fun id hid => hk _ _ (h id hid)
  rw [if_neg hA]; exact hk _ _ h
 ·rcases h with ⟨H', h1, h2⟩ | ⟨z, H', h0, h1, h2⟩
  ·exact .inl ⟨H', h1, hk _ _ h2⟩
  exact .inr ⟨z, H', h0, h1, hk _ _ h2⟩
 ·have key : ∀ {K K' : V → Heap → Prop} {t : TypeId} {l c : V}, (∀ v H', K v H' → K' v H') → makeO P H K t l c → makeO P H K' t l c := by
   intro K K' t l c hk h
   unfold makeO at h ⊢
   split at h
   ·obtain ⟨e, sz, by_, z, q1, q2, q3, q4, q5, q6, q7, q8, q9, q10, q11, q12⟩ := h
    exact ⟨e, sz, by_, z, q1, q2, q3, q4, q5, q6, q7, q8, q9, q10, q11, fun id hid => hk _ _ (q12 id hid)⟩
   exact h.elim
  exact h.imp (key hk) (key fun v H' ⟨id, sz, xs, ys, h1, h2, h3⟩ => ⟨id, sz, xs, ys, h1, h2, hk _ _ h3⟩)
 ·exact h.imp (hk _ _) fun ⟨h1, sz, h2⟩ => ⟨h1, sz, fun q hq => hk _ _ (h2 q hq)⟩
 ·exact h.imp (hk _ _) fun ⟨h1, sz, h2⟩ => ⟨h1, sz, fun q hq => hk _ _ (h2 q hq)⟩
 ·exact h.imp (fun ⟨v, h1, h2⟩ => ⟨v, h1, hk _ _ h2⟩) fun ⟨e, sz, xs, ys, h1, h2, h3, h4, h5⟩ => ⟨e, sz, xs, ys, h1, h2, h3, h4, fun q hq => hk _ _ (h5 q hq)⟩
 ·exact ⟨h.1, fun id hid => hk _ _ (h.2 id hid)⟩
 ·obtain ⟨kt, et, d, kv, vv, id, o, m, m', h1, h2, h3, h4, h5, h6, h7, h8, h9, h⟩ := h
  exact ⟨kt, et, d, kv, vv, id, o, m, m', h1, h2, h3, h4, h5, h6, h7, h8, h9, fun o' ho => hk _ _ (h o' ho)⟩
 ·obtain ⟨kt, et, d, kv, vv, id, o, m, m', h1, h2, h3, h4, h5, h6, h7, h8, h9, h⟩ := h
  exact ⟨kt, et, d, kv, vv, id, o, m, m', h1, h2, h3, h4, h5, h6, h7, h8, h9, fun o' ho => hk _ _ (h o' ho)⟩
 ·rcases h with ⟨v, h1, h2⟩ | ⟨q, e, xs, q1, q2, q3, q4, q5, q6⟩
  ·exact .inl ⟨v, h1, hk _ _ h2⟩
  exact .inr ⟨q, e, xs, q1, q2, q3, q4, fun e => hk _ _ (q5 e), hk _ _ q6⟩
 ·split at h
  ·exact h.mono hk
  ·rcases h with h | h | h
   rotate_left
   ·refine .inr (.inl ?_)
    unfold appendO at h ⊢
    split at h
    ·obtain ⟨e, sz, by_, z, k1, k3, k4, k5, k6, k7, k8, k9, h⟩ := h
     refine ⟨e, sz, by_, z, k1, k3, k4, k5, k6, k7, k8, k9, ?_⟩
     rcases h with ⟨k2, ys', l1, l4⟩ | ⟨k2, k, m, l1, l2, l0, l4⟩
     ·exact .inl ⟨k2, ys', l1, appTo_mono l4 hk⟩
     exact .inr ⟨k2, k, m, l1, l2, l0, appTo_mono l4 hk⟩
    exact h.elim
   ·exact .inr (.inr (appendA_mono h fun v H' ⟨y, H2, h1, h2, h3⟩ => ⟨y, H2, h1, h2, hk _ _ h3⟩))
   exact .inl (appendA_mono h hk)
  ·unfold copyO at h ⊢
   split at h
   ·obtain ⟨e, sz, xs, ys', k1, k2, k3, k4, k5, k8⟩ := h
    exact ⟨e, sz, xs, ys', k1, k2, k3, k4, k5, hk _ _ k8⟩
   exact h.elim
  ·unfold clearO at h ⊢
   split at h
   ·obtain ⟨e, sz, z, xs, k1, k2, k3, k4, k5, k6, k7, k8⟩ := h
    exact ⟨e, sz, z, xs, k1, k2, k3, k4, k5, k6, k7, hk _ _ k8⟩
   exact h.elim
  ·obtain ⟨v, h1, h2⟩ := h; exact ⟨v, h1, hk _ _ h2⟩
  exact h.elim
 obtain ⟨v, h1, h2⟩ := h; exact ⟨v, h1, hk _ _ h2⟩
theorem put_self {fr : Fr} {d : Nat} {v : V} (h : fr.s d = v) : fr.put (some d) v = fr := by
 obtain ⟨s, df⟩ := fr
 simp only [Fr.put, Fr.mk.injEq, and_true]
 funext t
 split
 ·rename_i e; subst e; exact h.symm
 rfl
theorem opsG_opsA {P : Program} {A : Ann} {nt : Nat} {ops : Array Oper} {K : Fr → Heap → Prop} : ∀ (l : List Oper) (fr : Fr) (H : Heap), opsG P A nt ops l fr H K → opsA P A nt ops l fr H K
 | [], _, _, h => h
 | o :: rest, fr, H, h => by
  simp only [opsG] at h
  simp only [opsA]
  refine ⟨h.1, ?_⟩
  obtain ⟨_, h⟩ := h
  have mono : ∀ fr, opA P A o (ev fr) H (fun v H' => opsG P A nt ops rest (fr.put o.dst v) H' K) → opA P A o (ev fr) H fun v H' => opsA P A nt ops rest (fr.put o.dst v) H' K := by
   intro fr hh
   refine opA_mono hh fun v H' hk => opsG_opsA rest _ _ hk
  unfold guardV
  split at h
  ·rename_i hg
   simp only [hg]
   exact mono _ h
  rename_i j want hg
  simp only [hg]
  split at h
  ·rename_i d hd
   simp only [hd]
   split at h
   ·rename_i c hc
    simp only [hc]
    obtain ⟨h1, h2⟩ := h
    cases c <;> cases want <;> simp only [beq_self_eq_true, Bool.not_true, Bool.not_false, reduceCtorEq, false_implies, true_implies, forall_const] at h1 h2 ⊢
    all_goals first
     | (rw [put_self hc] at h1; exact mono _ h1)
     | (rw [put_self hc] at h2; exact opsG_opsA rest _ _ h2)
   exact h.elim
  exact h.elim
section
variable {P : Program} {nt : Nat} {rd : Option Nat} {fr : Fr} {H : Heap} {Q : Exit → Fr → Heap → Prop}
theorem Sim.step (A : Ann) {id : Nat} {ops : Array Oper} {rest : Code} (h : ∀ K : Fr → Heap → Prop, (∀ fr' H', Sim P nt rd rest fr' H' Q → K fr' H') → opsG P A nt ops ops.toList fr H K) :
 Sim P nt rd (.seq (.region id ops false) rest) fr H Q :=
 Sim.seq (Sim.region (A := A) (opsG_opsA _ _ _ (h _ fun _ _ x => x)))
theorem Sim.last (A : Ann) {id : Nat} {ops : Array Oper} (h : ∀ K : Fr → Heap → Prop, (∀ fr' H', Q .normal fr' H' → K fr' H') → opsG P A nt ops ops.toList fr H K) :
 Sim P nt rd (.region id ops false) fr H Q := Sim.region (A := A) (opsG_opsA _ _ _ (h _ fun _ _ x => x))
def look : List (Nat × V) → Nat → V
 | [], _ => .bad
 | (k, v) :: l, t => if t = k then v else look l t
def mk (l : List (Nat × V)) (df : List Nat) : Fr := ⟨look l, df⟩
end
end Go.Ab

