/- AbA18 AbA19 -/
import Derived.Test.YtildiiggamckaaaGreatDoorT13
set_option linter.all false
namespace Go.Ab
open Go.RowKit
variable [G5]
structure C6 (I : A0 → A0 → Prop) : Prop where
 le : ∀ {F H}, I F H → ∀ id b, F id = some b → H id = some b
 chg : ∀ {F H} (id : Nat) (b : Option Au), I F H → H id = F id → I (upd F id b) (upd H id b)
theorem C6.fresh {I : A0 → A0 → Prop} (h : C6 I) {F H : A0} (i : I F H) {id : Nat} (hn : H id = none) : F id = none := by
 cases hf : F id with
 | none => rfl
 | some b => rw [h.le i id b hf] at hn; cases hn
def DD (P : Program) (it : V) (xs : List (List V)) : Prop :=
 ∃ f C, it = .func (.func f) [] C ∧ (∀ vals w, (callFunc f vals).run P w = .ok (.enter f vals) w) ∧
  ∀ (yv : V) (I : List (List V) → A0 → A0 → Prop) (D : A0 → A0 → Prop), (∀ l, C6 (I l)) → C6 D →
   ((yv.one = true ∧ yv.cells = [yv]) ∧ ∀ x l F H, I (x :: l) F H → Am P yv x H fun r H' => (r = .bool true ∧ I l F H') ∨ (r = .bool false ∧ D F H')) →
   ∀ F H, I xs F H → E7 P f (yv :: C) H fun _ H' => I [] F H' ∨ D F H'
def Ol (I : A0 → A0 → Prop) (D : Code → A0 → A0 → Prop) (F : A0) (e : Exit) (H : A0) : Prop :=
 match e with
 | .normal => I F H
 | .ret => D .ret F H
 | .exit k => D (.exit k) F H
 | _ => False
theorem PT {I : A0 → A0 → Prop} {D : Code → A0 → A0 → Prop} {F : A0} {e : Exit} {H : A0} (h : Ol I D F e H) : (MG e = some none ∧ I F H) ∨ ∃ c, MG e = some (some c) ∧ D c F H := by
 cases e <;> simp only [Ol] at h
 ·exact .inl ⟨rfl, h⟩
 ·exact .inr ⟨_, rfl, h⟩
 exact .inr ⟨_, rfl, h⟩
section
variable {P : Program} {nt : Nat}
theorem Pw {fr : Fr} {ps : Array Tmp} {asg body : Code} {xs : List (List V)} {f : FuncId} {C : List V} {id : Nat} (hnt : ∀ p ∈ ps, p < nt) (hps : ∀ x ∈ xs, x.length = ps.size)
 (hit : ∀ (yv : V) (I : List (List V) → A0 → A0 → Prop) (D : A0 → A0 → Prop), (∀ l, C6 (I l)) → C6 D →
  ((yv.one = true ∧ yv.cells = [yv]) ∧ ∀ x l F H, I (x :: l) F H → Am P yv x H fun r H' => (r = .bool true ∧ I l F H') ∨ (r = .bool false ∧ D F H')) →
  ∀ F H, I xs F H → E7 P f (yv :: C) H fun _ H' => I [] F H' ∨ D F H')
 (I : List (List V) → A0 → A0 → Prop) (D : Code → A0 → A0 → Prop) (hI : ∀ l, C6 (I l)) (hD : ∀ c, C6 (D c)) (J : List V → List (List V) → Fr → A0 → A0 → Prop) (hJ : ∀ x l fr, C6 (J x l fr))
 (assign : ∀ id L x l F H, I (x :: l) F H → F id = some (.loop L) → x.length = ps.size → N9 P nt (some id) asg ⟨CS fr.s ps.toList x, []⟩ H fun e fr' H1 => e = .normal ∧ J x l fr' F H1)
 (round : ∀ id L x l fr' F H, J x l fr' F H → F id = some (.loop L) → N9 P nt (some id) body fr' H fun e _ H' => Ol (I l) D F e H')
 {F0 H2 : A0} {L : VL} (hL : L = { nt := nt, s := fr.s, st := .ready, pe := none, ps := ps, asg := asg, body := body }) (hF0 : F0 id = none) (h0 : I xs (upd F0 id (some (.loop L))) H2)
 {g2 : Gh} {w2 : World} {b : Nat} {vals : Array Value} (hR : Rl g2 H2 w2) (hmu : g2.mu id = some b) (hA : Args g2 w2 vals (.yield id :: C)) (hcf : (callFunc f vals).run P w2 = .ok (.enter f vals) w2) :
 CallsIn Fence.wide 0 P f vals w2 fun e w3 => ∃ v, e = .returned v ∧ ∃ g3 H3 jump w4, M4 g2 w2 g3 w4 ∧ Rl g3 H3 w4 ∧ (Instr.endLoop b).run P w3 = .ok jump w4 ∧ ((jump = none ∧ I [] F0 H3) ∨ ∃ c, jump = some c ∧ D c F0 H3) := by
 have hc := hit (.yield id) (fun l F H => (∀ x ∈ l, x.length = ps.size) ∧ F id = none ∧ I l (upd F id (some (.loop L))) H)
  (fun F H => F id = none ∧ ∃ c, D c (upd F id (some (.loop { L with st := .done, pe := some c }))) H) ?_ ?_ ⟨⟨rfl, rfl⟩, ?_⟩ F0 H2 ⟨hps, hF0, h0⟩ g2 w2 vals hR hA
 ·rw [hcf] at hc
  have hc' : CallsIn Fence.wide 0 P f vals w2 _ := hc;refine hc'.mono fun e w3 ⟨v, he, g3, u, H3, s, hR3, _, hK⟩ => ⟨v, he, ?_⟩;have hmu3 := s.mu _ _ hmu
  have fin : ∀ (L' : VL) (X : A0 → A0 → Prop), C6 X → X (upd F0 id (some (.loop L'))) H3 → L'.st ≠ .busy → ∃ g4 H4 w4, M4 g2 w2 g4 w4 ∧ Rl g4 H4 w4 ∧ (Instr.endLoop b).run P w3 = .ok L'.pe w4 ∧ X F0 H4 := by
   intro L' X hX hx hst;have hk3 := hX.le hx id _ (A9 _ _ _);obtain ⟨b3, r3, j1, j2, j3, j4, j5, j6, j7, j8, j9, j10⟩ := hR3.blk id _ hk3
   rw [hmu3] at j1; cases j1
   have hend := run_endLoop (P := P) j3 (by rw [j4]; exact hst)
   rw [j5] at hend
   obtain ⟨s4, hR4⟩ := hR3.putGen (k' := .loop { L' with st := .exhausted }) (o' := .loop { r3 with state := .exhausted, pending := L'.pe }) rfl rfl hk3 hmu3 rfl fun s hh hb =>
    ⟨b, _, hmu3, hb, hh, rfl, rfl, j6, j7, j8, j9, fun t => (j10 t).mono s⟩
   refine ⟨g3, upd H3 id none, _, s.trans s4, hR4.less fun x bb hx => ?_, hend, ?_⟩
   ·by_cases e : x = id
    ·subst e; rw [A9] at hx; cases hx
    rw [A3 _ _ e] at hx ⊢; exact hx
   have := hX.chg id none hx (by rw [hk3, A9])
   rwa [Nk _ _ _ hF0] at this
  rcases hK with ⟨_, _, hi⟩ | ⟨_, c, hd⟩
  ·obtain ⟨g4, H4, w4, k1, k2, k3, k4⟩ := fin L (I []) (hI _) hi (by rw [hL]; simp);exact ⟨g4, H4, _, w4, k1, k2, k3, .inl ⟨by rw [hL], k4⟩⟩
  obtain ⟨g4, H4, w4, k1, k2, k3, k4⟩ := fin _ (D c) (hD _) hd (by simp);exact ⟨g4, H4, _, w4, k1, k2, k3, .inr ⟨c, rfl, k4⟩⟩
 ·intro l;refine ⟨fun {F H} ⟨_, hn, hi⟩ x bb hx => (hI l).le hi x bb ?_, fun {F H} x bb ⟨hs, hn, hi⟩ hx => ?_⟩
  ·rw [A3 _ _ (L7 hn hx)]; exact hx
  have hne : x ≠ id := fun e => by subst e; rw [hn] at hx; rw [(hI l).le hi x _ (A9 _ _ _)] at hx; cases hx
  refine ⟨hs, by rw [A3 _ _ (fun e => hne e.symm)]; exact hn, ?_⟩;have := (hI l).chg x bb hi (by rw [A3 _ _ hne]; exact hx)
  rwa [Jh _ _ _ (Ne.symm hne)] at this
 ·refine ⟨fun {F H} ⟨hn, c, hi⟩ x bb hx => (hD c).le hi x bb ?_, fun {F H} x bb ⟨hn, c, hi⟩ hx => ?_⟩
  ·rw [A3 _ _ (L7 hn hx)]; exact hx
  have hne : x ≠ id := fun e => by subst e; rw [hn] at hx; rw [(hD c).le hi x _ (A9 _ _ _)] at hx; cases hx
  refine ⟨by rw [A3 _ _ (fun e => hne e.symm)]; exact hn, c, ?_⟩;have := (hD c).chg x bb hi (by rw [A3 _ _ hne]; exact hx)
  rwa [Jh _ _ _ (Ne.symm hne)] at this
 rintro x l F H ⟨hs, hn, hi⟩;have hk := (hI _).le hi id _ (A9 _ _ _);have hxs := hs x (by simp);have ha := assign id L x l _ H hi (A9 _ _ _) hxs;subst hL;refine OC hk rfl hxs hnt (ha.mono fun e fr' H1 ⟨he, hj⟩ => ?_);have hk1 := (hJ x l fr').le hj id _ (A9 _ _ _);refine ⟨he, hk1, ?_⟩;have hj2 := (hJ x l fr').chg id (some (.loop { ({ nt := nt, s := fr.s, st := .ready, pe := none, ps := ps, asg := asg, body := body } : VL) with st := .busy })) hj (by rw [hk1, A9])
 rw [P6] at hj2
 refine (round id _ x l fr' _ _ hj2 (A9 _ _ _)).mono fun e fr'' H2 hq => ?_
 rcases PT hq with ⟨hjmp, hi2⟩ | ⟨c, hjmp, hd2⟩
 ·have hk2 := (hI l).le hi2 id _ (A9 _ _ _);refine ⟨none, hjmp, hk2, .inl ⟨rfl, fun y hy => hs y (by simp [hy]), hn, ?_⟩⟩;have := (hI l).chg id (some (.loop { nt := nt, s := fr.s, st := .ready, pe := none, ps := ps, asg := asg, body := body })) hi2 (by rw [hk2, A9])
  rwa [P6] at this
 have hk2 := (hD c).le hd2 id _ (A9 _ _ _);refine ⟨some c, hjmp, hk2, .inr ⟨rfl, hn, c, ?_⟩⟩;have := (hD c).chg id (some (.loop { nt := nt, s := fr.s, st := .done, pe := some c, ps := ps, asg := asg, body := body })) hd2 (by rw [hk2, A9])
 rwa [P6] at this
theorem Qd {g : Gh} {w : World} {id b : Nat} {cs : Array Value} {C : List V} (hmu : g.mu id = some b) (h1 : cs.size = C.length) (h2 : ∀ i, i < C.length → VR g w (cs.getD i undef) (C.getD i .bad)) :
 Args g w (#[.func (.yield b) #[] #[]] ++ cs) (.yield id :: C) :=
 Args.append (x := [.yield id]) (a := #[.func (.yield b) #[] #[]]) ⟨rfl, fun i hi => match i, hi with | 0, _ => .yield hmu⟩ ⟨h1, h2⟩
theorem N9.rangeOuter {fr : Fr} {H F : A0} {g : Operand} {ps : Array Tmp} {asg body : Code} {xs : List (List V)} {Q : Exit → Fr → A0 → Prop} (hnt : ∀ p ∈ ps, p < nt) (hps : ∀ x ∈ xs, x.length = ps.size) (hit : DD P (ev fr g) xs)
 (I : List (List V) → A0 → A0 → Prop) (D : Code → A0 → A0 → Prop) (hI : ∀ l, C6 (I l)) (hD : ∀ c, C6 (D c)) (J : List V → List (List V) → Fr → A0 → A0 → Prop) (hJ : ∀ x l fr, C6 (J x l fr)) (h0 : I xs F H)
 (assign : ∀ id L x l F H, I (x :: l) F H → F id = some (.loop L) → x.length = ps.size → N9 P nt (some id) asg ⟨CS fr.s ps.toList x, []⟩ H fun e fr' H1 => e = .normal ∧ J x l fr' F H1)
 (round : ∀ id L x l fr' F H, J x l fr' F H → F id = some (.loop L) → N9 P nt (some id) body fr' H fun e _ H' => Ol (I l) D F e H')
 (done : ∀ d H', F d = none → I [] (upd F d (some (.obj (.deferred (some []))))) H' → Q .normal { fr with df := d :: fr.df } H')
 (stop : ∀ c d H', F d = none → D c (upd F d (some (.obj (.deferred (some []))))) H' → N9 P nt none c { fr with df := d :: fr.df } H' Q) : N9 P nt none (.rangeFunc g ps asg body) fr H Q := by
 intro r g0 w a hr hR hF;have hr : r = none := hr;subst hr;obtain ⟨f, C, hev, hcf, hit⟩ := hit;refine wpIn_rangeFunc fun fn _ => ?_;have hv := C4 hR hF.s g
 rw [hev] at hv
 generalize hag : a.eval g = gv at hv
 cases hv with
 | func hl hv hl' hv' =>
  rename_i fs cs;have hfs : fs = #[] := Array.eq_empty_of_size_eq_zero (by simpa using hl);subst hfs;obtain ⟨dB, hdB⟩ : ∃ dB : Au, dB = .obj (.deferred (some [])) := ⟨_, rfl⟩;have hd0 : H g0.nx = none := (hR.nxt _ (Nat.le_refl _)).2.2;have s1 := M4.new hR (.deferred (some [])) False 0;have hR1 := hR.newNamed (.deferred (some [])) dB (by rw [hdB]; simp) (by rw [hdB]; exact ⟨w.heap.size, by simp [Gh.new], hR.bnd, X2, rfl⟩) (by rw [hdB]; intro _ _ h; cases h);obtain ⟨w1, hw1⟩ : ∃ w1, w.alloc (.deferred (some [])) = w1 := ⟨_, rfl⟩;obtain ⟨g1, hg1⟩ : ∃ g1, g0.new w False 0 = g1 := ⟨_, rfl⟩;obtain ⟨L, hL⟩ : ∃ L : VL, L = { nt := nt, s := fr.s, st := .ready, pe := none, ps := ps, asg := asg, body := body } := ⟨_, rfl⟩;obtain ⟨rec, hrec⟩ : ∃ rec : Loop, rec = { state := .ready, pending := none, fn, tmps := a.tmps, params := ps, assign := asg, body, defers := w.heap.size } := ⟨_, rfl⟩
  rw [hw1, hg1] at hR1 s1
  have hd : g1.mu g0.nx = some w.heap.size := by rw [← hg1]; simp [Gh.new]
  have hnx : g1.nx = g0.nx + 1 := by rw [← hg1]; rfl
  have hF1 := hF.mono s1;have s2 := M4.new hR1 (.loop rec) False 0;have hF2 := hF1.mono s2
  have hR2 := hR1.newNamed (.loop rec) (.loop L) (by simp) (by
   rw [hL, hrec]
   exact ⟨w1.heap.size, _, by simp [Gh.new], hR1.bnd, X2, rfl, rfl, rfl, rfl, rfl, hF.size, fun t => by have := hF2.s t; rw [hrec] at this; exact this⟩)
  obtain ⟨w2, hw2⟩ : ∃ w2, w1.alloc (.loop rec) = w2 := ⟨_, rfl⟩;obtain ⟨g2, hg2⟩ : ∃ g2, g1.new w1 False 0 = g2 := ⟨_, rfl⟩
  rw [hw2, hg2] at hR2 s2 hF2
  have hmu : g2.mu g1.nx = some w1.heap.size := by rw [← hg2]; simp [Gh.new]
  have hi0 : (upd H g0.nx (some dB)) g1.nx = none := (hR1.nxt _ (Nat.le_refl _)).2.2
  have hsz : w1.heap.size = w.heap.size + 1 := by rw [← hw1]; simp
  have i1 := (hI xs).chg g0.nx (some dB) h0 (by rw [hd0, (hI xs).fresh h0 hd0]);have hFi := (hI xs).fresh i1 hi0;have i2 := (hI xs).chg g1.nx (some (.loop L)) i1 (by rw [hi0, hFi]);have hcall := Pw (fr := fr) (nt := nt) hnt hps hit I D hI hD J hJ assign round hL hFi i2 (vals := #[.func (.yield w1.heap.size) #[] #[]] ++ cs) hR2 hmu (Qd hmu hl' fun i hi => (hv' i hi).mono (s1.trans s2)) (hcf _ _);refine ⟨w1.heap.size, [{ target := .collected w.heap.size, args := #[] }], w2, { target := .fn (.func f) cs, args := #[.func (.yield w1.heap.size) #[] #[]] }, w2, f, #[.func (.yield w1.heap.size) #[] #[]] ++ cs, w2, ?_, ?_, fun _ _ => trivial, ?_, fun h => by simp [Fw] at h, ?_⟩
  ·rw [← hw2, hrec, ← hw1, show (w.alloc (.deferred (some []))).heap.size = w.heap.size + 1 by simp]; exact run_enterLoop_outer _ _ _ _ _
  ·simp only [resolve, hag];simp [go_sem]
  ·simp only [invoke]; exact hcf _ _
  refine Kr (hcall.mono fun e w3 ⟨v, he, g3, H3, jump, w4, s3, hR3, hend, hj⟩ => ?_);subst he;refine ⟨jump, w4, hend, ?_⟩;have s := (s1.trans s2).trans s3
  have hF4 : FR nt g3 w4 { a with defers := [{ target := .collected w.heap.size, args := #[] }] ++ a.defers } { fr with df := g0.nx :: fr.df } := by
   have hF3 := hF.mono s;refine ⟨hF3.size, hF3.s, ?_⟩;obtain ⟨bs, k1, k2, k3⟩ := hF3.df;refine ⟨w.heap.size :: bs, by simpa using k1, fun i hi => ?_, by simp [k3]⟩
   cases i with
   | zero => exact (s2.trans s3).mu _ _ hd
   | succ i => simpa using k2 i (by simpa using hi)
  have hFd : F g0.nx = none := (hI xs).fresh h0 hd0
  rw [hdB] at hj
  rcases hj with ⟨rfl, hi⟩ | ⟨c, rfl, hd⟩
  ·exact ⟨g3, _, H3, s, hR3, hF4, done _ _ hFd hi⟩
  exact wpIn_mono (stop c _ _ hFd hd none g3 w4 _ rfl hR3 hF4) fun _ _ _ => OP.later s
end
end Go.Ab
namespace Go.Ab
open Go.RowKit
variable [G5]
def NL (P : Program) (A : KG) (nt : Nat) (ops : Array Oper) : List Oper → Fr → A0 → (Fr → A0 → Prop) → Prop
 | [], fr, H, K => K fr H
 | o :: rest, fr, H, K =>
  Cw nt o.dst = true ∧
   match o.guard with
   | none => Dh P A o (ev fr) H fun v H' => NL P A nt ops rest (fr.put o.dst v) H' K
   | some (j, want) =>
    match (ops[j]?).bind (·.dst) with
    | some d =>
     match fr.s d with
     | .bool c =>
      (c = want → Dh P A o (ev (fr.put (some d) (.bool want))) H fun v H' => NL P A nt ops rest ((fr.put (some d) (.bool want)).put o.dst v) H' K) ∧
       (c = !want → NL P A nt ops rest ((fr.put (some d) (.bool !want)).put o.dst (.tup [])) H K)
     | _ => False
    | none => False
theorem HC {P : Program} {H : A0} {K K' : V → A0 → Prop} {ts : List TypeId} {vs : List V} (h : CG P H K ts vs) (hk : ∀ v H', K v H' → K' v H') : CG P H K' ts vs := by
 unfold CG at h ⊢
 split at h
 ·obtain ⟨e, sz, by_, z, k1, k2, k3, k4, k5, k6, k7, k8, k9, xs', ys', l1, l2, k10, k11, k12, k13, k14, k15⟩ := h;exact ⟨e, sz, by_, z, k1, k2, k3, k4, k5, k6, k7, k8, k9, xs', ys', l1, l2, k10, k11, k12, k13, fun e => hk _ _ (k14 e), fun t e1 e2 => hk _ _ (k15 t e1 e2)⟩
 exact h.elim
theorem Fp {P : Program} {A : KG} {o : Oper} {ρ : Operand → V} {H : A0} {K K' : V → A0 → Prop} (h : Dh P A o ρ H K) (hk : ∀ v H', K v H' → K' v H') : Dh P A o ρ H K' := by
 unfold Dh at h ⊢
 split at h
 ·rcases h with ⟨z, h1, h2, h3⟩ | ⟨h1, sz, h2⟩
  ·exact .inl ⟨z, h1, h2, fun id hid => (h3 id hid).imp fun _ h => ⟨h.1, hk _ _ h.2⟩⟩
  exact .inr ⟨h1, sz, fun q id hq hid => hk _ _ (h2 q id hq hid)⟩
 ·refine ⟨h.1, ?_⟩;obtain ⟨_, h⟩ := h
  split at h <;> rename_i hA
  ·rw [if_pos hA]; exact fun id hid => hk _ _ (h id hid)
  rw [if_neg hA]; exact hk _ _ h
 ·rcases h with ⟨z, H', h0, h1, h2⟩ | ⟨z, H', h0, h1, h2⟩
  ·exact .inl ⟨z, H', h0, h1, hk _ _ h2⟩
  exact .inr ⟨z, H', h0, h1, hk _ _ h2⟩
 ·have key : ∀ {K K' : V → A0 → Prop} {t : TypeId} {l c : V}, (∀ v H', K v H' → K' v H') → Iy P H K t l c → Iy P H K' t l c := by
   intro K K' t l c hk h
   unfold Iy at h ⊢
   split at h
   ·obtain ⟨e, sz, by_, z, q1, q2, q3, q4, q5, q6, q7, q8, q9, q10, q11, q12⟩ := h;exact ⟨e, sz, by_, z, q1, q2, q3, q4, q5, q6, q7, q8, q9, q10, q11, fun id hid => hk _ _ (q12 id hid)⟩
   exact h.elim
  exact h.imp (key hk) (key fun v H' ⟨id, sz, xs, ys, h1, h2, h3⟩ => ⟨id, sz, xs, ys, h1, h2, hk _ _ h3⟩)
 ·exact h.imp (hk _ _) fun ⟨h1, sz, h2⟩ => ⟨h1, sz, fun q hq => hk _ _ (h2 q hq)⟩
 ·exact h.imp (hk _ _) fun ⟨h1, sz, h2⟩ => ⟨h1, sz, fun q hq => hk _ _ (h2 q hq)⟩
 ·exact h.imp (fun ⟨v, h1, h2⟩ => ⟨v, h1, hk _ _ h2⟩) fun ⟨e, sz, xs, ys, h1, h2, h3, h4, h5⟩ => ⟨e, sz, xs, ys, h1, h2, h3, h4, fun q hq => hk _ _ (h5 q hq)⟩
 ·exact ⟨h.1, Ln h.2 hk⟩
 ·exact CB h (hk _)
 ·exact CB h (hk _)
 ·exact Ir h hk
 ·exact ⟨h.1, JK h.2 hk⟩
 ·exact IF h hk
 ·rcases h with ⟨v, h1, h2⟩ | ⟨q, e, xs, q1, q2, q3, q4, q5, q6⟩
  ·exact .inl ⟨v, h1, hk _ _ h2⟩
  exact .inr ⟨q, e, xs, q1, q2, q3, q4, fun e => hk _ _ (q5 e), hk _ _ q6⟩
 ·split at h
  ·exact h.mono hk
  ·rcases h with h | h | h
   rotate_left
   ·refine .inr (.inl ?_)
    unfold HB at h ⊢
    split at h
    ·obtain ⟨e, sz, by_, z, k1, k3, k4, k5, k6, k7, k8, k9, h⟩ := h;refine ⟨e, sz, by_, z, k1, k3, k4, k5, k6, k7, k8, k9, ?_⟩
     rcases h with ⟨k2, ys', l1, l4⟩ | ⟨k2, k, m, l1, l2, l0, l4⟩
     ·exact .inl ⟨k2, ys', l1, EQ l4 hk⟩
     exact .inr ⟨k2, k, m, l1, l2, l0, EQ l4 hk⟩
    exact h.elim
   ·exact .inr (.inr (HC h fun v H' ⟨y, H2, h1, h2, h3⟩ => ⟨y, H2, h1, h2, hk _ _ h3⟩))
   exact .inl (HC h hk)
  ·unfold Oy at h ⊢
   split at h
   ·obtain ⟨e, sz, xs, ys', k1, k2, k3, k4, k5, k8⟩ := h;exact ⟨e, sz, xs, ys', k1, k2, k3, k4, k5, hk _ _ k8⟩
   exact h.elim
  ·unfold Kq at h ⊢
   split at h
   ·obtain ⟨e, sz, z, xs, k1, k2, k3, k4, k5, k6, k7, k8⟩ := h;exact ⟨e, sz, z, xs, k1, k2, k3, k4, k5, k6, k7, hk _ _ k8⟩
   exact h.elim
  ·exact Hu h hk
  ·obtain ⟨v, h1, h2⟩ := h; exact ⟨v, h1, hk _ _ h2⟩
  exact h.elim
 obtain ⟨v, h1, h2⟩ := h; exact ⟨v, h1, hk _ _ h2⟩
theorem NH {fr : Fr} {d : Nat} {v : V} (h : fr.s d = v) : fr.put (some d) v = fr := by
 obtain ⟨s, df⟩ := fr;simp only [Fr.put, Fr.mk.injEq, and_true]
 funext t
 split
 ·rename_i e; subst e; exact h.symm
 rfl
theorem FQ {P : Program} {A : KG} {nt : Nat} {ops : Array Oper} {K : Fr → A0 → Prop} : ∀ (l : List Oper) (fr : Fr) (H : A0), NL P A nt ops l fr H K → DM P A nt ops l fr H K
 | [], _, _, h => h
 | o :: rest, fr, H, h => by
  simp only [NL] at h
  simp only [DM];refine ⟨h.1, ?_⟩;obtain ⟨_, h⟩ := h
  have mono : ∀ fr, Dh P A o (ev fr) H (fun v H' => NL P A nt ops rest (fr.put o.dst v) H' K) → Dh P A o (ev fr) H fun v H' => DM P A nt ops rest (fr.put o.dst v) H' K := by
   intro fr hh;refine Fp hh fun v H' hk => FQ rest _ _ hk
  unfold U9
  split at h
  ·rename_i hg;simp only [hg];exact mono _ h
  rename_i j want hg;simp only [hg]
  split at h
  ·rename_i d hd;simp only [hd]
   split at h
   ·rename_i c hc;simp only [hc];obtain ⟨h1, h2⟩ := h
    cases c <;> cases want <;> simp only [beq_self_eq_true, Bool.not_true, Bool.not_false, reduceCtorEq, false_implies, true_implies, forall_const] at h1 h2 ⊢
    all_goals first
     | (rw [NH hc] at h1; exact mono _ h1)
     | (rw [NH hc] at h2; exact FQ rest _ _ h2)
   exact h.elim
  exact h.elim
section
variable {P : Program} {nt : Nat} {rd : Option Nat} {fr : Fr} {H : A0} {Q : Exit → Fr → A0 → Prop}
theorem N9.step (A : KG) {id : Nat} {ops : Array Oper} {rest : Code} (h : ∀ K : Fr → A0 → Prop, (∀ fr' H', N9 P nt rd rest fr' H' Q → K fr' H') → NL P A nt ops ops.toList fr H K) :
 N9 P nt rd (.seq (.region id ops false) rest) fr H Q :=
 N9.seq (N9.region (A := A) (FQ _ _ _ (h _ fun _ _ x => x)))
theorem N9.last (A : KG) {id : Nat} {ops : Array Oper} (h : ∀ K : Fr → A0 → Prop, (∀ fr' H', Q .normal fr' H' → K fr' H') → NL P A nt ops ops.toList fr H K) :
 N9 P nt rd (.region id ops false) fr H Q := N9.region (A := A) (FQ _ _ _ (h _ fun _ _ x => x))
def EW : List (Nat × V) → Nat → V
 | [], _ => .bad
 | (k, v) :: l, t => if t = k then v else EW l t
def mk (l : List (Nat × V)) (df : List Nat) : Fr := ⟨EW l, df⟩
end
end Go.Ab
