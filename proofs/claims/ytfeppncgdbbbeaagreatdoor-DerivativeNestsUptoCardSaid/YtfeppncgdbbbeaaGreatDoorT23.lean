/- AbB4 AbB5 -/
import Derived.Test.YtfeppncgdbbbeaaGreatDoorT22
set_option linter.all false

namespace Go.Ab
open Go.RowKit
variable [Glob] [Ar]
def YieldOk (P : Program) (yv : V) (I : List (List V) → Heap → Heap → Prop) (D : Heap → Heap → Prop) : Prop :=
 (yv.one = true ∧ yv.cells = [yv]) ∧ ∀ x l F H, I (x :: l) F H → CallV P yv x H fun r H' => (r = .bool true ∧ I l F H') ∨ (r = .bool false ∧ D F H')
def EmitP (P : Program) (f : FuncId) (args : V → List V) (xs : List (List V)) (rb : V → Bool → Prop) : Prop :=
 ∀ yv I D, (∀ l, Stable (I l)) → Stable D → YieldOk P yv I D → ∀ tl F H, I (xs ++ tl) F H → CallA P f (args yv) H fun v H' => (rb v true ∧ I tl F H') ∨ (rb v false ∧ D F H')
def rbB (v : V) (b : Bool) : Prop := v = .bool b
def rbN (_ : V) (_ : Bool) : Prop := True
section
variable {P : Program} {nt : Nat} {rd : Option Nat} {T : Tbl} {E : Env} {I : List (List V) → Heap → Heap → Prop} {D : Heap → Heap → Prop}
theorem CallV.heap {fv : V} {args : List V} {H H1 : Heap} {K : V → Heap → Prop} (h : CallV P fv args H1 K) (hl : HLe H1 H) : CallV P fv args H K :=
 fun g w v vals hR hv hA => h g w v vals (hR.less hl) hv hA
theorem CallA.heap {f : FuncId} {args : List V} {H H1 : Heap} {K : V → Heap → Prop} (h : CallA P f args H1 K) (hl : HLe H1 H) : CallA P f args H K :=
 fun g w vals hR hA => h g w vals (hR.less hl) hA
theorem n_yield (hE : E = real P nt rd) (hI : ∀ l, Stable (I l)) (hD : Stable D) {yv : V} (hy : YieldOk P yv I D) {F H : Heap} {L : List En} {args x : List V} {l : List (List V)} {k : V → Heap → Prop} (hO : Own (I (x :: l)) F L H) (hl : LeVs args x)
 (h1 : ∀ H', Own (I l) F L H' → k (.bool true) H') (h2 : ∀ H', Own D F L H' → k (.bool false) H') : E.call yv args H k := by
 subst hE
 obtain ⟨hs, F', H1, h0, hi, hle⟩ := hO
 refine (CallV.mono (((hy.2 x l F' H1 hi).heap hle).args hl) fun r H' hr => ?_)
 rcases hr with ⟨rfl, hr⟩ | ⟨rfl, hr⟩
 ·exact h1 H' ⟨hI l, F', H', h0, hr, HLe.refl _⟩
 exact h2 H' ⟨hD, F', H', h0, hr, HLe.refl _⟩
theorem n_emit (hE : E = real P nt rd) (hI : ∀ l, Stable (I l)) (hD : Stable D) {yv : V} (hy : YieldOk P yv I D) {f : FuncId} {args' : V → List V} {xs tl : List (List V)} {rb : V → Bool → Prop} (hc : EmitP P f args' xs rb) {F H : Heap} {L : List En} {args : List V} {k : V → Heap → Prop} (hO : Own (I (xs ++ tl)) F L H)
 (hl : LeVs args (args' yv)) (h1 : ∀ v H', rb v true → Own (I tl) F L H' → k v H') (h2 : ∀ v H', rb v false → Own D F L H' → k v H') : E.call (.func (.func f) [] []) args H k := by
 subst hE
 obtain ⟨hs, F', H1, h0, hi, hle⟩ := hO
 have h3 : CallA P f args H k := (((hc yv I D hI hD hy tl F' H1 hi).heap hle).args hl).mono fun v H' hr => by
  rcases hr with ⟨hb, hr⟩ | ⟨hb, hr⟩
  ·exact h1 v H' hb ⟨hI tl, F', H', h0, hr, HLe.refl _⟩
  exact h2 v H' hb ⟨hD, F', H', h0, hr, HLe.refl _⟩
 exact CallA.value (F := []) (C := []) (by simpa using h3)
theorem n_brT (hE : E = real P nt rd) {c : Bool} {x y : Unit → Prop} (hc : c = true) (h : x ()) : E.br c x y := by subst hE; exact ⟨fun _ => h, fun e => by rw [hc] at e; cases e⟩
theorem n_brF (hE : E = real P nt rd) {c : Bool} {x y : Unit → Prop} (hc : c = false) (h : y ()) : E.br c x y := by subst hE; exact ⟨fun e => (by rw [hc] at e; cases e), fun _ => h⟩
theorem emitP_of_spec {f : FuncId} {fn : Func} {c : Code} {n : Nat} {rs : List ResultVar} {args : V → List V} {xs : List (List V)} {rb : V → Bool → Prop} (cf : Cf) (hP : POk P T) (hf : P.funcs[f]? = some fn) (hb : fn.body = some c) (hd : drawsOk cf c = true)
 (hcall : ∀ vals w, (callFunc f vals).run P w = .ok (.enter f vals) w) (hnt : fn.ntmps = n) (hrs : fn.results.toList = rs) (hn : ∀ yv, Nat.ble (args yv).length n = true)
 (h : ∀ (yv : V) (I : List (List V) → Heap → Heap → Prop) (D : Heap → Heap → Prop), (∀ l, Stable (I l)) → Stable D → YieldOk P yv I D → ∀ (tl : List (List V)) (F : Heap) (E : Env) (H : Heap) (K : V → Heap → Prop), E = real P n none → Own (I (xs ++ tl)) F [] H →
  (∀ x L H', Own (I tl) F L H' → rb x true → K x H') → (∀ x L H', Own D F L H' → rb x false → K x H') → run E T n cf c ⟨entryL (args yv) 0, []⟩ H (finX E T rs K)) : EmitP P f args xs rb := by
 intro yv I D hI hD hy tl F H hi
 refine (callA_of_run (K := fun x H' => ∃ y H2, LeV x y ∧ HLe H2 H' ∧ ((rb y true ∧ I tl F H2) ∨ (rb y false ∧ D F H2))) cf hP.1 hP.2 hf hb hd hcall hnt hrs (hn yv) fun E hE => ?_).le
 refine h yv I D hI hD hy tl F E H _ hE (Own.start (hI _) hi) (fun x L H' hO hx => ?_) fun x L H' hO hx => ?_
 ·obtain ⟨H2, h1, h2⟩ := hO.out
  exact ⟨x, H2, .refl _, h2, .inl ⟨hx, h1⟩⟩
 obtain ⟨H2, h1, h2⟩ := hO.out
 exact ⟨x, H2, .refl _, h2, .inr ⟨hx, h1⟩⟩
theorem iterV_of_emit {f : FuncId} {C : List V} {xs : List (List V)} {rb : V → Bool → Prop} (hcall : ∀ vals w, (callFunc f vals).run P w = .ok (.enter f vals) w) (h : EmitP P f (fun yv => yv :: C) xs rb) : IterV P (.func (.func f) [] C) xs :=
 ⟨f, C, rfl, hcall, fun yv I D hI hD hy F H hi => (h yv I D hI hD hy [] F H (by rwa [List.append_nil])).mono fun v H' hr => hr.imp (fun h => h.2) fun h => h.2⟩
theorem Own.cast {Φ : Heap → Heap → Prop} {H0 H : Heap} {L L' : List En} (h : Own Φ H0 L H) (e : L = L') : Own Φ H0 L' H := e ▸ h
noncomputable def dbs (ds : List Nat) : List En := List.rec (motive := fun _ => List En) [] (fun d _ l => l ++ [.blk d DB]) ds
theorem dbs_cons (d : Nat) (ds : List Nat) : dbs (d :: ds) = dbs ds ++ [.blk d DB] := rfl
theorem Own.dbs1 {Φ : Heap → Heap → Prop} {H0 H : Heap} {A : List En} {d : Nat} {ds : List Nat} (h : Own Φ H0 ((A ++ dbs ds) ++ [.blk d DB]) H) : Own Φ H0 (A ++ dbs (d :: ds)) H := by
 rw [dbs_cons, ← List.append_assoc]; exact h
theorem fin_all {Φ : Heap → Heap → Prop} {H0 : Heap} {A : List En} : ∀ {ds : List Nat} {H : Heap}, Own Φ H0 (A ++ dbs ds) H → ds.Nodup ∧ (∀ id, id ∈ ds → H id = some DB) ∧ Own Φ H0 A (clear H ds) := by
 intro ds
 induction ds with
 | nil =>
  intro H h
  have e : clear H [] = H := by funext x; simp [clear]
  rw [e]
  exact ⟨List.nodup_nil, by simp, by simpa [dbs] using h⟩
 | cons d ds ih =>
  intro H h
  rw [dbs_cons, ← List.append_assoc] at h
  have hi : ((A ++ dbs ds) ++ [En.blk d DB])[(A ++ dbs ds).length]? = some (.blk d DB) := by simp
  have hd := h.get _ hi
  have h1 := h.del _ hi
  have e : ((A ++ dbs ds) ++ [En.blk d DB]).eraseIdx (A ++ dbs ds).length = A ++ dbs ds := by
   rw [List.eraseIdx_append_of_length_le (Nat.le_refl _)]; simp
  rw [e] at h1
  obtain ⟨a1, a2, a3⟩ := ih h1
  refine ⟨List.nodup_cons.2 ⟨fun hm => ?_, a1⟩, fun id hid => ?_, ?_⟩
  ·have := a2 d hm; rw [upd_same] at this; cases this
  ·rcases List.mem_cons.1 hid with rfl | hid
   ·exact hd
   have := a2 id hid
   by_cases hx : id = d
   ·subst hx; exact hd
   rwa [upd_other _ _ hx] at this
  have e2 : clear (upd H d none) ds = clear H (d :: ds) := by
   funext x
   simp only [clear, upd, List.mem_cons]
   by_cases h1 : x ∈ ds <;> by_cases h2 : x = d <;> simp [h1, h2]
  rwa [e2] at a3
theorem n_finL (hE : E = real P nt rd) {Φ : Heap → Heap → Prop} {H0 H : Heap} {A : List En} {ds : List Nat} (hO : Own Φ H0 (A ++ dbs ds) H) {k : Heap → Prop} (hk : ∀ H', Own Φ H0 A H' → k H') : E.fin ds H k := by
 subst hE
 obtain ⟨a1, a2, a3⟩ := fin_all hO
 exact ⟨⟨a1, a2⟩, hk _ a3⟩
theorem n_loopEd (cf : Cf) (hE : E = real P nt rd) (hP : POk P T) {β σ γ R : Type} {step : σ → Option (List β × (σ ⊕ R))} {c : Code} {st : St} {H : Heap} {K : Exit → St → Heap → Prop} (fm : σ → γ → Fl) (Inv : σ → γ → List Nat → List β → Heap → Prop) (X : R → Exit → Fl → List Nat → List β → Heap → Prop) (Xa : Exit → Fl → List Nat → Heap → Prop) (hd : drawsOk cf c = true)
 (round : ∀ s g ds w1 w2 H o, Inv s g ds (w1 ++ w2) H → step s = some (w1, o) → run E T nt cf c ⟨fm s g, ds⟩ H fun e st' H' => match e with
  | .normal => ∃ s' g' ds', o = .inl s' ∧ LeL st'.l (fm s' g') ∧ st'.df = ds' ∧ Inv s' g' ds' w2 H'
  | e => (∃ x l ds', o = .inr x ∧ X x e l ds' w2 H' ∧ LeL st'.l l ∧ st'.df = ds') ∨ ∃ l ds', Xa e l ds' H' ∧ LeL st'.l l ∧ st'.df = ds')
 {N : Nat} {s0 : σ} (g0 : γ) {w w' : List β} {r : R} (h : loopE step N s0 = some (w, r)) (hdf : st.df = []) (hf : LeL st.l (fm s0 g0)) (hI : Inv s0 g0 [] (w ++ w') H) (after : ∀ e l ds H', X r e l ds w' H' → K e ⟨l, ds⟩ H') (afterA : ∀ e l ds H', Xa e l ds H' → K e ⟨l, ds⟩ H') : E.sim (.loop c) st H K := by
 subst hE
 refine Sim.loopN (fun n fr' H' => ∃ s g ds w, loopE step n s = some (w, r) ∧ FrLe fr' ⟨fm s g, ds⟩ ∧ Inv s g ds (w ++ w') H') N ⟨s0, g0, [], w, h, ⟨fun t => hf.wk t, hdf⟩, hI⟩ fun n fr' H' ⟨s, g, ds, w, hs, hle, hi⟩ => ?_
 cases n with
 | zero => cases hs
 | succ n =>
  simp only [loopE] at hs
  cases ho : step s with
  | none => rw [ho] at hs; cases hs
  | some p =>
   obtain ⟨w1, o⟩ := p
   rw [ho] at hs
   obtain ⟨w2, hw, hrest⟩ : ∃ w2, w = w1 ++ w2 ∧ match o with | .inl s' => loopE step n s' = some (w2, r) | .inr x => x = r ∧ w2 = [] := by
    cases o with
    | inl s' =>
     simp only at hs
     split at hs
     ·cases hs
     rename_i w2 x hx
     cases hs
     exact ⟨w2, rfl, hx⟩
    | inr x => cases hs; exact ⟨[], by simp, rfl, rfl⟩
   subst hw
   rw [List.append_assoc] at hi
   refine Sim.frLe hle ((run_sound hP.1 hP.2 c _ _ _ hd (round s g ds w1 (w2 ++ w') H' o hi ho)).mono fun e fr2 H2 ⟨st', hle', hq⟩ => ?_)
   have exits : ∀ e, ((∃ x l ds', o = .inr x ∧ X x e l ds' (w2 ++ w') H2 ∧ LeL st'.l l ∧ st'.df = ds') ∨ ∃ l ds', Xa e l ds' H2 ∧ LeL st'.l l ∧ st'.df = ds') → ∃ st'', FrLe fr2 st'' ∧ K e st'' H2 := by
    intro e hq
    rcases hq with ⟨x, l, ds', h1, h4, h2, h3⟩ | ⟨l, ds', h4, h2, h3⟩
    ·subst h1
     obtain ⟨rfl, rfl⟩ := hrest
     exact ⟨⟨l, ds'⟩, ⟨fun t => (hle'.s t).trans (h2.wk t), hle'.df.trans h3⟩, after _ _ _ _ h4⟩
    exact ⟨⟨l, ds'⟩, ⟨fun t => (hle'.s t).trans (h2.wk t), hle'.df.trans h3⟩, afterA _ _ _ _ h4⟩
   cases e with
   | normal =>
    obtain ⟨s', g', ds', h1, h2, h3, h4⟩ := hq
    subst h1
    exact ⟨n, Nat.lt_succ_self n, s', g', ds', w2, hrest, ⟨fun t => (hle'.s t).trans (h2.wk t), hle'.df.trans h3⟩, h4⟩
   | _ => exact exits _ hq
theorem n_loopE (cf : Cf) (hE : E = real P nt rd) (hP : POk P T) {β σ γ R : Type} {step : σ → Option (List β × (σ ⊕ R))} {c : Code} {st : St} {H : Heap} {K : Exit → St → Heap → Prop} (fm : σ → γ → Fl) (Inv : σ → γ → List β → Heap → Prop) (X : R → Exit → Fl → List β → Heap → Prop) (Xa : Exit → Fl → Heap → Prop) (hd : drawsOk cf c = true)
 (round : ∀ s g w1 w2 H o, Inv s g (w1 ++ w2) H → step s = some (w1, o) → run E T nt cf c ⟨fm s g, st.df⟩ H fun e st' H' => match e with
  | .normal => ∃ s' g', o = .inl s' ∧ LeL st'.l (fm s' g') ∧ st'.df = st.df ∧ Inv s' g' w2 H'
  | e => (∃ x l, o = .inr x ∧ X x e l w2 H' ∧ LeL st'.l l ∧ st'.df = st.df) ∨ ∃ l, Xa e l H' ∧ LeL st'.l l ∧ st'.df = st.df)
 {N : Nat} {s0 : σ} (g0 : γ) {w w' : List β} {r : R} (h : loopE step N s0 = some (w, r)) (hf : LeL st.l (fm s0 g0)) (hI : Inv s0 g0 (w ++ w') H) (after : ∀ e l H', X r e l w' H' → K e ⟨l, st.df⟩ H') (afterA : ∀ e l H', Xa e l H' → K e ⟨l, st.df⟩ H') : E.sim (.loop c) st H K := by
 subst hE
 refine Sim.loopN (fun n fr' H' => ∃ s g w, loopE step n s = some (w, r) ∧ FrLe fr' ⟨fm s g, st.df⟩ ∧ Inv s g (w ++ w') H') N ⟨s0, g0, w, h, ⟨fun t => hf.wk t, rfl⟩, hI⟩ fun n fr' H' ⟨s, g, w, hs, hle, hi⟩ => ?_
 cases n with
 | zero => cases hs
 | succ n =>
  simp only [loopE] at hs
  cases ho : step s with
  | none => rw [ho] at hs; cases hs
  | some p =>
   obtain ⟨w1, o⟩ := p
   rw [ho] at hs
   obtain ⟨w2, hw, hrest⟩ : ∃ w2, w = w1 ++ w2 ∧ match o with | .inl s' => loopE step n s' = some (w2, r) | .inr x => x = r ∧ w2 = [] := by
    cases o with
    | inl s' =>
     simp only at hs
     split at hs
     ·cases hs
     rename_i w2 x hx
     cases hs
     exact ⟨w2, rfl, hx⟩
    | inr x => cases hs; exact ⟨[], by simp, rfl, rfl⟩
   subst hw
   rw [List.append_assoc] at hi
   refine Sim.frLe hle ((run_sound hP.1 hP.2 c _ _ _ hd (round s g w1 (w2 ++ w') H' o hi ho)).mono fun e fr2 H2 ⟨st', hle', hq⟩ => ?_)
   have exits : ∀ e, ((∃ x l, o = .inr x ∧ X x e l (w2 ++ w') H2 ∧ LeL st'.l l ∧ st'.df = st.df) ∨ ∃ l, Xa e l H2 ∧ LeL st'.l l ∧ st'.df = st.df) → ∃ st'', FrLe fr2 st'' ∧ K e st'' H2 := by
    intro e hq
    rcases hq with ⟨x, l, h1, h4, h2, h3⟩ | ⟨l, h4, h2, h3⟩
    ·subst h1
     obtain ⟨rfl, rfl⟩ := hrest
     exact ⟨⟨l, st.df⟩, ⟨fun t => (hle'.s t).trans (h2.wk t), hle'.df.trans h3⟩, after _ _ _ h4⟩
    exact ⟨⟨l, st.df⟩, ⟨fun t => (hle'.s t).trans (h2.wk t), hle'.df.trans h3⟩, afterA _ _ _ h4⟩
   cases e with
   | normal =>
    obtain ⟨s', g', h1, h2, h3, h4⟩ := hq
    subst h1
    exact ⟨n, Nat.lt_succ_self n, s', g', w2, hrest, ⟨fun t => (hle'.s t).trans (h2.wk t), hle'.df.trans h3⟩, h4⟩
   | _ => exact exits _ hq
end
section
variable {P : Program} {nt : Nat} {T : Tbl} {E : Env} {α β σ R ι : Type}
def REI (enc : α → List V) (step : σ → α → Option (List β × (σ ⊕ R))) (o : σ ⊕ R) (w' : List β) (Inv : σ → List β → Heap → Heap → Prop) (l : List (List V)) (F H : Heap) : Prop :=
 ∃ q : σ × List α × List β, (l = q.2.1.map enc ∧ rangeE step q.2.1 q.1 = some (q.2.2, o)) ∧ Inv q.1 (q.2.2 ++ w') F H
def RED (o : σ ⊕ R) (w' : List β) (X : R → Exit → List β → Heap → Heap → Prop) (Xa : Exit → Heap → Heap → Prop) (c : Code) (F H : Heap) : Prop :=
 (∃ q : R × Exit, (o = .inr q.1 ∧ jmp q.2 = some c) ∧ X q.1 q.2 w' F H) ∨ ∃ q : Exit, jmp q = some c ∧ Xa q F H
def REJ (enc : α → List V) (step : σ → α → Option (List β × (σ ⊕ R))) (o : σ ⊕ R) (w' : List β) (fJ : ι → σ → α → Fl) (J : ι → σ → α → List β → Heap → Heap → Prop) (x : List V) (l : List (List V)) (fr : Fr) (F H : Heap) : Prop :=
 ∃ q : ι × σ × α × List α × List β, (x = enc q.2.2.1 ∧ l = q.2.2.2.1.map enc ∧ rangeE step (q.2.2.1 :: q.2.2.2.1) q.2.1 = some (q.2.2.2.2, o) ∧ FrLe fr ⟨fJ q.1 q.2.1 q.2.2.1, []⟩) ∧ J q.1 q.2.1 q.2.2.1 (q.2.2.2.2 ++ w') F H
theorem Stable.or {I J : Heap → Heap → Prop} (h : Stable I) (k : Stable J) : Stable fun F H => I F H ∨ J F H :=
 ⟨fun hh => hh.elim (fun x => h.le x) fun x => k.le x, fun id b hh e => hh.imp (fun x => h.chg id b x e) fun x => k.chg id b x e⟩
variable {enc : α → List V} {step : σ → α → Option (List β × (σ ⊕ R))} {g : Operand} {ps : Array Tmp} {asg body : Code} {st : St} {H : Heap} {K : Exit → St → Heap → Prop}
 {xs : List α} {s0 : σ} {o : σ ⊕ R} {w w' : List β}
theorem n_rangeE (cf : Cf) (hE : E = real P nt none) (hP : POk P T) (Inv : σ → List β → Heap → Heap → Prop) (X : R → Exit → List β → Heap → Heap → Prop) (Xa : Exit → Heap → Heap → Prop) (fJ : ι → σ → α → Fl) (J : ι → σ → α → List β → Heap → Heap → Prop)
 (hI : ∀ s w, Stable (Inv s w)) (hX : ∀ r e w, Stable (X r e w)) (hXa : ∀ e, Stable (Xa e)) (hJ : ∀ i s y w, Stable (J i s y w)) (hit : IterV P ((evS [] st.l g).V) (xs.map enc)) (h : rangeE step xs s0 = some (w, o)) {F : Heap} (h0 : Inv s0 (w ++ w') F H)
 (hnt : ∀ p ∈ ps, p < nt) (hps : ∀ x, (enc x).length = ps.size) (hda : drawsOk cf asg = true) (hdb : drawsOk cf body = true)
 (asgP : ∀ (E' : Env) (id : Nat) y s w F H, E' = real P nt (some id) → Inv s w F H → run E' T nt cf asg ⟨parL ps.toList (enc y) st.l, []⟩ H fun e st' H' => match e with | .normal => ∃ i, J i s y w F H' ∧ LeL st'.l (fJ i s y) ∧ st'.df = [] | _ => False)
 (bodyP : ∀ (E' : Env) (id : Nat) i y s w1 w2 F H o', E' = real P nt (some id) → (∃ L, F id = some (.loop L)) → step s y = some (w1, o') → J i s y (w1 ++ w2) F H → run E' T nt cf body ⟨fJ i s y, []⟩ H fun e _ H' => match e with
  | .normal => ∃ s', o' = .inl s' ∧ Inv s' w2 F H'
  | e => (∃ r, o' = .inr r ∧ (jmp e).isSome = true ∧ X r e w2 F H') ∨ ((jmp e).isSome = true ∧ Xa e F H'))
 (done : ∀ d s H', o = .inl s → F d = none → Inv s w' (upd F d (some DB)) H' → K .normal ⟨st.l, d :: st.df⟩ H')
 (stop : ∀ d r e H', o = .inr r → F d = none → X r e w' (upd F d (some DB)) H' → K e ⟨st.l, d :: st.df⟩ H')
 (stopA : ∀ d e H', F d = none → Xa e (upd F d (some DB)) H' → K e ⟨st.l, d :: st.df⟩ H') : E.sim (.rangeFunc g ps asg body) st H K := by
 subst hE
 have hev : ev (frOf st) g = (evS [] st.l g).V := (evS_ev (df := st.df) Gok.nil g).symm
 rw [← hev] at hit
 have sI : ∀ l, Stable (REI enc step o w' Inv l) := fun l => Stable.ex fun q => hI q.1 _
 have sD : ∀ c, Stable (RED o w' X Xa c) := fun c => Stable.or (Stable.ex fun q => hX q.1 q.2 w') (Stable.ex fun q => hXa q)
 have sJ : ∀ x l fr, Stable (REJ enc step o w' fJ J x l fr) := fun x l fr => Stable.ex fun q => hJ q.1 q.2.1 q.2.2.1 _
 refine Sim.rangeOuter (nt := nt) hnt (fun x hx => ?_) hit (REI enc step o w' Inv) (RED o w' X Xa) sI sD (REJ enc step o w' fJ J) sJ ⟨⟨s0, xs, w⟩, ⟨rfl, h⟩, h0⟩ ?_ ?_ (fun d H' hd ⟨⟨s, ys, w2⟩, ⟨hl, hr⟩, hi⟩ => ?_) fun c d H' hd hx => ?_
 ·obtain ⟨y, _, rfl⟩ := List.mem_map.1 hx
  exact hps y
 ·intro id L x l F H ⟨⟨s, ys, w2⟩, ⟨hl, hr⟩, hi⟩ _ _
  cases ys with
  | nil => cases hl
  | cons y ys =>
   simp only [List.map_cons, List.cons.injEq] at hl
   obtain ⟨rfl, rfl⟩ := hl
   have e : (⟨putAll (frOf st).s ps.toList (enc y), []⟩ : Fr) = frOf ⟨parL ps.toList (enc y) st.l, []⟩ := by
    simp only [frOf, Fr.mk.injEq, and_true]
    funext t
    exact parL_ok _ _ _ _
   rw [e]
   refine (run_sound hP.1 hP.2 asg _ _ _ hda (asgP _ id y s _ F H rfl hi)).mono fun e fr' H1 ⟨st', hle, hq⟩ => ?_
   cases e with
   | normal =>
    obtain ⟨i, hj, hl, hdf⟩ := hq
    exact ⟨rfl, ⟨i, s, y, ys, w2⟩, ⟨rfl, rfl, hr, fun t => (hle.s t).trans (hl.wk t), hle.df.trans hdf⟩, hj⟩
   | _ => exact hq.elim
 ·intro id L x l fr' F H ⟨⟨i, s, y, ys, w2⟩, ⟨hx, hl, hr, hf⟩, hj⟩ hL
  subst hx; subst hl
  simp only [rangeE] at hr
  cases ho : step s y with
  | none => rw [ho] at hr; cases hr
  | some p =>
   obtain ⟨w1, o'⟩ := p
   rw [ho] at hr
   obtain ⟨w3, hw, hrest⟩ : ∃ w3, w2 = w1 ++ w3 ∧ match o' with | .inl s' => rangeE step ys s' = some (w3, o) | .inr x => o = .inr x ∧ w3 = [] := by
    cases o' with
    | inl s' =>
     simp only at hr
     split at hr
     ·cases hr
     rename_i w3 x hx
     cases hr
     exact ⟨w3, rfl, hx⟩
    | inr x => cases hr; exact ⟨[], by simp, rfl, rfl⟩
   subst hw
   dsimp only at hj
   rw [List.append_assoc] at hj
   refine Sim.frLe hf ((run_sound hP.1 hP.2 body _ _ _ hdb (bodyP _ id i y s w1 (w3 ++ w') F H o' rfl ⟨L, hL⟩ ho hj)).mono fun e fr2 H2 ⟨st', hle, hq⟩ => ?_)
   have out : ∀ e c, jmp e = some c → ((∃ r, o' = .inr r ∧ (jmp e).isSome = true ∧ X r e (w3 ++ w') F H2) ∨ ((jmp e).isSome = true ∧ Xa e F H2)) → RED o w' X Xa c F H2 := by
    intro e c hc hq
    rcases hq with ⟨r, h1, _, h3⟩ | ⟨_, h3⟩
    ·subst h1
     obtain ⟨rfl, rfl⟩ := hrest
     exact .inl ⟨⟨r, e⟩, ⟨rfl, hc⟩, h3⟩
    exact .inr ⟨e, hc, h3⟩
   cases e with
   | normal =>
    obtain ⟨s', h1, h2⟩ := hq
    subst h1
    exact ⟨⟨s', ys, w3⟩, ⟨rfl, hrest⟩, h2⟩
   | ret => exact out .ret _ rfl hq
   | exit k => exact out (.exit k) _ rfl hq
   | _ => rcases hq with ⟨_, _, h, _⟩ | ⟨h, _⟩ <;> cases h
 ·have hys : ys = [] := by
   cases ys with
   | nil => rfl
   | cons _ _ => cases hl
  subst hys
  cases hr
  exact ⟨⟨st.l, d :: st.df⟩, ⟨fun t => Wk.refl _, rfl⟩, done d s H' rfl hd hi⟩
 have fin : ∀ e, jmp e = some c → K e ⟨st.l, d :: st.df⟩ H' → Sim P nt none c { frOf st with df := d :: (frOf st).df } H' fun e fr' H' => ∃ st', FrLe fr' st' ∧ K e st' H' := by
  intro e hj hk
  cases e with
  | ret => cases hj; exact Sim.ret ⟨⟨st.l, d :: st.df⟩, ⟨fun t => Wk.refl _, rfl⟩, hk⟩
  | exit k => cases hj; exact Sim.exit ⟨⟨st.l, d :: st.df⟩, ⟨fun t => Wk.refl _, rfl⟩, hk⟩
  | _ => cases hj
 rcases hx with ⟨⟨r, e⟩, ⟨ho, hj⟩, hx⟩ | ⟨e, hj, hx⟩
 ·exact fin e hj (stop d r e H' ho hd hx)
 exact fin e hj (stopA d e H' hd hx)
end
end Go.Ab

namespace Go.Ab
open Go.RowKit
variable [Glob] [Ar]
theorem Own0.swap {H0 H : Heap} {L : List En} (h : Own0 H0 L H) (i : Nat) {en en' : En} {id t : Nat} {b b' : Blk} (hi : L[i]? = some en) (he : en.id = some (id, b)) (he' : en'.id = some (t, b')) (ht : upd H id none t = none) :
 Own0 H0 (L.set i en') (upd (upd H id none) t (some b')) := by
 have hlt : i < L.length := by
  rcases Nat.lt_or_ge i L.length with h' | h'
  ·exact h'
  rw [List.getElem?_eq_none h'] at hi; cases hi
 have look : ∀ (j : Nat) e, (L.set i en')[j]? = some e → (j = i ∧ e = en') ∨ (j ≠ i ∧ L[j]? = some e) := fun j e hj => by
  rw [List.getElem?_set] at hj
  split at hj
  ·rename_i hij
   subst hij
   try rw [if_pos hlt] at hj
   exact .inl ⟨rfl, (Option.some.inj hj).symm⟩
  rename_i hij
  exact .inr ⟨fun e => hij e.symm, hj⟩
 have hid := h.has i _ id b hi he
 have h0 : ∀ x c, H0 x = some c → upd H id none x = some c := fun x c hx => by
  rw [upd_other _ _ (ne_of_none hid.1 hx)]; exact h.ext x c hx
 have hoth : ∀ (j : Nat) e x c, j ≠ i → L[j]? = some e → e.id = some (x, c) → H0 x = none ∧ upd H id none x = some c := fun j e x c hne hj hx => by
  have := h.has j e x c hj hx
  have hxid : x ≠ id := fun eq => by subst eq; exact hne (h.inj j i e _ x c b hj hi hx he)
  exact ⟨this.1, by rw [upd_other _ _ hxid]; exact this.2⟩
 have hid0 : H0 t = none := by
  cases e : H0 t with
  | none => rfl
  | some c => rw [h0 t c e] at ht; cases ht
 refine ⟨fun x bb hx => ?_, fun j e x bb hj hx => ?_, fun j k e e' x bb bb' hj hk hx hx' => ?_, fun x bb hx => ?_⟩
 rotate_right
 ·by_cases hxi : x = t
  ·subst hxi; rw [upd_same] at hx; cases hx
   exact .inr ⟨i, en', by rw [List.getElem?_set, if_pos rfl, if_pos hlt], he'⟩
  rw [upd_other _ _ hxi] at hx
  have hxid : x ≠ id := fun eq => by subst eq; rw [upd_same] at hx; cases hx
  rw [upd_other _ _ hxid] at hx
  refine (h.only x bb hx).imp (fun h => h) fun ⟨j, e, h1, h2⟩ => ⟨j, e, ?_, h2⟩
  rw [List.getElem?_set]
  split
  ·rename_i hij; subst hij; rw [hi] at h1; cases h1; rw [he] at h2; cases h2; exact absurd rfl hxid
  exact h1
 ·rw [upd_other _ _ (ne_of_none hid0 hx)]; exact h0 x bb hx
 ·rcases look j e hj with ⟨_, rfl⟩ | ⟨hne, hj'⟩
  ·rw [he'] at hx; cases hx; exact ⟨hid0, upd_same _ _ _⟩
  have := hoth j e x bb hne hj' hx
  exact ⟨this.1, by rw [upd_other _ _ (ne_of_none ht this.2)]; exact this.2⟩
 rcases look j e hj with ⟨hji, rfl⟩ | ⟨hne, hj'⟩ <;> rcases look k e' hk with ⟨hki, rfl⟩ | ⟨hne', hk'⟩
 ·rw [hji, hki]
 ·rw [he'] at hx; cases hx; have := (hoth k e' t bb' hne' hk' hx').2; rw [ht] at this; cases this
 ·rw [he'] at hx'; cases hx'; have := (hoth j e t bb hne hj' hx).2; rw [ht] at this; cases this
 exact h.inj j k e e' x bb bb' hj' hk' hx hx'
theorem Own.swap {Φ : Heap → Heap → Prop} {F H : Heap} {L : List En} (h : Own Φ F L H) (i : Nat) {id t : Nat} {b b' : Blk} (hi : L[i]? = some (.blk id b)) (ht : upd H id none t = none) : Own Φ F (L.set i (.blk t b')) (upd (upd H id none) t (some b')) := by
 obtain ⟨hs, F', H1, h0, h1, h2⟩ := h
 have e := h0.get i hi
 have e1 := hs.le h1 _ _ e
 have h3 := hs.chg id none h1 (by rw [e, e1])
 have hle : HLe (upd H1 id none) (upd H id none) := h2.upd id none
 have hn1 := hle.none ht
 have hn' := hs.fresh h3 hn1
 exact ⟨hs, _, _, h0.swap i hi rfl rfl hn', hs.chg t (some b') h3 (by rw [hn1, hn']), hle.upd t _⟩
theorem Own.swap' {Φ : Heap → Heap → Prop} {F H : Heap} {L : List En} (h : Own Φ F L H) (i : Nat) {id t : Nat} {b b' : Blk} (hi : L[i]? = some (.blk id b)) (ht : H t = none) : Own Φ F (L.set i (.blk t b')) (upd H t (some b')) := by
 have hid := h.get i hi
 have hne : t ≠ id := fun e => by subst e; rw [ht] at hid; cases hid
 obtain ⟨hs, F', H1, h0, h1, h2⟩ := h.swap (b' := b') i hi (t := t) (by rw [upd_other _ _ hne]; exact ht)
 refine ⟨hs, F', H1, h0, h1, fun x c hx => ?_⟩
 have := h2 x c hx
 by_cases e : x = t
 ·subst e; rw [upd_same] at this ⊢; exact this
 rw [upd_other _ _ e] at this ⊢
 by_cases e2 : x = id
 ·subst e2; rw [upd_same] at this; cases this
 rwa [upd_other _ _ e2] at this
structure OG where
 id : Nat
 lo : Int
 n : Int
 pre : List V
 rest : List V
def Okn (q : OG) (m : Int) : Prop := q.lo = (q.pre.length : Nat) ∧ q.n = m
theorem len_lst {α : Type} {f : α → V} (l : List α) : Ar.len l = ((Ar.lst f l).length : Nat) := by rw [Ar.len_eq, lst_len]
theorem len_lst' {α : Type} {f : α → V} (l : List α) : Ar.len l = lenR (Ar.lst f l) := by rw [lenR_eq, len_lst (f := f) l]
theorem sub_mid {pre xs rest : List V} {lo n : Int} (h0 : lo = (pre.length : Nat)) (h1 : n = (xs.length : Nat)) : subL (pre ++ xs ++ rest) lo n = xs := by
 subst h0; subst h1
 simp [subL]
theorem over_mid {pre xs rest ys : List V} {i : Nat} (hi : i = pre.length + xs.length) : over (pre ++ xs ++ rest) i ys = pre ++ (xs ++ ys) ++ rest.drop ys.length := by
 subst hi
 simp only [over, List.append_assoc]
 rw [show pre ++ (xs ++ rest) = (pre ++ xs) ++ rest by simp, ← List.length_append, List.take_left, List.drop_append]
 simp
theorem getD_mid {pre xs rest : List V} {i : Nat} (h : i < xs.length) : (pre ++ xs ++ rest).getD (pre.length + i) .bad = xs.getD i .bad := by
 simp only [List.getD_eq_getElem?_getD, List.append_assoc]
 rw [List.getElem?_append_right (by omega), show pre.length + i - pre.length = i by omega, List.getElem?_append_left h]
theorem set_mid {pre xs rest : List V} {i : Nat} {v : V} (h : i < xs.length) : (pre ++ xs ++ rest).set (pre.length + i) v = pre ++ xs.set i v ++ rest := by
 simp only [List.append_assoc]
 rw [List.set_append_right _ _ (by omega), show pre.length + i - pre.length = i by omega, List.set_append_left _ _ h]
section
variable {P : Program} {nt : Nat} {rd : Option Nat} {T : Tbl} {E : Env}
variable (hE : E = real P nt rd)
include hE
variable {α R : Type} {f : α → V} {Φ : Heap → Heap → Prop} {H0 H : Heap} {L : List En} {sz : Nat} {q : OG} {l : List α} {r : R}
theorem n_olen (hq : Okn q (Ar.len l)) {k : Int → Prop} (h : k (Ar.len l)) : E.olen q.n k := by
 subst hE
 show k q.n
 rw [hq.2]; exact h
theorem n_oidx (hO : Own Φ H0 L H) (hq : Okn q (Ar.len l)) (i : Nat) {j : Int} {k : Int → Prop} {F : Unit → Option R} (hi : L[i]? = some (.blk q.id (.arr sz (q.pre ++ Ar.lst f l ++ q.rest)))) (h : (req (inR l j)).bind F = some r) (hk : F () = some r → k (Ar.ofs q.lo j)) :
 E.oidx H q.id sz q.lo q.n j k := by
 subst hE
 obtain ⟨x, h1, h2⟩ := bind_some h
 unfold req at h1
 split at h1
 ·rename_i hp
  refine ⟨⟨_, hO.get i hi⟩, ?_, hk h2⟩
  rw [hq.2, Ar.len_eq]; exact of_decide_eq_true hp
 cases h1
theorem idxL_some {l : List α} {i : Int} {x : α} (h : idxL l i = some x) : (0 ≤ i ∧ i < (l.length : Nat)) ∧ l[i.toNat]? = some x := by
 unfold idxL at h
 split at h
 ·rename_i h0
  refine ⟨⟨h0, ?_⟩, h⟩
  rcases Nat.lt_or_ge i.toNat l.length with h' | h'
  ·omega
  rw [List.getElem?_eq_none h'] at h; cases h
 cases h
theorem lst_getD {l : List α} {i : Nat} {x : α} (h : l[i]? = some x) : (Ar.lst f l).getD i .bad = f x := by
 rw [Ar.lst_eq]; simp [List.getD, h]
theorem n_oload {g : α → V} (hf : ∀ x, f x = g x) (hO : Own Φ H0 L H) (hq : Okn q (Ar.len l)) (i : Nat) {j : Int} {k : V → Prop} {F : α → Option R} (hi : L[i]? = some (.blk q.id (.arr sz (q.pre ++ Ar.lst f l ++ q.rest)))) (h : (idxL l j).bind F = some r) (hk : ∀ x, F x = some r → k (g x)) :
 E.oload H q.id (Ar.ofs q.lo j) k := by
 obtain ⟨x, h1, h2⟩ := bind_some h
 obtain ⟨hb, h3⟩ := idxL_some hE h1
 have h4 := lst_getD hE (f := f) h3
 subst hE
 have e1 := lst_len (f := f) l
 refine ⟨_, _, hO.get i hi, ?_, ?_⟩
 ·rw [Ar.ofs_eq, hq.1]; simp only [List.length_append, e1]; omega
 rw [Ar.ofs_eq, hq.1, show ((q.pre.length : Nat) + j : Int).toNat = q.pre.length + j.toNat by omega, getD_mid (by rw [e1]; omega), h4, hf]
 exact hk x h2
theorem n_ostore {u : α → α} {esz tz off : Nat} {y : V} (hu : ∀ x, ∃ y', LeV y y' ∧ y'.one = true ∧ y'.cells.length = tz ∧ putV (f x) esz tz off y' = f (u x)) (hle : off + tz ≤ esz) (hO : Own Φ H0 L H) (hq : Okn q (Ar.len l)) (i : Nat) {j : Int} {k : Heap → Prop} {F : List α → Option R}
 (hi : L[i]? = some (.blk q.id (.arr esz (q.pre ++ Ar.lst f l ++ q.rest)))) (h : (updL l j u).bind F = some r)
 (hk : ∀ l' H', Okn q (Ar.len l') → F l' = some r → Own Φ H0 (L.set i (.blk q.id (.arr esz (q.pre ++ Ar.lst f l' ++ q.rest)))) H' → k H') : E.ostore H q.id (Ar.ofs q.lo j) esz tz off y k := by
 obtain ⟨l', h1, h2⟩ := bind_some h
 unfold updL at h1
 cases hx : idxL l j with
 | none => rw [hx] at h1; cases h1
 | some x =>
  rw [hx] at h1
  simp only [Option.map_some, Option.some.injEq] at h1
  obtain ⟨hb, h3⟩ := idxL_some hE hx
  obtain ⟨y', q1, q2, q3, q4⟩ := hu x
  have e1 := lst_getD hE (f := f) h3
  have e2 : (Ar.lst f l).set j.toNat (f (u x)) = Ar.lst f l' := by
   rw [← h1, Ar.lst_eq, Ar.lst_eq, List.map_set]
  subst hE
  have el := lst_len (f := f) l
  have ej : (Ar.ofs q.lo j).toNat = q.pre.length + j.toNat := by rw [Ar.ofs_eq, hq.1]; omega
  refine ⟨_, y', q1, q2, q3, hle, hO.get i hi, ?_, ?_⟩
  ·rw [Ar.ofs_eq, hq.1]; simp only [List.length_append, el]; omega
  rw [ej, getD_mid (by rw [el]; omega), set_mid (by rw [el]; omega), e1, q4, e2]
  refine hk l' _ ⟨hq.1, ?_⟩ h2 (hO.set i hi)
  rw [hq.2, Ar.len_eq, Ar.len_eq, ← h1, List.length_set]
theorem n_oapp {by_ : Nat} {z : V} (hsz : ∀ x, (f x).cells.length = sz) (hby : by_ ≤ 131072) (hO : Own Φ H0 L H) (hq : Okn q (Ar.len l)) (i : Nat) (hi : L[i]? = some (.blk q.id (.arr sz (q.pre ++ Ar.lst f l ++ q.rest)))) {y : V} {m : List α} {k : V → Heap → Prop} {F : List α → Option R}
 (hs : Src sz H y (Ar.lst f m)) (h : (appL l m).bind F = some r)
 (hk : ∀ x (q : OG) H', Okn q (Ar.len x) → Own Φ H0 (L.set i (.blk q.id (.arr sz (q.pre ++ Ar.lst f x ++ q.rest)))) H' → F x = some r → k (.own q.id q.lo q.n) H') : E.oapp sz by_ z H (.own q.id q.lo q.n) y k := by
 subst hE
 obtain ⟨x, h1, h2⟩ := bind_some h
 have el := lst_len (f := f) l
 have em := lst_len (f := f) m
 have hn : q.n = (l.length : Nat) := by rw [hq.2, Ar.len_eq]
 unfold appL at h1
 split at h1
 ·rename_i hc
  cases h1
  refine ⟨_, hs, _, hO.get i hi, fun hfit => ?_, fun _ => ⟨?_, fun t j ht => ?_⟩⟩
  rotate_left
  ·rw [em, hn, Int.toNat_natCast]
   exact Nat.le_trans (Nat.mul_le_mul hc hby) (by decide)
  rotate_left
  ·have e : over (q.pre ++ Ar.lst f l ++ q.rest) (q.lo + q.n).toNat (Ar.lst f m) = q.pre ++ Ar.lst f (l ++ m) ++ q.rest.drop m.length := by
    rw [over_mid (by rw [hq.1, hn, el]; omega), lst_app, em]
   rw [e]
   refine hk _ ⟨q.id, q.lo, q.n + ((Ar.lst f m).length : Nat), q.pre, q.rest.drop m.length⟩ _ ⟨hq.1, ?_⟩ (hO.set i hi) h2
   rw [Ar.len_eq, hn, em]; simp
  have e : subL (q.pre ++ Ar.lst f l ++ q.rest) q.lo q.n ++ Ar.lst f m ++ List.replicate j z = [] ++ Ar.lst f (l ++ m) ++ List.replicate j z := by
   rw [sub_mid hq.1 (by rw [el]; exact hn), lst_app, List.nil_append]
  rw [e]
  refine hk _ ⟨t, 0, q.n + ((Ar.lst f m).length : Nat), [], List.replicate j z⟩ _ ⟨rfl, ?_⟩ (hO.swap' i hi ht) h2
  rw [Ar.len_eq, hn, em]; simp
 cases h1
theorem n_oapp0 {by_ : Nat} {z : V} (hsz : ∀ x, (f x).cells.length = sz) (hby : by_ ≤ 131072) (hO : Own Φ H0 L H) {x : V} (hx : x = .sl [] .nil ∨ x = .sl [] .full) {y : V} {m : List α} {k : V → Heap → Prop} {F : List α → Option R}
 (hs : Src sz H y (Ar.lst f m)) (h : (appL [] m).bind F = some r)
 (hk : ∀ x (q : OG) H', Okn q (Ar.len x) → Own Φ H0 (.blk q.id (.arr sz (q.pre ++ Ar.lst f x ++ q.rest)) :: L) H' → F x = some r → k (.own q.id q.lo q.n) H') : E.oapp sz by_ z H x y k := by
 subst hE
 obtain ⟨x', h1, h2⟩ := bind_some h
 have em := lst_len (f := f) m
 unfold appL at h1
 split at h1
 ·rename_i hc
  cases h1
  refine ⟨_, hs, ?_⟩
  have key : (Ar.lst f m).length * by_ ≤ 140737488355328 ∧ ∀ t j, H t = none → k (.own t 0 ((Ar.lst f m).length : Nat)) (upd H t (some (.arr sz (Ar.lst f m ++ List.replicate j z)))) := by
   refine ⟨?_, fun t j ht => ?_⟩
   ·rw [em]
    exact Nat.le_trans (Nat.mul_le_mul (by simpa using hc) hby) (by decide)
   refine hk m ⟨t, 0, ((Ar.lst f m).length : Nat), [], List.replicate j z⟩ _ ⟨rfl, by rw [Ar.len_eq, em]⟩ ?_ (by simpa using h2)
   exact hO.push ht rfl
  rcases hx with rfl | rfl
  ·exact ⟨.inl rfl, key.1, key.2⟩
  exact ⟨.inr rfl, key.1, key.2⟩
 cases h1
theorem okn_lst (h : Okn q (Ar.len l)) : Okn q ((Ar.lst f l).length : Nat) := ⟨h.1, by rw [h.2, Ar.len_eq, lst_len]⟩
theorem src_sl (hsz : ∀ x, (f x).cells.length = sz) {ys : List V} {tl : Tail} (h : LeVs ys (Ar.lst f l)) : Src sz H (.sl ys tl) (Ar.lst f l) := ⟨h, lst_sz hsz l⟩
theorem n_ofrz (hO : Own Φ H0 L H) (hq : Okn q (Ar.len l)) (i : Nat) {k : List V → Heap → Prop} (hi : L[i]? = some (.blk q.id (.arr sz (q.pre ++ Ar.lst f l ++ q.rest)))) (hk : ∀ H', Own Φ H0 (L.eraseIdx i) H' → k (Ar.lst f l) H') : E.ofrz H q.id q.lo q.n k := by
 subst hE
 have := hk _ (hO.del i hi)
 refine ⟨_, _, hO.get i hi, ?_⟩
 rw [sub_mid hq.1 (by rw [hq.2, Ar.len_eq, lst_len])]
 exact this
end
end Go.Ab

