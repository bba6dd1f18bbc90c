/- AbB4 AbS2 AbB5 -/
import Derived.Test.YtildiiggamckaaaGreatDoorT24
import Derived.Test.YtildiiggamckaaaGreatDoorT23
set_option linter.all false
namespace Go.Ab
open Go.RowKit
variable [G5] [Ar]
def Je (P : Program) (yv : V) (I : List (List V) → A0 → A0 → Prop) (D : A0 → A0 → Prop) : Prop :=
 (yv.one = true ∧ yv.cells = [yv]) ∧ ∀ x l F H, I (x :: l) F H → Am P yv x H fun r H' => (r = .bool true ∧ I l F H') ∨ (r = .bool false ∧ D F H')
def El (P : Program) (f : FuncId) (args : V → List V) (xs : List (List V)) (rb : V → Bool → Prop) : Prop :=
 ∀ yv I D, (∀ l, C6 (I l)) → C6 D → Je P yv I D → ∀ tl F H, I (xs ++ tl) F H → E7 P f (args yv) H fun v H' => (rb v true ∧ I tl F H') ∨ (rb v false ∧ D F H')
def rbB (v : V) (b : Bool) : Prop := v = .bool b
def UL (_ : V) (_ : Bool) : Prop := True
section
variable {P : Program} {nt : Nat} {rd : Option Nat} {T : Dm} {E : CM} {I : List (List V) → A0 → A0 → Prop} {D : A0 → A0 → Prop}
theorem Am.heap {fv : V} {args : List V} {H H1 : A0} {K : V → A0 → Prop} (h : Am P fv args H1 K) (hl : Dj H1 H) : Am P fv args H K :=
 fun g w v vals hR hv hA => h g w v vals (hR.less hl) hv hA
theorem E7.heap {f : FuncId} {args : List V} {H H1 : A0} {K : V → A0 → Prop} (h : E7 P f args H1 K) (hl : Dj H1 H) : E7 P f args H K :=
 fun g w vals hR hA => h g w vals (hR.less hl) hA
theorem AF (hE : E = E6 P nt rd) (hI : ∀ l, C6 (I l)) (hD : C6 D) {yv : V} (hy : Je P yv I D) {F H : A0} {L : List En} {args x : List V} {l : List (List V)} {k : V → A0 → Prop} (hO : B4 (I (x :: l)) F L H) (hl : G4 args x)
 (h1 : ∀ H', B4 (I l) F L H' → k (.bool true) H') (h2 : ∀ H', B4 D F L H' → k (.bool false) H') : E.call yv args H k := by
 subst hE;obtain ⟨hs, F', H1, h0, hi, hle⟩ := hO;refine (Am.mono (((hy.2 x l F' H1 hi).heap hle).args hl) fun r H' hr => ?_)
 rcases hr with ⟨rfl, hr⟩ | ⟨rfl, hr⟩
 ·exact h1 H' ⟨hI l, F', H', h0, hr, Dj.refl _⟩
 exact h2 H' ⟨hD, F', H', h0, hr, Dj.refl _⟩
theorem Tr (hE : E = E6 P nt rd) (hI : ∀ l, C6 (I l)) (hD : C6 D) {yv : V} (hy : Je P yv I D) {f : FuncId} {args' : V → List V} {xs tl : List (List V)} {rb : V → Bool → Prop} (hc : El P f args' xs rb) {F H : A0} {L : List En} {args : List V} {k : V → A0 → Prop} (hO : B4 (I (xs ++ tl)) F L H)
 (hl : G4 args (args' yv)) (h1 : ∀ v H', rb v true → B4 (I tl) F L H' → k v H') (h2 : ∀ v H', rb v false → B4 D F L H' → k v H') : E.call (.func (.func f) [] []) args H k := by
 subst hE;obtain ⟨hs, F', H1, h0, hi, hle⟩ := hO
 have h3 : E7 P f args H k := (((hc yv I D hI hD hy tl F' H1 hi).heap hle).args hl).mono fun v H' hr => by
  rcases hr with ⟨hb, hr⟩ | ⟨hb, hr⟩
  ·exact h1 v H' hb ⟨hI tl, F', H', h0, hr, Dj.refl _⟩
  exact h2 v H' hb ⟨hD, F', H', h0, hr, Dj.refl _⟩
 exact E7.value (F := []) (C := []) (by simpa using h3)
theorem Fu (hE : E = E6 P nt rd) {c : Bool} {x y : Unit → Prop} (hc : c = true) (h : x ()) : E.br c x y := by subst hE; exact ⟨fun _ => h, fun e => by rw [hc] at e; cases e⟩
theorem Fv (hE : E = E6 P nt rd) {c : Bool} {x y : Unit → Prop} (hc : c = false) (h : y ()) : E.br c x y := by subst hE; exact ⟨fun e => (by rw [hc] at e; cases e), fun _ => h⟩
theorem K7 {f : FuncId} {fn : Func} {c : Code} {n : Nat} {rs : List ResultVar} {args : V → List V} {xs : List (List V)} {rb : V → Bool → Prop} (cf : Cf) (hP : KE P T) (hf : P.funcs[f]? = some fn) (hb : fn.body = some c) (hd : E9 cf c = true)
 (hcall : ∀ vals w, (callFunc f vals).run P w = .ok (.enter f vals) w) (hnt : fn.ntmps = n) (hrs : fn.results.toList = rs) (hn : ∀ yv, Nat.ble (args yv).length n = true)
 (h : ∀ (yv : V) (I : List (List V) → A0 → A0 → Prop) (D : A0 → A0 → Prop), (∀ l, C6 (I l)) → C6 D → Je P yv I D → ∀ (tl : List (List V)) (F : A0) (E : CM) (H : A0) (K : V → A0 → Prop), E = E6 P n none → B4 (I (xs ++ tl)) F [] H →
  (∀ x L H', B4 (I tl) F L H' → rb x true → K x H') → (∀ x L H', B4 D F L H' → rb x false → K x H') → run E T n cf c ⟨Z7 (args yv) 0, []⟩ H (Ib E T rs K)) : El P f args xs rb := by
 intro yv I D hI hD hy tl F H hi;refine (N8 (K := fun x H' => ∃ y H2, Y4 x y ∧ Dj H2 H' ∧ ((rb y true ∧ I tl F H2) ∨ (rb y false ∧ D F H2))) cf hP.1 hP.2 hf hb hd hcall hnt hrs (hn yv) fun E hE => ?_).le;refine h yv I D hI hD hy tl F E H _ hE (B4.start (hI _) hi) (fun x L H' hO hx => ?_) fun x L H' hO hx => ?_
 ·obtain ⟨H2, h1, h2⟩ := hO.out;exact ⟨x, H2, .refl _, h2, .inl ⟨hx, h1⟩⟩
 obtain ⟨H2, h1, h2⟩ := hO.out;exact ⟨x, H2, .refl _, h2, .inr ⟨hx, h1⟩⟩
theorem N5 {f : FuncId} {C : List V} {xs : List (List V)} {rb : V → Bool → Prop} (hcall : ∀ vals w, (callFunc f vals).run P w = .ok (.enter f vals) w) (h : El P f (fun yv => yv :: C) xs rb) : DD P (.func (.func f) [] C) xs :=
 ⟨f, C, rfl, hcall, fun yv I D hI hD hy F H hi => (h yv I D hI hD hy [] F H (by rwa [List.append_nil])).mono fun v H' hr => hr.imp (fun h => h.2) fun h => h.2⟩
theorem B4.cast {Φ : A0 → A0 → Prop} {H0 H : A0} {L L' : List En} (h : B4 Φ H0 L H) (e : L = L') : B4 Φ H0 L' H := e ▸ h
noncomputable def CL (ds : List Nat) : List En := List.rec (motive := fun _ => List En) [] (fun d _ l => l ++ [.blk d DB]) ds
theorem Ow (d : Nat) (ds : List Nat) : CL (d :: ds) = CL ds ++ [.blk d DB] := rfl
theorem B4.dbs1 {Φ : A0 → A0 → Prop} {H0 H : A0} {A : List En} {d : Nat} {ds : List Nat} (h : B4 Φ H0 ((A ++ CL ds) ++ [.blk d DB]) H) : B4 Φ H0 (A ++ CL (d :: ds)) H := by
 rw [Ow, ← List.append_assoc]; exact h
theorem Vy {Φ : A0 → A0 → Prop} {H0 : A0} {A : List En} : ∀ {ds : List Nat} {H : A0}, B4 Φ H0 (A ++ CL ds) H → ds.Nodup ∧ (∀ id, id ∈ ds → H id = some DB) ∧ B4 Φ H0 A (clear H ds) := by
 intro ds
 induction ds with
 | nil =>
  intro H h
  have e : clear H [] = H := by funext x; simp [clear]
  rw [e];exact ⟨List.nodup_nil, by simp, by simpa [CL] using h⟩
 | cons d ds ih =>
  intro H h
  rw [Ow, ← List.append_assoc] at h
  have hi : ((A ++ CL ds) ++ [En.blk d DB])[(A ++ CL ds).length]? = some (.blk d DB) := by simp
  have hd := h.get _ hi;have h1 := h.del _ hi
  have e : ((A ++ CL ds) ++ [En.blk d DB]).eraseIdx (A ++ CL ds).length = A ++ CL ds := by
   rw [List.eraseIdx_append_of_length_le (Nat.le_refl _)]; simp
  rw [e] at h1
  obtain ⟨a1, a2, a3⟩ := ih h1;refine ⟨List.nodup_cons.2 ⟨fun hm => ?_, a1⟩, fun id hid => ?_, ?_⟩
  ·have := a2 d hm; rw [A9] at this; cases this
  ·rcases List.mem_cons.1 hid with rfl | hid
   ·exact hd
   have := a2 id hid
   by_cases hx : id = d
   ·subst hx; exact hd
   rwa [A3 _ _ hx] at this
  have e2 : clear (upd H d none) ds = clear H (d :: ds) := by
   funext x
   simp only [clear, upd, List.mem_cons]
   by_cases h1 : x ∈ ds <;> by_cases h2 : x = d <;> simp [h1, h2]
  rwa [e2] at a3
theorem HU (hE : E = E6 P nt rd) {Φ : A0 → A0 → Prop} {H0 H : A0} {A : List En} {ds : List Nat} (hO : B4 Φ H0 (A ++ CL ds) H) {k : A0 → Prop} (hk : ∀ H', B4 Φ H0 A H' → k H') : E.fin ds H k := by
 subst hE;obtain ⟨a1, a2, a3⟩ := Vy hO;exact ⟨⟨a1, a2⟩, hk _ a3⟩
theorem Tq (cf : Cf) (hE : E = E6 P nt rd) (hP : KE P T) {β σ γ R : Type} {step : σ → Option (List β × (σ ⊕ R))} {c : Code} {st : St} {H : A0} {K : Exit → St → A0 → Prop} (fm : σ → γ → Fl) (Inv : σ → γ → List Nat → List β → A0 → Prop) (X : R → Exit → Fl → List Nat → List β → A0 → Prop) (Xa : Exit → Fl → List Nat → A0 → Prop) (hd : E9 cf c = true)
 (round : ∀ s g ds w1 w2 H o, Inv s g ds (w1 ++ w2) H → step s = some (w1, o) → run E T nt cf c ⟨fm s g, ds⟩ H fun e st' H' => match e with
  | .normal => ∃ s' g' ds', o = .inl s' ∧ Cx st'.l (fm s' g') ∧ st'.df = ds' ∧ Inv s' g' ds' w2 H'
  | e => (∃ x l ds', o = .inr x ∧ X x e l ds' w2 H' ∧ Cx st'.l l ∧ st'.df = ds') ∨ ∃ l ds', Xa e l ds' H' ∧ Cx st'.l l ∧ st'.df = ds')
 {N : Nat} {s0 : σ} (g0 : γ) {w w' : List β} {r : R} (h : Z3 step N s0 = some (w, r)) (hdf : st.df = []) (hf : Cx st.l (fm s0 g0)) (hI : Inv s0 g0 [] (w ++ w') H) (after : ∀ e l ds H', X r e l ds w' H' → K e ⟨l, ds⟩ H') (afterA : ∀ e l ds H', Xa e l ds H' → K e ⟨l, ds⟩ H') : E.sim (.loop c) st H K := by
 subst hE;refine N9.loopN (fun n fr' H' => ∃ s g ds w, Z3 step n s = some (w, r) ∧ Bv fr' ⟨fm s g, ds⟩ ∧ Inv s g ds (w ++ w') H') N ⟨s0, g0, [], w, h, ⟨fun t => hf.wk t, hdf⟩, hI⟩ fun n fr' H' ⟨s, g, ds, w, hs, hle, hi⟩ => ?_
 cases n with
 | zero => cases hs
 | succ n =>
  simp only [Z3] at hs
  cases ho : step s with
  | none => rw [ho] at hs; cases hs
  | some p =>
   obtain ⟨w1, o⟩ := p
   rw [ho] at hs
   obtain ⟨w2, hw, hrest⟩ : ∃ w2, w = w1 ++ w2 ∧ match o with | .inl s' => Z3 step n s' = some (w2, r) | .inr x => x = r ∧ w2 = [] := by
    cases o with
    | inl s' =>
     simp only at hs
     split at hs
     ·cases hs
     rename_i w2 x hx;cases hs;exact ⟨w2, rfl, hx⟩
    | inr x => cases hs; exact ⟨[], by simp, rfl, rfl⟩
   subst hw
   rw [List.append_assoc] at hi
   refine N9.frLe hle ((G1 hP.1 hP.2 c _ _ _ hd (round s g ds w1 (w2 ++ w') H' o hi ho)).mono fun e fr2 H2 ⟨st', hle', hq⟩ => ?_)
   have exits : ∀ e, ((∃ x l ds', o = .inr x ∧ X x e l ds' (w2 ++ w') H2 ∧ Cx st'.l l ∧ st'.df = ds') ∨ ∃ l ds', Xa e l ds' H2 ∧ Cx st'.l l ∧ st'.df = ds') → ∃ st'', Bv fr2 st'' ∧ K e st'' H2 := by
    intro e hq
    rcases hq with ⟨x, l, ds', h1, h4, h2, h3⟩ | ⟨l, ds', h4, h2, h3⟩
    ·subst h1;obtain ⟨rfl, rfl⟩ := hrest;exact ⟨⟨l, ds'⟩, ⟨fun t => (hle'.s t).trans (h2.wk t), hle'.df.trans h3⟩, after _ _ _ _ h4⟩
    exact ⟨⟨l, ds'⟩, ⟨fun t => (hle'.s t).trans (h2.wk t), hle'.df.trans h3⟩, afterA _ _ _ _ h4⟩
   cases e with
   | normal =>
    obtain ⟨s', g', ds', h1, h2, h3, h4⟩ := hq;subst h1;exact ⟨n, Nat.lt_succ_self n, s', g', ds', w2, hrest, ⟨fun t => (hle'.s t).trans (h2.wk t), hle'.df.trans h3⟩, h4⟩
   | _ => exact exits _ hq
theorem FX (cf : Cf) (hE : E = E6 P nt rd) (hP : KE P T) {β σ γ R : Type} {step : σ → Option (List β × (σ ⊕ R))} {c : Code} {st : St} {H : A0} {K : Exit → St → A0 → Prop} (fm : σ → γ → Fl) (Inv : σ → γ → List β → A0 → Prop) (X : R → Exit → Fl → List β → A0 → Prop) (Xa : Exit → Fl → A0 → Prop) (hd : E9 cf c = true)
 (round : ∀ s g w1 w2 H o, Inv s g (w1 ++ w2) H → step s = some (w1, o) → run E T nt cf c ⟨fm s g, st.df⟩ H fun e st' H' => match e with
  | .normal => ∃ s' g', o = .inl s' ∧ Cx st'.l (fm s' g') ∧ st'.df = st.df ∧ Inv s' g' w2 H'
  | e => (∃ x l, o = .inr x ∧ X x e l w2 H' ∧ Cx st'.l l ∧ st'.df = st.df) ∨ ∃ l, Xa e l H' ∧ Cx st'.l l ∧ st'.df = st.df)
 {N : Nat} {s0 : σ} (g0 : γ) {w w' : List β} {r : R} (h : Z3 step N s0 = some (w, r)) (hf : Cx st.l (fm s0 g0)) (hI : Inv s0 g0 (w ++ w') H) (after : ∀ e l H', X r e l w' H' → K e ⟨l, st.df⟩ H') (afterA : ∀ e l H', Xa e l H' → K e ⟨l, st.df⟩ H') : E.sim (.loop c) st H K := by
 subst hE;refine N9.loopN (fun n fr' H' => ∃ s g w, Z3 step n s = some (w, r) ∧ Bv fr' ⟨fm s g, st.df⟩ ∧ Inv s g (w ++ w') H') N ⟨s0, g0, w, h, ⟨fun t => hf.wk t, rfl⟩, hI⟩ fun n fr' H' ⟨s, g, w, hs, hle, hi⟩ => ?_
 cases n with
 | zero => cases hs
 | succ n =>
  simp only [Z3] at hs
  cases ho : step s with
  | none => rw [ho] at hs; cases hs
  | some p =>
   obtain ⟨w1, o⟩ := p
   rw [ho] at hs
   obtain ⟨w2, hw, hrest⟩ : ∃ w2, w = w1 ++ w2 ∧ match o with | .inl s' => Z3 step n s' = some (w2, r) | .inr x => x = r ∧ w2 = [] := by
    cases o with
    | inl s' =>
     simp only at hs
     split at hs
     ·cases hs
     rename_i w2 x hx;cases hs;exact ⟨w2, rfl, hx⟩
    | inr x => cases hs; exact ⟨[], by simp, rfl, rfl⟩
   subst hw
   rw [List.append_assoc] at hi
   refine N9.frLe hle ((G1 hP.1 hP.2 c _ _ _ hd (round s g w1 (w2 ++ w') H' o hi ho)).mono fun e fr2 H2 ⟨st', hle', hq⟩ => ?_)
   have exits : ∀ e, ((∃ x l, o = .inr x ∧ X x e l (w2 ++ w') H2 ∧ Cx st'.l l ∧ st'.df = st.df) ∨ ∃ l, Xa e l H2 ∧ Cx st'.l l ∧ st'.df = st.df) → ∃ st'', Bv fr2 st'' ∧ K e st'' H2 := by
    intro e hq
    rcases hq with ⟨x, l, h1, h4, h2, h3⟩ | ⟨l, h4, h2, h3⟩
    ·subst h1;obtain ⟨rfl, rfl⟩ := hrest;exact ⟨⟨l, st.df⟩, ⟨fun t => (hle'.s t).trans (h2.wk t), hle'.df.trans h3⟩, after _ _ _ h4⟩
    exact ⟨⟨l, st.df⟩, ⟨fun t => (hle'.s t).trans (h2.wk t), hle'.df.trans h3⟩, afterA _ _ _ h4⟩
   cases e with
   | normal =>
    obtain ⟨s', g', h1, h2, h3, h4⟩ := hq;subst h1;exact ⟨n, Nat.lt_succ_self n, s', g', w2, hrest, ⟨fun t => (hle'.s t).trans (h2.wk t), hle'.df.trans h3⟩, h4⟩
   | _ => exact exits _ hq
end
section
variable {P : Program} {nt : Nat} {T : Dm} {E : CM} {α β σ R ι : Type}
def REI (enc : α → List V) (step : σ → α → Option (List β × (σ ⊕ R))) (o : σ ⊕ R) (w' : List β) (Inv : σ → List β → A0 → A0 → Prop) (l : List (List V)) (F H : A0) : Prop :=
 ∃ q : σ × List α × List β, (l = q.2.1.map enc ∧ Z0 step q.2.1 q.1 = some (q.2.2, o)) ∧ Inv q.1 (q.2.2 ++ w') F H
def RED (o : σ ⊕ R) (w' : List β) (X : R → Exit → List β → A0 → A0 → Prop) (Xa : Exit → A0 → A0 → Prop) (c : Code) (F H : A0) : Prop :=
 (∃ q : R × Exit, (o = .inr q.1 ∧ TE q.2 = some c) ∧ X q.1 q.2 w' F H) ∨ ∃ q : Exit, TE q = some c ∧ Xa q F H
def REJ (enc : α → List V) (step : σ → α → Option (List β × (σ ⊕ R))) (o : σ ⊕ R) (w' : List β) (fJ : ι → σ → α → Fl) (J : ι → σ → α → List β → A0 → A0 → Prop) (x : List V) (l : List (List V)) (fr : Fr) (F H : A0) : Prop :=
 ∃ q : ι × σ × α × List α × List β, (x = enc q.2.2.1 ∧ l = q.2.2.2.1.map enc ∧ Z0 step (q.2.2.1 :: q.2.2.2.1) q.2.1 = some (q.2.2.2.2, o) ∧ Bv fr ⟨fJ q.1 q.2.1 q.2.2.1, []⟩) ∧ J q.1 q.2.1 q.2.2.1 (q.2.2.2.2 ++ w') F H
theorem C6.or {I J : A0 → A0 → Prop} (h : C6 I) (k : C6 J) : C6 fun F H => I F H ∨ J F H :=
 ⟨fun hh => hh.elim (fun x => h.le x) fun x => k.le x, fun id b hh e => hh.imp (fun x => h.chg id b x e) fun x => k.chg id b x e⟩
variable {enc : α → List V} {step : σ → α → Option (List β × (σ ⊕ R))} {g : Operand} {ps : Array Tmp} {asg body : Code} {st : St} {H : A0} {K : Exit → St → A0 → Prop}
 {xs : List α} {s0 : σ} {o : σ ⊕ R} {w w' : List β}
theorem JN (cf : Cf) (hE : E = E6 P nt none) (hP : KE P T) (Inv : σ → List β → A0 → A0 → Prop) (X : R → Exit → List β → A0 → A0 → Prop) (Xa : Exit → A0 → A0 → Prop) (fJ : ι → σ → α → Fl) (J : ι → σ → α → List β → A0 → A0 → Prop)
 (hI : ∀ s w, C6 (Inv s w)) (hX : ∀ r e w, C6 (X r e w)) (hXa : ∀ e, C6 (Xa e)) (hJ : ∀ i s y w, C6 (J i s y w)) (hit : DD P ((K1 [] st.l g).V) (xs.map enc)) (h : Z0 step xs s0 = some (w, o)) {F : A0} (h0 : Inv s0 (w ++ w') F H)
 (hnt : ∀ p ∈ ps, p < nt) (hps : ∀ x, (enc x).length = ps.size) (hda : E9 cf asg = true) (hdb : E9 cf body = true)
 (asgP : ∀ (E' : CM) (id : Nat) y s w F H, E' = E6 P nt (some id) → Inv s w F H → run E' T nt cf asg ⟨NJ ps.toList (enc y) st.l, []⟩ H fun e st' H' => match e with | .normal => ∃ i, J i s y w F H' ∧ Cx st'.l (fJ i s y) ∧ st'.df = [] | _ => False)
 (bodyP : ∀ (E' : CM) (id : Nat) i y s w1 w2 F H o', E' = E6 P nt (some id) → (∃ L, F id = some (.loop L)) → step s y = some (w1, o') → J i s y (w1 ++ w2) F H → run E' T nt cf body ⟨fJ i s y, []⟩ H fun e _ H' => match e with
  | .normal => ∃ s', o' = .inl s' ∧ Inv s' w2 F H'
  | e => (∃ r, o' = .inr r ∧ (TE e).isSome = true ∧ X r e w2 F H') ∨ ((TE e).isSome = true ∧ Xa e F H'))
 (done : ∀ d s H', o = .inl s → F d = none → Inv s w' (upd F d (some DB)) H' → K .normal ⟨st.l, d :: st.df⟩ H')
 (stop : ∀ d r e H', o = .inr r → F d = none → X r e w' (upd F d (some DB)) H' → K e ⟨st.l, d :: st.df⟩ H')
 (stopA : ∀ d e H', F d = none → Xa e (upd F d (some DB)) H' → K e ⟨st.l, d :: st.df⟩ H') : E.sim (.rangeFunc g ps asg body) st H K := by
 subst hE;have hev : ev (D9 st) g = (K1 [] st.l g).V := (Bk (df := st.df) EY.nil g).symm
 rw [← hev] at hit
 have sI : ∀ l, C6 (REI enc step o w' Inv l) := fun l => C6.ex fun q => hI q.1 _;have sD : ∀ c, C6 (RED o w' X Xa c) := fun c => C6.or (C6.ex fun q => hX q.1 q.2 w') (C6.ex fun q => hXa q);have sJ : ∀ x l fr, C6 (REJ enc step o w' fJ J x l fr) := fun x l fr => C6.ex fun q => hJ q.1 q.2.1 q.2.2.1 _;refine N9.rangeOuter (nt := nt) hnt (fun x hx => ?_) hit (REI enc step o w' Inv) (RED o w' X Xa) sI sD (REJ enc step o w' fJ J) sJ ⟨⟨s0, xs, w⟩, ⟨rfl, h⟩, h0⟩ ?_ ?_ (fun d H' hd ⟨⟨s, ys, w2⟩, ⟨hl, hr⟩, hi⟩ => ?_) fun c d H' hd hx => ?_
 ·obtain ⟨y, _, rfl⟩ := List.mem_map.1 hx;exact hps y
 ·intro id L x l F H ⟨⟨s, ys, w2⟩, ⟨hl, hr⟩, hi⟩ _ _
  cases ys with
  | nil => cases hl
  | cons y ys =>
   simp only [List.map_cons, List.cons.injEq] at hl
   obtain ⟨rfl, rfl⟩ := hl
   have e : (⟨CS (D9 st).s ps.toList (enc y), []⟩ : Fr) = D9 ⟨NJ ps.toList (enc y) st.l, []⟩ := by
    simp only [D9, Fr.mk.injEq, and_true]
    funext t
    exact Mv _ _ _ _
   rw [e];refine (G1 hP.1 hP.2 asg _ _ _ hda (asgP _ id y s _ F H rfl hi)).mono fun e fr' H1 ⟨st', hle, hq⟩ => ?_
   cases e with
   | normal =>
    obtain ⟨i, hj, hl, hdf⟩ := hq;exact ⟨rfl, ⟨i, s, y, ys, w2⟩, ⟨rfl, rfl, hr, fun t => (hle.s t).trans (hl.wk t), hle.df.trans hdf⟩, hj⟩
   | _ => exact hq.elim
 ·intro id L x l fr' F H ⟨⟨i, s, y, ys, w2⟩, ⟨hx, hl, hr, hf⟩, hj⟩ hL;subst hx; subst hl
  simp only [Z0] at hr
  cases ho : step s y with
  | none => rw [ho] at hr; cases hr
  | some p =>
   obtain ⟨w1, o'⟩ := p
   rw [ho] at hr
   obtain ⟨w3, hw, hrest⟩ : ∃ w3, w2 = w1 ++ w3 ∧ match o' with | .inl s' => Z0 step ys s' = some (w3, o) | .inr x => o = .inr x ∧ w3 = [] := by
    cases o' with
    | inl s' =>
     simp only at hr
     split at hr
     ·cases hr
     rename_i w3 x hx;cases hr;exact ⟨w3, rfl, hx⟩
    | inr x => cases hr; exact ⟨[], by simp, rfl, rfl⟩
   subst hw
   dsimp only at hj
   rw [List.append_assoc] at hj
   refine N9.frLe hf ((G1 hP.1 hP.2 body _ _ _ hdb (bodyP _ id i y s w1 (w3 ++ w') F H o' rfl ⟨L, hL⟩ ho hj)).mono fun e fr2 H2 ⟨st', hle, hq⟩ => ?_)
   have out : ∀ e c, TE e = some c → ((∃ r, o' = .inr r ∧ (TE e).isSome = true ∧ X r e (w3 ++ w') F H2) ∨ ((TE e).isSome = true ∧ Xa e F H2)) → RED o w' X Xa c F H2 := by
    intro e c hc hq
    rcases hq with ⟨r, h1, _, h3⟩ | ⟨_, h3⟩
    ·subst h1;obtain ⟨rfl, rfl⟩ := hrest;exact .inl ⟨⟨r, e⟩, ⟨rfl, hc⟩, h3⟩
    exact .inr ⟨e, hc, h3⟩
   cases e with
   | normal =>
    obtain ⟨s', h1, h2⟩ := hq;subst h1;exact ⟨⟨s', ys, w3⟩, ⟨rfl, hrest⟩, h2⟩
   | ret => exact out .ret _ rfl hq
   | exit k => exact out (.exit k) _ rfl hq
   | _ => rcases hq with ⟨_, _, h, _⟩ | ⟨h, _⟩ <;> cases h
 ·have hys : ys = [] := by
   cases ys with
   | nil => rfl
   | cons _ _ => cases hl
  subst hys;cases hr;exact ⟨⟨st.l, d :: st.df⟩, ⟨fun t => Wk.refl _, rfl⟩, done d s H' rfl hd hi⟩
 have fin : ∀ e, TE e = some c → K e ⟨st.l, d :: st.df⟩ H' → N9 P nt none c { D9 st with df := d :: (D9 st).df } H' fun e fr' H' => ∃ st', Bv fr' st' ∧ K e st' H' := by
  intro e hj hk
  cases e with
  | ret => cases hj; exact N9.ret ⟨⟨st.l, d :: st.df⟩, ⟨fun t => Wk.refl _, rfl⟩, hk⟩
  | exit k => cases hj; exact N9.exit ⟨⟨st.l, d :: st.df⟩, ⟨fun t => Wk.refl _, rfl⟩, hk⟩
  | _ => cases hj
 rcases hx with ⟨⟨r, e⟩, ⟨ho, hj⟩, hx⟩ | ⟨e, hj, hx⟩
 ·exact fin e hj (stop d r e H' ho hd hx)
 exact fin e hj (stopA d e H' hd hx)
end
end Go.Ab
namespace Go.Ab
def Dw {α : Type} (l : List α) (i : Int) : Bool := decide (0 ≤ i ∧ i < (l.length : Nat))
def Ba {α : Type} (l : List α) (i : Int) (u : α → α) : Option (List α) := (C3 l i).map fun x => l.set i.toNat (u x)
def OQ {α : Type} (n m : Int) (z : α) : Option (List α) := if 0 ≤ n ∧ n ≤ m ∧ m ≤ 1073741824 then some (List.replicate n.toNat z) else none
def MQ {α : Type} (l : List α) (i j : Int) : Option (List α) := if 0 ≤ i ∧ i ≤ j ∧ j ≤ (l.length : Nat) then some (l.take i.toNat ++ l.drop j.toNat) else none
def MH {α : Type} (l : List α) (i : Int) (m : List α) : Option (List α) := if 0 ≤ i ∧ i ≤ (l.length : Nat) ∧ l.length + m.length ≤ 1073741824 then some (l.take i.toNat ++ m ++ l.drop i.toNat) else none
def Lz {α : Type} (_ : List α) (n : Int) : Option (List α) := if 0 ≤ n ∧ n ≤ 1073741824 then some [] else none
end Go.Ab
namespace Go.Ab
open Go.RowKit
variable [G5] [Ar]
theorem V2.swap {H0 H : A0} {L : List En} (h : V2 H0 L H) (i : Nat) {en en' : En} {id t : Nat} {b b' : Au} (hi : L[i]? = some en) (he : en.id = some (id, b)) (he' : en'.id = some (t, b')) (ht : upd H id none t = none) :
 V2 H0 (L.set i en') (upd (upd H id none) t (some b')) := by
 have hlt : i < L.length := by
  rcases Nat.lt_or_ge i L.length with h' | h'
  ·exact h'
  rw [List.getElem?_eq_none h'] at hi; cases hi
 have EW : ∀ (j : Nat) e, (L.set i en')[j]? = some e → (j = i ∧ e = en') ∨ (j ≠ i ∧ L[j]? = some e) := fun j e hj => by
  rw [List.getElem?_set] at hj
  split at hj
  ·rename_i hij;subst hij
   try rw [if_pos hlt] at hj
   exact .inl ⟨rfl, (Option.some.inj hj).symm⟩
  rename_i hij;exact .inr ⟨fun e => hij e.symm, hj⟩
 have hid := h.has i _ id b hi he
 have h0 : ∀ x c, H0 x = some c → upd H id none x = some c := fun x c hx => by
  rw [A3 _ _ (L7 hid.1 hx)]; exact h.ext x c hx
 have hoth : ∀ (j : Nat) e x c, j ≠ i → L[j]? = some e → e.id = some (x, c) → H0 x = none ∧ upd H id none x = some c := fun j e x c hne hj hx => by
  have := h.has j e x c hj hx
  have hxid : x ≠ id := fun eq => by subst eq; exact hne (h.inj j i e _ x c b hj hi hx he)
  exact ⟨this.1, by rw [A3 _ _ hxid]; exact this.2⟩
 have hid0 : H0 t = none := by
  cases e : H0 t with
  | none => rfl
  | some c => rw [h0 t c e] at ht; cases ht
 refine ⟨fun x bb hx => ?_, fun j e x bb hj hx => ?_, fun j k e e' x bb bb' hj hk hx hx' => ?_, fun x bb hx => ?_⟩
 rotate_right
 ·by_cases hxi : x = t
  ·subst hxi; rw [A9] at hx; cases hx
   exact .inr ⟨i, en', by rw [List.getElem?_set, if_pos rfl, if_pos hlt], he'⟩
  rw [A3 _ _ hxi] at hx
  have hxid : x ≠ id := fun eq => by subst eq; rw [A9] at hx; cases hx
  rw [A3 _ _ hxid] at hx
  refine (h.only x bb hx).imp (fun h => h) fun ⟨j, e, h1, h2⟩ => ⟨j, e, ?_, h2⟩;rw [List.getElem?_set]
  split
  ·rename_i hij; subst hij; rw [hi] at h1; cases h1; rw [he] at h2; cases h2; exact absurd rfl hxid
  exact h1
 ·rw [A3 _ _ (L7 hid0 hx)]; exact h0 x bb hx
 ·rcases EW j e hj with ⟨_, rfl⟩ | ⟨hne, hj'⟩
  ·rw [he'] at hx; cases hx; exact ⟨hid0, A9 _ _ _⟩
  have := hoth j e x bb hne hj' hx;exact ⟨this.1, by rw [A3 _ _ (L7 ht this.2)]; exact this.2⟩
 rcases EW j e hj with ⟨hji, rfl⟩ | ⟨hne, hj'⟩ <;> rcases EW k e' hk with ⟨hki, rfl⟩ | ⟨hne', hk'⟩
 ·rw [hji, hki]
 ·rw [he'] at hx; cases hx; have := (hoth k e' t bb' hne' hk' hx').2; rw [ht] at this; cases this
 ·rw [he'] at hx'; cases hx'; have := (hoth j e t bb hne hj' hx).2; rw [ht] at this; cases this
 exact h.inj j k e e' x bb bb' hj' hk' hx hx'
theorem B4.swap {Φ : A0 → A0 → Prop} {F H : A0} {L : List En} (h : B4 Φ F L H) (i : Nat) {id t : Nat} {b b' : Au} (hi : L[i]? = some (.blk id b)) (ht : upd H id none t = none) : B4 Φ F (L.set i (.blk t b')) (upd (upd H id none) t (some b')) := by
 obtain ⟨hs, F', H1, h0, h1, h2⟩ := h;have e := h0.get i hi;have e1 := hs.le h1 _ _ e;have h3 := hs.chg id none h1 (by rw [e, e1]);have hle : Dj (upd H1 id none) (upd H id none) := h2.upd id none;have hn1 := hle.none ht;have hn' := hs.fresh h3 hn1;exact ⟨hs, _, _, h0.swap i hi rfl rfl hn', hs.chg t (some b') h3 (by rw [hn1, hn']), hle.upd t _⟩
theorem B4.swap' {Φ : A0 → A0 → Prop} {F H : A0} {L : List En} (h : B4 Φ F L H) (i : Nat) {id t : Nat} {b b' : Au} (hi : L[i]? = some (.blk id b)) (ht : H t = none) : B4 Φ F (L.set i (.blk t b')) (upd H t (some b')) := by
 have hid := h.get i hi
 have hne : t ≠ id := fun e => by subst e; rw [ht] at hid; cases hid
 obtain ⟨hs, F', H1, h0, h1, h2⟩ := h.swap (b' := b') i hi (t := t) (by rw [A3 _ _ hne]; exact ht);refine ⟨hs, F', H1, h0, h1, fun x c hx => ?_⟩;have := h2 x c hx
 by_cases e : x = t
 ·subst e; rw [A9] at this ⊢; exact this
 rw [A3 _ _ e] at this ⊢
 by_cases e2 : x = id
 ·subst e2; rw [A9] at this; cases this
 rwa [A3 _ _ e2] at this
structure OG where
 id : Nat
 lo : Int
 n : Int
 pre : List V
 rest : List V
def T6 (q : OG) (m : Int) : Prop := q.lo = (q.pre.length : Nat) ∧ q.n = m
theorem MD {α : Type} {f : α → V} (l : List α) : Ar.len l = ((Ar.lst f l).length : Nat) := by rw [Ar.len_eq, I0]
theorem Ob {α : Type} {f : α → V} (l : List α) : Ar.len l = TB (Ar.lst f l) := by rw [QI, MD (f := f) l]
theorem FO {pre xs rest : List V} {lo n : Int} (h0 : lo = (pre.length : Nat)) (h1 : n = (xs.length : Nat)) : G3 (pre ++ xs ++ rest) lo n = xs := by
 subst h0; subst h1;simp [G3]
theorem NK {pre xs rest ys : List V} {i : Nat} (hi : i = pre.length + xs.length) : T5 (pre ++ xs ++ rest) i ys = pre ++ (xs ++ ys) ++ rest.drop ys.length := by
 subst hi;simp only [T5, List.append_assoc];rw [show pre ++ (xs ++ rest) = (pre ++ xs) ++ rest by simp, ← List.length_append, List.take_left, List.drop_append];simp
theorem Oh {pre xs rest : List V} {i : Nat} (h : i < xs.length) : (pre ++ xs ++ rest).getD (pre.length + i) .bad = xs.getD i .bad := by
 simp only [List.getD_eq_getElem?_getD, List.append_assoc];rw [List.getElem?_append_right (by omega), show pre.length + i - pre.length = i by omega, List.getElem?_append_left h]
theorem UH {pre xs rest : List V} {i : Nat} {v : V} (h : i < xs.length) : (pre ++ xs ++ rest).set (pre.length + i) v = pre ++ xs.set i v ++ rest := by
 simp only [List.append_assoc];rw [List.set_append_right _ _ (by omega), show pre.length + i - pre.length = i by omega, List.set_append_left _ _ h]
theorem B4.set_self {L : List En} (i : Nat) {e : En} (hi : L[i]? = some e) : L.set i e = L := by
 apply List.ext_getElem?;intro j;rw [List.getElem?_set]
 split
 ·rename_i h; subst h
  split
  ·exact hi.symm
  rename_i h; rw [List.getElem?_eq_none (by omega)]
 rfl
section
variable {P : Program} {nt : Nat} {rd : Option Nat} {T : Dm} {E : CM}
variable (hE : E = E6 P nt rd)
include hE
variable {α R : Type} {f : α → V} {Φ : A0 → A0 → Prop} {H0 H : A0} {L : List En} {sz : Nat} {q : OG} {l : List α} {r : R}
theorem EC (hq : T6 q (Ar.len l)) {k : Int → Prop} (h : k (Ar.len l)) : E.olen q.n k := by
 subst hE
 show k q.n
 rw [hq.2]; exact h
theorem S0 (hO : B4 Φ H0 L H) (hq : T6 q (Ar.len l)) (i : Nat) {j : Int} {k : Int → Prop} {F : Unit → Option R} (hi : L[i]? = some (.blk q.id (.arr sz (q.pre ++ Ar.lst f l ++ q.rest)))) (h : (Bx (Dw l j)).bind F = some r) (hk : F () = some r → k (Ar.ofs q.lo j)) :
 E.oidx H q.id sz q.lo q.n j k := by
 subst hE;obtain ⟨x, h1, h2⟩ := bind_some h
 unfold Bx at h1
 split at h1
 ·rename_i hp;refine ⟨⟨_, hO.get i hi⟩, ?_, hk h2⟩;rw [hq.2, Ar.len_eq]; exact of_decide_eq_true hp
 cases h1
theorem Lw {l : List α} {i : Int} {x : α} (h : C3 l i = some x) : (0 ≤ i ∧ i < (l.length : Nat)) ∧ l[i.toNat]? = some x := by
 unfold C3 at h
 split at h
 ·rename_i h0;refine ⟨⟨h0, ?_⟩, h⟩
  rcases Nat.lt_or_ge i.toNat l.length with h' | h'
  ·omega
  rw [List.getElem?_eq_none h'] at h; cases h
 cases h
theorem NZ {l : List α} {i : Nat} {x : α} (h : l[i]? = some x) : (Ar.lst f l).getD i .bad = f x := by
 rw [Ar.lst_eq]; simp [List.getD, h]
theorem AH {g : α → V} (hf : ∀ x, f x = g x) (hO : B4 Φ H0 L H) (hq : T6 q (Ar.len l)) (i : Nat) {j : Int} {k : V → Prop} {F : α → Option R} (hi : L[i]? = some (.blk q.id (.arr sz (q.pre ++ Ar.lst f l ++ q.rest)))) (h : (C3 l j).bind F = some r) (hk : ∀ x, F x = some r → k (g x)) :
 E.oload H q.id (Ar.ofs q.lo j) k := by
 obtain ⟨x, h1, h2⟩ := bind_some h;obtain ⟨hb, h3⟩ := Lw hE h1;have h4 := NZ hE (f := f) h3;subst hE;have e1 := I0 (f := f) l;refine ⟨_, _, hO.get i hi, ?_, ?_⟩
 ·rw [Ar.ofs_eq, hq.1]; simp only [List.length_append, e1]; omega
 rw [Ar.ofs_eq, hq.1, show ((q.pre.length : Nat) + j : Int).toNat = q.pre.length + j.toNat by omega, Oh (by rw [e1]; omega), h4, hf];exact hk x h2
theorem NU {β : Type} {f0 : β → V} {esz : Nat} (hO : B4 Φ H0 L H) {k : Nat → A0 → Prop} (hk : ∀ (q : OG) id H', T6 q (Ar.len ([] : List β)) → B4 Φ H0 (.blk id (.cells [.own q.id q.lo q.n]) :: .blk q.id (.arr esz (q.pre ++ Ar.lst f0 [] ++ q.rest)) :: L) H' → k id H') : E.oalloc esz H k := by
 subst hE;intro t id ht hid
 have e : ([] : List V) ++ Ar.lst f0 [] ++ [] = [] := by rw [← B3 (f := f0)]; rfl
 have h0 : B4 Φ H0 (.blk t (.arr esz []) :: L) (upd H t (some (.arr esz []))) := hO.push ht rfl;have h1 : B4 Φ H0 (.blk id (.cells [.own t 0 0]) :: .blk t (.arr esz []) :: L) (upd (upd H t (some (.arr esz []))) id (some (.cells [.own t 0 0]))) := h0.push hid rfl;refine hk ⟨t, 0, 0, [], []⟩ id _ ⟨rfl, by rw [Ar.len_eq]; rfl⟩ ?_
 show B4 Φ H0 (.blk id (.cells [.own t 0 0]) :: .blk t (.arr esz (([] : List V) ++ Ar.lst f0 [] ++ [])) :: L) _
 rw [e]; exact h1
theorem QC (hO : B4 Φ H0 L H) (hq : T6 q (Ar.len l)) (i m : Nat) {id j : Nat} {cs : List V} {k : A0 → Prop} (hi : L[i]? = some (.blk id (.cells cs))) (hm : L[m]? = some (.blk q.id (.arr sz (q.pre ++ Ar.lst f l ++ q.rest)))) (hj : cs[j]? = some (.own q.id q.lo q.n)) (him : i ≠ m)
 (hk : ∀ H', B4 Φ H0 ((L.set i (.blk id (.cells (cs.set j (.sl (Ar.lst f l) .ro))))).eraseIdx m) H' → k H') : E.frzIn H id j k := by
 subst hE;have h1 := hO.get i hi;have h2 := hO.get m hm
 have hne : q.id ≠ id := fun e => by rw [e, h1] at h2; cases h2
 refine ⟨cs, q.id, q.lo, q.n, sz, _, _, h1, hj, h2, .refl _, ?_⟩;have h3 := (hO.set i (b' := .cells (cs.set j (.sl (Ar.lst f l) .ro))) hi).del m (id := q.id) (b := .arr sz (q.pre ++ Ar.lst f l ++ q.rest)) (by rw [List.getElem?_set, if_neg him]; exact hm);rw [FO hq.1 (by rw [hq.2, Ar.len_eq, I0]), Jh _ _ _ hne];exact hk _ h3
theorem S6 {u : α → α} {esz tz off : Nat} {y : V} (hu : ∀ x, ∃ y', Y4 y y' ∧ y'.one = true ∧ y'.cells.length = tz ∧ Mu (f x) esz tz off y' = f (u x)) (hle : off + tz ≤ esz) (hO : B4 Φ H0 L H) (hq : T6 q (Ar.len l)) (i : Nat) {j : Int} {k : A0 → Prop} {F : List α → Option R}
 (hi : L[i]? = some (.blk q.id (.arr esz (q.pre ++ Ar.lst f l ++ q.rest)))) (h : (Ba l j u).bind F = some r)
 (hk : ∀ l' H', T6 q (Ar.len l') → F l' = some r → B4 Φ H0 (L.set i (.blk q.id (.arr esz (q.pre ++ Ar.lst f l' ++ q.rest)))) H' → k H') : E.ostore H q.id (Ar.ofs q.lo j) esz tz off y k := by
 obtain ⟨l', h1, h2⟩ := bind_some h
 unfold Ba at h1
 cases hx : C3 l j with
 | none => rw [hx] at h1; cases h1
 | some x =>
  rw [hx] at h1
  simp only [Option.map_some, Option.some.injEq] at h1
  obtain ⟨hb, h3⟩ := Lw hE hx;obtain ⟨y', q1, q2, q3, q4⟩ := hu x;have e1 := NZ hE (f := f) h3
  have e2 : (Ar.lst f l).set j.toNat (f (u x)) = Ar.lst f l' := by
   rw [← h1, Ar.lst_eq, Ar.lst_eq, List.map_set]
  subst hE;have el := I0 (f := f) l
  have ej : (Ar.ofs q.lo j).toNat = q.pre.length + j.toNat := by rw [Ar.ofs_eq, hq.1]; omega
  refine ⟨_, y', q1, q2, q3, hle, hO.get i hi, ?_, ?_⟩
  ·rw [Ar.ofs_eq, hq.1]; simp only [List.length_append, el]; omega
  rw [ej, Oh (by rw [el]; omega), UH (by rw [el]; omega), e1, q4, e2];refine hk l' _ ⟨hq.1, ?_⟩ h2 (hO.set i hi);rw [hq.2, Ar.len_eq, Ar.len_eq, ← h1, List.length_set]
theorem Iw {by_ : Nat} (hby : by_ ≤ 131072) {z : V} {z0 : α} (hz : Y4 z (f z0)) (hO : B4 Φ H0 L H) {n m : Int} {k : V → A0 → Prop} {F : List α → Option R} (h : (OQ n m z0).bind F = some r)
 (hk : ∀ l' (q : OG) H', T6 q (Ar.len l') → F l' = some r → B4 Φ H0 (.blk q.id (.arr sz (q.pre ++ Ar.lst f l' ++ q.rest)) :: L) H' → k (.own q.id q.lo q.n) H') : E.omk sz by_ z n m H k := by
 subst hE;obtain ⟨l', h1, h2⟩ := bind_some h
 unfold OQ at h1
 split at h1
 ·rename_i hc;cases h1;refine ⟨⟨hc.1, hc.2.1, ?_⟩, List.replicate m.toNat (f z0), ?_, fun id hid => ?_⟩
  ·have : m * (by_ : Nat) ≤ 1073741824 * 131072 := Int.mul_le_mul hc.2.2 (by omega) (by omega) (by omega);omega
  ·have : ∀ k : Nat, G4 (List.replicate k z) (List.replicate k (f z0)) := fun k => by
    induction k with
    | zero => exact .nil
    | succ k ih => rw [List.replicate_succ, List.replicate_succ]; exact .cons hz ih
   exact this _
  have e : List.replicate m.toNat (f z0) = [] ++ Ar.lst f (List.replicate n.toNat z0) ++ List.replicate (m.toNat - n.toNat) (f z0) := by
   rw [Ar.lst_eq, List.map_replicate, List.nil_append, List.replicate_append_replicate]; congr 1; omega
  rw [e];exact hk _ ⟨id, 0, n, [], List.replicate (m.toNat - n.toNat) (f z0)⟩ _ ⟨rfl, by rw [Ar.len_eq]; simp; omega⟩ h2 (hO.push hid rfl)
 cases h1
theorem DN {by_ : Nat} {z : V} (hsz : ∀ x, (f x).cells.length = sz) (hby : by_ ≤ 131072) (hO : B4 Φ H0 L H) (hq : T6 q (Ar.len l)) (i : Nat) (hi : L[i]? = some (.blk q.id (.arr sz (q.pre ++ Ar.lst f l ++ q.rest)))) {y : V} {m : List α} {k : V → A0 → Prop} {F : List α → Option R}
 (hs : IR sz H y (Ar.lst f m)) (h : (Q2 l m).bind F = some r)
 (hk : ∀ x (q : OG) H', T6 q (Ar.len x) → B4 Φ H0 (L.set i (.blk q.id (.arr sz (q.pre ++ Ar.lst f x ++ q.rest)))) H' → F x = some r → k (.own q.id q.lo q.n) H') : E.oapp sz by_ z H (.own q.id q.lo q.n) y k := by
 subst hE;obtain ⟨x, h1, h2⟩ := bind_some h;have el := I0 (f := f) l;have em := I0 (f := f) m
 have hn : q.n = (l.length : Nat) := by rw [hq.2, Ar.len_eq]
 unfold Q2 at h1
 split at h1
 ·rename_i hc;cases h1;refine ⟨_, hs, _, hO.get i hi, fun hfit => ?_, fun _ => ⟨?_, fun t j ht => ?_⟩⟩
  rotate_left
  ·rw [em, hn, Int.toNat_natCast];exact Nat.le_trans (Nat.mul_le_mul hc hby) (by decide)
  rotate_left
  ·have e : T5 (q.pre ++ Ar.lst f l ++ q.rest) (q.lo + q.n).toNat (Ar.lst f m) = q.pre ++ Ar.lst f (l ++ m) ++ q.rest.drop m.length := by
    rw [NK (by rw [hq.1, hn, el]; omega), Hk, em]
   rw [e];refine hk _ ⟨q.id, q.lo, q.n + ((Ar.lst f m).length : Nat), q.pre, q.rest.drop m.length⟩ _ ⟨hq.1, ?_⟩ (hO.set i hi) h2;rw [Ar.len_eq, hn, em]; simp
  have e : G3 (q.pre ++ Ar.lst f l ++ q.rest) q.lo q.n ++ Ar.lst f m ++ List.replicate j z = [] ++ Ar.lst f (l ++ m) ++ List.replicate j z := by
   rw [FO hq.1 (by rw [el]; exact hn), Hk, List.nil_append]
  rw [e];refine hk _ ⟨t, 0, q.n + ((Ar.lst f m).length : Nat), [], List.replicate j z⟩ _ ⟨rfl, ?_⟩ (hO.swap' i hi ht) h2;rw [Ar.len_eq, hn, em]; simp
 cases h1
theorem Qy {by_ : Nat} {z : V} (hsz : ∀ x, (f x).cells.length = sz) (hby : by_ ≤ 131072) (hO : B4 Φ H0 L H) {x : V} (hx : x = .sl [] .nil ∨ x = .sl [] .full) {y : V} {m : List α} {k : V → A0 → Prop} {F : List α → Option R}
 (hs : IR sz H y (Ar.lst f m)) (h : (Q2 [] m).bind F = some r)
 (hk : ∀ x (q : OG) H', T6 q (Ar.len x) → B4 Φ H0 (.blk q.id (.arr sz (q.pre ++ Ar.lst f x ++ q.rest)) :: L) H' → F x = some r → k (.own q.id q.lo q.n) H') : E.oapp sz by_ z H x y k := by
 subst hE;obtain ⟨x', h1, h2⟩ := bind_some h;have em := I0 (f := f) m
 unfold Q2 at h1
 split at h1
 ·rename_i hc;cases h1;refine ⟨_, hs, ?_⟩
  have key : (Ar.lst f m).length * by_ ≤ 140737488355328 ∧ ∀ t j, H t = none → k (.own t 0 ((Ar.lst f m).length : Nat)) (upd H t (some (.arr sz (Ar.lst f m ++ List.replicate j z)))) := by
   refine ⟨?_, fun t j ht => ?_⟩
   ·rw [em];exact Nat.le_trans (Nat.mul_le_mul (by simpa using hc) hby) (by decide)
   refine hk m ⟨t, 0, ((Ar.lst f m).length : Nat), [], List.replicate j z⟩ _ ⟨rfl, by rw [Ar.len_eq, em]⟩ ?_ (by simpa using h2);exact hO.push ht rfl
  rcases hx with rfl | rfl
  ·exact ⟨.inl rfl, key.1, key.2⟩
  exact ⟨.inr rfl, key.1, key.2⟩
 cases h1
theorem T8 (h : T6 q (Ar.len l)) : T6 q ((Ar.lst f l).length : Nat) := ⟨h.1, by rw [h.2, Ar.len_eq, I0]⟩
theorem UD (hO : B4 Φ H0 L H) (hq : T6 q (Ar.len l)) (i : Nat) (hi : L[i]? = some (.blk q.id (.arr sz (q.pre ++ Ar.lst f l ++ q.rest)))) : IR sz H (.own q.id q.lo q.n) (Ar.lst f l) := by
 refine ⟨_, hO.get i hi, ?_⟩;rw [FO hq.1 (by rw [hq.2, Ar.len_eq, I0])];exact .refl _
theorem BD (hsz : ∀ x, (f x).cells.length = sz) {ys : List V} {tl : D6} (h : G4 ys (Ar.lst f l)) : IR sz H (.sl ys tl) (Ar.lst f l) := ⟨h, JR hsz l⟩
theorem NS (hO : B4 Φ H0 L H) (hq : T6 q (Ar.len l)) (i : Nat) (hi : L[i]? = some (.blk q.id (.arr sz (q.pre ++ Ar.lst f l ++ q.rest)))) {lo hi' : Option Int} {k : V → Prop} {F : List α → Option R}
 (h : (Bb l lo hi' none).bind F = some r) (hk : ∀ x (q : OG), T6 q (Ar.len x) → B4 Φ H0 (L.set i (.blk q.id (.arr sz (q.pre ++ Ar.lst f x ++ q.rest)))) H → F x = some r → k (.own q.id q.lo q.n)) :
 E.oslice sz H q.id q.lo q.n lo hi' none k := by
 subst hE;obtain ⟨x, h1, h2⟩ := bind_some h;have el := I0 (f := f) l
 have hn : q.n = (l.length : Nat) := by rw [hq.2, Ar.len_eq]
 unfold Bb at h1
 split at h1
 ·rename_i hc;cases h1;obtain ⟨c1, c2, c3, c4, c5⟩ := hc
  simp only [Option.getD_none] at c3
  refine ⟨_, hO.get i hi, ?_, ?_⟩
  ·rw [hn, hq.1];simp only [List.length_append, el, Option.getD_none];refine ⟨c1, c2, by omega, by omega, fun h => by cases h⟩
  rw [hn]
  generalize hA : lo.getD 0 = a at *
  generalize hB : hi'.getD (l.length : Nat) = b at *
  have hm : ((l.drop a.toNat).take (b.toNat - a.toNat)).length = b.toNat - a.toNat := by simp; omega
  refine hk _ ⟨q.id, q.lo + a, b - a, q.pre ++ Ar.lst f (l.take a.toNat), Ar.lst f (l.drop b.toNat) ++ q.rest⟩ ⟨?_, ?_⟩ ?_ h2
  ·simp only [List.length_append, I0, List.length_take, hq.1]; omega
  ·rw [Ar.len_eq, hm]; simp only; omega
  have e : q.pre ++ Ar.lst f (l.take a.toNat) ++ Ar.lst f ((l.drop a.toNat).take (b.toNat - a.toNat)) ++ (Ar.lst f (l.drop b.toNat) ++ q.rest) = q.pre ++ Ar.lst f l ++ q.rest := by
   have e1 : l = l.take a.toNat ++ ((l.drop a.toNat).take (b.toNat - a.toNat) ++ l.drop b.toNat) := by
    have e2 : l.drop b.toNat = (l.drop a.toNat).drop (b.toNat - a.toNat) := by rw [List.drop_drop]; congr 1; omega
    rw [e2, List.take_append_drop, List.take_append_drop]
   have e3 : Ar.lst f l = Ar.lst f (l.take a.toNat) ++ (Ar.lst f ((l.drop a.toNat).take (b.toNat - a.toNat)) ++ Ar.lst f (l.drop b.toNat)) := by
    rw [Hk, Hk, ← e1]
   rw [e3]; simp only [List.append_assoc]
  simp only
  rw [e, B4.set_self i hi];exact hO
 cases h1
theorem RN (hO : B4 Φ H0 L H) (hq : T6 q (Ar.len l)) (i : Nat) (hi : L[i]? = some (.blk q.id (.arr sz (q.pre ++ Ar.lst f l ++ q.rest)))) {lo hi' : Option Int} {k : V → Prop} {F : List α → Option R}
 (h : (Bb l lo hi' none).bind F = some r) (hk : ∀ x (q' : OG), IR sz H (.own q'.id q'.lo q'.n) (Ar.lst f x) → F x = some r → k (.own q'.id q'.lo q'.n)) :
 E.oslice sz H q.id q.lo q.n lo hi' none k :=
 NS hE hO hq i hi h fun x q' hq' hO' h2 => hk x q' (UD hE hO' hq' i (by rw [List.getElem?_set]; simp [(List.getElem?_eq_some_iff.1 hi).1])) h2
theorem Fs (hO : B4 Φ H0 L H) (hq : T6 q (Ar.len l)) (i : Nat) {k : List V → A0 → Prop} (hi : L[i]? = some (.blk q.id (.arr sz (q.pre ++ Ar.lst f l ++ q.rest)))) (hk : ∀ H', B4 Φ H0 (L.eraseIdx i) H' → k (Ar.lst f l) H') : E.ofrz H q.id q.lo q.n k := by
 subst hE;have := hk _ (hO.del i hi);refine ⟨_, _, _, hO.get i hi, .refl _, ?_⟩;rw [FO hq.1 (by rw [hq.2, Ar.len_eq, I0])];exact this
end
end Go.Ab
