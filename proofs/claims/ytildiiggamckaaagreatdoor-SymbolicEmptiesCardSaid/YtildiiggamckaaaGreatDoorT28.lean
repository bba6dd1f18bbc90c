/- AbB16 AbH2 AbH3 AbB12 AbC4 -/
import Derived.Test.YtildiiggamckaaaGreatDoorT27
import Derived.Test.YtildiiggamckaaaGreatDoorT26
set_option linter.all false
namespace Go.Ab
open Go.RowKit Go.MapKept
variable [G5] [Ar]
section
variable {K X : Type}
def Qj (P : Program) (f : FuncId) (args : List V) (d : TypeDesc) (kf : K → V) (vf : X → V) (m : List (K × X)) : Prop :=
 ∀ H, E7 P f args H fun v H' => ∃ id o, H id = none ∧ DX d kf vf o m ∧ v = .map id ∧ H' = upd H id (some (.obj o))
end
section
variable {P : Program} {nt : Nat} {rd : Option Nat} {T : Dm} {E : CM}
variable (hE : E = E6 P nt rd)
include hE
variable {K X R S : Type} {kf : K → V} {vf : X → V} {d : TypeDesc} {Φ : A0 → A0 → Prop} {H0 H : A0} {L : List En} {r : R} {fid : FuncId} {args args' : List V} {k : V → A0 → Prop}
theorem Tt {m : Option (List (K × X))} {F : List (K × X) → Option R} (h : m.bind F = some r) (hc : ∀ x, m = some x → Qj P fid args' d kf vf x) (hl : G4 args args') (hO : B4 Φ H0 L H)
 (hk : ∀ x id o H', DX d kf vf o x → B4 Φ H0 (.blk id (.obj o) :: L) H' → F x = some r → k (.map id) H') : E.call (.func (.func fid) [] []) args H k := by
 subst hE;obtain ⟨x, h1, h2⟩ := bind_some h;refine E7.value (F := []) (C := []) ?_;simp only [List.nil_append, List.append_nil]
 exact ((hc x h1 H).args hl).mono fun v H' ⟨id, o, e1, e2, e3, e4⟩ => by subst e3; subst e4; exact hk x id o _ e2 (hO.push e1 rfl) h2
end
theorem B4.ne {Φ : A0 → A0 → Prop} {F H : A0} {L : List En} {a b : Nat} {x y : Au} (h : B4 Φ F L H) (i j : Nat) (hi : L[i]? = some (.blk a x)) (hj : L[j]? = some (.blk b y)) (hij : i ≠ j) : a ≠ b := fun e => by
 obtain ⟨hs, F', H1, h0, h1, h2⟩ := h;subst e;exact hij (h0.inj i j _ _ a x y hi hj rfl rfl)
section
variable {P : Program} {T : Dm} {f : FuncId} {fn : Func} {c : Code} {n : Nat} {rs : List ResultVar} {args : List V} {K X : Type} {kf : K → V} {vf : X → V} {d : TypeDesc}
theorem Qc {m : List (K × X)} (cf : Cf) (hP : KE P T) (hf : P.funcs[f]? = some fn) (hb : fn.body = some c) (hd : E9 cf c = true)
 (hcall : ∀ vals w, (callFunc f vals).run P w = .ok (.enter f vals) w) (hnt : fn.ntmps = n) (hrs : fn.results.toList = rs) (hn : Nat.ble args.length n = true)
 (h : ∀ (E : CM) (H : A0) (k : V → A0 → Prop), E = E6 P n none → (∀ id o (L : List En) (i : Nat) H', DX d kf vf o m → L[i]? = some (.blk id (.obj o)) → B4 Eq H L H' → k (.map id) H') → run E T n cf c ⟨Z7 args 0, []⟩ H (Ib E T rs k)) : Qj P f args d kf vf m := fun H => by
 refine E7.le (N8 (K := fun x H' => ∃ y H2, Y4 x y ∧ Dj H2 H' ∧ ∃ id o, H id = none ∧ DX d kf vf o m ∧ y = .map id ∧ H2 = upd H id (some (.obj o))) cf hP.1 hP.2 hf hb hd hcall hnt hrs hn fun E hE => ?_);refine h E H _ hE fun id o L i H' hq hi hO => ?_;obtain ⟨h1, h2⟩ := (hO.only i hi).last;exact ⟨_, _, .refl _, h2, id, o, h1, hq, rfl, rfl⟩
end
section
variable {K X : Type}
def ON (kf : K → V) (vf : X → V) (o : Obj) (mid : Nat) (b : Au) (left : List (K × X)) : Prop :=
 ∃ (es : Array MapEntry) (clock : Nat) (seen : Array Nat) (zs : List (MapEntry × (K × X))), o = .map es clock ∧ b = .iter mid clock seen clock ∧ GS es clock ∧ zs.map (·.1) = (leftOf es seen).toList ∧
  (∀ z ∈ zs, AY (kf z.2.1) = some z.1.key ∧ Gf (vf z.2.2) = some z.1.val) ∧ (zs.map (·.2)).Perm left
def XF (kf : K → V) (vf : X → V) (o : Obj) (mid : Nat) (b : Au) (left : List (K × X)) (p : K × X) : Prop :=
 ON kf vf o mid b left ∧ ∃ (es : Array MapEntry) (clock : Nat) (seen : Array Nat) (e : MapEntry), o = .map es clock ∧ b = .iter mid clock (seen.push e.born) clock ∧ e ∈ es.toList ∧ AY (kf p.1) = some e.key ∧ Gf (vf p.2) = some e.val
theorem Ll {α : Type} (key : α → Nat) : ∀ {l : List α} {x : α}, (l.map key).Nodup → x ∈ l → l.Perm (x :: l.filter fun y => !(key y == key x))
 | a :: l, x, hn, hx => by
  rw [List.map_cons, List.nodup_cons] at hn
  rcases List.mem_cons.1 hx with rfl | hx
  ·have : l.filter (fun y => !(key y == key x)) = l := List.filter_eq_self.2 fun y hy => by
    have : key y ≠ key x := fun e => hn.1 (List.mem_map.2 ⟨y, hy, e⟩);simp [this]
   rw [List.filter_cons, if_neg (by simp), this]
  have hne : key a ≠ key x := fun e => hn.1 (List.mem_map.2 ⟨x, hx, e.symm⟩);rw [List.filter_cons, if_pos (by simp [hne])];exact ((Ll key hn.2 hx).cons a).trans (List.Perm.swap _ _ _)
theorem RR (es : Array MapEntry) (seen : Array Nat) (b : Nat) : (leftOf es (seen.push b)).toList = (leftOf es seen).toList.filter fun y => !(y.born == b) := by
 unfold leftOf;rw [Array.toList_filter, Array.toList_filter, List.filter_filter]
 congr 1
 funext y
 rw [contains_push];cases seen.contains y.born <;> cases y.born == b <;> rfl
theorem PI {d : TypeDesc} {kf : K → V} {vf : X → V} {es : Array MapEntry} {clock : Nat} {m : List (K × X)} (h : DX d kf vf (.map es clock) m) (mid : Nat) : ON kf vf (.map es clock) mid (.iter mid clock #[] clock) m := by
 obtain ⟨m', ⟨⟨es', c', e1, e2⟩, hk, hn, hst⟩, hp⟩ := h;cases e1
 have hlen : es.toList.length = m'.length := by have := congrArg List.length e2; simpa using this
 refine ⟨es, clock, #[], es.toList.zip m', rfl, rfl, hst _ _ rfl, ?_, fun z hz => ?_, ?_⟩
 ·have : (leftOf es #[]).toList = es.toList := by
   unfold leftOf;rw [Array.toList_filter]
   exact List.filter_eq_self.2 fun y _ => by simp
  rw [this, List.map_fst_zip (by omega)]
 ·obtain ⟨i, hi, e⟩ := List.getElem_of_mem hz
  have hi' : i < min es.toList.length m'.length := by simpa [List.length_zip] using hi
  have h1 : i < es.toList.length := by omega
  have h2 : i < m'.length := by omega
  have := congrArg (fun l => l[i]?) e2
  simp only [List.getElem?_map, List.getElem?_eq_getElem h1, List.getElem?_eq_getElem h2, Option.map_some, Option.some.injEq, Prod.mk.injEq] at this
  rw [← e, List.getElem_zip];exact ⟨this.1.symm, this.2.symm⟩
 rw [List.map_snd_zip (by omega)]; exact hp
end
section
variable {P : Program} {nt : Nat} {rd : Option Nat} {T : Dm} {E : CM}
variable (hE : E = E6 P nt rd)
include hE
variable {K X : Type} {kf : K → V} {vf : X → V} {d : TypeDesc} {Φ : A0 → A0 → Prop} {H0 H : A0} {L : List En} {k : V → A0 → Prop} {m left : List (K × X)} {o : Obj} {mid it : Nat} {b : Au} {p : K × X}
theorem Qz {t kt et : Nat} (hm : P.underlying t = some (.map kt et)) (hO : B4 Φ H0 L H) (h1 : H mid = some (.obj o)) (hq : DX d kf vf o m)
 (hk : ∀ it b H', ON kf vf o mid b m → B4 Φ H0 (.blk it b :: L) H' → k (.ref it 0) H') : E.mrg t H (.map mid) k := by
 subst hE
 obtain ⟨es, clock, e⟩ : ∃ es clock, o = .map es clock := by obtain ⟨_, ⟨⟨es, c, e, _⟩, _⟩, _⟩ := hq; exact ⟨es, c, e⟩
 subst e;exact ⟨kt, et, mid, es, clock, hm, rfl, h1, fun id hid => hk id _ _ (PI hq mid) (hO.push hid rfl)⟩
theorem QA (hO : B4 Φ H0 L H) (hI : ON kf vf o mid b left) (i : Nat) (hi : L[i]? = some (.blk it b)) (h1 : H mid = some (.obj o)) (h0 : left = [] → k (.tup [.bool false]) H)
 (hk : ∀ p left' b' H', left.Perm (p :: left') → XF kf vf o mid b' left' p → B4 Φ H0 (L.set i (.blk it b')) H' → k (.tup [.bool true, .bad, .bad]) H') : E.mnx H (.ref it 0) k := by
 subst hE;obtain ⟨es, clock, seen, zs, rfl, rfl, hst, z1, z2, z3⟩ := hI
 have hlen : zs.length = (leftOf es seen).size := by have := congrArg List.length z1; simpa using this
 refine ⟨it, mid, clock, seen, clock, es, clock, rfl, hO.get i hi, h1, hst.1, Nat.le_refl _, fun hs => h0 ?_, fun e he => ?_⟩
 ·have : zs = [] := List.eq_nil_of_length_eq_zero (by omega);subst this;exact List.Perm.eq_nil z3.symm
 have he' : e ∈ zs.map (·.1) := by rw [z1]; exact he
 obtain ⟨z, hz, rfl⟩ := List.mem_map.1 he'
 have hnd : (zs.map fun z => z.1.born).Nodup := by
  have e0 : (zs.map fun z => z.1.born) = (leftOf es seen).toList.map (·.born) := by rw [← z1, List.map_map]; rfl
  rw [e0]
  have hs : (leftOf es seen).toList.Sublist es.toList := by unfold leftOf; rw [Array.toList_filter]; exact List.filter_sublist
  exact (hs.map _).nodup hst.2
 have hp := Ll (fun z : MapEntry × (K × X) => z.1.born) hnd hz;refine hk z.2 ((zs.filter fun y => !(y.1.born == z.1.born)).map (·.2)) _ _ (z3.symm.trans (hp.map (·.2))) ⟨⟨es, clock, _, zs.filter fun y => !(y.1.born == z.1.born), rfl, rfl, hst, ?_, fun y hy => z2 y (List.mem_filter.1 hy).1, .refl _⟩, es, clock, seen, z.1, rfl, rfl, ?_, (z2 z hz).1, (z2 z hz).2⟩ (hO.set i hi)
 ·rw [RR, ← z1, List.filter_map]; rfl
 exact (mem_left he).1
theorem QB (hO : B4 Φ H0 L H) (hI : XF kf vf o mid b left p) (i : Nat) (hi : L[i]? = some (.blk it b)) (h1 : H mid = some (.obj o)) (hk : k (.tup [kf p.1, vf p.2]) H) : E.men H (.ref it 0) k := by
 subst hE;obtain ⟨⟨es0, c0, _, _, e0, _, hst, _⟩, es, clock, seen, e, rfl, rfl, he, h3, h4⟩ := hI;cases e0;exact ⟨it, mid, c0, seen, c0, es0, c0, e, _, _, rfl, hO.get i hi, rfl, h1, he, hst.2, h3, h4, hk⟩
omit hE in
theorem MO [DecidableEq K] : ∀ {m : List (K × X)} {j : Nat} {p : K × X}, (m.map (·.1)).Nodup → m[j]? = some p → m.eraseIdx j = m.filter fun q => !decide (q.1 = p.1)
 | a :: m, 0, p, hn, h => by
  simp only [List.getElem?_cons_zero, Option.some.injEq] at h
  subst h
  rw [List.map_cons, List.nodup_cons] at hn
  rw [List.filter_cons, if_neg (by simp), List.eraseIdx_cons_zero]
  exact (List.filter_eq_self.2 fun q hq => by
   have : q.1 ≠ a.1 := fun e => hn.1 (List.mem_map.2 ⟨q, hq, e⟩)
   simp [this]).symm
 | a :: m, j + 1, p, hn, h => by
  simp only [List.getElem?_cons_succ] at h
  rw [List.map_cons, List.nodup_cons] at hn
  have : a.1 ≠ p.1 := fun e => hn.1 (List.mem_map.2 ⟨p, List.mem_of_getElem? h, e.symm⟩);rw [List.filter_cons, if_pos (by simp [this]), List.eraseIdx_cons_succ, MO hn.2 h]
end
end Go.Ab
namespace Go.Ab
open Go.RowKit
variable [G5] [Ar]
theorem DX.srt {X : Type} {d : TypeDesc} {kf : Int → V} {vf : X → V} {o : Obj} {m : List (Int × X)} (h : DX d kf vf o m) : DX d kf vf o (CP m) := h.perm (CO m).symm
section
variable {P : Program} {nt : Nat} {rd : Option Nat} {T : Dm} {E : CM}
theorem IZ (cf : Cf) (hE : E = E6 P nt rd) (hP : KE P T) {K X σ γ R ρ : Type} [DecidableEq ρ] {kf : K → V} {vf : X → V} {o : Obj} {mid : Nat} {step : σ → K × X → Option (σ ⊕ R)} {fin : σ → R} {nrm : R → ρ} {c : Code} {st : St} {H : A0} {Kc : Exit → St → A0 → Prop}
 (fm : σ → γ → Fl) (Inv : σ → γ → List Nat → Au → A0 → Prop) (Xr : ρ → Exit → Fl → List Nat → A0 → Prop) (hd : E9 cf c = true)
 (round : ∀ s g ds left b H, ON kf vf o mid b left → Inv s g ds b H → (∀ p left', left.Perm (p :: left') → ∃ o, step s p = some o) → run E T nt cf c ⟨fm s g, ds⟩ H fun e st' H' => match e with
  | .normal => ∃ p left' s' g' b' ds', left.Perm (p :: left') ∧ step s p = some (.inl s') ∧ Cx st'.l (fm s' g') ∧ st'.df = ds' ∧ ON kf vf o mid b' left' ∧ Inv s' g' ds' b' H'
  | e => ∃ x l ds', (left = [] ∧ x = fin s ∨ ∃ p left', left.Perm (p :: left') ∧ step s p = some (.inr x)) ∧ Xr (nrm x) e l ds' H' ∧ Cx st'.l l ∧ st'.df = ds')
 {m : List (K × X)} {s0 : σ} (g0 : γ) {b0 : Au} {r : ρ} (h : BI step fin nrm m s0 = some r) (hf : Cx st.l (fm s0 g0)) (hb : ON kf vf o mid b0 m) (hI : Inv s0 g0 st.df b0 H) (after : ∀ e l ds H', Xr r e l ds H' → Kc e ⟨l, ds⟩ H') : E.sim (.loop c) st H Kc := by
 subst hE
 refine N9.loopN (fun n fr' H' => ∃ s g left b ds, left.length = n ∧ (∀ m', m'.Perm left → ∃ q, F2 step m' s = some q ∧ nrm (Sa fin q) = r) ∧ Bv fr' ⟨fm s g, ds⟩ ∧ ON kf vf o mid b left ∧ Inv s g ds b H') m.length
  ⟨s0, g0, m, b0, st.df, rfl, fun m' hm => NG h hm, ⟨fun t => hf.wk t, rfl⟩, hb, hI⟩ fun n fr' H' ⟨s, g, left, b, ds, hn, hr, hle, hit, hi⟩ => ?_
 have stp : ∀ p left', left.Perm (p :: left') → ∃ o, step s p = some o := fun p left' hp => by
  obtain ⟨q, h1, _⟩ := hr _ hp.symm
  simp only [F2] at h1
  cases ho : step s p with
  | none => rw [ho] at h1; cases h1
  | some o => exact ⟨o, rfl⟩
 refine N9.frLe hle ((G1 hP.1 hP.2 c _ _ _ hd (round s g ds left b H' hit hi stp)).mono fun e fr2 H2 ⟨st', hle', hq⟩ => ?_)
 cases e with
 | normal =>
  obtain ⟨p, left', s', g', b', ds', h0, h1, h2, h3, h4, h5⟩ := hq;refine ⟨left'.length, ?_, s', g', left', b', ds', rfl, fun m' hm => ?_, ⟨fun t => (hle'.s t).trans (h2.wk t), hle'.df.trans h3⟩, h4, h5⟩
  ·have := h0.length_eq
   simp only [List.length_cons] at this
   omega
  obtain ⟨q, q1, q2⟩ := hr (p :: m') ((hm.cons p).trans h0.symm)
  simp only [F2, h1] at q1
  exact ⟨q, q1, q2⟩
 | _ =>
  obtain ⟨x, l, ds', h1, h4, h2, h3⟩ := hq;refine ⟨⟨l, ds'⟩, ⟨fun t => (hle'.s t).trans (h2.wk t), hle'.df.trans h3⟩, after _ _ _ _ ?_⟩
  have : nrm x = r := by
   rcases h1 with ⟨e1, e2⟩ | ⟨p, left', hp, e2⟩
   ·subst e1; subst e2;obtain ⟨q, q1, q2⟩ := hr [] (.refl _)
    simp only [F2, Option.some.injEq] at q1
    subst q1; exact q2
   obtain ⟨q, q1, q2⟩ := hr _ hp.symm
   simp only [F2, e2, Option.some.injEq] at q1
   subst q1; exact q2
  rw [← this]; exact h4
theorem NV (cf : Cf) (hE : E = E6 P nt rd) (hP : KE P T) {σ γ R : Type} {step : σ → Option (σ ⊕ R)} {c : Code} {st : St} {H : A0} {K : Exit → St → A0 → Prop} (fm : σ → γ → Fl) (Inv : σ → γ → List Nat → A0 → Prop) (X : R → Exit → Fl → List Nat → A0 → Prop) (hd : E9 cf c = true)
 (round : ∀ s g ds H o, Inv s g ds H → step s = some o → run E T nt cf c ⟨fm s g, ds⟩ H fun e st' H' => match e with
  | .normal => ∃ s' g' ds', o = .inl s' ∧ Cx st'.l (fm s' g') ∧ st'.df = ds' ∧ Inv s' g' ds' H'
  | e => ∃ x l ds', o = .inr x ∧ X x e l ds' H' ∧ Cx st'.l l ∧ st'.df = ds')
 {N : Nat} {s0 : σ} (g0 : γ) {r : R} (h : loopN step N s0 = some r) (hf : Cx st.l (fm s0 g0)) (hI : Inv s0 g0 st.df H) (after : ∀ e l ds H', X r e l ds H' → K e ⟨l, ds⟩ H') : E.sim (.loop c) st H K := by
 subst hE;refine N9.loopN (fun n fr' H' => ∃ s g ds, loopN step n s = some r ∧ Bv fr' ⟨fm s g, ds⟩ ∧ Inv s g ds H') N ⟨s0, g0, st.df, h, ⟨fun t => hf.wk t, rfl⟩, hI⟩ fun n fr' H' ⟨s, g, ds, hs, hle, hi⟩ => ?_
 cases n with
 | zero => cases hs
 | succ n =>
  simp only [loopN] at hs
  cases ho : step s with
  | none => rw [ho] at hs; cases hs
  | some o =>
   rw [ho] at hs
   refine N9.frLe hle ((G1 hP.1 hP.2 c _ _ _ hd (round s g ds H' o hi ho)).mono fun e fr2 H2 ⟨st', hle', hq⟩ => ?_)
   cases e with
   | normal =>
    obtain ⟨s', g', ds', h1, h2, h3, h4⟩ := hq;subst h1;exact ⟨n, Nat.lt_succ_self n, s', g', ds', hs, ⟨fun t => (hle'.s t).trans (h2.wk t), hle'.df.trans h3⟩, h4⟩
   | _ =>
    obtain ⟨x, l, ds', h1, h4, h2, h3⟩ := hq;subst h1;cases hs;exact ⟨⟨l, ds'⟩, ⟨fun t => (hle'.s t).trans (h2.wk t), hle'.df.trans h3⟩, after _ _ _ _ h4⟩
end
end Go.Ab
namespace Go.Ab
open Go.RowKit
variable [G5] [Ar]
def DT (H : A0) : List (Nat × Au) → A0
 | [] => H
 | p :: r => upd (DT H r) p.1 none
def GN : List (Nat × Au) → List En
 | [] => []
 | p :: r => .blk p.1 p.2 :: GN r
def apart : List Nat → Prop
 | [] => True
 | a :: l => (∀ b ∈ l, a ≠ b) ∧ apart l
theorem Uh (a : Nat) : apart [a] := ⟨fun _ h => (nomatch h), trivial⟩
theorem Ug {a : Nat} {l : List Nat} (h : ∀ b ∈ l, a ≠ b) (k : apart l) : apart (a :: l) := ⟨h, k⟩
theorem ne0 {a : Nat} : ∀ b ∈ ([] : List Nat), a ≠ b := fun _ h => (nomatch h)
theorem neC {a b : Nat} {l : List Nat} (h : a ≠ b) (k : ∀ c ∈ l, a ≠ c) : ∀ c ∈ b :: l, a ≠ c := fun c hc => by
 rcases List.mem_cons.1 hc with rfl | hc
 ·exact h
 exact k c hc
theorem at0 {H : A0} : ∀ p ∈ ([] : List (Nat × Au)), H p.1 = some p.2 := fun _ h => (nomatch h)
theorem atC {H : A0} {a : Nat} {b : Au} {l : List (Nat × Au)} (h : H a = some b) (k : ∀ p ∈ l, H p.1 = some p.2) : ∀ p ∈ (a, b) :: l, H p.1 = some p.2 := fun p hp => by
 rcases List.mem_cons.1 hp with rfl | hp
 ·exact h
 exact k p hp
def Qi (P : Program) (f : FuncId) (args : List V) (bs : List (Nat × Au)) (x : V) : Prop :=
 ∀ H, apart (bs.map (·.1)) → (∀ p ∈ bs, H p.1 = some p.2) → E7 P f args H fun v H' => v = x ∧ H' = H
theorem IJ {H : A0} : ∀ {bs : List (Nat × Au)} {p : Nat × Au}, p ∈ bs → DT H bs p.1 = none
 | q :: bs, p, h => by
  unfold DT
  by_cases e : p.1 = q.1
  ·rw [e, A9]
  rw [A3 _ _ e]
  rcases List.mem_cons.1 h with rfl | h
  ·exact absurd rfl e
  exact IJ h
theorem JE {F : A0} : ∀ {bs : List (Nat × Au)}, apart (bs.map (·.1)) → (∀ p ∈ bs, F p.1 = none) → ∃ H, B4 Eq F (GN bs) H ∧ (∀ p ∈ bs, H p.1 = some p.2) ∧ ∀ x, (∀ p ∈ bs, p.1 ≠ x) → H x = F x
 | [], _, _ => ⟨F, B4.start B7 rfl, fun _ h => (nomatch h), fun _ _ => rfl⟩
 | p :: bs, ha, hn => by
  obtain ⟨H, h1, h2, h3⟩ := JE (F := F) (bs := bs) ha.2 fun q hq => hn q (List.mem_cons_of_mem _ hq)
  have hp : H p.1 = none := by
   rw [h3 p.1 fun q hq e => ha.1 q.1 (List.mem_map.2 ⟨q, hq, rfl⟩) e.symm];exact hn p (by simp)
  refine ⟨upd H p.1 (some p.2), h1.push hp rfl, fun q hq => ?_, fun x hx => ?_⟩
  ·rcases List.mem_cons.1 hq with rfl | hq
   ·exact A9 _ _ _
   rw [A3 _ _ fun e => ha.1 q.1 (List.mem_map.2 ⟨q, hq, rfl⟩) e.symm]; exact h2 q hq
  rw [A3 _ _ fun e => hx p (by simp) e.symm];exact h3 x fun q hq => hx q (List.mem_cons_of_mem _ hq)
theorem US {H : A0} {bs : List (Nat × Au)} (ha : apart (bs.map (·.1))) (hH : ∀ p ∈ bs, H p.1 = some p.2) : B4 Eq (DT H bs) (GN bs) H := by
 obtain ⟨H', h1, h2, h3⟩ := JE (F := DT H bs) ha fun p hp => IJ hp
 have : H' = H := by
  funext x
  by_cases hx : ∃ p ∈ bs, p.1 = x
  ·obtain ⟨p, hp, rfl⟩ := hx;rw [h2 p hp, hH p hp]
  have hx' : ∀ p ∈ bs, p.1 ≠ x := fun p hp e => hx ⟨p, hp, e⟩;rw [h3 x hx'];clear h1 h2 h3 ha hH hx
  induction bs with
  | nil => rfl
  | cons q bs ih =>
   unfold DT;rw [A3 _ _ fun e => hx' q (by simp) e.symm];exact ih fun p hp => hx' p (List.mem_cons_of_mem _ hp)
 rwa [this] at h1
theorem LO : ∀ {bs : List (Nat × Au)} {p : Nat × Au}, p ∈ bs → ∃ i : Nat, (GN bs)[i]? = some (En.blk p.1 p.2)
 | q :: bs, p, h => by
  rcases List.mem_cons.1 h with rfl | h
  ·exact ⟨0, rfl⟩
  obtain ⟨i, hi⟩ := LO h;exact ⟨i + 1, by simpa [GN] using hi⟩
section
variable {P : Program} {T : Dm} {f : FuncId} {fn : Func} {c : Code} {n : Nat} {rs : List ResultVar} {args : List V}
theorem Qa {bs : List (Nat × Au)} {x : V} (cf : Cf) (hP : KE P T) (hf : P.funcs[f]? = some fn) (hb : fn.body = some c) (hd : E9 cf c = true)
 (hcall : ∀ vals w, (callFunc f vals).run P w = .ok (.enter f vals) w) (hnt : fn.ntmps = n) (hrs : fn.results.toList = rs) (hn : Nat.ble args.length n = true)
 (h : ∀ (E : CM) (H : A0) (k : V → A0 → Prop), E = E6 P n none → B4 Eq (DT H bs) (GN bs) H → (∀ v H', B4 Eq (DT H bs) (GN bs) H' → Y4 v x → k v H') → run E T n cf c ⟨Z7 args 0, []⟩ H (Ib E T rs k)) : Qi P f args bs x := fun H ha hH => by
 refine E7.le (N8 (K := fun v H' => ∃ y H2, Y4 v y ∧ Dj H2 H' ∧ y = x ∧ H2 = H) cf hP.1 hP.2 hf hb hd hcall hnt hrs hn fun E hE => ?_);refine h E H _ hE (US ha hH) fun v H' hO hv => ⟨_, _, hv, ?_, rfl, rfl⟩;intro y b hy
 by_cases hx : ∃ p ∈ bs, p.1 = y
 ·obtain ⟨p, hp, rfl⟩ := hx;obtain ⟨i, hi⟩ := LO hp
  rw [hH p hp] at hy; cases hy
  exact hO.get i hi
 refine hO.ext _ _ ?_;rw [← hy];have hx' : ∀ p ∈ bs, p.1 ≠ y := fun p hp e => hx ⟨p, hp, e⟩;clear hy hO hH ha hx h
 induction bs with
 | nil => rfl
 | cons q bs ih =>
  unfold DT;rw [A3 _ _ fun e => hx' q (by simp) e.symm];exact ih fun p hp => hx' p (List.mem_cons_of_mem _ hp)
end
section
variable {P : Program} {nt : Nat} {rd : Option Nat} {T : Dm} {E : CM}
theorem NW (hE : E = E6 P nt rd) {R α : Type} {fid : FuncId} {F0 C0 args args' : List V} {bs : List (Nat × Au)} {m : Option α} {g : α → V} {F : α → Option R} {r : R} {H : A0} {k : V → A0 → Prop} (h : m.bind F = some r) (hc : ∀ x, m = some x → Qi P fid (F0 ++ args' ++ C0) bs (g x)) (hl : G4 (F0 ++ args ++ C0) (F0 ++ args' ++ C0))
 (ha : apart (bs.map (·.1))) (hH : ∀ p ∈ bs, H p.1 = some p.2) (hk : ∀ x, F x = some r → k (g x) H) : E.call (.func (.func fid) F0 C0) args H k := by
 subst hE;obtain ⟨x, h2, h3⟩ := bind_some h;refine E7.value (F := F0) (C := C0) ?_
 refine E7.mono (E7.args (hc x h2 H ha hH) hl) fun v H' ⟨e1, e2⟩ => by subst e1; subst e2; exact hk x h3
end
end Go.Ab
namespace Go.Ab
variable [G5] [Ar]
section
variable {P : Program} {nt : Nat} {rd : Option Nat} {E : CM} (hE : E = E6 P nt rd) {Φ : A0 → A0 → Prop} {H0 H : A0} {L : List En}
include hE
theorem n_takeT (hO : B4 Φ H0 L H) (i : Nat) {tl : D6} (hi : L[i]? = some (.tl tl)) (ha : N2 tl) {k : D6 → A0 → Prop}
 (hk : ∀ H', B4 Φ H0 (L.set i (.tl .nil)) H' → k tl H') : E.takeT H k := by
 subst hE;exact ⟨tl, hO.appOk i hi ha, hk _ (hO.untok i hi rfl)⟩
end
end Go.Ab
namespace Go.Ab
open Go.RowKit
variable [G5]
theorem E7.thaw {P : Program} {f : FuncId} {args : List V} {H : A0} {K K' : V → A0 → Prop} (h : E7 P f args H K)
 (hk : ∀ x H', K x H' → K' x H' ∨ ∃ id sz row lo n, x = .own id lo n ∧ H' id = some (.arr sz row) ∧ K' (.sl (G3 row lo n) .ro) (upd H' id none)) : E7 P f args H K' :=
 fun g w vals hR hA => (h g w vals hR hA).mono fun v w' ⟨g', x, H', s, hR', hv, hK⟩ => by
  rcases hk x H' hK with hK | ⟨id, sz, row, lo, n, rfl, h1, h2⟩
  ·exact ⟨g', x, H', s, hR', hv, hK⟩
  obtain ⟨g2, s2, R2, hv2⟩ := hR'.freezeArr h1;exact ⟨g2, _, _, s.trans s2, R2, hv2 _ _ _ (hv.mono s2), h2⟩
section
variable [Ar] {P : Program} {T : Dm}
theorem Q9 {f : FuncId} {fn : Func} {c : Code} {n : Nat} {rs : List ResultVar} {args : List V} {r : V} (cf : Cf) (hP : KE P T) (hf : P.funcs[f]? = some fn) (hb : fn.body = some c) (hd : E9 cf c = true)
 (hcall : ∀ vals w, (callFunc f vals).run P w = .ok (.enter f vals) w) (hnt : fn.ntmps = n) (hrs : fn.results.toList = rs) (hn : Nat.ble args.length n = true)
 (h : ∀ (E : CM) (H : A0) (K : V → A0 → Prop), E = E6 P n none → (∀ x L H', B4 Eq H L H' → Y4 x r → K x H') →
  (∀ (q : OG) (sz : Nat) (xs : List V) (i : Nat) (L : List En) H', B4 Eq H L H' → L[i]? = some (.blk q.id (.arr sz (q.pre ++ xs ++ q.rest))) → T6 q (xs.length : Nat) → Y4 (.sl xs .ro) r → K (.own q.id q.lo q.n) H') → run E T n cf c ⟨Z7 args 0, []⟩ H (Ib E T rs K)) : B6 P f args r := fun H => by
 refine E7.le ?_
 refine (N8 (K := fun x H' => (∃ y H2, Y4 x y ∧ Dj H2 H' ∧ y = r ∧ H2 = H) ∨ ∃ (q : OG) (sz : Nat) (xs : List V) (i : Nat) (L : List En), x = .own q.id q.lo q.n ∧ B4 Eq H L H' ∧ L[i]? = some (.blk q.id (.arr sz (q.pre ++ xs ++ q.rest))) ∧ T6 q (xs.length : Nat) ∧ Y4 (.sl xs .ro) r)
  cf hP.1 hP.2 hf hb hd hcall hnt hrs hn fun E hE => ?_).thaw ?_
 ·exact h E H _ hE (fun x L H' hO hx => .inl ⟨r, H, hx, hO.ext, rfl, rfl⟩) fun q sz xs i L H' hO hi hq hr => .inr ⟨q, sz, xs, i, L, rfl, hO, hi, hq, hr⟩
 rintro x H' (h | ⟨q, sz, xs, i, L, rfl, hO, hi, hq, hr⟩)
 ·exact .inl h
 refine .inr ⟨q.id, sz, _, q.lo, q.n, rfl, hO.get i hi, r, H, ?_, (hO.del i hi).ext, rfl, rfl⟩;rw [HI rfl hq.1 hq.2]; exact hr
end
end Go.Ab
