/- AbB4 AbS2 AbB5 -/
import Derived.Test.YtodfgmbacmnalaaGreatT23
set_option linter.all false

namespace Go.Ab
open Go.RowKit
variable [Glob] [Ar]
def YieldOk (P : Program) (yv : V) (I : List (List V) → Heap → Heap → Prop) (D : Heap → Heap → Prop) : Prop :=
 (yv.one = true ∧ yv.cells = [yv]) ∧ ∀ x l F H, I (x :: l) F H → CallV P yv x H fun r H' => (r = .bool true ∧ I l F H') ∨ (r = .bool false ∧ D F H')
def EmitP (P : Program) (f : FuncId) (args : V → List V) (xs : List (List V)) (rb : V → Bool → Prop) : Prop :=
 ∀ yv I D, (∀ l, Stable (I l)) → Stable D → YieldOk P yv I D → ∀ tl F H, I (xs ++ tl) F H → CallA P f (args yv) H fun v H' => (rb v true ∧ I tl F H') ∨ (rb v false ∧ D F H')
def rbN (_ : V) (_ : Bool) : Prop := True
section
variable {P : Program} {nt : Nat} {rd : Option Nat} {T : Tbl} {E : Env} {I : List (List V) → Heap → Heap → Prop} {D : Heap → Heap → Prop}
theorem CallV.heap {fv : V} {args : List V} {H H1 : Heap} {K : V → Heap → Prop} (h : CallV P fv args H1 K) (hl : HLe H1 H) : CallV P fv args H K :=
 fun g w v vals hR hv hA => h g w v vals (hR.less hl) hv hA
theorem CallA.heap {f : FuncId} {args : List V} {H H1 : Heap} {K : V → Heap → Prop} (h : CallA P f args H1 K) (hl : HLe H1 H) : CallA P f args H K :=
 fun g w vals hR hA => h g w vals (hR.less hl) hA
theorem n_yield (hE : E = real P nt rd) (hI : ∀ l, Stable (I l)) (hD : Stable D) {yv : V} (hy : YieldOk P yv I D) {F H : Heap} {L : List En} {args x : List V} {l : List (List V)} {k : V → Heap → Prop} (hO : Own (I (x :: l)) F L H) (hl : LeVs args x)
 (h1 : ∀ H', Own (I l) F L H' → k (.bool true) H') (h2 : ∀ H', Own D F L H' → k (.bool false) H') : E.call yv args H k := by
 subst hE
 obtain ⟨hs, F', H1, h0, hi, hle⟩ := hO
 refine (CallV.mono (((hy.2 x l F' H1 hi).heap hle).args hl) fun r H' hr => ?_)
 rcases hr with ⟨rfl, hr⟩ | ⟨rfl, hr⟩
 ·exact h1 H' ⟨hI l, F', H', h0, hr, HLe.refl _⟩
 ·exact h2 H' ⟨hD, F', H', h0, hr, HLe.refl _⟩
theorem n_brT (hE : E = real P nt rd) {c : Bool} {x y : Unit → Prop} (hc : c = true) (h : x ()) : E.br c x y := by subst hE; exact ⟨fun _ => h, fun e => by rw [hc] at e; cases e⟩
theorem n_brF (hE : E = real P nt rd) {c : Bool} {x y : Unit → Prop} (hc : c = false) (h : y ()) : E.br c x y := by subst hE; exact ⟨fun e => (by rw [hc] at e; cases e), fun _ => h⟩
theorem emitP_of_spec {f : FuncId} {fn : Func} {c : Code} {n : Nat} {rs : List ResultVar} {args : V → List V} {xs : List (List V)} {rb : V → Bool → Prop} (cf : Cf) (hP : POk P T) (hf : P.funcs[f]? = some fn) (hb : fn.body = some c) (hd : drawsOk cf c = true)
 (hcall : ∀ vals w, (callFunc f vals).run P w = .ok (.enter f vals) w) (hnt : fn.ntmps = n) (hrs : fn.results.toList = rs) (hn : ∀ yv, Nat.ble (args yv).length n = true)
 (h : ∀ (yv : V) (I : List (List V) → Heap → Heap → Prop) (D : Heap → Heap → Prop), (∀ l, Stable (I l)) → Stable D → YieldOk P yv I D → ∀ (tl : List (List V)) (F : Heap) (E : Env) (H : Heap) (K : V → Heap → Prop), E = real P n none → Own (I (xs ++ tl)) F [] H →
  (∀ x L H', Own (I tl) F L H' → rb x true → K x H') → (∀ x L H', Own D F L H' → rb x false → K x H') → run E T n cf c ⟨entryL (args yv) 0, []⟩ H (finX E T rs K)) : EmitP P f args xs rb := by
 intro yv I D hI hD hy tl F H hi
 refine (callA_of_run (K := fun x H' => ∃ y H2, LeV x y ∧ HLe H2 H' ∧ ((rb y true ∧ I tl F H2) ∨ (rb y false ∧ D F H2))) cf hP.1 hP.2 hf hb hd hcall hnt hrs (hn yv) fun E hE => ?_).le
 refine h yv I D hI hD hy tl F E H _ hE (Own.start (hI _) hi) (fun x L H' hO hx => ?_) fun x L H' hO hx => ?_
 ·obtain ⟨H2, h1, h2⟩ := hO.out
  exact ⟨x, H2, .refl _, h2, .inl ⟨hx, h1⟩⟩
 ·obtain ⟨H2, h1, h2⟩ := hO.out
  exact ⟨x, H2, .refl _, h2, .inr ⟨hx, h1⟩⟩
theorem iterV_of_emit {f : FuncId} {C : List V} {xs : List (List V)} {rb : V → Bool → Prop} (hcall : ∀ vals w, (callFunc f vals).run P w = .ok (.enter f vals) w) (h : EmitP P f (fun yv => yv :: C) xs rb) : IterV P (.func (.func f) [] C) xs :=
 ⟨f, C, rfl, hcall, fun yv I D hI hD hy F H hi => (h yv I D hI hD hy [] F H (by rwa [List.append_nil])).mono fun v H' hr => hr.imp (fun h => h.2) fun h => h.2⟩
theorem Own.cast {Φ : Heap → Heap → Prop} {H0 H : Heap} {L L' : List En} (h : Own Φ H0 L H) (e : L = L') : Own Φ H0 L' H := e ▸ h
theorem n_loopE (cf : Cf) (hE : E = real P nt rd) (hP : POk P T) {β σ γ R : Type} {step : σ → Option (List β × (σ ⊕ R))} {c : Code} {st : St} {H : Heap} {K : Exit → St → Heap → Prop} (fm : σ → γ → Fl) (Inv : σ → γ → List β → Heap → Prop) (X : R → Exit → Fl → List β → Heap → Prop) (Xa : Exit → Fl → Heap → Prop) (hd : drawsOk cf c = true)
 (round : ∀ s g w1 w2 H o, Inv s g (w1 ++ w2) H → step s = some (w1, o) → run E T nt cf c ⟨fm s g, st.df⟩ H fun e st' H' => match e with
  | .normal => ∃ s' g', o = .inl s' ∧ LeL st'.l (fm s' g') ∧ st'.df = st.df ∧ Inv s' g' w2 H'
  | e => (∃ x l, o = .inr x ∧ X x e l w2 H' ∧ LeL st'.l l ∧ st'.df = st.df) ∨ ∃ l, Xa e l H' ∧ LeL st'.l l ∧ st'.df = st.df)
 {N : Nat} {s0 : σ} (g0 : γ) {w w' : List β} {r : R} (h : loopE step N s0 = some (w, r)) (hf : LeL st.l (fm s0 g0)) (hI : Inv s0 g0 (w ++ w') H) (after : ∀ e l H', X r e l w' H' → K e ⟨l, st.df⟩ H') (afterA : ∀ e l H', Xa e l H' → K e ⟨l, st.df⟩ H') : E.sim (.loop c) st H K := by
 subst hE
 refine Sim.loopN (fun n fr' H' => ∃ s g w, loopE step n s = some (w, r) ∧ FrLe fr' ⟨fm s g, st.df⟩ ∧ Inv s g (w ++ w') H') N ⟨s0, g0, w, h, ⟨fun t => hf.wk t, rfl⟩, hI⟩ fun n fr' H' ⟨s, g, w, hs, hle, hi⟩ => ?_
 cases n with
 | zero => cases hs
 | succ n =>
  simp only [loopE] at hs
  cases ho : step s with
  | none => rw [ho] at hs; cases hs
  | some p =>
   obtain ⟨w1, o⟩ := p
   rw [ho] at hs
   obtain ⟨w2, hw, hrest⟩ : ∃ w2, w = w1 ++ w2 ∧ match o with | .inl s' => loopE step n s' = some (w2, r) | .inr x => x = r ∧ w2 = [] := by
    cases o with
    | inl s' =>
     simp only at hs
     split at hs
     ·cases hs
     ·rename_i w2 x hx
      cases hs
      exact ⟨w2, rfl, hx⟩
    | inr x => cases hs; exact ⟨[], by simp, rfl, rfl⟩
   subst hw
   rw [List.append_assoc] at hi
   refine Sim.frLe hle ((run_sound hP.1 hP.2 c _ _ _ hd (round s g w1 (w2 ++ w') H' o hi ho)).mono fun e fr2 H2 ⟨st', hle', hq⟩ => ?_)
   have exits : ∀ e, ((∃ x l, o = .inr x ∧ X x e l (w2 ++ w') H2 ∧ LeL st'.l l ∧ st'.df = st.df) ∨ ∃ l, Xa e l H2 ∧ LeL st'.l l ∧ st'.df = st.df) → ∃ st'', FrLe fr2 st'' ∧ K e st'' H2 := by
    intro e hq
    rcases hq with ⟨x, l, h1, h4, h2, h3⟩ | ⟨l, h4, h2, h3⟩
    ·subst h1
     obtain ⟨rfl, rfl⟩ := hrest
     exact ⟨⟨l, st.df⟩, ⟨fun t => (hle'.s t).trans (h2.wk t), hle'.df.trans h3⟩, after _ _ _ h4⟩
    ·exact ⟨⟨l, st.df⟩, ⟨fun t => (hle'.s t).trans (h2.wk t), hle'.df.trans h3⟩, afterA _ _ _ h4⟩
   cases e with
   | normal =>
    obtain ⟨s', g', h1, h2, h3, h4⟩ := hq
    subst h1
    exact ⟨n, Nat.lt_succ_self n, s', g', w2, hrest, ⟨fun t => (hle'.s t).trans (h2.wk t), hle'.df.trans h3⟩, h4⟩
   | _ => exact exits _ hq
end
section
variable {P : Program} {nt : Nat} {T : Tbl} {E : Env} {α β σ R ι : Type}
theorem Stable.or {I J : Heap → Heap → Prop} (h : Stable I) (k : Stable J) : Stable fun F H => I F H ∨ J F H :=
 ⟨fun hh => hh.elim (fun x => h.le x) fun x => k.le x, fun id b hh e => hh.imp (fun x => h.chg id b x e) fun x => k.chg id b x e⟩
variable {enc : α → List V} {step : σ → α → Option (List β × (σ ⊕ R))} {g : Operand} {ps : Array Tmp} {asg body : Code} {st : St} {H : Heap} {K : Exit → St → Heap → Prop}
 {xs : List α} {s0 : σ} {o : σ ⊕ R} {w w' : List β}
end
end Go.Ab

namespace Go.Ab
def inR {α : Type} (l : List α) (i : Int) : Bool := decide (0 ≤ i ∧ i < (l.length : Nat))
def updL {α : Type} (l : List α) (i : Int) (u : α → α) : Option (List α) := (idxL l i).map fun x => l.set i.toNat (u x)
def mkL {α : Type} (n m : Int) (z : α) : Option (List α) := if 0 ≤ n ∧ n ≤ m ∧ m ≤ 1073741824 then some (List.replicate n.toNat z) else none
def growL {α : Type} (_ : List α) (n : Int) : Option (List α) := if 0 ≤ n ∧ n ≤ 1073741824 then some [] else none
end Go.Ab

namespace Go.Ab
open Go.RowKit
variable [Glob] [Ar]
theorem Own0.swap {H0 H : Heap} {L : List En} (h : Own0 H0 L H) (i : Nat) {en en' : En} {id t : Nat} {b b' : Blk} (hi : L[i]? = some en) (he : en.id = some (id, b)) (he' : en'.id = some (t, b')) (ht : upd H id none t = none) :
 Own0 H0 (L.set i en') (upd (upd H id none) t (some b')) := by
 have hlt : i < L.length := by
  rcases Nat.lt_or_ge i L.length with h' | h'
  ·exact h'
  ·rw [List.getElem?_eq_none h'] at hi; cases hi
 have look : ∀ (j : Nat) e, (L.set i en')[j]? = some e → (j = i ∧ e = en') ∨ (j ≠ i ∧ L[j]? = some e) := fun j e hj => by
  rw [List.getElem?_set] at hj
  split at hj
  ·rename_i hij
   subst hij
   try rw [if_pos hlt] at hj
   exact .inl ⟨rfl, (Option.some.inj hj).symm⟩
  ·rename_i hij
   exact .inr ⟨fun e => hij e.symm, hj⟩
 have hid := h.has i _ id b hi he
 have h0 : ∀ x c, H0 x = some c → upd H id none x = some c := fun x c hx => by
  rw [upd_other _ _ (ne_of_none hid.1 hx)]; exact h.ext x c hx
 have hoth : ∀ (j : Nat) e x c, j ≠ i → L[j]? = some e → e.id = some (x, c) → H0 x = none ∧ upd H id none x = some c := fun j e x c hne hj hx => by
  have := h.has j e x c hj hx
  have hxid : x ≠ id := fun eq => by subst eq; exact hne (h.inj j i e _ x c b hj hi hx he)
  exact ⟨this.1, by rw [upd_other _ _ hxid]; exact this.2⟩
 have hid0 : H0 t = none := by
  cases e : H0 t with
  | none => rfl
  | some c => rw [h0 t c e] at ht; cases ht
 refine ⟨fun x bb hx => ?_, fun j e x bb hj hx => ?_, fun j k e e' x bb bb' hj hk hx hx' => ?_, fun x bb hx => ?_⟩
 rotate_right
 ·by_cases hxi : x = t
  ·subst hxi; rw [upd_same] at hx; cases hx
   exact .inr ⟨i, en', by rw [List.getElem?_set, if_pos rfl, if_pos hlt], he'⟩
  ·rw [upd_other _ _ hxi] at hx
   have hxid : x ≠ id := fun eq => by subst eq; rw [upd_same] at hx; cases hx
   rw [upd_other _ _ hxid] at hx
   refine (h.only x bb hx).imp (fun h => h) fun ⟨j, e, h1, h2⟩ => ⟨j, e, ?_, h2⟩
   rw [List.getElem?_set]
   split
   ·rename_i hij; subst hij; rw [hi] at h1; cases h1; rw [he] at h2; cases h2; exact absurd rfl hxid
   ·exact h1
 ·rw [upd_other _ _ (ne_of_none hid0 hx)]; exact h0 x bb hx
 ·rcases look j e hj with ⟨_, rfl⟩ | ⟨hne, hj'⟩
  ·rw [he'] at hx; cases hx; exact ⟨hid0, upd_same _ _ _⟩
  ·have := hoth j e x bb hne hj' hx
   exact ⟨this.1, by rw [upd_other _ _ (ne_of_none ht this.2)]; exact this.2⟩
 ·rcases look j e hj with ⟨hji, rfl⟩ | ⟨hne, hj'⟩ <;> rcases look k e' hk with ⟨hki, rfl⟩ | ⟨hne', hk'⟩
  ·rw [hji, hki]
  ·rw [he'] at hx; cases hx; have := (hoth k e' t bb' hne' hk' hx').2; rw [ht] at this; cases this
  ·rw [he'] at hx'; cases hx'; have := (hoth j e t bb hne hj' hx).2; rw [ht] at this; cases this
  ·exact h.inj j k e e' x bb bb' hj' hk' hx hx'
theorem Own.swap {Φ : Heap → Heap → Prop} {F H : Heap} {L : List En} (h : Own Φ F L H) (i : Nat) {id t : Nat} {b b' : Blk} (hi : L[i]? = some (.blk id b)) (ht : upd H id none t = none) : Own Φ F (L.set i (.blk t b')) (upd (upd H id none) t (some b')) := by
 obtain ⟨hs, F', H1, h0, h1, h2⟩ := h
 have e := h0.get i hi
 have e1 := hs.le h1 _ _ e
 have h3 := hs.chg id none h1 (by rw [e, e1])
 have hle : HLe (upd H1 id none) (upd H id none) := h2.upd id none
 have hn1 := hle.none ht
 have hn' := hs.fresh h3 hn1
 exact ⟨hs, _, _, h0.swap i hi rfl rfl hn', hs.chg t (some b') h3 (by rw [hn1, hn']), hle.upd t _⟩
theorem Own.swap' {Φ : Heap → Heap → Prop} {F H : Heap} {L : List En} (h : Own Φ F L H) (i : Nat) {id t : Nat} {b b' : Blk} (hi : L[i]? = some (.blk id b)) (ht : H t = none) : Own Φ F (L.set i (.blk t b')) (upd H t (some b')) := by
 have hid := h.get i hi
 have hne : t ≠ id := fun e => by subst e; rw [ht] at hid; cases hid
 obtain ⟨hs, F', H1, h0, h1, h2⟩ := h.swap (b' := b') i hi (t := t) (by rw [upd_other _ _ hne]; exact ht)
 refine ⟨hs, F', H1, h0, h1, fun x c hx => ?_⟩
 have := h2 x c hx
 by_cases e : x = t
 ·subst e; rw [upd_same] at this ⊢; exact this
 ·rw [upd_other _ _ e] at this ⊢
  by_cases e2 : x = id
  ·subst e2; rw [upd_same] at this; cases this
  ·rwa [upd_other _ _ e2] at this
structure OG where
 id : Nat
 lo : Int
 n : Int
 pre : List V
 rest : List V
def Okn (q : OG) (m : Int) : Prop := q.lo = (q.pre.length : Nat) ∧ q.n = m
theorem sub_mid {pre xs rest : List V} {lo n : Int} (h0 : lo = (pre.length : Nat)) (h1 : n = (xs.length : Nat)) : subL (pre ++ xs ++ rest) lo n = xs := by
 subst h0; subst h1
 simp [subL]
theorem over_mid {pre xs rest ys : List V} {i : Nat} (hi : i = pre.length + xs.length) : over (pre ++ xs ++ rest) i ys = pre ++ (xs ++ ys) ++ rest.drop ys.length := by
 subst hi
 simp only [over, List.append_assoc]
 rw [show pre ++ (xs ++ rest) = (pre ++ xs) ++ rest by simp, ← List.length_append, List.take_left, List.drop_append]
 simp
theorem getD_mid {pre xs rest : List V} {i : Nat} (h : i < xs.length) : (pre ++ xs ++ rest).getD (pre.length + i) .bad = xs.getD i .bad := by
 simp only [List.getD_eq_getElem?_getD, List.append_assoc]
 rw [List.getElem?_append_right (by omega), show pre.length + i - pre.length = i by omega, List.getElem?_append_left h]
theorem set_mid {pre xs rest : List V} {i : Nat} {v : V} (h : i < xs.length) : (pre ++ xs ++ rest).set (pre.length + i) v = pre ++ xs.set i v ++ rest := by
 simp only [List.append_assoc]
 rw [List.set_append_right _ _ (by omega), show pre.length + i - pre.length = i by omega, List.set_append_left _ _ h]
theorem Own.set_self {L : List En} (i : Nat) {e : En} (hi : L[i]? = some e) : L.set i e = L := by
 apply List.ext_getElem?
 intro j
 rw [List.getElem?_set]
 split
 ·rename_i h; subst h
  split
  ·exact hi.symm
  ·rename_i h; rw [List.getElem?_eq_none (by omega)]
 ·rfl
section
variable {P : Program} {nt : Nat} {rd : Option Nat} {T : Tbl} {E : Env}
variable (hE : E = real P nt rd)
include hE
variable {α R : Type} {f : α → V} {Φ : Heap → Heap → Prop} {H0 H : Heap} {L : List En} {sz : Nat} {q : OG} {l : List α} {r : R}
theorem n_olen (hq : Okn q (Ar.len l)) {k : Int → Prop} (h : k (Ar.len l)) : E.olen q.n k := by
 subst hE
 show k q.n
 rw [hq.2]; exact h
theorem n_oidx (hO : Own Φ H0 L H) (hq : Okn q (Ar.len l)) (i : Nat) {j : Int} {k : Int → Prop} {F : Unit → Option R} (hi : L[i]? = some (.blk q.id (.arr sz (q.pre ++ Ar.lst f l ++ q.rest)))) (h : (req (inR l j)).bind F = some r) (hk : F () = some r → k (Ar.ofs q.lo j)) :
 E.oidx H q.id sz q.lo q.n j k := by
 subst hE
 obtain ⟨x, h1, h2⟩ := bind_some h
 unfold req at h1
 split at h1
 ·rename_i hp
  refine ⟨⟨_, hO.get i hi⟩, ?_, hk h2⟩
  rw [hq.2, Ar.len_eq]; exact of_decide_eq_true hp
 ·cases h1
theorem idxL_some {l : List α} {i : Int} {x : α} (h : idxL l i = some x) : (0 ≤ i ∧ i < (l.length : Nat)) ∧ l[i.toNat]? = some x := by
 unfold idxL at h
 split at h
 ·rename_i h0
  refine ⟨⟨h0, ?_⟩, h⟩
  rcases Nat.lt_or_ge i.toNat l.length with h' | h'
  ·omega
  ·rw [List.getElem?_eq_none h'] at h; cases h
 ·cases h
theorem lst_getD {l : List α} {i : Nat} {x : α} (h : l[i]? = some x) : (Ar.lst f l).getD i .bad = f x := by
 rw [Ar.lst_eq]; simp [List.getD, h]
theorem n_oload {g : α → V} (hf : ∀ x, f x = g x) (hO : Own Φ H0 L H) (hq : Okn q (Ar.len l)) (i : Nat) {j : Int} {k : V → Prop} {F : α → Option R} (hi : L[i]? = some (.blk q.id (.arr sz (q.pre ++ Ar.lst f l ++ q.rest)))) (h : (idxL l j).bind F = some r) (hk : ∀ x, F x = some r → k (g x)) :
 E.oload H q.id (Ar.ofs q.lo j) k := by
 obtain ⟨x, h1, h2⟩ := bind_some h
 obtain ⟨hb, h3⟩ := idxL_some hE h1
 have h4 := lst_getD hE (f := f) h3
 subst hE
 have e1 := lst_len (f := f) l
 refine ⟨_, _, hO.get i hi, ?_, ?_⟩
 ·rw [Ar.ofs_eq, hq.1]; simp only [List.length_append, e1]; omega
 ·rw [Ar.ofs_eq, hq.1, show ((q.pre.length : Nat) + j : Int).toNat = q.pre.length + j.toNat by omega, getD_mid (by rw [e1]; omega), h4, hf]
  exact hk x h2
theorem n_ostore {u : α → α} {esz tz off : Nat} {y : V} (hu : ∀ x, ∃ y', LeV y y' ∧ y'.one = true ∧ y'.cells.length = tz ∧ putV (f x) esz tz off y' = f (u x)) (hle : off + tz ≤ esz) (hO : Own Φ H0 L H) (hq : Okn q (Ar.len l)) (i : Nat) {j : Int} {k : Heap → Prop} {F : List α → Option R}
 (hi : L[i]? = some (.blk q.id (.arr esz (q.pre ++ Ar.lst f l ++ q.rest)))) (h : (updL l j u).bind F = some r)
 (hk : ∀ l' H', Okn q (Ar.len l') → F l' = some r → Own Φ H0 (L.set i (.blk q.id (.arr esz (q.pre ++ Ar.lst f l' ++ q.rest)))) H' → k H') : E.ostore H q.id (Ar.ofs q.lo j) esz tz off y k := by
 obtain ⟨l', h1, h2⟩ := bind_some h
 unfold updL at h1
 cases hx : idxL l j with
 | none => rw [hx] at h1; cases h1
 | some x =>
  rw [hx] at h1
  simp only [Option.map_some, Option.some.injEq] at h1
  obtain ⟨hb, h3⟩ := idxL_some hE hx
  obtain ⟨y', q1, q2, q3, q4⟩ := hu x
  have e1 := lst_getD hE (f := f) h3
  have e2 : (Ar.lst f l).set j.toNat (f (u x)) = Ar.lst f l' := by
   rw [← h1, Ar.lst_eq, Ar.lst_eq, List.map_set]
  subst hE
  have el := lst_len (f := f) l
  have ej : (Ar.ofs q.lo j).toNat = q.pre.length + j.toNat := by rw [Ar.ofs_eq, hq.1]; omega
  refine ⟨_, y', q1, q2, q3, hle, hO.get i hi, ?_, ?_⟩
  ·rw [Ar.ofs_eq, hq.1]; simp only [List.length_append, el]; omega
  ·rw [ej, getD_mid (by rw [el]; omega), set_mid (by rw [el]; omega), e1, q4, e2]
   refine hk l' _ ⟨hq.1, ?_⟩ h2 (hO.set i hi)
   rw [hq.2, Ar.len_eq, Ar.len_eq, ← h1, List.length_set]
theorem n_omk {by_ : Nat} (hby : by_ ≤ 131072) {z : V} {z0 : α} (hz : LeV z (f z0)) (hO : Own Φ H0 L H) {n m : Int} {k : V → Heap → Prop} {F : List α → Option R} (h : (mkL n m z0).bind F = some r)
 (hk : ∀ l' (q : OG) H', Okn q (Ar.len l') → F l' = some r → Own Φ H0 (.blk q.id (.arr sz (q.pre ++ Ar.lst f l' ++ q.rest)) :: L) H' → k (.own q.id q.lo q.n) H') : E.omk sz by_ z n m H k := by
 subst hE
 obtain ⟨l', h1, h2⟩ := bind_some h
 unfold mkL at h1
 split at h1
 ·rename_i hc
  cases h1
  refine ⟨⟨hc.1, hc.2.1, ?_⟩, List.replicate m.toNat (f z0), ?_, fun id hid => ?_⟩
  ·have : m * (by_ : Nat) ≤ 1073741824 * 131072 := Int.mul_le_mul hc.2.2 (by omega) (by omega) (by omega)
   omega
  ·have : ∀ k : Nat, LeVs (List.replicate k z) (List.replicate k (f z0)) := fun k => by
    induction k with
    | zero => exact .nil
    | succ k ih => rw [List.replicate_succ, List.replicate_succ]; exact .cons hz ih
   exact this _
  ·have e : List.replicate m.toNat (f z0) = [] ++ Ar.lst f (List.replicate n.toNat z0) ++ List.replicate (m.toNat - n.toNat) (f z0) := by
    rw [Ar.lst_eq, List.map_replicate, List.nil_append, List.replicate_append_replicate]; congr 1; omega
   rw [e]
   exact hk _ ⟨id, 0, n, [], List.replicate (m.toNat - n.toNat) (f z0)⟩ _ ⟨rfl, by rw [Ar.len_eq]; simp; omega⟩ h2 (hO.push hid rfl)
 ·cases h1
theorem n_oapp {by_ : Nat} {z : V} (hsz : ∀ x, (f x).cells.length = sz) (hby : by_ ≤ 131072) (hO : Own Φ H0 L H) (hq : Okn q (Ar.len l)) (i : Nat) (hi : L[i]? = some (.blk q.id (.arr sz (q.pre ++ Ar.lst f l ++ q.rest)))) {y : V} {m : List α} {k : V → Heap → Prop} {F : List α → Option R}
 (hs : Src sz H y (Ar.lst f m)) (h : (appL l m).bind F = some r)
 (hk : ∀ x (q : OG) H', Okn q (Ar.len x) → Own Φ H0 (L.set i (.blk q.id (.arr sz (q.pre ++ Ar.lst f x ++ q.rest)))) H' → F x = some r → k (.own q.id q.lo q.n) H') : E.oapp sz by_ z H (.own q.id q.lo q.n) y k := by
 subst hE
 obtain ⟨x, h1, h2⟩ := bind_some h
 have el := lst_len (f := f) l
 have em := lst_len (f := f) m
 have hn : q.n = (l.length : Nat) := by rw [hq.2, Ar.len_eq]
 unfold appL at h1
 split at h1
 ·rename_i hc
  cases h1
  refine ⟨_, hs, _, hO.get i hi, fun hfit => ?_, fun _ => ⟨?_, fun t j ht => ?_⟩⟩
  rotate_left
  ·rw [em, hn, Int.toNat_natCast]
   exact Nat.le_trans (Nat.mul_le_mul hc hby) (by decide)
  rotate_left
  ·have e : over (q.pre ++ Ar.lst f l ++ q.rest) (q.lo + q.n).toNat (Ar.lst f m) = q.pre ++ Ar.lst f (l ++ m) ++ q.rest.drop m.length := by
    rw [over_mid (by rw [hq.1, hn, el]; omega), lst_app, em]
   rw [e]
   refine hk _ ⟨q.id, q.lo, q.n + ((Ar.lst f m).length : Nat), q.pre, q.rest.drop m.length⟩ _ ⟨hq.1, ?_⟩ (hO.set i hi) h2
   rw [Ar.len_eq, hn, em]; simp
  ·have e : subL (q.pre ++ Ar.lst f l ++ q.rest) q.lo q.n ++ Ar.lst f m ++ List.replicate j z = [] ++ Ar.lst f (l ++ m) ++ List.replicate j z := by
    rw [sub_mid hq.1 (by rw [el]; exact hn), lst_app, List.nil_append]
   rw [e]
   refine hk _ ⟨t, 0, q.n + ((Ar.lst f m).length : Nat), [], List.replicate j z⟩ _ ⟨rfl, ?_⟩ (hO.swap' i hi ht) h2
   rw [Ar.len_eq, hn, em]; simp
 ·cases h1
theorem okn_lst (h : Okn q (Ar.len l)) : Okn q ((Ar.lst f l).length : Nat) := ⟨h.1, by rw [h.2, Ar.len_eq, lst_len]⟩
theorem src_own (hO : Own Φ H0 L H) (hq : Okn q (Ar.len l)) (i : Nat) (hi : L[i]? = some (.blk q.id (.arr sz (q.pre ++ Ar.lst f l ++ q.rest)))) : Src sz H (.own q.id q.lo q.n) (Ar.lst f l) := by
 refine ⟨_, hO.get i hi, ?_⟩
 rw [sub_mid hq.1 (by rw [hq.2, Ar.len_eq, lst_len])]
 exact .refl _
theorem src_sl (hsz : ∀ x, (f x).cells.length = sz) {ys : List V} {tl : Tail} (h : LeVs ys (Ar.lst f l)) : Src sz H (.sl ys tl) (Ar.lst f l) := ⟨h, lst_sz hsz l⟩
theorem n_oslice (hO : Own Φ H0 L H) (hq : Okn q (Ar.len l)) (i : Nat) (hi : L[i]? = some (.blk q.id (.arr sz (q.pre ++ Ar.lst f l ++ q.rest)))) {lo hi' : Option Int} {k : V → Prop} {F : List α → Option R}
 (h : (sliceL l lo hi' none).bind F = some r) (hk : ∀ x (q : OG), Okn q (Ar.len x) → Own Φ H0 (L.set i (.blk q.id (.arr sz (q.pre ++ Ar.lst f x ++ q.rest)))) H → F x = some r → k (.own q.id q.lo q.n)) :
 E.oslice sz H q.id q.lo q.n lo hi' none k := by
 subst hE
 obtain ⟨x, h1, h2⟩ := bind_some h
 have el := lst_len (f := f) l
 have hn : q.n = (l.length : Nat) := by rw [hq.2, Ar.len_eq]
 unfold sliceL at h1
 split at h1
 ·rename_i hc
  cases h1
  obtain ⟨c1, c2, c3, c4, c5⟩ := hc
  simp only [Option.getD_none] at c3
  refine ⟨_, hO.get i hi, ?_, ?_⟩
  ·rw [hn, hq.1]
   simp only [List.length_append, el, Option.getD_none]
   refine ⟨c1, c2, by omega, by omega, fun h => by cases h⟩
  ·rw [hn]
   generalize hA : lo.getD 0 = a at *
   generalize hB : hi'.getD (l.length : Nat) = b at *
   have hm : ((l.drop a.toNat).take (b.toNat - a.toNat)).length = b.toNat - a.toNat := by simp; omega
   refine hk _ ⟨q.id, q.lo + a, b - a, q.pre ++ Ar.lst f (l.take a.toNat), Ar.lst f (l.drop b.toNat) ++ q.rest⟩ ⟨?_, ?_⟩ ?_ h2
   ·simp only [List.length_append, lst_len, List.length_take, hq.1]; omega
   ·rw [Ar.len_eq, hm]; simp only; omega
   ·have e : q.pre ++ Ar.lst f (l.take a.toNat) ++ Ar.lst f ((l.drop a.toNat).take (b.toNat - a.toNat)) ++ (Ar.lst f (l.drop b.toNat) ++ q.rest) = q.pre ++ Ar.lst f l ++ q.rest := by
     have e1 : l = l.take a.toNat ++ ((l.drop a.toNat).take (b.toNat - a.toNat) ++ l.drop b.toNat) := by
      have e2 : l.drop b.toNat = (l.drop a.toNat).drop (b.toNat - a.toNat) := by rw [List.drop_drop]; congr 1; omega
      rw [e2, List.take_append_drop, List.take_append_drop]
     have e3 : Ar.lst f l = Ar.lst f (l.take a.toNat) ++ (Ar.lst f ((l.drop a.toNat).take (b.toNat - a.toNat)) ++ Ar.lst f (l.drop b.toNat)) := by
      rw [lst_app, lst_app, ← e1]
     rw [e3]; simp only [List.append_assoc]
    simp only
    rw [e, Own.set_self i hi]
    exact hO
 ·cases h1
theorem n_osliceK (hO : Own Φ H0 L H) (hq : Okn q (Ar.len l)) (i : Nat) (hi : L[i]? = some (.blk q.id (.arr sz (q.pre ++ Ar.lst f l ++ q.rest)))) {lo hi' : Option Int} {k : V → Prop} {F : List α → Option R}
 (h : (sliceL l lo hi' none).bind F = some r) (hk : ∀ x (q' : OG), Src sz H (.own q'.id q'.lo q'.n) (Ar.lst f x) → F x = some r → k (.own q'.id q'.lo q'.n)) :
 E.oslice sz H q.id q.lo q.n lo hi' none k :=
 n_oslice hE hO hq i hi h fun x q' hq' hO' h2 => hk x q' (src_own hE hO' hq' i (by rw [List.getElem?_set]; simp [(List.getElem?_eq_some_iff.1 hi).1])) h2
theorem n_ofrz (hO : Own Φ H0 L H) (hq : Okn q (Ar.len l)) (i : Nat) {k : List V → Heap → Prop} (hi : L[i]? = some (.blk q.id (.arr sz (q.pre ++ Ar.lst f l ++ q.rest)))) (hk : ∀ H', Own Φ H0 (L.eraseIdx i) H' → k (Ar.lst f l) H') : E.ofrz H q.id q.lo q.n k := by
 subst hE
 have := hk _ (hO.del i hi)
 refine ⟨_, _, _, hO.get i hi, .refl _, ?_⟩
 rw [sub_mid hq.1 (by rw [hq.2, Ar.len_eq, lst_len])]
 exact this
end
end Go.Ab

