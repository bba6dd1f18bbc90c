/- AbS1 AbB2 AbB3 -/
import Derived.Test.YtodfgmbacmnalaaGreatT15
import Derived.Test.YtodfgmbacmnalaaGreatT22
set_option linter.all false

namespace Go.Ab
def idxL {α : Type} (l : List α) (i : Int) : Option α := if 0 ≤ i then l[i.toNat]? else none
def sliceL {α : Type} (l : List α) (lo hi mx : Option Int) : Option (List α) :=
 if 0 ≤ lo.getD 0 ∧ lo.getD 0 ≤ hi.getD l.length ∧ hi.getD l.length ≤ mx.getD l.length ∧ mx.getD l.length ≤ l.length ∧ (mx.isSome = true → hi.isSome = true) then
  some ((l.drop (lo.getD 0).toNat).take ((hi.getD l.length).toNat - (lo.getD 0).toNat))
 else none
def appL {α : Type} (l m : List α) : Option (List α) := if l.length + m.length ≤ 1073741824 then some (l ++ m) else none
def req (b : Bool) : Option Unit := if b = true then some () else none
def loopN {σ R : Type} (step : σ → Option (σ ⊕ R)) : Nat → σ → Option R
 | 0, _ => none
 | n + 1, s =>
  match step s with
  | none => none
  | some (.inl s') => loopN step n s'
  | some (.inr r) => some r
def rangeL {α σ R : Type} (step : σ → α → Option (σ ⊕ R)) : List α → σ → Option (σ ⊕ R)
 | [], s => some (.inl s)
 | x :: l, s =>
  match step s x with
  | none => none
  | some (.inl s') => rangeL step l s'
  | some (.inr r) => some (.inr r)
def loopE {β σ R : Type} (step : σ → Option (List β × (σ ⊕ R))) : Nat → σ → Option (List β × R)
 | 0, _ => none
 | n + 1, s =>
  match step s with
  | none => none
  | some (w, .inl s') =>
   (match loopE step n s' with
    | none => none
    | some (w', r) => some (w ++ w', r))
  | some (w, .inr r) => some (w, r)
def thenE {β σ τ : Type} (m : Option (List β × σ)) (f : σ → Option (List β × τ)) : Option (List β × τ) :=
 m.bind fun q => (f q.2).bind fun p => some (q.1 ++ p.1, p.2)
theorem thenE_some {β σ τ : Type} {m : Option (List β × σ)} {f : σ → Option (List β × τ)} {w : List β} {o : τ} (h : thenE m f = some (w, o)) : ∃ w1 w2 x, m = some (w1, x) ∧ f x = some (w2, o) ∧ w = w1 ++ w2 := by
 unfold thenE at h
 cases m with
 | none => cases h
 | some p =>
  simp only [Option.bind_some] at h
  cases hf : f p.2 with
  | none => rw [hf] at h; cases h
  | some t =>
   rw [hf] at h
   simp only [Option.bind_some, Option.some.injEq, Prod.mk.injEq] at h
   obtain ⟨h1, h2⟩ := h
   subst h1; subst h2
   exact ⟨p.1, t.1, p.2, rfl, hf, rfl⟩
theorem thenE_ret {β σ τ : Type} {a : List β} {x : σ} {f : σ → Option (List β × τ)} {w : List β} {o : τ} (h : thenE (some (a, x)) f = some (w, o)) : ∃ w2, f x = some (w2, o) ∧ w = a ++ w2 := by
 obtain ⟨w1, w2, y, h1, h2, h3⟩ := thenE_some h
 cases h1
 exact ⟨w2, h2, h3⟩
theorem pair_some {α β : Type} {a c : α} {b d : β} (h : some (a, b) = some (c, d)) : a = c ∧ b = d := by cases h; exact ⟨rfl, rfl⟩
theorem bind_some {α β : Type} {m : Option α} {F : α → Option β} {r : β} (h : m.bind F = some r) : ∃ x, m = some x ∧ F x = some r := by
 cases m with
 | none => cases h
 | some x => exact ⟨x, rfl, h⟩
theorem ret_some {α : Type} {a b : α} (h : some a = some b) : a = b := Option.some.inj h
end Go.Ab

namespace Go.Ab
open Go.RowKit
variable [Glob] [Ar]
def LeL (l : Fl) : Fl → Prop
 | [] => True
 | (k, s) :: r => LeV (lkV l k) s.V ∧ (∀ j w x, s ≠ .g j w x) ∧ LeL l r
theorem LeL.wk {l : Fl} : ∀ {r : Fl}, LeL l r → ∀ t, Wk (lkV l t) (lkV r t)
 | [], _, t => Wk.bad _
 | (k, s) :: r, h, t => by
  simp only [lkV]
  cases hb : Nat.beq t k with
  | true =>
   have := Nat.eq_of_beq_eq_true hb; subst this
   cases s with
   | v x => exact h.1.wk
   | b c => exact h.1.wk
   | g j w x => exact absurd rfl (h.2.1 j w x)
  | false => exact LeL.wk h.2.2 t
theorem LeL.v {l r : Fl} {k : Nat} {x : V} (h : LeV (lkV l k) x) (hr : LeL l r) : LeL l ((k, .v x) :: r) := ⟨h, fun _ _ _ h => (by cases h), hr⟩
theorem LeL.b {l r : Fl} {k : Nat} {c : Bool} (h : lkV l k = .bool c) (hr : LeL l r) : LeL l ((k, .b c) :: r) := ⟨h ▸ .refl _, fun _ _ _ h => (by cases h), hr⟩
theorem LeL.e {l r : Fl} {k : Nat} {x : V} (h : lkV l k = x) (hr : LeL l r) : LeL l ((k, .v x) :: r) := ⟨h ▸ .refl _, fun _ _ _ h => (by cases h), hr⟩
theorem LeL.z {l : Fl} : LeL l [] := trivial
theorem Wk.trans {x y z : V} (h : Wk x y) (k : Wk y z) : Wk x z := fun g w v hv => k g w v (h g w v hv)
theorem FrLe.le {fr : Fr} {l l' : Fl} {df : List Nat} (h : FrLe fr ⟨l, df⟩) (k : LeL l l') : FrLe fr ⟨l', df⟩ := ⟨fun t => (h.s t).trans (k.wk t), h.df⟩
theorem lst_nil {α : Type} {f : α → V} : ([] : List V) = Ar.lst f [] := by rw [Ar.lst_eq]; rfl
theorem lst_cons {α : Type} {f : α → V} {v : V} {vs : List V} {x : α} {l : List α} (h : v = f x) (k : vs = Ar.lst f l) : v :: vs = Ar.lst f (x :: l) := by
 rw [h, k, Ar.lst_eq, Ar.lst_eq]; rfl
theorem lst_app {α : Type} {f : α → V} (l m : List α) : Ar.lst f l ++ Ar.lst f m = Ar.lst f (l ++ m) := by simp [Ar.lst_eq]
theorem lst_len {α : Type} {f : α → V} (l : List α) : (Ar.lst f l).length = l.length := by simp [Ar.lst_eq]
theorem lst_sz {α : Type} {f : α → V} {sz : Nat} (h : ∀ x, (f x).cells.length = sz) (l : List α) : (Ar.lst f l).all (fun x => x.cells.length == sz) = true := by
 rw [Ar.lst_eq]; simp [h]
theorem LeVs.lst0 {α : Type} {f : α → V} : LeVs [] (Ar.lst f []) := by rw [← lst_nil]; exact .nil
theorem LeVs.lstc {α : Type} {f : α → V} {v : V} {vs : List V} {x : α} {l : List α} (h : LeV v (f x)) (k : LeVs vs (Ar.lst f l)) : LeVs (v :: vs) (Ar.lst f (x :: l)) := by
 rw [← lst_cons rfl rfl]; exact .cons h k
theorem LeV.eq {v x y : V} (h : y = x) (k : LeV v x) : LeV v y := h ▸ k
theorem LeV.lit {xs ys : List V} (t : Tail) (h : xs = ys) : LeV (.sl xs t) (.sl ys .ro) := h ▸ .ro _ _
section
variable {P : Program} {nt : Nat} {rd : Option Nat} {T : Tbl} {E : Env}
variable (hE : E = real P nt rd)
include hE
theorem n_br {R : Type} {c : Bool} {x y : Unit → Prop} {a b : Option R} {r : R} (h : (if c = true then a else b) = some r) (h1 : c = true → a = some r → x ()) (h2 : c = false → b = some r → y ()) : E.br c x y := by
 subst hE
 refine ⟨fun hc => ?_, fun hc => ?_⟩
 ·rw [if_pos hc] at h; exact h1 hc h
 ·rw [if_neg (by rw [hc]; simp)] at h; exact h2 hc h
theorem n_need {p : Prop} {k : Unit → Prop} (h : p) (hk : k ()) : E.need p k := by subst hE; exact ⟨h, hk⟩
theorem n_needB {R : Type} {b : Bool} {k : Unit → Prop} {F : Unit → Option R} {r : R} (h : (req b).bind F = some r) (hk : F () = some r → k ()) : E.needB b k := by
 subst hE
 obtain ⟨x, h1, h2⟩ := bind_some h
 unfold req at h1
 split at h1
 ·rename_i hb; exact ⟨hb, hk h2⟩
 ·cases h1
theorem n_needT {b : Bool} {k : Unit → Prop} (hb : b = true) (hk : k ()) : E.needB b k := by subst hE; exact ⟨hb, hk⟩
theorem cmp_true {op : BinOp} {a b : Int} (h : cmpI op a b = true) : Ar.cmp op a b = true := by rw [Ar.cmp_eq]; exact h
theorem n_ln {α : Type} {f : α → V} {l : List α} {k : Int → Prop} (h : k (Ar.len l)) : E.ln (Ar.lst f l) k := by
 subst hE
 show k _
 rw [lst_len, ← Ar.len_eq]; exact h
theorem n_idx {α R : Type} {f g : α → V} (hf : ∀ x, f x = g x) {l : List α} {i : Int} {k : V → Prop} {F : α → Option R} {r : R} (h : (idxL l i).bind F = some r) (hk : ∀ x, F x = some r → k (g x)) : E.idx (Ar.lst f l) i k := by
 subst hE
 obtain ⟨x, h1, h2⟩ := bind_some h
 unfold idxL at h1
 split at h1
 ·rename_i h0
  have hlt : i.toNat < l.length := by
   rcases Nat.lt_or_ge i.toNat l.length with h' | h'
   ·exact h'
   ·rw [List.getElem?_eq_none h'] at h1; cases h1
  refine ⟨⟨h0, by rw [lst_len]; omega⟩, ?_⟩
  rw [Ar.lst_eq, List.getD_eq_getElem?_getD, List.getElem?_map, h1]
  simp only [Option.map_some, Option.getD_some]
  rw [hf]; exact hk x h2
 ·cases h1
theorem n_call {R S : Type} {m : Option S} {F : S → Option R} {r : R} {f : FuncId} {args args' : List V} {g : S → V} {H : Heap} {k : V → Heap → Prop} (h : m.bind F = some r) (hc : ∀ x, m = some x → CallP P f args' (g x)) (hl : LeVs args args')
 (hk : ∀ x, F x = some r → k (g x) H) : E.call (.func (.func f) [] []) args H k := by
 subst hE
 obtain ⟨x, h1, h2⟩ := bind_some h
 exact CallVP.at (CallP.value (F := []) (C := []) (by simpa using (hc x h1).args hl)) (hk x h2)
theorem n_pcall {R S : Type} {m : Option S} {F : S → Option R} {r : R} {f : FuncId} {args args' : List V} {g : S → V} {H : Heap} {k : V → Prop} (h : m.bind F = some r) (hc : ∀ x, m = some x → CallP P f args' (g x)) (hl : LeVs args args')
 (hk : ∀ x, F x = some r → k (g x)) : E.pcall H (.func (.func f) [] []) args k := by
 subst hE
 obtain ⟨x, h1, h2⟩ := bind_some h
 exact ⟨g x, (CallP.value (F := []) (C := []) (by simpa using (hc x h1).args hl)).toH H, hk x h2⟩
theorem n_callF {R S : Type} {m : Option S} {F : S → Option R} {r : R} {fv : V} {args args' : List V} {g : S → V} {H : Heap} {k : V → Heap → Prop} (h : m.bind F = some r) (hc : ∀ x, m = some x → CallVP P fv args' (g x)) (hl : LeVs args args')
 (hk : ∀ x, F x = some r → k (g x) H) : E.call fv args H k := by
 subst hE
 obtain ⟨x, h1, h2⟩ := bind_some h
 exact CallVP.at ((hc x h1).args hl) (hk x h2)
theorem n_load {Φ : Heap → Heap → Prop} {H0 H : Heap} {L : List En} (hO : Own Φ H0 L H) (i : Nat) {id : Nat} {cs : List V} {k : List V → Prop} (hi : L[i]? = some (.blk id (.cells cs))) (hk : k cs) : E.load H id k := by
 subst hE; exact ⟨cs, hO.get i hi, hk⟩
theorem n_store {Φ : Heap → Heap → Prop} {H0 H : Heap} {L : List En} (hO : Own Φ H0 L H) (i : Nat) {id off sz : Nat} {cs vs : List V} {k : Heap → Prop} (hi : L[i]? = some (.blk id (.cells cs))) (hb : Nat.ble (off + sz) cs.length = true)
 (hk : ∀ H', Own Φ H0 (L.set i (.blk id (.cells (splice cs off vs)))) H' → k H') : E.store H id off sz vs k := by
 subst hE
 exact ⟨cs, vs, .refl _, hO.get i hi, hb, hk _ (hO.set i hi)⟩
theorem n_alloc {Φ : Heap → Heap → Prop} {H0 H : Heap} {L : List En} (hO : Own Φ H0 L H) {cs : List V} {k : Nat → Heap → Prop} (hk : ∀ id H', Own Φ H0 (.blk id (.cells cs) :: L) H' → k id H') : E.alloc H cs k := by
 subst hE; exact fun id hid => hk id _ (hO.push hid rfl)
theorem n_take {Φ : Heap → Heap → Prop} {H0 H : Heap} {L : List En} (hO : Own Φ H0 L H) (i : Nat) {id : Nat} {cs : List V} {k : List V → Heap → Prop} (hi : L[i]? = some (.blk id (.cells cs)))
 (hk : ∀ H', H' = upd H id none → Own Φ H0 (L.eraseIdx i) H' → k cs H') : E.frz H id k := by
 subst hE; exact ⟨cs, hO.get i hi, hk _ rfl (hO.del i hi)⟩
theorem n_give {Φ : Heap → Heap → Prop} {H0 H H1 : Heap} {L : List En} (hO : Own Φ H0 L H) (i : Nat) {id : Nat} {cs cs' : List V} {k : Heap → Prop} (hi : L[i]? = some (.blk id (.cells cs))) (he : H1 = upd H id none)
 (hk : ∀ H', Own Φ H0 (L.set i (.blk id (.cells cs'))) H' → k H') : E.give H1 id cs' k := by
 subst hE; subst he
 refine hk _ ?_
 have e : upd (upd H id none) id (some (.cells cs')) = upd H id (some (.cells cs')) := by
  funext x; by_cases hx : x = id
  ·subst hx; rw [upd_same, upd_same]
  ·rw [upd_other _ _ hx, upd_other _ _ hx, upd_other _ _ hx]
 rw [e]
 exact hO.set i hi
theorem n_appq {α R : Type} {f : α → V} {sz by_ : Nat} (hsz : ∀ x, (f x).cells.length = sz) (hby : by_ ≤ 131072) {xs ys : List V} {l m : List α} {k : V → Prop} {F : List α → Option R} {r : R} (hx : LeVs xs (Ar.lst f l)) (hy : LeVs ys (Ar.lst f m)) (h : (appL l m).bind F = some r)
 (hk : ∀ x, F x = some r → k (.sl (Ar.lst f x) .ro)) : E.appq sz by_ xs ys k := by
 subst hE
 obtain ⟨x, h1, h2⟩ := bind_some h
 unfold appL at h1
 split at h1
 ·rename_i hc
  cases h1
  refine ⟨_, _, hx, hy, lst_sz hsz l, lst_sz hsz m, ?_, ?_⟩
  ·rw [lst_len, lst_len]
   exact Nat.le_trans (Nat.mul_le_mul hc hby) (by decide)
  ·rw [lst_app]
   exact hk _ h2
 ·cases h1
theorem n_appn {α R : Type} {f : α → V} {sz by_ : Nat} (hsz : ∀ x, (f x).cells.length = sz) (hby : by_ ≤ 131072) {Φ : Heap → Heap → Prop} {H0 H : Heap} {L : List En} (hO : Own Φ H0 L H) (i : Nat) {tl : Tail} (hi : L[i]? = some (.tl tl)) (ha : Appn tl)
 {xs ys : List V} {l m : List α} {k : V → Heap → Prop} {F : List α → Option R} {r : R} (hx : LeVs xs (Ar.lst f l)) (hy : LeVs ys (Ar.lst f m)) (h : (appL l m).bind F = some r)
 (hk : ∀ x tl' H', Own Φ H0 (L.set i (.tl tl')) H' → Appn tl' → F x = some r → k (.sl (Ar.lst f x) tl') H') : E.appn sz by_ H tl xs ys k := by
 subst hE
 obtain ⟨x, h1, h2⟩ := bind_some h
 unfold appL at h1
 split at h1
 ·rename_i hc
  cases h1
  refine ⟨_, _, hx, hy, hO.appOk i hi ha, lst_sz hsz l, lst_sz hsz m, ?_, fun hm => ?_, fun t ht hn => ?_⟩
  ·rw [lst_len, lst_len]
   exact Nat.le_trans (Nat.mul_le_mul hc hby) (by decide)
  ·have hm' : m = [] := by
    have := congrArg List.length hm
    rw [lst_len] at this
    exact List.eq_nil_of_length_eq_zero (by simpa using this)
   subst hm'
   have := hk _ tl H (by
    have e : L.set i (.tl tl) = L := by
     apply List.ext_getElem?
     intro j
     rw [List.getElem?_set]
     split
     ·rename_i e; subst e
      split
      ·exact hi.symm
      ·rename_i hl; rw [List.getElem?_eq_none (by omega)]
     ·rfl
    rw [e]; exact hO) ha h2
   rwa [List.append_nil] at this
  ·rw [lst_app]
   exact hk _ _ _ (hO.tok i hi hn) trivial h2
 ·cases h1
end
section
variable {P : Program} {nt : Nat} {rd : Option Nat} {T : Tbl} {E : Env}
abbrev POk (P : Program) (T : Tbl) : Prop := TOk P T ∧ P.follows .mixedOrders = true
theorem n_join (cf : Cf) (hE : E = real P nt rd) (hP : POk P T) {c : Code} {st : St} {H : Heap} {K : Exit → St → Heap → Prop} (X : Exit → Fl → Heap → Prop) (hd : drawsOk cf c = true)
 (h : runJ E T nt cf c st H fun e st' H' => ∃ l, X e l H' ∧ LeL st'.l l ∧ st'.df = st.df) (after : ∀ e l H', X e l H' → K e ⟨l, st.df⟩ H') : E.sim c st H K := by
 subst hE
 refine (runJ_sound hP.1 hP.2 c _ _ _ hd h).mono fun e fr2 H2 ⟨st', hle', l, h3, h1, h2⟩ => ?_
 exact ⟨⟨l, st.df⟩, ⟨fun t => (hle'.s t).trans (h1.wk t), hle'.df.trans h2⟩, after _ _ _ h3⟩
theorem n_loopN (cf : Cf) (hE : E = real P nt rd) (hP : POk P T) {σ R : Type} {step : σ → Option (σ ⊕ R)} {c : Code} {st : St} {H : Heap} {K : Exit → St → Heap → Prop} (fm : σ → Fl) (Inv : σ → Heap → Prop) (X : R → Exit → Fl → Heap → Prop) (hd : drawsOk cf c = true)
 (round : ∀ s H o, Inv s H → step s = some o → run E T nt cf c ⟨fm s, st.df⟩ H fun e st' H' => match e with
  | .normal => ∃ s', o = .inl s' ∧ LeL st'.l (fm s') ∧ st'.df = st.df ∧ Inv s' H'
  | e => ∃ x l, o = .inr x ∧ X x e l H' ∧ LeL st'.l l ∧ st'.df = st.df)
 {N : Nat} {s0 : σ} {r : R} (h : loopN step N s0 = some r) (hf : LeL st.l (fm s0)) (hI : Inv s0 H) (after : ∀ e l H', X r e l H' → K e ⟨l, st.df⟩ H') : E.sim (.loop c) st H K := by
 subst hE
 refine Sim.loopN (fun n fr' H' => ∃ s, loopN step n s = some r ∧ FrLe fr' ⟨fm s, st.df⟩ ∧ Inv s H') N ⟨s0, h, ⟨fun t => hf.wk t, rfl⟩, hI⟩ fun n fr' H' ⟨s, hs, hle, hi⟩ => ?_
 cases n with
 | zero => cases hs
 | succ n =>
  simp only [loopN] at hs
  cases ho : step s with
  | none => rw [ho] at hs; cases hs
  | some o =>
   rw [ho] at hs
   refine Sim.frLe hle ((run_sound hP.1 hP.2 c _ _ _ hd (round s H' o hi ho)).mono fun e fr2 H2 ⟨st', hle', hq⟩ => ?_)
   cases e with
   | normal =>
    obtain ⟨s', h1, h2, h3, h4⟩ := hq
    subst h1
    exact ⟨n, Nat.lt_succ_self n, s', hs, ⟨fun t => (hle'.s t).trans (h2.wk t), hle'.df.trans h3⟩, h4⟩
   | _ =>
    obtain ⟨x, l, h1, h4, h2, h3⟩ := hq
    subst h1
    cases hs
    exact ⟨⟨l, st.df⟩, ⟨fun t => (hle'.s t).trans (h2.wk t), hle'.df.trans h3⟩, after _ _ _ h4⟩
theorem n_loopG (cf : Cf) (hE : E = real P nt rd) (hP : POk P T) {σ γ R : Type} {step : σ → Option (σ ⊕ R)} {c : Code} {st : St} {H : Heap} {K : Exit → St → Heap → Prop} (fm : σ → γ → Fl) (Inv : σ → γ → Heap → Prop) (X : R → Exit → Fl → Heap → Prop) (hd : drawsOk cf c = true)
 (round : ∀ s g H o, Inv s g H → step s = some o → run E T nt cf c ⟨fm s g, st.df⟩ H fun e st' H' => match e with
  | .normal => ∃ s' g', o = .inl s' ∧ LeL st'.l (fm s' g') ∧ st'.df = st.df ∧ Inv s' g' H'
  | e => ∃ x l, o = .inr x ∧ X x e l H' ∧ LeL st'.l l ∧ st'.df = st.df)
 {N : Nat} {s0 : σ} (g0 : γ) {r : R} (h : loopN step N s0 = some r) (hf : LeL st.l (fm s0 g0)) (hI : Inv s0 g0 H) (after : ∀ e l H', X r e l H' → K e ⟨l, st.df⟩ H') : E.sim (.loop c) st H K := by
 subst hE
 refine Sim.loopN (fun n fr' H' => ∃ s g, loopN step n s = some r ∧ FrLe fr' ⟨fm s g, st.df⟩ ∧ Inv s g H') N ⟨s0, g0, h, ⟨fun t => hf.wk t, rfl⟩, hI⟩ fun n fr' H' ⟨s, g, hs, hle, hi⟩ => ?_
 cases n with
 | zero => cases hs
 | succ n =>
  simp only [loopN] at hs
  cases ho : step s with
  | none => rw [ho] at hs; cases hs
  | some o =>
   rw [ho] at hs
   refine Sim.frLe hle ((run_sound hP.1 hP.2 c _ _ _ hd (round s g H' o hi ho)).mono fun e fr2 H2 ⟨st', hle', hq⟩ => ?_)
   cases e with
   | normal =>
    obtain ⟨s', g', h1, h2, h3, h4⟩ := hq
    subst h1
    exact ⟨n, Nat.lt_succ_self n, s', g', hs, ⟨fun t => (hle'.s t).trans (h2.wk t), hle'.df.trans h3⟩, h4⟩
   | _ =>
    obtain ⟨x, l, h1, h4, h2, h3⟩ := hq
    subst h1
    cases hs
    exact ⟨⟨l, st.df⟩, ⟨fun t => (hle'.s t).trans (h2.wk t), hle'.df.trans h3⟩, after _ _ _ h4⟩
theorem callP_of_spec {f : FuncId} {fn : Func} {c : Code} {n : Nat} {rs : List ResultVar} {args : List V} {r : V} (cf : Cf) (hP : POk P T) (hf : P.funcs[f]? = some fn) (hb : fn.body = some c) (hd : drawsOk cf c = true)
 (hcall : ∀ vals w, (callFunc f vals).run P w = .ok (.enter f vals) w) (hnt : fn.ntmps = n) (hrs : fn.results.toList = rs) (hn : Nat.ble args.length n = true)
 (h : ∀ (E : Env) (H : Heap) (K : V → Heap → Prop), E = real P n none → (∀ x L H', Own Eq H L H' → LeV x r → K x H') → run E T n cf c ⟨entryL args 0, []⟩ H (finX E T rs K)) : CallP P f args r := fun H => by
 refine (callA_of_run (K := fun x H' => ∃ y H2, LeV x y ∧ HLe H2 H' ∧ y = r ∧ H2 = H) cf hP.1 hP.2 hf hb hd hcall hnt hrs hn fun E hE => ?_).le
 exact h E H _ hE fun x L H' hO hx => ⟨r, H, hx, hO.ext, rfl, rfl⟩
end
end Go.Ab

namespace Go.Ab
open Go.RowKit
variable [Glob] [Ar]
abbrev DB : Blk := .obj (.deferred (some []))
section
variable {P : Program} {nt : Nat} {rd : Option Nat} {T : Tbl} {E : Env}
theorem n_fin (hE : E = real P nt rd) {Φ : Heap → Heap → Prop} {H0 H : Heap} {L : List En} (hO : Own Φ H0 L H) (i : Nat) {d : Nat} {k : Heap → Prop} (hi : L[i]? = some (.blk d DB)) (hk : ∀ H', Own Φ H0 (L.eraseIdx i) H' → k H') : E.fin [d] H k := by
 subst hE
 have hd := hO.get i hi
 refine ⟨⟨by simp, fun id hid => ?_⟩, ?_⟩
 ·simp at hid; subst hid; exact hd
 ·have e : clear H [d] = upd H d none := by
   funext x; simp only [clear, upd, List.mem_singleton]
  rw [e]; exact hk _ (hO.del i hi)
def CallQ (P : Program) (f : FuncId) (args : List V) (Q : V → Prop) : Prop := ∀ H, CallA P f args H fun x H' => Q x ∧ H' = H
theorem CallQ.args {f : FuncId} {xs ys : List V} {Q : V → Prop} (h : CallQ P f ys Q) (k : LeVs xs ys) : CallQ P f xs Q := fun H => (h H).args k
theorem CallP.q {f : FuncId} {args : List V} {r : V} {Q : V → Prop} (h : CallP P f args r) (hq : Q r) : CallQ P f args Q := fun H => (h H).mono fun x H' ⟨e1, e2⟩ => ⟨e1 ▸ hq, e2⟩
theorem n_callQ (hE : E = real P nt rd) {R S : Type} {m : Option S} {F : S → Option R} {r : R} {f : FuncId} {args args' : List V} {Q : S → V → Prop} {H : Heap} {k : V → Heap → Prop} (h : m.bind F = some r) (hc : ∀ x, m = some x → CallQ P f args' (Q x)) (hl : LeVs args args')
 (hk : ∀ x v, Q x v → F x = some r → k v H) : E.call (.func (.func f) [] []) args H k := by
 subst hE
 obtain ⟨x, h1, h2⟩ := bind_some h
 have h3 : CallA P f args H k := ((hc x h1).args hl H).mono fun v H' ⟨hq, hH⟩ => by subst hH; exact hk x v hq h2
 exact CallA.value (F := []) (C := []) (by simpa using h3)
theorem callQ_of_spec {f : FuncId} {fn : Func} {c : Code} {n : Nat} {rs : List ResultVar} {args : List V} {Q : V → Prop} (cf : Cf) (hP : POk P T) (hf : P.funcs[f]? = some fn) (hb : fn.body = some c) (hd : drawsOk cf c = true)
 (hcall : ∀ vals w, (callFunc f vals).run P w = .ok (.enter f vals) w) (hnt : fn.ntmps = n) (hrs : fn.results.toList = rs) (hn : Nat.ble args.length n = true)
 (h : ∀ (E : Env) (H : Heap) (K : V → Heap → Prop), E = real P n none → (∀ x L H', Own Eq H L H' → Q x → K x H') → run E T n cf c ⟨entryL args 0, []⟩ H (finX E T rs K)) : CallQ P f args Q := fun H => by
 refine (callA_of_run (K := fun x H' => ∃ y H2, LeV x y ∧ HLe H2 H' ∧ Q y ∧ H2 = H) cf hP.1 hP.2 hf hb hd hcall hnt hrs hn fun E hE => ?_).le
 exact h E H _ hE fun x L H' hO hx => ⟨x, H, .refl _, hO.ext, hx, rfl⟩
def parL : List Nat → List V → Fl → Fl
 | p :: ps, x :: xs, l => parL ps xs ((p, .v x) :: l)
 | _, _, l => l
theorem parL_ok : ∀ (ps : List Nat) (xs : List V) (l : Fl) (t : Nat), putAll (fun t => lkV l t) ps xs t = lkV (parL ps xs l) t
 | [], xs, l, t => by cases xs <;> rfl
 | p :: ps, [], l, t => rfl
 | p :: ps, x :: xs, l, t => by
  simp only [putAll, parL]
  rw [← parL_ok ps xs]
  congr 1
  funext q
  rw [lkV_put]; rfl
def jmp : Exit → Option Code
 | .ret => some .ret
 | .exit k => some (.exit k)
 | _ => none
variable {α σ R ι : Type}
def RgI (enc : α → List V) (step : σ → α → Option (σ ⊕ R)) (o : σ ⊕ R) (Inv : σ → Heap → Heap → Prop) (l : List (List V)) (F H : Heap) : Prop :=
 ∃ q : σ × List α, (l = q.2.map enc ∧ rangeL step q.2 q.1 = some o) ∧ Inv q.1 F H
def RgD (o : σ ⊕ R) (X : R → Exit → Heap → Heap → Prop) (c : Code) (F H : Heap) : Prop := ∃ q : R × Exit, (o = .inr q.1 ∧ jmp q.2 = some c) ∧ X q.1 q.2 F H
def RgJ (enc : α → List V) (step : σ → α → Option (σ ⊕ R)) (o : σ ⊕ R) (fJ : ι → σ → α → Fl) (J : ι → σ → α → Heap → Heap → Prop) (x : List V) (l : List (List V)) (fr : Fr) (F H : Heap) : Prop :=
 ∃ q : ι × σ × α × List α, (x = enc q.2.2.1 ∧ l = q.2.2.2.map enc ∧ rangeL step (q.2.2.1 :: q.2.2.2) q.2.1 = some o ∧ FrLe fr ⟨fJ q.1 q.2.1 q.2.2.1, []⟩) ∧ J q.1 q.2.1 q.2.2.1 F H
section
variable {enc : α → List V} {step : σ → α → Option (σ ⊕ R)} {g : Operand} {ps : Array Tmp} {asg body : Code} {st : St} {H : Heap} {K : Exit → St → Heap → Prop}
 {xs : List α} {s0 : σ} {o : σ ⊕ R}
theorem rg_assign (cf : Cf) (hP : POk P T) {Inv : σ → Heap → Heap → Prop} {fJ : ι → σ → α → Fl} {J : ι → σ → α → Heap → Heap → Prop} (hda : drawsOk cf asg = true)
 (asgP : ∀ (E' : Env) (id : Nat) y s F H, E' = real P nt (some id) → Inv s F H → run E' T nt cf asg ⟨parL ps.toList (enc y) st.l, []⟩ H fun e st' H' => match e with | .normal => ∃ i, J i s y F H' ∧ LeL st'.l (fJ i s y) ∧ st'.df = [] | _ => False) :
 ∀ (id : Nat) (L : LpI) x l F H, RgI enc step o Inv (x :: l) F H → F id = some (.loop L) → x.length = ps.size → Sim P nt (some id) asg ⟨putAll (frOf st).s ps.toList x, []⟩ H fun e fr' H1 => e = .normal ∧ RgJ enc step o fJ J x l fr' F H1 := by
 intro id L x l F H ⟨⟨s, ys⟩, ⟨hl, hr⟩, hi⟩ _ _
 cases ys with
 | nil => cases hl
 | cons y ys =>
  simp only [List.map_cons, List.cons.injEq] at hl
  obtain ⟨rfl, rfl⟩ := hl
  have e : (⟨putAll (frOf st).s ps.toList (enc y), []⟩ : Fr) = frOf ⟨parL ps.toList (enc y) st.l, []⟩ := by
   simp only [frOf, Fr.mk.injEq, and_true]
   funext t
   exact parL_ok _ _ _ _
  rw [e]
  refine (run_sound hP.1 hP.2 asg _ _ _ hda (asgP _ id y s F H rfl hi)).mono fun e fr' H1 ⟨st', hle, hq⟩ => ?_
  cases e with
  | normal =>
   obtain ⟨i, hj, hl, hdf⟩ := hq
   exact ⟨rfl, ⟨i, s, y, ys⟩, ⟨rfl, rfl, hr, fun t => (hle.s t).trans (hl.wk t), hle.df.trans hdf⟩, hj⟩
  | _ => exact hq.elim
theorem rg_round (cf : Cf) (hP : POk P T) {Inv : σ → Heap → Heap → Prop} {X : R → Exit → Heap → Heap → Prop} {fJ : ι → σ → α → Fl} {J : ι → σ → α → Heap → Heap → Prop} (hdb : drawsOk cf body = true)
 (bodyP : ∀ (E' : Env) (id : Nat) i y s F H o', E' = real P nt (some id) → (∃ L, F id = some (.loop L)) → step s y = some o' → J i s y F H → run E' T nt cf body ⟨fJ i s y, []⟩ H fun e _ H' => match e with
  | .normal => ∃ s', o' = .inl s' ∧ Inv s' F H'
  | e => ∃ r, o' = .inr r ∧ (jmp e).isSome = true ∧ X r e F H') :
 ∀ (id : Nat) (L : LpI) x l fr' F H, RgJ enc step o fJ J x l fr' F H → F id = some (.loop L) → Sim P nt (some id) body fr' H fun e _ H' => endOk (RgI enc step o Inv l) (RgD o X) F e H' := by
 intro id L x l fr' F H ⟨⟨i, s, y, ys⟩, ⟨hx, hl, hr, hf⟩, hj⟩ hL
 subst hx; subst hl
 simp only [rangeL] at hr
 cases ho : step s y with
 | none => rw [ho] at hr; cases hr
 | some o' =>
  rw [ho] at hr
  refine Sim.frLe hf ((run_sound hP.1 hP.2 body _ _ _ hdb (bodyP _ id i y s F H o' rfl ⟨L, hL⟩ ho hj)).mono fun e fr2 H2 ⟨st', hle, hq⟩ => ?_)
  cases e with
  | normal =>
   obtain ⟨s', h1, h2⟩ := hq
   subst h1
   exact ⟨⟨s', ys⟩, ⟨rfl, hr⟩, h2⟩
  | ret =>
   obtain ⟨r, h1, h2, h3⟩ := hq
   subst h1
   exact ⟨⟨r, .ret⟩, ⟨by cases hr; rfl, rfl⟩, h3⟩
  | exit k =>
   obtain ⟨r, h1, h2, h3⟩ := hq
   subst h1
   exact ⟨⟨r, .exit k⟩, ⟨by cases hr; rfl, rfl⟩, h3⟩
  | _ =>
   obtain ⟨r, h1, h2, h3⟩ := hq
   cases h2
theorem n_range (cf : Cf) (hE : E = real P nt none) (hP : POk P T) (Inv : σ → Heap → Heap → Prop) (X : R → Exit → Heap → Heap → Prop) (fJ : ι → σ → α → Fl) (J : ι → σ → α → Heap → Heap → Prop)
 (hI : ∀ s, Stable (Inv s)) (hX : ∀ r e, Stable (X r e)) (hJ : ∀ i s y, Stable (J i s y)) (hit : IterV P ((evS [] st.l g).V) (xs.map enc)) (h : rangeL step xs s0 = some o) {F : Heap} (h0 : Inv s0 F H)
 (hnt : ∀ p ∈ ps, p < nt) (hps : ∀ x, (enc x).length = ps.size) (hda : drawsOk cf asg = true) (hdb : drawsOk cf body = true)
 (asgP : ∀ (E' : Env) (id : Nat) y s F H, E' = real P nt (some id) → Inv s F H → run E' T nt cf asg ⟨parL ps.toList (enc y) st.l, []⟩ H fun e st' H' => match e with | .normal => ∃ i, J i s y F H' ∧ LeL st'.l (fJ i s y) ∧ st'.df = [] | _ => False)
 (bodyP : ∀ (E' : Env) (id : Nat) i y s F H o', E' = real P nt (some id) → (∃ L, F id = some (.loop L)) → step s y = some o' → J i s y F H → run E' T nt cf body ⟨fJ i s y, []⟩ H fun e _ H' => match e with
  | .normal => ∃ s', o' = .inl s' ∧ Inv s' F H'
  | e => ∃ r, o' = .inr r ∧ (jmp e).isSome = true ∧ X r e F H')
 (done : ∀ d s H', o = .inl s → F d = none → Inv s (upd F d (some DB)) H' → K .normal ⟨st.l, d :: st.df⟩ H')
 (stop : ∀ d r e H', o = .inr r → F d = none → X r e (upd F d (some DB)) H' → K e ⟨st.l, d :: st.df⟩ H') : E.sim (.rangeFunc g ps asg body) st H K := by
 subst hE
 have hev : ev (frOf st) g = (evS [] st.l g).V := (evS_ev (df := st.df) Gok.nil g).symm
 rw [← hev] at hit
 have sI : ∀ l, Stable (RgI enc step o Inv l) := fun l => Stable.ex fun q => hI q.1
 have sD : ∀ c, Stable (RgD o X c) := fun c => Stable.ex fun q => hX q.1 q.2
 have sJ : ∀ x l fr, Stable (RgJ enc step o fJ J x l fr) := fun x l fr => Stable.ex fun q => hJ q.1 q.2.1 q.2.2.1
 refine Sim.rangeOuter (nt := nt) hnt (fun x hx => ?_) hit (RgI enc step o Inv) (RgD o X) sI sD (RgJ enc step o fJ J) sJ ⟨⟨s0, xs⟩, ⟨rfl, h⟩, h0⟩ (rg_assign cf hP hda asgP) (rg_round cf hP hdb bodyP) (fun d H' hd ⟨⟨s, ys⟩, ⟨hl, hr⟩, hi⟩ => ?_) fun c d H' hd ⟨⟨r, e⟩, ⟨ho, hj⟩, hx⟩ => ?_
 ·obtain ⟨y, _, rfl⟩ := List.mem_map.1 hx
  exact hps y
 ·have hys : ys = [] := by
   cases ys with
   | nil => rfl
   | cons _ _ => cases hl
  subst hys
  cases hr
  exact ⟨⟨st.l, d :: st.df⟩, ⟨fun t => Wk.refl _, rfl⟩, done d s H' rfl hd hi⟩
 ·have hk := stop d r e H' ho hd hx
  cases e with
  | ret => cases hj; exact Sim.ret ⟨⟨st.l, d :: st.df⟩, ⟨fun t => Wk.refl _, rfl⟩, hk⟩
  | exit k => cases hj; exact Sim.exit ⟨⟨st.l, d :: st.df⟩, ⟨fun t => Wk.refl _, rfl⟩, hk⟩
  | _ => cases hj
end
end
theorem Own.dblk {Φ : Heap → Heap → Prop} {H0 H : Heap} {L : List En} {d : Nat} (hd : H0 d = none) (h : Own Φ (upd H0 d (some DB)) L H) : Own Φ H0 (L ++ [.blk d DB]) H := by
 obtain ⟨hs, F', H1, h0, h1, h2⟩ := h
 refine ⟨hs, F', H1, ⟨fun x b hx => h0.ext x b ?_, fun i e x b hi he => ?_, fun i j e e' x b b' hi hj he he' => ?_, fun x b hx => ?_⟩, h1, h2⟩
 rotate_right
 ·rcases h0.only x b hx with h | ⟨i, e, hi, he⟩
  ·by_cases hxd : x = d
   ·subst hxd; rw [upd_same] at h; cases h; exact .inr ⟨L.length, .blk x DB, by simp, rfl⟩
   ·rw [upd_other _ _ hxd] at h; exact .inl h
  ·refine .inr ⟨i, e, ?_, he⟩
   rcases Nat.lt_or_ge i L.length with hlt | hge
   ·rw [List.getElem?_append_left hlt]; exact hi
   ·rw [List.getElem?_eq_none hge] at hi; cases hi
 ·rw [upd_other _ _ (ne_of_none hd hx)]; exact hx
 ·rcases Nat.lt_or_ge i L.length with hlt | hge
  ·rw [List.getElem?_append_left hlt] at hi
   have := h0.has i e x b hi he
   refine ⟨?_, this.2⟩
   have hne : x ≠ d := fun eq => by subst eq; rw [upd_same] at this; cases this.1
   rw [upd_other _ _ hne] at this; exact this.1
  ·rw [List.getElem?_append_right hge] at hi
   cases hm : i - L.length with
   | zero => rw [hm] at hi; simp at hi; subst hi; cases he; exact ⟨hd, h0.ext _ _ (upd_same _ _ _)⟩
   | succ m => rw [hm] at hi; simp at hi
 ·have hDB : ∀ (i : Nat) e, (L ++ [.blk d DB])[i]? = some e → (i < L.length ∧ L[i]? = some e) ∨ (i = L.length ∧ e = .blk d DB) := fun i e hi => by
   rcases Nat.lt_or_ge i L.length with hlt | hge
   ·rw [List.getElem?_append_left hlt] at hi; exact .inl ⟨hlt, hi⟩
   ·rw [List.getElem?_append_right hge] at hi
    cases hm : i - L.length with
    | zero => rw [hm] at hi; simp at hi; exact .inr ⟨by omega, hi.symm⟩
    | succ m => rw [hm] at hi; simp at hi
  have nd : ∀ (i : Nat) e x b, L[i]? = some e → e.id = some (x, b) → x ≠ d := fun m e x b hm he eq => by
   have := (h0.has m e x b hm he).1
   rw [eq, upd_same] at this; cases this
  rcases hDB i e hi with ⟨_, ki⟩ | ⟨ki, rfl⟩ <;> rcases hDB j e' hj with ⟨_, kj⟩ | ⟨kj, rfl⟩
  ·exact h0.inj i j e e' x b b' ki kj he he'
  ·cases he'; exact absurd rfl (nd i e _ b ki he)
  ·cases he; exact absurd rfl (nd j e' _ b' kj he')
  ·rw [ki, kj]
end Go.Ab

