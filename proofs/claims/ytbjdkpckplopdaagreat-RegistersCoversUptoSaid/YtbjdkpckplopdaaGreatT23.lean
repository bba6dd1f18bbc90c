/- AbS1 AbS2 AbS4 AbS3 AbS5 AbB2 -/
import Derived.Test.YtbjdkpckplopdaaGreatT15
import Derived.Test.YtbjdkpckplopdaaGreatT22
set_option linter.all false

namespace Go.Ab
def idxL {α : Type} (l : List α) (i : Int) : Option α := if 0 ≤ i then l[i.toNat]? else none
def sliceL {α : Type} (l : List α) (lo hi mx : Option Int) : Option (List α) :=
 if 0 ≤ lo.getD 0 ∧ lo.getD 0 ≤ hi.getD l.length ∧ hi.getD l.length ≤ mx.getD l.length ∧ mx.getD l.length ≤ l.length ∧ (mx.isSome = true → hi.isSome = true) then
  some ((l.drop (lo.getD 0).toNat).take ((hi.getD l.length).toNat - (lo.getD 0).toNat))
 else none
def appL {α : Type} (l m : List α) : Option (List α) := if l.length + m.length ≤ 1073741824 then some (l ++ m) else none
def req (b : Bool) : Option Unit := if b = true then some () else none
def loopN {σ R : Type} (step : σ → Option (σ ⊕ R)) : Nat → σ → Option R
 | 0, _ => none
 | n + 1, s =>
  match step s with
  | none => none
  | some (.inl s') => loopN step n s'
  | some (.inr r) => some r
def rangeL {α σ R : Type} (step : σ → α → Option (σ ⊕ R)) : List α → σ → Option (σ ⊕ R)
 | [], s => some (.inl s)
 | x :: l, s =>
  match step s x with
  | none => none
  | some (.inl s') => rangeL step l s'
  | some (.inr r) => some (.inr r)
theorem bind_some {α β : Type} {m : Option α} {F : α → Option β} {r : β} (h : m.bind F = some r) : ∃ x, m = some x ∧ F x = some r := by
 cases m with
 | none => cases h
 | some x => exact ⟨x, rfl, h⟩
theorem ret_some {α : Type} {a b : α} (h : some a = some b) : a = b := Option.some.inj h
end Go.Ab

namespace Go.Ab
def inR {α : Type} (l : List α) (i : Int) : Bool := decide (0 ≤ i ∧ i < (l.length : Nat))
def updL {α : Type} (l : List α) (i : Int) (u : α → α) : Option (List α) := (idxL l i).map fun x => l.set i.toNat (u x)
def mkL {α : Type} (n m : Int) (z : α) : Option (List α) := if 0 ≤ n ∧ n ≤ m ∧ m ≤ 1073741824 then some (List.replicate n.toNat z) else none
end Go.Ab

namespace Go.Ab
def getM {K X : Type} [DecidableEq K] (m : List (K × X)) (k : K) (z : X) : Option (X × Bool) := some (match m.find? (fun p => decide (p.1 = k)) with | some p => (p.2, true) | none => (z, false))
def setM {K X : Type} [DecidableEq K] (m : List (K × X)) (k : K) (v : X) : Option (List (K × X)) := some (if m.any (fun p => decide (p.1 = k)) = true then m.map (fun p => if p.1 = k then (k, v) else p) else m ++ [(k, v)])
end Go.Ab

namespace Go.Ab
def insI (x : Int) : List Int → List Int
 | [] => [x]
 | y :: r => if x ≤ y then x :: y :: r else y :: insI x r
def isortI : List Int → List Int
 | [] => []
 | x :: r => insI x (isortI r)
theorem insI_at (a : Int) : ∀ (l m : List Int), (∀ b ∈ l, ¬ a ≤ b) → (∀ b ∈ m, a ≤ b) → insI a (l ++ m) = l ++ a :: m
 | [], [], _, _ => rfl
 | [], y :: m, _, h => by simp only [List.nil_append, insI]; rw [if_pos (h y (by simp))]
 | y :: l, m, h, k => by
  simp only [List.cons_append, insI]
  rw [if_neg (h y (by simp)), insI_at a l m (fun b hb => h b (by simp [hb])) k]
theorem isortI_eq : ∀ l : List Int, isortI l = l.mergeSort fun x y => decide (x ≤ y)
 | [] => by simp [isortI]
 | a :: l => by
  have ht : ∀ x y z : Int, decide (x ≤ y) = true → decide (y ≤ z) = true → decide (x ≤ z) = true := fun x y z h k => by simp at *; omega
  have hc : ∀ x y : Int, (decide (x ≤ y) || decide (y ≤ x)) = true := fun x y => by simp; omega
  obtain ⟨l1, l2, h1, h2, h3⟩ := List.mergeSort_cons ht hc a l
  have hs := List.pairwise_mergeSort ht hc (a :: l)
  rw [h1] at hs
  rw [isortI, isortI_eq l, h1, h2]
  refine insI_at a l1 l2 (fun b hb => ?_) fun b hb => ?_
  ·have := h3 b hb; simpa using this
  ·have := (List.pairwise_cons.1 (List.pairwise_append.1 hs).2.1).1 b hb
   simpa using this
def sortL (l : List Int) : Option (List Int) := if l.length < 4611686018427387904 then some (isortI l) else none
theorem sortL_some {l r : List Int} (h : sortL l = some r) : l.length < 4611686018427387904 ∧ r = l.mergeSort fun x y => decide (x ≤ y) := by
 unfold sortL at h
 split at h
 ·rename_i hc; cases h; exact ⟨hc, isortI_eq l⟩
 ·cases h
end Go.Ab

namespace Go.Ab
end Go.Ab

namespace Go.Ab
open Go.RowKit
variable [Glob] [Ar]
def LeL (l : Fl) : Fl → Prop
 | [] => True
 | (k, s) :: r => LeV (lkV l k) s.V ∧ (∀ j w x, s ≠ .g j w x) ∧ LeL l r
theorem LeL.wk {l : Fl} : ∀ {r : Fl}, LeL l r → ∀ t, Wk (lkV l t) (lkV r t)
 | [], _, t => Wk.bad _
 | (k, s) :: r, h, t => by
  simp only [lkV]
  cases hb : Nat.beq t k with
  | true =>
   have := Nat.eq_of_beq_eq_true hb; subst this
   cases s with
   | v x => exact h.1.wk
   | b c => exact h.1.wk
   | g j w x => exact absurd rfl (h.2.1 j w x)
  | false => exact LeL.wk h.2.2 t
theorem LeL.v {l r : Fl} {k : Nat} {x : V} (h : LeV (lkV l k) x) (hr : LeL l r) : LeL l ((k, .v x) :: r) := ⟨h, fun _ _ _ h => (by cases h), hr⟩
theorem LeL.b {l r : Fl} {k : Nat} {c : Bool} (h : lkV l k = .bool c) (hr : LeL l r) : LeL l ((k, .b c) :: r) := ⟨h ▸ .refl _, fun _ _ _ h => (by cases h), hr⟩
theorem LeL.e {l r : Fl} {k : Nat} {x : V} (h : lkV l k = x) (hr : LeL l r) : LeL l ((k, .v x) :: r) := ⟨h ▸ .refl _, fun _ _ _ h => (by cases h), hr⟩
theorem LeL.z {l : Fl} : LeL l [] := trivial
theorem Wk.trans {x y z : V} (h : Wk x y) (k : Wk y z) : Wk x z := fun g w v hv => k g w v (h g w v hv)
theorem FrLe.le {fr : Fr} {l l' : Fl} {df : List Nat} (h : FrLe fr ⟨l, df⟩) (k : LeL l l') : FrLe fr ⟨l', df⟩ := ⟨fun t => (h.s t).trans (k.wk t), h.df⟩
theorem lst_nil {α : Type} {f : α → V} : ([] : List V) = Ar.lst f [] := by rw [Ar.lst_eq]; rfl
theorem lst_cons {α : Type} {f : α → V} {v : V} {vs : List V} {x : α} {l : List α} (h : v = f x) (k : vs = Ar.lst f l) : v :: vs = Ar.lst f (x :: l) := by
 rw [h, k, Ar.lst_eq, Ar.lst_eq]; rfl
theorem lst_app {α : Type} {f : α → V} (l m : List α) : Ar.lst f l ++ Ar.lst f m = Ar.lst f (l ++ m) := by simp [Ar.lst_eq]
theorem lst_len {α : Type} {f : α → V} (l : List α) : (Ar.lst f l).length = l.length := by simp [Ar.lst_eq]
theorem lst_sz {α : Type} {f : α → V} {sz : Nat} (h : ∀ x, (f x).cells.length = sz) (l : List α) : (Ar.lst f l).all (fun x => x.cells.length == sz) = true := by
 rw [Ar.lst_eq]; simp [h]
theorem LeVs.lst0 {α : Type} {f : α → V} : LeVs [] (Ar.lst f []) := by rw [← lst_nil]; exact .nil
theorem LeVs.lstc {α : Type} {f : α → V} {v : V} {vs : List V} {x : α} {l : List α} (h : LeV v (f x)) (k : LeVs vs (Ar.lst f l)) : LeVs (v :: vs) (Ar.lst f (x :: l)) := by
 rw [← lst_cons rfl rfl]; exact .cons h k
theorem LeV.eq {v x y : V} (h : y = x) (k : LeV v x) : LeV v y := h ▸ k
theorem LeV.lit {xs ys : List V} (t : Tail) (h : xs = ys) : LeV (.sl xs t) (.sl ys .ro) := h ▸ .ro _ _
section
variable {P : Program} {nt : Nat} {rd : Option Nat} {T : Tbl} {E : Env}
variable (hE : E = real P nt rd)
include hE
theorem n_br {R : Type} {c : Bool} {x y : Unit → Prop} {a b : Option R} {r : R} (h : (if c = true then a else b) = some r) (h1 : c = true → a = some r → x ()) (h2 : c = false → b = some r → y ()) : E.br c x y := by
 subst hE
 refine ⟨fun hc => ?_, fun hc => ?_⟩
 ·rw [if_pos hc] at h; exact h1 hc h
 ·rw [if_neg (by rw [hc]; simp)] at h; exact h2 hc h
theorem n_br0 {c : Bool} {x y : Unit → Prop} (h1 : c = true → x ()) (h2 : c = false → y ()) : E.br c x y := by subst hE; exact ⟨h1, h2⟩
theorem n_need {p : Prop} {k : Unit → Prop} (h : p) (hk : k ()) : E.need p k := by subst hE; exact ⟨h, hk⟩
theorem n_needB {R : Type} {b : Bool} {k : Unit → Prop} {F : Unit → Option R} {r : R} (h : (req b).bind F = some r) (hk : F () = some r → k ()) : E.needB b k := by
 subst hE
 obtain ⟨x, h1, h2⟩ := bind_some h
 unfold req at h1
 split at h1
 ·rename_i hb; exact ⟨hb, hk h2⟩
 ·cases h1
theorem n_ln {α : Type} {f : α → V} {l : List α} {k : Int → Prop} (h : k (Ar.len l)) : E.ln (Ar.lst f l) k := by
 subst hE
 show k _
 rw [lst_len, ← Ar.len_eq]; exact h
theorem n_idx {α R : Type} {f g : α → V} (hf : ∀ x, f x = g x) {l : List α} {i : Int} {k : V → Prop} {F : α → Option R} {r : R} (h : (idxL l i).bind F = some r) (hk : ∀ x, F x = some r → k (g x)) : E.idx (Ar.lst f l) i k := by
 subst hE
 obtain ⟨x, h1, h2⟩ := bind_some h
 unfold idxL at h1
 split at h1
 ·rename_i h0
  have hlt : i.toNat < l.length := by
   rcases Nat.lt_or_ge i.toNat l.length with h' | h'
   ·exact h'
   ·rw [List.getElem?_eq_none h'] at h1; cases h1
  refine ⟨⟨h0, by rw [lst_len]; omega⟩, ?_⟩
  rw [Ar.lst_eq, List.getD_eq_getElem?_getD, List.getElem?_map, h1]
  simp only [Option.map_some, Option.getD_some]
  rw [hf]; exact hk x h2
 ·cases h1
theorem n_slice {α R : Type} {f : α → V} {sz : Nat} (hsz : ∀ x, (f x).cells.length = sz) {l : List α} {tl : Tail} {lo hi mx : Option Int} {k : V → Prop} {F : List α → Option R} {r : R} (h : (sliceL l lo hi mx).bind F = some r)
 (hk : ∀ x t, F x = some r → k (.sl (Ar.lst f x) t)) : E.slice sz (Ar.lst f l) tl lo hi mx k := by
 subst hE
 obtain ⟨x, h1, h2⟩ := bind_some h
 unfold sliceL at h1
 split at h1
 ·rename_i hc
  obtain ⟨c1, c2, c3, c4, c5⟩ := hc
  cases h1
  refine ⟨?_, ?_⟩
  ·rw [lst_len]
   exact ⟨c1, c2, c3, c4, c5, .inr (lst_sz hsz l)⟩
  ·rw [lst_len, Ar.lst_eq, ← List.map_drop, ← List.map_take]
   have := hk _ (cutTail (lo.getD 0).toNat (hi.getD l.length).toNat l.length mx tl) h2
   rwa [Ar.lst_eq] at this
 ·cases h1
theorem n_call {R S : Type} {m : Option S} {F : S → Option R} {r : R} {f : FuncId} {args args' : List V} {g : S → V} {H : Heap} {k : V → Heap → Prop} (h : m.bind F = some r) (hc : ∀ x, m = some x → CallP P f args' (g x)) (hl : LeVs args args')
 (hk : ∀ x, F x = some r → k (g x) H) : E.call (.func (.func f) [] []) args H k := by
 subst hE
 obtain ⟨x, h1, h2⟩ := bind_some h
 exact CallVP.at (CallP.value (F := []) (C := []) (by simpa using (hc x h1).args hl)) (hk x h2)
theorem n_pcall {R S : Type} {m : Option S} {F : S → Option R} {r : R} {f : FuncId} {args args' : List V} {g : S → V} {H : Heap} {k : V → Prop} (h : m.bind F = some r) (hc : ∀ x, m = some x → CallP P f args' (g x)) (hl : LeVs args args')
 (hk : ∀ x, F x = some r → k (g x)) : E.pcall H (.func (.func f) [] []) args k := by
 subst hE
 obtain ⟨x, h1, h2⟩ := bind_some h
 exact ⟨g x, (CallP.value (F := []) (C := []) (by simpa using (hc x h1).args hl)).toH H, hk x h2⟩
theorem n_callF {R S : Type} {m : Option S} {F : S → Option R} {r : R} {fv : V} {args args' : List V} {g : S → V} {H : Heap} {k : V → Heap → Prop} (h : m.bind F = some r) (hc : ∀ x, m = some x → CallVP P fv args' (g x)) (hl : LeVs args args')
 (hk : ∀ x, F x = some r → k (g x) H) : E.call fv args H k := by
 subst hE
 obtain ⟨x, h1, h2⟩ := bind_some h
 exact CallVP.at ((hc x h1).args hl) (hk x h2)
theorem n_load {Φ : Heap → Heap → Prop} {H0 H : Heap} {L : List En} (hO : Own Φ H0 L H) (i : Nat) {id : Nat} {cs : List V} {k : List V → Prop} (hi : L[i]? = some (.blk id (.cells cs))) (hk : k cs) : E.load H id k := by
 subst hE; exact ⟨cs, hO.get i hi, hk⟩
theorem n_store {Φ : Heap → Heap → Prop} {H0 H : Heap} {L : List En} (hO : Own Φ H0 L H) (i : Nat) {id off sz : Nat} {cs vs : List V} {k : Heap → Prop} (hi : L[i]? = some (.blk id (.cells cs))) (hb : Nat.ble (off + sz) cs.length = true)
 (hk : ∀ H', Own Φ H0 (L.set i (.blk id (.cells (splice cs off vs)))) H' → k H') : E.store H id off sz vs k := by
 subst hE
 exact ⟨cs, vs, .refl _, hO.get i hi, hb, hk _ (hO.set i hi)⟩
theorem n_storeW {Φ : Heap → Heap → Prop} {H0 H : Heap} {L : List En} (hO : Own Φ H0 L H) (i : Nat) {id off sz : Nat} {cs vs vs' : List V} {k : Heap → Prop} (hi : L[i]? = some (.blk id (.cells cs))) (hb : Nat.ble (off + sz) cs.length = true) (hl : LeVs vs vs')
 (hk : ∀ H', Own Φ H0 (L.set i (.blk id (.cells (splice cs off vs')))) H' → k H') : E.store H id off sz vs k := by
 subst hE
 exact ⟨cs, vs', hl, hO.get i hi, hb, hk _ (hO.set i hi)⟩
theorem n_alloc {Φ : Heap → Heap → Prop} {H0 H : Heap} {L : List En} (hO : Own Φ H0 L H) {cs : List V} {k : Nat → Heap → Prop} (hk : ∀ id H', Own Φ H0 (.blk id (.cells cs) :: L) H' → k id H') : E.alloc H cs k := by
 subst hE; exact fun id hid => hk id _ (hO.push hid rfl)
theorem n_frz {Φ : Heap → Heap → Prop} {H0 H : Heap} {L : List En} (hO : Own Φ H0 L H) (i : Nat) {id : Nat} {cs : List V} {k : List V → Heap → Prop} (hi : L[i]? = some (.blk id (.cells cs))) (hk : ∀ H', Own Φ H0 (L.eraseIdx i) H' → k cs H') : E.frzL H id k := by
 subst hE; exact ⟨cs, cs, hO.get i hi, .refl _, hk _ (hO.del i hi)⟩
theorem n_appq {α R : Type} {f : α → V} {sz by_ : Nat} (hsz : ∀ x, (f x).cells.length = sz) (hby : by_ ≤ 131072) {xs ys : List V} {l m : List α} {k : V → Prop} {F : List α → Option R} {r : R} (hx : LeVs xs (Ar.lst f l)) (hy : LeVs ys (Ar.lst f m)) (h : (appL l m).bind F = some r)
 (hk : ∀ x, F x = some r → k (.sl (Ar.lst f x) .ro)) : E.appq sz by_ xs ys k := by
 subst hE
 obtain ⟨x, h1, h2⟩ := bind_some h
 unfold appL at h1
 split at h1
 ·rename_i hc
  cases h1
  refine ⟨_, _, hx, hy, lst_sz hsz l, lst_sz hsz m, ?_, ?_⟩
  ·rw [lst_len, lst_len]
   exact Nat.le_trans (Nat.mul_le_mul hc hby) (by decide)
  ·rw [lst_app]
   exact hk _ h2
 ·cases h1
theorem n_appn {α R : Type} {f : α → V} {sz by_ : Nat} (hsz : ∀ x, (f x).cells.length = sz) (hby : by_ ≤ 131072) {Φ : Heap → Heap → Prop} {H0 H : Heap} {L : List En} (hO : Own Φ H0 L H) (i : Nat) {tl : Tail} (hi : L[i]? = some (.tl tl)) (ha : Appn tl)
 {xs ys : List V} {l m : List α} {k : V → Heap → Prop} {F : List α → Option R} {r : R} (hx : LeVs xs (Ar.lst f l)) (hy : LeVs ys (Ar.lst f m)) (h : (appL l m).bind F = some r)
 (hk : ∀ x tl' H', Own Φ H0 (L.set i (.tl tl')) H' → Appn tl' → F x = some r → k (.sl (Ar.lst f x) tl') H') : E.appn sz by_ H tl xs ys k := by
 subst hE
 obtain ⟨x, h1, h2⟩ := bind_some h
 unfold appL at h1
 split at h1
 ·rename_i hc
  cases h1
  refine ⟨_, _, hx, hy, hO.appOk i hi ha, lst_sz hsz l, lst_sz hsz m, ?_, fun hm => ?_, fun t ht hn => ?_⟩
  ·rw [lst_len, lst_len]
   exact Nat.le_trans (Nat.mul_le_mul hc hby) (by decide)
  ·have hm' : m = [] := by
    have := congrArg List.length hm
    rw [lst_len] at this
    exact List.eq_nil_of_length_eq_zero (by simpa using this)
   subst hm'
   have := hk _ tl H (by
    have e : L.set i (.tl tl) = L := by
     apply List.ext_getElem?
     intro j
     rw [List.getElem?_set]
     split
     ·rename_i e; subst e
      split
      ·exact hi.symm
      ·rename_i hl; rw [List.getElem?_eq_none (by omega)]
     ·rfl
    rw [e]; exact hO) ha h2
   rwa [List.append_nil] at this
  ·rw [lst_app]
   exact hk _ _ _ (hO.tok i hi hn) trivial h2
 ·cases h1
end
section
variable {P : Program} {nt : Nat} {rd : Option Nat} {T : Tbl} {E : Env}
abbrev POk (P : Program) (T : Tbl) : Prop := TOk P T ∧ P.follows .mixedOrders = true
theorem n_join (cf : Cf) (hE : E = real P nt rd) (hP : POk P T) {c : Code} {st : St} {H : Heap} {K : Exit → St → Heap → Prop} (X : Exit → Fl → Heap → Prop) (hd : drawsOk cf c = true)
 (h : runJ E T nt cf c st H fun e st' H' => ∃ l, X e l H' ∧ LeL st'.l l ∧ st'.df = st.df) (after : ∀ e l H', X e l H' → K e ⟨l, st.df⟩ H') : E.sim c st H K := by
 subst hE
 refine (runJ_sound hP.1 hP.2 c _ _ _ hd h).mono fun e fr2 H2 ⟨st', hle', l, h3, h1, h2⟩ => ?_
 exact ⟨⟨l, st.df⟩, ⟨fun t => (hle'.s t).trans (h1.wk t), hle'.df.trans h2⟩, after _ _ _ h3⟩
theorem n_loopN (cf : Cf) (hE : E = real P nt rd) (hP : POk P T) {σ R : Type} {step : σ → Option (σ ⊕ R)} {c : Code} {st : St} {H : Heap} {K : Exit → St → Heap → Prop} (fm : σ → Fl) (Inv : σ → Heap → Prop) (X : R → Exit → Fl → Heap → Prop) (hd : drawsOk cf c = true)
 (round : ∀ s H o, Inv s H → step s = some o → run E T nt cf c ⟨fm s, st.df⟩ H fun e st' H' => match e with
  | .normal => ∃ s', o = .inl s' ∧ LeL st'.l (fm s') ∧ st'.df = st.df ∧ Inv s' H'
  | e => ∃ x l, o = .inr x ∧ X x e l H' ∧ LeL st'.l l ∧ st'.df = st.df)
 {N : Nat} {s0 : σ} {r : R} (h : loopN step N s0 = some r) (hf : LeL st.l (fm s0)) (hI : Inv s0 H) (after : ∀ e l H', X r e l H' → K e ⟨l, st.df⟩ H') : E.sim (.loop c) st H K := by
 subst hE
 refine Sim.loopN (fun n fr' H' => ∃ s, loopN step n s = some r ∧ FrLe fr' ⟨fm s, st.df⟩ ∧ Inv s H') N ⟨s0, h, ⟨fun t => hf.wk t, rfl⟩, hI⟩ fun n fr' H' ⟨s, hs, hle, hi⟩ => ?_
 cases n with
 | zero => cases hs
 | succ n =>
  simp only [loopN] at hs
  cases ho : step s with
  | none => rw [ho] at hs; cases hs
  | some o =>
   rw [ho] at hs
   refine Sim.frLe hle ((run_sound hP.1 hP.2 c _ _ _ hd (round s H' o hi ho)).mono fun e fr2 H2 ⟨st', hle', hq⟩ => ?_)
   cases e with
   | normal =>
    obtain ⟨s', h1, h2, h3, h4⟩ := hq
    subst h1
    exact ⟨n, Nat.lt_succ_self n, s', hs, ⟨fun t => (hle'.s t).trans (h2.wk t), hle'.df.trans h3⟩, h4⟩
   | _ =>
    obtain ⟨x, l, h1, h4, h2, h3⟩ := hq
    subst h1
    cases hs
    exact ⟨⟨l, st.df⟩, ⟨fun t => (hle'.s t).trans (h2.wk t), hle'.df.trans h3⟩, after _ _ _ h4⟩
theorem n_loopG (cf : Cf) (hE : E = real P nt rd) (hP : POk P T) {σ γ R : Type} {step : σ → Option (σ ⊕ R)} {c : Code} {st : St} {H : Heap} {K : Exit → St → Heap → Prop} (fm : σ → γ → Fl) (Inv : σ → γ → Heap → Prop) (X : R → Exit → Fl → Heap → Prop) (hd : drawsOk cf c = true)
 (round : ∀ s g H o, Inv s g H → step s = some o → run E T nt cf c ⟨fm s g, st.df⟩ H fun e st' H' => match e with
  | .normal => ∃ s' g', o = .inl s' ∧ LeL st'.l (fm s' g') ∧ st'.df = st.df ∧ Inv s' g' H'
  | e => ∃ x l, o = .inr x ∧ X x e l H' ∧ LeL st'.l l ∧ st'.df = st.df)
 {N : Nat} {s0 : σ} (g0 : γ) {r : R} (h : loopN step N s0 = some r) (hf : LeL st.l (fm s0 g0)) (hI : Inv s0 g0 H) (after : ∀ e l H', X r e l H' → K e ⟨l, st.df⟩ H') : E.sim (.loop c) st H K := by
 subst hE
 refine Sim.loopN (fun n fr' H' => ∃ s g, loopN step n s = some r ∧ FrLe fr' ⟨fm s g, st.df⟩ ∧ Inv s g H') N ⟨s0, g0, h, ⟨fun t => hf.wk t, rfl⟩, hI⟩ fun n fr' H' ⟨s, g, hs, hle, hi⟩ => ?_
 cases n with
 | zero => cases hs
 | succ n =>
  simp only [loopN] at hs
  cases ho : step s with
  | none => rw [ho] at hs; cases hs
  | some o =>
   rw [ho] at hs
   refine Sim.frLe hle ((run_sound hP.1 hP.2 c _ _ _ hd (round s g H' o hi ho)).mono fun e fr2 H2 ⟨st', hle', hq⟩ => ?_)
   cases e with
   | normal =>
    obtain ⟨s', g', h1, h2, h3, h4⟩ := hq
    subst h1
    exact ⟨n, Nat.lt_succ_self n, s', g', hs, ⟨fun t => (hle'.s t).trans (h2.wk t), hle'.df.trans h3⟩, h4⟩
   | _ =>
    obtain ⟨x, l, h1, h4, h2, h3⟩ := hq
    subst h1
    cases hs
    exact ⟨⟨l, st.df⟩, ⟨fun t => (hle'.s t).trans (h2.wk t), hle'.df.trans h3⟩, after _ _ _ h4⟩
theorem callP_of_spec {f : FuncId} {fn : Func} {c : Code} {n : Nat} {rs : List ResultVar} {args : List V} {r : V} (cf : Cf) (hP : POk P T) (hf : P.funcs[f]? = some fn) (hb : fn.body = some c) (hd : drawsOk cf c = true)
 (hcall : ∀ vals w, (callFunc f vals).run P w = .ok (.enter f vals) w) (hnt : fn.ntmps = n) (hrs : fn.results.toList = rs) (hn : Nat.ble args.length n = true)
 (h : ∀ (E : Env) (H : Heap) (K : V → Heap → Prop), E = real P n none → (∀ x L H', Own Eq H L H' → LeV x r → K x H') → run E T n cf c ⟨entryL args 0, []⟩ H (finX E T rs K)) : CallP P f args r := fun H => by
 refine (callA_of_run (K := fun x H' => ∃ y H2, LeV x y ∧ HLe H2 H' ∧ y = r ∧ H2 = H) cf hP.1 hP.2 hf hb hd hcall hnt hrs hn fun E hE => ?_).le
 exact h E H _ hE fun x L H' hO hx => ⟨r, H, hx, hO.ext, rfl, rfl⟩
end
end Go.Ab

