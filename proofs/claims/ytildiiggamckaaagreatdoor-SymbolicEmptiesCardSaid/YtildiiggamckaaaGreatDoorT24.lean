/- AbB2 AbB3 -/
import Derived.Test.YtildiiggamckaaaGreatDoorT23
set_option linter.all false
namespace Go.Ab
open Go.RowKit
variable [G5] [Ar]
def Cx (l : Fl) : Fl → Prop
 | [] => True
 | (k, s) :: r => Y4 (Y3 l k) s.V ∧ (∀ j w x, s ≠ .g j w x) ∧ Cx l r
theorem Cx.wk {l : Fl} : ∀ {r : Fl}, Cx l r → ∀ t, Wk (Y3 l t) (Y3 r t)
 | [], _, t => Wk.bad _
 | (k, s) :: r, h, t => by
  simp only [Y3]
  cases hb : Nat.beq t k with
  | true =>
   have := Nat.eq_of_beq_eq_true hb; subst this
   cases s with
   | v x => exact h.1.wk
   | b c => exact h.1.wk
   | g j w x => exact absurd rfl (h.2.1 j w x)
  | false => exact Cx.wk h.2.2 t
theorem Cx.v {l r : Fl} {k : Nat} {x : V} (h : Y4 (Y3 l k) x) (hr : Cx l r) : Cx l ((k, .v x) :: r) := ⟨h, fun _ _ _ h => (by cases h), hr⟩
theorem Cx.b {l r : Fl} {k : Nat} {c : Bool} (h : Y3 l k = .bool c) (hr : Cx l r) : Cx l ((k, .b c) :: r) := ⟨h ▸ .refl _, fun _ _ _ h => (by cases h), hr⟩
theorem Cx.e {l r : Fl} {k : Nat} {x : V} (h : Y3 l k = x) (hr : Cx l r) : Cx l ((k, .v x) :: r) := ⟨h ▸ .refl _, fun _ _ _ h => (by cases h), hr⟩
theorem Cx.z {l : Fl} : Cx l [] := trivial
theorem Wk.trans {x y z : V} (h : Wk x y) (k : Wk y z) : Wk x z := fun g w v hv => k g w v (h g w v hv)
theorem Bv.le {fr : Fr} {l l' : Fl} {df : List Nat} (h : Bv fr ⟨l, df⟩) (k : Cx l l') : Bv fr ⟨l', df⟩ := ⟨fun t => (h.s t).trans (k.wk t), h.df⟩
theorem B3 {α : Type} {f : α → V} : ([] : List V) = Ar.lst f [] := by rw [Ar.lst_eq]; rfl
theorem C7 {α : Type} {f : α → V} {v : V} {vs : List V} {x : α} {l : List α} (h : v = f x) (k : vs = Ar.lst f l) : v :: vs = Ar.lst f (x :: l) := by
 rw [h, k, Ar.lst_eq, Ar.lst_eq]; rfl
theorem Hk {α : Type} {f : α → V} (l m : List α) : Ar.lst f l ++ Ar.lst f m = Ar.lst f (l ++ m) := by simp [Ar.lst_eq]
theorem I0 {α : Type} {f : α → V} (l : List α) : (Ar.lst f l).length = l.length := by simp [Ar.lst_eq]
theorem JR {α : Type} {f : α → V} {sz : Nat} (h : ∀ x, (f x).cells.length = sz) (l : List α) : (Ar.lst f l).all (fun x => x.cells.length == sz) = true := by
 rw [Ar.lst_eq]; simp [h]
theorem G4.lst0 {α : Type} {f : α → V} : G4 [] (Ar.lst f []) := by rw [← B3]; exact .nil
theorem G4.lstc {α : Type} {f : α → V} {v : V} {vs : List V} {x : α} {l : List α} (h : Y4 v (f x)) (k : G4 vs (Ar.lst f l)) : G4 (v :: vs) (Ar.lst f (x :: l)) := by
 rw [← C7 rfl rfl]; exact .cons h k
theorem Y4.eq {v x y : V} (h : y = x) (k : Y4 v x) : Y4 v y := h ▸ k
theorem Y4.lit {xs ys : List V} (t : D6) (h : xs = ys) : Y4 (.sl xs t) (.sl ys .ro) := h ▸ .ro _ _
section
variable {P : Program} {nt : Nat} {rd : Option Nat} {T : Dm} {E : CM}
variable (hE : E = E6 P nt rd)
include hE
theorem A6 {R : Type} {c : Bool} {x y : Unit → Prop} {a b : Option R} {r : R} (h : (if c = true then a else b) = some r) (h1 : c = true → a = some r → x ()) (h2 : c = false → b = some r → y ()) : E.br c x y := by
 subst hE;refine ⟨fun hc => ?_, fun hc => ?_⟩
 ·rw [if_pos hc] at h; exact h1 hc h
 rw [if_neg (by rw [hc]; simp)] at h; exact h2 hc h
theorem Ix {c : Bool} {x y : Unit → Prop} (h1 : c = true → x ()) (h2 : c = false → y ()) : E.br c x y := by subst hE; exact ⟨h1, h2⟩
theorem CX {p : Prop} {k : Unit → Prop} (h : p) (hk : k ()) : E.need p k := by subst hE; exact ⟨h, hk⟩
theorem Hg {R : Type} {b : Bool} {k : Unit → Prop} {F : Unit → Option R} {r : R} (h : (Bx b).bind F = some r) (hk : F () = some r → k ()) : E.needB b k := by
 subst hE;obtain ⟨x, h1, h2⟩ := bind_some h
 unfold Bx at h1
 split at h1
 ·rename_i hb; exact ⟨hb, hk h2⟩
 cases h1
theorem FW {b : Bool} {k : Unit → Prop} (hb : b = true) (hk : k ()) : E.needB b k := by subst hE; exact ⟨hb, hk⟩
theorem Ek {op : BinOp} {a b : Int} (h : Dk op a b = true) : Ar.cmp op a b = true := by rw [Ar.cmp_eq]; exact h
theorem D5 {α : Type} {f : α → V} {l : List α} {k : Int → Prop} (h : k (Ar.len l)) : E.ln (Ar.lst f l) k := by
 subst hE
 show k _
 rw [I0, ← Ar.len_eq]; exact h
theorem Xo {xs : List V} {k : Int → Prop} {n : Int} (hn : (xs.length : Int) = n) (h : k n) : E.ln xs k := by
 subst hE; subst hn; exact h
theorem C2 {α R : Type} {f g : α → V} (hf : ∀ x, f x = g x) {l : List α} {i : Int} {k : V → Prop} {F : α → Option R} {r : R} (h : (C3 l i).bind F = some r) (hk : ∀ x, F x = some r → k (g x)) : E.idx (Ar.lst f l) i k := by
 subst hE;obtain ⟨x, h1, h2⟩ := bind_some h
 unfold C3 at h1
 split at h1
 ·rename_i h0
  have hlt : i.toNat < l.length := by
   rcases Nat.lt_or_ge i.toNat l.length with h' | h'
   ·exact h'
   rw [List.getElem?_eq_none h'] at h1; cases h1
  refine ⟨⟨h0, by rw [I0]; omega⟩, ?_⟩;rw [Ar.lst_eq, List.getD_eq_getElem?_getD, List.getElem?_map, h1];simp only [Option.map_some, Option.getD_some];rw [hf]; exact hk x h2
 cases h1
theorem Qx {α R : Type} {f : α → V} {sz : Nat} (hsz : ∀ x, (f x).cells.length = sz) {l : List α} {tl : D6} {lo hi mx : Option Int} {k : V → Prop} {F : List α → Option R} {r : R} (h : (Bb l lo hi mx).bind F = some r)
 (hk : ∀ x t, F x = some r → k (.sl (Ar.lst f x) t)) : E.slice sz (Ar.lst f l) tl lo hi mx k := by
 subst hE;obtain ⟨x, h1, h2⟩ := bind_some h
 unfold Bb at h1
 split at h1
 ·rename_i hc;obtain ⟨c1, c2, c3, c4, c5⟩ := hc;cases h1;refine ⟨?_, ?_⟩
  ·rw [I0];exact ⟨c1, c2, c3, c4, c5, .inr (JR hsz l)⟩
  rw [I0, Ar.lst_eq, ← List.map_drop, ← List.map_take];have := hk _ (EN (lo.getD 0).toNat (hi.getD l.length).toNat l.length mx tl) h2
  rwa [Ar.lst_eq] at this
 cases h1
theorem A7 {R S : Type} {m : Option S} {F : S → Option R} {r : R} {f : FuncId} {args args' : List V} {g : S → V} {H : A0} {k : V → A0 → Prop} (h : m.bind F = some r) (hc : ∀ x, m = some x → B6 P f args' (g x)) (hl : G4 args args')
 (hk : ∀ x, F x = some r → k (g x) H) : E.call (.func (.func f) [] []) args H k := by
 subst hE;obtain ⟨x, h1, h2⟩ := bind_some h
 exact R4.at (B6.value (F := []) (C := []) (by simpa using (hc x h1).args hl)) (hk x h2)
theorem P2 {R S : Type} {m : Option S} {F : S → Option R} {r : R} {f : FuncId} {args args' : List V} {g : S → V} {H : A0} {k : V → Prop} (h : m.bind F = some r) (hc : ∀ x, m = some x → B6 P f args' (g x)) (hl : G4 args args')
 (hk : ∀ x, F x = some r → k (g x)) : E.pcall H (.func (.func f) [] []) args k := by
 subst hE;obtain ⟨x, h1, h2⟩ := bind_some h;exact ⟨g x, (B6.value (F := []) (C := []) (by simpa using (hc x h1).args hl)).toH H, hk x h2⟩
theorem AI {R S : Type} {m : Option S} {F : S → Option R} {r : R} {fv : V} {args args' : List V} {g : S → V} {H : A0} {k : V → A0 → Prop} (h : m.bind F = some r) (hc : ∀ x, m = some x → R4 P fv args' (g x)) (hl : G4 args args')
 (hk : ∀ x, F x = some r → k (g x) H) : E.call fv args H k := by
 subst hE;obtain ⟨x, h1, h2⟩ := bind_some h
 exact R4.at ((hc x h1).args hl) (hk x h2)
theorem B1 {Φ : A0 → A0 → Prop} {H0 H : A0} {L : List En} (hO : B4 Φ H0 L H) (i : Nat) {id : Nat} {cs : List V} {k : List V → Prop} (hi : L[i]? = some (.blk id (.cells cs))) (hk : k cs) : E.load H id k := by
 subst hE; exact ⟨cs, hO.get i hi, hk⟩
theorem A8 {Φ : A0 → A0 → Prop} {H0 H : A0} {L : List En} (hO : B4 Φ H0 L H) (i : Nat) {id off sz : Nat} {cs vs : List V} {k : A0 → Prop} (hi : L[i]? = some (.blk id (.cells cs))) (hb : Nat.ble (off + sz) cs.length = true)
 (hk : ∀ H', B4 Φ H0 (L.set i (.blk id (.cells (K9 cs off vs)))) H' → k H') : E.store H id off sz vs k := by
 subst hE;exact ⟨cs, vs, .refl _, hO.get i hi, hb, hk _ (hO.set i hi)⟩
theorem NR {Φ : A0 → A0 → Prop} {H0 H : A0} {L : List En} (hO : B4 Φ H0 L H) (i : Nat) {id off sz : Nat} {cs vs : List V} {k : A0 → Prop} (hi : L[i]? = some (.blk id (.cells cs))) (hb : Nat.ble (off + sz) cs.length = true)
 (hk : ∀ H', B4 Φ H0 (L.set i (.blk id (.cells (K9 cs off vs)))) H' → k H') : E.storeP H id off sz vs k := by
 subst hE;exact ⟨cs, hO.get i hi, hb, hk _ (hO.set i hi)⟩
theorem C8 {Φ : A0 → A0 → Prop} {H0 H : A0} {L : List En} (hO : B4 Φ H0 L H) {cs : List V} {k : Nat → A0 → Prop} (hk : ∀ id H', B4 Φ H0 (.blk id (.cells cs) :: L) H' → k id H') : E.alloc H cs k := by
 subst hE; exact fun id hid => hk id _ (hO.push hid rfl)
theorem Wa {Φ : A0 → A0 → Prop} {H0 H : A0} {L : List En} (hO : B4 Φ H0 L H) (i : Nat) {id : Nat} {cs : List V} {k : List V → A0 → Prop} (hi : L[i]? = some (.blk id (.cells cs))) (hk : ∀ H', B4 Φ H0 (L.eraseIdx i) H' → k cs H') : E.frzL H id k := by
 subst hE; exact ⟨cs, cs, hO.get i hi, .refl _, hk _ (hO.del i hi)⟩
theorem JM {Φ : A0 → A0 → Prop} {H0 H : A0} {L : List En} (hO : B4 Φ H0 L H) (i : Nat) {id : Nat} {cs : List V} {k : List V → A0 → Prop} (hi : L[i]? = some (.blk id (.cells cs)))
 (hk : ∀ H', H' = upd H id none → B4 Φ H0 (L.eraseIdx i) H' → k cs H') : E.frz H id k := by
 subst hE; exact ⟨cs, hO.get i hi, hk _ rfl (hO.del i hi)⟩
theorem JP {Φ : A0 → A0 → Prop} {H0 H H1 : A0} {L : List En} (hO : B4 Φ H0 L H) (i : Nat) {id : Nat} {cs cs' : List V} {k : A0 → Prop} (hi : L[i]? = some (.blk id (.cells cs))) (he : H1 = upd H id none)
 (hk : ∀ H', B4 Φ H0 (L.set i (.blk id (.cells cs'))) H' → k H') : E.give H1 id cs' k := by
 subst hE; subst he;refine hk _ ?_
 have e : upd (upd H id none) id (some (.cells cs')) = upd H id (some (.cells cs')) := by
  funext x; by_cases hx : x = id
  ·subst hx; rw [A9, A9]
  rw [A3 _ _ hx, A3 _ _ hx, A3 _ _ hx]
 rw [e];exact hO.set i hi
theorem Ts {α R : Type} {g : α → V} {cs : List V} {off sz n : Nat} {l : List α} {i : Int} {k : V → Prop} {F : α → Option R} {r : R} (hcs : cs = l.flatMap fun x => (g x).cells) (hsz : ∀ x, (g x).cells.length = sz) (hn : l.length = n) (ho : off = 0)
 (h : (C3 l i).bind F = some r) (hk : ∀ x, F x = some r → k (.eref (g x).cells 0)) : E.elem cs off sz n i k := by
 subst hE; subst ho;obtain ⟨x, h1, h2⟩ := bind_some h
 unfold C3 at h1
 split at h1
 ·rename_i h0
  have key : ∀ (l : List α) (m : Nat) (x : α), l[m]? = some x → (((l.flatMap fun x => (g x).cells).drop (m * sz)).take sz) = (g x).cells ∧ m < l.length ∧ (l.flatMap fun x => (g x).cells).length = l.length * sz := by
   intro l
   induction l with
   | nil => intro m x h; simp at h
   | cons y l ih =>
    intro m x h
    have hlen : ∀ l : List α, (l.flatMap fun x => (g x).cells).length = l.length * sz := by
     intro l
     induction l with
     | nil => simp
     | cons z l ih => simp only [List.flatMap_cons, List.length_append, hsz, ih, List.length_cons, Nat.add_mul, Nat.one_mul]; omega
    refine ⟨?_, ?_, hlen _⟩
    ·cases m with
     | zero =>
      simp at h; subst h
      simp only [List.flatMap_cons, Nat.zero_mul, List.drop_zero];rw [List.take_append_of_le_length (by rw [hsz]; exact Nat.le_refl _), List.take_of_length_le (by rw [hsz]; exact Nat.le_refl _)]
     | succ m =>
      have := (ih m x (by simpa using h)).1;rw [List.flatMap_cons, show (m + 1) * sz = (g y).cells.length + m * sz by rw [hsz, Nat.add_mul, Nat.one_mul]; omega, List.drop_append, ];rw [List.drop_eq_nil_of_le (by omega), List.nil_append, show (g y).cells.length + m * sz - (g y).cells.length = m * sz by omega];exact this
    rcases Nat.lt_or_ge m (y :: l).length with h' | h'
    ·exact h'
    rw [List.getElem?_eq_none h'] at h; cases h
  obtain ⟨k1, k2, k3⟩ := key l i.toNat x h1;refine ⟨⟨h0, by omega, by rw [hcs, k3, hn]; omega⟩, ?_⟩;rw [hcs, Nat.zero_add, k1];exact hk x h2
 cases h1
theorem V9 {α R : Type} {f : α → V} {sz by_ : Nat} (hsz : ∀ x, (f x).cells.length = sz) (hby : by_ ≤ 131072) {Φ : A0 → A0 → Prop} {H0 H : A0} {L : List En} (hO : B4 Φ H0 L H) (i : Nat) {tl : D6} (hi : L[i]? = some (.tl tl)) (ha : N2 tl)
 {xs ys : List V} {l m : List α} {k : V → A0 → Prop} {F : List α → Option R} {r : R} (hx : G4 xs (Ar.lst f l)) (hy : G4 ys (Ar.lst f m)) (h : (Q2 l m).bind F = some r)
 (hk : ∀ x tl' H', B4 Φ H0 (L.set i (.tl tl')) H' → N2 tl' → F x = some r → k (.sl (Ar.lst f x) tl') H') : E.appn sz by_ H tl xs ys k := by
 subst hE;obtain ⟨x, h1, h2⟩ := bind_some h
 unfold Q2 at h1
 split at h1
 ·rename_i hc;cases h1;refine ⟨_, _, hx, hy, hO.appOk i hi ha, JR hsz l, JR hsz m, ?_, fun hm => ?_, fun t ht hn => ?_⟩
  ·rw [I0, I0];exact Nat.le_trans (Nat.mul_le_mul hc hby) (by decide)
  ·have hm' : m = [] := by
    have := congrArg List.length hm
    rw [I0] at this
    exact List.eq_nil_of_length_eq_zero (by simpa using this)
   subst hm'
   have := hk _ tl H (by
    have e : L.set i (.tl tl) = L := by
     apply List.ext_getElem?;intro j;rw [List.getElem?_set]
     split
     ·rename_i e; subst e
      split
      ·exact hi.symm
      rename_i hl; rw [List.getElem?_eq_none (by omega)]
     rfl
    rw [e]; exact hO) ha h2
   rwa [List.append_nil] at this
  rw [Hk];exact hk _ _ _ (hO.tok i hi hn) trivial h2
 cases h1
end
section
variable {P : Program} {nt : Nat} {rd : Option Nat} {T : Dm} {E : CM}
abbrev KE (P : Program) (T : Dm) : Prop := EX P T ∧ P.follows .mixedOrders = true
theorem J8 (cf : Cf) (hE : E = E6 P nt rd) (hP : KE P T) {c : Code} {st : St} {H : A0} {K : Exit → St → A0 → Prop} (X : Exit → Fl → A0 → Prop) (hd : E9 cf c = true)
 (h : SU E T nt cf c st H fun e st' H' => ∃ l, X e l H' ∧ Cx st'.l l ∧ st'.df = st.df) (after : ∀ e l H', X e l H' → K e ⟨l, st.df⟩ H') : E.sim c st H K := by
 subst hE;refine (Ps hP.1 hP.2 c _ _ _ hd h).mono fun e fr2 H2 ⟨st', hle', l, h3, h1, h2⟩ => ?_;exact ⟨⟨l, st.df⟩, ⟨fun t => (hle'.s t).trans (h1.wk t), hle'.df.trans h2⟩, after _ _ _ h3⟩
theorem F3 (cf : Cf) (hE : E = E6 P nt rd) (hP : KE P T) {σ R : Type} {step : σ → Option (σ ⊕ R)} {c : Code} {st : St} {H : A0} {K : Exit → St → A0 → Prop} (fm : σ → Fl) (Inv : σ → A0 → Prop) (X : R → Exit → Fl → A0 → Prop) (hd : E9 cf c = true)
 (round : ∀ s H o, Inv s H → step s = some o → run E T nt cf c ⟨fm s, st.df⟩ H fun e st' H' => match e with
  | .normal => ∃ s', o = .inl s' ∧ Cx st'.l (fm s') ∧ st'.df = st.df ∧ Inv s' H'
  | e => ∃ x l, o = .inr x ∧ X x e l H' ∧ Cx st'.l l ∧ st'.df = st.df)
 {N : Nat} {s0 : σ} {r : R} (h : loopN step N s0 = some r) (hf : Cx st.l (fm s0)) (hI : Inv s0 H) (after : ∀ e l H', X r e l H' → K e ⟨l, st.df⟩ H') : E.sim (.loop c) st H K := by
 subst hE;refine N9.loopN (fun n fr' H' => ∃ s, loopN step n s = some r ∧ Bv fr' ⟨fm s, st.df⟩ ∧ Inv s H') N ⟨s0, h, ⟨fun t => hf.wk t, rfl⟩, hI⟩ fun n fr' H' ⟨s, hs, hle, hi⟩ => ?_
 cases n with
 | zero => cases hs
 | succ n =>
  simp only [loopN] at hs
  cases ho : step s with
  | none => rw [ho] at hs; cases hs
  | some o =>
   rw [ho] at hs
   refine N9.frLe hle ((G1 hP.1 hP.2 c _ _ _ hd (round s H' o hi ho)).mono fun e fr2 H2 ⟨st', hle', hq⟩ => ?_)
   cases e with
   | normal =>
    obtain ⟨s', h1, h2, h3, h4⟩ := hq;subst h1;exact ⟨n, Nat.lt_succ_self n, s', hs, ⟨fun t => (hle'.s t).trans (h2.wk t), hle'.df.trans h3⟩, h4⟩
   | _ =>
    obtain ⟨x, l, h1, h4, h2, h3⟩ := hq;subst h1;cases hs;exact ⟨⟨l, st.df⟩, ⟨fun t => (hle'.s t).trans (h2.wk t), hle'.df.trans h3⟩, after _ _ _ h4⟩
theorem I6 (cf : Cf) (hE : E = E6 P nt rd) (hP : KE P T) {σ γ R : Type} {step : σ → Option (σ ⊕ R)} {c : Code} {st : St} {H : A0} {K : Exit → St → A0 → Prop} (fm : σ → γ → Fl) (Inv : σ → γ → A0 → Prop) (X : R → Exit → Fl → A0 → Prop) (hd : E9 cf c = true)
 (round : ∀ s g H o, Inv s g H → step s = some o → run E T nt cf c ⟨fm s g, st.df⟩ H fun e st' H' => match e with
  | .normal => ∃ s' g', o = .inl s' ∧ Cx st'.l (fm s' g') ∧ st'.df = st.df ∧ Inv s' g' H'
  | e => ∃ x l, o = .inr x ∧ X x e l H' ∧ Cx st'.l l ∧ st'.df = st.df)
 {N : Nat} {s0 : σ} (g0 : γ) {r : R} (h : loopN step N s0 = some r) (hf : Cx st.l (fm s0 g0)) (hI : Inv s0 g0 H) (after : ∀ e l H', X r e l H' → K e ⟨l, st.df⟩ H') : E.sim (.loop c) st H K := by
 subst hE;refine N9.loopN (fun n fr' H' => ∃ s g, loopN step n s = some r ∧ Bv fr' ⟨fm s g, st.df⟩ ∧ Inv s g H') N ⟨s0, g0, h, ⟨fun t => hf.wk t, rfl⟩, hI⟩ fun n fr' H' ⟨s, g, hs, hle, hi⟩ => ?_
 cases n with
 | zero => cases hs
 | succ n =>
  simp only [loopN] at hs
  cases ho : step s with
  | none => rw [ho] at hs; cases hs
  | some o =>
   rw [ho] at hs
   refine N9.frLe hle ((G1 hP.1 hP.2 c _ _ _ hd (round s g H' o hi ho)).mono fun e fr2 H2 ⟨st', hle', hq⟩ => ?_)
   cases e with
   | normal =>
    obtain ⟨s', g', h1, h2, h3, h4⟩ := hq;subst h1;exact ⟨n, Nat.lt_succ_self n, s', g', hs, ⟨fun t => (hle'.s t).trans (h2.wk t), hle'.df.trans h3⟩, h4⟩
   | _ =>
    obtain ⟨x, l, h1, h4, h2, h3⟩ := hq;subst h1;cases hs;exact ⟨⟨l, st.df⟩, ⟨fun t => (hle'.s t).trans (h2.wk t), hle'.df.trans h3⟩, after _ _ _ h4⟩
theorem KV {f : FuncId} {fn : Func} {c : Code} {n : Nat} {rs : List ResultVar} {args : List V} {r : V} (cf : Cf) (hP : KE P T) (hf : P.funcs[f]? = some fn) (hb : fn.body = some c) (hd : E9 cf c = true)
 (hcall : ∀ vals w, (callFunc f vals).run P w = .ok (.enter f vals) w) (hnt : fn.ntmps = n) (hrs : fn.results.toList = rs) (hn : Nat.ble args.length n = true)
 (h : ∀ (E : CM) (H : A0) (K : V → A0 → Prop), E = E6 P n none → (∀ x L H', B4 Eq H L H' → Y4 x r → K x H') → run E T n cf c ⟨Z7 args 0, []⟩ H (Ib E T rs K)) : B6 P f args r := fun H => by
 refine (N8 (K := fun x H' => ∃ y H2, Y4 x y ∧ Dj H2 H' ∧ y = r ∧ H2 = H) cf hP.1 hP.2 hf hb hd hcall hnt hrs hn fun E hE => ?_).le;exact h E H _ hE fun x L H' hO hx => ⟨r, H, hx, hO.ext, rfl, rfl⟩
end
end Go.Ab
namespace Go.Ab
open Go.RowKit
variable [G5] [Ar]
abbrev DB : Au := .obj (.deferred (some []))
section
variable {P : Program} {nt : Nat} {rd : Option Nat} {T : Dm} {E : CM}
theorem Ax (hE : E = E6 P nt rd) {Φ : A0 → A0 → Prop} {H0 H : A0} {L : List En} (hO : B4 Φ H0 L H) (i : Nat) {d : Nat} {k : A0 → Prop} (hi : L[i]? = some (.blk d DB)) (hk : ∀ H', B4 Φ H0 (L.eraseIdx i) H' → k H') : E.fin [d] H k := by
 subst hE;have hd := hO.get i hi;refine ⟨⟨by simp, fun id hid => ?_⟩, ?_⟩
 ·simp at hid; subst hid; exact hd
 have e : clear H [d] = upd H d none := by
  funext x; simp only [clear, upd, List.mem_singleton]
 rw [e]; exact hk _ (hO.del i hi)
def CA (P : Program) (f : FuncId) (args : List V) (Q : V → Prop) : Prop := ∀ H, E7 P f args H fun x H' => Q x ∧ H' = H
theorem CA.args {f : FuncId} {xs ys : List V} {Q : V → Prop} (h : CA P f ys Q) (k : G4 xs ys) : CA P f xs Q := fun H => (h H).args k
theorem B6.q {f : FuncId} {args : List V} {r : V} {Q : V → Prop} (h : B6 P f args r) (hq : Q r) : CA P f args Q := fun H => (h H).mono fun x H' ⟨e1, e2⟩ => ⟨e1 ▸ hq, e2⟩
theorem Q0 (hE : E = E6 P nt rd) {R S : Type} {m : Option S} {F : S → Option R} {r : R} {f : FuncId} {args args' : List V} {Q : S → V → Prop} {H : A0} {k : V → A0 → Prop} (h : m.bind F = some r) (hc : ∀ x, m = some x → CA P f args' (Q x)) (hl : G4 args args')
 (hk : ∀ x v, Q x v → F x = some r → k v H) : E.call (.func (.func f) [] []) args H k := by
 subst hE;obtain ⟨x, h1, h2⟩ := bind_some h
 have h3 : E7 P f args H k := ((hc x h1).args hl H).mono fun v H' ⟨hq, hH⟩ => by subst hH; exact hk x v hq h2
 exact E7.value (F := []) (C := []) (by simpa using h3)
theorem N7 {f : FuncId} {fn : Func} {c : Code} {n : Nat} {rs : List ResultVar} {args : List V} {Q : V → Prop} (cf : Cf) (hP : KE P T) (hf : P.funcs[f]? = some fn) (hb : fn.body = some c) (hd : E9 cf c = true)
 (hcall : ∀ vals w, (callFunc f vals).run P w = .ok (.enter f vals) w) (hnt : fn.ntmps = n) (hrs : fn.results.toList = rs) (hn : Nat.ble args.length n = true)
 (h : ∀ (E : CM) (H : A0) (K : V → A0 → Prop), E = E6 P n none → (∀ x L H', B4 Eq H L H' → Q x → K x H') → run E T n cf c ⟨Z7 args 0, []⟩ H (Ib E T rs K)) : CA P f args Q := fun H => by
 refine (N8 (K := fun x H' => ∃ y H2, Y4 x y ∧ Dj H2 H' ∧ Q y ∧ H2 = H) cf hP.1 hP.2 hf hb hd hcall hnt hrs hn fun E hE => ?_).le;exact h E H _ hE fun x L H' hO hx => ⟨x, H, .refl _, hO.ext, hx, rfl⟩
def NJ : List Nat → List V → Fl → Fl
 | p :: ps, x :: xs, l => NJ ps xs ((p, .v x) :: l)
 | _, _, l => l
theorem Mv : ∀ (ps : List Nat) (xs : List V) (l : Fl) (t : Nat), CS (fun t => Y3 l t) ps xs t = Y3 (NJ ps xs l) t
 | [], xs, l, t => by cases xs <;> rfl
 | p :: ps, [], l, t => rfl
 | p :: ps, x :: xs, l, t => by
  simp only [CS, NJ];rw [← Mv ps xs]
  congr 1
  funext q
  rw [QH]; rfl
def TE : Exit → Option Code
 | .ret => some .ret
 | .exit k => some (.exit k)
 | _ => none
variable {α σ R ι : Type}
def RgI (enc : α → List V) (step : σ → α → Option (σ ⊕ R)) (o : σ ⊕ R) (Inv : σ → A0 → A0 → Prop) (l : List (List V)) (F H : A0) : Prop :=
 ∃ q : σ × List α, (l = q.2.map enc ∧ F2 step q.2 q.1 = some o) ∧ Inv q.1 F H
def RgD (o : σ ⊕ R) (X : R → Exit → A0 → A0 → Prop) (c : Code) (F H : A0) : Prop := ∃ q : R × Exit, (o = .inr q.1 ∧ TE q.2 = some c) ∧ X q.1 q.2 F H
def RgJ (enc : α → List V) (step : σ → α → Option (σ ⊕ R)) (o : σ ⊕ R) (fJ : ι → σ → α → Fl) (J : ι → σ → α → A0 → A0 → Prop) (x : List V) (l : List (List V)) (fr : Fr) (F H : A0) : Prop :=
 ∃ q : ι × σ × α × List α, (x = enc q.2.2.1 ∧ l = q.2.2.2.map enc ∧ F2 step (q.2.2.1 :: q.2.2.2) q.2.1 = some o ∧ Bv fr ⟨fJ q.1 q.2.1 q.2.2.1, []⟩) ∧ J q.1 q.2.1 q.2.2.1 F H
section
variable {enc : α → List V} {step : σ → α → Option (σ ⊕ R)} {g : Operand} {ps : Array Tmp} {asg body : Code} {st : St} {H : A0} {K : Exit → St → A0 → Prop}
 {xs : List α} {s0 : σ} {o : σ ⊕ R}
theorem RC (cf : Cf) (hP : KE P T) {Inv : σ → A0 → A0 → Prop} {fJ : ι → σ → α → Fl} {J : ι → σ → α → A0 → A0 → Prop} (hda : E9 cf asg = true)
 (asgP : ∀ (E' : CM) (id : Nat) y s F H, E' = E6 P nt (some id) → Inv s F H → run E' T nt cf asg ⟨NJ ps.toList (enc y) st.l, []⟩ H fun e st' H' => match e with | .normal => ∃ i, J i s y F H' ∧ Cx st'.l (fJ i s y) ∧ st'.df = [] | _ => False) :
 ∀ (id : Nat) (L : VL) x l F H, RgI enc step o Inv (x :: l) F H → F id = some (.loop L) → x.length = ps.size → N9 P nt (some id) asg ⟨CS (D9 st).s ps.toList x, []⟩ H fun e fr' H1 => e = .normal ∧ RgJ enc step o fJ J x l fr' F H1 := by
 intro id L x l F H ⟨⟨s, ys⟩, ⟨hl, hr⟩, hi⟩ _ _
 cases ys with
 | nil => cases hl
 | cons y ys =>
  simp only [List.map_cons, List.cons.injEq] at hl
  obtain ⟨rfl, rfl⟩ := hl
  have e : (⟨CS (D9 st).s ps.toList (enc y), []⟩ : Fr) = D9 ⟨NJ ps.toList (enc y) st.l, []⟩ := by
   simp only [D9, Fr.mk.injEq, and_true]
   funext t
   exact Mv _ _ _ _
  rw [e];refine (G1 hP.1 hP.2 asg _ _ _ hda (asgP _ id y s F H rfl hi)).mono fun e fr' H1 ⟨st', hle, hq⟩ => ?_
  cases e with
  | normal =>
   obtain ⟨i, hj, hl, hdf⟩ := hq;exact ⟨rfl, ⟨i, s, y, ys⟩, ⟨rfl, rfl, hr, fun t => (hle.s t).trans (hl.wk t), hle.df.trans hdf⟩, hj⟩
  | _ => exact hq.elim
theorem SV (cf : Cf) (hP : KE P T) {Inv : σ → A0 → A0 → Prop} {X : R → Exit → A0 → A0 → Prop} {fJ : ι → σ → α → Fl} {J : ι → σ → α → A0 → A0 → Prop} (hdb : E9 cf body = true)
 (bodyP : ∀ (E' : CM) (id : Nat) i y s F H o', E' = E6 P nt (some id) → (∃ L, F id = some (.loop L)) → step s y = some o' → J i s y F H → run E' T nt cf body ⟨fJ i s y, []⟩ H fun e _ H' => match e with
  | .normal => ∃ s', o' = .inl s' ∧ Inv s' F H'
  | e => ∃ r, o' = .inr r ∧ (TE e).isSome = true ∧ X r e F H') :
 ∀ (id : Nat) (L : VL) x l fr' F H, RgJ enc step o fJ J x l fr' F H → F id = some (.loop L) → N9 P nt (some id) body fr' H fun e _ H' => Ol (RgI enc step o Inv l) (RgD o X) F e H' := by
 intro id L x l fr' F H ⟨⟨i, s, y, ys⟩, ⟨hx, hl, hr, hf⟩, hj⟩ hL;subst hx; subst hl
 simp only [F2] at hr
 cases ho : step s y with
 | none => rw [ho] at hr; cases hr
 | some o' =>
  rw [ho] at hr
  refine N9.frLe hf ((G1 hP.1 hP.2 body _ _ _ hdb (bodyP _ id i y s F H o' rfl ⟨L, hL⟩ ho hj)).mono fun e fr2 H2 ⟨st', hle, hq⟩ => ?_)
  cases e with
  | normal =>
   obtain ⟨s', h1, h2⟩ := hq;subst h1;exact ⟨⟨s', ys⟩, ⟨rfl, hr⟩, h2⟩
  | ret =>
   obtain ⟨r, h1, h2, h3⟩ := hq;subst h1;exact ⟨⟨r, .ret⟩, ⟨by cases hr; rfl, rfl⟩, h3⟩
  | exit k =>
   obtain ⟨r, h1, h2, h3⟩ := hq;subst h1;exact ⟨⟨r, .exit k⟩, ⟨by cases hr; rfl, rfl⟩, h3⟩
  | _ =>
   obtain ⟨r, h1, h2, h3⟩ := hq;cases h2
theorem AG (cf : Cf) (hE : E = E6 P nt none) (hP : KE P T) (Inv : σ → A0 → A0 → Prop) (X : R → Exit → A0 → A0 → Prop) (fJ : ι → σ → α → Fl) (J : ι → σ → α → A0 → A0 → Prop)
 (hI : ∀ s, C6 (Inv s)) (hX : ∀ r e, C6 (X r e)) (hJ : ∀ i s y, C6 (J i s y)) (hit : DD P ((K1 [] st.l g).V) (xs.map enc)) (h : F2 step xs s0 = some o) {F : A0} (h0 : Inv s0 F H)
 (hnt : ∀ p ∈ ps, p < nt) (hps : ∀ x, (enc x).length = ps.size) (hda : E9 cf asg = true) (hdb : E9 cf body = true)
 (asgP : ∀ (E' : CM) (id : Nat) y s F H, E' = E6 P nt (some id) → Inv s F H → run E' T nt cf asg ⟨NJ ps.toList (enc y) st.l, []⟩ H fun e st' H' => match e with | .normal => ∃ i, J i s y F H' ∧ Cx st'.l (fJ i s y) ∧ st'.df = [] | _ => False)
 (bodyP : ∀ (E' : CM) (id : Nat) i y s F H o', E' = E6 P nt (some id) → (∃ L, F id = some (.loop L)) → step s y = some o' → J i s y F H → run E' T nt cf body ⟨fJ i s y, []⟩ H fun e _ H' => match e with
  | .normal => ∃ s', o' = .inl s' ∧ Inv s' F H'
  | e => ∃ r, o' = .inr r ∧ (TE e).isSome = true ∧ X r e F H')
 (done : ∀ d s H', o = .inl s → F d = none → Inv s (upd F d (some DB)) H' → K .normal ⟨st.l, d :: st.df⟩ H')
 (stop : ∀ d r e H', o = .inr r → F d = none → X r e (upd F d (some DB)) H' → K e ⟨st.l, d :: st.df⟩ H') : E.sim (.rangeFunc g ps asg body) st H K := by
 subst hE;have hev : ev (D9 st) g = (K1 [] st.l g).V := (Bk (df := st.df) EY.nil g).symm
 rw [← hev] at hit
 have sI : ∀ l, C6 (RgI enc step o Inv l) := fun l => C6.ex fun q => hI q.1;have sD : ∀ c, C6 (RgD o X c) := fun c => C6.ex fun q => hX q.1 q.2;have sJ : ∀ x l fr, C6 (RgJ enc step o fJ J x l fr) := fun x l fr => C6.ex fun q => hJ q.1 q.2.1 q.2.2.1;refine N9.rangeOuter (nt := nt) hnt (fun x hx => ?_) hit (RgI enc step o Inv) (RgD o X) sI sD (RgJ enc step o fJ J) sJ ⟨⟨s0, xs⟩, ⟨rfl, h⟩, h0⟩ (RC cf hP hda asgP) (SV cf hP hdb bodyP) (fun d H' hd ⟨⟨s, ys⟩, ⟨hl, hr⟩, hi⟩ => ?_) fun c d H' hd ⟨⟨r, e⟩, ⟨ho, hj⟩, hx⟩ => ?_
 ·obtain ⟨y, _, rfl⟩ := List.mem_map.1 hx;exact hps y
 ·have hys : ys = [] := by
   cases ys with
   | nil => rfl
   | cons _ _ => cases hl
  subst hys;cases hr;exact ⟨⟨st.l, d :: st.df⟩, ⟨fun t => Wk.refl _, rfl⟩, done d s H' rfl hd hi⟩
 have hk := stop d r e H' ho hd hx
 cases e with
 | ret => cases hj; exact N9.ret ⟨⟨st.l, d :: st.df⟩, ⟨fun t => Wk.refl _, rfl⟩, hk⟩
 | exit k => cases hj; exact N9.exit ⟨⟨st.l, d :: st.df⟩, ⟨fun t => Wk.refl _, rfl⟩, hk⟩
 | _ => cases hj
end
end
theorem B4.dblk {Φ : A0 → A0 → Prop} {H0 H : A0} {L : List En} {d : Nat} (hd : H0 d = none) (h : B4 Φ (upd H0 d (some DB)) L H) : B4 Φ H0 (L ++ [.blk d DB]) H := by
 obtain ⟨hs, F', H1, h0, h1, h2⟩ := h;refine ⟨hs, F', H1, ⟨fun x b hx => h0.ext x b ?_, fun i e x b hi he => ?_, fun i j e e' x b b' hi hj he he' => ?_, fun x b hx => ?_⟩, h1, h2⟩
 rotate_right
 ·rcases h0.only x b hx with h | ⟨i, e, hi, he⟩
  ·by_cases hxd : x = d
   ·subst hxd; rw [A9] at h; cases h; exact .inr ⟨L.length, .blk x DB, by simp, rfl⟩
   rw [A3 _ _ hxd] at h; exact .inl h
  refine .inr ⟨i, e, ?_, he⟩
  rcases Nat.lt_or_ge i L.length with hlt | hge
  ·rw [List.getElem?_append_left hlt]; exact hi
  rw [List.getElem?_eq_none hge] at hi; cases hi
 ·rw [A3 _ _ (L7 hd hx)]; exact hx
 ·rcases Nat.lt_or_ge i L.length with hlt | hge
  ·rw [List.getElem?_append_left hlt] at hi
   have := h0.has i e x b hi he;refine ⟨?_, this.2⟩
   have hne : x ≠ d := fun eq => by subst eq; rw [A9] at this; cases this.1
   rw [A3 _ _ hne] at this; exact this.1
  rw [List.getElem?_append_right hge] at hi
  cases hm : i - L.length with
  | zero => rw [hm] at hi; simp at hi; subst hi; cases he; exact ⟨hd, h0.ext _ _ (A9 _ _ _)⟩
  | succ m => rw [hm] at hi; simp at hi
 have hDB : ∀ (i : Nat) e, (L ++ [.blk d DB])[i]? = some e → (i < L.length ∧ L[i]? = some e) ∨ (i = L.length ∧ e = .blk d DB) := fun i e hi => by
  rcases Nat.lt_or_ge i L.length with hlt | hge
  ·rw [List.getElem?_append_left hlt] at hi; exact .inl ⟨hlt, hi⟩
  rw [List.getElem?_append_right hge] at hi
  cases hm : i - L.length with
  | zero => rw [hm] at hi; simp at hi; exact .inr ⟨by omega, hi.symm⟩
  | succ m => rw [hm] at hi; simp at hi
 have nd : ∀ (i : Nat) e x b, L[i]? = some e → e.id = some (x, b) → x ≠ d := fun m e x b hm he eq => by
  have := (h0.has m e x b hm he).1
  rw [eq, A9] at this; cases this
 rcases hDB i e hi with ⟨_, ki⟩ | ⟨ki, rfl⟩ <;> rcases hDB j e' hj with ⟨_, kj⟩ | ⟨kj, rfl⟩
 ·exact h0.inj i j e e' x b b' ki kj he he'
 ·cases he'; exact absurd rfl (nd i e _ b ki he)
 ·cases he; exact absurd rfl (nd j e' _ b' kj he')
 rw [ki, kj]
end Go.Ab
