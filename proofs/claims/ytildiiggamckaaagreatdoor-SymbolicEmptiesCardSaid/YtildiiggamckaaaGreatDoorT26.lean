/- AbB6 AbB7 AbB8 AbB9 AbB10 AbS4 AbS5 AbS6 -/
import Derived.Test.YtildiiggamckaaaGreatDoorT25
import Derived.Laws.Externs
import Derived.Test.YtildiiggamckaaaGreatDoorT23
set_option linter.all false
namespace Go.Ab
open Go.RowKit
variable [G5] [Ar]
theorem NY {α : Type} {f : α → V} {l : List α} (h : Ar.lst f l = []) : l = [] := by
 rw [Ar.lst_eq] at h; exact List.map_eq_nil_iff.1 h
theorem OI {α : Type} {f : α → V} {l r : List α} (hx : Ar.lst f l = []) (h : (Q2 [] l).bind (fun x => some x) = some r) : Ar.lst f r = [] := by
 rw [NY hx] at h
 simp [Q2] at h
 subst h;rw [Ar.lst_eq]; rfl
def Qf (F : A0) (sz : Nat) (xs : List V) (v : V) (H' : A0) : Prop := ∃ q : OG, v = .own q.id q.lo q.n ∧ T6 q (xs.length : Nat) ∧ F q.id = none ∧ H' = upd F q.id (some (.arr sz (q.pre ++ xs ++ q.rest)))
def IN (P : Program) (f : FuncId) (args : List V) (sz : Nat) (xs : List V) : Prop := ∀ H, E7 P f args H (Qf H sz xs)
def Ij (P : Program) (f : FuncId) (args : List V) (sz : Nat) (xs xs' : List V) : Prop :=
 ∀ H (q : OG), T6 q (xs.length : Nat) → H q.id = some (.arr sz (q.pre ++ xs ++ q.rest)) → E7 P f (.own q.id q.lo q.n :: args) H (Qf (upd H q.id none) sz xs')
def DV (mk : V → V) : Prop := ∀ (g : Gh) (w : World) (u : Value) (x : V), VR g w u (mk x) → ∃ v, VR g w v x ∧ ∀ (g' : Gh) (w' : World) (y : V), M4 g w g' w' → VR g' w' v y → VR g' w' u (mk y)
theorem DV.id : DV fun x => x := fun _ _ u _ h => ⟨u, h, fun _ _ _ _ k => k⟩
theorem DV.agg (cs : List V) (i : Nat) (hi : i < cs.length) : DV fun x => .agg (cs.set i x) := fun g w u x h => by
 cases h with
 | agg hl h1 hv =>
  rename_i vs
  have hi' : i < (cs.set i x).length := by simpa using hi
  refine ⟨vs.getD i undef, by have := hv i hi'; rwa [AT hi, if_pos rfl] at this, fun g' w' y s k => ?_⟩;refine .agg (by simpa using hl) (fun j hj => h1 j (by simpa using hj)) fun j hj => ?_;rw [AT hi]
  split
  ·rename_i e; subst e; exact k
  rename_i e;have := hv j (by simpa using hj)
  rw [AT hi, if_neg e] at this
  exact this.mono s
theorem DV.tup (cs : List V) (i : Nat) (hi : i < cs.length) : DV fun x => .tup (cs.set i x) := fun g w u x h => by
 cases h with
 | tup hl hv =>
  rename_i vs
  have hi' : i < (cs.set i x).length := by simpa using hi
  refine ⟨vs.getD i undef, by have := hv i hi'; rwa [AT hi, if_pos rfl] at this, fun g' w' y s k => ?_⟩;refine .tup (by simpa using hl) fun j hj => ?_;rw [AT hi]
  split
  ·rename_i e; subst e; exact k
  rename_i e;have := hv j (by simpa using hj)
  rw [AT hi, if_neg e] at this
  exact this.mono s
theorem E7.adopt {P : Program} {f : FuncId} {args : List V} {H : A0} {K : V → A0 → Prop} {sz : Nat} (h : E7 P f args H fun x H' => K x H' ∨ (x = .sl [] .nil ∧ ∀ t, H' t = none → K (.own t 0 0) (upd H' t (some (.arr sz []))))) : E7 P f args H K :=
 fun g w vals hR hA => (h g w vals hR hA).mono fun v w' ⟨g', x, H', s, hR', hv, hK⟩ => by
  rcases hK with hK | ⟨rfl, hK⟩
  ·exact ⟨g', x, H', s, hR', hv, hK⟩
  obtain ⟨g2, s2, hR2, hn, hv2⟩ := BJ hR' sz (.inl rfl) hv;exact ⟨g2, _, _, s.trans s2, hR2, hv2, hK _ hn⟩
def VK (F : A0) (sz : Nat) (xs : List V) (mk : V → V) (v : V) (H' : A0) : Prop := ∃ q : OG, v = mk (.own q.id q.lo q.n) ∧ T6 q (xs.length : Nat) ∧ F q.id = none ∧ H' = upd F q.id (some (.arr sz (q.pre ++ xs ++ q.rest)))
def Ur (P : Program) (f : FuncId) (args : List V) (sz : Nat) (xs : List V) (mk : V → V) : Prop := ∀ H, E7 P f args H (VK H sz xs mk)
theorem E7.adoptG {P : Program} {f : FuncId} {args : List V} {H : A0} {K : V → A0 → Prop} {sz : Nat} {mk : V → V} (hm : DV mk) (h : E7 P f args H fun x H' => K x H' ∨ (x = mk (.sl [] .nil) ∧ ∀ t, H' t = none → K (mk (.own t 0 0)) (upd H' t (some (.arr sz []))))) : E7 P f args H K :=
 fun g w vals hR hA => (h g w vals hR hA).mono fun v w' ⟨g', x, H', s, hR', hv, hK⟩ => by
  rcases hK with hK | ⟨rfl, hK⟩
  ·exact ⟨g', x, H', s, hR', hv, hK⟩
  obtain ⟨u, hu, hb⟩ := hm g' w' v _ hv;obtain ⟨g2, s2, hR2, hn, hv2⟩ := BJ hR' sz (.inl rfl) hu;exact ⟨g2, _, _, s.trans s2, hR2, hb _ _ _ s2 hv2, hK _ hn⟩
theorem B4.last {F H : A0} {t : Nat} {b : Au} (h : B4 Eq F [.blk t b] H) : F t = none ∧ Dj (upd F t (some b)) H := by
 obtain ⟨hs, F', H1, h0, h1, h2⟩ := h;subst h1;have h3 := h0.has 0 _ t b rfl rfl;refine ⟨h3.1, fun x c hx => ?_⟩
 by_cases e : x = t
 ·subst e; rw [A9] at hx; cases hx; exact h2 _ _ h3.2
 rw [A3 _ _ e] at hx; exact h2 _ _ (h0.ext x c hx)
theorem B4.only {F H : A0} {L : List En} {t : Nat} {b : Au} (h : B4 Eq F L H) (i : Nat) (hi : L[i]? = some (.blk t b)) : B4 Eq F [.blk t b] H := by
 obtain ⟨hs, F', H1, h0, h1, h2⟩ := h;subst h1;have h3 := h0.has i _ t b hi rfl;refine ⟨hs, upd F t (some b), upd F t (some b), (V2.start F).push h3.1 rfl, rfl, fun x c hx => ?_⟩
 by_cases e : x = t
 ·subst e; rw [A9] at hx; cases hx; exact h2 _ _ h3.2
 rw [A3 _ _ e] at hx; exact h2 _ _ (h0.ext x c hx)
theorem B4.only1 {F H : A0} {L : List En} {t : Nat} {b : Au} (h : B4 Eq F (.blk t b :: L) H) : B4 Eq F [.blk t b] H := by
 obtain ⟨hs, F', H1, h0, h1, h2⟩ := h;subst h1;have h3 := h0.has 0 _ t b rfl rfl;refine ⟨hs, upd F t (some b), upd F t (some b), (V2.start F).push h3.1 rfl, rfl, fun x c hx => ?_⟩
 by_cases e : x = t
 ·subst e; rw [A9] at hx; cases hx; exact h2 _ _ h3.2
 rw [A3 _ _ e] at hx; exact h2 _ _ (h0.ext x c hx)
section
variable {P : Program} {T : Dm} {f : FuncId} {fn : Func} {c : Code} {n : Nat} {rs : List ResultVar} {args : List V}
theorem AW {F H : A0} {sz : Nat} {xs : List V} (cf : Cf) (hP : KE P T) (hf : P.funcs[f]? = some fn) (hb : fn.body = some c) (hd : E9 cf c = true)
 (hcall : ∀ vals w, (callFunc f vals).run P w = .ok (.enter f vals) w) (hnt : fn.ntmps = n) (hrs : fn.results.toList = rs) (hn : Nat.ble args.length n = true)
 (h : ∀ (E : CM) (K : V → A0 → Prop), E = E6 P n none → (∀ (q : OG) L H', T6 q (xs.length : Nat) → B4 Eq F (.blk q.id (.arr sz (q.pre ++ xs ++ q.rest)) :: L) H' → K (.own q.id q.lo q.n) H') → (xs = [] → ∀ L H', B4 Eq F L H' → K (.sl [] .nil) H') → run E T n cf c ⟨Z7 args 0, []⟩ H (Ib E T rs K)) :
 E7 P f args H (Qf F sz xs) := by
 refine E7.adopt (sz := sz) (E7.le (N8 (K := fun x H' => ∃ y H2, Y4 x y ∧ Dj H2 H' ∧ (Qf F sz xs y H2 ∨ (y = .sl [] .nil ∧ ∀ t, H2 t = none → Qf F sz xs (.own t 0 0) (upd H2 t (some (.arr sz [])))))) cf hP.1 hP.2 hf hb hd hcall hnt hrs hn fun E hE => ?_));refine h E _ hE (fun q L H' hq hO => ?_) fun hx L H' hO => ?_
 ·obtain ⟨h1, h2⟩ := hO.only1.last;exact ⟨_, _, .refl _, h2, .inl ⟨q, rfl, hq, h1, rfl⟩⟩
 exact ⟨_, F, .refl _, hO.ext, .inr ⟨rfl, fun t ht => ⟨⟨t, 0, 0, [], []⟩, rfl, ⟨rfl, by rw [hx]; rfl⟩, ht, by rw [hx]; rfl⟩⟩⟩
end
section
variable {P : Program} {nt : Nat} {rd : Option Nat} {T : Dm} {E : CM}
variable (hE : E = E6 P nt rd)
include hE
theorem QD {α β R : Type} {f : α → V} {Φ : A0 → A0 → Prop} {H0 H : A0} {L : List En} {sz : Nat} {r : R} {m : Option β} {F : β → Option R} {g : β → List α} {mk : β → V → V} {fid : FuncId} {args args' : List V} {k : V → A0 → Prop}
 (h : m.bind F = some r) (hc : ∀ x, m = some x → Ur P fid args' sz (Ar.lst f (g x)) (mk x)) (hl : G4 args args') (hO : B4 Φ H0 L H)
 (hk : ∀ x (q : OG) H', T6 q (Ar.len (g x)) → B4 Φ H0 (.blk q.id (.arr sz (q.pre ++ Ar.lst f (g x) ++ q.rest)) :: L) H' → F x = some r → k (mk x (.own q.id q.lo q.n)) H') :
 E.call (.func (.func fid) [] []) args H k := by
 subst hE;obtain ⟨x, h1, h2⟩ := bind_some h;refine E7.value (F := []) (C := []) ?_;have := ((hc x h1) H).args hl;simp only [List.nil_append, List.append_nil]
 exact this.mono fun v H' ⟨q, e1, e0, e2, e3⟩ => by
  subst e1; subst e3;exact hk x q _ (by rw [Ar.len_eq]; rwa [I0] at e0) (hO.push e2 rfl) h2
variable {α R S : Type} {f : α → V} {Φ : A0 → A0 → Prop} {H0 H : A0} {L : List En} {sz : Nat} {q : OG} {r : R} {m : Option (List α)} {F : List α → Option R} {fid : FuncId} {args args' : List V} {k : V → A0 → Prop}
theorem Dt (h : m.bind F = some r) (hc : ∀ x, m = some x → IN P fid args' sz (Ar.lst f x)) (hl : G4 args args') (hO : B4 Φ H0 L H)
 (hk : ∀ x (q : OG) H', T6 q (Ar.len x) → B4 Φ H0 (.blk q.id (.arr sz (q.pre ++ Ar.lst f x ++ q.rest)) :: L) H' → F x = some r → k (.own q.id q.lo q.n) H') :
 E.call (.func (.func fid) [] []) args H k := by
 subst hE;obtain ⟨x, h1, h2⟩ := bind_some h;refine E7.value (F := []) (C := []) ?_;have := ((hc x h1) H).args hl;simp only [List.nil_append, List.append_nil]
 exact this.mono fun v H' ⟨q, e1, e0, e2, e3⟩ => by
  subst e1; subst e3;exact hk x q _ (by rw [Ar.len_eq]; rwa [I0] at e0) (hO.push e2 rfl) h2
theorem Hh {l : List α} (hO : B4 Φ H0 L H) (hq : T6 q (Ar.len l)) (i : Nat) (hi : L[i]? = some (.blk q.id (.arr sz (q.pre ++ Ar.lst f l ++ q.rest)))) (h : m.bind F = some r) (hc : ∀ x, m = some x → Ij P fid args' sz (Ar.lst f l) (Ar.lst f x)) (hl : G4 args args')
 (hk : ∀ x (q : OG) H', T6 q (Ar.len x) → B4 Φ H0 (L.set i (.blk q.id (.arr sz (q.pre ++ Ar.lst f x ++ q.rest)))) H' → F x = some r → k (.own q.id q.lo q.n) H') :
 E.call (.func (.func fid) [] []) (.own q.id q.lo q.n :: args) H k := by
 subst hE;obtain ⟨x, h1, h2⟩ := bind_some h;refine E7.value (F := []) (C := []) ?_;have := ((hc x h1) H q (by rw [I0, ← Ar.len_eq]; exact hq) (hO.get i hi)).args (.cons (.refl _) hl);simp only [List.nil_append, List.append_nil]
 exact this.mono fun v H' ⟨q', e1, e0, e2, e3⟩ => by
  subst e1; subst e3;exact hk x q' _ (by rw [Ar.len_eq]; rwa [I0] at e0) (hO.swap i hi e2) h2
theorem Tn {p : Prop} {v : V} {a b : Unit → Prop} (hv : RM v = some p) (h1 : p → a ()) (h0 : b ()) : E.nilc v a b := by subst hE; exact ⟨p, hv, h1, h0⟩
end
end Go.Ab
namespace Go.Ab
open Go.RowKit
variable [G5] [Ar]
section
variable {P : Program} {T : Dm} {f : FuncId} {fn : Func} {c : Code} {n : Nat} {rs : List ResultVar} {args : List V}
theorem Kt {H : A0} {sz : Nat} {q : OG} {xs' : List V} (cf : Cf) (hP : KE P T) (hf : P.funcs[f]? = some fn) (hb : fn.body = some c) (hd : E9 cf c = true)
 (hcall : ∀ vals w, (callFunc f vals).run P w = .ok (.enter f vals) w) (hnt : fn.ntmps = n) (hrs : fn.results.toList = rs) (hn : Nat.ble (args.length + 1) n = true)
 (h : ∀ (E : CM) (K : V → A0 → Prop), E = E6 P n none →
  (∀ (t : Nat) (lo m : Int) (row pre rest : List V) H', row = pre ++ xs' ++ rest → lo = (pre.length : Nat) → m = (xs'.length : Nat) → (t = q.id ∨ H t = none) → Dj (upd (upd H q.id none) t (some (.arr sz row))) H' → K (.own t lo m) H') →
  run E T n cf c ⟨Z7 (.own q.id q.lo q.n :: args) 0, []⟩ H (Ib E T rs K)) :
 E7 P f (.own q.id q.lo q.n :: args) H (Qf (upd H q.id none) sz xs') := by
 refine E7.le (N8 (K := fun x H' => ∃ y H2, Y4 x y ∧ Dj H2 H' ∧ Qf (upd H q.id none) sz xs' y H2) cf hP.1 hP.2 hf hb hd hcall hnt hrs hn fun E hE => ?_);refine h E _ hE fun t lo m row pre rest H' e1 e2 e3 e4 e5 => ?_;subst e1;refine ⟨_, _, .refl _, e5, ⟨t, lo, m, pre, rest⟩, rfl, ⟨e2, e3⟩, ?_, rfl⟩
 rcases e4 with e | e
 ·simp only [e, A9]
 simp only [upd]; split
 ·rfl
 exact e
end
section
variable {P : Program} {nt : Nat} {rd : Option Nat} {T : Dm} {E : CM}
variable (hE : E = E6 P nt rd)
include hE
variable {H : A0} {sz id : Nat} {l n RL : Int} {row : List V}
theorem O3 (hk : H id = some (.arr sz row)) (hl : RL = (row.length : Nat)) {lo hi : Option Int} {k : V → Prop} (a b : Int) (ha : lo.getD 0 = a) (hb : hi.getD n = b) (h1 : 0 ≤ a) (h2 : a ≤ b) (h3 : l + b ≤ RL) (h : ∀ l' n', l' = l + a → n' = b - a → k (.own id l' n')) :
 E.oslice sz H id l n lo hi none k := by
 subst hE; subst ha; subst hb; subst hl;exact ⟨_, hk, ⟨h1, h2, by simp only [Option.getD_none]; omega, by simp only [Option.getD_none]; omega, fun h => by cases h⟩, h _ _ rfl rfl⟩
theorem RF (hk : H id = some (.arr sz row)) (hl : RL = (row.length : Nat)) {lo hi : Option Int} {m : Int} {k : V → Prop} (a b : Int) (ha : lo.getD 0 = a) (hb : hi.getD n = b) (h1 : 0 ≤ a) (h2 : a ≤ b) (h3 : b ≤ m) (h4 : l + m ≤ RL) (h5 : hi.isSome = true) (h : k .bad) :
 E.oslice sz H id l n lo hi (some m) k := by
 subst hE; subst ha; subst hb; subst hl;exact ⟨_, hk, ⟨h1, h2, h3, by simp only [Option.getD_some]; omega, fun _ => h5⟩, h⟩
theorem Wq (hk : H id = some (.arr sz row)) (hl : RL = (row.length : Nat)) {k : Int → Prop} (h : ∀ c, c = RL - l → k c) : E.ocap H id l k := by
 subst hE; exact ⟨_, _, hk, h _ (by rw [hl])⟩
theorem Mr {k : Int → Prop} (h : k n) : E.olen n k := by subst hE; exact h
theorem HQ {c : Bool} {x y : Unit → Prop} (h1 : c = true → x ()) (h2 : c = false → y ()) : E.br c x y := by subst hE; exact ⟨h1, h2⟩
theorem Ms {xs : List V} (hl : RL = (xs.length : Nat)) {k : Int → Prop} (h : k RL) : E.ln xs k := by subst hE; subst hl; exact h
theorem IX {k : V → Prop} (h : k (.sl [] .nil)) : E.slice sz [] .nil none (some 0) none k := by
 subst hE;exact ⟨⟨by decide, by decide, by decide, by decide, fun h => (by cases h), .inl (by decide)⟩, h⟩
theorem Mc (hk : H id = some (.arr sz row)) : IR sz H (.own id l n) (G3 row l n) := ⟨_, hk, .refl _⟩
theorem Hb (hk : H id = some (.arr sz row)) {y : V} {ys' : List V} (hs : IR sz H y ys') {YL : Int} (hy : YL = (ys'.length : Nat)) {k : V → A0 → Prop}
 (h : ∀ m row', m = (if n < YL then n else YL) → row' = T5 row l.toNat (ys'.take n.toNat) → k (.int .i64 m) (upd H id (some (.arr sz row')))) : E.ocopy sz H (.own id l n) y k := by
 subst hE; subst hy; exact ⟨_, _, hk, hs, h _ _ rfl rfl⟩
theorem SZ {z : V} (hk : H id = some (.arr sz row)) {k : A0 → Prop} (h : ∀ row', row' = T5 row l.toNat (List.replicate n.toNat z) → k (upd H id (some (.arr sz row')))) : E.oclear sz z H (.own id l n) k := by
 subst hE; exact ⟨_, hk, h _ rfl⟩
theorem Ta {by_ : Nat} {z : V} (hk : H id = some (.arr sz row)) (hl : RL = (row.length : Nat)) {y : V} {ys' : List V} (hs : IR sz H y ys') {YL : Int} (hy : YL = (ys'.length : Nat)) {k : V → A0 → Prop}
 (hin : l + n + YL ≤ RL → ∀ m row', m = n + YL → row' = T5 row (l + n).toNat ys' → k (.own id l m) (upd H id (some (.arr sz row'))))
 (hout : RL < l + n + YL → (n.toNat + ys'.length) * by_ ≤ 140737488355328 ∧ ∀ t m row' j, H t = none → m = n + YL → row' = G3 row l n ++ ys' ++ List.replicate j z → k (.own t 0 m) (upd H t (some (.arr sz row')))) :
 E.oapp sz by_ z H (.own id l n) y k := by
 subst hE; subst hl; subst hy;exact ⟨_, hs, _, hk, fun e => hin e _ _ rfl rfl, fun e => ⟨(hout e).1, fun t j ht => (hout e).2 t _ _ j ht rfl rfl⟩⟩
theorem UM {by_ : Nat} {z : V} {i0 : Int} (i : Int) (hi : i0 = i) (hk : H id = some (.arr sz row)) (hl : RL = (row.length : Nat)) (h0 : 0 ≤ i) (hb : (n.toNat + i.toNat) * by_ ≤ 140737488355328) {k : V → A0 → Prop}
 (hin : l + n + i ≤ RL → ∀ m row', m = n + i → row' = T5 row (l + n).toNat (List.replicate i.toNat z) → k (.own id l m) (upd H id (some (.arr sz row'))))
 (hout : RL < l + n + i → ∀ t m row' j, H t = none → m = n + i → row' = G3 row l n ++ List.replicate i.toNat z ++ List.replicate j z → k (.own t 0 m) (upd H t (some (.arr sz row')))) :
 E.oappz sz by_ z H (.own id l n) i0 k := by
 subst hE; subst hl; subst hi
 generalize i0 = i at *
 have e : ((i.toNat : Nat) : Int) = i := by omega
 have hbn : n.toNat + i.toNat ≤ (n.toNat + i.toNat) * by_ ∨ by_ = 0 := by
  rcases Nat.eq_zero_or_pos by_ with h | h
  ·exact .inr h
  exact .inl (Nat.le_mul_of_pos_right _ h)
 refine ⟨⟨h0, hb⟩, _, hk, fun hle => ?_, fun hlt => ⟨?_, fun t j ht => ?_⟩⟩
 ·simp only [List.length_replicate, e] at hle ⊢
  exact hin hle _ _ rfl rfl
 ·simpa using hb
 simp only [List.length_replicate, e] at hlt ⊢
 exact hout hlt t _ _ j ht rfl rfl
theorem Hc {by_ : Nat} {z x : V} {i0 : Int} (i : Int) (hi : i0 = i) (hx : x = .sl [] .nil ∨ x = .sl [] .full) (h0 : 0 ≤ i) (hb : i.toNat * by_ ≤ 140737488355328) {k : V → A0 → Prop}
 (hout : ∀ t m row' j, H t = none → m = i → row' = List.replicate i.toNat z ++ List.replicate j z → k (.own t 0 m) (upd H t (some (.arr sz row')))) :
 E.oappz sz by_ z H x i0 k := by
 subst hE; subst hi
 generalize i0 = i at *
 have e : ((i.toNat : Nat) : Int) = i := by omega
 have key : Gq H k sz by_ z x (List.replicate i.toNat z) := by
  have h2 : (List.replicate i.toNat z).length * by_ ≤ 140737488355328 ∧ ∀ t j, H t = none → k (.own t 0 ((List.replicate i.toNat z).length : Nat)) (upd H t (some (.arr sz (List.replicate i.toNat z ++ List.replicate j z)))) := by
   refine ⟨by simpa using hb, fun t j ht => ?_⟩;simp only [List.length_replicate, e];exact hout t _ _ j ht rfl rfl
  rcases hx with rfl | rfl
  ·exact ⟨.inl rfl, h2⟩
  exact ⟨.inr rfl, h2⟩
 refine ⟨⟨h0, ?_⟩, key⟩
 rcases hx with rfl | rfl <;> simpa [ownN] using hb
end
end Go.Ab
namespace Go.Ab
open Go.RowKit
theorem HI {A B C row : List V} {lo n : Int} (hr : row = A ++ B ++ C) (h0 : lo = (A.length : Nat)) (h1 : n = (B.length : Nat)) : G3 row lo n = B := by
 subst hr; subst h0; subst h1; simp [G3]
theorem EA {A B C ys row : List V} {i : Nat} (hr : row = A ++ B ++ C) (hi : i = A.length) (hl : ys.length = B.length) : T5 row i ys = A ++ ys ++ C := by
 subst hr; subst hi;simp only [T5, List.append_assoc, List.take_left];rw [show A.length + ys.length = A.length + B.length by omega, ← List.drop_drop];simp
theorem UC {row ys : List V} {l n m RL : Int} (hRL : RL = (row.length : Nat)) (hy : m = (ys.length : Nat)) (h0 : 0 ≤ l) (h1 : 0 ≤ n) (h : l + n + m ≤ RL) : (l + n).toNat + ys.length ≤ row.length := by omega
theorem VC {pre xs rest row row1 row2 : List V} {z : V} {lo i j n l1 n1 l2 n2 m l3 n3 : Int} (hr : row = pre ++ xs ++ rest) (e1 : lo = (pre.length : Nat)) (e2 : n = (xs.length : Nat)) (h0 : 0 ≤ i) (h1 : i ≤ j) (h2 : j ≤ (xs.length : Nat))
 (q1 : l1 = lo) (q2 : n1 = i) (q3 : l2 = lo + j) (q4 : n2 = n - j) (hr1 : row1 = T5 row (l1 + n1).toNat (G3 row l2 n2)) (q5 : m = n1 + ((G3 row l2 n2).length : Nat)) (q6 : l3 = l1 + m) (q7 : n3 = n - m) (hr2 : row2 = T5 row1 l3.toNat (List.replicate n3.toNat z)) :
 row2 = pre ++ (xs.take i.toNat ++ xs.drop j.toNat) ++ (List.replicate (j - i).toNat z ++ rest) ∧ m = ((xs.take i.toNat ++ xs.drop j.toNat).length : Nat) := by
 have e3 : G3 row l2 n2 = xs.drop j.toNat := by
  refine HI (A := pre ++ xs.take j.toNat) (C := rest) ?_ ?_ ?_
  ·rw [hr]; simp only [List.append_assoc]; congr 1; rw [← List.append_assoc, List.take_append_drop]
  ·simp; omega
  simp; omega
 rw [e3] at hr1 q5
 have hm : m = ((xs.take i.toNat ++ xs.drop j.toNat).length : Nat) := by simp at q5 ⊢; omega
 refine ⟨?_, hm⟩
 have hr1' : row1 = (pre ++ xs.take i.toNat) ++ xs.drop j.toNat ++ ((xs.drop i.toNat).drop (xs.length - j.toNat) ++ rest) := by
  rw [hr1];refine EA (B := (xs.drop i.toNat).take (xs.length - j.toNat)) ?_ ?_ ?_
  ·rw [hr];simp only [List.append_assoc]
   congr 1
   rw [← List.append_assoc ((xs.drop i.toNat).take _), List.take_append_drop, ← List.append_assoc, List.take_append_drop]
  ·simp; omega
  simp; omega
 rw [hr2];have := EA (row := row1) (A := pre ++ xs.take i.toNat ++ xs.drop j.toNat) (B := (xs.drop i.toNat).drop (xs.length - j.toNat)) (C := rest) (ys := List.replicate n3.toNat z) (i := l3.toNat) (by rw [hr1']; simp only [List.append_assoc]) (by simp at hm ⊢; omega) (by simp; simp at hm; omega);rw [this, show n3.toNat = (j - i).toNat by simp at hm; omega];simp only [List.append_assoc]
theorem Wm [G5] {H : A0} {id : Nat} {b : Au} (h : H id = some b) : Dj (Go.Ab.upd H id (some b)) H := fun y c hy => by
 by_cases ey : y = id
 ·subst ey; rw [A9] at hy; cases hy; exact h
 rwa [A3 _ _ ey] at hy
theorem QN [G5] {H : A0} {id t : Nat} {b : Option Au} : Dj (Go.Ab.upd (Go.Ab.upd H id none) t b) (Go.Ab.upd H t b) := fun x d hx => by
 by_cases e : x = t
 ·subst e; rw [A9] at hx ⊢; exact hx
 rw [A3 _ _ e] at hx ⊢
 by_cases e2 : x = id
 ·subst e2; rw [A9] at hx; cases hx
 rwa [A3 _ _ e2] at hx
theorem FY {a b by_ : Nat} (h : a + b ≤ 1073741824) (hb : by_ ≤ 131072) : (a + b) * by_ ≤ 140737488355328 := Nat.le_trans (Nat.mul_le_mul h hb) (by decide)
theorem Vj {α : Type} [Ar] {f : α → V} {l r : List α} {i j : Int} (h : MQ l i j = some r) : 0 ≤ i ∧ i ≤ j ∧ j ≤ ((Ar.lst f l).length : Nat) ∧ Ar.lst f r = (Ar.lst f l).take i.toNat ++ (Ar.lst f l).drop j.toNat := by
 unfold MQ at h
 split at h
 ·rename_i hc;cases h;exact ⟨hc.1, hc.2.1, by rw [Ar.lst_eq]; simpa using hc.2.2, by simp [Ar.lst_eq]⟩
 cases h
theorem Vi {α : Type} [Ar] {f : α → V} {l r m : List α} {i : Int} (h : MH l i m = some r) : 0 ≤ i ∧ i ≤ ((Ar.lst f l).length : Nat) ∧ (Ar.lst f l).length + (Ar.lst f m).length ≤ 1073741824 ∧ Ar.lst f r = (Ar.lst f l).take i.toNat ++ Ar.lst f m ++ (Ar.lst f l).drop i.toNat := by
 unfold MH at h
 split at h
 ·rename_i hc;cases h;exact ⟨hc.1, by rw [Ar.lst_eq]; simpa using hc.2.1, by simpa [Ar.lst_eq] using hc.2.2, by simp [Ar.lst_eq]⟩
 cases h
theorem Hj {α : Type} [G5] [Ar] {f : α → V} {l r : List α} {n : Int} (h : Lz l n = some r) : 0 ≤ n ∧ n ≤ 1073741824 ∧ Ar.lst f r = [] := by
 unfold Lz at h
 split at h
 ·rename_i hc;cases h;exact ⟨hc.1, hc.2, by rw [Ar.lst_eq]; rfl⟩
 cases h
end Go.Ab
namespace Go.Ab
open Go.RowKit
variable [G5]
theorem Ml {P : Program} {g : Gh} {H : A0} {w : World} (hR : Rl g H w) {tS tR e : TypeId} {sz id : Nat} {lo n : Int} {xs row : List V} {t : D6} {v u : Value} (hu : BT P tS = some e) (hs : Bw P e = some sz) (hk : H id = some (.arr sz row))
 (hall : xs.all (fun x => x.cells.length == sz) = true) (hv : VR g w v (.sl xs t)) (hw : VR g w u (.own id lo n)) : (Extern.SlicesOverlaps.overlaps #[tS, tS] #[tR] #[v, u]).run P w = .ok (.bool false) w := by
 obtain ⟨b, p, h1, h2, h3, h4, h5, h6, h7, h8, h9, h10⟩ := Bg hR hk hw;obtain ⟨base, cap, vs, f1, f2, f3, f4, f5⟩ := AQ (P := P) hv hall;have ht := H8 hu;have hz := H7 hs;subst f1; subst h2;obtain ⟨la, hla⟩ : ∃ la, la = xs.length := ⟨_, rfl⟩;obtain ⟨lb, hlb⟩ : ∃ lb, lb = n.toNat := ⟨_, rfl⟩;rw [← hla, ← hlb]
 change Sem.run P (α := Value) (do
  let some t := (#[tS, tS] : Array TypeId)[0]? | stuck "slices.overlaps: no parameter types"
  let .slice elem ← underlying t | stuck "slices.overlaps: slice type expected"
  let size ← sizeOf elem
  match base, p with
  | some a, some b =>
   if la = 0 ∨ lb = 0 ∨ size = 0 then pure (Value.bool false)
   else if a.block != b.block && (← frozen a) && (← frozen b) then unsupported .addressObserved
   else do
    if a.block != b.block then do
     noView a; noView b
     if ← mayBeOne a b then return Value.bool ((← choose (.extern "sameAddr.stringBytes" 2)) == 1)
    pure (Value.bool (a.block == b.block && a.off < b.off + lb * size && b.off < a.off + la * size))
  | _, _ => pure (Value.bool false)) w = _
 rcases f5 with ⟨hx, _⟩ | ⟨vb, vo, rfl, f6, f7, _⟩
 ·have hla0 : la = 0 := by rw [hla, hx]; rfl
  cases base <;> cases p <;> simp [run_underlying ht, hz, hla0]
 cases p with
 | none => simp [run_underlying ht, hz]
 | some q =>
  by_cases h0 : la = 0 ∨ lb = 0 ∨ sz = 0
  ·simp [run_underlying ht, hz, h0]
  have hx0 : 0 < xs.length := by omega
  have hn0 : 0 < n.toNat := by omega
  have hs0 : 0 < sz := by omega
  have hq := h8 (by omega);cases hq
  rcases h10 with h10 | ⟨c, T, k1, k2, k3, k4, k5, k6⟩
  ·omega
  have hc0 : 0 < c.size := by
   have := Nat.mul_le_mul_right sz (show 1 ≤ row.length by omega);omega
  have hfb : ∀ o, w.frozen? ⟨b, o, none⟩ = false := fun o => by simp [World.frozen?, k2]
  have hsb : w.shape? b = some (T, c.size) := by simp [World.shape?, k2]
  have hva := f6 0 0 hx0 hs0
  obtain ⟨tA, kA, hsa⟩ : ∃ tA kA, w.shape? vb = some (tA, kA + 1) := by
   have := hva.2
   simp only [World.cell?] at this
   split at this
   ·rename_i c' e' _ hh
    simp at this
    have hlt : vo + 0 * sz + 0 < c'.size := by
     rcases Nat.lt_or_ge (vo + 0 * sz + 0) c'.size with h | h
     ·exact h
     rw [Array.getElem?_eq_none (by simpa using h)] at this; cases this
    exact ⟨e', c'.size - 1, by simp [World.shape?, hh]; omega⟩
   cases this
  by_cases hne : vb = b
  ·subst hne;have hlast := (f6 (xs.length - 1) (sz - 1) (by omega) (by omega)).1
   have hlt : vo + xs.length * sz ≤ (g.ow id).o := by
    rcases Nat.lt_or_ge (vo + (xs.length - 1) * sz + (sz - 1)) (g.ow id).o with hh | hh
    ·have : xs.length * sz = (xs.length - 1) * sz + sz := by rw [← Nat.succ_mul]; congr 1; omega
     omega
    exact absurd hlast (k5 _ hh)
   have h1' : ¬ ((g.ow id).o + lo.toNat * sz < vo + la * sz) := by rw [hla]; omega
   simp [run_underlying ht, hz, h0, h1']
  have hnb : (vb != b) = true := by simpa using hne
  have hnb' : (vb == b) = false := by simpa using hne
  obtain ⟨kB, hkB⟩ : ∃ kB, c.size = kB + 1 := ⟨c.size - 1, by omega⟩
  rw [hkB] at hsb
  simp [run_underlying ht, hz, h0, hnb, hnb', frozen, noView, viewAt, mayBeOne, stringish, shape, Sem.run, hsa, hsb, hfb]
theorem Kw {P : Program} {f : FuncId} {tS tR e : TypeId} {sz id : Nat} {lo n : Int} {xs row : List V} {t : D6} {H : A0} (hrun : ∀ vals w, (callFunc f vals).run P w = ((Extern.SlicesOverlaps.overlaps #[tS, tS] #[tR] vals).run P w).andThen fun v w => .ok (.value v) w)
 (hu : BT P tS = some e) (hs : Bw P e = some sz) (hk : H id = some (.arr sz row)) (hall : xs.all (fun x => x.cells.length == sz) = true) : E7 P f [.sl xs t, .own id lo n] H fun x H' => x = .bool false ∧ H' = H := by
 intro g w vals hR hA;obtain ⟨hl, hv⟩ := hA;obtain ⟨vals⟩ := vals
 match vals, hl with
 | [v, u], _ =>
  have h1 := hv 0 (by simp);have h2 := hv 1 (by simp)
  simp at h1 h2
  rw [hrun, Ml hR hu hs hk hall h1 h2];exact G8.here hR (.bool _) ⟨rfl, rfl⟩
theorem UN [Ar] {P : Program} {nt : Nat} {rd : Option Nat} {E : CM} (hE : E = E6 P nt rd) {fid : FuncId} {args : List V} {r : V} {H : A0} {k : V → A0 → Prop} (h : E7 P fid args H fun x H' => x = r ∧ H' = H) (hk : k r H) : E.call (.func (.func fid) [] []) args H k := by
 subst hE;refine E7.value (F := []) (C := []) ?_;simp only [List.nil_append, List.append_nil]
 exact h.mono fun x H' ⟨e1, e2⟩ => by rw [e1, e2]; exact hk
end Go.Ab
namespace Go.Ab
open Go.RowKit
theorem Vu [G5] [Ar] {pre xs rest row vs row1 : List V} {lo n mm m : Int} (hr : row = pre ++ xs ++ rest) (e1 : lo = (pre.length : Nat)) (e2 : n = (xs.length : Nat)) (e3 : mm = (vs.length : Nat)) (q5 : m = n + mm) (hr1 : row1 = T5 row (lo + n).toNat vs) :
 row1 = pre ++ (xs ++ vs) ++ rest.drop vs.length ∧ m = ((xs ++ vs).length : Nat) := by
 refine ⟨?_, by simp; omega⟩;rw [hr1, hr, NK (by omega)]
theorem TH {pre xs rest row vs row1 : List V} {z : V} {j : Nat} {lo n mm m : Int} (hr : row = pre ++ xs ++ rest) (e1 : lo = (pre.length : Nat)) (e2 : n = (xs.length : Nat)) (e3 : mm = (vs.length : Nat)) (q5 : m = n + mm) (hr1 : row1 = G3 row lo n ++ vs ++ List.replicate j z) :
 row1 = [] ++ (xs ++ vs) ++ List.replicate j z ∧ m = ((xs ++ vs).length : Nat) := by
 refine ⟨?_, by simp; omega⟩;rw [hr1, HI hr e1 e2, List.nil_append]
theorem Vt {pre xs rest row vs row2 row3 row4 : List V} {z : V} {jz : Nat} {lo n i mm d m l1 n1 l2 n2 l3 n3 : Int} (hr : row = pre ++ xs ++ rest) (e1 : lo = (pre.length : Nat)) (e2 : n = (xs.length : Nat)) (e3 : mm = (vs.length : Nat)) (h0 : 0 ≤ i) (h1 : i ≤ (xs.length : Nat))
 (qd : d = n + mm - i) (qm : m = i + d) (hr2 : row2 = G3 row lo i ++ List.replicate d.toNat z ++ List.replicate jz z) (q1 : l1 = i) (q2 : n1 = m - i) (hr3 : row3 = T5 row2 l1.toNat (vs.take n1.toNat)) (q3 : l2 = i + mm) (q4 : n2 = m - (i + mm))
 (q5 : l3 = lo + i) (q6 : n3 = n - i) (hr4 : row4 = T5 row3 l2.toNat ((G3 row l3 n3).take n2.toNat)) :
 row4 = [] ++ (xs.take i.toNat ++ vs ++ xs.drop i.toNat) ++ List.replicate jz z ∧ m = ((xs.take i.toNat ++ vs ++ xs.drop i.toNat).length : Nat) := by
 have s1 : G3 row lo i = xs.take i.toNat := HI (A := pre) (C := xs.drop i.toNat ++ rest) (by rw [hr]; simp only [List.append_assoc]; rw [← List.append_assoc (xs.take _), List.take_append_drop]) e1 (by simp; omega);have s2 : G3 row l3 n3 = xs.drop i.toNat := HI (A := pre ++ xs.take i.toNat) (C := rest) (by rw [hr]; simp only [List.append_assoc]; congr 1; rw [← List.append_assoc, List.take_append_drop]) (by simp; omega) (by simp; omega);have hvt : vs.take n1.toNat = vs := List.take_of_length_le (by omega);have hxt : (xs.drop i.toNat).take n2.toNat = xs.drop i.toNat := List.take_of_length_le (by simp; omega)
 rw [s1] at hr2
 rw [hvt] at hr3
 rw [s2, hxt] at hr4
 have hz : List.replicate d.toNat z = List.replicate vs.length z ++ List.replicate (xs.drop i.toNat).length z := by
  rw [List.replicate_append_replicate]; congr 1; simp; omega
 rw [hz] at hr2
 have hr3' : row3 = xs.take i.toNat ++ vs ++ (List.replicate (xs.drop i.toNat).length z ++ List.replicate jz z) := by
  rw [hr3];exact EA (B := List.replicate vs.length z) (by rw [hr2]; simp only [List.append_assoc]) (by simp; omega) (by simp)
 refine ⟨?_, by simp; omega⟩;rw [hr4, List.nil_append];rw [EA (A := xs.take i.toNat ++ vs) (B := List.replicate (xs.drop i.toNat).length z) (C := List.replicate jz z) (by rw [hr3']; simp only [List.append_assoc]) (by simp; omega) (by simp)]
theorem WE {pre xs rest row vs row1 row2 : List V} {lo n i mm m l0 l1 n1 l2 n2 l3 n3 : Int} (hr : row = pre ++ xs ++ rest) (e1 : lo = (pre.length : Nat)) (e2 : n = (xs.length : Nat)) (e3 : mm = (vs.length : Nat)) (h0 : 0 ≤ i) (h1 : i ≤ (xs.length : Nat)) {RL : Int} (hRL : RL = (row.length : Nat)) (hfit : lo + n + mm ≤ RL)
 (qm : m = n + mm) (ql : l0 = lo) (q1 : l1 = l0 + (i + mm)) (q2 : n1 = m - (i + mm)) (q3 : l2 = l0 + i) (q4 : n2 = m - i) (hr1 : row1 = T5 row l1.toNat ((G3 row l2 n2).take n1.toNat)) (q5 : l3 = l0 + i) (q6 : n3 = m - i) (hr2 : row2 = T5 row1 l3.toNat (vs.take n3.toNat)) :
 row2 = pre ++ (xs.take i.toNat ++ vs ++ xs.drop i.toNat) ++ rest.drop vs.length ∧ m = ((xs.take i.toNat ++ vs ++ xs.drop i.toNat).length : Nat) := by
 have hrl : vs.length ≤ rest.length := by subst hRL; rw [hr] at hfit; simp at hfit; omega
 have hvt : vs.take n3.toNat = vs := List.take_of_length_le (by omega)
 have s2 : (G3 row l2 n2).take n1.toNat = xs.drop i.toNat := by
  have : G3 row l2 n2 = xs.drop i.toNat ++ rest.take vs.length := HI (A := pre ++ xs.take i.toNat) (C := rest.drop vs.length) (by
   rw [hr]; simp only [List.append_assoc]; rw [List.take_append_drop]; congr 1; rw [← List.append_assoc, List.take_append_drop]) (by simp; omega) (by simp; omega)
  rw [this];rw [List.take_append_of_le_length (by simp; omega), List.take_of_length_le (by simp; omega)]
 rw [s2] at hr1
 rw [hvt] at hr2
 have hr1' : row1 = (pre ++ xs.take i.toNat ++ (xs.drop i.toNat ++ rest.take vs.length).take vs.length) ++ xs.drop i.toNat ++ rest.drop vs.length := by
  rw [hr1];refine EA (B := (xs.drop i.toNat ++ rest.take vs.length).drop vs.length) ?_ ?_ ?_
  ·rw [hr];simp only [List.append_assoc]
   congr 1
   rw [← List.append_assoc ((xs.drop i.toNat ++ rest.take vs.length).take _), List.take_append_drop];simp only [List.append_assoc];rw [List.take_append_drop, ← List.append_assoc, List.take_append_drop]
  ·simp; omega
  simp; omega
 refine ⟨?_, by simp; omega⟩;rw [hr2];rw [EA (A := pre ++ xs.take i.toNat) (B := (xs.drop i.toNat ++ rest.take vs.length).take vs.length) (C := xs.drop i.toNat ++ rest.drop vs.length) (by rw [hr1']; simp only [List.append_assoc]) (by simp; omega) (by simp; omega)];simp only [List.append_assoc]
end Go.Ab
namespace Go.Ab
def Da {K X : Type} [DecidableEq K] (m : List (K × X)) (k : K) (z : X) : Option (X × Bool) := some (match m.find? (fun p => decide (p.1 = k)) with | some p => (p.2, true) | none => (z, false))
def Ck {K X : Type} [DecidableEq K] (m : List (K × X)) (k : K) (v : X) : Option (List (K × X)) := some (if m.any (fun p => decide (p.1 = k)) = true then m.map (fun p => if p.1 = k then (k, v) else p) else m ++ [(k, v)])
end Go.Ab
namespace Go.Ab
def Oz {α : Type} (l : List α) (a : Int) (m : List α) : Option (List α × Int) :=
 if 0 ≤ a ∧ a ≤ (l.length : Nat) then some (l.take a.toNat ++ m.take (l.length - a.toNat) ++ l.drop (a.toNat + m.length), if (l.length : Int) - a < (m.length : Nat) then (l.length : Int) - a else (m.length : Nat)) else none
end Go.Ab
namespace Go.Ab
def ED {α : Type} (x : α) : List α → List (List α)
 | [] => [[x]]
 | y :: l => (x :: y :: l) :: (ED x l).map (y :: ·)
def Fm {α : Type} : List α → List (List α)
 | [] => [[]]
 | x :: l => (Fm l).flatMap (ED x)
theorem JX {α : Type} (x : α) : ∀ (a b : List α), a ++ x :: b ∈ ED x (a ++ b)
 | [], [] => by simp [ED]
 | [], y :: b => by simp [ED]
 | y :: a, b => by
  simp only [List.cons_append, ED, List.mem_cons, List.mem_map];exact .inr ⟨_, JX x a b, rfl⟩
theorem JD {α : Type} : ∀ {l m : List α}, m.Perm l → m ∈ Fm l
 | [], m, h => by simp [Fm, h.eq_nil]
 | x :: l, m, h => by
  have hx : x ∈ m := h.mem_iff.2 (by simp);obtain ⟨a, b, rfl⟩ := List.append_of_mem hx;have h2 : (a ++ b).Perm l := (List.perm_cons x).1 (List.perm_middle.symm.trans h);simp only [Fm, List.mem_flatMap];exact ⟨a ++ b, JD h2, JX x a b⟩
def Sa {σ R : Type} (fin : σ → R) : σ ⊕ R → R
 | .inl s => fin s
 | .inr y => y
def BI {α σ R ρ : Type} [DecidableEq ρ] (step : σ → α → Option (σ ⊕ R)) (fin : σ → R) (nrm : R → ρ) (l : List α) (s : σ) : Option ρ :=
 match (F2 step l s).map fun q => nrm (Sa fin q) with
 | none => none
 | some r => if (Fm l).all (fun m => decide ((F2 step m s).map (fun q => nrm (Sa fin q)) = some r)) = true then some r else none
theorem NG {α σ R ρ : Type} [DecidableEq ρ] {step : σ → α → Option (σ ⊕ R)} {fin : σ → R} {nrm : R → ρ} {l : List α} {s : σ} {r : ρ} (h : BI step fin nrm l s = some r) {m : List α} (hp : m.Perm l) :
 ∃ q, F2 step m s = some q ∧ nrm (Sa fin q) = r := by
 unfold BI at h
 split at h
 ·cases h
 split at h
 ·rename_i r' _ hall;cases h;have := List.all_eq_true.1 hall m (JD hp);have := of_decide_eq_true this
  cases hq : F2 step m s with
  | none => rw [hq] at this; cases this
  | some q => rw [hq] at this; exact ⟨q, rfl, by simpa using this⟩
 cases h
theorem Iu {α : Type} : ∀ {l m : List α}, m ∈ Fm l → m.Perm l
 | [], m, h => by simp only [Fm, List.mem_singleton] at h; rw [h]
 | x :: l, m, h => by
  simp only [Fm, List.mem_flatMap] at h
  obtain ⟨n, h1, h2⟩ := h
  have key : ∀ (n m : List α), m ∈ ED x n → m.Perm (x :: n) := by
   intro n
   induction n with
   | nil => intro m h; simp only [ED, List.mem_singleton] at h; rw [h]
   | cons y n ih =>
    intro m h
    simp only [ED, List.mem_cons, List.mem_map] at h
    rcases h with rfl | ⟨q, hq, rfl⟩
    ·exact .refl _
    exact ((ih q hq).cons y).trans (List.Perm.swap x y n)
  exact (key n m h2).trans ((Iu h1).cons x)
theorem Lj {α σ R ρ : Type} [DecidableEq ρ] {step : σ → α → Option (σ ⊕ R)} {fin : σ → R} {nrm : R → ρ} {l : List α} {s : σ} {r : ρ} (h : ∀ m, m.Perm l → (F2 step m s).map (fun q => nrm (Sa fin q)) = some r) : BI step fin nrm l s = some r := by
 unfold BI;rw [h l (.refl _)]
 simp only
 rw [if_pos];exact List.all_eq_true.2 fun m hm => decide_eq_true (h m (Iu hm))
def Hm {X : Type} (p : Int × X) : List (Int × X) → List (Int × X)
 | [] => [p]
 | q :: l => if p.1 ≤ q.1 then p :: q :: l else q :: Hm p l
def CP {X : Type} : List (Int × X) → List (Int × X)
 | [] => []
 | p :: l => Hm p (CP l)
theorem Lu {X : Type} (p : Int × X) : ∀ l, (Hm p l).Perm (p :: l)
 | [] => .refl _
 | q :: l => by
  unfold Hm
  split
  ·exact .refl _
  exact ((Lu p l).cons q).trans (List.Perm.swap p q l)
theorem CO {X : Type} : ∀ l : List (Int × X), (CP l).Perm l
 | [] => .refl _
 | p :: l => (Lu p _).trans ((CO l).cons p)
end Go.Ab
