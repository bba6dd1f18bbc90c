/- AbB6 AbB7 AbB8 AbB9 AbB10 AbS4 AbS5 -/
import Derived.Test.YtodfgmbacmnalaaGreatT24
import Derived.Laws.Externs
set_option linter.all false

namespace Go.Ab
open Go.RowKit
variable [Glob] [Ar]
def OutO (F : Heap) (sz : Nat) (xs : List V) (v : V) (H' : Heap) : Prop := ∃ q : OG, v = .own q.id q.lo q.n ∧ Okn q (xs.length : Nat) ∧ F q.id = none ∧ H' = upd F q.id (some (.arr sz (q.pre ++ xs ++ q.rest)))
def CallO (P : Program) (f : FuncId) (args : List V) (sz : Nat) (xs : List V) : Prop := ∀ H, CallA P f args H (OutO H sz xs)
def CallOO (P : Program) (f : FuncId) (args : List V) (sz : Nat) (xs xs' : List V) : Prop :=
 ∀ H (q : OG), Okn q (xs.length : Nat) → H q.id = some (.arr sz (q.pre ++ xs ++ q.rest)) → CallA P f (.own q.id q.lo q.n :: args) H (OutO (upd H q.id none) sz xs')
def HoldOk (mk : V → V) : Prop := ∀ (g : Gh) (w : World) (u : Value) (x : V), VR g w u (mk x) → ∃ v, VR g w v x ∧ ∀ (g' : Gh) (w' : World) (y : V), Stp g w g' w' → VR g' w' v y → VR g' w' u (mk y)
theorem HoldOk.id : HoldOk fun x => x := fun _ _ u _ h => ⟨u, h, fun _ _ _ _ k => k⟩
theorem HoldOk.agg (cs : List V) (i : Nat) (hi : i < cs.length) : HoldOk fun x => .agg (cs.set i x) := fun g w u x h => by
 cases h with
 | agg hl h1 hv =>
  rename_i vs
  have hi' : i < (cs.set i x).length := by simpa using hi
  refine ⟨vs.getD i undef, by have := hv i hi'; rwa [getD_setL hi, if_pos rfl] at this, fun g' w' y s k => ?_⟩
  refine .agg (by simpa using hl) (fun j hj => h1 j (by simpa using hj)) fun j hj => ?_
  rw [getD_setL hi]
  split
  ·rename_i e; subst e; exact k
  ·rename_i e
   have := hv j (by simpa using hj)
   rw [getD_setL hi, if_neg e] at this
   exact this.mono s
theorem HoldOk.tup (cs : List V) (i : Nat) (hi : i < cs.length) : HoldOk fun x => .tup (cs.set i x) := fun g w u x h => by
 cases h with
 | tup hl hv =>
  rename_i vs
  have hi' : i < (cs.set i x).length := by simpa using hi
  refine ⟨vs.getD i undef, by have := hv i hi'; rwa [getD_setL hi, if_pos rfl] at this, fun g' w' y s k => ?_⟩
  refine .tup (by simpa using hl) fun j hj => ?_
  rw [getD_setL hi]
  split
  ·rename_i e; subst e; exact k
  ·rename_i e
   have := hv j (by simpa using hj)
   rw [getD_setL hi, if_neg e] at this
   exact this.mono s
theorem CallA.adopt {P : Program} {f : FuncId} {args : List V} {H : Heap} {K : V → Heap → Prop} {sz : Nat} (h : CallA P f args H fun x H' => K x H' ∨ (x = .sl [] .nil ∧ ∀ t, H' t = none → K (.own t 0 0) (upd H' t (some (.arr sz []))))) : CallA P f args H K :=
 fun g w vals hR hA => (h g w vals hR hA).mono fun v w' ⟨g', x, H', s, hR', hv, hK⟩ => by
  rcases hK with hK | ⟨rfl, hK⟩
  ·exact ⟨g', x, H', s, hR', hv, hK⟩
  ·obtain ⟨g2, s2, hR2, hn, hv2⟩ := own_empty hR' sz (.inl rfl) hv
   exact ⟨g2, _, _, s.trans s2, hR2, hv2, hK _ hn⟩
def OutG (F : Heap) (sz : Nat) (xs : List V) (mk : V → V) (v : V) (H' : Heap) : Prop := ∃ q : OG, v = mk (.own q.id q.lo q.n) ∧ Okn q (xs.length : Nat) ∧ F q.id = none ∧ H' = upd F q.id (some (.arr sz (q.pre ++ xs ++ q.rest)))
def CallG (P : Program) (f : FuncId) (args : List V) (sz : Nat) (xs : List V) (mk : V → V) : Prop := ∀ H, CallA P f args H (OutG H sz xs mk)
theorem Own.last {F H : Heap} {t : Nat} {b : Blk} (h : Own Eq F [.blk t b] H) : F t = none ∧ HLe (upd F t (some b)) H := by
 obtain ⟨hs, F', H1, h0, h1, h2⟩ := h
 subst h1
 have h3 := h0.has 0 _ t b rfl rfl
 refine ⟨h3.1, fun x c hx => ?_⟩
 by_cases e : x = t
 ·subst e; rw [upd_same] at hx; cases hx; exact h2 _ _ h3.2
 ·rw [upd_other _ _ e] at hx; exact h2 _ _ (h0.ext x c hx)
theorem Own.only {F H : Heap} {L : List En} {t : Nat} {b : Blk} (h : Own Eq F L H) (i : Nat) (hi : L[i]? = some (.blk t b)) : Own Eq F [.blk t b] H := by
 obtain ⟨hs, F', H1, h0, h1, h2⟩ := h
 subst h1
 have h3 := h0.has i _ t b hi rfl
 refine ⟨hs, upd F t (some b), upd F t (some b), (Own0.start F).push h3.1 rfl, rfl, fun x c hx => ?_⟩
 by_cases e : x = t
 ·subst e; rw [upd_same] at hx; cases hx; exact h2 _ _ h3.2
 ·rw [upd_other _ _ e] at hx; exact h2 _ _ (h0.ext x c hx)
theorem Own.only1 {F H : Heap} {L : List En} {t : Nat} {b : Blk} (h : Own Eq F (.blk t b :: L) H) : Own Eq F [.blk t b] H := by
 obtain ⟨hs, F', H1, h0, h1, h2⟩ := h
 subst h1
 have h3 := h0.has 0 _ t b rfl rfl
 refine ⟨hs, upd F t (some b), upd F t (some b), (Own0.start F).push h3.1 rfl, rfl, fun x c hx => ?_⟩
 by_cases e : x = t
 ·subst e; rw [upd_same] at hx; cases hx; exact h2 _ _ h3.2
 ·rw [upd_other _ _ e] at hx; exact h2 _ _ (h0.ext x c hx)
section
variable {P : Program} {T : Tbl} {f : FuncId} {fn : Func} {c : Code} {n : Nat} {rs : List ResultVar} {args : List V}
theorem callO_run {F H : Heap} {sz : Nat} {xs : List V} (cf : Cf) (hP : POk P T) (hf : P.funcs[f]? = some fn) (hb : fn.body = some c) (hd : drawsOk cf c = true)
 (hcall : ∀ vals w, (callFunc f vals).run P w = .ok (.enter f vals) w) (hnt : fn.ntmps = n) (hrs : fn.results.toList = rs) (hn : Nat.ble args.length n = true)
 (h : ∀ (E : Env) (K : V → Heap → Prop), E = real P n none → (∀ (q : OG) L H', Okn q (xs.length : Nat) → Own Eq F (.blk q.id (.arr sz (q.pre ++ xs ++ q.rest)) :: L) H' → K (.own q.id q.lo q.n) H') → (xs = [] → ∀ L H', Own Eq F L H' → K (.sl [] .nil) H') → run E T n cf c ⟨entryL args 0, []⟩ H (finX E T rs K)) :
 CallA P f args H (OutO F sz xs) := by
 refine CallA.adopt (sz := sz) (CallA.le (callA_of_run (K := fun x H' => ∃ y H2, LeV x y ∧ HLe H2 H' ∧ (OutO F sz xs y H2 ∨ (y = .sl [] .nil ∧ ∀ t, H2 t = none → OutO F sz xs (.own t 0 0) (upd H2 t (some (.arr sz [])))))) cf hP.1 hP.2 hf hb hd hcall hnt hrs hn fun E hE => ?_))
 refine h E _ hE (fun q L H' hq hO => ?_) fun hx L H' hO => ?_
 ·obtain ⟨h1, h2⟩ := hO.only1.last
  exact ⟨_, _, .refl _, h2, .inl ⟨q, rfl, hq, h1, rfl⟩⟩
 ·exact ⟨_, F, .refl _, hO.ext, .inr ⟨rfl, fun t ht => ⟨⟨t, 0, 0, [], []⟩, rfl, ⟨rfl, by rw [hx]; rfl⟩, ht, by rw [hx]; rfl⟩⟩⟩
end
section
variable {P : Program} {nt : Nat} {rd : Option Nat} {T : Tbl} {E : Env}
variable (hE : E = real P nt rd)
include hE
theorem n_callG {α β R : Type} {f : α → V} {Φ : Heap → Heap → Prop} {H0 H : Heap} {L : List En} {sz : Nat} {r : R} {m : Option β} {F : β → Option R} {g : β → List α} {mk : β → V → V} {fid : FuncId} {args args' : List V} {k : V → Heap → Prop}
 (h : m.bind F = some r) (hc : ∀ x, m = some x → CallG P fid args' sz (Ar.lst f (g x)) (mk x)) (hl : LeVs args args') (hO : Own Φ H0 L H)
 (hk : ∀ x (q : OG) H', Okn q (Ar.len (g x)) → Own Φ H0 (.blk q.id (.arr sz (q.pre ++ Ar.lst f (g x) ++ q.rest)) :: L) H' → F x = some r → k (mk x (.own q.id q.lo q.n)) H') :
 E.call (.func (.func fid) [] []) args H k := by
 subst hE
 obtain ⟨x, h1, h2⟩ := bind_some h
 refine CallA.value (F := []) (C := []) ?_
 have := ((hc x h1) H).args hl
 simp only [List.nil_append, List.append_nil]
 exact this.mono fun v H' ⟨q, e1, e0, e2, e3⟩ => by
  subst e1; subst e3
  exact hk x q _ (by rw [Ar.len_eq]; rwa [lst_len] at e0) (hO.push e2 rfl) h2
variable {α R S : Type} {f : α → V} {Φ : Heap → Heap → Prop} {H0 H : Heap} {L : List En} {sz : Nat} {q : OG} {r : R} {m : Option (List α)} {F : List α → Option R} {fid : FuncId} {args args' : List V} {k : V → Heap → Prop}
theorem n_callO (h : m.bind F = some r) (hc : ∀ x, m = some x → CallO P fid args' sz (Ar.lst f x)) (hl : LeVs args args') (hO : Own Φ H0 L H)
 (hk : ∀ x (q : OG) H', Okn q (Ar.len x) → Own Φ H0 (.blk q.id (.arr sz (q.pre ++ Ar.lst f x ++ q.rest)) :: L) H' → F x = some r → k (.own q.id q.lo q.n) H') :
 E.call (.func (.func fid) [] []) args H k := by
 subst hE
 obtain ⟨x, h1, h2⟩ := bind_some h
 refine CallA.value (F := []) (C := []) ?_
 have := ((hc x h1) H).args hl
 simp only [List.nil_append, List.append_nil]
 exact this.mono fun v H' ⟨q, e1, e0, e2, e3⟩ => by
  subst e1; subst e3
  exact hk x q _ (by rw [Ar.len_eq]; rwa [lst_len] at e0) (hO.push e2 rfl) h2
theorem n_callOO {l : List α} (hO : Own Φ H0 L H) (hq : Okn q (Ar.len l)) (i : Nat) (hi : L[i]? = some (.blk q.id (.arr sz (q.pre ++ Ar.lst f l ++ q.rest)))) (h : m.bind F = some r) (hc : ∀ x, m = some x → CallOO P fid args' sz (Ar.lst f l) (Ar.lst f x)) (hl : LeVs args args')
 (hk : ∀ x (q : OG) H', Okn q (Ar.len x) → Own Φ H0 (L.set i (.blk q.id (.arr sz (q.pre ++ Ar.lst f x ++ q.rest)))) H' → F x = some r → k (.own q.id q.lo q.n) H') :
 E.call (.func (.func fid) [] []) (.own q.id q.lo q.n :: args) H k := by
 subst hE
 obtain ⟨x, h1, h2⟩ := bind_some h
 refine CallA.value (F := []) (C := []) ?_
 have := ((hc x h1) H q (by rw [lst_len, ← Ar.len_eq]; exact hq) (hO.get i hi)).args (.cons (.refl _) hl)
 simp only [List.nil_append, List.append_nil]
 exact this.mono fun v H' ⟨q', e1, e0, e2, e3⟩ => by
  subst e1; subst e3
  exact hk x q' _ (by rw [Ar.len_eq]; rwa [lst_len] at e0) (hO.swap i hi e2) h2
end
end Go.Ab

namespace Go.Ab
open Go.RowKit
variable [Glob] [Ar]
section
variable {P : Program} {T : Tbl} {f : FuncId} {fn : Func} {c : Code} {n : Nat} {rs : List ResultVar} {args : List V}
end
section
variable {P : Program} {nt : Nat} {rd : Option Nat} {T : Tbl} {E : Env}
variable (hE : E = real P nt rd)
include hE
variable {H : Heap} {sz id : Nat} {l n RL : Int} {row : List V}
theorem r_oslice (hk : H id = some (.arr sz row)) (hl : RL = (row.length : Nat)) {lo hi : Option Int} {k : V → Prop} (a b : Int) (ha : lo.getD 0 = a) (hb : hi.getD n = b) (h1 : 0 ≤ a) (h2 : a ≤ b) (h3 : l + b ≤ RL) (h : ∀ l' n', l' = l + a → n' = b - a → k (.own id l' n')) :
 E.oslice sz H id l n lo hi none k := by
 subst hE; subst ha; subst hb; subst hl
 exact ⟨_, hk, ⟨h1, h2, by simp only [Option.getD_none]; omega, by simp only [Option.getD_none]; omega, fun h => by cases h⟩, h _ _ rfl rfl⟩
theorem r_br {c : Bool} {x y : Unit → Prop} (h1 : c = true → x ()) (h2 : c = false → y ()) : E.br c x y := by subst hE; exact ⟨h1, h2⟩
theorem r_ln {xs : List V} (hl : RL = (xs.length : Nat)) {k : Int → Prop} (h : k RL) : E.ln xs k := by subst hE; subst hl; exact h
theorem r_slnil {k : V → Prop} (h : k (.sl [] .nil)) : E.slice sz [] .nil none (some 0) none k := by
 subst hE
 exact ⟨⟨by decide, by decide, by decide, by decide, fun h => (by cases h), .inl (by decide)⟩, h⟩
theorem r_ocopy (hk : H id = some (.arr sz row)) {y : V} {ys' : List V} (hs : Src sz H y ys') {YL : Int} (hy : YL = (ys'.length : Nat)) {k : V → Heap → Prop}
 (h : ∀ m row', m = (if n < YL then n else YL) → row' = over row l.toNat (ys'.take n.toNat) → k (.int .i64 m) (upd H id (some (.arr sz row')))) : E.ocopy sz H (.own id l n) y k := by
 subst hE; subst hy; exact ⟨_, _, hk, hs, h _ _ rfl rfl⟩
theorem r_oappz0 {by_ : Nat} {z x : V} {i0 : Int} (i : Int) (hi : i0 = i) (hx : x = .sl [] .nil ∨ x = .sl [] .full) (h0 : 0 ≤ i) (hb : i.toNat * by_ ≤ 140737488355328) {k : V → Heap → Prop}
 (hout : ∀ t m row' j, H t = none → m = i → row' = List.replicate i.toNat z ++ List.replicate j z → k (.own t 0 m) (upd H t (some (.arr sz row')))) :
 E.oappz sz by_ z H x i0 k := by
 subst hE; subst hi
 generalize i0 = i at *
 have e : ((i.toNat : Nat) : Int) = i := by omega
 have key : appTo H k sz by_ z x (List.replicate i.toNat z) := by
  have h2 : (List.replicate i.toNat z).length * by_ ≤ 140737488355328 ∧ ∀ t j, H t = none → k (.own t 0 ((List.replicate i.toNat z).length : Nat)) (upd H t (some (.arr sz (List.replicate i.toNat z ++ List.replicate j z)))) := by
   refine ⟨by simpa using hb, fun t j ht => ?_⟩
   simp only [List.length_replicate, e]
   exact hout t _ _ j ht rfl rfl
  rcases hx with rfl | rfl
  ·exact ⟨.inl rfl, h2⟩
  ·exact ⟨.inr rfl, h2⟩
 refine ⟨⟨h0, ?_⟩, key⟩
 rcases hx with rfl | rfl <;> simpa [ownN] using hb
end
end Go.Ab

namespace Go.Ab
open Go.RowKit
theorem sub_at {A B C row : List V} {lo n : Int} (hr : row = A ++ B ++ C) (h0 : lo = (A.length : Nat)) (h1 : n = (B.length : Nat)) : subL row lo n = B := by
 subst hr; subst h0; subst h1; simp [subL]
theorem over_at {A B C ys row : List V} {i : Nat} (hr : row = A ++ B ++ C) (hi : i = A.length) (hl : ys.length = B.length) : over row i ys = A ++ ys ++ C := by
 subst hr; subst hi
 simp only [over, List.append_assoc, List.take_left]
 rw [show A.length + ys.length = A.length + B.length by omega, ← List.drop_drop]
 simp
theorem mul_bnd {a b by_ : Nat} (h : a + b ≤ 1073741824) (hb : by_ ≤ 131072) : (a + b) * by_ ≤ 140737488355328 := Nat.le_trans (Nat.mul_le_mul h hb) (by decide)
theorem lst_grow {α : Type} [Glob] [Ar] {f : α → V} {l r : List α} {n : Int} (h : growL l n = some r) : 0 ≤ n ∧ n ≤ 1073741824 ∧ Ar.lst f r = [] := by
 unfold growL at h
 split at h
 ·rename_i hc
  cases h
  exact ⟨hc.1, hc.2, by rw [Ar.lst_eq]; rfl⟩
 ·cases h
end Go.Ab

namespace Go.Ab
open Go.RowKit
variable [Glob]
end Go.Ab

namespace Go.Ab
open Go.RowKit
end Go.Ab

namespace Go.Ab
def textL (l : List Int) : Option ByteArray := some (strL l)
def getM {K X : Type} [DecidableEq K] (m : List (K × X)) (k : K) (z : X) : Option (X × Bool) := some (match m.find? (fun p => decide (p.1 = k)) with | some p => (p.2, true) | none => (z, false))
def setM {K X : Type} [DecidableEq K] (m : List (K × X)) (k : K) (v : X) : Option (List (K × X)) := some (if m.any (fun p => decide (p.1 = k)) = true then m.map (fun p => if p.1 = k then (k, v) else p) else m ++ [(k, v)])
end Go.Ab

namespace Go.Ab
def copyE {α : Type} (l : List α) (a : Int) (m : List α) : Option (List α × Int) :=
 if 0 ≤ a ∧ a ≤ (l.length : Nat) then some (l.take a.toNat ++ m.take (l.length - a.toNat) ++ l.drop (a.toNat + m.length), if (l.length : Int) - a < (m.length : Nat) then (l.length : Int) - a else (m.length : Nat)) else none
end Go.Ab

