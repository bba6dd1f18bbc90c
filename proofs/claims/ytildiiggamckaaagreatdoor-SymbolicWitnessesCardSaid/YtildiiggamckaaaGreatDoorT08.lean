/- AbB7 AbB8 AbB9 AbB10 AbS4 AbS5 AbS6 AbC1 AbS3 AbC2 AbC3 AbT1 AbB11 AbB16 AbH2 AbH3 AbB12 AbC4 AbF1 AbF2 -/
import Derived.Test.YtildiiggamckaaaGreatDoorT07
import Derived.Laws.Externs
import Derived.Sort.Grow
import Derived.Shelf.Sort.Plain
import Derived.Shelf.Slices.In.SortNone
import Derived.Shelf.Slices.CompactI
set_option linter.all false
namespace Go.Ab
open Go.RowKit
variable [H5] [Ar]
section
variable {P : Program} {T : Dt} {f : FuncId} {fn : Func} {c : Code} {n : Nat} {rs : List ResultVar} {args : List V}
theorem KO {H : A0} {sz : Nat} {q : OG} {xs' : List V} (cf : Cf) (hP : Lf P T) (hf : P.funcs[f]? = some fn) (hb : fn.body = some c) (hd : E9 cf c = true)
 (hcall : ∀ vals w, (callFunc f vals).run P w = .ok (.enter f vals) w) (hnt : fn.ntmps = n) (hrs : fn.results.toList = rs) (hn : Nat.ble (args.length + 1) n = true)
 (h : ∀ (E : CU) (K : V → A0 → Prop), E = E7 P n none →
  (∀ (t : Nat) (lo m : Int) (row pre rest : List V) H', row = pre ++ xs' ++ rest → lo = (pre.length : Nat) → m = (xs'.length : Nat) → (t = q.id ∨ H t = none) → Ds (upd (upd H q.id none) t (some (.arr sz row))) H' → K (.own t lo m) H') →
  run E T n cf c ⟨Ak (.own q.id q.lo q.n :: args) 0, []⟩ H (It E T rs K)) :
 E8 P f (.own q.id q.lo q.n :: args) H (QB (upd H q.id none) sz xs') := by
 refine E8.le (O7 (K := fun x H' => ∃ y H2, Z6 x y ∧ Ds H2 H' ∧ QB (upd H q.id none) sz xs' y H2) cf hP.1 hP.2 hf hb hd hcall hnt hrs hn fun E hE => ?_);refine h E _ hE fun t lo m row pre rest H' e1 e2 e3 e4 e5 => ?_;subst e1;refine ⟨_, _, .refl _, e5, ⟨t, lo, m, pre, rest⟩, rfl, ⟨e2, e3⟩, ?_, rfl⟩
 rcases e4 with e | e
 ·simp only [e, A9]
 simp only [upd]; split
 ·rfl
 exact e
end
section
variable {P : Program} {nt : Nat} {rd : Option Nat} {T : Dt} {E : CU}
variable (hE : E = E7 P nt rd)
include hE
variable {H : A0} {sz id : Nat} {l n RL : Int} {row : List V}
theorem P1 (hk : H id = some (.arr sz row)) (hl : RL = (row.length : Nat)) {lo hi : Option Int} {k : V → Prop} (a b : Int) (ha : lo.getD 0 = a) (hb : hi.getD n = b) (h1 : 0 ≤ a) (h2 : a ≤ b) (h3 : l + b ≤ RL) (h : ∀ l' n', l' = l + a → n' = b - a → k (.own id l' n')) :
 E.oslice sz H id l n lo hi none k := by
 subst hE; subst ha; subst hb; subst hl;exact ⟨_, hk, ⟨h1, h2, by simp only [Option.getD_none]; omega, by simp only [Option.getD_none]; omega, fun h => by cases h⟩, h _ _ rfl rfl⟩
theorem RY (hk : H id = some (.arr sz row)) (hl : RL = (row.length : Nat)) {lo hi : Option Int} {m : Int} {k : V → Prop} (a b : Int) (ha : lo.getD 0 = a) (hb : hi.getD n = b) (h1 : 0 ≤ a) (h2 : a ≤ b) (h3 : b ≤ m) (h4 : l + m ≤ RL) (h5 : hi.isSome = true) (h : k .bad) :
 E.oslice sz H id l n lo hi (some m) k := by
 subst hE; subst ha; subst hb; subst hl;exact ⟨_, hk, ⟨h1, h2, h3, by simp only [Option.getD_some]; omega, fun _ => h5⟩, h⟩
theorem WK (hk : H id = some (.arr sz row)) (hl : RL = (row.length : Nat)) {k : Int → Prop} (h : ∀ c, c = RL - l → k c) : E.ocap H id l k := by
 subst hE; exact ⟨_, _, hk, h _ (by rw [hl])⟩
theorem MQ {k : Int → Prop} (h : k n) : E.olen n k := by subst hE; exact h
theorem Ij {c : Bool} {x y : Unit → Prop} (h1 : c = true → x ()) (h2 : c = false → y ()) : E.br c x y := by subst hE; exact ⟨h1, h2⟩
theorem MR {xs : List V} (hl : RL = (xs.length : Nat)) {k : Int → Prop} (h : k RL) : E.ln xs k := by subst hE; subst hl; exact h
theorem Jn {k : V → Prop} (h : k (.sl [] .nil)) : E.slice sz [] .nil none (some 0) none k := by
 subst hE;exact ⟨⟨by decide, by decide, by decide, by decide, fun h => (by cases h), .inl (by decide)⟩, h⟩
theorem ME (hk : H id = some (.arr sz row)) : Jf sz H (.own id l n) (G8 row l n) := ⟨_, hk, .refl _⟩
theorem Hk (hk : H id = some (.arr sz row)) {y : V} {ys' : List V} (hs : Jf sz H y ys') {YL : Int} (hy : YL = (ys'.length : Nat)) {k : V → A0 → Prop}
 (h : ∀ m row', m = (if n < YL then n else YL) → row' = U4 row l.toNat (ys'.take n.toNat) → k (.int .i64 m) (upd H id (some (.arr sz row')))) : E.ocopy sz H (.own id l n) y k := by
 subst hE; subst hy; exact ⟨_, _, hk, hs, h _ _ rfl rfl⟩
theorem Tw {z : V} (hk : H id = some (.arr sz row)) {k : A0 → Prop} (h : ∀ row', row' = U4 row l.toNat (List.replicate n.toNat z) → k (upd H id (some (.arr sz row')))) : E.oclear sz z H (.own id l n) k := by
 subst hE; exact ⟨_, hk, h _ rfl⟩
theorem Tx {by_ : Nat} {z : V} (hk : H id = some (.arr sz row)) (hl : RL = (row.length : Nat)) {y : V} {ys' : List V} (hs : Jf sz H y ys') {YL : Int} (hy : YL = (ys'.length : Nat)) {k : V → A0 → Prop}
 (hin : l + n + YL ≤ RL → ∀ m row', m = n + YL → row' = U4 row (l + n).toNat ys' → k (.own id l m) (upd H id (some (.arr sz row'))))
 (hout : RL < l + n + YL → (n.toNat + ys'.length) * by_ ≤ 140737488355328 ∧ ∀ t m row' j, H t = none → m = n + YL → row' = G8 row l n ++ ys' ++ List.replicate j z → k (.own t 0 m) (upd H t (some (.arr sz row')))) :
 E.oapp sz by_ z H (.own id l n) y k := by
 subst hE; subst hl; subst hy;exact ⟨_, hs, _, hk, fun e => hin e _ _ rfl rfl, fun e => ⟨(hout e).1, fun t j ht => (hout e).2 t _ _ j ht rfl rfl⟩⟩
theorem Ve {by_ : Nat} {z : V} {i0 : Int} (i : Int) (hi : i0 = i) (hk : H id = some (.arr sz row)) (hl : RL = (row.length : Nat)) (h0 : 0 ≤ i) (hb : (n.toNat + i.toNat) * by_ ≤ 140737488355328) {k : V → A0 → Prop}
 (hin : l + n + i ≤ RL → ∀ m row', m = n + i → row' = U4 row (l + n).toNat (List.replicate i.toNat z) → k (.own id l m) (upd H id (some (.arr sz row'))))
 (hout : RL < l + n + i → ∀ t m row' j, H t = none → m = n + i → row' = G8 row l n ++ List.replicate i.toNat z ++ List.replicate j z → k (.own t 0 m) (upd H t (some (.arr sz row')))) :
 E.oappz sz by_ z H (.own id l n) i0 k := by
 subst hE; subst hl; subst hi
 generalize i0 = i at *
 have e : ((i.toNat : Nat) : Int) = i := by omega
 have hbn : n.toNat + i.toNat ≤ (n.toNat + i.toNat) * by_ ∨ by_ = 0 := by
  rcases Nat.eq_zero_or_pos by_ with h | h
  ·exact .inr h
  exact .inl (Nat.le_mul_of_pos_right _ h)
 refine ⟨⟨h0, hb⟩, _, hk, fun hle => ?_, fun hlt => ⟨?_, fun t j ht => ?_⟩⟩
 ·simp only [List.length_replicate, e] at hle ⊢
  exact hin hle _ _ rfl rfl
 ·simpa using hb
 simp only [List.length_replicate, e] at hlt ⊢
 exact hout hlt t _ _ j ht rfl rfl
theorem Hl {by_ : Nat} {z x : V} {i0 : Int} (i : Int) (hi : i0 = i) (hx : x = .sl [] .nil ∨ x = .sl [] .full) (h0 : 0 ≤ i) (hb : i.toNat * by_ ≤ 140737488355328) {k : V → A0 → Prop}
 (hout : ∀ t m row' j, H t = none → m = i → row' = List.replicate i.toNat z ++ List.replicate j z → k (.own t 0 m) (upd H t (some (.arr sz row')))) :
 E.oappz sz by_ z H x i0 k := by
 subst hE; subst hi
 generalize i0 = i at *
 have e : ((i.toNat : Nat) : Int) = i := by omega
 have key : Gt H k sz by_ z x (List.replicate i.toNat z) := by
  have h2 : (List.replicate i.toNat z).length * by_ ≤ 140737488355328 ∧ ∀ t j, H t = none → k (.own t 0 ((List.replicate i.toNat z).length : Nat)) (upd H t (some (.arr sz (List.replicate i.toNat z ++ List.replicate j z)))) := by
   refine ⟨by simpa using hb, fun t j ht => ?_⟩;simp only [List.length_replicate, e];exact hout t _ _ j ht rfl rfl
  rcases hx with rfl | rfl
  ·exact ⟨.inl rfl, h2⟩
  exact ⟨.inr rfl, h2⟩
 refine ⟨⟨h0, ?_⟩, key⟩
 rcases hx with rfl | rfl <;> simpa [ownN] using hb
end
end Go.Ab
namespace Go.Ab
open Go.RowKit
theorem Ia {A B C row : List V} {lo n : Int} (hr : row = A ++ B ++ C) (h0 : lo = (A.length : Nat)) (h1 : n = (B.length : Nat)) : G8 row lo n = B := by
 subst hr; subst h0; subst h1; simp [G8]
theorem EC {A B C ys row : List V} {i : Nat} (hr : row = A ++ B ++ C) (hi : i = A.length) (hl : ys.length = B.length) : U4 row i ys = A ++ ys ++ C := by
 subst hr; subst hi;simp only [U4, List.append_assoc, List.take_left];rw [show A.length + ys.length = A.length + B.length by omega, ← List.drop_drop];simp
theorem UT {row ys : List V} {l n m RL : Int} (hRL : RL = (row.length : Nat)) (hy : m = (ys.length : Nat)) (h0 : 0 ≤ l) (h1 : 0 ≤ n) (h : l + n + m ≤ RL) : (l + n).toNat + ys.length ≤ row.length := by omega
theorem VW {pre xs rest row row1 row2 : List V} {z : V} {lo i j n l1 n1 l2 n2 m l3 n3 : Int} (hr : row = pre ++ xs ++ rest) (e1 : lo = (pre.length : Nat)) (e2 : n = (xs.length : Nat)) (h0 : 0 ≤ i) (h1 : i ≤ j) (h2 : j ≤ (xs.length : Nat))
 (q1 : l1 = lo) (q2 : n1 = i) (q3 : l2 = lo + j) (q4 : n2 = n - j) (hr1 : row1 = U4 row (l1 + n1).toNat (G8 row l2 n2)) (q5 : m = n1 + ((G8 row l2 n2).length : Nat)) (q6 : l3 = l1 + m) (q7 : n3 = n - m) (hr2 : row2 = U4 row1 l3.toNat (List.replicate n3.toNat z)) :
 row2 = pre ++ (xs.take i.toNat ++ xs.drop j.toNat) ++ (List.replicate (j - i).toNat z ++ rest) ∧ m = ((xs.take i.toNat ++ xs.drop j.toNat).length : Nat) := by
 have e3 : G8 row l2 n2 = xs.drop j.toNat := by
  refine Ia (A := pre ++ xs.take j.toNat) (C := rest) ?_ ?_ ?_
  ·rw [hr]; simp only [List.append_assoc]; congr 1; rw [← List.append_assoc, List.take_append_drop]
  ·simp; omega
  simp; omega
 rw [e3] at hr1 q5
 have hm : m = ((xs.take i.toNat ++ xs.drop j.toNat).length : Nat) := by simp at q5 ⊢; omega
 refine ⟨?_, hm⟩
 have hr1' : row1 = (pre ++ xs.take i.toNat) ++ xs.drop j.toNat ++ ((xs.drop i.toNat).drop (xs.length - j.toNat) ++ rest) := by
  rw [hr1];refine EC (B := (xs.drop i.toNat).take (xs.length - j.toNat)) ?_ ?_ ?_
  ·rw [hr];simp only [List.append_assoc]
   congr 1
   rw [← List.append_assoc ((xs.drop i.toNat).take _), List.take_append_drop, ← List.append_assoc, List.take_append_drop]
  ·simp; omega
  simp; omega
 rw [hr2];have := EC (row := row1) (A := pre ++ xs.take i.toNat ++ xs.drop j.toNat) (B := (xs.drop i.toNat).drop (xs.length - j.toNat)) (C := rest) (ys := List.replicate n3.toNat z) (i := l3.toNat) (by rw [hr1']; simp only [List.append_assoc]) (by simp at hm ⊢; omega) (by simp; simp at hm; omega);rw [this, show n3.toNat = (j - i).toNat by simp at hm; omega];simp only [List.append_assoc]
theorem WG [H5] {H : A0} {id : Nat} {b : AI} (h : H id = some b) : Ds (Go.Ab.upd H id (some b)) H := fun y c hy => by
 by_cases ey : y = id
 ·subst ey; rw [A9] at hy; cases hy; exact h
 rwa [A4 _ _ ey] at hy
theorem Rh [H5] {H : A0} {id t : Nat} {b : Option AI} : Ds (Go.Ab.upd (Go.Ab.upd H id none) t b) (Go.Ab.upd H t b) := fun x d hx => by
 by_cases e : x = t
 ·subst e; rw [A9] at hx ⊢; exact hx
 rw [A4 _ _ e] at hx ⊢
 by_cases e2 : x = id
 ·subst e2; rw [A9] at hx; cases hx
 rwa [A4 _ _ e2] at hx
theorem Ga {a b by_ : Nat} (h : a + b ≤ 1073741824) (hb : by_ ≤ 131072) : (a + b) * by_ ≤ 140737488355328 := Nat.le_trans (Nat.mul_le_mul h hb) (by decide)
theorem VE {α : Type} [Ar] {f : α → V} {l r : List α} {i j : Int} (h : Nq l i j = some r) : 0 ≤ i ∧ i ≤ j ∧ j ≤ ((Ar.lst f l).length : Nat) ∧ Ar.lst f r = (Ar.lst f l).take i.toNat ++ (Ar.lst f l).drop j.toNat := by
 unfold Nq at h
 split at h
 ·rename_i hc;cases h;exact ⟨hc.1, hc.2.1, by rw [Ar.lst_eq]; simpa using hc.2.2, by simp [Ar.lst_eq]⟩
 cases h
theorem VD {α : Type} [Ar] {f : α → V} {l r m : List α} {i : Int} (h : Ng l i m = some r) : 0 ≤ i ∧ i ≤ ((Ar.lst f l).length : Nat) ∧ (Ar.lst f l).length + (Ar.lst f m).length ≤ 1073741824 ∧ Ar.lst f r = (Ar.lst f l).take i.toNat ++ Ar.lst f m ++ (Ar.lst f l).drop i.toNat := by
 unfold Ng at h
 split at h
 ·rename_i hc;cases h;exact ⟨hc.1, by rw [Ar.lst_eq]; simpa using hc.2.1, by simpa [Ar.lst_eq] using hc.2.2, by simp [Ar.lst_eq]⟩
 cases h
theorem Hv {α : Type} [H5] [Ar] {f : α → V} {l r : List α} {n : Int} (h : LZ l n = some r) : 0 ≤ n ∧ n ≤ 1073741824 ∧ Ar.lst f r = [] := by
 unfold LZ at h
 split at h
 ·rename_i hc;cases h;exact ⟨hc.1, hc.2, by rw [Ar.lst_eq]; rfl⟩
 cases h
end Go.Ab
namespace Go.Ab
open Go.RowKit
variable [H5]
theorem MO {P : Program} {g : Gh} {H : A0} {w : World} (hR : Rl g H w) {tS tR e : TypeId} {sz id : Nat} {lo n : Int} {xs row : List V} {t : D8} {v u : Value} (hu : BY P tS = some e) (hs : BF P e = some sz) (hk : H id = some (.arr sz row))
 (hall : xs.all (fun x => x.cells.length == sz) = true) (hv : VR g w v (.sl xs t)) (hw : VR g w u (.own id lo n)) : (Extern.SlicesOverlaps.overlaps #[tS, tS] #[tR] #[v, u]).run P w = .ok (.bool false) w := by
 obtain ⟨b, p, h1, h2, h3, h4, h5, h6, h7, h8, h9, h10⟩ := Bo hR hk hw;obtain ⟨base, cap, vs, f1, f2, f3, f4, f5⟩ := Bb (P := P) hv hall;have ht := I6 hu;have hz := I1 hs;subst f1; subst h2;obtain ⟨la, hla⟩ : ∃ la, la = xs.length := ⟨_, rfl⟩;obtain ⟨lb, hlb⟩ : ∃ lb, lb = n.toNat := ⟨_, rfl⟩;rw [← hla, ← hlb]
 change Sem.run P (α := Value) (do
  let some t := (#[tS, tS] : Array TypeId)[0]? | stuck "slices.overlaps: no parameter types"
  let .slice elem ← underlying t | stuck "slices.overlaps: slice type expected"
  let size ← sizeOf elem
  match base, p with
  | some a, some b =>
   if la = 0 ∨ lb = 0 ∨ size = 0 then pure (Value.bool false)
   else if a.block != b.block && (← frozen a) && (← frozen b) then unsupported .addressObserved
   else do
    if a.block != b.block then do
     noView a; noView b
     if ← mayBeOne a b then return Value.bool ((← choose (.extern "sameAddr.stringBytes" 2)) == 1)
    pure (Value.bool (a.block == b.block && a.off < b.off + lb * size && b.off < a.off + la * size))
  | _, _ => pure (Value.bool false)) w = _
 rcases f5 with ⟨hx, _⟩ | ⟨vb, vo, rfl, f6, f7, _⟩
 ·have hla0 : la = 0 := by rw [hla, hx]; rfl
  cases base <;> cases p <;> simp [run_underlying ht, hz, hla0]
 cases p with
 | none => simp [run_underlying ht, hz]
 | some q =>
  by_cases h0 : la = 0 ∨ lb = 0 ∨ sz = 0
  ·simp [run_underlying ht, hz, h0]
  have hx0 : 0 < xs.length := by omega
  have hn0 : 0 < n.toNat := by omega
  have hs0 : 0 < sz := by omega
  have hq := h8 (by omega);cases hq
  rcases h10 with h10 | ⟨c, T, k1, k2, k3, k4, k5, k6⟩
  ·omega
  have hc0 : 0 < c.size := by
   have := Nat.mul_le_mul_right sz (show 1 ≤ row.length by omega);omega
  have hfb : ∀ o, w.frozen? ⟨b, o, none⟩ = false := fun o => by simp [World.frozen?, k2]
  have hsb : w.shape? b = some (T, c.size) := by simp [World.shape?, k2]
  have hva := f6 0 0 hx0 hs0
  obtain ⟨tA, kA, hsa⟩ : ∃ tA kA, w.shape? vb = some (tA, kA + 1) := by
   have := hva.2
   simp only [World.cell?] at this
   split at this
   ·rename_i c' e' _ hh
    simp at this
    have hlt : vo + 0 * sz + 0 < c'.size := by
     rcases Nat.lt_or_ge (vo + 0 * sz + 0) c'.size with h | h
     ·exact h
     rw [Array.getElem?_eq_none (by simpa using h)] at this; cases this
    exact ⟨e', c'.size - 1, by simp [World.shape?, hh]; omega⟩
   cases this
  by_cases hne : vb = b
  ·subst hne;have hlast := (f6 (xs.length - 1) (sz - 1) (by omega) (by omega)).1
   have hlt : vo + xs.length * sz ≤ (g.ow id).o := by
    rcases Nat.lt_or_ge (vo + (xs.length - 1) * sz + (sz - 1)) (g.ow id).o with hh | hh
    ·have : xs.length * sz = (xs.length - 1) * sz + sz := by rw [← Nat.succ_mul]; congr 1; omega
     omega
    exact absurd hlast (k5 _ hh)
   have h1' : ¬ ((g.ow id).o + lo.toNat * sz < vo + la * sz) := by rw [hla]; omega
   simp [run_underlying ht, hz, h0, h1']
  have hnb : (vb != b) = true := by simpa using hne
  have hnb' : (vb == b) = false := by simpa using hne
  obtain ⟨kB, hkB⟩ : ∃ kB, c.size = kB + 1 := ⟨c.size - 1, by omega⟩
  rw [hkB] at hsb
  simp [run_underlying ht, hz, h0, hnb, hnb', frozen, noView, viewAt, mayBeOne, stringish, shape, Sem.run, hsa, hsb, hfb]
theorem KS {P : Program} {f : FuncId} {tS tR e : TypeId} {sz id : Nat} {lo n : Int} {xs row : List V} {t : D8} {H : A0} (hrun : ∀ vals w, (callFunc f vals).run P w = ((Extern.SlicesOverlaps.overlaps #[tS, tS] #[tR] vals).run P w).andThen fun v w => .ok (.value v) w)
 (hu : BY P tS = some e) (hs : BF P e = some sz) (hk : H id = some (.arr sz row)) (hall : xs.all (fun x => x.cells.length == sz) = true) : E8 P f [.sl xs t, .own id lo n] H fun x H' => x = .bool false ∧ H' = H := by
 intro g w vals hR hA;obtain ⟨hl, hv⟩ := hA;obtain ⟨vals⟩ := vals
 match vals, hl with
 | [v, u], _ =>
  have h1 := hv 0 (by simp);have h2 := hv 1 (by simp)
  simp at h1 h2
  rw [hrun, MO hR hu hs hk hall h1 h2];exact H7.here hR (.bool _) ⟨rfl, rfl⟩
theorem Vf [Ar] {P : Program} {nt : Nat} {rd : Option Nat} {E : CU} (hE : E = E7 P nt rd) {fid : FuncId} {args : List V} {r : V} {H : A0} {k : V → A0 → Prop} (h : E8 P fid args H fun x H' => x = r ∧ H' = H) (hk : k r H) : E.call (.func (.func fid) [] []) args H k := by
 subst hE;refine E8.value (F := []) (C := []) ?_;simp only [List.nil_append, List.append_nil]
 exact h.mono fun x H' ⟨e1, e2⟩ => by rw [e1, e2]; exact hk
end Go.Ab
namespace Go.Ab
open Go.RowKit
theorem VO [H5] [Ar] {pre xs rest row vs row1 : List V} {lo n mm m : Int} (hr : row = pre ++ xs ++ rest) (e1 : lo = (pre.length : Nat)) (e2 : n = (xs.length : Nat)) (e3 : mm = (vs.length : Nat)) (q5 : m = n + mm) (hr1 : row1 = U4 row (lo + n).toNat vs) :
 row1 = pre ++ (xs ++ vs) ++ rest.drop vs.length ∧ m = ((xs ++ vs).length : Nat) := by
 refine ⟨?_, by simp; omega⟩;rw [hr1, hr, Om (by omega)]
theorem Ud {pre xs rest row vs row1 : List V} {z : V} {j : Nat} {lo n mm m : Int} (hr : row = pre ++ xs ++ rest) (e1 : lo = (pre.length : Nat)) (e2 : n = (xs.length : Nat)) (e3 : mm = (vs.length : Nat)) (q5 : m = n + mm) (hr1 : row1 = G8 row lo n ++ vs ++ List.replicate j z) :
 row1 = [] ++ (xs ++ vs) ++ List.replicate j z ∧ m = ((xs ++ vs).length : Nat) := by
 refine ⟨?_, by simp; omega⟩;rw [hr1, Ia hr e1 e2, List.nil_append]
theorem VN {pre xs rest row vs row2 row3 row4 : List V} {z : V} {jz : Nat} {lo n i mm d m l1 n1 l2 n2 l3 n3 : Int} (hr : row = pre ++ xs ++ rest) (e1 : lo = (pre.length : Nat)) (e2 : n = (xs.length : Nat)) (e3 : mm = (vs.length : Nat)) (h0 : 0 ≤ i) (h1 : i ≤ (xs.length : Nat))
 (qd : d = n + mm - i) (qm : m = i + d) (hr2 : row2 = G8 row lo i ++ List.replicate d.toNat z ++ List.replicate jz z) (q1 : l1 = i) (q2 : n1 = m - i) (hr3 : row3 = U4 row2 l1.toNat (vs.take n1.toNat)) (q3 : l2 = i + mm) (q4 : n2 = m - (i + mm))
 (q5 : l3 = lo + i) (q6 : n3 = n - i) (hr4 : row4 = U4 row3 l2.toNat ((G8 row l3 n3).take n2.toNat)) :
 row4 = [] ++ (xs.take i.toNat ++ vs ++ xs.drop i.toNat) ++ List.replicate jz z ∧ m = ((xs.take i.toNat ++ vs ++ xs.drop i.toNat).length : Nat) := by
 have s1 : G8 row lo i = xs.take i.toNat := Ia (A := pre) (C := xs.drop i.toNat ++ rest) (by rw [hr]; simp only [List.append_assoc]; rw [← List.append_assoc (xs.take _), List.take_append_drop]) e1 (by simp; omega);have s2 : G8 row l3 n3 = xs.drop i.toNat := Ia (A := pre ++ xs.take i.toNat) (C := rest) (by rw [hr]; simp only [List.append_assoc]; congr 1; rw [← List.append_assoc, List.take_append_drop]) (by simp; omega) (by simp; omega);have hvt : vs.take n1.toNat = vs := List.take_of_length_le (by omega);have hxt : (xs.drop i.toNat).take n2.toNat = xs.drop i.toNat := List.take_of_length_le (by simp; omega)
 rw [s1] at hr2
 rw [hvt] at hr3
 rw [s2, hxt] at hr4
 have hz : List.replicate d.toNat z = List.replicate vs.length z ++ List.replicate (xs.drop i.toNat).length z := by
  rw [List.replicate_append_replicate]; congr 1; simp; omega
 rw [hz] at hr2
 have hr3' : row3 = xs.take i.toNat ++ vs ++ (List.replicate (xs.drop i.toNat).length z ++ List.replicate jz z) := by
  rw [hr3];exact EC (B := List.replicate vs.length z) (by rw [hr2]; simp only [List.append_assoc]) (by simp; omega) (by simp)
 refine ⟨?_, by simp; omega⟩;rw [hr4, List.nil_append];rw [EC (A := xs.take i.toNat ++ vs) (B := List.replicate (xs.drop i.toNat).length z) (C := List.replicate jz z) (by rw [hr3']; simp only [List.append_assoc]) (by simp; omega) (by simp)]
theorem WT {pre xs rest row vs row1 row2 : List V} {lo n i mm m l0 l1 n1 l2 n2 l3 n3 : Int} (hr : row = pre ++ xs ++ rest) (e1 : lo = (pre.length : Nat)) (e2 : n = (xs.length : Nat)) (e3 : mm = (vs.length : Nat)) (h0 : 0 ≤ i) (h1 : i ≤ (xs.length : Nat)) {RL : Int} (hRL : RL = (row.length : Nat)) (hfit : lo + n + mm ≤ RL)
 (qm : m = n + mm) (ql : l0 = lo) (q1 : l1 = l0 + (i + mm)) (q2 : n1 = m - (i + mm)) (q3 : l2 = l0 + i) (q4 : n2 = m - i) (hr1 : row1 = U4 row l1.toNat ((G8 row l2 n2).take n1.toNat)) (q5 : l3 = l0 + i) (q6 : n3 = m - i) (hr2 : row2 = U4 row1 l3.toNat (vs.take n3.toNat)) :
 row2 = pre ++ (xs.take i.toNat ++ vs ++ xs.drop i.toNat) ++ rest.drop vs.length ∧ m = ((xs.take i.toNat ++ vs ++ xs.drop i.toNat).length : Nat) := by
 have hrl : vs.length ≤ rest.length := by subst hRL; rw [hr] at hfit; simp at hfit; omega
 have hvt : vs.take n3.toNat = vs := List.take_of_length_le (by omega)
 have s2 : (G8 row l2 n2).take n1.toNat = xs.drop i.toNat := by
  have : G8 row l2 n2 = xs.drop i.toNat ++ rest.take vs.length := Ia (A := pre ++ xs.take i.toNat) (C := rest.drop vs.length) (by
   rw [hr]; simp only [List.append_assoc]; rw [List.take_append_drop]; congr 1; rw [← List.append_assoc, List.take_append_drop]) (by simp; omega) (by simp; omega)
  rw [this];rw [List.take_append_of_le_length (by simp; omega), List.take_of_length_le (by simp; omega)]
 rw [s2] at hr1
 rw [hvt] at hr2
 have hr1' : row1 = (pre ++ xs.take i.toNat ++ (xs.drop i.toNat ++ rest.take vs.length).take vs.length) ++ xs.drop i.toNat ++ rest.drop vs.length := by
  rw [hr1];refine EC (B := (xs.drop i.toNat ++ rest.take vs.length).drop vs.length) ?_ ?_ ?_
  ·rw [hr];simp only [List.append_assoc]
   congr 1
   rw [← List.append_assoc ((xs.drop i.toNat ++ rest.take vs.length).take _), List.take_append_drop];simp only [List.append_assoc];rw [List.take_append_drop, ← List.append_assoc, List.take_append_drop]
  ·simp; omega
  simp; omega
 refine ⟨?_, by simp; omega⟩;rw [hr2];rw [EC (A := pre ++ xs.take i.toNat) (B := (xs.drop i.toNat ++ rest.take vs.length).take vs.length) (C := xs.drop i.toNat ++ rest.drop vs.length) (by rw [hr1']; simp only [List.append_assoc]) (by simp; omega) (by simp; omega)];simp only [List.append_assoc]
end Go.Ab
namespace Go.Ab
def Z5 {K X : Type} [DecidableEq K] (m : List (K × X)) (k : K) (z : X) : Option (X × Bool) := some (match m.find? (fun p => decide (p.1 = k)) with | some p => (p.2, true) | none => (z, false))
def Y6 {K X : Type} [DecidableEq K] (m : List (K × X)) (k : K) (v : X) : Option (List (K × X)) := some (if m.any (fun p => decide (p.1 = k)) = true then m.map (fun p => if p.1 = k then (k, v) else p) else m ++ [(k, v)])
end Go.Ab
namespace Go.Ab
def OX {α : Type} (l : List α) (a : Int) (m : List α) : Option (List α × Int) :=
 if 0 ≤ a ∧ a ≤ (l.length : Nat) then some (l.take a.toNat ++ m.take (l.length - a.toNat) ++ l.drop (a.toNat + m.length), if (l.length : Int) - a < (m.length : Nat) then (l.length : Int) - a else (m.length : Nat)) else none
end Go.Ab
namespace Go.Ab
def EG {α : Type} (x : α) : List α → List (List α)
 | [] => [[x]]
 | y :: l => (x :: y :: l) :: (EG x l).map (y :: ·)
def Fo {α : Type} : List α → List (List α)
 | [] => [[]]
 | x :: l => (Fo l).flatMap (EG x)
theorem Kr {α : Type} (x : α) : ∀ (a b : List α), a ++ x :: b ∈ EG x (a ++ b)
 | [], [] => by simp [EG]
 | [], y :: b => by simp [EG]
 | y :: a, b => by
  simp only [List.cons_append, EG, List.mem_cons, List.mem_map];exact .inr ⟨_, Kr x a b, rfl⟩
theorem JY {α : Type} : ∀ {l m : List α}, m.Perm l → m ∈ Fo l
 | [], m, h => by simp [Fo, h.eq_nil]
 | x :: l, m, h => by
  have hx : x ∈ m := h.mem_iff.2 (by simp);obtain ⟨a, b, rfl⟩ := List.append_of_mem hx;have h2 : (a ++ b).Perm l := (List.perm_cons x).1 (List.perm_middle.symm.trans h);simp only [Fo, List.mem_flatMap];exact ⟨a ++ b, JY h2, Kr x a b⟩
def Qq {σ R : Type} (fin : σ → R) : σ ⊕ R → R
 | .inl s => fin s
 | .inr y => y
def V3 {α σ R ρ : Type} [DecidableEq ρ] (step : σ → α → Option (σ ⊕ R)) (fin : σ → R) (nrm : R → ρ) (l : List α) (s : σ) : Option ρ :=
 match (D0 step l s).map fun q => nrm (Qq fin q) with
 | none => none
 | some r => if (Fo l).all (fun m => decide ((D0 step m s).map (fun q => nrm (Qq fin q)) = some r)) = true then some r else none
theorem Oh {α σ R ρ : Type} [DecidableEq ρ] {step : σ → α → Option (σ ⊕ R)} {fin : σ → R} {nrm : R → ρ} {l : List α} {s : σ} {r : ρ} (h : V3 step fin nrm l s = some r) {m : List α} (hp : m.Perm l) :
 ∃ q, D0 step m s = some q ∧ nrm (Qq fin q) = r := by
 unfold V3 at h
 split at h
 ·cases h
 split at h
 ·rename_i r' _ hall;cases h;have := List.all_eq_true.1 hall m (JY hp);have := of_decide_eq_true this
  cases hq : D0 step m s with
  | none => rw [hq] at this; cases this
  | some q => rw [hq] at this; exact ⟨q, rfl, by simpa using this⟩
 cases h
theorem IK {α : Type} : ∀ {l m : List α}, m ∈ Fo l → m.Perm l
 | [], m, h => by simp only [Fo, List.mem_singleton] at h; rw [h]
 | x :: l, m, h => by
  simp only [Fo, List.mem_flatMap] at h
  obtain ⟨n, h1, h2⟩ := h
  have key : ∀ (n m : List α), m ∈ EG x n → m.Perm (x :: n) := by
   intro n
   induction n with
   | nil => intro m h; simp only [EG, List.mem_singleton] at h; rw [h]
   | cons y n ih =>
    intro m h
    simp only [EG, List.mem_cons, List.mem_map] at h
    rcases h with rfl | ⟨q, hq, rfl⟩
    ·exact .refl _
    exact ((ih q hq).cons y).trans (List.Perm.swap x y n)
  exact (key n m h2).trans ((IK h1).cons x)
theorem Ef {α σ R ρ : Type} [DecidableEq ρ] {step : σ → α → Option (σ ⊕ R)} {fin : σ → R} {nrm : R → ρ} {l : List α} {s : σ} {r : ρ} (h : ∀ m, m.Perm l → (D0 step m s).map (fun q => nrm (Qq fin q)) = some r) : V3 step fin nrm l s = some r := by
 unfold V3;rw [h l (.refl _)]
 simp only
 rw [if_pos];exact List.all_eq_true.2 fun m hm => decide_eq_true (h m (IK hm))
def Hz {X : Type} (p : Int × X) : List (Int × X) → List (Int × X)
 | [] => [p]
 | q :: l => if p.1 ≤ q.1 then p :: q :: l else q :: Hz p l
def AC {X : Type} : List (Int × X) → List (Int × X)
 | [] => []
 | p :: l => Hz p (AC l)
theorem LV {X : Type} (p : Int × X) : ∀ l, (Hz p l).Perm (p :: l)
 | [] => .refl _
 | q :: l => by
  unfold Hz
  split
  ·exact .refl _
  exact ((LV p l).cons q).trans (List.Perm.swap p q l)
theorem BJ {X : Type} : ∀ l : List (Int × X), (AC l).Perm l
 | [] => .refl _
 | p :: l => (LV p _).trans ((BJ l).cons p)
end Go.Ab
namespace Go.Ab
open Go.RowKit Go.Sort
variable [H5]
theorem Rl.more {g : Gh} {H : A0} {w w' : World} (h : Rl g H w) (hb : Below g.base w w') (hs : ∀ b, b < w.heap.size → w'.heap[b]? = w.heap[b]?) : N4 g w g w' ∧ Rl g H w' := by
 have s : N4 g w g w' := ⟨fun _ _ e => e, fun _ _ e => e, fun _ _ e => e, rfl, fun b o hf => by simp only [World.cell?, hs b (h.fz_lt hf)], hb, fun _ _ _ => rfl⟩;exact ⟨s, fun x k hx => (h.blk x k hx).mono hx s fun y hy => ⟨hs y (h.lt hy), fun _ ho => ho⟩, h.inj, fun b o hf => by obtain ⟨v, hv⟩ := h.frz b o hf; exact ⟨v, (s.cell b o hf).trans hv⟩, h.nxt, Nat.le_trans h.bnd hb.size, fun n => (h.glb n).mono s⟩
def Ih (q : OG) (zs : List Int) : List V := q.pre ++ zs.map (V.int .i64) ++ q.rest
theorem CY (q : OG) (zs : List Int) : (Ih q zs).length = q.pre.length + zs.length + q.rest.length := by simp [Ih]; omega
theorem JP {q : OG} {zs : List Int} {j : Nat} (hj : j < zs.length) : (Ih q zs).getD (q.pre.length + j) .bad = .int .i64 zs[j] := by
 unfold Ih;rw [List.append_assoc, List.getD_eq_getElem?_getD, List.getElem?_append_right (by omega), Nat.add_sub_cancel_left, List.getElem?_append_left (by simpa using hj), List.getElem?_map, List.getElem?_eq_getElem hj];rfl
theorem Oc {q : OG} {zs ds : List Int} (hl : ds.length = zs.length) {i : Nat} (hi : i < q.pre.length ∨ q.pre.length + ds.length ≤ i) : (Ih q ds).getD i .bad = (Ih q zs).getD i .bad := by
 unfold Ih;simp only [List.append_assoc, List.getD_eq_getElem?_getD]
 rcases hi with hi | hi
 ·rw [List.getElem?_append_left hi, List.getElem?_append_left hi]
 have key : ∀ l : List V, l.length = zs.length → (q.pre ++ (l ++ q.rest))[i]? = q.rest[i - q.pre.length - zs.length]? := fun l h => by
  rw [List.getElem?_append_right (by omega), List.getElem?_append_right (by omega), h]
 rw [key _ (by simp [hl]), key _ (by simp)]
theorem Vj {off : Nat} {ds : List Int} {c : Array Value} {k : Nat} (hk : k < c.size) : (putCells (Value.int .i64) off ds.toArray c).getD k undef = if off ≤ k ∧ k < off + ds.length then .int .i64 (ds.toArray[k - off]!) else c.getD k undef := by
 unfold putCells;simp only [Array.getD, Array.size_mapIdx, hk, dif_pos, Array.getInternal_eq_getElem, Array.getElem_mapIdx, List.size_toArray]
def UH (P : Program) (f : FuncId) (zs ds : List Int) (r : OG → V) : Prop :=
 ∀ H (q : OG), X6 q (zs.length : Nat) → H q.id = some (.arr 1 (Ih q zs)) → E8 P f [.own q.id q.lo q.n] H fun x H' => x = r q ∧ H' = upd H q.id (some (.arr 1 (Ih q ds)))
theorem Pa {P : Program} {f : FuncId} {zs ds : List Int} {r : OG → V} {m : Nat} (hl : ds.length = zs.length)
 (hrun : ∀ vals w, (callFunc f vals).run P w = .ok (.enter f vals) w)
 (h0 : zs = [] → ∀ p cap w, Calls P f #[.slice p 0 cap] w fun e w' => ∃ v, e = .returned v ∧ w' = w ∧ (v = .slice p 0 cap ∧ (∀ q, X6 q (zs.length : Nat) → r q = .own q.id q.lo q.n) ∨ v = .tuple #[] ∧ ∀ q, r q = .tup []))
 (h1 : ∀ blk off cap w, 0 < zs.length → zs.length ≤ cap → Holds (Value.int .i64) w blk off zs.toArray → blk < w.heap.size →
  Calls P f #[.slice (some ⟨blk, off, none⟩) zs.length cap] w fun e w' => ∃ v, e = .returned v ∧ (v = .slice (some ⟨blk, off, none⟩) m cap ∧ m ≤ zs.length ∧ (∀ q, r q = .own q.id q.lo (m : Nat)) ∨ v = .tuple #[] ∧ ∀ q, r q = .tup []) ∧
   ∃ n os, w' = grow (putRow (Value.int .i64) (Sort.ahead w n) blk off ds.toArray) os) : UH P f zs ds r := by
 intro H q hq hk g w vals hR hA;obtain ⟨hlen, hv⟩ := hA;obtain ⟨vals⟩ := vals
 match vals, hlen with
 | [v], _ =>
  have hv1 := hv 0 (by simp)
  simp at hv1
  rw [hrun]
  show CallsIn Fence.wide 0 P f #[v] w _
  rw [callsIn_wide];have hq0 := hq;obtain ⟨hlo, hn⟩ := hq;obtain ⟨b, p, e1, e2, e3, e4, e5, e6, e7, e8, e9, e10⟩ := Bo hR hk hv1
  rw [CY] at e2 e5 e7 e8 e10
  subst e2
  have hnn : q.n.toNat = zs.length := by omega
  by_cases hz : zs = []
  ·subst hz;have hd : ds = [] := List.length_eq_zero_iff.1 hl;subst hd;rw [hnn];refine (h0 rfl p _ w).mono ?_;rintro e w' ⟨v, rfl, rfl, hcase⟩;refine ⟨v, rfl, g, r q, H, N4.refl _ _, hR, ?_, rfl, ?_⟩
   ·rcases hcase with ⟨rfl, hr⟩ | ⟨rfl, hr⟩
    ·rw [hr q hq0]; rw [hnn] at hv1; exact hv1
    rw [hr]; exact VR.und g w'
   funext x
   by_cases hx : x = q.id
   ·subst hx; rw [A9]; exact hk
   rw [A4 _ _ hx]
  have hzl : 0 < zs.length := List.length_pos_iff.2 hz
  rcases e10 with e10 | ⟨c, T, k1, k2, k3, k4, k5, k6⟩
  ·omega
  have hp := e8 (by omega);subst hp
  have hoff : (g.ow q.id).o + q.lo.toNat * 1 = (g.ow q.id).o + q.pre.length := by rw [hlo]; simp
  rw [hnn, hoff]
  have hblt : b < w.heap.size := by
   rcases Nat.lt_or_ge b w.heap.size with h | h
   ·exact h
   rw [Array.getElem?_eq_none h] at k2; cases k2
  have hcell : ∀ o, w.cell? ⟨b, o, none⟩ = c[o]? := fun o => by simp [World.cell?, k2]
  have hH : Holds (Value.int .i64) w b ((g.ow q.id).o + q.pre.length) zs.toArray := fun j hj => by
   have hj' : j < zs.length := by simpa using hj
   refine ⟨?_, by simp [World.frozen?, k2]⟩;have h := (k4 (q.pre.length + j) 0 (by omega) (by omega)).2
   rw [JP hj'] at h
   have h := VR.int_inv h;rw [hcell]
   have hlt : (g.ow q.id).o + q.pre.length + j < c.size := by omega
   rw [show (g.ow q.id).o + (q.pre.length + j) * 1 + 0 = (g.ow q.id).o + q.pre.length + j by omega] at h
   simp only [Array.getD, hlt, dif_pos, Array.getInternal_eq_getElem] at h
   rw [Array.getElem?_eq_getElem hlt, h];simp [hj']
  refine (h1 b _ _ w hzl (by omega) hH hblt).mono ?_;rintro e w' ⟨v, rfl, hcase, n, os, rfl⟩
  have hs := Rl.setArr hR (ys := Ih q ds) (c' := putCells (Value.int .i64) ((g.ow q.id).o + q.pre.length) ds.toArray c) hk e1 (by rw [CY]; omega) k2 (by simp [putCells])
   (fun o ho => by
    simp only [putCells, Array.getElem?_mapIdx]
    cases c[o]? with
    | none => rfl
    | some x => simp only [Option.map_some]; rw [if_neg (by omega)])
   (by rw [CY, CY, hl])
   (fun i hi => by
    rw [CY] at hi
    by_cases hm : i < q.pre.length ∨ q.pre.length + ds.length ≤ i
    ·rw [Oc hl hm]; exact e9 i (by rw [CY]; omega)
    obtain ⟨j, rfl⟩ : ∃ j, i = q.pre.length + j := ⟨i - q.pre.length, by omega⟩
    rw [JP (show j < ds.length by omega)]; rfl)
   (fun i j hi hj => by
    rw [CY] at hi
    have hj0 : j = 0 := by omega
    subst hj0;rw [Vj (by omega)]
    by_cases hm : i < q.pre.length ∨ q.pre.length + ds.length ≤ i
    ·rw [if_neg (by omega), Oc hl hm];exact k4 i 0 (by omega) (by omega)
    obtain ⟨j, rfl⟩ : ∃ j, i = q.pre.length + j := ⟨i - q.pre.length, by omega⟩
    have hj : j < ds.length := by omega
    rw [if_pos (by omega), JP hj, show (g.ow q.id).o + (q.pre.length + j) * 1 + 0 - ((g.ow q.id).o + q.pre.length) = j by omega]
    have : ds.toArray[j]! = ds[j] := by simp [hj]
    rw [this]
    exact ⟨rfl, VR.int _ _⟩)
  obtain ⟨s1, R1⟩ := hs
  generalize hw1 : w.setRow b (putCells (Value.int .i64) ((g.ow q.id).o + q.pre.length) ds.toArray c) = w1 at s1 R1
  have hsz1 : w1.heap.size = w.heap.size := by rw [← hw1]; simp [World.setRow]
  have hheap : ∀ x, x < w1.heap.size → (grow (putRow (Value.int .i64) (Sort.ahead w n) b ((g.ow q.id).o + q.pre.length) ds.toArray) os).heap[x]? = w1.heap[x]? := fun x hx => by
   have hx' : x < w.heap.size := by omega
   simp only [grow, putRow, mapBlock, Sort.ahead];rw [Array.getElem?_append_left (by simpa using hx'), Array.getElem?_modify]
   by_cases hxb : b = x
   ·subst hxb;rw [if_pos rfl, k2, ← hw1, setRow_heap w b c _ T (0, 0) k2];rfl
   rw [if_neg hxb, ← hw1, I8 w b _ x (fun e => hxb e.symm)]
  have hbel : Below g.base w1 (grow (putRow (Value.int .i64) (Sort.ahead w n) b ((g.ow q.id).o + q.pre.length) ds.toArray) os) := by
   refine ⟨by rw [← hw1]; rfl, by rw [← hw1]; rfl, by rw [← hw1]; rfl, ?_, fun k hk' => ?_⟩
   ·rw [hsz1]; simp [grow, putRow, mapBlock, Sort.ahead]
   exact hheap k (by have := hR.bnd; omega)
  obtain ⟨s2, R2⟩ := R1.more hbel hheap;refine ⟨v, rfl, g, r q, _, s1.trans s2, R2, ?_, rfl, rfl⟩
  rcases hcase with ⟨rfl, hm, hr⟩ | ⟨rfl, hr⟩
  ·rw [hr]
   have hcap : (g.ow q.id).cap = q.pre.length + zs.length + q.rest.length := by rw [e7]
   have := VR.own (g := g) (w := grow (putRow (Value.int .i64) (Sort.ahead w n) b ((g.ow q.id).o + q.pre.length) ds.toArray) os) (id := q.id) (b := b) (lo := q.lo) (n := (m : Nat)) (p := some ⟨b, (g.ow q.id).o + q.pre.length, none⟩) e1 e3 (by omega) (by omega) (fun _ => by rw [e6, hoff])
   rw [hcap] at this
   simpa using this
  rw [hr]; exact VR.und _ _
end Go.Ab
namespace Go.Ab
def Ue (x : Int) : List Int → List Int
 | [] => [x]
 | y :: r => if x ≤ y then x :: y :: r else y :: Ue x r
def Kp : List Int → List Int
 | [] => []
 | x :: r => Ue x (Kp r)
theorem Rg (a : Int) : ∀ (l m : List Int), (∀ b ∈ l, ¬ a ≤ b) → (∀ b ∈ m, a ≤ b) → Ue a (l ++ m) = l ++ a :: m
 | [], [], _, _ => rfl
 | [], y :: m, _, h => by simp only [List.nil_append, Ue]; rw [if_pos (h y (by simp))]
 | y :: l, m, h, k => by
  simp only [List.cons_append, Ue];rw [if_neg (h y (by simp)), Rg a l m (fun b hb => h b (by simp [hb])) k]
theorem LS : ∀ l : List Int, Kp l = l.mergeSort fun x y => decide (x ≤ y)
 | [] => by simp [Kp]
 | a :: l => by
  have ht : ∀ x y z : Int, decide (x ≤ y) = true → decide (y ≤ z) = true → decide (x ≤ z) = true := fun x y z h k => by simp at *; omega
  have hc : ∀ x y : Int, (decide (x ≤ y) || decide (y ≤ x)) = true := fun x y => by simp; omega
  obtain ⟨l1, l2, h1, h2, h3⟩ := List.mergeSort_cons ht hc a l;have hs := List.pairwise_mergeSort ht hc (a :: l)
  rw [h1] at hs
  rw [Kp, LS l, h1, h2];refine Rg a l1 l2 (fun b hb => ?_) fun b hb => ?_
  ·have := h3 b hb; simpa using this
  have := (List.pairwise_cons.1 (List.pairwise_append.1 hs).2.1).1 b hb
  simpa using this
def QK (l : List Int) : Option (List Int) := if l.length < 4611686018427387904 then some (Kp l) else none
theorem PC {l r : List Int} (h : QK l = some r) : l.length < 4611686018427387904 ∧ r = l.mergeSort fun x y => decide (x ≤ y) := by
 unfold QK at h
 split at h
 ·rename_i hc; cases h; exact ⟨hc, LS l⟩
 cases h
end Go.Ab
namespace Go.Ab
open Go.RowKit
variable [H5]
def UG (P : Program) (f : FuncId) (zs ds : List Int) : Prop := UH P f zs ds (fun _ => .tup []) ∧ ds.length = zs.length
theorem Od [Ar] (q : OG) (zs : List Int) : q.pre ++ Ar.lst (V.int .i64) zs ++ q.rest = Ih q zs := by rw [Ar.lst_eq]; rfl
section
variable [Ar] {P : Program} {nt : Nat} {rd : Option Nat} {E : CU} (hE : E = E7 P nt rd)
include hE
theorem Vy {Φ : A0 → A0 → Prop} {H0 H : A0} {L : List En} {fid : FuncId} {q : OG} {k : V → A0 → Prop} {R : Type} {m : Option (List Int)} {F : List Int → Option R} {r : R}
 {l : List Int} (hO : B3 Φ H0 L H) (hq : X6 q (Ar.len l)) (i : Nat) (hi : L[i]? = some (.blk q.id (.arr 1 (q.pre ++ Ar.lst (V.int .i64) l ++ q.rest)))) (h : m.bind F = some r) (hc : ∀ x, m = some x → UG P fid l x)
 (hk : ∀ x H', X6 q (Ar.len x) → B3 Φ H0 (L.set i (.blk q.id (.arr 1 (q.pre ++ Ar.lst (V.int .i64) x ++ q.rest)))) H' → F x = some r → k (.tup []) H') :
 E.call (.func (.func fid) [] []) [.own q.id q.lo q.n] H k := by
 subst hE;obtain ⟨x, h1, h2⟩ := bind_some h;obtain ⟨c1, c2⟩ := hc x h1;refine E8.value (F := []) (C := []) ?_;simp only [List.nil_append, List.append_nil]
 rw [Od] at hi
 refine (c1 H q (by rw [← Ar.len_eq]; exact hq) (hO.get i hi)).mono fun v H' ⟨e1, e2⟩ => ?_;subst e1; subst e2;refine hk x _ ?_ ?_ h2
 ·rw [Ar.len_eq] at hq ⊢; rw [c2]; exact hq
 rw [Od]; exact hO.set i hi
end
end Go.Ab
namespace Go.Ab
open Go.RowKit Go.Shelf Go.Sort
variable [H5]
theorem Qy {P : Program} {ρ : Ren} (Ly : Go.Proofs.Lays.n189 P ρ) (hrun : ∀ vals w, (callFunc (ρ.f 189) vals).run P w = .ok (.enter (ρ.f 189) vals) w) {zs r : List Int} (h : QK zs = some r) : UG P (ρ.f 189) zs r := by
 obtain ⟨hlt, rfl⟩ := PC h;have hl : (zs.mergeSort fun x y => decide (x ≤ y)).length = zs.length := List.length_mergeSort ..;refine ⟨Pa (m := 0) hl hrun ?_ ?_, hl⟩
 ·intro _ p cap w;exact (Go.Proofs.Any.slices_Sort_int_none Ly p cap w).mono fun e w' ⟨a, b⟩ => ⟨_, a, b, .inr ⟨rfl, fun _ => rfl⟩⟩
 intro blk off cap w _ _ hH hb;exact (Go.Proofs.Any.slices_Sort_int Ly blk off cap zs w hH hb hlt).mono fun e w' ⟨a, n, os, b⟩ => ⟨_, a, .inr ⟨rfl, fun _ => rfl⟩, n, os, b⟩
def KJ (l : List Int) : Option (List Int) := if l.length ≤ 9223372036854775807 then some (Lib.compact l) else none
theorem IY (zs : List Int) : (Lib.compact zs).length ≤ zs.length := by
 unfold Lib.compact Lib.compactUpTo;rw [List.length_map];exact Nat.le_trans (List.length_filter_le ..) (by simp)
theorem KP [Ar] {P : Program} {ρ : Ren} (Ly : Go.Proofs.Lays2.n20 P ρ) (hrun : ∀ vals w, (callFunc (ρ.f 20) vals).run P w = .ok (.enter (ρ.f 20) vals) w) {zs r : List Int} (h : KJ zs = some r) :
 IA P (ρ.f 20) [] 1 (Ar.lst (V.int .i64) zs) (Ar.lst (V.int .i64) r) := by
 unfold KJ at h
 split at h
 case isFalse => cases h
 rename_i hlt;cases h;have hle : (Lib.compact zs).length ≤ zs.length := IY zs
 have key : UH P (ρ.f 20) zs (Lib.compact zs ++ List.replicate (zs.length - (Lib.compact zs).length) 0) (fun q => .own q.id q.lo ((Lib.compact zs).length : Nat)) := by
  refine Pa (m := (Lib.compact zs).length) (by simp; omega) hrun ?_ ?_
  ·rintro rfl p cap w;refine (Go.Proofs.Any.slices_Compact_int_empty Ly p cap w).mono fun e w' ⟨a, b⟩ => ⟨_, a, b, .inl ⟨rfl, fun q hq => ?_⟩⟩;rw [hq.2]
   have : (Lib.compact ([] : List Int)).length = 0 := by have := IY []; simp only [List.length_nil] at this; omega
   rw [this]; rfl
  intro blk off cap w _ hc hH hb;refine (Go.Proofs.Any.slices_Compact_int Ly blk off cap zs w hH hlt hc).mono fun e w' ⟨a, n, b⟩ => ⟨_, a, .inl ⟨rfl, hle, fun _ => rfl⟩, n, #[], by rw [b, grow_empty]⟩
 intro H q hq hk
 rw [Ar.lst_eq] at hk hq
 refine (key H q (by simpa using hq) (by unfold Ih; exact hk)).mono fun v H' ⟨e1, e2⟩ => ?_;subst e1; subst e2;refine ⟨⟨q.id, q.lo, ((Lib.compact zs).length : Nat), q.pre, (List.replicate (zs.length - (Lib.compact zs).length) 0).map (V.int .i64) ++ q.rest⟩, rfl, ⟨hq.1, by rw [Ar.lst_eq]; simp⟩, by rw [A9], ?_⟩
 funext x
 rw [Ar.lst_eq]
 by_cases hx : x = q.id
 ·subst hx; rw [A9, A9]; simp [Ih]
 rw [A4 _ _ hx, A4 _ _ hx, A4 _ _ hx]
end Go.Ab
namespace Go.Ab
open Go.RowKit
variable [H5] [Ar]
theorem DZ {L : List En} {i j : Nat} {e' e : En} (hj : (L.set i e')[j]? = some e) : (j = i ∧ e = e') ∨ (j ≠ i ∧ L[j]? = some e) := by
 rw [List.getElem?_set] at hj
 split at hj
 ·rename_i hij;subst hij
  split at hj
  ·exact .inl ⟨rfl, (Option.some.inj hj).symm⟩
  cases hj
 rename_i hij;exact .inr ⟨fun e => hij e.symm, hj⟩
theorem LJ {L : List En} {i j : Nat} {e' : En} (h : j ≠ i) : (L.set i e')[j]? = L[j]? := by
 rw [List.getElem?_set, if_neg (fun e => h e.symm)]
theorem W2.setNone {H0 H : A0} {L : List En} (h : W2 H0 L H) (i : Nat) {e e' : En} (hi : L[i]? = some e) (he : e.id = none) (he' : e'.id = none) : W2 H0 (L.set i e') H := by
 refine ⟨h.ext, fun j x id b hj hx => ?_, fun j k x x' id b b' hj hk hx hx' => ?_, fun x b hx => ?_⟩
 ·rcases DZ hj with ⟨_, rfl⟩ | ⟨_, hj⟩
  ·rw [he'] at hx; cases hx
  exact h.has j x id b hj hx
 ·rcases DZ hj with ⟨_, rfl⟩ | ⟨_, hj⟩
  ·rw [he'] at hx; cases hx
  rcases DZ hk with ⟨_, rfl⟩ | ⟨_, hk⟩
  ·rw [he'] at hx'; cases hx'
  exact h.inj j k x x' id b b' hj hk hx hx'
 refine (h.only x b hx).imp (fun h => h) fun ⟨j, y, h1, h2⟩ => ⟨j, y, ?_, h2⟩;rw [LJ fun e => by subst e; rw [hi] at h1; cases h1; rw [he] at h2; cases h2];exact h1
theorem W2.drop {H0 H : A0} {L : List En} (h : W2 H0 L H) (i : Nat) {e e' : En} {id : Nat} {b0 : AI} (hi : L[i]? = some e) (he : e.id = some (id, b0)) (he' : e'.id = none) : W2 H0 (L.set i e') (upd H id none) := by
 have hid := h.has i e id b0 hi he;refine ⟨fun x b hx => ?_, fun j x y b hj hx => ?_, fun j k x x' y b b' hj hk hx hx' => ?_, fun x b hx => ?_⟩
 ·rw [A4 _ _ (M3 hid.1 hx)]; exact h.ext x b hx
 ·rcases DZ hj with ⟨_, rfl⟩ | ⟨hne, hj⟩
  ·rw [he'] at hx; cases hx
  have := h.has j x y b hj hx;refine ⟨this.1, ?_⟩;rw [A4 _ _ (fun eq => by subst eq; exact hne (h.inj j i x e y b b0 hj hi hx he))];exact this.2
 ·rcases DZ hj with ⟨_, rfl⟩ | ⟨_, hj⟩
  ·rw [he'] at hx; cases hx
  rcases DZ hk with ⟨_, rfl⟩ | ⟨_, hk⟩
  ·rw [he'] at hx'; cases hx'
  exact h.inj j k x x' y b b' hj hk hx hx'
 by_cases hxi : x = id
 ·subst hxi; rw [A9] at hx; cases hx
 rw [A4 _ _ hxi] at hx
 refine (h.only x b hx).imp (fun h => h) fun ⟨j, y, h1, h2⟩ => ⟨j, y, ?_, h2⟩;rw [LJ fun ej => by subst ej; rw [hi] at h1; cases h1; rw [he] at h2; cases h2; exact hxi rfl];exact h1
theorem B3.untok {Φ : A0 → A0 → Prop} {F H : A0} {L : List En} (h : B3 Φ F L H) (i : Nat) {tl tl' : D8} (hi : L[i]? = some (.tl tl)) (ht : (En.tl tl').id = none) : B3 Φ F (L.set i (.tl tl')) (C8 H tl) := by
 obtain ⟨hs, F', H1, h0, h1, h2⟩ := h
 cases tl with
 | tok t =>
  have e := (h0.has i _ t _ hi rfl).2;exact ⟨hs, _, _, h0.drop i hi rfl ht, hs.chg t none h1 (by rw [e, hs.le h1 _ _ e]), h2.upd t none⟩
 | nil => exact ⟨hs, _, _, h0.setNone i hi rfl ht, h1, h2⟩
 | full => exact ⟨hs, _, _, h0.setNone i hi rfl ht, h1, h2⟩
 | ro => exact ⟨hs, _, _, h0.setNone i hi rfl ht, h1, h2⟩
section
variable {P : Program} {T : Dt} {f : FuncId} {fn : Func} {c : Code} {n : Nat} {rs : List ResultVar} {args : List V}
end
section
variable {P : Program} {nt : Nat} {rd : Option Nat} {T : Dt} {E : CU}
variable (hE : E = E7 P nt rd)
include hE
variable {α R : Type} {f : α → V} {Φ : A0 → A0 → Prop} {H0 H : A0} {L : List En} {r : R} {m : Option (List α)} {F : List α → Option R} {fid : FuncId} {args args' : List V} {k : V → A0 → Prop}
end
end Go.Ab
namespace Go.Ab
open Go.RowKit Go.MapKept
variable [H5] [Ar]
def Cr {K X : Type} (d : TypeDesc) (kf : K → V) (vf : X → V) (o : Obj) (m : List (K × X)) : Prop := ∃ m' : List (K × X), S5 d o (m'.map fun p => (kf p.1, vf p.2)) ∧ m'.Perm m
theorem Cr.perm {K X : Type} {d : TypeDesc} {kf : K → V} {vf : X → V} {o : Obj} {m l : List (K × X)} (h : Cr d kf vf o m) (hp : m.Perm l) : Cr d kf vf o l :=
 let ⟨m', h1, h2⟩ := h; ⟨m', h1, h2.trans hp⟩
theorem VJ {K X : Type} {m : List (K × X)} (hn : (m.map (·.1)).Nodup) {p q : K × X} (hp : p ∈ m) (hq : q ∈ m) (e : p.1 = q.1) : p = q := by
 obtain ⟨i, hi, rfl⟩ := List.getElem_of_mem hp;obtain ⟨j, hj, rfl⟩ := List.getElem_of_mem hq;have : i = j := FX hn (by simpa using hi) (by simpa using hj) (by simpa using e);subst this; rfl
theorem Mb {K X : Type} [DecidableEq K] {m m' : List (K × X)} (hp : m'.Perm m) (hn : (m'.map (·.1)).Nodup) (k : K) (z : X) : Z5 m' k z = Z5 m k z := by
 unfold Z5
 cases hf : m.find? (fun p => decide (p.1 = k)) with
 | none =>
  have : m'.find? (fun p => decide (p.1 = k)) = none := List.find?_eq_none.2 fun p hm => List.find?_eq_none.1 hf p (hp.mem_iff.1 hm);rw [this]
 | some p =>
  have h1 : p.1 = k := by simpa using List.find?_some hf
  have h2 := hp.mem_iff.2 (List.mem_of_find?_eq_some hf)
  cases hg : m'.find? (fun p => decide (p.1 = k)) with
  | none => exact absurd h1 (by simpa using List.find?_eq_none.1 hg p h2)
  | some q =>
   have h3 : q.1 = k := by simpa using List.find?_some hg
   rw [VJ hn (List.mem_of_find?_eq_some hg) h2 (h3.trans h1.symm)]
theorem RQ {K X : Type} [DecidableEq K] {m m' r : List (K × X)} (hp : m'.Perm m) {k : K} {v : X} (h : Y6 m k v = some r) : ∃ r', Y6 m' k v = some r' ∧ r'.Perm r := by
 unfold Y6 at h
 cases h;refine ⟨_, rfl, ?_⟩
 have e : m'.any (fun p => decide (p.1 = k)) = m.any (fun p => decide (p.1 = k)) := by
  rw [Bool.eq_iff_iff, List.any_eq_true, List.any_eq_true];exact ⟨fun ⟨p, h1, h2⟩ => ⟨p, hp.mem_iff.1 h1, h2⟩, fun ⟨p, h1, h2⟩ => ⟨p, hp.mem_iff.2 h1, h2⟩⟩
 rw [e]
 split
 ·exact hp.map _
 exact hp.append_right _
theorem Ko {K X : Type} {d : TypeDesc} {kf : K → V} {vf : X → V} {o : Obj} {m : List (K × X)} (h : S5 d o (m.map fun p => (kf p.1, vf p.2))) : (m.map (·.1)).Nodup := by
 have := h.nodup
 rw [List.map_map] at this
 have e : (m.map ((·.1) ∘ fun p => (kf p.1, vf p.2))) = (m.map (·.1)).map kf := by rw [List.map_map]; rfl
 rw [e] at this
 exact List.Pairwise.imp (fun h e => h (by rw [e])) (List.pairwise_map.1 this)
structure QC {K : Type} (d : TypeDesc) (kf : K → V) : Prop where
 raw : ∀ x, ∃ v, Bi (kf x) = some v ∧ IsKey d v
 inj : ∀ x y, kf x = kf y → x = y
theorem L1 (k : IntKind) : QC (.int k) (V.int k) := ⟨fun _ => ⟨_, rfl, rfl⟩, fun x y h => by cases h; rfl⟩
theorem Hu : QC .string V.str := ⟨fun _ => ⟨_, rfl, trivial⟩, fun x y h => by cases h; rfl⟩
def Xn {X : Type} (vf : X → V) : Prop := ∀ x, ∃ v, Gj (vf x) = some v
theorem Ht (k : IntKind) : Xn (V.int k) := fun _ => ⟨_, rfl⟩
theorem Bd : Xn V.bool := fun _ => ⟨_, rfl⟩
theorem B3.startO {H0 : A0} {id : Nat} {b : AI} (hk : H0 id = some b) : B3 Eq (upd H0 id none) [.blk id b] H0 := by
 have h : B3 Eq (upd H0 id none) [.blk id b] (upd (upd H0 id none) id (some b)) := (B3.start B7 rfl).push (A9 _ _ _) rfl
 rwa [Q9, SY H0 id (some b) hk] at h
theorem Vv {α : Type} {f : α → V} {q : OG} {l : List α} (h : X6 q ((Ar.lst f l).length : Nat)) : X6 q (Ar.len l) := ⟨h.1, by rw [h.2, Ar.len_eq, I0]⟩
section
variable {P : Program} {nt : Nat} {rd : Option Nat} {T : Dt} {E : CU}
variable (hE : E = E7 P nt rd)
include hE
variable {α R : Type} {f : α → V} {Φ : A0 → A0 → Prop} {H0 H : A0} {L : List En} {sz : Nat} {q : OG} {l : List α} {r : R}
theorem Kh (hO : B3 Φ H0 L H) {k : V → A0 → Prop} (hk : ∀ (q : OG) H', X6 q (Ar.len ([] : List α)) → B3 Φ H0 (.blk q.id (.arr sz (q.pre ++ Ar.lst f [] ++ q.rest)) :: L) H' → k (.own q.id q.lo q.n) H') : E.onil sz H k := by
 subst hE;intro t ht
 have e : ([] : List V) ++ Ar.lst f [] ++ [] = [] := by rw [← B4 (f := f)]; rfl
 refine hk ⟨t, 0, 0, [], []⟩ _ ⟨rfl, by rw [Ar.len_eq]; rfl⟩ ?_
 show B3 Φ H0 (.blk t (.arr sz (([] : List V) ++ Ar.lst f [] ++ [])) :: L) _
 rw [e]; exact hO.push ht rfl
section
variable {K X : Type} {kf : K → V} {vf : X → V} {t kt et : Nat} {d : TypeDesc} {m : List (K × X)} {o : Obj} {id : Nat}
theorem Hr (d : TypeDesc) (kf : K → V) (vf : X → V) (hO : B3 Φ H0 L H) {k : V → A0 → Prop} (hk : ∀ id o H', Cr d kf vf o [] → B3 Φ H0 (.blk id (.obj o) :: L) H' → k (.map id) H') : E.mmk H k := by
 subst hE;exact .inl fun id hid => hk id _ _ ⟨[], S5.empty d, .refl _⟩ (hO.push hid rfl)
theorem Wz [DecidableEq K] (hK : QC d kf) {z : V} {z0 : X} (hz : Eu P et = some z) (hvz : z = vf z0) {key : K} {x : X × Bool} (hx : Z5 m key z0 = some x) (ok : Bool) :
 WC P et (m.map fun p => (kf p.1, vf p.2)) (kf key) ok (if ok = true then .tup [vf x.1, .bool x.2] else vf x.1) := by
 unfold Z5 at hx
 cases hx
 cases hf : m.find? (fun p => decide (p.1 = key)) with
 | none =>
  refine .inl ⟨fun p hp => ?_, z, hz, by simp only [hvz]⟩;obtain ⟨q, hq, rfl⟩ := List.mem_map.1 hp;have := List.find?_eq_none.1 hf q hq;exact fun e => this (by simpa using hK.inj _ _ e)
 | some p =>
  have h1 := List.find?_some hf;have h2 := List.mem_of_find?_eq_some hf;refine .inr ⟨vf p.2, List.mem_map.2 ⟨p, h2, ?_⟩, rfl⟩;rw [show p.1 = key by simpa using h1]
theorem Fs [DecidableEq K] (hm : P.underlying t = some (.map kt et)) (hd : P.underlying kt = some d) (hK : QC d kf) {z : V} (z0 : X) (hz : Eu P et = some z) (hvz : z = vf z0) (hO : B3 Φ H0 L H) (hq : Cr d kf vf o m) (i : Nat) (hi : L[i]? = some (.blk id (.obj o)))
 {key : K} {k : V → Prop} {F : X × Bool → Option R} (h : (Z5 m key z0).bind F = some r) (hk : ∀ x, F x = some r → k (vf x.1)) : E.mget t H (.map id) (kf key) false k := by
 obtain ⟨x, h1, h2⟩ := bind_some h;obtain ⟨m', hq, hp⟩ := hq
 rw [← Mb hp (Ko hq)] at h1
 have ha := Wz (P := P) (vf := vf) hE hK hz hvz h1 false;subst hE;obtain ⟨v, hv1, hv2⟩ := hK.raw key;exact ⟨_, .inl ⟨kt, et, d, v, id, o, _, hm, hd, hv1, hv2, rfl, hO.get i hi, hq, ha⟩, hk x h2⟩
theorem Jp [DecidableEq K] (hm : P.underlying t = some (.map kt et)) (hd : P.underlying kt = some d) (hK : QC d kf) {z : V} (z0 : X) (hz : Eu P et = some z) (hvz : z = vf z0) (hO : B3 Φ H0 L H) (hq : Cr d kf vf o m) (i : Nat) (hi : L[i]? = some (.blk id (.obj o)))
 {key : K} {k : V → Prop} {F : X × Bool → Option R} (h : (Z5 m key z0).bind F = some r) (hk : ∀ x, F x = some r → k (.tup [vf x.1, .bool x.2])) : E.mget t H (.map id) (kf key) true k := by
 obtain ⟨x, h1, h2⟩ := bind_some h;obtain ⟨m', hq, hp⟩ := hq
 rw [← Mb hp (Ko hq)] at h1
 have ha := Wz (P := P) (vf := vf) hE hK hz hvz h1 true;subst hE;obtain ⟨v, hv1, hv2⟩ := hK.raw key;exact ⟨_, .inl ⟨kt, et, d, v, id, o, _, hm, hd, hv1, hv2, rfl, hO.get i hi, hq, ha⟩, hk x h2⟩
theorem UZ [DecidableEq K] (hK : QC d kf) (hn : ((m.map fun p => (kf p.1, vf p.2)).map (·.1)).Nodup) {key : K} {v : X} {m' : List (K × X)} (hx : Y6 m key v = some m') : Xl (m.map fun p => (kf p.1, vf p.2)) (kf key) (vf v) (m'.map fun p => (kf p.1, vf p.2)) := by
 unfold Y6 at hx
 cases hx
 split
 ·rename_i h;obtain ⟨p, hp, he⟩ := List.any_eq_true.1 h
  have he : p.1 = key := by simpa using he
  obtain ⟨a, b, hab⟩ := List.append_of_mem hp;subst hab;refine .inr ⟨a.map fun p => (kf p.1, vf p.2), vf p.2, b.map fun p => (kf p.1, vf p.2), by simp [he], ?_⟩
  have hna : ∀ l : List (K × X), (∀ q ∈ l, q.1 ≠ key) → (l.map (fun p => if p.1 = key then (key, v) else p)) = l := fun l hl => by
   induction l with
   | nil => rfl
   | cons y l ih => rw [List.map_cons, if_neg (hl y (by simp)), ih fun q hq => hl q (by simp [hq])]
  rw [List.map_map, List.map_append, List.map_cons, List.nodup_append] at hn
  obtain ⟨_, n2, n3⟩ := hn
  rw [List.nodup_cons] at n2
  have ha : ∀ q ∈ a, q.1 ≠ key := fun q hq e => n3 (kf q.1) (List.mem_map.2 ⟨q, hq, rfl⟩) (kf p.1) (by simp) (by rw [e, he]);have hb : ∀ q ∈ b, q.1 ≠ key := fun q hq e => n2.1 (List.mem_map.2 ⟨q, hq, by simp [e, he]⟩);rw [List.map_append, List.map_cons, hna a ha, hna b hb, if_pos he];simp
 rename_i h;refine .inl ⟨fun p hp => ?_, by simp⟩;obtain ⟨q, hq, rfl⟩ := List.mem_map.1 hp;exact fun e => h (List.any_eq_true.2 ⟨q, hq, by simpa using hK.inj _ _ e⟩)
theorem Ct [DecidableEq K] (hm : P.underlying t = some (.map kt et)) (hd : P.underlying kt = some d) (hK : QC d kf) (hV : Xn vf) (hO : B3 Φ H0 L H) (hq : Cr d kf vf o m) (i : Nat) (hi : L[i]? = some (.blk id (.obj o)))
 {key : K} {v : X} {k : A0 → Prop} {F : List (K × X) → Option R} (h : (Y6 m key v).bind F = some r) (hk : ∀ m' o' H', Cr d kf vf o' m' → F m' = some r → B3 Φ H0 (L.set i (.blk id (.obj o'))) H' → k H') : E.mset t H (.map id) (kf key) (vf v) k := by
 obtain ⟨m', h1, h2⟩ := bind_some h;obtain ⟨m0, hq, hp⟩ := hq;obtain ⟨r', h3, hp'⟩ := RQ hp h1;have hs := UZ (d := d) hE hK hq.nodup h3;subst hE;obtain ⟨kv, hv1, hv2⟩ := hK.raw key;obtain ⟨vv, hv3⟩ := hV v;exact .inl ⟨kt, et, d, kv, vv, id, o, _, _, hm, hd, hv1, hv2, hv3, rfl, hO.get i hi, hq, hs, fun o' ho => hk m' o' _ ⟨r', ho, hp'⟩ h2 (hO.set i hi)⟩
end
end
end Go.Ab
namespace Go.Ab
open Go.RowKit Go.MapKept
variable [H5] [Ar]
section
variable {K X : Type}
def NC (P : Program) (f : FuncId) (args : List V) (d : TypeDesc) (kf : K → V) (vf : X → V) (m : List (K × X)) : Prop :=
 ∀ H, E8 P f args H fun v H' => ∃ id o, H id = none ∧ Cr d kf vf o m ∧ v = .map id ∧ H' = upd H id (some (.obj o))
end
section
variable {P : Program} {nt : Nat} {rd : Option Nat} {T : Dt} {E : CU}
variable (hE : E = E7 P nt rd)
include hE
variable {K X R S : Type} {kf : K → V} {vf : X → V} {d : TypeDesc} {Φ : A0 → A0 → Prop} {H0 H : A0} {L : List En} {r : R} {fid : FuncId} {args args' : List V} {k : V → A0 → Prop}
theorem Kk {m : Option (List (K × X))} {F : List (K × X) → Option R} (h : m.bind F = some r) (hc : ∀ x, m = some x → NC P fid args' d kf vf x) (hl : G9 args args') (hO : B3 Φ H0 L H)
 (hk : ∀ x id o H', Cr d kf vf o x → B3 Φ H0 (.blk id (.obj o) :: L) H' → F x = some r → k (.map id) H') : E.call (.func (.func fid) [] []) args H k := by
 subst hE;obtain ⟨x, h1, h2⟩ := bind_some h;refine E8.value (F := []) (C := []) ?_;simp only [List.nil_append, List.append_nil]
 exact ((hc x h1 H).args hl).mono fun v H' ⟨id, o, e1, e2, e3, e4⟩ => by subst e3; subst e4; exact hk x id o _ e2 (hO.push e1 rfl) h2
end
theorem B3.ne {Φ : A0 → A0 → Prop} {F H : A0} {L : List En} {a b : Nat} {x y : AI} (h : B3 Φ F L H) (i j : Nat) (hi : L[i]? = some (.blk a x)) (hj : L[j]? = some (.blk b y)) (hij : i ≠ j) : a ≠ b := fun e => by
 obtain ⟨hs, F', H1, h0, h1, h2⟩ := h;subst e;exact hij (h0.inj i j _ _ a x y hi hj rfl rfl)
section
variable {P : Program} {T : Dt} {f : FuncId} {fn : Func} {c : Code} {n : Nat} {rs : List ResultVar} {args : List V} {K X : Type} {kf : K → V} {vf : X → V} {d : TypeDesc}
theorem KQ {m : List (K × X)} (cf : Cf) (hP : Lf P T) (hf : P.funcs[f]? = some fn) (hb : fn.body = some c) (hd : E9 cf c = true)
 (hcall : ∀ vals w, (callFunc f vals).run P w = .ok (.enter f vals) w) (hnt : fn.ntmps = n) (hrs : fn.results.toList = rs) (hn : Nat.ble args.length n = true)
 (h : ∀ (E : CU) (H : A0) (k : V → A0 → Prop), E = E7 P n none → (∀ id o (L : List En) (i : Nat) H', Cr d kf vf o m → L[i]? = some (.blk id (.obj o)) → B3 Eq H L H' → k (.map id) H') → run E T n cf c ⟨Ak args 0, []⟩ H (It E T rs k)) : NC P f args d kf vf m := fun H => by
 refine E8.le (O7 (K := fun x H' => ∃ y H2, Z6 x y ∧ Ds H2 H' ∧ ∃ id o, H id = none ∧ Cr d kf vf o m ∧ y = .map id ∧ H2 = upd H id (some (.obj o))) cf hP.1 hP.2 hf hb hd hcall hnt hrs hn fun E hE => ?_);refine h E H _ hE fun id o L i H' hq hi hO => ?_;obtain ⟨h1, h2⟩ := (hO.only i hi).last;exact ⟨_, _, .refl _, h2, id, o, h1, hq, rfl, rfl⟩
end
section
variable {K X : Type}
def Pl (kf : K → V) (vf : X → V) (o : Obj) (mid : Nat) (b : AI) (left : List (K × X)) : Prop :=
 ∃ (es : Array MapEntry) (clock : Nat) (seen : Array Nat) (zs : List (MapEntry × (K × X))), o = .map es clock ∧ b = .iter mid clock seen clock ∧ GY es clock ∧ zs.map (·.1) = (leftOf es seen).toList ∧
  (∀ z ∈ zs, Bi (kf z.2.1) = some z.1.key ∧ Gj (vf z.2.2) = some z.1.val) ∧ (zs.map (·.2)).Perm left
def XZ (kf : K → V) (vf : X → V) (o : Obj) (mid : Nat) (b : AI) (left : List (K × X)) (p : K × X) : Prop :=
 Pl kf vf o mid b left ∧ ∃ (es : Array MapEntry) (clock : Nat) (seen : Array Nat) (e : MapEntry), o = .map es clock ∧ b = .iter mid clock (seen.push e.born) clock ∧ e ∈ es.toList ∧ Bi (kf p.1) = some e.key ∧ Gj (vf p.2) = some e.val
theorem LN {α : Type} (key : α → Nat) : ∀ {l : List α} {x : α}, (l.map key).Nodup → x ∈ l → l.Perm (x :: l.filter fun y => !(key y == key x))
 | a :: l, x, hn, hx => by
  rw [List.map_cons, List.nodup_cons] at hn
  rcases List.mem_cons.1 hx with rfl | hx
  ·have : l.filter (fun y => !(key y == key x)) = l := List.filter_eq_self.2 fun y hy => by
    have : key y ≠ key x := fun e => hn.1 (List.mem_map.2 ⟨y, hy, e⟩);simp [this]
   rw [List.filter_cons, if_neg (by simp), this]
  have hne : key a ≠ key x := fun e => hn.1 (List.mem_map.2 ⟨x, hx, e.symm⟩);rw [List.filter_cons, if_pos (by simp [hne])];exact ((LN key hn.2 hx).cons a).trans (List.Perm.swap _ _ _)
theorem Sk (es : Array MapEntry) (seen : Array Nat) (b : Nat) : (leftOf es (seen.push b)).toList = (leftOf es seen).toList.filter fun y => !(y.born == b) := by
 unfold leftOf;rw [Array.toList_filter, Array.toList_filter, List.filter_filter]
 congr 1
 funext y
 rw [contains_push];cases seen.contains y.born <;> cases y.born == b <;> rfl
theorem Qd {d : TypeDesc} {kf : K → V} {vf : X → V} {es : Array MapEntry} {clock : Nat} {m : List (K × X)} (h : Cr d kf vf (.map es clock) m) (mid : Nat) : Pl kf vf (.map es clock) mid (.iter mid clock #[] clock) m := by
 obtain ⟨m', ⟨⟨es', c', e1, e2⟩, hk, hn, hst⟩, hp⟩ := h;cases e1
 have hlen : es.toList.length = m'.length := by have := congrArg List.length e2; simpa using this
 refine ⟨es, clock, #[], es.toList.zip m', rfl, rfl, hst _ _ rfl, ?_, fun z hz => ?_, ?_⟩
 ·have : (leftOf es #[]).toList = es.toList := by
   unfold leftOf;rw [Array.toList_filter]
   exact List.filter_eq_self.2 fun y _ => by simp
  rw [this, List.map_fst_zip (by omega)]
 ·obtain ⟨i, hi, e⟩ := List.getElem_of_mem hz
  have hi' : i < min es.toList.length m'.length := by simpa [List.length_zip] using hi
  have h1 : i < es.toList.length := by omega
  have h2 : i < m'.length := by omega
  have := congrArg (fun l => l[i]?) e2
  simp only [List.getElem?_map, List.getElem?_eq_getElem h1, List.getElem?_eq_getElem h2, Option.map_some, Option.some.injEq, Prod.mk.injEq] at this
  rw [← e, List.getElem_zip];exact ⟨this.1.symm, this.2.symm⟩
 rw [List.map_snd_zip (by omega)]; exact hp
end
section
variable {P : Program} {nt : Nat} {rd : Option Nat} {T : Dt} {E : CU}
variable (hE : E = E7 P nt rd)
include hE
variable {K X : Type} {kf : K → V} {vf : X → V} {d : TypeDesc} {Φ : A0 → A0 → Prop} {H0 H : A0} {L : List En} {k : V → A0 → Prop} {m left : List (K × X)} {o : Obj} {mid it : Nat} {b : AI} {p : K × X}
theorem QT {t kt et : Nat} (hm : P.underlying t = some (.map kt et)) (hO : B3 Φ H0 L H) (h1 : H mid = some (.obj o)) (hq : Cr d kf vf o m)
 (hk : ∀ it b H', Pl kf vf o mid b m → B3 Φ H0 (.blk it b :: L) H' → k (.ref it 0) H') : E.mrg t H (.map mid) k := by
 subst hE
 obtain ⟨es, clock, e⟩ : ∃ es clock, o = .map es clock := by obtain ⟨_, ⟨⟨es, c, e, _⟩, _⟩, _⟩ := hq; exact ⟨es, c, e⟩
 subst e;exact ⟨kt, et, mid, es, clock, hm, rfl, h1, fun id hid => hk id _ _ (Qd hq mid) (hO.push hid rfl)⟩
theorem QU (hO : B3 Φ H0 L H) (hI : Pl kf vf o mid b left) (i : Nat) (hi : L[i]? = some (.blk it b)) (h1 : H mid = some (.obj o)) (h0 : left = [] → k (.tup [.bool false]) H)
 (hk : ∀ p left' b' H', left.Perm (p :: left') → XZ kf vf o mid b' left' p → B3 Φ H0 (L.set i (.blk it b')) H' → k (.tup [.bool true, .bad, .bad]) H') : E.mnx H (.ref it 0) k := by
 subst hE;obtain ⟨es, clock, seen, zs, rfl, rfl, hst, z1, z2, z3⟩ := hI
 have hlen : zs.length = (leftOf es seen).size := by have := congrArg List.length z1; simpa using this
 refine ⟨it, mid, clock, seen, clock, es, clock, rfl, hO.get i hi, h1, hst.1, Nat.le_refl _, fun hs => h0 ?_, fun e he => ?_⟩
 ·have : zs = [] := List.eq_nil_of_length_eq_zero (by omega);subst this;exact List.Perm.eq_nil z3.symm
 have he' : e ∈ zs.map (·.1) := by rw [z1]; exact he
 obtain ⟨z, hz, rfl⟩ := List.mem_map.1 he'
 have hnd : (zs.map fun z => z.1.born).Nodup := by
  have e0 : (zs.map fun z => z.1.born) = (leftOf es seen).toList.map (·.born) := by rw [← z1, List.map_map]; rfl
  rw [e0]
  have hs : (leftOf es seen).toList.Sublist es.toList := by unfold leftOf; rw [Array.toList_filter]; exact List.filter_sublist
  exact (hs.map _).nodup hst.2
 have hp := LN (fun z : MapEntry × (K × X) => z.1.born) hnd hz;refine hk z.2 ((zs.filter fun y => !(y.1.born == z.1.born)).map (·.2)) _ _ (z3.symm.trans (hp.map (·.2))) ⟨⟨es, clock, _, zs.filter fun y => !(y.1.born == z.1.born), rfl, rfl, hst, ?_, fun y hy => z2 y (List.mem_filter.1 hy).1, .refl _⟩, es, clock, seen, z.1, rfl, rfl, ?_, (z2 z hz).1, (z2 z hz).2⟩ (hO.set i hi)
 ·rw [Sk, ← z1, List.filter_map]; rfl
 exact (mem_left he).1
theorem QV (hO : B3 Φ H0 L H) (hI : XZ kf vf o mid b left p) (i : Nat) (hi : L[i]? = some (.blk it b)) (h1 : H mid = some (.obj o)) (hk : k (.tup [kf p.1, vf p.2]) H) : E.men H (.ref it 0) k := by
 subst hE;obtain ⟨⟨es0, c0, _, _, e0, _, hst, _⟩, es, clock, seen, e, rfl, rfl, he, h3, h4⟩ := hI;cases e0;exact ⟨it, mid, c0, seen, c0, es0, c0, e, _, _, rfl, hO.get i hi, rfl, h1, he, hst.2, h3, h4, hk⟩
omit hE in
theorem No [DecidableEq K] : ∀ {m : List (K × X)} {j : Nat} {p : K × X}, (m.map (·.1)).Nodup → m[j]? = some p → m.eraseIdx j = m.filter fun q => !decide (q.1 = p.1)
 | a :: m, 0, p, hn, h => by
  simp only [List.getElem?_cons_zero, Option.some.injEq] at h
  subst h
  rw [List.map_cons, List.nodup_cons] at hn
  rw [List.filter_cons, if_neg (by simp), List.eraseIdx_cons_zero]
  exact (List.filter_eq_self.2 fun q hq => by
   have : q.1 ≠ a.1 := fun e => hn.1 (List.mem_map.2 ⟨q, hq, e⟩)
   simp [this]).symm
 | a :: m, j + 1, p, hn, h => by
  simp only [List.getElem?_cons_succ] at h
  rw [List.map_cons, List.nodup_cons] at hn
  have : a.1 ≠ p.1 := fun e => hn.1 (List.mem_map.2 ⟨p, List.mem_of_getElem? h, e.symm⟩);rw [List.filter_cons, if_pos (by simp [this]), List.eraseIdx_cons_succ, No hn.2 h]
end
end Go.Ab
namespace Go.Ab
open Go.RowKit
variable [H5] [Ar]
theorem Cr.srt {X : Type} {d : TypeDesc} {kf : Int → V} {vf : X → V} {o : Obj} {m : List (Int × X)} (h : Cr d kf vf o m) : Cr d kf vf o (AC m) := h.perm (BJ m).symm
section
variable {P : Program} {nt : Nat} {rd : Option Nat} {T : Dt} {E : CU}
theorem Jq (cf : Cf) (hE : E = E7 P nt rd) (hP : Lf P T) {K X σ γ R ρ : Type} [DecidableEq ρ] {kf : K → V} {vf : X → V} {o : Obj} {mid : Nat} {step : σ → K × X → Option (σ ⊕ R)} {fin : σ → R} {nrm : R → ρ} {c : Code} {st : St} {H : A0} {Kc : Exit → St → A0 → Prop}
 (fm : σ → γ → Fl) (Inv : σ → γ → List Nat → AI → A0 → Prop) (Xr : ρ → Exit → Fl → List Nat → A0 → Prop) (hd : E9 cf c = true)
 (round : ∀ s g ds left b H, Pl kf vf o mid b left → Inv s g ds b H → (∀ p left', left.Perm (p :: left') → ∃ o, step s p = some o) → run E T nt cf c ⟨fm s g, ds⟩ H fun e st' H' => match e with
  | .normal => ∃ p left' s' g' b' ds', left.Perm (p :: left') ∧ step s p = some (.inl s') ∧ CE st'.l (fm s' g') ∧ st'.df = ds' ∧ Pl kf vf o mid b' left' ∧ Inv s' g' ds' b' H'
  | e => ∃ x l ds', (left = [] ∧ x = fin s ∨ ∃ p left', left.Perm (p :: left') ∧ step s p = some (.inr x)) ∧ Xr (nrm x) e l ds' H' ∧ CE st'.l l ∧ st'.df = ds')
 {m : List (K × X)} {s0 : σ} (g0 : γ) {b0 : AI} {r : ρ} (h : V3 step fin nrm m s0 = some r) (hf : CE st.l (fm s0 g0)) (hb : Pl kf vf o mid b0 m) (hI : Inv s0 g0 st.df b0 H) (after : ∀ e l ds H', Xr r e l ds H' → Kc e ⟨l, ds⟩ H') : E.sim (.loop c) st H Kc := by
 subst hE
 refine O9.loopN (fun n fr' H' => ∃ s g left b ds, left.length = n ∧ (∀ m', m'.Perm left → ∃ q, D0 step m' s = some q ∧ nrm (Qq fin q) = r) ∧ BE fr' ⟨fm s g, ds⟩ ∧ Pl kf vf o mid b left ∧ Inv s g ds b H') m.length
  ⟨s0, g0, m, b0, st.df, rfl, fun m' hm => Oh h hm, ⟨fun t => hf.wk t, rfl⟩, hb, hI⟩ fun n fr' H' ⟨s, g, left, b, ds, hn, hr, hle, hit, hi⟩ => ?_
 have stp : ∀ p left', left.Perm (p :: left') → ∃ o, step s p = some o := fun p left' hp => by
  obtain ⟨q, h1, _⟩ := hr _ hp.symm
  simp only [D0] at h1
  cases ho : step s p with
  | none => rw [ho] at h1; cases h1
  | some o => exact ⟨o, rfl⟩
 refine O9.frLe hle ((G3 hP.1 hP.2 c _ _ _ hd (round s g ds left b H' hit hi stp)).mono fun e fr2 H2 ⟨st', hle', hq⟩ => ?_)
 cases e with
 | normal =>
  obtain ⟨p, left', s', g', b', ds', h0, h1, h2, h3, h4, h5⟩ := hq;refine ⟨left'.length, ?_, s', g', left', b', ds', rfl, fun m' hm => ?_, ⟨fun t => (hle'.s t).trans (h2.wk t), hle'.df.trans h3⟩, h4, h5⟩
  ·have := h0.length_eq
   simp only [List.length_cons] at this
   omega
  obtain ⟨q, q1, q2⟩ := hr (p :: m') ((hm.cons p).trans h0.symm)
  simp only [D0, h1] at q1
  exact ⟨q, q1, q2⟩
 | _ =>
  obtain ⟨x, l, ds', h1, h4, h2, h3⟩ := hq;refine ⟨⟨l, ds'⟩, ⟨fun t => (hle'.s t).trans (h2.wk t), hle'.df.trans h3⟩, after _ _ _ _ ?_⟩
  have : nrm x = r := by
   rcases h1 with ⟨e1, e2⟩ | ⟨p, left', hp, e2⟩
   ·subst e1; subst e2;obtain ⟨q, q1, q2⟩ := hr [] (.refl _)
    simp only [D0, Option.some.injEq] at q1
    subst q1; exact q2
   obtain ⟨q, q1, q2⟩ := hr _ hp.symm
   simp only [D0, e2, Option.some.injEq] at q1
   subst q1; exact q2
  rw [← this]; exact h4
theorem Kj (cf : Cf) (hE : E = E7 P nt rd) (hP : Lf P T) {σ γ R : Type} {step : σ → Option (σ ⊕ R)} {c : Code} {st : St} {H : A0} {K : Exit → St → A0 → Prop} (fm : σ → γ → Fl) (Inv : σ → γ → List Nat → A0 → Prop) (X : R → Exit → Fl → List Nat → A0 → Prop) (hd : E9 cf c = true)
 (round : ∀ s g ds H o, Inv s g ds H → step s = some o → run E T nt cf c ⟨fm s g, ds⟩ H fun e st' H' => match e with
  | .normal => ∃ s' g' ds', o = .inl s' ∧ CE st'.l (fm s' g') ∧ st'.df = ds' ∧ Inv s' g' ds' H'
  | e => ∃ x l ds', o = .inr x ∧ X x e l ds' H' ∧ CE st'.l l ∧ st'.df = ds')
 {N : Nat} {s0 : σ} (g0 : γ) {r : R} (h : loopN step N s0 = some r) (hf : CE st.l (fm s0 g0)) (hI : Inv s0 g0 st.df H) (after : ∀ e l ds H', X r e l ds H' → K e ⟨l, ds⟩ H') : E.sim (.loop c) st H K := by
 subst hE;refine O9.loopN (fun n fr' H' => ∃ s g ds, loopN step n s = some r ∧ BE fr' ⟨fm s g, ds⟩ ∧ Inv s g ds H') N ⟨s0, g0, st.df, h, ⟨fun t => hf.wk t, rfl⟩, hI⟩ fun n fr' H' ⟨s, g, ds, hs, hle, hi⟩ => ?_
 cases n with
 | zero => cases hs
 | succ n =>
  simp only [loopN] at hs
  cases ho : step s with
  | none => rw [ho] at hs; cases hs
  | some o =>
   rw [ho] at hs
   refine O9.frLe hle ((G3 hP.1 hP.2 c _ _ _ hd (round s g ds H' o hi ho)).mono fun e fr2 H2 ⟨st', hle', hq⟩ => ?_)
   cases e with
   | normal =>
    obtain ⟨s', g', ds', h1, h2, h3, h4⟩ := hq;subst h1;exact ⟨n, Nat.lt_succ_self n, s', g', ds', hs, ⟨fun t => (hle'.s t).trans (h2.wk t), hle'.df.trans h3⟩, h4⟩
   | _ =>
    obtain ⟨x, l, ds', h1, h4, h2, h3⟩ := hq;subst h1;cases hs;exact ⟨⟨l, ds'⟩, ⟨fun t => (hle'.s t).trans (h2.wk t), hle'.df.trans h3⟩, after _ _ _ _ h4⟩
end
end Go.Ab
namespace Go.Ab
open Go.RowKit
variable [H5] [Ar]
def Dp (H : A0) : List (Nat × AI) → A0
 | [] => H
 | p :: r => upd (Dp H r) p.1 none
def GU : List (Nat × AI) → List En
 | [] => []
 | p :: r => .blk p.1 p.2 :: GU r
def apart : List Nat → Prop
 | [] => True
 | a :: l => (∀ b ∈ l, a ≠ b) ∧ apart l
theorem KY (a : Nat) : apart [a] := ⟨fun _ h => (nomatch h), trivial⟩
theorem KX {a : Nat} {l : List Nat} (h : ∀ b ∈ l, a ≠ b) (k : apart l) : apart (a :: l) := ⟨h, k⟩
theorem XH {a : Nat} : ∀ b ∈ ([] : List Nat), a ≠ b := fun _ h => (nomatch h)
theorem XG {a b : Nat} {l : List Nat} (h : a ≠ b) (k : ∀ c ∈ l, a ≠ c) : ∀ c ∈ b :: l, a ≠ c := fun c hc => by
 rcases List.mem_cons.1 hc with rfl | hc
 ·exact h
 exact k c hc
theorem XU {H : A0} : ∀ p ∈ ([] : List (Nat × AI)), H p.1 = some p.2 := fun _ h => (nomatch h)
theorem UM {H : A0} {a : Nat} {b : AI} {l : List (Nat × AI)} (h : H a = some b) (k : ∀ p ∈ l, H p.1 = some p.2) : ∀ p ∈ (a, b) :: l, H p.1 = some p.2 := fun p hp => by
 rcases List.mem_cons.1 hp with rfl | hp
 ·exact h
 exact k p hp
def NB (P : Program) (f : FuncId) (args : List V) (bs : List (Nat × AI)) (x : V) : Prop :=
 ∀ H, apart (bs.map (·.1)) → (∀ p ∈ bs, H p.1 = some p.2) → E8 P f args H fun v H' => v = x ∧ H' = H
theorem IZ {H : A0} : ∀ {bs : List (Nat × AI)} {p : Nat × AI}, p ∈ bs → Dp H bs p.1 = none
 | q :: bs, p, h => by
  unfold Dp
  by_cases e : p.1 = q.1
  ·rw [e, A9]
  rw [A4 _ _ e]
  rcases List.mem_cons.1 h with rfl | h
  ·exact absurd rfl e
  exact IZ h
theorem JZ {F : A0} : ∀ {bs : List (Nat × AI)}, apart (bs.map (·.1)) → (∀ p ∈ bs, F p.1 = none) → ∃ H, B3 Eq F (GU bs) H ∧ (∀ p ∈ bs, H p.1 = some p.2) ∧ ∀ x, (∀ p ∈ bs, p.1 ≠ x) → H x = F x
 | [], _, _ => ⟨F, B3.start B7 rfl, fun _ h => (nomatch h), fun _ _ => rfl⟩
 | p :: bs, ha, hn => by
  obtain ⟨H, h1, h2, h3⟩ := JZ (F := F) (bs := bs) ha.2 fun q hq => hn q (List.mem_cons_of_mem _ hq)
  have hp : H p.1 = none := by
   rw [h3 p.1 fun q hq e => ha.1 q.1 (List.mem_map.2 ⟨q, hq, rfl⟩) e.symm];exact hn p (by simp)
  refine ⟨upd H p.1 (some p.2), h1.push hp rfl, fun q hq => ?_, fun x hx => ?_⟩
  ·rcases List.mem_cons.1 hq with rfl | hq
   ·exact A9 _ _ _
   rw [A4 _ _ fun e => ha.1 q.1 (List.mem_map.2 ⟨q, hq, rfl⟩) e.symm]; exact h2 q hq
  rw [A4 _ _ fun e => hx p (by simp) e.symm];exact h3 x fun q hq => hx q (List.mem_cons_of_mem _ hq)
theorem Vk {H : A0} {bs : List (Nat × AI)} (ha : apart (bs.map (·.1))) (hH : ∀ p ∈ bs, H p.1 = some p.2) : B3 Eq (Dp H bs) (GU bs) H := by
 obtain ⟨H', h1, h2, h3⟩ := JZ (F := Dp H bs) ha fun p hp => IZ hp
 have : H' = H := by
  funext x
  by_cases hx : ∃ p ∈ bs, p.1 = x
  ·obtain ⟨p, hp, rfl⟩ := hx;rw [h2 p hp, hH p hp]
  have hx' : ∀ p ∈ bs, p.1 ≠ x := fun p hp e => hx ⟨p, hp, e⟩;rw [h3 x hx'];clear h1 h2 h3 ha hH hx
  induction bs with
  | nil => rfl
  | cons q bs ih =>
   unfold Dp;rw [A4 _ _ fun e => hx' q (by simp) e.symm];exact ih fun p hp => hx' p (List.mem_cons_of_mem _ hp)
 rwa [this] at h1
theorem Mm : ∀ {bs : List (Nat × AI)} {p : Nat × AI}, p ∈ bs → ∃ i : Nat, (GU bs)[i]? = some (En.blk p.1 p.2)
 | q :: bs, p, h => by
  rcases List.mem_cons.1 h with rfl | h
  ·exact ⟨0, rfl⟩
  obtain ⟨i, hi⟩ := Mm h;exact ⟨i + 1, by simpa [GU] using hi⟩
section
variable {P : Program} {T : Dt} {f : FuncId} {fn : Func} {c : Code} {n : Nat} {rs : List ResultVar} {args : List V}
theorem KM {bs : List (Nat × AI)} {x : V} (cf : Cf) (hP : Lf P T) (hf : P.funcs[f]? = some fn) (hb : fn.body = some c) (hd : E9 cf c = true)
 (hcall : ∀ vals w, (callFunc f vals).run P w = .ok (.enter f vals) w) (hnt : fn.ntmps = n) (hrs : fn.results.toList = rs) (hn : Nat.ble args.length n = true)
 (h : ∀ (E : CU) (H : A0) (k : V → A0 → Prop), E = E7 P n none → B3 Eq (Dp H bs) (GU bs) H → (∀ v H', B3 Eq (Dp H bs) (GU bs) H' → Z6 v x → k v H') → run E T n cf c ⟨Ak args 0, []⟩ H (It E T rs k)) : NB P f args bs x := fun H ha hH => by
 refine E8.le (O7 (K := fun v H' => ∃ y H2, Z6 v y ∧ Ds H2 H' ∧ y = x ∧ H2 = H) cf hP.1 hP.2 hf hb hd hcall hnt hrs hn fun E hE => ?_);refine h E H _ hE (Vk ha hH) fun v H' hO hv => ⟨_, _, hv, ?_, rfl, rfl⟩;intro y b hy
 by_cases hx : ∃ p ∈ bs, p.1 = y
 ·obtain ⟨p, hp, rfl⟩ := hx;obtain ⟨i, hi⟩ := Mm hp
  rw [hH p hp] at hy; cases hy
  exact hO.get i hi
 refine hO.ext _ _ ?_;rw [← hy];have hx' : ∀ p ∈ bs, p.1 ≠ y := fun p hp e => hx ⟨p, hp, e⟩;clear hy hO hH ha hx h
 induction bs with
 | nil => rfl
 | cons q bs ih =>
  unfold Dp;rw [A4 _ _ fun e => hx' q (by simp) e.symm];exact ih fun p hp => hx' p (List.mem_cons_of_mem _ hp)
end
section
variable {P : Program} {nt : Nat} {rd : Option Nat} {T : Dt} {E : CU}
theorem Ft (hE : E = E7 P nt rd) {R α : Type} {fid : FuncId} {F0 C0 args args' : List V} {bs : List (Nat × AI)} {m : Option α} {g : α → V} {F : α → Option R} {r : R} {H : A0} {k : V → A0 → Prop} (h : m.bind F = some r) (hc : ∀ x, m = some x → NB P fid (F0 ++ args' ++ C0) bs (g x)) (hl : G9 (F0 ++ args ++ C0) (F0 ++ args' ++ C0))
 (ha : apart (bs.map (·.1))) (hH : ∀ p ∈ bs, H p.1 = some p.2) (hk : ∀ x, F x = some r → k (g x) H) : E.call (.func (.func fid) F0 C0) args H k := by
 subst hE;obtain ⟨x, h2, h3⟩ := bind_some h;refine E8.value (F := F0) (C := C0) ?_
 refine E8.mono (E8.args (hc x h2 H ha hH) hl) fun v H' ⟨e1, e2⟩ => by subst e1; subst e2; exact hk x h3
end
end Go.Ab
namespace Go.Ab
variable [H5] [Ar]
section
variable {P : Program} {nt : Nat} {rd : Option Nat} {E : CU} (hE : E = E7 P nt rd) {Φ : A0 → A0 → Prop} {H0 H : A0} {L : List En}
include hE
theorem n_takeT (hO : B3 Φ H0 L H) (i : Nat) {tl : D8} (hi : L[i]? = some (.tl tl)) (ha : O8 tl) {k : D8 → A0 → Prop}
 (hk : ∀ H', B3 Φ H0 (L.set i (.tl .nil)) H' → k tl H') : E.takeT H k := by
 subst hE;exact ⟨tl, hO.appOk i hi ha, hk _ (hO.untok i hi rfl)⟩
end
end Go.Ab
namespace Go.Ab
open Go.RowKit
variable [H5]
theorem E8.thaw {P : Program} {f : FuncId} {args : List V} {H : A0} {K K' : V → A0 → Prop} (h : E8 P f args H K)
 (hk : ∀ x H', K x H' → K' x H' ∨ ∃ id sz row lo n, x = .own id lo n ∧ H' id = some (.arr sz row) ∧ K' (.sl (G8 row lo n) .ro) (upd H' id none)) : E8 P f args H K' :=
 fun g w vals hR hA => (h g w vals hR hA).mono fun v w' ⟨g', x, H', s, hR', hv, hK⟩ => by
  rcases hk x H' hK with hK | ⟨id, sz, row, lo, n, rfl, h1, h2⟩
  ·exact ⟨g', x, H', s, hR', hv, hK⟩
  obtain ⟨g2, s2, R2, hv2⟩ := hR'.freezeArr h1;exact ⟨g2, _, _, s.trans s2, R2, hv2 _ _ _ (hv.mono s2), h2⟩
section
variable [Ar] {P : Program} {T : Dt}
theorem S4 {f : FuncId} {fn : Func} {c : Code} {n : Nat} {rs : List ResultVar} {args : List V} {r : V} (cf : Cf) (hP : Lf P T) (hf : P.funcs[f]? = some fn) (hb : fn.body = some c) (hd : E9 cf c = true)
 (hcall : ∀ vals w, (callFunc f vals).run P w = .ok (.enter f vals) w) (hnt : fn.ntmps = n) (hrs : fn.results.toList = rs) (hn : Nat.ble args.length n = true)
 (h : ∀ (E : CU) (H : A0) (K : V → A0 → Prop), E = E7 P n none → (∀ x L H', B3 Eq H L H' → Z6 x r → K x H') →
  (∀ (q : OG) (sz : Nat) (xs : List V) (i : Nat) (L : List En) H', B3 Eq H L H' → L[i]? = some (.blk q.id (.arr sz (q.pre ++ xs ++ q.rest))) → X6 q (xs.length : Nat) → Z6 (.sl xs .ro) r → K (.own q.id q.lo q.n) H') → run E T n cf c ⟨Ak args 0, []⟩ H (It E T rs K)) : B5 P f args r := fun H => by
 refine E8.le ?_
 refine (O7 (K := fun x H' => (∃ y H2, Z6 x y ∧ Ds H2 H' ∧ y = r ∧ H2 = H) ∨ ∃ (q : OG) (sz : Nat) (xs : List V) (i : Nat) (L : List En), x = .own q.id q.lo q.n ∧ B3 Eq H L H' ∧ L[i]? = some (.blk q.id (.arr sz (q.pre ++ xs ++ q.rest))) ∧ X6 q (xs.length : Nat) ∧ Z6 (.sl xs .ro) r)
  cf hP.1 hP.2 hf hb hd hcall hnt hrs hn fun E hE => ?_).thaw ?_
 ·exact h E H _ hE (fun x L H' hO hx => .inl ⟨r, H, hx, hO.ext, rfl, rfl⟩) fun q sz xs i L H' hO hi hq hr => .inr ⟨q, sz, xs, i, L, rfl, hO, hi, hq, hr⟩
 rintro x H' (h | ⟨q, sz, xs, i, L, rfl, hO, hi, hq, hr⟩)
 ·exact .inl h
 refine .inr ⟨q.id, sz, _, q.lo, q.n, rfl, hO.get i hi, r, H, ?_, (hO.del i hi).ext, rfl, rfl⟩;rw [Ia rfl hq.1 hq.2]; exact hr
end
end Go.Ab
namespace Go.Ab
open Go.RowKit
variable [H5] [Ar]
def Xv (e e' : En) : Prop := ∀ id b b', e.id = some (id, b) → e'.id = some (id, b') → False
theorem W2.perm {H0 H : A0} {L L' : List En} (h : W2 H0 L H) (p : L.Perm L') : W2 H0 L' H := by
 have hp : L.Pairwise Xv := by
  rw [List.pairwise_iff_getElem];intro i j hi hj hlt id b b' e1 e2;have := h.inj i j _ _ id b b' (List.getElem?_eq_getElem hi) (List.getElem?_eq_getElem hj) e1 e2;omega
 have hp' : L'.Pairwise Xv := (p.pairwise_iff (fun {x y} (h : Xv x y) id b b' e1 e2 => h id b' b e2 e1)).1 hp
 rw [List.pairwise_iff_getElem] at hp'
 refine ⟨h.ext, fun i e id b hi he => ?_, fun i j e e' id b b' hi hj he he' => ?_, fun x b hx => (h.only x b hx).imp (fun h => h) fun ⟨i, e, h1, h2⟩ => ?_⟩
 ·obtain ⟨j, hj⟩ := List.getElem?_of_mem (p.mem_iff.2 (List.mem_of_getElem? hi));exact h.has j e id b hj he
 ·obtain ⟨hi', ei⟩ := List.getElem?_eq_some_iff.1 hi;obtain ⟨hj', ej⟩ := List.getElem?_eq_some_iff.1 hj
  rcases Nat.lt_trichotomy i j with hlt | heq | hlt
  ·exact (hp' i j hi' hj' hlt id b b' (by rw [ei]; exact he) (by rw [ej]; exact he')).elim
  ·exact heq
  exact (hp' j i hj' hi' hlt id b' b (by rw [ej]; exact he') (by rw [ei]; exact he)).elim
 obtain ⟨j, hj⟩ := List.getElem?_of_mem (p.mem_iff.1 (List.mem_of_getElem? h1));exact ⟨j, e, hj, h2⟩
theorem B3.perm {Φ : A0 → A0 → Prop} {F H : A0} {L L' : List En} (h : B3 Φ F L H) (p : L.Perm L') : B3 Φ F L' H :=
 let ⟨hs, F', H1, h0, h1, h2⟩ := h; ⟨hs, F', H1, h0.perm p, h1, h2⟩
structure Rw (α : Type) where
 q : OG
 row : List (List α × D8)
variable {α : Type} (f : α → V)
def XS (c : List α × D8) : V := .sl (Ar.lst f c.1) c.2
def QL (w : Rw α) : En := .blk w.q.id (.arr 1 (w.q.pre ++ Ar.lst (XS f) w.row ++ w.q.rest))
def WI (w : Rw α) : List En := QL f w :: w.row.map fun c => .tl c.2
def fo : List (Rw α) → List En
 | [] => []
 | w :: F => WI f w ++ fo F
variable {f}
theorem Uj : ∀ (F G : List (Rw α)), fo f (F ++ G) = fo f F ++ fo f G
 | [], _ => rfl
 | w :: F, G => by rw [List.cons_append, fo, fo, Uj F G, List.append_assoc]
theorem OK : ∀ {F : List (Rw α)} {c : Nat} {w : Rw α}, F[c]? = some w → ∃ R, (fo f F).Perm (WI f w ++ R) ∧ ∀ w', (fo f (F.set c w')).Perm (WI f w' ++ R)
 | [], _, _, h => by simp at h
 | v :: F, 0, w, h => by
  simp at h; subst h
  exact ⟨fo f F, .refl _, fun w' => .refl _⟩
 | v :: F, c + 1, w, h => by
  obtain ⟨R, h1, h2⟩ := OK (F := F) (c := c) (w := w) (by simpa using h)
  have key : ∀ (X Y : List En), X.Perm (Y ++ R) → (WI f v ++ X).Perm (Y ++ (WI f v ++ R)) := fun X Y hX =>
   (hX.append_left _).trans (by
    rw [← List.append_assoc, ← List.append_assoc]
    exact List.perm_append_comm.append_right R)
  exact ⟨WI f v ++ R, key _ _ h1, fun w' => key _ _ (h2 w')⟩
theorem LK : ∀ {row : List (List α × D8)} {i : Nat} {c : List α × D8}, row[i]? = some c → ∃ R, (row.map fun c => En.tl c.2).Perm (.tl c.2 :: R) ∧ ∀ c', ((row.set i c').map fun c => En.tl c.2).Perm (.tl c'.2 :: R)
 | [], _, _, h => by simp at h
 | v :: F, 0, w, h => by
  simp at h; subst h
  exact ⟨F.map fun c => .tl c.2, .refl _, fun w' => .refl _⟩
 | v :: F, i + 1, w, h => by
  obtain ⟨R, h1, h2⟩ := LK (row := F) (i := i) (c := w) (by simpa using h);exact ⟨.tl v.2 :: R, (h1.cons _).trans (.swap ..), fun w' => ((h2 w').cons _).trans (.swap ..)⟩
theorem Qw {F : List (Rw α)} {c i : Nat} {w : Rw α} {x : List α × D8} (hc : F[c]? = some w) (hi : w.row[i]? = some x) :
 ∃ R, (fo f F).Perm (.tl x.2 :: QL f w :: R) ∧ ∀ x', (fo f (F.set c ⟨w.q, w.row.set i x'⟩)).Perm (.tl x'.2 :: QL f ⟨w.q, w.row.set i x'⟩ :: R) := by
 obtain ⟨R, h1, h2⟩ := OK (f := f) hc;obtain ⟨S, k1, k2⟩ := LK hi
 have key : ∀ (b : En) (X : List En) (t : En), X.Perm (t :: S) → (b :: (X ++ R)).Perm (t :: b :: (S ++ R)) := fun b X t hX =>
  ((hX.append_right R).cons b).trans (.swap ..)
 exact ⟨S ++ R, h1.trans (key _ _ _ k1), fun x' => (h2 _).trans (key _ _ _ (k2 x'))⟩
theorem B3.cell {Φ : A0 → A0 → Prop} {H0 H : A0} {b : En} {L : List En} {F : List (Rw α)} {c i : Nat} {w : Rw α} {x : List α × D8} (hO : B3 Φ H0 (b :: (fo f F ++ L)) H) (hc : F[c]? = some w) (hi : w.row[i]? = some x) :
 ∃ R, B3 Φ H0 (.tl x.2 :: QL f w :: b :: R) H ∧ ∀ x' H', B3 Φ H0 (.tl x'.2 :: QL f ⟨w.q, w.row.set i x'⟩ :: b :: R) H' → B3 Φ H0 (b :: (fo f (F.set c ⟨w.q, w.row.set i x'⟩) ++ L)) H' := by
 obtain ⟨R, h1, h2⟩ := Qw (f := f) hc hi
 have key : ∀ (X : List En) (t r : En), X.Perm (t :: r :: R) → (b :: (X ++ L)).Perm (t :: r :: b :: (R ++ L)) := fun X t r h =>
  ((h.append_right L).cons b).trans ((List.Perm.swap t b _).trans ((List.Perm.swap r b _).cons t))
 exact ⟨R ++ L, hO.perm (key _ _ _ h1), fun x' H' h => h.perm (key _ _ _ (h2 x')).symm⟩
theorem B3.row {Φ : A0 → A0 → Prop} {H0 H : A0} {b b' : En} {L : List En} {F : List (Rw α)} {w : Rw α} (hO : B3 Φ H0 (QL f w :: b :: b' :: (fo f F ++ L)) H) (hw : ∀ c ∈ w.row, (En.tl c.2).id = none) : B3 Φ H0 (b' :: (fo f (F ++ [w]) ++ (b :: L))) H := by
 have h1 : ∀ (row : List (List α × D8)) (M : List En), (∀ c ∈ row, (En.tl c.2).id = none) → B3 Φ H0 M H → B3 Φ H0 ((row.map fun c => .tl c.2) ++ M) H := by
  intro row
  induction row with
  | nil => exact fun _ _ h => h
  | cons c row ih => exact fun M hr h => (ih M (fun c hc => hr c (by simp [hc])) h).tl0 (hr c (by simp))
 have h2 := h1 w.row _ hw hO;refine h2.perm ?_;rw [Uj];simp only [fo, WI, List.append_nil];generalize w.row.map (fun c => En.tl c.2) = X;generalize fo f F = Y;have p1 : (X ++ QL f w :: b :: b' :: (Y ++ L)).Perm (QL f w :: X ++ (b :: b' :: (Y ++ L))) := List.perm_middle
 have p2 : (QL f w :: X ++ (b :: b' :: (Y ++ L))).Perm (b' :: (QL f w :: X ++ (b :: (Y ++ L)))) :=
  ((List.Perm.swap b' b (Y ++ L)).append_left (QL f w :: X)).trans List.perm_middle
 refine p1.trans (p2.trans (.cons b' ?_));have p3 : (QL f w :: X ++ (b :: (Y ++ L))).Perm (QL f w :: X ++ (Y ++ b :: L)) := (List.perm_middle.symm).append_left _;refine p3.trans ?_;rw [← List.append_assoc];exact (List.perm_append_comm (l₁ := QL f w :: X) (l₂ := Y)).append_right _
end Go.Ab
namespace Go.Ab
open Go.RowKit
variable [H5]
def Pm (H : A0) (v : V) (H' : A0) (v' : V) : Prop := ∀ g w, Rl g H w → ∃ g', N4 g w g' w ∧ Rl g' H' w ∧ ∀ u, VR g w u v → VR g' w u v'
theorem Pm.refl (H : A0) (v : V) : Pm H v H v := fun g w h => ⟨g, N4.refl _ _, h, fun _ h => h⟩
theorem Pm.trans {H H1 H2 : A0} {v v1 v2 : V} (a : Pm H v H1 v1) (b : Pm H1 v1 H2 v2) : Pm H v H2 v2 := fun g w h => by
 obtain ⟨g1, s1, R1, k1⟩ := a g w h;obtain ⟨g2, s2, R2, k2⟩ := b g1 w R1;exact ⟨g2, s1.trans s2, R2, fun u hu => k2 u (k1 u hu)⟩
theorem Pm.tup2 {H H' : A0} {v v' c : V} (a : Pm H v H' v') : Pm H (.tup [v, c]) H' (.tup [v', c]) := fun g w h => by
 obtain ⟨g1, s1, R1, k1⟩ := a g w h;refine ⟨g1, s1, R1, fun u hu => ?_⟩
 cases hu with
 | tup hl hv =>
  refine .tup hl fun i hi => ?_;have := hv i hi
  match i, hi with
  | 0, _ => exact k1 _ this
  | 1, _ => exact this.mono s1
theorem Pm.agg1 {H H' : A0} {v v' : V} (a : Pm H v H' v') : Pm H (.agg [v]) H' (.agg [v']) := fun g w h => by
 obtain ⟨g1, s1, R1, k1⟩ := a g w h;refine ⟨g1, s1, R1, fun u hu => ?_⟩
 cases hu with
 | agg hl h1 hv =>
  refine .agg hl h1 fun i hi => ?_;have := hv i hi
  match i, hi with
  | 0, _ => exact k1 _ this
theorem E8.ghost {P : Program} {f : FuncId} {args : List V} {H : A0} {K K' : V → A0 → Prop} (h : E8 P f args H K) (hk : ∀ x H', K x H' → ∃ x' H2, Pm H' x H2 x' ∧ K' x' H2) : E8 P f args H K' :=
 fun g w vals hR hA => (h g w vals hR hA).mono fun v w' ⟨g', x, H', s, hR', hv, hK⟩ => by
  obtain ⟨x', H2, hg, hK'⟩ := hk x H' hK;obtain ⟨g2, s2, R2, k2⟩ := hg g' w' hR';exact ⟨g2, x', H2, s.trans s2, R2, k2 v hv, hK'⟩
section
variable [Ar] {α : Type} {f : α → V}
theorem B3.frzG {H0 H : A0} {L : List En} {q : OG} {l : List α} {sz : Nat} (hO : B3 Eq H0 L H) (i : Nat) (hi : L[i]? = some (.blk q.id (.arr sz (q.pre ++ Ar.lst f l ++ q.rest)))) (hq : X6 q (Ar.len l)) :
 ∃ H', Pm H (.own q.id q.lo q.n) H' (.sl (Ar.lst f l) .ro) ∧ Ds H0 H' := by
 refine ⟨_, fun g w hR => ?_, (hO.del i hi).ext⟩;obtain ⟨g', s', R', hv⟩ := hR.freezeArr (hO.get i hi);refine ⟨g', s', R', fun u hu => ?_⟩;have := hv u q.lo q.n (hu.mono s')
 rwa [FO hq.1 (by rw [hq.2, Ar.len_eq, I0])] at this
theorem KN {P : Program} {T : Dt} {f : FuncId} {fn : Func} {c : Code} {n : Nat} {rs : List ResultVar} {args : List V} {r : V} (cf : Cf) (hP : Lf P T) (hf : P.funcs[f]? = some fn) (hb : fn.body = some c) (hd : E9 cf c = true)
 (hcall : ∀ vals w, (callFunc f vals).run P w = .ok (.enter f vals) w) (hnt : fn.ntmps = n) (hrs : fn.results.toList = rs) (hn : Nat.ble args.length n = true)
 (h : ∀ (E : CU) (H : A0) (K : V → A0 → Prop), E = E7 P n none → (∀ x L H', B3 Eq H L H' → Z6 x r → K x H') → (∀ x H' x' H2, Pm H' x H2 x' → Ds H H2 → Z6 x' r → K x H') → run E T n cf c ⟨Ak args 0, []⟩ H (It E T rs K)) : B5 P f args r := fun H => by
 refine E8.le (E8.ghost (O7 (K := fun x H' => (∃ y H2, Z6 x y ∧ Ds H2 H' ∧ y = r ∧ H2 = H) ∨ ∃ x' H2, Pm H' x H2 x' ∧ Ds H H2 ∧ Z6 x' r) cf hP.1 hP.2 hf hb hd hcall hnt hrs hn fun E hE => ?_) ?_)
 ·exact h E H _ hE (fun x L H' hO hx => .inl ⟨r, H, hx, hO.ext, rfl, rfl⟩) fun x H' x' H2 hg hle hx => .inr ⟨x', H2, hg, hle, hx⟩
 rintro x H' (h | ⟨x', H2, hg, hle, hx⟩)
 ·exact ⟨x, H', Pm.refl _ _, h⟩
 exact ⟨x', H2, hg, r, H, hx, hle, rfl, rfl⟩
end
end Go.Ab
