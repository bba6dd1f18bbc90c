/- AbO5 AbO6 -/
import Derived.Test.YtildiiggamckaaaGreatDoorT06
import Derived.Lib.SliceRun
import Derived.WalkSpells
set_option linter.all false
namespace Go.Ab
open Go.RowKit
variable [G5]
def Fe (P : Program) (H : A0) (t : TypeId) (v : V) (lo hi mx : Option Int) : Option V :=
 match BT P t, v with
 | some e, .own id l n =>
  match Bw P e, Bu H id with
  | some sz, some (sz', xs) =>
   if sz = sz' ∧ 0 ≤ lo.getD 0 ∧ lo.getD 0 ≤ hi.getD n ∧ hi.getD n ≤ mx.getD ((xs.length : Nat) - l) ∧ mx.getD ((xs.length : Nat) - l) ≤ (xs.length : Nat) - l ∧ (mx.isSome = true → hi.isSome = true) then
    some (match mx with | none => .own id (l + lo.getD 0) (hi.getD n - lo.getD 0) | some _ => .bad) else none
  | _, _ => none
 | _, _ => none
def PZ (P : Program) (H : A0) (t : TypeId) (v : V) : Option V :=
 match BT P t, v with
 | some _, .own id l _ => (Bu H id).map fun q => .int .i64 ((q.2.length : Nat) - l)
 | some _, .sl [] .nil => some (.int .i64 0)
 | some _, .sl [] .full => some (.int .i64 0)
 | _, _ => none
section
variable {P : Program} {o : Oper} {fr : Fr} {H : A0} {K : V → A0 → Prop}
theorem Bj {z : V} {m i : Nat} (h : i < m) : (List.replicate m z).getD i .bad = z := by
 simp [List.getD, h]
theorem Gl {g : Gh} {w : World} (hR : Rl g H w) {vs vy : Value} {ty : TypeId} {cs : Array Bool} {sT yT e : TypeId} {k k' : IntKind} {id sz by_ : Nat} {lo n m : Int} {z : V} {xs : List V} (hvs : VR g w vs (.own id lo n)) (hvy : VR g w vy (.int k m))
 (hk : H id = some (.arr sz xs)) (he : BT P sT = some e) (hyT : P.underlying yT = some (.int k')) (hsz : Bw P e = some sz) (hpos : 0 < sz) (hby : Jc P e = some by_) (hbp : 0 < by_)
 (hz : Er P e = some z) (hz1 : z.one = true) (hzl : z.cells.length = sz) (hm0 : 0 ≤ m)
 (hbound : (n.toNat + m.toNat) * by_ ≤ 140737488355328)
 (hin : lo + n + m ≤ (xs.length : Nat) → K (.own id lo (n + m)) (upd H id (some (.arr sz (T5 xs (lo + n).toNat (List.replicate m.toNat z))))))
 (hout : (xs.length : Nat) < lo + n + m → ∀ t k, H t = none → K (.own t 0 (n + m)) (upd H t (some (.arr sz (G3 xs lo n ++ List.replicate m.toNat z ++ List.replicate k z))))) :
 D7 P (G8 g w K) ((builtin .append #[sT, yT] ty cs #[vs, vy]).run P w) := by
 have ey := hvy.int_inv;have hu := H8 he;obtain ⟨zv, ez, hzv⟩ := Az hz
 have hzr : VR g w zv z := by rw [ez]; exact Bq g w zv
 obtain ⟨hzs', hzc⟩ := hzr.cells hz1
 have hzs : zv.cells.size = sz := by rw [hzs', hzl]
 have hbytes : ∀ w, (typeInfo e).run P w = .ok ((P.info? e).getD default) w ∧ ((P.info? e).getD default).bytes = by_ := by
  intro w
  unfold Jc at hby
  cases hi : P.info? e with
  | none => simp [hi] at hby
  | some i => simp [hi] at hby; simp [typeInfo, hi, hby]
 have hbi : ∀ w, (typeInfo e).run P w = .ok ((P.info? e).getD default) w := fun w => (hbytes w).1;have hbb := (hbytes w).2
 have hmn : m = (m.toNat : Nat) := by omega
 generalize hmm : m.toNat = mm at *
 subst hmn
 have hlr : (List.replicate mm z).length = mm := by simp
 have hmb : mm * by_ ≤ 140737488355328 := Nat.le_trans (Nat.mul_le_mul_right _ (Nat.le_add_left _ _)) hbound;have hm1 : mm ≤ mm * by_ := Nat.le_mul_of_pos_right _ hbp;have hw1 : IntKind.i64.wrap (mm : Int) = mm := wrap_small _ (by omega) (by omega)
 have hleny : ∀ i, i < (List.replicate mm z).length → ((List.replicate mm z).getD i .bad).cells.length = sz := fun i hi => by rw [Bj (by simpa using hi)]; exact hzl
 have hfy : ∀ i j, i < (List.replicate mm z).length → j < sz → (zv.cells.getD j undef).oneCell' = true ∧ VR g w (zv.cells.getD j undef) (((List.replicate mm z).getD i .bad).cells.getD j .bad) := fun i j hi hj => by
  rw [Bj (by simpa using hi)]; exact hzc j (by omega)
 have hzero : ((List.range (mm * sz)).map fun k => zv.cells.getD (k % sz) undef).toArray = Builtin.zeroCells zv.cells mm := by
  apply Array.ext
  ·simp [size_zeroCells, hzs]
  intro i h1 h2
  have hi : i < mm * sz := by simpa using h1
  have hq : i % sz < zv.cells.size := by rw [hzs]; exact Nat.mod_lt _ hpos
  unfold Builtin.zeroCells;simp [hzs, Array.getD];rw [dif_pos (Nat.mod_lt _ hpos), getElem!_pos zv.cells (i % sz) hq]
 have hn1 : ¬ ((mm : Int) < 0) := by omega
 have hn2 : ¬ (281474976710656 < (mm : Int) * (by_ : Int)) := by
  have : ((mm * by_ : Nat) : Int) ≤ 140737488355328 := by omega
  rw [Int.natCast_mul] at this
  omega
 have happ : ∀ w' : World, (if mm * sz = 0 then pure #[] else (do pure (Builtin.zeroCells (← zeroValue e).cells mm) : Sem (Array Value))).run P w' = .ok ((List.range (mm * sz)).map fun k => zv.cells.getD (k % sz) undef).toArray w' := by
  intro w'
  by_cases h0 : mm * sz = 0
  ·rw [if_pos h0, h0]; rfl
  rw [if_neg h0, hzero];simp only [Sem.run_bind, hzv, Result.andThen_ok, Sem.run_pure]
 obtain ⟨b, p, h1, h2, h3, h4, h5, h6, h7, h8, h9, h10⟩ := Bg hR hk hvs;simp only [builtin, List.map_toArray, List.map_cons, List.map_nil, Sem.run_bind, ey]
 by_cases hc : lo + n + (mm : Int) ≤ (xs.length : Nat)
 ·obtain ⟨base, cap, w', q1, q2, q3, q4, q5⟩ := Uf (P := P) (K := K) (ys := List.replicate mm z) (fy := fun _ j => zv.cells.getD j undef) hR hk hvs hpos hleny hfy (by rw [hlr]; exact hc) (by rw [hlr]; exact hin hc)
  rw [hlr] at q2 q4 q5
  rw [q1]
  have hrun : (Builtin.append_ #[sT, yT] ty #[.slice base n.toNat cap, .int k mm]).run P w = .ok (.slice base (n.toNat + mm) cap) w' := by
   have ha := happ w
   simp only [Sem.run_ite, Sem.run_bind, hzv, Sem.run_pure, Result.andThen_ok] at ha
   simp only [Builtin.append_, Sem.run_bind, run_underlying hu, Result.andThen_ok, H7 hsz, run_underlying hyT, Sem.run_pure, Sem.run_ite, List.getElem?_toArray, asInt, asIntOf, hw1, hbi, hbb,
    List.getElem?_cons_zero, List.getElem?_cons_succ, Bool.false_eq_true, if_false, Bool.not_true, if_true, gt_iff_lt, if_neg hn1, Int.reducePow, if_neg hn2, Int.toNat_natCast, if_pos q2, hzv, ha]
   cases base with
   | none => simp only at q4; cases q4; rfl
   | some a => simp only at q4; simp only [q4, Sem.run_bind, Sem.run_pure, Result.andThen_ok]
  rw [hrun];simp only [Result.andThen_ok, Sem.run_pure, D7];exact q5
 have hout := hout (by omega)
 have hall : (G3 xs lo n).all (fun x => x.cells.length == sz) = true := FM fun i hi => by
  rw [V3 h3 h4 h5] at hi
  rw [HJ hi]; exact h9 _ (by omega)
 obtain ⟨base, cap, fs, es, hfs, hrs⟩ := DZ P hR (x := .own id lo n) (xs := G3 xs lo n) (by simp [Md, Bu, hk]) hvs hall;have hrs := hrs _ (Nat.le_refl _);have hsl := V3 h3 h4 h5
 have hcap : cap = xs.length - lo.toNat := by rw [h2] at es; simp only [Value.slice.injEq] at es; omega
 have hc' : ¬ ((G3 xs lo n).length + mm ≤ cap) := by omega
 have hnf : ¬ (2 ^ 48 < Builtin.nextslicecap ((G3 xs lo n).length + mm) cap * by_) := by
  have := growslice_fits (Nat.lt_of_not_le hc') (by rw [hsl]; exact hbound); omega
 have hdr : ∀ b o, w.drew.cell? ⟨b, o, none⟩ = w.cell? ⟨b, o, none⟩ := fun _ _ => rfl;generalize hG : grownCap w ((G3 xs lo n).length + mm) cap e = G
 have hGe : (G3 xs lo n).length + mm ≤ G := by rw [← hG]; exact grownCap_ge w _ _ _
 have hn63' : ¬ (IntKind.i64.max < (((G3 xs lo n).length + mm : Nat) : Int) ∧ (True ∨ by_ = 0)) := by
  rintro ⟨h, _⟩
  have h1' : ((G3 xs lo n).length + mm) ≤ (n.toNat + mm) * by_ := by rw [hsl]; exact Nat.le_mul_of_pos_right _ hbp
  have h2' : (9223372036854775807 : Int) < (((G3 xs lo n).length + mm : Nat) : Int) := h;omega
 have hrun : (Builtin.append_ #[sT, yT] ty #[.slice base (G3 xs lo n).length cap, .int k mm]).run P w =
  .ok (.slice (some ⟨w.heap.size, 0, none⟩) ((G3 xs lo n).length + mm) G)
   (w.drew.alloc (.cells (((List.range ((G3 xs lo n).length * sz)).map fun k => fs (k / sz) (k % sz)).toArray ++ ((List.range (mm * sz)).map fun k => zv.cells.getD (k % sz) undef).toArray ++
    Builtin.zeroCells zv.cells (G - ((G3 xs lo n).length + mm))) e)) := by
  have hGd : (Question.appendCap ((G3 xs lo n).length + mm) cap e).cut (w.tape w.drawn (.appendCap ((G3 xs lo n).length + mm) cap e)) = G := hG;have hf : (Question.appendCap ((G3 xs lo n).length + mm) cap e).forced = false := rfl;have hrs' := hrs w.drew hdr
  rw [es] at hrs'
  have ha := happ w.drew
  simp only [Sem.run_ite, Sem.run_bind, hzv, Sem.run_pure, Result.andThen_ok] at ha
  simp only [Builtin.append_, Sem.run_bind, run_underlying hu, Result.andThen_ok, H7 hsz, run_underlying hyT, Sem.run_pure, Sem.run_ite, hbi, hbb, List.getElem?_toArray, asInt, asIntOf, hw1,
   List.getElem?_cons_zero, List.getElem?_cons_succ, Bool.false_eq_true, if_false, Bool.not_true, if_true, gt_iff_lt, true_or, if_neg hn1, Int.reducePow, if_neg hn2, Int.toNat_natCast, if_neg hc', if_neg hnf, run_choose, hf, hGd, World.drew_eq, run_askRoom, hrs', ha, hzv, newRow, run_newObj,
   World.alloc_eq, World.size_drew]
  rw [if_neg (by simpa using hn63')]
 rw [es, hrun];simp only [Result.andThen_ok, Sem.run_pure, D7];have := QZ (K := K) (e := e) (ys := List.replicate mm z) (fs := fs) (fy := fun _ j => zv.cells.getD j undef) hR hpos hzr hz1 hzl (Ci hall) hleny hfs hfy (by rw [hlr]; exact hGe) (m := n + (mm : Int)) (by rw [hlr]; omega) hout
 rw [hlr] at this
 exact this
theorem Me {s y : Operand} {sT yT e : TypeId} {k k' : IntKind} {id sz by_ : Nat} {lo n m : Int} {z : V} {xs : List V} (ho : o.op = .call { callee := .builtin .append, args := #[s, y], argTypes := #[sT, yT] })
 (hs : ev fr s = .own id lo n) (hy : ev fr y = .int k m) (hk : H id = some (.arr sz xs)) (he : BT P sT = some e) (hyT : P.underlying yT = some (.int k')) (hsz : Bw P e = some sz) (hpos : 0 < sz) (hby : Jc P e = some by_) (hbp : 0 < by_)
 (hz : Er P e = some z) (hz1 : z.one = true) (hzl : z.cells.length = sz) (hm0 : 0 ≤ m)
 (hbound : (n.toNat + m.toNat) * by_ ≤ 140737488355328)
 (hin : lo + n + m ≤ (xs.length : Nat) → K (.own id lo (n + m)) (upd H id (some (.arr sz (T5 xs (lo + n).toNat (List.replicate m.toNat z))))))
 (hout : (xs.length : Nat) < lo + n + m → ∀ t k, H t = none → K (.own t 0 (n + m)) (upd H t (some (.arr sz (G3 xs lo n ++ List.replicate m.toNat z ++ List.replicate k z))))) : E4 P o fr H K := by
 intro g w a hR hE;have hvs := C4 hR hE s;have hvy := C4 hR hE y
 rw [hs] at hvs
 rw [hy] at hvy
 rw [J4 ho];simp only [List.map_toArray, List.map_cons, List.map_nil];exact Gl hR hvs hvy hk he hyT hsz hpos hby hbp hz hz1 hzl hm0 hbound hin hout
theorem KJ {s y : Operand} {sT yT e : TypeId} {k k' : IntKind} {sz by_ : Nat} {m : Int} {z : V} (ho : o.op = .call { callee := .builtin .append, args := #[s, y], argTypes := #[sT, yT] })
 (hs : ev fr s = .sl [] .nil ∨ ev fr s = .sl [] .full) (hy : ev fr y = .int k m) (he : BT P sT = some e) (hyT : P.underlying yT = some (.int k')) (hsz : Bw P e = some sz) (hpos : 0 < sz) (hby : Jc P e = some by_) (hbp : 0 < by_)
 (hz : Er P e = some z) (hz1 : z.one = true) (hzl : z.cells.length = sz) (hm0 : 0 ≤ m)
 (hbound : m.toNat * by_ ≤ 140737488355328)
 (hout : ∀ t k, H t = none → K (.own t 0 m) (upd H t (some (.arr sz (List.replicate m.toNat z ++ List.replicate k z))))) : E4 P o fr H K := by
 intro g w a hR hE;obtain ⟨g', st, hR', hn, hv⟩ := BJ hR sz hs (C4 hR hE s);have hvy := (C4 hR hE y).mono st
 rw [hy] at hvy
 rw [J4 ho];simp only [List.map_toArray, List.map_cons, List.map_nil];refine D7.mono ?_ (Gl (K := fun v H2 => ∃ H3, K v H3 ∧ ∀ id b, H3 id = some b → H2 id = some b) hR' hv hvy (A9 _ _ _) he hyT hsz hpos hby hbp hz hz1 hzl hm0 (by simpa using hbound) (fun hle' => ?_) (fun _ t k ht => ?_))
 ·exact fun v w' ⟨g2, x, H2, s2, hR2, hv2, H3, hK, hle3⟩ => ⟨g2, x, H3, st.trans s2, hR2.less hle3, hv2, hK⟩
 ·have hm : m = 0 := by simp only [List.length_nil] at hle'; omega
  subst hm;have := hout g.nx 0 hn;refine ⟨_, this, fun id b hb => ?_⟩
  by_cases e : id = g.nx
  ·subst e; rw [A9] at hb ⊢; simpa [T5] using hb
  rw [A3 _ _ e] at hb; rw [A3 _ _ e, A3 _ _ e]; exact hb
 have hne : t ≠ g.nx := fun e => by subst e; rw [A9] at ht; cases ht
 rw [A3 _ _ hne] at ht
 have := hout t k ht;rw [Int.zero_add];refine ⟨_, this, fun id b hb => ?_⟩
 by_cases e : id = t
 ·subst e; rw [A9] at hb ⊢; simpa [G3] using hb
 rw [A3 _ _ e] at hb ⊢
 by_cases e2 : id = g.nx
 ·subst e2; rw [hn] at hb; cases hb
 rw [A3 _ _ e2]; exact hb
theorem No {t : TypeId} {y : Operand} {lo hi mx : Option Operand} {il ih im : Option Int} {x : V} (ho : o.op = .slice t y lo hi mx) (hlo : X6 (lo.map (ev fr)) = some il) (hhi : X6 (hi.map (ev fr)) = some ih)
 (hmx : X6 (mx.map (ev fr)) = some im) (hl : Fe P H t (ev fr y) il ih im = some x) (h : K x H) : E4 P o fr H K := by
 intro g w a hR hE;have hv := C4 hR hE y;have hrl := BL hR hE hlo;have hrh := BL hR hE hhi;have hrm := BL hR hE hmx
 have hb : ∀ (isSlice : Bool) (len cap : Nat), 0 ≤ il.getD 0 → il.getD 0 ≤ ih.getD len → ih.getD len ≤ im.getD cap → im.getD cap ≤ cap → (im.isSome = true → ih.isSome = true) →
  (Instr.sliceBounds isSlice len cap (lo.map a.eval) (hi.map a.eval) (mx.map a.eval)).run P w = .ok ((il.getD 0).toNat, (ih.getD len).toNat, (im.getD cap).toNat) w := by
  intro isSlice len cap c1 c2 c3 c4 c5;refine Jr (P := P) isSlice len cap _ _ _ _ _ _ w ?_ ?_ ?_ (by omega) (by omega) (by omega)
  ·rcases hrl with ⟨e1, rfl⟩ | ⟨k, j, e1, rfl⟩
   ·exact .inl ⟨e1, rfl⟩
   simp only [Option.getD_some] at c1
   exact .inr ⟨k, by rw [e1]; simp only [Option.getD_some]; rw [CH (b := 0) c1]⟩
  ·rcases hrh with ⟨e1, rfl⟩ | ⟨k, j, e1, rfl⟩
   ·rcases hrm with ⟨e2, rfl⟩ | ⟨k, j, e2, rfl⟩
    ·exact .inl ⟨e1, e2, by simp⟩
    simp at c5
   simp only [Option.getD_some] at c2
   exact .inr ⟨k, by rw [e1]; simp only [Option.getD_some]; rw [CH (b := 0) (by omega)]⟩
  rcases hrm with ⟨e1, rfl⟩ | ⟨k, j, e1, rfl⟩
  ·exact .inl ⟨e1, by simp⟩
  simp only [Option.getD_some] at c3
  exact .inr ⟨k, by rw [e1]; simp only [Option.getD_some]; rw [CH (b := 0) (by omega)]⟩
 unfold Fe at hl
 split at hl
 ·rename_i e id l n hse he;have hu := H8 hse
  split at hl
  ·rename_i sz sz' xs hs hx
   split at hl
   ·rename_i hc;obtain ⟨c0, c1, c2, c3, c4, c5⟩ := hc;subst c0
    rw [he] at hv
    have hk := AX hx;obtain ⟨b, p, h1, h2, h3, h4, h5, h6, h7, h8, h9, h10⟩ := Bg hR hk hv
    have ecap : (((xs.length - l.toNat : Nat) : Nat) : Int) = (xs.length : Nat) - l := by omega
    have en : ((n.toNat : Nat) : Int) = n := by omega
    have hb' := hb true n.toNat (xs.length - l.toNat) c1 (by rw [en]; exact c2) (by rw [en, ecap]; exact c3) (by rw [ecap]; exact c4) c5
    rw [en, ecap] at hb'
    unfold execOp; rw [ho];simp only [h2, Instr.sliceAt, Instr.slice, Sem.run_bind, run_underlying hu, Result.andThen_ok, hb', H7 hs, Sem.run_pure, D7]
    cases hmi : im with
    | some m =>
     rw [hmi] at hl
     simp only [Option.some.injEq] at hl
     subst hl;exact G8.here hR (.bad _) h
    | none =>
     rw [hmi] at hl
     simp only [Option.some.injEq] at hl
     subst hl;refine G8.here hR ?_ h
     simp only [hmi, Option.getD_none] at c3 c4
     simp only [Option.getD_none]
     have hown := VR.own (g := g) (w := w) (id := id) (b := b) (lo := l + il.getD 0) (n := ih.getD n - il.getD 0) (p := if ((xs.length : Nat) - l : Int).toNat = (il.getD 0).toNat then p else p.map fun q => q.add ((il.getD 0).toNat * sz)) h1 (by omega) (by omega) (by rw [h7]; omega)
      (fun hlt => by
       rw [h7] at hlt
       rw [if_neg (by omega), h8 (by omega), h6];simp only [Option.map_some, O7]
       rw [show (l + il.getD 0).toNat = l.toNat + (il.getD 0).toNat by omega, Nat.add_mul, Nat.add_assoc])
     rw [h7] at hown
     have e1 : (ih.getD n - il.getD 0).toNat = (ih.getD n).toNat - (il.getD 0).toNat := by omega
     have e2 : xs.length - (l + il.getD 0).toNat = ((xs.length : Nat) - l : Int).toNat - (il.getD 0).toNat := by omega
     rw [e1, e2] at hown
     by_cases hcl : ((xs.length : Nat) - l : Int).toNat = (il.getD 0).toNat
     ·rw [if_pos hcl] at hown ⊢
      exact hown
     rw [if_neg hcl] at hown ⊢
     cases p <;> simpa [O7] using hown
   cases hl
  cases hl
 cases hl
theorem SQ {y : Operand} {t : TypeId} {x : V} (ho : o.op = .call { callee := .builtin .cap, args := #[y], argTypes := #[t] }) (hl : PZ P H t (ev fr y) = some x) (h : K x H) : E4 P o fr H K := by
 intro g w a hR hE;have hv := C4 hR hE y;rw [J4 ho];simp only [builtin, List.map_toArray, List.map_cons, List.map_nil, Sem.run_bind]
 unfold PZ at hl
 split at hl
 ·rename_i e id l n hse he
  rw [he] at hv
  cases hx : Bu H id with
  | none => rw [hx] at hl; cases hl
  | some q =>
   obtain ⟨sz, xs⟩ := q
   rw [hx] at hl
   simp only [Option.map_some, Option.some.injEq] at hl
   subst hl;obtain ⟨b, p, h1, h2, h3, h4, h5, h6, h7, h8, h9, h10⟩ := Bg hR (AX hx) hv;have hu := H8 hse;simp [Builtin.cap_, run_underlying hu, goInt, h2];rw [show (((xs.length - l.toNat : Nat) : Nat) : Int) = (xs.length : Nat) - l by omega];exact G8.here hR (.int _ _) h
 ·rename_i e hse he
  rw [he] at hv
  cases hl;have hu := H8 hse
  generalize a.eval y = v at hv
  cases hv with
  | sl0 ht => simp [Builtin.cap_, run_underlying hu, goInt]; exact G8.here hR (.int _ _) h
  | sle h => rcases h with h | ⟨h, _⟩ <;> cases h
  | sl vs hn hc hz hf hw h1 hv ht => exact ht.elim
 ·rename_i e hse he
  rw [he] at hv
  cases hl;have hu := H8 hse
  generalize a.eval y = v at hv
  cases hv with
  | sl0 ht => simp [Builtin.cap_, run_underlying hu, goInt]; exact G8.here hR (.int _ _) h
  | sle hh =>
   rcases hh with hh | ⟨_, hh⟩
   ·cases hh
   subst hh; simp [Builtin.cap_, run_underlying hu, goInt]; exact G8.here hR (.int _ _) h
  | sl vs hn hc hz hf hw h1 hv ht =>
   rename_i b o sz n cap
   have e1 : n = 0 := by simpa using hn.symm
   have e2 : cap = n := ht;subst e2; subst e1;simp [Builtin.cap_, run_underlying hu, goInt]; exact G8.here hR (.int _ _) h
 cases hl
theorem LL {id sz m : Nat} {xs ys : List V} {g : Gh} {H : A0} {w : World} {b : Nat} {p : Option Addr} {lo : Int} (hR : Rl g H w) (hk : H id = some (.arr sz xs)) (h1 : g.mu id = some b) (h6 : (g.ow id).sz = sz) (h8 : lo < (xs.length : Nat) → p = some ⟨b, (g.ow id).o + lo.toNat * sz, none⟩)
 (h9 : ∀ i, i < xs.length → (xs.getD i .bad).cells.length = sz)
 (h10 : xs.length = 0 ∨ ∃ c T, g.base ≤ b ∧ w.heap[b]? = some (.cells c T (0, 0)) ∧ (g.ow id).o + xs.length * sz ≤ c.size ∧
  (∀ i j, i < xs.length → j < sz → (c.getD ((g.ow id).o + i * sz + j) undef).oneCell' = true ∧ VR g w (c.getD ((g.ow id).o + i * sz + j) undef) ((xs.getD i .bad).cells.getD j .bad)) ∧
  (∀ o, (g.ow id).o ≤ o → ¬ g.fz b o) ∧ g.at H id = some b)
 (hpos : 0 < sz) (hm : ys.length = m) (hin : lo.toNat + m ≤ xs.length) (hleny : ∀ i, i < ys.length → (ys.getD i .bad).cells.length = sz) (fy : Nat → Nat → Value)
 (hfy : ∀ i j, i < ys.length → j < sz → (fy i j).oneCell' = true ∧ VR g w (fy i j) ((ys.getD i .bad).cells.getD j .bad)) :
 ∃ w', (match p with | some a => (storeCells a ((List.range (m * sz)).map fun k => fy (k / sz) (k % sz))).run P w | none => .ok () w) = .ok () w' ∧
  M4 g w g w' ∧ Rl g (upd H id (some (.arr sz (T5 xs lo.toNat ys)))) w' := by
 by_cases hm0 : m = 0
 ·subst hm0;have hy0 : ys = [] := List.length_eq_zero_iff.1 hm;subst hy0;refine ⟨w, by cases p <;> simp [storeCells], M4.refl _ _, ?_⟩
  have e : T5 xs lo.toNat [] = xs := by simp [T5]
  have : upd H id (some (.arr sz xs)) = H := by
   funext x
   simp only [upd]
   split
   ·next e => subst e; exact hk.symm
   rfl
  rw [e, this]; exact hR
 have hp := h8 (by omega);subst hp
 rcases h10 with h10 | ⟨c, T, k1, k2, k3, k4, k5, k6⟩
 ·omega
 obtain ⟨C, hst, s, r⟩ := QK P hR (i := lo.toNat) (m := m) (ys := ys) hpos hk h1 h6 (by omega) (by omega) hm k2 k3 k4 h9 hleny fy hfy;exact ⟨_, hst, s, r⟩
theorem Rk {s y : Operand} {sT yT e : TypeId} {id sz : Nat} {lo n : Int} {xs ys : List V} (ho : o.op = .call { callee := .builtin .copy, args := #[s, y], argTypes := #[sT, yT] })
 (hs : ev fr s = .own id lo n) (hk : H id = some (.arr sz xs)) (hsrc : IR sz H (ev fr y) ys) (he : BT P sT = some e) (hsz : Bw P e = some sz) (hpos : 0 < sz)
 (h : K (.int .i64 (if n < (ys.length : Nat) then n else (ys.length : Nat))) (upd H id (some (.arr sz (T5 xs lo.toNat (ys.take n.toNat)))))) : E4 P o fr H K := by
 intro g w a hR hE;have hvs := C4 hR hE s;have hvy := C4 hR hE y
 rw [hs] at hvs
 obtain ⟨ys0, hy, hle, hay⟩ := hsrc.inv hR hvy;obtain ⟨ybase, ycap, fy, ey, hfy0, hry⟩ := DZ P hR hy hvy (hle.sz hay)
 rw [hle.length] at ey hfy0 hry
 have hfy : ∀ i j, i < ys.length → j < sz → (fy i j).oneCell' = true ∧ VR g w (fy i j) ((ys.getD i .bad).cells.getD j .bad) := fun i j hi hj => ⟨(hfy0 i j hi hj).1, (hfy0 i j hi hj).2.le ((hle.at i).cells.at j)⟩;have hleny := Ci hay;have hu := H8 he;obtain ⟨b, p, h1, h2, h3, h4, h5, h6, h7, h8, h9, h10⟩ := Bg hR hk hvs;rw [J4 ho];simp only [builtin, List.map_toArray, List.map_cons, List.map_nil, Sem.run_bind];generalize hm : Nat.min ys.length n.toNat = m;have hm' : m = min ys.length n.toNat := hm.symm
 have hmi : (m : Int) = if n < (ys.length : Nat) then n else (ys.length : Nat) := by split <;> omega
 have htk : ys.take n.toNat = ys.take m := by
  rcases Nat.le_total ys.length n.toNat with q | q
  ·rw [List.take_of_length_le q, List.take_of_length_le (by omega)]
  rw [show m = n.toNat by omega]
 rw [htk, ← hmi] at h
 have hlt : (ys.take m).length = m := by simp; omega
 have hgt : ∀ i, i < m → (ys.take m).getD i .bad = ys.getD i .bad := fun i hi => by
  simp only [List.getD_eq_getElem?_getD, List.getElem?_take, if_pos hi]
 have hfc := hry m (by omega) w fun _ _ => rfl;obtain ⟨w', hst, hs', hr'⟩ := LL (P := P) (m := m) (ys := ys.take m) hR hk h1 h6 h8 h9 h10 hpos hlt (by omega) (fun i hi => by rw [hlt] at hi; rw [hgt i hi]; exact hleny i (by omega)) fy (fun i j hi hj => by rw [hlt] at hi; rw [hgt i hi]; exact hfy i j (by omega) hj)
 rw [ey] at hfc
 have hrun : (Builtin.copy_ #[sT, yT] o.type #[a.eval s, a.eval y]).run P w = .ok (.int .i64 m) w' := by
  rw [ey, h2]
  simp only [Builtin.copy_, Sem.run_bind, run_underlying hu, Result.andThen_ok, H7 hsz, Sem.run_pure, Builtin.lenOf, List.getElem?_toArray,
   List.getElem?_cons_zero, List.getElem?_cons_succ, hm, hfc, goInt]
  generalize p = base at hst ⊢
  cases base with
  | none => simp only at hst; cases hst; rfl
  | some q => simp only at hst; simp only [hst, Sem.run_bind, Sem.run_pure, Result.andThen_ok]
 rw [hrun];simp only [Result.andThen_ok, Sem.run_pure, D7];exact ⟨g, .int .i64 m, _, hs', hr', .int _ _, h⟩
theorem Pi {s : Operand} {sT e : TypeId} {id sz : Nat} {lo n : Int} {z : V} {xs : List V} (ho : o.op = .call { callee := .builtin .clear, args := #[s], argTypes := #[sT] })
 (hs : ev fr s = .own id lo n) (hk : H id = some (.arr sz xs)) (he : BT P sT = some e) (hsz : Bw P e = some sz) (hpos : 0 < sz) (hz : Er P e = some z) (hz1 : z.one = true) (hzl : z.cells.length = sz)
 (h : K (.tup []) (upd H id (some (.arr sz (T5 xs lo.toNat (List.replicate n.toNat z)))))) : E4 P o fr H K := by
 intro g w a hR hE;have hvs := C4 hR hE s
 rw [hs] at hvs
 have hu := H8 he;obtain ⟨zv, ez, hzv⟩ := Az hz
 have hzr : VR g w zv z := by rw [ez]; exact Bq g w zv
 obtain ⟨hzs', hzc⟩ := hzr.cells hz1
 have hzs : zv.cells.size = sz := by rw [hzs', hzl]
 obtain ⟨b, p, h1, h2, h3, h4, h5, h6, h7, h8, h9, h10⟩ := Bg hR hk hvs
 have hlr : (List.replicate n.toNat z).length = n.toNat := by simp
 have hzero : (Builtin.zeroCells zv.cells n.toNat).toList = (List.range (n.toNat * sz)).map fun k => zv.cells.getD (k % sz) undef := by
  unfold Builtin.zeroCells;simp only [Array.toList_map, Array.toList_range, hzs];refine List.map_congr_left fun k hk => ?_
  have hq : k % sz < zv.cells.size := by rw [hzs]; exact Nat.mod_lt _ hpos
  simp [Array.getD, hq, getElem!_pos]
 obtain ⟨w', hst, hs', hr'⟩ := LL (P := P) (m := n.toNat) (ys := List.replicate n.toNat z) hR hk h1 h6 h8 h9 h10 hpos hlr (by omega) (fun i hi => by rw [Bj (by simpa using hi)]; exact hzl)
  (fun _ j => zv.cells.getD j undef) (fun i j hi hj => by rw [Bj (by simpa using hi)]; exact hzc j (by omega))
 rw [J4 ho];simp only [builtin, List.map_toArray, List.map_cons, List.map_nil, Sem.run_bind]
 have hrun : (Builtin.clear_ #[sT] o.type #[a.eval s]).run P w = .ok (.tuple #[]) w' := by
  rw [h2];simp only [Builtin.clear_, Sem.run_bind, run_underlying hu, Result.andThen_ok, List.getElem?_toArray, List.getElem?_cons_zero]
  generalize hb : p = base at hst ⊢
  cases base with
  | none => simp only at hst; cases hst; rfl
  | some q =>
   simp only at hst
   cases hn : n.toNat with
   | zero => rw [hn] at hst; simp [storeCells] at hst; subst hst; rfl
   | succ k =>
    rw [hn] at hst hzero
    simp only [hzv, Result.andThen_ok, Sem.run_bind, hzero, hst, Sem.run_pure]
 rw [hrun];simp only [Result.andThen_ok, Sem.run_pure, D7];exact ⟨g, .tup [], _, hs', hr', .und _ _, h⟩
end
end Go.Ab
namespace Go.Ab
open Go.RowKit
variable [G5]
def RM (v : V) : Option Prop :=
 match v with
 | .sl xs _ => some (xs = [])
 | .own _ _ n => some (n = 0)
 | _ => none
theorem Tm {g : Gh} {w : World} {x : V} {v : Value} {p : Prop} (h : RM x = some p) (hv : VR g w v x) : ∃ a n c, v = .slice a n c ∧ (a.isNone = true → p) := by
 unfold RM at h
 split at h
 ·cases h
  cases hv with
  | sl0 ht => exact ⟨_, _, _, rfl, fun _ => rfl⟩
  | sle ht => exact ⟨_, _, _, rfl, fun h => by cases h⟩
  | sl vs hn hc hz hf hw h1 hv ht => exact ⟨_, _, _, rfl, fun h => by cases h⟩
 ·cases h
  cases hv with
  | own hm h0 h1 h2 hp =>
   rename_i id lo n b p;refine ⟨_, _, _, rfl, fun ha => ?_⟩
   cases p with
   | some q => cases ha
   | none =>
    have : ¬ (lo < ((g.ow id).cap : Nat)) := fun hlt => by have := hp hlt; cases this
    omega
 cases h
def QR : BinOp → Option Bool
 | .eql => some true
 | .neq => some false
 | _ => none
section
variable {P : Program} {o : Oper} {fr : Fr} {H : A0} {K : V → A0 → Prop}
theorem UE {op : BinOp} {t ty e : TypeId} {y z : Operand} {p : Prop} {q : Bool} (ho : o.op = .binOp op t y z ty) (hq : QR op = some q) (hu : BT P t = some e) (hy : RM (ev fr y) = some p) (hz : ev fr z = .sl [] .nil)
 (h1 : p → K (.bool q) H) (h0 : K (.bool (!q)) H) : E4 P o fr H K := by
 intro g w a hR hE;have hv := C4 hR hE y;have hv' := C4 hR hE z
 rw [hz] at hv'
 obtain ⟨p', n, c, ea, hp⟩ := Tm hy hv
 have ez : a.eval z = .slice none 0 0 := by
  generalize a.eval z = v at hv'
  cases hv' with
  | sl0 ht => rfl
  | sle h => rcases h with h | ⟨h, _⟩ <;> cases h
  | sl vs hn hc hz hf hw h1 hv ht => exact ht.elim
 have hu' := H8 hu;unfold execOp; rw [ho];simp only [Sem.run_bind, ea, ez]
 have hg : (eqGuard op t y z (.slice p' n c) (.slice none 0 0)).run P w = .ok () w := by
  cases op <;> simp [eqGuard]
 rw [hg];simp only [Result.andThen_ok]
 have hb : (binOp op t (.slice p' n c) (.slice none 0 0)).run P w = .ok (.bool (if p'.isNone then q else !q)) w := by
  cases op <;> simp only [QR, Option.some.injEq, reduceCtorEq] at hq <;> subst hq
  ·rw [Lib.run_eql_slice_nil w t e p' n c 0 0 hu']; cases p' <;> rfl
  rw [run_neq_slice_nil_any w t e p' n c 0 0 hu']; cases p' <;> rfl
 rw [hb];simp only [Result.andThen_ok, Sem.run_pure, D7]
 cases hpn : p'.isNone with
 | true => exact G8.here hR (.bool _) (h1 (hp hpn))
 | false => exact G8.here hR (.bool _) h0
end
end Go.Ab
