/- GNSx AbG1 -/
import Derived.Test.YtfeppncgdbbbeaaGreatDoorT27
import Derived.Test.YtfeppncgdbbbeaaGreatDoorT24
import Derived.Deep.Slices
import Derived.Carry
set_option linter.all false

namespace Go.Ab
structure Gtidegateref22_Pair where
 Edge : GEdge
 Done : Bool
 Rest : GPattern
variable [Ar]
def ref08_Depth (N : Nat) : Nat → GExpr → Option Int
 | 0, _ => none
 | n + 1, x_e =>
  (loopN
   (fun (s1 : Int × Int) =>
    (
     if Ar.cmp .lss s1.2 (Ar.len x_e.Args) = true then
      (idxL x_e.Args s1.2).bind fun x3 =>
      (ref08_Depth N n x3).bind fun r4 =>
      some (.inl (Ar.mx s1.1 r4, Ar.ar .add .i64 s1.2 1))
     else
      some (.inr s1.1)
     : Option ((Int × Int) ⊕ (Int))))
   N (0, 0)).bind fun s2 =>
  some (Ar.ar .add .i64 s2 1)
def ref09_arity (N : Nat) (x_p : GPattern) : Option Bool :=
 if Ar.cmp .eql x_p.Op 0 = true then
  some (Ar.cmp .eql (Ar.len x_p.Args) 0)
 else
  ((
   if Ar.cmp .eql x_p.Op 1 = true then
    some true
   else
    if Ar.cmp .eql x_p.Op 2 = true then
     some true
    else
     some (Ar.cmp .eql x_p.Op 3)
  ) : Option (Bool)).bind fun s1 =>
  if s1 = true then
   some (Ar.cmp .geq (Ar.len x_p.Args) 2)
  else
   if Ar.cmp .eql x_p.Op 8 = true then
    some (Ar.cmp .eql (Ar.len x_p.Args) 2)
   else
    some (Ar.cmp .eql (Ar.len x_p.Args) 1)
def ref09_Negates (N : Nat) (x_p : GPattern) : Option Bool :=
 some (Ar.or (Ar.cmp .eql x_p.Op 5) (Ar.cmp .eql x_p.Op 9))
def ref09_variable (N : Nat) (x_p : GPattern) : Option Bool :=
 if Ar.cmp .eql x_p.Op 0 = true then
  some true
 else
  (ref09_Negates N x_p).bind fun r1 =>
  some r1
def ref09_Times (N : Nat) (x_p : GPattern) : Option Bool :=
 some (Ar.or (Ar.cmp .eql x_p.Op 6) (Ar.cmp .eql x_p.Op 10))
def ref09_condition (N : Nat) (x_p : GPattern) : Option Bool :=
 (ref09_variable N x_p).bind fun r1 =>
 some (Ar.or r1 (Ar.cmp .eql x_p.Op 7))
def ref09_bad (N : Nat) (x_used : Bool) (x_n : Int) (x_most : Int) : Option Bool :=
 some (Ar.an x_used (Ar.or (Ar.cmp .lss x_n 0) (Ar.cmp .gtr x_n x_most)))
def ref08_arity (N : Nat) (x_op : Int) : Option Int :=
 ((
  if Ar.cmp .eql x_op 0 = true then
   some true
  else
   if Ar.cmp .eql x_op 1 = true then
    some true
   else
    if Ar.cmp .eql x_op 2 = true then
     some true
    else
     if Ar.cmp .eql x_op 3 = true then
      some true
     else
      some (Ar.cmp .eql x_op 4)
 ) : Option (Bool)).bind fun s1 =>
 if s1 = true then
  some 0
 else
  if Ar.cmp .eql x_op 12 = true then
   some 1
  else
   if Ar.cmp .eql x_op 5 = true then
    some 2
   else
    if Ar.cmp .eql x_op 6 = true then
     some 2
    else
     if Ar.cmp .eql x_op 7 = true then
      some 2
     else
      if Ar.cmp .eql x_op 8 = true then
       some 2
      else
       if Ar.cmp .eql x_op 9 = true then
        some 2
       else
        if Ar.cmp .eql x_op 10 = true then
         some 2
        else
         if Ar.cmp .eql x_op 11 = true then
          some 2
         else
          some (-1)
def ref08_uses (N : Nat) (x_op : Int) : Option (Bool × Bool) :=
 some (Ar.or (Ar.or (Ar.or (Ar.cmp .eql x_op 1) (Ar.cmp .eql x_op 4)) (Ar.cmp .eql x_op 2)) (Ar.cmp .eql x_op 3), Ar.or (Ar.cmp .eql x_op 1) (Ar.cmp .eql x_op 4))
def ref01_Check (N : Nat) (x_v : GValue) : Option Int :=
 if Ar.or (Ar.cmp .lss x_v.Kind 0) (Ar.cmp .gtr x_v.Kind 2) = true then
  some 1
 else
  if Ar.cmp .eql x_v.Kind 2 = true then
   if Ar.cmp .neq x_v.Num 0 = true then
    some 3
   else
    if Ar.cmp .gtr (Ar.slen x_v.Text) 64 = true then
     some 13
    else
     some 0
  else
   if Ar.scmp .neq x_v.Text (⟨#[]⟩ : ByteArray) = true then
    some 3
   else
    if Ar.or (Ar.or (Ar.an (Ar.cmp .eql x_v.Kind 1) (Ar.or (Ar.cmp .lss x_v.Num 0) (Ar.cmp .gtr x_v.Num 1))) (Ar.cmp .lss x_v.Num (-1099511627776))) (Ar.cmp .gtr x_v.Num 1099511627776) = true then
     some 2
    else
     some 0
def ref07_Suits (N : Nat) (x_k : Int) (x_v : GValue) : Option Bool :=
 some (Ar.or (Ar.or (Ar.or (Ar.cmp .eql x_v.Kind 0) (Ar.cmp .eql x_k 0)) (Ar.cmp .eql x_k 4)) (Ar.cmp .eql x_k 5))
def ref08_node (N : Nat) (x_e : GExpr) : Option Int :=
 (ref08_arity N x_e.Op).bind fun r1 =>
 if Ar.cmp .lss r1 0 = true then
  some 1
 else
  if Ar.cmp .neq (Ar.len x_e.Args) r1 = true then
   some 15
  else
   (ref08_uses N x_e.Op).bind fun r2 =>
   if Ar.or (Ar.an r2.1 (Ar.or (Ar.cmp .lss x_e.Var 0) (Ar.cmp .geq x_e.Var 16))) (Ar.an r2.2 (Ar.or (Ar.cmp .lss x_e.Field 0) (Ar.cmp .geq x_e.Field 8))) = true then
    some 2
   else
    if Ar.an (Ar.cmp .eql x_e.Op 4) (Ar.or (Ar.cmp .lss x_e.Kind 1) (Ar.cmp .gtr x_e.Kind 5)) = true then
     some 1
    else
     ((
      if Ar.or (Ar.cmp .eql x_e.Op 4) (Ar.cmp .eql x_e.Op 0) = true then
       (ref01_Check N x_e.Value).bind fun r4 =>
       if Ar.cmp .neq r4 0 = true then
        some (.inr r4)
       else
        some (.inl ())
      else
       some (.inl ())
     ) : Option (Unit ⊕ Int)).bind fun s3 =>
     match s3 with
     | .inl y5 =>
      if Ar.cmp .eql x_e.Op 4 = true then
       (ref07_Suits N x_e.Kind x_e.Value).bind fun r6 =>
       if Ar.or (Ar.nt r6) (Ar.an (Ar.cmp .eql x_e.Kind 1) (Ar.nt (Ar.an (Ar.cmp .eql x_e.Value.Kind 0) (Ar.an (Ar.cmp .eql x_e.Value.Num 0) (Ar.an (Ar.scmp .eql x_e.Value.Text (⟨#[]⟩)) true))))) = true then
        some 9
       else
        if Ar.or (Ar.or (Ar.or (Ar.an (Ar.nt r2.1) (Ar.cmp .neq x_e.Var 0)) (Ar.an (Ar.nt r2.2) (Ar.cmp .neq x_e.Field 0))) (Ar.an (Ar.nt (Ar.cmp .eql x_e.Op 4)) (Ar.cmp .neq x_e.Kind 0))) (Ar.an (Ar.nt (Ar.or (Ar.cmp .eql x_e.Op 4) (Ar.cmp .eql x_e.Op 0))) (Ar.nt (Ar.an (Ar.cmp .eql x_e.Value.Kind 0) (Ar.an (Ar.cmp .eql x_e.Value.Num 0) (Ar.an (Ar.scmp .eql x_e.Value.Text (⟨#[]⟩)) true))))) = true then
         some 3
        else
         some 0
      else
       if Ar.or (Ar.or (Ar.or (Ar.an (Ar.nt r2.1) (Ar.cmp .neq x_e.Var 0)) (Ar.an (Ar.nt r2.2) (Ar.cmp .neq x_e.Field 0))) (Ar.an (Ar.nt (Ar.cmp .eql x_e.Op 4)) (Ar.cmp .neq x_e.Kind 0))) (Ar.an (Ar.nt (Ar.or (Ar.cmp .eql x_e.Op 4) (Ar.cmp .eql x_e.Op 0))) (Ar.nt (Ar.an (Ar.cmp .eql x_e.Value.Kind 0) (Ar.an (Ar.cmp .eql x_e.Value.Num 0) (Ar.an (Ar.scmp .eql x_e.Value.Text (⟨#[]⟩)) true))))) = true then
        some 3
       else
        some 0
     | .inr y7 =>
      some y7
def ref08_nodes (N : Nat) : Nat → GExpr → Option Int
 | 0, _ => none
 | n + 1, x_e =>
  (ref08_node N x_e).bind fun r1 =>
  if Ar.cmp .neq r1 0 = true then
   some r1
  else
   (loopN
    (fun (s2 : Int) =>
     (
      if Ar.cmp .lss s2 (Ar.len x_e.Args) = true then
       (idxL x_e.Args s2).bind fun x4 =>
       (ref08_nodes N n x4).bind fun r5 =>
       if Ar.cmp .neq r5 0 = true then
        some (.inr (.inr r5))
       else
        some (.inl (Ar.ar .add .i64 s2 1))
      else
       some (.inr (.inl ()))
      : Option ((Int) ⊕ (Unit ⊕ Int))))
    N 0).bind fun s3 =>
   match s3 with
   | .inl y6 =>
    some 0
   | .inr y7 =>
    some y7
def ref08_Check (N : Nat) (x_e : GExpr) : Option Int :=
 (ref08_Count N N x_e 64).bind fun r1 =>
 if Ar.cmp .gtr r1 64 = true then
  some 5
 else
  (ref08_Depth N N x_e).bind fun r2 =>
  if Ar.cmp .gtr r2 12 = true then
   some 12
  else
   (ref08_nodes N N x_e).bind fun r3 =>
   some r3
def ref09_node (N : Nat) (x_p : GPattern) : Option Int :=
 if Ar.or (Ar.cmp .lss x_p.Op 0) (Ar.cmp .gtr x_p.Op 10) = true then
  some 1
 else
  (ref09_arity N x_p).bind fun r1 =>
  if Ar.nt r1 = true then
   some 15
  else
   (ref09_variable N x_p).bind fun r2 =>
   (ref09_Negates N x_p).bind fun r3 =>
   if r3 = true then
    (ref09_condition N x_p).bind fun r4 =>
    (ref09_bad N r2 x_p.Typ 15).bind fun r5 =>
    if r5 = true then
     some 2
    else
     (ref09_bad N r2 x_p.Var 15).bind fun r6 =>
     if r6 = true then
      some 2
     else
      (ref09_bad N true x_p.Scope 63).bind fun r7 =>
      if r7 = true then
       some 2
      else
       (ref09_Times N x_p).bind fun r8 =>
       (ref09_bad N r8 x_p.Span 1099511627776).bind fun r9 =>
       if r9 = true then
        some 2
       else
        ((
         if r4 = true then
          (ref08_Check N x_p.Cond).bind fun r11 =>
          if Ar.cmp .neq r11 0 = true then
           some (.inr r11)
          else
           some (.inl ())
         else
          some (.inl ())
        ) : Option (Unit ⊕ Int)).bind fun s10 =>
        match s10 with
        | .inl y12 =>
         if Ar.or (Ar.an (Ar.nt r2) (Ar.or (Ar.cmp .neq x_p.Typ 0) (Ar.cmp .neq x_p.Var 0))) (Ar.an (Ar.nt true) (Ar.cmp .neq x_p.Scope 0)) = true then
          some 3
         else
          (ref09_Times N x_p).bind fun r13 =>
          if Ar.an (Ar.nt r13) (Ar.cmp .neq x_p.Span 0) = true then
           some 3
          else
           if Ar.nt r4 = true then
            (ref08_Same N N x_p.Cond (⟨0, [], 0, 0, 0, (⟨0, 0, ⟨#[]⟩⟩ : GValue)⟩ : GExpr)).bind fun r14 =>
            if Ar.nt r14 = true then
             some 3
            else
             some 0
           else
            some 0
        | .inr y15 =>
         some y15
   else
    (ref09_Times N x_p).bind fun r16 =>
    (ref09_condition N x_p).bind fun r17 =>
    (ref09_bad N r2 x_p.Typ 15).bind fun r18 =>
    if r18 = true then
     some 2
    else
     (ref09_bad N r2 x_p.Var 15).bind fun r19 =>
     if r19 = true then
      some 2
     else
      (ref09_bad N r16 x_p.Scope 63).bind fun r20 =>
      if r20 = true then
       some 2
      else
       (ref09_Times N x_p).bind fun r21 =>
       (ref09_bad N r21 x_p.Span 1099511627776).bind fun r22 =>
       if r22 = true then
        some 2
       else
        ((
         if r17 = true then
          (ref08_Check N x_p.Cond).bind fun r24 =>
          if Ar.cmp .neq r24 0 = true then
           some (.inr r24)
          else
           some (.inl ())
         else
          some (.inl ())
        ) : Option (Unit ⊕ Int)).bind fun s23 =>
        match s23 with
        | .inl y25 =>
         if Ar.or (Ar.an (Ar.nt r2) (Ar.or (Ar.cmp .neq x_p.Typ 0) (Ar.cmp .neq x_p.Var 0))) (Ar.an (Ar.nt r16) (Ar.cmp .neq x_p.Scope 0)) = true then
          some 3
         else
          (ref09_Times N x_p).bind fun r26 =>
          if Ar.an (Ar.nt r26) (Ar.cmp .neq x_p.Span 0) = true then
           some 3
          else
           if Ar.nt r17 = true then
            (ref08_Same N N x_p.Cond (⟨0, [], 0, 0, 0, (⟨0, 0, ⟨#[]⟩⟩ : GValue)⟩ : GExpr)).bind fun r27 =>
            if Ar.nt r27 = true then
             some 3
            else
             some 0
           else
            some 0
        | .inr y28 =>
         some y28
end Go.Ab

namespace Go.Ab
open Go.RowKit Go.ChangeShapes Go.WideShapes
variable [Glob]
def g0 (W : World) : Gh := ⟨fun _ => none, fun _ => ⟨0, 0, 0⟩, fun _ => none, fun b o => ∃ v, W.cell? ⟨b, o, none⟩ = some v, 0, W.heap.size⟩
theorem rl0 {W : World} (hg : ∀ n, VR (g0 W) W (.pointer (some ⟨n, 0, none⟩)) (Glob.gl n)) : Rl (g0 W) (fun _ => none) W :=
 ⟨fun id b h => (by cases h), fun id id' b h => (by simp [Gh.at] at h), fun b o h => h, fun id _ => ⟨rfl, rfl, rfl⟩, Nat.le_refl _, hg⟩
def RowV (g : Gh) (w : World) (cs : List Value) (xs : List V) : Prop :=
 cs.length = xs.length ∧ ∀ i, i < xs.length → (cs.getD i undef).oneCell' = true ∧ VR g w (cs.getD i undef) (xs.getD i .bad)
theorem RowV.nil (g : Gh) (w : World) : RowV g w [] [] := ⟨rfl, fun i hi => by simp at hi⟩
theorem RowV.one {g : Gh} {w : World} {v : Value} {x : V} (h1 : v.oneCell' = true) (h : VR g w v x) : RowV g w [v] [x] := by
 refine ⟨rfl, fun i hi => ?_⟩
 have : i = 0 := by simpa using hi
 subst this
 exact ⟨h1, h⟩
theorem RowV.append {g : Gh} {w : World} {cs ds : List Value} {xs ys : List V} (h : RowV g w cs xs) (k : RowV g w ds ys) : RowV g w (cs ++ ds) (xs ++ ys) := by
 refine ⟨by simp [h.1, k.1], fun i hi => ?_⟩
 have hl := h.1
 simp only [List.length_append] at hi
 by_cases hx : i < xs.length
 ·have e1 : (cs ++ ds).getD i undef = cs.getD i undef := by simp [List.getD, List.getElem?_append_left (show i < cs.length by omega)]
  have e2 : (xs ++ ys).getD i .bad = xs.getD i .bad := by simp [List.getD, List.getElem?_append_left hx]
  rw [e1, e2]; exact h.2 i hx
 have e1 : (cs ++ ds).getD i undef = ds.getD (i - xs.length) undef := by simp [List.getD, List.getElem?_append_right (show cs.length ≤ i by omega), hl]
 have e2 : (xs ++ ys).getD i .bad = ys.getD (i - xs.length) .bad := by simp [List.getD, List.getElem?_append_right (show xs.length ≤ i by omega)]
 rw [e1, e2]; exact k.2 _ (by omega)
theorem RowV.join {g : Gh} {w : World} {cs : List Value} {xs ys : List V} {a n m : Nat} (h : RowV g w ((cs.drop a).take n) xs) (k : RowV g w ((cs.drop (a + n)).take m) ys) : RowV g w ((cs.drop a).take (n + m)) (xs ++ ys) := by
 have := h.append k
 rwa [show (cs.drop (a + n)) = (cs.drop a).drop n by rw [List.drop_drop], ← List.take_add] at this
theorem RowV.agg {g : Gh} {w : World} {cs : Array Value} {xs : List V} (h : RowV g w cs.toList xs) : VR g w (.agg cs) (.agg xs) := by
 refine .agg (by simpa using h.1) (fun i hi => ?_) fun i hi => ?_
 ·have := (h.2 i hi).1
  simpa [List.getD, Array.getD_eq_getD_getElem?] using this
 have := (h.2 i hi).2
 simpa [List.getD, Array.getD_eq_getD_getElem?] using this
section
variable {H α : Type} {enc : TypeId × Value → H} {P : Program} {W : World} {base : Nat} {spare : Nat → Bool} {held : Bool} {t e : TypeId} {n : Nat}
def Opens (enc : TypeId × Value → H) (P : Program) (W : World) (base : Nat) (spare : Nat → Bool) (held : Bool) (t : TypeId) (f : α → V) (R : α → DataW H → Prop) (n : Nat) : Prop :=
 ∀ cs x, DataW.trod enc P W base spare held n t cs = some x → ∃ a, RowV (g0 W) W cs (f a).cells ∧ R a x.1
theorem opens_int {k : IntKind} (ht : P.underlying t = some (.int k)) : Opens enc P W base spare held t (V.int k) (fun a d => d = .lit (.int k a)) n := by
 intro cs x h
 obtain ⟨a, rfl, rfl, _⟩ := DataW.trod_int ht h
 exact ⟨a, .one rfl (.int _ _), rfl⟩
theorem opens_bool (ht : P.underlying t = some .bool) : Opens enc P W base spare held t V.bool (fun a d => d = .lit (.bool a)) n := by
 intro cs x h
 obtain ⟨a, rfl, rfl⟩ := DataW.trod_bool ht h
 exact ⟨a, .one rfl (.bool _), rfl⟩
theorem opens_str (ht : P.underlying t = some .string) : Opens enc P W base spare held t V.str (fun a d => d = .lit (.string a.data.toList) ∧ a.size ≤ maxLen) n := by
 intro cs x h
 obtain ⟨a, rfl, rfl, hl⟩ := DataW.trod_string ht h
 exact ⟨a, .one rfl (.str _), rfl, hl⟩
def RL (R : α → DataW H → Prop) (l : List α) (ds : List (DataW H)) : Prop := l.length = ds.length ∧ ∀ (i : Nat) a d, l[i]? = some a → ds[i]? = some d → R a d
def RS (R : α → DataW H → Prop) (l : List α) (d : DataW H) : Prop := l.length ≤ maxLen ∧ ((d = .nil ∧ l = []) ∨ ∃ es sp, d = .slice es sp ∧ RL R l es)
theorem opens_slice {f : α → V} {R : α → DataW H → Prop} (ht : P.underlying t = some (.slice e)) (hc : 0 < P.cellsOf e) (he : Opens enc P W base spare held e f R n) :
 Opens enc P W base spare held t (fun l : List α => .sl (l.map f) .ro) (RS R) (n + 1) := by
 intro cs x h
 rcases DataW.trod_slice ht h with ⟨rfl, rfl⟩ | ⟨a, len, cap, elems, rest, n', hn, rfl, rfl, hb, hl, hm, hlen, hel, hsp, hns⟩
 ·exact ⟨[], .one rfl (.sl0 rfl), Nat.zero_le _, .inl ⟨rfl, rfl⟩⟩
 have hn' : n' = n := by omega
 subst hn'
 rcases Nat.eq_zero_or_pos len with h0 | h0
 ·subst h0
  have : elems = [] := List.length_eq_zero_iff.1 hlen
  subst this
  exact ⟨[], .one rfl (.sle (.inl rfl)), Nat.zero_le _, .inr ⟨_, _, rfl, rfl, fun i a d hi => by simp at hi⟩⟩
 have one : ∀ i, i < len → ∃ cs' y b, W.cells? base (a.add (i * P.cellsOf e)) (P.cellsOf e) = some cs' ∧ elems[i]? = some y ∧ RowV (g0 W) W cs' (f b).cells ∧ R b y.1 := by
  intro i hi
  have h1 := hel i hi
  have h2 : elems[i]? = some (elems[i]'(by omega)) := by simp [hlen, hi]
  rw [h2] at h1
  obtain ⟨cs', hcs, hy⟩ := Option.bind_eq_some_iff.1 h1
  obtain ⟨b, hr, hR⟩ := he cs' _ hy
  exact ⟨cs', _, b, hcs, h2, hr, hR⟩
 obtain ⟨_, _, b0, _⟩ := one 0 h0
 haveI : Inhabited α := ⟨b0⟩
 obtain ⟨A, hA⟩ := Deep.choose_lt (α := α) (p := fun i b => ∃ cs' y, W.cells? base (a.add (i * P.cellsOf e)) (P.cellsOf e) = some cs' ∧ elems[i]? = some y ∧ RowV (g0 W) W cs' (f b).cells ∧ R b y.1)
  (fun i hi => let ⟨cs', y, b, h1, h2, h3, h4⟩ := one i hi; ⟨b, cs', y, h1, h2, h3, h4⟩)
 have hspot : a.spot = none := by
  obtain ⟨cs', y, h1, _, _, _⟩ := hA 0 h0
  obtain ⟨_, hcl, hcell⟩ := World.cells?_some h1
  have h2 := hcell 0 hc
  have e0 : (a.add (0 * P.cellsOf e)).add 0 = a := by simp [Addr.add]
  rw [e0] at h2
  have h3 : cs'[0]? = some (cs'[0]'(by omega)) := by simp [hcl, hc]
  rw [h3] at h2
  unfold World.cell? at h2
  split at h2
  ·split at h2
   ·cases h2
   rename_i hs; simpa using hs
  cases h2
 obtain ⟨b, o, s⟩ := a
 simp only at hspot
 subst hspot
 let l := (List.range len).map A
 have hll : l.length = len := by simp [l]
 have hg : ∀ i, i < len → (l.map f).getD i .bad = f (A i) := fun i hi => by simp [l, List.getD, hi]
 have cell : ∀ i j, i < len → j < P.cellsOf e → ∃ v, W.cell? ⟨b, o + i * P.cellsOf e + j, none⟩ = some v ∧ v.oneCell' = true ∧ VR (g0 W) W v ((f (A i)).cells.getD j .bad) := by
  intro i j hi hj
  obtain ⟨cs', y, h1, _, hr, _⟩ := hA i hi
  obtain ⟨_, hcl, hcell⟩ := World.cells?_some h1
  have h2 := hcell j hj
  rw [addr_add, addr_add] at h2
  have h3 : cs'[j]? = some (cs'.getD j undef) := by simp [List.getD, hcl, hj]
  rw [h3] at h2
  have := hr.2 j (by rw [← hr.1, hcl]; exact hj)
  exact ⟨_, h2, this.1, this.2⟩
 refine ⟨l, .one rfl ?_, by omega, .inr ⟨_, _, rfl, by simp [hll, hlen], fun i a' d hi hd => ?_⟩⟩
 ·have hz : ∀ i, i < len → ((l.map f).getD i .bad).cells.length = P.cellsOf e := fun i hi => by
   obtain ⟨cs', y, h1, _, hr, _⟩ := hA i hi
   obtain ⟨_, hcl, _⟩ := World.cells?_some h1
   rw [hg i hi, ← hr.1, hcl]
  refine .sl (sz := P.cellsOf e) (fun i j => (W.cell? ⟨b, o + i * P.cellsOf e + j, none⟩).getD undef) (by simp [hll]) hl hz (fun i j hi hj => ?_) (fun i j hi hj => ?_) (fun i j hi hj => ?_) (fun i j hi hj => ?_) trivial
  ·obtain ⟨v, h1, _⟩ := cell i j hi hj; exact ⟨v, h1⟩
  ·obtain ⟨v, h1, _⟩ := cell i j hi hj; rw [h1]; rfl
  ·obtain ⟨v, h1, h2, _⟩ := cell i j hi hj; rw [h1]; exact h2
  obtain ⟨v, h1, h2, h3⟩ := cell i j hi hj; rw [h1, hg i hi]; exact h3
 have hi' : i < len := by
  rcases Nat.lt_or_ge i l.length with h | h
  ·omega
  rw [List.getElem?_eq_none h] at hi; cases hi
 obtain ⟨cs', y, h1, h2, h3, h4⟩ := hA i hi'
 have e1 : a' = A i := by simp [l, hi'] at hi; exact hi.symm
 have e2 : d = y.1 := by simp [h2] at hd; exact hd.symm
 rw [e1, e2]; exact h4
theorem field_some {fs : Array Field} {xs : List (DataW H × List MemPlace)} {cs : List Value} {n : Nat} (hl : xs.length = fs.size)
 (hf : ∀ (i : Nat) (f : Field), fs[i]? = some f → DataW.trod enc P W base spare held n f.type ((cs.drop f.offset).take (P.cellsOf f.type)) = xs[i]?) (i : Nat) {f : Field} (h : fs[i]? = some f) :
 ∃ y, xs[i]? = some y ∧ DataW.trod enc P W base spare held n f.type ((cs.drop f.offset).take (P.cellsOf f.type)) = some y := by
 have hi : i < fs.size := by
  rcases Nat.lt_or_ge i fs.size with h' | h'
  ·exact h'
  rw [Array.getElem?_eq_none h'] at h; cases h
 have h1 : xs[i]? = some (xs[i]'(by omega)) := by simp [hl, hi]
 exact ⟨_, h1, by rw [hf i f h, h1]⟩
end
end Go.Ab

