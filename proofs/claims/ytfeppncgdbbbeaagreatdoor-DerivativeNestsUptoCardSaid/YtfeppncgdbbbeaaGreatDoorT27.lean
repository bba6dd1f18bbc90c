/- GNSp -/
import Derived.Test.YtfeppncgdbbbeaaGreatDoorT26
import Derived.Test.YtfeppncgdbbbeaaGreatDoorT25
set_option linter.all false

namespace Go.Ab
variable [Ar]
def ref09_Total (N : Nat) : Nat → GPattern → Int → Option Int
 | 0, _, _ => none
 | n + 1, x_p, x_limit =>
  (loopN
   (fun (s1 : Int × Int) =>
    (
     if Ar.an (Ar.cmp .lss s1.2 (Ar.len x_p.Args)) (Ar.cmp .leq s1.1 x_limit) = true then
      (idxL x_p.Args s1.2).bind fun x3 =>
      (ref09_Total N n x3 x_limit).bind fun r4 =>
      some (.inl (Ar.ar .add .i64 s1.1 r4, Ar.ar .add .i64 s1.2 1))
     else
      some (.inr s1.1)
     : Option ((Int × Int) ⊕ (Int))))
   N (1, 0)).bind fun s2 =>
  some s2
def ref09_Nodes (N : Nat) : Nat → GPattern → Option (List GPattern)
 | 0, _ => none
 | n + 1, x_p =>
  (loopN
   (fun (s1 : (List GPattern) × Int) =>
    (
     if Ar.cmp .lss s1.2 (Ar.len x_p.Args) = true then
      (idxL x_p.Args s1.2).bind fun x4 =>
      (ref09_Nodes N n x4).bind fun r5 =>
      (appL s1.1 r5).bind fun l7 =>
      some (.inl (l7, Ar.ar .add .i64 s1.2 1))
     else
      some (.inr s1.1)
     : Option (((List GPattern) × Int) ⊕ (((List GPattern))))))
   N ([x_p], 0)).bind fun s3 =>
  some s3
def ref08_Count (N : Nat) : Nat → GExpr → Int → Option Int
 | 0, _, _ => none
 | n + 1, x_e, x_limit =>
  (loopN
   (fun (s1 : Int × Int) =>
    (
     if Ar.an (Ar.cmp .lss s1.2 (Ar.len x_e.Args)) (Ar.cmp .leq s1.1 x_limit) = true then
      (idxL x_e.Args s1.2).bind fun x3 =>
      (ref08_Count N n x3 x_limit).bind fun r4 =>
      some (.inl (Ar.ar .add .i64 s1.1 r4, Ar.ar .add .i64 s1.2 1))
     else
      some (.inr s1.1)
     : Option ((Int × Int) ⊕ (Int))))
   N (1, 0)).bind fun s2 =>
  some s2
def ref09_Small (N : Nat) (x_p : GPattern) : Option Bool :=
 (ref09_Total N N x_p 9).bind fun r1 =>
 if Ar.cmp .gtr r1 9 = true then
  some false
 else
  (ref09_Nodes N N x_p).bind fun r2 =>
  (loopN
   (fun (s3 : Int) =>
    (
     if Ar.cmp .lss s3 (Ar.len r2) = true then
      (idxL r2 s3).bind fun x5 =>
      (ref08_Count N N x5.Cond 20).bind fun r6 =>
      if Ar.cmp .gtr r6 20 = true then
       some (.inr (.inr ()))
      else
       some (.inl (Ar.ar .add .i64 s3 1))
     else
      some (.inr (.inl ()))
     : Option ((Int) ⊕ (Unit ⊕ Unit))))
   N 0).bind fun s4 =>
  match s4 with
  | .inl y7 =>
   some true
  | .inr y8 =>
   some false
def pattern_walk (N : Nat) : Nat → GPattern → Option (List GPattern)
 | 0, _ => none
 | n + 1, x_p =>
  ((
   thenE (some ([x_p], ())) fun _ =>
   thenE (loopE
    (fun (s2 : Int) =>
     (
      if Ar.cmp .lss s2 (Ar.len x_p.Args) = true then
       (idxL x_p.Args s2).bind fun x8 =>
       (pattern_walk N n x8).bind fun l9 => thenE (some (l9, ())) fun _ =>
       some ([], .inl (Ar.ar .add .i64 s2 1))
      else
       some ([], .inr ())
      : Option (List GPattern × ((Int) ⊕ (Unit)))))
    N 0) fun s7 =>
   some ([], ())
  ) : Option (List GPattern × Unit)).bind fun q => some q.1
def pattern_preorder_1 (N : Nat) (x_1 : GPattern) : Option (List GPattern) :=
 ((
  (pattern_walk N N x_1).bind fun l1 => thenE (some (l1, ())) fun _ =>
  some ([], ())
 ) : Option (List GPattern × Unit)).bind fun q => some q.1
def pattern_preorder (N : Nat) (x_p : GPattern) : Option (List GPattern) :=
 pattern_preorder_1 N x_p
def pattern_Size (N : Nat) : Nat → GPattern → Option (Int × Int)
 | 0, _ => none
 | n + 1, x_p =>
  (loopN
   (fun (s1 : Int × Int × Int) =>
    (
     if Ar.cmp .lss s1.2.2 (Ar.len x_p.Args) = true then
      (idxL x_p.Args s1.2.2).bind fun x3 =>
      (pattern_Size N n x3).bind fun r4 =>
      some (.inl (Ar.ar .add .i64 s1.1 r4.1, Ar.mx s1.2.1 r4.2, Ar.ar .add .i64 s1.2.2 1))
     else
      some (.inr (s1.1, s1.2.1))
     : Option ((Int × Int × Int) ⊕ ((Int × Int)))))
   N (1, 0, 0)).bind fun s2 =>
  some (s2.1, Ar.ar .add .i64 s2.2 1)
def expr_Same (N : Nat) : Nat → GExpr → GExpr → Option Bool
 | 0, _, _ => none
 | n + 1, x_a, x_b =>
  if Ar.or (Ar.or (Ar.or (Ar.or (Ar.or (Ar.cmp .neq x_a.Op x_b.Op) (Ar.cmp .neq x_a.Var x_b.Var)) (Ar.cmp .neq x_a.Field x_b.Field)) (Ar.cmp .neq x_a.Kind x_b.Kind)) (Ar.nt (Ar.an (Ar.cmp .eql x_a.Value.Kind x_b.Value.Kind) (Ar.an (Ar.cmp .eql x_a.Value.Num x_b.Value.Num) (Ar.an (Ar.scmp .eql x_a.Value.Text x_b.Value.Text) true))))) (Ar.cmp .neq (Ar.len x_a.Args) (Ar.len x_b.Args)) = true then
   some false
  else
   (loopN
    (fun (s1 : Int) =>
     (
      if Ar.cmp .lss s1 (Ar.len x_a.Args) = true then
       (idxL x_a.Args s1).bind fun x3 =>
       (idxL x_b.Args s1).bind fun x4 =>
       (expr_Same N n x3 x4).bind fun r5 =>
       if Ar.nt r5 = true then
        some (.inr (.inr ()))
       else
        some (.inl (Ar.ar .add .i64 s1 1))
      else
       some (.inr (.inl ()))
      : Option ((Int) ⊕ (Unit ⊕ Unit))))
    N 0).bind fun s2 =>
   match s2 with
   | .inl y6 =>
    some true
   | .inr y7 =>
    some false
def pattern_within (N : Nat) (x_used : Bool) (x_n : Int) (x_most : Int) : Option Bool :=
 some (Ar.or (Ar.nt x_used) (Ar.an (Ar.cmp .geq x_n 0) (Ar.cmp .leq x_n x_most)))
def expr_Size (N : Nat) : Nat → GExpr → Option (Int × Int)
 | 0, _ => none
 | n + 1, x_e =>
  (loopN
   (fun (s1 : Int × Int × Int) =>
    (
     if Ar.cmp .lss s1.2.2 (Ar.len x_e.Args) = true then
      (idxL x_e.Args s1.2.2).bind fun x3 =>
      (expr_Size N n x3).bind fun r4 =>
      some (.inl (Ar.ar .add .i64 s1.1 r4.1, Ar.mx s1.2.1 r4.2, Ar.ar .add .i64 s1.2.2 1))
     else
      some (.inr (s1.1, s1.2.1))
     : Option ((Int × Int × Int) ⊕ ((Int × Int)))))
   N (1, 0, 0)).bind fun s2 =>
  some (s2.1, Ar.ar .add .i64 s2.2 1)
def expr_visit (N : Nat) : Nat → GExpr → (GExpr → Option Int) → Option Int
 | 0, _, _ => none
 | n + 1, x_e, x_f =>
  (x_f x_e).bind fun r1 =>
  if Ar.cmp .neq r1 0 = true then
   some r1
  else
   (loopN
    (fun (s2 : Int) =>
     (
      if Ar.cmp .lss s2 (Ar.len x_e.Args) = true then
       (idxL x_e.Args s2).bind fun x4 =>
       (expr_visit N n x4 x_f).bind fun r5 =>
       if Ar.cmp .neq r5 0 = true then
        some (.inr (.inr r5))
       else
        some (.inl (Ar.ar .add .i64 s2 1))
      else
       some (.inr (.inl ()))
      : Option ((Int) ⊕ (Unit ⊕ Int))))
    N 0).bind fun s3 =>
   match s3 with
   | .inl y6 =>
    some 0
   | .inr y7 =>
    some y7
def expr_arity (N : Nat) (x_op : Int) : Option (Int × Bool) :=
 if Ar.or (Ar.cmp .lss x_op 0) (Ar.cmp .gtr x_op 12) = true then
  some (0, false)
 else
  if Ar.cmp .lss x_op 5 = true then
   some (0, true)
  else
   if Ar.cmp .eql x_op 12 = true then
    some (1, true)
   else
    some (2, true)
def expr_uses (N : Nat) (x_op : Int) : Option (Bool × Bool) :=
 ((
  if Ar.cmp .eql x_op 1 = true then
   some true
  else
   some (Ar.cmp .eql x_op 4)
 ) : Option (Bool)).bind fun s1 =>
 if s1 = true then
  some (true, true)
 else
  if Ar.cmp .eql x_op 2 = true then
   some (true, false)
  else
   if Ar.cmp .eql x_op 3 = true then
    some (true, false)
   else
    some (false, false)
def value_size (N : Nat) (x_v : GValue) : Option Int :=
 if Ar.an (Ar.cmp .eql x_v.Kind 0) (Ar.or (Ar.cmp .lss x_v.Num (-1099511627776)) (Ar.cmp .gtr x_v.Num 1099511627776)) = true then
  some 2
 else
  if Ar.an (Ar.an (Ar.cmp .eql x_v.Kind 1) (Ar.cmp .neq x_v.Num 0)) (Ar.cmp .neq x_v.Num 1) = true then
   some 2
  else
   if Ar.cmp .gtr (Ar.slen x_v.Text) 64 = true then
    some 13
   else
    some 0
def value_Check (N : Nat) (x_v : GValue) : Option Int :=
 ((
  if Ar.cmp .eql x_v.Kind 0 = true then
   some true
  else
   some (Ar.cmp .eql x_v.Kind 1)
 ) : Option (Bool)).bind fun s1 =>
 if s1 = true then
  if Ar.scmp .neq x_v.Text (⟨#[]⟩ : ByteArray) = true then
   some 3
  else
   (value_size N x_v).bind fun r2 =>
   some r2
 else
  if Ar.cmp .eql x_v.Kind 2 = true then
   if Ar.cmp .neq x_v.Num 0 = true then
    some 3
   else
    (value_size N x_v).bind fun r3 =>
    some r3
  else
   some 1
def expr_suits (N : Nat) (x_kind : Int) (x_v : GValue) : Option Bool :=
 some (Ar.or (Ar.or (Ar.cmp .eql x_v.Kind 0) (Ar.cmp .eql x_kind 4)) (Ar.cmp .eql x_kind 5))
def expr_constants (N : Nat) (x_e : GExpr) : Option Int :=
 (value_Check N x_e.Value).bind fun r1 =>
 if Ar.cmp .neq r1 0 = true then
  some r1
 else
  if Ar.cmp .eql x_e.Op 4 = true then
   (expr_suits N x_e.Kind x_e.Value).bind fun r2 =>
   if Ar.or (Ar.nt r2) (Ar.an (Ar.cmp .eql x_e.Kind 1) (Ar.nt (Ar.an (Ar.cmp .eql x_e.Value.Kind 0) (Ar.an (Ar.cmp .eql x_e.Value.Num 0) (Ar.an (Ar.scmp .eql x_e.Value.Text (⟨#[]⟩)) true))))) = true then
    some 9
   else
    some 0
  else
   some 0
def expr_node (N : Nat) (x_e : GExpr) : Option Int :=
 (expr_arity N x_e.Op).bind fun r1 =>
 if Ar.nt r1.2 = true then
  some 1
 else
  if Ar.cmp .neq (Ar.len x_e.Args) r1.1 = true then
   some 15
  else
   (expr_uses N x_e.Op).bind fun r2 =>
   if Ar.or (Ar.an r2.1 (Ar.or (Ar.cmp .lss x_e.Var 0) (Ar.cmp .geq x_e.Var 16))) (Ar.an r2.2 (Ar.or (Ar.cmp .lss x_e.Field 0) (Ar.cmp .geq x_e.Field 8))) = true then
    some 2
   else
    if Ar.an (Ar.cmp .eql x_e.Op 4) (Ar.or (Ar.cmp .lss x_e.Kind 1) (Ar.cmp .gtr x_e.Kind 5)) = true then
     some 1
    else
     ((
      if Ar.or (Ar.cmp .eql x_e.Op 4) (Ar.cmp .eql x_e.Op 0) = true then
       (expr_constants N x_e).bind fun r4 =>
       if Ar.cmp .neq r4 0 = true then
        some (.inr r4)
       else
        some (.inl ())
      else
       some (.inl ())
     ) : Option (Unit ⊕ Int)).bind fun s3 =>
     match s3 with
     | .inl y5 =>
      if Ar.or (Ar.or (Ar.or (Ar.an (Ar.nt r2.1) (Ar.cmp .neq x_e.Var 0)) (Ar.an (Ar.nt r2.2) (Ar.cmp .neq x_e.Field 0))) (Ar.an (Ar.nt (Ar.cmp .eql x_e.Op 4)) (Ar.cmp .neq x_e.Kind 0))) (Ar.an (Ar.nt (Ar.or (Ar.cmp .eql x_e.Op 4) (Ar.cmp .eql x_e.Op 0))) (Ar.nt (Ar.an (Ar.cmp .eql x_e.Value.Kind 0) (Ar.an (Ar.cmp .eql x_e.Value.Num 0) (Ar.an (Ar.scmp .eql x_e.Value.Text (⟨#[]⟩)) true))))) = true then
       some 3
      else
       some 0
     | .inr y6 =>
      some y6
def expr_Check (N : Nat) (x_e : GExpr) : Option Int :=
 (expr_Size N N x_e).bind fun r1 =>
 if Ar.cmp .gtr r1.1 64 = true then
  some 5
 else
  if Ar.cmp .gtr r1.2 12 = true then
   some 12
  else
   (expr_visit N N x_e (fun y1 => expr_node N y1)).bind fun r2 =>
   some r2
def pattern_unused (N : Nat) (x_used : Bool) (x_n : Int) : Option Bool :=
 some (Ar.or x_used (Ar.cmp .eql x_n 0))
def pattern_check (N : Nat) (x_p : GPattern) : Option Int :=
 if Ar.or (Ar.cmp .lss x_p.Op 0) (Ar.cmp .geq x_p.Op 11) = true then
  some 1
 else
  (idxL tab_pattern_shapes x_p.Op).bind fun x1 =>
  if Ar.or (Ar.cmp .lss (Ar.len x_p.Args) x1.least) (Ar.cmp .gtr (Ar.len x_p.Args) x1.most) = true then
   some 15
  else
   (pattern_within N x1.typed x_p.Typ 15).bind fun r2 =>
   if Ar.nt r2 = true then
    some 2
   else
    (pattern_within N x1.typed x_p.Var 15).bind fun r3 =>
    if Ar.nt r3 = true then
     some 2
    else
     (pattern_within N x1.scope x_p.Scope 63).bind fun r4 =>
     if Ar.nt r4 = true then
      some 2
     else
      (pattern_within N x1.span x_p.Span 1099511627776).bind fun r5 =>
      if Ar.nt r5 = true then
       some 2
      else
       ((
        if x1.cond = true then
         (expr_Check N x_p.Cond).bind fun r7 =>
         if Ar.cmp .neq r7 0 = true then
          some (.inr r7)
         else
          some (.inl ())
        else
         some (.inl ())
       ) : Option (Unit ⊕ Int)).bind fun s6 =>
       match s6 with
       | .inl y8 =>
        if Ar.nt x1.cond = true then
         (expr_Same N N x_p.Cond (⟨0, [], 0, 0, 0, (⟨0, 0, ⟨#[]⟩⟩ : GValue)⟩ : GExpr)).bind fun r9 =>
         if Ar.nt r9 = true then
          some 3
         else
          (pattern_unused N x1.typed x_p.Typ).bind fun r10 =>
          if Ar.nt r10 = true then
           some 3
          else
           (pattern_unused N x1.typed x_p.Var).bind fun r11 =>
           if Ar.nt r11 = true then
            some 3
           else
            (pattern_unused N x1.scope x_p.Scope).bind fun r12 =>
            if Ar.nt r12 = true then
             some 3
            else
             (pattern_unused N x1.span x_p.Span).bind fun r13 =>
             if Ar.nt r13 = true then
              some 3
             else
              some 0
        else
         (pattern_unused N x1.typed x_p.Typ).bind fun r14 =>
         if Ar.nt r14 = true then
          some 3
         else
          (pattern_unused N x1.typed x_p.Var).bind fun r15 =>
          if Ar.nt r15 = true then
           some 3
          else
           (pattern_unused N x1.scope x_p.Scope).bind fun r16 =>
           if Ar.nt r16 = true then
            some 3
           else
            (pattern_unused N x1.span x_p.Span).bind fun r17 =>
            if Ar.nt r17 = true then
             some 3
            else
             some 0
       | .inr y18 =>
        some y18
def pattern_CheckRest (N : Nat) (x_p : GPattern) : Option Int :=
 (pattern_Size N N x_p).bind fun r2 =>
 if Ar.cmp .gtr r2.1 64 = true then
  some 5
 else
  if Ar.cmp .gtr r2.2 12 = true then
   some 12
  else
   (pattern_preorder N x_p).bind fun r3 =>
   (rangeL (fun (s6 : Unit) (y5 : GPattern) =>
    (
     (pattern_check N y5).bind fun r10 =>
     if Ar.cmp .neq r10 0 = true then
      some (.inr r10)
     else
      some (.inl ())
     : Option ((Unit) ⊕ (Int)))
    ) r3 ()).bind fun o9 =>
   match o9 with
   | .inl s13 =>
    some 0
   | .inr y14 =>
    some y14
def pattern_whole (N : Nat) (x_p : GPattern) : Option Int :=
 (pattern_CheckRest N x_p).bind fun r2 =>
 if Ar.cmp .neq r2 0 = true then
  some r2
 else
  (pattern_preorder N x_p).bind fun r3 =>
  (rangeL (fun (s6 : Unit) (y5 : GPattern) =>
   (
    if Ar.cmp .geq y5.Op 8 = true then
     some (.inr 1)
    else
     some (.inl ())
    : Option ((Unit) ⊕ (Int)))
   ) r3 ()).bind fun o9 =>
  match o9 with
  | .inl s12 =>
   some 0
  | .inr y13 =>
   some y13
def pattern_count (N : Nat) (x_p : GPattern) : Option (Int × Int × Bool) :=
 (pattern_preorder N x_p).bind fun r4 =>
 (rangeL (fun (s7 : Bool × Int × Int) (y6 : GPattern) =>
  (
   (idxL tab_pattern_shapes y6.Op).bind fun x11 =>
   ((
    if x11.typed = true then
     some (Ar.an s7.1 (Ar.cmp .eql y6.Var s7.2.2), Ar.ar .add .i64 s7.2.2 1)
    else
     some (s7.1, s7.2.2)
   ) : Option ((Bool × Int))).bind fun s12 =>
   if x11.scope = true then
    some (.inl (Ar.an s12.1 (Ar.cmp .eql y6.Scope s7.2.1), Ar.ar .add .i64 s7.2.1 1, s12.2))
   else
    some (.inl (s12.1, s7.2.1, s12.2))
   : Option ((Bool × Int × Int) ⊕ (Unit)))
  ) r4 (true, 0, 0)).bind fun o10 =>
 match o10 with
 | .inl s15 =>
  some (s15.2.2, s15.2.1, s15.1)
 | .inr _ => none
def pattern_Check (N : Nat) (x_p : GPattern) : Option Int :=
 (pattern_whole N x_p).bind fun r1 =>
 if Ar.cmp .neq r1 0 = true then
  some r1
 else
  (pattern_count N x_p).bind fun r2 =>
  if Ar.nt r2.2.2 = true then
   some 14
  else
   some 0
def slices_IndexFunc_LPattern_Pattern (N : Nat) (x_s : List GPattern) (x_f : GPattern → Option Bool) : Option Int :=
 (loopN
  (fun (s1 : Int) =>
   (
    if Ar.cmp .lss s1 (Ar.len x_s) = true then
     (idxL x_s s1).bind fun x3 =>
     (x_f x3).bind fun r4 =>
     if r4 = true then
      some (.inr (.inr s1))
     else
      some (.inl (Ar.ar .add .i64 s1 1))
    else
     some (.inr (.inl ()))
    : Option ((Int) ⊕ (Unit ⊕ Int))))
  N 0).bind fun s2 =>
 match s2 with
 | .inl y5 =>
  some (-1)
 | .inr y6 =>
  some y6
def slices_EqualFunc_LPattern_LPattern_Pattern_Pattern (N : Nat) (x_s1 : List GPattern) (x_s2 : List GPattern) (x_eq : GPattern → GPattern → Option Bool) : Option Bool :=
 if Ar.cmp .neq (Ar.len x_s1) (Ar.len x_s2) = true then
  some false
 else
  (loopN
   (fun (s1 : Int) =>
    (
     if Ar.cmp .lss s1 (Ar.len x_s1) = true then
      (idxL x_s1 s1).bind fun x3 =>
      (idxL x_s2 s1).bind fun x5 =>
      (x_eq x3 x5).bind fun r6 =>
      if Ar.nt r6 = true then
       some (.inr (.inr ()))
      else
       some (.inl (Ar.ar .add .i64 s1 1))
     else
      some (.inr (.inl ()))
     : Option ((Int) ⊕ (Unit ⊕ Unit))))
   N 0).bind fun s2 =>
  match s2 with
  | .inl y7 =>
   some true
  | .inr y8 =>
   some false
def pattern_Same (N : Nat) : Nat → GPattern → GPattern → Option Bool
 | 0, _, _ => none
 | n + 1, x_a, x_b =>
  if Ar.or (Ar.or (Ar.or (Ar.or (Ar.cmp .neq x_a.Op x_b.Op) (Ar.cmp .neq x_a.Typ x_b.Typ)) (Ar.cmp .neq x_a.Var x_b.Var)) (Ar.cmp .neq x_a.Scope x_b.Scope)) (Ar.cmp .neq x_a.Span x_b.Span) = true then
   some false
  else
   (expr_Same N N x_a.Cond x_b.Cond).bind fun r1 =>
   if Ar.nt r1 = true then
    some false
   else
    (slices_EqualFunc_LPattern_LPattern_Pattern_Pattern N x_a.Args x_b.Args (fun y1 y2 => pattern_Same N n y1 y2)).bind fun r2 =>
    some r2
def derivative_index_1 (N : Nat) (x_q : GPattern) (x_1 : GPattern) : Option Bool :=
 (pattern_Same N N x_1 x_q).bind fun r1 =>
 some r1
def derivative_index (N : Nat) (x_l : List GPattern) (x_p : GPattern) : Option Int :=
 (slices_IndexFunc_LPattern_Pattern N x_l (fun y1 => derivative_index_1 N y1 x_p)).bind fun r1 =>
 some r1
def derivative_pairs_1 (N : Nat) (x_1 : GPattern) : Option (List (GEdge × Gderivative_rest)) :=
 ((
  thenE (some ([((⟨0, 0, x_1.Var, x_1.Typ, x_1.Cond, [], [], [], [], []⟩ : GEdge), (⟨true, (⟨0, [], 0, 0, 0, 0, (⟨0, [], 0, 0, 0, (⟨0, 0, ⟨#[]⟩⟩ : GValue)⟩ : GExpr)⟩ : GPattern)⟩ : Gderivative_rest))], ())) fun _ =>
  some ([], ())
 ) : Option (List (GEdge × Gderivative_rest) × Unit)).bind fun q => some q.1
def slices_Clone_LPattern_Pattern (N : Nat) (x_s : List GPattern) : Option (List GPattern) := (appL [] x_s).bind fun l => some l
def slices_Insert_LPattern_Pattern (N : Nat) (x_s : List GPattern) (x_i : Int) (x_v : List GPattern) : Option (List GPattern) := (insertL x_s x_i x_v).bind fun l => some l
def derivative_list (N : Nat) (x_op : Int) (x_args : List GPattern) : Option GPattern :=
 if Ar.cmp .eql (Ar.len x_args) 1 = true then
  (idxL x_args 0).bind fun x2 =>
  some x2
 else
  some (⟨x_op, x_args, 0, 0, 0, 0, (⟨0, [], 0, 0, 0, (⟨0, 0, ⟨#[]⟩⟩ : GValue)⟩ : GExpr)⟩ : GPattern)
def derivative_continued (N : Nat) (x_r : Gderivative_rest) (x_more : List GPattern) : Option Gderivative_rest :=
 (slices_Clone_LPattern_Pattern N x_more).bind fun l2 =>
 ((
  if Ar.nt x_r.done = true then
   (slices_Insert_LPattern_Pattern N l2 0 ([x_r.p])).bind fun l5 =>
   some l5
  else
   some l2
 ) : Option (((List GPattern)))).bind fun s4 =>
 if Ar.cmp .eql (Ar.len s4) 0 = true then
  some (⟨true, (⟨0, [], 0, 0, 0, 0, (⟨0, [], 0, 0, 0, (⟨0, 0, ⟨#[]⟩⟩ : GValue)⟩ : GExpr)⟩ : GPattern)⟩ : Gderivative_rest)
 else
  (derivative_list N 1 s4).bind fun r8 =>
  some (⟨false, r8⟩ : Gderivative_rest)
def slices_Delete_LPattern_Pattern (N : Nat) (x_s : List GPattern) (x_i x_j : Int) : Option (List GPattern) := (deleteL x_s x_i x_j).bind fun l => some l
def derivative_joined (N : Nat) (x_args : List GPattern) (x_at : Int) (x_r : Gderivative_rest) : Option Gderivative_rest :=
 (slices_Clone_LPattern_Pattern N x_args).bind fun l2 =>
 if x_r.done = true then
  (slices_Delete_LPattern_Pattern N l2 x_at (Ar.ar .add .i64 x_at 1)).bind fun l4 =>
  (derivative_list N 3 l4).bind fun r6 =>
  some (⟨false, r6⟩ : Gderivative_rest)
 else
  (req (inR l2 x_at)).bind fun _ =>
  (updL l2 x_at (fun x7 : GPattern => x_r.p)).bind fun l8 =>
  (derivative_list N 3 l8).bind fun r9 =>
  some (⟨false, r9⟩ : Gderivative_rest)
def slices_Grow_LExpr_Expr (N : Nat) (x_s : List GExpr) (x_n : Int) : Option (List GExpr) := growL x_s x_n
def slices_Concat_LExpr_Expr (N : Nat) (x_slices : List (List GExpr)) : Option (List GExpr) :=
 (loopN
  (fun (s1 : Int × Int) =>
   (
    if Ar.cmp .lss s1.2 (Ar.len x_slices) = true then
     (idxL x_slices s1.2).bind fun x3 =>
     if Ar.cmp .lss (Ar.ar .add .i64 s1.1 (Ar.len x3)) 0 = true then
      none
     else
      some (.inl (Ar.ar .add .i64 s1.1 (Ar.len x3), Ar.ar .add .i64 s1.2 1))
    else
     some (.inr s1.1)
    : Option ((Int × Int) ⊕ (Int))))
  N (0, 0)).bind fun s2 =>
 (slices_Grow_LExpr_Expr N [] s2).bind fun l4 =>
 (loopN
  (fun (s6 : Int × (List GExpr)) =>
   (
    if Ar.cmp .lss s6.1 (Ar.len x_slices) = true then
     (idxL x_slices s6.1).bind fun x9 =>
     (appL s6.2 x9).bind fun l11 =>
     some (.inl (Ar.ar .add .i64 s6.1 1, l11))
    else
     some (.inr s6.2)
    : Option ((Int × (List GExpr)) ⊕ (((List GExpr))))))
  N (0, l4)).bind fun s8 =>
 some s8
def slices_Grow_Lint_int (N : Nat) (x_s : List Int) (x_n : Int) : Option (List Int) := growL x_s x_n
def slices_Concat_Lint_int (N : Nat) (x_slices : List (List Int)) : Option (List Int) :=
 (loopN
  (fun (s1 : Int × Int) =>
   (
    if Ar.cmp .lss s1.2 (Ar.len x_slices) = true then
     (idxL x_slices s1.2).bind fun x3 =>
     if Ar.cmp .lss (Ar.ar .add .i64 s1.1 (Ar.len x3)) 0 = true then
      none
     else
      some (.inl (Ar.ar .add .i64 s1.1 (Ar.len x3), Ar.ar .add .i64 s1.2 1))
    else
     some (.inr s1.1)
    : Option ((Int × Int) ⊕ (Int))))
  N (0, 0)).bind fun s2 =>
 (slices_Grow_Lint_int N [] s2).bind fun l4 =>
 (loopN
  (fun (s6 : Int × (List Int)) =>
   (
    if Ar.cmp .lss s6.1 (Ar.len x_slices) = true then
     (idxL x_slices s6.1).bind fun x9 =>
     (appL s6.2 x9).bind fun l11 =>
     some (.inl (Ar.ar .add .i64 s6.1 1, l11))
    else
     some (.inr s6.2)
    : Option ((Int × (List Int)) ⊕ (((List Int))))))
  N (0, l4)).bind fun s8 =>
 some s8
def slices_Grow_LLimit_Limit (N : Nat) (x_s : List GLimit) (x_n : Int) : Option (List GLimit) := growL x_s x_n
def slices_Concat_LLimit_Limit (N : Nat) (x_slices : List (List GLimit)) : Option (List GLimit) :=
 (loopN
  (fun (s1 : Int × Int) =>
   (
    if Ar.cmp .lss s1.2 (Ar.len x_slices) = true then
     (idxL x_slices s1.2).bind fun x3 =>
     if Ar.cmp .lss (Ar.ar .add .i64 s1.1 (Ar.len x3)) 0 = true then
      none
     else
      some (.inl (Ar.ar .add .i64 s1.1 (Ar.len x3), Ar.ar .add .i64 s1.2 1))
    else
     some (.inr s1.1)
    : Option ((Int × Int) ⊕ (Int))))
  N (0, 0)).bind fun s2 =>
 (slices_Grow_LLimit_Limit N [] s2).bind fun l4 =>
 (loopN
  (fun (s6 : Int × (List GLimit)) =>
   (
    if Ar.cmp .lss s6.1 (Ar.len x_slices) = true then
     (idxL x_slices s6.1).bind fun x9 =>
     (appL s6.2 x9).bind fun l11 =>
     some (.inl (Ar.ar .add .i64 s6.1 1, l11))
    else
     some (.inr s6.2)
    : Option ((Int × (List GLimit)) ⊕ (((List GLimit))))))
  N (0, l4)).bind fun s8 =>
 some s8
def derivative_scoped (N : Nat) (x_p : GPattern) (x_x : GEdge) (x_done : Bool) (x_opens : Bool) : Option GEdge :=
 ((
  if x_opens = true then
   (slices_Concat_Lint_int N ([[x_p.Scope], x_x.Opens])).bind fun r4 =>
   some ({ x_x with Opens := r4 })
  else
   some x_x
 ) : Option (GEdge)).bind fun s3 =>
 ((
  if Ar.or (Ar.cmp .eql x_p.Op 5) (Ar.cmp .eql x_p.Op 9) = true then
   (slices_Concat_Lint_int N ([[x_p.Scope], s3.Inside])).bind fun r6 =>
   some ({ s3 with Inside := r6 })
  else
   (slices_Concat_LLimit_Limit N ([[(⟨x_p.Scope, x_p.Span⟩ : GLimit)], s3.Limits])).bind fun r7 =>
   some ({ s3 with Limits := r7 })
 ) : Option (GEdge)).bind fun s5 =>
 if x_done = true then
  (slices_Concat_Lint_int N ([s5.Closes, [x_p.Scope]])).bind fun r8 =>
  some ({ s5 with Closes := r8 })
 else
  some s5
def derivative_within (N : Nat) (x_p : GPattern) (x_op : Int) (x_arg : GPattern) : Option GPattern :=
 some ({ x_p with Op := x_op, Args := [x_arg] })
mutual
def derivative_pairs (N : Nat) : Nat → GPattern → Option (List (GEdge × Gderivative_rest))
 | 0, _ => none
 | n + 1, x_p =>
  if Ar.cmp .eql x_p.Op 0 = true then
   derivative_pairs_1 N x_p
  else
   ((
    if Ar.cmp .eql x_p.Op 1 = true then
     some true
    else
     if Ar.cmp .eql x_p.Op 2 = true then
      some true
     else
      some (Ar.cmp .eql x_p.Op 3)
   ) : Option (Bool)).bind fun s1 =>
   if s1 = true then
    (derivative_branches N n x_p).bind fun r2 =>
    some r2
   else
    if Ar.cmp .eql x_p.Op 4 = true then
     (idxL x_p.Args 0).bind fun x4 =>
     (derivative_repeated N n x4 x_p).bind fun r5 =>
     some r5
    else
     if Ar.cmp .eql x_p.Op 8 = true then
      (idxL x_p.Args 0).bind fun x7 =>
      (sliceL x_p.Args (some 1) (some 2) (some 2)).bind fun l8 =>
      (derivative_repeated N n x7 (⟨4, l8, 0, 0, 0, 0, (⟨0, [], 0, 0, 0, (⟨0, 0, ⟨#[]⟩⟩ : GValue)⟩ : GExpr)⟩ : GPattern)).bind fun r10 =>
      some r10
     else
      (derivative_inner N n x_p).bind fun r12 =>
      some r12
def derivative_branches (N : Nat) : Nat → GPattern → Option (List (GEdge × Gderivative_rest))
 | 0, _ => none
 | n + 1, x_p =>
  derivative_branches_1 N n x_p
def derivative_repeated (N : Nat) : Nat → GPattern → GPattern → Option (List (GEdge × Gderivative_rest))
 | 0, _, _ => none
 | n + 1, x_first, x_again =>
  derivative_repeated_1 N n x_first x_again
def derivative_inner (N : Nat) : Nat → GPattern → Option (List (GEdge × Gderivative_rest))
 | 0, _ => none
 | n + 1, x_p =>
  derivative_inner_1 N n x_p
def derivative_branches_1 (N : Nat) : Nat → GPattern → Option (List (GEdge × Gderivative_rest))
 | 0, _ => none
 | n + 1, x_1 =>
  ((
   thenE (loopE
    (fun (s2 : Int) =>
     (
      if Ar.cmp .lss s2 (Ar.len x_1.Args) = true then
       (idxL x_1.Args s2).bind fun x8 =>
       if Ar.an (Ar.cmp .eql x_1.Op 1) (Ar.cmp .gtr s2 0) = true then
        some ([], .inr (.inr ()))
       else
        (derivative_pairs N n x8).bind fun r11 =>
        thenE (rangeE (fun (_ : Unit) (y13 : (GEdge × Gderivative_rest)) =>
         (
          thenE ((
           if Ar.cmp .eql x_1.Op 1 = true then
            (sliceL x_1.Args (some 1) none none).bind fun l25 =>
            (derivative_continued N y13.2 l25).bind fun r27 =>
            some ([], r27)
           else
            if Ar.cmp .eql x_1.Op 3 = true then
             (derivative_joined N x_1.Args s2 y13.2).bind fun r28 =>
             some ([], r28)
            else
             some ([], y13.2)
          ) : Option (List (GEdge × Gderivative_rest) × (Gderivative_rest))) fun s22 =>
          thenE (some ([(y13.1, s22)], ())) fun _ =>
          some ([], .inl ())
          : Option (List (GEdge × Gderivative_rest) × (Unit ⊕ Unit))))
         r11 ()) fun o20 =>
        match o20 with
        | .inl _ =>
         some ([], .inl (Ar.ar .add .i64 s2 1))
        | .inr _ =>
         none
      else
       some ([], .inr (.inl ()))
      : Option (List (GEdge × Gderivative_rest) × ((Int) ⊕ (Unit ⊕ Unit)))))
    N 0) fun s7 =>
   match s7 with
   | .inl y31 =>
    some ([], ())
   | .inr y32 =>
    some ([], ())
  ) : Option (List (GEdge × Gderivative_rest) × Unit)).bind fun q => some q.1
def derivative_repeated_1 (N : Nat) : Nat → GPattern → GPattern → Option (List (GEdge × Gderivative_rest))
 | 0, _, _ => none
 | n + 1, x_1, x_2 =>
  ((
   (derivative_pairs N n x_1).bind fun r1 =>
   thenE (rangeE (fun (_ : Unit) (y3 : (GEdge × Gderivative_rest)) =>
    (
     if Ar.nt y3.2.done = true then
      (idxL x_2.Args 0).bind fun x11 =>
      thenE (some ([(y3.1, (⟨false, (⟨8, [y3.2.p, x11], 0, 0, 0, 0, (⟨0, [], 0, 0, 0, (⟨0, 0, ⟨#[]⟩⟩ : GValue)⟩ : GExpr)⟩ : GPattern)⟩ : Gderivative_rest))], ())) fun _ =>
      some ([], .inl ())
     else
      thenE (some ([(y3.1, y3.2)], ())) fun _ =>
      thenE (some ([(y3.1, (⟨false, x_2⟩ : Gderivative_rest))], ())) fun _ =>
      some ([], .inl ())
     : Option (List (GEdge × Gderivative_rest) × (Unit ⊕ Unit))))
    r1 ()) fun o10 =>
   match o10 with
   | .inl _ =>
    some ([], ())
   | .inr _ =>
    none
  ) : Option (List (GEdge × Gderivative_rest) × Unit)).bind fun q => some q.1
def derivative_inner_1 (N : Nat) : Nat → GPattern → Option (List (GEdge × Gderivative_rest))
 | 0, _ => none
 | n + 1, x_1 =>
  ((
   (idxL x_1.Args 0).bind fun x1 =>
   (derivative_pairs N n x1).bind fun r2 =>
   thenE (rangeE (fun (_ : Unit) (y4 : (GEdge × Gderivative_rest)) =>
    (
     thenE ((
      if Ar.cmp .eql x_1.Op 7 = true then
       if y4.2.done = true then
        (slices_Concat_LExpr_Expr N ([y4.1.Checks, [x_1.Cond]])).bind fun r17 =>
        some ([], (x_1.Op, { y4.1 with Checks := r17 }))
       else
        some ([], (x_1.Op, y4.1))
      else
       thenE ((
        if Ar.cmp .eql x_1.Op 5 = true then
         some ([], true)
        else
         some ([], Ar.cmp .eql x_1.Op 9)
       ) : Option (List (GEdge × Gderivative_rest) × (Bool))) fun s18 =>
       if s18 = true then
        (derivative_scoped N x_1 y4.1 y4.2.done (Ar.cmp .eql x_1.Op 5)).bind fun r21 =>
        some ([], (9, r21))
       else
        (derivative_scoped N x_1 y4.1 y4.2.done (Ar.cmp .eql x_1.Op 6)).bind fun r22 =>
        some ([], (10, r22))
     ) : Option (List (GEdge × Gderivative_rest) × ((Int × GEdge)))) fun s14 =>
     thenE ((
      if Ar.nt y4.2.done = true then
       (derivative_within N x_1 s14.1 y4.2.p).bind fun r26 =>
       some ([], { y4.2 with p := r26 })
      else
       some ([], y4.2)
     ) : Option (List (GEdge × Gderivative_rest) × (Gderivative_rest))) fun s23 =>
     thenE (some ([(s14.2, s23)], ())) fun _ =>
     some ([], .inl ())
     : Option (List (GEdge × Gderivative_rest) × (Unit ⊕ Unit))))
    r2 ()) fun o11 =>
   match o11 with
   | .inl _ =>
    some ([], ())
   | .inr _ =>
    none
  ) : Option (List (GEdge × Gderivative_rest) × Unit)).bind fun q => some q.1
end
def slices_IndexFunc_LEdge_Edge (N : Nat) (x_s : List GEdge) (x_f : GEdge → Option Bool) : Option Int :=
 (loopN
  (fun (s1 : Int) =>
   (
    if Ar.cmp .lss s1 (Ar.len x_s) = true then
     (idxL x_s s1).bind fun x3 =>
     (x_f x3).bind fun r4 =>
     if r4 = true then
      some (.inr (.inr s1))
     else
      some (.inl (Ar.ar .add .i64 s1 1))
    else
     some (.inr (.inl ()))
    : Option ((Int) ⊕ (Unit ⊕ Int))))
  N 0).bind fun s2 =>
 match s2 with
 | .inl y5 =>
  some (-1)
 | .inr y6 =>
  some y6
def slices_ContainsFunc_LEdge_Edge (N : Nat) (x_s : List GEdge) (x_f : GEdge → Option Bool) : Option Bool :=
 (slices_IndexFunc_LEdge_Edge N x_s x_f).bind fun r1 =>
 some (Ar.cmp .geq r1 0)
def slices_Equal_Lint_int (N : Nat) (x_s1 : List Int) (x_s2 : List Int) : Option Bool :=
 if Ar.cmp .neq (Ar.len x_s1) (Ar.len x_s2) = true then
  some false
 else
  (loopN
   (fun (s1 : Int) =>
    (
     if Ar.cmp .lss s1 (Ar.len x_s1) = true then
      (idxL x_s1 s1).bind fun x3 =>
      (idxL x_s2 s1).bind fun x4 =>
      if Ar.cmp .neq x3 x4 = true then
       some (.inr (.inr ()))
      else
       some (.inl (Ar.ar .add .i64 s1 1))
     else
      some (.inr (.inl ()))
     : Option ((Int) ⊕ (Unit ⊕ Unit))))
   N 0).bind fun s2 =>
  match s2 with
  | .inl y5 =>
   some true
  | .inr y6 =>
   some false
def slices_Equal_LLimit_Limit (N : Nat) (x_s1 : List GLimit) (x_s2 : List GLimit) : Option Bool :=
 if Ar.cmp .neq (Ar.len x_s1) (Ar.len x_s2) = true then
  some false
 else
  (loopN
   (fun (s1 : Int) =>
    (
     if Ar.cmp .lss s1 (Ar.len x_s1) = true then
      (idxL x_s1 s1).bind fun x3 =>
      (idxL x_s2 s1).bind fun x4 =>
      if Ar.nt (Ar.an (Ar.cmp .eql x3.Scope x4.Scope) (Ar.an (Ar.cmp .eql x3.Span x4.Span) true)) = true then
       some (.inr (.inr ()))
      else
       some (.inl (Ar.ar .add .i64 s1 1))
     else
      some (.inr (.inl ()))
     : Option ((Int) ⊕ (Unit ⊕ Unit))))
   N 0).bind fun s2 =>
  match s2 with
  | .inl y5 =>
   some true
  | .inr y6 =>
   some false
def slices_EqualFunc_LExpr_LExpr_Expr_Expr (N : Nat) (x_s1 : List GExpr) (x_s2 : List GExpr) (x_eq : GExpr → GExpr → Option Bool) : Option Bool :=
 if Ar.cmp .neq (Ar.len x_s1) (Ar.len x_s2) = true then
  some false
 else
  (loopN
   (fun (s1 : Int) =>
    (
     if Ar.cmp .lss s1 (Ar.len x_s1) = true then
      (idxL x_s1 s1).bind fun x3 =>
      (idxL x_s2 s1).bind fun x5 =>
      (x_eq x3 x5).bind fun r6 =>
      if Ar.nt r6 = true then
       some (.inr (.inr ()))
      else
       some (.inl (Ar.ar .add .i64 s1 1))
     else
      some (.inr (.inl ()))
     : Option ((Int) ⊕ (Unit ⊕ Unit))))
   N 0).bind fun s2 =>
  match s2 with
  | .inl y7 =>
   some true
  | .inr y8 =>
   some false
def derivative_sameEdge (N : Nat) (x_a : GEdge) (x_b : GEdge) : Option Bool :=
 if Ar.an (Ar.cmp .eql x_a.Var x_b.Var) (Ar.cmp .eql x_a.Typ x_b.Typ) = true then
  (expr_Same N N x_a.Cond x_b.Cond).bind fun r1 =>
  if r1 = true then
   (slices_Equal_Lint_int N x_a.Opens x_b.Opens).bind fun r2 =>
   if r2 = true then
    (slices_Equal_Lint_int N x_a.Closes x_b.Closes).bind fun r3 =>
    if r3 = true then
     (slices_EqualFunc_LExpr_LExpr_Expr_Expr N x_a.Checks x_b.Checks (fun y1 y2 => expr_Same N N y1 y2)).bind fun r4 =>
     if r4 = true then
      (slices_Equal_LLimit_Limit N x_a.Limits x_b.Limits).bind fun r5 =>
      if r5 = true then
       (slices_Equal_Lint_int N x_a.Inside x_b.Inside).bind fun r6 =>
       some r6
      else
       some false
     else
      some false
    else
     some false
   else
    some false
  else
   some false
 else
  some false
def derivative_derived_1 (N : Nat) (x_y : GEdge) (x_1 : GEdge) : Option Bool :=
 if Ar.cmp .eql x_1.To x_y.To = true then
  (derivative_sameEdge N x_1 x_y).bind fun r1 =>
  some r1
 else
  some false
def derivative_derived (N : Nat) (x_p : GPattern) : Option ((List GEdge) × (List GPattern) × Int) :=
 (derivative_pairs N N x_p).bind fun r6 =>
 (rangeL (fun (s9 : (List GPattern) × (List GEdge)) (y8 : (GEdge × Gderivative_rest)) =>
  (
   ((
    if Ar.nt y8.2.done = true then
     (derivative_index N s9.1 y8.2.p).bind fun r17 =>
     if Ar.cmp .lss r17 0 = true then
      (pattern_CheckRest N y8.2.p).bind fun r18 =>
      if Ar.cmp .neq r18 0 = true then
       some (.inr ({ y8.1 with To := r17 }, 17))
      else
       (appL s9.1 ([y8.2.p])).bind fun l20 =>
       some (.inl ({ y8.1 with To := Ar.len s9.1 }, l20))
     else
      some (.inl ({ y8.1 with To := r17 }, s9.1))
    else
     some (.inl ({ y8.1 with To := (-1) }, s9.1))
   ) : Option ((GEdge × (List GPattern)) ⊕ (GEdge × Int))).bind fun s16 =>
   match s16 with
   | .inl y21 =>
    (slices_ContainsFunc_LEdge_Edge N s9.2 (fun y1 => derivative_derived_1 N y1 y21.1)).bind fun r23 =>
    if r23 = true then
     some (.inl (y21.2, s9.2))
    else
     (appL s9.2 ([y21.1])).bind fun l25 =>
     if Ar.cmp .gtr (Ar.len l25) 2048 = true then
      some (.inr (y21.2, l25, 17))
     else
      some (.inl (y21.2, l25))
   | .inr y26 =>
    some (.inr (s9.1, s9.2, y26.2))
   : Option (((List GPattern) × (List GEdge)) ⊕ (((List GPattern) × (List GEdge) × Int))))
  ) r6 ([], [])).bind fun o14 =>
 match o14 with
 | .inl s31 =>
  some (s31.2, s31.1, 0)
 | .inr y34 =>
  some ([], [], y34.2.2)
def derivative_Residuals (N : Nat) (x_p : GPattern) : Option ((List GPattern) × Int) :=
 (pattern_Check N x_p).bind fun r1 =>
 if Ar.cmp .neq r1 0 = true then
  some ([], r1)
 else
  (loopN
   (fun (s2 : (List GPattern) × Int) =>
    (
     if Ar.cmp .lss s2.2 (Ar.len s2.1) = true then
      (idxL s2.1 s2.2).bind fun x5 =>
      (derivative_derived N x5).bind fun r6 =>
      if Ar.cmp .neq r6.2.2 0 = true then
       some (.inr (.inr r6.2.2))
      else
       (loopN
        (fun (s7 : (List GPattern) × Int) =>
         (
          if Ar.cmp .lss s7.2 (Ar.len r6.2.1) = true then
           (idxL r6.2.1 s7.2).bind fun x10 =>
           (derivative_index N s7.1 x10).bind fun r11 =>
           if Ar.cmp .lss r11 0 = true then
            (appL s7.1 ([x10])).bind fun l13 =>
            some (.inl (l13, Ar.ar .add .i64 s7.2 1))
           else
            some (.inl (s7.1, Ar.ar .add .i64 s7.2 1))
          else
           some (.inr s7.1)
          : Option (((List GPattern) × Int) ⊕ (((List GPattern))))))
        N (s2.1, 0)).bind fun s9 =>
       if Ar.cmp .gtr (Ar.len s9) 256 = true then
        some (.inr (.inr 17))
       else
        some (.inl (s9, Ar.ar .add .i64 s2.2 1))
     else
      some (.inr (.inl s2.1))
     : Option (((List GPattern) × Int) ⊕ (((List GPattern)) ⊕ Int))))
   N ([x_p], 0)).bind fun s4 =>
  match s4 with
  | .inl y15 =>
   some (y15, 0)
  | .inr y17 =>
   some ([], y17)
def derivative_Derive (N : Nat) (x_p : GPattern) : Option ((List GEdge) × (List GPattern) × Int) :=
 (pattern_CheckRest N x_p).bind fun r1 =>
 if Ar.cmp .neq r1 0 = true then
  some ([], [], r1)
 else
  (derivative_derived N x_p).bind fun r2 =>
  some (r2.1, r2.2.1, r2.2.2)
def derivative_active (N : Nat) : Nat → GPattern → Option (List GGuard)
 | 0, _ => none
 | n + 1, x_p =>
  ((
   if Ar.cmp .eql x_p.Op 1 = true then
    some true
   else
    some (Ar.cmp .eql x_p.Op 8)
  ) : Option (Bool)).bind fun s1 =>
  if s1 = true then
   (idxL x_p.Args 0).bind fun x2 =>
   (derivative_active N n x2).bind fun r3 =>
   some r3
  else
   if Ar.cmp .eql x_p.Op 3 = true then
    (loopN
     (fun (s4 : (List GGuard) × Int) =>
      (
       if Ar.cmp .lss s4.2 (Ar.len x_p.Args) = true then
        (idxL x_p.Args s4.2).bind fun x7 =>
        (derivative_active N n x7).bind fun r8 =>
        (appL s4.1 r8).bind fun l10 =>
        some (.inl (l10, Ar.ar .add .i64 s4.2 1))
       else
        some (.inr s4.1)
       : Option (((List GGuard) × Int) ⊕ (((List GGuard))))))
     N ([], 0)).bind fun s6 =>
    some s6
   else
    if Ar.cmp .eql x_p.Op 9 = true then
     (appL ([]) ([(⟨x_p.Scope, x_p.Typ, x_p.Var, x_p.Cond⟩ : GGuard)])).bind fun l13 =>
     (idxL x_p.Args 0).bind fun x14 =>
     (derivative_active N n x14).bind fun r15 =>
     (appL l13 r15).bind fun l17 =>
     some l17
    else
     ((
      if Ar.cmp .eql x_p.Op 10 = true then
       some true
      else
       some (Ar.cmp .eql x_p.Op 7)
     ) : Option (Bool)).bind fun s18 =>
     if s18 = true then
      (idxL x_p.Args 0).bind fun x19 =>
      (derivative_active N n x19).bind fun r20 =>
      some r20
     else
      some ([])
def derivative_Guards (N : Nat) (x_p : GPattern) : Option ((List GGuard) × Int) :=
 (pattern_CheckRest N x_p).bind fun r1 =>
 if Ar.cmp .neq r1 0 = true then
  some ([], r1)
 else
  (derivative_active N N x_p).bind fun r2 =>
  some (r2, 0)
def law22_node (N : Nat) (x_op : Int) (x_args : List GPattern) : Option GPattern :=
 some (⟨x_op, x_args, 0, 0, 0, 0, (⟨0, [], 0, 0, 0, (⟨0, 0, ⟨#[]⟩⟩ : GValue)⟩ : GExpr)⟩ : GPattern)
def ref08_Flag (N : Nat) (x_b : Bool) : Option GValue :=
 if x_b = true then
  some (⟨1, 1, ⟨#[]⟩⟩ : GValue)
 else
  some (⟨1, 0, ⟨#[]⟩⟩ : GValue)
def law22_truth (N : Nat) : Option GExpr :=
 (ref08_Flag N true).bind fun r2 =>
 some (⟨0, [], 0, 0, 0, r2⟩ : GExpr)
def law22_event (N : Nat) (x_v : Int) : Option GPattern :=
 (law22_truth N).bind fun r2 =>
 some (⟨0, [], 0, x_v, 0, 0, r2⟩ : GPattern)
def ref08_Same (N : Nat) : Nat → GExpr → GExpr → Option Bool
 | 0, _, _ => none
 | n + 1, x_a, x_b =>
  if Ar.or (Ar.or (Ar.or (Ar.or (Ar.or (Ar.cmp .neq x_a.Op x_b.Op) (Ar.cmp .neq x_a.Var x_b.Var)) (Ar.cmp .neq x_a.Field x_b.Field)) (Ar.cmp .neq x_a.Kind x_b.Kind)) (Ar.nt (Ar.an (Ar.cmp .eql x_a.Value.Kind x_b.Value.Kind) (Ar.an (Ar.cmp .eql x_a.Value.Num x_b.Value.Num) (Ar.an (Ar.scmp .eql x_a.Value.Text x_b.Value.Text) true))))) (Ar.cmp .neq (Ar.len x_a.Args) (Ar.len x_b.Args)) = true then
   some false
  else
   (loopN
    (fun (s1 : Int) =>
     (
      if Ar.cmp .lss s1 (Ar.len x_a.Args) = true then
       (idxL x_a.Args s1).bind fun x3 =>
       (idxL x_b.Args s1).bind fun x4 =>
       (ref08_Same N n x3 x4).bind fun r5 =>
       if Ar.nt r5 = true then
        some (.inr (.inr ()))
       else
        some (.inl (Ar.ar .add .i64 s1 1))
      else
       some (.inr (.inl ()))
      : Option ((Int) ⊕ (Unit ⊕ Unit))))
    N 0).bind fun s2 =>
   match s2 with
   | .inl y6 =>
    some true
   | .inr y7 =>
    some false
def ref09_Same (N : Nat) : Nat → GPattern → GPattern → Option Bool
 | 0, _, _ => none
 | n + 1, x_a, x_b =>
  if Ar.or (Ar.or (Ar.or (Ar.or (Ar.cmp .neq x_a.Op x_b.Op) (Ar.cmp .neq x_a.Typ x_b.Typ)) (Ar.cmp .neq x_a.Var x_b.Var)) (Ar.cmp .neq x_a.Scope x_b.Scope)) (Ar.cmp .neq x_a.Span x_b.Span) = true then
   some false
  else
   (ref08_Same N N x_a.Cond x_b.Cond).bind fun r1 =>
   if Ar.or (Ar.nt r1) (Ar.cmp .neq (Ar.len x_a.Args) (Ar.len x_b.Args)) = true then
    some false
   else
    (loopN
     (fun (s2 : Int) =>
      (
       if Ar.cmp .lss s2 (Ar.len x_a.Args) = true then
        (idxL x_a.Args s2).bind fun x4 =>
        (idxL x_b.Args s2).bind fun x5 =>
        (ref09_Same N n x4 x5).bind fun r6 =>
        if Ar.nt r6 = true then
         some (.inr (.inr ()))
        else
         some (.inl (Ar.ar .add .i64 s2 1))
       else
        some (.inr (.inl ()))
       : Option ((Int) ⊕ (Unit ⊕ Unit))))
     N 0).bind fun s3 =>
    match s3 with
    | .inl y7 =>
     some true
    | .inr y8 =>
     some false
def ref22_SameAll (N : Nat) (x_a : List GPattern) (x_b : List GPattern) : Option Bool :=
 if Ar.cmp .neq (Ar.len x_a) (Ar.len x_b) = true then
  some false
 else
  (loopN
   (fun (s1 : Int) =>
    (
     if Ar.cmp .lss s1 (Ar.len x_a) = true then
      (idxL x_a s1).bind fun x3 =>
      (idxL x_b s1).bind fun x4 =>
      (ref09_Same N N x3 x4).bind fun r5 =>
      if Ar.nt r5 = true then
       some (.inr (.inr ()))
      else
       some (.inl (Ar.ar .add .i64 s1 1))
     else
      some (.inr (.inl ()))
     : Option ((Int) ⊕ (Unit ⊕ Unit))))
   N 0).bind fun s2 =>
  match s2 with
  | .inl y6 =>
   some true
  | .inr y7 =>
   some false
def law22_awake (N : Nat) : Option Bool :=
 (law22_event N 0).bind fun r1 =>
 (law22_event N 1).bind fun r2 =>
 (law22_node N 1 ([r1, r2])).bind fun r3 =>
 (derivative_Derive N r3).bind fun r4 =>
 (law22_event N 0).bind fun r5 =>
 (law22_node N 4 ([r5])).bind fun r6 =>
 (derivative_Derive N r6).bind fun r7 =>
 (law22_event N 0).bind fun r8 =>
 (law22_event N 1).bind fun r9 =>
 (law22_node N 1 ([r8, r9])).bind fun r10 =>
 (derivative_Residuals N (⟨6, [r10], 0, 0, 0, 5, (⟨0, [], 0, 0, 0, (⟨0, 0, ⟨#[]⟩⟩ : GValue)⟩ : GExpr)⟩ : GPattern)).bind fun r11 =>
 (derivative_Derive N (⟨6, [r10], 0, 0, 0, 5, (⟨0, [], 0, 0, 0, (⟨0, 0, ⟨#[]⟩⟩ : GValue)⟩ : GExpr)⟩ : GPattern)).bind fun r12 =>
 (law22_truth N).bind fun r13 =>
 (law22_event N 1).bind fun r14 =>
 (law22_node N 4 ([r14])).bind fun r15 =>
 (derivative_Residuals N (⟨5, [r15], 2, 0, 0, 0, r13⟩ : GPattern)).bind fun r16 =>
 (derivative_Derive N (⟨5, [r15], 2, 0, 0, 0, r13⟩ : GPattern)).bind fun r17 =>
 if Ar.or (Ar.or (Ar.or (Ar.or (Ar.or (Ar.or (Ar.or (Ar.or (Ar.or (Ar.or (Ar.or (Ar.cmp .neq r4.2.2 0) (Ar.cmp .neq r7.2.2 0)) (Ar.cmp .neq r11.2 0)) (Ar.cmp .neq r12.2.2 0)) (Ar.cmp .neq r16.2 0)) (Ar.cmp .neq r17.2.2 0)) (Ar.cmp .neq (Ar.len r4.1) 1)) (Ar.cmp .neq (Ar.len r7.1) 2)) (Ar.cmp .neq (Ar.len r12.1) 1)) (Ar.cmp .neq (Ar.len r17.1) 2)) (Ar.cmp .neq (Ar.len r11.1) 2)) (Ar.cmp .neq (Ar.len r16.1) 2) = true then
  some false
 else
  (idxL r16.1 1).bind fun x18 =>
  (derivative_Guards N x18).bind fun r19 =>
  if Ar.or (Ar.cmp .neq r19.2 0) (Ar.cmp .neq (Ar.len r19.1) 1) = true then
   some false
  else
   (idxL r19.1 0).bind fun x20 =>
   if Ar.cmp .neq x20.Typ 2 = true then
    some false
   else
    (idxL r16.1 1).bind fun x21 =>
    if Ar.cmp .neq x21.Op 9 = true then
     some false
    else
     (idxL r11.1 1).bind fun x22 =>
     if Ar.cmp .neq x22.Op 10 = true then
      some false
     else
      (law22_event N 1).bind fun r23 =>
      (ref22_SameAll N r4.2.1 ([r23])).bind fun r24 =>
      if Ar.nt r24 = true then
       some false
      else
       (law22_event N 0).bind fun r25 =>
       (law22_node N 4 ([r25])).bind fun r26 =>
       (ref22_SameAll N r7.2.1 ([r26])).bind fun r27 =>
       if Ar.nt r27 = true then
        some false
       else
        (idxL r4.1 0).bind fun x28 =>
        if Ar.cmp .neq x28.To 0 = true then
         some false
        else
         (idxL r7.1 0).bind fun x29 =>
         if Ar.cmp .neq x29.To (-1) = true then
          some false
         else
          (idxL r7.1 1).bind fun x30 =>
          if Ar.cmp .neq x30.To 0 = true then
           some false
          else
           (idxL r12.1 0).bind fun x31 =>
           (slices_Equal_Lint_int N x31.Opens ([0])).bind fun r32 =>
           if r32 = true then
            (idxL r12.1 0).bind fun x33 =>
            (slices_Equal_LLimit_Limit N x33.Limits ([(⟨0, 5⟩ : GLimit)])).bind fun r34 =>
            if r34 = true then
             (idxL r12.1 0).bind fun x35 =>
             if Ar.cmp .eql (Ar.len x35.Closes) 0 = true then
              (idxL r17.1 0).bind fun x36 =>
              (slices_Equal_Lint_int N x36.Closes ([0])).bind fun r37 =>
              if r37 = true then
               (idxL r17.1 1).bind fun x38 =>
               if Ar.cmp .eql (Ar.len x38.Closes) 0 = true then
                (idxL r17.1 1).bind fun x39 =>
                (slices_Equal_Lint_int N x39.Inside ([0])).bind fun r40 =>
                some r40
               else
                some false
              else
               some false
             else
              some false
            else
             some false
           else
            some false
def law22_open (N : Nat) : Nat → GPattern → Option (List Int)
 | 0, _ => none
 | n + 1, x_p =>
  ((
   ((
    if Ar.cmp .eql x_p.Op 9 = true then
     some true
    else
     some (Ar.cmp .eql x_p.Op 10)
   ) : Option (Bool)).bind fun s2 =>
   if s2 = true then
    (appL ([]) ([x_p.Scope])).bind fun l4 =>
    some (.inl (l4, x_p.Args))
   else
    ((
     if Ar.cmp .eql x_p.Op 1 = true then
      some true
     else
      some (Ar.cmp .eql x_p.Op 8)
    ) : Option (Bool)).bind fun s5 =>
    if s5 = true then
     (sliceL x_p.Args none (some 1) none).bind fun l6 =>
     some (.inl ([], l6))
    else
     if Ar.cmp .eql x_p.Op 3 = true then
      some (.inl ([], x_p.Args))
     else
      if Ar.cmp .eql x_p.Op 7 = true then
       some (.inl ([], x_p.Args))
      else
       some (.inr ())
  ) : Option (((List Int) × (List GPattern)) ⊕ Unit)).bind fun s1 =>
  match s1 with
  | .inl y8 =>
   (loopN
    (fun (s10 : (List Int) × Int) =>
     (
      if Ar.cmp .lss s10.2 (Ar.len y8.2) = true then
       (idxL y8.2 s10.2).bind fun x13 =>
       (law22_open N n x13).bind fun r14 =>
       (appL s10.1 r14).bind fun l16 =>
       some (.inl (l16, Ar.ar .add .i64 s10.2 1))
      else
       some (.inr s10.1)
      : Option (((List Int) × Int) ⊕ (((List Int))))))
    N (y8.1, 0)).bind fun s12 =>
   some s12
  | .inr y18 =>
   some ([])
def slices_IndexFunc_LGuard_Guard (N : Nat) (x_s : List GGuard) (x_f : GGuard → Option Bool) : Option Int :=
 (loopN
  (fun (s1 : Int) =>
   (
    if Ar.cmp .lss s1 (Ar.len x_s) = true then
     (idxL x_s s1).bind fun x3 =>
     (x_f x3).bind fun r4 =>
     if r4 = true then
      some (.inr (.inr s1))
     else
      some (.inl (Ar.ar .add .i64 s1 1))
    else
     some (.inr (.inl ()))
    : Option ((Int) ⊕ (Unit ⊕ Int))))
  N 0).bind fun s2 =>
 match s2 with
 | .inl y5 =>
  some (-1)
 | .inr y6 =>
  some y6
def slices_ContainsFunc_LGuard_Guard (N : Nat) (x_s : List GGuard) (x_f : GGuard → Option Bool) : Option Bool :=
 (slices_IndexFunc_LGuard_Guard N x_s x_f).bind fun r1 =>
 some (Ar.cmp .geq r1 0)
def slices_Index_Lint_int (N : Nat) (x_s : List Int) (x_v : Int) : Option Int :=
 (loopN
  (fun (s1 : Int) =>
   (
    if Ar.cmp .lss s1 (Ar.len x_s) = true then
     (idxL x_s s1).bind fun x3 =>
     if Ar.cmp .eql x_v x3 = true then
      some (.inr (.inr s1))
     else
      some (.inl (Ar.ar .add .i64 s1 1))
    else
     some (.inr (.inl ()))
    : Option ((Int) ⊕ (Unit ⊕ Int))))
  N 0).bind fun s2 =>
 match s2 with
 | .inl y4 =>
  some (-1)
 | .inr y5 =>
  some y5
def slices_Contains_Lint_int (N : Nat) (x_s : List Int) (x_v : Int) : Option Bool :=
 (slices_Index_Lint_int N x_s x_v).bind fun r1 =>
 some (Ar.cmp .geq r1 0)
def law22_DerivativeNests_1 (N : Nat) (x_x : GGuard) (x_1 : List Int) : Option Bool :=
 (slices_Contains_Lint_int N x_1 x_x.Scope).bind fun r1 =>
 some (Ar.nt r1)
def slices_Clone_Lint_int (N : Nat) (x_s : List Int) : Option (List Int) := (appL [] x_s).bind fun l => some l
def slices_Delete_Lint_int (N : Nat) (x_s : List Int) (x_i x_j : Int) : Option (List Int) := (deleteL x_s x_i x_j).bind fun l => some l
def slices_Sort_Lint_int (N : Nat) (x_s : List Int) : Option (List Int) := sortL x_s
def slices_IndexFunc_LLimit_Limit (N : Nat) (x_s : List GLimit) (x_f : GLimit → Option Bool) : Option Int :=
 (loopN
  (fun (s1 : Int) =>
   (
    if Ar.cmp .lss s1 (Ar.len x_s) = true then
     (idxL x_s s1).bind fun x3 =>
     (x_f x3).bind fun r4 =>
     if r4 = true then
      some (.inr (.inr s1))
     else
      some (.inl (Ar.ar .add .i64 s1 1))
    else
     some (.inr (.inl ()))
    : Option ((Int) ⊕ (Unit ⊕ Int))))
  N 0).bind fun s2 =>
 match s2 with
 | .inl y5 =>
  some (-1)
 | .inr y6 =>
  some y6
def slices_ContainsFunc_LLimit_Limit (N : Nat) (x_s : List GLimit) (x_f : GLimit → Option Bool) : Option Bool :=
 (slices_IndexFunc_LLimit_Limit N x_s x_f).bind fun r1 =>
 some (Ar.cmp .geq r1 0)
def law22_DerivativeNests_2 (N : Nat) (x_y : GLimit) (x_1 : Int) : Option Bool :=
 some (Ar.cmp .eql x_y.Scope x_1)
def law22_open_o (N : Nat) : Nat → GPattern → Option (List Int)
 | 0, _ => none
 | n + 1, x_p =>
  ((
   ((
    if Ar.cmp .eql x_p.Op 9 = true then
     some true
    else
     some (Ar.cmp .eql x_p.Op 10)
   ) : Option (Bool)).bind fun s4 =>
   if s4 = true then
    (appL ([] : List Int) ([x_p.Scope])).bind fun l6 =>
    some (.inl (x_p.Args, l6))
   else
    ((
     if Ar.cmp .eql x_p.Op 1 = true then
      some true
     else
      some (Ar.cmp .eql x_p.Op 8)
    ) : Option (Bool)).bind fun s7 =>
    if s7 = true then
     (sliceL x_p.Args none (some 1) none).bind fun l8 =>
     some (.inl (l8, ([] : List Int)))
    else
     if Ar.cmp .eql x_p.Op 3 = true then
      some (.inl (x_p.Args, ([] : List Int)))
     else
      if Ar.cmp .eql x_p.Op 7 = true then
       some (.inl (x_p.Args, ([] : List Int)))
      else
       some (.inr ([] : List Int))
  ) : Option (((List GPattern) × (List Int)) ⊕ ((List Int)))).bind fun s3 =>
  match s3 with
  | .inl y11 =>
   (loopN
    (fun (s13 : Int × (List Int)) =>
     (
      if Ar.cmp .lss s13.1 (Ar.len y11.1) = true then
       (idxL y11.1 s13.1).bind fun x16 =>
       (law22_open N n x16).bind fun r17 =>
       (appL s13.2 r17).bind fun l19 =>
       some (.inl (Ar.ar .add .i64 s13.1 1, l19))
      else
       some (.inr s13.2)
      : Option ((Int × (List Int)) ⊕ (((List Int))))))
    N (0, y11.2)).bind fun s15 =>
   some s15
  | .inr y21 =>
   some y21
def law22_DerivativeNests (N : Nat) (x_p : GPattern) : Option Bool :=
 (ref09_Small N x_p).bind fun r1 =>
 if Ar.nt r1 = true then
  (law22_awake N).bind fun r2 =>
  some r2
 else
  (pattern_Check N x_p).bind fun r3 =>
  if Ar.cmp .neq r3 0 = true then
   (law22_awake N).bind fun r4 =>
   some r4
  else
   (derivative_Residuals N x_p).bind fun r5 =>
   if Ar.or (Ar.cmp .neq r5.2 0) (Ar.cmp .gtr (Ar.len r5.1) 60) = true then
    if Ar.or (Ar.cmp .eql r5.2 0) (Ar.cmp .eql r5.2 17) = true then
     (law22_awake N).bind fun r6 =>
     some r6
    else
     some false
   else
    (loopN
     (fun (s7 : Int) =>
      (
       if Ar.cmp .lss s7 (Ar.len r5.1) = true then
        (idxL r5.1 s7).bind fun x9 =>
        (law22_open N N x9).bind fun r10 =>
        (derivative_Derive N x9).bind fun r11 =>
        (derivative_Guards N x9).bind fun r12 =>
        if Ar.or (Ar.cmp .neq r11.2.2 0) (Ar.cmp .neq r12.2 0) = true then
         some (.inr (.inr ()))
        else
         (slices_ContainsFunc_LGuard_Guard N r12.1 (fun y1 => law22_DerivativeNests_1 N y1 r10)).bind fun r13 =>
         if r13 = true then
          some (.inr (.inr ()))
         else
          (loopN
           (fun (s14 : Int) =>
            (
             if Ar.cmp .lss s14 (Ar.len r11.1) = true then
              (idxL r11.1 s14).bind fun x16 =>
              ((
               (slices_Clone_Lint_int N r10).bind fun l18 =>
               (appL l18 x16.Opens).bind fun l21 =>
               some l21
              ) : Option (((List Int)))).bind fun s17 =>
              (loopN
               (fun (s23 : Int × (List Int)) =>
                (
                 if Ar.cmp .lss s23.1 (Ar.len x16.Closes) = true then
                  (idxL x16.Closes s23.1).bind fun x26 =>
                  (slices_Index_Lint_int N s23.2 x26).bind fun r27 =>
                  if Ar.cmp .lss r27 0 = true then
                   some (.inr (.inr s23.2))
                  else
                   (slices_Delete_Lint_int N s23.2 r27 (Ar.ar .add .i64 r27 1)).bind fun l28 =>
                   some (.inl (Ar.ar .add .i64 s23.1 1, l28))
                 else
                  some (.inr (.inl s23.2))
                 : Option ((Int × (List Int)) ⊕ (((List Int)) ⊕ ((List Int))))))
               N (0, s17)).bind fun s25 =>
              match s25 with
              | .inl y30 =>
               ((
                if Ar.an (Ar.cmp .geq x16.To 0) (Ar.cmp .lss x16.To (Ar.len r11.2.1)) = true then
                 (idxL r11.2.1 x16.To).bind fun x34 =>
                 (law22_open_o N N x34).bind fun l35 =>
                 some l35
                else
                 some ([] : List Int)
               ) : Option (((List Int)))).bind fun s33 =>
               (slices_Sort_Lint_int N y30).bind fun l38 =>
               (slices_Sort_Lint_int N s33).bind fun l39 =>
               (slices_Equal_Lint_int N l38 l39).bind fun r40 =>
               if Ar.nt r40 = true then
                some (.inr (.inr ()))
               else
                ((
                 (slices_Clone_Lint_int N x16.Opens).bind fun l42 =>
                 (appL l42 x16.Closes).bind fun l45 =>
                 some (Ar.len l45, l45)
                ) : Option ((Int × (List Int)))).bind fun s41 =>
                (loopN
                 (fun (s47 : Int) =>
                  (
                   if Ar.cmp .lss s47 s41.1 = true then
                    (req (inR s41.2 s47)).bind fun _ =>
                    (idxL s41.2 s47).bind fun x49 =>
                    (slices_Contains_Lint_int N x16.Inside x49).bind fun r50 =>
                    if Ar.nt r50 = true then
                     (slices_ContainsFunc_LLimit_Limit N x16.Limits (fun y1 => law22_DerivativeNests_2 N y1 x49)).bind fun r51 =>
                     if Ar.nt r51 = true then
                      some (.inr (.inr ()))
                     else
                      some (.inl (Ar.ar .add .i64 s47 1))
                    else
                     some (.inl (Ar.ar .add .i64 s47 1))
                   else
                    some (.inr (.inl ()))
                   : Option ((Int) ⊕ (Unit ⊕ Unit))))
                 N 0).bind fun s48 =>
                match s48 with
                | .inl y52 =>
                 some (.inl (Ar.ar .add .i64 s14 1))
                | .inr y53 =>
                 some (.inr (.inr ()))
              | .inr y54 =>
               some (.inr (.inr ()))
             else
              some (.inr (.inl ()))
             : Option ((Int) ⊕ (Unit ⊕ Unit))))
           N 0).bind fun s15 =>
          match s15 with
          | .inl y56 =>
           some (.inl (Ar.ar .add .i64 s7 1))
          | .inr y57 =>
           some (.inr (.inr ()))
       else
        some (.inr (.inl ()))
       : Option ((Int) ⊕ (Unit ⊕ Unit))))
     N 0).bind fun s8 =>
    match s8 with
    | .inl y58 =>
     (law22_awake N).bind fun r59 =>
     some r59
    | .inr y60 =>
     some false
end Go.Ab

