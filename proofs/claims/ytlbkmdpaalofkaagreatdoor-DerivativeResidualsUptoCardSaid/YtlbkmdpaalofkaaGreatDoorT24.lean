/- GZSp -/
import Derived.Test.YtlbkmdpaalofkaaGreatDoorT23
set_option linter.all false

namespace Go.Ab
variable [Ar]
def ref09_Total (N : Nat) : Nat → GPattern → Int → Option Int
 | 0, _, _ => none
 | n + 1, x_p, x_limit =>
  (loopN
   (fun (s1 : Int × Int) =>
    (
     if Ar.an (Ar.cmp .lss s1.2 (Ar.len x_p.Args)) (Ar.cmp .leq s1.1 x_limit) = true then
      (idxL x_p.Args s1.2).bind fun x3 =>
      (ref09_Total N n x3 x_limit).bind fun r4 =>
      some (.inl (Ar.ar .add .i64 s1.1 r4, Ar.ar .add .i64 s1.2 1))
     else
      some (.inr s1.1)
     : Option ((Int × Int) ⊕ (Int))))
   N (1, 0)).bind fun s2 =>
  some s2
def ref09_Depth (N : Nat) : Nat → GPattern → Option Int
 | 0, _ => none
 | n + 1, x_p =>
  (loopN
   (fun (s1 : Int × Int) =>
    (
     if Ar.cmp .lss s1.2 (Ar.len x_p.Args) = true then
      (idxL x_p.Args s1.2).bind fun x3 =>
      (ref09_Depth N n x3).bind fun r4 =>
      some (.inl (Ar.mx s1.1 r4, Ar.ar .add .i64 s1.2 1))
     else
      some (.inr s1.1)
     : Option ((Int × Int) ⊕ (Int))))
   N (0, 0)).bind fun s2 =>
  some (Ar.ar .add .i64 s2 1)
def ref09_Nodes (N : Nat) : Nat → GPattern → Option (List GPattern)
 | 0, _ => none
 | n + 1, x_p =>
  (loopN
   (fun (s1 : (List GPattern) × Int) =>
    (
     if Ar.cmp .lss s1.2 (Ar.len x_p.Args) = true then
      (idxL x_p.Args s1.2).bind fun x4 =>
      (ref09_Nodes N n x4).bind fun r5 =>
      (appL s1.1 r5).bind fun l7 =>
      some (.inl (l7, Ar.ar .add .i64 s1.2 1))
     else
      some (.inr s1.1)
     : Option (((List GPattern) × Int) ⊕ (((List GPattern))))))
   N ([x_p], 0)).bind fun s3 =>
  some s3
def ref08_Count (N : Nat) : Nat → GExpr → Int → Option Int
 | 0, _, _ => none
 | n + 1, x_e, x_limit =>
  (loopN
   (fun (s1 : Int × Int) =>
    (
     if Ar.an (Ar.cmp .lss s1.2 (Ar.len x_e.Args)) (Ar.cmp .leq s1.1 x_limit) = true then
      (idxL x_e.Args s1.2).bind fun x3 =>
      (ref08_Count N n x3 x_limit).bind fun r4 =>
      some (.inl (Ar.ar .add .i64 s1.1 r4, Ar.ar .add .i64 s1.2 1))
     else
      some (.inr s1.1)
     : Option ((Int × Int) ⊕ (Int))))
   N (1, 0)).bind fun s2 =>
  some s2
def ref08_Depth (N : Nat) : Nat → GExpr → Option Int
 | 0, _ => none
 | n + 1, x_e =>
  (loopN
   (fun (s1 : Int × Int) =>
    (
     if Ar.cmp .lss s1.2 (Ar.len x_e.Args) = true then
      (idxL x_e.Args s1.2).bind fun x3 =>
      (ref08_Depth N n x3).bind fun r4 =>
      some (.inl (Ar.mx s1.1 r4, Ar.ar .add .i64 s1.2 1))
     else
      some (.inr s1.1)
     : Option ((Int × Int) ⊕ (Int))))
   N (0, 0)).bind fun s2 =>
  some (Ar.ar .add .i64 s2 1)
def ref08_Few (N : Nat) (x_e : GExpr) : Option Bool :=
 (ref08_Count N N x_e 200).bind fun r1 =>
 if Ar.cmp .leq r1 200 = true then
  (ref08_Depth N N x_e).bind fun r2 =>
  some (Ar.cmp .leq r2 100)
 else
  some false
def ref09_Few (N : Nat) (x_p : GPattern) : Option Bool :=
 (ref09_Total N N x_p 150).bind fun r1 =>
 if Ar.cmp .gtr r1 150 = true then
  some false
 else
  (ref09_Depth N N x_p).bind fun r2 =>
  if Ar.cmp .gtr r2 60 = true then
   some false
  else
   (ref09_Nodes N N x_p).bind fun r3 =>
   (loopN
    (fun (s4 : Int) =>
     (
      if Ar.cmp .lss s4 (Ar.len r3) = true then
       (idxL r3 s4).bind fun x6 =>
       (ref08_Few N x6.Cond).bind fun r7 =>
       if Ar.nt r7 = true then
        some (.inr (.inr ()))
       else
        some (.inl (Ar.ar .add .i64 s4 1))
      else
       some (.inr (.inl ()))
      : Option ((Int) ⊕ (Unit ⊕ Unit))))
    N 0).bind fun s5 =>
   match s5 with
   | .inl y8 =>
    some true
   | .inr y9 =>
    some false
def ref09_arity (N : Nat) (x_p : GPattern) : Option Bool :=
 if Ar.cmp .eql x_p.Op 0 = true then
  some (Ar.cmp .eql (Ar.len x_p.Args) 0)
 else
  ((
   if Ar.cmp .eql x_p.Op 1 = true then
    some true
   else
    if Ar.cmp .eql x_p.Op 2 = true then
     some true
    else
     some (Ar.cmp .eql x_p.Op 3)
  ) : Option (Bool)).bind fun s1 =>
  if s1 = true then
   some (Ar.cmp .geq (Ar.len x_p.Args) 2)
  else
   if Ar.cmp .eql x_p.Op 8 = true then
    some (Ar.cmp .eql (Ar.len x_p.Args) 2)
   else
    some (Ar.cmp .eql (Ar.len x_p.Args) 1)
def ref09_Negates (N : Nat) (x_p : GPattern) : Option Bool :=
 some (Ar.or (Ar.cmp .eql x_p.Op 5) (Ar.cmp .eql x_p.Op 9))
def ref09_variable (N : Nat) (x_p : GPattern) : Option Bool :=
 if Ar.cmp .eql x_p.Op 0 = true then
  some true
 else
  (ref09_Negates N x_p).bind fun r1 =>
  some r1
def ref09_Times (N : Nat) (x_p : GPattern) : Option Bool :=
 some (Ar.or (Ar.cmp .eql x_p.Op 6) (Ar.cmp .eql x_p.Op 10))
def ref09_condition (N : Nat) (x_p : GPattern) : Option Bool :=
 (ref09_variable N x_p).bind fun r1 =>
 some (Ar.or r1 (Ar.cmp .eql x_p.Op 7))
def ref09_bad (N : Nat) (x_used : Bool) (x_n : Int) (x_most : Int) : Option Bool :=
 some (Ar.an x_used (Ar.or (Ar.cmp .lss x_n 0) (Ar.cmp .gtr x_n x_most)))
def ref08_arity (N : Nat) (x_op : Int) : Option Int :=
 ((
  if Ar.cmp .eql x_op 0 = true then
   some true
  else
   if Ar.cmp .eql x_op 1 = true then
    some true
   else
    if Ar.cmp .eql x_op 2 = true then
     some true
    else
     if Ar.cmp .eql x_op 3 = true then
      some true
     else
      some (Ar.cmp .eql x_op 4)
 ) : Option (Bool)).bind fun s1 =>
 if s1 = true then
  some 0
 else
  if Ar.cmp .eql x_op 12 = true then
   some 1
  else
   if Ar.cmp .eql x_op 5 = true then
    some 2
   else
    if Ar.cmp .eql x_op 6 = true then
     some 2
    else
     if Ar.cmp .eql x_op 7 = true then
      some 2
     else
      if Ar.cmp .eql x_op 8 = true then
       some 2
      else
       if Ar.cmp .eql x_op 9 = true then
        some 2
       else
        if Ar.cmp .eql x_op 10 = true then
         some 2
        else
         if Ar.cmp .eql x_op 11 = true then
          some 2
         else
          some (-1)
def ref08_uses (N : Nat) (x_op : Int) : Option (Bool × Bool) :=
 some (Ar.or (Ar.or (Ar.or (Ar.cmp .eql x_op 1) (Ar.cmp .eql x_op 4)) (Ar.cmp .eql x_op 2)) (Ar.cmp .eql x_op 3), Ar.or (Ar.cmp .eql x_op 1) (Ar.cmp .eql x_op 4))
def ref01_Check (N : Nat) (x_v : GValue) : Option Int :=
 if Ar.or (Ar.cmp .lss x_v.Kind 0) (Ar.cmp .gtr x_v.Kind 2) = true then
  some 1
 else
  if Ar.cmp .eql x_v.Kind 2 = true then
   if Ar.cmp .neq x_v.Num 0 = true then
    some 3
   else
    if Ar.cmp .gtr (Ar.slen x_v.Text) 64 = true then
     some 13
    else
     some 0
  else
   if Ar.scmp .neq x_v.Text (⟨#[]⟩ : ByteArray) = true then
    some 3
   else
    if Ar.or (Ar.or (Ar.an (Ar.cmp .eql x_v.Kind 1) (Ar.or (Ar.cmp .lss x_v.Num 0) (Ar.cmp .gtr x_v.Num 1))) (Ar.cmp .lss x_v.Num (-1099511627776))) (Ar.cmp .gtr x_v.Num 1099511627776) = true then
     some 2
    else
     some 0
def ref07_Suits (N : Nat) (x_k : Int) (x_v : GValue) : Option Bool :=
 some (Ar.or (Ar.or (Ar.or (Ar.cmp .eql x_v.Kind 0) (Ar.cmp .eql x_k 0)) (Ar.cmp .eql x_k 4)) (Ar.cmp .eql x_k 5))
def ref08_node (N : Nat) (x_e : GExpr) : Option Int :=
 (ref08_arity N x_e.Op).bind fun r1 =>
 if Ar.cmp .lss r1 0 = true then
  some 1
 else
  if Ar.cmp .neq (Ar.len x_e.Args) r1 = true then
   some 15
  else
   (ref08_uses N x_e.Op).bind fun r2 =>
   if Ar.or (Ar.an r2.1 (Ar.or (Ar.cmp .lss x_e.Var 0) (Ar.cmp .geq x_e.Var 16))) (Ar.an r2.2 (Ar.or (Ar.cmp .lss x_e.Field 0) (Ar.cmp .geq x_e.Field 8))) = true then
    some 2
   else
    if Ar.an (Ar.cmp .eql x_e.Op 4) (Ar.or (Ar.cmp .lss x_e.Kind 1) (Ar.cmp .gtr x_e.Kind 5)) = true then
     some 1
    else
     ((
      if Ar.or (Ar.cmp .eql x_e.Op 4) (Ar.cmp .eql x_e.Op 0) = true then
       (ref01_Check N x_e.Value).bind fun r4 =>
       if Ar.cmp .neq r4 0 = true then
        some (.inr r4)
       else
        some (.inl ())
      else
       some (.inl ())
     ) : Option (Unit ⊕ Int)).bind fun s3 =>
     match s3 with
     | .inl y5 =>
      if Ar.cmp .eql x_e.Op 4 = true then
       (ref07_Suits N x_e.Kind x_e.Value).bind fun r6 =>
       if Ar.or (Ar.nt r6) (Ar.an (Ar.cmp .eql x_e.Kind 1) (Ar.nt (Ar.an (Ar.cmp .eql x_e.Value.Kind 0) (Ar.an (Ar.cmp .eql x_e.Value.Num 0) (Ar.an (Ar.scmp .eql x_e.Value.Text (⟨#[]⟩)) true))))) = true then
        some 9
       else
        if Ar.or (Ar.or (Ar.or (Ar.an (Ar.nt r2.1) (Ar.cmp .neq x_e.Var 0)) (Ar.an (Ar.nt r2.2) (Ar.cmp .neq x_e.Field 0))) (Ar.an (Ar.nt (Ar.cmp .eql x_e.Op 4)) (Ar.cmp .neq x_e.Kind 0))) (Ar.an (Ar.nt (Ar.or (Ar.cmp .eql x_e.Op 4) (Ar.cmp .eql x_e.Op 0))) (Ar.nt (Ar.an (Ar.cmp .eql x_e.Value.Kind 0) (Ar.an (Ar.cmp .eql x_e.Value.Num 0) (Ar.an (Ar.scmp .eql x_e.Value.Text (⟨#[]⟩)) true))))) = true then
         some 3
        else
         some 0
      else
       if Ar.or (Ar.or (Ar.or (Ar.an (Ar.nt r2.1) (Ar.cmp .neq x_e.Var 0)) (Ar.an (Ar.nt r2.2) (Ar.cmp .neq x_e.Field 0))) (Ar.an (Ar.nt (Ar.cmp .eql x_e.Op 4)) (Ar.cmp .neq x_e.Kind 0))) (Ar.an (Ar.nt (Ar.or (Ar.cmp .eql x_e.Op 4) (Ar.cmp .eql x_e.Op 0))) (Ar.nt (Ar.an (Ar.cmp .eql x_e.Value.Kind 0) (Ar.an (Ar.cmp .eql x_e.Value.Num 0) (Ar.an (Ar.scmp .eql x_e.Value.Text (⟨#[]⟩)) true))))) = true then
        some 3
       else
        some 0
     | .inr y7 =>
      some y7
def ref08_nodes (N : Nat) : Nat → GExpr → Option Int
 | 0, _ => none
 | n + 1, x_e =>
  (ref08_node N x_e).bind fun r1 =>
  if Ar.cmp .neq r1 0 = true then
   some r1
  else
   (loopN
    (fun (s2 : Int) =>
     (
      if Ar.cmp .lss s2 (Ar.len x_e.Args) = true then
       (idxL x_e.Args s2).bind fun x4 =>
       (ref08_nodes N n x4).bind fun r5 =>
       if Ar.cmp .neq r5 0 = true then
        some (.inr (.inr r5))
       else
        some (.inl (Ar.ar .add .i64 s2 1))
      else
       some (.inr (.inl ()))
      : Option ((Int) ⊕ (Unit ⊕ Int))))
    N 0).bind fun s3 =>
   match s3 with
   | .inl y6 =>
    some 0
   | .inr y7 =>
    some y7
def ref08_Check (N : Nat) (x_e : GExpr) : Option Int :=
 (ref08_Count N N x_e 64).bind fun r1 =>
 if Ar.cmp .gtr r1 64 = true then
  some 5
 else
  (ref08_Depth N N x_e).bind fun r2 =>
  if Ar.cmp .gtr r2 12 = true then
   some 12
  else
   (ref08_nodes N N x_e).bind fun r3 =>
   some r3
def ref08_Same (N : Nat) : Nat → GExpr → GExpr → Option Bool
 | 0, _, _ => none
 | n + 1, x_a, x_b =>
  if Ar.or (Ar.or (Ar.or (Ar.or (Ar.or (Ar.cmp .neq x_a.Op x_b.Op) (Ar.cmp .neq x_a.Var x_b.Var)) (Ar.cmp .neq x_a.Field x_b.Field)) (Ar.cmp .neq x_a.Kind x_b.Kind)) (Ar.nt (Ar.an (Ar.cmp .eql x_a.Value.Kind x_b.Value.Kind) (Ar.an (Ar.cmp .eql x_a.Value.Num x_b.Value.Num) (Ar.an (Ar.scmp .eql x_a.Value.Text x_b.Value.Text) true))))) (Ar.cmp .neq (Ar.len x_a.Args) (Ar.len x_b.Args)) = true then
   some false
  else
   (loopN
    (fun (s1 : Int) =>
     (
      if Ar.cmp .lss s1 (Ar.len x_a.Args) = true then
       (idxL x_a.Args s1).bind fun x3 =>
       (idxL x_b.Args s1).bind fun x4 =>
       (ref08_Same N n x3 x4).bind fun r5 =>
       if Ar.nt r5 = true then
        some (.inr (.inr ()))
       else
        some (.inl (Ar.ar .add .i64 s1 1))
      else
       some (.inr (.inl ()))
      : Option ((Int) ⊕ (Unit ⊕ Unit))))
    N 0).bind fun s2 =>
   match s2 with
   | .inl y6 =>
    some true
   | .inr y7 =>
    some false
def ref09_node (N : Nat) (x_p : GPattern) : Option Int :=
 if Ar.or (Ar.cmp .lss x_p.Op 0) (Ar.cmp .gtr x_p.Op 10) = true then
  some 1
 else
  (ref09_arity N x_p).bind fun r1 =>
  if Ar.nt r1 = true then
   some 15
  else
   (ref09_variable N x_p).bind fun r2 =>
   (ref09_Negates N x_p).bind fun r3 =>
   if r3 = true then
    (ref09_condition N x_p).bind fun r4 =>
    (ref09_bad N r2 x_p.Typ 15).bind fun r5 =>
    if r5 = true then
     some 2
    else
     (ref09_bad N r2 x_p.Var 15).bind fun r6 =>
     if r6 = true then
      some 2
     else
      (ref09_bad N true x_p.Scope 63).bind fun r7 =>
      if r7 = true then
       some 2
      else
       (ref09_Times N x_p).bind fun r8 =>
       (ref09_bad N r8 x_p.Span 1099511627776).bind fun r9 =>
       if r9 = true then
        some 2
       else
        ((
         if r4 = true then
          (ref08_Check N x_p.Cond).bind fun r11 =>
          if Ar.cmp .neq r11 0 = true then
           some (.inr r11)
          else
           some (.inl ())
         else
          some (.inl ())
        ) : Option (Unit ⊕ Int)).bind fun s10 =>
        match s10 with
        | .inl y12 =>
         if Ar.or (Ar.an (Ar.nt r2) (Ar.or (Ar.cmp .neq x_p.Typ 0) (Ar.cmp .neq x_p.Var 0))) (Ar.an (Ar.nt true) (Ar.cmp .neq x_p.Scope 0)) = true then
          some 3
         else
          (ref09_Times N x_p).bind fun r13 =>
          if Ar.an (Ar.nt r13) (Ar.cmp .neq x_p.Span 0) = true then
           some 3
          else
           if Ar.nt r4 = true then
            (ref08_Same N N x_p.Cond (⟨0, [], 0, 0, 0, (⟨0, 0, ⟨#[]⟩⟩ : GValue)⟩ : GExpr)).bind fun r14 =>
            if Ar.nt r14 = true then
             some 3
            else
             some 0
           else
            some 0
        | .inr y15 =>
         some y15
   else
    (ref09_Times N x_p).bind fun r16 =>
    (ref09_condition N x_p).bind fun r17 =>
    (ref09_bad N r2 x_p.Typ 15).bind fun r18 =>
    if r18 = true then
     some 2
    else
     (ref09_bad N r2 x_p.Var 15).bind fun r19 =>
     if r19 = true then
      some 2
     else
      (ref09_bad N r16 x_p.Scope 63).bind fun r20 =>
      if r20 = true then
       some 2
      else
       (ref09_Times N x_p).bind fun r21 =>
       (ref09_bad N r21 x_p.Span 1099511627776).bind fun r22 =>
       if r22 = true then
        some 2
       else
        ((
         if r17 = true then
          (ref08_Check N x_p.Cond).bind fun r24 =>
          if Ar.cmp .neq r24 0 = true then
           some (.inr r24)
          else
           some (.inl ())
         else
          some (.inl ())
        ) : Option (Unit ⊕ Int)).bind fun s23 =>
        match s23 with
        | .inl y25 =>
         if Ar.or (Ar.an (Ar.nt r2) (Ar.or (Ar.cmp .neq x_p.Typ 0) (Ar.cmp .neq x_p.Var 0))) (Ar.an (Ar.nt r16) (Ar.cmp .neq x_p.Scope 0)) = true then
          some 3
         else
          (ref09_Times N x_p).bind fun r26 =>
          if Ar.an (Ar.nt r26) (Ar.cmp .neq x_p.Span 0) = true then
           some 3
          else
           if Ar.nt r17 = true then
            (ref08_Same N N x_p.Cond (⟨0, [], 0, 0, 0, (⟨0, 0, ⟨#[]⟩⟩ : GValue)⟩ : GExpr)).bind fun r27 =>
            if Ar.nt r27 = true then
             some 3
            else
             some 0
           else
            some 0
        | .inr y28 =>
         some y28
def ref09_CheckRest (N : Nat) (x_p : GPattern) : Option Int :=
 (ref09_Total N N x_p 64).bind fun r1 =>
 if Ar.cmp .gtr r1 64 = true then
  some 5
 else
  (ref09_Depth N N x_p).bind fun r2 =>
  if Ar.cmp .gtr r2 12 = true then
   some 12
  else
   (ref09_Nodes N N x_p).bind fun r3 =>
   (loopN
    (fun (s4 : Int) =>
     (
      if Ar.cmp .lss s4 (Ar.len r3) = true then
       (idxL r3 s4).bind fun x6 =>
       (ref09_node N x6).bind fun r7 =>
       if Ar.cmp .neq r7 0 = true then
        some (.inr (.inr r7))
       else
        some (.inl (Ar.ar .add .i64 s4 1))
      else
       some (.inr (.inl ()))
      : Option ((Int) ⊕ (Unit ⊕ Int))))
    N 0).bind fun s5 =>
   match s5 with
   | .inl y8 =>
    some 0
   | .inr y9 =>
    some y9
def ref09_Small (N : Nat) (x_p : GPattern) : Option Bool :=
 (ref09_Total N N x_p 9).bind fun r1 =>
 if Ar.cmp .gtr r1 9 = true then
  some false
 else
  (ref09_Nodes N N x_p).bind fun r2 =>
  (loopN
   (fun (s3 : Int) =>
    (
     if Ar.cmp .lss s3 (Ar.len r2) = true then
      (idxL r2 s3).bind fun x5 =>
      (ref08_Count N N x5.Cond 20).bind fun r6 =>
      if Ar.cmp .gtr r6 20 = true then
       some (.inr (.inr ()))
      else
       some (.inl (Ar.ar .add .i64 s3 1))
     else
      some (.inr (.inl ()))
     : Option ((Int) ⊕ (Unit ⊕ Unit))))
   N 0).bind fun s4 =>
  match s4 with
  | .inl y7 =>
   some true
  | .inr y8 =>
   some false
def pattern_Size (N : Nat) : Nat → GPattern → Option (Int × Int)
 | 0, _ => none
 | n + 1, x_p =>
  (loopN
   (fun (s1 : Int × Int × Int) =>
    (
     if Ar.cmp .lss s1.2.2 (Ar.len x_p.Args) = true then
      (idxL x_p.Args s1.2.2).bind fun x3 =>
      (pattern_Size N n x3).bind fun r4 =>
      some (.inl (Ar.ar .add .i64 s1.1 r4.1, Ar.mx s1.2.1 r4.2, Ar.ar .add .i64 s1.2.2 1))
     else
      some (.inr (s1.1, s1.2.1))
     : Option ((Int × Int × Int) ⊕ ((Int × Int)))))
   N (1, 0, 0)).bind fun s2 =>
  some (s2.1, Ar.ar .add .i64 s2.2 1)
def pattern_walk (N : Nat) : Nat → GPattern → Option (List GPattern)
 | 0, _ => none
 | n + 1, x_p =>
  ((
   thenE (some ([x_p], ())) fun _ =>
   thenE (loopE
    (fun (s2 : Int) =>
     (
      if Ar.cmp .lss s2 (Ar.len x_p.Args) = true then
       (idxL x_p.Args s2).bind fun x8 =>
       (pattern_walk N n x8).bind fun l9 => thenE (some (l9, ())) fun _ =>
       some ([], .inl (Ar.ar .add .i64 s2 1))
      else
       some ([], .inr ())
      : Option (List GPattern × ((Int) ⊕ (Unit)))))
    N 0) fun s7 =>
   some ([], ())
  ) : Option (List GPattern × Unit)).bind fun q => some q.1
def pattern_preorder_1 (N : Nat) (x_1 : GPattern) : Option (List GPattern) :=
 ((
  (pattern_walk N N x_1).bind fun l1 => thenE (some (l1, ())) fun _ =>
  some ([], ())
 ) : Option (List GPattern × Unit)).bind fun q => some q.1
def pattern_preorder (N : Nat) (x_p : GPattern) : Option (List GPattern) :=
 pattern_preorder_1 N x_p
def pattern_within (N : Nat) (x_used : Bool) (x_n : Int) (x_most : Int) : Option Bool :=
 some (Ar.or (Ar.nt x_used) (Ar.an (Ar.cmp .geq x_n 0) (Ar.cmp .leq x_n x_most)))
def expr_Size (N : Nat) : Nat → GExpr → Option (Int × Int)
 | 0, _ => none
 | n + 1, x_e =>
  (loopN
   (fun (s1 : Int × Int × Int) =>
    (
     if Ar.cmp .lss s1.2.2 (Ar.len x_e.Args) = true then
      (idxL x_e.Args s1.2.2).bind fun x3 =>
      (expr_Size N n x3).bind fun r4 =>
      some (.inl (Ar.ar .add .i64 s1.1 r4.1, Ar.mx s1.2.1 r4.2, Ar.ar .add .i64 s1.2.2 1))
     else
      some (.inr (s1.1, s1.2.1))
     : Option ((Int × Int × Int) ⊕ ((Int × Int)))))
   N (1, 0, 0)).bind fun s2 =>
  some (s2.1, Ar.ar .add .i64 s2.2 1)
def expr_visit (N : Nat) : Nat → GExpr → (GExpr → Option Int) → Option Int
 | 0, _, _ => none
 | n + 1, x_e, x_f =>
  (x_f x_e).bind fun r1 =>
  if Ar.cmp .neq r1 0 = true then
   some r1
  else
   (loopN
    (fun (s2 : Int) =>
     (
      if Ar.cmp .lss s2 (Ar.len x_e.Args) = true then
       (idxL x_e.Args s2).bind fun x4 =>
       (expr_visit N n x4 x_f).bind fun r5 =>
       if Ar.cmp .neq r5 0 = true then
        some (.inr (.inr r5))
       else
        some (.inl (Ar.ar .add .i64 s2 1))
      else
       some (.inr (.inl ()))
      : Option ((Int) ⊕ (Unit ⊕ Int))))
    N 0).bind fun s3 =>
   match s3 with
   | .inl y6 =>
    some 0
   | .inr y7 =>
    some y7
def expr_arity (N : Nat) (x_op : Int) : Option (Int × Bool) :=
 if Ar.or (Ar.cmp .lss x_op 0) (Ar.cmp .gtr x_op 12) = true then
  some (0, false)
 else
  if Ar.cmp .lss x_op 5 = true then
   some (0, true)
  else
   if Ar.cmp .eql x_op 12 = true then
    some (1, true)
   else
    some (2, true)
def expr_uses (N : Nat) (x_op : Int) : Option (Bool × Bool) :=
 ((
  if Ar.cmp .eql x_op 1 = true then
   some true
  else
   some (Ar.cmp .eql x_op 4)
 ) : Option (Bool)).bind fun s1 =>
 if s1 = true then
  some (true, true)
 else
  if Ar.cmp .eql x_op 2 = true then
   some (true, false)
  else
   if Ar.cmp .eql x_op 3 = true then
    some (true, false)
   else
    some (false, false)
def value_size (N : Nat) (x_v : GValue) : Option Int :=
 if Ar.an (Ar.cmp .eql x_v.Kind 0) (Ar.or (Ar.cmp .lss x_v.Num (-1099511627776)) (Ar.cmp .gtr x_v.Num 1099511627776)) = true then
  some 2
 else
  if Ar.an (Ar.an (Ar.cmp .eql x_v.Kind 1) (Ar.cmp .neq x_v.Num 0)) (Ar.cmp .neq x_v.Num 1) = true then
   some 2
  else
   if Ar.cmp .gtr (Ar.slen x_v.Text) 64 = true then
    some 13
   else
    some 0
def value_Check (N : Nat) (x_v : GValue) : Option Int :=
 ((
  if Ar.cmp .eql x_v.Kind 0 = true then
   some true
  else
   some (Ar.cmp .eql x_v.Kind 1)
 ) : Option (Bool)).bind fun s1 =>
 if s1 = true then
  if Ar.scmp .neq x_v.Text (⟨#[]⟩ : ByteArray) = true then
   some 3
  else
   (value_size N x_v).bind fun r2 =>
   some r2
 else
  if Ar.cmp .eql x_v.Kind 2 = true then
   if Ar.cmp .neq x_v.Num 0 = true then
    some 3
   else
    (value_size N x_v).bind fun r3 =>
    some r3
  else
   some 1
def expr_suits (N : Nat) (x_kind : Int) (x_v : GValue) : Option Bool :=
 some (Ar.or (Ar.or (Ar.cmp .eql x_v.Kind 0) (Ar.cmp .eql x_kind 4)) (Ar.cmp .eql x_kind 5))
def expr_constants (N : Nat) (x_e : GExpr) : Option Int :=
 (value_Check N x_e.Value).bind fun r1 =>
 if Ar.cmp .neq r1 0 = true then
  some r1
 else
  if Ar.cmp .eql x_e.Op 4 = true then
   (expr_suits N x_e.Kind x_e.Value).bind fun r2 =>
   if Ar.or (Ar.nt r2) (Ar.an (Ar.cmp .eql x_e.Kind 1) (Ar.nt (Ar.an (Ar.cmp .eql x_e.Value.Kind 0) (Ar.an (Ar.cmp .eql x_e.Value.Num 0) (Ar.an (Ar.scmp .eql x_e.Value.Text (⟨#[]⟩)) true))))) = true then
    some 9
   else
    some 0
  else
   some 0
def expr_node (N : Nat) (x_e : GExpr) : Option Int :=
 (expr_arity N x_e.Op).bind fun r1 =>
 if Ar.nt r1.2 = true then
  some 1
 else
  if Ar.cmp .neq (Ar.len x_e.Args) r1.1 = true then
   some 15
  else
   (expr_uses N x_e.Op).bind fun r2 =>
   if Ar.or (Ar.an r2.1 (Ar.or (Ar.cmp .lss x_e.Var 0) (Ar.cmp .geq x_e.Var 16))) (Ar.an r2.2 (Ar.or (Ar.cmp .lss x_e.Field 0) (Ar.cmp .geq x_e.Field 8))) = true then
    some 2
   else
    if Ar.an (Ar.cmp .eql x_e.Op 4) (Ar.or (Ar.cmp .lss x_e.Kind 1) (Ar.cmp .gtr x_e.Kind 5)) = true then
     some 1
    else
     ((
      if Ar.or (Ar.cmp .eql x_e.Op 4) (Ar.cmp .eql x_e.Op 0) = true then
       (expr_constants N x_e).bind fun r4 =>
       if Ar.cmp .neq r4 0 = true then
        some (.inr r4)
       else
        some (.inl ())
      else
       some (.inl ())
     ) : Option (Unit ⊕ Int)).bind fun s3 =>
     match s3 with
     | .inl y5 =>
      if Ar.or (Ar.or (Ar.or (Ar.an (Ar.nt r2.1) (Ar.cmp .neq x_e.Var 0)) (Ar.an (Ar.nt r2.2) (Ar.cmp .neq x_e.Field 0))) (Ar.an (Ar.nt (Ar.cmp .eql x_e.Op 4)) (Ar.cmp .neq x_e.Kind 0))) (Ar.an (Ar.nt (Ar.or (Ar.cmp .eql x_e.Op 4) (Ar.cmp .eql x_e.Op 0))) (Ar.nt (Ar.an (Ar.cmp .eql x_e.Value.Kind 0) (Ar.an (Ar.cmp .eql x_e.Value.Num 0) (Ar.an (Ar.scmp .eql x_e.Value.Text (⟨#[]⟩)) true))))) = true then
       some 3
      else
       some 0
     | .inr y6 =>
      some y6
def expr_Check (N : Nat) (x_e : GExpr) : Option Int :=
 (expr_Size N N x_e).bind fun r1 =>
 if Ar.cmp .gtr r1.1 64 = true then
  some 5
 else
  if Ar.cmp .gtr r1.2 12 = true then
   some 12
  else
   (expr_visit N N x_e (fun y1 => expr_node N y1)).bind fun r2 =>
   some r2
def expr_Same (N : Nat) : Nat → GExpr → GExpr → Option Bool
 | 0, _, _ => none
 | n + 1, x_a, x_b =>
  if Ar.or (Ar.or (Ar.or (Ar.or (Ar.or (Ar.cmp .neq x_a.Op x_b.Op) (Ar.cmp .neq x_a.Var x_b.Var)) (Ar.cmp .neq x_a.Field x_b.Field)) (Ar.cmp .neq x_a.Kind x_b.Kind)) (Ar.nt (Ar.an (Ar.cmp .eql x_a.Value.Kind x_b.Value.Kind) (Ar.an (Ar.cmp .eql x_a.Value.Num x_b.Value.Num) (Ar.an (Ar.scmp .eql x_a.Value.Text x_b.Value.Text) true))))) (Ar.cmp .neq (Ar.len x_a.Args) (Ar.len x_b.Args)) = true then
   some false
  else
   (loopN
    (fun (s1 : Int) =>
     (
      if Ar.cmp .lss s1 (Ar.len x_a.Args) = true then
       (idxL x_a.Args s1).bind fun x3 =>
       (idxL x_b.Args s1).bind fun x4 =>
       (expr_Same N n x3 x4).bind fun r5 =>
       if Ar.nt r5 = true then
        some (.inr (.inr ()))
       else
        some (.inl (Ar.ar .add .i64 s1 1))
      else
       some (.inr (.inl ()))
      : Option ((Int) ⊕ (Unit ⊕ Unit))))
    N 0).bind fun s2 =>
   match s2 with
   | .inl y6 =>
    some true
   | .inr y7 =>
    some false
def pattern_unused (N : Nat) (x_used : Bool) (x_n : Int) : Option Bool :=
 some (Ar.or x_used (Ar.cmp .eql x_n 0))
def pattern_check (N : Nat) (x_p : GPattern) : Option Int :=
 if Ar.or (Ar.cmp .lss x_p.Op 0) (Ar.cmp .geq x_p.Op 11) = true then
  some 1
 else
  (idxL tab_pattern_shapes x_p.Op).bind fun x1 =>
  if Ar.or (Ar.cmp .lss (Ar.len x_p.Args) x1.least) (Ar.cmp .gtr (Ar.len x_p.Args) x1.most) = true then
   some 15
  else
   (pattern_within N x1.typed x_p.Typ 15).bind fun r2 =>
   if Ar.nt r2 = true then
    some 2
   else
    (pattern_within N x1.typed x_p.Var 15).bind fun r3 =>
    if Ar.nt r3 = true then
     some 2
    else
     (pattern_within N x1.scope x_p.Scope 63).bind fun r4 =>
     if Ar.nt r4 = true then
      some 2
     else
      (pattern_within N x1.span x_p.Span 1099511627776).bind fun r5 =>
      if Ar.nt r5 = true then
       some 2
      else
       ((
        if x1.cond = true then
         (expr_Check N x_p.Cond).bind fun r7 =>
         if Ar.cmp .neq r7 0 = true then
          some (.inr r7)
         else
          some (.inl ())
        else
         some (.inl ())
       ) : Option (Unit ⊕ Int)).bind fun s6 =>
       match s6 with
       | .inl y8 =>
        if Ar.nt x1.cond = true then
         (expr_Same N N x_p.Cond (⟨0, [], 0, 0, 0, (⟨0, 0, ⟨#[]⟩⟩ : GValue)⟩ : GExpr)).bind fun r9 =>
         if Ar.nt r9 = true then
          some 3
         else
          (pattern_unused N x1.typed x_p.Typ).bind fun r10 =>
          if Ar.nt r10 = true then
           some 3
          else
           (pattern_unused N x1.typed x_p.Var).bind fun r11 =>
           if Ar.nt r11 = true then
            some 3
           else
            (pattern_unused N x1.scope x_p.Scope).bind fun r12 =>
            if Ar.nt r12 = true then
             some 3
            else
             (pattern_unused N x1.span x_p.Span).bind fun r13 =>
             if Ar.nt r13 = true then
              some 3
             else
              some 0
        else
         (pattern_unused N x1.typed x_p.Typ).bind fun r14 =>
         if Ar.nt r14 = true then
          some 3
         else
          (pattern_unused N x1.typed x_p.Var).bind fun r15 =>
          if Ar.nt r15 = true then
           some 3
          else
           (pattern_unused N x1.scope x_p.Scope).bind fun r16 =>
           if Ar.nt r16 = true then
            some 3
           else
            (pattern_unused N x1.span x_p.Span).bind fun r17 =>
            if Ar.nt r17 = true then
             some 3
            else
             some 0
       | .inr y18 =>
        some y18
def pattern_CheckRest (N : Nat) (x_p : GPattern) : Option Int :=
 (pattern_Size N N x_p).bind fun r2 =>
 if Ar.cmp .gtr r2.1 64 = true then
  some 5
 else
  if Ar.cmp .gtr r2.2 12 = true then
   some 12
  else
   (pattern_preorder N x_p).bind fun r3 =>
   (rangeL (fun (s6 : Unit) (y5 : GPattern) =>
    (
     (pattern_check N y5).bind fun r10 =>
     if Ar.cmp .neq r10 0 = true then
      some (.inr r10)
     else
      some (.inl ())
     : Option ((Unit) ⊕ (Int)))
    ) r3 ()).bind fun o9 =>
   match o9 with
   | .inl s13 =>
    some 0
   | .inr y14 =>
    some y14
def slices_IndexFunc_LPattern_Pattern (N : Nat) (x_s : List GPattern) (x_f : GPattern → Option Bool) : Option Int :=
 (loopN
  (fun (s1 : Int) =>
   (
    if Ar.cmp .lss s1 (Ar.len x_s) = true then
     (idxL x_s s1).bind fun x3 =>
     (x_f x3).bind fun r4 =>
     if r4 = true then
      some (.inr (.inr s1))
     else
      some (.inl (Ar.ar .add .i64 s1 1))
    else
     some (.inr (.inl ()))
    : Option ((Int) ⊕ (Unit ⊕ Int))))
  N 0).bind fun s2 =>
 match s2 with
 | .inl y5 =>
  some (-1)
 | .inr y6 =>
  some y6
def slices_EqualFunc_LPattern_LPattern_Pattern_Pattern (N : Nat) (x_s1 : List GPattern) (x_s2 : List GPattern) (x_eq : GPattern → GPattern → Option Bool) : Option Bool :=
 if Ar.cmp .neq (Ar.len x_s1) (Ar.len x_s2) = true then
  some false
 else
  (loopN
   (fun (s1 : Int) =>
    (
     if Ar.cmp .lss s1 (Ar.len x_s1) = true then
      (idxL x_s1 s1).bind fun x3 =>
      (idxL x_s2 s1).bind fun x5 =>
      (x_eq x3 x5).bind fun r6 =>
      if Ar.nt r6 = true then
       some (.inr (.inr ()))
      else
       some (.inl (Ar.ar .add .i64 s1 1))
     else
      some (.inr (.inl ()))
     : Option ((Int) ⊕ (Unit ⊕ Unit))))
   N 0).bind fun s2 =>
  match s2 with
  | .inl y7 =>
   some true
  | .inr y8 =>
   some false
def pattern_Same (N : Nat) : Nat → GPattern → GPattern → Option Bool
 | 0, _, _ => none
 | n + 1, x_a, x_b =>
  if Ar.or (Ar.or (Ar.or (Ar.or (Ar.cmp .neq x_a.Op x_b.Op) (Ar.cmp .neq x_a.Typ x_b.Typ)) (Ar.cmp .neq x_a.Var x_b.Var)) (Ar.cmp .neq x_a.Scope x_b.Scope)) (Ar.cmp .neq x_a.Span x_b.Span) = true then
   some false
  else
   (expr_Same N N x_a.Cond x_b.Cond).bind fun r1 =>
   if Ar.nt r1 = true then
    some false
   else
    (slices_EqualFunc_LPattern_LPattern_Pattern_Pattern N x_a.Args x_b.Args (fun y1 y2 => pattern_Same N n y1 y2)).bind fun r2 =>
    some r2
def derivative_index_1 (N : Nat) (x_q : GPattern) (x_1 : GPattern) : Option Bool :=
 (pattern_Same N N x_1 x_q).bind fun r1 =>
 some r1
def derivative_index (N : Nat) (x_l : List GPattern) (x_p : GPattern) : Option Int :=
 (slices_IndexFunc_LPattern_Pattern N x_l (fun y1 => derivative_index_1 N y1 x_p)).bind fun r1 =>
 some r1
def derivative_pairs_1 (N : Nat) (x_1 : GPattern) : Option (List (GEdge × Gderivative_rest)) :=
 ((
  thenE (some ([((⟨0, 0, x_1.Var, x_1.Typ, x_1.Cond, [], [], [], [], []⟩ : GEdge), (⟨true, (⟨0, [], 0, 0, 0, 0, (⟨0, [], 0, 0, 0, (⟨0, 0, ⟨#[]⟩⟩ : GValue)⟩ : GExpr)⟩ : GPattern)⟩ : Gderivative_rest))], ())) fun _ =>
  some ([], ())
 ) : Option (List (GEdge × Gderivative_rest) × Unit)).bind fun q => some q.1
def slices_Clone_LPattern_Pattern (N : Nat) (x_s : List GPattern) : Option (List GPattern) := (appL [] x_s).bind fun l => some l
def slices_Insert_LPattern_Pattern (N : Nat) (x_s : List GPattern) (x_i : Int) (x_v : List GPattern) : Option (List GPattern) := (insertL x_s x_i x_v).bind fun l => some l
def derivative_list (N : Nat) (x_op : Int) (x_args : List GPattern) : Option GPattern :=
 if Ar.cmp .eql (Ar.len x_args) 1 = true then
  (idxL x_args 0).bind fun x2 =>
  some x2
 else
  some (⟨x_op, x_args, 0, 0, 0, 0, (⟨0, [], 0, 0, 0, (⟨0, 0, ⟨#[]⟩⟩ : GValue)⟩ : GExpr)⟩ : GPattern)
def derivative_continued (N : Nat) (x_r : Gderivative_rest) (x_more : List GPattern) : Option Gderivative_rest :=
 (slices_Clone_LPattern_Pattern N x_more).bind fun l2 =>
 ((
  if Ar.nt x_r.done = true then
   (slices_Insert_LPattern_Pattern N l2 0 ([x_r.p])).bind fun l5 =>
   some l5
  else
   some l2
 ) : Option (((List GPattern)))).bind fun s4 =>
 if Ar.cmp .eql (Ar.len s4) 0 = true then
  some (⟨true, (⟨0, [], 0, 0, 0, 0, (⟨0, [], 0, 0, 0, (⟨0, 0, ⟨#[]⟩⟩ : GValue)⟩ : GExpr)⟩ : GPattern)⟩ : Gderivative_rest)
 else
  (derivative_list N 1 s4).bind fun r8 =>
  some (⟨false, r8⟩ : Gderivative_rest)
def slices_Delete_LPattern_Pattern (N : Nat) (x_s : List GPattern) (x_i x_j : Int) : Option (List GPattern) := (deleteL x_s x_i x_j).bind fun l => some l
def derivative_joined (N : Nat) (x_args : List GPattern) (x_at : Int) (x_r : Gderivative_rest) : Option Gderivative_rest :=
 (slices_Clone_LPattern_Pattern N x_args).bind fun l2 =>
 if x_r.done = true then
  (slices_Delete_LPattern_Pattern N l2 x_at (Ar.ar .add .i64 x_at 1)).bind fun l4 =>
  (derivative_list N 3 l4).bind fun r6 =>
  some (⟨false, r6⟩ : Gderivative_rest)
 else
  (req (inR l2 x_at)).bind fun _ =>
  (updL l2 x_at (fun x7 : GPattern => x_r.p)).bind fun l8 =>
  (derivative_list N 3 l8).bind fun r9 =>
  some (⟨false, r9⟩ : Gderivative_rest)
def slices_Grow_LExpr_Expr (N : Nat) (x_s : List GExpr) (x_n : Int) : Option (List GExpr) := growL x_s x_n
def slices_Concat_LExpr_Expr (N : Nat) (x_slices : List (List GExpr)) : Option (List GExpr) :=
 (loopN
  (fun (s1 : Int × Int) =>
   (
    if Ar.cmp .lss s1.2 (Ar.len x_slices) = true then
     (idxL x_slices s1.2).bind fun x3 =>
     if Ar.cmp .lss (Ar.ar .add .i64 s1.1 (Ar.len x3)) 0 = true then
      none
     else
      some (.inl (Ar.ar .add .i64 s1.1 (Ar.len x3), Ar.ar .add .i64 s1.2 1))
    else
     some (.inr s1.1)
    : Option ((Int × Int) ⊕ (Int))))
  N (0, 0)).bind fun s2 =>
 (slices_Grow_LExpr_Expr N [] s2).bind fun l4 =>
 (loopN
  (fun (s6 : Int × (List GExpr)) =>
   (
    if Ar.cmp .lss s6.1 (Ar.len x_slices) = true then
     (idxL x_slices s6.1).bind fun x9 =>
     (appL s6.2 x9).bind fun l11 =>
     some (.inl (Ar.ar .add .i64 s6.1 1, l11))
    else
     some (.inr s6.2)
    : Option ((Int × (List GExpr)) ⊕ (((List GExpr))))))
  N (0, l4)).bind fun s8 =>
 some s8
def slices_Grow_Lint_int (N : Nat) (x_s : List Int) (x_n : Int) : Option (List Int) := growL x_s x_n
def slices_Concat_Lint_int (N : Nat) (x_slices : List (List Int)) : Option (List Int) :=
 (loopN
  (fun (s1 : Int × Int) =>
   (
    if Ar.cmp .lss s1.2 (Ar.len x_slices) = true then
     (idxL x_slices s1.2).bind fun x3 =>
     if Ar.cmp .lss (Ar.ar .add .i64 s1.1 (Ar.len x3)) 0 = true then
      none
     else
      some (.inl (Ar.ar .add .i64 s1.1 (Ar.len x3), Ar.ar .add .i64 s1.2 1))
    else
     some (.inr s1.1)
    : Option ((Int × Int) ⊕ (Int))))
  N (0, 0)).bind fun s2 =>
 (slices_Grow_Lint_int N [] s2).bind fun l4 =>
 (loopN
  (fun (s6 : Int × (List Int)) =>
   (
    if Ar.cmp .lss s6.1 (Ar.len x_slices) = true then
     (idxL x_slices s6.1).bind fun x9 =>
     (appL s6.2 x9).bind fun l11 =>
     some (.inl (Ar.ar .add .i64 s6.1 1, l11))
    else
     some (.inr s6.2)
    : Option ((Int × (List Int)) ⊕ (((List Int))))))
  N (0, l4)).bind fun s8 =>
 some s8
def slices_Grow_LLimit_Limit (N : Nat) (x_s : List GLimit) (x_n : Int) : Option (List GLimit) := growL x_s x_n
def slices_Concat_LLimit_Limit (N : Nat) (x_slices : List (List GLimit)) : Option (List GLimit) :=
 (loopN
  (fun (s1 : Int × Int) =>
   (
    if Ar.cmp .lss s1.2 (Ar.len x_slices) = true then
     (idxL x_slices s1.2).bind fun x3 =>
     if Ar.cmp .lss (Ar.ar .add .i64 s1.1 (Ar.len x3)) 0 = true then
      none
     else
      some (.inl (Ar.ar .add .i64 s1.1 (Ar.len x3), Ar.ar .add .i64 s1.2 1))
    else
     some (.inr s1.1)
    : Option ((Int × Int) ⊕ (Int))))
  N (0, 0)).bind fun s2 =>
 (slices_Grow_LLimit_Limit N [] s2).bind fun l4 =>
 (loopN
  (fun (s6 : Int × (List GLimit)) =>
   (
    if Ar.cmp .lss s6.1 (Ar.len x_slices) = true then
     (idxL x_slices s6.1).bind fun x9 =>
     (appL s6.2 x9).bind fun l11 =>
     some (.inl (Ar.ar .add .i64 s6.1 1, l11))
    else
     some (.inr s6.2)
    : Option ((Int × (List GLimit)) ⊕ (((List GLimit))))))
  N (0, l4)).bind fun s8 =>
 some s8
def derivative_scoped (N : Nat) (x_p : GPattern) (x_x : GEdge) (x_done : Bool) (x_opens : Bool) : Option GEdge :=
 ((
  if x_opens = true then
   (slices_Concat_Lint_int N ([[x_p.Scope], x_x.Opens])).bind fun r4 =>
   some ({ x_x with Opens := r4 })
  else
   some x_x
 ) : Option (GEdge)).bind fun s3 =>
 ((
  if Ar.or (Ar.cmp .eql x_p.Op 5) (Ar.cmp .eql x_p.Op 9) = true then
   (slices_Concat_Lint_int N ([[x_p.Scope], s3.Inside])).bind fun r6 =>
   some ({ s3 with Inside := r6 })
  else
   (slices_Concat_LLimit_Limit N ([[(⟨x_p.Scope, x_p.Span⟩ : GLimit)], s3.Limits])).bind fun r7 =>
   some ({ s3 with Limits := r7 })
 ) : Option (GEdge)).bind fun s5 =>
 if x_done = true then
  (slices_Concat_Lint_int N ([s5.Closes, [x_p.Scope]])).bind fun r8 =>
  some ({ s5 with Closes := r8 })
 else
  some s5
def derivative_within (N : Nat) (x_p : GPattern) (x_op : Int) (x_arg : GPattern) : Option GPattern :=
 some ({ x_p with Op := x_op, Args := [x_arg] })
mutual
def derivative_pairs (N : Nat) : Nat → GPattern → Option (List (GEdge × Gderivative_rest))
 | 0, _ => none
 | n + 1, x_p =>
  if Ar.cmp .eql x_p.Op 0 = true then
   derivative_pairs_1 N x_p
  else
   ((
    if Ar.cmp .eql x_p.Op 1 = true then
     some true
    else
     if Ar.cmp .eql x_p.Op 2 = true then
      some true
     else
      some (Ar.cmp .eql x_p.Op 3)
   ) : Option (Bool)).bind fun s1 =>
   if s1 = true then
    (derivative_branches N n x_p).bind fun r2 =>
    some r2
   else
    if Ar.cmp .eql x_p.Op 4 = true then
     (idxL x_p.Args 0).bind fun x4 =>
     (derivative_repeated N n x4 x_p).bind fun r5 =>
     some r5
    else
     if Ar.cmp .eql x_p.Op 8 = true then
      (idxL x_p.Args 0).bind fun x7 =>
      (sliceL x_p.Args (some 1) (some 2) (some 2)).bind fun l8 =>
      (derivative_repeated N n x7 (⟨4, l8, 0, 0, 0, 0, (⟨0, [], 0, 0, 0, (⟨0, 0, ⟨#[]⟩⟩ : GValue)⟩ : GExpr)⟩ : GPattern)).bind fun r10 =>
      some r10
     else
      (derivative_inner N n x_p).bind fun r12 =>
      some r12
def derivative_branches (N : Nat) : Nat → GPattern → Option (List (GEdge × Gderivative_rest))
 | 0, _ => none
 | n + 1, x_p =>
  derivative_branches_1 N n x_p
def derivative_repeated (N : Nat) : Nat → GPattern → GPattern → Option (List (GEdge × Gderivative_rest))
 | 0, _, _ => none
 | n + 1, x_first, x_again =>
  derivative_repeated_1 N n x_first x_again
def derivative_inner (N : Nat) : Nat → GPattern → Option (List (GEdge × Gderivative_rest))
 | 0, _ => none
 | n + 1, x_p =>
  derivative_inner_1 N n x_p
def derivative_branches_1 (N : Nat) : Nat → GPattern → Option (List (GEdge × Gderivative_rest))
 | 0, _ => none
 | n + 1, x_1 =>
  ((
   thenE (loopE
    (fun (s2 : Int) =>
     (
      if Ar.cmp .lss s2 (Ar.len x_1.Args) = true then
       (idxL x_1.Args s2).bind fun x8 =>
       if Ar.an (Ar.cmp .eql x_1.Op 1) (Ar.cmp .gtr s2 0) = true then
        some ([], .inr (.inr ()))
       else
        (derivative_pairs N n x8).bind fun r11 =>
        thenE (rangeE (fun (_ : Unit) (y13 : (GEdge × Gderivative_rest)) =>
         (
          thenE ((
           if Ar.cmp .eql x_1.Op 1 = true then
            (sliceL x_1.Args (some 1) none none).bind fun l25 =>
            (derivative_continued N y13.2 l25).bind fun r27 =>
            some ([], r27)
           else
            if Ar.cmp .eql x_1.Op 3 = true then
             (derivative_joined N x_1.Args s2 y13.2).bind fun r28 =>
             some ([], r28)
            else
             some ([], y13.2)
          ) : Option (List (GEdge × Gderivative_rest) × (Gderivative_rest))) fun s22 =>
          thenE (some ([(y13.1, s22)], ())) fun _ =>
          some ([], .inl ())
          : Option (List (GEdge × Gderivative_rest) × (Unit ⊕ Unit))))
         r11 ()) fun o20 =>
        match o20 with
        | .inl _ =>
         some ([], .inl (Ar.ar .add .i64 s2 1))
        | .inr _ =>
         none
      else
       some ([], .inr (.inl ()))
      : Option (List (GEdge × Gderivative_rest) × ((Int) ⊕ (Unit ⊕ Unit)))))
    N 0) fun s7 =>
   match s7 with
   | .inl y31 =>
    some ([], ())
   | .inr y32 =>
    some ([], ())
  ) : Option (List (GEdge × Gderivative_rest) × Unit)).bind fun q => some q.1
def derivative_repeated_1 (N : Nat) : Nat → GPattern → GPattern → Option (List (GEdge × Gderivative_rest))
 | 0, _, _ => none
 | n + 1, x_1, x_2 =>
  ((
   (derivative_pairs N n x_1).bind fun r1 =>
   thenE (rangeE (fun (_ : Unit) (y3 : (GEdge × Gderivative_rest)) =>
    (
     if Ar.nt y3.2.done = true then
      (idxL x_2.Args 0).bind fun x11 =>
      thenE (some ([(y3.1, (⟨false, (⟨8, [y3.2.p, x11], 0, 0, 0, 0, (⟨0, [], 0, 0, 0, (⟨0, 0, ⟨#[]⟩⟩ : GValue)⟩ : GExpr)⟩ : GPattern)⟩ : Gderivative_rest))], ())) fun _ =>
      some ([], .inl ())
     else
      thenE (some ([(y3.1, y3.2)], ())) fun _ =>
      thenE (some ([(y3.1, (⟨false, x_2⟩ : Gderivative_rest))], ())) fun _ =>
      some ([], .inl ())
     : Option (List (GEdge × Gderivative_rest) × (Unit ⊕ Unit))))
    r1 ()) fun o10 =>
   match o10 with
   | .inl _ =>
    some ([], ())
   | .inr _ =>
    none
  ) : Option (List (GEdge × Gderivative_rest) × Unit)).bind fun q => some q.1
def derivative_inner_1 (N : Nat) : Nat → GPattern → Option (List (GEdge × Gderivative_rest))
 | 0, _ => none
 | n + 1, x_1 =>
  ((
   (idxL x_1.Args 0).bind fun x1 =>
   (derivative_pairs N n x1).bind fun r2 =>
   thenE (rangeE (fun (_ : Unit) (y4 : (GEdge × Gderivative_rest)) =>
    (
     thenE ((
      if Ar.cmp .eql x_1.Op 7 = true then
       if y4.2.done = true then
        (slices_Concat_LExpr_Expr N ([y4.1.Checks, [x_1.Cond]])).bind fun r17 =>
        some ([], (x_1.Op, { y4.1 with Checks := r17 }))
       else
        some ([], (x_1.Op, y4.1))
      else
       thenE ((
        if Ar.cmp .eql x_1.Op 5 = true then
         some ([], true)
        else
         some ([], Ar.cmp .eql x_1.Op 9)
       ) : Option (List (GEdge × Gderivative_rest) × (Bool))) fun s18 =>
       if s18 = true then
        (derivative_scoped N x_1 y4.1 y4.2.done (Ar.cmp .eql x_1.Op 5)).bind fun r21 =>
        some ([], (9, r21))
       else
        (derivative_scoped N x_1 y4.1 y4.2.done (Ar.cmp .eql x_1.Op 6)).bind fun r22 =>
        some ([], (10, r22))
     ) : Option (List (GEdge × Gderivative_rest) × ((Int × GEdge)))) fun s14 =>
     thenE ((
      if Ar.nt y4.2.done = true then
       (derivative_within N x_1 s14.1 y4.2.p).bind fun r26 =>
       some ([], { y4.2 with p := r26 })
      else
       some ([], y4.2)
     ) : Option (List (GEdge × Gderivative_rest) × (Gderivative_rest))) fun s23 =>
     thenE (some ([(s14.2, s23)], ())) fun _ =>
     some ([], .inl ())
     : Option (List (GEdge × Gderivative_rest) × (Unit ⊕ Unit))))
    r2 ()) fun o11 =>
   match o11 with
   | .inl _ =>
    some ([], ())
   | .inr _ =>
    none
  ) : Option (List (GEdge × Gderivative_rest) × Unit)).bind fun q => some q.1
end
def slices_IndexFunc_LEdge_Edge (N : Nat) (x_s : List GEdge) (x_f : GEdge → Option Bool) : Option Int :=
 (loopN
  (fun (s1 : Int) =>
   (
    if Ar.cmp .lss s1 (Ar.len x_s) = true then
     (idxL x_s s1).bind fun x3 =>
     (x_f x3).bind fun r4 =>
     if r4 = true then
      some (.inr (.inr s1))
     else
      some (.inl (Ar.ar .add .i64 s1 1))
    else
     some (.inr (.inl ()))
    : Option ((Int) ⊕ (Unit ⊕ Int))))
  N 0).bind fun s2 =>
 match s2 with
 | .inl y5 =>
  some (-1)
 | .inr y6 =>
  some y6
def slices_ContainsFunc_LEdge_Edge (N : Nat) (x_s : List GEdge) (x_f : GEdge → Option Bool) : Option Bool :=
 (slices_IndexFunc_LEdge_Edge N x_s x_f).bind fun r1 =>
 some (Ar.cmp .geq r1 0)
def slices_Equal_Lint_int (N : Nat) (x_s1 : List Int) (x_s2 : List Int) : Option Bool :=
 if Ar.cmp .neq (Ar.len x_s1) (Ar.len x_s2) = true then
  some false
 else
  (loopN
   (fun (s1 : Int) =>
    (
     if Ar.cmp .lss s1 (Ar.len x_s1) = true then
      (idxL x_s1 s1).bind fun x3 =>
      (idxL x_s2 s1).bind fun x4 =>
      if Ar.cmp .neq x3 x4 = true then
       some (.inr (.inr ()))
      else
       some (.inl (Ar.ar .add .i64 s1 1))
     else
      some (.inr (.inl ()))
     : Option ((Int) ⊕ (Unit ⊕ Unit))))
   N 0).bind fun s2 =>
  match s2 with
  | .inl y5 =>
   some true
  | .inr y6 =>
   some false
def slices_Equal_LLimit_Limit (N : Nat) (x_s1 : List GLimit) (x_s2 : List GLimit) : Option Bool :=
 if Ar.cmp .neq (Ar.len x_s1) (Ar.len x_s2) = true then
  some false
 else
  (loopN
   (fun (s1 : Int) =>
    (
     if Ar.cmp .lss s1 (Ar.len x_s1) = true then
      (idxL x_s1 s1).bind fun x3 =>
      (idxL x_s2 s1).bind fun x4 =>
      if Ar.nt (Ar.an (Ar.cmp .eql x3.Scope x4.Scope) (Ar.an (Ar.cmp .eql x3.Span x4.Span) true)) = true then
       some (.inr (.inr ()))
      else
       some (.inl (Ar.ar .add .i64 s1 1))
     else
      some (.inr (.inl ()))
     : Option ((Int) ⊕ (Unit ⊕ Unit))))
   N 0).bind fun s2 =>
  match s2 with
  | .inl y5 =>
   some true
  | .inr y6 =>
   some false
def slices_EqualFunc_LExpr_LExpr_Expr_Expr (N : Nat) (x_s1 : List GExpr) (x_s2 : List GExpr) (x_eq : GExpr → GExpr → Option Bool) : Option Bool :=
 if Ar.cmp .neq (Ar.len x_s1) (Ar.len x_s2) = true then
  some false
 else
  (loopN
   (fun (s1 : Int) =>
    (
     if Ar.cmp .lss s1 (Ar.len x_s1) = true then
      (idxL x_s1 s1).bind fun x3 =>
      (idxL x_s2 s1).bind fun x5 =>
      (x_eq x3 x5).bind fun r6 =>
      if Ar.nt r6 = true then
       some (.inr (.inr ()))
      else
       some (.inl (Ar.ar .add .i64 s1 1))
     else
      some (.inr (.inl ()))
     : Option ((Int) ⊕ (Unit ⊕ Unit))))
   N 0).bind fun s2 =>
  match s2 with
  | .inl y7 =>
   some true
  | .inr y8 =>
   some false
def derivative_sameEdge (N : Nat) (x_a : GEdge) (x_b : GEdge) : Option Bool :=
 if Ar.an (Ar.cmp .eql x_a.Var x_b.Var) (Ar.cmp .eql x_a.Typ x_b.Typ) = true then
  (expr_Same N N x_a.Cond x_b.Cond).bind fun r1 =>
  if r1 = true then
   (slices_Equal_Lint_int N x_a.Opens x_b.Opens).bind fun r2 =>
   if r2 = true then
    (slices_Equal_Lint_int N x_a.Closes x_b.Closes).bind fun r3 =>
    if r3 = true then
     (slices_EqualFunc_LExpr_LExpr_Expr_Expr N x_a.Checks x_b.Checks (fun y1 y2 => expr_Same N N y1 y2)).bind fun r4 =>
     if r4 = true then
      (slices_Equal_LLimit_Limit N x_a.Limits x_b.Limits).bind fun r5 =>
      if r5 = true then
       (slices_Equal_Lint_int N x_a.Inside x_b.Inside).bind fun r6 =>
       some r6
      else
       some false
     else
      some false
    else
     some false
   else
    some false
  else
   some false
 else
  some false
def derivative_derived_1 (N : Nat) (x_y : GEdge) (x_1 : GEdge) : Option Bool :=
 if Ar.cmp .eql x_1.To x_y.To = true then
  (derivative_sameEdge N x_1 x_y).bind fun r1 =>
  some r1
 else
  some false
def derivative_derived (N : Nat) (x_p : GPattern) : Option ((List GEdge) × (List GPattern) × Int) :=
 (derivative_pairs N N x_p).bind fun r6 =>
 (rangeL (fun (s9 : (List GPattern) × (List GEdge)) (y8 : (GEdge × Gderivative_rest)) =>
  (
   ((
    if Ar.nt y8.2.done = true then
     (derivative_index N s9.1 y8.2.p).bind fun r17 =>
     if Ar.cmp .lss r17 0 = true then
      (pattern_CheckRest N y8.2.p).bind fun r18 =>
      if Ar.cmp .neq r18 0 = true then
       some (.inr ({ y8.1 with To := r17 }, 17))
      else
       (appL s9.1 ([y8.2.p])).bind fun l20 =>
       some (.inl ({ y8.1 with To := Ar.len s9.1 }, l20))
     else
      some (.inl ({ y8.1 with To := r17 }, s9.1))
    else
     some (.inl ({ y8.1 with To := (-1) }, s9.1))
   ) : Option ((GEdge × (List GPattern)) ⊕ (GEdge × Int))).bind fun s16 =>
   match s16 with
   | .inl y21 =>
    (slices_ContainsFunc_LEdge_Edge N s9.2 (fun y1 => derivative_derived_1 N y1 y21.1)).bind fun r23 =>
    if r23 = true then
     some (.inl (y21.2, s9.2))
    else
     (appL s9.2 ([y21.1])).bind fun l25 =>
     if Ar.cmp .gtr (Ar.len l25) 2048 = true then
      some (.inr (y21.2, l25, 17))
     else
      some (.inl (y21.2, l25))
   | .inr y26 =>
    some (.inr (s9.1, s9.2, y26.2))
   : Option (((List GPattern) × (List GEdge)) ⊕ (((List GPattern) × (List GEdge) × Int))))
  ) r6 ([], [])).bind fun o14 =>
 match o14 with
 | .inl s31 =>
  some (s31.2, s31.1, 0)
 | .inr y34 =>
  some ([], [], y34.2.2)
def derivative_Derive (N : Nat) (x_p : GPattern) : Option ((List GEdge) × (List GPattern) × Int) :=
 (pattern_CheckRest N x_p).bind fun r1 =>
 if Ar.cmp .neq r1 0 = true then
  some ([], [], r1)
 else
  (derivative_derived N x_p).bind fun r2 =>
  some (r2.1, r2.2.1, r2.2.2)
def ref09_Same (N : Nat) : Nat → GPattern → GPattern → Option Bool
 | 0, _, _ => none
 | n + 1, x_a, x_b =>
  if Ar.or (Ar.or (Ar.or (Ar.or (Ar.cmp .neq x_a.Op x_b.Op) (Ar.cmp .neq x_a.Typ x_b.Typ)) (Ar.cmp .neq x_a.Var x_b.Var)) (Ar.cmp .neq x_a.Scope x_b.Scope)) (Ar.cmp .neq x_a.Span x_b.Span) = true then
   some false
  else
   (ref08_Same N N x_a.Cond x_b.Cond).bind fun r1 =>
   if Ar.or (Ar.nt r1) (Ar.cmp .neq (Ar.len x_a.Args) (Ar.len x_b.Args)) = true then
    some false
   else
    (loopN
     (fun (s2 : Int) =>
      (
       if Ar.cmp .lss s2 (Ar.len x_a.Args) = true then
        (idxL x_a.Args s2).bind fun x4 =>
        (idxL x_b.Args s2).bind fun x5 =>
        (ref09_Same N n x4 x5).bind fun r6 =>
        if Ar.nt r6 = true then
         some (.inr (.inr ()))
        else
         some (.inl (Ar.ar .add .i64 s2 1))
       else
        some (.inr (.inl ()))
       : Option ((Int) ⊕ (Unit ⊕ Unit))))
     N 0).bind fun s3 =>
    match s3 with
    | .inl y7 =>
     some true
    | .inr y8 =>
     some false
def ref22_SameAll (N : Nat) (x_a : List GPattern) (x_b : List GPattern) : Option Bool :=
 if Ar.cmp .neq (Ar.len x_a) (Ar.len x_b) = true then
  some false
 else
  (loopN
   (fun (s1 : Int) =>
    (
     if Ar.cmp .lss s1 (Ar.len x_a) = true then
      (idxL x_a s1).bind fun x3 =>
      (idxL x_b s1).bind fun x4 =>
      (ref09_Same N N x3 x4).bind fun r5 =>
      if Ar.nt r5 = true then
       some (.inr (.inr ()))
      else
       some (.inl (Ar.ar .add .i64 s1 1))
     else
      some (.inr (.inl ()))
     : Option ((Int) ⊕ (Unit ⊕ Unit))))
   N 0).bind fun s2 =>
  match s2 with
  | .inl y6 =>
   some true
  | .inr y7 =>
   some false
def pattern_whole (N : Nat) (x_p : GPattern) : Option Int :=
 (pattern_CheckRest N x_p).bind fun r2 =>
 if Ar.cmp .neq r2 0 = true then
  some r2
 else
  (pattern_preorder N x_p).bind fun r3 =>
  (rangeL (fun (s6 : Unit) (y5 : GPattern) =>
   (
    if Ar.cmp .geq y5.Op 8 = true then
     some (.inr 1)
    else
     some (.inl ())
    : Option ((Unit) ⊕ (Int)))
   ) r3 ()).bind fun o9 =>
  match o9 with
  | .inl s12 =>
   some 0
  | .inr y13 =>
   some y13
def pattern_count (N : Nat) (x_p : GPattern) : Option (Int × Int × Bool) :=
 (pattern_preorder N x_p).bind fun r4 =>
 (rangeL (fun (s7 : Bool × Int × Int) (y6 : GPattern) =>
  (
   (idxL tab_pattern_shapes y6.Op).bind fun x11 =>
   ((
    if x11.typed = true then
     some (Ar.an s7.1 (Ar.cmp .eql y6.Var s7.2.2), Ar.ar .add .i64 s7.2.2 1)
    else
     some (s7.1, s7.2.2)
   ) : Option ((Bool × Int))).bind fun s12 =>
   if x11.scope = true then
    some (.inl (Ar.an s12.1 (Ar.cmp .eql y6.Scope s7.2.1), Ar.ar .add .i64 s7.2.1 1, s12.2))
   else
    some (.inl (s12.1, s7.2.1, s12.2))
   : Option ((Bool × Int × Int) ⊕ (Unit)))
  ) r4 (true, 0, 0)).bind fun o10 =>
 match o10 with
 | .inl s15 =>
  some (s15.2.2, s15.2.1, s15.1)
 | .inr _ => none
def pattern_Check (N : Nat) (x_p : GPattern) : Option Int :=
 (pattern_whole N x_p).bind fun r1 =>
 if Ar.cmp .neq r1 0 = true then
  some r1
 else
  (pattern_count N x_p).bind fun r2 =>
  if Ar.nt r2.2.2 = true then
   some 14
  else
   some 0
def derivative_Residuals (N : Nat) (x_p : GPattern) : Option ((List GPattern) × Int) :=
 (pattern_Check N x_p).bind fun r1 =>
 if Ar.cmp .neq r1 0 = true then
  some ([], r1)
 else
  (loopN
   (fun (s2 : (List GPattern) × Int) =>
    (
     if Ar.cmp .lss s2.2 (Ar.len s2.1) = true then
      (idxL s2.1 s2.2).bind fun x5 =>
      (derivative_derived N x5).bind fun r6 =>
      if Ar.cmp .neq r6.2.2 0 = true then
       some (.inr (.inr r6.2.2))
      else
       (loopN
        (fun (s7 : (List GPattern) × Int) =>
         (
          if Ar.cmp .lss s7.2 (Ar.len r6.2.1) = true then
           (idxL r6.2.1 s7.2).bind fun x10 =>
           (derivative_index N s7.1 x10).bind fun r11 =>
           if Ar.cmp .lss r11 0 = true then
            (appL s7.1 ([x10])).bind fun l13 =>
            some (.inl (l13, Ar.ar .add .i64 s7.2 1))
           else
            some (.inl (s7.1, Ar.ar .add .i64 s7.2 1))
          else
           some (.inr s7.1)
          : Option (((List GPattern) × Int) ⊕ (((List GPattern))))))
        N (s2.1, 0)).bind fun s9 =>
       if Ar.cmp .gtr (Ar.len s9) 256 = true then
        some (.inr (.inr 17))
       else
        some (.inl (s9, Ar.ar .add .i64 s2.2 1))
     else
      some (.inr (.inl s2.1))
     : Option (((List GPattern) × Int) ⊕ (((List GPattern)) ⊕ Int))))
   N ([x_p], 0)).bind fun s4 =>
  match s4 with
  | .inl y15 =>
   some (y15, 0)
  | .inr y17 =>
   some ([], y17)
def derivative_active (N : Nat) : Nat → GPattern → Option (List GGuard)
 | 0, _ => none
 | n + 1, x_p =>
  ((
   if Ar.cmp .eql x_p.Op 1 = true then
    some true
   else
    some (Ar.cmp .eql x_p.Op 8)
  ) : Option (Bool)).bind fun s1 =>
  if s1 = true then
   (idxL x_p.Args 0).bind fun x2 =>
   (derivative_active N n x2).bind fun r3 =>
   some r3
  else
   if Ar.cmp .eql x_p.Op 3 = true then
    (loopN
     (fun (s4 : (List GGuard) × Int) =>
      (
       if Ar.cmp .lss s4.2 (Ar.len x_p.Args) = true then
        (idxL x_p.Args s4.2).bind fun x7 =>
        (derivative_active N n x7).bind fun r8 =>
        (appL s4.1 r8).bind fun l10 =>
        some (.inl (l10, Ar.ar .add .i64 s4.2 1))
       else
        some (.inr s4.1)
       : Option (((List GGuard) × Int) ⊕ (((List GGuard))))))
     N ([], 0)).bind fun s6 =>
    some s6
   else
    if Ar.cmp .eql x_p.Op 9 = true then
     (appL ([]) ([(⟨x_p.Scope, x_p.Typ, x_p.Var, x_p.Cond⟩ : GGuard)])).bind fun l13 =>
     (idxL x_p.Args 0).bind fun x14 =>
     (derivative_active N n x14).bind fun r15 =>
     (appL l13 r15).bind fun l17 =>
     some l17
    else
     ((
      if Ar.cmp .eql x_p.Op 10 = true then
       some true
      else
       some (Ar.cmp .eql x_p.Op 7)
     ) : Option (Bool)).bind fun s18 =>
     if s18 = true then
      (idxL x_p.Args 0).bind fun x19 =>
      (derivative_active N n x19).bind fun r20 =>
      some r20
     else
      some ([])
def derivative_Guards (N : Nat) (x_p : GPattern) : Option ((List GGuard) × Int) :=
 (pattern_CheckRest N x_p).bind fun r1 =>
 if Ar.cmp .neq r1 0 = true then
  some ([], r1)
 else
  (derivative_active N N x_p).bind fun r2 =>
  some (r2, 0)
def law22_node (N : Nat) (x_op : Int) (x_args : List GPattern) : Option GPattern :=
 some (⟨x_op, x_args, 0, 0, 0, 0, (⟨0, [], 0, 0, 0, (⟨0, 0, ⟨#[]⟩⟩ : GValue)⟩ : GExpr)⟩ : GPattern)
def ref08_Flag (N : Nat) (x_b : Bool) : Option GValue :=
 if x_b = true then
  some (⟨1, 1, ⟨#[]⟩⟩ : GValue)
 else
  some (⟨1, 0, ⟨#[]⟩⟩ : GValue)
def law22_truth (N : Nat) : Option GExpr :=
 (ref08_Flag N true).bind fun r2 =>
 some (⟨0, [], 0, 0, 0, r2⟩ : GExpr)
def law22_event (N : Nat) (x_v : Int) : Option GPattern :=
 (law22_truth N).bind fun r2 =>
 some (⟨0, [], 0, x_v, 0, 0, r2⟩ : GPattern)
def law22_awake (N : Nat) : Option Bool :=
 (law22_event N 0).bind fun r1 =>
 (law22_event N 1).bind fun r2 =>
 (law22_node N 1 ([r1, r2])).bind fun r3 =>
 (derivative_Derive N r3).bind fun r4 =>
 (law22_event N 0).bind fun r5 =>
 (law22_node N 4 ([r5])).bind fun r6 =>
 (derivative_Derive N r6).bind fun r7 =>
 (law22_event N 0).bind fun r8 =>
 (law22_event N 1).bind fun r9 =>
 (law22_node N 1 ([r8, r9])).bind fun r10 =>
 (derivative_Residuals N (⟨6, [r10], 0, 0, 0, 5, (⟨0, [], 0, 0, 0, (⟨0, 0, ⟨#[]⟩⟩ : GValue)⟩ : GExpr)⟩ : GPattern)).bind fun r11 =>
 (derivative_Derive N (⟨6, [r10], 0, 0, 0, 5, (⟨0, [], 0, 0, 0, (⟨0, 0, ⟨#[]⟩⟩ : GValue)⟩ : GExpr)⟩ : GPattern)).bind fun r12 =>
 (law22_truth N).bind fun r13 =>
 (law22_event N 1).bind fun r14 =>
 (law22_node N 4 ([r14])).bind fun r15 =>
 (derivative_Residuals N (⟨5, [r15], 2, 0, 0, 0, r13⟩ : GPattern)).bind fun r16 =>
 (derivative_Derive N (⟨5, [r15], 2, 0, 0, 0, r13⟩ : GPattern)).bind fun r17 =>
 if Ar.or (Ar.or (Ar.or (Ar.or (Ar.or (Ar.or (Ar.or (Ar.or (Ar.or (Ar.or (Ar.or (Ar.cmp .neq r4.2.2 0) (Ar.cmp .neq r7.2.2 0)) (Ar.cmp .neq r11.2 0)) (Ar.cmp .neq r12.2.2 0)) (Ar.cmp .neq r16.2 0)) (Ar.cmp .neq r17.2.2 0)) (Ar.cmp .neq (Ar.len r4.1) 1)) (Ar.cmp .neq (Ar.len r7.1) 2)) (Ar.cmp .neq (Ar.len r12.1) 1)) (Ar.cmp .neq (Ar.len r17.1) 2)) (Ar.cmp .neq (Ar.len r11.1) 2)) (Ar.cmp .neq (Ar.len r16.1) 2) = true then
  some false
 else
  (idxL r16.1 1).bind fun x18 =>
  (derivative_Guards N x18).bind fun r19 =>
  if Ar.or (Ar.cmp .neq r19.2 0) (Ar.cmp .neq (Ar.len r19.1) 1) = true then
   some false
  else
   (idxL r19.1 0).bind fun x20 =>
   if Ar.cmp .neq x20.Typ 2 = true then
    some false
   else
    (idxL r16.1 1).bind fun x21 =>
    if Ar.cmp .neq x21.Op 9 = true then
     some false
    else
     (idxL r11.1 1).bind fun x22 =>
     if Ar.cmp .neq x22.Op 10 = true then
      some false
     else
      (law22_event N 1).bind fun r23 =>
      (ref22_SameAll N r4.2.1 ([r23])).bind fun r24 =>
      if Ar.nt r24 = true then
       some false
      else
       (law22_event N 0).bind fun r25 =>
       (law22_node N 4 ([r25])).bind fun r26 =>
       (ref22_SameAll N r7.2.1 ([r26])).bind fun r27 =>
       if Ar.nt r27 = true then
        some false
       else
        (idxL r4.1 0).bind fun x28 =>
        if Ar.cmp .neq x28.To 0 = true then
         some false
        else
         (idxL r7.1 0).bind fun x29 =>
         if Ar.cmp .neq x29.To (-1) = true then
          some false
         else
          (idxL r7.1 1).bind fun x30 =>
          if Ar.cmp .neq x30.To 0 = true then
           some false
          else
           (idxL r12.1 0).bind fun x31 =>
           (slices_Equal_Lint_int N x31.Opens ([0])).bind fun r32 =>
           if r32 = true then
            (idxL r12.1 0).bind fun x33 =>
            (slices_Equal_LLimit_Limit N x33.Limits ([(⟨0, 5⟩ : GLimit)])).bind fun r34 =>
            if r34 = true then
             (idxL r12.1 0).bind fun x35 =>
             if Ar.cmp .eql (Ar.len x35.Closes) 0 = true then
              (idxL r17.1 0).bind fun x36 =>
              (slices_Equal_Lint_int N x36.Closes ([0])).bind fun r37 =>
              if r37 = true then
               (idxL r17.1 1).bind fun x38 =>
               if Ar.cmp .eql (Ar.len x38.Closes) 0 = true then
                (idxL r17.1 1).bind fun x39 =>
                (slices_Equal_Lint_int N x39.Inside ([0])).bind fun r40 =>
                some r40
               else
                some false
              else
               some false
             else
              some false
            else
             some false
           else
            some false
def ref22_joined (N : Nat) (x_x : Gtidegateref22_Pair) (x_p : GPattern) (x_i : Int) : Option Gtidegateref22_Pair :=
 (sliceL x_p.Args none (some x_i) none).bind fun l2 =>
 (appL ([]) l2).bind fun l5 =>
 ((
  if Ar.nt x_x.Done = true then
   (appL l5 ([x_x.Rest])).bind fun l8 =>
   some l8
  else
   some l5
 ) : Option (((List GPattern)))).bind fun s6 =>
 (sliceL x_p.Args (some (Ar.ar .add .i64 x_i 1)) none none).bind fun l10 =>
 (appL s6 l10).bind fun l13 =>
 if Ar.cmp .eql (Ar.len l13) 1 = true then
  (idxL l13 0).bind fun x14 =>
  some (⟨x_x.Edge, false, x14⟩ : Gtidegateref22_Pair)
 else
  some (⟨x_x.Edge, false, (⟨3, l13, 0, 0, 0, 0, (⟨0, [], 0, 0, 0, (⟨0, 0, ⟨#[]⟩⟩ : GValue)⟩ : GExpr)⟩ : GPattern)⟩ : Gtidegateref22_Pair)
def ref09_SameInts (N : Nat) (x_a : List Int) (x_b : List Int) : Option Bool :=
 if Ar.cmp .neq (Ar.len x_a) (Ar.len x_b) = true then
  some false
 else
  (loopN
   (fun (s1 : Int) =>
    (
     if Ar.cmp .lss s1 (Ar.len x_a) = true then
      (idxL x_a s1).bind fun x3 =>
      (idxL x_b s1).bind fun x4 =>
      if Ar.cmp .neq x3 x4 = true then
       some (.inr (.inr ()))
      else
       some (.inl (Ar.ar .add .i64 s1 1))
     else
      some (.inr (.inl ()))
     : Option ((Int) ⊕ (Unit ⊕ Unit))))
   N 0).bind fun s2 =>
  match s2 with
  | .inl y5 =>
   some true
  | .inr y6 =>
   some false
def ref09_SameLimits (N : Nat) (x_a : List GLimit) (x_b : List GLimit) : Option Bool :=
 if Ar.cmp .neq (Ar.len x_a) (Ar.len x_b) = true then
  some false
 else
  (loopN
   (fun (s1 : Int) =>
    (
     if Ar.cmp .lss s1 (Ar.len x_a) = true then
      (idxL x_a s1).bind fun x3 =>
      (idxL x_b s1).bind fun x4 =>
      if Ar.nt (Ar.an (Ar.cmp .eql x3.Scope x4.Scope) (Ar.an (Ar.cmp .eql x3.Span x4.Span) true)) = true then
       some (.inr (.inr ()))
      else
       some (.inl (Ar.ar .add .i64 s1 1))
     else
      some (.inr (.inl ()))
     : Option ((Int) ⊕ (Unit ⊕ Unit))))
   N 0).bind fun s2 =>
  match s2 with
  | .inl y5 =>
   some true
  | .inr y6 =>
   some false
def ref22_SameEdge (N : Nat) (x_a : GEdge) (x_b : GEdge) : Option Bool :=
 if Ar.or (Ar.cmp .neq x_a.Var x_b.Var) (Ar.cmp .neq x_a.Typ x_b.Typ) = true then
  some false
 else
  (ref08_Same N N x_a.Cond x_b.Cond).bind fun r1 =>
  if Ar.or (Ar.nt r1) (Ar.cmp .neq (Ar.len x_a.Checks) (Ar.len x_b.Checks)) = true then
   some false
  else
   (loopN
    (fun (s2 : Int) =>
     (
      if Ar.cmp .lss s2 (Ar.len x_a.Checks) = true then
       (idxL x_a.Checks s2).bind fun x4 =>
       (idxL x_b.Checks s2).bind fun x5 =>
       (ref08_Same N N x4 x5).bind fun r6 =>
       if Ar.nt r6 = true then
        some (.inr (.inr ()))
       else
        some (.inl (Ar.ar .add .i64 s2 1))
      else
       some (.inr (.inl ()))
      : Option ((Int) ⊕ (Unit ⊕ Unit))))
    N 0).bind fun s3 =>
   match s3 with
   | .inl y7 =>
    (ref09_SameInts N x_a.Opens x_b.Opens).bind fun r8 =>
    if r8 = true then
     (ref09_SameInts N x_a.Closes x_b.Closes).bind fun r9 =>
     if r9 = true then
      (ref09_SameInts N x_a.Inside x_b.Inside).bind fun r10 =>
      if r10 = true then
       (ref09_SameLimits N x_a.Limits x_b.Limits).bind fun r11 =>
       some r11
      else
       some false
     else
      some false
    else
     some false
   | .inr y12 =>
    some false
def ref22_with (N : Nat) (x_l : List Gtidegateref22_Pair) (x_x : Gtidegateref22_Pair) : Option (List Gtidegateref22_Pair) :=
 (loopN
  (fun (s1 : Int) =>
   (
    if Ar.cmp .lss s1 (Ar.len x_l) = true then
     (idxL x_l s1).bind fun x3 =>
     if Ar.beq x3.Done x_x.Done = true then
      (idxL x_l s1).bind fun x4 =>
      (ref22_SameEdge N x4.Edge x_x.Edge).bind fun r5 =>
      if r5 = true then
       (idxL x_l s1).bind fun x6 =>
       (ref09_Same N N x6.Rest x_x.Rest).bind fun r7 =>
       if r7 = true then
        some (.inr (.inr ()))
       else
        some (.inl (Ar.ar .add .i64 s1 1))
      else
       some (.inl (Ar.ar .add .i64 s1 1))
     else
      some (.inl (Ar.ar .add .i64 s1 1))
    else
     some (.inr (.inl ()))
    : Option ((Int) ⊕ (Unit ⊕ Unit))))
  N 0).bind fun s2 =>
 match s2 with
 | .inl y8 =>
  (appL x_l ([x_x])).bind fun l10 =>
  some l10
 | .inr y11 =>
  some x_l
def ref22_seq (N : Nat) (x_l : List GPattern) : Option GPattern :=
 if Ar.cmp .eql (Ar.len x_l) 1 = true then
  (idxL x_l 0).bind fun x2 =>
  some x2
 else
  some (⟨1, x_l, 0, 0, 0, 0, (⟨0, [], 0, 0, 0, (⟨0, 0, ⟨#[]⟩⟩ : GValue)⟩ : GExpr)⟩ : GPattern)
def ref22_continued (N : Nat) (x_x : Gtidegateref22_Pair) (x_l : List GPattern) : Option Gtidegateref22_Pair :=
 if Ar.cmp .eql (Ar.len x_l) 0 = true then
  some x_x
 else
  if x_x.Done = true then
   (appL ([]) x_l).bind fun l2 =>
   (ref22_seq N l2).bind fun r3 =>
   some (⟨x_x.Edge, false, r3⟩ : Gtidegateref22_Pair)
  else
   (appL ([x_x.Rest]) x_l).bind fun l4 =>
   (ref22_seq N l4).bind fun r5 =>
   some (⟨x_x.Edge, false, r5⟩ : Gtidegateref22_Pair)
def ref22_repeated (N : Nat) (x_body : GPattern) (x_x : Gtidegateref22_Pair) : Option (List Gtidegateref22_Pair) :=
 if x_x.Done = true then
  some ([x_x, (⟨x_x.Edge, false, (⟨4, [x_body], 0, 0, 0, 0, (⟨0, [], 0, 0, 0, (⟨0, 0, ⟨#[]⟩⟩ : GValue)⟩ : GExpr)⟩ : GPattern)⟩ : Gtidegateref22_Pair)])
 else
  some ([(⟨x_x.Edge, false, (⟨8, [x_x.Rest, x_body], 0, 0, 0, 0, (⟨0, [], 0, 0, 0, (⟨0, 0, ⟨#[]⟩⟩ : GValue)⟩ : GExpr)⟩ : GPattern)⟩ : Gtidegateref22_Pair)])
def ref22_node (N : Nat) (x_op : Int) (x_p : GPattern) (x_arg : GPattern) : Option GPattern :=
 some ({ x_p with Op := x_op, Args := [x_arg] })
def ref22_first (N : Nat) (x_n : Int) (x_l : List Int) : Option (List Int) :=
 (appL ([x_n]) x_l).bind fun l2 =>
 some l2
def ref22_last (N : Nat) (x_l : List Int) (x_n : Int) : Option (List Int) :=
 (appL ([]) x_l).bind fun l2 =>
 (appL l2 ([x_n])).bind fun l4 =>
 some l4
def ref22_scoped (N : Nat) (x_p : GPattern) (x_x : Gtidegateref22_Pair) : Option Gtidegateref22_Pair :=
 (ref09_Negates N x_p).bind fun r3 =>
 ((
  if r3 = true then
   (ref22_first N x_p.Scope x_x.Edge.Inside).bind fun r5 =>
   some (9, { x_x.Edge with Inside := r5 })
  else
   (appL ([(⟨x_p.Scope, x_p.Span⟩ : GLimit)]) x_x.Edge.Limits).bind fun l6 =>
   some (10, { x_x.Edge with Limits := l6 })
 ) : Option ((Int × GEdge))).bind fun s4 =>
 ((
  if Ar.or (Ar.cmp .eql x_p.Op 5) (Ar.cmp .eql x_p.Op 6) = true then
   (ref22_first N x_p.Scope s4.2.Opens).bind fun r8 =>
   some ({ s4.2 with Opens := r8 })
  else
   some s4.2
 ) : Option (GEdge)).bind fun s7 =>
 if x_x.Done = true then
  (ref22_last N s7.Closes x_p.Scope).bind fun r9 =>
  some (⟨{ s7 with Closes := r9 }, true, (⟨0, [], 0, 0, 0, 0, (⟨0, [], 0, 0, 0, (⟨0, 0, ⟨#[]⟩⟩ : GValue)⟩ : GExpr)⟩ : GPattern)⟩ : Gtidegateref22_Pair)
 else
  (ref22_node N s4.1 x_p x_x.Rest).bind fun r10 =>
  some (⟨s7, false, r10⟩ : Gtidegateref22_Pair)
def ref22_one (N : Nat) (x_p : GPattern) (x_x : Gtidegateref22_Pair) : Option (List Gtidegateref22_Pair) :=
 if Ar.cmp .eql x_p.Op 1 = true then
  (sliceL x_p.Args (some 1) none none).bind fun l1 =>
  (ref22_continued N x_x l1).bind fun r3 =>
  some ([r3])
 else
  if Ar.cmp .eql x_p.Op 4 = true then
   (idxL x_p.Args 0).bind fun x4 =>
   (ref22_repeated N x4 x_x).bind fun r5 =>
   some r5
  else
   if Ar.cmp .eql x_p.Op 8 = true then
    (idxL x_p.Args 1).bind fun x6 =>
    (ref22_repeated N x6 x_x).bind fun r7 =>
    some r7
   else
    if Ar.cmp .eql x_p.Op 7 = true then
     if x_x.Done = true then
      (appL ([]) x_x.Edge.Checks).bind fun l9 =>
      (appL l9 ([x_p.Cond])).bind fun l10 =>
      some ([(⟨{ x_x.Edge with Checks := l10 }, true, (⟨0, [], 0, 0, 0, 0, (⟨0, [], 0, 0, 0, (⟨0, 0, ⟨#[]⟩⟩ : GValue)⟩ : GExpr)⟩ : GPattern)⟩ : Gtidegateref22_Pair)])
     else
      (ref22_node N 7 x_p x_x.Rest).bind fun r11 =>
      some ([(⟨x_x.Edge, false, r11⟩ : Gtidegateref22_Pair)])
    else
     (ref22_scoped N x_p x_x).bind fun r12 =>
     some ([r12])
def ref22_Pairs (N : Nat) : Nat → GPattern → Option (List Gtidegateref22_Pair)
 | 0, _ => none
 | n + 1, x_p =>
  if Ar.cmp .eql x_p.Op 0 = true then
   some ([(⟨(⟨0, 0, x_p.Var, x_p.Typ, x_p.Cond, [], [], [], [], []⟩ : GEdge), true, (⟨0, [], 0, 0, 0, 0, (⟨0, [], 0, 0, 0, (⟨0, 0, ⟨#[]⟩⟩ : GValue)⟩ : GExpr)⟩ : GPattern)⟩ : Gtidegateref22_Pair)])
  else
   if Ar.or (Ar.cmp .eql x_p.Op 2) (Ar.cmp .eql x_p.Op 3) = true then
    (loopN
     (fun (s1 : (List Gtidegateref22_Pair) × Int) =>
      (
       if Ar.cmp .lss s1.2 (Ar.len x_p.Args) = true then
        (idxL x_p.Args s1.2).bind fun x4 =>
        (ref22_Pairs N n x4).bind fun r5 =>
        (loopN
         (fun (s6 : (List Gtidegateref22_Pair) × Int) =>
          (
           if Ar.cmp .lss s6.2 (Ar.len r5) = true then
            (idxL r5 s6.2).bind fun x9 =>
            if Ar.cmp .eql x_p.Op 3 = true then
             (ref22_joined N x9 x_p s1.2).bind fun r11 =>
             (ref22_with N s6.1 r11).bind fun l12 =>
             some (.inl (l12, Ar.ar .add .i64 s6.2 1))
            else
             (ref22_with N s6.1 x9).bind fun l15 =>
             some (.inl (l15, Ar.ar .add .i64 s6.2 1))
           else
            some (.inr s6.1)
           : Option (((List Gtidegateref22_Pair) × Int) ⊕ (((List Gtidegateref22_Pair))))))
         N (s1.1, 0)).bind fun s8 =>
        some (.inl (s8, Ar.ar .add .i64 s1.2 1))
       else
        some (.inr s1.1)
       : Option (((List Gtidegateref22_Pair) × Int) ⊕ (((List Gtidegateref22_Pair))))))
     N ([], 0)).bind fun s3 =>
    some s3
   else
    (idxL x_p.Args 0).bind fun x20 =>
    (ref22_Pairs N n x20).bind fun r21 =>
    (loopN
     (fun (s22 : (List Gtidegateref22_Pair) × Int) =>
      (
       if Ar.cmp .lss s22.2 (Ar.len r21) = true then
        (idxL r21 s22.2).bind fun x25 =>
        (ref22_one N x_p x25).bind fun r26 =>
        (loopN
         (fun (s27 : (List Gtidegateref22_Pair) × Int) =>
          (
           if Ar.cmp .lss s27.2 (Ar.len r26) = true then
            (idxL r26 s27.2).bind fun x30 =>
            (ref22_with N s27.1 x30).bind fun l31 =>
            some (.inl (l31, Ar.ar .add .i64 s27.2 1))
           else
            some (.inr s27.1)
           : Option (((List Gtidegateref22_Pair) × Int) ⊕ (((List Gtidegateref22_Pair))))))
         N (s22.1, 0)).bind fun s29 =>
        some (.inl (s29, Ar.ar .add .i64 s22.2 1))
       else
        some (.inr s22.1)
       : Option (((List Gtidegateref22_Pair) × Int) ⊕ (((List Gtidegateref22_Pair))))))
     N ([], 0)).bind fun s24 =>
    some s24
def ref22_index (N : Nat) (x_l : List GPattern) (x_p : GPattern) : Option Int :=
 (loopN
  (fun (s1 : Int) =>
   (
    if Ar.cmp .lss s1 (Ar.len x_l) = true then
     (idxL x_l s1).bind fun x3 =>
     (ref09_Same N N x3 x_p).bind fun r4 =>
     if r4 = true then
      some (.inr (.inr s1))
     else
      some (.inl (Ar.ar .add .i64 s1 1))
    else
     some (.inr (.inl ()))
    : Option ((Int) ⊕ (Unit ⊕ Int))))
  N 0).bind fun s2 =>
 match s2 with
 | .inl y5 =>
  some (-1)
 | .inr y6 =>
  some y6
def ref22_Derive (N : Nat) (x_p : GPattern) : Option ((List GEdge) × (List GPattern) × Int) :=
 (ref09_CheckRest N x_p).bind fun r1 =>
 if Ar.cmp .neq r1 0 = true then
  some ([], [], r1)
 else
  (ref22_Pairs N N x_p).bind fun r2 =>
  if Ar.cmp .gtr (Ar.len r2) 2048 = true then
   some ([], [], 17)
  else
   (loopN
    (fun (s3 : (List GEdge) × (List GPattern) × Int) =>
     (
      if Ar.cmp .lss s3.2.2 (Ar.len r2) = true then
       (idxL r2 s3.2.2).bind fun x7 =>
       (idxL r2 s3.2.2).bind fun x9 =>
       if Ar.nt x9.Done = true then
        (idxL r2 s3.2.2).bind fun x10 =>
        (ref09_CheckRest N x10.Rest).bind fun r11 =>
        if Ar.cmp .neq r11 0 = true then
         some (.inr (.inr ()))
        else
         (idxL r2 s3.2.2).bind fun x12 =>
         (ref22_index N s3.2.1 x12.Rest).bind fun r13 =>
         if Ar.cmp .lss r13 0 = true then
          (idxL r2 s3.2.2).bind fun x14 =>
          (appL s3.2.1 ([x14.Rest])).bind fun l16 =>
          (appL s3.1 ([{ x7.Edge with To := Ar.len s3.2.1 }])).bind fun l18 =>
          some (.inl (l18, l16, Ar.ar .add .i64 s3.2.2 1))
         else
          (appL s3.1 ([{ x7.Edge with To := r13 }])).bind fun l20 =>
          some (.inl (l20, s3.2.1, Ar.ar .add .i64 s3.2.2 1))
       else
        (appL s3.1 ([{ x7.Edge with To := (-1) }])).bind fun l22 =>
        some (.inl (l22, s3.2.1, Ar.ar .add .i64 s3.2.2 1))
      else
       some (.inr (.inl (s3.1, s3.2.1)))
      : Option (((List GEdge) × (List GPattern) × Int) ⊕ (((List GEdge) × (List GPattern)) ⊕ Unit))))
    N ([], [], 0)).bind fun s6 =>
   match s6 with
   | .inl y23 =>
    some (y23.1, y23.2, 0)
   | .inr y26 =>
    some ([], [], 17)
def ref22_SameEdges (N : Nat) (x_a : List GEdge) (x_b : List GEdge) : Option Bool :=
 if Ar.cmp .neq (Ar.len x_a) (Ar.len x_b) = true then
  some false
 else
  (loopN
   (fun (s1 : Int) =>
    (
     if Ar.cmp .lss s1 (Ar.len x_a) = true then
      (idxL x_a s1).bind fun x3 =>
      (idxL x_b s1).bind fun x4 =>
      if Ar.cmp .neq x3.From x4.From = true then
       some (.inr (.inr ()))
      else
       (idxL x_a s1).bind fun x5 =>
       (idxL x_b s1).bind fun x6 =>
       if Ar.cmp .neq x5.To x6.To = true then
        some (.inr (.inr ()))
       else
        (idxL x_a s1).bind fun x7 =>
        (idxL x_b s1).bind fun x8 =>
        (ref22_SameEdge N x7 x8).bind fun r9 =>
        if Ar.nt r9 = true then
         some (.inr (.inr ()))
        else
         some (.inl (Ar.ar .add .i64 s1 1))
     else
      some (.inr (.inl ()))
     : Option ((Int) ⊕ (Unit ⊕ Unit))))
   N 0).bind fun s2 =>
  match s2 with
  | .inl y10 =>
   some true
  | .inr y11 =>
   some false
def law22_DerivativeDerives (N : Nat) (x_p : GPattern) : Option Bool :=
 (ref09_Few N x_p).bind fun r1 =>
 if Ar.nt r1 = true then
  (law22_awake N).bind fun r2 =>
  some r2
 else
  (ref09_CheckRest N x_p).bind fun r3 =>
  if Ar.cmp .eql r3 0 = true then
   (ref09_Small N x_p).bind fun r4 =>
   if Ar.nt r4 = true then
    (law22_awake N).bind fun r5 =>
    some r5
   else
    (derivative_Derive N x_p).bind fun r6 =>
    (ref22_Derive N x_p).bind fun r7 =>
    (ref22_SameEdges N r6.1 r7.1).bind fun r8 =>
    if r8 = true then
     (ref22_SameAll N r6.2.1 r7.2.1).bind fun r9 =>
     if Ar.an r9 (Ar.cmp .eql r6.2.2 r7.2.2) = true then
      (law22_awake N).bind fun r10 =>
      some r10
     else
      some false
    else
     some false
  else
   (derivative_Derive N x_p).bind fun r11 =>
   (ref22_Derive N x_p).bind fun r12 =>
   (ref22_SameEdges N r11.1 r12.1).bind fun r13 =>
   if r13 = true then
    (ref22_SameAll N r11.2.1 r12.2.1).bind fun r14 =>
    if Ar.an r14 (Ar.cmp .eql r11.2.2 r12.2.2) = true then
     (law22_awake N).bind fun r15 =>
     some r15
    else
     some false
   else
    some false
def ref09_proper (N : Nat) (x_l : List GPattern) : Option Bool :=
 (loopN
  (fun (s1 : Int) =>
   (
    if Ar.cmp .lss s1 (Ar.len x_l) = true then
     (idxL x_l s1).bind fun x3 =>
     if Ar.cmp .geq x3.Op 8 = true then
      some (.inr (.inr ()))
     else
      some (.inl (Ar.ar .add .i64 s1 1))
    else
     some (.inr (.inl ()))
    : Option ((Int) ⊕ (Unit ⊕ Unit))))
  N 0).bind fun s2 =>
 match s2 with
 | .inl y4 =>
  some true
 | .inr y5 =>
  some false
def ref09_Check (N : Nat) (x_p : GPattern) : Option Int :=
 (ref09_CheckRest N x_p).bind fun r1 =>
 if Ar.cmp .neq r1 0 = true then
  some r1
 else
  (ref09_Nodes N N x_p).bind fun r2 =>
  (ref09_proper N r2).bind fun r3 =>
  if Ar.nt r3 = true then
   some 1
  else
   (loopN
    (fun (s4 : Int × Int × Int) =>
     (
      if Ar.cmp .lss s4.2.2 (Ar.len r2) = true then
       (idxL r2 s4.2.2).bind fun x6 =>
       (ref09_variable N x6).bind fun r7 =>
       ((
        if r7 = true then
         (idxL r2 s4.2.2).bind fun x9 =>
         if Ar.cmp .neq x9.Var s4.1 = true then
          some (.inr ())
         else
          some (.inl (Ar.ar .add .i64 s4.1 1))
        else
         some (.inl s4.1)
       ) : Option (Int ⊕ Unit)).bind fun s8 =>
       match s8 with
       | .inl y10 =>
        (idxL r2 s4.2.2).bind fun x11 =>
        (ref09_Negates N x11).bind fun r12 =>
        if r12 = true then
         (idxL r2 s4.2.2).bind fun x13 =>
         if Ar.cmp .neq x13.Scope s4.2.1 = true then
          some (.inr (.inr ()))
         else
          some (.inl (y10, Ar.ar .add .i64 s4.2.1 1, Ar.ar .add .i64 s4.2.2 1))
        else
         (idxL r2 s4.2.2).bind fun x14 =>
         (ref09_Times N x14).bind fun r15 =>
         if r15 = true then
          (idxL r2 s4.2.2).bind fun x16 =>
          if Ar.cmp .neq x16.Scope s4.2.1 = true then
           some (.inr (.inr ()))
          else
           some (.inl (y10, Ar.ar .add .i64 s4.2.1 1, Ar.ar .add .i64 s4.2.2 1))
         else
          some (.inl (y10, s4.2.1, Ar.ar .add .i64 s4.2.2 1))
       | .inr y17 =>
        some (.inr (.inr ()))
      else
       some (.inr (.inl ()))
      : Option ((Int × Int × Int) ⊕ (Unit ⊕ Unit))))
    N (0, 0, 0)).bind fun s5 =>
   match s5 with
   | .inl y18 =>
    some 0
   | .inr y19 =>
    some 14
def ref22_Residuals (N : Nat) (x_p : GPattern) : Option ((List GPattern) × Int) :=
 (ref09_Check N x_p).bind fun r1 =>
 if Ar.cmp .neq r1 0 = true then
  some ([], r1)
 else
  (loopN
   (fun (s2 : (List GPattern) × Int) =>
    (
     if Ar.cmp .lss s2.2 (Ar.len s2.1) = true then
      (idxL s2.1 s2.2).bind fun x5 =>
      (ref22_Derive N x5).bind fun r6 =>
      if Ar.cmp .neq r6.2.2 0 = true then
       some (.inr (.inr ()))
      else
       (loopN
        (fun (s7 : (List GPattern) × Int) =>
         (
          if Ar.cmp .lss s7.2 (Ar.len r6.2.1) = true then
           (idxL r6.2.1 s7.2).bind fun x10 =>
           (ref22_index N s7.1 x10).bind fun r11 =>
           if Ar.cmp .lss r11 0 = true then
            (idxL r6.2.1 s7.2).bind fun x12 =>
            (appL s7.1 ([x12])).bind fun l14 =>
            some (.inl (l14, Ar.ar .add .i64 s7.2 1))
           else
            some (.inl (s7.1, Ar.ar .add .i64 s7.2 1))
          else
           some (.inr s7.1)
          : Option (((List GPattern) × Int) ⊕ (((List GPattern))))))
        N (s2.1, 0)).bind fun s9 =>
       if Ar.cmp .gtr (Ar.len s9) 256 = true then
        some (.inr (.inr ()))
       else
        some (.inl (s9, Ar.ar .add .i64 s2.2 1))
     else
      some (.inr (.inl s2.1))
     : Option (((List GPattern) × Int) ⊕ (((List GPattern)) ⊕ Unit))))
   N ([x_p], 0)).bind fun s4 =>
  match s4 with
  | .inl y16 =>
   some (y16, 0)
  | .inr y18 =>
   some ([], 17)
def law22_DerivativeResiduals (N : Nat) (x_p : GPattern) : Option Bool :=
 (ref09_Few N x_p).bind fun r1 =>
 if Ar.nt r1 = true then
  (law22_awake N).bind fun r2 =>
  some r2
 else
  (ref09_CheckRest N x_p).bind fun r3 =>
  if Ar.cmp .eql r3 0 = true then
   (ref09_Small N x_p).bind fun r4 =>
   if Ar.nt r4 = true then
    (law22_awake N).bind fun r5 =>
    some r5
   else
    (derivative_Residuals N x_p).bind fun r6 =>
    (ref22_Residuals N x_p).bind fun r7 =>
    (ref22_SameAll N r6.1 r7.1).bind fun r8 =>
    if Ar.an r8 (Ar.cmp .eql r6.2 r7.2) = true then
     (law22_awake N).bind fun r9 =>
     some r9
    else
     some false
  else
   (derivative_Residuals N x_p).bind fun r10 =>
   (ref22_Residuals N x_p).bind fun r11 =>
   (ref22_SameAll N r10.1 r11.1).bind fun r12 =>
   if Ar.an r12 (Ar.cmp .eql r10.2 r11.2) = true then
    (law22_awake N).bind fun r13 =>
    some r13
   else
    some false
end Go.Ab

