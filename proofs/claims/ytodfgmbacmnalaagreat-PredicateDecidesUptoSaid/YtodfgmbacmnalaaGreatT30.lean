/- GQSp -/
import Derived.Test.YtodfgmbacmnalaaGreatT29
import Derived.Test.YtodfgmbacmnalaaGreatT25
import Derived.Test.YtodfgmbacmnalaaGreatT26
set_option linter.all false

namespace Go.Ab
variable [Ar]
def ref08_Count (N : Nat) : Nat → GExpr → Int → Option Int
 | 0, _, _ => none
 | n + 1, x_e, x_limit =>
  (loopN
   (fun (s1 : Int × Int) =>
    (
     if Ar.an (Ar.cmp .lss s1.2 (Ar.len x_e.Args)) (Ar.cmp .leq s1.1 x_limit) = true then
      (idxL x_e.Args s1.2).bind fun x3 =>
      (ref08_Count N n x3 x_limit).bind fun r4 =>
      some (.inl (Ar.ar .add .i64 s1.1 r4, Ar.ar .add .i64 s1.2 1))
     else
      some (.inr s1.1)
     : Option ((Int × Int) ⊕ (Int))))
   N (1, 0)).bind fun s2 =>
  some s2
def ref08_Depth (N : Nat) : Nat → GExpr → Option Int
 | 0, _ => none
 | n + 1, x_e =>
  (loopN
   (fun (s1 : Int × Int) =>
    (
     if Ar.cmp .lss s1.2 (Ar.len x_e.Args) = true then
      (idxL x_e.Args s1.2).bind fun x3 =>
      (ref08_Depth N n x3).bind fun r4 =>
      some (.inl (Ar.mx s1.1 r4, Ar.ar .add .i64 s1.2 1))
     else
      some (.inr s1.1)
     : Option ((Int × Int) ⊕ (Int))))
   N (0, 0)).bind fun s2 =>
  some (Ar.ar .add .i64 s2 1)
def ref08_Few (N : Nat) (x_e : GExpr) : Option Bool :=
 (ref08_Count N N x_e 200).bind fun r1 =>
 if Ar.cmp .leq r1 200 = true then
  (ref08_Depth N N x_e).bind fun r2 =>
  some (Ar.cmp .leq r2 100)
 else
  some false
def schema_digit (N : Nat) (x_c : Int) : Option Bool :=
 some (Ar.an (Ar.cmp .geq x_c 48) (Ar.cmp .leq x_c 57))
def schema_letter (N : Nat) (x_c : Int) : Option Bool :=
 some (Ar.or (Ar.or (Ar.cmp .eql x_c 95) (Ar.an (Ar.cmp .geq x_c 97) (Ar.cmp .leq x_c 122))) (Ar.an (Ar.cmp .geq x_c 65) (Ar.cmp .leq x_c 90)))
def schema_name (N : Nat) (x_s : ByteArray) : Option Bool :=
 if Ar.or (Ar.cmp .eql (Ar.slen x_s) 0) (Ar.cmp .gtr (Ar.slen x_s) 24) = true then
  some false
 else
  (req (Ar.an (Ar.cmp .geq 0 0) (Ar.cmp .lss 0 (Ar.slen x_s)))).bind fun _ =>
  (schema_digit N (Ar.sat x_s 0)).bind fun r1 =>
  if r1 = true then
   some false
  else
   (loopN
    (fun (s2 : Int) =>
     (
      if Ar.cmp .lss s2 (Ar.slen x_s) = true then
       (req (Ar.an (Ar.cmp .geq s2 0) (Ar.cmp .lss s2 (Ar.slen x_s)))).bind fun _ =>
       (schema_letter N (Ar.sat x_s s2)).bind fun r4 =>
       if Ar.nt r4 = true then
        (req (Ar.an (Ar.cmp .geq s2 0) (Ar.cmp .lss s2 (Ar.slen x_s)))).bind fun _ =>
        (schema_digit N (Ar.sat x_s s2)).bind fun r5 =>
        if Ar.nt r5 = true then
         some (.inr (.inr ()))
        else
         some (.inl (Ar.ar .add .i64 s2 1))
       else
        some (.inl (Ar.ar .add .i64 s2 1))
      else
       some (.inr (.inl ()))
      : Option ((Int) ⊕ (Unit ⊕ Unit))))
    N 0).bind fun s3 =>
   match s3 with
   | .inl y6 =>
    some true
   | .inr y7 =>
    some false
def schema_fieldName (N : Nat) (x_s : ByteArray) : Option Bool :=
 (schema_name N x_s).bind fun r1 =>
 some (Ar.an r1 (Ar.scmp .neq x_s (⟨#[116, 105, 109, 101]⟩ : ByteArray)))
def schema_Check (N : Nat) (x_s : GSchema) : Option Int :=
 (schema_name N x_s.Name).bind fun r1 =>
 if Ar.nt r1 = true then
  some 8
 else
  if Ar.cmp .gtr (Ar.len x_s.Fields) 8 = true then
   some 5
  else
   (loopN
    (fun (s4 : Int × (List (ByteArray × Bool))) =>
     (
      if Ar.cmp .lss s4.1 (Ar.len x_s.Fields) = true then
       (idxL x_s.Fields s4.1).bind fun x7 =>
       (schema_fieldName N x7.Name).bind fun r8 =>
       if Ar.nt r8 = true then
        some (.inr (.inr (8, s4.2)))
       else
        (getM s4.2 x7.Name (false : Bool)).bind fun r9 =>
        if r9.1 = true then
         some (.inr (.inr (7, s4.2)))
        else
         if Ar.or (Ar.cmp .lss x7.Kind 0) (Ar.cmp .geq x7.Kind 3) = true then
          some (.inr (.inr (1, s4.2)))
         else
          (setM s4.2 x7.Name true).bind fun l11 =>
          some (.inl (Ar.ar .add .i64 s4.1 1, l11))
      else
       some (.inr (.inl s4.2))
      : Option ((Int × (List (ByteArray × Bool))) ⊕ (((List (ByteArray × Bool))) ⊕ (Int × (List (ByteArray × Bool)))))))
    N (0, ([] : List (ByteArray × Bool)))).bind fun s6 =>
   match s6 with
   | .inl y12 =>
    some 0
   | .inr y14 =>
    some y14.1
def schema_CheckAll (N : Nat) (x_l : List GSchema) : Option Int :=
 if Ar.cmp .gtr (Ar.len x_l) 16 = true then
  some 5
 else
  (loopN
   (fun (s3 : Int × (List (ByteArray × Bool))) =>
    (
     if Ar.cmp .lss s3.1 (Ar.len x_l) = true then
      (idxL x_l s3.1).bind fun x6 =>
      (schema_Check N x6).bind fun r7 =>
      if Ar.cmp .neq r7 0 = true then
       some (.inr (.inr (r7, s3.2)))
      else
       (getM s3.2 x6.Name (false : Bool)).bind fun r8 =>
       if r8.1 = true then
        some (.inr (.inr (7, s3.2)))
       else
        (setM s3.2 x6.Name true).bind fun l10 =>
        some (.inl (Ar.ar .add .i64 s3.1 1, l10))
     else
      some (.inr (.inl s3.2))
     : Option ((Int × (List (ByteArray × Bool))) ⊕ (((List (ByteArray × Bool))) ⊕ (Int × (List (ByteArray × Bool)))))))
   N (0, ([] : List (ByteArray × Bool)))).bind fun s5 =>
  match s5 with
  | .inl y11 =>
   some 0
  | .inr y13 =>
   some y13.1
def expr_Size (N : Nat) : Nat → GExpr → Option (Int × Int)
 | 0, _ => none
 | n + 1, x_e =>
  (loopN
   (fun (s1 : Int × Int × Int) =>
    (
     if Ar.cmp .lss s1.2.2 (Ar.len x_e.Args) = true then
      (idxL x_e.Args s1.2.2).bind fun x3 =>
      (expr_Size N n x3).bind fun r4 =>
      some (.inl (Ar.ar .add .i64 s1.1 r4.1, Ar.mx s1.2.1 r4.2, Ar.ar .add .i64 s1.2.2 1))
     else
      some (.inr (s1.1, s1.2.1))
     : Option ((Int × Int × Int) ⊕ ((Int × Int)))))
   N (1, 0, 0)).bind fun s2 =>
  some (s2.1, Ar.ar .add .i64 s2.2 1)
def expr_visit (N : Nat) : Nat → GExpr → (GExpr → Option Int) → Option Int
 | 0, _, _ => none
 | n + 1, x_e, x_f =>
  (x_f x_e).bind fun r1 =>
  if Ar.cmp .neq r1 0 = true then
   some r1
  else
   (loopN
    (fun (s2 : Int) =>
     (
      if Ar.cmp .lss s2 (Ar.len x_e.Args) = true then
       (idxL x_e.Args s2).bind fun x4 =>
       (expr_visit N n x4 x_f).bind fun r5 =>
       if Ar.cmp .neq r5 0 = true then
        some (.inr (.inr r5))
       else
        some (.inl (Ar.ar .add .i64 s2 1))
      else
       some (.inr (.inl ()))
      : Option ((Int) ⊕ (Unit ⊕ Int))))
    N 0).bind fun s3 =>
   match s3 with
   | .inl y6 =>
    some 0
   | .inr y7 =>
    some y7
def expr_arity (N : Nat) (x_op : Int) : Option (Int × Bool) :=
 if Ar.or (Ar.cmp .lss x_op 0) (Ar.cmp .gtr x_op 12) = true then
  some (0, false)
 else
  if Ar.cmp .lss x_op 5 = true then
   some (0, true)
  else
   if Ar.cmp .eql x_op 12 = true then
    some (1, true)
   else
    some (2, true)
def expr_uses (N : Nat) (x_op : Int) : Option (Bool × Bool) :=
 ((
  if Ar.cmp .eql x_op 1 = true then
   some true
  else
   some (Ar.cmp .eql x_op 4)
 ) : Option (Bool)).bind fun s1 =>
 if s1 = true then
  some (true, true)
 else
  if Ar.cmp .eql x_op 2 = true then
   some (true, false)
  else
   if Ar.cmp .eql x_op 3 = true then
    some (true, false)
   else
    some (false, false)
def value_size (N : Nat) (x_v : GValue) : Option Int :=
 if Ar.an (Ar.cmp .eql x_v.Kind 0) (Ar.or (Ar.cmp .lss x_v.Num (-1099511627776)) (Ar.cmp .gtr x_v.Num 1099511627776)) = true then
  some 2
 else
  if Ar.an (Ar.an (Ar.cmp .eql x_v.Kind 1) (Ar.cmp .neq x_v.Num 0)) (Ar.cmp .neq x_v.Num 1) = true then
   some 2
  else
   if Ar.cmp .gtr (Ar.slen x_v.Text) 64 = true then
    some 13
   else
    some 0
def value_Check (N : Nat) (x_v : GValue) : Option Int :=
 ((
  if Ar.cmp .eql x_v.Kind 0 = true then
   some true
  else
   some (Ar.cmp .eql x_v.Kind 1)
 ) : Option (Bool)).bind fun s1 =>
 if s1 = true then
  if Ar.scmp .neq x_v.Text (⟨#[]⟩ : ByteArray) = true then
   some 3
  else
   (value_size N x_v).bind fun r2 =>
   some r2
 else
  if Ar.cmp .eql x_v.Kind 2 = true then
   if Ar.cmp .neq x_v.Num 0 = true then
    some 3
   else
    (value_size N x_v).bind fun r3 =>
    some r3
  else
   some 1
def expr_suits (N : Nat) (x_kind : Int) (x_v : GValue) : Option Bool :=
 some (Ar.or (Ar.or (Ar.cmp .eql x_v.Kind 0) (Ar.cmp .eql x_kind 4)) (Ar.cmp .eql x_kind 5))
def expr_constants (N : Nat) (x_e : GExpr) : Option Int :=
 (value_Check N x_e.Value).bind fun r1 =>
 if Ar.cmp .neq r1 0 = true then
  some r1
 else
  if Ar.cmp .eql x_e.Op 4 = true then
   (expr_suits N x_e.Kind x_e.Value).bind fun r2 =>
   if Ar.or (Ar.nt r2) (Ar.an (Ar.cmp .eql x_e.Kind 1) (Ar.nt (Ar.an (Ar.cmp .eql x_e.Value.Kind 0) (Ar.an (Ar.cmp .eql x_e.Value.Num 0) (Ar.an (Ar.scmp .eql x_e.Value.Text (⟨#[]⟩)) true))))) = true then
    some 9
   else
    some 0
  else
   some 0
def expr_node (N : Nat) (x_e : GExpr) : Option Int :=
 (expr_arity N x_e.Op).bind fun r1 =>
 if Ar.nt r1.2 = true then
  some 1
 else
  if Ar.cmp .neq (Ar.len x_e.Args) r1.1 = true then
   some 15
  else
   (expr_uses N x_e.Op).bind fun r2 =>
   if Ar.or (Ar.an r2.1 (Ar.or (Ar.cmp .lss x_e.Var 0) (Ar.cmp .geq x_e.Var 16))) (Ar.an r2.2 (Ar.or (Ar.cmp .lss x_e.Field 0) (Ar.cmp .geq x_e.Field 8))) = true then
    some 2
   else
    if Ar.an (Ar.cmp .eql x_e.Op 4) (Ar.or (Ar.cmp .lss x_e.Kind 1) (Ar.cmp .gtr x_e.Kind 5)) = true then
     some 1
    else
     ((
      if Ar.or (Ar.cmp .eql x_e.Op 4) (Ar.cmp .eql x_e.Op 0) = true then
       (expr_constants N x_e).bind fun r4 =>
       if Ar.cmp .neq r4 0 = true then
        some (.inr r4)
       else
        some (.inl ())
      else
       some (.inl ())
     ) : Option (Unit ⊕ Int)).bind fun s3 =>
     match s3 with
     | .inl y5 =>
      if Ar.or (Ar.or (Ar.or (Ar.an (Ar.nt r2.1) (Ar.cmp .neq x_e.Var 0)) (Ar.an (Ar.nt r2.2) (Ar.cmp .neq x_e.Field 0))) (Ar.an (Ar.nt (Ar.cmp .eql x_e.Op 4)) (Ar.cmp .neq x_e.Kind 0))) (Ar.an (Ar.nt (Ar.or (Ar.cmp .eql x_e.Op 4) (Ar.cmp .eql x_e.Op 0))) (Ar.nt (Ar.an (Ar.cmp .eql x_e.Value.Kind 0) (Ar.an (Ar.cmp .eql x_e.Value.Num 0) (Ar.an (Ar.scmp .eql x_e.Value.Text (⟨#[]⟩)) true))))) = true then
       some 3
      else
       some 0
     | .inr y6 =>
      some y6
def expr_Check (N : Nat) (x_e : GExpr) : Option Int :=
 (expr_Size N N x_e).bind fun r1 =>
 if Ar.cmp .gtr r1.1 64 = true then
  some 5
 else
  if Ar.cmp .gtr r1.2 12 = true then
   some 12
  else
   (expr_visit N N x_e (fun y1 => expr_node N y1)).bind fun r2 =>
   some r2
def expr_typer_leaf (N : Nat) (x_t : Gexpr_typer) (x_e : GExpr) : Option (Int × Int) :=
 if Ar.cmp .eql x_e.Op 0 = true then
  some (x_e.Value.Kind, 0)
 else
  if Ar.cmp .geq x_e.Var (Ar.len x_t.vars) = true then
   some (0, 6)
  else
   if Ar.or (Ar.cmp .eql x_e.Op 2) (Ar.cmp .eql x_e.Op 3) = true then
    some (0, 0)
   else
    (idxL x_t.vars x_e.Var).bind fun x1 =>
    (idxL x_t.types x1.Typ).bind fun x2 =>
    if Ar.cmp .geq x_e.Field (Ar.len x2.Fields) = true then
     some (0, 6)
    else
     (idxL x2.Fields x_e.Field).bind fun x3 =>
     if Ar.cmp .eql x_e.Op 4 = true then
      if Ar.cmp .neq x3.Kind x_e.Value.Kind = true then
       some (0, 9)
      else
       (expr_suits N x_e.Kind (⟨x3.Kind, 0, ⟨#[]⟩⟩ : GValue)).bind fun r4 =>
       if Ar.nt r4 = true then
        some (0, 9)
       else
        some (x3.Kind, 0)
     else
      some (x3.Kind, 0)
def expr_operands (N : Nat) (x_op : Int) (x_kinds : List Int) : Option Int :=
 (loopN
  (fun (s1 : Int) =>
   (
    if Ar.cmp .lss s1 (Ar.len x_kinds) = true then
     (idxL x_kinds s1).bind fun x3 =>
     ((
      if Ar.cmp .eql x_op 5 = true then
       some true
      else
       if Ar.cmp .eql x_op 6 = true then
        some true
       else
        if Ar.cmp .eql x_op 7 = true then
         some true
        else
         some (Ar.cmp .eql x_op 8)
     ) : Option (Bool)).bind fun s4 =>
     if s4 = true then
      if Ar.nt (Ar.cmp .eql x3 0) = true then
       some (.inr (.inr ()))
      else
       some (.inl (Ar.ar .add .i64 s1 1))
     else
      ((
       if Ar.cmp .eql x_op 10 = true then
        some true
       else
        if Ar.cmp .eql x_op 11 = true then
         some true
        else
         some (Ar.cmp .eql x_op 12)
      ) : Option (Bool)).bind fun s5 =>
      if s5 = true then
       if Ar.nt (Ar.cmp .eql x3 1) = true then
        some (.inr (.inr ()))
       else
        some (.inl (Ar.ar .add .i64 s1 1))
      else
       if Ar.cmp .eql x_op 9 = true then
        (idxL x_kinds 0).bind fun x6 =>
        if Ar.nt (Ar.cmp .eql x3 x6) = true then
         some (.inr (.inr ()))
        else
         some (.inl (Ar.ar .add .i64 s1 1))
       else
        some (.inl (Ar.ar .add .i64 s1 1))
    else
     some (.inr (.inl ()))
    : Option ((Int) ⊕ (Unit ⊕ Unit))))
  N 0).bind fun s2 =>
 match s2 with
 | .inl y7 =>
  some 0
 | .inr y8 =>
  some 9
def expr_typer_kind (N : Nat) : Nat → Gexpr_typer → GExpr → Option (Int × Int)
 | 0, _, _ => none
 | n + 1, x_t, x_e =>
  if Ar.cmp .eql (Ar.len x_e.Args) 0 = true then
   (expr_typer_leaf N x_t x_e).bind fun r1 =>
   some (r1.1, r1.2)
  else
   (loopN
    (fun (s2 : (List Int) × Int) =>
     (
      if Ar.cmp .lss s2.2 (Ar.len x_e.Args) = true then
       (idxL x_e.Args s2.2).bind fun x5 =>
       (expr_typer_kind N n x_t x5).bind fun r6 =>
       if Ar.cmp .neq r6.2 0 = true then
        some (.inr (.inr r6.2))
       else
        (appL s2.1 ([r6.1])).bind fun l8 =>
        some (.inl (l8, Ar.ar .add .i64 s2.2 1))
      else
       some (.inr (.inl s2.1))
      : Option (((List Int) × Int) ⊕ (((List Int)) ⊕ Int))))
    N ([], 0)).bind fun s4 =>
   match s4 with
   | .inl y9 =>
    (expr_operands N x_e.Op y9).bind fun r11 =>
    if Ar.cmp .neq r11 0 = true then
     some (0, r11)
    else
     if Ar.or (Ar.cmp .eql x_e.Op 5) (Ar.cmp .eql x_e.Op 6) = true then
      some (0, 0)
     else
      some (1, 0)
   | .inr y12 =>
    some (0, y12)
def expr_Kind (N : Nat) (x_types : List GSchema) (x_vars : List GVariable) (x_e : GExpr) : Option (Int × Int) :=
 (schema_CheckAll N x_types).bind fun r1 =>
 if Ar.cmp .neq r1 0 = true then
  some (0, r1)
 else
  if Ar.cmp .gtr (Ar.len x_vars) 16 = true then
   some (0, 5)
  else
   (loopN
    (fun (s2 : Int) =>
     (
      if Ar.cmp .lss s2 (Ar.len x_vars) = true then
       (idxL x_vars s2).bind fun x4 =>
       if Ar.or (Ar.cmp .lss x4.Typ 0) (Ar.cmp .geq x4.Typ (Ar.len x_types)) = true then
        some (.inr (.inr ()))
       else
        some (.inl (Ar.ar .add .i64 s2 1))
      else
       some (.inr (.inl ()))
      : Option ((Int) ⊕ (Unit ⊕ Unit))))
    N 0).bind fun s3 =>
   match s3 with
   | .inl y5 =>
    (expr_Check N x_e).bind fun r6 =>
    if Ar.cmp .neq r6 0 = true then
     some (0, r6)
    else
     (expr_typer_kind N N (⟨x_types, x_vars⟩ : Gexpr_typer) x_e).bind fun r7 =>
     some (r7.1, r7.2)
   | .inr y8 =>
    some (0, 6)
def bits_Mul64 (N : Nat) (x_x : Int) (x_y : Int) : Option (Int × Int) :=
 some (Ar.ar .add .u64 (Ar.ar .add .u64 (Ar.ar .mul .u64 (Ar.sh .shr .u64 x_x 32) (Ar.sh .shr .u64 x_y 32)) (Ar.sh .shr .u64 (Ar.ar .add .u64 (Ar.ar .mul .u64 (Ar.sh .shr .u64 x_x 32) (Ar.ar .and .u64 x_y 4294967295)) (Ar.sh .shr .u64 (Ar.ar .mul .u64 (Ar.ar .and .u64 x_x 4294967295) (Ar.ar .and .u64 x_y 4294967295)) 32)) 32)) (Ar.sh .shr .u64 (Ar.ar .add .u64 (Ar.ar .and .u64 (Ar.ar .add .u64 (Ar.ar .mul .u64 (Ar.sh .shr .u64 x_x 32) (Ar.ar .and .u64 x_y 4294967295)) (Ar.sh .shr .u64 (Ar.ar .mul .u64 (Ar.ar .and .u64 x_x 4294967295) (Ar.ar .and .u64 x_y 4294967295)) 32)) 4294967295) (Ar.ar .mul .u64 (Ar.ar .and .u64 x_x 4294967295) (Ar.sh .shr .u64 x_y 32))) 32), Ar.ar .mul .u64 x_x x_y)
def bits_Mul (N : Nat) (x_x : Int) (x_y : Int) : Option (Int × Int) :=
 (bits_Mul64 N x_x x_y).bind fun r1 =>
 some (r1.1, r1.2)
def slices_Repeat_LVariable_Variable (N : Nat) (x_x : List GVariable) (x_count : Int) : Option (List GVariable) :=
 ((
  if Ar.cmp .lss x_count 0 = true then
   none
  else
   some ()
 ) : Option (Unit)).bind fun s1 =>
 (bits_Mul N (Ar.wr .u64 (Ar.len x_x)) (Ar.wr .u64 x_count)).bind fun r2 =>
 ((
  if Ar.or (Ar.cmp .gtr r2.1 0) (Ar.cmp .gtr r2.2 9223372036854775807) = true then
   none
  else
   some ()
 ) : Option (Unit)).bind fun s3 =>
 (mkL (Ar.wr .i64 r2.2) (Ar.wr .i64 r2.2) ((⟨⟨#[]⟩, 0⟩ : GVariable) : GVariable)).bind fun l5 =>
 (copyE l5 0 x_x).bind fun p6 =>
 (loopN
  (fun (s7 : Int × (List GVariable)) =>
   (
    if Ar.cmp .lss s7.1 (Ar.len s7.2) = true then
     (sliceL s7.2 (some s7.1) none none).bind fun l11 =>
     (sliceL s7.2 none (some s7.1) none).bind fun l13 =>
     (copyE s7.2 s7.1 l13).bind fun p14 =>
     some (.inl (Ar.ar .add .i64 s7.1 p14.2, p14.1))
    else
     some (.inr s7.2)
    : Option ((Int × (List GVariable)) ⊕ (((List GVariable))))))
  N (p6.2, p6.1)).bind fun s9 =>
 some s9
def predicate_whole (N : Nat) : Option (List GInterval) :=
 some ([(⟨(-1099511627776), 1099511627776⟩ : GInterval)])
def predicate_linear (N : Nat) : Nat → GExpr → Int → Int → Option (Gpredicate_line × Bool)
 | 0, _, _, _ => none
 | n + 1, x_e, x_field, x_own =>
  if Ar.cmp .eql x_e.Op 0 = true then
   some ((⟨0, x_e.Value.Num⟩ : Gpredicate_line), Ar.cmp .eql x_e.Value.Kind 0)
  else
   if Ar.cmp .eql x_e.Op 1 = true then
    some ((⟨1, 0⟩ : Gpredicate_line), Ar.an (Ar.cmp .eql x_e.Var x_own) (Ar.cmp .eql x_e.Field x_field))
   else
    ((
     if Ar.cmp .eql x_e.Op 5 = true then
      some true
     else
      some (Ar.cmp .eql x_e.Op 6)
    ) : Option (Bool)).bind fun s2 =>
    if s2 = true then
     (idxL x_e.Args 0).bind fun x3 =>
     (predicate_linear N n x3 x_field x_own).bind fun r4 =>
     (idxL x_e.Args 1).bind fun x5 =>
     (predicate_linear N n x5 x_field x_own).bind fun r6 =>
     ((
      if Ar.cmp .eql x_e.Op 6 = true then
       some (⟨Ar.neg .i64 r6.1.times, Ar.neg .i64 r6.1.plus⟩ : Gpredicate_line)
      else
       some r6.1
     ) : Option (Gpredicate_line)).bind fun s8 =>
     some ((⟨Ar.ar .add .i64 r4.1.times s8.times, Ar.ar .add .i64 r4.1.plus s8.plus⟩ : Gpredicate_line), Ar.an r4.2 r6.2)
    else
     some ((⟨0, 0⟩ : Gpredicate_line), false)
def interval_limited (N : Nat) (x_l : List GInterval) : Option ((List GInterval) × Int) :=
 if Ar.cmp .gtr (Ar.len x_l) 256 = true then
  some ([], 5)
 else
  some (x_l, 0)
def interval_formed (N : Nat) (x_x : GInterval) : Option Int :=
 if Ar.or (Ar.or (Ar.or (Ar.cmp .lss x_x.Low (-1099511627776)) (Ar.cmp .gtr x_x.Low 1099511627776)) (Ar.cmp .lss x_x.High (-1099511627776))) (Ar.cmp .gtr x_x.High 1099511627776) = true then
  some 2
 else
  if Ar.cmp .gtr x_x.Low x_x.High = true then
   some 3
  else
   some 0
def interval_Check (N : Nat) (x_l : List GInterval) : Option Int :=
 if Ar.cmp .gtr (Ar.len x_l) 256 = true then
  some 5
 else
  (loopN
   (fun (s1 : Int) =>
    (
     if Ar.cmp .lss s1 (Ar.len x_l) = true then
      (idxL x_l s1).bind fun x3 =>
      (interval_formed N x3).bind fun r5 =>
      if Ar.cmp .neq r5 0 = true then
       some (.inr (.inr r5))
      else
       if Ar.cmp .gtr s1 0 = true then
        (idxL x_l (Ar.ar .sub .i64 s1 1)).bind fun x6 =>
        if Ar.cmp .lss x3.Low (Ar.ar .add .i64 x6.High 2) = true then
         some (.inr (.inr 14))
        else
         some (.inl (Ar.ar .add .i64 s1 1))
       else
        some (.inl (Ar.ar .add .i64 s1 1))
     else
      some (.inr (.inl ()))
     : Option ((Int) ⊕ (Unit ⊕ Int))))
   N 0).bind fun s2 =>
  match s2 with
  | .inl y7 =>
   some 0
  | .inr y8 =>
   some y8
def interval_both (N : Nat) (x_a : List GInterval) (x_b : List GInterval) : Option Int :=
 (interval_Check N x_a).bind fun r1 =>
 if Ar.cmp .neq r1 0 = true then
  some r1
 else
  (interval_Check N x_b).bind fun r2 =>
  some r2
def slices_BinarySearchFunc_LInterval_Interval_int (N : Nat) (x_x : List GInterval) (x_target : Int) (x_cmp : GInterval → Int → Option Int) : Option (Int × Bool) :=
 (loopN
  (fun (s1 : Int × Int) =>
   (
    if Ar.cmp .lss s1.1 s1.2 = true then
     (idxL x_x (Ar.wr .i64 (Ar.sh .shr .u64 (Ar.wr .u64 (Ar.ar .add .i64 s1.1 s1.2)) 1))).bind fun x3 =>
     (x_cmp x3 x_target).bind fun r4 =>
     if Ar.cmp .lss r4 0 = true then
      some (.inl (Ar.ar .add .i64 (Ar.wr .i64 (Ar.sh .shr .u64 (Ar.wr .u64 (Ar.ar .add .i64 s1.1 s1.2)) 1)) 1, s1.2))
     else
      some (.inl (s1.1, Ar.wr .i64 (Ar.sh .shr .u64 (Ar.wr .u64 (Ar.ar .add .i64 s1.1 s1.2)) 1)))
    else
     some (.inr s1.1)
    : Option ((Int × Int) ⊕ (Int))))
  N (0, Ar.len x_x)).bind fun s2 =>
 if Ar.cmp .lss s2 (Ar.len x_x) = true then
  (idxL x_x s2).bind fun x5 =>
  (x_cmp x5 x_target).bind fun r6 =>
  some (s2, Ar.cmp .eql r6 0)
 else
  some (s2, false)
def interval_has_1 (N : Nat) (x_x : GInterval) (x_n : Int) : Option Int :=
 if Ar.cmp .lss x_x.High x_n = true then
  some (-1)
 else
  if Ar.cmp .gtr x_x.Low x_n = true then
   some 1
  else
   some 0
def interval_has (N : Nat) (x_l : List GInterval) (x_n : Int) : Option Bool :=
 (slices_BinarySearchFunc_LInterval_Interval_int N x_l x_n (fun y1 y2 => interval_has_1 N y1 y2)).bind fun r1 =>
 some r1.2
def slices_Sort_Lint_int (N : Nat) (x_s : List Int) : Option (List Int) := sortL x_s
def slices_Compact_Lint_int (N : Nat) (x_s : List Int) : Option (List Int) := compactL x_s
def slices_Grow_LInterval_Interval (N : Nat) (x_s : List GInterval) (x_n : Int) : Option (List GInterval) := growL x_s x_n
def slices_Concat_LInterval_Interval (N : Nat) (x_slices : List (List GInterval)) : Option (List GInterval) :=
 (loopN
  (fun (s1 : Int × Int) =>
   (
    if Ar.cmp .lss s1.2 (Ar.len x_slices) = true then
     (idxL x_slices s1.2).bind fun x3 =>
     if Ar.cmp .lss (Ar.ar .add .i64 s1.1 (Ar.len x3)) 0 = true then
      none
     else
      some (.inl (Ar.ar .add .i64 s1.1 (Ar.len x3), Ar.ar .add .i64 s1.2 1))
    else
     some (.inr s1.1)
    : Option ((Int × Int) ⊕ (Int))))
  N (0, 0)).bind fun s2 =>
 (slices_Grow_LInterval_Interval N [] s2).bind fun l4 =>
 (loopN
  (fun (s6 : Int × (List GInterval)) =>
   (
    if Ar.cmp .lss s6.1 (Ar.len x_slices) = true then
     (idxL x_slices s6.1).bind fun x9 =>
     (appL s6.2 x9).bind fun l11 =>
     some (.inl (Ar.ar .add .i64 s6.1 1, l11))
    else
     some (.inr s6.2)
    : Option ((Int × (List GInterval)) ⊕ (((List GInterval))))))
  N (0, l4)).bind fun s8 =>
 some s8
def interval_push (N : Nat) (x_l : List GInterval) (x_x : GInterval) : Option (List GInterval) :=
 if Ar.cmp .gtr (Ar.len x_l) 0 = true then
  (req (inR x_l (Ar.ar .sub .i64 (Ar.len x_l) 1))).bind fun _ =>
  (idxL x_l (Ar.ar .sub .i64 (Ar.len x_l) 1)).bind fun x1 =>
  if Ar.cmp .leq x_x.Low (Ar.ar .add .i64 x1.High 1) = true then
   (req (inR x_l (Ar.ar .sub .i64 (Ar.len x_l) 1))).bind fun _ =>
   (idxL x_l (Ar.ar .sub .i64 (Ar.len x_l) 1)).bind fun x2 =>
   (req (inR x_l (Ar.ar .sub .i64 (Ar.len x_l) 1))).bind fun _ =>
   (updL x_l (Ar.ar .sub .i64 (Ar.len x_l) 1) (fun x3 : GInterval => { x3 with High := Ar.mx x2.High x_x.High })).bind fun l4 =>
   some l4
  else
   (appL x_l ([x_x])).bind fun l6 =>
   some l6
 else
  (appL x_l ([x_x])).bind fun l8 =>
  some l8
def interval_sweep (N : Nat) (x_a : List GInterval) (x_b : List GInterval) (x_belongs : Bool → Bool → Option Bool) : Option (List GInterval) :=
 (slices_Concat_LInterval_Interval N ([x_a, x_b])).bind fun r2 =>
 (loopN
  (fun (s3 : Int × (List Int)) =>
   (
    if Ar.cmp .lss s3.1 (Ar.len r2) = true then
     (idxL r2 s3.1).bind fun x6 =>
     (appL s3.2 ([x6.Low, Ar.ar .add .i64 x6.High 1])).bind fun l8 =>
     some (.inl (Ar.ar .add .i64 s3.1 1, l8))
    else
     some (.inr s3.2)
    : Option ((Int × (List Int)) ⊕ (((List Int))))))
  N (0, ([] : List Int))).bind fun s5 =>
 (slices_Sort_Lint_int N s5).bind fun l10 =>
 (slices_Compact_Lint_int N l10).bind fun l11 =>
 (loopN
  (fun (s14 : Int × (List GInterval)) =>
   (
    if Ar.cmp .lss (Ar.ar .add .i64 s14.1 1) (Ar.len l11) = true then
     (req (inR l11 s14.1)).bind fun _ =>
     (idxL l11 s14.1).bind fun x17 =>
     (interval_has N x_a x17).bind fun r18 =>
     (req (inR l11 s14.1)).bind fun _ =>
     (idxL l11 s14.1).bind fun x19 =>
     (interval_has N x_b x19).bind fun r20 =>
     (x_belongs r18 r20).bind fun r21 =>
     if r21 = true then
      (req (inR l11 s14.1)).bind fun _ =>
      (idxL l11 s14.1).bind fun x22 =>
      (req (inR l11 (Ar.ar .add .i64 s14.1 1))).bind fun _ =>
      (idxL l11 (Ar.ar .add .i64 s14.1 1)).bind fun x23 =>
      (interval_push N s14.2 (⟨x22, Ar.ar .sub .i64 x23 1⟩ : GInterval)).bind fun l24 =>
      some (.inl (Ar.ar .add .i64 s14.1 1, l24))
     else
      some (.inl (Ar.ar .add .i64 s14.1 1, s14.2))
    else
     some (.inr s14.2)
    : Option ((Int × (List GInterval)) ⊕ (((List GInterval))))))
  N (0, ([] : List GInterval))).bind fun s16 =>
 some s16
def interval_combine (N : Nat) (x_a : List GInterval) (x_b : List GInterval) (x_belongs : Bool → Bool → Option Bool) : Option ((List GInterval) × Int) :=
 (interval_both N x_a x_b).bind fun r1 =>
 if Ar.cmp .neq r1 0 = true then
  some ([], r1)
 else
  (interval_sweep N x_a x_b x_belongs).bind fun r2 =>
  (interval_limited N r2).bind fun r3 =>
  some (r3.1, r3.2)
def interval_Intersect_1 (N : Nat) (x_x : Bool) (x_y : Bool) : Option Bool :=
 some (Ar.an x_x x_y)
def interval_Intersect (N : Nat) (x_a : List GInterval) (x_b : List GInterval) : Option ((List GInterval) × Int) :=
 (interval_combine N x_a x_b (fun y1 y2 => interval_Intersect_1 N y1 y2)).bind fun r1 =>
 some (r1.1, r1.2)
def predicate_between (N : Nat) (x_low : Int) (x_high : Int) : Option (List GInterval) :=
 if Ar.cmp .gtr (Ar.mx x_low (-1099511627776)) (Ar.mn x_high 1099511627776) = true then
  some ([])
 else
  some ([(⟨Ar.mx x_low (-1099511627776), Ar.mn x_high 1099511627776⟩ : GInterval)])
def predicate_down (N : Nat) (x_a : Int) (x_b : Int) : Option Int :=
 (req (Ar.cmp .neq x_b 0)).bind fun _ =>
 (req (Ar.cmp .neq x_b 0)).bind fun _ =>
 if Ar.cmp .lss (Ar.ar .rem .i64 x_a x_b) 0 = true then
  some (Ar.ar .sub .i64 (Ar.ar .quo .i64 x_a x_b) 1)
 else
  some (Ar.ar .quo .i64 x_a x_b)
def predicate_most (N : Nat) (x_a : Gpredicate_line) : Option (List GInterval) :=
 if Ar.cmp .gtr x_a.times 0 = true then
  (predicate_down N (Ar.neg .i64 x_a.plus) x_a.times).bind fun r1 =>
  (predicate_between N (-1099511627776) r1).bind fun r2 =>
  some r2
 else
  if Ar.cmp .lss x_a.times 0 = true then
   (predicate_down N (Ar.neg .i64 x_a.plus) (Ar.neg .i64 x_a.times)).bind fun r3 =>
   (predicate_between N (Ar.neg .i64 r3) 1099511627776).bind fun r4 =>
   some r4
  else
   if Ar.cmp .leq x_a.plus 0 = true then
    (predicate_whole N).bind fun r5 =>
    some r5
   else
    some ([])
def predicate_compared (N : Nat) (x_op : Int) (x_a : Gpredicate_line) (x_b : Gpredicate_line) : Option ((List GInterval) × Int) :=
 if Ar.cmp .eql x_op 7 = true then
  (predicate_most N (⟨Ar.ar .sub .i64 x_a.times x_b.times, Ar.ar .add .i64 (Ar.ar .sub .i64 x_a.plus x_b.plus) 1⟩ : Gpredicate_line)).bind fun r2 =>
  some (r2, 0)
 else
  if Ar.cmp .eql x_op 8 = true then
   (predicate_most N (⟨Ar.ar .sub .i64 x_a.times x_b.times, Ar.ar .sub .i64 x_a.plus x_b.plus⟩ : Gpredicate_line)).bind fun r3 =>
   some (r3, 0)
  else
   (predicate_most N (⟨Ar.ar .sub .i64 x_a.times x_b.times, Ar.ar .sub .i64 x_a.plus x_b.plus⟩ : Gpredicate_line)).bind fun r4 =>
   (predicate_most N (⟨Ar.neg .i64 (Ar.ar .sub .i64 x_a.times x_b.times), Ar.neg .i64 (Ar.ar .sub .i64 x_a.plus x_b.plus)⟩ : Gpredicate_line)).bind fun r5 =>
   (interval_Intersect N r4 r5).bind fun r6 =>
   some (r6.1, r6.2)
def interval_Union_1 (N : Nat) (x_x : Bool) (x_y : Bool) : Option Bool :=
 some (Ar.or x_x x_y)
def interval_Union (N : Nat) (x_a : List GInterval) (x_b : List GInterval) : Option ((List GInterval) × Int) :=
 (interval_combine N x_a x_b (fun y1 y2 => interval_Union_1 N y1 y2)).bind fun r1 =>
 some (r1.1, r1.2)
def interval_gaps_1 (N : Nat) (x_1 : List GInterval) : Option (List GInterval) :=
 ((
  thenE (loopE
   (fun (s1 : Int × Int) =>
    (
     if Ar.cmp .lss s1.2 (Ar.len x_1) = true then
      (idxL x_1 s1.2).bind fun x7 =>
      if Ar.cmp .lss s1.1 x7.Low = true then
       thenE (some ([(⟨s1.1, Ar.ar .sub .i64 x7.Low 1⟩ : GInterval)], ())) fun _ =>
       some ([], .inl (Ar.ar .add .i64 x7.High 1, Ar.ar .add .i64 s1.2 1))
      else
       some ([], .inl (Ar.ar .add .i64 x7.High 1, Ar.ar .add .i64 s1.2 1))
     else
      some ([], .inr s1.1)
     : Option (List GInterval × ((Int × Int) ⊕ (Int)))))
   N ((-1099511627776), 0)) fun s6 =>
  if Ar.cmp .leq s6 1099511627776 = true then
   thenE (some ([(⟨s6, 1099511627776⟩ : GInterval)], ())) fun _ =>
   some ([], ())
  else
   some ([], ())
 ) : Option (List GInterval × Unit)).bind fun q => some q.1
def interval_gaps (N : Nat) (x_l : List GInterval) : Option (List GInterval) :=
 interval_gaps_1 N x_l
def interval_Complement (N : Nat) (x_l : List GInterval) : Option ((List GInterval) × Int) :=
 (interval_Check N x_l).bind fun r1 =>
 if Ar.cmp .neq r1 0 = true then
  some ([], r1)
 else
  (interval_gaps N x_l).bind fun r3 =>
  (rangeL (fun (s6 : (List GInterval)) (y5 : GInterval) =>
   (
    (appL s6 ([y5])).bind fun l12 =>
    some (.inl l12)
    : Option (((List GInterval)) ⊕ (Unit)))
   ) r3 ([])).bind fun o10 =>
  match o10 with
  | .inl s16 =>
   (interval_limited N s16).bind fun r18 =>
   some (r18.1, r18.2)
  | .inr _ => none
def interval_Minus_1 (N : Nat) (x_x : Bool) (x_y : Bool) : Option Bool :=
 some (Ar.an x_x (Ar.nt x_y))
def interval_Minus (N : Nat) (x_a : List GInterval) (x_b : List GInterval) : Option ((List GInterval) × Int) :=
 (interval_combine N x_a x_b (fun y1 y2 => interval_Minus_1 N y1 y2)).bind fun r1 =>
 some (r1.1, r1.2)
def predicate_same (N : Nat) (x_a : List GInterval) (x_b : List GInterval) : Option ((List GInterval) × Int) :=
 (interval_Minus N x_a x_b).bind fun r1 =>
 if Ar.cmp .neq r1.2 0 = true then
  some ([], r1.2)
 else
  (interval_Minus N x_b x_a).bind fun r2 =>
  if Ar.cmp .neq r2.2 0 = true then
   some ([], r2.2)
  else
   (interval_Union N r1.1 r2.1).bind fun r3 =>
   if Ar.cmp .neq r3.2 0 = true then
    some ([], r3.2)
   else
    (interval_Complement N r3.1).bind fun r4 =>
    some (r4.1, r4.2)
def predicate_solve (N : Nat) : Nat → GExpr → Int → Int → Option ((List GInterval) × Int)
 | 0, _, _, _ => none
 | n + 1, x_e, x_field, x_own =>
  ((
   if Ar.cmp .eql x_e.Op 0 = true then
    if Ar.cmp .neq x_e.Value.Kind 1 = true then
     some (.inr ([], 3))
    else
     if Ar.cmp .eql x_e.Value.Num 1 = true then
      (predicate_whole N).bind fun r2 =>
      some (.inr (r2, 0))
     else
      some (.inr ([], 0))
   else
    ((
     if Ar.cmp .eql x_e.Op 7 = true then
      some true
     else
      if Ar.cmp .eql x_e.Op 8 = true then
       some true
      else
       some (Ar.cmp .eql x_e.Op 9)
    ) : Option (Bool)).bind fun s3 =>
    if s3 = true then
     (idxL x_e.Args 0).bind fun x4 =>
     (predicate_linear N N x4 x_field x_own).bind fun r5 =>
     (idxL x_e.Args 1).bind fun x6 =>
     (predicate_linear N N x6 x_field x_own).bind fun r7 =>
     if Ar.an r5.2 r7.2 = true then
      (predicate_compared N x_e.Op r5.1 r7.1).bind fun r8 =>
      some (.inr (r8.1, r8.2))
     else
      if Ar.cmp .neq x_e.Op 9 = true then
       some (.inr ([], 3))
      else
       some (.inl ())
    else
     if Ar.cmp .eql x_e.Op 10 = true then
      some (.inl ())
     else
      if Ar.cmp .eql x_e.Op 11 = true then
       some (.inl ())
      else
       if Ar.cmp .eql x_e.Op 12 = true then
        some (.inl ())
       else
        some (.inr ([], 3))
  ) : Option (Unit ⊕ ((List GInterval) × Int))).bind fun s1 =>
  match s1 with
  | .inl y9 =>
   (loopN
    (fun (s10 : (List (List GInterval)) × Int) =>
     (
      if Ar.cmp .lss s10.2 (Ar.len x_e.Args) = true then
       (idxL x_e.Args s10.2).bind fun x13 =>
       (predicate_solve N n x13 x_field x_own).bind fun r14 =>
       if Ar.cmp .neq r14.2 0 = true then
        some (.inr (.inr r14.2))
       else
        (appL s10.1 ([r14.1])).bind fun l16 =>
        some (.inl (l16, Ar.ar .add .i64 s10.2 1))
      else
       some (.inr (.inl s10.1))
      : Option (((List (List GInterval)) × Int) ⊕ (((List (List GInterval))) ⊕ Int))))
    N ([], 0)).bind fun s12 =>
   match s12 with
   | .inl y17 =>
    if Ar.cmp .eql x_e.Op 10 = true then
     (idxL y17 0).bind fun x19 =>
     (idxL y17 1).bind fun x20 =>
     (interval_Intersect N x19 x20).bind fun r21 =>
     some (r21.1, r21.2)
    else
     if Ar.cmp .eql x_e.Op 11 = true then
      (idxL y17 0).bind fun x22 =>
      (idxL y17 1).bind fun x23 =>
      (interval_Union N x22 x23).bind fun r24 =>
      some (r24.1, r24.2)
     else
      if Ar.cmp .eql x_e.Op 12 = true then
       (idxL y17 0).bind fun x25 =>
       (interval_Complement N x25).bind fun r26 =>
       some (r26.1, r26.2)
      else
       (idxL y17 0).bind fun x27 =>
       (idxL y17 1).bind fun x28 =>
       (predicate_same N x27 x28).bind fun r29 =>
       some (r29.1, r29.2)
   | .inr y30 =>
    some ([], y30)
  | .inr y32 =>
   some (y32.1, y32.2)
def slices_IndexFunc_LField_Field (N : Nat) (x_s : List GField) (x_f : GField → Option Bool) : Option Int :=
 (loopN
  (fun (s1 : Int) =>
   (
    if Ar.cmp .lss s1 (Ar.len x_s) = true then
     (idxL x_s s1).bind fun x3 =>
     (x_f x3).bind fun r4 =>
     if r4 = true then
      some (.inr (.inr s1))
     else
      some (.inl (Ar.ar .add .i64 s1 1))
    else
     some (.inr (.inl ()))
    : Option ((Int) ⊕ (Unit ⊕ Int))))
  N 0).bind fun s2 =>
 match s2 with
 | .inl y5 =>
  some (-1)
 | .inr y6 =>
  some y6
def predicate_numeric_1 (N : Nat) (x_f : GField) : Option Bool :=
 some (Ar.cmp .eql x_f.Kind 0)
def predicate_numeric (N : Nat) (x_s : GSchema) : Option Int :=
 (slices_IndexFunc_LField_Field N x_s.Fields (fun y1 => predicate_numeric_1 N y1)).bind fun r1 =>
 some r1
def predicate_Of (N : Nat) (x_types : List GSchema) (x_index : Int) (x_cond : GExpr) (x_own : Int) : Option (GPredicate × Int) :=
 (schema_CheckAll N x_types).bind fun r2 =>
 if Ar.cmp .neq r2 0 = true then
  some ((⟨[]⟩ : GPredicate), r2)
 else
  if Ar.or (Ar.cmp .lss x_index 0) (Ar.cmp .geq x_index (Ar.len x_types)) = true then
   some ((⟨[]⟩ : GPredicate), 6)
  else
   if Ar.or (Ar.cmp .lss x_own 0) (Ar.cmp .geq x_own 16) = true then
    some ((⟨[]⟩ : GPredicate), 2)
   else
    (slices_Repeat_LVariable_Variable N ([(⟨⟨#[]⟩, x_index⟩ : GVariable)]) (Ar.ar .add .i64 x_own 1)).bind fun r3 =>
    (expr_Kind N x_types r3 x_cond).bind fun r4 =>
    if Ar.cmp .neq r4.2 0 = true then
     some ((⟨[]⟩ : GPredicate), r4.2)
    else
     if Ar.cmp .neq r4.1 1 = true then
      some ((⟨[]⟩ : GPredicate), 9)
     else
      (idxL x_types x_index).bind fun x5 =>
      (predicate_numeric N x5).bind fun r6 =>
      (predicate_solve N N x_cond r6 x_own).bind fun r7 =>
      if Ar.cmp .neq r7.2 0 = true then
       some ((⟨[]⟩ : GPredicate), r7.2)
      else
       (mkL (Ar.len x_types) (Ar.len x_types) ([] : List GInterval)).bind fun l8 =>
       (req (inR l8 x_index)).bind fun _ =>
       (updL l8 x_index (fun _ => r7.1)).bind fun l9 =>
       some ((⟨l9⟩ : GPredicate), 0)
def ref02_Same (N : Nat) (x_a : List GInterval) (x_b : List GInterval) : Option Bool :=
 if Ar.cmp .neq (Ar.len x_a) (Ar.len x_b) = true then
  some false
 else
  (loopN
   (fun (s1 : Int) =>
    (
     if Ar.cmp .lss s1 (Ar.len x_a) = true then
      (idxL x_a s1).bind fun x3 =>
      (idxL x_b s1).bind fun x4 =>
      if Ar.nt (Ar.an (Ar.cmp .eql x3.Low x4.Low) (Ar.an (Ar.cmp .eql x3.High x4.High) true)) = true then
       some (.inr (.inr ()))
      else
       some (.inl (Ar.ar .add .i64 s1 1))
     else
      some (.inr (.inl ()))
     : Option ((Int) ⊕ (Unit ⊕ Unit))))
   N 0).bind fun s2 =>
  match s2 with
  | .inl y5 =>
   some true
  | .inr y6 =>
   some false
def ref27_Same (N : Nat) (x_p : GPredicate) (x_q : GPredicate) : Option Bool :=
 if Ar.cmp .neq (Ar.len x_p.Sets) (Ar.len x_q.Sets) = true then
  some false
 else
  (loopN
   (fun (s1 : Int) =>
    (
     if Ar.cmp .lss s1 (Ar.len x_p.Sets) = true then
      (idxL x_p.Sets s1).bind fun x3 =>
      (idxL x_q.Sets s1).bind fun x4 =>
      (ref02_Same N x3 x4).bind fun r5 =>
      if Ar.nt r5 = true then
       some (.inr (.inr ()))
      else
       some (.inl (Ar.ar .add .i64 s1 1))
     else
      some (.inr (.inl ()))
     : Option ((Int) ⊕ (Unit ⊕ Unit))))
   N 0).bind fun s2 =>
  match s2 with
  | .inl y6 =>
   some true
  | .inr y7 =>
   some false
def predicate_Check (N : Nat) (x_types : Int) (x_p : GPredicate) : Option Int :=
 if Ar.or (Ar.cmp .lss x_types 1) (Ar.cmp .gtr x_types 16) = true then
  some 2
 else
  if Ar.cmp .neq (Ar.len x_p.Sets) x_types = true then
   some 15
  else
   (loopN
    (fun (s1 : Int) =>
     (
      if Ar.cmp .lss s1 (Ar.len x_p.Sets) = true then
       (idxL x_p.Sets s1).bind fun x3 =>
       (interval_Check N x3).bind fun r4 =>
       if Ar.cmp .neq r4 0 = true then
        some (.inr (.inr r4))
       else
        some (.inl (Ar.ar .add .i64 s1 1))
      else
       some (.inr (.inl ()))
      : Option ((Int) ⊕ (Unit ⊕ Int))))
    N 0).bind fun s2 =>
   match s2 with
   | .inl y5 =>
    some 0
   | .inr y6 =>
    some y6
def predicate_cuts (N : Nat) (x_l : List GPredicate) (x_index : Int) : Option (List Int) :=
 (loopN
  (fun (s2 : Int × (List Int)) =>
   (
    if Ar.cmp .lss s2.1 (Ar.len x_l) = true then
     (idxL x_l s2.1).bind fun x5 =>
     (idxL x5.Sets x_index).bind fun x6 =>
     (loopN
      (fun (s7 : Int × (List Int)) =>
       (
        if Ar.cmp .lss s7.1 (Ar.len x6) = true then
         (idxL x6 s7.1).bind fun x10 =>
         (appL s7.2 ([x10.Low, Ar.ar .add .i64 x10.High 1])).bind fun l12 =>
         some (.inl (Ar.ar .add .i64 s7.1 1, l12))
        else
         some (.inr s7.2)
        : Option ((Int × (List Int)) ⊕ (((List Int))))))
      N (0, s2.2)).bind fun s9 =>
     some (.inl (Ar.ar .add .i64 s2.1 1, s9))
    else
     some (.inr s2.2)
    : Option ((Int × (List Int)) ⊕ (((List Int))))))
  N (0, ([(-1099511627776), 1099511627777] : List Int))).bind fun s4 =>
 (slices_Sort_Lint_int N s4).bind fun l15 =>
 (slices_Compact_Lint_int N l15).bind fun l16 =>
 some l16
def interval_Contains (N : Nat) (x_l : List GInterval) (x_n : Int) : Option (Bool × Int) :=
 (interval_Check N x_l).bind fun r1 =>
 if Ar.cmp .neq r1 0 = true then
  some (false, r1)
 else
  (interval_has N x_l x_n).bind fun r2 =>
  some (r2, 0)
def predicate_signature (N : Nat) (x_l : List GPredicate) (x_index : Int) (x_n : Int) : Option ByteArray :=
 (mkL (Ar.len x_l) (Ar.len x_l) (0 : Int)).bind fun l2 =>
 (loopN
  (fun (s3 : Int × (List Int)) =>
   (
    if Ar.cmp .lss s3.1 (Ar.len x_l) = true then
     (idxL x_l s3.1).bind fun x6 =>
     (idxL x6.Sets x_index).bind fun x8 =>
     (interval_Contains N x8 x_n).bind fun r9 =>
     if r9.1 = true then
      (req (inR s3.2 s3.1)).bind fun _ =>
      (updL s3.2 s3.1 (fun x10 : Int => 1)).bind fun l11 =>
      some (.inl (Ar.ar .add .i64 s3.1 1, l11))
     else
      some (.inl (Ar.ar .add .i64 s3.1 1, s3.2))
    else
     some (.inr s3.2)
    : Option ((Int × (List Int)) ⊕ (((List Int))))))
  N (0, l2)).bind fun s5 =>
 (textL s5).bind fun r13 =>
 some r13
def getC (l : List GPredicate) (c i : Int) : Option (List GInterval) := (idxL l c).bind fun p => idxL p.Sets i
def setC (l : List GPredicate) (c i : Int) (x : List GInterval) : Option (List GPredicate) := (idxL l c).bind fun p => if 0 ≤ i ∧ i < (p.Sets.length : Nat) then some (l.set c.toNat ⟨p.Sets.set i.toNat x⟩) else none
def predicate_tidy (N : Nat) (x_l : List GPredicate) : Option ((List GPredicate) × Int) :=
 if Ar.cmp .gtr (Ar.len x_l) 256 = true then
  some ([], 5)
 else
  (loopN
   (fun (s1 : (List GPredicate) × Int) =>
    (
     if Ar.cmp .lss s1.2 (Ar.len x_l) = true then
      (idxL s1.1 s1.2).bind fun x3 =>
      (loopN
       (fun (s4 : (List GPredicate) × Int) =>
        (
         if Ar.cmp .lss s4.2 (Ar.len x3.Sets) = true then
          (getC s4.1 s1.2 s4.2).bind fun x6 =>
          (loopN
           (fun (s8 : Int × (List GInterval)) =>
            (
             if Ar.cmp .lss s8.1 (Ar.len x6) = true then
              (idxL x6 s8.1).bind fun x11 =>
              if Ar.cmp .gtr (Ar.len s8.2) 0 = true then
               (req (inR s8.2 (Ar.ar .sub .i64 (Ar.len s8.2) 1))).bind fun _ =>
               (idxL s8.2 (Ar.ar .sub .i64 (Ar.len s8.2) 1)).bind fun x12 =>
               if Ar.cmp .eql (Ar.ar .add .i64 x12.High 1) x11.Low = true then
                (req (inR s8.2 (Ar.ar .sub .i64 (Ar.len s8.2) 1))).bind fun _ =>
                (updL s8.2 (Ar.ar .sub .i64 (Ar.len s8.2) 1) (fun x13 : GInterval => { x13 with High := x11.High })).bind fun l14 =>
                some (.inl (Ar.ar .add .i64 s8.1 1, l14))
               else
                (appL s8.2 ([x11])).bind fun l16 =>
                some (.inl (Ar.ar .add .i64 s8.1 1, l16))
              else
               (appL s8.2 ([x11])).bind fun l18 =>
               some (.inl (Ar.ar .add .i64 s8.1 1, l18))
             else
              some (.inr s8.2)
             : Option ((Int × (List GInterval)) ⊕ (((List GInterval))))))
           N (0, ([] : List GInterval))).bind fun s10 =>
          if Ar.cmp .gtr (Ar.len s10) 256 = true then
           some (.inr (.inr ()))
          else
           (setC s4.1 s1.2 s4.2 s10).bind fun l20 =>
           some (.inl (l20, Ar.ar .add .i64 s4.2 1))
         else
          some (.inr (.inl s4.1))
         : Option (((List GPredicate) × Int) ⊕ ((List GPredicate) ⊕ Unit))))
       N (s1.1, 0)).bind fun s5 =>
      match s5 with
      | .inl y20 =>
       some (.inl (y20, Ar.ar .add .i64 s1.2 1))
      | .inr y21 =>
       some (.inr (.inr ()))
     else
      some (.inr (.inl s1.1))
     : Option (((List GPredicate) × Int) ⊕ ((List GPredicate) ⊕ Unit))))
   N (x_l, 0)).bind fun s2 =>
  match s2 with
  | .inl y22 =>
   some (y22, 0)
  | .inr y23 =>
   some ([], 5)
def predicate_put (l : List GPredicate) (c index : Int) (cuts : List Int) (k : Int) : Option (List GPredicate) :=
 (getC l c index).bind fun x =>
 (idxL cuts k).bind fun a =>
 (idxL cuts (Ar.ar .add .i64 k 1)).bind fun b =>
 (appL x ([⟨a, Ar.ar .sub .i64 b 1⟩] : List GInterval)).bind fun y =>
 setC l c index y
def predicate_Minterms (N : Nat) (x_types : Int) (x_l : List GPredicate) : Option ((List GPredicate) × Int) :=
 if Ar.or (Ar.cmp .lss x_types 1) (Ar.cmp .gtr x_types 16) = true then
  some ([], 2)
 else
  if Ar.cmp .gtr (Ar.len x_l) 256 = true then
   some ([], 5)
  else
   (loopN
    (fun (s1 : Int) =>
     (
      if Ar.cmp .lss s1 (Ar.len x_l) = true then
       (idxL x_l s1).bind fun x3 =>
       (predicate_Check N x_types x3).bind fun r4 =>
       if Ar.cmp .neq r4 0 = true then
        some (.inr (.inr r4))
       else
        some (.inl (Ar.ar .add .i64 s1 1))
      else
       some (.inr (.inl ()))
      : Option ((Int) ⊕ (Unit ⊕ Int))))
    N 0).bind fun s2 =>
   match s2 with
   | .inl y5 =>
    (loopN
     (fun (s8 : (List GPredicate) × Int × (List (ByteArray × Int))) =>
      (
       if Ar.cmp .lss s8.2.1 x_types = true then
        (predicate_cuts N x_l s8.2.1).bind fun r12 =>
        (loopN
         (fun (s13 : (List GPredicate) × Int × (List (ByteArray × Int))) =>
          (
           if Ar.cmp .lss (Ar.ar .add .i64 s13.2.1 1) (Ar.len r12) = true then
            (idxL r12 s13.2.1).bind fun x17 =>
            (predicate_signature N x_l s8.2.1 x17).bind fun r18 =>
            (getM s13.2.2 r18 (0 : Int)).bind fun r19 =>
            if Ar.nt r19.2 = true then
             (setM s13.2.2 r18 (Ar.len s13.1)).bind fun l21 =>
             (mkL x_types x_types ([] : List GInterval)).bind fun l22 =>
             (appL s13.1 ([(⟨l22⟩ : GPredicate)])).bind fun l23 =>
             (predicate_put l23 (Ar.len s13.1) s8.2.1 r12 s13.2.1).bind fun l24 =>
             some (.inl (l24, Ar.ar .add .i64 s13.2.1 1, l21))
            else
             (predicate_put s13.1 r19.1 s8.2.1 r12 s13.2.1).bind fun l24 =>
             some (.inl (l24, Ar.ar .add .i64 s13.2.1 1, s13.2.2))
           else
            some (.inr (s13.1, s13.2.2))
           : Option (((List GPredicate) × Int × (List (ByteArray × Int))) ⊕ (((List GPredicate) × (List (ByteArray × Int)))))))
         N (s8.1, 0, s8.2.2)).bind fun s16 =>
        some (.inl (s16.1, Ar.ar .add .i64 s8.2.1 1, s16.2))
       else
        some (.inr (s8.1, s8.2.2))
       : Option (((List GPredicate) × Int × (List (ByteArray × Int))) ⊕ (((List GPredicate) × (List (ByteArray × Int)))))))
     N ([], 0, ([] : List (ByteArray × Int)))).bind fun s11 =>
    predicate_tidy N s11.1
   | .inr y28 =>
    some ([], y28)
def law27_single (N : Nat) (x_low : Int) (x_high : Int) : Option GPredicate :=
 some (⟨[[(⟨x_low, x_high⟩ : GInterval)]]⟩ : GPredicate)
def law27_x (N : Nat) : Option GExpr :=
 some (⟨1, [], 0, 0, 0, (⟨0, 0, ⟨#[]⟩⟩ : GValue)⟩ : GExpr)
def law27_number (N : Nat) (x_n : Int) : Option GExpr :=
 some (⟨0, [], 0, 0, 0, (⟨0, x_n, ⟨#[]⟩⟩ : GValue)⟩ : GExpr)
def predicate_checked (N : Nat) (x_l : List GPredicate) : Option Int :=
 (loopN
  (fun (s1 : Int) =>
   (
    if Ar.cmp .lss s1 (Ar.len x_l) = true then
     (idxL x_l s1).bind fun x3 =>
     (predicate_Check N (Ar.len x3.Sets) x3).bind fun r4 =>
     if Ar.cmp .neq r4 0 = true then
      some (.inr (.inr r4))
     else
      some (.inl (Ar.ar .add .i64 s1 1))
    else
     some (.inr (.inl ()))
    : Option ((Int) ⊕ (Unit ⊕ Int))))
  N 0).bind fun s2 =>
 match s2 with
 | .inl y5 =>
  some 0
 | .inr y6 =>
  some y6
def predicate_filled_1 (N : Nat) (x_1 : GPredicate) : Option (List (Int × (List GInterval))) :=
 ((
  thenE (loopE
   (fun (s1 : Int) =>
    (
     if Ar.cmp .lss s1 (Ar.len x_1.Sets) = true then
      (idxL x_1.Sets s1).bind fun x7 =>
      if Ar.cmp .gtr (Ar.len x7) 0 = true then
       thenE (some ([(s1, x7)], ())) fun _ =>
       some ([], .inl (Ar.ar .add .i64 s1 1))
      else
       some ([], .inl (Ar.ar .add .i64 s1 1))
     else
      some ([], .inr ())
     : Option (List (Int × (List GInterval)) × ((Int) ⊕ (Unit)))))
   N 0) fun s6 =>
  some ([], ())
 ) : Option (List (Int × (List GInterval)) × Unit)).bind fun q => some q.1
def predicate_filled (N : Nat) (x_p : GPredicate) : Option (List (Int × (List GInterval))) :=
 predicate_filled_1 N x_p
def predicate_Witness (N : Nat) (x_p : GPredicate) : Option (GSymbol × Int) :=
 (predicate_checked N ([x_p])).bind fun r3 =>
 if Ar.cmp .neq r3 0 = true then
  some ((⟨0, 0⟩ : GSymbol), r3)
 else
  (predicate_filled N x_p).bind fun r4 =>
  (rangeL (fun (s7 : Unit) (y6 : (Int × (List GInterval))) =>
   (
    (idxL y6.2 0).bind fun x11 =>
    some (.inr (⟨y6.1, x11.Low⟩ : GSymbol))
    : Option ((Unit) ⊕ (GSymbol)))
   ) r4 ()).bind fun o10 =>
  match o10 with
  | .inl s14 =>
   some ((⟨0, 0⟩ : GSymbol), 6)
  | .inr y15 =>
   some (y15, 0)
def ref27_SameAll (N : Nat) (x_a : List GPredicate) (x_b : List GPredicate) : Option Bool :=
 if Ar.cmp .neq (Ar.len x_a) (Ar.len x_b) = true then
  some false
 else
  (loopN
   (fun (s1 : Int) =>
    (
     if Ar.cmp .lss s1 (Ar.len x_a) = true then
      (idxL x_a s1).bind fun x3 =>
      (idxL x_b s1).bind fun x4 =>
      (ref27_Same N x3 x4).bind fun r5 =>
      if Ar.nt r5 = true then
       some (.inr (.inr ()))
      else
       some (.inl (Ar.ar .add .i64 s1 1))
     else
      some (.inr (.inl ()))
     : Option ((Int) ⊕ (Unit ⊕ Unit))))
   N 0).bind fun s2 =>
  match s2 with
  | .inl y6 =>
   some true
  | .inr y7 =>
   some false
def law27_awake (N : Nat) : Option Bool :=
 (law27_single N 1 5).bind fun r1 =>
 (law27_single N 4 9).bind fun r2 =>
 (predicate_Minterms N 1 ([r1, r2])).bind fun r3 =>
 (law27_x N).bind fun r4 =>
 (law27_x N).bind fun r5 =>
 (law27_number N 7).bind fun r6 =>
 (predicate_Of N ([(⟨(⟨#[97]⟩ : ByteArray), [(⟨(⟨#[120]⟩ : ByteArray), 0⟩ : GField)]⟩ : GSchema)]) 0 (⟨7, [(⟨5, [r4, r5], 0, 0, 0, (⟨0, 0, ⟨#[]⟩⟩ : GValue)⟩ : GExpr), r6], 0, 0, 0, (⟨0, 0, ⟨#[]⟩⟩ : GValue)⟩ : GExpr) 0).bind fun r7 =>
 (predicate_Witness N (⟨[[], [(⟨3, 4⟩ : GInterval)]]⟩ : GPredicate)).bind fun r8 =>
 if Ar.or (Ar.cmp .neq (Ar.ar .add .i64 (Ar.ar .add .i64 r3.2 r7.2) r8.2) 0) (Ar.cmp .neq (Ar.len r3.1) 4) = true then
  some false
 else
  (law27_single N (-1099511627776) 3).bind fun r9 =>
  (ref27_Same N r7.1 r9).bind fun r10 =>
  if Ar.or (Ar.nt r10) (Ar.nt (Ar.an (Ar.cmp .eql r8.1.Typ 1) (Ar.an (Ar.cmp .eql r8.1.Num 3) true))) = true then
   some false
  else
   (law27_single N 1 3).bind fun r11 =>
   (law27_single N 4 5).bind fun r12 =>
   (law27_single N 6 9).bind fun r13 =>
   (ref27_SameAll N r3.1 ([(⟨[[(⟨(-1099511627776), 0⟩ : GInterval), (⟨10, 1099511627776⟩ : GInterval)]]⟩ : GPredicate), r11, r12, r13])).bind fun r14 =>
   some r14
def ref03_letter (N : Nat) (x_c : Int) : Option Bool :=
 some (Ar.or (Ar.or (Ar.an (Ar.cmp .geq x_c 97) (Ar.cmp .leq x_c 122)) (Ar.an (Ar.cmp .geq x_c 65) (Ar.cmp .leq x_c 90))) (Ar.cmp .eql x_c 95))
def ref03_Name (N : Nat) (x_s : ByteArray) : Option Bool :=
 if Ar.or (Ar.cmp .eql (Ar.slen x_s) 0) (Ar.cmp .gtr (Ar.slen x_s) 24) = true then
  some false
 else
  (req (Ar.an (Ar.cmp .geq 0 0) (Ar.cmp .lss 0 (Ar.slen x_s)))).bind fun _ =>
  (ref03_letter N (Ar.sat x_s 0)).bind fun r1 =>
  if Ar.nt r1 = true then
   some false
  else
   (loopN
    (fun (s2 : Int) =>
     (
      if Ar.cmp .lss s2 (Ar.slen x_s) = true then
       (req (Ar.an (Ar.cmp .geq s2 0) (Ar.cmp .lss s2 (Ar.slen x_s)))).bind fun _ =>
       (ref03_letter N (Ar.sat x_s s2)).bind fun r4 =>
       if Ar.nt r4 = true then
        (req (Ar.an (Ar.cmp .geq s2 0) (Ar.cmp .lss s2 (Ar.slen x_s)))).bind fun _ =>
        if Ar.cmp .lss (Ar.sat x_s s2) 48 = true then
         some (.inr (.inr ()))
        else
         (req (Ar.an (Ar.cmp .geq s2 0) (Ar.cmp .lss s2 (Ar.slen x_s)))).bind fun _ =>
         if Ar.cmp .gtr (Ar.sat x_s s2) 57 = true then
          some (.inr (.inr ()))
         else
          some (.inl (Ar.ar .add .i64 s2 1))
       else
        some (.inl (Ar.ar .add .i64 s2 1))
      else
       some (.inr (.inl ()))
      : Option ((Int) ⊕ (Unit ⊕ Unit))))
    N 0).bind fun s3 =>
   match s3 with
   | .inl y5 =>
    some true
   | .inr y6 =>
    some false
def ref27_span (N : Nat) (x_low : Int) (x_high : Int) : Option (List GInterval) :=
 if Ar.cmp .gtr (Ar.mx x_low (-1099511627776)) (Ar.mn x_high 1099511627776) = true then
  some ([])
 else
  some ([(⟨Ar.mx x_low (-1099511627776), Ar.mn x_high 1099511627776⟩ : GInterval)])
def ref27_floor (N : Nat) (x_a : Int) (x_b : Int) : Option Int :=
 (req (Ar.cmp .neq x_b 0)).bind fun _ =>
 (req (Ar.cmp .neq x_b 0)).bind fun _ =>
 if Ar.cmp .lss (Ar.ar .rem .i64 x_a x_b) 0 = true then
  some (Ar.ar .sub .i64 (Ar.ar .quo .i64 x_a x_b) 1)
 else
  some (Ar.ar .quo .i64 x_a x_b)
def ref02_sorted (N : Nat) (x_l : List GInterval) : Option (List GInterval) :=
 (loopN
  (fun (s1 : (List GInterval) × Int) =>
   (
    if Ar.cmp .lss s1.2 (Ar.len x_l) = true then
     (loopN
      (fun (s3 : Int) =>
       (
        if Ar.cmp .gtr s3 0 = true then
         (idxL s1.1 (Ar.ar .sub .i64 s3 1)).bind fun x5 =>
         (idxL x_l s1.2).bind fun x6 =>
         if Ar.cmp .gtr x5.Low x6.Low = true then
          some (.inl (Ar.ar .sub .i64 s3 1))
         else
          some (.inr s3)
        else
         some (.inr s3)
        : Option ((Int) ⊕ (Int))))
      N (Ar.len s1.1)).bind fun s4 =>
     (sliceL s1.1 none (some s4) none).bind fun l7 =>
     (appL ([]) l7).bind fun l10 =>
     (idxL x_l s1.2).bind fun x11 =>
     (appL l10 ([x11])).bind fun l13 =>
     (sliceL s1.1 (some s4) none none).bind fun l14 =>
     (appL l13 l14).bind fun l17 =>
     some (.inl (l17, Ar.ar .add .i64 s1.2 1))
    else
     some (.inr s1.1)
    : Option (((List GInterval) × Int) ⊕ (((List GInterval))))))
  N ([], 0)).bind fun s2 =>
 some s2
def ref02_Normal (N : Nat) (x_l : List GInterval) : Option (List GInterval) :=
 (ref02_sorted N x_l).bind fun r1 =>
 (loopN
  (fun (s3 : Int × (List GInterval)) =>
   (
    if Ar.cmp .lss s3.1 (Ar.len r1) = true then
     if Ar.cmp .lss (Ar.ar .sub .i64 (Ar.len s3.2) 1) 0 = true then
      (idxL r1 s3.1).bind fun x6 =>
      (appL s3.2 ([x6])).bind fun l8 =>
      some (.inl (Ar.ar .add .i64 s3.1 1, l8))
     else
      (idxL r1 s3.1).bind fun x9 =>
      (req (inR s3.2 (Ar.ar .sub .i64 (Ar.len s3.2) 1))).bind fun _ =>
      (idxL s3.2 (Ar.ar .sub .i64 (Ar.len s3.2) 1)).bind fun x10 =>
      if Ar.cmp .gtr x9.Low (Ar.ar .add .i64 x10.High 1) = true then
       (idxL r1 s3.1).bind fun x11 =>
       (appL s3.2 ([x11])).bind fun l13 =>
       some (.inl (Ar.ar .add .i64 s3.1 1, l13))
      else
       (idxL r1 s3.1).bind fun x14 =>
       (req (inR s3.2 (Ar.ar .sub .i64 (Ar.len s3.2) 1))).bind fun _ =>
       (idxL s3.2 (Ar.ar .sub .i64 (Ar.len s3.2) 1)).bind fun x15 =>
       if Ar.cmp .gtr x14.High x15.High = true then
        (idxL r1 s3.1).bind fun x16 =>
        (req (inR s3.2 (Ar.ar .sub .i64 (Ar.len s3.2) 1))).bind fun _ =>
        (updL s3.2 (Ar.ar .sub .i64 (Ar.len s3.2) 1) (fun x17 : GInterval => { x17 with High := x16.High })).bind fun l18 =>
        some (.inl (Ar.ar .add .i64 s3.1 1, l18))
       else
        some (.inl (Ar.ar .add .i64 s3.1 1, s3.2))
    else
     some (.inr s3.2)
    : Option ((Int × (List GInterval)) ⊕ (((List GInterval))))))
  N (0, ([] : List GInterval))).bind fun s5 =>
 some s5
def ref02_Both (N : Nat) (x_a : List GInterval) (x_b : List GInterval) : Option (List GInterval) :=
 (loopN
  (fun (s1 : (List GInterval) × Int) =>
   (
    if Ar.cmp .lss s1.2 (Ar.len x_a) = true then
     (loopN
      (fun (s4 : (List GInterval) × Int) =>
       (
        if Ar.cmp .lss s4.2 (Ar.len x_b) = true then
         (idxL x_a s1.2).bind fun x7 =>
         (idxL x_b s4.2).bind fun x8 =>
         (idxL x_a s1.2).bind fun x9 =>
         (idxL x_b s4.2).bind fun x10 =>
         if Ar.cmp .leq (Ar.mx x7.Low x8.Low) (Ar.mn x9.High x10.High) = true then
          (appL s4.1 ([(⟨Ar.mx x7.Low x8.Low, Ar.mn x9.High x10.High⟩ : GInterval)])).bind fun l12 =>
          some (.inl (l12, Ar.ar .add .i64 s4.2 1))
         else
          some (.inl (s4.1, Ar.ar .add .i64 s4.2 1))
        else
         some (.inr s4.1)
        : Option (((List GInterval) × Int) ⊕ (((List GInterval))))))
      N (s1.1, 0)).bind fun s6 =>
     some (.inl (s6, Ar.ar .add .i64 s1.2 1))
    else
     some (.inr s1.1)
    : Option (((List GInterval) × Int) ⊕ (((List GInterval))))))
  N ([], 0)).bind fun s3 =>
 (ref02_Normal N s3).bind fun r15 =>
 some r15
def event_numbers (N : Nat) (x_e : GEvent) : Option Int :=
 if Ar.or (Ar.cmp .lss x_e.Source 0) (Ar.cmp .geq x_e.Source 8) = true then
  some 32
 else
  if Ar.or (Ar.or (Ar.or (Ar.cmp .lss x_e.Seq 0) (Ar.cmp .gtr x_e.Seq 1099511627776)) (Ar.cmp .lss x_e.Time 0)) (Ar.cmp .gtr x_e.Time 1099511627776) = true then
   some 2
  else
   some 0
def event_valid (N : Nat) (x_types : List GSchema) (x_e : GEvent) : Option Int :=
 (event_numbers N x_e).bind fun r1 =>
 if Ar.cmp .neq r1 0 = true then
  some r1
 else
  if Ar.or (Ar.cmp .lss x_e.Typ 0) (Ar.cmp .geq x_e.Typ (Ar.len x_types)) = true then
   some 6
  else
   (idxL x_types x_e.Typ).bind fun x2 =>
   if Ar.cmp .neq (Ar.len x_e.Values) (Ar.len x2.Fields) = true then
    some 15
   else
    (loopN
     (fun (s3 : Int) =>
      (
       if Ar.cmp .lss s3 (Ar.len x_e.Values) = true then
        (idxL x_e.Values s3).bind fun x5 =>
        (value_Check N x5).bind fun r7 =>
        if Ar.cmp .neq r7 0 = true then
         some (.inr (.inr r7))
        else
         (idxL x2.Fields s3).bind fun x8 =>
         if Ar.cmp .neq x5.Kind x8.Kind = true then
          some (.inr (.inr 9))
         else
          some (.inl (Ar.ar .add .i64 s3 1))
       else
        some (.inr (.inl ()))
       : Option ((Int) ⊕ (Unit ⊕ Int))))
     N 0).bind fun s4 =>
    match s4 with
    | .inl y9 =>
     some 0
    | .inr y10 =>
     some y10
def event_Check (N : Nat) (x_types : List GSchema) (x_e : GEvent) : Option Int :=
 (schema_CheckAll N x_types).bind fun r1 =>
 if Ar.cmp .neq r1 0 = true then
  some r1
 else
  (event_valid N x_types x_e).bind fun r2 =>
  some r2
def predicate_Symbol (N : Nat) (x_types : List GSchema) (x_e : GEvent) : Option (GSymbol × Int) :=
 (event_Check N x_types x_e).bind fun r2 =>
 if Ar.cmp .neq r2 0 = true then
  some ((⟨0, 0⟩ : GSymbol), r2)
 else
  (idxL x_types x_e.Typ).bind fun x4 =>
  (predicate_numeric N x4).bind fun r5 =>
  if Ar.cmp .geq r5 0 = true then
   (idxL x_e.Values r5).bind fun x6 =>
   some ((⟨x_e.Typ, x6.Num⟩ : GSymbol), 0)
  else
   some ((⟨x_e.Typ, 0⟩ : GSymbol), 0)
def predicate_Contains (N : Nat) (x_p : GPredicate) (x_s : GSymbol) : Option (Bool × Int) :=
 (predicate_checked N ([x_p])).bind fun r1 =>
 if Ar.cmp .neq r1 0 = true then
  some (false, r1)
 else
  if Ar.or (Ar.cmp .lss x_s.Typ 0) (Ar.cmp .geq x_s.Typ (Ar.len x_p.Sets)) = true then
   some (false, 6)
  else
   if Ar.or (Ar.cmp .lss x_s.Num (-1099511627776)) (Ar.cmp .gtr x_s.Num 1099511627776) = true then
    some (false, 2)
   else
    (idxL x_p.Sets x_s.Typ).bind fun x2 =>
    (interval_Contains N x2 x_s.Num).bind fun r3 =>
    some (r3.1, r3.2)
def expr_operations_1 (N : Nat) (x_n : Int) : Option GValue :=
 some (⟨0, x_n, ⟨#[]⟩⟩ : GValue)
def expr_operations_2 (N : Nat) (x_a : Int) (x_b : Int) (x_2 : Int → Option GValue) : Option GValue :=
 (x_2 (Ar.ar .add .i64 x_a x_b)).bind fun r2 =>
 some r2
def expr_operations_3 (N : Nat) (x_a : Int) (x_b : Int) (x_2 : Int → Option GValue) : Option GValue :=
 (x_2 (Ar.ar .sub .i64 x_a x_b)).bind fun r2 =>
 some r2
def value_Bool (N : Nat) (x_b : Bool) : Option GValue :=
 if x_b = true then
  some (⟨1, 1, ⟨#[]⟩⟩ : GValue)
 else
  some (⟨1, 0, ⟨#[]⟩⟩ : GValue)
def expr_flag (N : Nat) (x_b : Bool) : Option GValue :=
 (value_Bool N x_b).bind fun r2 =>
 some r2
def expr_operations_4 (N : Nat) (x_a : Int) (x_b : Int) : Option GValue :=
 (expr_flag N (Ar.cmp .lss x_a x_b)).bind fun r2 =>
 some r2
def expr_operations_5 (N : Nat) (x_a : Int) (x_b : Int) : Option GValue :=
 (expr_flag N (Ar.cmp .leq x_a x_b)).bind fun r2 =>
 some r2
def expr_operations_6 (N : Nat) (x_a : Int) (x_b : Int) : Option GValue :=
 (expr_flag N (Ar.an (Ar.cmp .eql x_a 1) (Ar.cmp .eql x_b 1))).bind fun r2 =>
 some r2
def expr_operations_7 (N : Nat) (x_a : Int) (x_b : Int) : Option GValue :=
 (expr_flag N (Ar.or (Ar.cmp .eql x_a 1) (Ar.cmp .eql x_b 1))).bind fun r2 =>
 some r2
def expr_operations_8 (N : Nat) (x_a : Int) (x_1 : Int) : Option GValue :=
 (expr_flag N (Ar.cmp .neq x_a 1)).bind fun r2 =>
 some r2
def expr_operations (N : Nat) : Option Unit :=
 some ()
def expr_evaluator_events (N : Nat) (x_x : Gexpr_evaluator) (x_v : Int) : Option (List GEvent) :=
 if Ar.or (Ar.cmp .lss x_v 0) (Ar.cmp .geq x_v (Ar.len x_x.env.Vars)) = true then
  some ([])
 else
  (idxL x_x.env.Vars x_v).bind fun x1 =>
  some x1
def expr_field (N : Nat) (x_e : GEvent) (x_k : Int) : Option (GValue × Int) :=
 if Ar.cmp .geq x_k (Ar.len x_e.Values) = true then
  some ((⟨0, 0, ⟨#[]⟩⟩ : GValue), 6)
 else
  (idxL x_e.Values x_k).bind fun x2 =>
  some (x2, 0)
def aggregate_known (N : Nat) (x_kind : Int) : Option Bool :=
 some (Ar.an (Ar.cmp .geq x_kind 0) (Ar.cmp .leq x_kind 5))
def aggregate_suits (N : Nat) (x_kind : Int) (x_v : GValue) : Option Bool :=
 some (Ar.or (Ar.cmp .eql x_v.Kind 0) (Ar.an (Ar.an (Ar.cmp .neq x_kind 1) (Ar.cmp .neq x_kind 2)) (Ar.cmp .neq x_kind 3)))
def aggregate_wrong (N : Nat) (x_kind : Int) (x_v : GValue) : Option Int :=
 (value_Check N x_v).bind fun r1 =>
 if Ar.cmp .neq r1 0 = true then
  some r1
 else
  (aggregate_suits N x_kind x_v).bind fun r2 =>
  if Ar.nt r2 = true then
   some 9
  else
   some 0
def aggregate_folded_Accumulator_Value (N : Nat) (x_first : GAccumulator) (x_l : List GValue) (x_step : GAccumulator → GValue → Option GAccumulator) : Option GAccumulator :=
 (loopN
  (fun (s3 : Int × GAccumulator) =>
   (
    if Ar.cmp .lss s3.1 (Ar.len x_l) = true then
     (idxL x_l s3.1).bind fun x5 =>
     (x_step s3.2 x5).bind fun r6 =>
     some (.inl (Ar.ar .add .i64 s3.1 1, r6))
    else
     some (.inr s3.2)
    : Option ((Int × GAccumulator) ⊕ (GAccumulator))))
  N (0, x_first)).bind fun s4 =>
 some s4
def aggregate_combine_1 (N : Nat) : Option GValue :=
 some (⟨0, 0, ⟨#[]⟩⟩ : GValue)
def aggregate_combine_2 (N : Nat) (x_0 : GValue) (x_1 : GValue) : Option GValue :=
 some (⟨0, Ar.ar .add .i64 x_0.Num x_1.Num, ⟨#[]⟩⟩ : GValue)
def aggregate_combine_3 (N : Nat) (x_0 : GValue) (x_1 : GValue) : Option GValue :=
 some (⟨0, Ar.mn x_0.Num x_1.Num, ⟨#[]⟩⟩ : GValue)
def aggregate_combine_4 (N : Nat) (x_0 : GValue) (x_1 : GValue) : Option GValue :=
 some (⟨0, Ar.mx x_0.Num x_1.Num, ⟨#[]⟩⟩ : GValue)
def aggregate_combine_5 (N : Nat) (x_0 : GValue) : Option GValue :=
 some x_0
def aggregate_combine_6 (N : Nat) (x_0 : GValue) : Option GValue :=
 some x_0
def aggregate_combine (N : Nat) (x_kind : Int) (x_a : GValue) (x_b : GValue) : Option GValue :=
 if Ar.cmp .eql x_kind 0 = true then
  (aggregate_combine_1 N).bind fun r2 =>
  some r2
 else
  if Ar.cmp .eql x_kind 1 = true then
   (aggregate_combine_2 N x_a x_b).bind fun r3 =>
   some r3
  else
   if Ar.cmp .eql x_kind 2 = true then
    (aggregate_combine_3 N x_a x_b).bind fun r4 =>
    some r4
   else
    if Ar.cmp .eql x_kind 3 = true then
     (aggregate_combine_4 N x_a x_b).bind fun r5 =>
     some r5
    else
     if Ar.cmp .eql x_kind 4 = true then
      (aggregate_combine_5 N x_a).bind fun r6 =>
      some r6
     else
      if Ar.cmp .eql x_kind 5 = true then
       (aggregate_combine_6 N x_b).bind fun r7 =>
       some r7
      else
       none
def aggregate_merged (N : Nat) (x_a : GAccumulator) (x_b : GAccumulator) : Option GAccumulator :=
 if Ar.cmp .eql x_a.Count 0 = true then
  some x_b
 else
  if Ar.cmp .eql x_b.Count 0 = true then
   some x_a
  else
   (aggregate_combine N x_a.Kind x_a.Value x_b.Value).bind fun r2 =>
   some (⟨x_a.Kind, Ar.ar .add .i64 x_a.Count x_b.Count, r2⟩ : GAccumulator)
def aggregate_single (N : Nat) (x_kind : Int) (x_v : GValue) : Option GValue :=
 if Ar.cmp .eql x_kind 0 = true then
  some (⟨0, 0, ⟨#[]⟩⟩ : GValue)
 else
  some x_v
def aggregate_Of_1 (N : Nat) (x_a : GAccumulator) (x_v : GValue) (x_2 : Int) : Option GAccumulator :=
 (aggregate_single N x_2 x_v).bind fun r2 =>
 (aggregate_merged N x_a (⟨x_2, 1, r2⟩ : GAccumulator)).bind fun r3 =>
 some r3
def aggregate_Check (N : Nat) (x_a : GAccumulator) : Option Int :=
 (aggregate_known N x_a.Kind).bind fun r1 =>
 if Ar.nt r1 = true then
  some 1
 else
  if Ar.or (Ar.cmp .lss x_a.Count 0) (Ar.cmp .gtr x_a.Count 4096) = true then
   some 2
  else
   if Ar.or (Ar.cmp .eql x_a.Count 0) (Ar.cmp .eql x_a.Kind 0) = true then
    if Ar.nt (Ar.an (Ar.cmp .eql x_a.Value.Kind 0) (Ar.an (Ar.cmp .eql x_a.Value.Num 0) (Ar.an (Ar.scmp .eql x_a.Value.Text (⟨#[]⟩)) true))) = true then
     some 3
    else
     some 0
   else
    if Ar.cmp .eql x_a.Kind 1 = true then
     if Ar.nt (Ar.an (Ar.an (Ar.an (Ar.cmp .eql x_a.Value.Kind 0) (Ar.scmp .eql x_a.Value.Text (⟨#[]⟩ : ByteArray))) (Ar.cmp .geq x_a.Value.Num (Ar.neg .i64 (Ar.ar .mul .i64 x_a.Count 1099511627776)))) (Ar.cmp .leq x_a.Value.Num (Ar.ar .mul .i64 x_a.Count 1099511627776))) = true then
      some 3
     else
      some 0
    else
     (value_Check N x_a.Value).bind fun r2 =>
     if Ar.cmp .eql r2 0 = true then
      (aggregate_suits N x_a.Kind x_a.Value).bind fun r3 =>
      if Ar.nt r3 = true then
       some 3
      else
       some 0
     else
      some 3
def aggregate_Result (N : Nat) (x_a : GAccumulator) (x_otherwise : GValue) : Option (GValue × Int) :=
 (aggregate_Check N x_a).bind fun r2 =>
 if Ar.cmp .neq r2 0 = true then
  some ((⟨0, 0, ⟨#[]⟩⟩ : GValue), r2)
 else
  (aggregate_wrong N x_a.Kind x_otherwise).bind fun r3 =>
  if Ar.cmp .neq r3 0 = true then
   some ((⟨0, 0, ⟨#[]⟩⟩ : GValue), r3)
  else
   if Ar.cmp .eql x_a.Kind 0 = true then
    some ((⟨0, x_a.Count, ⟨#[]⟩⟩ : GValue), 0)
   else
    if Ar.an (Ar.cmp .eql x_a.Count 0) (Ar.cmp .neq x_a.Kind 1) = true then
     some (x_otherwise, 0)
    else
     some (x_a.Value, 0)
def aggregate_Of (N : Nat) (x_kind : Int) (x_l : List GValue) (x_otherwise : GValue) : Option (GValue × Int) :=
 (aggregate_known N x_kind).bind fun r2 =>
 if Ar.nt r2 = true then
  some ((⟨0, 0, ⟨#[]⟩⟩ : GValue), 1)
 else
  if Ar.cmp .gtr (Ar.len x_l) 4096 = true then
   some ((⟨0, 0, ⟨#[]⟩⟩ : GValue), 5)
  else
   (loopN
    (fun (s3 : Int) =>
     (
      if Ar.cmp .lss s3 (Ar.len x_l) = true then
       (idxL x_l s3).bind fun x5 =>
       (aggregate_wrong N x_kind x5).bind fun r6 =>
       if Ar.cmp .neq r6 0 = true then
        some (.inr (.inr r6))
       else
        some (.inl (Ar.ar .add .i64 s3 1))
      else
       some (.inr (.inl ()))
      : Option ((Int) ⊕ (Unit ⊕ Int))))
    N 0).bind fun s4 =>
   match s4 with
   | .inl y7 =>
    (aggregate_folded_Accumulator_Value N (⟨x_kind, 0, (⟨0, 0, ⟨#[]⟩⟩ : GValue)⟩ : GAccumulator) x_l (fun y1 y2 => aggregate_Of_1 N y1 y2 x_kind)).bind fun r8 =>
    (aggregate_Result N r8 x_otherwise).bind fun r9 =>
    some (r9.1, r9.2)
   | .inr y10 =>
    some ((⟨0, 0, ⟨#[]⟩⟩ : GValue), y10)
def expr_evaluator_total (N : Nat) (x_x : Gexpr_evaluator) (x_e : GExpr) : Option (GValue × Int) :=
 (expr_evaluator_events N x_x x_e.Var).bind fun r2 =>
 (loopN
  (fun (s3 : (List GValue) × Int) =>
   (
    if Ar.cmp .lss s3.2 (Ar.len r2) = true then
     (idxL r2 s3.2).bind fun x6 =>
     (expr_field N x6 x_e.Field).bind fun r7 =>
     if Ar.cmp .neq r7.2 0 = true then
      some (.inr (.inr r7.2))
     else
      (appL s3.1 ([r7.1])).bind fun l9 =>
      some (.inl (l9, Ar.ar .add .i64 s3.2 1))
    else
     some (.inr (.inl s3.1))
    : Option (((List GValue) × Int) ⊕ (((List GValue)) ⊕ Int))))
  N ([], 0)).bind fun s5 =>
 match s5 with
 | .inl y10 =>
  (aggregate_Of N x_e.Kind y10 x_e.Value).bind fun r12 =>
  some (r12.1, r12.2)
 | .inr y13 =>
  some ((⟨0, 0, ⟨#[]⟩⟩ : GValue), y13)
def expr_evaluator_leaf (N : Nat) (x_x : Gexpr_evaluator) (x_e : GExpr) : Option (GValue × Int) :=
 (expr_evaluator_events N x_x x_e.Var).bind fun r2 =>
 if Ar.cmp .eql x_e.Op 0 = true then
  some (x_e.Value, 0)
 else
  if Ar.cmp .eql x_e.Op 3 = true then
   some ((⟨0, Ar.len r2, ⟨#[]⟩⟩ : GValue), 0)
  else
   if Ar.cmp .eql x_e.Op 4 = true then
    (expr_evaluator_total N x_x x_e).bind fun r3 =>
    some (r3.1, r3.2)
   else
    ((
     if Ar.cmp .neq x_e.Var x_x.own = true then
      if Ar.cmp .eql (Ar.len r2) 0 = true then
       some (.inr ())
      else
       (idxL r2 (Ar.ar .sub .i64 (Ar.len r2) 1)).bind fun x6 =>
       some (.inl x6)
     else
      some (.inl x_x.event)
    ) : Option (GEvent ⊕ Unit)).bind fun s5 =>
    match s5 with
    | .inl y7 =>
     if Ar.cmp .eql x_e.Op 2 = true then
      some ((⟨0, y7.Time, ⟨#[]⟩⟩ : GValue), 0)
     else
      (expr_field N y7 x_e.Field).bind fun r8 =>
      ((
       if Ar.cmp .eql r8.2 0 = true then
        (value_Check N r8.1).bind fun r10 =>
        some r10
       else
        some r8.2
      ) : Option (Int)).bind fun s9 =>
      if Ar.cmp .neq s9 0 = true then
       some ((⟨0, 0, ⟨#[]⟩⟩ : GValue), s9)
      else
       some (r8.1, 0)
    | .inr y11 =>
     some ((⟨0, 0, ⟨#[]⟩⟩ : GValue), 10)
def expr_evaluator_eval (N : Nat) : Nat → Gexpr_evaluator → GExpr → Option (GValue × Int)
 | 0, _, _ => none
 | n + 1, x_x, x_e =>
  if Ar.cmp .eql (Ar.len x_e.Args) 0 = true then
   (expr_evaluator_leaf N x_x x_e).bind fun r2 =>
   some (r2.1, r2.2)
  else
   (loopN
    (fun (s3 : (List GValue) × (List Int) × Int) =>
     (
      if Ar.cmp .lss s3.2.2 (Ar.len x_e.Args) = true then
       (idxL x_e.Args s3.2.2).bind fun x7 =>
       (expr_evaluator_eval N n x_x x7).bind fun r8 =>
       if Ar.cmp .neq r8.2 0 = true then
        some (.inr (.inr r8.2))
       else
        (appL s3.1 ([r8.1])).bind fun l9 =>
        (appL s3.2.1 ([r8.1.Kind])).bind fun l12 =>
        some (.inl (l9, l12, Ar.ar .add .i64 s3.2.2 1))
      else
       some (.inr (.inl (s3.1, s3.2.1)))
      : Option (((List GValue) × (List Int) × Int) ⊕ (((List GValue) × (List Int)) ⊕ Int))))
    N ([], [], 0)).bind fun s6 =>
   match s6 with
   | .inl y13 =>
    (expr_operands N x_e.Op y13.2).bind fun r16 =>
    if Ar.cmp .neq r16 0 = true then
     some ((⟨0, 0, ⟨#[]⟩⟩ : GValue), r16)
    else
     if Ar.cmp .eql x_e.Op 9 = true then
      (idxL y13.1 0).bind fun x17 =>
      (idxL y13.1 1).bind fun x18 =>
      (expr_flag N (Ar.an (Ar.cmp .eql x17.Kind x18.Kind) (Ar.an (Ar.cmp .eql x17.Num x18.Num) (Ar.an (Ar.scmp .eql x17.Text x18.Text) true)))).bind fun r19 =>
      some (r19, 0)
     else
      if Ar.cmp .eql x_e.Op 5 = true then
       (idxL y13.1 0).bind fun x20 =>
       (idxL y13.1 (Ar.ar .sub .i64 (Ar.len y13.1) 1)).bind fun x21 =>
       (expr_operations_2 N x20.Num x21.Num (fun y1 => expr_operations_1 N y1)).bind fun r22 =>
       some (r22, 0)
      else
       if Ar.cmp .eql x_e.Op 6 = true then
        (idxL y13.1 0).bind fun x23 =>
        (idxL y13.1 (Ar.ar .sub .i64 (Ar.len y13.1) 1)).bind fun x24 =>
        (expr_operations_3 N x23.Num x24.Num (fun y1 => expr_operations_1 N y1)).bind fun r25 =>
        some (r25, 0)
       else
        if Ar.cmp .eql x_e.Op 7 = true then
         (idxL y13.1 0).bind fun x26 =>
         (idxL y13.1 (Ar.ar .sub .i64 (Ar.len y13.1) 1)).bind fun x27 =>
         (expr_operations_4 N x26.Num x27.Num).bind fun r28 =>
         some (r28, 0)
        else
         if Ar.cmp .eql x_e.Op 8 = true then
          (idxL y13.1 0).bind fun x29 =>
          (idxL y13.1 (Ar.ar .sub .i64 (Ar.len y13.1) 1)).bind fun x30 =>
          (expr_operations_5 N x29.Num x30.Num).bind fun r31 =>
          some (r31, 0)
         else
          if Ar.cmp .eql x_e.Op 10 = true then
           (idxL y13.1 0).bind fun x32 =>
           (idxL y13.1 (Ar.ar .sub .i64 (Ar.len y13.1) 1)).bind fun x33 =>
           (expr_operations_6 N x32.Num x33.Num).bind fun r34 =>
           some (r34, 0)
          else
           if Ar.cmp .eql x_e.Op 11 = true then
            (idxL y13.1 0).bind fun x35 =>
            (idxL y13.1 (Ar.ar .sub .i64 (Ar.len y13.1) 1)).bind fun x36 =>
            (expr_operations_7 N x35.Num x36.Num).bind fun r37 =>
            some (r37, 0)
           else
            if Ar.cmp .eql x_e.Op 12 = true then
             (idxL y13.1 0).bind fun x38 =>
             (idxL y13.1 (Ar.ar .sub .i64 (Ar.len y13.1) 1)).bind fun x39 =>
             (expr_operations_8 N x38.Num x39.Num).bind fun r40 =>
             some (r40, 0)
            else
             (idxL y13.1 0).bind fun x41 =>
             (idxL y13.1 (Ar.ar .sub .i64 (Ar.len y13.1) 1)).bind fun x42 =>
             none
   | .inr y43 =>
    some ((⟨0, 0, ⟨#[]⟩⟩ : GValue), y43)
def expr_Eval (N : Nat) (x_e : GExpr) (x_env : GEnv) (x_own : Int) (x_event : GEvent) : Option (GValue × Int) :=
 (expr_Check N x_e).bind fun r2 =>
 if Ar.cmp .neq r2 0 = true then
  some ((⟨0, 0, ⟨#[]⟩⟩ : GValue), r2)
 else
  ((
   (expr_evaluator_eval N N (⟨x_env, x_own, x_event, ()⟩ : Gexpr_evaluator) x_e).bind fun r6 =>
   some (r6.2, r6.1)
  ) : Option ((Int × GValue))).bind fun s3 =>
  some (s3.2, s3.1)
def expr_Truth (N : Nat) (x_e : GExpr) (x_env : GEnv) (x_own : Int) (x_event : GEvent) : Option Bool :=
 (expr_Eval N x_e x_env x_own x_event).bind fun r1 =>
 if Ar.cmp .eql r1.2 0 = true then
  (expr_flag N true).bind fun r2 =>
  some (Ar.an (Ar.cmp .eql r1.1.Kind r2.Kind) (Ar.an (Ar.cmp .eql r1.1.Num r2.Num) (Ar.an (Ar.scmp .eql r1.1.Text r2.Text) true)))
 else
  some false
def law27_PredicateDecides (N : Nat) (x_types : List GSchema) (x_c : Gtidegatelaw27_Case) : Option Bool :=
 if Ar.cmp .gtr (Ar.len x_types) 4 = true then
  (law27_awake N).bind fun r1 =>
  some r1
 else
  (ref08_Few N x_c.Cond).bind fun r2 =>
  if Ar.or (Ar.or (Ar.nt r2) (Ar.cmp .gtr (Ar.len x_c.Event.Values) 9)) (Ar.cmp .neq x_c.Event.Typ x_c.Index) = true then
   (law27_awake N).bind fun r3 =>
   some r3
  else
   (event_Check N x_types x_c.Event).bind fun r4 =>
   if Ar.cmp .neq r4 0 = true then
    (law27_awake N).bind fun r5 =>
    some r5
   else
    (predicate_Of N x_types x_c.Index x_c.Cond x_c.Own).bind fun r6 =>
    (predicate_Symbol N x_types x_c.Event).bind fun r7 =>
    if Ar.cmp .neq r6.2 0 = true then
     if Ar.cmp .eql r7.2 0 = true then
      (law27_awake N).bind fun r8 =>
      some r8
     else
      some false
    else
     (predicate_Contains N r6.1 r7.1).bind fun r9 =>
     if Ar.an (Ar.cmp .eql r7.2 0) (Ar.cmp .eql r9.2 0) = true then
      (expr_Truth N x_c.Cond (⟨[]⟩ : GEnv) x_c.Own x_c.Event).bind fun r10 =>
      if Ar.beq r9.1 r10 = true then
       (law27_awake N).bind fun r11 =>
       some r11
      else
       some false
     else
      some false
end Go.Ab

