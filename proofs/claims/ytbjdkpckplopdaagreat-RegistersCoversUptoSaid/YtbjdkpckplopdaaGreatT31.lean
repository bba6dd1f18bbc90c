/- GSSp -/
import Derived.Test.YtbjdkpckplopdaaGreatT30
import Derived.Test.YtbjdkpckplopdaaGreatT23
import Derived.Test.YtbjdkpckplopdaaGreatT26
set_option linter.all false

namespace Go.Ab
variable [Ar]
def ref08_Count (N : Nat) : Nat → GExpr → Int → Option Int
 | 0, _, _ => none
 | n + 1, x_e, x_limit =>
  (loopN
   (fun (s1 : Int × Int) =>
    (
     if Ar.an (Ar.cmp .lss s1.2 (Ar.len x_e.Args)) (Ar.cmp .leq s1.1 x_limit) = true then
      (idxL x_e.Args s1.2).bind fun x3 =>
      (ref08_Count N n x3 x_limit).bind fun r4 =>
      some (.inl (Ar.ar .add .i64 s1.1 r4, Ar.ar .add .i64 s1.2 1))
     else
      some (.inr s1.1)
     : Option ((Int × Int) ⊕ (Int))))
   N (1, 0)).bind fun s2 =>
  some s2
def ref08_Depth (N : Nat) : Nat → GExpr → Option Int
 | 0, _ => none
 | n + 1, x_e =>
  (loopN
   (fun (s1 : Int × Int) =>
    (
     if Ar.cmp .lss s1.2 (Ar.len x_e.Args) = true then
      (idxL x_e.Args s1.2).bind fun x3 =>
      (ref08_Depth N n x3).bind fun r4 =>
      some (.inl (Ar.mx s1.1 r4, Ar.ar .add .i64 s1.2 1))
     else
      some (.inr s1.1)
     : Option ((Int × Int) ⊕ (Int))))
   N (0, 0)).bind fun s2 =>
  some (Ar.ar .add .i64 s2 1)
def ref08_Few (N : Nat) (x_e : GExpr) : Option Bool :=
 (ref08_Count N N x_e 200).bind fun r1 =>
 if Ar.cmp .leq r1 200 = true then
  (ref08_Depth N N x_e).bind fun r2 =>
  some (Ar.cmp .leq r2 100)
 else
  some false
def ref08_FewEnv (N : Nat) (x_env : GEnv) : Option Bool :=
 (loopN
  (fun (s1 : Int) =>
   (
    if Ar.an (Ar.cmp .lss s1 (Ar.len x_env.Vars)) (Ar.cmp .lss s1 20) = true then
     (idxL x_env.Vars s1).bind fun x3 =>
     if Ar.cmp .gtr (Ar.len x3) 12 = true then
      some (.inr (.inr ()))
     else
      (loopN
       (fun (s4 : Int) =>
        (
         (idxL x_env.Vars s1).bind fun x6 =>
         if Ar.cmp .lss s4 (Ar.len x6) = true then
          (idxL x_env.Vars s1).bind fun x7 =>
          (idxL x7 s4).bind fun x8 =>
          if Ar.cmp .gtr (Ar.len x8.Values) 10 = true then
           some (.inr (.inr ()))
          else
           some (.inl (Ar.ar .add .i64 s4 1))
         else
          some (.inr (.inl ()))
         : Option ((Int) ⊕ (Unit ⊕ Unit))))
       N 0).bind fun s5 =>
      match s5 with
      | .inl y9 =>
       some (.inl (Ar.ar .add .i64 s1 1))
      | .inr y10 =>
       some (.inr (.inr ()))
    else
     some (.inr (.inl ()))
    : Option ((Int) ⊕ (Unit ⊕ Unit))))
  N 0).bind fun s2 =>
 match s2 with
 | .inl y11 =>
  some (Ar.cmp .leq (Ar.len x_env.Vars) 20)
 | .inr y12 =>
  some false
def expr_Size (N : Nat) : Nat → GExpr → Option (Int × Int)
 | 0, _ => none
 | n + 1, x_e =>
  (loopN
   (fun (s1 : Int × Int × Int) =>
    (
     if Ar.cmp .lss s1.2.2 (Ar.len x_e.Args) = true then
      (idxL x_e.Args s1.2.2).bind fun x3 =>
      (expr_Size N n x3).bind fun r4 =>
      some (.inl (Ar.ar .add .i64 s1.1 r4.1, Ar.mx s1.2.1 r4.2, Ar.ar .add .i64 s1.2.2 1))
     else
      some (.inr (s1.1, s1.2.1))
     : Option ((Int × Int × Int) ⊕ ((Int × Int)))))
   N (1, 0, 0)).bind fun s2 =>
  some (s2.1, Ar.ar .add .i64 s2.2 1)
def expr_visit (N : Nat) : Nat → GExpr → (GExpr → Option Int) → Option Int
 | 0, _, _ => none
 | n + 1, x_e, x_f =>
  (x_f x_e).bind fun r1 =>
  if Ar.cmp .neq r1 0 = true then
   some r1
  else
   (loopN
    (fun (s2 : Int) =>
     (
      if Ar.cmp .lss s2 (Ar.len x_e.Args) = true then
       (idxL x_e.Args s2).bind fun x4 =>
       (expr_visit N n x4 x_f).bind fun r5 =>
       if Ar.cmp .neq r5 0 = true then
        some (.inr (.inr r5))
       else
        some (.inl (Ar.ar .add .i64 s2 1))
      else
       some (.inr (.inl ()))
      : Option ((Int) ⊕ (Unit ⊕ Int))))
    N 0).bind fun s3 =>
   match s3 with
   | .inl y6 =>
    some 0
   | .inr y7 =>
    some y7
def expr_arity (N : Nat) (x_op : Int) : Option (Int × Bool) :=
 if Ar.or (Ar.cmp .lss x_op 0) (Ar.cmp .gtr x_op 12) = true then
  some (0, false)
 else
  if Ar.cmp .lss x_op 5 = true then
   some (0, true)
  else
   if Ar.cmp .eql x_op 12 = true then
    some (1, true)
   else
    some (2, true)
def expr_uses (N : Nat) (x_op : Int) : Option (Bool × Bool) :=
 ((
  if Ar.cmp .eql x_op 1 = true then
   some true
  else
   some (Ar.cmp .eql x_op 4)
 ) : Option (Bool)).bind fun s1 =>
 if s1 = true then
  some (true, true)
 else
  if Ar.cmp .eql x_op 2 = true then
   some (true, false)
  else
   if Ar.cmp .eql x_op 3 = true then
    some (true, false)
   else
    some (false, false)
def value_size (N : Nat) (x_v : GValue) : Option Int :=
 if Ar.an (Ar.cmp .eql x_v.Kind 0) (Ar.or (Ar.cmp .lss x_v.Num (-1099511627776)) (Ar.cmp .gtr x_v.Num 1099511627776)) = true then
  some 2
 else
  if Ar.an (Ar.an (Ar.cmp .eql x_v.Kind 1) (Ar.cmp .neq x_v.Num 0)) (Ar.cmp .neq x_v.Num 1) = true then
   some 2
  else
   if Ar.cmp .gtr (Ar.slen x_v.Text) 64 = true then
    some 13
   else
    some 0
def value_Check (N : Nat) (x_v : GValue) : Option Int :=
 ((
  if Ar.cmp .eql x_v.Kind 0 = true then
   some true
  else
   some (Ar.cmp .eql x_v.Kind 1)
 ) : Option (Bool)).bind fun s1 =>
 if s1 = true then
  if Ar.scmp .neq x_v.Text (⟨#[]⟩ : ByteArray) = true then
   some 3
  else
   (value_size N x_v).bind fun r2 =>
   some r2
 else
  if Ar.cmp .eql x_v.Kind 2 = true then
   if Ar.cmp .neq x_v.Num 0 = true then
    some 3
   else
    (value_size N x_v).bind fun r3 =>
    some r3
  else
   some 1
def expr_suits (N : Nat) (x_kind : Int) (x_v : GValue) : Option Bool :=
 some (Ar.or (Ar.or (Ar.cmp .eql x_v.Kind 0) (Ar.cmp .eql x_kind 4)) (Ar.cmp .eql x_kind 5))
def expr_constants (N : Nat) (x_e : GExpr) : Option Int :=
 (value_Check N x_e.Value).bind fun r1 =>
 if Ar.cmp .neq r1 0 = true then
  some r1
 else
  if Ar.cmp .eql x_e.Op 4 = true then
   (expr_suits N x_e.Kind x_e.Value).bind fun r2 =>
   if Ar.or (Ar.nt r2) (Ar.an (Ar.cmp .eql x_e.Kind 1) (Ar.nt (Ar.an (Ar.cmp .eql x_e.Value.Kind 0) (Ar.an (Ar.cmp .eql x_e.Value.Num 0) (Ar.an (Ar.scmp .eql x_e.Value.Text (⟨#[]⟩)) true))))) = true then
    some 9
   else
    some 0
  else
   some 0
def expr_node (N : Nat) (x_e : GExpr) : Option Int :=
 (expr_arity N x_e.Op).bind fun r1 =>
 if Ar.nt r1.2 = true then
  some 1
 else
  if Ar.cmp .neq (Ar.len x_e.Args) r1.1 = true then
   some 15
  else
   (expr_uses N x_e.Op).bind fun r2 =>
   if Ar.or (Ar.an r2.1 (Ar.or (Ar.cmp .lss x_e.Var 0) (Ar.cmp .geq x_e.Var 16))) (Ar.an r2.2 (Ar.or (Ar.cmp .lss x_e.Field 0) (Ar.cmp .geq x_e.Field 8))) = true then
    some 2
   else
    if Ar.an (Ar.cmp .eql x_e.Op 4) (Ar.or (Ar.cmp .lss x_e.Kind 1) (Ar.cmp .gtr x_e.Kind 5)) = true then
     some 1
    else
     ((
      if Ar.or (Ar.cmp .eql x_e.Op 4) (Ar.cmp .eql x_e.Op 0) = true then
       (expr_constants N x_e).bind fun r4 =>
       if Ar.cmp .neq r4 0 = true then
        some (.inr r4)
       else
        some (.inl ())
      else
       some (.inl ())
     ) : Option (Unit ⊕ Int)).bind fun s3 =>
     match s3 with
     | .inl y5 =>
      if Ar.or (Ar.or (Ar.or (Ar.an (Ar.nt r2.1) (Ar.cmp .neq x_e.Var 0)) (Ar.an (Ar.nt r2.2) (Ar.cmp .neq x_e.Field 0))) (Ar.an (Ar.nt (Ar.cmp .eql x_e.Op 4)) (Ar.cmp .neq x_e.Kind 0))) (Ar.an (Ar.nt (Ar.or (Ar.cmp .eql x_e.Op 4) (Ar.cmp .eql x_e.Op 0))) (Ar.nt (Ar.an (Ar.cmp .eql x_e.Value.Kind 0) (Ar.an (Ar.cmp .eql x_e.Value.Num 0) (Ar.an (Ar.scmp .eql x_e.Value.Text (⟨#[]⟩)) true))))) = true then
       some 3
      else
       some 0
     | .inr y6 =>
      some y6
def expr_Check (N : Nat) (x_e : GExpr) : Option Int :=
 (expr_Size N N x_e).bind fun r1 =>
 if Ar.cmp .gtr r1.1 64 = true then
  some 5
 else
  if Ar.cmp .gtr r1.2 12 = true then
   some 12
  else
   (expr_visit N N x_e (fun y1 => expr_node N y1)).bind fun r2 =>
   some r2
def registers_needs_add (N : Nat) (x_m : List (Int × GNeed)) (x_n : GNeed) : Option (Bool × List (Int × GNeed)) :=
 (getM x_m x_n.Var ((⟨0, 0, 0⟩ : GNeed) : GNeed)).bind fun r1 =>
 if Ar.an (Ar.nt (Ar.an (Ar.cmp .eql x_n.Var r1.1.Var) (Ar.an (Ar.cmp .eql (Ar.ar .or .i64 r1.1.Last x_n.Last) r1.1.Last) (Ar.an (Ar.cmp .eql (Ar.ar .or .i64 r1.1.All x_n.All) r1.1.All) true)))) (Ar.cmp .neq (Ar.ar .or .i64 (Ar.ar .or .i64 r1.1.Last x_n.Last) (Ar.ar .or .i64 r1.1.All x_n.All)) 0) = true then
  (setM x_m x_n.Var (⟨x_n.Var, Ar.ar .or .i64 r1.1.Last x_n.Last, Ar.ar .or .i64 r1.1.All x_n.All⟩ : GNeed)).bind fun l3 =>
  some (true, l3)
 else
  some (false, x_m)
def registers_read_1 (N : Nat) : Nat → GExpr → Int → List (Int × GNeed) → Option (List (Int × GNeed))
 | 0, _, _, _ => none
 | n + 1, x_e, x_own, x_m =>
  ((
   if Ar.cmp .eql x_e.Op 1 = true then
    (req (Ar.cmp .geq x_e.Field 0)).bind fun _ =>
    some (⟨x_e.Var, Ar.sh .shl .i64 1 x_e.Field, 0⟩ : GNeed)
   else
    if Ar.cmp .eql x_e.Op 2 = true then
     some (⟨x_e.Var, 256, 0⟩ : GNeed)
    else
     if Ar.cmp .eql x_e.Op 4 = true then
      (req (Ar.cmp .geq x_e.Field 0)).bind fun _ =>
      some (⟨x_e.Var, 0, Ar.sh .shl .i64 1 x_e.Field⟩ : GNeed)
     else
      if Ar.cmp .eql x_e.Op 3 = true then
       some (⟨x_e.Var, 0, 256⟩ : GNeed)
      else
       some (⟨x_e.Var, 0, 0⟩ : GNeed)
  ) : Option (GNeed)).bind fun s2 =>
  ((
   if Ar.cmp .eql x_e.Var x_own = true then
    some ({ s2 with Last := 0 })
   else
    some s2
  ) : Option (GNeed)).bind fun s3 =>
  (registers_needs_add N x_m s3).bind fun a4 =>
  (loopN
   (fun (s8 : (List (Int × GNeed)) × Int) =>
    (
     if Ar.cmp .lss s8.2 (Ar.len x_e.Args) = true then
      (idxL x_e.Args s8.2).bind fun x10 =>
      (registers_read_1 N n x10 x_own s8.1).bind fun r11 =>
      some (.inl (r11, Ar.ar .add .i64 s8.2 1))
     else
      some (.inr s8.1)
     : Option (((List (Int × GNeed)) × Int) ⊕ (((List (Int × GNeed)))))))
   N (a4.2, 0)).bind fun s9 =>
  some s9
def registers_read (N : Nat) (x_e : GExpr) (x_own : Int) : Option (List (Int × GNeed)) := registers_read_1 N N x_e x_own []
def registers_needs_list (N : Nat) (x_m : List (Int × GNeed)) : Option (List GNeed) :=
 if (x_m.all fun p => decide (-9223372036854775808 ≤ p.1 ∧ p.1 < 9223372036854775808)) = true ∧ x_m.length ≤ 1073741824 then
  (sortL (x_m.map (·.1))).bind fun ks =>
  (loopN
   (fun (s1 : Int × (List GNeed)) =>
    (
     if Ar.cmp .lss s1.1 (Ar.len ks) = true then
      (idxL ks s1.1).bind fun k3 =>
      (getM x_m k3 ((⟨0, 0, 0⟩ : GNeed) : GNeed)).bind fun x4 =>
      (appL s1.2 ([x4.1])).bind fun l5 =>
      some (.inl (Ar.ar .add .i64 s1.1 1, l5))
     else
      some (.inr s1.2)
     : Option ((Int × (List GNeed)) ⊕ (((List GNeed))))))
   N (0, [])).bind fun s2 =>
  some s2
 else
  none
def registers_Read (N : Nat) (x_e : GExpr) (x_own : Int) : Option ((List GNeed) × Int) :=
 (expr_Check N x_e).bind fun r1 =>
 if Ar.cmp .neq r1 0 = true then
  some ([], r1)
 else
  (registers_read N x_e x_own).bind fun l2 =>
  (registers_needs_list N l2).bind fun l5 =>
  some (l5, 0)
def registers_Check (N : Nat) (x_l : List GNeed) : Option Int :=
 if Ar.cmp .gtr (Ar.len x_l) 16 = true then
  some 5
 else
  (loopN
   (fun (s1 : Int) =>
    (
     if Ar.cmp .lss s1 (Ar.len x_l) = true then
      (idxL x_l s1).bind fun x3 =>
      if Ar.or (Ar.or (Ar.or (Ar.or (Ar.or (Ar.cmp .lss x3.Var 0) (Ar.cmp .geq x3.Var 16)) (Ar.cmp .lss x3.Last 0)) (Ar.cmp .gtr x3.Last 511)) (Ar.cmp .lss x3.All 0)) (Ar.cmp .gtr x3.All 511) = true then
       some (.inr (.inr 2))
      else
       if Ar.cmp .gtr s1 0 = true then
        (idxL x_l (Ar.ar .sub .i64 s1 1)).bind fun x5 =>
        if Ar.cmp .leq x3.Var x5.Var = true then
         some (.inr (.inr 14))
        else
         if Ar.an (Ar.cmp .eql x3.Last 0) (Ar.cmp .eql x3.All 0) = true then
          some (.inr (.inr 3))
         else
          some (.inl (Ar.ar .add .i64 s1 1))
       else
        if Ar.an (Ar.cmp .eql x3.Last 0) (Ar.cmp .eql x3.All 0) = true then
         some (.inr (.inr 3))
        else
         some (.inl (Ar.ar .add .i64 s1 1))
     else
      some (.inr (.inl ()))
     : Option ((Int) ⊕ (Unit ⊕ Int))))
   N 0).bind fun s2 =>
  match s2 with
  | .inl y6 =>
   some 0
  | .inr y7 =>
   some y7
def registers_table (N : Nat) (x_l : List GNeed) : Option (List (Int × GNeed)) :=
 (loopN
  (fun (s3 : Int × (List (Int × GNeed))) =>
   (
    if Ar.cmp .lss s3.1 (Ar.len x_l) = true then
     (idxL x_l s3.1).bind fun x6 =>
     (registers_needs_add N s3.2 x6).bind fun l7 =>
     some (.inl (Ar.ar .add .i64 s3.1 1, l7.2))
    else
     some (.inr s3.2)
    : Option ((Int × (List (Int × GNeed))) ⊕ (((List (Int × GNeed)))))))
  N (0, ([] : List (Int × GNeed)))).bind fun s5 =>
 some s5
def registers_reducedEvent (N : Nat) (x_x : GEvent) (x_fields : Int) (x_time : Bool) : Option GEvent :=
 ((
  if x_time = true then
   some (⟨0, 0, 0, x_x.Time, []⟩ : GEvent)
  else
   some (⟨0, 0, 0, 0, []⟩ : GEvent)
 ) : Option (GEvent)).bind fun s3 =>
 (loopN
  (fun (s4 : Int × GEvent) =>
   (
    if Ar.cmp .lss s4.1 (Ar.len x_x.Values) = true then
     (idxL x_x.Values s4.1).bind fun x7 =>
     if Ar.cmp .geq s4.1 8 = true then
      (appL s4.2.Values ([(⟨0, 0, ⟨#[]⟩⟩ : GValue)])).bind fun l10 =>
      some (.inl (Ar.ar .add .i64 s4.1 1, { s4.2 with Values := l10 }))
     else
      (req (Ar.cmp .geq s4.1 0)).bind fun _ =>
      ((
       if Ar.cmp .eql (Ar.ar .and .i64 (Ar.sh .shr .i64 x_fields s4.1) 1) 0 = true then
        some (⟨0, 0, ⟨#[]⟩⟩ : GValue)
       else
        some x7
      ) : Option (GValue)).bind fun s11 =>
      (appL s4.2.Values ([s11])).bind fun l13 =>
      some (.inl (Ar.ar .add .i64 s4.1 1, { s4.2 with Values := l13 }))
    else
     some (.inr s4.2)
    : Option ((Int × GEvent) ⊕ (GEvent))))
  N (0, { s3 with Values := [] })).bind fun s6 =>
 some s6
def registers_reduced (N : Nat) (x_l : List GNeed) (x_env : GEnv) : Option GEnv :=
 (registers_table N x_l).bind fun l2 =>
 (mkL (Ar.len x_env.Vars) (Ar.len x_env.Vars) ([] : List GEvent)).bind fun l6 =>
 (loopN
  (fun (s8 : Int × (List (List GEvent))) =>
   (
    if Ar.cmp .lss s8.1 (Ar.len x_env.Vars) = true then
     (idxL x_env.Vars s8.1).bind fun x11 =>
     (getM l2 s8.1 ((⟨0, 0, 0⟩ : GNeed) : GNeed)).bind fun r12 =>
     if Ar.nt r12.2 = true then
      some (.inl (Ar.ar .add .i64 s8.1 1, s8.2))
     else
      (loopN
       (fun (s13 : Int × (List (List GEvent))) =>
        (
         if Ar.cmp .lss s13.1 (Ar.len x11) = true then
          (idxL x11 s13.1).bind fun x16 =>
          if Ar.cmp .eql s13.1 (Ar.ar .sub .i64 (Ar.len x11) 1) = true then
           (idxL s13.2 s8.1).bind fun x18 =>
           (registers_reducedEvent N x16 (Ar.ar .or .i64 r12.1.All r12.1.Last) (Ar.cmp .neq (Ar.ar .and .i64 r12.1.Last 256) 0)).bind fun r23 =>
           (appL x18 ([r23])).bind fun l24 =>
           (updL s13.2 s8.1 (fun _ => l24)).bind fun l22 =>
           some (.inl (Ar.ar .add .i64 s13.1 1, l22))
          else
           if Ar.cmp .neq r12.1.All 0 = true then
            (idxL s13.2 s8.1).bind fun x25 =>
            (registers_reducedEvent N x16 r12.1.All false).bind fun r30 =>
            (appL x25 ([r30])).bind fun l31 =>
            (updL s13.2 s8.1 (fun _ => l31)).bind fun l29 =>
            some (.inl (Ar.ar .add .i64 s13.1 1, l29))
           else
            some (.inl (Ar.ar .add .i64 s13.1 1, s13.2))
         else
          some (.inr s13.2)
         : Option ((Int × (List (List GEvent))) ⊕ (((List (List GEvent)))))))
       N (0, s8.2)).bind fun s15 =>
      some (.inl (Ar.ar .add .i64 s8.1 1, s15))
    else
     some (.inr s8.2)
    : Option ((Int × (List (List GEvent))) ⊕ (((List (List GEvent)))))))
  N (0, l6)).bind fun s10 =>
 some (⟨s10⟩ : GEnv)
def registers_Reduce (N : Nat) (x_l : List GNeed) (x_env : GEnv) : Option (GEnv × Int) :=
 (registers_Check N x_l).bind fun r2 =>
 if Ar.cmp .neq r2 0 = true then
  some ((⟨[]⟩ : GEnv), r2)
 else
  (registers_reduced N x_l x_env).bind fun r3 =>
  some (r3, 0)
def automaton_within (N : Nat) (x_i : Int) (x_n : Int) : Option Bool :=
 some (Ar.an (Ar.cmp .geq x_i 0) (Ar.cmp .lss x_i x_n))
def slices_IndexFunc_LGuard_Guard (N : Nat) (x_s : List GGuard) (x_f : GGuard → Option Bool) : Option Int :=
 (loopN
  (fun (s1 : Int) =>
   (
    if Ar.cmp .lss s1 (Ar.len x_s) = true then
     (idxL x_s s1).bind fun x3 =>
     (x_f x3).bind fun r4 =>
     if r4 = true then
      some (.inr (.inr s1))
     else
      some (.inl (Ar.ar .add .i64 s1 1))
    else
     some (.inr (.inl ()))
    : Option ((Int) ⊕ (Unit ⊕ Int))))
  N 0).bind fun s2 =>
 match s2 with
 | .inl y5 =>
  some (-1)
 | .inr y6 =>
  some y6
def slices_ContainsFunc_LGuard_Guard (N : Nat) (x_s : List GGuard) (x_f : GGuard → Option Bool) : Option Bool :=
 (slices_IndexFunc_LGuard_Guard N x_s x_f).bind fun r1 =>
 some (Ar.cmp .geq r1 0)
def automaton_guards_1 (N : Nat) (x_h : GGuard) (x_1 : GGuard) : Option Bool :=
 some (Ar.cmp .eql x_h.Scope x_1.Scope)
def automaton_guards (N : Nat) (x_a : GAutomaton) (x_l : List GGuard) : Option Int :=
 if Ar.cmp .gtr (Ar.len x_l) 64 = true then
  some 5
 else
  (loopN
   (fun (s1 : Int) =>
    (
     if Ar.cmp .lss s1 (Ar.len x_l) = true then
      (idxL x_l s1).bind fun x3 =>
      (automaton_within N x3.Scope x_a.Scopes).bind fun r5 =>
      if Ar.nt r5 = true then
       some (.inr (.inr 2))
      else
       (automaton_within N x3.Typ 16).bind fun r6 =>
       if Ar.nt r6 = true then
        some (.inr (.inr 2))
       else
        (automaton_within N x3.Var x_a.Vars).bind fun r7 =>
        if Ar.nt r7 = true then
         some (.inr (.inr 2))
        else
         (sliceL x_l none (some s1) none).bind fun l8 =>
         (slices_ContainsFunc_LGuard_Guard N l8 (fun y1 => automaton_guards_1 N y1 x3)).bind fun r10 =>
         if r10 = true then
          some (.inr (.inr 7))
         else
          (expr_Check N x3.Cond).bind fun r11 =>
          if Ar.cmp .neq r11 0 = true then
           some (.inr (.inr r11))
          else
           some (.inl (Ar.ar .add .i64 s1 1))
     else
      some (.inr (.inl ()))
     : Option ((Int) ⊕ (Unit ⊕ Int))))
   N 0).bind fun s2 =>
  match s2 with
  | .inl y12 =>
   some 0
  | .inr y13 =>
   some y13
def slices_Index_Lint_int (N : Nat) (x_s : List Int) (x_v : Int) : Option Int :=
 (loopN
  (fun (s1 : Int) =>
   (
    if Ar.cmp .lss s1 (Ar.len x_s) = true then
     (idxL x_s s1).bind fun x3 =>
     if Ar.cmp .eql x_v x3 = true then
      some (.inr (.inr s1))
     else
      some (.inl (Ar.ar .add .i64 s1 1))
    else
     some (.inr (.inl ()))
    : Option ((Int) ⊕ (Unit ⊕ Int))))
  N 0).bind fun s2 =>
 match s2 with
 | .inl y4 =>
  some (-1)
 | .inr y5 =>
  some y5
def slices_Contains_Lint_int (N : Nat) (x_s : List Int) (x_v : Int) : Option Bool :=
 (slices_Index_Lint_int N x_s x_v).bind fun r1 =>
 some (Ar.cmp .geq r1 0)
def automaton_scopes (N : Nat) (x_a : GAutomaton) (x_lists : List (List Int)) : Option Int :=
 (loopN
  (fun (s1 : Int) =>
   (
    if Ar.cmp .lss s1 (Ar.len x_lists) = true then
     (idxL x_lists s1).bind fun x3 =>
     (loopN
      (fun (s4 : Int) =>
       (
        if Ar.cmp .lss s4 (Ar.len x3) = true then
         (idxL x3 s4).bind fun x6 =>
         (automaton_within N x6 x_a.Scopes).bind fun r7 =>
         if Ar.nt r7 = true then
          some (.inr (.inr 2))
         else
          (sliceL x3 none (some s4) none).bind fun l8 =>
          (slices_Contains_Lint_int N l8 x6).bind fun r10 =>
          if r10 = true then
           some (.inr (.inr 7))
          else
           some (.inl (Ar.ar .add .i64 s4 1))
        else
         some (.inr (.inl ()))
        : Option ((Int) ⊕ (Unit ⊕ Int))))
      N 0).bind fun s5 =>
     match s5 with
     | .inl y11 =>
      some (.inl (Ar.ar .add .i64 s1 1))
     | .inr y12 =>
      some (.inr (.inr y12))
    else
     some (.inr (.inl ()))
    : Option ((Int) ⊕ (Unit ⊕ Int))))
  N 0).bind fun s2 =>
 match s2 with
 | .inl y13 =>
  some 0
 | .inr y14 =>
  some y14
def automaton_limited (N : Nat) (x_l : List GLimit) : Option (List Int) :=
 (loopN
  (fun (s1 : (List Int) × Int) =>
   (
    if Ar.cmp .lss s1.2 (Ar.len x_l) = true then
     (idxL x_l s1.2).bind fun x4 =>
     (appL s1.1 ([x4.Scope])).bind fun l6 =>
     some (.inl (l6, Ar.ar .add .i64 s1.2 1))
    else
     some (.inr s1.1)
    : Option (((List Int) × Int) ⊕ (((List Int))))))
  N ([], 0)).bind fun s3 =>
 some s3
def slices_IndexFunc_LLimit_Limit (N : Nat) (x_s : List GLimit) (x_f : GLimit → Option Bool) : Option Int :=
 (loopN
  (fun (s1 : Int) =>
   (
    if Ar.cmp .lss s1 (Ar.len x_s) = true then
     (idxL x_s s1).bind fun x3 =>
     (x_f x3).bind fun r4 =>
     if r4 = true then
      some (.inr (.inr s1))
     else
      some (.inl (Ar.ar .add .i64 s1 1))
    else
     some (.inr (.inl ()))
    : Option ((Int) ⊕ (Unit ⊕ Int))))
  N 0).bind fun s2 =>
 match s2 with
 | .inl y5 =>
  some (-1)
 | .inr y6 =>
  some y6
def slices_ContainsFunc_LLimit_Limit (N : Nat) (x_s : List GLimit) (x_f : GLimit → Option Bool) : Option Bool :=
 (slices_IndexFunc_LLimit_Limit N x_s x_f).bind fun r1 =>
 some (Ar.cmp .geq r1 0)
def automaton_edge_1 (N : Nat) (x_l : GLimit) : Option Bool :=
 some (Ar.or (Ar.cmp .lss x_l.Span 0) (Ar.cmp .gtr x_l.Span 1099511627776))
def automaton_edge (N : Nat) (x_a : GAutomaton) (x_x : GEdge) (x_before : Int) : Option Int :=
 (automaton_within N x_x.From (Ar.len x_a.States)).bind fun r1 =>
 if Ar.or (Ar.or (Ar.nt r1) (Ar.cmp .lss x_x.To (-1))) (Ar.cmp .geq x_x.To (Ar.len x_a.States)) = true then
  some 2
 else
  (automaton_within N x_x.Var x_a.Vars).bind fun r2 =>
  if Ar.nt r2 = true then
   some 2
  else
   (automaton_within N x_x.Typ 16).bind fun r3 =>
   if Ar.nt r3 = true then
    some 2
   else
    if Ar.cmp .lss x_x.From x_before = true then
     some 14
    else
     (expr_Check N x_x.Cond).bind fun r4 =>
     if Ar.cmp .neq r4 0 = true then
      some r4
     else
      if Ar.cmp .gtr (Ar.len x_x.Checks) 64 = true then
       some 5
      else
       (loopN
        (fun (s5 : Int) =>
         (
          if Ar.cmp .lss s5 (Ar.len x_x.Checks) = true then
           (idxL x_x.Checks s5).bind fun x7 =>
           (expr_Check N x7).bind fun r8 =>
           if Ar.cmp .neq r8 0 = true then
            some (.inr (.inr r8))
           else
            some (.inl (Ar.ar .add .i64 s5 1))
          else
           some (.inr (.inl ()))
          : Option ((Int) ⊕ (Unit ⊕ Int))))
        N 0).bind fun s6 =>
       match s6 with
       | .inl y9 =>
        (automaton_limited N x_x.Limits).bind fun r10 =>
        (automaton_scopes N x_a ([x_x.Opens, x_x.Closes, x_x.Inside, r10])).bind fun r11 =>
        if Ar.cmp .neq r11 0 = true then
         some r11
        else
         (slices_ContainsFunc_LLimit_Limit N x_x.Limits (fun y1 => automaton_edge_1 N y1)).bind fun r12 =>
         if r12 = true then
          some 2
         else
          some 0
       | .inr y13 =>
        some y13
def automaton_Check (N : Nat) (x_a : GAutomaton) : Option Int :=
 if Ar.or (Ar.or (Ar.or (Ar.cmp .lss x_a.Vars 0) (Ar.cmp .gtr x_a.Vars 16)) (Ar.cmp .lss x_a.Scopes 0)) (Ar.cmp .gtr x_a.Scopes 64) = true then
  some 2
 else
  if Ar.or (Ar.or (Ar.cmp .lss (Ar.len x_a.States) 1) (Ar.cmp .gtr (Ar.len x_a.States) 256)) (Ar.cmp .gtr (Ar.len x_a.Edges) 2048) = true then
   some 5
  else
   (loopN
    (fun (s1 : Int) =>
     (
      if Ar.cmp .lss s1 (Ar.len x_a.States) = true then
       (idxL x_a.States s1).bind fun x3 =>
       (automaton_guards N x_a x3.Guards).bind fun r4 =>
       if Ar.cmp .neq r4 0 = true then
        some (.inr (.inr r4))
       else
        some (.inl (Ar.ar .add .i64 s1 1))
      else
       some (.inr (.inl ()))
      : Option ((Int) ⊕ (Unit ⊕ Int))))
    N 0).bind fun s2 =>
   match s2 with
   | .inl y5 =>
    (loopN
     (fun (s6 : Int × Int) =>
      (
       if Ar.cmp .lss s6.2 (Ar.len x_a.Edges) = true then
        (idxL x_a.Edges s6.2).bind fun x8 =>
        (automaton_edge N x_a x8 s6.1).bind fun r9 =>
        if Ar.cmp .neq r9 0 = true then
         some (.inr (.inr r9))
        else
         some (.inl (x8.From, Ar.ar .add .i64 s6.2 1))
       else
        some (.inr (.inl ()))
       : Option ((Int × Int) ⊕ (Unit ⊕ Int))))
     N (0, 0)).bind fun s7 =>
    match s7 with
    | .inl y10 =>
     some 0
    | .inr y11 =>
     some y11
   | .inr y12 =>
    some y12
def registers_needs_joinF (N : Nat) : List (Int × GNeed) → Bool × List (Int × GNeed) → Option (Bool × List (Int × GNeed))
 | [], s => some s
 | p :: l, s => (registers_needs_add N s.2 p.2).bind fun a => registers_needs_joinF N l (a.1 || s.1, a.2)
def registers_needs_join (N : Nat) (x_m x_l : List (Int × GNeed)) : Option (Bool × List (Int × GNeed)) :=
 if (x_l.all fun p => decide (p.2.Var = p.1)) = true then registers_needs_joinF N x_l (false, x_m) else none
def registers_behind (N : Nat) (x_x : GEdge) (x_states : List (Option (List (Int × GNeed)))) : Option (List (Int × GNeed)) :=
 (loopN
  (fun (s1 : (List (Int × GNeed)) × Int) =>
   (
    if Ar.cmp .lss s1.2 (Ar.len x_x.Checks) = true then
     (idxL x_x.Checks s1.2).bind fun x3 =>
     (registers_read N x3 (-1)).bind fun l4 =>
     (registers_needs_join N s1.1 l4).bind fun a5 =>
     some (.inl (a5.2, Ar.ar .add .i64 s1.2 1))
    else
     some (.inr s1.1)
    : Option (((List (Int × GNeed)) × Int) ⊕ (((List (Int × GNeed)))))))
  N ([], 0)).bind fun m6 =>
 ((
  if Ar.cmp .geq x_x.To 0 = true then
   (req (inR x_states x_x.To)).bind fun _ =>
   (idxL x_states x_x.To).bind fun o7 =>
   o7.bind fun l7 =>
   (registers_needs_join N m6 l7).bind fun a8 =>
   some a8.2
  else
   some m6
 ) : Option (List (Int × GNeed))).bind fun m9 =>
 (getM m9 x_x.Var ((⟨0, 0, 0⟩ : GNeed) : GNeed)).bind fun n10 =>
 (registers_needs_add N (m9.filter fun p => !decide (p.1 = x_x.Var)) (⟨x_x.Var, 0, n10.1.All⟩ : GNeed)).bind fun a11 =>
 some a11.2
def registers_joinAt (N : Nat) (st : List (Option (List (Int × GNeed)))) (j : Int) (ol : Option (List (Int × GNeed))) : Option (Bool × List (Option (List (Int × GNeed)))) :=
 (idxL st j).bind fun o => o.bind fun m => ol.bind fun l => (registers_needs_join N m l).bind fun a => some (a.1, st.set j.toNat (some a.2))
def registers_Needs (N : Nat) (x_a : GAutomaton) : Option ((List (List GNeed)) × Int) :=
 (automaton_Check N x_a).bind fun r1 =>
 if Ar.cmp .neq r1 0 = true then
  some ([], r1)
 else
  (mkL (Ar.len x_a.States) (Ar.len x_a.States) (none : Option (List (Int × GNeed)))).bind fun l2 =>
  (loopN
   (fun (s3 : (List (Option (List (Int × GNeed)))) × Int) =>
    (
     if Ar.cmp .lss s3.2 (Ar.len x_a.States) = true then
      (idxL x_a.States s3.2).bind fun x5 =>
      (updL s3.1 s3.2 (fun _ => some [])).bind fun l6 =>
      (loopN
       (fun (s7 : (List (Option (List (Int × GNeed)))) × Int) =>
        (
         if Ar.cmp .lss s7.2 (Ar.len x5.Guards) = true then
          (idxL x5.Guards s7.2).bind fun x9 =>
          (registers_joinAt N s7.1 s3.2 (registers_read N x9.Cond x9.Var)).bind fun a10 =>
          some (.inl (a10.2, Ar.ar .add .i64 s7.2 1))
         else
          some (.inr s7.1)
         : Option (((List (Option (List (Int × GNeed)))) × Int) ⊕ (List (Option (List (Int × GNeed)))))))
       N (l6, 0)).bind fun l8 =>
      some (.inl (l8, Ar.ar .add .i64 s3.2 1))
     else
      some (.inr s3.1)
     : Option (((List (Option (List (Int × GNeed)))) × Int) ⊕ (List (Option (List (Int × GNeed)))))))
   N (l2, 0)).bind fun s4 =>
  (loopN
   (fun (s11 : (List (Option (List (Int × GNeed)))) × Bool) =>
    (
     if s11.2 = true then
      (loopN
       (fun (s13 : (List (Option (List (Int × GNeed)))) × Bool × Int) =>
        (
         if Ar.cmp .lss s13.2.2 (Ar.len x_a.Edges) = true then
          (idxL x_a.Edges s13.2.2).bind fun x15 =>
          (registers_joinAt N s13.1 x15.From (registers_read N x15.Cond x15.Var)).bind fun a16 =>
          (registers_joinAt N a16.2 x15.From (registers_behind N x15 a16.2)).bind fun a17 =>
          some (.inl (a17.2, Ar.or a17.1 (Ar.or a16.1 s13.2.1), Ar.ar .add .i64 s13.2.2 1))
         else
          some (.inr (s13.1, s13.2.1))
         : Option (((List (Option (List (Int × GNeed)))) × Bool × Int) ⊕ ((List (Option (List (Int × GNeed)))) × Bool))))
       N (s11.1, false, 0)).bind fun s14 =>
      some (.inl s14)
     else
      some (.inr s11.1)
     : Option (((List (Option (List (Int × GNeed)))) × Bool) ⊕ (List (Option (List (Int × GNeed)))))))
   N (s4, true)).bind fun s12 =>
  (loopN
   (fun (s18 : Int × (List (List GNeed))) =>
    (
     if Ar.cmp .lss s18.1 (Ar.len s12) = true then
      (idxL s12 s18.1).bind fun o20 =>
      o20.bind fun m21 =>
      (registers_needs_list N m21).bind fun l22 =>
      (appL s18.2 ([l22])).bind fun l23 =>
      some (.inl (Ar.ar .add .i64 s18.1 1, l23))
     else
      some (.inr s18.2)
     : Option ((Int × (List (List GNeed))) ⊕ (List (List GNeed)))))
   N (0, [])).bind fun s19 =>
  some (s19, 0)
def law26_two (N : Nat) (x_op : Int) (x_a : GExpr) (x_b : GExpr) : Option GExpr :=
 some (⟨x_op, [x_a, x_b], 0, 0, 0, (⟨0, 0, ⟨#[]⟩⟩ : GValue)⟩ : GExpr)
def law26_field (N : Nat) (x_v : Int) (x_f : Int) : Option GExpr :=
 some (⟨1, [], x_v, x_f, 0, (⟨0, 0, ⟨#[]⟩⟩ : GValue)⟩ : GExpr)
def ref08_Flag (N : Nat) (x_b : Bool) : Option GValue :=
 if x_b = true then
  some (⟨1, 1, ⟨#[]⟩⟩ : GValue)
 else
  some (⟨1, 0, ⟨#[]⟩⟩ : GValue)
def ref26_Same (N : Nat) (x_a : List GNeed) (x_b : List GNeed) : Option Bool :=
 if Ar.cmp .neq (Ar.len x_a) (Ar.len x_b) = true then
  some false
 else
  (loopN
   (fun (s1 : Int) =>
    (
     if Ar.cmp .lss s1 (Ar.len x_a) = true then
      (idxL x_a s1).bind fun x3 =>
      (idxL x_b s1).bind fun x4 =>
      if Ar.nt (Ar.an (Ar.cmp .eql x3.Var x4.Var) (Ar.an (Ar.cmp .eql x3.Last x4.Last) (Ar.an (Ar.cmp .eql x3.All x4.All) true))) = true then
       some (.inr (.inr ()))
      else
       some (.inl (Ar.ar .add .i64 s1 1))
     else
      some (.inr (.inl ()))
     : Option ((Int) ⊕ (Unit ⊕ Unit))))
   N 0).bind fun s2 =>
  match s2 with
  | .inl y5 =>
   some true
  | .inr y6 =>
   some false
def ref26_SameAll (N : Nat) (x_a : List (List GNeed)) (x_b : List (List GNeed)) : Option Bool :=
 if Ar.cmp .neq (Ar.len x_a) (Ar.len x_b) = true then
  some false
 else
  (loopN
   (fun (s1 : Int) =>
    (
     if Ar.cmp .lss s1 (Ar.len x_a) = true then
      (idxL x_a s1).bind fun x3 =>
      (idxL x_b s1).bind fun x4 =>
      (ref26_Same N x3 x4).bind fun r5 =>
      if Ar.nt r5 = true then
       some (.inr (.inr ()))
      else
       some (.inl (Ar.ar .add .i64 s1 1))
     else
      some (.inr (.inl ()))
     : Option ((Int) ⊕ (Unit ⊕ Unit))))
   N 0).bind fun s2 =>
  match s2 with
  | .inl y6 =>
   some true
  | .inr y7 =>
   some false
def ref26_SameEnv (N : Nat) (x_a : GEnv) (x_b : GEnv) : Option Bool :=
 if Ar.cmp .neq (Ar.len x_a.Vars) (Ar.len x_b.Vars) = true then
  some false
 else
  (loopN
   (fun (s1 : Int) =>
    (
     if Ar.cmp .lss s1 (Ar.len x_a.Vars) = true then
      (idxL x_a.Vars s1).bind fun x3 =>
      (idxL x_b.Vars s1).bind fun x4 =>
      if Ar.cmp .neq (Ar.len x3) (Ar.len x4) = true then
       some (.inr (.inr ()))
      else
       (loopN
        (fun (s5 : Int) =>
         (
          (idxL x_a.Vars s1).bind fun x7 =>
          if Ar.cmp .lss s5 (Ar.len x7) = true then
           (idxL x_a.Vars s1).bind fun x8 =>
           (idxL x8 s5).bind fun x9 =>
           (idxL x_b.Vars s1).bind fun x10 =>
           (idxL x10 s5).bind fun x11 =>
           if Ar.or (Ar.or (Ar.or (Ar.or (Ar.cmp .neq x9.Source x11.Source) (Ar.cmp .neq x9.Seq x11.Seq)) (Ar.cmp .neq x9.Typ x11.Typ)) (Ar.cmp .neq x9.Time x11.Time)) (Ar.cmp .neq (Ar.len x9.Values) (Ar.len x11.Values)) = true then
            some (.inr (.inr ()))
           else
            (loopN
             (fun (s12 : Int) =>
              (
               if Ar.cmp .lss s12 (Ar.len x9.Values) = true then
                (idxL x9.Values s12).bind fun x14 =>
                (idxL x11.Values s12).bind fun x15 =>
                if Ar.nt (Ar.an (Ar.cmp .eql x14.Kind x15.Kind) (Ar.an (Ar.cmp .eql x14.Num x15.Num) (Ar.an (Ar.scmp .eql x14.Text x15.Text) true))) = true then
                 some (.inr (.inr ()))
                else
                 some (.inl (Ar.ar .add .i64 s12 1))
               else
                some (.inr (.inl ()))
               : Option ((Int) ⊕ (Unit ⊕ Unit))))
             N 0).bind fun s13 =>
            match s13 with
            | .inl y16 =>
             some (.inl (Ar.ar .add .i64 s5 1))
            | .inr y17 =>
             some (.inr (.inr ()))
          else
           some (.inr (.inl ()))
          : Option ((Int) ⊕ (Unit ⊕ Unit))))
        N 0).bind fun s6 =>
       match s6 with
       | .inl y18 =>
        some (.inl (Ar.ar .add .i64 s1 1))
       | .inr y19 =>
        some (.inr (.inr ()))
     else
      some (.inr (.inl ()))
     : Option ((Int) ⊕ (Unit ⊕ Unit))))
   N 0).bind fun s2 =>
  match s2 with
  | .inl y20 =>
   some true
  | .inr y21 =>
   some false
def law26_awake (N : Nat) : Option Bool :=
 (law26_field N 0 0).bind fun r1 =>
 (law26_two N 5 (⟨4, [], 1, 1, 5, (⟨0, 0, ⟨#[]⟩⟩ : GValue)⟩ : GExpr) (⟨2, [], 2, 0, 0, (⟨0, 0, ⟨#[]⟩⟩ : GValue)⟩ : GExpr)).bind fun r2 =>
 (law26_two N 7 r1 r2).bind fun r3 =>
 (registers_Read N r3 2).bind fun r4 =>
 (ref08_Flag N true).bind fun r5 =>
 (law26_field N 0 0).bind fun r6 =>
 (law26_field N 1 0).bind fun r7 =>
 (law26_two N 7 r6 r7).bind fun r8 =>
 (registers_Needs N (⟨2, 0, [(⟨[]⟩ : GState), (⟨[]⟩ : GState)], [(⟨0, 1, 0, 0, (⟨0, [], 0, 0, 0, r5⟩ : GExpr), [], [], [], [], []⟩ : GEdge), (⟨1, (-1), 1, 1, r8, [], [], [], [], []⟩ : GEdge)]⟩ : GAutomaton)).bind fun r9 =>
 (registers_Reduce N ([(⟨0, 1, 0⟩ : GNeed)]) (⟨[[(⟨0, 0, 0, 3, [(⟨0, 1, ⟨#[]⟩⟩ : GValue), (⟨0, 2, ⟨#[]⟩⟩ : GValue)]⟩ : GEvent), (⟨0, 0, 0, 4, [(⟨0, 3, ⟨#[]⟩⟩ : GValue), (⟨0, 4, ⟨#[]⟩⟩ : GValue)]⟩ : GEvent)]]⟩ : GEnv)).bind fun r10 =>
 if Ar.or (Ar.or (Ar.cmp .neq r4.2 0) (Ar.cmp .neq r9.2 0)) (Ar.cmp .neq r10.2 0) = true then
  some false
 else
  (ref26_Same N r4.1 ([(⟨0, 1, 0⟩ : GNeed), (⟨1, 0, 2⟩ : GNeed)])).bind fun r11 =>
  if Ar.nt r11 = true then
   some false
  else
   (ref26_SameAll N r9.1 ([[], [(⟨0, 1, 0⟩ : GNeed)]])).bind fun r12 =>
   if Ar.nt r12 = true then
    some false
   else
    (ref26_SameEnv N r10.1 (⟨[[(⟨0, 0, 0, 0, [(⟨0, 3, ⟨#[]⟩⟩ : GValue), (⟨0, 0, ⟨#[]⟩⟩ : GValue)]⟩ : GEvent)]]⟩ : GEnv)).bind fun r13 =>
    some r13
def expr_operations_1 (N : Nat) (x_n : Int) : Option GValue :=
 some (⟨0, x_n, ⟨#[]⟩⟩ : GValue)
def expr_operations_2 (N : Nat) (x_a : Int) (x_b : Int) (x_2 : Int → Option GValue) : Option GValue :=
 (x_2 (Ar.ar .add .i64 x_a x_b)).bind fun r2 =>
 some r2
def expr_operations_3 (N : Nat) (x_a : Int) (x_b : Int) (x_2 : Int → Option GValue) : Option GValue :=
 (x_2 (Ar.ar .sub .i64 x_a x_b)).bind fun r2 =>
 some r2
def value_Bool (N : Nat) (x_b : Bool) : Option GValue :=
 if x_b = true then
  some (⟨1, 1, ⟨#[]⟩⟩ : GValue)
 else
  some (⟨1, 0, ⟨#[]⟩⟩ : GValue)
def expr_flag (N : Nat) (x_b : Bool) : Option GValue :=
 (value_Bool N x_b).bind fun r2 =>
 some r2
def expr_operations_4 (N : Nat) (x_a : Int) (x_b : Int) : Option GValue :=
 (expr_flag N (Ar.cmp .lss x_a x_b)).bind fun r2 =>
 some r2
def expr_operations_5 (N : Nat) (x_a : Int) (x_b : Int) : Option GValue :=
 (expr_flag N (Ar.cmp .leq x_a x_b)).bind fun r2 =>
 some r2
def expr_operations_6 (N : Nat) (x_a : Int) (x_b : Int) : Option GValue :=
 (expr_flag N (Ar.an (Ar.cmp .eql x_a 1) (Ar.cmp .eql x_b 1))).bind fun r2 =>
 some r2
def expr_operations_7 (N : Nat) (x_a : Int) (x_b : Int) : Option GValue :=
 (expr_flag N (Ar.or (Ar.cmp .eql x_a 1) (Ar.cmp .eql x_b 1))).bind fun r2 =>
 some r2
def expr_operations_8 (N : Nat) (x_a : Int) (x_1 : Int) : Option GValue :=
 (expr_flag N (Ar.cmp .neq x_a 1)).bind fun r2 =>
 some r2
def expr_operations (N : Nat) : Option Unit :=
 some ()
def expr_evaluator_events (N : Nat) (x_x : Gexpr_evaluator) (x_v : Int) : Option (List GEvent) :=
 if Ar.or (Ar.cmp .lss x_v 0) (Ar.cmp .geq x_v (Ar.len x_x.env.Vars)) = true then
  some ([])
 else
  (idxL x_x.env.Vars x_v).bind fun x1 =>
  some x1
def expr_field (N : Nat) (x_e : GEvent) (x_k : Int) : Option (GValue × Int) :=
 if Ar.cmp .geq x_k (Ar.len x_e.Values) = true then
  some ((⟨0, 0, ⟨#[]⟩⟩ : GValue), 6)
 else
  (idxL x_e.Values x_k).bind fun x2 =>
  some (x2, 0)
def aggregate_known (N : Nat) (x_kind : Int) : Option Bool :=
 some (Ar.an (Ar.cmp .geq x_kind 0) (Ar.cmp .leq x_kind 5))
def aggregate_suits (N : Nat) (x_kind : Int) (x_v : GValue) : Option Bool :=
 some (Ar.or (Ar.cmp .eql x_v.Kind 0) (Ar.an (Ar.an (Ar.cmp .neq x_kind 1) (Ar.cmp .neq x_kind 2)) (Ar.cmp .neq x_kind 3)))
def aggregate_wrong (N : Nat) (x_kind : Int) (x_v : GValue) : Option Int :=
 (value_Check N x_v).bind fun r1 =>
 if Ar.cmp .neq r1 0 = true then
  some r1
 else
  (aggregate_suits N x_kind x_v).bind fun r2 =>
  if Ar.nt r2 = true then
   some 9
  else
   some 0
def aggregate_folded_Accumulator_Value (N : Nat) (x_first : GAccumulator) (x_l : List GValue) (x_step : GAccumulator → GValue → Option GAccumulator) : Option GAccumulator :=
 (loopN
  (fun (s3 : Int × GAccumulator) =>
   (
    if Ar.cmp .lss s3.1 (Ar.len x_l) = true then
     (idxL x_l s3.1).bind fun x5 =>
     (x_step s3.2 x5).bind fun r6 =>
     some (.inl (Ar.ar .add .i64 s3.1 1, r6))
    else
     some (.inr s3.2)
    : Option ((Int × GAccumulator) ⊕ (GAccumulator))))
  N (0, x_first)).bind fun s4 =>
 some s4
def aggregate_combine_1 (N : Nat) : Option GValue :=
 some (⟨0, 0, ⟨#[]⟩⟩ : GValue)
def aggregate_combine_2 (N : Nat) (x_0 : GValue) (x_1 : GValue) : Option GValue :=
 some (⟨0, Ar.ar .add .i64 x_0.Num x_1.Num, ⟨#[]⟩⟩ : GValue)
def aggregate_combine_3 (N : Nat) (x_0 : GValue) (x_1 : GValue) : Option GValue :=
 some (⟨0, Ar.mn x_0.Num x_1.Num, ⟨#[]⟩⟩ : GValue)
def aggregate_combine_4 (N : Nat) (x_0 : GValue) (x_1 : GValue) : Option GValue :=
 some (⟨0, Ar.mx x_0.Num x_1.Num, ⟨#[]⟩⟩ : GValue)
def aggregate_combine_5 (N : Nat) (x_0 : GValue) : Option GValue :=
 some x_0
def aggregate_combine_6 (N : Nat) (x_0 : GValue) : Option GValue :=
 some x_0
def aggregate_combine (N : Nat) (x_kind : Int) (x_a : GValue) (x_b : GValue) : Option GValue :=
 if Ar.cmp .eql x_kind 0 = true then
  (aggregate_combine_1 N).bind fun r2 =>
  some r2
 else
  if Ar.cmp .eql x_kind 1 = true then
   (aggregate_combine_2 N x_a x_b).bind fun r3 =>
   some r3
  else
   if Ar.cmp .eql x_kind 2 = true then
    (aggregate_combine_3 N x_a x_b).bind fun r4 =>
    some r4
   else
    if Ar.cmp .eql x_kind 3 = true then
     (aggregate_combine_4 N x_a x_b).bind fun r5 =>
     some r5
    else
     if Ar.cmp .eql x_kind 4 = true then
      (aggregate_combine_5 N x_a).bind fun r6 =>
      some r6
     else
      if Ar.cmp .eql x_kind 5 = true then
       (aggregate_combine_6 N x_b).bind fun r7 =>
       some r7
      else
       none
def aggregate_merged (N : Nat) (x_a : GAccumulator) (x_b : GAccumulator) : Option GAccumulator :=
 if Ar.cmp .eql x_a.Count 0 = true then
  some x_b
 else
  if Ar.cmp .eql x_b.Count 0 = true then
   some x_a
  else
   (aggregate_combine N x_a.Kind x_a.Value x_b.Value).bind fun r2 =>
   some (⟨x_a.Kind, Ar.ar .add .i64 x_a.Count x_b.Count, r2⟩ : GAccumulator)
def aggregate_single (N : Nat) (x_kind : Int) (x_v : GValue) : Option GValue :=
 if Ar.cmp .eql x_kind 0 = true then
  some (⟨0, 0, ⟨#[]⟩⟩ : GValue)
 else
  some x_v
def aggregate_Of_1 (N : Nat) (x_a : GAccumulator) (x_v : GValue) (x_2 : Int) : Option GAccumulator :=
 (aggregate_single N x_2 x_v).bind fun r2 =>
 (aggregate_merged N x_a (⟨x_2, 1, r2⟩ : GAccumulator)).bind fun r3 =>
 some r3
def aggregate_Check (N : Nat) (x_a : GAccumulator) : Option Int :=
 (aggregate_known N x_a.Kind).bind fun r1 =>
 if Ar.nt r1 = true then
  some 1
 else
  if Ar.or (Ar.cmp .lss x_a.Count 0) (Ar.cmp .gtr x_a.Count 4096) = true then
   some 2
  else
   if Ar.or (Ar.cmp .eql x_a.Count 0) (Ar.cmp .eql x_a.Kind 0) = true then
    if Ar.nt (Ar.an (Ar.cmp .eql x_a.Value.Kind 0) (Ar.an (Ar.cmp .eql x_a.Value.Num 0) (Ar.an (Ar.scmp .eql x_a.Value.Text (⟨#[]⟩)) true))) = true then
     some 3
    else
     some 0
   else
    if Ar.cmp .eql x_a.Kind 1 = true then
     if Ar.nt (Ar.an (Ar.an (Ar.an (Ar.cmp .eql x_a.Value.Kind 0) (Ar.scmp .eql x_a.Value.Text (⟨#[]⟩ : ByteArray))) (Ar.cmp .geq x_a.Value.Num (Ar.neg .i64 (Ar.ar .mul .i64 x_a.Count 1099511627776)))) (Ar.cmp .leq x_a.Value.Num (Ar.ar .mul .i64 x_a.Count 1099511627776))) = true then
      some 3
     else
      some 0
    else
     (value_Check N x_a.Value).bind fun r2 =>
     if Ar.cmp .eql r2 0 = true then
      (aggregate_suits N x_a.Kind x_a.Value).bind fun r3 =>
      if Ar.nt r3 = true then
       some 3
      else
       some 0
     else
      some 3
def aggregate_Result (N : Nat) (x_a : GAccumulator) (x_otherwise : GValue) : Option (GValue × Int) :=
 (aggregate_Check N x_a).bind fun r2 =>
 if Ar.cmp .neq r2 0 = true then
  some ((⟨0, 0, ⟨#[]⟩⟩ : GValue), r2)
 else
  (aggregate_wrong N x_a.Kind x_otherwise).bind fun r3 =>
  if Ar.cmp .neq r3 0 = true then
   some ((⟨0, 0, ⟨#[]⟩⟩ : GValue), r3)
  else
   if Ar.cmp .eql x_a.Kind 0 = true then
    some ((⟨0, x_a.Count, ⟨#[]⟩⟩ : GValue), 0)
   else
    if Ar.an (Ar.cmp .eql x_a.Count 0) (Ar.cmp .neq x_a.Kind 1) = true then
     some (x_otherwise, 0)
    else
     some (x_a.Value, 0)
def aggregate_Of (N : Nat) (x_kind : Int) (x_l : List GValue) (x_otherwise : GValue) : Option (GValue × Int) :=
 (aggregate_known N x_kind).bind fun r2 =>
 if Ar.nt r2 = true then
  some ((⟨0, 0, ⟨#[]⟩⟩ : GValue), 1)
 else
  if Ar.cmp .gtr (Ar.len x_l) 4096 = true then
   some ((⟨0, 0, ⟨#[]⟩⟩ : GValue), 5)
  else
   (loopN
    (fun (s3 : Int) =>
     (
      if Ar.cmp .lss s3 (Ar.len x_l) = true then
       (idxL x_l s3).bind fun x5 =>
       (aggregate_wrong N x_kind x5).bind fun r6 =>
       if Ar.cmp .neq r6 0 = true then
        some (.inr (.inr r6))
       else
        some (.inl (Ar.ar .add .i64 s3 1))
      else
       some (.inr (.inl ()))
      : Option ((Int) ⊕ (Unit ⊕ Int))))
    N 0).bind fun s4 =>
   match s4 with
   | .inl y7 =>
    (aggregate_folded_Accumulator_Value N (⟨x_kind, 0, (⟨0, 0, ⟨#[]⟩⟩ : GValue)⟩ : GAccumulator) x_l (fun y1 y2 => aggregate_Of_1 N y1 y2 x_kind)).bind fun r8 =>
    (aggregate_Result N r8 x_otherwise).bind fun r9 =>
    some (r9.1, r9.2)
   | .inr y10 =>
    some ((⟨0, 0, ⟨#[]⟩⟩ : GValue), y10)
def expr_evaluator_total (N : Nat) (x_x : Gexpr_evaluator) (x_e : GExpr) : Option (GValue × Int) :=
 (expr_evaluator_events N x_x x_e.Var).bind fun r2 =>
 (loopN
  (fun (s3 : (List GValue) × Int) =>
   (
    if Ar.cmp .lss s3.2 (Ar.len r2) = true then
     (idxL r2 s3.2).bind fun x6 =>
     (expr_field N x6 x_e.Field).bind fun r7 =>
     if Ar.cmp .neq r7.2 0 = true then
      some (.inr (.inr r7.2))
     else
      (appL s3.1 ([r7.1])).bind fun l9 =>
      some (.inl (l9, Ar.ar .add .i64 s3.2 1))
    else
     some (.inr (.inl s3.1))
    : Option (((List GValue) × Int) ⊕ (((List GValue)) ⊕ Int))))
  N ([], 0)).bind fun s5 =>
 match s5 with
 | .inl y10 =>
  (aggregate_Of N x_e.Kind y10 x_e.Value).bind fun r12 =>
  some (r12.1, r12.2)
 | .inr y13 =>
  some ((⟨0, 0, ⟨#[]⟩⟩ : GValue), y13)
def expr_evaluator_leaf (N : Nat) (x_x : Gexpr_evaluator) (x_e : GExpr) : Option (GValue × Int) :=
 (expr_evaluator_events N x_x x_e.Var).bind fun r2 =>
 if Ar.cmp .eql x_e.Op 0 = true then
  some (x_e.Value, 0)
 else
  if Ar.cmp .eql x_e.Op 3 = true then
   some ((⟨0, Ar.len r2, ⟨#[]⟩⟩ : GValue), 0)
  else
   if Ar.cmp .eql x_e.Op 4 = true then
    (expr_evaluator_total N x_x x_e).bind fun r3 =>
    some (r3.1, r3.2)
   else
    ((
     if Ar.cmp .neq x_e.Var x_x.own = true then
      if Ar.cmp .eql (Ar.len r2) 0 = true then
       some (.inr ())
      else
       (idxL r2 (Ar.ar .sub .i64 (Ar.len r2) 1)).bind fun x6 =>
       some (.inl x6)
     else
      some (.inl x_x.event)
    ) : Option (GEvent ⊕ Unit)).bind fun s5 =>
    match s5 with
    | .inl y7 =>
     if Ar.cmp .eql x_e.Op 2 = true then
      some ((⟨0, y7.Time, ⟨#[]⟩⟩ : GValue), 0)
     else
      (expr_field N y7 x_e.Field).bind fun r8 =>
      ((
       if Ar.cmp .eql r8.2 0 = true then
        (value_Check N r8.1).bind fun r10 =>
        some r10
       else
        some r8.2
      ) : Option (Int)).bind fun s9 =>
      if Ar.cmp .neq s9 0 = true then
       some ((⟨0, 0, ⟨#[]⟩⟩ : GValue), s9)
      else
       some (r8.1, 0)
    | .inr y11 =>
     some ((⟨0, 0, ⟨#[]⟩⟩ : GValue), 10)
def expr_operands (N : Nat) (x_op : Int) (x_kinds : List Int) : Option Int :=
 (loopN
  (fun (s1 : Int) =>
   (
    if Ar.cmp .lss s1 (Ar.len x_kinds) = true then
     (idxL x_kinds s1).bind fun x3 =>
     ((
      if Ar.cmp .eql x_op 5 = true then
       some true
      else
       if Ar.cmp .eql x_op 6 = true then
        some true
       else
        if Ar.cmp .eql x_op 7 = true then
         some true
        else
         some (Ar.cmp .eql x_op 8)
     ) : Option (Bool)).bind fun s4 =>
     if s4 = true then
      if Ar.nt (Ar.cmp .eql x3 0) = true then
       some (.inr (.inr ()))
      else
       some (.inl (Ar.ar .add .i64 s1 1))
     else
      ((
       if Ar.cmp .eql x_op 10 = true then
        some true
       else
        if Ar.cmp .eql x_op 11 = true then
         some true
        else
         some (Ar.cmp .eql x_op 12)
      ) : Option (Bool)).bind fun s5 =>
      if s5 = true then
       if Ar.nt (Ar.cmp .eql x3 1) = true then
        some (.inr (.inr ()))
       else
        some (.inl (Ar.ar .add .i64 s1 1))
      else
       if Ar.cmp .eql x_op 9 = true then
        (idxL x_kinds 0).bind fun x6 =>
        if Ar.nt (Ar.cmp .eql x3 x6) = true then
         some (.inr (.inr ()))
        else
         some (.inl (Ar.ar .add .i64 s1 1))
       else
        some (.inl (Ar.ar .add .i64 s1 1))
    else
     some (.inr (.inl ()))
    : Option ((Int) ⊕ (Unit ⊕ Unit))))
  N 0).bind fun s2 =>
 match s2 with
 | .inl y7 =>
  some 0
 | .inr y8 =>
  some 9
def expr_evaluator_eval (N : Nat) : Nat → Gexpr_evaluator → GExpr → Option (GValue × Int)
 | 0, _, _ => none
 | n + 1, x_x, x_e =>
  if Ar.cmp .eql (Ar.len x_e.Args) 0 = true then
   (expr_evaluator_leaf N x_x x_e).bind fun r2 =>
   some (r2.1, r2.2)
  else
   (loopN
    (fun (s3 : (List GValue) × (List Int) × Int) =>
     (
      if Ar.cmp .lss s3.2.2 (Ar.len x_e.Args) = true then
       (idxL x_e.Args s3.2.2).bind fun x7 =>
       (expr_evaluator_eval N n x_x x7).bind fun r8 =>
       if Ar.cmp .neq r8.2 0 = true then
        some (.inr (.inr r8.2))
       else
        (appL s3.1 ([r8.1])).bind fun l9 =>
        (appL s3.2.1 ([r8.1.Kind])).bind fun l12 =>
        some (.inl (l9, l12, Ar.ar .add .i64 s3.2.2 1))
      else
       some (.inr (.inl (s3.1, s3.2.1)))
      : Option (((List GValue) × (List Int) × Int) ⊕ (((List GValue) × (List Int)) ⊕ Int))))
    N ([], [], 0)).bind fun s6 =>
   match s6 with
   | .inl y13 =>
    (expr_operands N x_e.Op y13.2).bind fun r16 =>
    if Ar.cmp .neq r16 0 = true then
     some ((⟨0, 0, ⟨#[]⟩⟩ : GValue), r16)
    else
     if Ar.cmp .eql x_e.Op 9 = true then
      (idxL y13.1 0).bind fun x17 =>
      (idxL y13.1 1).bind fun x18 =>
      (expr_flag N (Ar.an (Ar.cmp .eql x17.Kind x18.Kind) (Ar.an (Ar.cmp .eql x17.Num x18.Num) (Ar.an (Ar.scmp .eql x17.Text x18.Text) true)))).bind fun r19 =>
      some (r19, 0)
     else
      if Ar.cmp .eql x_e.Op 5 = true then
       (idxL y13.1 0).bind fun x20 =>
       (idxL y13.1 (Ar.ar .sub .i64 (Ar.len y13.1) 1)).bind fun x21 =>
       (expr_operations_2 N x20.Num x21.Num (fun y1 => expr_operations_1 N y1)).bind fun r22 =>
       some (r22, 0)
      else
       if Ar.cmp .eql x_e.Op 6 = true then
        (idxL y13.1 0).bind fun x23 =>
        (idxL y13.1 (Ar.ar .sub .i64 (Ar.len y13.1) 1)).bind fun x24 =>
        (expr_operations_3 N x23.Num x24.Num (fun y1 => expr_operations_1 N y1)).bind fun r25 =>
        some (r25, 0)
       else
        if Ar.cmp .eql x_e.Op 7 = true then
         (idxL y13.1 0).bind fun x26 =>
         (idxL y13.1 (Ar.ar .sub .i64 (Ar.len y13.1) 1)).bind fun x27 =>
         (expr_operations_4 N x26.Num x27.Num).bind fun r28 =>
         some (r28, 0)
        else
         if Ar.cmp .eql x_e.Op 8 = true then
          (idxL y13.1 0).bind fun x29 =>
          (idxL y13.1 (Ar.ar .sub .i64 (Ar.len y13.1) 1)).bind fun x30 =>
          (expr_operations_5 N x29.Num x30.Num).bind fun r31 =>
          some (r31, 0)
         else
          if Ar.cmp .eql x_e.Op 10 = true then
           (idxL y13.1 0).bind fun x32 =>
           (idxL y13.1 (Ar.ar .sub .i64 (Ar.len y13.1) 1)).bind fun x33 =>
           (expr_operations_6 N x32.Num x33.Num).bind fun r34 =>
           some (r34, 0)
          else
           if Ar.cmp .eql x_e.Op 11 = true then
            (idxL y13.1 0).bind fun x35 =>
            (idxL y13.1 (Ar.ar .sub .i64 (Ar.len y13.1) 1)).bind fun x36 =>
            (expr_operations_7 N x35.Num x36.Num).bind fun r37 =>
            some (r37, 0)
           else
            if Ar.cmp .eql x_e.Op 12 = true then
             (idxL y13.1 0).bind fun x38 =>
             (idxL y13.1 (Ar.ar .sub .i64 (Ar.len y13.1) 1)).bind fun x39 =>
             (expr_operations_8 N x38.Num x39.Num).bind fun r40 =>
             some (r40, 0)
            else
             (idxL y13.1 0).bind fun x41 =>
             (idxL y13.1 (Ar.ar .sub .i64 (Ar.len y13.1) 1)).bind fun x42 =>
             none
   | .inr y43 =>
    some ((⟨0, 0, ⟨#[]⟩⟩ : GValue), y43)
def expr_Eval (N : Nat) (x_e : GExpr) (x_env : GEnv) (x_own : Int) (x_event : GEvent) : Option (GValue × Int) :=
 (expr_Check N x_e).bind fun r2 =>
 if Ar.cmp .neq r2 0 = true then
  some ((⟨0, 0, ⟨#[]⟩⟩ : GValue), r2)
 else
  ((
   (expr_evaluator_eval N N (⟨x_env, x_own, x_event, ()⟩ : Gexpr_evaluator) x_e).bind fun r6 =>
   some (r6.2, r6.1)
  ) : Option ((Int × GValue))).bind fun s3 =>
  some (s3.2, s3.1)
def slices_EqualFunc_LEvent_LEvent_LEvent_LEvent (N : Nat) (x_s1 : List (List GEvent)) (x_s2 : List (List GEvent)) (x_eq : (List GEvent) → (List GEvent) → Option Bool) : Option Bool :=
 if Ar.cmp .neq (Ar.len x_s1) (Ar.len x_s2) = true then
  some false
 else
  (loopN
   (fun (s1 : Int) =>
    (
     if Ar.cmp .lss s1 (Ar.len x_s1) = true then
      (idxL x_s1 s1).bind fun x3 =>
      (idxL x_s2 s1).bind fun x4 =>
      (x_eq x3 x4).bind fun r5 =>
      if Ar.nt r5 = true then
       some (.inr (.inr ()))
      else
       some (.inl (Ar.ar .add .i64 s1 1))
     else
      some (.inr (.inl ()))
     : Option ((Int) ⊕ (Unit ⊕ Unit))))
   N 0).bind fun s2 =>
  match s2 with
  | .inl y6 =>
   some true
  | .inr y7 =>
   some false
def slices_EqualFunc_LEvent_LEvent_Event_Event (N : Nat) (x_s1 : List GEvent) (x_s2 : List GEvent) (x_eq : GEvent → GEvent → Option Bool) : Option Bool :=
 if Ar.cmp .neq (Ar.len x_s1) (Ar.len x_s2) = true then
  some false
 else
  (loopN
   (fun (s1 : Int) =>
    (
     if Ar.cmp .lss s1 (Ar.len x_s1) = true then
      (idxL x_s1 s1).bind fun x3 =>
      (idxL x_s2 s1).bind fun x5 =>
      (x_eq x3 x5).bind fun r6 =>
      if Ar.nt r6 = true then
       some (.inr (.inr ()))
      else
       some (.inl (Ar.ar .add .i64 s1 1))
     else
      some (.inr (.inl ()))
     : Option ((Int) ⊕ (Unit ⊕ Unit))))
   N 0).bind fun s2 =>
  match s2 with
  | .inl y7 =>
   some true
  | .inr y8 =>
   some false
def slices_Equal_LValue_Value (N : Nat) (x_s1 : List GValue) (x_s2 : List GValue) : Option Bool :=
 if Ar.cmp .neq (Ar.len x_s1) (Ar.len x_s2) = true then
  some false
 else
  (loopN
   (fun (s1 : Int) =>
    (
     if Ar.cmp .lss s1 (Ar.len x_s1) = true then
      (idxL x_s1 s1).bind fun x3 =>
      (idxL x_s2 s1).bind fun x4 =>
      if Ar.nt (Ar.an (Ar.cmp .eql x3.Kind x4.Kind) (Ar.an (Ar.cmp .eql x3.Num x4.Num) (Ar.an (Ar.scmp .eql x3.Text x4.Text) true))) = true then
       some (.inr (.inr ()))
      else
       some (.inl (Ar.ar .add .i64 s1 1))
     else
      some (.inr (.inl ()))
     : Option ((Int) ⊕ (Unit ⊕ Unit))))
   N 0).bind fun s2 =>
  match s2 with
  | .inl y5 =>
   some true
  | .inr y6 =>
   some false
def registers_same (N : Nat) (x_a : GEvent) (x_b : GEvent) : Option Bool :=
 if Ar.an (Ar.an (Ar.an (Ar.cmp .eql x_a.Source x_b.Source) (Ar.cmp .eql x_a.Seq x_b.Seq)) (Ar.cmp .eql x_a.Typ x_b.Typ)) (Ar.cmp .eql x_a.Time x_b.Time) = true then
  (slices_Equal_LValue_Value N x_a.Values x_b.Values).bind fun r1 =>
  some r1
 else
  some false
def registers_Agree_1 (N : Nat) (x_x : List GEvent) (x_y : List GEvent) : Option Bool :=
 (slices_EqualFunc_LEvent_LEvent_Event_Event N x_x x_y (fun y1 y2 => registers_same N y1 y2)).bind fun r1 =>
 some r1
def registers_Agree (N : Nat) (x_l : List GNeed) (x_a : GEnv) (x_b : GEnv) : Option (Bool × Int) :=
 (registers_Check N x_l).bind fun r1 =>
 if Ar.cmp .neq r1 0 = true then
  some (false, r1)
 else
  (registers_reduced N x_l x_a).bind fun r2 =>
  (registers_reduced N x_l x_b).bind fun r3 =>
  (slices_EqualFunc_LEvent_LEvent_LEvent_LEvent N r2.Vars r3.Vars (fun y1 y2 => registers_Agree_1 N y1 y2)).bind fun r4 =>
  some (r4, 0)
def law26_RegistersSuffices (N : Nat) (x_e : GExpr) (x_env : GEnv) (x_own : GS30) : Option Bool :=
 (ref08_Few N x_e).bind fun r1 =>
 if Ar.nt r1 = true then
  (law26_awake N).bind fun r2 =>
  some r2
 else
  (ref08_FewEnv N x_env).bind fun r3 =>
  if Ar.nt r3 = true then
   (law26_awake N).bind fun r4 =>
   some r4
  else
   if Ar.cmp .geq x_own.E0 0 = true then
    if Ar.cmp .lss x_own.E0 (Ar.len x_env.Vars) = true then
     if Ar.cmp .geq x_own.E1 0 = true then
      (idxL x_env.Vars x_own.E0).bind fun x6 =>
      ((
       if Ar.cmp .lss x_own.E1 (Ar.len x6) = true then
        (idxL x_env.Vars x_own.E0).bind fun x8 =>
        (idxL x8 x_own.E1).bind fun x9 =>
        some (x_own.E0, x9)
       else
        some ((-1), (⟨0, 0, 0, 0, []⟩ : GEvent))
      ) : Option ((Int × GEvent))).bind fun s7 =>
      (registers_Read N x_e s7.1).bind fun r10 =>
      if Ar.cmp .neq r10.2 0 = true then
       (law26_awake N).bind fun r11 =>
       if r11 = true then
        (expr_Check N x_e).bind fun r12 =>
        some (Ar.cmp .eql r10.2 r12)
       else
        some false
      else
       (registers_Reduce N r10.1 x_env).bind fun r13 =>
       if Ar.cmp .neq r13.2 0 = true then
        some false
       else
        (expr_Eval N x_e x_env s7.1 s7.2).bind fun r14 =>
        (expr_Eval N x_e r13.1 s7.1 s7.2).bind fun r15 =>
        (registers_Agree N r10.1 x_env r13.1).bind fun r16 =>
        (law26_awake N).bind fun r17 =>
        some (Ar.an (Ar.an (Ar.an (Ar.an r17 (Ar.cmp .eql r14.2 r15.2)) (Ar.an (Ar.cmp .eql r14.1.Kind r15.1.Kind) (Ar.an (Ar.cmp .eql r14.1.Num r15.1.Num) (Ar.an (Ar.scmp .eql r14.1.Text r15.1.Text) true)))) (Ar.cmp .eql r16.2 0)) r16.1)
     else
      (registers_Read N x_e (-1)).bind fun r18 =>
      if Ar.cmp .neq r18.2 0 = true then
       (law26_awake N).bind fun r19 =>
       if r19 = true then
        (expr_Check N x_e).bind fun r20 =>
        some (Ar.cmp .eql r18.2 r20)
       else
        some false
      else
       (registers_Reduce N r18.1 x_env).bind fun r21 =>
       if Ar.cmp .neq r21.2 0 = true then
        some false
       else
        (expr_Eval N x_e x_env (-1) (⟨0, 0, 0, 0, []⟩ : GEvent)).bind fun r22 =>
        (expr_Eval N x_e r21.1 (-1) (⟨0, 0, 0, 0, []⟩ : GEvent)).bind fun r23 =>
        (registers_Agree N r18.1 x_env r21.1).bind fun r24 =>
        (law26_awake N).bind fun r25 =>
        some (Ar.an (Ar.an (Ar.an (Ar.an r25 (Ar.cmp .eql r22.2 r23.2)) (Ar.an (Ar.cmp .eql r22.1.Kind r23.1.Kind) (Ar.an (Ar.cmp .eql r22.1.Num r23.1.Num) (Ar.an (Ar.scmp .eql r22.1.Text r23.1.Text) true)))) (Ar.cmp .eql r24.2 0)) r24.1)
    else
     (registers_Read N x_e (-1)).bind fun r26 =>
     if Ar.cmp .neq r26.2 0 = true then
      (law26_awake N).bind fun r27 =>
      if r27 = true then
       (expr_Check N x_e).bind fun r28 =>
       some (Ar.cmp .eql r26.2 r28)
      else
       some false
     else
      (registers_Reduce N r26.1 x_env).bind fun r29 =>
      if Ar.cmp .neq r29.2 0 = true then
       some false
      else
       (expr_Eval N x_e x_env (-1) (⟨0, 0, 0, 0, []⟩ : GEvent)).bind fun r30 =>
       (expr_Eval N x_e r29.1 (-1) (⟨0, 0, 0, 0, []⟩ : GEvent)).bind fun r31 =>
       (registers_Agree N r26.1 x_env r29.1).bind fun r32 =>
       (law26_awake N).bind fun r33 =>
       some (Ar.an (Ar.an (Ar.an (Ar.an r33 (Ar.cmp .eql r30.2 r31.2)) (Ar.an (Ar.cmp .eql r30.1.Kind r31.1.Kind) (Ar.an (Ar.cmp .eql r30.1.Num r31.1.Num) (Ar.an (Ar.scmp .eql r30.1.Text r31.1.Text) true)))) (Ar.cmp .eql r32.2 0)) r32.1)
   else
    (registers_Read N x_e (-1)).bind fun r34 =>
    if Ar.cmp .neq r34.2 0 = true then
     (law26_awake N).bind fun r35 =>
     if r35 = true then
      (expr_Check N x_e).bind fun r36 =>
      some (Ar.cmp .eql r34.2 r36)
     else
      some false
    else
     (registers_Reduce N r34.1 x_env).bind fun r37 =>
     if Ar.cmp .neq r37.2 0 = true then
      some false
     else
      (expr_Eval N x_e x_env (-1) (⟨0, 0, 0, 0, []⟩ : GEvent)).bind fun r38 =>
      (expr_Eval N x_e r37.1 (-1) (⟨0, 0, 0, 0, []⟩ : GEvent)).bind fun r39 =>
      (registers_Agree N r34.1 x_env r37.1).bind fun r40 =>
      (law26_awake N).bind fun r41 =>
      some (Ar.an (Ar.an (Ar.an (Ar.an r41 (Ar.cmp .eql r38.2 r39.2)) (Ar.an (Ar.cmp .eql r38.1.Kind r39.1.Kind) (Ar.an (Ar.cmp .eql r38.1.Num r39.1.Num) (Ar.an (Ar.scmp .eql r38.1.Text r39.1.Text) true)))) (Ar.cmp .eql r40.2 0)) r40.1)
def ref23_few (N : Nat) (x_l : List GGuard) : Option Bool :=
 (loopN
  (fun (s1 : Int) =>
   (
    if Ar.cmp .lss s1 (Ar.len x_l) = true then
     (idxL x_l s1).bind fun x3 =>
     (ref08_Few N x3.Cond).bind fun r4 =>
     if Ar.nt r4 = true then
      some (.inr (.inr ()))
     else
      some (.inl (Ar.ar .add .i64 s1 1))
    else
     some (.inr (.inl ()))
    : Option ((Int) ⊕ (Unit ⊕ Unit))))
  N 0).bind fun s2 =>
 match s2 with
 | .inl y5 =>
  some true
 | .inr y6 =>
  some false
def ref23_Few (N : Nat) (x_a : GAutomaton) : Option Bool :=
 (loopN
  (fun (s1 : Int) =>
   (
    if Ar.an (Ar.cmp .lss s1 (Ar.len x_a.States)) (Ar.cmp .lss s1 30) = true then
     (idxL x_a.States s1).bind fun x3 =>
     if Ar.cmp .gtr (Ar.len x3.Guards) 12 = true then
      (idxL x_a.States s1).bind fun x4 =>
      if Ar.cmp .leq (Ar.len x4.Guards) 64 = true then
       some (.inr (.inr ()))
      else
       (idxL x_a.States s1).bind fun x5 =>
       if Ar.cmp .gtr (Ar.len x5.Guards) 70 = true then
        some (.inr (.inr ()))
       else
        (idxL x_a.States s1).bind fun x6 =>
        (ref23_few N x6.Guards).bind fun r7 =>
        if Ar.nt r7 = true then
         some (.inr (.inr ()))
        else
         some (.inl (Ar.ar .add .i64 s1 1))
     else
      (idxL x_a.States s1).bind fun x8 =>
      if Ar.cmp .gtr (Ar.len x8.Guards) 70 = true then
       some (.inr (.inr ()))
      else
       (idxL x_a.States s1).bind fun x9 =>
       (ref23_few N x9.Guards).bind fun r10 =>
       if Ar.nt r10 = true then
        some (.inr (.inr ()))
       else
        some (.inl (Ar.ar .add .i64 s1 1))
    else
     some (.inr (.inl ()))
    : Option ((Int) ⊕ (Unit ⊕ Unit))))
  N 0).bind fun s2 =>
 match s2 with
 | .inl y11 =>
  (loopN
   (fun (s12 : Int) =>
    (
     if Ar.an (Ar.cmp .lss s12 (Ar.len x_a.Edges)) (Ar.cmp .lss s12 60) = true then
      (idxL x_a.Edges s12).bind fun x14 =>
      (ref08_Few N x14.Cond).bind fun r15 =>
      if Ar.or (Ar.or (Ar.or (Ar.or (Ar.or (Ar.nt r15) (Ar.cmp .gtr (Ar.len x14.Checks) 8)) (Ar.cmp .gtr (Ar.len x14.Opens) 12)) (Ar.cmp .gtr (Ar.len x14.Closes) 12)) (Ar.cmp .gtr (Ar.len x14.Inside) 12)) (Ar.cmp .gtr (Ar.len x14.Limits) 12) = true then
       some (.inr (.inr ()))
      else
       (loopN
        (fun (s16 : Int) =>
         (
          if Ar.cmp .lss s16 (Ar.len x14.Checks) = true then
           (idxL x14.Checks s16).bind fun x18 =>
           (ref08_Few N x18).bind fun r19 =>
           if Ar.nt r19 = true then
            some (.inr (.inr ()))
           else
            some (.inl (Ar.ar .add .i64 s16 1))
          else
           some (.inr (.inl ()))
          : Option ((Int) ⊕ (Unit ⊕ Unit))))
        N 0).bind fun s17 =>
       match s17 with
       | .inl y20 =>
        some (.inl (Ar.ar .add .i64 s12 1))
       | .inr y21 =>
        some (.inr (.inr ()))
     else
      some (.inr (.inl ()))
     : Option ((Int) ⊕ (Unit ⊕ Unit))))
   N 0).bind fun s13 =>
  match s13 with
  | .inl y22 =>
   some (Ar.an (Ar.cmp .leq (Ar.len x_a.States) 20) (Ar.cmp .leq (Ar.len x_a.Edges) 40))
  | .inr y23 =>
   some false
 | .inr y24 =>
  some false
def expr_Truth (N : Nat) (x_e : GExpr) (x_env : GEnv) (x_own : Int) (x_event : GEvent) : Option Bool :=
 (expr_Eval N x_e x_env x_own x_event).bind fun r1 =>
 if Ar.cmp .eql r1.2 0 = true then
  (expr_flag N true).bind fun r2 =>
  some (Ar.an (Ar.cmp .eql r1.1.Kind r2.Kind) (Ar.an (Ar.cmp .eql r1.1.Num r2.Num) (Ar.an (Ar.scmp .eql r1.1.Text r2.Text) true)))
 else
  some false
def law26_added (N : Nat) (x_env : GEnv) (x_v : Int) (x_e : GEvent) : Option GEnv :=
 (appL ([] : List (List GEvent)) x_env.Vars).bind fun l4 =>
 (loopN
  (fun (s6 : (List (List GEvent))) =>
   (
    if Ar.cmp .leq (Ar.len s6) x_v = true then
     (appL s6 ([[]])).bind fun l10 =>
     some (.inl l10)
    else
     some (.inr s6)
    : Option (((List (List GEvent))) ⊕ (((List (List GEvent)))))))
  N l4).bind fun s8 =>
 (req (inR s8 x_v)).bind fun _ =>
 (idxL s8 x_v).bind fun x12 =>
 (appL ([]) x12).bind fun l13 =>
 (appL l13 ([x_e])).bind fun l14 =>
 (req (inR s8 x_v)).bind fun _ =>
 (updL s8 x_v (fun x15 : List GEvent => l14)).bind fun l16 =>
 some (⟨l16⟩ : GEnv)
def law26_RegistersCovers (N : Nat) (x_a : GAutomaton) (x_env : GEnv) (x_event : GEvent) : Option Bool :=
 (ref23_Few N x_a).bind fun r1 =>
 if Ar.nt r1 = true then
  (law26_awake N).bind fun r2 =>
  some r2
 else
  (ref08_FewEnv N x_env).bind fun r3 =>
  if Ar.or (Ar.or (Ar.or (Ar.nt r3) (Ar.cmp .gtr (Ar.len x_event.Values) 10)) (Ar.cmp .gtr (Ar.len x_a.States) 12)) (Ar.cmp .gtr (Ar.len x_a.Edges) 24) = true then
   (law26_awake N).bind fun r4 =>
   some r4
  else
   (registers_Needs N x_a).bind fun r5 =>
   if Ar.cmp .neq r5.2 0 = true then
    (law26_awake N).bind fun r6 =>
    some r6
   else
    if Ar.cmp .neq (Ar.len r5.1) (Ar.len x_a.States) = true then
     some false
    else
     (loopN
      (fun (s8 : GEnv) =>
       (
        if Ar.cmp .lss (Ar.len s8.Vars) x_a.Vars = true then
         (appL ([]) s8.Vars).bind fun l11 =>
         (appL l11 ([[]])).bind fun l13 =>
         some (.inl (⟨l13⟩ : GEnv))
        else
         some (.inr s8)
        : Option ((GEnv) ⊕ (GEnv))))
      N x_env).bind fun s9 =>
     (loopN
      (fun (s14 : Int) =>
       (
        if Ar.cmp .lss s14 (Ar.len r5.1) = true then
         (idxL r5.1 s14).bind fun x16 =>
         (registers_Reduce N x16 s9).bind fun r17 =>
         if Ar.cmp .neq r17.2 0 = true then
          some (.inr (.inr ()))
         else
          (idxL x_a.States s14).bind fun x18 =>
          (loopN
           (fun (s19 : Int) =>
            (
             if Ar.cmp .lss s19 (Ar.len x18.Guards) = true then
              (idxL x18.Guards s19).bind fun x21 =>
              (idxL x18.Guards s19).bind fun x22 =>
              (expr_Truth N x21.Cond s9 x22.Var x_event).bind fun r23 =>
              (idxL x18.Guards s19).bind fun x24 =>
              (idxL x18.Guards s19).bind fun x25 =>
              (expr_Truth N x24.Cond r17.1 x25.Var x_event).bind fun r26 =>
              if Ar.nt (Ar.beq r23 r26) = true then
               some (.inr (.inr ()))
              else
               some (.inl (Ar.ar .add .i64 s19 1))
             else
              some (.inr (.inl ()))
             : Option ((Int) ⊕ (Unit ⊕ Unit))))
           N 0).bind fun s20 =>
          match s20 with
          | .inl y27 =>
           (loopN
            (fun (s28 : Int) =>
             (
              if Ar.cmp .lss s28 (Ar.len x_a.Edges) = true then
               (idxL x_a.Edges s28).bind fun x30 =>
               if Ar.cmp .neq x30.From s14 = true then
                some (.inl (Ar.ar .add .i64 s28 1))
               else
                (expr_Truth N x30.Cond s9 x30.Var x_event).bind fun r31 =>
                (expr_Truth N x30.Cond r17.1 x30.Var x_event).bind fun r32 =>
                if Ar.nt (Ar.beq r31 r32) = true then
                 some (.inr (.inr ()))
                else
                 (law26_added N s9 x30.Var x_event).bind fun r33 =>
                 (law26_added N r17.1 x30.Var x_event).bind fun r34 =>
                 (loopN
                  (fun (s35 : Int) =>
                   (
                    if Ar.cmp .lss s35 (Ar.len x30.Checks) = true then
                     (idxL x30.Checks s35).bind fun x37 =>
                     (expr_Truth N x37 r33 (-1) (⟨0, 0, 0, 0, []⟩ : GEvent)).bind fun r38 =>
                     (idxL x30.Checks s35).bind fun x39 =>
                     (expr_Truth N x39 r34 (-1) (⟨0, 0, 0, 0, []⟩ : GEvent)).bind fun r40 =>
                     if Ar.nt (Ar.beq r38 r40) = true then
                      some (.inr (.inr ()))
                     else
                      some (.inl (Ar.ar .add .i64 s35 1))
                    else
                     some (.inr (.inl ()))
                    : Option ((Int) ⊕ (Unit ⊕ Unit))))
                  N 0).bind fun s36 =>
                 match s36 with
                 | .inl y41 =>
                  if Ar.cmp .lss x30.To 0 = true then
                   some (.inl (Ar.ar .add .i64 s28 1))
                  else
                   (idxL r5.1 x30.To).bind fun x42 =>
                   (registers_Agree N x42 r33 r34).bind fun r43 =>
                   if Ar.or (Ar.cmp .neq r43.2 0) (Ar.nt r43.1) = true then
                    some (.inr (.inr ()))
                   else
                    some (.inl (Ar.ar .add .i64 s28 1))
                 | .inr y44 =>
                  some (.inr (.inr ()))
              else
               some (.inr (.inl ()))
              : Option ((Int) ⊕ (Unit ⊕ Unit))))
            N 0).bind fun s29 =>
           match s29 with
           | .inl y45 =>
            some (.inl (Ar.ar .add .i64 s14 1))
           | .inr y46 =>
            some (.inr (.inr ()))
          | .inr y47 =>
           some (.inr (.inr ()))
        else
         some (.inr (.inl ()))
        : Option ((Int) ⊕ (Unit ⊕ Unit))))
      N 0).bind fun s15 =>
     match s15 with
     | .inl y48 =>
      (law26_awake N).bind fun r49 =>
      some r49
     | .inr y50 =>
      some false
end Go.Ab

