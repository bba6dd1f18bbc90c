/- . -/
import Derived.Test.YtildiiggamckaaaGreatDoorK16
set_option linter.all false
open Go.Ab.Ar (an ar ar_eq cmp cmp_eq lst nt)
namespace Go.Ab
variable [Ar]
def El (N :Nat) (aE:List A2):Option (List A2):=
 (loopN
  (fun (s1:(List A2)×Int)=>
   (
    if cmp .lss s1.2 (Ar.len aE)=true then
     (loopN
      (fun(s3:Int)=>
       (
        if cmp .gtr s3 0=true then
         (C6 s1.1 (ar .sub .i64 s3 1)).bind fun x5=>
         (C6 aE s1.2).bind fun x6=>
         if cmp .gtr x5.Low x6.Low=true then
          some (.inl (ar .sub .i64 s3 1))
         else
          some (.inr s3)
        else
         some (.inr s3)
        :Option ((Int)⊕(Int))))
      N (Ar.len s1.1)).bind fun s4=>
     (S8 s1.1 none (some s4) none).bind fun l7=>
     (I1 ([]) l7).bind fun l10=>
     (C6 aE s1.2).bind fun x11=>
     (I1 l10 ([x11])).bind fun l13=>
     (S8 s1.1 (some s4) none none).bind fun l14=>
     (I1 l13 l14).bind fun l17=>
     some (.inl (l17,ar .add .i64 s1.2 1))
    else
     some (.inr s1.1)
    :Option (((List A2)×Int)⊕(((List A2))))))
  N ([],0)).bind fun s2=>
 some s2
def Er (N:Nat) (aE:List A2):Option (List A2):=
 (El N aE).bind fun r1=>
 (loopN
  (fun (s3:Int×(List A2))=>
   (
    if cmp .lss s3.1 (Ar.len r1)=true then
     if cmp .lss (ar .sub .i64 (Ar.len s3.2) 1) 0=true then
      (C6 r1 s3.1).bind fun x6=>
      (I1 s3.2 ([x6])).bind fun l8=>
      some (.inl (ar .add .i64 s3.1 1,l8))
     else
      (C6 r1 s3.1).bind fun x9=>
      (X1 (Z9 s3.2 (ar .sub .i64 (Ar.len s3.2) 1))).bind fun _=>
      (C6 s3.2 (ar .sub .i64 (Ar.len s3.2) 1)).bind fun x10=>
      if cmp .gtr x9.Low (ar .add .i64 x10.cZ 1)=true then
       (C6 r1 s3.1).bind fun x11=>
       (I1 s3.2 ([x11])).bind fun l13=>
       some (.inl (ar .add .i64 s3.1 1,l13))
      else
       (C6 r1 s3.1).bind fun x14=>
       (X1 (Z9 s3.2 (ar .sub .i64 (Ar.len s3.2) 1))).bind fun _=>
       (C6 s3.2 (ar .sub .i64 (Ar.len s3.2) 1)).bind fun x15=>
       if cmp .gtr x14.cZ x15.cZ=true then
        (C6 r1 s3.1).bind fun x16=>
        (X1 (Z9 s3.2 (ar .sub .i64 (Ar.len s3.2) 1))).bind fun _=>
        (Y6 s3.2 (ar .sub .i64 (Ar.len s3.2) 1) (fun x17:A2=>{x17 with cZ:=x16.cZ})).bind fun l18=>
        some (.inl (ar .add .i64 s3.1 1,l18))
       else
        some (.inl (ar .add .i64 s3.1 1,s3.2))
    else
     some (.inr s3.2)
    :Option ((Int×(List A2))⊕(((List A2))))))
  N (0,([]:List A2))).bind fun s5=>
 some s5
def Fa (N :Nat) (aC:List A2) (aD:List A2):Option (List A2):=
 (loopN
  (fun (s1:(List A2)×Int)=>
   (
    if cmp .lss s1.2 (Ar.len aC)=true then
     (loopN
      (fun(s4:(List A2)×Int)=>
       (
        if cmp .lss s4.2 (Ar.len aD)=true then
         (C6 aC s1.2).bind fun x7=>
         (C6 aD s4.2).bind fun x8=>
         (C6 aC s1.2).bind fun x9=>
         (C6 aD s4.2).bind fun x10=>
         if cmp .leq (Ar.mx x7.Low x8.Low) (Ar.mn x9.cZ x10.cZ)=true then
          (I1 s4.1 ([(⟨Ar.mx x7.Low x8.Low,Ar.mn x9.cZ x10.cZ⟩:A2)])).bind fun l12=>
          some (.inl (l12,ar .add .i64 s4.2 1))
         else
          some (.inl (s4.1,ar .add .i64 s4.2 1))
        else
         some (.inr s4.1)
        :Option (((List A2)×Int)⊕(((List A2))))))
      N (s1.1,0)).bind fun s6=>
     some (.inl (s6,ar .add .i64 s1.2 1))
    else
     some (.inr s1.1)
    :Option (((List A2)×Int)⊕(((List A2))))))
  N ([],0)).bind fun s3=>
 (Er N s3).bind fun r15=>
 some r15
def S0 (N:Nat) (aA:B3):Option Bool:=
 (loopN
  (fun(s1:Int)=>
   (
    if cmp .lss s1 (Ar.len aA.cX)=true then
     (C6 aA.cX s1).bind fun x3=>
     if cmp .gtr (Ar.len x3) 0=true then
      some (.inr (.inr ()))
     else
      some (.inl (ar .add .i64 s1 1))
    else
     some (.inr (.inl ()))
    :Option ((Int)⊕(Unit⊕Unit))))
  N 0).bind fun s2=>
 match s2 with
 | .inl y4=>
  some true
 | .inr y5=>
  some false
def BM (N : Nat) (aB:A0):Option (List Int):=
 (PO (Ar.len aB.cT) (Ar.len aB.cT) (0:Int)).bind fun l2=>
 (loopN
  (fun(s3:Int×(List Int))=>
   (
    if cmp .lss s3.1 (Ar.len s3.2)=true then
     (X1 (Z9 s3.2 s3.1)).bind fun _=>
     (Y6 s3.2 s3.1 (fun x6:Int=>(-1))).bind fun l7=>
     (C6 aB.cT s3.1).bind fun x8=>
     if x8=true then
      (X1 (Z9 l7 s3.1)).bind fun _=>
      (Y6 l7 s3.1 (fun x9:Int=>0)).bind fun l10=>
      some (.inl (ar .add .i64 s3.1 1,l10))
     else
      some (.inl (ar .add .i64 s3.1 1,l7))
    else
     some (.inr s3.2)
    :Option ((Int×(List Int))⊕(((List Int))))))
  N (0,l2)).bind fun s5=>
 (loopN
  (fun (s12 :Int×(List Int))=>
   (
    if cmp .leq s12.1 (Ar.len s12.2)=true then
     (loopN
      (fun (s15:Int×(List Int))=>
       (
        if cmp .lss s15.1 (Ar.len aB.cU)=true then
         (C6 aB.cU s15.1).bind fun x18=>
         (X1 (Z9 s15.2 x18.cW)).bind fun _=>
         (C6 s15.2 x18.cW).bind fun x19=>
         if cmp .lss x19 0=true then
          (X1 (Z9 s15.2 x18.To)).bind fun _=>
          (C6 s15.2 x18.To).bind fun x20=>
          if cmp .eql x20 (ar .sub .i64 s12.1 1)=true then
           (S0 N x18.On).bind fun r21=>
           if nt r21=true then
            (X1 (Z9 s15.2 x18.cW)).bind fun _=>
            (Y6 s15.2 x18.cW (fun x22:Int=>s12.1)).bind fun l23=>
            some (.inl (ar .add .i64 s15.1 1,l23))
           else
            some (.inl (ar .add .i64 s15.1 1,s15.2))
          else
           some (.inl (ar .add .i64 s15.1 1,s15.2))
         else
          some (.inl (ar .add .i64 s15.1 1,s15.2))
        else
         some (.inr s15.2)
        :Option ((Int×(List Int))⊕(((List Int))))))
      N (0,s12.2)).bind fun s17=>
     some (.inl (ar .add .i64 s12.1 1,s17))
    else
     some (.inr s12.2)
    :Option ((Int×(List Int))⊕(((List Int))))))
  N (1,s5)).bind fun s14=>
 some s14
def EY (N:Nat) (aC:A0) (aD:A0):Option Int:=
 (AD N aC).bind fun r1=>
 if cmp .neq r1 0=true then
  some r1
 else
  (AD N aD).bind fun r2=>
  if cmp .neq r2 0=true then
   some r2
  else
   if cmp .neq aC.cV aD.cV=true then
    some 15
   else
    some 0
def DC (N:Nat) (aA:B3) (aR:B3):Option B3:=
 (loopN
  (fun(s3:Int×B3)=>
   (
    if cmp .lss s3.1 (Ar.len aA.cX)=true then
     (C6 aA.cX s3.1).bind fun x6=>
     (C6 aR.cX s3.1).bind fun x7=>
     (Fa N x6 x7).bind fun r8=>
     (I1 s3.2.cX ([r8])).bind fun l10=>
     some (.inl (ar .add .i64 s3.1 1,{s3.2 with cX:=l10}))
    else
     some (.inr s3.2)
    :Option ((Int×B3)⊕(B3))))
  N (0,(⟨[]⟩:B3))).bind fun s5=>
 some s5
def AC (N:Nat) (aE:List C2) (aH:C2):Option (Int×(List C2)):=
 (loopN
  (fun(s1:Int)=>
   (
    if cmp .lss s1 (Ar.len aE)=true then
     (C6 aE s1).bind fun x3=>
     if an (cmp .eql x3.a aH.a) (an (cmp .eql x3.b aH.b) true)=true then
      some (.inr (.inr s1))
     else
      some (.inl (ar .add .i64 s1 1))
    else
     some (.inr (.inl ()))
    :Option ((Int)⊕(Unit⊕Int))))
  N 0).bind fun s2=>
 match s2 with
 | .inl y4=>
  (I1 aE ([aH])).bind fun l6=>
  some (Ar.len aE,l6)
 | .inr y7=>
  some (y7,aE)
def S9 (N:Nat) (aB:A0):Option (A0×Int):=
 (AD N aB).bind fun r2=>
 if cmp .eql r2 5=true then
  some ((⟨0,[],[]⟩:A0),5)
 else
  some (aB,0)
def BS (N : Nat) (aC:A0) (aD:A0):Option (A0×Int):=
 (EY N aC aD).bind fun r2=>
 if cmp .neq r2 0=true then
  some ((⟨0,[],[]⟩:A0),r2)
 else
  (loopN
   (fun (s4 : (List C2)×Int×A0)=>
    (
     if an (cmp .lss s4.2.1 (Ar.len s4.1)) (cmp .leq (Ar.len s4.1) 256)=true then
      (C6 s4.1 s4.2.1).bind fun x9=>
      (C6 aC.cT x9.a).bind fun x10=>
      if x10 = true then
       (C6 s4.1 s4.2.1).bind fun x11=>
       (C6 aD.cT x11.b).bind fun x12=>
       (I1 s4.2.2.cT ([x12])).bind fun l14=>
       (loopN
        (fun (s15 :(List C2)×Int×A0)=>
         (
          if cmp .lss s15.2.1 (Ar.len aC.cU)=true then
           (loopN
            (fun (s19:(List C2)×Int×A0)=>
             (
              if cmp .lss s19.2.1 (Ar.len aD.cU)=true then
               (C6 aC.cU s15.2.1).bind fun x23=>
               (C6 aD.cU s19.2.1).bind fun x24=>
               (C6 s19.1 s4.2.1).bind fun x25=>
               if cmp .neq x23.cW x25.a=true then
                some (.inl (s19.1,ar .add .i64 s19.2.1 1,{s19.2.2 with cT:=l14}))
               else
                (C6 s19.1 s4.2.1).bind fun x26=>
                if cmp .neq x24.cW x26.b=true then
                 some (.inl (s19.1,ar .add .i64 s19.2.1 1,{s19.2.2 with cT:=l14}))
                else
                 (DC N x23.On x24.On).bind fun r27=>
                 (S0 N r27).bind fun r28=>
                 if r28=true then
                  some (.inl (s19.1,ar .add .i64 s19.2.1 1,{s19.2.2 with cT:=l14}))
                 else
                  (AC N s19.1 (⟨x23.To,x24.To⟩:C2)).bind fun l29=>
                  (I1 s19.2.2.cU ([(⟨s4.2.1,l29.1,r27⟩:B5)])).bind fun l33=>
                  some (.inl (l29.2,ar .add .i64 s19.2.1 1,{s19.2.2 with cT:=l14,cU:=l33}))
              else
               some (.inr (s19.1,{s19.2.2 with cT:=l14}))
              :Option (((List C2)×Int×A0)⊕(((List C2)×A0)))))
            N (s15.1,0,{s15.2.2 with cT:=l14})).bind fun s22=>
           some (.inl (s22.1,ar .add .i64 s15.2.1 1,{s22.2 with cT:=l14}))
          else
           some (.inr (s15.1,{s15.2.2 with cT:=l14}))
          :Option (((List C2)×Int×A0)⊕(((List C2)×A0)))))
        N (s4.1,0,{s4.2.2 with cT:=l14})).bind fun s18=>
       some (.inl (s18.1,ar .add .i64 s4.2.1 1,{s18.2 with cT:=l14}))
      else
       (I1 s4.2.2.cT ([false])).bind fun l39=>
       (loopN
        (fun (s40 :(List C2)×Int×A0)=>
         (
          if cmp .lss s40.2.1 (Ar.len aC.cU)=true then
           (loopN
            (fun (s44:(List C2)×Int×A0)=>
             (
              if cmp .lss s44.2.1 (Ar.len aD.cU)=true then
               (C6 aC.cU s40.2.1).bind fun x48=>
               (C6 aD.cU s44.2.1).bind fun x49=>
               (C6 s44.1 s4.2.1).bind fun x50=>
               if cmp .neq x48.cW x50.a=true then
                some (.inl (s44.1,ar .add .i64 s44.2.1 1,{s44.2.2 with cT:=l39}))
               else
                (C6 s44.1 s4.2.1).bind fun x51=>
                if cmp .neq x49.cW x51.b=true then
                 some (.inl (s44.1,ar .add .i64 s44.2.1 1,{s44.2.2 with cT:=l39}))
                else
                 (DC N x48.On x49.On).bind fun r52=>
                 (S0 N r52).bind fun r53=>
                 if r53=true then
                  some (.inl (s44.1,ar .add .i64 s44.2.1 1,{s44.2.2 with cT:=l39}))
                 else
                  (AC N s44.1 (⟨x48.To,x49.To⟩:C2)).bind fun l54=>
                  (I1 s44.2.2.cU ([(⟨s4.2.1,l54.1,r52⟩:B5)])).bind fun l58=>
                  some (.inl (l54.2,ar .add .i64 s44.2.1 1,{s44.2.2 with cT:=l39,cU:=l58}))
              else
               some (.inr (s44.1,{s44.2.2 with cT:=l39}))
              :Option (((List C2)×Int×A0)⊕(((List C2)×A0)))))
            N (s40.1,0,{s40.2.2 with cT:=l39})).bind fun s47=>
           some (.inl (s47.1,ar .add .i64 s40.2.1 1,{s47.2 with cT:=l39}))
          else
           some (.inr (s40.1,{s40.2.2 with cT:=l39}))
          :Option (((List C2)×Int×A0)⊕(((List C2)×A0)))))
        N (s4.1,0,{s4.2.2 with cT:=l39})).bind fun s43=>
       some (.inl (s43.1,ar .add .i64 s4.2.1 1,{s43.2 with cT:=l39}))
     else
      some (.inr (s4.1,s4.2.2))
     :Option (((List C2)×Int×A0)⊕(((List C2)×A0)))))
   N ([(⟨0,0⟩:C2)],0,(⟨aC.cV,[],[]⟩:A0))).bind fun s8=>
  if cmp .gtr (Ar.len s8.1) 256=true then
   some ((⟨0,[],[]⟩:A0),5)
  else
   (S9 N s8.2).bind fun r66=>
   some (r66.1,r66.2)
def P9 (N:Nat) (aE:List B5) (aU:Int):Option (List B5):=
 (loopN
  (fun(s1:(List B5)×Int)=>
   (
    if cmp .lss s1.2 (Ar.len aE)=true then
     (C6 aE s1.2).bind fun x4=>
     if cmp .eql x4.cW 0=true then
      (C6 aE s1.2).bind fun x5=>
      (C6 aE s1.2).bind fun x6=>
      (I1 s1.1 ([(⟨0,ar .add .i64 x5.To aU,x6.On⟩:B5)])).bind fun l8=>
      some (.inl (l8,ar .add .i64 s1.2 1))
     else
      some (.inl (s1.1,ar .add .i64 s1.2 1))
    else
     some (.inr s1.1)
    :Option (((List B5)×Int)⊕(((List B5))))))
  N ([],0)).bind fun s3=>
 some s3
def Q6 (N:Nat) (aE:List B5) (aU:Int):Option (List B5):=
 (loopN
  (fun(s1:(List B5)×Int)=>
   (
    if cmp .lss s1.2 (Ar.len aE)=true then
     (C6 aE s1.2).bind fun x4=>
     (C6 aE s1.2).bind fun x5=>
     (C6 aE s1.2).bind fun x6=>
     (I1 s1.1 ([(⟨ar .add .i64 x4.cW aU,ar .add .i64 x5.To aU,x6.On⟩:B5)])).bind fun l8=>
     some (.inl (l8,ar .add .i64 s1.2 1))
    else
     some (.inr s1.1)
    :Option (((List B5)×Int)⊕(((List B5))))))
  N ([],0)).bind fun s3=>
 some s3
def CD (N:Nat) (aC:A0) (aD:A0):Option (A0×Int):=
 (EY N aC aD).bind fun r2=>
 if cmp .neq r2 0=true then
  some ((⟨0,[],[]⟩:A0),r2)
 else
  (C6 aC.cT 0).bind fun x3=>
  if x3=true then
   (I1 ([true]) aC.cT).bind fun l5=>
   (I1 l5 aD.cT).bind fun l6=>
   ((
    (P9 N aC.cU 1).bind fun l88=>
    (P9 N aD.cU (ar .add .i64 1 (Ar.len aC.cT))).bind fun r248=>
    (I1 l88 r248).bind fun l289=>
    some (⟨aC.cV,l6,l289⟩:A0)
   ):Option (A0)).bind fun s7=>
   (Q6 N aC.cU 1).bind fun r449=>
   (I1 s7.cU r449).bind fun l450=>
   (Q6 N aD.cU (ar .add .i64 1 (Ar.len aC.cT))).bind fun r451=>
   (I1 l450 r451).bind fun l452=>
   (S9 N ({s7 with cU:=l452})).bind fun r454=>
   some (r454.1,r454.2)
  else
   (C6 aD.cT 0).bind fun x455=>
   (I1 ([x455]) aC.cT).bind fun l457=>
   (I1 l457 aD.cT).bind fun l458=>
   ((
    (P9 N aC.cU 1).bind fun l540=>
    (P9 N aD.cU (ar .add .i64 1 (Ar.len aC.cT))).bind fun r700=>
    (I1 l540 r700).bind fun l741=>
    some (⟨aC.cV,l458,l741⟩:A0)
   ):Option (A0)).bind fun s459=>
   (Q6 N aC.cU 1).bind fun r901=>
   (I1 s459.cU r901).bind fun l902=>
   (Q6 N aD.cU (ar .add .i64 1 (Ar.len aC.cT))).bind fun r903=>
   (I1 l902 r903).bind fun l904=>
   (S9 N ({s459 with cU:=l904})).bind fun r906=>
   some (r906.1,r906.2)
def AR (N:Nat) (aB:A0):Option (A0×Int):=
 (AD N aB).bind fun r2=>
 if cmp .neq r2 0=true then
  some ((⟨0,[],[]⟩:A0),r2)
 else
  ((
   (PO (ar .add .i64 (Ar.len aB.cT) 1) (ar .add .i64 (Ar.len aB.cT) 1) (false:Bool)).bind fun l245=>
   some l245
  ):Option (((List Bool)))).bind fun s3=>
  ((
   (C6 aB.cT 0).bind fun x687=>
   (X1 (Z9 s3 0)).bind fun _=>
   (Y6 s3 0 (fun x807:Bool=>x687)).bind fun l808=>
   (X1 (Z9 l808 1)).bind fun _=>
   (Y6 l808 1 (fun x887:Bool=>true)).bind fun l888=>
   some l888
  ):Option (((List Bool)))).bind fun s446=>
  (loopN
   (fun(s968:Int×A0)=>
    (
     if cmp .lss s968.1 (Ar.len aB.cU)=true then
      (C6 aB.cU s968.1).bind fun x971=>
      (C6 aB.cT x971.To).bind fun x972=>
      if x972=true then
       (C6 aB.cU s968.1).bind fun x973=>
       (C6 aB.cU s968.1).bind fun x974=>
       (I1 s968.2.cU ([(⟨0,ar .add .i64 x973.cW 1,x974.On⟩:B5)])).bind fun l976=>
       some (.inl (ar .add .i64 s968.1 1,{s968.2 with cT:=[],cU:=l976}))
      else
       some (.inl (ar .add .i64 s968.1 1,{s968.2 with cT:=[]}))
     else
      some (.inr ({s968.2 with cT:=[]}))
     :Option ((Int×A0)⊕(A0))))
   N (0,(⟨aB.cV,[],[]⟩:A0))).bind fun s970=>
  (loopN
   (fun(s978:Int×A0)=>
    (
     if cmp .lss s978.1 (Ar.len aB.cU)=true then
      (C6 aB.cU s978.1).bind fun x981=>
      (C6 aB.cU s978.1).bind fun x982=>
      (C6 aB.cU s978.1).bind fun x983=>
      (I1 s978.2.cU ([(⟨ar .add .i64 x981.To 1,ar .add .i64 x982.cW 1,x983.On⟩:B5)])).bind fun l985=>
      some (.inl (ar .add .i64 s978.1 1,{s978.2 with cT:=[],cU:=l985}))
     else
      some (.inr ({s978.2 with cT:=[]}))
     :Option ((Int×A0)⊕(A0))))
   N (0,{s970 with cT:=[]})).bind fun s980=>
  (S9 N ({s980 with cT:=s446})).bind fun r987=>
  some (r987.1,r987.2)
def BL (N :Nat) (aB:A0):Option (List Bool):=
 (PO (Ar.len aB.cT) (Ar.len aB.cT) (false:Bool)).bind fun l2=>
 (X1 (Z9 l2 0)).bind fun _=>
 (Y6 l2 0 (fun x3:Bool=>true)).bind fun l4=>
 (loopN
  (fun (s5 :Int×(List Bool))=>
   (
    if cmp .lss s5.1 (Ar.len s5.2)=true then
     (loopN
      (fun (s8:Int×(List Bool))=>
       (
        if cmp .lss s8.1 (Ar.len aB.cU)=true then
         (C6 aB.cU s8.1).bind fun x11=>
         (X1 (Z9 s8.2 x11.cW)).bind fun _=>
         (C6 s8.2 x11.cW).bind fun x12=>
         if x12=true then
          (S0 N x11.On).bind fun r13=>
          if nt r13=true then
           (X1 (Z9 s8.2 x11.To)).bind fun _=>
           (Y6 s8.2 x11.To (fun x14:Bool=>true)).bind fun l15=>
           some (.inl (ar .add .i64 s8.1 1,l15))
          else
           some (.inl (ar .add .i64 s8.1 1,s8.2))
         else
          some (.inl (ar .add .i64 s8.1 1,s8.2))
        else
         some (.inr s8.2)
        :Option ((Int×(List Bool))⊕(((List Bool))))))
      N (0,s5.2)).bind fun s10=>
     some (.inl (ar .add .i64 s5.1 1,s10))
    else
     some (.inr s5.2)
    :Option ((Int×(List Bool))⊕(((List Bool))))))
  N (0,l4)).bind fun s7=>
 some s7
def DA (N:Nat) (aB:A0):Option (A0×Int):=
 (AD N aB).bind fun r2=>
 if cmp .neq r2 0=true then
  some ((⟨0,[],[]⟩:A0),r2)
 else
  ((
   (BL N aB).bind fun l44=>
   (BM N aB).bind fun r124=>
   some (r124,l44)
  ):Option (((List Int)×(List Bool)))).bind fun s3=>
  (PO (Ar.len s3.2) (Ar.len s3.2) (0:Int)).bind fun l286=>
  (loopN
   (fun (s288:Int×A0×(List Int)×(List Bool))=>
    (
     if cmp .lss s288.1 (Ar.len s288.2.2.2)=true then
      (X1 (Z9 s288.2.2.2 s288.1)).bind fun _=>
      (C6 s288.2.2.2 s288.1).bind fun x293=>
      if x293=true then
       (C6 s3.1 s288.1).bind fun x294=>
       (X1 (Z9 s288.2.2.2 s288.1)).bind fun _=>
       (Y6 s288.2.2.2 s288.1 (fun x295:Bool=>cmp .geq x294 0)).bind fun l296=>
       (X1 (Z9 l296 s288.1)).bind fun _=>
       (C6 l296 s288.1).bind fun x297=>
       if Ar.or x297 (cmp .eql s288.1 0)=true then
        (X1 (Z9 s288.2.2.1 s288.1)).bind fun _=>
        (Y6 s288.2.2.1 s288.1 (fun x298:Int=>Ar.len s288.2.1.cT)).bind fun l299=>
        (C6 aB.cT s288.1).bind fun x300=>
        (I1 s288.2.1.cT ([x300])).bind fun l302=>
        some (.inl (ar .add .i64 s288.1 1,{s288.2.1 with cT:=l302,cU:=[]},l299,l296))
       else
        some (.inl (ar .add .i64 s288.1 1,{s288.2.1 with cU:=[]},s288.2.2.1,l296))
      else
       (X1 (Z9 s288.2.2.2 s288.1)).bind fun _=>
       (Y6 s288.2.2.2 s288.1 (fun x303:Bool=>false)).bind fun l304=>
       (X1 (Z9 l304 s288.1)).bind fun _=>
       (C6 l304 s288.1).bind fun x305=>
       if Ar.or x305 (cmp .eql s288.1 0)=true then
        (X1 (Z9 s288.2.2.1 s288.1)).bind fun _=>
        (Y6 s288.2.2.1 s288.1 (fun x306:Int=>Ar.len s288.2.1.cT)).bind fun l307=>
        (C6 aB.cT s288.1).bind fun x308=>
        (I1 s288.2.1.cT ([x308])).bind fun l310=>
        some (.inl (ar .add .i64 s288.1 1,{s288.2.1 with cT:=l310,cU:=[]},l307,l304))
       else
        some (.inl (ar .add .i64 s288.1 1,{s288.2.1 with cU:=[]},s288.2.2.1,l304))
     else
      some (.inr ({s288.2.1 with cU:=[]},s288.2.2.1,s288.2.2.2))
     :Option ((Int×A0×(List Int)×(List Bool))⊕((A0×(List Int)×(List Bool))))))
   N (0,(⟨aB.cV,[],[]⟩:A0),l286,s3.2)).bind fun s292=>
  (loopN
   (fun (s314:Int×A0)=>
    (
     if cmp .lss s314.1 (Ar.len aB.cU)=true then
      (C6 aB.cU s314.1).bind fun x317=>
      (X1 (Z9 s292.2.2 x317.cW)).bind fun _=>
      (C6 s292.2.2 x317.cW).bind fun x318=>
      if x318=true then
       (X1 (Z9 s292.2.2 x317.To)).bind fun _=>
       (C6 s292.2.2 x317.To).bind fun x319=>
       if x319=true then
        (S0 N x317.On).bind fun r320=>
        if nt r320=true then
         (X1 (Z9 s292.2.1 x317.cW)).bind fun _=>
         (C6 s292.2.1 x317.cW).bind fun x321=>
         (X1 (Z9 s292.2.1 x317.To)).bind fun _=>
         (C6 s292.2.1 x317.To).bind fun x322=>
         (I1 s314.2.cU ([(⟨x321,x322,x317.On⟩:B5)])).bind fun l324=>
         some (.inl (ar .add .i64 s314.1 1,{s314.2 with cT:=s292.1.cT,cU:=l324}))
        else
         some (.inl (ar .add .i64 s314.1 1,{s314.2 with cT:=s292.1.cT}))
       else
        some (.inl (ar .add .i64 s314.1 1,{s314.2 with cT:=s292.1.cT}))
      else
       some (.inl (ar .add .i64 s314.1 1,{s314.2 with cT:=s292.1.cT}))
     else
      some (.inr ({s314.2 with cT:=s292.1.cT}))
     :Option ((Int×A0)⊕(A0))))
   N (0,{s292.1 with cU:=[]})).bind fun s316=>
  some ({s316 with cT:=s292.1.cT},0)
def Z6 (N:Nat) (aC:A0) (aD:A0):Option Bool:=
 (GE N aC).bind fun r1=>
 if nt r1=true then
  (CI N).bind fun r2=>
  some r2
 else
  (GE N aD).bind fun r3=>
  if nt r3=true then
   (CI N).bind fun r4=>
   some r4
  else
   (Ac N aC aD).bind fun r5=>
   (BS N aC aD).bind fun r6=>
   (Al N aC aD).bind fun r7=>
   (CD N aC aD).bind fun r8=>
   (S3 N aC).bind fun r9=>
   (AR N aC).bind fun r10=>
   (AO N aC).bind fun r11=>
   (DA N aC).bind fun r12=>
   (W4 N r5.1 r6.1).bind fun r13=>
   if an r13 (cmp .eql r5.2 r6.2)=true then
    (W4 N r7.1 r8.1).bind fun r14=>
    if an r14 (cmp .eql r7.2 r8.2)=true then
     (W4 N r9.1 r10.1).bind fun r15=>
     if an r15 (cmp .eql r9.2 r10.2)=true then
      (W4 N r11.1 r12.1).bind fun r16=>
      if an r16 (cmp .eql r11.2 r12.2)=true then
       (CI N).bind fun r17=>
       some r17
      else
       some false
     else
      some false
    else
     some false
   else
    some false
end Go.Ab
namespace Go.Ab
open Go.RowKit Go.Proofs Go.Proofs.Tryz K8
variable [Ar][K8]
set_option maxRecDepth 100000
def cf122:Cf:=⟨[22],[],[],[],[],[]⟩
def c122 (N aB aI r) (h:Z3 N aB aI=some r):Lu prog 122 [.sl [] .nil,vi aI] 1 (lst V.bool r):=by
 unfold Z3 at h
 obtain⟨h1,h2,hr⟩:=Io (f:=V.bool) h;rw[hr];clear hr h;intro H0
 have hneg:∀b,cmp .lss aI 0=b→b=false:=fun b h=>by rw[cmp_eq]at h;subst h;simp[Fg];omega
 have hsub:ar .sub .i64 aI (ar .sub .i64 0 0)=aI:=by rw[ar_eq,ar_eq];simp only[arI];rw[show(0:Int)-0=0 from rfl,wrap_small 0 (by omega) (by omega),DL];exact wrap_small _ (by omega) (by omega)
 have hgt:∀b,cmp .gtr (ar .sub .i64 aI (ar .sub .i64 0 0)) 0=b→(b=false→aI=0):=fun b h=>by rw[hsub,cmp_eq]at h;subst h;simp[Fg];omega
 have hbn:aI.toNat*1≤140737488355328:=by have:=HF (a:=aI.toNat) (b:=0) (by_:=1) (by omega) (by decide);simpa using this
 have hl0:(0:Int)=(([]:List V).length:Nat):=rfl;refine BU (T:=TT) cf122 J9 func122 (by rfl) (by kernel_rfl) call122 ntmps122 (by rfl) (by rfl) ?_;intro E K hE hK hN;cbv;refine Kh hE (fun hc=>absurd (hneg _ hc) (by decide)) (fun hc=>?_);cbv;refine Ng hE hl0 ?_;cbv;refine Kh hE (fun hc2=>?_) (fun hc2=>?_)
 ·cbv;refine KR hE ?_;cbv;refine Il hE aI hsub (.inl rfl) h1 hbn fun t m row j ht hm hrow=>?_;obtain⟨RL,hRL,hR0⟩:∃RL:Int,RL=(row.length:Nat)∧0≤RL:=⟨_,rfl,by omega⟩;cbv;refine Ng hE hl0 ?_;cbv;refine T8 hE (D6 _ _ _) hRL 0 0 rfl rfl (O9 _) (O9 _) hR0 fun l' n' q1 q2=>?_;cbv
  have e1:0=l':=by omega
  have e2:0=n':=by omega
  subst e1 e2;exact hK ⟨t,0,0,[],row⟩ [] _ ⟨rfl,rfl⟩ ((B6.start C5 rfl).push ht rfl)
 cbv;exact hN rfl [] H0 (.start C5 rfl)
def c79 (N aJ r) (h:O6 N aJ=some r):C7 prog 79 [sr eLB aJ] (sr V.bool r):=by
 unfold O6 at h
 refine Q9 (T:=TT) cf0 J9 func79 (by rfl) (by kernel_rfl) call79 ntmps79 (by rfl) (by rfl) ?_;intro E H0 K hE hK hF;have hO:B6 Eq H0 [] H0:=.start C5 rfl;cbv;refine E9 hE ?_;cbv;obtain⟨s2,hx,h⟩:=bind_some h;refine K1 cf0 hE J9 (fun s1=>[(0,.v (sr eLB aJ)),fi 3 s1.1,(9,.v (sr eLB aJ)),fi 10 (Ar.len aJ),fi 11 s1.2]) (fun s1 H1=>B6 Eq H0 [] H1) (fun x e l H1=>e= .exit 0∧l=[(0,.v (sr eLB aJ)),fi 3 x]∧B6 Eq H0 [] H1) (by kernel_rfl) ?_ hx ?_ hO ?_
 ·intro s1 H o hO h;clear hx;cbv;refine B0 hE h (fun _ h=>?_) fun _ h=>?_
  ·cbv;refine D0 hE eAG1 h fun x3 h=>?_;cbv;refine E9 hE ?_;cbv;refine B0 hE h (fun _ h=>?_) fun _ h=>?_
   ·cbv;cases h
   cbv;cases h;exact⟨_,rfl,.e rfl (.e4 .z),rfl,hO⟩
  cbv;cases h;exact⟨_,_,rfl,⟨rfl,rfl,hO⟩,.e2 .z,rfl⟩
 ·exact .e rfl (.e4 .z)
 clear hx;rintro e l H ⟨rfl,rfl,hO⟩;cbv;refine Fs hE (f:=V.bool) h (c122 N [] s2) (.cons (.refl _) (.cons (.refl _) .nil)) hO fun l4 q5 H hq5 hO h=>?_;cbv;refine E9 hE ?_;cbv;obtain⟨s8,hx,h⟩:=bind_some h;refine H8 cf0 hE J9 (γ:=OG) (fun s6 g=>[(6,.v (.own g.id g.lo g.n)),(25,.v (sr eLB aJ)),fi 26 (Ar.len aJ),fi 27 s6.1]) (fun s6 g H1=>Z0 g (Ar.len s6.2)∧B6 Eq H0 [ob g 1 V.bool s6.2] H1) (fun x e l H1=>∃u1:OG,Z0 u1 (Ar.len x)∧e= .exit 2∧l=[(6,.v (.own u1.id u1.lo u1.n))]∧B6 Eq H0 [ob u1 1 V.bool x] H1) (by kernel_rfl) ?_ q5 hx ?_ ?_ ?_
 ·rintro s6 q7 H o ⟨hq7,hO⟩ h;clear hx;cbv;refine B0 hE h (fun _ h=>?_) fun _ h=>?_
  ·cbv;refine D0 hE eAG1 h fun x9 h=>?_;cbv;refine Ey (f:=V.bool) hE (fun _=>rfl) (by decide) hO hq7 0 rfl (m:=x9) (Cz (f:=V.bool) hE (fun _=>rfl) (.refl _)) h fun l11 q10 H hq10 hO h=>?_;cbv;cases h;exact⟨_,q10,rfl,.e4 .z,rfl,hq10,hO⟩
  cbv;cases h;exact⟨_,_,rfl,⟨q7,hq7,rfl,rfl,hO⟩,.e rfl .z,rfl⟩
 ·exact .e4 .z
 ·exact⟨hq5,hO⟩
 clear hx;rintro e l H ⟨q12,hq12,rfl,rfl,hO⟩;cbv;cases h;exact hF q12 _ _ 0 _ _ hO rfl (Z5 hE hq12) (.refl _)
def cf80:Cf:=⟨[],[(5,14)],[],[],[],[]⟩
def c80 (N aB aU r) (h:N4 N aB aU=some r):C7 prog 80 [(F2 aB),vi aU] (sr eAD6 r):=by
 unfold N4 at h
 refine P6 cf80 func80 call80 ntmps80 ?_;intro E H0 K hE hK hO;cbv;refine E9 hE ?_;cbv;replace hO:=hO.tl0 (t:=.nil) rfl;obtain⟨s3,hx,h⟩:=bind_some h;refine H8 cf80 hE J9 (γ:=D2) (fun s1 g=>[fi 1 aU,(5,.v (.sl (lst eAD6 s1.1) g)),(9,.v (sr eAD6 aB.cU)),fi 10 (Ar.len aB.cU),fi 11 s1.2]) (fun s1 g H1=>G3 g∧B6 Eq H0 [.tl g] H1) (fun x e l H1=>∃u1:D2,G3 u1∧e= .exit 0∧l=[(5,.v (.sl (lst eAD6 x) u1))]∧B6 Eq H0 [.tl u1] H1) (by kernel_rfl) ?_ .nil hx ?_ ?_ ?_
 ·rintro s1 t2 H o ⟨ht2,hO⟩ h;clear hx;cbv;refine B0 hE h (fun _ h=>?_) fun _ h=>?_
  ·cbv;refine D0 hE eAD9 h fun x4 h=>?_;cbv;refine M9 hE (g:=fun r5=>(F3 r5)) h (c71 N x4.On) (.refl _) fun r5 h=>?_;cbv;refine K7 (f:=eAD6) hE O3 (by decide) hO 0 rfl ht2 (l:=s1.1) (m:=[(⟨ar .add .i64 x4.cW aU,ar .add .i64 x4.To aU,r5⟩:B5)]) (.refl _) (.lstc (.eq (eAD9 (⟨ar .add .i64 x4.cW aU,ar .add .i64 x4.To aU,r5⟩:B5)) (.refl _)) (.lst0)) h fun l7 t6 H hO ht6 h=>?_;cbv;cases h;exact⟨_,t6,rfl,.e rfl (.e4 .z),rfl,ht6,hO⟩
  cbv;cases h;exact⟨_,_,rfl,⟨t2,ht2,rfl,rfl,hO⟩,.e rfl .z,rfl⟩
 ·exact .e rfl (.v (.slt _ (.lst0)) (.e rfl (.e rfl (.e rfl (.z)))))
 ·exact⟨trivial,hO⟩
 clear hx;rintro e l H ⟨t8,ht8,rfl,rfl,hO⟩;cbv;cases h;exact hK hO (.ro _ _)
def cf123:Cf:=⟨[22],[],[],[],[],[]⟩
def c123 (N aB aI r) (h:Z4 N aB aI=some r):Lu prog 123 [.sl [] .nil,vi aI] 3 (lst eAD6 r):=by
 unfold Z4 at h
 obtain⟨h1,h2,hr⟩:=Io (f:=eAD6) h;rw[hr];clear hr h;intro H0
 have hneg:∀b,cmp .lss aI 0=b→b=false:=fun b h=>by rw[cmp_eq]at h;subst h;simp[Fg];omega
 have hsub:ar .sub .i64 aI (ar .sub .i64 0 0)=aI:=by rw[ar_eq,ar_eq];simp only[arI];rw[show(0:Int)-0=0 from rfl,wrap_small 0 (by omega) (by omega),DL];exact wrap_small _ (by omega) (by omega)
 have hgt:∀b,cmp .gtr (ar .sub .i64 aI (ar .sub .i64 0 0)) 0=b→(b=false→aI=0):=fun b h=>by rw[hsub,cmp_eq]at h;subst h;simp[Fg];omega
 have hbn:aI.toNat*40≤140737488355328:=by have:=HF (a:=aI.toNat) (b:=0) (by_:=40) (by omega) (by decide);simpa using this
 have hl0:(0:Int)=(([]:List V).length:Nat):=rfl;refine BU (T:=TT) cf123 J9 func123 (by rfl) (by kernel_rfl) call123 ntmps123 (by rfl) (by rfl) ?_;intro E K hE hK hN;cbv;refine Kh hE (fun hc=>absurd (hneg _ hc) (by decide)) (fun hc=>?_);cbv;refine Ng hE hl0 ?_;cbv;refine Kh hE (fun hc2=>?_) (fun hc2=>?_)
 ·cbv;refine KR hE ?_;cbv;refine Il hE aI hsub (.inl rfl) h1 hbn fun t m row j ht hm hrow=>?_;obtain⟨RL,hRL,hR0⟩:∃RL:Int,RL=(row.length:Nat)∧0≤RL:=⟨_,rfl,by omega⟩;cbv;refine Ng hE hl0 ?_;cbv;refine T8 hE (D6 _ _ _) hRL 0 0 rfl rfl (O9 _) (O9 _) hR0 fun l' n' q1 q2=>?_;cbv
  have e1:0=l':=by omega
  have e2:0=n':=by omega
  subst e1 e2;exact hK ⟨t,0,0,[],row⟩ [] _ ⟨rfl,rfl⟩ ((B6.start C5 rfl).push ht rfl)
 cbv;exact hN rfl [] H0 (.start C5 rfl)
def c81 (N aJ r) (h:O7 N aJ=some r):C7 prog 81 [sr eAF6 aJ] (sr eAD6 r):=by
 unfold O7 at h
 refine Q9 (T:=TT) cf0 J9 func81 (by rfl) (by kernel_rfl) call81 ntmps81 (by rfl) (by rfl) ?_;intro E H0 K hE hK hF;have hO:B6 Eq H0 [] H0:=.start C5 rfl;cbv;refine E9 hE ?_;cbv;obtain⟨s2,hx,h⟩:=bind_some h;refine K1 cf0 hE J9 (fun s1=>[(0,.v (sr eAF6 aJ)),fi 3 s1.1,(9,.v (sr eAF6 aJ)),fi 10 (Ar.len aJ),fi 11 s1.2]) (fun s1 H1=>B6 Eq H0 [] H1) (fun x e l H1=>e= .exit 0∧l=[(0,.v (sr eAF6 aJ)),fi 3 x]∧B6 Eq H0 [] H1) (by kernel_rfl) ?_ hx ?_ hO ?_
 ·intro s1 H o hO h;clear hx;cbv;refine B0 hE h (fun _ h=>?_) fun _ h=>?_
  ·cbv;refine D0 hE eAF3 h fun x3 h=>?_;cbv;refine E9 hE ?_;cbv;refine B0 hE h (fun _ h=>?_) fun _ h=>?_
   ·cbv;cases h
   cbv;cases h;exact⟨_,rfl,.e rfl (.e4 .z),rfl,hO⟩
  cbv;cases h;exact⟨_,_,rfl,⟨rfl,rfl,hO⟩,.e2 .z,rfl⟩
 ·exact .e rfl (.e4 .z)
 clear hx;rintro e l H ⟨rfl,rfl,hO⟩;cbv;refine Fs hE (f:=eAD6) h (c123 N [] s2) (.cons (.refl _) (.cons (.refl _) .nil)) hO fun l4 q5 H hq5 hO h=>?_;cbv;refine E9 hE ?_;cbv;obtain⟨s8,hx,h⟩:=bind_some h;refine H8 cf0 hE J9 (γ:=OG) (fun s6 g=>[(6,.v (.own g.id g.lo g.n)),(25,.v (sr eAF6 aJ)),fi 26 (Ar.len aJ),fi 27 s6.1]) (fun s6 g H1=>Z0 g (Ar.len s6.2)∧B6 Eq H0 [ob g 3 eAD6 s6.2] H1) (fun x e l H1=>∃u1:OG,Z0 u1 (Ar.len x)∧e= .exit 2∧l=[(6,.v (.own u1.id u1.lo u1.n))]∧B6 Eq H0 [ob u1 3 eAD6 x] H1) (by kernel_rfl) ?_ q5 hx ?_ ?_ ?_
 ·rintro s6 q7 H o ⟨hq7,hO⟩ h;clear hx;cbv;refine B0 hE h (fun _ h=>?_) fun _ h=>?_
  ·cbv;refine D0 hE eAF3 h fun x9 h=>?_;cbv;refine Ey (f:=eAD6) hE O3 (by decide) hO hq7 0 rfl (m:=x9) (Cz (f:=eAD6) hE O3 (.refl _)) h fun l11 q10 H hq10 hO h=>?_;cbv;cases h;exact⟨_,q10,rfl,.e4 .z,rfl,hq10,hO⟩
  cbv;cases h;exact⟨_,_,rfl,⟨q7,hq7,rfl,rfl,hO⟩,.e rfl .z,rfl⟩
 ·exact .e4 .z
 ·exact⟨hq5,hO⟩
 clear hx;rintro e l H ⟨q12,hq12,rfl,rfl,hO⟩;cbv;cases h;exact hF q12 _ _ 0 _ _ hO rfl (Z5 hE hq12) (.refl _)
def cf27:Cf:=⟨[4,7],[(4,22),(5,7),(14,9)],[],[],[],[]⟩
def c27 (N aC aD r) (h:Al N aC aD=some r):C7 prog 27 [(F2 aC),(F2 aD)] (.tup [(F2 r.1),vi r.2]):=by
 unfold Al at h
 refine P6 cf27 func27 call27 ntmps27 ?_;intro E H0 K hE hK hO;cbv;refine D8 hE hO fun b1 H hO=>?_;cbv;refine A9 hE h (c72 N aC aD) (.refl _) fun r2 h=>?_;cbv;refine B0 hE h (fun _ h=>?_) fun _ h=>?_
 ·cbv;refine A7 hE hO 0 rfl rfl fun H hO=>?_;cbv;refine A8 hE hO 0 rfl ?_;cbv;cases h;exact hK hO (.tup (.cons (.agg (.cons (.refl _) (.cons (.lit _ (B4)) (.cons (.lit _ (B4)) (.refl _))))) (.refl _)))
 cbv;refine D0 hE (fun _=>rfl) h fun x3 h=>?_;cbv;refine B0 hE h (fun _ h=>?_) fun _ h=>?_
 ·cbv;refine M9 hE (g:=fun r4=>sr V.bool r4) h (c79 N ([[true],aC.cT,aD.cT])) (.cons (.sl _ (.lstc (.eq (eAG1 ([true])) (.lit _ (E3 (rfl) (B4)))) (.lstc (.eq (eAG1 aC.cT) (.refl _)) (.lstc (.eq (eAG1 aD.cT) (.refl _)) (.lst0))))) (.refl _)) fun r4 h=>?_;cbv;refine D8 hE hO fun b5 H hO=>?_;cbv;refine M9 hE (g:=fun r6=>sr eAD6 r6) h (c80 N aC 1) (.refl _) fun r6 h=>?_;cbv;refine E9 hE ?_;cbv;refine A9 hE h (c80 N aD (ar .add .i64 1 (Ar.len aC.cT))) (.refl _) fun r7 h=>?_;cbv;refine Ad7 hE (n:=2) rfl ?_;cbv;replace hO:=hO.cast (L':=[cb b5 [vi aC.cV,sr V.bool r4,.sl (lst eAD6 ([])) .nil],cb b1 [vi 0,.sl [] .nil,.sl [] .nil]]) (by simp only[ob,cb,sr,←B4]<;>rfl);replace hO:=hO.tl0 (t:=.nil) rfl;obtain⟨s10,hx,h⟩:=bind_some h;refine H8 cf27 hE J9 (γ:=D2) (fun s8 g=>[(2,.v (.eref (B8 aC) 0)),(4,.v (.ref b1 0)),(7,.v (.ref b5 0)),(8,.v (sr eAD6 r6)),(9,.v (sr eAD6 r7)),(52,.v (sr eAF6 ([r6,r7]))),fi 53 2,fi 54 s8.1]) (fun s8 g H1=>G3 g∧B6 Eq H0 [.tl g,cb b5 [vi s8.2.cV,sr V.bool s8.2.cT,.sl (lst eAD6 s8.2.cU) g],cb b1 [vi 0,.sl [] .nil,.sl [] .nil]] H1) (fun x e l H1=>∃u1:D2,G3 u1∧e= .exit 0∧l=[(4,.v (.ref b1 0)),(7,.v (.ref b5 0)),(8,.v (sr eAD6 r6)),(9,.v (sr eAD6 r7))]∧B6 Eq H0 [.tl u1,cb b5 [vi x.cV,sr V.bool x.cT,.sl (lst eAD6 x.cU) u1],cb b1 [vi 0,.sl [] .nil,.sl [] .nil]] H1) (by kernel_rfl) ?_ .nil hx ?_ ?_ ?_
  ·rintro s8 t9 H o ⟨ht9,hO⟩ h;clear hx;cbv;refine B0 hE h (fun _ h=>?_) fun _ h=>?_
   ·cbv;refine D0 hE eAF3 h fun x11 h=>?_;cbv;refine E9 hE ?_;cbv;refine E9 hE ?_;cbv;obtain⟨s14,hx,h⟩:=bind_some h;refine H8 cf27 hE J9 (γ:=D2) (fun s12 g=>[(2,.v (.eref (B8 aC) 0)),(4,.v (.ref b1 0)),(7,.v (.ref b5 0)),(8,.v (sr eAD6 r6)),(9,.v (sr eAD6 r7)),fi 12 (ar .add .i64 1 (ar .mul .i64 s8.1 (Ar.len aC.cT))),(52,.v (sr eAF6 ([r6,r7]))),fi 53 2,fi 54 s8.1,(65,.v (sr eAD6 x11)),fi 66 (Ar.len x11),fi 67 s12.1]) (fun s12 g H1=>G3 g∧B6 Eq H0 [.tl g,cb b5 [vi s12.2.cV,sr V.bool s8.2.cT,.sl (lst eAD6 s12.2.cU) g],cb b1 [vi 0,.sl [] .nil,.sl [] .nil]] H1) (fun x e l H1=>∃u1:D2,G3 u1∧e= .exit 2∧l=[(2,.v (.eref (B8 aC) 0)),(4,.v (.ref b1 0)),(7,.v (.ref b5 0)),(8,.v (sr eAD6 r6)),(9,.v (sr eAD6 r7)),(52,.v (sr eAF6 ([r6,r7]))),fi 53 2,fi 54 s8.1]∧B6 Eq H0 [.tl u1,cb b5 [vi x.cV,sr V.bool x.cT,.sl (lst eAD6 x.cU) u1],cb b1 [vi 0,.sl [] .nil,.sl [] .nil]] H1) (by kernel_rfl) ?_ t9 hx ?_ ?_ ?_
    ·rintro s12 t13 H o ⟨ht13,hO⟩ h;clear hx;cbv;refine B0 hE h (fun _ h=>?_) fun _ h=>?_
     ·cbv;refine D0 hE eAD9 h fun x15 h=>?_;cbv;refine B0 hE h (fun _ h=>?_) fun _ h=>?_
      ·cbv;refine A8 hE hO 1 rfl ?_;cbv;refine M9 hE (g:=fun r16=>(F3 r16)) h (c71 N x15.On) (.refl _) fun r16 h=>?_;cbv;refine K7 (f:=eAD6) hE O3 (by decide) hO 0 rfl ht13 (l:=s12.2.cU) (m:=[(⟨0,x15.To,r16⟩:B5)]) (.refl _) (.lstc (.eq (eAD9 (⟨0,x15.To,r16⟩:B5)) (.refl _)) (.lst0)) h fun l18 t17 H hO ht17 h=>?_;cbv;refine A7 hE hO 1 rfl rfl fun H hO=>?_;cbv;cases h;exact⟨_,t17,rfl,.e4 (.e4 (.e4 .z)),rfl,ht17,hO⟩
      cbv;cases h;exact⟨_,t13,rfl,.e4 (.e4 (.e4 .z)),rfl,ht13,hO⟩
     cbv;cases h;exact⟨_,_,rfl,⟨t13,ht13,rfl,rfl,hO⟩,.e4 (.e4 .z),rfl⟩
    ·exact .e4 (.e4 (.e4 .z))
    ·exact⟨ht9,hO⟩
    clear hx;rintro e l H ⟨t19,ht19,rfl,rfl,hO⟩;cbv;cases h;exact⟨_,t19,rfl,.e4 (.e4 .z),rfl,ht19,hO⟩
   cbv;cases h;exact⟨_,_,rfl,⟨t9,ht9,rfl,rfl,hO⟩,.e4 .z,rfl⟩
  ·exact .e rfl (.e4 (.v (.lit _ (E3 ((eAF3 r6).symm) (E3 ((eAF3 r7).symm) (B4)))) (.e rfl (.e rfl (.z)))))
  ·exact⟨trivial,hO⟩
  clear hx;rintro e l H ⟨t20,ht20,rfl,rfl,hO⟩;cbv;refine A8 hE hO 1 rfl ?_;cbv;refine A9 hE h (c81 N ([s10.cU,r6,r7])) (.cons (.sl _ (.lstc (.eq (eAF3 s10.cU) (.ro _ _)) (.lstc (.eq (eAF3 r6) (.refl _)) (.lstc (.eq (eAF3 r7) (.refl _)) (.lst0))))) (.refl _)) fun r21 h=>?_;cbv;refine A7 hE hO 1 rfl rfl fun H hO=>?_;cbv;refine A8 hE hO 1 rfl ?_;cbv;refine A9 hE h (c82 N ({s10 with cU:=r21})) (.refl _) fun r22 h=>?_;cbv;refine A7 hE hO 2 rfl rfl fun H hO=>?_;cbv;refine A8 hE hO 2 rfl ?_;cbv;cases h;exact hK hO (.refl _)
 cbv;refine D0 hE (fun _=>rfl) h fun x23 h=>?_;cbv;refine M9 hE (g:=fun r24=>sr V.bool r24) h (c79 N ([[x23],aC.cT,aD.cT])) (.cons (.sl _ (.lstc (.eq (eAG1 ([x23])) (.lit _ (E3 (rfl) (B4)))) (.lstc (.eq (eAG1 aC.cT) (.refl _)) (.lstc (.eq (eAG1 aD.cT) (.refl _)) (.lst0))))) (.refl _)) fun r24 h=>?_;cbv;refine D8 hE hO fun b25 H hO=>?_;cbv;refine M9 hE (g:=fun r26=>sr eAD6 r26) h (c80 N aC 1) (.refl _) fun r26 h=>?_;cbv;refine E9 hE ?_;cbv;refine A9 hE h (c80 N aD (ar .add .i64 1 (Ar.len aC.cT))) (.refl _) fun r27 h=>?_;cbv;refine Ad7 hE (n:=2) rfl ?_;cbv;replace hO:=hO.cast (L':=[cb b25 [vi aC.cV,sr V.bool r24,.sl (lst eAD6 ([])) .nil],cb b1 [vi 0,.sl [] .nil,.sl [] .nil]]) (by simp only[ob,cb,sr,←B4]<;>rfl);replace hO:=hO.tl0 (t:=.nil) rfl;obtain⟨s30,hx,h⟩:=bind_some h;refine H8 cf27 hE J9 (γ:=D2) (fun s28 g=>[(2,.v (.eref (B8 aC) 0)),(4,.v (.ref b1 0)),(7,.v (.ref b25 0)),(8,.v (sr eAD6 r26)),(9,.v (sr eAD6 r27)),(52,.v (sr eAF6 ([r26,r27]))),fi 53 2,fi 54 s28.1]) (fun s28 g H1=>G3 g∧B6 Eq H0 [.tl g,cb b25 [vi s28.2.cV,sr V.bool s28.2.cT,.sl (lst eAD6 s28.2.cU) g],cb b1 [vi 0,.sl [] .nil,.sl [] .nil]] H1) (fun x e l H1=>∃u1:D2,G3 u1∧e= .exit 0∧l=[(4,.v (.ref b1 0)),(7,.v (.ref b25 0)),(8,.v (sr eAD6 r26)),(9,.v (sr eAD6 r27))]∧B6 Eq H0 [.tl u1,cb b25 [vi x.cV,sr V.bool x.cT,.sl (lst eAD6 x.cU) u1],cb b1 [vi 0,.sl [] .nil,.sl [] .nil]] H1) (by kernel_rfl) ?_ .nil hx ?_ ?_ ?_
 ·rintro s28 t29 H o ⟨ht29,hO⟩ h;clear hx;cbv;refine B0 hE h (fun _ h=>?_) fun _ h=>?_
  ·cbv;refine D0 hE eAF3 h fun x31 h=>?_;cbv;refine E9 hE ?_;cbv;refine E9 hE ?_;cbv;obtain⟨s34,hx,h⟩:=bind_some h;refine H8 cf27 hE J9 (γ:=D2) (fun s32 g=>[(2,.v (.eref (B8 aC) 0)),(4,.v (.ref b1 0)),(7,.v (.ref b25 0)),(8,.v (sr eAD6 r26)),(9,.v (sr eAD6 r27)),fi 12 (ar .add .i64 1 (ar .mul .i64 s28.1 (Ar.len aC.cT))),(52,.v (sr eAF6 ([r26,r27]))),fi 53 2,fi 54 s28.1,(65,.v (sr eAD6 x31)),fi 66 (Ar.len x31),fi 67 s32.1]) (fun s32 g H1=>G3 g∧B6 Eq H0 [.tl g,cb b25 [vi s32.2.cV,sr V.bool s28.2.cT,.sl (lst eAD6 s32.2.cU) g],cb b1 [vi 0,.sl [] .nil,.sl [] .nil]] H1) (fun x e l H1=>∃u1:D2,G3 u1∧e= .exit 2∧l=[(2,.v (.eref (B8 aC) 0)),(4,.v (.ref b1 0)),(7,.v (.ref b25 0)),(8,.v (sr eAD6 r26)),(9,.v (sr eAD6 r27)),(52,.v (sr eAF6 ([r26,r27]))),fi 53 2,fi 54 s28.1]∧B6 Eq H0 [.tl u1,cb b25 [vi x.cV,sr V.bool x.cT,.sl (lst eAD6 x.cU) u1],cb b1 [vi 0,.sl [] .nil,.sl [] .nil]] H1) (by kernel_rfl) ?_ t29 hx ?_ ?_ ?_
   ·rintro s32 t33 H o ⟨ht33,hO⟩ h;clear hx;cbv;refine B0 hE h (fun _ h=>?_) fun _ h=>?_
    ·cbv;refine D0 hE eAD9 h fun x35 h=>?_;cbv;refine B0 hE h (fun _ h=>?_) fun _ h=>?_
     ·cbv;refine A8 hE hO 1 rfl ?_;cbv;refine M9 hE (g:=fun r36=>(F3 r36)) h (c71 N x35.On) (.refl _) fun r36 h=>?_;cbv;refine K7 (f:=eAD6) hE O3 (by decide) hO 0 rfl ht33 (l:=s32.2.cU) (m:=[(⟨0,x35.To,r36⟩:B5)]) (.refl _) (.lstc (.eq (eAD9 (⟨0,x35.To,r36⟩:B5)) (.refl _)) (.lst0)) h fun l38 t37 H hO ht37 h=>?_;cbv;refine A7 hE hO 1 rfl rfl fun H hO=>?_;cbv;cases h;exact⟨_,t37,rfl,.e4 (.e4 (.e4 .z)),rfl,ht37,hO⟩
     cbv;cases h;exact⟨_,t33,rfl,.e4 (.e4 (.e4 .z)),rfl,ht33,hO⟩
    cbv;cases h;exact⟨_,_,rfl,⟨t33,ht33,rfl,rfl,hO⟩,.e4 (.e4 .z),rfl⟩
   ·exact .e4 (.e4 (.e4 .z))
   ·exact⟨ht29,hO⟩
   clear hx;rintro e l H ⟨t39,ht39,rfl,rfl,hO⟩;cbv;cases h;exact⟨_,t39,rfl,.e4 (.e4 .z),rfl,ht39,hO⟩
  cbv;cases h;exact⟨_,_,rfl,⟨t29,ht29,rfl,rfl,hO⟩,.e4 .z,rfl⟩
 ·exact .e rfl (.e4 (.v (.lit _ (E3 ((eAF3 r26).symm) (E3 ((eAF3 r27).symm) (B4)))) (.e rfl (.e rfl (.z)))))
 ·exact⟨trivial,hO⟩
 clear hx;rintro e l H ⟨t40,ht40,rfl,rfl,hO⟩;cbv;refine A8 hE hO 1 rfl ?_;cbv;refine A9 hE h (c81 N ([s30.cU,r26,r27])) (.cons (.sl _ (.lstc (.eq (eAF3 s30.cU) (.ro _ _)) (.lstc (.eq (eAF3 r26) (.refl _)) (.lstc (.eq (eAF3 r27) (.refl _)) (.lst0))))) (.refl _)) fun r41 h=>?_;cbv;refine A7 hE hO 1 rfl rfl fun H hO=>?_;cbv;refine A8 hE hO 1 rfl ?_;cbv;refine A9 hE h (c82 N ({s30 with cU:=r41})) (.refl _) fun r42 h=>?_;cbv;refine A7 hE hO 2 rfl rfl fun H hO=>?_;cbv;refine A8 hE hO 2 rfl ?_;cbv;cases h;exact hK hO (.refl _)
end Go.Ab
