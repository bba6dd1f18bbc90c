/- GTCo6 GTCo7 GTSq GTCo8 -/
import Derived.Test.YtanbgjgaafeplaaGreatDoorG14
set_option linter.all false
open Go.Ab.Ar (an ar cmp nt wr)
namespace Go.Ab
open Go.RowKit Go.Proofs Go.Proofs.Tryz I0
variable [Ar][I0]
set_option maxRecDepth 100000
end Go.Ab
namespace Go.Ab
open Go.RowKit Go.Proofs Go.Proofs.Tryz I0
variable [Ar][I0]
set_option maxRecDepth 100000
def cf16 :Cf:=⟨[],[(6,8)],[],[],[],[]⟩
theorem c16 (N aC aD r) (h:BF N aC aD=some r):B2 prog 16 [sr eAo5 aC,sr eAo5 aD] (.bool r):=by
 unfold BF at h
 refine I6 cf16 func16 call16 ntmps16 ?_;intro E H0 K hE hK hO;cbv;refine D9 hE ?_;cbv;refine D9 hE ?_;cbv;refine A8 hE h (fun _ h=>?_) fun _ h=>?_
 ·cbv;cases h;exact hK hO (.refl _)
 cbv;obtain⟨s2,hx,h⟩:=bind_some h;refine E9 cf16 hE N5 (fun s1=>[(0,.v (sr eAo5 aC)),(1,.v (sr eAo5 aD)),fi 5 s1]) (fun s1 H1=>B7 Eq H0 [] H1) (fun x e l H1=>match(generalizing:=false) x with| .inl y=>e= .exit 0∧l=[]∧B7 Eq H0 [] H1| .inr y=>e= .ret∧l=[(4,.b false)]∧B7 Eq H0 [] H1) (by kernel_rfl) ?_ hx ?_ hO ?_
 ·intro s1 H o hO h;clear hx;cbv;refine D9 hE ?_;cbv;refine A8 hE h (fun _ h=>?_) fun _ h=>?_
  ·cbv;refine B9 hE eAp3 h fun x3 h=>?_;cbv;refine B9 hE eAp3 h fun x4 h=>?_;cbv;refine A3 hE h (c33 N x3 x4) (.refl _) fun r5 h=>?_;cbv;refine A8 hE h (fun _ h=>?_) fun _ h=>?_
   ·cbv;cases h;exact⟨_,_,rfl,⟨rfl,rfl,hO⟩,.b rfl (.z),rfl⟩
   cbv;cases h;exact⟨_,rfl,.e rfl (.e2 .z),rfl,hO⟩
  cbv;cases h;exact⟨_,_,rfl,⟨rfl,rfl,hO⟩,.z,rfl⟩
 ·exact .e rfl (.e2 .z)
 clear hx
 rcases s2 with y6|y7
 ·rintro e l H ⟨rfl,rfl,hO⟩;cbv;cases h;exact hK hO (.refl _)
 rintro e l H ⟨rfl,rfl,hO⟩;cbv;cases h;exact hK hO (.refl _)
end Go.Ab
namespace Go.Ab
variable [Ar]
def CE (N:Nat) (aA:A0) (aF:List A5):Option Bool:=
 (CX N aA aF).bind fun r1=>
 if r1=true then
  (Ew N aA aF).bind fun r2=>
  some (cmp .eql r2 0)
 else
  some false
def M0 (N:Nat) (aH:List C8) (aS:C8→Option Bool):Option Int:=
 (loopN
  (fun(s1:Int)=>
   (
    if cmp .lss s1 (Ar.len aH)=true then
     (B8 aH s1).bind fun x3=>
     (aS x3).bind fun r4=>
     if r4=true then
      some (.inr (.inr s1))
     else
      some (.inl (ar .add .i64 s1 1))
    else
     some (.inr (.inl ()))
    :Option ((Int) ⊕ (Unit ⊕ Int))))
  N 0).bind fun s2=>
 match s2 with
 | .inl y5=>
  some (-1)
 | .inr y6=>
  some y6
def D2 (N:Nat)(aH:List C8)(aS:C8→Option Bool):Option Bool:=
 (M0 N aH aS).bind fun r1=>
 some (cmp .geq r1 0)
def Ak (N:Nat)(bB:C8):Option Bool:=
 some (cmp .eql (Ar.len bB.cR) 0)
def M8 (N:Nat) (aA:A0) (aF:List A5):Option ((List C8)×Bool):=
 (X0 N aA aF).bind fun r1=>
 if cmp .eql r1.2 0=true then
  (D2 N r1.1 (fun y1=>Ak N y1)).bind fun r2=>
  some (r1.1,nt r2)
 else
  some (r1.1,false)
def Fd (N:Nat) (aA:A0):Option ((List Int)×Int):=
 (J5 N N aA).bind fun r1=>
 (RV 16 16 (false:Bool)).bind fun l3=>
 (loopN
  (fun (s4:(List Int)×Int×(List Bool))=>
   (
    if cmp .lss s4.2.1 (Ar.len r1)=true then
     (B8 r1 s4.2.1).bind fun x8=>
     (O7 N x8).bind fun r9=>
     if nt r9=true then
      some (.inl (s4.1,ar .add .i64 s4.2.1 1,s4.2.2))
     else
      (B8 r1 s4.2.1).bind fun x10=>
      (TY (inR s4.2.2 x10.Var)).bind fun _=>
      (B8 s4.2.2 x10.Var).bind fun x11=>
      if x11=true then
       some (.inr (.inr s4.2.2))
      else
       (B8 r1 s4.2.1).bind fun x12=>
       (TY (inR s4.2.2 x12.Var)).bind fun _=>
       (Gp s4.2.2 x12.Var (fun x13:Bool=>true)).bind fun l14=>
       (B8 r1 s4.2.1).bind fun x15=>
       (K9 s4.1 ([x15.Var])).bind fun l17=>
       some (.inl (l17,ar .add .i64 s4.2.1 1,l14))
    else
     some (.inr (.inl (s4.1,s4.2.2)))
    :Option (((List Int)×Int×(List Bool)) ⊕ (((List Int)×(List Bool)) ⊕ ((List Bool))))))
  N ([],0,l3)).bind fun s7=>
 match s7 with
 | .inl y18=>
  some (y18.1,0)
 | .inr y21=>
  some ([],7)
def Ad (N:Nat):Nat→A4→List Int→Option (A4×Int)
 |0,_,_=>none
 | n + 1,aB,aU=>
  (BG N aB.Op).bind fun r3=>
  ((
   if r3.1=true then
    if cmp .geq aB.Var (Ar.len aU)=true then
     some (.inr 6)
    else
     (B8 aU aB.Var).bind fun x5=>
     if cmp .lss x5 0=true then
      some (.inr 2)
     else
      (B8 aU aB.Var).bind fun x6=>
      if cmp .geq x6 16=true then
       some (.inr 2)
      else
       (B8 aU aB.Var).bind fun x7=>
       some (.inl ({aB with cP:=[],Var:=x7}))
   else
    some (.inl ({aB with cP:=[]}))
  ):Option (A4 ⊕ Int)).bind fun s4=>
  match s4 with
  | .inl y8=>
   (loopN
    (fun(s9:Int×A4)=>
     (
      if cmp .lss s9.1 (Ar.len aB.cP)=true then
       (B8 aB.cP s9.1).bind fun x12=>
       (Ad N n x12 aU).bind fun r13=>
       if cmp .neq r13.2 0=true then
        some (.inr (.inr (r13.2,s9.2)))
       else
        (K9 s9.2.cP ([r13.1])).bind fun l15=>
        some (.inl (ar .add .i64 s9.1 1,{s9.2 with cP:=l15}))
      else
       some (.inr (.inl s9.2))
      :Option ((Int×A4) ⊕ (A4 ⊕ (Int×A4)))))
    N (0,{y8 with cP:=[]})).bind fun s11=>
   match s11 with
   | .inl y16=>
    some (y16,0)
   | .inr y18=>
    some ((⟨0,[],0,0,0,(⟨0,0,⟨#[]⟩⟩:A7)⟩:A4),y18.1)
  | .inr y20=>
   some ((⟨0,[],0,0,0,(⟨0,0,⟨#[]⟩⟩:A7)⟩:A4),y20)
def Bb (N:Nat) (aB:A4) (aU:List Int):Option (A4×Int):=
 (AM N aB).bind fun r2=>
 if cmp .neq r2 0=true then
  some ((⟨0,[],0,0,0,(⟨0,0,⟨#[]⟩⟩:A7)⟩:A4),r2)
 else
  (Ad N N aB aU).bind fun r3=>
  some (r3.1,r3.2)
def R7 (N:Nat):Nat→A0→List Int→Option (A0×Int)
 |0,_,_=>none
 | n + 1,aA,aU=>
  (O7 N aA).bind fun r3=>
  ((
   if r3=true then
    if cmp .geq aA.Var (Ar.len aU)=true then
     some (.inr 6)
    else
     (B8 aU aA.Var).bind fun x5=>
     if cmp .lss x5 0=true then
      some (.inr 2)
     else
      (B8 aU aA.Var).bind fun x6=>
      if cmp .geq x6 16=true then
       some (.inr 2)
      else
       (B8 aU aA.Var).bind fun x7=>
       some (.inl ({aA with cP:=[],Var:=x7}))
   else
    some (.inl ({aA with cP:=[]}))
  ):Option (A0 ⊕ Int)).bind fun s4=>
  match s4 with
  | .inl y8=>
   (S9 N aA).bind fun r9=>
   ((
    if r9=true then
     (Bb N aA.cQ aU).bind fun r11=>
     if cmp .neq r11.2 0=true then
      some (.inr r11.2)
     else
      some (.inl ({y8 with cP:=[],cQ:=r11.1}))
    else
     some (.inl ({y8 with cP:=[]}))
   ):Option (A0 ⊕ Int)).bind fun s10=>
   match s10 with
   | .inl y12=>
    (loopN
     (fun(s13:Int×A0)=>
      (
       if cmp .lss s13.1 (Ar.len aA.cP)=true then
        (B8 aA.cP s13.1).bind fun x16=>
        (R7 N n x16 aU).bind fun r17=>
        if cmp .neq r17.2 0=true then
         some (.inr (.inr (r17.2,{s13.2 with cQ:={s13.2.cQ with cP:=y12.cQ.cP}})))
        else
         (K9 s13.2.cP ([r17.1])).bind fun l19=>
         some (.inl (ar .add .i64 s13.1 1,{s13.2 with cP:=l19,cQ:={s13.2.cQ with cP:=y12.cQ.cP}}))
       else
        some (.inr (.inl ({s13.2 with cQ:={s13.2.cQ with cP:=y12.cQ.cP}})))
       :Option ((Int×A0) ⊕ (A0 ⊕ (Int×A0)))))
     N (0,{y12 with cP:=[]})).bind fun s15=>
    match s15 with
    | .inl y20=>
     some (y20,0)
    | .inr y22=>
     some ((⟨0,[],0,0,0,0,(⟨0,[],0,0,0,(⟨0,0,⟨#[]⟩⟩:A7)⟩:A4)⟩:A0),y22.1)
   | .inr y24=>
    some ((⟨0,[],0,0,0,0,(⟨0,[],0,0,0,(⟨0,0,⟨#[]⟩⟩:A7)⟩:A4)⟩:A0),y24)
  | .inr y25=>
   some ((⟨0,[],0,0,0,0,(⟨0,[],0,0,0,(⟨0,0,⟨#[]⟩⟩:A7)⟩:A4)⟩:A0),y25)
def X2 (N : Nat):Nat→A0→Int→Option A0
 |0,_,_=>none
 | n + 1, aA,aK=>
  (M7 N aA).bind fun r3=>
  if r3 = true then
   (loopN
    (fun (s4 :Int×Int×A0)=>
     (
      if cmp .lss s4.2.1 (Ar.len aA.cP)=true then
       (B8 aA.cP s4.2.1).bind fun x7=>
       (X2 N n x7 s4.1).bind fun r8=>
       (K9 s4.2.2.cP ([r8])).bind fun l10=>
       (B8 aA.cP s4.2.1).bind fun x11=>
       (J5 N N x11).bind fun r12=>
       (loopN
        (fun (s13:Int×Int)=>
         (
          if cmp .lss s13.2 (Ar.len r12)=true then
           (B8 r12 s13.2).bind fun x15=>
           (M7 N x15).bind fun r16=>
           if r16=true then
            some (.inl (ar .add .i64 s13.1 1,ar .add .i64 s13.2 1))
           else
            (B8 r12 s13.2).bind fun x17=>
            (M3 N x17).bind fun r18=>
            if r18=true then
             some (.inl (ar .add .i64 s13.1 1,ar .add .i64 s13.2 1))
            else
             some (.inl (s13.1,ar .add .i64 s13.2 1))
          else
           some (.inr s13.1)
          :Option ((Int×Int) ⊕ (Int))))
        N (s4.1,0)).bind fun s14=>
       some (.inl (s14,ar .add .i64 s4.2.1 1,{s4.2.2 with cP:=l10,cQ:={s4.2.2.cQ with cP:=aA.cQ.cP}}))
      else
       some (.inr ({s4.2.2 with cQ:={s4.2.2.cQ with cP:=aA.cQ.cP}}))
      :Option ((Int×Int×A0) ⊕ (A0))))
    N (ar .add .i64 aK 1,0,{aA with cP:=[],cS:=aK})).bind fun s6=>
   some s6
  else
   (M3 N aA).bind fun r20=>
   ((
    if r20=true then
     some (ar .add .i64 aK 1,{aA with cP:=[],cS:=aK})
    else
     some (aK,{aA with cP:=[]})
   ):Option ((Int×A0))).bind fun s21=>
   (loopN
    (fun (s22:Int×Int×A0)=>
     (
      if cmp .lss s22.2.1 (Ar.len aA.cP)=true then
       (B8 aA.cP s22.2.1).bind fun x25=>
       (X2 N n x25 s22.1).bind fun r26=>
       (K9 s22.2.2.cP ([r26])).bind fun l28=>
       (B8 aA.cP s22.2.1).bind fun x29=>
       (J5 N N x29).bind fun r30=>
       (loopN
        (fun (s31:Int×Int)=>
         (
          if cmp .lss s31.2 (Ar.len r30)=true then
           (B8 r30 s31.2).bind fun x33=>
           (M7 N x33).bind fun r34=>
           if r34=true then
            some (.inl (ar .add .i64 s31.1 1,ar .add .i64 s31.2 1))
           else
            (B8 r30 s31.2).bind fun x35=>
            (M3 N x35).bind fun r36=>
            if r36=true then
             some (.inl (ar .add .i64 s31.1 1,ar .add .i64 s31.2 1))
            else
             some (.inl (s31.1,ar .add .i64 s31.2 1))
          else
           some (.inr s31.1)
          :Option ((Int×Int) ⊕ (Int))))
        N (s22.1,0)).bind fun s32=>
       some (.inl (s32,ar .add .i64 s22.2.1 1,{s22.2.2 with cP:=l28,cQ:={s22.2.2.cQ with cP:=s21.2.cQ.cP}}))
      else
       some (.inr ({s22.2.2 with cQ:={s22.2.2.cQ with cP:=s21.2.cQ.cP}}))
      :Option ((Int×Int×A0) ⊕ (A0))))
    N (s21.1,0,{s21.2 with cP:=[]})).bind fun s24=>
   some s24
def U1 (N:Nat) (aA:A0):Option (A0×(List Int)×Int):=
 (W5 N aA).bind fun r2=>
 if cmp .neq r2 0=true then
  some ((⟨0,[],0,0,0,0,(⟨0,[],0,0,0,(⟨0,0,⟨#[]⟩⟩:A7)⟩:A4)⟩:A0),[],r2)
 else
  (J5 N N aA).bind fun r3=>
  (Ba N r3).bind fun r4=>
  if nt r4=true then
   some ((⟨0,[],0,0,0,0,(⟨0,[],0,0,0,(⟨0,0,⟨#[]⟩⟩:A7)⟩:A4)⟩:A0),[],1)
  else
   (Fd N aA).bind fun r5=>
   if cmp .neq r5.2 0=true then
    some ((⟨0,[],0,0,0,0,(⟨0,[],0,0,0,(⟨0,0,⟨#[]⟩⟩:A7)⟩:A4)⟩:A0),[],r5.2)
   else
    (RV 16 16 (0:Int)).bind fun l7=>
    (loopN
     (fun(s8:Int×(List Int))=>
      (
       if cmp .lss s8.1 (Ar.len s8.2)=true then
        (TY (inR s8.2 s8.1)).bind fun _=>
        (Gp s8.2 s8.1 (fun x11:Int=>(-1))).bind fun l12=>
        some (.inl (ar .add .i64 s8.1 1,l12))
       else
        some (.inr s8.2)
       :Option ((Int×(List Int)) ⊕ (((List Int))))))
     N (0,l7)).bind fun s10=>
    (loopN
     (fun(s14:Int×(List Int))=>
      (
       if cmp .lss s14.1 (Ar.len r5.1)=true then
        (B8 r5.1 s14.1).bind fun x17=>
        (TY (inR s14.2 x17)).bind fun _=>
        (Gp s14.2 x17 (fun x18:Int=>s14.1)).bind fun l19=>
        some (.inl (ar .add .i64 s14.1 1,l19))
       else
        some (.inr s14.2)
       :Option ((Int×(List Int)) ⊕ (((List Int))))))
     N (0,s10)).bind fun s16=>
    (R7 N N aA s16).bind fun r21=>
    if cmp .neq r21.2 0=true then
     some ((⟨0,[],0,0,0,0,(⟨0,[],0,0,0,(⟨0,0,⟨#[]⟩⟩:A7)⟩:A4)⟩:A0),[],6)
    else
     (X2 N N r21.1 0).bind fun r22=>
     some (r22,r5.1,0)
def AL (N:Nat):Nat→A0→A0→Option Bool
 |0,_,_=>none
 | n + 1,aC,aD=>
  if Ar.or (Ar.or (Ar.or (Ar.or (cmp .neq aC.Op aD.Op) (cmp .neq aC.Typ aD.Typ)) (cmp .neq aC.Var aD.Var)) (cmp .neq aC.cS aD.cS)) (cmp .neq aC.Span aD.Span)=true then
   some false
  else
   (O8 N N aC.cQ aD.cQ).bind fun r1=>
   if Ar.or (nt r1) (cmp .neq (Ar.len aC.cP) (Ar.len aD.cP))=true then
    some false
   else
    (loopN
     (fun(s2:Int)=>
      (
       if cmp .lss s2 (Ar.len aC.cP)=true then
        (B8 aC.cP s2).bind fun x4=>
        (B8 aD.cP s2).bind fun x5=>
        (AL N n x4 x5).bind fun r6=>
        if nt r6=true then
         some (.inr (.inr ()))
        else
         some (.inl (ar .add .i64 s2 1))
       else
        some (.inr (.inl ()))
       :Option ((Int) ⊕ (Unit ⊕ Unit))))
     N 0).bind fun s3=>
    match s3 with
    | .inl y7=>
     some true
    | .inr y8=>
     some false
def BR (N:Nat) (aF:List C8) (bB:C8):Option Bool:=
 (loopN
  (fun(s1:Int)=>
   (
    if cmp .lss s1 (Ar.len aF)=true then
     (B8 aF s1).bind fun x3=>
     (An N x3 bB).bind fun r4=>
     if cmp .eql r4 0=true then
      some (.inr (.inr ()))
     else
      some (.inl (ar .add .i64 s1 1))
    else
     some (.inr (.inl ()))
    :Option ((Int) ⊕ (Unit ⊕ Unit))))
  N 0).bind fun s2=>
 match s2 with
 | .inl y5=>
  some false
 | .inr y6=>
  some true
def E5 (N:Nat)(bB:C8)(aG:List C8):Option Bool:=
 (BR N aG bB).bind fun r1=>
 some (nt r1)
def U5 (N : Nat) (aA:A0) (aF:List A5) (bW:Int):Option Bool:=
 (CE N aA aF).bind fun r1=>
 if nt r1=true then
  (J6 N).bind fun r2=>
  some r2
 else
  (M8 N aA aF).bind fun r3=>
  (U1 N (⟨6,[aA],0,0,0,wr .i64 (ar .rem .u8 bW 8),(⟨0,[],0,0,0,(⟨0,0,⟨#[]⟩⟩:A7)⟩:A4)⟩:A0)).bind fun r4=>
  if nt r3.2=true then
   some false
  else
   if cmp .eql r4.2.2 0=true then
    (X3 N r4.1).bind fun r5=>
    ((
     if cmp .eql r5 0=true then
      (M8 N r4.1 aF).bind fun r7=>
      (loopN
       (fun(s8:(List C8)×Int)=>
        (
         if cmp .lss s8.2 (Ar.len r3.1)=true then
          (B8 r3.1 s8.2).bind fun x11=>
          (B8 x11.cR (ar .sub .i64 (Ar.len x11.cR) 1)).bind fun x12=>
          (B8 x11.cR 0).bind fun x13=>
          if cmp .leq (ar .sub .i64 x12.Ref.Time x13.Ref.Time) (wr .i64 (ar .rem .u8 bW 8))=true then
           (K9 s8.1 ([x11])).bind fun l15=>
           some (.inl (l15,ar .add .i64 s8.2 1))
          else
           some (.inl (s8.1,ar .add .i64 s8.2 1))
         else
          some (.inr s8.1)
         :Option (((List C8)×Int) ⊕ (((List C8))))))
       N ([],0)).bind fun s10=>
      if nt r7.2=true then
       some (.inr ())
      else
       (BF N r7.1 s10).bind fun r17=>
       if nt r17=true then
        some (.inr ())
       else
        some (.inl ())
     else
      some (.inl ())
    ):Option (Unit ⊕ Unit)).bind fun s6=>
    match s6 with
    | .inl y18 =>
     if cmp .neq aA.Op 2=true then
      (J6 N).bind fun r19=>
      some r19
     else
      (loopN
       (fun (s20:Int)=>
        (
         if cmp .lss s20 (Ar.len aA.cP)=true then
          (B8 aA.cP s20).bind fun x22=>
          (Ap aA.cP none (some s20) none).bind fun l24=>
          (K9 ([]) l24).bind fun l26=>
          (Ap aA.cP (some (ar .add .i64 s20 1)) none none).bind fun l27=>
          (K9 l26 l27).bind fun l29=>
          (U1 N x22).bind fun r30=>
          if cmp .neq r30.2.2 0=true then
           some (.inl (ar .add .i64 s20 1))
          else
           (X3 N r30.1).bind fun r31=>
           if cmp .neq r31 0=true then
            some (.inl (ar .add .i64 s20 1))
           else
            (AL N N r30.1 x22).bind fun r32=>
            if nt r32=true then
             some (.inl (ar .add .i64 s20 1))
            else
             (M8 N x22 aF).bind fun r33=>
             if Ar.or (nt r33.2) (cmp .eql (Ar.len l29) 0)=true then
              some (.inr (.inr ()))
             else
              (D2 N r33.1 (fun y1=>E5 N y1 r3.1)).bind fun r34=>
              if r34=true then
               some (.inr (.inr ()))
              else
               some (.inl (ar .add .i64 s20 1))
         else
          some (.inr (.inl ()))
         :Option ((Int) ⊕ (Unit ⊕ Unit))))
       N 0).bind fun s21=>
      match s21 with
      | .inl y35=>
       (J6 N).bind fun r36=>
       some r36
      | .inr y37=>
       some false
    | .inr y38=>
     some false
   else
    if cmp .neq aA.Op 2=true then
     (J6 N).bind fun r39=>
     some r39
    else
     (loopN
      (fun (s40:Int)=>
       (
        if cmp .lss s40 (Ar.len aA.cP)=true then
         (B8 aA.cP s40).bind fun x42=>
         (Ap aA.cP none (some s40) none).bind fun l44=>
         (K9 ([]) l44).bind fun l46=>
         (Ap aA.cP (some (ar .add .i64 s40 1)) none none).bind fun l47=>
         (K9 l46 l47).bind fun l49=>
         (U1 N x42).bind fun r50=>
         if cmp .neq r50.2.2 0=true then
          some (.inl (ar .add .i64 s40 1))
         else
          (X3 N r50.1).bind fun r51=>
          if cmp .neq r51 0=true then
           some (.inl (ar .add .i64 s40 1))
          else
           (AL N N r50.1 x42).bind fun r52=>
           if nt r52=true then
            some (.inl (ar .add .i64 s40 1))
           else
            (M8 N x42 aF).bind fun r53=>
            if Ar.or (nt r53.2) (cmp .eql (Ar.len l49) 0)=true then
             some (.inr (.inr ()))
            else
             (D2 N r53.1 (fun y1=>E5 N y1 r3.1)).bind fun r54=>
             if r54=true then
              some (.inr (.inr ()))
             else
              some (.inl (ar .add .i64 s40 1))
        else
         some (.inr (.inl ()))
        :Option ((Int) ⊕ (Unit ⊕ Unit))))
      N 0).bind fun s41=>
     match s41 with
     | .inl y55=>
      (J6 N).bind fun r56=>
      some r56
     | .inr y57=>
      some false
def J1 (N:Nat) (aH:List C7) (aS:C7→Option Bool):Option Int:=
 (loopN
  (fun(s1:Int)=>
   (
    if cmp .lss s1 (Ar.len aH)=true then
     (B8 aH s1).bind fun x3=>
     (aS x3).bind fun r4=>
     if r4=true then
      some (.inr (.inr s1))
     else
      some (.inl (ar .add .i64 s1 1))
    else
     some (.inr (.inl ()))
    :Option ((Int) ⊕ (Unit ⊕ Int))))
  N 0).bind fun s2=>
 match s2 with
 | .inl y5=>
  some (-1)
 | .inr y6=>
  some y6
def F4 (N:Nat)(aH:List C7)(aS:C7→Option Bool):Option Bool:=
 (J1 N aH aS).bind fun r1=>
 some (cmp .geq r1 0)
def P3 (N:Nat)(aD:C7)(aG:List A5)(aI:Int):Option Bool:=
 (B8 aG aI).bind fun x1=>
 (CB N x1).bind fun r2=>
 some (an (cmp .eql aD.Ref.Time r2.Time) (an (cmp .eql aD.Ref.Source r2.Source) (an (cmp .eql aD.Ref.Seq r2.Seq) true)))
def J0 (N:Nat) (aH:List A0) (aS:A0→Option Bool):Option Int:=
 (loopN
  (fun(s1:Int)=>
   (
    if cmp .lss s1 (Ar.len aH)=true then
     (B8 aH s1).bind fun x3=>
     (aS x3).bind fun r4=>
     if r4=true then
      some (.inr (.inr s1))
     else
      some (.inl (ar .add .i64 s1 1))
    else
     some (.inr (.inl ()))
    :Option ((Int) ⊕ (Unit ⊕ Int))))
  N 0).bind fun s2=>
 match s2 with
 | .inl y5=>
  some (-1)
 | .inr y6=>
  some y6
def F3 (N:Nat)(aH:List A0)(aS:A0→Option Bool):Option Bool:=
 (J0 N aH aS).bind fun r1=>
 some (cmp .geq r1 0)
def AP (N:Nat):Nat→A0→Option Bool
 |0,_=>none
 | n+1,aA=>
  if cmp .eql aA.Op 5=true then
   some true
  else
   (F3 N aA.cP (fun y1=>AP N n y1)).bind fun r1=>
   some r1
def P2 (N:Nat)(bB:C8)(aG:List C8):Option Bool:=
 (BR N aG bB).bind fun r1=>
 some (nt r1)
def X6 (N:Nat) (aA:A0) (aF:List A5) (bN:Int):Option Bool:=
 (CE N aA aF).bind fun r1=>
 if Ar.or (nt r1) (cmp .eql (Ar.len aF) 0)=true then
  (J6 N).bind fun r2=>
  some r2
 else
  (TY (cmp .neq (Ar.len aF) 0)).bind fun _=>
  (M8 N aA aF).bind fun r3=>
  (Ap aF none (some (ar .rem .i64 (wr .i64 bN) (Ar.len aF))) none).bind fun l4=>
  (K9 ([]) l4).bind fun l6=>
  (Ap aF (some (ar .add .i64 (ar .rem .i64 (wr .i64 bN) (Ar.len aF)) 1)) none none).bind fun l7=>
  (K9 l6 l7).bind fun l9=>
  (M8 N aA l9).bind fun r10=>
  if Ar.or (nt r3.2) (nt r10.2)=true then
   some false
  else
   (loopN
    (fun(s11:(List C8)×Int)=>
     (
      if cmp .lss s11.2 (Ar.len r3.1)=true then
       (B8 r3.1 s11.2).bind fun x14=>
       (F4 N x14.cR (fun y1=>P3 N y1 aF (ar .rem .i64 (wr .i64 bN) (Ar.len aF)))).bind fun r15=>
       if nt r15=true then
        (K9 s11.1 ([x14])).bind fun l17=>
        some (.inl (l17,ar .add .i64 s11.2 1))
       else
        some (.inl (s11.1,ar .add .i64 s11.2 1))
      else
       some (.inr s11.1)
      :Option (((List C8)×Int) ⊕ (((List C8))))))
    N ([],0)).bind fun s13=>
   (AP N N aA).bind fun r19=>
   if nt r19=true then
    (BF N r10.1 s13).bind fun r20=>
    if r20=true then
     (J6 N).bind fun r21=>
     some r21
    else
     some false
   else
    (D2 N s13 (fun y1=>P2 N y1 r10.1)).bind fun r22=>
    if nt r22=true then
     (J6 N).bind fun r23=>
     some r23
    else
     some false
end Go.Ab
namespace Go.Ab
open Go.RowKit Go.Proofs Go.Proofs.Tryz I0
variable [Ar][I0]
set_option maxRecDepth 100000
theorem c17 (N aA aF r)(h:CE N aA aF=some r):B2 prog 17 [(B6 aA),sr eAo3 aF] (.bool r):=by
 unfold CE at h
 refine I6 cf0 func17 call17 ntmps17 ?_;intro E H0 K hE hK hO;cbv;refine A3 hE h (c12 N aA aF) (.refl _) fun r1 h=>?_;cbv;refine A8 hE h (fun _ h=>?_) fun _ h=>?_
 ·cbv;refine A3 hE h (c70 N aA aF) (.refl _) fun r2 h=>?_;cbv;cases h;exact hK hO (.refl _)
 cbv;cases h;exact hK hO (.refl _)
theorem c83 (N:Nat) (aH:List C8) (aT:V) (aS:C8→Option Bool) (bD:∀y1 q,aS y1=some q→Q9 prog aT [(AX y1)] (.bool q)) (r:Int) (h:M0 N aH aS=some r):B2 prog 83 [sr eAo5 aH,aT] (vi r):=by
 unfold M0 at h
 refine I6 cf0 func83 call83 ntmps83 ?_;intro E H0 K hE hK hO;cbv;refine D9 hE ?_;cbv;obtain⟨s2,hx,h⟩:=bind_some h;refine E9 cf0 hE N5 (fun s1=>[(0,.v (sr eAo5 aH)),(1,.v (aT)),fi 7 (Ar.len aH),fi 8 s1]) (fun s1 H1=>B7 Eq H0 [] H1) (fun x e l H1=>match(generalizing:=false) x with| .inl y=>e= .exit 0∧l=[]∧B7 Eq H0 [] H1| .inr y=>e= .ret∧l=[fi 4 y]∧B7 Eq H0 [] H1) (by kernel_rfl) ?_ hx ?_ hO ?_
 ·intro s1 H o hO h;clear hx;cbv;refine A8 hE h (fun _ h=>?_) fun _ h=>?_
  ·cbv;refine B9 hE eAp3 h fun x3 h=>?_;cbv;refine Y6 hE (g:=fun r4=>.bool r4) h (fun r4 hx=>bD x3 r4 hx) (.refl _) fun r4 h=>?_;cbv;refine A8 hE h (fun _ h=>?_) fun _ h=>?_
   ·cbv;cases h;exact⟨_,_,rfl,⟨rfl,rfl,hO⟩,.e rfl .z,rfl⟩
   cbv;cases h;exact⟨_,rfl,.e4 .z,rfl,hO⟩
  cbv;cases h;exact⟨_,_,rfl,⟨rfl,rfl,hO⟩,.z,rfl⟩
 ·exact .e4 .z
 clear hx
 rcases s2 with y5|y6
 ·rintro e l H ⟨rfl,rfl,hO⟩;cbv;cases h;exact hK hO (.refl _)
 rintro e l H ⟨rfl,rfl,hO⟩;cbv;cases h;exact hK hO (.refl _)
theorem c22 (N:Nat)(aH:List C8)(aT:V)(aS:C8→Option Bool)(bD:∀y1 q,aS y1=some q→Q9 prog aT [(AX y1)] (.bool q))(r:Bool)(h:D2 N aH aS=some r):B2 prog 22 [sr eAo5 aH,aT] (.bool r):=by
 unfold D2 at h
 refine I6 cf0 func22 call22 ntmps22 ?_;intro E H0 K hE hK hO;cbv;refine A3 hE h (c83 N aH aT aS bD) (.refl _) fun r1 h=>?_;cbv;cases h;exact hK hO (.refl _)
theorem c72 (N bB r)(h:Ak N bB=some r):B2 prog 72 [(AX bB)] (.bool r):=by
 unfold Ak at h
 refine I6 cf0 func72 call72 ntmps72 ?_;intro E H0 K hE hK hO;cbv;refine D9 hE ?_;cbv;cases h;exact hK hO (.refl _)
theorem c18 (N aA aF r)(h:M8 N aA aF=some r):B2 prog 18 [(B6 aA),sr eAo3 aF] (.tup [sr eAo5 r.1,.bool r.2]):=by
 unfold M8 at h
 refine I6 cf0 func18 call18 ntmps18 ?_;intro E H0 K hE hK hO;cbv;refine A3 hE h (c14 N aA aF) (.refl _) fun r1 h=>?_;cbv;refine A8 hE h (fun _ h=>?_) fun _ h=>?_
 ·cbv;refine A3 hE (g:=fun r2=>.bool r2) h (fun r2 hx=>c22 N r1.1 (.func (.func 72) [] []) (fun y1=>Ak N y1) (fun y1 r hx=>B2.value (F:=[]) (C:=[]) (c72 N y1 r hx)) r2 hx) (.refl _) fun r2 h=>?_;cbv;cases h;exact hK hO (.refl _)
 cbv;cases h;exact hK hO (.refl _)
def cf24 :Cf:=⟨[],[(4,5)],[],[],[],[]⟩
theorem c24 (N aF bB r) (h:BR N aF bB=some r):B2 prog 24 [sr eAo5 aF,(AX bB)] (.bool r):=by
 unfold BR at h
 refine I6 cf24 func24 call24 ntmps24 ?_;intro E H0 K hE hK hO;cbv;obtain⟨s2,hx,h⟩:=bind_some h;refine E9 cf24 hE N5 (fun s1=>[(0,.v (sr eAo5 aF)),(3,.v (.eref (FW bB) 0)),fi 5 s1]) (fun s1 H1=>B7 Eq H0 [] H1) (fun x e l H1=>match(generalizing:=false) x with| .inl y=>e= .exit 0∧l=[]∧B7 Eq H0 [] H1| .inr y=>e= .ret∧l=[(4,.b true)]∧B7 Eq H0 [] H1) (by kernel_rfl) ?_ hx ?_ hO ?_
 ·intro s1 H o hO h;clear hx;cbv;refine D9 hE ?_;cbv;refine A8 hE h (fun _ h=>?_) fun _ h=>?_
  ·cbv;refine B9 hE eAp3 h fun x3 h=>?_;cbv;refine A3 hE h (c33 N x3 bB) (.refl _) fun r4 h=>?_;cbv;refine A8 hE h (fun _ h=>?_) fun _ h=>?_
   ·cbv;cases h;exact⟨_,_,rfl,⟨rfl,rfl,hO⟩,.b rfl (.z),rfl⟩
   cbv;cases h;exact⟨_,rfl,.e rfl (.e2 .z),rfl,hO⟩
  cbv;cases h;exact⟨_,_,rfl,⟨rfl,rfl,hO⟩,.z,rfl⟩
 ·exact .e rfl (.e2 .z)
 clear hx
 rcases s2 with y5|y6
 ·rintro e l H ⟨rfl,rfl,hO⟩;cbv;cases h;exact hK hO (.refl _)
 rintro e l H ⟨rfl,rfl,hO⟩;cbv;cases h;exact hK hO (.refl _)
theorem c23 (N bB aG r)(h:E5 N bB aG=some r):B2 prog 23 [(AX bB),.eref [sr eAo5 aG] 0] (.bool r):=by
 unfold E5 at h
 refine I6 cf0 func23 call23 ntmps23 ?_;intro E H0 K hE hK hO;cbv;refine A3 hE h (c24 N aG bB) (.refl _) fun r1 h=>?_;cbv;cases h;exact hK hO (.refl _)
theorem c84 (N:Nat) (aH:List C7) (aT:V) (aS:C7→Option Bool) (bD:∀y1 q,aS y1=some q→Q9 prog aT [(AY y1)] (.bool q)) (r:Int) (h:J1 N aH aS=some r):B2 prog 84 [sr eAp1 aH,aT] (vi r):=by
 unfold J1 at h
 refine I6 cf0 func84 call84 ntmps84 ?_;intro E H0 K hE hK hO;cbv;refine D9 hE ?_;cbv;obtain⟨s2,hx,h⟩:=bind_some h;refine E9 cf0 hE N5 (fun s1=>[(0,.v (sr eAp1 aH)),(1,.v (aT)),fi 7 (Ar.len aH),fi 8 s1]) (fun s1 H1=>B7 Eq H0 [] H1) (fun x e l H1=>match(generalizing:=false) x with| .inl y=>e= .exit 0∧l=[]∧B7 Eq H0 [] H1| .inr y=>e= .ret∧l=[fi 4 y]∧B7 Eq H0 [] H1) (by kernel_rfl) ?_ hx ?_ hO ?_
 ·intro s1 H o hO h;clear hx;cbv;refine A8 hE h (fun _ h=>?_) fun _ h=>?_
  ·cbv;refine B9 hE eAp5 h fun x3 h=>?_;cbv;refine Y6 hE (g:=fun r4=>.bool r4) h (fun r4 hx=>bD x3 r4 hx) (.refl _) fun r4 h=>?_;cbv;refine A8 hE h (fun _ h=>?_) fun _ h=>?_
   ·cbv;cases h;exact⟨_,_,rfl,⟨rfl,rfl,hO⟩,.e rfl .z,rfl⟩
   cbv;cases h;exact⟨_,rfl,.e4 .z,rfl,hO⟩
  cbv;cases h;exact⟨_,_,rfl,⟨rfl,rfl,hO⟩,.z,rfl⟩
 ·exact .e4 .z
 clear hx
 rcases s2 with y5|y6
 ·rintro e l H ⟨rfl,rfl,hO⟩;cbv;cases h;exact hK hO (.refl _)
 rintro e l H ⟨rfl,rfl,hO⟩;cbv;cases h;exact hK hO (.refl _)
theorem c25 (N:Nat)(aH:List C7)(aT:V)(aS:C7→Option Bool)(bD:∀y1 q,aS y1=some q→Q9 prog aT [(AY y1)] (.bool q))(r:Bool)(h:F4 N aH aS=some r):B2 prog 25 [sr eAp1 aH,aT] (.bool r):=by
 unfold F4 at h
 refine I6 cf0 func25 call25 ntmps25 ?_;intro E H0 K hE hK hO;cbv;refine A3 hE h (c84 N aH aT aS bD) (.refl _) fun r1 h=>?_;cbv;cases h;exact hK hO (.refl _)
def cf26 :Cf:=⟨[],[(1,7)],[],[],[],[]⟩
theorem c26 (N aD aG aI r)(h:P3 N aD aG aI=some r):B2 prog 26 [(AY aD),.eref [sr eAo3 aG] 0,.eref [vi aI] 0] (.bool r):=by
 unfold P3 at h
 refine I6 cf26 func26 call26 ntmps26 ?_;intro E H0 K hE hK hO;cbv;refine B9 hE eAo9 h fun x1 h=>?_;cbv;refine D5 hE (g:=fun r2=>(HJ r2)) h (c27 N x1) (.refl _) fun r2 h=>?_;cbv;cases h;exact hK hO (.refl _)
theorem c133 (N:Nat) (aH:List A0) (aT:V) (aS:A0→Option Bool) (bD:∀y1 q,aS y1=some q→Q9 prog aT [(B6 y1)] (.bool q)) (r:Int) (h:J0 N aH aS=some r):B2 prog 133 [sr eAo2 aH,aT] (vi r):=by
 unfold J0 at h
 refine I6 cf0 func133 call133 ntmps133 ?_;intro E H0 K hE hK hO;cbv;refine D9 hE ?_;cbv;obtain⟨s2,hx,h⟩:=bind_some h;refine E9 cf0 hE N5 (fun s1=>[(0,.v (sr eAo2 aH)),(1,.v (aT)),fi 7 (Ar.len aH),fi 8 s1]) (fun s1 H1=>B7 Eq H0 [] H1) (fun x e l H1=>match(generalizing:=false) x with| .inl y=>e= .exit 0∧l=[]∧B7 Eq H0 [] H1| .inr y=>e= .ret∧l=[fi 4 y]∧B7 Eq H0 [] H1) (by kernel_rfl) ?_ hx ?_ hO ?_
 ·intro s1 H o hO h;clear hx;cbv;refine A8 hE h (fun _ h=>?_) fun _ h=>?_
  ·cbv;refine B9 hE eAo4 h fun x3 h=>?_;cbv;refine Y6 hE (g:=fun r4=>.bool r4) h (fun r4 hx=>bD x3 r4 hx) (.refl _) fun r4 h=>?_;cbv;refine A8 hE h (fun _ h=>?_) fun _ h=>?_
   ·cbv;cases h;exact⟨_,_,rfl,⟨rfl,rfl,hO⟩,.e rfl .z,rfl⟩
   cbv;cases h;exact⟨_,rfl,.e4 .z,rfl,hO⟩
  cbv;cases h;exact⟨_,_,rfl,⟨rfl,rfl,hO⟩,.z,rfl⟩
 ·exact .e4 .z
 clear hx
 rcases s2 with y5|y6
 ·rintro e l H ⟨rfl,rfl,hO⟩;cbv;cases h;exact hK hO (.refl _)
 rintro e l H ⟨rfl,rfl,hO⟩;cbv;cases h;exact hK hO (.refl _)
theorem c85 (N:Nat)(aH:List A0)(aT:V)(aS:A0→Option Bool)(bD:∀y1 q,aS y1=some q→Q9 prog aT [(B6 y1)] (.bool q))(r:Bool)(h:F3 N aH aS=some r):B2 prog 85 [sr eAo2 aH,aT] (.bool r):=by
 unfold F3 at h
 refine I6 cf0 func85 call85 ntmps85 ?_;intro E H0 K hE hK hO;cbv;refine A3 hE h (c133 N aH aT aS bD) (.refl _) fun r1 h=>?_;cbv;cases h;exact hK hO (.refl _)
theorem c28 (N:Nat):∀n aA r,AP N n aA=some r→B2 prog 28 [(B6 aA)] (.bool r):=by
 intro n
 induction n with
 |zero=>intro aA r h;cases h
 |succ n ih=>
 intro aA r h
 unfold AP at h
 refine I6 cf0 func28 call28 ntmps28 ?_;intro E H0 K hE hK hO;cbv;refine A8 hE h (fun _ h=>?_) fun _ h=>?_
 ·cbv;cases h;exact hK hO (.refl _)
 cbv;refine A3 hE (g:=fun r1=>.bool r1) h (fun r1 hx=>c85 N aA.cP (.func (.func 28) [] []) (fun y1=>AP N n y1) (fun y1 r hx=>B2.value (F:=[]) (C:=[]) (ih y1 r hx)) r1 hx) (.refl _) fun r1 h=>?_;cbv;cases h;exact hK hO (.refl _)
theorem c29 (N bB aG r)(h:P2 N bB aG=some r):B2 prog 29 [(AX bB),.eref [sr eAo5 aG] 0] (.bool r):=by
 unfold P2 at h
 refine I6 cf0 func29 call29 ntmps29 ?_;intro E H0 K hE hK hO;cbv;refine A3 hE h (c24 N aG bB) (.refl _) fun r1 h=>?_;cbv;cases h;exact hK hO (.refl _)
def cf5 :Cf:=⟨[3000042,3000047],[(5,17)],[],[],[],[]⟩
theorem c5 (N aA aF bN r) (h:X6 N aA aF bN=some r):B2 prog 5 [(B6 aA),sr eAo3 aF,.int .u8 bN] (.bool r):=by
 unfold X6 at h
 refine I6 cf5 func5 call5 ntmps5 ?_;intro E H0 K hE hK hO;cbv;refine A3 hE h (c17 N aA aF) (.refl _) fun r1 h=>?_;cbv;refine D9 hE ?_;cbv;refine A8 hE h (fun _ h=>?_) fun _ h=>?_
 ·cbv;refine A3 hE h (c13 N) (.refl _) fun r2 h=>?_;cbv;cases h;exact hK hO (.refl _)
 cbv;refine D9 hE ?_;cbv;refine ZB hE h fun h=>?_;cbv;refine A3 hE h (c18 N aA aF) (.refl _) fun r3 h=>?_;cbv;refine EA hE (f:=eAo3) DL h fun l4 t5 h=>?_;cbv;refine GS (f:=eAo3) hE DL (by decide) (l:=[]) (m:=l4) (.lst0) (.refl _) h fun l6 h=>?_;cbv;refine EA hE (f:=eAo3) DL h fun l7 t8 h=>?_;cbv;refine GS (f:=eAo3) hE DL (by decide) (l:=l6) (m:=l7) (.refl _) (.refl _) h fun l9 h=>?_;cbv;refine D5 hE (g:=fun r10=>.tup [sr eAo5 r10.1,.bool r10.2]) h (c18 N aA l9) (.refl _) fun r10 h=>?_;cbv;refine A8 hE h (fun _ h=>?_) fun _ h=>?_
 ·cbv;cases h;exact hK hO (.refl _)
 cbv;refine D9 hE ?_;cbv;replace hO:=hO.tl0 (t:=.nil) rfl;obtain⟨s13,hx,h⟩:=bind_some h;refine W1 cf5 hE N5 (γ:=D7) (fun s11 g=>[(3,.v (.eref (C0 aA) 0)),(4,.v (.eref [sr eAo3 aF] 0)),(7,.v (.eref [vi (ar .rem .i64 (wr .i64 bN) (Ar.len aF))] 0)),(10,.v (.eref [sr eAo5 r10.1] 0)),(12,.v (.sl (Ar.lst eAo5 s11.1) g)),(57,.v (sr eAo5 r3.1)),fi 58 (Ar.len r3.1),fi 59 s11.2]) (fun s11 g H1=>W4 g∧B7 Eq H0 [.tl g] H1) (fun x e l H1=>∃u1:D7,W4 u1∧e= .exit 0∧l=[(3,.v (.eref (C0 aA) 0)),(10,.v (.eref [sr eAo5 r10.1] 0)),(12,.v (.sl (Ar.lst eAo5 x) u1))]∧B7 Eq H0 [.tl u1] H1) (by kernel_rfl) ?_ .nil hx ?_ ?_ ?_
 ·rintro s11 t12 H o ⟨ht12,hO⟩ h;clear hx;cbv;refine A8 hE h (fun _ h=>?_) fun _ h=>?_
  ·cbv;refine B9 hE eAp3 h fun x14 h=>?_;cbv;refine A3 hE (g:=fun r15=>.bool r15) h (fun r15 hx=>c25 N x14.cR (.func (.func 26) [] [.eref [sr eAo3 aF] 0,.eref [vi (ar .rem .i64 (wr .i64 bN) (Ar.len aF))] 0]) (fun y1=>P3 N y1 aF (ar .rem .i64 (wr .i64 bN) (Ar.len aF))) (fun y1 r hx=>B2.value (F:=[]) (C:=[.eref [sr eAo3 aF] 0,.eref [vi (ar .rem .i64 (wr .i64 bN) (Ar.len aF))] 0]) (c26 N y1 aF (ar .rem .i64 (wr .i64 bN) (Ar.len aF)) r hx)) r15 hx) (.refl _) fun r15 h=>?_;cbv;refine A8 hE h (fun _ h=>?_) fun _ h=>?_
   ·cbv;refine Cd (f:=eAo5) hE Hq (by decide) hO 0 rfl ht12 (l:=s11.1) (m:=[x14]) (.refl _) (.lstc (.eq (eAp3 x14) (.refl _)) (.lst0)) h fun l17 t16 H hO ht16 h=>?_;cbv;cases h;exact⟨_,t16,rfl,.e4 (.e4 .z),rfl,ht16,hO⟩
   cbv;cases h;exact⟨_,t12,rfl,.e4 (.e4 .z),rfl,ht12,hO⟩
  cbv;cases h;exact⟨_,_,rfl,⟨t12,ht12,rfl,rfl,hO⟩,.e rfl (.e2 .z),rfl⟩
 ·exact .e4 (.v (.slt _ (.lst0)) (.e rfl (.e rfl (.e rfl (.z)))))
 ·exact⟨trivial,hO⟩
 clear hx;rintro e l H ⟨t18,ht18,rfl,rfl,hO⟩;cbv;refine A3 hE h (c28 N N aA) (.refl _) fun r19 h=>?_;cbv;refine A8 hE h (fun _ h=>?_) fun _ h=>?_
 ·cbv;refine A3 hE h (c16 N r10.1 s13) (.cons (.refl _) (.cons (.ro _ _) (.refl _))) fun r20 h=>?_;cbv;refine A8 hE h (fun _ h=>?_) fun _ h=>?_
  ·cbv;refine A3 hE h (c13 N) (.refl _) fun r21 h=>?_;cbv;cases h;exact hK hO (.refl _)
  cbv;cases h;exact hK hO (.refl _)
 cbv;refine A3 hE (g:=fun r22=>.bool r22) h (fun r22 hx=>c22 N s13 (.func (.func 29) [] [.eref [sr eAo5 r10.1] 0]) (fun y1=>P2 N y1 r10.1) (fun y1 r hx=>B2.value (F:=[]) (C:=[.eref [sr eAo5 r10.1] 0]) (c29 N y1 r10.1 r hx)) r22 hx) (.cons (.ro _ _) (.refl _)) fun r22 h=>?_;cbv;refine A8 hE h (fun _ h=>?_) fun _ h=>?_
 ·cbv;refine A3 hE h (c13 N) (.refl _) fun r23 h=>?_;cbv;cases h;exact hK hO (.refl _)
 cbv;cases h;exact hK hO (.refl _)
end Go.Ab
