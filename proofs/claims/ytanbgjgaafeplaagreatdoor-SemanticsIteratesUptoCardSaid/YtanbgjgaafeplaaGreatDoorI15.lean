/- GTCo6 GTCo7 GTSq GTCo8 -/
import Derived.Test.YtanbgjgaafeplaaGreatDoorI14
set_option linter.all false
open Go.Ab.Ar (ar cmp nt)
namespace Go.Ab
open Go.RowKit Go.Proofs Go.Proofs.Tryz H6
variable [Ar][H6]
set_option maxRecDepth 100000
end Go.Ab
namespace Go.Ab
open Go.RowKit Go.Proofs Go.Proofs.Tryz H6
variable [Ar][H6]
set_option maxRecDepth 100000
def cf16 :Cf:=⟨[],[(6,8)],[],[],[],[]⟩
theorem c16 (N aC aD r) (h:Ip N aC aD=some r):B3 prog 16 [sr eAr5 aC,sr eAr5 aD] (.bool r):=by
 unfold Ip at h
 refine I8 cf16 func16 call16 ntmps16 ?_;intro E H0 K hE hK hO;cbv;refine D4 hE ?_;cbv;refine D4 hE ?_;cbv;refine A8 hE h (fun _ h=>?_) fun _ h=>?_
 ·cbv;cases h;exact hK hO (.refl _)
 cbv;obtain⟨s2,hx,h⟩:=bind_some h;refine E3 cf16 hE M4 (fun s1=>[(0,.v (sr eAr5 aC)),(1,.v (sr eAr5 aD)),fi 5 s1]) (fun s1 H1=>B8 Eq H0 [] H1) (fun x e l H1=>match(generalizing:=false) x with| .inl y=>e= .exit 0∧l=[]∧B8 Eq H0 [] H1| .inr y=>e= .ret∧l=[(4,.b false)]∧B8 Eq H0 [] H1) (by kernel_rfl) ?_ hx ?_ hO ?_
 ·intro s1 H o hO h;clear hx;cbv;refine D4 hE ?_;cbv;refine A8 hE h (fun _ h=>?_) fun _ h=>?_
  ·cbv;refine B9 hE eAs4 h fun x3 h=>?_;cbv;refine B9 hE eAs4 h fun x4 h=>?_;cbv;refine A4 hE h (c33 N x3 x4) (.refl _) fun r5 h=>?_;cbv;refine A8 hE h (fun _ h=>?_) fun _ h=>?_
   ·cbv;cases h;exact⟨_,_,rfl,⟨rfl,rfl,hO⟩,.b rfl (.z),rfl⟩
   cbv;cases h;exact⟨_,rfl,.e rfl (.e2 .z),rfl,hO⟩
  cbv;cases h;exact⟨_,_,rfl,⟨rfl,rfl,hO⟩,.z,rfl⟩
 ·exact .e rfl (.e2 .z)
 clear hx
 rcases s2 with y6|y7
 ·rintro e l H ⟨rfl,rfl,hO⟩;cbv;cases h;exact hK hO (.refl _)
 rintro e l H ⟨rfl,rfl,hO⟩;cbv;cases h;exact hK hO (.refl _)
end Go.Ab
namespace Go.Ab
variable [Ar]
def Ag (N:Nat) (aA:A0) (aF:List A6):Option Bool:=
 (CW N aA aF).bind fun r1=>
 if r1=true then
  (EA N aA aF).bind fun r2=>
  some (cmp .eql r2 0)
 else
  some false
def M0 (N:Nat) (aG:List D1) (aT:D1→Option Bool):Option Int:=
 (loopN
  (fun(s1:Int)=>
   (
    if cmp .lss s1 (Ar.len aG)=true then
     (B7 aG s1).bind fun x3=>
     (aT x3).bind fun r4=>
     if r4=true then
      some (.inr (.inr s1))
     else
      some (.inl (ar .add .i64 s1 1))
    else
     some (.inr (.inl ()))
    :Option ((Int) ⊕ (Unit ⊕ Int))))
  N 0).bind fun s2=>
 match s2 with
 | .inl y5=>
  some (-1)
 | .inr y6=>
  some y6
def E5 (N:Nat)(aG:List D1)(aT:D1→Option Bool):Option Bool:=
 (M0 N aG aT).bind fun r1=>
 some (cmp .geq r1 0)
def Ap (N:Nat)(bE:D1):Option Bool:=
 some (cmp .eql (Ar.len bE.cQ) 0)
def F2 (N:Nat) (aA:A0) (aF:List A6):Option ((List D1)×Bool):=
 (X3 N aA aF).bind fun r1=>
 if cmp .eql r1.2 0=true then
  (E5 N r1.1 (fun y1=>Ap N y1)).bind fun r2=>
  some (r1.1,nt r2)
 else
  some (r1.1,false)
def JX (N:Nat) (aA:A0):Option ((List Int)×Int):=
 (K7 N N aA).bind fun r1=>
 (Sh 16 16 (false:Bool)).bind fun l3=>
 (loopN
  (fun (s4:(List Int)×Int×(List Bool))=>
   (
    if cmp .lss s4.2.1 (Ar.len r1)=true then
     (B7 r1 s4.2.1).bind fun x8=>
     (O4 N x8).bind fun r9=>
     if nt r9=true then
      some (.inl (s4.1,ar .add .i64 s4.2.1 1,s4.2.2))
     else
      (B7 r1 s4.2.1).bind fun x10=>
      (QI (Yl s4.2.2 x10.Var)).bind fun _=>
      (B7 s4.2.2 x10.Var).bind fun x11=>
      if x11=true then
       some (.inr (.inr s4.2.2))
      else
       (B7 r1 s4.2.1).bind fun x12=>
       (QI (Yl s4.2.2 x12.Var)).bind fun _=>
       (FC s4.2.2 x12.Var (fun x13:Bool=>true)).bind fun l14=>
       (B7 r1 s4.2.1).bind fun x15=>
       (N6 s4.1 ([x15.Var])).bind fun l17=>
       some (.inl (l17,ar .add .i64 s4.2.1 1,l14))
    else
     some (.inr (.inl (s4.1,s4.2.2)))
    :Option (((List Int)×Int×(List Bool)) ⊕ (((List Int)×(List Bool)) ⊕ ((List Bool))))))
  N ([],0,l3)).bind fun s7=>
 match s7 with
 | .inl y18=>
  some (y18.1,0)
 | .inr y21=>
  some ([],7)
def AZ (N:Nat):Nat→A3→List Int→Option (A3×Int)
 |0,_,_=>none
 | n + 1,aB,aV=>
  (BH N aB.Op).bind fun r3=>
  ((
   if r3.1=true then
    if cmp .geq aB.Var (Ar.len aV)=true then
     some (.inr 6)
    else
     (B7 aV aB.Var).bind fun x5=>
     if cmp .lss x5 0=true then
      some (.inr 2)
     else
      (B7 aV aB.Var).bind fun x6=>
      if cmp .geq x6 16=true then
       some (.inr 2)
      else
       (B7 aV aB.Var).bind fun x7=>
       some (.inl ({aB with cO:=[],Var:=x7}))
   else
    some (.inl ({aB with cO:=[]}))
  ):Option (A3 ⊕ Int)).bind fun s4=>
  match s4 with
  | .inl y8=>
   (loopN
    (fun(s9:Int×A3)=>
     (
      if cmp .lss s9.1 (Ar.len aB.cO)=true then
       (B7 aB.cO s9.1).bind fun x12=>
       (AZ N n x12 aV).bind fun r13=>
       if cmp .neq r13.2 0=true then
        some (.inr (.inr (r13.2,s9.2)))
       else
        (N6 s9.2.cO ([r13.1])).bind fun l15=>
        some (.inl (ar .add .i64 s9.1 1,{s9.2 with cO:=l15}))
      else
       some (.inr (.inl s9.2))
      :Option ((Int×A3) ⊕ (A3 ⊕ (Int×A3)))))
    N (0,{y8 with cO:=[]})).bind fun s11=>
   match s11 with
   | .inl y16=>
    some (y16,0)
   | .inr y18=>
    some ((⟨0,[],0,0,0,(⟨0,0,⟨#[]⟩⟩:A5)⟩:A3),y18.1)
  | .inr y20=>
   some ((⟨0,[],0,0,0,(⟨0,0,⟨#[]⟩⟩:A5)⟩:A3),y20)
def Cb (N:Nat) (aB:A3) (aV:List Int):Option (A3×Int):=
 (AM N aB).bind fun r2=>
 if cmp .neq r2 0=true then
  some ((⟨0,[],0,0,0,(⟨0,0,⟨#[]⟩⟩:A5)⟩:A3),r2)
 else
  (AZ N N aB aV).bind fun r3=>
  some (r3.1,r3.2)
def BZ (N:Nat):Nat→A0→List Int→Option (A0×Int)
 |0,_,_=>none
 | n + 1,aA,aV=>
  (O4 N aA).bind fun r3=>
  ((
   if r3=true then
    if cmp .geq aA.Var (Ar.len aV)=true then
     some (.inr 6)
    else
     (B7 aV aA.Var).bind fun x5=>
     if cmp .lss x5 0=true then
      some (.inr 2)
     else
      (B7 aV aA.Var).bind fun x6=>
      if cmp .geq x6 16=true then
       some (.inr 2)
      else
       (B7 aV aA.Var).bind fun x7=>
       some (.inl ({aA with cO:=[],Var:=x7}))
   else
    some (.inl ({aA with cO:=[]}))
  ):Option (A0 ⊕ Int)).bind fun s4=>
  match s4 with
  | .inl y8=>
   (W7 N aA).bind fun r9=>
   ((
    if r9=true then
     (Cb N aA.cP aV).bind fun r11=>
     if cmp .neq r11.2 0=true then
      some (.inr r11.2)
     else
      some (.inl ({y8 with cO:=[],cP:=r11.1}))
    else
     some (.inl ({y8 with cO:=[]}))
   ):Option (A0 ⊕ Int)).bind fun s10=>
   match s10 with
   | .inl y12=>
    (loopN
     (fun(s13:Int×A0)=>
      (
       if cmp .lss s13.1 (Ar.len aA.cO)=true then
        (B7 aA.cO s13.1).bind fun x16=>
        (BZ N n x16 aV).bind fun r17=>
        if cmp .neq r17.2 0=true then
         some (.inr (.inr (r17.2,{s13.2 with cP:={s13.2.cP with cO:=y12.cP.cO}})))
        else
         (N6 s13.2.cO ([r17.1])).bind fun l19=>
         some (.inl (ar .add .i64 s13.1 1,{s13.2 with cO:=l19,cP:={s13.2.cP with cO:=y12.cP.cO}}))
       else
        some (.inr (.inl ({s13.2 with cP:={s13.2.cP with cO:=y12.cP.cO}})))
       :Option ((Int×A0) ⊕ (A0 ⊕ (Int×A0)))))
     N (0,{y12 with cO:=[]})).bind fun s15=>
    match s15 with
    | .inl y20=>
     some (y20,0)
    | .inr y22=>
     some ((⟨0,[],0,0,0,0,(⟨0,[],0,0,0,(⟨0,0,⟨#[]⟩⟩:A5)⟩:A3)⟩:A0),y22.1)
   | .inr y24=>
    some ((⟨0,[],0,0,0,0,(⟨0,[],0,0,0,(⟨0,0,⟨#[]⟩⟩:A5)⟩:A3)⟩:A0),y24)
  | .inr y25=>
   some ((⟨0,[],0,0,0,0,(⟨0,[],0,0,0,(⟨0,0,⟨#[]⟩⟩:A5)⟩:A3)⟩:A0),y25)
def BY (N : Nat):Nat→A0→Int→Option A0
 |0,_,_=>none
 | n + 1, aA,aM=>
  (N7 N aA).bind fun r3=>
  if r3 = true then
   (loopN
    (fun (s4 :Int×Int×A0)=>
     (
      if cmp .lss s4.2.1 (Ar.len aA.cO)=true then
       (B7 aA.cO s4.2.1).bind fun x7=>
       (BY N n x7 s4.1).bind fun r8=>
       (N6 s4.2.2.cO ([r8])).bind fun l10=>
       (B7 aA.cO s4.2.1).bind fun x11=>
       (K7 N N x11).bind fun r12=>
       (loopN
        (fun (s13:Int×Int)=>
         (
          if cmp .lss s13.2 (Ar.len r12)=true then
           (B7 r12 s13.2).bind fun x15=>
           (N7 N x15).bind fun r16=>
           if r16=true then
            some (.inl (ar .add .i64 s13.1 1,ar .add .i64 s13.2 1))
           else
            (B7 r12 s13.2).bind fun x17=>
            (N1 N x17).bind fun r18=>
            if r18=true then
             some (.inl (ar .add .i64 s13.1 1,ar .add .i64 s13.2 1))
            else
             some (.inl (s13.1,ar .add .i64 s13.2 1))
          else
           some (.inr s13.1)
          :Option ((Int×Int) ⊕ (Int))))
        N (s4.1,0)).bind fun s14=>
       some (.inl (s14,ar .add .i64 s4.2.1 1,{s4.2.2 with cO:=l10,cP:={s4.2.2.cP with cO:=aA.cP.cO}}))
      else
       some (.inr ({s4.2.2 with cP:={s4.2.2.cP with cO:=aA.cP.cO}}))
      :Option ((Int×Int×A0) ⊕ (A0))))
    N (ar .add .i64 aM 1,0,{aA with cO:=[],cR:=aM})).bind fun s6=>
   some s6
  else
   (N1 N aA).bind fun r20=>
   ((
    if r20=true then
     some (ar .add .i64 aM 1,{aA with cO:=[],cR:=aM})
    else
     some (aM,{aA with cO:=[]})
   ):Option ((Int×A0))).bind fun s21=>
   (loopN
    (fun (s22:Int×Int×A0)=>
     (
      if cmp .lss s22.2.1 (Ar.len aA.cO)=true then
       (B7 aA.cO s22.2.1).bind fun x25=>
       (BY N n x25 s22.1).bind fun r26=>
       (N6 s22.2.2.cO ([r26])).bind fun l28=>
       (B7 aA.cO s22.2.1).bind fun x29=>
       (K7 N N x29).bind fun r30=>
       (loopN
        (fun (s31:Int×Int)=>
         (
          if cmp .lss s31.2 (Ar.len r30)=true then
           (B7 r30 s31.2).bind fun x33=>
           (N7 N x33).bind fun r34=>
           if r34=true then
            some (.inl (ar .add .i64 s31.1 1,ar .add .i64 s31.2 1))
           else
            (B7 r30 s31.2).bind fun x35=>
            (N1 N x35).bind fun r36=>
            if r36=true then
             some (.inl (ar .add .i64 s31.1 1,ar .add .i64 s31.2 1))
            else
             some (.inl (s31.1,ar .add .i64 s31.2 1))
          else
           some (.inr s31.1)
          :Option ((Int×Int) ⊕ (Int))))
        N (s22.1,0)).bind fun s32=>
       some (.inl (s32,ar .add .i64 s22.2.1 1,{s22.2.2 with cO:=l28,cP:={s22.2.2.cP with cO:=s21.2.cP.cO}}))
      else
       some (.inr ({s22.2.2 with cP:={s22.2.2.cP with cO:=s21.2.cP.cO}}))
      :Option ((Int×Int×A0) ⊕ (A0))))
    N (s21.1,0,{s21.2 with cO:=[]})).bind fun s24=>
   some s24
def Ca (N:Nat) (aA:A0):Option (A0×(List Int)×Int):=
 (W8 N aA).bind fun r2=>
 if cmp .neq r2 0=true then
  some ((⟨0,[],0,0,0,0,(⟨0,[],0,0,0,(⟨0,0,⟨#[]⟩⟩:A5)⟩:A3)⟩:A0),[],r2)
 else
  (K7 N N aA).bind fun r3=>
  (AY N r3).bind fun r4=>
  if nt r4=true then
   some ((⟨0,[],0,0,0,0,(⟨0,[],0,0,0,(⟨0,0,⟨#[]⟩⟩:A5)⟩:A3)⟩:A0),[],1)
  else
   (JX N aA).bind fun r5=>
   if cmp .neq r5.2 0=true then
    some ((⟨0,[],0,0,0,0,(⟨0,[],0,0,0,(⟨0,0,⟨#[]⟩⟩:A5)⟩:A3)⟩:A0),[],r5.2)
   else
    (Sh 16 16 (0:Int)).bind fun l7=>
    (loopN
     (fun(s8:Int×(List Int))=>
      (
       if cmp .lss s8.1 (Ar.len s8.2)=true then
        (QI (Yl s8.2 s8.1)).bind fun _=>
        (FC s8.2 s8.1 (fun x11:Int=>(-1))).bind fun l12=>
        some (.inl (ar .add .i64 s8.1 1,l12))
       else
        some (.inr s8.2)
       :Option ((Int×(List Int)) ⊕ (((List Int))))))
     N (0,l7)).bind fun s10=>
    (loopN
     (fun(s14:Int×(List Int))=>
      (
       if cmp .lss s14.1 (Ar.len r5.1)=true then
        (B7 r5.1 s14.1).bind fun x17=>
        (QI (Yl s14.2 x17)).bind fun _=>
        (FC s14.2 x17 (fun x18:Int=>s14.1)).bind fun l19=>
        some (.inl (ar .add .i64 s14.1 1,l19))
       else
        some (.inr s14.2)
       :Option ((Int×(List Int)) ⊕ (((List Int))))))
     N (0,s10)).bind fun s16=>
    (BZ N N aA s16).bind fun r21=>
    if cmp .neq r21.2 0=true then
     some ((⟨0,[],0,0,0,0,(⟨0,[],0,0,0,(⟨0,0,⟨#[]⟩⟩:A5)⟩:A3)⟩:A0),[],6)
    else
     (BY N N r21.1 0).bind fun r22=>
     some (r22,r5.1,0)
def DW (N:Nat):Nat→A0→A0→Option Bool
 |0,_,_=>none
 | n + 1,aC,aD=>
  if Ar.or (Ar.or (Ar.or (Ar.or (cmp .neq aC.Op aD.Op) (cmp .neq aC.Typ aD.Typ)) (cmp .neq aC.Var aD.Var)) (cmp .neq aC.cR aD.cR)) (cmp .neq aC.Span aD.Span)=true then
   some false
  else
   (O5 N N aC.cP aD.cP).bind fun r1=>
   if Ar.or (nt r1) (cmp .neq (Ar.len aC.cO) (Ar.len aD.cO))=true then
    some false
   else
    (loopN
     (fun(s2:Int)=>
      (
       if cmp .lss s2 (Ar.len aC.cO)=true then
        (B7 aC.cO s2).bind fun x4=>
        (B7 aD.cO s2).bind fun x5=>
        (DW N n x4 x5).bind fun r6=>
        if nt r6=true then
         some (.inr (.inr ()))
        else
         some (.inl (ar .add .i64 s2 1))
       else
        some (.inr (.inl ()))
       :Option ((Int) ⊕ (Unit ⊕ Unit))))
     N 0).bind fun s3=>
    match s3 with
    | .inl y7=>
     some true
    | .inr y8=>
     some false
def GL (N:Nat) (aF:List D1) (bE:D1):Option Bool:=
 (loopN
  (fun(s1:Int)=>
   (
    if cmp .lss s1 (Ar.len aF)=true then
     (B7 aF s1).bind fun x3=>
     (CS N x3 bE).bind fun r4=>
     if cmp .eql r4 0=true then
      some (.inr (.inr ()))
     else
      some (.inl (ar .add .i64 s1 1))
    else
     some (.inr (.inl ()))
    :Option ((Int) ⊕ (Unit ⊕ Unit))))
  N 0).bind fun s2=>
 match s2 with
 | .inl y5=>
  some false
 | .inr y6=>
  some true
def J5 (N:Nat)(bE:D1)(aH:List D1):Option Bool:=
 (GL N aH bE).bind fun r1=>
 some (nt r1)
def Ch (N : Nat) (aA:A0) (aF:List A6) (bV:Int):Option Bool:=
 (Ag N aA aF).bind fun r1=>
 if nt r1=true then
  (E4 N).bind fun r2=>
  some r2
 else
  (F2 N aA aF).bind fun r3=>
  (Ca N (⟨6,[aA],0,0,0,Ar.wr .i64 (ar .rem .u8 bV 8),(⟨0,[],0,0,0,(⟨0,0,⟨#[]⟩⟩:A5)⟩:A3)⟩:A0)).bind fun r4=>
  if nt r3.2=true then
   some false
  else
   if cmp .eql r4.2.2 0=true then
    (Z9 N r4.1).bind fun r5=>
    ((
     if cmp .eql r5 0=true then
      (F2 N r4.1 aF).bind fun r7=>
      (loopN
       (fun(s8:(List D1)×Int)=>
        (
         if cmp .lss s8.2 (Ar.len r3.1)=true then
          (B7 r3.1 s8.2).bind fun x11=>
          (B7 x11.cQ (ar .sub .i64 (Ar.len x11.cQ) 1)).bind fun x12=>
          (B7 x11.cQ 0).bind fun x13=>
          if cmp .leq (ar .sub .i64 x12.Ref.Time x13.Ref.Time) (Ar.wr .i64 (ar .rem .u8 bV 8))=true then
           (N6 s8.1 ([x11])).bind fun l15=>
           some (.inl (l15,ar .add .i64 s8.2 1))
          else
           some (.inl (s8.1,ar .add .i64 s8.2 1))
         else
          some (.inr s8.1)
         :Option (((List D1)×Int) ⊕ (((List D1))))))
       N ([],0)).bind fun s10=>
      if nt r7.2=true then
       some (.inr ())
      else
       (Ip N r7.1 s10).bind fun r17=>
       if nt r17=true then
        some (.inr ())
       else
        some (.inl ())
     else
      some (.inl ())
    ):Option (Unit ⊕ Unit)).bind fun s6=>
    match s6 with
    | .inl y18 =>
     if cmp .neq aA.Op 2=true then
      (E4 N).bind fun r19=>
      some r19
     else
      (loopN
       (fun (s20:Int)=>
        (
         if cmp .lss s20 (Ar.len aA.cO)=true then
          (B7 aA.cO s20).bind fun x22=>
          (ES aA.cO none (some s20) none).bind fun l24=>
          (N6 ([]) l24).bind fun l26=>
          (ES aA.cO (some (ar .add .i64 s20 1)) none none).bind fun l27=>
          (N6 l26 l27).bind fun l29=>
          (Ca N x22).bind fun r30=>
          if cmp .neq r30.2.2 0=true then
           some (.inl (ar .add .i64 s20 1))
          else
           (Z9 N r30.1).bind fun r31=>
           if cmp .neq r31 0=true then
            some (.inl (ar .add .i64 s20 1))
           else
            (DW N N r30.1 x22).bind fun r32=>
            if nt r32=true then
             some (.inl (ar .add .i64 s20 1))
            else
             (F2 N x22 aF).bind fun r33=>
             if Ar.or (nt r33.2) (cmp .eql (Ar.len l29) 0)=true then
              some (.inr (.inr ()))
             else
              (E5 N r33.1 (fun y1=>J5 N y1 r3.1)).bind fun r34=>
              if r34=true then
               some (.inr (.inr ()))
              else
               some (.inl (ar .add .i64 s20 1))
         else
          some (.inr (.inl ()))
         :Option ((Int) ⊕ (Unit ⊕ Unit))))
       N 0).bind fun s21=>
      match s21 with
      | .inl y35=>
       (E4 N).bind fun r36=>
       some r36
      | .inr y37=>
       some false
    | .inr y38=>
     some false
   else
    if cmp .neq aA.Op 2=true then
     (E4 N).bind fun r39=>
     some r39
    else
     (loopN
      (fun (s40:Int)=>
       (
        if cmp .lss s40 (Ar.len aA.cO)=true then
         (B7 aA.cO s40).bind fun x42=>
         (ES aA.cO none (some s40) none).bind fun l44=>
         (N6 ([]) l44).bind fun l46=>
         (ES aA.cO (some (ar .add .i64 s40 1)) none none).bind fun l47=>
         (N6 l46 l47).bind fun l49=>
         (Ca N x42).bind fun r50=>
         if cmp .neq r50.2.2 0=true then
          some (.inl (ar .add .i64 s40 1))
         else
          (Z9 N r50.1).bind fun r51=>
          if cmp .neq r51 0=true then
           some (.inl (ar .add .i64 s40 1))
          else
           (DW N N r50.1 x42).bind fun r52=>
           if nt r52=true then
            some (.inl (ar .add .i64 s40 1))
           else
            (F2 N x42 aF).bind fun r53=>
            if Ar.or (nt r53.2) (cmp .eql (Ar.len l49) 0)=true then
             some (.inr (.inr ()))
            else
             (E5 N r53.1 (fun y1=>J5 N y1 r3.1)).bind fun r54=>
             if r54=true then
              some (.inr (.inr ()))
             else
              some (.inl (ar .add .i64 s40 1))
        else
         some (.inr (.inl ()))
        :Option ((Int) ⊕ (Unit ⊕ Unit))))
      N 0).bind fun s41=>
     match s41 with
     | .inl y55=>
      (E4 N).bind fun r56=>
      some r56
     | .inr y57=>
      some false
end Go.Ab
namespace Go.Ab
open Go.RowKit Go.Proofs Go.Proofs.Tryz H6
variable [Ar][H6]
set_option maxRecDepth 100000
theorem c17 (N aA aF r)(h:Ag N aA aF=some r):B3 prog 17 [(B6 aA),sr eAr6 aF] (.bool r):=by
 unfold Ag at h
 refine I8 cf0 func17 call17 ntmps17 ?_;intro E H0 K hE hK hO;cbv;refine A4 hE h (c12 N aA aF) (.refl _) fun r1 h=>?_;cbv;refine A8 hE h (fun _ h=>?_) fun _ h=>?_
 ·cbv;refine A4 hE h (c70 N aA aF) (.refl _) fun r2 h=>?_;cbv;cases h;exact hK hO (.refl _)
 cbv;cases h;exact hK hO (.refl _)
theorem c83 (N:Nat) (aG:List D1) (aU:V) (aT:D1→Option Bool) (bC:∀y1 q,aT y1=some q→Q7 prog aU [(BE y1)] (.bool q)) (r:Int) (h:M0 N aG aT=some r):B3 prog 83 [sr eAr5 aG,aU] (vi r):=by
 unfold M0 at h
 refine I8 cf0 func83 call83 ntmps83 ?_;intro E H0 K hE hK hO;cbv;refine D4 hE ?_;cbv;obtain⟨s2,hx,h⟩:=bind_some h;refine E3 cf0 hE M4 (fun s1=>[(0,.v (sr eAr5 aG)),(1,.v (aU)),fi 7 (Ar.len aG),fi 8 s1]) (fun s1 H1=>B8 Eq H0 [] H1) (fun x e l H1=>match(generalizing:=false) x with| .inl y=>e= .exit 0∧l=[]∧B8 Eq H0 [] H1| .inr y=>e= .ret∧l=[fi 4 y]∧B8 Eq H0 [] H1) (by kernel_rfl) ?_ hx ?_ hO ?_
 ·intro s1 H o hO h;clear hx;cbv;refine A8 hE h (fun _ h=>?_) fun _ h=>?_
  ·cbv;refine B9 hE eAs4 h fun x3 h=>?_;cbv;refine Y5 hE (g:=fun r4=>.bool r4) h (fun r4 hx=>bC x3 r4 hx) (.refl _) fun r4 h=>?_;cbv;refine A8 hE h (fun _ h=>?_) fun _ h=>?_
   ·cbv;cases h;exact⟨_,_,rfl,⟨rfl,rfl,hO⟩,.e rfl .z,rfl⟩
   cbv;cases h;exact⟨_,rfl,.e4 .z,rfl,hO⟩
  cbv;cases h;exact⟨_,_,rfl,⟨rfl,rfl,hO⟩,.z,rfl⟩
 ·exact .e4 .z
 clear hx
 rcases s2 with y5|y6
 ·rintro e l H ⟨rfl,rfl,hO⟩;cbv;cases h;exact hK hO (.refl _)
 rintro e l H ⟨rfl,rfl,hO⟩;cbv;cases h;exact hK hO (.refl _)
theorem c22 (N:Nat)(aG:List D1)(aU:V)(aT:D1→Option Bool)(bC:∀y1 q,aT y1=some q→Q7 prog aU [(BE y1)] (.bool q))(r:Bool)(h:E5 N aG aT=some r):B3 prog 22 [sr eAr5 aG,aU] (.bool r):=by
 unfold E5 at h
 refine I8 cf0 func22 call22 ntmps22 ?_;intro E H0 K hE hK hO;cbv;refine A4 hE h (c83 N aG aU aT bC) (.refl _) fun r1 h=>?_;cbv;cases h;exact hK hO (.refl _)
theorem c72 (N bE r)(h:Ap N bE=some r):B3 prog 72 [(BE bE)] (.bool r):=by
 unfold Ap at h
 refine I8 cf0 func72 call72 ntmps72 ?_;intro E H0 K hE hK hO;cbv;refine D4 hE ?_;cbv;cases h;exact hK hO (.refl _)
theorem c18 (N aA aF r)(h:F2 N aA aF=some r):B3 prog 18 [(B6 aA),sr eAr6 aF] (.tup [sr eAr5 r.1,.bool r.2]):=by
 unfold F2 at h
 refine I8 cf0 func18 call18 ntmps18 ?_;intro E H0 K hE hK hO;cbv;refine A4 hE h (c14 N aA aF) (.refl _) fun r1 h=>?_;cbv;refine A8 hE h (fun _ h=>?_) fun _ h=>?_
 ·cbv;refine A4 hE (g:=fun r2=>.bool r2) h (fun r2 hx=>c22 N r1.1 (.func (.func 72) [] []) (fun y1=>Ap N y1) (fun y1 r hx=>B3.value (F:=[]) (C:=[]) (c72 N y1 r hx)) r2 hx) (.refl _) fun r2 h=>?_;cbv;cases h;exact hK hO (.refl _)
 cbv;cases h;exact hK hO (.refl _)
def cf24 :Cf:=⟨[],[(4,5)],[],[],[],[]⟩
theorem c24 (N aF bE r) (h:GL N aF bE=some r):B3 prog 24 [sr eAr5 aF,(BE bE)] (.bool r):=by
 unfold GL at h
 refine I8 cf24 func24 call24 ntmps24 ?_;intro E H0 K hE hK hO;cbv;obtain⟨s2,hx,h⟩:=bind_some h;refine E3 cf24 hE M4 (fun s1=>[(0,.v (sr eAr5 aF)),(3,.v (.eref (DG bE) 0)),fi 5 s1]) (fun s1 H1=>B8 Eq H0 [] H1) (fun x e l H1=>match(generalizing:=false) x with| .inl y=>e= .exit 0∧l=[]∧B8 Eq H0 [] H1| .inr y=>e= .ret∧l=[(4,.b true)]∧B8 Eq H0 [] H1) (by kernel_rfl) ?_ hx ?_ hO ?_
 ·intro s1 H o hO h;clear hx;cbv;refine D4 hE ?_;cbv;refine A8 hE h (fun _ h=>?_) fun _ h=>?_
  ·cbv;refine B9 hE eAs4 h fun x3 h=>?_;cbv;refine A4 hE h (c33 N x3 bE) (.refl _) fun r4 h=>?_;cbv;refine A8 hE h (fun _ h=>?_) fun _ h=>?_
   ·cbv;cases h;exact⟨_,_,rfl,⟨rfl,rfl,hO⟩,.b rfl (.z),rfl⟩
   cbv;cases h;exact⟨_,rfl,.e rfl (.e2 .z),rfl,hO⟩
  cbv;cases h;exact⟨_,_,rfl,⟨rfl,rfl,hO⟩,.z,rfl⟩
 ·exact .e rfl (.e2 .z)
 clear hx
 rcases s2 with y5|y6
 ·rintro e l H ⟨rfl,rfl,hO⟩;cbv;cases h;exact hK hO (.refl _)
 rintro e l H ⟨rfl,rfl,hO⟩;cbv;cases h;exact hK hO (.refl _)
theorem c23 (N bE aH r)(h:J5 N bE aH=some r):B3 prog 23 [(BE bE),.eref [sr eAr5 aH] 0] (.bool r):=by
 unfold J5 at h
 refine I8 cf0 func23 call23 ntmps23 ?_;intro E H0 K hE hK hO;cbv;refine A4 hE h (c24 N aH bE) (.refl _) fun r1 h=>?_;cbv;cases h;exact hK hO (.refl _)
end Go.Ab
