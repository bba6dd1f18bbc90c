/- GTSt GTKt AbG1 AbI1 AbM1 AbG2 AbG3 GTBk GTM1 GTM2 GTM3 GTM4 GTM5 GTM6 GTM7 -/
import Derived.Test.YtanbgjgaafeplaaGreatDoorC15
import Derived.Deep.Slices
import Derived.Carry
import Derived.Lib.LaidTab
import Derived.Laws.Strings
set_option linter.all false
namespace Go.Ab
variable [Ar]
def N0 (N:Nat) (aG:List A4) (aX:A4→Option Bool):Option Int:=
 (loopN
  (fun(s1:Int)=>
   (
    if Ar.cmp .lss s1 (Ar.len aG)=true then
     (B6 aG s1).bind fun x3=>
     (aX x3).bind fun r4=>
     if r4=true then
      some (.inr (.inr s1))
     else
      some (.inl (Ar.ar .add .i64 s1 1))
    else
     some (.inr (.inl ()))
    :Option ((Int) ⊕ (Unit ⊕ Int))))
  N 0).bind fun s2=>
 match s2 with
 | .inl y5=>
  some (-1)
 | .inr y6=>
  some y6
def I1 (N:Nat)(aG:List A4)(aX:A4→Option Bool):Option Bool:=
 (N0 N aG aX).bind fun r1=>
 some (Ar.cmp .geq r1 0)
def W6 (N:Nat)(aO:A4)(aJ:X5):Option Bool:=
 (AK N aO).bind fun r1=>
 some (Ar.an (Ar.cmp .eql r1.Time aJ.Time) (Ar.an (Ar.cmp .eql r1.Source aJ.Source) (Ar.an (Ar.cmp .eql r1.Seq aJ.Seq) true)))
def J0 (N:Nat) (aG:List C4) (bY:C4→Option Bool):Option (List C4):=
 (J3 N aG bY).bind fun r1=>
 if Ar.cmp .eql r1 (-1)=true then
  some aG
 else
  (loopN
   (fun(s2:Int×Int×(List C4))=>
    (
     if Ar.cmp .lss s2.2.1 (Ar.len s2.2.2)=true then
      (Rk (SO s2.2.2 s2.2.1)).bind fun _=>
      (B6 s2.2.2 s2.2.1).bind fun x5=>
      (bY x5).bind fun r6=>
      if Ar.nt r6=true then
       (Rk (SO s2.2.2 s2.1)).bind fun _=>
       (Gm s2.2.2 s2.1 (fun x7:C4=>x5)).bind fun l8=>
       some (.inl (Ar.ar .add .i64 s2.1 1,Ar.ar .add .i64 s2.2.1 1,l8))
      else
       some (.inl (s2.1,Ar.ar .add .i64 s2.2.1 1,s2.2.2))
     else
      some (.inr (s2.1,s2.2.2))
     :Option ((Int×Int×(List C4)) ⊕ ((Int×(List C4))))))
   N (r1,Ar.ar .add .i64 r1 1,aG)).bind fun s4=>
  (J5 s4.2 (some s4.1) none none).bind fun l11=>
  (J5 s4.2 none (some s4.1) none).bind fun l13=>
  some l13
def Q8 (N:Nat)(cB:C4)(aJ:X5):Option Bool:=
 (B6 cB.cT (Ar.ar .sub .i64 (Ar.len cB.cT) 1)).bind fun x1=>
 some (Ar.nt (Ar.an (Ar.cmp .eql x1.Ref.Time aJ.Time) (Ar.an (Ar.cmp .eql x1.Ref.Source aJ.Source) (Ar.an (Ar.cmp .eql x1.Ref.Seq aJ.Seq) true))))
def U1 (N :Nat) (aA:A0) (aC:List A4):Option ((List C4)×Int):=
 (AJ N aA).bind fun r2=>
 if Ar.cmp .neq r2 0=true then
  some (([]:List C4),r2)
 else
  (Bq N aC).bind fun r4=>
  if Ar.cmp .neq r4 0=true then
   some (([]:List C4),r4)
  else
   (C8 N N (⟨aC,false⟩:B3) aA ([]) 0).bind fun r6=>
   (loopN
    (fun (s8:Int×(List C4))=>
     (
      if Ar.cmp .lss s8.1 (Ar.len r6)=true then
       (B6 r6 s8.1).bind fun x11=>
       (loopN
        (fun(s13:Int×C4)=>
         (
          if Ar.cmp .lss s13.1 (Ar.len x11)=true then
           (B6 x11 s13.1).bind fun x16=>
           (B6 aC x16.at_).bind fun x17=>
           (AK N x17).bind fun r18=>
           (H9 s13.2.cT ([(⟨x16.cX,r18⟩:D6)])).bind fun l20=>
           some (.inl (Ar.ar .add .i64 s13.1 1,{s13.2 with cT:=l20}))
          else
           some (.inr s13.2)
          :Option ((Int×C4) ⊕ (C4))))
        N (0,(⟨[]⟩:C4))).bind fun s15=>
       (H9 s8.2 ([s15])).bind fun l23=>
       some (.inl (Ar.ar .add .i64 s8.1 1,l23))
      else
       some (.inr s8.2)
      :Option ((Int×(List C4)) ⊕ (((List C4))))))
    N (0,([]:List C4))).bind fun s10=>
   (GQ (fun y1 y2=>Z1 N y1 y2) s10).bind fun l25=>
   some (l25,0)
def W1 (N:Nat) (aA:A0) (aC:List A4) (aY:X5):Option ((List C4)×Int):=
 (U1 N aA aC).bind fun l1=>
 if Ar.cmp .neq l1.2 0=true then
  some ([],l1.2)
 else
  (I1 N aC (fun y1=>W6 N y1 aY)).bind fun r3=>
  if Ar.nt r3=true then
   some ([],6)
  else
   (J0 N l1.1 (fun y1=>Q8 N y1 aY)).bind fun l4=>
   some (l4,0)
def Bs (N:Nat) (aA:A0) (aC:List A4) (aY:X5):Option ((List C4)×Int):=
 (Be N aA aC).bind fun r1=>
 if Ar.cmp .neq r1 0=true then
  some ([],r1)
 else
  (loopN
   (fun(s2:Bool×Int)=>
    (
     if Ar.cmp .lss s2.2 (Ar.len aC)=true then
      if s2.1=true then
       some (.inl (true,Ar.ar .add .i64 s2.2 1))
      else
       (B6 aC s2.2).bind fun x4=>
       (Bu N x4).bind fun r5=>
       some (.inl (Ar.an (Ar.cmp .eql r5.Time aY.Time) (Ar.an (Ar.cmp .eql r5.Source aY.Source) (Ar.an (Ar.cmp .eql r5.Seq aY.Seq) true)),Ar.ar .add .i64 s2.2 1))
     else
      some (.inr s2.1)
     :Option ((Bool×Int) ⊕ (Bool))))
   N (false,0)).bind fun s3=>
  if Ar.nt s3=true then
   some ([],6)
  else
   (Bt N aA aC).bind fun r6=>
   (loopN
    (fun(s7:(List C4)×Int)=>
     (
      if Ar.cmp .lss s7.2 (Ar.len r6)=true then
       (B6 r6 s7.2).bind fun x10=>
       (B6 x10.cT (Ar.ar .sub .i64 (Ar.len x10.cT) 1)).bind fun x11=>
       if Ar.an (Ar.cmp .eql x11.Ref.Time aY.Time) (Ar.an (Ar.cmp .eql x11.Ref.Source aY.Source) (Ar.an (Ar.cmp .eql x11.Ref.Seq aY.Seq) true))=true then
        (B6 r6 s7.2).bind fun x12=>
        (H9 s7.1 ([x12])).bind fun l14=>
        some (.inl (l14,Ar.ar .add .i64 s7.2 1))
       else
        some (.inl (s7.1,Ar.ar .add .i64 s7.2 1))
      else
       some (.inr s7.1)
      :Option (((List C4)×Int) ⊕ (((List C4))))))
    N ([],0)).bind fun s9=>
   some (s9,0)
def X3 (N:Nat) (aA:A0) (aC:List A4) (aY:X5):Option Bool:=
 (Dv N aA aC).bind fun r1=>
 if Ar.nt r1=true then
  (Bk N).bind fun r2=>
  some r2
 else
  (AI N aA aC).bind fun r3=>
  (Az N aA aC).bind fun r4=>
  (Ay N aA aC).bind fun r5=>
  (W1 N aA aC aY).bind fun r6=>
  (Bs N aA aC aY).bind fun r7=>
  if Ar.or (Ar.or (Ar.or (Ar.cmp .neq r4.2 r3.2) (Ar.cmp .neq r5.2.2 r3.2)) (Ar.cmp .neq r4.1 (Ar.len r3.1))) (Ar.nt (Ar.beq r5.2.1 (Ar.cmp .gtr r4.1 0)))=true then
   some false
  else
   (Es N r6.1 r7.1).bind fun r8=>
   if Ar.or (Ar.nt r8) (Ar.cmp .neq r6.2 r7.2)=true then
    some false
   else
    if Ar.nt r5.2.1=true then
     if Ar.cmp .eql (Ar.len r5.1.cT) 0=true then
      (Bk N).bind fun r9=>
      some r9
     else
      some false
    else
     (B6 r3.1 0).bind fun x10=>
     (M0 N r5.1 x10).bind fun r11=>
     if Ar.cmp .eql r11 0=true then
      (Bk N).bind fun r12=>
      some r12
     else
      some false
end Go.Ab
namespace Go.Ab
open Go.RowKit Go.Proofs Go.Proofs.Tryz J2
variable [Ar][J2]
set_option maxRecDepth 100000
theorem c99 (N:Nat) (aG:List A4) (bE:V) (aX:A4→Option Bool) (bL:∀y1 q,aX y1=some q→T7 prog bE [(R3 y1)] (.bool q)) (r:Int) (h:N0 N aG aX=some r):B4 prog 99 [sr eAt5 aG,bE] (vi r):=by
 unfold N0 at h
 refine I6 cf0 func99 call99 ntmps99 ?_;intro E H0 K hE hK hO;cbv;refine D5 hE ?_;cbv;obtain⟨s2,hx,h⟩:=bind_some h;refine E7 cf0 hE L9 (fun s1=>[(0,.v (sr eAt5 aG)),(1,.v (bE)),fi 7 (Ar.len aG),fi 8 s1]) (fun s1 H1=>C0 Eq H0 [] H1) (fun x e l H1=>match(generalizing:=false) x with| .inl y=>e= .exit 0∧l=[]∧C0 Eq H0 [] H1| .inr y=>e= .ret∧l=[fi 4 y]∧C0 Eq H0 [] H1) (by kernel_rfl) ?_ hx ?_ hO ?_
 ·intro s1 H o hO h;clear hx;cbv;refine A7 hE h (fun _ h=>?_) fun _ h=>?_
  ·cbv;refine B8 hE eAu2 h fun x3 h=>?_;cbv;refine Z5 hE (g:=fun r4=>.bool r4) h (fun r4 hx=>bL x3 r4 hx) (.refl _) fun r4 h=>?_;cbv;refine A7 hE h (fun _ h=>?_) fun _ h=>?_
   ·cbv;cases h;exact⟨_,_,rfl,⟨rfl,rfl,hO⟩,.e rfl .z,rfl⟩
   cbv;cases h;exact⟨_,rfl,.e4 .z,rfl,hO⟩
  cbv;cases h;exact⟨_,_,rfl,⟨rfl,rfl,hO⟩,.z,rfl⟩
 ·exact .e4 .z
 clear hx
 rcases s2 with y5|y6
 ·rintro e l H ⟨rfl,rfl,hO⟩;cbv;cases h;exact hK hO (.refl _)
 rintro e l H ⟨rfl,rfl,hO⟩;cbv;cases h;exact hK hO (.refl _)
theorem c43 (N:Nat)(aG:List A4)(bE:V)(aX:A4→Option Bool)(bL:∀y1 q,aX y1=some q→T7 prog bE [(R3 y1)] (.bool q))(r:Bool)(h:I1 N aG aX=some r):B4 prog 43 [sr eAt5 aG,bE] (.bool r):=by
 unfold I1 at h
 refine I6 cf0 func43 call43 ntmps43 ?_;intro E H0 K hE hK hO;cbv;refine A5 hE h (c99 N aG bE aX bL) (.refl _) fun r1 h=>?_;cbv;cases h;exact hK hO (.refl _)
def cf95 :Cf:=⟨[],[(1,3)],[],[],[],[]⟩
theorem c95 (N aO aJ r)(h:W6 N aO aJ=some r):B4 prog 95 [(R3 aO),.eref (IL aJ) 0] (.bool r):=by
 unfold W6 at h
 refine I6 cf95 func95 call95 ntmps95 ?_;intro E H0 K hE hK hO;cbv;refine D0 hE (g:=fun r1=>(DM r1)) h (c96 N aO) (.refl _) fun r1 h=>?_;cbv;cases h;exact hK hO (.refl _)
theorem c97 (N:Nat) (aG:List C4) (cF:V) (bY:C4→Option Bool) (cO:∀y1 q,bY y1=some q→T7 prog cF [(Cx y1)] (.bool q)) (r:(List C4)) (h:J0 N aG bY=some r):NG prog 97 [cF] 1 (Ar.lst eAt7 aG) (Ar.lst eAt7 r):=by
 unfold J0 at h
 intro H0 q0 hq0 hk0;refine Iv (T:=TT) (F:=upd H0 q0.id none) cf0 L9 func97 (by rfl) (by kernel_rfl) call97 ntmps97 (by rfl) (by rfl) ?_;intro E K hE hK hN;have hO:C0 Eq (upd H0 q0.id none) [ob q0 1 eAt7 aG] H0:=C0.startO hk0;have hq0:Cu q0 (Ar.len aG):=LU hq0;cbv;refine UX hE (g:=fun r1=>vi r1) h (c83 N aG cF bY cO) (fun _=>.int _ _) (YK hE hO hq0 0 rfl (.le (.refl _) (.nil))) fun r1 h=>?_;cbv;refine A7 hE h (fun _ h=>?_) fun _ h=>?_
 ·cbv;cases h;exact hK q0 _ _ (BZ hE hq0) (hO)
 cbv;obtain⟨s4,hx,h⟩:=bind_some h;refine K6 cf0 hE L9 (γ:=OG) (fun s2 g=>[(0,.v (.own g.id g.lo g.n)),(1,.v (cF)),fi 5 s2.1,fi 6 s2.2.1]) (fun s2 g H1=>Cu g (Ar.len s2.2.2)∧C0 Eq (upd H0 q0.id none) [ob g 1 eAt7 s2.2.2] H1) (fun x e l H1=>∃u1:OG,Cu u1 (Ar.len x.2)∧e= .exit 0∧l=[(0,.v (.own u1.id u1.lo u1.n)),fi 5 x.1]∧C0 Eq (upd H0 q0.id none) [ob u1 1 eAt7 x.2] H1) (by kernel_rfl) ?_ q0 hx ?_ ?_ ?_
 ·rintro s2 q3 H o ⟨hq3,hO⟩ h;clear hx;cbv;refine Yu hE hq3 ?_;cbv;refine A7 hE h (fun _ h=>?_) fun _ h=>?_
  ·cbv;refine PF hE hO hq3 0 rfl h fun h=>?_;cbv;refine PE hE eAu7 hO hq3 0 rfl h fun x5 h=>?_;cbv;refine Z5 hE (g:=fun r6=>.bool r6) h (fun r6 hx=>cO x5 r6 hx) (.refl _) fun r6 h=>?_;cbv;refine A7 hE h (fun _ h=>?_) fun _ h=>?_
   ·cbv;refine PF hE hO hq3 0 rfl h fun h=>?_;cbv;refine RM hE (f:=eAt7) (esz:=1) (tz:=1) (off:=0) (u:=(fun x7:C4=>x5)) (fun _=>⟨_,.eq (eAu7 _) (.refl _),(by rw[eAu7];rfl),AH _,rfl⟩) (by decide) hO hq3 0 rfl h fun l8 H hq3 h hO=>?_;cbv;cases h;exact⟨_,q3,rfl,.e4 .z,rfl,hq3,hO⟩
   cbv;cases h;exact⟨_,q3,rfl,.e4 .z,rfl,hq3,hO⟩
  cbv;cases h;exact⟨_,_,rfl,⟨q3,hq3,rfl,rfl,hO⟩,.e2 .z,rfl⟩
 ·exact .e4 .z
 ·exact⟨hq0,hO⟩
 clear hx;rintro e l H ⟨q9,hq9,rfl,rfl,hO⟩;cbv;refine WA hE hO hq9 0 rfl h fun l11 q10 hq10 h=>?_;cbv;refine WB (f:=eAt7) hE hO hq9 0 rfl hq10 h fun l13 q12 H hxq12 hq12 hO h=>?_;cbv;refine Wy (f:=eAt7) hE hO hq12 0 rfl hxq12 ?_;cbv;cases h;exact hK q12 _ _ (BZ hE hq12) (hO)
def cf98 :Cf:=⟨[],[(1,10)],[],[],[],[]⟩
theorem c98 (N cB aJ r)(h:Q8 N cB aJ=some r):B4 prog 98 [(Cx cB),.eref (IL aJ) 0] (.bool r):=by
 unfold Q8 at h
 refine I6 cf98 func98 call98 ntmps98 ?_;intro E H0 K hE hK hO;cbv;refine D5 hE ?_;cbv;refine B8 hE eAv2 h fun x1 h=>?_;cbv;cases h;exact hK hO (.refl _)
def cfo69 :Cf:=⟨[13,6000004,6000010],[(19,12)],[],[],[],[]⟩
theorem o69 (N aA aC r) (h:U1 N aA aC=some r):Aj2 prog 69 [(C3 aA),sr eAt5 aC] 1 (Ar.lst eAt7 r.1) (fun o=>.tup [o,vi r.2]):=by
 unfold U1 at h
 intro H0;refine Un (T:=TT) (F:=H0) (mk:=fun o=>.tup [o,vi r.2]) (Dj.tup [.bad,vi r.2] 0 (by simp)) cfo69 L9 func69 (by rfl) (by kernel_rfl) call69 ntmps69 (by rfl) (by rfl) ?_;intro E K hE hK hN;have hO:C0 Eq H0 [] H0:=.start E9 rfl;cbv;refine Jh hE (f:=eAt7) hO fun q1 H hq1 hO=>?_;cbv;refine A5 hE h (c49 N aA) (.refl _) fun r2 h=>?_;cbv;refine A7 hE h (fun hc h=>?_) (fun hc h=>?_)
 ·cbv;refine Jh hE (f:=eAt7) hO fun q3 H hq3 hO=>?_;cbv;cases h;exact hK q3 _ 0 _ _ (BZ hE hq3) rfl hO (.tup (.refl _))
 cbv;refine A5 hE h (c126 N aC) (.refl _) fun r4 h=>?_;cbv;refine A7 hE h (fun hc h=>?_) (fun hc h=>?_)
 ·cbv;refine Jh hE (f:=eAt7) hO fun q5 H hq5 hO=>?_;cbv;cases h;exact hK q5 _ 0 _ _ (BZ hE hq5) rfl hO (.tup (.refl _))
 cbv;refine A5 hE h (c127 N N (⟨aC,false⟩:B3) aA ([]) 0) (.cons (.refl _) (.cons (.refl _) (.cons (.lit _ (E2)) (.refl _)))) fun r6 h=>?_;cbv;refine Ai0 hE (fun hc=>by cases hc) (fun hc=>?_);cbv;refine Jh hE (f:=eAt7) hO fun q7 H hq7 hO=>?_;cbv;refine D5 hE ?_;cbv;obtain⟨s10,hx,h⟩:=bind_some h;refine K6 cfo69 hE L9 (γ:=OG) (fun s8 g=>[(1,.v (sr eAt5 aC)),(10,.v (.own g.id g.lo g.n)),(36,.v (sr eAu3 r6)),fi 37 (Ar.len r6),fi 38 s8.1]) (fun s8 g H1=>Cu g (Ar.len s8.2)∧C0 Eq H0 [ob g 1 eAt7 s8.2,ob q1 1 eAt7 ([]:List C4)] H1) (fun x e l H1=>∃u1:OG,Cu u1 (Ar.len x)∧e= .exit 0∧l=[(10,.v (.own u1.id u1.lo u1.n))]∧C0 Eq H0 [ob u1 1 eAt7 x,ob q1 1 eAt7 ([]:List C4)] H1) (by kernel_rfl) ?_ q7 hx ?_ ?_ ?_
 ·rintro s8 q9 H o ⟨hq9,hO⟩ h;clear hx;cbv;refine A7 hE h (fun hc h=>?_) (fun hc h=>?_)
  ·cbv;refine B8 hE eAv3 h fun x11 h=>?_;cbv;refine C7 hE hO fun b12 H hO=>?_;cbv;refine D5 hE ?_;cbv;replace hO:=hO.cast (L':=[cb b12 [.sl (Ar.lst eAu6 ([])) .nil],ob q9 1 eAt7 s8.2,ob q1 1 eAt7 ([]:List C4)]) (by simp only[ob,cb,sr,←E2]<;>rfl);replace hO:=hO.tl0 (t:=.nil) rfl;obtain⟨s15,hx,h⟩:=bind_some h;refine K6 cfo69 hE L9 (γ:=D1) (fun s13 g=>[(1,.v (sr eAt5 aC)),(10,.v (.own q9.id q9.lo q9.n)),(13,.v (.ref b12 0)),(36,.v (sr eAu3 r6)),fi 37 (Ar.len r6),fi 38 s8.1,(42,.v (sr eAt4 x11)),fi 43 (Ar.len x11),fi 44 s13.1]) (fun s13 g H1=>K4 g∧C0 Eq H0 [.tl g,cb b12 [.sl (Ar.lst eAu6 s13.2.cT) g],ob q9 1 eAt7 s8.2,ob q1 1 eAt7 ([]:List C4)] H1) (fun x e l H1=>∃u1:D1,K4 u1∧e= .exit 2∧l=[(1,.v (sr eAt5 aC)),(10,.v (.own q9.id q9.lo q9.n)),(13,.v (.ref b12 0)),(36,.v (sr eAu3 r6)),fi 37 (Ar.len r6),fi 38 s8.1]∧C0 Eq H0 [.tl u1,cb b12 [.sl (Ar.lst eAu6 x.cT) u1],ob q9 1 eAt7 s8.2,ob q1 1 eAt7 ([]:List C4)] H1) (by kernel_rfl) ?_ .nil hx ?_ ?_ ?_
   ·rintro s13 t14 H o ⟨ht14,hO⟩ h;clear hx;cbv;refine A7 hE h (fun hc h=>?_) (fun hc h=>?_)
    ·cbv;refine B8 hE eAv1 h fun x16 h=>?_;cbv;refine B2 hE hO 1 rfl ?_;cbv;refine B8 hE eAu2 h fun x17 h=>?_;cbv;refine D0 hE (g:=fun r18=>(DM r18)) h (c96 N x17) (.refl _) fun r18 h=>?_;cbv;refine As (f:=eAu6) hE Hk (by decide) hO 0 rfl ht14 (l:=s13.2.cT) (m:=[(⟨x16.cX,r18⟩:D6)]) (.refl _) (.lstc (.eq (eAv2 (⟨x16.cX,r18⟩:D6)) (.refl _)) (.lst0)) h fun l20 t19 H hO ht19 h=>?_;cbv;refine A9 hE hO 1 rfl rfl fun H hO=>?_;cbv;cases h;exact⟨_,t19,rfl,.e rfl (.e4 (.e4 .z)),rfl,ht19,hO⟩
    cbv;cases h;exact⟨_,_,rfl,⟨t14,ht14,rfl,rfl,hO⟩,.e2 (.e4 .z),rfl⟩
   ·exact .e rfl (.e4 (.e4 .z))
   ·exact⟨trivial,hO⟩
   clear hx;rintro e l H ⟨t21,ht21,rfl,rfl,hO⟩;cbv;refine B2 hE hO 1 rfl ?_;cbv;refine FB (f:=eAt7) hE AH (by decide) hO hq9 2 rfl (m:=[s15]) (Gq (f:=eAt7) hE AH (.lstc (.eq (eAu7 s15) (.agg (.cons (.ro _ _) (.refl _)))) (.lst0))) h fun l23 q22 H hq22 hO h=>?_;cbv;cases h;exact⟨_,q22,rfl,.e rfl (.e4 .z),rfl,hq22,hO.tail.tail⟩
  cbv;cases h;exact⟨_,_,rfl,⟨q9,hq9,rfl,rfl,hO⟩,.e rfl .z,rfl⟩
 ·exact .e rfl (.e4 .z)
 ·exact⟨hq7,hO⟩
 clear hx;rintro e l H ⟨q24,hq24,rfl,rfl,hO⟩;cbv;refine MW hE hO hq24 0 rfl h (fun l25 hx=>c128 (g:=102) (C:=[]) call102 (fun y1 y2 r hx=>c102 N y1 y2 r hx) hx) fun l25 H hq24 hO h=>?_;cbv;cases h;exact hK q24 _ 0 _ _ (BZ hE hq24) rfl hO (.tup (.refl _))
theorem c41 (N aA aC aY r)(h:W1 N aA aC aY=some r):B4 prog 41 [(C3 aA),sr eAt5 aC,(DM aY)] (.tup [sr eAt7 r.1,vi r.2]):=by
 unfold W1 at h
 refine NB (T:=TT) cf0 L9 func41 (by rfl) (by kernel_rfl) call41 ntmps41 (by rfl) (by rfl) ?_;intro E H0 K hE hK hF;have hO:C0 Eq H0 [] H0:=.start E9 rfl;cbv;refine Ac4 hE (f:=eAt7) (g:=fun l1=>l1.1) (mk:=fun l1 o=>.tup [o,vi l1.2]) h (o69 N aA aC) (.refl _) hO fun l1 q2 H hq2 hO h=>?_;cbv;refine A7 hE h (fun _ h=>?_) fun _ h=>?_
 ·cbv;cases h;exact hK _ _ _ hO (.tup (.cons (.lit _ (E2)) (.refl _)))
 cbv;refine A5 hE (g:=fun r3=>.bool r3) h (fun r3 hx=>c43 N aC (.func (.func 95) [] [.eref (IL aY) 0]) (fun y1=>W6 N y1 aY) (fun y1 r hx=>B4.value (F:=[]) (C:=[.eref (IL aY) 0]) (c95 N y1 aY r hx)) r3 hx) (.refl _) fun r3 h=>?_;cbv;refine A7 hE h (fun _ h=>?_) fun _ h=>?_
 ·cbv;cases h;exact hK _ _ _ hO (.tup (.cons (.lit _ (E2)) (.refl _)))
 cbv;refine FT hE (f:=eAt7) hO hq2 0 rfl h (fun l4 hx=>c97 N l1.1 (.func (.func 98) [] [.eref (IL aY) 0]) (fun y1=>Q8 N y1 aY) (fun y1 r hx=>B4.value (F:=[]) (C:=[.eref (IL aY) 0]) (c98 N y1 aY r hx)) l4 hx) (.refl _) fun l4 q5 H hq5 hO h=>?_;cbv;cases h;exact hF _ (Dj.tup [.bad,vi 0] 0 (by simp)) q5 _ _ 0 _ _ hO rfl (BZ hE hq5) (.tup (.refl _))
def cf42 :Cf:=⟨[],[(8,8),(17,8)],[],[],[],[]⟩
theorem c42 (N aA aC aY r) (h:Bs N aA aC aY=some r):B4 prog 42 [(C3 aA),sr eAt5 aC,(DM aY)] (.tup [sr eAt7 r.1,vi r.2]):=by
 unfold Bs at h
 refine I6 cf42 func42 call42 ntmps42 ?_;intro E H0 K hE hK hO;cbv;refine A5 hE h (c70 N aA aC) (.refl _) fun r1 h=>?_;cbv;refine A7 hE h (fun _ h=>?_) fun _ h=>?_
 ·cbv;cases h;exact hK hO (.tup (.cons (.lit _ (E2)) (.refl _)))
 cbv;obtain⟨s3,hx,h⟩:=bind_some h;refine E7 cf42 hE L9 (fun s2=>[(1,.v (sr eAt5 aC)),(3,.v (.eref (D3 aA) 0)),(5,.v (.eref (IL aY) 0)),(9,.v (.bool s2.1)),fi 10 s2.2]) (fun s2 H1=>C0 Eq H0 [] H1) (fun x e l H1=>e= .exit 0∧l=[(1,.v (sr eAt5 aC)),(3,.v (.eref (D3 aA) 0)),(5,.v (.eref (IL aY) 0)),(9,.v (.bool x))]∧C0 Eq H0 [] H1) (by kernel_rfl) ?_ hx ?_ hO ?_
 ·intro s2 H o hO h;clear hx;cbv;refine D5 hE ?_;cbv;refine A7 hE h (fun _ h=>?_) fun _ h=>?_
  ·cbv;refine A7 hE h (fun _ h=>?_) fun _ h=>?_
   ·cbv;cases h;exact⟨_,rfl,.e rfl (.e4 .z),rfl,hO⟩
   cbv;refine B8 hE eAu2 h fun x4 h=>?_;cbv;refine D0 hE (g:=fun r5=>(DM r5)) h (c27 N x4) (.refl _) fun r5 h=>?_;cbv;cases h;exact⟨_,rfl,.e rfl (.e4 .z),rfl,hO⟩
  cbv;cases h;exact⟨_,_,rfl,⟨rfl,rfl,hO⟩,.e4 .z,rfl⟩
 ·exact .e rfl (.e4 .z)
 clear hx;rintro e l H ⟨rfl,rfl,hO⟩;cbv;refine A7 hE h (fun _ h=>?_) fun _ h=>?_
 ·cbv;cases h;exact hK hO (.tup (.cons (.lit _ (E2)) (.refl _)))
 cbv;refine A5 hE h (c71 N aA aC) (.refl _) fun r6 h=>?_;cbv;replace hO:=hO.tl0 (t:=.nil) rfl;obtain⟨s9,hx,h⟩:=bind_some h;refine K6 cf42 hE L9 (γ:=D1) (fun s7 g=>[(5,.v (.eref (IL aY) 0)),(11,.v (.sl (Ar.lst eAt7 s7.1) g)),(12,.v (sr eAt7 r6)),fi 13 s7.2]) (fun s7 g H1=>K4 g∧C0 Eq H0 [.tl g] H1) (fun x e l H1=>∃u1:D1,K4 u1∧e= .exit 2∧l=[(11,.v (.sl (Ar.lst eAt7 x) u1))]∧C0 Eq H0 [.tl u1] H1) (by kernel_rfl) ?_ .nil hx ?_ ?_ ?_
 ·rintro s7 t8 H o ⟨ht8,hO⟩ h;clear hx;cbv;refine D5 hE ?_;cbv;refine A7 hE h (fun _ h=>?_) fun _ h=>?_
  ·cbv;refine B8 hE eAu7 h fun x10 h=>?_;cbv;refine D5 hE ?_;cbv;refine B8 hE eAv2 h fun x11 h=>?_;cbv;refine A7 hE h (fun _ h=>?_) fun _ h=>?_
   ·cbv;refine B8 hE eAu7 h fun x12 h=>?_;cbv;refine As (f:=eAt7) hE AH (by decide) hO 0 rfl ht8 (l:=s7.1) (m:=[x12]) (.refl _) (.lstc (.eq (eAu7 x12) (.refl _)) (.lst0)) h fun l14 t13 H hO ht13 h=>?_;cbv;cases h;exact⟨_,t13,rfl,.e4 .z,rfl,ht13,hO⟩
   cbv;cases h;exact⟨_,t8,rfl,.e4 .z,rfl,ht8,hO⟩
  cbv;cases h;exact⟨_,_,rfl,⟨t8,ht8,rfl,rfl,hO⟩,.e rfl .z,rfl⟩
 ·exact .e rfl (.v (.slt _ (.lst0)) (.e rfl (.e rfl (.z))))
 ·exact⟨trivial,hO⟩
 clear hx;rintro e l H ⟨t15,ht15,rfl,rfl,hO⟩;cbv;cases h;exact hK hO (.tup (.cons (.ro _ _) (.refl _)))
def cf8 :Cf:=⟨[],[(12,4)],[],[],[],[]⟩
theorem c8 (N aA aC aY r) (h:X3 N aA aC aY=some r):B4 prog 8 [(C3 aA),sr eAt5 aC,(DM aY)] (.bool r):=by
 unfold X3 at h
 refine I6 cf8 func8 call8 ntmps8 ?_;intro E H0 K hE hK hO;cbv;refine A5 hE h (c12 N aA aC) (.refl _) fun r1 h=>?_;cbv;refine A7 hE h (fun _ h=>?_) fun _ h=>?_
 ·cbv;refine A5 hE h (c13 N) (.refl _) fun r2 h=>?_;cbv;cases h;exact hK hO (.refl _)
 cbv;refine A5 hE h (c15 N aA aC) (.refl _) fun r3 h=>?_;cbv;refine A5 hE h (c39 N aA aC) (.refl _) fun r4 h=>?_;cbv;refine A5 hE h (c40 N aA aC) (.refl _) fun r5 h=>?_;cbv;refine A5 hE h (c41 N aA aC aY) (.refl _) fun r6 h=>?_;cbv;refine A5 hE h (c42 N aA aC aY) (.refl _) fun r7 h=>?_;cbv;refine D5 hE ?_;cbv;refine A7 hE h (fun _ h=>?_) fun _ h=>?_
 ·cbv;cases h;exact hK hO (.refl _)
 cbv;refine A5 hE h (c16 N r6.1 r7.1) (.refl _) fun r8 h=>?_;cbv;refine A7 hE h (fun _ h=>?_) fun _ h=>?_
 ·cbv;cases h;exact hK hO (.refl _)
 cbv;refine A7 hE h (fun _ h=>?_) fun _ h=>?_
 ·cbv;refine D5 hE ?_;cbv;refine A7 hE h (fun _ h=>?_) fun _ h=>?_
  ·cbv;refine A5 hE h (c13 N) (.refl _) fun r9 h=>?_;cbv;cases h;exact hK hO (.refl _)
  cbv;cases h;exact hK hO (.refl _)
 cbv;refine B8 hE eAu7 h fun x10 h=>?_;cbv;refine A5 hE h (c33 N r5.1 x10) (.refl _) fun r11 h=>?_;cbv;refine A7 hE h (fun _ h=>?_) fun _ h=>?_
 ·cbv;refine A5 hE h (c13 N) (.refl _) fun r12 h=>?_;cbv;cases h;exact hK hO (.refl _)
 cbv;cases h;exact hK hO (.refl _)
end Go.Ab
namespace Go.Ab
open Go.RowKit Go.ChangeShapes Go.WideShapes
variable [I9]
def g0 (W:World):Gh:=⟨fun _=>none,fun _=>⟨0,0,0⟩,fun _=>none,fun b o=>∃v,W.cell? ⟨b,o,none⟩=some v,0,W.heap.size⟩
theorem rl0 {W:World}(hg:∀n,VR (g0 W) W (.pointer (some ⟨n,0,none⟩)) (I9.gl n)):Rl (g0 W) (fun _=>none) W:=
 ⟨fun id b h=>(by cases h),fun id id' b h=>(by simp[Gh.at]at h),fun b o h=>h,fun id _=>⟨rfl,rfl,rfl⟩,Nat.le_refl _,hg⟩
def DG (g:Gh)(w:World)(cs:List Value)(xs:List V):Prop:=
 cs.length=xs.length∧∀i,i<xs.length→(cs.getD i undef).oneCell'=true∧VR g w (cs.getD i undef) (xs.getD i .bad)
theorem DG.nil (g:Gh)(w:World):DG g w [] []:=⟨rfl,fun i hi=>by simp at hi⟩
theorem DG.one {g:Gh}{w:World}{v:Value}{x:V}(h1:v.oneCell'=true)(h:VR g w v x):DG g w [v] [x]:=by
 refine⟨rfl,fun i hi=>?_⟩
 have:i=0:=by simpa using hi
 subst this;exact⟨h1,h⟩
theorem DG.append {g:Gh} {w:World} {cs ds:List Value} {xs ys:List V} (h:DG g w cs xs) (k:DG g w ds ys):DG g w (cs++ds) (xs++ys):=by
 refine⟨by simp[h.1,k.1],fun i hi=>?_⟩;have hl:=h.1
 simp only[List.length_append]at hi
 by_cases hx:i<xs.length
 ·have e1:(cs++ds).getD i undef=cs.getD i undef:=by simp[List.getD,List.getElem?_append_left (show i<cs.length by omega)]
  have e2:(xs++ys).getD i .bad=xs.getD i .bad:=by simp[List.getD,List.getElem?_append_left hx]
  rw[e1,e2];exact h.2 i hx
 have e1:(cs++ds).getD i undef=ds.getD (i - xs.length) undef:=by simp[List.getD,List.getElem?_append_right (show cs.length≤i by omega),hl]
 have e2:(xs++ys).getD i .bad=ys.getD (i - xs.length) .bad:=by simp[List.getD,List.getElem?_append_right (show xs.length≤i by omega)]
 rw[e1,e2];exact k.2 _ (by omega)
theorem DG.join {g:Gh}{w:World}{cs:List Value}{xs ys:List V}{a n m:Nat}(h:DG g w ((cs.drop a).take n) xs)(k:DG g w ((cs.drop (a+n)).take m) ys):DG g w ((cs.drop a).take (n+m)) (xs++ys):=by
 have:=h.append k
 rwa[show(cs.drop (a+n))=(cs.drop a).drop n by rw[List.drop_drop],←List.take_add]at this
theorem DG.agg {g:Gh} {w:World} {cs:Array Value} {xs:List V} (h:DG g w cs.toList xs):VR g w (.agg cs) (.agg xs):=by
 refine .agg (by simpa using h.1) (fun i hi=>?_) fun i hi=>?_
 ·have:=(h.2 i hi).1
  simpa[List.getD,Array.getD_eq_getD_getElem?]using this
 have:=(h.2 i hi).2
 simpa[List.getD,Array.getD_eq_getD_getElem?]using this
section
variable {H α:Type}{enc:TypeId×Value→H}{P:Program}{W:World}{base:Nat}{spare:Nat→Bool}{held:Bool}{t e:TypeId}{n:Nat}
def Opens (enc:TypeId×Value→H)(P:Program)(W:World)(base:Nat)(spare:Nat→Bool)(held:Bool)(t:TypeId)(f:α→V)(R:α→DataW H→Prop)(n:Nat):Prop:=
 ∀cs x,DataW.trod enc P W base spare held n t cs=some x→∃a,DG (g0 W) W cs (f a).cells∧R a x.1
theorem KO {k:IntKind}(ht:P.underlying t=some (.int k)):Opens enc P W base spare held t (V.int k) (fun a d=>d= .lit (.int k a)) n:=by
 intro cs x h;obtain⟨a,rfl,rfl,_⟩:=DataW.trod_int ht h;exact⟨a,.one rfl (.int _ _),rfl⟩
theorem Gw (ht:P.underlying t=some .bool):Opens enc P W base spare held t V.bool (fun a d=>d= .lit (.bool a)) n:=by
 intro cs x h;obtain⟨a,rfl,rfl⟩:=DataW.trod_bool ht h;exact⟨a,.one rfl (.bool _),rfl⟩
theorem Ws (ht:P.underlying t=some .string):Opens enc P W base spare held t V.str (fun a d=>d= .lit (.string a.data.toList)∧a.size≤maxLen) n:=by
 intro cs x h;obtain⟨a,rfl,rfl,hl⟩:=DataW.trod_string ht h;exact⟨a,.one rfl (.str _),rfl,hl⟩
def RL (R:α→DataW H→Prop)(l:List α)(ds:List (DataW H)):Prop:=l.length=ds.length∧∀(i:Nat) a d,l[i]? =some a→ds[i]? =some d→R a d
def RS (R:α→DataW H→Prop)(l:List α)(d:DataW H):Prop:=l.length≤maxLen∧((d= .nil∧l=[])∨∃es sp,d= .slice es sp∧RL R l es)
theorem Fe {f:α→V} {R:α→DataW H→Prop} (ht:P.underlying t=some (.slice e)) (hc:0<P.cellsOf e) (he:Opens enc P W base spare held e f R n):
 Opens enc P W base spare held t (fun l:List α=>.sl (l.map f) .ro) (RS R) (n+1):=by
 intro cs x h
 rcases DataW.trod_slice ht h with⟨rfl,rfl⟩|⟨a,len,cap,elems,rest,n',hn,rfl,rfl,hb,hl,hm,hlen,hel,hsp,hns⟩
 ·exact⟨[],.one rfl (.sl0 rfl),Nat.zero_le _,.inl ⟨rfl,rfl⟩⟩
 have hn':n'=n:=by omega
 subst hn'
 rcases Nat.eq_zero_or_pos len with h0|h0
 ·subst h0;have:elems=[]:=List.length_eq_zero_iff.1 hlen;subst this;exact⟨[],.one rfl (.sle (.inl rfl)),Nat.zero_le _,.inr ⟨_,_,rfl,rfl,fun i a d hi=>by simp at hi⟩⟩
 have one:∀i,i<len→∃cs' y b,W.cells? base (a.add (i*P.cellsOf e)) (P.cellsOf e)=some cs'∧elems[i]? =some y∧DG (g0 W) W cs' (f b).cells∧R b y.1:=by
  intro i hi;have h1:=hel i hi
  have h2:elems[i]? =some (elems[i]'(by omega)):=by simp[hlen,hi]
  rw[h2]at h1
  obtain⟨cs',hcs,hy⟩:=Option.bind_eq_some_iff.1 h1;obtain⟨b,hr,hR⟩:=he cs' _ hy;exact⟨cs',_,b,hcs,h2,hr,hR⟩
 obtain⟨_,_,b0,_⟩:=one 0 h0
 haveI:Inhabited α:=⟨b0⟩
 obtain⟨A,hA⟩:=Deep.choose_lt (α:=α) (p:=fun i b=>∃cs' y,W.cells? base (a.add (i*P.cellsOf e)) (P.cellsOf e)=some cs'∧elems[i]? =some y∧DG (g0 W) W cs' (f b).cells∧R b y.1)
  (fun i hi=>let⟨cs',y,b,h1,h2,h3,h4⟩:=one i hi;⟨b,cs',y,h1,h2,h3,h4⟩)
 have hspot:a.spot=none:=by
  obtain⟨cs',y,h1,_,_,_⟩:=hA 0 h0;obtain⟨_,hcl,hcell⟩:=World.cells?_some h1;have h2:=hcell 0 hc
  have e0:(a.add (0*P.cellsOf e)).add 0=a:=by simp[Addr.add]
  rw[e0]at h2
  have h3:cs'[0]? =some (cs'[0]'(by omega)):=by simp[hcl,hc]
  rw[h3]at h2
  unfold World.cell? at h2
  split at h2
  ·split at h2
   ·cases h2
   rename_i hs;simpa using hs
  cases h2
 obtain⟨b,o,s⟩:=a
 simp only at hspot
 subst hspot
 let l:=(List.range len).map A
 have hll:l.length=len:=by simp[l]
 have hg:∀i,i<len→(l.map f).getD i .bad=f (A i):=fun i hi=>by simp[l,List.getD,hi]
 have cell:∀i j,i<len→j<P.cellsOf e→∃v,W.cell? ⟨b,o+i*P.cellsOf e+j,none⟩=some v∧v.oneCell'=true∧VR (g0 W) W v ((f (A i)).cells.getD j .bad):=by
  intro i j hi hj;obtain⟨cs',y,h1,_,hr,_⟩:=hA i hi;obtain⟨_,hcl,hcell⟩:=World.cells?_some h1;have h2:=hcell j hj
  rw[X2,X2]at h2
  have h3:cs'[j]? =some (cs'.getD j undef):=by simp[List.getD,hcl,hj]
  rw[h3]at h2
  have:=hr.2 j (by rw[←hr.1,hcl];exact hj);exact⟨_,h2,this.1,this.2⟩
 refine⟨l,.one rfl ?_,by omega,.inr ⟨_,_,rfl,by simp[hll,hlen],fun i a' d hi hd=>?_⟩⟩
 ·have hz:∀i,i<len→((l.map f).getD i .bad).cells.length=P.cellsOf e:=fun i hi=>by
   obtain⟨cs',y,h1,_,hr,_⟩:=hA i hi;obtain⟨_,hcl,_⟩:=World.cells?_some h1;rw[hg i hi,←hr.1,hcl]
  refine .sl (sz:=P.cellsOf e) (fun i j=>(W.cell? ⟨b,o+i*P.cellsOf e+j,none⟩).getD undef) (by simp[hll]) hl hz (fun i j hi hj=>?_) (fun i j hi hj=>?_) (fun i j hi hj=>?_) (fun i j hi hj=>?_) trivial
  ·obtain⟨v,h1,_⟩:=cell i j hi hj;exact⟨v,h1⟩
  ·obtain⟨v,h1,_⟩:=cell i j hi hj;rw[h1];rfl
  ·obtain⟨v,h1,h2,_⟩:=cell i j hi hj;rw[h1];exact h2
  obtain⟨v,h1,h2,h3⟩:=cell i j hi hj;rw[h1,hg i hi];exact h3
 have hi':i<len:=by
  rcases Nat.lt_or_ge i l.length with h|h
  ·omega
  rw[List.getElem?_eq_none h]at hi;cases hi
 obtain⟨cs',y,h1,h2,h3,h4⟩:=hA i hi'
 have e1:a'=A i:=by simp[l,hi']at hi;exact hi.symm
 have e2:d=y.1:=by simp[h2]at hd;exact hd.symm
 rw[e1,e2];exact h4
theorem Ub {fs:Array Field} {xs:List (DataW H×List MemPlace)} {cs:List Value} {n:Nat} (hl:xs.length=fs.size)
 (hf:∀(i:Nat) (f:Field),fs[i]? =some f→DataW.trod enc P W base spare held n f.type ((cs.drop f.offset).take (P.cellsOf f.type))=xs[i]?) (i:Nat) {f:Field} (h:fs[i]? =some f):
 ∃y,xs[i]? =some y∧DataW.trod enc P W base spare held n f.type ((cs.drop f.offset).take (P.cellsOf f.type))=some y:=by
 have hi:i<fs.size:=by
  rcases Nat.lt_or_ge i fs.size with h'|h'
  ·exact h'
  rw[Array.getElem?_eq_none h']at h;cases h
 have h1:xs[i]? =some (xs[i]'(by omega)):=by simp[hl,hi]
 exact⟨_,h1,by rw[hf i f h,h1]⟩
end
end Go.Ab
namespace Go.Ab
noncomputable instance arInst :Ar where
 cmp:=LK
 cmp_eq:=fun _ _ _=>rfl
 ar:=arI
 ar_eq:=fun _ _ _ _=>rfl
 sh:=shI
 sh_eq:=fun _ _ _ _=>rfl
 neg:=fun k n=>k.wrap (0 - n)
 neg_eq:=fun _ _=>rfl
 wr:=fun k n=>k.wrap n
 wr_eq:=fun _ _=>rfl
 scmp:=An2
 scmp_eq:=fun _ _ _=>rfl
 cat:=fun a b=>a++b
 cat_eq:=fun _ _=>rfl
 slen:=fun s=>s.size
 slen_eq:=fun _=>rfl
 sat:=fun s i=>match s[i.toNat]? with|some b=>(b.toNat:Int)|none=>0
 sat_eq:=fun _ _=>rfl
 beq:=fun a b=>a==b
 beq_eq:=fun _ _=>rfl
 nt:=fun a=> !a
 nt_eq:=fun _=>rfl
 an:=fun a b=>a&&b
 an_eq:=fun _ _=>rfl
 or:=fun a b=>a||b
 or_eq:=fun _ _=>rfl
 pk:=fun c a b=>if c then a else b
 pk_eq:=fun _ _ _=>rfl
 mx:=fun a b=>if a<b then b else a
 mx_eq:=fun _ _=>rfl
 mn:=fun a b=>if b<a then b else a
 mn_eq:=fun _ _=>rfl
 ofs:=fun a b=>a+b
 ofs_eq:=fun _ _=>rfl
 ofN:=fun n=>n
 ofN_eq:=fun _=>rfl
 len:=fun l=>l.length
 len_eq:=fun _=>rfl
 lst:=fun f l=>l.map f
 lst_eq:=fun _ _=>rfl
end Go.Ab
namespace Go.Ab
theorem C2 (a b:Int):Ar.cmp .lss a b=decide (a<b):=rfl
theorem CJ (a b:Int):Ar.cmp .leq a b=decide (a≤b):=rfl
theorem N8 (a b:Int):Ar.cmp .gtr a b=decide (b<a):=rfl
theorem K9 (a b:Int):Ar.cmp .geq a b=decide (b≤a):=rfl
theorem B9 (a b:Int):Ar.cmp .eql a b=decide (a=b):=rfl
theorem E5 (a b:Int):Ar.cmp .neq a b= !decide (a=b):=rfl
theorem M6 (a:Bool):Ar.nt a= !a:=rfl
theorem M8 (a b:Bool):Ar.an a b=(a&&b):=rfl
theorem G7 (a b:Bool):Ar.or a b=(a||b):=rfl
theorem B1 {α:Type}(l:List α):Ar.len l=(l.length:Int):=rfl
theorem HD (a b:Int):Ar.mx a b=if a<b then b else a:=rfl
theorem QT (s:ByteArray):Ar.slen s=(s.size:Int):=rfl
theorem Bc {n:Int} (h0: -9223372036854775808≤n) (h1:n<9223372036854775808):IntKind.wrap .i64 n=n:=by
 have e:IntKind.wrap .i64 n=(if n % 18446744073709551616≥9223372036854775808 then n % 18446744073709551616 - 18446744073709551616 else n % 18446744073709551616):=by
  unfold IntKind.wrap;simp[IntKind.bits,IntKind.signed]
 rw[e]
 split<;>omega
theorem C5 {a b:Int}(h0: -9223372036854775808≤a+b)(h1:a+b<9223372036854775808):Ar.ar .add .i64 a b=a+b:=Bc h0 h1
theorem RU {S σ R α:Type} (l:List α) (hl:l.length<1000000000000) (step:S→Option (S ⊕ R)) (mk:σ→Int→S) (body:σ→α→Option (σ ⊕ R)) (fin:σ→R)
 (hstep:∀s (i:Nat) x,l[i]? =some x→step (mk s i)=(body s x).bind fun o=>match o with| .inl s'=>some (.inl (mk s' (i+1)))| .inr r=>some (.inr r))
 (hend:∀s,step (mk s l.length)=some (.inr (fin s))):
 ∀(k:Nat) (i:Nat) (s:σ) (N:Nat),i+k=l.length→k<N→loopN step N (mk s i)=(H7 body (l.drop i) s).bind fun o=>match o with| .inl s=>some (fin s)| .inr r=>some r:=by
 intro k
 induction k with
 |zero=>
  intro i s N hi hN;obtain⟨N,rfl⟩:∃M,N=M+1:=⟨N - 1,by omega⟩;have e:l.drop i=[]:=List.drop_eq_nil_of_le (by omega)
  have ei:((i:Nat):Int)=l.length:=by omega
  rw[e,ei];simp only[loopN,hend,H7,Option.bind_some]
 | succ k ih=>
  intro i s N hi hN;obtain⟨N,rfl⟩:∃M,N=M+1:=⟨N - 1,by omega⟩
  have hlt:i<l.length:=by omega
  have hx:l[i]? =some l[i]:=by simp[hlt]
  have e:l.drop i=l[i]::l.drop (i+1):=List.drop_eq_getElem_cons hlt;rw[e];simp only[loopN,hstep s i _ hx,H7]
  cases hb:body s l[i]with
  |none=>rfl
  | some o=>
   cases o with
   |inl s'=>
    simp only[Option.bind_some];have:=ih (i+1) s' N (by omega) (by omega);rw[show((i:Int)+1)=((i+1:Nat):Int) by omega];exact this
   |inr r=>rfl
theorem C6 {α:Type}{l:List α}{i:Nat}:B6 l (i:Int)=l[i]? :=by simp[B6]
theorem PQ {β S σ R α:Type} (l:List α) (step:S→Option (List β×(S ⊕ R))) (mk:σ→Int→S) (body:σ→α→Option (List β×(σ ⊕ R))) (fin:σ→R)
 (hstep:∀s (i:Nat) x,l[i]? =some x→step (mk s i)=(body s x).bind fun o=>match o with|(w,.inl s')=>some (w,.inl (mk s' (i+1)))|(w,.inr r)=>some (w,.inr r))
 (hend:∀s,step (mk s l.length)=some ([],.inr (fin s))):
 ∀(k:Nat) (i:Nat) (s:σ) (N:Nat),i+k=l.length→k<N→X1 step N (mk s i)=(BF body (l.drop i) s).bind fun o=>match o with|(w,.inl s)=>some (w,fin s)|(w,.inr r)=>some (w,r):=by
 intro k
 induction k with
 |zero=>
  intro i s N hi hN;obtain⟨N,rfl⟩:∃M,N=M+1:=⟨N - 1,by omega⟩;have e:l.drop i=[]:=List.drop_eq_nil_of_le (by omega)
  have ei:((i:Nat):Int)=l.length:=by omega
  rw[e,ei];simp only[X1,hend,BF,Option.bind_some]
 | succ k ih=>
  intro i s N hi hN;obtain⟨N,rfl⟩:∃M,N=M+1:=⟨N - 1,by omega⟩
  have hlt:i<l.length:=by omega
  have hx:l[i]? =some l[i]:=by simp[hlt]
  have e:l.drop i=l[i]::l.drop (i+1):=List.drop_eq_getElem_cons hlt;rw[e];simp only[X1,hstep s i _ hx,BF]
  cases hb:body s l[i]with
  |none=>rfl
  | some o=>
   obtain⟨w,o⟩:=o
   cases o with
   | inl s'=>
    simp only[Option.bind_some];have:=ih (i+1) s' N (by omega) (by omega);rw[show((i:Int)+1)=((i+1:Nat):Int) by omega,this]
    cases hr:BF body (l.drop (i+1)) s' with
    |none=>rfl
    |some q=>
     obtain⟨w',o'⟩:=q;cases o'<;>rfl
   |inr r=>rfl
theorem F6 {S σ R α:Type} (l:List α) (hl:l.length<1000000000000) {step:S→Option (S ⊕ R)} (mk:σ→Int→S) (body:σ→α→Option (σ ⊕ R)) (fin:σ→R) (s:σ) {N:Nat} (hN:l.length<N)
 (hstep:∀s (i:Nat) x,l[i]? =some x→(i:Int)<l.length→step (mk s i)=(body s x).bind fun o=>match o with| .inl s'=>some (.inl (mk s' (i+1)))| .inr r=>some (.inr r))
 (hend:∀s,step (mk s l.length)=some (.inr (fin s))):loopN step N (mk s 0)=(H7 body l s).bind fun o=>match o with| .inl s=>some (fin s)| .inr r=>some r:=by
 have:=RU l hl step mk body fin (fun s i x h=>hstep s i x h (by
  rcases Nat.lt_or_ge i l.length with h'|h'
  ·omega
  rw[List.getElem?_eq_none h']at h;cases h)) hend l.length 0 s N (by omega) hN
 simpa using this
theorem TM {β S σ R α:Type} (l:List α) {step:S→Option (List β×(S ⊕ R))} (mk:σ→Int→S) (body:σ→α→Option (List β×(σ ⊕ R))) (fin:σ→R) (s:σ) {N:Nat} (hN:l.length<N)
 (hstep:∀s (i:Nat) x,l[i]? =some x→(i:Int)<l.length→step (mk s i)=(body s x).bind fun o=>match o with|(w,.inl s')=>some (w,.inl (mk s' (i+1)))|(w,.inr r)=>some (w,.inr r))
 (hend:∀s,step (mk s l.length)=some ([],.inr (fin s))):X1 step N (mk s 0)=(BF body l s).bind fun o=>match o with|(w,.inl s)=>some (w,fin s)|(w,.inr r)=>some (w,r):=by
 have:=PQ l step mk body fin (fun s i x h=>hstep s i x h (by
  rcases Nat.lt_or_ge i l.length with h'|h'
  ·omega
  rw[List.getElem?_eq_none h']at h;cases h)) hend l.length 0 s N (by omega) hN
 simpa using this
theorem X6 {α σ R:Type} {step:σ→α→Option (σ ⊕ R)} (I:List α→σ→Prop) (hs:∀x r s,I (x::r) s→∃s',step s x=some (.inl s')∧I r s'):∀{l:List α} {s:σ},I l s→∃s',H7 step l s=some (.inl s')∧I [] s'
 |[],s,h=>⟨s,rfl,h⟩
 |x::l,s,h=>by
  obtain⟨s',h1,h2⟩:=hs x l s h;obtain⟨s2,h3,h4⟩:=X6 I hs h2;exact⟨s2,by simp only[H7,h1,h3],h4⟩
theorem MI {α β σ R:Type} {step:σ→α→Option (List β×(σ ⊕ R))} (I:List α→List β→σ→Prop) (hs:∀x r w s,I (x::r) w s→∃w' s',step s x=some (w',.inl s')∧I r (w++w') s'):
 ∀{l:List α} {w:List β} {s:σ},I l w s→∃w' s',BF step l s=some (w',.inl s')∧I [] (w++w') s'
 |[],w,s,h=>⟨[],s,rfl,by simpa using h⟩
 |x::l,w,s,h=>by
  obtain⟨w1,s1,h1,h2⟩:=hs x l w s h;obtain⟨w2,s2,h3,h4⟩:=MI I hs h2;exact⟨w1++w2,s2,by simp only[BF,h1,h3],by rw[←List.append_assoc];exact h4⟩
def Q6 {α:Type}(f:α→Int):List α→Int
 |[]=>0
 |x::l=>if f x=0 then Q6 f l else f x
theorem BB {α:Type} {f:α→Int}:∀{l:List α},Q6 f l=0↔∀x∈l,f x=0
 |[]=>by simp[Q6]
 |x::l=>by
  unfold Q6
  split
  ·rename_i h;rw[BB];simp[h]
  rename_i h;simp[h]
theorem LD {α:Type} {f:α→Int}:∀{l m:List α},Q6 f (l++m)=if Q6 f l=0 then Q6 f m else Q6 f l
 |[],m=>by simp[Q6]
 |x::l,m=>by
  simp only[List.cons_append,Q6]
  split
  ·rw[LD]
  rename_i h;simp[h]
theorem Oq {α:Type} {F:α→Option Int} {f:α→Int}:∀{l:List α},(∀x∈l,F x=some (f x))→
 H7 (fun(_:Unit) x=>(F x).bind fun r=>if Ar.cmp .neq r 0=true then some (Sum.inr r)else some (.inl ())) l ()=some (if Q6 f l=0 then .inl ()else .inr (Q6 f l))
 |[],_=>rfl
 | x::l,h=>by
  have h1:=Oq (l:=l) fun y hy=>h y (by simp[hy]);unfold H7;simp only[h x (by simp),Option.bind_some,E5,Q6]
  by_cases hz:f x=0
  ·simp only[hz,decide_true,Bool.not_true,Bool.false_eq_true,if_false,if_true]
   simpa only[E5]using h1
  simp[hz]
noncomputable def AP {α:Type}(F:α→Option Int)(_:Unit)(a:α):Option (Unit ⊕ (Unit ⊕ Int)):=(F a).bind fun r=>if Ar.cmp .neq r 0=true then some (.inr (.inr r))else some (.inl ())
theorem Y9 {α:Type} {F:α→Option Int} {f:α→Int}:∀{l:List α},(∀x∈l,F x=some (f x))→H7 (AP F) l ()=some (if Q6 f l=0 then .inl ()else .inr (.inr (Q6 f l)))
 |[],_=>rfl
 |x::l,h=>by
  have h1:=Y9 (l:=l) fun y hy=>h y (by simp[hy]);unfold H7 AP;simp only[h x (by simp),Option.bind_some,E5,Q6]
  by_cases hz:f x=0
  ·simp only[hz,decide_true,Bool.not_true,Bool.false_eq_true,if_false,if_true];exact h1
  simp[hz]
end Go.Ab
namespace Go.Ab
open Go.RowKit Go.ChangeShapes Go.WideShapes
variable [I9]
section
variable {H α:Type}{enc:TypeId×Value→H}{P:Program}{W:World}{base:Nat}{spare:Nat→Bool}{held:Bool}{t e:TypeId}{n:Nat}
theorem Ol {cs:List Value} {sz:Nat} {f:α→V}:∀(l:List α) (o:Nat),(∀(i:Nat) a,l[i]? =some a→DG (g0 W) W ((cs.drop (o+i*sz)).take sz) (f a).cells)→DG (g0 W) W ((cs.drop o).take (l.length*sz)) (l.flatMap fun a=>(f a).cells)
 |[],o,_=>by simp;exact .nil _ _
 | a::l,o,h=>by
  have h0:=h 0 a rfl
  rw[Nat.zero_mul,Nat.add_zero]at h0
  have h1:=Ol l (o+sz) fun i b hi=>by
   have:=h (i+1) b (by simpa using hi)
   rwa[show o+(i+1)*sz=o+sz+i*sz by rw[Nat.add_mul];omega]at this
  have:=h0.join h1;rw[List.length_cons,List.flatMap_cons,show(l.length+1)*sz=sz+l.length*sz by rw[Nat.add_mul];omega];exact this
theorem RG {f:α→V} {R:α→DataW H→Prop} {m:Nat} (ht:P.underlying t=some (.array m e)) (hct:P.cellsOf t=m*P.cellsOf e) (hm:0<m) (he:∀n,Opens enc P W base spare held e f R n) {cs:List Value} {x:DataW H×List MemPlace}
 (h:DataW.trod enc P W base spare held n t cs=some x):∃l:List α,DG (g0 W) W cs (l.flatMap fun a=>(f a).cells)∧∃ds,x.1= .agg ds∧RL R l ds:=by
 cases n with
 |zero=>simp[DataW.trod]at h
 | succ n=>
  simp only[DataW.trod,ht]at h
  split at h
  ·rename_i hl;obtain⟨xs,hmm,rfl⟩:=Option.map_eq_some_iff.1 h
   have hxl:xs.length=m:=by simpa using mapM_some_length hmm
   have one:∀i,i<m→∃b,DG (g0 W) W ((cs.drop (i*P.cellsOf e)).take (P.cellsOf e)) (f b).cells∧∀y,xs[i]? =some y→R b y.1:=by
    intro i hi;have h1:=mapM_some_get hmm i i (by simp[hi])
    have h2:xs[i]? =some (xs[i]'(by omega)):=by simp[hxl,hi]
    rw[h2]at h1
    obtain⟨b,hr,hR⟩:=he n _ _ h1;exact⟨b,hr,fun y hy=>by rw[h2]at hy;cases hy;exact hR⟩
   obtain⟨b0,_⟩:=one 0 hm
   haveI:Inhabited α:=⟨b0⟩
   obtain⟨A,hA⟩:=Deep.choose_lt one
   have hat:∀(i:Nat) a,((List.range m).map A)[i]? =some a→i<m∧a=A i:=fun i a hi=>by
    rcases Nat.lt_or_ge i m with hlt|hge
    ·simp[hlt]at hi;exact⟨hlt,hi.symm⟩
    rw[List.getElem?_eq_none (by simpa using hge)]at hi;cases hi
   refine⟨(List.range m).map A,?_,_,rfl,by simp[hxl],fun i a d hi hd=>?_⟩
   ·have:=Ol (cs:=cs) (sz:=P.cellsOf e) (f:=f) (W:=W) ((List.range m).map A) 0 (fun i a hi=>by
     obtain⟨h1,rfl⟩:=hat i a hi
     simpa using(hA i h1).1)
    simpa[List.take_of_length_le,hl,hct]using this
   obtain⟨h1,rfl⟩:=hat i a hi
   simp only[List.getElem?_map,Option.map_eq_some_iff]at hd
   obtain⟨y,hy,rfl⟩:=hd;exact(hA i h1).2 y hy
  cases h
theorem Se {g:Nat} {cs:Array Value} {xs:List V} {name:String} (hg:P.globalNamed name=some g) (hv:W.var? P name=some cs) (hr:DG (g0 W) W cs.toList xs):VR (g0 W) W (.pointer (some ⟨g,0,none⟩)) (.eref xs 0):=by
 have cell:∀j,j<xs.length→W.cell? ⟨g,0+j,none⟩=some (cs.toList.getD j undef):=fun j hj=>by
  have h1:=World.var?_cell hg hv j
  have h2:j<cs.size:=by have:=hr.1;simp at this;omega
  rw[Nat.zero_add,h1];simp[List.getD,h2]
 exact .eref (g:=g0 W) (o:=0) (off:=0) (fun j=>cs.toList.getD j undef) (fun j hj=>(⟨_,cell j hj⟩:∃v,W.cell? ⟨g,0+j,none⟩=some v)) (fun j hj=>cell j hj) (fun j hj=>(hr.2 j hj).1) fun j hj=>(hr.2 j hj).2
end
end Go.Ab
namespace Go.Ab
open Go.RowKit Go.ChangeShapes Go.WideShapes
variable [I9]
section
variable {H:Type}{enc:TypeId×Value→H}{P:Program}{W:World}{base:Nat}{spare:Nat→Bool}{held:Bool}{t e:TypeId}{n:Nat}
end
end Go.Ab
namespace Go.Ab
mutual
def B0.bulk :B0→Nat
 |⟨_,args,_,_,_,v⟩=>B0.bulks args+v.Text.size+9
def B0.bulks :List B0→Nat
 |[]=>1
 |a::r=>B0.bulk a+B0.bulks r
end
mutual
def A0.bulk :A0→Nat
 |⟨_,args,_,_,_,_,c⟩=>A0.bulks args+B0.bulk c+6
def A0.bulks :List A0→Nat
 |[]=>1
 |a::r=>A0.bulk a+A0.bulks r
end
end Go.Ab
namespace Go.Ab
mutual
def B0.pre :B0→List B0
 |⟨op,args,var,field,kind,val⟩=>⟨op,args,var,field,kind,val⟩::B0.pres args
def B0.pres :List B0→List B0
 |[]=>[]
 |a::r=>B0.pre a++B0.pres r
end
mutual
def B0.dep :B0→Nat
 |⟨_,args,_,_,_,_⟩=>B0.deps args+1
def B0.deps :List B0→Nat
 |[]=>0
 |a::r=>max (B0.dep a) (B0.deps r)
end
mutual
def A0.pre :A0→List A0
 |⟨op,args,typ,var,scope,span,c⟩=>⟨op,args,typ,var,scope,span,c⟩::A0.pres args
def A0.pres :List A0→List A0
 |[]=>[]
 |a::r=>A0.pre a++A0.pres r
end
mutual
def A0.dep :A0→Nat
 |⟨_,args,_,_,_,_,_⟩=>A0.deps args+1
def A0.deps :List A0→Nat
 |[]=>0
 |a::r=>max (A0.dep a) (A0.deps r)
end
theorem B0.pre_eq (x:B0):x.pre=x::B0.pres x.cR:=by cases x;simp[B0.pre]
theorem A0.pre_eq (x:A0):x.pre=x::A0.pres x.cR:=by cases x;simp[A0.pre]
theorem B0.dep_eq (x:B0):x.dep=B0.deps x.cR+1:=by cases x;simp[B0.dep]
theorem A0.dep_eq (x:A0):x.dep=A0.deps x.cR+1:=by cases x;simp[A0.dep]
theorem B0.bulk_eq (x:B0):x.bulk=B0.bulks x.cR+x.Value.Text.size+9:=by cases x;simp[B0.bulk]
theorem A0.bulk_eq (x:A0):x.bulk=A0.bulks x.cR+x.cS.bulk+6:=by cases x;simp[A0.bulk]
theorem Mg :∀(l:List B0),(∀a∈l,B0.bulk a≤B0.bulks l)∧l.length≤B0.bulks l
 |[]=>⟨fun a h=>by simp at h,by simp[B0.bulks]⟩
 |b::l=>by
  have h:=Mg l;have hb:=B0.bulk_eq b;simp only[B0.bulks,List.length_cons];refine⟨fun a ha=>?_,by omega⟩
  rcases List.mem_cons.1 ha with rfl|ha
  ·omega
  have:=h.1 a ha;omega
theorem Mf :∀(l:List A0),(∀a∈l,A0.bulk a≤A0.bulks l)∧l.length≤A0.bulks l
 |[]=>⟨fun a h=>by simp at h,by simp[A0.bulks]⟩
 |b::l=>by
  have h:=Mf l;have hb:=A0.bulk_eq b;simp only[A0.bulks,List.length_cons];refine⟨fun a ha=>?_,by omega⟩
  rcases List.mem_cons.1 ha with rfl|ha
  ·omega
  have:=h.1 a ha;omega
mutual
theorem TF :∀x:B0,x.pre.length≤x.bulk
 |⟨op,args,var,field,kind,val⟩=>by
  have:=Fd args;simp only[B0.pre,B0.bulk,List.length_cons];omega
theorem Fd :∀l:List B0,(B0.pres l).length≤B0.bulks l
 |[]=>by simp[B0.pres]
 |a::l=>by
  have h1:=TF a;have h2:=Fd l;simp only[B0.pres,B0.bulks,List.length_append];omega
end
mutual
theorem Ez :∀x:A0,x.pre.length≤x.bulk
 |⟨op,args,typ,var,scope,span,c⟩=>by
  have:=Fc args;simp only[A0.pre,A0.bulk,List.length_cons];omega
theorem Fc :∀l:List A0,(A0.pres l).length≤A0.bulks l
 |[]=>by simp[A0.pres]
 |a::l=>by
  have h1:=Ez a;have h2:=Fc l;simp only[A0.pres,A0.bulks,List.length_append];omega
end
mutual
theorem JA :∀x:B0,x.dep≤x.bulk
 |⟨op,args,var,field,kind,val⟩=>by
  have:=Fo args;simp only[B0.dep,B0.bulk];omega
theorem Fo :∀l:List B0,B0.deps l≤B0.bulks l
 |[]=>by simp[B0.deps]
 |a::l=>by
  have h1:=JA a;have h2:=Fo l;simp only[B0.deps,B0.bulks];omega
end
mutual
theorem Ui :∀x:A0,x.dep≤x.bulk
 |⟨op,args,typ,var,scope,span,c⟩=>by
  have:=Fm args;simp only[A0.dep,A0.bulk];omega
theorem Fm :∀l:List A0,A0.deps l≤A0.bulks l
 |[]=>by simp[A0.deps]
 |a::l=>by
  have h1:=Ui a;have h2:=Fm l;simp only[A0.deps,A0.bulks];omega
end
def Cut (lim:Int)(cnt:Nat)(r:Int):Prop:=1≤r∧r≤cnt∧(r=cnt∨lim<r)
section
variable {α:Type}
theorem Hy {lim:Int} {f:α→Option Int} {cnt:α→Nat} {B:Nat} (hB:B≤1000000000000):∀(l:List α) (s:Int),0≤s→s+(l.map cnt).sum≤B→(∀a∈l,∃r,f a=some r∧Cut lim (cnt a) r)→
 ∃o,H7 (fun(s:Int) x=>if s≤lim then(f x).bind fun r=>some (.inl (Ar.ar .add .i64 s r))else some (.inr s)) l s=some o∧
  ∃v,v=(match o with| .inl s=>s| .inr s=>s)∧s≤v∧v≤s+(l.map cnt).sum∧(v=s+(l.map cnt).sum∨lim<v)
 |[],s,h0,_,_=>⟨.inl s,rfl,s,rfl,Int.le_refl _,by simp,.inl (by simp)⟩
 | a::l,s,h0,hb,hf=>by
  simp only[List.map_cons,List.sum_cons]at hb ⊢
  unfold H7
  by_cases hs:s≤lim
  ·obtain⟨r,h1,h2,h3,h4⟩:=hf a (by simp);simp only[if_pos hs,h1,Option.bind_some];have e:Ar.ar .add .i64 s r=s+r:=C5 (by omega) (by omega);rw[e];obtain⟨o,k1,v,k2,k3,k4,k5⟩:=Hy hB l (s+r) (by omega) (by omega) fun b hb=>hf b (by simp[hb]);refine⟨o,k1,v,k2,by omega,by omega,?_⟩
   rcases k5 with k5|k5
   ·rcases h4 with h4|h4
    ·left;omega
    right;omega
   exact .inr k5
  simp only[if_neg hs];exact⟨_,rfl,s,rfl,Int.le_refl _,by omega,.inr (by omega)⟩
end
theorem IT :∀l:List A0,(l.map fun a=>a.pre.length).sum=(A0.pres l).length
 |[]=>rfl
 |a::l=>by simp[A0.pres,IT l]
theorem IU :∀l:List B0,(l.map fun a=>a.pre.length).sum=(B0.pres l).length
 |[]=>rfl
 |a::l=>by simp[B0.pres,IU l]
theorem QK {N:Nat} (hN:40000000≤N) (lim:Int):∀(n:Nat) (x:A0),x.bulk≤n→x.bulk≤16777216→∃r,V2 N n x lim=some r∧Cut lim x.pre.length r:=by
 intro n
 induction n with
 |zero=>intro x h;have:=A0.bulk_eq x;omega
 | succ n ih=>
  intro x hx hb;have hxb:=A0.bulk_eq x;have hB:=Mf x.cR;have hpb:=Fc x.cR;unfold V2;rw[F6 x.cR (by omega) (mk:=fun(s:Int) i=>(s,i)) (body:=fun(s:Int) a=>if s≤lim then(V2 N n a lim).bind fun r=>some (.inl (Ar.ar .add .i64 s r))else some (.inr s)) (fin:=fun s=>s) (s:=1) (by omega) ?_ ?_]
  ·obtain⟨o,k1,v,k2,k3,k4,k5⟩:=Hy (lim:=lim) (f:=fun a=>V2 N n a lim) (cnt:=fun a=>a.pre.length) (B:=40000000) (by omega) x.cR 1 (by omega) (by rw[IT];omega) fun a ha=>ih a (by have:=hB.1 a ha;omega) (by have:=hB.1 a ha;omega)
   rw[IT]at k4 k5
   have hpe:x.pre.length=(A0.pres x.cR).length+1:=by rw[A0.pre_eq];rfl
   simp only[k1,Option.bind_some];refine⟨v,?_,by omega,by omega,?_⟩
   ·cases o<;>simp_all
   rcases k5 with k5|k5
   ·left;omega
   right;exact k5
  ·intro s i a ha hi;have e:Ar.ar .add .i64 (i:Int) 1=i+1:=C5 (by omega) (by omega);simp only[C2,CJ,M8,B1,hi,decide_true,Bool.true_and,C6,ha,Option.bind_some,e,decide_eq_true_eq]
   split
   ·cases V2 N n a lim<;>rfl
   rfl
  intro s;simp[C2,M8,B1]
end Go.Ab
namespace Go.Ab
theorem JZ {x a:A0}(h:a∈x.cR):a.bulk<x.bulk:=by
 have h1:=(Mf x.cR).1 a h;have h2:=A0.bulk_eq x;omega
theorem Z0 {x a:B0}(h:a∈x.cR):a.bulk<x.bulk:=by
 have h1:=(Mg x.cR).1 a h;have h2:=B0.bulk_eq x;omega
theorem Kc (x:A0):x.cR.length≤x.bulk:=by
 have h1:=(Mf x.cR).2;have h2:=A0.bulk_eq x;omega
theorem ED (x:B0):x.cR.length≤x.bulk:=by
 have h1:=(Mg x.cR).2;have h2:=B0.bulk_eq x;omega
theorem Kr (x:A0):0<x.bulk:=by have:=A0.bulk_eq x;omega
theorem Dg (x:B0):0<x.bulk:=by have:=B0.bulk_eq x;omega
theorem Sv {N:Nat} (hN:40000000≤N):∀(n:Nat) (x:A0),x.bulk≤n→x.bulk≤16777216→V4 N n x=some (x.dep:Int):=by
 intro n
 induction n with
 |zero=>intro x h;have:=Kr x;omega
 | succ n ih=>
  intro x hx hb;have hl:=Kc x;unfold V4;rw[F6 x.cR (by omega) (mk:=fun(s:Int) i=>(s,i)) (body:=fun(s:Int) a=>(V4 N n a).bind fun r=>some (.inl (Ar.mx s r))) (fin:=fun s=>s) (s:=0) (by omega) ?_ ?_]
  ·obtain⟨s',k1,k2⟩:=X6 (R:=Int) (step:=fun(s:Int) a=>(V4 N n a).bind fun r=>some (.inl (Ar.mx s r))) (fun r s=>(∀a∈r,a∈x.cR)∧0≤s∧max s (A0.deps r:Int)=(A0.deps x.cR:Int)) (fun a r s ⟨h1,h2,h3⟩=>by
    have hm:=JZ (h1 a (by simp));refine⟨_,by rw[ih a (by omega) (by omega)];rfl,fun b hb=>h1 b (by simp[hb]),?_,?_⟩
    ·rw[HD];split<;>omega
    rw[←h3,HD];simp only[A0.deps];split<;>omega) (l:=x.cR) (s:=0) ⟨fun a h=>h,Int.le_refl _,by omega⟩
   simp only[k1,Option.bind_some]
   have e:s'=(A0.deps x.cR:Int):=by have:=k2.2.2;simp only[A0.deps]at this;omega
   have hd:=Fm x.cR;have hd2:=A0.bulk_eq x;rw[e,C5 (by omega) (by omega),A0.dep_eq];rfl
  ·intro s i a ha hi;have e:Ar.ar .add .i64 (i:Int) 1=i+1:=C5 (by omega) (by omega);simp only[C2,B1,hi,decide_true,if_true,C6,ha,Option.bind_some,e];cases V4 N n a<;>rfl
  intro s;simp[C2,B1]
theorem M2 {α:Type}{l m:List α}(h:l.length+m.length≤1073741824):H9 l m=some (l++m):=by simp[H9,h]
theorem MQ {N:Nat} (hN:40000000≤N):∀(n:Nat) (x:A0),x.bulk≤n→x.bulk≤16777216→R9 N n x=some x.pre:=by
 intro n
 induction n with
 |zero=>intro x h;have:=Kr x;omega
 | succ n ih=>
  intro x hx hb;have hl:=Kc x;unfold R9;rw[F6 x.cR (by omega) (mk:=fun(s:List A0) i=>(s,i)) (body:=fun(s:List A0) a=>(R9 N n a).bind fun r=>(H9 s r).bind fun l=>some (.inl l)) (fin:=fun s=>s) (s:=[x]) (by omega) ?_ ?_]
  ·have hp:=Ez x;have hpe:=A0.pre_eq x
   obtain⟨s',k1,k2⟩:=X6 (R:=List A0) (step:=fun(s:List A0) a=>(R9 N n a).bind fun r=>(H9 s r).bind fun l=>some (.inl l)) (fun r s=>(∀a∈r,a∈x.cR)∧s++A0.pres r=x.pre) (fun a r s ⟨h1,h2⟩=>by
    have hm:=JZ (h1 a (by simp));have hlen:=congrArg List.length h2
    simp only[A0.pres,List.length_append]at hlen
    refine⟨_,by rw[ih a (by omega) (by omega)];simp only[Option.bind_some];rw[M2 (by omega)];rfl,fun b hb=>h1 b (by simp[hb]),?_⟩
    rw[←h2];simp[A0.pres]) (l:=x.cR) (s:=[x]) ⟨fun a h=>h,by rw[hpe];rfl⟩
   simp only[k1,Option.bind_some];have:=k2.2
   simp only[A0.pres,List.append_nil]at this
   rw[this]
  ·intro s i a ha hi;have e:Ar.ar .add .i64 (i:Int) 1=i+1:=C5 (by omega) (by omega);simp only[C2,B1,hi,decide_true,if_true,C6,ha,Option.bind_some,e]
   cases R9 N n a with
   |none=>rfl
   |some r=>simp only[Option.bind_some];cases H9 s r<;>rfl
  intro s;simp[C2,B1]
theorem ZT {N:Nat} (hN:40000000≤N):∀(n:Nat) (x:A0),x.bulk≤n→x.bulk≤16777216→U7 N n x=some ((x.pre.length:Int),(x.dep:Int)):=by
 intro n
 induction n with
 |zero=>intro x h;have:=Kr x;omega
 | succ n ih=>
  intro x hx hb;have hl:=Kc x;unfold U7;rw[F6 x.cR (by omega) (mk:=fun(s:Int×Int) i=>(s.1,s.2,i)) (body:=fun(s:Int×Int) a=>(U7 N n a).bind fun r=>some (.inl (Ar.ar .add .i64 s.1 r.1,Ar.mx s.2 r.2))) (fin:=fun s=>s) (s:=(1,0)) (by omega) ?_ ?_]
  ·have hp:=Fc x.cR;have hd:=Fm x.cR;have hbe:=A0.bulk_eq x
   obtain⟨s',k1,k2⟩:=X6 (R:=Int×Int) (step:=fun(s:Int×Int) a=>(U7 N n a).bind fun r=>some (.inl (Ar.ar .add .i64 s.1 r.1,Ar.mx s.2 r.2))) (fun r s=>(∀a∈r,a∈x.cR)∧0≤s.2∧0≤s.1∧s.1+(A0.pres r).length=(A0.pres x.cR).length+1∧max s.2 (A0.deps r:Int)=(A0.deps x.cR:Int)) (fun a r s ⟨h1,h2,h3,h4,h5⟩=>by
    have hm:=JZ (h1 a (by simp))
    simp only[A0.pres,List.length_append,A0.deps]at h4 h5
    refine⟨_,by rw[ih a (by omega) (by omega)];rfl,fun b hb=>h1 b (by simp[hb]),?_,?_,?_,?_⟩
    ·simp only[HD];split<;>omega
    ·rw[C5 (by omega) (by omega)];omega
    ·rw[C5 (by omega) (by omega)];omega
    rw[←h5];simp only[HD];split<;>omega) (l:=x.cR) (s:=(1,0)) ⟨fun a h=>h,by simp,by simp,by simp only;omega,by simp only;omega⟩
   simp only[k1,Option.bind_some];obtain⟨_,_,_,e1,e2⟩:=k2
   simp only[A0.pres,List.length_nil,A0.deps]at e1 e2
   have e3:s'.1=(x.pre.length:Int):=by rw[A0.pre_eq];simp only[List.length_cons];omega
   have e4:s'.2=(A0.deps x.cR:Int):=by omega
   rw[e3,e4,C5 (by omega) (by omega),A0.dep_eq];rfl
  ·intro s i a ha hi;have e:Ar.ar .add .i64 (i:Int) 1=i+1:=C5 (by omega) (by omega);simp only[C2,B1,hi,decide_true,if_true,C6,ha,Option.bind_some,e];cases U7 N n a<;>rfl
  intro s;simp[C2,B1]
theorem ZM {N:Nat} (hN:40000000≤N):∀(n:Nat) (x:A0),x.bulk≤n→x.bulk≤16777216→U6 N n x=some x.pre:=by
 intro n
 induction n with
 |zero=>intro x h;have:=Kr x;omega
 | succ n ih=>
  intro x hx hb;have hl:=Kc x;unfold U6;rw[TM x.cR (mk:=fun(_:Unit) i=>i) (body:=fun(_:Unit) a=>(U6 N n a).bind fun l=>some (l,.inl ())) (fin:=fun _=>()) (s:=()) (by omega) ?_ ?_]
  ·obtain⟨w,s',k1,k2⟩:=MI (R:=Unit) (step:=fun(_:Unit) a=>(U6 N n a).bind fun l=>some (l,.inl ())) (fun r w s=>(∀a∈r,a∈x.cR)∧w++A0.pres r=A0.pres x.cR) (fun a r w s ⟨h1,h2⟩=>by
    have hm:=JZ (h1 a (by simp));refine⟨a.pre,(),by rw[ih a (by omega) (by omega)];rfl,fun b hb=>h1 b (by simp[hb]),?_⟩
    rw[←h2];simp[A0.pres]) (l:=x.cR) (w:=[]) (s:=()) ⟨fun a h=>h,by simp⟩
   have e:w=A0.pres x.cR:=by have:=k2.2;simpa[A0.pres]using this
   rw[k1,e,A0.pre_eq];simp[O0]
  ·intro s i a ha hi;have e:Ar.ar .add .i64 (i:Int) 1=i+1:=C5 (by omega) (by omega);simp only[C2,B1,hi,decide_true,if_true,C6,ha,Option.bind_some,e];cases U6 N n a<;>simp[O0]
  intro s;simp[C2,B1]
end Go.Ab
namespace Go.Ab
theorem Sx {N:Nat} (hN:40000000≤N) (lim:Int):∀(n:Nat) (x:B0),x.bulk≤n→x.bulk≤16777216→∃r,V6 N n x lim=some r∧Cut lim x.pre.length r:=by
 intro n
 induction n with
 |zero=>intro x h;have:=Dg x;omega
 | succ n ih=>
  intro x hx hb;have hxb:=B0.bulk_eq x;have hB:=Mg x.cR;have hpb:=Fd x.cR;unfold V6;rw[F6 x.cR (by omega) (mk:=fun(s:Int) i=>(s,i)) (body:=fun(s:Int) a=>if s≤lim then(V6 N n a lim).bind fun r=>some (.inl (Ar.ar .add .i64 s r))else some (.inr s)) (fin:=fun s=>s) (s:=1) (by omega) ?_ ?_]
  ·obtain⟨o,k1,v,k2,k3,k4,k5⟩:=Hy (lim:=lim) (f:=fun a=>V6 N n a lim) (cnt:=fun a=>a.pre.length) (B:=40000000) (by omega) x.cR 1 (by omega) (by rw[IU];omega) fun a ha=>ih a (by have:=hB.1 a ha;omega) (by have:=hB.1 a ha;omega)
   rw[IU]at k4 k5
   have hpe:x.pre.length=(B0.pres x.cR).length+1:=by rw[B0.pre_eq];rfl
   simp only[k1,Option.bind_some];refine⟨v,?_,by omega,by omega,?_⟩
   ·cases o<;>simp_all
   rcases k5 with k5|k5
   ·left;omega
   right;exact k5
  ·intro s i a ha hi;have e:Ar.ar .add .i64 (i:Int) 1=i+1:=C5 (by omega) (by omega);simp only[C2,CJ,M8,B1,hi,decide_true,Bool.true_and,C6,ha,Option.bind_some,e,decide_eq_true_eq]
   split
   ·cases V6 N n a lim<;>rfl
   rfl
  intro s;simp[C2,M8,B1]
theorem Nw {N:Nat} (hN:40000000≤N):∀(n:Nat) (x:B0),x.bulk≤n→x.bulk≤16777216→V5 N n x=some (x.dep:Int):=by
 intro n
 induction n with
 |zero=>intro x h;have:=Dg x;omega
 | succ n ih=>
  intro x hx hb;have hl:=ED x;unfold V5;rw[F6 x.cR (by omega) (mk:=fun(s:Int) i=>(s,i)) (body:=fun(s:Int) a=>(V5 N n a).bind fun r=>some (.inl (Ar.mx s r))) (fin:=fun s=>s) (s:=0) (by omega) ?_ ?_]
  ·obtain⟨s',k1,k2⟩:=X6 (R:=Int) (step:=fun(s:Int) a=>(V5 N n a).bind fun r=>some (.inl (Ar.mx s r))) (fun r s=>(∀a∈r,a∈x.cR)∧0≤s∧max s (B0.deps r:Int)=(B0.deps x.cR:Int)) (fun a r s ⟨h1,h2,h3⟩=>by
    have hm:=Z0 (h1 a (by simp));refine⟨_,by rw[ih a (by omega) (by omega)];rfl,fun b hb=>h1 b (by simp[hb]),?_,?_⟩
    ·rw[HD];split<;>omega
    rw[←h3,HD];simp only[B0.deps];split<;>omega) (l:=x.cR) (s:=0) ⟨fun a h=>h,Int.le_refl _,by omega⟩
   simp only[k1,Option.bind_some]
   have e:s'=(B0.deps x.cR:Int):=by have:=k2.2.2;simp only[B0.deps]at this;omega
   have hd:=Fo x.cR;have hd2:=B0.bulk_eq x;rw[e,C5 (by omega) (by omega),B0.dep_eq];rfl
  ·intro s i a ha hi;have e:Ar.ar .add .i64 (i:Int) 1=i+1:=C5 (by omega) (by omega);simp only[C2,B1,hi,decide_true,if_true,C6,ha,Option.bind_some,e];cases V5 N n a<;>rfl
  intro s;simp[C2,B1]
theorem VM {N:Nat} (hN:40000000≤N):∀(n:Nat) (x:B0),x.bulk≤n→x.bulk≤16777216→BA N n x=some ((x.pre.length:Int),(x.dep:Int)):=by
 intro n
 induction n with
 |zero=>intro x h;have:=Dg x;omega
 | succ n ih=>
  intro x hx hb;have hl:=ED x;unfold BA;rw[F6 x.cR (by omega) (mk:=fun(s:Int×Int) i=>(s.1,s.2,i)) (body:=fun(s:Int×Int) a=>(BA N n a).bind fun r=>some (.inl (Ar.ar .add .i64 s.1 r.1,Ar.mx s.2 r.2))) (fin:=fun s=>s) (s:=(1,0)) (by omega) ?_ ?_]
  ·have hp:=Fd x.cR;have hd:=Fo x.cR;have hbe:=B0.bulk_eq x
   obtain⟨s',k1,k2⟩:=X6 (R:=Int×Int) (step:=fun(s:Int×Int) a=>(BA N n a).bind fun r=>some (.inl (Ar.ar .add .i64 s.1 r.1,Ar.mx s.2 r.2))) (fun r s=>(∀a∈r,a∈x.cR)∧0≤s.2∧0≤s.1∧s.1+(B0.pres r).length=(B0.pres x.cR).length+1∧max s.2 (B0.deps r:Int)=(B0.deps x.cR:Int)) (fun a r s ⟨h1,h2,h3,h4,h5⟩=>by
    have hm:=Z0 (h1 a (by simp))
    simp only[B0.pres,List.length_append,B0.deps]at h4 h5
    refine⟨_,by rw[ih a (by omega) (by omega)];rfl,fun b hb=>h1 b (by simp[hb]),?_,?_,?_,?_⟩
    ·simp only[HD];split<;>omega
    ·rw[C5 (by omega) (by omega)];omega
    ·rw[C5 (by omega) (by omega)];omega
    rw[←h5];simp only[HD];split<;>omega) (l:=x.cR) (s:=(1,0)) ⟨fun a h=>h,by simp,by simp,by simp only;omega,by simp only;omega⟩
   simp only[k1,Option.bind_some];obtain⟨_,_,_,e1,e2⟩:=k2
   simp only[B0.pres,List.length_nil,B0.deps]at e1 e2
   have e3:s'.1=(x.pre.length:Int):=by rw[B0.pre_eq];simp only[List.length_cons];omega
   have e4:s'.2=(B0.deps x.cR:Int):=by omega
   rw[e3,e4,C5 (by omega) (by omega),B0.dep_eq];rfl
  ·intro s i a ha hi;have e:Ar.ar .add .i64 (i:Int) 1=i+1:=C5 (by omega) (by omega);simp only[C2,B1,hi,decide_true,if_true,C6,ha,Option.bind_some,e];cases BA N n a<;>rfl
  intro s;simp[C2,B1]
theorem ND {f:B0→Int}:∀l:List B0,Q6 (fun a=>Q6 f a.pre) l=Q6 f (B0.pres l)
 |[]=>rfl
 |a::l=>by rw[B0.pres,LD,Q6,ND l]
theorem QN {a y:B0} (hy:y∈a.pre):∀l:List B0,a∈l→y∈B0.pres l
 |[],h=>by simp at h
 |b::l,h=>by
  rcases List.mem_cons.1 h with rfl|h
  ·simp[B0.pres,hy]
  simp[B0.pres,QN hy l h]
theorem XC {N:Nat} (hN:40000000≤N) {F:B0→Option Int} {f:B0→Int}:∀(n:Nat) (x:B0),x.bulk≤n→x.bulk≤16777216→(∀y∈x.pre,F y=some (f y))→Bl N n x F=some (Q6 f x.pre):=by
 intro n
 induction n with
 |zero=>intro x h;have:=Dg x;omega
 | succ n ih=>
  intro x hx hb hF;have hl:=ED x;have hpe:=B0.pre_eq x;unfold Bl;rw[hF x (by rw[hpe];simp)];simp only[Option.bind_some,E5];rw[hpe,Q6]
  by_cases hz:f x=0
  ·simp only[hz,decide_true,Bool.not_true,Bool.false_eq_true,if_false,if_true];rw[F6 x.cR (by omega) (mk:=fun(_:Unit) i=>i) (body:=AP fun a=>Bl N n a F) (fin:=fun _=>.inl ()) (s:=()) (by omega) ?_ ?_]
   ·rw[Y9 (f:=fun a=>Q6 f a.pre) fun a ha=>ih a (by have:=Z0 ha;omega) (by have:=Z0 ha;omega) fun y hy=>hF y (by rw[hpe];exact List.mem_cons_of_mem _ (QN hy _ ha)),ND]
    by_cases hz3:Q6 f (B0.pres x.cR)=0
    ·simp[hz3]
    simp[hz3]
   ·intro s i a ha hi;have e:Ar.ar .add .i64 (i:Int) 1=i+1:=C5 (by omega) (by omega);simp only[C2,B1,hi,decide_true,if_true,C6,ha,Option.bind_some,e,AP,E5]
    cases Bl N n a F with
    |none=>rfl
    |some r=>by_cases h:r=0<;>simp[h]
   intro s;simp[C2,B1]
  simp[hz]
theorem Ww {N:Nat} (hN:40000000≤N) {f:B0→Int} (hF:∀y,CU N y=some (f y)):∀(n:Nat) (x:B0),x.bulk≤n→x.bulk≤16777216→Aj N n x=some (Q6 f x.pre):=by
 intro n
 induction n with
 |zero=>intro x h;have:=Dg x;omega
 | succ n ih=>
  intro x hx hb;have hl:=ED x;have hpe:=B0.pre_eq x;unfold Aj;rw[hF x];simp only[Option.bind_some,E5];rw[hpe,Q6]
  by_cases hz:f x=0
  ·simp only[hz,decide_true,Bool.not_true,Bool.false_eq_true,if_false,if_true];rw[F6 x.cR (by omega) (mk:=fun(_:Unit) i=>i) (body:=AP fun a=>Aj N n a) (fin:=fun _=>.inl ()) (s:=()) (by omega) ?_ ?_]
   ·rw[Y9 (f:=fun a=>Q6 f a.pre) fun a ha=>ih a (by have:=Z0 ha;omega) (by have:=Z0 ha;omega),ND]
    by_cases hz3:Q6 f (B0.pres x.cR)=0
    ·simp[hz3]
    simp[hz3]
   ·intro s i a ha hi;have e:Ar.ar .add .i64 (i:Int) 1=i+1:=C5 (by omega) (by omega);simp only[C2,B1,hi,decide_true,if_true,C6,ha,Option.bind_some,e,AP,E5]
    cases Aj N n a with
    |none=>rfl
    |some r=>by_cases h:r=0<;>simp[h]
   intro s;simp[C2,B1]
  simp[hz]
end Go.Ab
namespace Go.Ab
theorem Mn {a b:ByteArray}:a.toList=b.toList↔a=b:=by
 rw[ByteArray.toList_eq,ByteArray.toList_eq]
 constructor
 ·intro h;obtain⟨⟨a⟩⟩:=a;obtain⟨⟨b⟩⟩:=b
  simp at h
  subst h;rfl
 intro h;rw[h]
theorem Re (a b:ByteArray):Ar.scmp .neq a b= !decide (a=b):=by
 show(!(a.toList==b.toList))=_
 by_cases h:a=b
 ·subst h;simp
 have:a.toList≠b.toList:=fun e=>h (Mn.1 e);simp[h,this]
theorem Dr (a b:ByteArray):Ar.scmp .eql a b=decide (a=b):=by
 show(a.toList==b.toList)=_
 by_cases h:a=b
 ·subst h;simp
 have:a.toList≠b.toList:=fun e=>h (Mn.1 e);simp[h,this]
theorem An5 (N:Nat)(op:Int):EM N op=some (if op<0∨12<op then(0,false)else if op<5 then(0,true)else if op=12 then(1,true)else(2,true)):=by
 unfold EM;simp only[C2,N8,B9,G7,Bool.or_eq_true,decide_eq_true_eq]
 split
 ·rfl
 split
 ·rfl
 split<;>rfl
theorem Af1 (N:Nat) (op:Int):Dz N op=some (if op<0∨12<op then -1 else if op<5 then 0 else if op=12 then 1 else 2):=by
 have h:op<0∨op=0∨op=1∨op=2∨op=3∨op=4∨op=5∨op=6∨op=7∨op=8∨op=9∨op=10∨op=11∨op=12∨12<op:=by omega
 unfold Dz;simp only[B9]
 rcases h with h|h|h|h|h|h|h|h|h|h|h|h|h|h|h
 all_goals first
  |(subst h;rfl)
  | (have h0:op≠0:=by omega
     have h1:op≠1:=by omega
     have h2:op≠2:=by omega
     have h3:op≠3:=by omega
     have h4:op≠4:=by omega
     have h5:op≠5:=by omega
     have h6:op≠6:=by omega
     have h7:op≠7:=by omega
     have h8:op≠8:=by omega
     have h9:op≠9:=by omega
     have ha:op≠10:=by omega
     have hb:op≠11:=by omega
     have hc:op≠12:=by omega
     simp[h0,h1,h2,h3,h4,h5,h6,h7,h8,h9,ha,hb,hc,h])
theorem Aq4 (N:Nat)(op:Int):Ga N op=some (decide (op=1∨op=2∨op=3∨op=4),decide (op=1∨op=4)):=by
 unfold Ga;simp only[B9,decide_eq_true_eq]
 by_cases h1:op=1
 ·simp[h1]
 by_cases h4:op=4
 ·simp[h4]
 by_cases h2:op=2
 ·simp[h2]
 by_cases h3:op=3<;>simp[h1,h2,h3,h4]
theorem Aj9 (N:Nat)(op:Int):Et N op=some (decide (op=1∨op=2∨op=3∨op=4),decide (op=1∨op=4)):=by
 unfold Et;simp only[B9,G7]
 by_cases h1:op=1
 ·simp[h1]
 by_cases h4:op=4
 ·simp[h4]
 by_cases h2:op=2
 ·simp[h2]
 by_cases h3:op=3<;>simp[h1,h2,h3,h4]
def I3 (v:A6):Int:=
 if v.Kind=0∨v.Kind=1 then
  if v.Text≠⟨#[]⟩then 3
  else if v.Kind=0∧(v.Num< -1099511627776∨1099511627776<v.Num)∨v.Kind=1∧v.Num≠0∧v.Num≠1 then 2 else 0
 else if v.Kind=2 then(if v.Num≠0 then 3 else if 64<(v.Text.size:Int)then 13 else 0)else 1
theorem JL (N:Nat) (v:A6):V0 N v=some (I3 v):=by
 obtain⟨k,n,t⟩:=v;unfold V0 Ek I3;simp only[B9,E5,C2,N8,M8,G7,Re,QT]
 by_cases h0:k=0
 ·subst h0
  by_cases ht:t=⟨#[]⟩
  ·subst ht
   by_cases h1:n< -1099511627776∨1099511627776<n
   ·simp[h1]
   simp[h1];decide
  simp[ht]
 by_cases h1:k=1
 ·subst h1
  by_cases ht:t=⟨#[]⟩
  ·subst ht
   by_cases h2:n=0
   ·simp[h2];decide
   by_cases h3:n=1
   ·simp[h3];decide
   simp[h2,h3]
  simp[ht]
 by_cases h2:k=2
 ·subst h2
  by_cases hn:n=0
  ·simp[hn];split<;>rfl
  simp[hn]
 simp[h0,h1,h2]
theorem Id (N:Nat) (v:A6):Y1 N v=some (I3 v):=by
 obtain⟨k,n,t⟩:=v;unfold Y1 I3;simp only[B9,E5,C2,N8,M8,G7,Re,QT]
 by_cases h0:k=0
 ·subst h0
  by_cases ht:t=⟨#[]⟩
  ·subst ht
   by_cases h1:n< -1099511627776∨1099511627776<n
   ·simp[h1]
   simp[h1]
  simp[ht]
 by_cases h1:k=1
 ·subst h1
  by_cases ht:t=⟨#[]⟩
  ·subst ht
   by_cases h2:n=0
   ·simp[h2]
   by_cases h3:n=1
   ·simp[h3]
   have:n<0∨1<n:=by omega
   simp[h2,h3,this]
  simp[ht]
 by_cases h2:k=2
 ·subst h2
  by_cases hn:n=0
  ·simp[hn];split<;>rfl
  simp[hn]
 have:k<0∨2<k:=by omega
 simp[h0,h1,h2,this]
theorem XJ (N:Nat)(k:Int)(v:A6):EL N k v=some (decide (v.Kind=0∨k=4∨k=5)):=by
 unfold EL;simp only[B9,G7]
 by_cases h1:v.Kind=0<;>by_cases h2:k=4<;>by_cases h3:k=5<;>simp[h1,h2,h3]
theorem VG (N:Nat)(k:Int)(v:A6)(h:k≠0):V7 N k v=some (decide (v.Kind=0∨k=4∨k=5)):=by
 unfold V7;simp only[B9,G7]
 by_cases h1:v.Kind=0<;>by_cases h2:k=4<;>by_cases h3:k=5<;>simp[h,h1,h2,h3]
def XD (op:Int):Bool:=decide (op=1∨op=2∨op=3∨op=4)
def XE (op:Int):Bool:=decide (op=1∨op=4)
noncomputable def PD (x:B0):Bool:=Ar.or (Ar.an (XD x.Op) (Ar.or (Ar.cmp .lss x.Var 0) (Ar.cmp .geq x.Var 16))) (Ar.an (XE x.Op) (Ar.or (Ar.cmp .lss x.Field 0) (Ar.cmp .geq x.Field 8)))
noncomputable def Ng (x:B0):Bool:=Ar.an (Ar.cmp .eql x.Op 4) (Ar.or (Ar.cmp .lss x.Kind 1) (Ar.cmp .gtr x.Kind 5))
noncomputable def NY (v:A6):Bool:=Ar.an (Ar.cmp .eql v.Kind 0) (Ar.an (Ar.cmp .eql v.Num 0) (Ar.an (Ar.scmp .eql v.Text (⟨#[]⟩)) true))
noncomputable def FL (x:B0):Bool:=Ar.or (Ar.nt (decide (x.Value.Kind=0∨x.Kind=4∨x.Kind=5))) (Ar.an (Ar.cmp .eql x.Kind 1) (Ar.nt (NY x.Value)))
noncomputable def EE (x:B0):Bool:=Ar.or (Ar.or (Ar.or (Ar.an (Ar.nt (XD x.Op)) (Ar.cmp .neq x.Var 0)) (Ar.an (Ar.nt (XE x.Op)) (Ar.cmp .neq x.Field 0))) (Ar.an (Ar.nt (Ar.cmp .eql x.Op 4)) (Ar.cmp .neq x.Kind 0))) (Ar.an (Ar.nt (Ar.or (Ar.cmp .eql x.Op 4) (Ar.cmp .eql x.Op 0))) (Ar.nt (NY x.Value)))
noncomputable def Z6 (x:B0):Int:=
 if x.Op<0∨12<x.Op then 1
 else if(x.cR.length:Int)≠(if x.Op<5 then 0 else if x.Op=12 then 1 else 2)then 15
 else if PD x=true then 2
 else if Ng x=true then 1
 else if(x.Op=4∨x.Op=0)∧I3 x.Value≠0 then I3 x.Value
 else if x.Op=4∧FL x=true then 9
 else if EE x=true then 3 else 0
theorem Wx (N:Nat) (x:B0):CU N x=some (Z6 x):=by
 unfold CU Z6;rw[Af1,Aj9];simp only[Option.bind_some]
 by_cases h0:x.Op<0∨12<x.Op
 ·rw[if_pos h0,if_pos h0];rfl
 rw[if_neg h0,if_neg h0]
 have ha:¬(Ar.cmp .lss (if x.Op<5 then 0 else if x.Op=12 then 1 else 2) 0=true):=by
  rw[C2];simp only[decide_eq_true_eq];split
  ·omega
  split<;>omega
 rw[if_neg ha]
 by_cases h1:(x.cR.length:Int)≠(if x.Op<5 then 0 else if x.Op=12 then 1 else 2)
 ·rw[if_pos h1,if_pos (by simp[E5,B1,h1])]
 rw[if_neg h1,if_neg (by simp only[E5,B1];simpa using h1)]
 change (if PD x=true then some 2 else _)=_
 by_cases h2:PD x=true
 ·rw[if_pos h2,if_pos h2]
 rw[if_neg h2,if_neg h2]
 change (if Ng x=true then some 1 else _)=_
 by_cases h3:Ng x=true
 ·rw[if_pos h3,if_pos h3]
 rw[if_neg h3,if_neg h3];rw[Id]
 have e4:(Ar.or (Ar.cmp .eql x.Op 4) (Ar.cmp .eql x.Op 0)=true)↔(x.Op=4∨x.Op=0):=by simp[B9,G7]
 have e6:(Ar.cmp .eql x.Op 4=true)↔x.Op=4:=by simp[B9]
 by_cases h4:x.Op=4∨x.Op=0
 ·rw [if_pos (e4.2 h4)];simp only[Option.bind_some]
  by_cases h5:I3 x.Value=0
  ·have n5:¬(Ar.cmp .neq (I3 x.Value) 0=true):=by simp[E5,h5]
   have n5':¬((x.Op=4∨x.Op=0)∧I3 x.Value≠0):=fun h=>h.2 h5;rw[if_neg n5,if_neg n5'];simp only[Option.bind_some]
   by_cases h6:x.Op=4
   ·rw[if_pos (e6.2 h6)]
    have hk:x.Kind≠0:=by
     intro e;apply h3;simp[Ng,M8,G7,B9,C2,h6,e]
    rw[VG N _ _ hk];simp only[Option.bind_some]
    change (if FL x=true then some 9 else if EE x=true then some 3 else some 0)=_
    by_cases h7:FL x=true
    ·rw[if_pos h7,if_pos (show x.Op=4∧FL x=true from⟨h6,h7⟩)]
    rw[if_neg h7,if_neg (show¬(x.Op=4∧FL x=true)from fun h=>h7 h.2)]
    by_cases h8:EE x=true
    ·rw[if_pos h8,if_pos h8]
    rw[if_neg h8,if_neg h8]
   rw[if_neg (show¬(Ar.cmp .eql x.Op 4=true)from fun h=>h6 (e6.1 h)),if_neg (show¬(x.Op=4∧FL x=true)from fun h=>h6 h.1)]
   change (if EE x=true then some 3 else some 0)=_
   by_cases h8:EE x=true
   ·rw[if_pos h8,if_pos h8]
   rw[if_neg h8,if_neg h8]
  have n5:Ar.cmp .neq (I3 x.Value) 0=true:=by simp[E5,h5]
  rw[if_pos n5,if_pos (show(x.Op=4∨x.Op=0)∧I3 x.Value≠0 from⟨h4,h5⟩)];rfl
 rw[if_neg (show¬(Ar.or (Ar.cmp .eql x.Op 4) (Ar.cmp .eql x.Op 0)=true)from fun h=>h4 (e4.1 h)),if_neg (show¬((x.Op=4∨x.Op=0)∧I3 x.Value≠0)from fun h=>h4 h.1)];simp only[Option.bind_some];have h6:¬x.Op=4:=fun e=>h4 (.inl e);rw[if_neg (show¬(Ar.cmp .eql x.Op 4=true)from fun h=>h6 (e6.1 h)),if_neg (show¬(x.Op=4∧FL x=true)from fun h=>h6 h.1)]
 change (if EE x=true then some 3 else some 0)=_
 by_cases h8:EE x=true
 ·rw[if_pos h8,if_pos h8]
 rw[if_neg h8,if_neg h8]
theorem Yp (N:Nat) (x:B0):Eh N x=some (Z6 x):=by
 unfold Eh Z6;rw[An5,Aq4];simp only[Option.bind_some]
 by_cases h0:x.Op<0∨12<x.Op
 ·rw[if_pos h0,if_pos h0];rfl
 rw[if_neg h0,if_neg h0]
 have ha:(if x.Op<5 then((0:Int),true)else if x.Op=12 then(1,true)else(2,true))=((if x.Op<5 then 0 else if x.Op=12 then 1 else 2),true):=by
  split
  ·rfl
  split<;>rfl
 rw[ha];rw[if_neg (by simp[M6])]
 by_cases h1:(x.cR.length:Int)≠(if x.Op<5 then 0 else if x.Op=12 then 1 else 2)
 ·rw[if_pos h1,if_pos (by simp[E5,B1,h1])]
 rw[if_neg h1,if_neg (by simp only[E5,B1];simpa using h1)]
 change (if PD x=true then some 2 else _)=_
 by_cases h2:PD x=true
 ·rw[if_pos h2,if_pos h2]
 rw[if_neg h2,if_neg h2]
 change (if Ng x=true then some 1 else _)=_
 by_cases h3:Ng x=true
 ·rw[if_pos h3,if_pos h3]
 rw[if_neg h3,if_neg h3];unfold CG;rw[JL]
 have e4:(Ar.or (Ar.cmp .eql x.Op 4) (Ar.cmp .eql x.Op 0)=true)↔(x.Op=4∨x.Op=0):=by simp[B9,G7]
 have e6:(Ar.cmp .eql x.Op 4=true)↔x.Op=4:=by simp[B9]
 by_cases h4:x.Op=4∨x.Op=0
 ·rw[if_pos (e4.2 h4)];simp only[Option.bind_some]
  by_cases h5:I3 x.Value=0
  ·have n5:¬(Ar.cmp .neq (I3 x.Value) 0=true):=by simp[E5,h5]
   have n5':¬((x.Op=4∨x.Op=0)∧I3 x.Value≠0):=fun h=>h.2 h5;rw[if_neg n5,if_neg n5']
   by_cases h6:x.Op=4
   ·rw[if_pos (e6.2 h6),XJ];simp only[Option.bind_some]
    change (((if FL x=true then some 9 else some 0):Option Int).bind _).bind _=_
    by_cases h7:FL x=true
    ·rw[if_pos h7,if_pos (show x.Op=4∧FL x=true from⟨h6,h7⟩)];rfl
    rw[if_neg h7,if_neg (show¬(x.Op=4∧FL x=true)from fun h=>h7 h.2)]
    change (if EE x=true then some 3 else some 0)=_
    by_cases h8:EE x=true
    ·rw[if_pos h8,if_pos h8]
    rw[if_neg h8,if_neg h8]
   rw[if_neg (show¬(Ar.cmp .eql x.Op 4=true)from fun h=>h6 (e6.1 h)),if_neg (show¬(x.Op=4∧FL x=true)from fun h=>h6 h.1)]
   change (if EE x=true then some 3 else some 0)=_
   by_cases h8:EE x=true
   ·rw[if_pos h8,if_pos h8]
   rw[if_neg h8,if_neg h8]
  have n5:Ar.cmp .neq (I3 x.Value) 0=true:=by simp[E5,h5]
  rw[if_pos n5,if_pos (show(x.Op=4∨x.Op=0)∧I3 x.Value≠0 from⟨h4,h5⟩)];simp only[Option.bind_some];rw[if_pos n5];rfl
 rw[if_neg (show¬(Ar.or (Ar.cmp .eql x.Op 4) (Ar.cmp .eql x.Op 0)=true)from fun h=>h4 (e4.1 h)),if_neg (show¬((x.Op=4∨x.Op=0)∧I3 x.Value≠0)from fun h=>h4 h.1)];have h6:¬x.Op=4:=fun e=>h4 (.inl e);rw[if_neg (show¬(x.Op=4∧FL x=true)from fun h=>h6 h.1)]
 change (if EE x=true then some 3 else some 0)=_
 by_cases h8:EE x=true
 ·rw[if_pos h8,if_pos h8]
 rw[if_neg h8,if_neg h8]
end Go.Ab
namespace Go.Ab
theorem Y4 {a b:Int}(h:b<a):Ar.cmp .gtr a b=true:=by rw[N8];exact decide_eq_true h
theorem U3 {a b:Int}(h:¬b<a):¬(Ar.cmp .gtr a b=true):=by rw[N8];simpa using h
theorem J9 {a b:Int}(h:a≠b):Ar.cmp .neq a b=true:=by rw[E5];simpa using h
theorem J1 {a b:Int}(h:a=b):¬(Ar.cmp .neq a b=true):=by rw[E5];simpa using h
noncomputable def K8 (x:B0):Int:=if 64<x.pre.length then 5 else if 12<x.dep then 12 else Q6 Z6 x.pre
theorem OT {N:Nat}(hN:40000000≤N){x:B0}(hb:x.bulk≤16777216):Dc N x=some (K8 x):=by
 unfold Dc K8;rw[VM hN N x (by omega) hb];simp only[Option.bind_some]
 by_cases h1:64<x.pre.length
 ·rw[if_pos h1,if_pos (Y4 (by omega))]
 rw[if_neg h1,if_neg (U3 (by omega))]
 by_cases h2:12<x.dep
 ·rw[if_pos h2,if_pos (Y4 (by omega))]
 rw[if_neg h2,if_neg (U3 (by omega)),XC hN N x (by omega) hb fun y _=>Yp N y];rfl
theorem Nz {N:Nat}(hN:40000000≤N){x:B0}(hb:x.bulk≤16777216):Bi N x=some (K8 x):=by
 unfold Bi K8;obtain⟨r,h0,c1,c2,c3⟩:=Sx hN 64 N x (by omega) hb;rw[h0];simp only[Option.bind_some]
 by_cases h1:64<x.pre.length
 ·rw[if_pos h1,if_pos (Y4 (by omega))]
 rw[if_neg h1,if_neg (U3 (by omega)),Nw hN N x (by omega) hb];simp only[Option.bind_some]
 by_cases h2:12<x.dep
 ·rw[if_pos h2,if_pos (Y4 (by omega))]
 rw[if_neg h2,if_neg (U3 (by omega)),Ww hN (fun y=>Wx N y) N x (by omega) hb];rfl
noncomputable def Nk (a b:B0):Bool:=Ar.or (Ar.or (Ar.or (Ar.or (Ar.or (Ar.cmp .neq a.Op b.Op) (Ar.cmp .neq a.Var b.Var)) (Ar.cmp .neq a.Field b.Field)) (Ar.cmp .neq a.Kind b.Kind)) (Ar.nt (Ar.an (Ar.cmp .eql a.Value.Kind b.Value.Kind) (Ar.an (Ar.cmp .eql a.Value.Num b.Value.Num) (Ar.an (Ar.scmp .eql a.Value.Text b.Value.Text) true))))) (Ar.cmp .neq (Ar.len a.cR) (Ar.len b.cR))
theorem Oj (N:Nat):∀(n:Nat) (a b:B0),Ei N n a b=Q9 N n a b
 |0,_,_=>rfl
 |n+1,a,b=>by
  unfold Ei Q9;simp only[Oj N n]
theorem Oh {N:Nat} (hN:40000000≤N) (x:B0):∃b,Q9 N N x (⟨0,[],0,0,0,(⟨0,0,⟨#[]⟩⟩:A6)⟩:B0)=some b:=by
 obtain⟨M,rfl⟩:∃M,N=M+1:=⟨N - 1,by omega⟩;rw[Q9];generalize hz:(⟨0,[],0,0,0,(⟨0,0,⟨#[]⟩⟩:A6)⟩:B0)=z
 change ∃b,(if Nk x z=true then some false else _)=some b
 by_cases h:Nk x z=true
 ·rw[if_pos h];exact⟨_,rfl⟩
 rw[if_neg h]
 have hlen:x.cR.length=0:=by
  subst hz
  simp only[Nk,G7,E5,B1,List.length_nil]at h
  simp at h
  simpa using h.2
 have:x.cR=[]:=List.length_eq_zero_iff.1 hlen;refine⟨true,?_⟩;rw[show M+1=(M+1 - 1)+1 by omega];simp only[loopN,this,C2,B1];rfl
end Go.Ab
namespace Go.Ab
def DE (u:Bool)(n m:Int):Bool:=u&&(decide (n<0)||decide (m<n))
def O3 (u:Bool)(n:Int):Bool:=u||decide (n=0)
theorem Ic (N:Nat)(u:Bool)(n m:Int):S0 N u n m=some (!DE u n m):=by
 unfold S0;simp only[G7,M8,M6,K9,CJ,DE];cases u
 ·rfl
 by_cases h1:n<0<;>by_cases h2:m<n<;>simp[h1,h2]<;>omega
theorem VF (N:Nat)(u:Bool)(n:Int):L8 N u n=some (O3 u n):=rfl
theorem An4 (N:Nat)(u:Bool)(n m:Int):Ad N u n m=some (DE u n m):=rfl
noncomputable def Je (s:J8)(x:A0)(sz:Bool):Int:=
 if DE s.cU x.Typ 15=true then 2
 else if DE s.cU x.Var 15=true then 2
 else if DE s.scope x.cV 63=true then 2
 else if DE s.span x.Span 1099511627776=true then 2
 else if s.cond=true∧K8 x.cS≠0 then K8 x.cS
 else if(s.cond||sz)=true∧O3 s.cU x.Typ=true∧O3 s.cU x.Var=true∧O3 s.scope x.cV=true∧O3 s.span x.Span=true then 0 else 3
structure Ix (N:Nat) (x:A0) (s:J8) (ng:Bool):Prop where
 tab:B6 G2 x.Op=some s
 var:W8 N x=some s.cU
 neg:Y8 N x=some ng
 tim:V3 N x=some s.span
 con:AA N x=some s.cond
 sco:s.scope=(ng||s.span)
 ari:Dx N x=some (decide (s.cY≤x.cR.length∧(x.cR.length:Int)≤s.most))
theorem Am7 (n k:Int):decide (n=k)=(decide (k≤n)&&decide (n≤k)):=by
 rw[←Bool.decide_and];exact decide_eq_decide.2 ⟨fun h=>by omega,fun h=>by omega⟩
theorem Mz (N:Nat) (x:A0) (h0:0≤x.Op) (h1:x.Op≤10) (hl:x.cR.length≤64):∃s ng,Ix N x s ng:=by
 obtain⟨op,args,typ,var,scope,span,c⟩:=x
 simp only at h0 h1 hl
 have h:op=0∨op=1∨op=2∨op=3∨op=4∨op=5∨op=6∨op=7∨op=8∨op=9∨op=10:=by omega
 rcases h with h|h|h|h|h|h|h|h|h|h|h
 all_goals
  subst h;refine⟨_,_,rfl,rfl,rfl,rfl,rfl,rfl,?_⟩;unfold Dx;simp only[B9,K9,B1];simp
  try first|omega|exact Am7 _ _
theorem Ar0 {x:A0}(h0:0≤x.Op)(h1:x.Op≤10):¬(Ar.or (Ar.cmp .lss x.Op 0) (Ar.cmp .geq x.Op 11)=true):=by
 simp only[G7,C2,K9,Bool.or_eq_true,decide_eq_true_eq];omega
theorem Al0 {x:A0}(h0:0≤x.Op)(h1:x.Op≤10):¬(Ar.or (Ar.cmp .lss x.Op 0) (Ar.cmp .gtr x.Op 10)=true):=by
 simp only[G7,C2,N8,Bool.or_eq_true,decide_eq_true_eq];omega
theorem Ah5 {x:A0}(h:¬(0≤x.Op∧x.Op≤10)):Ar.or (Ar.cmp .lss x.Op 0) (Ar.cmp .geq x.Op 11)=true∧Ar.or (Ar.cmp .lss x.Op 0) (Ar.cmp .gtr x.Op 10)=true:=by
 simp only[G7,C2,K9,N8,Bool.or_eq_true,decide_eq_true_eq];omega
theorem Xc {N:Nat} (hN:40000000≤N) {x:A0} (hb:x.cS.bulk≤16777216) (h0:0≤x.Op) (h1:x.Op≤10) {s:J8} {ng:Bool} (hs:Ix N x s ng) {sz:Bool}
 (hz:Q9 N N x.cS (⟨0,[],0,0,0,(⟨0,0,⟨#[]⟩⟩:A6)⟩:B0)=some sz):
 R5 N x=some (if s.cY≤x.cR.length∧(x.cR.length:Int)≤s.most then Je s x sz else 15):=by
 unfold R5;rw[if_neg (Ar0 h0 h1),hs.tab];simp only[Option.bind_some]
 by_cases ha:s.cY≤x.cR.length∧(x.cR.length:Int)≤s.most
 ·rw [if_pos ha,if_neg (by simp only[G7,C2,N8,B1,Bool.or_eq_true,decide_eq_true_eq];omega)];rw[Ic,Ic,Ic,Ic,OT hN hb,Oj,hz];simp only[VF,Option.bind_some];unfold Je;generalize DE s.cU x.Typ 15=b1;generalize DE s.cU x.Var 15=b2;generalize DE s.scope x.cV 63=b3;generalize DE s.span x.Span 1099511627776=b4;generalize O3 s.cU x.Typ=c1;generalize O3 s.cU x.Var=c2;generalize O3 s.scope x.cV=c3;generalize O3 s.span x.Span=c4;generalize K8 x.cS=ec
  cases b1 with
  |true=>rfl
  | false =>
   cases b2 with
   |true=>rfl
   | false =>
    cases b3 with
    |true=>rfl
    | false=>
     cases b4 with
     |true=>rfl
     | false=>
      cases s.cond with
      | false=>
       cases sz with
       |false=>rfl
       | true=>
        cases c1 with
        |false=>rfl
        | true=>
         cases c2 with
         |false=>rfl
         | true=>
          cases c3 with
          |false=>rfl
          |true=>
           cases c4<;>rfl
      | true=>
       by_cases he:ec=0
       ·subst he
        cases c1 with
        |false=>cases sz<;>rfl
        | true=>
         cases c2 with
         |false=>cases sz<;>rfl
         | true=>
          cases c3 with
          |false=>cases sz<;>rfl
          |true=>
           cases c4<;>cases sz<;>rfl
       simp[M6,J9 he,he]
 rw[if_neg ha,if_pos (by simp only[G7,C2,N8,B1,Bool.or_eq_true,decide_eq_true_eq];omega)]
theorem Nh (u:Bool)(n:Int):Ar.an (Ar.nt u) (Ar.cmp .neq n 0)= !O3 u n:=by
 simp only[M8,M6,E5,O3,Bool.not_or]
theorem Vj (u w:Bool)(t v sc:Int):Ar.or (Ar.an (Ar.nt u) (Ar.or (Ar.cmp .neq t 0) (Ar.cmp .neq v 0))) (Ar.an (Ar.nt w) (Ar.cmp .neq sc 0))=((!O3 u t|| !O3 u v)|| !O3 w sc):=by
 rw[Nh];simp only[G7,M8,M6,E5,O3];cases u<;>simp
theorem GI {N:Nat} (hN:40000000≤N) {x:A0} (hb:x.cS.bulk≤16777216) (h0:0≤x.Op) (h1:x.Op≤10) {s:J8} {ng:Bool} (hs:Ix N x s ng) {sz:Bool}
 (hz:Q9 N N x.cS (⟨0,[],0,0,0,(⟨0,0,⟨#[]⟩⟩:A6)⟩:B0)=some sz):
 W9 N x=some (if s.cY≤x.cR.length∧(x.cR.length:Int)≤s.most then Je s x sz else 15):=by
 unfold W9;rw[if_neg (Al0 h0 h1),hs.ari,hs.var,hs.neg,hs.tim,hs.con,Nz hN hb,hz];simp only[Option.bind_some]
 by_cases ha:s.cY≤x.cR.length∧(x.cR.length:Int)≤s.most
 ·rw [if_pos ha,if_neg (by simp[M6,ha])];have sco:=hs.sco;simp only[An4,Option.bind_some];cases ng
  ·rw [if_neg (by simp)]
   simp only[Bool.false_or]at sco
   rw[Vj,Nh];unfold Je;rw[sco];generalize DE s.cU x.Typ 15=b1;generalize DE s.cU x.Var 15=b2;generalize DE s.span x.cV 63=b3;generalize DE s.span x.Span 1099511627776=b4;generalize O3 s.cU x.Typ=c1;generalize O3 s.cU x.Var=c2;generalize O3 s.span x.cV=c3;generalize O3 s.span x.Span=c4;generalize K8 x.cS=ec
   cases b1 with
   |true=>rfl
   | false=>
    cases b2 with
    |true=>rfl
    | false=>
     cases b3 with
     |true=>rfl
     | false=>
      cases b4 with
      |true=>rfl
      | false=>
       cases s.cond with
       |false=>cases sz<;>cases c1<;>cases c2<;>cases c3<;>cases c4<;>rfl
       |true=>
        by_cases he:ec=0
        ·subst he;cases sz<;>cases c1<;>cases c2<;>cases c3<;>cases c4<;>rfl
        simp[J9 he,he]
  rw[if_pos rfl]
  simp only[Bool.true_or]at sco
  rw[Vj,Nh];unfold Je;rw[sco];generalize DE s.cU x.Typ 15=b1;generalize DE s.cU x.Var 15=b2;generalize DE true x.cV 63=b3;generalize DE s.span x.Span 1099511627776=b4;generalize O3 s.cU x.Typ=c1;generalize O3 s.cU x.Var=c2;generalize O3 true x.cV=c3;generalize O3 s.span x.Span=c4;generalize K8 x.cS=ec
  cases b1 with
  |true=>rfl
  | false=>
   cases b2 with
   |true=>rfl
   | false=>
    cases b3 with
    |true=>rfl
    | false=>
     cases b4 with
     |true=>rfl
     | false=>
      cases s.cond with
      |false=>cases sz<;>cases c1<;>cases c2<;>cases c3<;>cases c4<;>rfl
      |true=>
       by_cases he:ec=0
       ·subst he;cases sz<;>cases c1<;>cases c2<;>cases c3<;>cases c4<;>rfl
       simp[J9 he,he]
 rw[if_neg ha,if_pos (by simp only[M6,decide_eq_false ha];rfl)]
end Go.Ab
namespace Go.Ab
mutual
theorem Ff :∀(x y:A0),y∈x.pre→y.bulk≤x.bulk∧y.pre.length≤x.pre.length
 |⟨op,args,typ,var,scope,span,c⟩,y,h=>by
  rw[A0.pre]at h
  rcases List.mem_cons.1 h with rfl|h
  ·exact⟨Nat.le_refl _,Nat.le_refl _⟩
  have:=MX args y h;simp only[A0.bulk,A0.pre,List.length_cons];omega
theorem MX :∀(l:List A0) (y:A0),y∈A0.pres l→y.bulk≤A0.bulks l∧y.pre.length≤(A0.pres l).length
 |[],y,h=>by simp[A0.pres]at h
 |a::l,y,h=>by
  rw[A0.pres]at h
  rcases List.mem_append.1 h with h|h
  ·have:=Ff a y h;simp only[A0.bulks,A0.pres,List.length_append];omega
  have:=MX l y h;simp only[A0.bulks,A0.pres,List.length_append];omega
end
theorem OV :∀l:List A0,l.length≤(A0.pres l).length
 |[]=>Nat.le_refl _
 |a::l=>by
  have:=OV l;simp only[A0.pres,A0.pre_eq a,List.length_append,List.length_cons];omega
theorem BY (x:A0):x.cR.length<x.pre.length:=by
 rw[A0.pre_eq];have:=OV x.cR;simp only[List.length_cons];omega
noncomputable def Bw (N:Nat)(y:A0):Int:=(W9 N y).getD 0
theorem Eg {N:Nat} (hN:40000000≤N) {y:A0} (hb:y.bulk≤16777216) (hl:y.cR.length≤64):R5 N y=some (Bw N y)∧W9 N y=some (Bw N y):=by
 have hc:y.cS.bulk≤16777216:=by have:=A0.bulk_eq y;omega
 have key:∃r,R5 N y=some r∧W9 N y=some r:=by
  by_cases h:0≤y.Op∧y.Op≤10
  ·obtain⟨s,ng,hs⟩:=Mz N y h.1 h.2 hl;obtain⟨sz,hz⟩:=Oh hN y.cS;exact⟨_,Xc hN hc h.1 h.2 hs hz,GI hN hc h.1 h.2 hs hz⟩
  obtain⟨h1,h2⟩:=Ah5 h;exact⟨1,by unfold R5;rw[if_pos h1],by unfold W9;rw[if_pos h2]⟩
 obtain⟨r,h1,h2⟩:=key
 have e:Bw N y=r:=by unfold Bw;rw[h2];rfl
 rw[e];exact⟨h1,h2⟩
noncomputable def O9 (N:Nat)(x:A0):Int:=if 64<x.pre.length then 5 else if 12<x.dep then 12 else Q6 (Bw N) x.pre
theorem Hz {N:Nat}(hN:40000000≤N){x:A0}(hb:x.bulk≤16777216):R0 N x=some x.pre:=by
 unfold R0 Aq;rw[ZM hN N x (by omega) hb];simp[O0]
theorem Aa0 {N:Nat}(hN:40000000≤N){x:A0}(hb:x.bulk≤16777216):Y2 N x=some (O9 N x):=by
 unfold Y2 O9;rw[ZT hN N x (by omega) hb];simp only[Option.bind_some]
 by_cases h1:64<x.pre.length
 ·rw[if_pos h1,if_pos (Y4 (by omega))]
 rw[if_neg h1,if_neg (U3 (by omega))]
 by_cases h2:12<x.dep
 ·rw[if_pos h2,if_pos (Y4 (by omega))]
 rw[if_neg h2,if_neg (U3 (by omega)),Hz hN hb];simp only[Option.bind_some];rw[Oq (f:=Bw N) fun y hy=>(Eg hN (by have:=Ff x y hy;omega) (by have:=Ff x y hy;have:=BY y;omega)).1]
 by_cases h3:Q6 (Bw N) x.pre=0
 ·rw[if_pos h3];simp[h3]
 rw[if_neg h3];rfl
theorem Yc {N:Nat} (hN:40000000≤N) {x:A0} (hb:x.bulk≤16777216):AB N x=some (O9 N x):=by
 unfold AB O9;obtain⟨r,h0,c1,c2,c3⟩:=QK hN 64 N x (by omega) hb;rw[h0];simp only[Option.bind_some]
 by_cases h1:64<x.pre.length
 ·rw[if_pos h1,if_pos (Y4 (by omega))]
 rw[if_neg h1,if_neg (U3 (by omega)),Sv hN N x (by omega) hb];simp only[Option.bind_some]
 by_cases h2:12<x.dep
 ·rw[if_pos h2,if_pos (Y4 (by omega))]
 rw[if_neg h2,if_neg (U3 (by omega)),MQ hN N x (by omega) hb];simp only[Option.bind_some];rw[F6 x.pre (by omega) (mk:=fun(_:Unit) i=>i) (body:=AP (W9 N)) (fin:=fun _=>.inl ()) (s:=()) (by omega) ?_ ?_]
 ·rw[Y9 (f:=Bw N) fun y hy=>(Eg hN (by have:=Ff x y hy;omega) (by have:=Ff x y hy;have:=BY y;omega)).2]
  by_cases h3:Q6 (Bw N) x.pre=0
  ·simp[h3]
  simp[h3]
 ·intro s i a ha hi;have e:Ar.ar .add .i64 (i:Int) 1=i+1:=C5 (by omega) (by omega);simp only[C2,B1,hi,decide_true,if_true,C6,ha,Option.bind_some,e,AP,E5]
  cases W9 N a with
  |none=>rfl
  |some r=>by_cases h:r=0<;>simp[h]
 intro s;simp[C2,B1]
end Go.Ab
