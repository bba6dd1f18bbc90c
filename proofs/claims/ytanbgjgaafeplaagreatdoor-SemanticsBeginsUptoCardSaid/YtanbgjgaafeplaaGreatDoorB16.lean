/- GTSt GTKt AbG1 AbI1 AbM1 AbG2 AbG3 GTBk GTM1 GTM2 GTM3 GTM4 GTM5 GTM6 GTM7 -/
import Derived.Test.YtanbgjgaafeplaaGreatDoorB15
import Derived.Deep.Slices
import Derived.Carry
import Derived.Lib.LaidTab
import Derived.Laws.Strings
set_option linter.all false
namespace Go.Ab
variable [Ar]
def M3 (N:Nat) (aH:List A4) (aS:A4→Option Bool):Option Int:=
 (loopN
  (fun(s1:Int)=>
   (
    if Ar.cmp .lss s1 (Ar.len aH)=true then
     (B9 aH s1).bind fun x3=>
     (aS x3).bind fun r4=>
     if r4=true then
      some (.inr (.inr s1))
     else
      some (.inl (Ar.ar .add .i64 s1 1))
    else
     some (.inr (.inl ()))
    :Option ((Int) ⊕ (Unit ⊕ Int))))
  N 0).bind fun s2=>
 match s2 with
 | .inl y5=>
  some (-1)
 | .inr y6=>
  some y6
def F2 (N:Nat)(aH:List A4)(aS:A4→Option Bool):Option Bool:=
 (M3 N aH aS).bind fun r1=>
 some (Ar.cmp .geq r1 0)
def V1 (N:Nat)(aM:A4)(aG:Af):Option Bool:=
 (Av N aM).bind fun r1=>
 some (Ar.an (Ar.cmp .eql r1.Time aG.Time) (Ar.an (Ar.cmp .eql r1.Source aG.Source) (Ar.an (Ar.cmp .eql r1.Seq aG.Seq) true)))
def H9 (N:Nat) (aH:List B6) (bX:B6→Option Bool):Option (List B6):=
 (E7 N aH bX).bind fun r1=>
 if Ar.cmp .eql r1 (-1)=true then
  some aH
 else
  (loopN
   (fun(s2:Int×Int×(List B6))=>
    (
     if Ar.cmp .lss s2.2.1 (Ar.len s2.2.2)=true then
      (Uj (inR s2.2.2 s2.2.1)).bind fun _=>
      (B9 s2.2.2 s2.2.1).bind fun x5=>
      (bX x5).bind fun r6=>
      if Ar.nt r6=true then
       (Uj (inR s2.2.2 s2.1)).bind fun _=>
       (HG s2.2.2 s2.1 (fun x7:B6=>x5)).bind fun l8=>
       some (.inl (Ar.ar .add .i64 s2.1 1,Ar.ar .add .i64 s2.2.1 1,l8))
      else
       some (.inl (s2.1,Ar.ar .add .i64 s2.2.1 1,s2.2.2))
     else
      some (.inr (s2.1,s2.2.2))
     :Option ((Int×Int×(List B6)) ⊕ ((Int×(List B6))))))
   N (r1,Ar.ar .add .i64 r1 1,aH)).bind fun s4=>
  (Y2 s4.2 (some s4.1) none none).bind fun l11=>
  (Y2 s4.2 none (some s4.1) none).bind fun l13=>
  some l13
def P9 (N:Nat)(bA:B6)(aG:Af):Option Bool:=
 (B9 bA.cR (Ar.ar .sub .i64 (Ar.len bA.cR) 1)).bind fun x1=>
 some (Ar.nt (Ar.an (Ar.cmp .eql x1.Ref.Time aG.Time) (Ar.an (Ar.cmp .eql x1.Ref.Source aG.Source) (Ar.an (Ar.cmp .eql x1.Ref.Seq aG.Seq) true))))
def X9 (N :Nat) (aA:A1) (aF:List A4):Option ((List B6)×Int):=
 (As N aA).bind fun r2=>
 if Ar.cmp .neq r2 0=true then
  some (([]:List B6),r2)
 else
  (AZ N aF).bind fun r4=>
  if Ar.cmp .neq r4 0=true then
   some (([]:List B6),r4)
  else
   (C3 N N (⟨aF,false⟩:A8) aA ([]) 0).bind fun r6=>
   (loopN
    (fun (s8:Int×(List B6))=>
     (
      if Ar.cmp .lss s8.1 (Ar.len r6)=true then
       (B9 r6 s8.1).bind fun x11=>
       (loopN
        (fun(s13:Int×B6)=>
         (
          if Ar.cmp .lss s13.1 (Ar.len x11)=true then
           (B9 x11 s13.1).bind fun x16=>
           (B9 aF x16.at_).bind fun x17=>
           (Av N x17).bind fun r18=>
           (S1 s13.2.cR ([(⟨x16.cV,r18⟩:D6)])).bind fun l20=>
           some (.inl (Ar.ar .add .i64 s13.1 1,{s13.2 with cR:=l20}))
          else
           some (.inr s13.2)
          :Option ((Int×B6) ⊕ (B6))))
        N (0,(⟨[]⟩:B6))).bind fun s15=>
       (S1 s8.2 ([s15])).bind fun l23=>
       some (.inl (Ar.ar .add .i64 s8.1 1,l23))
      else
       some (.inr s8.2)
      :Option ((Int×(List B6)) ⊕ (((List B6))))))
    N (0,([]:List B6))).bind fun s10=>
   (Gg (fun y1 y2=>X3 N y1 y2) s10).bind fun l25=>
   some (l25,0)
def Q0 (N:Nat) (aA:A1) (aF:List A4) (bI:Af):Option ((List B6)×Int):=
 (X9 N aA aF).bind fun l1=>
 if Ar.cmp .neq l1.2 0=true then
  some ([],l1.2)
 else
  (F2 N aF (fun y1=>V1 N y1 bI)).bind fun r3=>
  if Ar.nt r3=true then
   some ([],6)
  else
   (H9 N l1.1 (fun y1=>P9 N y1 bI)).bind fun l4=>
   some (l4,0)
def N2 (N:Nat)(aB:A4)(aG:Af):Option Bool:=
 (Aq N aB).bind fun r1=>
 some (Ar.an (Ar.cmp .eql r1.Time aG.Time) (Ar.an (Ar.cmp .eql r1.Source aG.Source) (Ar.an (Ar.cmp .eql r1.Seq aG.Seq) true)))
def I1 (N:Nat)(bA:B6)(aG:List B6):Option Bool:=
 (Dc N aG bA).bind fun r1=>
 some (Ar.nt r1)
def V7 (N:Nat) (aA:A1) (aF:List A4) (aT:Int):Option Bool:=
 (Ed N aA aF).bind fun r1=>
 if Ar.nt r1=true then
  (BV N).bind fun r2=>
  some r2
 else
  (Uj (Ar.cmp .neq (Ar.ar .add .i64 (Ar.len aF) 1) 0)).bind fun _=>
  (Au N aA aF).bind fun r3=>
  (Y2 aF none (some (Ar.ar .rem .i64 (Ar.wr .i64 aT) (Ar.ar .add .i64 (Ar.len aF) 1))) none).bind fun l4=>
  (Au N aA l4).bind fun r6=>
  if Ar.or (Ar.nt r3.2) (Ar.nt r6.2)=true then
   some false
  else
   (loopN
    (fun(s7:(List B6)×Int)=>
     (
      if Ar.cmp .lss s7.2 (Ar.len r3.1)=true then
       (B9 r3.1 s7.2).bind fun x10=>
       (B9 x10.cR (Ar.ar .sub .i64 (Ar.len x10.cR) 1)).bind fun x11=>
       (Y2 aF none (some (Ar.ar .rem .i64 (Ar.wr .i64 aT) (Ar.ar .add .i64 (Ar.len aF) 1))) none).bind fun l12=>
       (F2 N l12 (fun y1=>N2 N y1 x11.Ref)).bind fun r14=>
       if r14=true then
        (S1 s7.1 ([x10])).bind fun l16=>
        some (.inl (l16,Ar.ar .add .i64 s7.2 1))
       else
        some (.inl (s7.1,Ar.ar .add .i64 s7.2 1))
      else
       some (.inr s7.1)
      :Option (((List B6)×Int) ⊕ (((List B6))))))
    N ([],0)).bind fun s9=>
   (loopN
    (fun (s18:Int×Int)=>
     (
      if Ar.cmp .lss s18.2 (Ar.len aF)=true then
       (B9 aF s18.2).bind fun x20=>
       (Aq N x20).bind fun r21=>
       (Q0 N aA aF r21).bind fun r22=>
       if Ar.cmp .neq r22.2 0=true then
        some (.inr (.inr ()))
       else
        (E4 N r22.1 (fun y1=>I1 N y1 r3.1)).bind fun r23=>
        if r23=true then
         some (.inr (.inr ()))
        else
         some (.inl (Ar.ar .add .i64 s18.1 (Ar.len r22.1),Ar.ar .add .i64 s18.2 1))
      else
       some (.inr (.inl s18.1))
      :Option ((Int×Int) ⊕ (Int ⊕ Unit))))
    N (0,0)).bind fun s19=>
   match s19 with
   | .inl y24=>
    (CC N r6.1 s9).bind fun r25=>
    if Ar.an r25 (Ar.cmp .eql y24 (Ar.len r3.1))=true then
     (BV N).bind fun r26=>
     some r26
    else
     some false
   | .inr y27=>
    some false
end Go.Ab
namespace Go.Ab
open Go.RowKit Go.Proofs Go.Proofs.Tryz J7
variable [Ar][J7]
set_option maxRecDepth 100000
theorem c99 (N:Nat) (aH:List A4) (aU:V) (aS:A4→Option Bool) (bD:∀y1 q,aS y1=some q→R9 prog aU [(X6 y1)] (.bool q)) (r:Int) (h:M3 N aH aS=some r):B2 prog 99 [sr eAs3 aH,aU] (vi r):=by
 unfold M3 at h
 refine K5 cf0 func99 call99 ntmps99 ?_;intro E H0 K hE hK hO;cbv;refine E5 hE ?_;cbv;obtain⟨s2,hx,h⟩:=bind_some h;refine G6 cf0 hE Q4 (fun s1=>[(0,.v (sr eAs3 aH)),(1,.v (aU)),fi 7 (Ar.len aH),fi 8 s1]) (fun s1 H1=>B7 Eq H0 [] H1) (fun x e l H1=>match(generalizing:=false) x with| .inl y=>e= .exit 0∧l=[]∧B7 Eq H0 [] H1| .inr y=>e= .ret∧l=[fi 4 y]∧B7 Eq H0 [] H1) (by kernel_rfl) ?_ hx ?_ hO ?_
 ·intro s1 H o hO h;clear hx;cbv;refine A9 hE h (fun _ h=>?_) fun _ h=>?_
  ·cbv;refine C5 hE eAs8 h fun x3 h=>?_;cbv;refine Y0 hE (g:=fun r4=>.bool r4) h (fun r4 hx=>bD x3 r4 hx) (.refl _) fun r4 h=>?_;cbv;refine A9 hE h (fun _ h=>?_) fun _ h=>?_
   ·cbv;cases h;exact⟨_,_,rfl,⟨rfl,rfl,hO⟩,.e rfl .z,rfl⟩
   cbv;cases h;exact⟨_,rfl,.e4 .z,rfl,hO⟩
  cbv;cases h;exact⟨_,_,rfl,⟨rfl,rfl,hO⟩,.z,rfl⟩
 ·exact .e4 .z
 clear hx
 rcases s2 with y5|y6
 ·rintro e l H ⟨rfl,rfl,hO⟩;cbv;cases h;exact hK hO (.refl _)
 rintro e l H ⟨rfl,rfl,hO⟩;cbv;cases h;exact hK hO (.refl _)
theorem c43 (N:Nat)(aH:List A4)(aU:V)(aS:A4→Option Bool)(bD:∀y1 q,aS y1=some q→R9 prog aU [(X6 y1)] (.bool q))(r:Bool)(h:F2 N aH aS=some r):B2 prog 43 [sr eAs3 aH,aU] (.bool r):=by
 unfold F2 at h
 refine K5 cf0 func43 call43 ntmps43 ?_;intro E H0 K hE hK hO;cbv;refine A5 hE h (c99 N aH aU aS bD) (.refl _) fun r1 h=>?_;cbv;cases h;exact hK hO (.refl _)
def cf95 :Cf:=⟨[],[(1,3)],[],[],[],[]⟩
theorem c95 (N aM aG r)(h:V1 N aM aG=some r):B2 prog 95 [(X6 aM),.eref (HY aG) 0] (.bool r):=by
 unfold V1 at h
 refine K5 cf95 func95 call95 ntmps95 ?_;intro E H0 K hE hK hO;cbv;refine D1 hE (g:=fun r1=>(Ex r1)) h (c96 N aM) (.refl _) fun r1 h=>?_;cbv;cases h;exact hK hO (.refl _)
theorem c97 (N:Nat) (aH:List B6) (cE:V) (bX:B6→Option Bool) (cN:∀y1 q,bX y1=some q→R9 prog cE [(Ax y1)] (.bool q)) (r:(List B6)) (h:H9 N aH bX=some r):Nc prog 97 [cE] 1 (Ar.lst eAs2 aH) (Ar.lst eAs2 r):=by
 unfold H9 at h
 intro H0 q0 hq0 hk0;refine HD (T:=TT) (F:=upd H0 q0.id none) cf0 Q4 func97 (by rfl) (by kernel_rfl) call97 ntmps97 (by rfl) (by rfl) ?_;intro E K hE hK hN;have hO:B7 Eq (upd H0 q0.id none) [ob q0 1 eAs2 aH] H0:=B7.startO hk0;have hq0:CN q0 (Ar.len aH):=KX hq0;cbv;refine Uy hE (g:=fun r1=>vi r1) h (c83 N aH cE bX cN) (fun _=>.int _ _) (Yo hE hO hq0 0 rfl (.le (.refl _) (.nil))) fun r1 h=>?_;cbv;refine A9 hE h (fun _ h=>?_) fun _ h=>?_
 ·cbv;cases h;exact hK q0 _ _ (Ch hE hq0) (hO)
 cbv;obtain⟨s4,hx,h⟩:=bind_some h;refine Bd cf0 hE Q4 (γ:=OG) (fun s2 g=>[(0,.v (.own g.id g.lo g.n)),(1,.v (cE)),fi 5 s2.1,fi 6 s2.2.1]) (fun s2 g H1=>CN g (Ar.len s2.2.2)∧B7 Eq (upd H0 q0.id none) [ob g 1 eAs2 s2.2.2] H1) (fun x e l H1=>∃u1:OG,CN u1 (Ar.len x.2)∧e= .exit 0∧l=[(0,.v (.own u1.id u1.lo u1.n)),fi 5 x.1]∧B7 Eq (upd H0 q0.id none) [ob u1 1 eAs2 x.2] H1) (by kernel_rfl) ?_ q0 hx ?_ ?_ ?_
 ·rintro s2 q3 H o ⟨hq3,hO⟩ h;clear hx;cbv;refine Aj4 hE hq3 ?_;cbv;refine A9 hE h (fun _ h=>?_) fun _ h=>?_
  ·cbv;refine SY hE hO hq3 0 rfl h fun h=>?_;cbv;refine Uv hE eAt3 hO hq3 0 rfl h fun x5 h=>?_;cbv;refine Y0 hE (g:=fun r6=>.bool r6) h (fun r6 hx=>cN x5 r6 hx) (.refl _) fun r6 h=>?_;cbv;refine A9 hE h (fun _ h=>?_) fun _ h=>?_
   ·cbv;refine SY hE hO hq3 0 rfl h fun h=>?_;cbv;refine Rd hE (f:=eAs2) (esz:=1) (tz:=1) (off:=0) (u:=(fun x7:B6=>x5)) (fun _=>⟨_,.eq (eAt3 _) (.refl _),(by rw[eAt3];rfl),DN _,rfl⟩) (by decide) hO hq3 0 rfl h fun l8 H hq3 h hO=>?_;cbv;cases h;exact⟨_,q3,rfl,.e4 .z,rfl,hq3,hO⟩
   cbv;cases h;exact⟨_,q3,rfl,.e4 .z,rfl,hq3,hO⟩
  cbv;cases h;exact⟨_,_,rfl,⟨q3,hq3,rfl,rfl,hO⟩,.e2 .z,rfl⟩
 ·exact .e4 .z
 ·exact⟨hq0,hO⟩
 clear hx;rintro e l H ⟨q9,hq9,rfl,rfl,hO⟩;cbv;refine Wc hE hO hq9 0 rfl h fun l11 q10 hq10 h=>?_;cbv;refine Wd (f:=eAs2) hE hO hq9 0 rfl hq10 h fun l13 q12 H hxq12 hq12 hO h=>?_;cbv;refine Wb (f:=eAs2) hE hO hq12 0 rfl hxq12 ?_;cbv;cases h;exact hK q12 _ _ (Ch hE hq12) (hO)
def cf98 :Cf:=⟨[],[(1,10)],[],[],[],[]⟩
theorem c98 (N bA aG r)(h:P9 N bA aG=some r):B2 prog 98 [(Ax bA),.eref (HY aG) 0] (.bool r):=by
 unfold P9 at h
 refine K5 cf98 func98 call98 ntmps98 ?_;intro E H0 K hE hK hO;cbv;refine E5 hE ?_;cbv;refine C5 hE eAt6 h fun x1 h=>?_;cbv;cases h;exact hK hO (.refl _)
def cfo69 :Cf:=⟨[13,6000004,6000010],[(19,12)],[],[],[],[]⟩
theorem o69 (N aA aF r) (h:X9 N aA aF=some r):Ah3 prog 69 [(B8 aA),sr eAs3 aF] 1 (Ar.lst eAs2 r.1) (fun o=>.tup [o,vi r.2]):=by
 unfold X9 at h
 intro H0;refine TJ (T:=TT) (F:=H0) (mk:=fun o=>.tup [o,vi r.2]) (CP.tup [.bad,vi r.2] 0 (by simp)) cfo69 Q4 func69 (by rfl) (by kernel_rfl) call69 ntmps69 (by rfl) (by rfl) ?_;intro E K hE hK hN;have hO:B7 Eq H0 [] H0:=.start G0 rfl;cbv;refine JQ hE (f:=eAs2) hO fun q1 H hq1 hO=>?_;cbv;refine A5 hE h (c49 N aA) (.refl _) fun r2 h=>?_;cbv;refine A9 hE h (fun hc h=>?_) (fun hc h=>?_)
 ·cbv;refine JQ hE (f:=eAs2) hO fun q3 H hq3 hO=>?_;cbv;cases h;exact hK q3 _ 0 _ _ (Ch hE hq3) rfl hO (.tup (.refl _))
 cbv;refine A5 hE h (c126 N aF) (.refl _) fun r4 h=>?_;cbv;refine A9 hE h (fun hc h=>?_) (fun hc h=>?_)
 ·cbv;refine JQ hE (f:=eAs2) hO fun q5 H hq5 hO=>?_;cbv;cases h;exact hK q5 _ 0 _ _ (Ch hE hq5) rfl hO (.tup (.refl _))
 cbv;refine A5 hE h (c127 N N (⟨aF,false⟩:A8) aA ([]) 0) (.cons (.refl _) (.cons (.refl _) (.cons (.lit _ (F3)) (.refl _)))) fun r6 h=>?_;cbv;refine Ag2 hE (fun hc=>by cases hc) (fun hc=>?_);cbv;refine JQ hE (f:=eAs2) hO fun q7 H hq7 hO=>?_;cbv;refine E5 hE ?_;cbv;obtain⟨s10,hx,h⟩:=bind_some h;refine Bd cfo69 hE Q4 (γ:=OG) (fun s8 g=>[(1,.v (sr eAs3 aF)),(10,.v (.own g.id g.lo g.n)),(36,.v (sr eAs5 r6)),fi 37 (Ar.len r6),fi 38 s8.1]) (fun s8 g H1=>CN g (Ar.len s8.2)∧B7 Eq H0 [ob g 1 eAs2 s8.2,ob q1 1 eAs2 ([]:List B6)] H1) (fun x e l H1=>∃u1:OG,CN u1 (Ar.len x)∧e= .exit 0∧l=[(10,.v (.own u1.id u1.lo u1.n))]∧B7 Eq H0 [ob u1 1 eAs2 x,ob q1 1 eAs2 ([]:List B6)] H1) (by kernel_rfl) ?_ q7 hx ?_ ?_ ?_
 ·rintro s8 q9 H o ⟨hq9,hO⟩ h;clear hx;cbv;refine A9 hE h (fun hc h=>?_) (fun hc h=>?_)
  ·cbv;refine C5 hE eAt5 h fun x11 h=>?_;cbv;refine D0 hE hO fun b12 H hO=>?_;cbv;refine E5 hE ?_;cbv;replace hO:=hO.cast (L':=[cb b12 [.sl (Ar.lst eAt0 ([])) .nil],ob q9 1 eAs2 s8.2,ob q1 1 eAs2 ([]:List B6)]) (by simp only[ob,cb,sr,←F3]<;>rfl);replace hO:=hO.tl0 (t:=.nil) rfl;obtain⟨s15,hx,h⟩:=bind_some h;refine Bd cfo69 hE Q4 (γ:=E3) (fun s13 g=>[(1,.v (sr eAs3 aF)),(10,.v (.own q9.id q9.lo q9.n)),(13,.v (.ref b12 0)),(36,.v (sr eAs5 r6)),fi 37 (Ar.len r6),fi 38 s8.1,(42,.v (sr eAs1 x11)),fi 43 (Ar.len x11),fi 44 s13.1]) (fun s13 g H1=>BF g∧B7 Eq H0 [.tl g,cb b12 [.sl (Ar.lst eAt0 s13.2.cR) g],ob q9 1 eAs2 s8.2,ob q1 1 eAs2 ([]:List B6)] H1) (fun x e l H1=>∃u1:E3,BF u1∧e= .exit 2∧l=[(1,.v (sr eAs3 aF)),(10,.v (.own q9.id q9.lo q9.n)),(13,.v (.ref b12 0)),(36,.v (sr eAs5 r6)),fi 37 (Ar.len r6),fi 38 s8.1]∧B7 Eq H0 [.tl u1,cb b12 [.sl (Ar.lst eAt0 x.cR) u1],ob q9 1 eAs2 s8.2,ob q1 1 eAs2 ([]:List B6)] H1) (by kernel_rfl) ?_ .nil hx ?_ ?_ ?_
   ·rintro s13 t14 H o ⟨ht14,hO⟩ h;clear hx;cbv;refine A9 hE h (fun hc h=>?_) (fun hc h=>?_)
    ·cbv;refine C5 hE eAt4 h fun x16 h=>?_;cbv;refine B5 hE hO 1 rfl ?_;cbv;refine C5 hE eAs8 h fun x17 h=>?_;cbv;refine D1 hE (g:=fun r18=>(Ex r18)) h (c96 N x17) (.refl _) fun r18 h=>?_;cbv;refine FO (f:=eAt0) hE Km (by decide) hO 0 rfl ht14 (l:=s13.2.cR) (m:=[(⟨x16.cV,r18⟩:D6)]) (.refl _) (.lstc (.eq (eAt6 (⟨x16.cV,r18⟩:D6)) (.refl _)) (.lst0)) h fun l20 t19 H hO ht19 h=>?_;cbv;refine B4 hE hO 1 rfl rfl fun H hO=>?_;cbv;cases h;exact⟨_,t19,rfl,.e rfl (.e4 (.e4 .z)),rfl,ht19,hO⟩
    cbv;cases h;exact⟨_,_,rfl,⟨t14,ht14,rfl,rfl,hO⟩,.e2 (.e4 .z),rfl⟩
   ·exact .e rfl (.e4 (.e4 .z))
   ·exact⟨trivial,hO⟩
   clear hx;rintro e l H ⟨t21,ht21,rfl,rfl,hO⟩;cbv;refine B5 hE hO 1 rfl ?_;cbv;refine GO (f:=eAs2) hE DN (by decide) hO hq9 2 rfl (m:=[s15]) (GB (f:=eAs2) hE DN (.lstc (.eq (eAt3 s15) (.agg (.cons (.ro _ _) (.refl _)))) (.lst0))) h fun l23 q22 H hq22 hO h=>?_;cbv;cases h;exact⟨_,q22,rfl,.e rfl (.e4 .z),rfl,hq22,hO.tail.tail⟩
  cbv;cases h;exact⟨_,_,rfl,⟨q9,hq9,rfl,rfl,hO⟩,.e rfl .z,rfl⟩
 ·exact .e rfl (.e4 .z)
 ·exact⟨hq7,hO⟩
 clear hx;rintro e l H ⟨q24,hq24,rfl,rfl,hO⟩;cbv;refine Ml hE hO hq24 0 rfl h (fun l25 hx=>c128 (g:=102) (C:=[]) call102 (fun y1 y2 r hx=>c102 N y1 y2 r hx) hx) fun l25 H hq24 hO h=>?_;cbv;cases h;exact hK q24 _ 0 _ _ (Ch hE hq24) rfl hO (.tup (.refl _))
theorem c41 (N aA aF bI r)(h:Q0 N aA aF bI=some r):B2 prog 41 [(B8 aA),sr eAs3 aF,(Ex bI)] (.tup [sr eAs2 r.1,vi r.2]):=by
 unfold Q0 at h
 refine MW (T:=TT) cf0 Q4 func41 (by rfl) (by kernel_rfl) call41 ntmps41 (by rfl) (by rfl) ?_;intro E H0 K hE hK hF;have hO:B7 Eq H0 [] H0:=.start G0 rfl;cbv;refine Aa5 hE (f:=eAs2) (g:=fun l1=>l1.1) (mk:=fun l1 o=>.tup [o,vi l1.2]) h (o69 N aA aF) (.refl _) hO fun l1 q2 H hq2 hO h=>?_;cbv;refine A9 hE h (fun _ h=>?_) fun _ h=>?_
 ·cbv;cases h;exact hK _ _ _ hO (.tup (.cons (.lit _ (F3)) (.refl _)))
 cbv;refine A5 hE (g:=fun r3=>.bool r3) h (fun r3 hx=>c43 N aF (.func (.func 95) [] [.eref (HY bI) 0]) (fun y1=>V1 N y1 bI) (fun y1 r hx=>B2.value (F:=[]) (C:=[.eref (HY bI) 0]) (c95 N y1 bI r hx)) r3 hx) (.refl _) fun r3 h=>?_;cbv;refine A9 hE h (fun _ h=>?_) fun _ h=>?_
 ·cbv;cases h;exact hK _ _ _ hO (.tup (.cons (.lit _ (F3)) (.refl _)))
 cbv;refine Fq hE (f:=eAs2) hO hq2 0 rfl h (fun l4 hx=>c97 N l1.1 (.func (.func 98) [] [.eref (HY bI) 0]) (fun y1=>P9 N y1 bI) (fun y1 r hx=>B2.value (F:=[]) (C:=[.eref (HY bI) 0]) (c98 N y1 bI r hx)) l4 hx) (.refl _) fun l4 q5 H hq5 hO h=>?_;cbv;cases h;exact hF _ (CP.tup [.bad,vi 0] 0 (by simp)) q5 _ _ 0 _ _ hO rfl (Ch hE hq5) (.tup (.refl _))
def cf44 :Cf:=⟨[],[(1,3)],[],[],[],[]⟩
theorem c44 (N aB aG r)(h:N2 N aB aG=some r):B2 prog 44 [(X6 aB),.eref (HY aG) 0] (.bool r):=by
 unfold N2 at h
 refine K5 cf44 func44 call44 ntmps44 ?_;intro E H0 K hE hK hO;cbv;refine D1 hE (g:=fun r1=>(Ex r1)) h (c27 N aB) (.refl _) fun r1 h=>?_;cbv;cases h;exact hK hO (.refl _)
theorem c45 (N bA aG r)(h:I1 N bA aG=some r):B2 prog 45 [(Ax bA),.eref [sr eAs2 aG] 0] (.bool r):=by
 unfold I1 at h
 refine K5 cf0 func45 call45 ntmps45 ?_;intro E H0 K hE hK hO;cbv;refine A5 hE h (c24 N aG bA) (.refl _) fun r1 h=>?_;cbv;cases h;exact hK hO (.refl _)
def cf9 :Cf:=⟨[],[(5,9),(20,9)],[],[],[],[]⟩
theorem c9 (N aA aF aT r) (h:V7 N aA aF aT=some r):B2 prog 9 [(B8 aA),sr eAs3 aF,.int .u8 aT] (.bool r):=by
 unfold V7 at h
 refine K5 cf9 func9 call9 ntmps9 ?_;intro E H0 K hE hK hO;cbv;refine A5 hE h (c17 N aA aF) (.refl _) fun r1 h=>?_;cbv;refine A9 hE h (fun _ h=>?_) fun _ h=>?_
 ·cbv;refine A5 hE h (c13 N) (.refl _) fun r2 h=>?_;cbv;cases h;exact hK hO (.refl _)
 cbv;refine E5 hE ?_;cbv;refine Aa4 hE h fun h=>?_;cbv;refine A5 hE h (c18 N aA aF) (.refl _) fun r3 h=>?_;cbv;refine KZ hE (f:=eAs3) Hn h fun l4 t5 h=>?_;cbv;refine D1 hE (g:=fun r6=>.tup [sr eAs2 r6.1,.bool r6.2]) h (c18 N aA l4) (.cons (.refl _) (.cons (.ro _ _) (.refl _))) fun r6 h=>?_;cbv;refine A9 hE h (fun _ h=>?_) fun _ h=>?_
 ·cbv;cases h;exact hK hO (.refl _)
 cbv;refine E5 hE ?_;cbv;replace hO:=hO.tl0 (t:=.nil) rfl;obtain⟨s9,hx,h⟩:=bind_some h;refine Bd cf9 hE Q4 (γ:=E3) (fun s7 g=>[(1,.v (sr eAs3 aF)),(3,.v (.eref (D4 aA) 0)),fi 7 (Ar.ar .rem .i64 (Ar.wr .i64 aT) (Ar.ar .add .i64 (Ar.len aF) 1)),(8,.v (.eref [sr eAs2 r3.1] 0)),(10,.v (sr eAs2 r6.1)),(12,.v (.sl (Ar.lst eAs2 s7.1) g)),fi 13 0,(52,.v (sr eAs2 r3.1)),fi 53 (Ar.len r3.1),fi 54 s7.2]) (fun s7 g H1=>BF g∧B7 Eq H0 [.tl g] H1) (fun x e l H1=>∃u1:E3,BF u1∧e= .exit 0∧l=[(1,.v (sr eAs3 aF)),(3,.v (.eref (D4 aA) 0)),(8,.v (.eref [sr eAs2 r3.1] 0)),(10,.v (sr eAs2 r6.1)),(12,.v (.sl (Ar.lst eAs2 x) u1)),fi 13 0]∧B7 Eq H0 [.tl u1] H1) (by kernel_rfl) ?_ .nil hx ?_ ?_ ?_
 ·rintro s7 t8 H o ⟨ht8,hO⟩ h;clear hx;cbv;refine A9 hE h (fun _ h=>?_) fun _ h=>?_
  ·cbv;refine C5 hE eAt3 h fun x10 h=>?_;cbv;refine E5 hE ?_;cbv;refine C5 hE eAt6 h fun x11 h=>?_;cbv;refine KZ hE (f:=eAs3) Hn h fun l12 t13 h=>?_;cbv;refine A5 hE (g:=fun r14=>.bool r14) h (fun r14 hx=>c43 N l12 (.func (.func 44) [] [.eref (HY x11.Ref) 0]) (fun y1=>N2 N y1 x11.Ref) (fun y1 r hx=>B2.value (F:=[]) (C:=[.eref (HY x11.Ref) 0]) (c44 N y1 x11.Ref r hx)) r14 hx) (.cons (.ro _ _) (.refl _)) fun r14 h=>?_;cbv;refine A9 hE h (fun _ h=>?_) fun _ h=>?_
   ·cbv;refine FO (f:=eAs2) hE DN (by decide) hO 0 rfl ht8 (l:=s7.1) (m:=[x10]) (.refl _) (.lstc (.eq (eAt3 x10) (.refl _)) (.lst0)) h fun l16 t15 H hO ht15 h=>?_;cbv;cases h;exact⟨_,t15,rfl,.e2 (.e4 (.e4 .z)),rfl,ht15,hO⟩
   cbv;cases h;exact⟨_,t8,rfl,.e2 (.e4 (.e4 .z)),rfl,ht8,hO⟩
  cbv;cases h;exact⟨_,_,rfl,⟨t8,ht8,rfl,rfl,hO⟩,.e2 (.e4 .z),rfl⟩
 ·exact .e rfl (.e4 (.v (.slt _ (.lst0)) (.e rfl (.e rfl (.e rfl (.e rfl (.z)))))))
 ·exact⟨trivial,hO⟩
 clear hx;rintro e l H ⟨t17,ht17,rfl,rfl,hO⟩;cbv;refine E5 hE ?_;cbv;obtain⟨s19,hx,h⟩:=bind_some h;refine G6 cf9 hE Q4 (fun s18=>[(1,.v (sr eAs3 aF)),(3,.v (.eref (D4 aA) 0)),(8,.v (.eref [sr eAs2 r3.1] 0)),(10,.v (sr eAs2 r6.1)),(12,.v (.sl (Ar.lst eAs2 s9) t17)),fi 13 s18.1,(77,.v (sr eAs3 aF)),fi 78 (Ar.len aF),fi 79 s18.2]) (fun s18 H1=>B7 Eq H0 [.tl t17] H1) (fun x e l H1=>match(generalizing:=false) x with| .inl y=>e= .exit 2∧l=[(8,.v (.eref [sr eAs2 r3.1] 0)),(10,.v (sr eAs2 r6.1)),(12,.v (.sl (Ar.lst eAs2 s9) t17)),fi 13 y]∧B7 Eq H0 [.tl t17] H1| .inr y=>e= .ret∧l=[(6,.b false)]∧B7 Eq H0 [.tl t17] H1) (by kernel_rfl) ?_ hx ?_ hO ?_
 ·intro s18 H o hO h;clear hx;cbv;refine A9 hE h (fun _ h=>?_) fun _ h=>?_
  ·cbv;refine C5 hE eAs8 h fun x20 h=>?_;cbv;refine D1 hE (g:=fun r21=>(Ex r21)) h (c27 N x20) (.refl _) fun r21 h=>?_;cbv;refine D1 hE (g:=fun r22=>.tup [sr eAs2 r22.1,vi r22.2]) h (c41 N aA aF r21) (.refl _) fun r22 h=>?_;cbv;refine A9 hE h (fun _ h=>?_) fun _ h=>?_
   ·cbv;cases h;exact⟨_,_,rfl,⟨rfl,rfl,hO⟩,.b rfl (.z),rfl⟩
   cbv;refine A5 hE (g:=fun r23=>.bool r23) h (fun r23 hx=>c22 N r22.1 (.func (.func 45) [] [.eref [sr eAs2 r3.1] 0]) (fun y1=>I1 N y1 r3.1) (fun y1 r hx=>B2.value (F:=[]) (C:=[.eref [sr eAs2 r3.1] 0]) (c45 N y1 r3.1 r hx)) r23 hx) (.refl _) fun r23 h=>?_;cbv;refine A9 hE h (fun _ h=>?_) fun _ h=>?_
   ·cbv;cases h;exact⟨_,_,rfl,⟨rfl,rfl,hO⟩,.b rfl (.z),rfl⟩
   cbv;refine E5 hE ?_;cbv;cases h;exact⟨_,rfl,.e rfl (.e4 (.e4 .z)),rfl,hO⟩
  cbv;cases h;exact⟨_,_,rfl,⟨rfl,rfl,hO⟩,.e4 .z,rfl⟩
 ·exact .e rfl (.e4 (.e4 .z))
 clear hx
 rcases s19 with y24|y27
 ·rintro e l H ⟨rfl,rfl,hO⟩;cbv;refine A5 hE h (c16 N r6.1 s9) (.cons (.refl _) (.cons (.ro _ _) (.refl _))) fun r25 h=>?_;cbv;refine E5 hE ?_;cbv;refine A9 hE h (fun _ h=>?_) fun _ h=>?_
  ·cbv;refine A5 hE h (c13 N) (.refl _) fun r26 h=>?_;cbv;cases h;exact hK hO (.refl _)
  cbv;cases h;exact hK hO (.refl _)
 rintro e l H ⟨rfl,rfl,hO⟩;cbv;cases h;exact hK hO (.refl _)
end Go.Ab
namespace Go.Ab
open Go.RowKit Go.ChangeShapes Go.WideShapes
variable [G7]
def g0 (W:World):Gh:=⟨fun _=>none,fun _=>⟨0,0,0⟩,fun _=>none,fun b o=>∃v,W.cell? ⟨b,o,none⟩=some v,0,W.heap.size⟩
theorem rl0 {W:World}(hg:∀n,VR (g0 W) W (.pointer (some ⟨n,0,none⟩)) (G7.gl n)):Rl (g0 W) (fun _=>none) W:=
 ⟨fun id b h=>(by cases h),fun id id' b h=>(by simp[Gh.at]at h),fun b o h=>h,fun id _=>⟨rfl,rfl,rfl⟩,Nat.le_refl _,hg⟩
def Dx (g:Gh)(w:World)(cs:List Value)(xs:List V):Prop:=
 cs.length=xs.length∧∀i,i<xs.length→(cs.getD i undef).oneCell'=true∧VR g w (cs.getD i undef) (xs.getD i .bad)
theorem Dx.nil (g:Gh)(w:World):Dx g w [] []:=⟨rfl,fun i hi=>by simp at hi⟩
theorem Dx.one {g:Gh}{w:World}{v:Value}{x:V}(h1:v.oneCell'=true)(h:VR g w v x):Dx g w [v] [x]:=by
 refine⟨rfl,fun i hi=>?_⟩
 have:i=0:=by simpa using hi
 subst this;exact⟨h1,h⟩
theorem Dx.append {g:Gh} {w:World} {cs ds:List Value} {xs ys:List V} (h:Dx g w cs xs) (k:Dx g w ds ys):Dx g w (cs++ds) (xs++ys):=by
 refine⟨by simp[h.1,k.1],fun i hi=>?_⟩;have hl:=h.1
 simp only[List.length_append]at hi
 by_cases hx:i<xs.length
 ·have e1:(cs++ds).getD i undef=cs.getD i undef:=by simp[List.getD,List.getElem?_append_left (show i<cs.length by omega)]
  have e2:(xs++ys).getD i .bad=xs.getD i .bad:=by simp[List.getD,List.getElem?_append_left hx]
  rw[e1,e2];exact h.2 i hx
 have e1:(cs++ds).getD i undef=ds.getD (i - xs.length) undef:=by simp[List.getD,List.getElem?_append_right (show cs.length≤i by omega),hl]
 have e2:(xs++ys).getD i .bad=ys.getD (i - xs.length) .bad:=by simp[List.getD,List.getElem?_append_right (show xs.length≤i by omega)]
 rw[e1,e2];exact k.2 _ (by omega)
theorem Dx.join {g:Gh}{w:World}{cs:List Value}{xs ys:List V}{a n m:Nat}(h:Dx g w ((cs.drop a).take n) xs)(k:Dx g w ((cs.drop (a+n)).take m) ys):Dx g w ((cs.drop a).take (n+m)) (xs++ys):=by
 have:=h.append k
 rwa[show(cs.drop (a+n))=(cs.drop a).drop n by rw[List.drop_drop],←List.take_add]at this
theorem Dx.agg {g:Gh} {w:World} {cs:Array Value} {xs:List V} (h:Dx g w cs.toList xs):VR g w (.agg cs) (.agg xs):=by
 refine .agg (by simpa using h.1) (fun i hi=>?_) fun i hi=>?_
 ·have:=(h.2 i hi).1
  simpa[List.getD,Array.getD_eq_getD_getElem?]using this
 have:=(h.2 i hi).2
 simpa[List.getD,Array.getD_eq_getD_getElem?]using this
section
variable {H α:Type}{enc:TypeId×Value→H}{P:Program}{W:World}{base:Nat}{spare:Nat→Bool}{held:Bool}{t e:TypeId}{n:Nat}
def Opens (enc:TypeId×Value→H)(P:Program)(W:World)(base:Nat)(spare:Nat→Bool)(held:Bool)(t:TypeId)(f:α→V)(R:α→DataW H→Prop)(n:Nat):Prop:=
 ∀cs x,DataW.trod enc P W base spare held n t cs=some x→∃a,Dx (g0 W) W cs (f a).cells∧R a x.1
theorem JP {k:IntKind}(ht:P.underlying t=some (.int k)):Opens enc P W base spare held t (V.int k) (fun a d=>d= .lit (.int k a)) n:=by
 intro cs x h;obtain⟨a,rfl,rfl,_⟩:=DataW.trod_int ht h;exact⟨a,.one rfl (.int _ _),rfl⟩
theorem FM (ht:P.underlying t=some .bool):Opens enc P W base spare held t V.bool (fun a d=>d= .lit (.bool a)) n:=by
 intro cs x h;obtain⟨a,rfl,rfl⟩:=DataW.trod_bool ht h;exact⟨a,.one rfl (.bool _),rfl⟩
theorem VU (ht:P.underlying t=some .string):Opens enc P W base spare held t V.str (fun a d=>d= .lit (.string a.data.toList)∧a.size≤maxLen) n:=by
 intro cs x h;obtain⟨a,rfl,rfl,hl⟩:=DataW.trod_string ht h;exact⟨a,.one rfl (.str _),rfl,hl⟩
def RL (R:α→DataW H→Prop)(l:List α)(ds:List (DataW H)):Prop:=l.length=ds.length∧∀(i:Nat) a d,l[i]? =some a→ds[i]? =some d→R a d
def RS (R:α→DataW H→Prop)(l:List α)(d:DataW H):Prop:=l.length≤maxLen∧((d= .nil∧l=[])∨∃es sp,d= .slice es sp∧RL R l es)
theorem EE {f:α→V} {R:α→DataW H→Prop} (ht:P.underlying t=some (.slice e)) (hc:0<P.cellsOf e) (he:Opens enc P W base spare held e f R n):
 Opens enc P W base spare held t (fun l:List α=>.sl (l.map f) .ro) (RS R) (n+1):=by
 intro cs x h
 rcases DataW.trod_slice ht h with⟨rfl,rfl⟩|⟨a,len,cap,elems,rest,n',hn,rfl,rfl,hb,hl,hm,hlen,hel,hsp,hns⟩
 ·exact⟨[],.one rfl (.sl0 rfl),Nat.zero_le _,.inl ⟨rfl,rfl⟩⟩
 have hn':n'=n:=by omega
 subst hn'
 rcases Nat.eq_zero_or_pos len with h0|h0
 ·subst h0;have:elems=[]:=List.length_eq_zero_iff.1 hlen;subst this;exact⟨[],.one rfl (.sle (.inl rfl)),Nat.zero_le _,.inr ⟨_,_,rfl,rfl,fun i a d hi=>by simp at hi⟩⟩
 have one:∀i,i<len→∃cs' y b,W.cells? base (a.add (i*P.cellsOf e)) (P.cellsOf e)=some cs'∧elems[i]? =some y∧Dx (g0 W) W cs' (f b).cells∧R b y.1:=by
  intro i hi;have h1:=hel i hi
  have h2:elems[i]? =some (elems[i]'(by omega)):=by simp[hlen,hi]
  rw[h2]at h1
  obtain⟨cs',hcs,hy⟩:=Option.bind_eq_some_iff.1 h1;obtain⟨b,hr,hR⟩:=he cs' _ hy;exact⟨cs',_,b,hcs,h2,hr,hR⟩
 obtain⟨_,_,b0,_⟩:=one 0 h0
 haveI:Inhabited α:=⟨b0⟩
 obtain⟨A,hA⟩:=Deep.choose_lt (α:=α) (p:=fun i b=>∃cs' y,W.cells? base (a.add (i*P.cellsOf e)) (P.cellsOf e)=some cs'∧elems[i]? =some y∧Dx (g0 W) W cs' (f b).cells∧R b y.1)
  (fun i hi=>let⟨cs',y,b,h1,h2,h3,h4⟩:=one i hi;⟨b,cs',y,h1,h2,h3,h4⟩)
 have hspot:a.spot=none:=by
  obtain⟨cs',y,h1,_,_,_⟩:=hA 0 h0;obtain⟨_,hcl,hcell⟩:=World.cells?_some h1;have h2:=hcell 0 hc
  have e0:(a.add (0*P.cellsOf e)).add 0=a:=by simp[Addr.add]
  rw[e0]at h2
  have h3:cs'[0]? =some (cs'[0]'(by omega)):=by simp[hcl,hc]
  rw[h3]at h2
  unfold World.cell? at h2
  split at h2
  ·split at h2
   ·cases h2
   rename_i hs;simpa using hs
  cases h2
 obtain⟨b,o,s⟩:=a
 simp only at hspot
 subst hspot
 let l:=(List.range len).map A
 have hll:l.length=len:=by simp[l]
 have hg:∀i,i<len→(l.map f).getD i .bad=f (A i):=fun i hi=>by simp[l,List.getD,hi]
 have cell:∀i j,i<len→j<P.cellsOf e→∃v,W.cell? ⟨b,o+i*P.cellsOf e+j,none⟩=some v∧v.oneCell'=true∧VR (g0 W) W v ((f (A i)).cells.getD j .bad):=by
  intro i j hi hj;obtain⟨cs',y,h1,_,hr,_⟩:=hA i hi;obtain⟨_,hcl,hcell⟩:=World.cells?_some h1;have h2:=hcell j hj
  rw[R8,R8]at h2
  have h3:cs'[j]? =some (cs'.getD j undef):=by simp[List.getD,hcl,hj]
  rw[h3]at h2
  have:=hr.2 j (by rw[←hr.1,hcl];exact hj);exact⟨_,h2,this.1,this.2⟩
 refine⟨l,.one rfl ?_,by omega,.inr ⟨_,_,rfl,by simp[hll,hlen],fun i a' d hi hd=>?_⟩⟩
 ·have hz:∀i,i<len→((l.map f).getD i .bad).cells.length=P.cellsOf e:=fun i hi=>by
   obtain⟨cs',y,h1,_,hr,_⟩:=hA i hi;obtain⟨_,hcl,_⟩:=World.cells?_some h1;rw[hg i hi,←hr.1,hcl]
  refine .sl (sz:=P.cellsOf e) (fun i j=>(W.cell? ⟨b,o+i*P.cellsOf e+j,none⟩).getD undef) (by simp[hll]) hl hz (fun i j hi hj=>?_) (fun i j hi hj=>?_) (fun i j hi hj=>?_) (fun i j hi hj=>?_) trivial
  ·obtain⟨v,h1,_⟩:=cell i j hi hj;exact⟨v,h1⟩
  ·obtain⟨v,h1,_⟩:=cell i j hi hj;rw[h1];rfl
  ·obtain⟨v,h1,h2,_⟩:=cell i j hi hj;rw[h1];exact h2
  obtain⟨v,h1,h2,h3⟩:=cell i j hi hj;rw[h1,hg i hi];exact h3
 have hi':i<len:=by
  rcases Nat.lt_or_ge i l.length with h|h
  ·omega
  rw[List.getElem?_eq_none h]at hi;cases hi
 obtain⟨cs',y,h1,h2,h3,h4⟩:=hA i hi'
 have e1:a'=A i:=by simp[l,hi']at hi;exact hi.symm
 have e2:d=y.1:=by simp[h2]at hd;exact hd.symm
 rw[e1,e2];exact h4
theorem Tv {fs:Array Field} {xs:List (DataW H×List MemPlace)} {cs:List Value} {n:Nat} (hl:xs.length=fs.size)
 (hf:∀(i:Nat) (f:Field),fs[i]? =some f→DataW.trod enc P W base spare held n f.type ((cs.drop f.offset).take (P.cellsOf f.type))=xs[i]?) (i:Nat) {f:Field} (h:fs[i]? =some f):
 ∃y,xs[i]? =some y∧DataW.trod enc P W base spare held n f.type ((cs.drop f.offset).take (P.cellsOf f.type))=some y:=by
 have hi:i<fs.size:=by
  rcases Nat.lt_or_ge i fs.size with h'|h'
  ·exact h'
  rw[Array.getElem?_eq_none h']at h;cases h
 have h1:xs[i]? =some (xs[i]'(by omega)):=by simp[hl,hi]
 exact⟨_,h1,by rw[hf i f h,h1]⟩
end
end Go.Ab
namespace Go.Ab
noncomputable instance arInst :Ar where
 cmp:=KQ
 cmp_eq:=fun _ _ _=>rfl
 ar:=arI
 ar_eq:=fun _ _ _ _=>rfl
 sh:=shI
 sh_eq:=fun _ _ _ _=>rfl
 neg:=fun k n=>k.wrap (0 - n)
 neg_eq:=fun _ _=>rfl
 wr:=fun k n=>k.wrap n
 wr_eq:=fun _ _=>rfl
 scmp:=Al3
 scmp_eq:=fun _ _ _=>rfl
 cat:=fun a b=>a++b
 cat_eq:=fun _ _=>rfl
 slen:=fun s=>s.size
 slen_eq:=fun _=>rfl
 sat:=fun s i=>match s[i.toNat]? with|some b=>(b.toNat:Int)|none=>0
 sat_eq:=fun _ _=>rfl
 beq:=fun a b=>a==b
 beq_eq:=fun _ _=>rfl
 nt:=fun a=> !a
 nt_eq:=fun _=>rfl
 an:=fun a b=>a&&b
 an_eq:=fun _ _=>rfl
 or:=fun a b=>a||b
 or_eq:=fun _ _=>rfl
 pk:=fun c a b=>if c then a else b
 pk_eq:=fun _ _ _=>rfl
 mx:=fun a b=>if a<b then b else a
 mx_eq:=fun _ _=>rfl
 mn:=fun a b=>if b<a then b else a
 mn_eq:=fun _ _=>rfl
 ofs:=fun a b=>a+b
 ofs_eq:=fun _ _=>rfl
 ofN:=fun n=>n
 ofN_eq:=fun _=>rfl
 len:=fun l=>l.length
 len_eq:=fun _=>rfl
 lst:=fun f l=>l.map f
 lst_eq:=fun _ _=>rfl
end Go.Ab
namespace Go.Ab
theorem C0 (a b:Int):Ar.cmp .lss a b=decide (a<b):=rfl
theorem DH (a b:Int):Ar.cmp .leq a b=decide (a≤b):=rfl
theorem Bh (a b:Int):Ar.cmp .gtr a b=decide (b<a):=rfl
theorem Q8 (a b:Int):Ar.cmp .geq a b=decide (b≤a):=rfl
theorem C1 (a b:Int):Ar.cmp .eql a b=decide (a=b):=rfl
theorem G9 (a b:Int):Ar.cmp .neq a b= !decide (a=b):=rfl
theorem Y6 (a:Bool):Ar.nt a= !a:=rfl
theorem M8 (a b:Bool):Ar.an a b=(a&&b):=rfl
theorem Q3 (a b:Bool):Ar.or a b=(a||b):=rfl
theorem B3 {α:Type}(l:List α):Ar.len l=(l.length:Int):=rfl
theorem GP (a b:Int):Ar.mx a b=if a<b then b else a:=rfl
theorem Qu (s:ByteArray):Ar.slen s=(s.size:Int):=rfl
theorem CY {n:Int} (h0: -9223372036854775808≤n) (h1:n<9223372036854775808):IntKind.wrap .i64 n=n:=by
 have e:IntKind.wrap .i64 n=(if n % 18446744073709551616≥9223372036854775808 then n % 18446744073709551616 - 18446744073709551616 else n % 18446744073709551616):=by
  unfold IntKind.wrap;simp[IntKind.bits,IntKind.signed]
 rw[e]
 split<;>omega
theorem C4 {a b:Int}(h0: -9223372036854775808≤a+b)(h1:a+b<9223372036854775808):Ar.ar .add .i64 a b=a+b:=CY h0 h1
theorem Rh {S σ R α:Type} (l:List α) (hl:l.length<1000000000000) (step:S→Option (S ⊕ R)) (mk:σ→Int→S) (body:σ→α→Option (σ ⊕ R)) (fin:σ→R)
 (hstep:∀s (i:Nat) x,l[i]? =some x→step (mk s i)=(body s x).bind fun o=>match o with| .inl s'=>some (.inl (mk s' (i+1)))| .inr r=>some (.inr r))
 (hend:∀s,step (mk s l.length)=some (.inr (fin s))):
 ∀(k:Nat) (i:Nat) (s:σ) (N:Nat),i+k=l.length→k<N→loopN step N (mk s i)=(H7 body (l.drop i) s).bind fun o=>match o with| .inl s=>some (fin s)| .inr r=>some r:=by
 intro k
 induction k with
 |zero=>
  intro i s N hi hN;obtain⟨N,rfl⟩:∃M,N=M+1:=⟨N - 1,by omega⟩;have e:l.drop i=[]:=List.drop_eq_nil_of_le (by omega)
  have ei:((i:Nat):Int)=l.length:=by omega
  rw[e,ei];simp only[loopN,hend,H7,Option.bind_some]
 | succ k ih=>
  intro i s N hi hN;obtain⟨N,rfl⟩:∃M,N=M+1:=⟨N - 1,by omega⟩
  have hlt:i<l.length:=by omega
  have hx:l[i]? =some l[i]:=by simp[hlt]
  have e:l.drop i=l[i]::l.drop (i+1):=List.drop_eq_getElem_cons hlt;rw[e];simp only[loopN,hstep s i _ hx,H7]
  cases hb:body s l[i]with
  |none=>rfl
  | some o=>
   cases o with
   |inl s'=>
    simp only[Option.bind_some];have:=ih (i+1) s' N (by omega) (by omega);rw[show((i:Int)+1)=((i+1:Nat):Int) by omega];exact this
   |inr r=>rfl
theorem D7 {α:Type}{l:List α}{i:Nat}:B9 l (i:Int)=l[i]? :=by simp[B9]
theorem Pq {β S σ R α:Type} (l:List α) (step:S→Option (List β×(S ⊕ R))) (mk:σ→Int→S) (body:σ→α→Option (List β×(σ ⊕ R))) (fin:σ→R)
 (hstep:∀s (i:Nat) x,l[i]? =some x→step (mk s i)=(body s x).bind fun o=>match o with|(w,.inl s')=>some (w,.inl (mk s' (i+1)))|(w,.inr r)=>some (w,.inr r))
 (hend:∀s,step (mk s l.length)=some ([],.inr (fin s))):
 ∀(k:Nat) (i:Nat) (s:σ) (N:Nat),i+k=l.length→k<N→V4 step N (mk s i)=(Bl body (l.drop i) s).bind fun o=>match o with|(w,.inl s)=>some (w,fin s)|(w,.inr r)=>some (w,r):=by
 intro k
 induction k with
 |zero=>
  intro i s N hi hN;obtain⟨N,rfl⟩:∃M,N=M+1:=⟨N - 1,by omega⟩;have e:l.drop i=[]:=List.drop_eq_nil_of_le (by omega)
  have ei:((i:Nat):Int)=l.length:=by omega
  rw[e,ei];simp only[V4,hend,Bl,Option.bind_some]
 | succ k ih=>
  intro i s N hi hN;obtain⟨N,rfl⟩:∃M,N=M+1:=⟨N - 1,by omega⟩
  have hlt:i<l.length:=by omega
  have hx:l[i]? =some l[i]:=by simp[hlt]
  have e:l.drop i=l[i]::l.drop (i+1):=List.drop_eq_getElem_cons hlt;rw[e];simp only[V4,hstep s i _ hx,Bl]
  cases hb:body s l[i]with
  |none=>rfl
  | some o=>
   obtain⟨w,o⟩:=o
   cases o with
   | inl s'=>
    simp only[Option.bind_some];have:=ih (i+1) s' N (by omega) (by omega);rw[show((i:Int)+1)=((i+1:Nat):Int) by omega,this]
    cases hr:Bl body (l.drop (i+1)) s' with
    |none=>rfl
    |some q=>
     obtain⟨w',o'⟩:=q;cases o'<;>rfl
   |inr r=>rfl
theorem I9 {S σ R α:Type} (l:List α) (hl:l.length<1000000000000) {step:S→Option (S ⊕ R)} (mk:σ→Int→S) (body:σ→α→Option (σ ⊕ R)) (fin:σ→R) (s:σ) {N:Nat} (hN:l.length<N)
 (hstep:∀s (i:Nat) x,l[i]? =some x→(i:Int)<l.length→step (mk s i)=(body s x).bind fun o=>match o with| .inl s'=>some (.inl (mk s' (i+1)))| .inr r=>some (.inr r))
 (hend:∀s,step (mk s l.length)=some (.inr (fin s))):loopN step N (mk s 0)=(H7 body l s).bind fun o=>match o with| .inl s=>some (fin s)| .inr r=>some r:=by
 have:=Rh l hl step mk body fin (fun s i x h=>hstep s i x h (by
  rcases Nat.lt_or_ge i l.length with h'|h'
  ·omega
  rw[List.getElem?_eq_none h']at h;cases h)) hend l.length 0 s N (by omega) hN
 simpa using this
theorem Te {β S σ R α:Type} (l:List α) {step:S→Option (List β×(S ⊕ R))} (mk:σ→Int→S) (body:σ→α→Option (List β×(σ ⊕ R))) (fin:σ→R) (s:σ) {N:Nat} (hN:l.length<N)
 (hstep:∀s (i:Nat) x,l[i]? =some x→(i:Int)<l.length→step (mk s i)=(body s x).bind fun o=>match o with|(w,.inl s')=>some (w,.inl (mk s' (i+1)))|(w,.inr r)=>some (w,.inr r))
 (hend:∀s,step (mk s l.length)=some ([],.inr (fin s))):V4 step N (mk s 0)=(Bl body l s).bind fun o=>match o with|(w,.inl s)=>some (w,fin s)|(w,.inr r)=>some (w,r):=by
 have:=Pq l step mk body fin (fun s i x h=>hstep s i x h (by
  rcases Nat.lt_or_ge i l.length with h'|h'
  ·omega
  rw[List.getElem?_eq_none h']at h;cases h)) hend l.length 0 s N (by omega) hN
 simpa using this
theorem Y5 {α σ R:Type} {step:σ→α→Option (σ ⊕ R)} (I:List α→σ→Prop) (hs:∀x r s,I (x::r) s→∃s',step s x=some (.inl s')∧I r s'):∀{l:List α} {s:σ},I l s→∃s',H7 step l s=some (.inl s')∧I [] s'
 |[],s,h=>⟨s,rfl,h⟩
 |x::l,s,h=>by
  obtain⟨s',h1,h2⟩:=hs x l s h;obtain⟨s2,h3,h4⟩:=Y5 I hs h2;exact⟨s2,by simp only[H7,h1,h3],h4⟩
theorem LV {α β σ R:Type} {step:σ→α→Option (List β×(σ ⊕ R))} (I:List α→List β→σ→Prop) (hs:∀x r w s,I (x::r) w s→∃w' s',step s x=some (w',.inl s')∧I r (w++w') s'):
 ∀{l:List α} {w:List β} {s:σ},I l w s→∃w' s',Bl step l s=some (w',.inl s')∧I [] (w++w') s'
 |[],w,s,h=>⟨[],s,rfl,by simpa using h⟩
 |x::l,w,s,h=>by
  obtain⟨w1,s1,h1,h2⟩:=hs x l w s h;obtain⟨w2,s2,h3,h4⟩:=LV I hs h2;exact⟨w1++w2,s2,by simp only[Bl,h1,h3],by rw[←List.append_assoc];exact h4⟩
def T9 {α:Type}(f:α→Int):List α→Int
 |[]=>0
 |x::l=>if f x=0 then T9 f l else f x
theorem BY {α:Type} {f:α→Int}:∀{l:List α},T9 f l=0↔∀x∈l,f x=0
 |[]=>by simp[T9]
 |x::l=>by
  unfold T9
  split
  ·rename_i h;rw[BY];simp[h]
  rename_i h;simp[h]
theorem KM {α:Type} {f:α→Int}:∀{l m:List α},T9 f (l++m)=if T9 f l=0 then T9 f m else T9 f l
 |[],m=>by simp[T9]
 |x::l,m=>by
  simp only[List.cons_append,T9]
  split
  ·rw[KM]
  rename_i h;simp[h]
theorem NS {α:Type} {F:α→Option Int} {f:α→Int}:∀{l:List α},(∀x∈l,F x=some (f x))→
 H7 (fun(_:Unit) x=>(F x).bind fun r=>if Ar.cmp .neq r 0=true then some (Sum.inr r)else some (.inl ())) l ()=some (if T9 f l=0 then .inl ()else .inr (T9 f l))
 |[],_=>rfl
 | x::l,h=>by
  have h1:=NS (l:=l) fun y hy=>h y (by simp[hy]);unfold H7;simp only[h x (by simp),Option.bind_some,G9,T9]
  by_cases hz:f x=0
  ·simp only[hz,decide_true,Bool.not_true,Bool.false_eq_true,if_false,if_true]
   simpa only[G9]using h1
  simp[hz]
noncomputable def Az {α:Type}(F:α→Option Int)(_:Unit)(a:α):Option (Unit ⊕ (Unit ⊕ Int)):=(F a).bind fun r=>if Ar.cmp .neq r 0=true then some (.inr (.inr r))else some (.inl ())
theorem X2 {α:Type} {F:α→Option Int} {f:α→Int}:∀{l:List α},(∀x∈l,F x=some (f x))→H7 (Az F) l ()=some (if T9 f l=0 then .inl ()else .inr (.inr (T9 f l)))
 |[],_=>rfl
 |x::l,h=>by
  have h1:=X2 (l:=l) fun y hy=>h y (by simp[hy]);unfold H7 Az;simp only[h x (by simp),Option.bind_some,G9,T9]
  by_cases hz:f x=0
  ·simp only[hz,decide_true,Bool.not_true,Bool.false_eq_true,if_false,if_true];exact h1
  simp[hz]
end Go.Ab
namespace Go.Ab
open Go.RowKit Go.ChangeShapes Go.WideShapes
variable [G7]
section
variable {H α:Type}{enc:TypeId×Value→H}{P:Program}{W:World}{base:Nat}{spare:Nat→Bool}{held:Bool}{t e:TypeId}{n:Nat}
theorem NP {cs:List Value} {sz:Nat} {f:α→V}:∀(l:List α) (o:Nat),(∀(i:Nat) a,l[i]? =some a→Dx (g0 W) W ((cs.drop (o+i*sz)).take sz) (f a).cells)→Dx (g0 W) W ((cs.drop o).take (l.length*sz)) (l.flatMap fun a=>(f a).cells)
 |[],o,_=>by simp;exact .nil _ _
 | a::l,o,h=>by
  have h0:=h 0 a rfl
  rw[Nat.zero_mul,Nat.add_zero]at h0
  have h1:=NP l (o+sz) fun i b hi=>by
   have:=h (i+1) b (by simpa using hi)
   rwa[show o+(i+1)*sz=o+sz+i*sz by rw[Nat.add_mul];omega]at this
  have:=h0.join h1;rw[List.length_cons,List.flatMap_cons,show(l.length+1)*sz=sz+l.length*sz by rw[Nat.add_mul];omega];exact this
theorem QY {f:α→V} {R:α→DataW H→Prop} {m:Nat} (ht:P.underlying t=some (.array m e)) (hct:P.cellsOf t=m*P.cellsOf e) (hm:0<m) (he:∀n,Opens enc P W base spare held e f R n) {cs:List Value} {x:DataW H×List MemPlace}
 (h:DataW.trod enc P W base spare held n t cs=some x):∃l:List α,Dx (g0 W) W cs (l.flatMap fun a=>(f a).cells)∧∃ds,x.1= .agg ds∧RL R l ds:=by
 cases n with
 |zero=>simp[DataW.trod]at h
 | succ n=>
  simp only[DataW.trod,ht]at h
  split at h
  ·rename_i hl;obtain⟨xs,hmm,rfl⟩:=Option.map_eq_some_iff.1 h
   have hxl:xs.length=m:=by simpa using mapM_some_length hmm
   have one:∀i,i<m→∃b,Dx (g0 W) W ((cs.drop (i*P.cellsOf e)).take (P.cellsOf e)) (f b).cells∧∀y,xs[i]? =some y→R b y.1:=by
    intro i hi;have h1:=mapM_some_get hmm i i (by simp[hi])
    have h2:xs[i]? =some (xs[i]'(by omega)):=by simp[hxl,hi]
    rw[h2]at h1
    obtain⟨b,hr,hR⟩:=he n _ _ h1;exact⟨b,hr,fun y hy=>by rw[h2]at hy;cases hy;exact hR⟩
   obtain⟨b0,_⟩:=one 0 hm
   haveI:Inhabited α:=⟨b0⟩
   obtain⟨A,hA⟩:=Deep.choose_lt one
   have hat:∀(i:Nat) a,((List.range m).map A)[i]? =some a→i<m∧a=A i:=fun i a hi=>by
    rcases Nat.lt_or_ge i m with hlt|hge
    ·simp[hlt]at hi;exact⟨hlt,hi.symm⟩
    rw[List.getElem?_eq_none (by simpa using hge)]at hi;cases hi
   refine⟨(List.range m).map A,?_,_,rfl,by simp[hxl],fun i a d hi hd=>?_⟩
   ·have:=NP (cs:=cs) (sz:=P.cellsOf e) (f:=f) (W:=W) ((List.range m).map A) 0 (fun i a hi=>by
     obtain⟨h1,rfl⟩:=hat i a hi
     simpa using(hA i h1).1)
    simpa[List.take_of_length_le,hl,hct]using this
   obtain⟨h1,rfl⟩:=hat i a hi
   simp only[List.getElem?_map,Option.map_eq_some_iff]at hd
   obtain⟨y,hy,rfl⟩:=hd;exact(hA i h1).2 y hy
  cases h
theorem Rq {g:Nat} {cs:Array Value} {xs:List V} {name:String} (hg:P.globalNamed name=some g) (hv:W.var? P name=some cs) (hr:Dx (g0 W) W cs.toList xs):VR (g0 W) W (.pointer (some ⟨g,0,none⟩)) (.eref xs 0):=by
 have cell:∀j,j<xs.length→W.cell? ⟨g,0+j,none⟩=some (cs.toList.getD j undef):=fun j hj=>by
  have h1:=World.var?_cell hg hv j
  have h2:j<cs.size:=by have:=hr.1;simp at this;omega
  rw[Nat.zero_add,h1];simp[List.getD,h2]
 exact .eref (g:=g0 W) (o:=0) (off:=0) (fun j=>cs.toList.getD j undef) (fun j hj=>(⟨_,cell j hj⟩:∃v,W.cell? ⟨g,0+j,none⟩=some v)) (fun j hj=>cell j hj) (fun j hj=>(hr.2 j hj).1) fun j hj=>(hr.2 j hj).2
end
end Go.Ab
namespace Go.Ab
open Go.RowKit Go.ChangeShapes Go.WideShapes
variable [G7]
section
variable {H:Type}{enc:TypeId×Value→H}{P:Program}{W:World}{base:Nat}{spare:Nat→Bool}{held:Bool}{t e:TypeId}{n:Nat}
end
end Go.Ab
namespace Go.Ab
mutual
def A7.bulk :A7→Nat
 |⟨_,args,_,_,_,v⟩=>A7.bulks args+v.Text.size+9
def A7.bulks :List A7→Nat
 |[]=>1
 |a::r=>A7.bulk a+A7.bulks r
end
mutual
def A1.bulk :A1→Nat
 |⟨_,args,_,_,_,_,c⟩=>A1.bulks args+A7.bulk c+6
def A1.bulks :List A1→Nat
 |[]=>1
 |a::r=>A1.bulk a+A1.bulks r
end
end Go.Ab
namespace Go.Ab
mutual
def A7.pre :A7→List A7
 |⟨op,args,var,field,kind,val⟩=>⟨op,args,var,field,kind,val⟩::A7.pres args
def A7.pres :List A7→List A7
 |[]=>[]
 |a::r=>A7.pre a++A7.pres r
end
mutual
def A7.dep :A7→Nat
 |⟨_,args,_,_,_,_⟩=>A7.deps args+1
def A7.deps :List A7→Nat
 |[]=>0
 |a::r=>max (A7.dep a) (A7.deps r)
end
mutual
def A1.pre :A1→List A1
 |⟨op,args,typ,var,scope,span,c⟩=>⟨op,args,typ,var,scope,span,c⟩::A1.pres args
def A1.pres :List A1→List A1
 |[]=>[]
 |a::r=>A1.pre a++A1.pres r
end
mutual
def A1.dep :A1→Nat
 |⟨_,args,_,_,_,_,_⟩=>A1.deps args+1
def A1.deps :List A1→Nat
 |[]=>0
 |a::r=>max (A1.dep a) (A1.deps r)
end
theorem A7.pre_eq (x:A7):x.pre=x::A7.pres x.cQ:=by cases x;simp[A7.pre]
theorem A1.pre_eq (x:A1):x.pre=x::A1.pres x.cQ:=by cases x;simp[A1.pre]
theorem A7.dep_eq (x:A7):x.dep=A7.deps x.cQ+1:=by cases x;simp[A7.dep]
theorem A1.dep_eq (x:A1):x.dep=A1.deps x.cQ+1:=by cases x;simp[A1.dep]
theorem A7.bulk_eq (x:A7):x.bulk=A7.bulks x.cQ+x.Value.Text.size+9:=by cases x;simp[A7.bulk]
theorem A1.bulk_eq (x:A1):x.bulk=A1.bulks x.cQ+x.cS.bulk+6:=by cases x;simp[A1.bulk]
theorem Lm :∀(l:List A7),(∀a∈l,A7.bulk a≤A7.bulks l)∧l.length≤A7.bulks l
 |[]=>⟨fun a h=>by simp at h,by simp[A7.bulks]⟩
 |b::l=>by
  have h:=Lm l;have hb:=A7.bulk_eq b;simp only[A7.bulks,List.length_cons];refine⟨fun a ha=>?_,by omega⟩
  rcases List.mem_cons.1 ha with rfl|ha
  ·omega
  have:=h.1 a ha;omega
theorem Ll :∀(l:List A1),(∀a∈l,A1.bulk a≤A1.bulks l)∧l.length≤A1.bulks l
 |[]=>⟨fun a h=>by simp at h,by simp[A1.bulks]⟩
 |b::l=>by
  have h:=Ll l;have hb:=A1.bulk_eq b;simp only[A1.bulks,List.length_cons];refine⟨fun a ha=>?_,by omega⟩
  rcases List.mem_cons.1 ha with rfl|ha
  ·omega
  have:=h.1 a ha;omega
mutual
theorem SR :∀x:A7,x.pre.length≤x.bulk
 |⟨op,args,var,field,kind,val⟩=>by
  have:=ED args;simp only[A7.pre,A7.bulk,List.length_cons];omega
theorem ED :∀l:List A7,(A7.pres l).length≤A7.bulks l
 |[]=>by simp[A7.pres]
 |a::l=>by
  have h1:=SR a;have h2:=ED l;simp only[A7.pres,A7.bulks,List.length_append];omega
end
mutual
theorem DY :∀x:A1,x.pre.length≤x.bulk
 |⟨op,args,typ,var,scope,span,c⟩=>by
  have:=EC args;simp only[A1.pre,A1.bulk,List.length_cons];omega
theorem EC :∀l:List A1,(A1.pres l).length≤A1.bulks l
 |[]=>by simp[A1.pres]
 |a::l=>by
  have h1:=DY a;have h2:=EC l;simp only[A1.pres,A1.bulks,List.length_append];omega
end
mutual
theorem MS :∀x:A7,x.dep≤x.bulk
 |⟨op,args,var,field,kind,val⟩=>by
  have:=EO args;simp only[A7.dep,A7.bulk];omega
theorem EO :∀l:List A7,A7.deps l≤A7.bulks l
 |[]=>by simp[A7.deps]
 |a::l=>by
  have h1:=MS a;have h2:=EO l;simp only[A7.deps,A7.bulks];omega
end
mutual
theorem TD :∀x:A1,x.dep≤x.bulk
 |⟨op,args,typ,var,scope,span,c⟩=>by
  have:=EN args;simp only[A1.dep,A1.bulk];omega
theorem EN :∀l:List A1,A1.deps l≤A1.bulks l
 |[]=>by simp[A1.deps]
 |a::l=>by
  have h1:=TD a;have h2:=EN l;simp only[A1.deps,A1.bulks];omega
end
def Cut (lim:Int)(cnt:Nat)(r:Int):Prop:=1≤r∧r≤cnt∧(r=cnt∨lim<r)
section
variable {α:Type}
theorem GJ {lim:Int} {f:α→Option Int} {cnt:α→Nat} {B:Nat} (hB:B≤1000000000000):∀(l:List α) (s:Int),0≤s→s+(l.map cnt).sum≤B→(∀a∈l,∃r,f a=some r∧Cut lim (cnt a) r)→
 ∃o,H7 (fun(s:Int) x=>if s≤lim then(f x).bind fun r=>some (.inl (Ar.ar .add .i64 s r))else some (.inr s)) l s=some o∧
  ∃v,v=(match o with| .inl s=>s| .inr s=>s)∧s≤v∧v≤s+(l.map cnt).sum∧(v=s+(l.map cnt).sum∨lim<v)
 |[],s,h0,_,_=>⟨.inl s,rfl,s,rfl,Int.le_refl _,by simp,.inl (by simp)⟩
 | a::l,s,h0,hb,hf=>by
  simp only[List.map_cons,List.sum_cons]at hb ⊢
  unfold H7
  by_cases hs:s≤lim
  ·obtain⟨r,h1,h2,h3,h4⟩:=hf a (by simp);simp only[if_pos hs,h1,Option.bind_some];have e:Ar.ar .add .i64 s r=s+r:=C4 (by omega) (by omega);rw[e];obtain⟨o,k1,v,k2,k3,k4,k5⟩:=GJ hB l (s+r) (by omega) (by omega) fun b hb=>hf b (by simp[hb]);refine⟨o,k1,v,k2,by omega,by omega,?_⟩
   rcases k5 with k5|k5
   ·rcases h4 with h4|h4
    ·left;omega
    right;omega
   exact .inr k5
  simp only[if_neg hs];exact⟨_,rfl,s,rfl,Int.le_refl _,by omega,.inr (by omega)⟩
end
theorem Ie :∀l:List A1,(l.map fun a=>a.pre.length).sum=(A1.pres l).length
 |[]=>rfl
 |a::l=>by simp[A1.pres,Ie l]
theorem Ig :∀l:List A7,(l.map fun a=>a.pre.length).sum=(A7.pres l).length
 |[]=>rfl
 |a::l=>by simp[A7.pres,Ig l]
theorem Ql {N:Nat} (hN:40000000≤N) (lim:Int):∀(n:Nat) (x:A1),x.bulk≤n→x.bulk≤16777216→∃r,U1 N n x lim=some r∧Cut lim x.pre.length r:=by
 intro n
 induction n with
 |zero=>intro x h;have:=A1.bulk_eq x;omega
 | succ n ih=>
  intro x hx hb;have hxb:=A1.bulk_eq x;have hB:=Ll x.cQ;have hpb:=EC x.cQ;unfold U1;rw[I9 x.cQ (by omega) (mk:=fun(s:Int) i=>(s,i)) (body:=fun(s:Int) a=>if s≤lim then(U1 N n a lim).bind fun r=>some (.inl (Ar.ar .add .i64 s r))else some (.inr s)) (fin:=fun s=>s) (s:=1) (by omega) ?_ ?_]
  ·obtain⟨o,k1,v,k2,k3,k4,k5⟩:=GJ (lim:=lim) (f:=fun a=>U1 N n a lim) (cnt:=fun a=>a.pre.length) (B:=40000000) (by omega) x.cQ 1 (by omega) (by rw[Ie];omega) fun a ha=>ih a (by have:=hB.1 a ha;omega) (by have:=hB.1 a ha;omega)
   rw[Ie]at k4 k5
   have hpe:x.pre.length=(A1.pres x.cQ).length+1:=by rw[A1.pre_eq];rfl
   simp only[k1,Option.bind_some];refine⟨v,?_,by omega,by omega,?_⟩
   ·cases o<;>simp_all
   rcases k5 with k5|k5
   ·left;omega
   right;exact k5
  ·intro s i a ha hi;have e:Ar.ar .add .i64 (i:Int) 1=i+1:=C4 (by omega) (by omega);simp only[C0,DH,M8,B3,hi,decide_true,Bool.true_and,D7,ha,Option.bind_some,e,decide_eq_true_eq]
   split
   ·cases U1 N n a lim<;>rfl
   rfl
  intro s;simp[C0,M8,B3]
end Go.Ab
namespace Go.Ab
theorem Jf {x a:A1}(h:a∈x.cQ):a.bulk<x.bulk:=by
 have h1:=(Ll x.cQ).1 a h;have h2:=A1.bulk_eq x;omega
theorem Z9 {x a:A7}(h:a∈x.cQ):a.bulk<x.bulk:=by
 have h1:=(Lm x.cQ).1 a h;have h2:=A7.bulk_eq x;omega
theorem Ji (x:A1):x.cQ.length≤x.bulk:=by
 have h1:=(Ll x.cQ).2;have h2:=A1.bulk_eq x;omega
theorem Ec (x:A7):x.cQ.length≤x.bulk:=by
 have h1:=(Lm x.cQ).2;have h2:=A7.bulk_eq x;omega
theorem Ju (x:A1):0<x.bulk:=by have:=A1.bulk_eq x;omega
theorem CK (x:A7):0<x.bulk:=by have:=A7.bulk_eq x;omega
theorem RD {N:Nat} (hN:40000000≤N):∀(n:Nat) (x:A1),x.bulk≤n→x.bulk≤16777216→U3 N n x=some (x.dep:Int):=by
 intro n
 induction n with
 |zero=>intro x h;have:=Ju x;omega
 | succ n ih=>
  intro x hx hb;have hl:=Ji x;unfold U3;rw[I9 x.cQ (by omega) (mk:=fun(s:Int) i=>(s,i)) (body:=fun(s:Int) a=>(U3 N n a).bind fun r=>some (.inl (Ar.mx s r))) (fin:=fun s=>s) (s:=0) (by omega) ?_ ?_]
  ·obtain⟨s',k1,k2⟩:=Y5 (R:=Int) (step:=fun(s:Int) a=>(U3 N n a).bind fun r=>some (.inl (Ar.mx s r))) (fun r s=>(∀a∈r,a∈x.cQ)∧0≤s∧max s (A1.deps r:Int)=(A1.deps x.cQ:Int)) (fun a r s ⟨h1,h2,h3⟩=>by
    have hm:=Jf (h1 a (by simp));refine⟨_,by rw[ih a (by omega) (by omega)];rfl,fun b hb=>h1 b (by simp[hb]),?_,?_⟩
    ·rw[GP];split<;>omega
    rw[←h3,GP];simp only[A1.deps];split<;>omega) (l:=x.cQ) (s:=0) ⟨fun a h=>h,Int.le_refl _,by omega⟩
   simp only[k1,Option.bind_some]
   have e:s'=(A1.deps x.cQ:Int):=by have:=k2.2.2;simp only[A1.deps]at this;omega
   have hd:=EN x.cQ;have hd2:=A1.bulk_eq x;rw[e,C4 (by omega) (by omega),A1.dep_eq];rfl
  ·intro s i a ha hi;have e:Ar.ar .add .i64 (i:Int) 1=i+1:=C4 (by omega) (by omega);simp only[C0,B3,hi,decide_true,if_true,D7,ha,Option.bind_some,e];cases U3 N n a<;>rfl
  intro s;simp[C0,B3]
theorem Ad {α:Type}{l m:List α}(h:l.length+m.length≤1073741824):S1 l m=some (l++m):=by simp[S1,h]
theorem Md {N:Nat} (hN:40000000≤N):∀(n:Nat) (x:A1),x.bulk≤n→x.bulk≤16777216→R0 N n x=some x.pre:=by
 intro n
 induction n with
 |zero=>intro x h;have:=Ju x;omega
 | succ n ih=>
  intro x hx hb;have hl:=Ji x;unfold R0;rw[I9 x.cQ (by omega) (mk:=fun(s:List A1) i=>(s,i)) (body:=fun(s:List A1) a=>(R0 N n a).bind fun r=>(S1 s r).bind fun l=>some (.inl l)) (fin:=fun s=>s) (s:=[x]) (by omega) ?_ ?_]
  ·have hp:=DY x;have hpe:=A1.pre_eq x
   obtain⟨s',k1,k2⟩:=Y5 (R:=List A1) (step:=fun(s:List A1) a=>(R0 N n a).bind fun r=>(S1 s r).bind fun l=>some (.inl l)) (fun r s=>(∀a∈r,a∈x.cQ)∧s++A1.pres r=x.pre) (fun a r s ⟨h1,h2⟩=>by
    have hm:=Jf (h1 a (by simp));have hlen:=congrArg List.length h2
    simp only[A1.pres,List.length_append]at hlen
    refine⟨_,by rw[ih a (by omega) (by omega)];simp only[Option.bind_some];rw[Ad (by omega)];rfl,fun b hb=>h1 b (by simp[hb]),?_⟩
    rw[←h2];simp[A1.pres]) (l:=x.cQ) (s:=[x]) ⟨fun a h=>h,by rw[hpe];rfl⟩
   simp only[k1,Option.bind_some];have:=k2.2
   simp only[A1.pres,List.append_nil]at this
   rw[this]
  ·intro s i a ha hi;have e:Ar.ar .add .i64 (i:Int) 1=i+1:=C4 (by omega) (by omega);simp only[C0,B3,hi,decide_true,if_true,D7,ha,Option.bind_some,e]
   cases R0 N n a with
   |none=>rfl
   |some r=>simp only[Option.bind_some];cases S1 s r<;>rfl
  intro s;simp[C0,B3]
theorem ZF {N:Nat} (hN:40000000≤N):∀(n:Nat) (x:A1),x.bulk≤n→x.bulk≤16777216→T6 N n x=some ((x.pre.length:Int),(x.dep:Int)):=by
 intro n
 induction n with
 |zero=>intro x h;have:=Ju x;omega
 | succ n ih=>
  intro x hx hb;have hl:=Ji x;unfold T6;rw[I9 x.cQ (by omega) (mk:=fun(s:Int×Int) i=>(s.1,s.2,i)) (body:=fun(s:Int×Int) a=>(T6 N n a).bind fun r=>some (.inl (Ar.ar .add .i64 s.1 r.1,Ar.mx s.2 r.2))) (fin:=fun s=>s) (s:=(1,0)) (by omega) ?_ ?_]
  ·have hp:=EC x.cQ;have hd:=EN x.cQ;have hbe:=A1.bulk_eq x
   obtain⟨s',k1,k2⟩:=Y5 (R:=Int×Int) (step:=fun(s:Int×Int) a=>(T6 N n a).bind fun r=>some (.inl (Ar.ar .add .i64 s.1 r.1,Ar.mx s.2 r.2))) (fun r s=>(∀a∈r,a∈x.cQ)∧0≤s.2∧0≤s.1∧s.1+(A1.pres r).length=(A1.pres x.cQ).length+1∧max s.2 (A1.deps r:Int)=(A1.deps x.cQ:Int)) (fun a r s ⟨h1,h2,h3,h4,h5⟩=>by
    have hm:=Jf (h1 a (by simp))
    simp only[A1.pres,List.length_append,A1.deps]at h4 h5
    refine⟨_,by rw[ih a (by omega) (by omega)];rfl,fun b hb=>h1 b (by simp[hb]),?_,?_,?_,?_⟩
    ·simp only[GP];split<;>omega
    ·rw[C4 (by omega) (by omega)];omega
    ·rw[C4 (by omega) (by omega)];omega
    rw[←h5];simp only[GP];split<;>omega) (l:=x.cQ) (s:=(1,0)) ⟨fun a h=>h,by simp,by simp,by simp only;omega,by simp only;omega⟩
   simp only[k1,Option.bind_some];obtain⟨_,_,_,e1,e2⟩:=k2
   simp only[A1.pres,List.length_nil,A1.deps]at e1 e2
   have e3:s'.1=(x.pre.length:Int):=by rw[A1.pre_eq];simp only[List.length_cons];omega
   have e4:s'.2=(A1.deps x.cQ:Int):=by omega
   rw[e3,e4,C4 (by omega) (by omega),A1.dep_eq];rfl
  ·intro s i a ha hi;have e:Ar.ar .add .i64 (i:Int) 1=i+1:=C4 (by omega) (by omega);simp only[C0,B3,hi,decide_true,if_true,D7,ha,Option.bind_some,e];cases T6 N n a<;>rfl
  intro s;simp[C0,B3]
theorem Zx {N:Nat} (hN:40000000≤N):∀(n:Nat) (x:A1),x.bulk≤n→x.bulk≤16777216→T5 N n x=some x.pre:=by
 intro n
 induction n with
 |zero=>intro x h;have:=Ju x;omega
 | succ n ih=>
  intro x hx hb;have hl:=Ji x;unfold T5;rw[Te x.cQ (mk:=fun(_:Unit) i=>i) (body:=fun(_:Unit) a=>(T5 N n a).bind fun l=>some (l,.inl ())) (fin:=fun _=>()) (s:=()) (by omega) ?_ ?_]
  ·obtain⟨w,s',k1,k2⟩:=LV (R:=Unit) (step:=fun(_:Unit) a=>(T5 N n a).bind fun l=>some (l,.inl ())) (fun r w s=>(∀a∈r,a∈x.cQ)∧w++A1.pres r=A1.pres x.cQ) (fun a r w s ⟨h1,h2⟩=>by
    have hm:=Jf (h1 a (by simp));refine⟨a.pre,(),by rw[ih a (by omega) (by omega)];rfl,fun b hb=>h1 b (by simp[hb]),?_⟩
    rw[←h2];simp[A1.pres]) (l:=x.cQ) (w:=[]) (s:=()) ⟨fun a h=>h,by simp⟩
   have e:w=A1.pres x.cQ:=by have:=k2.2;simpa[A1.pres]using this
   rw[k1,e,A1.pre_eq];simp[N3]
  ·intro s i a ha hi;have e:Ar.ar .add .i64 (i:Int) 1=i+1:=C4 (by omega) (by omega);simp only[C0,B3,hi,decide_true,if_true,D7,ha,Option.bind_some,e];cases T5 N n a<;>simp[N3]
  intro s;simp[C0,B3]
end Go.Ab
namespace Go.Ab
theorem RF {N:Nat} (hN:40000000≤N) (lim:Int):∀(n:Nat) (x:A7),x.bulk≤n→x.bulk≤16777216→∃r,U5 N n x lim=some r∧Cut lim x.pre.length r:=by
 intro n
 induction n with
 |zero=>intro x h;have:=CK x;omega
 | succ n ih=>
  intro x hx hb;have hxb:=A7.bulk_eq x;have hB:=Lm x.cQ;have hpb:=ED x.cQ;unfold U5;rw[I9 x.cQ (by omega) (mk:=fun(s:Int) i=>(s,i)) (body:=fun(s:Int) a=>if s≤lim then(U5 N n a lim).bind fun r=>some (.inl (Ar.ar .add .i64 s r))else some (.inr s)) (fin:=fun s=>s) (s:=1) (by omega) ?_ ?_]
  ·obtain⟨o,k1,v,k2,k3,k4,k5⟩:=GJ (lim:=lim) (f:=fun a=>U5 N n a lim) (cnt:=fun a=>a.pre.length) (B:=40000000) (by omega) x.cQ 1 (by omega) (by rw[Ig];omega) fun a ha=>ih a (by have:=hB.1 a ha;omega) (by have:=hB.1 a ha;omega)
   rw[Ig]at k4 k5
   have hpe:x.pre.length=(A7.pres x.cQ).length+1:=by rw[A7.pre_eq];rfl
   simp only[k1,Option.bind_some];refine⟨v,?_,by omega,by omega,?_⟩
   ·cases o<;>simp_all
   rcases k5 with k5|k5
   ·left;omega
   right;exact k5
  ·intro s i a ha hi;have e:Ar.ar .add .i64 (i:Int) 1=i+1:=C4 (by omega) (by omega);simp only[C0,DH,M8,B3,hi,decide_true,Bool.true_and,D7,ha,Option.bind_some,e,decide_eq_true_eq]
   split
   ·cases U5 N n a lim<;>rfl
   rfl
  intro s;simp[C0,M8,B3]
theorem MR {N:Nat} (hN:40000000≤N):∀(n:Nat) (x:A7),x.bulk≤n→x.bulk≤16777216→U4 N n x=some (x.dep:Int):=by
 intro n
 induction n with
 |zero=>intro x h;have:=CK x;omega
 | succ n ih=>
  intro x hx hb;have hl:=Ec x;unfold U4;rw[I9 x.cQ (by omega) (mk:=fun(s:Int) i=>(s,i)) (body:=fun(s:Int) a=>(U4 N n a).bind fun r=>some (.inl (Ar.mx s r))) (fin:=fun s=>s) (s:=0) (by omega) ?_ ?_]
  ·obtain⟨s',k1,k2⟩:=Y5 (R:=Int) (step:=fun(s:Int) a=>(U4 N n a).bind fun r=>some (.inl (Ar.mx s r))) (fun r s=>(∀a∈r,a∈x.cQ)∧0≤s∧max s (A7.deps r:Int)=(A7.deps x.cQ:Int)) (fun a r s ⟨h1,h2,h3⟩=>by
    have hm:=Z9 (h1 a (by simp));refine⟨_,by rw[ih a (by omega) (by omega)];rfl,fun b hb=>h1 b (by simp[hb]),?_,?_⟩
    ·rw[GP];split<;>omega
    rw[←h3,GP];simp only[A7.deps];split<;>omega) (l:=x.cQ) (s:=0) ⟨fun a h=>h,Int.le_refl _,by omega⟩
   simp only[k1,Option.bind_some]
   have e:s'=(A7.deps x.cQ:Int):=by have:=k2.2.2;simp only[A7.deps]at this;omega
   have hd:=EO x.cQ;have hd2:=A7.bulk_eq x;rw[e,C4 (by omega) (by omega),A7.dep_eq];rfl
  ·intro s i a ha hi;have e:Ar.ar .add .i64 (i:Int) 1=i+1:=C4 (by omega) (by omega);simp only[C0,B3,hi,decide_true,if_true,D7,ha,Option.bind_some,e];cases U4 N n a<;>rfl
  intro s;simp[C0,B3]
theorem Vq {N:Nat} (hN:40000000≤N):∀(n:Nat) (x:A7),x.bulk≤n→x.bulk≤16777216→Bg N n x=some ((x.pre.length:Int),(x.dep:Int)):=by
 intro n
 induction n with
 |zero=>intro x h;have:=CK x;omega
 | succ n ih=>
  intro x hx hb;have hl:=Ec x;unfold Bg;rw[I9 x.cQ (by omega) (mk:=fun(s:Int×Int) i=>(s.1,s.2,i)) (body:=fun(s:Int×Int) a=>(Bg N n a).bind fun r=>some (.inl (Ar.ar .add .i64 s.1 r.1,Ar.mx s.2 r.2))) (fin:=fun s=>s) (s:=(1,0)) (by omega) ?_ ?_]
  ·have hp:=ED x.cQ;have hd:=EO x.cQ;have hbe:=A7.bulk_eq x
   obtain⟨s',k1,k2⟩:=Y5 (R:=Int×Int) (step:=fun(s:Int×Int) a=>(Bg N n a).bind fun r=>some (.inl (Ar.ar .add .i64 s.1 r.1,Ar.mx s.2 r.2))) (fun r s=>(∀a∈r,a∈x.cQ)∧0≤s.2∧0≤s.1∧s.1+(A7.pres r).length=(A7.pres x.cQ).length+1∧max s.2 (A7.deps r:Int)=(A7.deps x.cQ:Int)) (fun a r s ⟨h1,h2,h3,h4,h5⟩=>by
    have hm:=Z9 (h1 a (by simp))
    simp only[A7.pres,List.length_append,A7.deps]at h4 h5
    refine⟨_,by rw[ih a (by omega) (by omega)];rfl,fun b hb=>h1 b (by simp[hb]),?_,?_,?_,?_⟩
    ·simp only[GP];split<;>omega
    ·rw[C4 (by omega) (by omega)];omega
    ·rw[C4 (by omega) (by omega)];omega
    rw[←h5];simp only[GP];split<;>omega) (l:=x.cQ) (s:=(1,0)) ⟨fun a h=>h,by simp,by simp,by simp only;omega,by simp only;omega⟩
   simp only[k1,Option.bind_some];obtain⟨_,_,_,e1,e2⟩:=k2
   simp only[A7.pres,List.length_nil,A7.deps]at e1 e2
   have e3:s'.1=(x.pre.length:Int):=by rw[A7.pre_eq];simp only[List.length_cons];omega
   have e4:s'.2=(A7.deps x.cQ:Int):=by omega
   rw[e3,e4,C4 (by omega) (by omega),A7.dep_eq];rfl
  ·intro s i a ha hi;have e:Ar.ar .add .i64 (i:Int) 1=i+1:=C4 (by omega) (by omega);simp only[C0,B3,hi,decide_true,if_true,D7,ha,Option.bind_some,e];cases Bg N n a<;>rfl
  intro s;simp[C0,B3]
theorem Na {f:A7→Int}:∀l:List A7,T9 (fun a=>T9 f a.pre) l=T9 f (A7.pres l)
 |[]=>rfl
 |a::l=>by rw[A7.pres,KM,T9,Na l]
theorem Qo {a y:A7} (hy:y∈a.pre):∀l:List A7,a∈l→y∈A7.pres l
 |[],h=>by simp at h
 |b::l,h=>by
  rcases List.mem_cons.1 h with rfl|h
  ·simp[A7.pres,hy]
  simp[A7.pres,Qo hy l h]
theorem Xh {N:Nat} (hN:40000000≤N) {F:A7→Option Int} {f:A7→Int}:∀(n:Nat) (x:A7),x.bulk≤n→x.bulk≤16777216→(∀y∈x.pre,F y=some (f y))→AS N n x F=some (T9 f x.pre):=by
 intro n
 induction n with
 |zero=>intro x h;have:=CK x;omega
 | succ n ih=>
  intro x hx hb hF;have hl:=Ec x;have hpe:=A7.pre_eq x;unfold AS;rw[hF x (by rw[hpe];simp)];simp only[Option.bind_some,G9];rw[hpe,T9]
  by_cases hz:f x=0
  ·simp only[hz,decide_true,Bool.not_true,Bool.false_eq_true,if_false,if_true];rw[I9 x.cQ (by omega) (mk:=fun(_:Unit) i=>i) (body:=Az fun a=>AS N n a F) (fin:=fun _=>.inl ()) (s:=()) (by omega) ?_ ?_]
   ·rw[X2 (f:=fun a=>T9 f a.pre) fun a ha=>ih a (by have:=Z9 ha;omega) (by have:=Z9 ha;omega) fun y hy=>hF y (by rw[hpe];exact List.mem_cons_of_mem _ (Qo hy _ ha)),Na]
    by_cases hz3:T9 f (A7.pres x.cQ)=0
    ·simp[hz3]
    simp[hz3]
   ·intro s i a ha hi;have e:Ar.ar .add .i64 (i:Int) 1=i+1:=C4 (by omega) (by omega);simp only[C0,B3,hi,decide_true,if_true,D7,ha,Option.bind_some,e,Az,G9]
    cases AS N n a F with
    |none=>rfl
    |some r=>by_cases h:r=0<;>simp[h]
   intro s;simp[C0,B3]
  simp[hz]
theorem VZ {N:Nat} (hN:40000000≤N) {f:A7→Int} (hF:∀y,CD N y=some (f y)):∀(n:Nat) (x:A7),x.bulk≤n→x.bulk≤16777216→Z3 N n x=some (T9 f x.pre):=by
 intro n
 induction n with
 |zero=>intro x h;have:=CK x;omega
 | succ n ih=>
  intro x hx hb;have hl:=Ec x;have hpe:=A7.pre_eq x;unfold Z3;rw[hF x];simp only[Option.bind_some,G9];rw[hpe,T9]
  by_cases hz:f x=0
  ·simp only[hz,decide_true,Bool.not_true,Bool.false_eq_true,if_false,if_true];rw[I9 x.cQ (by omega) (mk:=fun(_:Unit) i=>i) (body:=Az fun a=>Z3 N n a) (fin:=fun _=>.inl ()) (s:=()) (by omega) ?_ ?_]
   ·rw[X2 (f:=fun a=>T9 f a.pre) fun a ha=>ih a (by have:=Z9 ha;omega) (by have:=Z9 ha;omega),Na]
    by_cases hz3:T9 f (A7.pres x.cQ)=0
    ·simp[hz3]
    simp[hz3]
   ·intro s i a ha hi;have e:Ar.ar .add .i64 (i:Int) 1=i+1:=C4 (by omega) (by omega);simp only[C0,B3,hi,decide_true,if_true,D7,ha,Option.bind_some,e,Az,G9]
    cases Z3 N n a with
    |none=>rfl
    |some r=>by_cases h:r=0<;>simp[h]
   intro s;simp[C0,B3]
  simp[hz]
end Go.Ab
namespace Go.Ab
theorem Lt {a b:ByteArray}:a.toList=b.toList↔a=b:=by
 rw[ByteArray.toList_eq,ByteArray.toList_eq]
 constructor
 ·intro h;obtain⟨⟨a⟩⟩:=a;obtain⟨⟨b⟩⟩:=b
  simp at h
  subst h;rfl
 intro h;rw[h]
theorem QG (a b:ByteArray):Ar.scmp .neq a b= !decide (a=b):=by
 show(!(a.toList==b.toList))=_
 by_cases h:a=b
 ·subst h;simp
 have:a.toList≠b.toList:=fun e=>h (Lt.1 e);simp[h,this]
theorem Fk (a b:ByteArray):Ar.scmp .eql a b=decide (a=b):=by
 show(a.toList==b.toList)=_
 by_cases h:a=b
 ·subst h;simp
 have:a.toList≠b.toList:=fun e=>h (Lt.1 e);simp[h,this]
theorem Al6 (N:Nat)(op:Int):El N op=some (if op<0∨12<op then(0,false)else if op<5 then(0,true)else if op=12 then(1,true)else(2,true)):=by
 unfold El;simp only[C0,Bh,C1,Q3,Bool.or_eq_true,decide_eq_true_eq]
 split
 ·rfl
 split
 ·rfl
 split<;>rfl
theorem Ad3 (N:Nat) (op:Int):Dg N op=some (if op<0∨12<op then -1 else if op<5 then 0 else if op=12 then 1 else 2):=by
 have h:op<0∨op=0∨op=1∨op=2∨op=3∨op=4∨op=5∨op=6∨op=7∨op=8∨op=9∨op=10∨op=11∨op=12∨12<op:=by omega
 unfold Dg;simp only[C1]
 rcases h with h|h|h|h|h|h|h|h|h|h|h|h|h|h|h
 all_goals first
  |(subst h;rfl)
  | (have h0:op≠0:=by omega
     have h1:op≠1:=by omega
     have h2:op≠2:=by omega
     have h3:op≠3:=by omega
     have h4:op≠4:=by omega
     have h5:op≠5:=by omega
     have h6:op≠6:=by omega
     have h7:op≠7:=by omega
     have h8:op≠8:=by omega
     have h9:op≠9:=by omega
     have ha:op≠10:=by omega
     have hb:op≠11:=by omega
     have hc:op≠12:=by omega
     simp[h0,h1,h2,h3,h4,h5,h6,h7,h8,h9,ha,hb,hc,h])
theorem Ao4 (N:Nat)(op:Int):Fy N op=some (decide (op=1∨op=2∨op=3∨op=4),decide (op=1∨op=4)):=by
 unfold Fy;simp only[C1,decide_eq_true_eq]
 by_cases h1:op=1
 ·simp[h1]
 by_cases h4:op=4
 ·simp[h4]
 by_cases h2:op=2
 ·simp[h2]
 by_cases h3:op=3<;>simp[h1,h2,h3,h4]
theorem Ai1 (N:Nat)(op:Int):DW N op=some (decide (op=1∨op=2∨op=3∨op=4),decide (op=1∨op=4)):=by
 unfold DW;simp only[C1,Q3]
 by_cases h1:op=1
 ·simp[h1]
 by_cases h4:op=4
 ·simp[h4]
 by_cases h2:op=2
 ·simp[h2]
 by_cases h3:op=3<;>simp[h1,h2,h3,h4]
def J0 (v:A6):Int:=
 if v.Kind=0∨v.Kind=1 then
  if v.Text≠⟨#[]⟩then 3
  else if v.Kind=0∧(v.Num< -1099511627776∨1099511627776<v.Num)∨v.Kind=1∧v.Num≠0∧v.Num≠1 then 2 else 0
 else if v.Kind=2 then(if v.Num≠0 then 3 else if 64<(v.Text.size:Int)then 13 else 0)else 1
theorem IS (N:Nat) (v:A6):U0 N v=some (J0 v):=by
 obtain⟨k,n,t⟩:=v;unfold U0 DU J0;simp only[C1,G9,C0,Bh,M8,Q3,QG,Qu]
 by_cases h0:k=0
 ·subst h0
  by_cases ht:t=⟨#[]⟩
  ·subst ht
   by_cases h1:n< -1099511627776∨1099511627776<n
   ·simp[h1]
   simp[h1];decide
  simp[ht]
 by_cases h1:k=1
 ·subst h1
  by_cases ht:t=⟨#[]⟩
  ·subst ht
   by_cases h2:n=0
   ·simp[h2];decide
   by_cases h3:n=1
   ·simp[h3];decide
   simp[h2,h3]
  simp[ht]
 by_cases h2:k=2
 ·subst h2
  by_cases hn:n=0
  ·simp[hn];split<;>rfl
  simp[hn]
 simp[h0,h1,h2]
theorem Vi (N:Nat) (v:A6):Dj N v=some (J0 v):=by
 obtain⟨k,n,t⟩:=v;unfold Dj J0;simp only[C1,G9,C0,Bh,M8,Q3,QG,Qu]
 by_cases h0:k=0
 ·subst h0
  by_cases ht:t=⟨#[]⟩
  ·subst ht
   by_cases h1:n< -1099511627776∨1099511627776<n
   ·simp[h1]
   simp[h1]
  simp[ht]
 by_cases h1:k=1
 ·subst h1
  by_cases ht:t=⟨#[]⟩
  ·subst ht
   by_cases h2:n=0
   ·simp[h2]
   by_cases h3:n=1
   ·simp[h3]
   have:n<0∨1<n:=by omega
   simp[h2,h3,this]
  simp[ht]
 by_cases h2:k=2
 ·subst h2
  by_cases hn:n=0
  ·simp[hn];split<;>rfl
  simp[hn]
 have:k<0∨2<k:=by omega
 simp[h0,h1,h2,this]
theorem Xp (N:Nat)(k:Int)(v:A6):Ek N k v=some (decide (v.Kind=0∨k=4∨k=5)):=by
 unfold Ek;simp only[C1,Q3]
 by_cases h1:v.Kind=0<;>by_cases h2:k=4<;>by_cases h3:k=5<;>simp[h1,h2,h3]
theorem Vk (N:Nat)(k:Int)(v:A6)(h:k≠0):Dh N k v=some (decide (v.Kind=0∨k=4∨k=5)):=by
 unfold Dh;simp only[C1,Q3]
 by_cases h1:v.Kind=0<;>by_cases h2:k=4<;>by_cases h3:k=5<;>simp[h,h1,h2,h3]
def Xi (op:Int):Bool:=decide (op=1∨op=2∨op=3∨op=4)
def Xj (op:Int):Bool:=decide (op=1∨op=4)
noncomputable def Pi (x:A7):Bool:=Ar.or (Ar.an (Xi x.Op) (Ar.or (Ar.cmp .lss x.Var 0) (Ar.cmp .geq x.Var 16))) (Ar.an (Xj x.Op) (Ar.or (Ar.cmp .lss x.Field 0) (Ar.cmp .geq x.Field 8)))
noncomputable def Mw (x:A7):Bool:=Ar.an (Ar.cmp .eql x.Op 4) (Ar.or (Ar.cmp .lss x.Kind 1) (Ar.cmp .gtr x.Kind 5))
noncomputable def ND (v:A6):Bool:=Ar.an (Ar.cmp .eql v.Kind 0) (Ar.an (Ar.cmp .eql v.Num 0) (Ar.an (Ar.scmp .eql v.Text (⟨#[]⟩)) true))
noncomputable def Fh (x:A7):Bool:=Ar.or (Ar.nt (decide (x.Value.Kind=0∨x.Kind=4∨x.Kind=5))) (Ar.an (Ar.cmp .eql x.Kind 1) (Ar.nt (ND x.Value)))
noncomputable def Ee (x:A7):Bool:=Ar.or (Ar.or (Ar.or (Ar.an (Ar.nt (Xi x.Op)) (Ar.cmp .neq x.Var 0)) (Ar.an (Ar.nt (Xj x.Op)) (Ar.cmp .neq x.Field 0))) (Ar.an (Ar.nt (Ar.cmp .eql x.Op 4)) (Ar.cmp .neq x.Kind 0))) (Ar.an (Ar.nt (Ar.or (Ar.cmp .eql x.Op 4) (Ar.cmp .eql x.Op 0))) (Ar.nt (ND x.Value)))
noncomputable def AK (x:A7):Int:=
 if x.Op<0∨12<x.Op then 1
 else if(x.cQ.length:Int)≠(if x.Op<5 then 0 else if x.Op=12 then 1 else 2)then 15
 else if Pi x=true then 2
 else if Mw x=true then 1
 else if(x.Op=4∨x.Op=0)∧J0 x.Value≠0 then J0 x.Value
 else if x.Op=4∧Fh x=true then 9
 else if Ee x=true then 3 else 0
theorem Wa (N:Nat) (x:A7):CD N x=some (AK x):=by
 unfold CD AK;rw[Ad3,Ai1];simp only[Option.bind_some]
 by_cases h0:x.Op<0∨12<x.Op
 ·rw[if_pos h0,if_pos h0];rfl
 rw[if_neg h0,if_neg h0]
 have ha:¬(Ar.cmp .lss (if x.Op<5 then 0 else if x.Op=12 then 1 else 2) 0=true):=by
  rw[C0];simp only[decide_eq_true_eq];split
  ·omega
  split<;>omega
 rw[if_neg ha]
 by_cases h1:(x.cQ.length:Int)≠(if x.Op<5 then 0 else if x.Op=12 then 1 else 2)
 ·rw[if_pos h1,if_pos (by simp[G9,B3,h1])]
 rw[if_neg h1,if_neg (by simp only[G9,B3];simpa using h1)]
 change (if Pi x=true then some 2 else _)=_
 by_cases h2:Pi x=true
 ·rw[if_pos h2,if_pos h2]
 rw[if_neg h2,if_neg h2]
 change (if Mw x=true then some 1 else _)=_
 by_cases h3:Mw x=true
 ·rw[if_pos h3,if_pos h3]
 rw[if_neg h3,if_neg h3];rw[Vi]
 have e4:(Ar.or (Ar.cmp .eql x.Op 4) (Ar.cmp .eql x.Op 0)=true)↔(x.Op=4∨x.Op=0):=by simp[C1,Q3]
 have e6:(Ar.cmp .eql x.Op 4=true)↔x.Op=4:=by simp[C1]
 by_cases h4:x.Op=4∨x.Op=0
 ·rw [if_pos (e4.2 h4)];simp only[Option.bind_some]
  by_cases h5:J0 x.Value=0
  ·have n5:¬(Ar.cmp .neq (J0 x.Value) 0=true):=by simp[G9,h5]
   have n5':¬((x.Op=4∨x.Op=0)∧J0 x.Value≠0):=fun h=>h.2 h5;rw[if_neg n5,if_neg n5'];simp only[Option.bind_some]
   by_cases h6:x.Op=4
   ·rw[if_pos (e6.2 h6)]
    have hk:x.Kind≠0:=by
     intro e;apply h3;simp[Mw,M8,Q3,C1,C0,h6,e]
    rw[Vk N _ _ hk];simp only[Option.bind_some]
    change (if Fh x=true then some 9 else if Ee x=true then some 3 else some 0)=_
    by_cases h7:Fh x=true
    ·rw[if_pos h7,if_pos (show x.Op=4∧Fh x=true from⟨h6,h7⟩)]
    rw[if_neg h7,if_neg (show¬(x.Op=4∧Fh x=true)from fun h=>h7 h.2)]
    by_cases h8:Ee x=true
    ·rw[if_pos h8,if_pos h8]
    rw[if_neg h8,if_neg h8]
   rw[if_neg (show¬(Ar.cmp .eql x.Op 4=true)from fun h=>h6 (e6.1 h)),if_neg (show¬(x.Op=4∧Fh x=true)from fun h=>h6 h.1)]
   change (if Ee x=true then some 3 else some 0)=_
   by_cases h8:Ee x=true
   ·rw[if_pos h8,if_pos h8]
   rw[if_neg h8,if_neg h8]
  have n5:Ar.cmp .neq (J0 x.Value) 0=true:=by simp[G9,h5]
  rw[if_pos n5,if_pos (show(x.Op=4∨x.Op=0)∧J0 x.Value≠0 from⟨h4,h5⟩)];rfl
 rw[if_neg (show¬(Ar.or (Ar.cmp .eql x.Op 4) (Ar.cmp .eql x.Op 0)=true)from fun h=>h4 (e4.1 h)),if_neg (show¬((x.Op=4∨x.Op=0)∧J0 x.Value≠0)from fun h=>h4 h.1)];simp only[Option.bind_some];have h6:¬x.Op=4:=fun e=>h4 (.inl e);rw[if_neg (show¬(Ar.cmp .eql x.Op 4=true)from fun h=>h6 (e6.1 h)),if_neg (show¬(x.Op=4∧Fh x=true)from fun h=>h6 h.1)]
 change (if Ee x=true then some 3 else some 0)=_
 by_cases h8:Ee x=true
 ·rw[if_pos h8,if_pos h8]
 rw[if_neg h8,if_neg h8]
theorem XT (N:Nat) (x:A7):DR N x=some (AK x):=by
 unfold DR AK;rw[Al6,Ao4];simp only[Option.bind_some]
 by_cases h0:x.Op<0∨12<x.Op
 ·rw[if_pos h0,if_pos h0];rfl
 rw[if_neg h0,if_neg h0]
 have ha:(if x.Op<5 then((0:Int),true)else if x.Op=12 then(1,true)else(2,true))=((if x.Op<5 then 0 else if x.Op=12 then 1 else 2),true):=by
  split
  ·rfl
  split<;>rfl
 rw[ha];rw[if_neg (by simp[Y6])]
 by_cases h1:(x.cQ.length:Int)≠(if x.Op<5 then 0 else if x.Op=12 then 1 else 2)
 ·rw[if_pos h1,if_pos (by simp[G9,B3,h1])]
 rw[if_neg h1,if_neg (by simp only[G9,B3];simpa using h1)]
 change (if Pi x=true then some 2 else _)=_
 by_cases h2:Pi x=true
 ·rw[if_pos h2,if_pos h2]
 rw[if_neg h2,if_neg h2]
 change (if Mw x=true then some 1 else _)=_
 by_cases h3:Mw x=true
 ·rw[if_pos h3,if_pos h3]
 rw[if_neg h3,if_neg h3];unfold Cm;rw[IS]
 have e4:(Ar.or (Ar.cmp .eql x.Op 4) (Ar.cmp .eql x.Op 0)=true)↔(x.Op=4∨x.Op=0):=by simp[C1,Q3]
 have e6:(Ar.cmp .eql x.Op 4=true)↔x.Op=4:=by simp[C1]
 by_cases h4:x.Op=4∨x.Op=0
 ·rw[if_pos (e4.2 h4)];simp only[Option.bind_some]
  by_cases h5:J0 x.Value=0
  ·have n5:¬(Ar.cmp .neq (J0 x.Value) 0=true):=by simp[G9,h5]
   have n5':¬((x.Op=4∨x.Op=0)∧J0 x.Value≠0):=fun h=>h.2 h5;rw[if_neg n5,if_neg n5']
   by_cases h6:x.Op=4
   ·rw[if_pos (e6.2 h6),Xp];simp only[Option.bind_some]
    change (((if Fh x=true then some 9 else some 0):Option Int).bind _).bind _=_
    by_cases h7:Fh x=true
    ·rw[if_pos h7,if_pos (show x.Op=4∧Fh x=true from⟨h6,h7⟩)];rfl
    rw[if_neg h7,if_neg (show¬(x.Op=4∧Fh x=true)from fun h=>h7 h.2)]
    change (if Ee x=true then some 3 else some 0)=_
    by_cases h8:Ee x=true
    ·rw[if_pos h8,if_pos h8]
    rw[if_neg h8,if_neg h8]
   rw[if_neg (show¬(Ar.cmp .eql x.Op 4=true)from fun h=>h6 (e6.1 h)),if_neg (show¬(x.Op=4∧Fh x=true)from fun h=>h6 h.1)]
   change (if Ee x=true then some 3 else some 0)=_
   by_cases h8:Ee x=true
   ·rw[if_pos h8,if_pos h8]
   rw[if_neg h8,if_neg h8]
  have n5:Ar.cmp .neq (J0 x.Value) 0=true:=by simp[G9,h5]
  rw[if_pos n5,if_pos (show(x.Op=4∨x.Op=0)∧J0 x.Value≠0 from⟨h4,h5⟩)];simp only[Option.bind_some];rw[if_pos n5];rfl
 rw[if_neg (show¬(Ar.or (Ar.cmp .eql x.Op 4) (Ar.cmp .eql x.Op 0)=true)from fun h=>h4 (e4.1 h)),if_neg (show¬((x.Op=4∨x.Op=0)∧J0 x.Value≠0)from fun h=>h4 h.1)];have h6:¬x.Op=4:=fun e=>h4 (.inl e);rw[if_neg (show¬(x.Op=4∧Fh x=true)from fun h=>h6 h.1)]
 change (if Ee x=true then some 3 else some 0)=_
 by_cases h8:Ee x=true
 ·rw[if_pos h8,if_pos h8]
 rw[if_neg h8,if_neg h8]
end Go.Ab
namespace Go.Ab
theorem AB {a b:Int}(h:b<a):Ar.cmp .gtr a b=true:=by rw[Bh];exact decide_eq_true h
theorem V5 {a b:Int}(h:¬b<a):¬(Ar.cmp .gtr a b=true):=by rw[Bh];simpa using h
theorem T7 {a b:Int}(h:a≠b):Ar.cmp .neq a b=true:=by rw[G9];simpa using h
theorem P7 {a b:Int}(h:a=b):¬(Ar.cmp .neq a b=true):=by rw[G9];simpa using h
noncomputable def L6 (x:A7):Int:=if 64<x.pre.length then 5 else if 12<x.dep then 12 else T9 AK x.pre
theorem Oz {N:Nat}(hN:40000000≤N){x:A7}(hb:x.bulk≤16777216):CI N x=some (L6 x):=by
 unfold CI L6;rw[Vq hN N x (by omega) hb];simp only[Option.bind_some]
 by_cases h1:64<x.pre.length
 ·rw[if_pos h1,if_pos (AB (by omega))]
 rw[if_neg h1,if_neg (V5 (by omega))]
 by_cases h2:12<x.dep
 ·rw[if_pos h2,if_pos (AB (by omega))]
 rw[if_neg h2,if_neg (V5 (by omega)),Xh hN N x (by omega) hb fun y _=>XT N y];rfl
theorem TG {N:Nat}(hN:40000000≤N){x:A7}(hb:x.bulk≤16777216):BS N x=some (L6 x):=by
 unfold BS L6;obtain⟨r,h0,c1,c2,c3⟩:=RF hN 64 N x (by omega) hb;rw[h0];simp only[Option.bind_some]
 by_cases h1:64<x.pre.length
 ·rw[if_pos h1,if_pos (AB (by omega))]
 rw[if_neg h1,if_neg (V5 (by omega)),MR hN N x (by omega) hb];simp only[Option.bind_some]
 by_cases h2:12<x.dep
 ·rw[if_pos h2,if_pos (AB (by omega))]
 rw[if_neg h2,if_neg (V5 (by omega)),VZ hN (fun y=>Wa N y) N x (by omega) hb];rfl
noncomputable def MA (a b:A7):Bool:=Ar.or (Ar.or (Ar.or (Ar.or (Ar.or (Ar.cmp .neq a.Op b.Op) (Ar.cmp .neq a.Var b.Var)) (Ar.cmp .neq a.Field b.Field)) (Ar.cmp .neq a.Kind b.Kind)) (Ar.nt (Ar.an (Ar.cmp .eql a.Value.Kind b.Value.Kind) (Ar.an (Ar.cmp .eql a.Value.Num b.Value.Num) (Ar.an (Ar.scmp .eql a.Value.Text b.Value.Text) true))))) (Ar.cmp .neq (Ar.len a.cQ) (Ar.len b.cQ))
theorem NO (N:Nat):∀(n:Nat) (a b:A7),DS N n a b=Q1 N n a b
 |0,_,_=>rfl
 |n+1,a,b=>by
  unfold DS Q1;simp only[NO N n]
theorem NN {N:Nat} (hN:40000000≤N) (x:A7):∃b,Q1 N N x (⟨0,[],0,0,0,(⟨0,0,⟨#[]⟩⟩:A6)⟩:A7)=some b:=by
 obtain⟨M,rfl⟩:∃M,N=M+1:=⟨N - 1,by omega⟩;rw[Q1];generalize hz:(⟨0,[],0,0,0,(⟨0,0,⟨#[]⟩⟩:A6)⟩:A7)=z
 change ∃b,(if MA x z=true then some false else _)=some b
 by_cases h:MA x z=true
 ·rw[if_pos h];exact⟨_,rfl⟩
 rw[if_neg h]
 have hlen:x.cQ.length=0:=by
  subst hz
  simp only[MA,Q3,G9,B3,List.length_nil]at h
  simp at h
  simpa using h.2
 have:x.cQ=[]:=List.length_eq_zero_iff.1 hlen;refine⟨true,?_⟩;rw[show M+1=(M+1 - 1)+1 by omega];simp only[loopN,this,C0,B3];rfl
end Go.Ab
namespace Go.Ab
def Dn (u:Bool)(n m:Int):Bool:=u&&(decide (n<0)||decide (m<n))
def N5 (u:Bool)(n:Int):Bool:=u||decide (n=0)
theorem Hk (N:Nat)(u:Bool)(n m:Int):R3 N u n m=some (!Dn u n m):=by
 unfold R3;simp only[Q3,M8,Y6,Q8,DH,Dn];cases u
 ·rfl
 by_cases h1:n<0<;>by_cases h2:m<n<;>simp[h1,h2]<;>omega
theorem Vj (N:Nat)(u:Bool)(n:Int):L5 N u n=some (N5 u n):=rfl
theorem Al5 (N:Nat)(u:Bool)(n m:Int):Y4 N u n m=some (Dn u n m):=rfl
noncomputable def Iq (s:J3)(x:A1)(sz:Bool):Int:=
 if Dn s.cT x.Typ 15=true then 2
 else if Dn s.cT x.Var 15=true then 2
 else if Dn s.scope x.cU 63=true then 2
 else if Dn s.span x.Span 1099511627776=true then 2
 else if s.cond=true∧L6 x.cS≠0 then L6 x.cS
 else if(s.cond||sz)=true∧N5 s.cT x.Typ=true∧N5 s.cT x.Var=true∧N5 s.scope x.cU=true∧N5 s.span x.Span=true then 0 else 3
structure HF (N:Nat) (x:A1) (s:J3) (ng:Bool):Prop where
 tab:B9 F5 x.Op=some s
 var:V2 N x=some s.cT
 neg:X1 N x=some ng
 tim:U2 N x=some s.span
 con:Ah N x=some s.cond
 sco:s.scope=(ng||s.span)
 ari:De N x=some (decide (s.cX≤x.cQ.length∧(x.cQ.length:Int)≤s.most))
theorem Ak8 (n k:Int):decide (n=k)=(decide (k≤n)&&decide (n≤k)):=by
 rw[←Bool.decide_and];exact decide_eq_decide.2 ⟨fun h=>by omega,fun h=>by omega⟩
theorem LJ (N:Nat) (x:A1) (h0:0≤x.Op) (h1:x.Op≤10) (hl:x.cQ.length≤64):∃s ng,HF N x s ng:=by
 obtain⟨op,args,typ,var,scope,span,c⟩:=x
 simp only at h0 h1 hl
 have h:op=0∨op=1∨op=2∨op=3∨op=4∨op=5∨op=6∨op=7∨op=8∨op=9∨op=10:=by omega
 rcases h with h|h|h|h|h|h|h|h|h|h|h
 all_goals
  subst h;refine⟨_,_,rfl,rfl,rfl,rfl,rfl,rfl,?_⟩;unfold De;simp only[C1,Q8,B3];simp
  try first|omega|exact Ak8 _ _
theorem Ap0 {x:A1}(h0:0≤x.Op)(h1:x.Op≤10):¬(Ar.or (Ar.cmp .lss x.Op 0) (Ar.cmp .geq x.Op 11)=true):=by
 simp only[Q3,C0,Q8,Bool.or_eq_true,decide_eq_true_eq];omega
theorem Aj0 {x:A1}(h0:0≤x.Op)(h1:x.Op≤10):¬(Ar.or (Ar.cmp .lss x.Op 0) (Ar.cmp .gtr x.Op 10)=true):=by
 simp only[Q3,C0,Bh,Bool.or_eq_true,decide_eq_true_eq];omega
theorem Af8 {x:A1}(h:¬(0≤x.Op∧x.Op≤10)):Ar.or (Ar.cmp .lss x.Op 0) (Ar.cmp .geq x.Op 11)=true∧Ar.or (Ar.cmp .lss x.Op 0) (Ar.cmp .gtr x.Op 10)=true:=by
 simp only[Q3,C0,Q8,Bh,Bool.or_eq_true,decide_eq_true_eq];omega
theorem WF {N:Nat} (hN:40000000≤N) {x:A1} (hb:x.cS.bulk≤16777216) (h0:0≤x.Op) (h1:x.Op≤10) {s:J3} {ng:Bool} (hs:HF N x s ng) {sz:Bool}
 (hz:Q1 N N x.cS (⟨0,[],0,0,0,(⟨0,0,⟨#[]⟩⟩:A6)⟩:A7)=some sz):
 Q5 N x=some (if s.cX≤x.cQ.length∧(x.cQ.length:Int)≤s.most then Iq s x sz else 15):=by
 unfold Q5;rw[if_neg (Ap0 h0 h1),hs.tab];simp only[Option.bind_some]
 by_cases ha:s.cX≤x.cQ.length∧(x.cQ.length:Int)≤s.most
 ·rw [if_pos ha,if_neg (by simp only[Q3,C0,Bh,B3,Bool.or_eq_true,decide_eq_true_eq];omega)];rw[Hk,Hk,Hk,Hk,Oz hN hb,NO,hz];simp only[Vj,Option.bind_some];unfold Iq;generalize Dn s.cT x.Typ 15=b1;generalize Dn s.cT x.Var 15=b2;generalize Dn s.scope x.cU 63=b3;generalize Dn s.span x.Span 1099511627776=b4;generalize N5 s.cT x.Typ=c1;generalize N5 s.cT x.Var=c2;generalize N5 s.scope x.cU=c3;generalize N5 s.span x.Span=c4;generalize L6 x.cS=ec
  cases b1 with
  |true=>rfl
  | false =>
   cases b2 with
   |true=>rfl
   | false =>
    cases b3 with
    |true=>rfl
    | false=>
     cases b4 with
     |true=>rfl
     | false=>
      cases s.cond with
      | false=>
       cases sz with
       |false=>rfl
       | true=>
        cases c1 with
        |false=>rfl
        | true=>
         cases c2 with
         |false=>rfl
         | true=>
          cases c3 with
          |false=>rfl
          |true=>
           cases c4<;>rfl
      | true=>
       by_cases he:ec=0
       ·subst he
        cases c1 with
        |false=>cases sz<;>rfl
        | true=>
         cases c2 with
         |false=>cases sz<;>rfl
         | true=>
          cases c3 with
          |false=>cases sz<;>rfl
          |true=>
           cases c4<;>cases sz<;>rfl
       simp[Y6,T7 he,he]
 rw[if_neg ha,if_pos (by simp only[Q3,C0,Bh,B3,Bool.or_eq_true,decide_eq_true_eq];omega)]
theorem Mx (u:Bool)(n:Int):Ar.an (Ar.nt u) (Ar.cmp .neq n 0)= !N5 u n:=by
 simp only[M8,Y6,G9,N5,Bool.not_or]
theorem UM (u w:Bool)(t v sc:Int):Ar.or (Ar.an (Ar.nt u) (Ar.or (Ar.cmp .neq t 0) (Ar.cmp .neq v 0))) (Ar.an (Ar.nt w) (Ar.cmp .neq sc 0))=((!N5 u t|| !N5 u v)|| !N5 w sc):=by
 rw[Mx];simp only[Q3,M8,Y6,G9,N5];cases u<;>simp
theorem FY {N:Nat} (hN:40000000≤N) {x:A1} (hb:x.cS.bulk≤16777216) (h0:0≤x.Op) (h1:x.Op≤10) {s:J3} {ng:Bool} (hs:HF N x s ng) {sz:Bool}
 (hz:Q1 N N x.cS (⟨0,[],0,0,0,(⟨0,0,⟨#[]⟩⟩:A6)⟩:A7)=some sz):
 V3 N x=some (if s.cX≤x.cQ.length∧(x.cQ.length:Int)≤s.most then Iq s x sz else 15):=by
 unfold V3;rw[if_neg (Aj0 h0 h1),hs.ari,hs.var,hs.neg,hs.tim,hs.con,TG hN hb,hz];simp only[Option.bind_some]
 by_cases ha:s.cX≤x.cQ.length∧(x.cQ.length:Int)≤s.most
 ·rw [if_pos ha,if_neg (by simp[Y6,ha])];have sco:=hs.sco;simp only[Al5,Option.bind_some];cases ng
  ·rw [if_neg (by simp)]
   simp only[Bool.false_or]at sco
   rw[UM,Mx];unfold Iq;rw[sco];generalize Dn s.cT x.Typ 15=b1;generalize Dn s.cT x.Var 15=b2;generalize Dn s.span x.cU 63=b3;generalize Dn s.span x.Span 1099511627776=b4;generalize N5 s.cT x.Typ=c1;generalize N5 s.cT x.Var=c2;generalize N5 s.span x.cU=c3;generalize N5 s.span x.Span=c4;generalize L6 x.cS=ec
   cases b1 with
   |true=>rfl
   | false=>
    cases b2 with
    |true=>rfl
    | false=>
     cases b3 with
     |true=>rfl
     | false=>
      cases b4 with
      |true=>rfl
      | false=>
       cases s.cond with
       |false=>cases sz<;>cases c1<;>cases c2<;>cases c3<;>cases c4<;>rfl
       |true=>
        by_cases he:ec=0
        ·subst he;cases sz<;>cases c1<;>cases c2<;>cases c3<;>cases c4<;>rfl
        simp[T7 he,he]
  rw[if_pos rfl]
  simp only[Bool.true_or]at sco
  rw[UM,Mx];unfold Iq;rw[sco];generalize Dn s.cT x.Typ 15=b1;generalize Dn s.cT x.Var 15=b2;generalize Dn true x.cU 63=b3;generalize Dn s.span x.Span 1099511627776=b4;generalize N5 s.cT x.Typ=c1;generalize N5 s.cT x.Var=c2;generalize N5 true x.cU=c3;generalize N5 s.span x.Span=c4;generalize L6 x.cS=ec
  cases b1 with
  |true=>rfl
  | false=>
   cases b2 with
   |true=>rfl
   | false=>
    cases b3 with
    |true=>rfl
    | false=>
     cases b4 with
     |true=>rfl
     | false=>
      cases s.cond with
      |false=>cases sz<;>cases c1<;>cases c2<;>cases c3<;>cases c4<;>rfl
      |true=>
       by_cases he:ec=0
       ·subst he;cases sz<;>cases c1<;>cases c2<;>cases c3<;>cases c4<;>rfl
       simp[T7 he,he]
 rw[if_neg ha,if_pos (by simp only[Y6,decide_eq_false ha];rfl)]
end Go.Ab
namespace Go.Ab
mutual
theorem EF :∀(x y:A1),y∈x.pre→y.bulk≤x.bulk∧y.pre.length≤x.pre.length
 |⟨op,args,typ,var,scope,span,c⟩,y,h=>by
  rw[A1.pre]at h
  rcases List.mem_cons.1 h with rfl|h
  ·exact⟨Nat.le_refl _,Nat.le_refl _⟩
  have:=Mm args y h;simp only[A1.bulk,A1.pre,List.length_cons];omega
theorem Mm :∀(l:List A1) (y:A1),y∈A1.pres l→y.bulk≤A1.bulks l∧y.pre.length≤(A1.pres l).length
 |[],y,h=>by simp[A1.pres]at h
 |a::l,y,h=>by
  rw[A1.pres]at h
  rcases List.mem_append.1 h with h|h
  ·have:=EF a y h;simp only[A1.bulks,A1.pres,List.length_append];omega
  have:=Mm l y h;simp only[A1.bulks,A1.pres,List.length_append];omega
end
theorem OC :∀l:List A1,l.length≤(A1.pres l).length
 |[]=>Nat.le_refl _
 |a::l=>by
  have:=OC l;simp only[A1.pres,A1.pre_eq a,List.length_append,List.length_cons];omega
theorem Dp (x:A1):x.cQ.length<x.pre.length:=by
 rw[A1.pre_eq];have:=OC x.cQ;simp only[List.length_cons];omega
noncomputable def Bc (N:Nat)(y:A1):Int:=(V3 N y).getD 0
theorem DP {N:Nat} (hN:40000000≤N) {y:A1} (hb:y.bulk≤16777216) (hl:y.cQ.length≤64):Q5 N y=some (Bc N y)∧V3 N y=some (Bc N y):=by
 have hc:y.cS.bulk≤16777216:=by have:=A1.bulk_eq y;omega
 have key:∃r,Q5 N y=some r∧V3 N y=some r:=by
  by_cases h:0≤y.Op∧y.Op≤10
  ·obtain⟨s,ng,hs⟩:=LJ N y h.1 h.2 hl;obtain⟨sz,hz⟩:=NN hN y.cS;exact⟨_,WF hN hc h.1 h.2 hs hz,FY hN hc h.1 h.2 hs hz⟩
  obtain⟨h1,h2⟩:=Af8 h;exact⟨1,by unfold Q5;rw[if_pos h1],by unfold V3;rw[if_pos h2]⟩
 obtain⟨r,h1,h2⟩:=key
 have e:Bc N y=r:=by unfold Bc;rw[h2];rfl
 rw[e];exact⟨h1,h2⟩
noncomputable def O1 (N:Nat)(x:A1):Int:=if 64<x.pre.length then 5 else if 12<x.dep then 12 else T9 (Bc N) x.pre
theorem GK {N:Nat}(hN:40000000≤N){x:A1}(hb:x.bulk≤16777216):Q2 N x=some x.pre:=by
 unfold Q2 Z7;rw[Zx hN N x (by omega) hb];simp[N3]
theorem ZN {N:Nat}(hN:40000000≤N){x:A1}(hb:x.bulk≤16777216):W5 N x=some (O1 N x):=by
 unfold W5 O1;rw[ZF hN N x (by omega) hb];simp only[Option.bind_some]
 by_cases h1:64<x.pre.length
 ·rw[if_pos h1,if_pos (AB (by omega))]
 rw[if_neg h1,if_neg (V5 (by omega))]
 by_cases h2:12<x.dep
 ·rw[if_pos h2,if_pos (AB (by omega))]
 rw[if_neg h2,if_neg (V5 (by omega)),GK hN hb];simp only[Option.bind_some];rw[NS (f:=Bc N) fun y hy=>(DP hN (by have:=EF x y hy;omega) (by have:=EF x y hy;have:=Dp y;omega)).1]
 by_cases h3:T9 (Bc N) x.pre=0
 ·rw[if_pos h3];simp[h3]
 rw[if_neg h3];rfl
theorem XG {N:Nat} (hN:40000000≤N) {x:A1} (hb:x.bulk≤16777216):Ai N x=some (O1 N x):=by
 unfold Ai O1;obtain⟨r,h0,c1,c2,c3⟩:=Ql hN 64 N x (by omega) hb;rw[h0];simp only[Option.bind_some]
 by_cases h1:64<x.pre.length
 ·rw[if_pos h1,if_pos (AB (by omega))]
 rw[if_neg h1,if_neg (V5 (by omega)),RD hN N x (by omega) hb];simp only[Option.bind_some]
 by_cases h2:12<x.dep
 ·rw[if_pos h2,if_pos (AB (by omega))]
 rw[if_neg h2,if_neg (V5 (by omega)),Md hN N x (by omega) hb];simp only[Option.bind_some];rw[I9 x.pre (by omega) (mk:=fun(_:Unit) i=>i) (body:=Az (V3 N)) (fin:=fun _=>.inl ()) (s:=()) (by omega) ?_ ?_]
 ·rw[X2 (f:=Bc N) fun y hy=>(DP hN (by have:=EF x y hy;omega) (by have:=EF x y hy;have:=Dp y;omega)).2]
  by_cases h3:T9 (Bc N) x.pre=0
  ·simp[h3]
  simp[h3]
 ·intro s i a ha hi;have e:Ar.ar .add .i64 (i:Int) 1=i+1:=C4 (by omega) (by omega);simp only[C0,B3,hi,decide_true,if_true,D7,ha,Option.bind_some,e,Az,G9]
  cases V3 N a with
  |none=>rfl
  |some r=>by_cases h:r=0<;>simp[h]
 intro s;simp[C0,B3]
end Go.Ab
