/- GTSs GTKs AbG1 AbI1 AbM1 AbG2 AbG3 GTBk GTM1 GTM2 GTM3 GTM4 GTM5 GTM6 GTM7 GTN1 GTD1 -/
import Derived.Test.YtanbgjgaafeplaaGreatDoorS15
import Derived.Deep.Slices
import Derived.Carry
import Derived.Lib.LaidTab
import Derived.Laws.Strings
set_option linter.all false
namespace Go.Ab
variable [Ar]
def M2 (N:Nat) (aG:List A5) (aS:A5→Option Bool):Option Int:=
 (loopN
  (fun(s1:Int)=>
   (
    if Ar.cmp .lss s1 (Ar.len aG)=true then
     (B9 aG s1).bind fun x3=>
     (aS x3).bind fun r4=>
     if r4=true then
      some (.inr (.inr s1))
     else
      some (.inl (Ar.ar .add .i64 s1 1))
    else
     some (.inr (.inl ()))
    :Option ((Int) ⊕ (Unit ⊕ Int))))
  N 0).bind fun s2=>
 match s2 with
 | .inl y5=>
  some (-1)
 | .inr y6=>
  some y6
def H6 (N:Nat)(aG:List A5)(aS:A5→Option Bool):Option Bool:=
 (M2 N aG aS).bind fun r1=>
 some (Ar.cmp .geq r1 0)
def Au (N:Nat):Nat→A5→Option Bool
 |0,_=>none
 | n+1,aB=>
  if Ar.cmp .eql aB.Op 2=true then
   some true
  else
   (H6 N aB.cN (fun y1=>Au N n y1)).bind fun r1=>
   some r1
def Av (N:Nat):Nat→A0→Option Bool
 |0,_=>none
 | n+1,aA=>
  (Au N N aA.cO).bind fun r1=>
  if r1=true then
   some true
  else
   (E6 N aA.cN (fun y1=>Av N n y1)).bind fun r2=>
   some r2
def L4 (N:Nat)(aG:List C1):Option (List C1):=(P3 [] aG).bind fun l=>some l
def U5 (N : Nat) (aA:A0) (aF:List A3) (bH:Int):Option Bool:=
 (Du N aA aF).bind fun r1=>
 if Ar.nt r1=true then
  (Y0 N).bind fun r2=>
  some r2
 else
  (Av N N aA).bind fun r3=>
  if r3=true then
   (Y0 N).bind fun r4=>
   some r4
  else
   (loopN
    (fun(s5:(List A3)×Int)=>
     (
      if Ar.cmp .lss s5.2 (Ar.len aF)=true then
       (B9 aF s5.2).bind fun x8=>
       (P3 s5.1 ([{x8 with Time:=Ar.ar .add .i64 x8.Time (Ar.wr .i64 bH)}])).bind fun l11=>
       some (.inl (l11,Ar.ar .add .i64 s5.2 1))
      else
       some (.inr s5.1)
      :Option (((List A3)×Int) ⊕ (((List A3))))))
    N ([],0)).bind fun s7=>
   (Bu N s7).bind fun r13=>
   if Ar.cmp .neq r13 0=true then
    (Y0 N).bind fun r14=>
    some r14
   else
    (Z6 N aA aF).bind fun r15=>
    (Z6 N aA s7).bind fun r16=>
    if Ar.or (Ar.or (Ar.nt r15.2) (Ar.nt r16.2)) (Ar.cmp .neq (Ar.len r15.1) (Ar.len r16.1))=true then
     some false
    else
     (loopN
      (fun (s17:Int)=>
       (
        if Ar.cmp .lss s17 (Ar.len r15.1)=true then
         (B9 r15.1 s17).bind fun x19=>
         (L4 N x19.cP).bind fun l21=>
         (loopN
          (fun(s24:Int×(List C1))=>
           (
            if Ar.cmp .lss s24.1 (Ar.len l21)=true then
             (XZ (Zy s24.2 s24.1)).bind fun _=>
             (B9 s24.2 s24.1).bind fun x27=>
             (XZ (Zy s24.2 s24.1)).bind fun _=>
             (GZ s24.2 s24.1 (fun x28:C1=>{x28 with Ref:={x28.Ref with Time:=Ar.ar .add .i64 x27.Ref.Time (Ar.wr .i64 bH)}})).bind fun l29=>
             some (.inl (Ar.ar .add .i64 s24.1 1,l29))
            else
             some (.inr s24.2)
            :Option ((Int×(List C1)) ⊕ (((List C1))))))
          N (0,l21)).bind fun s26=>
         (B9 r16.1 s17).bind fun x31=>
         (Z4 N (⟨s26⟩:D3) x31).bind fun r32=>
         if Ar.cmp .neq r32 0=true then
          some (.inr (.inr ()))
         else
          some (.inl (Ar.ar .add .i64 s17 1))
        else
         some (.inr (.inl ()))
        :Option ((Int) ⊕ (Unit ⊕ Unit))))
      N 0).bind fun s18=>
     match s18 with
     | .inl y33=>
      (Y0 N).bind fun r34=>
      some r34
     | .inr y35=>
      some false
end Go.Ab
namespace Go.Ab
open Go.RowKit Go.Proofs Go.Proofs.Tryz J0
variable [Ar][J0]
set_option maxRecDepth 100000
theorem c122 (N:Nat) (aG:List A5) (aT:V) (aS:A5→Option Bool) (bB:∀y1 q,aS y1=some q→P4 prog aT [(H5 y1)] (.bool q)) (r:Int) (h:M2 N aG aS=some r):B1 prog 122 [sr eAk7 aG,aT] (vi r):=by
 unfold M2 at h
 refine J6 cf0 func122 call122 ntmps122 ?_;intro E H0 K hE hK hO;cbv;refine E4 hE ?_;cbv;obtain⟨s2,hx,h⟩:=bind_some h;refine G5 cf0 hE Q6 (fun s1=>[(0,.v (sr eAk7 aG)),(1,.v (aT)),fi 7 (Ar.len aG),fi 8 s1]) (fun s1 H1=>B7 Eq H0 [] H1) (fun x e l H1=>match(generalizing:=false) x with| .inl y=>e= .exit 0∧l=[]∧B7 Eq H0 [] H1| .inr y=>e= .ret∧l=[fi 4 y]∧B7 Eq H0 [] H1) (by kernel_rfl) ?_ hx ?_ hO ?_
 ·intro s1 H o hO h;clear hx;cbv;refine A9 hE h (fun _ h=>?_) fun _ h=>?_
  ·cbv;refine C4 hE eAk8 h fun x3 h=>?_;cbv;refine W6 hE (g:=fun r4=>.bool r4) h (fun r4 hx=>bB x3 r4 hx) (.refl _) fun r4 h=>?_;cbv;refine A9 hE h (fun _ h=>?_) fun _ h=>?_
   ·cbv;cases h;exact⟨_,_,rfl,⟨rfl,rfl,hO⟩,.e rfl .z,rfl⟩
   cbv;cases h;exact⟨_,rfl,.e4 .z,rfl,hO⟩
  cbv;cases h;exact⟨_,_,rfl,⟨rfl,rfl,hO⟩,.z,rfl⟩
 ·exact .e4 .z
 clear hx
 rcases s2 with y5|y6
 ·rintro e l H ⟨rfl,rfl,hO⟩;cbv;cases h;exact hK hO (.refl _)
 rintro e l H ⟨rfl,rfl,hO⟩;cbv;cases h;exact hK hO (.refl _)
theorem c55 (N:Nat)(aG:List A5)(aT:V)(aS:A5→Option Bool)(bB:∀y1 q,aS y1=some q→P4 prog aT [(H5 y1)] (.bool q))(r:Bool)(h:H6 N aG aS=some r):B1 prog 55 [sr eAk7 aG,aT] (.bool r):=by
 unfold H6 at h
 refine J6 cf0 func55 call55 ntmps55 ?_;intro E H0 K hE hK hO;cbv;refine A6 hE h (c122 N aG aT aS bB) (.refl _) fun r1 h=>?_;cbv;cases h;exact hK hO (.refl _)
theorem c86 (N:Nat):∀n aB r,Au N n aB=some r→B1 prog 86 [(H5 aB)] (.bool r):=by
 intro n
 induction n with
 |zero=>intro aB r h;cases h
 |succ n ih=>
 intro aB r h
 unfold Au at h
 refine J6 cf0 func86 call86 ntmps86 ?_;intro E H0 K hE hK hO;cbv;refine A9 hE h (fun _ h=>?_) fun _ h=>?_
 ·cbv;cases h;exact hK hO (.refl _)
 cbv;refine A6 hE (g:=fun r1=>.bool r1) h (fun r1 hx=>c55 N aB.cN (.func (.func 86) [] []) (fun y1=>Au N n y1) (fun y1 r hx=>B1.value (F:=[]) (C:=[]) (ih y1 r hx)) r1 hx) (.refl _) fun r1 h=>?_;cbv;cases h;exact hK hO (.refl _)
theorem c30 (N:Nat):∀n aA r,Av N n aA=some r→B1 prog 30 [(B6 aA)] (.bool r):=by
 intro n
 induction n with
 |zero=>intro aA r h;cases h
 |succ n ih=>
 intro aA r h
 unfold Av at h
 refine J6 cf0 func30 call30 ntmps30 ?_;intro E H0 K hE hK hO;cbv;refine A6 hE h (c86 N N aA.cO) (.refl _) fun r1 h=>?_;cbv;refine A9 hE h (fun _ h=>?_) fun _ h=>?_
 ·cbv;cases h;exact hK hO (.refl _)
 cbv;refine A6 hE (g:=fun r2=>.bool r2) h (fun r2 hx=>c85 N aA.cN (.func (.func 30) [] []) (fun y1=>Av N n y1) (fun y1 r hx=>B1.value (F:=[]) (C:=[]) (ih y1 r hx)) r2 hx) (.refl _) fun r2 h=>?_;cbv;cases h;exact hK hO (.refl _)
def cf32 :Cf:=⟨[7],[],[],[],[],[]⟩
theorem c32 (N aG r)(h:L4 N aG=some r):ZF prog 32 [sr eAk5 aG] 4 (Ar.lst eAk5 r):=by
 unfold L4 at h
 intro H0;refine GX (T:=TT) cf32 Q6 func32 (by rfl) (by kernel_rfl) call32 ntmps32 (by rfl) (by rfl) ?_;intro E K hE hK hN;have hO:B7 Eq H0 [] H0:=.start G1 rfl;cbv;refine Aa3 hE rfl (fun hx=>?_) ?_
 ·cbv;exact hN (Xu hx h) [] H0 hO
 cbv;refine Yr (f:=eAk5) hE FP (by decide) hO (.inr rfl) (m:=aG) (Fs0 (f:=eAk5) hE FP (.refl _)) h fun l q H hq hO h=>?_;cbv;cases h;exact hK q _ _ (GQ hE hq) hO
def cf6 :Cf:=⟨[9,15,16],[(25,5)],[],[],[(400000025,1000016)],[]⟩
theorem c6 (N aA aF bH r) (h:U5 N aA aF bH=some r):B1 prog 6 [(B6 aA),sr eAj8 aF,.int .u8 bH] (.bool r):=by
 unfold U5 at h
 refine J6 cf6 func6 call6 ntmps6 ?_;intro E H0 K hE hK hO;cbv;refine A6 hE h (c17 N aA aF) (.refl _) fun r1 h=>?_;cbv;refine A9 hE h (fun _ h=>?_) fun _ h=>?_
 ·cbv;refine A6 hE h (c13 N) (.refl _) fun r2 h=>?_;cbv;cases h;exact hK hO (.refl _)
 cbv;refine A6 hE h (c30 N N aA) (.refl _) fun r3 h=>?_;cbv;refine A9 hE h (fun _ h=>?_) fun _ h=>?_
 ·cbv;refine A6 hE h (c13 N) (.refl _) fun r4 h=>?_;cbv;cases h;exact hK hO (.refl _)
 cbv;refine E4 hE ?_;cbv;replace hO:=hO.tl0 (t:=.nil) rfl;obtain⟨s7,hx,h⟩:=bind_some h;refine BG cf6 hE Q6 (γ:=E0) (fun s5 g=>[(1,.v (sr eAj8 aF)),(2,.v (.int .u8 bH)),(3,.v (.eref (D1 aA) 0)),(7,.v (.sl (Ar.lst eAj8 s5.1) g)),(27,.v (sr eAj8 aF)),fi 28 (Ar.len aF),fi 29 s5.2]) (fun s5 g H1=>Bz g∧B7 Eq H0 [.tl g] H1) (fun x e l H1=>∃u1:E0,Bz u1∧e= .exit 0∧l=[(1,.v (sr eAj8 aF)),(2,.v (.int .u8 bH)),(3,.v (.eref (D1 aA) 0)),(7,.v (.sl (Ar.lst eAj8 x) u1))]∧B7 Eq H0 [.tl u1] H1) (by kernel_rfl) ?_ .nil hx ?_ ?_ ?_
 ·rintro s5 t6 H o ⟨ht6,hO⟩ h;clear hx;cbv;refine A9 hE h (fun _ h=>?_) fun _ h=>?_
  ·cbv;refine C4 hE eAk3 h fun x8 h=>?_;cbv;refine C6 hE hO fun b9 H hO=>?_;cbv;refine B2 hE hO 0 rfl rfl fun H hO=>?_;cbv;refine B5 hE hO 0 rfl ?_;cbv;refine B2 hE hO 0 rfl rfl fun H hO=>?_;cbv;refine B5 hE hO 0 rfl ?_;cbv;refine Gk (f:=eAj8) hE IU (by decide) hO 1 rfl ht6 (l:=s5.1) (m:=[{x8 with Time:=Ar.ar .add .i64 x8.Time (Ar.wr .i64 bH)}]) (.refl _) (.lstc (.eq (eAk3 ({x8 with Time:=Ar.ar .add .i64 x8.Time (Ar.wr .i64 bH)})) (.refl _)) (.lst0)) h fun l11 t10 H hO ht10 h=>?_;cbv;cases h;exact⟨_,t10,rfl,.e rfl (.e2 (.e4 .z)),rfl,ht10,hO.tail⟩
  cbv;cases h;exact⟨_,_,rfl,⟨t6,ht6,rfl,rfl,hO⟩,.e4 .z,rfl⟩
 ·exact .e rfl (.e2 (.v (.slt _ (.lst0)) (.e rfl (.e rfl (.e rfl (.z))))))
 ·exact⟨trivial,hO⟩
 clear hx;rintro e l H ⟨t12,ht12,rfl,rfl,hO⟩;cbv;refine A6 hE h (c31 N s7) (.cons (.ro _ _) (.refl _)) fun r13 h=>?_;cbv;refine A9 hE h (fun _ h=>?_) fun _ h=>?_
 ·cbv;refine A6 hE h (c13 N) (.refl _) fun r14 h=>?_;cbv;cases h;exact hK hO (.refl _)
 cbv;refine A6 hE h (c18 N aA aF) (.refl _) fun r15 h=>?_;cbv;refine A6 hE h (c18 N aA s7) (.cons (.refl _) (.cons (.ro _ _) (.refl _))) fun r16 h=>?_;cbv;refine E4 hE ?_;cbv;refine E4 hE ?_;cbv;refine A9 hE h (fun _ h=>?_) fun _ h=>?_
 ·cbv;cases h;exact hK hO (.refl _)
 cbv;refine E4 hE ?_;cbv;obtain⟨s18,hx,h⟩:=bind_some h;refine G5 cf6 hE Q6 (fun s17=>[(2,.v (.int .u8 bH)),(12,.v (sr eAk4 r16.1)),(73,.v (sr eAk4 r15.1)),fi 74 (Ar.len r15.1),fi 75 s17]) (fun s17 H1=>B7 Eq H0 [.tl t12] H1) (fun x e l H1=>match(generalizing:=false) x with| .inl y=>e= .exit 2∧l=[]∧B7 Eq H0 [.tl t12] H1| .inr y=>e= .ret∧l=[(6,.b false)]∧B7 Eq H0 [.tl t12] H1) (by kernel_rfl) ?_ hx ?_ hO ?_
 ·intro s17 H o hO h;clear hx;cbv;refine A9 hE h (fun _ h=>?_) fun _ h=>?_
  ·cbv;refine C4 hE eAl3 h fun x19 h=>?_;cbv;refine C6 hE hO fun b20 H hO=>?_;cbv;refine B2 hE hO 0 rfl rfl fun H hO=>?_;cbv;refine B5 hE hO 0 rfl ?_;cbv;refine Yt hE (f:=eAk5) h (c32 N x19.cP) (.refl _) hO fun l21 q22 H hq22 hO h=>?_;cbv;refine C6 hE hO fun b23 H hO=>?_;cbv;refine B2 hE hO 0 rfl rfl fun H hO=>?_;cbv;refine B5 hE hO 0 rfl ?_;cbv;refine Aa1 hE hq22 ?_;cbv;obtain⟨s26,hx,h⟩:=bind_some h;refine BG cf6 hE Q6 (γ:=OG) (fun s24 g=>[(2,.v (.int .u8 bH)),(12,.v (sr eAk4 r16.1)),fi 14 s17,(16,.v (.ref b23 0)),(73,.v (sr eAk4 r15.1)),fi 74 (Ar.len r15.1),fi 75 s17,fi 86 (Ar.len l21),fi 87 s24.1]) (fun s24 g H1=>DH g (Ar.len s24.2)∧B7 Eq H0 [cb b23 [.own g.id g.lo g.n],ob g 4 eAk5 s24.2,cb b20 (Ef x19),.tl t12] H1) (fun x e l H1=>∃u1:OG,DH u1 (Ar.len x)∧e= .exit 4∧l=[(2,.v (.int .u8 bH)),(12,.v (sr eAk4 r16.1)),fi 14 s17,(16,.v (.ref b23 0)),(73,.v (sr eAk4 r15.1)),fi 74 (Ar.len r15.1),fi 75 s17]∧B7 Eq H0 [cb b23 [.own u1.id u1.lo u1.n],ob u1 4 eAk5 x,cb b20 (Ef x19),.tl t12] H1) (by kernel_rfl) ?_ q22 hx ?_ ?_ ?_
   ·rintro s24 q25 H o ⟨hq25,hO⟩ h;clear hx;cbv;refine A9 hE h (fun _ h=>?_) fun _ h=>?_
    ·cbv;refine B5 hE hO 0 rfl ?_;cbv;refine RF hE hO hq25 1 rfl h fun h=>?_;cbv;refine SZ hE eAl0 hO hq25 1 rfl h fun x27 h=>?_;cbv;refine RF hE hO hq25 1 rfl h fun h=>?_;cbv;refine PT hE (f:=eAk5) (esz:=4) (tz:=1) (off:=1) (u:=(fun x28:C1=>{x28 with Ref:={x28.Ref with Time:=Ar.ar .add .i64 x27.Ref.Time (Ar.wr .i64 bH)}})) (fun x28=>⟨.int .i64 (Ar.ar .add .i64 x27.Ref.Time (Ar.wr .i64 bH)),.refl _,rfl,rfl,(by rw[eAl0,eAl0];rfl)⟩) (by decide) hO hq25 1 rfl h fun l29 H hq25 h hO=>?_;cbv;cases h;exact⟨_,q25,rfl,.e rfl (.e4 (.e4 .z)),rfl,hq25,hO⟩
    cbv;cases h;exact⟨_,_,rfl,⟨q25,hq25,rfl,rfl,hO⟩,.e rfl (.e2 (.e4 .z)),rfl⟩
   ·exact .e rfl (.e4 (.e4 .z))
   ·exact⟨hq22,hO⟩
   clear hx;rintro e l H ⟨q30,hq30,rfl,rfl,hO⟩;cbv;refine Ys hE hO hq30 0 1 rfl rfl rfl (by decide) fun H hO=>?_;cbv;refine B5 hE hO 0 rfl ?_;cbv;refine C4 hE eAl3 h fun x31 h=>?_;cbv;refine A6 hE h (c33 N (⟨s26⟩:D3) x31) (.refl _) fun r32 h=>?_;cbv;refine A9 hE h (fun _ h=>?_) fun _ h=>?_
   ·cbv;cases h;exact⟨_,_,rfl,⟨rfl,rfl,hO.tail.tail⟩,.b rfl (.z),rfl⟩
   cbv;cases h;exact⟨_,rfl,.e rfl (.e4 .z),rfl,hO.tail.tail⟩
  cbv;cases h;exact⟨_,_,rfl,⟨rfl,rfl,hO⟩,.z,rfl⟩
 ·exact .e rfl (.e4 .z)
 clear hx
 rcases s18 with y33|y35
 ·rintro e l H ⟨rfl,rfl,hO⟩;cbv;refine A6 hE h (c13 N) (.refl _) fun r34 h=>?_;cbv;cases h;exact hK hO (.refl _)
 rintro e l H ⟨rfl,rfl,hO⟩;cbv;cases h;exact hK hO (.refl _)
end Go.Ab
namespace Go.Ab
open Go.RowKit Go.ChangeShapes Go.WideShapes
variable [H8]
def g0 (W:World):Gh:=⟨fun _=>none,fun _=>⟨0,0,0⟩,fun _=>none,fun b o=>∃v,W.cell? ⟨b,o,none⟩=some v,0,W.heap.size⟩
theorem rl0 {W:World}(hg:∀n,VR (g0 W) W (.pointer (some ⟨n,0,none⟩)) (H8.gl n)):Rl (g0 W) (fun _=>none) W:=
 ⟨fun id b h=>(by cases h),fun id id' b h=>(by simp[Gh.at]at h),fun b o h=>h,fun id _=>⟨rfl,rfl,rfl⟩,Nat.le_refl _,hg⟩
def CN (g:Gh)(w:World)(cs:List Value)(xs:List V):Prop:=
 cs.length=xs.length∧∀i,i<xs.length→(cs.getD i undef).oneCell'=true∧VR g w (cs.getD i undef) (xs.getD i .bad)
theorem CN.nil (g:Gh)(w:World):CN g w [] []:=⟨rfl,fun i hi=>by simp at hi⟩
theorem CN.one {g:Gh}{w:World}{v:Value}{x:V}(h1:v.oneCell'=true)(h:VR g w v x):CN g w [v] [x]:=by
 refine⟨rfl,fun i hi=>?_⟩
 have:i=0:=by simpa using hi
 subst this;exact⟨h1,h⟩
theorem CN.append {g:Gh} {w:World} {cs ds:List Value} {xs ys:List V} (h:CN g w cs xs) (k:CN g w ds ys):CN g w (cs++ds) (xs++ys):=by
 refine⟨by simp[h.1,k.1],fun i hi=>?_⟩;have hl:=h.1
 simp only[List.length_append]at hi
 by_cases hx:i<xs.length
 ·have e1:(cs++ds).getD i undef=cs.getD i undef:=by simp[List.getD,List.getElem?_append_left (show i<cs.length by omega)]
  have e2:(xs++ys).getD i .bad=xs.getD i .bad:=by simp[List.getD,List.getElem?_append_left hx]
  rw[e1,e2];exact h.2 i hx
 have e1:(cs++ds).getD i undef=ds.getD (i - xs.length) undef:=by simp[List.getD,List.getElem?_append_right (show cs.length≤i by omega),hl]
 have e2:(xs++ys).getD i .bad=ys.getD (i - xs.length) .bad:=by simp[List.getD,List.getElem?_append_right (show xs.length≤i by omega)]
 rw[e1,e2];exact k.2 _ (by omega)
theorem CN.join {g:Gh}{w:World}{cs:List Value}{xs ys:List V}{a n m:Nat}(h:CN g w ((cs.drop a).take n) xs)(k:CN g w ((cs.drop (a+n)).take m) ys):CN g w ((cs.drop a).take (n+m)) (xs++ys):=by
 have:=h.append k
 rwa[show(cs.drop (a+n))=(cs.drop a).drop n by rw[List.drop_drop],←List.take_add]at this
theorem CN.agg {g:Gh} {w:World} {cs:Array Value} {xs:List V} (h:CN g w cs.toList xs):VR g w (.agg cs) (.agg xs):=by
 refine .agg (by simpa using h.1) (fun i hi=>?_) fun i hi=>?_
 ·have:=(h.2 i hi).1
  simpa[List.getD,Array.getD_eq_getD_getElem?]using this
 have:=(h.2 i hi).2
 simpa[List.getD,Array.getD_eq_getD_getElem?]using this
section
variable {H α:Type}{enc:TypeId×Value→H}{P:Program}{W:World}{base:Nat}{spare:Nat→Bool}{held:Bool}{t e:TypeId}{n:Nat}
def Opens (enc:TypeId×Value→H)(P:Program)(W:World)(base:Nat)(spare:Nat→Bool)(held:Bool)(t:TypeId)(f:α→V)(R:α→DataW H→Prop)(n:Nat):Prop:=
 ∀cs x,DataW.trod enc P W base spare held n t cs=some x→∃a,CN (g0 W) W cs (f a).cells∧R a x.1
theorem Jc {k:IntKind}(ht:P.underlying t=some (.int k)):Opens enc P W base spare held t (V.int k) (fun a d=>d= .lit (.int k a)) n:=by
 intro cs x h;obtain⟨a,rfl,rfl,_⟩:=DataW.trod_int ht h;exact⟨a,.one rfl (.int _ _),rfl⟩
theorem EZ (ht:P.underlying t=some .bool):Opens enc P W base spare held t V.bool (fun a d=>d= .lit (.bool a)) n:=by
 intro cs x h;obtain⟨a,rfl,rfl⟩:=DataW.trod_bool ht h;exact⟨a,.one rfl (.bool _),rfl⟩
theorem Uu (ht:P.underlying t=some .string):Opens enc P W base spare held t V.str (fun a d=>d= .lit (.string a.data.toList)∧a.size≤maxLen) n:=by
 intro cs x h;obtain⟨a,rfl,rfl,hl⟩:=DataW.trod_string ht h;exact⟨a,.one rfl (.str _),rfl,hl⟩
def RL (R:α→DataW H→Prop)(l:List α)(ds:List (DataW H)):Prop:=l.length=ds.length∧∀(i:Nat) a d,l[i]? =some a→ds[i]? =some d→R a d
def RS (R:α→DataW H→Prop)(l:List α)(d:DataW H):Prop:=l.length≤maxLen∧((d= .nil∧l=[])∨∃es sp,d= .slice es sp∧RL R l es)
theorem DU {f:α→V} {R:α→DataW H→Prop} (ht:P.underlying t=some (.slice e)) (hc:0<P.cellsOf e) (he:Opens enc P W base spare held e f R n):
 Opens enc P W base spare held t (fun l:List α=>.sl (l.map f) .ro) (RS R) (n+1):=by
 intro cs x h
 rcases DataW.trod_slice ht h with⟨rfl,rfl⟩|⟨a,len,cap,elems,rest,n',hn,rfl,rfl,hb,hl,hm,hlen,hel,hsp,hns⟩
 ·exact⟨[],.one rfl (.sl0 rfl),Nat.zero_le _,.inl ⟨rfl,rfl⟩⟩
 have hn':n'=n:=by omega
 subst hn'
 rcases Nat.eq_zero_or_pos len with h0|h0
 ·subst h0;have:elems=[]:=List.length_eq_zero_iff.1 hlen;subst this;exact⟨[],.one rfl (.sle (.inl rfl)),Nat.zero_le _,.inr ⟨_,_,rfl,rfl,fun i a d hi=>by simp at hi⟩⟩
 have one:∀i,i<len→∃cs' y b,W.cells? base (a.add (i*P.cellsOf e)) (P.cellsOf e)=some cs'∧elems[i]? =some y∧CN (g0 W) W cs' (f b).cells∧R b y.1:=by
  intro i hi;have h1:=hel i hi
  have h2:elems[i]? =some (elems[i]'(by omega)):=by simp[hlen,hi]
  rw[h2]at h1
  obtain⟨cs',hcs,hy⟩:=Option.bind_eq_some_iff.1 h1;obtain⟨b,hr,hR⟩:=he cs' _ hy;exact⟨cs',_,b,hcs,h2,hr,hR⟩
 obtain⟨_,_,b0,_⟩:=one 0 h0
 haveI:Inhabited α:=⟨b0⟩
 obtain⟨A,hA⟩:=Deep.choose_lt (α:=α) (p:=fun i b=>∃cs' y,W.cells? base (a.add (i*P.cellsOf e)) (P.cellsOf e)=some cs'∧elems[i]? =some y∧CN (g0 W) W cs' (f b).cells∧R b y.1)
  (fun i hi=>let⟨cs',y,b,h1,h2,h3,h4⟩:=one i hi;⟨b,cs',y,h1,h2,h3,h4⟩)
 have hspot:a.spot=none:=by
  obtain⟨cs',y,h1,_,_,_⟩:=hA 0 h0;obtain⟨_,hcl,hcell⟩:=World.cells?_some h1;have h2:=hcell 0 hc
  have e0:(a.add (0*P.cellsOf e)).add 0=a:=by simp[Addr.add]
  rw[e0]at h2
  have h3:cs'[0]? =some (cs'[0]'(by omega)):=by simp[hcl,hc]
  rw[h3]at h2
  unfold World.cell? at h2
  split at h2
  ·split at h2
   ·cases h2
   rename_i hs;simpa using hs
  cases h2
 obtain⟨b,o,s⟩:=a
 simp only at hspot
 subst hspot
 let l:=(List.range len).map A
 have hll:l.length=len:=by simp[l]
 have hg:∀i,i<len→(l.map f).getD i .bad=f (A i):=fun i hi=>by simp[l,List.getD,hi]
 have cell:∀i j,i<len→j<P.cellsOf e→∃v,W.cell? ⟨b,o+i*P.cellsOf e+j,none⟩=some v∧v.oneCell'=true∧VR (g0 W) W v ((f (A i)).cells.getD j .bad):=by
  intro i j hi hj;obtain⟨cs',y,h1,_,hr,_⟩:=hA i hi;obtain⟨_,hcl,hcell⟩:=World.cells?_some h1;have h2:=hcell j hj
  rw[U4,U4]at h2
  have h3:cs'[j]? =some (cs'.getD j undef):=by simp[List.getD,hcl,hj]
  rw[h3]at h2
  have:=hr.2 j (by rw[←hr.1,hcl];exact hj);exact⟨_,h2,this.1,this.2⟩
 refine⟨l,.one rfl ?_,by omega,.inr ⟨_,_,rfl,by simp[hll,hlen],fun i a' d hi hd=>?_⟩⟩
 ·have hz:∀i,i<len→((l.map f).getD i .bad).cells.length=P.cellsOf e:=fun i hi=>by
   obtain⟨cs',y,h1,_,hr,_⟩:=hA i hi;obtain⟨_,hcl,_⟩:=World.cells?_some h1;rw[hg i hi,←hr.1,hcl]
  refine .sl (sz:=P.cellsOf e) (fun i j=>(W.cell? ⟨b,o+i*P.cellsOf e+j,none⟩).getD undef) (by simp[hll]) hl hz (fun i j hi hj=>?_) (fun i j hi hj=>?_) (fun i j hi hj=>?_) (fun i j hi hj=>?_) trivial
  ·obtain⟨v,h1,_⟩:=cell i j hi hj;exact⟨v,h1⟩
  ·obtain⟨v,h1,_⟩:=cell i j hi hj;rw[h1];rfl
  ·obtain⟨v,h1,h2,_⟩:=cell i j hi hj;rw[h1];exact h2
  obtain⟨v,h1,h2,h3⟩:=cell i j hi hj;rw[h1,hg i hi];exact h3
 have hi':i<len:=by
  rcases Nat.lt_or_ge i l.length with h|h
  ·omega
  rw[List.getElem?_eq_none h]at hi;cases hi
 obtain⟨cs',y,h1,h2,h3,h4⟩:=hA i hi'
 have e1:a'=A i:=by simp[l,hi']at hi;exact hi.symm
 have e2:d=y.1:=by simp[h2]at hd;exact hd.symm
 rw[e1,e2];exact h4
theorem Sb {fs:Array Field} {xs:List (DataW H×List MemPlace)} {cs:List Value} {n:Nat} (hl:xs.length=fs.size)
 (hf:∀(i:Nat) (f:Field),fs[i]? =some f→DataW.trod enc P W base spare held n f.type ((cs.drop f.offset).take (P.cellsOf f.type))=xs[i]?) (i:Nat) {f:Field} (h:fs[i]? =some f):
 ∃y,xs[i]? =some y∧DataW.trod enc P W base spare held n f.type ((cs.drop f.offset).take (P.cellsOf f.type))=some y:=by
 have hi:i<fs.size:=by
  rcases Nat.lt_or_ge i fs.size with h'|h'
  ·exact h'
  rw[Array.getElem?_eq_none h']at h;cases h
 have h1:xs[i]? =some (xs[i]'(by omega)):=by simp[hl,hi]
 exact⟨_,h1,by rw[hf i f h,h1]⟩
end
end Go.Ab
namespace Go.Ab
noncomputable instance arInst :Ar where
 cmp:=Ka
 cmp_eq:=fun _ _ _=>rfl
 ar:=arI
 ar_eq:=fun _ _ _ _=>rfl
 sh:=shI
 sh_eq:=fun _ _ _ _=>rfl
 neg:=fun k n=>k.wrap (0 - n)
 neg_eq:=fun _ _=>rfl
 wr:=fun k n=>k.wrap n
 wr_eq:=fun _ _=>rfl
 scmp:=Ac7
 scmp_eq:=fun _ _ _=>rfl
 cat:=fun a b=>a++b
 cat_eq:=fun _ _=>rfl
 slen:=fun s=>s.size
 slen_eq:=fun _=>rfl
 sat:=fun s i=>match s[i.toNat]? with|some b=>(b.toNat:Int)|none=>0
 sat_eq:=fun _ _=>rfl
 beq:=fun a b=>a==b
 beq_eq:=fun _ _=>rfl
 nt:=fun a=> !a
 nt_eq:=fun _=>rfl
 an:=fun a b=>a&&b
 an_eq:=fun _ _=>rfl
 or:=fun a b=>a||b
 or_eq:=fun _ _=>rfl
 pk:=fun c a b=>if c then a else b
 pk_eq:=fun _ _ _=>rfl
 mx:=fun a b=>if a<b then b else a
 mx_eq:=fun _ _=>rfl
 mn:=fun a b=>if b<a then b else a
 mn_eq:=fun _ _=>rfl
 ofs:=fun a b=>a+b
 ofs_eq:=fun _ _=>rfl
 ofN:=fun n=>n
 ofN_eq:=fun _=>rfl
 len:=fun l=>l.length
 len_eq:=fun _=>rfl
 lst:=fun f l=>l.map f
 lst_eq:=fun _ _=>rfl
end Go.Ab
namespace Go.Ab
theorem B8 (a b:Int):Ar.cmp .lss a b=decide (a<b):=rfl
theorem Cr (a b:Int):Ar.cmp .leq a b=decide (a≤b):=rfl
theorem AK (a b:Int):Ar.cmp .gtr a b=decide (b<a):=rfl
theorem O4 (a b:Int):Ar.cmp .geq a b=decide (b≤a):=rfl
theorem C2 (a b:Int):Ar.cmp .eql a b=decide (a=b):=rfl
theorem G9 (a b:Int):Ar.cmp .neq a b= !decide (a=b):=rfl
theorem W2 (a:Bool):Ar.nt a= !a:=rfl
theorem M1 (a b:Bool):Ar.an a b=(a&&b):=rfl
theorem O0 (a b:Bool):Ar.or a b=(a||b):=rfl
theorem B3 {α:Type}(l:List α):Ar.len l=(l.length:Int):=rfl
theorem Gl (a b:Int):Ar.mx a b=if a<b then b else a:=rfl
theorem Pc (s:ByteArray):Ar.slen s=(s.size:Int):=rfl
theorem Ct {n:Int} (h0: -9223372036854775808≤n) (h1:n<9223372036854775808):IntKind.wrap .i64 n=n:=by
 have e:IntKind.wrap .i64 n=(if n % 18446744073709551616≥9223372036854775808 then n % 18446744073709551616 - 18446744073709551616 else n % 18446744073709551616):=by
  unfold IntKind.wrap;simp[IntKind.bits,IntKind.signed]
 rw[e]
 split<;>omega
theorem C0 {a b:Int}(h0: -9223372036854775808≤a+b)(h1:a+b<9223372036854775808):Ar.ar .add .i64 a b=a+b:=Ct h0 h1
theorem PZ {S σ R α:Type} (l:List α) (hl:l.length<1000000000000) (step:S→Option (S ⊕ R)) (mk:σ→Int→S) (body:σ→α→Option (σ ⊕ R)) (fin:σ→R)
 (hstep:∀s (i:Nat) x,l[i]? =some x→step (mk s i)=(body s x).bind fun o=>match o with| .inl s'=>some (.inl (mk s' (i+1)))| .inr r=>some (.inr r))
 (hend:∀s,step (mk s l.length)=some (.inr (fin s))):
 ∀(k:Nat) (i:Nat) (s:σ) (N:Nat),i+k=l.length→k<N→loopN step N (mk s i)=(G6 body (l.drop i) s).bind fun o=>match o with| .inl s=>some (fin s)| .inr r=>some r:=by
 intro k
 induction k with
 |zero=>
  intro i s N hi hN;obtain⟨N,rfl⟩:∃M,N=M+1:=⟨N - 1,by omega⟩;have e:l.drop i=[]:=List.drop_eq_nil_of_le (by omega)
  have ei:((i:Nat):Int)=l.length:=by omega
  rw[e,ei];simp only[loopN,hend,G6,Option.bind_some]
 | succ k ih=>
  intro i s N hi hN;obtain⟨N,rfl⟩:∃M,N=M+1:=⟨N - 1,by omega⟩
  have hlt:i<l.length:=by omega
  have hx:l[i]? =some l[i]:=by simp[hlt]
  have e:l.drop i=l[i]::l.drop (i+1):=List.drop_eq_getElem_cons hlt;rw[e];simp only[loopN,hstep s i _ hx,G6]
  cases hb:body s l[i]with
  |none=>rfl
  | some o=>
   cases o with
   |inl s'=>
    simp only[Option.bind_some];have:=ih (i+1) s' N (by omega) (by omega);rw[show((i:Int)+1)=((i+1:Nat):Int) by omega];exact this
   |inr r=>rfl
theorem D5 {α:Type}{l:List α}{i:Nat}:B9 l (i:Int)=l[i]? :=by simp[B9]
theorem NX {β S σ R α:Type} (l:List α) (step:S→Option (List β×(S ⊕ R))) (mk:σ→Int→S) (body:σ→α→Option (List β×(σ ⊕ R))) (fin:σ→R)
 (hstep:∀s (i:Nat) x,l[i]? =some x→step (mk s i)=(body s x).bind fun o=>match o with|(w,.inl s')=>some (w,.inl (mk s' (i+1)))|(w,.inr r)=>some (w,.inr r))
 (hend:∀s,step (mk s l.length)=some ([],.inr (fin s))):
 ∀(k:Nat) (i:Nat) (s:σ) (N:Nat),i+k=l.length→k<N→U2 step N (mk s i)=(AO body (l.drop i) s).bind fun o=>match o with|(w,.inl s)=>some (w,fin s)|(w,.inr r)=>some (w,r):=by
 intro k
 induction k with
 |zero=>
  intro i s N hi hN;obtain⟨N,rfl⟩:∃M,N=M+1:=⟨N - 1,by omega⟩;have e:l.drop i=[]:=List.drop_eq_nil_of_le (by omega)
  have ei:((i:Nat):Int)=l.length:=by omega
  rw[e,ei];simp only[U2,hend,AO,Option.bind_some]
 | succ k ih=>
  intro i s N hi hN;obtain⟨N,rfl⟩:∃M,N=M+1:=⟨N - 1,by omega⟩
  have hlt:i<l.length:=by omega
  have hx:l[i]? =some l[i]:=by simp[hlt]
  have e:l.drop i=l[i]::l.drop (i+1):=List.drop_eq_getElem_cons hlt;rw[e];simp only[U2,hstep s i _ hx,AO]
  cases hb:body s l[i]with
  |none=>rfl
  | some o=>
   obtain⟨w,o⟩:=o
   cases o with
   | inl s'=>
    simp only[Option.bind_some];have:=ih (i+1) s' N (by omega) (by omega);rw[show((i:Int)+1)=((i+1:Nat):Int) by omega,this]
    cases hr:AO body (l.drop (i+1)) s' with
    |none=>rfl
    |some q=>
     obtain⟨w',o'⟩:=q;cases o'<;>rfl
   |inr r=>rfl
theorem I0 {S σ R α:Type} (l:List α) (hl:l.length<1000000000000) {step:S→Option (S ⊕ R)} (mk:σ→Int→S) (body:σ→α→Option (σ ⊕ R)) (fin:σ→R) (s:σ) {N:Nat} (hN:l.length<N)
 (hstep:∀s (i:Nat) x,l[i]? =some x→(i:Int)<l.length→step (mk s i)=(body s x).bind fun o=>match o with| .inl s'=>some (.inl (mk s' (i+1)))| .inr r=>some (.inr r))
 (hend:∀s,step (mk s l.length)=some (.inr (fin s))):loopN step N (mk s 0)=(G6 body l s).bind fun o=>match o with| .inl s=>some (fin s)| .inr r=>some r:=by
 have:=PZ l hl step mk body fin (fun s i x h=>hstep s i x h (by
  rcases Nat.lt_or_ge i l.length with h'|h'
  ·omega
  rw[List.getElem?_eq_none h']at h;cases h)) hend l.length 0 s N (by omega) hN
 simpa using this
theorem RK {β S σ R α:Type} (l:List α) {step:S→Option (List β×(S ⊕ R))} (mk:σ→Int→S) (body:σ→α→Option (List β×(σ ⊕ R))) (fin:σ→R) (s:σ) {N:Nat} (hN:l.length<N)
 (hstep:∀s (i:Nat) x,l[i]? =some x→(i:Int)<l.length→step (mk s i)=(body s x).bind fun o=>match o with|(w,.inl s')=>some (w,.inl (mk s' (i+1)))|(w,.inr r)=>some (w,.inr r))
 (hend:∀s,step (mk s l.length)=some ([],.inr (fin s))):U2 step N (mk s 0)=(AO body l s).bind fun o=>match o with|(w,.inl s)=>some (w,fin s)|(w,.inr r)=>some (w,r):=by
 have:=NX l step mk body fin (fun s i x h=>hstep s i x h (by
  rcases Nat.lt_or_ge i l.length with h'|h'
  ·omega
  rw[List.getElem?_eq_none h']at h;cases h)) hend l.length 0 s N (by omega) hN
 simpa using this
theorem X1 {α σ R:Type} {step:σ→α→Option (σ ⊕ R)} (I:List α→σ→Prop) (hs:∀x r s,I (x::r) s→∃s',step s x=some (.inl s')∧I r s'):∀{l:List α} {s:σ},I l s→∃s',G6 step l s=some (.inl s')∧I [] s'
 |[],s,h=>⟨s,rfl,h⟩
 |x::l,s,h=>by
  obtain⟨s',h1,h2⟩:=hs x l s h;obtain⟨s2,h3,h4⟩:=X1 I hs h2;exact⟨s2,by simp only[G6,h1,h3],h4⟩
theorem KT {α β σ R:Type} {step:σ→α→Option (List β×(σ ⊕ R))} (I:List α→List β→σ→Prop) (hs:∀x r w s,I (x::r) w s→∃w' s',step s x=some (w',.inl s')∧I r (w++w') s'):
 ∀{l:List α} {w:List β} {s:σ},I l w s→∃w' s',AO step l s=some (w',.inl s')∧I [] (w++w') s'
 |[],w,s,h=>⟨[],s,rfl,by simpa using h⟩
 |x::l,w,s,h=>by
  obtain⟨w1,s1,h1,h2⟩:=hs x l w s h;obtain⟨w2,s2,h3,h4⟩:=KT I hs h2;exact⟨w1++w2,s2,by simp only[AO,h1,h3],by rw[←List.append_assoc];exact h4⟩
def S4 {α:Type}(f:α→Int):List α→Int
 |[]=>0
 |x::l=>if f x=0 then S4 f l else f x
theorem Bx {α:Type} {f:α→Int}:∀{l:List α},S4 f l=0↔∀x∈l,f x=0
 |[]=>by simp[S4]
 |x::l=>by
  unfold S4
  split
  ·rename_i h;rw[Bx];simp[h]
  rename_i h;simp[h]
theorem JU {α:Type} {f:α→Int}:∀{l m:List α},S4 f (l++m)=if S4 f l=0 then S4 f m else S4 f l
 |[],m=>by simp[S4]
 |x::l,m=>by
  simp only[List.cons_append,S4]
  split
  ·rw[JU]
  rename_i h;simp[h]
theorem MC {α:Type} {F:α→Option Int} {f:α→Int}:∀{l:List α},(∀x∈l,F x=some (f x))→
 G6 (fun(_:Unit) x=>(F x).bind fun r=>if Ar.cmp .neq r 0=true then some (Sum.inr r)else some (.inl ())) l ()=some (if S4 f l=0 then .inl ()else .inr (S4 f l))
 |[],_=>rfl
 | x::l,h=>by
  have h1:=MC (l:=l) fun y hy=>h y (by simp[hy]);unfold G6;simp only[h x (by simp),Option.bind_some,G9,S4]
  by_cases hz:f x=0
  ·simp only[hz,decide_true,Bool.not_true,Bool.false_eq_true,if_false,if_true]
   simpa only[G9]using h1
  simp[hz]
noncomputable def Z9 {α:Type}(F:α→Option Int)(_:Unit)(a:α):Option (Unit ⊕ (Unit ⊕ Int)):=(F a).bind fun r=>if Ar.cmp .neq r 0=true then some (.inr (.inr r))else some (.inl ())
theorem W1 {α:Type} {F:α→Option Int} {f:α→Int}:∀{l:List α},(∀x∈l,F x=some (f x))→G6 (Z9 F) l ()=some (if S4 f l=0 then .inl ()else .inr (.inr (S4 f l)))
 |[],_=>rfl
 |x::l,h=>by
  have h1:=W1 (l:=l) fun y hy=>h y (by simp[hy]);unfold G6 Z9;simp only[h x (by simp),Option.bind_some,G9,S4]
  by_cases hz:f x=0
  ·simp only[hz,decide_true,Bool.not_true,Bool.false_eq_true,if_false,if_true];exact h1
  simp[hz]
end Go.Ab
namespace Go.Ab
open Go.RowKit Go.ChangeShapes Go.WideShapes
variable [H8]
section
variable {H α:Type}{enc:TypeId×Value→H}{P:Program}{W:World}{base:Nat}{spare:Nat→Bool}{held:Bool}{t e:TypeId}{n:Nat}
theorem Mz {cs:List Value} {sz:Nat} {f:α→V}:∀(l:List α) (o:Nat),(∀(i:Nat) a,l[i]? =some a→CN (g0 W) W ((cs.drop (o+i*sz)).take sz) (f a).cells)→CN (g0 W) W ((cs.drop o).take (l.length*sz)) (l.flatMap fun a=>(f a).cells)
 |[],o,_=>by simp;exact .nil _ _
 | a::l,o,h=>by
  have h0:=h 0 a rfl
  rw[Nat.zero_mul,Nat.add_zero]at h0
  have h1:=Mz l (o+sz) fun i b hi=>by
   have:=h (i+1) b (by simpa using hi)
   rwa[show o+(i+1)*sz=o+sz+i*sz by rw[Nat.add_mul];omega]at this
  have:=h0.join h1;rw[List.length_cons,List.flatMap_cons,show(l.length+1)*sz=sz+l.length*sz by rw[Nat.add_mul];omega];exact this
theorem PN {f:α→V} {R:α→DataW H→Prop} {m:Nat} (ht:P.underlying t=some (.array m e)) (hct:P.cellsOf t=m*P.cellsOf e) (hm:0<m) (he:∀n,Opens enc P W base spare held e f R n) {cs:List Value} {x:DataW H×List MemPlace}
 (h:DataW.trod enc P W base spare held n t cs=some x):∃l:List α,CN (g0 W) W cs (l.flatMap fun a=>(f a).cells)∧∃ds,x.1= .agg ds∧RL R l ds:=by
 cases n with
 |zero=>simp[DataW.trod]at h
 | succ n=>
  simp only[DataW.trod,ht]at h
  split at h
  ·rename_i hl;obtain⟨xs,hmm,rfl⟩:=Option.map_eq_some_iff.1 h
   have hxl:xs.length=m:=by simpa using mapM_some_length hmm
   have one:∀i,i<m→∃b,CN (g0 W) W ((cs.drop (i*P.cellsOf e)).take (P.cellsOf e)) (f b).cells∧∀y,xs[i]? =some y→R b y.1:=by
    intro i hi;have h1:=mapM_some_get hmm i i (by simp[hi])
    have h2:xs[i]? =some (xs[i]'(by omega)):=by simp[hxl,hi]
    rw[h2]at h1
    obtain⟨b,hr,hR⟩:=he n _ _ h1;exact⟨b,hr,fun y hy=>by rw[h2]at hy;cases hy;exact hR⟩
   obtain⟨b0,_⟩:=one 0 hm
   haveI:Inhabited α:=⟨b0⟩
   obtain⟨A,hA⟩:=Deep.choose_lt one
   have hat:∀(i:Nat) a,((List.range m).map A)[i]? =some a→i<m∧a=A i:=fun i a hi=>by
    rcases Nat.lt_or_ge i m with hlt|hge
    ·simp[hlt]at hi;exact⟨hlt,hi.symm⟩
    rw[List.getElem?_eq_none (by simpa using hge)]at hi;cases hi
   refine⟨(List.range m).map A,?_,_,rfl,by simp[hxl],fun i a d hi hd=>?_⟩
   ·have:=Mz (cs:=cs) (sz:=P.cellsOf e) (f:=f) (W:=W) ((List.range m).map A) 0 (fun i a hi=>by
     obtain⟨h1,rfl⟩:=hat i a hi
     simpa using(hA i h1).1)
    simpa[List.take_of_length_le,hl,hct]using this
   obtain⟨h1,rfl⟩:=hat i a hi
   simp only[List.getElem?_map,Option.map_eq_some_iff]at hd
   obtain⟨y,hy,rfl⟩:=hd;exact(hA i h1).2 y hy
  cases h
theorem Qh {g:Nat} {cs:Array Value} {xs:List V} {name:String} (hg:P.globalNamed name=some g) (hv:W.var? P name=some cs) (hr:CN (g0 W) W cs.toList xs):VR (g0 W) W (.pointer (some ⟨g,0,none⟩)) (.eref xs 0):=by
 have cell:∀j,j<xs.length→W.cell? ⟨g,0+j,none⟩=some (cs.toList.getD j undef):=fun j hj=>by
  have h1:=World.var?_cell hg hv j
  have h2:j<cs.size:=by have:=hr.1;simp at this;omega
  rw[Nat.zero_add,h1];simp[List.getD,h2]
 exact .eref (g:=g0 W) (o:=0) (off:=0) (fun j=>cs.toList.getD j undef) (fun j hj=>(⟨_,cell j hj⟩:∃v,W.cell? ⟨g,0+j,none⟩=some v)) (fun j hj=>cell j hj) (fun j hj=>(hr.2 j hj).1) fun j hj=>(hr.2 j hj).2
end
end Go.Ab
namespace Go.Ab
open Go.RowKit Go.ChangeShapes Go.WideShapes
variable [H8]
section
variable {H:Type}{enc:TypeId×Value→H}{P:Program}{W:World}{base:Nat}{spare:Nat→Bool}{held:Bool}{t e:TypeId}{n:Nat}
end
end Go.Ab
namespace Go.Ab
mutual
def A5.bulk :A5→Nat
 |⟨_,args,_,_,_,v⟩=>A5.bulks args+v.Text.size+9
def A5.bulks :List A5→Nat
 |[]=>1
 |a::r=>A5.bulk a+A5.bulks r
end
mutual
def A0.bulk :A0→Nat
 |⟨_,args,_,_,_,_,c⟩=>A0.bulks args+A5.bulk c+6
def A0.bulks :List A0→Nat
 |[]=>1
 |a::r=>A0.bulk a+A0.bulks r
end
end Go.Ab
namespace Go.Ab
mutual
def A5.pre :A5→List A5
 |⟨op,args,var,field,kind,val⟩=>⟨op,args,var,field,kind,val⟩::A5.pres args
def A5.pres :List A5→List A5
 |[]=>[]
 |a::r=>A5.pre a++A5.pres r
end
mutual
def A5.dep :A5→Nat
 |⟨_,args,_,_,_,_⟩=>A5.deps args+1
def A5.deps :List A5→Nat
 |[]=>0
 |a::r=>max (A5.dep a) (A5.deps r)
end
mutual
def A0.pre :A0→List A0
 |⟨op,args,typ,var,scope,span,c⟩=>⟨op,args,typ,var,scope,span,c⟩::A0.pres args
def A0.pres :List A0→List A0
 |[]=>[]
 |a::r=>A0.pre a++A0.pres r
end
mutual
def A0.dep :A0→Nat
 |⟨_,args,_,_,_,_,_⟩=>A0.deps args+1
def A0.deps :List A0→Nat
 |[]=>0
 |a::r=>max (A0.dep a) (A0.deps r)
end
theorem A5.pre_eq (x:A5):x.pre=x::A5.pres x.cN:=by cases x;simp[A5.pre]
theorem A0.pre_eq (x:A0):x.pre=x::A0.pres x.cN:=by cases x;simp[A0.pre]
theorem A5.dep_eq (x:A5):x.dep=A5.deps x.cN+1:=by cases x;simp[A5.dep]
theorem A0.dep_eq (x:A0):x.dep=A0.deps x.cN+1:=by cases x;simp[A0.dep]
theorem A5.bulk_eq (x:A5):x.bulk=A5.bulks x.cN+x.Value.Text.size+9:=by cases x;simp[A5.bulk]
theorem A0.bulk_eq (x:A0):x.bulk=A0.bulks x.cN+x.cO.bulk+6:=by cases x;simp[A0.bulk]
theorem Kq :∀(l:List A5),(∀a∈l,A5.bulk a≤A5.bulks l)∧l.length≤A5.bulks l
 |[]=>⟨fun a h=>by simp at h,by simp[A5.bulks]⟩
 |b::l=>by
  have h:=Kq l;have hb:=A5.bulk_eq b;simp only[A5.bulks,List.length_cons];refine⟨fun a ha=>?_,by omega⟩
  rcases List.mem_cons.1 ha with rfl|ha
  ·omega
  have:=h.1 a ha;omega
theorem Kp :∀(l:List A0),(∀a∈l,A0.bulk a≤A0.bulks l)∧l.length≤A0.bulks l
 |[]=>⟨fun a h=>by simp at h,by simp[A0.bulks]⟩
 |b::l=>by
  have h:=Kp l;have hb:=A0.bulk_eq b;simp only[A0.bulks,List.length_cons];refine⟨fun a ha=>?_,by omega⟩
  rcases List.mem_cons.1 ha with rfl|ha
  ·omega
  have:=h.1 a ha;omega
mutual
theorem RA :∀x:A5,x.pre.length≤x.bulk
 |⟨op,args,var,field,kind,val⟩=>by
  have:=DT args;simp only[A5.pre,A5.bulk,List.length_cons];omega
theorem DT :∀l:List A5,(A5.pres l).length≤A5.bulks l
 |[]=>by simp[A5.pres]
 |a::l=>by
  have h1:=RA a;have h2:=DT l;simp only[A5.pres,A5.bulks,List.length_append];omega
end
mutual
theorem Dr :∀x:A0,x.pre.length≤x.bulk
 |⟨op,args,typ,var,scope,span,c⟩=>by
  have:=DS args;simp only[A0.pre,A0.bulk,List.length_cons];omega
theorem DS :∀l:List A0,(A0.pres l).length≤A0.bulks l
 |[]=>by simp[A0.pres]
 |a::l=>by
  have h1:=Dr a;have h2:=DS l;simp only[A0.pres,A0.bulks,List.length_append];omega
end
mutual
theorem LM :∀x:A5,x.dep≤x.bulk
 |⟨op,args,var,field,kind,val⟩=>by
  have:=Ed args;simp only[A5.dep,A5.bulk];omega
theorem Ed :∀l:List A5,A5.deps l≤A5.bulks l
 |[]=>by simp[A5.deps]
 |a::l=>by
  have h1:=LM a;have h2:=Ed l;simp only[A5.deps,A5.bulks];omega
end
mutual
theorem Si :∀x:A0,x.dep≤x.bulk
 |⟨op,args,typ,var,scope,span,c⟩=>by
  have:=Ec args;simp only[A0.dep,A0.bulk];omega
theorem Ec :∀l:List A0,A0.deps l≤A0.bulks l
 |[]=>by simp[A0.deps]
 |a::l=>by
  have h1:=Si a;have h2:=Ec l;simp only[A0.deps,A0.bulks];omega
end
def Cut (lim:Int)(cnt:Nat)(r:Int):Prop:=1≤r∧r≤cnt∧(r=cnt∨lim<r)
section
variable {α:Type}
theorem Gc {lim:Int} {f:α→Option Int} {cnt:α→Nat} {B:Nat} (hB:B≤1000000000000):∀(l:List α) (s:Int),0≤s→s+(l.map cnt).sum≤B→(∀a∈l,∃r,f a=some r∧Cut lim (cnt a) r)→
 ∃o,G6 (fun(s:Int) x=>if s≤lim then(f x).bind fun r=>some (.inl (Ar.ar .add .i64 s r))else some (.inr s)) l s=some o∧
  ∃v,v=(match o with| .inl s=>s| .inr s=>s)∧s≤v∧v≤s+(l.map cnt).sum∧(v=s+(l.map cnt).sum∨lim<v)
 |[],s,h0,_,_=>⟨.inl s,rfl,s,rfl,Int.le_refl _,by simp,.inl (by simp)⟩
 | a::l,s,h0,hb,hf=>by
  simp only[List.map_cons,List.sum_cons]at hb ⊢
  unfold G6
  by_cases hs:s≤lim
  ·obtain⟨r,h1,h2,h3,h4⟩:=hf a (by simp);simp only[if_pos hs,h1,Option.bind_some];have e:Ar.ar .add .i64 s r=s+r:=C0 (by omega) (by omega);rw[e];obtain⟨o,k1,v,k2,k3,k4,k5⟩:=Gc hB l (s+r) (by omega) (by omega) fun b hb=>hf b (by simp[hb]);refine⟨o,k1,v,k2,by omega,by omega,?_⟩
   rcases k5 with k5|k5
   ·rcases h4 with h4|h4
    ·left;omega
    right;omega
   exact .inr k5
  simp only[if_neg hs];exact⟨_,rfl,s,rfl,Int.le_refl _,by omega,.inr (by omega)⟩
end
theorem Ht :∀l:List A0,(l.map fun a=>a.pre.length).sum=(A0.pres l).length
 |[]=>rfl
 |a::l=>by simp[A0.pres,Ht l]
theorem Hu :∀l:List A5,(l.map fun a=>a.pre.length).sum=(A5.pres l).length
 |[]=>rfl
 |a::l=>by simp[A5.pres,Hu l]
theorem OT {N:Nat} (hN:40000000≤N) (lim:Int):∀(n:Nat) (x:A0),x.bulk≤n→x.bulk≤16777216→∃r,S6 N n x lim=some r∧Cut lim x.pre.length r:=by
 intro n
 induction n with
 |zero=>intro x h;have:=A0.bulk_eq x;omega
 | succ n ih=>
  intro x hx hb;have hxb:=A0.bulk_eq x;have hB:=Kp x.cN;have hpb:=DS x.cN;unfold S6;rw[I0 x.cN (by omega) (mk:=fun(s:Int) i=>(s,i)) (body:=fun(s:Int) a=>if s≤lim then(S6 N n a lim).bind fun r=>some (.inl (Ar.ar .add .i64 s r))else some (.inr s)) (fin:=fun s=>s) (s:=1) (by omega) ?_ ?_]
  ·obtain⟨o,k1,v,k2,k3,k4,k5⟩:=Gc (lim:=lim) (f:=fun a=>S6 N n a lim) (cnt:=fun a=>a.pre.length) (B:=40000000) (by omega) x.cN 1 (by omega) (by rw[Ht];omega) fun a ha=>ih a (by have:=hB.1 a ha;omega) (by have:=hB.1 a ha;omega)
   rw[Ht]at k4 k5
   have hpe:x.pre.length=(A0.pres x.cN).length+1:=by rw[A0.pre_eq];rfl
   simp only[k1,Option.bind_some];refine⟨v,?_,by omega,by omega,?_⟩
   ·cases o<;>simp_all
   rcases k5 with k5|k5
   ·left;omega
   right;exact k5
  ·intro s i a ha hi;have e:Ar.ar .add .i64 (i:Int) 1=i+1:=C0 (by omega) (by omega);simp only[B8,Cr,M1,B3,hi,decide_true,Bool.true_and,D5,ha,Option.bind_some,e,decide_eq_true_eq]
   split
   ·cases S6 N n a lim<;>rfl
   rfl
  intro s;simp[B8,M1,B3]
end Go.Ab
namespace Go.Ab
theorem Gn {x a:A0}(h:a∈x.cN):a.bulk<x.bulk:=by
 have h1:=(Kp x.cN).1 a h;have h2:=A0.bulk_eq x;omega
theorem W3 {x a:A5}(h:a∈x.cN):a.bulk<x.bulk:=by
 have h1:=(Kq x.cN).1 a h;have h2:=A5.bulk_eq x;omega
theorem Gq (x:A0):x.cN.length≤x.bulk:=by
 have h1:=(Kp x.cN).2;have h2:=A0.bulk_eq x;omega
theorem Cb (x:A5):x.cN.length≤x.bulk:=by
 have h1:=(Kq x.cN).2;have h2:=A5.bulk_eq x;omega
theorem GB (x:A0):0<x.bulk:=by have:=A0.bulk_eq x;omega
theorem Bo (x:A5):0<x.bulk:=by have:=A5.bulk_eq x;omega
theorem Qu {N:Nat} (hN:40000000≤N):∀(n:Nat) (x:A0),x.bulk≤n→x.bulk≤16777216→S8 N n x=some (x.dep:Int):=by
 intro n
 induction n with
 |zero=>intro x h;have:=GB x;omega
 | succ n ih=>
  intro x hx hb;have hl:=Gq x;unfold S8;rw[I0 x.cN (by omega) (mk:=fun(s:Int) i=>(s,i)) (body:=fun(s:Int) a=>(S8 N n a).bind fun r=>some (.inl (Ar.mx s r))) (fin:=fun s=>s) (s:=0) (by omega) ?_ ?_]
  ·obtain⟨s',k1,k2⟩:=X1 (R:=Int) (step:=fun(s:Int) a=>(S8 N n a).bind fun r=>some (.inl (Ar.mx s r))) (fun r s=>(∀a∈r,a∈x.cN)∧0≤s∧max s (A0.deps r:Int)=(A0.deps x.cN:Int)) (fun a r s ⟨h1,h2,h3⟩=>by
    have hm:=Gn (h1 a (by simp));refine⟨_,by rw[ih a (by omega) (by omega)];rfl,fun b hb=>h1 b (by simp[hb]),?_,?_⟩
    ·rw[Gl];split<;>omega
    rw[←h3,Gl];simp only[A0.deps];split<;>omega) (l:=x.cN) (s:=0) ⟨fun a h=>h,Int.le_refl _,by omega⟩
   simp only[k1,Option.bind_some]
   have e:s'=(A0.deps x.cN:Int):=by have:=k2.2.2;simp only[A0.deps]at this;omega
   have hd:=Ec x.cN;have hd2:=A0.bulk_eq x;rw[e,C0 (by omega) (by omega),A0.dep_eq];rfl
  ·intro s i a ha hi;have e:Ar.ar .add .i64 (i:Int) 1=i+1:=C0 (by omega) (by omega);simp only[B8,B3,hi,decide_true,if_true,D5,ha,Option.bind_some,e];cases S8 N n a<;>rfl
  intro s;simp[B8,B3]
theorem W7 {α:Type}{l m:List α}(h:l.length+m.length≤1073741824):P3 l m=some (l++m):=by simp[P3,h]
theorem Lc {N:Nat} (hN:40000000≤N):∀(n:Nat) (x:A0),x.bulk≤n→x.bulk≤16777216→Q0 N n x=some x.pre:=by
 intro n
 induction n with
 |zero=>intro x h;have:=GB x;omega
 | succ n ih=>
  intro x hx hb;have hl:=Gq x;unfold Q0;rw[I0 x.cN (by omega) (mk:=fun(s:List A0) i=>(s,i)) (body:=fun(s:List A0) a=>(Q0 N n a).bind fun r=>(P3 s r).bind fun l=>some (.inl l)) (fin:=fun s=>s) (s:=[x]) (by omega) ?_ ?_]
  ·have hp:=Dr x;have hpe:=A0.pre_eq x
   obtain⟨s',k1,k2⟩:=X1 (R:=List A0) (step:=fun(s:List A0) a=>(Q0 N n a).bind fun r=>(P3 s r).bind fun l=>some (.inl l)) (fun r s=>(∀a∈r,a∈x.cN)∧s++A0.pres r=x.pre) (fun a r s ⟨h1,h2⟩=>by
    have hm:=Gn (h1 a (by simp));have hlen:=congrArg List.length h2
    simp only[A0.pres,List.length_append]at hlen
    refine⟨_,by rw[ih a (by omega) (by omega)];simp only[Option.bind_some];rw[W7 (by omega)];rfl,fun b hb=>h1 b (by simp[hb]),?_⟩
    rw[←h2];simp[A0.pres]) (l:=x.cN) (s:=[x]) ⟨fun a h=>h,by rw[hpe];rfl⟩
   simp only[k1,Option.bind_some];have:=k2.2
   simp only[A0.pres,List.append_nil]at this
   rw[this]
  ·intro s i a ha hi;have e:Ar.ar .add .i64 (i:Int) 1=i+1:=C0 (by omega) (by omega);simp only[B8,B3,hi,decide_true,if_true,D5,ha,Option.bind_some,e]
   cases Q0 N n a with
   |none=>rfl
   |some r=>simp only[Option.bind_some];cases P3 s r<;>rfl
  intro s;simp[B8,B3]
theorem XR {N:Nat} (hN:40000000≤N):∀(n:Nat) (x:A0),x.bulk≤n→x.bulk≤16777216→S3 N n x=some ((x.pre.length:Int),(x.dep:Int)):=by
 intro n
 induction n with
 |zero=>intro x h;have:=GB x;omega
 | succ n ih=>
  intro x hx hb;have hl:=Gq x;unfold S3;rw[I0 x.cN (by omega) (mk:=fun(s:Int×Int) i=>(s.1,s.2,i)) (body:=fun(s:Int×Int) a=>(S3 N n a).bind fun r=>some (.inl (Ar.ar .add .i64 s.1 r.1,Ar.mx s.2 r.2))) (fin:=fun s=>s) (s:=(1,0)) (by omega) ?_ ?_]
  ·have hp:=DS x.cN;have hd:=Ec x.cN;have hbe:=A0.bulk_eq x
   obtain⟨s',k1,k2⟩:=X1 (R:=Int×Int) (step:=fun(s:Int×Int) a=>(S3 N n a).bind fun r=>some (.inl (Ar.ar .add .i64 s.1 r.1,Ar.mx s.2 r.2))) (fun r s=>(∀a∈r,a∈x.cN)∧0≤s.2∧0≤s.1∧s.1+(A0.pres r).length=(A0.pres x.cN).length+1∧max s.2 (A0.deps r:Int)=(A0.deps x.cN:Int)) (fun a r s ⟨h1,h2,h3,h4,h5⟩=>by
    have hm:=Gn (h1 a (by simp))
    simp only[A0.pres,List.length_append,A0.deps]at h4 h5
    refine⟨_,by rw[ih a (by omega) (by omega)];rfl,fun b hb=>h1 b (by simp[hb]),?_,?_,?_,?_⟩
    ·simp only[Gl];split<;>omega
    ·rw[C0 (by omega) (by omega)];omega
    ·rw[C0 (by omega) (by omega)];omega
    rw[←h5];simp only[Gl];split<;>omega) (l:=x.cN) (s:=(1,0)) ⟨fun a h=>h,by simp,by simp,by simp only;omega,by simp only;omega⟩
   simp only[k1,Option.bind_some];obtain⟨_,_,_,e1,e2⟩:=k2
   simp only[A0.pres,List.length_nil,A0.deps]at e1 e2
   have e3:s'.1=(x.pre.length:Int):=by rw[A0.pre_eq];simp only[List.length_cons];omega
   have e4:s'.2=(A0.deps x.cN:Int):=by omega
   rw[e3,e4,C0 (by omega) (by omega),A0.dep_eq];rfl
  ·intro s i a ha hi;have e:Ar.ar .add .i64 (i:Int) 1=i+1:=C0 (by omega) (by omega);simp only[B8,B3,hi,decide_true,if_true,D5,ha,Option.bind_some,e];cases S3 N n a<;>rfl
  intro s;simp[B8,B3]
theorem XJ {N:Nat} (hN:40000000≤N):∀(n:Nat) (x:A0),x.bulk≤n→x.bulk≤16777216→S2 N n x=some x.pre:=by
 intro n
 induction n with
 |zero=>intro x h;have:=GB x;omega
 | succ n ih=>
  intro x hx hb;have hl:=Gq x;unfold S2;rw[RK x.cN (mk:=fun(_:Unit) i=>i) (body:=fun(_:Unit) a=>(S2 N n a).bind fun l=>some (l,.inl ())) (fin:=fun _=>()) (s:=()) (by omega) ?_ ?_]
  ·obtain⟨w,s',k1,k2⟩:=KT (R:=Unit) (step:=fun(_:Unit) a=>(S2 N n a).bind fun l=>some (l,.inl ())) (fun r w s=>(∀a∈r,a∈x.cN)∧w++A0.pres r=A0.pres x.cN) (fun a r w s ⟨h1,h2⟩=>by
    have hm:=Gn (h1 a (by simp));refine⟨a.pre,(),by rw[ih a (by omega) (by omega)];rfl,fun b hb=>h1 b (by simp[hb]),?_⟩
    rw[←h2];simp[A0.pres]) (l:=x.cN) (w:=[]) (s:=()) ⟨fun a h=>h,by simp⟩
   have e:w=A0.pres x.cN:=by have:=k2.2;simpa[A0.pres]using this
   rw[k1,e,A0.pre_eq];simp[M3]
  ·intro s i a ha hi;have e:Ar.ar .add .i64 (i:Int) 1=i+1:=C0 (by omega) (by omega);simp only[B8,B3,hi,decide_true,if_true,D5,ha,Option.bind_some,e];cases S2 N n a<;>simp[M3]
  intro s;simp[B8,B3]
end Go.Ab
namespace Go.Ab
theorem Qw {N:Nat} (hN:40000000≤N) (lim:Int):∀(n:Nat) (x:A5),x.bulk≤n→x.bulk≤16777216→∃r,T3 N n x lim=some r∧Cut lim x.pre.length r:=by
 intro n
 induction n with
 |zero=>intro x h;have:=Bo x;omega
 | succ n ih=>
  intro x hx hb;have hxb:=A5.bulk_eq x;have hB:=Kq x.cN;have hpb:=DT x.cN;unfold T3;rw[I0 x.cN (by omega) (mk:=fun(s:Int) i=>(s,i)) (body:=fun(s:Int) a=>if s≤lim then(T3 N n a lim).bind fun r=>some (.inl (Ar.ar .add .i64 s r))else some (.inr s)) (fin:=fun s=>s) (s:=1) (by omega) ?_ ?_]
  ·obtain⟨o,k1,v,k2,k3,k4,k5⟩:=Gc (lim:=lim) (f:=fun a=>T3 N n a lim) (cnt:=fun a=>a.pre.length) (B:=40000000) (by omega) x.cN 1 (by omega) (by rw[Hu];omega) fun a ha=>ih a (by have:=hB.1 a ha;omega) (by have:=hB.1 a ha;omega)
   rw[Hu]at k4 k5
   have hpe:x.pre.length=(A5.pres x.cN).length+1:=by rw[A5.pre_eq];rfl
   simp only[k1,Option.bind_some];refine⟨v,?_,by omega,by omega,?_⟩
   ·cases o<;>simp_all
   rcases k5 with k5|k5
   ·left;omega
   right;exact k5
  ·intro s i a ha hi;have e:Ar.ar .add .i64 (i:Int) 1=i+1:=C0 (by omega) (by omega);simp only[B8,Cr,M1,B3,hi,decide_true,Bool.true_and,D5,ha,Option.bind_some,e,decide_eq_true_eq]
   split
   ·cases T3 N n a lim<;>rfl
   rfl
  intro s;simp[B8,M1,B3]
theorem LL {N:Nat} (hN:40000000≤N):∀(n:Nat) (x:A5),x.bulk≤n→x.bulk≤16777216→S9 N n x=some (x.dep:Int):=by
 intro n
 induction n with
 |zero=>intro x h;have:=Bo x;omega
 | succ n ih=>
  intro x hx hb;have hl:=Cb x;unfold S9;rw[I0 x.cN (by omega) (mk:=fun(s:Int) i=>(s,i)) (body:=fun(s:Int) a=>(S9 N n a).bind fun r=>some (.inl (Ar.mx s r))) (fin:=fun s=>s) (s:=0) (by omega) ?_ ?_]
  ·obtain⟨s',k1,k2⟩:=X1 (R:=Int) (step:=fun(s:Int) a=>(S9 N n a).bind fun r=>some (.inl (Ar.mx s r))) (fun r s=>(∀a∈r,a∈x.cN)∧0≤s∧max s (A5.deps r:Int)=(A5.deps x.cN:Int)) (fun a r s ⟨h1,h2,h3⟩=>by
    have hm:=W3 (h1 a (by simp));refine⟨_,by rw[ih a (by omega) (by omega)];rfl,fun b hb=>h1 b (by simp[hb]),?_,?_⟩
    ·rw[Gl];split<;>omega
    rw[←h3,Gl];simp only[A5.deps];split<;>omega) (l:=x.cN) (s:=0) ⟨fun a h=>h,Int.le_refl _,by omega⟩
   simp only[k1,Option.bind_some]
   have e:s'=(A5.deps x.cN:Int):=by have:=k2.2.2;simp only[A5.deps]at this;omega
   have hd:=Ed x.cN;have hd2:=A5.bulk_eq x;rw[e,C0 (by omega) (by omega),A5.dep_eq];rfl
  ·intro s i a ha hi;have e:Ar.ar .add .i64 (i:Int) 1=i+1:=C0 (by omega) (by omega);simp only[B8,B3,hi,decide_true,if_true,D5,ha,Option.bind_some,e];cases S9 N n a<;>rfl
  intro s;simp[B8,B3]
theorem TV {N:Nat} (hN:40000000≤N):∀(n:Nat) (x:A5),x.bulk≤n→x.bulk≤16777216→AJ N n x=some ((x.pre.length:Int),(x.dep:Int)):=by
 intro n
 induction n with
 |zero=>intro x h;have:=Bo x;omega
 | succ n ih=>
  intro x hx hb;have hl:=Cb x;unfold AJ;rw[I0 x.cN (by omega) (mk:=fun(s:Int×Int) i=>(s.1,s.2,i)) (body:=fun(s:Int×Int) a=>(AJ N n a).bind fun r=>some (.inl (Ar.ar .add .i64 s.1 r.1,Ar.mx s.2 r.2))) (fin:=fun s=>s) (s:=(1,0)) (by omega) ?_ ?_]
  ·have hp:=DT x.cN;have hd:=Ed x.cN;have hbe:=A5.bulk_eq x
   obtain⟨s',k1,k2⟩:=X1 (R:=Int×Int) (step:=fun(s:Int×Int) a=>(AJ N n a).bind fun r=>some (.inl (Ar.ar .add .i64 s.1 r.1,Ar.mx s.2 r.2))) (fun r s=>(∀a∈r,a∈x.cN)∧0≤s.2∧0≤s.1∧s.1+(A5.pres r).length=(A5.pres x.cN).length+1∧max s.2 (A5.deps r:Int)=(A5.deps x.cN:Int)) (fun a r s ⟨h1,h2,h3,h4,h5⟩=>by
    have hm:=W3 (h1 a (by simp))
    simp only[A5.pres,List.length_append,A5.deps]at h4 h5
    refine⟨_,by rw[ih a (by omega) (by omega)];rfl,fun b hb=>h1 b (by simp[hb]),?_,?_,?_,?_⟩
    ·simp only[Gl];split<;>omega
    ·rw[C0 (by omega) (by omega)];omega
    ·rw[C0 (by omega) (by omega)];omega
    rw[←h5];simp only[Gl];split<;>omega) (l:=x.cN) (s:=(1,0)) ⟨fun a h=>h,by simp,by simp,by simp only;omega,by simp only;omega⟩
   simp only[k1,Option.bind_some];obtain⟨_,_,_,e1,e2⟩:=k2
   simp only[A5.pres,List.length_nil,A5.deps]at e1 e2
   have e3:s'.1=(x.pre.length:Int):=by rw[A5.pre_eq];simp only[List.length_cons];omega
   have e4:s'.2=(A5.deps x.cN:Int):=by omega
   rw[e3,e4,C0 (by omega) (by omega),A5.dep_eq];rfl
  ·intro s i a ha hi;have e:Ar.ar .add .i64 (i:Int) 1=i+1:=C0 (by omega) (by omega);simp only[B8,B3,hi,decide_true,if_true,D5,ha,Option.bind_some,e];cases AJ N n a<;>rfl
  intro s;simp[B8,B3]
theorem LR {f:A5→Int}:∀l:List A5,S4 (fun a=>S4 f a.pre) l=S4 f (A5.pres l)
 |[]=>rfl
 |a::l=>by rw[A5.pres,JU,S4,LR l]
theorem OW {a y:A5} (hy:y∈a.pre):∀l:List A5,a∈l→y∈A5.pres l
 |[],h=>by simp at h
 |b::l,h=>by
  rcases List.mem_cons.1 h with rfl|h
  ·simp[A5.pres,hy]
  simp[A5.pres,OW hy l h]
theorem Vz {N:Nat} (hN:40000000≤N) {F:A5→Option Int} {f:A5→Int}:∀(n:Nat) (x:A5),x.bulk≤n→x.bulk≤16777216→(∀y∈x.pre,F y=some (f y))→Aw N n x F=some (S4 f x.pre):=by
 intro n
 induction n with
 |zero=>intro x h;have:=Bo x;omega
 | succ n ih=>
  intro x hx hb hF;have hl:=Cb x;have hpe:=A5.pre_eq x;unfold Aw;rw[hF x (by rw[hpe];simp)];simp only[Option.bind_some,G9];rw[hpe,S4]
  by_cases hz:f x=0
  ·simp only[hz,decide_true,Bool.not_true,Bool.false_eq_true,if_false,if_true];rw[I0 x.cN (by omega) (mk:=fun(_:Unit) i=>i) (body:=Z9 fun a=>Aw N n a F) (fin:=fun _=>.inl ()) (s:=()) (by omega) ?_ ?_]
   ·rw[W1 (f:=fun a=>S4 f a.pre) fun a ha=>ih a (by have:=W3 ha;omega) (by have:=W3 ha;omega) fun y hy=>hF y (by rw[hpe];exact List.mem_cons_of_mem _ (OW hy _ ha)),LR]
    by_cases hz3:S4 f (A5.pres x.cN)=0
    ·simp[hz3]
    simp[hz3]
   ·intro s i a ha hi;have e:Ar.ar .add .i64 (i:Int) 1=i+1:=C0 (by omega) (by omega);simp only[B8,B3,hi,decide_true,if_true,D5,ha,Option.bind_some,e,Z9,G9]
    cases Aw N n a F with
    |none=>rfl
    |some r=>by_cases h:r=0<;>simp[h]
   intro s;simp[B8,B3]
  simp[hz]
theorem Uy {N:Nat} (hN:40000000≤N) {f:A5→Int} (hF:∀y,BY N y=some (f y)):∀(n:Nat) (x:A5),x.bulk≤n→x.bulk≤16777216→X8 N n x=some (S4 f x.pre):=by
 intro n
 induction n with
 |zero=>intro x h;have:=Bo x;omega
 | succ n ih=>
  intro x hx hb;have hl:=Cb x;have hpe:=A5.pre_eq x;unfold X8;rw[hF x];simp only[Option.bind_some,G9];rw[hpe,S4]
  by_cases hz:f x=0
  ·simp only[hz,decide_true,Bool.not_true,Bool.false_eq_true,if_false,if_true];rw[I0 x.cN (by omega) (mk:=fun(_:Unit) i=>i) (body:=Z9 fun a=>X8 N n a) (fin:=fun _=>.inl ()) (s:=()) (by omega) ?_ ?_]
   ·rw[W1 (f:=fun a=>S4 f a.pre) fun a ha=>ih a (by have:=W3 ha;omega) (by have:=W3 ha;omega),LR]
    by_cases hz3:S4 f (A5.pres x.cN)=0
    ·simp[hz3]
    simp[hz3]
   ·intro s i a ha hi;have e:Ar.ar .add .i64 (i:Int) 1=i+1:=C0 (by omega) (by omega);simp only[B8,B3,hi,decide_true,if_true,D5,ha,Option.bind_some,e,Z9,G9]
    cases X8 N n a with
    |none=>rfl
    |some r=>by_cases h:r=0<;>simp[h]
   intro s;simp[B8,B3]
  simp[hz]
end Go.Ab
namespace Go.Ab
theorem Kw {a b:ByteArray}:a.toList=b.toList↔a=b:=by
 rw[ByteArray.toList_eq,ByteArray.toList_eq]
 constructor
 ·intro h;obtain⟨⟨a⟩⟩:=a;obtain⟨⟨b⟩⟩:=b
  simp at h
  subst h;rfl
 intro h;rw[h]
theorem Pp (a b:ByteArray):Ar.scmp .neq a b= !decide (a=b):=by
 show(!(a.toList==b.toList))=_
 by_cases h:a=b
 ·subst h;simp
 have:a.toList≠b.toList:=fun e=>h (Kw.1 e);simp[h,this]
theorem EA (a b:ByteArray):Ar.scmp .eql a b=decide (a=b):=by
 show(a.toList==b.toList)=_
 by_cases h:a=b
 ·subst h;simp
 have:a.toList≠b.toList:=fun e=>h (Kw.1 e);simp[h,this]
theorem Ac9 (N:Nat)(op:Int):DD N op=some (if op<0∨12<op then(0,false)else if op<5 then(0,true)else if op=12 then(1,true)else(2,true)):=by
 unfold DD;simp only[B8,AK,C2,O0,Bool.or_eq_true,decide_eq_true_eq]
 split
 ·rfl
 split
 ·rfl
 split<;>rfl
theorem YX (N:Nat) (op:Int):Cy N op=some (if op<0∨12<op then -1 else if op<5 then 0 else if op=12 then 1 else 2):=by
 have h:op<0∨op=0∨op=1∨op=2∨op=3∨op=4∨op=5∨op=6∨op=7∨op=8∨op=9∨op=10∨op=11∨op=12∨12<op:=by omega
 unfold Cy;simp only[C2]
 rcases h with h|h|h|h|h|h|h|h|h|h|h|h|h|h|h
 all_goals first
  |(subst h;rfl)
  | (have h0:op≠0:=by omega
     have h1:op≠1:=by omega
     have h2:op≠2:=by omega
     have h3:op≠3:=by omega
     have h4:op≠4:=by omega
     have h5:op≠5:=by omega
     have h6:op≠6:=by omega
     have h7:op≠7:=by omega
     have h8:op≠8:=by omega
     have h9:op≠9:=by omega
     have ha:op≠10:=by omega
     have hb:op≠11:=by omega
     have hc:op≠12:=by omega
     simp[h0,h1,h2,h3,h4,h5,h6,h7,h8,h9,ha,hb,hc,h])
theorem Ag1 (N:Nat)(op:Int):EK N op=some (decide (op=1∨op=2∨op=3∨op=4),decide (op=1∨op=4)):=by
 unfold EK;simp only[C2,decide_eq_true_eq]
 by_cases h1:op=1
 ·simp[h1]
 by_cases h4:op=4
 ·simp[h4]
 by_cases h2:op=2
 ·simp[h2]
 by_cases h3:op=3<;>simp[h1,h2,h3,h4]
theorem ZM (N:Nat)(op:Int):Dp N op=some (decide (op=1∨op=2∨op=3∨op=4),decide (op=1∨op=4)):=by
 unfold Dp;simp only[C2,O0]
 by_cases h1:op=1
 ·simp[h1]
 by_cases h4:op=4
 ·simp[h4]
 by_cases h2:op=2
 ·simp[h2]
 by_cases h3:op=3<;>simp[h1,h2,h3,h4]
def I1 (v:A7):Int:=
 if v.Kind=0∨v.Kind=1 then
  if v.Text≠⟨#[]⟩then 3
  else if v.Kind=0∧(v.Num< -1099511627776∨1099511627776<v.Num)∨v.Kind=1∧v.Num≠0∧v.Num≠1 then 2 else 0
 else if v.Kind=2 then(if v.Num≠0 then 3 else if 64<(v.Text.size:Int)then 13 else 0)else 1
theorem Ie (N:Nat) (v:A7):S5 N v=some (I1 v):=by
 obtain⟨k,n,t⟩:=v;unfold S5 Dm I1;simp only[C2,G9,B8,AK,M1,O0,Pp,Pc]
 by_cases h0:k=0
 ·subst h0
  by_cases ht:t=⟨#[]⟩
  ·subst ht
   by_cases h1:n< -1099511627776∨1099511627776<n
   ·simp[h1]
   simp[h1];decide
  simp[ht]
 by_cases h1:k=1
 ·subst h1
  by_cases ht:t=⟨#[]⟩
  ·subst ht
   by_cases h2:n=0
   ·simp[h2];decide
   by_cases h3:n=1
   ·simp[h3];decide
   simp[h2,h3]
  simp[ht]
 by_cases h2:k=2
 ·subst h2
  by_cases hn:n=0
  ·simp[hn];split<;>rfl
  simp[hn]
 simp[h0,h1,h2]
theorem TL (N:Nat) (v:A7):CA N v=some (I1 v):=by
 obtain⟨k,n,t⟩:=v;unfold CA I1;simp only[C2,G9,B8,AK,M1,O0,Pp,Pc]
 by_cases h0:k=0
 ·subst h0
  by_cases ht:t=⟨#[]⟩
  ·subst ht
   by_cases h1:n< -1099511627776∨1099511627776<n
   ·simp[h1]
   simp[h1]
  simp[ht]
 by_cases h1:k=1
 ·subst h1
  by_cases ht:t=⟨#[]⟩
  ·subst ht
   by_cases h2:n=0
   ·simp[h2]
   by_cases h3:n=1
   ·simp[h3]
   have:n<0∨1<n:=by omega
   simp[h2,h3,this]
  simp[ht]
 by_cases h2:k=2
 ·subst h2
  by_cases hn:n=0
  ·simp[hn];split<;>rfl
  simp[hn]
 have:k<0∨2<k:=by omega
 simp[h0,h1,h2,this]
theorem VK (N:Nat)(k:Int)(v:A7):DC N k v=some (decide (v.Kind=0∨k=4∨k=5)):=by
 unfold DC;simp only[C2,O0]
 by_cases h1:v.Kind=0<;>by_cases h2:k=4<;>by_cases h3:k=5<;>simp[h1,h2,h3]
theorem TO (N:Nat)(k:Int)(v:A7)(h:k≠0):Cz N k v=some (decide (v.Kind=0∨k=4∨k=5)):=by
 unfold Cz;simp only[C2,O0]
 by_cases h1:v.Kind=0<;>by_cases h2:k=4<;>by_cases h3:k=5<;>simp[h,h1,h2,h3]
def VB (op:Int):Bool:=decide (op=1∨op=2∨op=3∨op=4)
def VC (op:Int):Bool:=decide (op=1∨op=4)
noncomputable def NM (x:A5):Bool:=Ar.or (Ar.an (VB x.Op) (Ar.or (Ar.cmp .lss x.Var 0) (Ar.cmp .geq x.Var 16))) (Ar.an (VC x.Op) (Ar.or (Ar.cmp .lss x.Field 0) (Ar.cmp .geq x.Field 8)))
noncomputable def Ls (x:A5):Bool:=Ar.an (Ar.cmp .eql x.Op 4) (Ar.or (Ar.cmp .lss x.Kind 1) (Ar.cmp .gtr x.Kind 5))
noncomputable def Mm (v:A7):Bool:=Ar.an (Ar.cmp .eql v.Kind 0) (Ar.an (Ar.cmp .eql v.Num 0) (Ar.an (Ar.scmp .eql v.Text (⟨#[]⟩)) true))
noncomputable def Ey (x:A5):Bool:=Ar.or (Ar.nt (decide (x.Value.Kind=0∨x.Kind=4∨x.Kind=5))) (Ar.an (Ar.cmp .eql x.Kind 1) (Ar.nt (Mm x.Value)))
noncomputable def Dv (x:A5):Bool:=Ar.or (Ar.or (Ar.or (Ar.an (Ar.nt (VB x.Op)) (Ar.cmp .neq x.Var 0)) (Ar.an (Ar.nt (VC x.Op)) (Ar.cmp .neq x.Field 0))) (Ar.an (Ar.nt (Ar.cmp .eql x.Op 4)) (Ar.cmp .neq x.Kind 0))) (Ar.an (Ar.nt (Ar.or (Ar.cmp .eql x.Op 4) (Ar.cmp .eql x.Op 0))) (Ar.nt (Mm x.Value)))
noncomputable def Ak (x:A5):Int:=
 if x.Op<0∨12<x.Op then 1
 else if(x.cN.length:Int)≠(if x.Op<5 then 0 else if x.Op=12 then 1 else 2)then 15
 else if NM x=true then 2
 else if Ls x=true then 1
 else if(x.Op=4∨x.Op=0)∧I1 x.Value≠0 then I1 x.Value
 else if x.Op=4∧Ey x=true then 9
 else if Dv x=true then 3 else 0
theorem Uz (N:Nat) (x:A5):BY N x=some (Ak x):=by
 unfold BY Ak;rw[YX,ZM];simp only[Option.bind_some]
 by_cases h0:x.Op<0∨12<x.Op
 ·rw[if_pos h0,if_pos h0];rfl
 rw[if_neg h0,if_neg h0]
 have ha:¬(Ar.cmp .lss (if x.Op<5 then 0 else if x.Op=12 then 1 else 2) 0=true):=by
  rw[B8];simp only[decide_eq_true_eq];split
  ·omega
  split<;>omega
 rw[if_neg ha]
 by_cases h1:(x.cN.length:Int)≠(if x.Op<5 then 0 else if x.Op=12 then 1 else 2)
 ·rw[if_pos h1,if_pos (by simp[G9,B3,h1])]
 rw[if_neg h1,if_neg (by simp only[G9,B3];simpa using h1)]
 change (if NM x=true then some 2 else _)=_
 by_cases h2:NM x=true
 ·rw[if_pos h2,if_pos h2]
 rw[if_neg h2,if_neg h2]
 change (if Ls x=true then some 1 else _)=_
 by_cases h3:Ls x=true
 ·rw[if_pos h3,if_pos h3]
 rw[if_neg h3,if_neg h3];rw[TL]
 have e4:(Ar.or (Ar.cmp .eql x.Op 4) (Ar.cmp .eql x.Op 0)=true)↔(x.Op=4∨x.Op=0):=by simp[C2,O0]
 have e6:(Ar.cmp .eql x.Op 4=true)↔x.Op=4:=by simp[C2]
 by_cases h4:x.Op=4∨x.Op=0
 ·rw [if_pos (e4.2 h4)];simp only[Option.bind_some]
  by_cases h5:I1 x.Value=0
  ·have n5:¬(Ar.cmp .neq (I1 x.Value) 0=true):=by simp[G9,h5]
   have n5':¬((x.Op=4∨x.Op=0)∧I1 x.Value≠0):=fun h=>h.2 h5;rw[if_neg n5,if_neg n5'];simp only[Option.bind_some]
   by_cases h6:x.Op=4
   ·rw[if_pos (e6.2 h6)]
    have hk:x.Kind≠0:=by
     intro e;apply h3;simp[Ls,M1,O0,C2,B8,h6,e]
    rw[TO N _ _ hk];simp only[Option.bind_some]
    change (if Ey x=true then some 9 else if Dv x=true then some 3 else some 0)=_
    by_cases h7:Ey x=true
    ·rw[if_pos h7,if_pos (show x.Op=4∧Ey x=true from⟨h6,h7⟩)]
    rw[if_neg h7,if_neg (show¬(x.Op=4∧Ey x=true)from fun h=>h7 h.2)]
    by_cases h8:Dv x=true
    ·rw[if_pos h8,if_pos h8]
    rw[if_neg h8,if_neg h8]
   rw[if_neg (show¬(Ar.cmp .eql x.Op 4=true)from fun h=>h6 (e6.1 h)),if_neg (show¬(x.Op=4∧Ey x=true)from fun h=>h6 h.1)]
   change (if Dv x=true then some 3 else some 0)=_
   by_cases h8:Dv x=true
   ·rw[if_pos h8,if_pos h8]
   rw[if_neg h8,if_neg h8]
  have n5:Ar.cmp .neq (I1 x.Value) 0=true:=by simp[G9,h5]
  rw[if_pos n5,if_pos (show(x.Op=4∨x.Op=0)∧I1 x.Value≠0 from⟨h4,h5⟩)];rfl
 rw[if_neg (show¬(Ar.or (Ar.cmp .eql x.Op 4) (Ar.cmp .eql x.Op 0)=true)from fun h=>h4 (e4.1 h)),if_neg (show¬((x.Op=4∨x.Op=0)∧I1 x.Value≠0)from fun h=>h4 h.1)];simp only[Option.bind_some];have h6:¬x.Op=4:=fun e=>h4 (.inl e);rw[if_neg (show¬(Ar.cmp .eql x.Op 4=true)from fun h=>h6 (e6.1 h)),if_neg (show¬(x.Op=4∧Ey x=true)from fun h=>h6 h.1)]
 change (if Dv x=true then some 3 else some 0)=_
 by_cases h8:Dv x=true
 ·rw[if_pos h8,if_pos h8]
 rw[if_neg h8,if_neg h8]
theorem Wj (N:Nat) (x:A5):Dj N x=some (Ak x):=by
 unfold Dj Ak;rw[Ac9,Ag1];simp only[Option.bind_some]
 by_cases h0:x.Op<0∨12<x.Op
 ·rw[if_pos h0,if_pos h0];rfl
 rw[if_neg h0,if_neg h0]
 have ha:(if x.Op<5 then((0:Int),true)else if x.Op=12 then(1,true)else(2,true))=((if x.Op<5 then 0 else if x.Op=12 then 1 else 2),true):=by
  split
  ·rfl
  split<;>rfl
 rw[ha];rw[if_neg (by simp[W2])]
 by_cases h1:(x.cN.length:Int)≠(if x.Op<5 then 0 else if x.Op=12 then 1 else 2)
 ·rw[if_pos h1,if_pos (by simp[G9,B3,h1])]
 rw[if_neg h1,if_neg (by simp only[G9,B3];simpa using h1)]
 change (if NM x=true then some 2 else _)=_
 by_cases h2:NM x=true
 ·rw[if_pos h2,if_pos h2]
 rw[if_neg h2,if_neg h2]
 change (if Ls x=true then some 1 else _)=_
 by_cases h3:Ls x=true
 ·rw[if_pos h3,if_pos h3]
 rw[if_neg h3,if_neg h3];unfold BL;rw[Ie]
 have e4:(Ar.or (Ar.cmp .eql x.Op 4) (Ar.cmp .eql x.Op 0)=true)↔(x.Op=4∨x.Op=0):=by simp[C2,O0]
 have e6:(Ar.cmp .eql x.Op 4=true)↔x.Op=4:=by simp[C2]
 by_cases h4:x.Op=4∨x.Op=0
 ·rw[if_pos (e4.2 h4)];simp only[Option.bind_some]
  by_cases h5:I1 x.Value=0
  ·have n5:¬(Ar.cmp .neq (I1 x.Value) 0=true):=by simp[G9,h5]
   have n5':¬((x.Op=4∨x.Op=0)∧I1 x.Value≠0):=fun h=>h.2 h5;rw[if_neg n5,if_neg n5']
   by_cases h6:x.Op=4
   ·rw[if_pos (e6.2 h6),VK];simp only[Option.bind_some]
    change (((if Ey x=true then some 9 else some 0):Option Int).bind _).bind _=_
    by_cases h7:Ey x=true
    ·rw[if_pos h7,if_pos (show x.Op=4∧Ey x=true from⟨h6,h7⟩)];rfl
    rw[if_neg h7,if_neg (show¬(x.Op=4∧Ey x=true)from fun h=>h7 h.2)]
    change (if Dv x=true then some 3 else some 0)=_
    by_cases h8:Dv x=true
    ·rw[if_pos h8,if_pos h8]
    rw[if_neg h8,if_neg h8]
   rw[if_neg (show¬(Ar.cmp .eql x.Op 4=true)from fun h=>h6 (e6.1 h)),if_neg (show¬(x.Op=4∧Ey x=true)from fun h=>h6 h.1)]
   change (if Dv x=true then some 3 else some 0)=_
   by_cases h8:Dv x=true
   ·rw[if_pos h8,if_pos h8]
   rw[if_neg h8,if_neg h8]
  have n5:Ar.cmp .neq (I1 x.Value) 0=true:=by simp[G9,h5]
  rw[if_pos n5,if_pos (show(x.Op=4∨x.Op=0)∧I1 x.Value≠0 from⟨h4,h5⟩)];simp only[Option.bind_some];rw[if_pos n5];rfl
 rw[if_neg (show¬(Ar.or (Ar.cmp .eql x.Op 4) (Ar.cmp .eql x.Op 0)=true)from fun h=>h4 (e4.1 h)),if_neg (show¬((x.Op=4∨x.Op=0)∧I1 x.Value≠0)from fun h=>h4 h.1)];have h6:¬x.Op=4:=fun e=>h4 (.inl e);rw[if_neg (show¬(x.Op=4∧Ey x=true)from fun h=>h6 h.1)]
 change (if Dv x=true then some 3 else some 0)=_
 by_cases h8:Dv x=true
 ·rw[if_pos h8,if_pos h8]
 rw[if_neg h8,if_neg h8]
end Go.Ab
namespace Go.Ab
theorem Ac {a b:Int}(h:b<a):Ar.cmp .gtr a b=true:=by rw[AK];exact decide_eq_true h
theorem U3 {a b:Int}(h:¬b<a):¬(Ar.cmp .gtr a b=true):=by rw[AK];simpa using h
theorem Q9 {a b:Int}(h:a≠b):Ar.cmp .neq a b=true:=by rw[G9];simpa using h
theorem O9 {a b:Int}(h:a=b):¬(Ar.cmp .neq a b=true):=by rw[G9];simpa using h
noncomputable def J4 (x:A5):Int:=if 64<x.pre.length then 5 else if 12<x.dep then 12 else S4 Ak x.pre
theorem Ni {N:Nat}(hN:40000000≤N){x:A5}(hb:x.bulk≤16777216):Ce N x=some (J4 x):=by
 unfold Ce J4;rw[TV hN N x (by omega) hb];simp only[Option.bind_some]
 by_cases h1:64<x.pre.length
 ·rw[if_pos h1,if_pos (Ac (by omega))]
 rw[if_neg h1,if_neg (U3 (by omega))]
 by_cases h2:12<x.dep
 ·rw[if_pos h2,if_pos (Ac (by omega))]
 rw[if_neg h2,if_neg (U3 (by omega)),Vz hN N x (by omega) hb fun y _=>Wj N y];rfl
theorem Sn {N:Nat}(hN:40000000≤N){x:A5}(hb:x.bulk≤16777216):Bs N x=some (J4 x):=by
 unfold Bs J4;obtain⟨r,h0,c1,c2,c3⟩:=Qw hN 64 N x (by omega) hb;rw[h0];simp only[Option.bind_some]
 by_cases h1:64<x.pre.length
 ·rw[if_pos h1,if_pos (Ac (by omega))]
 rw[if_neg h1,if_neg (U3 (by omega)),LL hN N x (by omega) hb];simp only[Option.bind_some]
 by_cases h2:12<x.dep
 ·rw[if_pos h2,if_pos (Ac (by omega))]
 rw[if_neg h2,if_neg (U3 (by omega)),Uy hN (fun y=>Uz N y) N x (by omega) hb];rfl
noncomputable def Lv (a b:A5):Bool:=Ar.or (Ar.or (Ar.or (Ar.or (Ar.or (Ar.cmp .neq a.Op b.Op) (Ar.cmp .neq a.Var b.Var)) (Ar.cmp .neq a.Field b.Field)) (Ar.cmp .neq a.Kind b.Kind)) (Ar.nt (Ar.an (Ar.cmp .eql a.Value.Kind b.Value.Kind) (Ar.an (Ar.cmp .eql a.Value.Num b.Value.Num) (Ar.an (Ar.scmp .eql a.Value.Text b.Value.Text) true))))) (Ar.cmp .neq (Ar.len a.cN) (Ar.len b.cN))
theorem My (N:Nat):∀(n:Nat) (a b:A5),Dk N n a b=P1 N n a b
 |0,_,_=>rfl
 |n+1,a,b=>by
  unfold Dk P1;simp only[My N n]
theorem Mx {N:Nat} (hN:40000000≤N) (x:A5):∃b,P1 N N x (⟨0,[],0,0,0,(⟨0,0,⟨#[]⟩⟩:A7)⟩:A5)=some b:=by
 obtain⟨M,rfl⟩:∃M,N=M+1:=⟨N - 1,by omega⟩;rw[P1];generalize hz:(⟨0,[],0,0,0,(⟨0,0,⟨#[]⟩⟩:A7)⟩:A5)=z
 change ∃b,(if Lv x z=true then some false else _)=some b
 by_cases h:Lv x z=true
 ·rw[if_pos h];exact⟨_,rfl⟩
 rw[if_neg h]
 have hlen:x.cN.length=0:=by
  subst hz
  simp only[Lv,O0,G9,B3,List.length_nil]at h
  simp at h
  simpa using h.2
 have:x.cN=[]:=List.length_eq_zero_iff.1 hlen;refine⟨true,?_⟩;rw[show M+1=(M+1 - 1)+1 by omega];simp only[loopN,this,B8,B3];rfl
end Go.Ab
namespace Go.Ab
def CE (u:Bool)(n m:Int):Bool:=u&&(decide (n<0)||decide (m<n))
def M5 (u:Bool)(n:Int):Bool:=u||decide (n=0)
theorem GG (N:Nat)(u:Bool)(n m:Int):Q1 N u n m=some (!CE u n m):=by
 unfold Q1;simp only[O0,M1,W2,O4,Cr,CE];cases u
 ·rfl
 by_cases h1:n<0<;>by_cases h2:m<n<;>simp[h1,h2]<;>omega
theorem TM (N:Nat)(u:Bool)(n:Int):K1 N u n=some (M5 u n):=rfl
theorem Ac8 (N:Nat)(u:Bool)(n m:Int):X0 N u n m=some (CE u n m):=rfl
noncomputable def HE (s:I5)(x:A0)(sz:Bool):Int:=
 if CE s.cQ x.Typ 15=true then 2
 else if CE s.cQ x.Var 15=true then 2
 else if CE s.scope x.cR 63=true then 2
 else if CE s.span x.Span 1099511627776=true then 2
 else if s.cond=true∧J4 x.cO≠0 then J4 x.cO
 else if(s.cond||sz)=true∧M5 s.cQ x.Typ=true∧M5 s.cQ x.Var=true∧M5 s.scope x.cR=true∧M5 s.span x.Span=true then 0 else 3
structure GY (N:Nat) (x:A0) (s:I5) (ng:Bool):Prop where
 tab:B9 F2 x.Op=some s
 var:U0 N x=some s.cQ
 neg:W0 N x=some ng
 tim:S7 N x=some s.span
 con:Y9 N x=some s.cond
 sco:s.scope=(ng||s.span)
 ari:Cw N x=some (decide (s.cT≤x.cN.length∧(x.cN.length:Int)≤s.most))
theorem Ac1 (n k:Int):decide (n=k)=(decide (k≤n)&&decide (n≤k)):=by
 rw[←Bool.decide_and];exact decide_eq_decide.2 ⟨fun h=>by omega,fun h=>by omega⟩
theorem KJ (N:Nat) (x:A0) (h0:0≤x.Op) (h1:x.Op≤10) (hl:x.cN.length≤64):∃s ng,GY N x s ng:=by
 obtain⟨op,args,typ,var,scope,span,c⟩:=x
 simp only at h0 h1 hl
 have h:op=0∨op=1∨op=2∨op=3∨op=4∨op=5∨op=6∨op=7∨op=8∨op=9∨op=10:=by omega
 rcases h with h|h|h|h|h|h|h|h|h|h|h
 all_goals
  subst h;refine⟨_,_,rfl,rfl,rfl,rfl,rfl,rfl,?_⟩;unfold Cw;simp only[C2,O4,B3];simp
  try first|omega|exact Ac1 _ _
theorem Ag7 {x:A0}(h0:0≤x.Op)(h1:x.Op≤10):¬(Ar.or (Ar.cmp .lss x.Op 0) (Ar.cmp .geq x.Op 11)=true):=by
 simp only[O0,B8,O4,Bool.or_eq_true,decide_eq_true_eq];omega
theorem ZY {x:A0}(h0:0≤x.Op)(h1:x.Op≤10):¬(Ar.or (Ar.cmp .lss x.Op 0) (Ar.cmp .gtr x.Op 10)=true):=by
 simp only[O0,B8,AK,Bool.or_eq_true,decide_eq_true_eq];omega
theorem Zq {x:A0}(h:¬(0≤x.Op∧x.Op≤10)):Ar.or (Ar.cmp .lss x.Op 0) (Ar.cmp .geq x.Op 11)=true∧Ar.or (Ar.cmp .lss x.Op 0) (Ar.cmp .gtr x.Op 10)=true:=by
 simp only[O0,B8,O4,AK,Bool.or_eq_true,decide_eq_true_eq];omega
theorem UZ {N:Nat} (hN:40000000≤N) {x:A0} (hb:x.cO.bulk≤16777216) (h0:0≤x.Op) (h1:x.Op≤10) {s:I5} {ng:Bool} (hs:GY N x s ng) {sz:Bool}
 (hz:P1 N N x.cO (⟨0,[],0,0,0,(⟨0,0,⟨#[]⟩⟩:A7)⟩:A5)=some sz):
 P5 N x=some (if s.cT≤x.cN.length∧(x.cN.length:Int)≤s.most then HE s x sz else 15):=by
 unfold P5;rw[if_neg (Ag7 h0 h1),hs.tab];simp only[Option.bind_some]
 by_cases ha:s.cT≤x.cN.length∧(x.cN.length:Int)≤s.most
 ·rw [if_pos ha,if_neg (by simp only[O0,B8,AK,B3,Bool.or_eq_true,decide_eq_true_eq];omega)];rw[GG,GG,GG,GG,Ni hN hb,My,hz];simp only[TM,Option.bind_some];unfold HE;generalize CE s.cQ x.Typ 15=b1;generalize CE s.cQ x.Var 15=b2;generalize CE s.scope x.cR 63=b3;generalize CE s.span x.Span 1099511627776=b4;generalize M5 s.cQ x.Typ=c1;generalize M5 s.cQ x.Var=c2;generalize M5 s.scope x.cR=c3;generalize M5 s.span x.Span=c4;generalize J4 x.cO=ec
  cases b1 with
  |true=>rfl
  | false =>
   cases b2 with
   |true=>rfl
   | false =>
    cases b3 with
    |true=>rfl
    | false=>
     cases b4 with
     |true=>rfl
     | false=>
      cases s.cond with
      | false=>
       cases sz with
       |false=>rfl
       | true=>
        cases c1 with
        |false=>rfl
        | true=>
         cases c2 with
         |false=>rfl
         | true=>
          cases c3 with
          |false=>rfl
          |true=>
           cases c4<;>rfl
      | true=>
       by_cases he:ec=0
       ·subst he
        cases c1 with
        |false=>cases sz<;>rfl
        | true=>
         cases c2 with
         |false=>cases sz<;>rfl
         | true=>
          cases c3 with
          |false=>cases sz<;>rfl
          |true=>
           cases c4<;>cases sz<;>rfl
       simp[W2,Q9 he,he]
 rw[if_neg ha,if_pos (by simp only[O0,B8,AK,B3,Bool.or_eq_true,decide_eq_true_eq];omega)]
theorem Lt (u:Bool)(n:Int):Ar.an (Ar.nt u) (Ar.cmp .neq n 0)= !M5 u n:=by
 simp only[M1,W2,G9,M5,Bool.not_or]
theorem Tn (u w:Bool)(t v sc:Int):Ar.or (Ar.an (Ar.nt u) (Ar.or (Ar.cmp .neq t 0) (Ar.cmp .neq v 0))) (Ar.an (Ar.nt w) (Ar.cmp .neq sc 0))=((!M5 u t|| !M5 u v)|| !M5 w sc):=by
 rw[Lt];simp only[O0,M1,W2,G9,M5];cases u<;>simp
theorem Fm {N:Nat} (hN:40000000≤N) {x:A0} (hb:x.cO.bulk≤16777216) (h0:0≤x.Op) (h1:x.Op≤10) {s:I5} {ng:Bool} (hs:GY N x s ng) {sz:Bool}
 (hz:P1 N N x.cO (⟨0,[],0,0,0,(⟨0,0,⟨#[]⟩⟩:A7)⟩:A5)=some sz):
 U1 N x=some (if s.cT≤x.cN.length∧(x.cN.length:Int)≤s.most then HE s x sz else 15):=by
 unfold U1;rw[if_neg (ZY h0 h1),hs.ari,hs.var,hs.neg,hs.tim,hs.con,Sn hN hb,hz];simp only[Option.bind_some]
 by_cases ha:s.cT≤x.cN.length∧(x.cN.length:Int)≤s.most
 ·rw [if_pos ha,if_neg (by simp[W2,ha])];have sco:=hs.sco;simp only[Ac8,Option.bind_some];cases ng
  ·rw [if_neg (by simp)]
   simp only[Bool.false_or]at sco
   rw[Tn,Lt];unfold HE;rw[sco];generalize CE s.cQ x.Typ 15=b1;generalize CE s.cQ x.Var 15=b2;generalize CE s.span x.cR 63=b3;generalize CE s.span x.Span 1099511627776=b4;generalize M5 s.cQ x.Typ=c1;generalize M5 s.cQ x.Var=c2;generalize M5 s.span x.cR=c3;generalize M5 s.span x.Span=c4;generalize J4 x.cO=ec
   cases b1 with
   |true=>rfl
   | false=>
    cases b2 with
    |true=>rfl
    | false=>
     cases b3 with
     |true=>rfl
     | false=>
      cases b4 with
      |true=>rfl
      | false=>
       cases s.cond with
       |false=>cases sz<;>cases c1<;>cases c2<;>cases c3<;>cases c4<;>rfl
       |true=>
        by_cases he:ec=0
        ·subst he;cases sz<;>cases c1<;>cases c2<;>cases c3<;>cases c4<;>rfl
        simp[Q9 he,he]
  rw[if_pos rfl]
  simp only[Bool.true_or]at sco
  rw[Tn,Lt];unfold HE;rw[sco];generalize CE s.cQ x.Typ 15=b1;generalize CE s.cQ x.Var 15=b2;generalize CE true x.cR 63=b3;generalize CE s.span x.Span 1099511627776=b4;generalize M5 s.cQ x.Typ=c1;generalize M5 s.cQ x.Var=c2;generalize M5 true x.cR=c3;generalize M5 s.span x.Span=c4;generalize J4 x.cO=ec
  cases b1 with
  |true=>rfl
  | false=>
   cases b2 with
   |true=>rfl
   | false=>
    cases b3 with
    |true=>rfl
    | false=>
     cases b4 with
     |true=>rfl
     | false=>
      cases s.cond with
      |false=>cases sz<;>cases c1<;>cases c2<;>cases c3<;>cases c4<;>rfl
      |true=>
       by_cases he:ec=0
       ·subst he;cases sz<;>cases c1<;>cases c2<;>cases c3<;>cases c4<;>rfl
       simp[Q9 he,he]
 rw[if_neg ha,if_pos (by simp only[W2,decide_eq_false ha];rfl)]
end Go.Ab
namespace Go.Ab
mutual
theorem DV :∀(x y:A0),y∈x.pre→y.bulk≤x.bulk∧y.pre.length≤x.pre.length
 |⟨op,args,typ,var,scope,span,c⟩,y,h=>by
  rw[A0.pre]at h
  rcases List.mem_cons.1 h with rfl|h
  ·exact⟨Nat.le_refl _,Nat.le_refl _⟩
  have:=Lj args y h;simp only[A0.bulk,A0.pre,List.length_cons];omega
theorem Lj :∀(l:List A0) (y:A0),y∈A0.pres l→y.bulk≤A0.bulks l∧y.pre.length≤(A0.pres l).length
 |[],y,h=>by simp[A0.pres]at h
 |a::l,y,h=>by
  rw[A0.pres]at h
  rcases List.mem_append.1 h with h|h
  ·have:=DV a y h;simp only[A0.bulks,A0.pres,List.length_append];omega
  have:=Lj l y h;simp only[A0.bulks,A0.pres,List.length_append];omega
end
theorem Nl :∀l:List A0,l.length≤(A0.pres l).length
 |[]=>Nat.le_refl _
 |a::l=>by
  have:=Nl l;simp only[A0.pres,A0.pre_eq a,List.length_append,List.length_cons];omega
theorem CF (x:A0):x.cN.length<x.pre.length:=by
 rw[A0.pre_eq];have:=Nl x.cN;simp only[List.length_cons];omega
noncomputable def AE (N:Nat)(y:A0):Int:=(U1 N y).getD 0
theorem Dh {N:Nat} (hN:40000000≤N) {y:A0} (hb:y.bulk≤16777216) (hl:y.cN.length≤64):P5 N y=some (AE N y)∧U1 N y=some (AE N y):=by
 have hc:y.cO.bulk≤16777216:=by have:=A0.bulk_eq y;omega
 have key:∃r,P5 N y=some r∧U1 N y=some r:=by
  by_cases h:0≤y.Op∧y.Op≤10
  ·obtain⟨s,ng,hs⟩:=KJ N y h.1 h.2 hl;obtain⟨sz,hz⟩:=Mx hN y.cO;exact⟨_,UZ hN hc h.1 h.2 hs hz,Fm hN hc h.1 h.2 hs hz⟩
  obtain⟨h1,h2⟩:=Zq h;exact⟨1,by unfold P5;rw[if_pos h1],by unfold U1;rw[if_pos h2]⟩
 obtain⟨r,h1,h2⟩:=key
 have e:AE N y=r:=by unfold AE;rw[h2];rfl
 rw[e];exact⟨h1,h2⟩
noncomputable def N1 (N:Nat)(x:A0):Int:=if 64<x.pre.length then 5 else if 12<x.dep then 12 else S4 (AE N) x.pre
theorem Ge {N:Nat}(hN:40000000≤N){x:A0}(hb:x.bulk≤16777216):P2 N x=some x.pre:=by
 unfold P2 Y4;rw[XJ hN N x (by omega) hb];simp[M3]
theorem XY {N:Nat}(hN:40000000≤N){x:A0}(hb:x.bulk≤16777216):V5 N x=some (N1 N x):=by
 unfold V5 N1;rw[XR hN N x (by omega) hb];simp only[Option.bind_some]
 by_cases h1:64<x.pre.length
 ·rw[if_pos h1,if_pos (Ac (by omega))]
 rw[if_neg h1,if_neg (U3 (by omega))]
 by_cases h2:12<x.dep
 ·rw[if_pos h2,if_pos (Ac (by omega))]
 rw[if_neg h2,if_neg (U3 (by omega)),Ge hN hb];simp only[Option.bind_some];rw[MC (f:=AE N) fun y hy=>(Dh hN (by have:=DV x y hy;omega) (by have:=DV x y hy;have:=CF y;omega)).1]
 by_cases h3:S4 (AE N) x.pre=0
 ·rw[if_pos h3];simp[h3]
 rw[if_neg h3];rfl
theorem VZ {N:Nat} (hN:40000000≤N) {x:A0} (hb:x.bulk≤16777216):Z0 N x=some (N1 N x):=by
 unfold Z0 N1;obtain⟨r,h0,c1,c2,c3⟩:=OT hN 64 N x (by omega) hb;rw[h0];simp only[Option.bind_some]
 by_cases h1:64<x.pre.length
 ·rw[if_pos h1,if_pos (Ac (by omega))]
 rw[if_neg h1,if_neg (U3 (by omega)),Qu hN N x (by omega) hb];simp only[Option.bind_some]
 by_cases h2:12<x.dep
 ·rw[if_pos h2,if_pos (Ac (by omega))]
 rw[if_neg h2,if_neg (U3 (by omega)),Lc hN N x (by omega) hb];simp only[Option.bind_some];rw[I0 x.pre (by omega) (mk:=fun(_:Unit) i=>i) (body:=Z9 (U1 N)) (fin:=fun _=>.inl ()) (s:=()) (by omega) ?_ ?_]
 ·rw[W1 (f:=AE N) fun y hy=>(Dh hN (by have:=DV x y hy;omega) (by have:=DV x y hy;have:=CF y;omega)).2]
  by_cases h3:S4 (AE N) x.pre=0
  ·simp[h3]
  simp[h3]
 ·intro s i a ha hi;have e:Ar.ar .add .i64 (i:Int) 1=i+1:=C0 (by omega) (by omega);simp only[B8,B3,hi,decide_true,if_true,D5,ha,Option.bind_some,e,Z9,G9]
  cases U1 N a with
  |none=>rfl
  |some r=>by_cases h:r=0<;>simp[h]
 intro s;simp[B8,B3]
end Go.Ab
namespace Go.Ab
def Good (N:Nat)(x:A0):Prop:=∀y∈x.pre,AE N y=0
theorem Hv {a y:A0} (hy:y∈a.pre):∀l:List A0,a∈l→y∈A0.pres l
 |[],h=>by simp at h
 |b::l,h=>by
  rcases List.mem_cons.1 h with rfl|h
  ·simp[A0.pres,hy]
  simp[A0.pres,Hv hy l h]
theorem Good.arg {N:Nat}{x a:A0}(h:Good N x)(ha:a∈x.cN):Good N a:=fun y hy=>h y (by
 rw[A0.pre_eq];exact List.mem_cons_of_mem _ (Hv hy _ ha))
theorem O3 {x a:A0}(ha:a∈x.cN):a.pre.length<x.pre.length:=by
 have:=(Lj x.cN a (Hv (by rw[A0.pre_eq];simp) _ ha)).2;rw[A0.pre_eq x];simp only[List.length_cons];omega
theorem Xt {N:Nat} (hN:40000000≤N) {y:A0} (hb:y.bulk≤16777216) (hl:y.cN.length≤64) (h:AE N y=0) (ho:y.Op=1∨y.Op=7∨y.Op=8∨y.Op=9∨y.Op=10):∃a r,y.cN=a::r:=by
 have hc:y.cO.bulk≤16777216:=by have:=A0.bulk_eq y;omega
 obtain⟨s,ng,hs⟩:=KJ N y (by omega) (by omega) hl;obtain⟨sz,hz⟩:=Mx hN y.cO;have h1:=Fm hN hc (by omega) (by omega) hs hz
 rw[(Dh hN hb hl).2,h]at h1
 have h2:s.cT≤y.cN.length:=by
  have h1:=Option.some.inj h1
  by_cases hc:s.cT≤y.cN.length∧(y.cN.length:Int)≤s.most
  ·exact hc.1
  rw[if_neg hc]at h1;cases h1
 have h3:1≤s.cT:=by
  have ht:=hs.tab
  rcases ho with h|h|h|h|h<;>rw[h]at ht<;>cases ht<;>decide
 match he:y.cN,h2 with
 |[],h2=>simp at h2;omega
 |a::r,_=>exact⟨a,r,rfl⟩
theorem few8 {N:Nat}(hN:40000000≤N){x:A5}(hb:x.bulk≤16777216):∃b,Br N x=some b:=by
 unfold Br;obtain⟨r,h0,_⟩:=Qw hN 200 N x (by omega) hb;rw[h0];simp only[Option.bind_some]
 split
 ·rw[LL hN N x (by omega) hb];exact⟨_,rfl⟩
 exact⟨_,rfl⟩
theorem Gb {α:Type} {F:α→Option Bool}:∀(l:List α),(∀a∈l,∃b,F a=some b)→∃o,G6 (fun(_:Unit) a=>(F a).bind fun r=>if Ar.nt r=true then some (Sum.inr (Sum.inr (α:=Unit) ()))else some (.inl ())) l ()=some o
 |[],_=>⟨_,rfl⟩
 |a::l,h=>by
  obtain⟨b,hb⟩:=h a (by simp);unfold G6;rw[hb]
  cases b with
  |false=>exact⟨_,rfl⟩
  |true=>exact Gb l fun a ha=>h a (by simp[ha])
theorem few9 {N:Nat} (hN:40000000≤N) {x:A0} (hb:x.bulk≤16777216):∃b,EB N x=some b:=by
 unfold EB;obtain⟨r,h0,_⟩:=OT hN 150 N x (by omega) hb;rw[h0];simp only[Option.bind_some]
 split
 ·exact⟨_,rfl⟩
 rw[Qu hN N x (by omega) hb];simp only[Option.bind_some]
 split
 ·exact⟨_,rfl⟩
 rw[Lc hN N x (by omega) hb];simp only[Option.bind_some];have hp:=Dr x;rw[I0 x.pre (by omega) (mk:=fun(_:Unit) i=>i) (body:=fun(_:Unit) a=>(Br N a.cO).bind fun r=>if Ar.nt r=true then some (.inr (.inr ()))else some (.inl ())) (fin:=fun _=>.inl ()) (s:=()) (by omega) ?_ ?_]
 ·obtain⟨o,ho⟩:=Gb (F:=fun(a:A0)=>Br N a.cO) x.pre fun a ha=>few8 hN (by have:=(DV x a ha).1;have:=A0.bulk_eq a;omega);rw[ho]
  cases o with
  |inl _=>exact⟨_,rfl⟩
  |inr o=>cases o<;>exact⟨_,rfl⟩
 ·intro s i a ha hi;have e:Ar.ar .add .i64 (i:Int) 1=i+1:=C0 (by omega) (by omega);simp only[B8,B3,hi,decide_true,if_true,D5,ha,Option.bind_some,e]
  cases Br N a.cO with
  |none=>rfl
  |some r=>cases r<;>rfl
 intro s;simp[B8,B3]
end Go.Ab
namespace Go.Ab
theorem Iv {S R:Type} {step:S→Option (S ⊕ R)} (I:Nat→S→Prop) (Q:R→Prop):∀(k i:Nat) (s:S) (N:Nat),k<N→I i s→
 (∀j s,i≤j→j<i+k→I j s→∃o,step s=some o∧(match o with| .inl s'=>I (j+1) s'| .inr r=>Q r))→
 (∀s,I (i+k) s→∃r,step s=some (.inr r)∧Q r)→∃r,loopN step N s=some r∧Q r
 |0,i,s,N,hN,h0,_,he=>by
  obtain⟨N,rfl⟩:∃M,N=M+1:=⟨N - 1,by omega⟩;obtain⟨r,h1,h2⟩:=he s h0;exact⟨r,by simp only[loopN,h1],h2⟩
 | k+1,i,s,N,hN,h0,hs,he=>by
  obtain⟨N,rfl⟩:∃M,N=M+1:=⟨N - 1,by omega⟩;obtain⟨o,h1,h2⟩:=hs i s (Nat.le_refl _) (by omega) h0
  cases o with
  |inl s'=>
   obtain⟨r,h3,h4⟩:=Iv I Q k (i+1) s' N (by omega) h2 (fun j s a b c=>hs j s (by omega) (by omega) c) (fun s h=>he s (by rw[show i+(k+1)=i+1+k by omega];exact h));exact⟨r,by simp only[loopN,h1,h3],h4⟩
  |inr r=>exact⟨r,by simp only[loopN,h1],h2⟩
noncomputable instance :DecidableEq A5:=Classical.typeDecidableEq _
noncomputable instance :DecidableEq A0:=Classical.typeDecidableEq _
noncomputable instance :DecidableEq IN:=Classical.typeDecidableEq _
noncomputable instance :DecidableEq Oz:=Classical.typeDecidableEq _
noncomputable instance :DecidableEq I9:=Classical.typeDecidableEq _
theorem Ob {i:Nat}(h:i<1000000000000):Ar.ar .add .i64 (i:Int) 1=((i+1:Nat):Int):=by rw[C0 (by omega) (by omega)];omega
theorem YS {α:Type} [DecidableEq α] {N:Nat} (l m:List α) (hl:l.length=m.length) (hs:l.length<1000000000000) (f:α→α→Option Bool) (hf:∀x∈l,∀y∈m,f x y=some (decide (x=y))) (hN:l.length<N):
 loopN (fun(i:Int)=>if Ar.cmp .lss i (Ar.len l)=true then(B9 l i).bind fun x=>(B9 m i).bind fun y=>(f x y).bind fun r=>if Ar.nt r=true then some (Sum.inr (Sum.inr (α:=Unit) ()))else some (.inl (Ar.ar .add .i64 i 1))else some (.inr (.inl ()))) N 0=some (if l=m then .inl ()else .inr ()):=by
 obtain⟨r,h1,h2⟩:=Iv (step:=fun(i:Int)=>if Ar.cmp .lss i (Ar.len l)=true then(B9 l i).bind fun x=>(B9 m i).bind fun y=>(f x y).bind fun r=>if Ar.nt r=true then some (Sum.inr (Sum.inr (α:=Unit) ()))else some (.inl (Ar.ar .add .i64 i 1))else some (.inr (.inl ())))
  (fun j s=>s=(j:Int)∧l.take j=m.take j) (fun r=>r=if l=m then .inl ()else .inr ()) l.length 0 0 N hN ⟨rfl,by simp⟩
  (fun j s _ hj ⟨e,ht⟩=>by
   subst e
   simp only[Nat.zero_add]at hj
   have hj2:j<m.length:=by omega
   have e1:l[j]? =some l[j]:=by simp[hj]
   have e2:m[j]? =some m[j]:=by simp[hj2]
   simp only[B8,B3,show((j:Int)<(l.length:Int)) by omega,decide_true,if_true,D5,e1,e2,Option.bind_some,hf _ (List.getElem_mem hj) _ (List.getElem_mem hj2)]
   by_cases h:l[j]=m[j]
   ·simp only[h,decide_true,W2,Bool.not_true,Bool.false_eq_true,if_false];refine⟨_,rfl,Ob (by omega),?_⟩;rw[List.take_add_one,List.take_add_one,ht,e1,e2,h]
   simp only[h,decide_false,W2,Bool.not_false,if_true];refine⟨_,rfl,?_⟩
   rw[if_neg fun he=>h (by subst he;rfl)])
  (fun s ⟨e,ht⟩=>by
   subst e
   simp only[Nat.zero_add]at ht ⊢
   refine⟨.inl (),by simp[B8,B3],?_⟩
   rw[List.take_length,hl,List.take_length]at ht
   rw[if_pos ht])
 rw[h1,h2]
theorem Iz {a b:A5}:a=b↔(a.Op=b.Op∧a.Var=b.Var∧a.Field=b.Field∧a.Kind=b.Kind∧a.Value=b.Value)∧a.cN=b.cN:=by
 cases a;cases b;simp;constructor
 ·rintro⟨h1,h2,h3,h4,h5,h6⟩;exact⟨⟨h1,h3,h4,h5,h6⟩,h2⟩
 rintro⟨⟨h1,h3,h4,h5,h6⟩,h2⟩;exact⟨h1,h2,h3,h4,h5,h6⟩
theorem UJ {a b:A7}:a=b↔a.Kind=b.Kind∧a.Num=b.Num∧a.Text=b.Text:=by cases a;cases b;simp
theorem MR (a b:A5):Lv a b=true↔¬((a.Op=b.Op∧a.Var=b.Var∧a.Field=b.Field∧a.Kind=b.Kind∧a.Value=b.Value)∧a.cN.length=b.cN.length):=by
 simp only[Lv,O0,M1,W2,G9,C2,EA,B3,UJ,Bool.or_eq_true,Bool.not_eq_true',decide_eq_false_iff_not,Bool.and_eq_false_iff,Bool.and_true,decide_eq_true_eq,Classical.not_and_iff_not_or_not]
 constructor
 ·rintro(((((h|h)|h)|h)|h)|h)
  ·simp[h]
  ·simp[h]
  ·simp[h]
  ·simp[h]
  ·rcases h with h|h|h<;>simp[h]
  right;omega
 rintro((h|h|h|h|h)|h)
 ·simp[h]
 ·simp[h]
 ·simp[h]
 ·simp[h]
 ·rcases h with h|h|h<;>simp[h]
 right;omega
theorem Zm {N:Nat} (hN:40000000≤N):∀(n:Nat) (a b:A5),a.bulk≤n→a.bulk≤16777216→P1 N n a b=some (decide (a=b)):=by
 intro n
 induction n with
 |zero=>intro a b h;have:=Bo a;omega
 | succ n ih=>
  intro a b hx hb;have hl:=Cb a;unfold P1
  change (if Lv a b=true then some false else _)=_
  by_cases h:Lv a b=true
  ·rw[if_pos h]
   rw[MR]at h
   rw[decide_eq_false];intro e;exact h ⟨(Iz.1 e).1,by rw[(Iz.1 e).2]⟩
  rw[if_neg h]
  rw[MR,Classical.not_not]at h
  rw[YS a.cN b.cN h.2 (by omega) _ (fun x hx y hy=>ih x y (by have:=W3 hx;omega) (by have:=W3 hx;omega)) (by omega)];simp only[Option.bind_some]
  by_cases he:a.cN=b.cN
  ·rw[if_pos he,decide_eq_true (Iz.2 ⟨h.1,he⟩)]
  rw[if_neg he,decide_eq_false fun e=>he (Iz.1 e).2]
structure Arity (y:A0):Prop where
 op:0≤y.Op∧y.Op≤10
 ev:y.Op=0→y.cN=[]
 two:1≤y.Op→y.Op≤3→2≤y.cN.length
 one:4≤y.Op→y.Op≠8→∃a,y.cN=[a]
 more:y.Op=8→∃a b,y.cN=[a,b]
end Go.Ab
