/- . -/
import Derived.Test.YtildiiggamckaaaGreatDoorK17
import Derived.Deep.Slices
import Derived.Carry
import Derived.Lib.LaidTab
set_option linter.all false
namespace Go.Ab
open Go.RowKit Go.Proofs Go.Proofs.Tryz K8
variable [Ar][K8]
set_option maxRecDepth 100000
def cf208:Cf:=⟨[],[(6,14)],[],[],[],[]⟩
def c208 (N aE r) (h:El N aE=some r):C7 prog 208 [sr eAD7 aE] (sr eAD7 r):=by
 unfold El at h
 refine P6 cf208 func208 call208 ntmps208 ?_;intro E H0 K hE hK hO;cbv;replace hO:=hO.tl0 (t:=.nil) rfl;obtain⟨s2,hx,h⟩:=bind_some h;refine K1 cf208 hE J9 (fun s1=>[(0,.v (sr eAD7 aE)),(3,.v (sr eAD7 s1.1)),fi 4 s1.2]) (fun s1 H1=>B6 Eq H0 [.tl .nil] H1) (fun x e l H1=>e= .exit 0∧l=[(3,.v (sr eAD7 x))]∧B6 Eq H0 [.tl .nil] H1) (by kernel_rfl) ?_ hx ?_ hO ?_
 ·intro s1 H o hO h;clear hx;cbv;refine E9 hE ?_;cbv;refine B0 hE h (fun _ h=>?_) fun _ h=>?_
  ·cbv;refine E9 hE ?_;cbv;obtain⟨s4,hx,h⟩:=bind_some h;refine K1 cf208 hE J9 (fun s3=>[(0,.v (sr eAD7 aE)),(3,.v (sr eAD7 s1.1)),fi 4 s1.2,fi 5 s3]) (fun s3 H1=>B6 Eq H0 [.tl .nil] H1) (fun x e l H1=>e= .exit 2∧l=[(0,.v (sr eAD7 aE)),(3,.v (sr eAD7 s1.1)),fi 4 s1.2,fi 5 x]∧B6 Eq H0 [.tl .nil] H1) (by kernel_rfl) ?_ hx ?_ hO ?_
   ·intro s3 H o hO h;clear hx;cbv;refine B0 hE h (fun _ h=>?_) fun _ h=>?_
    ·cbv;refine D0 hE eAE2 h fun x5 h=>?_;cbv;refine D0 hE eAE2 h fun x6 h=>?_;cbv;refine B0 hE h (fun _ h=>?_) fun _ h=>?_
     ·cbv;cases h;exact⟨_,rfl,.e4 .z,rfl,hO⟩
     cbv;cases h;exact⟨_,_,rfl,⟨rfl,rfl,hO⟩,.e4 .z,rfl⟩
    cbv;cases h;exact⟨_,_,rfl,⟨rfl,rfl,hO⟩,.e4 .z,rfl⟩
   ·exact .e4 .z
   clear hx;rintro e l H ⟨rfl,rfl,hO⟩;cbv;refine SG hE (f:=eAD7) K6 h fun l7 t8 h=>?_;cbv;refine K7 (f:=eAD7) hE K6 (by decide) (hO.tl0 (t:=.full) rfl) 0 rfl trivial (l:=[]) (m:=l7) (.lst0) (.refl _) h fun l10 t9 H hO ht9 h=>?_;cbv;refine D0 hE eAE2 h fun x11 h=>?_;cbv;refine K7 (f:=eAD7) hE K6 (by decide) hO 0 rfl ht9 (l:=l10) (m:=[x11]) (.refl _) (.lstc (.eq (eAE2 x11) (.refl _)) (.lst0)) h fun l13 t12 H hO ht12 h=>?_;cbv;refine SG hE (f:=eAD7) K6 h fun l14 t15 h=>?_;cbv;refine K7 (f:=eAD7) hE K6 (by decide) hO 0 rfl ht12 (l:=l13) (m:=l14) (.refl _) (.refl _) h fun l17 t16 H hO ht16 h=>?_;cbv;cases h;exact⟨_,rfl,.e rfl (.v (.ro _ _) (.e rfl (.z))),rfl,hO.tail⟩
  cbv;cases h;exact⟨_,_,rfl,⟨rfl,rfl,hO⟩,.e rfl .z,rfl⟩
 ·exact .e rfl (.v (.lit _ (B4)) (.e rfl (.z)))
 clear hx;rintro e l H ⟨rfl,rfl,hO⟩;cbv;cases h;exact hK hO (.refl _)
def cf162:Cf:=⟨[6000004],[(7,14),(9,10)],[],[],[],[]⟩
def c162 (N aE r) (h:Er N aE=some r):C7 prog 162 [sr eAD7 aE] (sr eAD7 r):=by
 unfold Er at h
 refine Q9 (T:=TT) cf162 J9 func162 (by rfl) (by kernel_rfl) call162 ntmps162 (by rfl) (by rfl) ?_;intro E H0 K hE hK hF;have hO:B6 Eq H0 [] H0:=.start C5 rfl;cbv;refine A9 hE h (c208 N aE) (.refl _) fun r1 h=>?_;cbv;refine LL hE (f:=eAD7) hO fun q2 H hq2 hO=>?_;cbv;obtain⟨s5,hx,h⟩:=bind_some h;refine H8 cf162 hE J9 (γ:=OG) (fun s3 g=>[(3,.v (sr eAD7 r1)),(4,.v (.own g.id g.lo g.n)),fi 5 s3.1]) (fun s3 g H1=>Z0 g (Ar.len s3.2)∧B6 Eq H0 [ob g 2 eAD7 s3.2] H1) (fun x e l H1=>∃u1:OG,Z0 u1 (Ar.len x)∧e= .exit 0∧l=[(4,.v (.own u1.id u1.lo u1.n))]∧B6 Eq H0 [ob u1 2 eAD7 x] H1) (by kernel_rfl) ?_ q2 hx ?_ ?_ ?_
 ·rintro s3 q4 H o ⟨hq4,hO⟩ h;clear hx;cbv;refine E9 hE ?_;cbv;refine B0 hE h (fun _ h=>?_) fun _ h=>?_
  ·cbv;refine Fc hE hq4 ?_;cbv;refine B0 hE h (fun _ h=>?_) fun _ h=>?_
   ·cbv;refine D0 hE eAE2 h fun x6 h=>?_;cbv;refine Ey (f:=eAD7) hE K6 (by decide) hO hq4 0 rfl (m:=[x6]) (Cz (f:=eAD7) hE K6 (.lstc (.eq (eAE2 x6) (.refl _)) (.lst0))) h fun l8 q7 H hq7 hO h=>?_;cbv;cases h;exact⟨_,q7,rfl,.e rfl (.e2 .z),rfl,hq7,hO⟩
   cbv;refine D0 hE eAE2 h fun x9 h=>?_;cbv;refine N9 hE hO hq4 0 rfl h fun h=>?_;cbv;refine U4 hE eAE2 hO hq4 0 rfl h fun x10 h=>?_;cbv;refine B0 hE h (fun _ h=>?_) fun _ h=>?_
   ·cbv;refine D0 hE eAE2 h fun x11 h=>?_;cbv;refine Ey (f:=eAD7) hE K6 (by decide) hO hq4 0 rfl (m:=[x11]) (Cz (f:=eAD7) hE K6 (.lstc (.eq (eAE2 x11) (.refl _)) (.lst0))) h fun l13 q12 H hq12 hO h=>?_;cbv;cases h;exact⟨_,q12,rfl,.e rfl (.e2 .z),rfl,hq12,hO⟩
   cbv;refine D0 hE eAE2 h fun x14 h=>?_;cbv;refine N9 hE hO hq4 0 rfl h fun h=>?_;cbv;refine U4 hE eAE2 hO hq4 0 rfl h fun x15 h=>?_;cbv;refine B0 hE h (fun _ h=>?_) fun _ h=>?_
   ·cbv;refine D0 hE eAE2 h fun x16 h=>?_;cbv;refine N9 hE hO hq4 0 rfl h fun h=>?_;cbv;refine Q8 hE (f:=eAD7) (esz:=2) (tz:=1) (off:=1) (u:=(fun x17:A2=>{x17 with cZ:=x16.cZ})) (fun x17=>⟨.int .i64 x16.cZ,.refl _,rfl,rfl,(by rw[eAE2,eAE2];rfl)⟩) (by decide) hO hq4 0 rfl h fun l18 H hq4 h hO=>?_;cbv;cases h;exact⟨_,q4,rfl,.e rfl (.e2 .z),rfl,hq4,hO⟩
   cbv;cases h;exact⟨_,q4,rfl,.e rfl (.e2 .z),rfl,hq4,hO⟩
  cbv;cases h;exact⟨_,_,rfl,⟨q4,hq4,rfl,rfl,hO⟩,.e rfl .z,rfl⟩
 ·exact .e rfl (.e2 .z)
 ·exact⟨hq2,hO⟩
 clear hx;rintro e l H ⟨q19,hq19,rfl,rfl,hO⟩;cbv;cases h;exact hF q19 _ _ 0 _ _ hO rfl (Z5 hE hq19) (.refl _)
def cf121:Cf:=⟨[],[(8,23)],[],[],[],[]⟩
def c121 (N aC aD r) (h:Fa N aC aD=some r):C7 prog 121 [sr eAD7 aC,sr eAD7 aD] (sr eAD7 r):=by
 unfold Fa at h
 refine P6 cf121 func121 call121 ntmps121 ?_;intro E H0 K hE hK hO;cbv;replace hO:=hO.tl0 (t:=.nil) rfl;obtain⟨s3,hx,h⟩:=bind_some h;refine H8 cf121 hE J9 (γ:=D2) (fun s1 g=>[(0,.v (sr eAD7 aC)),(1,.v (sr eAD7 aD)),(5,.v (.sl (Ar.lst eAD7 s1.1) g)),fi 6 s1.2]) (fun s1 g H1=>G3 g∧B6 Eq H0 [.tl g] H1) (fun x e l H1=>∃u1:D2,G3 u1∧e= .exit 0∧l=[(5,.v (.sl (Ar.lst eAD7 x) u1))]∧B6 Eq H0 [.tl u1] H1) (by kernel_rfl) ?_ .nil hx ?_ ?_ ?_
 ·rintro s1 t2 H o ⟨ht2,hO⟩ h;clear hx;cbv;refine E9 hE ?_;cbv;refine B0 hE h (fun _ h=>?_) fun _ h=>?_
  ·cbv;obtain⟨s6,hx,h⟩:=bind_some h;refine H8 cf121 hE J9 (γ:=D2) (fun s4 g=>[(0,.v (sr eAD7 aC)),(1,.v (sr eAD7 aD)),(5,.v (.sl (Ar.lst eAD7 s4.1) g)),fi 6 s1.2,fi 7 s4.2]) (fun s4 g H1=>G3 g∧B6 Eq H0 [.tl g] H1) (fun x e l H1=>∃u1:D2,G3 u1∧e= .exit 2∧l=[(0,.v (sr eAD7 aC)),(1,.v (sr eAD7 aD)),(5,.v (.sl (Ar.lst eAD7 x) u1)),fi 6 s1.2]∧B6 Eq H0 [.tl u1] H1) (by kernel_rfl) ?_ t2 hx ?_ ?_ ?_
   ·rintro s4 t5 H o ⟨ht5,hO⟩ h;clear hx;cbv;refine E9 hE ?_;cbv;refine B0 hE h (fun _ h=>?_) fun _ h=>?_
    ·cbv;refine D0 hE eAE2 h fun x7 h=>?_;cbv;refine D0 hE eAE2 h fun x8 h=>?_;cbv;refine D0 hE eAE2 h fun x9 h=>?_;cbv;refine D0 hE eAE2 h fun x10 h=>?_;cbv;refine B0 hE h (fun _ h=>?_) fun _ h=>?_
     ·cbv;refine K7 (f:=eAD7) hE K6 (by decide) hO 0 rfl ht5 (l:=s4.1) (m:=[(⟨Ar.mx x7.Low x8.Low,Ar.mn x9.cZ x10.cZ⟩:A2)]) (.refl _) (.lstc (.eq (eAE2 (⟨Ar.mx x7.Low x8.Low,Ar.mn x9.cZ x10.cZ⟩:A2)) (.refl _)) (.lst0)) h fun l12 t11 H hO ht11 h=>?_;cbv;cases h;exact⟨_,t11,rfl,.e rfl (.e4 .z),rfl,ht11,hO⟩
     cbv;cases h;exact⟨_,t5,rfl,.e rfl (.e4 .z),rfl,ht5,hO⟩
    cbv;cases h;exact⟨_,_,rfl,⟨t5,ht5,rfl,rfl,hO⟩,.e4 .z,rfl⟩
   ·exact .e rfl (.e4 .z)
   ·exact⟨ht2,hO⟩
   clear hx;rintro e l H ⟨t13,ht13,rfl,rfl,hO⟩;cbv;cases h;exact⟨_,t13,rfl,.e4 .z,rfl,ht13,hO⟩
  cbv;cases h;exact⟨_,_,rfl,⟨t2,ht2,rfl,rfl,hO⟩,.e rfl .z,rfl⟩
 ·exact .e2 (.v (.slt _ (.lst0)) (.e rfl (.z)))
 ·exact⟨trivial,hO⟩
 clear hx;rintro e l H ⟨t14,ht14,rfl,rfl,hO⟩;cbv;refine A9 hE h (c162 N s3) (.cons (.ro _ _) (.refl _)) fun r15 h=>?_;cbv;cases h;exact hK hO (.refl _)
def c76 (N aA r) (h:S0 N aA=some r):C7 prog 76 [(F3 aA)] (.bool r):=by
 unfold S0 at h
 refine P6 cf0 func76 call76 ntmps76 ?_;intro E H0 K hE hK hO;cbv;obtain⟨s2,hx,h⟩:=bind_some h;refine K1 cf0 hE J9 (fun s1=>[(1,.v (.eref (L3 aA) 0)),fi 3 s1]) (fun s1 H1=>B6 Eq H0 [] H1) (fun x e l H1=>match(generalizing:=false) x with| .inl y=>e= .exit 0∧l=[]∧B6 Eq H0 [] H1| .inr y=>e= .ret∧l=[(2,.b false)]∧B6 Eq H0 [] H1) (by kernel_rfl) ?_ hx ?_ hO ?_
 ·intro s1 H o hO h;clear hx;cbv;refine E9 hE ?_;cbv;refine B0 hE h (fun _ h=>?_) fun _ h=>?_
  ·cbv;refine D0 hE eAE5 h fun x3 h=>?_;cbv;refine E9 hE ?_;cbv;refine B0 hE h (fun _ h=>?_) fun _ h=>?_
   ·cbv;cases h;exact⟨_,_,rfl,⟨rfl,rfl,hO⟩,.b rfl (.z),rfl⟩
   cbv;cases h;exact⟨_,rfl,.e2 .z,rfl,hO⟩
  cbv;cases h;exact⟨_,_,rfl,⟨rfl,rfl,hO⟩,.z,rfl⟩
 ·exact .e2 .z
 clear hx
 rcases s2 with y4|y5
 ·rintro e l H ⟨rfl,rfl,hO⟩;cbv;cases h;exact hK hO (.refl _)
 rintro e l H ⟨rfl,rfl,hO⟩;cbv;cases h;exact hK hO (.refl _)
def c64 (N aB r) (h:BM N aB=some r):C7 prog 64 [(F2 aB)] (sr (V.int .i64) r):=by
 unfold BM at h
 refine Q9 (T:=TT) cf0 J9 func64 (by rfl) (by kernel_rfl) call64 ntmps64 (by rfl) (by rfl) ?_;intro E H0 K hE hK hF;have hO:B6 Eq H0 [] H0:=.start C5 rfl;cbv;refine E9 hE ?_;cbv;refine Mt hE (f:=(V.int .i64)) (by decide) (z0:=(0:Int)) ((.refl _)) hO h fun l2 q1 H hq1 h hO=>?_;cbv;obtain⟨s5,hx,h⟩:=bind_some h;refine H8 cf0 hE J9 (γ:=OG) (fun s3 g=>[(1,.v (.eref (B8 aB) 0)),(3,.v (.own g.id g.lo g.n)),fi 4 s3.1]) (fun s3 g H1=>Z0 g (Ar.len s3.2)∧B6 Eq H0 [ob g 1 (V.int .i64) s3.2] H1) (fun x e l H1=>∃u1:OG,Z0 u1 (Ar.len x)∧e= .exit 0∧l=[(1,.v (.eref (B8 aB) 0)),(3,.v (.own u1.id u1.lo u1.n))]∧B6 Eq H0 [ob u1 1 (V.int .i64) x] H1) (by kernel_rfl) ?_ q1 hx ?_ ?_ ?_
 ·rintro s3 q4 H o ⟨hq4,hO⟩ h;clear hx;cbv;refine Fc hE hq4 ?_;cbv;refine B0 hE h (fun _ h=>?_) fun _ h=>?_
  ·cbv;refine N9 hE hO hq4 0 rfl h fun h=>?_;cbv;refine Q8 hE (f:=(V.int .i64)) (esz:=1) (tz:=1) (off:=0) (u:=(fun x6:Int=>(-1))) (fun _=>⟨.int .i64 (-1),.refl _,rfl,rfl,rfl⟩) (by decide) hO hq4 0 rfl h fun l7 H hq4 h hO=>?_;cbv;refine D0 hE (fun _=>rfl) h fun x8 h=>?_;cbv;refine B0 hE h (fun _ h=>?_) fun _ h=>?_
   ·cbv;refine N9 hE hO hq4 0 rfl h fun h=>?_;cbv;refine Q8 hE (f:=(V.int .i64)) (esz:=1) (tz:=1) (off:=0) (u:=(fun x9:Int=>0)) (fun _=>⟨.int .i64 0,.refl _,rfl,rfl,rfl⟩) (by decide) hO hq4 0 rfl h fun l10 H hq4 h hO=>?_;cbv;cases h;exact⟨_,q4,rfl,.e rfl (.e2 .z),rfl,hq4,hO⟩
   cbv;cases h;exact⟨_,q4,rfl,.e rfl (.e2 .z),rfl,hq4,hO⟩
  cbv;cases h;exact⟨_,_,rfl,⟨q4,hq4,rfl,rfl,hO⟩,.e2 .z,rfl⟩
 ·exact .e rfl (.e2 .z)
 ·exact⟨hq1,hO⟩
 clear hx;rintro e l H ⟨q11,hq11,rfl,rfl,hO⟩;cbv;obtain⟨s14,hx,h⟩:=bind_some h;refine H8 cf0 hE J9 (γ:=OG) (fun s12 g=>[(1,.v (.eref (B8 aB) 0)),(3,.v (.own g.id g.lo g.n)),fi 5 s12.1]) (fun s12 g H1=>Z0 g (Ar.len s12.2)∧B6 Eq H0 [ob g 1 (V.int .i64) s12.2] H1) (fun x e l H1=>∃u1:OG,Z0 u1 (Ar.len x)∧e= .exit 2∧l=[(3,.v (.own u1.id u1.lo u1.n))]∧B6 Eq H0 [ob u1 1 (V.int .i64) x] H1) (by kernel_rfl) ?_ q11 hx ?_ ?_ ?_
 ·rintro s12 q13 H o ⟨hq13,hO⟩ h;clear hx;cbv;refine Fc hE hq13 ?_;cbv;refine B0 hE h (fun _ h=>?_) fun _ h=>?_
  ·cbv;obtain⟨s17,hx,h⟩:=bind_some h;refine H8 cf0 hE J9 (γ:=OG) (fun s15 g=>[(1,.v (.eref (B8 aB) 0)),(3,.v (.own g.id g.lo g.n)),fi 5 s12.1,fi 6 s15.1]) (fun s15 g H1=>Z0 g (Ar.len s15.2)∧B6 Eq H0 [ob g 1 (V.int .i64) s15.2] H1) (fun x e l H1=>∃u1:OG,Z0 u1 (Ar.len x)∧e= .exit 4∧l=[(1,.v (.eref (B8 aB) 0)),(3,.v (.own u1.id u1.lo u1.n)),fi 5 s12.1]∧B6 Eq H0 [ob u1 1 (V.int .i64) x] H1) (by kernel_rfl) ?_ q13 hx ?_ ?_ ?_
   ·rintro s15 q16 H o ⟨hq16,hO⟩ h;clear hx;cbv;refine E9 hE ?_;cbv;refine B0 hE h (fun _ h=>?_) fun _ h=>?_
    ·cbv;refine D0 hE eAD9 h fun x18 h=>?_;cbv;refine N9 hE hO hq16 0 rfl h fun h=>?_;cbv;refine U4 hE (fun _=>rfl) hO hq16 0 rfl h fun x19 h=>?_;cbv;refine B0 hE h (fun _ h=>?_) fun _ h=>?_
     ·cbv;refine N9 hE hO hq16 0 rfl h fun h=>?_;cbv;refine U4 hE (fun _=>rfl) hO hq16 0 rfl h fun x20 h=>?_;cbv;refine B0 hE h (fun _ h=>?_) fun _ h=>?_
      ·cbv;refine A9 hE h (c76 N x18.On) (.refl _) fun r21 h=>?_;cbv;refine B0 hE h (fun _ h=>?_) fun _ h=>?_
       ·cbv;refine N9 hE hO hq16 0 rfl h fun h=>?_;cbv;refine Q8 hE (f:=(V.int .i64)) (esz:=1) (tz:=1) (off:=0) (u:=(fun x22:Int=>s12.1)) (fun _=>⟨.int .i64 s12.1,.refl _,rfl,rfl,rfl⟩) (by decide) hO hq16 0 rfl h fun l23 H hq16 h hO=>?_;cbv;cases h;exact⟨_,q16,rfl,.e4 .z,rfl,hq16,hO⟩
       cbv;cases h;exact⟨_,q16,rfl,.e4 .z,rfl,hq16,hO⟩
      cbv;cases h;exact⟨_,q16,rfl,.e4 .z,rfl,hq16,hO⟩
     cbv;cases h;exact⟨_,q16,rfl,.e4 .z,rfl,hq16,hO⟩
    cbv;cases h;exact⟨_,_,rfl,⟨q16,hq16,rfl,rfl,hO⟩,.e rfl (.e2 .z),rfl⟩
   ·exact .e4 .z
   ·exact⟨hq13,hO⟩
   clear hx;rintro e l H ⟨q24,hq24,rfl,rfl,hO⟩;cbv;cases h;exact⟨_,q24,rfl,.e rfl (.e2 .z),rfl,hq24,hO⟩
  cbv;cases h;exact⟨_,_,rfl,⟨q13,hq13,rfl,rfl,hO⟩,.e rfl .z,rfl⟩
 ·exact .e rfl (.e2 .z)
 ·exact⟨hq11,hO⟩
 clear hx;rintro e l H ⟨q25,hq25,rfl,rfl,hO⟩;cbv;cases h;exact hF q25 _ _ 0 _ _ hO rfl (Z5 hE hq25) (.refl _)
def c74 (N aC aD r)(h:EY N aC aD=some r):C7 prog 74 [(F2 aC),(F2 aD)] (vi r):=by
 unfold EY at h
 refine P6 cf0 func74 call74 ntmps74 ?_;intro E H0 K hE hK hO;cbv;refine A9 hE h (c14 N aC) (.refl _) fun r1 h=>?_;cbv;refine B0 hE h (fun _ h=>?_) fun _ h=>?_
 ·cbv;cases h;exact hK hO (.refl _)
 cbv;refine A9 hE h (c14 N aD) (.refl _) fun r2 h=>?_;cbv;refine B0 hE h (fun _ h=>?_) fun _ h=>?_
 ·cbv;cases h;exact hK hO (.refl _)
 cbv;refine B0 hE h (fun _ h=>?_) fun _ h=>?_
 ·cbv;cases h;exact hK hO (.refl _)
 cbv;cases h;exact hK hO (.refl _)
def cf75:Cf:=⟨[4,5],[(5,14)],[],[],[],[]⟩
def c75 (N aA aR r) (h:DC N aA aR=some r):C7 prog 75 [(F3 aA),(F3 aR)] ((F3 r)):=by
 unfold DC at h
 refine P6 cf75 func75 call75 ntmps75 ?_;intro E H0 K hE hK hO;cbv;refine D8 hE hO fun b1 H hO=>?_;cbv;refine D8 hE hO fun b2 H hO=>?_;cbv;replace hO:=hO.cast (L':=[cb b2 [.sl (Ar.lst eAE3 ([])) .nil],cb b1 [.sl [] .nil]]) (by simp only[ob,cb,sr,←B4]<;>rfl);replace hO:=hO.tl0 (t:=.nil) rfl;obtain⟨s5,hx,h⟩:=bind_some h;refine H8 cf75 hE J9 (γ:=D2) (fun s3 g=>[(2,.v (.eref (L3 aA) 0)),(3,.v (.eref (L3 aR) 0)),(4,.v (.ref b1 0)),(5,.v (.ref b2 0)),fi 6 s3.1]) (fun s3 g H1=>G3 g∧B6 Eq H0 [.tl g,cb b2 [.sl (Ar.lst eAE3 s3.2.cX) g],cb b1 [.sl [] .nil]] H1) (fun x e l H1=>∃u1:D2,G3 u1∧e= .exit 0∧l=[(4,.v (.ref b1 0)),(5,.v (.ref b2 0))]∧B6 Eq H0 [.tl u1,cb b2 [.sl (Ar.lst eAE3 x.cX) u1],cb b1 [.sl [] .nil]] H1) (by kernel_rfl) ?_ .nil hx ?_ ?_ ?_
 ·rintro s3 t4 H o ⟨ht4,hO⟩ h;clear hx;cbv;refine E9 hE ?_;cbv;refine B0 hE h (fun _ h=>?_) fun _ h=>?_
  ·cbv;refine A8 hE hO 1 rfl ?_;cbv;refine D0 hE eAE5 h fun x6 h=>?_;cbv;refine D0 hE eAE5 h fun x7 h=>?_;cbv;refine M9 hE (g:=fun r8=>sr eAD7 r8) h (c121 N x6 x7) (.refl _) fun r8 h=>?_;cbv;refine K7 (f:=eAE3) hE Fo (by decide) hO 0 rfl ht4 (l:=s3.2.cX) (m:=[r8]) (.refl _) (.lstc (.eq (eAE5 r8) (.refl _)) (.lst0)) h fun l10 t9 H hO ht9 h=>?_;cbv;refine A7 hE hO 1 rfl rfl fun H hO=>?_;cbv;cases h;exact⟨_,t9,rfl,.e rfl (.e4 .z),rfl,ht9,hO⟩
  cbv;cases h;exact⟨_,_,rfl,⟨t4,ht4,rfl,rfl,hO⟩,.e2 .z,rfl⟩
 ·exact .e rfl (.e4 .z)
 ·exact⟨trivial,hO⟩
 clear hx;rintro e l H ⟨t11,ht11,rfl,rfl,hO⟩;cbv;refine A8 hE hO 1 rfl ?_;cbv;refine A7 hE hO 2 rfl rfl fun H hO=>?_;cbv;refine A8 hE hO 2 rfl ?_;cbv;cases h;exact hK hO (.agg (.cons (.ro _ _) (.refl _)))
def cf77:Cf:=⟨[],[(4,5)],[],[],[],[]⟩
def c77 (N aE aH r) (h:AC N aE aH=some r):Aj2 prog 77 [(JS aH)] (Ar.lst eAE8 aE) (fun o=>.tup [vi r.1,.sl (Ar.lst eAE8 r.2) o]):=by
 unfold AC at h
 intro H0 tl0 htl0 hap;refine WE (T:=TT) (mk:=fun o=>.tup [vi r.1,.sl (Ar.lst eAE8 r.2) o]) cf77 J9 func77 (by rfl) (by kernel_rfl) call77 ntmps77 (by rfl) (by rfl) ?_;intro E K hE hK;have hO:B6 Eq (G0 H0 tl0) [.tl tl0] H0:=B6.startT hap;cbv;obtain⟨s2,hx,h⟩:=bind_some h;refine K1 cf77 hE J9 (fun s1=>[(0,.v (.sl (Ar.lst eAE8 aE) tl0)),(3,.v (.eref (CN aH) 0)),fi 6 s1]) (fun s1 H1=>B6 Eq (G0 H0 tl0) [.tl tl0] H1) (fun x e l H1=>match(generalizing:=false) x with| .inl y=>e= .exit 0∧l=[(0,.v (.sl (Ar.lst eAE8 aE) tl0)),(3,.v (.eref (CN aH) 0))]∧B6 Eq (G0 H0 tl0) [.tl tl0] H1| .inr y=>e= .ret∧l=[fi 4 y,(5,.v (.sl (Ar.lst eAE8 aE) tl0))]∧B6 Eq (G0 H0 tl0) [.tl tl0] H1) (by kernel_rfl) ?_ hx ?_ hO ?_
 ·intro s1 H o hO h;clear hx;cbv;refine E9 hE ?_;cbv;refine B0 hE h (fun _ h=>?_) fun _ h=>?_
  ·cbv;refine D0 hE eAF9 h fun x3 h=>?_;cbv;refine B0 hE h (fun _ h=>?_) fun _ h=>?_
   ·cbv;cases h;exact⟨_,_,rfl,⟨rfl,rfl,hO⟩,.e2 .z,rfl⟩
   cbv;cases h;exact⟨_,rfl,.e rfl (.e2 .z),rfl,hO⟩
  cbv;cases h;exact⟨_,_,rfl,⟨rfl,rfl,hO⟩,.e2 .z,rfl⟩
 ·exact .e rfl (.e2 .z)
 clear hx
 rcases s2 with y4|y7
 ·rintro e l H ⟨rfl,rfl,hO⟩;cbv;refine E9 hE ?_;cbv;refine K7 (f:=eAE8) hE Iy (by decide) hO 0 rfl htl0 (l:=aE) (m:=[aH]) (.refl _) (.lstc (.eq (eAF9 aH) (.refl _)) (.lst0)) h fun l6 t5 H hO ht5 h=>?_;cbv;cases h;exact hK _ t5 _ 0 _ (.tup (.cons (.refl _) (.cons (.slt _ (.refl _)) (.refl _)))) (by rfl) ht5 hO
 rintro e l H ⟨rfl,rfl,hO⟩;cbv;cases h;exact hK _ tl0 _ 0 _ (.tup (.cons (.refl _) (.cons (.slt _ (.refl _)) (.refl _)))) (by rfl) htl0 hO
def cf78:Cf:=⟨[2],[],[],[],[],[]⟩
def c78 (N aB r)(h:S9 N aB=some r):C7 prog 78 [(F2 aB)] (.tup [(F2 r.1),vi r.2]):=by
 unfold S9 at h
 refine P6 cf78 func78 call78 ntmps78 ?_;intro E H0 K hE hK hO;cbv;refine D8 hE hO fun b1 H hO=>?_;cbv;refine A9 hE h (c14 N aB) (.refl _) fun r2 h=>?_;cbv;refine B0 hE h (fun _ h=>?_) fun _ h=>?_
 ·cbv;refine A7 hE hO 0 rfl rfl fun H hO=>?_;cbv;refine A8 hE hO 0 rfl ?_;cbv;cases h;exact hK hO (.tup (.cons (.agg (.cons (.refl _) (.cons (.lit _ (B4)) (.cons (.lit _ (B4)) (.refl _))))) (.refl _)))
 cbv;refine A7 hE hO 0 rfl rfl fun H hO=>?_;cbv;refine A8 hE hO 0 rfl ?_;cbv;cases h;exact hK hO (.refl _)
def cf26:Cf:=⟨[4,7],[(9,23),(16,14),(17,16)],[],[],[],[]⟩
set_option maxHeartbeats 2000000 in
def c26 (N aC aD r) (h:BS N aC aD=some r):C7 prog 26 [(F2 aC),(F2 aD)] (.tup [(F2 r.1),vi r.2]):=by
 unfold BS at h
 refine P6 cf26 func26 call26 ntmps26 ?_;intro E H0 K hE hK hO;cbv;refine D8 hE hO fun b1 H hO=>?_;cbv;refine A9 hE h (c74 N aC aD) (.refl _) fun r2 h=>?_;cbv;refine B0 hE h (fun _ h=>?_) fun _ h=>?_
 ·cbv;refine A7 hE hO 0 rfl rfl fun H hO=>?_;cbv;refine A8 hE hO 0 rfl ?_;cbv;cases h;exact hK hO (.tup (.cons (.agg (.cons (.refl _) (.cons (.lit _ (B4)) (.cons (.lit _ (B4)) (.refl _))))) (.refl _)))
 cbv;refine D8 hE hO fun b3 H hO=>?_;cbv;refine A7 hE hO 0 rfl rfl fun H hO=>?_;cbv;replace hO:=hO.cast (L':=[cb b3 [vi aC.cV,.sl (Ar.lst V.bool ([])) .nil,.sl (Ar.lst eAD6 ([])) .nil],cb b1 [vi 0,.sl [] .nil,.sl [] .nil]]) (by simp only[ob,cb,sr,←B4]<;>rfl);replace hO:=hO.tl0 (t:=.nil) rfl;replace hO:=hO.tl0 (t:=.nil) rfl;replace hO:=hO.tl0 (t:=.full) rfl;obtain⟨s8,hx,h⟩:=bind_some h;refine H8 cf26 hE J9 (γ:=D2×D2×D2) (fun s4 g=>[(2,.v (.eref (B8 aC) 0)),(3,.v (.eref (B8 aD) 0)),(4,.v (.ref b1 0)),(7,.v (.ref b3 0)),(8,.v (.sl (Ar.lst eAE8 s4.1) g.1)),fi 9 s4.2.1]) (fun s4 g H1=>G3 g.1∧G3 g.2.1∧G3 g.2.2∧B6 Eq H0 [.tl g.1,.tl g.2.1,.tl g.2.2,cb b3 [vi s4.2.2.cV,.sl (Ar.lst V.bool s4.2.2.cT) g.2.2,.sl (Ar.lst eAD6 s4.2.2.cU) g.2.1],cb b1 [vi 0,.sl [] .nil,.sl [] .nil]] H1) (fun x e l H1=>∃u1:D2,G3 u1∧∃u2:D2,G3 u2∧∃u3:D2,G3 u3∧e= .exit 0∧l=[(4,.v (.ref b1 0)),(7,.v (.ref b3 0)),(8,.v (.sl (Ar.lst eAE8 x.1) u1))]∧B6 Eq H0 [.tl u1,.tl u2,.tl u3,cb b3 [vi x.2.cV,.sl (Ar.lst V.bool x.2.cT) u3,.sl (Ar.lst eAD6 x.2.cU) u2],cb b1 [vi 0,.sl [] .nil,.sl [] .nil]] H1) (by kernel_rfl) ?_ (⟨.full,.nil,.nil⟩) hx ?_ ?_ ?_
 ·rintro s4 ⟨t5,t6,t7⟩ H o ⟨ht5,ht6,ht7,hO⟩ h;clear hx;cbv;refine E9 hE ?_;cbv;refine E9 hE ?_;cbv;refine B0 hE h (fun _ h=>?_) fun _ h=>?_
  ·cbv;refine A8 hE hO 3 rfl ?_;cbv;refine D0 hE eAF9 h fun x9 h=>?_;cbv;refine D0 hE (fun _=>rfl) h fun x10 h=>?_;cbv;refine B0 hE h (fun _ h=>?_) fun _ h=>?_
   ·cbv;refine D0 hE eAF9 h fun x11 h=>?_;cbv;refine D0 hE (fun _=>rfl) h fun x12 h=>?_;cbv;refine K7 (f:=V.bool) hE (fun _=>rfl) (by decide) hO 2 rfl ht7 (l:=s4.2.2.cT) (m:=[x12]) (.refl _) (.lstc (.refl _) (.lst0)) h fun l14 t13 H hO ht13 h=>?_;cbv;refine A7 hE hO 3 rfl rfl fun H hO=>?_;cbv;obtain⟨s18,hx,h⟩:=bind_some h;refine H8 cf26 hE J9 (γ:=D2×D2) (fun s15 g=>[(2,.v (.eref (B8 aC) 0)),(3,.v (.eref (B8 aD) 0)),(4,.v (.ref b1 0)),(7,.v (.ref b3 0)),(8,.v (.sl (Ar.lst eAE8 s15.1) g.1)),fi 9 s4.2.1,fi 10 s15.2.1]) (fun s15 g H1=>G3 g.1∧G3 g.2∧B6 Eq H0 [.tl g.1,.tl g.2,.tl t13,cb b3 [vi s15.2.2.cV,.sl (Ar.lst V.bool l14) t13,.sl (Ar.lst eAD6 s15.2.2.cU) g.2],cb b1 [vi 0,.sl [] .nil,.sl [] .nil]] H1) (fun x e l H1=>∃u1:D2,G3 u1∧∃u2:D2,G3 u2∧e= .exit 2∧l=[(2,.v (.eref (B8 aC) 0)),(3,.v (.eref (B8 aD) 0)),(4,.v (.ref b1 0)),(7,.v (.ref b3 0)),(8,.v (.sl (Ar.lst eAE8 x.1) u1)),fi 9 s4.2.1]∧B6 Eq H0 [.tl u1,.tl u2,.tl t13,cb b3 [vi x.2.cV,.sl (Ar.lst V.bool l14) t13,.sl (Ar.lst eAD6 x.2.cU) u2],cb b1 [vi 0,.sl [] .nil,.sl [] .nil]] H1) (by kernel_rfl) ?_ (⟨t5,t6⟩) hx ?_ ?_ ?_
    ·rintro s15 ⟨t16,t17⟩ H o ⟨ht16,ht17,hO⟩ h;clear hx;cbv;refine E9 hE ?_;cbv;refine B0 hE h (fun _ h=>?_) fun _ h=>?_
     ·cbv;obtain⟨s22,hx,h⟩:=bind_some h;refine H8 cf26 hE J9 (γ:=D2×D2) (fun s19 g=>[(2,.v (.eref (B8 aC) 0)),(3,.v (.eref (B8 aD) 0)),(4,.v (.ref b1 0)),(7,.v (.ref b3 0)),(8,.v (.sl (Ar.lst eAE8 s19.1) g.1)),fi 9 s4.2.1,fi 10 s15.2.1,fi 11 s19.2.1]) (fun s19 g H1=>G3 g.1∧G3 g.2∧B6 Eq H0 [.tl g.1,.tl g.2,.tl t13,cb b3 [vi s19.2.2.cV,.sl (Ar.lst V.bool l14) t13,.sl (Ar.lst eAD6 s19.2.2.cU) g.2],cb b1 [vi 0,.sl [] .nil,.sl [] .nil]] H1) (fun x e l H1=>∃u1:D2,G3 u1∧∃u2:D2,G3 u2∧e= .exit 4∧l=[(2,.v (.eref (B8 aC) 0)),(3,.v (.eref (B8 aD) 0)),(4,.v (.ref b1 0)),(7,.v (.ref b3 0)),(8,.v (.sl (Ar.lst eAE8 x.1) u1)),fi 9 s4.2.1,fi 10 s15.2.1]∧B6 Eq H0 [.tl u1,.tl u2,.tl t13,cb b3 [vi x.2.cV,.sl (Ar.lst V.bool l14) t13,.sl (Ar.lst eAD6 x.2.cU) u2],cb b1 [vi 0,.sl [] .nil,.sl [] .nil]] H1) (by kernel_rfl) ?_ (⟨t16,t17⟩) hx ?_ ?_ ?_
      ·rintro s19 ⟨t20,t21⟩ H o ⟨ht20,ht21,hO⟩ h;clear hx;cbv;refine E9 hE ?_;cbv;refine B0 hE h (fun _ h=>?_) fun _ h=>?_
       ·cbv;refine D0 hE eAD9 h fun x23 h=>?_;cbv;refine D0 hE eAD9 h fun x24 h=>?_;cbv;refine D0 hE eAF9 h fun x25 h=>?_;cbv;refine B0 hE h (fun _ h=>?_) fun _ h=>?_
        ·cbv;cases h;exact⟨_,⟨t20,t21⟩,rfl,.e4 (.e4 .z),rfl,ht20,ht21,hO⟩
        cbv;refine D0 hE eAF9 h fun x26 h=>?_;cbv;refine B0 hE h (fun _ h=>?_) fun _ h=>?_
        ·cbv;cases h;exact⟨_,⟨t20,t21⟩,rfl,.e4 (.e4 .z),rfl,ht20,ht21,hO⟩
        cbv;refine A9 hE h (c75 N x23.On x24.On) (.refl _) fun r27 h=>?_;cbv;refine A9 hE h (c76 N r27) (.refl _) fun r28 h=>?_;cbv;refine B0 hE h (fun _ h=>?_) fun _ h=>?_
        ·cbv;cases h;exact⟨_,⟨t20,t21⟩,rfl,.e4 (.e4 .z),rfl,ht20,ht21,hO⟩
        cbv;refine Uy hE (f:=eAE8) (fun l29 o=>.tup [vi l29.1,.sl (Ar.lst eAE8 l29.2) o]) hO 0 rfl ht20 h (c77 N s19.1 (⟨x23.To,x24.To⟩:C2)) (.refl _) (.refl _) fun l29 t31 H hO ht31 h=>?_;cbv;refine A8 hE hO 3 rfl ?_;cbv;refine K7 (f:=eAD6) hE O3 (by decide) hO 1 rfl ht21 (l:=s19.2.2.cU) (m:=[(⟨s4.2.1,l29.1,r27⟩:B5)]) (.refl _) (.lstc (.eq (eAD9 (⟨s4.2.1,l29.1,r27⟩:B5)) (.refl _)) (.lst0)) h fun l33 t32 H hO ht32 h=>?_;cbv;refine A7 hE hO 3 rfl rfl fun H hO=>?_;cbv;cases h;exact⟨_,⟨t31,t32⟩,rfl,.e4 (.e4 .z),rfl,ht31,ht32,hO⟩
       cbv;cases h;exact⟨_,_,rfl,⟨t20,ht20,t21,ht21,rfl,rfl,hO⟩,.e rfl (.e2 (.e4 .z)),rfl⟩
      ·exact .e4 (.e4 .z)
      ·exact⟨ht16,ht17,hO⟩
      clear hx;rintro e l H ⟨t34,ht34,t35,ht35,rfl,rfl,hO⟩;cbv;cases h;exact⟨_,⟨t34,t35⟩,rfl,.e rfl (.e2 (.e4 .z)),rfl,ht34,ht35,hO⟩
     cbv;cases h;exact⟨_,_,rfl,⟨t16,ht16,t17,ht17,rfl,rfl,hO⟩,.e2 (.e4 .z),rfl⟩
    ·exact .e rfl (.e2 (.e4 .z))
    ·exact⟨ht5,ht6,hO⟩
    clear hx;rintro e l H ⟨t36,ht36,t37,ht37,rfl,rfl,hO⟩;cbv;cases h;exact⟨_,⟨t36,t37,t13⟩,rfl,.e2 (.e4 .z),rfl,ht36,ht37,ht13,hO⟩
   cbv;refine K7 (f:=V.bool) hE (fun _=>rfl) (by decide) hO 2 rfl ht7 (l:=s4.2.2.cT) (m:=[false]) (.refl _) (.lstc (.refl _) (.lst0)) h fun l39 t38 H hO ht38 h=>?_;cbv;refine A7 hE hO 3 rfl rfl fun H hO=>?_;cbv;obtain⟨s43,hx,h⟩:=bind_some h;refine H8 cf26 hE J9 (γ:=D2×D2) (fun s40 g=>[(2,.v (.eref (B8 aC) 0)),(3,.v (.eref (B8 aD) 0)),(4,.v (.ref b1 0)),(7,.v (.ref b3 0)),(8,.v (.sl (Ar.lst eAE8 s40.1) g.1)),fi 9 s4.2.1,fi 10 s40.2.1]) (fun s40 g H1=>G3 g.1∧G3 g.2∧B6 Eq H0 [.tl g.1,.tl g.2,.tl t38,cb b3 [vi s40.2.2.cV,.sl (Ar.lst V.bool l39) t38,.sl (Ar.lst eAD6 s40.2.2.cU) g.2],cb b1 [vi 0,.sl [] .nil,.sl [] .nil]] H1) (fun x e l H1=>∃u1:D2,G3 u1∧∃u2:D2,G3 u2∧e= .exit 2∧l=[(2,.v (.eref (B8 aC) 0)),(3,.v (.eref (B8 aD) 0)),(4,.v (.ref b1 0)),(7,.v (.ref b3 0)),(8,.v (.sl (Ar.lst eAE8 x.1) u1)),fi 9 s4.2.1]∧B6 Eq H0 [.tl u1,.tl u2,.tl t38,cb b3 [vi x.2.cV,.sl (Ar.lst V.bool l39) t38,.sl (Ar.lst eAD6 x.2.cU) u2],cb b1 [vi 0,.sl [] .nil,.sl [] .nil]] H1) (by kernel_rfl) ?_ (⟨t5,t6⟩) hx ?_ ?_ ?_
   ·rintro s40 ⟨t41,t42⟩ H o ⟨ht41,ht42,hO⟩ h;clear hx;cbv;refine E9 hE ?_;cbv;refine B0 hE h (fun _ h=>?_) fun _ h=>?_
    ·cbv;obtain⟨s47,hx,h⟩:=bind_some h;refine H8 cf26 hE J9 (γ:=D2×D2) (fun s44 g=>[(2,.v (.eref (B8 aC) 0)),(3,.v (.eref (B8 aD) 0)),(4,.v (.ref b1 0)),(7,.v (.ref b3 0)),(8,.v (.sl (Ar.lst eAE8 s44.1) g.1)),fi 9 s4.2.1,fi 10 s40.2.1,fi 11 s44.2.1]) (fun s44 g H1=>G3 g.1∧G3 g.2∧B6 Eq H0 [.tl g.1,.tl g.2,.tl t38,cb b3 [vi s44.2.2.cV,.sl (Ar.lst V.bool l39) t38,.sl (Ar.lst eAD6 s44.2.2.cU) g.2],cb b1 [vi 0,.sl [] .nil,.sl [] .nil]] H1) (fun x e l H1=>∃u1:D2,G3 u1∧∃u2:D2,G3 u2∧e= .exit 4∧l=[(2,.v (.eref (B8 aC) 0)),(3,.v (.eref (B8 aD) 0)),(4,.v (.ref b1 0)),(7,.v (.ref b3 0)),(8,.v (.sl (Ar.lst eAE8 x.1) u1)),fi 9 s4.2.1,fi 10 s40.2.1]∧B6 Eq H0 [.tl u1,.tl u2,.tl t38,cb b3 [vi x.2.cV,.sl (Ar.lst V.bool l39) t38,.sl (Ar.lst eAD6 x.2.cU) u2],cb b1 [vi 0,.sl [] .nil,.sl [] .nil]] H1) (by kernel_rfl) ?_ (⟨t41,t42⟩) hx ?_ ?_ ?_
     ·rintro s44 ⟨t45,t46⟩ H o ⟨ht45,ht46,hO⟩ h;clear hx;cbv;refine E9 hE ?_;cbv;refine B0 hE h (fun _ h=>?_) fun _ h=>?_
      ·cbv;refine D0 hE eAD9 h fun x48 h=>?_;cbv;refine D0 hE eAD9 h fun x49 h=>?_;cbv;refine D0 hE eAF9 h fun x50 h=>?_;cbv;refine B0 hE h (fun _ h=>?_) fun _ h=>?_
       ·cbv;cases h;exact⟨_,⟨t45,t46⟩,rfl,.e4 (.e4 .z),rfl,ht45,ht46,hO⟩
       cbv;refine D0 hE eAF9 h fun x51 h=>?_;cbv;refine B0 hE h (fun _ h=>?_) fun _ h=>?_
       ·cbv;cases h;exact⟨_,⟨t45,t46⟩,rfl,.e4 (.e4 .z),rfl,ht45,ht46,hO⟩
       cbv;refine A9 hE h (c75 N x48.On x49.On) (.refl _) fun r52 h=>?_;cbv;refine A9 hE h (c76 N r52) (.refl _) fun r53 h=>?_;cbv;refine B0 hE h (fun _ h=>?_) fun _ h=>?_
       ·cbv;cases h;exact⟨_,⟨t45,t46⟩,rfl,.e4 (.e4 .z),rfl,ht45,ht46,hO⟩
       cbv;refine Uy hE (f:=eAE8) (fun l54 o=>.tup [vi l54.1,.sl (Ar.lst eAE8 l54.2) o]) hO 0 rfl ht45 h (c77 N s44.1 (⟨x48.To,x49.To⟩:C2)) (.refl _) (.refl _) fun l54 t56 H hO ht56 h=>?_;cbv;refine A8 hE hO 3 rfl ?_;cbv;refine K7 (f:=eAD6) hE O3 (by decide) hO 1 rfl ht46 (l:=s44.2.2.cU) (m:=[(⟨s4.2.1,l54.1,r52⟩:B5)]) (.refl _) (.lstc (.eq (eAD9 (⟨s4.2.1,l54.1,r52⟩:B5)) (.refl _)) (.lst0)) h fun l58 t57 H hO ht57 h=>?_;cbv;refine A7 hE hO 3 rfl rfl fun H hO=>?_;cbv;cases h;exact⟨_,⟨t56,t57⟩,rfl,.e4 (.e4 .z),rfl,ht56,ht57,hO⟩
      cbv;cases h;exact⟨_,_,rfl,⟨t45,ht45,t46,ht46,rfl,rfl,hO⟩,.e rfl (.e2 (.e4 .z)),rfl⟩
     ·exact .e4 (.e4 .z)
     ·exact⟨ht41,ht42,hO⟩
     clear hx;rintro e l H ⟨t59,ht59,t60,ht60,rfl,rfl,hO⟩;cbv;cases h;exact⟨_,⟨t59,t60⟩,rfl,.e rfl (.e2 (.e4 .z)),rfl,ht59,ht60,hO⟩
    cbv;cases h;exact⟨_,_,rfl,⟨t41,ht41,t42,ht42,rfl,rfl,hO⟩,.e2 (.e4 .z),rfl⟩
   ·exact .e rfl (.e2 (.e4 .z))
   ·exact⟨ht5,ht6,hO⟩
   clear hx;rintro e l H ⟨t61,ht61,t62,ht62,rfl,rfl,hO⟩;cbv;cases h;exact⟨_,⟨t61,t62,t38⟩,rfl,.e2 (.e4 .z),rfl,ht61,ht62,ht38,hO⟩
  cbv;cases h;exact⟨_,_,rfl,⟨t5,ht5,t6,ht6,t7,ht7,rfl,rfl,hO⟩,.e rfl (.e2 .z),rfl⟩
 ·exact .e4 (.v (.slt _ (.lstc (.eq (eAF9 (⟨0,0⟩:C2)) (.refl _)) (.lst0))) (.e rfl (.z)))
 ·exact⟨trivial,trivial,trivial,hO⟩
 clear hx;rintro e l H ⟨t63,ht63,t64,ht64,t65,ht65,rfl,rfl,hO⟩;cbv;refine E9 hE ?_;cbv;refine B0 hE h (fun _ h=>?_) fun _ h=>?_
 ·cbv;refine A7 hE hO 4 rfl rfl fun H hO=>?_;cbv;refine A8 hE hO 4 rfl ?_;cbv;cases h;exact hK hO (.tup (.cons (.agg (.cons (.refl _) (.cons (.lit _ (B4)) (.cons (.lit _ (B4)) (.refl _))))) (.refl _)))
 cbv;refine A8 hE hO 3 rfl ?_;cbv;refine A9 hE h (c78 N s8.2) (.cons (.agg (.cons (.refl _) (.cons (.ro _ _) (.cons (.ro _ _) (.refl _))))) (.refl _)) fun r66 h=>?_;cbv;refine A7 hE hO 4 rfl rfl fun H hO=>?_;cbv;refine A8 hE hO 4 rfl ?_;cbv;cases h;exact hK hO (.refl _)
def cf83:Cf:=⟨[],[(6,15)],[],[],[],[]⟩
def c83 (N aE aU r) (h:P9 N aE aU=some r):C7 prog 83 [sr eAD6 aE,vi aU] (sr eAD6 r):=by
 unfold P9 at h
 refine P6 cf83 func83 call83 ntmps83 ?_;intro E H0 K hE hK hO;cbv;replace hO:=hO.tl0 (t:=.nil) rfl;obtain⟨s3,hx,h⟩:=bind_some h;refine H8 cf83 hE J9 (γ:=D2) (fun s1 g=>[(0,.v (sr eAD6 aE)),fi 1 aU,(5,.v (.sl (Ar.lst eAD6 s1.1) g)),fi 6 s1.2]) (fun s1 g H1=>G3 g∧B6 Eq H0 [.tl g] H1) (fun x e l H1=>∃u1:D2,G3 u1∧e= .exit 0∧l=[(5,.v (.sl (Ar.lst eAD6 x) u1))]∧B6 Eq H0 [.tl u1] H1) (by kernel_rfl) ?_ .nil hx ?_ ?_ ?_
 ·rintro s1 t2 H o ⟨ht2,hO⟩ h;clear hx;cbv;refine E9 hE ?_;cbv;refine B0 hE h (fun _ h=>?_) fun _ h=>?_
  ·cbv;refine D0 hE eAD9 h fun x4 h=>?_;cbv;refine B0 hE h (fun _ h=>?_) fun _ h=>?_
   ·cbv;refine D0 hE eAD9 h fun x5 h=>?_;cbv;refine D0 hE eAD9 h fun x6 h=>?_;cbv;refine K7 (f:=eAD6) hE O3 (by decide) hO 0 rfl ht2 (l:=s1.1) (m:=[(⟨0,Ar.ar .add .i64 x5.To aU,x6.On⟩:B5)]) (.refl _) (.lstc (.eq (eAD9 (⟨0,Ar.ar .add .i64 x5.To aU,x6.On⟩:B5)) (.refl _)) (.lst0)) h fun l8 t7 H hO ht7 h=>?_;cbv;cases h;exact⟨_,t7,rfl,.e4 .z,rfl,ht7,hO⟩
   cbv;cases h;exact⟨_,t2,rfl,.e4 .z,rfl,ht2,hO⟩
  cbv;cases h;exact⟨_,_,rfl,⟨t2,ht2,rfl,rfl,hO⟩,.e rfl .z,rfl⟩
 ·exact .e2 (.v (.slt _ (.lst0)) (.e rfl (.z)))
 ·exact⟨trivial,hO⟩
 clear hx;rintro e l H ⟨t9,ht9,rfl,rfl,hO⟩;cbv;cases h;exact hK hO (.ro _ _)
def cf84:Cf:=⟨[],[(5,22)],[],[],[],[]⟩
def c84 (N aE aU r) (h:Q6 N aE aU=some r):C7 prog 84 [sr eAD6 aE,vi aU] (sr eAD6 r):=by
 unfold Q6 at h
 refine P6 cf84 func84 call84 ntmps84 ?_;intro E H0 K hE hK hO;cbv;replace hO:=hO.tl0 (t:=.nil) rfl;obtain⟨s3,hx,h⟩:=bind_some h;refine H8 cf84 hE J9 (γ:=D2) (fun s1 g=>[(0,.v (sr eAD6 aE)),fi 1 aU,(5,.v (.sl (Ar.lst eAD6 s1.1) g)),fi 6 s1.2]) (fun s1 g H1=>G3 g∧B6 Eq H0 [.tl g] H1) (fun x e l H1=>∃u1:D2,G3 u1∧e= .exit 0∧l=[(5,.v (.sl (Ar.lst eAD6 x) u1))]∧B6 Eq H0 [.tl u1] H1) (by kernel_rfl) ?_ .nil hx ?_ ?_ ?_
 ·rintro s1 t2 H o ⟨ht2,hO⟩ h;clear hx;cbv;refine E9 hE ?_;cbv;refine B0 hE h (fun _ h=>?_) fun _ h=>?_
  ·cbv;refine D0 hE eAD9 h fun x4 h=>?_;cbv;refine D0 hE eAD9 h fun x5 h=>?_;cbv;refine D0 hE eAD9 h fun x6 h=>?_;cbv;refine K7 (f:=eAD6) hE O3 (by decide) hO 0 rfl ht2 (l:=s1.1) (m:=[(⟨Ar.ar .add .i64 x4.cW aU,Ar.ar .add .i64 x5.To aU,x6.On⟩:B5)]) (.refl _) (.lstc (.eq (eAD9 (⟨Ar.ar .add .i64 x4.cW aU,Ar.ar .add .i64 x5.To aU,x6.On⟩:B5)) (.refl _)) (.lst0)) h fun l8 t7 H hO ht7 h=>?_;cbv;cases h;exact⟨_,t7,rfl,.e4 .z,rfl,ht7,hO⟩
  cbv;cases h;exact⟨_,_,rfl,⟨t2,ht2,rfl,rfl,hO⟩,.e rfl .z,rfl⟩
 ·exact .e2 (.v (.slt _ (.lst0)) (.e rfl (.z)))
 ·exact⟨trivial,hO⟩
 clear hx;rintro e l H ⟨t9,ht9,rfl,rfl,hO⟩;cbv;cases h;exact hK hO (.ro _ _)
def cfo983:Cf:=⟨[],[(6,15)],[],[],[],[]⟩
def o983 (N aE aU r) (h:P9 N aE aU=some r):Au7 prog 83 [sr eAD6 aE,vi aU] (Ar.lst eAD6 r):=by
 unfold P9 at h
 intro H0;refine Zf (T:=TT) cfo983 J9 func83 (by rfl) (by kernel_rfl) call83 ntmps83 (by rfl) (by rfl) ?_;intro E K hE hK;have hO:B6 Eq H0 [] H0:=.start C5 rfl;cbv;replace hO:=hO.tl0 (t:=.nil) rfl;obtain⟨s3,hx,h⟩:=bind_some h;refine H8 cfo983 hE J9 (γ:=D2) (fun s1 g=>[(0,.v (sr eAD6 aE)),fi 1 aU,(5,.v (.sl (Ar.lst eAD6 s1.1) g)),fi 6 s1.2]) (fun s1 g H1=>G3 g∧B6 Eq H0 [.tl g] H1) (fun x e l H1=>∃u1:D2,G3 u1∧e= .exit 0∧l=[(5,.v (.sl (Ar.lst eAD6 x) u1))]∧B6 Eq H0 [.tl u1] H1) (by kernel_rfl) ?_ .nil hx ?_ ?_ ?_
 ·rintro s1 t2 H o ⟨ht2,hO⟩ h;clear hx;cbv;refine E9 hE ?_;cbv;refine B0 hE h (fun _ h=>?_) fun _ h=>?_
  ·cbv;refine D0 hE eAD9 h fun x4 h=>?_;cbv;refine B0 hE h (fun _ h=>?_) fun _ h=>?_
   ·cbv;refine D0 hE eAD9 h fun x5 h=>?_;cbv;refine D0 hE eAD9 h fun x6 h=>?_;cbv;refine K7 (f:=eAD6) hE O3 (by decide) hO 0 rfl ht2 (l:=s1.1) (m:=[(⟨0,Ar.ar .add .i64 x5.To aU,x6.On⟩:B5)]) (.refl _) (.lstc (.eq (eAD9 (⟨0,Ar.ar .add .i64 x5.To aU,x6.On⟩:B5)) (.refl _)) (.lst0)) h fun l8 t7 H hO ht7 h=>?_;cbv;cases h;exact⟨_,t7,rfl,.e4 .z,rfl,ht7,hO⟩
   cbv;cases h;exact⟨_,t2,rfl,.e4 .z,rfl,ht2,hO⟩
  cbv;cases h;exact⟨_,_,rfl,⟨t2,ht2,rfl,rfl,hO⟩,.e rfl .z,rfl⟩
 ·exact .e2 (.v (.slt _ (.lst0)) (.e rfl (.z)))
 ·exact⟨trivial,hO⟩
 clear hx;rintro e l H ⟨t9,ht9,rfl,rfl,hO⟩;cbv;cases h;exact hK _ _ _ 0 _ (.refl _) (by rfl) ht9 hO
def cf28:Cf:=⟨[4,8,3000038,3000041,3000057,3000062,8000057,9000062],[(5,16),(6,8),(8,11),(3000007,0),(3000007,1),(3000007,3),(3000007,4),(3000007,5),(3000007,8)],[],[2000007],[],[]⟩
def c28 (N aC aD r) (h:CD N aC aD=some r):C7 prog 28 [(F2 aC),(F2 aD)] (.tup [(F2 r.1),vi r.2]):=by
 unfold CD at h
 refine P6 cf28 func28 call28 ntmps28 ?_;intro E H0 K hE hK hO;cbv;refine D8 hE hO fun b1 H hO=>?_;cbv;refine A9 hE h (c74 N aC aD) (.refl _) fun r2 h=>?_;cbv;refine B0 hE h (fun _ h=>?_) fun _ h=>?_
 ·cbv;refine A7 hE hO 0 rfl rfl fun H hO=>?_;cbv;refine A8 hE hO 0 rfl ?_;cbv;cases h;exact hK hO (.tup (.cons (.agg (.cons (.refl _) (.cons (.lit _ (B4)) (.cons (.lit _ (B4)) (.refl _))))) (.refl _)))
 cbv;refine E9 hE ?_;cbv;refine D0 hE (fun _=>rfl) h fun x3 h=>?_;cbv;refine B0 hE h (fun _ h=>?_) fun _ h=>?_
 ·cbv;refine D8 hE hO fun b4 H hO=>?_;cbv;refine A8 hE hO 0 rfl ?_;cbv;refine Kp (f:=V.bool) hE (fun _=>rfl) (by decide) (l:=[true]) (m:=aC.cT) (.lstc (.refl _) (.lst0)) (.refl _) h fun l5 h=>?_;cbv;refine Kp (f:=V.bool) hE (fun _=>rfl) (by decide) (l:=l5) (m:=aD.cT) (.refl _) (.refl _) h fun l6 h=>?_;cbv;refine A7 hE hO 0 rfl rfl fun H hO=>?_;cbv;replace hO:=hO.cast (L':=[cb b4 [vi aC.cV,sr V.bool l6,.sl (Ar.lst eAD6 ([])) .nil],cb b1 [vi 0,.sl [] .nil,.sl [] .nil]]) (by simp only[ob,cb,sr,←B4]<;>rfl);replace hO:=hO.tl0 (t:=.nil) rfl;obtain⟨s7,hx,h⟩:=bind_some h;refine O1 cf28 hE J9 (fun e l H1=>∃u1:D2,G3 u1∧e= .normal∧l=[(2,.v (.eref (B8 aC) 0)),(3,.v (.eref (B8 aD) 0)),(4,.v (.ref b1 0)),fi 7 (Ar.ar .add .i64 1 (Ar.len aC.cT)),(8,.v (.ref b4 0))]∧B6 Eq H0 [.tl u1,cb b4 [vi s7.cV,sr V.bool s7.cT,.sl (Ar.lst eAD6 s7.cU) u1],cb b1 [vi 0,.sl [] .nil,.sl [] .nil]] H1) (by kernel_rfl) ?_ ?_
  ·clear h;have h:=hx;clear hx;cbv;obtain⟨l88,el88,h⟩:=bind_some h;obtain⟨r248,er248,h⟩:=bind_some h;obtain⟨l289,el289,h⟩:=bind_some h;refine Xo hE (f:=eAD6) hO (CP el88) (o983 N aC.cU 1) (.refl _) fun l88 t89 H hO ht89 hh=>?_;obtain rfl:=I9 hh;cbv;refine A9 hE (g:=fun r248=>sr eAD6 r248) (CP er248) (c83 N aD.cU (Ar.ar .add .i64 1 (Ar.len aC.cT))) (.refl _) fun r248 hh=>?_;obtain rfl:=I9 hh;cbv;refine K7 (f:=eAD6) hE O3 (by decide) hO 0 rfl ht89 (l:=l88) (m:=r248) (.refl _) (.refl _) (CP el289) fun l289 t288 H hO ht288 hh=>?_;obtain rfl:=I9 hh;cbv;refine A7 hE hO 2 rfl rfl fun H hO=>?_;cbv;have hO:B6 Eq H0 [.tl .nil,.tl t288,cb b4 [vi aC.cV,sr V.bool l6,.sl (Ar.lst eAD6 l289) t288],cb b1 [vi 0,.sl [] .nil,.sl [] .nil]] H:=hO.swp 0 1 rfl rfl;cases h;exact⟨_,⟨t288,ht288,rfl,rfl,hO.tail⟩,.e rfl (.e4 .z),rfl⟩
  clear hx;rintro e l H ⟨t448,ht448,rfl,rfl,hO⟩;cbv;refine Xi hE hO 0 rfl ht448 fun H hO=>?_;cbv;refine A8 hE hO 1 rfl ?_;cbv;refine M9 hE (g:=fun r449=>sr eAD6 r449) h (c84 N aC.cU 1) (.refl _) fun r449 h=>?_;cbv;refine Gd hE trivial ?_;cbv;refine Kp (f:=eAD6) hE O3 (by decide) (l:=s7.cU) (m:=r449) (.refl _) (.refl _) h fun l450 h=>?_;cbv;refine M9 hE (g:=fun r451=>sr eAD6 r451) h (c84 N aD.cU (Ar.ar .add .i64 1 (Ar.len aC.cT))) (.refl _) fun r451 h=>?_;cbv;refine Kp (f:=eAD6) hE O3 (by decide) (l:=l450) (m:=r451) (.refl _) (.refl _) h fun l452 h=>?_;cbv;refine Xk hE hO 0 rfl fun t453 H hO ht453=>?_;cbv;refine A7 hE hO 1 rfl rfl fun H hO=>?_;cbv;refine A8 hE hO 1 rfl ?_;cbv;refine A9 hE h (c78 N ({s7 with cU:=l452})) (.cons (.agg (.cons (.refl _) (.cons (.refl _) (.cons (.ro _ _) (.refl _))))) (.refl _)) fun r454 h=>?_;cbv;refine A7 hE hO 2 rfl rfl fun H hO=>?_;cbv;refine A8 hE hO 2 rfl ?_;cbv;cases h;exact hK hO (.refl _)
 cbv;refine D0 hE (fun _=>rfl) h fun x455 h=>?_;cbv;refine D8 hE hO fun b456 H hO=>?_;cbv;refine A8 hE hO 0 rfl ?_;cbv;refine Kp (f:=V.bool) hE (fun _=>rfl) (by decide) (l:=[x455]) (m:=aC.cT) (.lstc (.refl _) (.lst0)) (.refl _) h fun l457 h=>?_;cbv;refine Kp (f:=V.bool) hE (fun _=>rfl) (by decide) (l:=l457) (m:=aD.cT) (.refl _) (.refl _) h fun l458 h=>?_;cbv;refine A7 hE hO 0 rfl rfl fun H hO=>?_;cbv;replace hO:=hO.cast (L':=[cb b456 [vi aC.cV,sr V.bool l458,.sl (Ar.lst eAD6 ([])) .nil],cb b1 [vi 0,.sl [] .nil,.sl [] .nil]]) (by simp only[ob,cb,sr,←B4]<;>rfl);replace hO:=hO.tl0 (t:=.nil) rfl;obtain⟨s459,hx,h⟩:=bind_some h;refine O1 cf28 hE J9 (fun e l H1=>∃u1:D2,G3 u1∧e= .normal∧l=[(2,.v (.eref (B8 aC) 0)),(3,.v (.eref (B8 aD) 0)),(4,.v (.ref b1 0)),fi 7 (Ar.ar .add .i64 1 (Ar.len aC.cT)),(8,.v (.ref b456 0))]∧B6 Eq H0 [.tl u1,cb b456 [vi s459.cV,sr V.bool s459.cT,.sl (Ar.lst eAD6 s459.cU) u1],cb b1 [vi 0,.sl [] .nil,.sl [] .nil]] H1) (by kernel_rfl) ?_ ?_
 ·clear h;have h:=hx;clear hx;cbv;obtain⟨l540,el540,h⟩:=bind_some h;obtain⟨r700,er700,h⟩:=bind_some h;obtain⟨l741,el741,h⟩:=bind_some h;refine Xo hE (f:=eAD6) hO (CP el540) (o983 N aC.cU 1) (.refl _) fun l540 t541 H hO ht541 hh=>?_;obtain rfl:=I9 hh;cbv;refine A9 hE (g:=fun r700=>sr eAD6 r700) (CP er700) (c83 N aD.cU (Ar.ar .add .i64 1 (Ar.len aC.cT))) (.refl _) fun r700 hh=>?_;obtain rfl:=I9 hh;cbv;refine K7 (f:=eAD6) hE O3 (by decide) hO 0 rfl ht541 (l:=l540) (m:=r700) (.refl _) (.refl _) (CP el741) fun l741 t740 H hO ht740 hh=>?_;obtain rfl:=I9 hh;cbv;refine A7 hE hO 2 rfl rfl fun H hO=>?_;cbv;have hO:B6 Eq H0 [.tl .nil,.tl t740,cb b456 [vi aC.cV,sr V.bool l458,.sl (Ar.lst eAD6 l741) t740],cb b1 [vi 0,.sl [] .nil,.sl [] .nil]] H:=hO.swp 0 1 rfl rfl;cases h;exact⟨_,⟨t740,ht740,rfl,rfl,hO.tail⟩,.e rfl (.e4 .z),rfl⟩
 clear hx;rintro e l H ⟨t900,ht900,rfl,rfl,hO⟩;cbv;refine Xi hE hO 0 rfl ht900 fun H hO=>?_;cbv;refine A8 hE hO 1 rfl ?_;cbv;refine M9 hE (g:=fun r901=>sr eAD6 r901) h (c84 N aC.cU 1) (.refl _) fun r901 h=>?_;cbv;refine Gd hE trivial ?_;cbv;refine Kp (f:=eAD6) hE O3 (by decide) (l:=s459.cU) (m:=r901) (.refl _) (.refl _) h fun l902 h=>?_;cbv;refine M9 hE (g:=fun r903=>sr eAD6 r903) h (c84 N aD.cU (Ar.ar .add .i64 1 (Ar.len aC.cT))) (.refl _) fun r903 h=>?_;cbv;refine Kp (f:=eAD6) hE O3 (by decide) (l:=l902) (m:=r903) (.refl _) (.refl _) h fun l904 h=>?_;cbv;refine Xk hE hO 0 rfl fun t905 H hO ht905=>?_;cbv;refine A7 hE hO 1 rfl rfl fun H hO=>?_;cbv;refine A8 hE hO 1 rfl ?_;cbv;refine A9 hE h (c78 N ({s459 with cU:=l904})) (.cons (.agg (.cons (.refl _) (.cons (.refl _) (.cons (.ro _ _) (.refl _))))) (.refl _)) fun r906 h=>?_;cbv;refine A7 hE hO 2 rfl rfl fun H hO=>?_;cbv;refine A8 hE hO 2 rfl ?_;cbv;cases h;exact hK hO (.refl _)
def cf30:Cf:=⟨[2,5],[(9,8),(10,17),(14,24),(3000004,0),(3000004,1),(3000004,2),(3000004,3),(3000004,4),(3000004,5),(3000004,7),(3000005,0),(3000005,1),(3000005,2),(3000005,3),(3000005,4),(3000005,5),(3000005,7)],[],[2000004,2000005],[(101,2000005)],[]⟩
set_option maxHeartbeats 2000000 in
def c30 (N aB r) (h:AR N aB=some r):C7 prog 30 [(F2 aB)] (.tup [(F2 r.1),vi r.2]):=by
 unfold AR at h
 refine P6 cf30 func30 call30 ntmps30 ?_;intro E H0 K hE hK hO;cbv;refine D8 hE hO fun b1 H hO=>?_;cbv;refine A9 hE h (c14 N aB) (.refl _) fun r2 h=>?_;cbv;refine B0 hE h (fun _ h=>?_) fun _ h=>?_
 ·cbv;refine A7 hE hO 0 rfl rfl fun H hO=>?_;cbv;refine A8 hE hO 0 rfl ?_;cbv;cases h;exact hK hO (.tup (.cons (.agg (.cons (.refl _) (.cons (.lit _ (B4)) (.cons (.lit _ (B4)) (.refl _))))) (.refl _)))
 cbv;obtain⟨s3,hx,h⟩:=bind_some h;refine O1 cf30 hE J9 (fun e l H1=>∃u1:Nat,True∧∃u2:OG,Z0 u2 (Ar.len s3)∧e= .normal∧l=[(1,.v (.eref (B8 aB) 0)),(2,.v (.ref b1 0)),(5,.v (.ref u1 0))]∧B6 Eq H0 [cb u1 [vi aB.cV,.own u2.id u2.lo u2.n,.sl [] .nil],ob u2 1 V.bool s3,cb b1 [vi 0,.sl [] .nil,.sl [] .nil]] H1) (by kernel_rfl) ?_ ?_
 ·clear h;have h:=hx;clear hx;cbv;obtain⟨l245,el245,h⟩:=bind_some h;refine E9 hE ?_;cbv
  repeat' first|refine And.intro ?_ ?_|(refine Mt hE (f:=V.bool) (by decide) (z0:=(false:Bool)) ((.refl _)) hO (CP el245) fun l245 q244 H hq244 hh hO=>?_;obtain rfl:=I9 hh;cbv)|(refine D8 hE hO fun b324 H hO=>?_;cbv)|(refine A7 hE hO 0 rfl rfl fun H hO=>?_;cbv)|(have h:=I9 h;subst h;exact⟨_,⟨b324,trivial,q244,hq244,rfl,rfl,hO⟩,.e rfl (.e2 .z),rfl⟩)|(refine A7 hE hO 1 rfl rfl fun H hO=>?_;cbv)|(have hO:B6 Eq H0 [cb b324 [vi aB.cV,.own q244.id q244.lo q244.n,.sl [] .nil],ob q244 1 V.bool l245,cb b1 [vi 0,.sl [] .nil,.sl [] .nil]] H:=hO.swp 1 0 rfl rfl;have h:=I9 h;subst h;exact⟨_,⟨b324,trivial,q244,hq244,rfl,rfl,hO⟩,.e rfl (.e2 .z),rfl⟩)
 clear hx;rintro e l H ⟨b444,hb444,q445,hq445,rfl,rfl,hO⟩;cbv;obtain⟨s446,hx,h⟩:=bind_some h;refine O1 cf30 hE J9 (fun e l H1=>∃u1:OG,Z0 u1 (Ar.len s446)∧e= .normal∧l=[(1,.v (.eref (B8 aB) 0)),(2,.v (.ref b1 0)),(5,.v (.ref b444 0))]∧B6 Eq H0 [cb b444 [vi aB.cV,.own u1.id u1.lo u1.n,.sl [] .nil],ob u1 1 V.bool s446,cb b1 [vi 0,.sl [] .nil,.sl [] .nil]] H1) (by kernel_rfl) ?_ ?_
 ·clear h;have h:=hx;clear hx;cbv;obtain⟨x687,ex687,h⟩:=bind_some h;obtain⟨u766_0,eu766_0,h⟩:=bind_some h;obtain⟨l808,el808,h⟩:=bind_some h;obtain⟨u846_0,eu846_0,h⟩:=bind_some h;obtain⟨l888,el888,h⟩:=bind_some h
  repeat' first|refine And.intro ?_ ?_|(refine A8 hE hO 0 rfl ?_;cbv)|(refine D0 hE (fun _=>rfl) (CP ex687) fun x687 hh=>?_;obtain rfl:=I9 hh;cbv)|(refine N9 hE hO hq445 1 rfl (CP eu766_0) fun hh=>?_;clear hh;cbv)|(refine Q8 hE (f:=V.bool) (esz:=1) (tz:=1) (off:=0) (u:=(fun x807:Bool=>x687)) (fun _=>⟨.bool x687,.refl _,rfl,rfl,rfl⟩) (by decide) hO hq445 1 rfl (CP el808) fun l808 H hq445 hh hO=>?_;obtain rfl:=I9 hh;cbv)|(refine N9 hE hO hq445 1 rfl (CP eu846_0) fun hh=>?_;clear hh;cbv)|(refine Q8 hE (f:=V.bool) (esz:=1) (tz:=1) (off:=0) (u:=(fun x887:Bool=>true)) (fun _=>⟨.bool true,.refl _,rfl,rfl,rfl⟩) (by decide) hO hq445 1 rfl (CP el888) fun l888 H hq445 hh hO=>?_;obtain rfl:=I9 hh;cbv)|(have h:=I9 h;subst h;exact⟨_,⟨q445,hq445,rfl,rfl,hO⟩,.e rfl (.e2 .z),rfl⟩)
 clear hx;rintro e l H ⟨q967,hq967,rfl,rfl,hO⟩;cbv;replace hO:=hO.cast (L':=[cb b444 [vi aB.cV,.own q967.id q967.lo q967.n,.sl (Ar.lst eAD6 ([])) .nil],ob q967 1 V.bool s446,cb b1 [vi 0,.sl [] .nil,.sl [] .nil]]) (by simp only[ob,cb,sr,←B4]<;>rfl);replace hO:=hO.tl0 (t:=.nil) rfl;obtain⟨s970,hx,h⟩:=bind_some h;refine H8 cf30 hE J9 (γ:=D2) (fun s968 g=>[(1,.v (.eref (B8 aB) 0)),(2,.v (.ref b1 0)),(5,.v (.ref b444 0)),fi 6 s968.1]) (fun s968 g H1=>G3 g∧B6 Eq H0 [.tl g,cb b444 [vi s968.2.cV,.own q967.id q967.lo q967.n,.sl (Ar.lst eAD6 s968.2.cU) g],ob q967 1 V.bool s446,cb b1 [vi 0,.sl [] .nil,.sl [] .nil]] H1) (fun x e l H1=>∃u1:D2,G3 u1∧e= .exit 0∧l=[(1,.v (.eref (B8 aB) 0)),(2,.v (.ref b1 0)),(5,.v (.ref b444 0))]∧B6 Eq H0 [.tl u1,cb b444 [vi x.cV,.own q967.id q967.lo q967.n,.sl (Ar.lst eAD6 x.cU) u1],ob q967 1 V.bool s446,cb b1 [vi 0,.sl [] .nil,.sl [] .nil]] H1) (by kernel_rfl) ?_ .nil hx ?_ ?_ ?_
 ·rintro s968 t969 H o ⟨ht969,hO⟩ h;clear hx;cbv;refine E9 hE ?_;cbv;refine B0 hE h (fun _ h=>?_) fun _ h=>?_
  ·cbv;refine D0 hE eAD9 h fun x971 h=>?_;cbv;refine D0 hE (fun _=>rfl) h fun x972 h=>?_;cbv;refine B0 hE h (fun _ h=>?_) fun _ h=>?_
   ·cbv;refine A8 hE hO 1 rfl ?_;cbv;refine D0 hE eAD9 h fun x973 h=>?_;cbv;refine D0 hE eAD9 h fun x974 h=>?_;cbv;refine K7 (f:=eAD6) hE O3 (by decide) hO 0 rfl ht969 (l:=s968.2.cU) (m:=[(⟨0,Ar.ar .add .i64 x973.cW 1,x974.On⟩:B5)]) (.refl _) (.lstc (.eq (eAD9 (⟨0,Ar.ar .add .i64 x973.cW 1,x974.On⟩:B5)) (.refl _)) (.lst0)) h fun l976 t975 H hO ht975 h=>?_;cbv;refine A7 hE hO 1 rfl rfl fun H hO=>?_;cbv;cases h;exact⟨_,t975,rfl,.e4 .z,rfl,ht975,hO⟩
   cbv;cases h;exact⟨_,t969,rfl,.e4 .z,rfl,ht969,hO⟩
  cbv;cases h;exact⟨_,_,rfl,⟨t969,ht969,rfl,rfl,hO⟩,.e rfl (.e2 .z),rfl⟩
 ·exact .e4 .z
 ·exact⟨trivial,hO⟩
 clear hx;rintro e l H ⟨t977,ht977,rfl,rfl,hO⟩;cbv;obtain⟨s980,hx,h⟩:=bind_some h;refine H8 cf30 hE J9 (γ:=D2) (fun s978 g=>[(1,.v (.eref (B8 aB) 0)),(2,.v (.ref b1 0)),(5,.v (.ref b444 0)),fi 7 s978.1]) (fun s978 g H1=>G3 g∧B6 Eq H0 [.tl g,cb b444 [vi s978.2.cV,.own q967.id q967.lo q967.n,.sl (Ar.lst eAD6 s978.2.cU) g],ob q967 1 V.bool s446,cb b1 [vi 0,.sl [] .nil,.sl [] .nil]] H1) (fun x e l H1=>∃u1:D2,G3 u1∧e= .exit 2∧l=[(2,.v (.ref b1 0)),(5,.v (.ref b444 0))]∧B6 Eq H0 [.tl u1,cb b444 [vi x.cV,.own q967.id q967.lo q967.n,.sl (Ar.lst eAD6 x.cU) u1],ob q967 1 V.bool s446,cb b1 [vi 0,.sl [] .nil,.sl [] .nil]] H1) (by kernel_rfl) ?_ t977 hx ?_ ?_ ?_
 ·rintro s978 t979 H o ⟨ht979,hO⟩ h;clear hx;cbv;refine E9 hE ?_;cbv;refine B0 hE h (fun _ h=>?_) fun _ h=>?_
  ·cbv;refine A8 hE hO 1 rfl ?_;cbv;refine D0 hE eAD9 h fun x981 h=>?_;cbv;refine D0 hE eAD9 h fun x982 h=>?_;cbv;refine D0 hE eAD9 h fun x983 h=>?_;cbv;refine K7 (f:=eAD6) hE O3 (by decide) hO 0 rfl ht979 (l:=s978.2.cU) (m:=[(⟨Ar.ar .add .i64 x981.To 1,Ar.ar .add .i64 x982.cW 1,x983.On⟩:B5)]) (.refl _) (.lstc (.eq (eAD9 (⟨Ar.ar .add .i64 x981.To 1,Ar.ar .add .i64 x982.cW 1,x983.On⟩:B5)) (.refl _)) (.lst0)) h fun l985 t984 H hO ht984 h=>?_;cbv;refine A7 hE hO 1 rfl rfl fun H hO=>?_;cbv;cases h;exact⟨_,t984,rfl,.e4 .z,rfl,ht984,hO⟩
  cbv;cases h;exact⟨_,_,rfl,⟨t979,ht979,rfl,rfl,hO⟩,.e2 .z,rfl⟩
 ·exact .e4 .z
 ·exact⟨ht977,hO⟩
 clear hx;rintro e l H ⟨t986,ht986,rfl,rfl,hO⟩;cbv;refine SJ hE hO hq967 1 2 rfl rfl rfl (by decide) fun H hO=>?_;cbv;refine A8 hE hO 1 rfl ?_;cbv;refine A9 hE h (c78 N ({s980 with cT:=s446})) (.cons (.agg (.cons (.refl _) (.cons (.refl _) (.cons (.ro _ _) (.refl _))))) (.refl _)) fun r987 h=>?_;cbv;refine A7 hE hO 2 rfl rfl fun H hO=>?_;cbv;refine A8 hE hO 2 rfl ?_;cbv;cases h;exact hK hO (.refl _)
def cfo85:Cf:=⟨[6000002],[],[],[],[],[]⟩
def o85 (N aB r) (h:BL N aB=some r):Lu prog 85 [(F2 aB)] 1 (Ar.lst V.bool r):=by
 unfold BL at h
 intro H0;refine BU (T:=TT) (F:=H0) cfo85 J9 func85 (by rfl) (by kernel_rfl) call85 ntmps85 (by rfl) (by rfl) ?_;intro E K hE hK hN;have hO:B6 Eq H0 [] H0:=.start C5 rfl;cbv;refine LL hE (f:=V.bool) hO fun q1 H hq1 hO=>?_;cbv;refine E9 hE ?_;cbv;refine Mt hE (f:=V.bool) (by decide) (z0:=(false:Bool)) ((.refl _)) hO h fun l3 q2 H hq2 h hO=>?_;cbv;refine N9 hE hO hq2 0 rfl h fun h=>?_;cbv;refine Q8 hE (f:=V.bool) (esz:=1) (tz:=1) (off:=0) (u:=(fun x4:Bool=>true)) (fun _=>⟨.bool true,.refl _,rfl,rfl,rfl⟩) (by decide) hO hq2 0 rfl h fun l5 H hq2 h hO=>?_;cbv;obtain⟨s8,hx,h⟩:=bind_some h;refine H8 cfo85 hE J9 (γ:=OG) (fun s6 g=>[(1,.v (.eref (B8 aB) 0)),(3,.v (.own g.id g.lo g.n)),fi 4 s6.1]) (fun s6 g H1=>Z0 g (Ar.len s6.2)∧B6 Eq H0 [ob g 1 V.bool s6.2,ob q1 1 V.bool ([]:List Bool)] H1) (fun x e l H1=>∃u1:OG,Z0 u1 (Ar.len x)∧e= .exit 0∧l=[(3,.v (.own u1.id u1.lo u1.n))]∧B6 Eq H0 [ob u1 1 V.bool x,ob q1 1 V.bool ([]:List Bool)] H1) (by kernel_rfl) ?_ q2 hx ?_ ?_ ?_
 ·rintro s6 q7 H o ⟨hq7,hO⟩ h;clear hx;cbv;refine Fc hE hq7 ?_;cbv;refine B0 hE h (fun _ h=>?_) fun _ h=>?_
  ·cbv;obtain⟨s11,hx,h⟩:=bind_some h;refine H8 cfo85 hE J9 (γ:=OG) (fun s9 g=>[(1,.v (.eref (B8 aB) 0)),(3,.v (.own g.id g.lo g.n)),fi 4 s6.1,fi 5 s9.1]) (fun s9 g H1=>Z0 g (Ar.len s9.2)∧B6 Eq H0 [ob g 1 V.bool s9.2,ob q1 1 V.bool ([]:List Bool)] H1) (fun x e l H1=>∃u1:OG,Z0 u1 (Ar.len x)∧e= .exit 2∧l=[(1,.v (.eref (B8 aB) 0)),(3,.v (.own u1.id u1.lo u1.n)),fi 4 s6.1]∧B6 Eq H0 [ob u1 1 V.bool x,ob q1 1 V.bool ([]:List Bool)] H1) (by kernel_rfl) ?_ q7 hx ?_ ?_ ?_
   ·rintro s9 q10 H o ⟨hq10,hO⟩ h;clear hx;cbv;refine E9 hE ?_;cbv;refine B0 hE h (fun _ h=>?_) fun _ h=>?_
    ·cbv;refine D0 hE eAD9 h fun x12 h=>?_;cbv;refine N9 hE hO hq10 0 rfl h fun h=>?_;cbv;refine U4 hE (fun _=>rfl) hO hq10 0 rfl h fun x13 h=>?_;cbv;refine B0 hE h (fun _ h=>?_) fun _ h=>?_
     ·cbv;refine A9 hE h (c76 N x12.On) (.refl _) fun r14 h=>?_;cbv;refine B0 hE h (fun _ h=>?_) fun _ h=>?_
      ·cbv;refine N9 hE hO hq10 0 rfl h fun h=>?_;cbv;refine Q8 hE (f:=V.bool) (esz:=1) (tz:=1) (off:=0) (u:=(fun x15:Bool=>true)) (fun _=>⟨.bool true,.refl _,rfl,rfl,rfl⟩) (by decide) hO hq10 0 rfl h fun l16 H hq10 h hO=>?_;cbv;cases h;exact⟨_,q10,rfl,.e4 .z,rfl,hq10,hO⟩
      cbv;cases h;exact⟨_,q10,rfl,.e4 .z,rfl,hq10,hO⟩
     cbv;cases h;exact⟨_,q10,rfl,.e4 .z,rfl,hq10,hO⟩
    cbv;cases h;exact⟨_,_,rfl,⟨q10,hq10,rfl,rfl,hO⟩,.e rfl (.e2 .z),rfl⟩
   ·exact .e4 .z
   ·exact⟨hq7,hO⟩
   clear hx;rintro e l H ⟨q17,hq17,rfl,rfl,hO⟩;cbv;cases h;exact⟨_,q17,rfl,.e rfl (.e2 .z),rfl,hq17,hO⟩
  cbv;cases h;exact⟨_,_,rfl,⟨q7,hq7,rfl,rfl,hO⟩,.e rfl .z,rfl⟩
 ·exact .e rfl (.e2 .z)
 ·exact⟨hq2,hO⟩
 clear hx;rintro e l H ⟨q18,hq18,rfl,rfl,hO⟩;cbv;cases h;exact hK q18 _ _ (Z5 hE hq18) (hO)
def cf31:Cf:=⟨[2,8],[(13,8),(19,16),(3000004,0),(3000004,2),(3000004,4),(3000004,5)],[],[2000004],[],[]⟩
def c31 (N aB r) (h:DA N aB=some r):C7 prog 31 [(F2 aB)] (.tup [(F2 r.1),vi r.2]):=by
 unfold DA at h
 refine P6 cf31 func31 call31 ntmps31 ?_;intro E H0 K hE hK hO;cbv;refine D8 hE hO fun b1 H hO=>?_;cbv;refine A9 hE h (c14 N aB) (.refl _) fun r2 h=>?_;cbv;refine B0 hE h (fun _ h=>?_) fun _ h=>?_
 ·cbv;refine A7 hE hO 0 rfl rfl fun H hO=>?_;cbv;refine A8 hE hO 0 rfl ?_;cbv;cases h;exact hK hO (.tup (.cons (.agg (.cons (.refl _) (.cons (.lit _ (B4)) (.cons (.lit _ (B4)) (.refl _))))) (.refl _)))
 cbv;obtain⟨s3,hx,h⟩:=bind_some h;refine O1 cf31 hE J9 (fun e l H1=>∃u1:OG,Z0 u1 (Ar.len s3.2)∧e= .normal∧l=[(1,.v (.eref (B8 aB) 0)),(2,.v (.ref b1 0)),(5,.v (.own u1.id u1.lo u1.n)),(6,.v (sr (V.int .i64) s3.1))]∧B6 Eq H0 [ob u1 1 V.bool s3.2,cb b1 [vi 0,.sl [] .nil,.sl [] .nil]] H1) (by kernel_rfl) ?_ ?_
 ·clear h;have h:=hx;clear hx;cbv;obtain⟨l44,el44,h⟩:=bind_some h;obtain⟨r124,er124,h⟩:=bind_some h;refine Fs hE (f:=V.bool) (CP el44) (o85 N aB) (.refl _) hO fun l44 q45 H hq45 hO hh=>?_;obtain rfl:=I9 hh;cbv;refine A9 hE (g:=fun r124=>sr (V.int .i64) r124) (CP er124) (c64 N aB) (.refl _) fun r124 hh=>?_;obtain rfl:=I9 hh;cbv;cases h;exact⟨_,⟨q45,hq45,rfl,rfl,hO⟩,.e4 .z,rfl⟩
 clear hx;rintro e l H ⟨q284,hq284,rfl,rfl,hO⟩;cbv;refine Fc hE hq284 ?_;cbv;refine Mt hE (f:=(V.int .i64)) (by decide) (z0:=(0:Int)) ((.refl _)) hO h fun l286 q285 H hq285 h hO=>?_;cbv;refine D8 hE hO fun b287 H hO=>?_;cbv;refine A7 hE hO 0 rfl rfl fun H hO=>?_;cbv;replace hO:=hO.cast (L':=[cb b287 [vi aB.cV,.sl (Ar.lst V.bool ([])) .nil,.sl [] .nil],ob q285 1 (V.int .i64) l286,ob q284 1 V.bool s3.2,cb b1 [vi 0,.sl [] .nil,.sl [] .nil]]) (by simp only[ob,cb,sr,←B4]<;>rfl);replace hO:=hO.tl0 (t:=.nil) rfl;obtain⟨s292,hx,h⟩:=bind_some h;refine H8 cf31 hE J9 (γ:=D2×OG×OG) (fun s288 g=>[(1,.v (.eref (B8 aB) 0)),(2,.v (.ref b1 0)),(5,.v (.own g.2.2.id g.2.2.lo g.2.2.n)),(6,.v (sr (V.int .i64) s3.1)),(7,.v (.own g.2.1.id g.2.1.lo g.2.1.n)),(8,.v (.ref b287 0)),fi 9 s288.1]) (fun s288 g H1=>G3 g.1∧Z0 g.2.1 (Ar.len s288.2.2.1)∧Z0 g.2.2 (Ar.len s288.2.2.2)∧B6 Eq H0 [.tl g.1,cb b287 [vi s288.2.1.cV,.sl (Ar.lst V.bool s288.2.1.cT) g.1,.sl [] .nil],.blk g.2.1.id (.arr 1 (g.2.1.pre++Ar.lst (V.int .i64) s288.2.2.1++g.2.1.rest)),.blk g.2.2.id (.arr 1 (g.2.2.pre++Ar.lst V.bool s288.2.2.2++g.2.2.rest)),cb b1 [vi 0,.sl [] .nil,.sl [] .nil]] H1) (fun x e l H1=>∃u1:D2,G3 u1∧∃u2:OG,Z0 u2 (Ar.len x.2.1)∧∃u3:OG,Z0 u3 (Ar.len x.2.2)∧e= .exit 0∧l=[(1,.v (.eref (B8 aB) 0)),(2,.v (.ref b1 0)),(5,.v (.own u3.id u3.lo u3.n)),(7,.v (.own u2.id u2.lo u2.n)),(8,.v (.ref b287 0))]∧B6 Eq H0 [.tl u1,cb b287 [vi x.1.cV,.sl (Ar.lst V.bool x.1.cT) u1,.sl [] .nil],ob u2 1 (V.int .i64) x.2.1,ob u3 1 V.bool x.2.2,cb b1 [vi 0,.sl [] .nil,.sl [] .nil]] H1) (by kernel_rfl) ?_ (⟨.nil,q285,q284⟩) hx ?_ ?_ ?_
 ·rintro s288 ⟨t289,q290,q291⟩ H o ⟨ht289,hq290,hq291,hO⟩ h;clear hx;cbv;refine Fc hE hq291 ?_;cbv;refine B0 hE h (fun _ h=>?_) fun _ h=>?_
  ·cbv;refine N9 hE hO hq291 3 rfl h fun h=>?_;cbv;refine U4 hE (fun _=>rfl) hO hq291 3 rfl h fun x293 h=>?_;cbv;refine B0 hE h (fun _ h=>?_) fun _ h=>?_
   ·cbv;refine D0 hE (fun _=>rfl) h fun x294 h=>?_;cbv;refine N9 hE hO hq291 3 rfl h fun h=>?_;cbv;refine Q8 hE (f:=V.bool) (esz:=1) (tz:=1) (off:=0) (u:=(fun x295:Bool=>Ar.cmp .geq x294 0)) (fun _=>⟨.bool (Ar.cmp .geq x294 0),.refl _,rfl,rfl,rfl⟩) (by decide) hO hq291 3 rfl h fun l296 H hq291 h hO=>?_;cbv;refine N9 hE hO hq291 3 rfl h fun h=>?_;cbv;refine U4 hE (fun _=>rfl) hO hq291 3 rfl h fun x297 h=>?_;cbv;refine B0 hE h (fun _ h=>?_) fun _ h=>?_
    ·cbv;refine A8 hE hO 1 rfl ?_;cbv;refine E9 hE ?_;cbv;refine N9 hE hO hq290 2 rfl h fun h=>?_;cbv;refine Q8 hE (f:=(V.int .i64)) (esz:=1) (tz:=1) (off:=0) (u:=(fun x298:Int=>Ar.len s288.2.1.cT)) (fun _=>⟨.int .i64 (Ar.len s288.2.1.cT),.refl _,rfl,rfl,rfl⟩) (by decide) hO hq290 2 rfl h fun l299 H hq290 h hO=>?_;cbv;refine A8 hE hO 1 rfl ?_;cbv;refine D0 hE (fun _=>rfl) h fun x300 h=>?_;cbv;refine K7 (f:=V.bool) hE (fun _=>rfl) (by decide) hO 0 rfl ht289 (l:=s288.2.1.cT) (m:=[x300]) (.refl _) (.lstc (.refl _) (.lst0)) h fun l302 t301 H hO ht301 h=>?_;cbv;refine A7 hE hO 1 rfl rfl fun H hO=>?_;cbv;cases h;exact⟨_,⟨t301,q290,q291⟩,rfl,.e rfl (.e2 (.e4 .z)),rfl,ht301,hq290,hq291,hO⟩
    cbv;cases h;exact⟨_,⟨t289,q290,q291⟩,rfl,.e rfl (.e2 (.e4 .z)),rfl,ht289,hq290,hq291,hO⟩
   cbv;refine N9 hE hO hq291 3 rfl h fun h=>?_;cbv;refine Q8 hE (f:=V.bool) (esz:=1) (tz:=1) (off:=0) (u:=(fun x303:Bool=>false)) (fun _=>⟨.bool false,.refl _,rfl,rfl,rfl⟩) (by decide) hO hq291 3 rfl h fun l304 H hq291 h hO=>?_;cbv;refine N9 hE hO hq291 3 rfl h fun h=>?_;cbv;refine U4 hE (fun _=>rfl) hO hq291 3 rfl h fun x305 h=>?_;cbv;refine B0 hE h (fun _ h=>?_) fun _ h=>?_
   ·cbv;refine A8 hE hO 1 rfl ?_;cbv;refine E9 hE ?_;cbv;refine N9 hE hO hq290 2 rfl h fun h=>?_;cbv;refine Q8 hE (f:=(V.int .i64)) (esz:=1) (tz:=1) (off:=0) (u:=(fun x306:Int=>Ar.len s288.2.1.cT)) (fun _=>⟨.int .i64 (Ar.len s288.2.1.cT),.refl _,rfl,rfl,rfl⟩) (by decide) hO hq290 2 rfl h fun l307 H hq290 h hO=>?_;cbv;refine A8 hE hO 1 rfl ?_;cbv;refine D0 hE (fun _=>rfl) h fun x308 h=>?_;cbv;refine K7 (f:=V.bool) hE (fun _=>rfl) (by decide) hO 0 rfl ht289 (l:=s288.2.1.cT) (m:=[x308]) (.refl _) (.lstc (.refl _) (.lst0)) h fun l310 t309 H hO ht309 h=>?_;cbv;refine A7 hE hO 1 rfl rfl fun H hO=>?_;cbv;cases h;exact⟨_,⟨t309,q290,q291⟩,rfl,.e rfl (.e2 (.e4 .z)),rfl,ht309,hq290,hq291,hO⟩
   cbv;cases h;exact⟨_,⟨t289,q290,q291⟩,rfl,.e rfl (.e2 (.e4 .z)),rfl,ht289,hq290,hq291,hO⟩
  cbv;cases h;exact⟨_,_,rfl,⟨t289,ht289,q290,hq290,q291,hq291,rfl,rfl,hO⟩,.e rfl (.e4 .z),rfl⟩
 ·exact .e rfl (.e2 (.e4 .z))
 ·exact⟨trivial,hq285,hq284,hO⟩
 clear hx;rintro e l H ⟨t311,ht311,q312,hq312,q313,hq313,rfl,rfl,hO⟩;cbv;replace hO:=hO.cast (L':=[.tl t311,cb b287 [vi s292.1.cV,.sl (Ar.lst V.bool s292.1.cT) t311,.sl (Ar.lst eAD6 ([])) .nil],ob q312 1 (V.int .i64) s292.2.1,ob q313 1 V.bool s292.2.2,cb b1 [vi 0,.sl [] .nil,.sl [] .nil]]) (by simp only[ob,cb,sr,←B4]<;>rfl);replace hO:=hO.tl0 (t:=.nil) rfl;obtain⟨s316,hx,h⟩:=bind_some h;refine H8 cf31 hE J9 (γ:=D2) (fun s314 g=>[(1,.v (.eref (B8 aB) 0)),(2,.v (.ref b1 0)),(5,.v (.own q313.id q313.lo q313.n)),(7,.v (.own q312.id q312.lo q312.n)),(8,.v (.ref b287 0)),fi 10 s314.1]) (fun s314 g H1=>G3 g∧B6 Eq H0 [.tl g,.tl t311,cb b287 [vi s314.2.cV,.sl (Ar.lst V.bool s292.1.cT) t311,.sl (Ar.lst eAD6 s314.2.cU) g],ob q312 1 (V.int .i64) s292.2.1,ob q313 1 V.bool s292.2.2,cb b1 [vi 0,.sl [] .nil,.sl [] .nil]] H1) (fun x e l H1=>∃u1:D2,G3 u1∧e= .exit 2∧l=[(2,.v (.ref b1 0)),(8,.v (.ref b287 0))]∧B6 Eq H0 [.tl u1,.tl t311,cb b287 [vi x.cV,.sl (Ar.lst V.bool s292.1.cT) t311,.sl (Ar.lst eAD6 x.cU) u1],ob q312 1 (V.int .i64) s292.2.1,ob q313 1 V.bool s292.2.2,cb b1 [vi 0,.sl [] .nil,.sl [] .nil]] H1) (by kernel_rfl) ?_ .nil hx ?_ ?_ ?_
 ·rintro s314 t315 H o ⟨ht315,hO⟩ h;clear hx;cbv;refine E9 hE ?_;cbv;refine B0 hE h (fun _ h=>?_) fun _ h=>?_
  ·cbv;refine D0 hE eAD9 h fun x317 h=>?_;cbv;refine N9 hE hO hq313 4 rfl h fun h=>?_;cbv;refine U4 hE (fun _=>rfl) hO hq313 4 rfl h fun x318 h=>?_;cbv;refine B0 hE h (fun _ h=>?_) fun _ h=>?_
   ·cbv;refine N9 hE hO hq313 4 rfl h fun h=>?_;cbv;refine U4 hE (fun _=>rfl) hO hq313 4 rfl h fun x319 h=>?_;cbv;refine B0 hE h (fun _ h=>?_) fun _ h=>?_
    ·cbv;refine A9 hE h (c76 N x317.On) (.refl _) fun r320 h=>?_;cbv;refine B0 hE h (fun _ h=>?_) fun _ h=>?_
     ·cbv;refine A8 hE hO 2 rfl ?_;cbv;refine N9 hE hO hq312 3 rfl h fun h=>?_;cbv;refine U4 hE (fun _=>rfl) hO hq312 3 rfl h fun x321 h=>?_;cbv;refine N9 hE hO hq312 3 rfl h fun h=>?_;cbv;refine U4 hE (fun _=>rfl) hO hq312 3 rfl h fun x322 h=>?_;cbv;refine K7 (f:=eAD6) hE O3 (by decide) hO 0 rfl ht315 (l:=s314.2.cU) (m:=[(⟨x321,x322,x317.On⟩:B5)]) (.refl _) (.lstc (.eq (eAD9 (⟨x321,x322,x317.On⟩:B5)) (.refl _)) (.lst0)) h fun l324 t323 H hO ht323 h=>?_;cbv;refine A7 hE hO 2 rfl rfl fun H hO=>?_;cbv;cases h;exact⟨_,t323,rfl,.e2 (.e4 .z),rfl,ht323,hO⟩
     cbv;cases h;exact⟨_,t315,rfl,.e2 (.e4 .z),rfl,ht315,hO⟩
    cbv;cases h;exact⟨_,t315,rfl,.e2 (.e4 .z),rfl,ht315,hO⟩
   cbv;cases h;exact⟨_,t315,rfl,.e2 (.e4 .z),rfl,ht315,hO⟩
  cbv;cases h;exact⟨_,_,rfl,⟨t315,ht315,rfl,rfl,hO⟩,.e2 .z,rfl⟩
 ·exact .e2 (.e4 .z)
 ·exact⟨trivial,hO⟩
 clear hx;rintro e l H ⟨t325,ht325,rfl,rfl,hO⟩;cbv;refine A8 hE hO 2 rfl ?_;cbv;refine A7 hE hO 5 rfl rfl fun H hO=>?_;cbv;refine A8 hE hO 5 rfl ?_;cbv;cases h;exact hK hO (.tup (.cons (.agg (.cons (.refl _) (.cons (.ro _ _) (.cons (.ro _ _) (.refl _))))) (.refl _)))
def c7 (N aC aD r) (h:Z6 N aC aD=some r):C7 prog 7 [(F2 aC),(F2 aD)] (.bool r):=by
 unfold Z6 at h
 refine P6 cf0 func7 call7 ntmps7 ?_;intro E H0 K hE hK hO;cbv;refine A9 hE h (c9 N aC) (.refl _) fun r1 h=>?_;cbv;refine B0 hE h (fun _ h=>?_) fun _ h=>?_
 ·cbv;refine A9 hE h (c10 N) (.refl _) fun r2 h=>?_;cbv;cases h;exact hK hO (.refl _)
 cbv;refine A9 hE h (c9 N aD) (.refl _) fun r3 h=>?_;cbv;refine B0 hE h (fun _ h=>?_) fun _ h=>?_
 ·cbv;refine A9 hE h (c10 N) (.refl _) fun r4 h=>?_;cbv;cases h;exact hK hO (.refl _)
 cbv;refine A9 hE h (c25 N aC aD) (.refl _) fun r5 h=>?_;cbv;refine A9 hE h (c26 N aC aD) (.refl _) fun r6 h=>?_;cbv;refine A9 hE h (c27 N aC aD) (.refl _) fun r7 h=>?_;cbv;refine A9 hE h (c28 N aC aD) (.refl _) fun r8 h=>?_;cbv;refine A9 hE h (c29 N aC) (.refl _) fun r9 h=>?_;cbv;refine A9 hE h (c30 N aC) (.refl _) fun r10 h=>?_;cbv;refine A9 hE h (c23 N aC) (.refl _) fun r11 h=>?_;cbv;refine A9 hE h (c31 N aC) (.refl _) fun r12 h=>?_;cbv;refine A9 hE h (c18 N r5.1 r6.1) (.refl _) fun r13 h=>?_;cbv;refine B0 hE h (fun _ h=>?_) fun _ h=>?_
 ·cbv;refine A9 hE h (c18 N r7.1 r8.1) (.refl _) fun r14 h=>?_;cbv;refine B0 hE h (fun _ h=>?_) fun _ h=>?_
  ·cbv;refine A9 hE h (c18 N r9.1 r10.1) (.refl _) fun r15 h=>?_;cbv;refine B0 hE h (fun _ h=>?_) fun _ h=>?_
   ·cbv;refine A9 hE h (c18 N r11.1 r12.1) (.refl _) fun r16 h=>?_;cbv;refine B0 hE h (fun _ h=>?_) fun _ h=>?_
    ·cbv;refine A9 hE h (c10 N) (.refl _) fun r17 h=>?_;cbv;cases h;exact hK hO (.refl _)
    cbv;cases h;exact hK hO (.refl _)
   cbv;cases h;exact hK hO (.refl _)
  cbv;cases h;exact hK hO (.refl _)
 cbv;cases h;exact hK hO (.refl _)
end Go.Ab
namespace Go.Ab
open Go.RowKit Go.ChangeShapes Go.WideShapes
variable [L6]
def g0 (W:World):Gh:=⟨fun _=>none,fun _=>⟨0,0,0⟩,fun _=>none,fun b o=>∃v,W.cell? ⟨b,o,none⟩=some v,0,W.heap.size⟩
def rl0 {W:World}(hg:∀n,VR (g0 W) W (.pointer (some ⟨n,0,none⟩)) (L6.gl n)):Rl (g0 W) (fun _=>none) W:=
 ⟨fun id b h=>(by cases h),fun id id' b h=>(by simp[Gh.at]at h),fun b o h=>h,fun id _=>⟨rfl,rfl,rfl⟩,D3 _,hg⟩
def Gn (g:Gh)(w:World)(cs:List Value)(xs:List V):Prop:=
 cs.length=xs.length∧∀i,i<xs.length→(cs.getD i undef).oneCell'=true∧VR g w (cs.getD i undef) (xs.getD i .bad)
def Gn.nil (g:Gh)(w:World):Gn g w [] []:=⟨rfl,fun i hi=>by simp at hi⟩
theorem Gn.one {g:Gh}{w:World}{v:Value}{x:V}(h1:v.oneCell'=true)(h:VR g w v x):Gn g w [v] [x]:=by
 simp_all[Gn]
def Gn.append {g:Gh}{w:World}{cs ds:List Value}{xs ys:List V}(h:Gn g w cs xs)(k:Gn g w ds ys):Gn g w (cs++ds) (xs++ys):=by
 grind[Gn]
def Gn.join {g:Gh}{w:World}{cs:List Value}{xs ys:List V}{a n m:Nat}(h:Gn g w ((cs.drop a).take n) xs)(k:Gn g w ((cs.drop (a+n)).take m) ys):Gn g w ((cs.drop a).take (n+m)) (xs++ys):=by
 have:=h.append k
 rwa[show(cs.drop (a+n))=(cs.drop a).drop n by rw[FE],←List.take_add]at this
def Gn.agg {g:Gh} {w:World} {cs:Array Value} {xs:List V} (h:Gn g w cs.toList xs):VR g w (.agg cs) (.agg xs):=by
 refine .agg (by simpa using h.1) (fun i hi=>?_) fun i hi=>?_
 ·have:=(h.2 i hi).1
  simp_all
 have:=(h.2 i hi).2
 simp_all
section
variable {H α:Type}{enc:TypeId×Value→H}{P:Program}{W:World}{base:Nat}{spare:Nat→Bool}{held:Bool}{t e:TypeId}{n:Nat}
def Opens (enc:TypeId×Value→H)(P:Program)(W:World)(base:Nat)(spare:Nat→Bool)(held:Bool)(t:TypeId)(f:α→V)(R:α→DataW H→Prop)(n:Nat):Prop:=
 ∀cs x,DataW.trod enc P W base spare held n t cs=some x→∃a,Gn (g0 W) W cs (f a).cells∧R a x.1
def Nj {k:IntKind}(ht:P.underlying t=some (.int k)):Opens enc P W base spare held t (V.int k) (fun a d=>d= .lit (.int k a)) n:=by
 intro cs x h;obtain⟨a,rfl,rfl,_⟩:=DataW.trod_int ht h;exact⟨a,.one rfl (.int _ _),rfl⟩
def GU (ht:P.underlying t=some .bool):Opens enc P W base spare held t V.bool (fun a d=>d= .lit (.bool a)) n:=by
 intro cs x h;obtain⟨a,rfl,rfl⟩:=DataW.trod_bool ht h;exact⟨a,.one rfl (.bool _),rfl⟩
def RL (R:α→DataW H→Prop)(l:List α)(ds:List (DataW H)):Prop:=l.length=ds.length∧∀(i:Nat) a d,l[i]? =some a→ds[i]? =some d→R a d
def RS (R:α→DataW H→Prop)(l:List α)(d:DataW H):Prop:=l.length≤maxLen∧((d= .nil∧l=[])∨∃es sp,d= .slice es sp∧RL R l es)
def HE {f:α→V} {R:α→DataW H→Prop} (ht:P.underlying t=some (.slice e)) (hc:0<P.cellsOf e) (he:Opens enc P W base spare held e f R n):
 Opens enc P W base spare held t (fun l:List α=>.sl (l.map f) .ro) (RS R) (n+1):=by
 intro cs x h
 rcases DataW.trod_slice ht h with⟨rfl,rfl⟩|⟨a,len,cap,elems,rest,n',hn,rfl,rfl,hb,hl,hm,hlen,hel,hsp,hns⟩
 ·exact⟨[],.one rfl (.sl0 rfl),Cv _,.inl ⟨rfl,rfl⟩⟩
 have hn':n'=n:=by omega
 subst hn'
 rcases Nat.eq_zero_or_pos len with h0|h0
 ·subst h0;have:elems=[]:=List.length_eq_zero_iff.1 hlen;subst this;exact⟨[],.one rfl (.sle (.inl rfl)),Cv _,.inr ⟨_,_,rfl,rfl,fun i a d hi=>by simp at hi⟩⟩
 have one:∀i,i<len→∃cs' y b,W.cells? base (a.add (i*P.cellsOf e)) (P.cellsOf e)=some cs'∧elems[i]? =some y∧Gn (g0 W) W cs' (f b).cells∧R b y.1:=by
  grind[Option.bind_eq_some_iff,Opens]
 obtain⟨_,_,b0,_⟩:=one 0 h0
 haveI:Inhabited α:=⟨b0⟩
 obtain⟨A,hA⟩:=Deep.choose_lt (α:=α) (p:=fun i b=>∃cs' y,W.cells? base (a.add (i*P.cellsOf e)) (P.cellsOf e)=some cs'∧elems[i]? =some y∧Gn (g0 W) W cs' (f b).cells∧R b y.1)
  (fun i hi=>let⟨cs',y,b,h1,h2,h3,h4⟩:=one i hi;⟨b,cs',y,h1,h2,h3,h4⟩)
 have hspot:a.spot=none:=by
  obtain⟨cs',y,h1,_,_,_⟩:=hA 0 h0;obtain⟨_,hcl,hcell⟩:=JC h1;have h2:=hcell 0 hc
  have e0:(a.add (0*P.cellsOf e)).add 0=a:=by simp[Addr.add]
  rw[e0]at h2
  have h3:cs'[0]? =some (cs'[0]'(by omega)):=by grind
  rw[h3]at h2
  unfold World.cell? at h2
  split at h2
  ·simp_all
  cases h2
 obtain⟨b,o,s⟩:=a
 simp only at hspot
 subst hspot
 let l:=(List.range len).map A
 have hll:l.length=len:=by simp[l]
 have hg:∀i,i<len→(l.map f).getD i .bad=f (A i):=fun i hi=>by grind
 have cell:∀i j,i<len→j<P.cellsOf e→∃v,W.cell? ⟨b,o+i*P.cellsOf e+j,none⟩=some v∧v.oneCell'=true∧VR (g0 W) W v ((f (A i)).cells.getD j .bad):=by
  intro i j hi hj;obtain⟨cs',y,h1,_,hr,_⟩:=hA i hi;obtain⟨_,hcl,hcell⟩:=JC h1;have h2:=hcell j hj
  rw[Y9,Y9]at h2
  have h3:cs'[j]? =some (cs'.getD j undef):=by simp_all
  rw[h3]at h2
  have:=hr.2 j (by rw[←hr.1,hcl];exact hj)
  simp_all
 refine⟨l,.one rfl ?_,by omega,.inr ⟨_,_,rfl,by simp_all,fun i a' d hi hd=>?_⟩⟩
 ·have hz:∀i,i<len→((l.map f).getD i .bad).cells.length=P.cellsOf e:=fun i hi=>by
   obtain⟨cs',y,h1,_,hr,_⟩:=hA i hi;obtain⟨_,hcl,_⟩:=JC h1;rw[hg i hi,←hr.1,hcl]
  refine .sl (sz:=P.cellsOf e) (fun i j=>(W.cell? ⟨b,o+i*P.cellsOf e+j,none⟩).getD undef) (by simp[hll]) hl hz (fun i j hi hj=>?_) (fun i j hi hj=>?_) (fun i j hi hj=>?_) (fun i j hi hj=>?_) trivial
  ·grind[g0]
  ·grind
  ·grind
  grind
 grind
def Wu {fs:Array Field} {xs:List (DataW H×List MemPlace)} {cs:List Value} {n:Nat} (hl:xs.length=fs.size)
 (hf:∀(i:Nat) (f:Field),fs[i]? =some f→DataW.trod enc P W base spare held n f.type ((cs.drop f.offset).take (P.cellsOf f.type))=xs[i]?) (i:Nat) {f:Field} (h:fs[i]? =some f):
 ∃y,xs[i]? =some y∧DataW.trod enc P W base spare held n f.type ((cs.drop f.offset).take (P.cellsOf f.type))=some y:=by
 have hi:i<fs.size:=by
  grind
 have h1:xs[i]? =some (xs[i]'(by omega)):=by grind
 grind
end
end Go.Ab
namespace Go.Ab
noncomputable instance arInst :Ar where
 cmp:=Fg
 cmp_eq:=fun _ _ _=>rfl
 ar:=arI
 ar_eq:=fun _ _ _ _=>rfl
 sh:=shI
 sh_eq:=fun _ _ _ _=>rfl
 neg:=fun k n=>k.wrap (0-n)
 neg_eq:=fun _ _=>rfl
 wr:=fun k n=>k.wrap n
 wr_eq:=fun _ _=>rfl
 scmp:=Ay0
 scmp_eq:=fun _ _ _=>rfl
 cat:=fun a b=>a++b
 cat_eq:=fun _ _=>rfl
 slen:=fun s=>s.size
 slen_eq:=fun _=>rfl
 sat:=fun s i=>match s[i.toNat]? with|some b=>(b.toNat:Int)|none=>0
 sat_eq:=fun _ _=>rfl
 beq:=fun a b=>a==b
 beq_eq:=fun _ _=>rfl
 nt:=fun a=> !a
 nt_eq:=fun _=>rfl
 an:=fun a b=>a&&b
 an_eq:=fun _ _=>rfl
 or:=fun a b=>a||b
 or_eq:=fun _ _=>rfl
 pk:=fun c a b=>if c then a else b
 pk_eq:=fun _ _ _=>rfl
 mx:=fun a b=>if a<b then b else a
 mx_eq:=fun _ _=>rfl
 mn:=fun a b=>if b<a then b else a
 mn_eq:=fun _ _=>rfl
 ofs:=fun a b=>a+b
 ofs_eq:=fun _ _=>rfl
 ofN:=fun n=>n
 ofN_eq:=fun _=>rfl
 len:=fun l=>l.length
 len_eq:=fun _=>rfl
 lst:=fun f l=>l.map f
 lst_eq:=fun _ _=>rfl
def C8 (a b:Int):Ar.cmp .lss a b=decide (a<b):=rfl
def GB (a b:Int):Ar.cmp .leq a b=decide (a≤b):=rfl
def U5 (a b:Int):Ar.cmp .gtr a b=decide (b<a):=rfl
def SZ (a b:Int):Ar.cmp .geq a b=decide (b≤a):=rfl
def Z8 (a b:Int):Ar.cmp .eql a b=decide (a=b):=rfl
def N8 (a b:Int):Ar.cmp .neq a b= !decide (a=b):=rfl
def Ao (a:Bool):Ar.nt a= !a:=rfl
def CQ (a b:Bool):Ar.an a b=(a&&b):=rfl
def GT (a b:Bool):Ar.or a b=(a||b):=rfl
def C9 {α:Type}(l:List α):Ar.len l=(l.length:Int):=rfl
def Ae1 (a b:Int):Ar.mx a b=if a<b then b else a:=rfl
def GO {n:Int} (h0: -9223372036854775808≤n) (h1:n<9223372036854775808):IntKind.wrap .i64 n=n:=by
 have e:IntKind.wrap .i64 n=(if n % 18446744073709551616≥9223372036854775808 then n % 18446744073709551616-18446744073709551616 else n % 18446744073709551616):=by
  unfold IntKind.wrap;simp[IntKind.bits,IntKind.signed]
 rw[e]
 split<;>omega
def M8 {a b:Int}(h0: -9223372036854775808≤a+b)(h1:a+b<9223372036854775808):Ar.ar .add .i64 a b=a+b:=GO h0 h1
def E7 {α:Type}{l:List α}{i:Nat}:C6 l (i:Int)=l[i]? :=by simp[C6]
def SM {β S σ R α:Type} (l:List α) (step:S→Option (List β×(S⊕R))) (mk:σ→Int→S) (body:σ→α→Option (List β×(σ⊕R))) (fin:σ→R)
 (hstep:∀s (i:Nat) x,l[i]? =some x→step (mk s i)=(body s x).bind fun o=>match o with|(w,.inl s')=>some (w,.inl (mk s' (i+1)))|(w,.inr r)=>some (w,.inr r))
 (hend:∀s,step (mk s l.length)=some ([],.inr (fin s))):
 ∀(k:Nat) (i:Nat) (s:σ) (N:Nat),i+k=l.length→k<N→CG step N (mk s i)=(Dc body (l.drop i) s).bind fun o=>match o with|(w,.inl s)=>some (w,fin s)|(w,.inr r)=>some (w,r):=by
 intro k
 induction k with
 |zero=>
  intro i s N hi hN;obtain⟨N,rfl⟩:∃M,N=M+1:=⟨N-1,by omega⟩;have e:l.drop i=[]:=NK (by omega)
  have ei:((i:Nat):Int)=l.length:=by omega
  rw[e,ei]
  grind[CG,Dc]
 | succ k ih=>
  intro i s N hi hN;obtain⟨N,rfl⟩:∃M,N=M+1:=⟨N-1,by omega⟩
  have hlt:i<l.length:=by omega
  have hx:l[i]? =some l[i]:=by simp[hlt]
  have e:l.drop i=l[i]::l.drop (i+1):=Aj hlt;rw[e];simp only[CG,hstep s i _ hx,Dc]
  cases hb:body s l[i]with
  |none=>rfl
  | some o=>
   obtain⟨w,o⟩:=o
   cases o with
   |inl s'=>
    simp only[A5];have:=ih (i+1) s' N (by omega) (by omega);rw[show((i:Int)+1)=((i+1:Nat):Int) by omega,this]
    grind
   |inr r=>rfl
def Wg {β S σ R α:Type} (l:List α) {step:S→Option (List β×(S⊕R))} (mk:σ→Int→S) (body:σ→α→Option (List β×(σ⊕R))) (fin:σ→R) (s:σ) {N:Nat} (hN:l.length<N)
 (hstep:∀s (i:Nat) x,l[i]? =some x→(i:Int)<l.length→step (mk s i)=(body s x).bind fun o=>match o with|(w,.inl s')=>some (w,.inl (mk s' (i+1)))|(w,.inr r)=>some (w,.inr r))
 (hend:∀s,step (mk s l.length)=some ([],.inr (fin s))):CG step N (mk s 0)=(Dc body l s).bind fun o=>match o with|(w,.inl s)=>some (w,fin s)|(w,.inr r)=>some (w,r):=by
 have:=SM l step mk body fin (fun s i x h=>hstep s i x h (by
  grind)) hend l.length 0 s N (by omega) hN
 simp_all
end Go.Ab
namespace Go.Ab
open Go.RowKit Go.ChangeShapes Go.WideShapes
variable [L6]
section
variable {H α:Type}{enc:TypeId×Value→H}{P:Program}{W:World}{base:Nat}{spare:Nat→Bool}{held:Bool}{t e:TypeId}{n:Nat}
def Rm {cs:List Value} {sz:Nat} {f:α→V}:∀(l:List α) (o:Nat),(∀(i:Nat) a,l[i]? =some a→Gn (g0 W) W ((cs.drop (o+i*sz)).take sz) (f a).cells)→Gn (g0 W) W ((cs.drop o).take (l.length*sz)) (l.flatMap fun a=>(f a).cells)
 |[],o,_=>by simp;exact .nil _ _
 | a::l,o,h=>by
  have h0:=h 0 a rfl
  rw[Nat.zero_mul,Bq]at h0
  have h1:=Rm l (o+sz) fun i b hi=>by
   have:=h (i+1) b (by grind)
   rwa[show o+(i+1)*sz=o+sz+i*sz by rw[G5];omega]at this
  have:=h0.join h1;rw[N3,Dx,show(l.length+1)*sz=sz+l.length*sz by rw[G5];omega];exact this
def Ur {f:α→V} {R:α→DataW H→Prop} {m:Nat} (ht:P.underlying t=some (.array m e)) (hct:P.cellsOf t=m*P.cellsOf e) (hm:0<m) (he:∀n,Opens enc P W base spare held e f R n) {cs:List Value} {x:DataW H×List MemPlace}
 (h:DataW.trod enc P W base spare held n t cs=some x):∃l:List α,Gn (g0 W) W cs (l.flatMap fun a=>(f a).cells)∧∃ds,x.1= .agg ds∧RL R l ds:=by
 cases n with
 |zero=>simp[DataW.trod]at h
 | succ n=>
  simp only[DataW.trod,ht]at h
  split at h
  ·rename_i hl;obtain⟨xs,hmm,rfl⟩:=Option.map_eq_some_iff.1 h
   have hxl:xs.length=m:=by simpa using mapM_some_length hmm
   have one:∀i,i<m→∃b,Gn (g0 W) W ((cs.drop (i*P.cellsOf e)).take (P.cellsOf e)) (f b).cells∧∀y,xs[i]? =some y→R b y.1:=by
    intro i hi;have h1:=mapM_some_get hmm i i (by simp[hi])
    have h2:xs[i]? =some (xs[i]'(by omega)):=by grind
    rw[h2]at h1
    obtain⟨b,hr,hR⟩:=he n _ _ h1
    grind
   obtain⟨b0,_⟩:=one 0 hm
   haveI:Inhabited α:=⟨b0⟩
   obtain⟨A,hA⟩:=Deep.choose_lt one
   have hat:∀(i:Nat) a,((List.range m).map A)[i]? =some a→i<m∧a=A i:=fun i a hi=>by
    grind
   refine⟨(List.range m).map A,?_,_,rfl,by simp[hxl],fun i a d hi hd=>?_⟩
   ·have:=Rm (cs:=cs) (sz:=P.cellsOf e) (f:=f) (W:=W) ((List.range m).map A) 0 (fun i a hi=>by
     grind)
    grind
   grind
  cases h
def UK {g:Nat} {cs:Array Value} {xs:List V} {name:String} (hg:P.globalNamed name=some g) (hv:W.var? P name=some cs) (hr:Gn (g0 W) W cs.toList xs):VR (g0 W) W (.pointer (some ⟨g,0,none⟩)) (.eref xs 0):=by
 have cell:∀j,j<xs.length→W.cell? ⟨g,0+j,none⟩=some (cs.toList.getD j undef):=fun j hj=>by
  have h1:=World.var?_cell hg hv j
  have h2:j<cs.size:=by have:=hr.1;simp_all
  rw[V1,h1]
  simp_all
 exact .eref (g:=g0 W) (o:=0) (off:=0) (fun j=>cs.toList.getD j undef) (fun j hj=>(⟨_,cell j hj⟩:∃v,W.cell? ⟨g,0+j,none⟩=some v)) (fun j hj=>cell j hj) (fun j hj=>(hr.2 j hj).1) fun j hj=>(hr.2 j hj).2
end
section
variable {H:Type}{enc:TypeId×Value→H}{P:Program}{W:World}{base:Nat}{spare:Nat→Bool}{held:Bool}{t e:TypeId}{n:Nat}
end
end Go.Ab
namespace Go.Ab
def fb {α:Type}(f:Nat→α→Int):Nat→List α→Int
 |_,[]=>0
 |i,x::r=>if f i x=0 then fb f (i+1) r else f i x
def EG {α:Type} {f:Nat→α→Int}:∀{l:List α} {i:Nat},fb f i l=0↔∀(k:Nat) x,l[k]? =some x→f (i+k) x=0
 |[],i=>by simp[fb]
 | y::r,i=>by
  unfold fb
  split
  ·rename_i h;rw[EG];refine⟨fun H k x hk=>?_,fun H k x hk=>?_⟩
   ·cases k with
    |zero=>simp at hk;subst hk;exact h
    |succ k=>rw[show i+(k+1)=i+1+k by omega];exact H k x (by simpa using hk)
   have:=H (k+1) x (by simpa using hk)
   rwa[show i+(k+1)=i+1+k by omega]at this
  rename_i h;exact⟨fun e=>absurd e h,fun H=>absurd (H 0 y (by simp)) h⟩
def I6 {i:Nat}{n:Nat}(hi:i<n)(hn:n<1000000000000):Ar.ar .add .i64 (i:Int) 1=((i+1:Nat):Int):=by
 rw[M8 (by omega) (by omega)];omega
def Bi {α R:Type} {l:List α} {step:Int→Option (Int⊕R)} {f:Nat→α→Int} {e:R} {b:Int→R}
 (hs:∀(i:Nat) x,l[i]? =some x→i<l.length→step (i:Int)=if f i x=0 then some (.inl ((i+1:Nat):Int))else some (.inr (b (f i x))))
 (he:step (l.length:Int)=some (.inr e)):∀{N:Nat},l.length<N→loopN step N 0=some (if fb f 0 l=0 then e else b (fb f 0 l)):=by
 have key:∀(k i N:Nat),i+k=l.length→k<N→loopN step N (i:Int)=some (if fb f i (l.drop i)=0 then e else b (fb f i (l.drop i))):=by
  intro k
  induction k with
  |zero=>
   intro i N hi hN;obtain⟨N,rfl⟩:∃M,N=M+1:=⟨N-1,by omega⟩;rw[show i=l.length by omega,Hq];simp[loopN,he,fb]
  |succ k ih=>
   intro i N hi hN;obtain⟨N,rfl⟩:∃M,N=M+1:=⟨N-1,by omega⟩
   have hlt:i<l.length:=by omega
   rw[Aj hlt];simp only[loopN,hs i _ (D5 hlt) hlt,fb]
   by_cases h:f i l[i]=0
   ·simp only[h,D1];exact ih (i+1) N (by omega) (by omega)
   simp only[h,D7]
 intro N hN;have:=key l.length 0 N (by omega) hN
 simpa using this
def fm (x:A2):Int:=
 if x.Low< -1099511627776∨1099511627776<x.Low∨x.cZ< -1099511627776∨1099511627776<x.cZ then 2 else if x.cZ<x.Low then 3 else 0
def XE {x:A2}(h:fm x=0): -1099511627776≤x.Low∧x.Low≤x.cZ∧x.cZ≤1099511627776:=by
 unfold fm at h
 split at h
 ·cases h
 split at h
 ·cases h
 omega
def YV (N:Nat)(x:A2):BP N x=some (fm x):=by
 unfold BP fm;simp only[C8,U5,GT,Y2,B2,or_assoc]
 split
 ·rfl
 split<;>rfl
def Aw6 (N:Nat)(x:A2):Ik N x=some (fm x):=by
 unfold Ik Kd fm;simp only[SZ,GB,U5,CQ,Ao,A5,V7,Bool.and_eq_false_iff,Cs,B2]
 repeat' split
 all_goals first|rfl|(exfalso;omega)
noncomputable def fiq (l:List A2)(i:Nat)(x:A2):Int:=
 if fm x=0 then(if 0<i then match l[i-1]? with|some y=>if x.Low<Ar.ar .add .i64 y.cZ 2 then 14 else 0|none=>0 else 0)else fm x
noncomputable def ck (l:List A2):Int:=if 256<l.length then 5 else fb (fiq l) 0 l
def Ah2 {α:Type} {l:List α} {i:Nat} (hi:0<i) (hl:i<l.length) (hn:l.length<1000000000000):C6 l (Ar.ar .sub .i64 (i:Int) 1)=l[i-1]? :=by
 have e:Ar.ar .sub .i64 (i:Int) 1=((i-1:Nat):Int):=by
  show IntKind.wrap .i64 ((i:Int)-1)=_
  rw[GO (by omega) (by omega)];omega
 rw[e,E7]
def RB {N:Nat} {l:List A2} (hN:256<N):U0 N l=some (ck l):=by
 unfold U0 ck;simp only[U5,C9,B2]
 by_cases hl:256<l.length
 ·rw[A1 (by omega),A1 hl]
 rw[A3 (by omega),A3 hl];rw[Bi (l:=l) (f:=fiq l) (e:=.inl ()) (b:=.inr) (N:=N) ?_ ?_ (by omega)]
 ·simp only[A5]
  by_cases h:fb (fiq l) 0 l=0
  ·simp[h]
  simp[h]
 ·intro i x hx hi;simp only[C8,N8,YV,E7,hx,A5,B2];rw[A1 (by omega),I6 hi (by omega)];unfold fiq
  by_cases h0:fm x=0
  ·simp only[h0,U9,M5,E2,D7,D1]
   by_cases hp:0<i
   ·rw[A1 (by omega),Ah2 hp hi (by omega)]
    cases hy:l[i-1]? with
    |none=>rw[NR]at hy;omega
    |some y=>
     simp only[A5,hp,D1]
     by_cases hh:x.Low<Ar.ar .add .i64 y.cZ 2
     ·rw[A1 hh,A1 hh];rfl
     rw[A3 hh,A3 hh];rfl
   rw[A3 (by omega)];simp[hp]
  simp[h0]
 simp[C8]
def Yv {N:Nat} {l:List A2} (hN:256<N):FU N l=some (ck l):=by
 unfold FU ck;simp only[U5,C9,B2]
 by_cases hl:256<l.length
 ·rw[A1 (by omega),A1 hl]
 rw[A3 (by omega),A3 hl];rw[Bi (l:=l) (f:=fiq l) (e:=.inl ()) (b:=.inr) (N:=N) ?_ ?_ (by omega)]
 ·simp only[A5]
  by_cases h:fb (fiq l) 0 l=0
  ·simp[h]
  simp[h]
 ·intro i x hx hi;simp only[C8,N8,Aw6,E7,hx,A5,B2];rw[A1 (by omega),I6 hi (by omega)];unfold fiq
  by_cases h0:fm x=0
  ·simp only[h0,U9,M5,E2,D7,D1]
   by_cases hp:0<i
   ·rw[A1 (by omega),Ah2 hp hi (by omega)]
    cases hy:l[i-1]? with
    |none=>rw[NR]at hy;omega
    |some y=>
     simp only[A5,hp,D1]
     by_cases hh:x.Low<Ar.ar .add .i64 y.cZ 2
     ·rw[A1 hh,A1 hh];rfl
     rw[A3 hh,A3 hh];rfl
   rw[A3 (by omega)];simp[hp]
  simp[h0]
 simp[C8]
def Zp (l:List A2):Prop:=l.length≤256∧(∀x∈l, -1099511627776≤x.Low∧x.Low≤x.cZ∧x.cZ≤1099511627776)∧∀(i:Nat) x y,l[i]? =some x→l[i+1]? =some y→x.cZ+2≤y.Low
def Tb {l:List A2} (h:ck l=0):Zp l:=by
 unfold ck at h
 split at h
 ·cases h
 rename_i hl;have h:=EG.1 h
 have hm:∀(k:Nat) x,l[k]? =some x→fm x=0:=fun k x hx=>by
  have:=h k x hx
  unfold fiq at this
  by_cases h0:fm x=0
  ·exact h0
  rw[A3 h0]at this;exact this
 refine⟨by omega,fun x hx=>?_,fun i x y hx hy=>?_⟩
 ·obtain⟨k,hk⟩:=L8 hx;exact XE (hm k x hk)
 have h1:=XE (hm _ _ hx);have:=h (i+1) y hy
 simp only[V1]at this
 unfold fiq at this
 rw[A1 (hm _ _ hy),A1 (by omega),show i+1-1=i by omega,hx]at this
 simp only at this
 rw[M8 (by omega) (by omega)]at this
 split at this
 ·cases this
 omega
def ZD {n:Int} (h0:0≤n) (h1:n<18446744073709551616):IntKind.wrap .u64 n=n:=by
 have e:IntKind.wrap .u64 n=n % 18446744073709551616:=by
  unfold IntKind.wrap;simp[IntKind.bits,IntKind.signed]
 rw[e];omega
def Aw9 {i j:Nat} (h:i+j<1000000000000):Ar.wr .i64 (Ar.sh .shr .u64 (Ar.wr .u64 (Ar.ar .add .i64 (i:Int) (j:Int))) 1)=(((i+j) / 2:Nat):Int):=by
 rw[M8 (by omega) (by omega)]
 show IntKind.wrap .i64 (shI .shr .u64 (IntKind.wrap .u64 ((i:Int)+j)) 1)=_
 rw[ZD (by omega) (by omega)]
 have e:shI .shr .u64 ((i:Int)+j) 1=((i:Int)+j) / 2:=by
  show((i:Int)+j).fdiv (2 ^ (min (1:Int).toNat 64))=_
  rw[show(2:Int) ^ (min (1:Int).toNat 64)=2 from rfl,Int.fdiv_eq_ediv_of_nonneg _ (by decide)]
 rw[e,GO (by omega) (by omega)];omega
def ZE (x:A2)(n:Int):Int:=if x.cZ<n then -1 else if n<x.Low then 1 else 0
def SR (N:Nat)(x:A2)(n:Int):Aq N x n=some (ZE x n):=by
 unfold Aq ZE;simp only[C8,U5,B2]
 repeat' split
 all_goals rfl
def Dg (l:List A2)(n:Int):Prop:=∃x∈l,x.Low≤n∧n≤x.cZ
def Pi {l:List A2} (hs:Zp l):∀(d i:Nat) x y,l[i]? =some x→l[i+d+1]? =some y→x.cZ+2≤y.Low
 |0,i,x,y,hx,hy=>hs.2.2 i x y hx hy
 | d+1,i,x,y,hx,hy=>by
  have hlt:i+d+1<l.length:=by
   rcases G6 (i+d+1) l.length with h|h
   ·exact h
   rw[ES (by omega)]at hy;cases hy
  have h1:=Pi hs d i x _ hx (D5 hlt);have h2:=hs.2.2 (i+d+1) _ y (D5 hlt) hy;have h3:=hs.2.1 _ (Bt hlt);omega
def Ar2 {N0:Nat} {l:List A2} {n:Int} (hs:Zp l):∀(k i j N:Nat),j-i≤k→i≤j→j≤l.length→k<N→
 (∀m x,m<i→l[m]? =some x→x.cZ<n)→(∀m x,j≤m→l[m]? =some x→n≤x.cZ)→
 ∃ r :Nat,r≤l.length∧(∀m x,m<r→l[m]? =some x→x.cZ<n)∧(∀m x,r≤m→l[m]? =some x→n≤x.cZ)∧
  loopN (fun(s1:Int×Int)=>(
   if Ar.cmp .lss s1.1 s1.2=true then
    (C6 l (Ar.wr .i64 (Ar.sh .shr .u64 (Ar.wr .u64 (Ar.ar .add .i64 s1.1 s1.2)) 1))).bind fun x3=>
    (Aq N0 x3 n).bind fun r4=>
    if Ar.cmp .lss r4 0=true then
     some (.inl (Ar.ar .add .i64 (Ar.wr .i64 (Ar.sh .shr .u64 (Ar.wr .u64 (Ar.ar .add .i64 s1.1 s1.2)) 1)) 1,s1.2))
    else
     some (.inl (s1.1,Ar.wr .i64 (Ar.sh .shr .u64 (Ar.wr .u64 (Ar.ar .add .i64 s1.1 s1.2)) 1)))
   else
    some (.inr s1.1):Option ((Int×Int)⊕(Int)))) N ((i:Int),(j:Int))=some (r:Int):=by
 intro k;have hl:=hs.1
 induction k with
 |zero=>
  intro i j N hk hij hj hN h1 h2;obtain⟨N,rfl⟩:∃M,N=M+1:=⟨N-1,by omega⟩;refine⟨i,by omega,h1,fun m x hm hx=>h2 m x (by omega) hx,?_⟩;unfold loopN;simp only[C8,B2];rw[A3 (by omega)]
 | succ k ih=>
  intro i j N hk hij hj hN h1 h2;obtain⟨N,rfl⟩:∃M,N=M+1:=⟨N-1,by omega⟩
  by_cases hlt:i<j
  ·have hm:(i+j) / 2<l.length:=by omega
   have hx:=D5 hm;have step:=Aw9 (i:=i) (j:=j) (by omega)
   by_cases hc:l[(i+j) / 2].cZ<n
   ·obtain⟨r,r1,r2,r3,r4⟩:=ih ((i+j) / 2+1) j N (by omega) (by omega) hj (by omega) (fun m x hm' hx'=>by
     by_cases e:m=(i+j) / 2
     ·subst e;rw[hx]at hx';cases hx';exact hc
     have:=Pi hs ((i+j) / 2-m-1) m x l[(i+j) / 2] hx' (by rw[←hx];congr 1;omega);have:=hs.2.1 _ (Bt hm)
     omega) h2
    refine⟨r,r1,r2,r3,?_⟩;rw[←r4]
    conv=>lhs;unfold loopN
    simp only[C8,B2,step,E7,hx,A5,SR];rw[A1 (by omega),A1 (by unfold ZE;rw[A1 hc];decide)];simp only[I6 hm (by omega)]
   obtain⟨r,r1,r2,r3,r4⟩:=ih i ((i+j) / 2) N (by omega) (by omega) (by omega) (by omega) h1 (fun m x hm' hx'=>by
    by_cases e:m=(i+j) / 2
    ·subst e;rw[hx]at hx';cases hx';omega
    have:=Pi hs (m-(i+j) / 2-1) ((i+j) / 2) l[(i+j) / 2] x hx (by rw[←hx'];congr 1;omega);have:=hs.2.1 x (G1 hx')
    omega)
   refine⟨r,r1,r2,r3,?_⟩;rw[←r4]
   conv=>lhs;unfold loopN
   simp only[C8,B2,step,E7,hx,A5,SR];rw[A1 (by omega),A3 (by unfold ZE;rw[A3 hc];split<;>decide)]
  refine⟨i,by omega,h1,fun m x hm hx=>h2 m x (by omega) hx,?_⟩;unfold loopN;simp only[C8,B2];rw[A3 (by omega)]
def Ag1 {N:Nat} {l:List A2} {n:Int} (hs:Zp l) (hN:300<N):∃b,Z7 N l n=some b∧(b=true↔Dg l n):=by
 have hl:=hs.1;obtain⟨r,r1,r2,r3,r4⟩:=Ar2 (N0:=N) (n:=n) hs l.length 0 l.length N (by omega) (by omega) (by omega) (by omega) (fun m x h=>by omega) (fun m x h hx=>by rw[ES h]at hx;cases hx);unfold Z7 J8;simp only[C9];rw[show((0:Int),((l.length:Nat):Int))=(((0:Nat):Int),((l.length:Nat):Int))from rfl,r4];simp only[A5,C8,B2]
 by_cases hr:r<l.length
 ·have hx:=D5 hr;rw[A1 (by omega),E7,hx];simp only[A5,SR];refine⟨_,rfl,?_⟩;simp only[Z8,B2];have h3:=r3 r _ (by omega) hx;unfold ZE;rw[A3 (by omega)]
  constructor
  ·intro h
   split at h
   ·cases h
   exact⟨_,Bt hr,by omega,h3⟩
  rintro⟨x,hx',h1,h2⟩;obtain⟨m,hm⟩:=L8 hx'
  have hmr:¬m<r:=fun h=>by have:=r2 m x h hm;omega
  by_cases e:m=r
  ·subst e;rw[hx]at hm;cases hm;rw[A3 (by omega)]
  have:=Pi hs (m-r-1) r l[r] x hx (by rw[←hm];congr 1;omega);omega
 rw[A3 (by omega)];refine⟨_,rfl,?_⟩;simp only[E2,false_iff];rintro⟨x,hx',h1,h2⟩;obtain⟨m,hm⟩:=L8 hx';have hml:m<l.length:=(List.getElem?_eq_some_iff.1 hm).1;have:=r2 m x (by omega) hm;omega
end Go.Ab
