/- . -/
import Derived.Test.YtnfefddbggfopaaGreatDoorA14
set_option linter.all false
open Go.Ab.Ar (lst nt_eq)
namespace Go.Ab
open Go.RowKit Go.Proofs Go.Proofs.Tryz L7
variable [Ar][L7]
set_option maxRecDepth 100000
def c127 (N aD aE r)(h:BJ N aD aE=some r):C3 prog 127 [sr eBg7 aD,sr eBg7 aE] (.tup [sr eBg7 r.1,vi r.2]):=by
 refine N2 A8 func127 call127 ntmps127 ?_;intro E H0 K hE hK hO;cbv;refine A9 hE (g:=fun r1=>.tup [sr eBg7 r1.1,vi r1.2]) h (fun r1 hx=>c122 N aD aE (.func (.func 169) [] []) (fun y1 y2=>Dp N y1 y2) (fun y1 y2 r hx=>C3.value (F:=[]) (C:=[]) (c169 N y1 y2 r hx)) r1 hx) .z fun r1 h=>?_;cbv;cases h;exact hK hO .z
def c83 (N aD aE r)(h:EK N aD aE=some r):C3 prog 83 [sr eBg7 aD,sr eBg7 aE] (.tup [sr eBg7 r.1,vi r.2]):=by
 refine N2 A8 func83 call83 ntmps83 ?_;intro E H0 K hE hK hO;cbv;refine A9 hE h (c127 N aD aE) .z fun r1 h=>?_;cbv;apply B7 hE h<;>intro _ h
 ·cbv;cases h;exact hK hO (.tup (.cons (.lit _ (B5)) .z))
 cbv;refine A9 hE h (c127 N aE aD) .z fun r2 h=>?_;cbv;apply B7 hE h<;>intro _ h
 ·cbv;cases h;exact hK hO (.tup (.cons (.lit _ (B5)) .z))
 cbv;refine A9 hE h (c81 N r1.1 r2.1) .z fun r3 h=>?_;cbv;apply B7 hE h<;>intro _ h
 ·cbv;cases h;exact hK hO (.tup (.cons (.lit _ (B5)) .z))
 cbv;refine A9 hE h (c82 N r3.1) .z fun r4 h=>?_;cbv;cases h;exact hK hO .z
def cf46:Cf:=⟨[],[(32,9),(34,9),(37,9)],[(32,11)],[0],[],[]⟩
def c46 (N:Nat):∀n aB aM aL r,R6 N n aB aM aL=some r→C3 prog 46 [(U9 aB),vi aM,vi aL] (.tup [sr eBg7 r.1,vi r.2]):=by
 intro n
 induction n with
 |zero=>intro aB aM aL r h;cases h
 |succ n ih=>
 intro aB aM aL r h
 unfold R6 at h
 refine N2 cf46 func46 call46 ntmps46 ?_;intro E H0 K hE hK hO;cbv;obtain⟨s1,hx,h⟩:=A7 h;refine L5 cf46 hE J6 (fun e l H1=>match(generalizing:=false) s1 with| .inl y=>e= .normal∧l=[fi 1 aM,fi 2 aL,(3,.v (.eref (Aq aB) 0))]∧B6 Eq H0 [] H1| .inr y=>e= .ret∧l=[(6,.v (sr eBg7 y.1)),fi 7 y.2]∧B6 Eq H0 [] H1) (by kernel_rfl) ?_ ?_
 ·clear h;have h:=hx;cbv;apply B7 hE h<;>intro _ h
  ·cbv;apply B7 hE h<;>intro _ h
   ·cbv;cases h;exact⟨_,⟨rfl,rfl,hO⟩,.v (.lit _ (B5)) (.e rfl .z),rfl⟩
   cbv;apply B7 hE h<;>intro _ h
   ·cbv;refine A9 hE h (c61 N) .z fun r2 h=>?_;cbv;cases h;exact⟨_,⟨rfl,rfl,hO⟩,.e2 .z,rfl⟩
   cbv;cases h;exact⟨_,⟨rfl,rfl,hO⟩,.v (.lit _ (B5)) (.e rfl .z),rfl⟩
  cbv;obtain⟨s3,hx,h⟩:=A7 h;refine L5 cf46 hE J6 (fun e l H1=>e= .normal∧l=[fi 1 aM,fi 2 aL,(3,.v (.eref (Aq aB) 0)),fi 18 aB.Op,(32,.v (.bool s3))]∧B6 Eq H0 [] H1) (by kernel_rfl) ?_ ?_
  ·clear h;have h:=hx;cbv;apply B7 hE h<;>intro _ h
   ·cbv;cases h;exact⟨_,⟨rfl,rfl,hO⟩,.e rfl (.e4 .z),rfl⟩
   cbv;apply B7 hE h<;>intro _ h
   ·cbv;cases h;exact⟨_,⟨rfl,rfl,hO⟩,.e rfl (.e4 .z),rfl⟩
   cbv;cases h;exact⟨_,⟨rfl,rfl,hO⟩,.e rfl (.e4 .z),rfl⟩
  clear hx;rintro e l H ⟨rfl,rfl,hO⟩;cbv;apply B7 hE h<;>intro _ h
  ·cbv;refine D8 hE eBi0 h fun x4 h=>?_;cbv;refine A9 hE h (c78 N N x4 aM aL) .z fun r5 h=>?_;cbv;refine D8 hE eBi0 h fun x6 h=>?_;cbv;refine A9 hE h (c78 N N x6 aM aL) .z fun r7 h=>?_;cbv;apply B7 hE h<;>intro _ h
   ·cbv;refine A9 hE h (c79 N aB.Op r5.1 r7.1) .z fun r8 h=>?_;cbv;cases h;exact⟨_,⟨rfl,rfl,hO⟩,.e2 .z,rfl⟩
   cbv;apply B7 hE h<;>intro _ h
   ·cbv;cases h;exact⟨_,⟨rfl,rfl,hO⟩,.v (.lit _ (B5)) (.e rfl .z),rfl⟩
   cbv;cases h;exact⟨_,⟨rfl,rfl,hO⟩,.e rfl (.e2 .z),rfl⟩
  cbv;apply B7 hE h<;>intro _ h
  ·cbv;cases h;exact⟨_,⟨rfl,rfl,hO⟩,.e rfl (.e2 .z),rfl⟩
  cbv;apply B7 hE h<;>intro _ h
  ·cbv;cases h;exact⟨_,⟨rfl,rfl,hO⟩,.e rfl (.e2 .z),rfl⟩
  cbv;apply B7 hE h<;>intro _ h
  ·cbv;cases h;exact⟨_,⟨rfl,rfl,hO⟩,.e rfl (.e2 .z),rfl⟩
  cbv;cases h;exact⟨_,⟨rfl,rfl,hO⟩,.v (.lit _ (B5)) (.e rfl .z),rfl⟩
 clear hx
 rcases s1 with y9|y32
 ·rintro e l H ⟨rfl,rfl,hO⟩;cbv;apply G9 hE;cbv;replace hO:=hO.tl0 (t:=.nil) rfl;obtain⟨s12,hx,h⟩:=A7 h;refine J9 cf46 hE J6 (γ:=E7) (fun s10 g=>[fi 1 aM,fi 2 aL,(3,.v (.eref (Aq aB) 0)),(12,.v (.sl (lst eBh3 s10.1) g)),(75,.v (sr eBh2 aB.cT)),fi 76 (Ar.len aB.cT),fi 77 s10.2]) (fun s10 g H1=>K6 g∧B6 Eq H0 [.tl g] H1) (fun x e l H1=>match(generalizing:=false) x with| .inl y=>∃u1:E7,K6 u1∧e= .exit 2∧l=[(3,.v (.eref (Aq aB) 0)),(12,.v (.sl (lst eBh3 y) u1))]∧B6 Eq H0 [.tl u1] H1| .inr y=>∃u1:E7,K6 u1∧e= .ret∧l=[(6,.v (.sl [] .nil)),fi 7 y]∧B6 Eq H0 [.tl u1] H1) (by kernel_rfl) ?_ .nil hx ?_ ?_ ?_
  ·rintro s10 t11 H o ⟨ht11,hO⟩ h;cbv;apply B7 hE h<;>intro _ h
   ·cbv;refine D8 hE eBi0 h fun x13 h=>?_;cbv;refine A9 hE h (ih x13 aM aL) .z fun r14 h=>?_;cbv;apply B7 hE h<;>intro _ h
    ·cbv;cases h;exact⟨_,_,rfl,⟨t11,ht11,rfl,rfl,hO⟩,.e2 .z,rfl⟩
    cbv;refine N1 (f:=eBh3) hE FN (by decide) hO 0 rfl ht11 (l:=s10.1) (m:=[r14.1]) .z (.lstc (.eq (eBh5 r14.1) .z) (.lst0)) h fun l16 t15 H hO ht15 h=>?_;cbv;cases h;exact⟨_,t15,rfl,.e rfl (.e2 (.e4 .z)),rfl,ht15,hO⟩
   cbv;cases h;exact⟨_,_,rfl,⟨t11,ht11,rfl,rfl,hO⟩,.e2 .z,rfl⟩
  ·exact .e rfl (.e2 (.v (.slt _ (.lst0)) (.e rfl (.e rfl (.e rfl (.z))))))
  ·exact⟨trivial,hO⟩
  clear hx
  rcases s12 with y17|y30
  ·rintro e l H ⟨t18,ht18,rfl,rfl,hO⟩;cbv;apply B7 hE h<;>intro _ h
   ·cbv;refine D8 hE eBh5 h fun x19 h=>?_;cbv;refine D8 hE eBh5 h fun x20 h=>?_;cbv;refine K7 hE (g:=fun r21=>.tup [sr eBg7 r21.1,vi r21.2]) h (c80 N x19 x20) .z fun r21 h=>?_;cbv;cases h;exact hK hO .z
   cbv;apply B7 hE h<;>intro _ h
   ·cbv;refine D8 hE eBh5 h fun x22 h=>?_;cbv;refine D8 hE eBh5 h fun x23 h=>?_;cbv;refine K7 hE (g:=fun r24=>.tup [sr eBg7 r24.1,vi r24.2]) h (c81 N x22 x23) .z fun r24 h=>?_;cbv;cases h;exact hK hO .z
   cbv;apply B7 hE h<;>intro _ h
   ·cbv;refine D8 hE eBh5 h fun x25 h=>?_;cbv;refine A9 hE h (c82 N x25) .z fun r26 h=>?_;cbv;cases h;exact hK hO .z
   cbv;refine D8 hE eBh5 h fun x27 h=>?_;cbv;refine D8 hE eBh5 h fun x28 h=>?_;cbv;refine K7 hE (g:=fun r29=>.tup [sr eBg7 r29.1,vi r29.2]) h (c83 N x27 x28) .z fun r29 h=>?_;cbv;cases h;exact hK hO .z
  rintro e l H ⟨t31,ht31,rfl,rfl,hO⟩;cbv;cases h;exact hK hO (.tup (.cons (.lit _ (B5)) .z))
 rintro e l H ⟨rfl,rfl,hO⟩;cbv;cases h;exact hK hO .z
def c84 (N:Nat) (aC:List V7) (aY:V) (aS:V7→Option Bool) (bH:∀y1 q,aS y1=some q→AM prog aY [(Ag4 y1)] (.bool q)) (r:Int) (h:Y3 N aC aS=some r):C3 prog 84 [sr eBi8 aC,aY] (vi r):=by
 refine N2 A8 func84 call84 ntmps84 ?_;intro E H0 K hE hK hO;cbv;apply G9 hE;cbv;obtain⟨s2,hx,h⟩:=A7 h;refine H5 A8 hE J6 (fun s1=>[(0,.v (sr eBi8 aC)),(1,.v (aY)),fi 7 (Ar.len aC),fi 8 s1]) (fun s1 H1=>B6 Eq H0 [] H1) (fun x e l H1=>match(generalizing:=false) x with| .inl y=>e= .exit 0∧l=[]∧B6 Eq H0 [] H1| .inr y=>e= .ret∧l=[fi 4 y]∧B6 Eq H0 [] H1) (by kernel_rfl) ?_ hx ?_ hO ?_
 ·intro s1 H o hO h
  repeat' (cbv;first|apply B7 hE h<;>intro _ h|refine DI hE (g:=fun r4=>.bool r4) h (fun r4 hx=>bH x3 r4 hx) .z fun r4 h=>?_|refine D8 hE eBi9 h fun x3 h=>?_|(cases h;exact⟨_,_,rfl,⟨rfl,rfl,hO⟩,.e rfl .z,rfl⟩)|(cases h;exact⟨_,rfl,.e4 .z,rfl,hO⟩)|(cases h;exact⟨_,_,rfl,⟨rfl,rfl,hO⟩,.z,rfl⟩))
 ·exact .e4 .z
 clear hx
 rcases s2 with y5|y6
 ·rintro e l H ⟨rfl,rfl,hO⟩;cbv;cases h;exact hK hO .z
 rintro e l H ⟨rfl,rfl,hO⟩;cbv;cases h;exact hK hO .z
def c85 (N aS r)(h:Bv N aS=some r):C3 prog 85 [(Ag4 aS)] (.bool r):=by
 refine N2 A8 func85 call85 ntmps85 ?_;intro E H0 K hE hK hO;cbv;cases h;exact hK hO .z
def c47 (N aC r)(h:Cx N aC=some r):C3 prog 47 [(LV aC)] (vi r):=by
 refine N2 A8 func47 call47 ntmps47 ?_;intro E H0 K hE hK hO;cbv;refine A9 hE (g:=fun r1=>vi r1) h (fun r1 hx=>c84 N aC.Fields (.func (.func 85) [] []) (fun y1=>Bv N y1) (fun y1 r hx=>C3.value (F:=[]) (C:=[]) (c85 N y1 r hx)) r1 hx) .z fun r1 h=>?_;cbv;cases h;exact hK hO .z
def cf23:=cfB [8] [(8,13),(13,12)]
def c23 (N aJ aV bI aL r) (h:Dk N aJ aV bI aL=some r):C3 prog 23 [sr eBh4 aJ,vi aV,(U9 bI),vi aL] (.tup [(J8 r.1),vi r.2]):=by
 unfold Dk at h
 refine Tz cf23 J6 func23 (by rfl) (by kernel_rfl) call23 ntmps23 (by rfl) (by rfl) ?_;intro E H0 K hE hK hG;have hO:B6 Eq H0 [] H0:=.start E0 rfl
 repeat' (cbv;first|apply B7 hE h<;>intro _ h|apply G9 hE|refine A9 hE h (c20 _ _) .z fun _ h=>?_|refine D8 hE eBi7 h fun _ h=>?_|apply D0 hE hO 0 rfl|refine B9 hE hO 0 rfl rfl fun H hO=>?_|refine K7 hE (g:=fun r3=>sr eBh6 r3) h (c45 _ _ _) (.cons (.lit _ (F2 ((eBj0 (⟨⟨#[]⟩,aV⟩:B3)).symm) (B5))) .z) fun r3 h=>?_|refine K7 hE (g:=fun r4=>.tup [vi r4.1,vi r4.2]) h (c44 _ _ _ _) .z fun r4 h=>?_|refine K7 hE (g:=fun r6=>vi r6) h (c47 _ _) .z fun r6 h=>?_|refine K7 hE (g:=fun r7=>.tup [sr eBg7 r7.1,vi r7.2]) h (c46 _ _ _ _ _) .z fun r7 h=>?_|refine E5 hE hO fun _ H hO=>?_|(cases h;exact hK _ _ _ hO (.tup (.cons (.agg (.cons (.lit _ (B5)) .z)) .z))))
 cbv;obtain⟨l8,hmk,h⟩:=A7 h;obtain⟨_,hin,h⟩:=A7 h;obtain⟨l9,hup,h⟩:=A7 h;refine SL hE (f:=eBh3) (z0:=([]:List A3)) (by decide) (.eq (eBh5 []) (.lit _ (B5))) hO (F:=fun l=>some l) (r:=l8) (show(mkL (Ar.len aJ) (Ar.len aJ) ([]:List A3)).bind (fun l=>some l)=some l8 by rw[hmk];rfl) fun l8' q8 H hq8 e8 hO=>?_;cases e8;cbv
 have hb:0≤aV∧aV<(l8.length:Nat):=by
  unfold Du Ii at hin
  split at hin
  ·rename_i hd;exact of_decide_eq_true hd
  cases hin
 have e9:l9=l8.set aV.toNat r7.1:=by
  unfold DS at hup
  cases hx:B8 l8 aV with
  |none=>rw[hx]at hup;cases hup
  |some y=>rw[hx]at hup;cases hup;rfl
 refine AY3 hE (f:=eBh3) hO hq8 0 rfl hb ?_;cbv;refine AF3 hE (f:=eBh3) (tz:=1) (x':=r7.1) (fun x=>⟨sr eBg7 r7.1,.refl _,rfl,rfl,by rw[eBh5,eBh5];rfl⟩) (by decide) hO hq8 0 rfl hb fun H hO=>?_
 rw[←e9]at hO
 have hq9:Bz q8 (Ar.len l9):=by rw[e9,Ar.len_eq,Iq,←Ar.len_eq];exact hq8
 cbv;refine B9 hE hO 1 rfl rfl fun H hO=>?_;cbv;apply D0 hE hO 1 rfl;cbv;cases h;obtain⟨H2,g1,g2⟩:=hO.frzG (f:=eBh3) 0 rfl hq9;exact hG _ _ _ _ g1.agg1.tup2 g2 .z
def cf6:Cf:=⟨[4,10],[],[(77,23)],[],[(90,2000010)],[]⟩
def c6 (N aJ aA r) (h:Y2 N aJ aA=some r):C3 prog 6 [sr eBh4 aJ,(C9 aA)] (.tup [(X0 r.1),vi r.2]):=by
 refine N2 cf6 func6 call6 ntmps6 ?_;intro E H0 K hE hK hO;cbv;refine E5 hE hO fun b1 H hO=>?_
 repeat' (cbv;first|apply B7 hE h<;>intro _ h|apply G9 hE|refine A9 hE h (c20 _ _) .z fun _ h=>?_|refine A9 hE h (c21 _ _) .z fun r3 h=>?_|refine A9 hE h (c22 _ _ _) .z fun _ h=>?_|apply D0 hE hO 0 rfl|refine B9 hE hO 0 rfl rfl fun H hO=>?_|refine E5 hE hO fun b7 H hO=>?_|(cases h;exact hK hO (.tup (.cons (.agg (.r (.cons (.lit _ (B5)) (.cons (.lit _ (B5)) .z)))) .z)))|refine SL hE (f:=V.bool) (by decide) (z0:=(false:Bool)) (.z) hO h fun _ q5 H hq5 h hO=>?_|refine BF hE hO hq5 1 rfl h fun h=>?_|refine BE hE (f:=V.bool) (esz:=1) (tz:=1) (off:=0) (u:=(fun x8:Bool=>true)) (fun _=>⟨.bool true,.refl _,rfl,rfl,rfl⟩) (by decide) hO hq5 1 rfl h fun l9 H hq5 h hO=>?_)
 cbv;replace hO:=hO.cast (L':=[cb b7 [vi (Ar.len aJ),.own q5.id q5.lo q5.n,.sl (lst eBh7 ([])) .nil],ob q5 1 V.bool l9,cb b1 [vi 0,.sl [] .nil,.sl [] .nil]]) (by simp only[ob,cb,sr,←B5]<;>rfl);replace hO:=hO.tl0 (t:=.nil) rfl;obtain⟨s12,hx,h⟩:=A7 h;refine J9 cf6 hE J6 (γ:=E7) (fun s10 g=>[(0,.v (sr eBh4 aJ)),(4,.v (.ref b1 0)),fi 9 (Ar.len r3.1.cZ),(10,.v (.ref b7 0)),(53,.v (sr eBg9 r3.1.dC)),fi 54 (Ar.len r3.1.dC),fi 55 s10.1]) (fun s10 g H1=>K6 g∧B6 Eq H0 [.tl g,cb b7 [vi s10.2.dJ,.own q5.id q5.lo q5.n,.sl (lst eBh7 s10.2.dA) g],ob q5 1 V.bool l9,cb b1 [vi 0,.sl [] .nil,.sl [] .nil]] H1) (fun x e l H1=>match(generalizing:=false) x with| .inl y=>∃u1:E7,K6 u1∧e= .exit 0∧l=[(4,.v (.ref b1 0)),(10,.v (.ref b7 0))]∧B6 Eq H0 [.tl u1,cb b7 [vi y.dJ,.own q5.id q5.lo q5.n,.sl (lst eBh7 y.dA) u1],ob q5 1 V.bool l9,cb b1 [vi 0,.sl [] .nil,.sl [] .nil]] H1| .inr y=>∃u1:E7,K6 u1∧e= .ret∧l=[(4,.v (.ref b1 0)),fi 5 y.1]∧B6 Eq H0 [.tl u1,cb b7 [vi y.2.dJ,.own q5.id q5.lo q5.n,.sl (lst eBh7 y.2.dA) u1],ob q5 1 V.bool l9,cb b1 [vi 0,.sl [] .nil,.sl [] .nil]] H1) (by kernel_rfl) ?_ .nil hx ?_ ?_ ?_
 ·rintro s10 t11 H o ⟨ht11,hO⟩ h
  repeat' (cbv;first|apply B7 hE h<;>intro _ h|refine A9 hE h (c23 _ _ _ _ _) .z fun r14 h=>?_|refine D8 hE eBi6 h fun x13 h=>?_|refine B9 hE hO 3 rfl rfl fun H hO=>?_|(cases h;exact⟨_,_,rfl,⟨t11,ht11,rfl,rfl,hO⟩,.e2 .z,rfl⟩))
  cbv;obtain⟨s15,hx,h⟩:=A7 h;refine L5 cf6 hE J6 (fun e l H1=>e= .normal∧l=[(0,.v (sr eBh4 aJ)),(4,.v (.ref b1 0)),fi 9 (Ar.len r3.1.cZ),(10,.v (.ref b7 0)),(12,.v (.eref (U3 x13) 0)),(13,.v (.eref (Bg r14.1) 0)),fi 15 s15,(53,.v (sr eBg9 r3.1.dC)),fi 54 (Ar.len r3.1.dC),fi 55 s10.1]∧B6 Eq H0 [.tl t11,cb b7 [vi s10.2.dJ,.own q5.id q5.lo q5.n,.sl (lst eBh7 s10.2.dA) t11],ob q5 1 V.bool l9,cb b1 [vi 0,.sl [] .nil,.sl [] .nil]] H1) (by kernel_rfl) ?_ ?_
  ·clear h;have h:=hx;cbv;apply B7 hE h<;>intro _ h
   ·cbv;cases h;exact⟨_,⟨rfl,rfl,hO⟩,.e2 (.e4 (.e4 .z)),rfl⟩
   cbv;cases h;exact⟨_,⟨rfl,rfl,hO⟩,.e2 (.e4 (.e4 .z)),rfl⟩
  clear hx;rintro e l H ⟨rfl,rfl,hO⟩;cbv;apply D0 hE hO 1 rfl;cbv;refine N1 (f:=eBh7) hE OA (by decide) hO 0 rfl ht11 (l:=s10.2.dA) (m:=[(⟨x13.dE,s15,r14.1⟩:K0)]) .z (.lstc (.eq (eBi2 (⟨x13.dE,s15,r14.1⟩:K0)) .z) (.lst0)) h fun l17 t16 H hO ht16 h=>?_;cbv;refine B9 hE hO 1 rfl rfl fun H hO=>?_;cbv;cases h;exact⟨_,t16,rfl,.e rfl (.e2 (.e4 .z)),rfl,ht16,hO⟩
 ·exact .e rfl (.e2 (.e4 .z))
 ·exact⟨trivial,hO⟩
 clear hx
 rcases s12 with y18|y20
 ·rintro e l H ⟨t19,ht19,rfl,rfl,hO⟩;cbv;refine Rx hE hO hq5 1 2 rfl rfl rfl (by decide) fun H hO=>?_;cbv;apply D0 hE hO 1 rfl;cbv;refine B9 hE hO 2 rfl rfl fun H hO=>?_;cbv;apply D0 hE hO 2 rfl;cbv;cases h;exact hK hO (.tup (.cons (.agg (.r (.r (.cons (.ro _ _) .z)))) .z))
 rintro e l H ⟨t21,ht21,rfl,rfl,hO⟩;cbv;apply D0 hE hO 3 rfl;cbv;cases h;exact hK hO (.tup (.cons (.agg (.r (.cons (.lit _ (B5)) (.cons (.lit _ (B5)) .z)))) .z))
def cf56:=cfB [] [(6,8)]
def c56 (N aD aE r) (h:Kr N aD aE=some r):C3 prog 56 [sr eBg7 aD,sr eBg7 aE] (.bool r):=by
 refine N2 cf56 func56 call56 ntmps56 ?_;intro E H0 K hE hK hO
 repeat' (cbv;first|apply B7 hE h<;>intro _ h|apply G9 hE|(cases h;exact hK hO .z))
 cbv;obtain⟨s2,hx,h⟩:=A7 h;refine H5 cf56 hE J6 (fun s1=>[(0,.v (sr eBg7 aD)),(1,.v (sr eBg7 aE)),fi 5 s1]) (fun s1 H1=>B6 Eq H0 [] H1) (fun x e l H1=>match(generalizing:=false) x with| .inl y=>e= .exit 0∧l=[]∧B6 Eq H0 [] H1| .inr y=>e= .ret∧l=[(4,.b false)]∧B6 Eq H0 [] H1) (by kernel_rfl) ?_ hx ?_ hO ?_
 ·intro s1 H o hO h
  repeat' (cbv;first|apply B7 hE h<;>intro _ h|apply G9 hE|refine D8 hE eBh1 h fun _ h=>?_|(cases h;exact⟨_,_,rfl,⟨rfl,rfl,hO⟩,.b rfl (.z),rfl⟩)|(cases h;exact⟨_,rfl,.e rfl (.e2 .z),rfl,hO⟩)|(cases h;exact⟨_,_,rfl,⟨rfl,rfl,hO⟩,.z,rfl⟩))
 ·exact .e rfl (.e2 .z)
 clear hx
 rcases s2 with y5|y6
 ·rintro e l H ⟨rfl,rfl,hO⟩;cbv;cases h;exact hK hO .z
 rintro e l H ⟨rfl,rfl,hO⟩;cbv;cases h;exact hK hO .z
def cf28:=cfB [] [(6,10)]
def c28 (N aA bJ r) (h:Kn N aA bJ=some r):C3 prog 28 [(J8 aA),(J8 bJ)] (.bool r):=by
 refine N2 cf28 func28 call28 ntmps28 ?_;intro E H0 K hE hK hO
 repeat' (cbv;first|apply B7 hE h<;>intro _ h|apply G9 hE|(cases h;exact hK hO .z))
 cbv;obtain⟨s2,hx,h⟩:=A7 h;refine H5 cf28 hE J6 (fun s1=>[(2,.v (.eref (Bg aA) 0)),(3,.v (.eref (Bg bJ) 0)),fi 5 s1]) (fun s1 H1=>B6 Eq H0 [] H1) (fun x e l H1=>match(generalizing:=false) x with| .inl y=>e= .exit 0∧l=[]∧B6 Eq H0 [] H1| .inr y=>e= .ret∧l=[(4,.b false)]∧B6 Eq H0 [] H1) (by kernel_rfl) ?_ hx ?_ hO ?_
 ·intro s1 H o hO h
  repeat' (cbv;first|apply B7 hE h<;>intro _ h|apply G9 hE|refine A9 hE h (c56 _ _ _) .z fun _ h=>?_|refine D8 hE eBh5 h fun _ h=>?_|(cases h;exact⟨_,_,rfl,⟨rfl,rfl,hO⟩,.b rfl (.z),rfl⟩)|(cases h;exact⟨_,rfl,.e rfl (.e2 .z),rfl,hO⟩)|(cases h;exact⟨_,_,rfl,⟨rfl,rfl,hO⟩,.z,rfl⟩))
 ·exact .e rfl (.e2 .z)
 clear hx
 rcases s2 with y6|y7
 ·rintro e l H ⟨rfl,rfl,hO⟩;cbv;cases h;exact hK hO .z
 rintro e l H ⟨rfl,rfl,hO⟩;cbv;cases h;exact hK hO .z
def cf8:=cfB [] [(6,10),(11,14)]
def c8 (N aD aE r) (h:Fu N aD aE=some r):C3 prog 8 [(X0 aD),(X0 aE)] (.bool r):=by
 refine N2 cf8 func8 call8 ntmps8 ?_;intro E H0 K hE hK hO
 repeat' (cbv;first|apply B7 hE h<;>intro _ h|apply G9 hE|(cases h;exact hK hO .z))
 cbv;obtain⟨s2,hx,h⟩:=A7 h;refine H5 cf8 hE J6 (fun s1=>[(2,.v (.eref (H6 aD) 0)),(3,.v (.eref (H6 aE) 0)),fi 5 s1]) (fun s1 H1=>B6 Eq H0 [] H1) (fun x e l H1=>match(generalizing:=false) x with| .inl y=>e= .exit 0∧l=[(2,.v (.eref (H6 aD) 0)),(3,.v (.eref (H6 aE) 0))]∧B6 Eq H0 [] H1| .inr y=>e= .ret∧l=[(4,.b false)]∧B6 Eq H0 [] H1) (by kernel_rfl) ?_ hx ?_ hO ?_
 ·intro s1 H o hO h
  repeat' (cbv;first|apply B7 hE h<;>intro _ h|apply G9 hE|refine D8 hE (fun _=>rfl) h fun _ h=>?_|(cases h;exact⟨_,_,rfl,⟨rfl,rfl,hO⟩,.b rfl (.z),rfl⟩)|(cases h;exact⟨_,rfl,.e rfl (.e2 .z),rfl,hO⟩)|(cases h;exact⟨_,_,rfl,⟨rfl,rfl,hO⟩,.e2 .z,rfl⟩))
 ·exact .e rfl (.e2 .z)
 clear hx
 rcases s2 with y5|y13
 ·rintro e l H ⟨rfl,rfl,hO⟩;cbv;obtain⟨s7,hx,h⟩:=A7 h;refine H5 cf8 hE J6 (fun s6=>[(2,.v (.eref (H6 aD) 0)),(3,.v (.eref (H6 aE) 0)),fi 6 s6]) (fun s6 H1=>B6 Eq H0 [] H1) (fun x e l H1=>match(generalizing:=false) x with| .inl y=>e= .exit 2∧l=[]∧B6 Eq H0 [] H1| .inr y=>e= .ret∧l=[(4,.b false)]∧B6 Eq H0 [] H1) (by kernel_rfl) ?_ hx ?_ hO ?_
  ·intro s6 H o hO h
   repeat' (cbv;first|apply B7 hE h<;>intro _ h|apply G9 hE|refine A9 hE h (c28 _ _ _) .z fun _ h=>?_|refine D8 hE eBi2 h fun _ h=>?_|(cases h;exact⟨_,_,rfl,⟨rfl,rfl,hO⟩,.b rfl (.z),rfl⟩)|(cases h;exact⟨_,rfl,.e rfl (.e2 .z),rfl,hO⟩)|(cases h;exact⟨_,_,rfl,⟨rfl,rfl,hO⟩,.z,rfl⟩))
  ·exact .e rfl (.e2 .z)
  clear hx
  rcases s7 with y11|y12
  ·rintro e l H ⟨rfl,rfl,hO⟩;cbv;cases h;exact hK hO .z
  rintro e l H ⟨rfl,rfl,hO⟩;cbv;cases h;exact hK hO .z
 rintro e l H ⟨rfl,rfl,hO⟩;cbv;cases h;exact hK hO .z
def cf12:=cfA [4]
def c12 (N bA bB r)(h:DY N bA bB=some r):C3 prog 12 [vi bA,vi bB] ((J8 r)):=by
 refine N2 cf12 func12 call12 ntmps12 ?_;intro E H0 K hE hK hO;cbv;refine E5 hE hO fun b1 H hO=>?_;cbv;refine B9 hE hO 0 rfl rfl fun H hO=>?_;cbv;apply D0 hE hO 0 rfl;cbv;cases h;exact hK hO (.agg (.cons (.sl _ (.lstc (.eq (eBh5 ([(⟨bA,bB⟩:A3)])) (.lit _ (F2 ((eBh1 (⟨bA,bB⟩:A3)).symm) (B5)))) (.lst0))) .z))
def c13 (N aF r) (h:HS N aF=some r):C3 prog 13 [sr (V.int .i64) aF] (sr eBh9 r):=by
 refine N2 A8 func13 call13 ntmps13 ?_;intro E H0 K hE hK hO;cbv;apply G9 hE;cbv;replace hO:=hO.tl0 (t:=.nil) rfl;obtain⟨s3,hx,h⟩:=A7 h;refine J9 A8 hE J6 (γ:=E7) (fun s1 g=>[(3,.v (.sl (lst eBh9 s1.1) g)),(6,.v (sr (V.int .i64) aF)),fi 7 (Ar.len aF),fi 8 s1.2]) (fun s1 g H1=>K6 g∧B6 Eq H0 [.tl g] H1) (fun x e l H1=>∃u1:E7,K6 u1∧e= .exit 0∧l=[(3,.v (.sl (lst eBh9 x) u1))]∧B6 Eq H0 [.tl u1] H1) (by kernel_rfl) ?_ .nil hx ?_ ?_ ?_
 ·rintro s1 t2 H o ⟨ht2,hO⟩ h;cbv;apply B7 hE h<;>intro _ h
  ·cbv;refine D8 hE (fun _=>rfl) h fun x4 h=>?_;cbv;refine N1 (f:=eBh9) hE RT (by decide) hO 0 rfl ht2 (l:=s1.1) (m:=[(⟨0,x4⟩:K8)]) .z (.lstc (.eq (eBj5 (⟨0,x4⟩:K8)) .z) (.lst0)) h fun l6 t5 H hO ht5 h=>?_;cbv;cases h;exact⟨_,t5,rfl,.e4 .z,rfl,ht5,hO⟩
  cbv;cases h;exact⟨_,_,rfl,⟨t2,ht2,rfl,rfl,hO⟩,.e rfl .z,rfl⟩
 ·exact .v (.slt _ (.lst0)) (.e rfl (.e2 .z))
 ·exact⟨trivial,hO⟩
 clear hx;rintro e l H ⟨t7,ht7,rfl,rfl,hO⟩;cbv;cases h;exact hK hO (.ro _ _)
def c57 (N aP aH r)(h:Fs N aP aH=some r):C3 prog 57 [vi aP,.eref (H6 aH) 0] (.bool r):=by
 refine N2 A8 func57 call57 ntmps57 ?_;intro E H0 K hE hK hO;cbv;apply G9 hE;cbv;cases h;exact hK hO .z
def c58 (N aJ aA r) (h:GH N aJ aA=some r):C3 prog 58 [vi aJ,(J8 aA)] (vi r):=by
 refine N2 A8 func58 call58 ntmps58 ?_;intro E H0 K hE hK hO
 repeat' (cbv;first|apply B7 hE h<;>intro _ h|apply G9 hE|(cases h;done))
 cbv;obtain⟨s2,hx,h⟩:=A7 h;refine H5 A8 hE J6 (fun s1=>[(22,.v (sr eBh3 aA.cX)),fi 23 (Ar.len aA.cX),fi 24 s1]) (fun s1 H1=>B6 Eq H0 [] H1) (fun x e l H1=>e= .exit 1∧l=[]∧B6 Eq H0 [] H1) (by kernel_rfl) ?_ hx ?_ hO ?_
 ·intro s1 H o hO h
  repeat' (cbv;first|apply B7 hE h<;>intro _ h|refine A9 hE h (c99 _ _) .z fun _ h=>?_|refine D8 hE eBh5 h fun _ h=>?_|(cases h;done)|(cases h;exact⟨_,rfl,.e rfl (.e2 .z),rfl,hO⟩)|(cases h;exact⟨_,_,rfl,⟨rfl,rfl,hO⟩,.z,rfl⟩))
 ·exact .e rfl (.e2 .z)
 clear hx;rintro e l H ⟨rfl,rfl,hO⟩;cbv;cases h;exact hK hO .z
def c29 (N aC r) (h:EA N aC=some r):C3 prog 29 [(X0 aC)] (vi r):=by
 refine N2 A8 func29 call29 ntmps29 ?_;intro E H0 K hE hK hO
 repeat' (cbv;first|apply B7 hE h<;>intro _ h|apply G9 hE|(cases h;done))
 cbv;obtain⟨s2,hx,h⟩:=A7 h;refine H5 A8 hE J6 (fun s1=>[(1,.v (.eref (H6 aC) 0)),(3,.v (.func (.func 57) [] [.eref (H6 aC) 0])),(33,.v (sr eBh7 aC.dA)),fi 34 (Ar.len aC.dA),fi 35 s1]) (fun s1 H1=>B6 Eq H0 [] H1) (fun x e l H1=>e= .exit 0∧l=[]∧B6 Eq H0 [] H1) (by kernel_rfl) ?_ hx ?_ hO ?_
 ·intro s1 H o hO h
  repeat' (cbv;first|apply B7 hE h<;>intro _ h|refine DI hE (g:=fun r4=>.bool r4) h (fun r4 hx=>C3.value (F:=[]) (C:=[.eref (H6 aC) 0]) (c57 N x3.dE aC r4 hx)) .z fun r4 h=>?_|refine DI hE (g:=fun r5=>.bool r5) h (fun r5 hx=>C3.value (F:=[]) (C:=[.eref (H6 aC) 0]) (c57 N x3.To aC r5 hx)) .z fun r5 h=>?_|refine A9 hE h (c58 _ _ _) .z fun _ h=>?_|refine D8 hE eBi2 h fun x3 h=>?_|(cases h;done)|(cases h;exact⟨_,rfl,.e rfl (.e4 .z),rfl,hO⟩)|(cases h;exact⟨_,_,rfl,⟨rfl,rfl,hO⟩,.z,rfl⟩))
 ·exact .e rfl (.e4 .z)
 clear hx;rintro e l H ⟨rfl,rfl,hO⟩;cbv;cases h;exact hK hO .z
def cf59:=cfA [4,6]
def c59 (N:Nat) (aJ:Int) (cQ:V) (cJ:Int→Option ((List A3)×Int)) (cS:∀y1 q,cJ y1=some q→AM prog cQ [vi y1] (.tup [sr eBg7 q.1,vi q.2])) (r:(D4×Int)) (h:Mm N aJ cJ=some r):C3 prog 59 [vi aJ,cQ] (.tup [(J8 r.1),vi r.2]):=by
 refine N2 cf59 func59 call59 ntmps59 ?_;intro E H0 K hE hK hO;cbv;refine E5 hE hO fun b1 H hO=>?_;cbv;refine E5 hE hO fun b2 H hO=>?_;cbv;replace hO:=hO.cast (L':=[cb b2 [.sl (lst eBh3 ([])) .nil],cb b1 [.sl [] .nil]]) (by simp only[ob,cb,sr,←B5]<;>rfl);replace hO:=hO.tl0 (t:=.nil) rfl;obtain⟨s5,hx,h⟩:=A7 h;refine J9 cf59 hE J6 (γ:=E7) (fun s3 g=>[(1,.v (cQ)),(4,.v (.ref b1 0)),(6,.v (.ref b2 0)),fi 10 aJ,fi 11 s3.1]) (fun s3 g H1=>K6 g∧B6 Eq H0 [.tl g,cb b2 [.sl (lst eBh3 s3.2.cX) g],cb b1 [.sl [] .nil]] H1) (fun x e l H1=>∃u1:E7,K6 u1∧e= .exit 0∧l=[(4,.v (.ref b1 0)),(6,.v (.ref b2 0))]∧B6 Eq H0 [.tl u1,cb b2 [.sl (lst eBh3 x.cX) u1],cb b1 [.sl [] .nil]] H1) (by kernel_rfl) ?_ .nil hx ?_ ?_ ?_
 ·rintro s3 t4 H o ⟨ht4,hO⟩ h
  repeat' (cbv;first|apply B7 hE h<;>intro _ h|refine DI hE (g:=fun r6=>.tup [sr eBg7 r6.1,vi r6.2]) h (fun r6 hx=>cS s3.1 r6 hx) .z fun r6 h=>?_|apply D0 hE hO 1 rfl|refine B9 hE hO 1 rfl rfl fun H hO=>?_|(cases h;done)|(cases h;exact⟨_,t7,rfl,.e rfl (.e4 .z),rfl,ht7,hO⟩)|(cases h;exact⟨_,_,rfl,⟨t4,ht4,rfl,rfl,hO⟩,.e2 .z,rfl⟩)|refine N1 (f:=eBh3) hE FN (by decide) hO 0 rfl ht4 (l:=s3.2.cX) (m:=[r6.1]) .z (.lstc (.eq (eBh5 r6.1) .z) (.lst0)) h fun _ t7 H hO ht7 h=>?_)
 ·exact .e rfl (.e4 .z)
 ·exact⟨trivial,hO⟩
 clear hx;rintro e l H ⟨t9,ht9,rfl,rfl,hO⟩;cbv;apply D0 hE hO 1 rfl;cbv;refine B9 hE hO 2 rfl rfl fun H hO=>?_;cbv;apply D0 hE hO 2 rfl;cbv;cases h;exact hK hO (.tup (.cons (.agg (.cons (.ro _ _) .z)) .z))
def c60 (N cN r)(h:GI N cN=some r):C3 prog 60 [vi cN] (.tup [sr eBg7 r.1,vi r.2]):=by
 refine N2 A8 func60 call60 ntmps60 ?_;intro E H0 K hE hK hO;cbv;refine A9 hE h (c61 N) .z fun r1 h=>?_;cbv;cases h;exact hK hO .z
def cf30:=cfA [2]
def c30 (N aJ r)(h:Ns N aJ=some r):C3 prog 30 [vi aJ] (.tup [(J8 r.1),vi r.2]):=by
 refine N2 cf30 func30 call30 ntmps30 ?_;intro E H0 K hE hK hO;cbv;refine E5 hE hO fun b1 H hO=>?_;cbv;apply B7 hE h<;>intro _ h
 ·cbv;cases h
 cbv;refine A9 hE (g:=fun r2=>.tup [(J8 r2.1),vi r2.2]) h (fun r2 hx=>c59 N aJ (.func (.func 60) [] []) (fun y1=>GI N y1) (fun y1 r hx=>C3.value (F:=[]) (C:=[]) (c60 N y1 r hx)) r2 hx) .z fun r2 h=>?_;cbv;refine B9 hE hO 0 rfl rfl fun H hO=>?_;cbv;apply D0 hE hO 0 rfl;cbv;cases h;exact hK hO .z
def c62 (N aF r) (h:Cy N aF=some r):C3 prog 62 [sr eBk1 aF] (vi r):=by
 refine N2 A8 func62 call62 ntmps62 ?_;intro E H0 K hE hK hO;cbv;apply G9 hE;cbv;obtain⟨s2,hx,h⟩:=A7 h;refine H5 A8 hE J6 (fun s1=>[(6,.v (sr eBk1 aF)),fi 7 (Ar.len aF),fi 8 s1]) (fun s1 H1=>B6 Eq H0 [] H1) (fun x e l H1=>e= .exit 0∧l=[]∧B6 Eq H0 [] H1) (by kernel_rfl) ?_ hx ?_ hO ?_
 ·intro s1 H o hO h
  repeat' (cbv;first|apply B7 hE h<;>intro _ h|apply G9 hE|refine A9 hE h (c58 _ _ _) .z fun _ h=>?_|refine D8 hE eBj7 h fun _ h=>?_|(cases h;done)|(cases h;exact⟨_,rfl,.e rfl (.e2 .z),rfl,hO⟩)|(cases h;exact⟨_,_,rfl,⟨rfl,rfl,hO⟩,.z,rfl⟩))
 ·exact .e rfl (.e2 .z)
 clear hx;rintro e l H ⟨rfl,rfl,hO⟩;cbv;cases h;exact hK hO .z
def c63 (N aF aK r)(h:Ja N aF aK=some r):C3 prog 63 [sr eBg7 aF,vi aK] (.tup [.bool r.1,vi r.2]):=by
 refine N2 A8 func63 call63 ntmps63 ?_;intro E H0 K hE hK hO;cbv;refine A9 hE h (c99 N aF) .z fun r1 h=>?_;cbv;apply B7 hE h<;>intro _ h
 ·cbv;cases h
 cbv;refine A9 hE h (c100 N aF aK) .z fun r2 h=>?_;cbv;cases h;exact hK hO .z
def cf31:=cfB [] [(8,11)]
def c31 (N aA aC r)(h:DV N aA aC=some r):C3 prog 31 [(J8 aA),(LU aC)] (.tup [.bool r.1,vi r.2]):=by
 refine N2 cf31 func31 call31 ntmps31 ?_;intro E H0 K hE hK hO
 repeat' (cbv;first|apply B7 hE h<;>intro _ h|apply G9 hE|refine A9 hE h (c62 _ _) (.cons (.lit _ (F2 ((eBj7 aA).symm) (B5))) .z) fun _ h=>?_|refine D8 hE eBh5 h fun _ h=>?_|refine K7 hE (g:=fun r3=>.tup [.bool r3.1,vi r3.2]) h (c63 _ _ _) .z fun r3 h=>?_|(cases h;done)|(cases h;exact hK hO .z))
def c64 (N aH aU r) (h:KW N aH aU=some r):JY prog 64 (fun yv=>[yv,.eref (H6 aH) 0,.eref [vi aU] 0]) (List.map (fun(x:K0)=>[(Fp x)]) r) rbN:=by
 obtain⟨⟨w0,u0⟩,h1,hr⟩:=A7 h;clear h;have hr:=O8 hr;subst hr;have h:=h1;clear h1;refine V1 A8 J6 func64 (by rfl) (by kernel_rfl) call64 ntmps64 (by rfl) (fun _=>rfl) ?_;intro yv I D hI hD hy tl F E H K hE hO hK hKD
 have hO:B6 (I (List.map (fun(x:K0)=>[(Fp x)]) (w0++[])++tl)) F [] H:=by rw[L4];exact hO
 cbv;apply G9 hE;cbv;obtain⟨w2,w3,s6,hx,h,he⟩:=U1 h
 rw[he,G1]at hO
 clear he;refine MY A8 hE J6 (γ:=Unit) (fun s1 g=>[(0,.v (yv)),(2,.v (.eref [vi aU] 0)),(7,.v (sr eBh7 aH.dA)),fi 8 (Ar.len aH.dA),fi 9 s1]) (fun s1 g w H1=>B6 (I (List.map (fun(x:K0)=>[(Fp x)]) w++tl)) F [] H1) (fun x e l w H1=>e= .exit 0∧l=[]∧B6 (I (List.map (fun(x:K0)=>[(Fp x)]) w++tl)) F [] H1) (fun e l H1=>(e= .ret∧l=[]∧B6 D F [] H1)) (by kernel_rfl) ?_ (w':=w3++[]) () hx ?_ ?_ ?_ ?_
 ·rintro s1 _ w4 w5 H o hO h
  skip
  repeat' (cbv;first|apply B7 hE h<;>intro _ h|refine D8 hE eBi2 h fun x7 h=>?_)
  ·cbv;obtain⟨w8,h,he⟩:=Z4 h
   rw[he,G1]at hO
   clear he;have hO:B6 (I ([(Fp x7)]::(List.map (fun(x:K0)=>[(Fp x)]) (w8++w5)++tl))) F [] _:=hO;refine DF hE hI hD hy hO .z (fun H hO=>?_) (fun H hO=>?_)
   ·cbv;apply Ms hE (nt_eq _);cbv;obtain⟨hw,rfl⟩:=F9 h
    rw[←hw]at hO
    exact⟨_,(),rfl,.e rfl (.e4 .z),rfl,hO⟩
   clear h;cbv;apply Mr hE (nt_eq _);cbv;exact .inr ⟨_,⟨rfl,rfl,hO⟩,.z,rfl⟩
  ·cbv;obtain⟨hw,rfl⟩:=F9 h
   rw[←hw]at hO
   exact⟨_,(),rfl,.e rfl (.e4 .z),rfl,hO⟩
  cbv;obtain⟨hw,rfl⟩:=F9 h
  rw[←hw]at hO
  exact .inl ⟨_,_,rfl,⟨rfl,rfl,hO⟩,.z,rfl⟩
 ·exact .e rfl (.e4 .z)
 ·exact hO
 ·rintro e l H ⟨rfl,rfl,hO⟩;cbv;obtain⟨hw,_⟩:=F9 h
  rw[←hw]at hO
  exact hK _ _ _ hO trivial
 rintro e l H hX;obtain⟨rfl,rfl,hO⟩:=hX;clear h;cbv;exact hKD _ _ _ hO trivial
def c32 (N aC cF r)(h:FO N aC cF=some r):Fg prog 32 [(X0 aC),vi cF] (fun v=>Jm prog v (r.map fun(x:K0)=>[(Fp x)])):=by
 refine Y0 A8 J6 func32 (by rfl) (by kernel_rfl) call32 ntmps32 (by rfl) (by rfl) ?_;intro E H0 K hE hK;have hO:B6 Eq H0 [] H0:=.start E0 rfl;cbv;exact hK _ _ _ hO (X8 call64 (c64 N aC cF r h))
def c33 (N aA aG r)(h:Ez N aA aG=some r):C3 prog 33 [(J8 aA),(LU aG)] (.bool r):=by
 refine N2 A8 func33 call33 ntmps33 ?_;intro E H0 K hE hK hO;cbv;refine A9 hE h (c31 N aA aG) .z fun r1 h=>?_;cbv;cases h;exact hK hO .z
def c14 (N aC bC r) (h:JG N aC bC=some r):C3 prog 14 [(X0 aC),sr eBh9 bC] (.tup [.bool r.1,vi r.2]):=by
 refine N2 A8 func14 call14 ntmps14 ?_;intro E H0 K hE hK hO
 repeat' (cbv;first|refine B7 hE h (fun hc h=>?_) (fun hc h=>?_)|apply G9 hE|refine A9 hE h (c29 _ _) .z fun _ h=>?_|refine A9 hE h (c30 _ _) .z fun r2 h=>?_|(cases h;done))
 cbv;obtain⟨s4,hx,h⟩:=A7 h;refine H5 A8 hE J6 (fun s3=>[(1,.v (sr eBh9 bC)),(2,.v (.eref (H6 aC) 0)),(4,.b false),fi 5 0,(7,.v (.eref (Bg r2.1) 0)),(34,.v (sr eBh9 bC)),fi 35 (Ar.len bC),fi 36 s3]) (fun s3 H1=>B6 Eq H0 [] H1) (fun x e l H1=>e= .exit 0∧l=[(1,.v (sr eBh9 bC)),(2,.v (.eref (H6 aC) 0)),(4,.b false),fi 5 0]∧B6 Eq H0 [] H1) (by kernel_rfl) ?_ hx ?_ hO ?_
 ·intro s3 H o hO h
  repeat' (cbv;first|refine B7 hE h (fun _ h=>?_) (fun _ h=>?_)|refine A9 hE h (c31 _ _ _) .z fun _ h=>?_|refine D8 hE eBj5 h fun _ h=>?_|(cases h;done)|(cases h;exact⟨_,rfl,.e2 (.b rfl (.e rfl (.e rfl (.e rfl (.e rfl (.e rfl (.z))))))),rfl,hO⟩)|(cases h;exact⟨_,_,rfl,⟨rfl,rfl,hO⟩,.e2 (.b rfl (.e rfl (.z))),rfl⟩))
 ·exact .e2 (.b rfl (.e rfl (.e rfl (.e rfl (.e rfl (.e rfl (.z)))))))
 clear hx;rintro e l H ⟨rfl,rfl,hO⟩;cbv;refine SM hE (.int .i64) (V.int .i64) V.bool hO fun m7 o8 H ho8 hO=>?_;cbv;refine Mq hE (kt:=3) (et:=4) (by kernel_rfl) (by kernel_rfl) (CY .i64) Hp hO ho8 0 rfl h fun l10 o9 H ho9 h hO=>?_;cbv;apply G9 hE;cbv;obtain⟨s16,hx,h⟩:=A7 h;refine XZ A8 hE J6 (γ:=Obj×Nat) (fun s12 g=>[(2,.v (.eref (H6 aC) 0)),(4,.b false),fi 5 0,(13,.v (.map g.2)),(52,.v (sr eBh9 bC)),fi 53 (Ar.len bC),fi 54 s12.1]) (fun s12 g ds15 H1=>Jz (.int .i64) (V.int .i64) V.bool g.1 s12.2∧True∧B6 Eq H0 (.blk g.2 (.obj g.1)::Ht ds15) H1) (fun x e l ds15 H1=>∃u1:Obj,Jz (.int .i64) (V.int .i64) V.bool u1 x∧∃u2:Nat,True∧e= .exit 2∧l=[(2,.v (.eref (H6 aC) 0)),(13,.v (.map u2))]∧B6 Eq H0 (.blk u2 (.obj u1)::Ht ds15) H1) (by kernel_rfl) ?_ (⟨o9,m7⟩) hx ?_ ?_ ?_
 ·rintro s12 ⟨q13,m14⟩ ds15 H o ⟨hq13,hm14,hO⟩ h;cbv;refine B7 hE h (fun hc h=>?_) (fun hc h=>?_)
  ·cbv;refine D8 hE eBj5 h fun x17 h=>?_;cbv;refine SM hE (.int .i64) (V.int .i64) V.bool hO fun m18 o19 H ho19 hO=>?_;cbv;refine Ai2 hE (kt:=3) (et:=4) (by kernel_rfl) hO (hO.get 1 rfl) hq13 fun m20 b21 H hb21 hO=>?_;cbv;obtain⟨s28,hx,h⟩:=A7 h;refine Rv A8 hE J6 (γ:=Obj) (fun s23 g=>[(2,.v (.eref (H6 aC) 0)),(4,.b false),fi 5 0,(13,.v (.map m14)),(15,.v (.eref (Z3 x17) 0)),(16,.v (.eref [.map m18] 0)),(52,.v (sr eBh9 bC)),fi 53 (Ar.len bC),fi 54 s12.1,(60,.v (.ref m20 0))]) (fun s23 g ds27 b25 H1=>Jz (.int .i64) (V.int .i64) V.bool g s23∧B6 Eq H0 (.blk m20 b25:: .blk m18 (.obj g):: .blk m14 (.obj q13)::Ht ds27) H1) (fun x e l ds27 H1=>∃u1:Obj,Jz (.int .i64) (V.int .i64) V.bool u1 x∧e= .exit 4∧l=[(2,.v (.eref (H6 aC) 0)),(4,.b false),fi 5 0,(16,.v (.eref [.map m18] 0)),(52,.v (sr eBh9 bC)),fi 53 (Ar.len bC),fi 54 s12.1]∧B6 Eq H0 (.blk m18 (.obj u1):: .blk m14 (.obj q13)::Ht ds27) H1) (by kernel_rfl) ?_ o19 hx ?_ hb21 ?_ ?_
   ·rintro s23 q26 ds27 lf23 b25 H hb25 ⟨hq26,hO⟩ hs23;cbv;refine Ai3 hE hO hb25 0 rfl (hO.get 2 rfl) (fun hl=>?_) fun p24 l29 b30 H hpp24 hb30 hO=>?_
    ·cbv;refine QP hE (fun hc=>by cases hc) (fun hc=>?_);cbv;exact⟨_,_,_,.inl ⟨hl,rfl⟩,⟨q26,hq26.srt,rfl,rfl,hO.tail⟩,.e rfl (.b rfl (.e rfl (.e rfl (.e rfl (.e rfl (.e rfl (.z))))))),rfl⟩
    obtain⟨o,h⟩:=hs23 p24 l29 hpp24;have h0p24:=h;cbv;refine QP hE (fun hc=>?_) (fun hc=>by cases hc);cbv;refine Ai4 hE hO hb30 0 rfl (hO.get 2 rfl) ?_;cbv;refine Ap hE h (c32 N aC p24.1) .z fun r31 v32 hv32 h=>?_;cbv;obtain⟨o38,hx,h⟩:=A7 h;refine DG A8 hE J6 (ι:=Unit) (enc:=fun(x:K0)=>[(Fp x)]) (fun(s34:(List (Int×Bool))) F H=>∃g:Obj,(Jz (.int .i64) (V.int .i64) V.bool g s34)∧B6 Eq F (.blk m20 b30:: .blk m18 (.obj g):: .blk m14 (.obj q13)::Ht ds27) H) (fun(r:Unit) e F H=>False) (fun i s34 y33=>[(15,.v (.eref (Z3 x17) 0)),(16,.v (.eref [.map m18] 0)),(18,.v (.eref (WB y33) 0))]) (fun i s34 y33 F H=>∃g:Obj,(Jz (.int .i64) (V.int .i64) V.bool g s34)∧B6 Eq F (.blk m20 b30:: .blk m18 (.obj g):: .blk m14 (.obj q13)::Ht ds27) H) (fun _=>G5.ex fun _=>B6.stable E0 _) (fun _ _=>⟨fun h=>h.elim,fun _ _ h=>h.elim⟩) (fun _ _ _=>G5.ex fun _=>B6.stable E0 _) hv32 hx (⟨q26,hq26,hO⟩) (by decide) (fun _=>rfl) (by kernel_rfl) (by kernel_rfl) ?_ ?_ ?_ ?_
    ·rintro E i36 y33 s34 F35 H hE ⟨q37,hq37,hO⟩;clear hx h;cbv;exact⟨(),⟨q37,hq37,hO⟩,.e rfl (.e2 .z),rfl⟩
    ·rintro E i36 _ y33 s34 F35 H o hE hF h ⟨q37,hq37,hO⟩
     repeat' (cbv;first|refine B7 hE h (fun _ h=>?_) (fun _ h=>?_)|refine A9 hE h (c33 _ _ _) .z fun _ h=>?_|(cases h;exact⟨_,rfl,⟨o41,ho41,hO⟩⟩)|(cases h;exact⟨_,rfl,⟨q37,hq37,hO⟩⟩)|refine VY hE (kt:=3) (et:=4) (by kernel_rfl) (by kernel_rfl) (CY .i64) (false:Bool) (by kernel_rfl) rfl hO hq37 1 rfl h fun _ h=>?_|refine Mq hE (kt:=3) (et:=4) (by kernel_rfl) (by kernel_rfl) (CY .i64) Hp hO hq37 1 rfl h fun _ o41 H ho41 h hO=>?_)
    ·rintro d43 s46 H rfl hd ⟨q47,hq47,hO⟩;have hO:B6 Eq H0 (.blk m20 b30:: .blk m18 (.obj q47):: .blk m14 (.obj q13)::Ht (d43::ds27)) H:=B6.dbs1 (A:=[_,_,_]) (ds:=ds27) (B6.dblk hd hO);clear hd;cbv;cases h;exact⟨p24,l29,_,q47,b30,_,hpp24,h0p24,.e rfl (.b rfl (.e rfl (.e rfl (.e rfl (.e rfl (.e rfl (.e rfl (.e rfl (.e rfl (.z)))))))))),rfl,hb30.1,hq47,hO⟩
    rintro d r e H rfl hd hO;exact hO.elim
   ·exact .e rfl (.b rfl (.e rfl (.e rfl (.e rfl (.e rfl (.e rfl (.e rfl (.e rfl (.e rfl (.z))))))))))
   ·exact⟨ho19,hO⟩
   clear hx;rintro e l ds27 H ⟨q48,hq48,rfl,rfl,hO⟩;cbv;have hO:B6 Eq H0 (.blk m14 (.obj q13):: .blk m18 (.obj q48)::Ht ds27) H:=hO.swp 0 1 rfl rfl;cases h;exact⟨_,⟨q48,m18⟩,_,rfl,.e rfl (.b rfl (.e rfl (.e rfl (.e rfl (.e rfl (.e rfl (.z))))))),rfl,hq48,trivial,hO.tail⟩
  cbv;cases h;exact⟨_,_,_,rfl,⟨q13,hq13,m14,trivial,rfl,rfl,hO⟩,.e2 .z,rfl⟩
 ·exact .e rfl (.b rfl (.e rfl (.e rfl (.e rfl (.e rfl (.e rfl (.z)))))))
 ·exact⟨ho9,trivial,hO⟩
 clear hx;rintro e l ds15 H ⟨q49,hq49,m50,hm50,rfl,rfl,hO⟩;cbv;refine Ai2 hE (kt:=3) (et:=4) (by kernel_rfl) hO (hO.get 0 rfl) hq49 fun m51 b52 H hb52 hO=>?_;cbv;obtain⟨s58,hx,h⟩:=A7 h;refine Rv A8 hE J6 (γ:=Unit) (fun s54 _=>[(2,.v (.eref (H6 aC) 0)),(86,.v (.ref m51 0))]) (fun s54 _ ds57 b56 H1=>B6 Eq H0 (.blk m51 b56:: .blk m50 (.obj q49)::Ht ds57) H1) (fun x e l ds57 H1=>match(generalizing:=false) x with| .inl y=>e= .exit 8∧l=[]∧B6 Eq H0 (.blk m50 (.obj q49)::Ht ds57) H1| .inr y=>e= .ret∧l=[(4,.b true),fi 5 0]∧B6 Eq H0 (.blk m50 (.obj q49)::Ht ds57) H1) (by kernel_rfl) ?_ () hx ?_ hb52 ?_ ?_
 ·rintro s54 _ ds57 lf54 b56 H hb56 hO hs54;cbv;refine Ai3 hE hO hb56 0 rfl (hO.get 1 rfl) (fun hl=>?_) fun p55 l59 b60 H hpp55 hb60 hO=>?_
  ·cbv;refine QP hE (fun hc=>by cases hc) (fun hc=>?_);cbv;exact⟨_,_,_,.inl ⟨hl,rfl⟩,⟨rfl,rfl,hO.tail⟩,.z,rfl⟩
  obtain⟨o,h⟩:=hs54 p55 l59 hpp55;have h0p55:=h;cbv;refine QP hE (fun hc=>?_) (fun hc=>by cases hc);cbv;refine Ai4 hE hO hb60 0 rfl (hO.get 1 rfl) ?_;cbv;refine D8 hE (fun _=>rfl) h fun x61 h=>?_;cbv;refine B7 hE h (fun hc h=>?_) (fun hc h=>?_)
  ·cbv;cases h;exact⟨_,_,_,.inr ⟨p55,l59,hpp55,h0p55⟩,⟨rfl,rfl,hO.tail⟩,.b rfl (.e rfl .z),rfl⟩
  cbv;cases h;exact⟨p55,l59,_,(),b60,_,hpp55,h0p55,.e2 .z,rfl,hb60.1,hO⟩
 ·exact .e2 .z
 ·exact hO
 clear hx
 rcases s58 with y62|y63
 ·rintro e l ds57 H ⟨rfl,rfl,hO⟩;cbv
  rcases ds57 with _|⟨d0,ds57⟩
  ·cbv;have hO:B6 _ _ [.blk m50 (.obj q49)] H:=hO;cases h;exact hK hO .z
  cbv;refine Qa (A:=[_]) (ds:=d0::ds57) hE hO fun H hO=>?_;cbv;cases h;exact hK hO .z
 rintro e l ds57 H ⟨rfl,rfl,hO⟩;cbv
 rcases ds57 with _|⟨d0,ds57⟩
 ·cbv;have hO:B6 _ _ [.blk m50 (.obj q49)] H:=hO;cases h;exact hK hO .z
 cbv;refine Qa (A:=[_]) (ds:=d0::ds57) hE hO fun H hO=>?_;cbv;cases h;exact hK hO .z
def c102 (N aH r) (h:HK N aH=some r):JY prog 102 (fun yv=>[yv,.eref (Bg aH) 0]) (List.map (fun(x:(Int×(List A3)))=>[vi x.1,sr eBg7 x.2]) r) rbN:=by
 obtain⟨⟨w0,u0⟩,h1,hr⟩:=A7 h;clear h;have hr:=O8 hr;subst hr;have h:=h1;clear h1;refine V1 A8 J6 func102 (by rfl) (by kernel_rfl) call102 ntmps102 (by rfl) (fun _=>rfl) ?_;intro yv I D hI hD hy tl F E H K hE hO hK hKD
 have hO:B6 (I (List.map (fun(x:(Int×(List A3)))=>[vi x.1,sr eBg7 x.2]) (w0++[])++tl)) F [] H:=by rw[L4];exact hO
 cbv;apply G9 hE;cbv;obtain⟨w2,w3,s6,hx,h,he⟩:=U1 h
 rw[he,G1]at hO
 clear he;refine MY A8 hE J6 (γ:=Unit) (fun s1 g=>[(0,.v (yv)),(6,.v (sr eBh3 aH.cX)),fi 7 (Ar.len aH.cX),fi 8 s1]) (fun s1 g w H1=>B6 (I (List.map (fun(x:(Int×(List A3)))=>[vi x.1,sr eBg7 x.2]) w++tl)) F [] H1) (fun x e l w H1=>e= .exit 0∧l=[]∧B6 (I (List.map (fun(x:(Int×(List A3)))=>[vi x.1,sr eBg7 x.2]) w++tl)) F [] H1) (fun e l H1=>(e= .ret∧l=[]∧B6 D F [] H1)) (by kernel_rfl) ?_ (w':=w3++[]) () hx ?_ ?_ ?_ ?_
 ·rintro s1 _ w4 w5 H o hO h
  skip
  repeat' (cbv;first|apply B7 hE h<;>intro _ h|apply G9 hE|refine D8 hE eBh5 h fun x7 h=>?_)
  ·cbv;obtain⟨w8,h,he⟩:=Z4 h
   rw[he,G1]at hO
   clear he;have hO:B6 (I ([vi s1,sr eBg7 x7]::(List.map (fun(x:(Int×(List A3)))=>[vi x.1,sr eBg7 x.2]) (w8++w5)++tl))) F [] _:=hO;refine DF hE hI hD hy hO .z (fun H hO=>?_) (fun H hO=>?_)
   ·cbv;apply Ms hE (nt_eq _);cbv;obtain⟨hw,rfl⟩:=F9 h
    rw[←hw]at hO
    exact⟨_,(),rfl,.e4 .z,rfl,hO⟩
   clear h;cbv;apply Mr hE (nt_eq _);cbv;exact .inr ⟨_,⟨rfl,rfl,hO⟩,.z,rfl⟩
  ·cbv;obtain⟨hw,rfl⟩:=F9 h
   rw[←hw]at hO
   exact⟨_,(),rfl,.e4 .z,rfl,hO⟩
  cbv;obtain⟨hw,rfl⟩:=F9 h
  rw[←hw]at hO
  exact .inl ⟨_,_,rfl,⟨rfl,rfl,hO⟩,.z,rfl⟩
 ·exact .e4 .z
 ·exact hO
 ·rintro e l H ⟨rfl,rfl,hO⟩;cbv;obtain⟨hw,_⟩:=F9 h
  rw[←hw]at hO
  exact hK _ _ _ hO trivial
 rintro e l H hX;obtain⟨rfl,rfl,hO⟩:=hX;clear h;cbv;exact hKD _ _ _ hO trivial
end Go.Ab
