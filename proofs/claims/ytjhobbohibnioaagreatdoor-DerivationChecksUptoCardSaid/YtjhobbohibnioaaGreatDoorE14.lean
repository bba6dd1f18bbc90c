/- GVCo4 GVCo5 -/
import Derived.Test.YtjhobbohibnioaaGreatDoorE13
set_option linter.all false
open Go.Ab.Ar (ar lst sh wr)
namespace Go.Ab
open Go.RowKit Go.Proofs Go.Proofs.Tryz I8
variable [Ar][I8]
set_option maxRecDepth 100000
theorem c242 (N:Nat):∀n aD r,Y8 N n aD=some r→B6 prog 242 [(W2 aD)] (vi r):=by
 intro n
 induction n with
 |zero=>intro aD r h;cases h
 |succ n ih=>
 intro aD r h
 unfold Y8 at h
 refine J9 cf0 func242 call242 ntmps242 ?_;intro E H0 K hE hK hO;cbv;refine A7 hE h (c284 N aD) (.refl _) fun r1 h=>?_;cbv;refine A8 hE h (fun _ h=>?_) fun _ h=>?_
 ·cbv;cases h;exact hK hO (.refl _)
 cbv;obtain⟨s3,hx,h⟩:=bind_some h;refine F3 cf0 hE K4 (fun s2=>[(1,.v (.eref (Bw aD) 0)),fi 4 s2]) (fun s2 H1=>B9 Eq H0 [] H1) (fun x e l H1=>match(generalizing:=false) x with| .inl y=>e= .exit 0∧l=[]∧B9 Eq H0 [] H1| .inr y=>e= .ret∧l=[fi 2 y]∧B9 Eq H0 [] H1) (by kernel_rfl) ?_ hx ?_ hO ?_
 ·intro s2 H o hO h;clear hx;cbv;refine E1 hE ?_;cbv;refine A8 hE h (fun _ h=>?_) fun _ h=>?_
  ·cbv;refine C7 hE eAi6 h fun x4 h=>?_;cbv;refine A7 hE h (ih x4) (.refl _) fun r5 h=>?_;cbv;refine A8 hE h (fun _ h=>?_) fun _ h=>?_
   ·cbv;cases h;exact⟨_,_,rfl,⟨rfl,rfl,hO⟩,.e rfl .z,rfl⟩
   cbv;cases h;exact⟨_,rfl,.e2 .z,rfl,hO⟩
  cbv;cases h;exact⟨_,_,rfl,⟨rfl,rfl,hO⟩,.z,rfl⟩
 ·exact .e2 .z
 clear hx
 rcases s3 with y6|y7
 ·rintro e l H ⟨rfl,rfl,hO⟩;cbv;cases h;exact hK hO (.refl _)
 rintro e l H ⟨rfl,rfl,hO⟩;cbv;cases h;exact hK hO (.refl _)
theorem c197 (N aD r)(h:BH N aD=some r):B6 prog 197 [(W2 aD)] (vi r):=by
 unfold BH at h
 refine J9 cf0 func197 call197 ntmps197 ?_;intro E H0 K hE hK hO;cbv;refine A7 hE h (c174 N N aD 64) (.refl _) fun r1 h=>?_;cbv;refine A8 hE h (fun _ h=>?_) fun _ h=>?_
 ·cbv;cases h;exact hK hO (.refl _)
 cbv;refine A7 hE h (c175 N N aD) (.refl _) fun r2 h=>?_;cbv;refine A8 hE h (fun _ h=>?_) fun _ h=>?_
 ·cbv;cases h;exact hK hO (.refl _)
 cbv;refine A7 hE h (c242 N N aD) (.refl _) fun r3 h=>?_;cbv;cases h;exact hK hO (.refl _)
def cf198 :Cf:=⟨[],[(6,10)],[],[],[],[]⟩
theorem c198 (N:Nat):∀n aB aC r,P7 N n aB aC=some r→B6 prog 198 [(W2 aB),(W2 aC)] (.bool r):=by
 intro n
 induction n with
 |zero=>intro aB aC r h;cases h
 |succ n ih=>
 intro aB aC r h
 unfold P7 at h
 refine J9 cf198 func198 call198 ntmps198 ?_;intro E H0 K hE hK hO;cbv;refine E1 hE ?_;cbv;refine E1 hE ?_;cbv;refine A8 hE h (fun _ h=>?_) fun _ h=>?_
 ·cbv;cases h;exact hK hO (.refl _)
 cbv;obtain⟨s2,hx,h⟩:=bind_some h;refine F3 cf198 hE K4 (fun s1=>[(2,.v (.eref (Bw aB) 0)),(3,.v (.eref (Bw aC) 0)),fi 5 s1]) (fun s1 H1=>B9 Eq H0 [] H1) (fun x e l H1=>match(generalizing:=false) x with| .inl y=>e= .exit 0∧l=[]∧B9 Eq H0 [] H1| .inr y=>e= .ret∧l=[(4,.b false)]∧B9 Eq H0 [] H1) (by kernel_rfl) ?_ hx ?_ hO ?_
 ·intro s1 H o hO h;clear hx;cbv;refine E1 hE ?_;cbv;refine A8 hE h (fun _ h=>?_) fun _ h=>?_
  ·cbv;refine C7 hE eAi6 h fun x3 h=>?_;cbv;refine C7 hE eAi6 h fun x4 h=>?_;cbv;refine A7 hE h (ih x3 x4) (.refl _) fun r5 h=>?_;cbv;refine A8 hE h (fun _ h=>?_) fun _ h=>?_
   ·cbv;cases h;exact⟨_,_,rfl,⟨rfl,rfl,hO⟩,.b rfl (.z),rfl⟩
   cbv;cases h;exact⟨_,rfl,.e rfl (.e2 .z),rfl,hO⟩
  cbv;cases h;exact⟨_,_,rfl,⟨rfl,rfl,hO⟩,.z,rfl⟩
 ·exact .e rfl (.e2 .z)
 clear hx
 rcases s2 with y6|y7
 ·rintro e l H ⟨rfl,rfl,hO⟩;cbv;cases h;exact hK hO (.refl _)
 rintro e l H ⟨rfl,rfl,hO⟩;cbv;cases h;exact hK hO (.refl _)
def cf152 :Cf:=⟨[],[(5,11),(6,21)],[(51,10)],[],[],[]⟩
theorem c152 (N aA r) (h:V0 N aA=some r):B6 prog 152 [(B7 aA)] (vi r):=by
 unfold V0 at h
 refine J9 cf152 func152 call152 ntmps152 ?_;intro E H0 K hE hK hO;cbv;refine A8 hE h (fun _ h=>?_) fun _ h=>?_
 ·cbv;cases h;exact hK hO (.refl _)
 cbv;refine A7 hE h (c194 N aA) (.refl _) fun r1 h=>?_;cbv;refine A8 hE h (fun _ h=>?_) fun _ h=>?_
 ·cbv;cases h;exact hK hO (.refl _)
 cbv;refine C6 hE (g:=fun r2=>.bool r2) h (c102 N aA) (.refl _) fun r2 h=>?_;cbv;refine C6 hE (g:=fun r3=>.bool r3) h (c103 N aA) (.refl _) fun r3 h=>?_;cbv;refine A8 hE h (fun _ h=>?_) fun _ h=>?_
 ·cbv;refine C6 hE (g:=fun r4=>.bool r4) h (c195 N aA) (.refl _) fun r4 h=>?_;cbv;refine C6 hE (g:=fun r5=>.bool r5) h (c196 N r2 aA.Typ 15) (.refl _) fun r5 h=>?_;cbv;refine A8 hE h (fun _ h=>?_) fun _ h=>?_
  ·cbv;cases h;exact hK hO (.refl _)
  cbv;refine C6 hE (g:=fun r6=>.bool r6) h (c196 N r2 aA.Var 15) (.refl _) fun r6 h=>?_;cbv;refine A8 hE h (fun _ h=>?_) fun _ h=>?_
  ·cbv;cases h;exact hK hO (.refl _)
  cbv;refine C6 hE (g:=fun r7=>.bool r7) h (c196 N true aA.cO 63) (.refl _) fun r7 h=>?_;cbv;refine A8 hE h (fun _ h=>?_) fun _ h=>?_
  ·cbv;cases h;exact hK hO (.refl _)
  cbv;refine C6 hE (g:=fun r8=>.bool r8) h (c104 N aA) (.refl _) fun r8 h=>?_;cbv;refine A7 hE h (c196 N r8 aA.Span 1099511627776) (.refl _) fun r9 h=>?_;cbv;refine A8 hE h (fun _ h=>?_) fun _ h=>?_
  ·cbv;cases h;exact hK hO (.refl _)
  cbv;obtain⟨s10,hx,h⟩:=bind_some h;refine I7 cf152 hE K4 (fun e l H1=>match(generalizing:=false) s10 with| .inl y=>e= .normal∧l=[(1,.v (.eref (D6 aA) 0)),(3,.v (.bool r2)),(4,.b true),(5,.v (.bool r4))]∧B9 Eq H0 [] H1| .inr y=>e= .ret∧l=[fi 2 y]∧B9 Eq H0 [] H1) (by kernel_rfl) ?_ ?_
  ·clear h;have h:=hx;clear hx;cbv;refine A8 hE h (fun _ h=>?_) fun _ h=>?_
   ·cbv;refine A7 hE h (c197 N aA.cL) (.refl _) fun r11 h=>?_;cbv;refine A8 hE h (fun _ h=>?_) fun _ h=>?_
    ·cbv;cases h;exact⟨_,⟨rfl,rfl,hO⟩,.e rfl .z,rfl⟩
    cbv;cases h;exact⟨_,⟨rfl,rfl,hO⟩,.e2 (.b rfl (.e rfl (.z))),rfl⟩
   cbv;cases h;exact⟨_,⟨rfl,rfl,hO⟩,.e2 (.b rfl (.e rfl (.z))),rfl⟩
  clear hx
  rcases s10 with y12|y15
  ·rintro e l H ⟨rfl,rfl,hO⟩;cbv;refine A8 hE h (fun _ h=>?_) fun _ h=>?_
   ·cbv;cases h;exact hK hO (.refl _)
   cbv;refine A7 hE h (c104 N aA) (.refl _) fun r13 h=>?_;cbv;refine A8 hE h (fun _ h=>?_) fun _ h=>?_
   ·cbv;cases h;exact hK hO (.refl _)
   cbv;refine A8 hE h (fun _ h=>?_) fun _ h=>?_
   ·cbv;refine A7 hE h (c198 N N aA.cL (⟨0,[],0,0,0,(⟨0,0,⟨#[]⟩⟩:B3)⟩:B1)) (.cons (.refl _) (.cons (.agg (.cons (.refl _) (.cons (.lit _ (D0)) (.refl _)))) (.refl _))) fun r14 h=>?_;cbv;refine A8 hE h (fun _ h=>?_) fun _ h=>?_
    ·cbv;cases h;exact hK hO (.refl _)
    cbv;cases h;exact hK hO (.refl _)
   cbv;cases h;exact hK hO (.refl _)
  rintro e l H ⟨rfl,rfl,hO⟩;cbv;cases h;exact hK hO (.refl _)
 cbv;refine C6 hE (g:=fun r16=>.bool r16) h (c104 N aA) (.refl _) fun r16 h=>?_;cbv;refine C6 hE (g:=fun r17=>.bool r17) h (c195 N aA) (.refl _) fun r17 h=>?_;cbv;refine C6 hE (g:=fun r18=>.bool r18) h (c196 N r2 aA.Typ 15) (.refl _) fun r18 h=>?_;cbv;refine A8 hE h (fun _ h=>?_) fun _ h=>?_
 ·cbv;cases h;exact hK hO (.refl _)
 cbv;refine C6 hE (g:=fun r19=>.bool r19) h (c196 N r2 aA.Var 15) (.refl _) fun r19 h=>?_;cbv;refine A8 hE h (fun _ h=>?_) fun _ h=>?_
 ·cbv;cases h;exact hK hO (.refl _)
 cbv;refine C6 hE (g:=fun r20=>.bool r20) h (c196 N r16 aA.cO 63) (.refl _) fun r20 h=>?_;cbv;refine A8 hE h (fun _ h=>?_) fun _ h=>?_
 ·cbv;cases h;exact hK hO (.refl _)
 cbv;refine C6 hE (g:=fun r21=>.bool r21) h (c104 N aA) (.refl _) fun r21 h=>?_;cbv;refine A7 hE h (c196 N r21 aA.Span 1099511627776) (.refl _) fun r22 h=>?_;cbv;refine A8 hE h (fun _ h=>?_) fun _ h=>?_
 ·cbv;cases h;exact hK hO (.refl _)
 cbv;obtain⟨s23,hx,h⟩:=bind_some h;refine I7 cf152 hE K4 (fun e l H1=>match(generalizing:=false) s23 with| .inl y=>e= .normal∧l=[(1,.v (.eref (D6 aA) 0)),(3,.v (.bool r2)),(4,.v (.bool r16)),(5,.v (.bool r17))]∧B9 Eq H0 [] H1| .inr y=>e= .ret∧l=[fi 2 y]∧B9 Eq H0 [] H1) (by kernel_rfl) ?_ ?_
 ·clear h;have h:=hx;clear hx;cbv;refine A8 hE h (fun _ h=>?_) fun _ h=>?_
  ·cbv;refine A7 hE h (c197 N aA.cL) (.refl _) fun r24 h=>?_;cbv;refine A8 hE h (fun _ h=>?_) fun _ h=>?_
   ·cbv;cases h;exact⟨_,⟨rfl,rfl,hO⟩,.e rfl .z,rfl⟩
   cbv;cases h;exact⟨_,⟨rfl,rfl,hO⟩,.e4 .z,rfl⟩
  cbv;cases h;exact⟨_,⟨rfl,rfl,hO⟩,.e4 .z,rfl⟩
 clear hx
 rcases s23 with y25|y28
 ·rintro e l H ⟨rfl,rfl,hO⟩;cbv;refine A8 hE h (fun _ h=>?_) fun _ h=>?_
  ·cbv;cases h;exact hK hO (.refl _)
  cbv;refine A7 hE h (c104 N aA) (.refl _) fun r26 h=>?_;cbv;refine A8 hE h (fun _ h=>?_) fun _ h=>?_
  ·cbv;cases h;exact hK hO (.refl _)
  cbv;refine A8 hE h (fun _ h=>?_) fun _ h=>?_
  ·cbv;refine A7 hE h (c198 N N aA.cL (⟨0,[],0,0,0,(⟨0,0,⟨#[]⟩⟩:B3)⟩:B1)) (.cons (.refl _) (.cons (.agg (.cons (.refl _) (.cons (.lit _ (D0)) (.refl _)))) (.refl _))) fun r27 h=>?_;cbv;refine A8 hE h (fun _ h=>?_) fun _ h=>?_
   ·cbv;cases h;exact hK hO (.refl _)
   cbv;cases h;exact hK hO (.refl _)
  cbv;cases h;exact hK hO (.refl _)
 rintro e l H ⟨rfl,rfl,hO⟩;cbv;cases h;exact hK hO (.refl _)
theorem c99 (N aA r) (h:Ae N aA=some r):B6 prog 99 [(B7 aA)] (vi r):=by
 unfold Ae at h
 refine J9 cf0 func99 call99 ntmps99 ?_;intro E H0 K hE hK hO;cbv;refine A7 hE h (c132 N N aA 64) (.refl _) fun r1 h=>?_;cbv;refine A8 hE h (fun _ h=>?_) fun _ h=>?_
 ·cbv;cases h;exact hK hO (.refl _)
 cbv;refine A7 hE h (c133 N N aA) (.refl _) fun r2 h=>?_;cbv;refine A8 hE h (fun _ h=>?_) fun _ h=>?_
 ·cbv;cases h;exact hK hO (.refl _)
 cbv;refine A7 hE h (c100 N N aA) (.refl _) fun r3 h=>?_;cbv;obtain⟨s5,hx,h⟩:=bind_some h;refine F3 cf0 hE K4 (fun s4=>[(3,.v (sr eAh8 r3)),fi 4 s4]) (fun s4 H1=>B9 Eq H0 [] H1) (fun x e l H1=>match(generalizing:=false) x with| .inl y=>e= .exit 0∧l=[]∧B9 Eq H0 [] H1| .inr y=>e= .ret∧l=[fi 2 y]∧B9 Eq H0 [] H1) (by kernel_rfl) ?_ hx ?_ hO ?_
 ·intro s4 H o hO h;clear hx;cbv;refine E1 hE ?_;cbv;refine A8 hE h (fun _ h=>?_) fun _ h=>?_
  ·cbv;refine C7 hE eAh9 h fun x6 h=>?_;cbv;refine A7 hE h (c152 N x6) (.refl _) fun r7 h=>?_;cbv;refine A8 hE h (fun _ h=>?_) fun _ h=>?_
   ·cbv;cases h;exact⟨_,_,rfl,⟨rfl,rfl,hO⟩,.e rfl .z,rfl⟩
   cbv;cases h;exact⟨_,rfl,.e2 .z,rfl,hO⟩
  cbv;cases h;exact⟨_,_,rfl,⟨rfl,rfl,hO⟩,.z,rfl⟩
 ·exact .e2 .z
 clear hx
 rcases s5 with y8|y9
 ·rintro e l H ⟨rfl,rfl,hO⟩;cbv;cases h;exact hK hO (.refl _)
 rintro e l H ⟨rfl,rfl,hO⟩;cbv;cases h;exact hK hO (.refl _)
theorem c101 (N aL r) (h:BW N aL=some r):B6 prog 101 [sr eAh8 aL] (.bool r):=by
 unfold BW at h
 refine J9 cf0 func101 call101 ntmps101 ?_;intro E H0 K hE hK hO;cbv;obtain⟨s2,hx,h⟩:=bind_some h;refine F3 cf0 hE K4 (fun s1=>[(0,.v (sr eAh8 aL)),fi 3 s1]) (fun s1 H1=>B9 Eq H0 [] H1) (fun x e l H1=>match(generalizing:=false) x with| .inl y=>e= .exit 0∧l=[]∧B9 Eq H0 [] H1| .inr y=>e= .ret∧l=[(2,.b false)]∧B9 Eq H0 [] H1) (by kernel_rfl) ?_ hx ?_ hO ?_
 ·intro s1 H o hO h;clear hx;cbv;refine E1 hE ?_;cbv;refine A8 hE h (fun _ h=>?_) fun _ h=>?_
  ·cbv;refine C7 hE eAh9 h fun x3 h=>?_;cbv;refine A8 hE h (fun _ h=>?_) fun _ h=>?_
   ·cbv;cases h;exact⟨_,_,rfl,⟨rfl,rfl,hO⟩,.b rfl (.z),rfl⟩
   cbv;cases h;exact⟨_,rfl,.e2 .z,rfl,hO⟩
  cbv;cases h;exact⟨_,_,rfl,⟨rfl,rfl,hO⟩,.z,rfl⟩
 ·exact .e2 .z
 clear hx
 rcases s2 with y4|y5
 ·rintro e l H ⟨rfl,rfl,hO⟩;cbv;cases h;exact hK hO (.refl _)
 rintro e l H ⟨rfl,rfl,hO⟩;cbv;cases h;exact hK hO (.refl _)
def cf41 :Cf:=⟨[],[],[(28,13)],[],[],[]⟩
theorem c41 (N aA r) (h:Dc N aA=some r):B6 prog 41 [(B7 aA)] (vi r):=by
 unfold Dc at h
 refine J9 cf41 func41 call41 ntmps41 ?_;intro E H0 K hE hK hO;cbv;refine A7 hE h (c99 N aA) (.refl _) fun r1 h=>?_;cbv;refine A8 hE h (fun _ h=>?_) fun _ h=>?_
 ·cbv;cases h;exact hK hO (.refl _)
 cbv;refine A7 hE h (c100 N N aA) (.refl _) fun r2 h=>?_;cbv;refine A7 hE h (c101 N r2) (.refl _) fun r3 h=>?_;cbv;refine A8 hE h (fun _ h=>?_) fun _ h=>?_
 ·cbv;cases h;exact hK hO (.refl _)
 cbv;obtain⟨s5,hx,h⟩:=bind_some h;refine F3 cf41 hE K4 (fun s4=>[(4,.v (sr eAh8 r2)),fi 5 s4.1,fi 6 s4.2.1,fi 7 s4.2.2]) (fun s4 H1=>B9 Eq H0 [] H1) (fun x e l H1=>match(generalizing:=false) x with| .inl y=>e= .exit 0∧l=[]∧B9 Eq H0 [] H1| .inr y=>e= .ret∧l=[fi 2 14]∧B9 Eq H0 [] H1) (by kernel_rfl) ?_ hx ?_ hO ?_
 ·intro s4 H o hO h;clear hx;cbv;refine E1 hE ?_;cbv;refine A8 hE h (fun _ h=>?_) fun _ h=>?_
  ·cbv;refine C7 hE eAh9 h fun x6 h=>?_;cbv;refine A7 hE h (c102 N x6) (.refl _) fun r7 h=>?_;cbv;obtain⟨s8,hx,h⟩:=bind_some h;refine I7 cf41 hE K4 (fun e l H1=>match(generalizing:=false) s8 with| .inl y=>e= .normal∧l=[(4,.v (sr eAh8 r2)),fi 5 y,fi 6 s4.2.1,fi 7 s4.2.2]∧B9 Eq H0 [] H1| .inr y=>e= .ret∧l=[fi 2 14]∧B9 Eq H0 [] H1) (by kernel_rfl) ?_ ?_
   ·clear h;have h:=hx;clear hx;cbv;refine A8 hE h (fun _ h=>?_) fun _ h=>?_
    ·cbv;refine C7 hE eAh9 h fun x9 h=>?_;cbv;refine A8 hE h (fun _ h=>?_) fun _ h=>?_
     ·cbv;cases h;exact⟨_,⟨rfl,rfl,hO⟩,.e rfl .z,rfl⟩
     cbv;cases h;exact⟨_,⟨rfl,rfl,hO⟩,.e4 .z,rfl⟩
    cbv;cases h;exact⟨_,⟨rfl,rfl,hO⟩,.e4 .z,rfl⟩
   clear hx
   rcases s8 with y10|y17
   ·rintro e l H ⟨rfl,rfl,hO⟩;cbv;refine C7 hE eAh9 h fun x11 h=>?_;cbv;refine A7 hE h (c103 N x11) (.refl _) fun r12 h=>?_;cbv;refine A8 hE h (fun _ h=>?_) fun _ h=>?_
    ·cbv;refine C7 hE eAh9 h fun x13 h=>?_;cbv;refine A8 hE h (fun _ h=>?_) fun _ h=>?_
     ·cbv;cases h;exact⟨_,_,rfl,⟨rfl,rfl,hO⟩,.e rfl .z,rfl⟩
     cbv;cases h;exact⟨_,rfl,.e4 .z,rfl,hO⟩
    cbv;refine C7 hE eAh9 h fun x14 h=>?_;cbv;refine A7 hE h (c104 N x14) (.refl _) fun r15 h=>?_;cbv;refine A8 hE h (fun _ h=>?_) fun _ h=>?_
    ·cbv;refine C7 hE eAh9 h fun x16 h=>?_;cbv;refine A8 hE h (fun _ h=>?_) fun _ h=>?_
     ·cbv;cases h;exact⟨_,_,rfl,⟨rfl,rfl,hO⟩,.e rfl .z,rfl⟩
     cbv;cases h;exact⟨_,rfl,.e4 .z,rfl,hO⟩
    cbv;cases h;exact⟨_,rfl,.e4 .z,rfl,hO⟩
   rintro e l H ⟨rfl,rfl,hO⟩;cbv;cases h;exact⟨_,_,rfl,⟨rfl,rfl,hO⟩,.e rfl .z,rfl⟩
  cbv;cases h;exact⟨_,_,rfl,⟨rfl,rfl,hO⟩,.z,rfl⟩
 ·exact .e4 .z
 clear hx
 rcases s5 with y18|y19
 ·rintro e l H ⟨rfl,rfl,hO⟩;cbv;cases h;exact hK hO (.refl _)
 rintro e l H ⟨rfl,rfl,hO⟩;cbv;cases h;exact hK hO (.refl _)
theorem c105 (N aD r)(h:DC N aD=some r):B6 prog 105 [(Bi aD)] (.bool r):=by
 unfold DC at h
 refine J9 cf0 func105 call105 ntmps105 ?_;intro E H0 K hE hK hO;cbv;cases h;exact hK hO (.refl _)
theorem c106 (N aB aC r) (h:As N aB aC=some r):B6 prog 106 [(BR aB),(BR aC)] (vi r):=by
 unfold As at h
 refine J9 cf0 func106 call106 ntmps106 ?_;intro E H0 K hE hK hO;cbv;refine A8 hE h (fun _ h=>?_) fun _ h=>?_
 ·cbv;refine A8 hE h (fun _ h=>?_) fun _ h=>?_
  ·cbv;cases h;exact hK hO (.refl _)
  cbv;cases h;exact hK hO (.refl _)
 cbv;refine A8 hE h (fun _ h=>?_) fun _ h=>?_
 ·cbv;refine A8 hE h (fun _ h=>?_) fun _ h=>?_
  ·cbv;cases h;exact hK hO (.refl _)
  cbv;cases h;exact hK hO (.refl _)
 cbv;refine A8 hE h (fun _ h=>?_) fun _ h=>?_
 ·cbv;cases h;exact hK hO (.refl _)
 cbv;refine A8 hE h (fun _ h=>?_) fun _ h=>?_
 ·cbv;cases h;exact hK hO (.refl _)
 cbv;cases h;exact hK hO (.refl _)
theorem c126 (N aM bG r)(h:Z9 N aM bG=some r):B6 prog 126 [vi aM,vi bG] (.bool r):=by
 unfold Z9 at h
 refine J9 cf0 func126 call126 ntmps126 ?_;intro E H0 K hE hK hO;cbv;cases h;exact hK hO (.refl _)
def cf59 :Cf:=⟨[4],[(10,12)],[],[],[],[]⟩
theorem c59 (N aK r) (h:BL N aK=some r):B6 prog 59 [(Dy aK)] (vi r):=by
 unfold BL at h
 refine J9 cf59 func59 call59 ntmps59 ?_;intro E H0 K hE hK hO;cbv;refine E1 hE ?_;cbv;refine A8 hE h (fun _ h=>?_) fun _ h=>?_
 ·cbv;cases h;exact hK hO (.refl _)
 cbv;refine E1 hE ?_;cbv;refine A8 hE h (fun _ h=>?_) fun _ h=>?_
 ·cbv;cases h;exact hK hO (.refl _)
 cbv;refine E1 hE ?_;cbv;obtain⟨s2,hx,h⟩:=bind_some h;refine F3 cf59 hE K4 (fun s1=>[(1,.v (.eref (FP aK) 0)),(16,.v (sr eAh3 aK.cP)),fi 17 (Ar.len aK.cP),fi 18 s1]) (fun s1 H1=>B9 Eq H0 [] H1) (fun x e l H1=>match(generalizing:=false) x with| .inl y=>e= .exit 1∧l=[]∧B9 Eq H0 [] H1| .inr y=>e= .ret∧l=[fi 2 y]∧B9 Eq H0 [] H1) (by kernel_rfl) ?_ hx ?_ hO ?_
 ·intro s1 H o hO h;clear hx;cbv;refine A8 hE h (fun _ h=>?_) fun _ h=>?_
  ·cbv;refine C7 hE eAh7 h fun x3 h=>?_;cbv;refine D2 hE hO fun b4 H hO=>?_;cbv;refine B2 hE hO 0 rfl rfl fun H hO=>?_;cbv;refine B0 hE hO 0 rfl ?_;cbv;refine A7 hE h (c126 N x3.Var 15) (.refl _) fun r5 h=>?_;cbv;refine B0 hE hO 0 rfl ?_;cbv;refine A8 hE h (fun _ h=>?_) fun _ h=>?_
   ·cbv;cases h;exact⟨_,_,rfl,⟨rfl,rfl,hO.tail⟩,.e rfl .z,rfl⟩
   cbv;refine A7 hE h (c126 N x3.Ref.Time 1099511627776) (.refl _) fun r6 h=>?_;cbv;refine B0 hE hO 0 rfl ?_;cbv;refine A8 hE h (fun _ h=>?_) fun _ h=>?_
   ·cbv;cases h;exact⟨_,_,rfl,⟨rfl,rfl,hO.tail⟩,.e rfl .z,rfl⟩
   cbv;refine A7 hE h (c126 N x3.Ref.Source 7) (.refl _) fun r7 h=>?_;cbv;refine B0 hE hO 0 rfl ?_;cbv;refine A8 hE h (fun _ h=>?_) fun _ h=>?_
   ·cbv;cases h;exact⟨_,_,rfl,⟨rfl,rfl,hO.tail⟩,.e rfl .z,rfl⟩
   cbv;refine A7 hE h (c126 N x3.Ref.Seq 1099511627776) (.refl _) fun r8 h=>?_;cbv;refine A8 hE h (fun _ h=>?_) fun _ h=>?_
   ·cbv;cases h;exact⟨_,_,rfl,⟨rfl,rfl,hO.tail⟩,.e rfl .z,rfl⟩
   cbv;refine A8 hE h (fun _ h=>?_) fun _ h=>?_
   ·cbv;refine C7 hE eAh7 h fun x9 h=>?_;cbv;refine B0 hE hO 0 rfl ?_;cbv;refine A7 hE h (c69 N x9.Ref x3.Ref) (.refl _) fun r10 h=>?_;cbv;refine A8 hE h (fun _ h=>?_) fun _ h=>?_
    ·cbv;cases h;exact⟨_,_,rfl,⟨rfl,rfl,hO.tail⟩,.e rfl .z,rfl⟩
    cbv;cases h;exact⟨_,rfl,.e4 .z,rfl,hO.tail⟩
   cbv;cases h;exact⟨_,rfl,.e4 .z,rfl,hO.tail⟩
  cbv;cases h;exact⟨_,_,rfl,⟨rfl,rfl,hO⟩,.z,rfl⟩
 ·exact .e4 .z
 clear hx
 rcases s2 with y11|y12
 ·rintro e l H ⟨rfl,rfl,hO⟩;cbv;cases h;exact hK hO (.refl _)
 rintro e l H ⟨rfl,rfl,hO⟩;cbv;cases h;exact hK hO (.refl _)
def cf127 :Cf:=⟨[],[(5,6),(8,15)],[],[],[],[]⟩
theorem c127 (N:Nat) (aF:List B8) (bQ:R0) (aQ:V) (aO:B8→R0→Option Int) (aX:∀y1 y2 q,aO y1 y2=some q→S0 prog aQ [(Bi y1),(BR y2)] (vi q)) (r:(Int×Bool)) (h:J7 N aF bQ aO=some r):B6 prog 127 [sr eAh5 aF,(BR bQ),aQ] (.tup [vi r.1,.bool r.2]):=by
 unfold J7 at h
 refine J9 cf127 func127 call127 ntmps127 ?_;intro E H0 K hE hK hO;cbv;refine E1 hE ?_;cbv;obtain⟨s2,hx,h⟩:=bind_some h;refine F3 cf127 hE K4 (fun s1=>[(0,.v (sr eAh5 aF)),(2,.v (aQ)),(4,.v (.eref (WX bQ) 0)),fi 8 (Ar.len aF),fi 9 s1.1,fi 10 s1.2]) (fun s1 H1=>B9 Eq H0 [] H1) (fun x e l H1=>e= .exit 0∧l=[(0,.v (sr eAh5 aF)),(2,.v (aQ)),(4,.v (.eref (WX bQ) 0)),fi 8 (Ar.len aF),fi 9 x]∧B9 Eq H0 [] H1) (by kernel_rfl) ?_ hx ?_ hO ?_
 ·intro s1 H o hO h;clear hx;cbv;refine A8 hE h (fun _ h=>?_) fun _ h=>?_
  ·cbv;refine CT hE (Bg hE rfl) ?_;cbv;refine C7 hE eAi4 h fun x3 h=>?_;cbv;refine V7 hE (g:=fun r4=>vi r4) h (fun r4 hx=>aX x3 bQ r4 hx) (.refl _) fun r4 h=>?_;cbv;refine A8 hE h (fun _ h=>?_) fun _ h=>?_
   ·cbv;cases h;exact⟨_,rfl,.e2 (.e4 .z),rfl,hO⟩
   cbv;cases h;exact⟨_,rfl,.e2 (.e4 .z),rfl,hO⟩
  cbv;cases h;exact⟨_,_,rfl,⟨rfl,rfl,hO⟩,.e rfl (.e4 .z),rfl⟩
 ·exact .e2 (.e4 .z)
 clear hx;rintro e l H ⟨rfl,rfl,hO⟩;cbv;refine A8 hE h (fun _ h=>?_) fun _ h=>?_
 ·cbv;refine C7 hE eAi4 h fun x5 h=>?_;cbv;refine Wf hE (g:=fun r6=>vi r6) h (fun r6 hx=>aX x5 bQ r6 hx) (.refl _) fun r6 h=>?_;cbv;cases h;exact hK hO (.refl _)
 cbv;cases h;exact hK hO (.refl _)
def cf128 :Cf:=⟨[],[(1,14)],[],[],[],[]⟩
theorem c128 (N aD aZ r)(h:Y0 N aD aZ=some r):B6 prog 128 [(Bi aD),(BR aZ)] (vi r):=by
 unfold Y0 at h
 refine J9 cf128 func128 call128 ntmps128 ?_;intro E H0 K hE hK hO;cbv;refine C6 hE (g:=fun r1=>vi r1) h (c70 N aD.Time aZ.Time) (.refl _) fun r1 h=>?_;cbv;refine C6 hE (g:=fun r2=>vi r2) h (c70 N aD.Source aZ.Source) (.refl _) fun r2 h=>?_;cbv;refine A7 hE h (c70 N aD.Seq aZ.Seq) (.refl _) fun r3 h=>?_;cbv;refine A7 hE h (c68 N ([r1,r2,r3])) (.cons (.lit _ (E2 (rfl) (E2 (rfl) (E2 (rfl) (D0))))) (.refl _)) fun r4 h=>?_;cbv;cases h;exact hK hO (.refl _)
theorem c60 (N aL aZ r)(h:CW N aL aZ=some r):B6 prog 60 [sr eAh5 aL,(BR aZ)] (.tup [vi r.1,.bool r.2.1,vi r.2.2]):=by
 unfold CW at h
 refine J9 cf0 func60 call60 ntmps60 ?_;intro E H0 K hE hK hO;cbv;refine A7 hE h (c56 N aL) (.refl _) fun r1 h=>?_;cbv;refine A8 hE h (fun _ h=>?_) fun _ h=>?_
 ·cbv;cases h;exact hK hO (.refl _)
 cbv;refine A7 hE (g:=fun r2=>.tup [vi r2.1,.bool r2.2]) h (fun r2 hx=>c127 N aL aZ (.func (.func 128) [] []) (fun y1 y2=>Y0 N y1 y2) (fun y1 y2 r hx=>B6.value (F:=[]) (C:=[]) (c128 N y1 y2 r hx)) r2 hx) (.refl _) fun r2 h=>?_;cbv;cases h;exact hK hO (.refl _)
theorem c297 (N aH r)(h:CX N aH=some r):Xp prog 297 aH r:=SB Go.Proofs.Tryz.laysNm189 call297 h
theorem c298 (N aH r)(h:BC N aH=some r):SG prog 298 [] 1 (lst (V.int .i64) aH) (lst (V.int .i64) r):=Mn Go.Proofs.Tryz.laysNm220 call298 h
def cf264 :Cf:=⟨[3,5000003],[],[],[],[],[]⟩
theorem c264 (N aA r) (h:EO N aA=some r):B6 prog 264 [(B7 aA)] (sr (V.int .i64) r):=by
 unfold EO at h
 refine Cn (T:=TT) cf264 K4 func264 (by rfl) (by kernel_rfl) call264 ntmps264 (by rfl) (by rfl) ?_;intro E H0 K hE hK hF;have hO:B9 Eq H0 [] H0:=.start G3 rfl;cbv;refine Qb hE (f0:=(V.int .i64)) hO fun q2 b1 H hq2 hO=>?_;cbv;refine Ho hE h (c157 N aA) (.refl _) fun r3 v4 hv4 h=>?_;cbv;obtain⟨o10,hx,h⟩:=bind_some h;refine IR cf264 hE K4 (ι:=Unit) (enc:=fun(x:A0)=>[(B7 x)]) (fun(s6:(List Int)) F H=>∃g:OG,(T4 g (Ar.len s6))∧B9 Eq F [cb b1 [.own g.id g.lo g.n],ob g 1 (V.int .i64) s6] H) (fun(r:Unit) e F H=>False) (fun i s6 y5=>[(3,.v (.ref b1 0)),(4,.v (.eref (D6 y5) 0))]) (fun i s6 y5 F H=>∃g:OG,(T4 g (Ar.len s6))∧B9 Eq F [cb b1 [.own g.id g.lo g.n],ob g 1 (V.int .i64) s6] H) (fun _=>D7.ex fun _=>B9.stable G3 _) (fun _ _=>⟨fun h=>h.elim,fun _ _ h=>h.elim⟩) (fun _ _ _=>D7.ex fun _=>B9.stable G3 _) hv4 hx (⟨q2,hq2,hO⟩) (by decide) (fun _=>rfl) (by kernel_rfl) (by kernel_rfl) ?_ ?_ ?_ ?_
 ·rintro E i8 y5 s6 F7 H hE ⟨q9,hq9,hO⟩;clear hx h;cbv;exact⟨(),⟨q9,hq9,hO⟩,.e2 .z,rfl⟩
 ·rintro E i8 _ y5 s6 F7 H o hE hF h ⟨q9,hq9,hO⟩;clear hx;cbv;refine A8 hE h (fun _ h=>?_) fun _ h=>?_
  ·cbv;refine B0 hE hO 0 rfl ?_;cbv;refine Om (f:=(V.int .i64)) hE (fun _=>rfl) (by decide) hO hq9 1 rfl (m:=[y5.Var]) (Jz (f:=(V.int .i64)) hE (fun _=>rfl) (.lstc (.refl _) (.lst0))) h fun l12 q11 H hq11 hO h=>?_;cbv;refine B2 hE hO 0 rfl rfl fun H hO=>?_;cbv;cases h;exact⟨_,rfl,⟨q11,hq11,hO⟩⟩
  cbv;cases h;exact⟨_,rfl,⟨q9,hq9,hO⟩⟩
 ·rintro d13 s16 H rfl hd ⟨q17,hq17,hO⟩;have hO:B9 Eq H0 [cb b1 [.own q17.id q17.lo q17.n],ob q17 1 (V.int .i64) s16,.blk d13 DB] H:=B9.dblk hd hO;clear hd;clear hx;cbv;refine B0 hE hO 0 rfl ?_;cbv;refine Yi hE hO hq17 1 rfl h (c297 N s16) fun l18 H hq17 hO h=>?_;cbv;refine B0 hE hO 0 rfl ?_;cbv;refine Wm hE (f:=(V.int .i64)) hO hq17 1 rfl h (c298 N l18) (.refl _) fun l19 q20 H hq20 hO h=>?_;cbv;refine IS hE hO 2 rfl fun H hO=>?_;cbv;cases h;exact hF q20 _ _ 1 _ _ hO rfl (CS hE hq20) (.refl _)
 rintro d r e H rfl hd hO;exact hO.elim
theorem c299 (N aH aJ r) (h:Ah N aH aJ=some r):B6 prog 299 [sr (V.int .i64) aH,vi aJ] (vi r):=by
 unfold Ah at h
 refine J9 cf0 func299 call299 ntmps299 ?_;intro E H0 K hE hK hO;cbv;refine E1 hE ?_;cbv;obtain⟨s2,hx,h⟩:=bind_some h;refine F3 cf0 hE K4 (fun s1=>[(0,.v (sr (V.int .i64) aH)),fi 1 aJ,fi 7 (Ar.len aH),fi 8 s1]) (fun s1 H1=>B9 Eq H0 [] H1) (fun x e l H1=>match(generalizing:=false) x with| .inl y=>e= .exit 0∧l=[]∧B9 Eq H0 [] H1| .inr y=>e= .ret∧l=[fi 4 y]∧B9 Eq H0 [] H1) (by kernel_rfl) ?_ hx ?_ hO ?_
 ·intro s1 H o hO h;clear hx;cbv;refine A8 hE h (fun _ h=>?_) fun _ h=>?_
  ·cbv;refine C7 hE (fun _=>rfl) h fun x3 h=>?_;cbv;refine A8 hE h (fun _ h=>?_) fun _ h=>?_
   ·cbv;cases h;exact⟨_,_,rfl,⟨rfl,rfl,hO⟩,.e rfl .z,rfl⟩
   cbv;cases h;exact⟨_,rfl,.e4 .z,rfl,hO⟩
  cbv;cases h;exact⟨_,_,rfl,⟨rfl,rfl,hO⟩,.z,rfl⟩
 ·exact .e4 .z
 clear hx
 rcases s2 with y4|y5
 ·rintro e l H ⟨rfl,rfl,hO⟩;cbv;cases h;exact hK hO (.refl _)
 rintro e l H ⟨rfl,rfl,hO⟩;cbv;cases h;exact hK hO (.refl _)
theorem c265 (N aH aJ r)(h:X0 N aH aJ=some r):B6 prog 265 [sr (V.int .i64) aH,vi aJ] (.bool r):=by
 unfold X0 at h
 refine J9 cf0 func265 call265 ntmps265 ?_;intro E H0 K hE hK hO;cbv;refine A7 hE h (c299 N aH aJ) (.refl _) fun r1 h=>?_;cbv;cases h;exact hK hO (.refl _)
theorem c224 (N aA aH r) (h:Cl N aA aH=some r):B6 prog 224 [(B7 aA),sr eAh2 aH] (sr eAh2 r):=by
 unfold Cl at h
 refine J9 cf0 func224 call224 ntmps224 ?_;intro E H0 K hE hK hO;cbv;refine A7 hE h (c264 N aA) (.refl _) fun r1 h=>?_;cbv;refine E1 hE ?_;cbv;replace hO:=hO.tl0 (t:=.nil) rfl;obtain⟨s4,hx,h⟩:=bind_some h;refine M9 cf0 hE K4 (γ:=E8) (fun s2 g=>[(5,.v (sr (V.int .i64) r1)),(6,.v (.sl (lst eAh2 s2.1) g)),(11,.v (sr eAh2 aH)),fi 12 (Ar.len aH),fi 13 s2.2]) (fun s2 g H1=>Bz g∧B9 Eq H0 [.tl g] H1) (fun x e l H1=>∃u1:E8,Bz u1∧e= .exit 0∧l=[(6,.v (.sl (lst eAh2 x) u1))]∧B9 Eq H0 [.tl u1] H1) (by kernel_rfl) ?_ .nil hx ?_ ?_ ?_
 ·rintro s2 t3 H o ⟨ht3,hO⟩ h;clear hx;cbv;refine A8 hE h (fun _ h=>?_) fun _ h=>?_
  ·cbv;refine C7 hE eAi2 h fun x5 h=>?_;cbv;refine A7 hE h (c265 N r1 x5.v) (.refl _) fun r6 h=>?_;cbv;refine A8 hE h (fun _ h=>?_) fun _ h=>?_
   ·cbv;refine Aw (f:=eAh2) hE O9 (by decide) hO 0 rfl ht3 (l:=s2.1) (m:=[x5]) (.refl _) (.lstc (.eq (eAi2 x5) (.refl _)) (.lst0)) h fun l8 t7 H hO ht7 h=>?_;cbv;cases h;exact⟨_,t7,rfl,.e rfl (.e4 .z),rfl,ht7,hO⟩
   cbv;cases h;exact⟨_,t3,rfl,.e rfl (.e4 .z),rfl,ht3,hO⟩
  cbv;cases h;exact⟨_,_,rfl,⟨t3,ht3,rfl,rfl,hO⟩,.e rfl .z,rfl⟩
 ·exact .e rfl (.v (.slt _ (.lst0)) (.e rfl (.e rfl (.e rfl (.z)))))
 ·exact⟨trivial,hO⟩
 clear hx;rintro e l H ⟨t9,ht9,rfl,rfl,hO⟩;cbv;cases h;exact hK hO (.ro _ _)
def cf61 :Cf:=⟨[10],[(1,17),(2,11),(6,6)],[],[],[],[]⟩
def K61 (N n:Nat):Prop:=∀(aF:F6) (aS:List (B5×A6)) (aA:A0) (aR:Int) (aH:List A3) (aI:List A3) (r:(A6×List (B5×A6))),G0 N n aF aS aA aR aH aI=some r→Hb prog 61 (fun id=>[.eref [sr eAh5 aF.prover.cQ,vi aF.prover.count,.map id] 0,(B7 aA),vi aR,sr eAh2 aH,sr eAh2 aI]) eAi3 eAi5 aS ((E7 r.1)) r.2
def cf129 :Cf:=⟨[10,10000010],[(3,22),(4,14),(14,10)],[(81,12)],[0],[],[]⟩
def Ac7 (N n:Nat):Prop:=∀(aF:F6) (aS:List (B5×A6)) (aA:A0) (aR:Int) (aH:List A3) (aI:List A3) (r:(A6×List (B5×A6))),S4 N n aF aS aA aR aH aI=some r→Hb prog 129 (fun id=>[.eref [sr eAh5 aF.prover.cQ,vi aF.prover.count,.map id] 0,(B7 aA),vi aR,sr eAh2 aH,sr eAh2 aI]) eAi3 eAi5 aS ((E7 r.1)) r.2
def cf169 :Cf:=⟨[],[(15,7),(3000012,0),(3000012,1),(3000012,2),(3000012,4),(3000012,5),(3000012,6),(3000012,7),(3000012,8),(3000012,9),(3000012,11),(3000012,12),(3000012,13),(3000014,0),(3000014,1),(3000014,2),(3000014,3),(3000014,4),(3000014,5),(3000014,7),(3000014,8),(3000014,10)],[],[2000012,2000014],[],[]⟩
def Ac6 (N n:Nat):Prop:=∀(aF:F6) (aS:List (B5×A6)) (aA:A0) (aR:Int) (aH:List A3) (aI:List A3) (r:(((List A2)×Bool)×List (B5×A6))),M0 N n aF aS aA aR aH aI=some r→Hb prog 169 (fun id=>[.eref [sr eAh5 aF.prover.cQ,vi aF.prover.count,.map id] 0,(B7 aA),vi aR,sr eAh2 aH,sr eAh2 aI]) eAi3 eAi5 aS (.tup [sr eAh4 r.1.1,.bool r.1.2]) r.2
def cf170 :Cf:=⟨[10,12,10000010],[],[],[],[],[]⟩
def Ac5 (N n:Nat):Prop:=∀(aF:F6) (aS:List (B5×A6)) (aA:A0) (aR:Int) (aH:List A3) (aI:List A3) (r:(A6×List (B5×A6))),W3 N n aF aS aA aR aH aI=some r→Hb prog 170 (fun id=>[.eref [sr eAh5 aF.prover.cQ,vi aF.prover.count,.map id] 0,(B7 aA),vi aR,sr eAh2 aH,sr eAh2 aI]) eAi3 eAi5 aS ((E7 r.1)) r.2
def cf171 :Cf:=⟨[10],[],[(61,15)],[],[],[]⟩
def Ac4 (N n:Nat):Prop:=∀(aF:F6) (aS:List (B5×A6)) (aA:A0) (aR:Int) (aH:List A3) (aI:List A3) (r:(A6×List (B5×A6))),Q8 N n aF aS aA aR aH aI=some r→Hb prog 171 (fun id=>[.eref [sr eAh5 aF.prover.cQ,vi aF.prover.count,.map id] 0,(B7 aA),vi aR,sr eAh2 aH,sr eAh2 aI]) eAi3 eAi5 aS ((E7 r.1)) r.2
theorem k61 (N n:Nat)(ih129:Ac7 N n):K61 N (n+1):=by
 intro aF aS aA aR aH aI r h
 unfold G0 at h
 refine Ee (T:=TT) cf61 K4 func61 (by rfl) (by kernel_rfl) call61 ntmps61 (by rfl) (fun _=>rfl) ?_;intro E H0 id0 o0 K hE ho0 hO hK;cbv;refine D2 hE hO fun b1 H hO=>?_;cbv;refine C7 hE eAi2 h fun x2 h=>?_;cbv;refine E1 hE ?_;cbv;refine C7 hE eAi2 h fun x3 h=>?_;cbv;refine E1 hE ?_;cbv;refine RP (eAj9 (⟨aR,x2.at_,x3.at_,Ar.len aI⟩:B5)) ?_;refine Ye hE (z:=.agg [vi 0,vi 0,vi 0,vi 0,.sl [] .nil,.bool false]) eAj8 (kt:=178) (et:=115) (by kernel_rfl) (by kernel_rfl) Zv ((⟨(⟨(⟨0,0,0⟩:R0),0,[]⟩:A2),false⟩:A6):A6) (by kernel_rfl) (by rw[eAj8];exact .agg (.cons (.refl _) (.cons (.refl _) (.cons (.refl _) (.cons (.refl _) (.cons (.lit _ (D0)) (.refl _))))))) hO ho0 1 rfl h fun r4 h=>?_;cbv;refine A8 hE h (fun _ h=>?_) fun _ h=>?_
 ·cbv;refine B2 hE hO 0 rfl rfl fun H hO=>?_;cbv;refine B0 hE hO 0 rfl ?_;cbv;cases h;exact hK _ _ _ 1 _ ho0 rfl hO (.refl _)
 cbv;refine BZ (g:=fun r5=>(E7 r5)) hE hO ho0 1 rfl h (ih129 aF aS aA aR aH aI) (.refl _) fun r5 o6 H ho6 hO h=>?_;cbv;refine On (eAj9 (⟨aR,x2.at_,x3.at_,Ar.len aI⟩:B5)) ?_;refine ZV hE (eAj8 _).symm (kt:=178) (et:=115) (by kernel_rfl) (by kernel_rfl) Zv hO ho6 1 rfl h fun l8 o7 H ho7 h hO=>?_;cbv;refine B2 hE hO 0 rfl rfl fun H hO=>?_;cbv;refine B0 hE hO 0 rfl ?_;cbv;cases h;exact hK _ _ _ 1 _ ho7 rfl hO (.refl _)
theorem k129 (N n:Nat) (ih61:K61 N n) (ih169:Ac6 N n) (ih170:Ac5 N n) (ih171:Ac4 N n):Ac7 N (n+1):=by
 intro aF aS aA aR aH aI r h
 unfold S4 at h
 refine Ee (T:=TT) cf129 K4 func129 (by rfl) (by kernel_rfl) call129 ntmps129 (by rfl) (fun _=>rfl) ?_;intro E H0 id0 o0 K hE ho0 hO hK;cbv;refine D2 hE hO fun b1 H hO=>?_;cbv;refine Zu hE (ds:=[vi 0,vi 0,vi 0,vi 0,sr eAh4 ([]),.bool false]) hO 0 rfl (.cons (.refl _) (.cons (.refl _) (.cons (.refl _) (.cons (.refl _) (.cons (.lit _ (D0)) (.refl _)))))) fun H hO=>?_;cbv;obtain⟨s2,hx,h⟩:=bind_some h;refine I7 cf129 hE K4 (fun e l H1=>match(generalizing:=false) s2 with| .inl y=>e= .normal∧l=[(0,.v (.eref [sr eAh5 aF.prover.cQ,vi aF.prover.count,.map id0] 0)),fi 2 aR,(3,.v (sr eAh2 aH)),(4,.v (sr eAh2 aI)),(6,.v (.eref (D6 aA) 0)),(10,.v (.ref b1 0))]∧B9 Eq (upd H0 id0 none) [cb b1 [vi 0,vi 0,vi 0,vi 0,sr eAh4 ([]),.bool false],.blk id0 (.vm o0.1 o0.2)] H1| .inr y=>∃u1:(List Value×List V),Kt eAi3 eAi5 u1 y.2∧e= .ret∧l=[(10,.v (.ref b1 0))]∧B9 Eq (upd H0 id0 none) [cb b1 (L6 y.1),.blk id0 (.vm u1.1 u1.2)] H1) (by kernel_rfl) ?_ ?_
 ·clear h;have h:=hx;clear hx;cbv;refine A8 hE h (fun _ h=>?_) fun _ h=>?_
  ·cbv;refine E1 hE ?_;cbv;refine A8 hE h (fun _ h=>?_) fun _ h=>?_
   ·cbv;refine C7 hE eAi2 h fun x3 h=>?_;cbv;refine A8 hE h (fun _ h=>?_) fun _ h=>?_
    ·cbv;refine C7 hE eAi2 h fun x4 h=>?_;cbv;refine A7 hE h (c139 N aF.prover aA aI x4.at_) (.cons (.sub (d:=0) (sz:=2) (Nat.le_of_ble_eq_true rfl)) (.refl _)) fun r5 h=>?_;cbv;refine C7 hE eAi2 h fun x6 h=>?_;cbv;refine C7 hE eAi4 h fun x7 h=>?_;cbv;refine C6 hE (g:=fun r8=>(BR r8)) h (c116 N x7) (.refl _) fun r8 h=>?_;cbv;refine GG hE (vs':=[vi r8.Time,vi r8.Source,vi r8.Seq,vi 0,sr eAh4 ([]),.bool r5]) hO 0 rfl rfl (.cons (.refl _) (.cons (.refl _) (.cons (.refl _) (.cons (.refl _) (.cons (.lit _ (D0)) (.refl _)))))) fun H hO=>?_;cbv;cases h;exact⟨_,⟨o0,ho0,rfl,rfl,hO⟩,.e rfl .z,rfl⟩
    cbv;refine C7 hE eAi2 h fun x9 h=>?_;cbv;refine C7 hE eAi4 h fun x10 h=>?_;cbv;refine C6 hE (g:=fun r11=>(BR r11)) h (c116 N x10) (.refl _) fun r11 h=>?_;cbv;refine GG hE (vs':=[vi r11.Time,vi r11.Source,vi r11.Seq,vi 0,sr eAh4 ([]),.bool false]) hO 0 rfl rfl (.cons (.refl _) (.cons (.refl _) (.cons (.refl _) (.cons (.refl _) (.cons (.lit _ (D0)) (.refl _)))))) fun H hO=>?_;cbv;cases h;exact⟨_,⟨o0,ho0,rfl,rfl,hO⟩,.e rfl .z,rfl⟩
   cbv;refine C7 hE eAi2 h fun x12 h=>?_;cbv;refine C7 hE eAi4 h fun x13 h=>?_;cbv;refine C6 hE (g:=fun r14=>(BR r14)) h (c116 N x13) (.refl _) fun r14 h=>?_;cbv;refine GG hE (vs':=[vi r14.Time,vi r14.Source,vi r14.Seq,vi 0,sr eAh4 ([]),.bool false]) hO 0 rfl rfl (.cons (.refl _) (.cons (.refl _) (.cons (.refl _) (.cons (.refl _) (.cons (.lit _ (D0)) (.refl _)))))) fun H hO=>?_;cbv;cases h;exact⟨_,⟨o0,ho0,rfl,rfl,hO⟩,.e rfl .z,rfl⟩
  cbv;refine A8 hE h (fun _ h=>?_) fun _ h=>?_
  ·cbv;refine BZ (g:=fun r15=>.tup [sr eAh4 r15.1,.bool r15.2]) hE hO ho0 1 rfl h (ih169 aF aS aA aR aH aI) (.refl _) fun r15 o16 H ho16 hO h=>?_;cbv;refine B2 hE hO 0 rfl rfl fun H hO=>?_;cbv;cases h;exact⟨_,⟨o16,ho16,rfl,rfl,hO⟩,.e rfl .z,rfl⟩
  cbv;refine A8 hE h (fun _ h=>?_) fun _ h=>?_
  ·cbv;cases h
  cbv;obtain⟨s17,hx,h⟩:=bind_some h;refine I7 cf129 hE K4 (fun e l H1=>e= .normal∧l=[(0,.v (.eref [sr eAh5 aF.prover.cQ,vi aF.prover.count,.map id0] 0)),fi 2 aR,(3,.v (sr eAh2 aH)),(4,.v (sr eAh2 aI)),(6,.v (.eref (D6 aA) 0)),(10,.v (.ref b1 0)),(81,.v (.bool s17))]∧B9 Eq (upd H0 id0 none) [cb b1 [vi 0,vi 0,vi 0,vi 0,sr eAh4 ([]),.bool false],.blk id0 (.vm o0.1 o0.2)] H1) (by kernel_rfl) ?_ ?_
  ·clear h;have h:=hx;clear hx;cbv;refine A8 hE h (fun _ h=>?_) fun _ h=>?_
   ·cbv;cases h;exact⟨_,⟨rfl,rfl,hO⟩,.e rfl (.e2 (.e4 .z)),rfl⟩
   cbv;cases h;exact⟨_,⟨rfl,rfl,hO⟩,.e rfl (.e2 (.e4 .z)),rfl⟩
  clear hx;rintro e l H ⟨rfl,rfl,hO⟩;cbv;refine A8 hE h (fun _ h=>?_) fun _ h=>?_
  ·cbv;refine BZ (g:=fun r18=>(E7 r18)) hE hO ho0 1 rfl h (ih171 aF aS aA aR aH aI) (.refl _) fun r18 o19 H ho19 hO h=>?_;cbv;refine B2 hE hO 0 rfl rfl fun H hO=>?_;cbv;cases h;exact⟨_,⟨o19,ho19,rfl,rfl,hO⟩,.e rfl .z,rfl⟩
  cbv;cases h;exact⟨_,⟨rfl,rfl,hO⟩,.e2 (.e4 .z),rfl⟩
 clear hx
 rcases s2 with y20|y21
 ·rintro e l H ⟨rfl,rfl,hO⟩;cbv;cases h
 rintro e l H ⟨q22,hq22,rfl,rfl,hO⟩;cbv;refine B0 hE hO 0 rfl ?_;cbv;cases h;exact hK _ _ _ 1 _ hq22 rfl hO (.refl _)
set_option maxHeartbeats 2000000 in
theorem k169 (N n:Nat) (ih61:K61 N n):Ac6 N (n+1):=by
 intro aF aS aA aR aH aI r h
 unfold M0 at h
 refine Ee (T:=TT) cf169 K4 func169 (by rfl) (by kernel_rfl) call169 ntmps169 (by rfl) (fun _=>rfl) ?_;intro E H0 id0 o0 K hE ho0 hO hK;cbv;refine E1 hE ?_;cbv;refine Td hE (f:=eAi8) (by decide) (z0:=([]:List A2)) ((.eq (eAj3 _) (.lit _ (D0)))) hO h fun l2 q1 H hq1 h hO=>?_;cbv;refine Td hE (f:=V.bool) (by decide) (z0:=(false:Bool)) ((.refl _)) hO h fun l4 q3 H hq3 h hO=>?_;cbv;refine J8 hE hO hq3 0 rfl h fun h=>?_;cbv;refine Y3 hE (f:=V.bool) (esz:=1) (tz:=1) (off:=0) (u:=(fun x5:Bool=>true)) (fun _=>⟨.bool true,.refl _,rfl,rfl,rfl⟩) (by decide) hO hq3 0 rfl h fun l6 H hq3 h hO=>?_;cbv;obtain⟨s11,hx,h⟩:=bind_some h;refine M9 cf169 hE K4 (γ:=OG×OG×(List Value×List V)) (fun s7 g=>[(0,.v (.eref [sr eAh5 aF.prover.cQ,vi aF.prover.count,.map id0] 0)),fi 2 aR,(3,.v (sr eAh2 aH)),(4,.v (sr eAh2 aI)),(6,.v (.eref (D6 aA) 0)),fi 12 (Ar.len aH),(13,.v (.own g.2.1.id g.2.1.lo g.2.1.n)),(14,.v (.own g.1.id g.1.lo g.1.n)),fi 15 s7.1]) (fun s7 g H1=>T4 g.1 (Ar.len s7.2.1)∧T4 g.2.1 (Ar.len s7.2.2.1)∧Kt eAi3 eAi5 g.2.2 s7.2.2.2∧B9 Eq (upd H0 id0 none) [.blk g.1.id (.arr 1 (g.1.pre++lst V.bool s7.2.1++g.1.rest)),.blk g.2.1.id (.arr 1 (g.2.1.pre++lst eAi8 s7.2.2.1++g.2.1.rest)),.blk id0 (.vm g.2.2.1 g.2.2.2)] H1) (fun x e l H1=>∃u1:OG,T4 u1 (Ar.len x.1)∧∃u2:OG,T4 u2 (Ar.len x.2.1)∧∃u3:(List Value×List V),Kt eAi3 eAi5 u3 x.2.2∧e= .exit 0∧l=[(13,.v (.own u2.id u2.lo u2.n)),(14,.v (.own u1.id u1.lo u1.n))]∧B9 Eq (upd H0 id0 none) [ob u1 1 V.bool x.1,ob u2 1 eAi8 x.2.1,.blk id0 (.vm u3.1 u3.2)] H1) (by kernel_rfl) ?_ (⟨q3,q1,o0⟩) hx ?_ ?_ ?_
 ·rintro s7 ⟨q8,q9,q10⟩ H o ⟨hq8,hq9,hq10,hO⟩ h;clear hx;cbv;refine A8 hE h (fun _ h=>?_) fun _ h=>?_
  ·cbv;obtain⟨s16,hx,h⟩:=bind_some h;refine M9 cf169 hE K4 (γ:=OG×OG×(List Value×List V)) (fun s12 g=>[(0,.v (.eref [sr eAh5 aF.prover.cQ,vi aF.prover.count,.map id0] 0)),fi 2 aR,(3,.v (sr eAh2 aH)),(4,.v (sr eAh2 aI)),(6,.v (.eref (D6 aA) 0)),fi 12 (Ar.len aH),(13,.v (.own g.2.1.id g.2.1.lo g.2.1.n)),(14,.v (.own g.1.id g.1.lo g.1.n)),fi 15 s7.1,fi 16 s12.1]) (fun s12 g H1=>T4 g.1 (Ar.len s12.2.1)∧T4 g.2.1 (Ar.len s12.2.2.1)∧Kt eAi3 eAi5 g.2.2 s12.2.2.2∧B9 Eq (upd H0 id0 none) [.blk g.1.id (.arr 1 (g.1.pre++lst V.bool s12.2.1++g.1.rest)),.blk g.2.1.id (.arr 1 (g.2.1.pre++lst eAi8 s12.2.2.1++g.2.1.rest)),.blk id0 (.vm g.2.2.1 g.2.2.2)] H1) (fun x e l H1=>∃u1:OG,T4 u1 (Ar.len x.1)∧∃u2:OG,T4 u2 (Ar.len x.2.1)∧∃u3:(List Value×List V),Kt eAi3 eAi5 u3 x.2.2∧e= .exit 2∧l=[(0,.v (.eref [sr eAh5 aF.prover.cQ,vi aF.prover.count,.map id0] 0)),fi 2 aR,(3,.v (sr eAh2 aH)),(4,.v (sr eAh2 aI)),(6,.v (.eref (D6 aA) 0)),fi 12 (Ar.len aH),(13,.v (.own u2.id u2.lo u2.n)),(14,.v (.own u1.id u1.lo u1.n)),fi 15 s7.1]∧B9 Eq (upd H0 id0 none) [ob u1 1 V.bool x.1,ob u2 1 eAi8 x.2.1,.blk id0 (.vm u3.1 u3.2)] H1) (by kernel_rfl) ?_ (⟨q8,q9,q10⟩) hx ?_ ?_ ?_
   ·rintro s12 ⟨q13,q14,q15⟩ H o ⟨hq13,hq14,hq15,hO⟩ h;clear hx;cbv;refine A8 hE h (fun _ h=>?_) fun _ h=>?_
    ·cbv;refine J8 hE hO hq13 0 rfl h fun h=>?_;cbv;refine M8 hE (fun _=>rfl) hO hq13 0 rfl h fun x17 h=>?_;cbv;refine A8 hE h (fun _ h=>?_) fun _ h=>?_
     ·cbv;refine J8 hE hO hq13 0 rfl h fun h=>?_;cbv;refine M8 hE (fun _=>rfl) hO hq13 0 rfl h fun x18 h=>?_;cbv;refine A8 hE h (fun _ h=>?_) fun _ h=>?_
      ·cbv;cases h;exact⟨_,⟨q13,q14,q15⟩,rfl,.e2 (.e4 (.e4 .z)),rfl,hq13,hq14,hq15,hO⟩
      cbv;obtain⟨s19,hx,h⟩:=bind_some h;refine I7 cf169 hE K4 (fun e l H1=>∃u1:Nat,True∧∃u2:(List Value×List V),Kt eAi3 eAi5 u2 s19.2∧e= .normal∧l=[(0,.v (.eref [sr eAh5 aF.prover.cQ,vi aF.prover.count,.map id0] 0)),fi 2 aR,(3,.v (sr eAh2 aH)),(4,.v (sr eAh2 aI)),(6,.v (.eref (D6 aA) 0)),fi 12 (Ar.len aH),(13,.v (.own q14.id q14.lo q14.n)),(14,.v (.own q13.id q13.lo q13.n)),fi 15 s7.1,fi 16 s12.1,(17,.v (.ref u1 0))]∧B9 Eq (upd H0 id0 none) [cb u1 (L6 s19.1),ob q13 1 V.bool s12.2.1,ob q14 1 eAi8 s12.2.2.1,.blk id0 (.vm u2.1 u2.2)] H1) (by kernel_rfl) ?_ ?_
      ·clear h;have h:=hx;clear hx;cbv;obtain⟨x140,ex140,h⟩:=bind_some h;obtain⟨l420,el420,h⟩:=bind_some h;obtain⟨l580,el580,h⟩:=bind_some h;obtain⟨r620,er620,h⟩:=bind_some h;obtain⟨r660,er660,h⟩:=bind_some h
       repeat' first|refine And.intro ?_ ?_|(refine C7 hE eAh9 (J0 ex140) fun x140 hh=>?_;obtain rfl:=D9 hh;cbv)|(refine EA hE (f:=eAh2) O9 (J0 el420) fun l420 t421 hh=>?_;obtain rfl:=D9 hh;cbv)|(refine EA hE (f:=eAh2) O9 (J0 el580) fun l580 t581 hh=>?_;obtain rfl:=D9 hh;cbv)|(refine A7 hE (g:=fun r620=>sr eAh2 r620) (J0 er620) (c140 N aI l580) (.cons (.refl _) (.cons (.ro _ _) (.refl _))) fun r620 hh=>?_;obtain rfl:=D9 hh;cbv)|(refine BZ (g:=fun r660=>(E7 r660)) hE hO hq15 2 rfl (J0 er660) (ih61 aF s12.2.2.2 x140 (ar .add .i64 aR 1) l420 r620) (.cons (.refl _) (.cons (.refl _) (.cons (.refl _) (.cons (.ro _ _) (.refl _))))) fun r660 o661 H ho661 hO hh=>?_;obtain rfl:=D9 hh;cbv)|(refine D2 hE hO fun b700 H hO=>?_;cbv)|(refine B2 hE hO 0 rfl rfl fun H hO=>?_;cbv)|(have h:=D9 h;subst h;exact⟨_,⟨b700,trivial,o661,ho661,rfl,rfl,hO⟩,.e rfl (.e2 (.e4 (.e4 .z))),rfl⟩)|(refine BZ (g:=fun r660=>(E7 r660)) hE hO hq15 3 rfl (J0 er660) (ih61 aF s12.2.2.2 x140 (ar .add .i64 aR 1) l420 r620) (.cons (.refl _) (.cons (.refl _) (.cons (.refl _) (.cons (.ro _ _) (.refl _))))) fun r660 o661 H ho661 hO hh=>?_;obtain rfl:=D9 hh;cbv)
      clear hx;rintro e l H ⟨b820,hb820,q821,hq821,rfl,rfl,hO⟩;cbv;refine B0 hE hO 0 rfl ?_;cbv;refine A8 hE h (fun _ h=>?_) fun _ h=>?_
      ·cbv;obtain⟨s822,hx,h⟩:=bind_some h;refine I7 cf169 hE K4 (fun e l H1=>∃u1:OG,T4 u1 (Ar.len s822.1)∧∃u2:OG,T4 u2 (Ar.len s822.2)∧e= .normal∧l=[(0,.v (.eref [sr eAh5 aF.prover.cQ,vi aF.prover.count,.map id0] 0)),fi 2 aR,(3,.v (sr eAh2 aH)),(4,.v (sr eAh2 aI)),(6,.v (.eref (D6 aA) 0)),fi 12 (Ar.len aH),(13,.v (.own u2.id u2.lo u2.n)),(14,.v (.own u1.id u1.lo u1.n)),fi 15 s7.1,fi 16 s12.1]∧B9 Eq (upd H0 id0 none) [cb b820 (L6 s19.1),ob u1 1 V.bool s822.1,ob u2 1 eAi8 s822.2,.blk id0 (.vm q821.1 q821.2)] H1) (by kernel_rfl) ?_ ?_
       ·clear h;have h:=hx;clear hx;cbv;obtain⟨u1182_0,eu1182_0,h⟩:=bind_some h;obtain⟨x1223,ex1223,h⟩:=bind_some h;obtain⟨l1264,el1264,h⟩:=bind_some h;obtain⟨u1302_0,eu1302_0,h⟩:=bind_some h;obtain⟨l1344,el1344,h⟩:=bind_some h;obtain⟨u1382_0,eu1382_0,h⟩:=bind_some h;obtain⟨l1424,el1424,h⟩:=bind_some h
        repeat' first|refine And.intro ?_ ?_|(refine B0 hE hO 0 rfl ?_;cbv)|(refine J8 hE hO hq14 2 rfl (J0 eu1182_0) fun hh=>?_;clear hh;cbv)|(refine M8 hE eAj3 hO hq14 2 rfl (J0 ex1223) fun x1223 hh=>?_;obtain rfl:=D9 hh;cbv)|(refine Aw (f:=eAh4) hE M2 (by decide) (hO.tl0 (t:=.full) rfl) 0 rfl trivial (l:=[s19.1.d]) (m:=x1223) (.lstc (.eq (eAh6 s19.1.d) (.refl _)) (.lst0)) (.refl _) (J0 el1264) fun l1264 t1263 H hO ht1263 hh=>?_;obtain rfl:=D9 hh;cbv)|(refine J8 hE hO hq14 3 rfl (J0 eu1302_0) fun hh=>?_;clear hh;cbv)|(refine Y3 hE (f:=eAi8) (esz:=1) (tz:=1) (off:=0) (u:=(fun x1343:List A2=>l1264)) (fun _=>⟨_,.eq (eAj3 _) (.ro _ _),(by rw[eAj3];rfl),Kx _,rfl⟩) (by decide) hO hq14 3 rfl (J0 el1344) fun l1344 H hq14 hh hO=>?_;obtain rfl:=D9 hh;cbv)|(refine J8 hE hO hq13 2 rfl (J0 eu1382_0) fun hh=>?_;clear hh;cbv)|(refine Y3 hE (f:=V.bool) (esz:=1) (tz:=1) (off:=0) (u:=(fun x1423:Bool=>true)) (fun _=>⟨.bool true,.refl _,rfl,rfl,rfl⟩) (by decide) hO hq13 2 rfl (J0 el1424) fun l1424 H hq13 hh hO=>?_;obtain rfl:=D9 hh;cbv)|(have h:=D9 h;subst h;exact⟨_,⟨q13,hq13,q14,hq14,rfl,rfl,hO.tail⟩,.e2 (.e4 (.e4 .z)),rfl⟩)
       clear hx;rintro e l H ⟨q1503,hq1503,q1504,hq1504,rfl,rfl,hO⟩;cbv;cases h;exact⟨_,⟨q1503,q1504,q821⟩,rfl,.e2 (.e4 (.e4 .z)),rfl,hq1503,hq1504,hq821,hO.tail⟩
      cbv;cases h;exact⟨_,⟨q13,q14,q821⟩,rfl,.e2 (.e4 (.e4 .z)),rfl,hq13,hq14,hq821,hO.tail⟩
     cbv;cases h;exact⟨_,_,rfl,⟨q13,hq13,q14,hq14,q15,hq15,rfl,rfl,hO⟩,.e rfl (.e4 (.e4 .z)),rfl⟩
    cbv;cases h;exact⟨_,_,rfl,⟨q13,hq13,q14,hq14,q15,hq15,rfl,rfl,hO⟩,.e rfl (.e4 (.e4 .z)),rfl⟩
   ·exact .e2 (.e4 (.e4 .z))
   ·exact⟨hq8,hq9,hq10,hO⟩
   clear hx;rintro e l H ⟨q1505,hq1505,q1506,hq1506,q1507,hq1507,rfl,rfl,hO⟩;cbv;cases h;exact⟨_,⟨q1505,q1506,q1507⟩,rfl,.e rfl (.e4 (.e4 .z)),rfl,hq1505,hq1506,hq1507,hO⟩
  cbv;cases h;exact⟨_,_,rfl,⟨q8,hq8,q9,hq9,q10,hq10,rfl,rfl,hO⟩,.e2 .z,rfl⟩
 ·exact .e rfl (.e4 (.e4 .z))
 ·exact⟨hq3,hq1,ho0,hO⟩
 clear hx;rintro e l H ⟨q1508,hq1508,q1509,hq1509,q1510,hq1510,rfl,rfl,hO⟩;cbv;refine J8 hE hO hq1509 1 rfl h fun h=>?_;cbv;refine M8 hE eAj3 hO hq1509 1 rfl h fun x1511 h=>?_;cbv;refine J8 hE hO hq1508 0 rfl h fun h=>?_;cbv;refine M8 hE (fun _=>rfl) hO hq1508 0 rfl h fun x1512 h=>?_;cbv;cases h;exact hK _ _ _ 2 _ hq1510 rfl hO (.refl _)
theorem k170 (N n:Nat) (ih61:K61 N n):Ac5 N (n+1):=by
 intro aF aS aA aR aH aI r h
 unfold W3 at h
 refine Ee (T:=TT) cf170 K4 func170 (by rfl) (by kernel_rfl) call170 ntmps170 (by rfl) (fun _=>rfl) ?_;intro E H0 id0 o0 K hE ho0 hO hK;cbv;refine D2 hE hO fun b1 H hO=>?_;cbv;refine Zu hE (ds:=[vi 0,vi 0,vi 0,vi 0,sr eAh4 ([]),.bool false]) hO 0 rfl (.cons (.refl _) (.cons (.refl _) (.cons (.refl _) (.cons (.refl _) (.cons (.lit _ (D0)) (.refl _)))))) fun H hO=>?_;cbv;refine E1 hE ?_;cbv;obtain⟨s3,hx,h⟩:=bind_some h;refine F3 cf170 hE K4 (fun s2=>[(0,.v (.eref [sr eAh5 aF.prover.cQ,vi aF.prover.count,.map id0] 0)),fi 2 s2.1,(3,.v (sr eAh2 aH)),(4,.v (sr eAh2 aI)),(10,.v (.ref b1 0)),(20,.v (sr eAh8 aA.cK)),fi 21 (Ar.len aA.cK),fi 22 s2.2]) (fun s2 H1=>B9 Eq (upd H0 id0 none) [cb b1 [vi 0,vi 0,vi 0,vi 0,sr eAh4 ([]),.bool false],.blk id0 (.vm o0.1 o0.2)] H1) (fun x e l H1=>match(generalizing:=false) x with| .inl y=>e= .exit 0∧l=[(10,.v (.ref b1 0))]∧B9 Eq (upd H0 id0 none) [cb b1 [vi 0,vi 0,vi 0,vi 0,sr eAh4 ([]),.bool false],.blk id0 (.vm o0.1 o0.2)] H1| .inr y=>∃u1:(List Value×List V),Kt eAi3 eAi5 u1 y.2∧e= .ret∧l=[(10,.v (.ref b1 0))]∧B9 Eq (upd H0 id0 none) [cb b1 (L6 y.1),.blk id0 (.vm u1.1 u1.2)] H1) (by kernel_rfl) ?_ hx ?_ hO ?_
 ·intro s2 H o hO h;clear hx;cbv;refine A8 hE h (fun _ h=>?_) fun _ h=>?_
  ·cbv;refine C7 hE eAh9 h fun x4 h=>?_;cbv;refine D2 hE hO fun b5 H hO=>?_;cbv;refine B2 hE hO 0 rfl rfl fun H hO=>?_;cbv;refine B0 hE hO 0 rfl ?_;cbv;refine A7 hE h (c224 N x4 aH) (.refl _) fun r6 h=>?_;cbv;refine E1 hE ?_;cbv;refine E1 hE ?_;cbv;refine A8 hE h (fun _ h=>?_) fun _ h=>?_
   ·cbv;refine B0 hE hO 0 rfl ?_;cbv;refine BZ (g:=fun r7=>(E7 r7)) hE hO ho0 2 rfl h (ih61 aF aS x4 s2.1 aH aI) (.refl _) fun r7 o8 H ho8 hO h=>?_;cbv;refine GG hE (vs':=[vi 0,vi 0,vi 0,vi s2.2,sr eAh4 ([r7.1.d]),.bool r7.1.ok]) hO 1 rfl rfl (.cons (.refl _) (.cons (.refl _) (.cons (.refl _) (.cons (.refl _) (.cons (.lit _ (E2 ((eAh6 r7.1.d).symm) (D0))) (.refl _)))))) fun H hO=>?_;cbv;cases h;exact⟨_,_,rfl,⟨o8,ho8,rfl,rfl,hO.tail⟩,.e rfl .z,rfl⟩
   cbv;refine B0 hE hO 0 rfl ?_;cbv;refine A7 hE h (c214 N N x4) (.refl _) fun r9 h=>?_;cbv;cases h;exact⟨_,rfl,.e4 (.e4 .z),rfl,hO.tail⟩
  cbv;cases h;exact⟨_,_,rfl,⟨rfl,rfl,hO⟩,.e rfl .z,rfl⟩
 ·exact .e4 (.e4 .z)
 clear hx
 rcases s3 with y10|y11
 ·rintro e l H ⟨rfl,rfl,hO⟩;cbv;refine GG hE (vs':=[vi 0,vi 0,vi 0,vi 0,sr eAh4 ([]),.bool false]) hO 0 rfl rfl (.cons (.refl _) (.cons (.refl _) (.cons (.refl _) (.cons (.refl _) (.cons (.lit _ (D0)) (.refl _)))))) fun H hO=>?_;cbv;refine B0 hE hO 0 rfl ?_;cbv;cases h;exact hK _ _ _ 1 _ ho0 rfl hO (.refl _)
 rintro e l H ⟨q12,hq12,rfl,rfl,hO⟩;cbv;refine B0 hE hO 0 rfl ?_;cbv;cases h;exact hK _ _ _ 1 _ hq12 rfl hO (.refl _)
end Go.Ab
namespace Go.Ab
open Go.RowKit Go.Proofs Go.Proofs.Tryz I8
variable [Ar][I8]
set_option maxRecDepth 100000
theorem k171 (N n:Nat) (ih61:K61 N n):Ac4 N (n+1):=by
 intro aF aS aA aR aH aI r h
 unfold Q8 at h
 refine Ee (T:=TT) cf171 K4 func171 (by rfl) (by kernel_rfl) call171 ntmps171 (by rfl) (fun _=>rfl) ?_;intro E H0 id0 o0 K hE ho0 hO hK;cbv;refine D2 hE hO fun b1 H hO=>?_;cbv;refine E1 hE ?_;cbv;replace hO:=hO.tl0 (t:=.nil) rfl;obtain⟨s5,hx,h⟩:=bind_some h;refine M9 cf171 hE K4 (γ:=E8×(List Value×List V)) (fun s2 g=>[(0,.v (.eref [sr eAh5 aF.prover.cQ,vi aF.prover.count,.map id0] 0)),fi 2 s2.1,(3,.v (sr eAh2 aH)),(4,.v (sr eAh2 s2.2.1)),(6,.v (.eref (D6 aA) 0)),(10,.v (.ref b1 0)),(11,.v (.sl (lst eAh4 s2.2.2.1) g.1)),fi 12 s2.2.2.2.1,fi 13 s2.2.2.2.2.1,(23,.v (sr eAh8 aA.cK)),fi 24 (Ar.len aA.cK),fi 25 s2.2.2.2.2.2.1]) (fun s2 g H1=>Bz g.1∧Kt eAi3 eAi5 g.2 s2.2.2.2.2.2.2∧B9 Eq (upd H0 id0 none) [.tl g.1,cb b1 [vi 0,vi 0,vi 0,vi 0,.sl [] .nil,.bool false],.blk id0 (.vm g.2.1 g.2.2)] H1) (fun x e l H1=>∃u1:E8,Bz u1∧∃u2:(List Value×List V),Kt eAi3 eAi5 u2 x.2.2∧e= .exit 0∧l=[(3,.v (sr eAh2 aH)),(10,.v (.ref b1 0)),(11,.v (.sl (lst eAh4 x.1) u1)),fi 12 x.2.1]∧B9 Eq (upd H0 id0 none) [.tl u1,cb b1 [vi 0,vi 0,vi 0,vi 0,.sl [] .nil,.bool false],.blk id0 (.vm u2.1 u2.2)] H1) (by kernel_rfl) ?_ (⟨.nil,o0⟩) hx ?_ ?_ ?_
 ·rintro s2 ⟨t3,q4⟩ H o ⟨ht3,hq4,hO⟩ h;clear hx;cbv;refine A8 hE h (fun _ h=>?_) fun _ h=>?_
  ·cbv;refine C7 hE eAh9 h fun x6 h=>?_;cbv;refine A7 hE h (c224 N x6 aH) (.refl _) fun r7 h=>?_;cbv;refine E1 hE ?_;cbv;refine A8 hE h (fun _ h=>?_) fun _ h=>?_
   ·cbv;cases h
   cbv;refine A8 hE h (fun _ h=>?_) fun _ h=>?_
   ·cbv;refine C7 hE eAi2 h fun x8 h=>?_;cbv;refine A8 hE h (fun _ h=>?_) fun _ h=>?_
    ·cbv;cases h
    cbv;refine BZ (g:=fun r9=>(E7 r9)) hE hO hq4 2 rfl h (ih61 aF s2.2.2.2.2.2.2 x6 s2.1 r7 s2.2.1) (.refl _) fun r9 o10 H ho10 hO h=>?_;cbv;refine A8 hE h (fun _ h=>?_) fun _ h=>?_
    ·cbv;cases h
    cbv;obtain⟨s11,hx,h⟩:=bind_some h;refine I7 cf171 hE K4 (fun e l H1=>e= .normal∧l=[(0,.v (.eref [sr eAh5 aF.prover.cQ,vi aF.prover.count,.map id0] 0)),fi 2 s2.1,(3,.v (sr eAh2 aH)),(4,.v (sr eAh2 s11.1)),(6,.v (.eref (D6 aA) 0)),(10,.v (.ref b1 0)),(11,.v (.sl (lst eAh4 s2.2.2.1) t3)),fi 12 s2.2.2.2.1,fi 13 s11.2,(15,.v (.eref (D6 x6) 0)),(16,.v (sr eAh2 r7)),(17,.v (.eref (L6 r9.1) 0)),(23,.v (sr eAh8 aA.cK)),fi 24 (Ar.len aA.cK),fi 25 s2.2.2.2.2.2.1]∧B9 Eq (upd H0 id0 none) [.tl t3,cb b1 [vi 0,vi 0,vi 0,vi 0,.sl [] .nil,.bool false],.blk id0 (.vm o10.1 o10.2)] H1) (by kernel_rfl) ?_ ?_
    ·clear h;have h:=hx;clear hx;cbv;refine A8 hE h (fun _ h=>?_) fun _ h=>?_
     ·cbv;refine A7 hE h (c140 N s2.2.1 r7) (.refl _) fun r12 h=>?_;cbv;refine A7 hE h (c142 N r7) (.refl _) fun r13 h=>?_;cbv;cases h;exact⟨_,⟨rfl,rfl,hO⟩,.e rfl (.e2 (.e4 (.e4 (.e4 .z)))),rfl⟩
     cbv;cases h;exact⟨_,⟨rfl,rfl,hO⟩,.e rfl (.e2 (.e4 (.e4 (.e4 .z)))),rfl⟩
    clear hx;rintro e l H ⟨rfl,rfl,hO⟩;cbv;refine A7 hE h (c214 N N x6) (.refl _) fun r14 h=>?_;cbv;refine Aw (f:=eAh4) hE M2 (by decide) hO 0 rfl ht3 (l:=s2.2.2.1) (m:=[r9.1.d]) (.refl _) (.lstc (.eq (eAh6 r9.1.d) (.refl _)) (.lst0)) h fun l16 t15 H hO ht15 h=>?_;cbv;refine E1 hE ?_;cbv;cases h;exact⟨_,⟨t15,o10⟩,rfl,.e4 (.e4 (.e4 .z)),rfl,ht15,ho10,hO⟩
   cbv;refine BZ (g:=fun r17=>(E7 r17)) hE hO hq4 2 rfl h (ih61 aF s2.2.2.2.2.2.2 x6 s2.1 r7 s2.2.1) (.refl _) fun r17 o18 H ho18 hO h=>?_;cbv;refine A8 hE h (fun _ h=>?_) fun _ h=>?_
   ·cbv;cases h
   cbv;obtain⟨s19,hx,h⟩:=bind_some h;refine I7 cf171 hE K4 (fun e l H1=>e= .normal∧l=[(0,.v (.eref [sr eAh5 aF.prover.cQ,vi aF.prover.count,.map id0] 0)),fi 2 s2.1,(3,.v (sr eAh2 aH)),(4,.v (sr eAh2 s19.1)),(6,.v (.eref (D6 aA) 0)),(10,.v (.ref b1 0)),(11,.v (.sl (lst eAh4 s2.2.2.1) t3)),fi 12 s2.2.2.2.1,fi 13 s19.2,(15,.v (.eref (D6 x6) 0)),(16,.v (sr eAh2 r7)),(17,.v (.eref (L6 r17.1) 0)),(23,.v (sr eAh8 aA.cK)),fi 24 (Ar.len aA.cK),fi 25 s2.2.2.2.2.2.1]∧B9 Eq (upd H0 id0 none) [.tl t3,cb b1 [vi 0,vi 0,vi 0,vi 0,.sl [] .nil,.bool false],.blk id0 (.vm o18.1 o18.2)] H1) (by kernel_rfl) ?_ ?_
   ·clear h;have h:=hx;clear hx;cbv;refine A8 hE h (fun _ h=>?_) fun _ h=>?_
    ·cbv;refine A7 hE h (c140 N s2.2.1 r7) (.refl _) fun r20 h=>?_;cbv;refine A7 hE h (c142 N r7) (.refl _) fun r21 h=>?_;cbv;cases h;exact⟨_,⟨rfl,rfl,hO⟩,.e rfl (.e2 (.e4 (.e4 (.e4 .z)))),rfl⟩
    cbv;cases h;exact⟨_,⟨rfl,rfl,hO⟩,.e rfl (.e2 (.e4 (.e4 (.e4 .z)))),rfl⟩
   clear hx;rintro e l H ⟨rfl,rfl,hO⟩;cbv;refine A7 hE h (c214 N N x6) (.refl _) fun r22 h=>?_;cbv;refine Aw (f:=eAh4) hE M2 (by decide) hO 0 rfl ht3 (l:=s2.2.2.1) (m:=[r17.1.d]) (.refl _) (.lstc (.eq (eAh6 r17.1.d) (.refl _)) (.lst0)) h fun l24 t23 H hO ht23 h=>?_;cbv;refine E1 hE ?_;cbv;cases h;exact⟨_,⟨t23,o18⟩,rfl,.e4 (.e4 (.e4 .z)),rfl,ht23,ho18,hO⟩
  cbv;cases h;exact⟨_,_,rfl,⟨t3,ht3,q4,hq4,rfl,rfl,hO⟩,.e4 .z,rfl⟩
 ·exact .e2 (.e4 (.v (.slt _ (.lst0)) (.e rfl (.e rfl (.e rfl (.e rfl (.e rfl (.z))))))))
 ·exact⟨trivial,ho0,hO⟩
 clear hx;rintro e l H ⟨t25,ht25,q26,hq26,rfl,rfl,hO⟩;cbv;refine E1 hE ?_;cbv;refine B2 hE hO 1 rfl rfl fun H hO=>?_;cbv;refine B0 hE hO 1 rfl ?_;cbv;cases h;exact hK _ _ _ 2 _ hq26 rfl hO (.agg (.cons (.refl _) (.cons (.refl _) (.cons (.refl _) (.cons (.refl _) (.cons (.ro _ _) (.refl _)))))))
theorem Hz (N:Nat):∀n,K61 N n∧Ac7 N n∧Ac6 N n∧Ac5 N n∧Ac4 N n:=by
 intro n
 induction n with
 |zero=>exact⟨(by intro aF aS aA aR aH aI r h;unfold G0 at h;cases h),(by intro aF aS aA aR aH aI r h;unfold S4 at h;cases h),(by intro aF aS aA aR aH aI r h;unfold M0 at h;cases h),(by intro aF aS aA aR aH aI r h;unfold W3 at h;cases h),(by intro aF aS aA aR aH aI r h;unfold Q8 at h;cases h)⟩
 |succ n ih=>
  obtain⟨ih61,ih129,ih169,ih170,ih171⟩:=ih;exact⟨k61 N n ih129,k129 N n ih61 ih169 ih170 ih171,k169 N n ih61,k170 N n ih61,k171 N n ih61⟩
theorem c61 (N n aF aS aA aR aH aI r)(h:G0 N n aF aS aA aR aH aI=some r):Hb prog 61 (fun id=>[.eref [sr eAh5 aF.prover.cQ,vi aF.prover.count,.map id] 0,(B7 aA),vi aR,sr eAh2 aH,sr eAh2 aI]) eAi3 eAi5 aS ((E7 r.1)) r.2:=(Hz N n).1 aF aS aA aR aH aI r h
def cf16 :Cf:=⟨[6],[],[],[],[],[]⟩
theorem c16 (N aA aH aK r) (h:CE N aA aH aK=some r):B6 prog 16 [(B7 aA),sr eAh5 aH,(Dy aK)] (.tup [(C2 r.1),vi r.2]):=by
 unfold CE at h
 refine J9 cf16 func16 call16 ntmps16 ?_;intro E H0 K hE hK hO;cbv;refine D2 hE hO fun b1 H hO=>?_;cbv;refine A7 hE h (c55 N aA) (.refl _) fun r2 h=>?_;cbv;refine A8 hE h (fun _ h=>?_) fun _ h=>?_
 ·cbv;cases h
 cbv;refine A7 hE h (c56 N aH) (.refl _) fun r3 h=>?_;cbv;refine A8 hE h (fun _ h=>?_) fun _ h=>?_
 ·cbv;cases h
 cbv;refine A7 hE h (c59 N aK) (.refl _) fun r4 h=>?_;cbv;refine A8 hE h (fun _ h=>?_) fun _ h=>?_
 ·cbv;cases h
 cbv;refine E1 hE ?_;cbv;refine A8 hE h (fun _ h=>?_) fun _ h=>?_
 ·cbv;cases h
 cbv;refine E1 hE ?_;cbv;replace hO:=hO.tl0 (t:=.nil) rfl;obtain⟨s7,hx,h⟩:=bind_some h;refine M9 cf16 hE K4 (γ:=E8) (fun s5 g=>[(1,.v (sr eAh5 aH)),(3,.v (.eref (D6 aA) 0)),(6,.v (.ref b1 0)),(11,.v (.sl (lst eAh2 s5.1) g)),(43,.v (sr eAh3 aK.cP)),fi 44 (Ar.len aK.cP),fi 45 s5.2]) (fun s5 g H1=>Bz g∧B9 Eq H0 [.tl g,cb b1 [vi 0,vi 0,vi 0,vi 0,.sl [] .nil]] H1) (fun x e l H1=>∃u1:E8,Bz u1∧e= .exit 0∧l=[(1,.v (sr eAh5 aH)),(3,.v (.eref (D6 aA) 0)),(6,.v (.ref b1 0)),(11,.v (.sl (lst eAh2 x) u1))]∧B9 Eq H0 [.tl u1,cb b1 [vi 0,vi 0,vi 0,vi 0,.sl [] .nil]] H1) (by kernel_rfl) ?_ .nil hx ?_ ?_ ?_
 ·rintro s5 t6 H o ⟨ht6,hO⟩ h;clear hx;cbv;refine A8 hE h (fun _ h=>?_) fun _ h=>?_
  ·cbv;refine C7 hE eAh7 h fun x8 h=>?_;cbv;refine A7 hE h (c60 N aH x8.Ref) (.refl _) fun r9 h=>?_;cbv;refine A8 hE h (fun _ h=>?_) fun _ h=>?_
   ·cbv;cases h
   cbv;refine Aw (f:=eAh2) hE O9 (by decide) hO 0 rfl ht6 (l:=s5.1) (m:=[(⟨x8.Var,r9.1⟩:A3)]) (.refl _) (.lstc (.eq (eAi2 (⟨x8.Var,r9.1⟩:A3)) (.refl _)) (.lst0)) h fun l11 t10 H hO ht10 h=>?_;cbv;cases h;exact⟨_,t10,rfl,.e rfl (.e2 (.e4 .z)),rfl,ht10,hO⟩
  cbv;cases h;exact⟨_,_,rfl,⟨t6,ht6,rfl,rfl,hO⟩,.e4 .z,rfl⟩
 ·exact .e rfl (.e2 (.v (.slt _ (.lst0)) (.e rfl (.e rfl (.e rfl (.z))))))
 ·exact⟨trivial,hO⟩
 clear hx;rintro e l H ⟨t12,ht12,rfl,rfl,hO⟩;cbv;refine Ae7 hE eAi3 eAi5 hO fun m13 o14 H ho14 hO=>?_;cbv;refine BZ (g:=fun r15=>(E7 r15)) hE hO ho14 0 rfl h (c61 N N (⟨(⟨aH,0⟩:C9)⟩:F6) ([]:List (B5×A6)) aA 0 s7 ([])) (.cons (.refl _) (.cons (.refl _) (.cons (.refl _) (.cons (.ro _ _) (.cons (.lit _ (D0)) (.refl _)))))) fun r15 o16 H ho16 hO h=>?_;cbv;refine A8 hE h (fun _ h=>?_) fun _ h=>?_
 ·cbv;cases h
 cbv;refine B2 hE hO 2 rfl rfl fun H hO=>?_;cbv;refine B0 hE hO 2 rfl ?_;cbv;cases h;exact hK hO (.refl _)
theorem c227 (N aF aV r)(h:Bx N aF aV=some r):B6 prog 227 [.int .u64 aF,.int .u64 aV] (.tup [.int .u64 r.1,.int .u64 r.2]):=by
 unfold Bx at h
 refine J9 cf0 func227 call227 ntmps227 ?_;intro E H0 K hE hK hO;cbv;refine CT hE (Bg hE rfl) ?_;cbv;refine CT hE (Bg hE rfl) ?_;cbv;refine CT hE (Bg hE rfl) ?_;cbv;refine CT hE (Bg hE rfl) ?_;cbv;refine CT hE (Bg hE rfl) ?_;cbv;cases h;exact hK hO (.refl _)
theorem c176 (N aF aV r)(h:GY N aF aV=some r):B6 prog 176 [.int .u64 aF,.int .u64 aV] (.tup [.int .u64 r.1,.int .u64 r.2]):=by
 unfold GY at h
 refine J9 cf0 func176 call176 ntmps176 ?_;intro E H0 K hE hK hO;cbv;refine A7 hE h (c227 N aF aV) (.refl _) fun r1 h=>?_;cbv;cases h;exact hK hO (.refl _)
def cf137 :Cf:=⟨[],[(3000009,0),(3000009,1),(3000009,2),(3000009,4),(3000009,5),(3000009,8),(3000009,9)],[(10,3),(26,6)],[2000009],[],[]⟩
set_option maxHeartbeats 2000000 in
theorem c137 (N aF bW r) (h:I5 N aF bW=some r):B6 prog 137 [sr eAh8 aF,vi bW] (sr eAh8 r):=by
 unfold I5 at h
 refine Cn (T:=TT) cf137 K4 func137 (by rfl) (by kernel_rfl) call137 ntmps137 (by rfl) (by rfl) ?_;intro E H0 K hE hK hF;have hO:B9 Eq H0 [] H0:=.start G3 rfl;cbv;obtain⟨s1,hx,h⟩:=bind_some h;refine I7 cf137 hE K4 (fun e l H1=>e= .normal∧l=[(0,.v (sr eAh8 aF)),fi 1 bW]∧B9 Eq H0 [] H1) (by kernel_rfl) ?_ ?_
 ·clear h;have h:=hx;clear hx;cbv;refine A8 hE h (fun _ h=>?_) fun _ h=>?_
  ·cbv;cases h
  cbv;cases h;exact⟨_,⟨rfl,rfl,hO⟩,.e2 .z,rfl⟩
 clear hx;rintro e l H ⟨rfl,rfl,hO⟩;cbv;refine E1 hE ?_;cbv;refine A7 hE h (c176 N (wr .u64 (Ar.len aF)) (wr .u64 bW)) (.refl _) fun r2 h=>?_;cbv;obtain⟨s3,hx,h⟩:=bind_some h;refine I7 cf137 hE K4 (fun e l H1=>e= .normal∧l=[(0,.v (sr eAh8 aF)),(6,.v (.int .u64 r2.2))]∧B9 Eq H0 [] H1) (by kernel_rfl) ?_ ?_
 ·clear h;have h:=hx;clear hx;cbv;refine A8 hE h (fun _ h=>?_) fun _ h=>?_
  ·cbv;cases h
  cbv;cases h;exact⟨_,⟨rfl,rfl,hO⟩,.e2 .z,rfl⟩
 clear hx;rintro e l H ⟨rfl,rfl,hO⟩;cbv;refine Td hE (f:=eAh8) (by decide) (z0:=((⟨0,[],0,0,0,0,(⟨0,[],0,0,0,(⟨0,0,⟨#[]⟩⟩:B3)⟩:B1)⟩:A0):A0)) ((.eq (eAh9 _) (.agg (.cons (.refl _) (.cons (.lit _ (D0)) (.cons (.refl _) (.cons (.refl _) (.cons (.refl _) (.cons (.refl _) (.cons (.refl _) (.cons (.lit _ (D0)) (.refl _)))))))))))) hO h fun l5 q4 H hq4 h hO=>?_;cbv;refine Yf (f:=eAh8) hE hO hq4 0 rfl (m:=aF) (Jz (f:=eAh8) hE Gn (.refl _)) h fun p6 H hq4 hO h=>?_;cbv;obtain⟨s9,hx,h⟩:=bind_some h;refine M9 cf137 hE K4 (γ:=OG) (fun s7 g=>[(7,.v (.own g.id g.lo g.n)),fi 8 s7.1]) (fun s7 g H1=>T4 g (Ar.len s7.2)∧B9 Eq H0 [ob g 14 eAh8 s7.2] H1) (fun x e l H1=>∃u1:OG,T4 u1 (Ar.len x)∧e= .exit 0∧l=[(7,.v (.own u1.id u1.lo u1.n))]∧B9 Eq H0 [ob u1 14 eAh8 x] H1) (by kernel_rfl) ?_ q4 hx ?_ ?_ ?_
 ·rintro s7 q8 H o ⟨hq8,hO⟩ h;clear hx;cbv;refine LF hE hq8 ?_;cbv;refine A8 hE h (fun _ h=>?_) fun _ h=>?_
  ·cbv;obtain⟨s10,hx,h⟩:=bind_some h;refine I7 cf137 hE K4 (fun e l H1=>∃u1:OG,T4 u1 (Ar.len s10.2)∧e= .normal∧l=[(7,.v (.own u1.id u1.lo u1.n)),fi 8 s10.1]∧B9 Eq H0 [ob u1 14 eAh8 s10.2] H1) (by kernel_rfl) ?_ ?_
   ·clear h;have h:=hx;clear hx;cbv;obtain⟨l132,el132,h⟩:=bind_some h;obtain⟨l252,el252,h⟩:=bind_some h;obtain⟨p291,ep291,h⟩:=bind_some h
    repeat' first|refine And.intro ?_ ?_|(refine Uz hE hO hq8 0 rfl (J0 el132) fun l132 q131 hq131 hh=>?_;obtain rfl:=D9 hh;cbv)|(refine Uy hE hO hq8 0 rfl (J0 el252) fun l252 q251 hq251 hh=>?_;obtain rfl:=D9 hh;cbv)|(refine Qa (f:=eAh8) hE hO hq8 0 rfl hq131 (m:=l252) (hq251) (J0 ep291) fun p291 H hq8 hO hh=>?_;obtain rfl:=D9 hh;cbv)|(have h:=D9 h;subst h;exact⟨_,⟨q8,hq8,rfl,rfl,hO⟩,.e2 .z,rfl⟩)
   clear hx;rintro e l H ⟨q451,hq451,rfl,rfl,hO⟩;cbv;cases h;exact⟨_,q451,rfl,.e2 .z,rfl,hq451,hO⟩
  cbv;cases h;exact⟨_,_,rfl,⟨q8,hq8,rfl,rfl,hO⟩,.e rfl .z,rfl⟩
 ·exact .e2 .z
 ·exact⟨hq4,hO⟩
 clear hx;rintro e l H ⟨q452,hq452,rfl,rfl,hO⟩;cbv;cases h;exact hF q452 _ _ 0 _ _ hO rfl (CS hE hq452) (.refl _)
def cf82 :Cf:=⟨[7],[(18,5)],[],[0],[],[]⟩
theorem c82 (N:Nat):∀n aA aG r,P9 N n aA aG=some r→B6 prog 82 [(B7 aA),(C2 aG)] (vi r):=by
 intro n
 induction n with
 |zero=>intro aA aG r h;cases h
 |succ n ih=>
 intro aA aG r h
 unfold P9 at h
 refine J9 cf82 func82 call82 ntmps82 ?_;intro E H0 K hE hK hO;cbv;refine A8 hE h (fun _ h=>?_) fun _ h=>?_
 ·cbv;cases h;exact hK hO (.refl _)
 cbv;obtain⟨s1,hx,h⟩:=bind_some h;refine I7 cf82 hE K4 (fun e l H1=>match(generalizing:=false) s1 with| .inl y=>e= .normal∧l=[(3,.v (.eref (K3 aG) 0)),(5,.v (sr eAh8 y))]∧B9 Eq H0 [] H1| .inr y=>e= .ret∧l=[fi 4 y]∧B9 Eq H0 [] H1) (by kernel_rfl) ?_ ?_
 ·clear h;have h:=hx;clear hx;cbv;refine A8 hE h (fun _ h=>?_) fun _ h=>?_
  ·cbv;refine E1 hE ?_;cbv;refine A8 hE h (fun _ h=>?_) fun _ h=>?_
   ·cbv;cases h;exact⟨_,⟨rfl,rfl,hO⟩,.e rfl .z,rfl⟩
   cbv;refine EA hE (f:=eAh8) Gn h fun l2 t3 h=>?_;cbv;cases h;exact⟨_,⟨rfl,rfl,hO⟩,.e rfl (.v (.ro _ _) (.z)),rfl⟩
  cbv;refine A8 hE h (fun _ h=>?_) fun _ h=>?_
  ·cbv;refine E1 hE ?_;cbv;refine A8 hE h (fun _ h=>?_) fun _ h=>?_
   ·cbv;cases h;exact⟨_,⟨rfl,rfl,hO⟩,.e rfl .z,rfl⟩
   cbv;refine E1 hE ?_;cbv;refine A7 hE h (c137 N aA.cK (Ar.len aG.Kids)) (.refl _) fun r4 h=>?_;cbv;cases h;exact⟨_,⟨rfl,rfl,hO⟩,.e2 .z,rfl⟩
  cbv;cases h;exact⟨_,⟨rfl,rfl,hO⟩,.e2 .z,rfl⟩
 clear hx
 rcases s1 with y5|y14
 ·rintro e l H ⟨rfl,rfl,hO⟩;cbv;refine E1 hE ?_;cbv;refine E1 hE ?_;cbv;refine A8 hE h (fun _ h=>?_) fun _ h=>?_
  ·cbv;cases h;exact hK hO (.refl _)
  cbv;refine E1 hE ?_;cbv;obtain⟨s7,hx,h⟩:=bind_some h;refine F3 cf82 hE K4 (fun s6=>[(5,.v (sr eAh8 y5)),(69,.v (sr eAh4 aG.Kids)),fi 70 (Ar.len aG.Kids),fi 71 s6]) (fun s6 H1=>B9 Eq H0 [] H1) (fun x e l H1=>match(generalizing:=false) x with| .inl y=>e= .exit 1∧l=[]∧B9 Eq H0 [] H1| .inr y=>e= .ret∧l=[fi 4 y]∧B9 Eq H0 [] H1) (by kernel_rfl) ?_ hx ?_ hO ?_
  ·intro s6 H o hO h;clear hx;cbv;refine A8 hE h (fun _ h=>?_) fun _ h=>?_
   ·cbv;refine C7 hE eAh6 h fun x8 h=>?_;cbv;refine D2 hE hO fun b9 H hO=>?_;cbv;refine B2 hE hO 0 rfl rfl fun H hO=>?_;cbv;refine C7 hE eAh9 h fun x10 h=>?_;cbv;refine B0 hE hO 0 rfl ?_;cbv;refine A7 hE h (ih x10 x8) (.refl _) fun r11 h=>?_;cbv;refine A8 hE h (fun _ h=>?_) fun _ h=>?_
    ·cbv;cases h;exact⟨_,_,rfl,⟨rfl,rfl,hO.tail⟩,.e rfl .z,rfl⟩
    cbv;cases h;exact⟨_,rfl,.e4 .z,rfl,hO.tail⟩
   cbv;cases h;exact⟨_,_,rfl,⟨rfl,rfl,hO⟩,.z,rfl⟩
  ·exact .e4 .z
  clear hx
  rcases s7 with y12|y13
  ·rintro e l H ⟨rfl,rfl,hO⟩;cbv;cases h;exact hK hO (.refl _)
  rintro e l H ⟨rfl,rfl,hO⟩;cbv;cases h;exact hK hO (.refl _)
 rintro e l H ⟨rfl,rfl,hO⟩;cbv;cases h;exact hK hO (.refl _)
theorem c26 (N aA aG r)(h:Q4 N aA aG=some r):B6 prog 26 [(B7 aA),(C2 aG)] (vi r):=by
 unfold Q4 at h
 refine J9 cf0 func26 call26 ntmps26 ?_;intro E H0 K hE hK hO;cbv;refine A7 hE h (c55 N aA) (.refl _) fun r1 h=>?_;cbv;refine A8 hE h (fun _ h=>?_) fun _ h=>?_
 ·cbv;cases h;exact hK hO (.refl _)
 cbv;refine A7 hE h (c29 N N aG) (.refl _) fun r2 h=>?_;cbv;refine A8 hE h (fun _ h=>?_) fun _ h=>?_
 ·cbv;cases h;exact hK hO (.refl _)
 cbv;refine A7 hE h (c82 N N aA aG) (.refl _) fun r3 h=>?_;cbv;cases h;exact hK hO (.refl _)
def cf62 :Cf:=⟨[7],[(5,10),(10,12)],[],[],[],[]⟩
theorem c62 (N:Nat):∀n aA aG r,H7 N n aA aG=some r→B6 prog 62 [(B7 aA),(C2 aG)] (sr eAh3 r):=by
 intro n
 induction n with
 |zero=>intro aA aG r h;cases h
 |succ n ih=>
 intro aA aG r h
 unfold H7 at h
 refine J9 cf62 func62 call62 ntmps62 ?_;intro E H0 K hE hK hO;cbv;refine A8 hE h (fun _ h=>?_) fun _ h=>?_
 ·cbv;cases h;exact hK hO (.lit _ (E2 ((eAh7 (⟨aA.Var,aG.Ref⟩:A4)).symm) (D0)))
 cbv;refine A8 hE h (fun _ h=>?_) fun _ h=>?_
 ·cbv;refine C7 hE eAh9 h fun x1 h=>?_;cbv;refine C7 hE eAh6 h fun x2 h=>?_;cbv;refine A7 hE h (ih x1 x2) (.refl _) fun r3 h=>?_;cbv;cases h;exact hK hO (.refl _)
 cbv;refine E1 hE ?_;cbv;replace hO:=hO.tl0 (t:=.nil) rfl;obtain⟨s6,hx,h⟩:=bind_some h;refine M9 cf62 hE K4 (γ:=E8) (fun s4 g=>[(2,.v (.eref (D6 aA) 0)),(5,.v (.sl (lst eAh3 s4.1) g)),(32,.v (sr eAh4 aG.Kids)),fi 33 (Ar.len aG.Kids),fi 34 s4.2]) (fun s4 g H1=>Bz g∧B9 Eq H0 [.tl g] H1) (fun x e l H1=>∃u1:E8,Bz u1∧e= .exit 1∧l=[(5,.v (.sl (lst eAh3 x) u1))]∧B9 Eq H0 [.tl u1] H1) (by kernel_rfl) ?_ .nil hx ?_ ?_ ?_
 ·rintro s4 t5 H o ⟨ht5,hO⟩ h;clear hx;cbv;refine A8 hE h (fun _ h=>?_) fun _ h=>?_
  ·cbv;refine C7 hE eAh6 h fun x7 h=>?_;cbv;refine D2 hE hO fun b8 H hO=>?_;cbv;refine B2 hE hO 0 rfl rfl fun H hO=>?_;cbv;refine E1 hE ?_;cbv;refine KO hE h fun h=>?_;cbv;refine C7 hE eAh9 h fun x9 h=>?_;cbv;refine B0 hE hO 0 rfl ?_;cbv;refine C6 hE (g:=fun r10=>sr eAh3 r10) h (ih x9 x7) (.refl _) fun r10 h=>?_;cbv;refine Aw (f:=eAh3) hE G1 (by decide) hO 1 rfl ht5 (l:=s4.1) (m:=r10) (.refl _) (.refl _) h fun l12 t11 H hO ht11 h=>?_;cbv;cases h;exact⟨_,t11,rfl,.e rfl (.e4 .z),rfl,ht11,hO.tail⟩
  cbv;cases h;exact⟨_,_,rfl,⟨t5,ht5,rfl,rfl,hO⟩,.e rfl .z,rfl⟩
 ·exact .e rfl (.v (.slt _ (.lst0)) (.e rfl (.e rfl (.e rfl (.z)))))
 ·exact⟨trivial,hO⟩
 clear hx;rintro e l H ⟨t13,ht13,rfl,rfl,hO⟩;cbv;cases h;exact hK hO (.ro _ _)
def cf172 :Cf:=⟨[],[(4,14),(3000006,0),(3000006,1),(3000006,2),(3000006,3),(3000006,4),(3000006,5),(3000006,6),(3000006,7),(3000006,9),(3000006,10),(3000006,11),(3000006,13)],[],[2000006],[],[]⟩
set_option maxHeartbeats 2000000 in
theorem c172 (N:Nat) (aT:List A4) (aB:Int) (aC:Int) (aQ:V) (aO:A4→A4→Option Int) (aX:∀y1 y2 q,aO y1 y2=some q→S0 prog aQ [(O8 y1),(O8 y2)] (vi q)) (r:(List A4)) (h:D3 N aT aB aC aO=some r):Kw prog 172 (fun q=>[.own q.id q.lo q.n,vi aB,vi aC,aQ]) 4 (lst eAh3 aT) (lst eAh3 r):=by
 unfold D3 at h
 refine DO (T:=TT) (m:=4) cf172 K4 func172 (by rfl) (by kernel_rfl) call172 ntmps172 (by rfl) (fun _=>rfl) (by rfl) ?_;intro E H0 q0 K hE hq0 hO hK;cbv;obtain⟨s3,hx,h⟩:=bind_some h;refine M9 cf172 hE K4 (γ:=(JW q0)) (fun s1 g=>[(0,.v (.own g.id g.lo g.n)),fi 1 aB,fi 2 aC,(3,.v (aQ)),fi 8 s1.1]) (fun s1 g H1=>T4 g (Ar.len s1.2)∧B9 Eq (upd H0 q0.id none) [ob g 4 eAh3 s1.2] H1) (fun x e l H1=>∃u1:(JW q0),T4 u1 (Ar.len x)∧e= .exit 0∧l=[(0,.v (.own u1.id u1.lo u1.n))]∧B9 Eq (upd H0 q0.id none) [ob u1 4 eAh3 x] H1) (by kernel_rfl) ?_ q0 hx ?_ ?_ ?_
 ·rintro s1 q2 H o ⟨hq2,hO⟩ h;clear hx;cbv;refine A8 hE h (fun _ h=>?_) fun _ h=>?_
  ·cbv;obtain⟨s6,hx,h⟩:=bind_some h;refine M9 cf172 hE K4 (γ:=(JW q0)) (fun s4 g=>[(0,.v (.own g.id g.lo g.n)),fi 1 aB,fi 2 aC,(3,.v (aQ)),fi 8 s1.1,fi 9 s4.1]) (fun s4 g H1=>T4 g (Ar.len s4.2)∧B9 Eq (upd H0 q0.id none) [ob g 4 eAh3 s4.2] H1) (fun x e l H1=>∃u1:(JW q0),T4 u1 (Ar.len x)∧e= .exit 2∧l=[(0,.v (.own u1.id u1.lo u1.n)),fi 1 aB,fi 2 aC,(3,.v (aQ)),fi 8 s1.1]∧B9 Eq (upd H0 q0.id none) [ob u1 4 eAh3 x] H1) (by kernel_rfl) ?_ q2 hx ?_ ?_ ?_
   ·rintro s4 q5 H o ⟨hq5,hO⟩ h;clear hx;cbv;refine A8 hE h (fun _ h=>?_) fun _ h=>?_
    ·cbv;refine J8 hE hO hq5 0 rfl h fun h=>?_;cbv;refine M8 hE eAh7 hO hq5 0 rfl h fun x7 h=>?_;cbv;refine J8 hE hO hq5 0 rfl h fun h=>?_;cbv;refine M8 hE eAh7 hO hq5 0 rfl h fun x8 h=>?_;cbv;refine V7 hE (g:=fun r9=>vi r9) h (fun r9 hx=>aX x7 x8 r9 hx) (.refl _) fun r9 h=>?_;cbv;refine A8 hE h (fun _ h=>?_) fun _ h=>?_
     ·cbv;obtain⟨s10,hx,h⟩:=bind_some h;refine I7 cf172 hE K4 (fun e l H1=>∃u1:(JW q0),T4 u1 (Ar.len s10)∧e= .normal∧l=[(0,.v (.own u1.id u1.lo u1.n)),fi 1 aB,fi 2 aC,(3,.v (aQ)),fi 8 s1.1,fi 9 s4.1]∧B9 Eq (upd H0 q0.id none) [ob u1 4 eAh3 s10] H1) (by kernel_rfl) ?_ ?_
      ·clear h;have h:=hx;clear hx;cbv;obtain⟨u330_0,eu330_0,h⟩:=bind_some h;obtain⟨x371,ex371,h⟩:=bind_some h;obtain⟨u490_0,eu490_0,h⟩:=bind_some h;obtain⟨x531,ex531,h⟩:=bind_some h;obtain⟨u570_0,eu570_0,h⟩:=bind_some h;obtain⟨l612,el612,h⟩:=bind_some h;obtain⟨u650_0,eu650_0,h⟩:=bind_some h;obtain⟨l692,el692,h⟩:=bind_some h
       repeat' first|refine And.intro ?_ ?_|(refine J8 hE hO hq5 0 rfl (J0 eu330_0) fun hh=>?_;clear hh;cbv)|(refine M8 hE eAh7 hO hq5 0 rfl (J0 ex371) fun x371 hh=>?_;obtain rfl:=D9 hh;cbv)|(refine J8 hE hO hq5 0 rfl (J0 eu490_0) fun hh=>?_;clear hh;cbv)|(refine M8 hE eAh7 hO hq5 0 rfl (J0 ex531) fun x531 hh=>?_;obtain rfl:=D9 hh;cbv)|(refine J8 hE hO hq5 0 rfl (J0 eu570_0) fun hh=>?_;clear hh;cbv)|(refine Y3 hE (f:=eAh3) (esz:=4) (tz:=4) (off:=0) (u:=(fun x611:A4=>x371)) (fun _=>⟨_,.eq (eAh7 _) (.refl _),(by rw[eAh7];rfl),G1 _,rfl⟩) (by decide) hO hq5 0 rfl (J0 el612) fun l612 H hq5 hh hO=>?_;obtain rfl:=D9 hh;cbv)|(refine J8 hE hO hq5 0 rfl (J0 eu650_0) fun hh=>?_;clear hh;cbv)|(refine Y3 hE (f:=eAh3) (esz:=4) (tz:=4) (off:=0) (u:=(fun x691:A4=>x531)) (fun _=>⟨_,.eq (eAh7 _) (.refl _),(by rw[eAh7];rfl),G1 _,rfl⟩) (by decide) hO hq5 0 rfl (J0 el692) fun l692 H hq5 hh hO=>?_;obtain rfl:=D9 hh;cbv)|(have h:=D9 h;subst h;exact⟨_,⟨q5,hq5,rfl,rfl,hO⟩,.e2 (.e4 .z),rfl⟩)
      clear hx;rintro e l H ⟨q771,hq771,rfl,rfl,hO⟩;cbv;cases h;exact⟨_,q771,rfl,.e2 (.e4 .z),rfl,hq771,hO⟩
     cbv;cases h;exact⟨_,_,rfl,⟨q5,hq5,rfl,rfl,hO⟩,.e rfl (.e4 .z),rfl⟩
    cbv;cases h;exact⟨_,_,rfl,⟨q5,hq5,rfl,rfl,hO⟩,.e rfl (.e4 .z),rfl⟩
   ·exact .e2 (.e4 .z)
   ·exact⟨hq2,hO⟩
   clear hx;rintro e l H ⟨q772,hq772,rfl,rfl,hO⟩;cbv;cases h;exact⟨_,q772,rfl,.e rfl (.e4 .z),rfl,hq772,hO⟩
  cbv;cases h;exact⟨_,_,rfl,⟨q2,hq2,rfl,rfl,hO⟩,.e rfl .z,rfl⟩
 ·exact .e rfl (.e4 .z)
 ·exact⟨hq0,hO⟩
 clear hx;rintro e l H ⟨q773,hq773,rfl,rfl,hO⟩;cbv;cases h;obtain⟨q773,rfl⟩:=q773;exact hK _ 0 _ hq773 rfl hO
def cf266 :Cf:=⟨[],[(3000003,0),(3000003,1),(3000003,2),(3000003,3),(3000003,4),(3000003,5),(3000003,6),(3000003,7),(3000003,8),(3000003,9),(3000003,10),(3000003,11),(3000003,13),(3000003,14),(3000003,15),(3000003,16),(3000003,17),(3000003,19)],[],[2000003],[],[]⟩
set_option maxHeartbeats 2000000 in
theorem c266 (N:Nat) (aT:List A4) (aB:Int) (aC:Int) (aM:Int) (aQ:V) (aO:A4→A4→Option Int) (aX:∀y1 y2 q,aO y1 y2=some q→S0 prog aQ [(O8 y1),(O8 y2)] (vi q)) (r:(List A4)) (h:D5 N aT aB aC aM aO=some r):Kw prog 266 (fun q=>[.own q.id q.lo q.n,vi aB,vi aC,vi aM,aQ]) 4 (lst eAh3 aT) (lst eAh3 r):=by
 unfold D5 at h
 refine DO (T:=TT) (m:=5) cf266 K4 func266 (by rfl) (by kernel_rfl) call266 ntmps266 (by rfl) (fun _=>rfl) (by rfl) ?_;intro E H0 q0 K hE hq0 hO hK;cbv;obtain⟨s3,hx,h⟩:=bind_some h;refine M9 cf266 hE K4 (γ:=(JW q0)) (fun s1 g=>[(0,.v (.own g.id g.lo g.n)),fi 1 aB,fi 2 aC,fi 3 aM,fi 10 s1.1]) (fun s1 g H1=>T4 g (Ar.len s1.2)∧B9 Eq (upd H0 q0.id none) [ob g 4 eAh3 s1.2] H1) (fun x e l H1=>∃u1:(JW q0),T4 u1 (Ar.len x)∧e= .exit 0∧l=[(0,.v (.own u1.id u1.lo u1.n))]∧B9 Eq (upd H0 q0.id none) [ob u1 4 eAh3 x] H1) (by kernel_rfl) ?_ q0 hx ?_ ?_ ?_
 ·rintro s1 q2 H o ⟨hq2,hO⟩ h;clear hx;cbv;refine A8 hE h (fun _ h=>?_) fun _ h=>?_
  ·cbv;obtain⟨s4,hx,h⟩:=bind_some h;refine I7 cf266 hE K4 (fun e l H1=>∃u1:(JW q0),T4 u1 (Ar.len s4)∧e= .normal∧l=[(0,.v (.own u1.id u1.lo u1.n)),fi 1 aB,fi 2 aC,fi 3 aM,fi 10 s1.1]∧B9 Eq (upd H0 q0.id none) [ob u1 4 eAh3 s4] H1) (by kernel_rfl) ?_ ?_
   ·clear h;have h:=hx;clear hx;cbv;obtain⟨u484_0,eu484_0,h⟩:=bind_some h;obtain⟨x525,ex525,h⟩:=bind_some h;obtain⟨u724_0,eu724_0,h⟩:=bind_some h;obtain⟨x765,ex765,h⟩:=bind_some h;obtain⟨u804_0,eu804_0,h⟩:=bind_some h;obtain⟨l846,el846,h⟩:=bind_some h;obtain⟨u884_0,eu884_0,h⟩:=bind_some h;obtain⟨l926,el926,h⟩:=bind_some h
    repeat' first|refine And.intro ?_ ?_|(refine J8 hE hO hq2 0 rfl (J0 eu484_0) fun hh=>?_;clear hh;cbv)|(refine M8 hE eAh7 hO hq2 0 rfl (J0 ex525) fun x525 hh=>?_;obtain rfl:=D9 hh;cbv)|(refine J8 hE hO hq2 0 rfl (J0 eu724_0) fun hh=>?_;clear hh;cbv)|(refine M8 hE eAh7 hO hq2 0 rfl (J0 ex765) fun x765 hh=>?_;obtain rfl:=D9 hh;cbv)|(refine J8 hE hO hq2 0 rfl (J0 eu804_0) fun hh=>?_;clear hh;cbv)|(refine Y3 hE (f:=eAh3) (esz:=4) (tz:=4) (off:=0) (u:=(fun x845:A4=>x525)) (fun _=>⟨_,.eq (eAh7 _) (.refl _),(by rw[eAh7];rfl),G1 _,rfl⟩) (by decide) hO hq2 0 rfl (J0 el846) fun l846 H hq2 hh hO=>?_;obtain rfl:=D9 hh;cbv)|(refine J8 hE hO hq2 0 rfl (J0 eu884_0) fun hh=>?_;clear hh;cbv)|(refine Y3 hE (f:=eAh3) (esz:=4) (tz:=4) (off:=0) (u:=(fun x925:A4=>x765)) (fun _=>⟨_,.eq (eAh7 _) (.refl _),(by rw[eAh7];rfl),G1 _,rfl⟩) (by decide) hO hq2 0 rfl (J0 el926) fun l926 H hq2 hh hO=>?_;obtain rfl:=D9 hh;cbv)|(have h:=D9 h;subst h;exact⟨_,⟨q2,hq2,rfl,rfl,hO⟩,.e rfl (.e4 .z),rfl⟩)
   clear hx;rintro e l H ⟨q1005,hq1005,rfl,rfl,hO⟩;cbv;cases h;exact⟨_,q1005,rfl,.e rfl (.e4 .z),rfl,hq1005,hO⟩
  cbv;cases h;exact⟨_,_,rfl,⟨q2,hq2,rfl,rfl,hO⟩,.e rfl .z,rfl⟩
 ·exact .e rfl (.e4 .z)
 ·exact⟨hq0,hO⟩
 clear hx;rintro e l H ⟨q1006,hq1006,rfl,rfl,hO⟩;cbv;cases h;obtain⟨q1006,rfl⟩:=q1006;exact hK _ 0 _ hq1006 rfl hO
theorem c225 (N:Nat) (aT:List A4) (aB:Int) (aK:Int) (aC:Int) (aQ:V) (aO:A4→A4→Option Int) (aX:∀y1 y2 q,aO y1 y2=some q→S0 prog aQ [(O8 y1),(O8 y2)] (vi q)) (r:(List A4)) (h:H8 N aT aB aK aC aO=some r):Kw prog 225 (fun q=>[.own q.id q.lo q.n,vi aB,vi aK,vi aC,aQ]) 4 (lst eAh3 aT) (lst eAh3 r):=by
 unfold H8 at h
 refine DO (T:=TT) (m:=5) cf0 K4 func225 (by rfl) (by kernel_rfl) call225 ntmps225 (by rfl) (fun _=>rfl) (by rfl) ?_;intro E H0 q0 K hE hq0 hO hK;cbv;obtain⟨s3,hx,h⟩:=bind_some h;refine M9 cf0 hE K4 (γ:=(JW q0)) (fun s1 g=>[(0,.v (.own g.id g.lo g.n)),fi 2 aK,(4,.v (aQ)),fi 10 s1.1,fi 11 s1.2.1]) (fun s1 g H1=>T4 g (Ar.len s1.2.2)∧B9 Eq (upd H0 q0.id none) [ob g 4 eAh3 s1.2.2] H1) (fun x e l H1=>∃u1:(JW q0),T4 u1 (Ar.len x.2)∧e= .exit 0∧l=[(0,.v (.own u1.id u1.lo u1.n)),fi 2 aK,(4,.v (aQ)),fi 10 x.1]∧B9 Eq (upd H0 q0.id none) [ob u1 4 eAh3 x.2] H1) (by kernel_rfl) ?_ q0 hx ?_ ?_ ?_
 ·rintro s1 q2 H o ⟨hq2,hO⟩ h;clear hx;cbv;refine A8 hE h (fun _ h=>?_) fun _ h=>?_
  ·cbv;refine A8 hE h (fun _ h=>?_) fun _ h=>?_
   ·cbv;refine Bk hE hO hq2 0 rfl h (c266 N s1.2.2 (ar .sub .i64 aK s1.1) aK s1.2.1 aQ aO aX) (.refl _) fun l4 H hq2 hO h=>?_;cbv;cases h;exact⟨_,q2,rfl,.e rfl (.e4 .z),rfl,hq2,hO⟩
   cbv;refine Bk hE hO hq2 0 rfl h (c266 N s1.2.2 (ar .sub .i64 aK s1.1) (ar .sub .i64 (ar .add .i64 aK s1.2.1) s1.1) s1.1 aQ aO aX) (.refl _) fun l5 H hq2 hO h=>?_;cbv;cases h;exact⟨_,q2,rfl,.e rfl (.e4 .z),rfl,hq2,hO⟩
  cbv;cases h;exact⟨_,_,rfl,⟨q2,hq2,rfl,rfl,hO⟩,.e4 .z,rfl⟩
 ·exact .e rfl (.e4 .z)
 ·exact⟨hq0,hO⟩
 clear hx;rintro e l H ⟨q6,hq6,rfl,rfl,hO⟩;cbv;refine Bk hE hO hq6 0 rfl h (c266 N s3.2 (ar .sub .i64 aK s3.1) aK s3.1 aQ aO aX) (.refl _) fun l7 H hq6 hO h=>?_;cbv;cases h;obtain⟨q6,rfl⟩:=q6;exact hK _ 0 _ hq6 rfl hO
def cf173 :Cf:=⟨[],[(5,9),(17,9),(35,11),(3000011,0),(3000011,1),(3000011,2),(3000011,3),(3000011,4),(3000011,5),(3000011,6),(3000011,7),(3000011,9),(3000011,10),(3000011,11),(3000011,13),(3000023,0),(3000023,1),(3000023,2),(3000023,3),(3000023,4),(3000023,5),(3000023,6),(3000023,7),(3000023,9),(3000023,10),(3000023,11),(3000023,13)],[(140,29),(185,41),(199,43)],[2000011,2000023],[],[]⟩
set_option maxHeartbeats 2000000 in
theorem c173 (N:Nat):∀(n:Nat) (aT:List A4) (aB:Int) (aK:Int) (aC:Int) (aQ:V) (aO:A4→A4→Option Int) (aX:∀y1 y2 q,aO y1 y2=some q→S0 prog aQ [(O8 y1),(O8 y2)] (vi q)) (r:(List A4)),C3 N n aT aB aK aC aO=some r→Kw prog 173 (fun q=>[.own q.id q.lo q.n,vi aB,vi aK,vi aC,aQ]) 4 (lst eAh3 aT) (lst eAh3 r):=by
 intro n
 induction n with
 |zero=>intro aT aB aK aC aQ aO aX r h;cases h
 |succ n ih=>
 intro aT aB aK aC aQ aO aX r h
 unfold C3 at h
 refine DO (T:=TT) (m:=5) cf173 K4 func173 (by rfl) (by kernel_rfl) call173 ntmps173 (by rfl) (fun _=>rfl) (by rfl) ?_;intro E H0 q0 K hE hq0 hO hK;cbv;refine A8 hE h (fun _ h=>?_) fun _ h=>?_
 ·cbv;obtain⟨s2,hx,h⟩:=bind_some h;refine F3 cf173 hE K4 (fun s1=>[(0,.v (.own q0.id q0.lo q0.n)),fi 1 aB,(4,.v (aQ)),fi 10 s1.1,fi 11 s1.2]) (fun s1 H1=>B9 Eq (upd H0 q0.id none) [ob q0 4 eAh3 aT] H1) (fun x e l H1=>e= .exit 0∧l=[(0,.v (.own q0.id q0.lo q0.n)),fi 1 aB,fi 10 x]∧B9 Eq (upd H0 q0.id none) [ob q0 4 eAh3 aT] H1) (by kernel_rfl) ?_ hx ?_ hO ?_
  ·intro s1 H o hO h;clear hx;cbv;refine A8 hE h (fun _ h=>?_) fun _ h=>?_
   ·cbv;refine CT hE (Bg hE rfl) ?_;cbv;refine J8 hE hO hq0 0 rfl h fun h=>?_;cbv;refine M8 hE eAh7 hO hq0 0 rfl h fun x3 h=>?_;cbv;refine J8 hE hO hq0 0 rfl h fun h=>?_;cbv;refine M8 hE eAh7 hO hq0 0 rfl h fun x4 h=>?_;cbv;refine V7 hE (g:=fun r5=>vi r5) h (fun r5 hx=>aX x3 x4 r5 hx) (.refl _) fun r5 h=>?_;cbv;refine A8 hE h (fun _ h=>?_) fun _ h=>?_
    ·cbv;cases h;exact⟨_,rfl,.e rfl (.e4 .z),rfl,hO⟩
    cbv;cases h;exact⟨_,rfl,.e rfl (.e4 .z),rfl,hO⟩
   cbv;cases h;exact⟨_,_,rfl,⟨rfl,rfl,hO⟩,.e rfl (.e2 .z),rfl⟩
  ·exact .e rfl (.e4 .z)
  clear hx;rintro e l H ⟨rfl,rfl,hO⟩;cbv;obtain⟨s8,hx,h⟩:=bind_some h;refine M9 cf173 hE K4 (γ:=(JW q0)) (fun s6 g=>[(0,.v (.own g.id g.lo g.n)),fi 10 s2,fi 13 s6.1]) (fun s6 g H1=>T4 g (Ar.len s6.2)∧B9 Eq (upd H0 q0.id none) [ob g 4 eAh3 s6.2] H1) (fun x e l H1=>∃u1:(JW q0),T4 u1 (Ar.len x)∧e= .exit 2∧l=[(0,.v (.own u1.id u1.lo u1.n))]∧B9 Eq (upd H0 q0.id none) [ob u1 4 eAh3 x] H1) (by kernel_rfl) ?_ q0 hx ?_ ?_ ?_
  ·rintro s6 q7 H o ⟨hq7,hO⟩ h;clear hx;cbv;refine A8 hE h (fun _ h=>?_) fun _ h=>?_
   ·cbv;obtain⟨s9,hx,h⟩:=bind_some h;refine I7 cf173 hE K4 (fun e l H1=>∃u1:(JW q0),T4 u1 (Ar.len s9)∧e= .normal∧l=[(0,.v (.own u1.id u1.lo u1.n)),fi 10 s2,fi 13 s6.1]∧B9 Eq (upd H0 q0.id none) [ob u1 4 eAh3 s9] H1) (by kernel_rfl) ?_ ?_
    ·clear h;have h:=hx;clear hx;cbv;obtain⟨u329_0,eu329_0,h⟩:=bind_some h;obtain⟨x370,ex370,h⟩:=bind_some h;obtain⟨u489_0,eu489_0,h⟩:=bind_some h;obtain⟨x530,ex530,h⟩:=bind_some h;obtain⟨u569_0,eu569_0,h⟩:=bind_some h;obtain⟨l611,el611,h⟩:=bind_some h;obtain⟨u649_0,eu649_0,h⟩:=bind_some h;obtain⟨l691,el691,h⟩:=bind_some h
     repeat' first|refine And.intro ?_ ?_|(refine J8 hE hO hq7 0 rfl (J0 eu329_0) fun hh=>?_;clear hh;cbv)|(refine M8 hE eAh7 hO hq7 0 rfl (J0 ex370) fun x370 hh=>?_;obtain rfl:=D9 hh;cbv)|(refine J8 hE hO hq7 0 rfl (J0 eu489_0) fun hh=>?_;clear hh;cbv)|(refine M8 hE eAh7 hO hq7 0 rfl (J0 ex530) fun x530 hh=>?_;obtain rfl:=D9 hh;cbv)|(refine J8 hE hO hq7 0 rfl (J0 eu569_0) fun hh=>?_;clear hh;cbv)|(refine Y3 hE (f:=eAh3) (esz:=4) (tz:=4) (off:=0) (u:=(fun x610:A4=>x370)) (fun _=>⟨_,.eq (eAh7 _) (.refl _),(by rw[eAh7];rfl),G1 _,rfl⟩) (by decide) hO hq7 0 rfl (J0 el611) fun l611 H hq7 hh hO=>?_;obtain rfl:=D9 hh;cbv)|(refine J8 hE hO hq7 0 rfl (J0 eu649_0) fun hh=>?_;clear hh;cbv)|(refine Y3 hE (f:=eAh3) (esz:=4) (tz:=4) (off:=0) (u:=(fun x690:A4=>x530)) (fun _=>⟨_,.eq (eAh7 _) (.refl _),(by rw[eAh7];rfl),G1 _,rfl⟩) (by decide) hO hq7 0 rfl (J0 el691) fun l691 H hq7 hh hO=>?_;obtain rfl:=D9 hh;cbv)|(have h:=D9 h;subst h;exact⟨_,⟨q7,hq7,rfl,rfl,hO⟩,.e rfl (.e2 .z),rfl⟩)
    clear hx;rintro e l H ⟨q770,hq770,rfl,rfl,hO⟩;cbv;cases h;exact⟨_,q770,rfl,.e rfl (.e2 .z),rfl,hq770,hO⟩
   cbv;cases h;exact⟨_,_,rfl,⟨q7,hq7,rfl,rfl,hO⟩,.e rfl .z,rfl⟩
  ·exact .e rfl (.e2 .z)
  ·exact⟨hq0,hO⟩
  clear hx;rintro e l H ⟨q771,hq771,rfl,rfl,hO⟩;cbv;cases h;obtain⟨q771,rfl⟩:=q771;exact hK _ 0 _ hq771 rfl hO
 cbv;refine A8 hE h (fun _ h=>?_) fun _ h=>?_
 ·cbv;obtain⟨s773,hx,h⟩:=bind_some h;refine F3 cf173 hE K4 (fun s772=>[(0,.v (.own q0.id q0.lo q0.n)),fi 2 aK,(4,.v (aQ)),fi 14 s772.1,fi 15 s772.2]) (fun s772 H1=>B9 Eq (upd H0 q0.id none) [ob q0 4 eAh3 aT] H1) (fun x e l H1=>e= .exit 4∧l=[(0,.v (.own q0.id q0.lo q0.n)),fi 2 aK,fi 14 x]∧B9 Eq (upd H0 q0.id none) [ob q0 4 eAh3 aT] H1) (by kernel_rfl) ?_ hx ?_ hO ?_
  ·intro s772 H o hO h;clear hx;cbv;refine A8 hE h (fun _ h=>?_) fun _ h=>?_
   ·cbv;refine CT hE (Bg hE rfl) ?_;cbv;refine J8 hE hO hq0 0 rfl h fun h=>?_;cbv;refine M8 hE eAh7 hO hq0 0 rfl h fun x774 h=>?_;cbv;refine J8 hE hO hq0 0 rfl h fun h=>?_;cbv;refine M8 hE eAh7 hO hq0 0 rfl h fun x775 h=>?_;cbv;refine V7 hE (g:=fun r776=>vi r776) h (fun r776 hx=>aX x774 x775 r776 hx) (.refl _) fun r776 h=>?_;cbv;refine A8 hE h (fun _ h=>?_) fun _ h=>?_
    ·cbv;cases h;exact⟨_,rfl,.e rfl (.e4 .z),rfl,hO⟩
    cbv;cases h;exact⟨_,rfl,.e rfl (.e4 .z),rfl,hO⟩
   cbv;cases h;exact⟨_,_,rfl,⟨rfl,rfl,hO⟩,.e rfl (.e2 .z),rfl⟩
  ·exact .e rfl (.e4 .z)
  clear hx;rintro e l H ⟨rfl,rfl,hO⟩;cbv;obtain⟨s779,hx,h⟩:=bind_some h;refine M9 cf173 hE K4 (γ:=(JW q0)) (fun s777 g=>[(0,.v (.own g.id g.lo g.n)),fi 14 s773,fi 17 s777.1]) (fun s777 g H1=>T4 g (Ar.len s777.2)∧B9 Eq (upd H0 q0.id none) [ob g 4 eAh3 s777.2] H1) (fun x e l H1=>∃u1:(JW q0),T4 u1 (Ar.len x)∧e= .exit 6∧l=[(0,.v (.own u1.id u1.lo u1.n))]∧B9 Eq (upd H0 q0.id none) [ob u1 4 eAh3 x] H1) (by kernel_rfl) ?_ q0 hx ?_ ?_ ?_
  ·rintro s777 q778 H o ⟨hq778,hO⟩ h;clear hx;cbv;refine A8 hE h (fun _ h=>?_) fun _ h=>?_
   ·cbv;obtain⟨s780,hx,h⟩:=bind_some h;refine I7 cf173 hE K4 (fun e l H1=>∃u1:(JW q0),T4 u1 (Ar.len s780)∧e= .normal∧l=[(0,.v (.own u1.id u1.lo u1.n)),fi 14 s773,fi 17 s777.1]∧B9 Eq (upd H0 q0.id none) [ob u1 4 eAh3 s780] H1) (by kernel_rfl) ?_ ?_
    ·clear h;have h:=hx;clear hx;cbv;obtain⟨u1100_0,eu1100_0,h⟩:=bind_some h;obtain⟨x1141,ex1141,h⟩:=bind_some h;obtain⟨u1260_0,eu1260_0,h⟩:=bind_some h;obtain⟨x1301,ex1301,h⟩:=bind_some h;obtain⟨u1340_0,eu1340_0,h⟩:=bind_some h;obtain⟨l1382,el1382,h⟩:=bind_some h;obtain⟨u1420_0,eu1420_0,h⟩:=bind_some h;obtain⟨l1462,el1462,h⟩:=bind_some h
     repeat' first|refine And.intro ?_ ?_|(refine J8 hE hO hq778 0 rfl (J0 eu1100_0) fun hh=>?_;clear hh;cbv)|(refine M8 hE eAh7 hO hq778 0 rfl (J0 ex1141) fun x1141 hh=>?_;obtain rfl:=D9 hh;cbv)|(refine J8 hE hO hq778 0 rfl (J0 eu1260_0) fun hh=>?_;clear hh;cbv)|(refine M8 hE eAh7 hO hq778 0 rfl (J0 ex1301) fun x1301 hh=>?_;obtain rfl:=D9 hh;cbv)|(refine J8 hE hO hq778 0 rfl (J0 eu1340_0) fun hh=>?_;clear hh;cbv)|(refine Y3 hE (f:=eAh3) (esz:=4) (tz:=4) (off:=0) (u:=(fun x1381:A4=>x1141)) (fun _=>⟨_,.eq (eAh7 _) (.refl _),(by rw[eAh7];rfl),G1 _,rfl⟩) (by decide) hO hq778 0 rfl (J0 el1382) fun l1382 H hq778 hh hO=>?_;obtain rfl:=D9 hh;cbv)|(refine J8 hE hO hq778 0 rfl (J0 eu1420_0) fun hh=>?_;clear hh;cbv)|(refine Y3 hE (f:=eAh3) (esz:=4) (tz:=4) (off:=0) (u:=(fun x1461:A4=>x1301)) (fun _=>⟨_,.eq (eAh7 _) (.refl _),(by rw[eAh7];rfl),G1 _,rfl⟩) (by decide) hO hq778 0 rfl (J0 el1462) fun l1462 H hq778 hh hO=>?_;obtain rfl:=D9 hh;cbv)|(have h:=D9 h;subst h;exact⟨_,⟨q778,hq778,rfl,rfl,hO⟩,.e rfl (.e2 .z),rfl⟩)
    clear hx;rintro e l H ⟨q1541,hq1541,rfl,rfl,hO⟩;cbv;cases h;exact⟨_,q1541,rfl,.e rfl (.e2 .z),rfl,hq1541,hO⟩
   cbv;cases h;exact⟨_,_,rfl,⟨q778,hq778,rfl,rfl,hO⟩,.e rfl .z,rfl⟩
  ·exact .e rfl (.e2 .z)
  ·exact⟨hq0,hO⟩
  clear hx;rintro e l H ⟨q1542,hq1542,rfl,rfl,hO⟩;cbv;cases h;obtain⟨q1542,rfl⟩:=q1542;exact hK _ 0 _ hq1542 rfl hO
 cbv;refine CT hE (Bg hE rfl) ?_;cbv;obtain⟨s1543,hx,h⟩:=bind_some h;refine I7 cf173 hE K4 (fun e l H1=>e= .normal∧l=[(0,.v (.own q0.id q0.lo q0.n)),fi 1 aB,fi 2 aK,fi 3 aC,(4,.v (aQ)),(18,.v (vi (wr .i64 (sh .shr .u64 (wr .u64 (ar .add .i64 aB aC)) 1)))),(19,.v (vi (ar .add .i64 (wr .i64 (sh .shr .u64 (wr .u64 (ar .add .i64 aB aC)) 1)) aK))),fi 20 s1543.1,fi 21 s1543.2]∧B9 Eq (upd H0 q0.id none) [ob q0 4 eAh3 aT] H1) (by kernel_rfl) ?_ ?_
 ·clear h;have h:=hx;clear hx;cbv;refine A8 hE h (fun _ h=>?_) fun _ h=>?_
  ·cbv;cases h;exact⟨_,⟨rfl,rfl,hO⟩,.e rfl (.e4 (.e4 .z)),rfl⟩
  cbv;cases h;exact⟨_,⟨rfl,rfl,hO⟩,.e rfl (.e4 (.e4 .z)),rfl⟩
 clear hx;rintro e l H ⟨rfl,rfl,hO⟩;cbv;obtain⟨s1545,hx,h⟩:=bind_some h;refine F3 cf173 hE K4 (fun s1544=>[(0,.v (.own q0.id q0.lo q0.n)),fi 1 aB,fi 2 aK,fi 3 aC,(4,.v (aQ)),(18,.v (vi (wr .i64 (sh .shr .u64 (wr .u64 (ar .add .i64 aB aC)) 1)))),(19,.v (vi (ar .add .i64 (wr .i64 (sh .shr .u64 (wr .u64 (ar .add .i64 aB aC)) 1)) aK))),fi 20 s1544.1,fi 21 s1544.2,(22,.v (vi (ar .sub .i64 (ar .add .i64 (wr .i64 (sh .shr .u64 (wr .u64 (ar .add .i64 aB aC)) 1)) aK) 1)))]) (fun s1544 H1=>B9 Eq (upd H0 q0.id none) [ob q0 4 eAh3 aT] H1) (fun x e l H1=>e= .exit 8∧l=[(0,.v (.own q0.id q0.lo q0.n)),fi 1 aB,fi 2 aK,fi 3 aC,(4,.v (aQ)),(18,.v (vi (wr .i64 (sh .shr .u64 (wr .u64 (ar .add .i64 aB aC)) 1)))),(19,.v (vi (ar .add .i64 (wr .i64 (sh .shr .u64 (wr .u64 (ar .add .i64 aB aC)) 1)) aK))),fi 20 x]∧B9 Eq (upd H0 q0.id none) [ob q0 4 eAh3 aT] H1) (by kernel_rfl) ?_ hx ?_ hO ?_
 ·intro s1544 H o hO h;clear hx;cbv;refine A8 hE h (fun _ h=>?_) fun _ h=>?_
  ·cbv;refine CT hE (Bg hE rfl) ?_;cbv;refine J8 hE hO hq0 0 rfl h fun h=>?_;cbv;refine M8 hE eAh7 hO hq0 0 rfl h fun x1546 h=>?_;cbv;refine J8 hE hO hq0 0 rfl h fun h=>?_;cbv;refine M8 hE eAh7 hO hq0 0 rfl h fun x1547 h=>?_;cbv;refine V7 hE (g:=fun r1548=>vi r1548) h (fun r1548 hx=>aX x1546 x1547 r1548 hx) (.refl _) fun r1548 h=>?_;cbv;refine A8 hE h (fun _ h=>?_) fun _ h=>?_
   ·cbv;cases h;exact⟨_,rfl,.e2 (.e4 (.e4 .z)),rfl,hO⟩
   cbv;cases h;exact⟨_,rfl,.e2 (.e4 (.e4 .z)),rfl,hO⟩
  cbv;cases h;exact⟨_,_,rfl,⟨rfl,rfl,hO⟩,.e4 (.e4 .z),rfl⟩
 ·exact .e2 (.e4 (.e4 .z))
 clear hx;rintro e l H ⟨rfl,rfl,hO⟩;cbv;obtain⟨s1549,hx,h⟩:=bind_some h;refine I7 cf173 hE K4 (fun e l H1=>∃u1:(JW q0),T4 u1 (Ar.len s1549)∧e= .normal∧l=[(0,.v (.own u1.id u1.lo u1.n)),fi 1 aB,fi 3 aC,(4,.v (aQ)),(18,.v (vi (wr .i64 (sh .shr .u64 (wr .u64 (ar .add .i64 aB aC)) 1)))),fi 20 s1545,(24,.v (vi (ar .sub .i64 (ar .add .i64 (wr .i64 (sh .shr .u64 (wr .u64 (ar .add .i64 aB aC)) 1)) aK) s1545)))]∧B9 Eq (upd H0 q0.id none) [ob u1 4 eAh3 s1549] H1) (by kernel_rfl) ?_ ?_
 ·clear h;have h:=hx;clear hx;cbv;refine A8 hE h (fun _ h=>?_) fun _ h=>?_
  ·cbv;refine Bk hE hO hq0 0 rfl h (c225 N aT s1545 aK (ar .sub .i64 (ar .add .i64 (wr .i64 (sh .shr .u64 (wr .u64 (ar .add .i64 aB aC)) 1)) aK) s1545) aQ aO aX) (.refl _) fun l1550 H hq0 hO h=>?_;cbv;cases h;exact⟨_,⟨q0,hq0,rfl,rfl,hO⟩,.e rfl (.e2 (.e4 .z)),rfl⟩
  cbv;cases h;exact⟨_,⟨q0,hq0,rfl,rfl,hO⟩,.e rfl (.e2 (.e4 .z)),rfl⟩
 clear hx;rintro e l H ⟨q1551,hq1551,rfl,rfl,hO⟩;cbv;obtain⟨s1552,hx,h⟩:=bind_some h;refine I7 cf173 hE K4 (fun e l H1=>∃u1:(JW q0),T4 u1 (Ar.len s1552)∧e= .normal∧l=[(0,.v (.own u1.id u1.lo u1.n)),fi 3 aC,(4,.v (aQ)),(18,.v (vi (wr .i64 (sh .shr .u64 (wr .u64 (ar .add .i64 aB aC)) 1)))),(24,.v (vi (ar .sub .i64 (ar .add .i64 (wr .i64 (sh .shr .u64 (wr .u64 (ar .add .i64 aB aC)) 1)) aK) s1545)))]∧B9 Eq (upd H0 q0.id none) [ob u1 4 eAh3 s1552] H1) (by kernel_rfl) ?_ ?_
 ·clear h;have h:=hx;clear hx;cbv;refine A8 hE h (fun _ h=>?_) fun _ h=>?_
  ·cbv;refine Bk hE hO hq1551 0 rfl h (ih s1549 aB s1545 (wr .i64 (sh .shr .u64 (wr .u64 (ar .add .i64 aB aC)) 1)) aQ aO aX) (.refl _) fun l1553 H hq1551 hO h=>?_;cbv;cases h;exact⟨_,⟨q1551,hq1551,rfl,rfl,hO⟩,.e rfl (.e4 .z),rfl⟩
  cbv;cases h;exact⟨_,⟨q1551,hq1551,rfl,rfl,hO⟩,.e rfl (.e4 .z),rfl⟩
 clear hx;rintro e l H ⟨q1554,hq1554,rfl,rfl,hO⟩;cbv;refine A8 hE h (fun _ h=>?_) fun _ h=>?_
 ·cbv;refine Bk hE hO hq1554 0 rfl h (ih s1552 (wr .i64 (sh .shr .u64 (wr .u64 (ar .add .i64 aB aC)) 1)) (ar .sub .i64 (ar .add .i64 (wr .i64 (sh .shr .u64 (wr .u64 (ar .add .i64 aB aC)) 1)) aK) s1545) aC aQ aO aX) (.refl _) fun l1555 H hq1554 hO h=>?_;cbv;cases h;obtain⟨q1554,rfl⟩:=q1554;exact hK _ 0 _ hq1554 rfl hO
 cbv;cases h;obtain⟨q1554,rfl⟩:=q1554;exact hK _ 0 _ hq1554 rfl hO
theorem c130 (N:Nat) (aT:List A4) (aM:Int) (aQ:V) (aO:A4→A4→Option Int) (aX:∀y1 y2 q,aO y1 y2=some q→S0 prog aQ [(O8 y1),(O8 y2)] (vi q)) (r:(List A4)) (h:J1 N aT aM aO=some r):Kw prog 130 (fun q=>[.own q.id q.lo q.n,vi aM,aQ]) 4 (lst eAh3 aT) (lst eAh3 r):=by
 unfold J1 at h
 refine DO (T:=TT) (m:=3) cf0 K4 func130 (by rfl) (by kernel_rfl) call130 ntmps130 (by rfl) (fun _=>rfl) (by rfl) ?_;intro E H0 q0 K hE hq0 hO hK;cbv;obtain⟨s3,hx,h⟩:=bind_some h;refine M9 cf0 hE K4 (γ:=(JW q0)) (fun s1 g=>[(0,.v (.own g.id g.lo g.n)),fi 1 aM,(2,.v (aQ)),fi 6 20,fi 7 s1.1,fi 8 s1.2.1]) (fun s1 g H1=>T4 g (Ar.len s1.2.2)∧B9 Eq (upd H0 q0.id none) [ob g 4 eAh3 s1.2.2] H1) (fun x e l H1=>∃u1:(JW q0),T4 u1 (Ar.len x.2)∧e= .exit 0∧l=[(0,.v (.own u1.id u1.lo u1.n)),fi 1 aM,(2,.v (aQ)),fi 6 20,fi 7 x.1]∧B9 Eq (upd H0 q0.id none) [ob u1 4 eAh3 x.2] H1) (by kernel_rfl) ?_ q0 hx ?_ ?_ ?_
 ·rintro s1 q2 H o ⟨hq2,hO⟩ h;clear hx;cbv;refine A8 hE h (fun _ h=>?_) fun _ h=>?_
  ·cbv;refine Bk hE hO hq2 0 rfl h (c172 N s1.2.2 s1.1 s1.2.1 aQ aO aX) (.refl _) fun l4 H hq2 hO h=>?_;cbv;cases h;exact⟨_,q2,rfl,.e2 (.e4 .z),rfl,hq2,hO⟩
  cbv;cases h;exact⟨_,_,rfl,⟨q2,hq2,rfl,rfl,hO⟩,.e rfl (.e4 .z),rfl⟩
 ·exact .e2 (.e4 .z)
 ·exact⟨hq0,hO⟩
 clear hx;rintro e l H ⟨q5,hq5,rfl,rfl,hO⟩;cbv;refine Bk hE hO hq5 0 rfl h (c172 N s3.2 s3.1 aM aQ aO aX) (.refl _) fun l6 H hq5 hO h=>?_;cbv;obtain⟨s9,hx,h⟩:=bind_some h;refine M9 cf0 hE K4 (γ:=(JW q0)) (fun s7 g=>[(0,.v (.own g.id g.lo g.n)),fi 1 aM,(2,.v (aQ)),fi 6 s7.1]) (fun s7 g H1=>T4 g (Ar.len s7.2)∧B9 Eq (upd H0 q0.id none) [ob g 4 eAh3 s7.2] H1) (fun x e l H1=>∃u1:(JW q0),T4 u1 (Ar.len x)∧e= .exit 2∧l=[(0,.v (.own u1.id u1.lo u1.n))]∧B9 Eq (upd H0 q0.id none) [ob u1 4 eAh3 x] H1) (by kernel_rfl) ?_ q5 hx ?_ ?_ ?_
 ·rintro s7 q8 H o ⟨hq8,hO⟩ h;clear hx;cbv;refine A8 hE h (fun _ h=>?_) fun _ h=>?_
  ·cbv;obtain⟨s12,hx,h⟩:=bind_some h;refine M9 cf0 hE K4 (γ:=(JW q0)) (fun s10 g=>[(0,.v (.own g.id g.lo g.n)),fi 1 aM,(2,.v (aQ)),fi 6 s7.1,fi 7 s10.1,fi 8 s10.2.1]) (fun s10 g H1=>T4 g (Ar.len s10.2.2)∧B9 Eq (upd H0 q0.id none) [ob g 4 eAh3 s10.2.2] H1) (fun x e l H1=>∃u1:(JW q0),T4 u1 (Ar.len x.2)∧e= .exit 4∧l=[(0,.v (.own u1.id u1.lo u1.n)),fi 1 aM,(2,.v (aQ)),fi 6 s7.1,fi 7 x.1]∧B9 Eq (upd H0 q0.id none) [ob u1 4 eAh3 x.2] H1) (by kernel_rfl) ?_ q8 hx ?_ ?_ ?_
   ·rintro s10 q11 H o ⟨hq11,hO⟩ h;clear hx;cbv;refine A8 hE h (fun _ h=>?_) fun _ h=>?_
    ·cbv;refine Bk hE hO hq11 0 rfl h (c173 N N s10.2.2 s10.1 (ar .add .i64 s10.1 s7.1) s10.2.1 aQ aO aX) (.refl _) fun l13 H hq11 hO h=>?_;cbv;cases h;exact⟨_,q11,rfl,.e2 (.e4 .z),rfl,hq11,hO⟩
    cbv;cases h;exact⟨_,_,rfl,⟨q11,hq11,rfl,rfl,hO⟩,.e rfl (.e4 .z),rfl⟩
   ·exact .e2 (.e4 .z)
   ·exact⟨hq8,hO⟩
   clear hx;rintro e l H ⟨q14,hq14,rfl,rfl,hO⟩;cbv;refine A8 hE h (fun _ h=>?_) fun _ h=>?_
   ·cbv;refine Bk hE hO hq14 0 rfl h (c173 N N s12.2 s12.1 (ar .add .i64 s12.1 s7.1) aM aQ aO aX) (.refl _) fun l15 H hq14 hO h=>?_;cbv;cases h;exact⟨_,q14,rfl,.e4 .z,rfl,hq14,hO⟩
   cbv;cases h;exact⟨_,q14,rfl,.e4 .z,rfl,hq14,hO⟩
  cbv;cases h;exact⟨_,_,rfl,⟨q8,hq8,rfl,rfl,hO⟩,.e rfl .z,rfl⟩
 ·exact .e4 .z
 ·exact⟨hq5,hO⟩
 clear hx;rintro e l H ⟨q16,hq16,rfl,rfl,hO⟩;cbv;cases h;obtain⟨q16,rfl⟩:=q16;exact hK _ 0 _ hq16 rfl hO
end Go.Ab
