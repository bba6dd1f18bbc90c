/- GVCo4 GVCo5 -/
import Derived.Test.YtjhobbohibnioaaGreatDoorD13
set_option linter.all false
open Go.Ab.Ar (cmp lst)
namespace Go.Ab
open Go.RowKit Go.Proofs Go.Proofs.Tryz I8
variable [Ar][I8]
set_option maxRecDepth 100000
theorem c319 (N aW aJ r)(h:V2 N aW aJ=some r):B6 prog 319 [vi aW,(D7 aJ)] (.bool r):=by
 unfold V2 at h
 refine J2 cf0 func319 call319 ntmps319 ?_;intro E H0 K hE hK hO;cbv;cases h;exact hK hO (.refl _)
def cf284 :Cf:=⟨[],[],[(69,15)],[],[],[]⟩
theorem c284 (N aB r) (h:CX N aB=some r):B6 prog 284 [(S2 aB)] (vi r):=by
 unfold CX at h
 refine J2 cf284 func284 call284 ntmps284 ?_;intro E H0 K hE hK hO;cbv;refine A4 hE h (c316 N aB.Op) (.refl _) fun r1 h=>?_;cbv;refine A5 hE h (fun _ h=>?_) fun _ h=>?_
 ·cbv;cases h;exact hK hO (.refl _)
 cbv;refine E0 hE ?_;cbv;refine A5 hE h (fun _ h=>?_) fun _ h=>?_
 ·cbv;cases h;exact hK hO (.refl _)
 cbv;refine A4 hE h (c317 N aB.Op) (.refl _) fun r2 h=>?_;cbv;refine A5 hE h (fun _ h=>?_) fun _ h=>?_
 ·cbv;cases h;exact hK hO (.refl _)
 cbv;refine A5 hE h (fun _ h=>?_) fun _ h=>?_
 ·cbv;cases h;exact hK hO (.refl _)
 cbv;obtain⟨s3,hx,h⟩:=bind_some h;refine J4 cf284 hE L4 (fun e l H1=>match(generalizing:=false) s3 with| .inl y=>e= .normal∧l=[(1,.v (.eref (Ay aB) 0)),(4,.v (.bool r2.1)),(5,.v (.bool r2.2)),(6,.v (.bool (cmp .eql aB.Op 4))),(7,.v (.bool (Ar.or (cmp .eql aB.Op 4) (cmp .eql aB.Op 0))))]∧C3 Eq H0 [] H1| .inr y=>e= .ret∧l=[fi 2 y]∧C3 Eq H0 [] H1) (by kernel_rfl) ?_ ?_
 ·clear h;have h:=hx;clear hx;cbv;refine A5 hE h (fun _ h=>?_) fun _ h=>?_
  ·cbv;refine A4 hE h (c318 N aB.Value) (.refl _) fun r4 h=>?_;cbv;refine A5 hE h (fun _ h=>?_) fun _ h=>?_
   ·cbv;cases h;exact⟨_,⟨rfl,rfl,hO⟩,.e rfl .z,rfl⟩
   cbv;cases h;exact⟨_,⟨rfl,rfl,hO⟩,.e rfl (.e4 .z),rfl⟩
  cbv;cases h;exact⟨_,⟨rfl,rfl,hO⟩,.e rfl (.e4 .z),rfl⟩
 clear hx
 rcases s3 with y5|y7
 ·rintro e l H ⟨rfl,rfl,hO⟩;cbv;refine A5 hE h (fun _ h=>?_) fun _ h=>?_
  ·cbv;refine A4 hE h (c319 N aB.Kind aB.Value) (.refl _) fun r6 h=>?_;cbv;refine A5 hE h (fun _ h=>?_) fun _ h=>?_
   ·cbv;cases h;exact hK hO (.refl _)
   cbv;refine A5 hE h (fun _ h=>?_) fun _ h=>?_
   ·cbv;cases h;exact hK hO (.refl _)
   cbv;cases h;exact hK hO (.refl _)
  cbv;refine A5 hE h (fun _ h=>?_) fun _ h=>?_
  ·cbv;cases h;exact hK hO (.refl _)
  cbv;cases h;exact hK hO (.refl _)
 rintro e l H ⟨rfl,rfl,hO⟩;cbv;cases h;exact hK hO (.refl _)
theorem c242 (N:Nat):∀n aB r,Ae N n aB=some r→B6 prog 242 [(S2 aB)] (vi r):=by
 intro n
 induction n with
 |zero=>intro aB r h;cases h
 |succ n ih=>
 intro aB r h
 unfold Ae at h
 refine J2 cf0 func242 call242 ntmps242 ?_;intro E H0 K hE hK hO;cbv;refine A4 hE h (c284 N aB) (.refl _) fun r1 h=>?_;cbv;refine A5 hE h (fun _ h=>?_) fun _ h=>?_
 ·cbv;cases h;exact hK hO (.refl _)
 cbv;obtain⟨s3,hx,h⟩:=bind_some h;refine E6 cf0 hE L4 (fun s2=>[(1,.v (.eref (Ay aB) 0)),fi 4 s2]) (fun s2 H1=>C3 Eq H0 [] H1) (fun x e l H1=>match(generalizing:=false) x with| .inl y=>e= .exit 0∧l=[]∧C3 Eq H0 [] H1| .inr y=>e= .ret∧l=[fi 2 y]∧C3 Eq H0 [] H1) (by kernel_rfl) ?_ hx ?_ hO ?_
 ·intro s2 H o hO h;clear hx;cbv;refine E0 hE ?_;cbv;refine A5 hE h (fun _ h=>?_) fun _ h=>?_
  ·cbv;refine C1 hE eAv9 h fun x4 h=>?_;cbv;refine A4 hE h (ih x4) (.refl _) fun r5 h=>?_;cbv;refine A5 hE h (fun _ h=>?_) fun _ h=>?_
   ·cbv;cases h;exact⟨_,_,rfl,⟨rfl,rfl,hO⟩,.e rfl .z,rfl⟩
   cbv;cases h;exact⟨_,rfl,.e2 .z,rfl,hO⟩
  cbv;cases h;exact⟨_,_,rfl,⟨rfl,rfl,hO⟩,.z,rfl⟩
 ·exact .e2 .z
 clear hx
 rcases s3 with y6|y7
 ·rintro e l H ⟨rfl,rfl,hO⟩;cbv;cases h;exact hK hO (.refl _)
 rintro e l H ⟨rfl,rfl,hO⟩;cbv;cases h;exact hK hO (.refl _)
theorem c197 (N aB r)(h:Bk N aB=some r):B6 prog 197 [(S2 aB)] (vi r):=by
 unfold Bk at h
 refine J2 cf0 func197 call197 ntmps197 ?_;intro E H0 K hE hK hO;cbv;refine A4 hE h (c174 N N aB 64) (.refl _) fun r1 h=>?_;cbv;refine A5 hE h (fun _ h=>?_) fun _ h=>?_
 ·cbv;cases h;exact hK hO (.refl _)
 cbv;refine A4 hE h (c175 N N aB) (.refl _) fun r2 h=>?_;cbv;refine A5 hE h (fun _ h=>?_) fun _ h=>?_
 ·cbv;cases h;exact hK hO (.refl _)
 cbv;refine A4 hE h (c242 N N aB) (.refl _) fun r3 h=>?_;cbv;cases h;exact hK hO (.refl _)
def cf198 :Cf:=⟨[],[(6,10)],[],[],[],[]⟩
theorem c198 (N:Nat):∀n aC aD r,Q9 N n aC aD=some r→B6 prog 198 [(S2 aC),(S2 aD)] (.bool r):=by
 intro n
 induction n with
 |zero=>intro aC aD r h;cases h
 |succ n ih=>
 intro aC aD r h
 unfold Q9 at h
 refine J2 cf198 func198 call198 ntmps198 ?_;intro E H0 K hE hK hO;cbv;refine E0 hE ?_;cbv;refine E0 hE ?_;cbv;refine A5 hE h (fun _ h=>?_) fun _ h=>?_
 ·cbv;cases h;exact hK hO (.refl _)
 cbv;obtain⟨s2,hx,h⟩:=bind_some h;refine E6 cf198 hE L4 (fun s1=>[(2,.v (.eref (Ay aC) 0)),(3,.v (.eref (Ay aD) 0)),fi 5 s1]) (fun s1 H1=>C3 Eq H0 [] H1) (fun x e l H1=>match(generalizing:=false) x with| .inl y=>e= .exit 0∧l=[]∧C3 Eq H0 [] H1| .inr y=>e= .ret∧l=[(4,.b false)]∧C3 Eq H0 [] H1) (by kernel_rfl) ?_ hx ?_ hO ?_
 ·intro s1 H o hO h;clear hx;cbv;refine E0 hE ?_;cbv;refine A5 hE h (fun _ h=>?_) fun _ h=>?_
  ·cbv;refine C1 hE eAv9 h fun x3 h=>?_;cbv;refine C1 hE eAv9 h fun x4 h=>?_;cbv;refine A4 hE h (ih x3 x4) (.refl _) fun r5 h=>?_;cbv;refine A5 hE h (fun _ h=>?_) fun _ h=>?_
   ·cbv;cases h;exact⟨_,_,rfl,⟨rfl,rfl,hO⟩,.b rfl (.z),rfl⟩
   cbv;cases h;exact⟨_,rfl,.e rfl (.e2 .z),rfl,hO⟩
  cbv;cases h;exact⟨_,_,rfl,⟨rfl,rfl,hO⟩,.z,rfl⟩
 ·exact .e rfl (.e2 .z)
 clear hx
 rcases s2 with y6|y7
 ·rintro e l H ⟨rfl,rfl,hO⟩;cbv;cases h;exact hK hO (.refl _)
 rintro e l H ⟨rfl,rfl,hO⟩;cbv;cases h;exact hK hO (.refl _)
def cf152 :Cf:=⟨[],[(5,11),(6,21)],[(51,10)],[],[],[]⟩
theorem c152 (N aA r) (h:W0 N aA=some r):B6 prog 152 [(C0 aA)] (vi r):=by
 unfold W0 at h
 refine J2 cf152 func152 call152 ntmps152 ?_;intro E H0 K hE hK hO;cbv;refine A5 hE h (fun _ h=>?_) fun _ h=>?_
 ·cbv;cases h;exact hK hO (.refl _)
 cbv;refine A4 hE h (c194 N aA) (.refl _) fun r1 h=>?_;cbv;refine A5 hE h (fun _ h=>?_) fun _ h=>?_
 ·cbv;cases h;exact hK hO (.refl _)
 cbv;refine C7 hE (g:=fun r2=>.bool r2) h (c102 N aA) (.refl _) fun r2 h=>?_;cbv;refine C7 hE (g:=fun r3=>.bool r3) h (c103 N aA) (.refl _) fun r3 h=>?_;cbv;refine A5 hE h (fun _ h=>?_) fun _ h=>?_
 ·cbv;refine C7 hE (g:=fun r4=>.bool r4) h (c195 N aA) (.refl _) fun r4 h=>?_;cbv;refine C7 hE (g:=fun r5=>.bool r5) h (c196 N r2 aA.Typ 15) (.refl _) fun r5 h=>?_;cbv;refine A5 hE h (fun _ h=>?_) fun _ h=>?_
  ·cbv;cases h;exact hK hO (.refl _)
  cbv;refine C7 hE (g:=fun r6=>.bool r6) h (c196 N r2 aA.Var 15) (.refl _) fun r6 h=>?_;cbv;refine A5 hE h (fun _ h=>?_) fun _ h=>?_
  ·cbv;cases h;exact hK hO (.refl _)
  cbv;refine C7 hE (g:=fun r7=>.bool r7) h (c196 N true aA.cO 63) (.refl _) fun r7 h=>?_;cbv;refine A5 hE h (fun _ h=>?_) fun _ h=>?_
  ·cbv;cases h;exact hK hO (.refl _)
  cbv;refine C7 hE (g:=fun r8=>.bool r8) h (c104 N aA) (.refl _) fun r8 h=>?_;cbv;refine A4 hE h (c196 N r8 aA.Span 1099511627776) (.refl _) fun r9 h=>?_;cbv;refine A5 hE h (fun _ h=>?_) fun _ h=>?_
  ·cbv;cases h;exact hK hO (.refl _)
  cbv;obtain⟨s10,hx,h⟩:=bind_some h;refine J4 cf152 hE L4 (fun e l H1=>match(generalizing:=false) s10 with| .inl y=>e= .normal∧l=[(1,.v (.eref (D6 aA) 0)),(3,.v (.bool r2)),(4,.b true),(5,.v (.bool r4))]∧C3 Eq H0 [] H1| .inr y=>e= .ret∧l=[fi 2 y]∧C3 Eq H0 [] H1) (by kernel_rfl) ?_ ?_
  ·clear h;have h:=hx;clear hx;cbv;refine A5 hE h (fun _ h=>?_) fun _ h=>?_
   ·cbv;refine A4 hE h (c197 N aA.cL) (.refl _) fun r11 h=>?_;cbv;refine A5 hE h (fun _ h=>?_) fun _ h=>?_
    ·cbv;cases h;exact⟨_,⟨rfl,rfl,hO⟩,.e rfl .z,rfl⟩
    cbv;cases h;exact⟨_,⟨rfl,rfl,hO⟩,.e2 (.b rfl (.e rfl (.z))),rfl⟩
   cbv;cases h;exact⟨_,⟨rfl,rfl,hO⟩,.e2 (.b rfl (.e rfl (.z))),rfl⟩
  clear hx
  rcases s10 with y12|y15
  ·rintro e l H ⟨rfl,rfl,hO⟩;cbv;refine A5 hE h (fun _ h=>?_) fun _ h=>?_
   ·cbv;cases h;exact hK hO (.refl _)
   cbv;refine A4 hE h (c104 N aA) (.refl _) fun r13 h=>?_;cbv;refine A5 hE h (fun _ h=>?_) fun _ h=>?_
   ·cbv;cases h;exact hK hO (.refl _)
   cbv;refine A5 hE h (fun _ h=>?_) fun _ h=>?_
   ·cbv;refine A4 hE h (c198 N N aA.cL (⟨0,[],0,0,0,(⟨0,0,⟨#[]⟩⟩:A6)⟩:B4)) (.cons (.refl _) (.cons (.agg (.cons (.refl _) (.cons (.lit _ (D5)) (.refl _)))) (.refl _))) fun r14 h=>?_;cbv;refine A5 hE h (fun _ h=>?_) fun _ h=>?_
    ·cbv;cases h;exact hK hO (.refl _)
    cbv;cases h;exact hK hO (.refl _)
   cbv;cases h;exact hK hO (.refl _)
  rintro e l H ⟨rfl,rfl,hO⟩;cbv;cases h;exact hK hO (.refl _)
 cbv;refine C7 hE (g:=fun r16=>.bool r16) h (c104 N aA) (.refl _) fun r16 h=>?_;cbv;refine C7 hE (g:=fun r17=>.bool r17) h (c195 N aA) (.refl _) fun r17 h=>?_;cbv;refine C7 hE (g:=fun r18=>.bool r18) h (c196 N r2 aA.Typ 15) (.refl _) fun r18 h=>?_;cbv;refine A5 hE h (fun _ h=>?_) fun _ h=>?_
 ·cbv;cases h;exact hK hO (.refl _)
 cbv;refine C7 hE (g:=fun r19=>.bool r19) h (c196 N r2 aA.Var 15) (.refl _) fun r19 h=>?_;cbv;refine A5 hE h (fun _ h=>?_) fun _ h=>?_
 ·cbv;cases h;exact hK hO (.refl _)
 cbv;refine C7 hE (g:=fun r20=>.bool r20) h (c196 N r16 aA.cO 63) (.refl _) fun r20 h=>?_;cbv;refine A5 hE h (fun _ h=>?_) fun _ h=>?_
 ·cbv;cases h;exact hK hO (.refl _)
 cbv;refine C7 hE (g:=fun r21=>.bool r21) h (c104 N aA) (.refl _) fun r21 h=>?_;cbv;refine A4 hE h (c196 N r21 aA.Span 1099511627776) (.refl _) fun r22 h=>?_;cbv;refine A5 hE h (fun _ h=>?_) fun _ h=>?_
 ·cbv;cases h;exact hK hO (.refl _)
 cbv;obtain⟨s23,hx,h⟩:=bind_some h;refine J4 cf152 hE L4 (fun e l H1=>match(generalizing:=false) s23 with| .inl y=>e= .normal∧l=[(1,.v (.eref (D6 aA) 0)),(3,.v (.bool r2)),(4,.v (.bool r16)),(5,.v (.bool r17))]∧C3 Eq H0 [] H1| .inr y=>e= .ret∧l=[fi 2 y]∧C3 Eq H0 [] H1) (by kernel_rfl) ?_ ?_
 ·clear h;have h:=hx;clear hx;cbv;refine A5 hE h (fun _ h=>?_) fun _ h=>?_
  ·cbv;refine A4 hE h (c197 N aA.cL) (.refl _) fun r24 h=>?_;cbv;refine A5 hE h (fun _ h=>?_) fun _ h=>?_
   ·cbv;cases h;exact⟨_,⟨rfl,rfl,hO⟩,.e rfl .z,rfl⟩
   cbv;cases h;exact⟨_,⟨rfl,rfl,hO⟩,.e4 .z,rfl⟩
  cbv;cases h;exact⟨_,⟨rfl,rfl,hO⟩,.e4 .z,rfl⟩
 clear hx
 rcases s23 with y25|y28
 ·rintro e l H ⟨rfl,rfl,hO⟩;cbv;refine A5 hE h (fun _ h=>?_) fun _ h=>?_
  ·cbv;cases h;exact hK hO (.refl _)
  cbv;refine A4 hE h (c104 N aA) (.refl _) fun r26 h=>?_;cbv;refine A5 hE h (fun _ h=>?_) fun _ h=>?_
  ·cbv;cases h;exact hK hO (.refl _)
  cbv;refine A5 hE h (fun _ h=>?_) fun _ h=>?_
  ·cbv;refine A4 hE h (c198 N N aA.cL (⟨0,[],0,0,0,(⟨0,0,⟨#[]⟩⟩:A6)⟩:B4)) (.cons (.refl _) (.cons (.agg (.cons (.refl _) (.cons (.lit _ (D5)) (.refl _)))) (.refl _))) fun r27 h=>?_;cbv;refine A5 hE h (fun _ h=>?_) fun _ h=>?_
   ·cbv;cases h;exact hK hO (.refl _)
   cbv;cases h;exact hK hO (.refl _)
  cbv;cases h;exact hK hO (.refl _)
 rintro e l H ⟨rfl,rfl,hO⟩;cbv;cases h;exact hK hO (.refl _)
theorem c99 (N aA r) (h:AA N aA=some r):B6 prog 99 [(C0 aA)] (vi r):=by
 unfold AA at h
 refine J2 cf0 func99 call99 ntmps99 ?_;intro E H0 K hE hK hO;cbv;refine A4 hE h (c132 N N aA 64) (.refl _) fun r1 h=>?_;cbv;refine A5 hE h (fun _ h=>?_) fun _ h=>?_
 ·cbv;cases h;exact hK hO (.refl _)
 cbv;refine A4 hE h (c133 N N aA) (.refl _) fun r2 h=>?_;cbv;refine A5 hE h (fun _ h=>?_) fun _ h=>?_
 ·cbv;cases h;exact hK hO (.refl _)
 cbv;refine A4 hE h (c100 N N aA) (.refl _) fun r3 h=>?_;cbv;obtain⟨s5,hx,h⟩:=bind_some h;refine E6 cf0 hE L4 (fun s4=>[(3,.v (sr eAv1 r3)),fi 4 s4]) (fun s4 H1=>C3 Eq H0 [] H1) (fun x e l H1=>match(generalizing:=false) x with| .inl y=>e= .exit 0∧l=[]∧C3 Eq H0 [] H1| .inr y=>e= .ret∧l=[fi 2 y]∧C3 Eq H0 [] H1) (by kernel_rfl) ?_ hx ?_ hO ?_
 ·intro s4 H o hO h;clear hx;cbv;refine E0 hE ?_;cbv;refine A5 hE h (fun _ h=>?_) fun _ h=>?_
  ·cbv;refine C1 hE eAv2 h fun x6 h=>?_;cbv;refine A4 hE h (c152 N x6) (.refl _) fun r7 h=>?_;cbv;refine A5 hE h (fun _ h=>?_) fun _ h=>?_
   ·cbv;cases h;exact⟨_,_,rfl,⟨rfl,rfl,hO⟩,.e rfl .z,rfl⟩
   cbv;cases h;exact⟨_,rfl,.e2 .z,rfl,hO⟩
  cbv;cases h;exact⟨_,_,rfl,⟨rfl,rfl,hO⟩,.z,rfl⟩
 ·exact .e2 .z
 clear hx
 rcases s5 with y8|y9
 ·rintro e l H ⟨rfl,rfl,hO⟩;cbv;cases h;exact hK hO (.refl _)
 rintro e l H ⟨rfl,rfl,hO⟩;cbv;cases h;exact hK hO (.refl _)
theorem c101 (N aI r) (h:CD N aI=some r):B6 prog 101 [sr eAv1 aI] (.bool r):=by
 unfold CD at h
 refine J2 cf0 func101 call101 ntmps101 ?_;intro E H0 K hE hK hO;cbv;obtain⟨s2,hx,h⟩:=bind_some h;refine E6 cf0 hE L4 (fun s1=>[(0,.v (sr eAv1 aI)),fi 3 s1]) (fun s1 H1=>C3 Eq H0 [] H1) (fun x e l H1=>match(generalizing:=false) x with| .inl y=>e= .exit 0∧l=[]∧C3 Eq H0 [] H1| .inr y=>e= .ret∧l=[(2,.b false)]∧C3 Eq H0 [] H1) (by kernel_rfl) ?_ hx ?_ hO ?_
 ·intro s1 H o hO h;clear hx;cbv;refine E0 hE ?_;cbv;refine A5 hE h (fun _ h=>?_) fun _ h=>?_
  ·cbv;refine C1 hE eAv2 h fun x3 h=>?_;cbv;refine A5 hE h (fun _ h=>?_) fun _ h=>?_
   ·cbv;cases h;exact⟨_,_,rfl,⟨rfl,rfl,hO⟩,.b rfl (.z),rfl⟩
   cbv;cases h;exact⟨_,rfl,.e2 .z,rfl,hO⟩
  cbv;cases h;exact⟨_,_,rfl,⟨rfl,rfl,hO⟩,.z,rfl⟩
 ·exact .e2 .z
 clear hx
 rcases s2 with y4|y5
 ·rintro e l H ⟨rfl,rfl,hO⟩;cbv;cases h;exact hK hO (.refl _)
 rintro e l H ⟨rfl,rfl,hO⟩;cbv;cases h;exact hK hO (.refl _)
def cf41 :Cf:=⟨[],[],[(28,13)],[],[],[]⟩
theorem c41 (N aA r) (h:DF N aA=some r):B6 prog 41 [(C0 aA)] (vi r):=by
 unfold DF at h
 refine J2 cf41 func41 call41 ntmps41 ?_;intro E H0 K hE hK hO;cbv;refine A4 hE h (c99 N aA) (.refl _) fun r1 h=>?_;cbv;refine A5 hE h (fun _ h=>?_) fun _ h=>?_
 ·cbv;cases h;exact hK hO (.refl _)
 cbv;refine A4 hE h (c100 N N aA) (.refl _) fun r2 h=>?_;cbv;refine A4 hE h (c101 N r2) (.refl _) fun r3 h=>?_;cbv;refine A5 hE h (fun _ h=>?_) fun _ h=>?_
 ·cbv;cases h;exact hK hO (.refl _)
 cbv;obtain⟨s5,hx,h⟩:=bind_some h;refine E6 cf41 hE L4 (fun s4=>[(4,.v (sr eAv1 r2)),fi 5 s4.1,fi 6 s4.2.1,fi 7 s4.2.2]) (fun s4 H1=>C3 Eq H0 [] H1) (fun x e l H1=>match(generalizing:=false) x with| .inl y=>e= .exit 0∧l=[]∧C3 Eq H0 [] H1| .inr y=>e= .ret∧l=[fi 2 14]∧C3 Eq H0 [] H1) (by kernel_rfl) ?_ hx ?_ hO ?_
 ·intro s4 H o hO h;clear hx;cbv;refine E0 hE ?_;cbv;refine A5 hE h (fun _ h=>?_) fun _ h=>?_
  ·cbv;refine C1 hE eAv2 h fun x6 h=>?_;cbv;refine A4 hE h (c102 N x6) (.refl _) fun r7 h=>?_;cbv;obtain⟨s8,hx,h⟩:=bind_some h;refine J4 cf41 hE L4 (fun e l H1=>match(generalizing:=false) s8 with| .inl y=>e= .normal∧l=[(4,.v (sr eAv1 r2)),fi 5 y,fi 6 s4.2.1,fi 7 s4.2.2]∧C3 Eq H0 [] H1| .inr y=>e= .ret∧l=[fi 2 14]∧C3 Eq H0 [] H1) (by kernel_rfl) ?_ ?_
   ·clear h;have h:=hx;clear hx;cbv;refine A5 hE h (fun _ h=>?_) fun _ h=>?_
    ·cbv;refine C1 hE eAv2 h fun x9 h=>?_;cbv;refine A5 hE h (fun _ h=>?_) fun _ h=>?_
     ·cbv;cases h;exact⟨_,⟨rfl,rfl,hO⟩,.e rfl .z,rfl⟩
     cbv;cases h;exact⟨_,⟨rfl,rfl,hO⟩,.e4 .z,rfl⟩
    cbv;cases h;exact⟨_,⟨rfl,rfl,hO⟩,.e4 .z,rfl⟩
   clear hx
   rcases s8 with y10|y17
   ·rintro e l H ⟨rfl,rfl,hO⟩;cbv;refine C1 hE eAv2 h fun x11 h=>?_;cbv;refine A4 hE h (c103 N x11) (.refl _) fun r12 h=>?_;cbv;refine A5 hE h (fun _ h=>?_) fun _ h=>?_
    ·cbv;refine C1 hE eAv2 h fun x13 h=>?_;cbv;refine A5 hE h (fun _ h=>?_) fun _ h=>?_
     ·cbv;cases h;exact⟨_,_,rfl,⟨rfl,rfl,hO⟩,.e rfl .z,rfl⟩
     cbv;cases h;exact⟨_,rfl,.e4 .z,rfl,hO⟩
    cbv;refine C1 hE eAv2 h fun x14 h=>?_;cbv;refine A4 hE h (c104 N x14) (.refl _) fun r15 h=>?_;cbv;refine A5 hE h (fun _ h=>?_) fun _ h=>?_
    ·cbv;refine C1 hE eAv2 h fun x16 h=>?_;cbv;refine A5 hE h (fun _ h=>?_) fun _ h=>?_
     ·cbv;cases h;exact⟨_,_,rfl,⟨rfl,rfl,hO⟩,.e rfl .z,rfl⟩
     cbv;cases h;exact⟨_,rfl,.e4 .z,rfl,hO⟩
    cbv;cases h;exact⟨_,rfl,.e4 .z,rfl,hO⟩
   rintro e l H ⟨rfl,rfl,hO⟩;cbv;cases h;exact⟨_,_,rfl,⟨rfl,rfl,hO⟩,.e rfl .z,rfl⟩
  cbv;cases h;exact⟨_,_,rfl,⟨rfl,rfl,hO⟩,.z,rfl⟩
 ·exact .e4 .z
 clear hx
 rcases s5 with y18|y19
 ·rintro e l H ⟨rfl,rfl,hO⟩;cbv;cases h;exact hK hO (.refl _)
 rintro e l H ⟨rfl,rfl,hO⟩;cbv;cases h;exact hK hO (.refl _)
theorem c105 (N aB r)(h:Ef N aB=some r):B6 prog 105 [(Q4 aB)] (.bool r):=by
 unfold Ef at h
 refine J2 cf0 func105 call105 ntmps105 ?_;intro E H0 K hE hK hO;cbv;cases h;exact hK hO (.refl _)
theorem c106 (N aC aD r) (h:Cv N aC aD=some r):B6 prog 106 [(Bb aC),(Bb aD)] (vi r):=by
 unfold Cv at h
 refine J2 cf0 func106 call106 ntmps106 ?_;intro E H0 K hE hK hO;cbv;refine A5 hE h (fun _ h=>?_) fun _ h=>?_
 ·cbv;refine A5 hE h (fun _ h=>?_) fun _ h=>?_
  ·cbv;cases h;exact hK hO (.refl _)
  cbv;cases h;exact hK hO (.refl _)
 cbv;refine A5 hE h (fun _ h=>?_) fun _ h=>?_
 ·cbv;refine A5 hE h (fun _ h=>?_) fun _ h=>?_
  ·cbv;cases h;exact hK hO (.refl _)
  cbv;cases h;exact hK hO (.refl _)
 cbv;refine A5 hE h (fun _ h=>?_) fun _ h=>?_
 ·cbv;cases h;exact hK hO (.refl _)
 cbv;refine A5 hE h (fun _ h=>?_) fun _ h=>?_
 ·cbv;cases h;exact hK hO (.refl _)
 cbv;cases h;exact hK hO (.refl _)
def cf107 :Cf:=⟨[2],[],[],[],[],[]⟩
theorem c107 (N aB r)(h:FX N aB=some r):B6 prog 107 [(Q4 aB)] ((Bb r)):=by
 unfold FX at h
 refine J2 cf107 func107 call107 ntmps107 ?_;intro E H0 K hE hK hO;cbv;refine C9 hE hO fun b1 H hO=>?_;cbv;refine B0 hE hO 0 rfl rfl fun H hO=>?_;cbv;refine B1 hE hO 0 rfl ?_;cbv;cases h;exact hK hO (.refl _)
theorem c108 (N aC aD r)(h:CY N aC aD=some r):B6 prog 108 [(Q4 aC),(Q4 aD)] (.bool r):=by
 unfold CY at h
 refine J2 cf0 func108 call108 ntmps108 ?_;intro E H0 K hE hK hO;cbv;cases h;exact hK hO (.refl _)
def cf42 :Cf:=⟨[],[(8,13),(13,8)],[],[],[],[]⟩
theorem c42 (N aI r) (h:DH N aI=some r):B6 prog 42 [sr eAu4 aI] (vi r):=by
 unfold DH at h
 refine J2 cf42 func42 call42 ntmps42 ?_;intro E H0 K hE hK hO;cbv;refine E0 hE ?_;cbv;refine A5 hE h (fun _ h=>?_) fun _ h=>?_
 ·cbv;cases h;exact hK hO (.refl _)
 cbv;obtain⟨s2,hx,h⟩:=bind_some h;refine E6 cf42 hE L4 (fun s1=>[(0,.v (sr eAu4 aI)),fi 3 s1]) (fun s1 H1=>C3 Eq H0 [] H1) (fun x e l H1=>match(generalizing:=false) x with| .inl y=>e= .exit 0∧l=[]∧C3 Eq H0 [] H1| .inr y=>e= .ret∧l=[fi 2 y]∧C3 Eq H0 [] H1) (by kernel_rfl) ?_ hx ?_ hO ?_
 ·intro s1 H o hO h;clear hx;cbv;refine E0 hE ?_;cbv;refine A5 hE h (fun _ h=>?_) fun _ h=>?_
  ·cbv;refine C1 hE eAv0 h fun x3 h=>?_;cbv;refine A4 hE h (c105 N x3) (.refl _) fun r4 h=>?_;cbv;refine A5 hE h (fun _ h=>?_) fun _ h=>?_
   ·cbv;cases h;exact⟨_,_,rfl,⟨rfl,rfl,hO⟩,.e rfl .z,rfl⟩
   cbv;refine A5 hE h (fun _ h=>?_) fun _ h=>?_
   ·cbv;refine C1 hE eAv0 h fun x5 h=>?_;cbv;refine C7 hE (g:=fun r6=>(Bb r6)) h (c107 N x5) (.refl _) fun r6 h=>?_;cbv;refine C1 hE eAv0 h fun x7 h=>?_;cbv;refine A4 hE h (c107 N x7) (.refl _) fun r8 h=>?_;cbv;refine A4 hE h (c106 N r6 r8) (.refl _) fun r9 h=>?_;cbv;refine A5 hE h (fun _ h=>?_) fun _ h=>?_
    ·cbv;cases h;exact⟨_,_,rfl,⟨rfl,rfl,hO⟩,.e rfl .z,rfl⟩
    cbv;obtain⟨s11,hx,h⟩:=bind_some h;refine E6 cf42 hE L4 (fun s10=>[(0,.v (sr eAu4 aI)),fi 3 s1,fi 4 s10]) (fun s10 H1=>C3 Eq H0 [] H1) (fun x e l H1=>match(generalizing:=false) x with| .inl y=>e= .exit 2∧l=[(0,.v (sr eAu4 aI)),fi 3 s1]∧C3 Eq H0 [] H1| .inr y=>e= .ret∧l=[fi 2 7]∧C3 Eq H0 [] H1) (by kernel_rfl) ?_ hx ?_ hO ?_
    ·intro s10 H o hO h;clear hx;cbv;refine A5 hE h (fun _ h=>?_) fun _ h=>?_
     ·cbv;refine C1 hE eAv0 h fun x12 h=>?_;cbv;refine C1 hE eAv0 h fun x13 h=>?_;cbv;refine A4 hE h (c108 N x12 x13) (.refl _) fun r14 h=>?_;cbv;refine A5 hE h (fun _ h=>?_) fun _ h=>?_
      ·cbv;cases h;exact⟨_,_,rfl,⟨rfl,rfl,hO⟩,.e rfl .z,rfl⟩
      cbv;cases h;exact⟨_,rfl,.e rfl (.e2 .z),rfl,hO⟩
     cbv;cases h;exact⟨_,_,rfl,⟨rfl,rfl,hO⟩,.e2 .z,rfl⟩
    ·exact .e rfl (.e2 .z)
    clear hx
    rcases s11 with y15|y16
    ·rintro e l H ⟨rfl,rfl,hO⟩;cbv;cases h;exact⟨_,rfl,.e2 .z,rfl,hO⟩
    rintro e l H ⟨rfl,rfl,hO⟩;cbv;cases h;exact⟨_,_,rfl,⟨rfl,rfl,hO⟩,.e rfl .z,rfl⟩
   cbv;obtain⟨s18,hx,h⟩:=bind_some h;refine E6 cf42 hE L4 (fun s17=>[(0,.v (sr eAu4 aI)),fi 3 s1,fi 4 s17]) (fun s17 H1=>C3 Eq H0 [] H1) (fun x e l H1=>match(generalizing:=false) x with| .inl y=>e= .exit 2∧l=[(0,.v (sr eAu4 aI)),fi 3 s1]∧C3 Eq H0 [] H1| .inr y=>e= .ret∧l=[fi 2 7]∧C3 Eq H0 [] H1) (by kernel_rfl) ?_ hx ?_ hO ?_
   ·intro s17 H o hO h;clear hx;cbv;refine A5 hE h (fun _ h=>?_) fun _ h=>?_
    ·cbv;refine C1 hE eAv0 h fun x19 h=>?_;cbv;refine C1 hE eAv0 h fun x20 h=>?_;cbv;refine A4 hE h (c108 N x19 x20) (.refl _) fun r21 h=>?_;cbv;refine A5 hE h (fun _ h=>?_) fun _ h=>?_
     ·cbv;cases h;exact⟨_,_,rfl,⟨rfl,rfl,hO⟩,.e rfl .z,rfl⟩
     cbv;cases h;exact⟨_,rfl,.e rfl (.e2 .z),rfl,hO⟩
    cbv;cases h;exact⟨_,_,rfl,⟨rfl,rfl,hO⟩,.e2 .z,rfl⟩
   ·exact .e rfl (.e2 .z)
   clear hx
   rcases s18 with y22|y23
   ·rintro e l H ⟨rfl,rfl,hO⟩;cbv;cases h;exact⟨_,rfl,.e2 .z,rfl,hO⟩
   rintro e l H ⟨rfl,rfl,hO⟩;cbv;cases h;exact⟨_,_,rfl,⟨rfl,rfl,hO⟩,.e rfl .z,rfl⟩
  cbv;cases h;exact⟨_,_,rfl,⟨rfl,rfl,hO⟩,.z,rfl⟩
 ·exact .e2 .z
 clear hx
 rcases s2 with y24|y25
 ·rintro e l H ⟨rfl,rfl,hO⟩;cbv;cases h;exact hK hO (.refl _)
 rintro e l H ⟨rfl,rfl,hO⟩;cbv;cases h;exact hK hO (.refl _)
theorem c126 (N aQ bK r)(h:BA N aQ bK=some r):B6 prog 126 [vi aQ,vi bK] (.bool r):=by
 unfold BA at h
 refine J2 cf0 func126 call126 ntmps126 ?_;intro E H0 K hE hK hO;cbv;cases h;exact hK hO (.refl _)
def cf59 :Cf:=⟨[4],[(10,12)],[],[],[],[]⟩
theorem c59 (N bF r) (h:Fq N bF=some r):B6 prog 59 [(Gx bF)] (vi r):=by
 unfold Fq at h
 refine J2 cf59 func59 call59 ntmps59 ?_;intro E H0 K hE hK hO;cbv;refine E0 hE ?_;cbv;refine A5 hE h (fun _ h=>?_) fun _ h=>?_
 ·cbv;cases h;exact hK hO (.refl _)
 cbv;refine E0 hE ?_;cbv;refine A5 hE h (fun _ h=>?_) fun _ h=>?_
 ·cbv;cases h;exact hK hO (.refl _)
 cbv;refine E0 hE ?_;cbv;obtain⟨s2,hx,h⟩:=bind_some h;refine E6 cf59 hE L4 (fun s1=>[(1,.v (.eref (IM bF) 0)),(16,.v (sr eAu8 bF.cQ)),fi 17 (Ar.len bF.cQ),fi 18 s1]) (fun s1 H1=>C3 Eq H0 [] H1) (fun x e l H1=>match(generalizing:=false) x with| .inl y=>e= .exit 1∧l=[]∧C3 Eq H0 [] H1| .inr y=>e= .ret∧l=[fi 2 y]∧C3 Eq H0 [] H1) (by kernel_rfl) ?_ hx ?_ hO ?_
 ·intro s1 H o hO h;clear hx;cbv;refine A5 hE h (fun _ h=>?_) fun _ h=>?_
  ·cbv;refine C1 hE eAv5 h fun x3 h=>?_;cbv;refine C9 hE hO fun b4 H hO=>?_;cbv;refine B0 hE hO 0 rfl rfl fun H hO=>?_;cbv;refine B1 hE hO 0 rfl ?_;cbv;refine A4 hE h (c126 N x3.Var 15) (.refl _) fun r5 h=>?_;cbv;refine B1 hE hO 0 rfl ?_;cbv;refine A5 hE h (fun _ h=>?_) fun _ h=>?_
   ·cbv;cases h;exact⟨_,_,rfl,⟨rfl,rfl,hO.tail⟩,.e rfl .z,rfl⟩
   cbv;refine A4 hE h (c126 N x3.Ref.Time 1099511627776) (.refl _) fun r6 h=>?_;cbv;refine B1 hE hO 0 rfl ?_;cbv;refine A5 hE h (fun _ h=>?_) fun _ h=>?_
   ·cbv;cases h;exact⟨_,_,rfl,⟨rfl,rfl,hO.tail⟩,.e rfl .z,rfl⟩
   cbv;refine A4 hE h (c126 N x3.Ref.Source 7) (.refl _) fun r7 h=>?_;cbv;refine B1 hE hO 0 rfl ?_;cbv;refine A5 hE h (fun _ h=>?_) fun _ h=>?_
   ·cbv;cases h;exact⟨_,_,rfl,⟨rfl,rfl,hO.tail⟩,.e rfl .z,rfl⟩
   cbv;refine A4 hE h (c126 N x3.Ref.Seq 1099511627776) (.refl _) fun r8 h=>?_;cbv;refine A5 hE h (fun _ h=>?_) fun _ h=>?_
   ·cbv;cases h;exact⟨_,_,rfl,⟨rfl,rfl,hO.tail⟩,.e rfl .z,rfl⟩
   cbv;refine A5 hE h (fun _ h=>?_) fun _ h=>?_
   ·cbv;refine C1 hE eAv5 h fun x9 h=>?_;cbv;refine B1 hE hO 0 rfl ?_;cbv;refine A4 hE h (c69 N x9.Ref x3.Ref) (.refl _) fun r10 h=>?_;cbv;refine A5 hE h (fun _ h=>?_) fun _ h=>?_
    ·cbv;cases h;exact⟨_,_,rfl,⟨rfl,rfl,hO.tail⟩,.e rfl .z,rfl⟩
    cbv;cases h;exact⟨_,rfl,.e4 .z,rfl,hO.tail⟩
   cbv;cases h;exact⟨_,rfl,.e4 .z,rfl,hO.tail⟩
  cbv;cases h;exact⟨_,_,rfl,⟨rfl,rfl,hO⟩,.z,rfl⟩
 ·exact .e4 .z
 clear hx
 rcases s2 with y11|y12
 ·rintro e l H ⟨rfl,rfl,hO⟩;cbv;cases h;exact hK hO (.refl _)
 rintro e l H ⟨rfl,rfl,hO⟩;cbv;cases h;exact hK hO (.refl _)
def cf127 :Cf:=⟨[],[(5,6),(8,15)],[],[],[],[]⟩
theorem c127 (N:Nat) (aG:List A9) (bR:O7) (bB:V) (aY:A9→O7→Option Int) (bQ:∀y1 y2 q,aY y1 y2=some q→W3 prog bB [(Q4 y1),(Bb y2)] (vi q)) (r:(Int×Bool)) (h:I1 N aG bR aY=some r):B6 prog 127 [sr eAu4 aG,(Bb bR),bB] (.tup [vi r.1,.bool r.2]):=by
 unfold I1 at h
 refine J2 cf127 func127 call127 ntmps127 ?_;intro E H0 K hE hK hO;cbv;refine E0 hE ?_;cbv;obtain⟨s2,hx,h⟩:=bind_some h;refine E6 cf127 hE L4 (fun s1=>[(0,.v (sr eAu4 aG)),(2,.v (bB)),(4,.v (.eref (Wj bR) 0)),fi 8 (Ar.len aG),fi 9 s1.1,fi 10 s1.2]) (fun s1 H1=>C3 Eq H0 [] H1) (fun x e l H1=>e= .exit 0∧l=[(0,.v (sr eAu4 aG)),(2,.v (bB)),(4,.v (.eref (Wj bR) 0)),fi 8 (Ar.len aG),fi 9 x]∧C3 Eq H0 [] H1) (by kernel_rfl) ?_ hx ?_ hO ?_
 ·intro s1 H o hO h;clear hx;cbv;refine A5 hE h (fun _ h=>?_) fun _ h=>?_
  ·cbv;refine IB hE (Gq hE rfl) ?_;cbv;refine C1 hE eAv0 h fun x3 h=>?_;cbv;refine Aq hE (g:=fun r4=>vi r4) h (fun r4 hx=>bQ x3 bR r4 hx) (.refl _) fun r4 h=>?_;cbv;refine A5 hE h (fun _ h=>?_) fun _ h=>?_
   ·cbv;cases h;exact⟨_,rfl,.e2 (.e4 .z),rfl,hO⟩
   cbv;cases h;exact⟨_,rfl,.e2 (.e4 .z),rfl,hO⟩
  cbv;cases h;exact⟨_,_,rfl,⟨rfl,rfl,hO⟩,.e rfl (.e4 .z),rfl⟩
 ·exact .e2 (.e4 .z)
 clear hx;rintro e l H ⟨rfl,rfl,hO⟩;cbv;refine A5 hE h (fun _ h=>?_) fun _ h=>?_
 ·cbv;refine C1 hE eAv0 h fun x5 h=>?_;cbv;refine YR hE (g:=fun r6=>vi r6) h (fun r6 hx=>bQ x5 bR r6 hx) (.refl _) fun r6 h=>?_;cbv;cases h;exact hK hO (.refl _)
 cbv;cases h;exact hK hO (.refl _)
def cf128 :Cf:=⟨[],[(1,14)],[],[],[],[]⟩
theorem c128 (N aB bE r)(h:V7 N aB bE=some r):B6 prog 128 [(Q4 aB),(Bb bE)] (vi r):=by
 unfold V7 at h
 refine J2 cf128 func128 call128 ntmps128 ?_;intro E H0 K hE hK hO;cbv;refine C7 hE (g:=fun r1=>vi r1) h (c70 N aB.Time bE.Time) (.refl _) fun r1 h=>?_;cbv;refine C7 hE (g:=fun r2=>vi r2) h (c70 N aB.Source bE.Source) (.refl _) fun r2 h=>?_;cbv;refine A4 hE h (c70 N aB.Seq bE.Seq) (.refl _) fun r3 h=>?_;cbv;refine A4 hE h (c68 N ([r1,r2,r3])) (.cons (.lit _ (E5 (rfl) (E5 (rfl) (E5 (rfl) (D5))))) (.refl _)) fun r4 h=>?_;cbv;cases h;exact hK hO (.refl _)
theorem c60 (N aI bE r)(h:Bd N aI bE=some r):B6 prog 60 [sr eAu4 aI,(Bb bE)] (.tup [vi r.1,.bool r.2.1,vi r.2.2]):=by
 unfold Bd at h
 refine J2 cf0 func60 call60 ntmps60 ?_;intro E H0 K hE hK hO;cbv;refine A4 hE h (c56 N aI) (.refl _) fun r1 h=>?_;cbv;refine A5 hE h (fun _ h=>?_) fun _ h=>?_
 ·cbv;cases h;exact hK hO (.refl _)
 cbv;refine A4 hE (g:=fun r2=>.tup [vi r2.1,.bool r2.2]) h (fun r2 hx=>c127 N aI bE (.func (.func 128) [] []) (fun y1 y2=>V7 N y1 y2) (fun y1 y2 r hx=>B6.value (F:=[]) (C:=[]) (c128 N y1 y2 r hx)) r2 hx) (.refl _) fun r2 h=>?_;cbv;cases h;exact hK hO (.refl _)
theorem c297 (N aF r)(h:DA N aF=some r):ZY prog 297 aF r:=Vh Go.Proofs.Tryz.laysNm189 call297 h
theorem c298 (N aF r)(h:Co N aF=some r):Vl prog 298 [] 1 (lst (V.int .i64) aF) (lst (V.int .i64) r):=Ob Go.Proofs.Tryz.laysNm220 call298 h
def cf264 :Cf:=⟨[3,5000003],[],[],[],[],[]⟩
theorem c264 (N aA r) (h:FH N aA=some r):B6 prog 264 [(C0 aA)] (sr (V.int .i64) r):=by
 unfold FH at h
 refine CN (T:=TT) cf264 L4 func264 (by rfl) (by kernel_rfl) call264 ntmps264 (by rfl) (by rfl) ?_;intro E H0 K hE hK hF;have hO:C3 Eq H0 [] H0:=.start H5 rfl;cbv;refine Sz hE (f0:=(V.int .i64)) hO fun q2 b1 H hq2 hO=>?_;cbv;refine IC hE h (c157 N aA) (.refl _) fun r3 v4 hv4 h=>?_;cbv;obtain⟨o10,hx,h⟩:=bind_some h;refine Ku cf264 hE L4 (ι:=Unit) (enc:=fun(x:A0)=>[(C0 x)]) (fun(s6:(List Int)) F H=>∃g:OG,(Aa g (Ar.len s6))∧C3 Eq F [cb b1 [.own g.id g.lo g.n],ob g 1 (V.int .i64) s6] H) (fun(r:Unit) e F H=>False) (fun i s6 y5=>[(3,.v (.ref b1 0)),(4,.v (.eref (D6 y5) 0))]) (fun i s6 y5 F H=>∃g:OG,(Aa g (Ar.len s6))∧C3 Eq F [cb b1 [.own g.id g.lo g.n],ob g 1 (V.int .i64) s6] H) (fun _=>E3.ex fun _=>C3.stable H5 _) (fun _ _=>⟨fun h=>h.elim,fun _ _ h=>h.elim⟩) (fun _ _ _=>E3.ex fun _=>C3.stable H5 _) hv4 hx (⟨q2,hq2,hO⟩) (by decide) (fun _=>rfl) (by kernel_rfl) (by kernel_rfl) ?_ ?_ ?_ ?_
 ·rintro E i8 y5 s6 F7 H hE ⟨q9,hq9,hO⟩;clear hx h;cbv;exact⟨(),⟨q9,hq9,hO⟩,.e2 .z,rfl⟩
 ·rintro E i8 _ y5 s6 F7 H o hE hF h ⟨q9,hq9,hO⟩;clear hx;cbv;refine A5 hE h (fun _ h=>?_) fun _ h=>?_
  ·cbv;refine B1 hE hO 0 rfl ?_;cbv;refine Qq (f:=(V.int .i64)) hE (fun _=>rfl) (by decide) hO hq9 1 rfl (m:=[y5.Var]) (Lg (f:=(V.int .i64)) hE (fun _=>rfl) (.lstc (.refl _) (.lst0))) h fun l12 q11 H hq11 hO h=>?_;cbv;refine B0 hE hO 0 rfl rfl fun H hO=>?_;cbv;cases h;exact⟨_,rfl,⟨q11,hq11,hO⟩⟩
  cbv;cases h;exact⟨_,rfl,⟨q9,hq9,hO⟩⟩
 ·rintro d13 s16 H rfl hd ⟨q17,hq17,hO⟩;have hO:C3 Eq H0 [cb b1 [.own q17.id q17.lo q17.n],ob q17 1 (V.int .i64) s16,.blk d13 DB] H:=C3.dblk hd hO;clear hd;clear hx;cbv;refine B1 hE hO 0 rfl ?_;cbv;refine Ae9 hE hO hq17 1 rfl h (c297 N s16) fun l18 H hq17 hO h=>?_;cbv;refine B1 hE hO 0 rfl ?_;cbv;refine YX hE (f:=(V.int .i64)) hO hq17 1 rfl h (c298 N l18) (.refl _) fun l19 q20 H hq20 hO h=>?_;cbv;refine Kv hE hO 2 rfl fun H hO=>?_;cbv;cases h;exact hF q20 _ _ 1 _ _ hO rfl (Dw hE hq20) (.refl _)
 rintro d r e H rfl hd hO;exact hO.elim
theorem c299 (N aF aJ r) (h:AH N aF aJ=some r):B6 prog 299 [sr (V.int .i64) aF,vi aJ] (vi r):=by
 unfold AH at h
 refine J2 cf0 func299 call299 ntmps299 ?_;intro E H0 K hE hK hO;cbv;refine E0 hE ?_;cbv;obtain⟨s2,hx,h⟩:=bind_some h;refine E6 cf0 hE L4 (fun s1=>[(0,.v (sr (V.int .i64) aF)),fi 1 aJ,fi 7 (Ar.len aF),fi 8 s1]) (fun s1 H1=>C3 Eq H0 [] H1) (fun x e l H1=>match(generalizing:=false) x with| .inl y=>e= .exit 0∧l=[]∧C3 Eq H0 [] H1| .inr y=>e= .ret∧l=[fi 4 y]∧C3 Eq H0 [] H1) (by kernel_rfl) ?_ hx ?_ hO ?_
 ·intro s1 H o hO h;clear hx;cbv;refine A5 hE h (fun _ h=>?_) fun _ h=>?_
  ·cbv;refine C1 hE (fun _=>rfl) h fun x3 h=>?_;cbv;refine A5 hE h (fun _ h=>?_) fun _ h=>?_
   ·cbv;cases h;exact⟨_,_,rfl,⟨rfl,rfl,hO⟩,.e rfl .z,rfl⟩
   cbv;cases h;exact⟨_,rfl,.e4 .z,rfl,hO⟩
  cbv;cases h;exact⟨_,_,rfl,⟨rfl,rfl,hO⟩,.z,rfl⟩
 ·exact .e4 .z
 clear hx
 rcases s2 with y4|y5
 ·rintro e l H ⟨rfl,rfl,hO⟩;cbv;cases h;exact hK hO (.refl _)
 rintro e l H ⟨rfl,rfl,hO⟩;cbv;cases h;exact hK hO (.refl _)
theorem c265 (N aF aJ r)(h:Y1 N aF aJ=some r):B6 prog 265 [sr (V.int .i64) aF,vi aJ] (.bool r):=by
 unfold Y1 at h
 refine J2 cf0 func265 call265 ntmps265 ?_;intro E H0 K hE hK hO;cbv;refine A4 hE h (c299 N aF aJ) (.refl _) fun r1 h=>?_;cbv;cases h;exact hK hO (.refl _)
theorem c224 (N aA aF r) (h:CL N aA aF=some r):B6 prog 224 [(C0 aA),sr eAu3 aF] (sr eAu3 r):=by
 unfold CL at h
 refine J2 cf0 func224 call224 ntmps224 ?_;intro E H0 K hE hK hO;cbv;refine A4 hE h (c264 N aA) (.refl _) fun r1 h=>?_;cbv;refine E0 hE ?_;cbv;replace hO:=hO.tl0 (t:=.nil) rfl;obtain⟨s4,hx,h⟩:=bind_some h;refine P5 cf0 hE L4 (γ:=E4) (fun s2 g=>[(5,.v (sr (V.int .i64) r1)),(6,.v (.sl (lst eAu3 s2.1) g)),(11,.v (sr eAu3 aF)),fi 12 (Ar.len aF),fi 13 s2.2]) (fun s2 g H1=>T8 g∧C3 Eq H0 [.tl g] H1) (fun x e l H1=>∃u1:E4,T8 u1∧e= .exit 0∧l=[(6,.v (.sl (lst eAu3 x) u1))]∧C3 Eq H0 [.tl u1] H1) (by kernel_rfl) ?_ .nil hx ?_ ?_ ?_
 ·rintro s2 t3 H o ⟨ht3,hO⟩ h;clear hx;cbv;refine A5 hE h (fun _ h=>?_) fun _ h=>?_
  ·cbv;refine C1 hE eAv6 h fun x5 h=>?_;cbv;refine A4 hE h (c265 N r1 x5.v) (.refl _) fun r6 h=>?_;cbv;refine A5 hE h (fun _ h=>?_) fun _ h=>?_
   ·cbv;refine Y5 (f:=eAu3) hE Q1 (by decide) hO 0 rfl ht3 (l:=s2.1) (m:=[x5]) (.refl _) (.lstc (.eq (eAv6 x5) (.refl _)) (.lst0)) h fun l8 t7 H hO ht7 h=>?_;cbv;cases h;exact⟨_,t7,rfl,.e rfl (.e4 .z),rfl,ht7,hO⟩
   cbv;cases h;exact⟨_,t3,rfl,.e rfl (.e4 .z),rfl,ht3,hO⟩
  cbv;cases h;exact⟨_,_,rfl,⟨t3,ht3,rfl,rfl,hO⟩,.e rfl .z,rfl⟩
 ·exact .e rfl (.v (.slt _ (.lst0)) (.e rfl (.e rfl (.e rfl (.z)))))
 ·exact⟨trivial,hO⟩
 clear hx;rintro e l H ⟨t9,ht9,rfl,rfl,hO⟩;cbv;cases h;exact hK hO (.ro _ _)
def cf61 :Cf:=⟨[10],[(1,17),(2,11),(6,6)],[],[],[],[]⟩
def K61 (N n:Nat):Prop:=∀(aG:G2) (aR:List (B8×A8)) (aA:A0) (aO:Int) (aF:List A3) (aK:List A3) (r:(A8×List (B8×A8))),G3 N n aG aR aA aO aF aK=some r→Ii prog 61 (fun id=>[.eref [sr eAu4 aG.prover.cP,vi aG.prover.count,.map id] 0,(C0 aA),vi aO,sr eAu3 aF,sr eAu3 aK]) eAv7 eAv8 aR ((F5 r.1)) r.2
def cf129 :Cf:=⟨[10,10000010],[(3,22),(4,14),(14,10)],[(81,12)],[0],[],[]⟩
def Aq1 (N n:Nat):Prop:=∀(aG:G2) (aR:List (B8×A8)) (aA:A0) (aO:Int) (aF:List A3) (aK:List A3) (r:(A8×List (B8×A8))),T3 N n aG aR aA aO aF aK=some r→Ii prog 129 (fun id=>[.eref [sr eAu4 aG.prover.cP,vi aG.prover.count,.map id] 0,(C0 aA),vi aO,sr eAu3 aF,sr eAu3 aK]) eAv7 eAv8 aR ((F5 r.1)) r.2
def cf169 :Cf:=⟨[],[(15,7),(3000012,0),(3000012,1),(3000012,2),(3000012,4),(3000012,5),(3000012,6),(3000012,7),(3000012,8),(3000012,9),(3000012,11),(3000012,12),(3000012,13),(3000014,0),(3000014,1),(3000014,2),(3000014,3),(3000014,4),(3000014,5),(3000014,7),(3000014,8),(3000014,10)],[],[2000012,2000014],[],[]⟩
def Aq0 (N n:Nat):Prop:=∀(aG:G2) (aR:List (B8×A8)) (aA:A0) (aO:Int) (aF:List A3) (aK:List A3) (r:(((List A1)×Bool)×List (B8×A8))),M8 N n aG aR aA aO aF aK=some r→Ii prog 169 (fun id=>[.eref [sr eAu4 aG.prover.cP,vi aG.prover.count,.map id] 0,(C0 aA),vi aO,sr eAu3 aF,sr eAu3 aK]) eAv7 eAv8 aR (.tup [sr eAu5 r.1.1,.bool r.1.2]) r.2
def cf170 :Cf:=⟨[10,12,10000010],[],[],[],[],[]⟩
def Ap9 (N n:Nat):Prop:=∀(aG:G2) (aR:List (B8×A8)) (aA:A0) (aO:Int) (aF:List A3) (aK:List A3) (r:(A8×List (B8×A8))),W9 N n aG aR aA aO aF aK=some r→Ii prog 170 (fun id=>[.eref [sr eAu4 aG.prover.cP,vi aG.prover.count,.map id] 0,(C0 aA),vi aO,sr eAu3 aF,sr eAu3 aK]) eAv7 eAv8 aR ((F5 r.1)) r.2
def cf171 :Cf:=⟨[10],[],[(61,15)],[],[],[]⟩
def Ap8 (N n:Nat):Prop:=∀(aG:G2) (aR:List (B8×A8)) (aA:A0) (aO:Int) (aF:List A3) (aK:List A3) (r:(A8×List (B8×A8))),S0 N n aG aR aA aO aF aK=some r→Ii prog 171 (fun id=>[.eref [sr eAu4 aG.prover.cP,vi aG.prover.count,.map id] 0,(C0 aA),vi aO,sr eAu3 aF,sr eAu3 aK]) eAv7 eAv8 aR ((F5 r.1)) r.2
theorem k61 (N n:Nat)(ih129:Aq1 N n):K61 N (n+1):=by
 intro aG aR aA aO aF aK r h
 unfold G3 at h
 refine EW (T:=TT) cf61 L4 func61 (by rfl) (by kernel_rfl) call61 ntmps61 (by rfl) (fun _=>rfl) ?_;intro E H0 id0 o0 K hE ho0 hO hK;cbv;refine C9 hE hO fun b1 H hO=>?_;cbv;refine C1 hE eAv6 h fun x2 h=>?_;cbv;refine E0 hE ?_;cbv;refine C1 hE eAv6 h fun x3 h=>?_;cbv;refine E0 hE ?_;cbv;refine UA (eAx2 (⟨aO,x2.at_,x3.at_,Ar.len aK⟩:B8)) ?_;refine Ae5 hE (z:=.agg [vi 0,vi 0,vi 0,vi 0,.sl [] .nil,.bool false]) eAx1 (kt:=178) (et:=115) (by kernel_rfl) (by kernel_rfl) Ak9 ((⟨(⟨(⟨0,0,0⟩:O7),0,[]⟩:A1),false⟩:A8):A8) (by kernel_rfl) (by rw[eAx1];exact .agg (.cons (.refl _) (.cons (.refl _) (.cons (.refl _) (.cons (.refl _) (.cons (.lit _ (D5)) (.refl _))))))) hO ho0 1 rfl h fun r4 h=>?_;cbv;refine A5 hE h (fun _ h=>?_) fun _ h=>?_
 ·cbv;refine B0 hE hO 0 rfl rfl fun H hO=>?_;cbv;refine B1 hE hO 0 rfl ?_;cbv;cases h;exact hK _ _ _ 1 _ ho0 rfl hO (.refl _)
 cbv;refine CH (g:=fun r5=>(F5 r5)) hE hO ho0 1 rfl h (ih129 aG aR aA aO aF aK) (.refl _) fun r5 o6 H ho6 hO h=>?_;cbv;refine Qr (eAx2 (⟨aO,x2.at_,x3.at_,Ar.len aK⟩:B8)) ?_;refine An1 hE (eAx1 _).symm (kt:=178) (et:=115) (by kernel_rfl) (by kernel_rfl) Ak9 hO ho6 1 rfl h fun l8 o7 H ho7 h hO=>?_;cbv;refine B0 hE hO 0 rfl rfl fun H hO=>?_;cbv;refine B1 hE hO 0 rfl ?_;cbv;cases h;exact hK _ _ _ 1 _ ho7 rfl hO (.refl _)
theorem k129 (N n:Nat) (ih61:K61 N n) (ih169:Aq0 N n) (ih170:Ap9 N n) (ih171:Ap8 N n):Aq1 N (n+1):=by
 intro aG aR aA aO aF aK r h
 unfold T3 at h
 refine EW (T:=TT) cf129 L4 func129 (by rfl) (by kernel_rfl) call129 ntmps129 (by rfl) (fun _=>rfl) ?_;intro E H0 id0 o0 K hE ho0 hO hK;cbv;refine C9 hE hO fun b1 H hO=>?_;cbv;refine Ak7 hE (ds:=[vi 0,vi 0,vi 0,vi 0,sr eAu5 ([]),.bool false]) hO 0 rfl (.cons (.refl _) (.cons (.refl _) (.cons (.refl _) (.cons (.refl _) (.cons (.lit _ (D5)) (.refl _)))))) fun H hO=>?_;cbv;obtain⟨s2,hx,h⟩:=bind_some h;refine J4 cf129 hE L4 (fun e l H1=>match(generalizing:=false) s2 with| .inl y=>e= .normal∧l=[(0,.v (.eref [sr eAu4 aG.prover.cP,vi aG.prover.count,.map id0] 0)),fi 2 aO,(3,.v (sr eAu3 aF)),(4,.v (sr eAu3 aK)),(6,.v (.eref (D6 aA) 0)),(10,.v (.ref b1 0))]∧C3 Eq (upd H0 id0 none) [cb b1 [vi 0,vi 0,vi 0,vi 0,sr eAu5 ([]),.bool false],.blk id0 (.vm o0.1 o0.2)] H1| .inr y=>∃u1:(List Value×List V),Md eAv7 eAv8 u1 y.2∧e= .ret∧l=[(10,.v (.ref b1 0))]∧C3 Eq (upd H0 id0 none) [cb b1 (M6 y.1),.blk id0 (.vm u1.1 u1.2)] H1) (by kernel_rfl) ?_ ?_
 ·clear h;have h:=hx;clear hx;cbv;refine A5 hE h (fun _ h=>?_) fun _ h=>?_
  ·cbv;refine E0 hE ?_;cbv;refine A5 hE h (fun _ h=>?_) fun _ h=>?_
   ·cbv;refine C1 hE eAv6 h fun x3 h=>?_;cbv;refine A5 hE h (fun _ h=>?_) fun _ h=>?_
    ·cbv;refine C1 hE eAv6 h fun x4 h=>?_;cbv;refine A4 hE h (c139 N aG.prover aA aK x4.at_) (.cons (.sub (d:=0) (sz:=2) (Nat.le_of_ble_eq_true rfl)) (.refl _)) fun r5 h=>?_;cbv;refine C1 hE eAv6 h fun x6 h=>?_;cbv;refine C1 hE eAv0 h fun x7 h=>?_;cbv;refine C7 hE (g:=fun r8=>(Bb r8)) h (c116 N x7) (.refl _) fun r8 h=>?_;cbv;refine HK hE (vs':=[vi r8.Time,vi r8.Source,vi r8.Seq,vi 0,sr eAu5 ([]),.bool r5]) hO 0 rfl rfl (.cons (.refl _) (.cons (.refl _) (.cons (.refl _) (.cons (.refl _) (.cons (.lit _ (D5)) (.refl _)))))) fun H hO=>?_;cbv;cases h;exact⟨_,⟨o0,ho0,rfl,rfl,hO⟩,.e rfl .z,rfl⟩
    cbv;refine C1 hE eAv6 h fun x9 h=>?_;cbv;refine C1 hE eAv0 h fun x10 h=>?_;cbv;refine C7 hE (g:=fun r11=>(Bb r11)) h (c116 N x10) (.refl _) fun r11 h=>?_;cbv;refine HK hE (vs':=[vi r11.Time,vi r11.Source,vi r11.Seq,vi 0,sr eAu5 ([]),.bool false]) hO 0 rfl rfl (.cons (.refl _) (.cons (.refl _) (.cons (.refl _) (.cons (.refl _) (.cons (.lit _ (D5)) (.refl _)))))) fun H hO=>?_;cbv;cases h;exact⟨_,⟨o0,ho0,rfl,rfl,hO⟩,.e rfl .z,rfl⟩
   cbv;refine C1 hE eAv6 h fun x12 h=>?_;cbv;refine C1 hE eAv0 h fun x13 h=>?_;cbv;refine C7 hE (g:=fun r14=>(Bb r14)) h (c116 N x13) (.refl _) fun r14 h=>?_;cbv;refine HK hE (vs':=[vi r14.Time,vi r14.Source,vi r14.Seq,vi 0,sr eAu5 ([]),.bool false]) hO 0 rfl rfl (.cons (.refl _) (.cons (.refl _) (.cons (.refl _) (.cons (.refl _) (.cons (.lit _ (D5)) (.refl _)))))) fun H hO=>?_;cbv;cases h;exact⟨_,⟨o0,ho0,rfl,rfl,hO⟩,.e rfl .z,rfl⟩
  cbv;refine A5 hE h (fun _ h=>?_) fun _ h=>?_
  ·cbv;refine CH (g:=fun r15=>.tup [sr eAu5 r15.1,.bool r15.2]) hE hO ho0 1 rfl h (ih169 aG aR aA aO aF aK) (.refl _) fun r15 o16 H ho16 hO h=>?_;cbv;refine B0 hE hO 0 rfl rfl fun H hO=>?_;cbv;cases h;exact⟨_,⟨o16,ho16,rfl,rfl,hO⟩,.e rfl .z,rfl⟩
  cbv;refine A5 hE h (fun _ h=>?_) fun _ h=>?_
  ·cbv;cases h
  cbv;obtain⟨s17,hx,h⟩:=bind_some h;refine J4 cf129 hE L4 (fun e l H1=>e= .normal∧l=[(0,.v (.eref [sr eAu4 aG.prover.cP,vi aG.prover.count,.map id0] 0)),fi 2 aO,(3,.v (sr eAu3 aF)),(4,.v (sr eAu3 aK)),(6,.v (.eref (D6 aA) 0)),(10,.v (.ref b1 0)),(81,.v (.bool s17))]∧C3 Eq (upd H0 id0 none) [cb b1 [vi 0,vi 0,vi 0,vi 0,sr eAu5 ([]),.bool false],.blk id0 (.vm o0.1 o0.2)] H1) (by kernel_rfl) ?_ ?_
  ·clear h;have h:=hx;clear hx;cbv;refine A5 hE h (fun _ h=>?_) fun _ h=>?_
   ·cbv;cases h;exact⟨_,⟨rfl,rfl,hO⟩,.e rfl (.e2 (.e4 .z)),rfl⟩
   cbv;cases h;exact⟨_,⟨rfl,rfl,hO⟩,.e rfl (.e2 (.e4 .z)),rfl⟩
  clear hx;rintro e l H ⟨rfl,rfl,hO⟩;cbv;refine A5 hE h (fun _ h=>?_) fun _ h=>?_
  ·cbv;refine CH (g:=fun r18=>(F5 r18)) hE hO ho0 1 rfl h (ih171 aG aR aA aO aF aK) (.refl _) fun r18 o19 H ho19 hO h=>?_;cbv;refine B0 hE hO 0 rfl rfl fun H hO=>?_;cbv;cases h;exact⟨_,⟨o19,ho19,rfl,rfl,hO⟩,.e rfl .z,rfl⟩
  cbv;cases h;exact⟨_,⟨rfl,rfl,hO⟩,.e2 (.e4 .z),rfl⟩
 clear hx
 rcases s2 with y20|y21
 ·rintro e l H ⟨rfl,rfl,hO⟩;cbv;cases h
 rintro e l H ⟨q22,hq22,rfl,rfl,hO⟩;cbv;refine B1 hE hO 0 rfl ?_;cbv;cases h;exact hK _ _ _ 1 _ hq22 rfl hO (.refl _)
set_option maxHeartbeats 2000000 in
theorem k169 (N n:Nat) (ih61:K61 N n):Aq0 N (n+1):=by
 intro aG aR aA aO aF aK r h
 unfold M8 at h
 refine EW (T:=TT) cf169 L4 func169 (by rfl) (by kernel_rfl) call169 ntmps169 (by rfl) (fun _=>rfl) ?_;intro E H0 id0 o0 K hE ho0 hO hK;cbv;refine E0 hE ?_;cbv;refine VJ hE (f:=eAw1) (by decide) (z0:=([]:List A1)) ((.eq (eAw6 _) (.lit _ (D5)))) hO h fun l2 q1 H hq1 h hO=>?_;cbv;refine VJ hE (f:=V.bool) (by decide) (z0:=(false:Bool)) ((.refl _)) hO h fun l4 q3 H hq3 h hO=>?_;cbv;refine Ap hE hO hq3 0 rfl h fun h=>?_;cbv;refine EH hE (f:=V.bool) (esz:=1) (tz:=1) (off:=0) (u:=(fun x5:Bool=>true)) (fun _=>⟨.bool true,.refl _,rfl,rfl,rfl⟩) (by decide) hO hq3 0 rfl h fun l6 H hq3 h hO=>?_;cbv;obtain⟨s11,hx,h⟩:=bind_some h;refine P5 cf169 hE L4 (γ:=OG×OG×(List Value×List V)) (fun s7 g=>[(0,.v (.eref [sr eAu4 aG.prover.cP,vi aG.prover.count,.map id0] 0)),fi 2 aO,(3,.v (sr eAu3 aF)),(4,.v (sr eAu3 aK)),(6,.v (.eref (D6 aA) 0)),fi 12 (Ar.len aF),(13,.v (.own g.2.1.id g.2.1.lo g.2.1.n)),(14,.v (.own g.1.id g.1.lo g.1.n)),fi 15 s7.1]) (fun s7 g H1=>Aa g.1 (Ar.len s7.2.1)∧Aa g.2.1 (Ar.len s7.2.2.1)∧Md eAv7 eAv8 g.2.2 s7.2.2.2∧C3 Eq (upd H0 id0 none) [.blk g.1.id (.arr 1 (g.1.pre++lst V.bool s7.2.1++g.1.rest)),.blk g.2.1.id (.arr 1 (g.2.1.pre++lst eAw1 s7.2.2.1++g.2.1.rest)),.blk id0 (.vm g.2.2.1 g.2.2.2)] H1) (fun x e l H1=>∃u1:OG,Aa u1 (Ar.len x.1)∧∃u2:OG,Aa u2 (Ar.len x.2.1)∧∃u3:(List Value×List V),Md eAv7 eAv8 u3 x.2.2∧e= .exit 0∧l=[(13,.v (.own u2.id u2.lo u2.n)),(14,.v (.own u1.id u1.lo u1.n))]∧C3 Eq (upd H0 id0 none) [ob u1 1 V.bool x.1,ob u2 1 eAw1 x.2.1,.blk id0 (.vm u3.1 u3.2)] H1) (by kernel_rfl) ?_ (⟨q3,q1,o0⟩) hx ?_ ?_ ?_
 ·rintro s7 ⟨q8,q9,q10⟩ H o ⟨hq8,hq9,hq10,hO⟩ h;clear hx;cbv;refine A5 hE h (fun _ h=>?_) fun _ h=>?_
  ·cbv;obtain⟨s16,hx,h⟩:=bind_some h;refine P5 cf169 hE L4 (γ:=OG×OG×(List Value×List V)) (fun s12 g=>[(0,.v (.eref [sr eAu4 aG.prover.cP,vi aG.prover.count,.map id0] 0)),fi 2 aO,(3,.v (sr eAu3 aF)),(4,.v (sr eAu3 aK)),(6,.v (.eref (D6 aA) 0)),fi 12 (Ar.len aF),(13,.v (.own g.2.1.id g.2.1.lo g.2.1.n)),(14,.v (.own g.1.id g.1.lo g.1.n)),fi 15 s7.1,fi 16 s12.1]) (fun s12 g H1=>Aa g.1 (Ar.len s12.2.1)∧Aa g.2.1 (Ar.len s12.2.2.1)∧Md eAv7 eAv8 g.2.2 s12.2.2.2∧C3 Eq (upd H0 id0 none) [.blk g.1.id (.arr 1 (g.1.pre++lst V.bool s12.2.1++g.1.rest)),.blk g.2.1.id (.arr 1 (g.2.1.pre++lst eAw1 s12.2.2.1++g.2.1.rest)),.blk id0 (.vm g.2.2.1 g.2.2.2)] H1) (fun x e l H1=>∃u1:OG,Aa u1 (Ar.len x.1)∧∃u2:OG,Aa u2 (Ar.len x.2.1)∧∃u3:(List Value×List V),Md eAv7 eAv8 u3 x.2.2∧e= .exit 2∧l=[(0,.v (.eref [sr eAu4 aG.prover.cP,vi aG.prover.count,.map id0] 0)),fi 2 aO,(3,.v (sr eAu3 aF)),(4,.v (sr eAu3 aK)),(6,.v (.eref (D6 aA) 0)),fi 12 (Ar.len aF),(13,.v (.own u2.id u2.lo u2.n)),(14,.v (.own u1.id u1.lo u1.n)),fi 15 s7.1]∧C3 Eq (upd H0 id0 none) [ob u1 1 V.bool x.1,ob u2 1 eAw1 x.2.1,.blk id0 (.vm u3.1 u3.2)] H1) (by kernel_rfl) ?_ (⟨q8,q9,q10⟩) hx ?_ ?_ ?_
   ·rintro s12 ⟨q13,q14,q15⟩ H o ⟨hq13,hq14,hq15,hO⟩ h;clear hx;cbv;refine A5 hE h (fun _ h=>?_) fun _ h=>?_
    ·cbv;refine Ap hE hO hq13 0 rfl h fun h=>?_;cbv;refine Bx hE (fun _=>rfl) hO hq13 0 rfl h fun x17 h=>?_;cbv;refine A5 hE h (fun _ h=>?_) fun _ h=>?_
     ·cbv;refine Ap hE hO hq13 0 rfl h fun h=>?_;cbv;refine Bx hE (fun _=>rfl) hO hq13 0 rfl h fun x18 h=>?_;cbv;refine A5 hE h (fun _ h=>?_) fun _ h=>?_
      ·cbv;cases h;exact⟨_,⟨q13,q14,q15⟩,rfl,.e2 (.e4 (.e4 .z)),rfl,hq13,hq14,hq15,hO⟩
      cbv;obtain⟨s19,hx,h⟩:=bind_some h;refine J4 cf169 hE L4 (fun e l H1=>∃u1:Nat,True∧∃u2:(List Value×List V),Md eAv7 eAv8 u2 s19.2∧e= .normal∧l=[(0,.v (.eref [sr eAu4 aG.prover.cP,vi aG.prover.count,.map id0] 0)),fi 2 aO,(3,.v (sr eAu3 aF)),(4,.v (sr eAu3 aK)),(6,.v (.eref (D6 aA) 0)),fi 12 (Ar.len aF),(13,.v (.own q14.id q14.lo q14.n)),(14,.v (.own q13.id q13.lo q13.n)),fi 15 s7.1,fi 16 s12.1,(17,.v (.ref u1 0))]∧C3 Eq (upd H0 id0 none) [cb u1 (M6 s19.1),ob q13 1 V.bool s12.2.1,ob q14 1 eAw1 s12.2.2.1,.blk id0 (.vm u2.1 u2.2)] H1) (by kernel_rfl) ?_ ?_
      ·clear h;have h:=hx;clear hx;cbv;obtain⟨x140,ex140,h⟩:=bind_some h;obtain⟨l420,el420,h⟩:=bind_some h;obtain⟨l580,el580,h⟩:=bind_some h;obtain⟨r620,er620,h⟩:=bind_some h;obtain⟨r660,er660,h⟩:=bind_some h
       repeat' first|refine And.intro ?_ ?_|(refine C1 hE eAv2 (K7 ex140) fun x140 hh=>?_;obtain rfl:=D3 hh;cbv)|(refine Cd hE (f:=eAu3) Q1 (K7 el420) fun l420 t421 hh=>?_;obtain rfl:=D3 hh;cbv)|(refine Cd hE (f:=eAu3) Q1 (K7 el580) fun l580 t581 hh=>?_;obtain rfl:=D3 hh;cbv)|(refine A4 hE (g:=fun r620=>sr eAu3 r620) (K7 er620) (c140 N aK l580) (.cons (.refl _) (.cons (.ro _ _) (.refl _))) fun r620 hh=>?_;obtain rfl:=D3 hh;cbv)|(refine CH (g:=fun r660=>(F5 r660)) hE hO hq15 2 rfl (K7 er660) (ih61 aG s12.2.2.2 x140 (Ar.ar .add .i64 aO 1) l420 r620) (.cons (.refl _) (.cons (.refl _) (.cons (.refl _) (.cons (.ro _ _) (.refl _))))) fun r660 o661 H ho661 hO hh=>?_;obtain rfl:=D3 hh;cbv)|(refine C9 hE hO fun b700 H hO=>?_;cbv)|(refine B0 hE hO 0 rfl rfl fun H hO=>?_;cbv)|(have h:=D3 h;subst h;exact⟨_,⟨b700,trivial,o661,ho661,rfl,rfl,hO⟩,.e rfl (.e2 (.e4 (.e4 .z))),rfl⟩)|(refine CH (g:=fun r660=>(F5 r660)) hE hO hq15 3 rfl (K7 er660) (ih61 aG s12.2.2.2 x140 (Ar.ar .add .i64 aO 1) l420 r620) (.cons (.refl _) (.cons (.refl _) (.cons (.refl _) (.cons (.ro _ _) (.refl _))))) fun r660 o661 H ho661 hO hh=>?_;obtain rfl:=D3 hh;cbv)
      clear hx;rintro e l H ⟨b820,hb820,q821,hq821,rfl,rfl,hO⟩;cbv;refine B1 hE hO 0 rfl ?_;cbv;refine A5 hE h (fun _ h=>?_) fun _ h=>?_
      ·cbv;obtain⟨s822,hx,h⟩:=bind_some h;refine J4 cf169 hE L4 (fun e l H1=>∃u1:OG,Aa u1 (Ar.len s822.1)∧∃u2:OG,Aa u2 (Ar.len s822.2)∧e= .normal∧l=[(0,.v (.eref [sr eAu4 aG.prover.cP,vi aG.prover.count,.map id0] 0)),fi 2 aO,(3,.v (sr eAu3 aF)),(4,.v (sr eAu3 aK)),(6,.v (.eref (D6 aA) 0)),fi 12 (Ar.len aF),(13,.v (.own u2.id u2.lo u2.n)),(14,.v (.own u1.id u1.lo u1.n)),fi 15 s7.1,fi 16 s12.1]∧C3 Eq (upd H0 id0 none) [cb b820 (M6 s19.1),ob u1 1 V.bool s822.1,ob u2 1 eAw1 s822.2,.blk id0 (.vm q821.1 q821.2)] H1) (by kernel_rfl) ?_ ?_
       ·clear h;have h:=hx;clear hx;cbv;obtain⟨u1182_0,eu1182_0,h⟩:=bind_some h;obtain⟨x1223,ex1223,h⟩:=bind_some h;obtain⟨l1264,el1264,h⟩:=bind_some h;obtain⟨u1302_0,eu1302_0,h⟩:=bind_some h;obtain⟨l1344,el1344,h⟩:=bind_some h;obtain⟨u1382_0,eu1382_0,h⟩:=bind_some h;obtain⟨l1424,el1424,h⟩:=bind_some h
        repeat' first|refine And.intro ?_ ?_|(refine B1 hE hO 0 rfl ?_;cbv)|(refine Ap hE hO hq14 2 rfl (K7 eu1182_0) fun hh=>?_;clear hh;cbv)|(refine Bx hE eAw6 hO hq14 2 rfl (K7 ex1223) fun x1223 hh=>?_;obtain rfl:=D3 hh;cbv)|(refine Y5 (f:=eAu5) hE N2 (by decide) (hO.tl0 (t:=.full) rfl) 0 rfl trivial (l:=[s19.1.d]) (m:=x1223) (.lstc (.eq (eAu7 s19.1.d) (.refl _)) (.lst0)) (.refl _) (K7 el1264) fun l1264 t1263 H hO ht1263 hh=>?_;obtain rfl:=D3 hh;cbv)|(refine Ap hE hO hq14 3 rfl (K7 eu1302_0) fun hh=>?_;clear hh;cbv)|(refine EH hE (f:=eAw1) (esz:=1) (tz:=1) (off:=0) (u:=(fun x1343:List A1=>l1264)) (fun _=>⟨_,.eq (eAw6 _) (.ro _ _),(by rw[eAw6];rfl),Mg _,rfl⟩) (by decide) hO hq14 3 rfl (K7 el1344) fun l1344 H hq14 hh hO=>?_;obtain rfl:=D3 hh;cbv)|(refine Ap hE hO hq13 2 rfl (K7 eu1382_0) fun hh=>?_;clear hh;cbv)|(refine EH hE (f:=V.bool) (esz:=1) (tz:=1) (off:=0) (u:=(fun x1423:Bool=>true)) (fun _=>⟨.bool true,.refl _,rfl,rfl,rfl⟩) (by decide) hO hq13 2 rfl (K7 el1424) fun l1424 H hq13 hh hO=>?_;obtain rfl:=D3 hh;cbv)|(have h:=D3 h;subst h;exact⟨_,⟨q13,hq13,q14,hq14,rfl,rfl,hO.tail⟩,.e2 (.e4 (.e4 .z)),rfl⟩)
       clear hx;rintro e l H ⟨q1503,hq1503,q1504,hq1504,rfl,rfl,hO⟩;cbv;cases h;exact⟨_,⟨q1503,q1504,q821⟩,rfl,.e2 (.e4 (.e4 .z)),rfl,hq1503,hq1504,hq821,hO.tail⟩
      cbv;cases h;exact⟨_,⟨q13,q14,q821⟩,rfl,.e2 (.e4 (.e4 .z)),rfl,hq13,hq14,hq821,hO.tail⟩
     cbv;cases h;exact⟨_,_,rfl,⟨q13,hq13,q14,hq14,q15,hq15,rfl,rfl,hO⟩,.e rfl (.e4 (.e4 .z)),rfl⟩
    cbv;cases h;exact⟨_,_,rfl,⟨q13,hq13,q14,hq14,q15,hq15,rfl,rfl,hO⟩,.e rfl (.e4 (.e4 .z)),rfl⟩
   ·exact .e2 (.e4 (.e4 .z))
   ·exact⟨hq8,hq9,hq10,hO⟩
   clear hx;rintro e l H ⟨q1505,hq1505,q1506,hq1506,q1507,hq1507,rfl,rfl,hO⟩;cbv;cases h;exact⟨_,⟨q1505,q1506,q1507⟩,rfl,.e rfl (.e4 (.e4 .z)),rfl,hq1505,hq1506,hq1507,hO⟩
  cbv;cases h;exact⟨_,_,rfl,⟨q8,hq8,q9,hq9,q10,hq10,rfl,rfl,hO⟩,.e2 .z,rfl⟩
 ·exact .e rfl (.e4 (.e4 .z))
 ·exact⟨hq3,hq1,ho0,hO⟩
 clear hx;rintro e l H ⟨q1508,hq1508,q1509,hq1509,q1510,hq1510,rfl,rfl,hO⟩;cbv;refine Ap hE hO hq1509 1 rfl h fun h=>?_;cbv;refine Bx hE eAw6 hO hq1509 1 rfl h fun x1511 h=>?_;cbv;refine Ap hE hO hq1508 0 rfl h fun h=>?_;cbv;refine Bx hE (fun _=>rfl) hO hq1508 0 rfl h fun x1512 h=>?_;cbv;cases h;exact hK _ _ _ 2 _ hq1510 rfl hO (.refl _)
end Go.Ab
namespace Go.Ab
open Go.RowKit Go.Proofs Go.Proofs.Tryz I8
variable [Ar][I8]
set_option maxRecDepth 100000
theorem k170 (N n:Nat) (ih61:K61 N n):Ap9 N (n+1):=by
 intro aG aR aA aO aF aK r h
 unfold W9 at h
 refine EW (T:=TT) cf170 L4 func170 (by rfl) (by kernel_rfl) call170 ntmps170 (by rfl) (fun _=>rfl) ?_;intro E H0 id0 o0 K hE ho0 hO hK;cbv;refine C9 hE hO fun b1 H hO=>?_;cbv;refine Ak7 hE (ds:=[vi 0,vi 0,vi 0,vi 0,sr eAu5 ([]),.bool false]) hO 0 rfl (.cons (.refl _) (.cons (.refl _) (.cons (.refl _) (.cons (.refl _) (.cons (.lit _ (D5)) (.refl _)))))) fun H hO=>?_;cbv;refine E0 hE ?_;cbv;obtain⟨s3,hx,h⟩:=bind_some h;refine E6 cf170 hE L4 (fun s2=>[(0,.v (.eref [sr eAu4 aG.prover.cP,vi aG.prover.count,.map id0] 0)),fi 2 s2.1,(3,.v (sr eAu3 aF)),(4,.v (sr eAu3 aK)),(10,.v (.ref b1 0)),(20,.v (sr eAv1 aA.cK)),fi 21 (Ar.len aA.cK),fi 22 s2.2]) (fun s2 H1=>C3 Eq (upd H0 id0 none) [cb b1 [vi 0,vi 0,vi 0,vi 0,sr eAu5 ([]),.bool false],.blk id0 (.vm o0.1 o0.2)] H1) (fun x e l H1=>match(generalizing:=false) x with| .inl y=>e= .exit 0∧l=[(10,.v (.ref b1 0))]∧C3 Eq (upd H0 id0 none) [cb b1 [vi 0,vi 0,vi 0,vi 0,sr eAu5 ([]),.bool false],.blk id0 (.vm o0.1 o0.2)] H1| .inr y=>∃u1:(List Value×List V),Md eAv7 eAv8 u1 y.2∧e= .ret∧l=[(10,.v (.ref b1 0))]∧C3 Eq (upd H0 id0 none) [cb b1 (M6 y.1),.blk id0 (.vm u1.1 u1.2)] H1) (by kernel_rfl) ?_ hx ?_ hO ?_
 ·intro s2 H o hO h;clear hx;cbv;refine A5 hE h (fun _ h=>?_) fun _ h=>?_
  ·cbv;refine C1 hE eAv2 h fun x4 h=>?_;cbv;refine C9 hE hO fun b5 H hO=>?_;cbv;refine B0 hE hO 0 rfl rfl fun H hO=>?_;cbv;refine B1 hE hO 0 rfl ?_;cbv;refine A4 hE h (c224 N x4 aF) (.refl _) fun r6 h=>?_;cbv;refine E0 hE ?_;cbv;refine E0 hE ?_;cbv;refine A5 hE h (fun _ h=>?_) fun _ h=>?_
   ·cbv;refine B1 hE hO 0 rfl ?_;cbv;refine CH (g:=fun r7=>(F5 r7)) hE hO ho0 2 rfl h (ih61 aG aR x4 s2.1 aF aK) (.refl _) fun r7 o8 H ho8 hO h=>?_;cbv;refine HK hE (vs':=[vi 0,vi 0,vi 0,vi s2.2,sr eAu5 ([r7.1.d]),.bool r7.1.ok]) hO 1 rfl rfl (.cons (.refl _) (.cons (.refl _) (.cons (.refl _) (.cons (.refl _) (.cons (.lit _ (E5 ((eAu7 r7.1.d).symm) (D5))) (.refl _)))))) fun H hO=>?_;cbv;cases h;exact⟨_,_,rfl,⟨o8,ho8,rfl,rfl,hO.tail⟩,.e rfl .z,rfl⟩
   cbv;refine B1 hE hO 0 rfl ?_;cbv;refine A4 hE h (c214 N N x4) (.refl _) fun r9 h=>?_;cbv;cases h;exact⟨_,rfl,.e4 (.e4 .z),rfl,hO.tail⟩
  cbv;cases h;exact⟨_,_,rfl,⟨rfl,rfl,hO⟩,.e rfl .z,rfl⟩
 ·exact .e4 (.e4 .z)
 clear hx
 rcases s3 with y10|y11
 ·rintro e l H ⟨rfl,rfl,hO⟩;cbv;refine HK hE (vs':=[vi 0,vi 0,vi 0,vi 0,sr eAu5 ([]),.bool false]) hO 0 rfl rfl (.cons (.refl _) (.cons (.refl _) (.cons (.refl _) (.cons (.refl _) (.cons (.lit _ (D5)) (.refl _)))))) fun H hO=>?_;cbv;refine B1 hE hO 0 rfl ?_;cbv;cases h;exact hK _ _ _ 1 _ ho0 rfl hO (.refl _)
 rintro e l H ⟨q12,hq12,rfl,rfl,hO⟩;cbv;refine B1 hE hO 0 rfl ?_;cbv;cases h;exact hK _ _ _ 1 _ hq12 rfl hO (.refl _)
theorem k171 (N n:Nat) (ih61:K61 N n):Ap8 N (n+1):=by
 intro aG aR aA aO aF aK r h
 unfold S0 at h
 refine EW (T:=TT) cf171 L4 func171 (by rfl) (by kernel_rfl) call171 ntmps171 (by rfl) (fun _=>rfl) ?_;intro E H0 id0 o0 K hE ho0 hO hK;cbv;refine C9 hE hO fun b1 H hO=>?_;cbv;refine E0 hE ?_;cbv;replace hO:=hO.tl0 (t:=.nil) rfl;obtain⟨s5,hx,h⟩:=bind_some h;refine P5 cf171 hE L4 (γ:=E4×(List Value×List V)) (fun s2 g=>[(0,.v (.eref [sr eAu4 aG.prover.cP,vi aG.prover.count,.map id0] 0)),fi 2 s2.1,(3,.v (sr eAu3 aF)),(4,.v (sr eAu3 s2.2.1)),(6,.v (.eref (D6 aA) 0)),(10,.v (.ref b1 0)),(11,.v (.sl (lst eAu5 s2.2.2.1) g.1)),fi 12 s2.2.2.2.1,fi 13 s2.2.2.2.2.1,(23,.v (sr eAv1 aA.cK)),fi 24 (Ar.len aA.cK),fi 25 s2.2.2.2.2.2.1]) (fun s2 g H1=>T8 g.1∧Md eAv7 eAv8 g.2 s2.2.2.2.2.2.2∧C3 Eq (upd H0 id0 none) [.tl g.1,cb b1 [vi 0,vi 0,vi 0,vi 0,.sl [] .nil,.bool false],.blk id0 (.vm g.2.1 g.2.2)] H1) (fun x e l H1=>∃u1:E4,T8 u1∧∃u2:(List Value×List V),Md eAv7 eAv8 u2 x.2.2∧e= .exit 0∧l=[(3,.v (sr eAu3 aF)),(10,.v (.ref b1 0)),(11,.v (.sl (lst eAu5 x.1) u1)),fi 12 x.2.1]∧C3 Eq (upd H0 id0 none) [.tl u1,cb b1 [vi 0,vi 0,vi 0,vi 0,.sl [] .nil,.bool false],.blk id0 (.vm u2.1 u2.2)] H1) (by kernel_rfl) ?_ (⟨.nil,o0⟩) hx ?_ ?_ ?_
 ·rintro s2 ⟨t3,q4⟩ H o ⟨ht3,hq4,hO⟩ h;clear hx;cbv;refine A5 hE h (fun _ h=>?_) fun _ h=>?_
  ·cbv;refine C1 hE eAv2 h fun x6 h=>?_;cbv;refine A4 hE h (c224 N x6 aF) (.refl _) fun r7 h=>?_;cbv;refine E0 hE ?_;cbv;refine A5 hE h (fun _ h=>?_) fun _ h=>?_
   ·cbv;cases h
   cbv;refine A5 hE h (fun _ h=>?_) fun _ h=>?_
   ·cbv;refine C1 hE eAv6 h fun x8 h=>?_;cbv;refine A5 hE h (fun _ h=>?_) fun _ h=>?_
    ·cbv;cases h
    cbv;refine CH (g:=fun r9=>(F5 r9)) hE hO hq4 2 rfl h (ih61 aG s2.2.2.2.2.2.2 x6 s2.1 r7 s2.2.1) (.refl _) fun r9 o10 H ho10 hO h=>?_;cbv;refine A5 hE h (fun _ h=>?_) fun _ h=>?_
    ·cbv;cases h
    cbv;obtain⟨s11,hx,h⟩:=bind_some h;refine J4 cf171 hE L4 (fun e l H1=>e= .normal∧l=[(0,.v (.eref [sr eAu4 aG.prover.cP,vi aG.prover.count,.map id0] 0)),fi 2 s2.1,(3,.v (sr eAu3 aF)),(4,.v (sr eAu3 s11.1)),(6,.v (.eref (D6 aA) 0)),(10,.v (.ref b1 0)),(11,.v (.sl (lst eAu5 s2.2.2.1) t3)),fi 12 s2.2.2.2.1,fi 13 s11.2,(15,.v (.eref (D6 x6) 0)),(16,.v (sr eAu3 r7)),(17,.v (.eref (M6 r9.1) 0)),(23,.v (sr eAv1 aA.cK)),fi 24 (Ar.len aA.cK),fi 25 s2.2.2.2.2.2.1]∧C3 Eq (upd H0 id0 none) [.tl t3,cb b1 [vi 0,vi 0,vi 0,vi 0,.sl [] .nil,.bool false],.blk id0 (.vm o10.1 o10.2)] H1) (by kernel_rfl) ?_ ?_
    ·clear h;have h:=hx;clear hx;cbv;refine A5 hE h (fun _ h=>?_) fun _ h=>?_
     ·cbv;refine A4 hE h (c140 N s2.2.1 r7) (.refl _) fun r12 h=>?_;cbv;refine A4 hE h (c142 N r7) (.refl _) fun r13 h=>?_;cbv;cases h;exact⟨_,⟨rfl,rfl,hO⟩,.e rfl (.e2 (.e4 (.e4 (.e4 .z)))),rfl⟩
     cbv;cases h;exact⟨_,⟨rfl,rfl,hO⟩,.e rfl (.e2 (.e4 (.e4 (.e4 .z)))),rfl⟩
    clear hx;rintro e l H ⟨rfl,rfl,hO⟩;cbv;refine A4 hE h (c214 N N x6) (.refl _) fun r14 h=>?_;cbv;refine Y5 (f:=eAu5) hE N2 (by decide) hO 0 rfl ht3 (l:=s2.2.2.1) (m:=[r9.1.d]) (.refl _) (.lstc (.eq (eAu7 r9.1.d) (.refl _)) (.lst0)) h fun l16 t15 H hO ht15 h=>?_;cbv;refine E0 hE ?_;cbv;cases h;exact⟨_,⟨t15,o10⟩,rfl,.e4 (.e4 (.e4 .z)),rfl,ht15,ho10,hO⟩
   cbv;refine CH (g:=fun r17=>(F5 r17)) hE hO hq4 2 rfl h (ih61 aG s2.2.2.2.2.2.2 x6 s2.1 r7 s2.2.1) (.refl _) fun r17 o18 H ho18 hO h=>?_;cbv;refine A5 hE h (fun _ h=>?_) fun _ h=>?_
   ·cbv;cases h
   cbv;obtain⟨s19,hx,h⟩:=bind_some h;refine J4 cf171 hE L4 (fun e l H1=>e= .normal∧l=[(0,.v (.eref [sr eAu4 aG.prover.cP,vi aG.prover.count,.map id0] 0)),fi 2 s2.1,(3,.v (sr eAu3 aF)),(4,.v (sr eAu3 s19.1)),(6,.v (.eref (D6 aA) 0)),(10,.v (.ref b1 0)),(11,.v (.sl (lst eAu5 s2.2.2.1) t3)),fi 12 s2.2.2.2.1,fi 13 s19.2,(15,.v (.eref (D6 x6) 0)),(16,.v (sr eAu3 r7)),(17,.v (.eref (M6 r17.1) 0)),(23,.v (sr eAv1 aA.cK)),fi 24 (Ar.len aA.cK),fi 25 s2.2.2.2.2.2.1]∧C3 Eq (upd H0 id0 none) [.tl t3,cb b1 [vi 0,vi 0,vi 0,vi 0,.sl [] .nil,.bool false],.blk id0 (.vm o18.1 o18.2)] H1) (by kernel_rfl) ?_ ?_
   ·clear h;have h:=hx;clear hx;cbv;refine A5 hE h (fun _ h=>?_) fun _ h=>?_
    ·cbv;refine A4 hE h (c140 N s2.2.1 r7) (.refl _) fun r20 h=>?_;cbv;refine A4 hE h (c142 N r7) (.refl _) fun r21 h=>?_;cbv;cases h;exact⟨_,⟨rfl,rfl,hO⟩,.e rfl (.e2 (.e4 (.e4 (.e4 .z)))),rfl⟩
    cbv;cases h;exact⟨_,⟨rfl,rfl,hO⟩,.e rfl (.e2 (.e4 (.e4 (.e4 .z)))),rfl⟩
   clear hx;rintro e l H ⟨rfl,rfl,hO⟩;cbv;refine A4 hE h (c214 N N x6) (.refl _) fun r22 h=>?_;cbv;refine Y5 (f:=eAu5) hE N2 (by decide) hO 0 rfl ht3 (l:=s2.2.2.1) (m:=[r17.1.d]) (.refl _) (.lstc (.eq (eAu7 r17.1.d) (.refl _)) (.lst0)) h fun l24 t23 H hO ht23 h=>?_;cbv;refine E0 hE ?_;cbv;cases h;exact⟨_,⟨t23,o18⟩,rfl,.e4 (.e4 (.e4 .z)),rfl,ht23,ho18,hO⟩
  cbv;cases h;exact⟨_,_,rfl,⟨t3,ht3,q4,hq4,rfl,rfl,hO⟩,.e4 .z,rfl⟩
 ·exact .e2 (.e4 (.v (.slt _ (.lst0)) (.e rfl (.e rfl (.e rfl (.e rfl (.e rfl (.z))))))))
 ·exact⟨trivial,ho0,hO⟩
 clear hx;rintro e l H ⟨t25,ht25,q26,hq26,rfl,rfl,hO⟩;cbv;refine E0 hE ?_;cbv;refine B0 hE hO 1 rfl rfl fun H hO=>?_;cbv;refine B1 hE hO 1 rfl ?_;cbv;cases h;exact hK _ _ _ 2 _ hq26 rfl hO (.agg (.cons (.refl _) (.cons (.refl _) (.cons (.refl _) (.cons (.refl _) (.cons (.ro _ _) (.refl _)))))))
theorem IQ (N:Nat):∀n,K61 N n∧Aq1 N n∧Aq0 N n∧Ap9 N n∧Ap8 N n:=by
 intro n
 induction n with
 |zero=>exact⟨(by intro aG aR aA aO aF aK r h;unfold G3 at h;cases h),(by intro aG aR aA aO aF aK r h;unfold T3 at h;cases h),(by intro aG aR aA aO aF aK r h;unfold M8 at h;cases h),(by intro aG aR aA aO aF aK r h;unfold W9 at h;cases h),(by intro aG aR aA aO aF aK r h;unfold S0 at h;cases h)⟩
 |succ n ih=>
  obtain⟨ih61,ih129,ih169,ih170,ih171⟩:=ih;exact⟨k61 N n ih129,k129 N n ih61 ih169 ih170 ih171,k169 N n ih61,k170 N n ih61,k171 N n ih61⟩
theorem c61 (N n aG aR aA aO aF aK r)(h:G3 N n aG aR aA aO aF aK=some r):Ii prog 61 (fun id=>[.eref [sr eAu4 aG.prover.cP,vi aG.prover.count,.map id] 0,(C0 aA),vi aO,sr eAu3 aF,sr eAu3 aK]) eAv7 eAv8 aR ((F5 r.1)) r.2:=(IQ N n).1 aG aR aA aO aF aK r h
def cf16 :Cf:=⟨[6],[],[],[],[],[]⟩
theorem c16 (N aA aF bF r) (h:Dk N aA aF bF=some r):B6 prog 16 [(C0 aA),sr eAu4 aF,(Gx bF)] (.tup [(C8 r.1),vi r.2]):=by
 unfold Dk at h
 refine J2 cf16 func16 call16 ntmps16 ?_;intro E H0 K hE hK hO;cbv;refine C9 hE hO fun b1 H hO=>?_;cbv;refine A4 hE h (c55 N aA) (.refl _) fun r2 h=>?_;cbv;refine A5 hE h (fun _ h=>?_) fun _ h=>?_
 ·cbv;cases h
 cbv;refine A4 hE h (c56 N aF) (.refl _) fun r3 h=>?_;cbv;refine A5 hE h (fun _ h=>?_) fun _ h=>?_
 ·cbv;cases h
 cbv;refine A4 hE h (c59 N bF) (.refl _) fun r4 h=>?_;cbv;refine A5 hE h (fun _ h=>?_) fun _ h=>?_
 ·cbv;cases h
 cbv;refine E0 hE ?_;cbv;refine A5 hE h (fun _ h=>?_) fun _ h=>?_
 ·cbv;cases h
 cbv;refine E0 hE ?_;cbv;replace hO:=hO.tl0 (t:=.nil) rfl;obtain⟨s7,hx,h⟩:=bind_some h;refine P5 cf16 hE L4 (γ:=E4) (fun s5 g=>[(1,.v (sr eAu4 aF)),(3,.v (.eref (D6 aA) 0)),(6,.v (.ref b1 0)),(11,.v (.sl (lst eAu3 s5.1) g)),(43,.v (sr eAu8 bF.cQ)),fi 44 (Ar.len bF.cQ),fi 45 s5.2]) (fun s5 g H1=>T8 g∧C3 Eq H0 [.tl g,cb b1 [vi 0,vi 0,vi 0,vi 0,.sl [] .nil]] H1) (fun x e l H1=>∃u1:E4,T8 u1∧e= .exit 0∧l=[(1,.v (sr eAu4 aF)),(3,.v (.eref (D6 aA) 0)),(6,.v (.ref b1 0)),(11,.v (.sl (lst eAu3 x) u1))]∧C3 Eq H0 [.tl u1,cb b1 [vi 0,vi 0,vi 0,vi 0,.sl [] .nil]] H1) (by kernel_rfl) ?_ .nil hx ?_ ?_ ?_
 ·rintro s5 t6 H o ⟨ht6,hO⟩ h;clear hx;cbv;refine A5 hE h (fun _ h=>?_) fun _ h=>?_
  ·cbv;refine C1 hE eAv5 h fun x8 h=>?_;cbv;refine A4 hE h (c60 N aF x8.Ref) (.refl _) fun r9 h=>?_;cbv;refine A5 hE h (fun _ h=>?_) fun _ h=>?_
   ·cbv;cases h
   cbv;refine Y5 (f:=eAu3) hE Q1 (by decide) hO 0 rfl ht6 (l:=s5.1) (m:=[(⟨x8.Var,r9.1⟩:A3)]) (.refl _) (.lstc (.eq (eAv6 (⟨x8.Var,r9.1⟩:A3)) (.refl _)) (.lst0)) h fun l11 t10 H hO ht10 h=>?_;cbv;cases h;exact⟨_,t10,rfl,.e rfl (.e2 (.e4 .z)),rfl,ht10,hO⟩
  cbv;cases h;exact⟨_,_,rfl,⟨t6,ht6,rfl,rfl,hO⟩,.e4 .z,rfl⟩
 ·exact .e rfl (.e2 (.v (.slt _ (.lst0)) (.e rfl (.e rfl (.e rfl (.z))))))
 ·exact⟨trivial,hO⟩
 clear hx;rintro e l H ⟨t12,ht12,rfl,rfl,hO⟩;cbv;refine As0 hE eAv7 eAv8 hO fun m13 o14 H ho14 hO=>?_;cbv;refine CH (g:=fun r15=>(F5 r15)) hE hO ho14 0 rfl h (c61 N N (⟨(⟨aF,0⟩:D4)⟩:G2) ([]:List (B8×A8)) aA 0 s7 ([])) (.cons (.refl _) (.cons (.refl _) (.cons (.refl _) (.cons (.ro _ _) (.cons (.lit _ (D5)) (.refl _)))))) fun r15 o16 H ho16 hO h=>?_;cbv;refine A5 hE h (fun _ h=>?_) fun _ h=>?_
 ·cbv;cases h
 cbv;refine B0 hE hO 2 rfl rfl fun H hO=>?_;cbv;refine B1 hE hO 2 rfl ?_;cbv;cases h;exact hK hO (.refl _)
theorem c227 (N aG aS r)(h:Cl N aG aS=some r):B6 prog 227 [.int .u64 aG,.int .u64 aS] (.tup [.int .u64 r.1,.int .u64 r.2]):=by
 unfold Cl at h
 refine J2 cf0 func227 call227 ntmps227 ?_;intro E H0 K hE hK hO;cbv;refine IB hE (Gq hE rfl) ?_;cbv;refine IB hE (Gq hE rfl) ?_;cbv;refine IB hE (Gq hE rfl) ?_;cbv;refine IB hE (Gq hE rfl) ?_;cbv;refine IB hE (Gq hE rfl) ?_;cbv;cases h;exact hK hO (.refl _)
theorem c176 (N aG aS r)(h:Ie N aG aS=some r):B6 prog 176 [.int .u64 aG,.int .u64 aS] (.tup [.int .u64 r.1,.int .u64 r.2]):=by
 unfold Ie at h
 refine J2 cf0 func176 call176 ntmps176 ?_;intro E H0 K hE hK hO;cbv;refine A4 hE h (c227 N aG aS) (.refl _) fun r1 h=>?_;cbv;cases h;exact hK hO (.refl _)
def cf137 :Cf:=⟨[],[(3000009,0),(3000009,1),(3000009,2),(3000009,4),(3000009,5),(3000009,8),(3000009,9)],[(10,3),(26,6)],[2000009],[],[]⟩
set_option maxHeartbeats 2000000 in
theorem c137 (N aG bX r) (h:K2 N aG bX=some r):B6 prog 137 [sr eAv1 aG,vi bX] (sr eAv1 r):=by
 unfold K2 at h
 refine CN (T:=TT) cf137 L4 func137 (by rfl) (by kernel_rfl) call137 ntmps137 (by rfl) (by rfl) ?_;intro E H0 K hE hK hF;have hO:C3 Eq H0 [] H0:=.start H5 rfl;cbv;obtain⟨s1,hx,h⟩:=bind_some h;refine J4 cf137 hE L4 (fun e l H1=>e= .normal∧l=[(0,.v (sr eAv1 aG)),fi 1 bX]∧C3 Eq H0 [] H1) (by kernel_rfl) ?_ ?_
 ·clear h;have h:=hx;clear hx;cbv;refine A5 hE h (fun _ h=>?_) fun _ h=>?_
  ·cbv;cases h
  cbv;cases h;exact⟨_,⟨rfl,rfl,hO⟩,.e2 .z,rfl⟩
 clear hx;rintro e l H ⟨rfl,rfl,hO⟩;cbv;refine E0 hE ?_;cbv;refine A4 hE h (c176 N (Ar.wr .u64 (Ar.len aG)) (Ar.wr .u64 bX)) (.refl _) fun r2 h=>?_;cbv;obtain⟨s3,hx,h⟩:=bind_some h;refine J4 cf137 hE L4 (fun e l H1=>e= .normal∧l=[(0,.v (sr eAv1 aG)),(6,.v (.int .u64 r2.2))]∧C3 Eq H0 [] H1) (by kernel_rfl) ?_ ?_
 ·clear h;have h:=hx;clear hx;cbv;refine A5 hE h (fun _ h=>?_) fun _ h=>?_
  ·cbv;cases h
  cbv;cases h;exact⟨_,⟨rfl,rfl,hO⟩,.e2 .z,rfl⟩
 clear hx;rintro e l H ⟨rfl,rfl,hO⟩;cbv;refine VJ hE (f:=eAv1) (by decide) (z0:=((⟨0,[],0,0,0,0,(⟨0,[],0,0,0,(⟨0,0,⟨#[]⟩⟩:A6)⟩:B4)⟩:A0):A0)) ((.eq (eAv2 _) (.agg (.cons (.refl _) (.cons (.lit _ (D5)) (.cons (.refl _) (.cons (.refl _) (.cons (.refl _) (.cons (.refl _) (.cons (.refl _) (.cons (.lit _ (D5)) (.refl _)))))))))))) hO h fun l5 q4 H hq4 h hO=>?_;cbv;refine Ae6 (f:=eAv1) hE hO hq4 0 rfl (m:=aG) (Lg (f:=eAv1) hE Ho (.refl _)) h fun p6 H hq4 hO h=>?_;cbv;obtain⟨s9,hx,h⟩:=bind_some h;refine P5 cf137 hE L4 (γ:=OG) (fun s7 g=>[(7,.v (.own g.id g.lo g.n)),fi 8 s7.1]) (fun s7 g H1=>Aa g (Ar.len s7.2)∧C3 Eq H0 [ob g 14 eAv1 s7.2] H1) (fun x e l H1=>∃u1:OG,Aa u1 (Ar.len x)∧e= .exit 0∧l=[(7,.v (.own u1.id u1.lo u1.n))]∧C3 Eq H0 [ob u1 14 eAv1 x] H1) (by kernel_rfl) ?_ q4 hx ?_ ?_ ?_
 ·rintro s7 q8 H o ⟨hq8,hO⟩ h;clear hx;cbv;refine Nr hE hq8 ?_;cbv;refine A5 hE h (fun _ h=>?_) fun _ h=>?_
  ·cbv;obtain⟨s10,hx,h⟩:=bind_some h;refine J4 cf137 hE L4 (fun e l H1=>∃u1:OG,Aa u1 (Ar.len s10.2)∧e= .normal∧l=[(7,.v (.own u1.id u1.lo u1.n)),fi 8 s10.1]∧C3 Eq H0 [ob u1 14 eAv1 s10.2] H1) (by kernel_rfl) ?_ ?_
   ·clear h;have h:=hx;clear hx;cbv;obtain⟨l132,el132,h⟩:=bind_some h;obtain⟨l252,el252,h⟩:=bind_some h;obtain⟨p291,ep291,h⟩:=bind_some h
    repeat' first|refine And.intro ?_ ?_|(refine Xi hE hO hq8 0 rfl (K7 el132) fun l132 q131 hq131 hh=>?_;obtain rfl:=D3 hh;cbv)|(refine Xh hE hO hq8 0 rfl (K7 el252) fun l252 q251 hq251 hh=>?_;obtain rfl:=D3 hh;cbv)|(refine Sy (f:=eAv1) hE hO hq8 0 rfl hq131 (m:=l252) (hq251) (K7 ep291) fun p291 H hq8 hO hh=>?_;obtain rfl:=D3 hh;cbv)|(have h:=D3 h;subst h;exact⟨_,⟨q8,hq8,rfl,rfl,hO⟩,.e2 .z,rfl⟩)
   clear hx;rintro e l H ⟨q451,hq451,rfl,rfl,hO⟩;cbv;cases h;exact⟨_,q451,rfl,.e2 .z,rfl,hq451,hO⟩
  cbv;cases h;exact⟨_,_,rfl,⟨q8,hq8,rfl,rfl,hO⟩,.e rfl .z,rfl⟩
 ·exact .e2 .z
 ·exact⟨hq4,hO⟩
 clear hx;rintro e l H ⟨q452,hq452,rfl,rfl,hO⟩;cbv;cases h;exact hF q452 _ _ 0 _ _ hO rfl (Dw hE hq452) (.refl _)
def cf82 :Cf:=⟨[7],[(18,5)],[],[0],[],[]⟩
theorem c82 (N:Nat):∀n aA aH r,R4 N n aA aH=some r→B6 prog 82 [(C0 aA),(C8 aH)] (vi r):=by
 intro n
 induction n with
 |zero=>intro aA aH r h;cases h
 |succ n ih=>
 intro aA aH r h
 unfold R4 at h
 refine J2 cf82 func82 call82 ntmps82 ?_;intro E H0 K hE hK hO;cbv;refine A5 hE h (fun _ h=>?_) fun _ h=>?_
 ·cbv;cases h;exact hK hO (.refl _)
 cbv;obtain⟨s1,hx,h⟩:=bind_some h;refine J4 cf82 hE L4 (fun e l H1=>match(generalizing:=false) s1 with| .inl y=>e= .normal∧l=[(3,.v (.eref (J1 aH) 0)),(5,.v (sr eAv1 y))]∧C3 Eq H0 [] H1| .inr y=>e= .ret∧l=[fi 4 y]∧C3 Eq H0 [] H1) (by kernel_rfl) ?_ ?_
 ·clear h;have h:=hx;clear hx;cbv;refine A5 hE h (fun _ h=>?_) fun _ h=>?_
  ·cbv;refine E0 hE ?_;cbv;refine A5 hE h (fun _ h=>?_) fun _ h=>?_
   ·cbv;cases h;exact⟨_,⟨rfl,rfl,hO⟩,.e rfl .z,rfl⟩
   cbv;refine Cd hE (f:=eAv1) Ho h fun l2 t3 h=>?_;cbv;cases h;exact⟨_,⟨rfl,rfl,hO⟩,.e rfl (.v (.ro _ _) (.z)),rfl⟩
  cbv;refine A5 hE h (fun _ h=>?_) fun _ h=>?_
  ·cbv;refine E0 hE ?_;cbv;refine A5 hE h (fun _ h=>?_) fun _ h=>?_
   ·cbv;cases h;exact⟨_,⟨rfl,rfl,hO⟩,.e rfl .z,rfl⟩
   cbv;refine E0 hE ?_;cbv;refine A4 hE h (c137 N aA.cK (Ar.len aH.Kids)) (.refl _) fun r4 h=>?_;cbv;cases h;exact⟨_,⟨rfl,rfl,hO⟩,.e2 .z,rfl⟩
  cbv;cases h;exact⟨_,⟨rfl,rfl,hO⟩,.e2 .z,rfl⟩
 clear hx
 rcases s1 with y5|y14
 ·rintro e l H ⟨rfl,rfl,hO⟩;cbv;refine E0 hE ?_;cbv;refine E0 hE ?_;cbv;refine A5 hE h (fun _ h=>?_) fun _ h=>?_
  ·cbv;cases h;exact hK hO (.refl _)
  cbv;refine E0 hE ?_;cbv;obtain⟨s7,hx,h⟩:=bind_some h;refine E6 cf82 hE L4 (fun s6=>[(5,.v (sr eAv1 y5)),(69,.v (sr eAu5 aH.Kids)),fi 70 (Ar.len aH.Kids),fi 71 s6]) (fun s6 H1=>C3 Eq H0 [] H1) (fun x e l H1=>match(generalizing:=false) x with| .inl y=>e= .exit 1∧l=[]∧C3 Eq H0 [] H1| .inr y=>e= .ret∧l=[fi 4 y]∧C3 Eq H0 [] H1) (by kernel_rfl) ?_ hx ?_ hO ?_
  ·intro s6 H o hO h;clear hx;cbv;refine A5 hE h (fun _ h=>?_) fun _ h=>?_
   ·cbv;refine C1 hE eAu7 h fun x8 h=>?_;cbv;refine C9 hE hO fun b9 H hO=>?_;cbv;refine B0 hE hO 0 rfl rfl fun H hO=>?_;cbv;refine C1 hE eAv2 h fun x10 h=>?_;cbv;refine B1 hE hO 0 rfl ?_;cbv;refine A4 hE h (ih x10 x8) (.refl _) fun r11 h=>?_;cbv;refine A5 hE h (fun _ h=>?_) fun _ h=>?_
    ·cbv;cases h;exact⟨_,_,rfl,⟨rfl,rfl,hO.tail⟩,.e rfl .z,rfl⟩
    cbv;cases h;exact⟨_,rfl,.e4 .z,rfl,hO.tail⟩
   cbv;cases h;exact⟨_,_,rfl,⟨rfl,rfl,hO⟩,.z,rfl⟩
  ·exact .e4 .z
  clear hx
  rcases s7 with y12|y13
  ·rintro e l H ⟨rfl,rfl,hO⟩;cbv;cases h;exact hK hO (.refl _)
  rintro e l H ⟨rfl,rfl,hO⟩;cbv;cases h;exact hK hO (.refl _)
 rintro e l H ⟨rfl,rfl,hO⟩;cbv;cases h;exact hK hO (.refl _)
theorem c26 (N aA aH r)(h:V5 N aA aH=some r):B6 prog 26 [(C0 aA),(C8 aH)] (vi r):=by
 unfold V5 at h
 refine J2 cf0 func26 call26 ntmps26 ?_;intro E H0 K hE hK hO;cbv;refine A4 hE h (c55 N aA) (.refl _) fun r1 h=>?_;cbv;refine A5 hE h (fun _ h=>?_) fun _ h=>?_
 ·cbv;cases h;exact hK hO (.refl _)
 cbv;refine A4 hE h (c29 N N aH) (.refl _) fun r2 h=>?_;cbv;refine A5 hE h (fun _ h=>?_) fun _ h=>?_
 ·cbv;cases h;exact hK hO (.refl _)
 cbv;refine A4 hE h (c82 N N aA aH) (.refl _) fun r3 h=>?_;cbv;cases h;exact hK hO (.refl _)
def cf62 :Cf:=⟨[7],[(5,10),(10,12)],[],[],[],[]⟩
theorem c62 (N:Nat):∀n aA aH r,K1 N n aA aH=some r→B6 prog 62 [(C0 aA),(C8 aH)] (sr eAu8 r):=by
 intro n
 induction n with
 |zero=>intro aA aH r h;cases h
 |succ n ih=>
 intro aA aH r h
 unfold K1 at h
 refine J2 cf62 func62 call62 ntmps62 ?_;intro E H0 K hE hK hO;cbv;refine A5 hE h (fun _ h=>?_) fun _ h=>?_
 ·cbv;cases h;exact hK hO (.lit _ (E5 ((eAv5 (⟨aA.Var,aH.Ref⟩:C6)).symm) (D5)))
 cbv;refine A5 hE h (fun _ h=>?_) fun _ h=>?_
 ·cbv;refine C1 hE eAv2 h fun x1 h=>?_;cbv;refine C1 hE eAu7 h fun x2 h=>?_;cbv;refine A4 hE h (ih x1 x2) (.refl _) fun r3 h=>?_;cbv;cases h;exact hK hO (.refl _)
 cbv;refine E0 hE ?_;cbv;replace hO:=hO.tl0 (t:=.nil) rfl;obtain⟨s6,hx,h⟩:=bind_some h;refine P5 cf62 hE L4 (γ:=E4) (fun s4 g=>[(2,.v (.eref (D6 aA) 0)),(5,.v (.sl (lst eAu8 s4.1) g)),(32,.v (sr eAu5 aH.Kids)),fi 33 (Ar.len aH.Kids),fi 34 s4.2]) (fun s4 g H1=>T8 g∧C3 Eq H0 [.tl g] H1) (fun x e l H1=>∃u1:E4,T8 u1∧e= .exit 1∧l=[(5,.v (.sl (lst eAu8 x) u1))]∧C3 Eq H0 [.tl u1] H1) (by kernel_rfl) ?_ .nil hx ?_ ?_ ?_
 ·rintro s4 t5 H o ⟨ht5,hO⟩ h;clear hx;cbv;refine A5 hE h (fun _ h=>?_) fun _ h=>?_
  ·cbv;refine C1 hE eAu7 h fun x7 h=>?_;cbv;refine C9 hE hO fun b8 H hO=>?_;cbv;refine B0 hE hO 0 rfl rfl fun H hO=>?_;cbv;refine E0 hE ?_;cbv;refine Mx hE h fun h=>?_;cbv;refine C1 hE eAv2 h fun x9 h=>?_;cbv;refine B1 hE hO 0 rfl ?_;cbv;refine C7 hE (g:=fun r10=>sr eAu8 r10) h (ih x9 x7) (.refl _) fun r10 h=>?_;cbv;refine Y5 (f:=eAu8) hE Cn (by decide) hO 1 rfl ht5 (l:=s4.1) (m:=r10) (.refl _) (.refl _) h fun l12 t11 H hO ht11 h=>?_;cbv;cases h;exact⟨_,t11,rfl,.e rfl (.e4 .z),rfl,ht11,hO.tail⟩
  cbv;cases h;exact⟨_,_,rfl,⟨t5,ht5,rfl,rfl,hO⟩,.e rfl .z,rfl⟩
 ·exact .e rfl (.v (.slt _ (.lst0)) (.e rfl (.e rfl (.e rfl (.z)))))
 ·exact⟨trivial,hO⟩
 clear hx;rintro e l H ⟨t13,ht13,rfl,rfl,hO⟩;cbv;cases h;exact hK hO (.ro _ _)
def cf172 :Cf:=⟨[],[(4,14),(3000006,0),(3000006,1),(3000006,2),(3000006,3),(3000006,4),(3000006,5),(3000006,6),(3000006,7),(3000006,9),(3000006,10),(3000006,11),(3000006,13)],[],[2000006],[],[]⟩
set_option maxHeartbeats 2000000 in
theorem c172 (N:Nat) (bO:List C6) (aC:Int) (aD:Int) (bB:V) (aY:C6→C6→Option Int) (bQ:∀y1 y2 q,aY y1 y2=some q→W3 prog bB [(AE y1),(AE y2)] (vi q)) (r:(List C6)) (h:N3 N bO aC aD aY=some r):TF prog 172 (fun q=>[.own q.id q.lo q.n,vi aC,vi aD,bB]) 4 (lst eAu8 bO) (lst eAu8 r):=by
 unfold N3 at h
 refine LA (T:=TT) (m:=4) cf172 L4 func172 (by rfl) (by kernel_rfl) call172 ntmps172 (by rfl) (fun _=>rfl) (by rfl) ?_;intro E H0 q0 K hE hq0 hO hK;cbv;obtain⟨s3,hx,h⟩:=bind_some h;refine P5 cf172 hE L4 (γ:=(OGq q0)) (fun s1 g=>[(0,.v (.own g.id g.lo g.n)),fi 1 aC,fi 2 aD,(3,.v (bB)),fi 8 s1.1]) (fun s1 g H1=>Aa g (Ar.len s1.2)∧C3 Eq (upd H0 q0.id none) [ob g 4 eAu8 s1.2] H1) (fun x e l H1=>∃u1:(OGq q0),Aa u1 (Ar.len x)∧e= .exit 0∧l=[(0,.v (.own u1.id u1.lo u1.n))]∧C3 Eq (upd H0 q0.id none) [ob u1 4 eAu8 x] H1) (by kernel_rfl) ?_ q0 hx ?_ ?_ ?_
 ·rintro s1 q2 H o ⟨hq2,hO⟩ h;clear hx;cbv;refine A5 hE h (fun _ h=>?_) fun _ h=>?_
  ·cbv;obtain⟨s6,hx,h⟩:=bind_some h;refine P5 cf172 hE L4 (γ:=(OGq q0)) (fun s4 g=>[(0,.v (.own g.id g.lo g.n)),fi 1 aC,fi 2 aD,(3,.v (bB)),fi 8 s1.1,fi 9 s4.1]) (fun s4 g H1=>Aa g (Ar.len s4.2)∧C3 Eq (upd H0 q0.id none) [ob g 4 eAu8 s4.2] H1) (fun x e l H1=>∃u1:(OGq q0),Aa u1 (Ar.len x)∧e= .exit 2∧l=[(0,.v (.own u1.id u1.lo u1.n)),fi 1 aC,fi 2 aD,(3,.v (bB)),fi 8 s1.1]∧C3 Eq (upd H0 q0.id none) [ob u1 4 eAu8 x] H1) (by kernel_rfl) ?_ q2 hx ?_ ?_ ?_
   ·rintro s4 q5 H o ⟨hq5,hO⟩ h;clear hx;cbv;refine A5 hE h (fun _ h=>?_) fun _ h=>?_
    ·cbv;refine Ap hE hO hq5 0 rfl h fun h=>?_;cbv;refine Bx hE eAv5 hO hq5 0 rfl h fun x7 h=>?_;cbv;refine Ap hE hO hq5 0 rfl h fun h=>?_;cbv;refine Bx hE eAv5 hO hq5 0 rfl h fun x8 h=>?_;cbv;refine Aq hE (g:=fun r9=>vi r9) h (fun r9 hx=>bQ x7 x8 r9 hx) (.refl _) fun r9 h=>?_;cbv;refine A5 hE h (fun _ h=>?_) fun _ h=>?_
     ·cbv;obtain⟨s10,hx,h⟩:=bind_some h;refine J4 cf172 hE L4 (fun e l H1=>∃u1:(OGq q0),Aa u1 (Ar.len s10)∧e= .normal∧l=[(0,.v (.own u1.id u1.lo u1.n)),fi 1 aC,fi 2 aD,(3,.v (bB)),fi 8 s1.1,fi 9 s4.1]∧C3 Eq (upd H0 q0.id none) [ob u1 4 eAu8 s10] H1) (by kernel_rfl) ?_ ?_
      ·clear h;have h:=hx;clear hx;cbv;obtain⟨u330_0,eu330_0,h⟩:=bind_some h;obtain⟨x371,ex371,h⟩:=bind_some h;obtain⟨u490_0,eu490_0,h⟩:=bind_some h;obtain⟨x531,ex531,h⟩:=bind_some h;obtain⟨u570_0,eu570_0,h⟩:=bind_some h;obtain⟨l612,el612,h⟩:=bind_some h;obtain⟨u650_0,eu650_0,h⟩:=bind_some h;obtain⟨l692,el692,h⟩:=bind_some h
       repeat' first|refine And.intro ?_ ?_|(refine Ap hE hO hq5 0 rfl (K7 eu330_0) fun hh=>?_;clear hh;cbv)|(refine Bx hE eAv5 hO hq5 0 rfl (K7 ex371) fun x371 hh=>?_;obtain rfl:=D3 hh;cbv)|(refine Ap hE hO hq5 0 rfl (K7 eu490_0) fun hh=>?_;clear hh;cbv)|(refine Bx hE eAv5 hO hq5 0 rfl (K7 ex531) fun x531 hh=>?_;obtain rfl:=D3 hh;cbv)|(refine Ap hE hO hq5 0 rfl (K7 eu570_0) fun hh=>?_;clear hh;cbv)|(refine EH hE (f:=eAu8) (esz:=4) (tz:=4) (off:=0) (u:=(fun x611:C6=>x371)) (fun _=>⟨_,.eq (eAv5 _) (.refl _),(by rw[eAv5];rfl),Cn _,rfl⟩) (by decide) hO hq5 0 rfl (K7 el612) fun l612 H hq5 hh hO=>?_;obtain rfl:=D3 hh;cbv)|(refine Ap hE hO hq5 0 rfl (K7 eu650_0) fun hh=>?_;clear hh;cbv)|(refine EH hE (f:=eAu8) (esz:=4) (tz:=4) (off:=0) (u:=(fun x691:C6=>x531)) (fun _=>⟨_,.eq (eAv5 _) (.refl _),(by rw[eAv5];rfl),Cn _,rfl⟩) (by decide) hO hq5 0 rfl (K7 el692) fun l692 H hq5 hh hO=>?_;obtain rfl:=D3 hh;cbv)|(have h:=D3 h;subst h;exact⟨_,⟨q5,hq5,rfl,rfl,hO⟩,.e2 (.e4 .z),rfl⟩)
      clear hx;rintro e l H ⟨q771,hq771,rfl,rfl,hO⟩;cbv;cases h;exact⟨_,q771,rfl,.e2 (.e4 .z),rfl,hq771,hO⟩
     cbv;cases h;exact⟨_,_,rfl,⟨q5,hq5,rfl,rfl,hO⟩,.e rfl (.e4 .z),rfl⟩
    cbv;cases h;exact⟨_,_,rfl,⟨q5,hq5,rfl,rfl,hO⟩,.e rfl (.e4 .z),rfl⟩
   ·exact .e2 (.e4 .z)
   ·exact⟨hq2,hO⟩
   clear hx;rintro e l H ⟨q772,hq772,rfl,rfl,hO⟩;cbv;cases h;exact⟨_,q772,rfl,.e rfl (.e4 .z),rfl,hq772,hO⟩
  cbv;cases h;exact⟨_,_,rfl,⟨q2,hq2,rfl,rfl,hO⟩,.e rfl .z,rfl⟩
 ·exact .e rfl (.e4 .z)
 ·exact⟨hq0,hO⟩
 clear hx;rintro e l H ⟨q773,hq773,rfl,rfl,hO⟩;cbv;cases h;obtain⟨q773,rfl⟩:=q773;exact hK _ 0 _ hq773 rfl hO
theorem c130 (N:Nat) (bO:List C6) (aQ:Int) (bB:V) (aY:C6→C6→Option Int) (bQ:∀y1 y2 q,aY y1 y2=some q→W3 prog bB [(AE y1),(AE y2)] (vi q)) (r:(List C6)) (h:T5 N bO aQ aY=some r):TF prog 130 (fun q=>[.own q.id q.lo q.n,vi aQ,bB]) 4 (lst eAu8 bO) (lst eAu8 r):=by
 unfold T5 at h
 refine LA (T:=TT) (m:=3) cf0 L4 func130 (by rfl) (by kernel_rfl) call130 ntmps130 (by rfl) (fun _=>rfl) (by rfl) ?_;intro E H0 q0 K hE hq0 hO hK;cbv;obtain⟨s2,hx,h⟩:=bind_some h;refine E6 cf0 hE L4 (fun s1=>[(0,.v (.own q0.id q0.lo q0.n)),fi 1 aQ,(2,.v (bB)),fi 6 20,fi 7 0,fi 8 20]) (fun s1 H1=>C3 Eq (upd H0 q0.id none) [ob q0 4 eAu8 bO] H1) (fun x e l H1=>e= .exit 0∧l=[(0,.v (.own q0.id q0.lo q0.n)),fi 1 aQ,(2,.v (bB)),fi 6 20,fi 7 0]∧C3 Eq (upd H0 q0.id none) [ob q0 4 eAu8 bO] H1) (by kernel_rfl) ?_ hx ?_ hO ?_
 ·intro s1 H o hO h;clear hx;cbv;refine A5 hE h (fun _ h=>?_) fun _ h=>?_
  ·cbv;cases h
  cbv;cases h;exact⟨_,_,rfl,⟨rfl,rfl,hO⟩,.e rfl (.e4 .z),rfl⟩
 ·exact .e2 (.e4 .z)
 clear hx;rintro e l H ⟨rfl,rfl,hO⟩;cbv;refine Qt hE hO hq0 0 rfl h (c172 N bO 0 aQ bB aY bQ) (.refl _) fun l3 H hq0 hO h=>?_;cbv;obtain⟨s5,hx,h⟩:=bind_some h;refine E6 cf0 hE L4 (fun s4=>[(0,.v (.own q0.id q0.lo q0.n)),fi 1 aQ,(2,.v (bB)),fi 6 20]) (fun s4 H1=>C3 Eq (upd H0 q0.id none) [ob q0 4 eAu8 l3] H1) (fun x e l H1=>e= .exit 2∧l=[(0,.v (.own q0.id q0.lo q0.n))]∧C3 Eq (upd H0 q0.id none) [ob q0 4 eAu8 l3] H1) (by kernel_rfl) ?_ hx ?_ hO ?_
 ·intro s4 H o hO h;clear hx;cbv;refine A5 hE h (fun _ h=>?_) fun _ h=>?_
  ·cbv;cases h
  cbv;cases h;exact⟨_,_,rfl,⟨rfl,rfl,hO⟩,.e rfl .z,rfl⟩
 ·exact .e4 .z
 clear hx;rintro e l H ⟨rfl,rfl,hO⟩;cbv;cases h;exact hK _ 0 _ hq0 rfl hO
end Go.Ab
