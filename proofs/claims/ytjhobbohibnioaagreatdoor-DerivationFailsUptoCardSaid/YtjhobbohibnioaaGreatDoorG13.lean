/- . -/
import Derived.Test.YtjhobbohibnioaaGreatDoorG12
set_option linter.all false
open Go.Ab.Ar (cmp lst)
namespace Go.Ab
open Go.RowKit Go.Proofs Go.Proofs.Tryz R0
variable [Ar][R0]
set_option maxRecDepth 100000
def c75 (N aA r) (h:No N aA=some r):C2 prog 75 [(D5 aA)] (.bool r):=by
 refine Q9 cf0 func75 call75 ntmps75 ?_;intro E H0 K hE hK hO
 repeat' (cbv;first|apply C7 hE h<;>intro _ h|refine B3 hE h (c132 _ _ _ _) .z fun _ h=>?_|refine B3 hE h (c133 _ _ _) .z fun _ h=>?_|refine B3 hE h (c100 _ _ _) .z fun r3 h=>?_|(cases h;exact hK hO .z))
 cbv;obtain⟨s5,hx,h⟩:=bind_some h;refine I7 cf0 hE S3 (fun s4=>[(3,.v (sr eBo6 r3)),fi 4 s4]) (fun s4 H1=>C8 Eq H0 [] H1) (fun x e l H1=>match(generalizing:=false) x with| .inl y=>e= .exit 0∧l=[]∧C8 Eq H0 [] H1| .inr y=>e= .ret∧l=[(2,.b false)]∧C8 Eq H0 [] H1) (by kernel_rfl) ?_ hx ?_ hO ?_
 ·intro s4 H o hO h
  repeat' (cbv;first|apply C7 hE h<;>intro _ h|apply K9 hE|refine B3 hE h (c134 _ _) .z fun _ h=>?_|refine F6 hE eBo7 h fun _ h=>?_|(cases h;exact⟨_,_,rfl,⟨rfl,rfl,hO⟩,.b rfl (.z),rfl⟩)|(cases h;exact⟨_,rfl,.e2 .z,rfl,hO⟩)|(cases h;exact⟨_,_,rfl,⟨rfl,rfl,hO⟩,.z,rfl⟩))
 ·exact .e2 .z
 clear hx
 rcases s5 with y8|y9
 ·rintro e l H ⟨rfl,rfl,hO⟩;cbv;cases h;exact hK hO .z
 rintro e l H ⟨rfl,rfl,hO⟩;cbv;cases h;exact hK hO .z
def cf91:Cf:=⟨[],[],[(7,4)],[],[],[]⟩
def c91 (N:Nat):∀n aA r,AH N n aA=some r→C2 prog 91 [(D5 aA)] (vi r):=by
 intro n
 induction n with
 |zero=>intro aA r h;cases h
 |succ n ih=>
 intro aA r h
 unfold AH at h
 refine Q9 cf91 func91 call91 ntmps91 ?_;intro E H0 K hE hK hO;cbv;obtain⟨s1,hx,h⟩:=bind_some h;refine R8 cf91 hE S3 (fun e l H1=>e= .normal∧l=[(1,.v (.eref (E0 aA) 0)),fi 3 s1]∧C8 Eq H0 [] H1) (by kernel_rfl) ?_ ?_
 ·clear h;have h:=hx;cbv;apply C7 hE h<;>intro _ h
  ·cbv;cases h;exact⟨_,⟨rfl,rfl,hO⟩,.e2 .z,rfl⟩
  cbv;cases h;exact⟨_,⟨rfl,rfl,hO⟩,.e2 .z,rfl⟩
 clear hx;rintro e l H ⟨rfl,rfl,hO⟩;cbv;obtain⟨s3,hx,h⟩:=bind_some h;refine I7 cf91 hE S3 (fun s2=>[(1,.v (.eref (E0 aA) 0)),fi 3 s2.1,fi 4 s2.2]) (fun s2 H1=>C8 Eq H0 [] H1) (fun x e l H1=>e= .exit 0∧l=[fi 3 x]∧C8 Eq H0 [] H1) (by kernel_rfl) ?_ hx ?_ hO ?_
 ·intro s2 H o hO h;cbv;apply K9 hE;cbv;apply C7 hE h<;>intro _ h
  ·cbv;refine F6 hE eBo7 h fun x4 h=>?_;cbv;refine B3 hE h (ih x4) .z fun r5 h=>?_;cbv;cases h;exact⟨_,rfl,.e rfl (.e2 .z),rfl,hO⟩
  cbv;cases h;exact⟨_,_,rfl,⟨rfl,rfl,hO⟩,.e rfl .z,rfl⟩
 ·exact .e rfl (.e2 .z)
 clear hx;rintro e l H ⟨rfl,rfl,hO⟩;cbv;cases h;exact hK hO .z
def c92 (N cE aP bA r) (h:GY N cE aP bA=some r):C2 prog 92 [vi cE,vi aP,vi bA] (vi r):=by
 refine Q9 cf0 func92 call92 ntmps92 ?_;intro E H0 K hE hK hO;cbv;obtain⟨s2,hx,h⟩:=bind_some h;refine I7 cf0 hE S3 (fun s1=>[fi 0 cE,fi 1 aP,fi 2 bA,fi 7 s1.1,fi 8 s1.2]) (fun s1 H1=>C8 Eq H0 [] H1) (fun x e l H1=>e= .exit 0∧l=[fi 7 x]∧C8 Eq H0 [] H1) (by kernel_rfl) ?_ hx ?_ hO ?_
 ·intro s1 H o hO h;cbv;apply C7 hE h<;>intro _ h
  ·cbv;cases h;exact⟨_,rfl,.e rfl (.e4 .z),rfl,hO⟩
  cbv;cases h;exact⟨_,_,rfl,⟨rfl,rfl,hO⟩,.e rfl .z,rfl⟩
 ·exact .e rfl (.e4 .z)
 clear hx;rintro e l H ⟨rfl,rfl,hO⟩;cbv;cases h;exact hK hO .z
def c93 (N:Nat):∀n aA r,BW N n aA=some r→C2 prog 93 [(D5 aA)] (.bool r):=by
 intro n
 induction n with
 |zero=>intro aA r h;cases h
 |succ n ih=>
 intro aA r h
 unfold BW at h
 refine Q9 cf0 func93 call93 ntmps93 ?_;intro E H0 K hE hK hO;cbv;apply C7 hE h<;>intro _ h
 ·cbv;cases h;exact hK hO .z
 cbv;obtain⟨s2,hx,h⟩:=bind_some h;refine I7 cf0 hE S3 (fun s1=>[(1,.v (.eref (E0 aA) 0)),fi 3 s1]) (fun s1 H1=>C8 Eq H0 [] H1) (fun x e l H1=>match(generalizing:=false) x with| .inl y=>e= .exit 0∧l=[]∧C8 Eq H0 [] H1| .inr y=>e= .ret∧l=[(2,.b true)]∧C8 Eq H0 [] H1) (by kernel_rfl) ?_ hx ?_ hO ?_
 ·intro s1 H o hO h
  repeat' (cbv;first|apply C7 hE h<;>intro _ h|apply K9 hE|refine B3 hE h (ih _) .z fun _ h=>?_|refine F6 hE eBo7 h fun _ h=>?_|(cases h;exact⟨_,_,rfl,⟨rfl,rfl,hO⟩,.b rfl (.z),rfl⟩)|(cases h;exact⟨_,rfl,.e2 .z,rfl,hO⟩)|(cases h;exact⟨_,_,rfl,⟨rfl,rfl,hO⟩,.z,rfl⟩))
 ·exact .e2 .z
 clear hx
 rcases s2 with y5|y6
 ·rintro e l H ⟨rfl,rfl,hO⟩;cbv;cases h;exact hK hO .z
 rintro e l H ⟨rfl,rfl,hO⟩;cbv;cases h;exact hK hO .z
def c35 (N aA aH r) (h:Jr N aA aH=some r):C2 prog 35 [(D5 aA),sr eBo2 aH] (.bool r):=by
 refine Q9 cf0 func35 call35 ntmps35 ?_;intro E H0 K hE hK hO;cbv;refine B3 hE h (c75 N aA) .z fun r1 h=>?_;cbv;apply K9 hE;cbv;apply C7 hE h<;>intro _ h
 ·cbv;cases h;exact hK hO .z
 cbv;obtain⟨s3,hx,h⟩:=bind_some h;refine I7 cf0 hE S3 (fun s2=>[(1,.v (sr eBo2 aH)),(2,.v (.eref (E0 aA) 0)),fi 5 s2]) (fun s2 H1=>C8 Eq H0 [] H1) (fun x e l H1=>match(generalizing:=false) x with| .inl y=>e= .exit 0∧l=[(1,.v (sr eBo2 aH)),(2,.v (.eref (E0 aA) 0))]∧C8 Eq H0 [] H1| .inr y=>e= .ret∧l=[(4,.b false)]∧C8 Eq H0 [] H1) (by kernel_rfl) ?_ hx ?_ hO ?_
 ·intro s2 H o hO h
  repeat' (cbv;first|apply C7 hE h<;>intro _ h|apply K9 hE|refine F6 hE eBo8 h fun _ h=>?_|(cases h;exact⟨_,_,rfl,⟨rfl,rfl,hO⟩,.b rfl (.z),rfl⟩)|(cases h;exact⟨_,rfl,.e rfl (.e2 .z),rfl,hO⟩)|(cases h;exact⟨_,_,rfl,⟨rfl,rfl,hO⟩,.e2 .z,rfl⟩))
 ·exact .e rfl (.e2 .z)
 clear hx
 rcases s3 with y5|y10
 ·rintro e l H ⟨rfl,rfl,hO⟩
  repeat' (cbv;first|apply C7 hE h<;>intro _ h|apply K9 hE|refine B3 hE h (c91 _ _ _) .z fun _ h=>?_|refine B3 hE h (c92 _ _ _ _) .z fun _ h=>?_|refine B3 hE h (c93 _ _ _) .z fun _ h=>?_|(cases h;exact hK hO .z))
 rintro e l H ⟨rfl,rfl,hO⟩;cbv;cases h;exact hK hO .z
def c96 (N:Nat):∀n aA r,Dw N n aA=some r→C2 prog 96 [(D5 aA)] (vi r):=by
 intro n
 induction n with
 |zero=>intro aA r h;cases h
 |succ n ih=>
 intro aA r h
 unfold Dw at h
 refine Q9 cf0 func96 call96 ntmps96 ?_;intro E H0 K hE hK hO;cbv;obtain⟨s2,hx,h⟩:=bind_some h;refine I7 cf0 hE S3 (fun s1=>[(1,.v (.eref (E0 aA) 0)),fi 3 s1.1,fi 4 s1.2]) (fun s1 H1=>C8 Eq H0 [] H1) (fun x e l H1=>e= .exit 0∧l=[(1,.v (.eref (E0 aA) 0)),fi 3 x]∧C8 Eq H0 [] H1) (by kernel_rfl) ?_ hx ?_ hO ?_
 ·intro s1 H o hO h;cbv;apply K9 hE;cbv;apply C7 hE h<;>intro _ h
  ·cbv;refine F6 hE eBo7 h fun x3 h=>?_;cbv;refine B3 hE h (ih x3) .z fun r4 h=>?_;cbv;cases h;exact⟨_,rfl,.e rfl (.e2 .z),rfl,hO⟩
  cbv;cases h;exact⟨_,_,rfl,⟨rfl,rfl,hO⟩,.e2 .z,rfl⟩
 ·exact .e rfl (.e2 .z)
 clear hx;rintro e l H ⟨rfl,rfl,hO⟩;cbv;apply C7 hE h<;>intro _ h
 ·cbv;cases h;exact hK hO .z
 cbv;cases h;exact hK hO .z
def cf97:Cf:=⟨[],[],[(7,4)],[],[],[]⟩
def c97 (N:Nat):∀n aA r,DJ N n aA=some r→C2 prog 97 [(D5 aA)] (vi r):=by
 intro n
 induction n with
 |zero=>intro aA r h;cases h
 |succ n ih=>
 intro aA r h
 unfold DJ at h
 refine Q9 cf97 func97 call97 ntmps97 ?_;intro E H0 K hE hK hO;cbv;obtain⟨s1,hx,h⟩:=bind_some h;refine R8 cf97 hE S3 (fun e l H1=>e= .normal∧l=[(1,.v (.eref (E0 aA) 0)),fi 3 s1]∧C8 Eq H0 [] H1) (by kernel_rfl) ?_ ?_
 ·clear h;have h:=hx;cbv;apply C7 hE h<;>intro _ h
  ·cbv;cases h;exact⟨_,⟨rfl,rfl,hO⟩,.e2 .z,rfl⟩
  cbv;cases h;exact⟨_,⟨rfl,rfl,hO⟩,.e2 .z,rfl⟩
 clear hx;rintro e l H ⟨rfl,rfl,hO⟩;cbv;obtain⟨s3,hx,h⟩:=bind_some h;refine I7 cf97 hE S3 (fun s2=>[(1,.v (.eref (E0 aA) 0)),fi 3 s2.1,fi 4 s2.2]) (fun s2 H1=>C8 Eq H0 [] H1) (fun x e l H1=>e= .exit 0∧l=[fi 3 x]∧C8 Eq H0 [] H1) (by kernel_rfl) ?_ hx ?_ hO ?_
 ·intro s2 H o hO h;cbv;apply K9 hE;cbv;apply C7 hE h<;>intro _ h
  ·cbv;refine F6 hE eBo7 h fun x4 h=>?_;cbv;refine B3 hE h (ih x4) .z fun r5 h=>?_;cbv;cases h;exact⟨_,rfl,.e rfl (.e2 .z),rfl,hO⟩
  cbv;cases h;exact⟨_,_,rfl,⟨rfl,rfl,hO⟩,.e rfl .z,rfl⟩
 ·exact .e rfl (.e2 .z)
 clear hx;rintro e l H ⟨rfl,rfl,hO⟩;cbv;cases h;exact hK hO .z
def c38 (N aA aH r) (h:Jp N aA aH=some r):C2 prog 38 [(D5 aA),sr eBo2 aH] (.bool r):=by
 refine Q9 cf0 func38 call38 ntmps38 ?_;intro E H0 K hE hK hO
 repeat' (cbv;first|apply C7 hE h<;>intro _ h|refine B3 hE h (c35 _ _ _) .z fun _ h=>?_|refine B3 hE h (c96 _ _ _) .z fun _ h=>?_|(cases h;exact hK hO .z))
 cbv;obtain⟨s4,hx,h⟩:=bind_some h;refine I7 cf0 hE S3 (fun s3=>[(1,.v (sr eBo2 aH)),(2,.v (.eref (E0 aA) 0)),fi 5 s3.1,fi 6 s3.2]) (fun s3 H1=>C8 Eq H0 [] H1) (fun x e l H1=>e= .exit 0∧l=[fi 5 x]∧C8 Eq H0 [] H1) (by kernel_rfl) ?_ hx ?_ hO ?_
 ·intro s3 H o hO h
  repeat' (cbv;first|apply C7 hE h<;>intro _ h|apply K9 hE|refine B3 hE h (c96 _ _ _) .z fun _ h=>?_|refine B3 hE h (c97 _ _ _) .z fun _ h=>?_|(cases h;exact⟨_,rfl,.e4 .z,rfl,hO⟩)|(cases h;exact⟨_,_,rfl,⟨rfl,rfl,hO⟩,.e rfl .z,rfl⟩))
 ·exact .e4 .z
 clear hx;rintro e l H ⟨rfl,rfl,hO⟩;cbv;cases h;exact hK hO .z
def c103 (N aA r)(h:CE N aA=some r):C2 prog 103 [(D5 aA)] (.bool r):=by
 refine Q9 cf0 func103 call103 ntmps103 ?_;intro E H0 K hE hK hO;cbv;cases h;exact hK hO .z
def c102 (N aA r)(h:BX N aA=some r):C2 prog 102 [(D5 aA)] (.bool r):=by
 refine Q9 cf0 func102 call102 ntmps102 ?_;intro E H0 K hE hK hO
 repeat' (cbv;first|apply C7 hE h<;>intro _ h|refine B3 hE h (c103 _ _) .z fun _ h=>?_|(cases h;exact hK hO .z))
def c104 (N aA r)(h:Bq N aA=some r):C2 prog 104 [(D5 aA)] (.bool r):=by
 refine Q9 cf0 func104 call104 ntmps104 ?_;intro E H0 K hE hK hO;cbv;cases h;exact hK hO .z
def cf194:Cf:=⟨[],[],[(11,6)],[],[],[]⟩
def c194 (N aA r) (h:Js N aA=some r):C2 prog 194 [(D5 aA)] (.bool r):=by
 refine Q9 cf194 func194 call194 ntmps194 ?_;intro E H0 K hE hK hO;cbv;apply C7 hE h<;>intro _ h
 ·cbv;apply K9 hE;cbv;cases h;exact hK hO .z
 cbv;obtain⟨s1,hx,h⟩:=bind_some h;refine R8 cf194 hE S3 (fun e l H1=>e= .normal∧l=[(1,.v (.eref (E0 aA) 0)),fi 4 aA.Op,(11,.v (.bool s1))]∧C8 Eq H0 [] H1) (by kernel_rfl) ?_ ?_
 ·clear h;have h:=hx
  repeat' (cbv;first|apply C7 hE h<;>intro _ h|(cases h;exact⟨_,⟨rfl,rfl,hO⟩,.e rfl (.e2 .z),rfl⟩))
 clear hx;rintro e l H ⟨rfl,rfl,hO⟩
 repeat' (cbv;first|apply C7 hE h<;>intro _ h|apply K9 hE|(cases h;exact hK hO .z))
def c195 (N aA r)(h:Ef N aA=some r):C2 prog 195 [(D5 aA)] (.bool r):=by
 refine Q9 cf0 func195 call195 ntmps195 ?_;intro E H0 K hE hK hO;cbv;refine B3 hE h (c102 N aA) .z fun r1 h=>?_;cbv;cases h;exact hK hO .z
def c196 (N bJ aP bK r)(h:CC N bJ aP bK=some r):C2 prog 196 [.bool bJ,vi aP,vi bK] (.bool r):=by
 refine Q9 cf0 func196 call196 ntmps196 ?_;intro E H0 K hE hK hO;cbv;cases h;exact hK hO .z
def cf316:Cf:=⟨[],[],[(4,4)],[],[],[]⟩
def c316 (N aL r) (h:Ju N aL=some r):C2 prog 316 [vi aL] (vi r):=by
 refine Q9 cf316 func316 call316 ntmps316 ?_;intro E H0 K hE hK hO;cbv;obtain⟨s1,hx,h⟩:=bind_some h;refine R8 cf316 hE S3 (fun e l H1=>e= .normal∧l=[fi 3 aL,(4,.v (.bool s1))]∧C8 Eq H0 [] H1) (by kernel_rfl) ?_ ?_
 ·clear h;have h:=hx
  repeat' (cbv;first|apply C7 hE h<;>intro _ h|(cases h;exact⟨_,⟨rfl,rfl,hO⟩,.e2 .z,rfl⟩))
 clear hx;rintro e l H ⟨rfl,rfl,hO⟩
 repeat' (cbv;first|apply C7 hE h<;>intro _ h|(cases h;exact hK hO .z))
def c317 (N aL r)(h:KO N aL=some r):C2 prog 317 [vi aL] (.tup [.bool r.1,.bool r.2]):=by
 refine Q9 cf0 func317 call317 ntmps317 ?_;intro E H0 K hE hK hO;cbv;cases h;exact hK hO .z
def c318 (N aK r)(h:Cl N aK=some r):C2 prog 318 [(H5 aK)] (vi r):=by
 refine Q9 cf0 func318 call318 ntmps318 ?_;intro E H0 K hE hK hO
 repeat' (cbv;first|apply C7 hE h<;>intro _ h|(cases h;exact hK hO .z))
def c319 (N aW aK r)(h:Bs N aW aK=some r):C2 prog 319 [vi aW,(H5 aK)] (.bool r):=by
 refine Q9 cf0 func319 call319 ntmps319 ?_;intro E H0 K hE hK hO;cbv;cases h;exact hK hO .z
def cf284:Cf:=⟨[],[],[(69,15)],[],[],[]⟩
def c284 (N aC r) (h:Id N aC=some r):C2 prog 284 [(Bk aC)] (vi r):=by
 refine Q9 cf284 func284 call284 ntmps284 ?_;intro E H0 K hE hK hO
 repeat' (cbv;first|apply C7 hE h<;>intro _ h|apply K9 hE|refine B3 hE h (c316 _ _) .z fun _ h=>?_|refine B3 hE h (c317 _ _) .z fun r2 h=>?_|(cases h;exact hK hO .z))
 cbv;obtain⟨s3,hx,h⟩:=bind_some h;refine R8 cf284 hE S3 (fun e l H1=>match(generalizing:=false) s3 with| .inl y=>e= .normal∧l=[(1,.v (.eref (EF aC) 0)),(4,.v (.bool r2.1)),(5,.v (.bool r2.2)),(6,.v (.bool (cmp .eql aC.Op 4))),(7,.v (.bool (Ar.or (cmp .eql aC.Op 4) (cmp .eql aC.Op 0))))]∧C8 Eq H0 [] H1| .inr y=>e= .ret∧l=[fi 2 y]∧C8 Eq H0 [] H1) (by kernel_rfl) ?_ ?_
 ·clear h;have h:=hx
  repeat' (cbv;first|apply C7 hE h<;>intro _ h|refine B3 hE h (c318 _ _) .z fun _ h=>?_|(cases h;exact⟨_,⟨rfl,rfl,hO⟩,.e rfl .z,rfl⟩)|(cases h;exact⟨_,⟨rfl,rfl,hO⟩,.e rfl (.e4 .z),rfl⟩))
 clear hx
 rcases s3 with y5|y7
 ·rintro e l H ⟨rfl,rfl,hO⟩
  repeat' (cbv;first|apply C7 hE h<;>intro _ h|refine B3 hE h (c319 _ _ _) .z fun _ h=>?_|(cases h;exact hK hO .z))
 rintro e l H ⟨rfl,rfl,hO⟩;cbv;cases h;exact hK hO .z
def c242 (N:Nat):∀n aC r,Dx N n aC=some r→C2 prog 242 [(Bk aC)] (vi r):=by
 intro n
 induction n with
 |zero=>intro aC r h;cases h
 |succ n ih=>
 intro aC r h
 unfold Dx at h
 refine Q9 cf0 func242 call242 ntmps242 ?_;intro E H0 K hE hK hO;cbv;refine B3 hE h (c284 N aC) .z fun r1 h=>?_;cbv;apply C7 hE h<;>intro _ h
 ·cbv;cases h;exact hK hO .z
 cbv;obtain⟨s3,hx,h⟩:=bind_some h;refine I7 cf0 hE S3 (fun s2=>[(1,.v (.eref (EF aC) 0)),fi 4 s2]) (fun s2 H1=>C8 Eq H0 [] H1) (fun x e l H1=>match(generalizing:=false) x with| .inl y=>e= .exit 0∧l=[]∧C8 Eq H0 [] H1| .inr y=>e= .ret∧l=[fi 2 y]∧C8 Eq H0 [] H1) (by kernel_rfl) ?_ hx ?_ hO ?_
 ·intro s2 H o hO h
  repeat' (cbv;first|apply C7 hE h<;>intro _ h|apply K9 hE|refine B3 hE h (ih _) .z fun _ h=>?_|refine F6 hE eBp7 h fun _ h=>?_|(cases h;exact⟨_,_,rfl,⟨rfl,rfl,hO⟩,.e rfl .z,rfl⟩)|(cases h;exact⟨_,rfl,.e2 .z,rfl,hO⟩)|(cases h;exact⟨_,_,rfl,⟨rfl,rfl,hO⟩,.z,rfl⟩))
 ·exact .e2 .z
 clear hx
 rcases s3 with y6|y7
 ·rintro e l H ⟨rfl,rfl,hO⟩;cbv;cases h;exact hK hO .z
 rintro e l H ⟨rfl,rfl,hO⟩;cbv;cases h;exact hK hO .z
def c197 (N aC r)(h:EV N aC=some r):C2 prog 197 [(Bk aC)] (vi r):=by
 refine Q9 cf0 func197 call197 ntmps197 ?_;intro E H0 K hE hK hO
 repeat' (cbv;first|apply C7 hE h<;>intro _ h|refine B3 hE h (c174 _ _ _ _) .z fun _ h=>?_|refine B3 hE h (c175 _ _ _) .z fun _ h=>?_|refine B3 hE h (c242 _ _ _) .z fun _ h=>?_|(cases h;exact hK hO .z))
def cf198:Cf:=⟨[],[(6,10)],[],[],[],[]⟩
def c198 (N:Nat):∀n aB aF r,Z2 N n aB aF=some r→C2 prog 198 [(Bk aB),(Bk aF)] (.bool r):=by
 intro n
 induction n with
 |zero=>intro aB aF r h;cases h
 |succ n ih=>
 intro aB aF r h
 unfold Z2 at h
 refine Q9 cf198 func198 call198 ntmps198 ?_;intro E H0 K hE hK hO
 repeat' (cbv;first|apply C7 hE h<;>intro _ h|apply K9 hE|(cases h;exact hK hO .z))
 cbv;obtain⟨s2,hx,h⟩:=bind_some h;refine I7 cf198 hE S3 (fun s1=>[(2,.v (.eref (EF aB) 0)),(3,.v (.eref (EF aF) 0)),fi 5 s1]) (fun s1 H1=>C8 Eq H0 [] H1) (fun x e l H1=>match(generalizing:=false) x with| .inl y=>e= .exit 0∧l=[]∧C8 Eq H0 [] H1| .inr y=>e= .ret∧l=[(4,.b false)]∧C8 Eq H0 [] H1) (by kernel_rfl) ?_ hx ?_ hO ?_
 ·intro s1 H o hO h
  repeat' (cbv;first|apply C7 hE h<;>intro _ h|apply K9 hE|refine B3 hE h (ih _ _) .z fun _ h=>?_|refine F6 hE eBp7 h fun _ h=>?_|(cases h;exact⟨_,_,rfl,⟨rfl,rfl,hO⟩,.b rfl (.z),rfl⟩)|(cases h;exact⟨_,rfl,.e rfl (.e2 .z),rfl,hO⟩)|(cases h;exact⟨_,_,rfl,⟨rfl,rfl,hO⟩,.z,rfl⟩))
 ·exact .e rfl (.e2 .z)
 clear hx
 rcases s2 with y6|y7
 ·rintro e l H ⟨rfl,rfl,hO⟩;cbv;cases h;exact hK hO .z
 rintro e l H ⟨rfl,rfl,hO⟩;cbv;cases h;exact hK hO .z
def cf152:Cf:=⟨[],[(5,11),(6,21)],[(51,10)],[],[],[]⟩
def c152 (N aA r) (h:BJ N aA=some r):C2 prog 152 [(D5 aA)] (vi r):=by
 unfold BJ at h
 refine Q9 cf152 func152 call152 ntmps152 ?_;intro E H0 K hE hK hO;cbv;refine C7 hE h (fun _ h=>?_) fun _ h=>?_
 ·cbv;cases h;exact hK hO (.refl _)
 cbv;refine B3 hE h (c194 N aA) (.refl _) fun r1 h=>?_;cbv;refine C7 hE h (fun _ h=>?_) fun _ h=>?_
 ·cbv;cases h;exact hK hO (.refl _)
 cbv;refine E9 hE (g:=fun r2=>.bool r2) h (c102 N aA) (.refl _) fun r2 h=>?_;cbv;refine E9 hE (g:=fun r3=>.bool r3) h (c103 N aA) (.refl _) fun r3 h=>?_;cbv;refine C7 hE h (fun _ h=>?_) fun _ h=>?_
 ·cbv;refine E9 hE (g:=fun r4=>.bool r4) h (c195 N aA) (.refl _) fun r4 h=>?_;cbv;refine E9 hE (g:=fun r5=>.bool r5) h (c196 N r2 aA.Typ 15) (.refl _) fun r5 h=>?_;cbv;refine C7 hE h (fun _ h=>?_) fun _ h=>?_
  ·cbv;cases h;exact hK hO (.refl _)
  cbv;refine E9 hE (g:=fun r6=>.bool r6) h (c196 N r2 aA.Var 15) (.refl _) fun r6 h=>?_;cbv;refine C7 hE h (fun _ h=>?_) fun _ h=>?_
  ·cbv;cases h;exact hK hO (.refl _)
  cbv;refine E9 hE (g:=fun r7=>.bool r7) h (c196 N true aA.cV 63) (.refl _) fun r7 h=>?_;cbv;refine C7 hE h (fun _ h=>?_) fun _ h=>?_
  ·cbv;cases h;exact hK hO (.refl _)
  cbv;refine E9 hE (g:=fun r8=>.bool r8) h (c104 N aA) (.refl _) fun r8 h=>?_;cbv;refine B3 hE h (c196 N r8 aA.Span 1099511627776) (.refl _) fun r9 h=>?_;cbv;refine C7 hE h (fun _ h=>?_) fun _ h=>?_
  ·cbv;cases h;exact hK hO (.refl _)
  cbv;obtain⟨s10,hx,h⟩:=bind_some h;refine R8 cf152 hE S3 (fun e l H1=>match(generalizing:=false) s10 with| .inl y=>e= .normal∧l=[(1,.v (.eref (E0 aA) 0)),(3,.v (.bool r2)),(4,.b true),(5,.v (.bool r4))]∧C8 Eq H0 [] H1| .inr y=>e= .ret∧l=[fi 2 y]∧C8 Eq H0 [] H1) (by kernel_rfl) ?_ ?_
  ·clear h;have h:=hx;clear hx;cbv;refine C7 hE h (fun _ h=>?_) fun _ h=>?_
   ·cbv;refine B3 hE h (c197 N aA.cR) (.refl _) fun r11 h=>?_;cbv;refine C7 hE h (fun _ h=>?_) fun _ h=>?_
    ·cbv;cases h;exact⟨_,⟨rfl,rfl,hO⟩,.e rfl .z,rfl⟩
    cbv;cases h;exact⟨_,⟨rfl,rfl,hO⟩,.e2 (.b rfl (.e rfl (.z))),rfl⟩
   cbv;cases h;exact⟨_,⟨rfl,rfl,hO⟩,.e2 (.b rfl (.e rfl (.z))),rfl⟩
  clear hx
  rcases s10 with y12|y15
  ·rintro e l H ⟨rfl,rfl,hO⟩;cbv;refine C7 hE h (fun _ h=>?_) fun _ h=>?_
   ·cbv;cases h;exact hK hO (.refl _)
   cbv;refine B3 hE h (c104 N aA) (.refl _) fun r13 h=>?_;cbv;refine C7 hE h (fun _ h=>?_) fun _ h=>?_
   ·cbv;cases h;exact hK hO (.refl _)
   cbv;refine C7 hE h (fun _ h=>?_) fun _ h=>?_
   ·cbv;refine B3 hE h (c198 N N aA.cR (⟨0,[],0,0,0,(⟨0,0,⟨#[]⟩⟩:A9)⟩:B5)) (.cons (.refl _) (.cons (.agg (.cons (.refl _) (.cons (.lit _ (F3)) (.refl _)))) (.refl _))) fun r14 h=>?_;cbv;refine C7 hE h (fun _ h=>?_) fun _ h=>?_
    ·cbv;cases h;exact hK hO (.refl _)
    cbv;cases h;exact hK hO (.refl _)
   cbv;cases h;exact hK hO (.refl _)
  rintro e l H ⟨rfl,rfl,hO⟩;cbv;cases h;exact hK hO (.refl _)
 cbv;refine E9 hE (g:=fun r16=>.bool r16) h (c104 N aA) (.refl _) fun r16 h=>?_;cbv;refine E9 hE (g:=fun r17=>.bool r17) h (c195 N aA) (.refl _) fun r17 h=>?_;cbv;refine E9 hE (g:=fun r18=>.bool r18) h (c196 N r2 aA.Typ 15) (.refl _) fun r18 h=>?_;cbv;refine C7 hE h (fun _ h=>?_) fun _ h=>?_
 ·cbv;cases h;exact hK hO (.refl _)
 cbv;refine E9 hE (g:=fun r19=>.bool r19) h (c196 N r2 aA.Var 15) (.refl _) fun r19 h=>?_;cbv;refine C7 hE h (fun _ h=>?_) fun _ h=>?_
 ·cbv;cases h;exact hK hO (.refl _)
 cbv;refine E9 hE (g:=fun r20=>.bool r20) h (c196 N r16 aA.cV 63) (.refl _) fun r20 h=>?_;cbv;refine C7 hE h (fun _ h=>?_) fun _ h=>?_
 ·cbv;cases h;exact hK hO (.refl _)
 cbv;refine E9 hE (g:=fun r21=>.bool r21) h (c104 N aA) (.refl _) fun r21 h=>?_;cbv;refine B3 hE h (c196 N r21 aA.Span 1099511627776) (.refl _) fun r22 h=>?_;cbv;refine C7 hE h (fun _ h=>?_) fun _ h=>?_
 ·cbv;cases h;exact hK hO (.refl _)
 cbv;obtain⟨s23,hx,h⟩:=bind_some h;refine R8 cf152 hE S3 (fun e l H1=>match(generalizing:=false) s23 with| .inl y=>e= .normal∧l=[(1,.v (.eref (E0 aA) 0)),(3,.v (.bool r2)),(4,.v (.bool r16)),(5,.v (.bool r17))]∧C8 Eq H0 [] H1| .inr y=>e= .ret∧l=[fi 2 y]∧C8 Eq H0 [] H1) (by kernel_rfl) ?_ ?_
 ·clear h;have h:=hx;clear hx;cbv;refine C7 hE h (fun _ h=>?_) fun _ h=>?_
  ·cbv;refine B3 hE h (c197 N aA.cR) (.refl _) fun r24 h=>?_;cbv;refine C7 hE h (fun _ h=>?_) fun _ h=>?_
   ·cbv;cases h;exact⟨_,⟨rfl,rfl,hO⟩,.e rfl .z,rfl⟩
   cbv;cases h;exact⟨_,⟨rfl,rfl,hO⟩,.e4 .z,rfl⟩
  cbv;cases h;exact⟨_,⟨rfl,rfl,hO⟩,.e4 .z,rfl⟩
 clear hx
 rcases s23 with y25|y28
 ·rintro e l H ⟨rfl,rfl,hO⟩;cbv;refine C7 hE h (fun _ h=>?_) fun _ h=>?_
  ·cbv;cases h;exact hK hO (.refl _)
  cbv;refine B3 hE h (c104 N aA) (.refl _) fun r26 h=>?_;cbv;refine C7 hE h (fun _ h=>?_) fun _ h=>?_
  ·cbv;cases h;exact hK hO (.refl _)
  cbv;refine C7 hE h (fun _ h=>?_) fun _ h=>?_
  ·cbv;refine B3 hE h (c198 N N aA.cR (⟨0,[],0,0,0,(⟨0,0,⟨#[]⟩⟩:A9)⟩:B5)) (.cons (.refl _) (.cons (.agg (.cons (.refl _) (.cons (.lit _ (F3)) (.refl _)))) (.refl _))) fun r27 h=>?_;cbv;refine C7 hE h (fun _ h=>?_) fun _ h=>?_
   ·cbv;cases h;exact hK hO (.refl _)
   cbv;cases h;exact hK hO (.refl _)
  cbv;cases h;exact hK hO (.refl _)
 rintro e l H ⟨rfl,rfl,hO⟩;cbv;cases h;exact hK hO (.refl _)
def c99 (N aA r) (h:Eg N aA=some r):C2 prog 99 [(D5 aA)] (vi r):=by
 refine Q9 cf0 func99 call99 ntmps99 ?_;intro E H0 K hE hK hO
 repeat' (cbv;first|apply C7 hE h<;>intro _ h|refine B3 hE h (c132 _ _ _ _) .z fun _ h=>?_|refine B3 hE h (c133 _ _ _) .z fun _ h=>?_|refine B3 hE h (c100 _ _ _) .z fun r3 h=>?_|(cases h;exact hK hO .z))
 cbv;obtain⟨s5,hx,h⟩:=bind_some h;refine I7 cf0 hE S3 (fun s4=>[(3,.v (sr eBo6 r3)),fi 4 s4]) (fun s4 H1=>C8 Eq H0 [] H1) (fun x e l H1=>match(generalizing:=false) x with| .inl y=>e= .exit 0∧l=[]∧C8 Eq H0 [] H1| .inr y=>e= .ret∧l=[fi 2 y]∧C8 Eq H0 [] H1) (by kernel_rfl) ?_ hx ?_ hO ?_
 ·intro s4 H o hO h
  repeat' (cbv;first|apply C7 hE h<;>intro _ h|apply K9 hE|refine B3 hE h (c152 _ _) .z fun _ h=>?_|refine F6 hE eBo7 h fun _ h=>?_|(cases h;exact⟨_,_,rfl,⟨rfl,rfl,hO⟩,.e rfl .z,rfl⟩)|(cases h;exact⟨_,rfl,.e2 .z,rfl,hO⟩)|(cases h;exact⟨_,_,rfl,⟨rfl,rfl,hO⟩,.z,rfl⟩))
 ·exact .e2 .z
 clear hx
 rcases s5 with y8|y9
 ·rintro e l H ⟨rfl,rfl,hO⟩;cbv;cases h;exact hK hO .z
 rintro e l H ⟨rfl,rfl,hO⟩;cbv;cases h;exact hK hO .z
def c101 (N aH r) (h:HG N aH=some r):C2 prog 101 [sr eBo6 aH] (.bool r):=by
 refine Q9 cf0 func101 call101 ntmps101 ?_;intro E H0 K hE hK hO;cbv;obtain⟨s2,hx,h⟩:=bind_some h;refine I7 cf0 hE S3 (fun s1=>[(0,.v (sr eBo6 aH)),fi 3 s1]) (fun s1 H1=>C8 Eq H0 [] H1) (fun x e l H1=>match(generalizing:=false) x with| .inl y=>e= .exit 0∧l=[]∧C8 Eq H0 [] H1| .inr y=>e= .ret∧l=[(2,.b false)]∧C8 Eq H0 [] H1) (by kernel_rfl) ?_ hx ?_ hO ?_
 ·intro s1 H o hO h
  repeat' (cbv;first|apply C7 hE h<;>intro _ h|apply K9 hE|refine F6 hE eBo7 h fun _ h=>?_|(cases h;exact⟨_,_,rfl,⟨rfl,rfl,hO⟩,.b rfl (.z),rfl⟩)|(cases h;exact⟨_,rfl,.e2 .z,rfl,hO⟩)|(cases h;exact⟨_,_,rfl,⟨rfl,rfl,hO⟩,.z,rfl⟩))
 ·exact .e2 .z
 clear hx
 rcases s2 with y4|y5
 ·rintro e l H ⟨rfl,rfl,hO⟩;cbv;cases h;exact hK hO .z
 rintro e l H ⟨rfl,rfl,hO⟩;cbv;cases h;exact hK hO .z
def cf41:Cf:=⟨[],[],[(28,13)],[],[],[]⟩
def c41 (N aA r) (h:Jt N aA=some r):C2 prog 41 [(D5 aA)] (vi r):=by
 refine Q9 cf41 func41 call41 ntmps41 ?_;intro E H0 K hE hK hO
 repeat' (cbv;first|apply C7 hE h<;>intro _ h|refine B3 hE h (c99 _ _) .z fun _ h=>?_|refine B3 hE h (c100 _ _ _) .z fun r2 h=>?_|refine B3 hE h (c101 _ _) .z fun _ h=>?_|(cases h;exact hK hO .z))
 cbv;obtain⟨s5,hx,h⟩:=bind_some h;refine I7 cf41 hE S3 (fun s4=>[(4,.v (sr eBo6 r2)),fi 5 s4.1,fi 6 s4.2.1,fi 7 s4.2.2]) (fun s4 H1=>C8 Eq H0 [] H1) (fun x e l H1=>match(generalizing:=false) x with| .inl y=>e= .exit 0∧l=[]∧C8 Eq H0 [] H1| .inr y=>e= .ret∧l=[fi 2 14]∧C8 Eq H0 [] H1) (by kernel_rfl) ?_ hx ?_ hO ?_
 ·intro s4 H o hO h;cbv;apply K9 hE;cbv;apply C7 hE h<;>intro _ h
  ·cbv;refine F6 hE eBo7 h fun x6 h=>?_;cbv;refine B3 hE h (c102 N x6) .z fun r7 h=>?_;cbv;obtain⟨s8,hx,h⟩:=bind_some h;refine R8 cf41 hE S3 (fun e l H1=>match(generalizing:=false) s8 with| .inl y=>e= .normal∧l=[(4,.v (sr eBo6 r2)),fi 5 y,fi 6 s4.2.1,fi 7 s4.2.2]∧C8 Eq H0 [] H1| .inr y=>e= .ret∧l=[fi 2 14]∧C8 Eq H0 [] H1) (by kernel_rfl) ?_ ?_
   ·clear h;have h:=hx
    repeat' (cbv;first|apply C7 hE h<;>intro _ h|refine F6 hE eBo7 h fun _ h=>?_|(cases h;exact⟨_,⟨rfl,rfl,hO⟩,.e rfl .z,rfl⟩)|(cases h;exact⟨_,⟨rfl,rfl,hO⟩,.e4 .z,rfl⟩))
   clear hx
   rcases s8 with y10|y17
   ·rintro e l H ⟨rfl,rfl,hO⟩
    repeat' (cbv;first|apply C7 hE h<;>intro _ h|refine B3 hE h (c103 _ _) .z fun _ h=>?_|refine B3 hE h (c104 _ _) .z fun _ h=>?_|refine F6 hE eBo7 h fun _ h=>?_|(cases h;exact⟨_,_,rfl,⟨rfl,rfl,hO⟩,.e rfl .z,rfl⟩)|(cases h;exact⟨_,rfl,.e4 .z,rfl,hO⟩))
   rintro e l H ⟨rfl,rfl,hO⟩;cbv;cases h;exact⟨_,_,rfl,⟨rfl,rfl,hO⟩,.e rfl .z,rfl⟩
  cbv;cases h;exact⟨_,_,rfl,⟨rfl,rfl,hO⟩,.z,rfl⟩
 ·exact .e4 .z
 clear hx
 rcases s5 with y18|y19
 ·rintro e l H ⟨rfl,rfl,hO⟩;cbv;cases h;exact hK hO .z
 rintro e l H ⟨rfl,rfl,hO⟩;cbv;cases h;exact hK hO .z
def c105 (N aC r)(h:KP N aC=some r):C2 prog 105 [(BO aC)] (.bool r):=by
 refine Q9 cf0 func105 call105 ntmps105 ?_;intro E H0 K hE hK hO;cbv;cases h;exact hK hO .z
def c106 (N aB aF r)(h:Ha N aB aF=some r):C2 prog 106 [(DU aB),(DU aF)] (vi r):=by
 refine Q9 cf0 func106 call106 ntmps106 ?_;intro E H0 K hE hK hO
 repeat' (cbv;first|apply C7 hE h<;>intro _ h|(cases h;exact hK hO .z))
def cf107:Cf:=⟨[2],[],[],[],[],[]⟩
def c107 (N aC r)(h:Np N aC=some r):C2 prog 107 [(BO aC)] ((DU r)):=by
 refine Q9 cf107 func107 call107 ntmps107 ?_;intro E H0 K hE hK hO;cbv;refine F2 hE hO fun b1 H hO=>?_;cbv;refine D1 hE hO 0 rfl rfl fun H hO=>?_;cbv;apply C6 hE hO 0 rfl;cbv;cases h;exact hK hO .z
def c108 (N aB aF r)(h:Ig N aB aF=some r):C2 prog 108 [(BO aB),(BO aF)] (.bool r):=by
 refine Q9 cf0 func108 call108 ntmps108 ?_;intro E H0 K hE hK hO;cbv;cases h;exact hK hO .z
def cf42:Cf:=⟨[],[(8,13),(13,8)],[],[],[],[]⟩
def c42 (N aH r) (h:Jw N aH=some r):C2 prog 42 [sr eBo2 aH] (vi r):=by
 refine Q9 cf42 func42 call42 ntmps42 ?_;intro E H0 K hE hK hO;cbv;apply K9 hE;cbv;apply C7 hE h<;>intro _ h
 ·cbv;cases h;exact hK hO .z
 cbv;obtain⟨s2,hx,h⟩:=bind_some h;refine I7 cf42 hE S3 (fun s1=>[(0,.v (sr eBo2 aH)),fi 3 s1]) (fun s1 H1=>C8 Eq H0 [] H1) (fun x e l H1=>match(generalizing:=false) x with| .inl y=>e= .exit 0∧l=[]∧C8 Eq H0 [] H1| .inr y=>e= .ret∧l=[fi 2 y]∧C8 Eq H0 [] H1) (by kernel_rfl) ?_ hx ?_ hO ?_
 ·intro s1 H o hO h
  repeat' (cbv;first|apply C7 hE h<;>intro _ h|apply K9 hE|refine B3 hE h (c105 _ _) .z fun _ h=>?_|refine B3 hE h (c107 _ _) .z fun _ h=>?_|refine B3 hE h (c106 _ _ _) .z fun _ h=>?_|refine F6 hE eBo8 h fun _ h=>?_|refine E9 hE (g:=fun r6=>(DU r6)) h (c107 _ _) .z fun r6 h=>?_|(cases h;exact⟨_,_,rfl,⟨rfl,rfl,hO⟩,.e rfl .z,rfl⟩)|(cases h;exact⟨_,_,rfl,⟨rfl,rfl,hO⟩,.z,rfl⟩))
  ·cbv;obtain⟨s11,hx,h⟩:=bind_some h;refine I7 cf42 hE S3 (fun s10=>[(0,.v (sr eBo2 aH)),fi 3 s1,fi 4 s10]) (fun s10 H1=>C8 Eq H0 [] H1) (fun x e l H1=>match(generalizing:=false) x with| .inl y=>e= .exit 2∧l=[(0,.v (sr eBo2 aH)),fi 3 s1]∧C8 Eq H0 [] H1| .inr y=>e= .ret∧l=[fi 2 7]∧C8 Eq H0 [] H1) (by kernel_rfl) ?_ hx ?_ hO ?_
   ·intro s10 H o hO h
    repeat' (cbv;first|apply C7 hE h<;>intro _ h|refine B3 hE h (c108 _ _ _) .z fun _ h=>?_|refine F6 hE eBo8 h fun _ h=>?_|(cases h;exact⟨_,_,rfl,⟨rfl,rfl,hO⟩,.e rfl .z,rfl⟩)|(cases h;exact⟨_,rfl,.e rfl (.e2 .z),rfl,hO⟩)|(cases h;exact⟨_,_,rfl,⟨rfl,rfl,hO⟩,.e2 .z,rfl⟩))
   ·exact .e rfl (.e2 .z)
   clear hx
   rcases s11 with y15|y16
   ·rintro e l H ⟨rfl,rfl,hO⟩;cbv;cases h;exact⟨_,rfl,.e2 .z,rfl,hO⟩
   rintro e l H ⟨rfl,rfl,hO⟩;cbv;cases h;exact⟨_,_,rfl,⟨rfl,rfl,hO⟩,.e rfl .z,rfl⟩
  cbv;obtain⟨s18,hx,h⟩:=bind_some h;refine I7 cf42 hE S3 (fun s17=>[(0,.v (sr eBo2 aH)),fi 3 s1,fi 4 s17]) (fun s17 H1=>C8 Eq H0 [] H1) (fun x e l H1=>match(generalizing:=false) x with| .inl y=>e= .exit 2∧l=[(0,.v (sr eBo2 aH)),fi 3 s1]∧C8 Eq H0 [] H1| .inr y=>e= .ret∧l=[fi 2 7]∧C8 Eq H0 [] H1) (by kernel_rfl) ?_ hx ?_ hO ?_
  ·intro s17 H o hO h
   repeat' (cbv;first|apply C7 hE h<;>intro _ h|refine B3 hE h (c108 _ _ _) .z fun _ h=>?_|refine F6 hE eBo8 h fun _ h=>?_|(cases h;exact⟨_,_,rfl,⟨rfl,rfl,hO⟩,.e rfl .z,rfl⟩)|(cases h;exact⟨_,rfl,.e rfl (.e2 .z),rfl,hO⟩)|(cases h;exact⟨_,_,rfl,⟨rfl,rfl,hO⟩,.e2 .z,rfl⟩))
  ·exact .e rfl (.e2 .z)
  clear hx
  rcases s18 with y22|y23
  ·rintro e l H ⟨rfl,rfl,hO⟩;cbv;cases h;exact⟨_,rfl,.e2 .z,rfl,hO⟩
  rintro e l H ⟨rfl,rfl,hO⟩;cbv;cases h;exact⟨_,_,rfl,⟨rfl,rfl,hO⟩,.e rfl .z,rfl⟩
 ·exact .e2 .z
 clear hx
 rcases s2 with y24|y25
 ·rintro e l H ⟨rfl,rfl,hO⟩;cbv;cases h;exact hK hO .z
 rintro e l H ⟨rfl,rfl,hO⟩;cbv;cases h;exact hK hO .z
def c126 (N aP bK r)(h:DO N aP bK=some r):C2 prog 126 [vi aP,vi bK] (.bool r):=by
 refine Q9 cf0 func126 call126 ntmps126 ?_;intro E H0 K hE hK hO;cbv;cases h;exact hK hO .z
def cf59:Cf:=⟨[4],[(10,12)],[],[],[],[]⟩
def c59 (N bG r) (h:EY N bG=some r):C2 prog 59 [(KJ bG)] (vi r):=by
 unfold EY at h
 refine Q9 cf59 func59 call59 ntmps59 ?_;intro E H0 K hE hK hO;cbv;refine K9 hE ?_;cbv;refine C7 hE h (fun _ h=>?_) fun _ h=>?_
 ·cbv;cases h;exact hK hO (.refl _)
 cbv;refine K9 hE ?_;cbv;refine C7 hE h (fun _ h=>?_) fun _ h=>?_
 ·cbv;cases h;exact hK hO (.refl _)
 cbv;refine K9 hE ?_;cbv;obtain⟨s2,hx,h⟩:=bind_some h;refine I7 cf59 hE S3 (fun s1=>[(1,.v (.eref (NH bG) 0)),(16,.v (sr eBo5 bG.cT)),fi 17 (Ar.len bG.cT),fi 18 s1]) (fun s1 H1=>C8 Eq H0 [] H1) (fun x e l H1=>match(generalizing:=false) x with| .inl y=>e= .exit 1∧l=[]∧C8 Eq H0 [] H1| .inr y=>e= .ret∧l=[fi 2 y]∧C8 Eq H0 [] H1) (by kernel_rfl) ?_ hx ?_ hO ?_
 ·intro s1 H o hO h;clear hx;cbv;refine C7 hE h (fun _ h=>?_) fun _ h=>?_
  ·cbv;refine F6 hE eBp1 h fun x3 h=>?_;cbv;refine F2 hE hO fun b4 H hO=>?_;cbv;refine D1 hE hO 0 rfl rfl fun H hO=>?_;cbv;refine C6 hE hO 0 rfl ?_;cbv;refine B3 hE h (c126 N x3.Var 15) (.refl _) fun r5 h=>?_;cbv;refine C6 hE hO 0 rfl ?_;cbv;refine C7 hE h (fun _ h=>?_) fun _ h=>?_
   ·cbv;cases h;exact⟨_,_,rfl,⟨rfl,rfl,hO.tail⟩,.e rfl .z,rfl⟩
   cbv;refine B3 hE h (c126 N x3.Ref.Time 1099511627776) (.refl _) fun r6 h=>?_;cbv;refine C6 hE hO 0 rfl ?_;cbv;refine C7 hE h (fun _ h=>?_) fun _ h=>?_
   ·cbv;cases h;exact⟨_,_,rfl,⟨rfl,rfl,hO.tail⟩,.e rfl .z,rfl⟩
   cbv;refine B3 hE h (c126 N x3.Ref.Source 7) (.refl _) fun r7 h=>?_;cbv;refine C6 hE hO 0 rfl ?_;cbv;refine C7 hE h (fun _ h=>?_) fun _ h=>?_
   ·cbv;cases h;exact⟨_,_,rfl,⟨rfl,rfl,hO.tail⟩,.e rfl .z,rfl⟩
   cbv;refine B3 hE h (c126 N x3.Ref.Seq 1099511627776) (.refl _) fun r8 h=>?_;cbv;refine C7 hE h (fun _ h=>?_) fun _ h=>?_
   ·cbv;cases h;exact⟨_,_,rfl,⟨rfl,rfl,hO.tail⟩,.e rfl .z,rfl⟩
   cbv;refine C7 hE h (fun _ h=>?_) fun _ h=>?_
   ·cbv;refine F6 hE eBp1 h fun x9 h=>?_;cbv;refine C6 hE hO 0 rfl ?_;cbv;refine B3 hE h (c69 N x9.Ref x3.Ref) (.refl _) fun r10 h=>?_;cbv;refine C7 hE h (fun _ h=>?_) fun _ h=>?_
    ·cbv;cases h;exact⟨_,_,rfl,⟨rfl,rfl,hO.tail⟩,.e rfl .z,rfl⟩
    cbv;cases h;exact⟨_,rfl,.e4 .z,rfl,hO.tail⟩
   cbv;cases h;exact⟨_,rfl,.e4 .z,rfl,hO.tail⟩
  cbv;cases h;exact⟨_,_,rfl,⟨rfl,rfl,hO⟩,.z,rfl⟩
 ·exact .e4 .z
 clear hx
 rcases s2 with y11|y12
 ·rintro e l H ⟨rfl,rfl,hO⟩;cbv;cases h;exact hK hO (.refl _)
 rintro e l H ⟨rfl,rfl,hO⟩;cbv;cases h;exact hK hO (.refl _)
def cf127:Cf:=⟨[],[(5,6),(8,15)],[],[],[],[]⟩
def c127 (N:Nat) (aG:List A8) (bT:T4) (aY:V) (aV:A8→T4→Option Int) (bS:∀y1 y2 q,aV y1 y2=some q→AA prog aY [(BO y1),(DU y2)] (vi q)) (r:(Int×Bool)) (h:R7 N aG bT aV=some r):C2 prog 127 [sr eBo2 aG,(DU bT),aY] (.tup [vi r.1,.bool r.2]):=by
 refine Q9 cf127 func127 call127 ntmps127 ?_;intro E H0 K hE hK hO;cbv;apply K9 hE;cbv;obtain⟨s2,hx,h⟩:=bind_some h;refine I7 cf127 hE S3 (fun s1=>[(0,.v (sr eBo2 aG)),(2,.v (aY)),(4,.v (.eref (AP5 bT) 0)),fi 8 (Ar.len aG),fi 9 s1.1,fi 10 s1.2]) (fun s1 H1=>C8 Eq H0 [] H1) (fun x e l H1=>e= .exit 0∧l=[(0,.v (sr eBo2 aG)),(2,.v (aY)),(4,.v (.eref (AP5 bT) 0)),fi 8 (Ar.len aG),fi 9 x]∧C8 Eq H0 [] H1) (by kernel_rfl) ?_ hx ?_ hO ?_
 ·intro s1 H o hO h
  repeat' (cbv;first|apply C7 hE h<;>intro _ h|refine BR hE (g:=fun r4=>vi r4) h (fun r4 hx=>bS x3 bT r4 hx) .z fun r4 h=>?_|refine F6 hE eBo8 h fun x3 h=>?_|(cases h;exact⟨_,rfl,.e2 (.e4 .z),rfl,hO⟩)|(cases h;exact⟨_,_,rfl,⟨rfl,rfl,hO⟩,.e rfl (.e4 .z),rfl⟩)|apply Aq5 hE (Ac0 hE rfl))
 ·exact .e2 (.e4 .z)
 clear hx;rintro e l H ⟨rfl,rfl,hO⟩
 repeat' (cbv;first|apply C7 hE h<;>intro _ h|refine F6 hE eBo8 h fun x5 h=>?_|refine AK0 hE (g:=fun r6=>vi r6) h (fun r6 hx=>bS x5 bT r6 hx) .z fun r6 h=>?_|(cases h;exact hK hO .z))
def cf128:Cf:=⟨[],[(1,14)],[],[],[],[]⟩
def c128 (N aC bO r)(h:BV N aC bO=some r):C2 prog 128 [(BO aC),(DU bO)] (vi r):=by
 refine Q9 cf128 func128 call128 ntmps128 ?_;intro E H0 K hE hK hO
 repeat' (cbv;first|refine B3 hE h (c70 _ _ _) .z fun _ h=>?_|refine B3 hE h (c68 _ _) (.cons (.lit _ (H8 (rfl) (H8 (rfl) (H8 (rfl) (F3))))) .z) fun _ h=>?_|refine E9 hE (g:=fun r1=>vi r1) h (c70 _ _ _) .z fun r1 h=>?_|refine E9 hE (g:=fun r2=>vi r2) h (c70 _ _ _) .z fun r2 h=>?_|(cases h;exact hK hO .z))
def c60 (N aH bO r)(h:ET N aH bO=some r):C2 prog 60 [sr eBo2 aH,(DU bO)] (.tup [vi r.1,.bool r.2.1,vi r.2.2]):=by
 refine Q9 cf0 func60 call60 ntmps60 ?_;intro E H0 K hE hK hO
 repeat' (cbv;first|apply C7 hE h<;>intro _ h|refine B3 hE h (c56 _ _) .z fun _ h=>?_|refine B3 hE (g:=fun r2=>.tup [vi r2.1,.bool r2.2]) h (fun r2 hx=>c127 N aH bO (.func (.func 128) [] []) (fun y1 y2=>BV N y1 y2) (fun y1 y2 r hx=>C2.value (F:=[]) (C:=[]) (c128 N y1 y2 r hx)) r2 hx) .z fun r2 h=>?_|(cases h;exact hK hO .z))
def c297 (N aD r)(h:GV N aD=some r):AR1 prog 297 aD r:=Am5 Go.Proofs.Tryz.laysNm189 call297 h
def c298 (N aD r)(h:EU N aD=some r):XW prog 298 [] 1 (lst (V.int .i64) aD) (lst (V.int .i64) r):=UJ Go.Proofs.Tryz.laysNm220 call298 h
def cf264:Cf:=⟨[3,5000003],[],[],[],[],[]⟩
def c264 (N aA r) (h:NY N aA=some r):C2 prog 264 [(D5 aA)] (sr (V.int .i64) r):=by
 refine FE (T:=TT) cf264 S3 func264 (by rfl) (by kernel_rfl) call264 ntmps264 (by rfl) (by rfl) ?_;intro E H0 K hE hK hF;have hO:C8 Eq H0 [] H0:=.start M2 rfl;cbv;refine Zy hE (f0:=(V.int .i64)) hO fun q2 b1 H hq2 hO=>?_;cbv;refine JC hE h (c157 N aA) .z fun r3 v4 hv4 h=>?_;cbv;obtain⟨o10,hx,h⟩:=bind_some h;refine PQ cf264 hE S3 (ι:=Unit) (enc:=fun(x:A2)=>[(D5 x)]) (fun(s6:(List Int)) F H=>∃g:OG,(Cd g (Ar.len s6))∧C8 Eq F [cb b1 [.own g.id g.lo g.n],ob g 1 (V.int .i64) s6] H) (fun(r:Unit) e F H=>False) (fun i s6 y5=>[(3,.v (.ref b1 0)),(4,.v (.eref (E0 y5) 0))]) (fun i s6 y5 F H=>∃g:OG,(Cd g (Ar.len s6))∧C8 Eq F [cb b1 [.own g.id g.lo g.n],ob g 1 (V.int .i64) s6] H) (fun _=>G5.ex fun _=>C8.stable M2 _) (fun _ _=>⟨fun h=>h.elim,fun _ _ h=>h.elim⟩) (fun _ _ _=>G5.ex fun _=>C8.stable M2 _) hv4 hx (⟨q2,hq2,hO⟩) (by decide) (fun _=>rfl) (by kernel_rfl) (by kernel_rfl) ?_ ?_ ?_ ?_
 ·rintro E i8 y5 s6 F7 H hE ⟨q9,hq9,hO⟩;clear hx h;cbv;exact⟨(),⟨q9,hq9,hO⟩,.e2 .z,rfl⟩
 ·rintro E i8 _ y5 s6 F7 H o hE hF h ⟨q9,hq9,hO⟩;cbv;apply C7 hE h<;>intro _ h
  ·cbv;apply C6 hE hO 0 rfl;cbv;refine Xi (f:=(V.int .i64)) hE (fun _=>rfl) (by decide) hO hq9 1 rfl (m:=[y5.Var]) (Ow (f:=(V.int .i64)) hE (fun _=>rfl) (.lstc .z (.lst0))) h fun l12 q11 H hq11 hO h=>?_;cbv;refine D1 hE hO 0 rfl rfl fun H hO=>?_;cbv;cases h;exact⟨_,rfl,⟨q11,hq11,hO⟩⟩
  cbv;cases h;exact⟨_,rfl,⟨q9,hq9,hO⟩⟩
 ·rintro d13 s16 H rfl hd ⟨q17,hq17,hO⟩;have hO:C8 Eq H0 [cb b1 [.own q17.id q17.lo q17.n],ob q17 1 (V.int .i64) s16,.blk d13 DB] H:=C8.dblk hd hO;clear hd
  repeat' (cbv;first|refine AW1 hE hO hq17 1 rfl h (c297 N s16) fun l18 H hq17 hO h=>?_|refine ZA hE (f:=(V.int .i64)) hO hq17 1 rfl h (c298 N l18) .z fun _ q20 H hq20 hO h=>?_|apply C6 hE hO 0 rfl|(cases h;exact hF q20 _ _ 1 _ _ hO rfl (Fi hE hq20) .z)|refine Kr hE hO 2 rfl fun H hO=>?_)
 rintro d r e H rfl hd hO;exact hO.elim
def c299 (N aD aK r) (h:FO N aD aK=some r):C2 prog 299 [sr (V.int .i64) aD,vi aK] (vi r):=by
 refine Q9 cf0 func299 call299 ntmps299 ?_;intro E H0 K hE hK hO;cbv;apply K9 hE;cbv;obtain⟨s2,hx,h⟩:=bind_some h;refine I7 cf0 hE S3 (fun s1=>[(0,.v (sr (V.int .i64) aD)),fi 1 aK,fi 7 (Ar.len aD),fi 8 s1]) (fun s1 H1=>C8 Eq H0 [] H1) (fun x e l H1=>match(generalizing:=false) x with| .inl y=>e= .exit 0∧l=[]∧C8 Eq H0 [] H1| .inr y=>e= .ret∧l=[fi 4 y]∧C8 Eq H0 [] H1) (by kernel_rfl) ?_ hx ?_ hO ?_
 ·intro s1 H o hO h
  repeat' (cbv;first|apply C7 hE h<;>intro _ h|refine F6 hE (fun _=>rfl) h fun _ h=>?_|(cases h;exact⟨_,_,rfl,⟨rfl,rfl,hO⟩,.e rfl .z,rfl⟩)|(cases h;exact⟨_,rfl,.e4 .z,rfl,hO⟩)|(cases h;exact⟨_,_,rfl,⟨rfl,rfl,hO⟩,.z,rfl⟩))
 ·exact .e4 .z
 clear hx
 rcases s2 with y4|y5
 ·rintro e l H ⟨rfl,rfl,hO⟩;cbv;cases h;exact hK hO .z
 rintro e l H ⟨rfl,rfl,hO⟩;cbv;cases h;exact hK hO .z
def c265 (N aD aK r)(h:DY N aD aK=some r):C2 prog 265 [sr (V.int .i64) aD,vi aK] (.bool r):=by
 refine Q9 cf0 func265 call265 ntmps265 ?_;intro E H0 K hE hK hO;cbv;refine B3 hE h (c299 N aD aK) .z fun r1 h=>?_;cbv;cases h;exact hK hO .z
def c224 (N aA aD r) (h:Ix N aA aD=some r):C2 prog 224 [(D5 aA),sr eBo1 aD] (sr eBo1 r):=by
 refine Q9 cf0 func224 call224 ntmps224 ?_;intro E H0 K hE hK hO;cbv;refine B3 hE h (c264 N aA) .z fun r1 h=>?_;cbv;apply K9 hE;cbv;replace hO:=hO.tl0 (t:=.nil) rfl;obtain⟨s4,hx,h⟩:=bind_some h;refine Bd cf0 hE S3 (γ:=K1) (fun s2 g=>[(5,.v (sr (V.int .i64) r1)),(6,.v (.sl (lst eBo1 s2.1) g)),(11,.v (sr eBo1 aD)),fi 12 (Ar.len aD),fi 13 s2.2]) (fun s2 g H1=>FI g∧C8 Eq H0 [.tl g] H1) (fun x e l H1=>∃u1:K1,FI u1∧e= .exit 0∧l=[(6,.v (.sl (lst eBo1 x) u1))]∧C8 Eq H0 [.tl u1] H1) (by kernel_rfl) ?_ .nil hx ?_ ?_ ?_
 ·rintro s2 t3 H o ⟨ht3,hO⟩ h
  repeat' (cbv;first|apply C7 hE h<;>intro _ h|refine B3 hE h (c265 _ _ _) .z fun _ h=>?_|refine F6 hE eBp0 h fun x5 h=>?_|(cases h;exact⟨_,t7,rfl,.e rfl (.e4 .z),rfl,ht7,hO⟩)|(cases h;exact⟨_,t3,rfl,.e rfl (.e4 .z),rfl,ht3,hO⟩)|(cases h;exact⟨_,_,rfl,⟨t3,ht3,rfl,rfl,hO⟩,.e rfl .z,rfl⟩)|refine JX (f:=eBo1) hE Y1 (by decide) hO 0 rfl ht3 (l:=s2.1) (m:=[x5]) .z (.lstc (.eq (eBp0 x5) .z) (.lst0)) h fun _ t7 H hO ht7 h=>?_)
 ·exact .e rfl (.v (.slt _ (.lst0)) (.e rfl (.e rfl (.e rfl (.z)))))
 ·exact⟨trivial,hO⟩
 clear hx;rintro e l H ⟨t9,ht9,rfl,rfl,hO⟩;cbv;cases h;exact hK hO (.ro _ _)
def cf61:Cf:=⟨[10],[(1,17),(2,11),(6,6)],[],[],[],[]⟩
def K61 (N n:Nat):Prop:=∀(aG:L3) (aR:List (C5×B2)) (aA:A2) (aQ:Int) (aD:List A6) (aI:List A6) (r:(B2×List (C5×B2))),L4 N n aG aR aA aQ aD aI=some r→Na prog 61 (fun id=>[.eref [sr eBo2 aG.prover.cU,vi aG.prover.count,.map id] 0,(D5 aA),vi aQ,sr eBo1 aD,sr eBo1 aI]) eBp2 eBp3 aR ((J9 r.1)) r.2
def cf129:Cf:=⟨[10,10000010],[(3,22),(4,14),(14,10)],[(81,12)],[0],[],[]⟩
def Bj2 (N n:Nat):Prop:=∀(aG:L3) (aR:List (C5×B2)) (aA:A2) (aQ:Int) (aD:List A6) (aI:List A6) (r:(B2×List (C5×B2))),Ao N n aG aR aA aQ aD aI=some r→Na prog 129 (fun id=>[.eref [sr eBo2 aG.prover.cU,vi aG.prover.count,.map id] 0,(D5 aA),vi aQ,sr eBo1 aD,sr eBo1 aI]) eBp2 eBp3 aR ((J9 r.1)) r.2
def cf169:Cf:=⟨[],[(15,7),(3000012,0),(3000012,1),(3000012,2),(3000012,4),(3000012,5),(3000012,6),(3000012,7),(3000012,8),(3000012,9),(3000012,11),(3000012,12),(3000012,13),(3000014,0),(3000014,1),(3000014,2),(3000014,3),(3000014,4),(3000014,5),(3000014,7),(3000014,8),(3000014,10)],[],[2000012,2000014],[],[]⟩
def Bj1 (N n:Nat):Prop:=∀(aG:L3) (aR:List (C5×B2)) (aA:A2) (aQ:Int) (aD:List A6) (aI:List A6) (r:(((List A4)×Bool)×List (C5×B2))),U7 N n aG aR aA aQ aD aI=some r→Na prog 169 (fun id=>[.eref [sr eBo2 aG.prover.cU,vi aG.prover.count,.map id] 0,(D5 aA),vi aQ,sr eBo1 aD,sr eBo1 aI]) eBp2 eBp3 aR (.tup [sr eBo3 r.1.1,.bool r.1.2]) r.2
def cf170:Cf:=⟨[10,12,10000010],[],[],[],[],[]⟩
def Bj0 (N n:Nat):Prop:=∀(aG:L3) (aR:List (C5×B2)) (aA:A2) (aQ:Int) (aD:List A6) (aI:List A6) (r:(B2×List (C5×B2))),Bl N n aG aR aA aQ aD aI=some r→Na prog 170 (fun id=>[.eref [sr eBo2 aG.prover.cU,vi aG.prover.count,.map id] 0,(D5 aA),vi aQ,sr eBo1 aD,sr eBo1 aI]) eBp2 eBp3 aR ((J9 r.1)) r.2
def cf171:Cf:=⟨[10],[],[(61,15)],[],[],[]⟩
def Bi9 (N n:Nat):Prop:=∀(aG:L3) (aR:List (C5×B2)) (aA:A2) (aQ:Int) (aD:List A6) (aI:List A6) (r:(B2×List (C5×B2))),Ad N n aG aR aA aQ aD aI=some r→Na prog 171 (fun id=>[.eref [sr eBo2 aG.prover.cU,vi aG.prover.count,.map id] 0,(D5 aA),vi aQ,sr eBo1 aD,sr eBo1 aI]) eBp2 eBp3 aR ((J9 r.1)) r.2
def k61 (N n:Nat)(ih129:Bj2 N n):K61 N (n+1):=by
 intro aG aR aA aQ aD aI r h
 unfold L4 at h
 refine Iy (T:=TT) cf61 S3 func61 (by rfl) (by kernel_rfl) call61 ntmps61 (by rfl) (fun _=>rfl) ?_;intro E H0 id0 o0 K hE ho0 hO hK;cbv;refine F2 hE hO fun b1 H hO=>?_;cbv;refine F6 hE eBp0 h fun x2 h=>?_;cbv;refine K9 hE ?_;cbv;refine F6 hE eBp0 h fun x3 h=>?_;cbv;refine K9 hE ?_;cbv;refine Ai7 (eBq8 (⟨aQ,x2.at_,x3.at_,Ar.len aI⟩:C5)) ?_;refine AV8 hE (z:=.agg [vi 0,vi 0,vi 0,vi 0,.sl [] .nil,.bool false]) eBq7 (kt:=178) (et:=115) (by kernel_rfl) (by kernel_rfl) Bd3 ((⟨(⟨(⟨0,0,0⟩:T4),0,[]⟩:A4),false⟩:B2):B2) (by kernel_rfl) (by rw[eBq7];exact .agg (.cons (.refl _) (.cons (.refl _) (.cons (.refl _) (.cons (.refl _) (.cons (.lit _ (F3)) (.refl _))))))) hO ho0 1 rfl h fun r4 h=>?_;cbv;refine C7 hE h (fun _ h=>?_) fun _ h=>?_
 ·cbv;cases h
 cbv;refine Fj (g:=fun r5=>(J9 r5)) hE hO ho0 1 rfl h (ih129 aG aR aA aQ aD aI) (.refl _) fun r5 o6 H ho6 hO h=>?_;cbv;refine Xj (eBq8 (⟨aQ,x2.at_,x3.at_,Ar.len aI⟩:C5)) ?_;refine Bg1 hE (eBq7 _).symm (kt:=178) (et:=115) (by kernel_rfl) (by kernel_rfl) Bd3 hO ho6 1 rfl h fun l8 o7 H ho7 h hO=>?_;cbv;refine D1 hE hO 0 rfl rfl fun H hO=>?_;cbv;refine C6 hE hO 0 rfl ?_;cbv;cases h;exact hK _ _ _ 1 _ ho7 rfl hO (.refl _)
def k129 (N n:Nat) (ih61:K61 N n) (ih169:Bj1 N n) (ih170:Bj0 N n) (ih171:Bi9 N n):Bj2 N (n+1):=by
 intro aG aR aA aQ aD aI r h
 unfold Ao at h
 refine Iy (T:=TT) cf129 S3 func129 (by rfl) (by kernel_rfl) call129 ntmps129 (by rfl) (fun _=>rfl) ?_;intro E H0 id0 o0 K hE ho0 hO hK;cbv;refine F2 hE hO fun b1 H hO=>?_;cbv;refine Bd1 hE (ds:=[vi 0,vi 0,vi 0,vi 0,sr eBo3 ([]),.bool false]) hO 0 rfl (.cons (.refl _) (.cons (.refl _) (.cons (.refl _) (.cons (.refl _) (.cons (.lit _ (F3)) (.refl _)))))) fun H hO=>?_;cbv;obtain⟨s2,hx,h⟩:=bind_some h;refine R8 cf129 hE S3 (fun e l H1=>∃u1:(List Value×List V),Sb eBp2 eBp3 u1 s2.2∧e= .ret∧l=[(10,.v (.ref b1 0))]∧C8 Eq (upd H0 id0 none) [cb b1 (U4 s2.1),.blk id0 (.vm u1.1 u1.2)] H1) (by kernel_rfl) ?_ ?_
 ·clear h;have h:=hx;clear hx;cbv;refine C7 hE h (fun _ h=>?_) fun _ h=>?_
  ·cbv;refine K9 hE ?_;cbv;refine C7 hE h (fun _ h=>?_) fun _ h=>?_
   ·cbv;refine F6 hE eBp0 h fun x3 h=>?_;cbv;refine C7 hE h (fun _ h=>?_) fun _ h=>?_
    ·cbv;refine F6 hE eBp0 h fun x4 h=>?_;cbv;refine B3 hE h (c139 N aG.prover aA aI x4.at_) (.cons (.sub (d:=0) (sz:=2) (Me rfl)) (.refl _)) fun r5 h=>?_;cbv;refine F6 hE eBp0 h fun x6 h=>?_;cbv;refine F6 hE eBo8 h fun x7 h=>?_;cbv;refine E9 hE (g:=fun r8=>(DU r8)) h (c116 N x7) (.refl _) fun r8 h=>?_;cbv;refine ME hE (vs':=[vi r8.Time,vi r8.Source,vi r8.Seq,vi 0,sr eBo3 ([]),.bool r5]) hO 0 rfl rfl (.cons (.refl _) (.cons (.refl _) (.cons (.refl _) (.cons (.refl _) (.cons (.lit _ (F3)) (.refl _)))))) fun H hO=>?_;cbv;cases h;exact⟨_,⟨o0,ho0,rfl,rfl,hO⟩,.e rfl .z,rfl⟩
    cbv;refine F6 hE eBp0 h fun x9 h=>?_;cbv;refine F6 hE eBo8 h fun x10 h=>?_;cbv;refine E9 hE (g:=fun r11=>(DU r11)) h (c116 N x10) (.refl _) fun r11 h=>?_;cbv;refine ME hE (vs':=[vi r11.Time,vi r11.Source,vi r11.Seq,vi 0,sr eBo3 ([]),.bool false]) hO 0 rfl rfl (.cons (.refl _) (.cons (.refl _) (.cons (.refl _) (.cons (.refl _) (.cons (.lit _ (F3)) (.refl _)))))) fun H hO=>?_;cbv;cases h;exact⟨_,⟨o0,ho0,rfl,rfl,hO⟩,.e rfl .z,rfl⟩
   cbv;refine F6 hE eBp0 h fun x12 h=>?_;cbv;refine F6 hE eBo8 h fun x13 h=>?_;cbv;refine E9 hE (g:=fun r14=>(DU r14)) h (c116 N x13) (.refl _) fun r14 h=>?_;cbv;refine ME hE (vs':=[vi r14.Time,vi r14.Source,vi r14.Seq,vi 0,sr eBo3 ([]),.bool false]) hO 0 rfl rfl (.cons (.refl _) (.cons (.refl _) (.cons (.refl _) (.cons (.refl _) (.cons (.lit _ (F3)) (.refl _)))))) fun H hO=>?_;cbv;cases h;exact⟨_,⟨o0,ho0,rfl,rfl,hO⟩,.e rfl .z,rfl⟩
  cbv;refine C7 hE h (fun _ h=>?_) fun _ h=>?_
  ·cbv;refine Fj (g:=fun r15=>.tup [sr eBo3 r15.1,.bool r15.2]) hE hO ho0 1 rfl h (ih169 aG aR aA aQ aD aI) (.refl _) fun r15 o16 H ho16 hO h=>?_;cbv;refine D1 hE hO 0 rfl rfl fun H hO=>?_;cbv;cases h;exact⟨_,⟨o16,ho16,rfl,rfl,hO⟩,.e rfl .z,rfl⟩
  cbv;refine C7 hE h (fun _ h=>?_) fun _ h=>?_
  ·cbv;cases h
  cbv;obtain⟨s17,hx,h⟩:=bind_some h;refine R8 cf129 hE S3 (fun e l H1=>e= .normal∧l=[(0,.v (.eref [sr eBo2 aG.prover.cU,vi aG.prover.count,.map id0] 0)),fi 2 aQ,(3,.v (sr eBo1 aD)),(4,.v (sr eBo1 aI)),(6,.v (.eref (E0 aA) 0)),(10,.v (.ref b1 0)),(81,.b true)]∧C8 Eq (upd H0 id0 none) [cb b1 [vi 0,vi 0,vi 0,vi 0,sr eBo3 ([]),.bool false],.blk id0 (.vm o0.1 o0.2)] H1) (by kernel_rfl) ?_ ?_
  ·clear h;have h:=hx;clear hx;cbv;refine C7 hE h (fun _ h=>?_) fun _ h=>?_
   ·cbv;cases h;exact⟨_,⟨rfl,rfl,hO⟩,.e2 (.e4 (.b rfl (.z))),rfl⟩
   cbv;cases h
  clear hx;rintro e l H ⟨rfl,rfl,hO⟩;cbv;refine Fj (g:=fun r18=>(J9 r18)) hE hO ho0 1 rfl h (ih171 aG aR aA aQ aD aI) (.refl _) fun r18 o19 H ho19 hO h=>?_;cbv;refine D1 hE hO 0 rfl rfl fun H hO=>?_;cbv;cases h;exact⟨_,⟨o19,ho19,rfl,rfl,hO⟩,.e rfl .z,rfl⟩
 clear hx;rintro e l H ⟨q20,hq20,rfl,rfl,hO⟩;cbv;refine C6 hE hO 0 rfl ?_;cbv;cases h;exact hK _ _ _ 1 _ hq20 rfl hO (.refl _)
set_option maxHeartbeats 2000000 in
def k169 (N n:Nat) (ih61:K61 N n):Bj1 N (n+1):=by
 intro aG aR aA aQ aD aI r h
 unfold U7 at h
 refine Iy (T:=TT) cf169 S3 func169 (by rfl) (by kernel_rfl) call169 ntmps169 (by rfl) (fun _=>rfl) ?_;intro E H0 id0 o0 K hE ho0 hO hK;cbv;refine K9 hE ?_;cbv;refine Aq3 hE (f:=eBp6) (by decide) (z0:=([]:List A4)) ((.eq (eBq2 _) (.lit _ (F3)))) hO h fun l2 q1 H hq1 h hO=>?_;cbv;refine Aq3 hE (f:=V.bool) (by decide) (z0:=(false:Bool)) ((.refl _)) hO h fun l4 q3 H hq3 h hO=>?_;cbv;refine BK hE hO hq3 0 rfl h fun h=>?_;cbv;refine Hb hE (f:=V.bool) (esz:=1) (tz:=1) (off:=0) (u:=(fun x5:Bool=>true)) (fun _=>⟨.bool true,.refl _,rfl,rfl,rfl⟩) (by decide) hO hq3 0 rfl h fun l6 H hq3 h hO=>?_;cbv;obtain⟨s11,hx,h⟩:=bind_some h;refine Bd cf169 hE S3 (γ:=OG×OG×(List Value×List V)) (fun s7 g=>[(0,.v (.eref [sr eBo2 aG.prover.cU,vi aG.prover.count,.map id0] 0)),fi 2 aQ,(3,.v (sr eBo1 aD)),(4,.v (sr eBo1 aI)),(6,.v (.eref (E0 aA) 0)),fi 12 (Ar.len aD),(13,.v (.own g.2.1.id g.2.1.lo g.2.1.n)),(14,.v (.own g.1.id g.1.lo g.1.n)),fi 15 s7.1]) (fun s7 g H1=>Cd g.1 (Ar.len s7.2.1)∧Cd g.2.1 (Ar.len s7.2.2.1)∧Sb eBp2 eBp3 g.2.2 s7.2.2.2∧C8 Eq (upd H0 id0 none) [.blk g.1.id (.arr 1 (g.1.pre++lst V.bool s7.2.1++g.1.rest)),.blk g.2.1.id (.arr 1 (g.2.1.pre++lst eBp6 s7.2.2.1++g.2.1.rest)),.blk id0 (.vm g.2.2.1 g.2.2.2)] H1) (fun x e l H1=>∃u1:OG,Cd u1 (Ar.len x.1)∧∃u2:OG,Cd u2 (Ar.len x.2.1)∧∃u3:(List Value×List V),Sb eBp2 eBp3 u3 x.2.2∧e= .exit 0∧l=[(13,.v (.own u2.id u2.lo u2.n)),(14,.v (.own u1.id u1.lo u1.n))]∧C8 Eq (upd H0 id0 none) [ob u1 1 V.bool x.1,ob u2 1 eBp6 x.2.1,.blk id0 (.vm u3.1 u3.2)] H1) (by kernel_rfl) ?_ (⟨q3,q1,o0⟩) hx ?_ ?_ ?_
 ·rintro s7 ⟨q8,q9,q10⟩ H o ⟨hq8,hq9,hq10,hO⟩ h;clear hx;cbv;refine C7 hE h (fun _ h=>?_) fun _ h=>?_
  ·cbv;obtain⟨s16,hx,h⟩:=bind_some h;refine Bd cf169 hE S3 (γ:=OG×OG×(List Value×List V)) (fun s12 g=>[(0,.v (.eref [sr eBo2 aG.prover.cU,vi aG.prover.count,.map id0] 0)),fi 2 aQ,(3,.v (sr eBo1 aD)),(4,.v (sr eBo1 aI)),(6,.v (.eref (E0 aA) 0)),fi 12 (Ar.len aD),(13,.v (.own g.2.1.id g.2.1.lo g.2.1.n)),(14,.v (.own g.1.id g.1.lo g.1.n)),fi 15 s7.1,fi 16 s12.1]) (fun s12 g H1=>Cd g.1 (Ar.len s12.2.1)∧Cd g.2.1 (Ar.len s12.2.2.1)∧Sb eBp2 eBp3 g.2.2 s12.2.2.2∧C8 Eq (upd H0 id0 none) [.blk g.1.id (.arr 1 (g.1.pre++lst V.bool s12.2.1++g.1.rest)),.blk g.2.1.id (.arr 1 (g.2.1.pre++lst eBp6 s12.2.2.1++g.2.1.rest)),.blk id0 (.vm g.2.2.1 g.2.2.2)] H1) (fun x e l H1=>∃u1:OG,Cd u1 (Ar.len x.1)∧∃u2:OG,Cd u2 (Ar.len x.2.1)∧∃u3:(List Value×List V),Sb eBp2 eBp3 u3 x.2.2∧e= .exit 2∧l=[(0,.v (.eref [sr eBo2 aG.prover.cU,vi aG.prover.count,.map id0] 0)),fi 2 aQ,(3,.v (sr eBo1 aD)),(4,.v (sr eBo1 aI)),(6,.v (.eref (E0 aA) 0)),fi 12 (Ar.len aD),(13,.v (.own u2.id u2.lo u2.n)),(14,.v (.own u1.id u1.lo u1.n)),fi 15 s7.1]∧C8 Eq (upd H0 id0 none) [ob u1 1 V.bool x.1,ob u2 1 eBp6 x.2.1,.blk id0 (.vm u3.1 u3.2)] H1) (by kernel_rfl) ?_ (⟨q8,q9,q10⟩) hx ?_ ?_ ?_
   ·rintro s12 ⟨q13,q14,q15⟩ H o ⟨hq13,hq14,hq15,hO⟩ h;clear hx;cbv;refine C7 hE h (fun _ h=>?_) fun _ h=>?_
    ·cbv;refine BK hE hO hq13 0 rfl h fun h=>?_;cbv;refine CT hE (fun _=>rfl) hO hq13 0 rfl h fun x17 h=>?_;cbv;refine C7 hE h (fun _ h=>?_) fun _ h=>?_
     ·cbv;refine BK hE hO hq13 0 rfl h fun h=>?_;cbv;refine CT hE (fun _=>rfl) hO hq13 0 rfl h fun x18 h=>?_;cbv;refine C7 hE h (fun _ h=>?_) fun _ h=>?_
      ·cbv;cases h;exact⟨_,⟨q13,q14,q15⟩,rfl,.e2 (.e4 (.e4 .z)),rfl,hq13,hq14,hq15,hO⟩
      cbv;obtain⟨s19,hx,h⟩:=bind_some h;refine R8 cf169 hE S3 (fun e l H1=>∃u1:Nat,True∧∃u2:(List Value×List V),Sb eBp2 eBp3 u2 s19.2∧e= .normal∧l=[(0,.v (.eref [sr eBo2 aG.prover.cU,vi aG.prover.count,.map id0] 0)),fi 2 aQ,(3,.v (sr eBo1 aD)),(4,.v (sr eBo1 aI)),(6,.v (.eref (E0 aA) 0)),fi 12 (Ar.len aD),(13,.v (.own q14.id q14.lo q14.n)),(14,.v (.own q13.id q13.lo q13.n)),fi 15 s7.1,fi 16 s12.1,(17,.v (.ref u1 0))]∧C8 Eq (upd H0 id0 none) [cb u1 (U4 s19.1),ob q13 1 V.bool s12.2.1,ob q14 1 eBp6 s12.2.2.1,.blk id0 (.vm u2.1 u2.2)] H1) (by kernel_rfl) ?_ ?_
      ·clear h;have h:=hx;clear hx;cbv;obtain⟨x140,ex140,h⟩:=bind_some h;obtain⟨l420,el420,h⟩:=bind_some h;obtain⟨l580,el580,h⟩:=bind_some h;obtain⟨r620,er620,h⟩:=bind_some h;obtain⟨r660,er660,h⟩:=bind_some h
       repeat' first|refine And.intro ?_ ?_|(refine F6 hE eBo7 (Bj ex140) fun x140 hh=>?_;obtain rfl:=M1 hh;cbv)|(refine Sz hE (f:=eBo1) Y1 (Bj el420) fun l420 t421 hh=>?_;obtain rfl:=M1 hh;cbv)|(refine Sz hE (f:=eBo1) Y1 (Bj el580) fun l580 t581 hh=>?_;obtain rfl:=M1 hh;cbv)|(refine B3 hE (g:=fun r620=>sr eBo1 r620) (Bj er620) (c140 N aI l580) (.cons (.refl _) (.cons (.ro _ _) (.refl _))) fun r620 hh=>?_;obtain rfl:=M1 hh;cbv)|(refine Fj (g:=fun r660=>(J9 r660)) hE hO hq15 2 rfl (Bj er660) (ih61 aG s12.2.2.2 x140 (Ar.ar .add .i64 aQ 1) l420 r620) (.cons (.refl _) (.cons (.refl _) (.cons (.refl _) (.cons (.ro _ _) (.refl _))))) fun r660 o661 H ho661 hO hh=>?_;obtain rfl:=M1 hh;cbv)|(refine F2 hE hO fun b700 H hO=>?_;cbv)|(refine D1 hE hO 0 rfl rfl fun H hO=>?_;cbv)|(have h:=M1 h;subst h;exact⟨_,⟨b700,trivial,o661,ho661,rfl,rfl,hO⟩,.e rfl (.e2 (.e4 (.e4 .z))),rfl⟩)|(refine Fj (g:=fun r660=>(J9 r660)) hE hO hq15 3 rfl (Bj er660) (ih61 aG s12.2.2.2 x140 (Ar.ar .add .i64 aQ 1) l420 r620) (.cons (.refl _) (.cons (.refl _) (.cons (.refl _) (.cons (.ro _ _) (.refl _))))) fun r660 o661 H ho661 hO hh=>?_;obtain rfl:=M1 hh;cbv)
      clear hx;rintro e l H ⟨b820,hb820,q821,hq821,rfl,rfl,hO⟩;cbv;refine C6 hE hO 0 rfl ?_;cbv;refine C7 hE h (fun _ h=>?_) fun _ h=>?_
      ·cbv;obtain⟨s822,hx,h⟩:=bind_some h;refine R8 cf169 hE S3 (fun e l H1=>∃u1:OG,Cd u1 (Ar.len s822.1)∧∃u2:OG,Cd u2 (Ar.len s822.2)∧e= .normal∧l=[(0,.v (.eref [sr eBo2 aG.prover.cU,vi aG.prover.count,.map id0] 0)),fi 2 aQ,(3,.v (sr eBo1 aD)),(4,.v (sr eBo1 aI)),(6,.v (.eref (E0 aA) 0)),fi 12 (Ar.len aD),(13,.v (.own u2.id u2.lo u2.n)),(14,.v (.own u1.id u1.lo u1.n)),fi 15 s7.1,fi 16 s12.1]∧C8 Eq (upd H0 id0 none) [cb b820 (U4 s19.1),ob u1 1 V.bool s822.1,ob u2 1 eBp6 s822.2,.blk id0 (.vm q821.1 q821.2)] H1) (by kernel_rfl) ?_ ?_
       ·clear h;have h:=hx;clear hx;cbv;obtain⟨u1182_0,eu1182_0,h⟩:=bind_some h;obtain⟨x1223,ex1223,h⟩:=bind_some h;obtain⟨l1264,el1264,h⟩:=bind_some h;obtain⟨u1302_0,eu1302_0,h⟩:=bind_some h;obtain⟨l1344,el1344,h⟩:=bind_some h;obtain⟨u1382_0,eu1382_0,h⟩:=bind_some h;obtain⟨l1424,el1424,h⟩:=bind_some h
        repeat' first|refine And.intro ?_ ?_|(refine C6 hE hO 0 rfl ?_;cbv)|(refine BK hE hO hq14 2 rfl (Bj eu1182_0) fun hh=>?_;clear hh;cbv)|(refine CT hE eBq2 hO hq14 2 rfl (Bj ex1223) fun x1223 hh=>?_;obtain rfl:=M1 hh;cbv)|(refine JX (f:=eBo3) hE V0 (by decide) (hO.tl0 (t:=.full) rfl) 0 rfl trivial (l:=[s19.1.d]) (m:=x1223) (.lstc (.eq (eBo4 s19.1.d) (.refl _)) (.lst0)) (.refl _) (Bj el1264) fun l1264 t1263 H hO ht1263 hh=>?_;obtain rfl:=M1 hh;cbv)|(refine BK hE hO hq14 3 rfl (Bj eu1302_0) fun hh=>?_;clear hh;cbv)|(refine Hb hE (f:=eBp6) (esz:=1) (tz:=1) (off:=0) (u:=(fun x1343:List A4=>l1264)) (fun _=>⟨_,.eq (eBq2 _) (.ro _ _),(by rw[eBq2];rfl),Se _,rfl⟩) (by decide) hO hq14 3 rfl (Bj el1344) fun l1344 H hq14 hh hO=>?_;obtain rfl:=M1 hh;cbv)|(refine BK hE hO hq13 2 rfl (Bj eu1382_0) fun hh=>?_;clear hh;cbv)|(refine Hb hE (f:=V.bool) (esz:=1) (tz:=1) (off:=0) (u:=(fun x1423:Bool=>true)) (fun _=>⟨.bool true,.refl _,rfl,rfl,rfl⟩) (by decide) hO hq13 2 rfl (Bj el1424) fun l1424 H hq13 hh hO=>?_;obtain rfl:=M1 hh;cbv)|(have h:=M1 h;subst h;exact⟨_,⟨q13,hq13,q14,hq14,rfl,rfl,hO.tail⟩,.e2 (.e4 (.e4 .z)),rfl⟩)
       clear hx;rintro e l H ⟨q1503,hq1503,q1504,hq1504,rfl,rfl,hO⟩;cbv;cases h;exact⟨_,⟨q1503,q1504,q821⟩,rfl,.e2 (.e4 (.e4 .z)),rfl,hq1503,hq1504,hq821,hO.tail⟩
      cbv;cases h;exact⟨_,⟨q13,q14,q821⟩,rfl,.e2 (.e4 (.e4 .z)),rfl,hq13,hq14,hq821,hO.tail⟩
     cbv;cases h;exact⟨_,_,rfl,⟨q13,hq13,q14,hq14,q15,hq15,rfl,rfl,hO⟩,.e rfl (.e4 (.e4 .z)),rfl⟩
    cbv;cases h;exact⟨_,_,rfl,⟨q13,hq13,q14,hq14,q15,hq15,rfl,rfl,hO⟩,.e rfl (.e4 (.e4 .z)),rfl⟩
   ·exact .e2 (.e4 (.e4 .z))
   ·exact⟨hq8,hq9,hq10,hO⟩
   clear hx;rintro e l H ⟨q1505,hq1505,q1506,hq1506,q1507,hq1507,rfl,rfl,hO⟩;cbv;cases h;exact⟨_,⟨q1505,q1506,q1507⟩,rfl,.e rfl (.e4 (.e4 .z)),rfl,hq1505,hq1506,hq1507,hO⟩
  cbv;cases h;exact⟨_,_,rfl,⟨q8,hq8,q9,hq9,q10,hq10,rfl,rfl,hO⟩,.e2 .z,rfl⟩
 ·exact .e rfl (.e4 (.e4 .z))
 ·exact⟨hq3,hq1,ho0,hO⟩
 clear hx;rintro e l H ⟨q1508,hq1508,q1509,hq1509,q1510,hq1510,rfl,rfl,hO⟩;cbv;refine BK hE hO hq1509 1 rfl h fun h=>?_;cbv;refine CT hE eBq2 hO hq1509 1 rfl h fun x1511 h=>?_;cbv;refine BK hE hO hq1508 0 rfl h fun h=>?_;cbv;refine CT hE (fun _=>rfl) hO hq1508 0 rfl h fun x1512 h=>?_;cbv;cases h;exact hK _ _ _ 2 _ hq1510 rfl hO (.refl _)
def k170 (N n:Nat) (ih61:K61 N n):Bj0 N (n+1):=by
 intro aG aR aA aQ aD aI r h
 unfold Bl at h
 refine Iy (T:=TT) cf170 S3 func170 (by rfl) (by kernel_rfl) call170 ntmps170 (by rfl) (fun _=>rfl) ?_;intro E H0 id0 o0 K hE ho0 hO hK;cbv;refine F2 hE hO fun b1 H hO=>?_;cbv;refine Bd1 hE (ds:=[vi 0,vi 0,vi 0,vi 0,sr eBo3 ([]),.bool false]) hO 0 rfl (.cons (.refl _) (.cons (.refl _) (.cons (.refl _) (.cons (.refl _) (.cons (.lit _ (F3)) (.refl _)))))) fun H hO=>?_;cbv;refine K9 hE ?_;cbv;obtain⟨s3,hx,h⟩:=bind_some h;refine I7 cf170 hE S3 (fun s2=>[(0,.v (.eref [sr eBo2 aG.prover.cU,vi aG.prover.count,.map id0] 0)),fi 2 s2.1,(3,.v (sr eBo1 aD)),(4,.v (sr eBo1 aI)),(10,.v (.ref b1 0)),(20,.v (sr eBo6 aA.cQ)),fi 21 (Ar.len aA.cQ),fi 22 s2.2]) (fun s2 H1=>C8 Eq (upd H0 id0 none) [cb b1 [vi 0,vi 0,vi 0,vi 0,sr eBo3 ([]),.bool false],.blk id0 (.vm o0.1 o0.2)] H1) (fun x e l H1=>match(generalizing:=false) x with| .inl y=>e= .exit 0∧l=[(10,.v (.ref b1 0))]∧C8 Eq (upd H0 id0 none) [cb b1 [vi 0,vi 0,vi 0,vi 0,sr eBo3 ([]),.bool false],.blk id0 (.vm o0.1 o0.2)] H1| .inr y=>∃u1:(List Value×List V),Sb eBp2 eBp3 u1 y.2∧e= .ret∧l=[(10,.v (.ref b1 0))]∧C8 Eq (upd H0 id0 none) [cb b1 (U4 y.1),.blk id0 (.vm u1.1 u1.2)] H1) (by kernel_rfl) ?_ hx ?_ hO ?_
 ·intro s2 H o hO h;clear hx;cbv;refine C7 hE h (fun _ h=>?_) fun _ h=>?_
  ·cbv;refine F6 hE eBo7 h fun x4 h=>?_;cbv;refine F2 hE hO fun b5 H hO=>?_;cbv;refine D1 hE hO 0 rfl rfl fun H hO=>?_;cbv;refine C6 hE hO 0 rfl ?_;cbv;refine B3 hE h (c224 N x4 aD) (.refl _) fun r6 h=>?_;cbv;refine K9 hE ?_;cbv;refine K9 hE ?_;cbv;refine C7 hE h (fun _ h=>?_) fun _ h=>?_
   ·cbv;refine C6 hE hO 0 rfl ?_;cbv;refine Fj (g:=fun r7=>(J9 r7)) hE hO ho0 2 rfl h (ih61 aG aR x4 s2.1 aD aI) (.refl _) fun r7 o8 H ho8 hO h=>?_;cbv;refine ME hE (vs':=[vi 0,vi 0,vi 0,vi s2.2,sr eBo3 ([r7.1.d]),.bool r7.1.ok]) hO 1 rfl rfl (.cons (.refl _) (.cons (.refl _) (.cons (.refl _) (.cons (.refl _) (.cons (.lit _ (H8 ((eBo4 r7.1.d).symm) (F3))) (.refl _)))))) fun H hO=>?_;cbv;cases h;exact⟨_,_,rfl,⟨o8,ho8,rfl,rfl,hO.tail⟩,.e rfl .z,rfl⟩
   cbv;refine C6 hE hO 0 rfl ?_;cbv;refine B3 hE h (c214 N N x4) (.refl _) fun r9 h=>?_;cbv;cases h;exact⟨_,rfl,.e4 (.e4 .z),rfl,hO.tail⟩
  cbv;cases h;exact⟨_,_,rfl,⟨rfl,rfl,hO⟩,.e rfl .z,rfl⟩
 ·exact .e4 (.e4 .z)
 clear hx
 rcases s3 with y10|y11
 ·rintro e l H ⟨rfl,rfl,hO⟩;cbv;refine ME hE (vs':=[vi 0,vi 0,vi 0,vi 0,sr eBo3 ([]),.bool false]) hO 0 rfl rfl (.cons (.refl _) (.cons (.refl _) (.cons (.refl _) (.cons (.refl _) (.cons (.lit _ (F3)) (.refl _)))))) fun H hO=>?_;cbv;refine C6 hE hO 0 rfl ?_;cbv;cases h;exact hK _ _ _ 1 _ ho0 rfl hO (.refl _)
 rintro e l H ⟨q12,hq12,rfl,rfl,hO⟩;cbv;refine C6 hE hO 0 rfl ?_;cbv;cases h;exact hK _ _ _ 1 _ hq12 rfl hO (.refl _)
def k171 (N n:Nat) (ih61:K61 N n):Bi9 N (n+1):=by
 intro aG aR aA aQ aD aI r h
 unfold Ad at h
 refine Iy (T:=TT) cf171 S3 func171 (by rfl) (by kernel_rfl) call171 ntmps171 (by rfl) (fun _=>rfl) ?_;intro E H0 id0 o0 K hE ho0 hO hK;cbv;refine F2 hE hO fun b1 H hO=>?_;cbv;refine K9 hE ?_;cbv;replace hO:=hO.tl0 (t:=.nil) rfl;obtain⟨s5,hx,h⟩:=bind_some h;refine Bd cf171 hE S3 (γ:=K1×(List Value×List V)) (fun s2 g=>[(0,.v (.eref [sr eBo2 aG.prover.cU,vi aG.prover.count,.map id0] 0)),fi 2 s2.1,(3,.v (sr eBo1 aD)),(4,.v (sr eBo1 s2.2.1)),(6,.v (.eref (E0 aA) 0)),(10,.v (.ref b1 0)),(11,.v (.sl (lst eBo3 s2.2.2.1) g.1)),fi 12 s2.2.2.2.1,fi 13 s2.2.2.2.2.1,(23,.v (sr eBo6 aA.cQ)),fi 24 (Ar.len aA.cQ),fi 25 s2.2.2.2.2.2.1]) (fun s2 g H1=>FI g.1∧Sb eBp2 eBp3 g.2 s2.2.2.2.2.2.2∧C8 Eq (upd H0 id0 none) [.tl g.1,cb b1 [vi 0,vi 0,vi 0,vi 0,.sl [] .nil,.bool false],.blk id0 (.vm g.2.1 g.2.2)] H1) (fun x e l H1=>∃u1:K1,FI u1∧∃u2:(List Value×List V),Sb eBp2 eBp3 u2 x.2.2∧e= .exit 0∧l=[(3,.v (sr eBo1 aD)),(10,.v (.ref b1 0)),(11,.v (.sl (lst eBo3 x.1) u1)),fi 12 x.2.1]∧C8 Eq (upd H0 id0 none) [.tl u1,cb b1 [vi 0,vi 0,vi 0,vi 0,.sl [] .nil,.bool false],.blk id0 (.vm u2.1 u2.2)] H1) (by kernel_rfl) ?_ (⟨.nil,o0⟩) hx ?_ ?_ ?_
 ·rintro s2 ⟨t3,q4⟩ H o ⟨ht3,hq4,hO⟩ h;clear hx;cbv;refine C7 hE h (fun _ h=>?_) fun _ h=>?_
  ·cbv;refine F6 hE eBo7 h fun x6 h=>?_;cbv;refine B3 hE h (c224 N x6 aD) (.refl _) fun r7 h=>?_;cbv;refine K9 hE ?_;cbv;refine C7 hE h (fun _ h=>?_) fun _ h=>?_
   ·cbv;cases h
   cbv;refine C7 hE h (fun _ h=>?_) fun _ h=>?_
   ·cbv;refine F6 hE eBp0 h fun x8 h=>?_;cbv;refine C7 hE h (fun _ h=>?_) fun _ h=>?_
    ·cbv;cases h
    cbv;refine Fj (g:=fun r9=>(J9 r9)) hE hO hq4 2 rfl h (ih61 aG s2.2.2.2.2.2.2 x6 s2.1 r7 s2.2.1) (.refl _) fun r9 o10 H ho10 hO h=>?_;cbv;refine C7 hE h (fun _ h=>?_) fun _ h=>?_
    ·cbv;cases h
    cbv;obtain⟨s11,hx,h⟩:=bind_some h;refine R8 cf171 hE S3 (fun e l H1=>e= .normal∧l=[(0,.v (.eref [sr eBo2 aG.prover.cU,vi aG.prover.count,.map id0] 0)),fi 2 s2.1,(3,.v (sr eBo1 aD)),(4,.v (sr eBo1 s11.1)),(6,.v (.eref (E0 aA) 0)),(10,.v (.ref b1 0)),(11,.v (.sl (lst eBo3 s2.2.2.1) t3)),fi 12 s2.2.2.2.1,fi 13 s11.2,(15,.v (.eref (E0 x6) 0)),(16,.v (sr eBo1 r7)),(17,.v (.eref (U4 r9.1) 0)),(23,.v (sr eBo6 aA.cQ)),fi 24 (Ar.len aA.cQ),fi 25 s2.2.2.2.2.2.1]∧C8 Eq (upd H0 id0 none) [.tl t3,cb b1 [vi 0,vi 0,vi 0,vi 0,.sl [] .nil,.bool false],.blk id0 (.vm o10.1 o10.2)] H1) (by kernel_rfl) ?_ ?_
    ·clear h;have h:=hx;clear hx;cbv;refine C7 hE h (fun _ h=>?_) fun _ h=>?_
     ·cbv;refine B3 hE h (c140 N s2.2.1 r7) (.refl _) fun r12 h=>?_;cbv;refine B3 hE h (c142 N r7) (.refl _) fun r13 h=>?_;cbv;cases h;exact⟨_,⟨rfl,rfl,hO⟩,.e rfl (.e2 (.e4 (.e4 (.e4 .z)))),rfl⟩
     cbv;cases h;exact⟨_,⟨rfl,rfl,hO⟩,.e rfl (.e2 (.e4 (.e4 (.e4 .z)))),rfl⟩
    clear hx;rintro e l H ⟨rfl,rfl,hO⟩;cbv;refine B3 hE h (c214 N N x6) (.refl _) fun r14 h=>?_;cbv;refine JX (f:=eBo3) hE V0 (by decide) hO 0 rfl ht3 (l:=s2.2.2.1) (m:=[r9.1.d]) (.refl _) (.lstc (.eq (eBo4 r9.1.d) (.refl _)) (.lst0)) h fun l16 t15 H hO ht15 h=>?_;cbv;refine K9 hE ?_;cbv;cases h;exact⟨_,⟨t15,o10⟩,rfl,.e4 (.e4 (.e4 .z)),rfl,ht15,ho10,hO⟩
   cbv;refine Fj (g:=fun r17=>(J9 r17)) hE hO hq4 2 rfl h (ih61 aG s2.2.2.2.2.2.2 x6 s2.1 r7 s2.2.1) (.refl _) fun r17 o18 H ho18 hO h=>?_;cbv;refine C7 hE h (fun _ h=>?_) fun _ h=>?_
   ·cbv;cases h
   cbv;obtain⟨s19,hx,h⟩:=bind_some h;refine R8 cf171 hE S3 (fun e l H1=>e= .normal∧l=[(0,.v (.eref [sr eBo2 aG.prover.cU,vi aG.prover.count,.map id0] 0)),fi 2 s2.1,(3,.v (sr eBo1 aD)),(4,.v (sr eBo1 s19.1)),(6,.v (.eref (E0 aA) 0)),(10,.v (.ref b1 0)),(11,.v (.sl (lst eBo3 s2.2.2.1) t3)),fi 12 s2.2.2.2.1,fi 13 s19.2,(15,.v (.eref (E0 x6) 0)),(16,.v (sr eBo1 r7)),(17,.v (.eref (U4 r17.1) 0)),(23,.v (sr eBo6 aA.cQ)),fi 24 (Ar.len aA.cQ),fi 25 s2.2.2.2.2.2.1]∧C8 Eq (upd H0 id0 none) [.tl t3,cb b1 [vi 0,vi 0,vi 0,vi 0,.sl [] .nil,.bool false],.blk id0 (.vm o18.1 o18.2)] H1) (by kernel_rfl) ?_ ?_
   ·clear h;have h:=hx;clear hx;cbv;refine C7 hE h (fun _ h=>?_) fun _ h=>?_
    ·cbv;refine B3 hE h (c140 N s2.2.1 r7) (.refl _) fun r20 h=>?_;cbv;refine B3 hE h (c142 N r7) (.refl _) fun r21 h=>?_;cbv;cases h;exact⟨_,⟨rfl,rfl,hO⟩,.e rfl (.e2 (.e4 (.e4 (.e4 .z)))),rfl⟩
    cbv;cases h;exact⟨_,⟨rfl,rfl,hO⟩,.e rfl (.e2 (.e4 (.e4 (.e4 .z)))),rfl⟩
   clear hx;rintro e l H ⟨rfl,rfl,hO⟩;cbv;refine B3 hE h (c214 N N x6) (.refl _) fun r22 h=>?_;cbv;refine JX (f:=eBo3) hE V0 (by decide) hO 0 rfl ht3 (l:=s2.2.2.1) (m:=[r17.1.d]) (.refl _) (.lstc (.eq (eBo4 r17.1.d) (.refl _)) (.lst0)) h fun l24 t23 H hO ht23 h=>?_;cbv;refine K9 hE ?_;cbv;cases h;exact⟨_,⟨t23,o18⟩,rfl,.e4 (.e4 (.e4 .z)),rfl,ht23,ho18,hO⟩
  cbv;cases h;exact⟨_,_,rfl,⟨t3,ht3,q4,hq4,rfl,rfl,hO⟩,.e4 .z,rfl⟩
 ·exact .e2 (.e4 (.v (.slt _ (.lst0)) (.e rfl (.e rfl (.e rfl (.e rfl (.e rfl (.z))))))))
 ·exact⟨trivial,ho0,hO⟩
 clear hx;rintro e l H ⟨t25,ht25,q26,hq26,rfl,rfl,hO⟩;cbv;refine K9 hE ?_;cbv;refine D1 hE hO 1 rfl rfl fun H hO=>?_;cbv;refine C6 hE hO 1 rfl ?_;cbv;cases h;exact hK _ _ _ 2 _ hq26 rfl hO (.agg (.cons (.refl _) (.cons (.refl _) (.cons (.refl _) (.cons (.refl _) (.cons (.ro _ _) (.refl _)))))))
def NM (N:Nat):∀n,K61 N n∧Bj2 N n∧Bj1 N n∧Bj0 N n∧Bi9 N n:=by
 intro n
 induction n with
 |zero=>exact⟨(by intro aG aR aA aQ aD aI r h;unfold L4 at h;cases h),(by intro aG aR aA aQ aD aI r h;unfold Ao at h;cases h),(by intro aG aR aA aQ aD aI r h;unfold U7 at h;cases h),(by intro aG aR aA aQ aD aI r h;unfold Bl at h;cases h),(by intro aG aR aA aQ aD aI r h;unfold Ad at h;cases h)⟩
 |succ n ih=>
  obtain⟨ih61,ih129,ih169,ih170,ih171⟩:=ih;exact⟨k61 N n ih129,k129 N n ih61 ih169 ih170 ih171,k169 N n ih61,k170 N n ih61,k171 N n ih61⟩
def c61 (N n aG aR aA aQ aD aI r)(h:L4 N n aG aR aA aQ aD aI=some r):Na prog 61 (fun id=>[.eref [sr eBo2 aG.prover.cU,vi aG.prover.count,.map id] 0,(D5 aA),vi aQ,sr eBo1 aD,sr eBo1 aI]) eBp2 eBp3 aR ((J9 r.1)) r.2:=(NM N n).1 aG aR aA aQ aD aI r h
def cf16:Cf:=⟨[6],[],[],[],[],[]⟩
def c16 (N aA aD bG r) (h:KB N aA aD bG=some r):C2 prog 16 [(D5 aA),sr eBo2 aD,(KJ bG)] (.tup [(G2 r.1),vi r.2]):=by
 refine Q9 cf16 func16 call16 ntmps16 ?_;intro E H0 K hE hK hO
 repeat' (cbv;first|apply C7 hE h<;>intro _ h|apply K9 hE|refine B3 hE h (c55 _ _) .z fun _ h=>?_|refine B3 hE h (c56 _ _) .z fun _ h=>?_|refine B3 hE h (c59 _ _) .z fun _ h=>?_|refine F2 hE hO fun b1 H hO=>?_|(cases h;done))
 cbv;replace hO:=hO.tl0 (t:=.nil) rfl;obtain⟨s7,hx,h⟩:=bind_some h;refine Bd cf16 hE S3 (γ:=K1) (fun s5 g=>[(1,.v (sr eBo2 aD)),(3,.v (.eref (E0 aA) 0)),(6,.v (.ref b1 0)),(11,.v (.sl (lst eBo1 s5.1) g)),(43,.v (sr eBo5 bG.cT)),fi 44 (Ar.len bG.cT),fi 45 s5.2]) (fun s5 g H1=>FI g∧C8 Eq H0 [.tl g,cb b1 [vi 0,vi 0,vi 0,vi 0,.sl [] .nil]] H1) (fun x e l H1=>∃u1:K1,FI u1∧e= .exit 0∧l=[(1,.v (sr eBo2 aD)),(3,.v (.eref (E0 aA) 0)),(6,.v (.ref b1 0)),(11,.v (.sl (lst eBo1 x) u1))]∧C8 Eq H0 [.tl u1,cb b1 [vi 0,vi 0,vi 0,vi 0,.sl [] .nil]] H1) (by kernel_rfl) ?_ .nil hx ?_ ?_ ?_
 ·rintro s5 t6 H o ⟨ht6,hO⟩ h
  repeat' (cbv;first|apply C7 hE h<;>intro _ h|refine B3 hE h (c60 _ _ _) .z fun r9 h=>?_|refine F6 hE eBp1 h fun x8 h=>?_|(cases h;done)|(cases h;exact⟨_,t10,rfl,.e rfl (.e2 (.e4 .z)),rfl,ht10,hO⟩)|(cases h;exact⟨_,_,rfl,⟨t6,ht6,rfl,rfl,hO⟩,.e4 .z,rfl⟩)|refine JX (f:=eBo1) hE Y1 (by decide) hO 0 rfl ht6 (l:=s5.1) (m:=[(⟨x8.Var,r9.1⟩:A6)]) .z (.lstc (.eq (eBp0 (⟨x8.Var,r9.1⟩:A6)) .z) (.lst0)) h fun _ t10 H hO ht10 h=>?_)
 ·exact .e rfl (.e2 (.v (.slt _ (.lst0)) (.e rfl (.e rfl (.e rfl (.z))))))
 ·exact⟨trivial,hO⟩
 clear hx;rintro e l H ⟨t12,ht12,rfl,rfl,hO⟩;cbv;refine Bl2 hE eBp2 eBp3 hO fun m13 o14 H ho14 hO=>?_;cbv;refine Fj (g:=fun r15=>(J9 r15)) hE hO ho14 0 rfl h (c61 N N (⟨(⟨aD,0⟩:E6)⟩:L3) ([]:List (C5×B2)) aA 0 s7 ([])) (.r (.r (.r (.cons (.ro _ _) (.cons (.lit _ (F3)) .z))))) fun r15 o16 H ho16 hO h=>?_;cbv;apply C7 hE h<;>intro _ h
 ·cbv;cases h
 cbv;refine D1 hE hO 2 rfl rfl fun H hO=>?_;cbv;apply C6 hE hO 2 rfl;cbv;cases h;exact hK hO .z
def c227 (N aG aS r)(h:Iz N aG aS=some r):C2 prog 227 [.int .u64 aG,.int .u64 aS] (.tup [.int .u64 r.1,.int .u64 r.2]):=by
 refine Q9 cf0 func227 call227 ntmps227 ?_;intro E H0 K hE hK hO
 repeat' (cbv;first|(cases h;exact hK hO .z)|apply Aq5 hE (Ac0 hE rfl))
def c176 (N aG aS r)(h:Qm N aG aS=some r):C2 prog 176 [.int .u64 aG,.int .u64 aS] (.tup [.int .u64 r.1,.int .u64 r.2]):=by
 refine Q9 cf0 func176 call176 ntmps176 ?_;intro E H0 K hE hK hO;cbv;refine B3 hE h (c227 N aG aS) .z fun r1 h=>?_;cbv;cases h;exact hK hO .z
def cf137:Cf:=⟨[],[(3000009,0),(3000009,1),(3000009,2),(3000009,4),(3000009,5),(3000009,8),(3000009,9)],[(10,3),(26,6)],[2000009],[],[]⟩
set_option maxHeartbeats 2000000 in
def c137 (N aG cA r) (h:T6 N aG cA=some r):C2 prog 137 [sr eBo6 aG,vi cA] (sr eBo6 r):=by
 refine FE (T:=TT) cf137 S3 func137 (by rfl) (by kernel_rfl) call137 ntmps137 (by rfl) (by rfl) ?_;intro E H0 K hE hK hF;have hO:C8 Eq H0 [] H0:=.start M2 rfl;cbv;obtain⟨s1,hx,h⟩:=bind_some h;refine R8 cf137 hE S3 (fun e l H1=>e= .normal∧l=[(0,.v (sr eBo6 aG)),fi 1 cA]∧C8 Eq H0 [] H1) (by kernel_rfl) ?_ ?_
 ·clear h;have h:=hx;cbv;apply C7 hE h<;>intro _ h
  ·cbv;cases h
  cbv;cases h;exact⟨_,⟨rfl,rfl,hO⟩,.e2 .z,rfl⟩
 clear hx;rintro e l H ⟨rfl,rfl,hO⟩
 repeat' (cbv;first|apply K9 hE|refine B3 hE h (c176 _ _ _) .z fun r2 h=>?_)
 cbv;obtain⟨s3,hx,h⟩:=bind_some h;refine R8 cf137 hE S3 (fun e l H1=>e= .normal∧l=[(0,.v (sr eBo6 aG)),(6,.v (.int .u64 r2.2))]∧C8 Eq H0 [] H1) (by kernel_rfl) ?_ ?_
 ·clear h;have h:=hx;cbv;apply C7 hE h<;>intro _ h
  ·cbv;cases h
  cbv;cases h;exact⟨_,⟨rfl,rfl,hO⟩,.e2 .z,rfl⟩
 clear hx;rintro e l H ⟨rfl,rfl,hO⟩;cbv;refine Aq3 hE (f:=eBo6) (by decide) (z0:=((⟨0,[],0,0,0,0,(⟨0,[],0,0,0,(⟨0,0,⟨#[]⟩⟩:A9)⟩:B5)⟩:A2):A2)) ((.eq (eBo7 _) (.agg (.r (.cons (.lit _ (F3)) (.r (.r (.r (.r (.r (.cons (.lit _ (F3)) .z))))))))))) hO h fun l5 q4 H hq4 h hO=>?_;cbv;refine AV9 (f:=eBo6) hE hO hq4 0 rfl (m:=aG) (Ow (f:=eBo6) hE Mo .z) h fun p6 H hq4 hO h=>?_;cbv;obtain⟨s9,hx,h⟩:=bind_some h;refine Bd cf137 hE S3 (γ:=OG) (fun s7 g=>[(7,.v (.own g.id g.lo g.n)),fi 8 s7.1]) (fun s7 g H1=>Cd g (Ar.len s7.2)∧C8 Eq H0 [ob g 14 eBo6 s7.2] H1) (fun x e l H1=>∃u1:OG,Cd u1 (Ar.len x)∧e= .exit 0∧l=[(7,.v (.own u1.id u1.lo u1.n))]∧C8 Eq H0 [ob u1 14 eBo6 x] H1) (by kernel_rfl) ?_ q4 hx ?_ ?_ ?_
 ·rintro s7 q8 H o ⟨hq8,hO⟩ h;cbv;apply TM hE hq8;cbv;apply C7 hE h<;>intro _ h
  ·cbv;obtain⟨s10,hx,h⟩:=bind_some h;refine R8 cf137 hE S3 (fun e l H1=>∃u1:OG,Cd u1 (Ar.len s10.2)∧e= .normal∧l=[(7,.v (.own u1.id u1.lo u1.n)),fi 8 s10.1]∧C8 Eq H0 [ob u1 14 eBo6 s10.2] H1) (by kernel_rfl) ?_ ?_
   ·clear h;have h:=hx;cbv;obtain⟨l132,el132,h⟩:=bind_some h;obtain⟨l252,el252,h⟩:=bind_some h;obtain⟨p291,ep291,h⟩:=bind_some h
    repeat' first|refine And.intro ?_ ?_|(refine Az3 hE hO hq8 0 rfl (Bj el132) fun l132 q131 hq131 hh=>?_;obtain rfl:=M1 hh;cbv)|(refine Az2 hE hO hq8 0 rfl (Bj el252) fun l252 q251 hq251 hh=>?_;obtain rfl:=M1 hh;cbv)|(refine Zx (f:=eBo6) hE hO hq8 0 rfl hq131 (m:=l252) (hq251) (Bj ep291) fun p291 H hq8 hO hh=>?_;obtain rfl:=M1 hh;cbv)|(have h:=M1 h;subst h;exact⟨_,⟨q8,hq8,rfl,rfl,hO⟩,.e2 .z,rfl⟩)
   clear hx;rintro e l H ⟨q451,hq451,rfl,rfl,hO⟩;cbv;cases h;exact⟨_,q451,rfl,.e2 .z,rfl,hq451,hO⟩
  cbv;cases h;exact⟨_,_,rfl,⟨q8,hq8,rfl,rfl,hO⟩,.e rfl .z,rfl⟩
 ·exact .e2 .z
 ·exact⟨hq4,hO⟩
 clear hx;rintro e l H ⟨q452,hq452,rfl,rfl,hO⟩;cbv;cases h;exact hF q452 _ _ 0 _ _ hO rfl (Fi hE hq452) .z
def cf82:Cf:=⟨[7],[(18,5)],[],[0],[],[]⟩
def c82 (N:Nat):∀n aA aJ r,Z4 N n aA aJ=some r→C2 prog 82 [(D5 aA),(G2 aJ)] (vi r):=by
 intro n
 induction n with
 |zero=>intro aA aJ r h;cases h
 |succ n ih=>
 intro aA aJ r h
 unfold Z4 at h
 refine Q9 cf82 func82 call82 ntmps82 ?_;intro E H0 K hE hK hO;cbv;refine C7 hE h (fun _ h=>?_) fun _ h=>?_
 ·cbv;cases h;exact hK hO (.refl _)
 cbv;obtain⟨s1,hx,h⟩:=bind_some h;refine R8 cf82 hE S3 (fun e l H1=>match(generalizing:=false) s1 with| .inl y=>e= .normal∧l=[(3,.v (.eref (Ae aJ) 0)),(5,.v (sr eBo6 y))]∧C8 Eq H0 [] H1| .inr y=>e= .ret∧l=[fi 4 y]∧C8 Eq H0 [] H1) (by kernel_rfl) ?_ ?_
 ·clear h;have h:=hx;clear hx;cbv;refine C7 hE h (fun _ h=>?_) fun _ h=>?_
  ·cbv;refine K9 hE ?_;cbv;refine C7 hE h (fun _ h=>?_) fun _ h=>?_
   ·cbv;cases h;exact⟨_,⟨rfl,rfl,hO⟩,.e rfl .z,rfl⟩
   cbv;refine Sz hE (f:=eBo6) Mo h fun l2 t3 h=>?_;cbv;cases h;exact⟨_,⟨rfl,rfl,hO⟩,.e rfl (.v (.ro _ _) (.z)),rfl⟩
  cbv;refine C7 hE h (fun _ h=>?_) fun _ h=>?_
  ·cbv;refine K9 hE ?_;cbv;refine C7 hE h (fun _ h=>?_) fun _ h=>?_
   ·cbv;cases h;exact⟨_,⟨rfl,rfl,hO⟩,.e rfl .z,rfl⟩
   cbv;refine K9 hE ?_;cbv;refine B3 hE h (c137 N aA.cQ (Ar.len aJ.Kids)) (.refl _) fun r4 h=>?_;cbv;cases h;exact⟨_,⟨rfl,rfl,hO⟩,.e2 .z,rfl⟩
  cbv;cases h;exact⟨_,⟨rfl,rfl,hO⟩,.e2 .z,rfl⟩
 clear hx
 rcases s1 with y5|y14
 ·rintro e l H ⟨rfl,rfl,hO⟩;cbv;refine K9 hE ?_;cbv;refine K9 hE ?_;cbv;refine C7 hE h (fun _ h=>?_) fun _ h=>?_
  ·cbv;cases h;exact hK hO (.refl _)
  cbv;refine K9 hE ?_;cbv;obtain⟨s7,hx,h⟩:=bind_some h;refine I7 cf82 hE S3 (fun s6=>[(5,.v (sr eBo6 y5)),(69,.v (sr eBo3 aJ.Kids)),fi 70 (Ar.len aJ.Kids),fi 71 s6]) (fun s6 H1=>C8 Eq H0 [] H1) (fun x e l H1=>match(generalizing:=false) x with| .inl y=>e= .exit 1∧l=[]∧C8 Eq H0 [] H1| .inr y=>e= .ret∧l=[fi 4 y]∧C8 Eq H0 [] H1) (by kernel_rfl) ?_ hx ?_ hO ?_
  ·intro s6 H o hO h;clear hx;cbv;refine C7 hE h (fun _ h=>?_) fun _ h=>?_
   ·cbv;refine F6 hE eBo4 h fun x8 h=>?_;cbv;refine F2 hE hO fun b9 H hO=>?_;cbv;refine D1 hE hO 0 rfl rfl fun H hO=>?_;cbv;refine F6 hE eBo7 h fun x10 h=>?_;cbv;refine C6 hE hO 0 rfl ?_;cbv;refine B3 hE h (ih x10 x8) (.refl _) fun r11 h=>?_;cbv;refine C7 hE h (fun _ h=>?_) fun _ h=>?_
    ·cbv;cases h;exact⟨_,_,rfl,⟨rfl,rfl,hO.tail⟩,.e rfl .z,rfl⟩
    cbv;cases h;exact⟨_,rfl,.e4 .z,rfl,hO.tail⟩
   cbv;cases h;exact⟨_,_,rfl,⟨rfl,rfl,hO⟩,.z,rfl⟩
  ·exact .e4 .z
  clear hx
  rcases s7 with y12|y13
  ·rintro e l H ⟨rfl,rfl,hO⟩;cbv;cases h;exact hK hO (.refl _)
  rintro e l H ⟨rfl,rfl,hO⟩;cbv;cases h;exact hK hO (.refl _)
 rintro e l H ⟨rfl,rfl,hO⟩;cbv;cases h;exact hK hO (.refl _)
def c26 (N aA aJ r)(h:Cb N aA aJ=some r):C2 prog 26 [(D5 aA),(G2 aJ)] (vi r):=by
 refine Q9 cf0 func26 call26 ntmps26 ?_;intro E H0 K hE hK hO
 repeat' (cbv;first|apply C7 hE h<;>intro _ h|refine B3 hE h (c55 _ _) .z fun _ h=>?_|refine B3 hE h (c29 _ _ _) .z fun _ h=>?_|refine B3 hE h (c82 _ _ _ _) .z fun _ h=>?_|(cases h;exact hK hO .z))
def cf62:Cf:=⟨[7],[(5,10),(10,12)],[],[],[],[]⟩
def c62 (N:Nat):∀n aA aJ r,N6 N n aA aJ=some r→C2 prog 62 [(D5 aA),(G2 aJ)] (sr eBo5 r):=by
 intro n
 induction n with
 |zero=>intro aA aJ r h;cases h
 |succ n ih=>
 intro aA aJ r h
 unfold N6 at h
 refine Q9 cf62 func62 call62 ntmps62 ?_;intro E H0 K hE hK hO;cbv;refine C7 hE h (fun _ h=>?_) fun _ h=>?_
 ·cbv;cases h;exact hK hO (.lit _ (H8 ((eBp1 (⟨aA.Var,aJ.Ref⟩:C1)).symm) (F3)))
 cbv;refine C7 hE h (fun _ h=>?_) fun _ h=>?_
 ·cbv;refine F6 hE eBo7 h fun x1 h=>?_;cbv;refine F6 hE eBo4 h fun x2 h=>?_;cbv;refine B3 hE h (ih x1 x2) (.refl _) fun r3 h=>?_;cbv;cases h;exact hK hO (.refl _)
 cbv;refine K9 hE ?_;cbv;replace hO:=hO.tl0 (t:=.nil) rfl;obtain⟨s6,hx,h⟩:=bind_some h;refine Bd cf62 hE S3 (γ:=K1) (fun s4 g=>[(2,.v (.eref (E0 aA) 0)),(5,.v (.sl (lst eBo5 s4.1) g)),(32,.v (sr eBo3 aJ.Kids)),fi 33 (Ar.len aJ.Kids),fi 34 s4.2]) (fun s4 g H1=>FI g∧C8 Eq H0 [.tl g] H1) (fun x e l H1=>∃u1:K1,FI u1∧e= .exit 1∧l=[(5,.v (.sl (lst eBo5 x) u1))]∧C8 Eq H0 [.tl u1] H1) (by kernel_rfl) ?_ .nil hx ?_ ?_ ?_
 ·rintro s4 t5 H o ⟨ht5,hO⟩ h;clear hx;cbv;refine C7 hE h (fun _ h=>?_) fun _ h=>?_
  ·cbv;refine F6 hE eBo4 h fun x7 h=>?_;cbv;refine F2 hE hO fun b8 H hO=>?_;cbv;refine D1 hE hO 0 rfl rfl fun H hO=>?_;cbv;refine K9 hE ?_;cbv;refine PS hE h fun h=>?_;cbv;refine F6 hE eBo7 h fun x9 h=>?_;cbv;refine C6 hE hO 0 rfl ?_;cbv;refine E9 hE (g:=fun r10=>sr eBo5 r10) h (ih x9 x7) (.refl _) fun r10 h=>?_;cbv;refine JX (f:=eBo5) hE GT (by decide) hO 1 rfl ht5 (l:=s4.1) (m:=r10) (.refl _) (.refl _) h fun l12 t11 H hO ht11 h=>?_;cbv;cases h;exact⟨_,t11,rfl,.e rfl (.e4 .z),rfl,ht11,hO.tail⟩
  cbv;cases h;exact⟨_,_,rfl,⟨t5,ht5,rfl,rfl,hO⟩,.e rfl .z,rfl⟩
 ·exact .e rfl (.v (.slt _ (.lst0)) (.e rfl (.e rfl (.e rfl (.z)))))
 ·exact⟨trivial,hO⟩
 clear hx;rintro e l H ⟨t13,ht13,rfl,rfl,hO⟩;cbv;cases h;exact hK hO (.ro _ _)
end Go.Ab
