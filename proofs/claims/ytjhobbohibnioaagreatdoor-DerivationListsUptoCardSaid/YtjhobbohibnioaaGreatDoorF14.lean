/- . -/
import Derived.Test.YtjhobbohibnioaaGreatDoorF13
set_option linter.all false
open Go.Ab.Ar (cmp lst)
namespace Go.Ab
open Go.RowKit Go.Proofs Go.Proofs.Tryz O6
variable [Ar][O6]
set_option maxRecDepth 100000
theorem c75 (N aA r) (h:MU N aA=some r):B9 prog 75 [(C8 aA)] (.bool r):=by
 refine O0 cf0 func75 call75 ntmps75 ?_;intro E H0 K hE hK hO
 repeat' (cbv;first|apply C4 hE h<;>intro _ h|refine B0 hE h (c132 _ _ _ _) .z fun _ h=>?_|refine B0 hE h (c133 _ _ _) .z fun _ h=>?_|refine B0 hE h (c100 _ _ _) .z fun r3 h=>?_|(cases h;exact hK hO .z))
 cbv;obtain⟨s5,hx,h⟩:=bind_some h;refine H9 cf0 hE O7 (fun s4=>[(3,.v (sr eBh0 r3)),fi 4 s4]) (fun s4 H1=>C5 Eq H0 [] H1) (fun x e l H1=>match(generalizing:=false) x with| .inl y=>e= .exit 0∧l=[]∧C5 Eq H0 [] H1| .inr y=>e= .ret∧l=[(2,.b false)]∧C5 Eq H0 [] H1) (by kernel_rfl) ?_ hx ?_ hO ?_
 ·intro s4 H o hO h
  repeat' (cbv;first|apply C4 hE h<;>intro _ h|apply I8 hE|refine B0 hE h (c134 _ _) .z fun _ h=>?_|refine D9 hE eBh2 h fun _ h=>?_|(cases h;exact⟨_,_,rfl,⟨rfl,rfl,hO⟩,.b rfl (.z),rfl⟩)|(cases h;exact⟨_,rfl,.e2 .z,rfl,hO⟩)|(cases h;exact⟨_,_,rfl,⟨rfl,rfl,hO⟩,.z,rfl⟩))
 ·exact .e2 .z
 clear hx
 rcases s5 with y8|y9
 ·rintro e l H ⟨rfl,rfl,hO⟩;cbv;cases h;exact hK hO .z
 rintro e l H ⟨rfl,rfl,hO⟩;cbv;cases h;exact hK hO .z
def cf91:=cfC [] [] [(7,4)]
theorem c91 (N:Nat):∀n aA r,Ap N n aA=some r→B9 prog 91 [(C8 aA)] (vi r):=by
 intro n
 induction n with
 |zero=>intro aA r h;cases h
 |succ n ih=>
 intro aA r h
 unfold Ap at h
 refine O0 cf91 func91 call91 ntmps91 ?_;intro E H0 K hE hK hO;cbv;obtain⟨s1,hx,h⟩:=bind_some h;refine N2 cf91 hE O7 (fun e l H1=>e= .normal∧l=[(1,.v (.eref (D2 aA) 0)),fi 3 s1]∧C5 Eq H0 [] H1) (by kernel_rfl) ?_ ?_
 ·clear h;have h:=hx;cbv;apply C4 hE h<;>intro _ h
  ·cbv;cases h;exact⟨_,⟨rfl,rfl,hO⟩,.e2 .z,rfl⟩
  cbv;cases h;exact⟨_,⟨rfl,rfl,hO⟩,.e2 .z,rfl⟩
 clear hx;rintro e l H ⟨rfl,rfl,hO⟩;cbv;obtain⟨s3,hx,h⟩:=bind_some h;refine H9 cf91 hE O7 (fun s2=>[(1,.v (.eref (D2 aA) 0)),fi 3 s2.1,fi 4 s2.2]) (fun s2 H1=>C5 Eq H0 [] H1) (fun x e l H1=>e= .exit 0∧l=[fi 3 x]∧C5 Eq H0 [] H1) (by kernel_rfl) ?_ hx ?_ hO ?_
 ·intro s2 H o hO h;cbv;apply I8 hE;cbv;apply C4 hE h<;>intro _ h
  ·cbv;refine D9 hE eBh2 h fun x4 h=>?_;cbv;refine B0 hE h (ih x4) .z fun r5 h=>?_;cbv;cases h;exact⟨_,rfl,.e rfl (.e2 .z),rfl,hO⟩
  cbv;cases h;exact⟨_,_,rfl,⟨rfl,rfl,hO⟩,.e rfl .z,rfl⟩
 ·exact .e rfl (.e2 .z)
 clear hx;rintro e l H ⟨rfl,rfl,hO⟩;cbv;cases h;exact hK hO .z
theorem c92 (N cB aO bF r) (h:GB N cB aO bF=some r):B9 prog 92 [vi cB,vi aO,vi bF] (vi r):=by
 refine O0 cf0 func92 call92 ntmps92 ?_;intro E H0 K hE hK hO;cbv;obtain⟨s2,hx,h⟩:=bind_some h;refine H9 cf0 hE O7 (fun s1=>[fi 0 cB,fi 1 aO,fi 2 bF,fi 7 s1.1,fi 8 s1.2]) (fun s1 H1=>C5 Eq H0 [] H1) (fun x e l H1=>e= .exit 0∧l=[fi 7 x]∧C5 Eq H0 [] H1) (by kernel_rfl) ?_ hx ?_ hO ?_
 ·intro s1 H o hO h;cbv;apply C4 hE h<;>intro _ h
  ·cbv;cases h;exact⟨_,rfl,.e rfl (.e4 .z),rfl,hO⟩
  cbv;cases h;exact⟨_,_,rfl,⟨rfl,rfl,hO⟩,.e rfl .z,rfl⟩
 ·exact .e rfl (.e4 .z)
 clear hx;rintro e l H ⟨rfl,rfl,hO⟩;cbv;cases h;exact hK hO .z
theorem c93 (N:Nat):∀n aA r,Bw N n aA=some r→B9 prog 93 [(C8 aA)] (.bool r):=by
 intro n
 induction n with
 |zero=>intro aA r h;cases h
 |succ n ih=>
 intro aA r h
 unfold Bw at h
 refine O0 cf0 func93 call93 ntmps93 ?_;intro E H0 K hE hK hO;cbv;apply C4 hE h<;>intro _ h
 ·cbv;cases h;exact hK hO .z
 cbv;obtain⟨s2,hx,h⟩:=bind_some h;refine H9 cf0 hE O7 (fun s1=>[(1,.v (.eref (D2 aA) 0)),fi 3 s1]) (fun s1 H1=>C5 Eq H0 [] H1) (fun x e l H1=>match(generalizing:=false) x with| .inl y=>e= .exit 0∧l=[]∧C5 Eq H0 [] H1| .inr y=>e= .ret∧l=[(2,.b true)]∧C5 Eq H0 [] H1) (by kernel_rfl) ?_ hx ?_ hO ?_
 ·intro s1 H o hO h
  repeat' (cbv;first|apply C4 hE h<;>intro _ h|apply I8 hE|refine B0 hE h (ih _) .z fun _ h=>?_|refine D9 hE eBh2 h fun _ h=>?_|(cases h;exact⟨_,_,rfl,⟨rfl,rfl,hO⟩,.b rfl (.z),rfl⟩)|(cases h;exact⟨_,rfl,.e2 .z,rfl,hO⟩)|(cases h;exact⟨_,_,rfl,⟨rfl,rfl,hO⟩,.z,rfl⟩))
 ·exact .e2 .z
 clear hx
 rcases s2 with y5|y6
 ·rintro e l H ⟨rfl,rfl,hO⟩;cbv;cases h;exact hK hO .z
 rintro e l H ⟨rfl,rfl,hO⟩;cbv;cases h;exact hK hO .z
theorem c35 (N aA aG r) (h:IY N aA aG=some r):B9 prog 35 [(C8 aA),sr eBg5 aG] (.bool r):=by
 refine O0 cf0 func35 call35 ntmps35 ?_;intro E H0 K hE hK hO;cbv;refine B0 hE h (c75 N aA) .z fun r1 h=>?_;cbv;apply I8 hE;cbv;apply C4 hE h<;>intro _ h
 ·cbv;cases h;exact hK hO .z
 cbv;obtain⟨s3,hx,h⟩:=bind_some h;refine H9 cf0 hE O7 (fun s2=>[(1,.v (sr eBg5 aG)),(2,.v (.eref (D2 aA) 0)),fi 5 s2]) (fun s2 H1=>C5 Eq H0 [] H1) (fun x e l H1=>match(generalizing:=false) x with| .inl y=>e= .exit 0∧l=[(1,.v (sr eBg5 aG)),(2,.v (.eref (D2 aA) 0))]∧C5 Eq H0 [] H1| .inr y=>e= .ret∧l=[(4,.b false)]∧C5 Eq H0 [] H1) (by kernel_rfl) ?_ hx ?_ hO ?_
 ·intro s2 H o hO h
  repeat' (cbv;first|apply C4 hE h<;>intro _ h|apply I8 hE|refine D9 hE eBh4 h fun _ h=>?_|(cases h;exact⟨_,_,rfl,⟨rfl,rfl,hO⟩,.b rfl (.z),rfl⟩)|(cases h;exact⟨_,rfl,.e rfl (.e2 .z),rfl,hO⟩)|(cases h;exact⟨_,_,rfl,⟨rfl,rfl,hO⟩,.e2 .z,rfl⟩))
 ·exact .e rfl (.e2 .z)
 clear hx
 rcases s3 with y5|y10
 ·rintro e l H ⟨rfl,rfl,hO⟩
  repeat' (cbv;first|apply C4 hE h<;>intro _ h|apply I8 hE|refine B0 hE h (c91 _ _ _) .z fun _ h=>?_|refine B0 hE h (c92 _ _ _ _) .z fun _ h=>?_|refine B0 hE h (c93 _ _ _) .z fun _ h=>?_|(cases h;exact hK hO .z))
 rintro e l H ⟨rfl,rfl,hO⟩;cbv;cases h;exact hK hO .z
theorem c96 (N:Nat):∀n aA r,CX N n aA=some r→B9 prog 96 [(C8 aA)] (vi r):=by
 intro n
 induction n with
 |zero=>intro aA r h;cases h
 |succ n ih=>
 intro aA r h
 unfold CX at h
 refine O0 cf0 func96 call96 ntmps96 ?_;intro E H0 K hE hK hO;cbv;obtain⟨s2,hx,h⟩:=bind_some h;refine H9 cf0 hE O7 (fun s1=>[(1,.v (.eref (D2 aA) 0)),fi 3 s1.1,fi 4 s1.2]) (fun s1 H1=>C5 Eq H0 [] H1) (fun x e l H1=>e= .exit 0∧l=[(1,.v (.eref (D2 aA) 0)),fi 3 x]∧C5 Eq H0 [] H1) (by kernel_rfl) ?_ hx ?_ hO ?_
 ·intro s1 H o hO h;cbv;apply I8 hE;cbv;apply C4 hE h<;>intro _ h
  ·cbv;refine D9 hE eBh2 h fun x3 h=>?_;cbv;refine B0 hE h (ih x3) .z fun r4 h=>?_;cbv;cases h;exact⟨_,rfl,.e rfl (.e2 .z),rfl,hO⟩
  cbv;cases h;exact⟨_,_,rfl,⟨rfl,rfl,hO⟩,.e2 .z,rfl⟩
 ·exact .e rfl (.e2 .z)
 clear hx;rintro e l H ⟨rfl,rfl,hO⟩;cbv;apply C4 hE h<;>intro _ h
 ·cbv;cases h;exact hK hO .z
 cbv;cases h;exact hK hO .z
def cf97:=cfC [] [] [(7,4)]
theorem c97 (N:Nat):∀n aA r,Dp N n aA=some r→B9 prog 97 [(C8 aA)] (vi r):=by
 intro n
 induction n with
 |zero=>intro aA r h;cases h
 |succ n ih=>
 intro aA r h
 unfold Dp at h
 refine O0 cf97 func97 call97 ntmps97 ?_;intro E H0 K hE hK hO;cbv;obtain⟨s1,hx,h⟩:=bind_some h;refine N2 cf97 hE O7 (fun e l H1=>e= .normal∧l=[(1,.v (.eref (D2 aA) 0)),fi 3 s1]∧C5 Eq H0 [] H1) (by kernel_rfl) ?_ ?_
 ·clear h;have h:=hx;cbv;apply C4 hE h<;>intro _ h
  ·cbv;cases h;exact⟨_,⟨rfl,rfl,hO⟩,.e2 .z,rfl⟩
  cbv;cases h;exact⟨_,⟨rfl,rfl,hO⟩,.e2 .z,rfl⟩
 clear hx;rintro e l H ⟨rfl,rfl,hO⟩;cbv;obtain⟨s3,hx,h⟩:=bind_some h;refine H9 cf97 hE O7 (fun s2=>[(1,.v (.eref (D2 aA) 0)),fi 3 s2.1,fi 4 s2.2]) (fun s2 H1=>C5 Eq H0 [] H1) (fun x e l H1=>e= .exit 0∧l=[fi 3 x]∧C5 Eq H0 [] H1) (by kernel_rfl) ?_ hx ?_ hO ?_
 ·intro s2 H o hO h;cbv;apply I8 hE;cbv;apply C4 hE h<;>intro _ h
  ·cbv;refine D9 hE eBh2 h fun x4 h=>?_;cbv;refine B0 hE h (ih x4) .z fun r5 h=>?_;cbv;cases h;exact⟨_,rfl,.e rfl (.e2 .z),rfl,hO⟩
  cbv;cases h;exact⟨_,_,rfl,⟨rfl,rfl,hO⟩,.e rfl .z,rfl⟩
 ·exact .e rfl (.e2 .z)
 clear hx;rintro e l H ⟨rfl,rfl,hO⟩;cbv;cases h;exact hK hO .z
theorem c38 (N aA aG r) (h:IX N aA aG=some r):B9 prog 38 [(C8 aA),sr eBg5 aG] (.bool r):=by
 refine O0 cf0 func38 call38 ntmps38 ?_;intro E H0 K hE hK hO
 repeat' (cbv;first|apply C4 hE h<;>intro _ h|refine B0 hE h (c35 _ _ _) .z fun _ h=>?_|refine B0 hE h (c96 _ _ _) .z fun _ h=>?_|(cases h;exact hK hO .z))
 cbv;obtain⟨s4,hx,h⟩:=bind_some h;refine H9 cf0 hE O7 (fun s3=>[(1,.v (sr eBg5 aG)),(2,.v (.eref (D2 aA) 0)),fi 5 s3.1,fi 6 s3.2]) (fun s3 H1=>C5 Eq H0 [] H1) (fun x e l H1=>e= .exit 0∧l=[fi 5 x]∧C5 Eq H0 [] H1) (by kernel_rfl) ?_ hx ?_ hO ?_
 ·intro s3 H o hO h
  repeat' (cbv;first|apply C4 hE h<;>intro _ h|apply I8 hE|refine B0 hE h (c96 _ _ _) .z fun _ h=>?_|refine B0 hE h (c97 _ _ _) .z fun _ h=>?_|(cases h;exact⟨_,rfl,.e4 .z,rfl,hO⟩)|(cases h;exact⟨_,_,rfl,⟨rfl,rfl,hO⟩,.e rfl .z,rfl⟩))
 ·exact .e4 .z
 clear hx;rintro e l H ⟨rfl,rfl,hO⟩;cbv;cases h;exact hK hO .z
theorem c103 (N aA r)(h:Cb N aA=some r):B9 prog 103 [(C8 aA)] (.bool r):=by
 refine O0 cf0 func103 call103 ntmps103 ?_;intro E H0 K hE hK hO;cbv;cases h;exact hK hO .z
theorem c102 (N aA r)(h:Bx N aA=some r):B9 prog 102 [(C8 aA)] (.bool r):=by
 refine O0 cf0 func102 call102 ntmps102 ?_;intro E H0 K hE hK hO
 repeat' (cbv;first|apply C4 hE h<;>intro _ h|refine B0 hE h (c103 _ _) .z fun _ h=>?_|(cases h;exact hK hO .z))
theorem c104 (N aA r)(h:AV N aA=some r):B9 prog 104 [(C8 aA)] (.bool r):=by
 refine O0 cf0 func104 call104 ntmps104 ?_;intro E H0 K hE hK hO;cbv;cases h;exact hK hO .z
def cf194:=cfC [] [] [(11,6)]
theorem c194 (N aA r) (h:IZ N aA=some r):B9 prog 194 [(C8 aA)] (.bool r):=by
 refine O0 cf194 func194 call194 ntmps194 ?_;intro E H0 K hE hK hO;cbv;apply C4 hE h<;>intro _ h
 ·cbv;apply I8 hE;cbv;cases h;exact hK hO .z
 cbv;obtain⟨s1,hx,h⟩:=bind_some h;refine N2 cf194 hE O7 (fun e l H1=>e= .normal∧l=[(1,.v (.eref (D2 aA) 0)),fi 4 aA.Op,(11,.v (.bool s1))]∧C5 Eq H0 [] H1) (by kernel_rfl) ?_ ?_
 ·clear h;have h:=hx
  repeat' (cbv;first|apply C4 hE h<;>intro _ h|(cases h;exact⟨_,⟨rfl,rfl,hO⟩,.e rfl (.e2 .z),rfl⟩))
 clear hx;rintro e l H ⟨rfl,rfl,hO⟩
 repeat' (cbv;first|apply C4 hE h<;>intro _ h|apply I8 hE|(cases h;exact hK hO .z))
theorem c195 (N aA r)(h:DK N aA=some r):B9 prog 195 [(C8 aA)] (.bool r):=by
 refine O0 cf0 func195 call195 ntmps195 ?_;intro E H0 K hE hK hO;cbv;refine B0 hE h (c102 N aA) .z fun r1 h=>?_;cbv;cases h;exact hK hO .z
theorem c196 (N bJ aO bK r)(h:Ca N bJ aO bK=some r):B9 prog 196 [.bool bJ,vi aO,vi bK] (.bool r):=by
 refine O0 cf0 func196 call196 ntmps196 ?_;intro E H0 K hE hK hO;cbv;cases h;exact hK hO .z
def cf316:=cfC [] [] [(4,4)]
theorem c316 (N aM r) (h:Jb N aM=some r):B9 prog 316 [vi aM] (vi r):=by
 refine O0 cf316 func316 call316 ntmps316 ?_;intro E H0 K hE hK hO;cbv;obtain⟨s1,hx,h⟩:=bind_some h;refine N2 cf316 hE O7 (fun e l H1=>e= .normal∧l=[fi 3 aM,(4,.v (.bool s1))]∧C5 Eq H0 [] H1) (by kernel_rfl) ?_ ?_
 ·clear h;have h:=hx
  repeat' (cbv;first|apply C4 hE h<;>intro _ h|(cases h;exact⟨_,⟨rfl,rfl,hO⟩,.e2 .z,rfl⟩))
 clear hx;rintro e l H ⟨rfl,rfl,hO⟩
 repeat' (cbv;first|apply C4 hE h<;>intro _ h|(cases h;exact hK hO .z))
theorem c317 (N aM r)(h:Kl N aM=some r):B9 prog 317 [vi aM] (.tup [.bool r.1,.bool r.2]):=by
 refine O0 cf0 func317 call317 ntmps317 ?_;intro E H0 K hE hK hO;cbv;cases h;exact hK hO .z
theorem c318 (N aJ r)(h:BH N aJ=some r):B9 prog 318 [(F4 aJ)] (vi r):=by
 refine O0 cf0 func318 call318 ntmps318 ?_;intro E H0 K hE hK hO
 repeat' (cbv;first|apply C4 hE h<;>intro _ h|(cases h;exact hK hO .z))
theorem c319 (N aW aJ r)(h:AX N aW aJ=some r):B9 prog 319 [vi aW,(F4 aJ)] (.bool r):=by
 refine O0 cf0 func319 call319 ntmps319 ?_;intro E H0 K hE hK hO;cbv;cases h;exact hK hO .z
def cf284:=cfC [] [] [(69,15)]
theorem c284 (N aB r) (h:HJ N aB=some r):B9 prog 284 [(Y9 aB)] (vi r):=by
 refine O0 cf284 func284 call284 ntmps284 ?_;intro E H0 K hE hK hO
 repeat' (cbv;first|apply C4 hE h<;>intro _ h|apply I8 hE|refine B0 hE h (c316 _ _) .z fun _ h=>?_|refine B0 hE h (c317 _ _) .z fun r2 h=>?_|(cases h;exact hK hO .z))
 cbv;obtain⟨s3,hx,h⟩:=bind_some h;refine N2 cf284 hE O7 (fun e l H1=>match(generalizing:=false) s3 with| .inl y=>e= .normal∧l=[(1,.v (.eref (BT aB) 0)),(4,.v (.bool r2.1)),(5,.v (.bool r2.2)),(6,.v (.bool (cmp .eql aB.Op 4))),(7,.v (.bool (Ar.or (cmp .eql aB.Op 4) (cmp .eql aB.Op 0))))]∧C5 Eq H0 [] H1| .inr y=>e= .ret∧l=[fi 2 y]∧C5 Eq H0 [] H1) (by kernel_rfl) ?_ ?_
 ·clear h;have h:=hx
  repeat' (cbv;first|apply C4 hE h<;>intro _ h|refine B0 hE h (c318 _ _) .z fun _ h=>?_|(cases h;exact⟨_,⟨rfl,rfl,hO⟩,.e rfl .z,rfl⟩)|(cases h;exact⟨_,⟨rfl,rfl,hO⟩,.e rfl (.e4 .z),rfl⟩))
 clear hx
 rcases s3 with y5|y7
 ·rintro e l H ⟨rfl,rfl,hO⟩
  repeat' (cbv;first|apply C4 hE h<;>intro _ h|refine B0 hE h (c319 _ _ _) .z fun _ h=>?_|(cases h;exact hK hO .z))
 rintro e l H ⟨rfl,rfl,hO⟩;cbv;cases h;exact hK hO .z
theorem c242 (N:Nat):∀n aB r,CY N n aB=some r→B9 prog 242 [(Y9 aB)] (vi r):=by
 intro n
 induction n with
 |zero=>intro aB r h;cases h
 |succ n ih=>
 intro aB r h
 unfold CY at h
 refine O0 cf0 func242 call242 ntmps242 ?_;intro E H0 K hE hK hO;cbv;refine B0 hE h (c284 N aB) .z fun r1 h=>?_;cbv;apply C4 hE h<;>intro _ h
 ·cbv;cases h;exact hK hO .z
 cbv;obtain⟨s3,hx,h⟩:=bind_some h;refine H9 cf0 hE O7 (fun s2=>[(1,.v (.eref (BT aB) 0)),fi 4 s2]) (fun s2 H1=>C5 Eq H0 [] H1) (fun x e l H1=>match(generalizing:=false) x with| .inl y=>e= .exit 0∧l=[]∧C5 Eq H0 [] H1| .inr y=>e= .ret∧l=[fi 2 y]∧C5 Eq H0 [] H1) (by kernel_rfl) ?_ hx ?_ hO ?_
 ·intro s2 H o hO h
  repeat' (cbv;first|apply C4 hE h<;>intro _ h|apply I8 hE|refine B0 hE h (ih _) .z fun _ h=>?_|refine D9 hE eBi2 h fun _ h=>?_|(cases h;exact⟨_,_,rfl,⟨rfl,rfl,hO⟩,.e rfl .z,rfl⟩)|(cases h;exact⟨_,rfl,.e2 .z,rfl,hO⟩)|(cases h;exact⟨_,_,rfl,⟨rfl,rfl,hO⟩,.z,rfl⟩))
 ·exact .e2 .z
 clear hx
 rcases s3 with y6|y7
 ·rintro e l H ⟨rfl,rfl,hO⟩;cbv;cases h;exact hK hO .z
 rintro e l H ⟨rfl,rfl,hO⟩;cbv;cases h;exact hK hO .z
theorem c197 (N aB r)(h:ED N aB=some r):B9 prog 197 [(Y9 aB)] (vi r):=by
 refine O0 cf0 func197 call197 ntmps197 ?_;intro E H0 K hE hK hO
 repeat' (cbv;first|apply C4 hE h<;>intro _ h|refine B0 hE h (c174 _ _ _ _) .z fun _ h=>?_|refine B0 hE h (c175 _ _ _) .z fun _ h=>?_|refine B0 hE h (c242 _ _ _) .z fun _ h=>?_|(cases h;exact hK hO .z))
def cf198:=cfB [] [(6,10)]
theorem c198 (N:Nat):∀n aC aD r,X5 N n aC aD=some r→B9 prog 198 [(Y9 aC),(Y9 aD)] (.bool r):=by
 intro n
 induction n with
 |zero=>intro aC aD r h;cases h
 |succ n ih=>
 intro aC aD r h
 unfold X5 at h
 refine O0 cf198 func198 call198 ntmps198 ?_;intro E H0 K hE hK hO
 repeat' (cbv;first|apply C4 hE h<;>intro _ h|apply I8 hE|(cases h;exact hK hO .z))
 cbv;obtain⟨s2,hx,h⟩:=bind_some h;refine H9 cf198 hE O7 (fun s1=>[(2,.v (.eref (BT aC) 0)),(3,.v (.eref (BT aD) 0)),fi 5 s1]) (fun s1 H1=>C5 Eq H0 [] H1) (fun x e l H1=>match(generalizing:=false) x with| .inl y=>e= .exit 0∧l=[]∧C5 Eq H0 [] H1| .inr y=>e= .ret∧l=[(4,.b false)]∧C5 Eq H0 [] H1) (by kernel_rfl) ?_ hx ?_ hO ?_
 ·intro s1 H o hO h
  repeat' (cbv;first|apply C4 hE h<;>intro _ h|apply I8 hE|refine B0 hE h (ih _ _) .z fun _ h=>?_|refine D9 hE eBi2 h fun _ h=>?_|(cases h;exact⟨_,_,rfl,⟨rfl,rfl,hO⟩,.b rfl (.z),rfl⟩)|(cases h;exact⟨_,rfl,.e rfl (.e2 .z),rfl,hO⟩)|(cases h;exact⟨_,_,rfl,⟨rfl,rfl,hO⟩,.z,rfl⟩))
 ·exact .e rfl (.e2 .z)
 clear hx
 rcases s2 with y6|y7
 ·rintro e l H ⟨rfl,rfl,hO⟩;cbv;cases h;exact hK hO .z
 rintro e l H ⟨rfl,rfl,hO⟩;cbv;cases h;exact hK hO .z
def cf152:=cfC [] [(5,11),(6,21)] [(51,10)]
theorem c152 (N aA r) (h:Bl N aA=some r):B9 prog 152 [(C8 aA)] (vi r):=by
 unfold Bl at h
 refine O0 cf152 func152 call152 ntmps152 ?_;intro E H0 K hE hK hO;cbv;refine C4 hE h (fun _ h=>?_) fun _ h=>?_
 ·cbv;cases h;exact hK hO (.refl _)
 cbv;refine B0 hE h (c194 N aA) (.refl _) fun r1 h=>?_;cbv;refine C4 hE h (fun _ h=>?_) fun _ h=>?_
 ·cbv;cases h;exact hK hO (.refl _)
 cbv;refine E5 hE (g:=fun r2=>.bool r2) h (c102 N aA) (.refl _) fun r2 h=>?_;cbv;refine E5 hE (g:=fun r3=>.bool r3) h (c103 N aA) (.refl _) fun r3 h=>?_;cbv;refine C4 hE h (fun _ h=>?_) fun _ h=>?_
 ·cbv;refine E5 hE (g:=fun r4=>.bool r4) h (c195 N aA) (.refl _) fun r4 h=>?_;cbv;refine E5 hE (g:=fun r5=>.bool r5) h (c196 N r2 aA.Typ 15) (.refl _) fun r5 h=>?_;cbv;refine C4 hE h (fun _ h=>?_) fun _ h=>?_
  ·cbv;cases h;exact hK hO (.refl _)
  cbv;refine E5 hE (g:=fun r6=>.bool r6) h (c196 N r2 aA.Var 15) (.refl _) fun r6 h=>?_;cbv;refine C4 hE h (fun _ h=>?_) fun _ h=>?_
  ·cbv;cases h;exact hK hO (.refl _)
  cbv;refine E5 hE (g:=fun r7=>.bool r7) h (c196 N true aA.cP 63) (.refl _) fun r7 h=>?_;cbv;refine C4 hE h (fun _ h=>?_) fun _ h=>?_
  ·cbv;cases h;exact hK hO (.refl _)
  cbv;refine E5 hE (g:=fun r8=>.bool r8) h (c104 N aA) (.refl _) fun r8 h=>?_;cbv;refine B0 hE h (c196 N r8 aA.Span 1099511627776) (.refl _) fun r9 h=>?_;cbv;refine C4 hE h (fun _ h=>?_) fun _ h=>?_
  ·cbv;cases h;exact hK hO (.refl _)
  cbv;obtain⟨s10,hx,h⟩:=bind_some h;refine N2 cf152 hE O7 (fun e l H1=>match(generalizing:=false) s10 with| .inl y=>e= .normal∧l=[(1,.v (.eref (D2 aA) 0)),(3,.v (.bool r2)),(4,.b true),(5,.v (.bool r4))]∧C5 Eq H0 [] H1| .inr y=>e= .ret∧l=[fi 2 y]∧C5 Eq H0 [] H1) (by kernel_rfl) ?_ ?_
  ·clear h;have h:=hx;clear hx;cbv;refine C4 hE h (fun _ h=>?_) fun _ h=>?_
   ·cbv;refine B0 hE h (c197 N aA.cN) (.refl _) fun r11 h=>?_;cbv;refine C4 hE h (fun _ h=>?_) fun _ h=>?_
    ·cbv;cases h;exact⟨_,⟨rfl,rfl,hO⟩,.e rfl .z,rfl⟩
    cbv;cases h;exact⟨_,⟨rfl,rfl,hO⟩,.e2 (.b rfl (.e rfl (.z))),rfl⟩
   cbv;cases h;exact⟨_,⟨rfl,rfl,hO⟩,.e2 (.b rfl (.e rfl (.z))),rfl⟩
  clear hx
  rcases s10 with y12|y15
  ·rintro e l H ⟨rfl,rfl,hO⟩;cbv;refine C4 hE h (fun _ h=>?_) fun _ h=>?_
   ·cbv;cases h;exact hK hO (.refl _)
   cbv;refine B0 hE h (c104 N aA) (.refl _) fun r13 h=>?_;cbv;refine C4 hE h (fun _ h=>?_) fun _ h=>?_
   ·cbv;cases h;exact hK hO (.refl _)
   cbv;refine C4 hE h (fun _ h=>?_) fun _ h=>?_
   ·cbv;refine B0 hE h (c198 N N aA.cN (⟨0,[],0,0,0,(⟨0,0,⟨#[]⟩⟩:B1)⟩:B6)) (.cons (.refl _) (.cons (.agg (.cons (.refl _) (.cons (.lit _ (E4)) (.refl _)))) (.refl _))) fun r14 h=>?_;cbv;refine C4 hE h (fun _ h=>?_) fun _ h=>?_
    ·cbv;cases h;exact hK hO (.refl _)
    cbv;cases h;exact hK hO (.refl _)
   cbv;cases h;exact hK hO (.refl _)
  rintro e l H ⟨rfl,rfl,hO⟩;cbv;cases h;exact hK hO (.refl _)
 cbv;refine E5 hE (g:=fun r16=>.bool r16) h (c104 N aA) (.refl _) fun r16 h=>?_;cbv;refine E5 hE (g:=fun r17=>.bool r17) h (c195 N aA) (.refl _) fun r17 h=>?_;cbv;refine E5 hE (g:=fun r18=>.bool r18) h (c196 N r2 aA.Typ 15) (.refl _) fun r18 h=>?_;cbv;refine C4 hE h (fun _ h=>?_) fun _ h=>?_
 ·cbv;cases h;exact hK hO (.refl _)
 cbv;refine E5 hE (g:=fun r19=>.bool r19) h (c196 N r2 aA.Var 15) (.refl _) fun r19 h=>?_;cbv;refine C4 hE h (fun _ h=>?_) fun _ h=>?_
 ·cbv;cases h;exact hK hO (.refl _)
 cbv;refine E5 hE (g:=fun r20=>.bool r20) h (c196 N r16 aA.cP 63) (.refl _) fun r20 h=>?_;cbv;refine C4 hE h (fun _ h=>?_) fun _ h=>?_
 ·cbv;cases h;exact hK hO (.refl _)
 cbv;refine E5 hE (g:=fun r21=>.bool r21) h (c104 N aA) (.refl _) fun r21 h=>?_;cbv;refine B0 hE h (c196 N r21 aA.Span 1099511627776) (.refl _) fun r22 h=>?_;cbv;refine C4 hE h (fun _ h=>?_) fun _ h=>?_
 ·cbv;cases h;exact hK hO (.refl _)
 cbv;obtain⟨s23,hx,h⟩:=bind_some h;refine N2 cf152 hE O7 (fun e l H1=>match(generalizing:=false) s23 with| .inl y=>e= .normal∧l=[(1,.v (.eref (D2 aA) 0)),(3,.v (.bool r2)),(4,.v (.bool r16)),(5,.v (.bool r17))]∧C5 Eq H0 [] H1| .inr y=>e= .ret∧l=[fi 2 y]∧C5 Eq H0 [] H1) (by kernel_rfl) ?_ ?_
 ·clear h;have h:=hx;clear hx;cbv;refine C4 hE h (fun _ h=>?_) fun _ h=>?_
  ·cbv;refine B0 hE h (c197 N aA.cN) (.refl _) fun r24 h=>?_;cbv;refine C4 hE h (fun _ h=>?_) fun _ h=>?_
   ·cbv;cases h;exact⟨_,⟨rfl,rfl,hO⟩,.e rfl .z,rfl⟩
   cbv;cases h;exact⟨_,⟨rfl,rfl,hO⟩,.e4 .z,rfl⟩
  cbv;cases h;exact⟨_,⟨rfl,rfl,hO⟩,.e4 .z,rfl⟩
 clear hx
 rcases s23 with y25|y28
 ·rintro e l H ⟨rfl,rfl,hO⟩;cbv;refine C4 hE h (fun _ h=>?_) fun _ h=>?_
  ·cbv;cases h;exact hK hO (.refl _)
  cbv;refine B0 hE h (c104 N aA) (.refl _) fun r26 h=>?_;cbv;refine C4 hE h (fun _ h=>?_) fun _ h=>?_
  ·cbv;cases h;exact hK hO (.refl _)
  cbv;refine C4 hE h (fun _ h=>?_) fun _ h=>?_
  ·cbv;refine B0 hE h (c198 N N aA.cN (⟨0,[],0,0,0,(⟨0,0,⟨#[]⟩⟩:B1)⟩:B6)) (.cons (.refl _) (.cons (.agg (.cons (.refl _) (.cons (.lit _ (E4)) (.refl _)))) (.refl _))) fun r27 h=>?_;cbv;refine C4 hE h (fun _ h=>?_) fun _ h=>?_
   ·cbv;cases h;exact hK hO (.refl _)
   cbv;cases h;exact hK hO (.refl _)
  cbv;cases h;exact hK hO (.refl _)
 rintro e l H ⟨rfl,rfl,hO⟩;cbv;cases h;exact hK hO (.refl _)
theorem c99 (N aA r) (h:DL N aA=some r):B9 prog 99 [(C8 aA)] (vi r):=by
 refine O0 cf0 func99 call99 ntmps99 ?_;intro E H0 K hE hK hO
 repeat' (cbv;first|apply C4 hE h<;>intro _ h|refine B0 hE h (c132 _ _ _ _) .z fun _ h=>?_|refine B0 hE h (c133 _ _ _) .z fun _ h=>?_|refine B0 hE h (c100 _ _ _) .z fun r3 h=>?_|(cases h;exact hK hO .z))
 cbv;obtain⟨s5,hx,h⟩:=bind_some h;refine H9 cf0 hE O7 (fun s4=>[(3,.v (sr eBh0 r3)),fi 4 s4]) (fun s4 H1=>C5 Eq H0 [] H1) (fun x e l H1=>match(generalizing:=false) x with| .inl y=>e= .exit 0∧l=[]∧C5 Eq H0 [] H1| .inr y=>e= .ret∧l=[fi 2 y]∧C5 Eq H0 [] H1) (by kernel_rfl) ?_ hx ?_ hO ?_
 ·intro s4 H o hO h
  repeat' (cbv;first|apply C4 hE h<;>intro _ h|apply I8 hE|refine B0 hE h (c152 _ _) .z fun _ h=>?_|refine D9 hE eBh2 h fun _ h=>?_|(cases h;exact⟨_,_,rfl,⟨rfl,rfl,hO⟩,.e rfl .z,rfl⟩)|(cases h;exact⟨_,rfl,.e2 .z,rfl,hO⟩)|(cases h;exact⟨_,_,rfl,⟨rfl,rfl,hO⟩,.z,rfl⟩))
 ·exact .e2 .z
 clear hx
 rcases s5 with y8|y9
 ·rintro e l H ⟨rfl,rfl,hO⟩;cbv;cases h;exact hK hO .z
 rintro e l H ⟨rfl,rfl,hO⟩;cbv;cases h;exact hK hO .z
theorem c101 (N aG r) (h:Hi N aG=some r):B9 prog 101 [sr eBh0 aG] (.bool r):=by
 refine O0 cf0 func101 call101 ntmps101 ?_;intro E H0 K hE hK hO;cbv;obtain⟨s2,hx,h⟩:=bind_some h;refine H9 cf0 hE O7 (fun s1=>[(0,.v (sr eBh0 aG)),fi 3 s1]) (fun s1 H1=>C5 Eq H0 [] H1) (fun x e l H1=>match(generalizing:=false) x with| .inl y=>e= .exit 0∧l=[]∧C5 Eq H0 [] H1| .inr y=>e= .ret∧l=[(2,.b false)]∧C5 Eq H0 [] H1) (by kernel_rfl) ?_ hx ?_ hO ?_
 ·intro s1 H o hO h
  repeat' (cbv;first|apply C4 hE h<;>intro _ h|apply I8 hE|refine D9 hE eBh2 h fun _ h=>?_|(cases h;exact⟨_,_,rfl,⟨rfl,rfl,hO⟩,.b rfl (.z),rfl⟩)|(cases h;exact⟨_,rfl,.e2 .z,rfl,hO⟩)|(cases h;exact⟨_,_,rfl,⟨rfl,rfl,hO⟩,.z,rfl⟩))
 ·exact .e2 .z
 clear hx
 rcases s2 with y4|y5
 ·rintro e l H ⟨rfl,rfl,hO⟩;cbv;cases h;exact hK hO .z
 rintro e l H ⟨rfl,rfl,hO⟩;cbv;cases h;exact hK hO .z
def cf41:=cfC [] [] [(28,13)]
theorem c41 (N aA r) (h:Ja N aA=some r):B9 prog 41 [(C8 aA)] (vi r):=by
 refine O0 cf41 func41 call41 ntmps41 ?_;intro E H0 K hE hK hO
 repeat' (cbv;first|apply C4 hE h<;>intro _ h|refine B0 hE h (c99 _ _) .z fun _ h=>?_|refine B0 hE h (c100 _ _ _) .z fun r2 h=>?_|refine B0 hE h (c101 _ _) .z fun _ h=>?_|(cases h;exact hK hO .z))
 cbv;obtain⟨s5,hx,h⟩:=bind_some h;refine H9 cf41 hE O7 (fun s4=>[(4,.v (sr eBh0 r2)),fi 5 s4.1,fi 6 s4.2.1,fi 7 s4.2.2]) (fun s4 H1=>C5 Eq H0 [] H1) (fun x e l H1=>match(generalizing:=false) x with| .inl y=>e= .exit 0∧l=[]∧C5 Eq H0 [] H1| .inr y=>e= .ret∧l=[fi 2 14]∧C5 Eq H0 [] H1) (by kernel_rfl) ?_ hx ?_ hO ?_
 ·intro s4 H o hO h;cbv;apply I8 hE;cbv;apply C4 hE h<;>intro _ h
  ·cbv;refine D9 hE eBh2 h fun x6 h=>?_;cbv;refine B0 hE h (c102 N x6) .z fun r7 h=>?_;cbv;obtain⟨s8,hx,h⟩:=bind_some h;refine N2 cf41 hE O7 (fun e l H1=>match(generalizing:=false) s8 with| .inl y=>e= .normal∧l=[(4,.v (sr eBh0 r2)),fi 5 y,fi 6 s4.2.1,fi 7 s4.2.2]∧C5 Eq H0 [] H1| .inr y=>e= .ret∧l=[fi 2 14]∧C5 Eq H0 [] H1) (by kernel_rfl) ?_ ?_
   ·clear h;have h:=hx
    repeat' (cbv;first|apply C4 hE h<;>intro _ h|refine D9 hE eBh2 h fun _ h=>?_|(cases h;exact⟨_,⟨rfl,rfl,hO⟩,.e rfl .z,rfl⟩)|(cases h;exact⟨_,⟨rfl,rfl,hO⟩,.e4 .z,rfl⟩))
   clear hx
   rcases s8 with y10|y17
   ·rintro e l H ⟨rfl,rfl,hO⟩
    repeat' (cbv;first|apply C4 hE h<;>intro _ h|refine B0 hE h (c103 _ _) .z fun _ h=>?_|refine B0 hE h (c104 _ _) .z fun _ h=>?_|refine D9 hE eBh2 h fun _ h=>?_|(cases h;exact⟨_,_,rfl,⟨rfl,rfl,hO⟩,.e rfl .z,rfl⟩)|(cases h;exact⟨_,rfl,.e4 .z,rfl,hO⟩))
   rintro e l H ⟨rfl,rfl,hO⟩;cbv;cases h;exact⟨_,_,rfl,⟨rfl,rfl,hO⟩,.e rfl .z,rfl⟩
  cbv;cases h;exact⟨_,_,rfl,⟨rfl,rfl,hO⟩,.z,rfl⟩
 ·exact .e4 .z
 clear hx
 rcases s5 with y18|y19
 ·rintro e l H ⟨rfl,rfl,hO⟩;cbv;cases h;exact hK hO .z
 rintro e l H ⟨rfl,rfl,hO⟩;cbv;cases h;exact hK hO .z
theorem c105 (N aB r)(h:Kr N aB=some r):B9 prog 105 [(W4 aB)] (.bool r):=by
 refine O0 cf0 func105 call105 ntmps105 ?_;intro E H0 K hE hK hO;cbv;cases h;exact hK hO .z
theorem c106 (N aC aD r)(h:GD N aC aD=some r):B9 prog 106 [(Dy aC),(Dy aD)] (vi r):=by
 refine O0 cf0 func106 call106 ntmps106 ?_;intro E H0 K hE hK hO
 repeat' (cbv;first|apply C4 hE h<;>intro _ h|(cases h;exact hK hO .z))
def cf107:=cfA [2]
theorem c107 (N aB r)(h:MV N aB=some r):B9 prog 107 [(W4 aB)] ((Dy r)):=by
 refine O0 cf107 func107 call107 ntmps107 ?_;intro E H0 K hE hK hO;cbv;refine E2 hE hO fun b1 H hO=>?_;cbv;refine C1 hE hO 0 rfl rfl fun H hO=>?_;cbv;apply C0 hE hO 0 rfl;cbv;cases h;exact hK hO .z
theorem c108 (N aC aD r)(h:HK N aC aD=some r):B9 prog 108 [(W4 aC),(W4 aD)] (.bool r):=by
 refine O0 cf0 func108 call108 ntmps108 ?_;intro E H0 K hE hK hO;cbv;cases h;exact hK hO .z
def cf42:=cfB [] [(8,13),(13,8)]
theorem c42 (N aG r) (h:Jc N aG=some r):B9 prog 42 [sr eBg5 aG] (vi r):=by
 refine O0 cf42 func42 call42 ntmps42 ?_;intro E H0 K hE hK hO;cbv;apply I8 hE;cbv;apply C4 hE h<;>intro _ h
 ·cbv;cases h;exact hK hO .z
 cbv;obtain⟨s2,hx,h⟩:=bind_some h;refine H9 cf42 hE O7 (fun s1=>[(0,.v (sr eBg5 aG)),fi 3 s1]) (fun s1 H1=>C5 Eq H0 [] H1) (fun x e l H1=>match(generalizing:=false) x with| .inl y=>e= .exit 0∧l=[]∧C5 Eq H0 [] H1| .inr y=>e= .ret∧l=[fi 2 y]∧C5 Eq H0 [] H1) (by kernel_rfl) ?_ hx ?_ hO ?_
 ·intro s1 H o hO h
  repeat' (cbv;first|apply C4 hE h<;>intro _ h|apply I8 hE|refine B0 hE h (c105 _ _) .z fun _ h=>?_|refine B0 hE h (c107 _ _) .z fun _ h=>?_|refine B0 hE h (c106 _ _ _) .z fun _ h=>?_|refine D9 hE eBh4 h fun _ h=>?_|refine E5 hE (g:=fun r6=>(Dy r6)) h (c107 _ _) .z fun r6 h=>?_|(cases h;exact⟨_,_,rfl,⟨rfl,rfl,hO⟩,.e rfl .z,rfl⟩)|(cases h;exact⟨_,_,rfl,⟨rfl,rfl,hO⟩,.z,rfl⟩))
  ·cbv;obtain⟨s11,hx,h⟩:=bind_some h;refine H9 cf42 hE O7 (fun s10=>[(0,.v (sr eBg5 aG)),fi 3 s1,fi 4 s10]) (fun s10 H1=>C5 Eq H0 [] H1) (fun x e l H1=>match(generalizing:=false) x with| .inl y=>e= .exit 2∧l=[(0,.v (sr eBg5 aG)),fi 3 s1]∧C5 Eq H0 [] H1| .inr y=>e= .ret∧l=[fi 2 7]∧C5 Eq H0 [] H1) (by kernel_rfl) ?_ hx ?_ hO ?_
   ·intro s10 H o hO h
    repeat' (cbv;first|apply C4 hE h<;>intro _ h|refine B0 hE h (c108 _ _ _) .z fun _ h=>?_|refine D9 hE eBh4 h fun _ h=>?_|(cases h;exact⟨_,_,rfl,⟨rfl,rfl,hO⟩,.e rfl .z,rfl⟩)|(cases h;exact⟨_,rfl,.e rfl (.e2 .z),rfl,hO⟩)|(cases h;exact⟨_,_,rfl,⟨rfl,rfl,hO⟩,.e2 .z,rfl⟩))
   ·exact .e rfl (.e2 .z)
   clear hx
   rcases s11 with y15|y16
   ·rintro e l H ⟨rfl,rfl,hO⟩;cbv;cases h;exact⟨_,rfl,.e2 .z,rfl,hO⟩
   rintro e l H ⟨rfl,rfl,hO⟩;cbv;cases h;exact⟨_,_,rfl,⟨rfl,rfl,hO⟩,.e rfl .z,rfl⟩
  cbv;obtain⟨s18,hx,h⟩:=bind_some h;refine H9 cf42 hE O7 (fun s17=>[(0,.v (sr eBg5 aG)),fi 3 s1,fi 4 s17]) (fun s17 H1=>C5 Eq H0 [] H1) (fun x e l H1=>match(generalizing:=false) x with| .inl y=>e= .exit 2∧l=[(0,.v (sr eBg5 aG)),fi 3 s1]∧C5 Eq H0 [] H1| .inr y=>e= .ret∧l=[fi 2 7]∧C5 Eq H0 [] H1) (by kernel_rfl) ?_ hx ?_ hO ?_
  ·intro s17 H o hO h
   repeat' (cbv;first|apply C4 hE h<;>intro _ h|refine B0 hE h (c108 _ _ _) .z fun _ h=>?_|refine D9 hE eBh4 h fun _ h=>?_|(cases h;exact⟨_,_,rfl,⟨rfl,rfl,hO⟩,.e rfl .z,rfl⟩)|(cases h;exact⟨_,rfl,.e rfl (.e2 .z),rfl,hO⟩)|(cases h;exact⟨_,_,rfl,⟨rfl,rfl,hO⟩,.e2 .z,rfl⟩))
  ·exact .e rfl (.e2 .z)
  clear hx
  rcases s18 with y22|y23
  ·rintro e l H ⟨rfl,rfl,hO⟩;cbv;cases h;exact⟨_,rfl,.e2 .z,rfl,hO⟩
  rintro e l H ⟨rfl,rfl,hO⟩;cbv;cases h;exact⟨_,_,rfl,⟨rfl,rfl,hO⟩,.e rfl .z,rfl⟩
 ·exact .e2 .z
 clear hx
 rcases s2 with y24|y25
 ·rintro e l H ⟨rfl,rfl,hO⟩;cbv;cases h;exact hK hO .z
 rintro e l H ⟨rfl,rfl,hO⟩;cbv;cases h;exact hK hO .z
theorem c126 (N aO bK r)(h:EP N aO bK=some r):B9 prog 126 [vi aO,vi bK] (.bool r):=by
 refine O0 cf0 func126 call126 ntmps126 ?_;intro E H0 K hE hK hO;cbv;cases h;exact hK hO .z
def cf59:=cfB [4] [(10,12)]
theorem c59 (N bH r) (h:Mo N bH=some r):B9 prog 59 [(Kg bH)] (vi r):=by
 refine O0 cf59 func59 call59 ntmps59 ?_;intro E H0 K hE hK hO
 repeat' (cbv;first|apply C4 hE h<;>intro _ h|apply I8 hE|(cases h;done))
 cbv;obtain⟨s2,hx,h⟩:=bind_some h;refine H9 cf59 hE O7 (fun s1=>[(1,.v (.eref (Nr bH) 0)),(16,.v (sr eBh1 bH.cR)),fi 17 (Ar.len bH.cR),fi 18 s1]) (fun s1 H1=>C5 Eq H0 [] H1) (fun x e l H1=>e= .exit 1∧l=[]∧C5 Eq H0 [] H1) (by kernel_rfl) ?_ hx ?_ hO ?_
 ·intro s1 H o hO h
  repeat' (cbv;first|apply C4 hE h<;>intro _ h|refine B0 hE h (c126 _ _ _) .z fun _ h=>?_|refine B0 hE h (c69 _ _ _) .z fun _ h=>?_|refine D9 hE eBi1 h fun _ h=>?_|apply C0 hE hO 0 rfl|refine C1 hE hO 0 rfl rfl fun H hO=>?_|refine E2 hE hO fun _ H hO=>?_|(cases h;done)|(cases h;exact⟨_,rfl,.e4 .z,rfl,hO.tail⟩)|(cases h;exact⟨_,_,rfl,⟨rfl,rfl,hO⟩,.z,rfl⟩))
 ·exact .e4 .z
 clear hx;rintro e l H ⟨rfl,rfl,hO⟩;cbv;cases h;exact hK hO .z
def cf127:=cfB [] [(5,6),(8,15)]
theorem c127 (N:Nat) (aF:List A8) (bS:Q4) (bA:V) (aX:A8→Q4→Option Int) (bR:∀y1 y2 q,aX y1 y2=some q→AL prog bA [(W4 y1),(Dy y2)] (vi q)) (r:(Int×Bool)) (h:Q7 N aF bS aX=some r):B9 prog 127 [sr eBg5 aF,(Dy bS),bA] (.tup [vi r.1,.bool r.2]):=by
 refine O0 cf127 func127 call127 ntmps127 ?_;intro E H0 K hE hK hO;cbv;apply I8 hE;cbv;obtain⟨s2,hx,h⟩:=bind_some h;refine H9 cf127 hE O7 (fun s1=>[(0,.v (sr eBg5 aF)),(2,.v (bA)),(4,.v (.eref (AI3 bS) 0)),fi 8 (Ar.len aF),fi 9 s1.1,fi 10 s1.2]) (fun s1 H1=>C5 Eq H0 [] H1) (fun x e l H1=>e= .exit 0∧l=[(0,.v (sr eBg5 aF)),(2,.v (bA)),(4,.v (.eref (AI3 bS) 0)),fi 8 (Ar.len aF),fi 9 x]∧C5 Eq H0 [] H1) (by kernel_rfl) ?_ hx ?_ hO ?_
 ·intro s1 H o hO h
  repeat' (cbv;first|apply C4 hE h<;>intro _ h|refine BP hE (g:=fun r4=>vi r4) h (fun r4 hx=>bR x3 bS r4 hx) .z fun r4 h=>?_|refine D9 hE eBh4 h fun x3 h=>?_|(cases h;exact⟨_,rfl,.e2 (.e4 .z),rfl,hO⟩)|(cases h;exact⟨_,_,rfl,⟨rfl,rfl,hO⟩,.e rfl (.e4 .z),rfl⟩)|apply Ak5 hE (Zu hE rfl))
 ·exact .e2 (.e4 .z)
 clear hx;rintro e l H ⟨rfl,rfl,hO⟩
 repeat' (cbv;first|apply C4 hE h<;>intro _ h|refine D9 hE eBh4 h fun x5 h=>?_|refine AD1 hE (g:=fun r6=>vi r6) h (fun r6 hx=>bR x5 bS r6 hx) .z fun r6 h=>?_|(cases h;exact hK hO .z))
def cf128:=cfB [] [(1,14)]
theorem c128 (N aB bO r)(h:Bu N aB bO=some r):B9 prog 128 [(W4 aB),(Dy bO)] (vi r):=by
 refine O0 cf128 func128 call128 ntmps128 ?_;intro E H0 K hE hK hO
 repeat' (cbv;first|refine B0 hE h (c70 _ _ _) .z fun _ h=>?_|refine B0 hE h (c68 _ _) (.cons (.lit _ (G8 (rfl) (G8 (rfl) (G8 (rfl) (E4))))) .z) fun _ h=>?_|refine E5 hE (g:=fun r1=>vi r1) h (c70 _ _ _) .z fun r1 h=>?_|refine E5 hE (g:=fun r2=>vi r2) h (c70 _ _ _) .z fun r2 h=>?_|(cases h;exact hK hO .z))
theorem c60 (N aG bO r)(h:EA N aG bO=some r):B9 prog 60 [sr eBg5 aG,(Dy bO)] (.tup [vi r.1,.bool r.2.1,vi r.2.2]):=by
 refine O0 cf0 func60 call60 ntmps60 ?_;intro E H0 K hE hK hO
 repeat' (cbv;first|apply C4 hE h<;>intro _ h|refine B0 hE h (c56 _ _) .z fun _ h=>?_|refine B0 hE (g:=fun r2=>.tup [vi r2.1,.bool r2.2]) h (fun r2 hx=>c127 N aG bO (.func (.func 128) [] []) (fun y1 y2=>Bu N y1 y2) (fun y1 y2 r hx=>B9.value (F:=[]) (C:=[]) (c128 N y1 y2 r hx)) r2 hx) .z fun r2 h=>?_|(cases h;exact hK hO .z))
theorem c297 (N aH r)(h:Gy N aH=some r):AK2 prog 297 aH r:=Ag9 Go.Proofs.Tryz.laysNm189 call297 h
theorem c298 (N aH r)(h:EB N aH=some r):Ah4 prog 298 [] 1 (lst (V.int .i64) aH) (lst (V.int .i64) r):=TY Go.Proofs.Tryz.laysNm220 call298 h
def cf264:=cfA [3,5000003]
theorem c264 (N aA r) (h:NI N aA=some r):B9 prog 264 [(C8 aA)] (sr (V.int .i64) r):=by
 refine Fg (T:=TT) cf264 O7 func264 (by rfl) (by kernel_rfl) call264 ntmps264 (by rfl) (by rfl) ?_;intro E H0 K hE hK hF;have hO:C5 Eq H0 [] H0:=.start M5 rfl;cbv;refine Yv hE (f0:=(V.int .i64)) hO fun q2 b1 H hq2 hO=>?_;cbv;refine Jg hE h (c157 N aA) .z fun r3 v4 hv4 h=>?_;cbv;obtain⟨o10,hx,h⟩:=bind_some h;refine Pq cf264 hE O7 (ι:=Unit) (enc:=fun(x:A1)=>[(C8 x)]) (fun(s6:(List Int)) F H=>∃g:OG,(BD g (Ar.len s6))∧C5 Eq F [cb b1 [.own g.id g.lo g.n],ob g 1 (V.int .i64) s6] H) (fun(r:Unit) e F H=>False) (fun i s6 y5=>[(3,.v (.ref b1 0)),(4,.v (.eref (D2 y5) 0))]) (fun i s6 y5 F H=>∃g:OG,(BD g (Ar.len s6))∧C5 Eq F [cb b1 [.own g.id g.lo g.n],ob g 1 (V.int .i64) s6] H) (fun _=>G7.ex fun _=>C5.stable M5 _) (fun _ _=>⟨fun h=>h.elim,fun _ _ h=>h.elim⟩) (fun _ _ _=>G7.ex fun _=>C5.stable M5 _) hv4 hx (⟨q2,hq2,hO⟩) (by decide) (fun _=>rfl) (by kernel_rfl) (by kernel_rfl) ?_ ?_ ?_ ?_
 ·rintro E i8 y5 s6 F7 H hE ⟨q9,hq9,hO⟩;clear hx h;cbv;exact⟨(),⟨q9,hq9,hO⟩,.e2 .z,rfl⟩
 ·rintro E i8 _ y5 s6 F7 H o hE hF h ⟨q9,hq9,hO⟩;cbv;apply C4 hE h<;>intro _ h
  ·cbv;apply C0 hE hO 0 rfl;cbv;refine Wl (f:=(V.int .i64)) hE (fun _=>rfl) (by decide) hO hq9 1 rfl (m:=[y5.Var]) (Qe (f:=(V.int .i64)) hE (fun _=>rfl) (.lstc .z (.lst0))) h fun l12 q11 H hq11 hO h=>?_;cbv;refine C1 hE hO 0 rfl rfl fun H hO=>?_;cbv;cases h;exact⟨_,rfl,⟨q11,hq11,hO⟩⟩
  cbv;cases h;exact⟨_,rfl,⟨q9,hq9,hO⟩⟩
 ·rintro d13 s16 H rfl hd ⟨q17,hq17,hO⟩;have hO:C5 Eq H0 [cb b1 [.own q17.id q17.lo q17.n],ob q17 1 (V.int .i64) s16,.blk d13 DB] H:=C5.dblk hd hO;clear hd
  repeat' (cbv;first|refine AP1 hE hO hq17 1 rfl h (c297 N s16) fun l18 H hq17 hO h=>?_|refine AD9 hE (f:=(V.int .i64)) hO hq17 1 rfl h (c298 N l18) .z fun _ q20 H hq20 hO h=>?_|apply C0 hE hO 0 rfl|(cases h;exact hF q20 _ _ 1 _ _ hO rfl (Hl hE hq20) .z)|refine JP hE hO 2 rfl fun H hO=>?_)
 rintro d r e H rfl hd hO;exact hO.elim
theorem c299 (N aH aJ r) (h:Fk N aH aJ=some r):B9 prog 299 [sr (V.int .i64) aH,vi aJ] (vi r):=by
 refine O0 cf0 func299 call299 ntmps299 ?_;intro E H0 K hE hK hO;cbv;apply I8 hE;cbv;obtain⟨s2,hx,h⟩:=bind_some h;refine H9 cf0 hE O7 (fun s1=>[(0,.v (sr (V.int .i64) aH)),fi 1 aJ,fi 7 (Ar.len aH),fi 8 s1]) (fun s1 H1=>C5 Eq H0 [] H1) (fun x e l H1=>match(generalizing:=false) x with| .inl y=>e= .exit 0∧l=[]∧C5 Eq H0 [] H1| .inr y=>e= .ret∧l=[fi 4 y]∧C5 Eq H0 [] H1) (by kernel_rfl) ?_ hx ?_ hO ?_
 ·intro s1 H o hO h
  repeat' (cbv;first|apply C4 hE h<;>intro _ h|refine D9 hE (fun _=>rfl) h fun _ h=>?_|(cases h;exact⟨_,_,rfl,⟨rfl,rfl,hO⟩,.e rfl .z,rfl⟩)|(cases h;exact⟨_,rfl,.e4 .z,rfl,hO⟩)|(cases h;exact⟨_,_,rfl,⟨rfl,rfl,hO⟩,.z,rfl⟩))
 ·exact .e4 .z
 clear hx
 rcases s2 with y4|y5
 ·rintro e l H ⟨rfl,rfl,hO⟩;cbv;cases h;exact hK hO .z
 rintro e l H ⟨rfl,rfl,hO⟩;cbv;cases h;exact hK hO .z
theorem c265 (N aH aJ r)(h:DF N aH aJ=some r):B9 prog 265 [sr (V.int .i64) aH,vi aJ] (.bool r):=by
 refine O0 cf0 func265 call265 ntmps265 ?_;intro E H0 K hE hK hO;cbv;refine B0 hE h (c299 N aH aJ) .z fun r1 h=>?_;cbv;cases h;exact hK hO .z
theorem c224 (N aA aH r) (h:Ia N aA aH=some r):B9 prog 224 [(C8 aA),sr eBg4 aH] (sr eBg4 r):=by
 refine O0 cf0 func224 call224 ntmps224 ?_;intro E H0 K hE hK hO;cbv;refine B0 hE h (c264 N aA) .z fun r1 h=>?_;cbv;apply I8 hE;cbv;replace hO:=hO.tl0 (t:=.nil) rfl;obtain⟨s4,hx,h⟩:=bind_some h;refine P6 cf0 hE O7 (γ:=G6) (fun s2 g=>[(5,.v (sr (V.int .i64) r1)),(6,.v (.sl (lst eBg4 s2.1) g)),(11,.v (sr eBg4 aH)),fi 12 (Ar.len aH),fi 13 s2.2]) (fun s2 g H1=>T3 g∧C5 Eq H0 [.tl g] H1) (fun x e l H1=>∃u1:G6,T3 u1∧e= .exit 0∧l=[(6,.v (.sl (lst eBg4 x) u1))]∧C5 Eq H0 [.tl u1] H1) (by kernel_rfl) ?_ .nil hx ?_ ?_ ?_
 ·rintro s2 t3 H o ⟨ht3,hO⟩ h
  repeat' (cbv;first|apply C4 hE h<;>intro _ h|refine B0 hE h (c265 _ _ _) .z fun _ h=>?_|refine D9 hE eBh8 h fun x5 h=>?_|(cases h;exact⟨_,t7,rfl,.e rfl (.e4 .z),rfl,ht7,hO⟩)|(cases h;exact⟨_,t3,rfl,.e rfl (.e4 .z),rfl,ht3,hO⟩)|(cases h;exact⟨_,_,rfl,⟨t3,ht3,rfl,rfl,hO⟩,.e rfl .z,rfl⟩)|refine S7 (f:=eBg4) hE W3 (by decide) hO 0 rfl ht3 (l:=s2.1) (m:=[x5]) .z (.lstc (.eq (eBh8 x5) .z) (.lst0)) h fun _ t7 H hO ht7 h=>?_)
 ·exact .e rfl (.v (.slt _ (.lst0)) (.e rfl (.e rfl (.e rfl (.z)))))
 ·exact⟨trivial,hO⟩
 clear hx;rintro e l H ⟨t9,ht9,rfl,rfl,hO⟩;cbv;cases h;exact hK hO (.ro _ _)
def cf61:=cfB [10] [(1,17),(2,11),(6,6)]
def K61 (N n:Nat):Prop:=∀(aF:K5) (aS:List (C7×B2)) (aA:A1) (aP:Int) (aH:List A6) (aI:List A6) (r:(B2×List (C7×B2))),K6 N n aF aS aA aP aH aI=some r→MJ prog 61 (fun id=>[.eref [sr eBg5 aF.prover.cQ,vi aF.prover.count,.map id] 0,(C8 aA),vi aP,sr eBg4 aH,sr eBg4 aI]) eBh9 eBi0 aS ((K0 r.1)) r.2
def cf129:Cf:=⟨[10,10000010],[(3,22),(4,14),(14,10)],[(81,12)],[0],[],[]⟩
def Bb7 (N n:Nat):Prop:=∀(aF:K5) (aS:List (C7×B2)) (aA:A1) (aP:Int) (aH:List A6) (aI:List A6) (r:(B2×List (C7×B2))),Z9 N n aF aS aA aP aH aI=some r→MJ prog 129 (fun id=>[.eref [sr eBg5 aF.prover.cQ,vi aF.prover.count,.map id] 0,(C8 aA),vi aP,sr eBg4 aH,sr eBg4 aI]) eBh9 eBi0 aS ((K0 r.1)) r.2
def cf169:Cf:=⟨[],[(15,7),(3000012,0),(3000012,1),(3000012,2),(3000012,4),(3000012,5),(3000012,6),(3000012,7),(3000012,8),(3000012,9),(3000012,11),(3000012,12),(3000012,13),(3000014,0),(3000014,1),(3000014,2),(3000014,3),(3000014,4),(3000014,5),(3000014,7),(3000014,8),(3000014,10)],[],[2000012,2000014],[],[]⟩
def Bb6 (N n:Nat):Prop:=∀(aF:K5) (aS:List (C7×B2)) (aA:A1) (aP:Int) (aH:List A6) (aI:List A6) (r:(((List A3)×Bool)×List (C7×B2))),T6 N n aF aS aA aP aH aI=some r→MJ prog 169 (fun id=>[.eref [sr eBg5 aF.prover.cQ,vi aF.prover.count,.map id] 0,(C8 aA),vi aP,sr eBg4 aH,sr eBg4 aI]) eBh9 eBi0 aS (.tup [sr eBg6 r.1.1,.bool r.1.2]) r.2
def cf170:=cfA [10,12,10000010]
def Bb5 (N n:Nat):Prop:=∀(aF:K5) (aS:List (C7×B2)) (aA:A1) (aP:Int) (aH:List A6) (aI:List A6) (r:(B2×List (C7×B2))),AQ N n aF aS aA aP aH aI=some r→MJ prog 170 (fun id=>[.eref [sr eBg5 aF.prover.cQ,vi aF.prover.count,.map id] 0,(C8 aA),vi aP,sr eBg4 aH,sr eBg4 aI]) eBh9 eBi0 aS ((K0 r.1)) r.2
def cf171:=cfC [10] [] [(61,15)]
def Bb4 (N n:Nat):Prop:=∀(aF:K5) (aS:List (C7×B2)) (aA:A1) (aP:Int) (aH:List A6) (aI:List A6) (r:(B2×List (C7×B2))),Y5 N n aF aS aA aP aH aI=some r→MJ prog 171 (fun id=>[.eref [sr eBg5 aF.prover.cQ,vi aF.prover.count,.map id] 0,(C8 aA),vi aP,sr eBg4 aH,sr eBg4 aI]) eBh9 eBi0 aS ((K0 r.1)) r.2
theorem k61 (N n:Nat)(ih129:Bb7 N n):K61 N (n+1):=by
 intro aF aS aA aP aH aI r h
 unfold K6 at h
 refine Ib (T:=TT) cf61 O7 func61 (by rfl) (by kernel_rfl) call61 ntmps61 (by rfl) (fun _=>rfl) ?_;intro E H0 id0 o0 K hE ho0 hO hK;cbv;refine E2 hE hO fun b1 H hO=>?_;cbv;refine D9 hE eBh8 h fun x2 h=>?_
 repeat' (cbv;first|apply I8 hE|refine D9 hE eBh8 h fun x3 h=>?_|refine Ad5 (eBj5 (⟨aP,x2.at_,x3.at_,Ar.len aI⟩:C7)) ?_)
 refine AO7 hE (z:=.agg [vi 0,vi 0,vi 0,vi 0,.sl [] .nil,.bool false]) eBj4 (kt:=178) (et:=115) (by kernel_rfl) (by kernel_rfl) AW0 ((⟨(⟨(⟨0,0,0⟩:Q4),0,[]⟩:A3),false⟩:B2):B2) (by kernel_rfl) (by rw[eBj4];exact .agg (.r (.r (.r (.r (.cons (.lit _ (E4)) .z)))))) hO ho0 1 rfl h fun r4 h=>?_;cbv;apply C4 hE h<;>intro _ h
 ·cbv;cases h
 cbv;refine EN (g:=fun r5=>(K0 r5)) hE hO ho0 1 rfl h (ih129 aF aS aA aP aH aI) .z fun r5 o6 H ho6 hO h=>?_;cbv;refine Wm (eBj5 (⟨aP,x2.at_,x3.at_,Ar.len aI⟩:C7)) ?_;refine AY6 hE (eBj4 _).symm (kt:=178) (et:=115) (by kernel_rfl) (by kernel_rfl) AW0 hO ho6 1 rfl h fun l8 o7 H ho7 h hO=>?_;cbv;refine C1 hE hO 0 rfl rfl fun H hO=>?_;cbv;apply C0 hE hO 0 rfl;cbv;cases h;exact hK _ _ _ 1 _ ho7 rfl hO .z
theorem k129 (N n:Nat) (ih61:K61 N n) (ih169:Bb6 N n) (ih170:Bb5 N n) (ih171:Bb4 N n):Bb7 N (n+1):=by
 intro aF aS aA aP aH aI r h
 unfold Z9 at h
 refine Ib (T:=TT) cf129 O7 func129 (by rfl) (by kernel_rfl) call129 ntmps129 (by rfl) (fun _=>rfl) ?_;intro E H0 id0 o0 K hE ho0 hO hK;cbv;refine E2 hE hO fun b1 H hO=>?_;cbv;refine AV7 hE (ds:=[vi 0,vi 0,vi 0,vi 0,sr eBg6 ([]),.bool false]) hO 0 rfl (.cons (.refl _) (.cons (.refl _) (.cons (.refl _) (.cons (.refl _) (.cons (.lit _ (E4)) (.refl _)))))) fun H hO=>?_;cbv;obtain⟨s2,hx,h⟩:=bind_some h;refine N2 cf129 hE O7 (fun e l H1=>∃u1:(List Value×List V),RA eBh9 eBi0 u1 s2.2∧e= .ret∧l=[(10,.v (.ref b1 0))]∧C5 Eq (upd H0 id0 none) [cb b1 (S9 s2.1),.blk id0 (.vm u1.1 u1.2)] H1) (by kernel_rfl) ?_ ?_
 ·clear h;have h:=hx;clear hx;cbv;refine C4 hE h (fun _ h=>?_) fun _ h=>?_
  ·cbv;refine I8 hE ?_;cbv;refine C4 hE h (fun _ h=>?_) fun _ h=>?_
   ·cbv;refine D9 hE eBh8 h fun x3 h=>?_;cbv;refine C4 hE h (fun _ h=>?_) fun _ h=>?_
    ·cbv;refine D9 hE eBh8 h fun x4 h=>?_;cbv;refine B0 hE h (c139 N aF.prover aA aI x4.at_) (.cons (.sub (d:=0) (sz:=2) (LH rfl)) (.refl _)) fun r5 h=>?_;cbv;refine D9 hE eBh8 h fun x6 h=>?_;cbv;refine D9 hE eBh4 h fun x7 h=>?_;cbv;refine E5 hE (g:=fun r8=>(Dy r8)) h (c116 N x7) (.refl _) fun r8 h=>?_;cbv;refine Mm hE (vs':=[vi r8.Time,vi r8.Source,vi r8.Seq,vi 0,sr eBg6 ([]),.bool r5]) hO 0 rfl rfl (.cons (.refl _) (.cons (.refl _) (.cons (.refl _) (.cons (.refl _) (.cons (.lit _ (E4)) (.refl _)))))) fun H hO=>?_;cbv;cases h;exact⟨_,⟨o0,ho0,rfl,rfl,hO⟩,.e rfl .z,rfl⟩
    cbv;refine D9 hE eBh8 h fun x9 h=>?_;cbv;refine D9 hE eBh4 h fun x10 h=>?_;cbv;refine E5 hE (g:=fun r11=>(Dy r11)) h (c116 N x10) (.refl _) fun r11 h=>?_;cbv;refine Mm hE (vs':=[vi r11.Time,vi r11.Source,vi r11.Seq,vi 0,sr eBg6 ([]),.bool false]) hO 0 rfl rfl (.cons (.refl _) (.cons (.refl _) (.cons (.refl _) (.cons (.refl _) (.cons (.lit _ (E4)) (.refl _)))))) fun H hO=>?_;cbv;cases h;exact⟨_,⟨o0,ho0,rfl,rfl,hO⟩,.e rfl .z,rfl⟩
   cbv;refine D9 hE eBh8 h fun x12 h=>?_;cbv;refine D9 hE eBh4 h fun x13 h=>?_;cbv;refine E5 hE (g:=fun r14=>(Dy r14)) h (c116 N x13) (.refl _) fun r14 h=>?_;cbv;refine Mm hE (vs':=[vi r14.Time,vi r14.Source,vi r14.Seq,vi 0,sr eBg6 ([]),.bool false]) hO 0 rfl rfl (.cons (.refl _) (.cons (.refl _) (.cons (.refl _) (.cons (.refl _) (.cons (.lit _ (E4)) (.refl _)))))) fun H hO=>?_;cbv;cases h;exact⟨_,⟨o0,ho0,rfl,rfl,hO⟩,.e rfl .z,rfl⟩
  cbv;refine C4 hE h (fun _ h=>?_) fun _ h=>?_
  ·cbv;refine EN (g:=fun r15=>.tup [sr eBg6 r15.1,.bool r15.2]) hE hO ho0 1 rfl h (ih169 aF aS aA aP aH aI) (.refl _) fun r15 o16 H ho16 hO h=>?_;cbv;refine C1 hE hO 0 rfl rfl fun H hO=>?_;cbv;cases h;exact⟨_,⟨o16,ho16,rfl,rfl,hO⟩,.e rfl .z,rfl⟩
  cbv;refine C4 hE h (fun _ h=>?_) fun _ h=>?_
  ·cbv;cases h
  cbv;obtain⟨s17,hx,h⟩:=bind_some h;refine N2 cf129 hE O7 (fun e l H1=>e= .normal∧l=[(0,.v (.eref [sr eBg5 aF.prover.cQ,vi aF.prover.count,.map id0] 0)),fi 2 aP,(3,.v (sr eBg4 aH)),(4,.v (sr eBg4 aI)),(6,.v (.eref (D2 aA) 0)),(10,.v (.ref b1 0)),(81,.b true)]∧C5 Eq (upd H0 id0 none) [cb b1 [vi 0,vi 0,vi 0,vi 0,sr eBg6 ([]),.bool false],.blk id0 (.vm o0.1 o0.2)] H1) (by kernel_rfl) ?_ ?_
  ·clear h;have h:=hx;clear hx;cbv;refine C4 hE h (fun _ h=>?_) fun _ h=>?_
   ·cbv;cases h;exact⟨_,⟨rfl,rfl,hO⟩,.e2 (.e4 (.b rfl (.z))),rfl⟩
   cbv;cases h
  clear hx;rintro e l H ⟨rfl,rfl,hO⟩;cbv;refine EN (g:=fun r18=>(K0 r18)) hE hO ho0 1 rfl h (ih171 aF aS aA aP aH aI) (.refl _) fun r18 o19 H ho19 hO h=>?_;cbv;refine C1 hE hO 0 rfl rfl fun H hO=>?_;cbv;cases h;exact⟨_,⟨o19,ho19,rfl,rfl,hO⟩,.e rfl .z,rfl⟩
 clear hx;rintro e l H ⟨q20,hq20,rfl,rfl,hO⟩;cbv;refine C0 hE hO 0 rfl ?_;cbv;cases h;exact hK _ _ _ 1 _ hq20 rfl hO (.refl _)
set_option maxHeartbeats 2000000 in
theorem k169 (N n:Nat) (ih61:K61 N n):Bb6 N (n+1):=by
 intro aF aS aA aP aH aI r h
 unfold T6 at h
 refine Ib (T:=TT) cf169 O7 func169 (by rfl) (by kernel_rfl) call169 ntmps169 (by rfl) (fun _=>rfl) ?_;intro E H0 id0 o0 K hE ho0 hO hK;cbv;apply I8 hE;cbv;refine Ak4 hE (f:=eBi4) (by decide) (z0:=([]:List A3)) ((.eq (eBi9 _) (.lit _ (E4)))) hO h fun l2 q1 H hq1 h hO=>?_;cbv;refine Ak4 hE (f:=V.bool) (by decide) (z0:=(false:Bool)) (.z) hO h fun l4 q3 H hq3 h hO=>?_;cbv;refine Dd hE hO hq3 0 rfl h fun h=>?_;cbv;refine HN hE (f:=V.bool) (esz:=1) (tz:=1) (off:=0) (u:=(fun x5:Bool=>true)) (fun _=>⟨.bool true,.refl _,rfl,rfl,rfl⟩) (by decide) hO hq3 0 rfl h fun l6 H hq3 h hO=>?_;cbv;obtain⟨s11,hx,h⟩:=bind_some h;refine P6 cf169 hE O7 (γ:=OG×OG×(List Value×List V)) (fun s7 g=>[(0,.v (.eref [sr eBg5 aF.prover.cQ,vi aF.prover.count,.map id0] 0)),fi 2 aP,(3,.v (sr eBg4 aH)),(4,.v (sr eBg4 aI)),(6,.v (.eref (D2 aA) 0)),fi 12 (Ar.len aH),(13,.v (.own g.2.1.id g.2.1.lo g.2.1.n)),(14,.v (.own g.1.id g.1.lo g.1.n)),fi 15 s7.1]) (fun s7 g H1=>BD g.1 (Ar.len s7.2.1)∧BD g.2.1 (Ar.len s7.2.2.1)∧RA eBh9 eBi0 g.2.2 s7.2.2.2∧C5 Eq (upd H0 id0 none) [.blk g.1.id (.arr 1 (g.1.pre++lst V.bool s7.2.1++g.1.rest)),.blk g.2.1.id (.arr 1 (g.2.1.pre++lst eBi4 s7.2.2.1++g.2.1.rest)),.blk id0 (.vm g.2.2.1 g.2.2.2)] H1) (fun x e l H1=>∃u1:OG,BD u1 (Ar.len x.1)∧∃u2:OG,BD u2 (Ar.len x.2.1)∧∃u3:(List Value×List V),RA eBh9 eBi0 u3 x.2.2∧e= .exit 0∧l=[(13,.v (.own u2.id u2.lo u2.n)),(14,.v (.own u1.id u1.lo u1.n))]∧C5 Eq (upd H0 id0 none) [ob u1 1 V.bool x.1,ob u2 1 eBi4 x.2.1,.blk id0 (.vm u3.1 u3.2)] H1) (by kernel_rfl) ?_ (⟨q3,q1,o0⟩) hx ?_ ?_ ?_
 ·rintro s7 ⟨q8,q9,q10⟩ H o ⟨hq8,hq9,hq10,hO⟩ h;cbv;apply C4 hE h<;>intro _ h
  ·cbv;obtain⟨s16,hx,h⟩:=bind_some h;refine P6 cf169 hE O7 (γ:=OG×OG×(List Value×List V)) (fun s12 g=>[(0,.v (.eref [sr eBg5 aF.prover.cQ,vi aF.prover.count,.map id0] 0)),fi 2 aP,(3,.v (sr eBg4 aH)),(4,.v (sr eBg4 aI)),(6,.v (.eref (D2 aA) 0)),fi 12 (Ar.len aH),(13,.v (.own g.2.1.id g.2.1.lo g.2.1.n)),(14,.v (.own g.1.id g.1.lo g.1.n)),fi 15 s7.1,fi 16 s12.1]) (fun s12 g H1=>BD g.1 (Ar.len s12.2.1)∧BD g.2.1 (Ar.len s12.2.2.1)∧RA eBh9 eBi0 g.2.2 s12.2.2.2∧C5 Eq (upd H0 id0 none) [.blk g.1.id (.arr 1 (g.1.pre++lst V.bool s12.2.1++g.1.rest)),.blk g.2.1.id (.arr 1 (g.2.1.pre++lst eBi4 s12.2.2.1++g.2.1.rest)),.blk id0 (.vm g.2.2.1 g.2.2.2)] H1) (fun x e l H1=>∃u1:OG,BD u1 (Ar.len x.1)∧∃u2:OG,BD u2 (Ar.len x.2.1)∧∃u3:(List Value×List V),RA eBh9 eBi0 u3 x.2.2∧e= .exit 2∧l=[(0,.v (.eref [sr eBg5 aF.prover.cQ,vi aF.prover.count,.map id0] 0)),fi 2 aP,(3,.v (sr eBg4 aH)),(4,.v (sr eBg4 aI)),(6,.v (.eref (D2 aA) 0)),fi 12 (Ar.len aH),(13,.v (.own u2.id u2.lo u2.n)),(14,.v (.own u1.id u1.lo u1.n)),fi 15 s7.1]∧C5 Eq (upd H0 id0 none) [ob u1 1 V.bool x.1,ob u2 1 eBi4 x.2.1,.blk id0 (.vm u3.1 u3.2)] H1) (by kernel_rfl) ?_ (⟨q8,q9,q10⟩) hx ?_ ?_ ?_
   ·rintro s12 ⟨q13,q14,q15⟩ H o ⟨hq13,hq14,hq15,hO⟩ h
    repeat' (cbv;first|apply C4 hE h<;>intro _ h|(cases h;exact⟨_,⟨q13,q14,q15⟩,rfl,.e2 (.e4 (.e4 .z)),rfl,hq13,hq14,hq15,hO⟩)|(cases h;exact⟨_,_,rfl,⟨q13,hq13,q14,hq14,q15,hq15,rfl,rfl,hO⟩,.e rfl (.e4 (.e4 .z)),rfl⟩)|refine Dd hE hO hq13 0 rfl h fun h=>?_|refine EM hE (fun _=>rfl) hO hq13 0 rfl h fun _ h=>?_)
    cbv;obtain⟨s19,hx,h⟩:=bind_some h;refine N2 cf169 hE O7 (fun e l H1=>∃u1:Nat,True∧∃u2:(List Value×List V),RA eBh9 eBi0 u2 s19.2∧e= .normal∧l=[(0,.v (.eref [sr eBg5 aF.prover.cQ,vi aF.prover.count,.map id0] 0)),fi 2 aP,(3,.v (sr eBg4 aH)),(4,.v (sr eBg4 aI)),(6,.v (.eref (D2 aA) 0)),fi 12 (Ar.len aH),(13,.v (.own q14.id q14.lo q14.n)),(14,.v (.own q13.id q13.lo q13.n)),fi 15 s7.1,fi 16 s12.1,(17,.v (.ref u1 0))]∧C5 Eq (upd H0 id0 none) [cb u1 (S9 s19.1),ob q13 1 V.bool s12.2.1,ob q14 1 eBi4 s12.2.2.1,.blk id0 (.vm u2.1 u2.2)] H1) (by kernel_rfl) ?_ ?_
    ·clear h;have h:=hx;cbv;obtain⟨x140,ex140,h⟩:=bind_some h;obtain⟨l420,el420,h⟩:=bind_some h;obtain⟨l580,el580,h⟩:=bind_some h;obtain⟨r620,er620,h⟩:=bind_some h;obtain⟨r660,er660,h⟩:=bind_some h
     repeat' first|refine And.intro ?_ ?_|(refine D9 hE eBh2 (P9 ex140) fun x140 hh=>?_;obtain rfl:=F2 hh;cbv)|(refine Ct hE (f:=eBg4) W3 (P9 el420) fun l420 t421 hh=>?_;obtain rfl:=F2 hh;cbv)|(refine Ct hE (f:=eBg4) W3 (P9 el580) fun l580 t581 hh=>?_;obtain rfl:=F2 hh;cbv)|(refine B0 hE (g:=fun r620=>sr eBg4 r620) (P9 er620) (c140 N aI l580) (.r (.cons (.ro _ _) .z)) fun r620 hh=>?_;obtain rfl:=F2 hh;cbv)|(refine EN (g:=fun r660=>(K0 r660)) hE hO hq15 2 rfl (P9 er660) (ih61 aF s12.2.2.2 x140 (Ar.ar .add .i64 aP 1) l420 r620) (.r (.r (.r (.cons (.ro _ _) .z)))) fun r660 o661 H ho661 hO hh=>?_;obtain rfl:=F2 hh;cbv)|(refine E2 hE hO fun b700 H hO=>?_;cbv)|(refine C1 hE hO 0 rfl rfl fun H hO=>?_;cbv)|(have h:=F2 h;subst h;exact⟨_,⟨b700,trivial,o661,ho661,rfl,rfl,hO⟩,.e rfl (.e2 (.e4 (.e4 .z))),rfl⟩)|(refine EN (g:=fun r660=>(K0 r660)) hE hO hq15 3 rfl (P9 er660) (ih61 aF s12.2.2.2 x140 (Ar.ar .add .i64 aP 1) l420 r620) (.r (.r (.r (.cons (.ro _ _) .z)))) fun r660 o661 H ho661 hO hh=>?_;obtain rfl:=F2 hh;cbv)
    clear hx;rintro e l H ⟨b820,hb820,q821,hq821,rfl,rfl,hO⟩;cbv;apply C0 hE hO 0 rfl;cbv;apply C4 hE h<;>intro _ h
    ·cbv;obtain⟨s822,hx,h⟩:=bind_some h;refine N2 cf169 hE O7 (fun e l H1=>∃u1:OG,BD u1 (Ar.len s822.1)∧∃u2:OG,BD u2 (Ar.len s822.2)∧e= .normal∧l=[(0,.v (.eref [sr eBg5 aF.prover.cQ,vi aF.prover.count,.map id0] 0)),fi 2 aP,(3,.v (sr eBg4 aH)),(4,.v (sr eBg4 aI)),(6,.v (.eref (D2 aA) 0)),fi 12 (Ar.len aH),(13,.v (.own u2.id u2.lo u2.n)),(14,.v (.own u1.id u1.lo u1.n)),fi 15 s7.1,fi 16 s12.1]∧C5 Eq (upd H0 id0 none) [cb b820 (S9 s19.1),ob u1 1 V.bool s822.1,ob u2 1 eBi4 s822.2,.blk id0 (.vm q821.1 q821.2)] H1) (by kernel_rfl) ?_ ?_
     ·clear h;have h:=hx;cbv;obtain⟨u1182_0,eu1182_0,h⟩:=bind_some h;obtain⟨x1223,ex1223,h⟩:=bind_some h;obtain⟨l1264,el1264,h⟩:=bind_some h;obtain⟨u1302_0,eu1302_0,h⟩:=bind_some h;obtain⟨l1344,el1344,h⟩:=bind_some h;obtain⟨u1382_0,eu1382_0,h⟩:=bind_some h;obtain⟨l1424,el1424,h⟩:=bind_some h
      repeat' first|refine And.intro ?_ ?_|(refine C0 hE hO 0 rfl ?_;cbv)|(refine Dd hE hO hq14 2 rfl (P9 eu1182_0) fun hh=>?_;clear hh;cbv)|(refine EM hE eBi9 hO hq14 2 rfl (P9 ex1223) fun x1223 hh=>?_;obtain rfl:=F2 hh;cbv)|(refine S7 (f:=eBg6) hE J8 (by decide) (hO.tl0 (t:=.full) rfl) 0 rfl trivial (l:=[s19.1.d]) (m:=x1223) (.lstc (.eq (eBg8 s19.1.d) .z) (.lst0)) .z (P9 el1264) fun l1264 t1263 H hO ht1263 hh=>?_;obtain rfl:=F2 hh;cbv)|(refine Dd hE hO hq14 3 rfl (P9 eu1302_0) fun hh=>?_;clear hh;cbv)|(refine HN hE (f:=eBi4) (esz:=1) (tz:=1) (off:=0) (u:=(fun x1343:List A3=>l1264)) (fun _=>⟨_,.eq (eBi9 _) (.ro _ _),(by rw[eBi9];rfl),RD _,rfl⟩) (by decide) hO hq14 3 rfl (P9 el1344) fun l1344 H hq14 hh hO=>?_;obtain rfl:=F2 hh;cbv)|(refine Dd hE hO hq13 2 rfl (P9 eu1382_0) fun hh=>?_;clear hh;cbv)|(refine HN hE (f:=V.bool) (esz:=1) (tz:=1) (off:=0) (u:=(fun x1423:Bool=>true)) (fun _=>⟨.bool true,.refl _,rfl,rfl,rfl⟩) (by decide) hO hq13 2 rfl (P9 el1424) fun l1424 H hq13 hh hO=>?_;obtain rfl:=F2 hh;cbv)|(have h:=F2 h;subst h;exact⟨_,⟨q13,hq13,q14,hq14,rfl,rfl,hO.tail⟩,.e2 (.e4 (.e4 .z)),rfl⟩)
     clear hx;rintro e l H ⟨q1503,hq1503,q1504,hq1504,rfl,rfl,hO⟩;cbv;cases h;exact⟨_,⟨q1503,q1504,q821⟩,rfl,.e2 (.e4 (.e4 .z)),rfl,hq1503,hq1504,hq821,hO.tail⟩
    cbv;cases h;exact⟨_,⟨q13,q14,q821⟩,rfl,.e2 (.e4 (.e4 .z)),rfl,hq13,hq14,hq821,hO.tail⟩
   ·exact .e2 (.e4 (.e4 .z))
   ·exact⟨hq8,hq9,hq10,hO⟩
   clear hx;rintro e l H ⟨q1505,hq1505,q1506,hq1506,q1507,hq1507,rfl,rfl,hO⟩;cbv;cases h;exact⟨_,⟨q1505,q1506,q1507⟩,rfl,.e rfl (.e4 (.e4 .z)),rfl,hq1505,hq1506,hq1507,hO⟩
  cbv;cases h;exact⟨_,_,rfl,⟨q8,hq8,q9,hq9,q10,hq10,rfl,rfl,hO⟩,.e2 .z,rfl⟩
 ·exact .e rfl (.e4 (.e4 .z))
 ·exact⟨hq3,hq1,ho0,hO⟩
 clear hx;rintro e l H ⟨q1508,hq1508,q1509,hq1509,q1510,hq1510,rfl,rfl,hO⟩;cbv;refine Dd hE hO hq1509 1 rfl h fun h=>?_;cbv;refine EM hE eBi9 hO hq1509 1 rfl h fun x1511 h=>?_;cbv;refine Dd hE hO hq1508 0 rfl h fun h=>?_;cbv;refine EM hE (fun _=>rfl) hO hq1508 0 rfl h fun x1512 h=>?_;cbv;cases h;exact hK _ _ _ 2 _ hq1510 rfl hO .z
theorem k170 (N n:Nat) (ih61:K61 N n):Bb5 N (n+1):=by
 intro aF aS aA aP aH aI r h
 unfold AQ at h
 refine Ib (T:=TT) cf170 O7 func170 (by rfl) (by kernel_rfl) call170 ntmps170 (by rfl) (fun _=>rfl) ?_;intro E H0 id0 o0 K hE ho0 hO hK;cbv;refine E2 hE hO fun b1 H hO=>?_;cbv;refine AV7 hE (ds:=[vi 0,vi 0,vi 0,vi 0,sr eBg6 ([]),.bool false]) hO 0 rfl (.r (.r (.r (.r (.cons (.lit _ (E4)) .z))))) fun H hO=>?_;cbv;apply I8 hE;cbv;obtain⟨s3,hx,h⟩:=bind_some h;refine H9 cf170 hE O7 (fun s2=>[(0,.v (.eref [sr eBg5 aF.prover.cQ,vi aF.prover.count,.map id0] 0)),fi 2 s2.1,(3,.v (sr eBg4 aH)),(4,.v (sr eBg4 aI)),(10,.v (.ref b1 0)),(20,.v (sr eBh0 aA.cL)),fi 21 (Ar.len aA.cL),fi 22 s2.2]) (fun s2 H1=>C5 Eq (upd H0 id0 none) [cb b1 [vi 0,vi 0,vi 0,vi 0,sr eBg6 ([]),.bool false],.blk id0 (.vm o0.1 o0.2)] H1) (fun x e l H1=>match(generalizing:=false) x with| .inl y=>e= .exit 0∧l=[(10,.v (.ref b1 0))]∧C5 Eq (upd H0 id0 none) [cb b1 [vi 0,vi 0,vi 0,vi 0,sr eBg6 ([]),.bool false],.blk id0 (.vm o0.1 o0.2)] H1| .inr y=>∃u1:(List Value×List V),RA eBh9 eBi0 u1 y.2∧e= .ret∧l=[(10,.v (.ref b1 0))]∧C5 Eq (upd H0 id0 none) [cb b1 (S9 y.1),.blk id0 (.vm u1.1 u1.2)] H1) (by kernel_rfl) ?_ hx ?_ hO ?_
 ·intro s2 H o hO h
  repeat' (cbv;first|apply C4 hE h<;>intro _ h|apply I8 hE|refine B0 hE h (c224 _ _ _) .z fun _ h=>?_|refine EN (g:=fun r7=>(K0 r7)) hE hO ho0 2 rfl h (ih61 aF aS x4 s2.1 aH aI) .z fun r7 o8 H ho8 hO h=>?_|refine B0 hE h (c214 _ _ _) .z fun _ h=>?_|refine D9 hE eBh2 h fun x4 h=>?_|apply C0 hE hO 0 rfl|refine C1 hE hO 0 rfl rfl fun H hO=>?_|refine Mm hE (vs':=[vi 0,vi 0,vi 0,vi s2.2,sr eBg6 ([r7.1.d]),.bool r7.1.ok]) hO 1 rfl rfl (.r (.r (.r (.r (.cons (.lit _ (G8 ((eBg8 r7.1.d).symm) (E4))) .z))))) fun H hO=>?_|refine E2 hE hO fun _ H hO=>?_|(cases h;exact⟨_,_,rfl,⟨o8,ho8,rfl,rfl,hO.tail⟩,.e rfl .z,rfl⟩)|(cases h;exact⟨_,rfl,.e4 (.e4 .z),rfl,hO.tail⟩)|(cases h;exact⟨_,_,rfl,⟨rfl,rfl,hO⟩,.e rfl .z,rfl⟩))
 ·exact .e4 (.e4 .z)
 clear hx
 rcases s3 with y10|y11
 ·rintro e l H ⟨rfl,rfl,hO⟩;cbv;refine Mm hE (vs':=[vi 0,vi 0,vi 0,vi 0,sr eBg6 ([]),.bool false]) hO 0 rfl rfl (.r (.r (.r (.r (.cons (.lit _ (E4)) .z))))) fun H hO=>?_;cbv;apply C0 hE hO 0 rfl;cbv;cases h;exact hK _ _ _ 1 _ ho0 rfl hO .z
 rintro e l H ⟨q12,hq12,rfl,rfl,hO⟩;cbv;apply C0 hE hO 0 rfl;cbv;cases h;exact hK _ _ _ 1 _ hq12 rfl hO .z
theorem k171 (N n:Nat) (ih61:K61 N n):Bb4 N (n+1):=by
 intro aF aS aA aP aH aI r h
 unfold Y5 at h
 refine Ib (T:=TT) cf171 O7 func171 (by rfl) (by kernel_rfl) call171 ntmps171 (by rfl) (fun _=>rfl) ?_;intro E H0 id0 o0 K hE ho0 hO hK;cbv;refine E2 hE hO fun b1 H hO=>?_;cbv;refine I8 hE ?_;cbv;replace hO:=hO.tl0 (t:=.nil) rfl;obtain⟨s5,hx,h⟩:=bind_some h;refine P6 cf171 hE O7 (γ:=G6×(List Value×List V)) (fun s2 g=>[(0,.v (.eref [sr eBg5 aF.prover.cQ,vi aF.prover.count,.map id0] 0)),fi 2 s2.1,(3,.v (sr eBg4 aH)),(4,.v (sr eBg4 s2.2.1)),(6,.v (.eref (D2 aA) 0)),(10,.v (.ref b1 0)),(11,.v (.sl (lst eBg6 s2.2.2.1) g.1)),fi 12 s2.2.2.2.1,fi 13 s2.2.2.2.2.1,(23,.v (sr eBh0 aA.cL)),fi 24 (Ar.len aA.cL),fi 25 s2.2.2.2.2.2.1]) (fun s2 g H1=>T3 g.1∧RA eBh9 eBi0 g.2 s2.2.2.2.2.2.2∧C5 Eq (upd H0 id0 none) [.tl g.1,cb b1 [vi 0,vi 0,vi 0,vi 0,.sl [] .nil,.bool false],.blk id0 (.vm g.2.1 g.2.2)] H1) (fun x e l H1=>∃u1:G6,T3 u1∧∃u2:(List Value×List V),RA eBh9 eBi0 u2 x.2.2∧e= .exit 0∧l=[(3,.v (sr eBg4 aH)),(10,.v (.ref b1 0)),(11,.v (.sl (lst eBg6 x.1) u1)),fi 12 x.2.1]∧C5 Eq (upd H0 id0 none) [.tl u1,cb b1 [vi 0,vi 0,vi 0,vi 0,.sl [] .nil,.bool false],.blk id0 (.vm u2.1 u2.2)] H1) (by kernel_rfl) ?_ (⟨.nil,o0⟩) hx ?_ ?_ ?_
 ·rintro s2 ⟨t3,q4⟩ H o ⟨ht3,hq4,hO⟩ h;clear hx;cbv;refine C4 hE h (fun _ h=>?_) fun _ h=>?_
  ·cbv;refine D9 hE eBh2 h fun x6 h=>?_;cbv;refine B0 hE h (c224 N x6 aH) (.refl _) fun r7 h=>?_;cbv;refine I8 hE ?_;cbv;refine C4 hE h (fun _ h=>?_) fun _ h=>?_
   ·cbv;cases h
   cbv;refine C4 hE h (fun _ h=>?_) fun _ h=>?_
   ·cbv;refine D9 hE eBh8 h fun x8 h=>?_;cbv;refine C4 hE h (fun _ h=>?_) fun _ h=>?_
    ·cbv;cases h
    cbv;refine EN (g:=fun r9=>(K0 r9)) hE hO hq4 2 rfl h (ih61 aF s2.2.2.2.2.2.2 x6 s2.1 r7 s2.2.1) (.refl _) fun r9 o10 H ho10 hO h=>?_;cbv;refine C4 hE h (fun _ h=>?_) fun _ h=>?_
    ·cbv;cases h
    cbv;obtain⟨s11,hx,h⟩:=bind_some h;refine N2 cf171 hE O7 (fun e l H1=>e= .normal∧l=[(0,.v (.eref [sr eBg5 aF.prover.cQ,vi aF.prover.count,.map id0] 0)),fi 2 s2.1,(3,.v (sr eBg4 aH)),(4,.v (sr eBg4 s11.1)),(6,.v (.eref (D2 aA) 0)),(10,.v (.ref b1 0)),(11,.v (.sl (lst eBg6 s2.2.2.1) t3)),fi 12 s2.2.2.2.1,fi 13 s11.2,(15,.v (.eref (D2 x6) 0)),(16,.v (sr eBg4 r7)),(17,.v (.eref (S9 r9.1) 0)),(23,.v (sr eBh0 aA.cL)),fi 24 (Ar.len aA.cL),fi 25 s2.2.2.2.2.2.1]∧C5 Eq (upd H0 id0 none) [.tl t3,cb b1 [vi 0,vi 0,vi 0,vi 0,.sl [] .nil,.bool false],.blk id0 (.vm o10.1 o10.2)] H1) (by kernel_rfl) ?_ ?_
    ·clear h;have h:=hx;clear hx;cbv;refine C4 hE h (fun _ h=>?_) fun _ h=>?_
     ·cbv;refine B0 hE h (c140 N s2.2.1 r7) (.refl _) fun r12 h=>?_;cbv;refine B0 hE h (c142 N r7) (.refl _) fun r13 h=>?_;cbv;cases h;exact⟨_,⟨rfl,rfl,hO⟩,.e rfl (.e2 (.e4 (.e4 (.e4 .z)))),rfl⟩
     cbv;cases h;exact⟨_,⟨rfl,rfl,hO⟩,.e rfl (.e2 (.e4 (.e4 (.e4 .z)))),rfl⟩
    clear hx;rintro e l H ⟨rfl,rfl,hO⟩;cbv;refine B0 hE h (c214 N N x6) (.refl _) fun r14 h=>?_;cbv;refine S7 (f:=eBg6) hE J8 (by decide) hO 0 rfl ht3 (l:=s2.2.2.1) (m:=[r9.1.d]) (.refl _) (.lstc (.eq (eBg8 r9.1.d) (.refl _)) (.lst0)) h fun l16 t15 H hO ht15 h=>?_;cbv;refine I8 hE ?_;cbv;cases h;exact⟨_,⟨t15,o10⟩,rfl,.e4 (.e4 (.e4 .z)),rfl,ht15,ho10,hO⟩
   cbv;refine EN (g:=fun r17=>(K0 r17)) hE hO hq4 2 rfl h (ih61 aF s2.2.2.2.2.2.2 x6 s2.1 r7 s2.2.1) (.refl _) fun r17 o18 H ho18 hO h=>?_;cbv;refine C4 hE h (fun _ h=>?_) fun _ h=>?_
   ·cbv;cases h
   cbv;obtain⟨s19,hx,h⟩:=bind_some h;refine N2 cf171 hE O7 (fun e l H1=>e= .normal∧l=[(0,.v (.eref [sr eBg5 aF.prover.cQ,vi aF.prover.count,.map id0] 0)),fi 2 s2.1,(3,.v (sr eBg4 aH)),(4,.v (sr eBg4 s19.1)),(6,.v (.eref (D2 aA) 0)),(10,.v (.ref b1 0)),(11,.v (.sl (lst eBg6 s2.2.2.1) t3)),fi 12 s2.2.2.2.1,fi 13 s19.2,(15,.v (.eref (D2 x6) 0)),(16,.v (sr eBg4 r7)),(17,.v (.eref (S9 r17.1) 0)),(23,.v (sr eBh0 aA.cL)),fi 24 (Ar.len aA.cL),fi 25 s2.2.2.2.2.2.1]∧C5 Eq (upd H0 id0 none) [.tl t3,cb b1 [vi 0,vi 0,vi 0,vi 0,.sl [] .nil,.bool false],.blk id0 (.vm o18.1 o18.2)] H1) (by kernel_rfl) ?_ ?_
   ·clear h;have h:=hx;clear hx;cbv;refine C4 hE h (fun _ h=>?_) fun _ h=>?_
    ·cbv;refine B0 hE h (c140 N s2.2.1 r7) (.refl _) fun r20 h=>?_;cbv;refine B0 hE h (c142 N r7) (.refl _) fun r21 h=>?_;cbv;cases h;exact⟨_,⟨rfl,rfl,hO⟩,.e rfl (.e2 (.e4 (.e4 (.e4 .z)))),rfl⟩
    cbv;cases h;exact⟨_,⟨rfl,rfl,hO⟩,.e rfl (.e2 (.e4 (.e4 (.e4 .z)))),rfl⟩
   clear hx;rintro e l H ⟨rfl,rfl,hO⟩;cbv;refine B0 hE h (c214 N N x6) (.refl _) fun r22 h=>?_;cbv;refine S7 (f:=eBg6) hE J8 (by decide) hO 0 rfl ht3 (l:=s2.2.2.1) (m:=[r17.1.d]) (.refl _) (.lstc (.eq (eBg8 r17.1.d) (.refl _)) (.lst0)) h fun l24 t23 H hO ht23 h=>?_;cbv;refine I8 hE ?_;cbv;cases h;exact⟨_,⟨t23,o18⟩,rfl,.e4 (.e4 (.e4 .z)),rfl,ht23,ho18,hO⟩
  cbv;cases h;exact⟨_,_,rfl,⟨t3,ht3,q4,hq4,rfl,rfl,hO⟩,.e4 .z,rfl⟩
 ·exact .e2 (.e4 (.v (.slt _ (.lst0)) (.e rfl (.e rfl (.e rfl (.e rfl (.e rfl (.z))))))))
 ·exact⟨trivial,ho0,hO⟩
 clear hx;rintro e l H ⟨t25,ht25,q26,hq26,rfl,rfl,hO⟩;cbv;refine I8 hE ?_;cbv;refine C1 hE hO 1 rfl rfl fun H hO=>?_;cbv;refine C0 hE hO 1 rfl ?_;cbv;cases h;exact hK _ _ _ 2 _ hq26 rfl hO (.agg (.cons (.refl _) (.cons (.refl _) (.cons (.refl _) (.cons (.refl _) (.cons (.ro _ _) (.refl _)))))))
theorem Nv (N:Nat):∀n,K61 N n∧Bb7 N n∧Bb6 N n∧Bb5 N n∧Bb4 N n:=by
 intro n
 induction n with
 |zero=>exact⟨(by intro aF aS aA aP aH aI r h;unfold K6 at h;cases h),(by intro aF aS aA aP aH aI r h;unfold Z9 at h;cases h),(by intro aF aS aA aP aH aI r h;unfold T6 at h;cases h),(by intro aF aS aA aP aH aI r h;unfold AQ at h;cases h),(by intro aF aS aA aP aH aI r h;unfold Y5 at h;cases h)⟩
 |succ n ih=>
  obtain⟨ih61,ih129,ih169,ih170,ih171⟩:=ih;exact⟨k61 N n ih129,k129 N n ih61 ih169 ih170 ih171,k169 N n ih61,k170 N n ih61,k171 N n ih61⟩
theorem c61 (N n aF aS aA aP aH aI r)(h:K6 N n aF aS aA aP aH aI=some r):MJ prog 61 (fun id=>[.eref [sr eBg5 aF.prover.cQ,vi aF.prover.count,.map id] 0,(C8 aA),vi aP,sr eBg4 aH,sr eBg4 aI]) eBh9 eBi0 aS ((K0 r.1)) r.2:=(Nv N n).1 aF aS aA aP aH aI r h
def cf16:=cfA [6]
theorem c16 (N aA aH bH r) (h:Ka N aA aH bH=some r):B9 prog 16 [(C8 aA),sr eBg5 aH,(Kg bH)] (.tup [(G0 r.1),vi r.2]):=by
 refine O0 cf16 func16 call16 ntmps16 ?_;intro E H0 K hE hK hO
 repeat' (cbv;first|apply C4 hE h<;>intro _ h|apply I8 hE|refine B0 hE h (c55 _ _) .z fun _ h=>?_|refine B0 hE h (c56 _ _) .z fun _ h=>?_|refine B0 hE h (c59 _ _) .z fun _ h=>?_|refine E2 hE hO fun b1 H hO=>?_|(cases h;done))
 cbv;replace hO:=hO.tl0 (t:=.nil) rfl;obtain⟨s7,hx,h⟩:=bind_some h;refine P6 cf16 hE O7 (γ:=G6) (fun s5 g=>[(1,.v (sr eBg5 aH)),(3,.v (.eref (D2 aA) 0)),(6,.v (.ref b1 0)),(11,.v (.sl (lst eBg4 s5.1) g)),(43,.v (sr eBh1 bH.cR)),fi 44 (Ar.len bH.cR),fi 45 s5.2]) (fun s5 g H1=>T3 g∧C5 Eq H0 [.tl g,cb b1 [vi 0,vi 0,vi 0,vi 0,.sl [] .nil]] H1) (fun x e l H1=>∃u1:G6,T3 u1∧e= .exit 0∧l=[(1,.v (sr eBg5 aH)),(3,.v (.eref (D2 aA) 0)),(6,.v (.ref b1 0)),(11,.v (.sl (lst eBg4 x) u1))]∧C5 Eq H0 [.tl u1,cb b1 [vi 0,vi 0,vi 0,vi 0,.sl [] .nil]] H1) (by kernel_rfl) ?_ .nil hx ?_ ?_ ?_
 ·rintro s5 t6 H o ⟨ht6,hO⟩ h
  repeat' (cbv;first|apply C4 hE h<;>intro _ h|refine B0 hE h (c60 _ _ _) .z fun r9 h=>?_|refine D9 hE eBi1 h fun x8 h=>?_|(cases h;done)|(cases h;exact⟨_,t10,rfl,.e rfl (.e2 (.e4 .z)),rfl,ht10,hO⟩)|(cases h;exact⟨_,_,rfl,⟨t6,ht6,rfl,rfl,hO⟩,.e4 .z,rfl⟩)|refine S7 (f:=eBg4) hE W3 (by decide) hO 0 rfl ht6 (l:=s5.1) (m:=[(⟨x8.Var,r9.1⟩:A6)]) .z (.lstc (.eq (eBh8 (⟨x8.Var,r9.1⟩:A6)) .z) (.lst0)) h fun _ t10 H hO ht10 h=>?_)
 ·exact .e rfl (.e2 (.v (.slt _ (.lst0)) (.e rfl (.e rfl (.e rfl (.z))))))
 ·exact⟨trivial,hO⟩
 clear hx;rintro e l H ⟨t12,ht12,rfl,rfl,hO⟩;cbv;refine Bd7 hE eBh9 eBi0 hO fun m13 o14 H ho14 hO=>?_;cbv;refine EN (g:=fun r15=>(K0 r15)) hE hO ho14 0 rfl h (c61 N N (⟨(⟨aH,0⟩:E8)⟩:K5) ([]:List (C7×B2)) aA 0 s7 ([])) (.r (.r (.r (.cons (.ro _ _) (.cons (.lit _ (E4)) .z))))) fun r15 o16 H ho16 hO h=>?_;cbv;apply C4 hE h<;>intro _ h
 ·cbv;cases h
 cbv;refine C1 hE hO 2 rfl rfl fun H hO=>?_;cbv;apply C0 hE hO 2 rfl;cbv;cases h;exact hK hO .z
theorem c227 (N aF aT r)(h:Ic N aF aT=some r):B9 prog 227 [.int .u64 aF,.int .u64 aT] (.tup [.int .u64 r.1,.int .u64 r.2]):=by
 refine O0 cf0 func227 call227 ntmps227 ?_;intro E H0 K hE hK hO
 repeat' (cbv;first|(cases h;exact hK hO .z)|apply Ak5 hE (Zu hE rfl))
theorem c176 (N aF aT r)(h:PL N aF aT=some r):B9 prog 176 [.int .u64 aF,.int .u64 aT] (.tup [.int .u64 r.1,.int .u64 r.2]):=by
 refine O0 cf0 func176 call176 ntmps176 ?_;intro E H0 K hE hK hO;cbv;refine B0 hE h (c227 N aF aT) .z fun r1 h=>?_;cbv;cases h;exact hK hO .z
def cf137:Cf:=⟨[],[(3000009,0),(3000009,1),(3000009,2),(3000009,4),(3000009,5),(3000009,8),(3000009,9)],[(10,3),(26,6)],[2000009],[],[]⟩
set_option maxHeartbeats 2000000 in
theorem c137 (N aF bZ r) (h:Bv N aF bZ=some r):B9 prog 137 [sr eBh0 aF,vi bZ] (sr eBh0 r):=by
 refine Fg (T:=TT) cf137 O7 func137 (by rfl) (by kernel_rfl) call137 ntmps137 (by rfl) (by rfl) ?_;intro E H0 K hE hK hF;have hO:C5 Eq H0 [] H0:=.start M5 rfl;cbv;obtain⟨s1,hx,h⟩:=bind_some h;refine N2 cf137 hE O7 (fun e l H1=>e= .normal∧l=[(0,.v (sr eBh0 aF)),fi 1 bZ]∧C5 Eq H0 [] H1) (by kernel_rfl) ?_ ?_
 ·clear h;have h:=hx;cbv;apply C4 hE h<;>intro _ h
  ·cbv;cases h
  cbv;cases h;exact⟨_,⟨rfl,rfl,hO⟩,.e2 .z,rfl⟩
 clear hx;rintro e l H ⟨rfl,rfl,hO⟩
 repeat' (cbv;first|apply I8 hE|refine B0 hE h (c176 _ _ _) .z fun r2 h=>?_)
 cbv;obtain⟨s3,hx,h⟩:=bind_some h;refine N2 cf137 hE O7 (fun e l H1=>e= .normal∧l=[(0,.v (sr eBh0 aF)),(6,.v (.int .u64 r2.2))]∧C5 Eq H0 [] H1) (by kernel_rfl) ?_ ?_
 ·clear h;have h:=hx;cbv;apply C4 hE h<;>intro _ h
  ·cbv;cases h
  cbv;cases h;exact⟨_,⟨rfl,rfl,hO⟩,.e2 .z,rfl⟩
 clear hx;rintro e l H ⟨rfl,rfl,hO⟩;cbv;refine Ak4 hE (f:=eBh0) (by decide) (z0:=((⟨0,[],0,0,0,0,(⟨0,[],0,0,0,(⟨0,0,⟨#[]⟩⟩:B1)⟩:B6)⟩:A1):A1)) ((.eq (eBh2 _) (.agg (.r (.cons (.lit _ (E4)) (.r (.r (.r (.r (.r (.cons (.lit _ (E4)) .z))))))))))) hO h fun l5 q4 H hq4 h hO=>?_;cbv;refine AO8 (f:=eBh0) hE hO hq4 0 rfl (m:=aF) (Qe (f:=eBh0) hE LS .z) h fun p6 H hq4 hO h=>?_;cbv;obtain⟨s9,hx,h⟩:=bind_some h;refine P6 cf137 hE O7 (γ:=OG) (fun s7 g=>[(7,.v (.own g.id g.lo g.n)),fi 8 s7.1]) (fun s7 g H1=>BD g (Ar.len s7.2)∧C5 Eq H0 [ob g 14 eBh0 s7.2] H1) (fun x e l H1=>∃u1:OG,BD u1 (Ar.len x)∧e= .exit 0∧l=[(7,.v (.own u1.id u1.lo u1.n))]∧C5 Eq H0 [ob u1 14 eBh0 x] H1) (by kernel_rfl) ?_ q4 hx ?_ ?_ ?_
 ·rintro s7 q8 H o ⟨hq8,hO⟩ h;cbv;apply Td hE hq8;cbv;apply C4 hE h<;>intro _ h
  ·cbv;obtain⟨s10,hx,h⟩:=bind_some h;refine N2 cf137 hE O7 (fun e l H1=>∃u1:OG,BD u1 (Ar.len s10.2)∧e= .normal∧l=[(7,.v (.own u1.id u1.lo u1.n)),fi 8 s10.1]∧C5 Eq H0 [ob u1 14 eBh0 s10.2] H1) (by kernel_rfl) ?_ ?_
   ·clear h;have h:=hx;cbv;obtain⟨l132,el132,h⟩:=bind_some h;obtain⟨l252,el252,h⟩:=bind_some h;obtain⟨p291,ep291,h⟩:=bind_some h
    repeat' first|refine And.intro ?_ ?_|(refine At3 hE hO hq8 0 rfl (P9 el132) fun l132 q131 hq131 hh=>?_;obtain rfl:=F2 hh;cbv)|(refine At2 hE hO hq8 0 rfl (P9 el252) fun l252 q251 hq251 hh=>?_;obtain rfl:=F2 hh;cbv)|(refine Yu (f:=eBh0) hE hO hq8 0 rfl hq131 (m:=l252) (hq251) (P9 ep291) fun p291 H hq8 hO hh=>?_;obtain rfl:=F2 hh;cbv)|(have h:=F2 h;subst h;exact⟨_,⟨q8,hq8,rfl,rfl,hO⟩,.e2 .z,rfl⟩)
   clear hx;rintro e l H ⟨q451,hq451,rfl,rfl,hO⟩;cbv;cases h;exact⟨_,q451,rfl,.e2 .z,rfl,hq451,hO⟩
  cbv;cases h;exact⟨_,_,rfl,⟨q8,hq8,rfl,rfl,hO⟩,.e rfl .z,rfl⟩
 ·exact .e2 .z
 ·exact⟨hq4,hO⟩
 clear hx;rintro e l H ⟨q452,hq452,rfl,rfl,hO⟩;cbv;cases h;exact hF q452 _ _ 0 _ _ hO rfl (Hl hE hq452) .z
def cf82:Cf:=⟨[7],[(18,5)],[],[0],[],[]⟩
theorem c82 (N:Nat):∀n aA aK r,Dv N n aA aK=some r→B9 prog 82 [(C8 aA),(G0 aK)] (vi r):=by
 intro n
 induction n with
 |zero=>intro aA aK r h;cases h
 |succ n ih=>
 intro aA aK r h
 unfold Dv at h
 refine O0 cf82 func82 call82 ntmps82 ?_;intro E H0 K hE hK hO;cbv;apply C4 hE h<;>intro _ h
 ·cbv;cases h
 cbv;obtain⟨s1,hx,h⟩:=bind_some h;refine N2 cf82 hE O7 (fun e l H1=>e= .normal∧l=[(3,.v (.eref (U6 aK) 0)),(5,.v (sr eBh0 s1))]∧C5 Eq H0 [] H1) (by kernel_rfl) ?_ ?_
 ·clear h;have h:=hx
  repeat' (cbv;first|apply C4 hE h<;>intro _ h|apply I8 hE|refine B0 hE h (c137 _ _ _) .z fun _ h=>?_|(cases h;done)|(cases h;exact⟨_,⟨rfl,rfl,hO⟩,.e2 .z,rfl⟩))
 clear hx;rintro e l H ⟨rfl,rfl,hO⟩
 repeat' (cbv;first|apply C4 hE h<;>intro _ h|apply I8 hE|(cases h;done))
 cbv;obtain⟨s4,hx,h⟩:=bind_some h;refine H9 cf82 hE O7 (fun s3=>[(5,.v (sr eBh0 s1)),(69,.v (sr eBg6 aK.Kids)),fi 70 (Ar.len aK.Kids),fi 71 s3]) (fun s3 H1=>C5 Eq H0 [] H1) (fun x e l H1=>e= .exit 1∧l=[]∧C5 Eq H0 [] H1) (by kernel_rfl) ?_ hx ?_ hO ?_
 ·intro s3 H o hO h
  repeat' (cbv;first|apply C4 hE h<;>intro _ h|refine B0 hE h (ih _ _) .z fun _ h=>?_|refine D9 hE eBg8 h fun _ h=>?_|refine D9 hE eBh2 h fun _ h=>?_|apply C0 hE hO 0 rfl|refine C1 hE hO 0 rfl rfl fun H hO=>?_|refine E2 hE hO fun _ H hO=>?_|(cases h;done)|(cases h;exact⟨_,rfl,.e4 .z,rfl,hO.tail⟩)|(cases h;exact⟨_,_,rfl,⟨rfl,rfl,hO⟩,.z,rfl⟩))
 ·exact .e4 .z
 clear hx;rintro e l H ⟨rfl,rfl,hO⟩;cbv;cases h;exact hK hO .z
theorem c26 (N aA aK r)(h:FI N aA aK=some r):B9 prog 26 [(C8 aA),(G0 aK)] (vi r):=by
 refine O0 cf0 func26 call26 ntmps26 ?_;intro E H0 K hE hK hO
 repeat' (cbv;first|apply C4 hE h<;>intro _ h|refine B0 hE h (c55 _ _) .z fun _ h=>?_|refine B0 hE h (c29 _ _ _) .z fun _ h=>?_|refine B0 hE h (c82 _ _ _ _) .z fun _ h=>?_|(cases h;exact hK hO .z))
def cf62:=cfB [7] [(5,10),(10,12)]
theorem c62 (N:Nat):∀n aA aK r,Ak N n aA aK=some r→B9 prog 62 [(C8 aA),(G0 aK)] (sr eBh1 r):=by
 intro n
 induction n with
 |zero=>intro aA aK r h;cases h
 |succ n ih=>
 intro aA aK r h
 unfold Ak at h
 refine O0 cf62 func62 call62 ntmps62 ?_;intro E H0 K hE hK hO
 repeat' (cbv;first|apply C4 hE h<;>intro _ h|apply I8 hE|(cases h;exact hK hO (.lit _ (G8 ((eBi1 (⟨aA.Var,aK.Ref⟩:E1)).symm) (E4))))|(cases h;done))
 cbv;replace hO:=hO.tl0 (t:=.nil) rfl;obtain⟨s3,hx,h⟩:=bind_some h;refine P6 cf62 hE O7 (γ:=G6) (fun s1 g=>[(2,.v (.eref (D2 aA) 0)),(5,.v (.sl (lst eBh1 s1.1) g)),(32,.v (sr eBg6 aK.Kids)),fi 33 (Ar.len aK.Kids),fi 34 s1.2]) (fun s1 g H1=>T3 g∧C5 Eq H0 [.tl g] H1) (fun x e l H1=>∃u1:G6,T3 u1∧e= .exit 1∧l=[(5,.v (.sl (lst eBh1 x) u1))]∧C5 Eq H0 [.tl u1] H1) (by kernel_rfl) ?_ .nil hx ?_ ?_ ?_
 ·rintro s1 t2 H o ⟨ht2,hO⟩ h;cbv;apply C4 hE h<;>intro _ h
  ·repeat' (cbv;first|apply I8 hE|refine D9 hE eBg8 h fun _ h=>?_|refine D9 hE eBh2 h fun _ h=>?_|apply C0 hE hO 0 rfl|refine C1 hE hO 0 rfl rfl fun H hO=>?_|refine E5 hE (g:=fun r7=>sr eBh1 r7) h (ih _ _) .z fun r7 h=>?_|refine E2 hE hO fun _ H hO=>?_|(cases h;exact⟨_,t8,rfl,.e rfl (.e4 .z),rfl,ht8,hO.tail⟩)|refine RZ hE h fun h=>?_|refine S7 (f:=eBh1) hE Gv (by decide) hO 1 rfl ht2 (l:=s1.1) (m:=r7) .z .z h fun _ t8 H hO ht8 h=>?_)
  cbv;cases h;exact⟨_,_,rfl,⟨t2,ht2,rfl,rfl,hO⟩,.e rfl .z,rfl⟩
 ·exact .e rfl (.v (.slt _ (.lst0)) (.e rfl (.e rfl (.e rfl (.z)))))
 ·exact⟨trivial,hO⟩
 clear hx;rintro e l H ⟨t10,ht10,rfl,rfl,hO⟩;cbv;cases h;exact hK hO (.ro _ _)
def cf172:Cf:=⟨[],[(4,14),(3000006,0),(3000006,1),(3000006,2),(3000006,3),(3000006,4),(3000006,5),(3000006,6),(3000006,7),(3000006,9),(3000006,10),(3000006,11),(3000006,13)],[],[2000006],[],[]⟩
set_option maxHeartbeats 2000000 in
theorem c172 (N:Nat) (bP:List E1) (aC:Int) (aD:Int) (bA:V) (aX:E1→E1→Option Int) (bR:∀y1 y2 q,aX y1 y2=some q→AL prog bA [(BY y1),(BY y2)] (vi q)) (r:(List E1)) (h:As N bP aC aD aX=some r):ZL prog 172 (fun q=>[.own q.id q.lo q.n,vi aC,vi aD,bA]) 4 (lst eBh1 bP) (lst eBh1 r):=by
 refine QC (T:=TT) (m:=4) cf172 O7 func172 (by rfl) (by kernel_rfl) call172 ntmps172 (by rfl) (fun _=>rfl) (by rfl) ?_;intro E H0 q0 K hE hq0 hO hK;cbv;obtain⟨s3,hx,h⟩:=bind_some h;refine P6 cf172 hE O7 (γ:=(OGq q0)) (fun s1 g=>[(0,.v (.own g.id g.lo g.n)),fi 1 aC,fi 2 aD,(3,.v (bA)),fi 8 s1.1]) (fun s1 g H1=>BD g (Ar.len s1.2)∧C5 Eq (upd H0 q0.id none) [ob g 4 eBh1 s1.2] H1) (fun x e l H1=>∃u1:(OGq q0),BD u1 (Ar.len x)∧e= .exit 0∧l=[(0,.v (.own u1.id u1.lo u1.n))]∧C5 Eq (upd H0 q0.id none) [ob u1 4 eBh1 x] H1) (by kernel_rfl) ?_ q0 hx ?_ ?_ ?_
 ·rintro s1 q2 H o ⟨hq2,hO⟩ h;cbv;apply C4 hE h<;>intro _ h
  ·cbv;obtain⟨s6,hx,h⟩:=bind_some h;refine P6 cf172 hE O7 (γ:=(OGq q0)) (fun s4 g=>[(0,.v (.own g.id g.lo g.n)),fi 1 aC,fi 2 aD,(3,.v (bA)),fi 8 s1.1,fi 9 s4.1]) (fun s4 g H1=>BD g (Ar.len s4.2)∧C5 Eq (upd H0 q0.id none) [ob g 4 eBh1 s4.2] H1) (fun x e l H1=>∃u1:(OGq q0),BD u1 (Ar.len x)∧e= .exit 2∧l=[(0,.v (.own u1.id u1.lo u1.n)),fi 1 aC,fi 2 aD,(3,.v (bA)),fi 8 s1.1]∧C5 Eq (upd H0 q0.id none) [ob u1 4 eBh1 x] H1) (by kernel_rfl) ?_ q2 hx ?_ ?_ ?_
   ·rintro s4 q5 H o ⟨hq5,hO⟩ h;cbv;apply C4 hE h<;>intro _ h
    ·cbv;refine Dd hE hO hq5 0 rfl h fun h=>?_;cbv;refine EM hE eBi1 hO hq5 0 rfl h fun x7 h=>?_;cbv;refine Dd hE hO hq5 0 rfl h fun h=>?_;cbv;refine EM hE eBi1 hO hq5 0 rfl h fun x8 h=>?_;cbv;refine BP hE (g:=fun r9=>vi r9) h (fun r9 hx=>bR x7 x8 r9 hx) .z fun r9 h=>?_;cbv;apply C4 hE h<;>intro _ h
     ·cbv;obtain⟨s10,hx,h⟩:=bind_some h;refine N2 cf172 hE O7 (fun e l H1=>∃u1:(OGq q0),BD u1 (Ar.len s10)∧e= .normal∧l=[(0,.v (.own u1.id u1.lo u1.n)),fi 1 aC,fi 2 aD,(3,.v (bA)),fi 8 s1.1,fi 9 s4.1]∧C5 Eq (upd H0 q0.id none) [ob u1 4 eBh1 s10] H1) (by kernel_rfl) ?_ ?_
      ·clear h;have h:=hx;cbv;obtain⟨u330_0,eu330_0,h⟩:=bind_some h;obtain⟨x371,ex371,h⟩:=bind_some h;obtain⟨u490_0,eu490_0,h⟩:=bind_some h;obtain⟨x531,ex531,h⟩:=bind_some h;obtain⟨u570_0,eu570_0,h⟩:=bind_some h;obtain⟨l612,el612,h⟩:=bind_some h;obtain⟨u650_0,eu650_0,h⟩:=bind_some h;obtain⟨l692,el692,h⟩:=bind_some h
       repeat' first|refine And.intro ?_ ?_|(refine Dd hE hO hq5 0 rfl (P9 eu330_0) fun hh=>?_;clear hh;cbv)|(refine EM hE eBi1 hO hq5 0 rfl (P9 ex371) fun x371 hh=>?_;obtain rfl:=F2 hh;cbv)|(refine Dd hE hO hq5 0 rfl (P9 eu490_0) fun hh=>?_;clear hh;cbv)|(refine EM hE eBi1 hO hq5 0 rfl (P9 ex531) fun x531 hh=>?_;obtain rfl:=F2 hh;cbv)|(refine Dd hE hO hq5 0 rfl (P9 eu570_0) fun hh=>?_;clear hh;cbv)|(refine HN hE (f:=eBh1) (esz:=4) (tz:=4) (off:=0) (u:=(fun x611:E1=>x371)) (fun _=>⟨_,.eq (eBi1 _) .z,(by rw[eBi1];rfl),Gv _,rfl⟩) (by decide) hO hq5 0 rfl (P9 el612) fun l612 H hq5 hh hO=>?_;obtain rfl:=F2 hh;cbv)|(refine Dd hE hO hq5 0 rfl (P9 eu650_0) fun hh=>?_;clear hh;cbv)|(refine HN hE (f:=eBh1) (esz:=4) (tz:=4) (off:=0) (u:=(fun x691:E1=>x531)) (fun _=>⟨_,.eq (eBi1 _) .z,(by rw[eBi1];rfl),Gv _,rfl⟩) (by decide) hO hq5 0 rfl (P9 el692) fun l692 H hq5 hh hO=>?_;obtain rfl:=F2 hh;cbv)|(have h:=F2 h;subst h;exact⟨_,⟨q5,hq5,rfl,rfl,hO⟩,.e2 (.e4 .z),rfl⟩)
      clear hx;rintro e l H ⟨q771,hq771,rfl,rfl,hO⟩;cbv;cases h;exact⟨_,q771,rfl,.e2 (.e4 .z),rfl,hq771,hO⟩
     cbv;cases h;exact⟨_,_,rfl,⟨q5,hq5,rfl,rfl,hO⟩,.e rfl (.e4 .z),rfl⟩
    cbv;cases h;exact⟨_,_,rfl,⟨q5,hq5,rfl,rfl,hO⟩,.e rfl (.e4 .z),rfl⟩
   ·exact .e2 (.e4 .z)
   ·exact⟨hq2,hO⟩
   clear hx;rintro e l H ⟨q772,hq772,rfl,rfl,hO⟩;cbv;cases h;exact⟨_,q772,rfl,.e rfl (.e4 .z),rfl,hq772,hO⟩
  cbv;cases h;exact⟨_,_,rfl,⟨q2,hq2,rfl,rfl,hO⟩,.e rfl .z,rfl⟩
 ·exact .e rfl (.e4 .z)
 ·exact⟨hq0,hO⟩
 clear hx;rintro e l H ⟨q773,hq773,rfl,rfl,hO⟩;cbv;cases h;obtain⟨q773,rfl⟩:=q773;exact hK _ 0 _ hq773 rfl hO
end Go.Ab
