/- GLCo2 -/
import Derived.Test.YtildiiggamckaaaGreatDoorL12
set_option linter.all false
open Go.Ab.Ar (ar ar_eq cmp cmp_eq lst)
namespace Go.Ab
open Go.RowKit Go.Proofs Go.Proofs.Tryz K2
variable [Ar][K2]
set_option maxRecDepth 100000
theorem c223 (N cC aQ r)(h:IA N cC aQ=some r):C5 prog 223 [vi cC,(Ov aQ)] (.bool r):=by
 unfold IA at h
 refine P3 cf0 func223 call223 ntmps223 ?_;intro E H0 K hE hK hO;cbv;cases h;exact hK hO (.refl _)
theorem c281 (N aQ r)(h:Ij N aQ=some r):C5 prog 281 [(Ov aQ)] (vi r):=by
 unfold Ij at h
 refine P3 cf0 func281 call281 ntmps281 ?_;intro E H0 K hE hK hO;cbv;refine B0 hE h (fun _ h=>?_) fun _ h=>?_
 ·cbv;cases h;exact hK hO (.refl _)
 cbv;refine B0 hE h (fun _ h=>?_) fun _ h=>?_
 ·cbv;cases h;exact hK hO (.refl _)
 cbv;refine B0 hE h (fun _ h=>?_) fun _ h=>?_
 ·cbv;cases h;exact hK hO (.refl _)
 cbv;cases h;exact hK hO (.refl _)
def cf258 :Cf:=⟨[],[],[(5,5)],[],[],[]⟩
theorem c258 (N aQ r) (h:JE N aQ=some r):C5 prog 258 [(Ov aQ)] (vi r):=by
 unfold JE at h
 refine P3 cf258 func258 call258 ntmps258 ?_;intro E H0 K hE hK hO;cbv;obtain⟨s1,hx,h⟩:=bind_some h;refine P0 cf258 hE K3 (fun e l H1=>e= .normal∧l=[(1,.v (.eref (Xt aQ) 0)),fi 4 aQ.Kind,(5,.v (.bool s1))]∧B6 Eq H0 [] H1) (by kernel_rfl) ?_ ?_
 ·clear h;have h:=hx;clear hx;cbv;refine B0 hE h (fun _ h=>?_) fun _ h=>?_
  ·cbv;cases h;exact⟨_,⟨rfl,rfl,hO⟩,.e rfl (.e2 .z),rfl⟩
  cbv;cases h;exact⟨_,⟨rfl,rfl,hO⟩,.e rfl (.e2 .z),rfl⟩
 clear hx;rintro e l H ⟨rfl,rfl,hO⟩;cbv;refine B0 hE h (fun _ h=>?_) fun _ h=>?_
 ·cbv;refine B0 hE h (fun _ h=>?_) fun _ h=>?_
  ·cbv;cases h;exact hK hO (.refl _)
  cbv;refine A8 hE h (c281 N aQ) (.refl _) fun r2 h=>?_;cbv;cases h;exact hK hO (.refl _)
 cbv;refine B0 hE h (fun _ h=>?_) fun _ h=>?_
 ·cbv;refine B0 hE h (fun _ h=>?_) fun _ h=>?_
  ·cbv;cases h;exact hK hO (.refl _)
  cbv;refine A8 hE h (c281 N aQ) (.refl _) fun r3 h=>?_;cbv;cases h;exact hK hO (.refl _)
 cbv;cases h;exact hK hO (.refl _)
theorem c222 (N aE r) (h:GI N aE=some r):C5 prog 222 [(CL aE)] (vi r):=by
 unfold GI at h
 refine P3 cf0 func222 call222 ntmps222 ?_;intro E H0 K hE hK hO;cbv;refine A8 hE h (c258 N aE.Value) (.refl _) fun r1 h=>?_;cbv;refine B0 hE h (fun _ h=>?_) fun _ h=>?_
 ·cbv;cases h;exact hK hO (.refl _)
 cbv;refine B0 hE h (fun _ h=>?_) fun _ h=>?_
 ·cbv;refine A8 hE h (c223 N aE.Kind aE.Value) (.refl _) fun r2 h=>?_;cbv;refine B0 hE h (fun _ h=>?_) fun _ h=>?_
  ·cbv;cases h;exact hK hO (.refl _)
  cbv;cases h;exact hK hO (.refl _)
 cbv;cases h;exact hK hO (.refl _)
def cf180 :Cf:=⟨[],[],[(73,15)],[],[],[]⟩
theorem c180 (N aE r) (h:KM N aE=some r):C5 prog 180 [(CL aE)] (vi r):=by
 unfold KM at h
 refine P3 cf180 func180 call180 ntmps180 ?_;intro E H0 K hE hK hO;cbv;refine A8 hE h (c220 N aE.Op) (.refl _) fun r1 h=>?_;cbv;refine B0 hE h (fun _ h=>?_) fun _ h=>?_
 ·cbv;cases h;exact hK hO (.refl _)
 cbv;refine F3 hE ?_;cbv;refine B0 hE h (fun _ h=>?_) fun _ h=>?_
 ·cbv;cases h;exact hK hO (.refl _)
 cbv;refine A8 hE h (c221 N aE.Op) (.refl _) fun r2 h=>?_;cbv;refine B0 hE h (fun _ h=>?_) fun _ h=>?_
 ·cbv;cases h;exact hK hO (.refl _)
 cbv;refine B0 hE h (fun _ h=>?_) fun _ h=>?_
 ·cbv;cases h;exact hK hO (.refl _)
 cbv;obtain⟨s3,hx,h⟩:=bind_some h;refine P0 cf180 hE K3 (fun e l H1=>match(generalizing:=false) s3 with| .inl y=>e= .normal∧l=[(1,.v (.eref (EM aE) 0)),(5,.v (.bool r2.1)),(6,.v (.bool r2.2)),(7,.v (.bool (cmp .eql aE.Op 4))),(8,.v (.bool (Ar.or (cmp .eql aE.Op 4) (cmp .eql aE.Op 0))))]∧B6 Eq H0 [] H1| .inr y=>e= .ret∧l=[fi 2 y]∧B6 Eq H0 [] H1) (by kernel_rfl) ?_ ?_
 ·clear h;have h:=hx;clear hx;cbv;refine B0 hE h (fun _ h=>?_) fun _ h=>?_
  ·cbv;refine A8 hE h (c222 N aE) (.refl _) fun r4 h=>?_;cbv;refine B0 hE h (fun _ h=>?_) fun _ h=>?_
   ·cbv;cases h;exact⟨_,⟨rfl,rfl,hO⟩,.e rfl .z,rfl⟩
   cbv;cases h;exact⟨_,⟨rfl,rfl,hO⟩,.e rfl (.e4 .z),rfl⟩
  cbv;cases h;exact⟨_,⟨rfl,rfl,hO⟩,.e rfl (.e4 .z),rfl⟩
 clear hx
 rcases s3 with y5|y6
 ·rintro e l H ⟨rfl,rfl,hO⟩;cbv;refine B0 hE h (fun _ h=>?_) fun _ h=>?_
  ·cbv;cases h;exact hK hO (.refl _)
  cbv;cases h;exact hK hO (.refl _)
 rintro e l H ⟨rfl,rfl,hO⟩;cbv;cases h;exact hK hO (.refl _)
theorem c135 (N aE r)(h:IB N aE=some r):C5 prog 135 [(CL aE)] (vi r):=by
 unfold IB at h
 refine P3 cf0 func135 call135 ntmps135 ?_;intro E H0 K hE hK hO;cbv;refine A8 hE h (c178 N N aE) (.refl _) fun r1 h=>?_;cbv;refine B0 hE h (fun _ h=>?_) fun _ h=>?_
 ·cbv;cases h;exact hK hO (.refl _)
 cbv;refine B0 hE h (fun _ h=>?_) fun _ h=>?_
 ·cbv;cases h;exact hK hO (.refl _)
 cbv;refine A8 hE (g:=fun r2=>vi r2) h (fun r2 hx=>c179 N N aE (.func (.func 180) [] []) (fun y1=>KM N y1) (fun y1 r hx=>C5.value (F:=[]) (C:=[]) (c180 N y1 r hx)) r2 hx) (.refl _) fun r2 h=>?_;cbv;cases h;exact hK hO (.refl _)
def cf249 :Cf:=⟨[],[(6,10)],[],[],[],[]⟩
theorem c249 (N:Nat):∀n aC aD r,DQ N n aC aD=some r→C5 prog 249 [(CL aC),(CL aD)] (.bool r):=by
 intro n
 induction n with
 |zero=>intro aC aD r h;cases h
 |succ n ih=>
 intro aC aD r h
 unfold DQ at h
 refine P3 cf249 func249 call249 ntmps249 ?_;intro E H0 K hE hK hO;cbv;refine F3 hE ?_;cbv;refine F3 hE ?_;cbv;refine B0 hE h (fun _ h=>?_) fun _ h=>?_
 ·cbv;cases h;exact hK hO (.refl _)
 cbv;refine F3 hE ?_;cbv;obtain⟨s2,hx,h⟩:=bind_some h;refine J5 cf249 hE K3 (fun s1=>[(2,.v (.eref (EM aC) 0)),(3,.v (.eref (EM aD) 0)),fi 50 (Ar.len aC.dA),fi 51 s1]) (fun s1 H1=>B6 Eq H0 [] H1) (fun x e l H1=>match(generalizing:=false) x with| .inl y=>e= .exit 0∧l=[]∧B6 Eq H0 [] H1| .inr y=>e= .ret∧l=[(4,.b false)]∧B6 Eq H0 [] H1) (by kernel_rfl) ?_ hx ?_ hO ?_
 ·intro s1 H o hO h;clear hx;cbv;refine B0 hE h (fun _ h=>?_) fun _ h=>?_
  ·cbv;refine D3 hE eAB9 h fun x3 h=>?_;cbv;refine D3 hE eAB9 h fun x4 h=>?_;cbv;refine A8 hE h (ih x3 x4) (.refl _) fun r5 h=>?_;cbv;refine B0 hE h (fun _ h=>?_) fun _ h=>?_
   ·cbv;cases h;exact⟨_,_,rfl,⟨rfl,rfl,hO⟩,.b rfl (.z),rfl⟩
   cbv;cases h;exact⟨_,rfl,.e4 .z,rfl,hO⟩
  cbv;cases h;exact⟨_,_,rfl,⟨rfl,rfl,hO⟩,.z,rfl⟩
 ·exact .e4 .z
 clear hx
 rcases s2 with y6|y7
 ·rintro e l H ⟨rfl,rfl,hO⟩;cbv;cases h;exact hK hO (.refl _)
 rintro e l H ⟨rfl,rfl,hO⟩;cbv;cases h;exact hK hO (.refl _)
theorem c256 (N bN aI cF r)(h:AZ N bN aI cF=some r):C5 prog 256 [.bool bN,vi aI,vi cF] (.bool r):=by
 unfold AZ at h
 refine P3 cf0 func256 call256 ntmps256 ?_;intro E H0 K hE hK hO;cbv;cases h;exact hK hO (.refl _)
theorem c257 (N bN aI r)(h:Q2 N bN aI=some r):C5 prog 257 [.bool bN,vi aI] (.bool r):=by
 unfold Q2 at h
 refine P3 cf0 func257 call257 ntmps257 ?_;intro E H0 K hE hK hO;cbv;cases h;exact hK hO (.refl _)
def cf219 :Cf:=⟨[],[],[(64,10)],[],[],[]⟩
theorem c219 (N aB r) (h:Hy N aB=some r):C5 prog 219 [(D7 aB)] (vi r):=by
 unfold Hy at h
 refine P3 cf219 func219 call219 ntmps219 ?_;intro E H0 K hE hK hO;cbv;refine B0 hE h (fun _ h=>?_) fun _ h=>?_
 ·cbv;cases h;exact hK hO (.refl _)
 cbv;refine Aa9 hE (g:=fun x=>(IJ x)) (l:=R0) rfl (fun _=>rfl) rfl rfl h fun x1 h=>?_;cbv;refine F3 hE ?_;cbv;refine F3 hE ?_;cbv;refine B0 hE h (fun _ h=>?_) fun _ h=>?_
 ·cbv;cases h;exact hK hO (.refl _)
 cbv;refine A8 hE h (c256 N x1.typed aB.Typ 15) (.refl _) fun r2 h=>?_;cbv;refine B0 hE h (fun _ h=>?_) fun _ h=>?_
 ·cbv;cases h;exact hK hO (.refl _)
 cbv;refine A8 hE h (c256 N x1.typed aB.Var 15) (.refl _) fun r3 h=>?_;cbv;refine B0 hE h (fun _ h=>?_) fun _ h=>?_
 ·cbv;cases h;exact hK hO (.refl _)
 cbv;refine A8 hE h (c256 N x1.scope aB.dD 63) (.refl _) fun r4 h=>?_;cbv;refine B0 hE h (fun _ h=>?_) fun _ h=>?_
 ·cbv;cases h;exact hK hO (.refl _)
 cbv;refine A8 hE h (c256 N x1.span aB.Span 1099511627776) (.refl _) fun r5 h=>?_;cbv;refine B0 hE h (fun _ h=>?_) fun _ h=>?_
 ·cbv;cases h;exact hK hO (.refl _)
 cbv;obtain⟨s6,hx,h⟩:=bind_some h;refine P0 cf219 hE K3 (fun e l H1=>match(generalizing:=false) s6 with| .inl y=>e= .normal∧l=[(1,.v (.eref (G4 aB) 0)),(3,.v (.eref (FP x1) 0))]∧B6 Eq H0 [] H1| .inr y=>e= .ret∧l=[fi 2 y]∧B6 Eq H0 [] H1) (by kernel_rfl) ?_ ?_
 ·clear h;have h:=hx;clear hx;cbv;refine B0 hE h (fun _ h=>?_) fun _ h=>?_
  ·cbv;refine A8 hE h (c135 N aB.cY) (.refl _) fun r7 h=>?_;cbv;refine B0 hE h (fun _ h=>?_) fun _ h=>?_
   ·cbv;cases h;exact⟨_,⟨rfl,rfl,hO⟩,.e rfl .z,rfl⟩
   cbv;cases h;exact⟨_,⟨rfl,rfl,hO⟩,.e2 .z,rfl⟩
  cbv;cases h;exact⟨_,⟨rfl,rfl,hO⟩,.e2 .z,rfl⟩
 clear hx
 rcases s6 with y8|y18
 ·rintro e l H ⟨rfl,rfl,hO⟩;cbv;refine B0 hE h (fun _ h=>?_) fun _ h=>?_
  ·cbv;refine A8 hE h (c249 N N aB.cY (⟨0,[],0,0,0,(⟨0,0,⟨#[]⟩⟩:X0)⟩:L7)) (.cons (.refl _) (.cons (.agg (.cons (.refl _) (.cons (.lit _ (B4)) (.refl _)))) (.refl _))) fun r9 h=>?_;cbv;refine B0 hE h (fun _ h=>?_) fun _ h=>?_
   ·cbv;cases h;exact hK hO (.refl _)
   cbv;refine A8 hE h (c257 N x1.typed aB.Typ) (.refl _) fun r10 h=>?_;cbv;refine B0 hE h (fun _ h=>?_) fun _ h=>?_
   ·cbv;cases h;exact hK hO (.refl _)
   cbv;refine A8 hE h (c257 N x1.typed aB.Var) (.refl _) fun r11 h=>?_;cbv;refine B0 hE h (fun _ h=>?_) fun _ h=>?_
   ·cbv;cases h;exact hK hO (.refl _)
   cbv;refine A8 hE h (c257 N x1.scope aB.dD) (.refl _) fun r12 h=>?_;cbv;refine B0 hE h (fun _ h=>?_) fun _ h=>?_
   ·cbv;cases h;exact hK hO (.refl _)
   cbv;refine A8 hE h (c257 N x1.span aB.Span) (.refl _) fun r13 h=>?_;cbv;refine B0 hE h (fun _ h=>?_) fun _ h=>?_
   ·cbv;cases h;exact hK hO (.refl _)
   cbv;cases h;exact hK hO (.refl _)
  cbv;refine A8 hE h (c257 N x1.typed aB.Typ) (.refl _) fun r14 h=>?_;cbv;refine B0 hE h (fun _ h=>?_) fun _ h=>?_
  ·cbv;cases h;exact hK hO (.refl _)
  cbv;refine A8 hE h (c257 N x1.typed aB.Var) (.refl _) fun r15 h=>?_;cbv;refine B0 hE h (fun _ h=>?_) fun _ h=>?_
  ·cbv;cases h;exact hK hO (.refl _)
  cbv;refine A8 hE h (c257 N x1.scope aB.dD) (.refl _) fun r16 h=>?_;cbv;refine B0 hE h (fun _ h=>?_) fun _ h=>?_
  ·cbv;cases h;exact hK hO (.refl _)
  cbv;refine A8 hE h (c257 N x1.span aB.Span) (.refl _) fun r17 h=>?_;cbv;refine B0 hE h (fun _ h=>?_) fun _ h=>?_
  ·cbv;cases h;exact hK hO (.refl _)
  cbv;cases h;exact hK hO (.refl _)
 rintro e l H ⟨rfl,rfl,hO⟩;cbv;cases h;exact hK hO (.refl _)
def cf176 :Cf:=⟨[2],[],[],[],[],[]⟩
theorem c176 (N aB r) (h:X3 N aB=some r):C5 prog 176 [(D7 aB)] (vi r):=by
 unfold X3 at h
 refine P3 cf176 func176 call176 ntmps176 ?_;intro E H0 K hE hK hO;cbv;refine E6 hE hO fun b1 H hO=>?_;cbv;refine A8 hE h (c218 N N aB) (.refl _) fun r2 h=>?_;cbv;refine B0 hE h (fun _ h=>?_) fun _ h=>?_
 ·cbv;refine A7 hE hO 0 rfl rfl fun H hO=>?_;cbv;refine B1 hE hO 0 rfl ?_;cbv;cases h;exact hK hO (.refl _)
 cbv;refine B0 hE h (fun _ h=>?_) fun _ h=>?_
 ·cbv;refine A7 hE hO 0 rfl rfl fun H hO=>?_;cbv;refine B1 hE hO 0 rfl ?_;cbv;cases h;exact hK hO (.refl _)
 cbv;refine T4 hE h (c216 N aB) (.refl _) fun r3 v4 hv4 h=>?_;cbv;obtain⟨o9,hx,h⟩:=bind_some h;refine BT cf176 hE K3 (ι:=Unit) (enc:=fun(x:A9)=>[(D7 x)]) (fun(s6:Unit) F H=>B6 Eq F [cb b1 [vi 0]] H) (fun(r:Int) e F H=>e= .ret∧B6 Eq F [cb b1 [vi r]] H) (fun i s6 y5=>[(2,.v (.ref b1 0)),(5,.v (.eref (G4 y5) 0))]) (fun i s6 y5 F H=>B6 Eq F [cb b1 [vi 0]] H) (fun _=>B6.stable C4 _) (fun _ _=>D2.con (B6.stable C4 _)) (fun _ _ _=>B6.stable C4 _) hv4 hx (hO) (by decide) (fun _=>rfl) (by kernel_rfl) (by kernel_rfl) ?_ ?_ ?_ ?_
 ·rintro E i8 y5 s6 F7 H hE hO;clear hx h;cbv;exact⟨(),hO,.e2 .z,rfl⟩
 ·rintro E i8 _ y5 s6 F7 H o hE hF h hO;clear hx;cbv;refine A8 hE h (c219 N y5) (.refl _) fun r10 h=>?_;cbv;refine B0 hE h (fun _ h=>?_) fun _ h=>?_
  ·cbv;refine A7 hE hO 0 rfl rfl fun H hO=>?_;cbv;cases h;exact⟨_,rfl,rfl,⟨rfl,hO⟩⟩
  cbv;cases h;exact⟨_,rfl,hO⟩
 ·rintro d11 s13 H rfl hd hO;have hO:B6 Eq H0 [cb b1 [vi 0],.blk d11 DB] H:=B6.dblk hd hO;clear hd;clear hx;cbv;refine A7 hE hO 0 rfl rfl fun H hO=>?_;cbv;refine Ec hE hO 1 rfl fun H hO=>?_;cbv;refine B1 hE hO 0 rfl ?_;cbv;cases h;exact hK hO (.refl _)
 rintro d11 y14 e H rfl hd hX;clear hx
 rcases hX with⟨rfl,hO⟩
 have hO:B6 Eq H0 [cb b1 [vi y14],.blk d11 DB] H:=B6.dblk hd hO;clear hd;cbv;refine Ec hE hO 1 rfl fun H hO=>?_;cbv;refine B1 hE hO 0 rfl ?_;cbv;cases h;exact hK hO (.refl _)
def cf209 :Cf:=⟨[2],[],[],[],[],[]⟩
theorem c209 (N aB r) (h:Hx N aB=some r):C5 prog 209 [(D7 aB)] (vi r):=by
 unfold Hx at h
 refine P3 cf209 func209 call209 ntmps209 ?_;intro E H0 K hE hK hO;cbv;refine E6 hE hO fun b1 H hO=>?_;cbv;refine A8 hE h (c176 N aB) (.refl _) fun r2 h=>?_;cbv;refine B0 hE h (fun _ h=>?_) fun _ h=>?_
 ·cbv;refine A7 hE hO 0 rfl rfl fun H hO=>?_;cbv;refine B1 hE hO 0 rfl ?_;cbv;cases h;exact hK hO (.refl _)
 cbv;refine T4 hE h (c216 N aB) (.refl _) fun r3 v4 hv4 h=>?_;cbv;obtain⟨o9,hx,h⟩:=bind_some h;refine BT cf209 hE K3 (ι:=Unit) (enc:=fun(x:A9)=>[(D7 x)]) (fun(s6:Unit) F H=>B6 Eq F [cb b1 [vi 0]] H) (fun(r:Int) e F H=>e= .ret∧B6 Eq F [cb b1 [vi r]] H) (fun i s6 y5=>[(2,.v (.ref b1 0)),(4,.v (.eref (G4 y5) 0))]) (fun i s6 y5 F H=>B6 Eq F [cb b1 [vi 0]] H) (fun _=>B6.stable C4 _) (fun _ _=>D2.con (B6.stable C4 _)) (fun _ _ _=>B6.stable C4 _) hv4 hx (hO) (by decide) (fun _=>rfl) (by kernel_rfl) (by kernel_rfl) ?_ ?_ ?_ ?_
 ·rintro E i8 y5 s6 F7 H hE hO;clear hx h;cbv;exact⟨(),hO,.e2 .z,rfl⟩
 ·rintro E i8 _ y5 s6 F7 H o hE hF h hO;clear hx;cbv;refine B0 hE h (fun _ h=>?_) fun _ h=>?_
  ·cbv;refine A7 hE hO 0 rfl rfl fun H hO=>?_;cbv;cases h;exact⟨_,rfl,rfl,⟨rfl,hO⟩⟩
  cbv;cases h;exact⟨_,rfl,hO⟩
 ·rintro d10 s12 H rfl hd hO;have hO:B6 Eq H0 [cb b1 [vi 0],.blk d10 DB] H:=B6.dblk hd hO;clear hd;clear hx;cbv;refine A7 hE hO 0 rfl rfl fun H hO=>?_;cbv;refine Ec hE hO 1 rfl fun H hO=>?_;cbv;refine B1 hE hO 0 rfl ?_;cbv;cases h;exact hK hO (.refl _)
 rintro d10 y13 e H rfl hd hX;clear hx
 rcases hX with⟨rfl,hO⟩
 have hO:B6 Eq H0 [cb b1 [vi y13],.blk d10 DB] H:=B6.dblk hd hO;clear hd;cbv;refine Ec hE hO 1 rfl fun H hO=>?_;cbv;refine B1 hE hO 0 rfl ?_;cbv;cases h;exact hK hO (.refl _)
theorem c169 (N aB r)(h:ET N aB=some r):C5 prog 169 [(D7 aB)] (vi r):=by
 unfold ET at h
 refine P3 cf0 func169 call169 ntmps169 ?_;intro E H0 K hE hK hO;cbv;refine A8 hE h (c209 N aB) (.refl _) fun r1 h=>?_;cbv;refine B0 hE h (fun _ h=>?_) fun _ h=>?_
 ·cbv;cases h;exact hK hO (.refl _)
 cbv;refine A8 hE h (c172 N aB) (.refl _) fun r2 h=>?_;cbv;refine B0 hE h (fun _ h=>?_) fun _ h=>?_
 ·cbv;cases h;exact hK hO (.refl _)
 cbv;cases h;exact hK hO (.refl _)
theorem c134 (N:Nat) (aA:List A9) (aU:V) (aM:A9→Option Bool) (aZ:∀y1 q,aM y1=some q→U2 prog aU [(D7 y1)] (.bool q)) (r:Int) (h:K7 N aA aM=some r):C5 prog 134 [sr eAA6 aA,aU] (vi r):=by
 unfold K7 at h
 refine P3 cf0 func134 call134 ntmps134 ?_;intro E H0 K hE hK hO;cbv;refine F3 hE ?_;cbv;obtain⟨s2,hx,h⟩:=bind_some h;refine J5 cf0 hE K3 (fun s1=>[(0,.v (sr eAA6 aA)),(1,.v (aU)),fi 7 (Ar.len aA),fi 8 s1]) (fun s1 H1=>B6 Eq H0 [] H1) (fun x e l H1=>match(generalizing:=false) x with| .inl y=>e= .exit 0∧l=[]∧B6 Eq H0 [] H1| .inr y=>e= .ret∧l=[fi 4 y]∧B6 Eq H0 [] H1) (by kernel_rfl) ?_ hx ?_ hO ?_
 ·intro s1 H o hO h;clear hx;cbv;refine B0 hE h (fun _ h=>?_) fun _ h=>?_
  ·cbv;refine D3 hE eAB3 h fun x3 h=>?_;cbv;refine CF hE (g:=fun r4=>.bool r4) h (fun r4 hx=>aZ x3 r4 hx) (.refl _) fun r4 h=>?_;cbv;refine B0 hE h (fun _ h=>?_) fun _ h=>?_
   ·cbv;cases h;exact⟨_,_,rfl,⟨rfl,rfl,hO⟩,.e rfl .z,rfl⟩
   cbv;cases h;exact⟨_,rfl,.e4 .z,rfl,hO⟩
  cbv;cases h;exact⟨_,_,rfl,⟨rfl,rfl,hO⟩,.z,rfl⟩
 ·exact .e4 .z
 clear hx
 rcases s2 with y5|y6
 ·rintro e l H ⟨rfl,rfl,hO⟩;cbv;cases h;exact hK hO (.refl _)
 rintro e l H ⟨rfl,rfl,hO⟩;cbv;cases h;exact hK hO (.refl _)
def cf253 :Cf:=⟨[8],[],[],[],[],[]⟩
theorem c253 (N:Nat) (aT:List A9) (aX:List A9) (bW:V) (bO:A9→A9→Option Bool) (cM:∀y1 y2 q,bO y1 y2=some q→U2 prog bW [(D7 y1),(D7 y2)] (.bool q)) (r:Bool) (h:K5 N aT aX bO=some r):C5 prog 253 [sr eAA6 aT,sr eAA6 aX,bW] (.bool r):=by
 unfold K5 at h
 refine P3 cf253 func253 call253 ntmps253 ?_;intro E H0 K hE hK hO;cbv;refine F3 hE ?_;cbv;refine F3 hE ?_;cbv;refine B0 hE h (fun _ h=>?_) fun _ h=>?_
 ·cbv;cases h;exact hK hO (.refl _)
 cbv;refine F3 hE ?_;cbv;obtain⟨s2,hx,h⟩:=bind_some h;refine J5 cf253 hE K3 (fun s1=>[(1,.v (sr eAA6 aX)),(2,.v (bW)),(15,.v (sr eAA6 aT)),fi 16 (Ar.len aT),fi 17 s1]) (fun s1 H1=>B6 Eq H0 [] H1) (fun x e l H1=>match(generalizing:=false) x with| .inl y=>e= .exit 0∧l=[]∧B6 Eq H0 [] H1| .inr y=>e= .ret∧l=[(6,.b false)]∧B6 Eq H0 [] H1) (by kernel_rfl) ?_ hx ?_ hO ?_
 ·intro s1 H o hO h;clear hx;cbv;refine B0 hE h (fun _ h=>?_) fun _ h=>?_
  ·cbv;refine D3 hE eAB3 h fun x3 h=>?_;cbv;refine E6 hE hO fun b4 H hO=>?_;cbv;refine A7 hE hO 0 rfl rfl fun H hO=>?_;cbv;refine D3 hE eAB3 h fun x5 h=>?_;cbv;refine B1 hE hO 0 rfl ?_;cbv;refine CF hE (g:=fun r6=>.bool r6) h (fun r6 hx=>cM x3 x5 r6 hx) (.refl _) fun r6 h=>?_;cbv;refine B0 hE h (fun _ h=>?_) fun _ h=>?_
   ·cbv;cases h;exact⟨_,_,rfl,⟨rfl,rfl,hO.tail⟩,.b rfl (.z),rfl⟩
   cbv;cases h;exact⟨_,rfl,.e rfl (.e4 .z),rfl,hO.tail⟩
  cbv;cases h;exact⟨_,_,rfl,⟨rfl,rfl,hO⟩,.z,rfl⟩
 ·exact .e rfl (.e4 .z)
 clear hx
 rcases s2 with y7|y8
 ·rintro e l H ⟨rfl,rfl,hO⟩;cbv;cases h;exact hK hO (.refl _)
 rintro e l H ⟨rfl,rfl,hO⟩;cbv;cases h;exact hK hO (.refl _)
theorem c215 (N:Nat):∀n aC aD r,CE N n aC aD=some r→C5 prog 215 [(D7 aC),(D7 aD)] (.bool r):=by
 intro n
 induction n with
 |zero=>intro aC aD r h;cases h
 |succ n ih=>
 intro aC aD r h
 unfold CE at h
 refine P3 cf0 func215 call215 ntmps215 ?_;intro E H0 K hE hK hO;cbv;refine B0 hE h (fun _ h=>?_) fun _ h=>?_
 ·cbv;cases h;exact hK hO (.refl _)
 cbv;refine A8 hE h (c249 N N aC.cY aD.cY) (.refl _) fun r1 h=>?_;cbv;refine B0 hE h (fun _ h=>?_) fun _ h=>?_
 ·cbv;cases h;exact hK hO (.refl _)
 cbv;refine A8 hE (g:=fun r2=>.bool r2) h (fun r2 hx=>c253 N aC.dA aD.dA (.func (.func 215) [] []) (fun y1 y2=>CE N n y1 y2) (fun y1 y2 r hx=>C5.value (F:=[]) (C:=[]) (ih y1 y2 r hx)) r2 hx) (.refl _) fun r2 h=>?_;cbv;cases h;exact hK hO (.refl _)
theorem c214 (N aW aF r)(h:BA N aW aF=some r):C5 prog 214 [(D7 aW),.eref (G4 aF) 0] (.bool r):=by
 unfold BA at h
 refine P3 cf0 func214 call214 ntmps214 ?_;intro E H0 K hE hK hO;cbv;refine A8 hE h (c215 N N aF aW) (.refl _) fun r1 h=>?_;cbv;cases h;exact hK hO (.refl _)
theorem c171 (N aG aB r)(h:CJ N aG aB=some r):C5 prog 171 [sr eAA6 aG,(D7 aB)] (vi r):=by
 unfold CJ at h
 refine P3 cf0 func171 call171 ntmps171 ?_;intro E H0 K hE hK hO;cbv;refine A8 hE (g:=fun r1=>vi r1) h (fun r1 hx=>c134 N aG (.func (.func 214) [] [.eref (G4 aB) 0]) (fun y1=>BA N y1 aB) (fun y1 r hx=>C5.value (F:=[]) (C:=[.eref (G4 aB) 0]) (c214 N y1 aB r hx)) r1 hx) (.refl _) fun r1 h=>?_;cbv;cases h;exact hK hO (.refl _)
theorem c244 (N aF r) (h:Dt N aF=some r):Ie prog 244 (fun yv=>[yv,.eref (G4 aF) 0]) (List.map (fun(x:(D6×A5))=>[(J8 x.1),(B7 x.2)]) r) rbN:=by
 unfold Dt at h
 obtain⟨⟨w0,u0⟩,h1,hr⟩:=bind_some h;clear h;have hr:=K8 hr;subst hr;have h:=h1;clear h1;refine R9 cf0 K3 func244 (by rfl) (by kernel_rfl) call244 ntmps244 (by rfl) (fun _=>rfl) ?_;intro yv I D hI hD hy tl F E H K hE hO hK hKD
 have hO:B6 (I (List.map (fun(x:(D6×A5))=>[(J8 x.1),(B7 x.2)]) (w0++[])++tl)) F [] H:=by rw[H7];exact hO
 cbv;obtain⟨w1,h1,he⟩:=X2 h;clear h;have h:=h1;clear h1
 rw[he,E7]at hO
 clear he;have hO:B6 (I ([.agg [vi 0,vi 0,vi aF.Var,vi aF.Typ,vi aF.cY.Op,sr eAB0 aF.cY.dA,vi aF.cY.Var,vi aF.cY.Field,vi aF.cY.Kind,vi aF.cY.Value.Kind,vi aF.cY.Value.Num,.str aF.cY.Value.Text,sr (V.int .i64) ([]),sr (V.int .i64) ([]),sr eAB0 ([]),sr eAB6 ([]),sr (V.int .i64) ([])],.agg [.bool true,vi 0,sr eAA6 ([]),vi 0,vi 0,vi 0,vi 0,vi 0,sr eAB0 ([]),vi 0,vi 0,vi 0,vi 0,vi 0,.str (⟨#[]⟩)]]::(List.map (fun(x:(D6×A5))=>[(J8 x.1),(B7 x.2)]) (w1++[])++tl))) F [] _:=hO;refine De hE hI hD hy hO (.cons (.agg (.cons (.refl _) (.cons (.refl _) (.cons (.refl _) (.cons (.refl _) (.cons (.refl _) (.cons (.refl _) (.cons (.refl _) (.cons (.refl _) (.cons (.refl _) (.cons (.refl _) (.cons (.refl _) (.cons (.refl _) (.cons (.lit _ (B4)) (.cons (.lit _ (B4)) (.cons (.lit _ (B4)) (.cons (.lit _ (B4)) (.cons (.lit _ (B4)) (.refl _))))))))))))))))))) (.cons (.agg (.cons (.refl _) (.cons (.refl _) (.cons (.lit _ (B4)) (.cons (.refl _) (.cons (.refl _) (.cons (.refl _) (.cons (.refl _) (.cons (.refl _) (.cons (.lit _ (B4)) (.refl _))))))))))) (.refl _))) (fun H hO=>?_) (fun H hO=>?_)
 ·cbv;obtain⟨hw,_⟩:=E8 h
  rw[←hw]at hO
  exact hK _ _ _ hO trivial
 clear h;cbv;exact hKD _ _ _ hO trivial
def cf298 :Cf:=⟨[7],[],[],[],[],[]⟩
theorem c298 (N aA r)(h:Q0 N aA=some r):Li prog 298 [sr eAA6 aA] 14 (lst eAA6 r):=by
 unfold Q0 at h
 intro H0;refine BK (T:=TT) cf298 K3 func298 (by rfl) (by kernel_rfl) call298 ntmps298 (by rfl) (by rfl) ?_;intro E K hE hK hN;have hO:B6 Eq H0 [] H0:=.start C4 rfl;cbv;refine VM hE rfl (fun hx=>?_) ?_
 ·cbv;exact hN (Qn hx h) [] H0 hO
 cbv;refine Sp (f:=eAA6) hE Bj (by decide) hO (.inr rfl) (m:=aA) (CN (f:=eAA6) hE Bj (.refl _)) h fun l q H hq hO h=>?_;cbv;cases h;exact hK q _ _ (Ah hE hq) hO
theorem Ax9 (vals:Array Value)(w:World):(callFunc 311 vals).run prog w=((Extern.SlicesOverlaps.overlaps #[38,38] #[4] vals).run prog w).andThen fun v w'=>.ok (.value v) w':=
 run_callFunc_extern func311 (by kernel_rfl) (by kernel_rfl) (by kernel_rfl) (e:=Extern.SlicesOverlaps.overlaps #[38,38] #[4]) (by kernel_rfl) vals w
def cf299 :Cf:=⟨[],[(11,8),(15,8)],[],[],[],[]⟩
set_option maxHeartbeats 1000000 in
theorem c299 (N aA aL aQ r) (h:V4 N aA aL aQ=some r):Nv prog 299 [vi aL,.sl (lst eAA6 aQ) .ro] 14 (lst eAA6 aA) (lst eAA6 r):=by
 unfold V4 at h
 obtain⟨x,h1,h2⟩:=bind_some h;cases K8 h2;obtain⟨h0,h1,h2,hr⟩:=Al6 (f:=eAA6) h1;rw[hr];clear hr h;have hvall:=LB Bj aQ
 generalize lst eAA6 aA=xs at *
 generalize lst eAA6 aQ=vs at *
 rintro H ⟨id,lo,n,pre,rest⟩ ⟨e1,e2⟩ hk
 simp only at e1 e2 hk
 refine Qe (T:=TT) cf299 K3 func299 (by rfl) (by kernel_rfl) call299 ntmps299 (by rfl) (by rfl) ?_;intro E K hE hK
 simp only at hK ⊢
 generalize hrow:pre++xs++rest=row at hk
 obtain⟨RL,hRL⟩:∃RL:Int,RL=(row.length:Nat):=⟨_,rfl⟩;obtain⟨M,hM⟩:∃M:Int,M=(vs.length:Nat):=⟨_,rfl⟩
 have hlen:lo+n≤RL:=by rw[hRL,←hrow,e1,e2];simp;omega
 have hn0:0≤lo∧0≤n∧aL≤n∧0≤M∧n+M≤1073741824:=by omega
 have hwrap:∀a b:Int,0≤a→0≤b→a+b≤1073741824→ar .add .i64 a b=a+b:=fun a b ha hb hab=>by rw[ar_eq];exact wrap_small _ (by omega) (by omega)
 have hwrap2:∀a b:Int,0≤b→b≤a→a≤1073741824→ar .sub .i64 a b=a - b:=fun a b ha hb hab=>by rw[ar_eq];exact wrap_small _ (by omega) (by omega)
 have hadd:ar .add .i64 n M=n+M:=hwrap _ _ (by omega) (by omega) (by omega);have haddi:ar .add .i64 aL M=aL+M:=hwrap _ _ (by omega) (by omega) (by omega)
 have hd2:ar .sub .i64 (ar .add .i64 n M) aL=n+M - aL:=by rw[hadd];exact hwrap2 _ aL h0 (by omega) (by omega)
 have hgt:∀c b,cmp .gtr (ar .add .i64 n M) c=b→(b=true→c<n+M)∧(b=false→n+M≤c):=fun c b h=>by
  rw[cmp_eq,hadd]at h;subst h;simp[EK]
 have hbn:(n.toNat+vs.length)*152≤140737488355328:=Hn (by omega) (by decide);have hbn2:∀a b:Int,0≤a→0≤b→a+b≤1073741824→(a.toNat+b.toNat)*152≤140737488355328:=fun a b _ _ _=>Hn (by omega) (by decide)
 have hsubl:∀l2 n2:Int,0≤l2→0≤n2→l2+n2≤RL→n2=((L1 row l2 n2).length:Nat):=fun l2 n2 a b c=>by rw[Bk a b (by rw[←hRL];exact c)];omega
 have hov:∀(r1 r2 ys:List V) (L l YL n:Int),L=(r1.length:Nat)→YL=(ys.length:Nat)→0≤l→l+YL≤L→r2=Ap r1 l.toNat (ys.take n.toNat)→L=(r2.length:Nat):=fun r1 r2 ys L l YL n a b c d e=>by
  rw[e,DM (by simp;omega)];exact a
 have hov2:∀(r1:List V) (l l2 n2 n:Int),0≤l→0≤n→l+n≤RL→0≤l2→0≤n2→r1=Ap row l.toNat ((L1 row l2 n2).take n.toNat)→RL=(r1.length:Nat):=fun r1 l l2 n2 n a b c _ _ e=>by
  rw[e,DM (by simp;omega)];exact hRL
 have hnl:∀(r2:List V) (z:V) (j:Nat) (l n d:Int),0≤l→0≤n→l+n≤RL→0≤d→r2=L1 row l n++List.replicate d.toNat z++List.replicate j z→∃L:Int,L=(r2.length:Nat)∧n+d≤L:=fun r2 z j l n d a b c e f=>⟨_,rfl,by rw[f];simp only[I6,Ny,Bk a b (by rw[←hRL];exact c)];omega⟩
 have hne:∀t (b:Option CT),H t=none→upd H t b id=some (.arr 14 row):=fun t b ht=>by rw[C1 _ _ (fun e=>by subst e;rw[hk]at ht;cases ht)];exact hk
 have hx0:vs=[]→xs.take aL.toNat++vs++xs.drop aL.toNat=xs:=fun e=>by rw[e,H7,Dm]
 have hx1:aL=n→xs.take aL.toNat++vs++xs.drop aL.toNat=xs++vs:=fun e=>by rw[e,e2,N3,P7 (D1 _),NA (D1 _),H7]
 have hv0:M=0→vs=[]:=fun e=>List.length_eq_zero_iff.1 (by omega)
 have hcmp:∀op a b c,cmp op a b=c→EK op a b=c:=fun op a b c h=>by rw[←cmp_eq];exact h
 cbv;refine T3 hE hk hRL aL n rfl rfl h0 (by omega) hlen fun _ _ _ _=>?_;cbv;refine Na hE hM ?_;cbv;refine JN hE (fun hc=>?_) (fun hc=>?_)
 ·cbv
  have hm0:M=0:=by simpa[EK]using hcmp _ _ _ _ hc
  rw[hx0 (hv0 hm0)]at hK
  refine hK id lo n row pre rest H hrow.symm e1 e2 (.inl rfl) ?_;rw[X1];exact Ar8 hk
 cbv
 have hm0:¬M=0:=by simpa[EK]using hcmp _ _ _ _ hc
 refine Sg hE ?_;cbv;refine JN hE (fun hc2=>?_) (fun hc2=>?_)
 ·cbv
  have hin2:aL=n:=by simpa[EK]using hcmp _ _ _ _ hc2
  rw[hx1 hin2]at hK
  refine ZK hE hk hRL (y:=.sl vs .ro) (ys':=vs) ⟨.refl _,hvall⟩ hM (fun hfit m row1 q5 hr1=>?_) (fun hno=>⟨hbn,fun t m row1 j ht q5 hr1=>?_⟩)
  ·cbv;have h3:=Am7 hrow.symm e1 e2 hM q5 hr1;exact hK id lo m row1 pre _ _ h3.1 e1 h3.2 (.inl rfl) (by rw[X1];exact .refl _)
  cbv;have h3:=Ac3 hrow.symm e1 e2 hM q5 hr1;exact hK t 0 m row1 [] _ _ h3.1 rfl h3.2 (.inr ht) Xl
 cbv;refine As5 hE hk hRL fun c hcap=>?_;cbv;refine JN hE (fun hc3=>?_) (fun hc3=>?_)
 ·have hgr:c<n+M:=(hgt c _ hc3).1 rfl;cbv;refine T3 hE hk hRL 0 aL rfl rfl (N2 _) h0 (by omega) fun l1 n1 q1 q2=>?_
  have q1':lo=l1:=by omega
  have q2':aL=n1:=by omega
  subst q1' q2';cbv;refine Ai9 hE (n+M - aL) hd2 hk hRL (by omega) (hbn2 _ _ (by omega) (by omega) (by omega)) (fun hfit=>absurd hfit (by omega)) (fun hno t m row2 j ht qm hr2=>?_);obtain⟨L2,hL2,hL2'⟩:=hnl row2 _ j _ _ _ (by omega) (by omega) (by omega) (by omega) hr2;cbv;refine T3 hE (C8 _ _ _) hL2 aL m rfl rfl h0 (by omega) (by omega) fun l1' n1' q1 q2=>?_;cbv;refine Mf hE (C8 _ _ _) (y:=.sl vs .ro) (ys':=vs) ⟨.refl _,hvall⟩ hM fun cm row3 _ hr3=>?_;have hL3:=hov row2 row3 vs L2 l1' M n1' hL2 hM (by omega) (by omega) hr3;rw[X1];cbv;refine T3 hE (C8 _ _ _) hL3 _ m haddi rfl (by omega) (by omega) (by omega) fun l2' n2' q3 q4=>?_;cbv;refine T3 hE (hne _ _ ht) hRL aL n rfl rfl h0 (by omega) hlen fun l3' n3' q5 q6=>?_;cbv;refine Mf hE (C8 _ _ _) (RU hE (hne _ _ ht)) (hsubl l3' n3' (by omega) (by omega) (by omega)) fun cm2 row4 _ hr4=>?_;rw[X1];cbv;have h3:=Am6 (d:=n+M - aL) (m:=m) hrow.symm e1 e2 hM h0 h1 rfl qm hr2 (by omega) q2 hr3 (by omega) (by omega) q5 q6 hr4;exact hK t 0 m row4 [] _ _ h3.1 rfl h3.2 (.inr ht) Xl
 have hle':n+M≤c:=(hgt c _ hc3).2 rfl;cbv;refine T3 hE hk hRL 0 (n+M) rfl hadd (N2 _) (by omega) (by omega) fun l0 n0 ql qm=>?_;cbv;refine T3 hE hk hRL _ n0 haddi rfl (by omega) (by omega) (by omega) fun l1 n1 q1 q2=>?_;cbv;refine Aj0 hE (Qi (P:=prog) (f:=311) (tS:=38) (tR:=4) (e:=45) (sz:=14) (xs:=vs) (t:=.ro) Ax9 (by kernel_rfl) (by kernel_rfl) hk hvall) ?_;cbv;refine JN hE (fun hc4=>?_) (fun hc4=>?_)
 rotate_left
 ·exact absurd (show Ar.nt false=false from hc4) (by rw[Ar.nt_eq];decide)
 cbv;refine T3 hE hk hRL _ n0 haddi rfl (by omega) (by omega) (by omega) fun l1 n1 q1 q2=>?_;cbv;refine T3 hE hk hRL aL n0 rfl rfl h0 (by omega) (by omega) fun l2 n2 q3 q4=>?_;cbv;refine Mf hE hk (RU hE hk) (hsubl l2 n2 (by omega) (by omega) (by omega)) fun cm row1 _ hr1=>?_;have hL1:=hov2 row1 l1 l2 n2 n1 (by omega) (by omega) (by omega) (by omega) (by omega) hr1;cbv;refine T3 hE (C8 _ _ _) hL1 aL n0 rfl rfl h0 (by omega) (by omega) fun l3 n3 q5 q6=>?_;cbv;refine Mf hE (C8 _ _ _) (y:=.sl vs .ro) (ys':=vs) ⟨.refl _,hvall⟩ hM fun cm2 row2 _ hr2=>?_;rw[X1];cbv;have h3:=At8 (m:=n0) hrow.symm e1 e2 hM h0 h1 hRL (by omega) (by omega) (by omega) q1 q2 q3 q4 hr1 q5 q6 hr2;exact hK id l0 n0 row2 pre _ _ h3.1 (by omega) h3.2 (.inl rfl) (by rw[X1];exact .refl _)
def cf300 :Cf:=⟨[4],[],[],[],[],[]⟩
theorem c300 (N aO bI r)(h:BH N aO bI=some r):C5 prog 300 [vi aO,sr eAA6 bI] ((D7 r)):=by
 unfold BH at h
 refine P3 cf300 func300 call300 ntmps300 ?_;intro E H0 K hE hK hO;cbv;refine E6 hE hO fun b1 H hO=>?_;cbv;refine F3 hE ?_;cbv;refine B0 hE h (fun _ h=>?_) fun _ h=>?_
 ·cbv;refine D3 hE eAB3 h fun x2 h=>?_;cbv;refine A7 hE hO 0 rfl rfl fun H hO=>?_;cbv;refine B1 hE hO 0 rfl ?_;cbv;cases h;exact hK hO (.refl _)
 cbv;refine A7 hE hO 0 rfl rfl fun H hO=>?_;cbv;refine B1 hE hO 0 rfl ?_;cbv;cases h;exact hK hO (.agg (.cons (.refl _) (.cons (.refl _) (.cons (.refl _) (.cons (.refl _) (.cons (.refl _) (.cons (.refl _) (.cons (.refl _) (.cons (.lit _ (B4)) (.refl _))))))))))
def cf274 :Cf:=⟨[4],[],[(10,4)],[],[(20,5),(20,16)],[]⟩
theorem c274 (N bE cD r) (h:Cv N bE cD=some r):C5 prog 274 [(B7 bE),sr eAA6 cD] ((B7 r)):=by
 unfold Cv at h
 refine P3 cf274 func274 call274 ntmps274 ?_;intro E H0 K hE hK hO;cbv;refine E6 hE hO fun b1 H hO=>?_;cbv;refine EU hE (f:=eAA6) h (c298 N cD) (.refl _) hO fun l2 q3 H hq3 hO h=>?_;cbv;obtain⟨s4,hx,h⟩:=bind_some h;refine P0 cf274 hE K3 (fun e l H1=>∃u1:OG,Al u1 (Ar.len s4)∧e= .normal∧l=[(4,.v (.ref b1 0)),(5,.v (.own u1.id u1.lo u1.n))]∧B6 Eq H0 [ob u1 14 eAA6 s4,cb b1 [.bool false,vi 0,.sl [] .nil,vi 0,vi 0,vi 0,vi 0,vi 0,.sl [] .nil,vi 0,vi 0,vi 0,vi 0,vi 0,.str (⟨#[]⟩)]] H1) (by kernel_rfl) ?_ ?_
 ·clear h;have h:=hx;clear hx;cbv;refine B0 hE h (fun _ h=>?_) fun _ h=>?_
  ·cbv;refine Ml hE (f:=eAA6) hO hq3 0 rfl h (c299 N l2 0 ([bE.p])) (.cons (.refl _) (.cons (.lit _ (D4 ((eAB3 bE.p).symm) (B4))) (.refl _))) fun l5 q6 H hq6 hO h=>?_;cbv;cases h;exact⟨_,⟨q6,hq6,rfl,rfl,hO⟩,.e2 .z,rfl⟩
  cbv;cases h;exact⟨_,⟨q3,hq3,rfl,rfl,hO⟩,.e2 .z,rfl⟩
 clear hx;rintro e l H ⟨q7,hq7,rfl,rfl,hO⟩;cbv;refine JU hE hq7 ?_;cbv;refine B0 hE h (fun _ h=>?_) fun _ h=>?_
 ·cbv;refine A7 hE hO 1 rfl rfl fun H hO=>?_;cbv;refine B1 hE hO 1 rfl ?_;cbv;cases h;exact hK hO (.agg (.cons (.refl _) (.cons (.refl _) (.cons (.lit _ (B4)) (.cons (.refl _) (.cons (.refl _) (.cons (.refl _) (.cons (.refl _) (.cons (.refl _) (.cons (.lit _ (B4)) (.refl _)))))))))))
 cbv;refine JV hE hO hq7 0 rfl fun H hO=>?_;cbv;refine HD hE (by trivial) ?_;cbv;refine A8 hE h (c300 N 1 s4) (.refl _) fun r8 h=>?_;cbv;refine A7 hE hO 0 rfl rfl fun H hO=>?_;cbv;refine B1 hE hO 0 rfl ?_;cbv;cases h;exact hK hO (.refl _)
def cf301 :Cf:=⟨[],[(5,6)],[],[],[],[]⟩
theorem c301 (N aA aL bR r) (h:V5 N aA aL bR=some r):Nv prog 301 [vi aL,vi bR] 14 (lst eAA6 aA) (lst eAA6 r):=by
 unfold V5 at h
 obtain⟨x,h1,h2⟩:=bind_some h;cases K8 h2;obtain⟨h0,h1,h2,hr⟩:=Al7 (f:=eAA6) h1;rw[hr];clear hr h
 generalize lst eAA6 aA=xs at *
 rintro H ⟨id,lo,n,pre,rest⟩ ⟨e1,e2⟩ hk
 simp only at e1 e2 hk
 refine Qe (T:=TT) cf301 K3 func301 (by rfl) (by kernel_rfl) call301 ntmps301 (by rfl) (by rfl) ?_;intro E K hE hK
 simp only at hK ⊢
 generalize hrow:pre++xs++rest=row at hk
 obtain⟨RL,hRL⟩:∃RL:Int,RL=(row.length:Nat):=⟨_,rfl⟩
 have hlen:lo+n≤RL:=by rw[hRL,←hrow,e1,e2];simp;omega
 have hn0:0≤lo∧0≤n∧bR≤n:=by omega
 have hdl:∀l2 n2:Int,0≤l2→0≤n2→l2+n2≤RL→n2=((L1 row l2 n2).length:Nat):=fun l2 n2 a b c=>by rw[Bk a b (by rw[←hRL];exact c)];omega
 cbv;refine Sg hE ?_;cbv;refine XY hE hk hRL aL bR rfl rfl h0 h1 (by omega) hlen rfl ?_;cbv;refine JN hE (fun hc=>?_) (fun hc=>?_)
 ·cbv
  have hij:aL=bR:=by rw[cmp_eq]at hc;simpa[EK]using hc
  refine hK id lo n row pre rest H ?_ e1 ?_ (.inl rfl) ?_
  ·rw[←hrow,hij,Dm]
  ·rw[hij,Dm];exact e2
  rw[X1];intro y b hy
  by_cases ey:y=id
  ·subst ey;rw[C8]at hy;cases hy;exact hk
  rwa[C1 _ _ ey]at hy
 cbv;refine Sg hE ?_;cbv;refine T3 hE hk hRL 0 aL rfl rfl (N2 _) h0 (by omega) fun l1 n1 q1 q2=>?_;cbv;refine T3 hE hk hRL bR n rfl rfl (by omega) (by omega) hlen fun l2 n2 q3 q4=>?_;cbv;have hsl:=hdl l2 n2 (by omega) (by omega) (by omega);refine ZK hE hk hRL (RU hE hk) hsl (fun hfit m row1 q5 hr1=>?_) (fun hno=>absurd hno (by omega));cbv;refine Sg hE ?_;cbv
 have hR1:RL=(row1.length:Nat):=by rw[hr1,DM (Ah2 hRL hsl (by omega) (by omega) hfit)];exact hRL
 refine T3 hE (C8 _ _ _) hR1 m n rfl rfl (by omega) (by omega) (by omega) fun l3 n3 q6 q7=>?_;cbv;refine ZJ hE (C8 _ _ _) fun row2 hr2=>?_;cbv;have hd:=An6 hrow.symm e1 e2 h0 h1 h2 (by omega) (by omega) q3 q4 hr1 (q5.trans (O8 (n1+ ·) hsl)) q6 q7 hr2;rw[X1];exact hK id l1 m row2 pre _ _ hd.1 (by omega) hd.2 (.inl rfl) (by rw[X1];exact .refl _)
def cf275 :Cf:=⟨[6],[],[],[],[(22,7)],[]⟩
theorem c275 (N bI bP bE r)(h:Er N bI bP bE=some r):C5 prog 275 [sr eAA6 bI,vi bP,(B7 bE)] ((B7 r)):=by
 unfold Er at h
 refine P3 cf275 func275 call275 ntmps275 ?_;intro E H0 K hE hK hO;cbv;refine E6 hE hO fun b1 H hO=>?_;cbv;refine EU hE (f:=eAA6) h (c298 N bI) (.refl _) hO fun l2 q3 H hq3 hO h=>?_;cbv;refine B0 hE h (fun _ h=>?_) fun _ h=>?_
 ·cbv;refine Ml hE (f:=eAA6) hO hq3 0 rfl h (c301 N l2 bP (ar .add .i64 bP 1)) (.refl _) fun l4 q5 H hq5 hO h=>?_;cbv;refine JV hE hO hq5 0 rfl fun H hO=>?_;cbv;refine A8 hE h (c300 N 3 l4) (.refl _) fun r6 h=>?_;cbv;refine A7 hE hO 0 rfl rfl fun H hO=>?_;cbv;refine B1 hE hO 0 rfl ?_;cbv;cases h;exact hK hO (.refl _)
 cbv;refine Aq hE hO hq3 0 rfl h fun h=>?_;cbv;refine Bc hE (f:=eAA6) (esz:=14) (tz:=14) (off:=0) (u:=(fun x7:A9=>bE.p)) (fun _=>⟨_,.eq (eAB3 _) (.refl _),(by rw[eAB3];rfl),Bj _,rfl⟩) (by decide) hO hq3 0 rfl h fun l8 H hq3 h hO=>?_;cbv;refine JV hE hO hq3 0 rfl fun H hO=>?_;cbv;refine A8 hE h (c300 N 3 l8) (.refl _) fun r9 h=>?_;cbv;refine A7 hE hO 0 rfl rfl fun H hO=>?_;cbv;refine B1 hE hO 0 rfl ?_;cbv;cases h;exact hK hO (.refl _)
def cf302 :Cf:=⟨[22],[],[],[],[],[]⟩
theorem c302 (N aA aI r) (h:Bv N aA aI=some r):Li prog 302 [.sl [] .nil,vi aI] 8 (lst eAB0 r):=by
 unfold Bv at h
 obtain⟨h1,h2,hr⟩:=HX (f:=eAB0) h;rw[hr];clear hr h;intro H0
 have hneg:∀b,cmp .lss aI 0=b→b=false:=fun b h=>by rw[cmp_eq]at h;subst h;simp[EK];omega
 have hsub:ar .sub .i64 aI (ar .sub .i64 0 0)=aI:=by rw[ar_eq,ar_eq];simp only[arI];rw[show(0:Int) - 0=0 from rfl,wrap_small 0 (by omega) (by omega),Dx];exact wrap_small _ (by omega) (by omega)
 have hgt:∀b,cmp .gtr (ar .sub .i64 aI (ar .sub .i64 0 0)) 0=b→(b=false→aI=0):=fun b h=>by rw[hsub,cmp_eq]at h;subst h;simp[EK];omega
 have hbn:aI.toNat*88≤140737488355328:=by have:=Hn (a:=aI.toNat) (b:=0) (by_:=88) (by omega) (by decide);simpa using this
 have hl0:(0:Int)=(([]:List V).length:Nat):=rfl;refine BK (T:=TT) cf302 K3 func302 (by rfl) (by kernel_rfl) call302 ntmps302 (by rfl) (by rfl) ?_;intro E K hE hK hN;cbv;refine JN hE (fun hc=>absurd (hneg _ hc) (by decide)) (fun hc=>?_);cbv;refine Na hE hl0 ?_;cbv;refine JN hE (fun hc2=>?_) (fun hc2=>?_)
 ·cbv;refine Kz hE ?_;cbv;refine HU hE aI hsub (.inl rfl) h1 hbn fun t m row j ht hm hrow=>?_;obtain⟨RL,hRL,hR0⟩:∃RL:Int,RL=(row.length:Nat)∧0≤RL:=⟨_,rfl,by omega⟩;cbv;refine Na hE hl0 ?_;cbv;refine T3 hE (C8 _ _ _) hRL 0 0 rfl rfl (N2 _) (N2 _) hR0 fun l' n' q1 q2=>?_;cbv
  have e1:0=l':=by omega
  have e2:0=n':=by omega
  subst e1 e2;exact hK ⟨t,0,0,[],row⟩ [] _ ⟨rfl,rfl⟩ ((B6.start C4 rfl).push ht rfl)
 cbv;exact hN rfl [] H0 (.start C4 rfl)
theorem c278 (N aJ r) (h:AK N aJ=some r):C5 prog 278 [sr eAD4 aJ] (sr eAB0 r):=by
 unfold AK at h
 refine T9 (T:=TT) cf0 K3 func278 (by rfl) (by kernel_rfl) call278 ntmps278 (by rfl) (by rfl) ?_;intro E H0 K hE hK hF;have hO:B6 Eq H0 [] H0:=.start C4 rfl;cbv;refine F3 hE ?_;cbv;obtain⟨s2,hx,h⟩:=bind_some h;refine J5 cf0 hE K3 (fun s1=>[(0,.v (sr eAD4 aJ)),fi 3 s1.1,(9,.v (sr eAD4 aJ)),fi 10 (Ar.len aJ),fi 11 s1.2]) (fun s1 H1=>B6 Eq H0 [] H1) (fun x e l H1=>e= .exit 0∧l=[(0,.v (sr eAD4 aJ)),fi 3 x]∧B6 Eq H0 [] H1) (by kernel_rfl) ?_ hx ?_ hO ?_
 ·intro s1 H o hO h;clear hx;cbv;refine B0 hE h (fun _ h=>?_) fun _ h=>?_
  ·cbv;refine D3 hE eAE2 h fun x3 h=>?_;cbv;refine F3 hE ?_;cbv;refine B0 hE h (fun _ h=>?_) fun _ h=>?_
   ·cbv;cases h
   cbv;cases h;exact⟨_,rfl,.e rfl (.e4 .z),rfl,hO⟩
  cbv;cases h;exact⟨_,_,rfl,⟨rfl,rfl,hO⟩,.e2 .z,rfl⟩
 ·exact .e rfl (.e4 .z)
 clear hx;rintro e l H ⟨rfl,rfl,hO⟩;cbv;refine EU hE (f:=eAB0) h (c302 N [] s2) (.cons (.refl _) (.cons (.refl _) .nil)) hO fun l4 q5 H hq5 hO h=>?_;cbv;refine F3 hE ?_;cbv;obtain⟨s8,hx,h⟩:=bind_some h;refine M1 cf0 hE K3 (γ:=OG) (fun s6 g=>[(6,.v (.own g.id g.lo g.n)),(25,.v (sr eAD4 aJ)),fi 26 (Ar.len aJ),fi 27 s6.1]) (fun s6 g H1=>Al g (Ar.len s6.2)∧B6 Eq H0 [ob g 8 eAB0 s6.2] H1) (fun x e l H1=>∃u1:OG,Al u1 (Ar.len x)∧e= .exit 2∧l=[(6,.v (.own u1.id u1.lo u1.n))]∧B6 Eq H0 [ob u1 8 eAB0 x] H1) (by kernel_rfl) ?_ q5 hx ?_ ?_ ?_
 ·rintro s6 q7 H o ⟨hq7,hO⟩ h;clear hx;cbv;refine B0 hE h (fun _ h=>?_) fun _ h=>?_
  ·cbv;refine D3 hE eAE2 h fun x9 h=>?_;cbv;refine FI (f:=eAB0) hE Tj (by decide) hO hq7 0 rfl (m:=x9) (CN (f:=eAB0) hE Tj (.refl _)) h fun l11 q10 H hq10 hO h=>?_;cbv;cases h;exact⟨_,q10,rfl,.e4 .z,rfl,hq10,hO⟩
  cbv;cases h;exact⟨_,_,rfl,⟨q7,hq7,rfl,rfl,hO⟩,.e rfl .z,rfl⟩
 ·exact .e4 .z
 ·exact⟨hq5,hO⟩
 clear hx;rintro e l H ⟨q12,hq12,rfl,rfl,hO⟩;cbv;cases h;exact hF q12 _ _ 0 _ _ hO rfl (Ah hE hq12) (.refl _)
def cf313 :Cf:=⟨[22],[],[],[],[],[]⟩
theorem c313 (N aA aI r) (h:Co N aA aI=some r):Li prog 313 [.sl [] .nil,vi aI] 1 (lst (V.int .i64) r):=by
 unfold Co at h
 obtain⟨h1,h2,hr⟩:=HX (f:=(V.int .i64)) h;rw[hr];clear hr h;intro H0
 have hneg:∀b,cmp .lss aI 0=b→b=false:=fun b h=>by rw[cmp_eq]at h;subst h;simp[EK];omega
 have hsub:ar .sub .i64 aI (ar .sub .i64 0 0)=aI:=by rw[ar_eq,ar_eq];simp only[arI];rw[show(0:Int) - 0=0 from rfl,wrap_small 0 (by omega) (by omega),Dx];exact wrap_small _ (by omega) (by omega)
 have hgt:∀b,cmp .gtr (ar .sub .i64 aI (ar .sub .i64 0 0)) 0=b→(b=false→aI=0):=fun b h=>by rw[hsub,cmp_eq]at h;subst h;simp[EK];omega
 have hbn:aI.toNat*8≤140737488355328:=by have:=Hn (a:=aI.toNat) (b:=0) (by_:=8) (by omega) (by decide);simpa using this
 have hl0:(0:Int)=(([]:List V).length:Nat):=rfl;refine BK (T:=TT) cf313 K3 func313 (by rfl) (by kernel_rfl) call313 ntmps313 (by rfl) (by rfl) ?_;intro E K hE hK hN;cbv;refine JN hE (fun hc=>absurd (hneg _ hc) (by decide)) (fun hc=>?_);cbv;refine Na hE hl0 ?_;cbv;refine JN hE (fun hc2=>?_) (fun hc2=>?_)
 ·cbv;refine Kz hE ?_;cbv;refine HU hE aI hsub (.inl rfl) h1 hbn fun t m row j ht hm hrow=>?_;obtain⟨RL,hRL,hR0⟩:∃RL:Int,RL=(row.length:Nat)∧0≤RL:=⟨_,rfl,by omega⟩;cbv;refine Na hE hl0 ?_;cbv;refine T3 hE (C8 _ _ _) hRL 0 0 rfl rfl (N2 _) (N2 _) hR0 fun l' n' q1 q2=>?_;cbv
  have e1:0=l':=by omega
  have e2:0=n':=by omega
  subst e1 e2;exact hK ⟨t,0,0,[],row⟩ [] _ ⟨rfl,rfl⟩ ((B6.start C4 rfl).push ht rfl)
 cbv;exact hN rfl [] H0 (.start C4 rfl)
theorem c303 (N aJ r) (h:S9 N aJ=some r):C5 prog 303 [sr eLI aJ] (sr (V.int .i64) r):=by
 unfold S9 at h
 refine T9 (T:=TT) cf0 K3 func303 (by rfl) (by kernel_rfl) call303 ntmps303 (by rfl) (by rfl) ?_;intro E H0 K hE hK hF;have hO:B6 Eq H0 [] H0:=.start C4 rfl;cbv;refine F3 hE ?_;cbv;obtain⟨s2,hx,h⟩:=bind_some h;refine J5 cf0 hE K3 (fun s1=>[(0,.v (sr eLI aJ)),fi 3 s1.1,(9,.v (sr eLI aJ)),fi 10 (Ar.len aJ),fi 11 s1.2]) (fun s1 H1=>B6 Eq H0 [] H1) (fun x e l H1=>e= .exit 0∧l=[(0,.v (sr eLI aJ)),fi 3 x]∧B6 Eq H0 [] H1) (by kernel_rfl) ?_ hx ?_ hO ?_
 ·intro s1 H o hO h;clear hx;cbv;refine B0 hE h (fun _ h=>?_) fun _ h=>?_
  ·cbv;refine D3 hE eAD1 h fun x3 h=>?_;cbv;refine F3 hE ?_;cbv;refine B0 hE h (fun _ h=>?_) fun _ h=>?_
   ·cbv;cases h
   cbv;cases h;exact⟨_,rfl,.e rfl (.e4 .z),rfl,hO⟩
  cbv;cases h;exact⟨_,_,rfl,⟨rfl,rfl,hO⟩,.e2 .z,rfl⟩
 ·exact .e rfl (.e4 .z)
 clear hx;rintro e l H ⟨rfl,rfl,hO⟩;cbv;refine EU hE (f:=(V.int .i64)) h (c313 N [] s2) (.cons (.refl _) (.cons (.refl _) .nil)) hO fun l4 q5 H hq5 hO h=>?_;cbv;refine F3 hE ?_;cbv;obtain⟨s8,hx,h⟩:=bind_some h;refine M1 cf0 hE K3 (γ:=OG) (fun s6 g=>[(6,.v (.own g.id g.lo g.n)),(25,.v (sr eLI aJ)),fi 26 (Ar.len aJ),fi 27 s6.1]) (fun s6 g H1=>Al g (Ar.len s6.2)∧B6 Eq H0 [ob g 1 (V.int .i64) s6.2] H1) (fun x e l H1=>∃u1:OG,Al u1 (Ar.len x)∧e= .exit 2∧l=[(6,.v (.own u1.id u1.lo u1.n))]∧B6 Eq H0 [ob u1 1 (V.int .i64) x] H1) (by kernel_rfl) ?_ q5 hx ?_ ?_ ?_
 ·rintro s6 q7 H o ⟨hq7,hO⟩ h;clear hx;cbv;refine B0 hE h (fun _ h=>?_) fun _ h=>?_
  ·cbv;refine D3 hE eAD1 h fun x9 h=>?_;cbv;refine FI (f:=(V.int .i64)) hE (fun _=>rfl) (by decide) hO hq7 0 rfl (m:=x9) (CN (f:=(V.int .i64)) hE (fun _=>rfl) (.refl _)) h fun l11 q10 H hq10 hO h=>?_;cbv;cases h;exact⟨_,q10,rfl,.e4 .z,rfl,hq10,hO⟩
  cbv;cases h;exact⟨_,_,rfl,⟨q7,hq7,rfl,rfl,hO⟩,.e rfl .z,rfl⟩
 ·exact .e4 .z
 ·exact⟨hq5,hO⟩
 clear hx;rintro e l H ⟨q12,hq12,rfl,rfl,hO⟩;cbv;cases h;exact hF q12 _ _ 0 _ _ hO rfl (Ah hE hq12) (.refl _)
def cf314 :Cf:=⟨[22],[],[],[],[],[]⟩
theorem c314 (N aA aI r) (h:AJ N aA aI=some r):Li prog 314 [.sl [] .nil,vi aI] 2 (lst eAB6 r):=by
 unfold AJ at h
 obtain⟨h1,h2,hr⟩:=HX (f:=eAB6) h;rw[hr];clear hr h;intro H0
 have hneg:∀b,cmp .lss aI 0=b→b=false:=fun b h=>by rw[cmp_eq]at h;subst h;simp[EK];omega
 have hsub:ar .sub .i64 aI (ar .sub .i64 0 0)=aI:=by rw[ar_eq,ar_eq];simp only[arI];rw[show(0:Int) - 0=0 from rfl,wrap_small 0 (by omega) (by omega),Dx];exact wrap_small _ (by omega) (by omega)
 have hgt:∀b,cmp .gtr (ar .sub .i64 aI (ar .sub .i64 0 0)) 0=b→(b=false→aI=0):=fun b h=>by rw[hsub,cmp_eq]at h;subst h;simp[EK];omega
 have hbn:aI.toNat*16≤140737488355328:=by have:=Hn (a:=aI.toNat) (b:=0) (by_:=16) (by omega) (by decide);simpa using this
 have hl0:(0:Int)=(([]:List V).length:Nat):=rfl;refine BK (T:=TT) cf314 K3 func314 (by rfl) (by kernel_rfl) call314 ntmps314 (by rfl) (by rfl) ?_;intro E K hE hK hN;cbv;refine JN hE (fun hc=>absurd (hneg _ hc) (by decide)) (fun hc=>?_);cbv;refine Na hE hl0 ?_;cbv;refine JN hE (fun hc2=>?_) (fun hc2=>?_)
 ·cbv;refine Kz hE ?_;cbv;refine HU hE aI hsub (.inl rfl) h1 hbn fun t m row j ht hm hrow=>?_;obtain⟨RL,hRL,hR0⟩:∃RL:Int,RL=(row.length:Nat)∧0≤RL:=⟨_,rfl,by omega⟩;cbv;refine Na hE hl0 ?_;cbv;refine T3 hE (C8 _ _ _) hRL 0 0 rfl rfl (N2 _) (N2 _) hR0 fun l' n' q1 q2=>?_;cbv
  have e1:0=l':=by omega
  have e2:0=n':=by omega
  subst e1 e2;exact hK ⟨t,0,0,[],row⟩ [] _ ⟨rfl,rfl⟩ ((B6.start C4 rfl).push ht rfl)
 cbv;exact hN rfl [] H0 (.start C4 rfl)
theorem c304 (N aJ r) (h:Ad N aJ=some r):C5 prog 304 [sr eAD6 aJ] (sr eAB6 r):=by
 unfold Ad at h
 refine T9 (T:=TT) cf0 K3 func304 (by rfl) (by kernel_rfl) call304 ntmps304 (by rfl) (by rfl) ?_;intro E H0 K hE hK hF;have hO:B6 Eq H0 [] H0:=.start C4 rfl;cbv;refine F3 hE ?_;cbv;obtain⟨s2,hx,h⟩:=bind_some h;refine J5 cf0 hE K3 (fun s1=>[(0,.v (sr eAD6 aJ)),fi 3 s1.1,(9,.v (sr eAD6 aJ)),fi 10 (Ar.len aJ),fi 11 s1.2]) (fun s1 H1=>B6 Eq H0 [] H1) (fun x e l H1=>e= .exit 0∧l=[(0,.v (sr eAD6 aJ)),fi 3 x]∧B6 Eq H0 [] H1) (by kernel_rfl) ?_ hx ?_ hO ?_
 ·intro s1 H o hO h;clear hx;cbv;refine B0 hE h (fun _ h=>?_) fun _ h=>?_
  ·cbv;refine D3 hE eAE3 h fun x3 h=>?_;cbv;refine F3 hE ?_;cbv;refine B0 hE h (fun _ h=>?_) fun _ h=>?_
   ·cbv;cases h
   cbv;cases h;exact⟨_,rfl,.e rfl (.e4 .z),rfl,hO⟩
  cbv;cases h;exact⟨_,_,rfl,⟨rfl,rfl,hO⟩,.e2 .z,rfl⟩
 ·exact .e rfl (.e4 .z)
 clear hx;rintro e l H ⟨rfl,rfl,hO⟩;cbv;refine EU hE (f:=eAB6) h (c314 N [] s2) (.cons (.refl _) (.cons (.refl _) .nil)) hO fun l4 q5 H hq5 hO h=>?_;cbv;refine F3 hE ?_;cbv;obtain⟨s8,hx,h⟩:=bind_some h;refine M1 cf0 hE K3 (γ:=OG) (fun s6 g=>[(6,.v (.own g.id g.lo g.n)),(25,.v (sr eAD6 aJ)),fi 26 (Ar.len aJ),fi 27 s6.1]) (fun s6 g H1=>Al g (Ar.len s6.2)∧B6 Eq H0 [ob g 2 eAB6 s6.2] H1) (fun x e l H1=>∃u1:OG,Al u1 (Ar.len x)∧e= .exit 2∧l=[(6,.v (.own u1.id u1.lo u1.n))]∧B6 Eq H0 [ob u1 2 eAB6 x] H1) (by kernel_rfl) ?_ q5 hx ?_ ?_ ?_
 ·rintro s6 q7 H o ⟨hq7,hO⟩ h;clear hx;cbv;refine B0 hE h (fun _ h=>?_) fun _ h=>?_
  ·cbv;refine D3 hE eAE3 h fun x9 h=>?_;cbv;refine FI (f:=eAB6) hE QV (by decide) hO hq7 0 rfl (m:=x9) (CN (f:=eAB6) hE QV (.refl _)) h fun l11 q10 H hq10 hO h=>?_;cbv;cases h;exact⟨_,q10,rfl,.e4 .z,rfl,hq10,hO⟩
  cbv;cases h;exact⟨_,_,rfl,⟨q7,hq7,rfl,rfl,hO⟩,.e rfl .z,rfl⟩
 ·exact .e4 .z
 ·exact⟨hq5,hO⟩
 clear hx;rintro e l H ⟨q12,hq12,rfl,rfl,hO⟩;cbv;cases h;exact hF q12 _ _ 0 _ _ hO rfl (Ah hE hq12) (.refl _)
end Go.Ab
