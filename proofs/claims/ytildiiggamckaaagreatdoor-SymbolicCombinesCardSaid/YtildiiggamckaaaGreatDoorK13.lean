/- . -/
import Derived.Test.YtildiiggamckaaaGreatDoorK12
set_option linter.all false
open Go.Ab.Ar (ar ar_eq cmp cmp_eq lst)
namespace Go.Ab
open Go.RowKit Go.Proofs Go.Proofs.Tryz K8
variable [Ar][K8]
set_option maxRecDepth 100000
def c223 (N cA aP r)(h:IM N cA aP=some r):C7 prog 223 [vi cA,(OF aP)] (.bool r):=by
 unfold IM at h
 refine P6 cf0 func223 call223 ntmps223 ?_;intro E H0 K hE hK hO;cbv;cases h;exact hK hO (.refl _)
def c281 (N aP r)(h:Ix N aP=some r):C7 prog 281 [(OF aP)] (vi r):=by
 unfold Ix at h
 refine P6 cf0 func281 call281 ntmps281 ?_;intro E H0 K hE hK hO;cbv;refine B0 hE h (fun _ h=>?_) fun _ h=>?_
 ·cbv;cases h;exact hK hO (.refl _)
 cbv;refine B0 hE h (fun _ h=>?_) fun _ h=>?_
 ·cbv;cases h;exact hK hO (.refl _)
 cbv;refine B0 hE h (fun _ h=>?_) fun _ h=>?_
 ·cbv;cases h;exact hK hO (.refl _)
 cbv;cases h;exact hK hO (.refl _)
def cf258:Cf:=⟨[],[],[(5,5)],[],[],[]⟩
def c258 (N aP r) (h:JR N aP=some r):C7 prog 258 [(OF aP)] (vi r):=by
 unfold JR at h
 refine P6 cf258 func258 call258 ntmps258 ?_;intro E H0 K hE hK hO;cbv;obtain⟨s1,hx,h⟩:=bind_some h;refine O1 cf258 hE J9 (fun e l H1=>e= .normal∧l=[(1,.v (.eref (XK aP) 0)),fi 4 aP.Kind,(5,.v (.bool s1))]∧B6 Eq H0 [] H1) (by kernel_rfl) ?_ ?_
 ·clear h;have h:=hx;clear hx;cbv;refine B0 hE h (fun _ h=>?_) fun _ h=>?_
  ·cbv;cases h;exact⟨_,⟨rfl,rfl,hO⟩,.e rfl (.e2 .z),rfl⟩
  cbv;cases h;exact⟨_,⟨rfl,rfl,hO⟩,.e rfl (.e2 .z),rfl⟩
 clear hx;rintro e l H ⟨rfl,rfl,hO⟩;cbv;refine B0 hE h (fun _ h=>?_) fun _ h=>?_
 ·cbv;refine B0 hE h (fun _ h=>?_) fun _ h=>?_
  ·cbv;cases h;exact hK hO (.refl _)
  cbv;refine A9 hE h (c281 N aP) (.refl _) fun r2 h=>?_;cbv;cases h;exact hK hO (.refl _)
 cbv;refine B0 hE h (fun _ h=>?_) fun _ h=>?_
 ·cbv;refine B0 hE h (fun _ h=>?_) fun _ h=>?_
  ·cbv;cases h;exact hK hO (.refl _)
  cbv;refine A9 hE h (c281 N aP) (.refl _) fun r3 h=>?_;cbv;cases h;exact hK hO (.refl _)
 cbv;cases h;exact hK hO (.refl _)
def c222 (N aF r) (h:Hb N aF=some r):C7 prog 222 [(Db aF)] (vi r):=by
 unfold Hb at h
 refine P6 cf0 func222 call222 ntmps222 ?_;intro E H0 K hE hK hO;cbv;refine A9 hE h (c258 N aF.Value) (.refl _) fun r1 h=>?_;cbv;refine B0 hE h (fun _ h=>?_) fun _ h=>?_
 ·cbv;cases h;exact hK hO (.refl _)
 cbv;refine B0 hE h (fun _ h=>?_) fun _ h=>?_
 ·cbv;refine A9 hE h (c223 N aF.Kind aF.Value) (.refl _) fun r2 h=>?_;cbv;refine B0 hE h (fun _ h=>?_) fun _ h=>?_
  ·cbv;cases h;exact hK hO (.refl _)
  cbv;cases h;exact hK hO (.refl _)
 cbv;cases h;exact hK hO (.refl _)
def cf180:Cf:=⟨[],[],[(73,15)],[],[],[]⟩
def c180 (N aF r) (h:Lc N aF=some r):C7 prog 180 [(Db aF)] (vi r):=by
 unfold Lc at h
 refine P6 cf180 func180 call180 ntmps180 ?_;intro E H0 K hE hK hO;cbv;refine A9 hE h (c220 N aF.Op) (.refl _) fun r1 h=>?_;cbv;refine B0 hE h (fun _ h=>?_) fun _ h=>?_
 ·cbv;cases h;exact hK hO (.refl _)
 cbv;refine E9 hE ?_;cbv;refine B0 hE h (fun _ h=>?_) fun _ h=>?_
 ·cbv;cases h;exact hK hO (.refl _)
 cbv;refine A9 hE h (c221 N aF.Op) (.refl _) fun r2 h=>?_;cbv;refine B0 hE h (fun _ h=>?_) fun _ h=>?_
 ·cbv;cases h;exact hK hO (.refl _)
 cbv;refine B0 hE h (fun _ h=>?_) fun _ h=>?_
 ·cbv;cases h;exact hK hO (.refl _)
 cbv;obtain⟨s3,hx,h⟩:=bind_some h;refine O1 cf180 hE J9 (fun e l H1=>match(generalizing:=false) s3 with| .inl y=>e= .normal∧l=[(1,.v (.eref (Fi aF) 0)),(5,.v (.bool r2.1)),(6,.v (.bool r2.2)),(7,.v (.bool (cmp .eql aF.Op 4))),(8,.v (.bool (Ar.or (cmp .eql aF.Op 4) (cmp .eql aF.Op 0))))]∧B6 Eq H0 [] H1| .inr y=>e= .ret∧l=[fi 2 y]∧B6 Eq H0 [] H1) (by kernel_rfl) ?_ ?_
 ·clear h;have h:=hx;clear hx;cbv;refine B0 hE h (fun _ h=>?_) fun _ h=>?_
  ·cbv;refine A9 hE h (c222 N aF) (.refl _) fun r4 h=>?_;cbv;refine B0 hE h (fun _ h=>?_) fun _ h=>?_
   ·cbv;cases h;exact⟨_,⟨rfl,rfl,hO⟩,.e rfl .z,rfl⟩
   cbv;cases h;exact⟨_,⟨rfl,rfl,hO⟩,.e rfl (.e4 .z),rfl⟩
  cbv;cases h;exact⟨_,⟨rfl,rfl,hO⟩,.e rfl (.e4 .z),rfl⟩
 clear hx
 rcases s3 with y5|y6
 ·rintro e l H ⟨rfl,rfl,hO⟩;cbv;refine B0 hE h (fun _ h=>?_) fun _ h=>?_
  ·cbv;cases h;exact hK hO (.refl _)
  cbv;cases h;exact hK hO (.refl _)
 rintro e l H ⟨rfl,rfl,hO⟩;cbv;cases h;exact hK hO (.refl _)
def c135 (N aF r)(h:IN N aF=some r):C7 prog 135 [(Db aF)] (vi r):=by
 unfold IN at h
 refine P6 cf0 func135 call135 ntmps135 ?_;intro E H0 K hE hK hO;cbv;refine A9 hE h (c178 N N aF) (.refl _) fun r1 h=>?_;cbv;refine B0 hE h (fun _ h=>?_) fun _ h=>?_
 ·cbv;cases h;exact hK hO (.refl _)
 cbv;refine B0 hE h (fun _ h=>?_) fun _ h=>?_
 ·cbv;cases h;exact hK hO (.refl _)
 cbv;refine A9 hE (g:=fun r2=>vi r2) h (fun r2 hx=>c179 N N aF (.func (.func 180) [] []) (fun y1=>Lc N y1) (fun y1 r hx=>C7.value (F:=[]) (C:=[]) (c180 N y1 r hx)) r2 hx) (.refl _) fun r2 h=>?_;cbv;cases h;exact hK hO (.refl _)
def cf249:Cf:=⟨[],[(6,10)],[],[],[],[]⟩
def c249 (N:Nat):∀n aC aD r,Ee N n aC aD=some r→C7 prog 249 [(Db aC),(Db aD)] (.bool r):=by
 intro n
 induction n with
 |zero=>intro aC aD r h;cases h
 |succ n ih=>
 intro aC aD r h
 unfold Ee at h
 refine P6 cf249 func249 call249 ntmps249 ?_;intro E H0 K hE hK hO;cbv;refine E9 hE ?_;cbv;refine E9 hE ?_;cbv;refine B0 hE h (fun _ h=>?_) fun _ h=>?_
 ·cbv;cases h;exact hK hO (.refl _)
 cbv;refine E9 hE ?_;cbv;obtain⟨s2,hx,h⟩:=bind_some h;refine K1 cf249 hE J9 (fun s1=>[(2,.v (.eref (Fi aC) 0)),(3,.v (.eref (Fi aD) 0)),fi 50 (Ar.len aC.dA),fi 51 s1]) (fun s1 H1=>B6 Eq H0 [] H1) (fun x e l H1=>match(generalizing:=false) x with| .inl y=>e= .exit 0∧l=[]∧B6 Eq H0 [] H1| .inr y=>e= .ret∧l=[(4,.b false)]∧B6 Eq H0 [] H1) (by kernel_rfl) ?_ hx ?_ hO ?_
 ·intro s1 H o hO h;clear hx;cbv;refine B0 hE h (fun _ h=>?_) fun _ h=>?_
  ·cbv;refine D0 hE eAF1 h fun x3 h=>?_;cbv;refine D0 hE eAF1 h fun x4 h=>?_;cbv;refine A9 hE h (ih x3 x4) (.refl _) fun r5 h=>?_;cbv;refine B0 hE h (fun _ h=>?_) fun _ h=>?_
   ·cbv;cases h;exact⟨_,_,rfl,⟨rfl,rfl,hO⟩,.b rfl (.z),rfl⟩
   cbv;cases h;exact⟨_,rfl,.e4 .z,rfl,hO⟩
  cbv;cases h;exact⟨_,_,rfl,⟨rfl,rfl,hO⟩,.z,rfl⟩
 ·exact .e4 .z
 clear hx
 rcases s2 with y6|y7
 ·rintro e l H ⟨rfl,rfl,hO⟩;cbv;cases h;exact hK hO (.refl _)
 rintro e l H ⟨rfl,rfl,hO⟩;cbv;cases h;exact hK hO (.refl _)
def c256 (N bL aI cE r)(h:Be N bL aI cE=some r):C7 prog 256 [.bool bL,vi aI,vi cE] (.bool r):=by
 unfold Be at h
 refine P6 cf0 func256 call256 ntmps256 ?_;intro E H0 K hE hK hO;cbv;cases h;exact hK hO (.refl _)
def c257 (N bL aI r)(h:Q7 N bL aI=some r):C7 prog 257 [.bool bL,vi aI] (.bool r):=by
 unfold Q7 at h
 refine P6 cf0 func257 call257 ntmps257 ?_;intro E H0 K hE hK hO;cbv;cases h;exact hK hO (.refl _)
def cf219:Cf:=⟨[],[],[(64,10)],[],[],[]⟩
def c219 (N aA r) (h:HS N aA=some r):C7 prog 219 [(E5 aA)] (vi r):=by
 unfold HS at h
 refine P6 cf219 func219 call219 ntmps219 ?_;intro E H0 K hE hK hO;cbv;refine B0 hE h (fun _ h=>?_) fun _ h=>?_
 ·cbv;cases h;exact hK hO (.refl _)
 cbv;refine Ae0 hE (g:=fun x=>(IX x)) (l:=R8) rfl (fun _=>rfl) rfl rfl h fun x1 h=>?_;cbv;refine E9 hE ?_;cbv;refine E9 hE ?_;cbv;refine B0 hE h (fun _ h=>?_) fun _ h=>?_
 ·cbv;cases h;exact hK hO (.refl _)
 cbv;refine A9 hE h (c256 N x1.typed aA.Typ 15) (.refl _) fun r2 h=>?_;cbv;refine B0 hE h (fun _ h=>?_) fun _ h=>?_
 ·cbv;cases h;exact hK hO (.refl _)
 cbv;refine A9 hE h (c256 N x1.typed aA.Var 15) (.refl _) fun r3 h=>?_;cbv;refine B0 hE h (fun _ h=>?_) fun _ h=>?_
 ·cbv;cases h;exact hK hO (.refl _)
 cbv;refine A9 hE h (c256 N x1.scope aA.dC 63) (.refl _) fun r4 h=>?_;cbv;refine B0 hE h (fun _ h=>?_) fun _ h=>?_
 ·cbv;cases h;exact hK hO (.refl _)
 cbv;refine A9 hE h (c256 N x1.span aA.Span 1099511627776) (.refl _) fun r5 h=>?_;cbv;refine B0 hE h (fun _ h=>?_) fun _ h=>?_
 ·cbv;cases h;exact hK hO (.refl _)
 cbv;obtain⟨s6,hx,h⟩:=bind_some h;refine O1 cf219 hE J9 (fun e l H1=>match(generalizing:=false) s6 with| .inl y=>e= .normal∧l=[(1,.v (.eref (G7 aA) 0)),(3,.v (.eref (Gl x1) 0))]∧B6 Eq H0 [] H1| .inr y=>e= .ret∧l=[fi 2 y]∧B6 Eq H0 [] H1) (by kernel_rfl) ?_ ?_
 ·clear h;have h:=hx;clear hx;cbv;refine B0 hE h (fun _ h=>?_) fun _ h=>?_
  ·cbv;refine A9 hE h (c135 N aA.cY) (.refl _) fun r7 h=>?_;cbv;refine B0 hE h (fun _ h=>?_) fun _ h=>?_
   ·cbv;cases h;exact⟨_,⟨rfl,rfl,hO⟩,.e rfl .z,rfl⟩
   cbv;cases h;exact⟨_,⟨rfl,rfl,hO⟩,.e2 .z,rfl⟩
  cbv;cases h;exact⟨_,⟨rfl,rfl,hO⟩,.e2 .z,rfl⟩
 clear hx
 rcases s6 with y8|y18
 ·rintro e l H ⟨rfl,rfl,hO⟩;cbv;refine B0 hE h (fun _ h=>?_) fun _ h=>?_
  ·cbv;refine A9 hE h (c249 N N aA.cY (⟨0,[],0,0,0,(⟨0,0,⟨#[]⟩⟩:X8)⟩:M4)) (.cons (.refl _) (.cons (.agg (.cons (.refl _) (.cons (.lit _ (B4)) (.refl _)))) (.refl _))) fun r9 h=>?_;cbv;refine B0 hE h (fun _ h=>?_) fun _ h=>?_
   ·cbv;cases h;exact hK hO (.refl _)
   cbv;refine A9 hE h (c257 N x1.typed aA.Typ) (.refl _) fun r10 h=>?_;cbv;refine B0 hE h (fun _ h=>?_) fun _ h=>?_
   ·cbv;cases h;exact hK hO (.refl _)
   cbv;refine A9 hE h (c257 N x1.typed aA.Var) (.refl _) fun r11 h=>?_;cbv;refine B0 hE h (fun _ h=>?_) fun _ h=>?_
   ·cbv;cases h;exact hK hO (.refl _)
   cbv;refine A9 hE h (c257 N x1.scope aA.dC) (.refl _) fun r12 h=>?_;cbv;refine B0 hE h (fun _ h=>?_) fun _ h=>?_
   ·cbv;cases h;exact hK hO (.refl _)
   cbv;refine A9 hE h (c257 N x1.span aA.Span) (.refl _) fun r13 h=>?_;cbv;refine B0 hE h (fun _ h=>?_) fun _ h=>?_
   ·cbv;cases h;exact hK hO (.refl _)
   cbv;cases h;exact hK hO (.refl _)
  cbv;refine A9 hE h (c257 N x1.typed aA.Typ) (.refl _) fun r14 h=>?_;cbv;refine B0 hE h (fun _ h=>?_) fun _ h=>?_
  ·cbv;cases h;exact hK hO (.refl _)
  cbv;refine A9 hE h (c257 N x1.typed aA.Var) (.refl _) fun r15 h=>?_;cbv;refine B0 hE h (fun _ h=>?_) fun _ h=>?_
  ·cbv;cases h;exact hK hO (.refl _)
  cbv;refine A9 hE h (c257 N x1.scope aA.dC) (.refl _) fun r16 h=>?_;cbv;refine B0 hE h (fun _ h=>?_) fun _ h=>?_
  ·cbv;cases h;exact hK hO (.refl _)
  cbv;refine A9 hE h (c257 N x1.span aA.Span) (.refl _) fun r17 h=>?_;cbv;refine B0 hE h (fun _ h=>?_) fun _ h=>?_
  ·cbv;cases h;exact hK hO (.refl _)
  cbv;cases h;exact hK hO (.refl _)
 rintro e l H ⟨rfl,rfl,hO⟩;cbv;cases h;exact hK hO (.refl _)
def cf176:Cf:=⟨[2],[],[],[],[],[]⟩
def c176 (N aA r) (h:Y1 N aA=some r):C7 prog 176 [(E5 aA)] (vi r):=by
 unfold Y1 at h
 refine P6 cf176 func176 call176 ntmps176 ?_;intro E H0 K hE hK hO;cbv;refine D8 hE hO fun b1 H hO=>?_;cbv;refine A9 hE h (c218 N N aA) (.refl _) fun r2 h=>?_;cbv;refine B0 hE h (fun _ h=>?_) fun _ h=>?_
 ·cbv;refine A7 hE hO 0 rfl rfl fun H hO=>?_;cbv;refine A8 hE hO 0 rfl ?_;cbv;cases h;exact hK hO (.refl _)
 cbv;refine B0 hE h (fun _ h=>?_) fun _ h=>?_
 ·cbv;refine A7 hE hO 0 rfl rfl fun H hO=>?_;cbv;refine A8 hE hO 0 rfl ?_;cbv;cases h;exact hK hO (.refl _)
 cbv;refine T9 hE h (c216 N aA) (.refl _) fun r3 v4 hv4 h=>?_;cbv;obtain⟨o9,hx,h⟩:=bind_some h;refine Cc cf176 hE J9 (ι:=Unit) (enc:=fun(x:B1)=>[(E5 x)]) (fun(s6:Unit) F H=>B6 Eq F [cb b1 [vi 0]] H) (fun(r:Int) e F H=>e= .ret∧B6 Eq F [cb b1 [vi r]] H) (fun i s6 y5=>[(2,.v (.ref b1 0)),(5,.v (.eref (G7 y5) 0))]) (fun i s6 y5 F H=>B6 Eq F [cb b1 [vi 0]] H) (fun _=>B6.stable C5 _) (fun _ _=>D9.con (B6.stable C5 _)) (fun _ _ _=>B6.stable C5 _) hv4 hx (hO) (by decide) (fun _=>rfl) (by kernel_rfl) (by kernel_rfl) ?_ ?_ ?_ ?_
 ·rintro E i8 y5 s6 F7 H hE hO;clear hx h;cbv;exact⟨(),hO,.e2 .z,rfl⟩
 ·rintro E i8 _ y5 s6 F7 H o hE hF h hO;clear hx;cbv;refine A9 hE h (c219 N y5) (.refl _) fun r10 h=>?_;cbv;refine B0 hE h (fun _ h=>?_) fun _ h=>?_
  ·cbv;refine A7 hE hO 0 rfl rfl fun H hO=>?_;cbv;cases h;exact⟨_,rfl,rfl,⟨rfl,hO⟩⟩
  cbv;cases h;exact⟨_,rfl,hO⟩
 ·rintro d11 s13 H rfl hd hO;have hO:B6 Eq H0 [cb b1 [vi 0],.blk d11 DB] H:=B6.dblk hd hO;clear hd;clear hx;cbv;refine A7 hE hO 0 rfl rfl fun H hO=>?_;cbv;refine Ez hE hO 1 rfl fun H hO=>?_;cbv;refine A8 hE hO 0 rfl ?_;cbv;cases h;exact hK hO (.refl _)
 rintro d11 y14 e H rfl hd hX;clear hx
 rcases hX with⟨rfl,hO⟩
 have hO:B6 Eq H0 [cb b1 [vi y14],.blk d11 DB] H:=B6.dblk hd hO;clear hd;cbv;refine Ez hE hO 1 rfl fun H hO=>?_;cbv;refine A8 hE hO 0 rfl ?_;cbv;cases h;exact hK hO (.refl _)
def cf209:Cf:=⟨[2],[],[],[],[],[]⟩
def c209 (N aA r) (h:HR N aA=some r):C7 prog 209 [(E5 aA)] (vi r):=by
 unfold HR at h
 refine P6 cf209 func209 call209 ntmps209 ?_;intro E H0 K hE hK hO;cbv;refine D8 hE hO fun b1 H hO=>?_;cbv;refine A9 hE h (c176 N aA) (.refl _) fun r2 h=>?_;cbv;refine B0 hE h (fun _ h=>?_) fun _ h=>?_
 ·cbv;refine A7 hE hO 0 rfl rfl fun H hO=>?_;cbv;refine A8 hE hO 0 rfl ?_;cbv;cases h;exact hK hO (.refl _)
 cbv;refine T9 hE h (c216 N aA) (.refl _) fun r3 v4 hv4 h=>?_;cbv;obtain⟨o9,hx,h⟩:=bind_some h;refine Cc cf209 hE J9 (ι:=Unit) (enc:=fun(x:B1)=>[(E5 x)]) (fun(s6:Unit) F H=>B6 Eq F [cb b1 [vi 0]] H) (fun(r:Int) e F H=>e= .ret∧B6 Eq F [cb b1 [vi r]] H) (fun i s6 y5=>[(2,.v (.ref b1 0)),(4,.v (.eref (G7 y5) 0))]) (fun i s6 y5 F H=>B6 Eq F [cb b1 [vi 0]] H) (fun _=>B6.stable C5 _) (fun _ _=>D9.con (B6.stable C5 _)) (fun _ _ _=>B6.stable C5 _) hv4 hx (hO) (by decide) (fun _=>rfl) (by kernel_rfl) (by kernel_rfl) ?_ ?_ ?_ ?_
 ·rintro E i8 y5 s6 F7 H hE hO;clear hx h;cbv;exact⟨(),hO,.e2 .z,rfl⟩
 ·rintro E i8 _ y5 s6 F7 H o hE hF h hO;clear hx;cbv;refine B0 hE h (fun _ h=>?_) fun _ h=>?_
  ·cbv;refine A7 hE hO 0 rfl rfl fun H hO=>?_;cbv;cases h;exact⟨_,rfl,rfl,⟨rfl,hO⟩⟩
  cbv;cases h;exact⟨_,rfl,hO⟩
 ·rintro d10 s12 H rfl hd hO;have hO:B6 Eq H0 [cb b1 [vi 0],.blk d10 DB] H:=B6.dblk hd hO;clear hd;clear hx;cbv;refine A7 hE hO 0 rfl rfl fun H hO=>?_;cbv;refine Ez hE hO 1 rfl fun H hO=>?_;cbv;refine A8 hE hO 0 rfl ?_;cbv;cases h;exact hK hO (.refl _)
 rintro d10 y13 e H rfl hd hX;clear hx
 rcases hX with⟨rfl,hO⟩
 have hO:B6 Eq H0 [cb b1 [vi y13],.blk d10 DB] H:=B6.dblk hd hO;clear hd;cbv;refine Ez hE hO 1 rfl fun H hO=>?_;cbv;refine A8 hE hO 0 rfl ?_;cbv;cases h;exact hK hO (.refl _)
def c169 (N aA r)(h:Fq N aA=some r):C7 prog 169 [(E5 aA)] (vi r):=by
 unfold Fq at h
 refine P6 cf0 func169 call169 ntmps169 ?_;intro E H0 K hE hK hO;cbv;refine A9 hE h (c209 N aA) (.refl _) fun r1 h=>?_;cbv;refine B0 hE h (fun _ h=>?_) fun _ h=>?_
 ·cbv;cases h;exact hK hO (.refl _)
 cbv;refine A9 hE h (c172 N aA) (.refl _) fun r2 h=>?_;cbv;refine B0 hE h (fun _ h=>?_) fun _ h=>?_
 ·cbv;cases h;exact hK hO (.refl _)
 cbv;cases h;exact hK hO (.refl _)
def c134 (N:Nat) (aB:List B1) (aX:V) (aQ:B1→Option Bool) (bE:∀y1 q,aQ y1=some q→X9 prog aX [(E5 y1)] (.bool q)) (r:Int) (h:L7 N aB aQ=some r):C7 prog 134 [sr eAD8 aB,aX] (vi r):=by
 unfold L7 at h
 refine P6 cf0 func134 call134 ntmps134 ?_;intro E H0 K hE hK hO;cbv;refine E9 hE ?_;cbv;obtain⟨s2,hx,h⟩:=bind_some h;refine K1 cf0 hE J9 (fun s1=>[(0,.v (sr eAD8 aB)),(1,.v (aX)),fi 7 (Ar.len aB),fi 8 s1]) (fun s1 H1=>B6 Eq H0 [] H1) (fun x e l H1=>match(generalizing:=false) x with| .inl y=>e= .exit 0∧l=[]∧B6 Eq H0 [] H1| .inr y=>e= .ret∧l=[fi 4 y]∧B6 Eq H0 [] H1) (by kernel_rfl) ?_ hx ?_ hO ?_
 ·intro s1 H o hO h;clear hx;cbv;refine B0 hE h (fun _ h=>?_) fun _ h=>?_
  ·cbv;refine D0 hE eAE6 h fun x3 h=>?_;cbv;refine Du hE (g:=fun r4=>.bool r4) h (fun r4 hx=>bE x3 r4 hx) (.refl _) fun r4 h=>?_;cbv;refine B0 hE h (fun _ h=>?_) fun _ h=>?_
   ·cbv;cases h;exact⟨_,_,rfl,⟨rfl,rfl,hO⟩,.e rfl .z,rfl⟩
   cbv;cases h;exact⟨_,rfl,.e4 .z,rfl,hO⟩
  cbv;cases h;exact⟨_,_,rfl,⟨rfl,rfl,hO⟩,.z,rfl⟩
 ·exact .e4 .z
 clear hx
 rcases s2 with y5|y6
 ·rintro e l H ⟨rfl,rfl,hO⟩;cbv;cases h;exact hK hO (.refl _)
 rintro e l H ⟨rfl,rfl,hO⟩;cbv;cases h;exact hK hO (.refl _)
def cf253:Cf:=⟨[8],[],[],[],[],[]⟩
def c253 (N:Nat) (aT:List B1) (aV:List B1) (bU:V) (bM:B1→B1→Option Bool) (cL:∀y1 y2 q,bM y1 y2=some q→X9 prog bU [(E5 y1),(E5 y2)] (.bool q)) (r:Bool) (h:K9 N aT aV bM=some r):C7 prog 253 [sr eAD8 aT,sr eAD8 aV,bU] (.bool r):=by
 unfold K9 at h
 refine P6 cf253 func253 call253 ntmps253 ?_;intro E H0 K hE hK hO;cbv;refine E9 hE ?_;cbv;refine E9 hE ?_;cbv;refine B0 hE h (fun _ h=>?_) fun _ h=>?_
 ·cbv;cases h;exact hK hO (.refl _)
 cbv;refine E9 hE ?_;cbv;obtain⟨s2,hx,h⟩:=bind_some h;refine K1 cf253 hE J9 (fun s1=>[(1,.v (sr eAD8 aV)),(2,.v (bU)),(15,.v (sr eAD8 aT)),fi 16 (Ar.len aT),fi 17 s1]) (fun s1 H1=>B6 Eq H0 [] H1) (fun x e l H1=>match(generalizing:=false) x with| .inl y=>e= .exit 0∧l=[]∧B6 Eq H0 [] H1| .inr y=>e= .ret∧l=[(6,.b false)]∧B6 Eq H0 [] H1) (by kernel_rfl) ?_ hx ?_ hO ?_
 ·intro s1 H o hO h;clear hx;cbv;refine B0 hE h (fun _ h=>?_) fun _ h=>?_
  ·cbv;refine D0 hE eAE6 h fun x3 h=>?_;cbv;refine D8 hE hO fun b4 H hO=>?_;cbv;refine A7 hE hO 0 rfl rfl fun H hO=>?_;cbv;refine D0 hE eAE6 h fun x5 h=>?_;cbv;refine A8 hE hO 0 rfl ?_;cbv;refine Du hE (g:=fun r6=>.bool r6) h (fun r6 hx=>cL x3 x5 r6 hx) (.refl _) fun r6 h=>?_;cbv;refine B0 hE h (fun _ h=>?_) fun _ h=>?_
   ·cbv;cases h;exact⟨_,_,rfl,⟨rfl,rfl,hO.tail⟩,.b rfl (.z),rfl⟩
   cbv;cases h;exact⟨_,rfl,.e rfl (.e4 .z),rfl,hO.tail⟩
  cbv;cases h;exact⟨_,_,rfl,⟨rfl,rfl,hO⟩,.z,rfl⟩
 ·exact .e rfl (.e4 .z)
 clear hx
 rcases s2 with y7|y8
 ·rintro e l H ⟨rfl,rfl,hO⟩;cbv;cases h;exact hK hO (.refl _)
 rintro e l H ⟨rfl,rfl,hO⟩;cbv;cases h;exact hK hO (.refl _)
def c215 (N:Nat):∀n aC aD r,CV N n aC aD=some r→C7 prog 215 [(E5 aC),(E5 aD)] (.bool r):=by
 intro n
 induction n with
 |zero=>intro aC aD r h;cases h
 |succ n ih=>
 intro aC aD r h
 unfold CV at h
 refine P6 cf0 func215 call215 ntmps215 ?_;intro E H0 K hE hK hO;cbv;refine B0 hE h (fun _ h=>?_) fun _ h=>?_
 ·cbv;cases h;exact hK hO (.refl _)
 cbv;refine A9 hE h (c249 N N aC.cY aD.cY) (.refl _) fun r1 h=>?_;cbv;refine B0 hE h (fun _ h=>?_) fun _ h=>?_
 ·cbv;cases h;exact hK hO (.refl _)
 cbv;refine A9 hE (g:=fun r2=>.bool r2) h (fun r2 hx=>c253 N aC.dA aD.dA (.func (.func 215) [] []) (fun y1 y2=>CV N n y1 y2) (fun y1 y2 r hx=>C7.value (F:=[]) (C:=[]) (ih y1 y2 r hx)) r2 hx) (.refl _) fun r2 h=>?_;cbv;cases h;exact hK hO (.refl _)
def c214 (N aR aG r)(h:BH N aR aG=some r):C7 prog 214 [(E5 aR),.eref (G7 aG) 0] (.bool r):=by
 unfold BH at h
 refine P6 cf0 func214 call214 ntmps214 ?_;intro E H0 K hE hK hO;cbv;refine A9 hE h (c215 N N aG aR) (.refl _) fun r1 h=>?_;cbv;cases h;exact hK hO (.refl _)
def c171 (N aE aA r)(h:CZ N aE aA=some r):C7 prog 171 [sr eAD8 aE,(E5 aA)] (vi r):=by
 unfold CZ at h
 refine P6 cf0 func171 call171 ntmps171 ?_;intro E H0 K hE hK hO;cbv;refine A9 hE (g:=fun r1=>vi r1) h (fun r1 hx=>c134 N aE (.func (.func 214) [] [.eref (G7 aA) 0]) (fun y1=>BH N y1 aA) (fun y1 r hx=>C7.value (F:=[]) (C:=[.eref (G7 aA) 0]) (c214 N y1 aA r hx)) r1 hx) (.refl _) fun r1 h=>?_;cbv;cases h;exact hK hO (.refl _)
def c244 (N aG r) (h:DI N aG=some r):It prog 244 (fun yv=>[yv,.eref (G7 aG) 0]) (List.map (fun(x:(E4×A6))=>[(K3 x.1),(C1 x.2)]) r) rbN:=by
 unfold DI at h
 obtain⟨⟨w0,u0⟩,h1,hr⟩:=bind_some h;clear h;have hr:=I9 hr;subst hr;have h:=h1;clear h1;refine T3 cf0 J9 func244 (by rfl) (by kernel_rfl) call244 ntmps244 (by rfl) (fun _=>rfl) ?_;intro yv I D hI hD hy tl F E H K hE hO hK hKD
 have hO:B6 (I (List.map (fun(x:(E4×A6))=>[(K3 x.1),(C1 x.2)]) (w0++[])++tl)) F [] H:=by rw[G9];exact hO
 cbv;obtain⟨w1,h1,he⟩:=Y0 h;clear h;have h:=h1;clear h1
 rw[he,F6]at hO
 clear he;have hO:B6 (I ([.agg [vi 0,vi 0,vi aG.Var,vi aG.Typ,vi aG.cY.Op,sr eAE4 aG.cY.dA,vi aG.cY.Var,vi aG.cY.Field,vi aG.cY.Kind,vi aG.cY.Value.Kind,vi aG.cY.Value.Num,.str aG.cY.Value.Text,sr (V.int .i64) ([]),sr (V.int .i64) ([]),sr eAE4 ([]),sr eAE9 ([]),sr (V.int .i64) ([])],.agg [.bool true,vi 0,sr eAD8 ([]),vi 0,vi 0,vi 0,vi 0,vi 0,sr eAE4 ([]),vi 0,vi 0,vi 0,vi 0,vi 0,.str (⟨#[]⟩)]]::(List.map (fun(x:(E4×A6))=>[(K3 x.1),(C1 x.2)]) (w1++[])++tl))) F [] _:=hO;refine Dt hE hI hD hy hO (.cons (.agg (.cons (.refl _) (.cons (.refl _) (.cons (.refl _) (.cons (.refl _) (.cons (.refl _) (.cons (.refl _) (.cons (.refl _) (.cons (.refl _) (.cons (.refl _) (.cons (.refl _) (.cons (.refl _) (.cons (.refl _) (.cons (.lit _ (B4)) (.cons (.lit _ (B4)) (.cons (.lit _ (B4)) (.cons (.lit _ (B4)) (.cons (.lit _ (B4)) (.refl _))))))))))))))))))) (.cons (.agg (.cons (.refl _) (.cons (.refl _) (.cons (.lit _ (B4)) (.cons (.refl _) (.cons (.refl _) (.cons (.refl _) (.cons (.refl _) (.cons (.refl _) (.cons (.lit _ (B4)) (.refl _))))))))))) (.refl _))) (fun H hO=>?_) (fun H hO=>?_)
 ·cbv;obtain⟨hw,_⟩:=F9 h
  rw[←hw]at hO
  exact hK _ _ _ hO trivial
 clear h;cbv;exact hKD _ _ _ hO trivial
def cf298:Cf:=⟨[7],[],[],[],[],[]⟩
def c298 (N aB r)(h:Q4 N aB=some r):Lu prog 298 [sr eAD8 aB] 14 (lst eAD8 r):=by
 unfold Q4 at h
 intro H0;refine BU (T:=TT) cf298 J9 func298 (by rfl) (by kernel_rfl) call298 ntmps298 (by rfl) (by rfl) ?_;intro E K hE hK hN;have hO:B6 Eq H0 [] H0:=.start C5 rfl;cbv;refine Ad4 hE rfl (fun hx=>?_) ?_
 ·cbv;exact hN (Vn hx h) [] H0 hO
 cbv;refine Xj (f:=eAD8) hE Bm (by decide) hO (.inr rfl) (m:=aB) (Cz (f:=eAD8) hE Bm (.refl _)) h fun l q H hq hO h=>?_;cbv;cases h;exact hK q _ _ (Z5 hE hq) hO
def AB2 (vals:Array Value)(w:World):(callFunc 311 vals).run prog w=((Extern.SlicesOverlaps.overlaps #[38,38] #[4] vals).run prog w).andThen fun v w'=>.ok (.value v) w':=
 run_callFunc_extern func311 (by kernel_rfl) (by kernel_rfl) (by kernel_rfl) (e:=Extern.SlicesOverlaps.overlaps #[38,38] #[4]) (by kernel_rfl) vals w
def cf299:Cf:=⟨[],[(11,8),(15,8)],[],[],[],[]⟩
set_option maxHeartbeats 1000000 in
def c299 (N aB aL aP r) (h:W1 N aB aL aP=some r):NE prog 299 [vi aL,.sl (lst eAD8 aP) .ro] 14 (lst eAD8 aB) (lst eAD8 r):=by
 unfold W1 at h
 obtain⟨x,h1,h2⟩:=bind_some h;cases I9 h2;obtain⟨h0,h1,h2,hr⟩:=Ao6 (f:=eAD8) h1;rw[hr];clear hr h;have hvall:=II Bm aP
 generalize lst eAD8 aB=xs at *
 generalize lst eAD8 aP=vs at *
 rintro H ⟨id,lo,n,pre,rest⟩ ⟨e1,e2⟩ hk
 simp only at e1 e2 hk
 refine Qs (T:=TT) cf299 J9 func299 (by rfl) (by kernel_rfl) call299 ntmps299 (by rfl) (by rfl) ?_;intro E K hE hK
 simp only at hK ⊢
 generalize hrow:pre++xs++rest=row at hk
 obtain⟨RL,hRL⟩:∃RL:Int,RL=(row.length:Nat):=⟨_,rfl⟩;obtain⟨M,hM⟩:∃M:Int,M=(vs.length:Nat):=⟨_,rfl⟩
 have hlen:lo+n≤RL:=by rw[hRL,←hrow,e1,e2];simp;omega
 have hn0:0≤lo∧0≤n∧aL≤n∧0≤M∧n+M≤1073741824:=by omega
 have hwrap:∀a b:Int,0≤a→0≤b→a+b≤1073741824→ar .add .i64 a b=a+b:=fun a b ha hb hab=>by rw[ar_eq];exact wrap_small _ (by omega) (by omega)
 have hwrap2:∀a b:Int,0≤b→b≤a→a≤1073741824→ar .sub .i64 a b=a-b:=fun a b ha hb hab=>by rw[ar_eq];exact wrap_small _ (by omega) (by omega)
 have hadd:ar .add .i64 n M=n+M:=hwrap _ _ (by omega) (by omega) (by omega);have haddi:ar .add .i64 aL M=aL+M:=hwrap _ _ (by omega) (by omega) (by omega)
 have hd2:ar .sub .i64 (ar .add .i64 n M) aL=n+M-aL:=by rw[hadd];exact hwrap2 _ aL h0 (by omega) (by omega)
 have hgt:∀c b,cmp .gtr (ar .add .i64 n M) c=b→(b=true→c<n+M)∧(b=false→n+M≤c):=fun c b h=>by
  rw[cmp_eq,hadd]at h;subst h;simp[Fg]
 have hbn:(n.toNat+vs.length)*152≤140737488355328:=HF (by omega) (by decide);have hbn2:∀a b:Int,0≤a→0≤b→a+b≤1073741824→(a.toNat+b.toNat)*152≤140737488355328:=fun a b _ _ _=>HF (by omega) (by decide)
 have hsubl:∀l2 n2:Int,0≤l2→0≤n2→l2+n2≤RL→n2=((L9 row l2 n2).length:Nat):=fun l2 n2 a b c=>by rw[Bn a b (by rw[←hRL];exact c)];omega
 have hov:∀(r1 r2 ys:List V) (L l YL n:Int),L=(r1.length:Nat)→YL=(ys.length:Nat)→0≤l→l+YL≤L→r2=Ax r1 l.toNat (ys.take n.toNat)→L=(r2.length:Nat):=fun r1 r2 ys L l YL n a b c d e=>by
  rw[e,Ea (by simp;omega)];exact a
 have hov2:∀(r1:List V) (l l2 n2 n:Int),0≤l→0≤n→l+n≤RL→0≤l2→0≤n2→r1=Ax row l.toNat ((L9 row l2 n2).take n.toNat)→RL=(r1.length:Nat):=fun r1 l l2 n2 n a b c _ _ e=>by
  rw[e,Ea (by simp;omega)];exact hRL
 have hnl:∀(r2:List V) (z:V) (j:Nat) (l n d:Int),0≤l→0≤n→l+n≤RL→0≤d→r2=L9 row l n++List.replicate d.toNat z++List.replicate j z→∃L:Int,L=(r2.length:Nat)∧n+d≤L:=fun r2 z j l n d a b c e f=>⟨_,rfl,by rw[f];simp only[I8,NJ,Bn a b (by rw[←hRL];exact c)];omega⟩
 have hne:∀t (b:Option Dh),H t=none→upd H t b id=some (.arr 14 row):=fun t b ht=>by rw[C3 _ _ (fun e=>by subst e;rw[hk]at ht;cases ht)];exact hk
 have hx0:vs=[]→xs.take aL.toNat++vs++xs.drop aL.toNat=xs:=fun e=>by rw[e,G9,Bz]
 have hx1:aL=n→xs.take aL.toNat++vs++xs.drop aL.toNat=xs++vs:=fun e=>by rw[e,e2,K0,P2 (D3 _),NM (D3 _),G9]
 have hv0:M=0→vs=[]:=fun e=>List.length_eq_zero_iff.1 (by omega)
 have hcmp:∀op a b c,cmp op a b=c→Fg op a b=c:=fun op a b c h=>by rw[←cmp_eq];exact h
 cbv;refine T8 hE hk hRL aL n rfl rfl h0 (by omega) hlen fun _ _ _ _=>?_;cbv;refine Ng hE hM ?_;cbv;refine Kh hE (fun hc=>?_) (fun hc=>?_)
 ·cbv
  have hm0:M=0:=by simpa[Fg]using hcmp _ _ _ _ hc
  rw[hx0 (hv0 hm0)]at hK
  refine hK id lo n row pre rest H hrow.symm e1 e2 (.inl rfl) ?_;rw[Z1];exact Av3 hk
 cbv
 have hm0:¬M=0:=by simpa[Fg]using hcmp _ _ _ _ hc
 refine Sx hE ?_;cbv;refine Kh hE (fun hc2=>?_) (fun hc2=>?_)
 ·cbv
  have hin2:aL=n:=by simpa[Fg]using hcmp _ _ _ _ hc2
  rw[hx1 hin2]at hK
  refine Ab4 hE hk hRL (y:=.sl vs .ro) (ys':=vs) ⟨.refl _,hvall⟩ hM (fun hfit m row1 q5 hr1=>?_) (fun hno=>⟨hbn,fun t m row1 j ht q5 hr1=>?_⟩)
  ·cbv;have h3:=Ap8 hrow.symm e1 e2 hM q5 hr1;exact hK id lo m row1 pre _ _ h3.1 e1 h3.2 (.inl rfl) (by rw[Z1];exact .refl _)
  cbv;have h3:=Af6 hrow.symm e1 e2 hM q5 hr1;exact hK t 0 m row1 [] _ _ h3.1 rfl h3.2 (.inr ht) XB
 cbv;refine Av9 hE hk hRL fun c hcap=>?_;cbv;refine Kh hE (fun hc3=>?_) (fun hc3=>?_)
 ·have hgr:c<n+M:=(hgt c _ hc3).1 rfl;cbv;refine T8 hE hk hRL 0 aL rfl rfl (O9 _) h0 (by omega) fun l1 n1 q1 q2=>?_
  have q1':lo=l1:=by omega
  have q2':aL=n1:=by omega
  subst q1' q2';cbv;refine Am4 hE (n+M-aL) hd2 hk hRL (by omega) (hbn2 _ _ (by omega) (by omega) (by omega)) (fun hfit=>absurd hfit (by omega)) (fun hno t m row2 j ht qm hr2=>?_);obtain⟨L2,hL2,hL2'⟩:=hnl row2 _ j _ _ _ (by omega) (by omega) (by omega) (by omega) hr2;cbv;refine T8 hE (D6 _ _ _) hL2 aL m rfl rfl h0 (by omega) (by omega) fun l1' n1' q1 q2=>?_;cbv;refine Mo hE (D6 _ _ _) (y:=.sl vs .ro) (ys':=vs) ⟨.refl _,hvall⟩ hM fun cm row3 _ hr3=>?_;have hL3:=hov row2 row3 vs L2 l1' M n1' hL2 hM (by omega) (by omega) hr3;rw[Z1];cbv;refine T8 hE (D6 _ _ _) hL3 _ m haddi rfl (by omega) (by omega) (by omega) fun l2' n2' q3 q4=>?_;cbv;refine T8 hE (hne _ _ ht) hRL aL n rfl rfl h0 (by omega) hlen fun l3' n3' q5 q6=>?_;cbv;refine Mo hE (D6 _ _ _) (Si hE (hne _ _ ht)) (hsubl l3' n3' (by omega) (by omega) (by omega)) fun cm2 row4 _ hr4=>?_;rw[Z1];cbv;have h3:=Ap7 (d:=n+M-aL) (m:=m) hrow.symm e1 e2 hM h0 h1 rfl qm hr2 (by omega) q2 hr3 (by omega) (by omega) q5 q6 hr4;exact hK t 0 m row4 [] _ _ h3.1 rfl h3.2 (.inr ht) XB
 have hle':n+M≤c:=(hgt c _ hc3).2 rfl;cbv;refine T8 hE hk hRL 0 (n+M) rfl hadd (O9 _) (by omega) (by omega) fun l0 n0 ql qm=>?_;cbv;refine T8 hE hk hRL _ n0 haddi rfl (by omega) (by omega) (by omega) fun l1 n1 q1 q2=>?_;cbv;refine Am5 hE (Qw (P:=prog) (f:=311) (tS:=38) (tR:=4) (e:=45) (sz:=14) (xs:=vs) (t:=.ro) AB2 (by kernel_rfl) (by kernel_rfl) hk hvall) ?_;cbv;refine Kh hE (fun hc4=>?_) (fun hc4=>?_)
 rotate_left
 ·exact absurd (show Ar.nt false=false from hc4) (by rw[Ar.nt_eq];decide)
 cbv;refine T8 hE hk hRL _ n0 haddi rfl (by omega) (by omega) (by omega) fun l1 n1 q1 q2=>?_;cbv;refine T8 hE hk hRL aL n0 rfl rfl h0 (by omega) (by omega) fun l2 n2 q3 q4=>?_;cbv;refine Mo hE hk (Si hE hk) (hsubl l2 n2 (by omega) (by omega) (by omega)) fun cm row1 _ hr1=>?_;have hL1:=hov2 row1 l1 l2 n2 n1 (by omega) (by omega) (by omega) (by omega) (by omega) hr1;cbv;refine T8 hE (D6 _ _ _) hL1 aL n0 rfl rfl h0 (by omega) (by omega) fun l3 n3 q5 q6=>?_;cbv;refine Mo hE (D6 _ _ _) (y:=.sl vs .ro) (ys':=vs) ⟨.refl _,hvall⟩ hM fun cm2 row2 _ hr2=>?_;rw[Z1];cbv;have h3:=Ax2 (m:=n0) hrow.symm e1 e2 hM h0 h1 hRL (by omega) (by omega) (by omega) q1 q2 q3 q4 hr1 q5 q6 hr2;exact hK id l0 n0 row2 pre _ _ h3.1 (by omega) h3.2 (.inl rfl) (by rw[Z1];exact .refl _)
def cf300:Cf:=⟨[4],[],[],[],[],[]⟩
def c300 (N aM bH r)(h:BQ N aM bH=some r):C7 prog 300 [vi aM,sr eAD8 bH] ((E5 r)):=by
 unfold BQ at h
 refine P6 cf300 func300 call300 ntmps300 ?_;intro E H0 K hE hK hO;cbv;refine D8 hE hO fun b1 H hO=>?_;cbv;refine E9 hE ?_;cbv;refine B0 hE h (fun _ h=>?_) fun _ h=>?_
 ·cbv;refine D0 hE eAE6 h fun x2 h=>?_;cbv;refine A7 hE hO 0 rfl rfl fun H hO=>?_;cbv;refine A8 hE hO 0 rfl ?_;cbv;cases h;exact hK hO (.refl _)
 cbv;refine A7 hE hO 0 rfl rfl fun H hO=>?_;cbv;refine A8 hE hO 0 rfl ?_;cbv;cases h;exact hK hO (.agg (.cons (.refl _) (.cons (.refl _) (.cons (.refl _) (.cons (.refl _) (.cons (.refl _) (.cons (.refl _) (.cons (.refl _) (.cons (.lit _ (B4)) (.refl _))))))))))
def cf274:Cf:=⟨[4],[],[(10,4)],[],[(20,5),(20,16)],[]⟩
def c274 (N bD cB r) (h:CK N bD cB=some r):C7 prog 274 [(C1 bD),sr eAD8 cB] ((C1 r)):=by
 unfold CK at h
 refine P6 cf274 func274 call274 ntmps274 ?_;intro E H0 K hE hK hO;cbv;refine D8 hE hO fun b1 H hO=>?_;cbv;refine Fs hE (f:=eAD8) h (c298 N cB) (.refl _) hO fun l2 q3 H hq3 hO h=>?_;cbv;obtain⟨s4,hx,h⟩:=bind_some h;refine O1 cf274 hE J9 (fun e l H1=>∃u1:OG,Z0 u1 (Ar.len s4)∧e= .normal∧l=[(4,.v (.ref b1 0)),(5,.v (.own u1.id u1.lo u1.n))]∧B6 Eq H0 [ob u1 14 eAD8 s4,cb b1 [.bool false,vi 0,.sl [] .nil,vi 0,vi 0,vi 0,vi 0,vi 0,.sl [] .nil,vi 0,vi 0,vi 0,vi 0,vi 0,.str (⟨#[]⟩)]] H1) (by kernel_rfl) ?_ ?_
 ·clear h;have h:=hx;clear hx;cbv;refine B0 hE h (fun _ h=>?_) fun _ h=>?_
  ·cbv;refine Mw hE (f:=eAD8) hO hq3 0 rfl h (c299 N l2 0 ([bD.p])) (.cons (.refl _) (.cons (.lit _ (E3 ((eAE6 bD.p).symm) (B4))) (.refl _))) fun l5 q6 H hq6 hO h=>?_;cbv;cases h;exact⟨_,⟨q6,hq6,rfl,rfl,hO⟩,.e2 .z,rfl⟩
  cbv;cases h;exact⟨_,⟨q3,hq3,rfl,rfl,hO⟩,.e2 .z,rfl⟩
 clear hx;rintro e l H ⟨q7,hq7,rfl,rfl,hO⟩;cbv;refine Fc hE hq7 ?_;cbv;refine B0 hE h (fun _ h=>?_) fun _ h=>?_
 ·cbv;refine A7 hE hO 1 rfl rfl fun H hO=>?_;cbv;refine A8 hE hO 1 rfl ?_;cbv;cases h;exact hK hO (.agg (.cons (.refl _) (.cons (.refl _) (.cons (.lit _ (B4)) (.cons (.refl _) (.cons (.refl _) (.cons (.refl _) (.cons (.refl _) (.cons (.refl _) (.cons (.lit _ (B4)) (.refl _)))))))))))
 cbv;refine Nl hE hO hq7 0 rfl fun H hO=>?_;cbv;refine Gd hE (by trivial) ?_;cbv;refine A9 hE h (c300 N 1 s4) (.refl _) fun r8 h=>?_;cbv;refine A7 hE hO 0 rfl rfl fun H hO=>?_;cbv;refine A8 hE hO 0 rfl ?_;cbv;cases h;exact hK hO (.refl _)
def cf301:Cf:=⟨[],[(5,6)],[],[],[],[]⟩
def c301 (N aB aL bP r) (h:W2 N aB aL bP=some r):NE prog 301 [vi aL,vi bP] 14 (lst eAD8 aB) (lst eAD8 r):=by
 unfold W2 at h
 obtain⟨x,h1,h2⟩:=bind_some h;cases I9 h2;obtain⟨h0,h1,h2,hr⟩:=Ao7 (f:=eAD8) h1;rw[hr];clear hr h
 generalize lst eAD8 aB=xs at *
 rintro H ⟨id,lo,n,pre,rest⟩ ⟨e1,e2⟩ hk
 simp only at e1 e2 hk
 refine Qs (T:=TT) cf301 J9 func301 (by rfl) (by kernel_rfl) call301 ntmps301 (by rfl) (by rfl) ?_;intro E K hE hK
 simp only at hK ⊢
 generalize hrow:pre++xs++rest=row at hk
 obtain⟨RL,hRL⟩:∃RL:Int,RL=(row.length:Nat):=⟨_,rfl⟩
 have hlen:lo+n≤RL:=by rw[hRL,←hrow,e1,e2];simp;omega
 have hn0:0≤lo∧0≤n∧bP≤n:=by omega
 have hdl:∀l2 n2:Int,0≤l2→0≤n2→l2+n2≤RL→n2=((L9 row l2 n2).length:Nat):=fun l2 n2 a b c=>by rw[Bn a b (by rw[←hRL];exact c)];omega
 cbv;refine Sx hE ?_;cbv;refine Yw hE hk hRL aL bP rfl rfl h0 h1 (by omega) hlen rfl ?_;cbv;refine Kh hE (fun hc=>?_) (fun hc=>?_)
 ·cbv
  have hij:aL=bP:=by rw[cmp_eq]at hc;simpa[Fg]using hc
  refine hK id lo n row pre rest H ?_ e1 ?_ (.inl rfl) ?_
  ·rw[←hrow,hij,Bz]
  ·rw[hij,Bz];exact e2
  rw[Z1];intro y b hy
  by_cases ey:y=id
  ·subst ey;rw[D6]at hy;cases hy;exact hk
  rwa[C3 _ _ ey]at hy
 cbv;refine Sx hE ?_;cbv;refine T8 hE hk hRL 0 aL rfl rfl (O9 _) h0 (by omega) fun l1 n1 q1 q2=>?_;cbv;refine T8 hE hk hRL bP n rfl rfl (by omega) (by omega) hlen fun l2 n2 q3 q4=>?_;cbv;have hsl:=hdl l2 n2 (by omega) (by omega) (by omega);refine Ab4 hE hk hRL (Si hE hk) hsl (fun hfit m row1 q5 hr1=>?_) (fun hno=>absurd hno (by omega));cbv;refine Sx hE ?_;cbv
 have hR1:RL=(row1.length:Nat):=by rw[hr1,Ea (Al1 hRL hsl (by omega) (by omega) hfit)];exact hRL
 refine T8 hE (D6 _ _ _) hR1 m n rfl rfl (by omega) (by omega) (by omega) fun l3 n3 q6 q7=>?_;cbv;refine Ab3 hE (D6 _ _ _) fun row2 hr2=>?_;cbv;have hd:=Aq7 hrow.symm e1 e2 h0 h1 h2 (by omega) (by omega) q3 q4 hr1 (q5.trans (Q0 (n1+ ·) hsl)) q6 q7 hr2;rw[Z1];exact hK id l1 m row2 pre _ _ hd.1 (by omega) hd.2 (.inl rfl) (by rw[Z1];exact .refl _)
def cf275:Cf:=⟨[6],[],[],[],[(22,7)],[]⟩
def c275 (N bH bN bD r)(h:EK N bH bN bD=some r):C7 prog 275 [sr eAD8 bH,vi bN,(C1 bD)] ((C1 r)):=by
 unfold EK at h
 refine P6 cf275 func275 call275 ntmps275 ?_;intro E H0 K hE hK hO;cbv;refine D8 hE hO fun b1 H hO=>?_;cbv;refine Fs hE (f:=eAD8) h (c298 N bH) (.refl _) hO fun l2 q3 H hq3 hO h=>?_;cbv;refine B0 hE h (fun _ h=>?_) fun _ h=>?_
 ·cbv;refine Mw hE (f:=eAD8) hO hq3 0 rfl h (c301 N l2 bN (ar .add .i64 bN 1)) (.refl _) fun l4 q5 H hq5 hO h=>?_;cbv;refine Nl hE hO hq5 0 rfl fun H hO=>?_;cbv;refine A9 hE h (c300 N 3 l4) (.refl _) fun r6 h=>?_;cbv;refine A7 hE hO 0 rfl rfl fun H hO=>?_;cbv;refine A8 hE hO 0 rfl ?_;cbv;cases h;exact hK hO (.refl _)
 cbv;refine N9 hE hO hq3 0 rfl h fun h=>?_;cbv;refine Q8 hE (f:=eAD8) (esz:=14) (tz:=14) (off:=0) (u:=(fun x7:B1=>bD.p)) (fun _=>⟨_,.eq (eAE6 _) (.refl _),(by rw[eAE6];rfl),Bm _,rfl⟩) (by decide) hO hq3 0 rfl h fun l8 H hq3 h hO=>?_;cbv;refine Nl hE hO hq3 0 rfl fun H hO=>?_;cbv;refine A9 hE h (c300 N 3 l8) (.refl _) fun r9 h=>?_;cbv;refine A7 hE hO 0 rfl rfl fun H hO=>?_;cbv;refine A8 hE hO 0 rfl ?_;cbv;cases h;exact hK hO (.refl _)
def cf302:Cf:=⟨[22],[],[],[],[],[]⟩
def c302 (N aB aI r) (h:BB N aB aI=some r):Lu prog 302 [.sl [] .nil,vi aI] 8 (lst eAE4 r):=by
 unfold BB at h
 obtain⟨h1,h2,hr⟩:=Io (f:=eAE4) h;rw[hr];clear hr h;intro H0
 have hneg:∀b,cmp .lss aI 0=b→b=false:=fun b h=>by rw[cmp_eq]at h;subst h;simp[Fg];omega
 have hsub:ar .sub .i64 aI (ar .sub .i64 0 0)=aI:=by rw[ar_eq,ar_eq];simp only[arI];rw[show(0:Int)-0=0 from rfl,wrap_small 0 (by omega) (by omega),DL];exact wrap_small _ (by omega) (by omega)
 have hgt:∀b,cmp .gtr (ar .sub .i64 aI (ar .sub .i64 0 0)) 0=b→(b=false→aI=0):=fun b h=>by rw[hsub,cmp_eq]at h;subst h;simp[Fg];omega
 have hbn:aI.toNat*88≤140737488355328:=by have:=HF (a:=aI.toNat) (b:=0) (by_:=88) (by omega) (by decide);simpa using this
 have hl0:(0:Int)=(([]:List V).length:Nat):=rfl;refine BU (T:=TT) cf302 J9 func302 (by rfl) (by kernel_rfl) call302 ntmps302 (by rfl) (by rfl) ?_;intro E K hE hK hN;cbv;refine Kh hE (fun hc=>absurd (hneg _ hc) (by decide)) (fun hc=>?_);cbv;refine Ng hE hl0 ?_;cbv;refine Kh hE (fun hc2=>?_) (fun hc2=>?_)
 ·cbv;refine KR hE ?_;cbv;refine Il hE aI hsub (.inl rfl) h1 hbn fun t m row j ht hm hrow=>?_;obtain⟨RL,hRL,hR0⟩:∃RL:Int,RL=(row.length:Nat)∧0≤RL:=⟨_,rfl,by omega⟩;cbv;refine Ng hE hl0 ?_;cbv;refine T8 hE (D6 _ _ _) hRL 0 0 rfl rfl (O9 _) (O9 _) hR0 fun l' n' q1 q2=>?_;cbv
  have e1:0=l':=by omega
  have e2:0=n':=by omega
  subst e1 e2;exact hK ⟨t,0,0,[],row⟩ [] _ ⟨rfl,rfl⟩ ((B6.start C5 rfl).push ht rfl)
 cbv;exact hN rfl [] H0 (.start C5 rfl)
def c278 (N aJ r) (h:AQ N aJ=some r):C7 prog 278 [sr eAG7 aJ] (sr eAE4 r):=by
 unfold AQ at h
 refine Q9 (T:=TT) cf0 J9 func278 (by rfl) (by kernel_rfl) call278 ntmps278 (by rfl) (by rfl) ?_;intro E H0 K hE hK hF;have hO:B6 Eq H0 [] H0:=.start C5 rfl;cbv;refine E9 hE ?_;cbv;obtain⟨s2,hx,h⟩:=bind_some h;refine K1 cf0 hE J9 (fun s1=>[(0,.v (sr eAG7 aJ)),fi 3 s1.1,(9,.v (sr eAG7 aJ)),fi 10 (Ar.len aJ),fi 11 s1.2]) (fun s1 H1=>B6 Eq H0 [] H1) (fun x e l H1=>e= .exit 0∧l=[(0,.v (sr eAG7 aJ)),fi 3 x]∧B6 Eq H0 [] H1) (by kernel_rfl) ?_ hx ?_ hO ?_
 ·intro s1 H o hO h;clear hx;cbv;refine B0 hE h (fun _ h=>?_) fun _ h=>?_
  ·cbv;refine D0 hE eAH6 h fun x3 h=>?_;cbv;refine E9 hE ?_;cbv;refine B0 hE h (fun _ h=>?_) fun _ h=>?_
   ·cbv;cases h
   cbv;cases h;exact⟨_,rfl,.e rfl (.e4 .z),rfl,hO⟩
  cbv;cases h;exact⟨_,_,rfl,⟨rfl,rfl,hO⟩,.e2 .z,rfl⟩
 ·exact .e rfl (.e4 .z)
 clear hx;rintro e l H ⟨rfl,rfl,hO⟩;cbv;refine Fs hE (f:=eAE4) h (c302 N [] s2) (.cons (.refl _) (.cons (.refl _) .nil)) hO fun l4 q5 H hq5 hO h=>?_;cbv;refine E9 hE ?_;cbv;obtain⟨s8,hx,h⟩:=bind_some h;refine H8 cf0 hE J9 (γ:=OG) (fun s6 g=>[(6,.v (.own g.id g.lo g.n)),(25,.v (sr eAG7 aJ)),fi 26 (Ar.len aJ),fi 27 s6.1]) (fun s6 g H1=>Z0 g (Ar.len s6.2)∧B6 Eq H0 [ob g 8 eAE4 s6.2] H1) (fun x e l H1=>∃u1:OG,Z0 u1 (Ar.len x)∧e= .exit 2∧l=[(6,.v (.own u1.id u1.lo u1.n))]∧B6 Eq H0 [ob u1 8 eAE4 x] H1) (by kernel_rfl) ?_ q5 hx ?_ ?_ ?_
 ·rintro s6 q7 H o ⟨hq7,hO⟩ h;clear hx;cbv;refine B0 hE h (fun _ h=>?_) fun _ h=>?_
  ·cbv;refine D0 hE eAH6 h fun x9 h=>?_;cbv;refine Ey (f:=eAE4) hE TB (by decide) hO hq7 0 rfl (m:=x9) (Cz (f:=eAE4) hE TB (.refl _)) h fun l11 q10 H hq10 hO h=>?_;cbv;cases h;exact⟨_,q10,rfl,.e4 .z,rfl,hq10,hO⟩
  cbv;cases h;exact⟨_,_,rfl,⟨q7,hq7,rfl,rfl,hO⟩,.e rfl .z,rfl⟩
 ·exact .e4 .z
 ·exact⟨hq5,hO⟩
 clear hx;rintro e l H ⟨q12,hq12,rfl,rfl,hO⟩;cbv;cases h;exact hF q12 _ _ 0 _ _ hO rfl (Z5 hE hq12) (.refl _)
def cf313:Cf:=⟨[22],[],[],[],[],[]⟩
def c313 (N aB aI r) (h:CB N aB aI=some r):Lu prog 313 [.sl [] .nil,vi aI] 1 (lst (V.int .i64) r):=by
 unfold CB at h
 obtain⟨h1,h2,hr⟩:=Io (f:=(V.int .i64)) h;rw[hr];clear hr h;intro H0
 have hneg:∀b,cmp .lss aI 0=b→b=false:=fun b h=>by rw[cmp_eq]at h;subst h;simp[Fg];omega
 have hsub:ar .sub .i64 aI (ar .sub .i64 0 0)=aI:=by rw[ar_eq,ar_eq];simp only[arI];rw[show(0:Int)-0=0 from rfl,wrap_small 0 (by omega) (by omega),DL];exact wrap_small _ (by omega) (by omega)
 have hgt:∀b,cmp .gtr (ar .sub .i64 aI (ar .sub .i64 0 0)) 0=b→(b=false→aI=0):=fun b h=>by rw[hsub,cmp_eq]at h;subst h;simp[Fg];omega
 have hbn:aI.toNat*8≤140737488355328:=by have:=HF (a:=aI.toNat) (b:=0) (by_:=8) (by omega) (by decide);simpa using this
 have hl0:(0:Int)=(([]:List V).length:Nat):=rfl;refine BU (T:=TT) cf313 J9 func313 (by rfl) (by kernel_rfl) call313 ntmps313 (by rfl) (by rfl) ?_;intro E K hE hK hN;cbv;refine Kh hE (fun hc=>absurd (hneg _ hc) (by decide)) (fun hc=>?_);cbv;refine Ng hE hl0 ?_;cbv;refine Kh hE (fun hc2=>?_) (fun hc2=>?_)
 ·cbv;refine KR hE ?_;cbv;refine Il hE aI hsub (.inl rfl) h1 hbn fun t m row j ht hm hrow=>?_;obtain⟨RL,hRL,hR0⟩:∃RL:Int,RL=(row.length:Nat)∧0≤RL:=⟨_,rfl,by omega⟩;cbv;refine Ng hE hl0 ?_;cbv;refine T8 hE (D6 _ _ _) hRL 0 0 rfl rfl (O9 _) (O9 _) hR0 fun l' n' q1 q2=>?_;cbv
  have e1:0=l':=by omega
  have e2:0=n':=by omega
  subst e1 e2;exact hK ⟨t,0,0,[],row⟩ [] _ ⟨rfl,rfl⟩ ((B6.start C5 rfl).push ht rfl)
 cbv;exact hN rfl [] H0 (.start C5 rfl)
def c303 (N aJ r) (h:T7 N aJ=some r):C7 prog 303 [sr eLI aJ] (sr (V.int .i64) r):=by
 unfold T7 at h
 refine Q9 (T:=TT) cf0 J9 func303 (by rfl) (by kernel_rfl) call303 ntmps303 (by rfl) (by rfl) ?_;intro E H0 K hE hK hF;have hO:B6 Eq H0 [] H0:=.start C5 rfl;cbv;refine E9 hE ?_;cbv;obtain⟨s2,hx,h⟩:=bind_some h;refine K1 cf0 hE J9 (fun s1=>[(0,.v (sr eLI aJ)),fi 3 s1.1,(9,.v (sr eLI aJ)),fi 10 (Ar.len aJ),fi 11 s1.2]) (fun s1 H1=>B6 Eq H0 [] H1) (fun x e l H1=>e= .exit 0∧l=[(0,.v (sr eLI aJ)),fi 3 x]∧B6 Eq H0 [] H1) (by kernel_rfl) ?_ hx ?_ hO ?_
 ·intro s1 H o hO h;clear hx;cbv;refine B0 hE h (fun _ h=>?_) fun _ h=>?_
  ·cbv;refine D0 hE eAG2 h fun x3 h=>?_;cbv;refine E9 hE ?_;cbv;refine B0 hE h (fun _ h=>?_) fun _ h=>?_
   ·cbv;cases h
   cbv;cases h;exact⟨_,rfl,.e rfl (.e4 .z),rfl,hO⟩
  cbv;cases h;exact⟨_,_,rfl,⟨rfl,rfl,hO⟩,.e2 .z,rfl⟩
 ·exact .e rfl (.e4 .z)
 clear hx;rintro e l H ⟨rfl,rfl,hO⟩;cbv;refine Fs hE (f:=(V.int .i64)) h (c313 N [] s2) (.cons (.refl _) (.cons (.refl _) .nil)) hO fun l4 q5 H hq5 hO h=>?_;cbv;refine E9 hE ?_;cbv;obtain⟨s8,hx,h⟩:=bind_some h;refine H8 cf0 hE J9 (γ:=OG) (fun s6 g=>[(6,.v (.own g.id g.lo g.n)),(25,.v (sr eLI aJ)),fi 26 (Ar.len aJ),fi 27 s6.1]) (fun s6 g H1=>Z0 g (Ar.len s6.2)∧B6 Eq H0 [ob g 1 (V.int .i64) s6.2] H1) (fun x e l H1=>∃u1:OG,Z0 u1 (Ar.len x)∧e= .exit 2∧l=[(6,.v (.own u1.id u1.lo u1.n))]∧B6 Eq H0 [ob u1 1 (V.int .i64) x] H1) (by kernel_rfl) ?_ q5 hx ?_ ?_ ?_
 ·rintro s6 q7 H o ⟨hq7,hO⟩ h;clear hx;cbv;refine B0 hE h (fun _ h=>?_) fun _ h=>?_
  ·cbv;refine D0 hE eAG2 h fun x9 h=>?_;cbv;refine Ey (f:=(V.int .i64)) hE (fun _=>rfl) (by decide) hO hq7 0 rfl (m:=x9) (Cz (f:=(V.int .i64)) hE (fun _=>rfl) (.refl _)) h fun l11 q10 H hq10 hO h=>?_;cbv;cases h;exact⟨_,q10,rfl,.e4 .z,rfl,hq10,hO⟩
  cbv;cases h;exact⟨_,_,rfl,⟨q7,hq7,rfl,rfl,hO⟩,.e rfl .z,rfl⟩
 ·exact .e4 .z
 ·exact⟨hq5,hO⟩
 clear hx;rintro e l H ⟨q12,hq12,rfl,rfl,hO⟩;cbv;cases h;exact hF q12 _ _ 0 _ _ hO rfl (Z5 hE hq12) (.refl _)
def cf314:Cf:=⟨[22],[],[],[],[],[]⟩
def c314 (N aB aI r) (h:AP N aB aI=some r):Lu prog 314 [.sl [] .nil,vi aI] 2 (lst eAE9 r):=by
 unfold AP at h
 obtain⟨h1,h2,hr⟩:=Io (f:=eAE9) h;rw[hr];clear hr h;intro H0
 have hneg:∀b,cmp .lss aI 0=b→b=false:=fun b h=>by rw[cmp_eq]at h;subst h;simp[Fg];omega
 have hsub:ar .sub .i64 aI (ar .sub .i64 0 0)=aI:=by rw[ar_eq,ar_eq];simp only[arI];rw[show(0:Int)-0=0 from rfl,wrap_small 0 (by omega) (by omega),DL];exact wrap_small _ (by omega) (by omega)
 have hgt:∀b,cmp .gtr (ar .sub .i64 aI (ar .sub .i64 0 0)) 0=b→(b=false→aI=0):=fun b h=>by rw[hsub,cmp_eq]at h;subst h;simp[Fg];omega
 have hbn:aI.toNat*16≤140737488355328:=by have:=HF (a:=aI.toNat) (b:=0) (by_:=16) (by omega) (by decide);simpa using this
 have hl0:(0:Int)=(([]:List V).length:Nat):=rfl;refine BU (T:=TT) cf314 J9 func314 (by rfl) (by kernel_rfl) call314 ntmps314 (by rfl) (by rfl) ?_;intro E K hE hK hN;cbv;refine Kh hE (fun hc=>absurd (hneg _ hc) (by decide)) (fun hc=>?_);cbv;refine Ng hE hl0 ?_;cbv;refine Kh hE (fun hc2=>?_) (fun hc2=>?_)
 ·cbv;refine KR hE ?_;cbv;refine Il hE aI hsub (.inl rfl) h1 hbn fun t m row j ht hm hrow=>?_;obtain⟨RL,hRL,hR0⟩:∃RL:Int,RL=(row.length:Nat)∧0≤RL:=⟨_,rfl,by omega⟩;cbv;refine Ng hE hl0 ?_;cbv;refine T8 hE (D6 _ _ _) hRL 0 0 rfl rfl (O9 _) (O9 _) hR0 fun l' n' q1 q2=>?_;cbv
  have e1:0=l':=by omega
  have e2:0=n':=by omega
  subst e1 e2;exact hK ⟨t,0,0,[],row⟩ [] _ ⟨rfl,rfl⟩ ((B6.start C5 rfl).push ht rfl)
 cbv;exact hN rfl [] H0 (.start C5 rfl)
def c304 (N aJ r) (h:Am N aJ=some r):C7 prog 304 [sr eAG9 aJ] (sr eAE9 r):=by
 unfold Am at h
 refine Q9 (T:=TT) cf0 J9 func304 (by rfl) (by kernel_rfl) call304 ntmps304 (by rfl) (by rfl) ?_;intro E H0 K hE hK hF;have hO:B6 Eq H0 [] H0:=.start C5 rfl;cbv;refine E9 hE ?_;cbv;obtain⟨s2,hx,h⟩:=bind_some h;refine K1 cf0 hE J9 (fun s1=>[(0,.v (sr eAG9 aJ)),fi 3 s1.1,(9,.v (sr eAG9 aJ)),fi 10 (Ar.len aJ),fi 11 s1.2]) (fun s1 H1=>B6 Eq H0 [] H1) (fun x e l H1=>e= .exit 0∧l=[(0,.v (sr eAG9 aJ)),fi 3 x]∧B6 Eq H0 [] H1) (by kernel_rfl) ?_ hx ?_ hO ?_
 ·intro s1 H o hO h;clear hx;cbv;refine B0 hE h (fun _ h=>?_) fun _ h=>?_
  ·cbv;refine D0 hE eAH7 h fun x3 h=>?_;cbv;refine E9 hE ?_;cbv;refine B0 hE h (fun _ h=>?_) fun _ h=>?_
   ·cbv;cases h
   cbv;cases h;exact⟨_,rfl,.e rfl (.e4 .z),rfl,hO⟩
  cbv;cases h;exact⟨_,_,rfl,⟨rfl,rfl,hO⟩,.e2 .z,rfl⟩
 ·exact .e rfl (.e4 .z)
 clear hx;rintro e l H ⟨rfl,rfl,hO⟩;cbv;refine Fs hE (f:=eAE9) h (c314 N [] s2) (.cons (.refl _) (.cons (.refl _) .nil)) hO fun l4 q5 H hq5 hO h=>?_;cbv;refine E9 hE ?_;cbv;obtain⟨s8,hx,h⟩:=bind_some h;refine H8 cf0 hE J9 (γ:=OG) (fun s6 g=>[(6,.v (.own g.id g.lo g.n)),(25,.v (sr eAG9 aJ)),fi 26 (Ar.len aJ),fi 27 s6.1]) (fun s6 g H1=>Z0 g (Ar.len s6.2)∧B6 Eq H0 [ob g 2 eAE9 s6.2] H1) (fun x e l H1=>∃u1:OG,Z0 u1 (Ar.len x)∧e= .exit 2∧l=[(6,.v (.own u1.id u1.lo u1.n))]∧B6 Eq H0 [ob u1 2 eAE9 x] H1) (by kernel_rfl) ?_ q5 hx ?_ ?_ ?_
 ·rintro s6 q7 H o ⟨hq7,hO⟩ h;clear hx;cbv;refine B0 hE h (fun _ h=>?_) fun _ h=>?_
  ·cbv;refine D0 hE eAH7 h fun x9 h=>?_;cbv;refine Ey (f:=eAE9) hE Rf (by decide) hO hq7 0 rfl (m:=x9) (Cz (f:=eAE9) hE Rf (.refl _)) h fun l11 q10 H hq10 hO h=>?_;cbv;cases h;exact⟨_,q10,rfl,.e4 .z,rfl,hq10,hO⟩
  cbv;cases h;exact⟨_,_,rfl,⟨q7,hq7,rfl,rfl,hO⟩,.e rfl .z,rfl⟩
 ·exact .e4 .z
 ·exact⟨hq5,hO⟩
 clear hx;rintro e l H ⟨q12,hq12,rfl,rfl,hO⟩;cbv;cases h;exact hF q12 _ _ 0 _ _ hO rfl (Z5 hE hq12) (.refl _)
end Go.Ab
