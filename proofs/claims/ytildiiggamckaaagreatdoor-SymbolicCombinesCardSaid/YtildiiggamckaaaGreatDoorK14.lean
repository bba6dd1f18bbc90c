/- . -/
import Derived.Test.YtildiiggamckaaaGreatDoorK13
set_option linter.all false
open Go.Ab.Ar (lst nt_eq)
namespace Go.Ab
open Go.RowKit Go.Proofs Go.Proofs.Tryz K8
variable [Ar][K8]
set_option maxRecDepth 100000
def cf279:Cf:=⟨[5,8],[],[(9,3),(25,5)],[],[],[]⟩
def c279 (N aA aH bV cF r) (h:Cd N aA aH bV cF=some r):C7 prog 279 [(E5 aA),(K3 aH),.bool bV,.bool cF] ((K3 r)):=by
 unfold Cd at h
 refine P6 cf279 func279 call279 ntmps279 ?_;intro E H0 K hE hK hO;cbv;refine D8 hE hO fun b1 H hO=>?_;cbv;refine D8 hE hO fun b2 H hO=>?_;cbv;obtain⟨s3,hx,h⟩:=bind_some h;refine O1 cf279 hE J9 (fun e l H1=>e= .normal∧l=[(2,.v (.bool bV)),(4,.v (.eref (G7 aA) 0)),(5,.v (.ref b1 0)),(8,.v (.ref b2 0))]∧B6 Eq H0 [cb b2 [vi 0,vi 0,vi 0,vi 0,vi 0,.sl [] .nil,vi 0,vi 0,vi 0,vi 0,vi 0,.str (⟨#[]⟩),.sl [] .nil,.sl [] .nil,.sl [] .nil,.sl [] .nil,.sl [] .nil],cb b1 (BY s3)] H1) (by kernel_rfl) ?_ ?_
 ·clear h;have h:=hx;clear hx;cbv;refine B0 hE h (fun _ h=>?_) fun _ h=>?_
  ·cbv;refine A8 hE hO 1 rfl ?_;cbv;refine A9 hE h (c303 N ([[aA.dC],aH.dH])) (.cons (.sl _ (.lstc (.eq (eAG2 ([aA.dC])) (.lit _ (E3 (rfl) (B4)))) (.lstc (.eq (eAG2 aH.dH) (.refl _)) (.lst0)))) (.refl _)) fun r4 h=>?_;cbv;refine A7 hE hO 1 rfl rfl fun H hO=>?_;cbv;cases h;exact⟨_,⟨rfl,rfl,hO⟩,.e4 .z,rfl⟩
  cbv;cases h;exact⟨_,⟨rfl,rfl,hO⟩,.e4 .z,rfl⟩
 clear hx;rintro e l H ⟨rfl,rfl,hO⟩;cbv;obtain⟨s5,hx,h⟩:=bind_some h;refine O1 cf279 hE J9 (fun e l H1=>e= .normal∧l=[(2,.v (.bool bV)),(4,.v (.eref (G7 aA) 0)),(5,.v (.ref b1 0)),(8,.v (.ref b2 0))]∧B6 Eq H0 [cb b2 [vi 0,vi 0,vi 0,vi 0,vi 0,.sl [] .nil,vi 0,vi 0,vi 0,vi 0,vi 0,.str (⟨#[]⟩),.sl [] .nil,.sl [] .nil,.sl [] .nil,.sl [] .nil,.sl [] .nil],cb b1 (BY s5)] H1) (by kernel_rfl) ?_ ?_
 ·clear h;have h:=hx;clear hx;cbv;refine B0 hE h (fun _ h=>?_) fun _ h=>?_
  ·cbv;refine A8 hE hO 1 rfl ?_;cbv;refine A9 hE h (c303 N ([[aA.dC],s3.dJ])) (.cons (.sl _ (.lstc (.eq (eAG2 ([aA.dC])) (.lit _ (E3 (rfl) (B4)))) (.lstc (.eq (eAG2 s3.dJ) (.refl _)) (.lst0)))) (.refl _)) fun r6 h=>?_;cbv;refine A7 hE hO 1 rfl rfl fun H hO=>?_;cbv;cases h;exact⟨_,⟨rfl,rfl,hO⟩,.e4 .z,rfl⟩
  cbv;refine A8 hE hO 1 rfl ?_;cbv;refine A9 hE h (c304 N ([[(⟨aA.dC,aA.Span⟩:BJ)],s3.dI])) (.cons (.sl _ (.lstc (.eq (eAH7 ([(⟨aA.dC,aA.Span⟩:BJ)])) (.lit _ (E3 ((eAH4 (⟨aA.dC,aA.Span⟩:BJ)).symm) (B4)))) (.lstc (.eq (eAH7 s3.dI) (.refl _)) (.lst0)))) (.refl _)) fun r7 h=>?_;cbv;refine A7 hE hO 1 rfl rfl fun H hO=>?_;cbv;cases h;exact⟨_,⟨rfl,rfl,hO⟩,.e4 .z,rfl⟩
 clear hx;rintro e l H ⟨rfl,rfl,hO⟩;cbv;refine B0 hE h (fun _ h=>?_) fun _ h=>?_
 ·cbv;refine A8 hE hO 1 rfl ?_;cbv;refine A9 hE h (c303 N ([s5.dG,[aA.dC]])) (.cons (.sl _ (.lstc (.eq (eAG2 s5.dG) (.refl _)) (.lstc (.eq (eAG2 ([aA.dC])) (.lit _ (E3 (rfl) (B4)))) (.lst0)))) (.refl _)) fun r8 h=>?_;cbv;refine A7 hE hO 1 rfl rfl fun H hO=>?_;cbv;refine A8 hE hO 1 rfl ?_;cbv;refine A7 hE hO 0 rfl rfl fun H hO=>?_;cbv;refine A8 hE hO 0 rfl ?_;cbv;cases h;exact hK hO (.refl _)
 cbv;refine A8 hE hO 1 rfl ?_;cbv;refine A7 hE hO 0 rfl rfl fun H hO=>?_;cbv;refine A8 hE hO 0 rfl ?_;cbv;cases h;exact hK hO (.refl _)
def cf280:Cf:=⟨[3,6],[(1,5)],[],[],[],[(1,3,[10])]⟩
def c280 (N aA aM cC r)(h:EJ N aA aM cC=some r):C7 prog 280 [(E5 aA),vi aM,(E5 cC)] ((E5 r)):=by
 unfold EJ at h
 refine P6 cf280 func280 call280 ntmps280 ?_;intro E H0 K hE hK hO;cbv;refine D8 hE hO fun b1 H hO=>?_;cbv;refine D8 hE hO fun b2 H hO=>?_;cbv;refine SF hE hO 1 rfl fun H1 hT hW=>?_;cbv;refine Gd hE trivial ?_;cbv;refine SI hE hO 1 rfl hT fun H hO=>?_;cbv;refine A7 hE hO 1 rfl rfl fun H hO=>?_;cbv;refine A8 hE hO 1 rfl ?_;cbv;refine A7 hE hO 0 rfl rfl fun H hO=>?_;cbv;refine A8 hE hO 0 rfl ?_;cbv;cases h;exact hK hO (.agg (.cons (.refl _) (.cons (.lit _ (E3 ((eAE6 cC).symm) (B4))) (.refl _))))
def cf210:Cf:=⟨[],[(9,5),(11,8)],[(8,6)],[],[],[]⟩
def Ai9 (N n:Nat):Prop:=∀(aA:B1) (r:(List (E4×A6))),S6 N n aA=some r→EP prog 210 [(E5 aA)] (fun v=>Gu prog v (r.map fun(x:(E4×A6))=>[(K3 x.1),(C1 x.2)]))
def Az3 (N n:Nat):Prop:=∀(aA:B1) (r:(List (E4×A6))),AX N n aA=some r→EP prog 245 [(E5 aA)] (fun v=>Gu prog v (r.map fun(x:(E4×A6))=>[(K3 x.1),(C1 x.2)]))
def Az2 (N n:Nat):Prop:=∀(bQ:B1) (bR:B1) (r:(List (E4×A6))),Y8 N n bQ bR=some r→EP prog 246 [(E5 bQ),(E5 bR)] (fun v=>Gu prog v (r.map fun(x:(E4×A6))=>[(K3 x.1),(C1 x.2)]))
def Az1 (N n:Nat):Prop:=∀(aA:B1) (r:(List (E4×A6))),CY N n aA=some r→EP prog 247 [(E5 aA)] (fun v=>Gu prog v (r.map fun(x:(E4×A6))=>[(K3 x.1),(C1 x.2)]))
def cf273:Cf:=⟨[3,4,6,1000002],[(10,4)],[],[4],[],[]⟩
def Az0 (N n:Nat):Prop:=∀(aG:B1) (r:(List (E4×A6))),Av N n aG=some r→It prog 273 (fun yv=>[yv,.eref (G7 aG) 0]) (List.map (fun(x:(E4×A6))=>[(K3 x.1),(C1 x.2)]) r) rbN
def cf276:Cf:=⟨[1000003],[(5,11)],[],[],[],[]⟩
def Ay9 (N n:Nat):Prop:=∀(aG:B1) (aN:B1) (r:(List (E4×A6))),Au N n aG aN=some r→It prog 276 (fun yv=>[yv,.eref (G7 aG) 0,.eref (G7 aN) 0]) (List.map (fun(x:(E4×A6))=>[(K3 x.1),(C1 x.2)]) r) rbN
def cf277:Cf:=⟨[3,4,1000002],[],[(37,13),(50,17)],[2],[],[]⟩
def Ay8 (N n:Nat):Prop:=∀(aG:B1) (r:(List (E4×A6))),BG N n aG=some r→It prog 277 (fun yv=>[yv,.eref (G7 aG) 0]) (List.map (fun(x:(E4×A6))=>[(K3 x.1),(C1 x.2)]) r) rbN
def k210 (N n:Nat) (ih245:Az3 N n) (ih246:Az2 N n) (ih247:Az1 N n):Ai9 N (n+1):=by
 intro aA r h
 unfold S6 at h
 refine X0 cf210 J9 func210 (by rfl) (by kernel_rfl) call210 ntmps210 (by rfl) (by rfl) ?_;intro E H0 K hE hK;have hO:B6 Eq H0 [] H0:=.start C5 rfl;cbv;refine B0 hE h (fun _ h=>?_) fun _ h=>?_
 ·cbv;exact hK _ _ _ hO (W8 call244 (c244 N aA r h))
 cbv;obtain⟨s1,hx,h⟩:=bind_some h;refine O1 cf210 hE J9 (fun e l H1=>e= .normal∧l=[(1,.v (.eref (G7 aA) 0)),fi 4 aA.Op,(8,.v (.bool s1))]∧B6 Eq H0 [] H1) (by kernel_rfl) ?_ ?_
 ·clear h;have h:=hx;clear hx;cbv;refine B0 hE h (fun _ h=>?_) fun _ h=>?_
  ·cbv;cases h;exact⟨_,⟨rfl,rfl,hO⟩,.e rfl (.e2 .z),rfl⟩
  cbv;refine B0 hE h (fun _ h=>?_) fun _ h=>?_
  ·cbv;cases h;exact⟨_,⟨rfl,rfl,hO⟩,.e rfl (.e2 .z),rfl⟩
  cbv;cases h;exact⟨_,⟨rfl,rfl,hO⟩,.e rfl (.e2 .z),rfl⟩
 clear hx;rintro e l H ⟨rfl,rfl,hO⟩;cbv;refine B0 hE h (fun _ h=>?_) fun _ h=>?_
 ·cbv;refine T9 hE h (ih245 aA) (.refl _) fun r2 v3 hv3 h=>?_;cbv;cases h;exact hK _ _ _ hO hv3
 cbv;refine B0 hE h (fun _ h=>?_) fun _ h=>?_
 ·cbv;refine D0 hE eAE6 h fun x4 h=>?_;cbv;refine T9 hE h (ih246 x4 aA) (.refl _) fun r5 v6 hv6 h=>?_;cbv;cases h;exact hK _ _ _ hO hv6
 cbv;refine B0 hE h (fun _ h=>?_) fun _ h=>?_
 ·cbv;refine D0 hE eAE6 h fun x7 h=>?_;cbv;refine Ad2 hE (f:=eAD8) Bm h fun l8 h=>?_;cbv;refine T9 hE h (ih246 x7 (⟨4,l8,0,0,0,0,(⟨0,[],0,0,0,(⟨0,0,⟨#[]⟩⟩:X8)⟩:M4)⟩:B1)) (.cons (.refl _) (.cons (.agg (.cons (.refl _) (.cons (.ro _ _) (.cons (.refl _) (.cons (.refl _) (.cons (.refl _) (.cons (.refl _) (.cons (.refl _) (.cons (.lit _ (B4)) (.refl _)))))))))) (.refl _))) fun r9 v10 hv10 h=>?_;cbv;cases h;exact hK _ _ _ hO hv10
 cbv;refine T9 hE h (ih247 aA) (.refl _) fun r11 v12 hv12 h=>?_;cbv;cases h;exact hK _ _ _ hO hv12
def k245 (N n:Nat)(ih273:Az0 N n):Az3 N (n+1):=by
 intro aA r h
 unfold AX at h
 refine X0 cf0 J9 func245 (by rfl) (by kernel_rfl) call245 ntmps245 (by rfl) (by rfl) ?_;intro E H0 K hE hK;have hO:B6 Eq H0 [] H0:=.start C5 rfl;cbv;exact hK _ _ _ hO (W8 call273 (ih273 aA r h))
def k246 (N n:Nat)(ih276:Ay9 N n):Az2 N (n+1):=by
 intro bQ bR r h
 unfold Y8 at h
 refine X0 cf0 J9 func246 (by rfl) (by kernel_rfl) call246 ntmps246 (by rfl) (by rfl) ?_;intro E H0 K hE hK;have hO:B6 Eq H0 [] H0:=.start C5 rfl;cbv;exact hK _ _ _ hO (W8 call276 (ih276 bQ bR r h))
def k247 (N n:Nat)(ih277:Ay8 N n):Az1 N (n+1):=by
 intro aA r h
 unfold CY at h
 refine X0 cf0 J9 func247 (by rfl) (by kernel_rfl) call247 ntmps247 (by rfl) (by rfl) ?_;intro E H0 K hE hK;have hO:B6 Eq H0 [] H0:=.start C5 rfl;cbv;exact hK _ _ _ hO (W8 call277 (ih277 aA r h))
def k273 (N n:Nat) (ih210:Ai9 N n):Az0 N (n+1):=by
 intro aG r h
 unfold Av at h
 obtain⟨⟨w0,u0⟩,h1,hr⟩:=bind_some h;clear h;have hr:=I9 hr;subst hr;have h:=h1;clear h1;refine T3 cf273 J9 func273 (by rfl) (by kernel_rfl) call273 ntmps273 (by rfl) (fun _=>rfl) ?_;intro yv I D hI hD hy tl F E H K hE hO hK hKD
 have hO:B6 (I (List.map (fun(x:(E4×A6))=>[(K3 x.1),(C1 x.2)]) (w0++[])++tl)) F [] H:=by rw[G9];exact hO
 cbv;refine Gd hE hy.1 ?_;cbv;refine E9 hE ?_;cbv;obtain⟨w3,w4,s7,hx,h1,he⟩:=R7 h;clear h;have h:=h1;clear h1
 rw[he,F6]at hO
 clear he;refine Ad6 cf273 hE J9 (γ:=Unit) (fun s2 g=>[(1,.v (.eref (G7 aG) 0)),(2,.v (.eref [yv] 0)),(8,.v (sr eAD8 aG.dA)),fi 9 (Ar.len aG.dA),fi 10 s2]) (fun s2 g ds1 w H1=>B6 (I (List.map (fun(x:(E4×A6))=>[(K3 x.1),(C1 x.2)]) w++tl)) F (Bo ds1) H1) (fun x e l ds1 w H1=>match(generalizing:=false) x with| .inl y=>e= .exit 0∧l=[]∧B6 (I (List.map (fun(x:(E4×A6))=>[(K3 x.1),(C1 x.2)]) w++tl)) F (Bo ds1) H1| .inr y=>e= .ret∧l=[]∧B6 (I (List.map (fun(x:(E4×A6))=>[(K3 x.1),(C1 x.2)]) w++tl)) F (Bo ds1) H1) (fun e l ds1 H1=>(e= .ret∧l=[]∧B6 D F (Bo ds1) H1)) (by kernel_rfl) ?_ (w':=w4++[]) () hx rfl ?_ ?_ ?_ ?_
 ·rintro s2 _ ds1 w5 w6 H o hO h;clear hx
  skip
  cbv;refine B0 hE h (fun _ h=>?_) fun _ h=>?_
  ·cbv;refine D0 hE eAE6 h fun x8 h=>?_;cbv;refine D8 hE hO fun b9 H hO=>?_;cbv;refine D8 hE hO fun b10 H hO=>?_;cbv;refine A7 hE hO 1 rfl rfl fun H hO=>?_;cbv;refine A7 hE hO 0 rfl rfl fun H hO=>?_;cbv;refine A8 hE hO 1 rfl ?_;cbv;refine B0 hE h (fun _ h=>?_) fun _ h=>?_
   ·cbv;obtain⟨hw,rfl⟩:=F9 h
    rw[←hw]at hO
    exact .inl ⟨_,_,_,rfl,⟨rfl,rfl,hO.tail.tail⟩,.z,rfl⟩
   cbv;refine A8 hE hO 0 rfl ?_;cbv;refine T9 hE h (ih210 x8) (.refl _) fun r11 v12 hv12 h=>?_;cbv;obtain⟨w16,w17,o20,hx,h1,he⟩:=R7 h;clear h;have h:=h1;clear h1
   rw[he,F6]at hO
   clear he;refine PM cf273 hE J9 (ι:=Nat) (σ:=Unit) (R:=Unit) (enc:=fun(x:(E4×A6))=>[(K3 x.1),(C1 x.2)]) (fun _ w F1 H=>B6 (I (List.map (fun(x:(E4×A6))=>[(K3 x.1),(C1 x.2)]) w++tl)) F1 (cb b10 (G7 x8)::cb b9 [vi s2]::Bo ds1) H) (fun _ e w F1 H=>False) (fun e F1 H=>e= .ret∧B6 D F1 (cb b10 (G7 x8)::cb b9 [vi s2]::Bo ds1) H) (fun i _ y13=>[(1,.v (.eref (G7 aG) 0)),(2,.v (.eref [yv] 0)),(3,.v (.ref b9 0)),(5,.v (.eref (BY y13.1) 0)),(6,.v (.ref i 0))]) (fun i _ y13 w F1 H=>B6 (I (List.map (fun(x:(E4×A6))=>[(K3 x.1),(C1 x.2)]) w++tl)) F1 (cb i (M3 y13.2)::cb b10 (G7 x8)::cb b9 [vi s2]::Bo ds1) H) (fun _ _=>B6.stable (hI _) _) (fun _ _ _=>⟨fun h=>h.elim,fun _ _ h=>h.elim⟩) (fun _=>D9.con (B6.stable hD _)) (fun _ _ _ _=>B6.stable (hI _) _) hv12 hx (w':=w17++w6) hO (by decide) (fun _=>rfl) (by kernel_rfl) (by kernel_rfl) ?_ ?_ ?_ ?_ ?_
   ·rintro E i15 y13 _ w F14 H hE hO;clear hx h;cbv;refine D8 hE hO fun b21 H hO=>?_;cbv;refine A7 hE hO 0 rfl rfl fun H hO=>?_;cbv;exact⟨b21,hO,.e rfl (.e4 .z),rfl⟩
   ·rintro E i15 b21 y13 _ w18 w19 F14 H o hE hF h hO;clear hx;cbv;obtain⟨w23,w24,s22,hx,h1,he⟩:=R7 h;clear h;have h:=h1;clear h1
    rw[he,F6]at hO
    clear he;refine O1 cf273 hE J9 (fun e l H1=>(e= .normal∧l=[(2,.v (.eref [yv] 0)),(5,.v (.eref (BY y13.1) 0)),(6,.v (.ref b21 0))]∧B6 (I (List.map (fun(x:(E4×A6))=>[(K3 x.1),(C1 x.2)]) (w24++w19)++tl)) F14 (cb b21 (M3 s22)::cb b10 (G7 x8)::cb b9 [vi s2]::Bo ds1) H1)∨(False)) (by kernel_rfl) ?_ ?_
    ·clear h;have h:=hx;clear hx;cbv;refine B0 hE h (fun _ h=>?_) fun _ h=>?_
     ·cbv;refine A8 hE hO 0 rfl ?_;cbv;refine SG hE (f:=eAD8) Bm h fun l25 t26 h=>?_;cbv;refine A9 hE h (c274 N y13.2 l25) (.cons (.refl _) (.cons (.ro _ _) (.refl _))) fun r27 h=>?_;cbv;refine A7 hE hO 0 rfl rfl fun H hO=>?_;cbv;obtain⟨hw,rfl⟩:=F9 h
      rw[←hw]at hO
      exact⟨_,.inl ⟨rfl,rfl,hO⟩,.e rfl (.e2 .z),rfl⟩
     cbv;refine B0 hE h (fun _ h=>?_) fun _ h=>?_
     ·cbv;refine A8 hE hO 2 rfl ?_;cbv;refine A8 hE hO 0 rfl ?_;cbv;refine A9 hE h (c275 N aG.dA s2 y13.2) (.refl _) fun r28 h=>?_;cbv;refine A7 hE hO 0 rfl rfl fun H hO=>?_;cbv;obtain⟨hw,rfl⟩:=F9 h
      rw[←hw]at hO
      exact⟨_,.inl ⟨rfl,rfl,hO⟩,.e rfl (.e2 .z),rfl⟩
     cbv;obtain⟨hw,rfl⟩:=F9 h
     rw[←hw]at hO
     exact⟨_,.inl ⟨rfl,rfl,hO⟩,.e rfl (.e2 .z),rfl⟩
    clear hx;rintro e l H hX
    rcases hX with hX|hX
    ·obtain⟨rfl,rfl,hO⟩:=hX;cbv;refine A8 hE hO 0 rfl ?_;cbv;obtain⟨w29,h1,he⟩:=Y0 h;clear h;have h:=h1;clear h1
     rw[he,F6]at hO
     clear he;have hO:B6 (I ([(K3 y13.1),(C1 s22)]::(List.map (fun(x:(E4×A6))=>[(K3 x.1),(C1 x.2)]) (w29++w19)++tl))) F14 (cb b21 (M3 s22)::cb b10 (G7 x8)::cb b9 [vi s2]::Bo ds1) _:=hO;refine Dt hE hI hD hy hO (.refl _) (fun H hO=>?_) (fun H hO=>?_)
     ·cbv;refine Ko hE (nt_eq _) ?_;cbv;obtain⟨hw,rfl⟩:=F9 h
      rw[←hw]at hO
      exact⟨_,rfl,hO.tail⟩
     clear h;cbv;refine Kn hE (nt_eq _) ?_;cbv
     first|exact .inr ⟨rfl,rfl,hO.tail⟩|exact .inr (hO.tail)
    exact hX.elim
   ·rintro d30 _ H rfl hd hO;have hO:B6 (I (List.map (fun(x:(E4×A6))=>[(K3 x.1),(C1 x.2)]) (w17++w6)++tl)) F (cb b10 (G7 x8)::cb b9 [vi s2]::Bo (d30::ds1)) H:=B6.dbs1 (A:=[_,_]) (ds:=ds1) (B6.dblk hd hO);clear hd hx;cbv;obtain⟨hw,rfl⟩:=F9 h
    rw[←hw]at hO
    exact⟨_,(),_,rfl,.e rfl (.e4 .z),rfl,hO.tail.tail⟩
   ·rintro _ _ _ _ _ _ h;exact h.elim
   rintro d30 e H hd ⟨rfl,hO⟩;have hO:B6 D F (cb b10 (G7 x8)::cb b9 [vi s2]::Bo (d30::ds1)) H:=B6.dbs1 (A:=[_,_]) (ds:=ds1) (B6.dblk hd hO);clear hd hx h;cbv;exact .inr ⟨_,_,⟨rfl,rfl,hO.tail.tail⟩,.z,rfl⟩
  cbv;obtain⟨hw,rfl⟩:=F9 h
  rw[←hw]at hO
  exact .inl ⟨_,_,_,rfl,⟨rfl,rfl,hO⟩,.z,rfl⟩
 ·exact .e rfl (.e4 .z)
 ·exact hO
 ·rintro e l ds1 H hX;clear hx
  rcases s7 with y31|y32
  ·obtain⟨rfl,rfl,hO⟩:=hX;cbv
   rcases ds1 with _|⟨d0,ds1⟩
   ·cbv;have hO:B6 _ _ [] H:=hO;obtain⟨hw,_⟩:=F9 h
    rw[←hw]at hO
    exact hK _ _ _ hO trivial
   cbv;refine IH (A:=[]) (ds:=d0::ds1) hE hO fun H hO=>?_;cbv;obtain⟨hw,_⟩:=F9 h
   rw[←hw]at hO
   exact hK _ _ _ hO trivial
  obtain⟨rfl,rfl,hO⟩:=hX;cbv
  rcases ds1 with _|⟨d0,ds1⟩
  ·cbv;have hO:B6 _ _ [] H:=hO;obtain⟨hw,_⟩:=F9 h
   rw[←hw]at hO
   exact hK _ _ _ hO trivial
  cbv;refine IH (A:=[]) (ds:=d0::ds1) hE hO fun H hO=>?_;cbv;obtain⟨hw,_⟩:=F9 h
  rw[←hw]at hO
  exact hK _ _ _ hO trivial
 rintro e l ds1 H hX;obtain⟨rfl,rfl,hO⟩:=hX;clear h;cbv
 rcases ds1 with _|⟨d0,ds1⟩
 ·cbv;have hO:B6 _ _ [] H:=hO;exact hKD _ _ _ hO trivial
 cbv;refine IH (A:=[]) (ds:=d0::ds1) hE hO fun H hO=>?_;cbv;exact hKD _ _ _ hO trivial
def k276 (N n:Nat) (ih210:Ai9 N n):Ay9 N (n+1):=by
 intro aG aN r h
 unfold Au at h
 obtain⟨⟨w0,u0⟩,h1,hr⟩:=bind_some h;clear h;have hr:=I9 hr;subst hr;have h:=h1;clear h1;refine T3 cf276 J9 func276 (by rfl) (by kernel_rfl) call276 ntmps276 (by rfl) (fun _=>rfl) ?_;intro yv I D hI hD hy tl F E H K hE hO hK hKD
 have hO:B6 (I (List.map (fun(x:(E4×A6))=>[(K3 x.1),(C1 x.2)]) (w0++[])++tl)) F [] H:=by rw[G9];exact hO
 cbv;refine Gd hE hy.1 ?_;cbv;refine T9 hE h (ih210 aG) (.refl _) fun r1 v2 hv2 h=>?_;cbv;obtain⟨w6,w7,o10,hx,h1,he⟩:=R7 h;clear h;have h:=h1;clear h1
 rw[he,F6]at hO
 clear he;refine PM cf276 hE J9 (ι:=Unit) (σ:=Unit) (R:=Unit) (enc:=fun(x:(E4×A6))=>[(K3 x.1),(C1 x.2)]) (fun _ w F1 H=>B6 (I (List.map (fun(x:(E4×A6))=>[(K3 x.1),(C1 x.2)]) w++tl)) F1 [] H) (fun _ e w F1 H=>False) (fun e F1 H=>e= .ret∧B6 D F1 [] H) (fun i _ y3=>[(2,.v (.eref (G7 aN) 0)),(3,.v (.eref [yv] 0)),(4,.v (.eref (BY y3.1) 0)),(5,.v (.eref (M3 y3.2) 0))]) (fun i _ y3 w F1 H=>B6 (I (List.map (fun(x:(E4×A6))=>[(K3 x.1),(C1 x.2)]) w++tl)) F1 [] H) (fun _ _=>B6.stable (hI _) _) (fun _ _ _=>⟨fun h=>h.elim,fun _ _ h=>h.elim⟩) (fun _=>D9.con (B6.stable hD _)) (fun _ _ _ _=>B6.stable (hI _) _) hv2 hx (w':=w7++[]) hO (by decide) (fun _=>rfl) (by kernel_rfl) (by kernel_rfl) ?_ ?_ ?_ ?_ ?_
 ·rintro E i5 y3 _ w F4 H hE hO;clear hx h;cbv;exact⟨(),hO,.e4 .z,rfl⟩
 ·rintro E i5 _ y3 _ w8 w9 F4 H o hE hF h hO;clear hx;cbv;refine B0 hE h (fun _ h=>?_) fun _ h=>?_
  ·cbv;refine D0 hE eAE6 h fun x11 h=>?_;cbv;obtain⟨w12,h1,he⟩:=Y0 h;clear h;have h:=h1;clear h1
   rw[he,F6]at hO
   clear he;have hO:B6 (I ([(K3 y3.1),.agg [.bool false,vi 8,sr eAD8 ([y3.2.p,x11]),vi 0,vi 0,vi 0,vi 0,vi 0,sr eAE4 ([]),vi 0,vi 0,vi 0,vi 0,vi 0,.str (⟨#[]⟩)]]::(List.map (fun(x:(E4×A6))=>[(K3 x.1),(C1 x.2)]) (w12++w9)++tl))) F4 [] _:=hO;refine Dt hE hI hD hy hO (.cons (.refl _) (.cons (.agg (.cons (.refl _) (.cons (.refl _) (.cons (.lit _ (E3 ((eAE6 y3.2.p).symm) (E3 ((eAE6 x11).symm) (B4)))) (.cons (.refl _) (.cons (.refl _) (.cons (.refl _) (.cons (.refl _) (.cons (.refl _) (.cons (.lit _ (B4)) (.refl _))))))))))) (.refl _))) (fun H hO=>?_) (fun H hO=>?_)
   ·cbv;refine Ko hE (nt_eq _) ?_;cbv;obtain⟨hw,rfl⟩:=F9 h
    rw[←hw]at hO
    exact⟨_,rfl,hO⟩
   clear h;cbv;refine Kn hE (nt_eq _) ?_;cbv
   first|exact .inr ⟨rfl,rfl,hO⟩|exact .inr (hO)
  cbv;obtain⟨w13,h1,he⟩:=Y0 h;clear h;have h:=h1;clear h1
  rw[he,F6]at hO
  clear he;have hO:B6 (I ([(K3 y3.1),(C1 y3.2)]::(List.map (fun(x:(E4×A6))=>[(K3 x.1),(C1 x.2)]) (w13++w9)++tl))) F4 [] _:=hO;refine Dt hE hI hD hy hO (.refl _) (fun H hO=>?_) (fun H hO=>?_)
  ·cbv;refine Ko hE (nt_eq _) ?_;cbv;obtain⟨w14,h1,he⟩:=Y0 h;clear h;have h:=h1;clear h1
   rw[he,F6]at hO
   clear he;have hO:B6 (I ([(K3 y3.1),.agg [.bool false,vi aN.Op,sr eAD8 aN.dA,vi aN.Typ,vi aN.Var,vi aN.dC,vi aN.Span,vi aN.cY.Op,sr eAE4 aN.cY.dA,vi aN.cY.Var,vi aN.cY.Field,vi aN.cY.Kind,vi aN.cY.Value.Kind,vi aN.cY.Value.Num,.str aN.cY.Value.Text]]::(List.map (fun(x:(E4×A6))=>[(K3 x.1),(C1 x.2)]) (w14++w9)++tl))) F4 [] _:=hO;refine Dt hE hI hD hy hO (.refl _) (fun H hO=>?_) (fun H hO=>?_)
   ·cbv;refine Ko hE (nt_eq _) ?_;cbv;obtain⟨hw,rfl⟩:=F9 h
    rw[←hw]at hO
    exact⟨_,rfl,hO⟩
   clear h;cbv;refine Kn hE (nt_eq _) ?_;cbv
   first|exact .inr ⟨rfl,rfl,hO⟩|exact .inr (hO)
  clear h;cbv;refine Kn hE (nt_eq _) ?_;cbv
  first|exact .inr ⟨rfl,rfl,hO⟩|exact .inr (hO)
 ·rintro d15 _ H rfl hd hO;have hO:B6 (I (List.map (fun(x:(E4×A6))=>[(K3 x.1),(C1 x.2)]) (w7++[])++tl)) F [.blk d15 DB] H:=B6.dblk hd hO;clear hd hx;cbv;refine Ez hE hO 0 rfl fun H hO=>?_;cbv;obtain⟨hw,_⟩:=F9 h
  rw[←hw]at hO
  exact hK _ _ _ hO trivial
 ·rintro _ _ _ _ _ _ h;exact h.elim
 rintro d15 e H hd ⟨rfl,hO⟩;have hO:B6 D F [.blk d15 DB] H:=B6.dblk hd hO;clear hd hx h;cbv;refine Ez hE hO 0 rfl fun H hO=>?_;cbv;exact hKD _ _ _ hO trivial
def k277 (N n:Nat) (ih210:Ai9 N n):Ay8 N (n+1):=by
 intro aG r h
 unfold BG at h
 obtain⟨⟨w0,u0⟩,h1,hr⟩:=bind_some h;clear h;have hr:=I9 hr;subst hr;have h:=h1;clear h1;refine T3 cf277 J9 func277 (by rfl) (by kernel_rfl) call277 ntmps277 (by rfl) (fun _=>rfl) ?_;intro yv I D hI hD hy tl F E H K hE hO hK hKD
 have hO:B6 (I (List.map (fun(x:(E4×A6))=>[(K3 x.1),(C1 x.2)]) (w0++[])++tl)) F [] H:=by rw[G9];exact hO
 cbv;refine Gd hE hy.1 ?_;cbv;refine D0 hE eAE6 h fun x1 h=>?_;cbv;refine T9 hE h (ih210 x1) (.refl _) fun r2 v3 hv3 h=>?_;cbv;obtain⟨w7,w8,o11,hx,h1,he⟩:=R7 h;clear h;have h:=h1;clear h1
 rw[he,F6]at hO
 clear he;refine PM cf277 hE J9 (ι:=Nat×Nat) (σ:=Unit) (R:=Unit) (enc:=fun(x:(E4×A6))=>[(K3 x.1),(C1 x.2)]) (fun _ w F1 H=>B6 (I (List.map (fun(x:(E4×A6))=>[(K3 x.1),(C1 x.2)]) w++tl)) F1 [] H) (fun _ e w F1 H=>False) (fun e F1 H=>e= .ret∧B6 D F1 [] H) (fun i _ y4=>[(1,.v (.eref (G7 aG) 0)),(2,.v (.eref [yv] 0)),(3,.v (.ref i.2 0)),(4,.v (.ref i.1 0))]) (fun i _ y4 w F1 H=>B6 (I (List.map (fun(x:(E4×A6))=>[(K3 x.1),(C1 x.2)]) w++tl)) F1 [.blk i.1 (.cells (M3 y4.2)),.blk i.2 (.cells (BY y4.1))] H) (fun _ _=>B6.stable (hI _) _) (fun _ _ _=>⟨fun h=>h.elim,fun _ _ h=>h.elim⟩) (fun _=>D9.con (B6.stable hD _)) (fun _ _ _ _=>B6.stable (hI _) _) hv3 hx (w':=w8++[]) hO (by decide) (fun _=>rfl) (by kernel_rfl) (by kernel_rfl) ?_ ?_ ?_ ?_ ?_
 ·rintro E i6 y4 _ w F5 H hE hO;clear hx h;cbv;refine D8 hE hO fun b12 H hO=>?_;cbv;refine A7 hE hO 0 rfl rfl fun H hO=>?_;cbv;refine D8 hE hO fun b13 H hO=>?_;cbv;refine A7 hE hO 0 rfl rfl fun H hO=>?_;cbv;exact⟨⟨b13,b12⟩,hO,.e4 .z,rfl⟩
 ·rintro E i6 ⟨b13,b12⟩ y4 _ w9 w10 F5 H o hE hF h hO;clear hx;cbv;obtain⟨w15,w16,s14,hx,h1,he⟩:=R7 h;clear h;have h:=h1;clear h1
  rw[he,F6]at hO
  clear he;refine O1 cf277 hE J9 (fun e l H1=>(e= .normal∧l=[(1,.v (.eref (G7 aG) 0)),(2,.v (.eref [yv] 0)),(3,.v (.ref b12 0)),(4,.v (.ref b13 0)),fi 5 s14.1]∧B6 (I (List.map (fun(x:(E4×A6))=>[(K3 x.1),(C1 x.2)]) (w16++w10)++tl)) F5 [cb b13 (M3 y4.2),cb b12 (BY s14.2)] H1)∨(False)) (by kernel_rfl) ?_ ?_
  ·clear h;have h:=hx;clear hx;cbv;refine B0 hE h (fun _ h=>?_) fun _ h=>?_
   ·cbv;refine A8 hE hO 0 rfl ?_;cbv;refine B0 hE h (fun _ h=>?_) fun _ h=>?_
    ·cbv;refine A8 hE hO 1 rfl ?_;cbv;refine A9 hE h (c278 N ([y4.1.dF,[aG.cY]])) (.cons (.sl _ (.lstc (.eq (eAH6 y4.1.dF) (.refl _)) (.lstc (.eq (eAH6 ([aG.cY])) (.lit _ (E3 ((eAF1 aG.cY).symm) (B4)))) (.lst0)))) (.refl _)) fun r17 h=>?_;cbv;refine A7 hE hO 1 rfl rfl fun H hO=>?_;cbv;obtain⟨hw,rfl⟩:=F9 h
     rw[←hw]at hO
     exact⟨_,.inl ⟨rfl,rfl,hO⟩,.e rfl (.e4 .z),rfl⟩
    cbv;obtain⟨hw,rfl⟩:=F9 h
    rw[←hw]at hO
    exact⟨_,.inl ⟨rfl,rfl,hO⟩,.e rfl (.e4 .z),rfl⟩
   cbv;obtain⟨w19,w20,s18,hx,h1,he⟩:=R7 h;clear h;have h:=h1;clear h1
   rw[he,F6]at hO
   clear he;refine O1 cf277 hE J9 (fun e l H1=>(e= .normal∧l=[(1,.v (.eref (G7 aG) 0)),(2,.v (.eref [yv] 0)),(3,.v (.ref b12 0)),(4,.v (.ref b13 0)),(37,.v (.bool s18))]∧B6 (I (List.map (fun(x:(E4×A6))=>[(K3 x.1),(C1 x.2)]) (w20++(w16++w10))++tl)) F5 [cb b13 (M3 y4.2),cb b12 (BY y4.1)] H1)∨(False)) (by kernel_rfl) ?_ ?_
   ·clear h;have h:=hx;clear hx;cbv;refine B0 hE h (fun _ h=>?_) fun _ h=>?_
    ·cbv;obtain⟨hw,rfl⟩:=F9 h
     rw[←hw]at hO
     exact⟨_,.inl ⟨rfl,rfl,hO⟩,.e rfl (.e4 .z),rfl⟩
    cbv;obtain⟨hw,rfl⟩:=F9 h
    rw[←hw]at hO
    exact⟨_,.inl ⟨rfl,rfl,hO⟩,.e rfl (.e4 .z),rfl⟩
   clear hx;rintro e l H hX
   rcases hX with hX|hX
   ·obtain⟨rfl,rfl,hO⟩:=hX;cbv;refine B0 hE h (fun _ h=>?_) fun _ h=>?_
    ·cbv;refine A8 hE hO 1 rfl ?_;cbv;refine A8 hE hO 0 rfl ?_;cbv;refine A9 hE h (c279 N aG y4.1 y4.2.done (Ar.cmp .eql aG.Op 5)) (.refl _) fun r21 h=>?_;cbv;refine A7 hE hO 1 rfl rfl fun H hO=>?_;cbv;obtain⟨hw,rfl⟩:=F9 h
     rw[←hw]at hO
     exact⟨_,.inl ⟨rfl,rfl,hO⟩,.e rfl (.e4 .z),rfl⟩
    cbv;refine A8 hE hO 1 rfl ?_;cbv;refine A8 hE hO 0 rfl ?_;cbv;refine A9 hE h (c279 N aG y4.1 y4.2.done (Ar.cmp .eql aG.Op 6)) (.refl _) fun r22 h=>?_;cbv;refine A7 hE hO 1 rfl rfl fun H hO=>?_;cbv;obtain⟨hw,rfl⟩:=F9 h
    rw[←hw]at hO
    exact⟨_,.inl ⟨rfl,rfl,hO⟩,.e rfl (.e4 .z),rfl⟩
   exact hX.elim
  clear hx;rintro e l H hX
  rcases hX with hX|hX
  ·obtain⟨rfl,rfl,hO⟩:=hX;cbv;refine A8 hE hO 0 rfl ?_;cbv;obtain⟨w24,w25,s23,hx,h1,he⟩:=R7 h;clear h;have h:=h1;clear h1
   rw[he,F6]at hO
   clear he;refine O1 cf277 hE J9 (fun e l H1=>(e= .normal∧l=[(2,.v (.eref [yv] 0)),(3,.v (.ref b12 0)),(4,.v (.ref b13 0))]∧B6 (I (List.map (fun(x:(E4×A6))=>[(K3 x.1),(C1 x.2)]) (w25++w10)++tl)) F5 [cb b13 (M3 s23),cb b12 (BY s14.2)] H1)∨(False)) (by kernel_rfl) ?_ ?_
   ·clear h;have h:=hx;clear hx;cbv;refine B0 hE h (fun _ h=>?_) fun _ h=>?_
    ·cbv;refine A8 hE hO 0 rfl ?_;cbv;refine A9 hE h (c280 N aG s14.1 y4.2.p) (.refl _) fun r26 h=>?_;cbv;refine A7 hE hO 0 rfl rfl fun H hO=>?_;cbv;obtain⟨hw,rfl⟩:=F9 h
     rw[←hw]at hO
     exact⟨_,.inl ⟨rfl,rfl,hO⟩,.e rfl (.e2 .z),rfl⟩
    cbv;obtain⟨hw,rfl⟩:=F9 h
    rw[←hw]at hO
    exact⟨_,.inl ⟨rfl,rfl,hO⟩,.e rfl (.e2 .z),rfl⟩
   clear hx;rintro e l H hX
   rcases hX with hX|hX
   ·obtain⟨rfl,rfl,hO⟩:=hX;cbv;refine A8 hE hO 1 rfl ?_;cbv;refine A8 hE hO 0 rfl ?_;cbv;obtain⟨w27,h1,he⟩:=Y0 h;clear h;have h:=h1;clear h1
    rw[he,F6]at hO
    clear he;have hO:B6 (I ([(K3 s14.2),(C1 s23)]::(List.map (fun(x:(E4×A6))=>[(K3 x.1),(C1 x.2)]) (w27++w10)++tl))) F5 [cb b13 (M3 s23),cb b12 (BY s14.2)] _:=hO;refine Dt hE hI hD hy hO (.refl _) (fun H hO=>?_) (fun H hO=>?_)
    ·cbv;refine Ko hE (nt_eq _) ?_;cbv;obtain⟨hw,rfl⟩:=F9 h
     rw[←hw]at hO
     exact⟨_,rfl,hO.tail.tail⟩
    clear h;cbv;refine Kn hE (nt_eq _) ?_;cbv
    first|exact .inr ⟨rfl,rfl,hO.tail.tail⟩|exact .inr (hO.tail.tail)
   exact hX.elim
  exact hX.elim
 ·rintro d28 _ H rfl hd hO;have hO:B6 (I (List.map (fun(x:(E4×A6))=>[(K3 x.1),(C1 x.2)]) (w8++[])++tl)) F [.blk d28 DB] H:=B6.dblk hd hO;clear hd hx;cbv;refine Ez hE hO 0 rfl fun H hO=>?_;cbv;obtain⟨hw,_⟩:=F9 h
  rw[←hw]at hO
  exact hK _ _ _ hO trivial
 ·rintro _ _ _ _ _ _ h;exact h.elim
 rintro d28 e H hd ⟨rfl,hO⟩;have hO:B6 D F [.blk d28 DB] H:=B6.dblk hd hO;clear hd hx h;cbv;refine Ez hE hO 0 rfl fun H hO=>?_;cbv;exact hKD _ _ _ hO trivial
def Ge (N:Nat):∀n,Ai9 N n∧Az3 N n∧Az2 N n∧Az1 N n∧Az0 N n∧Ay9 N n∧Ay8 N n:=by
 intro n
 induction n with
 |zero=>exact⟨(by intro aA r h;unfold S6 at h;cases h),(by intro aA r h;unfold AX at h;cases h),(by intro bQ bR r h;unfold Y8 at h;cases h),(by intro aA r h;unfold CY at h;cases h),(by intro aG r h;unfold Av at h;cases h),(by intro aG aN r h;unfold Au at h;cases h),(by intro aG r h;unfold BG at h;cases h)⟩
 |succ n ih=>
  obtain⟨ih210,ih245,ih246,ih247,ih273,ih276,ih277⟩:=ih;exact⟨k210 N n ih245 ih246 ih247,k245 N n ih273,k246 N n ih276,k247 N n ih277,k273 N n ih210,k276 N n ih210,k277 N n ih210⟩
def c210 (N n aA r)(h:S6 N n aA=some r):EP prog 210 [(E5 aA)] (fun v=>Gu prog v (r.map fun(x:(E4×A6))=>[(K3 x.1),(C1 x.2)])):=(Ge N n).1 aA r h
def c248 (N:Nat) (aB:List E4) (aX:V) (aQ:E4→Option Bool) (bE:∀y1 q,aQ y1=some q→X9 prog aX [(K3 y1)] (.bool q)) (r:Int) (h:Z2 N aB aQ=some r):C7 prog 248 [sr eAE0 aB,aX] (vi r):=by
 unfold Z2 at h
 refine P6 cf0 func248 call248 ntmps248 ?_;intro E H0 K hE hK hO;cbv;refine E9 hE ?_;cbv;obtain⟨s2,hx,h⟩:=bind_some h;refine K1 cf0 hE J9 (fun s1=>[(0,.v (sr eAE0 aB)),(1,.v (aX)),fi 7 (Ar.len aB),fi 8 s1]) (fun s1 H1=>B6 Eq H0 [] H1) (fun x e l H1=>match(generalizing:=false) x with| .inl y=>e= .exit 0∧l=[]∧B6 Eq H0 [] H1| .inr y=>e= .ret∧l=[fi 4 y]∧B6 Eq H0 [] H1) (by kernel_rfl) ?_ hx ?_ hO ?_
 ·intro s1 H o hO h;clear hx;cbv;refine B0 hE h (fun _ h=>?_) fun _ h=>?_
  ·cbv;refine D0 hE eAF8 h fun x3 h=>?_;cbv;refine Du hE (g:=fun r4=>.bool r4) h (fun r4 hx=>bE x3 r4 hx) (.refl _) fun r4 h=>?_;cbv;refine B0 hE h (fun _ h=>?_) fun _ h=>?_
   ·cbv;cases h;exact⟨_,_,rfl,⟨rfl,rfl,hO⟩,.e rfl .z,rfl⟩
   cbv;cases h;exact⟨_,rfl,.e4 .z,rfl,hO⟩
  cbv;cases h;exact⟨_,_,rfl,⟨rfl,rfl,hO⟩,.z,rfl⟩
 ·exact .e4 .z
 clear hx
 rcases s2 with y5|y6
 ·rintro e l H ⟨rfl,rfl,hO⟩;cbv;cases h;exact hK hO (.refl _)
 rintro e l H ⟨rfl,rfl,hO⟩;cbv;cases h;exact hK hO (.refl _)
def c211 (N:Nat)(aB:List E4)(aX:V)(aQ:E4→Option Bool)(bE:∀y1 q,aQ y1=some q→X9 prog aX [(K3 y1)] (.bool q))(r:Bool)(h:W3 N aB aQ=some r):C7 prog 211 [sr eAE0 aB,aX] (.bool r):=by
 unfold W3 at h
 refine P6 cf0 func211 call211 ntmps211 ?_;intro E H0 K hE hK hO;cbv;refine A9 hE h (c248 N aB aX aQ bE) (.refl _) fun r1 h=>?_;cbv;cases h;exact hK hO (.refl _)
def cf250:Cf:=⟨[],[(6,8)],[],[],[],[]⟩
def c250 (N aT aV r) (h:U6 N aT aV=some r):C7 prog 250 [sr (V.int .i64) aT,sr (V.int .i64) aV] (.bool r):=by
 unfold U6 at h
 refine P6 cf250 func250 call250 ntmps250 ?_;intro E H0 K hE hK hO;cbv;refine E9 hE ?_;cbv;refine E9 hE ?_;cbv;refine B0 hE h (fun _ h=>?_) fun _ h=>?_
 ·cbv;cases h;exact hK hO (.refl _)
 cbv;refine E9 hE ?_;cbv;obtain⟨s2,hx,h⟩:=bind_some h;refine K1 cf250 hE J9 (fun s1=>[(0,.v (sr (V.int .i64) aT)),(1,.v (sr (V.int .i64) aV)),fi 12 (Ar.len aT),fi 13 s1]) (fun s1 H1=>B6 Eq H0 [] H1) (fun x e l H1=>match(generalizing:=false) x with| .inl y=>e= .exit 0∧l=[]∧B6 Eq H0 [] H1| .inr y=>e= .ret∧l=[(4,.b false)]∧B6 Eq H0 [] H1) (by kernel_rfl) ?_ hx ?_ hO ?_
 ·intro s1 H o hO h;clear hx;cbv;refine B0 hE h (fun _ h=>?_) fun _ h=>?_
  ·cbv;refine D0 hE (fun _=>rfl) h fun x3 h=>?_;cbv;refine D0 hE (fun _=>rfl) h fun x4 h=>?_;cbv;refine B0 hE h (fun _ h=>?_) fun _ h=>?_
   ·cbv;cases h;exact⟨_,_,rfl,⟨rfl,rfl,hO⟩,.b rfl (.z),rfl⟩
   cbv;cases h;exact⟨_,rfl,.e4 .z,rfl,hO⟩
  cbv;cases h;exact⟨_,_,rfl,⟨rfl,rfl,hO⟩,.z,rfl⟩
 ·exact .e4 .z
 clear hx
 rcases s2 with y5|y6
 ·rintro e l H ⟨rfl,rfl,hO⟩;cbv;cases h;exact hK hO (.refl _)
 rintro e l H ⟨rfl,rfl,hO⟩;cbv;cases h;exact hK hO (.refl _)
def cf251:Cf:=⟨[8],[],[],[],[],[]⟩
def c251 (N:Nat) (aT:List M4) (aV:List M4) (bU:V) (bM:M4→M4→Option Bool) (cL:∀y1 y2 q,bM y1 y2=some q→X9 prog bU [(Db y1),(Db y2)] (.bool q)) (r:Bool) (h:P4 N aT aV bM=some r):C7 prog 251 [sr eAE4 aT,sr eAE4 aV,bU] (.bool r):=by
 unfold P4 at h
 refine P6 cf251 func251 call251 ntmps251 ?_;intro E H0 K hE hK hO;cbv;refine E9 hE ?_;cbv;refine E9 hE ?_;cbv;refine B0 hE h (fun _ h=>?_) fun _ h=>?_
 ·cbv;cases h;exact hK hO (.refl _)
 cbv;refine E9 hE ?_;cbv;obtain⟨s2,hx,h⟩:=bind_some h;refine K1 cf251 hE J9 (fun s1=>[(1,.v (sr eAE4 aV)),(2,.v (bU)),(15,.v (sr eAE4 aT)),fi 16 (Ar.len aT),fi 17 s1]) (fun s1 H1=>B6 Eq H0 [] H1) (fun x e l H1=>match(generalizing:=false) x with| .inl y=>e= .exit 0∧l=[]∧B6 Eq H0 [] H1| .inr y=>e= .ret∧l=[(6,.b false)]∧B6 Eq H0 [] H1) (by kernel_rfl) ?_ hx ?_ hO ?_
 ·intro s1 H o hO h;clear hx;cbv;refine B0 hE h (fun _ h=>?_) fun _ h=>?_
  ·cbv;refine D0 hE eAF1 h fun x3 h=>?_;cbv;refine D8 hE hO fun b4 H hO=>?_;cbv;refine A7 hE hO 0 rfl rfl fun H hO=>?_;cbv;refine D0 hE eAF1 h fun x5 h=>?_;cbv;refine A8 hE hO 0 rfl ?_;cbv;refine Du hE (g:=fun r6=>.bool r6) h (fun r6 hx=>cL x3 x5 r6 hx) (.refl _) fun r6 h=>?_;cbv;refine B0 hE h (fun _ h=>?_) fun _ h=>?_
   ·cbv;cases h;exact⟨_,_,rfl,⟨rfl,rfl,hO.tail⟩,.b rfl (.z),rfl⟩
   cbv;cases h;exact⟨_,rfl,.e rfl (.e4 .z),rfl,hO.tail⟩
  cbv;cases h;exact⟨_,_,rfl,⟨rfl,rfl,hO⟩,.z,rfl⟩
 ·exact .e rfl (.e4 .z)
 clear hx
 rcases s2 with y7|y8
 ·rintro e l H ⟨rfl,rfl,hO⟩;cbv;cases h;exact hK hO (.refl _)
 rintro e l H ⟨rfl,rfl,hO⟩;cbv;cases h;exact hK hO (.refl _)
def cf252:Cf:=⟨[],[(6,8)],[],[],[],[]⟩
def c252 (N aT aV r) (h:Aw N aT aV=some r):C7 prog 252 [sr eAE9 aT,sr eAE9 aV] (.bool r):=by
 unfold Aw at h
 refine P6 cf252 func252 call252 ntmps252 ?_;intro E H0 K hE hK hO;cbv;refine E9 hE ?_;cbv;refine E9 hE ?_;cbv;refine B0 hE h (fun _ h=>?_) fun _ h=>?_
 ·cbv;cases h;exact hK hO (.refl _)
 cbv;refine E9 hE ?_;cbv;obtain⟨s2,hx,h⟩:=bind_some h;refine K1 cf252 hE J9 (fun s1=>[(0,.v (sr eAE9 aT)),(1,.v (sr eAE9 aV)),fi 12 (Ar.len aT),fi 13 s1]) (fun s1 H1=>B6 Eq H0 [] H1) (fun x e l H1=>match(generalizing:=false) x with| .inl y=>e= .exit 0∧l=[]∧B6 Eq H0 [] H1| .inr y=>e= .ret∧l=[(4,.b false)]∧B6 Eq H0 [] H1) (by kernel_rfl) ?_ hx ?_ hO ?_
 ·intro s1 H o hO h;clear hx;cbv;refine B0 hE h (fun _ h=>?_) fun _ h=>?_
  ·cbv;refine D0 hE eAH4 h fun x3 h=>?_;cbv;refine D0 hE eAH4 h fun x4 h=>?_;cbv;refine B0 hE h (fun _ h=>?_) fun _ h=>?_
   ·cbv;cases h;exact⟨_,_,rfl,⟨rfl,rfl,hO⟩,.b rfl (.z),rfl⟩
   cbv;cases h;exact⟨_,rfl,.e4 .z,rfl,hO⟩
  cbv;cases h;exact⟨_,_,rfl,⟨rfl,rfl,hO⟩,.z,rfl⟩
 ·exact .e4 .z
 clear hx
 rcases s2 with y5|y6
 ·rintro e l H ⟨rfl,rfl,hO⟩;cbv;cases h;exact hK hO (.refl _)
 rintro e l H ⟨rfl,rfl,hO⟩;cbv;cases h;exact hK hO (.refl _)
def c213 (N aC aD r) (h:De N aC aD=some r):C7 prog 213 [(K3 aC),(K3 aD)] (.bool r):=by
 unfold De at h
 refine P6 cf0 func213 call213 ntmps213 ?_;intro E H0 K hE hK hO;cbv;refine B0 hE h (fun _ h=>?_) fun _ h=>?_
 ·cbv;refine A9 hE h (c249 N N aC.cY aD.cY) (.refl _) fun r1 h=>?_;cbv;refine B0 hE h (fun _ h=>?_) fun _ h=>?_
  ·cbv;refine A9 hE h (c250 N aC.dH aD.dH) (.refl _) fun r2 h=>?_;cbv;refine B0 hE h (fun _ h=>?_) fun _ h=>?_
   ·cbv;refine A9 hE h (c250 N aC.dG aD.dG) (.refl _) fun r3 h=>?_;cbv;refine B0 hE h (fun _ h=>?_) fun _ h=>?_
    ·cbv;refine A9 hE (g:=fun r4=>.bool r4) h (fun r4 hx=>c251 N aC.dF aD.dF (.func (.func 249) [] []) (fun y1 y2=>Ee N N y1 y2) (fun y1 y2 r hx=>C7.value (F:=[]) (C:=[]) (c249 N N y1 y2 r hx)) r4 hx) (.refl _) fun r4 h=>?_;cbv;refine B0 hE h (fun _ h=>?_) fun _ h=>?_
     ·cbv;refine A9 hE h (c252 N aC.dI aD.dI) (.refl _) fun r5 h=>?_;cbv;refine B0 hE h (fun _ h=>?_) fun _ h=>?_
      ·cbv;refine A9 hE h (c250 N aC.dJ aD.dJ) (.refl _) fun r6 h=>?_;cbv;cases h;exact hK hO (.refl _)
      cbv;cases h;exact hK hO (.refl _)
     cbv;cases h;exact hK hO (.refl _)
    cbv;cases h;exact hK hO (.refl _)
   cbv;cases h;exact hK hO (.refl _)
  cbv;cases h;exact hK hO (.refl _)
 cbv;cases h;exact hK hO (.refl _)
def c212 (N aO aG r)(h:AG N aO aG=some r):C7 prog 212 [(K3 aO),.eref (BY aG) 0] (.bool r):=by
 unfold AG at h
 refine P6 cf0 func212 call212 ntmps212 ?_;intro E H0 K hE hK hO;cbv;refine B0 hE h (fun _ h=>?_) fun _ h=>?_
 ·cbv;refine A9 hE h (c213 N aG aO) (.refl _) fun r1 h=>?_;cbv;cases h;exact hK hO (.refl _)
 cbv;cases h;exact hK hO (.refl _)
def cfo170:Cf:=⟨[2,3,4,5,6,7,5000002,5000005],[(13,5),(3000018,0),(3000018,1)],[(16,9)],[1000013,2000018],[(40,7)],[]⟩
set_option maxHeartbeats 2000000 in
def o170 (N aA r) (h:AF N aA=some r):Aj5 prog 170 [(E5 aA)] 17 (lst eAE0 r.1) (fun o=>.tup [o,sr eAD8 r.2.1,vi r.2.2]):=by
 unfold AF at h
 intro H0;refine Qv (T:=TT) (F:=H0) (mk:=fun o=>.tup [o,sr eAD8 r.2.1,vi r.2.2]) (Ib.tup [.bad,sr eAD8 r.2.1,vi r.2.2] 0 (by simp)) cfo170 J9 func170 (by rfl) (by kernel_rfl) call170 ntmps170 (by rfl) (by rfl) ?_;intro E K hE hK hN;have hO:B6 Eq H0 [] H0:=.start C5 rfl;cbv;refine Ux hE (f0:=eAE0) hO fun q2 b1 H hq2 hO=>?_;cbv;refine D8 hE hO fun b3 H hO=>?_;cbv;refine D8 hE hO fun b4 H hO=>?_;cbv;refine Ux hE (f0:=eAE0) hO fun q6 b5 H hq6 hO=>?_;cbv;refine D8 hE hO fun b7 H hO=>?_;cbv;refine T9 hE h (c210 N N aA) (.refl _) fun r8 v9 hv9 h=>?_;cbv;replace hO:=hO.tl0 (t:=.nil) rfl;obtain⟨o16,hx,h⟩:=bind_some h;replace hO:=hO.cast (L':=[.tl .nil,cb b7 [.sl (lst eAD8 ([])) .nil],cb b5 [.own q6.id q6.lo q6.n],ob q6 17 eAE0 ([]),cb b4 [vi 0],cb b3 [.sl [] .nil],cb b1 [.own q2.id q2.lo q2.n],ob q2 17 eAE0 ([])]) (by simp only[ob,cb,sr,←B4]<;>rfl);refine Cc cfo170 hE J9 (ι:=Nat) (enc:=fun(x:(E4×A6))=>[(K3 x.1),(C1 x.2)]) (fun(s11:(List B1)×(List E4)) F H=>∃g:D2×OG,(G3 g.1∧Z0 g.2 (Ar.len s11.2))∧B6 Eq F [.tl g.1,cb b7 [.sl (lst eAD8 s11.1) g.1],cb b5 [.own g.2.id g.2.lo g.2.n],.blk g.2.id (.arr 17 (g.2.pre++lst eAE0 s11.2++g.2.rest)),cb b4 [vi 0],cb b3 [.sl [] .nil],cb b1 [.own q2.id q2.lo q2.n],ob q2 17 eAE0 ([])] H) (fun(r:((List B1)×(List E4)×Int×(List E4))) e F H=>∃g:D2×OG,(e= .ret∧G3 g.1∧Z0 g.2 (Ar.len r.2.1))∧B6 Eq F [.tl g.1,cb b7 [.sl (lst eAD8 r.1) g.1],cb b5 [.own g.2.id g.2.lo g.2.n],.blk g.2.id (.arr 17 (g.2.pre++lst eAE0 r.2.1++g.2.rest)),cb b4 [vi r.2.2.1],cb b3 [.sl [] .nil],cb b1 [.sl [] .nil],ob q2 17 eAE0 ([])] H) (fun i s11 y10=>[(2,.v (.ref b1 0)),(3,.v (.ref b3 0)),(4,.v (.ref b4 0)),(5,.v (.ref b5 0)),(6,.v (.ref b7 0)),(7,.v (.ref i 0)),(8,.v (.eref (M3 y10.2) 0))]) (fun i s11 y10 F H=>∃g:D2×OG,(G3 g.1∧Z0 g.2 (Ar.len s11.2))∧B6 Eq F [cb i (BY y10.1),.tl g.1,cb b7 [.sl (lst eAD8 s11.1) g.1],cb b5 [.own g.2.id g.2.lo g.2.n],.blk g.2.id (.arr 17 (g.2.pre++lst eAE0 s11.2++g.2.rest)),cb b4 [vi 0],cb b3 [.sl [] .nil],cb b1 [.own q2.id q2.lo q2.n],ob q2 17 eAE0 ([])] H) (fun _=>D9.ex fun _=>B6.stable C5 _) (fun _ _=>D9.ex fun _=>B6.stable C5 _) (fun _ _ _=>D9.ex fun _=>B6.stable C5 _) hv9 hx (⟨⟨.nil,q6⟩,⟨trivial,hq6⟩,hO⟩) (by decide) (fun _=>rfl) (by kernel_rfl) (by kernel_rfl) ?_ ?_ ?_ ?_
 ·rintro E i13 y10 s11 F12 H hE ⟨⟨t14,q15⟩,⟨ht14,hq15⟩,hO⟩;clear hx h;cbv;refine D8 hE hO fun b17 H hO=>?_;cbv;refine A7 hE hO 0 rfl rfl fun H hO=>?_;cbv;exact⟨b17,⟨⟨t14,q15⟩,⟨ht14,hq15⟩,hO⟩,.e rfl (.e2 (.e4 .z)),rfl⟩
 ·rintro E i13 b17 y10 s11 F12 H o hE hF h ⟨⟨t14,q15⟩,⟨ht14,hq15⟩,hO⟩;clear hx;cbv;refine A7 hE hO 0 rfl rfl fun H hO=>?_;cbv;obtain⟨s18,hx,h⟩:=bind_some h;refine O1 cfo170 hE J9 (fun e l H1=>match(generalizing:=false) s18 with| .inl y=>∃u1:D2,G3 u1∧e= .normal∧l=[(2,.v (.ref b1 0)),(3,.v (.ref b3 0)),(4,.v (.ref b4 0)),(5,.v (.ref b5 0)),(7,.v (.ref b17 0))]∧B6 Eq F12 [cb b17 (BY y.1),.tl u1,cb b7 [.sl (lst eAD8 y.2) u1],cb b5 [.own q15.id q15.lo q15.n],ob q15 17 eAE0 s11.2,cb b4 [vi 0],cb b3 [.sl [] .nil],cb b1 [.own q2.id q2.lo q2.n],ob q2 17 eAE0 ([])] H1| .inr y=>e= .ret∧l=[(2,.v (.ref b1 0)),(3,.v (.ref b3 0)),(4,.v (.ref b4 0))]∧B6 Eq F12 [cb b17 (BY y.1),.tl t14,cb b7 [.sl (lst eAD8 s11.1) t14],cb b5 [.own q15.id q15.lo q15.n],ob q15 17 eAE0 s11.2,cb b4 [vi y.2.1],cb b3 [.sl [] .nil],cb b1 [.sl [] .nil],ob q2 17 eAE0 ([])] H1) (by kernel_rfl) ?_ ?_
  ·clear h;have h:=hx;clear hx;cbv;refine B0 hE h (fun _ h=>?_) fun _ h=>?_
   ·cbv;refine A8 hE hO 2 rfl ?_;cbv;refine A9 hE h (c171 N s11.1 y10.2.p) (.cons (.ro _ _) (.refl _)) fun r19 h=>?_;cbv;refine A7 hE hO 0 rfl rfl fun H hO=>?_;cbv;refine A8 hE hO 0 rfl ?_;cbv;refine B0 hE h (fun _ h=>?_) fun _ h=>?_
    ·cbv;refine A9 hE h (c176 N y10.2.p) (.refl _) fun r20 h=>?_;cbv;refine B0 hE h (fun _ h=>?_) fun _ h=>?_
     ·cbv;refine A7 hE hO 7 rfl rfl fun H hO=>?_;cbv;refine A7 hE hO 6 rfl rfl fun H hO=>?_;cbv;refine A7 hE hO 5 rfl rfl fun H hO=>?_;cbv;cases h;exact⟨_,⟨rfl,rfl,hO⟩,.e rfl (.e2 .z),rfl⟩
     cbv;refine A8 hE hO 2 rfl ?_;cbv;refine E9 hE ?_;cbv;refine A7 hE hO 0 rfl rfl fun H hO=>?_;cbv;refine A8 hE hO 2 rfl ?_;cbv;refine E9 hE ?_;cbv;refine Gd hE (by first|exact Xt _|exact Ae9 _|trivial|rfl) ?_;cbv;refine K7 (f:=eAD8) hE Bm (by decide) hO 1 rfl ht14 (l:=s11.1) (m:=[y10.2.p]) (.refl _) (.lstc (.eq (eAE6 y10.2.p) (.refl _)) (.lst0)) h fun l22 t21 H hO ht21 h=>?_;cbv;refine Ad0 hE hO 2 rfl rfl fun H hO=>?_;cbv;cases h;exact⟨_,⟨t21,ht21,rfl,rfl,hO⟩,.e rfl (.e4 .z),rfl⟩
    cbv;cases h;exact⟨_,⟨t14,ht14,rfl,rfl,hO⟩,.e rfl (.e4 .z),rfl⟩
   cbv;cases h;exact⟨_,⟨t14,ht14,rfl,rfl,hO⟩,.e rfl (.e4 .z),rfl⟩
  clear hx
  rcases s18 with y23|y28
  ·rintro e l H ⟨t24,ht24,rfl,rfl,hO⟩;cbv;refine A8 hE hO 3 rfl ?_;cbv;refine Ad8 hE hO 0 rfl fun H hO=>?_;cbv;refine Ao5 hE (g:=fun r25=>.bool r25) h (fun r25 hx=>c211 N s11.2 (.func (.func 212) [] [.eref (BY y23.1) 0]) (fun y1=>AG N y1 y23.1) (fun y1 r hx=>C7.value (F:=[]) (C:=[.eref (BY y23.1) 0]) (c212 N y1 y23.1 r hx)) r25 hx) (fun _=>.bool _) (Ae8 hE hO hq15 3 rfl (.le (.refl _) (.nil))) fun r25 h=>?_;cbv;refine B0 hE h (fun _ h=>?_) fun _ h=>?_
   ·cbv;cases h;exact⟨_,rfl,⟨⟨t24,q15⟩,⟨ht24,hq15⟩,hO⟩⟩
   cbv;refine A8 hE hO 2 rfl ?_;cbv;refine Ey (f:=eAE0) hE Pd (by decide) hO hq15 3 rfl (m:=[y23.1]) (Cz (f:=eAE0) hE Pd (.lstc (.eq (eAF8 y23.1) (.refl _)) (.lst0))) h fun l27 q26 H hq26 hO h=>?_;cbv;refine A7 hE hO 2 rfl rfl fun H hO=>?_;cbv;refine A8 hE hO 2 rfl ?_;cbv;refine Fc hE hq26 ?_;cbv;refine B0 hE h (fun _ h=>?_) fun _ h=>?_
   ·cbv;refine A7 hE hO 6 rfl rfl fun H hO=>?_;cbv;refine A7 hE hO 5 rfl rfl fun H hO=>?_;cbv;refine A7 hE hO 4 rfl rfl fun H hO=>?_;cbv;cases h;exact⟨_,rfl,rfl,⟨⟨t24,q26⟩,⟨rfl,⟨ht24,hq26⟩⟩,hO⟩⟩
   cbv;cases h;exact⟨_,rfl,⟨⟨t24,q26⟩,⟨ht24,hq26⟩,hO⟩⟩
  rintro e l H ⟨rfl,rfl,hO⟩;cbv;cases h;exact⟨_,rfl,rfl,⟨⟨t14,q15⟩,⟨rfl,⟨ht14,hq15⟩⟩,hO.tail⟩⟩
 ·rintro d29 s33 H rfl hd ⟨⟨t34,q35⟩,⟨ht34,hq35⟩,hO⟩;have hO:B6 Eq H0 [.tl t34,cb b7 [.sl (lst eAD8 s33.1) t34],cb b5 [.own q35.id q35.lo q35.n],ob q35 17 eAE0 s33.2,cb b4 [vi 0],cb b3 [.sl [] .nil],cb b1 [.own q2.id q2.lo q2.n],ob q2 17 eAE0 ([]),.blk d29 DB] H:=B6.dblk hd hO;clear hd;clear hx;cbv;replace hO:=hO.cast (L':=[.tl t34,cb b7 [.sl (lst eAD8 s33.1) t34],cb b5 [.own q35.id q35.lo q35.n],ob q35 17 eAE0 s33.2,cb b4 [vi 0],cb b3 [.sl (lst eAD8 ([])) .nil],cb b1 [.own q2.id q2.lo q2.n],ob q2 17 eAE0 ([]),.blk d29 DB]) (by simp only[ob,cb,sr,←B4]<;>rfl);replace hO:=hO.tl0 (t:=.nil) rfl;obtain⟨s36,hx,h⟩:=bind_some h;refine O1 cfo170 hE J9 (fun e l H1=>e= .normal∧l=[(2,.v (.ref b1 0)),(3,.v (.ref b3 0)),(4,.v (.ref b4 0))]∧B6 Eq H0 [.tl .nil,.tl t34,cb b7 [.sl (lst eAD8 s33.1) t34],cb b5 [.own q35.id q35.lo q35.n],ob q35 17 eAE0 s33.2,cb b4 [vi 0],cb b3 [.sl (lst eAD8 s36) t34],cb b1 [.own q35.id q35.lo q35.n],ob q2 17 eAE0 ([]),.blk d29 DB] H1) (by kernel_rfl) ?_ ?_
  ·clear h;have h:=hx;clear hx;cbv
   repeat' first|refine And.intro ?_ ?_|(refine A8 hE hO 3 rfl ?_;cbv)|(refine A8 hE hO 2 rfl ?_;cbv)|(refine A7 hE hO 7 rfl rfl fun H hO=>?_;cbv)|(refine A7 hE hO 6 rfl rfl fun H hO=>?_;cbv)|(refine A7 hE hO 5 rfl rfl fun H hO=>?_;cbv)|(have h:=I9 h;subst h;exact⟨_,⟨rfl,rfl,hO⟩,.e rfl (.e2 .z),rfl⟩)
  clear hx;rintro e l H ⟨rfl,rfl,hO⟩;cbv;refine Ez hE hO 9 rfl fun H hO=>?_;cbv;refine A8 hE hO 7 rfl ?_;cbv;refine A8 hE hO 6 rfl ?_;cbv;refine A8 hE hO 5 rfl ?_;cbv;cases h;exact hK q35 _ 4 _ _ (Z5 hE hq35) rfl hO (.tup (.cons (.refl _) (.cons (.ro _ _) (.refl _))))
 rintro d29 y277 e H rfl hd hX;clear hx
 rcases hX with⟨⟨t278,q279⟩,⟨rfl,ht278,hq279⟩,hO⟩
 have hO:B6 Eq H0 [.tl t278,cb b7 [.sl (lst eAD8 y277.1) t278],cb b5 [.own q279.id q279.lo q279.n],ob q279 17 eAE0 y277.2.1,cb b4 [vi y277.2.2.1],cb b3 [.sl [] .nil],cb b1 [.sl [] .nil],ob q2 17 eAE0 ([]),.blk d29 DB] H:=B6.dblk hd hO;clear hd;cbv;refine Ez hE hO 8 rfl fun H hO=>?_;cbv;refine A8 hE hO 6 rfl ?_;cbv;refine A8 hE hO 5 rfl ?_;cbv;refine A8 hE hO 4 rfl ?_;cbv;cases h;exact hN (by rw[Ar.lst_eq];rfl) _ _ _ hO (.tup (.cons (.refl _) (.cons (.lit _ (B4)) (.refl _))))
end Go.Ab
