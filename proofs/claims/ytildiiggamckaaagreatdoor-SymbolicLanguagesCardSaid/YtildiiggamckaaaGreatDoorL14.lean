/- GLCo3 -/
import Derived.Test.YtildiiggamckaaaGreatDoorL13
set_option linter.all false
open Go.Ab.Ar (lst nt_eq)
namespace Go.Ab
open Go.RowKit Go.Proofs Go.Proofs.Tryz K2
variable [Ar][K2]
set_option maxRecDepth 100000
def cf279 :Cf:=⟨[5,8],[],[(9,3),(25,5)],[],[],[]⟩
theorem c279 (N aB aH bX cG r) (h:BV N aB aH bX cG=some r):C5 prog 279 [(D7 aB),(J8 aH),.bool bX,.bool cG] ((J8 r)):=by
 unfold BV at h
 refine P3 cf279 func279 call279 ntmps279 ?_;intro E H0 K hE hK hO;cbv;refine E6 hE hO fun b1 H hO=>?_;cbv;refine E6 hE hO fun b2 H hO=>?_;cbv;obtain⟨s3,hx,h⟩:=bind_some h;refine P0 cf279 hE K3 (fun e l H1=>e= .normal∧l=[(2,.v (.bool bX)),(4,.v (.eref (G4 aB) 0)),(5,.v (.ref b1 0)),(8,.v (.ref b2 0))]∧B6 Eq H0 [cb b2 [vi 0,vi 0,vi 0,vi 0,vi 0,.sl [] .nil,vi 0,vi 0,vi 0,vi 0,vi 0,.str (⟨#[]⟩),.sl [] .nil,.sl [] .nil,.sl [] .nil,.sl [] .nil,.sl [] .nil],cb b1 (BO s3)] H1) (by kernel_rfl) ?_ ?_
 ·clear h;have h:=hx;clear hx;cbv;refine B0 hE h (fun _ h=>?_) fun _ h=>?_
  ·cbv;refine B1 hE hO 1 rfl ?_;cbv;refine A8 hE h (c303 N ([[aB.dD],aH.dI])) (.cons (.sl _ (.lstc (.eq (eAD1 ([aB.dD])) (.lit _ (D4 (rfl) (B4)))) (.lstc (.eq (eAD1 aH.dI) (.refl _)) (.lst0)))) (.refl _)) fun r4 h=>?_;cbv;refine A7 hE hO 1 rfl rfl fun H hO=>?_;cbv;cases h;exact⟨_,⟨rfl,rfl,hO⟩,.e4 .z,rfl⟩
  cbv;cases h;exact⟨_,⟨rfl,rfl,hO⟩,.e4 .z,rfl⟩
 clear hx;rintro e l H ⟨rfl,rfl,hO⟩;cbv;obtain⟨s5,hx,h⟩:=bind_some h;refine P0 cf279 hE K3 (fun e l H1=>e= .normal∧l=[(2,.v (.bool bX)),(4,.v (.eref (G4 aB) 0)),(5,.v (.ref b1 0)),(8,.v (.ref b2 0))]∧B6 Eq H0 [cb b2 [vi 0,vi 0,vi 0,vi 0,vi 0,.sl [] .nil,vi 0,vi 0,vi 0,vi 0,vi 0,.str (⟨#[]⟩),.sl [] .nil,.sl [] .nil,.sl [] .nil,.sl [] .nil,.sl [] .nil],cb b1 (BO s5)] H1) (by kernel_rfl) ?_ ?_
 ·clear h;have h:=hx;clear hx;cbv;refine B0 hE h (fun _ h=>?_) fun _ h=>?_
  ·cbv;refine B1 hE hO 1 rfl ?_;cbv;refine A8 hE h (c303 N ([[aB.dD],s3.dK])) (.cons (.sl _ (.lstc (.eq (eAD1 ([aB.dD])) (.lit _ (D4 (rfl) (B4)))) (.lstc (.eq (eAD1 s3.dK) (.refl _)) (.lst0)))) (.refl _)) fun r6 h=>?_;cbv;refine A7 hE hO 1 rfl rfl fun H hO=>?_;cbv;cases h;exact⟨_,⟨rfl,rfl,hO⟩,.e4 .z,rfl⟩
  cbv;refine B1 hE hO 1 rfl ?_;cbv;refine A8 hE h (c304 N ([[(⟨aB.dD,aB.Span⟩:BC)],s3.dH])) (.cons (.sl _ (.lstc (.eq (eAE3 ([(⟨aB.dD,aB.Span⟩:BC)])) (.lit _ (D4 ((eAE0 (⟨aB.dD,aB.Span⟩:BC)).symm) (B4)))) (.lstc (.eq (eAE3 s3.dH) (.refl _)) (.lst0)))) (.refl _)) fun r7 h=>?_;cbv;refine A7 hE hO 1 rfl rfl fun H hO=>?_;cbv;cases h;exact⟨_,⟨rfl,rfl,hO⟩,.e4 .z,rfl⟩
 clear hx;rintro e l H ⟨rfl,rfl,hO⟩;cbv;refine B0 hE h (fun _ h=>?_) fun _ h=>?_
 ·cbv;refine B1 hE hO 1 rfl ?_;cbv;refine A8 hE h (c303 N ([s5.dJ,[aB.dD]])) (.cons (.sl _ (.lstc (.eq (eAD1 s5.dJ) (.refl _)) (.lstc (.eq (eAD1 ([aB.dD])) (.lit _ (D4 (rfl) (B4)))) (.lst0)))) (.refl _)) fun r8 h=>?_;cbv;refine A7 hE hO 1 rfl rfl fun H hO=>?_;cbv;refine B1 hE hO 1 rfl ?_;cbv;refine A7 hE hO 0 rfl rfl fun H hO=>?_;cbv;refine B1 hE hO 0 rfl ?_;cbv;cases h;exact hK hO (.refl _)
 cbv;refine B1 hE hO 1 rfl ?_;cbv;refine A7 hE hO 0 rfl rfl fun H hO=>?_;cbv;refine B1 hE hO 0 rfl ?_;cbv;cases h;exact hK hO (.refl _)
def cf280 :Cf:=⟨[3,6],[(1,5)],[],[],[],[(1,3,[10])]⟩
theorem c280 (N aB aO cE r)(h:El N aB aO cE=some r):C5 prog 280 [(D7 aB),vi aO,(D7 cE)] ((D7 r)):=by
 unfold El at h
 refine P3 cf280 func280 call280 ntmps280 ?_;intro E H0 K hE hK hO;cbv;refine E6 hE hO fun b1 H hO=>?_;cbv;refine E6 hE hO fun b2 H hO=>?_;cbv;refine So hE hO 1 rfl fun H1 hT hW=>?_;cbv;refine HD hE trivial ?_;cbv;refine Sr hE hO 1 rfl hT fun H hO=>?_;cbv;refine A7 hE hO 1 rfl rfl fun H hO=>?_;cbv;refine B1 hE hO 1 rfl ?_;cbv;refine A7 hE hO 0 rfl rfl fun H hO=>?_;cbv;refine B1 hE hO 0 rfl ?_;cbv;cases h;exact hK hO (.agg (.cons (.refl _) (.cons (.lit _ (D4 ((eAB3 cE).symm) (B4))) (.refl _))))
def cf210 :Cf:=⟨[],[(9,5),(11,8)],[(8,6)],[],[],[]⟩
def Af2 (N n:Nat):Prop:=∀(aB:A9) (r:(List (D6×A5))),R6 N n aB=some r→Ew prog 210 [(D7 aB)] (fun v=>Ga prog v (r.map fun(x:(D6×A5))=>[(J8 x.1),(B7 x.2)]))
def Aw0 (N n:Nat):Prop:=∀(aB:A9) (r:(List (D6×A5))),AP N n aB=some r→Ew prog 245 [(D7 aB)] (fun v=>Ga prog v (r.map fun(x:(D6×A5))=>[(J8 x.1),(B7 x.2)]))
def Av9 (N n:Nat):Prop:=∀(bS:A9) (bT:A9) (r:(List (D6×A5))),Y2 N n bS bT=some r→Ew prog 246 [(D7 bS),(D7 bT)] (fun v=>Ga prog v (r.map fun(x:(D6×A5))=>[(J8 x.1),(B7 x.2)]))
def Av8 (N n:Nat):Prop:=∀(aB:A9) (r:(List (D6×A5))),CI N n aB=some r→Ew prog 247 [(D7 aB)] (fun v=>Ga prog v (r.map fun(x:(D6×A5))=>[(J8 x.1),(B7 x.2)]))
def cf273 :Cf:=⟨[3,4,6,1000002],[(10,4)],[],[4],[],[]⟩
def Av7 (N n:Nat):Prop:=∀(aF:A9) (r:(List (D6×A5))),Ak N n aF=some r→Ie prog 273 (fun yv=>[yv,.eref (G4 aF) 0]) (List.map (fun(x:(D6×A5))=>[(J8 x.1),(B7 x.2)]) r) rbN
def cf276 :Cf:=⟨[1000003],[(5,11)],[],[],[],[]⟩
def Av6 (N n:Nat):Prop:=∀(aF:A9) (aN:A9) (r:(List (D6×A5))),Aj N n aF aN=some r→Ie prog 276 (fun yv=>[yv,.eref (G4 aF) 0,.eref (G4 aN) 0]) (List.map (fun(x:(D6×A5))=>[(J8 x.1),(B7 x.2)]) r) rbN
def cf277 :Cf:=⟨[3,4,1000002],[],[(37,13),(50,17)],[2],[],[]⟩
def Av5 (N n:Nat):Prop:=∀(aF:A9) (r:(List (D6×A5))),Bz N n aF=some r→Ie prog 277 (fun yv=>[yv,.eref (G4 aF) 0]) (List.map (fun(x:(D6×A5))=>[(J8 x.1),(B7 x.2)]) r) rbN
theorem k210 (N n:Nat) (ih245:Aw0 N n) (ih246:Av9 N n) (ih247:Av8 N n):Af2 N (n+1):=by
 intro aB r h
 unfold R6 at h
 refine W3 cf210 K3 func210 (by rfl) (by kernel_rfl) call210 ntmps210 (by rfl) (by rfl) ?_;intro E H0 K hE hK;have hO:B6 Eq H0 [] H0:=.start C4 rfl;cbv;refine B0 hE h (fun _ h=>?_) fun _ h=>?_
 ·cbv;exact hK _ _ _ hO (W1 call244 (c244 N aB r h))
 cbv;obtain⟨s1,hx,h⟩:=bind_some h;refine P0 cf210 hE K3 (fun e l H1=>e= .normal∧l=[(1,.v (.eref (G4 aB) 0)),fi 4 aB.Op,(8,.v (.bool s1))]∧B6 Eq H0 [] H1) (by kernel_rfl) ?_ ?_
 ·clear h;have h:=hx;clear hx;cbv;refine B0 hE h (fun _ h=>?_) fun _ h=>?_
  ·cbv;cases h;exact⟨_,⟨rfl,rfl,hO⟩,.e rfl (.e2 .z),rfl⟩
  cbv;refine B0 hE h (fun _ h=>?_) fun _ h=>?_
  ·cbv;cases h;exact⟨_,⟨rfl,rfl,hO⟩,.e rfl (.e2 .z),rfl⟩
  cbv;cases h;exact⟨_,⟨rfl,rfl,hO⟩,.e rfl (.e2 .z),rfl⟩
 clear hx;rintro e l H ⟨rfl,rfl,hO⟩;cbv;refine B0 hE h (fun _ h=>?_) fun _ h=>?_
 ·cbv;refine T4 hE h (ih245 aB) (.refl _) fun r2 v3 hv3 h=>?_;cbv;cases h;exact hK _ _ _ hO hv3
 cbv;refine B0 hE h (fun _ h=>?_) fun _ h=>?_
 ·cbv;refine D3 hE eAB3 h fun x4 h=>?_;cbv;refine T4 hE h (ih246 x4 aB) (.refl _) fun r5 v6 hv6 h=>?_;cbv;cases h;exact hK _ _ _ hO hv6
 cbv;refine B0 hE h (fun _ h=>?_) fun _ h=>?_
 ·cbv;refine D3 hE eAB3 h fun x7 h=>?_;cbv;refine Aa2 hE (f:=eAA6) Bj h fun l8 h=>?_;cbv;refine T4 hE h (ih246 x7 (⟨4,l8,0,0,0,0,(⟨0,[],0,0,0,(⟨0,0,⟨#[]⟩⟩:X0)⟩:L7)⟩:A9)) (.cons (.refl _) (.cons (.agg (.cons (.refl _) (.cons (.ro _ _) (.cons (.refl _) (.cons (.refl _) (.cons (.refl _) (.cons (.refl _) (.cons (.refl _) (.cons (.lit _ (B4)) (.refl _)))))))))) (.refl _))) fun r9 v10 hv10 h=>?_;cbv;cases h;exact hK _ _ _ hO hv10
 cbv;refine T4 hE h (ih247 aB) (.refl _) fun r11 v12 hv12 h=>?_;cbv;cases h;exact hK _ _ _ hO hv12
theorem k245 (N n:Nat)(ih273:Av7 N n):Aw0 N (n+1):=by
 intro aB r h
 unfold AP at h
 refine W3 cf0 K3 func245 (by rfl) (by kernel_rfl) call245 ntmps245 (by rfl) (by rfl) ?_;intro E H0 K hE hK;have hO:B6 Eq H0 [] H0:=.start C4 rfl;cbv;exact hK _ _ _ hO (W1 call273 (ih273 aB r h))
theorem k246 (N n:Nat)(ih276:Av6 N n):Av9 N (n+1):=by
 intro bS bT r h
 unfold Y2 at h
 refine W3 cf0 K3 func246 (by rfl) (by kernel_rfl) call246 ntmps246 (by rfl) (by rfl) ?_;intro E H0 K hE hK;have hO:B6 Eq H0 [] H0:=.start C4 rfl;cbv;exact hK _ _ _ hO (W1 call276 (ih276 bS bT r h))
theorem k247 (N n:Nat)(ih277:Av5 N n):Av8 N (n+1):=by
 intro aB r h
 unfold CI at h
 refine W3 cf0 K3 func247 (by rfl) (by kernel_rfl) call247 ntmps247 (by rfl) (by rfl) ?_;intro E H0 K hE hK;have hO:B6 Eq H0 [] H0:=.start C4 rfl;cbv;exact hK _ _ _ hO (W1 call277 (ih277 aB r h))
theorem k273 (N n:Nat) (ih210:Af2 N n):Av7 N (n+1):=by
 intro aF r h
 unfold Ak at h
 obtain⟨⟨w0,u0⟩,h1,hr⟩:=bind_some h;clear h;have hr:=K8 hr;subst hr;have h:=h1;clear h1;refine R9 cf273 K3 func273 (by rfl) (by kernel_rfl) call273 ntmps273 (by rfl) (fun _=>rfl) ?_;intro yv I D hI hD hy tl F E H K hE hO hK hKD
 have hO:B6 (I (List.map (fun(x:(D6×A5))=>[(J8 x.1),(B7 x.2)]) (w0++[])++tl)) F [] H:=by rw[H7];exact hO
 cbv;refine HD hE hy.1 ?_;cbv;refine F3 hE ?_;cbv;obtain⟨w3,w4,s7,hx,h1,he⟩:=Q9 h;clear h;have h:=h1;clear h1
 rw[he,E7]at hO
 clear he;refine Aa5 cf273 hE K3 (γ:=Unit) (fun s2 g=>[(1,.v (.eref (G4 aF) 0)),(2,.v (.eref [yv] 0)),(8,.v (sr eAA6 aF.dA)),fi 9 (Ar.len aF.dA),fi 10 s2]) (fun s2 g ds1 w H1=>B6 (I (List.map (fun(x:(D6×A5))=>[(J8 x.1),(B7 x.2)]) w++tl)) F (Bl ds1) H1) (fun x e l ds1 w H1=>match(generalizing:=false) x with| .inl y=>e= .exit 0∧l=[]∧B6 (I (List.map (fun(x:(D6×A5))=>[(J8 x.1),(B7 x.2)]) w++tl)) F (Bl ds1) H1| .inr y=>e= .ret∧l=[]∧B6 (I (List.map (fun(x:(D6×A5))=>[(J8 x.1),(B7 x.2)]) w++tl)) F (Bl ds1) H1) (fun e l ds1 H1=>(e= .ret∧l=[]∧B6 D F (Bl ds1) H1)) (by kernel_rfl) ?_ (w':=w4++[]) () hx rfl ?_ ?_ ?_ ?_
 ·rintro s2 _ ds1 w5 w6 H o hO h;clear hx
  skip
  cbv;refine B0 hE h (fun _ h=>?_) fun _ h=>?_
  ·cbv;refine D3 hE eAB3 h fun x8 h=>?_;cbv;refine E6 hE hO fun b9 H hO=>?_;cbv;refine E6 hE hO fun b10 H hO=>?_;cbv;refine A7 hE hO 1 rfl rfl fun H hO=>?_;cbv;refine A7 hE hO 0 rfl rfl fun H hO=>?_;cbv;refine B1 hE hO 1 rfl ?_;cbv;refine B0 hE h (fun _ h=>?_) fun _ h=>?_
   ·cbv;obtain⟨hw,rfl⟩:=E8 h
    rw[←hw]at hO
    exact .inl ⟨_,_,_,rfl,⟨rfl,rfl,hO.tail.tail⟩,.z,rfl⟩
   cbv;refine B1 hE hO 0 rfl ?_;cbv;refine T4 hE h (ih210 x8) (.refl _) fun r11 v12 hv12 h=>?_;cbv;obtain⟨w16,w17,o20,hx,h1,he⟩:=Q9 h;clear h;have h:=h1;clear h1
   rw[he,E7]at hO
   clear he;refine Pz cf273 hE K3 (ι:=Nat) (σ:=Unit) (R:=Unit) (enc:=fun(x:(D6×A5))=>[(J8 x.1),(B7 x.2)]) (fun _ w F1 H=>B6 (I (List.map (fun(x:(D6×A5))=>[(J8 x.1),(B7 x.2)]) w++tl)) F1 (cb b10 (G4 x8)::cb b9 [vi s2]::Bl ds1) H) (fun _ e w F1 H=>False) (fun e F1 H=>e= .ret∧B6 D F1 (cb b10 (G4 x8)::cb b9 [vi s2]::Bl ds1) H) (fun i _ y13=>[(1,.v (.eref (G4 aF) 0)),(2,.v (.eref [yv] 0)),(3,.v (.ref b9 0)),(5,.v (.eref (BO y13.1) 0)),(6,.v (.ref i 0))]) (fun i _ y13 w F1 H=>B6 (I (List.map (fun(x:(D6×A5))=>[(J8 x.1),(B7 x.2)]) w++tl)) F1 (cb i (L6 y13.2)::cb b10 (G4 x8)::cb b9 [vi s2]::Bl ds1) H) (fun _ _=>B6.stable (hI _) _) (fun _ _ _=>⟨fun h=>h.elim,fun _ _ h=>h.elim⟩) (fun _=>D2.con (B6.stable hD _)) (fun _ _ _ _=>B6.stable (hI _) _) hv12 hx (w':=w17++w6) hO (by decide) (fun _=>rfl) (by kernel_rfl) (by kernel_rfl) ?_ ?_ ?_ ?_ ?_
   ·rintro E i15 y13 _ w F14 H hE hO;clear hx h;cbv;refine E6 hE hO fun b21 H hO=>?_;cbv;refine A7 hE hO 0 rfl rfl fun H hO=>?_;cbv;exact⟨b21,hO,.e rfl (.e4 .z),rfl⟩
   ·rintro E i15 b21 y13 _ w18 w19 F14 H o hE hF h hO;clear hx;cbv;obtain⟨w23,w24,s22,hx,h1,he⟩:=Q9 h;clear h;have h:=h1;clear h1
    rw[he,E7]at hO
    clear he;refine P0 cf273 hE K3 (fun e l H1=>(e= .normal∧l=[(2,.v (.eref [yv] 0)),(5,.v (.eref (BO y13.1) 0)),(6,.v (.ref b21 0))]∧B6 (I (List.map (fun(x:(D6×A5))=>[(J8 x.1),(B7 x.2)]) (w24++w19)++tl)) F14 (cb b21 (L6 s22)::cb b10 (G4 x8)::cb b9 [vi s2]::Bl ds1) H1)∨(False)) (by kernel_rfl) ?_ ?_
    ·clear h;have h:=hx;clear hx;cbv;refine B0 hE h (fun _ h=>?_) fun _ h=>?_
     ·cbv;refine B1 hE hO 0 rfl ?_;cbv;refine Al1 hE (f:=eAA6) Bj h fun l25 t26 h=>?_;cbv;refine A8 hE h (c274 N y13.2 l25) (.cons (.refl _) (.cons (.ro _ _) (.refl _))) fun r27 h=>?_;cbv;refine A7 hE hO 0 rfl rfl fun H hO=>?_;cbv;obtain⟨hw,rfl⟩:=E8 h
      rw[←hw]at hO
      exact⟨_,.inl ⟨rfl,rfl,hO⟩,.e rfl (.e2 .z),rfl⟩
     cbv;refine B0 hE h (fun _ h=>?_) fun _ h=>?_
     ·cbv;refine B1 hE hO 2 rfl ?_;cbv;refine B1 hE hO 0 rfl ?_;cbv;refine A8 hE h (c275 N aF.dA s2 y13.2) (.refl _) fun r28 h=>?_;cbv;refine A7 hE hO 0 rfl rfl fun H hO=>?_;cbv;obtain⟨hw,rfl⟩:=E8 h
      rw[←hw]at hO
      exact⟨_,.inl ⟨rfl,rfl,hO⟩,.e rfl (.e2 .z),rfl⟩
     cbv;obtain⟨hw,rfl⟩:=E8 h
     rw[←hw]at hO
     exact⟨_,.inl ⟨rfl,rfl,hO⟩,.e rfl (.e2 .z),rfl⟩
    clear hx;rintro e l H hX
    rcases hX with hX|hX
    ·obtain⟨rfl,rfl,hO⟩:=hX;cbv;refine B1 hE hO 0 rfl ?_;cbv;obtain⟨w29,h1,he⟩:=X2 h;clear h;have h:=h1;clear h1
     rw[he,E7]at hO
     clear he;have hO:B6 (I ([(J8 y13.1),(B7 s22)]::(List.map (fun(x:(D6×A5))=>[(J8 x.1),(B7 x.2)]) (w29++w19)++tl))) F14 (cb b21 (L6 s22)::cb b10 (G4 x8)::cb b9 [vi s2]::Bl ds1) _:=hO;refine De hE hI hD hy hO (.refl _) (fun H hO=>?_) (fun H hO=>?_)
     ·cbv;refine JZ hE (nt_eq _) ?_;cbv;obtain⟨hw,rfl⟩:=E8 h
      rw[←hw]at hO
      exact⟨_,rfl,hO.tail⟩
     clear h;cbv;refine JY hE (nt_eq _) ?_;cbv
     first|exact .inr ⟨rfl,rfl,hO.tail⟩|exact .inr (hO.tail)
    exact hX.elim
   ·rintro d30 _ H rfl hd hO;have hO:B6 (I (List.map (fun(x:(D6×A5))=>[(J8 x.1),(B7 x.2)]) (w17++w6)++tl)) F (cb b10 (G4 x8)::cb b9 [vi s2]::Bl (d30::ds1)) H:=B6.dbs1 (A:=[_,_]) (ds:=ds1) (B6.dblk hd hO);clear hd hx;cbv;obtain⟨hw,rfl⟩:=E8 h
    rw[←hw]at hO
    exact⟨_,(),_,rfl,.e rfl (.e4 .z),rfl,hO.tail.tail⟩
   ·rintro _ _ _ _ _ _ h;exact h.elim
   rintro d30 e H hd ⟨rfl,hO⟩;have hO:B6 D F (cb b10 (G4 x8)::cb b9 [vi s2]::Bl (d30::ds1)) H:=B6.dbs1 (A:=[_,_]) (ds:=ds1) (B6.dblk hd hO);clear hd hx h;cbv;exact .inr ⟨_,_,⟨rfl,rfl,hO.tail.tail⟩,.z,rfl⟩
  cbv;obtain⟨hw,rfl⟩:=E8 h
  rw[←hw]at hO
  exact .inl ⟨_,_,_,rfl,⟨rfl,rfl,hO⟩,.z,rfl⟩
 ·exact .e rfl (.e4 .z)
 ·exact hO
 ·rintro e l ds1 H hX;clear hx
  rcases s7 with y31|y32
  ·obtain⟨rfl,rfl,hO⟩:=hX;cbv
   rcases ds1 with _|⟨d0,ds1⟩
   ·cbv;have hO:B6 _ _ [] H:=hO;obtain⟨hw,_⟩:=E8 h
    rw[←hw]at hO
    exact hK _ _ _ hO trivial
   cbv;refine Iu (A:=[]) (ds:=d0::ds1) hE hO fun H hO=>?_;cbv;obtain⟨hw,_⟩:=E8 h
   rw[←hw]at hO
   exact hK _ _ _ hO trivial
  obtain⟨rfl,rfl,hO⟩:=hX;cbv
  rcases ds1 with _|⟨d0,ds1⟩
  ·cbv;have hO:B6 _ _ [] H:=hO;obtain⟨hw,_⟩:=E8 h
   rw[←hw]at hO
   exact hK _ _ _ hO trivial
  cbv;refine Iu (A:=[]) (ds:=d0::ds1) hE hO fun H hO=>?_;cbv;obtain⟨hw,_⟩:=E8 h
  rw[←hw]at hO
  exact hK _ _ _ hO trivial
 rintro e l ds1 H hX;obtain⟨rfl,rfl,hO⟩:=hX;clear h;cbv
 rcases ds1 with _|⟨d0,ds1⟩
 ·cbv;have hO:B6 _ _ [] H:=hO;exact hKD _ _ _ hO trivial
 cbv;refine Iu (A:=[]) (ds:=d0::ds1) hE hO fun H hO=>?_;cbv;exact hKD _ _ _ hO trivial
theorem k276 (N n:Nat) (ih210:Af2 N n):Av6 N (n+1):=by
 intro aF aN r h
 unfold Aj at h
 obtain⟨⟨w0,u0⟩,h1,hr⟩:=bind_some h;clear h;have hr:=K8 hr;subst hr;have h:=h1;clear h1;refine R9 cf276 K3 func276 (by rfl) (by kernel_rfl) call276 ntmps276 (by rfl) (fun _=>rfl) ?_;intro yv I D hI hD hy tl F E H K hE hO hK hKD
 have hO:B6 (I (List.map (fun(x:(D6×A5))=>[(J8 x.1),(B7 x.2)]) (w0++[])++tl)) F [] H:=by rw[H7];exact hO
 cbv;refine HD hE hy.1 ?_;cbv;refine T4 hE h (ih210 aF) (.refl _) fun r1 v2 hv2 h=>?_;cbv;obtain⟨w6,w7,o10,hx,h1,he⟩:=Q9 h;clear h;have h:=h1;clear h1
 rw[he,E7]at hO
 clear he;refine Pz cf276 hE K3 (ι:=Unit) (σ:=Unit) (R:=Unit) (enc:=fun(x:(D6×A5))=>[(J8 x.1),(B7 x.2)]) (fun _ w F1 H=>B6 (I (List.map (fun(x:(D6×A5))=>[(J8 x.1),(B7 x.2)]) w++tl)) F1 [] H) (fun _ e w F1 H=>False) (fun e F1 H=>e= .ret∧B6 D F1 [] H) (fun i _ y3=>[(2,.v (.eref (G4 aN) 0)),(3,.v (.eref [yv] 0)),(4,.v (.eref (BO y3.1) 0)),(5,.v (.eref (L6 y3.2) 0))]) (fun i _ y3 w F1 H=>B6 (I (List.map (fun(x:(D6×A5))=>[(J8 x.1),(B7 x.2)]) w++tl)) F1 [] H) (fun _ _=>B6.stable (hI _) _) (fun _ _ _=>⟨fun h=>h.elim,fun _ _ h=>h.elim⟩) (fun _=>D2.con (B6.stable hD _)) (fun _ _ _ _=>B6.stable (hI _) _) hv2 hx (w':=w7++[]) hO (by decide) (fun _=>rfl) (by kernel_rfl) (by kernel_rfl) ?_ ?_ ?_ ?_ ?_
 ·rintro E i5 y3 _ w F4 H hE hO;clear hx h;cbv;exact⟨(),hO,.e4 .z,rfl⟩
 ·rintro E i5 _ y3 _ w8 w9 F4 H o hE hF h hO;clear hx;cbv;refine B0 hE h (fun _ h=>?_) fun _ h=>?_
  ·cbv;refine D3 hE eAB3 h fun x11 h=>?_;cbv;obtain⟨w12,h1,he⟩:=X2 h;clear h;have h:=h1;clear h1
   rw[he,E7]at hO
   clear he;have hO:B6 (I ([(J8 y3.1),.agg [.bool false,vi 8,sr eAA6 ([y3.2.p,x11]),vi 0,vi 0,vi 0,vi 0,vi 0,sr eAB0 ([]),vi 0,vi 0,vi 0,vi 0,vi 0,.str (⟨#[]⟩)]]::(List.map (fun(x:(D6×A5))=>[(J8 x.1),(B7 x.2)]) (w12++w9)++tl))) F4 [] _:=hO;refine De hE hI hD hy hO (.cons (.refl _) (.cons (.agg (.cons (.refl _) (.cons (.refl _) (.cons (.lit _ (D4 ((eAB3 y3.2.p).symm) (D4 ((eAB3 x11).symm) (B4)))) (.cons (.refl _) (.cons (.refl _) (.cons (.refl _) (.cons (.refl _) (.cons (.refl _) (.cons (.lit _ (B4)) (.refl _))))))))))) (.refl _))) (fun H hO=>?_) (fun H hO=>?_)
   ·cbv;refine JZ hE (nt_eq _) ?_;cbv;obtain⟨hw,rfl⟩:=E8 h
    rw[←hw]at hO
    exact⟨_,rfl,hO⟩
   clear h;cbv;refine JY hE (nt_eq _) ?_;cbv
   first|exact .inr ⟨rfl,rfl,hO⟩|exact .inr (hO)
  cbv;obtain⟨w13,h1,he⟩:=X2 h;clear h;have h:=h1;clear h1
  rw[he,E7]at hO
  clear he;have hO:B6 (I ([(J8 y3.1),(B7 y3.2)]::(List.map (fun(x:(D6×A5))=>[(J8 x.1),(B7 x.2)]) (w13++w9)++tl))) F4 [] _:=hO;refine De hE hI hD hy hO (.refl _) (fun H hO=>?_) (fun H hO=>?_)
  ·cbv;refine JZ hE (nt_eq _) ?_;cbv;obtain⟨w14,h1,he⟩:=X2 h;clear h;have h:=h1;clear h1
   rw[he,E7]at hO
   clear he;have hO:B6 (I ([(J8 y3.1),.agg [.bool false,vi aN.Op,sr eAA6 aN.dA,vi aN.Typ,vi aN.Var,vi aN.dD,vi aN.Span,vi aN.cY.Op,sr eAB0 aN.cY.dA,vi aN.cY.Var,vi aN.cY.Field,vi aN.cY.Kind,vi aN.cY.Value.Kind,vi aN.cY.Value.Num,.str aN.cY.Value.Text]]::(List.map (fun(x:(D6×A5))=>[(J8 x.1),(B7 x.2)]) (w14++w9)++tl))) F4 [] _:=hO;refine De hE hI hD hy hO (.refl _) (fun H hO=>?_) (fun H hO=>?_)
   ·cbv;refine JZ hE (nt_eq _) ?_;cbv;obtain⟨hw,rfl⟩:=E8 h
    rw[←hw]at hO
    exact⟨_,rfl,hO⟩
   clear h;cbv;refine JY hE (nt_eq _) ?_;cbv
   first|exact .inr ⟨rfl,rfl,hO⟩|exact .inr (hO)
  clear h;cbv;refine JY hE (nt_eq _) ?_;cbv
  first|exact .inr ⟨rfl,rfl,hO⟩|exact .inr (hO)
 ·rintro d15 _ H rfl hd hO;have hO:B6 (I (List.map (fun(x:(D6×A5))=>[(J8 x.1),(B7 x.2)]) (w7++[])++tl)) F [.blk d15 DB] H:=B6.dblk hd hO;clear hd hx;cbv;refine Ec hE hO 0 rfl fun H hO=>?_;cbv;obtain⟨hw,_⟩:=E8 h
  rw[←hw]at hO
  exact hK _ _ _ hO trivial
 ·rintro _ _ _ _ _ _ h;exact h.elim
 rintro d15 e H hd ⟨rfl,hO⟩;have hO:B6 D F [.blk d15 DB] H:=B6.dblk hd hO;clear hd hx h;cbv;refine Ec hE hO 0 rfl fun H hO=>?_;cbv;exact hKD _ _ _ hO trivial
theorem k277 (N n:Nat) (ih210:Af2 N n):Av5 N (n+1):=by
 intro aF r h
 unfold Bz at h
 obtain⟨⟨w0,u0⟩,h1,hr⟩:=bind_some h;clear h;have hr:=K8 hr;subst hr;have h:=h1;clear h1;refine R9 cf277 K3 func277 (by rfl) (by kernel_rfl) call277 ntmps277 (by rfl) (fun _=>rfl) ?_;intro yv I D hI hD hy tl F E H K hE hO hK hKD
 have hO:B6 (I (List.map (fun(x:(D6×A5))=>[(J8 x.1),(B7 x.2)]) (w0++[])++tl)) F [] H:=by rw[H7];exact hO
 cbv;refine HD hE hy.1 ?_;cbv;refine D3 hE eAB3 h fun x1 h=>?_;cbv;refine T4 hE h (ih210 x1) (.refl _) fun r2 v3 hv3 h=>?_;cbv;obtain⟨w7,w8,o11,hx,h1,he⟩:=Q9 h;clear h;have h:=h1;clear h1
 rw[he,E7]at hO
 clear he;refine Pz cf277 hE K3 (ι:=Nat×Nat) (σ:=Unit) (R:=Unit) (enc:=fun(x:(D6×A5))=>[(J8 x.1),(B7 x.2)]) (fun _ w F1 H=>B6 (I (List.map (fun(x:(D6×A5))=>[(J8 x.1),(B7 x.2)]) w++tl)) F1 [] H) (fun _ e w F1 H=>False) (fun e F1 H=>e= .ret∧B6 D F1 [] H) (fun i _ y4=>[(1,.v (.eref (G4 aF) 0)),(2,.v (.eref [yv] 0)),(3,.v (.ref i.2 0)),(4,.v (.ref i.1 0))]) (fun i _ y4 w F1 H=>B6 (I (List.map (fun(x:(D6×A5))=>[(J8 x.1),(B7 x.2)]) w++tl)) F1 [.blk i.1 (.cells (L6 y4.2)),.blk i.2 (.cells (BO y4.1))] H) (fun _ _=>B6.stable (hI _) _) (fun _ _ _=>⟨fun h=>h.elim,fun _ _ h=>h.elim⟩) (fun _=>D2.con (B6.stable hD _)) (fun _ _ _ _=>B6.stable (hI _) _) hv3 hx (w':=w8++[]) hO (by decide) (fun _=>rfl) (by kernel_rfl) (by kernel_rfl) ?_ ?_ ?_ ?_ ?_
 ·rintro E i6 y4 _ w F5 H hE hO;clear hx h;cbv;refine E6 hE hO fun b12 H hO=>?_;cbv;refine A7 hE hO 0 rfl rfl fun H hO=>?_;cbv;refine E6 hE hO fun b13 H hO=>?_;cbv;refine A7 hE hO 0 rfl rfl fun H hO=>?_;cbv;exact⟨⟨b13,b12⟩,hO,.e4 .z,rfl⟩
 ·rintro E i6 ⟨b13,b12⟩ y4 _ w9 w10 F5 H o hE hF h hO;clear hx;cbv;obtain⟨w15,w16,s14,hx,h1,he⟩:=Q9 h;clear h;have h:=h1;clear h1
  rw[he,E7]at hO
  clear he;refine P0 cf277 hE K3 (fun e l H1=>(e= .normal∧l=[(1,.v (.eref (G4 aF) 0)),(2,.v (.eref [yv] 0)),(3,.v (.ref b12 0)),(4,.v (.ref b13 0)),fi 5 s14.1]∧B6 (I (List.map (fun(x:(D6×A5))=>[(J8 x.1),(B7 x.2)]) (w16++w10)++tl)) F5 [cb b13 (L6 y4.2),cb b12 (BO s14.2)] H1)∨(False)) (by kernel_rfl) ?_ ?_
  ·clear h;have h:=hx;clear hx;cbv;refine B0 hE h (fun _ h=>?_) fun _ h=>?_
   ·cbv;refine B1 hE hO 0 rfl ?_;cbv;refine B0 hE h (fun _ h=>?_) fun _ h=>?_
    ·cbv;refine B1 hE hO 1 rfl ?_;cbv;refine A8 hE h (c278 N ([y4.1.dG,[aF.cY]])) (.cons (.sl _ (.lstc (.eq (eAE2 y4.1.dG) (.refl _)) (.lstc (.eq (eAE2 ([aF.cY])) (.lit _ (D4 ((eAB9 aF.cY).symm) (B4)))) (.lst0)))) (.refl _)) fun r17 h=>?_;cbv;refine A7 hE hO 1 rfl rfl fun H hO=>?_;cbv;obtain⟨hw,rfl⟩:=E8 h
     rw[←hw]at hO
     exact⟨_,.inl ⟨rfl,rfl,hO⟩,.e rfl (.e4 .z),rfl⟩
    cbv;obtain⟨hw,rfl⟩:=E8 h
    rw[←hw]at hO
    exact⟨_,.inl ⟨rfl,rfl,hO⟩,.e rfl (.e4 .z),rfl⟩
   cbv;obtain⟨w19,w20,s18,hx,h1,he⟩:=Q9 h;clear h;have h:=h1;clear h1
   rw[he,E7]at hO
   clear he;refine P0 cf277 hE K3 (fun e l H1=>(e= .normal∧l=[(1,.v (.eref (G4 aF) 0)),(2,.v (.eref [yv] 0)),(3,.v (.ref b12 0)),(4,.v (.ref b13 0)),(37,.v (.bool s18))]∧B6 (I (List.map (fun(x:(D6×A5))=>[(J8 x.1),(B7 x.2)]) (w20++(w16++w10))++tl)) F5 [cb b13 (L6 y4.2),cb b12 (BO y4.1)] H1)∨(False)) (by kernel_rfl) ?_ ?_
   ·clear h;have h:=hx;clear hx;cbv;refine B0 hE h (fun _ h=>?_) fun _ h=>?_
    ·cbv;obtain⟨hw,rfl⟩:=E8 h
     rw[←hw]at hO
     exact⟨_,.inl ⟨rfl,rfl,hO⟩,.e rfl (.e4 .z),rfl⟩
    cbv;obtain⟨hw,rfl⟩:=E8 h
    rw[←hw]at hO
    exact⟨_,.inl ⟨rfl,rfl,hO⟩,.e rfl (.e4 .z),rfl⟩
   clear hx;rintro e l H hX
   rcases hX with hX|hX
   ·obtain⟨rfl,rfl,hO⟩:=hX;cbv;refine B0 hE h (fun _ h=>?_) fun _ h=>?_
    ·cbv;refine B1 hE hO 1 rfl ?_;cbv;refine B1 hE hO 0 rfl ?_;cbv;refine A8 hE h (c279 N aF y4.1 y4.2.done (Ar.cmp .eql aF.Op 5)) (.refl _) fun r21 h=>?_;cbv;refine A7 hE hO 1 rfl rfl fun H hO=>?_;cbv;obtain⟨hw,rfl⟩:=E8 h
     rw[←hw]at hO
     exact⟨_,.inl ⟨rfl,rfl,hO⟩,.e rfl (.e4 .z),rfl⟩
    cbv;refine B1 hE hO 1 rfl ?_;cbv;refine B1 hE hO 0 rfl ?_;cbv;refine A8 hE h (c279 N aF y4.1 y4.2.done (Ar.cmp .eql aF.Op 6)) (.refl _) fun r22 h=>?_;cbv;refine A7 hE hO 1 rfl rfl fun H hO=>?_;cbv;obtain⟨hw,rfl⟩:=E8 h
    rw[←hw]at hO
    exact⟨_,.inl ⟨rfl,rfl,hO⟩,.e rfl (.e4 .z),rfl⟩
   exact hX.elim
  clear hx;rintro e l H hX
  rcases hX with hX|hX
  ·obtain⟨rfl,rfl,hO⟩:=hX;cbv;refine B1 hE hO 0 rfl ?_;cbv;obtain⟨w24,w25,s23,hx,h1,he⟩:=Q9 h;clear h;have h:=h1;clear h1
   rw[he,E7]at hO
   clear he;refine P0 cf277 hE K3 (fun e l H1=>(e= .normal∧l=[(2,.v (.eref [yv] 0)),(3,.v (.ref b12 0)),(4,.v (.ref b13 0))]∧B6 (I (List.map (fun(x:(D6×A5))=>[(J8 x.1),(B7 x.2)]) (w25++w10)++tl)) F5 [cb b13 (L6 s23),cb b12 (BO s14.2)] H1)∨(False)) (by kernel_rfl) ?_ ?_
   ·clear h;have h:=hx;clear hx;cbv;refine B0 hE h (fun _ h=>?_) fun _ h=>?_
    ·cbv;refine B1 hE hO 0 rfl ?_;cbv;refine A8 hE h (c280 N aF s14.1 y4.2.p) (.refl _) fun r26 h=>?_;cbv;refine A7 hE hO 0 rfl rfl fun H hO=>?_;cbv;obtain⟨hw,rfl⟩:=E8 h
     rw[←hw]at hO
     exact⟨_,.inl ⟨rfl,rfl,hO⟩,.e rfl (.e2 .z),rfl⟩
    cbv;obtain⟨hw,rfl⟩:=E8 h
    rw[←hw]at hO
    exact⟨_,.inl ⟨rfl,rfl,hO⟩,.e rfl (.e2 .z),rfl⟩
   clear hx;rintro e l H hX
   rcases hX with hX|hX
   ·obtain⟨rfl,rfl,hO⟩:=hX;cbv;refine B1 hE hO 1 rfl ?_;cbv;refine B1 hE hO 0 rfl ?_;cbv;obtain⟨w27,h1,he⟩:=X2 h;clear h;have h:=h1;clear h1
    rw[he,E7]at hO
    clear he;have hO:B6 (I ([(J8 s14.2),(B7 s23)]::(List.map (fun(x:(D6×A5))=>[(J8 x.1),(B7 x.2)]) (w27++w10)++tl))) F5 [cb b13 (L6 s23),cb b12 (BO s14.2)] _:=hO;refine De hE hI hD hy hO (.refl _) (fun H hO=>?_) (fun H hO=>?_)
    ·cbv;refine JZ hE (nt_eq _) ?_;cbv;obtain⟨hw,rfl⟩:=E8 h
     rw[←hw]at hO
     exact⟨_,rfl,hO.tail.tail⟩
    clear h;cbv;refine JY hE (nt_eq _) ?_;cbv
    first|exact .inr ⟨rfl,rfl,hO.tail.tail⟩|exact .inr (hO.tail.tail)
   exact hX.elim
  exact hX.elim
 ·rintro d28 _ H rfl hd hO;have hO:B6 (I (List.map (fun(x:(D6×A5))=>[(J8 x.1),(B7 x.2)]) (w8++[])++tl)) F [.blk d28 DB] H:=B6.dblk hd hO;clear hd hx;cbv;refine Ec hE hO 0 rfl fun H hO=>?_;cbv;obtain⟨hw,_⟩:=E8 h
  rw[←hw]at hO
  exact hK _ _ _ hO trivial
 ·rintro _ _ _ _ _ _ h;exact h.elim
 rintro d28 e H hd ⟨rfl,hO⟩;have hO:B6 D F [.blk d28 DB] H:=B6.dblk hd hO;clear hd hx h;cbv;refine Ec hE hO 0 rfl fun H hO=>?_;cbv;exact hKD _ _ _ hO trivial
theorem FJ (N:Nat):∀n,Af2 N n∧Aw0 N n∧Av9 N n∧Av8 N n∧Av7 N n∧Av6 N n∧Av5 N n:=by
 intro n
 induction n with
 |zero=>exact⟨(by intro aB r h;unfold R6 at h;cases h),(by intro aB r h;unfold AP at h;cases h),(by intro bS bT r h;unfold Y2 at h;cases h),(by intro aB r h;unfold CI at h;cases h),(by intro aF r h;unfold Ak at h;cases h),(by intro aF aN r h;unfold Aj at h;cases h),(by intro aF r h;unfold Bz at h;cases h)⟩
 |succ n ih=>
  obtain⟨ih210,ih245,ih246,ih247,ih273,ih276,ih277⟩:=ih;exact⟨k210 N n ih245 ih246 ih247,k245 N n ih273,k246 N n ih276,k247 N n ih277,k273 N n ih210,k276 N n ih210,k277 N n ih210⟩
theorem c210 (N n aB r)(h:R6 N n aB=some r):Ew prog 210 [(D7 aB)] (fun v=>Ga prog v (r.map fun(x:(D6×A5))=>[(J8 x.1),(B7 x.2)])):=(FJ N n).1 aB r h
theorem c248 (N:Nat) (aA:List D6) (aU:V) (aM:D6→Option Bool) (aZ:∀y1 q,aM y1=some q→U2 prog aU [(J8 y1)] (.bool q)) (r:Int) (h:Y5 N aA aM=some r):C5 prog 248 [sr eAA7 aA,aU] (vi r):=by
 unfold Y5 at h
 refine P3 cf0 func248 call248 ntmps248 ?_;intro E H0 K hE hK hO;cbv;refine F3 hE ?_;cbv;obtain⟨s2,hx,h⟩:=bind_some h;refine J5 cf0 hE K3 (fun s1=>[(0,.v (sr eAA7 aA)),(1,.v (aU)),fi 7 (Ar.len aA),fi 8 s1]) (fun s1 H1=>B6 Eq H0 [] H1) (fun x e l H1=>match(generalizing:=false) x with| .inl y=>e= .exit 0∧l=[]∧B6 Eq H0 [] H1| .inr y=>e= .ret∧l=[fi 4 y]∧B6 Eq H0 [] H1) (by kernel_rfl) ?_ hx ?_ hO ?_
 ·intro s1 H o hO h;clear hx;cbv;refine B0 hE h (fun _ h=>?_) fun _ h=>?_
  ·cbv;refine D3 hE eAC7 h fun x3 h=>?_;cbv;refine CF hE (g:=fun r4=>.bool r4) h (fun r4 hx=>aZ x3 r4 hx) (.refl _) fun r4 h=>?_;cbv;refine B0 hE h (fun _ h=>?_) fun _ h=>?_
   ·cbv;cases h;exact⟨_,_,rfl,⟨rfl,rfl,hO⟩,.e rfl .z,rfl⟩
   cbv;cases h;exact⟨_,rfl,.e4 .z,rfl,hO⟩
  cbv;cases h;exact⟨_,_,rfl,⟨rfl,rfl,hO⟩,.z,rfl⟩
 ·exact .e4 .z
 clear hx
 rcases s2 with y5|y6
 ·rintro e l H ⟨rfl,rfl,hO⟩;cbv;cases h;exact hK hO (.refl _)
 rintro e l H ⟨rfl,rfl,hO⟩;cbv;cases h;exact hK hO (.refl _)
theorem c211 (N:Nat)(aA:List D6)(aU:V)(aM:D6→Option Bool)(aZ:∀y1 q,aM y1=some q→U2 prog aU [(J8 y1)] (.bool q))(r:Bool)(h:V6 N aA aM=some r):C5 prog 211 [sr eAA7 aA,aU] (.bool r):=by
 unfold V6 at h
 refine P3 cf0 func211 call211 ntmps211 ?_;intro E H0 K hE hK hO;cbv;refine A8 hE h (c248 N aA aU aM aZ) (.refl _) fun r1 h=>?_;cbv;cases h;exact hK hO (.refl _)
def cf250 :Cf:=⟨[],[(6,8)],[],[],[],[]⟩
theorem c250 (N aT aX r) (h:U4 N aT aX=some r):C5 prog 250 [sr (V.int .i64) aT,sr (V.int .i64) aX] (.bool r):=by
 unfold U4 at h
 refine P3 cf250 func250 call250 ntmps250 ?_;intro E H0 K hE hK hO;cbv;refine F3 hE ?_;cbv;refine F3 hE ?_;cbv;refine B0 hE h (fun _ h=>?_) fun _ h=>?_
 ·cbv;cases h;exact hK hO (.refl _)
 cbv;refine F3 hE ?_;cbv;obtain⟨s2,hx,h⟩:=bind_some h;refine J5 cf250 hE K3 (fun s1=>[(0,.v (sr (V.int .i64) aT)),(1,.v (sr (V.int .i64) aX)),fi 12 (Ar.len aT),fi 13 s1]) (fun s1 H1=>B6 Eq H0 [] H1) (fun x e l H1=>match(generalizing:=false) x with| .inl y=>e= .exit 0∧l=[]∧B6 Eq H0 [] H1| .inr y=>e= .ret∧l=[(4,.b false)]∧B6 Eq H0 [] H1) (by kernel_rfl) ?_ hx ?_ hO ?_
 ·intro s1 H o hO h;clear hx;cbv;refine B0 hE h (fun _ h=>?_) fun _ h=>?_
  ·cbv;refine D3 hE (fun _=>rfl) h fun x3 h=>?_;cbv;refine D3 hE (fun _=>rfl) h fun x4 h=>?_;cbv;refine B0 hE h (fun _ h=>?_) fun _ h=>?_
   ·cbv;cases h;exact⟨_,_,rfl,⟨rfl,rfl,hO⟩,.b rfl (.z),rfl⟩
   cbv;cases h;exact⟨_,rfl,.e4 .z,rfl,hO⟩
  cbv;cases h;exact⟨_,_,rfl,⟨rfl,rfl,hO⟩,.z,rfl⟩
 ·exact .e4 .z
 clear hx
 rcases s2 with y5|y6
 ·rintro e l H ⟨rfl,rfl,hO⟩;cbv;cases h;exact hK hO (.refl _)
 rintro e l H ⟨rfl,rfl,hO⟩;cbv;cases h;exact hK hO (.refl _)
def cf251 :Cf:=⟨[8],[],[],[],[],[]⟩
theorem c251 (N:Nat) (aT:List L7) (aX:List L7) (bW:V) (bO:L7→L7→Option Bool) (cM:∀y1 y2 q,bO y1 y2=some q→U2 prog bW [(CL y1),(CL y2)] (.bool q)) (r:Bool) (h:O9 N aT aX bO=some r):C5 prog 251 [sr eAB0 aT,sr eAB0 aX,bW] (.bool r):=by
 unfold O9 at h
 refine P3 cf251 func251 call251 ntmps251 ?_;intro E H0 K hE hK hO;cbv;refine F3 hE ?_;cbv;refine F3 hE ?_;cbv;refine B0 hE h (fun _ h=>?_) fun _ h=>?_
 ·cbv;cases h;exact hK hO (.refl _)
 cbv;refine F3 hE ?_;cbv;obtain⟨s2,hx,h⟩:=bind_some h;refine J5 cf251 hE K3 (fun s1=>[(1,.v (sr eAB0 aX)),(2,.v (bW)),(15,.v (sr eAB0 aT)),fi 16 (Ar.len aT),fi 17 s1]) (fun s1 H1=>B6 Eq H0 [] H1) (fun x e l H1=>match(generalizing:=false) x with| .inl y=>e= .exit 0∧l=[]∧B6 Eq H0 [] H1| .inr y=>e= .ret∧l=[(6,.b false)]∧B6 Eq H0 [] H1) (by kernel_rfl) ?_ hx ?_ hO ?_
 ·intro s1 H o hO h;clear hx;cbv;refine B0 hE h (fun _ h=>?_) fun _ h=>?_
  ·cbv;refine D3 hE eAB9 h fun x3 h=>?_;cbv;refine E6 hE hO fun b4 H hO=>?_;cbv;refine A7 hE hO 0 rfl rfl fun H hO=>?_;cbv;refine D3 hE eAB9 h fun x5 h=>?_;cbv;refine B1 hE hO 0 rfl ?_;cbv;refine CF hE (g:=fun r6=>.bool r6) h (fun r6 hx=>cM x3 x5 r6 hx) (.refl _) fun r6 h=>?_;cbv;refine B0 hE h (fun _ h=>?_) fun _ h=>?_
   ·cbv;cases h;exact⟨_,_,rfl,⟨rfl,rfl,hO.tail⟩,.b rfl (.z),rfl⟩
   cbv;cases h;exact⟨_,rfl,.e rfl (.e4 .z),rfl,hO.tail⟩
  cbv;cases h;exact⟨_,_,rfl,⟨rfl,rfl,hO⟩,.z,rfl⟩
 ·exact .e rfl (.e4 .z)
 clear hx
 rcases s2 with y7|y8
 ·rintro e l H ⟨rfl,rfl,hO⟩;cbv;cases h;exact hK hO (.refl _)
 rintro e l H ⟨rfl,rfl,hO⟩;cbv;cases h;exact hK hO (.refl _)
def cf252 :Cf:=⟨[],[(6,8)],[],[],[],[]⟩
theorem c252 (N aT aX r) (h:An N aT aX=some r):C5 prog 252 [sr eAB6 aT,sr eAB6 aX] (.bool r):=by
 unfold An at h
 refine P3 cf252 func252 call252 ntmps252 ?_;intro E H0 K hE hK hO;cbv;refine F3 hE ?_;cbv;refine F3 hE ?_;cbv;refine B0 hE h (fun _ h=>?_) fun _ h=>?_
 ·cbv;cases h;exact hK hO (.refl _)
 cbv;refine F3 hE ?_;cbv;obtain⟨s2,hx,h⟩:=bind_some h;refine J5 cf252 hE K3 (fun s1=>[(0,.v (sr eAB6 aT)),(1,.v (sr eAB6 aX)),fi 12 (Ar.len aT),fi 13 s1]) (fun s1 H1=>B6 Eq H0 [] H1) (fun x e l H1=>match(generalizing:=false) x with| .inl y=>e= .exit 0∧l=[]∧B6 Eq H0 [] H1| .inr y=>e= .ret∧l=[(4,.b false)]∧B6 Eq H0 [] H1) (by kernel_rfl) ?_ hx ?_ hO ?_
 ·intro s1 H o hO h;clear hx;cbv;refine B0 hE h (fun _ h=>?_) fun _ h=>?_
  ·cbv;refine D3 hE eAE0 h fun x3 h=>?_;cbv;refine D3 hE eAE0 h fun x4 h=>?_;cbv;refine B0 hE h (fun _ h=>?_) fun _ h=>?_
   ·cbv;cases h;exact⟨_,_,rfl,⟨rfl,rfl,hO⟩,.b rfl (.z),rfl⟩
   cbv;cases h;exact⟨_,rfl,.e4 .z,rfl,hO⟩
  cbv;cases h;exact⟨_,_,rfl,⟨rfl,rfl,hO⟩,.z,rfl⟩
 ·exact .e4 .z
 clear hx
 rcases s2 with y5|y6
 ·rintro e l H ⟨rfl,rfl,hO⟩;cbv;cases h;exact hK hO (.refl _)
 rintro e l H ⟨rfl,rfl,hO⟩;cbv;cases h;exact hK hO (.refl _)
theorem c213 (N aC aD r) (h:CR N aC aD=some r):C5 prog 213 [(J8 aC),(J8 aD)] (.bool r):=by
 unfold CR at h
 refine P3 cf0 func213 call213 ntmps213 ?_;intro E H0 K hE hK hO;cbv;refine B0 hE h (fun _ h=>?_) fun _ h=>?_
 ·cbv;refine A8 hE h (c249 N N aC.cY aD.cY) (.refl _) fun r1 h=>?_;cbv;refine B0 hE h (fun _ h=>?_) fun _ h=>?_
  ·cbv;refine A8 hE h (c250 N aC.dI aD.dI) (.refl _) fun r2 h=>?_;cbv;refine B0 hE h (fun _ h=>?_) fun _ h=>?_
   ·cbv;refine A8 hE h (c250 N aC.dJ aD.dJ) (.refl _) fun r3 h=>?_;cbv;refine B0 hE h (fun _ h=>?_) fun _ h=>?_
    ·cbv;refine A8 hE (g:=fun r4=>.bool r4) h (fun r4 hx=>c251 N aC.dG aD.dG (.func (.func 249) [] []) (fun y1 y2=>DQ N N y1 y2) (fun y1 y2 r hx=>C5.value (F:=[]) (C:=[]) (c249 N N y1 y2 r hx)) r4 hx) (.refl _) fun r4 h=>?_;cbv;refine B0 hE h (fun _ h=>?_) fun _ h=>?_
     ·cbv;refine A8 hE h (c252 N aC.dH aD.dH) (.refl _) fun r5 h=>?_;cbv;refine B0 hE h (fun _ h=>?_) fun _ h=>?_
      ·cbv;refine A8 hE h (c250 N aC.dK aD.dK) (.refl _) fun r6 h=>?_;cbv;cases h;exact hK hO (.refl _)
      cbv;cases h;exact hK hO (.refl _)
     cbv;cases h;exact hK hO (.refl _)
    cbv;cases h;exact hK hO (.refl _)
   cbv;cases h;exact hK hO (.refl _)
  cbv;cases h;exact hK hO (.refl _)
 cbv;cases h;exact hK hO (.refl _)
theorem c212 (N aP aF r)(h:Az N aP aF=some r):C5 prog 212 [(J8 aP),.eref (BO aF) 0] (.bool r):=by
 unfold Az at h
 refine P3 cf0 func212 call212 ntmps212 ?_;intro E H0 K hE hK hO;cbv;refine B0 hE h (fun _ h=>?_) fun _ h=>?_
 ·cbv;refine A8 hE h (c213 N aF aP) (.refl _) fun r1 h=>?_;cbv;cases h;exact hK hO (.refl _)
 cbv;cases h;exact hK hO (.refl _)
def cfo170 :Cf:=⟨[2,3,4,5,6,7,5000002,5000005],[(13,5),(3000018,0),(3000018,1)],[(16,9)],[1000013,2000018],[(40,7)],[]⟩
set_option maxHeartbeats 2000000 in
theorem o170 (N aB r) (h:Ay N aB=some r):Af8 prog 170 [(D7 aB)] 17 (lst eAA7 r.1) (fun o=>.tup [o,sr eAA6 r.2.1,vi r.2.2]):=by
 unfold Ay at h
 intro H0;refine Qh (T:=TT) (F:=H0) (mk:=fun o=>.tup [o,sr eAA6 r.2.1,vi r.2.2]) (HJ.tup [.bad,sr eAA6 r.2.1,vi r.2.2] 0 (by simp)) cfo170 K3 func170 (by rfl) (by kernel_rfl) call170 ntmps170 (by rfl) (by rfl) ?_;intro E K hE hK hN;have hO:B6 Eq H0 [] H0:=.start C4 rfl;cbv;refine Uf hE (f0:=eAA7) hO fun q2 b1 H hq2 hO=>?_;cbv;refine E6 hE hO fun b3 H hO=>?_;cbv;refine E6 hE hO fun b4 H hO=>?_;cbv;refine Uf hE (f0:=eAA7) hO fun q6 b5 H hq6 hO=>?_;cbv;refine E6 hE hO fun b7 H hO=>?_;cbv;refine T4 hE h (c210 N N aB) (.refl _) fun r8 v9 hv9 h=>?_;cbv;replace hO:=hO.tl0 (t:=.nil) rfl;obtain⟨o16,hx,h⟩:=bind_some h;replace hO:=hO.cast (L':=[.tl .nil,cb b7 [.sl (lst eAA6 ([])) .nil],cb b5 [.own q6.id q6.lo q6.n],ob q6 17 eAA7 ([]),cb b4 [vi 0],cb b3 [.sl [] .nil],cb b1 [.own q2.id q2.lo q2.n],ob q2 17 eAA7 ([])]) (by simp only[ob,cb,sr,←B4]<;>rfl);refine BT cfo170 hE K3 (ι:=Nat) (enc:=fun(x:(D6×A5))=>[(J8 x.1),(B7 x.2)]) (fun(s11:(List A9)×(List D6)) F H=>∃g:E5×OG,(K1 g.1∧Al g.2 (Ar.len s11.2))∧B6 Eq F [.tl g.1,cb b7 [.sl (lst eAA6 s11.1) g.1],cb b5 [.own g.2.id g.2.lo g.2.n],.blk g.2.id (.arr 17 (g.2.pre++lst eAA7 s11.2++g.2.rest)),cb b4 [vi 0],cb b3 [.sl [] .nil],cb b1 [.own q2.id q2.lo q2.n],ob q2 17 eAA7 ([])] H) (fun(r:((List A9)×(List D6)×Int×(List D6))) e F H=>∃g:E5×OG,(e= .ret∧K1 g.1∧Al g.2 (Ar.len r.2.1))∧B6 Eq F [.tl g.1,cb b7 [.sl (lst eAA6 r.1) g.1],cb b5 [.own g.2.id g.2.lo g.2.n],.blk g.2.id (.arr 17 (g.2.pre++lst eAA7 r.2.1++g.2.rest)),cb b4 [vi r.2.2.1],cb b3 [.sl [] .nil],cb b1 [.sl [] .nil],ob q2 17 eAA7 ([])] H) (fun i s11 y10=>[(2,.v (.ref b1 0)),(3,.v (.ref b3 0)),(4,.v (.ref b4 0)),(5,.v (.ref b5 0)),(6,.v (.ref b7 0)),(7,.v (.ref i 0)),(8,.v (.eref (L6 y10.2) 0))]) (fun i s11 y10 F H=>∃g:E5×OG,(K1 g.1∧Al g.2 (Ar.len s11.2))∧B6 Eq F [cb i (BO y10.1),.tl g.1,cb b7 [.sl (lst eAA6 s11.1) g.1],cb b5 [.own g.2.id g.2.lo g.2.n],.blk g.2.id (.arr 17 (g.2.pre++lst eAA7 s11.2++g.2.rest)),cb b4 [vi 0],cb b3 [.sl [] .nil],cb b1 [.own q2.id q2.lo q2.n],ob q2 17 eAA7 ([])] H) (fun _=>D2.ex fun _=>B6.stable C4 _) (fun _ _=>D2.ex fun _=>B6.stable C4 _) (fun _ _ _=>D2.ex fun _=>B6.stable C4 _) hv9 hx (⟨⟨.nil,q6⟩,⟨trivial,hq6⟩,hO⟩) (by decide) (fun _=>rfl) (by kernel_rfl) (by kernel_rfl) ?_ ?_ ?_ ?_
 ·rintro E i13 y10 s11 F12 H hE ⟨⟨t14,q15⟩,⟨ht14,hq15⟩,hO⟩;clear hx h;cbv;refine E6 hE hO fun b17 H hO=>?_;cbv;refine A7 hE hO 0 rfl rfl fun H hO=>?_;cbv;exact⟨b17,⟨⟨t14,q15⟩,⟨ht14,hq15⟩,hO⟩,.e rfl (.e2 (.e4 .z)),rfl⟩
 ·rintro E i13 b17 y10 s11 F12 H o hE hF h ⟨⟨t14,q15⟩,⟨ht14,hq15⟩,hO⟩;clear hx;cbv;refine A7 hE hO 0 rfl rfl fun H hO=>?_;cbv;obtain⟨s18,hx,h⟩:=bind_some h;refine P0 cfo170 hE K3 (fun e l H1=>match(generalizing:=false) s18 with| .inl y=>∃u1:E5,K1 u1∧e= .normal∧l=[(2,.v (.ref b1 0)),(3,.v (.ref b3 0)),(4,.v (.ref b4 0)),(5,.v (.ref b5 0)),(7,.v (.ref b17 0))]∧B6 Eq F12 [cb b17 (BO y.1),.tl u1,cb b7 [.sl (lst eAA6 y.2) u1],cb b5 [.own q15.id q15.lo q15.n],ob q15 17 eAA7 s11.2,cb b4 [vi 0],cb b3 [.sl [] .nil],cb b1 [.own q2.id q2.lo q2.n],ob q2 17 eAA7 ([])] H1| .inr y=>e= .ret∧l=[(2,.v (.ref b1 0)),(3,.v (.ref b3 0)),(4,.v (.ref b4 0))]∧B6 Eq F12 [cb b17 (BO y.1),.tl t14,cb b7 [.sl (lst eAA6 s11.1) t14],cb b5 [.own q15.id q15.lo q15.n],ob q15 17 eAA7 s11.2,cb b4 [vi y.2.1],cb b3 [.sl [] .nil],cb b1 [.sl [] .nil],ob q2 17 eAA7 ([])] H1) (by kernel_rfl) ?_ ?_
  ·clear h;have h:=hx;clear hx;cbv;refine B0 hE h (fun _ h=>?_) fun _ h=>?_
   ·cbv;refine B1 hE hO 2 rfl ?_;cbv;refine A8 hE h (c171 N s11.1 y10.2.p) (.cons (.ro _ _) (.refl _)) fun r19 h=>?_;cbv;refine A7 hE hO 0 rfl rfl fun H hO=>?_;cbv;refine B1 hE hO 0 rfl ?_;cbv;refine B0 hE h (fun _ h=>?_) fun _ h=>?_
    ·cbv;refine A8 hE h (c176 N y10.2.p) (.refl _) fun r20 h=>?_;cbv;refine B0 hE h (fun _ h=>?_) fun _ h=>?_
     ·cbv;refine A7 hE hO 7 rfl rfl fun H hO=>?_;cbv;refine A7 hE hO 6 rfl rfl fun H hO=>?_;cbv;refine A7 hE hO 5 rfl rfl fun H hO=>?_;cbv;cases h;exact⟨_,⟨rfl,rfl,hO⟩,.e rfl (.e2 .z),rfl⟩
     cbv;refine B1 hE hO 2 rfl ?_;cbv;refine F3 hE ?_;cbv;refine A7 hE hO 0 rfl rfl fun H hO=>?_;cbv;refine B1 hE hO 2 rfl ?_;cbv;refine F3 hE ?_;cbv;refine HD hE (by first|exact Xd _|exact Ab7 _|trivial|rfl) ?_;cbv;refine T5 (f:=eAA6) hE Bj (by decide) hO 1 rfl ht14 (l:=s11.1) (m:=[y10.2.p]) (.refl _) (.lstc (.eq (eAB3 y10.2.p) (.refl _)) (.lst0)) h fun l22 t21 H hO ht21 h=>?_;cbv;refine Aa0 hE hO 2 rfl rfl fun H hO=>?_;cbv;cases h;exact⟨_,⟨t21,ht21,rfl,rfl,hO⟩,.e rfl (.e4 .z),rfl⟩
    cbv;cases h;exact⟨_,⟨t14,ht14,rfl,rfl,hO⟩,.e rfl (.e4 .z),rfl⟩
   cbv;cases h;exact⟨_,⟨t14,ht14,rfl,rfl,hO⟩,.e rfl (.e4 .z),rfl⟩
  clear hx
  rcases s18 with y23|y28
  ·rintro e l H ⟨t24,ht24,rfl,rfl,hO⟩;cbv;refine B1 hE hO 3 rfl ?_;cbv;refine Aa7 hE hO 0 rfl fun H hO=>?_;cbv;refine Al5 hE (g:=fun r25=>.bool r25) h (fun r25 hx=>c211 N s11.2 (.func (.func 212) [] [.eref (BO y23.1) 0]) (fun y1=>Az N y1 y23.1) (fun y1 r hx=>C5.value (F:=[]) (C:=[.eref (BO y23.1) 0]) (c212 N y1 y23.1 r hx)) r25 hx) (fun _=>.bool _) (Ab6 hE hO hq15 3 rfl (.le (.refl _) (.nil))) fun r25 h=>?_;cbv;refine B0 hE h (fun _ h=>?_) fun _ h=>?_
   ·cbv;cases h;exact⟨_,rfl,⟨⟨t24,q15⟩,⟨ht24,hq15⟩,hO⟩⟩
   cbv;refine B1 hE hO 2 rfl ?_;cbv;refine FI (f:=eAA7) hE OU (by decide) hO hq15 3 rfl (m:=[y23.1]) (CN (f:=eAA7) hE OU (.lstc (.eq (eAC7 y23.1) (.refl _)) (.lst0))) h fun l27 q26 H hq26 hO h=>?_;cbv;refine A7 hE hO 2 rfl rfl fun H hO=>?_;cbv;refine B1 hE hO 2 rfl ?_;cbv;refine JU hE hq26 ?_;cbv;refine B0 hE h (fun _ h=>?_) fun _ h=>?_
   ·cbv;refine A7 hE hO 6 rfl rfl fun H hO=>?_;cbv;refine A7 hE hO 5 rfl rfl fun H hO=>?_;cbv;refine A7 hE hO 4 rfl rfl fun H hO=>?_;cbv;cases h;exact⟨_,rfl,rfl,⟨⟨t24,q26⟩,⟨rfl,⟨ht24,hq26⟩⟩,hO⟩⟩
   cbv;cases h;exact⟨_,rfl,⟨⟨t24,q26⟩,⟨ht24,hq26⟩,hO⟩⟩
  rintro e l H ⟨rfl,rfl,hO⟩;cbv;cases h;exact⟨_,rfl,rfl,⟨⟨t14,q15⟩,⟨rfl,⟨ht14,hq15⟩⟩,hO.tail⟩⟩
 ·rintro d29 s33 H rfl hd ⟨⟨t34,q35⟩,⟨ht34,hq35⟩,hO⟩;have hO:B6 Eq H0 [.tl t34,cb b7 [.sl (lst eAA6 s33.1) t34],cb b5 [.own q35.id q35.lo q35.n],ob q35 17 eAA7 s33.2,cb b4 [vi 0],cb b3 [.sl [] .nil],cb b1 [.own q2.id q2.lo q2.n],ob q2 17 eAA7 ([]),.blk d29 DB] H:=B6.dblk hd hO;clear hd;clear hx;cbv;replace hO:=hO.cast (L':=[.tl t34,cb b7 [.sl (lst eAA6 s33.1) t34],cb b5 [.own q35.id q35.lo q35.n],ob q35 17 eAA7 s33.2,cb b4 [vi 0],cb b3 [.sl (lst eAA6 ([])) .nil],cb b1 [.own q2.id q2.lo q2.n],ob q2 17 eAA7 ([]),.blk d29 DB]) (by simp only[ob,cb,sr,←B4]<;>rfl);replace hO:=hO.tl0 (t:=.nil) rfl;obtain⟨s36,hx,h⟩:=bind_some h;refine P0 cfo170 hE K3 (fun e l H1=>e= .normal∧l=[(2,.v (.ref b1 0)),(3,.v (.ref b3 0)),(4,.v (.ref b4 0))]∧B6 Eq H0 [.tl .nil,.tl t34,cb b7 [.sl (lst eAA6 s33.1) t34],cb b5 [.own q35.id q35.lo q35.n],ob q35 17 eAA7 s33.2,cb b4 [vi 0],cb b3 [.sl (lst eAA6 s36) t34],cb b1 [.own q35.id q35.lo q35.n],ob q2 17 eAA7 ([]),.blk d29 DB] H1) (by kernel_rfl) ?_ ?_
  ·clear h;have h:=hx;clear hx;cbv
   repeat' first|refine And.intro ?_ ?_|(refine B1 hE hO 3 rfl ?_;cbv)|(refine B1 hE hO 2 rfl ?_;cbv)|(refine A7 hE hO 7 rfl rfl fun H hO=>?_;cbv)|(refine A7 hE hO 6 rfl rfl fun H hO=>?_;cbv)|(refine A7 hE hO 5 rfl rfl fun H hO=>?_;cbv)|(have h:=K8 h;subst h;exact⟨_,⟨rfl,rfl,hO⟩,.e rfl (.e2 .z),rfl⟩)
  clear hx;rintro e l H ⟨rfl,rfl,hO⟩;cbv;refine Ec hE hO 9 rfl fun H hO=>?_;cbv;refine B1 hE hO 7 rfl ?_;cbv;refine B1 hE hO 6 rfl ?_;cbv;refine B1 hE hO 5 rfl ?_;cbv;cases h;exact hK q35 _ 4 _ _ (Ah hE hq35) rfl hO (.tup (.cons (.refl _) (.cons (.ro _ _) (.refl _))))
 rintro d29 y277 e H rfl hd hX;clear hx
 rcases hX with⟨⟨t278,q279⟩,⟨rfl,ht278,hq279⟩,hO⟩
 have hO:B6 Eq H0 [.tl t278,cb b7 [.sl (lst eAA6 y277.1) t278],cb b5 [.own q279.id q279.lo q279.n],ob q279 17 eAA7 y277.2.1,cb b4 [vi y277.2.2.1],cb b3 [.sl [] .nil],cb b1 [.sl [] .nil],ob q2 17 eAA7 ([]),.blk d29 DB] H:=B6.dblk hd hO;clear hd;cbv;refine Ec hE hO 8 rfl fun H hO=>?_;cbv;refine B1 hE hO 6 rfl ?_;cbv;refine B1 hE hO 5 rfl ?_;cbv;refine B1 hE hO 4 rfl ?_;cbv;cases h;exact hN (by rw[Ar.lst_eq];rfl) _ _ _ hO (.tup (.cons (.refl _) (.cons (.lit _ (B4)) (.refl _))))
end Go.Ab
