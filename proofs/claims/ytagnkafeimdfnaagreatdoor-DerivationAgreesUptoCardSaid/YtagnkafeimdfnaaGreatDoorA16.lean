/- . -/
import Derived.Test.YtagnkafeimdfnaaGreatDoorA15
import Derived.Deep.Slices
import Derived.Carry
set_option linter.all false
namespace Go.Ab
open Go.RowKit Go.Proofs Go.Proofs.Tryz P4
variable [Ar][P4]
set_option maxRecDepth 100000
def cf122:Cf:=⟨[6000003],[(3000006,0),(3000006,3),(3000006,4),(3000006,8)],[],[2000006],[],[]⟩
set_option maxHeartbeats 2000000 in
def c122 (N j r) (h:AI N j=some r):B8 prog 122 [sr eBE1 j] (.str r):=by
 refine R4 cf122 func122 call122 ntmps122 ?_;intro E D K Y J Q;cbv;refine Sx Y (f:=(V.int .u8)) Q λS H A Q=>?_;cbv;apply K2 Y;cbv;obtain⟨s4,X,h⟩:=bind_some h;refine S6 cf122 Y N0 (γ:=OG) (λd g=>[(3,.v (.own g.id g.lo g.n)),(6,.v (sr eBE1 j)),fi 7 (Ar.len j),fi 8 d.1]) (λd g G=>An g (Ar.len d.2)/\B9 Eq D [ob g 1 (V.int .u8) d.2] G) (λx e l G=>∃a:OG,An a (Ar.len x)/\e= .exit 0/\l=[(3,.v (.own a.id a.lo a.n))]/\B9 Eq D [ob a 1 (V.int .u8) x] G) za3 ?_ S X ?_ ?_ ?_
 ·rintro d Z H o ⟨B,Q⟩ h;cbv;apply C2 Y h<;>intro _ h
  ·cbv;refine E6 Y eBG1 h λx5 h=>?_;cbv;refine Ke Y (f:=(V.int .u8)) Q B 0 rfl h (c166 N d.2 x5.dJ 10) .z λU q7 H F Q h=>?_;cbv;obtain⟨R,X,h⟩:=bind_some h;refine Q5 cf122 Y N0 (λe l G=>∃a:OG,An a (Ar.len R)/\e= .normal/\l=[(3,.v (.own a.id a.lo a.n)),(6,.v (sr eBE1 j)),fi 7 (Ar.len j),fi 8 d.1]/\B9 Eq D [ob a 1 (V.int .u8) R] G) za3 ?_ ?_
   ·clear h;have h:=X;cbv;obtain⟨w,p,h⟩:=bind_some h;obtain⟨u,b,h⟩:=bind_some h;obtain⟨v,i,h⟩:=bind_some h
    repeat' first|refine And.intro ?_ ?_|(refine Ih (f:=(V.int .u8)) Y (λ_=>rfl) za5 Q F 0 rfl (m:=[64]) (FW (f:=(V.int .u8)) Y (λ_=>rfl) (.lstc .z (.lst0))) (S3 p) λw T H s Q q=>?_;obtain rfl:=G3 q;cbv)|(refine Ke Y (f:=(V.int .u8)) Q s 0 rfl (S3 b) (c166 N w x5.at_ 10) .z λu I H k Q q=>?_;obtain rfl:=G3 q;cbv)|(refine Ih (f:=(V.int .u8)) Y (λ_=>rfl) za5 Q k 0 rfl (m:=[32]) (FW (f:=(V.int .u8)) Y (λ_=>rfl) (.lstc .z (.lst0))) (S3 i) λv z H y Q q=>?_;obtain rfl:=G3 q;cbv)|(have h:=G3 h;subst h;exact⟨_,⟨z,y,rfl,rfl,Q⟩,.e4 .z,rfl⟩)
   clear X;rintro e l H ⟨L,C,rfl,rfl,Q⟩;exact Zg
  exact Zg
 ·exact .e4 .z
 ·exact⟨A,Q⟩
 clear X;rintro e l H ⟨M,c,rfl,rfl,Q⟩;cbv;refine Bu3 (e:=5) Y za3 za3 za3 Q c 0 rfl h λO h=>?_;exact Zg
@[reducible, instance] def zc122 (N aD):=Ct.mk (f:=122) (c122 N aD)
def cf221:Cf:=⟨[6,7,3000041,8000041,9000041],[(6,20)],[],[],[(44,1000007)],[]⟩
def c221 (N L F M r) (h:BR N L F M=some r):B8 prog 221 [.eref (C4 L) 0,sr eBE1 F,vi M] ((Tu r)):=by
 refine R4 cf221 func221 call221 ntmps221 ?_;intro E D K Y J Q;cbv;refine G0 Y Q λc H Q=>?_;cbv;refine Bq7 Y (f:=eBE3) za5 Q 1 h λl3 s H O h Q=>?_;have Q:B9 Eq D (.blk s.q.id (.arr 1 (s.q.pre++Ar.lst (Ei eBE3) s.row++s.q.rest))::cb c [.sl [] .nil]::(Mk s++[])) H:=Q;cbv;refine G0 Y Q λj H Q=>?_;cbv;refine C5 Y Q 0 rfl rfl λH Q=>?_;cbv;apply K2 Y;cbv;obtain⟨s7,X,h⟩:=bind_some h;refine S6 cf221 Y N0 (γ:=Rw A9) (λI g=>[(0,.v (.eref (C4 L) 0)),fi 2 M,(6,.v (.ref c 0)),(7,.v (.ref j 0)),(12,.v (sr eBE1 F)),fi 13 (Ar.len F),fi 14 I.1]) (λI g G=>Gf g I.2/\B9 Eq D (cb j [.own g.q.id g.q.lo g.q.n]:: .blk g.q.id (.arr 1 (g.q.pre++Ar.lst (Ei eBE3) g.row++g.q.rest))::cb c [.sl [] .nil]::(Mk g++[])) G) (λx e l G=>∃V:Rw A9,Gf V x/\e= .exit 0/\l=[(6,.v (.ref c 0)),(7,.v (.ref j 0))]/\B9 Eq D (cb j [.own V.q.id V.q.lo V.q.n]:: .blk V.q.id (.arr 1 (V.q.pre++Ar.lst (Ei eBE3) V.row++V.q.rest))::cb c [.sl [] .nil]::(Mk V++[])) G) za3 ?_ s X ?_ ?_ ?_
 ·rintro I y H o ⟨b,Q⟩ h;cbv;apply C2 Y h<;>intro _ h
  ·cbv;refine E6 Y eBG1 h λU h=>?_;cbv;apply C2 Y h<;>intro _ h
   ·cbv;obtain⟨x9,B,h⟩:=bind_some h
    obtain⟨a,aa,d,u⟩:=b.at B
    obtain⟨Z,Q,v⟩:=Q.rtake (w:=y) (T1:=[]) (T2:=[]) 3 rfl d;refine Zb Y Q 0 rfl u λH Q=>?_
    repeat' (cbv;apply C3 Y Q 1 rfl)
    cbv;refine ZB Y (f:=Ei eBE3) Q b.ok 2 rfl a ?_;cbv;refine AE3 Y (f:=Ei eBE3) (λ_=>rfl) Q b.ok 2 rfl a.1 d ?_;cbv;refine E6 Y eBF2 h λC h=>?_;cbv;apply LY Y trivial;cbv;refine Zh (f:=eBE3) Y Se za5 (l:=x9) (m:=[C]) .z (.lstc (.eq (eBF2 C) .z) (.lst0)) h λi h=>?_;cbv;refine Zd Y Q 0 rfl λk H Q q=>?_;cbv;refine ZB Y (f:=Ei eBE3) Q b.ok 2 rfl a ?_;cbv;refine Ak4 Y (f:=Ei eBE3) (tz:=1) (x':=(i,k)) (λ_=>⟨.sl (Ar.lst eBE3 i) k,.refl _,rfl,rfl,rfl⟩) za5 Q b.ok 2 rfl a λH Q=>?_;cbv;obtain⟨R,hu,h⟩:=bind_some h;obtain⟨S,p,z,Q⟩:∃w0:Rw A9,w0.q=y.q/\Gf w0 R/\B9 Eq D (cb j [.own w0.q.id w0.q.lo w0.q.n]:: .blk w0.q.id (.arr 1 (w0.q.pre++Ar.lst (Ei eBE3) w0.row++w0.q.rest))::cb c [.sl [] .nil]::(Mk w0++[])) H:=⟨(⟨y.q,y.row.set (U.dJ).toNat (i,k)⟩:Rw A9),rfl,by rw[Ab4 hu];exact b.put _ q,(by have e:=v (i,k) H [cb j [.own y.q.id y.q.lo y.q.n],.blk y.q.id (.arr 1 (y.q.pre++Ar.lst (Ei eBE3) (y.row.set (U.dJ).toNat (i,k))++y.q.rest)),cb c [.sl [] .nil]] Q;simp only[V1,I1,E5]at e ⊢;exact e)⟩
    try rw[<-p]
    cases h;exact⟨_,S,rfl,.e rfl (.e2 (.e4 .z)),rfl,z,Q⟩
   exact Zg
  exact Zg
 ·exact .e rfl (.e2 (.e4 .z))
 ·exact⟨O,Q⟩
 clear X;rintro e l H ⟨T,A,rfl,rfl,Q⟩;cbv;refine Ah2 Y (e:=eBG4) eBH3 Q A 0 1 rfl rfl rfl za5 λH Q=>?_;have Q:B9 Eq D [cb j [sr eBG4 s7],cb c [.sl [] .nil]] H:=Q.rdrop (w:=T) (T1:=[]) (T2:=[]) 2 rfl;exact Zg
@[reducible, instance] def zc221 (N aO aD bY):=Ct.mk (f:=221) (c221 N aO aD bY)
def cf185:=cfB [] [(1,13)]
def c185 (N b l a k i r)(h:Q0 N b l a k i=some r):B8 prog 185 [.eref (C4 b) 0,(Cr l),sr eBE1 a,vi k,vi i] (.bool r):=by
 unfold Q0 at h
 refine R4 cf185 func185 call185 ntmps185 ?_;intro E D K Y J Q;cbv;refine E3 Y (g:=λx=>(Tu x)) h (c221 N b a i) (.refl _) λx h=>?_;exact Zg
@[reducible, instance] def zc185 (N aO cO aD bM bG):=Ct.mk (f:=185) (c185 N aO cO aD bM bG)
def cf184:=cfB [] [(3,28)]
def c184 (N d k a y r) (h:Bw N d k a y=some r):Jl prog 184 (λc=>[c,.eref [vi d] 0,.eref [.eref (C4 k) 0] 0,.eref (D5 a) 0,.eref [sr eBE1 y] 0]) (List.map (λ(x:(Up A3))=>[sr eBE1 x]) r) rbN:=by
 unfold Bw at h
 obtain⟨⟨w0,B⟩,O,f⟩:=bind_some h;clear h;have f:=G3 f;subst f;have h:=O;clear O;refine U5 cf184 N0 func184 za9 za3 call184 ntmps184 za9 (λ_=>rfl) ?_;intro c I D q p m tl F E H K Y Q J V
 have Q:B9 (I (List.map (λ(x:(Up A3))=>[sr eBE1 x]) (w0++[])++tl)) F [] H:=by rw[E5];exact Q
 cbv;obtain⟨C,u,A,X,h,b⟩:=N5 h
 rw[b,D2]at Q
 clear b;refine Gs cf184 Y N0 (γ:=Unit) (λi g=>[(0,.v (c)),(2,.v (.eref [.eref (C4 k) 0] 0)),(3,.v (.eref (D5 a) 0)),(4,.v (.eref [sr eBE1 y] 0)),fi 6 i]) (λi g w G=>B9 (I (List.map (λ(x:(Up A3))=>[sr eBE1 x]) w++tl)) F [] G) (λx e l w G=>e= .exit 0/\l=[]/\B9 (I (List.map (λ(x:(Up A3))=>[sr eBE1 x]) w++tl)) F [] G) (λe l G=>(e= .ret/\l=[]/\B9 D F [] G)) za3 ?_ (w':=u++[]) () X ?_ ?_ ?_ ?_
 ·rintro i _ L v H o Q h;clear X
  skip
  repeat' (cbv;first|refine C2 Y h (λ_ h=>?_) (λ_ h=>?_)|refine K2 Y ?_|refine E6 Y eBF2 h λ_ h=>?_|refine E3 Y (g:=λj=>.bool j) h (c185 _ _ _ _ _ _) (.refl _) λj h=>?_)
  ·cbv;obtain⟨z,h,b⟩:=V9 h
   rw[b,D2]at Q
   clear b;have Q:B9 (I ([sr eBE1 ([(⟨a.Var,i⟩:A3)])]::(List.map (λ(x:(Up A3))=>[sr eBE1 x]) (z++v)++tl))) F [] _:=Q;refine EC Y q p m Q (.cons (.lit _ (I6 ((eBG1 (⟨a.Var,i⟩:A3)).symm) (F3))) (.refl _)) (λH Q=>?_) (λH Q=>?_)
   ·cbv;refine Kg Y (Ar.nt_eq _) ?_;cbv;obtain⟨R,rfl⟩:=D7 h
    rw[<-R]at Q
    exact⟨_,(),rfl,.e rfl (.e4 .z),rfl,Q⟩
   clear h;cbv;refine Kf Y (Ar.nt_eq _) ?_;cbv;exact .inr ⟨_,⟨rfl,rfl,Q⟩,.z,rfl⟩
  ·cbv;obtain⟨R,rfl⟩:=D7 h
   rw[<-R]at Q
   exact⟨_,(),rfl,.e rfl (.e4 .z),rfl,Q⟩
  ·cbv;obtain⟨R,rfl⟩:=D7 h
   rw[<-R]at Q
   exact⟨_,(),rfl,.e rfl (.e4 .z),rfl,Q⟩
  cbv;obtain⟨R,rfl⟩:=D7 h
  rw[<-R]at Q
  exact .inl ⟨_,_,rfl,⟨rfl,rfl,Q⟩,.z,rfl⟩
 ·exact .e rfl (.e4 .z)
 ·exact Q
 ·rintro e l H ⟨rfl,rfl,Q⟩;clear X;cbv;obtain⟨R,_⟩:=D7 h
  rw[<-R]at Q
  exact J _ _ _ Q trivial
 rintro e l H s;obtain⟨rfl,rfl,Q⟩:=s;clear h;cbv;exact V _ _ _ Q trivial
def c160 (N g S a b r)(h:Z2 N g S a b=some r):DC prog 160 [.eref (C4 g) 0,(D0 S),sr eBE1 a,vi b] (λv=>Jv prog v (r.map λ(x:(Up A3))=>[sr eBE1 x])):=by
 refine Av cf0 N0 func160 za9 za3 call160 ntmps160 za9 za9 ?_;intro E H0 K Y J;have Q:B9 Eq H0 [] H0:=.start H8 rfl;cbv;exact J _ _ _ Q (Bl call184 (c184 N b g S a r h))
def c222 (N b r) (h:M0 N b=some r):Jl prog 222 (λy=>[y,.eref [sr eBF0 b] 0]) (List.map (λ(x:(Up A3))=>[sr eBE1 x]) r) rbN:=by
 unfold M0 at h
 obtain⟨⟨w0,v⟩,O,f⟩:=bind_some h;clear h;have f:=G3 f;subst f;have h:=O;clear O;refine U5 cf0 N0 func222 za9 za3 call222 ntmps222 za9 (λ_=>rfl) ?_;intro y I D c V m tl F E H K Y Q J i
 have Q:B9 (I (List.map (λ(x:(Up A3))=>[sr eBE1 x]) (w0++[])++tl)) F [] H:=by rw[E5];exact Q
 cbv;apply K2 Y;cbv;obtain⟨z,j,u,X,h,a⟩:=N5 h
 rw[a,D2]at Q
 clear a;refine Gs cf0 Y N0 (γ:=Unit) (λk g=>[(0,.v (y)),(5,.v (sr eBF0 b)),fi 6 (Ar.len b),fi 7 k]) (λk g w G=>B9 (I (List.map (λ(x:(Up A3))=>[sr eBE1 x]) w++tl)) F [] G) (λx e l w G=>e= .exit 0/\l=[]/\B9 (I (List.map (λ(x:(Up A3))=>[sr eBE1 x]) w++tl)) F [] G) (λe l G=>(e= .ret/\l=[]/\B9 D F [] G)) za3 ?_ (w':=j++[]) () X ?_ ?_ ?_ ?_
 ·rintro k _ A p H o Q h
  skip
  cbv;apply C2 Y h<;>intro _ h
  ·cbv;refine E6 Y eBG2 h λs h=>?_;cbv;obtain⟨q,h,a⟩:=V9 h
   rw[a,D2]at Q
   clear a;have Q:B9 (I ([sr eBE1 s]::(List.map (λ(x:(Up A3))=>[sr eBE1 x]) (q++p)++tl))) F [] _:=Q;refine EC Y c V m Q .z (λH Q=>?_) (λH Q=>?_)
   ·cbv;apply Kg Y (Ar.nt_eq _);cbv;obtain⟨R,rfl⟩:=D7 h
    rw[<-R]at Q
    exact⟨_,(),rfl,.e4 .z,rfl,Q⟩
   clear h;cbv;apply Kf Y (Ar.nt_eq _);cbv;exact .inr ⟨_,⟨rfl,rfl,Q⟩,.z,rfl⟩
  cbv;obtain⟨R,rfl⟩:=D7 h
  rw[<-R]at Q
  exact .inl ⟨_,_,rfl,⟨rfl,rfl,Q⟩,.z,rfl⟩
 ·exact .e4 .z
 ·exact Q
 ·rintro e l H ⟨rfl,rfl,Q⟩;cbv;obtain⟨R,_⟩:=D7 h
  rw[<-R]at Q
  exact J _ _ _ Q trivial
 rintro e l H d;obtain⟨rfl,rfl,Q⟩:=d;clear h;cbv;exact i _ _ _ Q trivial
def c186 (N a r)(h:BZ N a=some r):DC prog 186 [sr eBF0 a] (λv=>Jv prog v (r.map λ(x:(Up A3))=>[sr eBE1 x])):=by
 refine Av cf0 N0 func186 za9 za3 call186 ntmps186 za9 za9 ?_;intro E H0 K Y J;have Q:B9 Eq H0 [] H0:=.start H8 rfl;cbv;exact J _ _ _ Q (Bl call222 (c222 N a r h))
def c248 {cmp:A3->A3->OS Int}{g:Nat}{C:Up V}(i:∀vals w,(callFunc g vals).run prog w= .ok (.enter g vals) w)(X:∀a b r,cmp a b=some r->B8 prog g ([(Y7 a),(Y7 b)]++C) (vi r)){l r:Up A3}(h:Ll cmp l=some r):
 QL prog 248 (.func (.func g) [] C) 2 (Ar.lst eBE1 l) (Ar.lst eBE1 r):=OO Go.Proofs.Tryz.sorts248 call248 (va:=λx=>(LM x)) eBG1 (λ_=>rfl) i X h
def c249 (N a b r)(h:Ia N a b=some r):B8 prog 249 [(Y7 a),(Y7 b)] (vi r):=by
 refine R4 cf0 func249 call249 ntmps249 ?_;intro E D K Y J Q;exact Zg
@[reducible, instance] def zc249 (N aG aU):=Ct.mk (f:=249) (c249 N aG aU)
def c224 (N p b r)(h:Z7 N p b=some r):B8 prog 224 [sr eBE1 p,sr eBE1 b] (sr eBE1 r):=by
 refine Dx (T:=TT) cf0 N0 func224 za9 za3 call224 ntmps224 za9 za9 ?_;intro E H0 K Y J l;have Q:B9 Eq H0 [] H0:=.start H8 rfl
 repeat' (cbv;first|apply K2 Y|refine Ox Y Q a 0 rfl h (λc X=>c248 (g:=249) (C:=[]) call249 (λy V r X=>c249 N y V r X) X) λ_ H a Q h=>?_|(cases h;exact l x _ _ 0 _ _ Q rfl (Bx Y a) .z)|refine Ah4 Y (f:=eBE1) za5 (z0:=((⟨0,0⟩:A3):A3)) ((.eq (eBG1 _) .z)) Q h λ_ _ H i h Q=>?_|refine Ih (f:=eBE1) Y Dk za5 Q i 0 rfl (m:=p) (FW (f:=eBE1) Y Dk .z) h λ_ _ H k Q h=>?_|refine Ih (f:=eBE1) Y Dk za5 Q k 0 rfl (m:=b) (FW (f:=eBE1) Y Dk .z) h λ_ x H a Q h=>?_)
@[reducible, instance] def zc224 (N aB aC):=Ct.mk (f:=224) (c224 N aB aC)
def c225 (N a r)(h:Ah N a=some r):B8 prog 225 [sr eBE1 a] (vi r):=by
 refine R4 cf0 func225 call225 ntmps225 ?_;intro E D K Y J Q;exact Zg
@[reducible, instance] def zc225 (N aD):=Ct.mk (f:=225) (c225 N aD)
def c265 (N:Nat) (a:Up A3) (i:V) (k:A3->OS Bool) (f:∀c q,k c=some q->Y6 prog i [(Y7 c)] (.bool q)) (r:Int) (h:Cu N a k=some r):B8 prog 265 [sr eBE1 a,i] (vi r):=by
 refine R4 cf0 func265 call265 ntmps265 ?_;intro E D K Y J Q;cbv;apply K2 Y;cbv;obtain⟨d,X,h⟩:=bind_some h;refine I8 cf0 Y N0 (λI=>[(0,.v (sr eBE1 a)),(1,.v (i)),fi 7 (Ar.len a),fi 8 I]) (λI G=>B9 Eq D [] G) (λx e l G=>match(generalizing:=false) x with| .inl y=>e= .exit 0/\l=[]/\B9 Eq D [] G| .inr y=>e= .ret/\l=[fi 4 y]/\B9 Eq D [] G) za3 ?_ X ?_ Q ?_
 ·intro I H o Q h;cbv;apply C2 Y h<;>intro _ h
  ·cbv;refine E6 Y eBG1 h λj h=>?_;cbv;refine AM Y (g:=λb=>.bool b) h (λb X=>f j b X) .z λb h=>?_;exact Zg
  exact Zg
 ·exact .e4 .z
 clear X
 rcases d with m|p
 ·rintro e l H ⟨rfl,rfl,Q⟩;exact Zg
 rintro e l H ⟨rfl,rfl,Q⟩;exact Zg
def c250 (N:Nat)(a:Up A3)(g:V)(b:A3->OS Bool)(k:∀i q,b i=some q->Y6 prog g [(Y7 i)] (.bool q))(r:Bool)(h:T4 N a b=some r):B8 prog 250 [sr eBE1 a,g] (.bool r):=by
 refine R4 cf0 func250 call250 ntmps250 ?_;intro E D K Y J Q;cbv;refine B3 Y h (c265 N a g b k) .z λl h=>?_;exact Zg
def c252 (N a b r)(h:Dm N a b=some r):B8 prog 252 [(Y7 a),.eref [vi b] 0] (.bool r):=by
 refine R4 cf0 func252 call252 ntmps252 ?_;intro E D K Y J Q;exact Zg
@[reducible, instance] def zc252 (N aG aJ):=Ct.mk (f:=252) (c252 N aG aJ)
def c227 (N i a r)(h:CM N i a=some r):B8 prog 227 [sr eBE1 i,vi a] (.bool r):=by
 refine R4 cf0 func227 call227 ntmps227 ?_;intro E D K Y J Q;cbv;refine B3 Y (g:=λb=>.bool b) h (λb X=>c250 N i (.func (.func 252) [] [.eref [vi a] 0]) (λk=>Dm N k a) (λk r X=>B8.value (F:=[]) (C:=[.eref [vi a] 0]) (c252 N k a r X)) b X) .z λb h=>?_;exact Zg
@[reducible, instance] def zc227 (N aD bG):=Ct.mk (f:=227) (c227 N aD bG)
def c251 (N a b r)(h:Ey N a b=some r):B8 prog 251 [(Y7 a),.eref [sr eBE1 b] 0] (.bool r):=by
 refine R4 cf0 func251 call251 ntmps251 ?_;intro E D K Y J Q;exact Zg
@[reducible, instance] def zc251 (N aG aJ):=Ct.mk (f:=251) (c251 N aG aJ)
def c226 (N p a r)(h:Gn N p a=some r):B8 prog 226 [sr eBE1 p,sr eBE1 a] (.bool r):=by
 refine R4 cf0 func226 call226 ntmps226 ?_;intro E D K Y J Q;cbv;refine B3 Y (g:=λb=>.bool b) h (λb X=>c250 N p (.func (.func 251) [] [.eref [sr eBE1 a] 0]) (λi=>Ey N i a) (λi r X=>B8.value (F:=[]) (C:=[.eref [sr eBE1 a] 0]) (c251 N i a r X)) b X) .z λb h=>?_;exact Zg
@[reducible, instance] def zc226 (N aB aC):=Ct.mk (f:=226) (c226 N aB aC)
def cf191:=cfB [] [(6,11)]
def c191 (N:Nat):∀n k i r,BO N n k i=some r->Jl prog 191 (λq=>[sr eBG5 k,sr eBE1 i,q]) (List.map (λ(x:(Up A3))=>[sr eBE1 x]) r) rbB:=by
 intro n
 induction n with
 |zero=>intro k i r h;cases h
 |succ n ih=>
 intro k i r h
 unfold BO at h
 obtain⟨⟨w0,U⟩,O,c⟩:=bind_some h;clear h;have c:=G3 c;subst c;have h:=O;clear O;refine U5 cf191 N0 func191 za9 za3 call191 ntmps191 za9 (λ_=>rfl) ?_;intro q I D u s m tl F E H K Y Q J y
 have Q:B9 (I (List.map (λ(x:(Up A3))=>[sr eBE1 x]) (w0++[])++tl)) F [] H:=by rw[E5];exact Q
 repeat' (cbv;first|apply C2 Y h<;>intro _ h|apply K2 Y|refine E6 Y eBH4 h λz h=>?_)
 ·cbv;obtain⟨L,h,a⟩:=V9 h
  rw[a,D2]at Q
  clear a;have Q:B9 (I ([sr eBE1 i]::(List.map (λ(x:(Up A3))=>[sr eBE1 x]) (L++[])++tl))) F [] _:=Q;refine EC Y u s m Q .z (λH Q=>?_) (λH Q=>?_)
  ·cbv;obtain⟨R,_⟩:=D7 h
   rw[<-R]at Q
   exact J _ _ _ Q rfl
  clear h;cbv;exact y _ _ _ Q rfl
 cbv;obtain⟨Z,S,T,X,h,a⟩:=N5 h
 rw[a,D2]at Q
 clear a;refine Gs cf191 Y N0 (γ:=Unit) (λp g=>[(0,.v (sr eBG5 k)),(1,.v (sr eBE1 i)),(2,.v (q)),(17,.v (sr eBF0 z)),fi 18 (Ar.len z),fi 19 p]) (λp g w G=>B9 (I (List.map (λ(x:(Up A3))=>[sr eBE1 x]) w++tl)) F [] G) (λx e l w G=>e= .exit 0/\l=[]/\B9 (I (List.map (λ(x:(Up A3))=>[sr eBE1 x]) w++tl)) F [] G) (λe l G=>(e= .ret/\l=[(6,.b false)]/\B9 D F [] G)) za3 ?_ (w':=S++[]) () X ?_ ?_ ?_ ?_
 ·rintro p _ w6 w7 H o Q h
  skip
  repeat' (cbv;first|apply C2 Y h<;>intro _ h|refine E6 Y eBG2 h λ_ h=>?_|refine E3 Y (g:=λV=>.bool V) h (c226 _ _ _) .z λV h=>?_|refine E3 Y (g:=λb=>sr eBE1 b) h (c224 _ _ _) .z λb h=>?_|refine Pj Y (f:=eBG5) HQ h λd _ h=>?_)
  ·cbv;obtain⟨j,B,h⟩:=bind_some h;obtain⟨M,h,a⟩:=V9 h
   rw[a,D2]at Q
   clear a
   rw[P9,D2]at Q
   refine Sy Y u s m (ih d b j B) Q (.cons (.ro _ _) .z) (λv H A Q=>?_) (λv H A Q=>?_)
   ·cases A;clear B;cbv;apply Kg Y (Ar.nt_eq _);cbv;obtain⟨R,rfl⟩:=D7 h
    rw[<-R]at Q
    exact⟨_,(),rfl,.e2 (.e4 .z),rfl,Q⟩
   cases A;clear h B;cbv;apply Kf Y (Ar.nt_eq _);cbv;exact .inr ⟨_,⟨rfl,rfl,Q⟩,.b rfl (.z),rfl⟩
  ·cbv;obtain⟨R,rfl⟩:=D7 h
   rw[<-R]at Q
   exact⟨_,(),rfl,.e2 (.e4 .z),rfl,Q⟩
  cbv;obtain⟨R,rfl⟩:=D7 h
  rw[<-R]at Q
  exact .inl ⟨_,_,rfl,⟨rfl,rfl,Q⟩,.z,rfl⟩
 ·exact .e2 (.e4 .z)
 ·exact Q
 ·rintro e l H ⟨rfl,rfl,Q⟩;cbv;obtain⟨R,_⟩:=D7 h
  rw[<-R]at Q
  exact J _ _ _ Q rfl
 rintro e l H C;obtain⟨rfl,rfl,Q⟩:=C;clear h;cbv;exact y _ _ _ Q rfl
def cf195:=cfB [] [(3,23),(5,13),(10,25)]
def c195 (N i S V b r) (h:AX N i S V b=some r):B8 prog 195 [.eref (C4 i) 0,(D0 S),sr eBE1 V,sr eBE1 b] (.bool r):=by
 unfold AX at h
 refine R4 cf195 func195 call195 ntmps195 ?_;intro E D K Y J Q;cbv;refine C2 Y h (λ_ h=>?_) λ_ h=>?_
 ·cbv;refine E3 Y (g:=λj=>vi j) h (c225 N b) (.refl _) λj h=>?_;cbv;refine E6 Y eBF2 h λz h=>?_;cbv;refine E6 Y eBG1 h λA h=>?_;cbv;refine E6 Y eBF2 h λB h=>?_;cbv;cases h;exact J Q (.refl _)
 cbv;refine C2 Y h (λ_ h=>?_) λ_ h=>?_
 ·cbv;refine E3 Y (g:=λc=>sr eBE1 c) h (c224 N V b) (.refl _) λc h=>?_;cbv;refine K2 Y ?_;cbv;refine E3 Y (g:=λd=>(Tu d)) h (c221 N i c (Ar.len i.dH)) (.refl _) λd h=>?_;cbv;refine B3 Y h (c124 N S.dF d (-1) (⟨0,0,0,0,[]⟩:A9)) (.cons (.refl _) (.cons (.refl _) (.cons (.refl _) (.cons (.agg (.cons (.refl _) (.cons (.refl _) (.cons (.refl _) (.cons (.refl _) (.cons (.lit _ (F3)) (.refl _))))))) (.refl _))))) λw h=>?_;cbv;cases h;exact J Q (.refl _)
 cbv;refine B3 Y h (c224 N V b) (.refl _) λm h=>?_;cbv;refine E6 Y eBG1 h λC h=>?_;cbv;obtain⟨f,X,h⟩:=bind_some h;refine I8 cf195 Y N0 (λa=>[(0,.v (.eref (C4 i) 0)),(3,.v (sr eBE1 b)),(5,.v (.eref (D5 S) 0)),(9,.v (sr eBE1 m)),fi 10 a]) (λa G=>B9 Eq D [] G) (λx e l G=>match(generalizing:=false) x with| .inl y=>e= .exit 1/\l=[]/\B9 Eq D [] G| .inr y=>e= .ret/\l=[(8,.b false)]/\B9 Eq D [] G) za3 ?_ X ?_ Q ?_
 ·intro a H o Q h;clear X;cbv;refine B3 Y h (c225 N b) (.refl _) λp h=>?_;cbv;refine C2 Y h (λ_ h=>?_) λ_ h=>?_
  ·cbv;refine E6 Y eBF2 h λs h=>?_;cbv;refine C2 Y h (λ_ h=>?_) λ_ h=>?_
   ·cbv;refine E3 Y (g:=λk=>.bool k) h (c227 N b a) (.refl _) λk h=>?_;cbv;refine C2 Y h (λ_ h=>?_) λ_ h=>?_
    ·cbv;refine B3 Y h (c185 N i S.dF m S.Var a) (.refl _) λq h=>?_;cbv;refine C2 Y h (λ_ h=>?_) λ_ h=>?_
     ·cbv;cases h;exact⟨_,_,rfl,⟨rfl,rfl,Q⟩,.b rfl (.z),rfl⟩
     cbv;cases h;exact⟨_,rfl,.e rfl (.e4 .z),rfl,Q⟩
    cbv;cases h;exact⟨_,rfl,.e rfl (.e4 .z),rfl,Q⟩
   cbv;cases h;exact⟨_,rfl,.e rfl (.e4 .z),rfl,Q⟩
  cbv;cases h;exact⟨_,_,rfl,⟨rfl,rfl,Q⟩,.z,rfl⟩
 ·exact .e rfl (.e4 .z)
 clear X
 rcases f with u|v
 ·rintro e l H ⟨rfl,rfl,Q⟩;cbv;cases h;exact J Q (.refl _)
 rintro e l H ⟨rfl,rfl,Q⟩;cbv;cases h;exact J Q (.refl _)
@[reducible, instance] def zc195 (N aO aA aH aD):=Ct.mk (f:=195) (c195 N aO aA aH aD)
def cf86:=cfC [8,9] [(3,3)] [(39,12)]
def K86 (N n:Nat):Prop:=∀(g:C1) (S:A0) (a:Up A3) (b:Int) (r:(Up (Up A3))),G6 N n g S a b=some r->B8 prog 86 [.eref (C4 g) 0,(D0 S),sr eBE1 a,vi b] (sr eBF0 r)
def cf161:Cf:=⟨[9],[(2,7),(5,8)],[],[],[(400000005,9)],[]⟩
def By3 (N n:Nat):Prop:=∀(g:C1) (S:A0) (a:Up A3) (b:Int) (r:(Up (Up A3))),Y1 N n g S a b=some r->DC prog 161 [.eref (C4 g) 0,(D0 S),sr eBE1 a,vi b] (λv=>Jv prog v (r.map λ(x:(Up A3))=>[sr eBE1 x]))
def By2 (N n:Nat):Prop:=∀(g:C1) (S:A0) (a:Up A3) (b:Int) (r:(Up (Up A3))),Y2 N n g S a b=some r->DC prog 162 [.eref (C4 g) 0,(D0 S),sr eBE1 a,vi b] (λv=>Jv prog v (r.map λ(x:(Up A3))=>[sr eBE1 x]))
def By1 (N n:Nat):Prop:=∀(g:C1) (S:A0) (a:Up A3) (b:Int) (r:(Up (Up A3))),Y3 N n g S a b=some r->DC prog 163 [.eref (C4 g) 0,(D0 S),sr eBE1 a,vi b] (λv=>Jv prog v (r.map λ(x:(Up A3))=>[sr eBE1 x]))
def By0 (N n:Nat):Prop:=∀(g:C1) (S:A0) (a:Up A3) (b:Int) (r:(Up (Up A3))),W7 N n g S a b=some r->DC prog 164 [.eref (C4 g) 0,(D0 S),sr eBE1 a,vi b] (λv=>Jv prog v (r.map λ(x:(Up A3))=>[sr eBE1 x]))
def Bx9 (N n:Nat):Prop:=∀(g:C1) (S:A0) (a:Up A3) (b:Int) (r:(Up (Up A3))),M5 N n g S a b=some r->DC prog 165 [.eref (C4 g) 0,(D0 S),sr eBE1 a,vi b] (λv=>Jv prog v (r.map λ(x:(Up A3))=>[sr eBE1 x]))
def cf187:=cfA [1000009]
def Bo4 (N n:Nat):Prop:=∀(h:C1) (S:A0) (b:Up A3) (g:Int) (a:V) (i:(Up A3)->Int->OS (Up (Up A3))) (y:∀k l q,i k l=some q->Y6 prog a [sr eBE1 k,vi l] (sr eBF0 q)) (K:OneV a) (r:(Up (Up A3))),W6 N n h S b g i=some r->DC prog 187 [.eref (C4 h) 0,(D0 S),sr eBE1 b,vi g,a] (λv=>Jv prog v (r.map λ(x:(Up A3))=>[sr eBE1 x]))
def Bx8 (N n:Nat):Prop:=∀(a:Up A3) (b:Int) (g:C1) (h:A0) (r:(Up (Up A3))),R7 N n a b g h=some r->B8 prog 188 [sr eBE1 a,vi b,.eref [.eref (C4 g) 0] 0,.eref (D5 h) 0] (sr eBF0 r)
def Bx7 (N n:Nat):Prop:=∀(a:A0) (b:C1) (g:Up A3) (h:Int) (r:(Up (Up A3))),AY N n a b g h=some r->Jl prog 189 (λi=>[i,.eref (D5 a) 0,.eref [.eref (C4 b) 0] 0,.eref [sr eBE1 g] 0,.eref [vi h] 0]) (List.map (λ(x:(Up A3))=>[sr eBE1 x]) r) rbN
def Bx6 (N n:Nat):Prop:=∀(a:A0) (b:C1) (g:Up A3) (h:Int) (r:(Up (Up A3))),AZ N n a b g h=some r->Jl prog 190 (λi=>[i,.eref (D5 a) 0,.eref [.eref (C4 b) 0] 0,.eref [sr eBE1 g] 0,.eref [vi h] 0]) (List.map (λ(x:(Up A3))=>[sr eBE1 x]) r) rbN
def cf192:=cfB [1000005] [(1,10),(6,8)]
def Bx5 (N n:Nat):Prop:=∀(a:C1) (b:A0) (g:Up A3) (h:Int) (r:(Up (Up A3))),AL N n a b g h=some r->Jl prog 192 (λi=>[i,.eref [.eref (C4 a) 0] 0,.eref (D5 b) 0,.eref [sr eBE1 g] 0,.eref [vi h] 0]) (List.map (λ(x:(Up A3))=>[sr eBE1 x]) r) rbN
def Bx4 (N n:Nat):Prop:=∀(a:Up A3) (b:Int) (g:C1) (h:A0) (r:(Up (Up A3))),N9 N n a b g h=some r->B8 prog 193 [sr eBE1 a,vi b,.eref [.eref (C4 g) 0] 0,.eref (D5 h) 0] (sr eBF0 r)
def cf194:=cfB [] [(0,10)]
def Bx3 (N n:Nat):Prop:=∀(a:C1) (b:A0) (g:Up A3) (h:Int) (r:(Up (Up A3))),AK N n a b g h=some r->Jl prog 194 (λi=>[i,.eref [.eref (C4 a) 0] 0,.eref (D5 b) 0,.eref [sr eBE1 g] 0,.eref [vi h] 0]) (List.map (λ(x:(Up A3))=>[sr eBE1 x]) r) rbN
def cf223:=cfB [] [(3,10)]
def Bx2 (N n:Nat):Prop:=∀(a:C1) (b:A0) (g:Up A3) (h:Int) (i:V) (k:(Up A3)->Int->OS (Up (Up A3))) (c:∀l y q,k l y=some q->Y6 prog i [sr eBE1 l,vi y] (sr eBF0 q)) (r:(Up (Up A3))),AJ N n a b g h k=some r->Jl prog 223 (λK=>[K,.eref [.eref (C4 a) 0] 0,.eref (D5 b) 0,.eref [sr eBE1 g] 0,.eref [vi h] 0,.eref [i] 0]) (List.map (λ(x:(Up A3))=>[sr eBE1 x]) r) rbN
def k86 (N n:Nat) (M:By3 N n) (O:By2 N n) (R:By1 N n) (T:By0 N n) (j:Bx9 N n):K86 N (n+1):=by
 intro aO S aH aK r h
 unfold G6 at h
 refine R4 cf86 func86 call86 ntmps86 ?_;intro E D K Y J Q;cbv;refine G0 Y Q λu H Q=>?_;cbv;refine G0 Y Q λz H Q=>?_;cbv;refine Bq8 Y .string V.str V.bool Q λI o4 H ae Q=>?_;cbv;refine E3 Y (g:=λr5=>.agg [.func (.func 160) [] [],.func (.func 161) [] [],.func (.func 162) [] [],.func (.func 163) [] [],.func (.func 164) [] [],.func (.func 165) [] [],.func (.func 165) [] [],.func (.func 165) [] []]) h (c121 N) .z λr5 h=>?_;cbv;refine Bj7 Y (Good:=λv6 (f7:C1->A0->(Up A3)->Int->OS (Up (Up A3)))=>∀b k y c q,f7 b k y c=some q->Ay4 prog v6 [.eref (C4 b) 0,(D0 k),sr eBE1 y,vi c] (λw=>Jv prog w (q.map λ(x:(Up A3))=>[sr eBE1 x]))) (xs:=[.func (.func 160) [] [],.func (.func 161) [] [],.func (.func 162) [] [],.func (.func 163) [] [],.func (.func 164) [] [],.func (.func 165) [] [],.func (.func 165) [] [],.func (.func 165) [] []]) (.cons (λb k y c r X=>DC.value (F:=[]) (C:=[]) (c160 N b k y c r X)) (.cons (λb k y c r X=>DC.value (F:=[]) (C:=[]) (M b k y c r X)) (.cons (λb k y c r X=>DC.value (F:=[]) (C:=[]) (O b k y c r X)) (.cons (λb k y c r X=>DC.value (F:=[]) (C:=[]) (R b k y c r X)) (.cons (λb k y c r X=>DC.value (F:=[]) (C:=[]) (T b k y c r X)) (.cons (λb k y c r X=>DC.value (F:=[]) (C:=[]) (j b k y c r X)) (.cons (λb k y c r X=>DC.value (F:=[]) (C:=[]) (j b k y c r X)) (.cons (λb k y c r X=>DC.value (F:=[]) (C:=[]) (j b k y c r X)) (.nil))))))))) h λv6 f7 af h=>?_;cbv;refine AX1 Y h (λr8 X=>af aO S aH aK r8 X) .z λr8 v9 ag h=>?_;cbv;replace Q:=Q.tl0 (t:=.nil) rfl;obtain⟨ar,X,h⟩:=bind_some h;replace Q:=Q.cast (L':=[.tl .nil,.blk I (.obj o4),cb z [.sl (Ar.lst eBF0 ([])) .nil],cb u [.sl [] .nil]]) (by simp only[ob,cb,sr,<-F3]<;>rfl);refine Pl cf86 Y N0 (ι:=Unit) (enc:=λ(x:(Up A3))=>[sr eBE1 x]) (λ(a:(Up (za0×Bool))×(Up (Up A3))) F H=>∃g:J8×Obj,(Ed g.1/\Mok .string V.str V.bool g.2 a.1)/\B9 Eq F [.tl g.1,.blk I (.obj g.2),cb z [.sl (Ar.lst eBF0 a.2) g.1],cb u [.sl [] .nil]] H) (λ(r:((Up (za0×Bool))×(Up (Up A3)))) e F H=>∃g:J8×Obj,(e= .ret/\Ed g.1/\Mok .string V.str V.bool g.2 r.1)/\B9 Eq F [.tl g.1,.blk I (.obj g.2),cb z [.sl (Ar.lst eBF0 r.2) g.1],cb u [.sl [] .nil]] H) (λi a s=>[(4,.v (.eref [.eref (C4 aO) 0] 0)),(8,.v (.ref u 0)),(9,.v (.ref z 0)),(10,.v (.eref [.map I] 0)),(12,.v (sr eBE1 s))]) (λi a s F H=>∃g:J8×Obj,(Ed g.1/\Mok .string V.str V.bool g.2 a.1)/\B9 Eq F [.tl g.1,.blk I (.obj g.2),cb z [.sl (Ar.lst eBF0 a.2) g.1],cb u [.sl [] .nil]] H) (λ_=>G9.ex λ_=>B9.stable H8 _) (λ_ _=>G9.ex λ_=>B9.stable H8 _) (λ_ _ _=>G9.ex λ_=>B9.stable H8 _) ag X (⟨⟨.nil,o4⟩,⟨trivial,ae⟩,Q⟩) za5 (λ_=>rfl) za3 za3 ?_ ?_ ?_ ?_
 ·rintro E ah s a ab H Y ⟨⟨aa,Z⟩,⟨p,d⟩,Q⟩;clear X h;cbv;exact⟨(),⟨⟨aa,Z⟩,⟨p,d⟩,Q⟩,.e rfl (.e4 .z),rfl⟩
 ·rintro E ah _ s a ab H o Y hF h ⟨⟨aa,Z⟩,⟨p,d⟩,Q⟩
  repeat' (cbv;first|apply C2 Y h<;>intro _ h|apply K2 Y|refine B3 Y h (c122 _ _) .z λ_ h=>?_|apply C3 Y Q 2 rfl|refine C5 Y Q 2 rfl rfl λH Q=>?_|(cases h;exact⟨_,rfl,⟨⟨aa,Z⟩,⟨p,d⟩,Q⟩⟩)|refine At6 Y (kt:=9) (et:=4) za3 za3 Ai0 (false:Bool) za3 rfl Q d 1 rfl h λ_ h=>?_|refine At4 Y (kt:=9) (et:=4) za3 za3 Ai0 Sz Q d 1 rfl h λ_ U H A h Q=>?_|refine GD (f:=eBF0) Y Oe za5 Q 0 rfl p (l:=a.2) (m:=[s]) .z (.lstc (.eq (eBG2 s) .z) (.lst0)) h λai v H Q B h=>?_)
  cbv;obtain⟨au,X,h⟩:=bind_some h;refine Q5 cf86 Y N0 (λe l G=>e= .normal/\l=[(4,.v (.eref [.eref (C4 aO) 0] 0)),(8,.v (.ref u 0))]/\B9 Eq ab [.tl v,.blk I (.obj U),cb z [.sl (Ar.lst eBF0 ai) v],cb u [.sl [] .nil]] G) za3 ?_ ?_
  ·clear h;have h:=X;exact Zg
  clear X;rintro e l H ⟨rfl,rfl,Q⟩;cbv;apply C2 Y h<;>intro _ h
  ·cbv;refine C5 Y Q 3 rfl rfl λH Q=>?_;cbv;cases h;exact⟨_,rfl,rfl,⟨⟨v,U⟩,⟨rfl,⟨B,A⟩⟩,Q⟩⟩
  cbv;cases h;exact⟨_,rfl,⟨⟨v,U⟩,⟨B,A⟩,Q⟩⟩
 ·rintro L al H rfl hd ⟨⟨ac,aj⟩,⟨ap,an⟩,Q⟩;have Q:B9 Eq D [.tl ac,.blk I (.obj aj),cb z [.sl (Ar.lst eBF0 al.2) ac],cb u [.sl [] .nil],.blk L DB] H:=B9.dblk hd Q;clear hd;cbv;apply C3 Y Q 2 rfl;cbv;refine C5 Y Q 3 rfl rfl λH Q=>?_;cbv;refine Je Y Q 4 rfl λH Q=>?_;exact Zg
 rintro L am e H rfl hd hX
 rcases hX with⟨⟨ad,ak⟩,⟨rfl,aq,ao⟩,Q⟩
 have Q:B9 Eq D [.tl ad,.blk I (.obj ak),cb z [.sl (Ar.lst eBF0 am.2) ad],cb u [.sl [] .nil],.blk L DB] H:=B9.dblk hd Q;clear hd;cbv;refine Je Y Q 4 rfl λH Q=>?_;exact Zg
def k161 (N n:Nat)(k:K86 N n)(a:Bo4 N n)(b:Bx8 N n):By3 N (n+1):=by
 intro g S c d r h
 unfold Y1 at h
 refine Av cf161 N0 func161 za9 za3 call161 ntmps161 za9 za9 ?_;intro E H0 K Y J;have Q:B9 Eq H0 [] H0:=.start H8 rfl;cbv;apply K2 Y;cbv;apply C2 Y h<;>intro _ h
 ·cbv;refine E6 Y eBF1 h λm h=>?_;cbv;refine B3 Y h (k g m c d) .z λv h=>?_;cbv;refine Ht Y h (c186 N v) .z λp q x h=>?_;cbv;cases h;exact J _ _ _ Q x
 repeat' (cbv;first|refine Ht Y h (λj X=>a g o c d (.func (.func 188) [] [.eref [.eref (C4 g) 0] 0,.eref [vi S.Op,sr eBE7 l,vi S.Typ,vi S.Var,vi S.dI,vi S.Span,vi S.dF.Op,sr eBF9 S.dF.dD,vi S.dF.Var,vi S.dF.Field,vi S.dF.Kind,vi S.dF.Value.Kind,vi S.dF.Value.Num,.str S.dF.Value.Text] 0]) (λy V=>R7 N n y V g ({S with dD:=l})) (λy V r X=>B8.value (F:=[]) (C:=[.eref [.eref (C4 g) 0] 0,.eref [vi S.Op,sr eBE7 l,vi S.Typ,vi S.Var,vi S.dI,vi S.Span,vi S.dF.Op,sr eBF9 S.dF.dD,vi S.dF.Var,vi S.dF.Field,vi S.dF.Kind,vi S.dF.Value.Kind,vi S.dF.Value.Num,.str S.dF.Value.Text] 0]) (b y V g ({S with dD:=l}) r X)) ⟨rfl,rfl⟩ j X) .z λ_ _ i h=>?_|refine E6 Y eBF1 h λo h=>?_|refine C5 Y Q 0 rfl rfl λH Q=>?_|refine G0 Y Q λ_ H Q=>?_|(cases h;exact J _ _ _ Q i)|refine Pj Y (f:=eBE7) Lk h λl _ h=>?_|refine Bu4 Y Q 0 rfl (.r (.cons (.ro _ _) .z)) λH Q=>?_)
def k162 (N n:Nat)(a:Bx7 N n):By2 N (n+1):=by
 intro i S b g r h
 unfold Y2 at h
 refine Av cf0 N0 func162 za9 za3 call162 ntmps162 za9 za9 ?_;intro E H0 K Y J;have Q:B9 Eq H0 [] H0:=.start H8 rfl;cbv;exact J _ _ _ Q (Bl call189 (a S i b g r h))
def k163 (N n:Nat)(a:Bx6 N n):By1 N (n+1):=by
 intro i S b g r h
 unfold Y3 at h
 refine Av cf0 N0 func163 za9 za3 call163 ntmps163 za9 za9 ?_;intro E H0 K Y J;have Q:B9 Eq H0 [] H0:=.start H8 rfl;cbv;exact J _ _ _ Q (Bl call190 (a S i b g r h))
def k164 (N n:Nat)(a:Bx5 N n):By0 N (n+1):=by
 intro i S b g r h
 unfold W7 at h
 refine Av cf0 N0 func164 za9 za3 call164 ntmps164 za9 za9 ?_;intro E H0 K Y J;have Q:B9 Eq H0 [] H0:=.start H8 rfl;cbv;exact J _ _ _ Q (Bl call192 (a i S b g r h))
def k165 (N n:Nat)(a:Bx3 N n):Bx9 N (n+1):=by
 intro i S b g r h
 unfold M5 at h
 refine Av cf0 N0 func165 za9 za3 call165 ntmps165 za9 za9 ?_;intro E H0 K Y J;have Q:B9 Eq H0 [] H0:=.start H8 rfl;cbv;exact J _ _ _ Q (Bl call194 (a i S b g r h))
def k187 (N n:Nat)(a:Bx2 N n):Bo4 N (n+1):=by
 intro i S b g l k x y r h
 unfold W6 at h
 refine Av cf187 N0 func187 za9 za3 call187 ntmps187 za9 za9 ?_;intro E H0 K Y J;have Q:B9 Eq H0 [] H0:=.start H8 rfl;cbv;apply LY Y y;cbv;exact J _ _ _ Q (Bl call223 (a i S b g l k x r h))
def k188 (N n:Nat)(a:K86 N n):Bx8 N (n+1):=by
 intro b g i k r h
 unfold R7 at h
 refine R4 cf0 func188 call188 ntmps188 ?_;intro E D K Y J Q;cbv;refine B3 Y h (a i k b g) .z λl h=>?_;exact Zg
def k189 (N n:Nat) (i:K86 N n):Bx7 N (n+1):=by
 intro b y V c r h
 unfold AY at h
 obtain⟨⟨w0,u0⟩,O,f⟩:=bind_some h;clear h;have f:=G3 f;subst f;have h:=O;clear O;refine U5 cf0 N0 func189 za9 za3 call189 ntmps189 za9 (λ_=>rfl) ?_;intro z I D C B m tl F E H K Y Q J d
 have Q:B9 (I (List.map (λ(x:(Up A3))=>[sr eBE1 x]) (w0++[])++tl)) F [] H:=by rw[E5];exact Q
 cbv;apply K2 Y;cbv;obtain⟨w2,T,s6,X,h,a⟩:=N5 h
 rw[a,D2]at Q
 clear a;refine Gs cf0 Y N0 (γ:=Unit) (λk g=>[(0,.v (z)),(2,.v (.eref [.eref (C4 y) 0] 0)),(3,.v (.eref [sr eBE1 V] 0)),(4,.v (.eref [vi c] 0)),(11,.v (sr eBE7 b.dD)),fi 12 (Ar.len b.dD),fi 13 k]) (λk g w G=>B9 (I (List.map (λ(x:(Up A3))=>[sr eBE1 x]) w++tl)) F [] G) (λx e l w G=>e= .exit 0/\l=[]/\B9 (I (List.map (λ(x:(Up A3))=>[sr eBE1 x]) w++tl)) F [] G) (λe l G=>(e= .ret/\l=[]/\B9 D F [] G)) za3 ?_ (w':=T++[]) () X ?_ ?_ ?_ ?_
 ·rintro k _ w4 U H o Q h
  skip
  cbv;apply C2 Y h<;>intro _ h
  ·cbv;refine E6 Y eBF1 h λZ h=>?_;cbv;refine B3 Y h (i y Z V c) .z λA h=>?_;cbv;apply K2 Y;cbv;obtain⟨M,q,L,X,h,a⟩:=N5 h
   rw[a,D2]at Q
   clear a;refine Gs cf0 Y N0 (γ:=Unit) (λp g=>[(0,.v (z)),(2,.v (.eref [.eref (C4 y) 0] 0)),(3,.v (.eref [sr eBE1 V] 0)),(4,.v (.eref [vi c] 0)),(11,.v (sr eBE7 b.dD)),fi 12 (Ar.len b.dD),fi 13 k,(21,.v (sr eBF0 A)),fi 22 (Ar.len A),fi 23 p]) (λp g w G=>B9 (I (List.map (λ(x:(Up A3))=>[sr eBE1 x]) w++tl)) F [] G) (λx e l w G=>e= .exit 2/\l=[(0,.v (z)),(2,.v (.eref [.eref (C4 y) 0] 0)),(3,.v (.eref [sr eBE1 V] 0)),(4,.v (.eref [vi c] 0)),(11,.v (sr eBE7 b.dD)),fi 12 (Ar.len b.dD),fi 13 k]/\B9 (I (List.map (λ(x:(Up A3))=>[sr eBE1 x]) w++tl)) F [] G) (λe l G=>(e= .ret/\l=[]/\B9 D F [] G)) za3 ?_ (w':=q++U) () X ?_ ?_ ?_ ?_
   ·rintro p _ S s H o Q h
    skip
    cbv;apply C2 Y h<;>intro _ h
    ·cbv;refine E6 Y eBG2 h λv h=>?_;cbv;obtain⟨u,h,a⟩:=V9 h
     rw[a,D2]at Q
     clear a;have Q:B9 (I ([sr eBE1 v]::(List.map (λ(x:(Up A3))=>[sr eBE1 x]) (u++s)++tl))) F [] _:=Q;refine EC Y C B m Q .z (λH Q=>?_) (λH Q=>?_)
     ·cbv;apply Kg Y (Ar.nt_eq _);cbv;obtain⟨R,rfl⟩:=D7 h
      rw[<-R]at Q
      exact⟨_,(),rfl,.e2 (.e4 (.e4 .z)),rfl,Q⟩
     clear h;cbv;apply Kf Y (Ar.nt_eq _);cbv;exact .inr ⟨_,⟨rfl,rfl,Q⟩,.z,rfl⟩
    cbv;obtain⟨R,rfl⟩:=D7 h
    rw[<-R]at Q
    exact .inl ⟨_,_,rfl,⟨rfl,rfl,Q⟩,.e rfl (.e2 (.e4 .z)),rfl⟩
   ·exact .e2 (.e4 (.e4 .z))
   ·exact Q
   ·rintro e l H ⟨rfl,rfl,Q⟩;cbv;obtain⟨R,rfl⟩:=D7 h
    rw[<-R]at Q
    exact⟨_,(),rfl,.e rfl (.e2 (.e4 .z)),rfl,Q⟩
   rintro e l H j;obtain⟨rfl,rfl,Q⟩:=j;clear h;cbv;exact .inr ⟨_,⟨rfl,rfl,Q⟩,.z,rfl⟩
  cbv;obtain⟨R,rfl⟩:=D7 h
  rw[<-R]at Q
  exact .inl ⟨_,_,rfl,⟨rfl,rfl,Q⟩,.z,rfl⟩
 ·exact .e rfl (.e2 (.e4 .z))
 ·exact Q
 ·rintro e l H ⟨rfl,rfl,Q⟩;cbv;obtain⟨R,_⟩:=D7 h
  rw[<-R]at Q
  exact J _ _ _ Q trivial
 rintro e l H j;obtain⟨rfl,rfl,Q⟩:=j;clear h;cbv;exact d _ _ _ Q trivial
def k190 (N n:Nat) (k:K86 N n):Bx6 N (n+1):=by
 intro s V u z r h
 unfold AZ at h
 obtain⟨⟨w0,u0⟩,O,d⟩:=bind_some h;clear h;have d:=G3 d;subst d;have h:=O;clear O;refine U5 cf0 N0 func190 za9 za3 call190 ntmps190 za9 (λ_=>rfl) ?_;intro M I D T S Z tl F E H K Y Q J c
 have Q:B9 (I (List.map (λ(x:(Up A3))=>[sr eBE1 x]) (w0++[])++tl)) F [] H:=by rw[E5];exact Q
 cbv;apply K2 Y;cbv;replace Q:=Q.tl0 (t:=.nil) rfl;obtain⟨w3,w4,s7,X,h,a⟩:=N5 h
 rw[a,D2]at Q
 clear a;refine Gs cf0 Y N0 (γ:=J8) (λy g=>[(0,.v (M)),(2,.v (.eref [.eref (C4 V) 0] 0)),(3,.v (.eref [sr eBE1 u] 0)),(4,.v (.eref [vi z] 0)),(6,.v (.sl (Ar.lst eBG5 y.1) g)),(10,.v (sr eBE7 s.dD)),fi 11 (Ar.len s.dD),fi 12 y.2]) (λy g w G=>Ed g/\B9 (I (List.map (λ(x:(Up A3))=>[sr eBE1 x]) w++tl)) F [.tl g] G) (λx e l w G=>∃q:J8,Ed q/\e= .exit 0/\l=[(0,.v (M)),(2,.v (.eref [.eref (C4 V) 0] 0)),(6,.v (.sl (Ar.lst eBG5 x) q))]/\B9 (I (List.map (λ(x:(Up A3))=>[sr eBE1 x]) w++tl)) F [.tl q] G) (λe l G=>False) za3 ?_ (w':=w4++[]) .nil X ?_ ?_ ?_ ?_
 ·rintro y t2 w5 w6 H o ⟨i,Q⟩ h
  skip
  cbv;apply C2 Y h<;>intro _ h
  ·cbv;refine E6 Y eBF1 h λx8 h=>?_;cbv;refine B3 Y h (k V x8 u z) .z λL h=>?_;cbv;refine GD (f:=eBG5) Y HQ za5 Q 0 rfl i (l:=y.1) (m:=[L]) .z (.lstc (.eq (eBH4 L) .z) (.lst0)) h λaa p H Q b h=>?_;cbv;obtain⟨R,rfl⟩:=D7 h
   rw[<-R]at Q
   exact⟨_,p,rfl,.e4 (.e4 .z),rfl,⟨b,Q⟩⟩
  cbv;obtain⟨R,rfl⟩:=D7 h
  rw[<-R]at Q
  exact .inl ⟨_,_,rfl,⟨t2,i,rfl,rfl,Q⟩,.e rfl (.e2 .z),rfl⟩
 ·exact .e4 (.v (.slt _ (.lst0)) (.e rfl (.e rfl (.e rfl (.z)))))
 ·exact⟨trivial,Q⟩
 ·rintro e l H ⟨ab,C,rfl,rfl,Q⟩;cbv;apply C2 Y h<;>intro _ h
  ·cbv;obtain⟨j,B,h⟩:=bind_some h;obtain⟨ac,h,a⟩:=V9 h
   rw[a,D2]at Q
   clear a
   rw[P9,D2]at Q
   refine Sy Y T S Z (c191 N N s7 ([]) j B) Q (.cons (.ro _ _) (.cons (.lit _ (F3)) .z)) (λv H A Q=>?_) (λv H A Q=>?_)
   ·cases A;clear B;cbv;obtain⟨R,_⟩:=D7 h
    rw[<-R]at Q
    exact J _ _ _ Q trivial
   cases A;clear h B;cbv;exact c _ _ _ Q trivial
  cbv;obtain⟨R,_⟩:=D7 h
  rw[<-R]at Q
  exact J _ _ _ Q trivial
 rintro e l H U;exact U.elim
def k192 (N n:Nat) (A:K86 N n) (d:Bo4 N n) (j:Bx4 N n):Bx5 N (n+1):=by
 intro V q M S r h
 unfold AL at h
 obtain⟨⟨w0,u0⟩,O,f⟩:=bind_some h;clear h;have f:=G3 f;subst f;have h:=O;clear O;refine U5 cf192 N0 func192 za9 za3 call192 ntmps192 za9 (λ_=>rfl) ?_;intro yv I D T Z m tl F E H K Y Q J u
 have Q:B9 (I (List.map (λ(x:(Up A3))=>[sr eBE1 x]) (w0++[])++tl)) F [] H:=by rw[E5];exact Q
 cbv;apply LY Y m.1;cbv;refine E6 Y eBF1 h λx1 h=>?_;cbv;refine E3 Y (g:=λv=>sr eBF0 v) h (A V x1 M S) .z λv h=>?_;cbv;apply K2 Y;cbv;obtain⟨w4,w5,s8,X,h,a⟩:=N5 h
 rw[a,D2]at Q
 clear a;refine Gs cf192 Y N0 (γ:=Unit) (λs3 g=>[(1,.v (.eref [.eref (C4 V) 0] 0)),(2,.v (.eref (D5 q) 0)),(3,.v (.eref [sr eBE1 M] 0)),(4,.v (.eref [vi S] 0)),(5,.v (.eref [yv] 0)),(16,.v (sr eBF0 v)),fi 17 (Ar.len v),fi 18 s3]) (λs3 g w G=>B9 (I (List.map (λ(x:(Up A3))=>[sr eBE1 x]) w++tl)) F [] G) (λx e l w G=>match(generalizing:=false) x with| .inl y=>e= .exit 0/\l=[(1,.v (.eref [.eref (C4 V) 0] 0)),(2,.v (.eref (D5 q) 0)),(3,.v (.eref [sr eBE1 M] 0)),(4,.v (.eref [vi S] 0)),(5,.v (.eref [yv] 0))]/\B9 (I (List.map (λ(x:(Up A3))=>[sr eBE1 x]) w++tl)) F [] G| .inr y=>e= .ret/\l=[]/\B9 (I (List.map (λ(x:(Up A3))=>[sr eBE1 x]) w++tl)) F [] G) (λe l G=>(e= .ret/\l=[]/\B9 D F [] G)) za3 ?_ (w':=w5++[]) () X ?_ ?_ ?_ ?_
 ·rintro s3 _ w6 w7 H o Q h
  skip
  repeat' (cbv;first|apply C2 Y h<;>intro _ h|refine E6 Y eBG2 h λx9 h=>?_)
  ·cbv;obtain⟨b,rfl⟩:=D7 h
   rw[<-b]at Q
   exact .inl ⟨_,_,rfl,⟨rfl,rfl,Q⟩,.z,rfl⟩
  ·cbv;obtain⟨ab,h,a⟩:=V9 h
   rw[a,D2]at Q
   clear a;have Q:B9 (I ([sr eBE1 x9]::(List.map (λ(x:(Up A3))=>[sr eBE1 x]) (ab++w7)++tl))) F [] _:=Q;refine EC Y T Z m Q .z (λH Q=>?_) (λH Q=>?_)
   ·cbv;apply Kg Y (Ar.nt_eq _);cbv;obtain⟨b,rfl⟩:=D7 h
    rw[<-b]at Q
    exact⟨_,(),rfl,.e4 (.e4 .z),rfl,Q⟩
   clear h;cbv;apply Kf Y (Ar.nt_eq _);cbv;exact .inr ⟨_,⟨rfl,rfl,Q⟩,.z,rfl⟩
  cbv;obtain⟨b,rfl⟩:=D7 h
  rw[<-b]at Q
  exact .inl ⟨_,_,rfl,⟨rfl,rfl,Q⟩,.e rfl (.e4 .z),rfl⟩
 ·exact .e4 (.e4 .z)
 ·exact Q
 ·rintro e l H U
  rcases s8 with aj|ak
  ·obtain⟨rfl,rfl,Q⟩:=U;cbv;refine E6 Y eBF1 h λae h=>?_;cbv;refine Ht Y h (λB X=>d V ae M S (.func (.func 193) [] [.eref [.eref (C4 V) 0] 0,.eref (D5 q) 0]) (λy1 y2=>N9 N n y1 y2 V q) (λy1 y2 r X=>B8.value (F:=[]) (C:=[.eref [.eref (C4 V) 0] 0,.eref (D5 q) 0]) (j y1 y2 V q r X)) ⟨rfl,rfl⟩ B X) .z λB ag z h=>?_;cbv;obtain⟨ah,L,af,X,h,a⟩:=N5 h
   rw[a,D2]at Q
   clear a;refine Rk cf192 Y N0 (ι:=Unit) (σ:=Unit) (R:=Unit) (enc:=λ(x:(Up A3))=>[sr eBE1 x]) (λ_ w p H=>B9 (I (List.map (λ(x:(Up A3))=>[sr eBE1 x]) w++tl)) p [] H) (λ_ e w p H=>False) (λe p H=>e= .ret/\B9 D p [] H) (λi _ k=>[(5,.v (.eref [yv] 0)),(8,.v (sr eBE1 k))]) (λi _ k w p H=>B9 (I (List.map (λ(x:(Up A3))=>[sr eBE1 x]) w++tl)) p [] H) (λ_ _=>B9.stable (T _) _) (λ_ _ _=>⟨λh=>h.elim,λ_ _ h=>h.elim⟩) (λ_=>G9.con (B9.stable Z _)) (λ_ _ _ _=>B9.stable (T _) _) z X (w':=L++[]) Q za5 (λ_=>rfl) za3 za3 ?_ ?_ ?_ ?_ ?_
   ·rintro E aa k _ w s H Y Q;clear X h;cbv;exact⟨(),Q,.e2 .z,rfl⟩
   ·rintro E aa _ k _ ai ac s H o Y hF h Q;cbv;obtain⟨ad,h,a⟩:=V9 h
    rw[a,D2]at Q
    clear a;have Q:B9 (I ([sr eBE1 k]::(List.map (λ(x:(Up A3))=>[sr eBE1 x]) (ad++ac)++tl))) s [] _:=Q;refine EC Y T Z m Q .z (λH Q=>?_) (λH Q=>?_)
    ·cbv;apply Kg Y (Ar.nt_eq _);cbv;obtain⟨b,rfl⟩:=D7 h
     rw[<-b]at Q
     exact⟨_,rfl,Q⟩
    clear h;cbv;apply Kf Y (Ar.nt_eq _);cbv
    first|exact .inr ⟨rfl,rfl,Q⟩|exact .inr (Q)
   ·rintro c _ H rfl hd Q;have Q:B9 (I (List.map (λ(x:(Up A3))=>[sr eBE1 x]) (L++[])++tl)) F [.blk c DB] H:=B9.dblk hd Q;clear hd X;cbv;refine Je Y Q 0 rfl λH Q=>?_;cbv;obtain⟨b,_⟩:=D7 h
    rw[<-b]at Q
    exact J _ _ _ Q trivial
   ·rintro _ _ _ _ _ _ h;exact h.elim
   rintro c e H hd ⟨rfl,Q⟩;have Q:B9 D F [.blk c DB] H:=B9.dblk hd Q;clear hd X h;cbv;refine Je Y Q 0 rfl λH Q=>?_;cbv;exact u _ _ _ Q trivial
  obtain⟨rfl,rfl,Q⟩:=U;cbv;obtain⟨b,_⟩:=D7 h
  rw[<-b]at Q
  exact J _ _ _ Q trivial
 rintro e l H U;obtain⟨rfl,rfl,Q⟩:=U;clear h;cbv;exact u _ _ _ Q trivial
def k193 (N n:Nat)(a:K86 N n):Bx4 N (n+1):=by
 intro b g i k r h
 unfold N9 at h
 refine R4 cf0 func193 call193 ntmps193 ?_;intro E D K Y J Q;cbv;refine B3 Y h (a i k b g) .z λl h=>?_;exact Zg
def k194 (N n:Nat) (b:K86 N n):Bx3 N (n+1):=by
 intro V d c j r h
 unfold AK at h
 obtain⟨⟨w0,M⟩,O,f⟩:=bind_some h;clear h;have f:=G3 f;subst f;have h:=O;clear O;refine U5 cf194 N0 func194 za9 za3 call194 ntmps194 za9 (λ_=>rfl) ?_;intro C I D q p m tl F E H K Y Q J i
 have Q:B9 (I (List.map (λ(x:(Up A3))=>[sr eBE1 x]) (w0++[])++tl)) F [] H:=by rw[E5];exact Q
 cbv;refine E6 Y eBF1 h λA h=>?_;cbv;refine E3 Y (g:=λv=>sr eBF0 v) h (b V A c j) .z λv h=>?_;cbv;apply K2 Y;cbv;obtain⟨S,u,L,X,h,a⟩:=N5 h
 rw[a,D2]at Q
 clear a;refine Gs cf194 Y N0 (γ:=Unit) (λk g=>[(0,.v (C)),(1,.v (.eref [.eref (C4 V) 0] 0)),(2,.v (.eref (D5 d) 0)),(3,.v (.eref [sr eBE1 c] 0)),(15,.v (sr eBF0 v)),fi 16 (Ar.len v),fi 17 k]) (λk g w G=>B9 (I (List.map (λ(x:(Up A3))=>[sr eBE1 x]) w++tl)) F [] G) (λx e l w G=>e= .exit 0/\l=[]/\B9 (I (List.map (λ(x:(Up A3))=>[sr eBE1 x]) w++tl)) F [] G) (λe l G=>(e= .ret/\l=[]/\B9 D F [] G)) za3 ?_ (w':=u++[]) () X ?_ ?_ ?_ ?_
 ·rintro k _ T z H o Q h
  skip
  repeat' (cbv;first|apply C2 Y h<;>intro _ h|refine B3 Y h (c195 _ _ _ _ _) .z λ_ h=>?_|refine E6 Y eBG2 h λB h=>?_)
  ·cbv;obtain⟨y,h,a⟩:=V9 h
   rw[a,D2]at Q
   clear a;have Q:B9 (I ([sr eBE1 B]::(List.map (λ(x:(Up A3))=>[sr eBE1 x]) (y++z)++tl))) F [] _:=Q;refine EC Y q p m Q .z (λH Q=>?_) (λH Q=>?_)
   ·cbv;apply Kg Y (Ar.nt_eq _);cbv;obtain⟨R,rfl⟩:=D7 h
    rw[<-R]at Q
    exact⟨_,(),rfl,.e rfl (.e2 (.e4 .z)),rfl,Q⟩
   clear h;cbv;apply Kf Y (Ar.nt_eq _);cbv;exact .inr ⟨_,⟨rfl,rfl,Q⟩,.z,rfl⟩
  ·cbv;obtain⟨R,rfl⟩:=D7 h
   rw[<-R]at Q
   exact⟨_,(),rfl,.e rfl (.e2 (.e4 .z)),rfl,Q⟩
  cbv;obtain⟨R,rfl⟩:=D7 h
  rw[<-R]at Q
  exact .inl ⟨_,_,rfl,⟨rfl,rfl,Q⟩,.z,rfl⟩
 ·exact .e rfl (.e2 (.e4 .z))
 ·exact Q
 ·rintro e l H ⟨rfl,rfl,Q⟩;cbv;obtain⟨R,_⟩:=D7 h
  rw[<-R]at Q
  exact J _ _ _ Q trivial
 rintro e l H s;obtain⟨rfl,rfl,Q⟩:=s;clear h;cbv;exact i _ _ _ Q trivial
def k223 (N n:Nat) (j:K86 N n):Bx2 N (n+1):=by
 intro p S q T s cP U r h
 unfold AJ at h
 obtain⟨⟨w0,u0⟩,O,f⟩:=bind_some h;clear h;have f:=G3 f;subst f;have h:=O;clear O;refine U5 cf223 N0 func223 za9 za3 call223 ntmps223 za9 (λ_=>rfl) ?_;intro M I D hI Z m tl F E H K Y Q J u
 have Q:B9 (I (List.map (λ(x:(Up A3))=>[sr eBE1 x]) (w0++[])++tl)) F [] H:=by rw[E5];exact Q
 cbv;refine B3 Y h (j p S q T) .z λc h=>?_;cbv;apply K2 Y;cbv;obtain⟨w3,w4,s7,X,h,i⟩:=N5 h
 rw[i,D2]at Q
 clear i;refine Gs cf223 Y N0 (γ:=Unit) (λd g=>[(0,.v (M)),(1,.v (.eref [.eref (C4 p) 0] 0)),(3,.v (.eref [sr eBE1 q] 0)),(5,.v (.eref [s] 0)),(15,.v (sr eBF0 c)),fi 16 (Ar.len c),fi 17 d]) (λd g w G=>B9 (I (List.map (λ(x:(Up A3))=>[sr eBE1 x]) w++tl)) F [] G) (λx e l w G=>match(generalizing:=false) x with| .inl y=>e= .exit 0/\l=[]/\B9 (I (List.map (λ(x:(Up A3))=>[sr eBE1 x]) w++tl)) F [] G| .inr y=>e= .ret/\l=[]/\B9 (I (List.map (λ(x:(Up A3))=>[sr eBE1 x]) w++tl)) F [] G) (λe l G=>(e= .ret/\l=[]/\B9 D F [] G)) za3 ?_ (w':=w4++[]) () X ?_ ?_ ?_ ?_
 ·rintro d _ w5 w6 H o Q h
  skip
  repeat' (cbv;first|apply C2 Y h<;>intro _ h|apply K2 Y|refine E6 Y eBG2 h λx8 h=>?_|refine E3 Y (g:=λz=>sr eBE1 z) h (c224 _ _ _) .z λz h=>?_|refine E3 Y (g:=λk=>vi k) h (c225 _ _) .z λk h=>?_|refine Ah3 Y (g:=λa=>sr eBF0 a) h (λa X=>U z (Ar.ar .add .i64 k 1) a X) .z λa h=>?_)
  ·cbv;obtain⟨aa,B,A,X,h,i⟩:=N5 h
   rw[i,D2]at Q
   clear i;refine Gs cf223 Y N0 (γ:=Unit) (λV g=>[(0,.v (M)),(1,.v (.eref [.eref (C4 p) 0] 0)),(3,.v (.eref [sr eBE1 q] 0)),(5,.v (.eref [s] 0)),(8,.v (sr eBE1 x8)),(15,.v (sr eBF0 c)),fi 16 (Ar.len c),fi 17 d,(28,.v (sr eBF0 a)),fi 29 (Ar.len a),fi 30 V]) (λV g w G=>B9 (I (List.map (λ(x:(Up A3))=>[sr eBE1 x]) w++tl)) F [] G) (λx e l w G=>match(generalizing:=false) x with| .inl y=>e= .exit 2/\l=[(0,.v (M)),(1,.v (.eref [.eref (C4 p) 0] 0)),(3,.v (.eref [sr eBE1 q] 0)),(5,.v (.eref [s] 0)),(15,.v (sr eBF0 c)),fi 16 (Ar.len c),fi 17 d]/\B9 (I (List.map (λ(x:(Up A3))=>[sr eBE1 x]) w++tl)) F [] G| .inr y=>e= .ret/\l=[]/\B9 (I (List.map (λ(x:(Up A3))=>[sr eBE1 x]) w++tl)) F [] G) (λe l G=>(e= .ret/\l=[]/\B9 D F [] G)) za3 ?_ (w':=B++w6) () X ?_ ?_ ?_ ?_
   ·rintro V _ ab C H o Q h
    skip
    repeat' (cbv;first|apply C2 Y h<;>intro _ h|refine B3 Y h (c224 _ _ _) .z λv h=>?_|refine E6 Y eBG2 h λ_ h=>?_)
    ·cbv;obtain⟨R,rfl⟩:=D7 h
     rw[<-R]at Q
     exact .inl ⟨_,_,rfl,⟨rfl,rfl,Q⟩,.z,rfl⟩
    ·cbv;obtain⟨L,h,i⟩:=V9 h
     rw[i,D2]at Q
     clear i;have Q:B9 (I ([sr eBE1 v]::(List.map (λ(x:(Up A3))=>[sr eBE1 x]) (L++C)++tl))) F [] _:=Q;refine EC Y hI Z m Q .z (λH Q=>?_) (λH Q=>?_)
     ·cbv;apply Kg Y (Ar.nt_eq _);cbv;obtain⟨R,rfl⟩:=D7 h
      rw[<-R]at Q
      exact⟨_,(),rfl,.e rfl (.e2 (.e4 (.e4 .z))),rfl,Q⟩
     clear h;cbv;apply Kf Y (Ar.nt_eq _);cbv;exact .inr ⟨_,⟨rfl,rfl,Q⟩,.z,rfl⟩
    cbv;obtain⟨R,rfl⟩:=D7 h
    rw[<-R]at Q
    exact .inl ⟨_,_,rfl,⟨rfl,rfl,Q⟩,.e rfl (.e2 (.e4 .z)),rfl⟩
   ·exact .e rfl (.e2 (.e4 (.e4 .z)))
   ·exact Q
   ·rintro e l H b
    rcases A with ac|ad
    ·obtain⟨rfl,rfl,Q⟩:=b;cbv;obtain⟨R,rfl⟩:=D7 h
     rw[<-R]at Q
     exact⟨_,(),rfl,.e rfl (.e2 (.e4 .z)),rfl,Q⟩
    obtain⟨rfl,rfl,Q⟩:=b;cbv;obtain⟨R,rfl⟩:=D7 h
    rw[<-R]at Q
    exact .inl ⟨_,_,rfl,⟨rfl,rfl,Q⟩,.z,rfl⟩
   rintro e l H b;obtain⟨rfl,rfl,Q⟩:=b;clear h;cbv;exact .inr ⟨_,⟨rfl,rfl,Q⟩,.z,rfl⟩
  cbv;obtain⟨R,rfl⟩:=D7 h
  rw[<-R]at Q
  exact .inl ⟨_,_,rfl,⟨rfl,rfl,Q⟩,.z,rfl⟩
 ·exact .e rfl (.e2 (.e4 .z))
 ·exact Q
 ·rintro e l H b
  rcases s7 with ae|af
  ·obtain⟨rfl,rfl,Q⟩:=b;cbv;obtain⟨R,_⟩:=D7 h
   rw[<-R]at Q
   exact J _ _ _ Q trivial
  obtain⟨rfl,rfl,Q⟩:=b;cbv;obtain⟨R,_⟩:=D7 h
  rw[<-R]at Q
  exact J _ _ _ Q trivial
 rintro e l H b;obtain⟨rfl,rfl,Q⟩:=b;clear h;cbv;exact u _ _ _ Q trivial
def M9 (N:Nat):∀n,K86 N n/\By3 N n/\By2 N n/\By1 N n/\By0 N n/\Bx9 N n/\Bo4 N n/\Bx8 N n/\Bx7 N n/\Bx6 N n/\Bx5 N n/\Bx4 N n/\Bx3 N n/\Bx2 N n:=by
 intro n
 induction n with
 |zero=>exact⟨(by intro q S g i r h;unfold G6 at h;cases h),(by intro q S g i r h;unfold Y1 at h;cases h),(by intro q S g i r h;unfold Y2 at h;cases h),(by intro q S g i r h;unfold Y3 at h;cases h),(by intro q S g i r h;unfold W7 at h;cases h),(by intro q S g i r h;unfold M5 at h;cases h),(by intro q S g i B w C D r h;unfold W6 at h;cases h),(by intro g i p s r h;unfold R7 at h;cases h),(by intro u p s v r h;unfold AY at h;cases h),(by intro u p s v r h;unfold AZ at h;cases h),(by intro u p s v r h;unfold AL at h;cases h),(by intro g i p s r h;unfold N9 at h;cases h),(by intro u p s v r h;unfold AK at h;cases h),(by intro u p s v z A E r h;unfold AJ at h;cases h)⟩
 |succ n ih=>
  obtain⟨a,k,l,x,y,K,b,V,c,d,f,j,m,o⟩:=ih;exact⟨k86 N n k l x y K,k161 N n a b V,k162 N n c,k163 N n d,k164 N n f,k165 N n m,k187 N n o,k188 N n a,k189 N n a,k190 N n a,k192 N n a b j,k193 N n a,k194 N n a,k223 N n a⟩
def c86 (N n g S a b r)(h:G6 N n g S a b=some r):B8 prog 86 [.eref (C4 g) 0,(D0 S),sr eBE1 a,vi b] (sr eBF0 r):=(M9 N n).1 g S a b r h
@[reducible, instance] def zc86 (N n aO aA aH aK):=Ct.mk (f:=86) (c86 N n aO aA aH aK)
def c188 (N n a b g i r)(h:R7 N n a b g i=some r):B8 prog 188 [sr eBE1 a,vi b,.eref [.eref (C4 g) 0] 0,.eref (D5 i) 0] (sr eBF0 r):=(M9 N n).2.2.2.2.2.2.2.1 a b g i r h
@[reducible, instance] def zc188 (N n aH aK aM aP):=Ct.mk (f:=188) (c188 N n aH aK aM aP)
def c193 (N n a b g i r)(h:N9 N n a b g i=some r):B8 prog 193 [sr eBE1 a,vi b,.eref [.eref (C4 g) 0] 0,.eref (D5 i) 0] (sr eBF0 r):=(M9 N n).2.2.2.2.2.2.2.2.2.2.2.1 a b g i r h
@[reducible, instance] def zc193 (N n aH aK aM aP):=Ct.mk (f:=193) (c193 N n aH aK aM aP)
def cf44:Cf:=⟨[13,6000010],[(19,12)],[],[],[(70,10),(70,68)],[]⟩
def c44 (N S j r) (h:Ez N S j=some r):B8 prog 44 [(D0 S),sr eBE3 j] (.tup [sr eBE8 r.1,vi r.2]):=by
 refine R4 cf44 func44 call44 ntmps44 ?_;intro E D K Y J Q
 repeat' (cbv;first|refine C2 Y h (λc h=>?_) (λc h=>?_)|apply K2 Y|refine B3 Y h (c40 _ _) .z λ_ h=>?_|refine B3 Y h (c41 _ _) .z λ_ h=>?_|refine B3 Y h (c86 _ _ _ _ _ _) (.r (.r (.cons (.lit _ (F3)) .z))) λd h=>?_|(cases h;exact J Q (.tup (.cons (.lit _ (F3)) .z)))|refine BB3 Y (λc=>by cases c) (λ_=>?_)|refine Sx Y (f:=eBE8) Q λT H z Q=>?_)
 cbv;obtain⟨s7,X,h⟩:=bind_some h;refine S6 cf44 Y N0 (γ:=OG) (λi g=>[(1,.v (sr eBE3 j)),(10,.v (.own g.id g.lo g.n)),(36,.v (sr eBF0 d)),fi 37 (Ar.len d),fi 38 i.1]) (λi g G=>An g (Ar.len i.2)/\B9 Eq D [ob g 1 eBE8 i.2] G) (λx e l G=>∃V:OG,An V (Ar.len x)/\e= .exit 0/\l=[(10,.v (.own V.id V.lo V.n))]/\B9 Eq D [ob V 1 eBE8 x] G) za3 ?_ T X ?_ ?_ ?_
 ·rintro i k H o ⟨A,Q⟩ h;cbv;refine C2 Y h (λc h=>?_) (λc h=>?_)
  ·cbv;refine E6 Y eBG2 h λM h=>?_;cbv;refine G0 Y Q λp H Q=>?_;cbv;apply K2 Y;cbv;replace Q:=Q.cast (L':=[cb p [.sl (Ar.lst eBE4 ([])) .nil],ob k 1 eBE8 i.2]) (by simp only[ob,cb,sr,<-F3]<;>rfl);replace Q:=Q.tl0 (t:=.nil) rfl;obtain⟨v,X,h⟩:=bind_some h;refine S6 cf44 Y N0 (γ:=J8) (λb g=>[(1,.v (sr eBE3 j)),(10,.v (.own k.id k.lo k.n)),(13,.v (.ref p 0)),(36,.v (sr eBF0 d)),fi 37 (Ar.len d),fi 38 i.1,(42,.v (sr eBE1 M)),fi 43 (Ar.len M),fi 44 b.1]) (λb g G=>Ed g/\B9 Eq D [.tl g,cb p [.sl (Ar.lst eBE4 b.2.dE) g],ob k 1 eBE8 i.2] G) (λx e l G=>∃V:J8,Ed V/\e= .exit 2/\l=[(1,.v (sr eBE3 j)),(10,.v (.own k.id k.lo k.n)),(13,.v (.ref p 0)),(36,.v (sr eBF0 d)),fi 37 (Ar.len d),fi 38 i.1]/\B9 Eq D [.tl V,cb p [.sl (Ar.lst eBE4 x.dE) V],ob k 1 eBE8 i.2] G) za3 ?_ .nil X ?_ ?_ ?_
   ·rintro b U H o ⟨s,Q⟩ h;cbv;refine C2 Y h (λc h=>?_) (λc h=>?_)
    ·repeat' (cbv;first|refine E6 Y eBG1 h λw h=>?_|refine E6 Y eBF2 h λ_ h=>?_|apply C3 Y Q 1 rfl|refine C5 Y Q 1 rfl rfl λH Q=>?_|refine E3 Y (g:=λy=>(Gg y)) h (c87 _ _) .z λy h=>?_|(cases h;exact⟨_,I,rfl,.e rfl (.e4 (.e4 .z)),rfl,u,Q⟩)|refine GD (f:=eBE4) Y Y8 za5 Q 0 rfl s (l:=b.2.dE) (m:=[(⟨w.dJ,y⟩:B0)]) .z (.lstc (.eq (eBE9 (⟨w.dJ,y⟩:B0)) .z) (.lst0)) h λ_ I H Q u h=>?_)
    exact Zg
   ·exact .e rfl (.e4 (.e4 .z))
   ·exact⟨trivial,Q⟩
   clear X;rintro e l H ⟨Z,L,rfl,rfl,Q⟩;cbv;apply C3 Y Q 1 rfl;cbv;refine Ih (f:=eBE8) Y HY za5 Q A 2 rfl (m:=[v]) (FW (f:=eBE8) Y HY (.lstc (.eq (eBF8 v) (.agg (.cons (.ro _ _) .z))) (.lst0))) h λO F H q Q h=>?_;cbv;cases h;exact⟨_,F,rfl,.e rfl (.e4 .z),rfl,q,Q.tail.tail⟩
  exact Zg
 ·exact .e rfl (.e4 .z)
 ·exact⟨z,Q⟩
 clear X;rintro e l H ⟨R,a,rfl,rfl,Q⟩;cbv;refine Ox Y Q a 0 rfl h (λB X=>c57 (g:=17) (C:=[]) call17 (λy1 y2 r X=>c17 N y1 y2 r X) X) λB H a Q h=>?_;cbv;refine Zc Y Q a 0 rfl λH Q=>?_;cbv;apply LY Y (by trivial);exact Zg
@[reducible, instance] def zc44 (N aA aI):=Ct.mk (f:=44) (c44 N aA aI)
def c10 (N S a r)(h:Ho N S a=some r):B8 prog 10 [(D0 S),sr eBE3 a] (.tup [sr eBE8 r.1,vi r.2]):=by
 refine R4 cf0 func10 call10 ntmps10 ?_;intro E D K Y J Q;exact Zg
@[reducible, instance] def zc10 (N aA aI):=Ct.mk (f:=10) (c10 N aA aI)
def cf56:=cfA [7]
def c56 (N a r)(h:Y9 N a=some r):WH prog 56 [sr eBE4 a] 4 (Ar.lst eBE4 r):=by
 intro H0;refine FO (T:=TT) cf56 N0 func56 za9 za3 call56 ntmps56 za9 za9 ?_;intro E K Y J c;have Q:B9 Eq H0 [] H0:=.start H8 rfl;cbv;refine AW7 Y rfl (λX=>?_) ?_
 ·cbv;exact c (An7 X h) [] H0 Q
 cbv;refine AB6 (f:=eBE4) Y Y8 za5 Q (.inr rfl) (m:=a) (FW (f:=eBE4) Y Y8 .z) h λl q H b Q h=>?_;cbv;cases h;exact J q _ _ (Bx Y b) Q
def cf58:=cfB [] [(6,10),(11,10)]
def c58 (N:Nat) (w:Up D6) (M:V) (cC:D6->D6->OS Bool) (cU:∀y1 y2 q,cC y1 y2=some q->Y6 prog M [((BX y1)),((BX y2))] (.bool q)) (r:Up D6) (h:W2 N w cC=some r):QM prog 58 [M] 1 (Ar.lst eBE8 w) (Ar.lst eBE8 r):=by
 intro H0 a b S;refine FO (T:=TT) (F:=upd H0 a.id none) cf58 N0 func58 za9 za3 call58 ntmps58 za9 za9 ?_;intro E K Y J c;have Q:B9 Eq (upd H0 a.id none) [ob a 1 eBE8 w] H0:=B9.startO S;have b:An a (Ar.len w):=Ph b;cbv;apply MJ Y b;cbv;apply C2 Y h<;>intro _ h
 ·cbv;cases h;exact J a _ _ (Bx Y b) (Q)
 cbv;obtain⟨d,X,h⟩:=bind_some h;refine I8 cf58 Y N0 (λI=>[(0,.v (.own a.id a.lo a.n)),(1,.v (M)),fi 5 I]) (λI G=>B9 Eq (upd H0 a.id none) [ob a 1 eBE8 w] G) (λx e l G=>match(generalizing:=false) x with| .inl y=>e= .exit 0/\l=[(0,.v (.own a.id a.lo a.n))]/\B9 Eq (upd H0 a.id none) [ob a 1 eBE8 w] G| .inr y=>∃L:OG,An L (Ar.len y)/\e= .ret/\l=[(4,.v (.own L.id L.lo L.n))]/\B9 Eq (upd H0 a.id none) [ob L 1 eBE8 y] G) za3 ?_ X ?_ Q ?_
 ·intro I H o Q h;cbv;apply MJ Y b;cbv;apply C2 Y h<;>intro _ h
  ·cbv;refine R0 Y Q b 0 rfl h λh=>?_;cbv;refine U1 Y eBF8 Q b 0 rfl h λx3 h=>?_;cbv;refine R0 Y Q b 0 rfl h λh=>?_;cbv;refine U1 Y eBF8 Q b 0 rfl h λx4 h=>?_;cbv;refine AM Y (g:=λR=>.bool R) h (λR X=>cU x3 x4 R X) .z λR h=>?_;cbv;apply C2 Y h<;>intro _ h
   ·cbv;refine Sw Y Q b 0 rfl h λl6 O U h=>?_;cbv;obtain⟨s8,X,h⟩:=bind_some h;refine I8 cf58 Y N0 (λz=>[(0,.v (.own a.id a.lo a.n)),(1,.v (M)),fi 5 z.1,(6,.v (.own O.id O.lo O.n)),fi 7 z.2.1]) (λz G=>An a (Ar.len z.2.2)/\B9 Eq (upd H0 a.id none) [ob a 1 eBE8 z.2.2] G) (λx e l G=>An a (Ar.len x.2)/\e= .exit 2/\l=[(0,.v (.own a.id a.lo a.n)),fi 5 x.1]/\B9 Eq (upd H0 a.id none) [ob a 1 eBE8 x.2] G) za3 ?_ X ?_ ?_ ?_
    ·rintro z H o ⟨j,Q⟩ h;cbv;obtain⟨l7,Z,h⟩:=bind_some h;obtain⟨D,v,k,i⟩:=AV3 Q j 0 rfl U Z;replace i:B9 Eq (upd H0 a.id none) [.blk O.id (.arr 1 (D++Ar.lst eBE8 l7++v))] H:=i;apply MJ Y k;cbv;apply C2 Y h<;>intro _ h
     ·cbv;refine R0 Y i k 0 rfl h λh=>?_;cbv;refine U1 Y eBF8 i k 0 rfl h λx9 h=>?_;cbv;refine R0 Y i k 0 rfl h λh=>?_;cbv;refine U1 Y eBF8 i k 0 rfl h λab h=>?_
      repeat' (cbv;first|apply C2 Y h<;>intro _ h|refine AM Y (g:=λm=>.bool m) h (λm X=>cU x9 ab m X) .z λm h=>?_|(cases h;exact⟨_,rfl,.e rfl (.e4 .z),rfl,j,Q⟩)|refine R0 Y i k 0 rfl h λh=>?_|refine U1 Y eBF8 i k 0 rfl h λac h=>?_|refine R0 Y Q j 0 rfl h λh=>?_|(refine CQ Y (f:=eBE8) (esz:=1) (tz:=1) (off:=0) (u:=(λah:D6=>ac)) (λ_=>⟨_,.eq (eBF8 _) .z,(by rw[eBF8];rfl),HY _,rfl⟩) za5 Q j 0 rfl h λ_ H j h Q=>?_))
     cbv;cases h;exact⟨_,_,rfl,⟨j,rfl,rfl,Q⟩,.e2 .z,rfl⟩
    ·exact .e rfl (.e4 .z)
    ·exact⟨b,Q⟩
    clear X;rintro e l H ⟨p,rfl,rfl,Q⟩;cbv;refine Sw Y Q p 0 rfl h λad af A h=>?_;cbv;refine AL9 (f:=eBE8) Y Q p 0 rfl A h λae ag H s B Q h=>?_;cbv;refine AL7 (f:=eBE8) Y Q B 0 rfl s ?_;exact Zg
   exact Zg
  exact Zg
 ·exact .e rfl (.e2 .z)
 clear X
 rcases d with ai|aj
 ·rintro e l H ⟨rfl,rfl,Q⟩;cbv;cases h;exact J a _ _ (Bx Y b) (Q)
 rintro e l H ⟨aa,C,rfl,rfl,Q⟩;cbv;cases h;exact J aa _ _ (Bx Y C) (Q)
def c59 (N p a r)(h:JE N p a=some r):B8 prog 59 [(BX p),(BX a)] (.bool r):=by
 refine R4 cf0 func59 call59 ntmps59 ?_;intro E D K Y J Q;exact Zg
@[reducible, instance] def zc59 (N aB aC):=Ct.mk (f:=59) (c59 N aB aC)
def cf14:Cf:=⟨[6000004],[],[],[],[(23,22),(34,4),(34,30),(34,31)],[]⟩
def c14 (N p r) (h:MM N p=some r):B8 prog 14 [sr eBE8 p] (.tup [sr eBE8 r.1,vi r.2]):=by
 refine R4 cf14 func14 call14 ntmps14 ?_;intro E D K Y J Q;cbv;refine Sx Y (f:=eBE8) Q λB H q Q=>?_;cbv;apply K2 Y;cbv;obtain⟨O,X,h⟩:=bind_some h;refine S6 cf14 Y N0 (γ:=OG) (λd g=>[(4,.v (.own g.id g.lo g.n)),(8,.v (sr eBE8 p)),fi 9 (Ar.len p),fi 10 d.1]) (λd g G=>An g (Ar.len d.2)/\B9 Eq D [ob g 1 eBE8 d.2] G) (λx e l G=>match(generalizing:=false) x with| .inl y=>∃i:OG,An i (Ar.len y)/\e= .exit 0/\l=[(4,.v (.own i.id i.lo i.n))]/\B9 Eq D [ob i 1 eBE8 y] G| .inr y=>∃i:OG,An i (Ar.len y.2)/\e= .ret/\l=[(2,.v (.sl [] .nil)),fi 3 y.1]/\B9 Eq D [ob i 1 eBE8 y.2] G) za3 ?_ B X ?_ ?_ ?_
 ·rintro d T H o ⟨s,Q⟩ h;cbv;apply C2 Y h<;>intro _ h
  ·cbv;refine E6 Y eBF8 h λx5 h=>?_;cbv;refine B3 Y h (c55 N x5) .z λr6 h=>?_;cbv;apply C2 Y h<;>intro _ h
   ·exact Zg
   cbv;refine Pn Y (f:=eBE4) h (c56 N x5.dE) .z Q λw U H u Q h=>?_;cbv;refine Zc Y Q u 0 rfl λH Q=>?_;cbv;refine Ih (f:=eBE8) Y HY za5 Q s 0 rfl (m:=[(⟨w⟩:D6)]) (FW (f:=eBE8) Y HY (.lstc (.eq (eBF8 (⟨w⟩:D6)) .z) (.lst0))) h λA Z H z Q h=>?_;exact Zg
  exact Zg
 ·exact .e4 .z
 ·exact⟨q,Q⟩
 clear X
 rcases O with R|S
 ·rintro e l H ⟨I,a,rfl,rfl,Q⟩;cbv;refine Ox Y Q a 0 rfl h (λk X=>c57 (g:=17) (C:=[]) call17 (λc j r X=>c17 N c j r X) X) λk H a Q h=>?_;cbv;refine Ke Y (f:=eBE8) Q a 0 rfl h (λV X=>c58 N k (.func (.func 59) [] []) (λc j=>JE N c j) (λc j r X=>B8.value (F:=[]) (C:=[]) (c59 N c j r X)) V X) .z λV L H b Q h=>?_;cbv;apply MJ Y b;cbv;apply C2 Y h<;>intro _ h
  ·exact Zg
  repeat' (cbv;first|(cases h;exact J Q .z)|refine Zc Y Q b 0 rfl λH Q=>?_|apply LY Y (by trivial))
 rintro e l H ⟨M,v,rfl,rfl,Q⟩;exact Zg
@[reducible, instance] def zc14 (N aI):=Ct.mk (f:=14) (c14 N aI)
def cf15:=cfA [8]
def c15 (N:Nat) (a:Up D6) (i:Up D6) (k:V) (c:D6->D6->OS Bool) (m:∀f j q,c f j=some q->Y6 prog k [(BX f),(BX j)] (.bool q)) (r:Bool) (h:N6 N a i c=some r):B8 prog 15 [sr eBE8 a,sr eBE8 i,k] (.bool r):=by
 refine R4 cf15 func15 call15 ntmps15 ?_;intro E D K Y J Q
 repeat' (cbv;first|apply C2 Y h<;>intro _ h|apply K2 Y|(cases h;exact J Q .z))
 cbv;obtain⟨d,X,h⟩:=bind_some h;refine I8 cf15 Y N0 (λI=>[(1,.v (sr eBE8 i)),(2,.v (k)),(15,.v (sr eBE8 a)),fi 16 (Ar.len a),fi 17 I]) (λI G=>B9 Eq D [] G) (λx e l G=>match(generalizing:=false) x with| .inl y=>e= .exit 0/\l=[]/\B9 Eq D [] G| .inr y=>e= .ret/\l=[(6,.b false)]/\B9 Eq D [] G) za3 ?_ X ?_ Q ?_
 ·intro I H o Q h;cbv;apply C2 Y h<;>intro _ h
  ·cbv;refine E6 Y eBF8 h λp h=>?_;cbv;refine G0 Y Q λs H Q=>?_;cbv;refine C5 Y Q 0 rfl rfl λH Q=>?_;cbv;refine E6 Y eBF8 h λx5 h=>?_;cbv;apply C3 Y Q 0 rfl;cbv;refine AM Y (g:=λb=>.bool b) h (λb X=>m p x5 b X) .z λb h=>?_;exact Zg
  exact Zg
 ·exact .e rfl (.e4 .z)
 clear X
 rcases d with u|v
 ·rintro e l H ⟨rfl,rfl,Q⟩;exact Zg
 rintro e l H ⟨rfl,rfl,Q⟩;exact Zg
def c16 (N p a r)(h:Z9 N p a=some r):B8 prog 16 [(BX p),(BX a)] (.bool r):=by
 refine R4 cf0 func16 call16 ntmps16 ?_;intro E D K Y J Q;exact Zg
@[reducible, instance] def zc16 (N aB aC):=Ct.mk (f:=16) (c16 N aB aC)
def cf3:=cfB [11] [(11,15)]
def c3 (N S u r) (h:Ec N S u=some r):B8 prog 3 [(D0 S),sr eBE3 u] (.bool r):=by
 refine R4 cf3 func3 call3 ntmps3 ?_;intro E D K Y J Q
 repeat' (cbv;first|apply C2 Y h<;>intro _ h|apply K2 Y|refine B3 Y h (c4 _ _ _) .z λ_ h=>?_|refine B3 Y h (c8 _) .z λ_ h=>?_|refine B3 Y h (c5 _ _) .z λ_ h=>?_|refine B3 Y h (c6 _ _) .z λ_ h=>?_|refine B3 Y h (c7 _ _) .z λ_ h=>?_|refine B3 Y h (c9 _ _ _) .z λw h=>?_|refine B3 Y h (c10 _ _ _) .z λk h=>?_|(cases h;exact J Q .z))
 cbv;replace Q:=Q.tl0 (t:=.nil) rfl;obtain⟨z,X,h⟩:=bind_some h;refine S6 cf3 Y N0 (γ:=J8) (λa g=>[(1,.v (sr eBE3 u)),(2,.v (.eref (D5 S) 0)),(5,.v (sr eBE5 w.1)),(7,.v (sr eBE8 k.1)),(9,.v (.sl (Ar.lst eBE8 a.1) g)),(52,.v (sr eBE5 w.1)),fi 53 (Ar.len w.1),fi 54 a.2]) (λa g G=>Ed g/\B9 Eq D [.tl g] G) (λx e l G=>match(generalizing:=false) x with| .inl y=>∃V:J8,Ed V/\e= .exit 0/\l=[(7,.v (sr eBE8 k.1)),(9,.v (.sl (Ar.lst eBE8 y) V))]/\B9 Eq D [.tl V] G| .inr y=>∃V:J8,Ed V/\e= .ret/\l=[(4,.b false)]/\B9 Eq D [.tl V] G) za3 ?_ .nil X ?_ ?_ ?_
 ·rintro a A H o ⟨b,Q⟩ h;cbv;apply C2 Y h<;>intro _ h
  ·cbv;refine E6 Y eBE6 h λs h=>?_;cbv;refine G0 Y Q λU H Q=>?_;cbv;refine C5 Y Q 0 rfl rfl λH Q=>?_;cbv;apply C3 Y Q 0 rfl;cbv;refine E3 Y (g:=λj=>vi j) h (c11 N S u s) .z λj h=>?_;cbv;apply C2 Y h<;>intro _ h
   ·exact Zg
   cbv;apply C2 Y h<;>intro _ h
   ·repeat' (cbv;first|apply C2 Y h<;>intro _ h|refine B3 Y h (c12 _ _ _ _) .z λ_ h=>?_|refine B3 Y h (c13 _ _ _) .z λp h=>?_|refine E6 Y eBE6 h λ_ h=>?_|apply C3 Y Q 0 rfl|(cases h;exact⟨_,_,rfl,⟨A,b,rfl,rfl,Q.tail⟩,.b rfl (.z),rfl⟩)|(cases h;exact⟨_,B,rfl,.e4 (.e4 .z),rfl,c,Q.tail⟩)|refine GD (f:=eBE8) Y HY za5 Q 1 rfl b (l:=a.1) (m:=[p.1]) .z (.lstc (.eq (eBF8 p.1) .z) (.lst0)) h λ_ B H Q c h=>?_)
   cbv;apply C3 Y Q 0 rfl;cbv;refine B3 Y h (c13 N S s) .z λq h=>?_;cbv;apply C2 Y h<;>intro _ h
   ·exact Zg
   cbv;refine GD (f:=eBE8) Y HY za5 Q 1 rfl b (l:=a.1) (m:=[q.1]) .z (.lstc (.eq (eBF8 q.1) .z) (.lst0)) h λZ I H Q d h=>?_;cbv;cases h;exact⟨_,I,rfl,.e4 (.e4 .z),rfl,d,Q.tail⟩
  exact Zg
 ·exact .e4 (.v (.slt _ (.lst0)) (.e rfl (.e rfl (.e rfl (.z)))))
 ·exact⟨trivial,Q⟩
 clear X
 rcases z with O|ad
 ·rintro e l H ⟨ab,R,rfl,rfl,Q⟩;cbv;refine B3 Y h (c14 N O) (.cons (.ro _ _) .z) λv h=>?_;cbv;refine B3 Y h (c8 N) .z λaa h=>?_;cbv;apply C2 Y h<;>intro _ h
  ·cbv;refine B3 Y (g:=λi=>.bool i) h (λi X=>c15 N v.1 k.1 (.func (.func 16) [] []) (λL M=>Z9 N L M) (λL M r X=>B8.value (F:=[]) (C:=[]) (c16 N L M r X)) i X) .z λi h=>?_;exact Zg
  exact Zg
 rintro e l H ⟨ac,T,rfl,rfl,Q⟩;exact Zg
@[reducible, instance] def zc3 (N aA aD):=Ct.mk (f:=3) (c3 N aA aD)
end Go.Ab
namespace Go.Ab
open Go.RowKit Go.ChangeShapes Go.WideShapes
variable [P3]
def g0 (W:Is):Gh:=⟨λ_=>none,λ_=>⟨0,0,0⟩,λ_=>none,λb o=>∃v,W.cell? ⟨b,o,none⟩=some v,0,W.heap.size⟩
def rl0 {W:Is}(a:∀n,VR (g0 W) W (.pointer (some ⟨n,0,none⟩)) (P3.gl n)):Rl (g0 W) (λ_=>none) W:=
 ⟨λid b h=>(by cases h),λid g b h=>(by simp[Gh.at]at h),λb o h=>h,λid _=>⟨rfl,rfl,rfl⟩,B1 _,a⟩
def Ip (g:Gh)(w:Is)(cs:Up HO)(xs:Up V):Prop:=
 cs.length=xs.length/\∀i,i<xs.length->(cs.getD i undef).oneCell'=true/\VR g w (cs.getD i undef) (xs.getD i .bad)
def Ip.nil (g:Gh)(w:Is):Ip g w [] []:=⟨rfl,λi U=>by simp at U⟩
theorem Ip.one {g:Gh}{w:Is}{v:HO}{x:V}(O:v.oneCell'=true)(h:VR g w v x):Ip g w [v] [x]:=by
 simp_all[Ip]
def Ip.append {g:Gh}{w:Is}{cs ds:Up HO}{xs ys:Up V}(h:Ip g w cs xs)(k:Ip g w ds ys):Ip g w (cs++ds) (xs++ys):=by
 grind[Ip]
def Ip.join {g:Gh}{w:Is}{cs:Up HO}{xs ys:Up V}{a n m:Nat}(h:Ip g w ((cs.drop a).take n) xs)(k:Ip g w ((cs.drop (a+n)).take m) ys):Ip g w ((cs.drop a).take (n+m)) (xs++ys):=by
 have:=h.append k
 rwa[show(cs.drop (a+n))=(cs.drop a).drop n by rw[IC],<-List.take_add]at this
def Ip.agg {g:Gh} {w:Is} {cs:za1 HO} {xs:Up V} (h:Ip g w cs.toList xs):VR g w (.agg cs) (.agg xs):=by
 refine .agg (by simpa using h.1) (λi U=>?_) λi U=>?_
 ·have:=(h.2 i U).1
  simp_all
 have:=(h.2 i U).2
 simp_all
section
variable {H α:Type}{enc:TypeId×Value->H}{P:Program}{W:World}{base:Nat}{spare:Nat->Bool}{held:Bool}{t e:TypeId}{n:Nat}
def DA (enc:Do×HO->H)(P:If)(W:Is)(base:Nat)(spare:Nat->Bool)(held:Bool)(t:Do)(f:α->V)(R:α->DataW H->Prop)(n:Nat):Prop:=
 ∀cs x,DataW.trod enc P W base spare held n t cs=some x->∃a,Ip (g0 W) W cs (f a).cells/\R a x.1
def Sr {k:IntKind}(j:P.underlying t=some (.int k)):DA enc P W base spare held t (V.int k) (λa d=>d= .lit (.int k a)) n:=by
 intro cs x h;obtain⟨a,rfl,rfl,_⟩:=DataW.trod_int j h;exact⟨a,.one rfl (.int _ _),rfl⟩
def MH (j:P.underlying t=some .bool):DA enc P W base spare held t V.bool (λa d=>d= .lit (.bool a)) n:=by
 intro cs x h;obtain⟨a,rfl,rfl⟩:=DataW.trod_bool j h;exact⟨a,.one rfl (.bool _),rfl⟩
def AL0 (j:P.underlying t=some .string):DA enc P W base spare held t V.str (λa d=>d= .lit (.string a.data.toList)/\a.size<=maxLen) n:=by
 intro cs x h;obtain⟨a,rfl,rfl,B⟩:=DataW.trod_string j h;exact⟨a,.one rfl (.str _),rfl,B⟩
def RL (R:α->DataW H->Prop)(l:Up α)(ds:Up (DataW H)):Prop:=l.length=ds.length/\∀(i:Nat) a d,l[i]? =some a->ds[i]? =some d->R a d
def RS (R:α->DataW H->Prop)(l:Up α)(d:DataW H):Prop:=l.length<=maxLen/\((d= .nil/\l=[])\/∃a b,d= .slice a b/\RL R l a)
def LA {f:α->V} {R:α->DataW H->Prop} (M:P.underlying t=some (.slice e)) (X:0<P.cellsOf e) (Y:DA enc P W base spare held e f R n):
 DA enc P W base spare held t (λl:Up α=>.sl (l.map f) .ro) (RS R) (n+1):=by
 intro cs x h
 rcases DataW.trod_slice M h with⟨rfl,rfl⟩|⟨a,len,cap,g,rest,S,hn,rfl,rfl,hb,B,E,N,D,I,G⟩
 ·exact⟨[],.one rfl (.sl0 rfl),Cd _,.inl ⟨rfl,rfl⟩⟩
 have w:S=n:=za2
 subst w
 rcases KY len with L|L
 ·subst L;have:g=[]:=List.length_eq_zero_iff.1 N;subst this;exact⟨[],.one rfl (.sle (.inl rfl)),Cd _,.inr ⟨_,_,rfl,rfl,λi a d U=>by simp at U⟩⟩
 have one:∀i,i<len->∃cs' y b,W.cells? base (a.add (i*P.cellsOf e)) (P.cellsOf e)=some cs'/\g[i]? =some y/\Ip (g0 W) W cs' (f b).cells/\R b y.1:=by
  grind[Option.bind_eq_some_iff,DA]
 have⟨_,_,z,_⟩:=one 0 L
 haveI:Inhabited α:=⟨z⟩
 have⟨A,m⟩:=Deep.choose_lt (α:=α) (p:=λi b=>∃cs' y,W.cells? base (a.add (i*P.cellsOf e)) (P.cellsOf e)=some cs'/\g[i]? =some y/\Ip (g0 W) W cs' (f b).cells/\R b y.1)
  (λi U=>let⟨cs',y,b,O,Z,J,C⟩:=one i U;⟨b,cs',y,O,Z,J,C⟩)
 have r:a.spot=none:=by
  have⟨cs',y,O,_,_,_⟩:=m 0 L;have⟨_,K,k⟩:=NH O;have Z:=k 0 X
  have e0:(a.add (0*P.cellsOf e)).add 0=a:=by simp[Addr.add]
  rw[e0]at Z
  have J:cs'[0]? =some (cs'[0]' za2):=za7
  rw[J]at Z
  unfold World.cell? at Z
  split at Z
  ·simp_all
  cases Z
 have⟨b,o,s⟩:=a
 simp only at r
 subst r
 let l:=(List.range len).map A
 have q:l.length=len:=by simp[l]
 have F:∀i,i<len->(l.map f).getD i .bad=f (A i):=λi U=>za7
 have cell:∀i j,i<len->j<P.cellsOf e->∃v,W.cell? ⟨b,o+i*P.cellsOf e+j,none⟩=some v/\v.oneCell'=true/\VR (g0 W) W v ((f (A i)).cells.getD j .bad):=by
  intro i j U u;have⟨cs',y,O,_,c,_⟩:=m i U;have⟨_,K,k⟩:=NH O;have Z:=k j u
  rw[BW,BW]at Z
  have J:cs'[j]? =some (cs'.getD j undef):=za8
  rw[J]at Z
  have:=c.2 j (by rw[<-c.1,K];exact u)
  simp_all
 refine⟨l,.one rfl ?_,za2,.inr ⟨_,_,rfl,za8,λi T d U hd=>?_⟩⟩
 ·have Q:∀i,i<len->((l.map f).getD i .bad).cells.length=P.cellsOf e:=λi U=>by
   have⟨cs',y,O,_,c,_⟩:=m i U;have⟨_,K,_⟩:=NH O;rw[F i U,<-c.1,K]
  refine .sl (sz:=P.cellsOf e) (λi j=>(W.cell? ⟨b,o+i*P.cellsOf e+j,none⟩).getD undef) (by simp[q]) B Q (λi j U u=>?_) (λi j U u=>?_) (λi j U u=>?_) (λi j U u=>?_) trivial
  ·grind[g0]
  ·grind
  ·grind
  grind
 grind
def Av5 {fs:za1 Field} {xs:Up (DataW H×Up MemPlace)} {cs:Up HO} {n:Nat} (B:xs.length=fs.size)
 (o:∀(i:Nat) (f:Field),fs[i]? =some f->DataW.trod enc P W base spare held n f.type ((cs.drop f.offset).take (P.cellsOf f.type))=xs[i]?) (i:Nat) {f:Field} (h:fs[i]? =some f):
 ∃y,xs[i]? =some y/\DataW.trod enc P W base spare held n f.type ((cs.drop f.offset).take (P.cellsOf f.type))=some y:=by
 have U:i<fs.size:=by
  grind
 have O:xs[i]? =some (xs[i]' za2):=za7
 grind
end
end Go.Ab
namespace Go.Ab
noncomputable instance arInst :Ar where
 cmp:=RG
 cmp_eq:=λ_ _ _=>rfl
 ar:=arI
 ar_eq:=λ_ _ _ _=>rfl
 sh:=shI
 sh_eq:=λ_ _ _ _=>rfl
 neg:=λk n=>k.wrap (0-n)
 neg_eq:=λ_ _=>rfl
 wr:=λk n=>k.wrap n
 wr_eq:=λ_ _=>rfl
 scmp:=Bw1
 scmp_eq:=λ_ _ _=>rfl
 cat:=λa b=>a++b
 cat_eq:=λ_ _=>rfl
 slen:=λs=>s.size
 slen_eq:=λ_=>rfl
 sat:=λs i=>match s[i.toNat]? with|some b=>(b.toNat:Int)|none=>0
 sat_eq:=λ_ _=>rfl
 beq:=λa b=>a==b
 beq_eq:=λ_ _=>rfl
 nt:=λa=> !a
 nt_eq:=λ_=>rfl
 an:=λa b=>a&&b
 an_eq:=λ_ _=>rfl
 or:=λa b=>a||b
 or_eq:=λ_ _=>rfl
 pk:=λc a b=>if c then a else b
 pk_eq:=λ_ _ _=>rfl
 mx:=λa b=>if a<b then b else a
 mx_eq:=λ_ _=>rfl
 mn:=λa b=>if b<a then b else a
 mn_eq:=λ_ _=>rfl
 ofs:=λa b=>a+b
 ofs_eq:=λ_ _=>rfl
 ofN:=λn=>n
 ofN_eq:=λ_=>rfl
 len:=λl=>l.length
 len_eq:=λ_=>rfl
 lst:=λf l=>l.map f
 lst_eq:=λ_ _=>rfl
def E4 (a b:Int):Ar.cmp .lss a b=decide (a<b):=rfl
def Dp (a b:Int):Ar.cmp .leq a b=decide (a<=b):=rfl
def EK (a b:Int):Ar.cmp .gtr a b=decide (b<a):=rfl
def U2 (a b:Int):Ar.cmp .geq a b=decide (b<=a):=rfl
def F5 (a b:Int):Ar.cmp .eql a b=decide (a=b):=rfl
def R8 (a b:Int):Ar.cmp .neq a b= !decide (a=b):=rfl
def X5 (a:Bool):Ar.nt a= !a:=rfl
def O5 (a b:Bool):Ar.an a b=(a&&b):=rfl
def W9 (a b:Bool):Ar.or a b=(a||b):=rfl
def B4 {α:Type}(l:Up α):Ar.len l=(l.length:Int):=rfl
def MK (a b:Int):Ar.mx a b=if a<b then b else a:=rfl
def Ac8 (s:za0):Ar.slen s=(s.size:Int):=rfl
def Ee {n:Int} (L: -9223372036854775808<=n) (O:n<9223372036854775808):IntKind.wrap .i64 n=n:=by
 have e:IntKind.wrap .i64 n=(if n % 18446744073709551616>=9223372036854775808 then n % 18446744073709551616-18446744073709551616 else n % 18446744073709551616):=by
  unfold IntKind.wrap;simp[IntKind.bits,IntKind.signed]
 rw[e]
 split<;>omega
def D4 {a b:Int}(L: -9223372036854775808<=a+b)(O:a+b<9223372036854775808):Ar.ar .add .i64 a b=a+b:=Ee L O
def Ai6 {S σ R α:Type} (l:Up α) (B:l.length<1000000000000) (step:S->OS (S⊕R)) (mk:σ->Int->S) (body:σ->α->OS (σ⊕R)) (fin:σ->R)
 (a:∀s (i:Nat) x,l[i]? =some x->step (mk s i)=(body s x).bind λo=>match o with| .inl g=>some (.inl (mk g (i+1)))| .inr r=>some (.inr r))
 (h:∀s,step (mk s l.length)=some (.inr (fin s))):
 ∀(k:Nat) (i:Nat) (s:σ) (N:Nat),i+k=l.length->k<N->loopN step N (mk s i)=(M8 body (l.drop i) s).bind λo=>match o with| .inl s=>some (fin s)| .inr r=>some r:=by
 intro k
 induction k with
 |zero=>
  intro i s N U c;obtain⟨N,rfl⟩:∃M,N=M+1:=⟨N-1,za2⟩;have e:l.drop i=[]:=BM za2
  have y:((i:Nat):Int)=l.length:=za2
  rw[e,y]
  grind[loopN,M8]
 | succ k ih=>
  intro i s N U c;obtain⟨N,rfl⟩:∃M,N=M+1:=⟨N-1,za2⟩
  have b:i<l.length:=za2
  have K:l[i]? =some l[i]:=by simp[b]
  have e:l.drop i=l[i]::l.drop (i+1):=M4 b;rw[e];simp only[loopN,a s i _ K,M8]
  cases A:body s l[i]with
  |none=>rfl
  | some o=>
   cases o with
   |inl g=>
    simp only[A4];have:=ih (i+1) g N za2 za2;rw[show((i:Int)+1)=((i+1:Nat):Int) by omega];exact this
   |inr r=>rfl
def E8 {α:Type}{l:Up α}{i:Nat}:C7 l (i:Int)=l[i]? :=by simp[C7]
def Zn {β S σ R α:Type} (l:Up α) (step:S->OS (Up β×(S⊕R))) (mk:σ->Int->S) (body:σ->α->OS (Up β×(σ⊕R))) (fin:σ->R)
 (a:∀s (i:Nat) x,l[i]? =some x->step (mk s i)=(body s x).bind λo=>match o with|(w,.inl g)=>some (w,.inl (mk g (i+1)))|(w,.inr r)=>some (w,.inr r))
 (h:∀s,step (mk s l.length)=some ([],.inr (fin s))):
 ∀(k:Nat) (i:Nat) (s:σ) (N:Nat),i+k=l.length->k<N->Ap step N (mk s i)=(AS body (l.drop i) s).bind λo=>match o with|(w,.inl s)=>some (w,fin s)|(w,.inr r)=>some (w,r):=by
 intro k
 induction k with
 |zero=>
  intro i s N U c;obtain⟨N,rfl⟩:∃M,N=M+1:=⟨N-1,za2⟩;have e:l.drop i=[]:=BM za2
  have y:((i:Nat):Int)=l.length:=za2
  rw[e,y]
  grind[Ap,AS]
 | succ k ih=>
  intro i s N U c;obtain⟨N,rfl⟩:∃M,N=M+1:=⟨N-1,za2⟩
  have b:i<l.length:=za2
  have K:l[i]? =some l[i]:=by simp[b]
  have e:l.drop i=l[i]::l.drop (i+1):=M4 b;rw[e];simp only[Ap,a s i _ K,AS]
  cases A:body s l[i]with
  |none=>rfl
  | some o=>
   have⟨w,o⟩:=o
   cases o with
   |inl g=>
    simp only[A4];have:=ih (i+1) g N za2 za2;rw[show((i:Int)+1)=((i+1:Nat):Int) by omega,this]
    grind
   |inr r=>rfl
def O1 {S σ R α:Type} (l:Up α) (B:l.length<1000000000000) {step:S->OS (S⊕R)} (mk:σ->Int->S) (body:σ->α->OS (σ⊕R)) (fin:σ->R) (s:σ) {N:Nat} (c:l.length<N)
 (a:∀s (i:Nat) x,l[i]? =some x->(i:Int)<l.length->step (mk s i)=(body s x).bind λo=>match o with| .inl g=>some (.inl (mk g (i+1)))| .inr r=>some (.inr r))
 (b:∀s,step (mk s l.length)=some (.inr (fin s))):loopN step N (mk s 0)=(M8 body l s).bind λo=>match o with| .inl s=>some (fin s)| .inr r=>some r:=by
 have:=Ai6 l B step mk body fin (λs i x h=>a s i x h (by
  grind)) b l.length 0 s N za2 c
 simp_all
def At9 {β S σ R α:Type} (l:Up α) {step:S->OS (Up β×(S⊕R))} (mk:σ->Int->S) (body:σ->α->OS (Up β×(σ⊕R))) (fin:σ->R) (s:σ) {N:Nat} (c:l.length<N)
 (a:∀s (i:Nat) x,l[i]? =some x->(i:Int)<l.length->step (mk s i)=(body s x).bind λo=>match o with|(w,.inl g)=>some (w,.inl (mk g (i+1)))|(w,.inr r)=>some (w,.inr r))
 (b:∀s,step (mk s l.length)=some ([],.inr (fin s))):Ap step N (mk s 0)=(AS body l s).bind λo=>match o with|(w,.inl s)=>some (w,fin s)|(w,.inr r)=>some (w,r):=by
 have:=Zn l step mk body fin (λs i x h=>a s i x h (by
  grind)) b l.length 0 s N za2 c
 simp_all
def Ds {α σ R:Type} {step:σ->α->OS (σ⊕R)} (I:Up α->σ->Prop) (C:∀x r s,I (x::r) s->∃a,step s x=some (.inl a)/\I r a):∀{l:Up α} {s:σ},I l s->∃a,M8 step l s=some (.inl a)/\I [] a
 |[],s,h=>⟨s,rfl,h⟩
 |x::l,s,h=>by
  have⟨a,O,Z⟩:=C x l s h;have⟨d,J,b⟩:=Ds I C Z
  simp_all[M8]
def Vp {α β σ R:Type} {step:σ->α->OS (Up β×(σ⊕R))} (I:Up α->Up β->σ->Prop) (C:∀x r w s,I (x::r) w s->∃w' a,step s x=some (w',.inl a)/\I r (w++w') a):
 ∀{l:Up α} {w:Up β} {s:σ},I l w s->∃w' a,AS step l s=some (w',.inl a)/\I [] (w++w') a
 |[],w,s,h=>⟨[],s,rfl,za7⟩
 |x::l,w,s,h=>by
  have⟨i,g,O,Z⟩:=C x l w s h;have⟨k,d,J,b⟩:=Vp I C Z
  grind[AS]
def CC {α:Type}(f:α->Int):Up α->Int
 |[]=>0
 |x::l=>if f x=0 then CC f l else f x
def Eu {α:Type} {f:α->Int}:∀{l:Up α},CC f l=0<->∀x∈l,f x=0
 |[]=>by simp[CC]
 |x::l=>by
  unfold CC
  split
  ·rename_i h;rw[Eu];simp[h]
  simp_all
def TX {α:Type} {f:α->Int}:∀{l m:Up α},CC f (l++m)=if CC f l=0 then CC f m else CC f l
 |[],m=>by simp[CC]
 |x::l,m=>by
  simp only[V1,CC]
  split
  ·rw[TX]
  omega
def XD {α:Type} {F:α->OS Int} {f:α->Int}:∀{l:Up α},(∀x∈l,F x=some (f x))->
 M8 (λ(_:Unit) x=>(F x).bind λr=>if Ar.cmp .neq r 0=true then some (Sum.inr r)else some (.inl ())) l ()=some (if CC f l=0 then .inl ()else .inr (CC f l))
 |[],_=>rfl
 |x::l,h=>by
  have O:=XD (l:=l) λy m=>h y (by simp[m]);unfold M8;simp only[h x za4,A4,R8,CC]
  by_cases a:f x=0
  ·simp_all[R8]
  simp[a]
noncomputable def Dl {α:Type}(F:α->OS Int)(_:Unit)(a:α):OS (Unit⊕(Unit⊕Int)):=(F a).bind λr=>if Ar.cmp .neq r 0=true then some (.inr (.inr r))else some (.inl ())
def Cj {α:Type} {F:α->OS Int} {f:α->Int}:∀{l:Up α},(∀x∈l,F x=some (f x))->M8 (Dl F) l ()=some (if CC f l=0 then .inl ()else .inr (.inr (CC f l)))
 |[],_=>rfl
 |x::l,h=>by
  have O:=Cj (l:=l) λy m=>h y (by simp[m]);unfold M8 Dl;simp only[h x za4,A4,R8,CC]
  by_cases a:f x=0
  ·simp only[a,I9,Co,L6,H7,D8];exact O
  simp[a]
end Go.Ab
