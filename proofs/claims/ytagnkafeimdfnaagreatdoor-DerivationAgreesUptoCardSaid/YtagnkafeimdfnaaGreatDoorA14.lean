/- . -/
import Derived.Test.YtagnkafeimdfnaaGreatDoorA13
set_option linter.all false
open Go.Ab.Ar (ar lst nt_eq sh wr)
namespace Go.Ab
open Go.RowKit Go.Proofs Go.Proofs.Tryz P4
variable [Ar][P4]
set_option maxRecDepth 100000
def c127 {cmp:A7->A7->OS Int}{g:Nat}{C:Up V}(e:∀vals w,(callFunc g vals).run prog w= .ok (.enter g vals) w)(X:∀a b r,cmp a b=some r->B8 prog g ([(V4 a),(V4 b)]++C) (vi r)){l r:Up A7}(h:Ll cmp l=some r):
 QL prog 127 (.func (.func g) [] C) 2 (lst eBE2 l) (lst eBE2 r):=OO Go.Proofs.Tryz.sorts127 call127 (va:=λx=>(CU x)) eBF5 (λ_=>rfl) e X h
def c128 (N p a r)(h:GH N p a=some r):B8 prog 128 [(V4 p),(V4 a)] (vi r):=by
 refine R4 cf0 func128 call128 ntmps128 ?_;intro E D K Y J Q;exact Zg
@[reducible, instance] def zc128 (N aB aC):=Ct.mk (f:=128) (c128 N aB aC)
def cfo126:Cf:=⟨[6000002],[],[],[],[],[]⟩
def o126 (N a r) (h:U4 N a=some r):WH prog 126 [sr eBG0 a] 2 (lst eBE2 r):=by
 intro H0;refine FO (T:=TT) (F:=H0) cfo126 N0 func126 za9 za3 call126 ntmps126 za9 za9 ?_;intro E K Y J c;have Q:B9 Eq H0 [] H0:=.start H8 rfl;cbv;refine Sx Y (f:=eBE2) Q λn H p Q=>?_;cbv;apply K2 Y;cbv;obtain⟨v,X,h⟩:=bind_some h;refine I8 cfo126 Y N0 (λd=>[(0,.v (sr eBG0 a)),fi 3 d.1,(9,.v (sr eBG0 a)),fi 10 (Ar.len a),fi 11 d.2]) (λd G=>B9 Eq H0 [ob n 2 eBE2 ([]:Up A7)] G) (λx e l G=>e= .exit 0/\l=[(0,.v (sr eBG0 a)),fi 3 x]/\B9 Eq H0 [ob n 2 eBE2 ([]:Up A7)] G) za3 ?_ X ?_ Q ?_
 ·intro d H o Q h;exact Zg
 ·exact .e rfl (.e4 .z)
 clear X;rintro e l H ⟨rfl,rfl,Q⟩;cbv;refine Pn Y (f:=eBE2) h (c170 N [] v) (.r (.r .nil)) Q λw u H t Q h=>?_;cbv;apply K2 Y;cbv;obtain⟨A,X,h⟩:=bind_some h;refine S6 cfo126 Y N0 (γ:=OG) (λi g=>[(6,.v (.own g.id g.lo g.n)),(25,.v (sr eBG0 a)),fi 26 (Ar.len a),fi 27 i.1]) (λi g G=>An g (Ar.len i.2)/\B9 Eq H0 [ob g 2 eBE2 i.2,ob n 2 eBE2 ([]:Up A7)] G) (λx e l G=>∃k:OG,An k (Ar.len x)/\e= .exit 2/\l=[(6,.v (.own k.id k.lo k.n))]/\B9 Eq H0 [ob k 2 eBE2 x,ob n 2 eBE2 ([]:Up A7)] G) za3 ?_ u X ?_ ?_ ?_
 ·rintro i z H o ⟨y,Q⟩ h;cbv;apply C2 Y h<;>intro _ h
  ·cbv;refine E6 Y eBG9 h λV h=>?_;cbv;refine Ih (f:=eBE2) Y U7 za5 Q y 0 rfl (m:=V) (FW (f:=eBE2) Y U7 .z) h λq s H j Q h=>?_;exact Zg
  exact Zg
 ·exact .e4 .z
 ·exact⟨t,Q⟩
 clear X;rintro e l H ⟨P,b,rfl,rfl,Q⟩;cbv;cases h;exact J P _ _ (Bx Y b) (Q)
def c92 (N p b r)(h:J4 N p b=some r):B8 prog 92 [sr eBE2 p,sr eBE2 b] (sr eBE2 r):=by
 refine Dx (T:=TT) cf0 N0 func92 za9 za3 call92 ntmps92 za9 za9 ?_;intro E H0 K Y J e;have Q:B9 Eq H0 [] H0:=.start H8 rfl;cbv;refine Pn Y (f:=eBE2) h (o126 N ([p,b])) (.cons (.lit _ (I6 ((eBG9 p).symm) (I6 ((eBG9 b).symm) (F3)))) .z) Q λl1 k H a Q h=>?_;cbv;refine Ox Y Q a 0 rfl h (λi X=>c127 (g:=128) (C:=[]) call128 (λl n r X=>c128 N l n r X) X) λi H a Q h=>?_;cbv;cases h;exact e k _ _ 0 _ _ Q rfl (Bx Y a) .z
@[reducible, instance] def zc92 (N aB aC):=Ct.mk (f:=92) (c92 N aB aC)
def c172 (N:Nat) (a:Up A7) (i:V) (k:A7->OS Bool) (t:∀n q,k n=some q->Y6 prog i [(V4 n)] (.bool q)) (r:Int) (h:Ca N a k=some r):B8 prog 172 [sr eBE2 a,i] (vi r):=by
 refine R4 cf0 func172 call172 ntmps172 ?_;intro E D K Y J Q;cbv;apply K2 Y;cbv;obtain⟨d,X,h⟩:=bind_some h;refine I8 cf0 Y N0 (λI=>[(0,.v (sr eBE2 a)),(1,.v (i)),fi 7 (Ar.len a),fi 8 I]) (λI G=>B9 Eq D [] G) (λx e l G=>match(generalizing:=false) x with| .inl y=>e= .exit 0/\l=[]/\B9 Eq D [] G| .inr y=>e= .ret/\l=[fi 4 y]/\B9 Eq D [] G) za3 ?_ X ?_ Q ?_
 ·intro I H o Q h;cbv;apply C2 Y h<;>intro _ h
  ·cbv;refine E6 Y eBF5 h λP h=>?_;cbv;refine AM Y (g:=λb=>.bool b) h (λb X=>t P b X) .z λb h=>?_;exact Zg
  exact Zg
 ·exact .e4 .z
 clear X
 rcases d with c|f
 ·rintro e l H ⟨rfl,rfl,Q⟩;exact Zg
 rintro e l H ⟨rfl,rfl,Q⟩;exact Zg
def c129 (N:Nat)(a:Up A7)(e:V)(b:A7->OS Bool)(i:∀g q,b g=some q->Y6 prog e [(V4 g)] (.bool q))(r:Bool)(h:L7 N a b=some r):B8 prog 129 [sr eBE2 a,e] (.bool r):=by
 refine R4 cf0 func129 call129 ntmps129 ?_;intro E D K Y J Q;cbv;refine B3 Y h (c172 N a e b i) .z λk h=>?_;exact Zg
def c132 (N b a r)(h:X0 N b a=some r):B8 prog 132 [(V4 b),.eref [vi a] 0] (.bool r):=by
 refine R4 cf0 func132 call132 ntmps132 ?_;intro E D K Y J Q;exact Zg
@[reducible, instance] def zc132 (N aU aJ):=Ct.mk (f:=132) (c132 N aU aJ)
def cf95:Cf:=⟨[12],[(1,12),(5,19),(7,11)],[],[],[(73,12)],[]⟩
def c95 (N k S P i r) (h:U6 N k S P i=some r):B8 prog 95 [.eref (E0 k) 0,(D0 S),sr eBE2 P,sr eBE2 i] (.bool r):=by
 unfold U6 at h
 refine R4 cf95 func95 call95 ntmps95 ?_;intro E D K Y J Q;cbv;refine E6 Y eBF5 h λs h=>?_
 repeat' (cbv;first|refine C2 Y h (λ_ h=>?_) λ_ h=>?_|refine K2 Y ?_|refine B3 Y h (c92 _ _ _) (.refl _) λj h=>?_|refine B3 Y h (c124 _ _ _ _ _) (.cons (.refl _) (.cons (.refl _) (.cons (.refl _) (.cons (.agg (.cons (.refl _) (.cons (.refl _) (.cons (.refl _) (.cons (.refl _) (.cons (.lit _ (F3)) (.refl _))))))) (.refl _))))) λ_ h=>?_|refine E6 Y eBF5 h λm h=>?_|refine E6 Y eBF2 h λ_ h=>?_|refine C5 Y Q 0 rfl rfl λH Q=>?_|refine E3 Y (g:=λc=>(Tu c)) h (c125 _ _ _ _) (.refl _) λc h=>?_|refine G0 Y Q λf H Q=>?_|(cases h;exact J Q (.refl _)))
 cbv;obtain⟨n,X,h⟩:=bind_some h;refine S6 cf95 Y N0 (γ:=Nat) (λb g=>[(0,.v (.eref (E0 k) 0)),(3,.v (sr eBE2 i)),(5,.v (.eref (D5 S) 0)),fi 10 m.at_,(11,.v (sr eBE2 j)),(12,.v (.ref g 0))]) (λb g G=>True/\B9 Eq D [cb g [vi b]] G) (λx e l G=>match(generalizing:=false) x with| .inl y=>e= .exit 1/\l=[]/\B9 Eq D [] G| .inr y=>e= .ret/\l=[(8,.b false)]/\B9 Eq D [] G) za3 ?_ f X ?_ ?_ ?_
 ·rintro b d H o ⟨V,Q⟩ h;clear X;cbv;refine C3 Y Q 0 rfl ?_;cbv;refine C2 Y h (λ_ h=>?_) λ_ h=>?_
  ·cbv;refine BB1 Y Q 0 rfl λH Q=>?_;cbv;refine B3 Y (g:=λa=>.bool a) h (λa X=>c129 N i (.func (.func 132) [] [.eref [vi b] 0]) (λt=>X0 N t b) (λt r X=>B8.value (F:=[]) (C:=[.eref [vi b] 0]) (c132 N t b r X)) a X) (.refl _) λa h=>?_;exact Zg
  exact Zg
 ·exact .e2 (.e4 .z)
 ·exact⟨trivial,Q⟩
 clear X
 rcases n with p|q
 ·rintro e l H ⟨rfl,rfl,Q⟩;exact Zg
 rintro e l H ⟨rfl,rfl,Q⟩;exact Zg
@[reducible, instance] def zc95 (N aG aA aH aD):=Ct.mk (f:=95) (c95 N aG aA aH aD)
def c131 (N b a r)(h:BA N b a=some r):B8 prog 131 [(V4 b),.eref (CU a) 0] (.bool r):=by
 refine R4 cf0 func131 call131 ntmps131 ?_;intro E D K Y J Q;exact Zg
@[reducible, instance] def zc131 (N bV aJ):=Ct.mk (f:=131) (c131 N bV aJ)
def c130 (N a e r)(h:Cy N a e=some r):B8 prog 130 [(V4 a),.eref [sr eBE2 e] 0] (.bool r):=by
 refine R4 cf0 func130 call130 ntmps130 ?_;intro E D K Y J Q;cbv;refine B3 Y (g:=λb=>.bool b) h (λb X=>c129 N e (.func (.func 131) [] [.eref (CU a) 0]) (λi=>BA N i a) (λi r X=>B8.value (F:=[]) (C:=[.eref (CU a) 0]) (c131 N i a r X)) b X) .z λb h=>?_;exact Zg
@[reducible, instance] def zc130 (N aU aJ):=Ct.mk (f:=130) (c130 N aU aJ)
def c93 (N p a r)(h:BV N p a=some r):B8 prog 93 [sr eBE2 p,sr eBE2 a] (.bool r):=by
 refine R4 cf0 func93 call93 ntmps93 ?_;intro E D K Y J Q;cbv;refine B3 Y (g:=λb=>.bool b) h (λb X=>c129 N p (.func (.func 130) [] [.eref [sr eBE2 a] 0]) (λe=>Cy N e a) (λe r X=>B8.value (F:=[]) (C:=[.eref [sr eBE2 a] 0]) (c130 N e a r X)) b X) .z λb h=>?_;exact Zg
@[reducible, instance] def zc93 (N aB aC):=Ct.mk (f:=93) (c93 N aB aC)
def c94 (N a r)(h:V6 N a=some r):B8 prog 94 [sr eBE2 a] (vi r):=by
 refine R4 cf0 func94 call94 ntmps94 ?_;intro E D K Y J Q;exact Zg
@[reducible, instance] def zc94 (N aD):=Ct.mk (f:=94) (c94 N aD)
def cf154:=cfA [7]
def c154 (N a r)(h:S5 N a=some r):WH prog 154 [sr eBE5 a] 5 (lst eBE5 r):=by
 intro H0;refine FO (T:=TT) cf154 N0 func154 za9 za3 call154 ntmps154 za9 za9 ?_;intro E K Y J c;have Q:B9 Eq H0 [] H0:=.start H8 rfl;cbv;refine AW7 Y rfl (λX=>?_) ?_
 ·cbv;exact c (An7 X h) [] H0 Q
 cbv;refine AB6 (f:=eBE5) Y Z6 za5 Q (.inr rfl) (m:=a) (FW (f:=eBE5) Y Z6 .z) h λl q H b Q h=>?_;cbv;cases h;exact J q _ _ (Bx Y b) Q
def K42 (N n:Nat):Prop:=∀(a:F2) (S:A0) (b:Up A7) (e:Int) (r:(Up A8)),F6 N n a S b e=some r->DC prog 42 [.eref (E0 a) 0,(D0 S),sr eBE2 b,vi e] (λv=>Jv prog v (r.map λ(x:A8)=>[(C9 x)]))
def cf83:=cfC [] [] [(9,4)]
def cf81:=cfA [6,1000005]
def K81 (N n:Nat):Prop:=∀(a:F2) (b:A0) (e:Up A7) (g:Int) (r:(Up A8)),Aa N n a b e g=some r->Jl prog 81 (λh=>[h,.eref [.eref (E0 a) 0] 0,.eref (D5 b) 0,.eref [sr eBE2 e] 0,.eref [vi g] 0]) (List.map (λ(x:A8)=>[(C9 x)]) r) rbN
def cf82:=cfC [10,12,13,1000009] [(6,22),(23,7)] [(88,21)]
def K82 (N n:Nat):Prop:=∀(a:F2) (S:A0) (b:Up A7) (e:Int) (r:(Up A8)),N1 N n a S b e=some r->Jl prog 82 (λg=>[.eref (E0 a) 0,(D0 S),sr eBE2 b,vi e,g]) (List.map (λ(x:A8)=>[(C9 x)]) r) rbB
def cf110:=cfC [14,1000013] [(3,6),(10,12),(16,17)] [(39,4),(54,10),(75,15)]
def Bo5 (N n:Nat):Prop:=∀(b:F2) (S:A0) (e:Up A7) (g:Int) (h:Up A5) (a:Up A7) (r:(Up A8)),E9 N n b S e g h a=some r->Jl prog 110 (λi=>[.eref (E0 b) 0,(D0 S),sr eBE2 e,vi g,sr eBE5 h,sr eBE2 a,i]) (List.map (λ(x:A8)=>[(C9 x)]) r) rbB
def k42 (N n:Nat)(a:K81 N n):K42 N (n+1):=by
 intro b S e g r h
 unfold F6 at h
 refine Av cf0 N0 func42 za9 za3 call42 ntmps42 za9 za9 ?_;intro E H0 K Y J;have Q:B9 Eq H0 [] H0:=.start H8 rfl;cbv;exact J _ _ _ Q (Bl call81 (a b S e g r h))
def k81 (N n:Nat) (k:K82 N n):K81 N (n+1):=by
 intro t s w z r h
 unfold Aa at h
 obtain⟨⟨w0,u0⟩,O,f⟩:=bind_some h;clear h;have f:=G3 f;subst f;have h:=O;clear O;refine U5 cf81 N0 func81 za9 za3 call81 ntmps81 za9 (λ_=>rfl) ?_;intro c I D j d m tl F E H K Y Q J b
 have Q:B9 (I (List.map (λ(x:A8)=>[(C9 x)]) (w0++[])++tl)) F [] H:=by rw[E5];exact Q
 cbv;apply LY Y m.1;cbv;refine G0 Y Q λg H Q=>?_;cbv;refine C5 Y Q 0 rfl rfl λH Q=>?_;cbv;obtain⟨M,B,h⟩:=bind_some h;obtain⟨w3,Z,S,X,h,a⟩:=N5 h
 rw[a,D2]at Q
 clear a
 rcases S with T|u
 ·refine Bj4 (Ls:=λy=>[cb g [vi y]]) (w':=Z++[]) (cv:=.func (.func 83) [] [.ref g 0,.eref [.eref (E0 t) 0] 0,.eref [c] 0]) Y j d ⟨rfl,rfl⟩ (k t s w z M B) X Q .z ?_ ?_ ?_
  ·rintro y q w5 p F H o h Q;clear X B;refine O7.value (F:=[]) (C:=[.ref g 0,.eref [.eref (E0 t) 0] 0,.eref [c] 0]) (Al1 cf83 N0 func83 za9 za3 call83 ntmps83 za9 za9 ?_);intro E K Y J b
   repeat' (cbv;first|apply C3 Y Q 0 rfl|refine C5 Y Q 0 rfl rfl λH Q=>?_)
   cbv;obtain⟨W,P,U,X,h,a⟩:=N5 h
   rw[a,D2]at Q
   clear a;refine Q5 cf83 Y N0 (λe l G=>(e= .normal/\l=[(2,.v (.eref [.eref (E0 t) 0] 0)),(3,.v (.eref [c] 0)),(4,.v (.eref (Am q) 0))]/\B9 (I (List.map (λ(x:A8)=>[(C9 x)]) (P++p)++tl)) F [cb g [vi (ar .add .i64 y 1)]] G)\/(False)) za3 ?_ ?_
   ·clear h;have h:=X;cbv;apply C2 Y h<;>intro _ h
    ·exact Zg
    cbv;obtain⟨R,rfl⟩:=D7 h
    rw[<-R]at Q
    exact⟨_,.inl ⟨rfl,rfl,Q⟩,.e rfl (.e2 .z),rfl⟩
   clear X;rintro e l H i
   rcases i with i|i
   ·obtain⟨rfl,rfl,Q⟩:=i;cbv;apply C2 Y h<;>intro _ h
    ·cbv;obtain⟨V,h,a⟩:=V9 h
     rw[a,D2]at Q
     clear a;have Q:B9 (I ([(C9 q)]::(List.map (λ(x:A8)=>[(C9 x)]) (V++p)++tl))) F [cb g [vi (ar .add .i64 y 1)]] _:=Q;refine EC Y j d m Q .z (λH Q=>?_) (λH Q=>?_)
     ·cbv;obtain⟨R,rfl⟩:=D7 h
      rw[<-R]at Q
      exact J _ _ ⟨_,rfl,Q⟩ rfl
     clear h;cbv;exact b _ _ _ Q rfl
    cbv;cases h
   exact i.elim
  ·rintro v H A Q;cases A;clear B X;cbv;obtain⟨R,_⟩:=D7 h
   rw[<-R]at Q
   exact J _ _ _ Q trivial
  rintro v L H A Q;cases A;clear h B X;cbv;exact b _ _ _ Q trivial
 cases h
set_option maxHeartbeats 2000000 in
def k82 (N n:Nat) (W:K42 N n) (ab:Bo5 N n):K82 N (n+1):=by
 intro L S T aK r h
 unfold N1 at h
 obtain⟨⟨w0,u0⟩,O,f⟩:=bind_some h;clear h;have f:=G3 f;subst f;have h:=O;clear O;refine U5 cf82 N0 func82 za9 za3 call82 ntmps82 za9 (λ_=>rfl) ?_;intro yv I D U hD m tl F E H K Y Q J z
 have Q:B9 (I (List.map (λ(x:A8)=>[(C9 x)]) (w0++[])++tl)) F [] H:=by rw[E5];exact Q
 repeat' (cbv;first|refine C2 Y h (λu h=>?_) (λu h=>?_)|apply K2 Y|refine G0 Y Q λb H Q=>?_|apply LY Y m.1)
 ·cbv;obtain⟨w3,w4,s7,X,h,t⟩:=N5 h
  rw[t,D2]at Q
  clear t;refine Gs cf82 Y N0 (γ:=Unit) (λd g=>[(5,.v (.eref [.eref (E0 L) 0] 0)),(6,.v (.eref (D5 S) 0)),(7,.v (.eref [sr eBE2 T] 0)),(9,.v (.eref [yv] 0)),(10,.v (.ref b 0)),fi 11 d]) (λd g w G=>B9 (I (List.map (λ(x:A8)=>[(C9 x)]) w++tl)) F [cb b [.bool false]] G) (λx e l w G=>e= .exit 1/\l=[(10,.v (.ref b 0))]/\B9 (I (List.map (λ(x:A8)=>[(C9 x)]) w++tl)) F [cb b [.bool false]] G) (λe l G=>(e= .ret/\l=[(10,.v (.ref b 0))]/\B9 D F [cb b [.bool false]] G)) za3 ?_ (w':=w4++[]) () X ?_ ?_ ?_ ?_
  ·rintro d _ w5 w6 H o Q h
   skip
   repeat' (cbv;first|refine C2 Y h (λ_ h=>?_) (λ_ h=>?_)|apply K2 Y|refine E6 Y eBF2 h λ_ h=>?_|refine E3 Y (g:=λr8=>.bool r8) h (c91 _ _ _ _ _) .z λr8 h=>?_|refine E3 Y (g:=λC=>(Gg C)) h (c87 _ _) .z λC h=>?_)
   ·cbv;obtain⟨an,h,t⟩:=V9 h
    rw[t,D2]at Q
    clear t;have Q:B9 (I ([.agg [vi C.Time,vi C.Source,vi C.Seq,vi 0,sr eBE5 ([]),sr eBE2 ([(⟨S.Var,d⟩:A7)])]]::(List.map (λ(x:A8)=>[(C9 x)]) (an++w6)++tl))) F [cb b [.bool false]] _:=Q;refine EC Y U hD m Q (.cons (.agg (.r (.r (.r (.r (.cons (.lit _ (F3)) (.cons (.lit _ (I6 ((eBF5 (⟨S.Var,d⟩:A7)).symm) (F3))) .z))))))) .z) (λH Q=>?_) (λH Q=>?_)
    ·cbv;apply Kg Y (nt_eq _);cbv;obtain⟨k,rfl⟩:=D7 h
     rw[<-k]at Q
     exact⟨_,(),rfl,.e2 (.e4 .z),rfl,Q⟩
    clear h;cbv;apply Kf Y (nt_eq _);cbv;refine C5 Y Q 0 rfl rfl λH Q=>?_;cbv;exact .inr ⟨_,⟨rfl,rfl,Q⟩,.e rfl .z,rfl⟩
   ·cbv;obtain⟨k,rfl⟩:=D7 h
    rw[<-k]at Q
    exact⟨_,(),rfl,.e2 (.e4 .z),rfl,Q⟩
   cbv;obtain⟨k,rfl⟩:=D7 h
   rw[<-k]at Q
   exact .inl ⟨_,_,rfl,⟨rfl,rfl,Q⟩,.e rfl .z,rfl⟩
  ·exact .e2 (.e4 .z)
  ·exact Q
  ·rintro e l H ⟨rfl,rfl,Q⟩;cbv;refine C5 Y Q 0 rfl rfl λH Q=>?_;cbv;apply C3 Y Q 0 rfl;cbv;obtain⟨k,_⟩:=D7 h
   rw[<-k]at Q
   exact J _ _ _ Q rfl
  rintro e l H M;obtain⟨rfl,rfl,Q⟩:=M;clear h;cbv;apply C3 Y Q 0 rfl;cbv;exact z _ _ _ Q rfl
 ·cbv;obtain⟨a5,ao,a2,X,h,t⟩:=N5 h
  rw[t,D2]at Q
  clear t;refine AW8 cf82 Y N0 (γ:=Unit) (λy g=>[fi 3 aK,(5,.v (.eref [.eref (E0 L) 0] 0)),(6,.v (.eref (D5 S) 0)),(7,.v (.eref [sr eBE2 T] 0)),(9,.v (.eref [yv] 0)),(10,.v (.ref b 0)),(58,.v (sr eBE7 S.dD)),fi 59 (Ar.len S.dD),fi 60 y]) (λy g a w G=>B9 (I (List.map (λ(x:A8)=>[(C9 x)]) w++tl)) F (cb b [.bool false]::Xg a) G) (λx e l a w G=>e= .exit 3/\l=[(5,.v (.eref [.eref (E0 L) 0] 0)),(10,.v (.ref b 0))]/\B9 (I (List.map (λ(x:A8)=>[(C9 x)]) w++tl)) F (cb b [.bool false]::Xg a) G) (λe l a G=>(e= .ret/\l=[(10,.v (.ref b 0))]/\B9 D F (cb b [.bool false]::Xg a) G)) za3 ?_ (w':=ao++[]) () X rfl ?_ ?_ ?_ ?_
  ·rintro y _ a a6 ag H o Q h
   skip
   cbv;refine C2 Y h (λu h=>?_) (λu h=>?_)
   ·cbv;refine E6 Y eBF1 h λj h=>?_;cbv;refine G0 Y Q λc H Q=>?_;cbv;refine G0 Y Q λs H Q=>?_;cbv;refine C5 Y Q 1 rfl rfl λH Q=>?_;cbv;refine C5 Y Q 0 rfl rfl λH Q=>?_;cbv;apply C3 Y Q 0 rfl;cbv;refine Ht Y h (W L j T aK) .z λaz a3 ae h=>?_;cbv;obtain⟨a7,ah,ax,X,h,t⟩:=N5 h
    rw[t,D2]at Q
    clear t;refine Rk cf82 Y N0 (ι:=Unit) (σ:=Unit) (R:=Unit) (enc:=λ(x:A8)=>[(C9 x)]) (λ_ w q H=>B9 (I (List.map (λ(x:A8)=>[(C9 x)]) w++tl)) q (cb s (D5 j)::cb c [vi y]::cb b [.bool false]::Xg a) H) (λ_ e w q H=>False) (λe q H=>e= .ret/\B9 D q (cb s (D5 j)::cb c [vi y]::cb b [.bool false]::Xg a) H) (λi _ p=>[(9,.v (.eref [yv] 0)),(10,.v (.ref b 0)),(12,.v (.ref c 0)),(14,.v (.eref (Am p) 0))]) (λi _ p w q H=>B9 (I (List.map (λ(x:A8)=>[(C9 x)]) w++tl)) q (cb s (D5 j)::cb c [vi y]::cb b [.bool false]::Xg a) H) (λ_ _=>B9.stable (U _) _) (λ_ _ _=>⟨λh=>h.elim,λ_ _ h=>h.elim⟩) (λ_=>G9.con (B9.stable hD _)) (λ_ _ _ _=>B9.stable (U _) _) ae X (w':=ah++ag) Q za5 (λ_=>rfl) za3 za3 ?_ ?_ ?_ ?_ ?_
    ·rintro E aj p _ w ac H Y Q;clear X h;cbv;exact⟨(),Q,.e4 .z,rfl⟩
    ·rintro E aj _ p _ a8 ap ac H o Y hF h Q;cbv;apply C3 Y Q 1 rfl;cbv;obtain⟨aq,h,t⟩:=V9 h
     rw[t,D2]at Q
     clear t;have Q:B9 (I ([.agg [vi 0,vi 0,vi 0,vi y,sr eBE5 ([p.d]),sr eBE2 p.s]]::(List.map (λ(x:A8)=>[(C9 x)]) (aq++ap)++tl))) ac (cb s (D5 j)::cb c [vi y]::cb b [.bool false]::Xg a) _:=Q;refine EC Y U hD m Q (.cons (.agg (.r (.r (.r (.r (.cons (.lit _ (I6 ((eBE6 p.d).symm) (F3))) .z)))))) .z) (λH Q=>?_) (λH Q=>?_)
     ·cbv;apply Kg Y (nt_eq _);cbv;obtain⟨k,rfl⟩:=D7 h
      rw[<-k]at Q
      exact⟨_,rfl,Q⟩
     clear h;cbv;apply Kf Y (nt_eq _);cbv;refine C5 Y Q 2 rfl rfl λH Q=>?_;cbv
     first|exact .inr ⟨rfl,rfl,Q⟩|exact .inr (Q)
    ·rintro Z _ H rfl hd Q;have Q:B9 (I (List.map (λ(x:A8)=>[(C9 x)]) (ah++ag)++tl)) F (cb s (D5 j)::cb c [vi y]::cb b [.bool false]::Xg (Z::a)) H:=B9.dbs1 (A:=[_,_,_]) (ds:=a) (B9.dblk hd Q);clear hd X;cbv;obtain⟨k,rfl⟩:=D7 h
     rw[<-k]at Q
     exact⟨_,(),_,rfl,.e rfl (.e4 (.e4 .z)),rfl,Q.tail.tail⟩
    ·rintro _ _ _ _ _ _ h;exact h.elim
    rintro Z e H hd ⟨rfl,Q⟩;have Q:B9 D F (cb s (D5 j)::cb c [vi y]::cb b [.bool false]::Xg (Z::a)) H:=B9.dbs1 (A:=[_,_,_]) (ds:=a) (B9.dblk hd Q);clear hd X h;cbv;exact .inr ⟨_,_,⟨rfl,rfl,Q.tail.tail⟩,.e rfl .z,rfl⟩
   cbv;obtain⟨k,rfl⟩:=D7 h
   rw[<-k]at Q
   exact .inl ⟨_,_,_,rfl,⟨rfl,rfl,Q⟩,.e2 .z,rfl⟩
  ·exact .e rfl (.e4 (.e4 .z))
  ·exact Q
  ·rintro e l a H ⟨rfl,rfl,Q⟩;cbv;refine C5 Y Q 0 rfl rfl λH Q=>?_;cbv
   rcases a with _|⟨d0,a⟩
   ·cbv;have Q:B9 _ _ [cb b [.bool (Ar.cmp .eql L.count 0)]] H:=Q;apply C3 Y Q 0 rfl;cbv;obtain⟨u,h⟩:=Kk h;obtain⟨k,_⟩:=D7 h
    rw[<-k]at Q
    exact J _ _ _ Q (G2 V.bool u)
   cbv;refine AW9 (A:=[_]) (ds:=d0::a) Y Q λH Q=>?_;cbv;apply C3 Y Q 0 rfl;cbv;obtain⟨u,h⟩:=Kk h;obtain⟨k,_⟩:=D7 h
   rw[<-k]at Q
   exact J _ _ _ Q (G2 V.bool u)
  rintro e l a H M;obtain⟨rfl,rfl,Q⟩:=M;clear h;cbv
  rcases a with _|⟨d0,a⟩
  ·cbv;have Q:B9 _ _ [cb b [.bool false]] H:=Q;apply C3 Y Q 0 rfl;cbv;exact z _ _ _ Q rfl
  cbv;refine AW9 (A:=[_]) (ds:=d0::a) Y Q λH Q=>?_;cbv;apply C3 Y Q 0 rfl;cbv;exact z _ _ _ Q rfl
 cbv;obtain⟨a9,ar,am,X,h,t⟩:=N5 h
 rw[t,D2]at Q
 clear t;refine Q5 cf82 Y N0 (λe l G=>(e= .normal/\l=[fi 3 aK,(5,.v (.eref [.eref (E0 L) 0] 0)),(6,.v (.eref (D5 S) 0)),(7,.v (.eref [sr eBE2 T] 0)),(9,.v (.eref [yv] 0)),(10,.v (.ref b 0)),(88,.v (.bool am))]/\B9 (I (List.map (λ(x:A8)=>[(C9 x)]) (ar++[])++tl)) F [cb b [.bool false]] G)\/(False)) za3 ?_ ?_
 ·clear h;have h:=X
  repeat' (cbv;refine C2 Y h (λ_ h=>?_) (λ_ h=>?_))
  ·cbv;obtain⟨k,rfl⟩:=D7 h
   rw[<-k]at Q
   exact⟨_,.inl ⟨rfl,rfl,Q⟩,.e rfl (.e2 (.e4 .z)),rfl⟩
  ·cbv;obtain⟨k,rfl⟩:=D7 h
   rw[<-k]at Q
   exact⟨_,.inl ⟨rfl,rfl,Q⟩,.e rfl (.e2 (.e4 .z)),rfl⟩
  cbv;obtain⟨k,rfl⟩:=D7 h
  rw[<-k]at Q
  exact⟨_,.inl ⟨rfl,rfl,Q⟩,.e rfl (.e2 (.e4 .z)),rfl⟩
 clear X;rintro e l H M
 rcases M with M|M
 ·obtain⟨rfl,rfl,Q⟩:=M;cbv;refine C2 Y h (λu h=>?_) (λu h=>?_)
  ·cbv;obtain⟨al,B,h⟩:=bind_some h;obtain⟨ba,h,t⟩:=V9 h
   rw[t,D2]at Q
   clear t
   rw[P9,D2]at Q
   refine Sy Y U hD m (ab L S T aK ([]) ([]) al B) Q (.r (.r (.r (.r (.cons (.lit _ (F3)) (.cons (.lit _ (F3)) .z)))))) (λv H hb Q=>?_) (λv H hb Q=>?_)
   ·cases hb;clear B;cbv;refine C5 Y Q 0 rfl rfl λH Q=>?_;cbv;apply C3 Y Q 0 rfl;cbv;obtain⟨k,_⟩:=D7 h
    rw[<-k]at Q
    exact J _ _ _ Q rfl
   cases hb;clear h B;cbv;refine C5 Y Q 0 rfl rfl λH Q=>?_;cbv;apply C3 Y Q 0 rfl;cbv;exact z _ _ _ Q rfl
  cbv;refine E6 Y eBF1 h λaw h=>?_;cbv;refine Ht Y h (W L aw T aK) .z λa0 a4 af h=>?_;cbv;obtain⟨bb,ai,ay,X,h,t⟩:=N5 h
  rw[t,D2]at Q
  clear t;refine Rk cf82 Y N0 (ι:=Unit) (σ:=Unit) (R:=Unit) (enc:=λ(x:A8)=>[(C9 x)]) (λ_ w q H=>B9 (I (List.map (λ(x:A8)=>[(C9 x)]) w++tl)) q [cb b [.bool false]] H) (λ_ e w q H=>False) (λe q H=>e= .ret/\B9 D q [cb b [.bool false]] H) (λi _ P=>[(5,.v (.eref [.eref (E0 L) 0] 0)),(6,.v (.eref (D5 S) 0)),(7,.v (.eref [sr eBE2 T] 0)),(9,.v (.eref [yv] 0)),(10,.v (.ref b 0)),(15,.v (.eref (Am P) 0))]) (λi _ P w q H=>B9 (I (List.map (λ(x:A8)=>[(C9 x)]) w++tl)) q [cb b [.bool false]] H) (λ_ _=>B9.stable (U _) _) (λ_ _ _=>⟨λh=>h.elim,λ_ _ h=>h.elim⟩) (λ_=>G9.con (B9.stable hD _)) (λ_ _ _ _=>B9.stable (U _) _) af X (w':=ai++[]) Q za5 (λ_=>rfl) za3 za3 ?_ ?_ ?_ ?_ ?_
  ·rintro E ak P _ w ad H Y Q;clear X h;cbv;exact⟨(),Q,.e2 (.e4 .z),rfl⟩
  ·rintro E ak _ P _ bc au ad H o Y hF h Q;cbv;refine B3 Y h (c95 N L S T P.s) .z λa1 h=>?_;cbv;refine C2 Y h (λu h=>?_) (λu h=>?_)
   ·cbv;obtain⟨av,h,t⟩:=V9 h
    rw[t,D2]at Q
    clear t;have Q:B9 (I ([.agg [vi 0,vi 0,vi 0,vi 0,sr eBE5 ([P.d]),sr eBE2 P.s]]::(List.map (λ(x:A8)=>[(C9 x)]) (av++au)++tl))) ad [cb b [.bool false]] _:=Q;refine EC Y U hD m Q (.cons (.agg (.r (.r (.r (.r (.cons (.lit _ (I6 ((eBE6 P.d).symm) (F3))) .z)))))) .z) (λH Q=>?_) (λH Q=>?_)
    ·cbv;apply Kg Y (nt_eq _);cbv;obtain⟨k,rfl⟩:=D7 h
     rw[<-k]at Q
     exact⟨_,rfl,Q⟩
    clear h;cbv;apply Kf Y (nt_eq _);cbv;refine C5 Y Q 0 rfl rfl λH Q=>?_;cbv
    first|exact .inr ⟨rfl,rfl,Q⟩|exact .inr (Q)
   cbv;obtain⟨k,rfl⟩:=D7 h
   rw[<-k]at Q
   exact⟨_,rfl,Q⟩
  ·rintro aa _ H rfl hd Q;have Q:B9 (I (List.map (λ(x:A8)=>[(C9 x)]) (ai++[])++tl)) F [cb b [.bool false],.blk aa DB] H:=B9.dblk hd Q;clear hd X;cbv;refine C5 Y Q 0 rfl rfl λH Q=>?_;cbv;refine Je Y Q 1 rfl λH Q=>?_;cbv;apply C3 Y Q 0 rfl;cbv;obtain⟨u,h⟩:=Kk h;obtain⟨k,_⟩:=D7 h
   rw[<-k]at Q
   exact J _ _ _ Q (G2 V.bool u)
  ·rintro _ _ _ _ _ _ h;exact h.elim
  rintro aa e H hd ⟨rfl,Q⟩;have Q:B9 D F [cb b [.bool false],.blk aa DB] H:=B9.dblk hd Q;clear hd X h;cbv;refine Je Y Q 1 rfl λH Q=>?_;cbv;apply C3 Y Q 0 rfl;cbv;exact z _ _ _ Q rfl
 exact M.elim
def k110 (N n:Nat) (W:K42 N n) (s:Bo5 N n):Bo5 N (n+1):=by
 intro C S L aK j p r h
 unfold E9 at h
 obtain⟨⟨w0,u0⟩,O,hr⟩:=bind_some h;clear h;have hr:=G3 hr;subst hr;have h:=O;clear O;refine U5 cf110 N0 func110 za9 za3 call110 ntmps110 za9 (λ_=>rfl) ?_;intro yv I D hI hD hy tl F E H K Y Q J T
 have Q:B9 (I (List.map (λ(x:A8)=>[(C9 x)]) (w0++[])++tl)) F [] H:=by rw[E5];exact Q
 repeat' (cbv;first|apply K2 Y|refine G0 Y Q λt H Q=>?_|apply LY Y hy.1)
 cbv;obtain⟨w3,w4,d,X,h,P⟩:=N5 h
 rw[P,D2]at Q
 clear P;refine Q5 cf110 Y N0 (λe l G=>(match(generalizing:=false) d with| .inl y=>e= .normal/\l=[(7,.v (.eref [.eref (E0 C) 0] 0)),(8,.v (.eref (D5 S) 0)),(9,.v (.eref [sr eBE2 L] 0)),(10,.v (.eref [vi aK] 0)),(11,.v (.eref [sr eBE5 j] 0)),(12,.v (.eref [sr eBE2 p] 0)),(13,.v (.eref [yv] 0)),(14,.v (.ref t 0)),(15,.v (.eref [vi (Ar.len j)] 0))]/\B9 (I (List.map (λ(x:A8)=>[(C9 x)]) (w4++[])++tl)) F [cb t [.bool false]] G| .inr y=>e= .ret/\l=[(14,.v (.ref t 0))]/\B9 (I (List.map (λ(x:A8)=>[(C9 x)]) (w4++[])++tl)) F [cb t [.bool y]] G)\/((e= .ret/\l=[(14,.v (.ref t 0))]/\B9 D F [cb t [.bool false]] G))) za3 ?_ ?_
 ·clear h;have h:=X;cbv;refine C2 Y h (λc h=>?_) (λc h=>?_)
  ·cbv;refine E3 Y (g:=λZ=>sr eBE5 Z) h (λZ X=>Ww (c154 N j Z X)) .z λZ h=>?_;cbv;obtain⟨w6,h,P⟩:=V9 h
   rw[P,D2]at Q
   clear P;have Q:B9 (I ([.agg [vi 0,vi 0,vi 0,vi 0,sr eBE5 Z,sr eBE2 p]]::(List.map (λ(x:A8)=>[(C9 x)]) (w6++(w4++[]))++tl))) F [cb t [.bool false]] _:=Q;refine EC Y hI hD hy Q .z (λH Q=>?_) (λH Q=>?_)
   ·cbv;apply Kg Y (nt_eq _);cbv;refine C2 Y h (λc h=>?_) (λc h=>?_)
    ·cbv;refine C5 Y Q 0 rfl rfl λH Q=>?_;cbv;obtain⟨a,rfl⟩:=D7 h
     rw[<-a]at Q
     exact⟨_,.inl ⟨rfl,rfl,Q⟩,.e rfl .z,rfl⟩
    cbv;obtain⟨a,rfl⟩:=D7 h
    rw[<-a]at Q
    exact⟨_,.inl ⟨rfl,rfl,Q⟩,.e rfl (.e4 (.e4 .z)),rfl⟩
   clear h;cbv;apply Kf Y (nt_eq _);cbv;refine C5 Y Q 0 rfl rfl λH Q=>?_;cbv;exact⟨_,.inr (⟨rfl,rfl,Q⟩),.e rfl .z,rfl⟩
  cbv;obtain⟨a,rfl⟩:=D7 h
  rw[<-a]at Q
  exact⟨_,.inl ⟨rfl,rfl,Q⟩,.e rfl (.e4 (.e4 .z)),rfl⟩
 clear X;rintro e l H k
 rcases k with k|k
 ·rcases d with y7|aw
  ·obtain⟨rfl,rfl,Q⟩:=k;cbv;obtain⟨w9,ag,s8,X,h,P⟩:=N5 h
   rw[P,D2]at Q
   clear P;refine Q5 cf110 Y N0 (λe l G=>(e= .normal/\l=[(7,.v (.eref [.eref (E0 C) 0] 0)),(8,.v (.eref (D5 S) 0)),(9,.v (.eref [sr eBE2 L] 0)),(10,.v (.eref [vi aK] 0)),(11,.v (.eref [sr eBE5 j] 0)),(12,.v (.eref [sr eBE2 p] 0)),(13,.v (.eref [yv] 0)),(14,.v (.ref t 0)),(15,.v (.eref [vi (Ar.len j)] 0)),(16,.v (sr eBE2 s8))]/\B9 (I (List.map (λ(x:A8)=>[(C9 x)]) (ag++[])++tl)) F [cb t [.bool false]] G)\/(False)) za3 ?_ ?_
   ·clear h;have h:=X;cbv;refine C2 Y h (λc h=>?_) (λc h=>?_)
    ·cbv;refine B3 Y h (c92 N L p) .z λal h=>?_;cbv;obtain⟨a,rfl⟩:=D7 h
     rw[<-a]at Q
     exact⟨_,.inl ⟨rfl,rfl,Q⟩,.e2 (.e4 (.e4 .z)),rfl⟩
    cbv;obtain⟨a,rfl⟩:=D7 h
    rw[<-a]at Q
    exact⟨_,.inl ⟨rfl,rfl,Q⟩,.e2 (.e4 (.e4 .z)),rfl⟩
   clear X;rintro e l H k
   rcases k with k|k
   ·obtain⟨rfl,rfl,Q⟩:=k;cbv;apply K2 Y;cbv;refine Ur Y h λh=>?_;cbv;refine E6 Y eBF1 h λaj h=>?_;cbv;refine Ht Y h (W C aj s8 aK) .z λam ap U h=>?_;cbv;obtain⟨aq,ab,ak,X,h,P⟩:=N5 h
    rw[P,D2]at Q
    clear P;refine Rk cf110 Y N0 (ι:=Unit) (σ:=Unit) (R:=Unit) (enc:=λ(x:A8)=>[(C9 x)]) (λ_ w z H=>B9 (I (List.map (λ(x:A8)=>[(C9 x)]) w++tl)) z [cb t [.bool false]] H) (λ_ e w z H=>False) (λe z H=>e= .ret/\B9 D z [cb t [.bool false]] H) (λi _ b=>[(7,.v (.eref [.eref (E0 C) 0] 0)),(8,.v (.eref (D5 S) 0)),(9,.v (.eref [sr eBE2 L] 0)),(10,.v (.eref [vi aK] 0)),(11,.v (.eref [sr eBE5 j] 0)),(12,.v (.eref [sr eBE2 p] 0)),(13,.v (.eref [yv] 0)),(14,.v (.ref t 0)),(15,.v (.eref [vi (Ar.len j)] 0)),(17,.v (.eref (Am b) 0))]) (λi _ b w z H=>B9 (I (List.map (λ(x:A8)=>[(C9 x)]) w++tl)) z [cb t [.bool false]] H) (λ_ _=>B9.stable (hI _) _) (λ_ _ _=>⟨λh=>h.elim,λ_ _ h=>h.elim⟩) (λ_=>G9.con (B9.stable hD _)) (λ_ _ _ _=>B9.stable (hI _) _) U X (w':=ab++[]) Q za5 (λ_=>rfl) za3 za3 ?_ ?_ ?_ ?_ ?_
    ·rintro E ac b _ w M H Y Q;clear X h;cbv;exact⟨(),Q,.e2 (.e4 (.e4 .z)),rfl⟩
    ·rintro E ac _ b _ ar ah M H o Y hF h Q;cbv;obtain⟨au,ai,aa,X,h,P⟩:=N5 h
     rw[P,D2]at Q
     clear P;refine Q5 cf110 Y N0 (λe l G=>(e= .normal/\l=[(7,.v (.eref [.eref (E0 C) 0] 0)),(8,.v (.eref (D5 S) 0)),(9,.v (.eref [sr eBE2 L] 0)),(11,.v (.eref [sr eBE5 j] 0)),(12,.v (.eref [sr eBE2 p] 0)),(13,.v (.eref [yv] 0)),(14,.v (.ref t 0)),(15,.v (.eref [vi (Ar.len j)] 0)),(17,.v (.eref (Am b) 0)),fi 18 aa]/\B9 (I (List.map (λ(x:A8)=>[(C9 x)]) (ai++ah)++tl)) M [cb t [.bool false]] G)\/(False)) za3 ?_ ?_
     ·clear h;have h:=X;cbv;refine C2 Y h (λc h=>?_) (λc h=>?_)
      ·cbv;refine B3 Y h (c94 N b.s) .z λan h=>?_;cbv;obtain⟨a,rfl⟩:=D7 h
       rw[<-a]at Q
       exact⟨_,.inl ⟨rfl,rfl,Q⟩,.e2 (.e4 (.e4 .z)),rfl⟩
      cbv;obtain⟨a,rfl⟩:=D7 h
      rw[<-a]at Q
      exact⟨_,.inl ⟨rfl,rfl,Q⟩,.e2 (.e4 (.e4 .z)),rfl⟩
     clear X;rintro e l H k
     rcases k with k|k
     ·obtain⟨rfl,rfl,Q⟩:=k;cbv;refine B3 Y h (c93 N p b.s) .z λao h=>?_;cbv;refine C2 Y h (λc h=>?_) (λc h=>?_)
      ·cbv;obtain⟨a,rfl⟩:=D7 h
       rw[<-a]at Q
       exact⟨_,rfl,Q⟩
      cbv;refine AW4 Y (f:=eBE5) Z6 h λad h=>?_;cbv;refine Zh (f:=eBE5) Y Z6 za5 (l:=ad) (m:=[b.d]) .z (.lstc (.eq (eBE6 b.d) .z) (.lst0)) h λae h=>?_;cbv;refine E3 Y (g:=λu=>sr eBE2 u) h (c92 N p b.s) .z λu h=>?_;cbv;obtain⟨af,B,h⟩:=bind_some h;obtain⟨av,h,P⟩:=V9 h
      rw[P,D2]at Q
      clear P
      rw[P9,D2]at Q
      refine Sy Y hI hD hy (s C S L aa ae u af B) Q .z (λv H A Q=>?_) (λv H A Q=>?_)
      ·cases A;clear B;cbv;apply Kg Y (nt_eq _);cbv;obtain⟨a,rfl⟩:=D7 h
       rw[<-a]at Q
       exact⟨_,rfl,Q⟩
      cases A;clear h B;cbv;apply Kf Y (nt_eq _);cbv;refine C5 Y Q 0 rfl rfl λH Q=>?_;cbv
      first|exact .inr ⟨rfl,rfl,Q⟩|exact .inr (Q)
     exact k.elim
    ·rintro q _ H rfl hd Q;have Q:B9 (I (List.map (λ(x:A8)=>[(C9 x)]) (ab++[])++tl)) F [cb t [.bool false],.blk q DB] H:=B9.dblk hd Q;clear hd X;cbv;refine C5 Y Q 0 rfl rfl λH Q=>?_;cbv;refine Je Y Q 1 rfl λH Q=>?_;cbv;apply C3 Y Q 0 rfl;cbv;obtain⟨c,h⟩:=Kk h;obtain⟨a,_⟩:=D7 h
     rw[<-a]at Q
     exact J _ _ _ Q (G2 V.bool c)
    ·rintro _ _ _ _ _ _ h;exact h.elim
    rintro q e H hd ⟨rfl,Q⟩;have Q:B9 D F [cb t [.bool false],.blk q DB] H:=B9.dblk hd Q;clear hd X h;cbv;refine Je Y Q 1 rfl λH Q=>?_;cbv;apply C3 Y Q 0 rfl;cbv;exact T _ _ _ Q rfl
   exact k.elim
  obtain⟨rfl,rfl,Q⟩:=k;cbv;apply C3 Y Q 0 rfl;cbv;obtain⟨c,h⟩:=Kk h;obtain⟨a,_⟩:=D7 h
  rw[<-a]at Q
  exact J _ _ _ Q (G2 V.bool c)
 obtain⟨rfl,rfl,Q⟩:=k;clear h;cbv;apply C3 Y Q 0 rfl;cbv;exact T _ _ _ Q rfl
def WZ (N:Nat):∀n,K42 N n/\K81 N n/\K82 N n/\Bo5 N n:=by
 intro n
 induction n with
 |zero=>exact⟨(by intro i S k l r h;unfold F6 at h;cases h),(by intro x y H K r h;unfold Aa at h;cases h),(by intro i S k l r h;unfold N1 at h;cases h),(by intro i S k l P t r h;unfold E9 at h;cases h)⟩
 |succ n ih=>
  obtain⟨b,e,g,a⟩:=ih;exact⟨k42 N n e,k81 N n g,k82 N n b a,k110 N n b a⟩
def c42 (N n a S b e r)(h:F6 N n a S b e=some r):DC prog 42 [.eref (E0 a) 0,(D0 S),sr eBE2 b,vi e] (λv=>Jv prog v (r.map λ(x:A8)=>[(C9 x)])):=(WZ N n).1 a S b e r h
def c43 {cmp:A5->A5->OS Int}{g:Nat}{C:Up V}(e:∀vals w,(callFunc g vals).run prog w= .ok (.enter g vals) w)(X:∀a b r,cmp a b=some r->B8 prog g ([(G8 a),(G8 b)]++C) (vi r)){l r:Up A5}(h:Ll cmp l=some r):
 QL prog 43 (.func (.func g) [] C) 5 (lst eBE5 l) (lst eBE5 r):=OO Go.Proofs.Tryz.sorts43 call43 (va:=λx=>(Bq x)) eBE6 (λ_=>rfl) e X h
def cf9:Cf:=⟨[9,5000009],[(3000011,0),(3000011,1),(3000011,2),(3000011,3)],[],[2000011],[],[]⟩
set_option maxHeartbeats 2000000 in
def c9 (N S aD r) (h:FB N S aD=some r):B8 prog 9 [(D0 S),sr eBE3 aD] (.tup [sr eBE5 r.1,vi r.2]):=by
 refine Wv (T:=TT) cf9 N0 func9 za9 za3 call9 ntmps9 za9 za9 ?_;intro E H0 K Y J hF;have Q:B9 Eq H0 [] H0:=.start H8 rfl
 repeat' (cbv;first|apply C2 Y h<;>intro _ h|refine B3 Y h (c40 _ _) .z λ_ h=>?_|refine B3 Y h (c41 _ _) .z λ_ h=>?_|refine Ht Y h (c42 _ _ _ _ _ _) (.r (.r (.cons (.lit _ (F3)) .z))) λ_ _ Z h=>?_|(cases h;exact J _ _ _ Q (.tup (.cons (.lit _ (F3)) .z)))|refine Ah6 Y (f0:=eBE5) Q λq4 j H W Q=>?_)
 cbv;obtain⟨ag,X,h⟩:=bind_some h;refine Pl cf9 Y N0 (ι:=Unit) (enc:=λ(x:A8)=>[(C9 x)]) (λ(p:(Up A5)) F H=>∃g:OG,(An g (Ar.len p))/\B9 Eq F [cb j [.own g.id g.lo g.n],ob g 5 eBE5 p] H) (λ(r:Unit) e F H=>False) (λi p R=>[(9,.v (.ref j 0)),(10,.v (.eref (Am R) 0))]) (λi p R F H=>∃g:OG,(An g (Ar.len p))/\B9 Eq F [cb j [.own g.id g.lo g.n],ob g 5 eBE5 p] H) (λ_=>G9.ex λ_=>B9.stable H8 _) (λ_ _=>⟨λh=>h.elim,λ_ _ h=>h.elim⟩) (λ_ _ _=>G9.ex λ_=>B9.stable H8 _) Z X (⟨q4,W,Q⟩) za5 (λ_=>rfl) za3 za3 ?_ ?_ ?_ ?_
 ·rintro E aa R p F9 H Y ⟨B,P,Q⟩;clear X h;cbv;exact⟨(),⟨B,P,Q⟩,.e2 .z,rfl⟩
 ·rintro E aa _ R p F9 H o Y hF h ⟨B,P,Q⟩;cbv;obtain⟨L,X,h⟩:=bind_some h;refine Q5 cf9 Y N0 (λe l G=>∃O:OG,An O (Ar.len L)/\e= .normal/\l=[]/\B9 Eq F9 [cb j [.own O.id O.lo O.n],ob O 5 eBE5 L] G) za3 ?_ ?_
  ·clear h;have h:=X;cbv;obtain⟨z,q,h⟩:=bind_some h;obtain⟨U,V,h⟩:=bind_some h;obtain⟨A,s,h⟩:=bind_some h
   repeat' first|refine And.intro ?_ ?_|(refine C3 Y Q 0 rfl ?_;cbv)|(refine MJ Y P ?_;cbv)|(refine Ih (f:=eBE5) Y Z6 za5 Q P 1 rfl (m:=[(⟨(⟨0,0,0⟩:Bb),0,[]⟩:A5)]) (FW (f:=eBE5) Y Z6 (.lstc (.eq (eBE6 (⟨(⟨0,0,0⟩:Bb),0,[]⟩:A5)) (.agg (.r (.r (.r (.r (.cons (.lit _ (F3)) .z))))))) (.lst0))) (S3 q) λz D H k Q w=>?_;obtain rfl:=G3 w;cbv)|(refine R0 Y Q k 1 rfl (S3 V) λw=>?_;clear w;cbv)|(refine CQ Y (f:=eBE5) (esz:=5) (tz:=5) (off:=0) (u:=(λac:A5=>R.d)) (λ_=>⟨_,.eq (eBE6 _) .z,(by rw[eBE6];rfl),Z6 _,rfl⟩) za5 Q k 1 rfl (S3 s) λA H k w Q=>?_;obtain rfl:=G3 w;cbv)|(refine C5 Y Q 0 rfl rfl λH Q=>?_;cbv)|(have h:=G3 h;subst h;exact⟨_,⟨D,k,rfl,rfl,Q⟩,.z,rfl⟩)
  clear X;rintro e l H ⟨I,v,rfl,rfl,Q⟩;cbv;cases h;exact⟨_,rfl,⟨I,v,Q⟩⟩
 ·rintro t n H rfl hd ⟨a,b,Q⟩;have Q:B9 Eq H0 [cb j [.own a.id a.lo a.n],ob a 5 eBE5 n,.blk t DB] H:=B9.dblk hd Q;clear hd;cbv;apply C2 Y h<;>intro _ h
  ·cbv;refine Je Y Q 2 rfl λH Q=>?_;cbv;cases h;exact J _ _ _ Q (.tup (.cons (.lit _ (F3)) .z))
  cbv;apply C3 Y Q 0 rfl;cbv;apply MJ Y b;cbv;obtain⟨M,X,h⟩:=bind_some h;refine I8 cf9 Y N0 (λc=>[(9,.v (.ref j 0)),(42,.v (.own a.id a.lo a.n)),fi 43 (Ar.len n),fi 44 c]) (λc G=>B9 Eq H0 [cb j [.own a.id a.lo a.n],ob a 5 eBE5 n,.blk t DB] G) (λx e l G=>match(generalizing:=false) x with| .inl y=>e= .exit 2/\l=[(9,.v (.ref j 0))]/\B9 Eq H0 [cb j [.own a.id a.lo a.n],ob a 5 eBE5 n,.blk t DB] G| .inr y=>e= .ret/\l=[(4,.v (.sl [] .nil)),fi 5 5]/\B9 Eq H0 [cb j [.own a.id a.lo a.n],ob a 5 eBE5 n,.blk t DB] G) za3 ?_ X ?_ Q ?_
  ·intro c H o Q h;cbv;apply C2 Y h<;>intro _ h
   ·cbv;refine R0 Y Q b 1 rfl h λh=>?_;cbv;refine U1 Y eBE6 Q b 1 rfl h λad h=>?_;exact Zg
   exact Zg
  ·exact .e4 .z
  clear X
  rcases M with ae|af
  ·rintro e l H ⟨rfl,rfl,Q⟩
   repeat' (cbv;first|refine Ox Y Q b 1 rfl h (λab X=>c43 (g:=12) (C:=[]) call12 (λy1 y2 r X=>c12 N N y1 y2 r X) X) λ_ H b Q h=>?_|apply C3 Y Q 0 rfl|(cases h;exact hF _ (GL.tup [.bad,vi 0] 0 za4) a _ _ 1 _ _ Q rfl (Bx Y b) (.tup .z))|refine Je Y Q 2 rfl λH Q=>?_)
  rintro e l H ⟨rfl,rfl,Q⟩;cbv;refine Je Y Q 2 rfl λH Q=>?_;cbv;cases h;exact J _ _ _ Q (.tup (.cons (.lit _ (F3)) .z))
 rintro d r e H rfl hd Q;exact Q.elim
@[reducible, instance] def zc9 (N aA aD):=Ct.mk (f:=9) (c9 N aA aD)
def c198 (N a b r)(h:Kv N a b=some r):B8 prog 198 [.int .u64 a,.int .u64 b] (.tup [.int .u64 r.1,.int .u64 r.2]):=by
 refine R4 cf0 func198 call198 ntmps198 ?_;intro E D K Y J Q
 repeat' (cbv;first|(cases h;exact J Q .z)|apply Pm Y (Mt Y rfl))
@[reducible, instance] def zc198 (N aG aU):=Ct.mk (f:=198) (c198 N aG aU)
def c167 (N a b r)(h:RO N a b=some r):B8 prog 167 [.int .u64 a,.int .u64 b] (.tup [.int .u64 r.1,.int .u64 r.2]):=by
 refine R4 cf0 func167 call167 ntmps167 ?_;intro E D K Y J Q;exact Zg
@[reducible, instance] def zc167 (N aG aU):=Ct.mk (f:=167) (c167 N aG aU)
def cf123:Cf:=⟨[],[(3000009,0),(3000009,1),(3000009,2),(3000009,4),(3000009,5),(3000009,8),(3000009,9)],[(10,3),(26,6)],[2000009],[],[]⟩
set_option maxHeartbeats 2000000 in
def c123 (N j z r) (h:X4 N j z=some r):B8 prog 123 [sr eBE7 j,vi z] (sr eBE7 r):=by
 refine Dx (T:=TT) cf123 N0 func123 za9 za3 call123 ntmps123 za9 za9 ?_;intro E H0 K Y J F;have Q:B9 Eq H0 [] H0:=.start H8 rfl;cbv;obtain⟨I,X,h⟩:=bind_some h;refine Q5 cf123 Y N0 (λe l G=>e= .normal/\l=[(0,.v (sr eBE7 j)),fi 1 z]/\B9 Eq H0 [] G) za3 ?_ ?_
 ·clear h;have h:=X;exact Zg
 clear X;rintro e l H ⟨rfl,rfl,Q⟩
 repeat' (cbv;first|apply K2 Y|refine B3 Y h (c167 _ _ _) .z λv h=>?_)
 cbv;obtain⟨S,X,h⟩:=bind_some h;refine Q5 cf123 Y N0 (λe l G=>e= .normal/\l=[(0,.v (sr eBE7 j)),(6,.v (.int .u64 v.2))]/\B9 Eq H0 [] G) za3 ?_ ?_
 ·clear h;have h:=X;exact Zg
 clear X;rintro e l H ⟨rfl,rfl,Q⟩;cbv;refine Ah4 Y (f:=eBE7) za5 (z0:=((⟨0,[],0,0,0,0,(⟨0,[],0,0,0,(⟨0,0,⟨#[]⟩⟩:B5)⟩:B6)⟩:A0):A0)) ((.eq (eBF1 _) (.agg (.r (.cons (.lit _ (F3)) (.r (.r (.r (.r (.r (.cons (.lit _ (F3)) .z))))))))))) Q h λO L H V h Q=>?_;cbv;refine Bj2 (f:=eBE7) Y Q V 0 rfl (m:=j) (FW (f:=eBE7) Y Lk .z) h λR H V Q h=>?_;cbv;obtain⟨U,X,h⟩:=bind_some h;refine S6 cf123 Y N0 (γ:=OG) (λw g=>[(7,.v (.own g.id g.lo g.n)),fi 8 w.1]) (λw g G=>An g (Ar.len w.2)/\B9 Eq H0 [ob g 14 eBE7 w.2] G) (λx e l G=>∃b:OG,An b (Ar.len x)/\e= .exit 0/\l=[(7,.v (.own b.id b.lo b.n))]/\B9 Eq H0 [ob b 14 eBE7 x] G) za3 ?_ L X ?_ ?_ ?_
 ·rintro w M H o ⟨a,Q⟩ h;cbv;apply MJ Y a;cbv;apply C2 Y h<;>intro _ h
  ·cbv;obtain⟨d,X,h⟩:=bind_some h;refine Q5 cf123 Y N0 (λe l G=>∃b:OG,An b (Ar.len d.2)/\e= .normal/\l=[(7,.v (.own b.id b.lo b.n)),fi 8 d.1]/\B9 Eq H0 [ob b 14 eBE7 d.2] G) za3 ?_ ?_
   ·clear h;have h:=X;cbv;obtain⟨q,k,h⟩:=bind_some h;obtain⟨i,n,h⟩:=bind_some h;obtain⟨s,t,h⟩:=bind_some h
    repeat' first|refine And.intro ?_ ?_|(refine Sw Y Q a 0 rfl (S3 k) λq B y p=>?_;obtain rfl:=G3 p;cbv)|(refine AL8 Y Q a 0 rfl (S3 n) λi C P p=>?_;obtain rfl:=G3 p;cbv)|(refine Ah5 (f:=eBE7) Y Q a 0 rfl y (m:=i) (P) (S3 t) λs H a Q p=>?_;obtain rfl:=G3 p;cbv)|(have h:=G3 h;subst h;exact⟨_,⟨M,a,rfl,rfl,Q⟩,.e2 .z,rfl⟩)
   clear X;rintro e l H ⟨D,A,rfl,rfl,Q⟩;exact Zg
  exact Zg
 ·exact .e2 .z
 ·exact⟨V,Q⟩
 clear X;rintro e l H ⟨u,c,rfl,rfl,Q⟩;cbv;cases h;exact F u _ _ 0 _ _ Q rfl (Bx Y c) .z
@[reducible, instance] def zc123 (N aG cH):=Ct.mk (f:=123) (c123 N aG cH)
def cf88:Cf:=⟨[7],[(18,5)],[],[0],[],[]⟩
def c88 (N:Nat):∀n S a r,Bi N n S a=some r->B8 prog 88 [(D0 S),(G8 a)] (vi r):=by
 intro n
 induction n with
 |zero=>intro S a r h;cases h
 |succ n ih=>
 intro S a r h
 unfold Bi at h
 refine R4 cf88 func88 call88 ntmps88 ?_;intro E D K Y J Q;cbv;refine C2 Y h (λ_ h=>?_) λ_ h=>?_
 ·cbv;cases h;exact J Q (.refl _)
 cbv;obtain⟨I,X,h⟩:=bind_some h;refine Q5 cf88 Y N0 (λe l G=>match(generalizing:=false) I with| .inl y=>e= .normal/\l=[(3,.v (.eref (Bq a) 0)),(5,.v (sr eBE7 y))]/\B9 Eq D [] G| .inr y=>e= .ret/\l=[fi 4 y]/\B9 Eq D [] G) za3 ?_ ?_
 ·clear h;have h:=X;clear X;cbv;refine C2 Y h (λ_ h=>?_) λ_ h=>?_
  ·cbv;refine K2 Y ?_;cbv;refine C2 Y h (λ_ h=>?_) λ_ h=>?_
   ·cbv;cases h;exact⟨_,⟨rfl,rfl,Q⟩,.e rfl .z,rfl⟩
   cbv;refine Pj Y (f:=eBE7) Lk h λm q h=>?_;cbv;cases h;exact⟨_,⟨rfl,rfl,Q⟩,.e rfl (.v (.ro _ _) (.z)),rfl⟩
  cbv;refine C2 Y h (λ_ h=>?_) λ_ h=>?_
  ·cbv;refine K2 Y ?_;cbv;refine C2 Y h (λ_ h=>?_) λ_ h=>?_
   ·cbv;cases h;exact⟨_,⟨rfl,rfl,Q⟩,.e rfl .z,rfl⟩
   cbv;refine K2 Y ?_;cbv;refine B3 Y h (c123 N S.dD (Ar.len a.Kids)) (.refl _) λp h=>?_;cbv;cases h;exact⟨_,⟨rfl,rfl,Q⟩,.e2 .z,rfl⟩
  cbv;cases h;exact⟨_,⟨rfl,rfl,Q⟩,.e2 .z,rfl⟩
 clear X
 rcases I with d|c
 ·rintro e l H ⟨rfl,rfl,Q⟩;cbv;refine K2 Y ?_;cbv;refine K2 Y ?_;cbv;refine C2 Y h (λ_ h=>?_) λ_ h=>?_
  ·cbv;cases h;exact J Q (.refl _)
  cbv;refine K2 Y ?_;cbv;obtain⟨k,X,h⟩:=bind_some h;refine I8 cf88 Y N0 (λb=>[(5,.v (sr eBE7 d)),(69,.v (sr eBE5 a.Kids)),fi 70 (Ar.len a.Kids),fi 71 b]) (λb G=>B9 Eq D [] G) (λx e l G=>match(generalizing:=false) x with| .inl y=>e= .exit 1/\l=[]/\B9 Eq D [] G| .inr y=>e= .ret/\l=[fi 4 y]/\B9 Eq D [] G) za3 ?_ X ?_ Q ?_
  ·intro b H o Q h;clear X;cbv;refine C2 Y h (λ_ h=>?_) λ_ h=>?_
   ·cbv;refine E6 Y eBE6 h λt h=>?_;cbv;refine G0 Y Q λj H Q=>?_;cbv;refine C5 Y Q 0 rfl rfl λH Q=>?_;cbv;refine E6 Y eBF1 h λg h=>?_;cbv;refine C3 Y Q 0 rfl ?_;cbv;refine B3 Y h (ih g t) (.refl _) λi h=>?_;cbv;refine C2 Y h (λ_ h=>?_) λ_ h=>?_
    ·cbv;cases h;exact⟨_,_,rfl,⟨rfl,rfl,Q.tail⟩,.e rfl .z,rfl⟩
    cbv;cases h;exact⟨_,rfl,.e4 .z,rfl,Q.tail⟩
   cbv;cases h;exact⟨_,_,rfl,⟨rfl,rfl,Q⟩,.z,rfl⟩
  ·exact .e4 .z
  clear X
  rcases k with P|V
  ·rintro e l H ⟨rfl,rfl,Q⟩;cbv;cases h;exact J Q (.refl _)
  rintro e l H ⟨rfl,rfl,Q⟩;cbv;cases h;exact J Q (.refl _)
 rintro e l H ⟨rfl,rfl,Q⟩;cbv;cases h;exact J Q (.refl _)
@[reducible, instance] def zc88 (N n aA aL):=Ct.mk (f:=88) (c88 N n aA aL)
def c45 (N S a r)(h:Cn N S a=some r):B8 prog 45 [(D0 S),(G8 a)] (vi r):=by
 unfold Cn at h
 refine R4 cf0 func45 call45 ntmps45 ?_;intro E D K Y J Q;cbv;refine B3 Y h (c40 N S) (.refl _) λb h=>?_;cbv;refine C2 Y h (λ_ h=>?_) λ_ h=>?_
 ·cbv;cases h;exact J Q (.refl _)
 cbv;refine B3 Y h (c37 N N a) (.refl _) λv h=>?_;cbv;refine C2 Y h (λ_ h=>?_) λ_ h=>?_
 ·cbv;cases h;exact J Q (.refl _)
 cbv;refine B3 Y h (c88 N N S a) (.refl _) λe h=>?_;cbv;cases h;exact J Q (.refl _)
@[reducible, instance] def zc45 (N aA aL):=Ct.mk (f:=45) (c45 N aA aL)
def cf51:Cf:=⟨[7],[(5,10),(10,12)],[],[],[],[]⟩
def c51 (N:Nat):∀n S a r,P5 N n S a=some r->B8 prog 51 [(D0 S),(G8 a)] (sr eBE4 r):=by
 intro n
 induction n with
 |zero=>intro S a r h;cases h
 |succ n ih=>
 intro S a r h
 unfold P5 at h
 refine R4 cf51 func51 call51 ntmps51 ?_;intro E D K Y J Q;cbv;refine C2 Y h (λ_ h=>?_) λ_ h=>?_
 ·cbv;cases h;exact J Q (.lit _ (I6 ((eBE9 (⟨S.Var,a.Ref⟩:B0)).symm) (F3)))
 cbv;refine C2 Y h (λ_ h=>?_) λ_ h=>?_
 ·cbv;refine E6 Y eBF1 h λq h=>?_;cbv;refine E6 Y eBE6 h λs h=>?_;cbv;refine B3 Y h (ih q s) (.refl _) λz h=>?_;cbv;cases h;exact J Q (.refl _)
 cbv;refine K2 Y ?_;cbv;replace Q:=Q.tl0 (t:=.nil) rfl;obtain⟨A,X,h⟩:=bind_some h;refine S6 cf51 Y N0 (γ:=J8) (λy g=>[(2,.v (.eref (D5 S) 0)),(5,.v (.sl (lst eBE4 y.1) g)),(32,.v (sr eBE5 a.Kids)),fi 33 (Ar.len a.Kids),fi 34 y.2]) (λy g G=>Ed g/\B9 Eq D [.tl g] G) (λx e l G=>∃V:J8,Ed V/\e= .exit 1/\l=[(5,.v (.sl (lst eBE4 x) V))]/\B9 Eq D [.tl V] G) za3 ?_ .nil X ?_ ?_ ?_
 ·rintro y p H o ⟨k,Q⟩ h;clear X;cbv;refine C2 Y h (λ_ h=>?_) λ_ h=>?_
  ·cbv;refine E6 Y eBE6 h λu h=>?_;cbv;refine G0 Y Q λw H Q=>?_;cbv;refine C5 Y Q 0 rfl rfl λH Q=>?_;cbv;refine K2 Y ?_;cbv;refine Ur Y h λh=>?_;cbv;refine E6 Y eBF1 h λv h=>?_;cbv;refine C3 Y Q 0 rfl ?_;cbv;refine E3 Y (g:=λb=>sr eBE4 b) h (ih v u) (.refl _) λb h=>?_;cbv;refine GD (f:=eBE4) Y Y8 za5 Q 1 rfl k (l:=y.1) (m:=b) (.refl _) (.refl _) h λd P H Q i h=>?_;cbv;cases h;exact⟨_,P,rfl,.e rfl (.e4 .z),rfl,i,Q.tail⟩
  cbv;cases h;exact⟨_,_,rfl,⟨p,k,rfl,rfl,Q⟩,.e rfl .z,rfl⟩
 ·exact .e rfl (.v (.slt _ (.lst0)) (.e rfl (.e rfl (.e rfl (.z)))))
 ·exact⟨trivial,Q⟩
 clear X;rintro e l H ⟨j,c,rfl,rfl,Q⟩;cbv;cases h;exact J Q (.ro _ _)
@[reducible, instance] def zc51 (N n aA aL):=Ct.mk (f:=51) (c51 N n aA aL)
def c46 (N S b r) (h:Eg N S b=some r):B8 prog 46 [(D0 S),(G8 b)] (sr eBG6 r):=by
 unfold Eg at h
 refine R4 cf0 func46 call46 ntmps46 ?_;intro E D K Y J Q;cbv;refine B3 Y h (c51 N N S b) (.refl _) λn h=>?_;cbv;refine K2 Y ?_;cbv;replace Q:=Q.tl0 (t:=.nil) rfl;obtain⟨j,X,h⟩:=bind_some h;refine S6 cf0 Y N0 (γ:=J8) (λd g=>[(5,.v (.sl (lst eBG6 d.1) g)),(10,.v (sr eBE4 n)),fi 11 (Ar.len n),fi 12 d.2]) (λd g G=>Ed g/\B9 Eq D [.tl g] G) (λx e l G=>∃k:J8,Ed k/\e= .exit 0/\l=[(5,.v (.sl (lst eBG6 x) k))]/\B9 Eq D [.tl k] G) za3 ?_ .nil X ?_ ?_ ?_
 ·rintro d P H o ⟨a,Q⟩ h;clear X;cbv;refine C2 Y h (λ_ h=>?_) λ_ h=>?_
  ·cbv;refine E6 Y eBE9 h λx5 h=>?_;cbv;refine GD (f:=eBG6) Y Bf6 za5 Q 0 rfl a (l:=d.1) (m:=[x5.Ref]) (.refl _) (.lstc (.eq (eBH2 x5.Ref) (.refl _)) (.lst0)) h λc V H Q i h=>?_;cbv;cases h;exact⟨_,V,rfl,.e4 .z,rfl,i,Q⟩
  cbv;cases h;exact⟨_,_,rfl,⟨P,a,rfl,rfl,Q⟩,.e rfl .z,rfl⟩
 ·exact .v (.slt _ (.lst0)) (.e rfl (.e2 .z))
 ·exact⟨trivial,Q⟩
 clear X;rintro e l H ⟨p,y,rfl,rfl,Q⟩;cbv;cases h;exact J Q (.ro _ _)
@[reducible, instance] def zc46 (N aA aL):=Ct.mk (f:=46) (c46 N aA aL)
def cf89:Cf:=⟨[],[(5,6),(8,15)],[],[],[],[]⟩
def c89 (N:Nat) (a:Up A9) (b:Bb) (i:V) (t:A9->Bb->OS Int) (y:∀P c q,t P c=some q->Y6 prog i [(DW P),(Gg c)] (vi q)) (r:(Int×Bool)) (h:O8 N a b t=some r):B8 prog 89 [sr eBE3 a,(Gg b),i] (.tup [vi r.1,.bool r.2]):=by
 unfold O8 at h
 refine R4 cf89 func89 call89 ntmps89 ?_;intro E D K Y J Q;cbv;refine K2 Y ?_;cbv;obtain⟨d,X,h⟩:=bind_some h;refine I8 cf89 Y N0 (λI=>[(0,.v (sr eBE3 a)),(2,.v (i)),(4,.v (.eref (Bc1 b) 0)),fi 8 (Ar.len a),fi 9 I.1,fi 10 I.2]) (λI G=>B9 Eq D [] G) (λx e l G=>e= .exit 0/\l=[(0,.v (sr eBE3 a)),(2,.v (i)),(4,.v (.eref (Bc1 b) 0)),fi 8 (Ar.len a),fi 9 x]/\B9 Eq D [] G) za3 ?_ X ?_ Q ?_
 ·intro I H o Q h;clear X;cbv;refine C2 Y h (λ_ h=>?_) λ_ h=>?_
  ·cbv;refine Pm Y (Mt Y rfl) ?_;cbv;refine E6 Y eBF2 h λf h=>?_;cbv;refine AM Y (g:=λk=>vi k) h (λk X=>y f b k X) (.refl _) λk h=>?_;cbv;refine C2 Y h (λ_ h=>?_) λ_ h=>?_
   ·cbv;cases h;exact⟨_,rfl,.e2 (.e4 .z),rfl,Q⟩
   cbv;cases h;exact⟨_,rfl,.e2 (.e4 .z),rfl,Q⟩
  cbv;cases h;exact⟨_,_,rfl,⟨rfl,rfl,Q⟩,.e rfl (.e4 .z),rfl⟩
 ·exact .e2 (.e4 .z)
 clear X;rintro e l H ⟨rfl,rfl,Q⟩;cbv;refine C2 Y h (λ_ h=>?_) λ_ h=>?_
 ·cbv;refine E6 Y eBF2 h λx5 h=>?_;cbv;refine Ah3 Y (g:=λn=>vi n) h (λn X=>y x5 b n X) (.refl _) λn h=>?_;cbv;cases h;exact J Q (.refl _)
 cbv;cases h;exact J Q (.refl _)
def cf90:Cf:=⟨[],[(1,14)],[],[],[],[]⟩
def c90 (N a b r)(h:Cs N a b=some r):B8 prog 90 [(DW a),(Gg b)] (vi r):=by
 unfold Cs at h
 refine R4 cf90 func90 call90 ntmps90 ?_;intro E D K Y J Q;cbv;refine E3 Y (g:=λe=>vi e) h (c64 N a.Time b.Time) (.refl _) λe h=>?_;cbv;refine E3 Y (g:=λv=>vi v) h (c64 N a.Source b.Source) (.refl _) λv h=>?_;cbv;refine B3 Y h (c64 N a.Seq b.Seq) (.refl _) λi h=>?_;cbv;refine B3 Y h (c62 N ([e,v,i])) (.cons (.lit _ (I6 (rfl) (I6 (rfl) (I6 (rfl) (F3))))) (.refl _)) λk h=>?_;cbv;cases h;exact J Q (.refl _)
@[reducible, instance] def zc90 (N aF bR):=Ct.mk (f:=90) (c90 N aF bR)
def c47 (N a b r)(h:Fk N a b=some r):B8 prog 47 [sr eBE3 a,(Gg b)] (.tup [vi r.1,.bool r.2.1,vi r.2.2]):=by
 unfold Fk at h
 refine R4 cf0 func47 call47 ntmps47 ?_;intro E D K Y J Q;cbv;refine B3 Y h (c41 N a) (.refl _) λk h=>?_;cbv;refine C2 Y h (λ_ h=>?_) λ_ h=>?_
 ·cbv;cases h;exact J Q (.refl _)
 cbv;refine B3 Y (g:=λv=>.tup [vi v.1,.bool v.2]) h (λv X=>c89 N a b (.func (.func 90) [] []) (λe i=>Cs N e i) (λe i r X=>B8.value (F:=[]) (C:=[]) (c90 N e i r X)) v X) (.refl _) λv h=>?_;cbv;cases h;exact J Q (.refl _)
@[reducible, instance] def zc47 (N aI bR):=Ct.mk (f:=47) (c47 N aI bR)
def cf48:Cf:=⟨[17],[(3,13),(4,19),(6,16),(14,18)],[(89,14)],[],[],[]⟩
def c48 (N:Nat):∀n i S P k c r,P1 N n i S P k c=some r->B8 prog 48 [.eref (E0 i) 0,(D0 S),(G8 P),sr eBE2 k,vi c] (.tup [sr eBE2 r.1,.bool r.2]):=by
 intro n
 induction n with
 |zero=>intro i S P k c r h;cases h
 |succ n ih=>
 intro i S P k c r h
 unfold P1 at h
 refine R4 cf48 func48 call48 ntmps48 ?_;intro E D K Y J Q;cbv;refine C2 Y h (λ_ h=>?_) λ_ h=>?_
 ·cbv;refine E3 Y (g:=λV=>.tup [vi V.1,.bool V.2.1,vi V.2.2]) h (c47 N i.dH P.Ref) (.refl _) λV h=>?_;cbv;refine C2 Y h (λ_ h=>?_) λ_ h=>?_
  ·cbv;refine E3 Y (g:=λv=>.bool v) h (c91 N i S k V.1) (.refl _) λv h=>?_;cbv;cases h;exact J Q (.tup (.cons (.lit _ (I6 ((eBF5 (⟨S.Var,V.1⟩:A7)).symm) (F3))) (.refl _)))
  cbv;cases h;exact J Q (.tup (.cons (.lit _ (I6 ((eBF5 (⟨S.Var,V.1⟩:A7)).symm) (F3))) (.refl _)))
 cbv;refine C2 Y h (λ_ h=>?_) λ_ h=>?_
 ·cbv;refine E6 Y eBF1 h λF h=>?_;cbv;refine E6 Y eBE6 h λI h=>?_;cbv;refine E3 Y (g:=λf=>.tup [sr eBE2 f.1,.bool f.2]) h (ih i F I k c) (.refl _) λf h=>?_;cbv;cases h;exact J Q (.refl _)
 cbv;refine K2 Y ?_;cbv;replace Q:=Q.tl0 (t:=.nil) rfl;obtain⟨C,X,h⟩:=bind_some h;refine I8 cf48 Y N0 (λb=>[(0,.v (.eref (E0 i) 0)),(3,.v (sr eBE2 k)),fi 4 b.1,(6,.v (.eref (D5 S) 0)),(15,.v (sr eBE2 b.2.1)),(74,.v (sr eBE5 P.Kids)),fi 75 (Ar.len P.Kids),fi 76 b.2.2]) (λb G=>B9 Eq D [.tl .nil] G) (λx e l G=>match(generalizing:=false) x with| .inl y=>e= .exit 1/\l=[(0,.v (.eref (E0 i) 0)),(3,.v (sr eBE2 k)),(6,.v (.eref (D5 S) 0)),(15,.v (sr eBE2 y))]/\B9 Eq D [.tl .nil] G| .inr y=>e= .ret/\l=[(10,.v (.sl [] .nil)),(11,.b false)]/\B9 Eq D [.tl .nil] G) za3 ?_ X ?_ Q ?_
 ·intro b H o Q h;clear X;cbv;refine C2 Y h (λ_ h=>?_) λ_ h=>?_
  ·cbv;refine E6 Y eBE6 h λq h=>?_;cbv;refine G0 Y Q λp H Q=>?_;cbv;refine C5 Y Q 0 rfl rfl λH Q=>?_;cbv;obtain⟨d,X,h⟩:=bind_some h;refine Q5 cf48 Y N0 (λe l G=>e= .normal/\l=[(0,.v (.eref (E0 i) 0)),(3,.v (sr eBE2 k)),fi 4 b.1,(6,.v (.eref (D5 S) 0)),(15,.v (sr eBE2 b.2.1)),fi 16 b.2.2,(17,.v (.ref p 0)),(18,.v (sr eBE2 d)),(74,.v (sr eBE5 P.Kids)),fi 75 (Ar.len P.Kids),fi 76 b.2.2]/\B9 Eq D [cb p (Bq q),.tl .nil] G) za3 ?_ ?_
   ·clear h;have h:=X;clear X;cbv;refine C2 Y h (λ_ h=>?_) λ_ h=>?_
    ·cbv;refine B3 Y h (c92 N k b.2.1) (.refl _) λs h=>?_;cbv;cases h;exact⟨_,⟨rfl,rfl,Q⟩,.e rfl (.e2 (.e4 (.e4 .z))),rfl⟩
    cbv;cases h;exact⟨_,⟨rfl,rfl,Q⟩,.e rfl (.e2 (.e4 (.e4 .z))),rfl⟩
   clear X;rintro e l H ⟨rfl,rfl,Q⟩;cbv;refine K2 Y ?_;cbv;refine Ur Y h λh=>?_;cbv;refine E6 Y eBF1 h λj h=>?_;cbv;refine C3 Y Q 0 rfl ?_;cbv;refine E3 Y (g:=λa=>.tup [sr eBE2 a.1,.bool a.2]) h (ih i j q d b.1) (.refl _) λa h=>?_;cbv;refine C2 Y h (λ_ h=>?_) λ_ h=>?_
   ·cbv;cases h;exact⟨_,_,rfl,⟨rfl,rfl,Q.tail⟩,.e rfl (.b rfl (.z)),rfl⟩
   cbv;refine B3 Y h (c93 N b.2.1 a.1) (.refl _) λu h=>?_;cbv;refine C2 Y h (λ_ h=>?_) λ_ h=>?_
   ·cbv;cases h;exact⟨_,_,rfl,⟨rfl,rfl,Q.tail⟩,.e rfl (.b rfl (.z)),rfl⟩
   cbv;refine C2 Y h (λ_ h=>?_) λ_ h=>?_
   ·cbv;refine B3 Y h (c94 N a.1) (.refl _) λw h=>?_;cbv;refine B3 Y h (c92 N b.2.1 a.1) (.refl _) λz h=>?_;cbv;cases h;exact⟨_,rfl,.e4 (.e4 .z),rfl,Q.tail⟩
   cbv;refine B3 Y h (c92 N b.2.1 a.1) (.refl _) λA h=>?_;cbv;cases h;exact⟨_,rfl,.e4 (.e4 .z),rfl,Q.tail⟩
  cbv;cases h;exact⟨_,_,rfl,⟨rfl,rfl,Q⟩,.e4 .z,rfl⟩
 ·exact .e4 (.v (.lit _ (F3)) (.e rfl (.e rfl (.e rfl (.z)))))
 clear X
 rcases C with m|L
 ·rintro e l H ⟨rfl,rfl,Q⟩;cbv;refine C2 Y h (λ_ h=>?_) λ_ h=>?_
  ·cbv;cases h;exact J Q (.refl _)
  cbv;refine B3 Y h (c95 N i S k m) (.refl _) λB h=>?_;cbv;cases h;exact J Q (.refl _)
 rintro e l H ⟨rfl,rfl,Q⟩;cbv;cases h;exact J Q (.tup (.cons (.lit _ (F3)) (.refl _)))
@[reducible, instance] def zc48 (N n aG aA aL aH aK):=Ct.mk (f:=48) (c48 N n aG aA aL aH aK)
def c11 (N S a b r) (h:S8 N S a b=some r):B8 prog 11 [(D0 S),sr eBE3 a,(G8 b)] (vi r):=by
 unfold S8 at h
 refine R4 cf0 func11 call11 ntmps11 ?_;intro E D K Y J Q;cbv;refine B3 Y h (c45 N S b) (.refl _) λP h=>?_;cbv;refine C2 Y h (λ_ h=>?_) λ_ h=>?_
 ·cbv;cases h;exact J Q (.refl _)
 cbv;refine B3 Y h (c41 N a) (.refl _) λv h=>?_;cbv;refine C2 Y h (λ_ h=>?_) λ_ h=>?_
 ·cbv;cases h;exact J Q (.refl _)
 cbv;refine B3 Y h (c46 N S b) (.refl _) λi h=>?_;cbv;refine K2 Y ?_;cbv;obtain⟨k,X,h⟩:=bind_some h;refine I8 cf0 Y N0 (λg=>[(1,.v (sr eBE3 a)),(3,.v (.eref (D5 S) 0)),(5,.v (.eref (Bq b) 0)),(30,.v (sr eBG6 i)),fi 31 (Ar.len i),fi 32 g]) (λg G=>B9 Eq D [] G) (λx e l G=>match(generalizing:=false) x with| .inl y=>e= .exit 0/\l=[(1,.v (sr eBE3 a)),(3,.v (.eref (D5 S) 0)),(5,.v (.eref (Bq b) 0))]/\B9 Eq D [] G| .inr y=>e= .ret/\l=[fi 6 6]/\B9 Eq D [] G) za3 ?_ X ?_ Q ?_
 ·intro g H o Q h;clear X;cbv;refine C2 Y h (λ_ h=>?_) λ_ h=>?_
  ·cbv;refine E6 Y eBH2 h λn h=>?_;cbv;refine B3 Y h (c47 N a n) (.refl _) λV h=>?_;cbv;refine C2 Y h (λ_ h=>?_) λ_ h=>?_
   ·cbv;cases h;exact⟨_,_,rfl,⟨rfl,rfl,Q⟩,.e rfl .z,rfl⟩
   cbv;cases h;exact⟨_,rfl,.e2 (.e4 .z),rfl,Q⟩
  cbv;cases h;exact⟨_,_,rfl,⟨rfl,rfl,Q⟩,.e rfl (.e2 .z),rfl⟩
 ·exact .e2 (.e4 .z)
 clear X
 rcases k with d|t
 ·rintro e l H ⟨rfl,rfl,Q⟩;cbv;refine B3 Y h (c48 N N (⟨a,0⟩:F2) S b ([]) 0) (.cons (.refl _) (.cons (.refl _) (.cons (.refl _) (.cons (.lit _ (F3)) (.refl _))))) λc h=>?_;cbv;refine C2 Y h (λ_ h=>?_) λ_ h=>?_
  ·cbv;cases h;exact J Q (.refl _)
  cbv;cases h;exact J Q (.refl _)
 rintro e l H ⟨rfl,rfl,Q⟩;cbv;cases h;exact J Q (.refl _)
@[reducible, instance] def zc11 (N aA aD aL):=Ct.mk (f:=11) (c11 N aA aD aL)
def cf133:Cf:=⟨[],[(4,14),(3000006,0),(3000006,1),(3000006,2),(3000006,3),(3000006,4),(3000006,5),(3000006,6),(3000006,7),(3000006,9),(3000006,10),(3000006,11),(3000006,13)],[],[2000006],[],[]⟩
set_option maxHeartbeats 2000000 in
def c133 (N:Nat) (aZ:Up B0) (p:Int) (F:Int) (L:V) (aV:B0->B0->OS Int) (bF:∀y1 y2 q,aV y1 y2=some q->Y6 prog L [(V8 y1),(V8 y2)] (vi q)) (r:(Up B0)) (h:J7 N aZ p F aV=some r):Ub prog 133 (λq=>[.own q.id q.lo q.n,vi p,vi F,L]) 4 (lst eBE4 aZ) (lst eBE4 r):=by
 unfold J7 at h
 refine JT (T:=TT) (m:=4) cf133 N0 func133 za9 za3 call133 ntmps133 za9 (λ_=>rfl) za9 ?_;intro E D P K Y ae Q J;cbv;obtain⟨s3,X,h⟩:=bind_some h;refine S6 cf133 Y N0 (γ:=(SV P)) (λI g=>[(0,.v (.own g.id g.lo g.n)),fi 1 p,fi 2 F,(3,.v (L)),fi 8 I.1]) (λI g G=>An g (Ar.len I.2)/\B9 Eq (upd D P.id none) [ob g 4 eBE4 I.2] G) (λx e l G=>∃b:(SV P),An b (Ar.len x)/\e= .exit 0/\l=[(0,.v (.own b.id b.lo b.n))]/\B9 Eq (upd D P.id none) [ob b 4 eBE4 x] G) za3 ?_ P X ?_ ?_ ?_
 ·rintro I q2 H o ⟨O,Q⟩ h;clear X;cbv;refine C2 Y h (λ_ h=>?_) λ_ h=>?_
  ·cbv;obtain⟨s6,X,h⟩:=bind_some h;refine S6 cf133 Y N0 (γ:=(SV P)) (λM g=>[(0,.v (.own g.id g.lo g.n)),fi 1 p,fi 2 F,(3,.v (L)),fi 8 I.1,fi 9 M.1]) (λM g G=>An g (Ar.len M.2)/\B9 Eq (upd D P.id none) [ob g 4 eBE4 M.2] G) (λx e l G=>∃b:(SV P),An b (Ar.len x)/\e= .exit 2/\l=[(0,.v (.own b.id b.lo b.n)),fi 1 p,fi 2 F,(3,.v (L)),fi 8 I.1]/\B9 Eq (upd D P.id none) [ob b 4 eBE4 x] G) za3 ?_ q2 X ?_ ?_ ?_
   ·rintro M q5 H o ⟨a,Q⟩ h;clear X;cbv;refine C2 Y h (λ_ h=>?_) λ_ h=>?_
    ·cbv;refine R0 Y Q a 0 rfl h λh=>?_;cbv;refine U1 Y eBE9 Q a 0 rfl h λx7 h=>?_;cbv;refine R0 Y Q a 0 rfl h λh=>?_;cbv;refine U1 Y eBE9 Q a 0 rfl h λx8 h=>?_;cbv;refine AM Y (g:=λr9=>vi r9) h (λr9 X=>bF x7 x8 r9 X) (.refl _) λr9 h=>?_;cbv;refine C2 Y h (λ_ h=>?_) λ_ h=>?_
     ·cbv;obtain⟨Z,X,h⟩:=bind_some h;refine Q5 cf133 Y N0 (λe l G=>∃b:(SV P),An b (Ar.len Z)/\e= .normal/\l=[(0,.v (.own b.id b.lo b.n)),fi 1 p,fi 2 F,(3,.v (L)),fi 8 I.1,fi 9 M.1]/\B9 Eq (upd D P.id none) [ob b 4 eBE4 Z] G) za3 ?_ ?_
      ·clear h;have h:=X;clear X;cbv;obtain⟨aa,k,h⟩:=bind_some h;obtain⟨d,w,h⟩:=bind_some h;obtain⟨ab,n,h⟩:=bind_some h;obtain⟨j,z,h⟩:=bind_some h;obtain⟨ac,t,h⟩:=bind_some h;obtain⟨R,s,h⟩:=bind_some h;obtain⟨ad,y,h⟩:=bind_some h;obtain⟨S,v,h⟩:=bind_some h
       repeat' first|refine And.intro ?_ ?_|(refine R0 Y Q a 0 rfl (S3 k) λi=>?_;clear i;cbv)|(refine U1 Y eBE9 Q a 0 rfl (S3 w) λd i=>?_;obtain rfl:=G3 i;cbv)|(refine R0 Y Q a 0 rfl (S3 n) λi=>?_;clear i;cbv)|(refine U1 Y eBE9 Q a 0 rfl (S3 z) λj i=>?_;obtain rfl:=G3 i;cbv)|(refine R0 Y Q a 0 rfl (S3 t) λi=>?_;clear i;cbv)|(refine CQ Y (f:=eBE4) (esz:=4) (tz:=4) (off:=0) (u:=(λaf:B0=>d)) (λ_=>⟨_,.eq (eBE9 _) (.refl _),(by rw[eBE9];rfl),Y8 _,rfl⟩) za5 Q a 0 rfl (S3 s) λR H a i Q=>?_;obtain rfl:=G3 i;cbv)|(refine R0 Y Q a 0 rfl (S3 y) λi=>?_;clear i;cbv)|(refine CQ Y (f:=eBE4) (esz:=4) (tz:=4) (off:=0) (u:=(λag:B0=>j)) (λ_=>⟨_,.eq (eBE9 _) (.refl _),(by rw[eBE9];rfl),Y8 _,rfl⟩) za5 Q a 0 rfl (S3 v) λS H a i Q=>?_;obtain rfl:=G3 i;cbv)|(have h:=G3 h;subst h;exact⟨_,⟨q5,a,rfl,rfl,Q⟩,.e2 (.e4 .z),rfl⟩)
      clear X;rintro e l H ⟨U,A,rfl,rfl,Q⟩;cbv;cases h;exact⟨_,U,rfl,.e2 (.e4 .z),rfl,A,Q⟩
     cbv;cases h;exact⟨_,_,rfl,⟨q5,a,rfl,rfl,Q⟩,.e rfl (.e4 .z),rfl⟩
    cbv;cases h;exact⟨_,_,rfl,⟨q5,a,rfl,rfl,Q⟩,.e rfl (.e4 .z),rfl⟩
   ·exact .e2 (.e4 .z)
   ·exact⟨O,Q⟩
   clear X;rintro e l H ⟨W,B,rfl,rfl,Q⟩;cbv;cases h;exact⟨_,W,rfl,.e rfl (.e4 .z),rfl,B,Q⟩
  cbv;cases h;exact⟨_,_,rfl,⟨q2,O,rfl,rfl,Q⟩,.e rfl .z,rfl⟩
 ·exact .e rfl (.e4 .z)
 ·exact⟨ae,Q⟩
 clear X;rintro e l H ⟨c,C,rfl,rfl,Q⟩;cbv;cases h;obtain⟨c,rfl⟩:=c;exact J _ 0 _ C rfl Q
def cf210:Cf:=⟨[],[(3000003,0),(3000003,1),(3000003,2),(3000003,3),(3000003,4),(3000003,5),(3000003,6),(3000003,7),(3000003,8),(3000003,9),(3000003,10),(3000003,11),(3000003,13),(3000003,14),(3000003,15),(3000003,16),(3000003,17),(3000003,19)],[],[2000003],[],[]⟩
set_option maxHeartbeats 2000000 in
def c210 (N:Nat) (aZ:Up B0) (p:Int) (M:Int) (O:Int) (aX:V) (aV:B0->B0->OS Int) (bF:∀y1 y2 q,aV y1 y2=some q->Y6 prog aX [(V8 y1),(V8 y2)] (vi q)) (r:(Up B0)) (h:R5 N aZ p M O aV=some r):Ub prog 210 (λq=>[.own q.id q.lo q.n,vi p,vi M,vi O,aX]) 4 (lst eBE4 aZ) (lst eBE4 r):=by
 unfold R5 at h
 refine JT (T:=TT) (m:=5) cf210 N0 func210 za9 za3 call210 ntmps210 za9 (λ_=>rfl) za9 ?_;intro E D B K Y Z Q J;cbv;obtain⟨s3,X,h⟩:=bind_some h;refine S6 cf210 Y N0 (γ:=(SV B)) (λI g=>[(0,.v (.own g.id g.lo g.n)),fi 1 p,fi 2 M,fi 3 O,fi 10 I.1]) (λI g G=>An g (Ar.len I.2)/\B9 Eq (upd D B.id none) [ob g 4 eBE4 I.2] G) (λx e l G=>∃P:(SV B),An P (Ar.len x)/\e= .exit 0/\l=[(0,.v (.own P.id P.lo P.n))]/\B9 Eq (upd D B.id none) [ob P 4 eBE4 x] G) za3 ?_ B X ?_ ?_ ?_
 ·rintro I q2 H o ⟨a,Q⟩ h;clear X;cbv;refine C2 Y h (λ_ h=>?_) λ_ h=>?_
  ·cbv;obtain⟨s4,X,h⟩:=bind_some h;refine Q5 cf210 Y N0 (λe l G=>∃P:(SV B),An P (Ar.len s4)/\e= .normal/\l=[(0,.v (.own P.id P.lo P.n)),fi 1 p,fi 2 M,fi 3 O,fi 10 I.1]/\B9 Eq (upd D B.id none) [ob P 4 eBE4 s4] G) za3 ?_ ?_
   ·clear h;have h:=X;clear X;cbv;obtain⟨R,i,h⟩:=bind_some h;obtain⟨j,z,h⟩:=bind_some h;obtain⟨S,k,h⟩:=bind_some h;obtain⟨s,A,h⟩:=bind_some h;obtain⟨U,n,h⟩:=bind_some h;obtain⟨F,v,h⟩:=bind_some h;obtain⟨W,t,h⟩:=bind_some h;obtain⟨L,w,h⟩:=bind_some h
    repeat' first|refine And.intro ?_ ?_|(refine R0 Y Q a 0 rfl (S3 i) λb=>?_;clear b;cbv)|(refine U1 Y eBE9 Q a 0 rfl (S3 z) λj b=>?_;obtain rfl:=G3 b;cbv)|(refine R0 Y Q a 0 rfl (S3 k) λb=>?_;clear b;cbv)|(refine U1 Y eBE9 Q a 0 rfl (S3 A) λs b=>?_;obtain rfl:=G3 b;cbv)|(refine R0 Y Q a 0 rfl (S3 n) λb=>?_;clear b;cbv)|(refine CQ Y (f:=eBE4) (esz:=4) (tz:=4) (off:=0) (u:=(λaa:B0=>j)) (λ_=>⟨_,.eq (eBE9 _) (.refl _),(by rw[eBE9];rfl),Y8 _,rfl⟩) za5 Q a 0 rfl (S3 v) λF H a b Q=>?_;obtain rfl:=G3 b;cbv)|(refine R0 Y Q a 0 rfl (S3 t) λb=>?_;clear b;cbv)|(refine CQ Y (f:=eBE4) (esz:=4) (tz:=4) (off:=0) (u:=(λab:B0=>s)) (λ_=>⟨_,.eq (eBE9 _) (.refl _),(by rw[eBE9];rfl),Y8 _,rfl⟩) za5 Q a 0 rfl (S3 w) λL H a b Q=>?_;obtain rfl:=G3 b;cbv)|(have h:=G3 h;subst h;exact⟨_,⟨q2,a,rfl,rfl,Q⟩,.e rfl (.e4 .z),rfl⟩)
   clear X;rintro e l H ⟨C,c,rfl,rfl,Q⟩;cbv;cases h;exact⟨_,C,rfl,.e rfl (.e4 .z),rfl,c,Q⟩
  cbv;cases h;exact⟨_,_,rfl,⟨q2,a,rfl,rfl,Q⟩,.e rfl .z,rfl⟩
 ·exact .e rfl (.e4 .z)
 ·exact⟨Z,Q⟩
 clear X;rintro e l H ⟨y,d,rfl,rfl,Q⟩;cbv;cases h;obtain⟨y,rfl⟩:=y;exact J _ 0 _ d rfl Q
def c173 (N:Nat) (s:Up B0) (p:Int) (b:Int) (j:Int) (i:V) (n:B0->B0->OS Int) (P:∀v w q,n v w=some q->Y6 prog i [(V8 v),(V8 w)] (vi q)) (r:(Up B0)) (h:BN N s p b j n=some r):Ub prog 173 (λq=>[.own q.id q.lo q.n,vi p,vi b,vi j,i]) 4 (lst eBE4 s) (lst eBE4 r):=by
 unfold BN at h
 refine JT (T:=TT) (m:=5) cf0 N0 func173 za9 za3 call173 ntmps173 za9 (λ_=>rfl) za9 ?_;intro E D t K Y c Q J;cbv;obtain⟨f,X,h⟩:=bind_some h;refine S6 cf0 Y N0 (γ:=(SV t)) (λI g=>[(0,.v (.own g.id g.lo g.n)),fi 2 b,(4,.v (i)),fi 10 I.1,fi 11 I.2.1]) (λI g G=>An g (Ar.len I.2.2)/\B9 Eq (upd D t.id none) [ob g 4 eBE4 I.2.2] G) (λx e l G=>∃y:(SV t),An y (Ar.len x.2)/\e= .exit 0/\l=[(0,.v (.own y.id y.lo y.n)),fi 2 b,(4,.v (i)),fi 10 x.1]/\B9 Eq (upd D t.id none) [ob y 4 eBE4 x.2] G) za3 ?_ t X ?_ ?_ ?_
 ·rintro I d H o ⟨a,Q⟩ h;clear X;cbv;refine C2 Y h (λ_ h=>?_) λ_ h=>?_
  ·cbv;refine C2 Y h (λ_ h=>?_) λ_ h=>?_
   ·cbv;refine Gt Y Q a 0 rfl h (c210 N I.2.2 (ar .sub .i64 b I.1) b I.2.1 i n P) (.refl _) λz H a Q h=>?_;cbv;cases h;exact⟨_,d,rfl,.e rfl (.e4 .z),rfl,a,Q⟩
   cbv;refine Gt Y Q a 0 rfl h (c210 N I.2.2 (ar .sub .i64 b I.1) (ar .sub .i64 (ar .add .i64 b I.2.1) I.1) I.1 i n P) (.refl _) λA H a Q h=>?_;cbv;cases h;exact⟨_,d,rfl,.e rfl (.e4 .z),rfl,a,Q⟩
  cbv;cases h;exact⟨_,_,rfl,⟨d,a,rfl,rfl,Q⟩,.e4 .z,rfl⟩
 ·exact .e rfl (.e4 .z)
 ·exact⟨c,Q⟩
 clear X;rintro e l H ⟨u,k,rfl,rfl,Q⟩;cbv;refine Gt Y Q k 0 rfl h (c210 N f.2 (ar .sub .i64 b f.1) b f.1 i n P) (.refl _) λB H k Q h=>?_;cbv;cases h;obtain⟨u,rfl⟩:=u;exact J _ 0 _ k rfl Q
def cf134:Cf:=⟨[],[(5,9),(17,9),(35,11),(3000011,0),(3000011,1),(3000011,2),(3000011,3),(3000011,4),(3000011,5),(3000011,6),(3000011,7),(3000011,9),(3000011,10),(3000011,11),(3000011,13),(3000023,0),(3000023,1),(3000023,2),(3000023,3),(3000023,4),(3000023,5),(3000023,6),(3000023,7),(3000023,9),(3000023,10),(3000023,11),(3000023,13)],[(140,29),(185,41),(199,43)],[2000011,2000023],[],[]⟩
set_option maxHeartbeats 2000000 in
def c134 (N:Nat):∀(n:Nat) (Z:Up B0) (p:Int) (B:Int) (P:Int) (L:V) (aV:B0->B0->OS Int) (bF:∀y1 y2 q,aV y1 y2=some q->Y6 prog L [(V8 y1),(V8 y2)] (vi q)) (r:(Up B0)),O0 N n Z p B P aV=some r->Ub prog 134 (λq=>[.own q.id q.lo q.n,vi p,vi B,vi P,L]) 4 (lst eBE4 Z) (lst eBE4 r):=by
 intro n
 induction n with
 |zero=>intro Z p B P L aV bF r h;cases h
 |succ n ih=>
 intro Z p B P L aV bF r h
 unfold O0 at h
 refine JT (T:=TT) (m:=5) cf134 N0 func134 za9 za3 call134 ntmps134 za9 (λ_=>rfl) za9 ?_;intro E D a K Y i Q J;cbv;refine C2 Y h (λ_ h=>?_) λ_ h=>?_
 ·cbv;obtain⟨d,X,h⟩:=bind_some h;refine I8 cf134 Y N0 (λI=>[(0,.v (.own a.id a.lo a.n)),fi 1 p,(4,.v (L)),fi 10 I.1,fi 11 I.2]) (λI G=>B9 Eq (upd D a.id none) [ob a 4 eBE4 Z] G) (λx e l G=>e= .exit 0/\l=[(0,.v (.own a.id a.lo a.n)),fi 1 p,fi 10 x]/\B9 Eq (upd D a.id none) [ob a 4 eBE4 Z] G) za3 ?_ X ?_ Q ?_
  ·intro I H o Q h;clear X;cbv;refine C2 Y h (λ_ h=>?_) λ_ h=>?_
   ·cbv;refine Pm Y (Mt Y rfl) ?_;cbv;refine R0 Y Q i 0 rfl h λh=>?_;cbv;refine U1 Y eBE9 Q i 0 rfl h λx3 h=>?_;cbv;refine R0 Y Q i 0 rfl h λh=>?_;cbv;refine U1 Y eBE9 Q i 0 rfl h λx4 h=>?_;cbv;refine AM Y (g:=λr5=>vi r5) h (λr5 X=>bF x3 x4 r5 X) (.refl _) λr5 h=>?_;cbv;refine C2 Y h (λ_ h=>?_) λ_ h=>?_
    ·cbv;cases h;exact⟨_,rfl,.e rfl (.e4 .z),rfl,Q⟩
    cbv;cases h;exact⟨_,rfl,.e rfl (.e4 .z),rfl,Q⟩
   cbv;cases h;exact⟨_,_,rfl,⟨rfl,rfl,Q⟩,.e rfl (.e2 .z),rfl⟩
  ·exact .e rfl (.e4 .z)
  clear X;rintro e l H ⟨rfl,rfl,Q⟩;cbv;obtain⟨s8,X,h⟩:=bind_some h;refine S6 cf134 Y N0 (γ:=(SV a)) (λs6 g=>[(0,.v (.own g.id g.lo g.n)),fi 10 d,fi 13 s6.1]) (λs6 g G=>An g (Ar.len s6.2)/\B9 Eq (upd D a.id none) [ob g 4 eBE4 s6.2] G) (λx e l G=>∃k:(SV a),An k (Ar.len x)/\e= .exit 2/\l=[(0,.v (.own k.id k.lo k.n))]/\B9 Eq (upd D a.id none) [ob k 4 eBE4 x] G) za3 ?_ a X ?_ ?_ ?_
  ·rintro s6 q7 H o ⟨c,Q⟩ h;clear X;cbv;refine C2 Y h (λ_ h=>?_) λ_ h=>?_
   ·cbv;obtain⟨s9,X,h⟩:=bind_some h;refine Q5 cf134 Y N0 (λe l G=>∃k:(SV a),An k (Ar.len s9)/\e= .normal/\l=[(0,.v (.own k.id k.lo k.n)),fi 10 d,fi 13 s6.1]/\B9 Eq (upd D a.id none) [ob k 4 eBE4 s9] G) za3 ?_ ?_
    ·clear h;have h:=X;clear X;cbv;obtain⟨bi,aa,h⟩:=bind_some h;obtain⟨aw,a0,h⟩:=bind_some h;obtain⟨bj,ab,h⟩:=bind_some h;obtain⟨ax,a1,h⟩:=bind_some h;obtain⟨bl,ac,h⟩:=bind_some h;obtain⟨a9,ay,h⟩:=bind_some h;obtain⟨bm,ad,h⟩:=bind_some h;obtain⟨ba,az,h⟩:=bind_some h
     repeat' first|refine And.intro ?_ ?_|(refine R0 Y Q c 0 rfl (S3 aa) λt=>?_;clear t;cbv)|(refine U1 Y eBE9 Q c 0 rfl (S3 a0) λaw t=>?_;obtain rfl:=G3 t;cbv)|(refine R0 Y Q c 0 rfl (S3 ab) λt=>?_;clear t;cbv)|(refine U1 Y eBE9 Q c 0 rfl (S3 a1) λax t=>?_;obtain rfl:=G3 t;cbv)|(refine R0 Y Q c 0 rfl (S3 ac) λt=>?_;clear t;cbv)|(refine CQ Y (f:=eBE4) (esz:=4) (tz:=4) (off:=0) (u:=(λbt:B0=>aw)) (λ_=>⟨_,.eq (eBE9 _) (.refl _),(by rw[eBE9];rfl),Y8 _,rfl⟩) za5 Q c 0 rfl (S3 ay) λa9 H c t Q=>?_;obtain rfl:=G3 t;cbv)|(refine R0 Y Q c 0 rfl (S3 ad) λt=>?_;clear t;cbv)|(refine CQ Y (f:=eBE4) (esz:=4) (tz:=4) (off:=0) (u:=(λbu:B0=>ax)) (λ_=>⟨_,.eq (eBE9 _) (.refl _),(by rw[eBE9];rfl),Y8 _,rfl⟩) za5 Q c 0 rfl (S3 az) λba H c t Q=>?_;obtain rfl:=G3 t;cbv)|(have h:=G3 h;subst h;exact⟨_,⟨q7,c,rfl,rfl,Q⟩,.e rfl (.e2 .z),rfl⟩)
    clear X;rintro e l H ⟨bb,a2,rfl,rfl,Q⟩;cbv;cases h;exact⟨_,bb,rfl,.e rfl (.e2 .z),rfl,a2,Q⟩
   cbv;cases h;exact⟨_,_,rfl,⟨q7,c,rfl,rfl,Q⟩,.e rfl .z,rfl⟩
  ·exact .e rfl (.e2 .z)
  ·exact⟨i,Q⟩
  clear X;rintro e l H ⟨ap,a3,rfl,rfl,Q⟩;cbv;cases h;obtain⟨ap,rfl⟩:=ap;exact J _ 0 _ a3 rfl Q
 cbv;refine C2 Y h (λ_ h=>?_) λ_ h=>?_
 ·cbv;obtain⟨au,X,h⟩:=bind_some h;refine I8 cf134 Y N0 (λO=>[(0,.v (.own a.id a.lo a.n)),fi 2 B,(4,.v (L)),fi 14 O.1,fi 15 O.2]) (λO G=>B9 Eq (upd D a.id none) [ob a 4 eBE4 Z] G) (λx e l G=>e= .exit 4/\l=[(0,.v (.own a.id a.lo a.n)),fi 2 B,fi 14 x]/\B9 Eq (upd D a.id none) [ob a 4 eBE4 Z] G) za3 ?_ X ?_ Q ?_
  ·intro O H o Q h;clear X;cbv;refine C2 Y h (λ_ h=>?_) λ_ h=>?_
   ·cbv;refine Pm Y (Mt Y rfl) ?_;cbv;refine R0 Y Q i 0 rfl h λh=>?_;cbv;refine U1 Y eBE9 Q i 0 rfl h λbg h=>?_;cbv;refine R0 Y Q i 0 rfl h λh=>?_;cbv;refine U1 Y eBE9 Q i 0 rfl h λbh h=>?_;cbv;refine AM Y (g:=λM=>vi M) h (λM X=>bF bg bh M X) (.refl _) λM h=>?_;cbv;refine C2 Y h (λ_ h=>?_) λ_ h=>?_
    ·cbv;cases h;exact⟨_,rfl,.e rfl (.e4 .z),rfl,Q⟩
    cbv;cases h;exact⟨_,rfl,.e rfl (.e4 .z),rfl,Q⟩
   cbv;cases h;exact⟨_,_,rfl,⟨rfl,rfl,Q⟩,.e rfl (.e2 .z),rfl⟩
  ·exact .e rfl (.e4 .z)
  clear X;rintro e l H ⟨rfl,rfl,Q⟩;cbv;obtain⟨bs,X,h⟩:=bind_some h;refine S6 cf134 Y N0 (γ:=(SV a)) (λv g=>[(0,.v (.own g.id g.lo g.n)),fi 14 au,fi 17 v.1]) (λv g G=>An g (Ar.len v.2)/\B9 Eq (upd D a.id none) [ob g 4 eBE4 v.2] G) (λx e l G=>∃k:(SV a),An k (Ar.len x)/\e= .exit 6/\l=[(0,.v (.own k.id k.lo k.n))]/\B9 Eq (upd D a.id none) [ob k 4 eBE4 x] G) za3 ?_ a X ?_ ?_ ?_
  ·rintro v aq H o ⟨b,Q⟩ h;clear X;cbv;refine C2 Y h (λ_ h=>?_) λ_ h=>?_
   ·cbv;obtain⟨av,X,h⟩:=bind_some h;refine Q5 cf134 Y N0 (λe l G=>∃k:(SV a),An k (Ar.len av)/\e= .normal/\l=[(0,.v (.own k.id k.lo k.n)),fi 14 au,fi 17 v.1]/\B9 Eq (upd D a.id none) [ob k 4 eBE4 av] G) za3 ?_ ?_
    ·clear h;have h:=X;clear X;cbv;obtain⟨bc,R,h⟩:=bind_some h;obtain⟨ah,al,h⟩:=bind_some h;obtain⟨bd,S,h⟩:=bind_some h;obtain⟨ai,am,h⟩:=bind_some h;obtain⟨be,U,h⟩:=bind_some h;obtain⟨a4,aj,h⟩:=bind_some h;obtain⟨bf,W,h⟩:=bind_some h;obtain⟨a5,ak,h⟩:=bind_some h
     repeat' first|refine And.intro ?_ ?_|(refine R0 Y Q b 0 rfl (S3 R) λt=>?_;clear t;cbv)|(refine U1 Y eBE9 Q b 0 rfl (S3 al) λah t=>?_;obtain rfl:=G3 t;cbv)|(refine R0 Y Q b 0 rfl (S3 S) λt=>?_;clear t;cbv)|(refine U1 Y eBE9 Q b 0 rfl (S3 am) λai t=>?_;obtain rfl:=G3 t;cbv)|(refine R0 Y Q b 0 rfl (S3 U) λt=>?_;clear t;cbv)|(refine CQ Y (f:=eBE4) (esz:=4) (tz:=4) (off:=0) (u:=(λbq:B0=>ah)) (λ_=>⟨_,.eq (eBE9 _) (.refl _),(by rw[eBE9];rfl),Y8 _,rfl⟩) za5 Q b 0 rfl (S3 aj) λa4 H b t Q=>?_;obtain rfl:=G3 t;cbv)|(refine R0 Y Q b 0 rfl (S3 W) λt=>?_;clear t;cbv)|(refine CQ Y (f:=eBE4) (esz:=4) (tz:=4) (off:=0) (u:=(λbr:B0=>ai)) (λ_=>⟨_,.eq (eBE9 _) (.refl _),(by rw[eBE9];rfl),Y8 _,rfl⟩) za5 Q b 0 rfl (S3 ak) λa5 H b t Q=>?_;obtain rfl:=G3 t;cbv)|(have h:=G3 h;subst h;exact⟨_,⟨aq,b,rfl,rfl,Q⟩,.e rfl (.e2 .z),rfl⟩)
    clear X;rintro e l H ⟨a6,an,rfl,rfl,Q⟩;cbv;cases h;exact⟨_,a6,rfl,.e rfl (.e2 .z),rfl,an,Q⟩
   cbv;cases h;exact⟨_,_,rfl,⟨aq,b,rfl,rfl,Q⟩,.e rfl .z,rfl⟩
  ·exact .e rfl (.e2 .z)
  ·exact⟨i,Q⟩
  clear X;rintro e l H ⟨ae,ao,rfl,rfl,Q⟩;cbv;cases h;obtain⟨ae,rfl⟩:=ae;exact J _ 0 _ ao rfl Q
 cbv;refine Pm Y (Mt Y rfl) ?_;cbv;obtain⟨ag,X,h⟩:=bind_some h;refine Q5 cf134 Y N0 (λe l G=>e= .normal/\l=[(0,.v (.own a.id a.lo a.n)),fi 1 p,fi 2 B,fi 3 P,(4,.v (L)),(18,.v (vi (wr .i64 (sh .shr .u64 (wr .u64 (ar .add .i64 p P)) 1)))),(19,.v (vi (ar .add .i64 (wr .i64 (sh .shr .u64 (wr .u64 (ar .add .i64 p P)) 1)) B))),fi 20 ag.1,fi 21 ag.2]/\B9 Eq (upd D a.id none) [ob a 4 eBE4 Z] G) za3 ?_ ?_
 ·clear h;have h:=X;clear X;cbv;refine C2 Y h (λ_ h=>?_) λ_ h=>?_
  ·cbv;cases h;exact⟨_,⟨rfl,rfl,Q⟩,.e rfl (.e4 (.e4 .z)),rfl⟩
  cbv;cases h;exact⟨_,⟨rfl,rfl,Q⟩,.e rfl (.e4 (.e4 .z)),rfl⟩
 clear X;rintro e l H ⟨rfl,rfl,Q⟩;cbv;obtain⟨y,X,h⟩:=bind_some h;refine I8 cf134 Y N0 (λA=>[(0,.v (.own a.id a.lo a.n)),fi 1 p,fi 2 B,fi 3 P,(4,.v (L)),(18,.v (vi (wr .i64 (sh .shr .u64 (wr .u64 (ar .add .i64 p P)) 1)))),(19,.v (vi (ar .add .i64 (wr .i64 (sh .shr .u64 (wr .u64 (ar .add .i64 p P)) 1)) B))),fi 20 A.1,fi 21 A.2,(22,.v (vi (ar .sub .i64 (ar .add .i64 (wr .i64 (sh .shr .u64 (wr .u64 (ar .add .i64 p P)) 1)) B) 1)))]) (λA G=>B9 Eq (upd D a.id none) [ob a 4 eBE4 Z] G) (λx e l G=>e= .exit 8/\l=[(0,.v (.own a.id a.lo a.n)),fi 1 p,fi 2 B,fi 3 P,(4,.v (L)),(18,.v (vi (wr .i64 (sh .shr .u64 (wr .u64 (ar .add .i64 p P)) 1)))),(19,.v (vi (ar .add .i64 (wr .i64 (sh .shr .u64 (wr .u64 (ar .add .i64 p P)) 1)) B))),fi 20 x]/\B9 Eq (upd D a.id none) [ob a 4 eBE4 Z] G) za3 ?_ X ?_ Q ?_
 ·intro A H o Q h;clear X;cbv;refine C2 Y h (λ_ h=>?_) λ_ h=>?_
  ·cbv;refine Pm Y (Mt Y rfl) ?_;cbv;refine R0 Y Q i 0 rfl h λh=>?_;cbv;refine U1 Y eBE9 Q i 0 rfl h λa7 h=>?_;cbv;refine R0 Y Q i 0 rfl h λh=>?_;cbv;refine U1 Y eBE9 Q i 0 rfl h λa8 h=>?_;cbv;refine AM Y (g:=λz=>vi z) h (λz X=>bF a7 a8 z X) (.refl _) λz h=>?_;cbv;refine C2 Y h (λ_ h=>?_) λ_ h=>?_
   ·cbv;cases h;exact⟨_,rfl,.e2 (.e4 (.e4 .z)),rfl,Q⟩
   cbv;cases h;exact⟨_,rfl,.e2 (.e4 (.e4 .z)),rfl,Q⟩
  cbv;cases h;exact⟨_,_,rfl,⟨rfl,rfl,Q⟩,.e4 (.e4 .z),rfl⟩
 ·exact .e2 (.e4 (.e4 .z))
 clear X;rintro e l H ⟨rfl,rfl,Q⟩;cbv;obtain⟨C,X,h⟩:=bind_some h;refine Q5 cf134 Y N0 (λe l G=>∃k:(SV a),An k (Ar.len C)/\e= .normal/\l=[(0,.v (.own k.id k.lo k.n)),fi 1 p,fi 3 P,(4,.v (L)),(18,.v (vi (wr .i64 (sh .shr .u64 (wr .u64 (ar .add .i64 p P)) 1)))),fi 20 y,(24,.v (vi (ar .sub .i64 (ar .add .i64 (wr .i64 (sh .shr .u64 (wr .u64 (ar .add .i64 p P)) 1)) B) y)))]/\B9 Eq (upd D a.id none) [ob k 4 eBE4 C] G) za3 ?_ ?_
 ·clear h;have h:=X;clear X;cbv;refine C2 Y h (λ_ h=>?_) λ_ h=>?_
  ·cbv;refine Gt Y Q i 0 rfl h (c173 N Z y B (ar .sub .i64 (ar .add .i64 (wr .i64 (sh .shr .u64 (wr .u64 (ar .add .i64 p P)) 1)) B) y) L aV bF) (.refl _) λbn H i Q h=>?_;cbv;cases h;exact⟨_,⟨a,i,rfl,rfl,Q⟩,.e rfl (.e2 (.e4 .z)),rfl⟩
  cbv;cases h;exact⟨_,⟨a,i,rfl,rfl,Q⟩,.e rfl (.e2 (.e4 .z)),rfl⟩
 clear X;rintro e l H ⟨af,j,rfl,rfl,Q⟩;cbv;obtain⟨F,X,h⟩:=bind_some h;refine Q5 cf134 Y N0 (λe l G=>∃k:(SV a),An k (Ar.len F)/\e= .normal/\l=[(0,.v (.own k.id k.lo k.n)),fi 3 P,(4,.v (L)),(18,.v (vi (wr .i64 (sh .shr .u64 (wr .u64 (ar .add .i64 p P)) 1)))),(24,.v (vi (ar .sub .i64 (ar .add .i64 (wr .i64 (sh .shr .u64 (wr .u64 (ar .add .i64 p P)) 1)) B) y)))]/\B9 Eq (upd D a.id none) [ob k 4 eBE4 F] G) za3 ?_ ?_
 ·clear h;have h:=X;clear X;cbv;refine C2 Y h (λ_ h=>?_) λ_ h=>?_
  ·cbv;refine Gt Y Q j 0 rfl h (ih C p y (wr .i64 (sh .shr .u64 (wr .u64 (ar .add .i64 p P)) 1)) L aV bF) (.refl _) λbo H j Q h=>?_;cbv;cases h;exact⟨_,⟨af,j,rfl,rfl,Q⟩,.e rfl (.e4 .z),rfl⟩
  cbv;cases h;exact⟨_,⟨af,j,rfl,rfl,Q⟩,.e rfl (.e4 .z),rfl⟩
 clear X;rintro e l H ⟨w,s,rfl,rfl,Q⟩;cbv;refine C2 Y h (λ_ h=>?_) λ_ h=>?_
 ·cbv;refine Gt Y Q s 0 rfl h (ih F (wr .i64 (sh .shr .u64 (wr .u64 (ar .add .i64 p P)) 1)) (ar .sub .i64 (ar .add .i64 (wr .i64 (sh .shr .u64 (wr .u64 (ar .add .i64 p P)) 1)) B) y) P L aV bF) (.refl _) λbp H s Q h=>?_;cbv;cases h;obtain⟨w,rfl⟩:=w;exact J _ 0 _ s rfl Q
 cbv;cases h;obtain⟨w,rfl⟩:=w;exact J _ 0 _ s rfl Q
def c96 (N:Nat) (B:Up B0) (y:Int) (t:V) (j:B0->B0->OS Int) (z:∀M O q,j M O=some q->Y6 prog t [(V8 M),(V8 O)] (vi q)) (r:(Up B0)) (h:T7 N B y j=some r):Ub prog 96 (λq=>[.own q.id q.lo q.n,vi y,t]) 4 (lst eBE4 B) (lst eBE4 r):=by
 unfold T7 at h
 refine JT (T:=TT) (m:=3) cf0 N0 func96 za9 za3 call96 ntmps96 za9 (λ_=>rfl) za9 ?_;intro E D n K Y A Q J;cbv;obtain⟨L,X,h⟩:=bind_some h;refine S6 cf0 Y N0 (γ:=(SV n)) (λI g=>[(0,.v (.own g.id g.lo g.n)),fi 1 y,(2,.v (t)),fi 6 20,fi 7 I.1,fi 8 I.2.1]) (λI g G=>An g (Ar.len I.2.2)/\B9 Eq (upd D n.id none) [ob g 4 eBE4 I.2.2] G) (λx e l G=>∃b:(SV n),An b (Ar.len x.2)/\e= .exit 0/\l=[(0,.v (.own b.id b.lo b.n)),fi 1 y,(2,.v (t)),fi 6 20,fi 7 x.1]/\B9 Eq (upd D n.id none) [ob b 4 eBE4 x.2] G) za3 ?_ n X ?_ ?_ ?_
 ·rintro I C H o ⟨P,Q⟩ h;clear X;cbv;refine C2 Y h (λ_ h=>?_) λ_ h=>?_
  ·cbv;refine Gt Y Q P 0 rfl h (c133 N I.2.2 I.1 I.2.1 t j z) (.refl _) λW H P Q h=>?_;cbv;cases h;exact⟨_,C,rfl,.e2 (.e4 .z),rfl,P,Q⟩
  cbv;cases h;exact⟨_,_,rfl,⟨C,P,rfl,rfl,Q⟩,.e rfl (.e4 .z),rfl⟩
 ·exact .e2 (.e4 .z)
 ·exact⟨A,Q⟩
 clear X;rintro e l H ⟨U,d,rfl,rfl,Q⟩;cbv;refine Gt Y Q d 0 rfl h (c133 N L.2 L.1 y t j z) (.refl _) λZ H d Q h=>?_;cbv;obtain⟨s9,X,h⟩:=bind_some h;refine S6 cf0 Y N0 (γ:=(SV n)) (λc g=>[(0,.v (.own g.id g.lo g.n)),fi 1 y,(2,.v (t)),fi 6 c.1]) (λc g G=>An g (Ar.len c.2)/\B9 Eq (upd D n.id none) [ob g 4 eBE4 c.2] G) (λx e l G=>∃b:(SV n),An b (Ar.len x)/\e= .exit 2/\l=[(0,.v (.own b.id b.lo b.n))]/\B9 Eq (upd D n.id none) [ob b 4 eBE4 x] G) za3 ?_ U X ?_ ?_ ?_
 ·rintro c F H o ⟨s,Q⟩ h;clear X;cbv;refine C2 Y h (λ_ h=>?_) λ_ h=>?_
  ·cbv;obtain⟨f,X,h⟩:=bind_some h;refine S6 cf0 Y N0 (γ:=(SV n)) (λa g=>[(0,.v (.own g.id g.lo g.n)),fi 1 y,(2,.v (t)),fi 6 c.1,fi 7 a.1,fi 8 a.2.1]) (λa g G=>An g (Ar.len a.2.2)/\B9 Eq (upd D n.id none) [ob g 4 eBE4 a.2.2] G) (λx e l G=>∃b:(SV n),An b (Ar.len x.2)/\e= .exit 4/\l=[(0,.v (.own b.id b.lo b.n)),fi 1 y,(2,.v (t)),fi 6 c.1,fi 7 x.1]/\B9 Eq (upd D n.id none) [ob b 4 eBE4 x.2] G) za3 ?_ F X ?_ ?_ ?_
   ·rintro a u H o ⟨i,Q⟩ h;clear X;cbv;refine C2 Y h (λ_ h=>?_) λ_ h=>?_
    ·cbv;refine Gt Y Q i 0 rfl h (c134 N N a.2.2 a.1 (ar .add .i64 a.1 c.1) a.2.1 t j z) (.refl _) λR H i Q h=>?_;cbv;cases h;exact⟨_,u,rfl,.e2 (.e4 .z),rfl,i,Q⟩
    cbv;cases h;exact⟨_,_,rfl,⟨u,i,rfl,rfl,Q⟩,.e rfl (.e4 .z),rfl⟩
   ·exact .e2 (.e4 .z)
   ·exact⟨s,Q⟩
   clear X;rintro e l H ⟨v,k,rfl,rfl,Q⟩;cbv;refine C2 Y h (λ_ h=>?_) λ_ h=>?_
   ·cbv;refine Gt Y Q k 0 rfl h (c134 N N f.2 f.1 (ar .add .i64 f.1 c.1) y t j z) (.refl _) λS H k Q h=>?_;cbv;cases h;exact⟨_,v,rfl,.e4 .z,rfl,k,Q⟩
   cbv;cases h;exact⟨_,v,rfl,.e4 .z,rfl,k,Q⟩
  cbv;cases h;exact⟨_,_,rfl,⟨F,s,rfl,rfl,Q⟩,.e rfl .z,rfl⟩
 ·exact .e4 .z
 ·exact⟨d,Q⟩
 clear X;rintro e l H ⟨w,p,rfl,rfl,Q⟩;cbv;cases h;obtain⟨w,rfl⟩:=w;exact J _ 0 _ p rfl Q
def c52 (N:Nat)(b:Up B0)(g:V)(e:B0->B0->OS Int)(l:∀i k q,e i k=some q->Y6 prog g [(V8 i),(V8 k)] (vi q))(r:(Up B0))(h:Q4 N b e=some r):Ub prog 52 (λq=>[.own q.id q.lo q.n,g]) 4 (lst eBE4 b) (lst eBE4 r):=by
 unfold Q4 at h
 refine JT (T:=TT) (m:=2) cf0 N0 func52 za9 za3 call52 ntmps52 za9 (λ_=>rfl) za9 ?_;intro E D n K Y a Q J;cbv;refine MJ Y a ?_;cbv;refine Gt Y Q a 0 rfl h (c96 N b (Ar.len b) g e l) (.refl _) λl1 H a Q h=>?_;cbv;cases h;exact J _ 0 _ a rfl Q
def c54 (N p a r)(h:FN N p a=some r):B8 prog 54 [(Gg p),(Gg a)] (vi r):=by
 unfold FN at h
 refine R4 cf0 func54 call54 ntmps54 ?_;intro E D K Y J Q;cbv;refine B3 Y h (c49 N (⟨p.Source,p.Seq,0,p.Time,[]⟩:A9) (⟨a.Source,a.Seq,0,a.Time,[]⟩:A9)) (.cons (.agg (.cons (.refl _) (.cons (.refl _) (.cons (.refl _) (.cons (.refl _) (.cons (.lit _ (F3)) (.refl _))))))) (.cons (.agg (.cons (.refl _) (.cons (.refl _) (.cons (.refl _) (.cons (.refl _) (.cons (.lit _ (F3)) (.refl _))))))) (.refl _))) λb h=>?_;cbv;cases h;exact J Q (.refl _)
@[reducible, instance] def zc54 (N aB aC):=Ct.mk (f:=54) (c54 N aB aC)
def c53 (N p a r)(h:Al N p a=some r):B8 prog 53 [(V8 p),(V8 a)] (vi r):=by
 unfold Al at h
 refine R4 cf0 func53 call53 ntmps53 ?_;intro E D K Y J Q;cbv;refine B3 Y h (c54 N p.Ref a.Ref) (.refl _) λb h=>?_;cbv;cases h;exact J Q (.refl _)
@[reducible, instance] def zc53 (N aB aC):=Ct.mk (f:=53) (c53 N aB aC)
def cf63:Cf:=⟨[],[(1,14)],[],[],[],[]⟩
def c63 (N p a r)(h:GE N p a=some r):B8 prog 63 [(Gg p),(Gg a)] (vi r):=by
 unfold GE at h
 refine R4 cf63 func63 call63 ntmps63 ?_;intro E D K Y J Q;cbv;refine E3 Y (g:=λb=>vi b) h (c64 N p.Time a.Time) (.refl _) λb h=>?_;cbv;refine E3 Y (g:=λv=>vi v) h (c64 N p.Source a.Source) (.refl _) λv h=>?_;cbv;refine B3 Y h (c64 N p.Seq a.Seq) (.refl _) λe h=>?_;cbv;refine B3 Y h (c62 N ([b,v,e])) (.cons (.lit _ (I6 (rfl) (I6 (rfl) (I6 (rfl) (F3))))) (.refl _)) λi h=>?_;cbv;cases h;exact J Q (.refl _)
@[reducible, instance] def zc63 (N aB aC):=Ct.mk (f:=63) (c63 N aB aC)
def c97 (N a b r)(h:Eb N a b=some r):B8 prog 97 [vi a,vi b] (.bool r):=by
 unfold Eb at h
 refine R4 cf0 func97 call97 ntmps97 ?_;intro E D K Y J Q;cbv;cases h;exact J Q (.refl _)
@[reducible, instance] def zc97 (N aR bQ):=Ct.mk (f:=97) (c97 N aR bQ)
def cf55:Cf:=⟨[4],[(10,12)],[],[],[],[]⟩
def c55 (N a r) (h:Fu N a=some r):B8 prog 55 [(BX a)] (vi r):=by
 unfold Fu at h
 refine R4 cf55 func55 call55 ntmps55 ?_;intro E D K Y J Q;cbv;refine K2 Y ?_;cbv;refine C2 Y h (λ_ h=>?_) λ_ h=>?_
 ·cbv;cases h;exact J Q (.refl _)
 cbv;refine K2 Y ?_;cbv;refine C2 Y h (λ_ h=>?_) λ_ h=>?_
 ·cbv;cases h;exact J Q (.refl _)
 cbv;refine K2 Y ?_;cbv;obtain⟨d,X,h⟩:=bind_some h;refine I8 cf55 Y N0 (λI=>[(1,.v (.eref (MW a) 0)),(16,.v (sr eBE4 a.dE)),fi 17 (Ar.len a.dE),fi 18 I]) (λI G=>B9 Eq D [] G) (λx e l G=>match(generalizing:=false) x with| .inl y=>e= .exit 1/\l=[]/\B9 Eq D [] G| .inr y=>e= .ret/\l=[fi 2 y]/\B9 Eq D [] G) za3 ?_ X ?_ Q ?_
 ·intro I H o Q h;clear X;cbv;refine C2 Y h (λ_ h=>?_) λ_ h=>?_
  ·cbv;refine E6 Y eBE9 h λb h=>?_;cbv;refine G0 Y Q λt H Q=>?_;cbv;refine C5 Y Q 0 rfl rfl λH Q=>?_;cbv;refine C3 Y Q 0 rfl ?_;cbv;refine B3 Y h (c97 N b.Var 15) (.refl _) λP h=>?_;cbv;refine C3 Y Q 0 rfl ?_;cbv;refine C2 Y h (λ_ h=>?_) λ_ h=>?_
   ·cbv;cases h;exact⟨_,_,rfl,⟨rfl,rfl,Q.tail⟩,.e rfl .z,rfl⟩
   cbv;refine B3 Y h (c97 N b.Ref.Time 1099511627776) (.refl _) λV h=>?_;cbv;refine C3 Y Q 0 rfl ?_;cbv;refine C2 Y h (λ_ h=>?_) λ_ h=>?_
   ·cbv;cases h;exact⟨_,_,rfl,⟨rfl,rfl,Q.tail⟩,.e rfl .z,rfl⟩
   cbv;refine B3 Y h (c97 N b.Ref.Source 7) (.refl _) λc h=>?_;cbv;refine C3 Y Q 0 rfl ?_;cbv;refine C2 Y h (λ_ h=>?_) λ_ h=>?_
   ·cbv;cases h;exact⟨_,_,rfl,⟨rfl,rfl,Q.tail⟩,.e rfl .z,rfl⟩
   cbv;refine B3 Y h (c97 N b.Ref.Seq 1099511627776) (.refl _) λf h=>?_;cbv;refine C2 Y h (λ_ h=>?_) λ_ h=>?_
   ·cbv;cases h;exact⟨_,_,rfl,⟨rfl,rfl,Q.tail⟩,.e rfl .z,rfl⟩
   cbv;refine C2 Y h (λ_ h=>?_) λ_ h=>?_
   ·cbv;refine E6 Y eBE9 h λi h=>?_;cbv;refine C3 Y Q 0 rfl ?_;cbv;refine B3 Y h (c63 N i.Ref b.Ref) (.refl _) λg h=>?_;cbv;refine C2 Y h (λ_ h=>?_) λ_ h=>?_
    ·cbv;cases h;exact⟨_,_,rfl,⟨rfl,rfl,Q.tail⟩,.e rfl .z,rfl⟩
    cbv;cases h;exact⟨_,rfl,.e4 .z,rfl,Q.tail⟩
   cbv;cases h;exact⟨_,rfl,.e4 .z,rfl,Q.tail⟩
  cbv;cases h;exact⟨_,_,rfl,⟨rfl,rfl,Q⟩,.z,rfl⟩
 ·exact .e4 .z
 clear X
 rcases d with k|n
 ·rintro e l H ⟨rfl,rfl,Q⟩;cbv;cases h;exact J Q (.refl _)
 rintro e l H ⟨rfl,rfl,Q⟩;cbv;cases h;exact J Q (.refl _)
@[reducible, instance] def zc55 (N aQ):=Ct.mk (f:=55) (c55 N aQ)
end Go.Ab
