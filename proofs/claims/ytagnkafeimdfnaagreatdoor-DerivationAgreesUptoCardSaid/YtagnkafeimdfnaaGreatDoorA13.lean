/- . -/
import Derived.Test.YtagnkafeimdfnaaGreatDoorA12
set_option linter.all false
open Go.Ab.Ar (an ar cmp lst nt_eq)
namespace Go.Ab
open Go.RowKit Go.Proofs Go.Proofs.Tryz P4
variable [Ar][P4]
set_option maxRecDepth 100000
def c31 (N p a r)(h:Ka N p a=some r):B8 prog 31 [(DW p),(DW a)] (.bool r):=by
 refine R4 cf0 func31 call31 ntmps31 ?_;intro E D K Y J Q;exact Zg
@[reducible, instance] def zc31 (N aB aC):=Ct.mk (f:=31) (c31 N aB aC)
def cf7:=cfB [] [(8,13),(13,8)]
def c7 (N a r) (h:Lu N a=some r):B8 prog 7 [sr eBE3 a] (vi r):=by
 refine R4 cf7 func7 call7 ntmps7 ?_;intro E D K Y J Q;cbv;apply K2 Y;cbv;apply C2 Y h<;>intro _ h
 ·exact Zg
 cbv;obtain⟨d,X,h⟩:=bind_some h;refine I8 cf7 Y N0 (λI=>[(0,.v (sr eBE3 a)),fi 3 I]) (λI G=>B9 Eq D [] G) (λx e l G=>match(generalizing:=false) x with| .inl y=>e= .exit 0/\l=[]/\B9 Eq D [] G| .inr y=>e= .ret/\l=[fi 2 y]/\B9 Eq D [] G) za3 ?_ X ?_ Q ?_
 ·intro I H o Q h
  repeat' (cbv;first|apply C2 Y h<;>intro _ h|apply K2 Y|refine B3 Y h (c28 _ _) .z λ_ h=>?_|refine B3 Y h (c30 _ _) .z λ_ h=>?_|refine B3 Y h (c29 _ _ _) .z λ_ h=>?_|refine E6 Y eBF2 h λ_ h=>?_|refine E3 Y (g:=λt=>(Gg t)) h (c30 _ _) .z λt h=>?_|(cases h;exact⟨_,_,rfl,⟨rfl,rfl,Q⟩,.e rfl .z,rfl⟩)|(cases h;exact⟨_,_,rfl,⟨rfl,rfl,Q⟩,.z,rfl⟩))
  ·cbv;obtain⟨k,X,h⟩:=bind_some h;refine I8 cf7 Y N0 (λb=>[(0,.v (sr eBE3 a)),fi 3 I,fi 4 b]) (λb G=>B9 Eq D [] G) (λx e l G=>match(generalizing:=false) x with| .inl y=>e= .exit 2/\l=[(0,.v (sr eBE3 a)),fi 3 I]/\B9 Eq D [] G| .inr y=>e= .ret/\l=[fi 2 7]/\B9 Eq D [] G) za3 ?_ X ?_ Q ?_
   ·intro b H o Q h;exact Zg
   ·exact .e rfl (.e2 .z)
   clear X
   rcases k with P|V
   ·rintro e l H ⟨rfl,rfl,Q⟩;exact Zg
   rintro e l H ⟨rfl,rfl,Q⟩;exact Zg
  cbv;obtain⟨n,X,h⟩:=bind_some h;refine I8 cf7 Y N0 (λi=>[(0,.v (sr eBE3 a)),fi 3 I,fi 4 i]) (λi G=>B9 Eq D [] G) (λx e l G=>match(generalizing:=false) x with| .inl y=>e= .exit 2/\l=[(0,.v (sr eBE3 a)),fi 3 I]/\B9 Eq D [] G| .inr y=>e= .ret/\l=[fi 2 7]/\B9 Eq D [] G) za3 ?_ X ?_ Q ?_
  ·intro i H o Q h;exact Zg
  ·exact .e rfl (.e2 .z)
  clear X
  rcases n with c|f
  ·rintro e l H ⟨rfl,rfl,Q⟩;exact Zg
  rintro e l H ⟨rfl,rfl,Q⟩;exact Zg
 ·exact .e2 .z
 clear X
 rcases d with j|m
 ·rintro e l H ⟨rfl,rfl,Q⟩;exact Zg
 rintro e l H ⟨rfl,rfl,Q⟩;exact Zg
@[reducible, instance] def zc7 (N aI):=Ct.mk (f:=7) (c7 N aI)
def c62 (N a r) (h:GJ N a=some r):B8 prog 62 [sr (V.int .i64) a] (vi r):=by
 refine R4 cf0 func62 call62 ntmps62 ?_;intro E D K Y J Q;cbv;apply K2 Y;cbv;obtain⟨d,X,h⟩:=bind_some h;refine I8 cf0 Y N0 (λI=>[fi 3 0,(6,.v (sr (V.int .i64) a)),fi 7 (Ar.len a),fi 8 I]) (λI G=>B9 Eq D [] G) (λx e l G=>match(generalizing:=false) x with| .inl y=>e= .exit 0/\l=[fi 3 0]/\B9 Eq D [] G| .inr y=>e= .ret/\l=[fi 2 y]/\B9 Eq D [] G) za3 ?_ X ?_ Q ?_
 ·intro I H o Q h;cbv;apply C2 Y h<;>intro _ h
  ·cbv;refine E6 Y (λ_=>rfl) h λb h=>?_;exact Zg
  exact Zg
 ·exact .e4 .z
 clear X
 rcases d with g|i
 ·rintro e l H ⟨rfl,rfl,Q⟩;exact Zg
 rintro e l H ⟨rfl,rfl,Q⟩;exact Zg
@[reducible, instance] def zc62 (N cD):=Ct.mk (f:=62) (c62 N cD)
def c99 (N a r)(h:Ix N a=some r):B8 prog 99 [vi a] (.bool r):=by
 refine R4 cf0 func99 call99 ntmps99 ?_;intro E D K Y J Q;exact Zg
@[reducible, instance] def zc99 (N aG):=Ct.mk (f:=99) (c99 N aG)
def c64 (N a b r)(h:Q3 N a b=some r):B8 prog 64 [vi a,vi b] (vi r):=by
 refine R4 cf0 func64 call64 ntmps64 ?_;intro E D K Y J Q;exact Zg
@[reducible, instance] def zc64 (N aG aU):=Ct.mk (f:=64) (c64 N aG aU)
def cf87:=cfA [2]
def c87 (N a r)(h:Dw N a=some r):B8 prog 87 [(DW a)] ((Gg r)):=by
 refine R4 cf87 func87 call87 ntmps87 ?_;intro E D K Y J Q;exact Zg
@[reducible, instance] def zc87 (N aF):=Ct.mk (f:=87) (c87 N aF)
def cf49:=cfB [] [(1,3),(3,14)]
def c49 (N p a r)(h:Di N p a=some r):B8 prog 49 [(DW p),(DW a)] (vi r):=by
 unfold Di at h
 refine R4 cf49 func49 call49 ntmps49 ?_;intro E D K Y J Q;cbv;refine E3 Y (g:=λi=>(Gg i)) h (c87 N p) (.refl _) λi h=>?_;cbv;refine B3 Y h (c87 N a) (.refl _) λv h=>?_;cbv;refine C2 Y h (λ_ h=>?_) λ_ h=>?_
 ·cbv;cases h;exact J Q (.refl _)
 cbv;refine E3 Y (g:=λb=>vi b) h (c64 N p.Time a.Time) (.refl _) λb h=>?_;cbv;refine E3 Y (g:=λe=>vi e) h (c64 N p.Source a.Source) (.refl _) λe h=>?_;cbv;refine B3 Y h (c64 N p.Seq a.Seq) (.refl _) λk h=>?_;cbv;refine B3 Y h (c62 N ([b,e,k])) (.cons (.lit _ (I6 (rfl) (I6 (rfl) (I6 (rfl) (F3))))) (.refl _)) λl h=>?_;cbv;cases h;exact J Q (.refl _)
@[reducible, instance] def zc49 (N aB aC):=Ct.mk (f:=49) (c49 N aB aC)
def cf50:=cfA [8]
def c50 (N:Nat) (a:Up A5) (b:Up A5) (k:V) (n:A5->A5->OS Int) (c:∀t P q,n t P=some q->Y6 prog k [(G8 t),(G8 P)] (vi q)) (r:Int) (h:K6 N a b n=some r):B8 prog 50 [sr eBE5 a,sr eBE5 b,k] (vi r):=by
 refine R4 cf50 func50 call50 ntmps50 ?_;intro E D K Y J Q;cbv;apply K2 Y;cbv;obtain⟨d,X,h⟩:=bind_some h;refine I8 cf50 Y N0 (λI=>[(0,.v (sr eBE5 a)),(1,.v (sr eBE5 b)),(2,.v (k)),(11,.v (sr eBE5 a)),fi 12 (Ar.len a),fi 13 I]) (λI G=>B9 Eq D [] G) (λx e l G=>match(generalizing:=false) x with| .inl y=>e= .exit 0/\l=[(0,.v (sr eBE5 a)),(1,.v (sr eBE5 b))]/\B9 Eq D [] G| .inr y=>e= .ret/\l=[fi 6 y]/\B9 Eq D [] G) za3 ?_ X ?_ Q ?_
 ·intro I H o Q h;cbv;apply C2 Y h<;>intro _ h
  ·cbv;refine E6 Y eBE6 h λf h=>?_;cbv;refine G0 Y Q λj H Q=>?_;cbv;refine C5 Y Q 0 rfl rfl λH Q=>?_;cbv;apply K2 Y;cbv;apply C2 Y h<;>intro _ h
   ·exact Zg
   cbv;refine E6 Y eBE6 h λx5 h=>?_;cbv;apply C3 Y Q 0 rfl;cbv;refine AM Y (g:=λi=>vi i) h (λi X=>c f x5 i X) .z λi h=>?_;exact Zg
  exact Zg
 ·exact .e2 (.e4 .z)
 clear X
 rcases d with m|p
 ·rintro e l H ⟨rfl,rfl,Q⟩;exact Zg
 rintro e l H ⟨rfl,rfl,Q⟩;exact Zg
def c12 (N:Nat):∀n p a r,R3 N n p a=some r->B8 prog 12 [(G8 p),(G8 a)] (vi r):=by
 intro n
 induction n with
 |zero=>intro p a r h;cases h
 |succ n ih=>
 intro p a r h
 unfold R3 at h
 refine R4 cf0 func12 call12 ntmps12 ?_;intro E D K Y J Q
 repeat' (cbv;first|refine C2 Y h (λ_ h=>?_) (λ_ h=>?_)|refine B3 Y h (c49 _ _ _) (.cons (.agg (.cons (.refl _) (.cons (.refl _) (.cons (.refl _) (.cons (.refl _) (.cons (.lit _ (F3)) (.refl _))))))) (.cons (.agg (.cons (.refl _) (.cons (.refl _) (.cons (.refl _) (.cons (.refl _) (.cons (.lit _ (F3)) (.refl _))))))) (.refl _))) λ_ h=>?_|refine B3 Y (g:=λv=>vi v) h (λv X=>c50 N p.Kids a.Kids (.func (.func 12) [] []) (λb e=>R3 N n b e) (λb e r X=>B8.value (F:=[]) (C:=[]) (ih b e r X)) v X) (.refl _) λv h=>?_|(cases h;exact J Q (.refl _)))
@[reducible, instance] def zc12 (N n aB aC):=Ct.mk (f:=12) (c12 N n aB aC)
def c37 (N:Nat):∀n a r,X2 N n a=some r->B8 prog 37 [(G8 a)] (vi r):=by
 intro n
 induction n with
 |zero=>intro a r h;cases h
 |succ n ih=>
 intro a r h
 unfold X2 at h
 refine R4 cf0 func37 call37 ntmps37 ?_;intro E D K Y J Q;cbv;apply K2 Y;cbv;obtain⟨d,X,h⟩:=bind_some h;refine I8 cf0 Y N0 (λI=>[fi 3 I.1,(7,.v (sr eBE5 a.Kids)),fi 8 (Ar.len a.Kids),fi 9 I.2]) (λI G=>B9 Eq D [] G) (λx e l G=>e= .exit 0/\l=[fi 3 x]/\B9 Eq D [] G) za3 ?_ X ?_ Q ?_
 ·intro I H o Q h;exact Zg
 ·exact .e4 .z
 clear X;rintro e l H ⟨rfl,rfl,Q⟩;exact Zg
@[reducible, instance] def zc37 (N n aL):=Ct.mk (f:=37) (c37 N n aL)
def c153 (N:Nat):∀n S r,Cc N n S=some r->Jl prog 153 (λi=>[(D0 S),i]) (List.map (λ(x:A0)=>[(D0 x)]) r) rbB:=by
 intro n
 induction n with
 |zero=>intro S r h;cases h
 |succ n ih=>
 intro S r h
 unfold Cc at h
 obtain⟨⟨w0,s⟩,O,f⟩:=bind_some h;clear h;have f:=G3 f;subst f;have h:=O;clear O;refine U5 cf0 N0 func153 za9 za3 call153 ntmps153 za9 (λ_=>rfl) ?_;intro i I D t k m tl F E H K Y Q J b
 have Q:B9 (I (List.map (λ(x:A0)=>[(D0 x)]) (w0++[])++tl)) F [] H:=by rw[E5];exact Q
 cbv;obtain⟨V,h,a⟩:=V9 h
 rw[a,D2]at Q
 clear a;have Q:B9 (I ([(D0 S)]::(List.map (λ(x:A0)=>[(D0 x)]) (V++[])++tl))) F [] _:=Q;refine EC Y t k m Q .z (λH Q=>?_) (λH Q=>?_)
 ·cbv;apply Kg Y (nt_eq _);cbv;apply K2 Y;cbv;obtain⟨u,j,q,X,h,a⟩:=N5 h
  rw[a,D2]at Q
  clear a;refine Gs cf0 Y N0 (γ:=Unit) (λd g=>[(1,.v (i)),(12,.v (sr eBE7 S.dD)),fi 13 (Ar.len S.dD),fi 14 d]) (λd g w G=>B9 (I (List.map (λ(x:A0)=>[(D0 x)]) w++tl)) F [] G) (λx e l w G=>e= .exit 0/\l=[]/\B9 (I (List.map (λ(x:A0)=>[(D0 x)]) w++tl)) F [] G) (λe l G=>(e= .ret/\l=[(4,.b false)]/\B9 D F [] G)) za3 ?_ (w':=j++[]) () X ?_ ?_ ?_ ?_
  ·rintro d _ z C H o Q h
   skip
   cbv;apply C2 Y h<;>intro _ h
   ·cbv;refine E6 Y eBF1 h λp h=>?_;cbv;obtain⟨P,B,h⟩:=bind_some h;obtain⟨c,h,a⟩:=V9 h
    rw[a,D2]at Q
    clear a
    rw[P9,D2]at Q
    refine Sy Y t k m (ih p P B) Q .z (λv H A Q=>?_) (λv H A Q=>?_)
    ·cases A;clear B;cbv;apply Kg Y (nt_eq _);cbv;obtain⟨R,rfl⟩:=D7 h
     rw[<-R]at Q
     exact⟨_,(),rfl,.e4 .z,rfl,Q⟩
    cases A;clear h B;cbv;apply Kf Y (nt_eq _);cbv;exact .inr ⟨_,⟨rfl,rfl,Q⟩,.b rfl (.z),rfl⟩
   cbv;obtain⟨R,rfl⟩:=D7 h
   rw[<-R]at Q
   exact .inl ⟨_,_,rfl,⟨rfl,rfl,Q⟩,.z,rfl⟩
  ·exact .e4 .z
  ·exact Q
  ·rintro e l H ⟨rfl,rfl,Q⟩;cbv;obtain⟨R,_⟩:=D7 h
   rw[<-R]at Q
   exact J _ _ _ Q rfl
  rintro e l H y;obtain⟨rfl,rfl,Q⟩:=y;clear h;cbv;exact b _ _ _ Q rfl
 clear h;cbv;apply Kf Y (nt_eq _);cbv;exact b _ _ _ Q rfl
def c152 (N a r) (h:DZ N a=some r):Jl prog 152 (λg=>[g,.eref (D5 a) 0]) (List.map (λ(x:A0)=>[(D0 x)]) r) rbN:=by
 unfold DZ at h
 obtain⟨⟨w0,l⟩,O,f⟩:=bind_some h;clear h;have f:=G3 f;subst f;have h:=O;clear O;refine U5 cf0 N0 func152 za9 za3 call152 ntmps152 za9 (λ_=>rfl) ?_;intro g I D k i m tl F E H K Y Q J b
 have Q:B9 (I (List.map (λ(x:A0)=>[(D0 x)]) (w0++[])++tl)) F [] H:=by rw[E5];exact Q
 cbv;obtain⟨l1,B,h⟩:=bind_some h;obtain⟨n,h,e⟩:=V9 h
 rw[e,D2]at Q
 clear e
 rw[P9,D2]at Q
 refine Sy Y k i m (c153 N N a l1 B) Q .z (λv H A Q=>?_) (λv H A Q=>?_)
 ·cases A;clear B;cbv;obtain⟨R,_⟩:=D7 h
  rw[<-R]at Q
  exact J _ _ _ Q trivial
 cases A;clear h B;cbv;exact b _ _ _ Q trivial
def c109 (N S r)(h:Bg N S=some r):DC prog 109 [(D0 S)] (λv=>Jv prog v (r.map λ(x:A0)=>[(D0 x)])):=by
 refine Av cf0 N0 func109 za9 za3 call109 ntmps109 za9 za9 ?_;intro E H0 K Y J;have Q:B9 Eq H0 [] H0:=.start H8 rfl;cbv;exact J _ _ _ Q (Bl call152 (c152 N S r h))
def c150 (N:Nat):∀n S r,Ad N n S=some r->B8 prog 150 [(D0 S)] (.tup [vi r.1,vi r.2]):=by
 intro n
 induction n with
 |zero=>intro S r h;cases h
 |succ n ih=>
 intro S r h
 unfold Ad at h
 refine R4 cf0 func150 call150 ntmps150 ?_;intro E D K Y J Q;cbv;apply K2 Y;cbv;obtain⟨d,X,h⟩:=bind_some h;refine I8 cf0 Y N0 (λI=>[fi 4 I.1,fi 5 I.2.1,(11,.v (sr eBE7 S.dD)),fi 12 (Ar.len S.dD),fi 13 I.2.2]) (λI G=>B9 Eq D [] G) (λx e l G=>e= .exit 0/\l=[fi 4 x.1,fi 5 x.2]/\B9 Eq D [] G) za3 ?_ X ?_ Q ?_
 ·intro I H o Q h;exact Zg
 ·exact .e rfl (.e4 .z)
 clear X;rintro e l H ⟨rfl,rfl,Q⟩;exact Zg
@[reducible, instance] def zc150 (N n aA):=Ct.mk (f:=150) (c150 N n aA)
def c179 (N b a e r)(h:Cv N b a e=some r):B8 prog 179 [.bool b,vi a,vi e] (.bool r):=by
 refine R4 cf0 func179 call179 ntmps179 ?_;intro E D K Y J Q;exact Zg
@[reducible, instance] def zc179 (N bP aR bQ):=Ct.mk (f:=179) (c179 N bP aR bQ)
def c218 (N:Nat):∀n a r,FM N n a=some r->B8 prog 218 [(Cr a)] (.tup [vi r.1,vi r.2]):=by
 intro n
 induction n with
 |zero=>intro a r h;cases h
 |succ n ih=>
 intro a r h
 unfold FM at h
 refine R4 cf0 func218 call218 ntmps218 ?_;intro E D K Y J Q;cbv;apply K2 Y;cbv;obtain⟨d,X,h⟩:=bind_some h;refine I8 cf0 Y N0 (λI=>[fi 4 I.1,fi 5 I.2.1,(11,.v (sr eBF9 a.dD)),fi 12 (Ar.len a.dD),fi 13 I.2.2]) (λI G=>B9 Eq D [] G) (λx e l G=>e= .exit 0/\l=[fi 4 x.1,fi 5 x.2]/\B9 Eq D [] G) za3 ?_ X ?_ Q ?_
 ·intro I H o Q h;exact Zg
 ·exact .e rfl (.e4 .z)
 clear X;rintro e l H ⟨rfl,rfl,Q⟩;exact Zg
@[reducible, instance] def zc218 (N n aF):=Ct.mk (f:=218) (c218 N n aF)
def c219 (N:Nat):∀(n:Nat) (a:B6) (b:V) (i:B6->OS Int) (k:∀P q,i P=some q->Y6 prog b [(Cr P)] (vi q)) (r:Int),GG N n a i=some r->B8 prog 219 [(Cr a),b] (vi r):=by
 intro n
 induction n with
 |zero=>intro a b i k r h;cases h
 |succ n ih=>
 intro a b i k r h
 unfold GG at h
 refine R4 cf0 func219 call219 ntmps219 ?_;intro E D K Y J Q;cbv;refine AM Y (g:=λt=>vi t) h (λt X=>k a t X) .z λt h=>?_;cbv;apply C2 Y h<;>intro _ h
 ·exact Zg
 cbv;apply K2 Y;cbv;obtain⟨c,X,h⟩:=bind_some h;refine I8 cf0 Y N0 (λd=>[(1,.v (b)),(16,.v (sr eBF9 a.dD)),fi 17 (Ar.len a.dD),fi 18 d]) (λd G=>B9 Eq D [] G) (λx e l G=>match(generalizing:=false) x with| .inl y=>e= .exit 0/\l=[]/\B9 Eq D [] G| .inr y=>e= .ret/\l=[fi 4 y]/\B9 Eq D [] G) za3 ?_ X ?_ Q ?_
 ·intro d H o Q h;cbv;apply C2 Y h<;>intro _ h
  ·cbv;refine E6 Y eBH0 h λf h=>?_;cbv;refine B3 Y h (ih f b i k) .z λj h=>?_;exact Zg
  exact Zg
 ·exact .e4 .z
 clear X
 rcases c with m|p
 ·rintro e l H ⟨rfl,rfl,Q⟩;exact Zg
 rintro e l H ⟨rfl,rfl,Q⟩;exact Zg
def c245 (N a r)(h:MR N a=some r):B8 prog 245 [vi a] (.tup [vi r.1,.bool r.2]):=by
 refine R4 cf0 func245 call245 ntmps245 ?_;intro E D K Y J Q;exact Zg
@[reducible, instance] def zc245 (N aT):=Ct.mk (f:=245) (c245 N aT)
def cf246:=cfC [] [] [(5,4)]
def c246 (N a r)(h:Px N a=some r):B8 prog 246 [vi a] (.tup [.bool r.1,.bool r.2]):=by
 refine R4 cf246 func246 call246 ntmps246 ?_;intro E D K Y J Q;cbv;obtain⟨I,X,h⟩:=bind_some h;refine Q5 cf246 Y N0 (λe l G=>e= .normal/\l=[fi 4 a,(5,.v (.bool I))]/\B9 Eq D [] G) za3 ?_ ?_
 ·clear h;have h:=X;exact Zg
 clear X;rintro e l H ⟨rfl,rfl,Q⟩;exact Zg
@[reducible, instance] def zc246 (N aT):=Ct.mk (f:=246) (c246 N aT)
def c271 (N a r)(h:Mx N a=some r):B8 prog 271 [(J2 a)] (vi r):=by
 refine R4 cf0 func271 call271 ntmps271 ?_;intro E D K Y J Q;exact Zg
@[reducible, instance] def zc271 (N aN):=Ct.mk (f:=271) (c271 N aN)
def cf260:=cfC [] [] [(5,5)]
def c260 (N a r)(h:CJ N a=some r):B8 prog 260 [(J2 a)] (vi r):=by
 refine R4 cf260 func260 call260 ntmps260 ?_;intro E D K Y J Q;cbv;obtain⟨I,X,h⟩:=bind_some h;refine Q5 cf260 Y N0 (λe l G=>e= .normal/\l=[(1,.v (.eref (AV a) 0)),fi 4 a.Kind,(5,.v (.bool I))]/\B9 Eq D [] G) za3 ?_ ?_
 ·clear h;have h:=X;exact Zg
 clear X;rintro e l H ⟨rfl,rfl,Q⟩;exact Zg
@[reducible, instance] def zc260 (N aN):=Ct.mk (f:=260) (c260 N aN)
def c263 (N b a r)(h:MQ N b a=some r):B8 prog 263 [vi b,(J2 a)] (.bool r):=by
 refine R4 cf0 func263 call263 ntmps263 ?_;intro E D K Y J Q;exact Zg
@[reducible, instance] def zc263 (N aS aN):=Ct.mk (f:=263) (c263 N aS aN)
def c247 (N a r)(h:Kp N a=some r):B8 prog 247 [(Cr a)] (vi r):=by
 refine R4 cf0 func247 call247 ntmps247 ?_;intro E D K Y J Q;exact Zg
@[reducible, instance] def zc247 (N aF):=Ct.mk (f:=247) (c247 N aF)
def cf220:=cfC [] [] [(73,15)]
def c220 (N a r) (h:JR N a=some r):B8 prog 220 [(Cr a)] (vi r):=by
 unfold JR at h
 refine R4 cf220 func220 call220 ntmps220 ?_;intro E D K Y J Q
 repeat' (cbv;first|refine C2 Y h (λ_ h=>?_) λ_ h=>?_|refine K2 Y ?_|refine B3 Y h (c245 _ _) (.refl _) λ_ h=>?_|refine B3 Y h (c246 _ _) (.refl _) λv h=>?_|(cases h;exact J Q (.refl _)))
 cbv;obtain⟨b,X,h⟩:=bind_some h;refine Q5 cf220 Y N0 (λe l G=>match(generalizing:=false) b with| .inl y=>e= .normal/\l=[(1,.v (.eref (GK a) 0)),(5,.v (.bool v.1)),(6,.v (.bool v.2)),(7,.v (.bool (cmp .eql a.Op 4))),(8,.v (.bool (Ar.or (cmp .eql a.Op 4) (cmp .eql a.Op 0))))]/\B9 Eq D [] G| .inr y=>e= .ret/\l=[fi 2 y]/\B9 Eq D [] G) za3 ?_ ?_
 ·clear h;have h:=X;clear X;exact Zg
 clear X
 rcases b with g|i
 ·rintro e l H ⟨rfl,rfl,Q⟩;cbv;refine C2 Y h (λ_ h=>?_) λ_ h=>?_
  ·exact Zg
  exact Zg
 rintro e l H ⟨rfl,rfl,Q⟩;exact Zg
@[reducible, instance] def zc220 (N aF):=Ct.mk (f:=220) (c220 N aF)
def c180 (N a r)(h:Kq N a=some r):B8 prog 180 [(Cr a)] (vi r):=by
 refine R4 cf0 func180 call180 ntmps180 ?_;intro E D K Y J Q
 repeat' (cbv;first|apply C2 Y h<;>intro _ h|refine B3 Y h (c218 _ _ _) .z λ_ h=>?_|refine B3 Y (g:=λv=>vi v) h (λv X=>c219 N N a (.func (.func 220) [] []) (λb=>JR N b) (λb r X=>B8.value (F:=[]) (C:=[]) (c220 N b r X)) v X) .z λv h=>?_|(cases h;exact J Q .z))
@[reducible, instance] def zc180 (N aF):=Ct.mk (f:=180) (c180 N aF)
def cf181:=cfB [] [(6,10)]
def c181 (N:Nat):∀n p a r,JS N n p a=some r->B8 prog 181 [(Cr p),(Cr a)] (.bool r):=by
 intro n
 induction n with
 |zero=>intro p a r h;cases h
 |succ n ih=>
 intro p a r h
 unfold JS at h
 refine R4 cf181 func181 call181 ntmps181 ?_;intro E D K Y J Q
 repeat' (cbv;first|apply C2 Y h<;>intro _ h|apply K2 Y|(cases h;exact J Q .z))
 cbv;obtain⟨d,X,h⟩:=bind_some h;refine I8 cf181 Y N0 (λI=>[(2,.v (.eref (GK p) 0)),(3,.v (.eref (GK a) 0)),fi 50 (Ar.len p.dD),fi 51 I]) (λI G=>B9 Eq D [] G) (λx e l G=>match(generalizing:=false) x with| .inl y=>e= .exit 0/\l=[]/\B9 Eq D [] G| .inr y=>e= .ret/\l=[(4,.b false)]/\B9 Eq D [] G) za3 ?_ X ?_ Q ?_
 ·intro I H o Q h;exact Zg
 ·exact .e4 .z
 clear X
 rcases d with b|g
 ·rintro e l H ⟨rfl,rfl,Q⟩;exact Zg
 rintro e l H ⟨rfl,rfl,Q⟩;exact Zg
@[reducible, instance] def zc181 (N n aB aC):=Ct.mk (f:=181) (c181 N n aB aC)
def c182 (N b a r)(h:Z8 N b a=some r):B8 prog 182 [.bool b,vi a] (.bool r):=by
 refine R4 cf0 func182 call182 ntmps182 ?_;intro E D K Y J Q;exact Zg
@[reducible, instance] def zc182 (N bP aR):=Ct.mk (f:=182) (c182 N bP aR)
def cf151:=cfC [] [] [(64,10)]
def c151 (N S r)(h:Ck N S=some r):B8 prog 151 [(D0 S)] (vi r):=by
 refine R4 cf151 func151 call151 ntmps151 ?_;intro E D K Y J Q
 repeat' (cbv;first|apply C2 Y h<;>intro _ h|apply K2 Y|refine B3 Y h (c179 _ _ _ _) .z λ_ h=>?_|(cases h;exact J Q .z)|refine AX0 Y (g:=λx=>(Nc x)) (l:=O4) rfl (λ_=>rfl) rfl rfl h λb h=>?_)
 cbv;obtain⟨a,X,h⟩:=bind_some h;refine Q5 cf151 Y N0 (λe l G=>match(generalizing:=false) a with| .inl y=>e= .normal/\l=[(1,.v (.eref (D5 S) 0)),(3,.v (.eref (Jo b) 0))]/\B9 Eq D [] G| .inr y=>e= .ret/\l=[fi 2 y]/\B9 Eq D [] G) za3 ?_ ?_
 ·clear h;have h:=X;exact Zg
 clear X
 rcases a with k|i
 ·rintro e l H ⟨rfl,rfl,Q⟩;exact Zg
 rintro e l H ⟨rfl,rfl,Q⟩;exact Zg
@[reducible, instance] def zc151 (N aA):=Ct.mk (f:=151) (c151 N aA)
def cf108:=cfA [2]
def c108 (N S r) (h:EB N S=some r):B8 prog 108 [(D0 S)] (vi r):=by
 refine R4 cf108 func108 call108 ntmps108 ?_;intro E D K Y J Q;cbv;refine G0 Y Q λb H Q=>?_;cbv;refine B3 Y h (c150 N N S) .z λv h=>?_;cbv;apply C2 Y h<;>intro _ h
 ·exact Zg
 cbv;apply C2 Y h<;>intro _ h
 ·exact Zg
 cbv;refine Ht Y h (c109 N S) .z λj m l h=>?_;cbv;obtain⟨f,X,h⟩:=bind_some h;refine Pl cf108 Y N0 (ι:=Unit) (enc:=λ(x:A0)=>[(D0 x)]) (λ(k:Unit) F H=>B9 Eq F [cb b [vi 0]] H) (λ(r:Int) e F H=>e= .ret/\B9 Eq F [cb b [vi r]] H) (λi k g=>[(2,.v (.ref b 0)),(5,.v (.eref (D5 g) 0))]) (λi k g F H=>B9 Eq F [cb b [vi 0]] H) (λ_=>B9.stable H8 _) (λ_ _=>G9.con (B9.stable H8 _)) (λ_ _ _=>B9.stable H8 _) l X (Q) za5 (λ_=>rfl) za3 za3 ?_ ?_ ?_ ?_
 ·rintro E P g k t H Y Q;clear X h;cbv;exact⟨(),Q,.e2 .z,rfl⟩
 ·rintro E P _ g k t H o Y d h Q;cbv;refine B3 Y h (c151 N g) .z λV h=>?_;cbv;apply C2 Y h<;>intro _ h
  ·cbv;refine C5 Y Q 0 rfl rfl λH Q=>?_;cbv;cases h;exact⟨_,rfl,rfl,⟨rfl,Q⟩⟩
  exact Zg
 ·rintro a c H rfl hd Q;have Q:B9 Eq D [cb b [vi 0],.blk a DB] H:=B9.dblk hd Q;clear hd;cbv;refine C5 Y Q 0 rfl rfl λH Q=>?_;cbv;refine Je Y Q 1 rfl λH Q=>?_;exact Zg
 rintro a n e H rfl hd y
 rcases y with⟨rfl,Q⟩
 have Q:B9 Eq D [cb b [vi n],.blk a DB] H:=B9.dblk hd Q;clear hd;cbv;refine Je Y Q 1 rfl λH Q=>?_;exact Zg
@[reducible, instance] def zc108 (N aA):=Ct.mk (f:=108) (c108 N aA)
def cf77:=cfA [2]
def c77 (N S r) (h:Iu N S=some r):B8 prog 77 [(D0 S)] (vi r):=by
 refine R4 cf77 func77 call77 ntmps77 ?_;intro E D K Y J Q;cbv;refine G0 Y Q λb H Q=>?_;cbv;refine B3 Y h (c108 N S) .z λv h=>?_;cbv;apply C2 Y h<;>intro _ h
 ·exact Zg
 cbv;refine Ht Y h (c109 N S) .z λf j l h=>?_;cbv;obtain⟨d,X,h⟩:=bind_some h;refine Pl cf77 Y N0 (ι:=Unit) (enc:=λ(x:A0)=>[(D0 x)]) (λ(g:Unit) F H=>B9 Eq F [cb b [vi 0]] H) (λ(r:Int) e F H=>e= .ret/\B9 Eq F [cb b [vi r]] H) (λi g k=>[(2,.v (.ref b 0)),(4,.v (.eref (D5 k) 0))]) (λi g k F H=>B9 Eq F [cb b [vi 0]] H) (λ_=>B9.stable H8 _) (λ_ _=>G9.con (B9.stable H8 _)) (λ_ _ _=>B9.stable H8 _) l X (Q) za5 (λ_=>rfl) za3 za3 ?_ ?_ ?_ ?_
 ·rintro E P k g t H Y Q;clear X h;cbv;exact⟨(),Q,.e2 .z,rfl⟩
 ·rintro E P _ k g t H o Y c h Q;cbv;apply C2 Y h<;>intro _ h
  ·cbv;refine C5 Y Q 0 rfl rfl λH Q=>?_;cbv;cases h;exact⟨_,rfl,rfl,⟨rfl,Q⟩⟩
  exact Zg
 ·rintro a V H rfl hd Q;have Q:B9 Eq D [cb b [vi 0],.blk a DB] H:=B9.dblk hd Q;clear hd;cbv;refine C5 Y Q 0 rfl rfl λH Q=>?_;cbv;refine Je Y Q 1 rfl λH Q=>?_;exact Zg
 rintro a n e H rfl hd y
 rcases y with⟨rfl,Q⟩
 have Q:B9 Eq D [cb b [vi n],.blk a DB] H:=B9.dblk hd Q;clear hd;cbv;refine Je Y Q 1 rfl λH Q=>?_;exact Zg
@[reducible, instance] def zc77 (N aA):=Ct.mk (f:=77) (c77 N aA)
def cf78:=cfC [5,6,7] [(11,5)] [(18,7)]
def c78 (N S r) (h:Iv N S=some r):B8 prog 78 [(D0 S)] (.tup [vi r.1,vi r.2.1,.bool r.2.2]):=by
 refine R4 cf78 func78 call78 ntmps78 ?_;intro E D K Y J Q;cbv;refine G0 Y Q λt H Q=>?_;cbv;refine G0 Y Q λk H Q=>?_;cbv;refine G0 Y Q λn H Q=>?_;cbv;refine C5 Y Q 2 rfl rfl λH Q=>?_;cbv;refine C5 Y Q 1 rfl rfl λH Q=>?_;cbv;refine C5 Y Q 0 rfl rfl λH Q=>?_;cbv;refine Ht Y h (c109 N S) .z λs u c h=>?_;cbv;obtain⟨p,X,h⟩:=bind_some h;refine Pl cf78 Y N0 (ι:=Unit) (enc:=λ(x:A0)=>[(D0 x)]) (λ(a:Bool×Int×Int) F H=>B9 Eq F [cb n [.bool a.1],cb k [vi a.2.1],cb t [vi a.2.2]] H) (λ(r:Unit) e F H=>False) (λi a P=>[(5,.v (.ref t 0)),(6,.v (.ref k 0)),(7,.v (.ref n 0)),(8,.v (.eref (D5 P) 0))]) (λi a P F H=>B9 Eq F [cb n [.bool a.1],cb k [vi a.2.1],cb t [vi a.2.2]] H) (λ_=>B9.stable H8 _) (λ_ _=>⟨λh=>h.elim,λ_ _ h=>h.elim⟩) (λ_ _ _=>B9.stable H8 _) c X (Q) za5 (λ_=>rfl) za3 za3 ?_ ?_ ?_ ?_
 ·rintro E m P a j H Y Q;clear X h;cbv;exact⟨(),Q,.e4 .z,rfl⟩
 ·rintro E m _ P a j H o Y q h Q;cbv;refine AX0 Y (g:=λx=>(Nc x)) (l:=O4) rfl (λ_=>rfl) rfl rfl h λf h=>?_;cbv;obtain⟨y,X,h⟩:=bind_some h;refine Q5 cf78 Y N0 (λe l G=>e= .normal/\l=[(6,.v (.ref k 0)),(7,.v (.ref n 0)),(8,.v (.eref (D5 P) 0)),(9,.v (.eref (Jo f) 0))]/\B9 Eq j [cb n [.bool y.1],cb k [vi a.2.1],cb t [vi y.2]] G) za3 ?_ ?_
  ·clear h;have h:=X;exact Zg
  clear X;rintro e l H ⟨rfl,rfl,Q⟩;exact Zg
 ·rintro V b H rfl hd Q;have Q:B9 Eq D [cb n [.bool b.1],cb k [vi b.2.1],cb t [vi b.2.2],.blk V DB] H:=B9.dblk hd Q;clear hd;cbv;apply C3 Y Q 2 rfl;cbv;apply C3 Y Q 1 rfl;cbv;apply C3 Y Q 0 rfl;cbv;refine Je Y Q 3 rfl λH Q=>?_;exact Zg
 rintro d r e H rfl hd Q;exact Q.elim
@[reducible, instance] def zc78 (N aA):=Ct.mk (f:=78) (c78 N aA)
def c40 (N S r)(h:Dg N S=some r):B8 prog 40 [(D0 S)] (vi r):=by
 refine R4 cf0 func40 call40 ntmps40 ?_;intro E D K Y J Q;exact Zg
@[reducible, instance] def zc40 (N aA):=Ct.mk (f:=40) (c40 N aA)
def c79 (N a r)(h:LS N a=some r):B8 prog 79 [(DW a)] (.bool r):=by
 refine R4 cf0 func79 call79 ntmps79 ?_;intro E D K Y J Q;exact Zg
@[reducible, instance] def zc79 (N aF):=Ct.mk (f:=79) (c79 N aF)
def cf80:=cfA [2]
def c80 (N a r)(h:JL N a=some r):B8 prog 80 [(DW a)] ((QW r)):=by
 refine R4 cf80 func80 call80 ntmps80 ?_;intro E D K Y J Q;exact Zg
@[reducible, instance] def zc80 (N aF):=Ct.mk (f:=80) (c80 N aF)
def cf41:=cfB [5] [(9,9)]
def c41 (N i r) (h:BY N i=some r):B8 prog 41 [sr eBE3 i] (vi r):=by
 unfold BY at h
 refine R4 cf41 func41 call41 ntmps41 ?_;intro E D K Y J Q;cbv;refine K2 Y ?_;cbv;refine C2 Y h (λ_ h=>?_) λ_ h=>?_
 ·cbv;cases h;exact J Q (.refl _)
 cbv;refine Bq8 Y Aj1 eBG7 V.bool Q λc o2 H f Q=>?_;cbv;refine K2 Y ?_;cbv;obtain⟨M,X,h⟩:=bind_some h;refine S6 cf41 Y N0 (γ:=Obj) (λd g=>[(0,.v (sr eBE3 i)),(3,.v (.map c)),(10,.v (sr eBE3 i)),fi 11 (Ar.len i),fi 12 d.1]) (λd g G=>Mok Aj1 eBG7 V.bool g d.2/\B9 Eq D [.blk c (.obj g)] G) (λx e l G=>match(generalizing:=false) x with| .inl y=>∃P:Obj,Mok Aj1 eBG7 V.bool P y/\e= .exit 0/\l=[]/\B9 Eq D [.blk c (.obj P)] G| .inr y=>∃P:Obj,Mok Aj1 eBG7 V.bool P y.2/\e= .ret/\l=[fi 2 y.1]/\B9 Eq D [.blk c (.obj P)] G) za3 ?_ o2 X ?_ ?_ ?_
 ·rintro d t H o ⟨a,Q⟩ h;clear X;cbv;refine C2 Y h (λ_ h=>?_) λ_ h=>?_
  ·cbv;refine E6 Y eBF2 h λb h=>?_;cbv;refine G0 Y Q λT H Q=>?_;cbv;refine C5 Y Q 0 rfl rfl λH Q=>?_;cbv;refine C3 Y Q 0 rfl ?_;cbv;refine B3 Y h (c79 N b) (.refl _) λU h=>?_;cbv;refine C2 Y h (λ_ h=>?_) λ_ h=>?_
   ·cbv;cases h;exact⟨_,_,rfl,⟨t,a,rfl,rfl,Q.tail⟩,.e rfl .z,rfl⟩
   cbv;refine C2 Y h (λ_ h=>?_) λ_ h=>?_
   ·cbv;refine E6 Y eBF2 h λO h=>?_;cbv;refine C3 Y Q 0 rfl ?_;cbv;refine B3 Y h (c49 N O b) (.refl _) λF h=>?_;cbv;refine C2 Y h (λ_ h=>?_) λ_ h=>?_
    ·cbv;cases h;exact⟨_,_,rfl,⟨t,a,rfl,rfl,Q.tail⟩,.e rfl .z,rfl⟩
    cbv;refine C3 Y Q 0 rfl ?_;cbv;refine B3 Y h (c80 N b) (.refl _) λp h=>?_;cbv;refine At5 (eBH1 p) ?_;refine At6 Y (kt:=126) (et:=4) za3 za3 AB9 (false:Bool) za3 rfl Q a 1 rfl h λI h=>?_;cbv;refine C2 Y h (λ_ h=>?_) λ_ h=>?_
    ·cbv;cases h;exact⟨_,_,rfl,⟨t,a,rfl,rfl,Q.tail⟩,.e rfl .z,rfl⟩
    cbv;refine C3 Y Q 0 rfl ?_;cbv;refine B3 Y h (c80 N b) (.refl _) λq h=>?_;cbv;refine Ze (eBH1 q) ?_;refine At4 Y (kt:=126) (et:=4) za3 za3 AB9 Sz Q a 1 rfl h λz j H k h Q=>?_;cbv;cases h;exact⟨_,j,rfl,.e rfl (.e4 .z),rfl,k,Q.tail⟩
   cbv;refine C3 Y Q 0 rfl ?_;cbv;refine B3 Y h (c80 N b) (.refl _) λs h=>?_;cbv;refine At5 (eBH1 s) ?_;refine At6 Y (kt:=126) (et:=4) za3 za3 AB9 (false:Bool) za3 rfl Q a 1 rfl h λL h=>?_;cbv;refine C2 Y h (λ_ h=>?_) λ_ h=>?_
   ·cbv;cases h;exact⟨_,_,rfl,⟨t,a,rfl,rfl,Q.tail⟩,.e rfl .z,rfl⟩
   cbv;refine C3 Y Q 0 rfl ?_;cbv;refine B3 Y h (c80 N b) (.refl _) λu h=>?_;cbv;refine Ze (eBH1 u) ?_;refine At4 Y (kt:=126) (et:=4) za3 za3 AB9 Sz Q a 1 rfl h λA m H n h Q=>?_;cbv;cases h;exact⟨_,m,rfl,.e rfl (.e4 .z),rfl,n,Q.tail⟩
  cbv;cases h;exact⟨_,_,rfl,⟨t,a,rfl,rfl,Q⟩,.z,rfl⟩
 ·exact .e rfl (.e4 .z)
 ·exact⟨f,Q⟩
 clear X
 rcases M with R|S
 ·rintro e l H ⟨B,v,rfl,rfl,Q⟩;cbv;cases h;exact J Q (.refl _)
 rintro e l H ⟨C,w,rfl,rfl,Q⟩;cbv;cases h;exact J Q (.refl _)
@[reducible, instance] def zc41 (N aI):=Ct.mk (f:=41) (c41 N aI)
def cf229:=cfA [2]
def c229 (N a r)(h:Bz N a=some r):B8 prog 229 [vi a] ((J2 r)):=by
 refine R4 cf229 func229 call229 ntmps229 ?_;intro E D K Y J Q;exact Zg
@[reducible, instance] def zc229 (N aR):=Ct.mk (f:=229) (c229 N aR)
def cf230:=cfA [5]
def c230 (N:Nat)(p:Int)(a:Int)(e:V)(b:Int->OS B5)(k:∀i q,b i=some q->Y6 prog e [vi i] ((J2 q)))(r:B5)(h:Hz N p a b=some r):B8 prog 230 [vi p,vi a,.eref [e] 0] ((J2 r)):=by
 refine R4 cf230 func230 call230 ntmps230 ?_;intro E D K Y J Q;cbv;refine G0 Y Q λl H Q=>?_;cbv;refine AM Y (g:=λv=>(J2 v)) h (λv X=>k (ar .add .i64 p a) v X) .z λv h=>?_;exact Zg
def cf231:=cfA [5]
def c231 (N:Nat)(p:Int)(a:Int)(e:V)(b:Int->OS B5)(k:∀i q,b i=some q->Y6 prog e [vi i] ((J2 q)))(r:B5)(h:Hy N p a b=some r):B8 prog 231 [vi p,vi a,.eref [e] 0] ((J2 r)):=by
 refine R4 cf231 func231 call231 ntmps231 ?_;intro E D K Y J Q;cbv;refine G0 Y Q λl H Q=>?_;cbv;refine AM Y (g:=λv=>(J2 v)) h (λv X=>k (ar .sub .i64 p a) v X) .z λv h=>?_;exact Zg
def cf201:Cf:=⟨[2,3],[],[],[],[],[]⟩
def c201 (N a r)(h:My N a=some r):B8 prog 201 [.bool a] ((J2 r)):=by
 unfold My at h
 refine R4 cf201 func201 call201 ntmps201 ?_;intro E D K Y J Q;cbv;refine G0 Y Q λb H Q=>?_;cbv;refine G0 Y Q λe H Q=>?_;cbv;refine C5 Y Q 0 rfl rfl λH Q=>?_;cbv;refine C2 Y h (λ_ h=>?_) λ_ h=>?_
 ·cbv;refine C5 Y Q 0 rfl rfl λH Q=>?_;cbv;refine C3 Y Q 0 rfl ?_;cbv;refine C5 Y Q 1 rfl rfl λH Q=>?_;cbv;refine C3 Y Q 1 rfl ?_;cbv;cases h;exact J Q (.refl _)
 cbv;refine C3 Y Q 0 rfl ?_;cbv;refine C5 Y Q 1 rfl rfl λH Q=>?_;cbv;refine C3 Y Q 1 rfl ?_;cbv;cases h;exact J Q (.refl _)
@[reducible, instance] def zc201 (N aC):=Ct.mk (f:=201) (c201 N aC)
def cf169:Cf:=⟨[2],[],[],[],[],[]⟩
def c169 (N a r)(h:Dv N a=some r):B8 prog 169 [.bool a] ((J2 r)):=by
 unfold Dv at h
 refine R4 cf169 func169 call169 ntmps169 ?_;intro E D K Y J Q;cbv;refine G0 Y Q λb H Q=>?_;cbv;refine B3 Y h (c201 N a) (.refl _) λv h=>?_;cbv;refine C5 Y Q 0 rfl rfl λH Q=>?_;cbv;refine C3 Y Q 0 rfl ?_;cbv;cases h;exact J Q (.refl _)
@[reducible, instance] def zc169 (N aC):=Ct.mk (f:=169) (c169 N aC)
def cf232:Cf:=⟨[4],[],[],[],[],[]⟩
def c232 (N p a r)(h:EI N p a=some r):B8 prog 232 [vi p,vi a] ((J2 r)):=by
 unfold EI at h
 refine R4 cf232 func232 call232 ntmps232 ?_;intro E D K Y J Q;cbv;refine G0 Y Q λb H Q=>?_;cbv;refine B3 Y h (c169 N (cmp .lss p a)) (.refl _) λv h=>?_;cbv;refine C5 Y Q 0 rfl rfl λH Q=>?_;cbv;refine C3 Y Q 0 rfl ?_;cbv;cases h;exact J Q (.refl _)
@[reducible, instance] def zc232 (N aB aC):=Ct.mk (f:=232) (c232 N aB aC)
def cf233:Cf:=⟨[4],[],[],[],[],[]⟩
def c233 (N p a r)(h:EH N p a=some r):B8 prog 233 [vi p,vi a] ((J2 r)):=by
 unfold EH at h
 refine R4 cf233 func233 call233 ntmps233 ?_;intro E D K Y J Q;cbv;refine G0 Y Q λb H Q=>?_;cbv;refine B3 Y h (c169 N (cmp .leq p a)) (.refl _) λv h=>?_;cbv;refine C5 Y Q 0 rfl rfl λH Q=>?_;cbv;refine C3 Y Q 0 rfl ?_;cbv;cases h;exact J Q (.refl _)
@[reducible, instance] def zc233 (N aB aC):=Ct.mk (f:=233) (c233 N aB aC)
def cf234:Cf:=⟨[4],[],[],[],[],[]⟩
def c234 (N p a r)(h:EG N p a=some r):B8 prog 234 [vi p,vi a] ((J2 r)):=by
 unfold EG at h
 refine R4 cf234 func234 call234 ntmps234 ?_;intro E D K Y J Q;cbv;refine G0 Y Q λb H Q=>?_;cbv;refine B3 Y h (c169 N (an (cmp .eql p 1) (cmp .eql a 1))) (.refl _) λv h=>?_;cbv;refine C5 Y Q 0 rfl rfl λH Q=>?_;cbv;refine C3 Y Q 0 rfl ?_;cbv;cases h;exact J Q (.refl _)
@[reducible, instance] def zc234 (N aB aC):=Ct.mk (f:=234) (c234 N aB aC)
def cf235:Cf:=⟨[4],[],[],[],[],[]⟩
def c235 (N p a r)(h:EF N p a=some r):B8 prog 235 [vi p,vi a] ((J2 r)):=by
 unfold EF at h
 refine R4 cf235 func235 call235 ntmps235 ?_;intro E D K Y J Q;cbv;refine G0 Y Q λb H Q=>?_;cbv;refine B3 Y h (c169 N (Ar.or (cmp .eql p 1) (cmp .eql a 1))) (.refl _) λv h=>?_;cbv;refine C5 Y Q 0 rfl rfl λH Q=>?_;cbv;refine C3 Y Q 0 rfl ?_;cbv;cases h;exact J Q (.refl _)
@[reducible, instance] def zc235 (N aB aC):=Ct.mk (f:=235) (c235 N aB aC)
def cf236:Cf:=⟨[4],[],[],[],[],[]⟩
def c236 (N p a r)(h:EE N p a=some r):B8 prog 236 [vi p,vi a] ((J2 r)):=by
 unfold EE at h
 refine R4 cf236 func236 call236 ntmps236 ?_;intro E D K Y J Q;cbv;refine G0 Y Q λb H Q=>?_;cbv;refine B3 Y h (c169 N (cmp .neq p 1)) (.refl _) λv h=>?_;cbv;refine C5 Y Q 0 rfl rfl λH Q=>?_;cbv;refine C3 Y Q 0 rfl ?_;cbv;cases h;exact J Q (.refl _)
@[reducible, instance] def zc236 (N aB aJ):=Ct.mk (f:=236) (c236 N aB aJ)
def c199 (N r)(h:Ni N=some r):Ay5 prog 199 [] Zz Zy:=by
 unfold Ni at h
 refine Ax5 (T:=TT) cf0 N0 func199 za9 za3 call199 ntmps199 za9 za9 ?_;intro E H0 K Y J;have Q:B9 Eq H0 [] H0:=.start H8 rfl;cbv;refine BB2 Y Q λa H Q=>?_;cbv;refine Qt Y (kt:=3) (et:=278) za3 za3 Q 0 rfl rfl λH Q=>?_;cbv;refine Qt Y (kt:=3) (et:=278) za3 za3 Q 0 rfl rfl λH Q=>?_;cbv;refine Qt Y (kt:=3) (et:=278) za3 za3 Q 0 rfl rfl λH Q=>?_;cbv;refine Qt Y (kt:=3) (et:=278) za3 za3 Q 0 rfl rfl λH Q=>?_;cbv;refine Qt Y (kt:=3) (et:=278) za3 za3 Q 0 rfl rfl λH Q=>?_;cbv;refine Qt Y (kt:=3) (et:=278) za3 za3 Q 0 rfl rfl λH Q=>?_;cbv;refine Qt Y (kt:=3) (et:=278) za3 za3 Q 0 rfl rfl λH Q=>?_;cbv;exact J _ _ 0 _ rfl Q
def c257 (N a b r)(h:Z3 N a b=some r):B8 prog 257 [(FH a),vi b] (sr eBE3 r):=by
 unfold Z3 at h
 refine R4 cf0 func257 call257 ntmps257 ?_;intro E D K Y J Q;cbv;refine K2 Y ?_;cbv;refine C2 Y h (λ_ h=>?_) λ_ h=>?_
 ·cbv;cases h;exact J Q (.lit _ (F3))
 cbv;refine E6 Y eBH3 h λe h=>?_;cbv;cases h;exact J Q (.refl _)
@[reducible, instance] def zc257 (N aG aN):=Ct.mk (f:=257) (c257 N aG aN)
def cf259:Cf:=⟨[4],[],[],[],[],[]⟩
def c259 (N a b r)(h:Fy N a b=some r):B8 prog 259 [(DW a),vi b] (.tup [(J2 r.1),vi r.2]):=by
 unfold Fy at h
 refine R4 cf259 func259 call259 ntmps259 ?_;intro E D K Y J Q;cbv;refine G0 Y Q λe H Q=>?_;cbv;refine K2 Y ?_;cbv;refine C2 Y h (λ_ h=>?_) λ_ h=>?_
 ·cbv;refine C5 Y Q 0 rfl rfl λH Q=>?_;cbv;refine C3 Y Q 0 rfl ?_;cbv;cases h;exact J Q (.refl _)
 cbv;refine E6 Y eBF3 h λg h=>?_;cbv;refine C5 Y Q 0 rfl rfl λH Q=>?_;cbv;refine C3 Y Q 0 rfl ?_;cbv;cases h;exact J Q (.refl _)
@[reducible, instance] def zc259 (N aF bU):=Ct.mk (f:=259) (c259 N aF bU)
def c291 (N a r)(h:CG N a=some r):B8 prog 291 [vi a] (.bool r):=by
 unfold CG at h
 refine R4 cf0 func291 call291 ntmps291 ?_;intro E D K Y J Q;cbv;cases h;exact J Q (.refl _)
@[reducible, instance] def zc291 (N aS):=Ct.mk (f:=291) (c291 N aS)
def c304 (N b a r)(h:BQ N b a=some r):B8 prog 304 [vi b,(J2 a)] (.bool r):=by
 unfold BQ at h
 refine R4 cf0 func304 call304 ntmps304 ?_;intro E D K Y J Q;cbv;cases h;exact J Q (.refl _)
@[reducible, instance] def zc304 (N aS aN):=Ct.mk (f:=304) (c304 N aS aN)
def c292 (N b a r)(h:AR N b a=some r):B8 prog 292 [vi b,(J2 a)] (vi r):=by
 unfold AR at h
 refine R4 cf0 func292 call292 ntmps292 ?_;intro E D K Y J Q;cbv;refine B3 Y h (c260 N a) (.refl _) λe h=>?_;cbv;refine C2 Y h (λ_ h=>?_) λ_ h=>?_
 ·cbv;cases h;exact J Q (.refl _)
 cbv;refine B3 Y h (c304 N b a) (.refl _) λv h=>?_;cbv;refine C2 Y h (λ_ h=>?_) λ_ h=>?_
 ·cbv;cases h;exact J Q (.refl _)
 cbv;cases h;exact J Q (.refl _)
@[reducible, instance] def zc292 (N aS aN):=Ct.mk (f:=292) (c292 N aS aN)
def cf293:Cf:=⟨[3,6],[],[],[],[],[]⟩
def c293 (N:Nat) (y:G5) (b:Up B5) (t:V) (P:G5->B5->OS G5) (f:∀c d q,P c d=some q->Y6 prog t [(U3 c),(J2 d)] ((U3 q))) (r:G5) (h:O6 N y b P=some r):B8 prog 293 [(U3 y),sr eBF4 b,t] ((U3 r)):=by
 unfold O6 at h
 refine R4 cf293 func293 call293 ntmps293 ?_;intro E D K Y J Q;cbv;refine G0 Y Q λi H Q=>?_;cbv;refine G0 Y Q λk H Q=>?_;cbv;refine K2 Y ?_;cbv;obtain⟨j,X,h⟩:=bind_some h;refine I8 cf293 Y N0 (λa=>[(2,.v (t)),(3,.v (.ref i 0)),(6,.v (.ref k 0)),(9,.v (sr eBF4 b)),fi 10 (Ar.len b),fi 11 a.1]) (λ(a:Int×G5) G=>B9 Eq D [cb k [vi 0,vi 0,vi 0,vi 0,.str (⟨#[]⟩)],cb i (Md a.2)] G) (λx e l G=>e= .exit 0/\l=[(3,.v (.ref i 0)),(6,.v (.ref k 0))]/\B9 Eq D [cb k [vi 0,vi 0,vi 0,vi 0,.str (⟨#[]⟩)],cb i (Md x)] G) za3 ?_ X ?_ Q ?_
 ·intro a H o Q h;clear X;cbv;refine C2 Y h (λ_ h=>?_) λ_ h=>?_
  ·cbv;refine E6 Y eBF3 h λx5 h=>?_;cbv;refine C3 Y Q 1 rfl ?_;cbv;refine AM Y (g:=λn=>(U3 n)) h (λn X=>f a.2 x5 n X) (.refl _) λn h=>?_;cbv;refine C5 Y Q 1 rfl rfl λH Q=>?_;cbv;cases h;exact⟨_,rfl,.e2 (.e4 .z),rfl,Q⟩
  cbv;cases h;exact⟨_,_,rfl,⟨rfl,rfl,Q⟩,.e2 .z,rfl⟩
 ·exact .e2 (.e4 .z)
 clear X;rintro e l H ⟨rfl,rfl,Q⟩;cbv;refine C3 Y Q 1 rfl ?_;cbv;refine C5 Y Q 0 rfl rfl λH Q=>?_;cbv;refine C3 Y Q 0 rfl ?_;cbv;cases h;exact J Q (.refl _)
def cf309:Cf:=⟨[0],[],[],[],[],[]⟩
def c309 (N r)(h:Ge N=some r):B8 prog 309 [] ((J2 r)):=by
 unfold Ge at h
 refine R4 cf309 func309 call309 ntmps309 ?_;intro E D K Y J Q;cbv;refine G0 Y Q λa H Q=>?_;cbv;refine C5 Y Q 0 rfl rfl λH Q=>?_;cbv;refine C3 Y Q 0 rfl ?_;cbv;cases h;exact J Q (.refl _)
@[reducible, instance] def zc309 (N):=Ct.mk (f:=309) (c309 N)
def cf310:Cf:=⟨[2],[],[],[],[],[]⟩
def c310 (N b a r)(h:Gc N b a=some r):B8 prog 310 [.eref (AV b) 0,.eref (AV a) 0] ((J2 r)):=by
 unfold Gc at h
 refine R4 cf310 func310 call310 ntmps310 ?_;intro E D K Y J Q;cbv;refine G0 Y Q λe H Q=>?_;cbv;refine C5 Y Q 0 rfl rfl λH Q=>?_;cbv;refine C3 Y Q 0 rfl ?_;cbv;cases h;exact J Q (.refl _)
@[reducible, instance] def zc310 (N bB aJ):=Ct.mk (f:=310) (c310 N bB aJ)
def cf311:Cf:=⟨[2],[],[],[],[],[]⟩
def c311 (N b a r)(h:Gb N b a=some r):B8 prog 311 [.eref (AV b) 0,.eref (AV a) 0] ((J2 r)):=by
 unfold Gb at h
 refine R4 cf311 func311 call311 ntmps311 ?_;intro E D K Y J Q;cbv;refine G0 Y Q λe H Q=>?_;cbv;refine C5 Y Q 0 rfl rfl λH Q=>?_;cbv;refine C3 Y Q 0 rfl ?_;cbv;cases h;exact J Q (.refl _)
@[reducible, instance] def zc311 (N bB aJ):=Ct.mk (f:=311) (c311 N bB aJ)
def cf312:Cf:=⟨[2],[],[],[],[],[]⟩
def c312 (N b a r)(h:Ga N b a=some r):B8 prog 312 [.eref (AV b) 0,.eref (AV a) 0] ((J2 r)):=by
 unfold Ga at h
 refine R4 cf312 func312 call312 ntmps312 ?_;intro E D K Y J Q;cbv;refine G0 Y Q λe H Q=>?_;cbv;refine C5 Y Q 0 rfl rfl λH Q=>?_;cbv;refine C3 Y Q 0 rfl ?_;cbv;cases h;exact J Q (.refl _)
@[reducible, instance] def zc312 (N bB aJ):=Ct.mk (f:=312) (c312 N bB aJ)
def cf313:Cf:=⟨[1],[],[],[],[],[]⟩
def c313 (N a r)(h:FZ N a=some r):B8 prog 313 [.eref (AV a) 0] ((J2 r)):=by
 unfold FZ at h
 refine R4 cf313 func313 call313 ntmps313 ?_;intro E D K Y J Q;cbv;refine G0 Y Q λb H Q=>?_;cbv;refine C5 Y Q 0 rfl rfl λH Q=>?_;cbv;refine C3 Y Q 0 rfl ?_;cbv;cases h;exact J Q (.refl _)
@[reducible, instance] def zc313 (N bB):=Ct.mk (f:=313) (c313 N bB)
def cf314:Cf:=⟨[1],[],[],[],[],[]⟩
def c314 (N a r)(h:FY N a=some r):B8 prog 314 [.eref (AV a) 0] ((J2 r)):=by
 unfold FY at h
 refine R4 cf314 func314 call314 ntmps314 ?_;intro E D K Y J Q;cbv;refine G0 Y Q λb H Q=>?_;cbv;refine C5 Y Q 0 rfl rfl λH Q=>?_;cbv;refine C3 Y Q 0 rfl ?_;cbv;cases h;exact J Q (.refl _)
@[reducible, instance] def zc314 (N bB):=Ct.mk (f:=314) (c314 N bB)
def cf305:Cf:=⟨[6],[],[],[],[],[]⟩
def c305 (N n p a r)(h:CW N n p a=some r):B8 prog 305 [vi n,(J2 p),(J2 a)] ((J2 r)):=by
 unfold CW at h
 refine R4 cf305 func305 call305 ntmps305 ?_;intro E D K Y J Q;cbv;refine G0 Y Q λt H Q=>?_;cbv;refine Bj8 Y [0,1,2,3,4,5] za9 ?_;cbv;refine C2 Y h (λ_ h=>?_) λ_ h=>?_
 ·cbv;refine B3 Y h (c309 N) (.refl _) λv h=>?_;cbv;refine C5 Y Q 0 rfl rfl λH Q=>?_;cbv;refine C3 Y Q 0 rfl ?_;cbv;cases h;exact J Q (.refl _)
 cbv;refine C2 Y h (λ_ h=>?_) λ_ h=>?_
 ·cbv;refine AM Y (g:=λb=>(J2 b)) h (λb X=>B8.value (F:=[]) (C:=[.eref (AV p) 0,.eref (AV a) 0]) (c310 N p a b X)) (.refl _) λb h=>?_;cbv;refine C5 Y Q 0 rfl rfl λH Q=>?_;cbv;refine C3 Y Q 0 rfl ?_;cbv;cases h;exact J Q (.refl _)
 cbv;refine C2 Y h (λ_ h=>?_) λ_ h=>?_
 ·cbv;refine AM Y (g:=λe=>(J2 e)) h (λe X=>B8.value (F:=[]) (C:=[.eref (AV p) 0,.eref (AV a) 0]) (c311 N p a e X)) (.refl _) λe h=>?_;cbv;refine C5 Y Q 0 rfl rfl λH Q=>?_;cbv;refine C3 Y Q 0 rfl ?_;cbv;cases h;exact J Q (.refl _)
 cbv;refine C2 Y h (λ_ h=>?_) λ_ h=>?_
 ·cbv;refine AM Y (g:=λi=>(J2 i)) h (λi X=>B8.value (F:=[]) (C:=[.eref (AV p) 0,.eref (AV a) 0]) (c312 N p a i X)) (.refl _) λi h=>?_;cbv;refine C5 Y Q 0 rfl rfl λH Q=>?_;cbv;refine C3 Y Q 0 rfl ?_;cbv;cases h;exact J Q (.refl _)
 cbv;refine C2 Y h (λ_ h=>?_) λ_ h=>?_
 ·cbv;refine AM Y (g:=λk=>(J2 k)) h (λk X=>B8.value (F:=[]) (C:=[.eref (AV p) 0]) (c313 N p k X)) (.refl _) λk h=>?_;cbv;refine C5 Y Q 0 rfl rfl λH Q=>?_;cbv;refine C3 Y Q 0 rfl ?_;cbv;cases h;exact J Q (.refl _)
 cbv;refine C2 Y h (λ_ h=>?_) λ_ h=>?_
 ·cbv;refine AM Y (g:=λl=>(J2 l)) h (λl X=>B8.value (F:=[]) (C:=[.eref (AV a) 0]) (c314 N a l X)) (.refl _) λl h=>?_;cbv;refine C5 Y Q 0 rfl rfl λH Q=>?_;cbv;refine C3 Y Q 0 rfl ?_;cbv;cases h;exact J Q (.refl _)
 cbv;cases h
@[reducible, instance] def zc305 (N aS aB aC):=Ct.mk (f:=305) (c305 N aS aB aC)
def cf295:Cf:=⟨[4],[(5,14)],[],[],[],[]⟩
def c295 (N p a r)(h:FP N p a=some r):B8 prog 295 [(U3 p),(U3 a)] ((U3 r)):=by
 unfold FP at h
 refine R4 cf295 func295 call295 ntmps295 ?_;intro E D K Y J Q;cbv;refine G0 Y Q λb H Q=>?_;cbv;refine C2 Y h (λ_ h=>?_) λ_ h=>?_
 ·cbv;refine C5 Y Q 0 rfl rfl λH Q=>?_;cbv;refine C3 Y Q 0 rfl ?_;cbv;cases h;exact J Q (.refl _)
 cbv;refine C2 Y h (λ_ h=>?_) λ_ h=>?_
 ·cbv;refine C5 Y Q 0 rfl rfl λH Q=>?_;cbv;refine C3 Y Q 0 rfl ?_;cbv;cases h;exact J Q (.refl _)
 cbv;refine E3 Y (g:=λv=>(J2 v)) h (c305 N p.Kind p.Value a.Value) (.refl _) λv h=>?_;cbv;refine C5 Y Q 0 rfl rfl λH Q=>?_;cbv;refine C3 Y Q 0 rfl ?_;cbv;cases h;exact J Q (.refl _)
@[reducible, instance] def zc295 (N aB aC):=Ct.mk (f:=295) (c295 N aB aC)
def cf296:Cf:=⟨[4],[],[],[],[],[]⟩
def c296 (N b a r)(h:Dz N b a=some r):B8 prog 296 [vi b,(J2 a)] ((J2 r)):=by
 unfold Dz at h
 refine R4 cf296 func296 call296 ntmps296 ?_;intro E D K Y J Q;cbv;refine G0 Y Q λe H Q=>?_;cbv;refine C2 Y h (λ_ h=>?_) λ_ h=>?_
 ·cbv;refine C5 Y Q 0 rfl rfl λH Q=>?_;cbv;refine C3 Y Q 0 rfl ?_;cbv;cases h;exact J Q (.refl _)
 cbv;refine C5 Y Q 0 rfl rfl λH Q=>?_;cbv;refine C3 Y Q 0 rfl ?_;cbv;cases h;exact J Q (.refl _)
@[reducible, instance] def zc296 (N aS aN):=Ct.mk (f:=296) (c296 N aS aN)
def cf294:Cf:=⟨[5],[(1,6)],[],[],[],[]⟩
def c294 (N p b a r)(h:Ac N p b a=some r):B8 prog 294 [(U3 p),(J2 b),.eref [vi a] 0] ((U3 r)):=by
 unfold Ac at h
 refine R4 cf294 func294 call294 ntmps294 ?_;intro E D K Y J Q;cbv;refine G0 Y Q λe H Q=>?_;cbv;refine E3 Y (g:=λv=>(J2 v)) h (c296 N a b) (.refl _) λv h=>?_;cbv;refine B3 Y h (c295 N p (⟨a,1,v⟩:G5)) (.refl _) λi h=>?_;cbv;refine C5 Y Q 0 rfl rfl λH Q=>?_;cbv;refine C3 Y Q 0 rfl ?_;cbv;cases h;exact J Q (.refl _)
@[reducible, instance] def zc294 (N aB aN aM):=Ct.mk (f:=294) (c294 N aB aN aM)
def c306 (N p r) (h:Ej N p=some r):B8 prog 306 [(U3 p)] (vi r):=by
 unfold Ej at h
 refine R4 cf0 func306 call306 ntmps306 ?_;intro E D K Y J Q;cbv;refine B3 Y h (c291 N p.Kind) (.refl _) λa h=>?_;cbv;refine C2 Y h (λ_ h=>?_) λ_ h=>?_
 ·cbv;cases h;exact J Q (.refl _)
 cbv;refine C2 Y h (λ_ h=>?_) λ_ h=>?_
 ·cbv;cases h;exact J Q (.refl _)
 cbv;refine C2 Y h (λ_ h=>?_) λ_ h=>?_
 ·cbv;refine C2 Y h (λ_ h=>?_) λ_ h=>?_
  ·cbv;cases h;exact J Q (.refl _)
  cbv;cases h;exact J Q (.refl _)
 cbv;refine C2 Y h (λ_ h=>?_) λ_ h=>?_
 ·cbv;refine C2 Y h (λ_ h=>?_) λ_ h=>?_
  ·cbv;cases h;exact J Q (.refl _)
  cbv;cases h;exact J Q (.refl _)
 cbv;refine B3 Y h (c260 N p.Value) (.refl _) λv h=>?_;cbv;refine C2 Y h (λ_ h=>?_) λ_ h=>?_
 ·cbv;refine B3 Y h (c304 N p.Kind p.Value) (.refl _) λb h=>?_;cbv;refine C2 Y h (λ_ h=>?_) λ_ h=>?_
  ·cbv;cases h;exact J Q (.refl _)
  cbv;cases h;exact J Q (.refl _)
 cbv;cases h;exact J Q (.refl _)
@[reducible, instance] def zc306 (N aB):=Ct.mk (f:=306) (c306 N aB)
def cf297:Cf:=⟨[4],[],[],[],[],[]⟩
def c297 (N p a r)(h:FQ N p a=some r):B8 prog 297 [(U3 p),(J2 a)] (.tup [(J2 r.1),vi r.2]):=by
 unfold FQ at h
 refine R4 cf297 func297 call297 ntmps297 ?_;intro E D K Y J Q;cbv;refine G0 Y Q λb H Q=>?_;cbv;refine B3 Y h (c306 N p) (.refl _) λv h=>?_;cbv;refine C2 Y h (λ_ h=>?_) λ_ h=>?_
 ·cbv;refine C5 Y Q 0 rfl rfl λH Q=>?_;cbv;refine C3 Y Q 0 rfl ?_;cbv;cases h;exact J Q (.refl _)
 cbv;refine B3 Y h (c292 N p.Kind a) (.refl _) λe h=>?_;cbv;refine C2 Y h (λ_ h=>?_) λ_ h=>?_
 ·cbv;refine C5 Y Q 0 rfl rfl λH Q=>?_;cbv;refine C3 Y Q 0 rfl ?_;cbv;cases h;exact J Q (.refl _)
 cbv;refine C2 Y h (λ_ h=>?_) λ_ h=>?_
 ·cbv;refine C5 Y Q 0 rfl rfl λH Q=>?_;cbv;refine C3 Y Q 0 rfl ?_;cbv;cases h;exact J Q (.refl _)
 cbv;refine C2 Y h (λ_ h=>?_) λ_ h=>?_
 ·cbv;refine C5 Y Q 0 rfl rfl λH Q=>?_;cbv;refine C3 Y Q 0 rfl ?_;cbv;cases h;exact J Q (.refl _)
 cbv;refine C5 Y Q 0 rfl rfl λH Q=>?_;cbv;refine C3 Y Q 0 rfl ?_;cbv;cases h;exact J Q (.refl _)
@[reducible, instance] def zc297 (N aB bS):=Ct.mk (f:=297) (c297 N aB bS)
def cf270:Cf:=⟨[6],[],[],[],[],[]⟩
def c270 (N a b k r) (h:HI N a b k=some r):B8 prog 270 [vi a,sr eBF4 b,(J2 k)] (.tup [(J2 r.1),vi r.2]):=by
 unfold HI at h
 refine R4 cf270 func270 call270 ntmps270 ?_;intro E D K Y J Q;cbv;refine G0 Y Q λi H Q=>?_;cbv;refine B3 Y h (c291 N a) (.refl _) λv h=>?_;cbv;refine C2 Y h (λ_ h=>?_) λ_ h=>?_
 ·cbv;refine C5 Y Q 0 rfl rfl λH Q=>?_;cbv;refine C3 Y Q 0 rfl ?_;cbv;cases h;exact J Q (.refl _)
 cbv;refine K2 Y ?_;cbv;refine C2 Y h (λ_ h=>?_) λ_ h=>?_
 ·cbv;refine C5 Y Q 0 rfl rfl λH Q=>?_;cbv;refine C3 Y Q 0 rfl ?_;cbv;cases h;exact J Q (.refl _)
 cbv;refine K2 Y ?_;cbv;obtain⟨c,X,h⟩:=bind_some h;refine I8 cf270 Y N0 (λt=>[(1,.v (sr eBF4 b)),(3,.v (.eref [vi a] 0)),(5,.v (.eref (AV k) 0)),(6,.v (.ref i 0)),(22,.v (sr eBF4 b)),fi 23 (Ar.len b),fi 24 t]) (λt G=>B9 Eq D [cb i [vi 0,vi 0,.str (⟨#[]⟩)]] G) (λx e l G=>match(generalizing:=false) x with| .inl y=>e= .exit 1/\l=[(1,.v (sr eBF4 b)),(3,.v (.eref [vi a] 0)),(5,.v (.eref (AV k) 0)),(6,.v (.ref i 0))]/\B9 Eq D [cb i [vi 0,vi 0,.str (⟨#[]⟩)]] G| .inr y=>e= .ret/\l=[(6,.v (.ref i 0)),fi 7 y]/\B9 Eq D [cb i [vi 0,vi 0,.str (⟨#[]⟩)]] G) za3 ?_ X ?_ Q ?_
 ·intro t H o Q h;clear X;cbv;refine C2 Y h (λ_ h=>?_) λ_ h=>?_
  ·cbv;refine E6 Y eBF3 h λx5 h=>?_;cbv;refine B3 Y h (c292 N a x5) (.refl _) λf h=>?_;cbv;refine C2 Y h (λ_ h=>?_) λ_ h=>?_
   ·cbv;refine C5 Y Q 0 rfl rfl λH Q=>?_;cbv;cases h;exact⟨_,_,rfl,⟨rfl,rfl,Q⟩,.e2 .z,rfl⟩
   cbv;cases h;exact⟨_,rfl,.e rfl (.e2 (.e4 .z)),rfl,Q⟩
  cbv;cases h;exact⟨_,_,rfl,⟨rfl,rfl,Q⟩,.e4 .z,rfl⟩
 ·exact .e rfl (.e2 (.e4 .z))
 clear X
 rcases c with m|d
 ·rintro e l H ⟨rfl,rfl,Q⟩;cbv;refine B3 Y (g:=λn=>(U3 n)) h (λn X=>c293 N (⟨a,0,(⟨0,0,⟨#[]⟩⟩:B5)⟩:G5) b (.func (.func 294) [] [.eref [vi a] 0]) (λP V=>Ac N P V a) (λP V r X=>B8.value (F:=[]) (C:=[.eref [vi a] 0]) (c294 N P V a r X)) n X) (.refl _) λn h=>?_;cbv;refine B3 Y h (c297 N n k) (.refl _) λj h=>?_;cbv;refine C5 Y Q 0 rfl rfl λH Q=>?_;cbv;refine C3 Y Q 0 rfl ?_;cbv;cases h;exact J Q (.refl _)
 rintro e l H ⟨rfl,rfl,Q⟩;cbv;refine C3 Y Q 0 rfl ?_;cbv;cases h;exact J Q (.refl _)
@[reducible, instance] def zc270 (N aS aI bS):=Ct.mk (f:=270) (c270 N aS aI bS)
def cf258:Cf:=⟨[4],[],[],[],[],[]⟩
def c258 (N P a r) (h:Bu N P a=some r):B8 prog 258 [(FH P),(Cr a)] (.tup [(J2 r.1),vi r.2]):=by
 unfold Bu at h
 refine R4 cf258 func258 call258 ntmps258 ?_;intro E D K Y J Q;cbv;refine G0 Y Q λi H Q=>?_;cbv;refine B3 Y h (c257 N P a.Var) (.refl _) λv h=>?_;cbv;refine K2 Y ?_;cbv;replace Q:=Q.tl0 (t:=.nil) rfl;obtain⟨u,X,h⟩:=bind_some h;refine S6 cf258 Y N0 (γ:=J8) (λn g=>[(3,.v (.eref (GK a) 0)),(4,.v (.ref i 0)),(6,.v (.sl (lst eBF4 n.1) g)),(14,.v (sr eBE3 v)),fi 15 (Ar.len v),fi 16 n.2]) (λn g G=>Ed g/\B9 Eq D [.tl g,cb i [vi 0,vi 0,.str (⟨#[]⟩)]] G) (λx e l G=>match(generalizing:=false) x with| .inl y=>∃k:J8,Ed k/\e= .exit 0/\l=[(3,.v (.eref (GK a) 0)),(4,.v (.ref i 0)),(6,.v (.sl (lst eBF4 y) k))]/\B9 Eq D [.tl k,cb i [vi 0,vi 0,.str (⟨#[]⟩)]] G| .inr y=>∃k:J8,Ed k/\e= .ret/\l=[(4,.v (.ref i 0)),fi 5 y]/\B9 Eq D [.tl k,cb i [vi 0,vi 0,.str (⟨#[]⟩)]] G) za3 ?_ .nil X ?_ ?_ ?_
 ·rintro n q H o ⟨b,Q⟩ h;clear X;cbv;refine C2 Y h (λ_ h=>?_) λ_ h=>?_
  ·cbv;refine E6 Y eBF2 h λB h=>?_;cbv;refine B3 Y h (c259 N B a.Field) (.refl _) λp h=>?_;cbv;refine C2 Y h (λ_ h=>?_) λ_ h=>?_
   ·cbv;refine C5 Y Q 1 rfl rfl λH Q=>?_;cbv;cases h;exact⟨_,_,rfl,⟨q,b,rfl,rfl,Q⟩,.e2 .z,rfl⟩
   cbv;refine GD (f:=eBF4) Y Xp za5 Q 0 rfl b (l:=n.1) (m:=[p.1]) (.refl _) (.lstc (.eq (eBF3 p.1) (.refl _)) (.lst0)) h λF A H Q V h=>?_;cbv;cases h;exact⟨_,A,rfl,.e2 (.e4 .z),rfl,V,Q⟩
  cbv;cases h;exact⟨_,_,rfl,⟨q,b,rfl,rfl,Q⟩,.e rfl (.e2 .z),rfl⟩
 ·exact .e2 (.v (.slt _ (.lst0)) (.e rfl (.e rfl (.e rfl (.z)))))
 ·exact⟨trivial,Q⟩
 clear X
 rcases u with c|C
 ·rintro e l H ⟨w,d,rfl,rfl,Q⟩;cbv;refine B3 Y h (c270 N a.Kind c a.Value) (.cons (.refl _) (.cons (.ro _ _) (.refl _))) λs h=>?_;cbv;refine C5 Y Q 1 rfl rfl λH Q=>?_;cbv;refine C3 Y Q 1 rfl ?_;cbv;cases h;exact J Q (.refl _)
 rintro e l H ⟨z,j,rfl,rfl,Q⟩;cbv;refine C3 Y Q 1 rfl ?_;cbv;cases h;exact J Q (.refl _)
@[reducible, instance] def zc258 (N aG aF):=Ct.mk (f:=258) (c258 N aG aF)
def cf237:Cf:=⟨[4,7],[],[(38,12),(63,19)],[],[],[]⟩
def c237 (N g a r) (h:BT N g a=some r):B8 prog 237 [(FH g),(Cr a)] (.tup [(J2 r.1),vi r.2]):=by
 unfold BT at h
 refine R4 cf237 func237 call237 ntmps237 ?_;intro E D K Y J Q;cbv;refine G0 Y Q λb H Q=>?_;cbv;refine B3 Y h (c257 N g a.Var) (.refl _) λv h=>?_;cbv;refine C2 Y h (λ_ h=>?_) λ_ h=>?_
 ·cbv;refine C5 Y Q 0 rfl rfl λH Q=>?_;cbv;refine C3 Y Q 0 rfl ?_;cbv;cases h;exact J Q (.refl _)
 cbv;refine C2 Y h (λ_ h=>?_) λ_ h=>?_
 ·cbv;refine K2 Y ?_;cbv;refine C5 Y Q 0 rfl rfl λH Q=>?_;cbv;refine C3 Y Q 0 rfl ?_;cbv;cases h;exact J Q (.refl _)
 cbv;refine C2 Y h (λ_ h=>?_) λ_ h=>?_
 ·cbv;refine B3 Y h (c258 N g a) (.refl _) λc h=>?_;cbv;refine C5 Y Q 0 rfl rfl λH Q=>?_;cbv;refine C3 Y Q 0 rfl ?_;cbv;cases h;exact J Q (.refl _)
 cbv;refine G0 Y Q λi H Q=>?_;cbv;refine C5 Y Q 0 rfl rfl λH Q=>?_;cbv;obtain⟨n,X,h⟩:=bind_some h;refine Q5 cf237 Y N0 (λe l G=>match(generalizing:=false) n with| .inl y=>e= .normal/\l=[(3,.v (.eref (GK a) 0)),(4,.v (.ref b 0)),(7,.v (.ref i 0))]/\B9 Eq D [cb i (Uy y),cb b [vi 0,vi 0,.str (⟨#[]⟩)]] G| .inr y=>e= .ret/\l=[(4,.v (.ref b 0)),fi 5 10]/\B9 Eq D [cb i (Uy g.event),cb b [vi 0,vi 0,.str (⟨#[]⟩)]] G) za3 ?_ ?_
 ·clear h;have h:=X;clear X;cbv;refine C2 Y h (λ_ h=>?_) λ_ h=>?_
  ·cbv;refine K2 Y ?_;cbv;refine C2 Y h (λ_ h=>?_) λ_ h=>?_
   ·cbv;refine C5 Y Q 1 rfl rfl λH Q=>?_;cbv;cases h;exact⟨_,⟨rfl,rfl,Q⟩,.e2 .z,rfl⟩
   cbv;refine K2 Y ?_;cbv;refine E6 Y eBF2 h λd h=>?_;cbv;refine C5 Y Q 0 rfl rfl λH Q=>?_;cbv;cases h;exact⟨_,⟨rfl,rfl,Q⟩,.e rfl (.e2 .z),rfl⟩
  cbv;cases h;exact⟨_,⟨rfl,rfl,Q⟩,.e rfl (.e2 .z),rfl⟩
 clear X
 rcases n with t|V
 ·rintro e l H ⟨rfl,rfl,Q⟩;cbv;refine C2 Y h (λ_ h=>?_) λ_ h=>?_
  ·cbv;refine C3 Y Q 0 rfl ?_;cbv;refine C5 Y Q 1 rfl rfl λH Q=>?_;cbv;refine C3 Y Q 1 rfl ?_;cbv;cases h;exact J Q (.refl _)
  cbv;refine C3 Y Q 0 rfl ?_;cbv;refine B3 Y h (c259 N t a.Field) (.refl _) λk h=>?_;cbv;obtain⟨P,X,h⟩:=bind_some h;refine Q5 cf237 Y N0 (λe l G=>e= .normal/\l=[(4,.v (.ref b 0)),(8,.v (.eref (AV k.1) 0)),fi 9 P]/\B9 Eq D [cb i (Uy t),cb b [vi 0,vi 0,.str (⟨#[]⟩)]] G) za3 ?_ ?_
  ·clear h;have h:=X;clear X;cbv;refine C2 Y h (λ_ h=>?_) λ_ h=>?_
   ·cbv;refine B3 Y h (c260 N k.1) (.refl _) λx h=>?_;cbv;cases h;exact⟨_,⟨rfl,rfl,Q⟩,.e rfl (.e2 .z),rfl⟩
   cbv;cases h;exact⟨_,⟨rfl,rfl,Q⟩,.e rfl (.e2 .z),rfl⟩
  clear X;rintro e l H ⟨rfl,rfl,Q⟩;cbv;refine C2 Y h (λ_ h=>?_) λ_ h=>?_
  ·cbv;refine C5 Y Q 1 rfl rfl λH Q=>?_;cbv;refine C3 Y Q 1 rfl ?_;cbv;cases h;exact J Q (.refl _)
  cbv;refine C5 Y Q 1 rfl rfl λH Q=>?_;cbv;refine C3 Y Q 1 rfl ?_;cbv;cases h;exact J Q (.refl _)
 rintro e l H ⟨rfl,rfl,Q⟩;cbv;refine C3 Y Q 1 rfl ?_;cbv;cases h;exact J Q (.refl _)
@[reducible, instance] def zc237 (N aG aF):=Ct.mk (f:=237) (c237 N aG aF)
def cf238:Cf:=⟨[],[],[(15,8),(22,13)],[],[],[]⟩
def c238 (N b a r) (h:Gl N b a=some r):B8 prog 238 [vi b,sr (V.int .i64) a] (vi r):=by
 unfold Gl at h
 refine R4 cf238 func238 call238 ntmps238 ?_;intro E D K Y J Q;cbv;refine K2 Y ?_;cbv;obtain⟨d,X,h⟩:=bind_some h;refine I8 cf238 Y N0 (λI=>[fi 0 b,(1,.v (sr (V.int .i64) a)),(8,.v (sr (V.int .i64) a)),fi 9 (Ar.len a),fi 10 I]) (λI G=>B9 Eq D [] G) (λx e l G=>match(generalizing:=false) x with| .inl y=>e= .exit 0/\l=[]/\B9 Eq D [] G| .inr y=>e= .ret/\l=[fi 4 9]/\B9 Eq D [] G) za3 ?_ X ?_ Q ?_
 ·intro I H o Q h;clear X;cbv;refine C2 Y h (λ_ h=>?_) λ_ h=>?_
  ·cbv;refine E6 Y (λ_=>rfl) h λg h=>?_;cbv;obtain⟨i,X,h⟩:=bind_some h;refine Q5 cf238 Y N0 (λe l G=>e= .normal/\l=[fi 0 b,(1,.v (sr (V.int .i64) a)),fi 6 g,(7,.b true),(8,.v (sr (V.int .i64) a)),fi 9 (Ar.len a),fi 10 I,fi 14 b,(15,.v (.bool i))]/\B9 Eq D [] G) za3 ?_ ?_
   ·clear h;have h:=X;clear X;cbv;refine C2 Y h (λ_ h=>?_) λ_ h=>?_
    ·cbv;cases h;exact⟨_,⟨rfl,rfl,Q⟩,.e rfl (.e2 (.b rfl (.e rfl (.e rfl (.e rfl (.e rfl (.e rfl (.z)))))))),rfl⟩
    cbv;refine C2 Y h (λ_ h=>?_) λ_ h=>?_
    ·cbv;cases h;exact⟨_,⟨rfl,rfl,Q⟩,.e rfl (.e2 (.b rfl (.e rfl (.e rfl (.e rfl (.e rfl (.e rfl (.z)))))))),rfl⟩
    cbv;refine C2 Y h (λ_ h=>?_) λ_ h=>?_
    ·cbv;cases h;exact⟨_,⟨rfl,rfl,Q⟩,.e rfl (.e2 (.b rfl (.e rfl (.e rfl (.e rfl (.e rfl (.e rfl (.z)))))))),rfl⟩
    cbv;cases h;exact⟨_,⟨rfl,rfl,Q⟩,.e rfl (.e2 (.b rfl (.e rfl (.e rfl (.e rfl (.e rfl (.e rfl (.z)))))))),rfl⟩
   clear X;rintro e l H ⟨rfl,rfl,Q⟩;cbv;refine C2 Y h (λ_ h=>?_) λ_ h=>?_
   ·cbv;refine C2 Y h (λ_ h=>?_) λ_ h=>?_
    ·cbv;cases h;exact⟨_,_,rfl,⟨rfl,rfl,Q⟩,.e rfl .z,rfl⟩
    cbv;cases h;exact⟨_,rfl,.e rfl (.e4 .z),rfl,Q⟩
   cbv;obtain⟨k,X,h⟩:=bind_some h;refine Q5 cf238 Y N0 (λe l G=>e= .normal/\l=[fi 0 b,(1,.v (sr (V.int .i64) a)),fi 6 g,(7,.b true),(8,.v (sr (V.int .i64) a)),fi 9 (Ar.len a),fi 10 I,fi 14 b,(22,.v (.bool k))]/\B9 Eq D [] G) za3 ?_ ?_
   ·clear h;have h:=X;clear X;cbv;refine C2 Y h (λ_ h=>?_) λ_ h=>?_
    ·cbv;cases h;exact⟨_,⟨rfl,rfl,Q⟩,.e rfl (.e2 (.b rfl (.e rfl (.e rfl (.e rfl (.e rfl (.e rfl (.z)))))))),rfl⟩
    cbv;refine C2 Y h (λ_ h=>?_) λ_ h=>?_
    ·cbv;cases h;exact⟨_,⟨rfl,rfl,Q⟩,.e rfl (.e2 (.b rfl (.e rfl (.e rfl (.e rfl (.e rfl (.e rfl (.z)))))))),rfl⟩
    cbv;cases h;exact⟨_,⟨rfl,rfl,Q⟩,.e rfl (.e2 (.b rfl (.e rfl (.e rfl (.e rfl (.e rfl (.e rfl (.z)))))))),rfl⟩
   clear X;rintro e l H ⟨rfl,rfl,Q⟩;cbv;refine C2 Y h (λ_ h=>?_) λ_ h=>?_
   ·cbv;refine C2 Y h (λ_ h=>?_) λ_ h=>?_
    ·cbv;cases h;exact⟨_,_,rfl,⟨rfl,rfl,Q⟩,.e rfl .z,rfl⟩
    cbv;cases h;exact⟨_,rfl,.e rfl (.e4 .z),rfl,Q⟩
   cbv;refine C2 Y h (λ_ h=>?_) λ_ h=>?_
   ·cbv;refine E6 Y (λ_=>rfl) h λn h=>?_;cbv;refine C2 Y h (λ_ h=>?_) λ_ h=>?_
    ·cbv;cases h;exact⟨_,_,rfl,⟨rfl,rfl,Q⟩,.e rfl .z,rfl⟩
    cbv;cases h;exact⟨_,rfl,.e rfl (.e4 .z),rfl,Q⟩
   cbv;cases h;exact⟨_,rfl,.e rfl (.e4 .z),rfl,Q⟩
  cbv;cases h;exact⟨_,_,rfl,⟨rfl,rfl,Q⟩,.z,rfl⟩
 ·exact .e rfl (.e4 .z)
 clear X
 rcases d with t|P
 ·rintro e l H ⟨rfl,rfl,Q⟩;cbv;cases h;exact J Q (.refl _)
 rintro e l H ⟨rfl,rfl,Q⟩;cbv;cases h;exact J Q (.refl _)
@[reducible, instance] def zc238 (N aT bT):=Ct.mk (f:=238) (c238 N aT bT)
def cf200:Cf:=⟨[4,3000042,8000042,9000042],[(11,8),(17,6),(18,16)],[],[],[],[]⟩
def c200 (N:Nat):∀n k a r,U9 N n k a=some r->B8 prog 200 [(FH k),(Cr a)] (.tup [(J2 r.1),vi r.2]):=by
 intro n
 induction n with
 |zero=>intro k a r h;cases h
 |succ n ih=>
 intro k a r h
 unfold U9 at h
 refine R4 cf200 func200 call200 ntmps200 ?_;intro E D K Y J Q;cbv;refine G0 Y Q λs H Q=>?_;cbv;refine K2 Y ?_;cbv;refine C2 Y h (λ_ h=>?_) λ_ h=>?_
 ·cbv;refine B3 Y h (c237 N k a) (.refl _) λv h=>?_;cbv;refine C5 Y Q 0 rfl rfl λH Q=>?_;cbv;refine C3 Y Q 0 rfl ?_;cbv;cases h;exact J Q (.refl _)
 cbv;refine K2 Y ?_;cbv;replace Q:=Q.tl0 (t:=.nil) rfl;replace Q:=Q.tl0 (t:=.nil) rfl;obtain⟨s6,X,h⟩:=bind_some h;refine S6 cf200 Y N0 (γ:=J8×J8) (λd g=>[(2,.v (.eref (Il k) 0)),(3,.v (.eref (GK a) 0)),(4,.v (.ref s 0)),(6,.v (.sl (lst eBF4 d.1) g.2)),(7,.v (.sl (lst (V.int .i64) d.2.1) g.1)),(23,.v (sr eBF9 a.dD)),fi 24 (Ar.len a.dD),fi 25 d.2.2]) (λd g G=>Ed g.1/\Ed g.2/\B9 Eq D [.tl g.1,.tl g.2,cb s [vi 0,vi 0,.str (⟨#[]⟩)]] G) (λx e l G=>match(generalizing:=false) x with| .inl y=>∃u:J8,Ed u/\∃w:J8,Ed w/\e= .exit 0/\l=[(2,.v (.eref (Il k) 0)),(3,.v (.eref (GK a) 0)),(4,.v (.ref s 0)),(6,.v (.sl (lst eBF4 y.1) w)),(7,.v (.sl (lst (V.int .i64) y.2) u))]/\B9 Eq D [.tl u,.tl w,cb s [vi 0,vi 0,.str (⟨#[]⟩)]] G| .inr y=>∃u:J8,Ed u/\∃w:J8,Ed w/\e= .ret/\l=[(4,.v (.ref s 0)),fi 5 y]/\B9 Eq D [.tl u,.tl w,cb s [vi 0,vi 0,.str (⟨#[]⟩)]] G) za3 ?_ (⟨.nil,.nil⟩) X ?_ ?_ ?_
 ·rintro d ⟨t4,t5⟩ H o ⟨P,c,Q⟩ h;clear X;cbv;refine C2 Y h (λ_ h=>?_) λ_ h=>?_
  ·cbv;refine E6 Y eBH0 h λx7 h=>?_;cbv;refine B3 Y h (ih k x7) (.refl _) λI h=>?_;cbv;refine C2 Y h (λ_ h=>?_) λ_ h=>?_
   ·cbv;refine C5 Y Q 2 rfl rfl λH Q=>?_;cbv;cases h;exact⟨_,_,rfl,⟨t4,P,t5,c,rfl,rfl,Q⟩,.e2 .z,rfl⟩
   cbv;refine Zb Y Q 1 rfl c λH Q=>?_;cbv;refine LY Y trivial ?_;cbv;refine Zh (f:=eBF4) Y Xp za5 (l:=d.1) (m:=[I.1]) (.refl _) (.lstc (.eq (eBF3 I.1) (.refl _)) (.lst0)) h λl9 h=>?_;cbv;refine Zd Y Q 1 rfl λL H Q A=>?_;cbv;refine GD (f:=(V.int .i64)) Y (λ_=>rfl) za5 Q 0 rfl P (l:=d.2.1) (m:=[I.1.Kind]) (.refl _) (.lstc (.refl _) (.lst0)) h λam M H Q B h=>?_;cbv;cases h;exact⟨_,⟨M,L⟩,rfl,.e4 (.e4 .z),rfl,B,A,Q⟩
  cbv;cases h;exact⟨_,_,rfl,⟨t4,P,t5,c,rfl,rfl,Q⟩,.e rfl (.e4 .z),rfl⟩
 ·exact .e rfl (.e2 (.v (.slt _ (.lst0)) (.v (.slt _ (.lst0)) (.e rfl (.e rfl (.e rfl (.z)))))))
 ·exact⟨trivial,trivial,Q⟩
 clear X
 rcases s6 with ah|a3
 ·rintro e l H ⟨ax,ai,ay,aj,rfl,rfl,Q⟩;cbv;refine B3 Y h (c238 N a.Op ah.2) (.cons (.refl _) (.cons (.ro _ _) (.refl _))) λao h=>?_;cbv;refine C2 Y h (λ_ h=>?_) λ_ h=>?_
  ·cbv;refine C5 Y Q 2 rfl rfl λH Q=>?_;cbv;refine C3 Y Q 2 rfl ?_;cbv;cases h;exact J Q (.refl _)
  cbv;refine C2 Y h (λ_ h=>?_) λ_ h=>?_
  ·cbv;refine E6 Y eBF3 h λj h=>?_;cbv;refine E6 Y eBF3 h λp h=>?_;cbv;refine B3 Y h (c169 N (an (cmp .eql j.Kind p.Kind) (an (cmp .eql j.Num p.Num) (an (Ar.scmp .eql j.Text p.Text) true)))) (.refl _) λap h=>?_;cbv;refine C5 Y Q 2 rfl rfl λH Q=>?_;cbv;refine C3 Y Q 2 rfl ?_;cbv;cases h;exact J Q (.refl _)
  cbv;refine Bu5 Y (kt:=3) (et:=278) (z:=.nilf) za3 za3 za3 rfl ?_;cbv;refine C2 Y h (λ_ h=>?_) λ_ h=>?_
  ·cbv;refine E6 Y eBF3 h λO h=>?_;cbv;refine K2 Y ?_;cbv;refine E6 Y eBF3 h λR h=>?_;cbv;refine AM Y (g:=λb=>(J2 b)) h (λb X=>B8.value (F:=[]) (C:=[.eref [.func (.func 229) [] []] 0]) (c230 N O.Num R.Num (.func (.func 229) [] []) (λq=>Bz N q) (λq r X=>B8.value (F:=[]) (C:=[]) (c229 N q r X)) b X)) (.refl _) λb h=>?_;cbv;refine C5 Y Q 2 rfl rfl λH Q=>?_;cbv;refine C3 Y Q 2 rfl ?_;cbv;cases h;exact J Q (.refl _)
  cbv;refine C2 Y h (λ_ h=>?_) λ_ h=>?_
  ·cbv;refine E6 Y eBF3 h λS h=>?_;cbv;refine K2 Y ?_;cbv;refine E6 Y eBF3 h λT h=>?_;cbv;refine AM Y (g:=λi=>(J2 i)) h (λi X=>B8.value (F:=[]) (C:=[.eref [.func (.func 229) [] []] 0]) (c231 N S.Num T.Num (.func (.func 229) [] []) (λq=>Bz N q) (λq r X=>B8.value (F:=[]) (C:=[]) (c229 N q r X)) i X)) (.refl _) λi h=>?_;cbv;refine C5 Y Q 2 rfl rfl λH Q=>?_;cbv;refine C3 Y Q 2 rfl ?_;cbv;cases h;exact J Q (.refl _)
  cbv;refine C2 Y h (λ_ h=>?_) λ_ h=>?_
  ·cbv;refine E6 Y eBF3 h λU h=>?_;cbv;refine K2 Y ?_;cbv;refine E6 Y eBF3 h λW h=>?_;cbv;refine B3 Y h (c232 N U.Num W.Num) (.refl _) λaq h=>?_;cbv;refine C5 Y Q 2 rfl rfl λH Q=>?_;cbv;refine C3 Y Q 2 rfl ?_;cbv;cases h;exact J Q (.refl _)
  cbv;refine C2 Y h (λ_ h=>?_) λ_ h=>?_
  ·cbv;refine E6 Y eBF3 h λZ h=>?_;cbv;refine K2 Y ?_;cbv;refine E6 Y eBF3 h λaa h=>?_;cbv;refine B3 Y h (c233 N Z.Num aa.Num) (.refl _) λar h=>?_;cbv;refine C5 Y Q 2 rfl rfl λH Q=>?_;cbv;refine C3 Y Q 2 rfl ?_;cbv;cases h;exact J Q (.refl _)
  cbv;refine C2 Y h (λ_ h=>?_) λ_ h=>?_
  ·cbv;refine E6 Y eBF3 h λab h=>?_;cbv;refine K2 Y ?_;cbv;refine E6 Y eBF3 h λac h=>?_;cbv;refine B3 Y h (c234 N ab.Num ac.Num) (.refl _) λau h=>?_;cbv;refine C5 Y Q 2 rfl rfl λH Q=>?_;cbv;refine C3 Y Q 2 rfl ?_;cbv;cases h;exact J Q (.refl _)
  cbv;refine C2 Y h (λ_ h=>?_) λ_ h=>?_
  ·cbv;refine E6 Y eBF3 h λad h=>?_;cbv;refine K2 Y ?_;cbv;refine E6 Y eBF3 h λae h=>?_;cbv;refine B3 Y h (c235 N ad.Num ae.Num) (.refl _) λav h=>?_;cbv;refine C5 Y Q 2 rfl rfl λH Q=>?_;cbv;refine C3 Y Q 2 rfl ?_;cbv;cases h;exact J Q (.refl _)
  cbv;refine C2 Y h (λ_ h=>?_) λ_ h=>?_
  ·cbv;refine E6 Y eBF3 h λaf h=>?_;cbv;refine K2 Y ?_;cbv;refine E6 Y eBF3 h λag h=>?_;cbv;refine B3 Y h (c236 N af.Num ag.Num) (.refl _) λaw h=>?_;cbv;refine C5 Y Q 2 rfl rfl λH Q=>?_;cbv;refine C3 Y Q 2 rfl ?_;cbv;cases h;exact J Q (.refl _)
  cbv;refine E6 Y eBF3 h λa1 h=>?_;cbv;refine K2 Y ?_;cbv;refine E6 Y eBF3 h λa2 h=>?_;cbv;cases h
 rintro e l H ⟨az,ak,a0,al,rfl,rfl,Q⟩;cbv;refine C3 Y Q 2 rfl ?_;cbv;cases h;exact J Q (.refl _)
@[reducible, instance] def zc200 (N n aG aF):=Ct.mk (f:=200) (c200 N n aG aF)
def cf168:Cf:=⟨[8],[(3000004,0),(3000004,1),(3000004,2),(3000004,4),(3000004,5),(3000004,7),(3000004,8),(3000004,10)],[],[2000004],[],[]⟩
def c168 (N i n k t r)(h:Mr N i n k t=some r):B8 prog 168 [(Cr i),(Tu n),vi k,(DW t)] (.tup [(J2 r.1),vi r.2]):=by
 unfold Mr at h
 refine R4 cf168 func168 call168 ntmps168 ?_;intro E D K Y J Q;cbv;refine G0 Y Q λx H Q=>?_;cbv;refine B3 Y h (c180 N i) (.refl _) λv h=>?_;cbv;refine C2 Y h (λ_ h=>?_) λ_ h=>?_
 ·cbv;refine C5 Y Q 0 rfl rfl λH Q=>?_;cbv;refine C3 Y Q 0 rfl ?_;cbv;cases h;exact J Q (.refl _)
 cbv;obtain⟨P,X,h⟩:=bind_some h;refine Q5 cf168 Y N0 (λe l G=>e= .normal/\l=[(8,.v (.ref x 0)),fi 9 P.1]/\B9 Eq D [cb x (AV P.2)] G) za3 ?_ ?_
 ·clear h;have h:=X;clear X;cbv;obtain⟨a,b,h⟩:=bind_some h;refine AX2 Y (c199 N () rfl) (.refl _) Q λy H Q=>?_;cbv;refine Bj6 Y (g:=λa=>.tup [(J2 a.1),vi a.2]) (S3 b) (c200 N N (⟨n,k,t,()⟩:X3) i) (λ_=>.tup2 (.agg rfl) (.int _ _)) (.agg (.le (.refl _) (.le (.refl _) (.le (.refl _) (.le (.refl _) (.le (.refl _) (.le (.refl _) (.le (.refl _) (.fm (Q.get 0 rfl) (.nil))))))))) (.le (.refl _) (.nil))) λa V=>?_;obtain rfl:=G3 V;cbv;refine C5 Y Q 1 rfl rfl λH Q=>?_;cbv;cases h;exact⟨_,⟨rfl,rfl,Q.tail⟩,.e2 .z,rfl⟩
 clear X;rintro e l H ⟨rfl,rfl,Q⟩;cbv;refine C3 Y Q 0 rfl ?_;cbv;cases h;exact J Q (.refl _)
@[reducible, instance] def zc168 (N aF bW bM bX):=Ct.mk (f:=168) (c168 N aF bW bM bX)
def cf124:Cf:=⟨[],[(2,5)],[],[],[],[]⟩
def c124 (N a e b i r)(h:Fz N a e b i=some r):B8 prog 124 [(Cr a),(Tu e),vi b,(DW i)] (.bool r):=by
 unfold Fz at h
 refine R4 cf124 func124 call124 ntmps124 ?_;intro E D K Y J Q;cbv;refine B3 Y h (c168 N a e b i) (.refl _) λk h=>?_;cbv;refine C2 Y h (λ_ h=>?_) λ_ h=>?_
 ·cbv;refine E3 Y (g:=λv=>(J2 v)) h (c169 N true) (.refl _) λv h=>?_;cbv;cases h;exact J Q (.refl _)
 cbv;cases h;exact J Q (.refl _)
@[reducible, instance] def zc124 (N aF bW bM bX):=Ct.mk (f:=124) (c124 N aF bW bM bX)
def cf125:Cf:=⟨[6,7,3000041,8000041,9000041],[(6,20)],[],[],[(44,1000007)],[]⟩
def c125 (N C A F r) (h:Z4 N C A F=some r):B8 prog 125 [.eref (E0 C) 0,sr eBE2 A,vi F] ((Tu r)):=by
 unfold Z4 at h
 refine R4 cf125 func125 call125 ntmps125 ?_;intro E D K Y J Q;cbv;refine G0 Y Q λy H Q=>?_;cbv;refine Bq7 Y (f:=eBE3) za5 Q 1 h λl3 j H I h Q=>?_;have Q:B9 Eq D (.blk j.q.id (.arr 1 (j.q.pre++lst (Ei eBE3) j.row++j.q.rest))::cb y [.sl [] .nil]::(Mk j++[])) H:=Q;cbv;refine G0 Y Q λV H Q=>?_;cbv;refine C5 Y Q 0 rfl rfl λH Q=>?_;cbv;refine K2 Y ?_;cbv;obtain⟨U,X,h⟩:=bind_some h;refine S6 cf125 Y N0 (γ:=Rw A9) (λB g=>[(0,.v (.eref (E0 C) 0)),fi 2 F,(6,.v (.ref y 0)),(7,.v (.ref V 0)),(12,.v (sr eBE2 A)),fi 13 (Ar.len A),fi 14 B.1]) (λB g G=>Gf g B.2/\B9 Eq D (cb V [.own g.q.id g.q.lo g.q.n]:: .blk g.q.id (.arr 1 (g.q.pre++lst (Ei eBE3) g.row++g.q.rest))::cb y [.sl [] .nil]::(Mk g++[])) G) (λx e l G=>∃t:Rw A9,Gf t x/\e= .exit 0/\l=[(6,.v (.ref y 0)),(7,.v (.ref V 0))]/\B9 Eq D (cb V [.own t.q.id t.q.lo t.q.n]:: .blk t.q.id (.arr 1 (t.q.pre++lst (Ei eBE3) t.row++t.q.rest))::cb y [.sl [] .nil]::(Mk t++[])) G) za3 ?_ j X ?_ ?_ ?_
 ·rintro B i H o ⟨a,Q⟩ h;clear X;cbv;refine C2 Y h (λ_ h=>?_) λ_ h=>?_
  ·cbv;refine E6 Y eBF5 h λR h=>?_;cbv;refine C2 Y h (λ_ h=>?_) λ_ h=>?_
   ·cbv;obtain⟨Z,v,h⟩:=bind_some h
    obtain⟨b,W,P,p⟩:=a.at v
    obtain⟨S,Q,q⟩:=Q.rtake (w:=i) (T1:=[]) (T2:=[]) 3 rfl P;refine Zb Y Q 0 rfl p λH Q=>?_;cbv;refine C3 Y Q 1 rfl ?_;cbv;refine C3 Y Q 1 rfl ?_;cbv;refine ZB Y (f:=Ei eBE3) Q a.ok 2 rfl b ?_;cbv;refine AE3 Y (f:=Ei eBE3) (λ_=>rfl) Q a.ok 2 rfl b.1 P ?_;cbv;refine E6 Y eBF2 h λz h=>?_;cbv;refine LY Y trivial ?_;cbv;refine Zh (f:=eBE3) Y Se za5 (l:=Z) (m:=[z]) (.refl _) (.lstc (.eq (eBF2 z) (.refl _)) (.lst0)) h λk h=>?_;cbv;refine Zd Y Q 0 rfl λn H Q d=>?_;cbv;refine ZB Y (f:=Ei eBE3) Q a.ok 2 rfl b ?_;cbv;refine Ak4 Y (f:=Ei eBE3) (tz:=1) (x':=(k,n)) (λ_=>⟨.sl (lst eBE3 k) n,.refl _,rfl,rfl,rfl⟩) za5 Q a.ok 2 rfl b λH Q=>?_;cbv;obtain⟨L,T,h⟩:=bind_some h;obtain⟨M,c,s,Q⟩:∃w0:Rw A9,w0.q=i.q/\Gf w0 L/\B9 Eq D (cb V [.own w0.q.id w0.q.lo w0.q.n]:: .blk w0.q.id (.arr 1 (w0.q.pre++lst (Ei eBE3) w0.row++w0.q.rest))::cb y [.sl [] .nil]::(Mk w0++[])) H:=⟨(⟨i.q,i.row.set (R.v).toNat (k,n)⟩:Rw A9),rfl,by rw[Ab4 T];exact a.put _ d,(by have e:=q (k,n) H [cb V [.own i.q.id i.q.lo i.q.n],.blk i.q.id (.arr 1 (i.q.pre++lst (Ei eBE3) (i.row.set (R.v).toNat (k,n))++i.q.rest)),cb y [.sl [] .nil]] Q;simp only[V1,I1,E5]at e ⊢;exact e)⟩
    try rw[<-c]
    cases h;exact⟨_,M,rfl,.e rfl (.e2 (.e4 .z)),rfl,s,Q⟩
   cbv;cases h;exact⟨_,i,rfl,.e rfl (.e2 (.e4 .z)),rfl,a,Q⟩
  cbv;cases h;exact⟨_,_,rfl,⟨i,a,rfl,rfl,Q⟩,.e2 .z,rfl⟩
 ·exact .e rfl (.e2 (.e4 .z))
 ·exact⟨I,Q⟩
 clear X;rintro e l H ⟨O,u,rfl,rfl,Q⟩;cbv;refine Ah2 Y (e:=eBG4) eBH3 Q u 0 1 rfl rfl rfl za5 λH Q=>?_;have Q:B9 Eq D [cb V [sr eBG4 U],cb y [.sl [] .nil]] H:=Q.rdrop (w:=O) (T1:=[]) (T2:=[]) 2 rfl;cbv;refine C3 Y Q 0 rfl ?_;cbv;refine C5 Y Q 1 rfl rfl λH Q=>?_;cbv;refine C3 Y Q 1 rfl ?_;cbv;cases h;exact J Q (.refl _)
@[reducible, instance] def zc125 (N aG aI bY):=Ct.mk (f:=125) (c125 N aG aI bY)
def cf91:Cf:=⟨[],[(2,15)],[],[],[],[]⟩
def c91 (N a S b e r)(h:P2 N a S b e=some r):B8 prog 91 [.eref (E0 a) 0,(D0 S),sr eBE2 b,vi e] (.bool r):=by
 unfold P2 at h
 refine R4 cf91 func91 call91 ntmps91 ?_;intro E D K Y J Q;cbv;refine E6 Y eBF2 h λi h=>?_;cbv;refine C2 Y h (λ_ h=>?_) λ_ h=>?_
 ·cbv;refine E3 Y (g:=λv=>(Tu v)) h (c125 N a b e) (.refl _) λv h=>?_;cbv;refine B3 Y h (c124 N S.dF v S.Var i) (.refl _) λk h=>?_;cbv;cases h;exact J Q (.refl _)
 cbv;cases h;exact J Q (.refl _)
@[reducible, instance] def zc91 (N aG aA aH bG):=Ct.mk (f:=91) (c91 N aG aA aH bG)
def cf170:Cf:=⟨[22],[],[],[],[],[]⟩
def c170 (N P aR r) (h:AH N P aR=some r):WH prog 170 [.sl [] .nil,vi aR] 2 (lst eBE2 r):=by
 unfold AH at h
 obtain⟨O,Z,y⟩:=AX9 (f:=eBE2) h;rw[y];clear y h;intro D
 have i:∀b,cmp .lss aR 0=b->b=false:=λb h=>by rw[Ar.cmp_eq]at h;subst h;simp[RG];omega
 have e:ar .sub .i64 aR (ar .sub .i64 0 0)=aR:=by rw[Ar.ar_eq,Ar.ar_eq];simp only[arI];rw[show(0:Int)-0=0 from rfl,wrap_small 0 za2 za2,Int.sub_zero];exact wrap_small _ za2 za2
 have d:∀b,cmp .gtr (ar .sub .i64 aR (ar .sub .i64 0 0)) 0=b->(b=false->aR=0):=λb h=>by rw[e,Ar.cmp_eq]at h;subst h;simp[RG];omega
 have n:aR.toNat*16<=140737488355328:=by have:=Bk3 (a:=aR.toNat) (b:=0) (by_:=16) za2 za5;simpa using this
 have g:(0:Int)=(([]:Up V).length:Nat):=rfl;refine FO (T:=TT) cf170 N0 func170 za9 za3 call170 ntmps170 za9 za9 ?_;intro E K Y J c;cbv;refine r_br Y (λX=>absurd (i _ X) za5) (λX=>?_);cbv;refine r_ln Y g ?_;cbv;refine r_br Y (λx=>?_) (λx=>?_)
 ·cbv;refine Bh5 Y ?_;cbv;refine AU9 Y aR e (.inl rfl) O n λt m row j o p H=>?_;obtain⟨RL,l,k⟩:∃RL:Int,RL=(row.length:Nat)/\0<=RL:=⟨_,rfl,za2⟩;cbv;refine r_ln Y g ?_;cbv;refine AU7 Y (G4 _ _ _) l 0 0 rfl rfl (CH _) (CH _) k λl' n' q s=>?_;cbv
  have w:0=l':=za2
  have e2:0=n':=za2
  subst w e2;exact J ⟨t,0,0,[],row⟩ [] _ ⟨rfl,rfl⟩ ((B9.start H8 rfl).push o rfl)
 cbv;exact c rfl [] D (.start H8 rfl)
def c126 (N a r) (h:U4 N a=some r):B8 prog 126 [sr eBG0 a] (sr eBE2 r):=by
 unfold U4 at h
 refine Dx (T:=TT) cf0 N0 func126 za9 za3 call126 ntmps126 za9 za9 ?_;intro E H0 K Y J c;have Q:B9 Eq H0 [] H0:=.start H8 rfl;cbv;refine K2 Y ?_;cbv;obtain⟨d,X,h⟩:=bind_some h;refine I8 cf0 Y N0 (λI=>[(0,.v (sr eBG0 a)),fi 3 I.1,(9,.v (sr eBG0 a)),fi 10 (Ar.len a),fi 11 I.2]) (λI G=>B9 Eq H0 [] G) (λx e l G=>e= .exit 0/\l=[(0,.v (sr eBG0 a)),fi 3 x]/\B9 Eq H0 [] G) za3 ?_ X ?_ Q ?_
 ·intro I H o Q h;clear X;cbv;refine C2 Y h (λ_ h=>?_) λ_ h=>?_
  ·cbv;refine E6 Y eBG9 h λw h=>?_;cbv;refine K2 Y ?_;cbv;refine C2 Y h (λ_ h=>?_) λ_ h=>?_
   ·cbv;cases h
   cbv;cases h;exact⟨_,rfl,.e rfl (.e4 .z),rfl,Q⟩
  cbv;cases h;exact⟨_,_,rfl,⟨rfl,rfl,Q⟩,.e2 .z,rfl⟩
 ·exact .e rfl (.e4 .z)
 clear X;rintro e l H ⟨rfl,rfl,Q⟩;cbv;refine Pn Y (f:=eBE2) h (c170 N [] d) (.cons (.refl _) (.cons (.refl _) .nil)) Q λu p H y Q h=>?_;cbv;refine K2 Y ?_;cbv;obtain⟨v,X,h⟩:=bind_some h;refine S6 cf0 Y N0 (γ:=OG) (λn g=>[(6,.v (.own g.id g.lo g.n)),(25,.v (sr eBG0 a)),fi 26 (Ar.len a),fi 27 n.1]) (λn g G=>An g (Ar.len n.2)/\B9 Eq H0 [ob g 2 eBE2 n.2] G) (λx e l G=>∃t:OG,An t (Ar.len x)/\e= .exit 2/\l=[(6,.v (.own t.id t.lo t.n))]/\B9 Eq H0 [ob t 2 eBE2 x] G) za3 ?_ p X ?_ ?_ ?_
 ·rintro n q H o ⟨k,Q⟩ h;clear X;cbv;refine C2 Y h (λ_ h=>?_) λ_ h=>?_
  ·cbv;refine E6 Y eBG9 h λs h=>?_;cbv;refine Ih (f:=eBE2) Y U7 za5 Q k 0 rfl (m:=s) (FW (f:=eBE2) Y U7 (.refl _)) h λj P H b Q h=>?_;cbv;cases h;exact⟨_,P,rfl,.e4 .z,rfl,b,Q⟩
  cbv;cases h;exact⟨_,_,rfl,⟨q,k,rfl,rfl,Q⟩,.e rfl .z,rfl⟩
 ·exact .e4 .z
 ·exact⟨y,Q⟩
 clear X;rintro e l H ⟨V,i,rfl,rfl,Q⟩;cbv;cases h;exact c V _ _ 0 _ _ Q rfl (Bx Y i) (.refl _)
@[reducible, instance] def zc126 (N bK):=Ct.mk (f:=126) (c126 N bK)
end Go.Ab
