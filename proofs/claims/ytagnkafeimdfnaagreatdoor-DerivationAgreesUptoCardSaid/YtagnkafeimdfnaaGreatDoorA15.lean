/- . -/
import Derived.Test.YtagnkafeimdfnaaGreatDoorA14
set_option linter.all false
open Go.Ab.Ar (lst)
namespace Go.Ab
open Go.RowKit Go.Proofs Go.Proofs.Tryz P4
variable [Ar][P4]
set_option maxRecDepth 100000
def cfo51:Cf:=⟨[7,6000004,6000005,6000017],[(5,10),(10,12)],[],[],[],[]⟩
def o51 (N:Nat):∀n S a r,Z5 N n S a=some r->WH prog 51 [(D0 S),(G8 a)] 4 (lst eBE4 r):=by
 intro n
 induction n with
 |zero=>intro S a r h;cases h
 |succ n ih=>
 intro S a r h
 unfold Z5 at h
 intro H0;refine FO (T:=TT) (F:=H0) cfo51 N0 func51 za9 za3 call51 ntmps51 za9 za9 ?_;intro E K Y J c;have Q:B9 Eq H0 [] H0:=.start H8 rfl;cbv;refine Sx Y (f:=eBE4) Q λv H z Q=>?_;cbv;refine C2 Y h (λ_ h=>?_) λ_ h=>?_
 ·cbv;refine AW6 Y (f:=eBE4) (l:=([(⟨S.Var,a.Ref⟩:B0)]:Up B0)) (.lstc (.eq (eBE9 (⟨S.Var,a.Ref⟩:B0)) (.refl _)) (.lst0)) Q λB H V Q=>?_;cbv;cases h;exact J B _ _ (Bx Y V) (Q)
 cbv;refine C2 Y h (λ_ h=>?_) λ_ h=>?_
 ·cbv;refine E6 Y eBF1 h λM h=>?_;cbv;refine E6 Y eBE6 h λO h=>?_;cbv;refine Pn Y (f:=eBE4) h (ih M O) (.refl _) Q λR C H d Q h=>?_;cbv;cases h;exact J C _ _ (Bx Y d) (Q)
 cbv;refine Sx Y (f:=eBE4) Q λD H j Q=>?_;cbv;refine K2 Y ?_;cbv;obtain⟨L,X,h⟩:=bind_some h;refine S6 cfo51 Y N0 (γ:=OG) (λy g=>[(2,.v (.eref (D5 S) 0)),(5,.v (.own g.id g.lo g.n)),(32,.v (sr eBE5 a.Kids)),fi 33 (Ar.len a.Kids),fi 34 y.1]) (λy g G=>An g (Ar.len y.2)/\B9 Eq H0 [ob g 4 eBE4 y.2,ob v 4 eBE4 ([]:Up B0)] G) (λx e l G=>∃P:OG,An P (Ar.len x)/\e= .exit 1/\l=[(5,.v (.own P.id P.lo P.n))]/\B9 Eq H0 [ob P 4 eBE4 x,ob v 4 eBE4 ([]:Up B0)] G) za3 ?_ D X ?_ ?_ ?_
 ·rintro y I H o ⟨t,Q⟩ h;clear X;cbv;refine C2 Y h (λ_ h=>?_) λ_ h=>?_
  ·cbv;refine E6 Y eBE6 h λs h=>?_;cbv;refine G0 Y Q λw H Q=>?_;cbv;refine C5 Y Q 0 rfl rfl λH Q=>?_;cbv;refine K2 Y ?_;cbv;refine Ur Y h λh=>?_;cbv;refine E6 Y eBF1 h λu h=>?_;cbv;refine C3 Y Q 0 rfl ?_;cbv;refine E3 Y (g:=λb=>sr eBE4 b) h (c51 N n u s) (.refl _) λb h=>?_;cbv;refine Ih (f:=eBE4) Y Y8 za5 Q t 1 rfl (m:=b) (FW (f:=eBE4) Y Y8 (.refl _)) h λA p H i Q h=>?_;cbv;cases h;exact⟨_,p,rfl,.e rfl (.e4 .z),rfl,i,Q.tail⟩
  cbv;cases h;exact⟨_,_,rfl,⟨I,t,rfl,rfl,Q⟩,.e rfl .z,rfl⟩
 ·exact .e rfl (.e4 .z)
 ·exact⟨j,Q⟩
 clear X;rintro e l H ⟨q,k,rfl,rfl,Q⟩;cbv;cases h;exact J q _ _ (Bx Y k) (Q)
def cf13:Cf:=⟨[4],[(9,11)],[],[],[(42,7)],[]⟩
def c13 (N S k r) (h:Aq N S k=some r):B8 prog 13 [(D0 S),(G8 k)] (.tup [(BX r.1),vi r.2]):=by
 unfold Aq at h
 refine R4 cf13 func13 call13 ntmps13 ?_;intro E D K Y J Q;cbv;refine G0 Y Q λg H Q=>?_;cbv;refine B3 Y h (c45 N S k) (.refl _) λv h=>?_;cbv;refine C2 Y h (λ_ h=>?_) λ_ h=>?_
 ·cbv;refine C5 Y Q 0 rfl rfl λH Q=>?_;cbv;refine C3 Y Q 0 rfl ?_;cbv;cases h;exact J Q (.tup (.cons (.agg (.cons (.lit _ (F3)) (.refl _))) (.refl _)))
 cbv;refine Pn Y (f:=eBE4) h (o51 N N S k) (.refl _) Q λV b H a Q h=>?_;cbv;refine Gt Y Q a 0 rfl h (λi X=>c52 N V (.func (.func 53) [] []) (λt P=>Al N t P) (λt P r X=>B8.value (F:=[]) (C:=[]) (c53 N t P r X)) i X) (.refl _) λi H a Q h=>?_;cbv;obtain⟨d,X,h⟩:=bind_some h;refine I8 cf13 Y N0 (λn=>[(4,.v (.ref g 0)),(7,.v (.own b.id b.lo b.n)),fi 8 n]) (λn G=>B9 Eq D [ob b 4 eBE4 i,cb g [.sl [] .nil]] G) (λx e l G=>match(generalizing:=false) x with| .inl y=>e= .exit 0/\l=[(4,.v (.ref g 0)),(7,.v (.own b.id b.lo b.n))]/\B9 Eq D [ob b 4 eBE4 i,cb g [.sl [] .nil]] G| .inr y=>e= .ret/\l=[(4,.v (.ref g 0)),fi 5 7]/\B9 Eq D [ob b 4 eBE4 i,cb g [.sl [] .nil]] G) za3 ?_ X ?_ Q ?_
 ·intro n H o Q h;clear X;cbv;refine MJ Y a ?_;cbv;refine C2 Y h (λ_ h=>?_) λ_ h=>?_
  ·cbv;refine R0 Y Q a 0 rfl h λh=>?_;cbv;refine U1 Y eBE9 Q a 0 rfl h λp h=>?_;cbv;refine R0 Y Q a 0 rfl h λh=>?_;cbv;refine U1 Y eBE9 Q a 0 rfl h λq h=>?_;cbv;refine C2 Y h (λ_ h=>?_) λ_ h=>?_
   ·cbv;refine C5 Y Q 1 rfl rfl λH Q=>?_;cbv;cases h;exact⟨_,_,rfl,⟨rfl,rfl,Q⟩,.e2 .z,rfl⟩
   cbv;cases h;exact⟨_,rfl,.e rfl (.e2 .z),rfl,Q⟩
  cbv;cases h;exact⟨_,_,rfl,⟨rfl,rfl,Q⟩,.e2 .z,rfl⟩
 ·exact .e rfl (.e2 .z)
 clear X
 rcases d with j|m
 ·rintro e l H ⟨rfl,rfl,Q⟩;cbv;refine Zc Y Q a 0 rfl λH Q=>?_;cbv;refine B3 Y h (c55 N (⟨i⟩:D6)) (.refl _) λc h=>?_;cbv;refine C2 Y h (λ_ h=>?_) λ_ h=>?_
  ·cbv;refine C5 Y Q 0 rfl rfl λH Q=>?_;cbv;refine C3 Y Q 0 rfl ?_;cbv;cases h;exact J Q (.tup (.cons (.agg (.cons (.lit _ (F3)) (.refl _))) (.refl _)))
  cbv;refine C5 Y Q 0 rfl rfl λH Q=>?_;cbv;refine C3 Y Q 0 rfl ?_;cbv;cases h;exact J Q (.refl _)
 rintro e l H ⟨rfl,rfl,Q⟩;cbv;refine C3 Y Q 1 rfl ?_;cbv;cases h;exact J Q (.tup (.cons (.agg (.cons (.lit _ (F3)) (.refl _))) (.refl _)))
@[reducible, instance] def zc13 (N aA aL):=Ct.mk (f:=13) (c13 N aA aL)
def cf32:Cf:=⟨[4],[],[],[],[],[]⟩
def c32 (N a b r)(h:Kj N a b=some r):B8 prog 32 [vi a,vi b] ((G8 r)):=by
 unfold Kj at h
 refine R4 cf32 func32 call32 ntmps32 ?_;intro E D K Y J Q;cbv;refine G0 Y Q λe H Q=>?_;cbv;refine C5 Y Q 0 rfl rfl λH Q=>?_;cbv;refine C3 Y Q 0 rfl ?_;cbv;cases h;exact J Q (.agg (.cons (.refl _) (.cons (.refl _) (.cons (.refl _) (.cons (.refl _) (.cons (.lit _ (F3)) (.refl _)))))))
@[reducible, instance] def zc32 (N cL cN):=Ct.mk (f:=32) (c32 N cL cN)
def cf73:Cf:=⟨[0],[],[],[],[],[]⟩
def c73 (N r)(h:Pt N=some r):B8 prog 73 [] ((Cr r)):=by
 unfold Pt at h
 refine R4 cf73 func73 call73 ntmps73 ?_;intro E D K Y J Q;cbv;refine G0 Y Q λa H Q=>?_;cbv;refine C5 Y Q 0 rfl rfl λH Q=>?_;cbv;refine C3 Y Q 0 rfl ?_;cbv;cases h;exact J Q (.agg (.cons (.refl _) (.cons (.lit _ (F3)) (.refl _))))
@[reducible, instance] def zc73 (N):=Ct.mk (f:=73) (c73 N)
def cf33:Cf:=⟨[2],[],[],[],[],[]⟩
def c33 (N a r)(h:Au N a=some r):B8 prog 33 [vi a] ((D0 r)):=by
 unfold Au at h
 refine R4 cf33 func33 call33 ntmps33 ?_;intro E D K Y J Q;cbv;refine G0 Y Q λe H Q=>?_;cbv;refine B3 Y h (c73 N) (.refl _) λv h=>?_;cbv;refine B3 Y h (c73 N) (.refl _) λb h=>?_;cbv;refine C5 Y Q 0 rfl rfl λH Q=>?_;cbv;refine C3 Y Q 0 rfl ?_;cbv;cases h;exact J Q (.agg (.cons (.refl _) (.cons (.sl _ (.lstc (.eq (eBF1 (⟨0,[],0,0,0,0,v⟩:A0)) (.agg (.cons (.refl _) (.cons (.lit _ (F3)) (.refl _))))) (.lstc (.eq (eBF1 (⟨4,[(⟨0,[],a,1,0,0,b⟩:A0)],0,0,0,0,(⟨0,[],0,0,0,(⟨0,0,⟨#[]⟩⟩:B5)⟩:B6)⟩:A0)) (.agg (.cons (.refl _) (.cons (.sl _ (.lstc (.eq (eBF1 (⟨0,[],a,1,0,0,b⟩:A0)) (.agg (.cons (.refl _) (.cons (.lit _ (F3)) (.refl _))))) (.lst0))) (.cons (.refl _) (.cons (.refl _) (.cons (.refl _) (.cons (.refl _) (.cons (.refl _) (.cons (.lit _ (F3)) (.refl _))))))))))) (.lst0)))) (.cons (.refl _) (.cons (.refl _) (.cons (.refl _) (.cons (.refl _) (.cons (.refl _) (.cons (.lit _ (F3)) (.refl _))))))))))
@[reducible, instance] def zc33 (N aS):=Ct.mk (f:=33) (c33 N aS)
def cf34:Cf:=⟨[6000011],[(3000003,0),(3000003,1),(3000003,2),(3000003,4),(3000003,5),(3000003,7)],[],[2000003],[],[]⟩
def c34 (N a b r)(h:CR N a b=some r):B8 prog 34 [vi a,vi b] (sr eBE3 r):=by
 unfold CR at h
 refine Dx (T:=TT) cf34 N0 func34 za9 za3 call34 ntmps34 za9 za9 ?_;intro E H0 K Y J g;have Q:B9 Eq H0 [] H0:=.start H8 rfl;cbv;refine AW6 Y (f:=eBE3) (l:=([(⟨0,0,0,1,[]⟩:A9),(⟨0,1,1,a,[]⟩:A9),(⟨0,2,1,b,[]⟩:A9)]:Up A9)) (.lstc (.eq (eBF2 (⟨0,0,0,1,[]⟩:A9)) (.agg (.cons (.refl _) (.cons (.refl _) (.cons (.refl _) (.cons (.refl _) (.cons (.lit _ (F3)) (.refl _)))))))) (.lstc (.eq (eBF2 (⟨0,1,1,a,[]⟩:A9)) (.agg (.cons (.refl _) (.cons (.refl _) (.cons (.refl _) (.cons (.refl _) (.cons (.lit _ (F3)) (.refl _)))))))) (.lstc (.eq (eBF2 (⟨0,2,1,b,[]⟩:A9)) (.agg (.cons (.refl _) (.cons (.refl _) (.cons (.refl _) (.cons (.refl _) (.cons (.lit _ (F3)) (.refl _)))))))) (.lst0)))) Q λi H e Q=>?_;cbv;refine C2 Y h (λ_ h=>?_) λ_ h=>?_
 ·cbv;cases h
 cbv;cases h;exact g i _ _ 0 _ _ Q rfl (Bx Y e) (.refl _)
@[reducible, instance] def zc34 (N aU bV):=Ct.mk (f:=34) (c34 N aU bV)
def c146 (N p a r)(h:Hp N p a=some r):B8 prog 146 [vi p,vi a] (vi r):=by
 unfold Hp at h
 refine R4 cf0 func146 call146 ntmps146 ?_;intro E D K Y J Q;cbv;refine C2 Y h (λ_ h=>?_) λ_ h=>?_
 ·cbv;cases h;exact J Q (.refl _)
 cbv;refine C2 Y h (λ_ h=>?_) λ_ h=>?_
 ·cbv;cases h;exact J Q (.refl _)
 cbv;cases h;exact J Q (.refl _)
@[reducible, instance] def zc146 (N aB aC):=Ct.mk (f:=146) (c146 N aB aC)
def c106 (N p a r)(h:Hq N p a=some r):B8 prog 106 [(Gg p),(Gg a)] (vi r):=by
 unfold Hq at h
 refine R4 cf0 func106 call106 ntmps106 ?_;intro E D K Y J Q;cbv;refine C2 Y h (λ_ h=>?_) λ_ h=>?_
 ·cbv;refine B3 Y h (c146 N p.Time a.Time) (.refl _) λb h=>?_;cbv;cases h;exact J Q (.refl _)
 cbv;refine C2 Y h (λ_ h=>?_) λ_ h=>?_
 ·cbv;refine B3 Y h (c146 N p.Source a.Source) (.refl _) λv h=>?_;cbv;cases h;exact J Q (.refl _)
 cbv;refine B3 Y h (c146 N p.Seq a.Seq) (.refl _) λe h=>?_;cbv;cases h;exact J Q (.refl _)
@[reducible, instance] def zc106 (N aB aC):=Ct.mk (f:=106) (c106 N aB aC)
def cf74:Cf:=⟨[],[(11,10)],[],[],[],[]⟩
def c74 (N:Nat):∀n p a r,It N n p a=some r->B8 prog 74 [(G8 p),(G8 a)] (vi r):=by
 intro n
 induction n with
 |zero=>intro p a r h;cases h
 |succ n ih=>
 intro p a r h
 unfold It at h
 refine R4 cf74 func74 call74 ntmps74 ?_;intro E D K Y J Q;cbv;refine B3 Y h (c106 N p.Ref a.Ref) (.refl _) λi h=>?_;cbv;refine C2 Y h (λ_ h=>?_) λ_ h=>?_
 ·cbv;cases h;exact J Q (.refl _)
 cbv;refine C2 Y h (λ_ h=>?_) λ_ h=>?_
 ·cbv;refine C2 Y h (λ_ h=>?_) λ_ h=>?_
  ·cbv;cases h;exact J Q (.refl _)
  cbv;cases h;exact J Q (.refl _)
 cbv;obtain⟨b,X,h⟩:=bind_some h;refine I8 cf74 Y N0 (λd=>[(2,.v (.eref (Bq p) 0)),(3,.v (.eref (Bq a) 0)),fi 6 d]) (λd G=>B9 Eq D [] G) (λx e l G=>match(generalizing:=false) x with| .inl y=>e= .exit 0/\l=[(2,.v (.eref (Bq p) 0)),(3,.v (.eref (Bq a) 0))]/\B9 Eq D [] G| .inr y=>e= .ret/\l=[fi 4 y]/\B9 Eq D [] G) za3 ?_ X ?_ Q ?_
 ·intro d H o Q h;clear X;cbv;refine K2 Y ?_;cbv;refine K2 Y ?_;cbv;refine C2 Y h (λ_ h=>?_) λ_ h=>?_
  ·cbv;refine E6 Y eBE6 h λg h=>?_;cbv;refine E6 Y eBE6 h λx5 h=>?_;cbv;refine B3 Y h (ih g x5) (.refl _) λk h=>?_;cbv;refine C2 Y h (λ_ h=>?_) λ_ h=>?_
   ·cbv;cases h;exact⟨_,_,rfl,⟨rfl,rfl,Q⟩,.e rfl .z,rfl⟩
   cbv;cases h;exact⟨_,rfl,.e rfl (.e2 .z),rfl,Q⟩
  cbv;cases h;exact⟨_,_,rfl,⟨rfl,rfl,Q⟩,.e2 .z,rfl⟩
 ·exact .e rfl (.e2 .z)
 clear X
 rcases b with t|P
 ·rintro e l H ⟨rfl,rfl,Q⟩;cbv;refine K2 Y ?_;cbv;refine K2 Y ?_;cbv;refine C2 Y h (λ_ h=>?_) λ_ h=>?_
  ·cbv;cases h;exact J Q (.refl _)
  cbv;refine K2 Y ?_;cbv;refine K2 Y ?_;cbv;refine C2 Y h (λ_ h=>?_) λ_ h=>?_
  ·cbv;cases h;exact J Q (.refl _)
  cbv;cases h;exact J Q (.refl _)
 rintro e l H ⟨rfl,rfl,Q⟩;cbv;cases h;exact J Q (.refl _)
@[reducible, instance] def zc74 (N n aB aC):=Ct.mk (f:=74) (c74 N n aB aC)
def cf35:Cf:=⟨[],[(6,8)],[],[],[],[]⟩
def c35 (N p a r) (h:Qm N p a=some r):B8 prog 35 [sr eBE5 p,sr eBE5 a] (.bool r):=by
 unfold Qm at h
 refine R4 cf35 func35 call35 ntmps35 ?_;intro E D K Y J Q;cbv;refine K2 Y ?_;cbv;refine K2 Y ?_;cbv;refine C2 Y h (λ_ h=>?_) λ_ h=>?_
 ·cbv;cases h;exact J Q (.refl _)
 cbv;obtain⟨d,X,h⟩:=bind_some h;refine I8 cf35 Y N0 (λI=>[(0,.v (sr eBE5 p)),(1,.v (sr eBE5 a)),fi 5 I]) (λI G=>B9 Eq D [] G) (λx e l G=>match(generalizing:=false) x with| .inl y=>e= .exit 0/\l=[]/\B9 Eq D [] G| .inr y=>e= .ret/\l=[(4,.b false)]/\B9 Eq D [] G) za3 ?_ X ?_ Q ?_
 ·intro I H o Q h;clear X;cbv;refine K2 Y ?_;cbv;refine C2 Y h (λ_ h=>?_) λ_ h=>?_
  ·cbv;refine E6 Y eBE6 h λb h=>?_;cbv;refine E6 Y eBE6 h λg h=>?_;cbv;refine B3 Y h (c74 N N b g) (.refl _) λi h=>?_;cbv;refine C2 Y h (λ_ h=>?_) λ_ h=>?_
   ·cbv;cases h;exact⟨_,_,rfl,⟨rfl,rfl,Q⟩,.b rfl (.z),rfl⟩
   cbv;cases h;exact⟨_,rfl,.e rfl (.e2 .z),rfl,Q⟩
  cbv;cases h;exact⟨_,_,rfl,⟨rfl,rfl,Q⟩,.z,rfl⟩
 ·exact .e rfl (.e2 .z)
 clear X
 rcases d with k|n
 ·rintro e l H ⟨rfl,rfl,Q⟩;cbv;cases h;exact J Q (.refl _)
 rintro e l H ⟨rfl,rfl,Q⟩;cbv;cases h;exact J Q (.refl _)
@[reducible, instance] def zc35 (N aB aC):=Ct.mk (f:=35) (c35 N aB aC)
def cf36:Cf:=⟨[2],[],[],[],[],[]⟩
def c36 (N a r)(h:Bh N a=some r):B8 prog 36 [sr eBE5 a] ((G8 r)):=by
 unfold Bh at h
 refine R4 cf36 func36 call36 ntmps36 ?_;intro E D K Y J Q;cbv;refine G0 Y Q λb H Q=>?_;cbv;refine B3 Y h (c32 N 1 0) (.refl _) λv h=>?_;cbv;refine C5 Y Q 0 rfl rfl λH Q=>?_;cbv;refine C3 Y Q 0 rfl ?_;cbv;cases h;exact J Q (.agg (.cons (.refl _) (.cons (.refl _) (.cons (.refl _) (.cons (.refl _) (.cons (.lit _ (I6 ((eBE6 v).symm) (I6 ((eBE6 (⟨(⟨0,0,0⟩:Bb),0,a⟩:A5)).symm) (F3)))) (.refl _)))))))
@[reducible, instance] def zc36 (N aI):=Ct.mk (f:=36) (c36 N aI)
def c242 (N a r)(h:IX N a=some r):Be5 prog 242 a r:=Ax4 Go.Proofs.Tryz.laysNm189 call242 h
def c243 (N a r)(h:Hb N a=some r):QM prog 243 [] 1 (lst (V.int .i64) a) (lst (V.int .i64) r):=Wx Go.Proofs.Tryz.laysNm220 call243 h
def cf216:Cf:=⟨[3,5000003],[],[],[],[],[]⟩
def c216 (N S r) (h:LU N S=some r):B8 prog 216 [(D0 S)] (sr (V.int .i64) r):=by
 unfold LU at h
 refine Dx (T:=TT) cf216 N0 func216 za9 za3 call216 ntmps216 za9 za9 ?_;intro E H0 K Y J z;have Q:B9 Eq H0 [] H0:=.start H8 rfl;cbv;refine Ah6 Y (f0:=(V.int .i64)) Q λI c H p Q=>?_;cbv;refine Ht Y h (c109 N S) (.refl _) λL M q h=>?_;cbv;obtain⟨G,X,h⟩:=bind_some h;refine Pl cf216 Y N0 (ι:=Unit) (enc:=λ(x:A0)=>[(D0 x)]) (λ(l:(Up Int)) F H=>∃g:OG,(An g (Ar.len l))/\B9 Eq F [cb c [.own g.id g.lo g.n],ob g 1 (V.int .i64) l] H) (λ(r:Unit) e F H=>False) (λi l P=>[(3,.v (.ref c 0)),(4,.v (.eref (D5 P) 0))]) (λi l P F H=>∃g:OG,(An g (Ar.len l))/\B9 Eq F [cb c [.own g.id g.lo g.n],ob g 1 (V.int .i64) l] H) (λ_=>G9.ex λ_=>B9.stable H8 _) (λ_ _=>⟨λh=>h.elim,λ_ _ h=>h.elim⟩) (λ_ _ _=>G9.ex λ_=>B9.stable H8 _) q X (⟨I,p,Q⟩) za5 (λ_=>rfl) za3 za3 ?_ ?_ ?_ ?_
 ·rintro E B P l A H Y ⟨w,b,Q⟩;clear X h;cbv;exact⟨(),⟨w,b,Q⟩,.e2 .z,rfl⟩
 ·rintro E B _ P l A H o Y z h ⟨w,b,Q⟩;clear X;cbv;refine C2 Y h (λ_ h=>?_) λ_ h=>?_
  ·cbv;refine C3 Y Q 0 rfl ?_;cbv;refine Ih (f:=(V.int .i64)) Y (λ_=>rfl) za5 Q b 1 rfl (m:=[P.Var]) (FW (f:=(V.int .i64)) Y (λ_=>rfl) (.lstc (.refl _) (.lst0))) h λC u H n Q h=>?_;cbv;refine C5 Y Q 0 rfl rfl λH Q=>?_;cbv;cases h;exact⟨_,rfl,⟨u,n,Q⟩⟩
  cbv;cases h;exact⟨_,rfl,⟨w,b,Q⟩⟩
 ·rintro j y H rfl hd ⟨k,a,Q⟩;have Q:B9 Eq H0 [cb c [.own k.id k.lo k.n],ob k 1 (V.int .i64) y,.blk j DB] H:=B9.dblk hd Q;clear hd;clear X;cbv;refine C3 Y Q 0 rfl ?_;cbv;refine Bj5 Y Q a 1 rfl h (c242 N y) λs H a Q h=>?_;cbv;refine C3 Y Q 0 rfl ?_;cbv;refine Ke Y (f:=(V.int .i64)) Q a 1 rfl h (c243 N s) (.refl _) λD v H t Q h=>?_;cbv;refine Je Y Q 2 rfl λH Q=>?_;cbv;cases h;exact z v _ _ 1 _ _ Q rfl (Bx Y t) (.refl _)
 rintro d r e H rfl hd Q;exact Q.elim
@[reducible, instance] def zc216 (N aA):=Ct.mk (f:=216) (c216 N aA)
def c244 (N a b r) (h:Ew N a b=some r):B8 prog 244 [sr (V.int .i64) a,vi b] (vi r):=by
 unfold Ew at h
 refine R4 cf0 func244 call244 ntmps244 ?_;intro E D K Y J Q;cbv;refine K2 Y ?_;cbv;obtain⟨d,X,h⟩:=bind_some h;refine I8 cf0 Y N0 (λI=>[(0,.v (sr (V.int .i64) a)),fi 1 b,fi 7 (Ar.len a),fi 8 I]) (λI G=>B9 Eq D [] G) (λx e l G=>match(generalizing:=false) x with| .inl y=>e= .exit 0/\l=[]/\B9 Eq D [] G| .inr y=>e= .ret/\l=[fi 4 y]/\B9 Eq D [] G) za3 ?_ X ?_ Q ?_
 ·intro I H o Q h;clear X;cbv;refine C2 Y h (λ_ h=>?_) λ_ h=>?_
  ·cbv;refine E6 Y (λ_=>rfl) h λg h=>?_;cbv;refine C2 Y h (λ_ h=>?_) λ_ h=>?_
   ·cbv;cases h;exact⟨_,_,rfl,⟨rfl,rfl,Q⟩,.e rfl .z,rfl⟩
   cbv;cases h;exact⟨_,rfl,.e4 .z,rfl,Q⟩
  cbv;cases h;exact⟨_,_,rfl,⟨rfl,rfl,Q⟩,.z,rfl⟩
 ·exact .e4 .z
 clear X
 rcases d with i|k
 ·rintro e l H ⟨rfl,rfl,Q⟩;cbv;cases h;exact J Q (.refl _)
 rintro e l H ⟨rfl,rfl,Q⟩;cbv;cases h;exact J Q (.refl _)
@[reducible, instance] def zc244 (N aD aN):=Ct.mk (f:=244) (c244 N aD aN)
def c217 (N a b r)(h:De N a b=some r):B8 prog 217 [sr (V.int .i64) a,vi b] (.bool r):=by
 unfold De at h
 refine R4 cf0 func217 call217 ntmps217 ?_;intro E D K Y J Q;cbv;refine B3 Y h (c244 N a b) (.refl _) λe h=>?_;cbv;cases h;exact J Q (.refl _)
@[reducible, instance] def zc217 (N aD aN):=Ct.mk (f:=217) (c217 N aD aN)
def c178 (N S b r) (h:HE N S b=some r):B8 prog 178 [(D0 S),sr eBE2 b] (sr eBE2 r):=by
 unfold HE at h
 refine R4 cf0 func178 call178 ntmps178 ?_;intro E D K Y J Q;cbv;refine B3 Y h (c216 N S) (.refl _) λn h=>?_;cbv;refine K2 Y ?_;cbv;replace Q:=Q.tl0 (t:=.nil) rfl;obtain⟨q,X,h⟩:=bind_some h;refine S6 cf0 Y N0 (γ:=J8) (λd g=>[(5,.v (sr (V.int .i64) n)),(6,.v (.sl (lst eBE2 d.1) g)),(11,.v (sr eBE2 b)),fi 12 (Ar.len b),fi 13 d.2]) (λd g G=>Ed g/\B9 Eq D [.tl g] G) (λx e l G=>∃k:J8,Ed k/\e= .exit 0/\l=[(6,.v (.sl (lst eBE2 x) k))]/\B9 Eq D [.tl k] G) za3 ?_ .nil X ?_ ?_ ?_
 ·rintro d y H o ⟨a,Q⟩ h;clear X;cbv;refine C2 Y h (λ_ h=>?_) λ_ h=>?_
  ·cbv;refine E6 Y eBF5 h λx5 h=>?_;cbv;refine B3 Y h (c217 N n x5.v) (.refl _) λp h=>?_;cbv;refine C2 Y h (λ_ h=>?_) λ_ h=>?_
   ·cbv;refine GD (f:=eBE2) Y U7 za5 Q 0 rfl a (l:=d.1) (m:=[x5]) (.refl _) (.lstc (.eq (eBF5 x5) (.refl _)) (.lst0)) h λj c H Q i h=>?_;cbv;cases h;exact⟨_,c,rfl,.e rfl (.e4 .z),rfl,i,Q⟩
   cbv;cases h;exact⟨_,y,rfl,.e rfl (.e4 .z),rfl,a,Q⟩
  cbv;cases h;exact⟨_,_,rfl,⟨y,a,rfl,rfl,Q⟩,.e rfl .z,rfl⟩
 ·exact .e rfl (.v (.slt _ (.lst0)) (.e rfl (.e rfl (.e rfl (.z)))))
 ·exact⟨trivial,Q⟩
 clear X;rintro e l H ⟨s,P,rfl,rfl,Q⟩;cbv;cases h;exact J Q (.ro _ _)
@[reducible, instance] def zc178 (N aA aD):=Ct.mk (f:=178) (c178 N aA aD)
def cf75:Cf:=⟨[10],[(1,17),(2,11),(6,6)],[],[],[],[]⟩
def K75 (N n:Nat):Prop:=∀(a:L9) (h:Up (D1×B2)) (S:A0) (g:Int) (b:Up A7) (e:Up A7) (r:(B2×Up (D1×B2))),M1 N n a h S g b e=some r->OT prog 75 (λid=>[.eref [sr eBE3 a.prover.dH,vi a.prover.count,.map id] 0,(D0 S),vi g,sr eBE2 b,sr eBE2 e]) eBF6 eBF7 h ((L4 r.1)) r.2
def cf107:Cf:=⟨[10,10000010],[(3,22),(4,14),(14,10)],[(81,12)],[0],[],[]⟩
def By7 (N n:Nat):Prop:=∀(a:L9) (h:Up (D1×B2)) (S:A0) (g:Int) (b:Up A7) (e:Up A7) (r:(B2×Up (D1×B2))),BB N n a h S g b e=some r->OT prog 107 (λid=>[.eref [sr eBE3 a.prover.dH,vi a.prover.count,.map id] 0,(D0 S),vi g,sr eBE2 b,sr eBE2 e]) eBF6 eBF7 h ((L4 r.1)) r.2
def cf147:Cf:=⟨[],[(15,7),(3000012,0),(3000012,1),(3000012,2),(3000012,4),(3000012,5),(3000012,6),(3000012,7),(3000012,8),(3000012,9),(3000012,11),(3000012,12),(3000012,13),(3000014,0),(3000014,1),(3000014,2),(3000014,3),(3000014,4),(3000014,5),(3000014,7),(3000014,8),(3000014,10)],[],[2000012,2000014],[],[]⟩
def By6 (N n:Nat):Prop:=∀(a:L9) (h:Up (D1×B2)) (S:A0) (g:Int) (b:Up A7) (e:Up A7) (r:(((Up A5)×Bool)×Up (D1×B2))),Z1 N n a h S g b e=some r->OT prog 147 (λid=>[.eref [sr eBE3 a.prover.dH,vi a.prover.count,.map id] 0,(D0 S),vi g,sr eBE2 b,sr eBE2 e]) eBF6 eBF7 h (.tup [sr eBE5 r.1.1,.bool r.1.2]) r.2
def cf148:Cf:=⟨[10,12,10000010],[],[],[],[],[]⟩
def By5 (N n:Nat):Prop:=∀(a:L9) (h:Up (D1×B2)) (S:A0) (g:Int) (b:Up A7) (e:Up A7) (r:(B2×Up (D1×B2))),CB N n a h S g b e=some r->OT prog 148 (λid=>[.eref [sr eBE3 a.prover.dH,vi a.prover.count,.map id] 0,(D0 S),vi g,sr eBE2 b,sr eBE2 e]) eBF6 eBF7 h ((L4 r.1)) r.2
def cf149:Cf:=⟨[10],[],[(61,15)],[],[],[]⟩
def By4 (N n:Nat):Prop:=∀(a:L9) (h:Up (D1×B2)) (S:A0) (g:Int) (b:Up A7) (e:Up A7) (r:(B2×Up (D1×B2))),Bo N n a h S g b e=some r->OT prog 149 (λid=>[.eref [sr eBE3 a.prover.dH,vi a.prover.count,.map id] 0,(D0 S),vi g,sr eBE2 b,sr eBE2 e]) eBF6 eBF7 h ((L4 r.1)) r.2
def k75 (N n:Nat)(a:By7 N n):K75 N (n+1):=by
 intro V c S i P e r h
 unfold M1 at h
 refine Kt (T:=TT) cf75 N0 func75 za9 za3 call75 ntmps75 za9 (λ_=>rfl) ?_;intro E D d m K Y b Q J;cbv;refine G0 Y Q λf H Q=>?_;cbv;refine E6 Y eBF5 h λx h=>?_;cbv;refine K2 Y ?_;cbv;refine E6 Y eBF5 h λy h=>?_;cbv;refine K2 Y ?_;cbv;refine At5 (eBH6 (⟨i,x.at_,y.at_,Ar.len e⟩:D1)) ?_;refine Bj1 Y (z:=.agg [vi 0,vi 0,vi 0,vi 0,.sl [] .nil,.bool false]) eBH5 (kt:=160) (et:=120) za3 za3 Br0 ((⟨(⟨(⟨0,0,0⟩:Bb),0,[]⟩:A5),false⟩:B2):B2) za3 (by rw[eBH5];exact .agg (.cons (.refl _) (.cons (.refl _) (.cons (.refl _) (.cons (.refl _) (.cons (.lit _ (F3)) (.refl _))))))) Q b 1 rfl h λq h=>?_;cbv;refine C2 Y h (λ_ h=>?_) λ_ h=>?_
 ·cbv;cases h
 cbv;refine Hs (g:=λt=>(L4 t)) Y Q b 1 rfl h (a V c S i P e) (.refl _) λt o H k Q h=>?_;cbv;refine Ze (eBH6 (⟨i,x.at_,y.at_,Ar.len e⟩:D1)) ?_;refine Bu2 Y (eBH5 _).symm (kt:=160) (et:=120) za3 za3 Br0 Q k 1 rfl h λj p H l h Q=>?_;cbv;refine C5 Y Q 0 rfl rfl λH Q=>?_;cbv;refine C3 Y Q 0 rfl ?_;cbv;cases h;exact J _ _ _ 1 _ l rfl Q (.refl _)
def k107 (N n:Nat) (L:K75 N n) (t:By6 N n) (w:By5 N n) (x:By4 N n):By7 N (n+1):=by
 intro P I S v u q r h
 unfold BB at h
 refine Kt (T:=TT) cf107 N0 func107 za9 za3 call107 ntmps107 za9 (λ_=>rfl) ?_;intro E D b m K Y a Q J;cbv;refine G0 Y Q λs H Q=>?_;cbv;refine Bq6 Y (ds:=[vi 0,vi 0,vi 0,vi 0,sr eBE5 ([]),.bool false]) Q 0 rfl (.cons (.refl _) (.cons (.refl _) (.cons (.refl _) (.cons (.refl _) (.cons (.lit _ (F3)) (.refl _)))))) λH Q=>?_;cbv;obtain⟨M,X,h⟩:=bind_some h;refine Q5 cf107 Y N0 (λe l G=>∃B:(Up HO×Up V),TY eBF6 eBF7 B M.2/\e= .ret/\l=[(10,.v (.ref s 0))]/\B9 Eq (upd D b none) [cb s (Y5 M.1),.blk b (.vm B.1 B.2)] G) za3 ?_ ?_
 ·clear h;have h:=X;clear X;cbv;refine C2 Y h (λ_ h=>?_) λ_ h=>?_
  ·cbv;refine K2 Y ?_;cbv;refine C2 Y h (λ_ h=>?_) λ_ h=>?_
   ·cbv;refine E6 Y eBF5 h λx3 h=>?_;cbv;refine C2 Y h (λ_ h=>?_) λ_ h=>?_
    ·cbv;refine E6 Y eBF5 h λZ h=>?_;cbv;refine B3 Y h (c91 N P.prover S q Z.at_) (.cons (.sub (d:=0) (sz:=2) (GY rfl)) (.refl _)) λR h=>?_;cbv;refine E6 Y eBF5 h λx6 h=>?_;cbv;refine E6 Y eBF2 h λx7 h=>?_;cbv;refine E3 Y (g:=λp=>(Gg p)) h (c87 N x7) (.refl _) λp h=>?_;cbv;refine Ow Y (vs':=[vi p.Time,vi p.Source,vi p.Seq,vi 0,sr eBE5 ([]),.bool R]) Q 0 rfl rfl (.cons (.refl _) (.cons (.refl _) (.cons (.refl _) (.cons (.refl _) (.cons (.lit _ (F3)) (.refl _)))))) λH Q=>?_;cbv;cases h;exact⟨_,⟨m,a,rfl,rfl,Q⟩,.e rfl .z,rfl⟩
    cbv;refine E6 Y eBF5 h λx9 h=>?_;cbv;refine E6 Y eBF2 h λC h=>?_;cbv;refine E3 Y (g:=λi=>(Gg i)) h (c87 N C) (.refl _) λi h=>?_;cbv;refine Ow Y (vs':=[vi i.Time,vi i.Source,vi i.Seq,vi 0,sr eBE5 ([]),.bool false]) Q 0 rfl rfl (.cons (.refl _) (.cons (.refl _) (.cons (.refl _) (.cons (.refl _) (.cons (.lit _ (F3)) (.refl _)))))) λH Q=>?_;cbv;cases h;exact⟨_,⟨m,a,rfl,rfl,Q⟩,.e rfl .z,rfl⟩
   cbv;refine E6 Y eBF5 h λW h=>?_;cbv;refine E6 Y eBF2 h λF h=>?_;cbv;refine E3 Y (g:=λk=>(Gg k)) h (c87 N F) (.refl _) λk h=>?_;cbv;refine Ow Y (vs':=[vi k.Time,vi k.Source,vi k.Seq,vi 0,sr eBE5 ([]),.bool false]) Q 0 rfl rfl (.cons (.refl _) (.cons (.refl _) (.cons (.refl _) (.cons (.refl _) (.cons (.lit _ (F3)) (.refl _)))))) λH Q=>?_;cbv;cases h;exact⟨_,⟨m,a,rfl,rfl,Q⟩,.e rfl .z,rfl⟩
  cbv;refine C2 Y h (λ_ h=>?_) λ_ h=>?_
  ·cbv;refine Hs (g:=λy=>.tup [sr eBE5 y.1,.bool y.2]) Y Q a 1 rfl h (t P I S v u q) (.refl _) λy z H c Q h=>?_;cbv;refine C5 Y Q 0 rfl rfl λH Q=>?_;cbv;cases h;exact⟨_,⟨z,c,rfl,rfl,Q⟩,.e rfl .z,rfl⟩
  cbv;refine C2 Y h (λ_ h=>?_) λ_ h=>?_
  ·cbv;cases h
  cbv;obtain⟨U,X,h⟩:=bind_some h;refine Q5 cf107 Y N0 (λe l G=>e= .normal/\l=[(0,.v (.eref [sr eBE3 P.prover.dH,vi P.prover.count,.map b] 0)),fi 2 v,(3,.v (sr eBE2 u)),(4,.v (sr eBE2 q)),(6,.v (.eref (D5 S) 0)),(10,.v (.ref s 0)),(81,.b true)]/\B9 Eq (upd D b none) [cb s [vi 0,vi 0,vi 0,vi 0,sr eBE5 ([]),.bool false],.blk b (.vm m.1 m.2)] G) za3 ?_ ?_
  ·clear h;have h:=X;clear X;cbv;refine C2 Y h (λ_ h=>?_) λ_ h=>?_
   ·cbv;cases h;exact⟨_,⟨rfl,rfl,Q⟩,.e2 (.e4 (.b rfl (.z))),rfl⟩
   cbv;cases h
  clear X;rintro e l H ⟨rfl,rfl,Q⟩;cbv;refine Hs (g:=λo=>(L4 o)) Y Q a 1 rfl h (x P I S v u q) (.refl _) λo A H f Q h=>?_;cbv;refine C5 Y Q 0 rfl rfl λH Q=>?_;cbv;cases h;exact⟨_,⟨A,f,rfl,rfl,Q⟩,.e rfl .z,rfl⟩
 clear X;rintro e l H ⟨O,j,rfl,rfl,Q⟩;cbv;refine C3 Y Q 0 rfl ?_;cbv;cases h;exact J _ _ _ 1 _ j rfl Q (.refl _)
set_option maxHeartbeats 2000000 in
def k147 (N n:Nat) (ao:K75 N n):By6 N (n+1):=by
 intro I bA S aY aD aH r h
 unfold Z1 at h
 refine Kt (T:=TT) cf147 N0 func147 za9 za3 call147 ntmps147 za9 (λ_=>rfl) ?_;intro E D b o0 K Y bf Q J;cbv;refine K2 Y ?_;cbv;refine Ah4 Y (f:=eBG3) za5 (z0:=([]:Up A5)) ((.eq (eBG8 _) (.lit _ (F3)))) Q h λl2 q1 H bg h Q=>?_;cbv;refine Ah4 Y (f:=V.bool) za5 (z0:=(false:Bool)) ((.refl _)) Q h λl4 q3 H am h Q=>?_;cbv;refine R0 Y Q am 0 rfl h λh=>?_;cbv;refine CQ Y (f:=V.bool) (esz:=1) (tz:=1) (off:=0) (u:=(λx5:Bool=>true)) (λ_=>⟨.bool true,.refl _,rfl,rfl,rfl⟩) za5 Q am 0 rfl h λl6 H am h Q=>?_;cbv;obtain⟨bs,X,h⟩:=bind_some h;refine S6 cf147 Y N0 (γ:=OG×OG×(Up HO×Up V)) (λL g=>[(0,.v (.eref [sr eBE3 I.prover.dH,vi I.prover.count,.map b] 0)),fi 2 aY,(3,.v (sr eBE2 aD)),(4,.v (sr eBE2 aH)),(6,.v (.eref (D5 S) 0)),fi 12 (Ar.len aD),(13,.v (.own g.2.1.id g.2.1.lo g.2.1.n)),(14,.v (.own g.1.id g.1.lo g.1.n)),fi 15 L.1]) (λL g G=>An g.1 (Ar.len L.2.1)/\An g.2.1 (Ar.len L.2.2.1)/\TY eBF6 eBF7 g.2.2 L.2.2.2/\B9 Eq (upd D b none) [.blk g.1.id (.arr 1 (g.1.pre++lst V.bool L.2.1++g.1.rest)),.blk g.2.1.id (.arr 1 (g.2.1.pre++lst eBG3 L.2.2.1++g.2.1.rest)),.blk b (.vm g.2.2.1 g.2.2.2)] G) (λx e l G=>∃d:OG,An d (Ar.len x.1)/\∃P:OG,An P (Ar.len x.2.1)/\∃u3:(Up HO×Up V),TY eBF6 eBF7 u3 x.2.2/\e= .exit 0/\l=[(13,.v (.own P.id P.lo P.n)),(14,.v (.own d.id d.lo d.n))]/\B9 Eq (upd D b none) [ob d 1 V.bool x.1,ob P 1 eBG3 x.2.1,.blk b (.vm u3.1 u3.2)] G) za3 ?_ (⟨q3,q1,o0⟩) X ?_ ?_ ?_
 ·rintro L ⟨q8,q9,a9⟩ H o ⟨a7,a8,an,Q⟩ h;clear X;cbv;refine C2 Y h (λ_ h=>?_) λ_ h=>?_
  ·cbv;obtain⟨bt,X,h⟩:=bind_some h;refine S6 cf147 Y N0 (γ:=OG×OG×(Up HO×Up V)) (λk g=>[(0,.v (.eref [sr eBE3 I.prover.dH,vi I.prover.count,.map b] 0)),fi 2 aY,(3,.v (sr eBE2 aD)),(4,.v (sr eBE2 aH)),(6,.v (.eref (D5 S) 0)),fi 12 (Ar.len aD),(13,.v (.own g.2.1.id g.2.1.lo g.2.1.n)),(14,.v (.own g.1.id g.1.lo g.1.n)),fi 15 L.1,fi 16 k.1]) (λk g G=>An g.1 (Ar.len k.2.1)/\An g.2.1 (Ar.len k.2.2.1)/\TY eBF6 eBF7 g.2.2 k.2.2.2/\B9 Eq (upd D b none) [.blk g.1.id (.arr 1 (g.1.pre++lst V.bool k.2.1++g.1.rest)),.blk g.2.1.id (.arr 1 (g.2.1.pre++lst eBG3 k.2.2.1++g.2.1.rest)),.blk b (.vm g.2.2.1 g.2.2.2)] G) (λx e l G=>∃d:OG,An d (Ar.len x.1)/\∃P:OG,An P (Ar.len x.2.1)/\∃u3:(Up HO×Up V),TY eBF6 eBF7 u3 x.2.2/\e= .exit 2/\l=[(0,.v (.eref [sr eBE3 I.prover.dH,vi I.prover.count,.map b] 0)),fi 2 aY,(3,.v (sr eBE2 aD)),(4,.v (sr eBE2 aH)),(6,.v (.eref (D5 S) 0)),fi 12 (Ar.len aD),(13,.v (.own P.id P.lo P.n)),(14,.v (.own d.id d.lo d.n)),fi 15 L.1]/\B9 Eq (upd D b none) [ob d 1 V.bool x.1,ob P 1 eBG3 x.2.1,.blk b (.vm u3.1 u3.2)] G) za3 ?_ (⟨q8,q9,a9⟩) X ?_ ?_ ?_
   ·rintro k ⟨j,p,az⟩ H o ⟨a,i,q,Q⟩ h;clear X;cbv;refine C2 Y h (λ_ h=>?_) λ_ h=>?_
    ·cbv;refine R0 Y Q a 0 rfl h λh=>?_;cbv;refine U1 Y (λ_=>rfl) Q a 0 rfl h λbu h=>?_;cbv;refine C2 Y h (λ_ h=>?_) λ_ h=>?_
     ·cbv;refine R0 Y Q a 0 rfl h λh=>?_;cbv;refine U1 Y (λ_=>rfl) Q a 0 rfl h λbv h=>?_;cbv;refine C2 Y h (λ_ h=>?_) λ_ h=>?_
      ·cbv;cases h;exact⟨_,⟨j,p,az⟩,rfl,.e2 (.e4 (.e4 .z)),rfl,a,i,q,Q⟩
      cbv;obtain⟨Z,X,h⟩:=bind_some h;refine Q5 cf147 Y N0 (λe l G=>∃d:Nat,True/\∃P:(Up HO×Up V),TY eBF6 eBF7 P Z.2/\e= .normal/\l=[(0,.v (.eref [sr eBE3 I.prover.dH,vi I.prover.count,.map b] 0)),fi 2 aY,(3,.v (sr eBE2 aD)),(4,.v (sr eBE2 aH)),(6,.v (.eref (D5 S) 0)),fi 12 (Ar.len aD),(13,.v (.own p.id p.lo p.n)),(14,.v (.own j.id j.lo j.n)),fi 15 L.1,fi 16 k.1,(17,.v (.ref d 0))]/\B9 Eq (upd D b none) [cb d (Y5 Z.1),ob j 1 V.bool k.2.1,ob p 1 eBG3 k.2.2.1,.blk b (.vm P.1 P.2)] G) za3 ?_ ?_
      ·clear h;have h:=X;clear X;cbv;obtain⟨ab,aw,h⟩:=bind_some h;obtain⟨W,ar,h⟩:=bind_some h;obtain⟨ap,au,h⟩:=bind_some h;obtain⟨s,av,h⟩:=bind_some h;obtain⟨c,M,h⟩:=bind_some h
       repeat' first|refine And.intro ?_ ?_|(refine E6 Y eBF1 (S3 aw) λab y=>?_;obtain rfl:=G3 y;cbv)|(refine Pj Y (f:=eBE2) U7 (S3 ar) λW bq y=>?_;obtain rfl:=G3 y;cbv)|(refine Pj Y (f:=eBE2) U7 (S3 au) λap br y=>?_;obtain rfl:=G3 y;cbv)|(refine B3 Y (g:=λs=>sr eBE2 s) (S3 av) (c92 N aH ap) (.cons (.refl _) (.cons (.ro _ _) (.refl _))) λs y=>?_;obtain rfl:=G3 y;cbv)|(refine Hs (g:=λc=>(L4 c)) Y Q q 2 rfl (S3 M) (ao I k.2.2.2 ab (Ar.ar .add .i64 aY 1) W s) (.cons (.refl _) (.cons (.refl _) (.cons (.refl _) (.cons (.ro _ _) (.refl _))))) λc aq H O Q y=>?_;obtain rfl:=G3 y;cbv)|(refine G0 Y Q λa5 H Q=>?_;cbv)|(refine C5 Y Q 0 rfl rfl λH Q=>?_;cbv)|(have h:=G3 h;subst h;exact⟨_,⟨a5,trivial,aq,O,rfl,rfl,Q⟩,.e rfl (.e2 (.e4 (.e4 .z))),rfl⟩)|(refine Hs (g:=λc=>(L4 c)) Y Q q 3 rfl (S3 M) (ao I k.2.2.2 ab (Ar.ar .add .i64 aY 1) W s) (.cons (.refl _) (.cons (.refl _) (.cons (.refl _) (.cons (.ro _ _) (.refl _))))) λc aq H O Q y=>?_;obtain rfl:=G3 y;cbv)
      clear X;rintro e l H ⟨a6,be,z,R,rfl,rfl,Q⟩;cbv;refine C3 Y Q 0 rfl ?_;cbv;refine C2 Y h (λ_ h=>?_) λ_ h=>?_
      ·cbv;obtain⟨A,X,h⟩:=bind_some h;refine Q5 cf147 Y N0 (λe l G=>∃d:OG,An d (Ar.len A.1)/\∃P:OG,An P (Ar.len A.2)/\e= .normal/\l=[(0,.v (.eref [sr eBE3 I.prover.dH,vi I.prover.count,.map b] 0)),fi 2 aY,(3,.v (sr eBE2 aD)),(4,.v (sr eBE2 aH)),(6,.v (.eref (D5 S) 0)),fi 12 (Ar.len aD),(13,.v (.own P.id P.lo P.n)),(14,.v (.own d.id d.lo d.n)),fi 15 L.1,fi 16 k.1]/\B9 Eq (upd D b none) [cb a6 (Y5 Z.1),ob d 1 V.bool A.1,ob P 1 eBG3 A.2,.blk b (.vm z.1 z.2)] G) za3 ?_ ?_
       ·clear h;have h:=X;clear X;cbv;obtain⟨ba,B,h⟩:=bind_some h;obtain⟨aa,af,h⟩:=bind_some h;obtain⟨U,ac,h⟩:=bind_some h;obtain⟨bb,C,h⟩:=bind_some h;obtain⟨ax,ad,h⟩:=bind_some h;obtain⟨bc,F,h⟩:=bind_some h;obtain⟨ay,ae,h⟩:=bind_some h
        repeat' first|refine And.intro ?_ ?_|(refine C3 Y Q 0 rfl ?_;cbv)|(refine R0 Y Q i 2 rfl (S3 B) λy=>?_;clear y;cbv)|(refine U1 Y eBG8 Q i 2 rfl (S3 af) λaa y=>?_;obtain rfl:=G3 y;cbv)|(refine GD (f:=eBE5) Y Z6 za5 (Q.tl0 (t:=.full) rfl) 0 rfl trivial (l:=[Z.1.d]) (m:=aa) (.lstc (.eq (eBE6 Z.1.d) (.refl _)) (.lst0)) (.refl _) (S3 ac) λU bl H Q bd y=>?_;obtain rfl:=G3 y;cbv)|(refine R0 Y Q i 3 rfl (S3 C) λy=>?_;clear y;cbv)|(refine CQ Y (f:=eBG3) (esz:=1) (tz:=1) (off:=0) (u:=(λbm:Up A5=>U)) (λ_=>⟨_,.eq (eBG8 _) (.ro _ _),(by rw[eBG8];rfl),Uc _,rfl⟩) za5 Q i 3 rfl (S3 ad) λax H i y Q=>?_;obtain rfl:=G3 y;cbv)|(refine R0 Y Q a 2 rfl (S3 F) λy=>?_;clear y;cbv)|(refine CQ Y (f:=V.bool) (esz:=1) (tz:=1) (off:=0) (u:=(λbn:Bool=>true)) (λ_=>⟨.bool true,.refl _,rfl,rfl,rfl⟩) za5 Q a 2 rfl (S3 ae) λay H a y Q=>?_;obtain rfl:=G3 y;cbv)|(have h:=G3 h;subst h;exact⟨_,⟨j,a,p,i,rfl,rfl,Q.tail⟩,.e2 (.e4 (.e4 .z)),rfl⟩)
       clear X;rintro e l H ⟨a0,ag,a1,ah,rfl,rfl,Q⟩;cbv;cases h;exact⟨_,⟨a0,a1,z⟩,rfl,.e2 (.e4 (.e4 .z)),rfl,ag,ah,R,Q.tail⟩
      cbv;cases h;exact⟨_,⟨j,p,z⟩,rfl,.e2 (.e4 (.e4 .z)),rfl,a,i,R,Q.tail⟩
     cbv;cases h;exact⟨_,_,rfl,⟨j,a,p,i,az,q,rfl,rfl,Q⟩,.e rfl (.e4 (.e4 .z)),rfl⟩
    cbv;cases h;exact⟨_,_,rfl,⟨j,a,p,i,az,q,rfl,rfl,Q⟩,.e rfl (.e4 (.e4 .z)),rfl⟩
   ·exact .e2 (.e4 (.e4 .z))
   ·exact⟨a7,a8,an,Q⟩
   clear X;rintro e l H ⟨a2,ai,a3,aj,a4,ak,rfl,rfl,Q⟩;cbv;cases h;exact⟨_,⟨a2,a3,a4⟩,rfl,.e rfl (.e4 (.e4 .z)),rfl,ai,aj,ak,Q⟩
  cbv;cases h;exact⟨_,_,rfl,⟨q8,a7,q9,a8,a9,an,rfl,rfl,Q⟩,.e2 .z,rfl⟩
 ·exact .e rfl (.e4 (.e4 .z))
 ·exact⟨am,bg,bf,Q⟩
 clear X;rintro e l H ⟨bh,v,bi,w,bj,al,rfl,rfl,Q⟩;cbv;refine R0 Y Q w 1 rfl h λh=>?_;cbv;refine U1 Y eBG8 Q w 1 rfl h λbo h=>?_;cbv;refine R0 Y Q v 0 rfl h λh=>?_;cbv;refine U1 Y (λ_=>rfl) Q v 0 rfl h λbp h=>?_;cbv;cases h;exact J _ _ _ 2 _ al rfl Q (.refl _)
def k148 (N n:Nat) (t:K75 N n):By5 N (n+1):=by
 intro j u S C f s r h
 unfold CB at h
 refine Kt (T:=TT) cf148 N0 func148 za9 za3 call148 ntmps148 za9 (λ_=>rfl) ?_;intro E D a c K Y i Q J;cbv;refine G0 Y Q λb H Q=>?_;cbv;refine Bq6 Y (ds:=[vi 0,vi 0,vi 0,vi 0,sr eBE5 ([]),.bool false]) Q 0 rfl (.cons (.refl _) (.cons (.refl _) (.cons (.refl _) (.cons (.refl _) (.cons (.lit _ (F3)) (.refl _)))))) λH Q=>?_;cbv;refine K2 Y ?_;cbv;obtain⟨z,X,h⟩:=bind_some h;refine I8 cf148 Y N0 (λd=>[(0,.v (.eref [sr eBE3 j.prover.dH,vi j.prover.count,.map a] 0)),fi 2 d.1,(3,.v (sr eBE2 f)),(4,.v (sr eBE2 s)),(10,.v (.ref b 0)),(20,.v (sr eBE7 S.dD)),fi 21 (Ar.len S.dD),fi 22 d.2]) (λd G=>B9 Eq (upd D a none) [cb b [vi 0,vi 0,vi 0,vi 0,sr eBE5 ([]),.bool false],.blk a (.vm c.1 c.2)] G) (λx e l G=>match(generalizing:=false) x with| .inl y=>e= .exit 0/\l=[(10,.v (.ref b 0))]/\B9 Eq (upd D a none) [cb b [vi 0,vi 0,vi 0,vi 0,sr eBE5 ([]),.bool false],.blk a (.vm c.1 c.2)] G| .inr y=>∃p:(Up HO×Up V),TY eBF6 eBF7 p y.2/\e= .ret/\l=[(10,.v (.ref b 0))]/\B9 Eq (upd D a none) [cb b (Y5 y.1),.blk a (.vm p.1 p.2)] G) za3 ?_ X ?_ Q ?_
 ·intro d H o Q h;clear X;cbv;refine C2 Y h (λ_ h=>?_) λ_ h=>?_
  ·cbv;refine E6 Y eBF1 h λq h=>?_;cbv;refine G0 Y Q λF H Q=>?_;cbv;refine C5 Y Q 0 rfl rfl λH Q=>?_;cbv;refine C3 Y Q 0 rfl ?_;cbv;refine B3 Y h (c178 N q f) (.refl _) λI h=>?_;cbv;refine K2 Y ?_;cbv;refine K2 Y ?_;cbv;refine C2 Y h (λ_ h=>?_) λ_ h=>?_
   ·cbv;refine C3 Y Q 0 rfl ?_;cbv;refine Hs (g:=λP=>(L4 P)) Y Q i 2 rfl h (t j u q d.1 f s) (.refl _) λP v H m Q h=>?_;cbv;refine Ow Y (vs':=[vi 0,vi 0,vi 0,vi d.2,sr eBE5 ([P.1.d]),.bool P.1.ok]) Q 1 rfl rfl (.cons (.refl _) (.cons (.refl _) (.cons (.refl _) (.cons (.refl _) (.cons (.lit _ (I6 ((eBE6 P.1.d).symm) (F3))) (.refl _)))))) λH Q=>?_;cbv;cases h;exact⟨_,_,rfl,⟨v,m,rfl,rfl,Q.tail⟩,.e rfl .z,rfl⟩
   cbv;refine C3 Y Q 0 rfl ?_;cbv;refine B3 Y h (c150 N N q) (.refl _) λL h=>?_;cbv;cases h;exact⟨_,rfl,.e4 (.e4 .z),rfl,Q.tail⟩
  cbv;cases h;exact⟨_,_,rfl,⟨rfl,rfl,Q⟩,.e rfl .z,rfl⟩
 ·exact .e4 (.e4 .z)
 clear X
 rcases z with A|B
 ·rintro e l H ⟨rfl,rfl,Q⟩;cbv;refine Ow Y (vs':=[vi 0,vi 0,vi 0,vi 0,sr eBE5 ([]),.bool false]) Q 0 rfl rfl (.cons (.refl _) (.cons (.refl _) (.cons (.refl _) (.cons (.refl _) (.cons (.lit _ (F3)) (.refl _)))))) λH Q=>?_;cbv;refine C3 Y Q 0 rfl ?_;cbv;cases h;exact J _ _ _ 1 _ i rfl Q (.refl _)
 rintro e l H ⟨w,k,rfl,rfl,Q⟩;cbv;refine C3 Y Q 0 rfl ?_;cbv;cases h;exact J _ _ _ 1 _ k rfl Q (.refl _)
def k149 (N n:Nat) (y:K75 N n):By4 N (n+1):=by
 intro i bA S aY u aH r h
 unfold Bo at h
 refine Kt (T:=TT) cf149 N0 func149 za9 za3 call149 ntmps149 za9 (λ_=>rfl) ?_;intro E D a o0 K Y M Q J;cbv;refine G0 Y Q λk H Q=>?_;cbv;refine K2 Y ?_;cbv;replace Q:=Q.tl0 (t:=.nil) rfl;obtain⟨s5,X,h⟩:=bind_some h;refine S6 cf149 Y N0 (γ:=J8×(Up HO×Up V)) (λd g=>[(0,.v (.eref [sr eBE3 i.prover.dH,vi i.prover.count,.map a] 0)),fi 2 d.1,(3,.v (sr eBE2 u)),(4,.v (sr eBE2 d.2.1)),(6,.v (.eref (D5 S) 0)),(10,.v (.ref k 0)),(11,.v (.sl (lst eBE5 d.2.2.1) g.1)),fi 12 d.2.2.2.1,fi 13 d.2.2.2.2.1,(23,.v (sr eBE7 S.dD)),fi 24 (Ar.len S.dD),fi 25 d.2.2.2.2.2.1]) (λd g G=>Ed g.1/\TY eBF6 eBF7 g.2 d.2.2.2.2.2.2/\B9 Eq (upd D a none) [.tl g.1,cb k [vi 0,vi 0,vi 0,vi 0,.sl [] .nil,.bool false],.blk a (.vm g.2.1 g.2.2)] G) (λx e l G=>∃U:J8,Ed U/\∃W:(Up HO×Up V),TY eBF6 eBF7 W x.2.2/\e= .exit 0/\l=[(3,.v (sr eBE2 u)),(10,.v (.ref k 0)),(11,.v (.sl (lst eBE5 x.1) U)),fi 12 x.2.1]/\B9 Eq (upd D a none) [.tl U,cb k [vi 0,vi 0,vi 0,vi 0,.sl [] .nil,.bool false],.blk a (.vm W.1 W.2)] G) za3 ?_ (⟨.nil,o0⟩) X ?_ ?_ ?_
 ·rintro d ⟨L,q4⟩ H o ⟨j,c,Q⟩ h;clear X;cbv;refine C2 Y h (λ_ h=>?_) λ_ h=>?_
  ·cbv;refine E6 Y eBF1 h λs h=>?_;cbv;refine B3 Y h (c178 N s u) (.refl _) λP h=>?_;cbv;refine K2 Y ?_;cbv;refine C2 Y h (λ_ h=>?_) λ_ h=>?_
   ·cbv;cases h
   cbv;refine C2 Y h (λ_ h=>?_) λ_ h=>?_
   ·cbv;refine E6 Y eBF5 h λx8 h=>?_;cbv;refine C2 Y h (λ_ h=>?_) λ_ h=>?_
    ·cbv;cases h
    cbv;refine Hs (g:=λC=>(L4 C)) Y Q c 2 rfl h (y i d.2.2.2.2.2.2 s d.1 P d.2.1) (.refl _) λC p H v Q h=>?_;cbv;refine C2 Y h (λ_ h=>?_) λ_ h=>?_
    ·cbv;cases h
    cbv;obtain⟨F,X,h⟩:=bind_some h;refine Q5 cf149 Y N0 (λe l G=>e= .normal/\l=[(0,.v (.eref [sr eBE3 i.prover.dH,vi i.prover.count,.map a] 0)),fi 2 d.1,(3,.v (sr eBE2 u)),(4,.v (sr eBE2 F.1)),(6,.v (.eref (D5 S) 0)),(10,.v (.ref k 0)),(11,.v (.sl (lst eBE5 d.2.2.1) L)),fi 12 d.2.2.2.1,fi 13 F.2,(15,.v (.eref (D5 s) 0)),(16,.v (sr eBE2 P)),(17,.v (.eref (Y5 C.1) 0)),(23,.v (sr eBE7 S.dD)),fi 24 (Ar.len S.dD),fi 25 d.2.2.2.2.2.1]/\B9 Eq (upd D a none) [.tl L,cb k [vi 0,vi 0,vi 0,vi 0,.sl [] .nil,.bool false],.blk a (.vm p.1 p.2)] G) za3 ?_ ?_
    ·clear h;have h:=X;clear X;cbv;refine C2 Y h (λ_ h=>?_) λ_ h=>?_
     ·cbv;refine B3 Y h (c92 N d.2.1 P) (.refl _) λad h=>?_;cbv;refine B3 Y h (c94 N P) (.refl _) λae h=>?_;cbv;cases h;exact⟨_,⟨rfl,rfl,Q⟩,.e rfl (.e2 (.e4 (.e4 (.e4 .z)))),rfl⟩
     cbv;cases h;exact⟨_,⟨rfl,rfl,Q⟩,.e rfl (.e2 (.e4 (.e4 (.e4 .z)))),rfl⟩
    clear X;rintro e l H ⟨rfl,rfl,Q⟩;cbv;refine B3 Y h (c150 N N s) (.refl _) λaf h=>?_;cbv;refine GD (f:=eBE5) Y Z6 za5 Q 0 rfl j (l:=d.2.2.1) (m:=[C.1.d]) (.refl _) (.lstc (.eq (eBE6 C.1.d) (.refl _)) (.lst0)) h λaa O H Q A h=>?_;cbv;refine K2 Y ?_;cbv;cases h;exact⟨_,⟨O,p⟩,rfl,.e4 (.e4 (.e4 .z)),rfl,A,v,Q⟩
   cbv;refine Hs (g:=λb=>(L4 b)) Y Q c 2 rfl h (y i d.2.2.2.2.2.2 s d.1 P d.2.1) (.refl _) λb q H w Q h=>?_;cbv;refine C2 Y h (λ_ h=>?_) λ_ h=>?_
   ·cbv;cases h
   cbv;obtain⟨I,X,h⟩:=bind_some h;refine Q5 cf149 Y N0 (λe l G=>e= .normal/\l=[(0,.v (.eref [sr eBE3 i.prover.dH,vi i.prover.count,.map a] 0)),fi 2 d.1,(3,.v (sr eBE2 u)),(4,.v (sr eBE2 I.1)),(6,.v (.eref (D5 S) 0)),(10,.v (.ref k 0)),(11,.v (.sl (lst eBE5 d.2.2.1) L)),fi 12 d.2.2.2.1,fi 13 I.2,(15,.v (.eref (D5 s) 0)),(16,.v (sr eBE2 P)),(17,.v (.eref (Y5 b.1) 0)),(23,.v (sr eBE7 S.dD)),fi 24 (Ar.len S.dD),fi 25 d.2.2.2.2.2.1]/\B9 Eq (upd D a none) [.tl L,cb k [vi 0,vi 0,vi 0,vi 0,.sl [] .nil,.bool false],.blk a (.vm q.1 q.2)] G) za3 ?_ ?_
   ·clear h;have h:=X;clear X;cbv;refine C2 Y h (λ_ h=>?_) λ_ h=>?_
    ·cbv;refine B3 Y h (c92 N d.2.1 P) (.refl _) λag h=>?_;cbv;refine B3 Y h (c94 N P) (.refl _) λah h=>?_;cbv;cases h;exact⟨_,⟨rfl,rfl,Q⟩,.e rfl (.e2 (.e4 (.e4 (.e4 .z)))),rfl⟩
    cbv;cases h;exact⟨_,⟨rfl,rfl,Q⟩,.e rfl (.e2 (.e4 (.e4 (.e4 .z)))),rfl⟩
   clear X;rintro e l H ⟨rfl,rfl,Q⟩;cbv;refine B3 Y h (c150 N N s) (.refl _) λai h=>?_;cbv;refine GD (f:=eBE5) Y Z6 za5 Q 0 rfl j (l:=d.2.2.1) (m:=[b.1.d]) (.refl _) (.lstc (.eq (eBE6 b.1.d) (.refl _)) (.lst0)) h λab R H Q B h=>?_;cbv;refine K2 Y ?_;cbv;cases h;exact⟨_,⟨R,q⟩,rfl,.e4 (.e4 (.e4 .z)),rfl,B,w,Q⟩
  cbv;cases h;exact⟨_,_,rfl,⟨L,j,q4,c,rfl,rfl,Q⟩,.e4 .z,rfl⟩
 ·exact .e2 (.e4 (.v (.slt _ (.lst0)) (.e rfl (.e rfl (.e rfl (.e rfl (.e rfl (.z))))))))
 ·exact⟨trivial,M,Q⟩
 clear X;rintro e l H ⟨aj,Z,ac,z,rfl,rfl,Q⟩;cbv;refine K2 Y ?_;cbv;refine C5 Y Q 1 rfl rfl λH Q=>?_;cbv;refine C3 Y Q 1 rfl ?_;cbv;cases h;exact J _ _ _ 2 _ z rfl Q (.agg (.cons (.refl _) (.cons (.refl _) (.cons (.refl _) (.cons (.refl _) (.cons (.ro _ _) (.refl _)))))))
def PE (N:Nat):∀n,K75 N n/\By7 N n/\By6 N n/\By5 N n/\By4 N n:=by
 intro n
 induction n with
 |zero=>exact⟨(by intro l y S x k t r h;unfold M1 at h;cases h),(by intro l y S x k t r h;unfold BB at h;cases h),(by intro l y S x k t r h;unfold Z1 at h;cases h),(by intro l y S x k t r h;unfold CB at h;cases h),(by intro l y S x k t r h;unfold Bo at h;cases h)⟩
 |succ n ih=>
  obtain⟨a,b,e,g,i⟩:=ih;exact⟨k75 N n b,k107 N n a e g i,k147 N n a,k148 N n a,k149 N n a⟩
def c75 (N n a i S g b e r)(h:M1 N n a i S g b e=some r):OT prog 75 (λid=>[.eref [sr eBE3 a.prover.dH,vi a.prover.count,.map id] 0,(D0 S),vi g,sr eBE2 b,sr eBE2 e]) eBF6 eBF7 i ((L4 r.1)) r.2:=(PE N n).1 a i S g b e r h
def cf38:Cf:=⟨[6],[],[],[],[],[]⟩
def c38 (N S a b r) (h:Ik N S a b=some r):B8 prog 38 [(D0 S),sr eBE3 a,(BX b)] (.tup [(G8 r.1),vi r.2]):=by
 unfold Ik at h
 refine R4 cf38 func38 call38 ntmps38 ?_;intro E D K Y J Q;cbv;refine G0 Y Q λV H Q=>?_;cbv;refine B3 Y h (c40 N S) (.refl _) λv h=>?_;cbv;refine C2 Y h (λ_ h=>?_) λ_ h=>?_
 ·cbv;cases h
 cbv;refine B3 Y h (c41 N a) (.refl _) λI h=>?_;cbv;refine C2 Y h (λ_ h=>?_) λ_ h=>?_
 ·cbv;cases h
 cbv;refine B3 Y h (c55 N b) (.refl _) λL h=>?_;cbv;refine C2 Y h (λ_ h=>?_) λ_ h=>?_
 ·cbv;cases h
 cbv;refine K2 Y ?_;cbv;refine C2 Y h (λ_ h=>?_) λ_ h=>?_
 ·cbv;cases h
 cbv;refine K2 Y ?_;cbv;replace Q:=Q.tl0 (t:=.nil) rfl;obtain⟨B,X,h⟩:=bind_some h;refine S6 cf38 Y N0 (γ:=J8) (λP g=>[(1,.v (sr eBE3 a)),(3,.v (.eref (D5 S) 0)),(6,.v (.ref V 0)),(11,.v (.sl (lst eBE2 P.1) g)),(43,.v (sr eBE4 b.dE)),fi 44 (Ar.len b.dE),fi 45 P.2]) (λP g G=>Ed g/\B9 Eq D [.tl g,cb V [vi 0,vi 0,vi 0,vi 0,.sl [] .nil]] G) (λx e l G=>∃d:J8,Ed d/\e= .exit 0/\l=[(1,.v (sr eBE3 a)),(3,.v (.eref (D5 S) 0)),(6,.v (.ref V 0)),(11,.v (.sl (lst eBE2 x) d))]/\B9 Eq D [.tl d,cb V [vi 0,vi 0,vi 0,vi 0,.sl [] .nil]] G) za3 ?_ .nil X ?_ ?_ ?_
 ·rintro P F H o ⟨n,Q⟩ h;clear X;cbv;refine C2 Y h (λ_ h=>?_) λ_ h=>?_
  ·cbv;refine E6 Y eBE9 h λj h=>?_;cbv;refine B3 Y h (c47 N a j.Ref) (.refl _) λs h=>?_;cbv;refine C2 Y h (λ_ h=>?_) λ_ h=>?_
   ·cbv;cases h
   cbv;refine GD (f:=eBE2) Y U7 za5 Q 0 rfl n (l:=P.1) (m:=[(⟨j.Var,s.1⟩:A7)]) (.refl _) (.lstc (.eq (eBF5 (⟨j.Var,s.1⟩:A7)) (.refl _)) (.lst0)) h λu c H Q k h=>?_;cbv;cases h;exact⟨_,c,rfl,.e rfl (.e2 (.e4 .z)),rfl,k,Q⟩
  cbv;cases h;exact⟨_,_,rfl,⟨F,n,rfl,rfl,Q⟩,.e4 .z,rfl⟩
 ·exact .e rfl (.e2 (.v (.slt _ (.lst0)) (.e rfl (.e rfl (.e rfl (.z))))))
 ·exact⟨trivial,Q⟩
 clear X;rintro e l H ⟨C,q,rfl,rfl,Q⟩;cbv;refine BB0 Y eBF6 eBF7 Q λw z H i Q=>?_;cbv;refine Hs (g:=λy=>(L4 y)) Y Q i 0 rfl h (c75 N N (⟨(⟨a,0⟩:F2)⟩:L9) ([]:Up (D1×B2)) S 0 B ([])) (.cons (.refl _) (.cons (.refl _) (.cons (.refl _) (.cons (.ro _ _) (.cons (.lit _ (F3)) (.refl _)))))) λy A H p Q h=>?_;cbv;refine C2 Y h (λ_ h=>?_) λ_ h=>?_
 ·cbv;cases h
 cbv;refine C5 Y Q 2 rfl rfl λH Q=>?_;cbv;refine C3 Y Q 2 rfl ?_;cbv;cases h;exact J Q (.refl _)
@[reducible, instance] def zc38 (N aA aD aQ):=Ct.mk (f:=38) (c38 N aA aD aQ)
def c76 (N p a r)(h:Ty N p a=some r):B8 prog 76 [(V8 p),(V8 a)] (vi r):=by
 refine R4 cf0 func76 call76 ntmps76 ?_;intro E D K Y J Q;exact Zg
@[reducible, instance] def zc76 (N aB aC):=Ct.mk (f:=76) (c76 N aB aC)
def cf39:=cfB [] [(4,10)]
def c39 (N p a r)(h:PU N p a=some r):B8 prog 39 [(BX p),(BX a)] (vi r):=by
 refine R4 cf39 func39 call39 ntmps39 ?_;intro E D K Y J Q;cbv;obtain⟨d,X,h⟩:=bind_some h;refine I8 cf39 Y N0 (λI=>[(2,.v (.eref (MW p) 0)),(3,.v (.eref (MW a) 0)),fi 5 I]) (λI G=>B9 Eq D [] G) (λx e l G=>match(generalizing:=false) x with| .inl y=>e= .exit 0/\l=[(2,.v (.eref (MW p) 0)),(3,.v (.eref (MW a) 0))]/\B9 Eq D [] G| .inr y=>e= .ret/\l=[fi 4 y]/\B9 Eq D [] G) za3 ?_ X ?_ Q ?_
 ·intro I H o Q h;exact Zg
 ·exact .e rfl (.e2 .z)
 clear X
 rcases d with b|g
 ·rintro e l H ⟨rfl,rfl,Q⟩;exact Zg
 rintro e l H ⟨rfl,rfl,Q⟩;exact Zg
@[reducible, instance] def zc39 (N aB aC):=Ct.mk (f:=39) (c39 N aB aC)
def cf8:=cfB [1,2] [(3,21),(5,11),(6,9),(7,11),(8,65)]
set_option maxHeartbeats 2000000 in
def c8 (N r) (h:CS N=some r):B8 prog 8 [] (.bool r):=by
 unfold CS at h
 refine R4 cf8 func8 call8 ntmps8 ?_;intro E D K Y J Q;cbv;refine B3 Y h (c32 N 2 1) (.refl _) λa h=>?_;cbv;refine B3 Y h (c32 N 3 2) (.refl _) λv h=>?_;cbv;refine G0 Y Q λb3 H Q=>?_;cbv;refine G0 Y Q λb4 H Q=>?_;cbv;refine C5 Y Q 1 rfl rfl λH Q=>?_;cbv;refine C5 Y Q 0 rfl rfl λH Q=>?_;cbv;refine B3 Y h (c33 N 1) (.refl _) λW h=>?_;cbv;refine B3 Y h (c34 N 2 3) (.refl _) λX h=>?_;cbv;refine B3 Y h (c9 N W X) (.refl _) λZ h=>?_;cbv;refine C3 Y Q 1 rfl ?_;cbv;refine C2 Y h (λ_ h=>?_) λ_ h=>?_
 ·cbv;cases h;exact J Q (.refl _)
 cbv;refine E3 Y (g:=λM=>(G8 M)) h (c36 N ([a])) (.cons (.lit _ (I6 ((eBE6 a).symm) (F3))) (.refl _)) λM h=>?_;cbv;refine C3 Y Q 1 rfl ?_;cbv;refine C3 Y Q 0 rfl ?_;cbv;refine E3 Y (g:=λO=>(G8 O)) h (c36 N ([a,v])) (.cons (.lit _ (I6 ((eBE6 a).symm) (I6 ((eBE6 v).symm) (F3)))) (.refl _)) λO h=>?_;cbv;refine C3 Y Q 0 rfl ?_;cbv;refine E3 Y (g:=λe=>(G8 e)) h (c36 N ([v])) (.cons (.lit _ (I6 ((eBE6 v).symm) (F3))) (.refl _)) λe h=>?_;cbv;refine E3 Y (g:=λA=>.bool A) h (c35 N Z.1 ([M,O,e])) (.cons (.refl _) (.cons (.lit _ (I6 ((eBE6 M).symm) (I6 ((eBE6 O).symm) (I6 ((eBE6 e).symm) (F3))))) (.refl _))) λA h=>?_;cbv;refine C3 Y Q 1 rfl ?_;cbv;refine C3 Y Q 0 rfl ?_;cbv;refine C2 Y h (λ_ h=>?_) λ_ h=>?_
 ·cbv;cases h;exact J Q (.refl _)
 cbv;refine B3 Y h (c36 N ([a,v])) (.cons (.lit _ (I6 ((eBE6 a).symm) (I6 ((eBE6 v).symm) (F3)))) (.refl _)) λS h=>?_;cbv;refine B3 Y h (c37 N N S) (.refl _) λT h=>?_;cbv;refine C2 Y h (λ_ h=>?_) λ_ h=>?_
 ·cbv;cases h;exact J Q (.refl _)
 cbv;refine E3 Y (g:=λl=>(D0 l)) h (c33 N 1) (.refl _) λl h=>?_;cbv;refine C3 Y Q 1 rfl ?_;cbv;refine C3 Y Q 0 rfl ?_;cbv;refine E3 Y (g:=λn=>(G8 n)) h (c36 N ([a,v])) (.cons (.lit _ (I6 ((eBE6 a).symm) (I6 ((eBE6 v).symm) (F3)))) (.refl _)) λn h=>?_;cbv;refine E3 Y (g:=λb=>.tup [(BX b.1),vi b.2]) h (c13 N l n) (.refl _) λb h=>?_;cbv;refine E3 Y (g:=λt=>(D0 t)) h (c33 N 1) (.refl _) λt h=>?_;cbv;refine E3 Y (g:=λx=>sr eBE3 x) h (c34 N 2 3) (.refl _) λx h=>?_;cbv;refine E3 Y (g:=λi=>.tup [(G8 i.1),vi i.2]) h (c38 N t x b.1) (.refl _) λi h=>?_;cbv;refine E3 Y (g:=λy=>(D0 y)) h (c33 N 1) (.refl _) λy h=>?_;cbv;refine C3 Y Q 0 rfl ?_;cbv;refine C3 Y Q 1 rfl ?_;cbv;refine E3 Y (g:=λP=>(G8 P)) h (c36 N ([v,a])) (.cons (.lit _ (I6 ((eBE6 v).symm) (I6 ((eBE6 a).symm) (F3)))) (.refl _)) λP h=>?_;cbv;refine E3 Y (g:=λk=>.tup [(BX k.1),vi k.2]) h (c13 N y P) (.refl _) λk h=>?_;cbv;refine C3 Y Q 1 rfl ?_;cbv;refine C3 Y Q 0 rfl ?_;cbv;refine C2 Y h (λ_ h=>?_) λ_ h=>?_
 ·cbv;refine E3 Y (g:=λV=>(G8 V)) h (c36 N ([a,v])) (.cons (.lit _ (I6 ((eBE6 a).symm) (I6 ((eBE6 v).symm) (F3)))) (.refl _)) λV h=>?_;cbv;refine E3 Y (g:=λB=>vi B) h (c12 N N i.1 V) (.refl _) λB h=>?_;cbv;refine K2 Y ?_;cbv;refine C2 Y h (λ_ h=>?_) λ_ h=>?_
  ·cbv;refine E3 Y (g:=λc=>(D0 c)) h (c33 N 1) (.refl _) λc h=>?_;cbv;refine E3 Y (g:=λd=>sr eBE3 d) h (c34 N 2 3) (.refl _) λd h=>?_;cbv;refine C3 Y Q 1 rfl ?_;cbv;refine C3 Y Q 0 rfl ?_;cbv;refine E3 Y (g:=λj=>(G8 j)) h (c36 N ([a,v])) (.cons (.lit _ (I6 ((eBE6 a).symm) (I6 ((eBE6 v).symm) (F3)))) (.refl _)) λj h=>?_;cbv;refine E3 Y (g:=λC=>vi C) h (c11 N c d j) (.refl _) λC h=>?_;cbv;refine C2 Y h (λ_ h=>?_) λ_ h=>?_
   ·cbv;refine E3 Y (g:=λm=>(D0 m)) h (c33 N 1) (.refl _) λm h=>?_;cbv;refine E3 Y (g:=λF=>sr eBE3 F) h (c34 N 2 3) (.refl _) λF h=>?_;cbv;refine Pj Y (f:=eBE3) Se h λR aa h=>?_;cbv;refine C3 Y Q 1 rfl ?_;cbv;refine C3 Y Q 0 rfl ?_;cbv;refine E3 Y (g:=λo=>(G8 o)) h (c36 N ([a,v])) (.cons (.lit _ (I6 ((eBE6 a).symm) (I6 ((eBE6 v).symm) (F3)))) (.refl _)) λo h=>?_;cbv;refine E3 Y (g:=λG=>vi G) h (c11 N m R o) (.cons (.refl _) (.cons (.ro _ _) (.refl _))) λG h=>?_;cbv;refine C2 Y h (λ_ h=>?_) λ_ h=>?_
    ·cbv;refine E3 Y (g:=λp=>(D0 p)) h (c33 N 0) (.refl _) λp h=>?_;cbv;refine E3 Y (g:=λq=>sr eBE3 q) h (c34 N 2 3) (.refl _) λq h=>?_;cbv;refine C3 Y Q 1 rfl ?_;cbv;refine C3 Y Q 0 rfl ?_;cbv;refine E3 Y (g:=λs=>(G8 s)) h (c36 N ([a,v])) (.cons (.lit _ (I6 ((eBE6 a).symm) (I6 ((eBE6 v).symm) (F3)))) (.refl _)) λs h=>?_;cbv;refine E3 Y (g:=λI=>vi I) h (c11 N p q s) (.refl _) λI h=>?_;cbv;refine C2 Y h (λ_ h=>?_) λ_ h=>?_
     ·cbv;refine E3 Y (g:=λu=>(D0 u)) h (c33 N 1) (.refl _) λu h=>?_;cbv;refine E3 Y (g:=λw=>sr eBE3 w) h (c34 N 2 3) (.refl _) λw h=>?_;cbv;refine C3 Y Q 0 rfl ?_;cbv;refine C3 Y Q 1 rfl ?_;cbv;refine E3 Y (g:=λz=>(G8 z)) h (c36 N ([v,a])) (.cons (.lit _ (I6 ((eBE6 v).symm) (I6 ((eBE6 a).symm) (F3)))) (.refl _)) λz h=>?_;cbv;refine E3 Y (g:=λL=>vi L) h (c11 N u w z) (.refl _) λL h=>?_;cbv;refine C2 Y h (λ_ h=>?_) λ_ h=>?_
      ·cbv;refine B3 Y h (c39 N b.1 k.1) (.refl _) λU h=>?_;cbv;cases h;exact J Q (.refl _)
      cbv;cases h;exact J Q (.refl _)
     cbv;cases h;exact J Q (.refl _)
    cbv;cases h;exact J Q (.refl _)
   cbv;cases h;exact J Q (.refl _)
  cbv;cases h;exact J Q (.refl _)
 cbv;cases h;exact J Q (.refl _)
@[reducible, instance] def zc8 (N):=Ct.mk (f:=8) (c8 N)
def cf60:=cfA [8]
def c60 (N:Nat) (a:Up B0) (b:Up B0) (k:V) (n:B0->B0->OS Int) (c:∀t P q,n t P=some q->Y6 prog k [(V8 t),(V8 P)] (vi q)) (r:Int) (h:N7 N a b n=some r):B8 prog 60 [sr eBE4 a,sr eBE4 b,k] (vi r):=by
 refine R4 cf60 func60 call60 ntmps60 ?_;intro E D K Y J Q;cbv;apply K2 Y;cbv;obtain⟨d,X,h⟩:=bind_some h;refine I8 cf60 Y N0 (λI=>[(0,.v (sr eBE4 a)),(1,.v (sr eBE4 b)),(2,.v (k)),(11,.v (sr eBE4 a)),fi 12 (Ar.len a),fi 13 I]) (λI G=>B9 Eq D [] G) (λx e l G=>match(generalizing:=false) x with| .inl y=>e= .exit 0/\l=[(0,.v (sr eBE4 a)),(1,.v (sr eBE4 b))]/\B9 Eq D [] G| .inr y=>e= .ret/\l=[fi 6 y]/\B9 Eq D [] G) za3 ?_ X ?_ Q ?_
 ·intro I H o Q h;cbv;apply C2 Y h<;>intro _ h
  ·cbv;refine E6 Y eBE9 h λf h=>?_;cbv;refine G0 Y Q λj H Q=>?_;cbv;refine C5 Y Q 0 rfl rfl λH Q=>?_;cbv;apply K2 Y;cbv;apply C2 Y h<;>intro _ h
   ·exact Zg
   cbv;refine E6 Y eBE9 h λx5 h=>?_;cbv;apply C3 Y Q 0 rfl;cbv;refine AM Y (g:=λi=>vi i) h (λi X=>c f x5 i X) .z λi h=>?_;exact Zg
  exact Zg
 ·exact .e2 (.e4 .z)
 clear X
 rcases d with m|p
 ·rintro e l H ⟨rfl,rfl,Q⟩;exact Zg
 rintro e l H ⟨rfl,rfl,Q⟩;exact Zg
def cf61:=cfB [] [(1,9)]
def c61 (N a b r)(h:CF N a b=some r):B8 prog 61 [(V8 a),(V8 b)] (vi r):=by
 unfold CF at h
 refine R4 cf61 func61 call61 ntmps61 ?_;intro E D K Y J Q
 repeat' (cbv;first|refine B3 Y h (c64 _ _ _) (.refl _) λ_ h=>?_|refine B3 Y h (c62 _ _) (.cons (.lit _ (I6 (rfl) (I6 (rfl) (F3)))) (.refl _)) λ_ h=>?_|refine E3 Y (g:=λe=>vi e) h (c63 _ _ _) (.refl _) λe h=>?_|(cases h;exact J Q (.refl _)))
@[reducible, instance] def zc61 (N aG aU):=Ct.mk (f:=61) (c61 N aG aU)
def c17 (N p b r)(h:X1 N p b=some r):B8 prog 17 [(BX p),(BX b)] (vi r):=by
 refine R4 cf0 func17 call17 ntmps17 ?_;intro E D K Y J Q;cbv;refine B3 Y (g:=λa=>vi a) h (λa X=>c60 N p.dE b.dE (.func (.func 61) [] []) (λe i=>CF N e i) (λe i r X=>B8.value (F:=[]) (C:=[]) (c61 N e i r X)) a X) .z λa h=>?_;exact Zg
@[reducible, instance] def zc17 (N aB aC):=Ct.mk (f:=17) (c17 N aB aC)
def c57 {cmp:D6->D6->OS Int}{g:Nat}{C:Up V}(e:∀vals w,(callFunc g vals).run prog w= .ok (.enter g vals) w)(X:∀a b r,cmp a b=some r->B8 prog g ([(BX a),(BX b)]++C) (vi r)){l r:Up D6}(h:PS cmp l=some r):
 QL prog 57 (.func (.func g) [] C) 1 (lst eBE8 l) (lst eBE8 r):=ZL Go.Proofs.Tryz.sorts57 call57 (va:=λx=>(MW x)) eBF8 (λ_=>rfl) e X h
def cf121:=cfA [0]
def c121 (N r)(h:Hn N=some r):B8 prog 121 [] (.agg [.func (.func 160) [] [],.func (.func 161) [] [],.func (.func 162) [] [],.func (.func 163) [] [],.func (.func 164) [] [],.func (.func 165) [] [],.func (.func 165) [] [],.func (.func 165) [] []]):=by
 refine R4 cf121 func121 call121 ntmps121 ?_;intro E D K Y J Q;exact Zg
@[reducible, instance] def zc121 (N):=Ct.mk (f:=121) (c121 N)
def c253 (N a r)(h:LT N a=some r):B8 prog 253 [vi a] (.str r):=An1 Go.Proofs.Tryz.laysNm283 call253 h
@[reducible, instance] def zc253 (N bH):=Ct.mk (f:=253) (c253 N bH)
def c228 (N b k l r)(h:DX N b k l=some r):QM prog 228 [.int .u64 k,vi l] 1 (lst (V.int .u8) b) (lst (V.int .u8) r):=by
 intro H0 e a g;refine FO (T:=TT) (F:=upd H0 e.id none) cf0 N0 func228 za9 za3 call228 ntmps228 za9 za9 ?_;intro E K Y J c;have Q:B9 Eq (upd H0 e.id none) [ob e 1 (V.int .u8) b] H0:=B9.startO g;have a:An e (Ar.len b):=Ph a
 repeat' (cbv;first|apply C2 Y h<;>intro _ h|refine B3 Y h (c253 _ _) .z λ_ h=>?_|(cases h;exact J n _ _ (Bx Y i) (Q))|(cases h;done)|refine Bj3 Y za5 Q a 0 rfl h λ_ n H i Q h=>?_)
def c196 (N b e g r)(h:FV N b e g=some r):QM prog 196 [vi e,vi g] 1 (lst (V.int .u8) b) (lst (V.int .u8) r):=by
 intro H0 i a k;refine FO (T:=TT) (F:=upd H0 i.id none) cf0 N0 func196 za9 za3 call196 ntmps196 za9 za9 ?_;intro E K Y J c;have Q:B9 Eq (upd H0 i.id none) [ob i 1 (V.int .u8) b] H0:=B9.startO k;have a:An i (Ar.len b):=Ph a;cbv;apply C2 Y h<;>intro _ h
 ·cbv;refine Ih (f:=(V.int .u8)) Y (λ_=>rfl) za5 Q a 0 rfl (m:=[45]) (FW (f:=(V.int .u8)) Y (λ_=>rfl) (.lstc .z (.lst0))) h λx o H l Q h=>?_;cbv;refine Ke Y (f:=(V.int .u8)) Q l 0 rfl h (c228 N x (Ar.neg .u64 (Ar.wr .u64 e)) g) .z λd y H n Q h=>?_;cbv;cases h;exact J y _ _ (Bx Y n) (Q)
 cbv;refine Ke Y (f:=(V.int .u8)) Q a 0 rfl h (c228 N b (Ar.wr .u64 e) g) .z λj P H t Q h=>?_;cbv;cases h;exact J P _ _ (Bx Y t) (Q)
def c166 (N b g i r)(h:S4 N b g i=some r):QM prog 166 [vi g,vi i] 1 (lst (V.int .u8) b) (lst (V.int .u8) r):=by
 intro H0 e a k;refine FO (T:=TT) (F:=upd H0 e.id none) cf0 N0 func166 za9 za3 call166 ntmps166 za9 za9 ?_;intro E K Y J c;have Q:B9 Eq (upd H0 e.id none) [ob e 1 (V.int .u8) b] H0:=B9.startO k;have a:An e (Ar.len b):=Ph a;cbv;refine Ke Y (f:=(V.int .u8)) Q a 0 rfl h (c196 N b g i) .z λl1 n H l Q h=>?_;cbv;cases h;exact J n _ _ (Bx Y l) (Q)
end Go.Ab
