/- . -/
import Derived.Test.YtaoapcidgbaagaaGreatDoorM14
set_option linter.all false
open Go.Ab.Ar (ar lst mx nt_eq)
namespace Go.Ab
open Go.RowKit Go.Proofs Go.Proofs.Tryz J6
variable [Ar][J6]
set_option maxRecDepth 100000
def cfo133:Cf:=⟨[6000002],[],[],[],[],[]⟩
def o133 (N b r)(h:Bx N b=some r):BF9 prog 133 [(D5 b)] 17 (lst eCl3 r.1) (λo=>.tup [o,sr eCl1 r.2.1,vi r.2.2]):=by
 intro H0;refine YI (T:=TT) (F:=H0) (mk:=λo=>.tup [o,sr eCl1 r.2.1,vi r.2.2]) (Na.tup [.bad,sr eCl1 r.2.1,vi r.2.2] 0 OC) cfo133 K9 func133 QX JO call133 ntmps133 QX QX ?_;intro E K Y J v;have Q:C3 Eq H0 [] H0:=.start D7 rfl;cbv;refine RH Y (f:=eCl3) Q λw H k Q=>?_;cbv;refine C1 Y h (Sy N b) .z λx h=>?_;cbv;apply E3 Y h<;>intro _ h
 ·cbv;refine RH Y (f:=eCl3) Q λl H e Q=>?_;cbv;cases h;exact J l _ 0 _ _ (BH Y e) rfl Q (.tup (.r (.cons (.lit _ (E4)) .z)))
 cbv;refine AW6 Y (f:=eCl3) (g:=λa=>a.1) (mk:=λa o=>.tup [o,sr eCl1 a.2.1,vi a.2.2]) h (o130 N b) .z Q λa n H i Q h=>?_;cbv;cases h;exact J n _ 0 _ _ (BH Y i) rfl Q (.tup .z)
def cf132:Cf:=⟨[4],[(10,10)],[],[],[(55,5)],[]⟩
def c132 (N b r) (h:FK N b=some r):Gj prog 132 (λp=>[p,.eref [sr eCl1 b] 0]) (List.map (λ(x:(Int×(Up C5)))=>[vi x.1,sr eCl3 x.2]) r) Zc:=by
 unfold FK at h
 obtain⟨⟨w0,u0⟩,O,B⟩:=bind_some h;clear h;have B:=J9 B;subst B;have h:=O;clear O;refine M9 cf132 K9 func132 QX JO call132 ntmps132 QX (λ_=>rfl) ?_;intro p I D U T W tl F E H K Y Q J t
 have Q:C3 (I (List.map (λ(x:(Int×(Up C5)))=>[vi x.1,sr eCl3 x.2]) (w0++[])++tl)) F [] H:=by rw[F2];exact Q
 cbv;apply L6 Y;cbv;obtain⟨w2,w3,s6,X,h,R⟩:=M2 h
 rw[R,E1]at Q
 clear R;refine Dj cf132 Y K9 (γ:=Unit) (λA g=>[(0,.v (p)),(1,.v (.eref [sr eCl1 b] 0)),(10,.v (sr eCl1 b)),fi 11 (Ar.len b),fi 12 A]) (λA g w k=>C3 (I (List.map (λ(x:(Int×(Up C5)))=>[vi x.1,sr eCl3 x.2]) w++tl)) F [] k) (λx e l w k=>e= .exit 0/\l=[]/\C3 (I (List.map (λ(x:(Int×(Up C5)))=>[vi x.1,sr eCl3 x.2]) w++tl)) F [] k) (λe l k=>(e= .ret/\l=[]/\C3 D F [] k)) JO ?_ (w':=w3++[]) () X ?_ ?_ ?_ ?_
 ·rintro A _ w4 S H o Q h
  skip
  repeat' (cbv;first|apply E3 Y h<;>intro _ h|refine AW6 Y (f:=eCl3) (g:=λy=>y.1) (mk:=λy o=>.tup [o,sr eCl1 y.2.1,vi y.2.2]) h (o133 N q) .z Q λy C H v Q h=>?_|refine G0 Y eCl5 h λq h=>?_|apply E0 Y Q 0 rfl|refine D6 Y Q 0 rfl rfl λH Q=>?_|refine G3 Y Q λs H Q=>?_|apply RI Y v)
  ·cbv;obtain⟨aa,L,G,X,h,R⟩:=M2 h
   rw[R,E1]at Q
   clear R;refine Dj cf132 Y K9 (γ:=OG) (λi g=>[(0,.v (p)),(1,.v (.eref [sr eCl1 b] 0)),fi 3 A,(5,.v (.own g.id g.lo g.n)),(6,.v (sr eCl1 y.2.1)),(10,.v (sr eCl1 b)),fi 11 (Ar.len b),fi 12 A,fi 24 (Ar.len y.1),fi 25 i.1]) (λi g w k=>Cj g (Ar.len i.2)/\C3 (I (List.map (λ(x:(Int×(Up C5)))=>[vi x.1,sr eCl3 x.2]) w++tl)) F [ob g 17 eCl3 i.2,cb s (E2 q)] k) (λx e l w k=>∃c:OG,Cj c (Ar.len x)/\e= .exit 2/\l=[(0,.v (p)),(1,.v (.eref [sr eCl1 b] 0)),fi 3 A,(5,.v (.own c.id c.lo c.n)),(10,.v (sr eCl1 b)),fi 11 (Ar.len b),fi 12 A]/\C3 (I (List.map (λ(x:(Int×(Up C5)))=>[vi x.1,sr eCl3 x.2]) w++tl)) F [ob c 17 eCl3 x,cb s (E2 q)] k) (λe l k=>False) JO ?_ (w':=L++S) C X ?_ ?_ ?_ ?_
   ·rintro i P ab ac H o ⟨a,Q⟩ h
    skip
    repeat' (cbv;first|apply E3 Y h<;>intro _ h|refine G0 Y eCl5 h λ_ h=>?_|refine U8 Y (g:=λn=>vi n) h (c134 _ _ _) .z λn h=>?_|refine Hz Y Q a 0 rfl h λh=>?_|(refine Hy Y (f:=eCl3) (esz:=17) (tz:=1) (off:=0) (u:=(λd:C5=>{d with eA:=A})) (λd=>⟨.int .i64 A,.refl _,rfl,rfl,(by rw[eCn4,eCn4];rfl)⟩) Sz Q a 0 rfl h λ_ H a h Q=>?_)|refine Kr Y eCn4 Q a 0 rfl h λ_ h=>?_|(refine Hy Y (f:=eCl3) (esz:=17) (tz:=1) (off:=1) (u:=(λj:C5=>{j with To:=n})) (λj=>⟨.int .i64 n,.refl _,rfl,rfl,(by rw[eCn4,eCn4];rfl)⟩) Sz Q a 0 rfl h λ_ H a h Q=>?_))
    ·cbv;obtain⟨m,rfl⟩:=D0 h
     rw[<-m]at Q
     exact zcg
    ·cbv;obtain⟨m,rfl⟩:=D0 h
     rw[<-m]at Q
     exact zcg
    cbv;obtain⟨m,rfl⟩:=D0 h
    rw[<-m]at Q
    exact .inl ⟨_,_,rfl,⟨P,a,rfl,rfl,Q⟩,.e rfl (.e2 (.e4 .z)),rfl⟩
   ·exact .e2 (.e4 (.e4 .z))
   ·exact⟨v,Q⟩
   ·rintro e l H ⟨Z,V,rfl,rfl,Q⟩;cbv;refine RJ Y Q V 0 rfl λH Q=>?_;cbv;obtain⟨M,h,R⟩:=Q5 h
    rw[R,E1]at Q
    clear R;have Q:C3 (I ([vi A,sr eCl3 G]::(List.map (λ(x:(Int×(Up C5)))=>[vi x.1,sr eCl3 x.2]) (M++S)++tl))) F [cb s (E2 q)] _:=Q;refine Be Y U T W Q .z (λH Q=>?_) (λH Q=>?_)
    ·cbv;apply HC Y (nt_eq _);cbv;obtain⟨m,rfl⟩:=D0 h
     rw[<-m]at Q
     exact⟨_,(),rfl,.e rfl (.e4 .z),rfl,Q.tail⟩
    clear h;cbv;apply HB Y (nt_eq _);cbv;exact .inr ⟨_,⟨rfl,rfl,Q.tail⟩,.z,rfl⟩
   rintro e l H z;exact z.elim
  cbv;obtain⟨m,rfl⟩:=D0 h
  rw[<-m]at Q
  exact L1
 ·exact FW
 ·exact Q
 ·rintro e l H ⟨rfl,rfl,Q⟩;cbv;obtain⟨m,_⟩:=D0 h
  rw[<-m]at Q
  exact Hw
 rintro e l H z;obtain⟨rfl,rfl,Q⟩:=z;clear h;cbv;exact t _ _ _ Q trivial
def c95 (N a r)(h:Fm N a=some r):Bj prog 95 [sr eCl1 a] (λv=>Fs prog v (r.map λ(x:(Int×(Up C5)))=>[vi x.1,sr eCl3 x.2])):=by
 refine N7 OM K9 func95 QX JO call95 ntmps95 QX QX ?_;intro E H0 K Y J;have Q:C3 Eq H0 [] H0:=.start D7 rfl;cbv;exact J _ _ _ Q (O9 call132 (c132 N a r h))
def Th:=F5 [] [] [(8,5),(51,17)]
def c136 (N:Nat):∀n F r,N9 N n F=some r->B1 prog 136 [(D5 F)] (sr eCn7 r):=by
 intro n
 induction n with
 |zero=>intro F r h;cases h
 |succ n ih=>
 intro F r h
 unfold N9 at h
 refine M5 Th func136 call136 ntmps136 ?_;intro E D K Y J Q;cbv;obtain⟨A,X,h⟩:=bind_some h;refine S8 Th Y K9 (xn D [(1,.v (.eref (E2 F) 0)),(3,.v (.sl [] .nil)),fi 7 F.Op,(8,.v (.bool A))] []) JO ?_ ?_
 ·exact F4
 clear X;rintro e l H ⟨rfl,rfl,Q⟩;cbv;apply E3 Y h<;>intro _ h
 ·exact Zg
 repeat' (cbv;first|apply E3 Y h<;>intro _ h|apply L6 Y|refine C1 Y h (ih _) .z λw h=>?_|refine G0 Y eCl5 h λ_ h=>?_|(cases h;exact J Q (.ro _ _))|refine Br (f:=eCn7) Y TV Sz (Q.tl0 (t:=.nil) rfl) 0 rfl trivial (l:=[]) (m:=[(⟨F.dZ,F.Typ,F.Var,F.dU⟩:Ck)]) (.lst0) (.lstc (.eq (eCq2 (⟨F.dZ,F.Typ,F.Var,F.dU⟩:Ck)) .z) (.lst0)) h λv _ H Q a h=>?_|refine Br (f:=eCn7) Y TV Sz Q 0 rfl a (l:=v) (m:=w) .z .z h λ_ _ H Q _ h=>?_)
 ·cbv;replace Q:=Q.tl0 (t:=.nil) rfl;obtain⟨s,X,h⟩:=bind_some h;refine S0 Th Y K9 (γ:=G5) (λb g=>[(3,.v (.sl (lst eCn7 b.1) g)),(19,.v (sr eCl1 F.dT)),fi 20 (Ar.len F.dT),fi 21 b.2]) (λb g i=>T3 g/\C3 Eq D [.tl g] i) (λx e l i=>∃P:G5,T3 P/\e= .exit 1/\l=[(3,.v (.sl (lst eCn7 x) P))]/\C3 Eq D [.tl P] i) JO ?_ .nil X ?_ ?_ ?_
  ·rintro b u H o ⟨k,Q⟩ h;cbv;apply E3 Y h<;>intro _ h
   ·cbv;refine G0 Y eCl5 h λq h=>?_;cbv;refine C1 Y h (ih q) .z λj h=>?_;cbv;refine Br (f:=eCn7) Y TV Sz Q 0 rfl k (l:=b.1) (m:=j) .z .z h λd z H Q c h=>?_;exact Zg
   exact Zg
  ·exact .v (.slt _ (.lst0)) (.e rfl (.e2 .z))
  ·exact Zy
  clear X;rintro e l H ⟨p,V,rfl,rfl,Q⟩;exact Zg
 cbv;obtain⟨y,X,h⟩:=bind_some h;refine S8 Th Y K9 (xn D [(1,.v (.eref (E2 F) 0)),(3,.v (.sl [] .nil)),(51,.v (.bool y))] []) JO ?_ ?_
 ·exact F4
 clear X;exact S1
@[reducible, instance] def zc136 (N n aA):=Ct.mk (c136 N n aA)
def c96 (N F r)(h:Bh N F=some r):B1 prog 96 [(D5 F)] (.tup [sr eCn7 r.1,vi r.2]):=by
 refine M5 OM func96 call96 ntmps96 ?_;exact T0
def cf61:Cf:=⟨[2,3,4,7],[(17,3),(3000014,0),(3000014,1),(3000014,2),(3000014,3),(3000014,6),(3000014,7),(3000014,8),(3000014,10),(3000014,12)],[],[2000014],[],[(17,2,[2])]⟩
set_option maxHeartbeats 2000000 in
def c61 (N aA r) (h:FL N aA=some r):B1 prog 61 [(D5 aA)] (.tup [(Vo r.1),sr eCl1 r.2.1,vi r.2.2]):=by
 unfold FL at h
 refine M5 cf61 func61 call61 ntmps61 ?_;intro E D K Y J Q;cbv;refine G3 Y Q λP H Q=>?_;cbv;refine G3 Y Q λV H Q=>?_;cbv;refine G3 Y Q λc H Q=>?_;cbv;refine C1 Y h (c93 N aA) (.refl _) λr4 h=>?_;cbv;refine E3 Y h (λ_ h=>?_) λ_ h=>?_
 ·cbv;refine D6 Y Q 2 rfl rfl λH Q=>?_;cbv;refine D6 Y Q 1 rfl rfl λH Q=>?_;cbv;refine D6 Y Q 0 rfl rfl λH Q=>?_;cbv;refine E0 Y Q 2 rfl ?_;cbv;refine E0 Y Q 1 rfl ?_;cbv;refine E0 Y Q 0 rfl ?_;exact S2
 cbv;refine G3 Y Q λd H Q=>?_;cbv;refine C1 Y h (c94 N aA) (.refl _) λr6 h=>?_;cbv;refine D6 Y Q 0 rfl rfl λH Q=>?_;cbv;refine D6 Y Q 0 rfl rfl λH Q=>?_;cbv;refine E3 Y h (λ_ h=>?_) λ_ h=>?_
 ·cbv;refine D6 Y Q 3 rfl rfl λH Q=>?_;cbv;refine D6 Y Q 2 rfl rfl λH Q=>?_;cbv;refine D6 Y Q 1 rfl rfl λH Q=>?_;cbv;refine E0 Y Q 3 rfl ?_;cbv;refine E0 Y Q 2 rfl ?_;cbv;refine E0 Y Q 1 rfl ?_;exact S2
 cbv;refine Au Y h (c95 N r4.1) (.refl _) λr7 v8 af h=>?_;cbv;replace Q:=Q.cast (L':=[cb d [vi r6.1,vi r6.2.1,.sl (lst eCn2 ([])) .nil,.sl (lst eCl3 ([])) .nil],cb c [vi 0],cb V [.sl [] .nil],cb P [vi 0,vi 0,.sl [] .nil,.sl [] .nil]]) (by simp only[ob,cb,sr,<-E4]<;>rfl);replace Q:=Q.tl0 (t:=.nil) rfl;replace Q:=Q.tl0 (t:=.nil) rfl;obtain⟨ai,X,h⟩:=bind_some h;refine FA cf61 Y K9 (ι:=Unit) (enc:=λ(x:(Int×(Up C5)))=>[vi x.1,sr eCl3 x.2]) (λ(a:K6) F H=>∃g:G5×G5,(T3 g.1/\T3 g.2)/\C3 Eq F [.tl g.1,.tl g.2,cb d [vi a.eK,vi a.eQ,.sl (lst eCn2 a.eH) g.2,.sl (lst eCl3 a.eG) g.1],cb c [vi 0],cb V [.sl [] .nil],cb P [vi 0,vi 0,.sl [] .nil,.sl [] .nil]] H) (λ(r:(K6×Int)) e F H=>∃g:G5×G5,(e= .ret/\T3 g.1/\T3 g.2)/\C3 Eq F [.tl g.1,.tl g.2,cb d [vi r.1.eK,vi r.1.eQ,.sl (lst eCn2 r.1.eH) g.2,.sl (lst eCl3 r.1.eG) g.1],cb c [vi r.2],cb V [.sl [] .nil],cb P [vi 0,vi 0,.sl [] .nil,.sl [] .nil]] H) (λi a M=>[(2,.v (.ref P 0)),(3,.v (.ref V 0)),(4,.v (.ref c 0)),(5,.v (.eref [sr eCl1 r4.1] 0)),(7,.v (.ref d 0)),fi 8 M.1,(9,.v (sr eCl3 M.2))]) (λi a M F H=>∃g:G5×G5,(T3 g.1/\T3 g.2)/\C3 Eq F [.tl g.1,.tl g.2,cb d [vi a.eK,vi a.eQ,.sl (lst eCn2 a.eH) g.2,.sl (lst eCl3 a.eG) g.1],cb c [vi 0],cb V [.sl [] .nil],cb P [vi 0,vi 0,.sl [] .nil,.sl [] .nil]] H) (λ_=>G7.ex λ_=>C3.stable D7 _) (λ_ _=>G7.ex λ_=>C3.stable D7 _) (λ_ _ _=>G7.ex λ_=>C3.stable D7 _) af X (⟨⟨.nil,.nil⟩,⟨trivial,trivial⟩,Q⟩) Sz (λ_=>rfl) JO JO ?_ ?_ ?_ ?_
 ·rintro E ag M a O H Y ⟨⟨I,L⟩,⟨k,n⟩,Q⟩;clear X h;cbv;exact⟨(),⟨⟨I,L⟩,⟨k,n⟩,Q⟩,.e rfl (.e2 (.e4 .z)),rfl⟩
 ·rintro E ag _ M a O H o Y hF h ⟨⟨I,L⟩,⟨k,n⟩,Q⟩;clear X;cbv;refine G0 Y eCl5 h λah h=>?_;cbv;refine C1 Y h (c96 N ah) (.refl _) λT h=>?_;cbv;refine E3 Y h (λ_ h=>?_) λ_ h=>?_
  ·cbv;refine D6 Y Q 5 rfl rfl λH Q=>?_;cbv;refine D6 Y Q 4 rfl rfl λH Q=>?_;cbv;refine D6 Y Q 3 rfl rfl λH Q=>?_;cbv;cases h;exact⟨_,rfl,rfl,⟨⟨I,L⟩,⟨rfl,⟨k,n⟩⟩,Q⟩⟩
  cbv;obtain⟨y,X,h⟩:=bind_some h;refine S8 cf61 Y K9 (λe l H1=>∃u1:G5,T3 u1/\∃u2:G5,T3 u2/\e= .normal/\l=[]/\C3 Eq O [.tl u1,.tl u2,cb d [vi y.eK,vi y.eQ,.sl (lst eCn2 y.eH) u2,.sl (lst eCl3 y.eG) u1],cb c [vi 0],cb V [.sl [] .nil],cb P [vi 0,vi 0,.sl [] .nil,.sl [] .nil]] H1) JO ?_ ?_
  ·clear h;have h:=X;clear X;cbv;obtain⟨R,u,h⟩:=bind_some h;obtain⟨S,z,h⟩:=bind_some h
   repeat' first|refine And.intro ?_ ?_|(refine E0 Y Q 2 rfl ?_;cbv)|(refine Br (f:=eCn2) Y Bd2 Sz Q 1 rfl n (l:=a.eH) (m:=[(⟨T.1⟩:Oj)]) (.refl _) (.lstc (.eq (eCq3 (⟨T.1⟩:Oj)) (.refl _)) (.lst0)) (Kf u) λR U H Q A hh=>?_;obtain rfl:=J9 hh;cbv)|(refine Br (f:=eCl3) Y SE Sz Q 0 rfl k (l:=a.eG) (m:=M.2) (.refl _) (.refl _) (Kf z) λS W H Q B hh=>?_;obtain rfl:=J9 hh;cbv)|(refine D6 Y Q 2 rfl rfl λH Q=>?_;cbv)|(have h:=J9 h;subst h;exact⟨_,⟨W,B,U,A,rfl,rfl,Q⟩,.z,rfl⟩)
  clear X;rintro e l H ⟨Z,C,aa,G,rfl,rfl,Q⟩;cbv;cases h;exact⟨_,rfl,⟨⟨Z,aa⟩,⟨C,G⟩,Q⟩⟩
 ·rintro w v H rfl hd ⟨⟨j,p⟩,⟨ab,ac⟩,Q⟩;have Q:C3 Eq D [.tl j,.tl p,cb d [vi v.eK,vi v.eQ,.sl (lst eCn2 v.eH) p,.sl (lst eCl3 v.eG) j],cb c [vi 0],cb V [.sl [] .nil],cb P [vi 0,vi 0,.sl [] .nil,.sl [] .nil],.blk w DB] H:=C3.dblk hd Q;clear hd;clear X;cbv;refine E0 Y Q 2 rfl ?_;cbv;refine L6 Y ?_;cbv;refine E3 Y h (λ_ h=>?_) λ_ h=>?_
  ·cbv;refine D6 Y Q 5 rfl rfl λH Q=>?_;cbv;refine D6 Y Q 4 rfl rfl λH Q=>?_;cbv;refine D6 Y Q 3 rfl rfl λH Q=>?_;cbv;refine Ei Y Q 6 rfl λH Q=>?_;cbv;refine E0 Y Q 5 rfl ?_;cbv;refine E0 Y Q 4 rfl ?_;cbv;refine E0 Y Q 3 rfl ?_;exact S2
  cbv;refine XK Y Q 5 rfl λH1 hT hW=>?_;cbv;refine E0 Y hW 2 rfl ?_;cbv;refine FQ Y trivial ?_;cbv;refine XM Y Q 5 rfl hT λH Q=>?_;cbv;refine D6 Y Q 4 rfl rfl λH Q=>?_;cbv;refine D6 Y Q 3 rfl rfl λH Q=>?_;cbv;refine Ei Y Q 6 rfl λH Q=>?_;cbv;refine E0 Y Q 5 rfl ?_;cbv;refine E0 Y Q 4 rfl ?_;cbv;refine E0 Y Q 3 rfl ?_;cbv;cases h;exact J Q (.tup (.cons (.agg (.cons (.refl _) (.cons (.refl _) (.cons (.ro _ _) (.cons (.ro _ _) (.refl _)))))) (.refl _)))
 rintro w b e H rfl hd hX;clear X
 rcases hX with⟨⟨q,s⟩,⟨rfl,ad,ae⟩,Q⟩
 have Q:C3 Eq D [.tl q,.tl s,cb d [vi b.1.eK,vi b.1.eQ,.sl (lst eCn2 b.1.eH) s,.sl (lst eCl3 b.1.eG) q],cb c [vi b.2],cb V [.sl [] .nil],cb P [vi 0,vi 0,.sl [] .nil,.sl [] .nil],.blk w DB] H:=C3.dblk hd Q;clear hd;cbv;refine Ei Y Q 6 rfl λH Q=>?_;cbv;refine E0 Y Q 5 rfl ?_;cbv;refine E0 Y Q 4 rfl ?_;cbv;refine E0 Y Q 3 rfl ?_;exact S2
@[reducible, instance] def zc61 (N aA):=Ct.mk (c61 N aA)
def cf36:=VY [2]
def c36 (N F r)(h:Gu N F=some r):B1 prog 36 [(D5 F)] (.tup [(Vo r.1),vi r.2]):=by
 refine M5 cf36 func36 call36 ntmps36 ?_;exact T0
def c62 (N:Nat)(a:Up A0)(e:V)(b:A0->OS Bool)(k:∀i q,b i=some q->U9 prog e [(D5 i)] (.bool q))(r:Bool)(h:Q9 N a b=some r):B1 prog 62 [sr eCl1 a,e] (.bool r):=by
 refine M5 OM func62 call62 ntmps62 ?_;intro E D K Y J Q;cbv;refine C1 Y h (c97 N a e b k) .z λl h=>?_;exact Zg
def cf37:=F5 [] [] [(5,4)]
def K37 (N n:Nat):Prop:=∀(F:A0) (r:Bool),AN N n F=some r->B1 prog 37 [(D5 F)] (.bool r)
def K63 (N n:Nat):Prop:=∀(a:A0) (r:Bool),BP N n a=some r->B1 prog 63 [(D5 a)] (.bool r)
def k37 (N n:Nat)(a:K63 N n):K37 N (n+1):=by
 intro k r h
 unfold AN at h
 refine M5 cf37 func37 call37 ntmps37 ?_;intro E D K Y J Q;cbv;obtain⟨A,X,h⟩:=bind_some h;refine S8 cf37 Y K9 (xn D [(1,.v (.eref (E2 k) 0)),(5,.v (.bool A))] []) JO ?_ ?_
 ·exact F4
 clear X;rintro e l H ⟨rfl,rfl,Q⟩;cbv;apply E3 Y h<;>intro _ h
 ·cbv;refine C1 Y (g:=λb=>.bool b) h (λb X=>c62 N k.dT (.func (.func 63) [] []) (λi=>BP N n i) (λi r X=>B1.value (F:=[]) (C:=[]) (a i r X)) b X) .z λb h=>?_;exact Zg
 exact Zg
def k63 (N n:Nat)(a:K37 N n):K63 N (n+1):=by
 intro b r h
 unfold BP at h
 refine M5 OM func63 call63 ntmps63 ?_;intro E D K Y J Q;cbv;refine C1 Y h (a b) .z λe h=>?_;exact Zg
def BY9 (N:Nat):∀n,K37 N n/\K63 N n:=by
 intro n
 induction n with
 |zero=>exact⟨(by intro F r h;unfold AN at h;cases h),(by intro e r h;unfold BP at h;cases h)⟩
 |succ n ih=>
  obtain⟨a,b⟩:=ih;exact⟨k37 N n b,k63 N n a⟩
def c37 (N n F r)(h:AN N n F=some r):B1 prog 37 [(D5 F)] (.bool r):=(BY9 N n).1 F r h
def c74 (N:Nat)(a:Up Y5)(e:V)(i:Y5->OS Bool)(l:∀k q,i k=some q->U9 prog e [(AR9 k)] (.bool q))(r:Int)(h:AQ N a i=some r):B1 prog 74 [sr eCn6 a,e] (vi r):=by
 refine M5 OM func74 call74 ntmps74 ?_;intro E D K Y J Q;cbv;apply L6 Y;cbv;obtain⟨s,X,h⟩:=bind_some h;refine J2 OM Y K9 (λA=>[(0,.v (sr eCn6 a)),(1,.v (e)),fi 7 (Ar.len a),fi 8 A]) (xi D) (xm D 0 (λ_=>[]) (λy=>[fi 4 y])) JO ?_ X Zf Q Zq;intro A H o Q h;cbv;apply E3 Y h<;>intro _ h
 ·cbv;refine G0 Y eCp2 h λn h=>?_;exact zab
 exact Zg
def c75 (N a r)(h:Di N a=some r):B1 prog 75 [(AR9 a)] (.bool r):=by
 refine M5 OM func75 call75 ntmps75 ?_;exact T0
def c41 (N b r)(h:CH N b=some r):B1 prog 41 [(SB b)] (vi r):=by
 refine M5 OM func41 call41 ntmps41 ?_;intro E D K Y J Q;cbv;refine C1 Y (g:=λa=>vi a) h (λa X=>c74 N b.Fields (.func (.func 75) [] []) (λe=>Di N e) (λe r X=>B1.value (F:=[]) (C:=[]) (c75 N e r X)) a X) .z λa h=>?_;exact Zg
@[reducible, instance] def zc41 (N aB):=Ct.mk (c41 N aB)
def cf140:=VZ [] [(7,9)]
def c140 (N b a r)(h:Gs N b a=some r):B1 prog 140 [(c120 b),(Bo a)] (.tup [vi r.1,vi r.2]):=by
 refine M5 cf140 func140 call140 ntmps140 ?_;exact T0
@[reducible, instance] def zc140 (N bJ aC):=Ct.mk (c140 N bJ aC)
def TK:=F5 [] [] [(15,8),(22,13)]
def c141 (N b a r) (h:Eu N b a=some r):B1 prog 141 [vi b,sr (V.int .i64) a] (vi r):=by
 refine M5 TK func141 call141 ntmps141 ?_;intro E D K Y J Q;cbv;apply L6 Y;cbv;obtain⟨s,X,h⟩:=bind_some h;refine J2 TK Y K9 (λA=>[fi 0 b,(1,.v (sr (V.int .i64) a)),(8,.v (sr (V.int .i64) a)),fi 9 (Ar.len a),fi 10 A]) (xi D) (xm D 0 (λ_=>[]) (λ_=>[fi 4 9])) JO ?_ X Zf Q Zq;intro A H o Q h;cbv;apply E3 Y h<;>intro _ h
 ·cbv;refine G0 Y (λ_=>rfl) h λi h=>?_;cbv;obtain⟨k,X,h⟩:=bind_some h;refine S8 TK Y K9 (xn D [fi 0 b,(1,.v (sr (V.int .i64) a)),fi 6 i,(7,.b true),(8,.v (sr (V.int .i64) a)),fi 9 (Ar.len a),fi 10 A,fi 14 b,(15,.v (.bool k))] []) JO ?_ ?_
  ·exact F4
  clear X;rintro e l H ⟨rfl,rfl,Q⟩;cbv;apply E3 Y h<;>intro _ h
  ·exact Zg
  cbv;obtain⟨n,X,h⟩:=bind_some h;refine S8 TK Y K9 (xn D [fi 0 b,(1,.v (sr (V.int .i64) a)),fi 6 i,(7,.b true),(8,.v (sr (V.int .i64) a)),fi 9 (Ar.len a),fi 10 A,fi 14 b,(22,.v (.bool n))] []) JO ?_ ?_
  ·exact F4
  clear X;rintro e l H ⟨rfl,rfl,Q⟩;cbv;apply E3 Y h<;>intro _ h
  ·exact Zg
  cbv;apply E3 Y h<;>intro _ h
  ·cbv;refine G0 Y (λ_=>rfl) h λv h=>?_;exact Zg
  exact Zg
 exact Zg
@[reducible, instance] def zc141 (N aW bL):=Ct.mk (c141 N aW bL)
def c99 (N:Nat):∀n b a r,An N n b a=some r->B1 prog 99 [(c120 b),(Bo a)] (.tup [vi r.1,vi r.2]):=by
 intro n
 induction n with
 |zero=>intro b a r h;cases h
 |succ n ih=>
 intro b a r h
 unfold An at h
 refine M5 OM func99 call99 ntmps99 ?_;intro E D K Y J Q;cbv;apply L6 Y;cbv;apply E3 Y h<;>intro _ h
 ·exact Zg
 cbv;apply L6 Y;cbv;replace Q:=Q.tl0 (t:=.nil) rfl;obtain⟨j,X,h⟩:=bind_some h;refine S0 OM Y K9 (γ:=G5) (λs g=>[(2,.v (.eref (cfo130 b) 0)),(3,.v (.eref (DE a) 0)),(6,.v (.sl (lst (V.int .i64) s.1) g)),(22,.v (sr eCl6 a.dT)),fi 23 (Ar.len a.dT),fi 24 s.2]) (λs g k=>T3 g/\C3 Eq D [.tl g] k) (λx e l k=>match(generalizing:=false) x with| .inl y=>∃i:G5,T3 i/\e= .exit 0/\l=[(3,.v (.eref (DE a) 0)),(6,.v (.sl (lst (V.int .i64) y) i))]/\C3 Eq D [.tl i] k| .inr y=>∃i:G5,T3 i/\e= .ret/\l=[fi 4 0,fi 5 y]/\C3 Eq D [.tl i] k) JO ?_ .nil X ?_ ?_ ?_
 ·rintro s A H o ⟨v,Q⟩ h;cbv;apply E3 Y h<;>intro _ h
  ·cbv;refine G0 Y eCn0 h λx5 h=>?_;cbv;refine C1 Y h (ih b x5) .z λd h=>?_;cbv;apply E3 Y h<;>intro _ h
   ·exact Zg
   cbv;refine Br (f:=(V.int .i64)) Y (λ_=>rfl) Sz Q 0 rfl v (l:=s.1) (m:=[d.1]) .z (.lstc .z (.lst0)) h λz B H Q c h=>?_;exact Zg
  exact Zg
 ·exact zbq
 ·exact Zy
 clear X
 rcases j with C|u
 ·rintro e l H ⟨p,w,rfl,rfl,Q⟩;exact Zg
 rintro e l H ⟨q,P,rfl,rfl,Q⟩;exact Zg
@[reducible, instance] def zc99 (N n bJ aC):=Ct.mk (c99 N n bJ aC)
def c64 (N e a b r)(h:QO N e a b=some r):B1 prog 64 [sr eCm0 e,sr eCm5 a,(Bo b)] (.tup [vi r.1,vi r.2]):=by
 refine M5 OM func64 call64 ntmps64 ?_;intro E D K Y J Q
 repeat' (cbv;first|apply E3 Y h<;>intro _ h|apply L6 Y|refine C1 Y h (c35 _ _) .z λ_ h=>?_|(cases h;exact J Q .z))
 cbv;obtain⟨i,X,h⟩:=bind_some h;exact J2 OM Y K9 (λs=>[(0,.v (sr eCm0 e)),(1,.v (sr eCm5 a)),(5,.v (.eref (DE b) 0)),(20,.v (sr eCm5 a)),fi 21 (Ar.len a),fi 22 s]) (xi D) (xm D 0 (λ_=>[(0,.v (sr eCm0 e)),(1,.v (sr eCm5 a)),(5,.v (.eref (DE b) 0))]) (λ_=>[fi 6 0,fi 7 6])) JO Zi X Zf Q Zq
def c143 (N a b r)(h:YQ N a b=some r):B1 prog 143 [.int .u64 a,.int .u64 b] (.tup [.int .u64 r.1,.int .u64 r.2]):=by
 refine M5 OM func143 call143 ntmps143 ?_;intro E D K Y J Q
 repeat' (cbv;first|(cases h;exact J Q .z)|apply AV9 Y (AC3 Y rfl))
@[reducible, instance] def zc143 (N aI aU):=Ct.mk (c143 N aI aU)
def c100 (N a b r)(h:AD3 N a b=some r):B1 prog 100 [.int .u64 a,.int .u64 b] (.tup [.int .u64 r.1,.int .u64 r.2]):=by
 refine M5 OM func100 call100 ntmps100 ?_;exact T0
def SK:Cf:=⟨[],[(3000009,0),(3000009,1),(3000009,2),(3000009,4),(3000009,5),(3000009,8),(3000009,9)],[(10,3),(26,6)],[2000009],[],[]⟩
set_option maxHeartbeats 2000000 in
def c65 (N j z r) (h:Z8 N j z=some r):B1 prog 65 [sr eCm5 j,vi z] (sr eCm5 r):=by
 refine Ch (T:=TT) SK K9 func65 QX JO call65 ntmps65 QX QX ?_;intro E H0 K Y J G;have Q:C3 Eq H0 [] H0:=.start D7 rfl;cbv;obtain⟨A,X,h⟩:=bind_some h;refine S8 SK Y K9 (xn H0 [(0,.v (sr eCm5 j)),fi 1 z] []) JO ?_ ?_
 ·exact F4
 clear X;rintro e l H ⟨rfl,rfl,Q⟩
 repeat' (cbv;first|apply L6 Y|refine C1 Y h (c100 _ _ _) .z λM h=>?_)
 cbv;obtain⟨S,X,h⟩:=bind_some h;refine S8 SK Y K9 (xn H0 [(0,.v (sr eCm5 j)),(6,.v (.int .u64 M.2))] []) JO ?_ ?_
 ·exact F4
 clear X;rintro e l H ⟨rfl,rfl,Q⟩;cbv;refine XL Y (f:=eCm5) Sz (z0:=((⟨⟨#[]⟩,0⟩:R9):R9)) ((.eq (eCp4 _) .z)) Q h λO I H P h Q=>?_;cbv;refine BL9 (f:=eCm5) Y Q P 0 rfl (m:=j) (Dr (f:=eCm5) Y Ag3 .z) h λR H P Q h=>?_;cbv;obtain⟨U,X,h⟩:=bind_some h;refine S0 SK Y K9 (γ:=OG) (λu g=>[(7,.v (.own g.id g.lo g.n)),fi 8 u.1]) (λu g d=>Cj g (Ar.len u.2)/\C3 Eq H0 [ob g 2 eCm5 u.2] d) (λx e l d=>∃b:OG,Cj b (Ar.len x)/\e= .exit 0/\l=[(7,.v (.own b.id b.lo b.n))]/\C3 Eq H0 [ob b 2 eCm5 x] d) JO ?_ I X ?_ ?_ ?_
 ·rintro u L H o ⟨a,Q⟩ h;cbv;apply RI Y a;cbv;apply E3 Y h<;>intro _ h
  ·cbv;obtain⟨c,X,h⟩:=bind_some h;refine S8 SK Y K9 (λe l d=>∃b:OG,Cj b (Ar.len c.2)/\e= .normal/\l=[(7,.v (.own b.id b.lo b.n)),fi 8 c.1]/\C3 Eq H0 [ob b 2 eCm5 c.2] d) JO ?_ ?_
   ·clear h;have h:=X;cbv;obtain⟨q,k,h⟩:=bind_some h;obtain⟨i,n,h⟩:=bind_some h;obtain⟨s,v,h⟩:=bind_some h
    repeat' first|refine And.intro ?_ ?_|(refine Bi0 Y Q a 0 rfl (Kf k) λq C w p=>?_;obtain rfl:=J9 p;cbv)|(refine Bh9 Y Q a 0 rfl (Kf n) λi D y p=>?_;obtain rfl:=J9 p;cbv)|(refine Aw3 (f:=eCm5) Y Q a 0 rfl w (m:=i) (y) (Kf v) λs H a Q p=>?_;obtain rfl:=J9 p;cbv)|(have h:=J9 h;subst h;exact⟨_,⟨L,a,rfl,rfl,Q⟩,.e2 .z,rfl⟩)
   clear X;rintro e l H ⟨F,B,rfl,rfl,Q⟩;exact Zg
  exact Zg
 ·exact .e2 .z
 ·exact⟨P,Q⟩
 clear X;rintro e l H ⟨t,V,rfl,rfl,Q⟩;cbv;cases h;exact G t _ _ 0 _ _ Q rfl (BH Y V) .z
def c83 (N r)(h:Eg N=some r):B1 prog 83 [] (sr eCl2 r):=by
 refine M5 OM func83 call83 ntmps83 ?_;intro E D K Y J Q;cbv;cases h;exact J Q (.lit _ (G1 ((eCm7 (⟨(-1099511627776),1099511627776⟩:A6)).symm) (E4)))
@[reducible, instance] def zc83 (N):=Ct.mk (c83 N)
def cf101:Cf:=⟨[6,10],[(3,9),(5,12)],[(37,8),(62,12)],[],[],[(3,6,[6]),(5,6,[6])]⟩
def c101 (N:Nat):∀n i b a r,Y6 N n i b a=some r->B1 prog 101 [(Bo i),vi b,vi a] (.tup [(Fx r.1),.bool r.2]):=by
 intro n
 induction n with
 |zero=>intro i b a r h;cases h
 |succ n ih=>
 intro i b a r h
 unfold Y6 at h
 refine M5 cf101 func101 call101 ntmps101 ?_;intro E D K Y J Q;cbv;refine G3 Y Q λk H Q=>?_;cbv;refine E3 Y h (λ_ h=>?_) λ_ h=>?_
 ·exact cfC
 cbv;refine E3 Y h (λ_ h=>?_) λ_ h=>?_
 ·exact cfC
 cbv;obtain⟨s,X,h⟩:=bind_some h;refine S8 cf101 Y K9 (xn D [fi 1 b,fi 2 a,(3,.v (.eref (DE i) 0)),(6,.v (.ref k 0)),(37,.v (.bool s))] [cb k [vi 0,vi 0]]) JO ?_ ?_
 ·clear h;have h:=X;clear X;cbv;refine E3 Y h (λ_ h=>?_) λ_ h=>?_
  ·exact zam
  exact zam
 clear X;rintro e l H ⟨rfl,rfl,Q⟩;cbv;refine E3 Y h (λ_ h=>?_) λ_ h=>?_
 ·cbv;refine G0 Y eCn0 h λd h=>?_;cbv;refine C1 Y h (ih d b a) (.refl _) λx h=>?_;cbv;refine G0 Y eCn0 h λx5 h=>?_;cbv;refine C1 Y h (ih x5 b a) (.refl _) λV h=>?_;cbv;refine G3 Y Q λw H Q=>?_;cbv;refine D6 Y Q 0 rfl rfl λH Q=>?_;cbv;obtain⟨c,X,h⟩:=bind_some h;refine S8 cf101 Y K9 (xn D [(6,.v (.ref k 0)),(8,.v (.eref (IG x.1) 0)),(9,.v (.bool x.2)),(10,.v (.ref w 0)),(11,.v (.bool V.2))] [cb w (IG c),cb k [vi 0,vi 0]]) JO ?_ ?_
  ·clear h;have h:=X;clear X;cbv;refine E3 Y h (λ_ h=>?_) λ_ h=>?_
   ·cbv;refine E0 Y Q 0 rfl ?_;cbv;refine E0 Y Q 0 rfl ?_;cbv;refine D6 Y Q 0 rfl rfl λH Q=>?_;exact zam
   exact zam
  clear X;rintro e l H ⟨rfl,rfl,Q⟩;cbv;refine E0 Y Q 0 rfl ?_;cbv;refine E0 Y Q 0 rfl ?_;cbv;refine D6 Y Q 1 rfl rfl λH Q=>?_;cbv;refine E0 Y Q 1 rfl ?_;exact zb5
 cbv;refine D6 Y Q 0 rfl rfl λH Q=>?_;cbv;refine E0 Y Q 0 rfl ?_;exact zb5
@[reducible, instance] def zc101 (N n aC bC aV):=Ct.mk (c101 N n aC bC aV)
def c149 (N a r)(h:Dw N a=some r):B1 prog 149 [sr eCl2 a] (.tup [sr eCl2 r.1,vi r.2]):=by
 refine M5 OM func149 call149 ntmps149 ?_;exact T0
@[reducible, instance] def zc149 (N aH):=Ct.mk (c149 N aH)
def c171 (N a r)(h:Gq N a=some r):B1 prog 171 [(Bn a)] (vi r):=by
 refine M5 OM func171 call171 ntmps171 ?_;exact T0
@[reducible, instance] def zc171 (N aI):=Ct.mk (c171 N aI)
def cf124:=VZ [4] [(9,12)]
def c124 (N a r)(h:AU N a=some r):B1 prog 124 [sr eCl2 a] (vi r):=by
 refine M5 cf124 func124 call124 ntmps124 ?_;intro E D K Y J Q;cbv;apply L6 Y;cbv;apply E3 Y h<;>intro _ h
 ·exact Zg
 cbv;apply L6 Y;cbv;obtain⟨s,X,h⟩:=bind_some h;exact J2 cf124 Y K9 (λA=>[(0,.v (sr eCl2 a)),(9,.v (sr eCl2 a)),fi 10 (Ar.len a),fi 11 A]) (xi D) (xm D 0 (λ_=>[]) (λy=>[fi 2 y])) JO Zi X Zf Q Zq
@[reducible, instance] def zc124 (N aH):=Ct.mk (c124 N aH)
def c189 (N a b r)(h:MR N a b=some r):B1 prog 189 [sr eCl2 a,sr eCl2 b] (vi r):=by
 refine M5 OM func189 call189 ntmps189 ?_;exact T0
def c172 (N:Nat) (a:Up A6) (b:Int) (i:V) (v:A6->Int->OS Int) (w:∀y P q,v y P=some q->U9 prog i [(Bn y),vi P] (vi q)) (r:(Int×Bool)) (h:Q1 N a b v=some r):B1 prog 172 [sr eCl2 a,vi b,i] (.tup [vi r.1,.bool r.2]):=by
 refine M5 OM func172 call172 ntmps172 ?_;intro E D K Y J Q;cbv;apply L6 Y;cbv;obtain⟨s,X,h⟩:=bind_some h;refine J2 OM Y K9 (λA=>[(0,.v (sr eCl2 a)),fi 1 b,(2,.v (i)),fi 8 (Ar.len a),fi 9 A.1,fi 10 A.2]) (xi D) (xe D 0 λx=>[(0,.v (sr eCl2 a)),fi 1 b,(2,.v (i)),fi 8 (Ar.len a),fi 9 x]) JO ?_ X Zf Q ?_
 ·intro A H o Q h;cbv;apply E3 Y h<;>intro _ h
  ·cbv;apply AV9 Y (AC3 Y rfl);cbv;refine G0 Y eCm7 h λc h=>?_;cbv;refine X3 Y (g:=λk=>vi k) h (λk X=>w c b k X) .z λk h=>?_;exact Zg
  exact Zg
 clear X;rintro e l H ⟨rfl,rfl,Q⟩;cbv;apply E3 Y h<;>intro _ h
 ·cbv;refine G0 Y eCm7 h λx5 h=>?_;cbv;refine X3 Y (g:=λn=>vi n) h (λn X=>w x5 b n X) .z λn h=>?_;exact Zg
 exact Zg
def c173 (N a b r)(h:Dx N a b=some r):B1 prog 173 [(Bn a),vi b] (vi r):=by
 refine M5 OM func173 call173 ntmps173 ?_;exact T0
def c125 (N b e r)(h:CL N b e=some r):B1 prog 125 [sr eCl2 b,vi e] (.bool r):=by
 refine M5 OM func125 call125 ntmps125 ?_;intro E D K Y J Q;cbv;refine C1 Y (g:=λa=>.tup [vi a.1,.bool a.2]) h (λa X=>c172 N b e (.func (.func 173) [] []) (λi k=>Dx N i k) (λi k r X=>B1.value (F:=[]) (C:=[]) (c173 N i k r X)) a X) .z λa h=>?_;exact Zg
@[reducible, instance] def zc125 (N aH aM):=Ct.mk (c125 N aH aM)
def cf247:=VY [22]
def c247 (N y aM r) (h:V8 N y aM=some r):YX prog 247 [.sl [] .nil,vi aM] 2 (lst eCl2 r):=by
 obtain⟨O,Z,Q⟩:=SX (f:=eCl2) h;rw[Q];clear Q h;intro D
 have k:∀b,Ar.cmp .lss aM 0=b->b=false:=λb h=>by rw[Ar.cmp_eq]at h;subst h;simp[JG];omega
 have e:ar .sub .i64 aM (ar .sub .i64 0 0)=aM:=by rw[Ar.ar_eq,Ar.ar_eq];simp only[arI];rw[show(0:Int)-0=0 from rfl,wrap_small 0 AY AY,LD];exact wrap_small _ AY AY
 have P:∀b,Ar.cmp .gtr (ar .sub .i64 aM (ar .sub .i64 0 0)) 0=b->(b=false->aM=0):=λb h=>by rw[e,Ar.cmp_eq]at h;subst h;simp[JG];omega
 have v:aM.toNat*16<=140737488355328:=by have:=QG (a:=aM.toNat) (b:=0) (by_:=16) AY Sz;simpa using this
 have i:(0:Int)=(([]:Up V).length:Nat):=rfl;refine Ew (T:=TT) cf247 K9 func247 QX JO call247 ntmps247 QX QX ?_;intro E K Y J g;cbv;refine Ui Y (λd=>absurd (k _ d) Sz) (λd=>?_);cbv;refine Oy Y i ?_;cbv;refine Ui Y (λw=>?_) (λw=>?_)
 ·cbv;refine Wo Y ?_;cbv;refine SM Y aM e (.inl rfl) O v λt m row j o p x=>?_;obtain⟨RL,n,l⟩:∃RL:Int,RL=(row.length:Nat)/\0<=RL:=⟨_,rfl,AY⟩;cbv;refine Oy Y i ?_;cbv;refine AS Y (E7 _ _ _) n 0 0 rfl rfl (T9 _) (T9 _) l λl' n' c q=>?_;cbv
  have H:0=l':=AY
  have e2:0=n':=AY
  exact F1
 exact zbp
def c225 (N a r) (h:U6 N a=some r):B1 prog 225 [sr eCl7 a] (sr eCl2 r):=by
 refine Ch (T:=TT) OM K9 func225 QX JO call225 ntmps225 QX QX ?_;intro E H0 K Y J V;have Q:C3 Eq H0 [] H0:=.start D7 rfl;cbv;apply L6 Y;cbv;obtain⟨s,X,h⟩:=bind_some h;refine J2 OM Y K9 (λA=>[(0,.v (sr eCl7 a)),fi 3 A.1,(9,.v (sr eCl7 a)),fi 10 (Ar.len a),fi 11 A.2]) (xi H0) (xe H0 0 λx=>[(0,.v (sr eCl7 a)),fi 3 x]) JO Zi X Zf Q ?_;clear X;rintro e l H ⟨rfl,rfl,Q⟩;cbv;refine NQ Y (f:=eCl2) h (c247 N [] s) (.r (.r .nil)) Q λq j H v Q h=>?_;cbv;apply L6 Y;cbv;obtain⟨u,X,h⟩:=bind_some h;refine S0 OM Y K9 (γ:=OG) (λi g=>[(6,.v (.own g.id g.lo g.n)),(25,.v (sr eCl7 a)),fi 26 (Ar.len a),fi 27 i.1]) (λi g n=>Cj g (Ar.len i.2)/\C3 Eq H0 [ob g 2 eCl2 i.2] n) (λx e l n=>∃k:OG,Cj k (Ar.len x)/\e= .exit 2/\l=[(6,.v (.own k.id k.lo k.n))]/\C3 Eq H0 [ob k 2 eCl2 x] n) JO ?_ j X ?_ ?_ ?_
 ·rintro i t H o ⟨w,Q⟩ h;cbv;apply E3 Y h<;>intro _ h
  ·cbv;refine G0 Y eCm8 h λp h=>?_;cbv;refine Ff (f:=eCl2) Y BB Sz Q w 0 rfl (m:=p) (Dr (f:=eCl2) Y BB .z) h λc d H P Q h=>?_;exact Zg
  exact Zg
 ·exact .e4 .z
 ·exact⟨v,Q⟩
 exact zae
def c169 (N a r)(h:Jb N a=some r):B1 prog 169 [vi a] (.bool r):=by
 refine M5 OM func169 call169 ntmps169 ?_;exact T0
@[reducible, instance] def zc169 (N aI):=Ct.mk (c169 N aI)
def c226 (N a r)(h:EZ N a=some r):BF7 prog 226 a r:=AP4 Go.Proofs.Tryz.laysNm189 call226 h
def c227 (N a r)(h:Ds N a=some r):Ok prog 227 [] 1 (lst (V.int .i64) a) (lst (V.int .i64) r):=sck Go.Proofs.Tryz.laysNm220 call227 h
def cf228:=VZ [] [(2,12),(3,12)]
def c228 (N i b r) (h:Ge N i b=some r):Ok prog 228 [(Bn b)] 2 (lst eCl2 i) (lst eCl2 r):=by
 intro H0 e a k;refine Ew (T:=TT) (F:=upd H0 e.id none) cf228 K9 func228 QX JO call228 ntmps228 QX QX ?_;intro E K Y J g;have Q:C3 Eq (upd H0 e.id none) [ob e 2 eCl2 i] H0:=C3.startO k;have a:Cj e (Ar.len i):=Wq a;cbv;apply RI Y a;cbv;apply E3 Y h<;>intro _ h
 ·cbv;refine Hz Y Q a 0 rfl h λh=>?_;cbv;refine Kr Y eCm7 Q a 0 rfl h λV h=>?_
  repeat' (cbv;first|apply E3 Y h<;>intro _ h|(cases h;exact J e _ _ (BH Y a) (Q))|(cases h;exact J x _ _ (BH Y l) (Q))|refine Hz Y Q a 0 rfl h λh=>?_|refine Kr Y eCm7 Q a 0 rfl h λv h=>?_|(refine Hy Y (f:=eCl2) (esz:=2) (tz:=1) (off:=1) (u:=(λw:A6=>{w with dV:=mx v.dV b.dV})) (λw=>⟨.int .i64 (mx v.dV b.dV),.refl _,rfl,rfl,(by rw[eCm7,eCm7];rfl)⟩) Sz Q a 0 rfl h λ_ H a h Q=>?_)|refine Ff (f:=eCl2) Y BB Sz Q a 0 rfl (m:=[b]) (Dr (f:=eCl2) Y BB (.lstc (.eq (eCm7 b) .z) (.lst0))) h λ_ x H l Q h=>?_)
 cbv;refine Ff (f:=eCl2) Y BB Sz Q a 0 rfl (m:=[b]) (Dr (f:=eCl2) Y BB (.lstc (.eq (eCm7 b) .z) (.lst0))) h λP y H n Q h=>?_;cbv;cases h;exact J y _ _ (BH Y n) (Q)
def cf190:=VZ [6000007,6000010] [(13,13),(14,12)]
def c190 (N:Nat) (v:Up A6) (w:Up A6) (j:V) (O:Bool->Bool->OS Bool) (dK:∀W Z q,O W Z=some q->U9 prog j [.bool W,.bool Z] (.bool q)) (r:(Up A6)) (h:HD N v w O=some r):B1 prog 190 [sr eCl2 v,sr eCl2 w,j] (sr eCl2 r):=by
 refine Ch (T:=TT) cf190 K9 func190 QX JO call190 ntmps190 QX QX ?_;intro E H0 K Y J hF;have Q:C3 Eq H0 [] H0:=.start D7 rfl;cbv;refine RH Y (f:=(V.int .i64)) Q λq1 H A Q=>?_;cbv;refine C1 Y h (c225 N ([v,w])) (.cons (.lit _ (G1 ((eCm8 v).symm) (G1 ((eCm8 w).symm) (E4)))) .z) λS h=>?_;cbv;apply L6 Y;cbv;obtain⟨s5,X,h⟩:=bind_some h;refine S0 cf190 Y K9 (γ:=OG) (λz g=>[(0,.v (sr eCl2 v)),(1,.v (sr eCl2 w)),(2,.v (j)),(7,.v (.own g.id g.lo g.n)),(15,.v (sr eCl2 S)),fi 16 (Ar.len S),fi 17 z.1]) (λz g y=>Cj g (Ar.len z.2)/\C3 Eq H0 [ob g 1 (V.int .i64) z.2] y) (λx e l y=>∃k:OG,Cj k (Ar.len x)/\e= .exit 0/\l=[(0,.v (sr eCl2 v)),(1,.v (sr eCl2 w)),(2,.v (j)),(7,.v (.own k.id k.lo k.n))]/\C3 Eq H0 [ob k 1 (V.int .i64) x] y) JO ?_ q1 X ?_ ?_ ?_
 ·rintro z q4 H o ⟨B,Q⟩ h;cbv;apply E3 Y h<;>intro _ h
  ·cbv;refine G0 Y eCm7 h λU h=>?_;cbv;refine Ff (f:=(V.int .i64)) Y (λ_=>rfl) Sz Q B 0 rfl (m:=[U.Low,ar .add .i64 U.dV 1]) (Dr (f:=(V.int .i64)) Y (λ_=>rfl) (.lstc .z (.lstc .z (.lst0)))) h λl8 q7 H aa Q h=>?_;exact Zg
  exact Zg
 ·exact zbr
 ·exact⟨A,Q⟩
 clear X;rintro e l H ⟨q9,P,rfl,rfl,Q⟩;cbv;refine BM1 Y Q P 0 rfl h (c226 N s5) λC H P Q h=>?_;cbv;refine HA Y (f:=(V.int .i64)) Q P 0 rfl h (c227 N C) .z λu i H a Q h=>?_;cbv;refine RH Y (f:=eCl2) Q λD H p Q=>?_;cbv;obtain⟨ae,X,h⟩:=bind_some h;refine S0 cf190 Y K9 (γ:=OG) (λb g=>[(0,.v (sr eCl2 v)),(1,.v (sr eCl2 w)),(2,.v (j)),(7,.v (.own i.id i.lo i.n)),(10,.v (.own g.id g.lo g.n)),fi 11 b.1]) (λb g y=>Cj g (Ar.len b.2)/\C3 Eq H0 [ob g 2 eCl2 b.2,ob i 1 (V.int .i64) u] y) (λx e l y=>∃k:OG,Cj k (Ar.len x)/\e= .exit 2/\l=[(10,.v (.own k.id k.lo k.n))]/\C3 Eq H0 [ob k 2 eCl2 x,ob i 1 (V.int .i64) u] y) JO ?_ D X ?_ ?_ ?_
 ·rintro b ac H o ⟨s,Q⟩ h;cbv;apply RI Y a;cbv;apply E3 Y h<;>intro _ h
  ·cbv;refine Hz Y Q a 1 rfl h λh=>?_;cbv;refine Kr Y (λ_=>rfl) Q a 1 rfl h λG h=>?_;cbv;refine U8 Y (g:=λc=>.bool c) h (c125 N v G) .z λc h=>?_;cbv;refine Hz Y Q a 1 rfl h λh=>?_;cbv;refine Kr Y (λ_=>rfl) Q a 1 rfl h λI h=>?_;cbv;refine U8 Y (g:=λd=>.bool d) h (c125 N w I) .z λd h=>?_;cbv;refine X3 Y (g:=λn=>.bool n) h (λn X=>dK c d n X) .z λn h=>?_;cbv;apply E3 Y h<;>intro _ h
   ·cbv;refine Hz Y Q a 1 rfl h λh=>?_;cbv;refine Kr Y (λ_=>rfl) Q a 1 rfl h λL h=>?_;cbv;refine Hz Y Q a 1 rfl h λh=>?_;cbv;refine Kr Y (λ_=>rfl) Q a 1 rfl h λM h=>?_;cbv;refine HA Y (f:=eCl2) Q s 0 rfl h (c228 N b.2 (⟨L,ar .sub .i64 M 1⟩:A6)) .z λab ad H R Q h=>?_;exact Zg
   exact Zg
  exact Zg
 ·exact .e2 (.e4 .z)
 ·exact⟨p,Q⟩
 clear X;rintro e l H ⟨F,t,rfl,rfl,Q⟩;cbv;cases h;exact hF F _ _ 0 _ _ Q rfl (BH Y t) .z
def c145 (N:Nat)(a:Up A6)(b:Up A6)(i:V)(e:Bool->Bool->OS Bool)(n:∀k l q,e k l=some q->U9 prog i [.bool k,.bool l] (.bool q))(r:((Up A6)×Int))(h:BS N a b e=some r):B1 prog 145 [sr eCl2 a,sr eCl2 b,i] (.tup [sr eCl2 r.1,vi r.2]):=by
 refine M5 OM func145 call145 ntmps145 ?_;intro E D K Y J Q;cbv;refine C1 Y h (c189 N a b) .z λv h=>?_;cbv;apply E3 Y h<;>intro _ h
 ·exact Zg
 cbv;refine C1 Y h (c190 N a b i e n) .z λw h=>?_;exact Zg
def c146 (N a b r)(h:CM N a b=some r):B1 prog 146 [.bool a,.bool b] (.bool r):=by
 refine M5 OM func146 call146 ntmps146 ?_;exact T0
def c103 (N b e r)(h:AI N b e=some r):B1 prog 103 [sr eCl2 b,sr eCl2 e] (.tup [sr eCl2 r.1,vi r.2]):=by
 refine M5 OM func103 call103 ntmps103 ?_;intro E D K Y J Q;cbv;refine C1 Y (g:=λa=>.tup [sr eCl2 a.1,vi a.2]) h (λa X=>c145 N b e (.func (.func 146) [] []) (λi k=>CM N i k) (λi k r X=>B1.value (F:=[]) (C:=[]) (c146 N i k r X)) a X) .z λa h=>?_;exact Zg
@[reducible, instance] def zc103 (N aD aF):=Ct.mk (c103 N aD aF)
def c187 (N a b r)(h:CI N a b=some r):B1 prog 187 [vi a,vi b] (sr eCl2 r):=by
 refine M5 OM func187 call187 ntmps187 ?_;intro E D K Y J Q;cbv;apply E3 Y h<;>intro _ h
 ·exact Zg
 cbv;cases h;exact J Q (.lit _ (G1 ((eCm7 (⟨mx a (-1099511627776),Ar.mn b 1099511627776⟩:A6)).symm) (E4)))
@[reducible, instance] def zc187 (N bN bO):=Ct.mk (c187 N bN bO)
def c188 (N a b r)(h:Fe N a b=some r):B1 prog 188 [vi a,vi b] (vi r):=by
 refine M5 OM func188 call188 ntmps188 ?_;intro E D K Y J Q
 repeat' (cbv;first|apply E3 Y h<;>intro _ h|(cases h;exact J Q .z)|refine QF Y h λh=>?_)
@[reducible, instance] def zc188 (N aD aF):=Ct.mk (c188 N aD aF)
def c144 (N a r)(h:Cb N a=some r):B1 prog 144 [(Fx a)] (sr eCl2 r):=by
 refine M5 OM func144 call144 ntmps144 ?_;exact T0
@[reducible, instance] def zc144 (N aD):=Ct.mk (c144 N aD)
def cf102:=VZ [8] [(8,13)]
def c102 (N e a b r)(h:Eb N e a b=some r):B1 prog 102 [vi e,(Fx a),(Fx b)] (.tup [sr eCl2 r.1,vi r.2]):=by
 refine M5 cf102 func102 call102 ntmps102 ?_;exact T0
@[reducible, instance] def zc102 (N aW aD aF):=Ct.mk (c102 N aW aD aF)
def c147 (N a b r)(h:FE N a b=some r):B1 prog 147 [.bool a,.bool b] (.bool r):=by
 refine M5 OM func147 call147 ntmps147 ?_;exact T0
def c104 (N b e r)(h:Dy N b e=some r):B1 prog 104 [sr eCl2 b,sr eCl2 e] (.tup [sr eCl2 r.1,vi r.2]):=by
 refine M5 OM func104 call104 ntmps104 ?_;intro E D K Y J Q;cbv;refine C1 Y (g:=λa=>.tup [sr eCl2 a.1,vi a.2]) h (λa X=>c145 N b e (.func (.func 147) [] []) (λi k=>FE N i k) (λi k r X=>B1.value (F:=[]) (C:=[]) (c147 N i k r X)) a X) .z λa h=>?_;exact Zg
@[reducible, instance] def zc104 (N aD aF):=Ct.mk (c104 N aD aF)
def c191 (N i r) (h:Gp N i=some r):Gj prog 191 (λk=>[k,.eref [sr eCl2 i] 0]) (List.map (λ(x:A6)=>[(Bn x)]) r) Zc:=by
 unfold Gp at h
 obtain⟨⟨w0,s⟩,O,n⟩:=bind_some h;clear h;have n:=J9 n;subst n;have h:=O;clear O;refine M9 OM K9 func191 QX JO call191 ntmps191 QX (λ_=>rfl) ?_;intro k I D y v P tl F E H K Y Q J b
 have Q:C3 (I (List.map (λ(x:A6)=>[(Bn x)]) (w0++[])++tl)) F [] H:=by rw[F2];exact Q
 cbv;apply L6 Y;cbv;obtain⟨t,d,c,X,h,R⟩:=M2 h
 rw[R,E1]at Q
 clear R;refine Dj OM Y K9 (γ:=Unit) (λA g=>[(0,.v (k)),fi 3 A.1,(6,.v (sr eCl2 i)),fi 7 (Ar.len i),fi 8 A.2]) (λA g w a=>C3 (I (List.map (λ(x:A6)=>[(Bn x)]) w++tl)) F [] a) (λx e l w a=>e= .exit 0/\l=[(0,.v (k)),fi 3 x]/\C3 (I (List.map (λ(x:A6)=>[(Bn x)]) w++tl)) F [] a) (λe l a=>(e= .ret/\l=[]/\C3 D F [] a)) JO ?_ (w':=d++[]) () X ?_ ?_ ?_ ?_
 ·rintro A _ u f H o Q h
  skip
  repeat' (cbv;first|apply E3 Y h<;>intro _ h|refine G0 Y eCm7 h λq h=>?_)
  ·cbv;obtain⟨j,h,R⟩:=Q5 h
   rw[R,E1]at Q
   clear R;have Q:C3 (I ([.agg [vi A.1,vi (ar .sub .i64 q.Low 1)]]::(List.map (λ(x:A6)=>[(Bn x)]) (j++f)++tl))) F [] _:=Q;refine Be Y y v P Q .z (λH Q=>?_) (λH Q=>?_)
   ·cbv;apply HC Y (nt_eq _);cbv;obtain⟨m,rfl⟩:=D0 h
    rw[<-m]at Q
    exact zah
   exact Ly
  ·cbv;obtain⟨m,rfl⟩:=D0 h
   rw[<-m]at Q
   exact zah
  cbv;obtain⟨m,rfl⟩:=D0 h
  rw[<-m]at Q
  exact .inl ⟨_,_,rfl,⟨rfl,rfl,Q⟩,.e2 .z,rfl⟩
 ·exact FW
 ·exact Q
 ·rintro e l H ⟨rfl,rfl,Q⟩;cbv;apply E3 Y h<;>intro _ h
  ·cbv;obtain⟨p,h,R⟩:=Q5 h
   rw[R,E1]at Q
   clear R;have Q:C3 (I ([.agg [vi c,vi 1099511627776]]::(List.map (λ(x:A6)=>[(Bn x)]) (p++[])++tl))) F [] _:=Q;refine Be Y y v P Q .z (λH Q=>?_) (λH Q=>?_)
   ·cbv;obtain⟨m,_⟩:=D0 h
    rw[<-m]at Q
    exact Hw
   exact zci
  cbv;obtain⟨m,_⟩:=D0 h
  rw[<-m]at Q
  exact Hw
 rintro e l H V;obtain⟨rfl,rfl,Q⟩:=V;exact zci
def c148 (N a r)(h:IZ N a=some r):Bj prog 148 [sr eCl2 a] (λv=>Fs prog v (r.map λ(x:A6)=>[(Bn x)])):=by
 refine N7 OM K9 func148 QX JO call148 ntmps148 QX QX ?_;intro E H0 K Y J;have Q:C3 Eq H0 [] H0:=.start D7 rfl;cbv;exact J _ _ _ Q (O9 call191 (c191 N a r h))
def cf105:=VY [5]
def c105 (N P r)(h:W8 N P=some r):B1 prog 105 [sr eCl2 P] (.tup [sr eCl2 r.1,vi r.2]):=by
 refine M5 cf105 func105 call105 ntmps105 ?_;intro E D K Y J Q;cbv;refine C1 Y h (c124 N P) .z λG h=>?_;cbv;apply E3 Y h<;>intro _ h
 ·exact Zg
 cbv;refine G3 Y Q λn H Q=>?_;cbv;refine Au Y h (c148 N P) .z λI L c h=>?_;cbv;replace Q:=Q.tl0 (t:=.nil) rfl;obtain⟨A,X,h⟩:=bind_some h;replace Q:=Q.cast (L':=[.tl .nil,cb n [.sl (lst eCl2 ([])) .nil]]) (by simp only[ob,cb,sr,<-E4]<;>rfl);refine FA cf105 Y K9 (ι:=Unit) (enc:=λ(x:A6)=>[(Bn x)]) (λ(b:(Up A6)) F H=>∃g:G5,(T3 g)/\C3 Eq F [.tl g,cb n [.sl (lst eCl2 b) g]] H) (λ(r:Unit) e F H=>False) (λi b k=>[(5,.v (.ref n 0)),(6,.v (.eref (YM k) 0))]) (λi b k F H=>∃g:G5,(T3 g)/\C3 Eq F [.tl g,cb n [.sl (lst eCl2 b) g]] H) (λ_=>G7.ex λ_=>C3.stable D7 _) (λ_ _=>⟨λh=>h.elim,λ_ _ h=>h.elim⟩) (λ_ _ _=>G7.ex λ_=>C3.stable D7 _) c X (⟨.nil,trivial,Q⟩) Sz (λ_=>rfl) JO JO ?_ ?_ ?_ ?_
 ·rintro E u k b s H Y ⟨q,a,Q⟩;clear X h;cbv;exact⟨(),⟨q,a,Q⟩,.e2 .z,rfl⟩
 ·rintro E u _ k b s H o Y C h ⟨q,a,Q⟩;cbv;apply E0 Y Q 1 rfl;cbv;refine Br (f:=eCl2) Y BB Sz Q 0 rfl a (l:=b) (m:=[k]) .z (.lstc (.eq (eCm7 k) .z) (.lst0)) h λz j H Q v h=>?_;cbv;refine D6 Y Q 1 rfl rfl λH Q=>?_;cbv;cases h;exact⟨_,rfl,⟨j,v,Q⟩⟩
 ·rintro V w H rfl hd ⟨y,p,Q⟩;have Q:C3 Eq D [.tl y,cb n [.sl (lst eCl2 w) y],.blk V DB] H:=C3.dblk hd Q;clear hd;cbv;apply E0 Y Q 1 rfl;cbv;refine C1 Y h (c149 N w) (.cons (.ro _ _) .z) λB h=>?_;exact zat
 exact zb1
@[reducible, instance] def zc105 (N aH):=Ct.mk (c105 N aH)
def c192 (N a b r)(h:FF N a b=some r):B1 prog 192 [.bool a,.bool b] (.bool r):=by
 refine M5 OM func192 call192 ntmps192 ?_;exact T0
def c150 (N b e r)(h:Dz N b e=some r):B1 prog 150 [sr eCl2 b,sr eCl2 e] (.tup [sr eCl2 r.1,vi r.2]):=by
 refine M5 OM func150 call150 ntmps150 ?_;intro E D K Y J Q;cbv;refine C1 Y (g:=λa=>.tup [sr eCl2 a.1,vi a.2]) h (λa X=>c145 N b e (.func (.func 192) [] []) (λi k=>FF N i k) (λi k r X=>B1.value (F:=[]) (C:=[]) (c192 N i k r X)) a X) .z λa h=>?_;exact Zg
@[reducible, instance] def zc150 (N aD aF):=Ct.mk (c150 N aD aF)
def c106 (N a b r)(h:Hx N a b=some r):B1 prog 106 [sr eCl2 a,sr eCl2 b] (.tup [sr eCl2 r.1,vi r.2]):=by
 refine M5 OM func106 call106 ntmps106 ?_;exact T0
@[reducible, instance] def zc106 (N aD aF):=Ct.mk (c106 N aD aF)
def cf66:Cf:=⟨[],[(32,9),(34,9),(37,9)],[(32,11)],[0],[],[]⟩
def c66 (N:Nat):∀n a k i r,V5 N n a k i=some r->B1 prog 66 [(Bo a),vi k,vi i] (.tup [sr eCl2 r.1,vi r.2]):=by
 intro n
 induction n with
 |zero=>intro a k i r h;cases h
 |succ n ih=>
 intro a k i r h
 unfold V5 at h
 refine M5 cf66 func66 call66 ntmps66 ?_;intro E D K Y J Q;cbv;obtain⟨A,X,h⟩:=bind_some h;refine S8 cf66 Y K9 (λe l v=>match(generalizing:=false) A with| .inl y=>e= .normal/\l=[fi 1 k,fi 2 i,(3,.v (.eref (DE a) 0))]/\C3 Eq D [] v| .inr y=>e= .ret/\l=[(6,.v (sr eCl2 y.1)),fi 7 y.2]/\C3 Eq D [] v) JO ?_ ?_
 ·clear h;have h:=X;cbv;apply E3 Y h<;>intro _ h
  ·exact Zg
  cbv;obtain⟨u,X,h⟩:=bind_some h;refine S8 cf66 Y K9 (xn D [fi 1 k,fi 2 i,(3,.v (.eref (DE a) 0)),fi 18 a.Op,(32,.v (.bool u))] []) JO ?_ ?_
  ·exact F4
  clear X;exact S1
 clear X
 rcases A with M|L
 ·rintro e l H ⟨rfl,rfl,Q⟩;cbv;apply L6 Y;cbv;replace Q:=Q.tl0 (t:=.nil) rfl;obtain⟨c,X,h⟩:=bind_some h;refine S0 cf66 Y K9 (γ:=G5) (λb g=>[fi 1 k,fi 2 i,(3,.v (.eref (DE a) 0)),(12,.v (.sl (lst eCl7 b.1) g)),(75,.v (sr eCl6 a.dT)),fi 76 (Ar.len a.dT),fi 77 b.2]) (λb g v=>T3 g/\C3 Eq D [.tl g] v) (λx e l v=>match(generalizing:=false) x with| .inl y=>∃w:G5,T3 w/\e= .exit 2/\l=[(3,.v (.eref (DE a) 0)),(12,.v (.sl (lst eCl7 y) w))]/\C3 Eq D [.tl w] v| .inr y=>∃w:G5,T3 w/\e= .ret/\l=[(6,.v (.sl [] .nil)),fi 7 y]/\C3 Eq D [.tl w] v) JO ?_ .nil X ?_ ?_ ?_
  ·rintro b z H o ⟨P,Q⟩ h;cbv;apply E3 Y h<;>intro _ h
   ·cbv;refine G0 Y eCn0 h λd h=>?_;cbv;refine C1 Y h (ih d k i) .z λV h=>?_;cbv;apply E3 Y h<;>intro _ h
    ·exact Zg
    cbv;refine Br (f:=eCl7) Y MJ Sz Q 0 rfl P (l:=b.1) (m:=[V.1]) .z (.lstc (.eq (eCm8 V.1) .z) (.lst0)) h λs B H Q j h=>?_;exact Zg
   exact Zg
  ·exact .e rfl (.e2 (.v (.slt _ (.lst0)) (.e rfl (.e rfl (.e rfl (.z))))))
  ·exact Zy
  clear X
  rcases c with G|I
  ·rintro e l H ⟨C,p,rfl,rfl,Q⟩;exact Zg
  rintro e l H ⟨F,q,rfl,rfl,Q⟩;exact Zg
 exact S1
def cf38:=VZ [8] [(8,13),(13,12)]
def c38 (N v b d c r) (h:CJ N v b d c=some r):B1 prog 38 [sr eCm0 v,vi b,(Bo d),vi c] (.tup [(N6 r.1),vi r.2]):=by
 unfold CJ at h
 refine Pvl cf38 K9 func38 QX JO call38 ntmps38 QX QX ?_;intro E H0 K Y J u;have Q:C3 Eq H0 [] H0:=.start D7 rfl
 repeat' (cbv;first|apply E3 Y h<;>intro _ h|apply L6 Y|refine C1 Y h (c35 _ _) .z λ_ h=>?_|refine G0 Y eCo1 h λ_ h=>?_|apply E0 Y Q 0 rfl|refine D6 Y Q 0 rfl rfl λH Q=>?_|refine U8 Y (g:=λo=>sr eCm5 o) h (c65 _ _ _) (.cons (.lit _ (G1 ((eCp4 (⟨⟨#[]⟩,b⟩:R9)).symm) (E4))) .z) λo h=>?_|refine U8 Y (g:=λV=>.tup [vi V.1,vi V.2]) h (c64 _ _ _ _) .z λV h=>?_|refine U8 Y (g:=λp=>vi p) h (c41 _ _) .z λp h=>?_|refine U8 Y (g:=λk=>.tup [sr eCl2 k.1,vi k.2]) h (c66 _ _ _ _ _) .z λk h=>?_|refine G3 Y Q λ_ H Q=>?_|(cases h;exact J _ _ _ Q (.tup (.cons (.agg (.cons (.lit _ (E4)) .z)) .z))))
 cbv;obtain⟨n,w,h⟩:=bind_some h;obtain⟨_,e,h⟩:=bind_some h;obtain⟨m,a,h⟩:=bind_some h;refine XL Y (f:=eCl7) (z0:=([]:Up A6)) Sz (.eq (eCm8 []) (.lit _ (E4))) Q (F:=λl=>some l) (r:=n) (show(YZ (Ar.len v) (Ar.len v) ([]:Up A6)).bind (λl=>some l)=some n by rw[w];rfl) λz A H i q Q=>?_;cases q;cbv
 have W:0<=b/\b<(n.length:Nat):=by
  unfold IS OB at e
  split at e
  ·rename_i hd;exact Jn hd
  cases e
 have j:m=n.set b.toNat k.1:=by
  unfold Ex at a
  cases X:C4 n b with
  |none=>rw[X]at a;cases a
  |some y=>rw[X]at a;cases a;rfl
 refine AM9 Y (f:=eCl7) Q i 0 rfl W ?_;cbv;refine AA1 Y (f:=eCl7) (tz:=1) (x':=k.1) (λx=>⟨sr eCl2 k.1,.refl _,rfl,rfl,by rw[eCm8,eCm8];rfl⟩) Sz Q i 0 rfl W λH Q=>?_
 rw[<-j]at Q
 have P:Cj A (Ar.len m):=by rw[j,Ar.len_eq,OK,<-Ar.len_eq];exact i
 cbv;refine D6 Y Q 1 rfl rfl λH Q=>?_;cbv;apply E0 Y Q 1 rfl;cbv;cases h;obtain⟨B,s,t⟩:=Q.frzG (f:=eCl7) 0 rfl P;exact u _ _ _ _ s.agg1.tup2 t .z
def cf10:Cf:=⟨[4,10],[],[(77,23)],[],[(90,2000010)],[]⟩
def Nh (N d F r) (h:AO N d F=some r):B1 prog 10 [sr eCm0 d,(D5 F)] (.tup [(AH r.1),vi r.2]):=by
 refine M5 cf10 func10 call10 ntmps10 ?_;intro E D K Y J Q;cbv;refine G3 Y Q λk H Q=>?_
 repeat' (cbv;first|apply E3 Y h<;>intro _ h|apply L6 Y|refine C1 Y h (c35 _ _) .z λ_ h=>?_|refine C1 Y h (c36 _ _) .z λj h=>?_|refine C1 Y h (c37 _ _ _) .z λ_ h=>?_|apply E0 Y Q 0 rfl|refine D6 Y Q 0 rfl rfl λH Q=>?_|refine G3 Y Q λv H Q=>?_|(cases h;exact J Q (.tup (.cons (.agg (.r (.cons (.lit _ (E4)) (.cons (.lit _ (E4)) .z)))) .z)))|refine XL Y (f:=V.bool) Sz (z0:=(false:Bool)) (.z) Q h λ_ a H n h Q=>?_|refine Hz Y Q n 1 rfl h λh=>?_|refine Hy Y (f:=V.bool) (esz:=1) (tz:=1) (off:=0) (u:=(λT:Bool=>true)) (λ_=>⟨.bool true,.refl _,rfl,rfl,rfl⟩) Sz Q n 1 rfl h λq H n h Q=>?_)
 cbv;replace Q:=Q.cast (L':=[cb v [vi (Ar.len d),.own a.id a.lo a.n,.sl (lst eCm2 ([])) .nil],ob a 1 V.bool q,cb k [vi 0,.sl [] .nil,.sl [] .nil]]) (by simp only[ob,cb,sr,<-E4]<;>rfl);replace Q:=Q.tl0 (t:=.nil) rfl;obtain⟨A,X,h⟩:=bind_some h;refine S0 cf10 Y K9 (γ:=G5) (λb g=>[(0,.v (sr eCm0 d)),(4,.v (.ref k 0)),fi 9 (Ar.len j.1.eH),(10,.v (.ref v 0)),(53,.v (sr eCl3 j.1.eG)),fi 54 (Ar.len j.1.eG),fi 55 b.1]) (λb g z=>T3 g/\C3 Eq D [.tl g,cb v [vi b.2.eC,.own a.id a.lo a.n,.sl (lst eCm2 b.2.dX) g],ob a 1 V.bool q,cb k [vi 0,.sl [] .nil,.sl [] .nil]] z) (λx e l z=>match(generalizing:=false) x with| .inl y=>∃c:G5,T3 c/\e= .exit 0/\l=[(4,.v (.ref k 0)),(10,.v (.ref v 0))]/\C3 Eq D [.tl c,cb v [vi y.eC,.own a.id a.lo a.n,.sl (lst eCm2 y.dX) c],ob a 1 V.bool q,cb k [vi 0,.sl [] .nil,.sl [] .nil]] z| .inr y=>∃c:G5,T3 c/\e= .ret/\l=[(4,.v (.ref k 0)),fi 5 y.1]/\C3 Eq D [.tl c,cb v [vi y.2.eC,.own a.id a.lo a.n,.sl (lst eCm2 y.2.dX) c],ob a 1 V.bool q,cb k [vi 0,.sl [] .nil,.sl [] .nil]] z) JO ?_ .nil X ?_ ?_ ?_
 ·rintro b s H o ⟨p,Q⟩ h;cbv;apply E3 Y h<;>intro _ h
  ·cbv;refine G0 Y eCn4 h λi h=>?_;cbv;refine C1 Y h (c38 N d i.Typ i.dU i.Var) .z λw h=>?_;cbv;apply E3 Y h<;>intro _ h
   ·exact Zg
   cbv;obtain⟨P,X,h⟩:=bind_some h;refine S8 cf10 Y K9 (xn D [(0,.v (sr eCm0 d)),(4,.v (.ref k 0)),fi 9 (Ar.len j.1.eH),(10,.v (.ref v 0)),(12,.v (.eref (Ci i) 0)),(13,.v (.eref (Hi w.1) 0)),fi 15 P,(53,.v (sr eCl3 j.1.eG)),fi 54 (Ar.len j.1.eG),fi 55 b.1] [.tl s,cb v [vi b.2.eC,.own a.id a.lo a.n,.sl (lst eCm2 b.2.dX) s],ob a 1 V.bool q,cb k [vi 0,.sl [] .nil,.sl [] .nil]]) JO ?_ ?_
   ·exact F4
   clear X;rintro e l H ⟨rfl,rfl,Q⟩;cbv;apply E0 Y Q 1 rfl;cbv;refine Br (f:=eCm2) Y WQ Sz Q 0 rfl p (l:=b.2.dX) (m:=[(⟨i.eA,P,w.1⟩:K7)]) .z (.lstc (.eq (eCm1 (⟨i.eA,P,w.1⟩:K7)) .z) (.lst0)) h λI L H Q B h=>?_;exact Zg
  exact Zg
 ·exact zbr
 ·exact Zy
 clear X
 rcases A with R|S
 ·rintro e l H ⟨M,C,rfl,rfl,Q⟩;cbv;refine AW5 Y Q n 1 2 rfl rfl rfl Sz λH Q=>?_;exact Zg
 rintro e l H ⟨O,G,rfl,rfl,Q⟩;exact Zg
def cf26:=VY [4]
def c26 (N a b r)(h:GI N a b=some r):B1 prog 26 [vi a,vi b] ((N6 r)):=by
 refine M5 cf26 func26 call26 ntmps26 ?_;intro E D K Y J Q;cbv;refine G3 Y Q λe H Q=>?_;cbv;refine D6 Y Q 0 rfl rfl λH Q=>?_;cbv;apply E0 Y Q 0 rfl;cbv;cases h;exact J Q (.agg (.cons (.sl _ (.lstc (.eq (eCm8 ([(⟨a,b⟩:A6)])) (.lit _ (G1 ((eCm7 (⟨a,b⟩:A6)).symm) (E4)))) (.lst0))) .z))
def c27 (N a r) (h:KY N a=some r):B1 prog 27 [sr (V.int .i64) a] (sr eCl9 r):=by
 refine M5 OM func27 call27 ntmps27 ?_;intro E D K Y J Q;cbv;apply L6 Y;cbv;replace Q:=Q.tl0 (t:=.nil) rfl;obtain⟨P,X,h⟩:=bind_some h;refine S0 OM Y K9 (γ:=G5) (λA g=>[(3,.v (.sl (lst eCl9 A.1) g)),(6,.v (sr (V.int .i64) a)),fi 7 (Ar.len a),fi 8 A.2]) (λA g b=>T3 g/\C3 Eq D [.tl g] b) (λx e l b=>∃k:G5,T3 k/\e= .exit 0/\l=[(3,.v (.sl (lst eCl9 x) k))]/\C3 Eq D [.tl k] b) JO ?_ .nil X ?_ ?_ ?_
 ·rintro A c H o ⟨i,Q⟩ h;cbv;apply E3 Y h<;>intro _ h
  ·cbv;refine G0 Y (λ_=>rfl) h λn h=>?_;cbv;refine Br (f:=eCl9) Y Rt Sz Q 0 rfl i (l:=A.1) (m:=[(⟨0,n⟩:E9)]) .z (.lstc (.eq (eCo6 (⟨0,n⟩:E9)) .z) (.lst0)) h λy d H Q v h=>?_;exact Zg
  exact Zg
 ·exact .v (.slt _ (.lst0)) (.e rfl (.e2 .z))
 ·exact Zy
 clear X;rintro e l H ⟨j,w,rfl,rfl,Q⟩;exact Zg
def c79 (N b a r)(h:Fz N b a=some r):B1 prog 79 [vi b,.eref (I0 a) 0] (.bool r):=by
 refine M5 OM func79 call79 ntmps79 ?_;exact T0
def c80 (N a F r)(h:Cs N a F=some r):B1 prog 80 [vi a,(N6 F)] (vi r):=by
 refine M5 OM func80 call80 ntmps80 ?_;intro E D K Y J Q
 repeat' (cbv;first|apply E3 Y h<;>intro _ h|apply L6 Y|(cases h;exact J Q .z))
 cbv;obtain⟨s,X,h⟩:=bind_some h;exact J2 OM Y K9 (λA=>[(22,.v (sr eCl7 F.dW)),fi 23 (Ar.len F.dW),fi 24 A]) (xi D) (xm D 1 (λ_=>[]) (λy=>[fi 4 y])) JO Zi X Zf Q Zq
@[reducible, instance] def zc80 (N aL aA):=Ct.mk (c80 N aL aA)
def c48 (N a r) (h:Dm N a=some r):B1 prog 48 [(AH a)] (vi r):=by
 refine M5 OM func48 call48 ntmps48 ?_;intro E D K Y J Q
 repeat' (cbv;first|apply E3 Y h<;>intro _ h|apply L6 Y|(cases h;exact J Q .z))
 cbv;obtain⟨s,X,h⟩:=bind_some h;refine J2 OM Y K9 (λA=>[(1,.v (.eref (I0 a) 0)),(3,.v (.func (.func 79) [] [.eref (I0 a) 0])),(33,.v (sr eCm2 a.dX)),fi 34 (Ar.len a.dX),fi 35 A]) (xi D) (xm D 0 (λ_=>[]) (λy=>[fi 2 y])) JO ?_ X Zf Q Zq;intro A H o Q h;cbv;apply E3 Y h<;>intro _ h
 ·cbv;refine G0 Y eCm1 h λi h=>?_;cbv;refine X3 Y (g:=λb=>.bool b) h (λb X=>B1.value (F:=[]) (C:=[.eref (I0 a) 0]) (c79 N i.eA a b X)) .z λb h=>?_;cbv;apply E3 Y h<;>intro _ h
  ·exact Zg
  cbv;refine X3 Y (g:=λe=>.bool e) h (λe X=>B1.value (F:=[]) (C:=[.eref (I0 a) 0]) (c79 N i.To a e X)) .z λe h=>?_;exact Zg
 exact Zg
def cf81:=VY [4,6]
def c81 (N:Nat) (w:Int) (P:V) (d:Int->OS ((Up A6)×Int)) (u:∀s q,d s=some q->U9 prog P [vi s] (.tup [sr eCl2 q.1,vi q.2])) (r:(D3×Int)) (h:zcn N w d=some r):B1 prog 81 [vi w,P] (.tup [(N6 r.1),vi r.2]):=by
 refine M5 cf81 func81 call81 ntmps81 ?_;intro E D K Y J Q;cbv;refine G3 Y Q λa H Q=>?_;cbv;refine G3 Y Q λk H Q=>?_;cbv;replace Q:=Q.cast (L':=[cb k [.sl (lst eCl7 ([])) .nil],cb a [.sl [] .nil]]) (by simp only[ob,cb,sr,<-E4]<;>rfl);replace Q:=Q.tl0 (t:=.nil) rfl;obtain⟨A,X,h⟩:=bind_some h;refine S0 cf81 Y K9 (γ:=G5) (λn g=>[(1,.v (P)),(4,.v (.ref a 0)),(6,.v (.ref k 0)),fi 10 w,fi 11 n.1]) (λn g v=>T3 g/\C3 Eq D [.tl g,cb k [.sl (lst eCl7 n.2.dW) g],cb a [.sl [] .nil]] v) (λx e l v=>match(generalizing:=false) x with| .inl y=>∃i:G5,T3 i/\e= .exit 0/\l=[(4,.v (.ref a 0)),(6,.v (.ref k 0))]/\C3 Eq D [.tl i,cb k [.sl (lst eCl7 y.dW) i],cb a [.sl [] .nil]] v| .inr y=>∃i:G5,T3 i/\e= .ret/\l=[(4,.v (.ref a 0)),fi 5 y.1]/\C3 Eq D [.tl i,cb k [.sl (lst eCl7 y.2.dW) i],cb a [.sl [] .nil]] v) JO ?_ .nil X ?_ ?_ ?_
 ·rintro n I H o ⟨c,Q⟩ h;cbv;apply E3 Y h<;>intro _ h
  ·cbv;refine X3 Y (g:=λb=>.tup [sr eCl2 b.1,vi b.2]) h (λb X=>u n.1 b X) .z λb h=>?_;cbv;apply E3 Y h<;>intro _ h
   ·exact Zg
   cbv;apply E0 Y Q 1 rfl;cbv;refine Br (f:=eCl7) Y MJ Sz Q 0 rfl c (l:=n.2.dW) (m:=[b.1]) .z (.lstc (.eq (eCm8 b.1) .z) (.lst0)) h λG L H Q z h=>?_;exact Zg
  exact Zg
 ·exact FW
 ·exact Zy
 clear X
 rcases A with M|F
 ·rintro e l H ⟨B,j,rfl,rfl,Q⟩;exact Zg
 rintro e l H ⟨C,p,rfl,rfl,Q⟩;exact Zg
def c82 (N a r)(h:JM N a=some r):B1 prog 82 [vi a] (.tup [sr eCl2 r.1,vi r.2]):=by
 refine M5 OM func82 call82 ntmps82 ?_;exact T0
def cf49:=VY [2]
def c49 (N b r)(h:FZ N b=some r):B1 prog 49 [vi b] (.tup [(N6 r.1),vi r.2]):=by
 refine M5 cf49 func49 call49 ntmps49 ?_;intro E D K Y J Q;cbv;refine G3 Y Q λi H Q=>?_;cbv;apply E3 Y h<;>intro _ h
 ·exact Zg
 cbv;refine C1 Y (g:=λa=>.tup [(N6 a.1),vi a.2]) h (λa X=>c81 N b (.func (.func 82) [] []) (λe=>JM N e) (λe r X=>B1.value (F:=[]) (C:=[]) (c82 N e r X)) a X) .z λa h=>?_;exact Zg
def c84 (N a r)(h:Af N a=some r):B1 prog 84 [sr eCp8 a] (vi r):=by
 refine M5 OM func84 call84 ntmps84 ?_;intro E D K Y J Q;cbv;apply L6 Y;cbv;obtain⟨s,X,h⟩:=bind_some h;exact J2 OM Y K9 (λA=>[(6,.v (sr eCp8 a)),fi 7 (Ar.len a),fi 8 A]) (xi D) (xm D 0 (λ_=>[]) (λy=>[fi 2 y])) JO Zi X Zf Q Zq
def c85 (N a b r)(h:HE N a b=some r):B1 prog 85 [sr eCl2 a,vi b] (.tup [.bool r.1,vi r.2]):=by
 refine M5 OM func85 call85 ntmps85 ?_;exact T0
@[reducible, instance] def zc85 (N aH aM):=Ct.mk (c85 N aH aM)
end Go.Ab
