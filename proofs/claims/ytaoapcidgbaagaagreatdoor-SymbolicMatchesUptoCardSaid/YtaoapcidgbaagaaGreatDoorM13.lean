/- . -/
import Derived.Test.YtaoapcidgbaagaaGreatDoorM12
set_option linter.all false
open Go.Ab.Ar (ar ar_eq cmp cmp_eq lst)
namespace Go.Ab
open Go.RowKit Go.Proofs Go.Proofs.Tryz J6
variable [Ar][J6]
set_option maxRecDepth 100000
def c98 (N b r)(h:IE N b=some r):B1 prog 98 [(Bo b)] (vi r):=by
 refine M5 OM func98 call98 ntmps98 ?_;intro E D K Y J Q
 repeat' (cbv;first|apply E3 Y h<;>intro _ h|refine C1 Y h (c137 _ _ _) .z λ_ h=>?_|refine C1 Y (g:=λa=>vi a) h (λa X=>c138 N N b (.func (.func 139) [] []) (λe=>KH N e) (λe r X=>B1.value (F:=[]) (C:=[]) (c139 N e r X)) a X) .z λa h=>?_|(cases h;exact J Q .z))
@[reducible, instance] def zc98 (N aC):=Ct.mk (c98 N aC)
def cf218:=VZ [] [(6,10)]
def c218 (N:Nat):∀n a b r,Bg N n a b=some r->B1 prog 218 [(Bo a),(Bo b)] (.bool r):=by
 intro n
 induction n with
 |zero=>intro a b r h;cases h
 |succ n ih=>
 intro a b r h
 unfold Bg at h
 refine M5 cf218 func218 call218 ntmps218 ?_;intro E D K Y J Q
 repeat' (cbv;first|apply E3 Y h<;>intro _ h|apply L6 Y|(cases h;exact J Q .z))
 cbv;obtain⟨s,X,h⟩:=bind_some h;exact J2 cf218 Y K9 (λA=>[(2,.v (.eref (DE a) 0)),(3,.v (.eref (DE b) 0)),fi 50 (Ar.len a.dT),fi 51 A]) (xi D) (xm D 0 (λ_=>[]) (λ_=>[(4,.b false)])) JO Zi X Zf Q Zq
@[reducible, instance] def zc218 (N n aD aF):=Ct.mk (c218 N n aD aF)
def c223 (N b a e r)(h:Cd N b a e=some r):B1 prog 223 [.bool b,vi a,vi e] (.bool r):=by
 refine M5 OM func223 call223 ntmps223 ?_;exact T0
def c224 (N b a r)(h:X8 N b a=some r):B1 prog 224 [.bool b,vi a] (.bool r):=by
 refine M5 OM func224 call224 ntmps224 ?_;exact T0
@[reducible, instance] def zc224 (N bX aM):=Ct.mk (c224 N bX aM)
def cf182:=F5 [] [] [(64,10)]
def c182 (N F r)(h:Z1 N F=some r):B1 prog 182 [(D5 F)] (vi r):=by
 refine M5 cf182 func182 call182 ntmps182 ?_;intro E D K Y J Q
 repeat' (cbv;first|apply E3 Y h<;>intro _ h|apply L6 Y|refine C1 Y h (c223 _ _ _ _) .z λ_ h=>?_|(cases h;exact J Q .z)|refine Bw1 Y (g:=λx=>(Al6 x)) (l:=O3) rfl (λ_=>rfl) rfl rfl h λi h=>?_)
 cbv;obtain⟨b,X,h⟩:=bind_some h;refine S8 cf182 Y K9 (λe l a=>match(generalizing:=false) b with| .inl y=>e= .normal/\l=[(1,.v (.eref (E2 F) 0)),(3,.v (.eref (JT i) 0))]/\C3 Eq D [] a| .inr y=>e= .ret/\l=[fi 2 y]/\C3 Eq D [] a) JO ?_ ?_
 ·exact F4
 clear X
 rcases b with n|k
 ·exact S1
 exact S1
def cf135:=VY [2]
def Sy (N l r) (h:N8 N l=some r):B1 prog 135 [(D5 l)] (vi r):=by
 refine M5 cf135 func135 call135 ntmps135 ?_;intro E D K Y J Q;cbv;refine G3 Y Q λb H Q=>?_;cbv;refine C1 Y h (c181 N N l) .z λj h=>?_;cbv;apply E3 Y h<;>intro _ h
 ·exact Zg
 cbv;apply E3 Y h<;>intro _ h
 ·exact Zg
 cbv;refine Au Y h (c151 N l) .z λm p v h=>?_;cbv;obtain⟨g,X,h⟩:=bind_some h;refine FA cf135 Y K9 (ι:=Unit) (enc:=λ(x:A0)=>[(D5 x)]) (λ(n:Unit) F H=>C3 Eq F [cb b [vi 0]] H) (λ(r:Int) e F H=>e= .ret/\C3 Eq F [cb b [vi r]] H) (λi n k=>[(2,.v (.ref b 0)),(5,.v (.eref (E2 k) 0))]) (λi n k F H=>C3 Eq F [cb b [vi 0]] H) (λ_=>C3.stable D7 _) (λ_ _=>G7.con (C3.stable D7 _)) (λ_ _ _=>C3.stable D7 _) v X (Q) Sz (λ_=>rfl) JO JO ?_ ?_ ?_ ?_
 ·rintro E V k n y H Y Q;exact zb9
 ·rintro E V _ k n y H o Y f h Q;cbv;refine C1 Y h (c182 N k) .z λc h=>?_;cbv;apply E3 Y h<;>intro _ h
  ·exact F8
  exact Zg
 ·rintro a d H rfl hd Q;exact dnI
 rintro a w e H rfl hd P
 rcases P with⟨rfl,Q⟩
 exact zao
@[reducible, instance] def zc135 (N aA):=Ct.mk (Sy N aA)
def cf107:=VY [2]
def c107 (N k r) (h:IU N k=some r):B1 prog 107 [(D5 k)] (vi r):=by
 refine M5 cf107 func107 call107 ntmps107 ?_;intro E D K Y J Q;cbv;refine G3 Y Q λb H Q=>?_;cbv;refine C1 Y h (Sy N k) .z λg h=>?_;cbv;apply E3 Y h<;>intro _ h
 ·exact Zg
 cbv;refine Au Y h (c151 N k) .z λj m v h=>?_;cbv;obtain⟨f,X,h⟩:=bind_some h;refine FA cf107 Y K9 (ι:=Unit) (enc:=λ(x:A0)=>[(D5 x)]) (λ(l:Unit) F H=>C3 Eq F [cb b [vi 0]] H) (λ(r:Int) e F H=>e= .ret/\C3 Eq F [cb b [vi r]] H) (λi l n=>[(2,.v (.ref b 0)),(4,.v (.eref (E2 n) 0))]) (λi l n F H=>C3 Eq F [cb b [vi 0]] H) (λ_=>C3.stable D7 _) (λ_ _=>G7.con (C3.stable D7 _)) (λ_ _ _=>C3.stable D7 _) v X (Q) Sz (λ_=>rfl) JO JO ?_ ?_ ?_ ?_
 ·rintro E V n l y H Y Q;exact zb9
 ·rintro E V _ n l y H o Y d h Q;cbv;apply E3 Y h<;>intro _ h
  ·exact F8
  exact Zg
 ·rintro a c H rfl hd Q;exact dnI
 rintro a w e H rfl hd P
 rcases P with⟨rfl,Q⟩
 exact zao
@[reducible, instance] def zc107 (N aA):=Ct.mk (c107 N aA)
def cf108:=F5 [5,6,7] [(11,5)] [(18,7)]
def c108 (N P r) (h:Ga N P=some r):B1 prog 108 [(D5 P)] (.tup [vi r.1,vi r.2.1,.bool r.2.2]):=by
 refine M5 cf108 func108 call108 ntmps108 ?_;intro E D K Y J Q;cbv;refine G3 Y Q λv H Q=>?_;cbv;refine G3 Y Q λk H Q=>?_;cbv;refine G3 Y Q λn H Q=>?_;cbv;refine D6 Y Q 2 rfl rfl λH Q=>?_;cbv;refine D6 Y Q 1 rfl rfl λH Q=>?_;cbv;refine D6 Y Q 0 rfl rfl λH Q=>?_;cbv;refine Au Y h (c151 N P) .z λt u c h=>?_;cbv;obtain⟨q,X,h⟩:=bind_some h;refine FA cf108 Y K9 (ι:=Unit) (enc:=λ(x:A0)=>[(D5 x)]) (λ(a:Bool×Int×Int) F H=>C3 Eq F [cb n [.bool a.1],cb k [vi a.2.1],cb v [vi a.2.2]] H) (λ(r:Unit) e F H=>False) (λi a y=>[(5,.v (.ref v 0)),(6,.v (.ref k 0)),(7,.v (.ref n 0)),(8,.v (.eref (E2 y) 0))]) (λi a y F H=>C3 Eq F [cb n [.bool a.1],cb k [vi a.2.1],cb v [vi a.2.2]] H) (λ_=>C3.stable D7 _) (λ_ _=>⟨λh=>h.elim,λ_ _ h=>h.elim⟩) (λ_ _ _=>C3.stable D7 _) c X (Q) Sz (λ_=>rfl) JO JO ?_ ?_ ?_ ?_
 ·rintro E p y a j H Y Q;exact zba
 ·rintro E p _ y a j H o Y s h Q;cbv;refine Bw1 Y (g:=λx=>(Al6 x)) (l:=O3) rfl (λ_=>rfl) rfl rfl h λf h=>?_;cbv;obtain⟨w,X,h⟩:=bind_some h;refine S8 cf108 Y K9 (λe l m=>e= .normal/\l=[(6,.v (.ref k 0)),(7,.v (.ref n 0)),(8,.v (.eref (E2 y) 0)),(9,.v (.eref (JT f) 0))]/\C3 Eq j [cb n [.bool w.1],cb k [vi a.2.1],cb v [vi w.2]] m) JO ?_ ?_
  ·exact F4
  clear X;exact S1
 ·rintro V b H rfl hd Q;have Q:C3 Eq D [cb n [.bool b.1],cb k [vi b.2.1],cb v [vi b.2.2],.blk V DB] H:=C3.dblk hd Q;clear hd;cbv;apply E0 Y Q 2 rfl;cbv;apply E0 Y Q 1 rfl;cbv;apply E0 Y Q 0 rfl;cbv;refine Ei Y Q 3 rfl λH Q=>?_;exact Zg
 exact zb1
@[reducible, instance] def zc108 (N aA):=Ct.mk (c108 N aA)
def c67 (N F r)(h:Et N F=some r):B1 prog 67 [(D5 F)] (vi r):=by
 refine M5 OM func67 call67 ntmps67 ?_;exact T0
@[reducible, instance] def zc67 (N aA):=Ct.mk (c67 N aA)
def c97 (N:Nat)(a:Up A0)(e:V)(i:A0->OS Bool)(l:∀k q,i k=some q->U9 prog e [(D5 k)] (.bool q))(r:Int)(h:M0 N a i=some r):B1 prog 97 [sr eCl1 a,e] (vi r):=by
 refine M5 OM func97 call97 ntmps97 ?_;intro E D K Y J Q;cbv;apply L6 Y;cbv;obtain⟨s,X,h⟩:=bind_some h;refine J2 OM Y K9 (λA=>[(0,.v (sr eCl1 a)),(1,.v (e)),fi 7 (Ar.len a),fi 8 A]) (xi D) (xm D 0 (λ_=>[]) (λy=>[fi 4 y])) JO ?_ X Zf Q Zq;intro A H o Q h;cbv;apply E3 Y h<;>intro _ h
 ·cbv;refine G0 Y eCl5 h λn h=>?_;exact zab
 exact Zg
def cf222:=VY [8]
def c222 (N:Nat)(a:Up A0)(e:Up A0)(i:V)(k:A0->A0->OS Bool)(v:∀l n q,k l n=some q->U9 prog i [(D5 l),(D5 n)] (.bool q))(r:Bool)(h:O4 N a e k=some r):B1 prog 222 [sr eCl1 a,sr eCl1 e,i] (.bool r):=by
 refine M5 cf222 func222 call222 ntmps222 ?_;intro E D K Y J Q
 repeat' (cbv;first|apply E3 Y h<;>intro _ h|apply L6 Y|(cases h;exact J Q .z))
 cbv;obtain⟨s,X,h⟩:=bind_some h;refine J2 cf222 Y K9 (λA=>[(1,.v (sr eCl1 e)),(2,.v (i)),(15,.v (sr eCl1 a)),fi 16 (Ar.len a),fi 17 A]) (xi D) (xm D 0 (λ_=>[]) (λ_=>[(6,.b false)])) JO ?_ X Zf Q Zq;intro A H o Q h;cbv;apply E3 Y h<;>intro _ h
 ·cbv;refine G0 Y eCl5 h λw h=>?_;cbv;refine G3 Y Q λx H Q=>?_;cbv;refine D6 Y Q 0 rfl rfl λH Q=>?_;cbv;refine G0 Y eCl5 h λx5 h=>?_;cbv;apply E0 Y Q 0 rfl;cbv;refine X3 Y (g:=λb=>.bool b) h (λb X=>v w x5 b X) .z λb h=>?_;exact Zg
 exact Zg
def c179 (N:Nat):∀n a b r,CK N n a b=some r->B1 prog 179 [(D5 a),(D5 b)] (.bool r):=by
 intro n
 induction n with
 |zero=>intro a b r h;cases h
 |succ n ih=>
 intro a b r h
 unfold CK at h
 refine M5 OM func179 call179 ntmps179 ?_;intro E D K Y J Q
 repeat' (cbv;first|apply E3 Y h<;>intro _ h|refine C1 Y h (c218 _ _ _ _) .z λ_ h=>?_|refine C1 Y (g:=λe=>.bool e) h (λe X=>c222 N a.dT b.dT (.func (.func 179) [] []) (λi k=>CK N n i k) (λi k r X=>B1.value (F:=[]) (C:=[]) (ih i k r X)) e X) .z λe h=>?_|(cases h;exact J Q .z))
@[reducible, instance] def zc179 (N n aD aF):=Ct.mk (c179 N n aD aF)
def c178 (N b a r)(h:Ee N b a=some r):B1 prog 178 [(D5 b),.eref (E2 a) 0] (.bool r):=by
 refine M5 OM func178 call178 ntmps178 ?_;exact T0
def c131 (N e a r)(h:P3 N e a=some r):B1 prog 131 [sr eCl1 e,(D5 a)] (vi r):=by
 refine M5 OM func131 call131 ntmps131 ?_;intro E D K Y J Q;cbv;refine C1 Y (g:=λb=>vi b) h (λb X=>c97 N e (.func (.func 178) [] [.eref (E2 a) 0]) (λi=>Ee N i a) (λi r X=>B1.value (F:=[]) (C:=[.eref (E2 a) 0]) (c178 N i a r X)) b X) .z λb h=>?_;exact Zg
def c213 (N a r) (h:Ed N a=some r):Gj prog 213 (λi=>[i,.eref (E2 a) 0]) (List.map (λ(x:(C5×A7))=>[(M6 x.1),(B7 x.2)]) r) Zc:=by
 unfold Ed at h
 obtain⟨⟨w0,w⟩,O,e⟩:=bind_some h;clear h;have e:=J9 e;subst e;have h:=O;clear O;refine M9 OM K9 func213 QX JO call213 ntmps213 QX (λ_=>rfl) ?_;intro i I D l k n tl F E H K Y Q J b
 have Q:C3 (I (List.map (λ(x:(C5×A7))=>[(M6 x.1),(B7 x.2)]) (w0++[])++tl)) F [] H:=by rw[F2];exact Q
 cbv;obtain⟨v,h,R⟩:=Q5 h
 rw[R,E1]at Q
 clear R;have Q:C3 (I ([.agg [vi 0,vi 0,vi a.Var,vi a.Typ,vi a.dU.Op,sr eCl6 a.dU.dT,vi a.dU.Var,vi a.dU.Field,vi a.dU.Kind,vi a.dU.Value.Kind,vi a.dU.Value.Num,.str a.dU.Value.Text,sr (V.int .i64) ([]),sr (V.int .i64) ([]),sr eCl6 ([]),sr eCm6 ([]),sr (V.int .i64) ([])],.agg [.bool true,vi 0,sr eCl1 ([]),vi 0,vi 0,vi 0,vi 0,vi 0,sr eCl6 ([]),vi 0,vi 0,vi 0,vi 0,vi 0,.str (⟨#[]⟩)]]::(List.map (λ(x:(C5×A7))=>[(M6 x.1),(B7 x.2)]) (v++[])++tl))) F [] _:=Q;refine Be Y l k n Q (.cons (.agg (.r (.r (.r (.r (.r (.r (.r (.r (.r (.r (.r (.r (.cons (.lit _ (E4)) (.cons (.lit _ (E4)) (.cons (.lit _ (E4)) (.cons (.lit _ (E4)) (.cons (.lit _ (E4)) .z)))))))))))))))))) (.cons (.agg (.r (.r (.cons (.lit _ (E4)) (.r (.r (.r (.r (.r (.cons (.lit _ (E4)) .z)))))))))) .z)) (λH Q=>?_) (λH Q=>?_)
 ·cbv;obtain⟨m,_⟩:=D0 h
  rw[<-m]at Q
  exact Hw
 exact zci
def cf260:=VY [7]
def c260 (N a r)(h:S6 N a=some r):YX prog 260 [sr eCl1 a] 14 (lst eCl1 r):=by
 intro H0;refine Ew (T:=TT) cf260 K9 func260 QX JO call260 ntmps260 QX QX ?_;intro E K Y J g;have Q:C3 Eq H0 [] H0:=.start D7 rfl;cbv;refine Bv8 Y rfl (λX=>?_) ?_
 ·cbv;exact g (AE1 X h) [] H0 Q
 cbv;refine AV8 (f:=eCl1) Y AM Sz Q (.inr rfl) (m:=a) (Dr (f:=eCl1) Y AM .z) h λl q H c Q h=>?_;cbv;cases h;exact J q _ _ (BH Y c) Q
def Cg7 (vals:SI HO)(w:Is):(callFunc 285 vals).run prog w=((Extern.SlicesOverlaps.overlaps #[23,23] #[4] vals).run prog w).andThen λv w'=>.ok (.value v) w':=
 run_callFunc_extern func285 JO JO JO (e:=Extern.SlicesOverlaps.overlaps #[23,23] #[4]) JO vals w
def cf261:=VZ [] [(11,8),(15,8)]
set_option maxHeartbeats 1000000 in
def c261 (N aB aT aN r) (h:V7 N aB aT aN=some r):Ok prog 261 [vi aT,.sl (lst eCl1 aN) .ro] 14 (lst eCl1 aB) (lst eCl1 r):=by
 unfold V7 at h
 obtain⟨x,O,Z⟩:=bind_some h;cases J9 Z;obtain⟨I,O,Z,Q⟩:=BM7 (f:=eCl1) O;rw[Q];clear Q h;have v:=PX AM aN
 generalize lst eCl1 aB=xs at *
 generalize lst eCl1 aN=vs at *
 rintro H ⟨id,lo,n,pre,rest⟩ ⟨e1,e2⟩ S
 simp only at e1 e2 S
 refine YG (T:=TT) cf261 K9 func261 QX JO call261 ntmps261 QX QX ?_;intro E K Y J
 simp only at J ⊢
 generalize k:pre++xs++rest=row at S
 obtain⟨RL,i⟩:∃RL:Int,RL=(row.length:Nat):=⟨_,rfl⟩;obtain⟨M,R⟩:∃M:Int,M=(vs.length:Nat):=⟨_,rfl⟩
 have ab:lo+n<=RL:=by rw[i,<-k,e1,e2];simp;omega
 have bf:0<=lo/\0<=n/\aT<=n/\0<=M/\n+M<=1073741824:=AY
 have F:∀a b:Int,0<=a->0<=b->a+b<=1073741824->ar .add .i64 a b=a+b:=λa b u W av=>by rw[ar_eq];exact wrap_small _ AY AY
 have X:∀a b:Int,0<=b->b<=a->a<=1073741824->ar .sub .i64 a b=a-b:=λa b u W av=>by rw[ar_eq];exact wrap_small _ AY AY
 have B:ar .add .i64 n M=n+M:=F _ _ AY AY AY;have g:ar .add .i64 aT M=aT+M:=F _ _ AY AY AY
 have ax:ar .sub .i64 (ar .add .i64 n M) aT=n+M-aT:=by rw[B];exact X _ aT I AY AY
 have ah:∀c b,cmp .gtr (ar .add .i64 n M) c=b->(b=true->c<n+M)/\(b=false->n+M<=c):=λc b h=>by
  rw[cmp_eq,B]at h;subst h;simp[JG]
 have aw:(n.toNat+vs.length)*152<=140737488355328:=QG AY Sz;have ae:∀a b:Int,0<=a->0<=b->a+b<=1073741824->(a.toNat+b.toNat)*152<=140737488355328:=λa b _ _ _=>QG AY Sz
 have D:∀G s:Int,0<=G->0<=s->G+s<=RL->s=((P2 row G s).length:Nat):=λG s a b c=>by rw[DO a b (by rw[<-i];exact c)];omega
 have a0:∀(r1 r2 ys:Up V) (L l YL n:Int),L=(r1.length:Nat)->YL=(ys.length:Nat)->0<=l->l+YL<=L->r2=Cp r1 l.toNat (ys.take n.toNat)->L=(r2.length:Nat):=λr1 r2 ys L l YL n a b c d e=>by
  rw[e,He Ts];exact a
 have al:∀(r1:Up V) (l G s n:Int),0<=l->0<=n->l+n<=RL->0<=G->0<=s->r1=Cp row l.toNat ((P2 row G s).take n.toNat)->RL=(r1.length:Nat):=λr1 l G s n a b c _ _ e=>by
  rw[e,He Ts];exact i
 have ay:∀(r2:Up V) (z:V) (j:Nat) (l n d:Int),0<=l->0<=n->l+n<=RL->0<=d->r2=P2 row l n++List.replicate d.toNat z++List.replicate j z->∃L:Int,L=(r2.length:Nat)/\n+d<=L:=λr2 z j l n d a b c e f=>⟨_,rfl,by rw[f];simp only[N1,UV,DO a b (by rw[<-i];exact c)];omega⟩
 have ak:∀t (b:OS FV),H t=none->upd H t b id=some (.arr 14 row):=λt b o=>by rw[C8 _ _ (λe=>by subst e;rw[S]at o;cases o)];exact S
 have a3:vs=[]->xs.take aT.toNat++vs++xs.drop aT.toNat=xs:=λe=>by rw[e,F2,Da]
 have a4:aT=n->xs.take aT.toNat++vs++xs.drop aT.toNat=xs++vs:=λe=>by rw[e,e2,Z5,W4 (C6 _),Va (C6 _),F2]
 have a2:M=0->vs=[]:=λe=>List.length_eq_zero_iff.1 AY
 have C:∀op a b c,cmp op a b=c->JG op a b=c:=λop a b c h=>by rw[<-cmp_eq];exact h
 cbv;refine AS Y S i aT n rfl rfl I AY ab λ_ _ _ _=>?_;cbv;refine Oy Y R ?_;cbv;refine Ui Y (λhc=>?_) (λhc=>?_)
 ·cbv
  have aj:M=0:=by simpa[JG]using C _ _ _ _ hc
  rw[a3 (a2 aj)]at J
  refine J id lo n row pre rest H k.symm e1 e2 (.inl rfl) ?_;rw[BA];exact BW1 S
 cbv
 have aj:¬M=0:=by simpa[JG]using C _ _ _ _ hc
 refine Ai5 Y ?_;cbv;refine Ui Y (λaf=>?_) (λaf=>?_)
 ·cbv
  have ai:aT=n:=by simpa[JG]using C _ _ _ _ af
  rw[a4 ai]at J
  refine Bt6 Y S i (y:=.sl vs .ro) (ys':=vs) ⟨.refl _,v⟩ R (λaa m w q5 q=>?_) (λaz=>⟨aw,λt m w j o q5 q=>?_⟩)
  ·cbv;have A:=BO4 k.symm e1 e2 R q5 q;exact J id lo m w pre _ _ A.1 e1 A.2 (.inl rfl) (by rw[BA];exact .refl _)
  cbv;have A:=Bz3 k.symm e1 e2 R q5 q;exact J t 0 m w [] _ _ A.1 rfl A.2 (.inr o) AZ4
 cbv;refine BX5 Y S i λc bc=>?_;cbv;refine Ui Y (λac=>?_) (λac=>?_)
 ·have be:c<n+M:=(ah c _ ac).1 rfl;cbv;refine AS Y S i 0 aT rfl rfl (T9 _) I AY λl1 n1 q1 q2=>?_
  have a9:lo=l1:=AY
  have ba:aT=n1:=AY
  subst a9 ba;cbv;refine BJ6 Y (n+M-aT) ax S i AY (ae _ _ AY AY AY) (λaa=>absurd aa AY) (λaz t m p j o qm U=>?_);obtain⟨L2,ad,bb⟩:=ay p _ j _ _ _ AY AY AY AY U;cbv;refine AS Y (E7 _ _ _) ad aT m rfl rfl I AY AY λa5 a7 q1 q2=>?_;cbv;refine SL Y (E7 _ _ _) (y:=.sl vs .ro) (ys':=vs) ⟨.refl _,v⟩ R λcm an _ am=>?_;have au:=a0 p an vs L2 a5 M a7 ad R AY AY am;rw[BA];cbv;refine AS Y (E7 _ _ _) au _ m g rfl AY AY AY λbg bh q3 q4=>?_;cbv;refine AS Y (ak _ _ o) i aT n rfl rfl I AY ab λa6 a8 q5 q6=>?_;cbv;refine SL Y (E7 _ _ _) (Ag8 Y (ak _ _ o)) (D a6 a8 AY AY AY) λap ao _ a1=>?_;rw[BA];cbv;have A:=BO3 (d:=n+M-aT) (m:=m) k.symm e1 e2 R I O rfl qm U AY q2 am AY AY q5 q6 a1;exact J t 0 m ao [] _ _ A.1 rfl A.2 (.inr o) AZ4
 have bd:n+M<=c:=(ah c _ ac).2 rfl;cbv;refine AS Y S i 0 (n+M) rfl B (T9 _) AY AY λl0 n0 ql qm=>?_;cbv;refine AS Y S i _ n0 g rfl AY AY AY λl1 n1 q1 q2=>?_;cbv;refine BJ7 Y (pck (P:=prog) (f:=285) (tS:=23) (tR:=4) (e:=30) (sz:=14) (xs:=vs) (t:=.ro) Cg7 JO JO S v) ?_;cbv;refine Ui Y (λag=>?_) (λag=>?_)
 rotate_left
 ·exact absurd (show Ar.nt false=false from ag) (by rw[Ar.nt_eq];decide)
 cbv;refine AS Y S i _ n0 g rfl AY AY AY λl1 n1 q1 q2=>?_;cbv;refine AS Y S i aT n0 rfl rfl I AY AY λG s q3 q4=>?_;cbv;refine SL Y S (Ag8 Y S) (D G s AY AY AY) λcm w _ q=>?_;have aq:=al w l1 G s n1 AY AY AY AY AY q;cbv;refine AS Y (E7 _ _ _) aq aT n0 rfl rfl I AY AY λl3 n3 q5 q6=>?_;cbv;refine SL Y (E7 _ _ _) (y:=.sl vs .ro) (ys':=vs) ⟨.refl _,v⟩ R λap p _ U=>?_;rw[BA];cbv;have A:=BZ8 (m:=n0) k.symm e1 e2 R I O i AY AY AY q1 q2 q3 q4 q q5 q6 U;exact J id l0 n0 p pre _ _ A.1 AY A.2 (.inl rfl) (by rw[BA];exact .refl _)
def cf262:=VY [4]
def c262 (N a b r)(h:Cu N a b=some r):B1 prog 262 [vi a,sr eCl1 b] ((D5 r)):=by
 refine M5 cf262 func262 call262 ntmps262 ?_;exact T0
@[reducible, instance] def zc262 (N aW bP):=Ct.mk (c262 N aW bP)
def cf240:Cf:=⟨[4],[],[(10,4)],[],[(20,5),(20,16)],[]⟩
def c240 (N i k r) (h:CP N i k=some r):B1 prog 240 [(B7 i),sr eCl1 k] ((B7 r)):=by
 refine M5 cf240 func240 call240 ntmps240 ?_;intro E D K Y J Q;cbv;refine G3 Y Q λv H Q=>?_;cbv;refine NQ Y (f:=eCl1) h (c260 N k) .z Q λP c H n Q h=>?_;cbv;obtain⟨w,X,h⟩:=bind_some h;refine S8 cf240 Y K9 (λe l x=>∃b:OG,Cj b (Ar.len w)/\e= .normal/\l=[(4,.v (.ref v 0)),(5,.v (.own b.id b.lo b.n))]/\C3 Eq D [ob b 14 eCl1 w,cb v [.bool false,vi 0,.sl [] .nil,vi 0,vi 0,vi 0,vi 0,vi 0,.sl [] .nil,vi 0,vi 0,vi 0,vi 0,vi 0,.str (⟨#[]⟩)]] x) JO ?_ ?_
 ·clear h;have h:=X;cbv;apply E3 Y h<;>intro _ h
  ·cbv;refine HA Y (f:=eCl1) Q n 0 rfl h (c261 N P 0 ([i.p])) (.r (.cons (.lit _ (G1 ((eCl5 i.p).symm) (E4))) .z)) λV d H y Q h=>?_;exact Zg
  exact Zg
 clear X;rintro e l H ⟨g,a,rfl,rfl,Q⟩;cbv;apply RI Y a;cbv;apply E3 Y h<;>intro _ h
 ·exact Zg
 exact zb8
def cf263:=VZ [] [(5,6)]
def c263 (N q P cI r) (h:V9 N q P cI=some r):Ok prog 263 [vi P,vi cI] 14 (lst eCl1 q) (lst eCl1 r):=by
 unfold V9 at h
 obtain⟨x,O,Z⟩:=bind_some h;cases J9 Z;obtain⟨L,O,Z,Q⟩:=BM8 (f:=eCl1) O;rw[Q];clear Q h
 generalize lst eCl1 q=xs at *
 rintro H ⟨id,lo,n,pre,rest⟩ ⟨t,e2⟩ S
 simp only at t e2 S
 refine YG (T:=TT) cf263 K9 func263 QX JO call263 ntmps263 QX QX ?_;intro E K Y J
 simp only at J ⊢
 generalize i:pre++xs++rest=row at S
 obtain⟨RL,e⟩:∃RL:Int,RL=(row.length:Nat):=⟨_,rfl⟩
 have k:lo+n<=RL:=by rw[e,<-i,t,e2];simp;omega
 have C:0<=lo/\0<=n/\cI<=n:=AY
 have u:∀w v:Int,0<=w->0<=v->w+v<=RL->v=((P2 row w v).length:Nat):=λw v a b c=>by rw[DO a b (by rw[<-e];exact c)];omega
 cbv;refine Ai5 Y ?_;cbv;refine Bh0 Y S e P cI rfl rfl L O AY k rfl ?_;cbv;refine Ui Y (λd=>?_) (λd=>?_)
 ·cbv
  have g:P=cI:=by rw[cmp_eq]at d;simpa[JG]using d
  refine J id lo n row pre rest H ?_ t ?_ (.inl rfl) ?_
  ·rw[<-i,g,Da]
  ·rw[g,Da];exact e2
  rw[BA];intro y b I
  by_cases B:y=id
  ·subst B;rw[E7]at I;cases I;exact S
  rwa[C8 _ _ B]at I
 cbv;refine Ai5 Y ?_;cbv;refine AS Y S e 0 P rfl rfl (T9 _) L AY λD F q1 q2=>?_;cbv;refine AS Y S e cI n rfl rfl AY AY k λw v G M=>?_;cbv;have l:=u w v AY AY AY;refine Bt6 Y S e (Ag8 Y S) l (λV m o R j=>?_) (λz=>absurd z AY);cbv;refine Ai5 Y ?_;cbv
 have s:RL=(o.length:Nat):=by rw[j,He (BH4 e l AY AY V)];exact e
 refine AS Y (E7 _ _ _) s m n rfl rfl AY AY AY λX n3 U W=>?_;cbv;refine Bt5 Y (E7 _ _ _) λp A=>?_;cbv;have hd:=BQ2 i.symm t e2 L O Z AY AY G M j (R.trans (J8 (F+ ·) l)) U W A;rw[BA];exact J id D m p pre _ _ hd.1 AY hd.2 (.inl rfl) (by rw[BA];exact .refl _)
def cf241:Cf:=⟨[6],[],[],[],[(22,7)],[]⟩
def c241 (N e b i r)(h:EF N e b i=some r):B1 prog 241 [sr eCl1 e,vi b,(B7 i)] ((B7 r)):=by
 refine M5 cf241 func241 call241 ntmps241 ?_;intro E D K Y J Q;cbv;refine G3 Y Q λn H Q=>?_;cbv;refine NQ Y (f:=eCl1) h (c260 N e) .z Q λl x H a Q h=>?_;cbv;apply E3 Y h<;>intro _ h
 ·cbv;refine HA Y (f:=eCl1) Q a 0 rfl h (c263 N l b (ar .add .i64 b 1)) .z λv y H k Q h=>?_;cbv;refine RJ Y Q k 0 rfl λH Q=>?_;exact Zg
 cbv;refine Hz Y Q a 0 rfl h λh=>?_;cbv;refine Hy Y (f:=eCl1) (esz:=14) (tz:=14) (off:=0) (u:=(λP:A0=>i.p)) (λ_=>⟨_,.eq (eCl5 _) .z,(by rw[eCl5];rfl),AM _,rfl⟩) Sz Q a 0 rfl h λw H a h Q=>?_;cbv;refine RJ Y Q a 0 rfl λH Q=>?_;exact Zg
def cf264:=VY [22]
def c264 (N y aM r) (h:sym N y aM=some r):YX prog 264 [.sl [] .nil,vi aM] 8 (lst eCl6 r):=by
 obtain⟨O,Z,Q⟩:=SX (f:=eCl6) h;rw[Q];clear Q h;intro D
 have k:∀b,cmp .lss aM 0=b->b=false:=λb h=>by rw[cmp_eq]at h;subst h;simp[JG];omega
 have e:ar .sub .i64 aM (ar .sub .i64 0 0)=aM:=by rw[ar_eq,ar_eq];simp only[arI];rw[show(0:Int)-0=0 from rfl,wrap_small 0 AY AY,LD];exact wrap_small _ AY AY
 have P:∀b,cmp .gtr (ar .sub .i64 aM (ar .sub .i64 0 0)) 0=b->(b=false->aM=0):=λb h=>by rw[e,cmp_eq]at h;subst h;simp[JG];omega
 have v:aM.toNat*88<=140737488355328:=by have:=QG (a:=aM.toNat) (b:=0) (by_:=88) AY Sz;simpa using this
 have i:(0:Int)=(([]:Up V).length:Nat):=rfl;refine Ew (T:=TT) cf264 K9 func264 QX JO call264 ntmps264 QX QX ?_;intro E K Y J g;cbv;refine Ui Y (λd=>absurd (k _ d) Sz) (λd=>?_);cbv;refine Oy Y i ?_;cbv;refine Ui Y (λw=>?_) (λw=>?_)
 ·cbv;refine Wo Y ?_;cbv;refine SM Y aM e (.inl rfl) O v λt m row j o p x=>?_;obtain⟨RL,n,l⟩:∃RL:Int,RL=(row.length:Nat)/\0<=RL:=⟨_,rfl,AY⟩;cbv;refine Oy Y i ?_;cbv;refine AS Y (E7 _ _ _) n 0 0 rfl rfl (T9 _) (T9 _) l λl' n' c q=>?_;cbv
  have H:0=l':=AY
  have e2:0=n':=AY
  exact F1
 exact zbp
def c244 (N a r) (h:AJ N a=some r):B1 prog 244 [sr eCo3 a] (sr eCl6 r):=by
 refine Ch (T:=TT) OM K9 func244 QX JO call244 ntmps244 QX QX ?_;intro E H0 K Y J V;have Q:C3 Eq H0 [] H0:=.start D7 rfl;cbv;apply L6 Y;cbv;obtain⟨s,X,h⟩:=bind_some h;refine J2 OM Y K9 (λA=>[(0,.v (sr eCo3 a)),fi 3 A.1,(9,.v (sr eCo3 a)),fi 10 (Ar.len a),fi 11 A.2]) (xi H0) (xe H0 0 λx=>[(0,.v (sr eCo3 a)),fi 3 x]) JO Zi X Zf Q ?_;clear X;rintro e l H ⟨rfl,rfl,Q⟩;cbv;refine NQ Y (f:=eCl6) h (c264 N [] s) (.r (.r .nil)) Q λq j H v Q h=>?_;cbv;apply L6 Y;cbv;obtain⟨u,X,h⟩:=bind_some h;refine S0 OM Y K9 (γ:=OG) (λi g=>[(6,.v (.own g.id g.lo g.n)),(25,.v (sr eCo3 a)),fi 26 (Ar.len a),fi 27 i.1]) (λi g n=>Cj g (Ar.len i.2)/\C3 Eq H0 [ob g 8 eCl6 i.2] n) (λx e l n=>∃k:OG,Cj k (Ar.len x)/\e= .exit 2/\l=[(6,.v (.own k.id k.lo k.n))]/\C3 Eq H0 [ob k 8 eCl6 x] n) JO ?_ j X ?_ ?_ ?_
 ·rintro i t H o ⟨w,Q⟩ h;cbv;apply E3 Y h<;>intro _ h
  ·cbv;refine G0 Y eCp5 h λp h=>?_;cbv;refine Ff (f:=eCl6) Y Ap9 Sz Q w 0 rfl (m:=p) (Dr (f:=eCl6) Y Ap9 .z) h λc d H P Q h=>?_;exact Zg
  exact Zg
 ·exact .e4 .z
 ·exact⟨v,Q⟩
 exact zae
def cf287:=VY [22]
def c287 (N y aM r) (h:xdB N y aM=some r):YX prog 287 [.sl [] .nil,vi aM] 1 (lst (V.int .i64) r):=by
 obtain⟨O,Z,Q⟩:=SX (f:=(V.int .i64)) h;rw[Q];clear Q h;intro D
 have k:∀b,cmp .lss aM 0=b->b=false:=λb h=>by rw[cmp_eq]at h;subst h;simp[JG];omega
 have e:ar .sub .i64 aM (ar .sub .i64 0 0)=aM:=by rw[ar_eq,ar_eq];simp only[arI];rw[show(0:Int)-0=0 from rfl,wrap_small 0 AY AY,LD];exact wrap_small _ AY AY
 have P:∀b,cmp .gtr (ar .sub .i64 aM (ar .sub .i64 0 0)) 0=b->(b=false->aM=0):=λb h=>by rw[e,cmp_eq]at h;subst h;simp[JG];omega
 have v:aM.toNat*8<=140737488355328:=by have:=QG (a:=aM.toNat) (b:=0) (by_:=8) AY Sz;simpa using this
 have i:(0:Int)=(([]:Up V).length:Nat):=rfl;refine Ew (T:=TT) cf287 K9 func287 QX JO call287 ntmps287 QX QX ?_;intro E K Y J g;cbv;refine Ui Y (λd=>absurd (k _ d) Sz) (λd=>?_);cbv;refine Oy Y i ?_;cbv;refine Ui Y (λw=>?_) (λw=>?_)
 ·cbv;refine Wo Y ?_;cbv;refine SM Y aM e (.inl rfl) O v λt m row j o p x=>?_;obtain⟨RL,n,l⟩:∃RL:Int,RL=(row.length:Nat)/\0<=RL:=⟨_,rfl,AY⟩;cbv;refine Oy Y i ?_;cbv;refine AS Y (E7 _ _ _) n 0 0 rfl rfl (T9 _) (T9 _) l λl' n' c q=>?_;cbv
  have H:0=l':=AY
  have e2:0=n':=AY
  exact F1
 exact zbp
def c265 (N a r) (h:Z9 N a=some r):B1 prog 265 [sr eLI a] (sr (V.int .i64) r):=by
 refine Ch (T:=TT) OM K9 func265 QX JO call265 ntmps265 QX QX ?_;intro E H0 K Y J c;have Q:C3 Eq H0 [] H0:=.start D7 rfl;cbv;apply L6 Y;cbv;obtain⟨s,X,h⟩:=bind_some h;refine J2 OM Y K9 (λA=>[(0,.v (sr eLI a)),fi 3 A.1,(9,.v (sr eLI a)),fi 10 (Ar.len a),fi 11 A.2]) (xi H0) (xe H0 0 λx=>[(0,.v (sr eLI a)),fi 3 x]) JO Zi X Zf Q ?_;clear X;rintro e l H ⟨rfl,rfl,Q⟩;cbv;refine NQ Y (f:=(V.int .i64)) h (c287 N [] s) (.r (.r .nil)) Q λt p H v Q h=>?_;cbv;apply L6 Y;cbv;obtain⟨z,X,h⟩:=bind_some h;refine S0 OM Y K9 (γ:=OG) (λi g=>[(6,.v (.own g.id g.lo g.n)),(25,.v (sr eLI a)),fi 26 (Ar.len a),fi 27 i.1]) (λi g n=>Cj g (Ar.len i.2)/\C3 Eq H0 [ob g 1 (V.int .i64) i.2] n) (λx e l n=>∃k:OG,Cj k (Ar.len x)/\e= .exit 2/\l=[(6,.v (.own k.id k.lo k.n))]/\C3 Eq H0 [ob k 1 (V.int .i64) x] n) JO ?_ p X ?_ ?_ ?_
 ·rintro i u H o ⟨w,Q⟩ h;cbv;apply E3 Y h<;>intro _ h
  ·cbv;refine G0 Y eCo0 h λq h=>?_;cbv;refine Ff (f:=(V.int .i64)) Y (λ_=>rfl) Sz Q w 0 rfl (m:=q) (Dr (f:=(V.int .i64)) Y (λ_=>rfl) .z) h λd j H P Q h=>?_;exact Zg
  exact Zg
 ·exact .e4 .z
 ·exact⟨v,Q⟩
 clear X;rintro e l H ⟨y,b,rfl,rfl,Q⟩;cbv;cases h;exact c y _ _ 0 _ _ Q rfl (BH Y b) .z
def cf288:=VY [22]
def c288 (N y aM r) (h:zax N y aM=some r):YX prog 288 [.sl [] .nil,vi aM] 2 (lst eCm6 r):=by
 obtain⟨O,Z,Q⟩:=SX (f:=eCm6) h;rw[Q];clear Q h;intro D
 have k:∀b,cmp .lss aM 0=b->b=false:=λb h=>by rw[cmp_eq]at h;subst h;simp[JG];omega
 have e:ar .sub .i64 aM (ar .sub .i64 0 0)=aM:=by rw[ar_eq,ar_eq];simp only[arI];rw[show(0:Int)-0=0 from rfl,wrap_small 0 AY AY,LD];exact wrap_small _ AY AY
 have P:∀b,cmp .gtr (ar .sub .i64 aM (ar .sub .i64 0 0)) 0=b->(b=false->aM=0):=λb h=>by rw[e,cmp_eq]at h;subst h;simp[JG];omega
 have v:aM.toNat*16<=140737488355328:=by have:=QG (a:=aM.toNat) (b:=0) (by_:=16) AY Sz;simpa using this
 have i:(0:Int)=(([]:Up V).length:Nat):=rfl;refine Ew (T:=TT) cf288 K9 func288 QX JO call288 ntmps288 QX QX ?_;intro E K Y J g;cbv;refine Ui Y (λd=>absurd (k _ d) Sz) (λd=>?_);cbv;refine Oy Y i ?_;cbv;refine Ui Y (λw=>?_) (λw=>?_)
 ·cbv;refine Wo Y ?_;cbv;refine SM Y aM e (.inl rfl) O v λt m row j o p x=>?_;obtain⟨RL,n,l⟩:∃RL:Int,RL=(row.length:Nat)/\0<=RL:=⟨_,rfl,AY⟩;cbv;refine Oy Y i ?_;cbv;refine AS Y (E7 _ _ _) n 0 0 rfl rfl (T9 _) (T9 _) l λl' n' c q=>?_;cbv
  have H:0=l':=AY
  have e2:0=n':=AY
  exact F1
 exact zbp
def c266 (N a r) (h:BZ N a=some r):B1 prog 266 [sr eCo5 a] (sr eCm6 r):=by
 refine Ch (T:=TT) OM K9 func266 QX JO call266 ntmps266 QX QX ?_;intro E H0 K Y J V;have Q:C3 Eq H0 [] H0:=.start D7 rfl;cbv;apply L6 Y;cbv;obtain⟨s,X,h⟩:=bind_some h;refine J2 OM Y K9 (λA=>[(0,.v (sr eCo5 a)),fi 3 A.1,(9,.v (sr eCo5 a)),fi 10 (Ar.len a),fi 11 A.2]) (xi H0) (xe H0 0 λx=>[(0,.v (sr eCo5 a)),fi 3 x]) JO Zi X Zf Q ?_;clear X;rintro e l H ⟨rfl,rfl,Q⟩;cbv;refine NQ Y (f:=eCm6) h (c288 N [] s) (.r (.r .nil)) Q λq j H v Q h=>?_;cbv;apply L6 Y;cbv;obtain⟨u,X,h⟩:=bind_some h;refine S0 OM Y K9 (γ:=OG) (λi g=>[(6,.v (.own g.id g.lo g.n)),(25,.v (sr eCo5 a)),fi 26 (Ar.len a),fi 27 i.1]) (λi g n=>Cj g (Ar.len i.2)/\C3 Eq H0 [ob g 2 eCm6 i.2] n) (λx e l n=>∃k:OG,Cj k (Ar.len x)/\e= .exit 2/\l=[(6,.v (.own k.id k.lo k.n))]/\C3 Eq H0 [ob k 2 eCm6 x] n) JO ?_ j X ?_ ?_ ?_
 ·rintro i t H o ⟨w,Q⟩ h;cbv;apply E3 Y h<;>intro _ h
  ·cbv;refine G0 Y eCp6 h λp h=>?_;cbv;refine Ff (f:=eCm6) Y ZL Sz Q w 0 rfl (m:=p) (Dr (f:=eCm6) Y ZL .z) h λc d H P Q h=>?_;exact Zg
  exact Zg
 ·exact .e4 .z
 ·exact⟨v,Q⟩
 exact zae
def cf245:=F5 [5,8] [] [(9,3),(25,5)]
def c245 (N F a k v r) (h:Ah N F a k v=some r):B1 prog 245 [(D5 F),(M6 a),.bool k,.bool v] ((M6 r)):=by
 refine M5 cf245 func245 call245 ntmps245 ?_;intro E D K Y J Q;cbv;refine G3 Y Q λb H Q=>?_;cbv;refine G3 Y Q λi H Q=>?_;cbv;obtain⟨n,X,h⟩:=bind_some h;refine S8 cf245 Y K9 (xn D [(2,.v (.bool k)),(4,.v (.eref (E2 F) 0)),(5,.v (.ref b 0)),(8,.v (.ref i 0))] [cb i [vi 0,vi 0,vi 0,vi 0,vi 0,.sl [] .nil,vi 0,vi 0,vi 0,vi 0,vi 0,.str (⟨#[]⟩),.sl [] .nil,.sl [] .nil,.sl [] .nil,.sl [] .nil,.sl [] .nil],cb b (Ci n)]) JO ?_ ?_
 ·clear h;have h:=X;cbv;apply E3 Y h<;>intro _ h
  ·cbv;apply E0 Y Q 1 rfl;cbv;refine C1 Y h (c265 N ([[F.dZ],a.eL])) (.cons (.sl _ (.lstc (.eq (eCo0 ([F.dZ])) (.lit _ (G1 (rfl) (E4)))) (.lstc (.eq (eCo0 a.eL) .z) (.lst0)))) .z) λx h=>?_;exact Zg
  exact Zg
 clear X;rintro e l H ⟨rfl,rfl,Q⟩;cbv;obtain⟨w,X,h⟩:=bind_some h;refine S8 cf245 Y K9 (xn D [(2,.v (.bool k)),(4,.v (.eref (E2 F) 0)),(5,.v (.ref b 0)),(8,.v (.ref i 0))] [cb i [vi 0,vi 0,vi 0,vi 0,vi 0,.sl [] .nil,vi 0,vi 0,vi 0,vi 0,vi 0,.str (⟨#[]⟩),.sl [] .nil,.sl [] .nil,.sl [] .nil,.sl [] .nil,.sl [] .nil],cb b (Ci w)]) JO ?_ ?_
 ·clear h;have h:=X
  repeat' (cbv;first|apply E3 Y h<;>intro _ h|refine C1 Y h (c265 _ _) (.cons (.sl _ (.lstc (.eq (eCo0 ([F.dZ])) (.lit _ (G1 (rfl) (E4)))) (.lstc (.eq (eCo0 n.eM) .z) (.lst0)))) .z) λ_ h=>?_|refine C1 Y h (c266 _ _) (.cons (.sl _ (.lstc (.eq (eCp6 ([(⟨F.dZ,F.Span⟩:Cq)])) (.lit _ (G1 ((eCp9 (⟨F.dZ,F.Span⟩:Cq)).symm) (E4)))) (.lstc (.eq (eCp6 n.eO) .z) (.lst0)))) .z) λ_ h=>?_|apply E0 Y Q 1 rfl|refine D6 Y Q 1 rfl rfl λH Q=>?_|(cases h;exact⟨_,⟨rfl,rfl,Q⟩,.e4 .z,rfl⟩))
 clear X;rintro e l H ⟨rfl,rfl,Q⟩
 repeat' (cbv;first|apply E3 Y h<;>intro _ h|refine C1 Y h (c265 _ _) (.cons (.sl _ (.lstc (.eq (eCo0 w.eN) .z) (.lstc (.eq (eCo0 ([F.dZ])) (.lit _ (G1 (rfl) (E4)))) (.lst0)))) .z) λ_ h=>?_|apply E0 Y Q 1 rfl|apply E0 Y Q 0 rfl|refine D6 Y Q 1 rfl rfl λH Q=>?_|refine D6 Y Q 0 rfl rfl λH Q=>?_|(cases h;exact J Q .z))
end Go.Ab
