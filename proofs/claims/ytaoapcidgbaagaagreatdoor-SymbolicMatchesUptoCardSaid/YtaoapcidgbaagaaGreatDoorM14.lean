/- . -/
import Derived.Test.YtaoapcidgbaagaaGreatDoorM13
set_option linter.all false
open Go.Ab.Ar (lst nt_eq)
namespace Go.Ab
open Go.RowKit Go.Proofs Go.Proofs.Tryz J6
variable [Ar][J6]
set_option maxRecDepth 100000
def cf246:Cf:=⟨[3,6],[(1,5)],[],[],[],[(1,3,[10])]⟩
def c246 (N F b a r)(h:CO N F b a=some r):B1 prog 246 [(D5 F),vi b,(D5 a)] ((D5 r)):=by
 unfold CO at h
 refine M5 cf246 func246 call246 ntmps246 ?_;intro E D K Y J Q;cbv;refine G3 Y Q λk H Q=>?_;cbv;refine G3 Y Q λl H Q=>?_;cbv;refine XK Y Q 1 rfl λi e n=>?_;cbv;refine FQ Y trivial ?_;cbv;refine XM Y Q 1 rfl e λH Q=>?_;cbv;refine D6 Y Q 1 rfl rfl λH Q=>?_;cbv;refine E0 Y Q 1 rfl ?_;cbv;refine D6 Y Q 0 rfl rfl λH Q=>?_;cbv;refine E0 Y Q 0 rfl ?_;cbv;cases h;exact J Q (.agg (.cons (.refl _) (.cons (.lit _ (G1 ((eCl5 a).symm) (E4))) (.refl _))))
def cf174:=F5 [] [(9,5),(11,8)] [(8,6)]
def BF3 (N n:Nat):Prop:=∀(F:A0) (r:(Up (C5×A7))),M8 N n F=some r->Bj prog 174 [(D5 F)] (λv=>Fs prog v (r.map λ(x:(C5×A7))=>[(M6 x.1),(B7 x.2)]))
def Cd5 (N n:Nat):Prop:=∀(F:A0) (r:(Up (C5×A7))),Bw N n F=some r->Bj prog 214 [(D5 F)] (λv=>Fs prog v (r.map λ(x:(C5×A7))=>[(M6 x.1),(B7 x.2)]))
def Cd4 (N n:Nat):Prop:=∀(a:A0) (b:A0) (r:(Up (C5×A7))),X0 N n a b=some r->Bj prog 215 [(D5 a),(D5 b)] (λv=>Fs prog v (r.map λ(x:(C5×A7))=>[(M6 x.1),(B7 x.2)]))
def Cd3 (N n:Nat):Prop:=∀(F:A0) (r:(Up (C5×A7))),DD N n F=some r->Bj prog 216 [(D5 F)] (λv=>Fs prog v (r.map λ(x:(C5×A7))=>[(M6 x.1),(B7 x.2)]))
def TJ:Cf:=⟨[3,4,6,1000002],[(10,4)],[],[4],[],[]⟩
def Cd1 (N n:Nat):Prop:=∀(a:A0) (r:(Up (C5×A7))),AA N n a=some r->Gj prog 239 (λb=>[b,.eref (E2 a) 0]) (List.map (λ(x:(C5×A7))=>[(M6 x.1),(B7 x.2)]) r) Zc
def cf242:=VZ [1000003] [(5,11)]
def Cd0 (N n:Nat):Prop:=∀(a:A0) (b:A0) (r:(Up (C5×A7))),X6 N n a b=some r->Gj prog 242 (λe=>[e,.eref (E2 a) 0,.eref (E2 b) 0]) (List.map (λ(x:(C5×A7))=>[(M6 x.1),(B7 x.2)]) r) Zc
def Sv:Cf:=⟨[3,4,1000002],[],[(37,13),(50,17)],[2],[],[]⟩
def Cc9 (N n:Nat):Prop:=∀(a:A0) (r:(Up (C5×A7))),Cg N n a=some r->Gj prog 243 (λb=>[b,.eref (E2 a) 0]) (List.map (λ(x:(C5×A7))=>[(M6 x.1),(B7 x.2)]) r) Zc
def k174 (N n:Nat)(b:Cd5 N n)(a:Cd4 N n)(i:Cd3 N n):BF3 N (n+1):=by
 intro F r h
 unfold M8 at h
 refine N7 cf174 K9 func174 QX JO call174 ntmps174 QX QX ?_;intro E H0 K Y J;have Q:C3 Eq H0 [] H0:=.start D7 rfl;cbv;apply E3 Y h<;>intro _ h
 ·cbv;exact J _ _ _ Q (O9 call213 (c213 N F r h))
 cbv;obtain⟨A,X,h⟩:=bind_some h;refine S8 cf174 Y K9 (xn H0 [(1,.v (.eref (E2 F) 0)),fi 4 F.Op,(8,.v (.bool A))] []) JO ?_ ?_
 ·exact F4
 clear X;rintro e l H ⟨rfl,rfl,Q⟩
 repeat' (cbv;first|apply E3 Y h<;>intro _ h|refine Au Y h (b _) .z λ_ _ w h=>?_|refine Au Y h (a _ _) .z λ_ _ x h=>?_|refine Au Y h (a _ _) (.r (.cons (.agg (.r (.cons (.ro _ _) (.r (.r (.r (.r (.r (.cons (.lit _ (E4)) .z))))))))) .z)) λ_ _ k h=>?_|refine Au Y h (i _) .z λ_ _ v h=>?_|refine G0 Y eCl5 h λ_ h=>?_|(cases h;exact J _ _ _ Q w)|(cases h;exact J _ _ _ Q x)|(cases h;exact J _ _ _ Q k)|(cases h;exact J _ _ _ Q v)|refine Bv5 Y (f:=eCl1) AM h λ_ h=>?_)
def k214 (N n:Nat)(a:Cd1 N n):Cd5 N (n+1):=by
 intro F r h
 unfold Bw at h
 refine N7 OM K9 func214 QX JO call214 ntmps214 QX QX ?_;intro E H0 K Y J;have Q:C3 Eq H0 [] H0:=.start D7 rfl;cbv;exact J _ _ _ Q (O9 call239 (a F r h))
def k215 (N n:Nat)(a:Cd0 N n):Cd4 N (n+1):=by
 intro b e r h
 unfold X0 at h
 refine N7 OM K9 func215 QX JO call215 ntmps215 QX QX ?_;intro E H0 K Y J;have Q:C3 Eq H0 [] H0:=.start D7 rfl;cbv;exact J _ _ _ Q (O9 call242 (a b e r h))
def k216 (N n:Nat)(a:Cc9 N n):Cd3 N (n+1):=by
 intro F r h
 unfold DD at h
 refine N7 OM K9 func216 QX JO call216 ntmps216 QX QX ?_;intro E H0 K Y J;have Q:C3 Eq H0 [] H0:=.start D7 rfl;cbv;exact J _ _ _ Q (O9 call243 (a F r h))
def k239 (N n:Nat) (q:BF3 N n):Cd1 N (n+1):=by
 intro S r h
 unfold AA at h
 obtain⟨⟨w0,u0⟩,O,U⟩:=bind_some h;clear h;have U:=J9 U;subst U;have h:=O;clear O;refine M9 TJ K9 func239 QX JO call239 ntmps239 QX (λ_=>rfl) ?_;intro yv I D T hD hy tl F E H K Y Q J C
 have Q:C3 (I (List.map (λ(x:(C5×A7))=>[(M6 x.1),(B7 x.2)]) (w0++[])++tl)) F [] H:=by rw[F2];exact Q
 cbv;apply FQ Y hy.1;cbv;apply L6 Y;cbv;obtain⟨w3,w4,s7,X,h,P⟩:=M2 h
 rw[P,E1]at Q
 clear P;refine Bw0 TJ Y K9 (γ:=Unit) (λs g=>[(1,.v (.eref (E2 S) 0)),(2,.v (.eref [yv] 0)),(8,.v (sr eCl1 S.dT)),fi 9 (Ar.len S.dT),fi 10 s]) (λs g a w c=>C3 (I (List.map (λ(x:(C5×A7))=>[(M6 x.1),(B7 x.2)]) w++tl)) F (KJ a) c) (λx e l a w c=>match(generalizing:=false) x with| .inl y=>e= .exit 0/\l=[]/\C3 (I (List.map (λ(x:(C5×A7))=>[(M6 x.1),(B7 x.2)]) w++tl)) F (KJ a) c| .inr y=>e= .ret/\l=[]/\C3 (I (List.map (λ(x:(C5×A7))=>[(M6 x.1),(B7 x.2)]) w++tl)) F (KJ a) c) (λe l a c=>(e= .ret/\l=[]/\C3 D F (KJ a) c)) JO ?_ (w':=w4++[]) () X rfl ?_ ?_ ?_ ?_
 ·rintro s _ a w5 w6 H o Q h
  skip
  cbv;apply E3 Y h<;>intro _ h
  ·cbv;refine G0 Y eCl5 h λu h=>?_;cbv;refine G3 Y Q λd H Q=>?_
   repeat' (cbv;first|apply E3 Y h<;>intro _ h|refine Au Y h (q _) .z λ_ _ G h=>?_|apply E0 Y Q 1 rfl|apply E0 Y Q 0 rfl|refine D6 Y Q 1 rfl rfl λH Q=>?_|refine D6 Y Q 0 rfl rfl λH Q=>?_|refine G3 Y Q λb H Q=>?_)
   ·cbv;obtain⟨m,rfl⟩:=D0 h
    rw[<-m]at Q
    exact .inl ⟨_,_,_,rfl,⟨rfl,rfl,Q.tail.tail⟩,.z,rfl⟩
   cbv;obtain⟨ac,L,ab,X,h,P⟩:=M2 h
   rw[P,E1]at Q
   clear P;refine SR TJ Y K9 (ι:=Nat) (σ:=Unit) (R:=Unit) (enc:=λ(x:(C5×A7))=>[(M6 x.1),(B7 x.2)]) (λ_ w z H=>C3 (I (List.map (λ(x:(C5×A7))=>[(M6 x.1),(B7 x.2)]) w++tl)) z (cb b (E2 u)::cb d [vi s]::KJ a) H) (λ_ e w z H=>False) (λe z H=>e= .ret/\C3 D z (cb b (E2 u)::cb d [vi s]::KJ a) H) (λi _ k=>[(1,.v (.eref (E2 S) 0)),(2,.v (.eref [yv] 0)),(3,.v (.ref d 0)),(5,.v (.eref (Ci k.1) 0)),(6,.v (.ref i 0))]) (λi _ k w z H=>C3 (I (List.map (λ(x:(C5×A7))=>[(M6 x.1),(B7 x.2)]) w++tl)) z (cb i (O1 k.2)::cb b (E2 u)::cb d [vi s]::KJ a) H) (λ_ _=>C3.stable (T _) _) (λ_ _ _=>⟨λh=>h.elim,λ_ _ h=>h.elim⟩) (λ_=>G7.con (C3.stable hD _)) (λ_ _ _ _=>C3.stable (T _) _) G X (w':=L++w6) Q Sz (λ_=>rfl) JO JO ?_ ?_ ?_ ?_ ?_
   ·rintro E W k _ w j H Y Q;clear X h;cbv;refine G3 Y Q λv H Q=>?_;cbv;refine D6 Y Q 0 rfl rfl λH Q=>?_;cbv;exact⟨v,Q,.e rfl (.e4 .z),rfl⟩
   ·rintro E W v k _ ad M j H o Y hF h Q;cbv;obtain⟨ae,Z,t,X,h,P⟩:=M2 h
    rw[P,E1]at Q
    clear P;refine S8 TJ Y K9 (λe l c=>(e= .normal/\l=[(2,.v (.eref [yv] 0)),(5,.v (.eref (Ci k.1) 0)),(6,.v (.ref v 0))]/\C3 (I (List.map (λ(x:(C5×A7))=>[(M6 x.1),(B7 x.2)]) (Z++M)++tl)) j (cb v (O1 t)::cb b (E2 u)::cb d [vi s]::KJ a) c)\/(False)) JO ?_ ?_
    ·clear h;have h:=X
     repeat' (cbv;first|apply E3 Y h<;>intro _ h|refine C1 Y h (c240 _ _ _) (.r (.cons (.ro _ _) .z)) λ_ h=>?_|refine C1 Y h (c241 _ _ _ _) .z λ_ h=>?_|apply E0 Y Q 0 rfl|apply E0 Y Q 2 rfl|refine D6 Y Q 0 rfl rfl λH Q=>?_|refine Aj4 Y (f:=eCl1) AM h λ_ _ h=>?_)
     ·cbv;obtain⟨m,rfl⟩:=D0 h
      rw[<-m]at Q
      exact zaj
     ·cbv;obtain⟨m,rfl⟩:=D0 h
      rw[<-m]at Q
      exact zaj
     cbv;obtain⟨m,rfl⟩:=D0 h
     rw[<-m]at Q
     exact zaj
    clear X;rintro e l H V
    rcases V with V|V
    ·obtain⟨rfl,rfl,Q⟩:=V;cbv;apply E0 Y Q 0 rfl;cbv;obtain⟨aa,h,P⟩:=Q5 h
     rw[P,E1]at Q
     clear P;have Q:C3 (I ([(M6 k.1),(B7 t)]::(List.map (λ(x:(C5×A7))=>[(M6 x.1),(B7 x.2)]) (aa++M)++tl))) j (cb v (O1 t)::cb b (E2 u)::cb d [vi s]::KJ a) _:=Q;refine Be Y T hD hy Q .z (λH Q=>?_) (λH Q=>?_)
     ·cbv;apply HC Y (nt_eq _);cbv;obtain⟨m,rfl⟩:=D0 h
      rw[<-m]at Q
      exact⟨_,rfl,Q.tail⟩
     clear h;cbv;apply HB Y (nt_eq _);cbv
     first|exact .inr ⟨rfl,rfl,Q.tail⟩|exact .inr (Q.tail)
    exact V.elim
   ·rintro p _ H rfl hd Q;have Q:C3 (I (List.map (λ(x:(C5×A7))=>[(M6 x.1),(B7 x.2)]) (L++w6)++tl)) F (cb b (E2 u)::cb d [vi s]::KJ (p::a)) H:=C3.dbs1 (A:=[_,_]) (ds:=a) (C3.dblk hd Q);clear hd X;cbv;obtain⟨m,rfl⟩:=D0 h
    rw[<-m]at Q
    exact⟨_,(),_,rfl,.e rfl (.e4 .z),rfl,Q.tail.tail⟩
   ·exact zbz
   rintro p e H hd ⟨rfl,Q⟩;have Q:C3 D F (cb b (E2 u)::cb d [vi s]::KJ (p::a)) H:=C3.dbs1 (A:=[_,_]) (ds:=a) (C3.dblk hd Q);clear hd X h;cbv;exact .inr ⟨_,_,⟨rfl,rfl,Q.tail.tail⟩,.z,rfl⟩
  cbv;obtain⟨m,rfl⟩:=D0 h
  rw[<-m]at Q
  exact .inl ⟨_,_,_,rfl,⟨rfl,rfl,Q⟩,.z,rfl⟩
 ·exact FW
 ·exact Q
 ·rintro e l a H V
  rcases s7 with af|ag
  ·obtain⟨rfl,rfl,Q⟩:=V;cbv
   rcases a with _|⟨B,a⟩
   ·cbv;have Q:C3 _ _ [] H:=Q;obtain⟨m,_⟩:=D0 h
    rw[<-m]at Q
    exact Hw
   cbv;refine Uo (A:=[]) (ds:=B::a) Y Q λH Q=>?_;cbv;obtain⟨m,_⟩:=D0 h
   rw[<-m]at Q
   exact Hw
  obtain⟨rfl,rfl,Q⟩:=V;cbv
  rcases a with _|⟨B,a⟩
  ·cbv;have Q:C3 _ _ [] H:=Q;obtain⟨m,_⟩:=D0 h
   rw[<-m]at Q
   exact Hw
  cbv;refine Uo (A:=[]) (ds:=B::a) Y Q λH Q=>?_;cbv;obtain⟨m,_⟩:=D0 h
  rw[<-m]at Q
  exact Hw
 rintro e l a H V;obtain⟨rfl,rfl,Q⟩:=V;clear h;cbv
 rcases a with _|⟨B,a⟩
 ·cbv;have Q:C3 _ _ [] H:=Q;exact C _ _ _ Q trivial
 cbv;refine Uo (A:=[]) (ds:=B::a) Y Q λH Q=>?_;cbv;exact C _ _ _ Q trivial
def k242 (N n:Nat) (v:BF3 N n):Cd0 N (n+1):=by
 intro A a r h
 unfold X6 at h
 obtain⟨⟨w0,M⟩,O,j⟩:=bind_some h;clear h;have j:=J9 j;subst j;have h:=O;clear O;refine M9 cf242 K9 func242 QX JO call242 ntmps242 QX (λ_=>rfl) ?_;intro C I D P d f tl F E H K Y Q J g
 have Q:C3 (I (List.map (λ(x:(C5×A7))=>[(M6 x.1),(B7 x.2)]) (w0++[])++tl)) F [] H:=by rw[F2];exact Q
 cbv;apply FQ Y f.1;cbv;refine Au Y h (v A) .z λL S p h=>?_;cbv;obtain⟨T,z,B,X,h,b⟩:=M2 h
 rw[b,E1]at Q
 clear b;refine SR cf242 Y K9 (ι:=Unit) (σ:=Unit) (R:=Unit) (enc:=λ(x:(C5×A7))=>[(M6 x.1),(B7 x.2)]) (λ_ w y H=>C3 (I (List.map (λ(x:(C5×A7))=>[(M6 x.1),(B7 x.2)]) w++tl)) y [] H) (λ_ e w y H=>False) (λe y H=>e= .ret/\C3 D y [] H) (λi _ k=>[(2,.v (.eref (E2 a) 0)),(3,.v (.eref [C] 0)),(4,.v (.eref (Ci k.1) 0)),(5,.v (.eref (O1 k.2) 0))]) (λi _ k w y H=>C3 (I (List.map (λ(x:(C5×A7))=>[(M6 x.1),(B7 x.2)]) w++tl)) y [] H) (λ_ _=>C3.stable (P _) _) (λ_ _ _=>⟨λh=>h.elim,λ_ _ h=>h.elim⟩) (λ_=>G7.con (C3.stable d _)) (λ_ _ _ _=>C3.stable (P _) _) p X (w':=z++[]) Q Sz (λ_=>rfl) JO JO ?_ ?_ ?_ ?_ ?_
 ·rintro E i5 k _ w c H Y Q;exact zba
 ·rintro E i5 _ k _ U u c H o Y G h Q;cbv;apply E3 Y h<;>intro _ h
  ·cbv;refine G0 Y eCl5 h λV h=>?_;cbv;obtain⟨q,h,b⟩:=Q5 h
   rw[b,E1]at Q
   clear b;have Q:C3 (I ([(M6 k.1),.agg [.bool false,vi 8,sr eCl1 ([k.2.p,V]),vi 0,vi 0,vi 0,vi 0,vi 0,sr eCl6 ([]),vi 0,vi 0,vi 0,vi 0,vi 0,.str (⟨#[]⟩)]]::(List.map (λ(x:(C5×A7))=>[(M6 x.1),(B7 x.2)]) (q++u)++tl))) c [] _:=Q;refine Be Y P d f Q (.r (.cons (.agg (.r (.r (.cons (.lit _ (G1 ((eCl5 k.2.p).symm) (G1 ((eCl5 V).symm) (E4)))) (.r (.r (.r (.r (.r (.cons (.lit _ (E4)) .z)))))))))) .z)) (λH Q=>?_) (λH Q=>?_)
   ·cbv;apply HC Y (nt_eq _);cbv;obtain⟨m,rfl⟩:=D0 h
    rw[<-m]at Q
    exact⟨_,rfl,Q⟩
   clear h;cbv;apply HB Y (nt_eq _);cbv
   first|exact .inr ⟨rfl,rfl,Q⟩|exact .inr (Q)
  cbv;obtain⟨s,h,b⟩:=Q5 h
  rw[b,E1]at Q
  clear b;have Q:C3 (I ([(M6 k.1),(B7 k.2)]::(List.map (λ(x:(C5×A7))=>[(M6 x.1),(B7 x.2)]) (s++u)++tl))) c [] _:=Q;refine Be Y P d f Q .z (λH Q=>?_) (λH Q=>?_)
  ·cbv;apply HC Y (nt_eq _);cbv;obtain⟨t,h,b⟩:=Q5 h
   rw[b,E1]at Q
   clear b;have Q:C3 (I ([(M6 k.1),.agg [.bool false,vi a.Op,sr eCl1 a.dT,vi a.Typ,vi a.Var,vi a.dZ,vi a.Span,vi a.dU.Op,sr eCl6 a.dU.dT,vi a.dU.Var,vi a.dU.Field,vi a.dU.Kind,vi a.dU.Value.Kind,vi a.dU.Value.Num,.str a.dU.Value.Text]]::(List.map (λ(x:(C5×A7))=>[(M6 x.1),(B7 x.2)]) (t++u)++tl))) c [] _:=Q;refine Be Y P d f Q .z (λH Q=>?_) (λH Q=>?_)
   ·cbv;apply HC Y (nt_eq _);cbv;obtain⟨m,rfl⟩:=D0 h
    rw[<-m]at Q
    exact⟨_,rfl,Q⟩
   clear h;cbv;apply HB Y (nt_eq _);cbv
   first|exact .inr ⟨rfl,rfl,Q⟩|exact .inr (Q)
  clear h;cbv;apply HB Y (nt_eq _);cbv
  first|exact .inr ⟨rfl,rfl,Q⟩|exact .inr (Q)
 ·rintro l _ H rfl hd Q;have Q:C3 (I (List.map (λ(x:(C5×A7))=>[(M6 x.1),(B7 x.2)]) (z++[])++tl)) F [.blk l DB] H:=C3.dblk hd Q;clear hd X;cbv;refine Ei Y Q 0 rfl λH Q=>?_;cbv;obtain⟨m,_⟩:=D0 h
  rw[<-m]at Q
  exact Hw
 ·exact zbz
 rintro l e H hd ⟨rfl,Q⟩;have Q:C3 D F [.blk l DB] H:=C3.dblk hd Q;clear hd X h;cbv;refine Ei Y Q 0 rfl λH Q=>?_;cbv;exact g _ _ _ Q trivial
def k243 (N n:Nat) (d:BF3 N n):Cc9 N (n+1):=by
 intro j r h
 unfold Cg at h
 obtain⟨⟨w0,u0⟩,O,A⟩:=bind_some h;clear h;have A:=J9 A;subst A;have h:=O;clear O;refine M9 Sv K9 func243 QX JO call243 ntmps243 QX (λ_=>rfl) ?_;intro t I D u S T tl F E H K Y Q J z
 have Q:C3 (I (List.map (λ(x:(C5×A7))=>[(M6 x.1),(B7 x.2)]) (w0++[])++tl)) F [] H:=by rw[F2];exact Q
 cbv;apply FQ Y T.1;cbv;refine G0 Y eCl5 h λx1 h=>?_;cbv;refine Au Y h (d x1) .z λr2 v3 B h=>?_;cbv;obtain⟨w7,U,Z,X,h,v⟩:=M2 h
 rw[v,E1]at Q
 clear v;refine SR Sv Y K9 (ι:=Nat×Nat) (σ:=Unit) (R:=Unit) (enc:=λ(x:(C5×A7))=>[(M6 x.1),(B7 x.2)]) (λ_ w g H=>C3 (I (List.map (λ(x:(C5×A7))=>[(M6 x.1),(B7 x.2)]) w++tl)) g [] H) (λ_ e w g H=>False) (λe g H=>e= .ret/\C3 D g [] H) (λi _ P=>[(1,.v (.eref (E2 j) 0)),(2,.v (.eref [t] 0)),(3,.v (.ref i.2 0)),(4,.v (.ref i.1 0))]) (λi _ P w g H=>C3 (I (List.map (λ(x:(C5×A7))=>[(M6 x.1),(B7 x.2)]) w++tl)) g [.blk i.1 (.cells (O1 P.2)),.blk i.2 (.cells (Ci P.1))] H) (λ_ _=>C3.stable (u _) _) (λ_ _ _=>⟨λh=>h.elim,λ_ _ h=>h.elim⟩) (λ_=>G7.con (C3.stable S _)) (λ_ _ _ _=>C3.stable (u _) _) B X (w':=U++[]) Q Sz (λ_=>rfl) JO JO ?_ ?_ ?_ ?_ ?_
 ·rintro E W P _ w p H Y Q;clear X h;cbv;refine G3 Y Q λa H Q=>?_
  repeat' (cbv;first|refine D6 Y Q 0 rfl rfl λH Q=>?_|refine G3 Y Q λb H Q=>?_|exact⟨⟨b,a⟩,Q,.e4 .z,rfl⟩)
 ·rintro E W ⟨b,a⟩ P _ w9 V p H o Y hF h Q;cbv;obtain⟨ab,s,y,X,h,v⟩:=M2 h
  rw[v,E1]at Q
  clear v;refine S8 Sv Y K9 (λe l q=>(e= .normal/\l=[(1,.v (.eref (E2 j) 0)),(2,.v (.eref [t] 0)),(3,.v (.ref a 0)),(4,.v (.ref b 0)),fi 5 y.1]/\C3 (I (List.map (λ(x:(C5×A7))=>[(M6 x.1),(B7 x.2)]) (s++V)++tl)) p [cb b (O1 P.2),cb a (Ci y.2)] q)\/(False)) JO ?_ ?_
  ·clear h;have h:=X
   repeat' (cbv;first|apply E3 Y h<;>intro _ h|refine C1 Y h (c244 _ _) (.cons (.sl _ (.lstc (.eq (eCp5 P.1.eI) .z) (.lstc (.eq (eCp5 ([j.dU])) (.lit _ (G1 ((eCn0 j.dU).symm) (E4)))) (.lst0)))) .z) λ_ h=>?_|apply E0 Y Q 0 rfl|apply E0 Y Q 1 rfl|refine D6 Y Q 1 rfl rfl λH Q=>?_)
   ·cbv;obtain⟨m,rfl⟩:=D0 h
    rw[<-m]at Q
    exact zaa
   ·cbv;obtain⟨m,rfl⟩:=D0 h
    rw[<-m]at Q
    exact zaa
   cbv;obtain⟨ac,G,C,X,h,v⟩:=M2 h
   rw[v,E1]at Q
   clear v;refine S8 Sv Y K9 (λe l q=>(e= .normal/\l=[(1,.v (.eref (E2 j) 0)),(2,.v (.eref [t] 0)),(3,.v (.ref a 0)),(4,.v (.ref b 0)),(37,.v (.bool C))]/\C3 (I (List.map (λ(x:(C5×A7))=>[(M6 x.1),(B7 x.2)]) (G++(s++V))++tl)) p [cb b (O1 P.2),cb a (Ci P.1)] q)\/(False)) JO ?_ ?_
   ·clear h;have h:=X;cbv;apply E3 Y h<;>intro _ h
    ·cbv;obtain⟨m,rfl⟩:=D0 h
     rw[<-m]at Q
     exact zaa
    cbv;obtain⟨m,rfl⟩:=D0 h
    rw[<-m]at Q
    exact zaa
   clear X;rintro e l H k
   rcases k with k|k
   ·obtain⟨rfl,rfl,Q⟩:=k
    repeat' (cbv;first|apply E3 Y h<;>intro _ h|refine C1 Y h (c245 _ _ _ _ _) .z λ_ h=>?_|apply E0 Y Q 1 rfl|apply E0 Y Q 0 rfl|refine D6 Y Q 1 rfl rfl λH Q=>?_)
    ·cbv;obtain⟨m,rfl⟩:=D0 h
     rw[<-m]at Q
     exact zaa
    cbv;obtain⟨m,rfl⟩:=D0 h
    rw[<-m]at Q
    exact zaa
   exact k.elim
  clear X;rintro e l H k
  rcases k with k|k
  ·obtain⟨rfl,rfl,Q⟩:=k;cbv;apply E0 Y Q 0 rfl;cbv;obtain⟨ad,L,f,X,h,v⟩:=M2 h
   rw[v,E1]at Q
   clear v;refine S8 Sv Y K9 (λe l q=>(e= .normal/\l=[(2,.v (.eref [t] 0)),(3,.v (.ref a 0)),(4,.v (.ref b 0))]/\C3 (I (List.map (λ(x:(C5×A7))=>[(M6 x.1),(B7 x.2)]) (L++V)++tl)) p [cb b (O1 f),cb a (Ci y.2)] q)\/(False)) JO ?_ ?_
   ·clear h;have h:=X;cbv;apply E3 Y h<;>intro _ h
    ·cbv;apply E0 Y Q 0 rfl;cbv;refine C1 Y h (c246 N j y.1 P.2.p) .z λaa h=>?_;cbv;refine D6 Y Q 0 rfl rfl λH Q=>?_;cbv;obtain⟨m,rfl⟩:=D0 h
     rw[<-m]at Q
     exact zaj
    cbv;obtain⟨m,rfl⟩:=D0 h
    rw[<-m]at Q
    exact zaj
   clear X;rintro e l H k
   rcases k with k|k
   ·obtain⟨rfl,rfl,Q⟩:=k;cbv;apply E0 Y Q 1 rfl;cbv;apply E0 Y Q 0 rfl;cbv;obtain⟨M,h,v⟩:=Q5 h
    rw[v,E1]at Q
    clear v;have Q:C3 (I ([(M6 y.2),(B7 f)]::(List.map (λ(x:(C5×A7))=>[(M6 x.1),(B7 x.2)]) (M++V)++tl))) p [cb b (O1 f),cb a (Ci y.2)] _:=Q;refine Be Y u S T Q .z (λH Q=>?_) (λH Q=>?_)
    ·cbv;apply HC Y (nt_eq _);cbv;obtain⟨m,rfl⟩:=D0 h
     rw[<-m]at Q
     exact⟨_,rfl,Q.tail.tail⟩
    clear h;cbv;apply HB Y (nt_eq _);cbv
    first|exact .inr ⟨rfl,rfl,Q.tail.tail⟩|exact .inr (Q.tail.tail)
   exact k.elim
  exact k.elim
 ·rintro c _ H rfl hd Q;have Q:C3 (I (List.map (λ(x:(C5×A7))=>[(M6 x.1),(B7 x.2)]) (U++[])++tl)) F [.blk c DB] H:=C3.dblk hd Q;clear hd X;cbv;refine Ei Y Q 0 rfl λH Q=>?_;cbv;obtain⟨m,_⟩:=D0 h
  rw[<-m]at Q
  exact Hw
 ·exact zbz
 rintro c e H hd ⟨rfl,Q⟩;have Q:C3 D F [.blk c DB] H:=C3.dblk hd Q;clear hd X h;cbv;refine Ei Y Q 0 rfl λH Q=>?_;cbv;exact z _ _ _ Q trivial
def za3 (N:Nat):∀n,BF3 N n/\Cd5 N n/\Cd4 N n/\Cd3 N n/\Cd1 N n/\Cd0 N n/\Cc9 N n:=by
 intro n
 induction n with
 |zero=>exact⟨(by intro F r h;unfold M8 at h;cases h),(by intro F r h;unfold Bw at h;cases h),(by intro y H r h;unfold X0 at h;cases h),(by intro F r h;unfold DD at h;cases h),(by intro w r h;unfold AA at h;cases h),(by intro w x r h;unfold X6 at h;cases h),(by intro w r h;unfold Cg at h;cases h)⟩
 |succ n ih=>
  obtain⟨a,b,e,i,k,l,v⟩:=ih;exact⟨k174 N n b e i,k214 N n k,k215 N n l,k216 N n v,k239 N n a,k242 N n a,k243 N n a⟩
def c174 (N n F r)(h:M8 N n F=some r):Bj prog 174 [(D5 F)] (λv=>Fs prog v (r.map λ(x:(C5×A7))=>[(M6 x.1),(B7 x.2)])):=(za3 N n).1 F r h
def c217 (N:Nat) (b:Up C5) (k:V) (n:C5->OS Bool) (w:∀v q,n v=some q->U9 prog k [(M6 v)] (.bool q)) (r:Int) (h:Z0 N b n=some r):B1 prog 217 [sr eCl3 b,k] (vi r):=by
 refine M5 OM func217 call217 ntmps217 ?_;intro E D K Y J Q;cbv;apply L6 Y;cbv;obtain⟨s,X,h⟩:=bind_some h;refine J2 OM Y K9 (λA=>[(0,.v (sr eCl3 b)),(1,.v (k)),fi 7 (Ar.len b),fi 8 A]) (λA a=>C3 Eq D [] a) (λx e l a=>match(generalizing:=false) x with| .inl y=>e= .exit 0/\l=[]/\C3 Eq D [] a| .inr y=>e= .ret/\l=[fi 4 y]/\C3 Eq D [] a) JO ?_ X ?_ Q ?_
 ·intro A H o Q h;cbv;apply E3 Y h<;>intro _ h
  ·cbv;refine G0 Y eCn4 h λP h=>?_;cbv;refine X3 Y (g:=λi=>.bool i) h (λi X=>w P i X) .z λi h=>?_;exact Zg
  exact Zg
 ·exact .e4 .z
 clear X
 rcases s with c|d
 ·exact S1
 exact S1
def c175 (N:Nat)(a:Up C5)(e:V)(b:C5->OS Bool)(k:∀i q,b i=some q->U9 prog e [(M6 i)] (.bool q))(r:Bool)(h:G4 N a b=some r):B1 prog 175 [sr eCl3 a,e] (.bool r):=by
 refine M5 OM func175 call175 ntmps175 ?_;intro E D K Y J Q;cbv;refine C1 Y h (c217 N a e b k) .z λl h=>?_;exact Zg
def cf219:=VZ [] [(6,8)]
def c219 (N b i r) (h:X4 N b i=some r):B1 prog 219 [sr (V.int .i64) b,sr (V.int .i64) i] (.bool r):=by
 refine M5 cf219 func219 call219 ntmps219 ?_;intro E D K Y J Q
 repeat' (cbv;first|apply E3 Y h<;>intro _ h|apply L6 Y|(cases h;exact J Q .z))
 cbv;obtain⟨s,X,h⟩:=bind_some h;refine J2 cf219 Y K9 (λA=>[(0,.v (sr (V.int .i64) b)),(1,.v (sr (V.int .i64) i)),fi 12 (Ar.len b),fi 13 A]) (λA a=>C3 Eq D [] a) (λx e l a=>match(generalizing:=false) x with| .inl y=>e= .exit 0/\l=[]/\C3 Eq D [] a| .inr y=>e= .ret/\l=[(4,.b false)]/\C3 Eq D [] a) JO ?_ X ?_ Q ?_
 ·intro A H o Q h;cbv;apply E3 Y h<;>intro _ h
  ·cbv;refine G0 Y (λ_=>rfl) h λk h=>?_;cbv;refine G0 Y (λ_=>rfl) h λn h=>?_;exact Zg
  exact Zg
 ·exact .e4 .z
 clear X
 rcases s with v|w
 ·exact S1
 exact S1
@[reducible, instance] def zc219 (N aZ bB):=Ct.mk (c219 N aZ bB)
def cf220:=VY [8]
def c220 (N:Nat) (b:Up A8) (k:Up A8) (n:V) (v:A8->A8->OS Bool) (c:∀w P q,v w P=some q->U9 prog n [(Bo w),(Bo P)] (.bool q)) (r:Bool) (h:P5 N b k v=some r):B1 prog 220 [sr eCl6 b,sr eCl6 k,n] (.bool r):=by
 refine M5 cf220 func220 call220 ntmps220 ?_;intro E D K Y J Q
 repeat' (cbv;first|apply E3 Y h<;>intro _ h|apply L6 Y|(cases h;exact J Q .z))
 cbv;obtain⟨s,X,h⟩:=bind_some h;refine J2 cf220 Y K9 (λA=>[(1,.v (sr eCl6 k)),(2,.v (n)),(15,.v (sr eCl6 b)),fi 16 (Ar.len b),fi 17 A]) (λA a=>C3 Eq D [] a) (λx e l a=>match(generalizing:=false) x with| .inl y=>e= .exit 0/\l=[]/\C3 Eq D [] a| .inr y=>e= .ret/\l=[(6,.b false)]/\C3 Eq D [] a) JO ?_ X ?_ Q ?_
 ·intro A H o Q h;cbv;apply E3 Y h<;>intro _ h
  ·cbv;refine G0 Y eCn0 h λd h=>?_;cbv;refine G3 Y Q λf H Q=>?_;cbv;refine D6 Y Q 0 rfl rfl λH Q=>?_;cbv;refine G0 Y eCn0 h λx5 h=>?_;cbv;apply E0 Y Q 0 rfl;cbv;refine X3 Y (g:=λi=>.bool i) h (λi X=>c d x5 i X) .z λi h=>?_;exact Zg
  exact Zg
 ·exact FW
 clear X
 rcases s with j|m
 ·exact S1
 exact S1
def cf221:=VZ [] [(6,8)]
def c221 (N b i r)(h:Aq N b i=some r):B1 prog 221 [sr eCm6 b,sr eCm6 i] (.bool r):=by
 refine M5 cf221 func221 call221 ntmps221 ?_;intro E D K Y J Q
 repeat' (cbv;first|apply E3 Y h<;>intro _ h|apply L6 Y|(cases h;exact J Q .z))
 cbv;obtain⟨s,X,h⟩:=bind_some h;refine J2 cf221 Y K9 (λA=>[(0,.v (sr eCm6 b)),(1,.v (sr eCm6 i)),fi 12 (Ar.len b),fi 13 A]) (λA a=>C3 Eq D [] a) (λx e l a=>match(generalizing:=false) x with| .inl y=>e= .exit 0/\l=[]/\C3 Eq D [] a| .inr y=>e= .ret/\l=[(4,.b false)]/\C3 Eq D [] a) JO ?_ X ?_ Q ?_
 ·intro A H o Q h;exact Zg
 ·exact .e4 .z
 clear X
 rcases s with k|n
 ·exact S1
 exact S1
@[reducible, instance] def zc221 (N aZ bB):=Ct.mk (c221 N aZ bB)
def c177 (N b e r)(h:Dl N b e=some r):B1 prog 177 [(M6 b),(M6 e)] (.bool r):=by
 refine M5 OM func177 call177 ntmps177 ?_;intro E D K Y J Q
 repeat' (cbv;first|apply E3 Y h<;>intro _ h|refine C1 Y h (c218 _ _ _ _) .z λ_ h=>?_|refine C1 Y h (c219 _ _ _) .z λ_ h=>?_|refine C1 Y (g:=λa=>.bool a) h (λa X=>c220 N b.eI e.eI (.func (.func 218) [] []) (λi k=>Bg N N i k) (λi k r X=>B1.value (F:=[]) (C:=[]) (c218 N N i k r X)) a X) .z λa h=>?_|refine C1 Y h (c221 _ _ _) .z λ_ h=>?_|(cases h;exact J Q .z))
@[reducible, instance] def zc177 (N aD aF):=Ct.mk (c177 N aD aF)
def c176 (N b a r)(h:J4 N b a=some r):B1 prog 176 [(M6 b),.eref (Ci a) 0] (.bool r):=by
 refine M5 OM func176 call176 ntmps176 ?_;exact T0
def cf130:Cf:=⟨[2,3,4,5,6,7],[(13,5),(18,3)],[(16,9)],[1000013],[(40,7)],[(18,2,[2])]⟩
def c130 (N aA r) (h:Q3 N aA=some r):B1 prog 130 [(D5 aA)] (.tup [sr eCl3 r.1,sr eCl1 r.2.1,vi r.2.2]):=by
 unfold Q3 at h
 refine M5 cf130 func130 call130 ntmps130 ?_;intro E D K Y J Q;cbv;refine G3 Y Q λP H Q=>?_;cbv;refine G3 Y Q λc H Q=>?_;cbv;refine G3 Y Q λd H Q=>?_;cbv;refine G3 Y Q λp H Q=>?_;cbv;refine G3 Y Q λq H Q=>?_;cbv;refine Au Y h (c174 N N aA) (.refl _) λr6 v7 aa h=>?_;cbv;replace Q:=Q.tl0 (t:=.nil) rfl;replace Q:=Q.tl0 (t:=.nil) rfl;obtain⟨aj,X,h⟩:=bind_some h;replace Q:=Q.cast (L':=[.tl .nil,.tl .nil,cb q [.sl (lst eCl1 ([])) .nil],cb p [.sl (lst eCl3 ([])) .nil],cb d [vi 0],cb c [.sl [] .nil],cb P [.sl [] .nil]]) (by simp only[ob,cb,sr,<-E4]<;>rfl);refine FA cf130 Y K9 (ι:=Nat) (enc:=λ(x:(C5×A7))=>[(M6 x.1),(B7 x.2)]) (λ(n:(Up A0)×(Up C5)) F H=>∃g:G5×G5,(T3 g.1/\T3 g.2)/\C3 Eq F [.tl g.1,.tl g.2,cb q [.sl (lst eCl1 n.1) g.2],cb p [.sl (lst eCl3 n.2) g.1],cb d [vi 0],cb c [.sl [] .nil],cb P [.sl [] .nil]] H) (λ(r:((Up A0)×(Up C5)×Int)) e F H=>∃g:G5×G5,(e= .ret/\T3 g.1/\T3 g.2)/\C3 Eq F [.tl g.1,.tl g.2,cb q [.sl (lst eCl1 r.1) g.2],cb p [.sl (lst eCl3 r.2.1) g.1],cb d [vi r.2.2],cb c [.sl [] .nil],cb P [.sl [] .nil]] H) (λi n u=>[(2,.v (.ref P 0)),(3,.v (.ref c 0)),(4,.v (.ref d 0)),(5,.v (.ref p 0)),(6,.v (.ref q 0)),(7,.v (.ref i 0)),(8,.v (.eref (O1 u.2) 0))]) (λi n u F H=>∃g:G5×G5,(T3 g.1/\T3 g.2)/\C3 Eq F [cb i (Ci u.1),.tl g.1,.tl g.2,cb q [.sl (lst eCl1 n.1) g.2],cb p [.sl (lst eCl3 n.2) g.1],cb d [vi 0],cb c [.sl [] .nil],cb P [.sl [] .nil]] H) (λ_=>G7.ex λ_=>C3.stable D7 _) (λ_ _=>G7.ex λ_=>C3.stable D7 _) (λ_ _ _=>G7.ex λ_=>C3.stable D7 _) aa X (⟨⟨.nil,.nil⟩,⟨trivial,trivial⟩,Q⟩) Sz (λ_=>rfl) JO JO ?_ ?_ ?_ ?_
 ·rintro E ab u n A H Y ⟨⟨k,v⟩,⟨b,a⟩,Q⟩;clear X h;cbv;refine G3 Y Q λV H Q=>?_;cbv;refine D6 Y Q 0 rfl rfl λH Q=>?_;cbv;exact⟨V,⟨⟨k,v⟩,⟨b,a⟩,Q⟩,.e rfl (.e2 (.e4 .z)),rfl⟩
 ·rintro E ab V u n A H o Y hF h ⟨⟨k,v⟩,⟨b,a⟩,Q⟩;clear X;cbv;refine D6 Y Q 0 rfl rfl λH Q=>?_;cbv;obtain⟨M,X,h⟩:=bind_some h;refine S8 cf130 Y K9 (λe l Z=>match(generalizing:=false) M with| .inl y=>∃u1:G5,T3 u1/\e= .normal/\l=[(2,.v (.ref P 0)),(3,.v (.ref c 0)),(4,.v (.ref d 0)),(5,.v (.ref p 0)),(7,.v (.ref V 0))]/\C3 Eq A [cb V (Ci y.1),.tl k,.tl u1,cb q [.sl (lst eCl1 y.2) u1],cb p [.sl (lst eCl3 n.2) k],cb d [vi 0],cb c [.sl [] .nil],cb P [.sl [] .nil]] Z| .inr y=>e= .ret/\l=[(2,.v (.ref P 0)),(3,.v (.ref c 0)),(4,.v (.ref d 0))]/\C3 Eq A [cb V (Ci y.1),.tl k,.tl v,cb q [.sl (lst eCl1 n.1) v],cb p [.sl (lst eCl3 n.2) k],cb d [vi y.2],cb c [.sl [] .nil],cb P [.sl [] .nil]] Z) JO ?_ ?_
  ·clear h;have h:=X;clear X;cbv;refine E3 Y h (λ_ h=>?_) λ_ h=>?_
   ·cbv;refine E0 Y Q 3 rfl ?_;cbv;refine C1 Y h (c131 N n.1 u.2.p) (.cons (.ro _ _) (.refl _)) λak h=>?_;cbv;refine D6 Y Q 0 rfl rfl λH Q=>?_;cbv;refine E0 Y Q 0 rfl ?_;cbv;refine E3 Y h (λ_ h=>?_) λ_ h=>?_
    ·cbv;refine C1 Y h (Sy N u.2.p) (.refl _) λal h=>?_;cbv;refine E3 Y h (λ_ h=>?_) λ_ h=>?_
     ·exact upT
     cbv;refine E0 Y Q 3 rfl ?_;cbv;refine L6 Y ?_;cbv;refine D6 Y Q 0 rfl rfl λH Q=>?_;cbv;refine E0 Y Q 3 rfl ?_;cbv;refine L6 Y ?_;cbv;refine FQ Y (by first|exact Ak3 _|exact Ay0 _|trivial|rfl) ?_;cbv;refine Br (f:=eCl1) Y AM Sz Q 2 rfl a (l:=n.1) (m:=[u.2.p]) (.refl _) (.lstc (.eq (eCl5 u.2.p) (.refl _)) (.lst0)) h λah ac H Q L h=>?_;cbv;refine Aw1 Y Q 3 rfl rfl λH Q=>?_;cbv;cases h;exact⟨_,⟨ac,L,rfl,rfl,Q⟩,.e rfl (.e4 .z),rfl⟩
    exact zbm
   exact zbm
  clear X
  rcases M with w|am
  ·rintro e l H ⟨G,j,rfl,rfl,Q⟩;cbv;refine E0 Y Q 4 rfl ?_;cbv;refine BT8 Y Q 0 rfl λH Q=>?_;cbv;refine C1 Y (g:=λs=>.bool s) h (λs X=>c175 N n.2 (.func (.func 176) [] [.eref (Ci w.1) 0]) (λy1=>J4 N y1 w.1) (λy1 r X=>B1.value (F:=[]) (C:=[.eref (Ci w.1) 0]) (c176 N y1 w.1 r X)) s X) (.cons (.ro _ _) (.refl _)) λs h=>?_;cbv;refine E3 Y h (λ_ h=>?_) λ_ h=>?_
   ·cbv;cases h;exact⟨_,rfl,⟨⟨k,G⟩,⟨b,j⟩,Q⟩⟩
   cbv;refine E0 Y Q 3 rfl ?_;cbv;refine Br (f:=eCl3) Y SE Sz Q 0 rfl b (l:=n.2) (m:=[w.1]) (.refl _) (.lstc (.eq (eCn4 w.1) (.refl _)) (.lst0)) h λai R H Q z h=>?_;cbv;refine D6 Y Q 3 rfl rfl λH Q=>?_;cbv;refine E0 Y Q 3 rfl ?_;cbv;refine L6 Y ?_;cbv;refine E3 Y h (λ_ h=>?_) λ_ h=>?_
   ·cbv;refine D6 Y Q 6 rfl rfl λH Q=>?_;cbv;refine D6 Y Q 5 rfl rfl λH Q=>?_;cbv;refine D6 Y Q 4 rfl rfl λH Q=>?_;cbv;cases h;exact⟨_,rfl,rfl,⟨⟨R,G⟩,⟨rfl,⟨z,j⟩⟩,Q⟩⟩
   cbv;cases h;exact⟨_,rfl,⟨⟨R,G⟩,⟨z,j⟩,Q⟩⟩
  rintro e l H ⟨rfl,rfl,Q⟩;cbv;cases h;exact⟨_,rfl,rfl,⟨⟨k,v⟩,⟨rfl,⟨b,a⟩⟩,Q.tail⟩⟩
 ·rintro B O H rfl hd ⟨⟨S,T⟩,⟨ad,ae⟩,Q⟩;have Q:C3 Eq D [.tl S,.tl T,cb q [.sl (lst eCl1 O.1) T],cb p [.sl (lst eCl3 O.2) S],cb d [vi 0],cb c [.sl [] .nil],cb P [.sl [] .nil],.blk B DB] H:=C3.dblk hd Q;clear hd;clear X;cbv;refine XK Y Q 6 rfl λZ hT hW=>?_;cbv;refine E0 Y hW 3 rfl ?_;cbv;refine E0 Y hW 2 rfl ?_;cbv;refine FQ Y trivial ?_;cbv;refine XM Y Q 6 rfl hT λH Q=>?_;cbv;refine D6 Y Q 5 rfl rfl λH Q=>?_;cbv;refine D6 Y Q 4 rfl rfl λH Q=>?_;cbv;refine Ei Y Q 7 rfl λH Q=>?_;cbv;refine E0 Y Q 6 rfl ?_;cbv;refine E0 Y Q 5 rfl ?_;cbv;refine E0 Y Q 4 rfl ?_;cbv;cases h;exact J Q (.tup (.cons (.ro _ _) (.cons (.ro _ _) (.refl _))))
 rintro B I e H rfl hd hX;clear X
 rcases hX with⟨⟨U,W⟩,⟨rfl,af,ag⟩,Q⟩
 have Q:C3 Eq D [.tl U,.tl W,cb q [.sl (lst eCl1 I.1) W],cb p [.sl (lst eCl3 I.2.1) U],cb d [vi I.2.2],cb c [.sl [] .nil],cb P [.sl [] .nil],.blk B DB] H:=C3.dblk hd Q;clear hd;cbv;refine Ei Y Q 7 rfl λH Q=>?_;cbv;refine E0 Y Q 6 rfl ?_;cbv;refine E0 Y Q 5 rfl ?_;cbv;refine E0 Y Q 4 rfl ?_;cbv;cases h;exact J Q (.tup (.cons (.lit _ (E4)) (.cons (.lit _ (E4)) (.refl _))))
@[reducible, instance] def zc130 (N aA):=Ct.mk (c130 N aA)
def c93 (N F r) (h:Y9 N F=some r):B1 prog 93 [(D5 F)] (.tup [sr eCl1 r.1,vi r.2]):=by
 refine M5 OM func93 call93 ntmps93 ?_;intro E D K Y J Q;cbv;refine C1 Y h (c67 N F) .z λL h=>?_;cbv;apply E3 Y h<;>intro _ h
 ·exact Zg
 cbv;replace Q:=Q.tl0 (t:=.full) rfl;obtain⟨q,X,h⟩:=bind_some h;refine S0 OM Y K9 (γ:=G5) (λs g=>[(5,.v (.sl (lst eCl1 s.1) g)),fi 6 s.2]) (λs g b=>T3 g/\C3 Eq D [.tl g] b) (λx e l b=>match(generalizing:=false) x with| .inl y=>∃a:G5,T3 a/\e= .exit 0/\l=[(5,.v (.sl (lst eCl1 y) a))]/\C3 Eq D [.tl a] b| .inr y=>∃a:G5,T3 a/\e= .ret/\l=[(2,.v (.sl [] .nil)),fi 3 y]/\C3 Eq D [.tl a] b) JO ?_ .full X ?_ ?_ ?_
 ·rintro s C H o ⟨n,Q⟩ h;cbv;apply L6 Y;cbv;apply E3 Y h<;>intro _ h
  ·cbv;refine G0 Y eCl5 h λx5 h=>?_;cbv;refine C1 Y h (c130 N x5) .z λd h=>?_;cbv;apply E3 Y h<;>intro _ h
   ·exact Zg
   cbv;apply L6 Y;cbv;obtain⟨M,X,h⟩:=bind_some h;refine S0 OM Y K9 (γ:=G5) (λk g=>[(5,.v (.sl (lst eCl1 k.1) g)),fi 6 s.2,(37,.v (sr eCl1 d.2.1)),fi 38 (Ar.len d.2.1),fi 39 k.2]) (λk g b=>T3 g/\C3 Eq D [.tl g] b) (λx e l b=>∃a:G5,T3 a/\e= .exit 2/\l=[(5,.v (.sl (lst eCl1 x) a)),fi 6 s.2]/\C3 Eq D [.tl a] b) JO ?_ C X ?_ ?_ ?_
   ·rintro k O H o ⟨v,Q⟩ h;cbv;apply E3 Y h<;>intro _ h
    ·cbv;refine G0 Y eCl5 h λi h=>?_;cbv;refine C1 Y h (c131 N k.1 i) (.cons (.ro _ _) .z) λp h=>?_;cbv;apply E3 Y h<;>intro _ h
     ·cbv;refine Br (f:=eCl1) Y AM Sz Q 0 rfl v (l:=k.1) (m:=[i]) .z (.lstc (.eq (eCl5 i) .z) (.lst0)) h λj u H Q w h=>?_;exact Zg
     exact Zg
    exact Zg
   ·exact FW
   ·exact⟨n,Q⟩
   clear X;rintro e l H ⟨z,P,rfl,rfl,Q⟩;exact Zg
  exact Zg
 ·exact .v (.slt _ (.lstc (.eq (eCl5 F) .z) (.lst0))) (.e rfl .z)
 ·exact Zy
 clear X
 rcases q with G|I
 ·rintro e l H ⟨A,V,rfl,rfl,Q⟩;exact Zg
 rintro e l H ⟨B,c,rfl,rfl,Q⟩;exact Zg
def c94 (N F r)(h:IV N F=some r):B1 prog 94 [(D5 F)] (.tup [vi r.1,vi r.2.1,vi r.2.2]):=by
 refine M5 OM func94 call94 ntmps94 ?_;exact T0
def c180 (N b a r)(h:HY N b a=some r):B1 prog 180 [(D5 b),.eref (E2 a) 0] (.bool r):=by
 refine M5 OM func180 call180 ntmps180 ?_;exact T0
def c134 (N e a r)(h:HZ N e a=some r):B1 prog 134 [sr eCl1 e,(D5 a)] (vi r):=by
 refine M5 OM func134 call134 ntmps134 ?_;intro E D K Y J Q;cbv;refine C1 Y (g:=λb=>vi b) h (λb X=>c97 N e (.func (.func 180) [] [.eref (E2 a) 0]) (λi=>HY N i a) (λi r X=>B1.value (F:=[]) (C:=[.eref (E2 a) 0]) (c180 N i a r X)) b X) .z λb h=>?_;exact Zg
def TC:Cf:=⟨[2,3,4,5,6,7,5000002,5000005],[(13,5),(3000018,0),(3000018,1)],[(16,9)],[1000013,2000018],[(40,7)],[]⟩
set_option maxHeartbeats 2000000 in
def o130 (N aA r) (h:AW N aA=some r):BF9 prog 130 [(D5 aA)] 17 (lst eCl3 r.1) (λo=>.tup [o,sr eCl1 r.2.1,vi r.2.2]):=by
 unfold AW at h
 intro H0;refine YI (T:=TT) (F:=H0) (mk:=λo=>.tup [o,sr eCl1 r.2.1,vi r.2.2]) (Na.tup [.bad,sr eCl1 r.2.1,vi r.2.2] 0 OC) TC K9 func130 QX JO call130 ntmps130 QX QX ?_;intro E K Y J hN;have Q:C3 Eq H0 [] H0:=.start D7 rfl;cbv;refine Aw4 Y (f0:=eCl3) Q λk d H aj Q=>?_;cbv;refine G3 Y Q λj H Q=>?_;cbv;refine G3 Y Q λp H Q=>?_;cbv;refine Aw4 Y (f0:=eCl3) Q λq6 z H ac Q=>?_;cbv;refine G3 Y Q λB H Q=>?_;cbv;refine Au Y h (c174 N N aA) (.refl _) λr8 v9 ae h=>?_;cbv;replace Q:=Q.tl0 (t:=.nil) rfl;obtain⟨am,X,h⟩:=bind_some h;replace Q:=Q.cast (L':=[.tl .nil,cb B [.sl (lst eCl1 ([])) .nil],cb z [.own q6.id q6.lo q6.n],ob q6 17 eCl3 ([]),cb p [vi 0],cb j [.sl [] .nil],cb d [.own k.id k.lo k.n],ob k 17 eCl3 ([])]) (by simp only[ob,cb,sr,<-E4]<;>rfl);refine FA TC Y K9 (ι:=Nat) (enc:=λ(x:(C5×A7))=>[(M6 x.1),(B7 x.2)]) (λ(b:(Up A0)×(Up C5)) F H=>∃g:G5×OG,(T3 g.1/\Cj g.2 (Ar.len b.2))/\C3 Eq F [.tl g.1,cb B [.sl (lst eCl1 b.1) g.1],cb z [.own g.2.id g.2.lo g.2.n],.blk g.2.id (.arr 17 (g.2.pre++lst eCl3 b.2++g.2.rest)),cb p [vi 0],cb j [.sl [] .nil],cb d [.own k.id k.lo k.n],ob k 17 eCl3 ([])] H) (λ(r:((Up A0)×(Up C5)×Int×(Up C5))) e F H=>∃g:G5×OG,(e= .ret/\T3 g.1/\Cj g.2 (Ar.len r.2.1))/\C3 Eq F [.tl g.1,cb B [.sl (lst eCl1 r.1) g.1],cb z [.own g.2.id g.2.lo g.2.n],.blk g.2.id (.arr 17 (g.2.pre++lst eCl3 r.2.1++g.2.rest)),cb p [vi r.2.2.1],cb j [.sl [] .nil],cb d [.sl [] .nil],ob k 17 eCl3 ([])] H) (λi b P=>[(2,.v (.ref d 0)),(3,.v (.ref j 0)),(4,.v (.ref p 0)),(5,.v (.ref z 0)),(6,.v (.ref B 0)),(7,.v (.ref i 0)),(8,.v (.eref (O1 P.2) 0))]) (λi b P F H=>∃g:G5×OG,(T3 g.1/\Cj g.2 (Ar.len b.2))/\C3 Eq F [cb i (Ci P.1),.tl g.1,cb B [.sl (lst eCl1 b.1) g.1],cb z [.own g.2.id g.2.lo g.2.n],.blk g.2.id (.arr 17 (g.2.pre++lst eCl3 b.2++g.2.rest)),cb p [vi 0],cb j [.sl [] .nil],cb d [.own k.id k.lo k.n],ob k 17 eCl3 ([])] H) (λ_=>G7.ex λ_=>C3.stable D7 _) (λ_ _=>G7.ex λ_=>C3.stable D7 _) (λ_ _ _=>G7.ex λ_=>C3.stable D7 _) ae X (⟨⟨.nil,q6⟩,⟨trivial,ac⟩,Q⟩) Sz (λ_=>rfl) JO JO ?_ ?_ ?_ ?_
 ·rintro E af P b R H Y ⟨⟨V,n⟩,⟨w,v⟩,Q⟩;clear X h;cbv;refine G3 Y Q λA H Q=>?_;cbv;refine D6 Y Q 0 rfl rfl λH Q=>?_;cbv;exact⟨A,⟨⟨V,n⟩,⟨w,v⟩,Q⟩,.e rfl (.e2 (.e4 .z)),rfl⟩
 ·rintro E af A P b R H o Y hF h ⟨⟨V,n⟩,⟨w,v⟩,Q⟩;clear X;cbv;refine D6 Y Q 0 rfl rfl λH Q=>?_;cbv;obtain⟨aa,X,h⟩:=bind_some h;refine S8 TC Y K9 (λe l H1=>match(generalizing:=false) aa with| .inl y=>∃u1:G5,T3 u1/\e= .normal/\l=[(2,.v (.ref d 0)),(3,.v (.ref j 0)),(4,.v (.ref p 0)),(5,.v (.ref z 0)),(7,.v (.ref A 0))]/\C3 Eq R [cb A (Ci y.1),.tl u1,cb B [.sl (lst eCl1 y.2) u1],cb z [.own n.id n.lo n.n],ob n 17 eCl3 b.2,cb p [vi 0],cb j [.sl [] .nil],cb d [.own k.id k.lo k.n],ob k 17 eCl3 ([])] H1| .inr y=>e= .ret/\l=[(2,.v (.ref d 0)),(3,.v (.ref j 0)),(4,.v (.ref p 0))]/\C3 Eq R [cb A (Ci y.1),.tl V,cb B [.sl (lst eCl1 b.1) V],cb z [.own n.id n.lo n.n],ob n 17 eCl3 b.2,cb p [vi y.2.1],cb j [.sl [] .nil],cb d [.sl [] .nil],ob k 17 eCl3 ([])] H1) JO ?_ ?_
  ·clear h;have h:=X;clear X;cbv;refine E3 Y h (λ_ h=>?_) λ_ h=>?_
   ·cbv;refine E0 Y Q 2 rfl ?_;cbv;refine C1 Y h (c131 N b.1 P.2.p) (.cons (.ro _ _) (.refl _)) λan h=>?_;cbv;refine D6 Y Q 0 rfl rfl λH Q=>?_;cbv;refine E0 Y Q 0 rfl ?_;cbv;refine E3 Y h (λ_ h=>?_) λ_ h=>?_
    ·cbv;refine C1 Y h (Sy N P.2.p) (.refl _) λao h=>?_;cbv;refine E3 Y h (λ_ h=>?_) λ_ h=>?_
     ·exact upT
     cbv;refine E0 Y Q 2 rfl ?_;cbv;refine L6 Y ?_;cbv;refine D6 Y Q 0 rfl rfl λH Q=>?_;cbv;refine E0 Y Q 2 rfl ?_;cbv;refine L6 Y ?_;cbv;refine FQ Y (by first|exact Ak3 _|exact Ay0 _|trivial|rfl) ?_;cbv;refine Br (f:=eCl1) Y AM Sz Q 1 rfl w (l:=b.1) (m:=[P.2.p]) (.refl _) (.lstc (.eq (eCl5 P.2.p) (.refl _)) (.lst0)) h λak ah H Q W h=>?_;cbv;refine Aw1 Y Q 2 rfl rfl λH Q=>?_;cbv;cases h;exact⟨_,⟨ah,W,rfl,rfl,Q⟩,.e rfl (.e4 .z),rfl⟩
    exact zbn
   exact zbn
  clear X
  rcases aa with u|ap
  ·rintro e l H ⟨S,I,rfl,rfl,Q⟩;cbv;refine E0 Y Q 3 rfl ?_;cbv;refine BT8 Y Q 0 rfl λH Q=>?_;cbv;refine AW7 Y (g:=λM=>.bool M) h (λM X=>c175 N b.2 (.func (.func 176) [] [.eref (Ci u.1) 0]) (λy1=>J4 N y1 u.1) (λy1 r X=>B1.value (F:=[]) (C:=[.eref (Ci u.1) 0]) (c176 N y1 u.1 r X)) M X) (λ_=>.bool _) (By4 Y Q v 3 rfl (.le (.refl _) (.nil))) λM h=>?_;cbv;refine E3 Y h (λ_ h=>?_) λ_ h=>?_
   ·cbv;cases h;exact⟨_,rfl,⟨⟨S,n⟩,⟨I,v⟩,Q⟩⟩
   cbv;refine E0 Y Q 2 rfl ?_;cbv;refine Ff (f:=eCl3) Y SE Sz Q v 3 rfl (m:=[u.1]) (Dr (f:=eCl3) Y SE (.lstc (.eq (eCn4 u.1) (.refl _)) (.lst0))) h λal Z H G Q h=>?_;cbv;refine D6 Y Q 2 rfl rfl λH Q=>?_;cbv;refine E0 Y Q 2 rfl ?_;cbv;refine RI Y G ?_;cbv;refine E3 Y h (λ_ h=>?_) λ_ h=>?_
   ·cbv;refine D6 Y Q 6 rfl rfl λH Q=>?_;cbv;refine D6 Y Q 5 rfl rfl λH Q=>?_;cbv;refine D6 Y Q 4 rfl rfl λH Q=>?_;cbv;cases h;exact⟨_,rfl,rfl,⟨⟨S,Z⟩,⟨rfl,⟨I,G⟩⟩,Q⟩⟩
   cbv;cases h;exact⟨_,rfl,⟨⟨S,Z⟩,⟨I,G⟩,Q⟩⟩
  rintro e l H ⟨rfl,rfl,Q⟩;cbv;cases h;exact⟨_,rfl,rfl,⟨⟨V,n⟩,⟨rfl,⟨w,v⟩⟩,Q.tail⟩⟩
 ·rintro D s H rfl hd ⟨⟨c,a⟩,⟨ai,U⟩,Q⟩;have Q:C3 Eq H0 [.tl c,cb B [.sl (lst eCl1 s.1) c],cb z [.own a.id a.lo a.n],ob a 17 eCl3 s.2,cb p [vi 0],cb j [.sl [] .nil],cb d [.own k.id k.lo k.n],ob k 17 eCl3 ([]),.blk D DB] H:=C3.dblk hd Q;clear hd;clear X;cbv;replace Q:=Q.cast (L':=[.tl c,cb B [.sl (lst eCl1 s.1) c],cb z [.own a.id a.lo a.n],ob a 17 eCl3 s.2,cb p [vi 0],cb j [.sl (lst eCl1 ([])) .nil],cb d [.own k.id k.lo k.n],ob k 17 eCl3 ([]),.blk D DB]) (by simp only[ob,cb,sr,<-E4]<;>rfl);replace Q:=Q.tl0 (t:=.nil) rfl;obtain⟨ag,X,h⟩:=bind_some h;refine S8 TC Y K9 (xn H0 [(2,.v (.ref d 0)),(3,.v (.ref j 0)),(4,.v (.ref p 0))] [.tl .nil,.tl c,cb B [.sl (lst eCl1 s.1) c],cb z [.own a.id a.lo a.n],ob a 17 eCl3 s.2,cb p [vi 0],cb j [.sl (lst eCl1 ag) c],cb d [.own a.id a.lo a.n],ob k 17 eCl3 ([]),.blk D DB]) JO ?_ ?_
  ·clear h;have h:=X;clear X;cbv
   repeat' first|refine And.intro ?_ ?_|(refine E0 Y Q 3 rfl ?_;cbv)|(refine E0 Y Q 2 rfl ?_;cbv)|(refine D6 Y Q 7 rfl rfl λH Q=>?_;cbv)|(refine D6 Y Q 6 rfl rfl λH Q=>?_;cbv)|(refine D6 Y Q 5 rfl rfl λH Q=>?_;cbv)|(have h:=J9 h;subst h;exact⟨_,⟨rfl,rfl,Q⟩,.e rfl (.e2 .z),rfl⟩)
  clear X;rintro e l H ⟨rfl,rfl,Q⟩;cbv;refine Ei Y Q 9 rfl λH Q=>?_;cbv;refine E0 Y Q 7 rfl ?_;cbv;refine E0 Y Q 6 rfl ?_;cbv;refine E0 Y Q 5 rfl ?_;cbv;cases h;exact J a _ 4 _ _ (BH Y U) rfl Q (.tup (.cons (.refl _) (.cons (.ro _ _) (.refl _))))
 rintro D L e H rfl hd hX;clear X
 rcases hX with⟨⟨O,q⟩,⟨rfl,ad,ab⟩,Q⟩
 have Q:C3 Eq H0 [.tl O,cb B [.sl (lst eCl1 L.1) O],cb z [.own q.id q.lo q.n],ob q 17 eCl3 L.2.1,cb p [vi L.2.2.1],cb j [.sl [] .nil],cb d [.sl [] .nil],ob k 17 eCl3 ([]),.blk D DB] H:=C3.dblk hd Q;clear hd;cbv;refine Ei Y Q 8 rfl λH Q=>?_;cbv;refine E0 Y Q 6 rfl ?_;cbv;refine E0 Y Q 5 rfl ?_;cbv;refine E0 Y Q 4 rfl ?_;cbv;cases h;exact hN (by rw[Ar.lst_eq];rfl) _ _ _ Q (.tup (.cons (.refl _) (.cons (.lit _ (E4)) (.refl _))))
end Go.Ab
