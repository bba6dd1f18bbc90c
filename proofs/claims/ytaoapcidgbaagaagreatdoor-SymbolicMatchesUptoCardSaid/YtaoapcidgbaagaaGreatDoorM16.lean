/- . -/
import Derived.Test.YtaoapcidgbaagaaGreatDoorM15
set_option linter.all false
open Go.Ab.Ar (ar lst nt_eq)
namespace Go.Ab
open Go.RowKit Go.Proofs Go.Proofs.Tryz J6
variable [Ar][J6]
set_option maxRecDepth 100000
def cf50:=VZ [] [(8,11)]
def c50 (N F a r)(h:Cc N F a=some r):B1 prog 50 [(N6 F),(Nc a)] (.tup [.bool r.1,vi r.2]):=by
 refine M5 cf50 func50 call50 ntmps50 ?_;intro E D K Y J Q;cbv;refine C1 Y h (c84 N ([F])) (.cons (.lit _ (G1 ((eCp3 F).symm) (E4))) .z) λb h=>?_;exact Zg
@[reducible, instance] def zc50 (N aA aB):=Ct.mk (c50 N aA aB)
def c86 (N b i r) (h:Gk N b i=some r):Gj prog 86 (λv=>[v,.eref (I0 b) 0,.eref [vi i] 0]) (List.map (λ(x:K7)=>[(Iu x)]) r) Zc:=by
 unfold Gk at h
 obtain⟨⟨w0,s⟩,O,n⟩:=bind_some h;clear h;have n:=J9 n;subst n;have h:=O;clear O;refine M9 OM K9 func86 QX JO call86 ntmps86 QX (λ_=>rfl) ?_;intro v I D P y c tl F E H K Y Q J k
 have Q:C3 (I (List.map (λ(x:K7)=>[(Iu x)]) (w0++[])++tl)) F [] H:=by rw[F2];exact Q
 cbv;apply L6 Y;cbv;obtain⟨t,d,q,X,h,R⟩:=M2 h
 rw[R,E1]at Q
 clear R;refine Dj OM Y K9 (γ:=Unit) (λA g=>[(0,.v (v)),(2,.v (.eref [vi i] 0)),(7,.v (sr eCm2 b.dX)),fi 8 (Ar.len b.dX),fi 9 A]) (λA g w a=>C3 (I (List.map (λ(x:K7)=>[(Iu x)]) w++tl)) F [] a) (λx e l w a=>e= .exit 0/\l=[]/\C3 (I (List.map (λ(x:K7)=>[(Iu x)]) w++tl)) F [] a) (λe l a=>(e= .ret/\l=[]/\C3 D F [] a)) JO ?_ (w':=d++[]) () X ?_ ?_ ?_ ?_
 ·rintro A _ u f H o Q h
  skip
  repeat' (cbv;first|apply E3 Y h<;>intro _ h|refine G0 Y eCm1 h λp h=>?_)
  ·cbv;obtain⟨j,h,R⟩:=Q5 h
   rw[R,E1]at Q
   clear R;have Q:C3 (I ([(Iu p)]::(List.map (λ(x:K7)=>[(Iu x)]) (j++f)++tl))) F [] _:=Q;refine Be Y P y c Q .z (λH Q=>?_) (λH Q=>?_)
   ·cbv;apply HC Y (nt_eq _);cbv;obtain⟨m,rfl⟩:=D0 h
    rw[<-m]at Q
    exact zah
   exact Ly
  ·cbv;obtain⟨m,rfl⟩:=D0 h
   rw[<-m]at Q
   exact zah
  cbv;obtain⟨m,rfl⟩:=D0 h
  rw[<-m]at Q
  exact L1
 ·exact FW
 ·exact Q
 ·rintro e l H ⟨rfl,rfl,Q⟩;cbv;obtain⟨m,_⟩:=D0 h
  rw[<-m]at Q
  exact Hw
 rintro e l H V;obtain⟨rfl,rfl,Q⟩:=V;clear h;cbv;exact k _ _ _ Q trivial
def c51 (N a b r)(h:Db N a b=some r):Bj prog 51 [(AH a),vi b] (λv=>Fs prog v (r.map λ(x:K7)=>[(Iu x)])):=by
 refine N7 OM K9 func51 QX JO call51 ntmps51 QX QX ?_;intro E H0 K Y J;have Q:C3 Eq H0 [] H0:=.start D7 rfl;cbv;exact J _ _ _ Q (O9 call86 (c86 N a b r h))
def c52 (N F a r)(h:Ba N F a=some r):B1 prog 52 [(N6 F),(Nc a)] (.bool r):=by
 refine M5 OM func52 call52 ntmps52 ?_;exact T0
def c28 (N G q r) (h:Dp N G q=some r):B1 prog 28 [(AH G),sr eCl9 q] (.tup [.bool r.1,vi r.2]):=by
 refine M5 OM func28 call28 ntmps28 ?_;intro E D K Y J Q
 repeat' (cbv;first|refine E3 Y h (λv h=>?_) (λv h=>?_)|apply L6 Y|refine C1 Y h (c48 _ _) .z λ_ h=>?_|refine C1 Y h (c49 _ _) .z λr2 h=>?_|(cases h;exact J Q .z))
 cbv;obtain⟨s4,X,h⟩:=bind_some h;refine J2 OM Y K9 (λs3=>[(1,.v (sr eCl9 q)),(2,.v (.eref (I0 G) 0)),(4,.b false),fi 5 0,(7,.v (.eref (Hi r2.1) 0)),(34,.v (sr eCl9 q)),fi 35 (Ar.len q),fi 36 s3]) (xi D) (xm D 0 (λ_=>[(1,.v (sr eCl9 q)),(2,.v (.eref (I0 G) 0)),(4,.b false),fi 5 0]) (λy=>[(4,.b false),fi 5 y])) JO Zi X Zf Q ?_;clear X
 rcases s4 with y7|bq
 ·rintro e l H ⟨rfl,rfl,Q⟩;cbv;refine ST Y (.int .i64) (V.int .i64) V.bool Q λm8 o9 H a3 Q=>?_;cbv;refine KW Y (kt:=3) (et:=4) JO JO (Fg .i64) FB Q a3 0 rfl h λbf a5 H ai h Q=>?_;cbv;apply L6 Y;cbv;obtain⟨bi,X,h⟩:=bind_some h;refine Aw5 OM Y K9 (γ:=Obj×Nat) (λj g=>[(2,.v (.eref (I0 G) 0)),(4,.b false),fi 5 0,(13,.v (.map g.2)),(52,.v (sr eCl9 q)),fi 53 (Ar.len q),fi 54 j.1]) (λj g n p=>KL (.int .i64) (V.int .i64) V.bool g.1 j.2/\True/\C3 Eq D (.blk g.2 (.obj g.1)::KJ n) p) (λx e l n p=>∃u1:Obj,KL (.int .i64) (V.int .i64) V.bool u1 x/\∃u2:Nat,True/\e= .exit 2/\l=[(2,.v (.eref (I0 G) 0)),(13,.v (.map u2))]/\C3 Eq D (.blk u2 (.obj u1)::KJ n) p) JO ?_ (⟨a5,m8⟩) X ?_ ?_ ?_
  ·rintro j ⟨f,P⟩ n H o ⟨R,a9,Q⟩ h;cbv;refine E3 Y h (λv h=>?_) (λv h=>?_)
   ·cbv;refine G0 Y eCo6 h λaz h=>?_;cbv;refine ST Y (.int .i64) (V.int .i64) V.bool Q λk a6 H aj Q=>?_;cbv;refine AW2 Y (kt:=3) (et:=4) JO Q (Q.get 1 rfl) R λu bd H ae Q=>?_;cbv;obtain⟨bj,X,h⟩:=bind_some h;refine Wr OM Y K9 (γ:=Obj) (λab g=>[(2,.v (.eref (I0 G) 0)),(4,.b false),fi 5 0,(13,.v (.map P)),(15,.v (.eref (AX az) 0)),(16,.v (.eref [.map k] 0)),(52,.v (sr eCl9 q)),fi 53 (Ar.len q),fi 54 j.1,(60,.v (.ref u 0))]) (λab g b ac p=>KL (.int .i64) (V.int .i64) V.bool g ab/\C3 Eq D (.blk u ac:: .blk k (.obj g):: .blk P (.obj f)::KJ b) p) (λx e l b p=>∃u1:Obj,KL (.int .i64) (V.int .i64) V.bool u1 x/\e= .exit 4/\l=[(2,.v (.eref (I0 G) 0)),(4,.b false),fi 5 0,(16,.v (.eref [.map k] 0)),(52,.v (sr eCl9 q)),fi 53 (Ar.len q),fi 54 j.1]/\C3 Eq D (.blk k (.obj u1):: .blk P (.obj f)::KJ b) p) JO ?_ a6 X ?_ ae ?_ ?_
    ·rintro ab av b bb ac H af ⟨S,Q⟩ ao;cbv;refine AW3 Y Q af 0 rfl (Q.get 2 rfl) (λB=>?_) λW ar I H t M Q=>?_
     ·cbv;refine SU Y (λv=>by cases v) (λv=>?_);cbv;exact⟨_,_,_,.inl ⟨B,rfl⟩,⟨av,S.srt,rfl,rfl,Q.tail⟩,.e rfl (.b rfl (.e rfl (.e rfl (.e rfl (.e rfl (.e rfl (.z))))))),rfl⟩
     obtain⟨o,h⟩:=ao W ar t;have T:=h;cbv;refine SU Y (λv=>?_) (λv=>by cases v);cbv;refine AW4 Y Q M 0 rfl (Q.get 2 rfl) ?_;cbv;refine Au Y h (c51 N G W.1) .z λbh bm aq h=>?_;cbv;obtain⟨bg,X,h⟩:=bind_some h;refine FA OM Y K9 (ι:=Unit) (enc:=λ(x:K7)=>[(Iu x)]) (λ(m:(Up (Int×Bool))) F H=>∃g:Obj,(KL (.int .i64) (V.int .i64) V.bool g m)/\C3 Eq F (.blk u I:: .blk k (.obj g):: .blk P (.obj f)::KJ b) H) (λ(r:Unit) e F H=>False) (λi m L=>[(15,.v (.eref (AX az) 0)),(16,.v (.eref [.map k] 0)),(18,.v (.eref (Am3 L) 0))]) (λi m L F H=>∃g:Obj,(KL (.int .i64) (V.int .i64) V.bool g m)/\C3 Eq F (.blk u I:: .blk k (.obj g):: .blk P (.obj f)::KJ b) H) (λ_=>G7.ex λ_=>C3.stable D7 _) (λ_ _=>⟨λh=>h.elim,λ_ _ h=>h.elim⟩) (λ_ _ _=>G7.ex λ_=>C3.stable D7 _) aq X (⟨av,S,Q⟩) Sz (λ_=>rfl) JO JO ?_ ?_ ?_ ?_
     ·rintro E a4 L m a0 H Y ⟨aa,w,Q⟩;clear X h;cbv;exact⟨(),⟨aa,w,Q⟩,.e rfl (.e2 .z),rfl⟩
     ·rintro E a4 _ L m a0 H o Y hF h ⟨aa,w,Q⟩
      repeat' (cbv;first|refine E3 Y h (λ_ h=>?_) (λ_ h=>?_)|refine C1 Y h (c52 _ _ _) .z λ_ h=>?_|(cases h;exact⟨_,rfl,⟨a7,ak,Q⟩⟩)|(cases h;exact⟨_,rfl,⟨aa,w,Q⟩⟩)|refine RK Y (kt:=3) (et:=4) JO JO (Fg .i64) (false:Bool) JO rfl Q w 1 rfl h λ_ h=>?_|refine KW Y (kt:=3) (et:=4) JO JO (Fg .i64) FB Q w 1 rfl h λ_ a7 H ak h Q=>?_)
     ·rintro a2 bl H rfl hd ⟨aw,al,Q⟩;have Q:C3 Eq D (.blk u I:: .blk k (.obj aw):: .blk P (.obj f)::KJ (a2::b)) H:=C3.dbs1 (A:=[_,_,_]) (ds:=b) (C3.dblk hd Q);clear hd;cbv;cases h;exact⟨W,ar,_,aw,I,_,t,T,.e rfl (.b rfl (.e rfl (.e rfl (.e rfl (.e rfl (.e rfl (.e rfl (.e rfl (.e rfl (.z)))))))))),rfl,M.1,al,Q⟩
     exact zb1
    ·exact .e rfl (.b rfl (.e rfl (.e rfl (.e rfl (.e rfl (.e rfl (.e rfl (.e rfl (.e rfl (.z))))))))))
    ·exact⟨aj,Q⟩
    clear X;rintro e l b H ⟨ax,am,rfl,rfl,Q⟩;cbv;have Q:C3 Eq D (.blk P (.obj f):: .blk k (.obj ax)::KJ b) H:=Q.swp 0 1 rfl rfl;cases h;exact⟨_,⟨ax,k⟩,_,rfl,.e rfl (.b rfl (.e rfl (.e rfl (.e rfl (.e rfl (.e rfl (.z))))))),rfl,am,trivial,Q.tail⟩
   cbv;cases h;exact⟨_,_,_,rfl,⟨f,R,P,trivial,rfl,rfl,Q⟩,.e2 .z,rfl⟩
  ·exact .e rfl (.b rfl (.e rfl (.e rfl (.e rfl (.e rfl (.e rfl (.z)))))))
  ·exact⟨ai,trivial,Q⟩
  clear X;rintro e l n H ⟨C,an,z,ba,rfl,rfl,Q⟩;cbv;refine AW2 Y (kt:=3) (et:=4) JO Q (Q.get 0 rfl) an λau be H ag Q=>?_;cbv;obtain⟨a8,X,h⟩:=bind_some h;refine Wr OM Y K9 (γ:=Unit) (λay _=>[(2,.v (.eref (I0 G) 0)),(86,.v (.ref au 0))]) (λay _ a ad p=>C3 Eq D (.blk au ad:: .blk z (.obj C)::KJ a) p) (λx e l a p=>match(generalizing:=false) x with| .inl y=>e= .exit 8/\l=[]/\C3 Eq D (.blk z (.obj C)::KJ a) p| .inr y=>e= .ret/\l=[(4,.b true),fi 5 0]/\C3 Eq D (.blk z (.obj C)::KJ a) p) JO ?_ () X ?_ ag ?_ ?_
  ·rintro ay _ a bc ad H ah Q ap;cbv;refine AW3 Y Q ah 0 rfl (Q.get 1 rfl) (λB=>?_) λZ U a1 H c O Q=>?_
   ·cbv;refine SU Y (λv=>by cases v) (λv=>?_);cbv;exact⟨_,_,_,.inl ⟨B,rfl⟩,⟨rfl,rfl,Q.tail⟩,.z,rfl⟩
   obtain⟨o,h⟩:=ap Z U c;have s:=h;cbv;refine SU Y (λv=>?_) (λv=>by cases v);cbv;refine AW4 Y Q O 0 rfl (Q.get 1 rfl) ?_;cbv;refine G0 Y (λ_=>rfl) h λbn h=>?_;cbv;refine E3 Y h (λv h=>?_) (λv h=>?_)
   ·cbv;cases h;exact⟨_,_,_,.inr ⟨Z,U,c,s⟩,⟨rfl,rfl,Q.tail⟩,.b rfl (.e rfl .z),rfl⟩
   cbv;cases h;exact⟨Z,U,_,(),a1,_,c,s,.e2 .z,rfl,O.1,Q⟩
  ·exact .e2 .z
  ·exact Q
  clear X
  rcases a8 with bo|bp
  ·rintro e l a H ⟨rfl,rfl,Q⟩;cbv
   rcases a with _|⟨d0,a⟩
   ·exact zbu
   exact zc0
  rintro e l a H ⟨rfl,rfl,Q⟩;cbv
  rcases a with _|⟨d0,a⟩
  ·exact zbu
  exact zc0
 exact S1
@[reducible, instance] def zc28 (N aB bK):=Ct.mk (c28 N aB bK)
def c127 (N b r) (h:GG N b=some r):Gj prog 127 (λn=>[n,.eref (Hi b) 0]) (List.map (λ(x:(Int×(Up A6)))=>[vi x.1,sr eCl2 x.2]) r) Zc:=by
 unfold GG at h
 obtain⟨⟨w0,q⟩,O,k⟩:=bind_some h;clear h;have k:=J9 k;subst k;have h:=O;clear O;refine M9 OM K9 func127 QX JO call127 ntmps127 QX (λ_=>rfl) ?_;intro n I D y v V tl F E H K Y Q J i
 have Q:C3 (I (List.map (λ(x:(Int×(Up A6)))=>[vi x.1,sr eCl2 x.2]) (w0++[])++tl)) F [] H:=by rw[F2];exact Q
 cbv;apply L6 Y;cbv;obtain⟨s,c,p,X,h,R⟩:=M2 h
 rw[R,E1]at Q
 clear R;refine Dj OM Y K9 (γ:=Unit) (λA g=>[(0,.v (n)),(6,.v (sr eCl7 b.dW)),fi 7 (Ar.len b.dW),fi 8 A]) (λA g w a=>C3 (I (List.map (λ(x:(Int×(Up A6)))=>[vi x.1,sr eCl2 x.2]) w++tl)) F [] a) (λx e l w a=>e= .exit 0/\l=[]/\C3 (I (List.map (λ(x:(Int×(Up A6)))=>[vi x.1,sr eCl2 x.2]) w++tl)) F [] a) (λe l a=>(e= .ret/\l=[]/\C3 D F [] a)) JO ?_ (w':=c++[]) () X ?_ ?_ ?_ ?_
 ·rintro A _ t d H o Q h
  skip
  repeat' (cbv;first|apply E3 Y h<;>intro _ h|apply L6 Y|refine G0 Y eCm8 h λj h=>?_)
  ·cbv;obtain⟨f,h,R⟩:=Q5 h
   rw[R,E1]at Q
   clear R;have Q:C3 (I ([vi A,sr eCl2 j]::(List.map (λ(x:(Int×(Up A6)))=>[vi x.1,sr eCl2 x.2]) (f++d)++tl))) F [] _:=Q;refine Be Y y v V Q .z (λH Q=>?_) (λH Q=>?_)
   ·cbv;apply HC Y (nt_eq _);cbv;obtain⟨m,rfl⟩:=D0 h
    rw[<-m]at Q
    exact zc4
   exact Ly
  ·cbv;obtain⟨m,rfl⟩:=D0 h
   rw[<-m]at Q
   exact zc4
  cbv;obtain⟨m,rfl⟩:=D0 h
  rw[<-m]at Q
  exact L1
 ·exact .e4 .z
 ·exact Q
 ·rintro e l H ⟨rfl,rfl,Q⟩;cbv;obtain⟨m,_⟩:=D0 h
  rw[<-m]at Q
  exact Hw
 exact zb6
def c88 (N F r)(h:IB N F=some r):Bj prog 88 [(N6 F)] (λv=>Fs prog v (r.map λ(x:(Int×(Up A6)))=>[vi x.1,sr eCl2 x.2])):=by
 refine N7 OM K9 func88 QX JO call88 ntmps88 QX QX ?_;intro E H0 K Y J;have Q:C3 Eq H0 [] H0:=.start D7 rfl;cbv;exact J _ _ _ Q (O9 call127 (c127 N F r h))
def cf126:=VY [2,3]
def c126 (N l r)(h:Aj2 N l=some r):B1 prog 126 [(N6 l)] (.tup [.bool r.1,vi r.2]):=by
 refine M5 cf126 func126 call126 ntmps126 ?_;intro E D K Y J Q;cbv;refine G3 Y Q λb H Q=>?_;cbv;refine G3 Y Q λk H Q=>?_;cbv;refine C1 Y h (c84 N ([l])) (.cons (.lit _ (G1 ((eCp3 l).symm) (E4))) .z) λj h=>?_;cbv;apply E3 Y h<;>intro _ h
 ·cbv;cases h
 cbv;refine Au Y h (c88 N l) .z λm p v h=>?_;cbv;obtain⟨c,X,h⟩:=bind_some h;refine FA cf126 Y K9 (ι:=Unit) (enc:=λ(x:(Int×(Up A6)))=>[vi x.1,sr eCl2 x.2]) (λ(n:Unit) F H=>C3 Eq F [cb k [vi 0],cb b [.bool false]] H) (λ(r:Unit) e F H=>e= .ret/\C3 Eq F [cb k [vi 0],cb b [.bool false]] H) (λi n w=>[(2,.v (.ref b 0)),(3,.v (.ref k 0))]) (λi n w F H=>C3 Eq F [cb k [vi 0],cb b [.bool false]] H) (λ_=>C3.stable D7 _) (λ_ _=>G7.con (C3.stable D7 _)) (λ_ _ _=>C3.stable D7 _) v X (Q) Sz (λ_=>rfl) JO JO ?_ ?_ ?_ ?_
 ·rintro E V w n y H Y Q;exact zb9
 ·rintro E V _ w n y H o Y g h Q;cbv;refine D6 Y Q 1 rfl rfl λH Q=>?_;exact F8
 ·rintro a d H rfl hd Q;have Q:C3 Eq D [cb k [vi 0],cb b [.bool false],.blk a DB] H:=C3.dblk hd Q;exact zaf
 rintro a f e H rfl hd P
 rcases P with⟨rfl,Q⟩
 have Q:C3 Eq D [cb k [vi 0],cb b [.bool false],.blk a DB] H:=C3.dblk hd Q;clear hd;exact zat
@[reducible, instance] def zc126 (N aA):=Ct.mk (c126 N aA)
def c87 (N F r)(h:Ax8 N F=some r):B1 prog 87 [(N6 F)] (.bool r):=by
 refine M5 OM func87 call87 ntmps87 ?_;exact T0
def cf53:=VZ [6000004] [(16,5),(17,9)]
def c53 (N w r) (h:nmB N w=some r):AQ7 prog 53 [(AH w)] (.int .i64) (V.int .i64) (V.int .i64) r:=by
 refine AP5 (T:=TT) cf53 K9 func53 QX JO call53 ntmps53 QX QX ?_;intro E H0 K Y J;have Q:C3 Eq H0 [] H0:=.start D7 rfl;cbv;refine ST Y (.int .i64) (V.int .i64) (V.int .i64) Q λn o2 H O Q=>?_;cbv;refine RH Y (f:=(V.int .i64)) Q λq3 H S Q=>?_;cbv;apply L6 Y;cbv;obtain⟨s7,X,h⟩:=bind_some h;refine S0 cf53 Y K9 (γ:=OG×Obj) (λq g=>[(1,.v (.eref (I0 w) 0)),(3,.v (.map n)),(4,.v (.own g.1.id g.1.lo g.1.n)),(13,.v (sr V.bool w.dY)),fi 14 (Ar.len w.dY),fi 15 q.1]) (λq g v=>Cj g.1 (Ar.len q.2.1)/\KL (.int .i64) (V.int .i64) (V.int .i64) g.2 q.2.2/\C3 Eq H0 [.blk g.1.id (.arr 1 (g.1.pre++lst (V.int .i64) q.2.1++g.1.rest)),.blk n (.obj g.2)] v) (λx e l v=>∃i:OG,Cj i (Ar.len x.1)/\∃d:Obj,KL (.int .i64) (V.int .i64) (V.int .i64) d x.2/\e= .exit 0/\l=[(1,.v (.eref (I0 w) 0)),(3,.v (.map n)),(4,.v (.own i.id i.lo i.n))]/\C3 Eq H0 [ob i 1 (V.int .i64) x.1,.blk n (.obj d)] v) JO ?_ (⟨q3,o2⟩) X ?_ ?_ ?_
 ·rintro q ⟨q5,q6⟩ H o ⟨j,p,Q⟩ h
  repeat' (cbv;first|apply E3 Y h<;>intro _ h|refine G0 Y (λ_=>rfl) h λ_ h=>?_|(cases h;exact⟨_,⟨W,o9⟩,rfl,.e2 (.e4 .z),rfl,t,R,Q⟩)|(cases h;exact⟨_,⟨q5,q6⟩,rfl,.e2 (.e4 .z),rfl,j,p,Q⟩)|(cases h;exact⟨_,_,rfl,⟨q5,j,q6,p,rfl,rfl,Q⟩,.e rfl (.e2 .z),rfl⟩)|refine KW Y (kt:=3) (et:=3) JO JO (Fg .i64) (Aw8 .i64) Q p 1 rfl h λ_ o9 H R h Q=>?_|refine Ff (f:=(V.int .i64)) Y (λ_=>rfl) Sz Q j 0 rfl (m:=[q.1]) (Dr (f:=(V.int .i64)) Y (λ_=>rfl) (.lstc .z (.lst0))) h λ_ W H t Q h=>?_)
 ·exact .e2 (.e4 .z)
 ·exact⟨S,O,Q⟩
 clear X;rintro e l H ⟨Z,u,aa,z,rfl,rfl,Q⟩;cbv;obtain⟨ak,X,h⟩:=bind_some h;refine S0 cf53 Y K9 (γ:=OG×Obj) (λP g=>[(1,.v (.eref (I0 w) 0)),(3,.v (.map n)),(4,.v (.own g.1.id g.1.lo g.1.n))]) (λP g v=>Cj g.1 (Ar.len P.1)/\KL (.int .i64) (V.int .i64) (V.int .i64) g.2 P.2/\C3 Eq H0 [.blk g.1.id (.arr 1 (g.1.pre++lst (V.int .i64) P.1++g.1.rest)),.blk n (.obj g.2)] v) (λx e l v=>∃i:OG,Cj i (Ar.len x.1)/\∃d:Obj,KL (.int .i64) (V.int .i64) (V.int .i64) d x.2/\e= .exit 2/\l=[(3,.v (.map n))]/\C3 Eq H0 [ob i 1 (V.int .i64) x.1,.blk n (.obj d)] v) JO ?_ (⟨Z,aa⟩) X ?_ ?_ ?_
 ·rintro P ⟨G,I⟩ H o ⟨y,c,Q⟩ h;cbv;apply RI Y y;cbv;apply E3 Y h<;>intro _ h
  ·cbv;apply L6 Y;cbv;obtain⟨al,X,h⟩:=bind_some h;refine S0 cf53 Y K9 (γ:=OG×Obj) (λk g=>[(1,.v (.eref (I0 w) 0)),(3,.v (.map n)),(4,.v (.own g.1.id g.1.lo g.1.n)),(34,.v (sr eCm2 w.dX)),fi 35 (Ar.len w.dX),fi 36 k.1]) (λk g v=>Cj g.1 (Ar.len k.2.1)/\KL (.int .i64) (V.int .i64) (V.int .i64) g.2 k.2.2/\C3 Eq H0 [.blk g.1.id (.arr 1 (g.1.pre++lst (V.int .i64) k.2.1++g.1.rest)),.blk n (.obj g.2)] v) (λx e l v=>∃i:OG,Cj i (Ar.len x.1)/\∃d:Obj,KL (.int .i64) (V.int .i64) (V.int .i64) d x.2/\e= .exit 4/\l=[(1,.v (.eref (I0 w) 0)),(3,.v (.map n)),(4,.v (.own i.id i.lo i.n))]/\C3 Eq H0 [ob i 1 (V.int .i64) x.1,.blk n (.obj d)] v) JO ?_ (⟨G,I⟩) X ?_ ?_ ?_
   ·rintro k ⟨L,M⟩ H o ⟨a,b,Q⟩ h
    repeat' (cbv;first|apply E3 Y h<;>intro _ h|refine C1 Y h (c87 _ _) .z λ_ h=>?_|refine G0 Y eCm1 h λae h=>?_|(cases h;exact⟨_,⟨ab,U⟩,rfl,.e2 (.e4 .z),rfl,A,s,Q⟩)|(cases h;exact⟨_,⟨L,M⟩,rfl,.e2 (.e4 .z),rfl,a,b,Q⟩)|(cases h;exact⟨_,_,rfl,⟨L,a,M,b,rfl,rfl,Q⟩,.e rfl (.e2 .z),rfl⟩)|refine Aj5 Y (kt:=3) (et:=3) JO JO (Fg .i64) (0:Int) JO rfl Q b 1 rfl h λ_ h=>?_|refine Hz Y Q a 0 rfl h λh=>?_|refine Kr Y (λ_=>rfl) Q a 0 rfl h λ_ h=>?_|refine RK Y (kt:=3) (et:=3) JO JO (Fg .i64) (0:Int) JO rfl Q b 1 rfl h λ_ h=>?_|refine KW Y (kt:=3) (et:=3) JO JO (Fg .i64) (Aw8 .i64) Q b 1 rfl h λ_ U H s h Q=>?_|refine Ff (f:=(V.int .i64)) Y (λ_=>rfl) Sz Q a 0 rfl (m:=[ae.eA]) (Dr (f:=(V.int .i64)) Y (λ_=>rfl) (.lstc .z (.lst0))) h λ_ ab H A Q h=>?_)
   ·exact .e2 (.e4 .z)
   ·exact⟨y,c,Q⟩
   clear X;rintro e l H ⟨ah,B,ac,C,rfl,rfl,Q⟩;cbv;refine Aw2 Y Q B 0 rfl h λag ad D Q h=>?_;cbv;cases h;exact⟨_,⟨ad,ac⟩,rfl,.e rfl (.e2 .z),rfl,D,C,Q⟩
  cbv;cases h;exact⟨_,_,rfl,⟨G,y,I,c,rfl,rfl,Q⟩,.e rfl .z,rfl⟩
 ·exact .e rfl (.e2 .z)
 ·exact⟨u,z,Q⟩
 clear X;rintro e l H ⟨ai,af,aj,F,rfl,rfl,Q⟩;cbv;cases h;exact J _ _ _ 1 _ F rfl Q
def c54 (N n l k r)(h:Iw N n l k=some r)(b:Nat)(e:Obj)(i:KL (.int .i64) (V.int .i64) (V.int .i64) e l)(a:Nat):AQ5 prog 54 [(Iu n),.eref [.map b] 0,.ref a 0] [(b,.obj e),(a,.cells [vi k])] (.bool r):=by
 refine AP3 (T:=TT) OM K9 func54 QX JO call54 ntmps54 QX QX ?_;intro E H0 K Y Q J;have Q:C3 Eq (MX H0 [(b,.obj e),(a,.cells [vi k])]) [.blk b (.obj e),cb a [vi k]] H0:=Q;cbv;refine Aj5 Y (kt:=3) (et:=3) JO JO (Fg .i64) (0:Int) JO rfl Q i 0 rfl h λv h=>?_;cbv;apply E0 Y Q 1 rfl;cbv;cases h;exact J _ _ (Q) .z
def cf55:=VY [2,3]
def c55 (N l r)(h:zc5 N l=some r):B1 prog 55 [(N6 l)] (.tup [(Nc r.1),vi r.2]):=by
 refine M5 cf55 func55 call55 ntmps55 ?_;intro E D K Y J Q;cbv;refine G3 Y Q λb H Q=>?_;cbv;refine G3 Y Q λk H Q=>?_;cbv;refine C1 Y h (c84 N ([l])) (.cons (.lit _ (G1 ((eCp3 l).symm) (E4))) .z) λm h=>?_;cbv;apply E3 Y h<;>intro _ h
 ·cbv;cases h
 cbv;refine Au Y h (c88 N l) .z λp q w h=>?_;cbv;obtain⟨d,X,h⟩:=bind_some h;refine FA cf55 Y K9 (ι:=Unit) (enc:=λ(x:(Int×(Up A6)))=>[vi x.1,sr eCl2 x.2]) (λ(v:Unit) F H=>C3 Eq F [cb k [vi 0],cb b [vi 0,vi 0]] H) (λ(r:E9) e F H=>e= .ret/\C3 Eq F [cb k [vi 0],cb b (AX r)] H) (λi v n=>[(2,.v (.ref b 0)),(3,.v (.ref k 0)),fi 5 n.1,(6,.v (sr eCl2 n.2))]) (λi v n F H=>C3 Eq F [cb k [vi 0],cb b [vi 0,vi 0]] H) (λ_=>C3.stable D7 _) (λ_ _=>G7.con (C3.stable D7 _)) (λ_ _ _=>C3.stable D7 _) w X (Q) Sz (λ_=>rfl) JO JO ?_ ?_ ?_ ?_
 ·rintro E c n v P H Y Q;exact zba
 ·rintro E c _ n v P H o Y j h Q;cbv;refine G0 Y eCm7 h λg h=>?_;cbv;refine D6 Y Q 1 rfl rfl λH Q=>?_;exact F8
 ·rintro a f H rfl hd Q;have Q:C3 Eq D [cb k [vi 0],cb b [vi 0,vi 0],.blk a DB] H:=C3.dblk hd Q;exact zaf
 rintro a y e H rfl hd V
 rcases V with⟨rfl,Q⟩
 have Q:C3 Eq D [cb k [vi 0],cb b (AX y),.blk a DB] H:=C3.dblk hd Q;clear hd;exact zat
def c56 (N a b r)(h:Al3 N a b=some r):B1 prog 56 [(Nc a),(Nc b)] (.bool r):=by
 refine M5 OM func56 call56 ntmps56 ?_;exact T0
@[reducible, instance] def zc56 (N aI aU):=Ct.mk (c56 N aI aU)
def Ro:Cf:=⟨[7,12,13],[(3000031,0),(3000031,1),(3000031,4),(3000031,5),(3000031,6)],[],[2000031],[],[]⟩
def c29 (N R r) (h:zcm N R=some r):B1 prog 29 [(AH R)] (.tup [.bool r.1,sr eCl9 r.2.1,vi r.2.2]):=by
 refine M5 Ro func29 call29 ntmps29 ?_;intro E D K Y J Q
 repeat' (cbv;first|refine E3 Y h (λu h=>?_) (λu h=>?_)|refine C1 Y h (c48 _ _) .z λ_ h=>?_|refine Bw3 Y h (c53 N R) .z Q λl2 j z H an Q h=>?_|refine D6 Y Q 0 rfl rfl λH Q=>?_|refine G3 Y Q λn H Q=>?_|(cases h;done)|refine Aj5 Y (kt:=3) (et:=3) JO JO (Fg .i64) (0:Int) JO rfl Q an 0 rfl h λ_ h=>?_|refine ST Y (.int .i64) (V.int .i64) V.bool Q λm7 _ H bq Q=>?_|refine KW Y (kt:=3) (et:=4) JO JO (Fg .i64) FB Q bq 0 rfl h λ_ o9 H br h Q=>?_)
 cbv;replace Q:=Q.tl0 (t:=.nil) rfl;obtain⟨b1,X,h⟩:=bind_some h;refine Aw5 Ro Y K9 (γ:=G5×Obj×Nat) (λa g=>[(1,.v (.eref (I0 R) 0)),(2,.b false),(3,.v (.sl [] .nil)),fi 4 0,(7,.v (.ref n 0)),(9,.v (.eref [.func (.func 54) [] [.eref [.map j] 0,.ref n 0]] 0)),(10,.v (.sl (lst eCl9 a.1) g.1)),(11,.v (.map g.2.2))]) (λa g q L=>T3 g.1/\KL (.int .i64) (V.int .i64) V.bool g.2.1 a.2.1/\True/\C3 Eq D (.tl g.1:: .blk g.2.2 (.obj g.2.1)::cb n [vi a.2.2]:: .blk j (.obj z)::KJ q) L) (λx e l q L=>∃u1:G5,T3 u1/\∃u2:Obj,KL (.int .i64) (V.int .i64) V.bool u2 x.2.1/\∃u3:Nat,True/\e= .exit 0/\l=[(10,.v (.sl (lst eCl9 x.1) u1))]/\C3 Eq D (.tl u1:: .blk u3 (.obj u2)::cb n [vi x.2.2]:: .blk j (.obj z)::KJ q) L) JO ?_ (⟨.nil,o9,m7⟩) X ?_ ?_ ?_
 ·rintro a ⟨y,p,v⟩ q H o ⟨ai,U,b3,Q⟩ h;cbv;apply E0 Y Q 2 rfl;cbv;refine E3 Y h (λu h=>?_) (λu h=>?_)
  ·cbv;refine G3 Y Q λb H Q=>?_;cbv;refine G3 Y Q λP H Q=>?_;cbv;refine D6 Y Q 0 rfl rfl λH Q=>?_;cbv;refine AW2 Y (kt:=3) (et:=4) JO Q (Q.get 3 rfl) U λW b8 H az Q=>?_;cbv;obtain⟨w,X,h⟩:=bind_some h;refine Wr Ro Y K9 (γ:=Unit) (λae _=>[(1,.v (.eref (I0 R) 0)),(2,.b false),(3,.v (.sl [] .nil)),fi 4 0,(7,.v (.ref n 0)),(9,.v (.eref [.func (.func 54) [] [.eref [.map j] 0,.ref n 0]] 0)),(10,.v (.sl (lst eCl9 a.1) y)),(11,.v (.map v)),(12,.v (.ref b 0)),(13,.v (.ref P 0)),(43,.v (.ref W 0))]) (λae _ c ax L=>C3 Eq D (.blk W ax::cb P [.bool ae.1]::cb b (AX ae.2):: .tl y:: .blk v (.obj p)::cb n [vi a.2.2]:: .blk j (.obj z)::KJ c) L) (λx e l c L=>e= .exit 2/\l=[(1,.v (.eref (I0 R) 0)),(2,.b false),(3,.v (.sl [] .nil)),fi 4 0,(7,.v (.ref n 0)),(9,.v (.eref [.func (.func 54) [] [.eref [.map j] 0,.ref n 0]] 0)),(10,.v (.sl (lst eCl9 a.1) y)),(11,.v (.map v)),(12,.v (.ref b 0))]/\C3 Eq D (cb P [.bool x.1]::cb b (AX x.2):: .tl y:: .blk v (.obj p)::cb n [vi a.2.2]:: .blk j (.obj z)::KJ c) L) JO ?_ () X ?_ az ?_ ?_
   ·rintro ae _ c b4 ax H a0 Q a7;cbv;refine AW3 Y Q a0 0 rfl (Q.get 4 rfl) (λB=>?_) λap bc aa H S af Q=>?_
    ·cbv;refine SU Y (λu=>by cases u) (λu=>?_);cbv;exact⟨_,_,_,.inl ⟨B,rfl⟩,⟨rfl,rfl,Q.tail⟩,.e rfl (.b rfl (.e rfl (.e rfl (.e rfl (.e rfl (.e rfl (.e rfl (.e rfl (.z))))))))),rfl⟩
    obtain⟨o,h⟩:=a7 ap bc S;have al:=h;cbv;refine SU Y (λu=>?_) (λu=>by cases u);cbv;refine AW4 Y Q af 0 rfl (Q.get 4 rfl) ?_;cbv;refine Au Y h (c51 N R ap.1) .z λcd ci a9 h=>?_;cbv;obtain⟨ca,X,h⟩:=bind_some h;refine FA Ro Y K9 (ι:=Unit) (enc:=λ(x:K7)=>[(Iu x)]) (λ(C:Bool×E9) F H=>C3 Eq F (.blk W aa::cb P [.bool C.1]::cb b (AX C.2):: .tl y:: .blk v (.obj p)::cb n [vi a.2.2]:: .blk j (.obj z)::KJ c) H) (λ(r:Unit) e F H=>False) (λi C G=>[(9,.v (.eref [.func (.func 54) [] [.eref [.map j] 0,.ref n 0]] 0)),(12,.v (.ref b 0)),(13,.v (.ref P 0)),(15,.v (.eref (Am3 G) 0))]) (λi C G F H=>C3 Eq F (.blk W aa::cb P [.bool C.1]::cb b (AX C.2):: .tl y:: .blk v (.obj p)::cb n [vi a.2.2]:: .blk j (.obj z)::KJ c) H) (λ_=>C3.stable D7 _) (λ_ _=>⟨λh=>h.elim,λ_ _ h=>h.elim⟩) (λ_ _ _=>C3.stable D7 _) a9 X (Q) Sz (λ_=>rfl) JO JO ?_ ?_ ?_ ?_
    ·rintro E bw G C bl H Y Q;exact zba
    ·rintro E bw _ G C bl H o Y hF h Q;cbv;refine C1 Y h (c55 N G.On) .z λce h=>?_;cbv;refine E3 Y h (λu h=>?_) (λu h=>?_)
     ·cbv;refine Aw6 Y (F0:=[]) (C0:=[.eref [.map j] 0,.ref n 0]) (args':=[(Iu G)]) (g:=λac=>.bool ac) h (λac X=>c54 N G l2 a.2.2 ac X j z an n) .z (BE3 (neC (Q.ne 6 5 rfl rfl Sz) (ne0)) (BE4 _)) (atC (Q.get 6 rfl) (atC (Q.get 5 rfl) (at0))) λac h=>?_;exact Zg
     exact Zg
    ·rintro bn bi H rfl hd Q;have Q:C3 Eq D (.blk W aa::cb P [.bool bi.1]::cb b (AX bi.2):: .tl y:: .blk v (.obj p)::cb n [vi a.2.2]:: .blk j (.obj z)::KJ (bn::c)) H:=C3.dbs1 (A:=[_,_,_,_,_,_,_]) (ds:=c) (C3.dblk hd Q);clear hd;cbv;cases h;exact⟨ap,bc,_,(),aa,_,S,al,.e rfl (.b rfl (.e rfl (.e rfl (.e rfl (.e rfl (.e rfl (.e rfl (.e rfl (.e rfl (.e rfl (.z))))))))))),rfl,af.1,Q⟩
    exact zb1
   ·exact zan
   ·exact Q
   clear X;rintro e l c H ⟨rfl,rfl,Q⟩;cbv;refine ST Y (.int .i64) (V.int .i64) V.bool Q λs bz H a3 Q=>?_;cbv;refine AW2 Y (kt:=3) (et:=4) JO Q (Q.get 4 rfl) U λZ b9 H a1 Q=>?_;cbv;obtain⟨cg,X,h⟩:=bind_some h;refine Wr Ro Y K9 (γ:=Obj) (λaw g=>[(1,.v (.eref (I0 R) 0)),(2,.b false),(3,.v (.sl [] .nil)),fi 4 0,(7,.v (.ref n 0)),(9,.v (.eref [.func (.func 54) [] [.eref [.map j] 0,.ref n 0]] 0)),(10,.v (.sl (lst eCl9 a.1) y)),(11,.v (.map v)),(12,.v (.ref b 0)),(18,.v (.eref [.map s] 0)),(77,.v (.ref Z 0))]) (λaw g k ay L=>KL (.int .i64) (V.int .i64) V.bool g aw/\C3 Eq D (.blk Z ay:: .blk s (.obj g)::cb P [.bool w.1]::cb b (AX w.2):: .tl y:: .blk v (.obj p)::cb n [vi a.2.2]:: .blk j (.obj z)::KJ k) L) (λx e l k L=>∃u1:Obj,KL (.int .i64) (V.int .i64) V.bool u1 x/\e= .exit 6/\l=[(1,.v (.eref (I0 R) 0)),(2,.b false),(3,.v (.sl [] .nil)),fi 4 0,(7,.v (.ref n 0)),(9,.v (.eref [.func (.func 54) [] [.eref [.map j] 0,.ref n 0]] 0)),(10,.v (.sl (lst eCl9 a.1) y)),(12,.v (.ref b 0)),(18,.v (.eref [.map s] 0))]/\C3 Eq D (.blk s (.obj u1)::cb P [.bool w.1]::cb b (AX w.2):: .tl y:: .blk v (.obj p)::cb n [vi a.2.2]:: .blk j (.obj z)::KJ k) L) JO ?_ bz X ?_ a1 ?_ ?_
   ·rintro aw bg k b5 ay H a2 ⟨ah,Q⟩ a8;cbv;refine AW3 Y Q a2 0 rfl (Q.get 5 rfl) (λB=>?_) λaq bd ab H T ag Q=>?_
    ·cbv;refine SU Y (λu=>by cases u) (λu=>?_);cbv;exact⟨_,_,_,.inl ⟨B,rfl⟩,⟨bg,ah.srt,rfl,rfl,Q.tail⟩,.e rfl (.b rfl (.e rfl (.e rfl (.e rfl (.e rfl (.e rfl (.e rfl (.e rfl (.z))))))))),rfl⟩
    obtain⟨o,h⟩:=a8 aq bd T;have am:=h;cbv;refine SU Y (λu=>?_) (λu=>by cases u);cbv;refine AW4 Y Q ag 0 rfl (Q.get 5 rfl) ?_;cbv;refine Au Y h (c51 N R aq.1) .z λcf cj ba h=>?_;cbv;obtain⟨cc,X,h⟩:=bind_some h;refine FA Ro Y K9 (ι:=Unit) (enc:=λ(x:K7)=>[(Iu x)]) (λ(M:(Up (Int×Bool))) F H=>∃g:Obj,(KL (.int .i64) (V.int .i64) V.bool g M)/\C3 Eq F (.blk Z ab:: .blk s (.obj g)::cb P [.bool w.1]::cb b (AX w.2):: .tl y:: .blk v (.obj p)::cb n [vi a.2.2]:: .blk j (.obj z)::KJ k) H) (λ(r:Unit) e F H=>False) (λi M O=>[(9,.v (.eref [.func (.func 54) [] [.eref [.map j] 0,.ref n 0]] 0)),(12,.v (.ref b 0)),(18,.v (.eref [.map s] 0)),(20,.v (.eref (Am3 O) 0))]) (λi M O F H=>∃g:Obj,(KL (.int .i64) (V.int .i64) V.bool g M)/\C3 Eq F (.blk Z ab:: .blk s (.obj g)::cb P [.bool w.1]::cb b (AX w.2):: .tl y:: .blk v (.obj p)::cb n [vi a.2.2]:: .blk j (.obj z)::KJ k) H) (λ_=>G7.ex λ_=>C3.stable D7 _) (λ_ _=>⟨λh=>h.elim,λ_ _ h=>h.elim⟩) (λ_ _ _=>G7.ex λ_=>C3.stable D7 _) ba X (⟨bg,ah,Q⟩) Sz (λ_=>rfl) JO JO ?_ ?_ ?_ ?_
    ·rintro E bx O M bm H Y ⟨au,I,Q⟩;clear X h;cbv;exact⟨(),⟨au,I,Q⟩,.e4 .z,rfl⟩
    ·rintro E bx _ O M bm H o Y hF h ⟨au,I,Q⟩
     repeat' (cbv;first|refine E3 Y h (λ_ h=>?_) (λ_ h=>?_)|refine Aw6 Y (F0:=[]) (C0:=[.eref [.map j] 0,.ref n 0]) (args':=[(Iu O)]) (g:=λad=>.bool ad) h (λad X=>c54 N O l2 a.2.2 ad X j z an n) .z (BE3 (neC (Q.ne 7 6 rfl rfl Sz) (ne0)) (BE4 _)) (atC (Q.get 7 rfl) (atC (Q.get 6 rfl) (at0))) λad h=>?_|refine C1 Y h (c52 _ _ _) .z λ_ h=>?_|apply E0 Y Q 3 rfl|(cases h;exact⟨_,rfl,⟨b0,a4,Q⟩⟩)|(cases h;exact⟨_,rfl,⟨au,I,Q⟩⟩)|refine KW Y (kt:=3) (et:=4) JO JO (Fg .i64) FB Q I 1 rfl h λ_ b0 H a4 h Q=>?_)
    ·rintro bo ch H rfl hd ⟨bh,a5,Q⟩;have Q:C3 Eq D (.blk Z ab:: .blk s (.obj bh)::cb P [.bool w.1]::cb b (AX w.2):: .tl y:: .blk v (.obj p)::cb n [vi a.2.2]:: .blk j (.obj z)::KJ (bo::k)) H:=C3.dbs1 (A:=[_,_,_,_,_,_,_,_]) (ds:=k) (C3.dblk hd Q);clear hd;cbv;cases h;exact⟨aq,bd,_,bh,ab,_,T,am,.e rfl (.b rfl (.e rfl (.e rfl (.e rfl (.e rfl (.e rfl (.e rfl (.e rfl (.e rfl (.e rfl (.z))))))))))),rfl,ag.1,a5,Q⟩
    exact zb1
   ·exact zan
   ·exact⟨a3,Q⟩
   clear X;rintro e l k H ⟨av,a6,rfl,rfl,Q⟩;cbv;obtain⟨b2,X,h⟩:=bind_some h;refine S8 Ro Y K9 (λe l L=>∃u1:G5,T3 u1/\e= .normal/\l=[(1,.v (.eref (I0 R) 0)),(2,.b false),(3,.v (.sl [] .nil)),fi 4 0,(7,.v (.ref n 0)),(9,.v (.eref [.func (.func 54) [] [.eref [.map j] 0,.ref n 0]] 0)),(10,.v (.sl (lst eCl9 b2) u1)),(11,.v (.map s))]/\C3 Eq D (.blk s (.obj av)::cb P [.bool w.1]::cb b (AX w.2):: .tl u1:: .blk v (.obj p)::cb n [vi a.2.2]:: .blk j (.obj z)::KJ k) L) JO ?_ ?_
   ·clear h;have h:=X;cbv;obtain⟨bb,ak,h⟩:=bind_some h;apply E0 Y Q 2 rfl;cbv;refine Br (f:=eCl9) Y Rt Sz Q 3 rfl ai (l:=a.1) (m:=[w.2]) .z (.lstc (.eq (eCo6 w.2) .z) (.lst0)) (Kf ak) λbb b7 H Q bu hh=>?_;obtain rfl:=J9 hh;exact Zg
   clear X;rintro e l H ⟨aj,ao,rfl,rfl,Q⟩;cbv;apply E0 Y Q 5 rfl;cbv;refine D6 Y Q 5 rfl rfl λH Q=>?_;cbv;have Q:C3 Eq D (.blk v (.obj p)::cb P [.bool w.1]::cb b (AX w.2):: .tl aj:: .blk s (.obj av)::cb n [vi (ar .sub .i64 a.2.2 1)]:: .blk j (.obj z)::KJ k) H:=Q.swp 0 4 rfl rfl;cases h;exact⟨_,⟨aj,av,s⟩,_,rfl,.e rfl (.b rfl (.e rfl (.e rfl (.e rfl (.e rfl (.e rfl (.e rfl (.z)))))))),rfl,ao,a6,trivial,Q.tail.tail.tail⟩
  cbv;cases h;exact⟨_,_,_,rfl,⟨y,ai,p,U,v,trivial,rfl,rfl,Q⟩,.e rfl .z,rfl⟩
 ·exact .e rfl (.b rfl (.e rfl (.e rfl (.e rfl (.e rfl (.v (.slt _ (.lst0)) (.e rfl (.z))))))))
 ·exact⟨trivial,br,trivial,Q⟩
 clear X;rintro e l q H ⟨bj,bv,bf,bt,be,bp,rfl,rfl,Q⟩;cbv
 rcases q with _|⟨d0,q⟩
 ·cbv;have Q:C3 _ _ [.tl bj,.blk be (.obj bf),cb n [vi b1.2.2],.blk j (.obj z)] H:=Q;cases h;exact J Q (.tup (.r (.cons (.ro _ _) .z)))
 cbv;refine Uo (A:=[_,_,_,_]) (ds:=d0::q) Y Q λH Q=>?_;exact Zg
def cf89:=VY [7]
def c89 (N a r)(h:fnd N a=some r):YX prog 89 [sr eCl2 a] 2 (lst eCl2 r):=by
 intro H0;refine Ew (T:=TT) cf89 K9 func89 QX JO call89 ntmps89 QX QX ?_;intro E K Y J g;have Q:C3 Eq H0 [] H0:=.start D7 rfl;cbv;refine Bv8 Y rfl (λX=>?_) ?_
 ·cbv;exact g (AE1 X h) [] H0 Q
 cbv;refine AV8 (f:=eCl2) Y BB Sz Q (.inr rfl) (m:=a) (Dr (f:=eCl2) Y BB .z) h λl q H c Q h=>?_;cbv;cases h;exact J q _ _ (BH Y c) Q
def cf57:Cf:=⟨[2],[],[],[],[(22,21),(24,3)],[]⟩
def c57 (N F r) (h:JL N F=some r):B1 prog 57 [(N6 F)] ((N6 r)):=by
 refine M5 cf57 func57 call57 ntmps57 ?_;intro E D K Y J Q
 repeat' (cbv;first|apply L6 Y|refine G3 Y Q λn H Q=>?_|refine XL Y (f:=eCl7) Sz (z0:=([]:Up A6)) ((.eq (eCm8 _) (.lit _ (E4)))) Q h λ_ d H w h Q=>?_)
 cbv;obtain⟨s,X,h⟩:=bind_some h;refine S0 cf57 Y K9 (γ:=OG) (λi g=>[(2,.v (.ref n 0)),(3,.v (.own g.id g.lo g.n)),(11,.v (sr eCl7 F.dW)),fi 12 (Ar.len F.dW),fi 13 i.1]) (λi g v=>Cj g (Ar.len i.2)/\C3 Eq D [ob g 1 eCl7 i.2,cb n [.sl [] .nil]] v) (λx e l v=>∃k:OG,Cj k (Ar.len x)/\e= .exit 0/\l=[(2,.v (.ref n 0)),(3,.v (.own k.id k.lo k.n))]/\C3 Eq D [ob k 1 eCl7 x,cb n [.sl [] .nil]] v) JO ?_ d X ?_ ?_ ?_
 ·rintro i p H o ⟨a,Q⟩ h;cbv;apply E3 Y h<;>intro _ h
  ·cbv;refine G0 Y eCm8 h λm h=>?_;cbv;refine NQ Y (f:=eCl2) h (c89 N m) .z Q λV q H y Q h=>?_;cbv;refine RJ Y Q y 0 rfl λH Q=>?_;cbv;refine Hz Y Q a 0 rfl h λh=>?_;cbv;refine Hy Y (f:=eCl7) (esz:=1) (tz:=1) (off:=0) (u:=(λj:Up A6=>V)) (λ_=>⟨_,.eq (eCm8 _) .z,(by rw[eCm8];rfl),MJ _,rfl⟩) Sz Q a 0 rfl h λP H a h Q=>?_;exact Zg
  exact Zg
 ·exact FW
 ·exact⟨w,Q⟩
 clear X;rintro e l H ⟨c,b,rfl,rfl,Q⟩;cbv;refine RJ Y Q b 0 rfl λH Q=>?_;exact Zg
def cf58:=VY [2]
def c58 (N a r)(h:c10 N a=some r):B1 prog 58 [(AH a)] (.tup [(AH r.1),vi r.2]):=by
 refine M5 cf58 func58 call58 ntmps58 ?_;exact T0
def SP:Cf:=⟨[2,5],[(10,10),(15,13),(3000004,0),(3000004,1),(3000004,2),(3000004,3),(3000004,4),(3000004,5),(3000004,7),(3000005,0),(3000005,1),(3000005,2),(3000005,3),(3000005,4),(3000005,5),(3000005,7)],[],[2000004,2000005],[(83,2000005)],[]⟩
set_option maxHeartbeats 2000000 in
def c30 (N c r) (h:DLg N c=some r):B1 prog 30 [(AH c)] (.tup [(AH r.1),vi r.2]):=by
 refine M5 SP func30 call30 ntmps30 ?_;intro E D K Y J Q;cbv;refine G3 Y Q λd H Q=>?_;cbv;refine C1 Y h (c48 N c) .z λr2 h=>?_;cbv;apply E3 Y h<;>intro _ h
 ·cbv;cases h
 cbv;obtain⟨s3,X,h⟩:=bind_some h;refine S8 SP Y K9 (λe l q=>∃P:Nat,True/\∃u2:OG,Cj u2 (Ar.len s3)/\e= .normal/\l=[(1,.v (.eref (I0 c) 0)),(2,.v (.ref d 0)),(5,.v (.ref P 0))]/\C3 Eq D [cb P [vi c.eC,.own u2.id u2.lo u2.n,.sl [] .nil],ob u2 1 V.bool s3,cb d [vi 0,.sl [] .nil,.sl [] .nil]] q) JO ?_ ?_
 ·clear h;have h:=X;cbv;obtain⟨I,L,h⟩:=bind_some h;apply L6 Y;cbv
  repeat' first|refine And.intro ?_ ?_|(refine XL Y (f:=V.bool) Sz (z0:=(false:Bool)) (.z) Q (Kf L) λI n H C B Q=>?_;obtain rfl:=J9 B;cbv)|(refine G3 Y Q λs H Q=>?_;cbv)|(refine D6 Y Q 0 rfl rfl λH Q=>?_;cbv)|(have h:=J9 h;subst h;exact⟨_,⟨s,trivial,n,C,rfl,rfl,Q⟩,.e rfl (.e2 .z),rfl⟩)|(refine D6 Y Q 1 rfl rfl λH Q=>?_;cbv)|(have Q:C3 Eq D [cb s [vi c.eC,.own n.id n.lo n.n,.sl [] .nil],ob n 1 V.bool I,cb d [vi 0,.sl [] .nil,.sl [] .nil]] H:=Q.swp 1 0 rfl rfl;have h:=J9 h;subst h;exact⟨_,⟨s,trivial,n,C,rfl,rfl,Q⟩,.e rfl (.e2 .z),rfl⟩)
 clear X;rintro e l H ⟨b,af,ab,i,rfl,rfl,Q⟩;cbv;obtain⟨k,X,h⟩:=bind_some h;refine S8 SP Y K9 (λe l q=>∃P:OG,Cj P (Ar.len k)/\e= .normal/\l=[(1,.v (.eref (I0 c) 0)),(2,.v (.ref d 0)),(5,.v (.ref b 0))]/\C3 Eq D [cb b [vi c.eC,.own P.id P.lo P.n,.sl [] .nil],ob P 1 V.bool k,cb d [vi 0,.sl [] .nil,.sl [] .nil]] q) JO ?_ ?_
 ·clear h;have h:=X;cbv;obtain⟨F,R,h⟩:=bind_some h;obtain⟨ad,z,h⟩:=bind_some h;obtain⟨Z,M,h⟩:=bind_some h;obtain⟨ae,A,h⟩:=bind_some h;obtain⟨aa,O,h⟩:=bind_some h
  repeat' first|refine And.intro ?_ ?_|(refine E0 Y Q 0 rfl ?_;cbv)|(refine G0 Y (λ_=>rfl) (Kf R) λF B=>?_;obtain rfl:=J9 B;cbv)|(refine Hz Y Q i 1 rfl (Kf z) λB=>?_;clear B;cbv)|(refine Hy Y (f:=V.bool) (esz:=1) (tz:=1) (off:=0) (u:=(λav:Bool=>F)) (λ_=>⟨.bool F,.refl _,rfl,rfl,rfl⟩) Sz Q i 1 rfl (Kf M) λZ H i B Q=>?_;obtain rfl:=J9 B;cbv)|(refine Hz Y Q i 1 rfl (Kf A) λB=>?_;clear B;cbv)|(refine Hy Y (f:=V.bool) (esz:=1) (tz:=1) (off:=0) (u:=(λaw:Bool=>true)) (λ_=>⟨.bool true,.refl _,rfl,rfl,rfl⟩) Sz Q i 1 rfl (Kf O) λaa H i B Q=>?_;obtain rfl:=J9 B;cbv)|(have h:=J9 h;subst h;exact⟨_,⟨ab,i,rfl,rfl,Q⟩,.e rfl (.e2 .z),rfl⟩)
 clear X;rintro e l H ⟨a,S,rfl,rfl,Q⟩;cbv;apply L6 Y;cbv;replace Q:=Q.cast (L':=[cb b [vi c.eC,.own a.id a.lo a.n,.sl (lst eCm2 ([])) .nil],ob a 1 V.bool k,cb d [vi 0,.sl [] .nil,.sl [] .nil]]) (by simp only[ob,cb,sr,<-E4]<;>rfl);replace Q:=Q.tl0 (t:=.nil) rfl;obtain⟨al,X,h⟩:=bind_some h;refine S0 SP Y K9 (γ:=G5) (λv g=>[(1,.v (.eref (I0 c) 0)),(2,.v (.ref d 0)),(5,.v (.ref b 0)),(35,.v (sr eCm2 c.dX)),fi 36 (Ar.len c.dX),fi 37 v.1]) (λv g q=>T3 g/\C3 Eq D [.tl g,cb b [vi v.2.eC,.own a.id a.lo a.n,.sl (lst eCm2 v.2.dX) g],ob a 1 V.bool k,cb d [vi 0,.sl [] .nil,.sl [] .nil]] q) (λx e l q=>∃P:G5,T3 P/\e= .exit 0/\l=[(1,.v (.eref (I0 c) 0)),(2,.v (.ref d 0)),(5,.v (.ref b 0))]/\C3 Eq D [.tl P,cb b [vi x.eC,.own a.id a.lo a.n,.sl (lst eCm2 x.dX) P],ob a 1 V.bool k,cb d [vi 0,.sl [] .nil,.sl [] .nil]] q) JO ?_ .nil X ?_ ?_ ?_
 ·rintro v an H o ⟨T,Q⟩ h;cbv;apply E3 Y h<;>intro _ h
  ·cbv;refine G0 Y eCm1 h λG h=>?_;cbv;refine G0 Y (λ_=>rfl) h λax h=>?_;cbv;apply E3 Y h<;>intro _ h
   ·cbv;apply E0 Y Q 1 rfl;cbv;refine U8 Y (g:=λj=>(N6 j)) h (c57 N G.On) .z λj h=>?_;cbv;refine Br (f:=eCm2) Y WQ Sz Q 0 rfl T (l:=v.2.dX) (m:=[(⟨0,ar .add .i64 G.eA 1,j⟩:K7)]) .z (.lstc (.eq (eCm1 (⟨0,ar .add .i64 G.eA 1,j⟩:K7)) .z) (.lst0)) h λaj ao H Q ag h=>?_;exact Zg
   exact Zg
  exact Zg
 ·exact .e2 (.e4 .z)
 ·exact Zy
 clear X;rintro e l H ⟨ac,U,rfl,rfl,Q⟩;cbv;apply L6 Y;cbv;obtain⟨am,X,h⟩:=bind_some h;refine S0 SP Y K9 (γ:=G5) (λw g=>[(2,.v (.ref d 0)),(5,.v (.ref b 0)),(61,.v (sr eCm2 c.dX)),fi 62 (Ar.len c.dX),fi 63 w.1]) (λw g q=>T3 g/\C3 Eq D [.tl g,cb b [vi w.2.eC,.own a.id a.lo a.n,.sl (lst eCm2 w.2.dX) g],ob a 1 V.bool k,cb d [vi 0,.sl [] .nil,.sl [] .nil]] q) (λx e l q=>∃P:G5,T3 P/\e= .exit 2/\l=[(2,.v (.ref d 0)),(5,.v (.ref b 0))]/\C3 Eq D [.tl P,cb b [vi x.eC,.own a.id a.lo a.n,.sl (lst eCm2 x.dX) P],ob a 1 V.bool k,cb d [vi 0,.sl [] .nil,.sl [] .nil]] q) JO ?_ ac X ?_ ?_ ?_
 ·rintro w ap H o ⟨W,Q⟩ h;cbv;apply E3 Y h<;>intro _ h
  ·cbv;refine G0 Y eCm1 h λy h=>?_;cbv;apply E0 Y Q 1 rfl;cbv;refine U8 Y (g:=λp=>(N6 p)) h (c57 N y.On) .z λp h=>?_;cbv;refine Br (f:=eCm2) Y WQ Sz Q 0 rfl W (l:=w.2.dX) (m:=[(⟨ar .add .i64 y.To 1,ar .add .i64 y.eA 1,p⟩:K7)]) .z (.lstc (.eq (eCm1 (⟨ar .add .i64 y.To 1,ar .add .i64 y.eA 1,p⟩:K7)) .z) (.lst0)) h λak aq H Q ah h=>?_;exact Zg
  exact Zg
 ·exact FW
 ·exact⟨U,Q⟩
 clear X;rintro e l H ⟨au,ai,rfl,rfl,Q⟩
 repeat' (cbv;first|refine C1 Y h (c58 _ _) (.cons (.agg (.r (.r (.cons (.ro _ _) .z)))) .z) λ_ h=>?_|apply E0 Y Q 1 rfl|apply E0 Y Q 2 rfl|refine D6 Y Q 2 rfl rfl λH Q=>?_|(cases h;exact J Q .z)|refine AW5 Y Q S 1 2 rfl rfl rfl Sz λH Q=>?_)
def cf32:=VY [2]
def c32 (N a r)(h:Xq N a=some r):B1 prog 32 [.bool a] ((J5 r)):=by
 refine M5 cf32 func32 call32 ntmps32 ?_;exact T0
@[reducible, instance] def zc32 (N aF):=Ct.mk (c32 N aF)
def cf31:=VY [2]
def c31 (N a r)(h:MQ N a=some r):B1 prog 31 [vi a] ((D5 r)):=by
 refine M5 cf31 func31 call31 ntmps31 ?_;exact T0
def cf33:=VZ [] [(6,8)]
def c33 (N a b r)(h:Ak5 N a b=some r):B1 prog 33 [sr eCl9 a,sr eCl9 b] (.bool r):=by
 refine M5 cf33 func33 call33 ntmps33 ?_;intro E D K Y J Q
 repeat' (cbv;first|apply E3 Y h<;>intro _ h|apply L6 Y|(cases h;done))
 cbv;obtain⟨s,X,h⟩:=bind_some h;exact J2 cf33 Y K9 (λA=>[(0,.v (sr eCl9 a)),(1,.v (sr eCl9 b)),fi 5 A]) (xi D) (xe D 0 λ_=>[]) JO Zi X Zf Q Zp
def cf90:=VZ [] [(6,8)]
def c90 (N a b r)(h:Xs N a b=some r):B1 prog 90 [sr eCl2 a,sr eCl2 b] (.bool r):=by
 refine M5 cf90 func90 call90 ntmps90 ?_;intro E D K Y J Q;cbv;apply L6 Y;cbv;apply L6 Y;cbv;apply E3 Y h<;>intro _ h
 ·exact Zg
 cbv;obtain⟨s,X,h⟩:=bind_some h;exact J2 cf90 Y K9 (λA=>[(0,.v (sr eCl2 a)),(1,.v (sr eCl2 b)),fi 5 A]) (xi D) (xm D 0 (λ_=>[]) (λ_=>[(4,.b false)])) JO Zi X Zf Q Zq
@[reducible, instance] def zc90 (N aD aF):=Ct.mk (c90 N aD aF)
def cf59:=VZ [] [(6,10)]
def c59 (N F a r)(h:Xp N F a=some r):B1 prog 59 [(N6 F),(N6 a)] (.bool r):=by
 refine M5 cf59 func59 call59 ntmps59 ?_;intro E D K Y J Q;cbv;apply L6 Y;cbv;apply L6 Y;cbv;apply E3 Y h<;>intro _ h
 ·exact Zg
 cbv;obtain⟨s,X,h⟩:=bind_some h;exact J2 cf59 Y K9 (λA=>[(2,.v (.eref (Hi F) 0)),(3,.v (.eref (Hi a) 0)),fi 5 A]) (xi D) (xm D 0 (λ_=>[]) (λ_=>[(4,.b false)])) JO Zi X Zf Q Zq
@[reducible, instance] def zc59 (N aA bU):=Ct.mk (c59 N aA bU)
def cf34:=VZ [] [(6,10),(11,14)]
def c34 (N a b r) (h:RC N a b=some r):B1 prog 34 [(AH a),(AH b)] (.bool r):=by
 refine M5 cf34 func34 call34 ntmps34 ?_;intro E D K Y J Q
 repeat' (cbv;first|apply E3 Y h<;>intro _ h|apply L6 Y|(cases h;exact J Q .z))
 cbv;obtain⟨s,X,h⟩:=bind_some h;refine J2 cf34 Y K9 (λA=>[(2,.v (.eref (I0 a) 0)),(3,.v (.eref (I0 b) 0)),fi 5 A]) (xi D) (xm D 0 (λ_=>[(2,.v (.eref (I0 a) 0)),(3,.v (.eref (I0 b) 0))]) (λ_=>[(4,.b false)])) JO ?_ X Zf Q ?_
 ·intro A H o Q h;cbv;apply L6 Y;cbv;apply E3 Y h<;>intro _ h
  ·cbv;refine G0 Y (λ_=>rfl) h λx h=>?_;cbv;refine G0 Y (λ_=>rfl) h λy h=>?_;exact Zg
  exact Zg
 clear X
 rcases s with P|w
 ·rintro e l H ⟨rfl,rfl,Q⟩;cbv;obtain⟨k,X,h⟩:=bind_some h;refine J2 cf34 Y K9 (λi=>[(2,.v (.eref (I0 a) 0)),(3,.v (.eref (I0 b) 0)),fi 6 i]) (xi D) (xm D 2 (λ_=>[]) (λ_=>[(4,.b false)])) JO ?_ X ?_ Q ?_
  ·intro i H o Q h;exact Zg
  ·exact .e rfl (.e2 .z)
  clear X
  rcases k with n|v
  ·exact S1
  exact S1
 exact S1
def cf9:=VZ [] [(17,22)]
def c9 (N r) (h:BN N=some r):B1 prog 9 [] (.bool r):=by
 unfold BN at h
 refine M5 cf9 func9 call9 ntmps9 ?_;intro E D K Y J Q;cbv;refine C1 Y h (c26 N 1 5) (.refl _) λv h=>?_;cbv;refine C1 Y h (c26 N 4 9) (.refl _) λw h=>?_;cbv;refine C1 Y h (c27 N ([4])) (.cons (.lit _ (G1 (rfl) (E4))) (.refl _)) λj h=>?_;cbv;refine C1 Y h (c27 N ([1,4])) (.cons (.lit _ (G1 (rfl) (G1 (rfl) (E4)))) (.refl _)) λm h=>?_;cbv;refine C1 Y h (c27 N ([1])) (.cons (.lit _ (G1 (rfl) (E4))) (.refl _)) λp h=>?_;cbv;refine Ch3 Y (n:=3) rfl ?_;cbv;obtain⟨A,X,h⟩:=bind_some h;refine J2 cf9 Y K9 (λq=>[(1,.v (.eref [vi 1,.sl [.bool false,.bool true] .full,.sl [.agg [vi 0,vi 0,sr eCl7 v.dW],.agg [vi 0,vi 1,sr eCl7 w.dW]] .full] 0)),(29,.v (sr eCq1 ([j,m,p]))),fi 30 3,fi 31 q]) (xi D) (xe D 0 λ_=>[(1,.v (.eref [vi 1,.sl [.bool false,.bool true] .full,.sl [.agg [vi 0,vi 0,sr eCl7 v.dW],.agg [vi 0,vi 1,sr eCl7 w.dW]] .full] 0))]) JO ?_ X ?_ Q ?_
 ·intro q H o Q h;clear X;cbv;refine E3 Y h (λ_ h=>?_) λ_ h=>?_
  ·cbv;refine G0 Y eCp1 h λu h=>?_;cbv;refine C1 Y h (c28 N (⟨1,[false,true],[(⟨0,0,v⟩:K7),(⟨0,1,w⟩:K7)]⟩:D1) u) (.cons (.agg (.cons (.refl _) (.cons (.lit _ (G1 (rfl) (G1 (rfl) (E4)))) (.cons (.lit _ (G1 ((eCm1 (⟨0,0,v⟩:K7)).symm) (G1 ((eCm1 (⟨0,1,w⟩:K7)).symm) (E4)))) (.refl _))))) (.refl _)) λz h=>?_;cbv;refine E3 Y h (λ_ h=>?_) λ_ h=>?_
   ·cbv;cases h
   cbv;cases h;exact⟨_,rfl,.e4 .z,rfl,Q⟩
  cbv;cases h;exact⟨_,_,rfl,⟨rfl,rfl,Q⟩,.e rfl .z,rfl⟩
 ·exact .e rfl (.v (.lit _ (G1 ((eCp1 j).symm) (G1 ((eCp1 m).symm) (G1 ((eCp1 p).symm) (E4))))) (.e rfl (.e rfl (.z))))
 clear X;rintro e l H ⟨rfl,rfl,Q⟩;cbv;refine C1 Y h (c29 N (⟨1,[false,true],[(⟨0,0,v⟩:K7),(⟨0,1,w⟩:K7)]⟩:D1)) (.cons (.agg (.cons (.refl _) (.cons (.lit _ (G1 (rfl) (G1 (rfl) (E4)))) (.cons (.lit _ (G1 ((eCm1 (⟨0,0,v⟩:K7)).symm) (G1 ((eCm1 (⟨0,1,w⟩:K7)).symm) (E4)))) (.refl _))))) (.refl _)) λV h=>?_;cbv;refine C1 Y h (c30 N (⟨1,[false,true],[(⟨0,0,v⟩:K7),(⟨0,1,w⟩:K7)]⟩:D1)) (.cons (.agg (.cons (.refl _) (.cons (.lit _ (G1 (rfl) (G1 (rfl) (E4)))) (.cons (.lit _ (G1 ((eCm1 (⟨0,0,v⟩:K7)).symm) (G1 ((eCm1 (⟨0,1,w⟩:K7)).symm) (E4)))) (.refl _))))) (.refl _)) λc h=>?_;cbv;refine C1 Y h (c31 N 0) (.refl _) λy h=>?_;cbv;refine C1 Y h (c31 N 1) (.refl _) λx h=>?_;cbv;refine C1 Y h (Nh N ([(⟨(⟨#[97]⟩:Uf),[]⟩:F6)]) (⟨1,[y,(⟨4,[x],0,0,0,0,(⟨0,[],0,0,0,(⟨0,0,⟨#[]⟩⟩:B2)⟩:A8)⟩:A0)],0,0,0,0,(⟨0,[],0,0,0,(⟨0,0,⟨#[]⟩⟩:B2)⟩:A8)⟩:A0)) (.cons (.sl _ (.lstc (.eq (eCo1 (⟨(⟨#[97]⟩:Uf),[]⟩:F6)) (.agg (.cons (.refl _) (.cons (.lit _ (E4)) (.refl _))))) (.lst0))) (.cons (.agg (.cons (.refl _) (.cons (.sl _ (.lstc (.eq (eCl5 y) (.refl _)) (.lstc (.eq (eCl5 (⟨4,[x],0,0,0,0,(⟨0,[],0,0,0,(⟨0,0,⟨#[]⟩⟩:B2)⟩:A8)⟩:A0)) (.agg (.cons (.refl _) (.cons (.lit _ (G1 ((eCl5 x).symm) (E4))) (.cons (.refl _) (.cons (.refl _) (.cons (.refl _) (.cons (.refl _) (.cons (.refl _) (.cons (.lit _ (E4)) (.refl _))))))))))) (.lst0)))) (.cons (.refl _) (.cons (.refl _) (.cons (.refl _) (.cons (.refl _) (.cons (.refl _) (.cons (.lit _ (E4)) (.refl _)))))))))) (.refl _))) λd h=>?_;cbv;refine C1 Y h (c26 N (-1099511627776) 1099511627776) (.refl _) λa h=>?_;cbv;refine E3 Y h (λ_ h=>?_) λ_ h=>?_
 ·cbv;cases h
 cbv;refine C1 Y h (c27 N ([4])) (.cons (.lit _ (G1 (rfl) (E4))) (.refl _)) λf h=>?_;cbv;refine C1 Y h (c33 N V.2.1 f) (.refl _) λs h=>?_;cbv;refine E3 Y h (λ_ h=>?_) λ_ h=>?_
 ·cbv;cases h
 cbv;refine U8 Y (g:=λb=>(N6 b)) h (c26 N 4 9) (.refl _) λb h=>?_;cbv;refine U8 Y (g:=λi=>(N6 i)) h (c26 N 1 5) (.refl _) λi h=>?_;cbv;refine U8 Y (g:=λk=>(N6 k)) h (c26 N 4 9) (.refl _) λk h=>?_;cbv;refine U8 Y (g:=λP=>.bool P) h (c34 N c.1 (⟨1,[false,true,false],[(⟨0,1,b⟩:K7),(⟨1,1,i⟩:K7),(⟨2,1,k⟩:K7)]⟩:D1)) (.cons (.refl _) (.cons (.agg (.cons (.refl _) (.cons (.lit _ (G1 (rfl) (G1 (rfl) (G1 (rfl) (E4))))) (.cons (.lit _ (G1 ((eCm1 (⟨0,1,b⟩:K7)).symm) (G1 ((eCm1 (⟨1,1,i⟩:K7)).symm) (G1 ((eCm1 (⟨2,1,k⟩:K7)).symm) (E4))))) (.refl _))))) (.refl _))) λP h=>?_;cbv;refine E3 Y h (λ_ h=>?_) λ_ h=>?_
 ·cbv;refine C1 Y h (c34 N d.1 (⟨1,[false,false,true],[(⟨0,1,a⟩:K7),(⟨1,2,a⟩:K7),(⟨1,1,a⟩:K7)]⟩:D1)) (.cons (.refl _) (.cons (.agg (.cons (.refl _) (.cons (.lit _ (G1 (rfl) (G1 (rfl) (G1 (rfl) (E4))))) (.cons (.lit _ (G1 ((eCm1 (⟨0,1,a⟩:K7)).symm) (G1 ((eCm1 (⟨1,2,a⟩:K7)).symm) (G1 ((eCm1 (⟨1,1,a⟩:K7)).symm) (E4))))) (.refl _))))) (.refl _))) λt h=>?_;exact zb5
 exact zb5
@[reducible, instance] def zc9 (N):=Ct.mk (c9 N)
def c109 (N a r)(h:MK N a=some r):B1 prog 109 [(CB a)] (.bool r):=by
 refine M5 OM func109 call109 ntmps109 ?_;exact T0
def cf70:=VY [2]
def c70 (N a r)(h:KI N a=some r):B1 prog 70 [(CB a)] ((Ap2 r)):=by
 refine M5 cf70 func70 call70 ntmps70 ?_;exact T0
def c118 (N a r)(h:IF N a=some r):B1 prog 118 [sr (V.int .i64) a] (vi r):=by
 refine M5 OM func118 call118 ntmps118 ?_;intro E D K Y J Q;cbv;apply L6 Y;cbv;obtain⟨s,X,h⟩:=bind_some h;refine J2 OM Y K9 (λA=>[fi 3 0,(6,.v (sr (V.int .i64) a)),fi 7 (Ar.len a),fi 8 A]) (xi D) (xm D 0 (λ_=>[fi 3 0]) (λy=>[fi 2 y])) JO ?_ X Zf Q Zq;intro A H o Q h;cbv;apply E3 Y h<;>intro _ h
 ·cbv;refine G0 Y (λ_=>rfl) h λb h=>?_;exact Zg
 exact Zg
def SA (N a b r)(h:V6 N a b=some r):B1 prog 120 [vi a,vi b] (vi r):=by
 refine M5 OM func120 call120 ntmps120 ?_;exact T0
def cf110:=VZ [] [(1,3),(3,14)]
def c110 (N a b r)(h:Ja N a b=some r):B1 prog 110 [(CB a),(CB b)] (vi r):=by
 refine M5 cf110 func110 call110 ntmps110 ?_;intro E D K Y J Q
 repeat' (cbv;first|apply E3 Y h<;>intro _ h|refine C1 Y h (c70 _ _) .z λ_ h=>?_|refine C1 Y h (SA _ _ _) .z λ_ h=>?_|refine C1 Y h (c118 _ _) (.cons (.lit _ (G1 (rfl) (G1 (rfl) (G1 (rfl) (E4))))) .z) λ_ h=>?_|refine U8 Y (g:=λe=>(Ap2 e)) h (c70 _ _) .z λe h=>?_|refine U8 Y (g:=λi=>vi i) h (SA _ _ _) .z λi h=>?_|refine U8 Y (g:=λk=>vi k) h (SA _ _ _) .z λk h=>?_|(cases h;exact J Q .z))
def cf111:=VY [2]
def c111 (N a r)(h:KA N a=some r):B1 prog 111 [(CB a)] ((za5 r)):=by
 refine M5 cf111 func111 call111 ntmps111 ?_;exact T0
def cf68:=VZ [5] [(9,9)]
def c68 (N i r) (h:Kq N i=some r):B1 prog 68 [sr eCl4 i] (vi r):=by
 refine M5 cf68 func68 call68 ntmps68 ?_;intro E D K Y J Q;cbv;apply L6 Y;cbv;apply E3 Y h<;>intro _ h
 ·exact Zg
 cbv;refine ST Y Ay4 eCo2 V.bool Q λP o2 H d Q=>?_;cbv;apply L6 Y;cbv;obtain⟨L,X,h⟩:=bind_some h;refine S0 cf68 Y K9 (γ:=Obj) (λc g=>[(0,.v (sr eCl4 i)),(3,.v (.map P)),(10,.v (sr eCl4 i)),fi 11 (Ar.len i),fi 12 c.1]) (λc g w=>KL Ay4 eCo2 V.bool g c.2/\C3 Eq D [.blk P (.obj g)] w) (λx e l w=>match(generalizing:=false) x with| .inl y=>∃v:Obj,KL Ay4 eCo2 V.bool v y/\e= .exit 0/\l=[]/\C3 Eq D [.blk P (.obj v)] w| .inr y=>∃v:Obj,KL Ay4 eCo2 V.bool v y.2/\e= .ret/\l=[fi 2 y.1]/\C3 Eq D [.blk P (.obj v)] w) JO ?_ o2 X ?_ ?_ ?_
 ·rintro c T H o ⟨a,Q⟩ h;cbv;apply E3 Y h<;>intro _ h
  ·cbv;refine G0 Y eCn1 h λb h=>?_;cbv;refine G3 Y Q λS H Q=>?_;cbv;refine D6 Y Q 0 rfl rfl λH Q=>?_;cbv;apply E0 Y Q 0 rfl;cbv;refine C1 Y h (c109 N b) .z λU h=>?_;cbv;apply E3 Y h<;>intro _ h
   ·exact Zg
   cbv;apply E3 Y h<;>intro _ h
   ·cbv;refine G0 Y eCn1 h λM h=>?_;cbv;apply E0 Y Q 0 rfl;cbv;refine C1 Y h (c110 N M b) .z λF h=>?_;cbv;apply E3 Y h<;>intro _ h
    ·exact Zg
    cbv;apply E0 Y Q 0 rfl;cbv;refine C1 Y h (c111 N b) .z λm h=>?_;cbv;refine Bv9 (eCp0 m) ?_;refine RK Y (kt:=211) (et:=4) JO JO AX1 (false:Bool) JO rfl Q a 1 rfl h λG h=>?_;cbv;apply E3 Y h<;>intro _ h
    ·exact Zg
    cbv;apply E0 Y Q 0 rfl;cbv;refine C1 Y h (c111 N b) .z λp h=>?_;cbv;refine AW1 (eCp0 p) ?_;refine KW Y (kt:=211) (et:=4) JO JO AX1 FB Q a 1 rfl h λz f H k h Q=>?_;cbv;cases h;exact⟨_,f,rfl,.e rfl (.e4 .z),rfl,k,Q.tail⟩
   cbv;apply E0 Y Q 0 rfl;cbv;refine C1 Y h (c111 N b) .z λq h=>?_;cbv;refine Bv9 (eCp0 q) ?_;refine RK Y (kt:=211) (et:=4) JO JO AX1 (false:Bool) JO rfl Q a 1 rfl h λI h=>?_;cbv;apply E3 Y h<;>intro _ h
   ·exact Zg
   cbv;apply E0 Y Q 0 rfl;cbv;refine C1 Y h (c111 N b) .z λs h=>?_;cbv;refine AW1 (eCp0 s) ?_;refine KW Y (kt:=211) (et:=4) JO JO AX1 FB Q a 1 rfl h λA j H n h Q=>?_;cbv;cases h;exact⟨_,j,rfl,.e rfl (.e4 .z),rfl,n,Q.tail⟩
  exact Zg
 ·exact FW
 ·exact⟨d,Q⟩
 clear X
 rcases L with O|R
 ·rintro e l H ⟨B,t,rfl,rfl,Q⟩;exact Zg
 rintro e l H ⟨C,u,rfl,rfl,Q⟩;exact Zg
def cf112:=VY [0]
def c112 (N r)(h:Ho N=some r):B1 prog 112 [] (.agg [.func (.func 152) [] [],.func (.func 153) [] [],.func (.func 154) [] [],.func (.func 155) [] [],.func (.func 156) [] [],.func (.func 157) [] [],.func (.func 157) [] [],.func (.func 157) [] []]):=by
 refine M5 cf112 func112 call112 ntmps112 ?_;exact T0
def c256 (N a r)(h:ML N a=some r):B1 prog 256 [vi a] (.str r):=AC8 Go.Proofs.Tryz.laysNm283 call256 h
end Go.Ab
