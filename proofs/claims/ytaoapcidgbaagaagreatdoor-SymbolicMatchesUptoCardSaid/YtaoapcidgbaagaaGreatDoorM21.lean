/- . -/
import Derived.Test.YtaoapcidgbaagaaGreatDoorM19
set_option linter.all false
open Go.Ab.Ar (ar cmp)
namespace Go.Ab
variable{p:A0}{α:Type}
abbrev Lg:=Up B0->Prop
inductive Ii {α:Type}:List α->List α->List α->Prop
 |nil:Ii [] [] []
 |left {x:α} {u v w:List α}:Ii u v w->Ii (x::u) v (x::w)
 |right {x:α} {u v w:List α}:Ii u v w->Ii u (x::v) (x::w)
def Ii.comm{u v w:Up α}(h:Ii u v w):Ii v u w:=by
 induction h with
 |nil=>exact .nil
 |left _ ih=>exact .right ih
 |right _ ih=>exact .left ih
def Ii.nil_l {α:Type}:∀v:Up α,Ii [] v v
 |[]=>.nil
 |x::v=>.right (Ii.nil_l v)
def Ii.nil_iff{v w:Up α}:Ii [] v w<->w=v:=by
 constructor
 ·intro h
  generalize e:([]:Up α)=u at h
  induction h with
  |nil=>rfl
  |left _ _=>cases e
  |right _ ih=>rw[ih e]
 rintro rfl;exact .nil_l _
def Ii.assoc{a b c d e:Up α}(h:Ii a b d)(g:Ii d c e):∃f,Ii b c f/\Ii a f e:=by
 induction g generalizing a b with
 |nil=>cases h;exact⟨[],.nil,.nil⟩
 |left g ih=>
  cases h with
  |left h=>have⟨f,O,Z⟩:=ih h;exact⟨f,O,.left Z⟩
  |right h=>have⟨f,O,Z⟩:=ih h;exact⟨_,.left O,.right Z⟩
 |right g ih=>have⟨f,O,Z⟩:=ih h;exact⟨_,.right O,.right Z⟩
def Ze:Lg:=λw=>w=[]
def cat (A B:Lg):Lg:=λw=>∃u v,w=u++v/\A u/\B v
def Re (A B:Lg):Lg:=λw=>∃u v,Ii u v w/\A u/\B v
inductive Pls (A:Lg):List B0->Prop
 |one {u:List B0}:A u->Pls A u
 |more {u v:List B0}:A u->Pls A v->Pls A (u++v)
def Bm5:Up Lg->Lg
 |[]=>Ze
 |A::l=>cat A (Bm5 l)
def Lt:Up Lg->Lg
 |[]=>Ze
 |A::l=>Re A (Lt l)
def JP{A B:Lg}(h:∀w,A w<->B w):A=B:=funext λw=>propext (h w)
def Am2 (A:Lg):cat A Ze=A:=JP λw=>⟨λ⟨u,v,e,h,j⟩=>by rw[e,show v=[]from j,F2];exact h,λh=>⟨w,[],OC,h,rfl⟩⟩
def BP7 (A:Lg):cat Ze A=A:=JP λw=>⟨λ⟨u,v,e,h,j⟩=>by rw[e,show u=[]from h];exact j,λh=>⟨[],w,rfl,rfl,h⟩⟩
def PD (A B:Lg):Re A B=Re B A:=JP λw=>⟨λ⟨u,v,h,a,b⟩=>⟨v,u,h.comm,b,a⟩,λ⟨u,v,h,a,b⟩=>⟨v,u,h.comm,b,a⟩⟩
def Ix (A B C:Lg):Re (Re A B) C=Re A (Re B C):=JP λw=>by
 constructor
 ·rintro⟨d,c,h,⟨a,b,g,u,W⟩,e⟩;have⟨f,O,Z⟩:=g.assoc h;exact⟨a,f,Z,u,b,c,O,W,e⟩
 rintro⟨a,f,h,u,b,c,g,W,e⟩;have⟨d,O,Z⟩:=(g.comm).assoc h.comm;exact⟨d,c,Z.comm,⟨a,b,O.comm,u,W⟩,e⟩
def Wi (A:Lg):Re A Ze=A:=JP λw=>⟨λ⟨u,v,h,a,b⟩=>by rw[show v=[]from b]at h;rw[Ii.nil_iff.1 h.comm];exact a,λh=>⟨w,[],(Ii.nil_l w).comm,h,rfl⟩⟩
def TZ (A:Lg):∀l:Up Lg,Lt (l++[A])=Re (Lt l) A
 |[]=>by show Re A Ze=Re Ze A;rw[PD]
 |B::l=>by show Re B (Lt (l++[A]))=Re (Re B (Lt l)) A;rw[TZ A l,Ix]
def AT4:∀(l:Up Lg) (i:Nat) (A:Lg),l[i]? =some A->Lt l=Re A (Lt (l.take i++l.drop (i+1)))
 |[],i,A,h=>by simp at h
 |B::l,0,A,h=>by simp at h;subst h;rfl
 |B::l,i+1,A,h=>by
  have h:l[i]? =some A:=Pw
  show Re B (Lt l)=Re A (Re B (Lt (l.take i++l.drop (i+1))))
  rw[AT4 l i A h,<-Ix,<-Ix,PD B A]
def Bs4{l:Up Lg}{i:Nat}(A:Lg)(h:i<l.length):Lt (l.set i A)=Re A (Lt (l.take i++l.drop (i+1))):=by
 rw[AT4 (l.set i A) i A (by rw[Pi h])]
 congr 2
 rw[List.take_set,List.drop_set,A2 AY,List.set_eq_of_length_le Ts]
def ZB (x:B0)(A:Lg):Lg:=λw=>A (x::w)
def Bb0{A B:Lg}(h:¬A [])(x:B0):ZB x (cat A B)=cat (ZB x A) B:=JP λw=>by
 constructor
 ·rintro⟨u,v,e,a,b⟩
  cases u with
  |nil=>simp_all
  |cons y u=>simp at e;obtain⟨rfl,rfl⟩:=e;exact⟨u,v,rfl,a,b⟩
 rintro⟨u,v,rfl,a,b⟩;exact⟨x::u,v,rfl,a,b⟩
def BI3{A B:Lg}(x:B0)(w:Up B0):Re A B (x::w)<->Re (ZB x A) B w\/Re A (ZB x B) w:=by
 constructor
 ·rintro⟨u,v,h,a,b⟩
  cases h with
  |left h=>exact .inl ⟨_,_,h,a,b⟩
  |right h=>exact .inr ⟨_,_,h,a,b⟩
 rintro(⟨u,v,h,a,b⟩|⟨u,v,h,a,b⟩)
 ·exact⟨_,_,.left h,a,b⟩
 exact⟨_,_,.right h,a,b⟩
def Xg (x:B0):∀(l:Up Lg) (w:Up B0),Lt l (x::w)<->∃(i:Nat) (A:Lg),l[i]? =some A/\Re (ZB x A) (Lt (l.take i++l.drop (i+1))) w
 |[],w=>⟨λh=>absurd (show x::w=[]from h) OC,λ⟨i,A,h,_⟩=>(by simp at h)⟩
 | B::l,w=>by
  show Re B (Lt l) (x::w)<->_
  rw[BI3]
  constructor
  ·rintro(h|⟨u,v,h,a,b⟩)
   ·exact⟨0,B,rfl,h⟩
   have⟨i,A,U,e⟩:=(Xg x l v).1 b;refine⟨i+1,A,Pw,?_⟩
   show Re (ZB x A) (Re B (Lt (l.take i++l.drop (i+1)))) w
   rw[<-Ix,PD _ B,Ix];exact⟨u,v,h,a,e⟩
  rintro⟨i,A,U,e⟩
  cases i with
  |zero=>simp_all
  |succ i=>
   have U:l[i]? =some A:=Pw
   have e:Re (ZB x A) (Re B (Lt (l.take i++l.drop (i+1)))) w:=e
   rw[<-Ix,PD _ B,Ix]at e
   have⟨u,v,h,a,b⟩:=e;exact .inr ⟨u,v,h,a,(Xg x l v).2 ⟨i,A,U,b⟩⟩
def BK5{A:Lg}(i:¬A [])(x:B0)(w:Up B0):Pls A (x::w)<->ZB x A w\/cat (ZB x A) (Pls A) w:=by
 constructor
 ·intro h
  generalize e:x::w=z at h
  induction h with
  |one a=>subst e;exact .inl a
  |@more u v a b _=>
   cases u with
   |nil=>simp_all
   |cons y u=>simp at e;obtain⟨rfl,rfl⟩:=e;exact .inr ⟨u,v,rfl,a,b⟩
 rintro(h|⟨u,v,rfl,a,b⟩)
 ·exact .one h
 exact .more (u:=x::u) a b
def BK4{A:Lg}(i:¬A []):¬Pls A []:=by
 intro h
 generalize e:([]:Up B0)=z at h
 induction h with
 |one a=>simp_all
 |@more u v a b ih=>exact ih (List.append_eq_nil_iff.1 e.symm).2.symm
abbrev Ij:=Int->Int->A8->B0->Prop
def VA (T:Ij)(h i var:Int)(c:A8)(e:Up Lg):Lg:=λw=>
 if h=0 then∃x,w=[x]/\T i var c x
 else if h=1 then Bm5 e w
 else if h=2 then∃A∈e,A w
 else if h=3 then Lt e w
 else if h=4 then Pls (e.headD Ze) w
 else if h=8 then(e.headD Ze) w\/cat (e.headD Ze) (Pls ((e.drop 1).headD Ze)) w
 else False
mutual
def Am (T:Ij):A0->Lg
 |⟨h,args,e,var,_,_,c⟩=>VA T h e var c (Bc1 T args)
def Bc1 (T:Ij):Up A0->Up Lg
 |[]=>[]
 |a::l=>Am T a::Bc1 T l
end
section
variable (T:Ij)
def Ab8:∀l:Up A0,Bc1 T l=l.map (Am T)
 |[]=>rfl
 |a::l=>by simp[Bc1,Ab8 l]
def QJ (p:A0):Am T p=VA T p.Op p.Typ p.Var p.dU (p.dT.map (Am T)):=by cases p;simp only[Am,Ab8]
def AY7(h:p.Op=0)(w:Up B0):Am T p w<->∃x,w=[x]/\T p.Typ p.Var p.dU x:=by
 rw[QJ T];unfold VA;rw[A2 h]
def SZ(h:p.Op=1):Am T p=Bm5 (p.dT.map (Am T)):=by
 rw[QJ T];unfold VA;funext w;rw[A1 AY,A2 h]
def AY6(h:p.Op=2)(w:Up B0):Am T p w<->∃q∈p.dT,Am T q w:=by
 rw[QJ T];unfold VA;rw[A1 AY,A1 AY,A2 h]
 constructor
 ·rintro⟨A,e,h⟩;obtain⟨q,c,rfl⟩:=List.mem_map.1 e;grind
 rintro⟨q,c,h⟩;exact⟨_,GW c,h⟩
def SY(h:p.Op=3):Am T p=Lt (p.dT.map (Am T)):=by
 rw[QJ T];unfold VA;funext w;rw[A1 AY,A1 AY,A1 AY,A2 h]
def XZ{q:A0}(h:p.Op=4)(u:p.dT=[q]):Am T p=Pls (Am T q):=by
 rw[QJ T];unfold VA;funext w;rw[A1 AY,A1 AY,A1 AY,A1 AY,A2 h,u];rfl
def VC{q b:A0}(h:p.Op=8)(u:p.dT=[q,b])(w:Up B0):Am T p w<->Am T q w\/cat (Am T q) (Pls (Am T b)) w:=by
 rw[QJ T];unfold VA;rw[A1 AY,A1 AY,A1 AY,A1 AY,A1 AY,A2 h,u];rfl
def XY{l:Up A0}(h:l≠[]):Am T (DP 1 l)=Bm5 (l.map (Am T)):=by
 unfold DP
 split
 ·exact(Am2 _).symm
 exact SZ T rfl
def AL1 (l:Up A0):Am T (DP 3 l)=Lt (l.map (Am T)):=by
 unfold DP
 split
 ·exact(Wi _).symm
 exact SY T rfl
end
end Go.Ab
namespace Go.Ab
inductive NM :A0->Prop
 |ev {p:A0}:p.Op=0->NM p
 |seq {p:A0}:p.Op=1->p.dT≠[]->(∀q∈p.dT,NM q)->NM p
 |alt {p:A0}:p.Op=2->(∀q∈p.dT,NM q)->NM p
 |all {p:A0}:p.Op=3->2<=p.dT.length->(∀q∈p.dT,NM q)->NM p
 |plus {p q:A0}:p.Op=4->p.dT=[q]->NM q->NM p
 |more {p q b:A0}:p.Op=8->p.dT=[q,b]->NM q->NM b->NM p
def Ba9 {A B:Lg}(h:¬A []):¬cat A B []:=λ⟨u,v,e,a,_⟩=>by
 have:=(List.append_eq_nil_iff.1 e.symm).1
 rw[this]at a;exact h a
def BI2 {A B:Lg}(h:¬A []):¬Re A B []:=λ⟨u,v,e,a,_⟩=>by
 cases e;exact h a
def NM.nil (T:Ij) {p:A0} (h:NM p):¬Am T p []:=by
 induction h with
 |ev h=>rw[AY7 T h];simp_all
 |@seq p h E _ ih=>
  rw[SZ T h]
  cases u:p.dT with
  |nil=>simp_all
  |cons q r=>exact Ba9 (ih q (by simp[u]))
 |alt h _ ih=>rw[AY6 T h];simp_all
 |@all p h E _ ih=>
  rw[SY T h]
  cases u:p.dT with
  |nil=>rw[u]at E;simp at E
  |cons q r=>exact BI2 (ih q (by simp[u]))
 |plus h u _ ih=>rw[XZ T h u];exact BK4 ih
 |more h u _ _ ih _=>
  rw[VC T h u];rintro(h|h)
  ·exact ih h
  exact Ba9 ih h
section
variable (T:Ij)
def UO (r:A7):Lg:=if r.done=true then Ze else Am T r.p
def efit (e:C5)(x:B0):Prop:=T e.Typ e.Var e.dU x
def Ni (l:Up Pr)(x:B0):Lg:=λw=>∃y∈l,efit T y.1 x/\UO T y.2 w
def AU3 (r:A7) (more:Up A0):UO T (HX r more)=cat (UO T r) (Bm5 (more.map (Am T))):=by
 unfold HX UO
 cases Q:r.done with
 |true=>
  simp only[B4,BP7]
  cases more with
  |nil=>rfl
  |cons a l=>exact XY T OC
 |false=>
  simp only[D4,B6];exact XY T OC
def AU2 {args:Up A0} {i:Nat} (r:A7) (h:i<args.length):UO T (Mv args i r)=Re (UO T r) (Lt ((args.map (Am T)).take i++(args.map (Am T)).drop (i+1))):=by
 unfold Mv UO;simp only[D4,B6];rw[AL1 T]
 cases Q:r.done with
 |true=>
  simp only[B4];rw[PD,Wi,P8,LI,LJ]
 |false=>
  simp only[D4,B6];rw[OP,Bs4 _ Pw]
def BP9 {p:A0} (h:NM p) (x:B0):ZB x (Am T p)=Ni T (raw p) x:=by
 induction h with
 |@ev p h=>
  refine JP λw=>?_;unfold ZB Ni;rw[AY7 T h,Ea p];unfold comb;rw[A2 h]
  constructor
  ·rintro⟨z,e,k⟩;cases e;exact⟨_,List.mem_singleton.2 rfl,k,rfl⟩
  rintro⟨y,I,k,Q⟩
  rw[Bm]at I
  subst I;have:w=[]:=Q;subst this;exact⟨x,rfl,k⟩
 | @seq p h E c ih=>
  cases n:p.dT with
  |nil=>simp_all
  |cons q r=>
   have V:=(c q (by simp[n])).nil T;rw[SZ T h,n,D2]
   show ZB x (cat (Am T q) (Bm5 (r.map (Am T))))=_
   rw[Bb0 V,ih q (by simp[n])];refine JP λw=>?_;rw[Ea p];unfold comb;rw[A1 AY,A2 h,n];unfold Ni;simp only[D2,GS,Jq,CA]
   constructor
   ·rintro⟨u,v,rfl,⟨y,I,k,Q⟩,j⟩;exact⟨_,GW I,k,by rw[AU3 T];exact⟨u,v,rfl,Q,j⟩⟩
   rintro⟨z,Y,k,Q⟩;obtain⟨y,I,rfl⟩:=List.mem_map.1 Y
   rw[AU3 T]at Q
   obtain⟨u,v,rfl,O,Z⟩:=Q;exact⟨u,v,rfl,⟨y,I,k,O⟩,Z⟩
 | @alt p h c ih=>
  refine JP λw=>?_;unfold ZB;rw[AY6 T h,Ea p];unfold comb;rw[A1 AY,A1 AY,A2 h];unfold Ni
  constructor
  ·rintro⟨q,K,m⟩;have e:=congrFun (ih q K) w
   have m:Ni T (raw q) x w:=by rw[<-e];exact m
   have⟨y,I,k,Q⟩:=m;obtain⟨i,U,rfl⟩:=R4 K;exact⟨y,List.mem_flatMap.2 ⟨i,List.mem_range.2 U,TQ⟩,k,Q⟩
  rintro⟨y,I,k,Q⟩;have⟨i,_,I⟩:=List.mem_flatMap.1 I;have⟨q,K,I⟩:=HI I;refine⟨q,K,?_⟩;have e:=congrFun (ih q K) w
  show ZB x (Am T q) w
  rw[e];exact⟨y,I,k,Q⟩
 | @all p h E c ih=>
  refine JP λw=>?_;unfold ZB;rw[SY T h,Xg,Ea p];unfold comb;rw[A1 AY,A1 AY,A1 AY,A2 h];unfold Ni
  constructor
  ·rintro⟨i,A,P,m⟩
   rw[Y1]at P
   cases U:p.dT[i]? with
   |none=>rw[U]at P;cases P
   | some q=>
    rw[U]at P
    cases P;have H:=(List.getElem?_eq_some_iff.1 U).1
    rw[ih q (K4 U)]at m
    have⟨u,v,G,⟨y,I,k,Q⟩,j⟩:=m
    refine⟨_,List.mem_flatMap.2 ⟨i,List.mem_range.2 H,GW (a:=y) (by
     simp_all)⟩,k,?_⟩
    rw[AU2 T _ H];exact⟨u,v,G,Q,j⟩
  rintro⟨z,Y,k,Q⟩;have⟨i,U,Y⟩:=List.mem_flatMap.1 Y;obtain⟨y,I,rfl⟩:=List.mem_map.1 Y;have H:=List.mem_range.1 U
  rw[AU2 T _ H]at Q
  have⟨u,v,G,O,Z⟩:=Q
  have I:y∈raw p.dT[i]:=TQ
  refine⟨i,Am T p.dT[i],by rw[Y1,D9 H];rfl,u,v,G,?_,Z⟩;rw[ih _ (I9 H)];exact⟨y,I,k,O⟩
 | @plus p q h n c ih=>
  refine JP λw=>?_;unfold ZB;rw[XZ T h n,BK5 (c.nil T),ih,Ea p];unfold comb;rw[A1 AY,A1 AY,A1 AY,A1 AY,A2 h,n];simp only[D2,G8,GS];have f:Am T p=Pls (Am T q):=XZ T h n
  constructor
  ·rintro(⟨y,I,k,Q⟩|⟨u,v,rfl,⟨y,I,k,Q⟩,j⟩)
   ·unfold UO at Q
    cases hd:y.2.done with
    |true=>
     rw[hd]at Q
     exact zaq
    |false=>
     rw[hd]at Q
     refine⟨(y.1,⟨false,nd 8 [y.2.p,q]⟩),List.mem_flatMap.2 ⟨y,I,by unfold OA;rw[A1 (by simp[hd]),n];simp⟩,k,?_⟩;unfold UO
     simp only[D4,B6]at Q ⊢
     exact(VC T (p:=nd 8 [y.2.p,q]) rfl rfl w).2 (.inl Q)
   unfold UO at Q
   cases hd:y.2.done with
   |true=>
    rw[hd]at Q
    have:u=[]:=Q;subst this;refine⟨(y.1,⟨false,p⟩),List.mem_flatMap.2 ⟨y,I,by unfold OA;rw[A2 hd];simp⟩,k,?_⟩;unfold UO
    simp_all
   |false=>
    rw[hd]at Q
    refine⟨(y.1,⟨false,nd 8 [y.2.p,q]⟩),List.mem_flatMap.2 ⟨y,I,by unfold OA;rw[A1 (by simp[hd]),n];simp⟩,k,?_⟩;unfold UO
    simp only[D4,B6]at Q ⊢
    exact(VC T (p:=nd 8 [y.2.p,q]) rfl rfl _).2 (.inr ⟨u,v,rfl,Q,j⟩)
  rintro⟨z,Y,k,Q⟩;have⟨y,I,Y⟩:=List.mem_flatMap.1 Y
  unfold OA at Y
  cases hd:y.2.done with
  |true=>
   rw[A2 hd]at Y
   rcases List.mem_cons.1 Y with rfl|Y
   ·exact .inl ⟨z,I,k,Q⟩
   rw[Bm]at Y
   subst Y;have Q:Am T p w:=Q
   rw[f]at Q
   exact zbt
  |false=>
   rw[A1 (by simp[hd]),n]at Y
   rw[Bm]at Y
   subst Y;have Q:Am T (nd 8 [y.2.p,q]) w:=Q
   rcases(VC T (p:=nd 8 [y.2.p,q]) rfl rfl w).1 Q with O|⟨u,v,rfl,O,Z⟩
   ·exact zch
   exact zbh
 | @more p q b h n c W ih _=>
  refine JP λw=>?_;unfold ZB;rw[VC T h n,Ea p];unfold comb;rw[A1 AY,A1 AY,A1 AY,A1 AY,A1 AY,A2 h,n];simp only[D2,G8,GS,Jq,CA];have f:Am T (nd 4 [b])=Pls (Am T b):=XZ T rfl rfl
  have d:∀u,Am T q (x::u)<->Ni T (raw q) x u:=λu=>by rw[<-ih];rfl
  have e2:cat (Am T q) (Pls (Am T b)) (x::w)<->cat (Ni T (raw q) x) (Pls (Am T b)) w:=by
   rw[<-ih,<-Bb0 (c.nil T)];rfl
  rw[d,e2]
  constructor
  ·rintro(⟨y,I,k,Q⟩|⟨u,v,rfl,⟨y,I,k,Q⟩,j⟩)
   ·unfold UO at Q
    cases hd:y.2.done with
    |true=>
     rw[hd]at Q
     exact zaq
    |false=>
     rw[hd]at Q
     refine⟨(y.1,⟨false,nd 8 [y.2.p,b]⟩),List.mem_flatMap.2 ⟨y,I,by unfold OA;rw[A1 (by simp[hd])];simp[nd]⟩,k,?_⟩;unfold UO
     simp only[D4,B6]at Q ⊢
     exact(VC T (p:=nd 8 [y.2.p,b]) rfl rfl w).2 (.inl Q)
   unfold UO at Q
   cases hd:y.2.done with
   |true=>
    rw[hd]at Q
    have:u=[]:=Q;subst this;refine⟨(y.1,⟨false,nd 4 [b]⟩),List.mem_flatMap.2 ⟨y,I,by unfold OA;rw[A2 hd];simp⟩,k,?_⟩;unfold UO
    simp_all
   |false=>
    rw[hd]at Q
    refine⟨(y.1,⟨false,nd 8 [y.2.p,b]⟩),List.mem_flatMap.2 ⟨y,I,by unfold OA;rw[A1 (by simp[hd])];simp[nd]⟩,k,?_⟩;unfold UO
    simp only[D4,B6]at Q ⊢
    exact(VC T (p:=nd 8 [y.2.p,b]) rfl rfl _).2 (.inr ⟨u,v,rfl,Q,j⟩)
  rintro⟨z,Y,k,Q⟩;have⟨y,I,Y⟩:=List.mem_flatMap.1 Y
  unfold OA at Y
  cases hd:y.2.done with
  |true=>
   rw[A2 hd]at Y
   rcases List.mem_cons.1 Y with rfl|Y
   ·exact .inl ⟨z,I,k,Q⟩
   rw[Bm]at Y
   subst Y;have Q:Am T (nd 4 [b]) w:=Q
   rw[f]at Q
   exact zbt
  |false=>
   rw[A1 (by simp[hd])]at Y
   have Y:z∈[(y.1,(⟨false,nd 8 [y.2.p,b]⟩:A7))]:=Y
   rw[Bm]at Y
   subst Y;have Q:Am T (nd 8 [y.2.p,b]) w:=Q
   rcases(VC T (p:=nd 8 [y.2.p,b]) rfl rfl w).1 Q with O|⟨u,v,rfl,O,Z⟩
   ·exact zch
   exact zbh
end
def Av8 {l:Up A0}(hl:l≠[])(h:∀q∈l,NM q):NM (DP 1 l):=by
 unfold DP
 split
 ·simp_all
 exact .seq rfl hl h
def Av7 {l:Up A0}(hl:l≠[])(h:∀q∈l,NM q):NM (DP 3 l):=by
 unfold DP
 split
 ·simp_all
 next E=>
 refine .all rfl ?_ h
 show 2<=l.length
 match l,hl,E with
 |[x],_,E=>simp_all
 |_::_::_,_,_=>simp
def NR (r:A7):Prop:=r.done=false->NM r.p
def Bv1 {a b:A0}{y z:Pr}(u:a.dT=[b])(O:NM a)(Z:NM b)(I:NR y.2)(Y:z∈OA a y):NR z.2:=by
 unfold OA at Y
 intro hd
 split at Y
 ·grind
 next h=>
 rw[u]at Y
 have Y:z∈[(y.1,(⟨false,nd 8 [y.2.p,b]⟩:A7))]:=Y
 rw[Bm]at Y;subst Y
 exact .more rfl rfl (I Pw) Z
def BI8 {p:A0} (h:NM p):∀y∈raw p,NR y.2:=by
 induction h with
 |@ev p h=>
  intro y I
  rw[Ea p]at I
  unfold comb at I
  rw[A2 h,Bm]at I
  subst I;intro hd;cases hd
 | @seq p h E c ih=>
  intro z Y
  rw[Ea p]at Y
  unfold comb at Y
  rw[A1 AY,A2 h]at Y
  cases u:p.dT with
  |nil=>simp_all
  | cons q r=>
   rw[u]at Y
   simp only[D2,GS,Jq,CA]at Y
   obtain⟨y,I,rfl⟩:=List.mem_map.1 Y;have Q:∀x∈r,NM x:=λx M=>c x (by rw[u];simp_all);have k:=ih q (by simp[u]) y I
   show NR (HX y.2 r)
   unfold HX
   cases hd:y.2.done with
   |true=>
    simp only[B4]
    cases r with
    |nil=>intro hd;cases hd
    |cons a l=>intro _;exact Av8 OC Q
   |false=>
    simp only[D4,B6];intro _;refine Av8 OC λx M=>?_
    rcases List.mem_cons.1 M with rfl|M
    ·exact k hd
    simp_all
 |@alt p h c ih=>
  intro z Y
  rw[Ea p]at Y
  unfold comb at Y
  rw[A1 AY,A1 AY,A2 h]at Y
  grind
 | @all p h E c ih=>
  intro z Y
  rw[Ea p]at Y
  unfold comb at Y
  rw[A1 AY,A1 AY,A1 AY,A2 h]at Y
  have⟨i,U,Y⟩:=List.mem_flatMap.1 Y;obtain⟨y,I,rfl⟩:=List.mem_map.1 Y;have v:=List.mem_range.1 U;have⟨q,n,I⟩:=HI I;have k:=ih q n y I
  show NR (Mv p.dT i y.2)
  unfold Mv;intro _
  cases hd:y.2.done with
  | true=>
   simp only[B4];refine Av7 (λe=>?_) λx M=>?_
   ·have:=J8 List.length e
    rw[N1,EV,List.length_drop,BV]at this;omega
   grind
  | false=>
   simp only[D4,B6];refine Av7 (λe=>?_) λx M=>?_
   ·have:=J8 List.length e
    simp_all
   rcases Po M with M|rfl
   ·grind
   exact k hd
 |@plus p q h u c ih=>
  intro z Y
  rw[Ea p]at Y
  unfold comb at Y
  rw[A1 AY,A1 AY,A1 AY,A1 AY,A2 h,u]at Y
  simp only[D2,G8,GS]at Y
  have⟨y,I,Y⟩:=List.mem_flatMap.1 Y;exact Bv1 u (.plus h u c) c (ih y I) Y
 |@more p q b h u c W ih _=>
  intro z Y
  rw[Ea p]at Y
  unfold comb at Y
  rw[A1 AY,A1 AY,A1 AY,A1 AY,A1 AY,A2 h,u]at Y
  simp only[D2,G8,GS,Jq,CA]at Y
  have⟨y,I,Y⟩:=List.mem_flatMap.1 Y;exact Bv1 (b:=b) rfl (.plus rfl rfl W) W (ih y I) Y
end Go.Ab
namespace Go.Ab
noncomputable section
end
end Go.Ab
namespace Go.Ab
open Classical
noncomputable section
variable{N i:Nat}{f:Int}{l:Up B0}{p:A0}{α:Type}
abbrev BD:=A3
abbrev PR:=FU
def pr (b:BD):PR:=⟨b.eF,b.at_⟩
def SD (b:PR):BD:=⟨b.Var,b.At⟩
def BK3 (b:PR):pr (SD b)=b:=rfl
def AS4 (b:BD):SD (pr b)=b:=rfl
abbrev O8 (s:Up BD):Up PR:=s.map pr
def Ak (s:Up PR):O8 (s.map SD)=s:=by rw[O8,Bk];exact(BW λx _=>BK3 x).trans (List.map_id s)
def BX8{a b:BD}(h:pr a=pr b):a=b:=by have:=J8 SD h;simpa[AS4]using this
def QB{a b:Up BD}(h:O8 a=O8 b):a=b:=(List.map_inj_right (λ_ _ h=>BX8 h)).1 h
def mrg:Up PR->Up PR->Up PR
 |[],b=>b
 |x::a,[]=>x::a
 |x::a,y::b=>if x.At<y.At then x::mrg a (y::b)else y::mrg (x::a) b
 termination_by a b=>a.length+b.length
def Mt (b:Up PR):mrg [] b=b:=by unfold mrg;rfl
def PW (a:Up PR):mrg a []=a:=by cases a<;>(unfold mrg;rfl)
def Np (x y:PR)(a b:Up PR):mrg (x::a) (y::b)=if x.At<y.At then x::mrg a (y::b)else y::mrg (x::a) b:=by rw[mrg]
def PV:∀(n:Nat) (a b:Up PR),a.length+b.length<=n->(mrg a b).Perm (a++b)
 |_,[],b,_=>by rw[Mt];exact .refl _
 |_,x::a,[],_=>by rw[PW];simp
 |0,x::a,y::b,h=>by simp at h
 |n+1,x::a,y::b,h=>by
  simp only[K8]at h
  rw[Np]
  split
  ·exact(PV n a (y::b) Ts).cons x
  exact((PV n (x::a) b Ts).cons y).trans (List.perm_middle.symm)
def IX{a b:Up PR}{x:PR}:x∈mrg a b<->x∈a\/x∈b:=by rw[(PV _ a b (C6 _)).mem_iff,BU]
def AX0 (a b:Up PR):(mrg a b).length=a.length+b.length:=by rw[(PV _ a b (C6 _)).length_eq,N1]
def Tf (a:Up PR):Prop:=a.Pairwise λx y=>x.At<y.At
def Io (a b:Up PR):Prop:=∀x∈a,∀y∈b,x.At≠y.At
def Ws:∀(n:Nat) {a b:Up PR},a.length+b.length<=n->Tf a->Tf b->Io a b->Tf (mrg a b)
 |_,[],b,_,_,W,_=>by rw[Mt];exact W
 |_,x::a,[],_,e,_,_=>by rw[PW];exact e
 |0,x::a,y::b,h,_,_,_=>by simp at h
 | n+1,x::a,y::b,h,e,W,hd=>by
  simp only[K8]at h
  unfold Tf at e W
  rw[KM]at e W
  rw[Np];have r:=hd x OC y OC
  split
  ·rename_i i;refine List.pairwise_cons.2 ⟨λz Y=>?_,Ws n Ts e.2 (List.pairwise_cons.2 W) λu k v j=>hd u (by simp[k]) v j⟩
   rcases IX.1 Y with Y|Y
   ·exact e.1 z Y
   rcases List.mem_cons.1 Y with rfl|Y
   ·exact i
   have:=W.1 z Y;omega
  rename_i i;refine List.pairwise_cons.2 ⟨λz Y=>?_,Ws n Ts (List.pairwise_cons.2 e) W.2 λu k v j=>hd u k v (by simp[j])⟩
  rcases IX.1 Y with Y|Y
  ·rcases List.mem_cons.1 Y with rfl|Y
   ·omega
   have:=e.1 z Y;omega
  exact W.1 z Y
def RM:∀{a b:Up PR},(∀x∈a,∀y∈b,x.At<y.At)->mrg a b=a++b
 |[],b,_=>Mt b
 |x::a,[],_=>by rw[PW,F2]
 |x::a,y::b,h=>by
  rw[Np,A2 (h x OC y OC),RM λu e v j=>h u (by simp[e]) v j];rfl
def WO(x:α)(l:Up α):Dc (x::l) (some 1) none none=some l:=by
 unfold Dc;rw[A2 Ts];simp
def InS (n:Int)(s:Up PR):Prop:=∀x∈s,0<=x.At/\x.At<n
def Qh{a b:Int}(L: -9223372036854775808<=a-b)(O:a-b<9223372036854775808):ar .sub .i64 a b=a-b:=Bt L O
def Te{a b:Up BD}{n:Int}(E:n<=1000000)(h:a.length<=1000000)(i:b.length<=1000000)(u:Tf (O8 a))(W:Tf (O8 b))(hd:Io (O8 a) (O8 b))(r:InS n (O8 a))(v:InS n (O8 b)):
 ∃c,X7 N a b=some c/\O8 c=mrg (O8 a) (O8 b):=by
 refine⟨(mrg (O8 a) (O8 b)).map SD,?_,Ak _⟩;unfold X7
 have O:YZ 0 (ar .add .i64 (Ar.len a) (Ar.len b)) (⟨0,0⟩:BD)=some []:=by
  rw[A9,A9,E6 AY AY];unfold YZ;rw[A2 AY];rfl
 rw[O];simp only[A4];rw[T6 Ts];simp only[A4,K3];rw[T6 AY];simp only[A4];have p:=Ws _ (C6 _) u W hd;have e:∀x∈mrg (O8 a) (O8 b),0<=x.At/\x.At<n:=λx M=>(IX.1 M).elim (r x) (v x)
 have G:Pz (λw H=>Iy N w H) (a++b)=some ((mrg (O8 a) (O8 b)).map SD):=by
  refine Aq4 ?_ (GY.2 ⟨?_,?_⟩) Ts
  ·have:=(PV _ (O8 a) (O8 b) (C6 _)).map SD;refine this.trans (List.Perm.of_eq ?_);rw[<-P8,Bk];exact(BW λx _=>AS4 x).trans (List.map_id _)
  ·intro x _
   show(match some (ar .sub .i64 x.at_ x.at_)with|some c=>decide (0<=c)|none=>false)=true
   rw[Qh AY AY];simp
  rw[GU];refine Pn (λ{x y} M I k=>?_) p;have:=e x M;have:=e y I
  constructor
  ·show(match some (ar .sub .i64 x.At y.At)with|some c=>decide (c<0)|none=>false)=true
   rw[Qh AY AY];simp;omega
  show(match some (ar .sub .i64 y.At x.At)with|some c=>decide (0<=c)|none=>false)=true
  rw[Qh AY AY];simp;omega
 rw[G];rfl
def Zs (s:Up PR)(i:Int):Bool:=s.any λx=>decide (x.At=i)
def Ur (a b:Up PR):Bool:=a.any λx=>Zs b x.At
def Ak7{s:Up PR}{i:Int}:Zs s i=true<->∃x∈s,x.At=i:=by simp[Zs]
def Aa6{a b:Up PR}:Ur a b=false<->Io a b:=by
 unfold Ur Io;rw[GT]
 constructor
 ·intro h x M y I e;exact h x M (Ak7.2 ⟨y,I,e.symm⟩)
 intro h x M d;have⟨y,I,e⟩:=Ak7.1 d;exact h x M y I e.symm
def EE{l:Up α}{i:Int}(h:i<l.length):cmp .lss i (Ar.len l)=true:=Ks h
def Gr{l:Up α}:¬cmp .lss (l.length:Int) (Ar.len l)=true:=Gc (Int.lt_irrefl _)
def XS{A B:Type}{l:Up α}(hl:l.length<N)(hN:l.length<1000000000){step:Int->OS (Int⊕(A⊕B))}(P:α->Bool)(u:A)(r:Int->B)
 (e:∀(i:Nat) x,l[i]? =some x->(i:Int)<l.length->step i=some (if P x=true then .inr (.inr (r i))else .inl ((i:Int)+1)))
 (v:step (l.length:Int)=some (.inr (.inl u))):∃i,loopN step N 0=some (if l.any P=true then .inr (r i)else .inl u)/\0<=i:=by
 have key:∀(k i n:Nat),i+k=l.length->k<n->∃j,loopN step n (i:Int)=some (if(l.drop i).any P=true then .inr (r j)else .inl u)/\0<=j:=by
  intro k
  induction k with
  |zero=>
   intro i n U E;obtain⟨n,rfl⟩:∃m,n=m+1:=⟨n-1,AY⟩;refine⟨0,?_,AY⟩;rw[DU AY,show(i:Int)=l.length by omega];simp[loopN,v]
  | succ k ih=>
   intro i n U E;obtain⟨n,rfl⟩:∃m,n=m+1:=⟨n-1,AY⟩
   have w:i<l.length:=AY
   have⟨j,h,z⟩:=ih (i+1) n AY AY;rw[P1 w,GP];have G:=e i l[i] (by simp[w]) AY
   by_cases f:P l[i]=true
   ·refine⟨i,?_,AY⟩
    rw[A2 f]at G
    simp[loopN,G,f]
   refine⟨j,?_,z⟩
   rw[A1 f]at G
   simp only[loopN,G];rw[show((i:Int)+1)=((i+1:Nat):Int) by omega,h];simp[f]
 have⟨j,h,z⟩:=key l.length 0 N AY hl;exact⟨j,by simpa using h,z⟩
def Ab0{l:Up α}{step:Int->OS (Int⊕(Unit⊕Unit))}(P:α->Bool)(hl:l.length<N)(hN:l.length<1000000000)
 (e:∀(i:Nat) x,l[i]? =some x->(i:Int)<l.length->step i=some (if P x=true then .inr (.inr ())else .inl ((i:Int)+1)))
 (k:step (l.length:Int)=some (.inr (.inl ()))):loopN step N 0=some (if l.any P=true then .inr ()else .inl ()):=by
 have⟨_,h,_⟩:=XS hl hN P () (λ_=>()) e k;exact h
def Aa9{S σ R:Type}{L:Up α}{step:S->OS (S⊕R)}(mk:σ->Int->S)(g:σ->α->σ)(fin:σ->R)(Inv:Nat->σ->Prop){s0:σ}(hN:L.length<N)(hl:L.length<1000000000)(n:Inv 0 s0)
 (G:∀s (i:Nat) x,L[i]? =some x->(i:Int)<L.length->x∈L->ar .add .i64 (i:Int) 1=i+1->Inv i s->step (mk s i)=some (.inl (mk (g s x) ((i:Int)+1)))/\Inv (i+1) (g s x))(r:∀s,step (mk s L.length)=some (.inr (fin s))):loopN step N (mk s0 0)=some (fin (L.foldl g s0))/\Inv L.length (L.foldl g s0):=by
 have key:∀(k i N:Nat) (s:σ),i+k=L.length->k<N->Inv i s->loopN step N (mk s (i:Int))=some (fin ((L.drop i).foldl g s))/\Inv L.length ((L.drop i).foldl g s):=by
  intro k
  induction k with
  |zero=>
   intro i N s U hN X;obtain⟨N,rfl⟩:∃m,N=m+1:=⟨N-1,AY⟩
   have e:i=L.length:=AY
   subst e;rw[Ji];exact⟨by simp[loopN,r],X⟩
  |succ k ih=>
   intro i N s U hN X;obtain⟨N,rfl⟩:∃m,N=m+1:=⟨N-1,AY⟩
   have h:i<L.length:=AY
   have⟨O,Z⟩:=G s i L[i] (by simp[h]) AY (I9 h) (E6 AY AY) X;rw[P1 h];simp only[loopN,O];exact ih (i+1) N _ AY AY Z
 simpa using key L.length 0 N s0 AY hN n
def Tx(hN:TB N){s:Up BD}(hl:s.length<=1000000){f:BD->OS Bool}{P:BD->Bool}(q:∀x∈s,f x=some (P x)):S5 N s f=some (s.any P):=by
 unfold S5 BY
 have⟨j,h,z⟩:=XS (N:=N) (l:=s) AY AY (A:=Unit) (B:=Int) (step:=(λ(k:Int)=>
  (
   if cmp .lss k (Ar.len s)=true then
    (C4 s k).bind λr=>
    (f r).bind λn=>
    if n=true then
     some (.inr (.inr k))
    else
     some (.inl (ar .add .i64 k 1))
   else
    some (.inr (.inl ()))
   :OS ((Int)⊕(Unit⊕Int))))) P () (λi=>i) (λi x M U=>by
  have e:ar .add .i64 (i:Int) 1=i+1:=E6 AY AY;simp only[B8,A9,U,H8,B4,F3,M,A4,e,q x (K4 M)]
  split<;>rfl) (by simp[B8,A9])
 rw[h]
 by_cases u:s.any P=true
 ·rw[A2 u,u];simp only[A4,O0,I8 z]
 rw[A1 u];simp only[A4,O0]
 rw[EK]at u
 rw[u];rfl
def AT5(hN:TB N){s:Up BD}(hl:s.length<=1000000)(i:Int):CC N s i=some (Zs (O8 s) i):=by
 unfold CC;rw[Tx hN hl (f:=λe=>Dh N e i) (P:=λx=>decide (x.at_=i)) λx _=>rfl];simp only[A4,Zs,O8,List.any_map];rfl
def Bd7(hN:TB N){a b:Up BD}(u:a.length<=1000000)(W:b.length<=1000000):Gl N a b=some (Ur (O8 a) (O8 b)):=by
 unfold Gl;rw[Tx hN u (P:=λx=>Zs (O8 b) x.at_) λx _=>by unfold EC;rw[AT5 hN W];rfl];simp only[A4,Ur,O8,List.any_map];rfl
def Kd (s:Up PR):Int:=match s with|[]=>0|x::_=>x.At
def FD (s:Up PR):Int:=match s.getLast? with|none=>0|some x=>x.At
def Bz6{l:Up α}(h:l≠[])(hl:l.length<=1000000):C4 l (ar .sub .i64 (Ar.len l) 1)=l.getLast? :=by
 rcases EO l with rfl|⟨q,y,rfl⟩
 ·exact absurd rfl h
 rw[EN]at *
 have e:ar .sub .i64 (Ar.len (q++[y])) 1=(q.length:Int):=by
  have:ar .sub .i64 (Ar.len (q++[y])) 1=Ar.len (q++[y])-1:=Qh (by rw[A9];omega) (by rw[A9];omega);rw[this,A9];simp
 rw[e,F3];simp
def Nv{s:Up PR}(h:s≠[]):∃x,s.getLast? =some x/\x∈s/\FD s=x.At:=by
 cases G:s.getLast? with
 |none=>exact absurd (List.getLast?_eq_none_iff.1 G) h
 |some x=>exact⟨x,rfl,List.mem_of_getLast? G,by simp[FD,G]⟩
def Aq7{s:Up BD}(h:s≠[])(hl:s.length<=1000000):Y3 N s=some (FD (O8 s)):=by
 unfold Y3;rw[Bz6 h hl];unfold FD;rw[O8,List.getLast?_map]
 cases G:s.getLast? with
 |none=>exact absurd (List.getLast?_eq_none_iff.1 G) h
 |some x=>rfl
def Td(x:α)(l:Up α):C4 (x::l) 0=some x:=rfl
def QL{s:Up PR}(u:Tf s):∀x∈s,x.At<=FD s:=by
 intro x M
 rcases EO s with rfl|⟨q,y,rfl⟩
 ·cases M
 rw[EN]at *
 have e:FD (q++[y])=y.At:=by simp[FD]
 rw[e]
 unfold Tf at u
 rw[List.pairwise_append]at u
 rcases List.mem_append.1 M with h|h
 ·have:=u.2.2 x h y OC;omega
 rw[List.mem_singleton.1 h];exact T9 _
def Am6:∀{s:Up PR} {k:Int} {m:Nat},Tf s->(∀x∈s,k<=x.At/\x.At<k+m)->s.length<=m
 |[],_,_,_,_=>BK _
 |x::s,k,m,u,h=>by
  unfold Tf at u
  rw[KM]at u
  have M:=h x OC;obtain⟨m,rfl⟩:∃q,m=q+1:=⟨m-1,AY⟩
  have:=Am6 (s:=s) (k:=x.At+1) (m:=m) u.2 λy I=>by have:=u.1 y I;have:=h y (by simp[I]);omega
  simp;omega
def Zn (l:Up B0)(s:Up PR)(b v:Int):Up B0:=s.filterMap λx=>if x.At<b/\x.Var=v then l[x.At.toNat]? else none
def Zw (l:Up B0)(s:Up PR)(b:Int):LA:=⟨(List.range 16).map λ(v:Nat)=>Zn l s b (v:Int)⟩
def WfS (l:Up B0)(s:Up PR):Prop:=∀x∈s,(0<=x.Var/\x.Var<16)/\(0<=x.At/\x.At<l.length)
def WfS.ins{s:Up PR}(h:WfS l s):InS l.length s:=λx M=>(h x M).2
def As3 (l:Up B0)(s:Up PR)(b v:Int):(Zn l s b v).length<=s.length:=List.length_filterMap_le ..
def Ad2(l:Up B0){s:Up PR}(G:s.length<1000000)(b:Int):Xk (Zw l s b):=by
 constructor
 ·simp[Zw]
 intro r Q
 simp only[Zw,BT]at Q
 obtain⟨v,_,rfl⟩:=Q;have:=As3 l s b v;omega
def ZU (l:Up B0)(p:Up PR)(x:PR)(b v:Int):Zn l (p++[x]) b v=Zn l p b v++(if x.At<b/\x.Var=v then(l[x.At.toNat]?).toList else[]):=by
 unfold Zn;rw[List.filterMap_append]
 congr 1
 by_cases h:x.At<b/\x.Var=v
 ·simp only[List.filterMap_cons,List.filterMap_nil,A2 h];cases l[x.At.toNat]? <;>rfl
 simp only[List.filterMap_cons,List.filterMap_nil,A1 h]
def AJ2{R:Type}(f:α->PR)(l:Up B0)(b:Int){s:Up α}(G:s.length<=1000000)(m:WfS l (s.map f)):
 E8 (R:=R) (λe x=>if cmp .lss (f x).At b=true then(C4 e (f x).Var).bind λc=>(C4 l (f x).At).bind λk=>(K2 c [k]).bind λi=>(Ex e (f x).Var (λ_=>i)).bind λh=>some (.inl h)else some (.inl e)) s (List.replicate 16 [])=
  some (.inl ((List.range 16).map λ(v:Nat)=>Zn l (s.map f) b (v:Int))):=by
 have⟨C,O,p,Z,g⟩:=Dv (R:=R) (step:=λe x=>if cmp .lss (f x).At b=true then(C4 e (f x).Var).bind λc=>(C4 l (f x).At).bind λk=>(K2 c [k]).bind λi=>(Ex e (f x).Var (λ_=>i)).bind λh=>some (.inl h)else some (.inl e))
  (λr e=>∃p,p++r=s/\e=(List.range 16).map λ(v:Nat)=>Zn l (p.map f) b (v:Int)) (λx r e ⟨p,K,e2⟩=>by
   subst e2
   have M:x∈s:=by rw[<-K];simp
   have⟨⟨A,D⟩,d,B⟩:=m (f x) (List.mem_map.2 ⟨x,M,rfl⟩)
   have o:p.length<=1000000:=by have:=J8 List.length K;simp at this;omega
   by_cases W:(f x).At<b
   ·rw[A2 (by rw[B8];exact I8 W)]
    generalize q:(f x).Var=vv at *
    generalize u:(f x).At=aa at *
    obtain⟨v,rfl⟩:=EQ A;obtain⟨a,rfl⟩:=EQ d
    have V:v<16:=AY
    have w:a<l.length:=AY
    have n:C4 ((List.range 16).map λ(v:Nat)=>Zn l (p.map f) b (v:Int)) (v:Int)=some (Zn l (p.map f) b v):=by
     rw[F3];simp[V]
    have P:C4 l (a:Int)=some l[a]:=by rw[F3];simp[w]
    have H:=As3 l (p.map f) b v;simp only[n,P,A4];rw[T6 (by simp at H ⊢;omega)];simp only[A4];refine⟨_,by unfold Ex;rw[n];rfl,p++[x],by simpa using K,?_⟩;apply CX;intro j;rw[Z4]
    by_cases z:j<16
    ·simp only[Y1,Gx z,P8,D2,G8,ZU,q,u,Z5,H9,CY,K1]
     by_cases y:v=j
     ·subst y;simp[W,z,w]
     have:¬((v:Int)=(j:Int)):=AY
     simp[y,this]
    have:¬(v=j):=AY
    simp[z,this]
   rw[A1 (by rw[B8];simpa using W)];refine⟨_,rfl,p++[x],by simpa using K,?_⟩;apply BW;intro v _
   rw[P8,D2,G8,ZU,A1 AY,F2]) (l:=s) (s:=List.replicate 16 []) ⟨[],rfl,by simp[Zn];rfl⟩
 rw[O]
 rw[F2]at Z
 rw[g,Z]
def AT8(hN:TB N){s:Up BD}(G:s.length<=1000000)(m:WfS l (O8 s))(f:Bool)(b:Int):Bu N ⟨l,f⟩ s b=some (Zw l (O8 s) b):=by
 unfold Bu;have O:YZ 16 16 ([]:Up B0)=some (List.replicate 16 []):=rfl;rw[O];simp only[A4];rw[R6 s AY (mk:=λ(h:List (List B0)) i=>(i,h)) (body:=λh x=>if cmp .lss (pr x).At b=true then(C4 h (pr x).Var).bind λw=>(C4 l (pr x).At).bind λv=>(K2 w [v]).bind λn=>(Ex h (pr x).Var (λ_=>n)).bind λk=>some (.inl k)else some (.inl h)) (fin:=λs=>s) (s:=List.replicate 16 []) AY ?_ ?_]
 ·rw[AJ2 pr l b G m];rfl
 ·intro h i x M U;have e:ar .add .i64 (i:Int) 1=i+1:=E6 AY AY;simp only[B8,A9,U,H8,B4,F3,M,A4,e]
  show(if decide (x.at_<b)=true then _ else _)=Option.bind (if decide (x.at_<b)=true then _ else _) _
  by_cases W:x.at_<b
  ·rw [A2 (I8 W),A2 (I8 W)]
   show((C4 h x.eF).bind _)=((C4 h x.eF).bind _).bind _
   cases C4 h x.eF with
   |none=>rfl
   | some r=>
    simp only[A4]
    show((C4 l x.at_).bind _)=((C4 l x.at_).bind _).bind _
    cases C4 l x.at_ with
    |none=>rfl
    | some y=>
     simp only[A4]
     cases K2 r [y]with
     |none=>rfl
     |some q=>
      simp only[A4]
      show((Ex h x.eF _).bind _)=((Ex h x.eF _).bind _).bind _
      cases Ex h x.eF λ_=>q<;>rfl
  rw[A1 (by simpa using W),A1 (by simpa using W)];rfl
 exact Kk
def Sh(h:i<l.length):C4 l (i:Int)=some l[i]:=by rw[F3];simp[h]
def cf65(hN:TB N){s:Up BD}(G:s.length<1000000)(m:WfS l (O8 s))(f:Bool){c:A8}(d:c.bulk<=16777216)(own:Int)(U:i<l.length):
 S7 N ⟨l,f⟩ c s own i=some (Iv (Zw l (O8 s) i) own l[i] c):=by
 unfold S7;rw[AT8 hN AY m];simp only[A4];rw[Sh U];simp only[A4];rw[Ap5 hN (Ad2 l (by simpa using G) _) own _ d];rfl
def Kx {β:Type}(T:Nat->Bool)(g:Nat->β):Nat->Nat->Up β
 |0,_=>[]
 |k+1,i=>if T i=true then g i::Kx T g k (i+1)else Kx T g k (i+1)
def Ap4{β:Type}(T:Nat->Bool)(g:Nat->β)(k i:Nat):Kx T g (k+1) i=if T i=true then g i::Kx T g k (i+1)else Kx T g k (i+1):=rfl
def AX3 {β:Type} {T:Nat->Bool} {g:Nat->β} {x:β}:∀{k i:Nat},x∈Kx T g k i<->∃j,i<=j/\j<i+k/\T j=true/\x=g j
 |0,i=>by simp[Kx];intro j a b;omega
 | k+1,i=>by
  rw[Ap4];have ih:=AX3 (T:=T) (g:=g) (x:=x) (k:=k) (i:=i+1)
  constructor
  ·intro h
   by_cases o:T i=true
   ·rw[A2 o]at h
    rcases List.mem_cons.1 h with h|h
    ·exact⟨i,AY,AY,o,h⟩
    have⟨j,a,b,c⟩:=ih.1 h;exact⟨j,AY,AY,c⟩
   rw[A1 o]at h
   have⟨j,a,b,c⟩:=ih.1 h;exact⟨j,AY,AY,c⟩
  rintro⟨j,a,b,c,d⟩
  by_cases e:j=i
  ·subst e;rw[A2 c,d];simp
  have:=ih.2 ⟨j,AY,AY,c,d⟩
  split
  ·exact M1 _ this
  exact this
def Ax4 {β A:Type} {n:Nat} {step:Int->OS (Up β×(Int⊕A))} {T:Nat->Bool} {g:Nat->β} {u:A} (G:∀i,i<n->step (i:Int)=some (if T i=true then[g i]else[],.inl ((i:Int)+1))) (R:step (n:Int)=some ([],.inr u)):
 ∀(k i N:Nat),i+k=n->k<N->R7 step N (i:Int)=some (Kx T g k i,u)
 |0,i,N,h,hN=>by
  obtain⟨N,rfl⟩:∃m,N=m+1:=⟨N-1,AY⟩;rw[show(i:Int)=n by omega];simp[R7,R,Kx]
 |k+1,i,N,h,hN=>by
  obtain⟨N,rfl⟩:∃m,N=m+1:=⟨N-1,AY⟩;have ih:=Ax4 G R k (i+1) N AY AY;simp only[R7,G i AY];rw[show((i:Int)+1)=((i+1:Nat):Int) by omega,ih];rw[Ap4]
  by_cases o:T i=true<;>simp[o]
def XR {A:Type} {n:Nat} {step:Int->OS (Int⊕(A⊕Unit))} {P:Nat->Bool} {u:A} (m:Nat) (G:∀i,m<=i->i<n->step (i:Int)=some (if P i=true then .inr (.inr ())else .inl ((i:Int)+1))) (R:∀i:Nat,n<=i->step (i:Int)=some (.inr (.inl u))):
 ∀(k i N:Nat),n<=i+k->m<=i->k<N->loopN step N (i:Int)=some (if(List.range' i (n-i)).any P=true then .inr ()else .inl u)
 |0,i,N,h,_,hN=>by
  obtain⟨N,rfl⟩:∃m,N=m+1:=⟨N-1,AY⟩;rw[show n-i=0 by omega];simp[loopN,R i AY]
 | k+1,i,N,h,p,hN=>by
  obtain⟨N,rfl⟩:∃m,N=m+1:=⟨N-1,AY⟩
  by_cases U:i<n
  ·have ih:=XR m G R k (i+1) N AY AY AY;simp only[loopN,G i p U];rw[show n-i=(n-(i+1))+1 by omega,Ip,GP]
   by_cases f:P i=true
   ·simp[f]
   rw[A1 f]
   dsimp only
   rw[show((i:Int)+1)=((i+1:Nat):Int) by omega,ih];simp[f]
  rw[show n-i=0 by omega];simp[loopN,R i AY]
def AS8 (l:Up B0)(i:Int):Int:=match l[i.toNat]? with|some e=>e.Time|none=>0
def AD5 (l:Up B0)(p:A0)(b s:Up PR)(i:Nat):Bool:=match l[i]? with|some e=>decide (e.Typ=p.Typ)&&(!Zs s i)&&Iv (Zw l (mrg b s) i) p.Var e p.dU|none=>false
def Am0 (l:Up B0)(p:A0)(b s:Up PR):Bool:= !((List.range l.length).any λi=>decide (Kd s<(i:Int))&&decide ((i:Int)<FD s)&&AD5 l p b s i)
def Uw (l:Up B0)(p:A0)(b s:Up PR):Bool:=
 if p.Op=6 then decide (ar .sub .i64 (AS8 l (FD s)) (AS8 l (Kd s))<=p.Span)else if p.Op=7 then Iv (Zw l (mrg b s) l.length) (-1) ⟨0,0,0,0,[]⟩ p.dU else Am0 l p b s
structure QW (l:List B0) (s:List PR):Prop where
 wf:WfS l s
 asc:Tf s
def QW.len{s:Up PR}(h:QW l s):s.length<=l.length:=Am6 (k:=0) h.asc λx M=>by have:=(h.wf x M).2;omega
def QW.nil (l:Up B0):QW l []:=⟨λ_ h=>absurd h List.not_mem_nil,List.Pairwise.nil⟩
def QW.mrg {l:Up B0}{a b:Up PR}(u:QW l a)(W:QW l b)(h:Io a b):QW l (mrg a b):=⟨λx M=>(IX.1 M).elim (u.wf x) (W.wf x),Ws _ (Nat.le_refl _) u.asc W.asc h⟩
def QW.lst{s:Up PR}(h:QW l s)(E:s≠[]):0<=FD s/\FD s<l.length:=by
 have⟨x,_,M,e⟩:=Nv E;rw[e];exact(h.wf x M).2
def QW.hd{s:Up PR}(h:QW l s)(E:s≠[]):0<=Kd s/\Kd s<l.length/\Kd s<=FD s/\Zs s (Kd s)=true:=by
 cases s with
 |nil=>exact absurd rfl E
 |cons x s=>
  have:=(h.wf x OC).2;exact⟨this.1,this.2,QL h.asc x OC,Ak7.2 ⟨x,OC,rfl⟩⟩
def AS6{i:Int}(L:0<=i)(O:i<l.length):∃e,C4 l i=some e/\e.Time=AS8 l i:=by
 obtain⟨i,rfl⟩:=EQ L
 have U:i<l.length:=AY
 exact⟨l[i],Sh U,by simp[AS8,U]⟩
def BO7{s:Up BD}(h:s≠[]):∃x,C4 s 0=some x/\x.at_=Kd (O8 s):=by
 cases s with
 |nil=>exact absurd rfl h
 |cons x s=>exact⟨x,rfl,rfl⟩
def BX7{s:Up BD}(h:s≠[]):O8 s≠[]:=λe=>h (List.map_eq_nil_iff.1 e)
def Bi9{b s:Up PR}{a n:Nat}(O:(a:Int)<=Kd s+1)(Z:Kd s<=(a:Int))(E:(n:Int)=FD s)(h:Zs s (Kd s)=true)(hl:FD s<l.length):
 (List.range' a (n-a)).any (AD5 l p b s)= !Am0 l p b s:=by
 unfold Am0;rw[Bool.not_not,AE,DS,DS]
 constructor
 ·rintro⟨i,U,W⟩
  rw[List.mem_range'_1]at U
  refine⟨i,List.mem_range.2 AY,?_⟩
  have k:Kd s≠(i:Int):=by
   intro e
   rw[e]at h
   unfold AD5 at W
   split at W
   ·rw[h]at W;simp at W
   cases W
  simp only[G9,B3];exact⟨⟨AY,AY⟩,W⟩
 rintro⟨i,U,W⟩
 simp only[G9,B3]at W
 exact⟨i,List.mem_range'_1.2 AY,W.2⟩
def Be1(hN:TB N)(hl:l.length<=10)(d:p.dU.bulk<=16777216)(F:5<=p.Op/\p.Op<=7){b s:Up BD}(y:QW l (O8 b))(r:QW l (O8 s))(E:s≠[])(hd:Io (O8 b) (O8 s))(f:Bool):
 Cl N ⟨l,f⟩ p b s=some (Uw l p (O8 b) (O8 s)):=by
 have G:=y.len;have I:=r.len
 rw[H9]at G I
 have m:=y.mrg r hd;have S:=m.len;have v:=BX7 E;have h:=r.lst v;have⟨L,O,Z,C⟩:=r.hd v;have⟨Q,V,e0⟩:=BO7 E;have⟨c,z,w⟩:=Te (N:=N) (n:=l.length) AY AY AY y.asc r.asc hd y.wf.ins r.wf.ins
 have R:c.length<=10:=by have:=J8 List.length w;rw[H9]at this;omega
 have q:WfS l (O8 c):=by rw[w];exact m.wf
 unfold Cl Uw;rw[V,Aq7 E AY,z];simp only[A4,AT8 hN (show c.length<=1000000 by omega) q,Ap5 hN (Ad2 l (show(O8 c).length<1000000 by rw[H9];omega) _) _ _ d]
 by_cases H:p.Op=6
 ·rw[A2 (by rw[D8];exact I8 H),A2 H];have⟨X,j,M⟩:=AS6 (l:=l) (i:=FD (O8 s)) AY AY;have⟨W,g,J⟩:=AS6 (l:=l) (i:=Q.at_) AY AY;rw[j,g];simp only[A4,Gv,M,J,e0]
 rw[A1 H,A1 (by rw[D8];simpa using H)]
 by_cases K:p.Op=7
 ·rw[A2 (by rw[D8];exact I8 K),A2 K,w];rfl
 rw[A1 K,A1 (by rw[D8];simpa using K)];have⟨n,D⟩:=EQ h.1;have⟨a,B⟩:=EQ L;rw[e0,B,E6 (a:=((a:Nat):Int)) AY AY,show((a:Int)+1)=((a+1:Nat):Int) by omega];rw[XR (A:=Unit) (n:=n) (P:=AD5 l p (O8 b) (O8 s)) (u:=()) 0 ?_ ?_ n (a+1) N AY AY AY,Bi9 AY AY AY C h.2]
 ·cases Am0 l p (O8 b) (O8 s)<;>rfl
 ·intro i _ U
  have k:i<l.length:=AY
  have e:ar .add .i64 (i:Int) 1=i+1:=E6 AY AY;rw[A2 (Ks AY),AT5 hN AY,Sh k,cf65 hN AY q _ d _ k,w];simp only[A4,S4,D8,e];unfold AD5;simp only[D9 k];cases Zs (O8 s) (i:Int)<;>by_cases o:l[i].Typ=p.Typ<;>cases Iv (Zw l (mrg (O8 b) (O8 s)) (i:Int)) p.Var l[i] p.dU<;>simp[o]
 intro i U;rw[A1 (Gc AY)]
def WN (l:Up B0)(p:A0)(b:Up PR)(i:Nat):Bool:=match l[i]? with|some e=>decide (e.Typ=p.Typ)&&Iv (Zw l b i) p.Var e p.dU|none=>false
def Bf7(hN:TB N)(hl:l.length<=10)(d:p.dU.bulk<=16777216){b:Up BD}(r:QW l (O8 b))(f:Bool)(U:i<=l.length):
 X5 N ⟨l,f⟩ p b (i:Int)=some (Kx (WN l p (O8 b)) (λj=>[(⟨p.Var,(j:Int)⟩:BD)]) (l.length-i) i):=by
 have v:=r.len
 rw[H9]at v
 unfold X5 Bb
 have h:=Ax4 (β:=Up BD) (A:=Unit) (n:=l.length) (T:=WN l p (O8 b)) (g:=λj=>[(⟨p.Var,(j:Int)⟩:BD)]) (u:=()) (step:=(λ(k:Int)=>
  (
   if cmp .lss k (Ar.len (⟨l,f⟩:C2).eP)=true then
    (C4 (⟨l,f⟩:C2).eP k).bind λy=>
    if cmp .eql y.Typ p.Typ=true then
     (S7 N ⟨l,f⟩ p.dU b p.Var k).bind λw=>
     if w=true then
      I1 (some ([[(⟨p.Var,k⟩:A3)]],())) λ_=>
      some ([],.inl (ar .add .i64 k 1))
     else
      some ([],.inl (ar .add .i64 k 1))
    else
     some ([],.inl (ar .add .i64 k 1))
   else
    some ([],.inr ())
   :OS (Up (Up A3)×((Int)⊕(Unit)))))) ?_ ?_ (l.length-i) i N AY AY
 ·rw[h];simp[I1]
 ·intro j z;have e:ar .add .i64 (j:Int) 1=j+1:=E6 AY AY;rw[A2 (Ks (by rw[A9];show(j:Int)<(l.length:Int);omega))]
  show((C4 l (j:Int)).bind _)=_
  rw[Sh z,cf65 hN AY r.wf _ d _ z,e];simp only[A4,D8,I1];unfold WN;simp only[D9 z]
  by_cases o:l[j].Typ=p.Typ<;>cases Iv (Zw l (O8 b) (j:Int)) p.Var l[j] p.dU<;>simp[o]
 rw[A1 Gr]
def AH0 (x:PR):Up UInt8:=BX x.Var.toNat++64::(BX x.At.toNat++[32])
def RW (s:Up PR):Up UInt8:=s.flatMap AH0
def Od (l:Up UInt8):Up Int:=l.map λb=>(b.toNat:Int)
def BV9{n:Int}(L:0<=n)(O:n<1000):Ar.wr .i64 n=n:=Bt AY AY
def BV8{n:Int}(L:0<=n)(O:n<1000):Ar.wr .u64 n=n:=by
 have e:IntKind.wrap .u64 n=n % 18446744073709551616:=by
  exact zb7
 exact e.trans AY
def cf239{d:Up Int}(hd:d.length<=1000000){i:Int}(L:0<=i)(O:i<100):P4 N d i 10=some (d++Od (BX i.toNat)):=by
 unfold P4 FO DZ ML;rw[A1 (Gc AY),BV8 L AY,A2 (show cmp .eql 10 10=true by rfl),A2 (Ks O),BV9 L AY]
 have G:WY i=some ⟨(BX i.toNat).toArray⟩:=by
  unfold WY;rw[A2 Ts]
 rw[G];simp only[A4]
 have hl:(BX i.toNat).length<=2:=by unfold BX;split<;>simp
 rw[T6 (by simp[UH];omega)];rfl
def BH2 (x:PR):(AH0 x).length<=6:=by
 have h:∀i,(BX i).length<=2:=λi=>by unfold BX;split<;>simp
 have:=h x.Var.toNat;have:=h x.At.toNat;simp[AH0];omega
def AY8:∀s:Up PR,(RW s).length<=6*s.length
 |[]=>by simp[RW]
 |x::s=>by
  have:=AY8 s;have:=BH2 x
  simp only[RW,DT,N1,K8]at *
  omega
def BH8(hN:TB N)(hl:l.length<=10){s:Up BD}(G:s.length<=1000)(m:WfS l (O8 s)):Aa N s=AT0 (Od (RW (O8 s))):=by
 unfold Aa;rw[R6 s AY (mk:=λ(out:List Int) i=>(i,out)) (body:=λout x=>(P4 N out x.eF 10).bind λK=>(K2 K [64]).bind λn=>(P4 N n x.at_ 10).bind λh=>(K2 h [32]).bind λk=>some (.inl k)) (fin:=λs=>s) (s:=[]) AY ?_ ?_]
 ·have⟨u,O,p,Z,d⟩:=Dv (R:=Up Int) (step:=λout x=>(P4 N out x.eF 10).bind λK=>(K2 K [64]).bind λn=>(P4 N n x.at_ 10).bind λh=>(K2 h [32]).bind λk=>some (.inl k))
   (λr out=>∃p,p++r=s/\out=Od (RW (O8 p))) (λx r out ⟨p,w,e2⟩=>by
    subst e2
    have M:x∈s:=by rw[<-w];simp
    have⟨⟨o,q⟩,P,V⟩:=m (pr x) (List.mem_map.2 ⟨x,M,rfl⟩);have H:0<=x.eF:=o;have j:x.eF<16:=q;have y:0<=x.at_:=P;have g:x.at_<l.length:=V
    have f:p.length<=1000:=by have:=J8 List.length w;simp at this;omega
    have S:(Od (RW (O8 p))).length<=6000:=by
     have:=AY8 (O8 p)
     rw[H9]at this
     simp[Od];omega
    have v:∀i,(Od (BX i)).length<=2:=λi=>by simp only[Od,H9];unfold BX;split<;>simp
    have:=v x.eF.toNat;have:=v x.at_.toNat;refine⟨Od (RW (O8 p))++Od (BX x.eF.toNat)++[64]++Od (BX x.at_.toNat)++[32],?_,p++[x],by simpa using w,?_⟩
    ·rw[cf239 AY H AY];simp only[A4];rw[T6 (by simp only[N1,K8,BV];omega)];simp only[A4];rw[cf239 (by simp only[N1,K8,BV];omega) y AY];simp only[A4];rw[T6 (by simp only[N1,K8,BV];omega)];rfl
    simp[Od,RW,AH0,O8,pr]) (l:=s) (s:=[]) ⟨[],rfl,rfl⟩
  rw[O];simp only[A4]
  rw[F2]at Z
  rw[d,Z];cases AT0 (Od (RW (O8 s)))<;>rfl
 ·intro out i x M U;have e:ar .add .i64 (i:Int) 1=i+1:=E6 AY AY;simp only[B8,A9,U,H8,B4,F3,M,A4,e]
  cases P4 N out x.eF 10 with
  |none=>rfl
  | some a=>
   simp only[A4]
   cases K2 a [64]with
   |none=>rfl
   | some b=>
    simp only[A4]
    cases P4 N b x.at_ 10 with
    |none=>rfl
    |some c=>
     simp only[A4];cases K2 c [32]<;>rfl
 exact Kk
def XQ {m:UInt8}:∀{a b r q:Up UInt8},m∉a->m∉b->a++m::r=b++m::q->a=b/\r=q
 |[],[],r,q,_,_,h=>⟨rfl,by simpa using h⟩
 |[],y::b,r,q,_,W,h=>by simp at h;exact absurd h.1 (by intro e;exact W (by simp[e]))
 |x::a,[],r,q,u,_,h=>by simp at h;exact absurd h.1 (by intro e;exact u (by simp[<-e]))
 |x::a,y::b,r,q,u,W,h=>by
  simp only[CW,U1]at h
  have:=XQ (λe=>u (by simp[e])) (λe=>W (by simp[e])) h.2;exact⟨by rw[h.1,this.1],this.2⟩
def Mj(h:i<100):(64:UInt8)∉BX i/\(32:UInt8)∉BX i:=by
 have:∀i<100,(64:UInt8)∉BX i/\(32:UInt8)∉BX i:=Sz
 exact this i h
def ZN{j:Nat}(U:i<16)(z:j<16)(h:BX i=BX j):i=j:=by
 have:∀i<16,∀j<16,BX i=BX j->i=j:=Sz
 exact this i U j z h
def Xh {l:Up B0} (hl:l.length<=10):∀{a b:Up PR},WfS l a->WfS l b->RW a=RW b->a=b
 |[],[],_,_,_=>rfl
 |[],y::b,_,_,h=>by simp[RW,AH0]at h
 |x::a,[],_,_,h=>by simp[RW,AH0]at h
 | x::a,y::b,u,W,h=>by
  have⟨⟨m,o⟩,K,P⟩:=u x OC;have⟨⟨w0,p⟩,V,c⟩:=W y OC;have⟨r,d⟩:=Mj (i:=x.Var.toNat) AY;have⟨f,v⟩:=Mj (i:=x.At.toNat) AY;have⟨w,g⟩:=Mj (i:=y.Var.toNat) AY;have⟨j,H⟩:=Mj (i:=y.At.toNat) AY
  simp only[RW,DT,AH0,E1,CW,K3]at h
  have⟨k,e2⟩:=XQ r w h;have⟨n,e4⟩:=XQ v H e2;have i1:=ZN AY AY k;have i2:=ZN AY AY n
  have e:x=y:=by
   cases x;cases y
   simp only[FU.mk.injEq]at *
   omega
  rw[e,Xh hl (λz Y=>u z (by simp[Y])) (λz Y=>W z (by simp[Y])) e4]
structure WfN (y:A0):Prop where
 op:0<=y.Op/\y.Op<=7
 var:y.Op=0->0<=y.Var/\y.Var<16
 a0:y.Op=0->y.dT=[]
 a1:1<=y.Op->y.Op<=3->y.dT≠[]
 a2:4<=y.Op->∃q,y.dT=[q]
 cond:y.dU.bulk<=16777216
def Si (p:A0):Prop:=∀y∈p.pre,WfN y
def ZI(hN:TB N){x:A0}(W:x.bulk<=16777216)(h:Oc N x=0):Si x/\x.pre.length<=64:=by
 unfold Oc at h
 by_cases Q:Q7 N x=0
 ·rw [A1 (by simpa using Q)]at h
  by_cases u:x.pre.any (λy=>cmp .geq y.Op 8)=true
  ·rw[A2 u]at h;cases h
  have⟨f,hd,v⟩:=Es Q;refine⟨λy I=>?_,f⟩;have O:=IW x y I;have Z:=DG y
  have k:y.bulk<=16777216:=AY
  have n:y.dT.length<=64:=AY
  have⟨X,s,P,G,d⟩:=NN hN k n (v y I)
  have w:y.Op<=7:=by
   rw[EK,GT]at u
   have:=u y I
   rw[O0]at this
   simp at this;omega
  have Y:=ZR hN N y.dU (⟨0,[],0,0,0,(⟨0,0,⟨#[]⟩⟩:B2)⟩:A8) AY AY;have O:=KK hN AY X.1 X.2 G Y
  rw[(ID hN k n),v y I]at O
  have O:=CU O
  by_cases i:s.eJ<=y.dT.length/\(y.dT.length:Int)<=s.most
  ·rw[A2 i]at O
   unfold XE at O
   by_cases r:Lz s.eE y.Typ 15=true
   ·rw[A2 r]at O;cases O
   rw[A1 r]at O
   by_cases e2:Lz s.eE y.Var 15=true
   ·rw[A2 e2]at O;cases O
   have o:=G.tab
   have H:y.Op=0\/y.Op=1\/y.Op=2\/y.Op=3\/y.Op=4\/y.Op=5\/y.Op=6\/y.Op=7:=AY
   refine⟨⟨X.1,w⟩,?_,?_,?_,?_,AY⟩
   ·intro L
    rw[L]at o
    have G:s.eE=true:=by cases o;rfl
    rw[G]at e2
    unfold Lz at e2
    simp at e2
    omega
   ·intro L
    rw[L]at o
    have p:s.most=0:=by cases o;rfl
    exact GC AY
   ·intro L K
    have p:1<=s.eJ:=by
     have:y.Op=1\/y.Op=2\/y.Op=3:=AY
     rcases this with h|h|h<;>rw[h]at o<;>cases o<;>decide
    intro e
    rw[e]at i
    simp at i;omega
   intro L
   have p:s.eJ=1/\s.most=1:=by
    have:y.Op=4\/y.Op=5\/y.Op=6\/y.Op=7:=AY
    rcases this with h|h|h|h<;>rw[h]at o<;>cases o<;>decide
   have hl:y.dT.length=1:=AY
   match R:y.dT,hl with
   |[q],_=>exact⟨q,rfl⟩
  rw[A1 i]at O;cases O
 rw[A2 (show Q7 N x≠0 from Q)]at h;exact absurd h Q
def AK {y : A0}:∀{l:Up A0},y∈A0.pres l<->∃a∈l,y∈a.pre
 |[]=>by simp[A0.pres]
 | a :: l => by simp only[A0.pres,BU,AK (l:=l),Cx];constructor
                ·rintro(h|⟨b,O,Z⟩)
                 ·exact⟨a,.inl rfl,h⟩
                 exact⟨b,.inr O,Z⟩
                rintro⟨b,rfl|O,Z⟩
                ·exact .inl Z
                exact .inr ⟨b,O,Z⟩
def Si.self(h:Si p):WfN p:=h p (KS p)
def Si.arg{q:A0}(h:Si p)(c:q∈p.dT):Si q:=λy I=>h y (by rw[A0.pre_eq];exact List.mem_cons_of_mem _ (AK.2 ⟨q,c,I⟩))
def Si.sub{r:Up A0}(h:Si p)(O:1<=p.Op)(i:p.Op<=3)(Q:∀q∈r,q∈p.dT)(E:r≠[]):Si {p with dT:=r}:=by
 intro y I
 rw[A0.pre_eq]at I
 rcases List.mem_cons.1 I with rfl|I
 ·exact⟨h.self.op,λe=>by have:p.Op=0:=e;omega,λe=>by have:p.Op=0:=e;omega,λ_ _=>E,λe=>by have:4<=p.Op:=e;omega,h.self.cond⟩
 exact zbi
inductive BI (l:List B0):A0->List PR->Int->List PR->Prop
 |ev {p:A0} {b:List PR} {f:Int} {j:Nat}:p.Op=0->f<=j->j<l.length->WN l p b j=true->BI l p b f [⟨p.Var,j⟩]
 |seq1 {p q:A0} {b:List PR} {f:Int} {s:List PR}:p.Op=1->p.dT=[q]->BI l q b f s->BI l p b f s
 |seq {p q q':A0} {r:List A0} {b:List PR} {f:Int} {s t:List PR}:p.Op=1->p.dT=q::q'::r->BI l q b f s->BI l {p with dT:=q'::r} (mrg b s) (FD s+1) t->BI l p b f (mrg s t)
 |alt {p q:A0} {b:List PR} {f:Int} {s:List PR}:p.Op=2->q∈p.dT->BI l q b f s->BI l p b f s
 |all1 {p q:A0} {b:List PR} {f:Int} {s:List PR}:p.Op=3->p.dT=[q]->BI l q b f s->BI l p b f s
 |all {p q:A0} {r:List A0} {b:List PR} {f:Int} {s t:List PR}:p.Op=3->p.dT=r++[q]->r≠[]->BI l {p with dT:=r} b f s->BI l q b f t->Io s t->BI l p b f (mrg s t)
 |plus1 {p q:A0} {b:List PR} {f:Int} {s:List PR}:p.Op=4->p.dT=[q]->BI l q b f s->BI l p b f s
 |plus {p q:A0} {b:List PR} {f:Int} {s t:List PR}:p.Op=4->p.dT=[q]->BI l q b f s->BI l p (mrg b s) (FD s+1) t->BI l p b f (mrg s t)
 |some {p q:A0} {b:List PR} {f:Int} {s:List PR}:5<=p.Op->p.Op<=7->p.dT=[q]->BI l q b f s->Uw l p b s=true->BI l p b f s
def BI.i0{b:Up PR}{s:Up PR}(L:p.Op=0):BI l p b f s<->∃j:Nat,f<=j/\j<l.length/\WN l p b j=true/\s=[⟨p.Var,j⟩]:=by
 constructor
 ·intro h
  cases h with
  |ev e0 e e2 i=>exact⟨_,e,e2,i,rfl⟩
  |_=>omega
 rintro⟨j,e,e2,i,rfl⟩;exact .ev L e e2 i
def BI.i1{q:A0}{b:Up PR}{s:Up PR}(L:p.Op=1)(u:p.dT=[q]):BI l p b f s<->BI l q b f s:=by
 constructor
 ·intro h
  cases h with
  |seq1 e0 e G=>rw[u]at e;cases e;exact G
  |seq e0 e G o=>rw[u]at e;cases e
  |_=>omega
 exact .seq1 L u
def BI.i1c{q k:A0}{r:Up A0}{b:Up PR}{s:Up PR}(L:p.Op=1)(i:p.dT=q::k::r):BI l p b f s<->∃u t,BI l q b f u/\BI l {p with dT:=k::r} (mrg b u) (FD u+1) t/\s=mrg u t:=by
 constructor
 ·intro h
  cases h with
  |seq1 e0 e G=>rw[i]at e;cases e
  |seq e0 e G o=>rw[i]at e;cases e;exact⟨_,_,G,o,rfl⟩
  |_=>omega
 rintro⟨u,t,G,o,rfl⟩;exact .seq L i G o
def BI.i2{b:Up PR}{s:Up PR}(L:p.Op=2):BI l p b f s<->∃q∈p.dT,BI l q b f s:=by
 constructor
 ·intro h
  cases h with
  |alt e0 e G=>exact⟨_,e,G⟩
  |_=>omega
 rintro⟨q,u,G⟩;exact .alt L u G
def BI.i3{q:A0}{b:Up PR}{s:Up PR}(L:p.Op=3)(u:p.dT=[q]):BI l p b f s<->BI l q b f s:=by
 constructor
 ·intro h
  cases h with
  |all1 e0 e G=>rw[u]at e;cases e;exact G
  |all e0 e i G o hd=>
   rw[u]at e
   exact absurd (Pg (s₁:=[]) e rfl).symm i
  |_=>omega
 exact .all1 L u
def BI.i3c{q:A0}{r:Up A0}{b:Up PR}{s:Up PR}(L:p.Op=3)(i:p.dT=r++[q])(Q:r≠[]):BI l p b f s<->∃u t,BI l {p with dT:=r} b f u/\BI l q b f t/\Io u t/\s=mrg u t:=by
 constructor
 ·intro h
  cases h with
  |all1 e0 e G=>
   rw[i]at e
   exact absurd (Pg (s₂:=[]) e rfl) Q
  |all e0 e n G o hd=>
   rw[i]at e
   have k:=Pg e rfl;have e2:=List.append_inj_right' e rfl;cases k;cases e2;exact⟨_,_,G,o,hd,rfl⟩
  |_=>omega
 rintro⟨u,t,G,o,hd,rfl⟩;exact .all L i Q G o hd
def BI.i4{q:A0}{b:Up PR}{s:Up PR}(L:p.Op=4)(i:p.dT=[q]):BI l p b f s<->BI l q b f s\/∃u t,BI l q b f u/\BI l p (mrg b u) (FD u+1) t/\s=mrg u t:=by
 constructor
 ·intro h
  cases h with
  |plus1 e0 e G=>rw[i]at e;cases e;exact .inl G
  |plus e0 e G o=>rw[i]at e;cases e;exact .inr ⟨_,_,G,o,rfl⟩
  |_=>omega
 rintro(G|⟨u,t,G,o,rfl⟩)
 ·exact .plus1 L i G
 exact .plus L i G o
def BI.i5{q:A0}{b:Up PR}{s:Up PR}(L:5<=p.Op)(O:p.Op<=7)(u:p.dT=[q]):BI l p b f s<->BI l q b f s/\Uw l p b s=true:=by
 constructor
 ·intro h
  cases h with
  |some e0 i e G S=>rw[u]at e;cases e;exact⟨G,S⟩
  |_=>omega
 rintro⟨G,S⟩;exact .some L O u G S
structure Za (l:List B0) (b:List PR) (f:Int):Prop where
 gd:QW l b
 lt:∀x∈b,x.At<f
 f0:0<=f
 f1:f<=l.length
structure ZD (l:List B0) (f:Int) (s:List PR):Prop where
 gd:QW l s
 ge:∀x∈s,f<=x.At
 ne:s≠[]
def Za.apart{b s:Up PR}(h:Za l b f)(r:ZD l f s):Io b s:=λx M y I=>by have:=h.lt x M;have:=r.ge y I;omega
def Za.next{b s:Up PR}(h:Za l b f)(r:ZD l f s):Za l (mrg b s) (FD s+1):=by
 have hl:=r.gd.lst r.ne;refine⟨h.gd.mrg r.gd (h.apart r),λx M=>?_,AY,AY⟩
 rcases IX.1 M with M|M
 ·have⟨y,_,I,e⟩:=Nv r.ne;have:=h.lt x M;have:=r.ge y I;omega
 have:=QL r.gd.asc x M;omega
def ZD.seq {l:Up B0} {s t:Up PR} {f:Int} (r:ZD l f s) (q:ZD l (FD s+1) t):ZD l f (mrg s t)/\Io s t:=by
 have u:Io s t:=λx M y I=>by have:=QL r.gd.asc x M;have:=q.ge y I;omega
 refine⟨⟨r.gd.mrg q.gd u,λx M=>?_,λe=>?_⟩,u⟩
 ·rcases IX.1 M with M|M
  ·exact r.ge x M
  have⟨y,_,I,e⟩:=Nv r.ne;have:=r.ge y I;have:=q.ge x M;omega
 have O:=J8 List.length e
 rw[AX0,BV]at O
 have:=List.length_pos_iff.2 r.ne;omega
def ZD.all {l:Up B0}{s t:Up PR}{f:Int}(r:ZD l f s)(q:ZD l f t)(u:Io s t):ZD l f (mrg s t):=by
 refine⟨r.gd.mrg q.gd u,λx M=>(IX.1 M).elim (r.ge x) (q.ge x),λe=>?_⟩;have O:=J8 List.length e
 rw[AX0,BV]at O
 have:=List.length_pos_iff.2 r.ne;omega
def BI.res{b:Up PR}{s:Up PR}(h:BI l p b f s):Si p->Za l b f->ZD l f s:=by
 induction h with
 |@ev p b f j L n z o=>
  intro m X;refine⟨⟨λx M=>?_,Vc _ _⟩,λx M=>?_,OC⟩
  ·rw[List.mem_singleton.1 M];exact⟨m.self.var L,by show 0<=(j:Int)/\(j:Int)<l.length;omega⟩
  rw[List.mem_singleton.1 M];exact n
 |seq1 L u _ ih=>intro m X;exact ih (m.arg (by rw[u];simp)) X
 |@seq p q w r b f s t L u _ _ e i=>
  intro m X;have k:=e (m.arg (by rw[u];simp)) X;have v:=i (m.sub AY AY (λx M=>by rw[u];exact M1 _ M) OC) (X.next k);exact(k.seq v).1
 |alt L u _ ih=>intro m X;exact ih (m.arg u) X
 |all1 L u _ ih=>intro m X;exact ih (m.arg (by rw[u];simp)) X
 |@all p q r b f s t L u E _ _ hd e i=>
  intro m X;exact(e (m.sub AY AY (λx M=>by rw[u];simp[M]) E) X).all (i (m.arg (by rw[u];simp)) X) hd
 |plus1 L u _ ih=>intro m X;exact ih (m.arg (by rw[u];simp)) X
 |@plus p q b f s t L u _ _ e i=>
  intro m X;have k:=e (m.arg (by rw[u];simp)) X;exact(k.seq (i m (X.next k))).1
 |some L O u _ _ ih=>intro m X;exact ih (m.arg (by rw[u];simp)) X
def Vs (p:A0)(v:Int):Prop:=∃y∈p.pre,y.Op=0/\y.Var=v
def Vs.arg{q:A0}{v:Int}(c:q∈p.dT)(h:Vs q v):Vs p v:=by
 have⟨y,I,h⟩:=h;exact⟨y,by rw[A0.pre_eq];exact M1 _ (AK.2 ⟨q,c,I⟩),h⟩
def Vs.sub{r:Up A0}{v:Int}(L:p.Op≠0)(Q:∀q∈r,q∈p.dT)(h:Vs {p with dT:=r} v):Vs p v:=by
 have⟨y,I,O,Z⟩:=h
 rw[A0.pre_eq]at I
 rcases List.mem_cons.1 I with rfl|I
 ·exact absurd O L
 have⟨q,c,I⟩:=AK.1 I;exact Vs.arg (Q q c) ⟨y,I,O,Z⟩
def BI.vars{b:Up PR}{s:Up PR}(h:BI l p b f s):∀x∈s,Vs p x.Var:=by
 induction h with
 |@ev p b f j L k z o=>intro x M;rw[List.mem_singleton.1 M];exact⟨p,KS p,L,rfl⟩
 |seq1 L u _ ih=>intro x M;exact Vs.arg (by rw[u];simp) (ih x M)
 |@seq p q n r b f s t L u _ _ e i=>
  intro x M
  rcases IX.1 M with M|M
  ·exact Vs.arg (by rw[u];simp) (e x M)
  exact Vs.sub AY (λx M=>by rw[u];exact M1 _ M) (i x M)
 |alt L u _ ih=>intro x M;exact Vs.arg u (ih x M)
 |all1 L u _ ih=>intro x M;exact Vs.arg (by rw[u];simp) (ih x M)
 |@all p q r b f s t L u E _ _ hd e i=>
  intro x M
  rcases IX.1 M with M|M
  ·exact Vs.sub AY (λx M=>by rw[u];simp[M]) (e x M)
  exact Vs.arg (by rw[u];simp) (i x M)
 |plus1 L u _ ih=>intro x M;exact Vs.arg (by rw[u];simp) (ih x M)
 |@plus p q b f s t L u _ _ e i=>
  intro x M
  rcases IX.1 M with M|M
  ·exact Vs.arg (by rw[u];simp) (e x M)
  exact i x M
 |some L O u _ _ ih=>intro x M;exact Vs.arg (by rw[u];simp) (ih x M)
def JK (p:A0):Nat:=p.pre.countP λy=>decide (y.Op=0)
def Ia (p:A0):Prop:=∀y∈p.pre,y.Op≠4
def MT (p:A0):JK p=(if p.Op=0 then 1 else 0)+(A0.pres p.dT).countP λy=>decide (y.Op=0):=by
 unfold JK;rw[A0.pre_eq,List.countP_cons]
 by_cases h:p.Op=0<;>simp[h]<;>omega
def Tl (p:A0)(r:Up A0):JK {p with dT:=r}=(if p.Op=0 then 1 else 0)+(A0.pres r).countP λy=>decide (y.Op=0):=MT _
def VJ {q:A0}:∀{l:Up A0},q∈l->JK q<=(A0.pres l).countP λy=>decide (y.Op=0)
 |a::l,h=>by
  simp only[A0.pres,EX]
  rcases List.mem_cons.1 h with rfl|h
  ·exact Jm _ _
  have:=VJ h;unfold JK at *;omega
def QQ{q:A0}(h:q∈p.dT):JK q<=JK p:=by rw[MT p];have:=VJ h;omega
def Ia.arg{q:A0}(h:Ia p)(c:q∈p.dT):Ia q:=λy I=>h y (by rw[A0.pre_eq];exact List.mem_cons_of_mem _ (AK.2 ⟨q,c,I⟩))
def Ia.sub{r:Up A0}(h:Ia p)(Q:∀q∈r,q∈p.dT):Ia {p with dT:=r}:=by
 intro y I
 rw[A0.pre_eq]at I
 rcases List.mem_cons.1 I with rfl|I
 ·exact h p (KS p)
 exact zbi
def WD (n:Nat)(p:A0):Prop:=(JK p+1) ^ n<=1500\/(Ia p/\2<=n/\n ^ JK p<=1500)
def WD.mono{n:Nat}{q:A0}(h:WD n p)(O:JK q<=JK p)(Z:Ia p->Ia q):WD n q:=by
 rcases h with h|⟨a,b,c⟩
 ·exact .inl (U0 (Nat.pow_le_pow_left AY n) h)
 exact .inr ⟨Z a,b,U0 (Gy AY O) c⟩
def WD.arg {n:Nat}{p q:A0}(h:WD n p)(c:q∈p.dT):WD n q:=h.mono (QQ c) λk=>k.arg c
def WD.tail{n:Nat}{q:A0}{r:Up A0}(h:WD n p)(u:p.dT=q::r):WD n {p with dT:=r}:=by
 refine h.mono ?_ λk=>k.sub λx M=>by rw[u];exact M1 _ M
 rw[Tl,MT,u];simp only[A0.pres,EX];omega
def Hb:∀(r m:Up A0),A0.pres (r++m)=A0.pres r++A0.pres m
 |[],m=>by simp[A0.pres]
 |a::r,m=>by simp[A0.pres,Hb r m]
def WD.init{n:Nat}{q:A0}{r:Up A0}(h:WD n p)(u:p.dT=r++[q]):WD n {p with dT:=r}:=by
 refine h.mono ?_ λk=>k.sub λx M=>by rw[u];simp[M]
 rw[Tl,MT,u,Hb];simp only[EX];omega
def Qn (V:Up Int):Nat->Int->Up (Up PR)
 |0,_=>[[]]
 |m+1,k=>Qn V m (k+1)++V.flatMap λv=>(Qn V m (k+1)).map λs=>⟨v,k⟩::s
def UE (V:Up Int):∀(m:Nat) (k:Int),(Qn V m k).length=(V.length+1) ^ m
 |0,_=>rfl
 | m+1,k=>by
  have ih:=UE V m (k+1)
  have h:(V.flatMap λv=>(Qn V m (k+1)).map λs=>(⟨v,k⟩:PR)::s).length=V.length*(V.length+1) ^ m:=by
   clear ih;generalize e:Qn V m (k+1)=E
   have hl:E.length=(V.length+1) ^ m:=by rw[<-e];exact UE V m (k+1)
   rw[<-hl];clear hl e
   induction V with
   |nil=>simp
   |cons v V ih=>rw[DT,N1,ih,H9,K8,LE];omega
  rw[Qn,N1,ih,h,OH];rw[GO _ (V.length+1),LE];omega
def QR (V:Up Int):∀(m:Nat) (k:Int) (s:Up PR),Tf s->(∀x∈s,k<=x.At/\x.At<k+m)->(∀x∈s,x.Var∈V)->s∈Qn V m k
 |0,k,[],_,_,_=>by simp[Qn]
 |0,k,x::s,_,h,_=>by have:=h x OC;omega
 |m+1,k,[],u,_,_=>by
  rw[Qn];exact Gz _ (QR V m (k+1) [] u OC OC)
 | m+1,k,x::s,u,h,j=>by
  rw[Qn];have i:=u
  unfold Tf at u
  rw[KM]at u
  have M:=h x OC
  by_cases e:x.At=k
  ·refine Ma _ (List.mem_flatMap.2 ⟨x.Var,j x OC,List.mem_map.2 ⟨s,QR V m (k+1) s u.2 (λy I=>?_) (λy I=>j y (by simp[I])),?_⟩⟩)
   ·have:=u.1 y I;have:=h y (by simp[I]);omega
   rw[<-e]
  refine Gz _ (QR V m (k+1) (x::s) i (λy I=>?_) j);have:=h y I
  rcases List.mem_cons.1 I with rfl|I
  ·omega
  have:=u.1 y I;omega
def AR8 (p:A0):Up Int:=(p.pre.filter λy=>decide (y.Op=0)).map (·.Var)
def Bc8 (p:A0):(AR8 p).length=JK p:=by unfold AR8 JK;rw[H9,List.countP_eq_length_filter]
def Vs.mem{v:Int}(h:Vs p v):v∈AR8 p:=by
 have⟨y,I,L,O⟩:=h;exact List.mem_map.2 ⟨y,List.mem_filter.2 ⟨I,by simpa using L⟩,O⟩
def Cj4{L:Up (Up PR)}(E:L.Nodup)(h:∀s∈L,QW l s/\∀x∈s,Vs p x.Var):L.length<=(JK p+1) ^ l.length:=by
 have:=Vg E (l₂:=Qn (AR8 p) l.length 0) λs G=>by
  have⟨g,j⟩:=h s G;exact QR _ _ _ s g.asc (λx M=>by have:=(g.wf x M).2;omega) λx M=>(j x M).mem
 rwa[UE,Bc8]at this
def AU8{β:Type}(A B:Up α)(f:α->α->β):(A.flatMap λa=>B.map (f a)).length=A.length*B.length:=by
 induction A with
 |nil=>simp
 |cons a A ih=>rw[DT,N1,ih,H9,K8,LE];omega
def AU9:∀(n:Nat) (p:A0),p.pre.length<=n->Si p->1<=JK p
 |0,p,h,_=>by rw[A0.pre_eq]at h;simp at h
 | n+1,p,h,m=>by
  by_cases L:p.Op=0
  ·rw[MT,A2 L];omega
  have e:∃q,q∈p.dT:=by
   by_cases i:p.Op<=3
   ·exact Md _ (m.self.a1 (by have:=m.self.op;omega) i)
   have⟨q,c⟩:=m.self.a2 AY;exact⟨q,by rw[c];simp⟩
  have⟨q,c⟩:=e;have:=AU9 n q (by have:=W1 c;omega) (m.arg c);have:=QQ c;omega
def AE6{x y:Nat}(M:2<=x)(I:2<=y):x+y<=x*y:=by
 obtain⟨a,rfl⟩:∃a,x=a+2:=⟨x-2,AY⟩;obtain⟨b,rfl⟩:∃b,y=b+2:=⟨y-2,AY⟩
 have:(a+2)*(b+2)=a*b+2*a+2*b+4:=by
  rw[Nat.mul_add,F9,F9];omega
 omega
def Wp{q:A0}{r:Up A0}(u:p.dT=q::r):({p with dT:=r}:A0).pre.length<p.pre.length:=by
 have O:=A0.pre_eq ({p with dT:=r}:A0);have Z:=A0.pre_eq p;rw[O,Z,u];exact zcb
def Bt9{q:A0}{r:Up A0}(u:p.dT=r++[q]):({p with dT:=r}:A0).pre.length<p.pre.length:=by
 have O:=A0.pre_eq ({p with dT:=r}:A0);have Z:=A0.pre_eq p;rw[O,Z,u,Hb];exact zcb
def Rn {l:Up B0} (hl:2<=l.length):∀(n:Nat) (p:A0),p.pre.length<=n->Si p->Ia p->∃C:Up (Up PR),C.length<=l.length ^ JK p/\∀b f s,BI l p b f s->s∈C
 |0,p,h,_,_=>by rw[A0.pre_eq]at h;simp at h
 | n +1,p,h,m,w=>by
  have A:=m.self.op;have I:=w p (KS p)
  have H:∀q:A0,Si q->2<=l.length ^ JK q:=λq c=>by
   have O:=AU9 _ q (C6 _) c;have:=Gy (n:=l.length) AY O
   rw[Nat.pow_one]at this;omega
  by_cases L:p.Op=0
  ·refine⟨(List.range l.length).map λ(j:Nat)=>[⟨p.Var,(j:Int)⟩],?_,λb f s G=>?_⟩
   ·rw[MT,A2 L,m.self.a0 L,H9,CY];simp[A0.pres]
   obtain⟨j,_,z,_,rfl⟩:=(BI.i0 L).1 G;exact List.mem_map.2 ⟨j,List.mem_range.2 z,rfl⟩
  by_cases O:p.Op=1
  ·match i:p.dT with
   |[]=>exact absurd i (m.self.a1 AY AY)
   |[q]=>
    have c:q∈p.dT:=by rw[i];simp
    have⟨C,Z,k⟩:=Rn hl n q (by have:=W1 c;omega) (m.arg c) (w.arg c);refine⟨C,U0 Z (Gy AY (QQ c)),λb f s G=>?_⟩;exact k _ _ _ ((BI.i1 O i).1 G)
   | q::K::r=>
    have c:q∈p.dT:=by rw[i];simp
    have⟨C,Z,k⟩:=Rn hl n q (by have:=W1 c;omega) (m.arg c) (w.arg c);have⟨D,g,d⟩:=Rn hl n {p with dT:=K::r} (by have:=Wp i;omega) (m.sub AY AY (λx M=>by rw[i];exact M1 _ M) OC) (w.sub λx M=>by rw[i];exact M1 _ M);refine⟨C.flatMap λs=>D.map (mrg s),?_,λb f s G=>?_⟩
    ·rw[AU8,show JK p=JK q+JK {p with dT:=K::r}from ?_,LB]
     ·exact Z3 Z g
     rw[Tl,MT p,i,A1 L];rw[A0.pres,EX];unfold JK;omega
    obtain⟨u,t,B,o,rfl⟩:=(BI.i1c O i).1 G;exact List.mem_flatMap.2 ⟨_,k _ _ _ B,List.mem_map.2 ⟨_,d _ _ _ o,rfl⟩⟩
  by_cases P:p.Op=2
  ·match i:p.dT with
   |[]=>exact absurd i (m.self.a1 AY AY)
   |[q]=>
    have c:q∈p.dT:=by rw[i];simp
    have⟨C,Z,k⟩:=Rn hl n q (by have:=W1 c;omega) (m.arg c) (w.arg c);refine⟨C,U0 Z (Gy AY (QQ c)),λb f s G=>?_⟩;have⟨K,v,G⟩:=(BI.i2 P).1 G
    rw[i]at v
    rw[List.mem_singleton.1 v]at G
    exact k _ _ _ G
   | q::K::r=>
    have c:q∈p.dT:=by rw[i];simp
    have y:Si {p with dT:=K::r}:=m.sub AY AY (λx M=>by rw[i];exact M1 _ M) OC;have⟨C,Z,k⟩:=Rn hl n q (by have:=W1 c;omega) (m.arg c) (w.arg c);have⟨D,g,d⟩:=Rn hl n {p with dT:=K::r} (by have:=Wp i;omega) y (w.sub λx M=>by rw[i];exact M1 _ M);refine⟨C++D,?_,λb f s G=>?_⟩
    ·rw[N1,show JK p=JK q+JK {p with dT:=K::r}from ?_,LB]
     ·have E:=H q (m.arg c);have e2:=H _ y;have:=AE6 E e2;omega
     rw[Tl,MT p,i,A1 L];rw[A0.pres,EX];unfold JK;omega
    have⟨x,v,G⟩:=(BI.i2 P).1 G
    rw[i]at v
    rcases List.mem_cons.1 v with e|F
    ·rw[e]at G;exact Gz _ (k _ _ _ G)
    exact Ma _ (d _ _ _ (BI.alt (p:={p with dT:=K::r}) P F G))
  by_cases V:p.Op=3
  ·rcases EO p.dT with i|⟨r,q,i⟩
   ·exact absurd i (m.self.a1 AY AY)
   rw[EN]at i
   have c:q∈p.dT:=by rw[i];simp
   have⟨C,Z,k⟩:=Rn hl n q (by have:=W1 c;omega) (m.arg c) (w.arg c)
   by_cases Q:r=[]
   ·subst Q;refine⟨C,U0 Z (Gy AY (QQ c)),λb f s G=>?_⟩;exact k _ _ _ ((BI.i3 V i).1 G)
   have y:Si {p with dT:=r}:=m.sub AY AY (λx M=>by rw[i];simp[M]) Q;have⟨D,g,d⟩:=Rn hl n {p with dT:=r} (by have:=Bt9 i;omega) y (w.sub λx M=>by rw[i];simp[M]);refine⟨D.flatMap λs=>C.map (mrg s),?_,λb f s G=>?_⟩
   ·rw[AU8,show JK p=JK {p with dT:=r}+JK q from ?_,LB]
    ·exact Z3 g Z
    rw[Tl,MT p,i,A1 L,Hb,EX];simp only[A0.pres,F2];unfold JK;omega
   obtain⟨u,t,B,o,_,rfl⟩:=(BI.i3c V i Q).1 G;exact List.mem_flatMap.2 ⟨_,d _ _ _ B,List.mem_map.2 ⟨_,k _ _ _ o,rfl⟩⟩
  have⟨q,i⟩:=m.self.a2 AY
  have c:q∈p.dT:=by rw[i];simp
  have⟨C,Z,k⟩:=Rn hl n q (by have:=W1 c;omega) (m.arg c) (w.arg c);refine⟨C,U0 Z (Gy AY (QQ c)),λb f s G=>?_⟩;exact k _ _ _ ((BI.i5 AY A.2 i).1 G).1
def card(k:Si p)(G:WD l.length p){L:Up (Up PR)}(E:L.Nodup)(h:∀s∈L,QW l s/\∃b f,BI l p b f s):L.length<=1500:=by
 rcases G with G|⟨O,Z,n⟩
 ·refine U0 (Cj4 E λs m=>?_) G;have⟨g,b,f,e⟩:=h s m;exact⟨g,e.vars⟩
 have⟨C,r,i⟩:=Rn Z _ p (C6 _) k O
 have:=Vg E (l₂:=C) λs m=>by
  have⟨g,b,f,e⟩:=h s m;exact i b f s e
 omega
end
end Go.Ab
namespace Go.Ab
variable{l:Up B0}{p:A0}{s:Up PR}
def Xd (l:Up B0)(j:Int):B0:=(l[j.toNat]?).getD ⟨0,0,0,0,[]⟩
def TE:Ij:=λh var c x=>x.Typ=h/\∃e,Iv e var x c=true
def TA:Ij:=λh var c x=>x.Typ=h/\∀e,Iv e var x c=true
def TM (p:A0):Prop:=∀y∈p.pre,y.Op<=4
def TM.self(h:TM p):p.Op<=4:=h p (KS p)
def TM.arg{q:A0}(h:TM p)(c:q∈p.dT):TM q:=λy I=>h y (by rw[A0.pre_eq];exact List.mem_cons_of_mem _ (AK.2 ⟨q,c,I⟩))
def TM.sub{r:Up A0}(h:TM p)(O:1<=p.Op)(Q:∀q∈r,q∈p.dT):TM {p with dT:=r}:=by
 intro y I
 rw[A0.pre_eq]at I
 rcases List.mem_cons.1 I with rfl|I
 ·exact h.self
 exact zbi
def XN {β:Type} (g:PR->β):∀(n:Nat) (a b:Up PR),a.length+b.length<=n->Ii (a.map g) (b.map g) ((mrg a b).map g)
 |_,[],b,_=>by rw[Mt];exact .nil_l _
 |_,x::a,[],_=>by rw[PW];exact(Ii.nil_l _).comm
 |0,x::a,y::b,h=>by simp at h
 |n+1,x::a,y::b,h=>by
  simp only[K8]at h
  rw[Np]
  split
  ·exact .left (XN g n a (y::b) Pw)
  exact .right (XN g n (x::a) b Pw)
def AT7{t:Up PR}{f:Int}(r:ZD l f s)(q:ZD l (FD s+1) t):mrg s t=s++t:=RM λx M y I=>by have:=QL r.gd.asc x M;have:=q.ge y I;omega
def BH7{b:Up PR}{f:Int}(h:BI l p b f s):Si p->Za l b f->TM p->Am TE p (s.map λx=>Xd l x.At):=by
 induction h with
 |@ev p b f j L d z o=>
  intro m X i;rw[AY7 TE L];refine⟨Xd l j,rfl,?_⟩
  unfold WN at o
  have e:l[j]? =some l[j]:=D9 z
  rw[e]at o
  simp only[G9,B3]at o
  have e2:Xd l j=l[j]:=by unfold Xd;rw[Z5,e];rfl
  rw[e2];exact⟨o.1,_,o.2⟩
 |seq1 L u _ ih=>
  intro m X i;rw[SZ TE L,u]
  show cat _ Ze _
  rw[Am2];exact zby
 |@seq p q P r b f s t L u G o n v=>
  intro m X i
  have k:∀x∈P::r,x∈p.dT:=λx M=>by rw[u];simp_all
  have K:=m.arg (q:=q) (by rw[u];simp);have c:=m.sub (r:=P::r) AY AY k OC;have y:=G.res K X;have V:=o.res c (X.next y);have H:=n K X (i.arg (by rw[u];simp));have w:=v c (X.next y) (i.sub AY k)
  rw[SZ TE (p:={p with dT:=P::r}) L]at w
  rw[SZ TE L,u,AT7 y V,P8];exact⟨_,_,rfl,H,w⟩
 |alt L u _ ih=>
  intro m X i;rw[AY6 TE L];exact⟨_,u,ih (m.arg u) X (i.arg u)⟩
 |all1 L u _ ih=>
  intro m X i;rw[SY TE L,u]
  show Re _ Ze _
  rw[Wi];exact zby
 |@all p q r b f s t L u E G o hd n v=>
  intro m X i
  have k:∀x∈r,x∈p.dT:=λx M=>by rw[u];simp[M]
  have H:=n (m.sub AY AY k E) X (i.sub AY k);have w:=v (m.arg (by rw[u];simp)) X (i.arg (by rw[u];simp))
  rw[SY TE (p:={p with dT:=r}) L]at H
  rw[SY TE L,u,P8]
  show Lt (r.map (Am TE)++[Am TE q]) _
  rw[TZ];exact⟨_,_,XN _ _ s t (C6 _),H,w⟩
 |plus1 L u _ ih=>
  intro m X i;rw[XZ TE L u];exact .one (ih (m.arg (by rw[u];simp)) X (i.arg (by rw[u];simp)))
 |@plus p q b f s t L u G o n v=>
  intro m X i;have K:=m.arg (q:=q) (by rw[u];simp);have y:=G.res K X;have V:=o.res m (X.next y);have H:=n K X (i.arg (by rw[u];simp));have w:=v m (X.next y) i
  rw[XZ TE L u]at w ⊢
  rw[AT7 y V,P8];exact .more H w
 |some L O u _ _ ih=>
  intro m X i;have:=i.self;omega
def Bs2{α β:Type}(g:α->β):∀{w:Up α} {u v:Up β},Ii u v (w.map g)->∃a b,u=a.map g/\v=b.map g/\Ii a b w:=by
 intro w
 induction w with
 |nil=>intro u v h;cases h;exact⟨[],[],rfl,rfl,.nil⟩
 |cons x w ih=>
  intro u v h
  cases h with
  |left h=>obtain⟨a,b,rfl,rfl,k⟩:=ih h;exact⟨x::a,b,rfl,rfl,.left k⟩
  |right h=>obtain⟨a,b,rfl,rfl,k⟩:=ih h;exact⟨a,x::b,rfl,rfl,.right k⟩
def KR{α:Type}{u v w:Up α}(h:Ii u v w):∀x,x∈w<->x∈u\/x∈v:=by
 induction h with
 |nil=>simp
 |left _ ih=>grind
 |right _ ih=>grind
def ZE (e:Up Int):Prop:=e.Pairwise (· < ·)
def Bs3{u v w:Up Int}(h:Ii u v w):ZE w->ZE u/\ZE v/\∀x∈u,∀y∈v,x≠y:=by
 induction h with
 |nil=>simp_all
 |@left z u v w h ih=>
  intro e;have⟨O,Z⟩:=List.pairwise_cons.1 e;have⟨i,k,n⟩:=ih Z;refine⟨List.pairwise_cons.2 ⟨λx M=>O x ((KR h x).2 (.inl M)),i⟩,k,λx M y I=>?_⟩
  rcases List.mem_cons.1 M with rfl|M
  ·have:=O y ((KR h y).2 (.inr I));omega
  simp_all
 |@right z u v w h ih=>
  intro e;have⟨O,Z⟩:=List.pairwise_cons.1 e;have⟨i,k,n⟩:=ih Z;refine⟨i,List.pairwise_cons.2 ⟨λx M=>O x ((KR h x).2 (.inr M)),k⟩,λx M y I=>?_⟩
  rcases List.mem_cons.1 I with rfl|I
  ·have:=O x ((KR h x).2 (.inl M));omega
  simp_all
def BY6{u v w:Up Int}(h:Ii u v w):ZE w->∀{s t:Up PR},s.map (·.At)=u->t.map (·.At)=v->(mrg s t).map (·.At)=w:=by
 induction h with
 |nil=>intro _ s t G o;rw[List.map_eq_nil_iff]at G o;subst G;subst o;rw[Mt];rfl
 | @left z u v w h ih=>
  intro e s t G o;have⟨O,Z⟩:=List.pairwise_cons.1 e
  cases s with
  |nil=>cases G
  | cons a s=>
   simp only[D2,U1]at G
   obtain⟨rfl,G⟩:=G;have k:=ih Z G o
   cases t with
   |nil=>rw[PW]at k ⊢;rw[D2,k]
   |cons b t=>
    have W:a.At<b.At:=O b.At ((KR h _).2 (.inr (by rw[<-o];simp)));rw[Np,A2 W,D2,k]
 | @right z u v w h ih=>
  intro e s t G o;have⟨O,Z⟩:=List.pairwise_cons.1 e
  cases t with
  |nil=>cases o
  | cons b t=>
   simp only[D2,U1]at o
   obtain⟨rfl,o⟩:=o;have k:=ih Z G o
   cases s with
   |nil=>rw[Mt]at k ⊢;rw[D2,k]
   |cons a s=>
    have W:b.At<a.At:=O a.At ((KR h _).2 (.inl (by rw[<-G];simp)));rw[Np,A1 AY,D2,k]
def AQ9 (l:Up B0)(p:A0):Prop:=∀(b:Up PR) (f:Int) (e:Up Int),ZE e->(∀j∈e,f<=j/\0<=j/\j<l.length)->Am TA p (e.map (Xd l))->∃s,BI l p b f s/\s.map (·.At)=e
def AD7{js:Up Int}(h:s.map (·.At)=js)(E:js≠[]):FD s∈js:=by
 have G:s≠[]:=λe=>E (by rw[<-h,e];rfl);have⟨x,_,M,e⟩:=Nv G;rw[<-h,e]
 grind
def BC6{f:Int}{js:Up Int}(n:ZE js)(W:∀j∈js,f<=j/\0<=j/\j<l.length){u v:Up B0}(e:js.map (Xd l)=u++v)(r:u≠[]):
 ∃j1 j2,js=j1++j2/\u=j1.map (Xd l)/\v=j2.map (Xd l)/\j1≠[]/\ZE j1/\ZE j2/\(∀j∈j1,f<=j/\0<=j/\j<l.length)/\∀{s:Up PR},s.map (·.At)=j1->(∀j∈j2,FD s+1<=j/\0<=j/\j<l.length)/\∀{t:Up PR},t.map (·.At)=j2->(mrg s t).map (·.At)=js:=by
 obtain⟨j1,j2,rfl,rfl,rfl⟩:=List.map_eq_append_iff.1 e;have E:j1≠[]:=λe=>r (by rw[e];rfl);have⟨i,k,h⟩:=List.pairwise_append.1 n;refine⟨j1,j2,rfl,rfl,rfl,E,i,k,λj z=>W j (Gz _ z),λ{s} G=>⟨λj z=>?_,λ{t} o=>?_⟩⟩
 ·have O:=h _ (AD7 G E) j z;have:=W j (Ma _ z);omega
 rw[RM (λx M y I=>h _ (by rw[<-G];grind) _ (by rw[<-o];grind)),P8,G,o]
def AD6 {l:Up B0}:∀(args:Up A0) (p:A0),p.Op=1->p.dT=args->args≠[]->(∀q∈args,AQ9 l q/\¬Am TA q [])->AQ9 l p
 |[],p,_,_,E,_=>absurd rfl E
 |[q],p,L,h,_,c=>by
  intro b f n j1 j2 hl
  rw[SZ TA L,h]at hl
  have hl:cat (Am TA q) Ze (n.map (Xd l)):=hl
  rw[Am2]at hl
  have⟨s,O,Z⟩:=(c q OC).1 b f n j1 j2 hl;exact⟨s,.seq1 L h O,Z⟩
 |q::w::r,p,L,h,_,c=>by
  intro b f n j1 j2 hl
  rw[SZ TA L,h]at hl
  have⟨u,v,e,i,j⟩:=hl;obtain⟨i1,i2,rfl,rfl,rfl,E,y,H,K,k⟩:=BC6 j1 j2 e (λe=>(c q OC).2 (by rw[e]at i;exact i));have⟨s,O,Z⟩:=(c q OC).1 b f i1 y K i;have⟨d,g⟩:=k Z;have ih:=AD6 (w::r) {p with dT:=w::r} L rfl OC (λx M=>c x (M1 _ M));have⟨t,P,V⟩:=ih (mrg b s) (FD s+1) i2 H d (by rw[SZ TA (p:={p with dT:=w::r}) L];exact j);exact⟨mrg s t,.seq L h O P,g V⟩
def BD7:∀(n:Nat) (args:Up A0) (p:A0),args.length=n->p.Op=3->p.dT=args->args≠[]->(∀q∈args,AQ9 l q)->AQ9 l p:=by
 intro n
 induction n with
 |zero=>simp_all
 | succ n ih=>
  intro args p w L e E c
  rcases EO args with rfl|⟨r,q,rfl⟩
  ·simp_all
  rw[EN]at *
  by_cases Q:r=[]
  ·subst Q;intro b f h j1 j2 hl
   rw[SY TA L,e]at hl
   have hl:Re (Am TA q) Ze (h.map (Xd l)):=hl
   rw[Wi]at hl
   have⟨s,O,Z⟩:=c q OC b f h j1 j2 hl;exact⟨s,.all1 L (by rw[e];rfl) O,Z⟩
  intro b f h j1 j2 hl
  rw[SY TA L,e,P8]at hl
  have hl:Lt (r.map (Am TA)++[Am TA q]) (h.map (Xd l)):=hl
  rw[TZ]at hl
  have⟨u,v,G,g,m⟩:=hl;obtain⟨i1,i2,rfl,rfl,k⟩:=Bs2 _ G;have⟨K,P,V⟩:=Bs3 k j1;have H:=KR k;have⟨s,O,Z⟩:=ih r {p with dT:=r} TQ L rfl Q (λx M=>c x (by simp[M])) b f i1 K (λj z=>j2 j ((H j).2 (.inl z))) (by rw[SY TA (p:={p with dT:=r}) L];exact g);have⟨t,d,i⟩:=c q OC b f i2 P (λj z=>j2 j ((H j).2 (.inr z))) m;exact⟨mrg s t,.all L e Q O d (λx M y I=>V _ (by rw[<-Z];grind) _ (by rw[<-i];grind)),BY6 k j1 Z i⟩
def Bm7{q:A0}(L:p.Op=4)(i:p.dT=[q])(c:AQ9 l q)(E:¬Am TA q []):AQ9 l p:=by
 intro b f r j1 j2 hl
 rw[XZ TA L i]at hl
 generalize e:r.map (Xd l)=w at hl
 induction hl generalizing b f r with
 |one h=>
  subst e;have⟨s,O,Z⟩:=c b f r j1 j2 h;exact⟨s,.plus1 L i O,Z⟩
 |@more u v n _ ih=>
  obtain⟨i1,i2,rfl,rfl,rfl,_,y,H,K,k⟩:=BC6 j1 j2 e (λe=>E (by rw[e]at n;exact n));have⟨s,O,Z⟩:=c b f i1 y K n;have⟨d,g⟩:=k Z;have⟨t,P,V⟩:=ih (mrg b s) (FD s+1) i2 H d rfl;exact⟨mrg s t,.plus L i O P,g V⟩
def BR0(h:NM p):TM p->AQ9 l p:=by
 induction h with
 | @ev p L=>
  intro n b f r j1 j2 hl
  rw[AY7 TA L]at hl
  have⟨x,e,v⟩:=hl
  obtain⟨j,rfl,rfl⟩:∃j,r=[j]/\Xd l j=x:=by
   match r,e with
   |[j],e=>simp_all
  have⟨w,y,c3⟩:=j2 j OC;obtain⟨k,rfl⟩:∃k:Nat,j=k:=⟨j.toNat,AY⟩
  have S:k<l.length:=AY
  have e2:Xd l k=l[k]:=by unfold Xd;rw[Z5,D9 S];rfl
  rw[e2]at v
  refine⟨[⟨p.Var,k⟩],.ev L w S ?_,rfl⟩;unfold WN;rw[D9 S];simp only[G9,B3];exact⟨v.1,v.2 _⟩
 |@seq p L E c ih=>exact λn=>AD6 p.dT p L rfl E λq i=>⟨ih q i (n.arg i),(c q i).nil TA⟩
 |@alt p L c ih=>
  intro n b f r j1 j2 hl
  rw[AY6 TA L]at hl
  have⟨q,i,hl⟩:=hl;have⟨s,O,Z⟩:=ih q i (n.arg i) b f r j1 j2 hl;exact⟨s,.alt L i O,Z⟩
 |@all p L E c ih=>exact λn=>BD7 _ p.dT p rfl L rfl (λe=>by rw[e]at E;simp at E) λq i=>ih q i (n.arg i)
 |@plus p q L u c ih=>exact λn=>Bm7 L u (ih (n.arg (by rw[u];simp))) (c.nil TA)
 |more L=>intro n;have:=n.self;omega
def BW8(K:Si p)(E:NM p)(H:TM p):((∃s,BI l p [] 0 s/\s.length=l.length)->Am TE p l)/\(Am TA p l->∃s,BI l p [] 0 s/\s.length=l.length):=by
 have X:Za l [] 0:=⟨QW.nil l,λ_ h=>absurd h EU,AY,AY⟩
 have Q:((List.range l.length).map λ(k:Nat)=>(k:Int)).map (Xd l)=l:=by
  refine Jk OC λi O Z=>?_;simp[Xd,Z]
 have u:ZE ((List.range l.length).map λ(k:Nat)=>(k:Int)):=by
  unfold ZE;rw[GU]
  exact List.pairwise_lt_range.imp λh=>AY
 constructor
 ·rintro⟨s,h,hl⟩;have r:=h.res K X;have k:=BH7 h K X H
  have e:s.map (·.At)=(List.range l.length).map λ(k:Nat)=>(k:Int):=by
   have key:∀(n:Nat) (s:Up PR) (k:Int),Tf s->(∀x∈s,k<=x.At/\x.At<k+n)->s.length=n->s.map (·.At)=(List.range n).map λ(i:Nat)=>k+(i:Int):=by
    intro n
    induction n with
    |zero=>simp_all
    | succ n ih=>
     intro s k G W hl
     cases s with
     |nil=>cases hl
     |cons x s=>
      have⟨O,Z⟩:=List.pairwise_cons.1 G;have M:=W x OC
      have w:=Am6 (s:=s) (k:=x.At+1) (m:=(k+((n+1:Nat):Int)-x.At-1).toNat) Z λy I=>by have:=O y I;have:=W y (M1 _ I);omega
      simp only[K8]at hl
      have v:x.At=k:=AY
      rw[D2,ih s (k+1) Z (λy I=>by have:=O y I;have:=W y (M1 _ I);omega) AY,UX,D2,Bk,v]
      congr 1
      ·simp
      refine BW λi _=>?_
      grind
   have:=key l.length s 0 r.gd.asc (λx M=>by have:=(r.gd.wf x M).2;omega) hl;rw[this]
   simp_all
  have:(s.map λx=>Xd l x.At)=l:=by
   have P:(s.map λx=>Xd l x.At)=(s.map (·.At)).map (Xd l):=by rw[Bk];rfl
   rw[P,e,Q]
  rw[this]at k
  exact k
 intro h
 have⟨s,O,Z⟩:=BR0 (l:=l) E H [] 0 ((List.range l.length).map λ(k:Nat)=>(k:Int)) u (λj z=>by
  grind) (by rw[Q];exact h)
 grind
end Go.Ab
namespace Go.Ab
open Classical
noncomputable section
variable{N:Nat}{l:Up B0}
def Ng{β σ e:Type}{m:OS (Up β×σ)}{f:σ->OS (Up β×e)}{w w':Up β}{x:σ}{o:e}(O:m=some (w,x))(Z:f x=some (w',o)):I1 m f=some (w++w',o):=by
 unfold I1;rw[O];simp only[A4,Z]
def XA {α β R:Type} {body:Unit->α->OS (Up β×(Unit⊕R))} {Q:α->β->Prop}:∀{L:Up α},(∀x∈L,∃w,body () x=some (w,.inl ())/\∀s,s∈w<->Q x s)->∃W,Ca body L ()=some (W,.inl ())/\∀s,s∈W<->∃x∈L,Q x s
 |[],_=>⟨[],rfl,OC⟩
 |x::L,h=>by
  have⟨w,O,Z⟩:=h x OC;have⟨W,e,i⟩:=XA (L:=L) λy I=>h y (by simp[I]);refine⟨w++W,by simp only[Ca,O,e],λs=>?_⟩;rw[BU,Z,i];simp
def Ab2{α β A:Type}{L:Up α}(hN:L.length<N){step:Int->OS (Up β×(Int⊕A))}{u:A}{Q:α->β->Prop}
 (G:∀(i:Nat) x,L[i]? =some x->(i:Int)<L.length->x∈L->∃w,step (i:Int)=some (w,.inl ((i:Int)+1))/\∀s,s∈w<->Q x s)(R:step (L.length:Int)=some ([],.inr u)):∃W,R7 step N 0=some (W,u)/\∀s,s∈W<->∃x∈L,Q x s:=by
 have key:∀(k i N:Nat),i+k=L.length->k<N->∃W,R7 step N (i:Int)=some (W,u)/\∀s,s∈W<->∃x∈L.drop i,Q x s:=by
  intro k
  induction k with
  |zero=>
   intro i N U hN;obtain⟨N,rfl⟩:∃m,N=m+1:=⟨N-1,AY⟩;rw[DU AY,show(i:Int)=L.length by omega];exact⟨[],by simp[R7,R],OC⟩
  |succ k ih=>
   intro i N U hN;obtain⟨N,rfl⟩:∃m,N=m+1:=⟨N-1,AY⟩
   have e:i<L.length:=AY
   have⟨w,O,Z⟩:=G i L[i] (by simp[e]) AY (I9 e);have⟨W,h,n⟩:=ih (i+1) N AY AY;rw[P1 e];refine⟨w++W,?_,λs=>?_⟩
   ·simp only[R7,O];rw[show((i:Int)+1)=((i+1:Nat):Int) by omega,h]
   rw[BU,Z,n];simp only[Cx,or_and_right,exists_or,exists_eq_left]
 simpa using key L.length 0 N AY hN
def Ow (s:Up BD):ByteArray:=Rg (Od (RW (O8 s)))
def BC9{a b:Up UInt8}(h:Rg (Od a)=Rg (Od b)):a=b:=by
 have e0:∀(a:Up UInt8) (acc:Uf),((Od a).foldl (λr n=>r.push (UInt8.ofNat n.toNat)) acc).data.toList=acc.data.toList++a:=λa=>by
  induction a with
  |nil=>intro acc;simp[Od]
  |cons x a ih=>
   intro acc
   simp only[Od,D2,DN]at ih ⊢
   rw[ih];simp
 have e:∀a:Up UInt8,(Rg (Od a)).data.toList=a:=λa=>by
  have:=e0 a ByteArray.empty
  simpa[Rg]using this
 rw[<-e a,<-e b,h]
def Bi8(hl:l.length<=10){a b:Up BD}(u:WfS l (O8 a))(W:WfS l (O8 b))(h:Ow a=Ow b):a=b:=QB (Xh hl u W (BC9 h))
def Be0(hN:TB N)(hl:l.length<=10){s:Up BD}(g:QW l (O8 s)):Aa N s=some (Ow s):=by
 have:=g.len
 rw[H9]at this
 rw[BH8 hN hl AY g.wf];rfl
def RV (out:Up (Up BD)):Up (Uf×Bool):=out.map λs=>(Ow s,true)
def Bj9 (out:Up (Up BD)) (k:Uf):∃b,Gf (RV out) k false=some (decide (∃s∈out,Ow s=k),b):=by
 unfold Gf RV
 induction out with
 |nil=>exact⟨false,OC⟩
 |cons x out ih=>
  have⟨b,ih⟩:=ih;rw[D2,List.find?_cons]
  by_cases h:Ow x=k
  ·exact⟨true,by simp[h]⟩
  refine⟨b,?_⟩;simp only[h,LF];rw[ih];simp[h]
def Bf8{out:Up (Up BD)}{s:Up BD}(h:¬∃t∈out,Ow t=Ow s):FX (RV out) (Ow s) true=some (RV (out++[s])):=by
 unfold FX;rw[A1]
 ·simp[RV]
 intro e
 rw[DS]at e
 have⟨p,f,R⟩:=e
 simp only[RV,BT]at f
 obtain⟨t,o,rfl⟩:=f;exact h ⟨t,o,by simpa using R⟩
def At7(hN:TB N)(hl:l.length<=10){R:Up (Up BD)}(C:∀s∈R,QW l (O8 s))(d:∀L:Up (Up BD),L.Nodup->(∀s∈L,s∈R)->L.length<=4096):
 ∃ m out,E8 (λ(i:(Up (Uf×Bool))×(Up (Up A3))) (H:(Up A3))=>
  (
   (Aa N H).bind λw=>
   (Gf i.1 w (false:Bool)).bind λP=>
   if P.1=true then
    some (.inl (i.1,i.2))
   else
    (FX i.1 w true).bind λv=>
    (K2 i.2 ([H])).bind λk=>
    ((
     if cmp .gtr (Ar.len k) 4096=true then
      none
     else
      some ()
    ):OS (Unit)).bind λj=>
    if(⟨l,false⟩:C2).full=true then
     some (.inr (v,k))
    else
     some (.inl (v,k))
   :OS (((Up (Uf×Bool))×(Up (Up A3)))⊕(((Up (Uf×Bool))×(Up (Up A3))))))
  ) R (([]:Up (Uf×Bool)),[])=some (.inl (m,out))/\out.Nodup/\∀s,s∈out<->s∈R:=by
 have ⟨B,O,p,out,Z,q,z,A⟩:=Dv (R:=(Up (Uf×Bool))×(Up (Up A3))) (step:=λ(i:(Up (Uf×Bool))×(Up (Up A3))) (H:(Up A3))=>
  (
   (Aa N H).bind λw=>
   (Gf i.1 w (false:Bool)).bind λP=>
   if P.1=true then
    some (.inl (i.1,i.2))
   else
    (FX i.1 w true).bind λv=>
    (K2 i.2 ([H])).bind λk=>
    ((
     if cmp .gtr (Ar.len k) 4096=true then
      none
     else
      some ()
    ):OS (Unit)).bind λj=>
    if(⟨l,false⟩:C2).full=true then
     some (.inr (v,k))
    else
     some (.inl (v,k))
   :OS (((Up (Uf×Bool))×(Up (Up A3)))⊕(((Up (Uf×Bool))×(Up (Up A3)))))))
  (λr s=>∃p out,p++r=R/\s=(RV out,out)/\out.Nodup/\∀x,x∈out<->x∈p) (λy r s ⟨p,out,f,e2,o,e4⟩=>by
   subst e2
   have I:y∈R:=by rw[<-f];simp
   have K:∀x∈out,x∈R:=λx M=>by rw[<-f];simp[(e4 x).1 M]
   rw[Be0 hN hl (C y I)];simp only[A4];have⟨b,W⟩:=Bj9 out (Ow y);rw[W];simp only[A4];have n:(∃s∈out,Ow s=Ow y)<->y∈out:=⟨λ⟨s,G,e⟩=>by rw[<-Bi8 hl (C s (K s G)).wf (C y I).wf e];exact G,λh=>⟨y,h,rfl⟩⟩
   by_cases c:y∈out
   ·rw[A2 (I8 (n.2 c))];refine⟨_,rfl,p++[y],out,by simpa using f,rfl,o,λx=>?_⟩;rw[e4,BU,Bm]
    constructor
    ·exact .inl
    rintro(h|rfl)
    ·exact h
    exact(e4 _).1 c
   have E:(out++[y]).Nodup:=by
    rw[Jo];exact⟨o,OC,λa u b g=>by rw[List.mem_singleton.1 g];intro e;exact c (e▸u)⟩
   have V:(out++[y]).length<=4096:=d _ E λx M=>by
    rcases List.mem_append.1 M with h|h
    ·exact K x h
    rw[List.mem_singleton.1 h];exact I
   rw[A1 (by simpa using λx M e=>c (n.1 ⟨x,M,e⟩)),Bf8 (λe=>c (n.1 e))];simp only[A4];rw[T6 (by simp at V ⊢;omega)];simp only[A4];rw[A1 (Ek (by rw[A9];omega))];refine⟨_,rfl,p++[y],out++[y],by simpa using f,rfl,E,λx=>?_⟩
   rw[BU,BU,e4]) (l:=R) (s:=([],[])) ⟨[],[],rfl,rfl,OC,OC⟩
 subst q
 rw[F2]at Z
 subst Z;exact⟨_,_,O,z,A⟩
def Lh (N n:Nat)(c:C2)(p:A0)(o:Up BD)(f:Int):OS (Up (Up BD)):=
 if p.Op=0 then X5 N c p o f else if p.Op=1 then W5 N n c p o f else if p.Op=2 then W6 N n c p o f else if p.Op=3 then W7 N n c p o f else if p.Op=4 then V2 N n c p o f else M3 N n c p o f
def BF1 (N n:Nat)(l:Up B0)(p:A0)(o:Up BD)(f:Int):Prop:=∃L,G6 N n ⟨l,false⟩ p o f=some L/\L.Nodup/\∀s,s∈L<->BI l p (O8 o) f (O8 s)
def MY{p:A0}(m:Si p)(G:WD l.length p){b:Up PR}{f:Int}(X:Za l b f){L:Up (Up BD)}(E:L.Nodup)(h:∀s∈L,BI l p b f (O8 s)):L.length<=1500:=by
 have:=card m G (L:=L.map O8) (by
  rw[List.Nodup,GU]
  exact E.imp λi e=>i (QB e)) λs G=>by
   obtain⟨t,o,rfl⟩:=List.mem_map.1 G;exact⟨((h t o).res m X).gd,b,f,h t o⟩
 rwa[H9]at this
def BW2(hN:TB N)(hl:l.length<=10){p:A0}(P:Si p)(G:WD l.length p){o:Up BD}{f:Int}(X:Za l (O8 o) f){n:Nat}{R:Up (Up BD)}(h:Lh N n ⟨l,false⟩ p o f=some R)(K:∀s,s∈R<->BI l p (O8 o) f (O8 s)):BF1 N (n+1) l p o f:=by
 have⟨m,out,O,Z,c⟩:=At7 hN hl (R:=R) (λs G=>(((K s).1 G).res P X).gd) λL j y=>by have:=MY P G X j λs G=>(K s).1 (y s G);omega
 refine⟨out,?_,Z,λs=>(c s).trans (K s)⟩;have q:=P.self.op;unfold G6 Ho
 have key:∀{F:Up (Up BD)->OS (Up (Up BD))},((C4 ([λk r v w=>X5 N k r v w,λk r v w=>W5 N n k r v w,λk r v w=>W6 N n k r v w,λk r v w=>W7 N n k r v w,λk r v w=>V2 N n k r v w,λk r v w=>M3 N n k r v w,λk r v w=>M3 N n k r v w,λk r v w=>M3 N n k r v w]:Up (C2->A0->(Up A3)->Int->OS (Up (Up A3)))) p.Op).bind λH=>(H ⟨l,false⟩ p o f).bind F)=F R:=by
  intro F
  have W:∀{g:C2->A0->(Up A3)->Int->OS (Up (Up A3))} {L:Up (C2->A0->(Up A3)->Int->OS (Up (Up A3)))} {i:Int},C4 L i=some g->g ⟨l,false⟩ p o f=some R->((C4 L i).bind λH=>(H ⟨l,false⟩ p o f).bind F)=F R:=λV e2=>by rw[V];simp only[A4,e2]
  have d:p.Op=0\/p.Op=1\/p.Op=2\/p.Op=3\/p.Op=4\/p.Op=5\/p.Op=6\/p.Op=7:=AY
  unfold Lh at h
  rcases d with e|e|e|e|e|e|e|e<;>(rw[e]at h ⊢;exact W rfl (by simpa using h))
 simp only[A4];rw[key,O];rfl
end
end Go.Ab
open List (Nodup)
open Go.Ab.Ar (an ar cmp nt)
namespace Go.Ab
open Classical
noncomputable section
variable{f k:Nat}{o u:Up BD}{p:A0}{β:Type}
def GD{α A B:Type}{L:Up α}{N:Nat}{step:Int->OS (Up β×(Int⊕A))}{u:A}{f:A->OS (Up β×B)}{y:B}{Q:α->β->Prop}{G:β->Prop}(hN:L.length<N)
 (h:∀(i:Nat) x,L[i]? =some x->(i:Int)<L.length->x∈L->∃w,step (i:Int)=some (w,.inl ((i:Int)+1))/\∀s,s∈w<->Q x s)(R:step (L.length:Int)=some ([],.inr u))(q:f u=some ([],y))(e:∀s,(∃x∈L,Q x s)<->G s):∃W,I1 (R7 step N 0) f=some (W,y)/\∀s,s∈W<->G s:=by
 have⟨W,O,Z⟩:=Ab2 hN h R;exact⟨W++[],Ng O q,λs=>by rw[F2];exact(Z s).trans (e s)⟩
def TU{m:OS (Up β×Unit)}{G:β->Prop}(h:∃W,m=some (W,())/\∀s,s∈W<->G s):∃R,(m.bind λq=>some q.1)=some R/\∀s,s∈R<->G s:=by
 have⟨W,O,Z⟩:=h;exact⟨W,by rw[O];rfl,Z⟩
def Nn{A:Type}{x:β}{o:A}{P:β->Prop}(h:∀s,s=x<->P s):∃w,I1 (some ([x],())) (λ_=>some ([],o))=some (w,o)/\∀s,s∈w<->P s:=⟨[x],rfl,λs=>by rw[Bm];exact h s⟩
section
variable {N:Nat}(hN:TB N){l:List B0}(hl:l.length<=10)
include hN hl
theorem By9{f:Int}(X:Za l (O8 o) f)(r:ZD l f (O8 u)):∃c,X7 N o u=some c/\O8 c=mrg (O8 o) (O8 u):=by
 have O:=X.gd.len;have Z:=r.gd.len
 rw[H9]at O Z
 exact Te (n:=l.length) AY AY AY X.gd.asc r.gd.asc (X.apart r) X.gd.wf.ins r.gd.wf.ins
theorem By8{t:Up BD}{f g:Int}(r:ZD l f (O8 u))(q:ZD l g (O8 t))(hd:Io (O8 u) (O8 t)):∃c,X7 N u t=some c/\O8 c=mrg (O8 u) (O8 t):=by
 have O:=r.gd.len;have Z:=q.gd.len
 rw[H9]at O Z
 exact Te (n:=l.length) AY AY AY r.gd.asc q.gd.asc hd r.gd.wf.ins q.gd.wf.ins
theorem By6{f:Int}(r:ZD l f (O8 u)):Y3 N u=some (FD (O8 u)):=by
 have O:=r.gd.len
 rw[H9]at O
 exact Aq7 (λe=>r.ne (by rw[e];rfl)) AY
theorem AS9{q:A0}{f:Int}{n:Nat}(C:Si q)(J:WD l.length q)(X:Za l (O8 o) f)(E:BF1 N n l q o f){x5:Up BD->Int->OS (Up (Up BD))}{Qr:Up BD->Up BD->Prop}
 (F:∀u,BI l q (O8 o) f (O8 u)->∀A,O8 A=mrg (O8 o) (O8 u)->∃T,x5 A (FD (O8 u)+1)=some T/\T.length<=4096/\∀t,t∈T<->Qr u t)(v:∀u t,BI l q (O8 o) f (O8 u)->Qr u t->ZD l (FD (O8 u)+1) (O8 t)):
 ∃R,V1 N (n+2) ⟨l,false⟩ q o f x5=some R/\∀s,s∈R<->∃u t,BI l q (O8 o) f (O8 u)/\Qr u t/\O8 s=mrg (O8 u) (O8 t):=by
 have⟨L,O,Z,y⟩:=E;have S:=MY C J X Z λs G=>(y s).1 G;unfold V1 Ac;refine TU ?_;rw[O];simp only[A4];refine GD (L:=L) (u:=.inl ()) (Q:=λu s=>∃t,Qr u t/\O8 s=mrg (O8 u) (O8 t)) AY ?_ ?_ rfl ?_
 ·intro i u w U p;have k:=(y u).1 p;have r:=k.res C X;have m:=r.gd.lst r.ne;have⟨c,H,K⟩:=By9 hN hl X r;have⟨T,M,W,V⟩:=F u k c K;have e:ar .add .i64 (i:Int) 1=i+1:=E6 AY AY;rw[A2 (EE U),F3,w];simp only[A4];rw[H,By6 hN hl r];simp only[A4];rw[E6 (a:=FD (O8 u)) AY AY,M];simp only[A4,e];refine GD (L:=T) (u:=.inl ()) (Q:=λt s=>O8 s=mrg (O8 u) (O8 t)) AY ?_ ?_ rfl ?_
  ·intro j t h z P;have I:=(V t).1 P;have B:=v u t k I;have⟨d,D,g⟩:=By8 hN hl r B (r.seq B).2;have e:ar .add .i64 (j:Int) 1=j+1:=E6 AY AY;rw[A2 (EE z),F3,h];simp only[A4,D4,B6,D,e];exact Nn λs=>⟨λe=>by rw[e,g],λe=>QB (e.trans g.symm)⟩
  ·rw[A1 Gr]
  intro s
  constructor
  ·rintro⟨t,h,e⟩;exact⟨t,(V t).1 h,e⟩
  rintro⟨t,h,e⟩;exact⟨t,(V t).2 h,e⟩
 ·rw[A1 Gr]
 intro s
 constructor
 ·rintro⟨u,w,t,h,e⟩;exact⟨u,t,(y u).1 w,h,e⟩
 rintro⟨u,t,w,h,e⟩;exact⟨u,(y u).2 w,t,h,e⟩
def mu (l:Up B0)(p:A0)(f:Nat):Nat:=p.pre.length*(l.length+2)+(l.length-f)
omit hN hl in
theorem NS{q:A0}{g:Nat}(h:q.pre.length<p.pre.length):mu l q g+1<=mu l p f:=by
 unfold mu;have:=J0 (l.length+2) (show q.pre.length+1<=p.pre.length from h)
 rw[F9]at this
 omega
omit hN hl in
theorem BM5{g:Nat}(h:f<g)(e:g<=l.length):mu l p g+1<=mu l p f:=by unfold mu;omega
def IHk (N:Nat)(l:Up B0)(k:Nat):Prop:=∀(p:A0) (o:Up BD) (f n:Nat),mu l p f<=k->8*k+8<=n->p.pre.length<=64->Si p->WD l.length p->Za l (O8 o) f->BF1 N n l p o f
omit hN hl in
theorem AX5{u:Up PR}{f:Int}(r:ZD l f u)(L:0<=f):∃g:Nat,FD u+1=(g:Int)/\g<=l.length/\f<g:=by
 have:=r.gd.lst r.ne;have⟨x,_,M,e⟩:=Nv r.ne;have:=r.ge x M;exact⟨(FD u+1).toNat,AY,AY,AY⟩
theorem AM7(m:Si p)(L:p.Op=0)(X:Za l (O8 o) f)(n:Nat):∃R,Lh N n ⟨l,false⟩ p o f=some R/\∀s,s∈R<->BI l p (O8 o) f (O8 s):=by
 have:=X.f1;refine⟨_,by unfold Lh;rw[A2 L];exact Bf7 hN hl m.self.cond X.gd false AY,λs=>?_⟩;rw[AX3,BI.i0 L]
 constructor
 ·rintro⟨j,O,Z,h,rfl⟩;exact⟨j,AY,AY,h,rfl⟩
 rintro⟨j,O,Z,h,e⟩;exact⟨j,AY,AY,h,QB (e.trans rfl)⟩
theorem Bc9{L:Up (Up BD)}(k:L.length<=1000000):∃R,BC N L=some R/\∀s,s∈R<->s∈L:=by
 unfold BC L9;refine TU ?_;refine GD (L:=L) (u:=()) (Q:=λx s=>s=x) AY ?_ ?_ rfl ?_
 ·intro i u h U p;have e:ar .add .i64 (i:Int) 1=i+1:=E6 AY AY;rw[A2 (EE U),F3,h];simp only[A4,e];exact Nn λs=>GM
 ·rw[A1 Gr]
 intro s;simp
theorem BB1(ih:IHk N l k)(i:Si p)(hp:p.pre.length<=64)(G:WD l.length p)(K:p.Op=1)(X:Za l (O8 o) f){n:Nat}(Q:mu l p f<=k+1)(E:8*k+15<=n):∃R,Lh N n ⟨l,false⟩ p o f=some R/\∀s,s∈R<->BI l p (O8 o) f (O8 s):=by
 unfold Lh;rw[A1 AY,A2 K];obtain⟨n,rfl⟩:∃m,n=m+1:=⟨n-1,AY⟩;unfold W5
 match h:p.dT with
 |[]=>exact absurd h (i.self.a1 AY AY)
 |[q]=>
  have e:q∈p.dT:=by rw[h];simp
  have:=NS (l:=l) (f:=f) (g:=f) (W1 e);have⟨L,O,Z,z⟩:=ih q o f n AY AY (by have:=W1 e;omega) (i.arg e) (G.arg e) X;have d:=MY (i.arg e) (G.arg e) X Z λs G=>(z s).1 G;have⟨R,D,F⟩:=Bc9 hN hl (L:=L) AY;rw[A2 (show cmp .eql (Ar.len [q]) 1=true from rfl),Td];simp only[A4];rw[O];simp only[A4];rw[D];exact⟨R,rfl,λs=>(F s).trans ((z s).trans (BI.i1 K h).symm)⟩
 | q::H::r=>
  have e:q∈p.dT:=by rw[h];simp
  have v:Si {p with dT:=H::r}:=i.sub AY AY (λx M=>by rw[h];exact M1 _ M) OC;have y:WD l.length {p with dT:=H::r}:=G.tail h;rw[A1 (by rw[D8,A9];simp;omega),WO,Td];simp only[A4];obtain⟨n,rfl⟩:∃m,n=m+2:=⟨n-2,AY⟩;have m1:=NS (l:=l) (f:=f) (g:=f) (W1 e)
  have⟨R,O,Z⟩:=AS9 hN hl (i.arg e) (G.arg e) X (ih q o f n AY AY (by have:=W1 e;omega) (i.arg e) (G.arg e) X) (x5:=λY y2=>U3 N (n+2) Y y2 ⟨l,false⟩ {p with dT:=H::r})
   (Qr:=λu t=>BI l {p with dT:=H::r} (mrg (O8 o) (O8 u)) (FD (O8 u)+1) (O8 t)) (λu V A j=>by
    have B:=V.res (i.arg e) X;have⟨g,P,J,I⟩:=AX5 B X.f0
    have w:Za l (O8 A) (g:Int):=by rw[j,<-P];exact X.next B
    have m2:=NS (l:=l) (f:=f) (g:=g) (Wp h);have⟨T,U,W,C⟩:=ih {p with dT:=H::r} A g (n+1) AY AY (by have:=Wp h;omega) v y w;have d:=MY v y w W λs G=>(C s).1 G;refine⟨T,?_,AY,λt=>?_⟩
    ·unfold U3;rw[P,U];rfl
    rw[C,j,P]) (λu t V S=>S.res v (X.next (V.res (i.arg e) X)))
  rw[O];refine⟨R,rfl,λs=>(Z s).trans ?_⟩;rw[BI.i1c K h]
  constructor
  ·rintro⟨u,t,a,b,c⟩;exact⟨O8 u,O8 t,a,b,c⟩
  rintro⟨u,t,a,b,c⟩;exact⟨u.map SD,t.map SD,by rw[Ak];exact a,by simp only[Ak];exact b,by rw[Ak,Ak];exact c⟩
end
section
variable {N:Nat}(hN:TB N){l:List B0}(hl:l.length<=10)
include hN hl
theorem BB2(ih:IHk N l k)(y:Si p)(V:p.pre.length<=64)(G:WD l.length p)(w:p.Op=2)(X:Za l (O8 o) f){n:Nat}(K:mu l p f<=k+1)(E:8*k+15<=n):∃R,Lh N n ⟨l,false⟩ p o f=some R/\∀s,s∈R<->BI l p (O8 o) f (O8 s):=by
 unfold Lh;rw[A1 AY,A1 AY,A2 w];obtain⟨n,rfl⟩:∃m,n=m+2:=⟨n-2,AY⟩;unfold W6 Aw;have H:=DG p;refine TU ?_;refine GD (L:=p.dT) (u:=()) (Q:=λq s=>BI l q (O8 o) f (O8 s)) AY ?_ ?_ rfl ?_
 ·intro i q v U c;have:=NS (l:=l) (f:=f) (g:=f) (W1 c);have⟨L,O,Z,r⟩:=ih q o f n AY AY (by have:=W1 c;omega) (y.arg c) (G.arg c) X;have d:=MY (y.arg c) (G.arg c) X Z λs G=>(r s).1 G;have e:ar .add .i64 (i:Int) 1=i+1:=E6 AY AY;rw[A2 (EE U),F3,v];simp only[A4,e];rw[O];simp only[A4];refine GD (L:=L) (u:=()) (Q:=λx s=>s=x) AY ?_ ?_ rfl ?_
  ·intro j u v z P;have e:ar .add .i64 (j:Int) 1=j+1:=E6 AY AY;rw[A2 (EE z),F3,v];simp only[A4,e];exact Nn λs=>GM
  ·rw[A1 Gr]
  intro s
  constructor
  ·rintro⟨x,M,rfl⟩;exact(r _).1 M
  intro h;exact⟨s,(r s).2 h,rfl⟩
 ·rw[A1 Gr]
 intro s;exact(BI.i2 w).symm
theorem Bk6(ih:IHk N l k)(i:Si p)(A:p.pre.length<=64)(G:WD l.length p)(H:5<=p.Op)(X:Za l (O8 o) f){n:Nat}(P:mu l p f<=k+1)(E:8*k+15<=n):∃R,Lh N n ⟨l,false⟩ p o f=some R/\∀s,s∈R<->BI l p (O8 o) f (O8 s):=by
 unfold Lh;rw[A1 AY,A1 AY,A1 AY,A1 AY,A1 AY];obtain⟨n,rfl⟩:∃m,n=m+2:=⟨n-2,AY⟩;unfold M3 Ad;have⟨q,w⟩:=i.self.a2 AY;have r:=i.self.op
 have c:q∈p.dT:=by rw[w];simp
 have:=NS (l:=l) (f:=f) (g:=f) (W1 c);have⟨L,O,Z,v⟩:=ih q o f n AY AY (by have:=W1 c;omega) (i.arg c) (G.arg c) X;have d:=MY (i.arg c) (G.arg c) X Z λs G=>(v s).1 G;refine TU ?_;rw[w,Td];simp only[A4];rw[O];simp only[A4];refine GD (L:=L) (u:=()) (Q:=λx s=>Uw l p (O8 o) (O8 x)=true/\s=x) AY ?_ ?_ rfl ?_
 ·intro j u V z K;have y:=((v u).1 K).res (i.arg c) X;have e:ar .add .i64 (j:Int) 1=j+1:=E6 AY AY;rw[A2 (EE z),F3,V];simp only[A4,e];rw[Be1 hN hl i.self.cond ⟨H,r.2⟩ X.gd y.gd (λe=>y.ne (by rw[e];rfl)) (X.apart y)];simp only[A4]
  by_cases S:Uw l p (O8 o) (O8 u)=true
  ·rw[A2 S];exact Nn λs=>⟨λe=>⟨S,e⟩,λe=>e.2⟩
  rw[A1 S];exact⟨[],rfl,λs=>⟨λh=>absurd h EU,λh=>absurd h.1 S⟩⟩
 ·rw[A1 Gr]
 intro s;rw[BI.i5 H r.2 w]
 constructor
 ·rintro⟨x,M,S,rfl⟩;exact⟨(v _).1 M,S⟩
 rintro⟨h,S⟩;exact⟨s,(v s).2 h,S,rfl⟩
theorem Bk7(ih:IHk N l k)(r:Si p)(hp:p.pre.length<=64)(G:WD l.length p)(F:p.Op=4)(X:Za l (O8 o) f){n:Nat}(ab:mu l p f<=k+1)(E:8*k+15<=n):∃R,Lh N n ⟨l,false⟩ p o f=some R/\∀s,s∈R<->BI l p (O8 o) f (O8 s):=by
 unfold Lh;rw[A1 AY,A1 AY,A1 AY,A1 AY,A2 F];obtain⟨n,rfl⟩:∃m,n=m+2:=⟨n-2,AY⟩;unfold V2 Ae;have⟨q,H⟩:=r.self.a2 AY
 have i:q∈p.dT:=by rw[H];simp
 have m1:=NS (l:=l) (f:=f) (g:=f) (W1 i);have⟨L,O,Z,y⟩:=ih q o f n AY AY (by have:=W1 i;omega) (r.arg i) (G.arg i) X;have d:=MY (r.arg i) (G.arg i) X Z λs G=>(y s).1 G
 have U:C4 p.dT 0=some q:=by rw[H];rfl
 rw[U];simp only[A4];rw[O];simp only[A4];obtain⟨n,rfl⟩:∃m,n=m+2:=⟨n-2,AY⟩
 have⟨R,r1,I⟩:=AS9 hN hl (r.arg i) (G.arg i) X (ih q o f n AY AY (by have:=W1 i;omega) (r.arg i) (G.arg i) X) (x5:=λy1 y2=>Q2 N (n+2) y1 y2 ⟨l,false⟩ p)
  (Qr:=λu t=>BI l p (mrg (O8 o) (O8 u)) (FD (O8 u)+1) (O8 t)) (λu w J D=>by
   have S:=w.res (r.arg i) X;have⟨g,K,P,aa⟩:=AX5 S X.f0
   have v:Za l (O8 J) (g:Int):=by rw[D,<-K];exact X.next S
   have m2:=BM5 (p:=p) (show f<g by omega) P;have⟨T,t1,t2,Y⟩:=ih p J g (n+1) AY AY hp r G v;have d:=MY r G v t2 λs G=>(Y s).1 G;refine⟨T,?_,AY,λt=>?_⟩
   ·unfold Q2;rw[K,t1];rfl
   rw[Y,D,K]) (λu t w ht=>ht.res r (X.next (w.res (r.arg i) X)))
 have⟨W,w1,w2⟩:=Ab2 (L:=L) (N:=N) (A:=Unit⊕Unit) (u:=.inl ()) (Q:=λx s=>s=x) (step:=λ(B:Int)=>
  (
   if cmp .lss B (Ar.len L)=true then
    (C4 L B).bind λx9=>
    if(⟨l,false⟩:C2).full=true then
     some ([],.inr (.inr ()))
    else
     I1 (some ([x9],())) λ_=>
     some ([],.inl (ar .add .i64 B 1))
   else
    some ([],.inr (.inl ()))
   :OS (Up (Up A3)×((Int)⊕(Unit⊕Unit))))) AY (λj u w z hm=>by
  have e:ar .add .i64 (j:Int) 1=j+1:=E6 AY AY;rw[A2 (EE z),F3,w];simp only[A4,e,D4,B6]
  exact Nn λs=>GM) (by rw[A1 Gr])
 have⟨V,v1,v2⟩:=XA (L:=R) (R:=Unit) (Q:=λx s=>s=x) (body:=λ(_:Unit) (C:(Up A3))=>
  (
   I1 (some ([C],())) λ_=>
   some ([],.inl ())
   :OS (Up (Up A3)×(Unit⊕Unit)))) λx M=>Nn λs=>GM
 refine⟨W++(V++[]),?_,λs=>?_⟩
 ·refine(J8 (λm:OS (Up (Up BD)×Unit)=>m.bind λq=>some q.1) (Ng (o:=()) (w':=V++[]) w1 ?_)).trans rfl
  dsimp only
  rw[r1];simp only[A4];exact Ng v1 rfl
 rw[F2,BU,w2,v2,BI.i4 F H];refine or_congr ?_ ?_
 ·constructor
  ·rintro⟨x,M,rfl⟩;exact(y _).1 M
  intro h;exact⟨s,(y s).2 h,rfl⟩
 constructor
 ·rintro⟨x,M,rfl⟩;have⟨u,t,a,b,c⟩:=(I _).1 M;exact⟨O8 u,O8 t,a,b,c⟩
 rintro⟨u,t,a,b,c⟩;exact⟨s,(I s).2 ⟨u.map SD,t.map SD,by rw[Ak];exact a,by simp only[Ak];exact b,by rw[Ak,Ak];exact c⟩,rfl⟩
def MxQ:Up (Up (Up BD))->Up PR->Up PR->Prop
 |[],w,s=>s=w
 |L::r,w,s=>∃u∈L,Io w (O8 u)/\MxQ r (mrg w (O8 u)) s
omit hN hl in
theorem MxQ.snoc:∀{P:Up (Up (Up BD))} {L:Up (Up BD)} {w s:Up PR},MxQ (P++[L]) w s<->∃t,MxQ P w t/\∃u∈L,Io t (O8 u)/\s=mrg t (O8 u)
 |[],L,w,s=>by simp[MxQ]
 |M::P,L,w,s=>by
  show(∃u∈M,Io w (O8 u)/\MxQ (P++[L]) (mrg w (O8 u)) s)<->_
  constructor
  ·rintro⟨u,i,e,h⟩;have⟨t,o,h⟩:=MxQ.snoc.1 h;exact⟨t,⟨u,i,e,o⟩,h⟩
  rintro⟨t,⟨u,i,e,o⟩,h⟩;exact⟨u,i,e,MxQ.snoc.2 ⟨t,o,h⟩⟩
theorem Aw9 {f:Int}:∀{P:Up (Up (Up BD))} {w:Up BD} {n:Nat},P.length<n->(∀L∈P,L.length<=4096/\∀u∈L,ZD l f (O8 u))->QW l (O8 w)->∃R,Bp N n P w=some R/\∀s,s∈R<->MxQ P (O8 w) (O8 s)
 |[],w,n,E,_,_=>by
  obtain⟨n,rfl⟩:∃m,n=m+1:=⟨n-1,AY⟩;unfold Bp;refine⟨[w],by rw[A2 (show cmp .eql (Ar.len ([]:List (List (List BD)))) 0=true from rfl)];rfl,λs=>?_⟩;rw[Bm];exact⟨λe=>by rw[e];rfl,λe=>QB e⟩
 | L::P,w,n,E,g,v=>by
  obtain⟨n,rfl⟩:∃m,n=m+1:=⟨n-1,AY⟩;unfold Bp;have V:=v.len
  rw[H9]at V
  have⟨o,H⟩:=g L OC;refine TU ?_;rw[A1 (by rw[D8,A9];simp;omega),Td];simp only[A4];refine GD (L:=L) (u:=()) (Q:=λu s=>Io (O8 w) (O8 u)/\MxQ P (mrg (O8 w) (O8 u)) (O8 s)) AY ?_ ?_ rfl ?_
  ·intro i u r U p;have y:=H u p;have K:=y.gd.len
   rw[H9]at K
   have e:ar .add .i64 (i:Int) 1=i+1:=E6 AY AY;rw[A2 (EE U),F3,r];simp only[A4,e];rw[Bd7 hN AY AY,WO];simp only[A4]
   by_cases k:Io (O8 w) (O8 u)
   ·rw[Aa6.2 k,A2 (show nt false=true from rfl)];have⟨c,j,d⟩:=Te (N:=N) (n:=l.length) AY AY AY v.asc y.gd.asc k v.wf.ins y.gd.wf.ins;have⟨R,q,z⟩:=Aw9 (P:=P) (w:=c) (n:=n) (by simp at E;omega) (λL H=>g L (by simp[H])) (by rw[d];exact v.mrg y.gd k);rw[j];simp only[A4];rw[q];refine⟨R++[],Ng rfl rfl,λs=>?_⟩;rw[F2,z,d];exact⟨λh=>⟨k,h⟩,λh=>h.2⟩
   have:Ur (O8 w) (O8 u)=true:=by
    cases h:Ur (O8 w) (O8 u)with
    |true=>rfl
    |false=>exact absurd (Aa6.1 h) k
   rw[this,A1 (show¬nt true=true by decide)];exact⟨[],rfl,λs=>⟨λh=>absurd h EU,λh=>absurd h.1 k⟩⟩
  ·rw[A1 Gr]
  intro s
  constructor
  ·rintro⟨u,r,k,h⟩;exact⟨u,r,k,h⟩
  rintro⟨u,r,k,h⟩;exact⟨u,r,k,h⟩
omit hN hl in
theorem BY7{G:A0->Up (Up BD)}{b:Up PR}{f:Int}:∀(n:Nat) {r:Up A0} {p:A0},r.length<=n->p.Op=3->p.dT=r->r≠[]->(∀q∈r,∀s,s∈G q<->BI l q b f (O8 s))->∀s,MxQ (r.map G) [] s<->BI l p b f s:=by
 intro n
 induction n with
 |zero=>intro r p hl _ _ E;exact absurd (GC AY) E
 | succ n ih=>
  intro r p w L H E i s
  rcases EO r with rfl|⟨m,q,rfl⟩
  ·exact absurd rfl E
  rw[EN]at *
  rw[P8,D2,G8,MxQ.snoc]
  by_cases y:m=[]
  ·subst y;rw[BI.i3 L H]
   constructor
   ·rintro⟨t,o,u,k,_,e⟩;have o:t=[]:=o;rw[e,o,Mt];exact(i q OC u).1 k
   intro h;refine⟨[],rfl,s.map SD,(i q OC _).2 (by rw[Ak];exact h),λx M=>absurd M EU,?_⟩;rw[Ak,Mt]
  rw[BI.i3c L H y];have v:=λt=>ih (r:=m) (p:={p with dT:=m}) (by simp at w;omega) L rfl y (λq c=>i q (by simp[c])) t
  constructor
  ·rintro⟨t,o,u,k,hd,e⟩;exact⟨t,O8 u,(v t).1 o,(i q OC u).1 k,hd,e⟩
  rintro⟨t,u,o,k,hd,e⟩;exact⟨t,(v t).2 o,u.map SD,(i q OC _).2 (by rw[Ak];exact k),by rw[Ak];exact hd,by rw[Ak];exact e⟩
theorem BB3(ih:IHk N l k)(v:Si p)(hp:p.pre.length<=64)(r:WD l.length p)(z:p.Op=3)(X:Za l (O8 o) f){n:Nat}(I:mu l p f<=k+1)(E:8*k+15<=n):∃R,Lh N n ⟨l,false⟩ p o f=some R/\∀s,s∈R<->BI l p (O8 o) f (O8 s):=by
 unfold Lh;rw[A1 AY,A1 AY,A1 AY,A2 z];obtain⟨n,rfl⟩:∃m,n=m+2:=⟨n-2,AY⟩;unfold W7 Ax;have F:=DG p
 let G:A0->Up (Up BD):=λq=>(G6 N n ⟨l,false⟩ q o f).getD []
 have H:∀q∈p.dT,G6 N n ⟨l,false⟩ q o f=some (G q)/\(∀s,s∈G q<->BI l q (O8 o) f (O8 s))/\(G q).length<=1500:=λq c=>by
  have:=NS (l:=l) (f:=f) (g:=f) (W1 c);have⟨L,O,Z,y⟩:=ih q o f n AY AY (by have:=W1 c;omega) (v.arg c) (r.arg c) X;have d:=MY (v.arg c) (r.arg c) X Z λs r=>(y s).1 r
  have e:G q=L:=by show(G6 N n ⟨l,false⟩ q o f).getD []=L;rw[O];rfl
  exact⟨by rw[e];exact O,by rw[e];exact y,by rw[e];exact d⟩
 have key:∀(k i M:Nat) (acc:Up (Up (Up BD))),i+k=p.dT.length->k<M->acc.length<=i->R7 (λ(A:(Up (Up (Up A3)))×Int)=>
  (
   if cmp .lss A.2 (Ar.len p.dT)=true then
    (C4 p.dT A.2).bind λx8=>
    (G6 N n ⟨l,false⟩ x8 o f).bind λY=>
    (K2 A.1 ([Y])).bind λj=>
    some ([],.inl (j,ar .add .i64 A.2 1))
   else
    some ([],.inr A.1)
   :OS (Up (Up A3)×(((Up (Up (Up A3)))×Int)⊕(((Up (Up (Up A3))))))))) M (acc,(i:Int))=some ([],acc++(p.dT.drop i).map G):=by
  intro k
  induction k with
  |zero=>
   intro i M acc U D _;obtain⟨M,rfl⟩:∃m,M=m+1:=⟨M-1,AY⟩;rw[DU AY];unfold R7
   dsimp only
   rw[A1 (Gc (by rw[A9];omega))];simp
  |succ k V=>
   intro i M acc U D B;obtain⟨M,rfl⟩:∃m,M=m+1:=⟨M-1,AY⟩
   have h:i<p.dT.length:=AY
   have e:ar .add .i64 (i:Int) 1=i+1:=E6 AY AY;rw[P1 h];unfold R7
   dsimp only
   rw[A2 (EE AY),F3,D9 h];simp only[A4];rw[(H _ (I9 h)).1];simp only[A4];rw[T6 Ts];simp only[A4,e];rw[show((i:Int)+1)=((i+1:Nat):Int) by omega,V (i+1) M _ AY AY Ts,D2,E1];rfl
 have S:=key p.dT.length 0 N [] AY AY OC
 simp only[CA,K3]at S
 have K:((0:Nat):Int)=0:=rfl
 rw[K]at S
 have⟨R,Q,W⟩:=Aw9 hN hl (f:=f) (P:=p.dT.map G) (w:=[]) (n:=N) Ts (λL C=>by
  obtain⟨q,c,rfl⟩:=List.mem_map.1 C;have⟨_,Z,y⟩:=H q c
  exact⟨AY,λu J=>((Z u).1 J).res (v.arg c) X⟩) (QW.nil l)
 refine TU ⟨[]++(R++[]),Ng S ?_,λs=>?_⟩
 ·rw[A2 (show nt (⟨l,false⟩:C2).full=true from rfl),Q];simp only[A4];exact Ng rfl rfl
 rw[K3,F2,W];exact BY7 _ (C6 _) z rfl (v.self.a1 AY AY) (λq c=>(H q c).2.1) _
theorem Bg1:∀k,IHk N l k:=by
 intro k
 induction k with
 |zero=>
  intro p o f n e;exfalso;have O:=A0.pre_eq p
  have:1<=p.pre.length:=by rw[O];simp
  unfold mu at e
  have:=J0 (l.length+2) this;omega
 | succ k ih=>
  intro p o f n e E i h G X;obtain⟨n,rfl⟩:∃m,n=m+1:=⟨n-1,AY⟩;have w:=h.self.op
  have q:∃R,Lh N n ⟨l,false⟩ p o f=some R/\∀s,s∈R<->BI l p (O8 o) f (O8 s):=by
   by_cases L:p.Op=0
   ·exact AM7 hN hl h L X n
   by_cases O:p.Op=1
   ·exact BB1 hN hl ih h i G O X e AY
   by_cases Z:p.Op=2
   ·exact BB2 hN hl ih h i G Z X e AY
   by_cases r:p.Op=3
   ·exact BB3 hN hl ih h i G r X e AY
   by_cases v:p.Op=4
   ·exact Bk7 hN hl ih h i G v X e AY
   exact Bk6 hN hl ih h i G AY X e AY
  have⟨R,O,Z⟩:=q;exact BW2 hN hl h G X O Z
end
end
end Go.Ab
namespace Go.Ab
open Classical
noncomputable section
variable{a:Up N2}{p:A0}
def add1 (out:Up (Up PR))(s:Up PR):Up (Up PR):=if s∈out then out else out++[s]
def Nd (P:Up PR->Prop)(out:Up (Up PR)):Prop:=out.Nodup/\∀s∈out,P s
def Nd.nil (P:Up PR->Prop):Nd P []:=⟨List.nodup_nil,λ_ h=>absurd h List.not_mem_nil⟩
def Nd.add{P:Up PR->Prop}{out:Up (Up PR)}{s:Up PR}(h:Nd P out)(G:P s):Nd P (add1 out s):=by
 unfold add1
 split
 ·exact h
 rename_i i;refine⟨List.nodup_append.2 ⟨h.1,OC,λa u b W e=>i (by rw[<-List.mem_singleton.1 W,<-e];exact u)⟩,λx M=>?_⟩
 rcases List.mem_append.1 M with M|M
 ·exact h.2 x M
 rw[List.mem_singleton.1 M];exact G
def BU9 (r:OS (Up (Up PR)))(l:Up B0)(p:A0)(b:Up PR)(f:Int):Prop:=∃L,r=some L/\L.Nodup/\∀s,s∈L<->BI l p b f s
def BU9.mk{x:OS (Up (Up PR))}{l:Up B0}{b:Up PR}{f:Int}(h:∃L,x=some L/\L.Nodup/\∀s,s∈L<->BI l p b f s):BU9 (x.bind λs=>some s) l p b f:=by
 obtain⟨L,rfl,h⟩:=h;exact⟨L,rfl,h⟩
section
variable {N:Nat}(hN:TB N){l:List B0}(hl:l.length<=10)
include hN hl
end
def AZ:Up Int->Up Int->Int
 |[],[]=>0
 |[],_::_=> -1
 |_::_,[]=>1
 |x::a,y::b=>if x<y then -1 else if y<x then 1 else AZ a b
def Nt:∀a:Up Int,AZ a a=0
 |[]=>rfl
 |x::a=>by simp[AZ,Nt a]
def AY1:∀{a b:Up Int},AZ a b=0->a=b
 |[],[],_=>rfl
 |[],_::_,h=>by simp[AZ]at h
 |_::_,[],h=>by simp[AZ]at h
 |x::a,y::b,h=>by
  unfold AZ at h
  split at h
  ·cases h
  split at h
  ·cases h
  rw[AY1 h];grind
def Ax6:∀a b:Up Int,AZ b a= - AZ a b
 |[],[]=>rfl
 |[],_::_=>rfl
 |_::_,[]=>rfl
 |x::a,y::b=>by
  unfold AZ;rw[Ax6 a b]
  split<;>split<;>first|omega|rfl
def RT:∀{a b c:Up Int},AZ a b<0->AZ b c<0->AZ a c<0
 |[],[],_,h,_=>AY
 |_::_,[],_,h,_=>by simp[AZ]at h
 |_,_::_,[],_,h=>by simp[AZ]at h
 |[],_::_,_::_,_,_=>by simp[AZ]
 |x::a,y::b,z::c,O,Z=>by
  unfold AZ at O Z ⊢
  by_cases e:x<z
  ·rw[A2 e];decide
  rw[A1 e]
  by_cases n:x<y
  ·omega
  rw[A1 n]at O
  by_cases i:y<x
  ·rw[A2 i]at O;cases O
  rw[A1 i]at O
  by_cases r:y<z
  ·omega
  rw[A1 r]at Z
  by_cases k:z<y
  ·rw[A2 k]at Z;cases Z
  rw[A1 k]at Z
  rw[A1 AY];exact RT O Z
def Py (a b:Int):Int:=if a<b then -1 else if b<a then 1 else 0
def NA (N:Nat)(a b:Int):V6 N a b=some (Py a b):=by
 unfold V6 Jb Py;simp only[A4,H7,B8,N5,H8,W3,D4,B6,B3]
 grind
theorem or_eq{N:Nat}(hN:TB N){l:Up Int}(hl:l.length<=1000):IF N l=some (Ef id l):=by
 unfold IF;rw[R6 l AY (mk:=λ(_:Unit) i=>i) (body:=Mi λx=>some x) (fin:=λ_=>.inl ()) (s:=()) AY ?_ ?_]
 ·rw[IT (F:=λx=>some x) (f:=id) λx _=>rfl]
  grind
 ·intro s i x M U;have e:ar .add .i64 (i:Int) 1=i+1:=E6 AY AY;simp only[B8,A9,U,H8,B4,F3,M,A4,e,Mi]
  split<;>rfl
 exact Kk
def BN6 (r:Wd):Up Int:=[r.Time,r.Source,r.Seq]
def JQ (x:N2):Up Int:=[x.Ref.Time,x.Ref.Source,x.Ref.Seq,x.Var]
def lex3 (e h i k n r:Int):AZ [e,h,i] [k,n,r]=Ef id [Py e k,Py h n,Py i r]:=by
 simp only[AZ,Ef,Py,id];omega
def lex4 (e h i k n r v w:Int):AZ [e,h,i,k] [n,r,v,w]=Ef id [AZ [e,h,i] [n,r,v],Py k w]:=by
 simp only[AZ,Ef,Py,id];omega
def BI9{N:Nat}(hN:TB N)(a b:Wd):NU N a b=some (AZ (BN6 a) (BN6 b)):=by
 unfold NU;rw[NA,NA,NA];simp only[A4];rw[or_eq hN OC,BN6,BN6,lex3];rfl
def BB6{N:Nat}(hN:TB N)(a b:B0):Ja N a b=some (AZ [a.Time,a.Source,a.Seq] [b.Time,b.Source,b.Seq]):=by
 unfold Ja KI;simp only[A4,NA];rw[or_eq hN OC,<-lex3];simp only[Q4,D8,Je,G9,B3,A4]
 by_cases h:a.Time=b.Time/\a.Source=b.Source/\a.Seq=b.Seq
 ·rw[A2 h,h.1,h.2.1,h.2.2,Nt]
 simp_all
def BD4{N:Nat}(hN:TB N)(a b:N2):Ej N a b=some (AZ (JQ a) (JQ b)):=by
 unfold Ej;rw[BI9 hN,NA];simp only[A4];rw[or_eq hN OC,JQ,JQ,lex4];rfl
def mO:Up N2->Up N2->Int
 |[],[]=>0
 |[],_::_=> -1
 |_::_,[]=>1
 |x::a,y::b=>if AZ (JQ x) (JQ y)≠0 then AZ (JQ x) (JQ y)else mO a b
def Zr (m:Up N2):Up Int:=m.flatMap JQ
def AY0:∀{a b:Up Int} (c d:Up Int),a.length=b.length->AZ (a++c) (b++d)=if AZ a b≠0 then AZ a b else AZ c d
 |[],[],c,d,_=>by simp[AZ]
 |[],_::_,_,_,h=>by simp at h
 |_::_,[],_,_,h=>by simp at h
 |x::a,y::b,c,d,h=>by
  simp only[CW,AZ];have ih:=AY0 (a:=a) (b:=b) c d Pw;omega
def Aa7:∀a b:Up N2,mO a b=AZ (Zr a) (Zr b)
 |[],[]=>rfl
 |[],y::b=>by simp[mO,Zr,JQ,AZ]
 |x::a,[]=>by simp[mO,Zr,JQ,AZ]
 |x::a,y::b=>by
  simp only[mO,Zr,DT];rw[AY0 _ _ (by simp[JQ])];have:=Aa7 a b;rw[this];rfl
def BM9{N:Nat}{b:Up N2}{step:Int->OS (Int⊕(Unit⊕Int))}{k:Unit⊕Int->OS Int}(hN:a.length<N)(hl:a.length<=1000000)
 (G:∀(i:Nat) (O:i<a.length) (Z:i<b.length),step (i:Int)=if cmp .neq (AZ (JQ a[i]) (JQ b[i])) 0=true then some (.inr (.inr (AZ (JQ a[i]) (JQ b[i]))))else some (.inl (ar .add .i64 (i:Int) 1)))
 (R:∀i:Nat,i<=a.length->i<=b.length->i=a.length\/i=b.length->∃r,step (i:Int)=some (.inr r)/\k r=some (if a.length<b.length then -1 else if b.length<a.length then 1 else 0))(S:∀c,k (.inr c)=some c):(loopN step N 0).bind k=some (mO a b):=by
 have key:∀(d i N:Nat),i+d=a.length->d<N->i<=b.length->(loopN step N (i:Int)).bind k=some (mO (a.drop i) (b.drop i)):=by
  have e:∀(i N:Nat),i<=a.length->i<=b.length->i=a.length\/i=b.length->(loopN step (N+1) (i:Int)).bind k=some (mO (a.drop i) (b.drop i)):=λi N O Z h=>by
   have⟨r,n,e2⟩:=R i O Z h;simp only[loopN,n,A4,e2]
   by_cases u:i<a.length
   ·rw[P1 u,DU (show b.length<=i by omega),A1 AY,A2 AY];rfl
   rw[DU (show a.length<=i by omega)]
   by_cases W:i<b.length
   ·rw[P1 W,A2 AY];rfl
   rw[DU (show b.length<=i by omega),A1 AY,A1 AY];rfl
  intro d
  induction d with
  |zero=>
   intro i N U hN W;obtain⟨N,rfl⟩:∃m,N=m+1:=⟨N-1,AY⟩
   simp_all
  | succ d ih=>
   intro i N U hN W;obtain⟨N,rfl⟩:∃m,N=m+1:=⟨N-1,AY⟩
   by_cases h:i=b.length
   ·grind
   have u:i<a.length:=AY
   have W:i<b.length:=AY
   rw[P1 u,P1 W,mO];unfold loopN;rw[G i u W,E6 AY AY]
   by_cases Y:AZ (JQ a[i]) (JQ b[i])=0
   ·rw[A1 (show¬(cmp .neq (AZ (JQ a[i]) (JQ b[i])) 0=true)from T4 Y),A1 AY]
    grind
   rw[A2 (show cmp .neq (AZ (JQ a[i]) (JQ b[i])) 0=true from As Y),A2 Y];exact S _
 simpa using key a.length 0 N AY hN AY
def Aj8{N:Nat}(hN:TB N){x y:P6}(M:x.eB.length<=1000000)(I:y.eB.length<=1000000):Gb N x y=some (mO x.eB y.eB):=by
 have⟨a⟩:=x;have⟨b⟩:=y
 dsimp only at M I ⊢
 unfold Gb N3
 dsimp only
 refine J8 (λo:OS Int=>o.bind λe=>some e) (BM9 (a:=a) (b:=b) AY M (λi O Z=>?_) (λi O Z h=>?_) λ_=>rfl)
 ·rw[A2 (EE AY),F3,D9 O];simp only[A4];rw[A1 (by rw[O0,A9];simp;omega),F3,D9 Z];simp only[A4];rw[BD4 hN];rfl
 by_cases u:i<a.length
 ·refine⟨.inr 1,?_,?_⟩
  ·rw[A2 (EE AY),F3,D9 u];simp only[A4];rw[A2 (by rw[O0,A9];simp;omega)]
  grind
 refine⟨.inl (),by rw[A1 (Gc (by rw[A9];omega))],?_⟩
 dsimp only
 by_cases W:a.length<b.length
 ·rw[A2 (Ks (by rw[A9,A9];omega)),A2 W]
 rw[A1 (Gc (by rw[A9,A9];omega)),A1 W,A1 (show¬b.length<a.length by omega)]
def KZ (e:B0):Up Int:=[e.Time,e.Source,e.Seq]
def Aj0 (e:B0):Bool:=(an (an (an (an (an (cmp .geq e.Time 0) (cmp .leq e.Time 1099511627776)) (cmp .geq e.Source 0)) (cmp .lss e.Source 8)) (cmp .geq e.Seq 0)) (cmp .leq e.Seq 1099511627776))
def Oo (a b:B0):Bool:=decide (a.Source=b.Source)&&decide (a.Seq=b.Seq)
def BD6 (l:Up B0)(i:Nat):Int:=
 match l[i]? with
 |none=>0
 |some e=>if Aj0 e=false then 2 else if 0<i/\0<=AZ (KZ ((l[i-1]?).getD e)) (KZ e)then 14 else if(l.take i).any (λx=>Oo x e)=true then 7 else 0
def Ol (l:Up B0):Int:=if 4096<l.length then 5 else Ef (BD6 l) (List.range l.length)
def Lc (p:Up B0):Up (H6×Bool):=p.map λe=>(⟨e.Source,e.Seq⟩,true)
def Bk0 (p:Up B0) (e:B0):∃b,Gf (Lc p) ⟨e.Source,e.Seq⟩ false=some (p.any λx=>Oo x e,b):=by
 unfold Gf Lc
 induction p with
 |nil=>simp_all
 | cons x p ih=>
  have⟨b,ih⟩:=ih;rw[D2,List.find?_cons,GP]
  by_cases h:(⟨x.Source,x.Seq⟩:H6)=⟨e.Source,e.Seq⟩
  ·have o:Oo x e=true:=by
    simp only[H6.mk.injEq]at h
    simp[Oo,h.1,h.2]
   simp_all
  have o:Oo x e=false:=by
   simp only[H6.mk.injEq]at h
   simp only[Oo,Ph,O2];omega
  grind
def Bf9{p:Up B0}{e:B0}(h:(p.any λx=>Oo x e)=false):FX (Lc p) ⟨e.Source,e.Seq⟩ true=some (Lc (p++[e])):=by
 unfold FX;rw[A1]
 ·simp[Lc]
 intro c
 rw[DS]at c
 have⟨q,i,R⟩:=c
 simp only[Lc,BT]at i
 obtain⟨x,M,rfl⟩:=i
 rw[GT]at h
 refine h x M ?_
 simp only[B3,H6.mk.injEq]at R
 simp[Oo,R.1,R.2]
def Bx7{B:Type}{N n:Nat}{M:Nat->B}{step:(Int×B)->OS ((Int×B)⊕(B⊕(Int×B)))}(f:Nat->Int){k:B⊕(Int×B)->OS Int}(hN:n<N)(E:n<1000000000)
 (G:∀i:Nat,i<n->ar .add .i64 (i:Int) 1=i+1->step ((i:Int),M i)=some (if f i=0 then .inl ((i:Int)+1,M (i+1))else .inr (.inr (f i,M i))))(R:step ((n:Int),M n)=some (.inr (.inl (M n))))(L:∀m,k (.inl m)=some 0)(O:∀c m,k (.inr (c,m))=some c):(loopN step N (0,M 0)).bind k=some (Ef f (List.range n)):=by
 have key:∀(d i N:Nat),i+d=n->d<N->(loopN step N ((i:Int),M i)).bind k=some (Ef f (List.range' i d)):=by
  intro d
  induction d with
  |zero=>
   intro i N U hN;obtain⟨N,rfl⟩:∃m,N=m+1:=⟨N-1,AY⟩;obtain rfl:i=n:=U;simp only[loopN,R,A4,L];rfl
  | succ d ih=>
   intro i N U hN;obtain⟨N,rfl⟩:∃m,N=m+1:=⟨N-1,AY⟩;rw[Ip]
   by_cases q:f i=0
   ·simp only[loopN,G i AY (E6 AY AY),Ef,q,B4]
    grind
   simp only[loopN,G i AY (E6 AY AY),Ef,q,B6,A4,O]
 rw[Ju]
 grind
def AU0{N:Nat}(hN:TB N){l:Up B0}:Kq N l=some (Ol l):=by
 unfold Kq Ol
 by_cases O:4096<l.length
 ·rw[A2 (HF (by rw[A9];omega)),A2 O]
 rw[A1 (Ek (by rw[A9];omega)),A1 O];refine Bx7 (M:=λi=>Lc (l.take i)) (BD6 l) AY AY (λi k e=>?_) (by dsimp only;rw[A1 Gr]) (λ_=>rfl) (λ_ _=>rfl);have⟨b,W⟩:=Bk0 (l.take i) l[i];have f:MK N l[i]=some (Aj0 l[i]):=rfl;have r:KA N l[i]=some ⟨l[i].Source,l[i].Seq⟩:=rfl
 dsimp only
 rw[A2 (EE AY),Sh k];simp only[A4];unfold BD6;rw[f,r,D9 k];simp only[A4,W,e]
 cases Aj0 l[i]with
 |false=>rfl
 | true=>
  rw[A1 (show¬(nt true=true) by decide),A1 (show¬(true=false) by decide)]
  have o:(if(l.take i).any (λx=>Oo x l[i])=true then some (.inr (.inr (7,Lc (l.take i))))else(FX (Lc (l.take i)) ⟨l[i].Source,l[i].Seq⟩ true).bind λv=>some (.inl ((i:Int)+1,v)):OS ((Int×(Up (H6×Bool)))⊕(((Up (H6×Bool)))⊕(Int×(Up (H6×Bool))))))=some (if(if(l.take i).any (λx=>Oo x l[i])=true then(7:Int)else 0)=0 then .inl ((i:Int)+1,Lc (l.take (i+1)))else .inr (.inr (if(l.take i).any (λx=>Oo x l[i])=true then(7:Int)else 0,Lc (l.take i)))):=by
   by_cases w:(l.take i).any (λx=>Oo x l[i])=true
   ·simp_all
   rw[A1 w,A1 w,Bf9 Pw,Vj k];rfl
  by_cases L:0<i
  ·have n:i-1<l.length:=AY
   rw[A2 (HF AY),show ar .sub .i64 (i:Int) 1=((i-1:Nat):Int) by rw[Qh AY AY];omega,Sh n,D9 n];simp only[A4,BB6 hN,CV];have S:AZ [l[i-1].Time,l[i-1].Source,l[i-1].Seq] [l[i].Time,l[i].Source,l[i].Seq]=AZ (KZ l[i-1]) (KZ l[i]):=rfl;rw[S]
   by_cases Z:0<=AZ (KZ l[i-1]) (KZ l[i])
   ·rw[A2 (show cmp .geq (AZ (KZ l[i-1]) (KZ l[i])) 0=true by rw[O0];simp_all),A2 (show 0<i/\0<=AZ (KZ l[i-1]) (KZ l[i])from⟨L,Z⟩)];rfl
   rw[A1 (show¬(cmp .geq (AZ (KZ l[i-1]) (KZ l[i])) 0=true) by rw[O0];grind),A1 (show¬(0<i/\0<=AZ (KZ l[i-1]) (KZ l[i]))from λh=>Z h.2)];exact o
  rw[A1 (Ek AY),A1 (show¬(0<i/\0<=AZ (KZ ((l[i-1]?).getD l[i])) (KZ l[i]))from λh=>L h.1)];exact o
def Ba8{l:Up B0}(hl:l.length<=10)(h:Ol l=0):∀(d i:Nat),i+d+1<l.length->∀(O:i<l.length) (Z:i+d+1<l.length),AZ (KZ l[i]) (KZ l[i+d+1])<0:=by
 have e:∀i,i<l.length->BD6 l i=0:=by
  unfold Ol at h
  rw[A1 AY]at h
  exact λi U=>II.1 h i (List.mem_range.2 U)
 have O:∀i,∀(Z:i+1<l.length),AZ (KZ l[i]) (KZ l[i+1])<0:=λi Z=>by
  have:=e (i+1) Z
  unfold BD6 at this
  rw[D9 Z]at this
  grind
 intro d
 induction d with
 |zero=>simp_all
 |succ d ih=>
  intro i _ U Z;exact RT (ih i AY U AY) (O (i+d+1) Z)
def Xo (l:Up B0)(i:Int):Wd:=match l[i.toNat]? with|some e=>⟨e.Time,e.Source,e.Seq⟩|none=>⟨0,0,0⟩
def GH (l:Up B0)(s:Up PR):P6:=⟨s.map λx=>⟨x.Var,Xo l x.At⟩⟩
def RO (l:Up B0)(s:Up PR):(GH l s).eB.length=s.length:=by simp[GH]
def BJ1{l:Up B0}{i:Int}(L:0<=i)(O:i<l.length):∃e,C4 l i=some e/\(⟨e.Time,e.Source,e.Seq⟩:Wd)=Xo l i:=by
 obtain⟨i,rfl⟩:=EQ L
 have U:i<l.length:=AY
 exact⟨l[i],Sh U,by simp[Xo,U]⟩
def BJ0{l:Up B0}(hl:l.length<=10)(r:Ol l=0){i j:Int}(U:0<=i/\i<l.length)(z:0<=j/\j<l.length)(h:Xo l i=Xo l j):i=j:=by
 obtain⟨i,rfl⟩:=EQ U.1;obtain⟨j,rfl⟩:=EQ z.1
 have k:i<l.length:=AY
 have n:j<l.length:=AY
 have S:KZ l[i]=KZ l[j]:=by
  simp only[Xo,Z5,D9 k,D9 n,Wd.mk.injEq]at h
  simp[KZ,h.1,h.2.1,h.2.2]
 rcases OT i j with e|e|e
 ·obtain⟨d,rfl⟩:∃d,j=i+d+1:=⟨j-i-1,AY⟩;have:=Ba8 hl r d i n k n
  rw[S,Nt]at this;omega
 ·omega
 obtain⟨d,rfl⟩:∃d,i=j+d+1:=⟨i-j-1,AY⟩;have:=Ba8 hl r d j k n k
 rw[S,Nt]at this;omega
def XP {l:Up B0} (hl:l.length<=10) (d:Ol l=0):∀{a b:Up PR},WfS l a->WfS l b->(GH l a).eB=(GH l b).eB->a=b
 |[],[],_,_,_=>rfl
 |[],_::_,_,_,h=>by simp[GH]at h
 |_::_,[],_,_,h=>by simp[GH]at h
 | x::a,y::b,u,W,h=>by
  simp only[GH,D2,U1,N2.mk.injEq]at h
  have e:=BJ0 hl d (u x OC).2 (W y OC).2 h.1.2
  have i:x=y:=by
   cases x;cases y
   simp only[FU.mk.injEq]at *
   exact⟨h.1.1,e⟩
  rw[i,XP hl d (λz Y=>u z (by simp[Y])) (λz Y=>W z (by simp[Y])) h.2]
def Ay3:∀{a b:Up N2},Zr a=Zr b->a=b
 |[],[],_=>rfl
 |[],_::_,h=>by simp[Zr,JQ]at h
 |_::_,[],h=>by simp[Zr,JQ]at h
 | x::a,y::b,h=>by
  simp only[Zr,DT,JQ,CW,K3,U1]at h
  have⟨O,Z,i,k,n⟩:=h
  have e:x=y:=by
   have⟨v,t,s,q⟩:=x;have⟨H,t',w,r⟩:=y
   simp only at O Z i k
   rw[O,Z,i,k]
  rw[e,Ay3 n]
def Aj9{b:Up N2}(h:mO a b=0):a=b:=Ay3 (AY1 (by rw[<-Aa7];exact h))
def BM6 (a:Up N2):mO a a=0:=by rw[Aa7,Nt]
def Bx3 (a b:Up N2):mO b a= - mO a b:=by rw[Aa7,Aa7,Ax6]
def Bx2{b c:Up N2}(O:mO a b<0)(Z:mO b c<0):mO a c<0:=by rw[Aa7]at *;exact RT O Z
def Ce7 (r:Up P6):Prop:=r.Pairwise λa b=>mO a.eB b.eB<0
def BW3{N:Nat}(hN:TB N){L r:Up P6}(f:r.Perm L)(u:Ce7 r)(W:∀x∈r,x.eB.length<=1000000)(hl:L.length<=1000000):Pz (λi k=>Gb N i k) L=some r:=by
 refine Aq4 f (GY.2 ⟨λa h=>?_,?_⟩) AY
 ·unfold Kh
  dsimp only
  rw[Aj8 hN (W a h) (W a h),BM6];rfl
 refine Pn (λ{x y} M I e=>?_) u
 constructor
 ·unfold Xc
  dsimp only
  rw[Aj8 hN (W x M) (W y I)];exact I8 e
 unfold Kh
 dsimp only
 rw[Aj8 hN (W y I) (W x M),Bx3];exact I8 AY
def Yn {α:Type}{f:α->N2}:∀(s:Up α) (m:P6),s.foldl (λm x=>⟨m.eB++[f x]⟩) m=⟨m.eB++s.map f⟩
 |[],⟨a⟩=>OC
 |x::s,m=>by rw[DN,Yn s];simp
def Kv (p:A0):(A0.pres p.dT).length+1=p.pre.length:=by rw[A0.pre_eq p];simp
def Au3 (f:A0->Bool):∀r:Up A0,(A0.pres r).any f=r.any λx=>x.pre.any f
 |[]=>rfl
 |a::r=>by simp only[A0.pres,List.any_append,GP,Au3 f r]
def BW6{l:Up B0}(f:p.pre.length<=64)(G:(JK p+1) ^ l.length<=1500\/(Ia p/\l.length ^ JK p<=1500)):WD l.length p:=by
 rcases G with h|⟨O,Z⟩
 ·exact .inl h
 by_cases e:2<=l.length
 ·exact .inr ⟨O,e,Z⟩
 left
 have i:JK p<=p.pre.length:=LZ
 have:l.length=0\/l.length=1:=AY
 rcases this with h|h<;>rw[h]<;>simp<;>omega
def Bw7{l:Up B0}(f:p.pre.length<=64)(hl:l.length<=10):mu l p 0<=1000:=by
 unfold mu;have:=Z3 f (show l.length+2<=12 by omega);omega
def BK8 (l:Up B0):Za l [] ((0:Nat):Int):=⟨QW.nil l,λ_ h=>absurd h EU,AY,AY⟩
def BD9 (L:Up P6) (E:L.Nodup):∃r:Up P6,r.Perm L/\Ce7 r:=by
 have f:=List.mergeSort_perm L λa b=>decide (mO a.eB b.eB<=0);refine⟨_,f,?_⟩
 have O:=Mc (le:=λa b:P6=>decide (mO a.eB b.eB<=0)) (λa b c i k=>by
  have i:=Jn i;have k:=Jn k;apply I8
  by_cases n:mO a.eB b.eB=0
  ·rw[Aj9 n];exact k
  ·by_cases e2:mO b.eB c.eB=0
   ·rw[<-Aj9 e2];exact i
   have:=Bx2 (a:=a.eB) (b:=b.eB) (c:=c.eB) AY AY
   omega) (λa b=>by
  have:=Bx3 a.eB b.eB
  by_cases h:mO a.eB b.eB<=0
  ·simp[h]
  have:mO b.eB a.eB<=0:=AY
  simp[this]) L
 have Z:(L.mergeSort λa b=>decide (mO a.eB b.eB<=0)).Nodup:=f.nodup_iff.2 E;refine(O.and Z).imp λ{a b} h=>?_;have v:=Jn h.1;have w:mO a.eB b.eB≠0:=λe=>h.2 (by cases a;cases b;have:=Aj9 e;dsimp only at this;rw[this]);omega
def BK2{N:Nat}(hN:TB N)(W:p.bulk<=16777216){l:Up B0}(hl:l.length<=10)(G:(JK p+1) ^ l.length<=1500\/(Ia p/\l.length ^ JK p<=1500))(O:Oc N p=0)(Z:Ol l=0):
 ∃r,Bc N p l=some (r,0)/\Ce7 r/\(∃L:Up (Up PR),L.Nodup/\(∀s,s∈L<->BI l p [] 0 s)/\r.Perm (L.map (GH l)))/\(∀x∈r,x.eB.length<=10)/\r.length<=1500:=by
 unfold Bc;rw[KD hN W];simp only[A4];rw[A1 (T4 O),AU0 hN];simp only[A4];rw[A1 (T4 Z)];have⟨v,f⟩:=ZI hN W O;have K:=BW6 f G;have g:=Bw7 f hl;have⟨w,A,B,V⟩:=Bg1 hN hl 1000 p [] 0 N g AY f v K (BK8 l);have F:=MY v K (BK8 l) B λs h=>(V s).1 h
 have C:(w.map O8).Nodup:=by
  rw[Nodup,GU];exact B.imp λn e=>n (QB e)
 have D:∀s,s∈w.map O8<->BI l p [] 0 s:=λs=>by
  rw[BT]
  constructor
  ·rintro⟨t,o,rfl⟩;exact(V t).1 o
  intro h;exact⟨s.map SD,(V _).2 (by rw[Ak];exact h),Ak s⟩
 have k:∀s∈w.map O8,ZD l 0 s:=λs h=>((D s).1 h).res v (BK8 l)
 have⟨r,P,J⟩:=BD9 ((w.map O8).map (GH l)) (by
  rw[Nodup,GU]
  exact Pn (λ{x y} M I n e=>n (XP hl Z (k x M).gd.wf (k y I).gd.wf (J8 P6.eB e))) C)
 have j:r.length<=1500:=by have:=P.length_eq;simp only[H9]at this;omega
 have H:∀x∈r,x.eB.length<=10:=λx M=>by
  obtain⟨t,o,rfl⟩:=List.mem_map.1 (P.mem_iff.1 M);have:=(k t o).gd.len;rw[RO];omega
 have c:((0:Nat):Int)=0:=rfl
 rw[c]at A
 refine⟨r,?_,J,⟨w.map O8,C,D,P⟩,H,j⟩;rw[A];simp only[A4]
 rw[(Aa9 (L:=w) (N:=N) (λ(m:List P6) i=>(i,m)) (λm s=>m++[GH l (O8 s)]) (λm=>m) (λi m=>m.length=i) AY AY rfl (λm i s u U d e hl=>by
  have E:=(((V s).1 d).res v (BK8 l)).gd;have z:=E.len
  rw[H9]at z
  rw[A2 (EE U),F3,u];simp only[A4]
  rw[(Aa9 (L:=s) (N:=N) (λ(m:P6) i=>(i,m)) (λm x=>⟨m.eB++[⟨x.eF,Xo l x.at_⟩]⟩) (λm=>m) (λi m=>m.eB.length=i) AY AY rfl (λm i x M U d e hl=>by
   have v:=E.wf (pr x) (List.mem_map.2 ⟨x,d,rfl⟩);have⟨Q,O,Z⟩:=BJ1 (l:=l) (i:=x.at_) v.2.1 v.2.2;rw[A2 (EE U),F3,M];simp only[A4];rw[O];simp only[A4,KI];rw[T6 Ts,e,Z]
   exact⟨rfl,by simp[hl]⟩) (λm=>by dsimp only;rw[A1 Gr])).1,Yn]
  simp only[A4,K3];rw[T6 Ts,e];refine⟨?_,by simp[hl]⟩;simp only[A4,GH,O8,Bk]
  rfl) (λm=>by dsimp only;rw[A1 Gr])).1]
 have q:∀(L:Up (Up BD)) (m:Up P6),L.foldl (λm s=>m++[GH l (O8 s)]) m=m++L.map λs=>GH l (O8 s):=λL=>by
  induction L with
  |nil=>intro m;simp
  |cons a L ih=>intro m;rw[DN,ih];simp
 rw[q,K3];simp only[A4];rw[BW3 hN (r:=r) ?_ J (λx M=>by have:=H x M;omega) Ts]
 ·rfl
 rw[Bk]at P
 exact P
def AG8{N:Nat}(hN:TB N){x:A0}(W:x.bulk<=16777216)(h:Oc N x=0):∀y∈x.pre,(y.Op=3->2<=y.dT.length)/\(y.Op=6->0<=y.Span):=by
 unfold Oc at h
 by_cases Q:Q7 N x=0
 ·have⟨f,hd,v⟩:=Es Q;intro y I;have O:=IW x y I;have Z:=DG y
  have e:y.bulk<=16777216:=AY
  have i:y.dT.length<=64:=AY
  have⟨X,s,K,G,d⟩:=NN hN e i (v y I);have Y:=ZR hN N y.dU (⟨0,[],0,0,0,(⟨0,0,⟨#[]⟩⟩:B2)⟩:A8) AY AY;have O:=KK hN AY X.1 X.2 G Y
  rw[(ID hN e i),v y I]at O
  have O:=CU O;have o:=G.tab
  by_cases k:s.eJ<=y.dT.length/\(y.dT.length:Int)<=s.most
  ·rw[A2 k]at O
   unfold XE at O
   constructor
   ·intro w
    rw[w]at o
    have p:s.eJ=2:=by cases o;rfl
    omega
   intro H
   rw[H]at o
   have p:s.span=true:=by cases o;rfl
   by_cases n:Lz s.eE y.Typ 15=true
   ·rw[A2 n]at O;cases O
   rw[A1 n]at O
   by_cases e2:Lz s.eE y.Var 15=true
   ·rw[A2 e2]at O;cases O
   rw[A1 e2]at O
   by_cases r:Lz s.scope y.dZ 63=true
   ·rw[A2 r]at O;cases O
   rw[A1 r]at O
   by_cases e4:Lz s.span y.Span 1099511627776=true
   ·rw[A2 e4]at O;cases O
   rw[p]at e4
   unfold Lz at e4
   grind
  omega
 omega
end
end Go.Ab
namespace Go.Ab
noncomputable section
variable{l:Up A0}
def Ch0:∀(d:Nat) {p:A0},p.dep<=d->Si p->(∀y∈p.pre,y.Op=3->2<=y.dT.length)->TM p->NM p:=by
 intro d
 induction d with
 |zero=>intro p hd;rw[A0.dep_eq]at hd;omega
 |succ d ih=>
  intro p hd m h i;have u:∀q∈p.dT,NM q:=λq c=>ih (by have:=Gt c;omega) (m.arg c) (λy I=>h y (by rw[A0.pre_eq];exact M1 _ (NT.2 ⟨q,c,I⟩))) (i.arg c);have n:=i.self;have L:=m.self.op
  by_cases e0:p.Op=0
  ·exact .ev e0
  by_cases k:p.Op=1
  ·exact .seq k (m.self.a1 AY AY) u
  by_cases e2:p.Op=2
  ·exact .alt e2 u
  by_cases e:p.Op=3
  ·exact .all e (h p (KS p) e) u
  have⟨q,c⟩:=m.self.a2 AY;exact .plus AY c (u q (by rw[c];simp))
def Ak6{p:A0}(h:p∈l):∃k:Nat,NX l p=(k:Int)/\l[k]? =some p:=by
 have⟨k,S,e,f⟩:=Ww (P:=λq=>decide (p=q)) (Ql.2 h)
 grind
def Tu{N:Nat}{i:Nat}{q:A0}(r:(L4 N (raw q)).2.2=0){e:C5}:e∈Zk N l i q<->∃y∈raw q,e={y.1 with eA:=(i:Int),To:=if y.2.done=true then -1 else NX l y.2.p}:=by
 have n:¬UQ N (raw q):=λn=>by unfold L4 at r;rw[A2 n]at r;cases r
 have w:Xn N q=(dd (raw q)).map (eg (rests (raw q))):=by unfold Xn L4;rw[A1 n]
 have C:QZ N q=rests (raw q):=by unfold QZ L4;rw[A1 n]
 have one:∀y∈raw q,Nb N l i q (eg (rests (raw q)) y)={y.1 with eA:=(i:Int),To:=if y.2.done=true then -1 else NX l y.2.p}:=λy I=>by
  unfold Nb eg;rw[C]
  dsimp only
  by_cases hd:y.2.done=true
  ·have:Nf (rests (raw q)) y.2= -1:=by unfold Nf;rw[A2 hd]
   rw[this,A2 hd];rfl
  have⟨k,v,e2⟩:=Ak6 (Ha I hd)
  have:Nf (rests (raw q)) y.2=(k:Int):=by unfold Nf;rw[A1 hd];exact v
  rw[this,A1 hd,A2 AY,Z5,e2];rfl
 unfold Zk;rw[w]
 constructor
 ·intro h;obtain⟨v,O,rfl⟩:=List.mem_map.1 h;obtain⟨y,I,rfl⟩:=List.mem_map.1 O;exact⟨y,UG.1 I,one y (UG.1 I)⟩
 rintro⟨y,I,rfl⟩;rw[<-one y I];exact GW (GW (UG.2 I))
def AU4{N:Nat}{x q:A0}(i:Sn N x l)(c:q∈l){y:Pr}(I:y∈raw q)(hd:¬y.2.done=true):y.2.p∈l:=by
 refine i.rests q c _ ?_;have h:=i.good q c
 have e:¬UQ N (raw q):=λe=>by unfold L4 at h;rw[A2 e]at h;cases h
 unfold Ai4 L4;rw[A1 e];exact Ha I hd
def Bn5 (T:Ij)(E:Up C5)(n:Nat):Up B0->Nat->Prop
 |[],i=>i=n
 |x::w,i=>∃e∈E,e.eA=(i:Int)/\T e.Typ e.Var e.dU x/\Bn5 T E n w (if e.To<0 then n else e.To.toNat)
def BR6{T:Ij}{N:Nat}{x:A0}(i:Sn N x l)(w:Up B0):Bn5 T (Ie N l l.length) l.length w l.length<->w=[]:=by
 cases w with
 |nil=>simp[Bn5]
 |cons z w=>
  simp only[reduceCtorEq,iff_false];rintro⟨e,R,q,_⟩
  unfold Ie at R
  have⟨j,h,R⟩:=List.mem_flatMap.1 R;have h:=List.mem_range.1 h
  rw[QM h,Tu (i.good _ (I9 h))]at R
  grind
def YU {T:Ij} {N:Nat} {x:A0} {l:Up A0} (r:Sn N x l):∀(w:Up B0) (i:Nat) (q:A0),l[i]? =some q->NM q->(Bn5 T (Ie N l l.length) l.length w i<->Am T q w)
 |[],i,q,U,E=>by
  have n:=(List.getElem?_eq_some_iff.1 U).1
  constructor
  ·intro h;have h:i=l.length:=h;omega
  intro h;exact absurd h (E.nil T)
 | z::w,i,q,U,E=>by
  have⟨n,v⟩:=List.getElem?_eq_some_iff.1 U;have H:=K4 U;have d:=r.good q H
  have V:Am T q (z::w)<->Ni T (raw q) z w:=by rw[<-BP9 T E];rfl
  have K:∀y∈raw q,(Bn5 T (Ie N l l.length) l.length w (if(if y.2.done=true then(-1:Int)else NX l y.2.p)<0 then l.length else(if y.2.done=true then(-1:Int)else NX l y.2.p).toNat)<->UO T y.2 w):=λy I=>by
   unfold UO
   by_cases hd:y.2.done=true
   ·simp only[A2 hd];rw[A2 AY,BR6 r];rfl
   have⟨k,f,g⟩:=Ak6 (AU4 r H I hd);simp only[A1 hd];rw[f,A1 AY,Z5];exact YU r w k y.2.p g (BI8 E y I Pw)
  rw[V]
  constructor
  ·rintro⟨e,R,c,o,u⟩
   unfold Ie at R
   have⟨j,P,R⟩:=List.mem_flatMap.1 R;have P:=List.mem_range.1 P
   rw[QM P,Tu (r.good _ (I9 P))]at R
   obtain⟨y,I,rfl⟩:=R
   dsimp only at c o u
   obtain rfl:j=i:=AY
   rw[v]at I
   exact⟨y,I,o,(K y I).1 u⟩
  rintro⟨y,I,o,Q⟩;refine⟨({y.1 with eA:=(i:Int),To:=if y.2.done=true then -1 else NX l y.2.p}:C5),?_,rfl,o,(K y I).2 Q⟩;unfold Ie;refine List.mem_flatMap.2 ⟨i,List.mem_range.2 n,?_⟩;rw[QM n,v,Tu d]
  grind
end
end Go.Ab
namespace Go.Ab
variable{N:Nat}{S:Up (Int×Bool)}{p:D3}{w:Up E9}
def Ay2{i:Nat}{n:Nat}(U:i<n)(E:n<1000000000000):ar .add .i64 (i:Int) 1=((i+1:Nat):Int):=Cm AY
noncomputable def smv (n:Nat)(t:Int)(m:K7):Int:=if(0<=m.eA/\m.eA<(n:Int))/\0<=m.To/\m.To<(n:Int)then YJ t m.On else 2
noncomputable def Hn (s:D1):Int:=if s.eC<1\/16<s.eC then 2 else if((s.dY.length:Int)<1\/256<(s.dY.length:Int))\/2048<(s.dX.length:Int)then 5 else fb (λ_ m=>smv s.dY.length s.eC m) 0 s.dX
def Bg3{s:D1}(hN:3000<N):Dm N s=some (Hn s):=by
 unfold Dm Hn;simp only[B8,N5,Q8,A9,L7,B3]
 by_cases O:s.eC<1\/16<s.eC
 ·rw[A2 O,A2 O]
 rw[A1 O,A1 O]
 by_cases Z:((s.dY.length:Int)<1\/256<(s.dY.length:Int))\/2048<(s.dX.length:Int)
 ·rw[A2 Z,A2 Z]
 rw[A1 Z,A1 Z];rw[Gg (l:=s.dX) (f:=λ_ m=>smv s.dY.length s.eC m) (e:=.inl ()) (b:=.inr) (N:=N) ?_ ?_ AY]
 ·grind
 ·intro i x M U;simp only[Fz,O0,B8,H7,Q4,S4,A9,F3,M,A4,AJ8 (show 256<N by omega)];rw[A2 AY,Ay2 U AY]
  by_cases k:0<=x.eA/\x.eA<(s.dY.length:Int)
  ·rw[A1 Ts]
   by_cases n:0<=x.To/\x.To<(s.dY.length:Int)
   ·rw[A1 Ts,show smv s.dY.length s.eC x=YJ s.eC x.On from A2 ⟨k,n⟩]
    simp_all
   rw[A2 Ts,show smv s.dY.length s.eC x=2 from A1 (λh=>n h.2)];simp
  rw[A2 Ts,show smv s.dY.length s.eC x=2 from A1 (λh=>k h.1)];simp
 simp_all
structure Aok (s:D1):Prop where
 ty:1<=s.eC/\s.eC<=16
 fi:1<=s.dY.length/\s.dY.length<=256
 mv:s.dX.length<=2048
 each:∀m∈s.dX,((0<=m.eA/\m.eA<(s.dY.length:Int))/\0<=m.To/\m.To<(s.dY.length:Int))/\YJ s.eC m.On=0
def Bq4{s:D1}(h:Hn s=0):Aok s:=by
 unfold Hn at h
 split at h
 ·cases h
 rename_i O
 split at h
 ·cases h
 rename_i Z;refine⟨AY,AY,AY,λm p=>?_⟩;have⟨k,S⟩:=AF p;have:=FH.1 h k m S
 unfold smv at this
 omega
def BP1{s:D1}{i:Int}(hN:3000<N)(G:s.dX.length<=2048):Db N s i=some (s.dX.filter λm=>decide (m.eA=i)):=by
 unfold Db Gk;rw[XT (β:=K7) (σ:=Unit) (R:=Unit) s.dX (λ_ i=>i) (λ_ m=>if m.eA=i then some ([m],.inl ())else some ([],.inl ())) (λ_=>()) () AY]
 ·have key:∀l:Up K7,Ca (β:=K7) (σ:=Unit) (R:=Unit) (λ_ m=>if m.eA=i then some ([m],.inl ())else some ([],.inl ())) l ()=some (l.filter (λm=>decide (m.eA=i)),.inl ()):=by
   intro l
   induction l with
   |nil=>rfl
   |cons m l ih=>
    by_cases h:m.eA=i
    ·simp[Ca,h,ih]
    simp[Ca,h,ih]
  rw[key];simp[I1]
 ·intro _ j x M z;simp only[B8,D8,A9,F3,M,A4,B3];rw[A2 z,E6 AY AY]
  by_cases h:x.eA=i
  ·simp[h,I1]
  simp[h]
 intro _;simp[B8,A9]
noncomputable def Zj (p:D3)(x:E9):Bool:=@decide (InP p x) (Classical.propDecidable _)
def Ay6{x:E9}:Zj p x=true<->InP p x:=by unfold Zj;simp_all
def BK6{t:Int}(h:YJ t p=0):(p.dW.length:Int)=t/\VW p=0:=by
 have L:=h
 unfold YJ at h
 grind
def VK{t:Int}{x:E9}(hN:300<N)(f:YJ t p=0):∃r,Cc N p x=some r/\r.2=YH t x/\(r.2=0->r.1=Zj p x):=by
 have⟨o,L⟩:=BK6 f;subst o;unfold Cc;simp only[AC5 (show 256<N by omega),A4,H7,B8,O0,N5,Q8,A9,L7,P9,B3,O2,L,Y2,B6];have⟨v,h⟩:=Bh3 L;unfold YH
 by_cases O:x.Typ<0\/(p.dW.length:Int)<=x.Typ
 ·simp_all
 simp only[A1 O]
 by_cases Z:x.Num< -1099511627776\/1099511627776<x.Num
 ·simp_all
 simp only[A1 Z];have⟨k,S⟩:∃k:Nat,x.Typ=(k:Int):=⟨x.Typ.toNat,AY⟩
 have e:k<p.dW.length:=AY
 have M:=D9 e
 have i:ck p.dW[k]=0:=by
  have:=L
  unfold VW YJ at this
  rw[A1 AY,A1 OC]at this
  exact FH.1 this k _ M
 have⟨b,w,e2⟩:=AM3 (N:=N) (n:=x.Num) (h _ (I9 e)) AY;unfold HE;simp only[S,F3,M,A4,QK (show 256<N by omega),i,H7,H8,W3,D4,B6,w];refine⟨_,rfl,rfl,λ_=>BD3 e2 ?_⟩;rw[Ay6];unfold InP;rw[S]
 simp_all
def Ai0{t:Int}{x:E9}(hN:300<N)(f:YJ t p=0)(M:YH t x=0):Ba N p x=some (Zj p x):=by
 have⟨r,O,Z,e⟩:=VK (x:=x) hN f;unfold Ba;simp only[O,A4,D8,Q4]
 rw[M]at Z
 rw[e Z,Z];simp
def Cb8:((List.range 16).all λk=>((FZ 40000000 ((k:Int)+1)).bind λr=>if r.2=0 then Cs 40000000 ((k:Int)+1) r.1 else none)==some 0)=true:=JO
def BN7{t:Int}(h:1<=t/\t<=16):∃p,FZ 40000000 t=some (p,0)/\YJ t p=0:=by
 have:=List.all_eq_true.1 Cb8 (t-1).toNat Ts
 rw[show(((t-1).toNat:Nat):Int)+1=t by omega]at this
 have:=eq_of_beq this;have⟨r,O,Z⟩:=bind_some this
 split at Z
 ·rename_i i;have⟨p,e⟩:=r;cases i;exact⟨p,O,by rw[AJ8 AY]at Z;simp_all⟩
 cases Z
def Zx (S:Up (Int×Bool)):Prop:=S.Nodup/\∀p∈S,p.2=true
def AS5:Zx []:=⟨OJ,λp h=>by cases h⟩
def Ca1(h:Zx S){k:Int}(e:(k,true)∈S):Gf S k (false:Bool)=some (true,true):=by
 unfold Gf
 cases q:S.find? (λp=>decide (p.1=k))with
 |none=>have:=List.find?_eq_none.1 q _ e;simp at this
 |some p=>
  have O:=h.2 p (Pp q)
  grind
def BO9(h:Zx S){k:Int}(i:¬(k,true)∈S):Gf S k (false:Bool)=some (false,false)/\FX S k true=some (S++[(k,true)])/\Zx (S++[(k,true)]):=by
 have E:∀p∈S,¬p.1=k:=λp f e=>i (by have:=h.2 p f;grind);refine⟨?_,?_,?_,?_⟩
 ·unfold Gf;rw[List.find?_eq_none.2 (λp f=>Pw)]
 ·unfold FX;rw[A1]
  grind
 ·rw[Jo];refine⟨h.1,OC,λa u b W=>?_⟩
  grind
 intro p f
 rcases List.mem_append.1 f with f|f
 ·exact h.2 p f
 simp_all
def Ac4 {p q:Int×Bool} (h:p.1=q.1->p=q):∀l,Tc p (Tc q l)=Tc q (Tc p l)
 |[]=>by
  by_cases e:p=q
  ·rw[e]
  have:¬p.1=q.1:=λi=>e (h i);simp only[Tc]
  grind
 | r::l=>by
  by_cases e:p=q
  ·rw[e]
  have n:¬p.1=q.1:=λi=>e (h i);have ih:=Ac4 h l
  by_cases O:p.1<=r.1
  ·by_cases Z:q.1<=r.1
   ·by_cases k:p.1<=q.1
    ·simp only[Tc,A2 O,A2 Z,A2 k,A1 (show¬q.1<=p.1 by omega)]
    simp only[Tc,A2 O,A2 Z,A1 k,A2 (show q.1<=p.1 by omega)]
   simp only[Tc,A2 O,A1 Z,A1 (show¬q.1<=p.1 by omega)]
  by_cases Z:q.1<=r.1
  ·simp only[Tc,A1 O,A2 Z,A1 (show¬p.1<=q.1 by omega)]
  simp only[Tc,A1 O,A1 Z,ih]
def Br1{l m:Up (Int×Bool)}(h:l.Perm m)(o:∀p∈l,p.2=true):Ik l=Ik m:=by
 induction h with
 |nil=>rfl
 |cons x _ ih=>simp only[Ik];rw[ih (λp f=>o p (M1 _ f))]
 |swap x y l=>
  simp only[Ik];refine Ac4 (λe=>?_) _;have O:=o x OC;have Z:=o y OC
  grind
 |trans O _ i k=>rw[i o,k (λp f=>o p (O.mem_iff.2 f))]
def Bq3(h:Zx S):Zx (Ik S):=⟨(KQ S).nodup_iff.2 h.1,λp f=>h.2 p ((KQ S).mem_iff.1 f)⟩
def BH1{S':Up (Int×Bool)}(h:Zx S)(e:Zx S')(i:∀k,(k,true)∈S<->(k,true)∈S'):Ik S=Ik S':=by
 refine Br1 ((List.perm_ext_iff_of_nodup h.1 e.1).2 λp=>?_) h.2;have⟨k,b⟩:=p;cases b
 ·exact⟨λf=>by have:=h.2 _ f;simp at this,λf=>by have:=e.2 _ f;simp at this⟩
 grind
section
variable {x:E9}{t:Int}
noncomputable def Rj (N:Nat)(x:E9)(S:Up (Int×Bool))(m:K7):OS (Up (Int×Bool)⊕Unit):=
 (Gf S m.To (false:Bool)).bind λr=>if nt r.1=true then(Ba N m.On x).bind λc=>if c=true then(FX S m.To true).bind λl=>some (.inl l)else some (.inl S)else some (.inl S)
def TL {N:Nat} (hN:300<N) (M:YH t x=0):∀(l:Up K7) (S:Up (Int×Bool)),(∀m∈l,YJ t m.On=0)->Zx S->
 ∃S',E8 (Rj N x) l S=some (.inl S')/\Zx S'/\∀k,(k,true)∈S'<->(k,true)∈S\/∃m∈l,m.To=k/\Zj m.On x=true
 |[],S,_,i=>⟨S,rfl,i,λk=>OC⟩
 | m::l,S,hl,i=>by
  have p:=Ai0 hN (hl m OC) M;have h:∀m∈l,YJ t m.On=0:=λy I=>hl y (M1 _ I)
  by_cases O:(m.To,true)∈S
  ·have⟨S',e,Z,r⟩:=TL hN M l S h i;refine⟨S',?_,Z,λk=>?_⟩
   ·rw[E8,show Rj N x S m=some (.inl S) by simp[Rj,Ca1 i O,S4]];exact e
   grind
  have⟨n,v,w⟩:=BO9 i O
  cases d:Zj m.On x with
  |false=>
   have⟨S',e,Z,r⟩:=TL hN M l S h i;refine⟨S',?_,Z,λk=>?_⟩
   ·rw[E8,show Rj N x S m=some (.inl S) by simp[Rj,n,S4,p,d]];exact e
   simp_all
  |true=>
   have⟨S',e,Z,r⟩:=TL hN M l _ h w;refine⟨S',?_,Z,λk=>?_⟩
   ·rw[E8,show Rj N x S m=some (.inl (S++[(m.To,true)])) by simp[Rj,n,v,S4,p,d]];exact e
   grind
variable {s:D1}
noncomputable def Rk (N:Nat)(s:D1)(x:E9)(S:Up (Int×Bool))(p:Int×Bool):OS (Up (Int×Bool)⊕Up (Int×Bool)):=
 (Db N s p.1).bind λr=>(E8 (Rj N x) r S).bind λo=>match o with| .inl S'=>some (.inl S')| .inr _=>none
def YT {N:Nat} (hN:3000<N) (M:YH s.eC x=0) (G:Aok s):∀(l S:Up (Int×Bool)),Zx S->
 ∃S',E8 (Rk N s x) l S=some (.inl S')/\Zx S'/\∀k,(k,true)∈S'<->(k,true)∈S\/∃p∈l,∃m∈s.dX,m.eA=p.1/\m.To=k/\Zj m.On x=true
 |[],S,h=>⟨S,rfl,h,λk=>OC⟩
 |p::l,S,h=>by
  have⟨i,n,O,Z⟩:=TL (N:=N) (t:=s.eC) AY M (s.dX.filter λm=>decide (m.eA=p.1)) S (λm v=>(G.each m (List.mem_filter.1 v).1).2) h;have⟨S',e,r,w⟩:=YT hN M G l i O;refine⟨S',?_,r,λk=>?_⟩
  ·rw[E8,show Rk N s x S p=some (.inl i) by simp[Rk,BP1 hN G.mv,n]];exact e
  grind
def addP(hN:3000<N)(M:YH s.eC x=0)(G:Aok s)(S:Up (Int×Bool)):
 ∃S',GF (Rk N s x) (λS=>S) (λS=>Ik S) S ([]:Up (Int×Bool))=some S'/\Zx S'/\∀k,(k,true)∈S'<->∃p∈S,∃m∈s.dX,m.eA=p.1/\m.To=k/\Zj m.On x=true:=by
 have⟨S',e,O,Z⟩:=YT hN M G S [] AS5;refine⟨Ik S',Uh λm r=>?_,Bq3 O,λk=>?_⟩
 ·have⟨n,e2,h,i⟩:=YT hN M G m [] AS5;rw[e2];simp only[K1,Bl4,E5];refine BH1 h O λk=>?_;rw[i,Z]
  grind
 rw[(KQ S').mem_iff,Z];simp
end
noncomputable def nxB (s:D1)(b:Up Bool)(x:E9):Up Bool:=(List.range s.dY.length).map λ(k:Nat)=>@decide (∃m∈s.dX,b[m.eA.toNat]? =some true/\m.To=(k:Int)/\Zj m.On x=true) (Classical.propDecidable _)
def Bu9{s:D1}{x:E9}{b:Up Bool}(G:Aok s):(nxB s b x).length=s.dY.length/\∀k:Nat,(nxB s b x)[k]? =some true<->∃m∈s.dX,b[m.eA.toNat]? =some true/\m.To=(k:Int)/\Zj m.On x=true:=by
 unfold nxB;refine⟨OC,λk=>?_⟩;rw[Y1]
 constructor
 ·grind
 intro h
 have S:k<s.dY.length:=by
  have⟨m,p,_,Z,_⟩:=h;have:=(G.each m p).1;omega
 rw[Gx S]
 simp_all
structure Bn1 (n:Nat) (S:List (Int×Bool)) (b:List Bool):Prop where
 len:b.length=n
 tru:Zx S
 mem:∀k:Int,(k,true)∈S<->∃i:Nat,k=(i:Int)/\b[i]? =some true
def Bg7{s:D1}{x:E9}{b:Up Bool}(M:YH s.eC x=0)(G:Aok s)(h:Bn1 s.dY.length S b):
 ∃S',GF (Rk 40000000 s x) (λS=>S) (λS=>Ik S) S ([]:Up (Int×Bool))=some S'/\Bn1 s.dY.length S' (nxB s b x):=by
 have⟨S',K,O,Z⟩:=addP (N:=40000000) AY M G S;have⟨P,y⟩:=Bu9 (x:=x) (b:=b) G;refine⟨S',K,P,O,λk=>?_⟩;rw[Z]
 constructor
 ·rintro⟨p,H,m,n,f,t,c⟩;have r:=h.tru.2 p H;have⟨q,v⟩:=p
  simp only at r f
  subst r;have⟨i,e,U⟩:=(h.mem q).1 H;have w:=(G.each m n).1;refine⟨k.toNat,AY,(y _).2 ⟨m,n,?_,AY,c⟩⟩;rw[f,e,show(i:Int).toNat=i by omega];exact U
 rintro⟨i,rfl,U⟩;have⟨m,n,f,t,c⟩:=(y i).1 U;have w:=(G.each m n).1;exact⟨(m.eA,true),(h.mem _).2 ⟨m.eA.toNat,AY,f⟩,m,n,rfl,t,c⟩
def As2 {s:D1} (G:Aok s):∀(w:Up E9) (S:Up (Int×Bool)) (b:Up Bool),(∀x∈w,YH s.eC x=0)->Bn1 s.dY.length S b->
 ∃S',E8 (R:=Up (Int×Bool)) (λS x=>(GF (Rk 40000000 s x) (λS=>S) (λS=>Ik S) S ([]:Up (Int×Bool))).bind λq=>some (.inl q)) w S=some (.inl S')/\Bn1 s.dY.length S' (w.foldl (nxB s) b)
 |[],S,b,_,h=>⟨S,rfl,h⟩
 |x::w,S,b,m,h=>by
  have⟨e,k,O⟩:=Bg7 (m x OC) G h;have⟨i,n,Z⟩:=As2 G w e _ (λy I=>m y (M1 _ I)) O;refine⟨i,?_,Z⟩;rw[E8];simp_all
def Qb (s:D1)(b:Up Bool):Prop:=∃i:Nat,b[i]? =some true/\s.dY[i]? =some true
noncomputable def Oq (s:D1)(_:Unit)(p:Int×Bool):OS (Unit⊕(Unit⊕Unit)):=(C4 s.dY p.1).bind λx=>if x=true then some (.inr (.inr ()))else some (.inl ())
def Yq {s:D1}:∀(l:Up (Int×Bool)),(∀p∈l,∃i:Nat,p.1=(i:Int)/\i<s.dY.length)->
 ((∃p∈l,s.dY[p.1.toNat]? =some true)->E8 (Oq s) l ()=some (.inr (.inr ())))/\(¬(∃p∈l,s.dY[p.1.toNat]? =some true)->E8 (Oq s) l ()=some (.inl ()))
 |[],_=>⟨(λ⟨p,f,_⟩=>by cases f),λ_=>rfl⟩
 | p::l,hl=>by
  have⟨i,U,k⟩:=hl p OC;have ih:=Yq l λq c=>hl q (M1 _ c);have M:=D9 k
  cases j:s.dY[i]with
  |true=>
   have e:Oq s () p=some (.inr (.inr ())):=by simp[Oq,U,F3,M,j]
   refine⟨λ_=>by rw[E8,e],λh=>absurd ⟨p,OC,?_⟩ h⟩;rw[U,show(i:Int).toNat=i by omega,M,j]
  | false=>
   have e:Oq s () p=some (.inl ()):=by simp[Oq,U,F3,M,j]
   have f:¬s.dY[p.1.toNat]? =some true:=by rw[U,show(i:Int).toNat=i by omega,M,j];simp
   refine⟨λ⟨q,c,h⟩=>?_,λh=>?_⟩
   ·rw[E8,e]
    grind
   rw[E8,e]
   simp_all
def finP{s:D1}{b:Up Bool}(h:Bn1 s.dY.length S b):∃r:Unit⊕Unit,GF (Oq s) (λ_=>((.inl ()):Unit⊕Unit)) (λy=>y) S ()=some r/\(r= .inr ()<->Qb s b):=by
 have n:∀p∈S,∃i:Nat,p.1=(i:Int)/\b[i]? =some true:=λp f=>by
  have:=h.tru.2 p f;have⟨k,v⟩:=p
  simp only at this
  subst this;exact(h.mem k).1 f
 have w:∀p∈S,∃i:Nat,p.1=(i:Int)/\i<s.dY.length:=λp f=>by
  have⟨i,e,U⟩:=n p f;refine⟨i,e,?_⟩
  rcases R3 i b.length with hl|hl
  ·rw[<-h.len];exact hl
  simp_all
 have P:(∃p∈S,s.dY[p.1.toNat]? =some true)<->Qb s b:=by
  constructor
  ·rintro⟨p,f,Z⟩;have⟨i,e,U⟩:=n p f;exact⟨i,U,by rw[e,show(i:Int).toNat=i by omega]at Z;exact Z⟩
  rintro⟨i,U,Z⟩;exact⟨((i:Int),true),(h.mem _).2 ⟨i,rfl,U⟩,Pw⟩
 by_cases c:∃p∈S,s.dY[p.1.toNat]? =some true
 ·refine⟨.inr (),Uh λm K=>?_,TQ⟩
  show(E8 (Oq s) m ()).map _=_
  rw[(Yq m λp f=>w p (K.mem_iff.1 f)).1 Pw];rfl
 refine⟨.inl (),Uh λm K=>?_,⟨(λH=>by cases H),λH=>absurd (P.2 H) c⟩⟩;rw[(Yq m λp f=>w p (K.mem_iff.1 f)).2 Pw];rfl
def ZM{n:Nat}(E:1<=n):Bn1 n [(0,true)] ((List.replicate n false).set 0 true):=by
 refine⟨OC,⟨OC,λp f=>TQ⟩,λk=>?_⟩
 grind
def TS{t:Int}(h:fb (λ_ x=>YH t x) 0 w=0):∀x∈w,YH t x=0:=λx M=>by
 have⟨k,S⟩:=AF M;exact FH.1 h k x S
def Smn (s:D1)(w:Up E9)(r:Bool×Int):Prop:=r.2=0->Hn s=0/\(∀x∈w,YH s.eC x=0)/\(r.1=true<->Qb s (w.foldl (nxB s) ((List.replicate s.dY.length false).set 0 true)))
def AQ0 (s:D1) (w:Up E9):∃r,Dp 40000000 s w=some r/\Smn s w r/\(Hn s=0->w.length<=4096->(∀x∈w,YH s.eC x=0)->r.2=0):=by
 unfold Dp;rw[Bg3 AY]
 by_cases L:Hn s=0
 ·simp only[A4,L];simp only[show cmp .neq (0:Int) 0=false from rfl,D4,B6]
  by_cases m:4096<(w.length:Int)
  ·simp only[show cmp .gtr (Ar.len w) 4096=true from by simpa[N5,A9]using m,B4];exact⟨_,rfl,(λh=>by cases h),λ_ h=>AY⟩
  simp only[show cmp .gtr (Ar.len w) 4096=false from by simpa[N5,A9]using m,D4,B6];have G:=Bq4 L;have⟨p,K,P⟩:=BN7 G.ty;simp only[K,A4];rw[Gg (l:=w) (f:=λ_ x=>YH s.eC x) (e:=.inl ()) (b:=.inr) (N:=40000000) ?_ ?_ AY]
  ·by_cases Y:fb (λ_ x=>YH s.eC x) 0 w=0
   ·rw[A2 Y];simp only[A4];have v:FX ([]:Up (Int×Bool)) 0 true=some [(0,true)]:=rfl;rw[v];simp only[A4];have⟨S,y,O⟩:=As2 G w _ _ (TS Y) (ZM G.fi.1);have⟨q,e4,H⟩:=finP O;rw[R6 (α:=E9) (σ:=List (Int×Bool)) (R:=List (Int×Bool)) w AY (λS i=>(i,S)) (λS x=>(GF (Rk 40000000 s x) (λS=>S) (λS=>Ik S) S ([]:List (Int×Bool))).bind λq=>some (.inl q)) (λS=>S) _ AY]
    ·rw[y];have n:=e4
     unfold Oq at n
     simp only[A4];rw[n]
     cases q with
     |inl u=>exact⟨_,rfl,λ_=>⟨L,TS Y,(λh=>by cases h),λh=>by have:=H.2 h;cases this⟩,λ_ _ _=>rfl⟩
     |inr u=>exact⟨_,rfl,λ_=>⟨L,TS Y,(λ_=>H.1 rfl),λ_=>rfl⟩,λ_ _ _=>rfl⟩
    ·intro S i x M U
     show(if cmp .lss (i:Int) (Ar.len w)=true then _ else _)=_
     rw[A2 (by simpa[B8,A9]using U)];rw[F3,M,A4];rw[E6 AY AY]
     show(GF (Rk 40000000 s x) (λS=>S) (λS=>Ik S) S ([]:Up (Int×Bool))).bind _=_
     grind
    intro S
    show(if cmp .lss (w.length:Int) (Ar.len w)=true then _ else _)=_
    rw[A1 (by simp[B8,A9])]
   rw[A1 Y];exact⟨_,rfl,λh=>absurd h Y,λ_ _ h=>absurd (FH.2 λk x M=>h x (K4 M)) Y⟩
  ·intro i x M U;have⟨r,y,O,_⟩:=VK (N:=40000000) (x:=x) AY P;simp only[B8,H7,A9,F3,M,A4,y,B3];rw[A2 AY,Ay2 U AY,O]
   simp_all
  simp[B8,A9]
 simp only[A4];simp only[show cmp .neq (Hn s) 0=true from by simp[H7,L],B4];exact⟨_,rfl,λh=>absurd h L,λh=>absurd h L⟩
def Pth (s:D1):Up E9->Nat->Nat->Prop
 |[],i,j=>i=j
 |x::w,i,j=>∃m∈s.dX,m.eA=(i:Int)/\Zj m.On x=true/\∃k:Nat,m.To=(k:Int)/\Pth s w k j
def brun {s:D1} (G:Aok s):∀(w:Up E9) (b:Up Bool) (j:Nat),(w.foldl (nxB s) b)[j]? =some true<->∃i:Nat,b[i]? =some true/\Pth s w i j
 |[],b,j=>⟨λh=>⟨j,h,rfl⟩,λ⟨i,h,e⟩=>by have e:i=j:=e;rw[<-e];exact h⟩
 |x::w,b,j=>by
  have Z:=(Bu9 (x:=x) (b:=b) G).2;rw[DN,brun G w _ j]
  constructor
  ·rintro⟨i,U,n⟩;have⟨m,p,f,t,c⟩:=(Z i).1 U;have r:=(G.each m p).1;exact⟨m.eA.toNat,f,m,p,AY,c,i,t,n⟩
  rintro⟨i,U,m,p,f,c,k,t,n⟩
  grind
def BI6{s:D1}{r:Bool×Int}(h:Smn s w r)(L:r.2=0):r.1=true<->∃j,Pth s w 0 j/\s.dY[j]? =some true:=by
 have⟨O,Z,k⟩:=h L;have G:=Bq4 O;have e:=ZM (n:=s.dY.length) G.fi.1;have W:=brun G w ((List.replicate s.dY.length false).set 0 true);rw[k]
 constructor
 ·rintro⟨j,z,q⟩
  grind
 rintro⟨j,f,q⟩;have⟨i,e0,U⟩:=(e.mem 0).1 OC
 have:i=0:=AY
 subst this;exact⟨j,(W j).2 ⟨0,U,f⟩,q⟩
def Acc (s:D1)(w:Up E9):Prop:=∃j,Pth s w 0 j/\s.dY[j]? =some true
def BR5{s:D1}(L:Hn s=0)(m:w.length<=4096)(M:∀x∈w,YH s.eC x=0):∃b,IY 40000000 s w=some b/\(b=true<->Acc s w):=by
 have⟨r,e,Q,h⟩:=AQ0 s w;have Z:=h L m M;refine⟨r.1,?_,BI6 Q Z⟩;unfold IY;simp only[e,A4,Z,Q4,D8,H8,LG]
def BY0{s:D1}(h:Aok s):Hn s=0:=by
 unfold Hn;rw[A1 (by have:=h.ty;omega),A1 (by have:=h.fi;have:=h.mv;omega)];refine FH.2 λi m p=>?_;have:=h.each m (K4 p);unfold smv;rw[A2 this.1];exact this.2
end Go.Ab
namespace Go.Ab
open Classical
set_option maxRecDepth 100000
noncomputable section
variable{R:A8->B2×Int}
def Tm{x a b:A8}(M:x.dT=[a,b]){u w:B2}(e:Fj R a=(u,0))(W:Fj R b=(w,0)):Fj R x=if JZ x.Op [u.Kind,w.Kind]≠0 then(Fv,JZ x.Op [u.Kind,w.Kind])else(JU x.Op [u,w],0):=by
 rw[Ny,M,A1 OC];simp only[HR,e,W,ne_eq,Y2,B6,D2,G8]
def BB7{x a:A8}(M:x.dT=[a]){u:B2}(e:Fj R a=(u,0)):Fj R x=if JZ x.Op [u.Kind]≠0 then(Fv,JZ x.Op [u.Kind])else(JU x.Op [u],0):=by
 rw[Ny,M,A1 OC];simp only[HR,e,ne_eq,Y2,B6,D2,G8]
def JN (n:Int):B2:=⟨0,n,⟨#[]⟩⟩
structure Rd (R:A8->B2×Int) (field own v:Int):Prop where
 c:∀y:A8,y.Op=0->R y=(y.Value,0)
 f:∀y:A8,y.Op=1->y.Var=own->y.Field=field->0<=y.Field->R y=(JN v,0)
 b: -1099511627776<=v/\v<=1099511627776
def Ap0{v:B2}(h:R5 v=0)(S:v.Kind=0):v=JN v.Num:=by
 have⟨k,n,t⟩:=v
 simp only at S;subst S
 have:=(Mh h rfl).1
 simp only at this
 rw[this];rfl
def Uv{x:A8}(M:BJ x=0)(h:x.Op<5):x.dT.length=0:=by
 have⟨_,_,a⟩:=UL M
 rw[A2 h]at a;omega
def Wv{t v:Int}{k:Nat}(o: -(k:Int)<=t/\t<=k)(j: -1099511627776<=v/\v<=1099511627776): -(1099511627776*(k:Int))<=t*v/\t*v<=1099511627776*(k:Int):=by
 have O:(t*v).natAbs<=k*1099511627776:=by
  rw[Int.natAbs_mul];exact Z3 AY AY
 omega
def Ba5{a b:Int}(W:0<b)(i:b<=1000000)(u: -1000000000000000<=a/\a<=1000000000000000):b*Eo a b<=a/\a<b*Eo a b+b/\ -1000000000000001<=Eo a b/\Eo a b<=1000000000000000:=by
 have e:ar .rem .i64 a b=a.tmod b:=rfl
 have c:(a.tdiv b).natAbs<=a.natAbs:=by
  rw[Int.natAbs_tdiv];exact Nat.div_le_self _ _
 have e2:ar .quo .i64 a b=a.tdiv b:=Bt AY AY;have p:=Int.mul_tdiv_add_tmod a b
 have O:a.tmod b<b:=by
  exact zaz
 have Z: -b<a.tmod b:=by
  exact zaz
 unfold Eo;rw[e,e2]
 by_cases h:a.tmod b<0
 ·rw[A2 h,Wf AY,Int.mul_sub,Int.mul_one];omega
 grind
def BD0{lo hi v:Int}(j: -1099511627776<=v/\v<=1099511627776):Bs (Qm lo hi) v<->lo<=v/\v<=hi:=by
 unfold Qm;simp only[AK7,MP]
 by_cases h:(if 1099511627776<hi then(1099511627776:Int)else hi)<if lo< -1099511627776 then -1099511627776 else lo
 ·rw[A2 h];refine⟨λk=>absurd k Kt,λk=>?_⟩;omega
 rw[A1 h,W2];simp only[Kt,or_false];omega
def Wt{t b v:Int}(o: -1000000<=t/\t<=1000000)(W: -1000000000000000<=b/\b<=1000000000000000)(j: -1099511627776<=v/\v<=1099511627776):Bs (Aa5 t b) v<->t*v<=b:=by
 unfold Aa5
 by_cases O:0<t
 ·rw[A2 O,BD0 j];have⟨r,w,_,_⟩:=Ba5 O AY W
  constructor
  ·rintro⟨_,h⟩;have:=KN h (Int.le_of_lt O);omega
  intro h;refine⟨j.1,?_⟩;apply Int.not_lt.1;intro i;have:=KN (show Eo b t+1<=v by omega) (Int.le_of_lt O)
  rw[Int.mul_add,Int.mul_one]at this
  omega
 rw[A1 O]
 by_cases Z:t<0
 ·rw[A2 Z,BD0 j,Ms (a:=t) AY];have⟨r,w,y,H⟩:=Ba5 (a:=b) (b:= -t) AY AY W;rw[Ms (a:=Eo b (-t)) AY]
  have e:t*v=(-t)*(-v):=by rw[Int.neg_mul_neg]
  rw[e]
  constructor
  ·rintro⟨h,_⟩;have:=KN (show -v<=Eo b (-t) by omega) (show 0<= -t by omega);omega
  intro h;refine⟨?_,j.2⟩;apply Int.not_lt.1;intro i;have:=KN (show Eo b (-t)+1<= -v by omega) (show 0<= -t by omega)
  rw[Int.mul_add,Int.mul_one]at this
  omega
 rw[A1 Z]
 have L:t=0:=AY
 subst L
 by_cases n:0<=b
 ·rw[A2 n,W2]
  simp_all
 rw[A1 n];refine⟨λk=>absurd k Kt,λk=>?_⟩;omega
def BZ7{N:Nat}{a b:Up A6}(u:ck a=0)(W:ck b=0)(hl:a.length+b.length<=100)(hN:100000<N):∃r,AI N a b=some (r,0)/\Cn (λn=>Bs a n/\Bs b n) r:=by
 have⟨r,O,Z,_⟩:=Qg (N:=N) (bel:=λe i=>CM N e i) (f:=λx y=>x&&y) (λx y=>rfl) rfl u W hl AY (P:=λn=>Bs a n/\Bs b n) (λn x y h k=>by
  rw[<-h,<-k,G9])
 refine⟨r,?_,Z⟩;unfold AI;rw[O];rfl
def Bq2{N:Nat}{a b:Up A6}(u:ck a=0)(W:ck b=0)(hl:a.length+b.length<=100)(hN:100000<N):∃r,Dy N a b=some (r,0)/\Cn (λn=>Bs a n\/Bs b n) r:=by
 have⟨r,O,Z,_⟩:=Qg (N:=N) (bel:=λe i=>FE N e i) (f:=λx y=>x||y) (λx y=>rfl) rfl u W hl AY (P:=λn=>Bs a n\/Bs b n) (λn x y h k=>by
  rw[<-h,<-k,L7])
 refine⟨r,?_,Z⟩;unfold Dy;rw[O];rfl
def Cb3{N:Nat}{a:Up A6}(u:ck a=0)(hl:a.length<=100)(hN:100000<N):∃r,W8 N a=some (r,0)/\Cn (λn=> -1099511627776<=n/\n<=1099511627776/\¬Bs a n) r:=by
 have G:=Ty u;have L:∀y∈a,(-1099511627776:Int)<=y.Low:=λy I=>(G.2.1 y I).1;have e:=Yk a (-1099511627776);refine⟨Lw (-1099511627776) a,?_,(Az5 G.ord L AY).1,AY,λn=>AZ6 G.ord L⟩;rw[slV u AY,A1 AY]
section
variable {N:Nat}(hN:TB N){La Lb:List Int}{a b:List A6}(oa:FT a)(ob:FT b)(sa:Ih La a)(sb:Ih Lb b)(hl:La.length+Lb.length<=90)
include hN oa ob sa sb hl
theorem and1:∃r,AI N a b=some (r,0)/\FT r/\Ih (La++Lb) r/\∀n,Bs r n<->Bs a n/\Bs b n:=by
 have h:=sa.len oa;have i:=sb.len ob;have⟨r,O,e⟩:=BZ7 (N:=N) (Ob oa AY) (Ob ob AY) AY AY;exact⟨r,O,e.1,sa.comb sb (λA B _=>A/\B) e.2.2,e.2.2⟩
theorem or1:∃r,Dy N a b=some (r,0)/\FT r/\Ih (La++Lb) r/\∀n,Bs r n<->Bs a n\/Bs b n:=by
 have h:=sa.len oa;have i:=sb.len ob;have⟨r,O,e⟩:=Bq2 (N:=N) (Ob oa AY) (Ob ob AY) AY AY;exact⟨r,O,e.1,sa.comb sb (λA B _=>A\/B) e.2.2,e.2.2⟩
end
def not1{N:Nat}(hN:TB N){La:Up Int}{a:Up A6}(oa:FT a)(sa:Ih La a)(hl:La.length<=180):∃r,W8 N a=some (r,0)/\FT r/\Ih La r/\∀n,Bs r n<-> -1099511627776<=n/\n<=1099511627776/\¬Bs a n:=by
 have h:=sa.len oa;have⟨r,O,e⟩:=Cb3 (N:=N) (Ob oa AY) AY AY
 have:=sa.comb Wg (λA _ R=>R/\¬A) (c:=r) λm=>by rw[e.2.2 m,and_assoc]
 rw[F2]at this
 exact⟨r,O,e.1,this,e.2.2⟩
def BW9{N:Nat}(hN:TB N){La Lb:Up Int}{a b:Up A6}(oa:FT a)(ob:FT b)(sa:Ih La a)(sb:Ih Lb b)(hl:La.length+Lb.length<=90):
 ∃r,Hx N a b=some (r,0)/\FT r/\Ih (La++Lb) r/\∀n,Bs r n<-> -1099511627776<=n/\n<=1099511627776/\(Bs a n<->Bs b n):=by
 have h:∀{c:Up A6},FT c->Ih (La++Lb) c->2*c.length<=92:=λX G=>by
  have:=G.len X
  grind
 have⟨x,f,i,g,C⟩:=Av4 hN oa ob sa sb hl;have⟨y,j,k,p,u⟩:=Av4 hN ob oa sb sa AY;have o:Ih (La++Lb) y:=sa.comb sb (λA B _=>B/\¬A) u;have lx:=h i g;have z:=h k o;have⟨d,v,e⟩:=Bq2 (N:=N) (Ob i AY) (Ob k AY) AY AY
 have w:Ih (La++Lb) d:=sa.comb sb (λA B _=>(A/\¬B)\/(B/\¬A)) λm=>by rw[e.2.2 m];simp_all
 have⟨q,H,K,P,V⟩:=not1 hN e.1 w Ts;refine⟨q,?_,K,P,λn=>?_⟩
 ·unfold Hx;simp only[f,j,v,H,A4];rfl
 rw[V,e.2.2]
 grind
def AX9{N:Nat}{field own:Int}:∀(n:Nat) (x:A8),x.bulk<=n->(∀y∈x.pre,BJ y=0)->x.pre.length<=64->
 ∃t p ok,Y6 N n x field own=some (⟨t,p⟩,ok)/\(-(x.pre.length:Int)<=t/\t<=x.pre.length)/\(-(1099511627776*(x.pre.length:Int))<=p/\p<=1099511627776*(x.pre.length:Int))/\
  (ok=true->∀R v,Rd R field own v->Fj R x=(JN (t*v+p),0)):=by
 intro n
 induction n with
 |zero=>intro x h;have:=Fp x;omega
 | succ n ih=>
  intro x M e hl;have k:=e x (by rw[A8.pre_eq];simp);have g:=Aj3 k
  have O:1<=x.pre.length:=by rw[A8.pre_eq];simp
  unfold Y6
  by_cases L:x.Op=0
  ·simp only[show cmp .eql x.Op 0=true from by simp[D8,L],B4];have:=BL8 (g.val (.inr L));refine⟨_,_,_,rfl,AY,AY,λS R v C=>?_⟩
   have f:x.Value.Kind=0:=by simpa[D8]using S
   rw[Ny,A2 (Uv k AY),C.c x L,Ap0 (g.val (.inr L)) f];simp[JN]
  simp only[show cmp .eql x.Op 0=false from by simp[D8,L],D4,B6]
  by_cases i:x.Op=1
  ·simp only[show cmp .eql x.Op 1=true from by simp[D8,i],B4];refine⟨_,_,_,rfl,AY,AY,λS R v C=>?_⟩
   simp only[Q4,D8,G9,B3]at S
   rw[Ny,A2 (Uv k AY),C.f x i S.1 S.2 ((BU2 k).1 (.inl i)).1];simp
  simp only[show cmp .eql x.Op 1=false from by simp[D8,i],D4,B6]
  have D:(if cmp .eql x.Op 5=true then some true else some (cmp .eql x.Op 6):OS Bool)=some (decide (x.Op=5\/x.Op=6)):=by
   by_cases a:x.Op=5<;>by_cases b:x.Op=6<;>simp[D8,a,b]
  rw[D];simp only[A4,B3]
  by_cases j:x.Op=5\/x.Op=6
  ·simp only[A2 j];have d:=g.ar
   rw[A1 AY,A1 AY]at d
   have⟨a,b,V,i0,i1,A,B,m⟩:=BU7 (x:=x) AY;have⟨K,H,J,E,q,I,z⟩:=ih a (by have:=Ag A;omega) (SN A e) AY;have⟨w,r,o2,j1,j3,j4,o⟩:=ih b (by have:=Ag B;omega) (SN B e) AY;rw[i0,i1];simp only[A4,E,j1]
   by_cases c:x.Op=6
   ·simp only[show cmp .eql x.Op 6=true from by simp[D8,c],B4,A4];rw[Ms (a:=w) AY,Ms (a:=r) AY,E6 AY AY,E6 AY AY];refine⟨_,_,_,rfl,AY,AY,λS R v C=>?_⟩
    rw[Q4,G9]at S
    have F:=Wv q C.b;have G:=Wv j3 C.b;rw[Tm V (z S.1 R v C) (o S.2 R v C)]
    have X:JZ x.Op [(JN (K*v+H)).Kind,(JN (w*v+r)).Kind]=0:=by rw[c];rfl
    rw[A1 (by rw[X];simp)]
    have u:JU x.Op [JN (K*v+H),JN (w*v+r)]=JN (ar .sub .i64 (K*v+H) (w*v+r)):=by rw[c];rfl
    rw[u,Wf AY]
    grind
   simp only[show cmp .eql x.Op 6=false from by simp[D8,c],D4,B6,A4];rw[E6 AY AY,E6 AY AY];refine⟨_,_,_,rfl,AY,AY,λS R v C=>?_⟩
   rw[Q4,G9]at S
   have F:=Wv q C.b;have G:=Wv j3 C.b
   have P:x.Op=5:=AY
   rw[Tm V (z S.1 R v C) (o S.2 R v C)]
   have X:JZ x.Op [(JN (K*v+H)).Kind,(JN (w*v+r)).Kind]=0:=by rw[P];rfl
   rw[A1 (by rw[X];simp)]
   have u:JU x.Op [JN (K*v+H),JN (w*v+r)]=JN (ar .add .i64 (K*v+H) (w*v+r)):=by rw[P];rfl
   rw[u,E6 AY AY]
   grind
  simp only[A1 j]
  grind
def Cj3{N:Nat}(hN:TB N){e t p t' p':Int}(o: -1000000<=t-t'/\t-t'<=1000000)(f: -900000000000000<=p-p'/\p-p'<=900000000000000)(X:e=7\/e=8\/e=9):
 ∃r L,Eb N e ⟨t,p⟩ ⟨t',p'⟩=some (r,0)/\FT r/\L.length<=4/\Ih L r/\∀v, -1099511627776<=v/\v<=1099511627776->(Bs r v<->if e=7 then t*v+p<t'*v+p' else if e=8 then t*v+p<=t'*v+p' else t*v+p=t'*v+p'):=by
 have n:ar .sub .i64 t t'=t-t':=Wf AY;have e2:ar .sub .i64 p p'=p-p':=Wf AY;have y:Ar.neg .i64 (p-p')= -(p-p'):=Ms AY;have e4:Ar.neg .i64 (t-t')= -(t-t'):=Ms AY;have k:∀v,(t-t')*v=t*v-t'*v:=λv=>Int.sub_mul ..
 have K:∀v,(-(t-t'))*v=t'*v-t*v:=λv=>by rw[Int.neg_mul,k];omega
 unfold Eb
 rcases X with rfl|rfl|rfl
 ·have H:ar .add .i64 (p-p') 1=p-p'+1:=E6 AY AY;have⟨h,_,L,w,i⟩:=(SW (t-t') (-(p-p'+1))).ord;simp only[show cmp .eql (7:Int) 7=true from rfl,B4,n,e2,H];rw[Wu AY AY];refine⟨_,L,rfl,h,AY,i,λv j=>?_⟩;rw[Wt AY AY j,k];omega
 ·have⟨h,_,L,w,i⟩:=(SW (t-t') (-(p-p'))).ord;simp only[show cmp .eql (8:Int) 7=false from rfl,show cmp .eql (8:Int) 8=true from rfl,D4,B6,B4,n,e2];rw[Wu AY AY];refine⟨_,L,rfl,h,AY,i,λv j=>?_⟩;rw[Wt AY AY j,k]
  grind
 have⟨h,_,L,w,i⟩:=(SW (t-t') (-(p-p'))).ord;have⟨P,_,L',q,V⟩:=(SW (-(t-t')) (p-p')).ord;have⟨z,c,d,g,m⟩:=and1 hN h P i V AY;simp only[show cmp .eql (9:Int) 7=false from rfl,show cmp .eql (9:Int) 8=false from rfl,D4,B6,n,e2,y,e4];rw[Wu AY AY,Wu AY AY,Int.neg_neg];simp only[A4,c];refine⟨z,L++L',rfl,d,by simp;omega,g,λv j=>?_⟩;rw[m,Wt AY AY j,Wt AY AY j,A1 Sz,A1 Sz,k,K];omega
end
end Go.Ab
namespace Go.Ab
open Classical
set_option maxRecDepth 100000
noncomputable section
def Ci1 {N:Nat} {types:Up F6} {vars:Up R9} {x:A8} (M:Bc0 x) (j:∀v∈vars,0<=v.Typ/\v.Typ<(types.length:Int)) (P:x.Op<5):∃r,Gs N ⟨types,vars⟩ x=some r:=by
 unfold Gs;simp only[D8,O0,H7,Q8,A9,L7,B3,P9,O2];have X:=M.op
 by_cases L:x.Op=0
 ·rw[A2 L];simp_all
 rw[A1 L];have k:=M.var AY
 by_cases O:(vars.length:Int)<=x.Var
 ·rw[A2 O];simp_all
 rw[A1 O]
 by_cases Z:x.Op=2\/x.Op=3
 ·rw[A2 Z];simp_all
 rw[A1 Z];have h:=M.fld AY;have⟨v,y,H⟩:=Ku (l:=vars) (i:=x.Var) AY;have⟨s,A,V⟩:=Ku (l:=types) (i:=v.Typ) (j v (K4 H));rw[y];simp only[A4,A]
 by_cases e:(s.Fields.length:Int)<=x.Field
 ·rw[A2 e];simp_all
 rw[A1 e];have⟨f,n,K⟩:=Ku (l:=s.Fields) (i:=x.Field) AY;simp only[n,A4]
 by_cases w:x.Op=4
 ·rw[A2 w,Aq1];simp only[A4]
  split
  ·simp_all
  split<;>exact⟨_,rfl⟩
 simp_all
def Ci2 {N:Nat} {types:Up F6} {vars:Up R9} (hN:TB N) (j:∀v∈vars,0<=v.Typ/\v.Typ<(types.length:Int)):∀(n:Nat) (x:A8),x.bulk<=n->x.bulk<=16777216->(∀y∈x.pre,BJ y=0)->∃r,An N n ⟨types,vars⟩ x=some r:=by
 intro n
 induction n with
 |zero=>intro x h;have:=Fp x;omega
 | succ n ih=>
  intro x M W i;have V:=Aj3 (i x (by rw[A8.pre_eq];simp));have w:=V.ar;unfold An
  by_cases L:(x.dT.length:Int)=0
  ·rw[A2 (show cmp .eql (Ar.len x.dT) 0=true by simp[D8,A9,L])]
   have c:x.Op<5:=by
    rw[L]at w
    omega
   have⟨r,O⟩:=Ci1 (N:=N) V j c;rw[O]
   simp_all
  rw[A1 (show¬cmp .eql (Ar.len x.dT) 0=true by simp only[D8,A9,B3];exact L)]
  have K:x.dT.length<=2:=by
   omega
  have⟨r,f,H⟩:=AL2 (N:=N) (l:=x.dT) (F:=λa=>An N n ⟨types,vars⟩ a) (G:=λa=>An N n ⟨types,vars⟩ a) (λa u=>(ih a (by have:=Ag u;omega) (by have:=Ag u;omega) λy I=>i y (by rw[A8.pre_eq];exact M1 _ (SF I _ u))).imp λ_ h=>⟨h,h⟩) AY AY;have g:=H _ (.inl rfl)
  cases r with
  | inl P=>
   have d:=f P rfl
   have:∃r,(Eu N x.Op P).bind (λk=>if cmp .neq k 0=true then some ((0:Int),k)else if Ar.or (cmp .eql x.Op 5) (cmp .eql x.Op 6)=true then some (0,0)else some (1,0))=some r:=by
    rw[Tr hN x.Op AY];simp only[A4]
    split
    ·simp_all
    split<;>exact⟨_,rfl⟩
   simp_all
  |inr e=>simp_all
def Ck5 {N:Nat} {types:Up F6} {vars:Up R9} {x:A8} (hN:TB N) (W:x.bulk<=16777216):∃r,QO N types vars x=some r/\(r.2=0->V0 x=0):=by
 unfold QO;rw[An1 AY];simp only[A4,H7,P9,O2]
 by_cases L:PE N types=0
 ·simp only[L,Y2,B6]
  by_cases O:(16:Int)<vars.length
  ·simp only[N5,A9,B3,A2 O]
   simp_all
  simp only[N5,A9,B3,A1 O]
  have h:=Gg (l:=vars) (f:=vrF types) (N:=N) (R:=Unit⊕Unit) (e:=.inl ()) (b:=λ_=>.inr ()) (step:=λ(k:Int)=>
   (
    if cmp .lss k (Ar.len vars)=true then
     (C4 vars k).bind λn=>
     if Ar.or (cmp .lss n.Typ 0) (cmp .geq n.Typ (Ar.len types))=true then
      some (.inr (.inr ()))
     else
      some (.inl (ar .add .i64 k 1))
    else
     some (.inr (.inl ()))
    :OS ((Int)⊕(Unit⊕Unit)))) (λi v j U=>by
   simp only[B8,O0,Q8,A9,F3,j,A4,L7,B3];rw[A2 AY,Cm AY];unfold vrF
   grind) (by simp only[B8,A9,B3];rw[A1 AY]) AY
  by_cases z:fb (vrF types) 0 vars=0
  ·rw[A2 z]at h
   have j:∀v∈vars,0<=v.Typ/\v.Typ<(types.length:Int):=λv j=>by
    have⟨i,U⟩:=AF j;have:=FH.1 z i v U
    unfold vrF at this
    omega
   by_cases Z:V0 x=0
   ·have⟨r,w⟩:=Ci2 hN j N x AY W (MS Z);refine⟨r,FM h ?_,λ_=>Z⟩;simp only[QS hN W,A4,Z,w];rfl
   refine⟨(0,V0 x),FM h ?_,λe=>absurd e Z⟩;simp only[QS hN W,A4];rw[A2 (by simp[Z])]
  rw[A1 z]at h
  exact⟨(0,6),FM h rfl,λe=>by cases e⟩
 simp_all
end
end Go.Ab
