/- . -/
import Derived.Test.YtagnkafeimdfnaaGreatDoorA16
import Derived.Lib.LaidTab
import Derived.Laws.Strings
set_option linter.all false
open Go.Ab.Ar (an ar cmp mx nt scmp)
namespace Go.Ab
open Go.RowKit Go.ChangeShapes Go.WideShapes
variable [P3]
section
variable {H α:Type}{enc:TypeId×Value->H}{P:Program}{W:World}{base:Nat}{spare:Nat->Bool}{held:Bool}{t e:TypeId}{n:Nat}
def Xz {cs:Up HO} {sz:Nat} {f:α->V}:∀(l:Up α) (o:Nat),(∀(i:Nat) a,l[i]? =some a->Ip (g0 W) W ((cs.drop (o+i*sz)).take sz) (f a).cells)->Ip (g0 W) W ((cs.drop o).take (l.length*sz)) (l.flatMap λa=>(f a).cells)
 |[],o,_=>by simp;exact .nil _ _
 | a::l,o,h=>by
  have L:=h 0 a rfl
  rw[Nat.zero_mul,BC]at L
  have O:=Xz l (o+sz) λi b U=>by
   have:=h (i+1) b za7
   rwa[show o+(i+1)*sz=o+sz+i*sz by rw[E2];omega]at this
  have:=L.join O;rw[N3,X9,show(l.length+1)*sz=sz+l.length*sz by rw[E2];omega];exact this
def Ag6 {f:α->V} {R:α->DataW H->Prop} {m:Nat} (j:P.underlying t=some (.array m e)) (c:P.cellsOf t=m*P.cellsOf e) (E:0<m) (Y:∀n,DA enc P W base spare held e f R n) {cs:Up HO} {x:DataW H×Up MemPlace}
 (h:DataW.trod enc P W base spare held n t cs=some x):∃l:Up α,Ip (g0 W) W cs (l.flatMap λa=>(f a).cells)/\∃ds,x.1= .agg ds/\RL R l ds:=by
 cases n with
 |zero=>simp[DataW.trod]at h
 | succ n=>
  simp only[DataW.trod,j]at h
  split at h
  ·rename_i hl;obtain⟨xs,g,rfl⟩:=Option.map_eq_some_iff.1 h
   have k:xs.length=m:=by simpa using mapM_some_length g
   have one:∀i,i<m->∃b,Ip (g0 W) W ((cs.drop (i*P.cellsOf e)).take (P.cellsOf e)) (f b).cells/\∀y,xs[i]? =some y->R b y.1:=by
    intro i U;have O:=mapM_some_get g i i (by simp[U])
    have Z:xs[i]? =some (xs[i]' za2):=za7
    rw[Z]at O
    have⟨b,p,F⟩:=Y n _ _ O
    grind
   have⟨r,_⟩:=one 0 E
   haveI:Inhabited α:=⟨r⟩
   have⟨A,o⟩:=Deep.choose_lt one
   have K:∀(i:Nat) a,((List.range m).map A)[i]? =some a->i<m/\a=A i:=λi a U=>by
    grind
   refine⟨(List.range m).map A,?_,_,rfl,by simp[k],λi a d U hd=>?_⟩
   ·have:=Xz (cs:=cs) (sz:=P.cellsOf e) (f:=f) (W:=W) ((List.range m).map A) 0 (λi a U=>by
     grind)
    grind
   grind
  cases h
def Aj5 {g:Nat} {cs:za1 HO} {xs:Up V} {a:String} (b:P.globalNamed a=some g) (q:W.var? P a=some cs) (f:Ip (g0 W) W cs.toList xs):VR (g0 W) W (.pointer (some ⟨g,0,none⟩)) (.eref xs 0):=by
 have cell:∀j,j<xs.length->W.cell? ⟨g,0+j,none⟩=some (cs.toList.getD j undef):=λj u=>by
  have O:=World.var?_cell b q j
  have Z:j<cs.size:=by have:=f.1;simp_all
  rw[K4,O]
  simp_all
 exact .eref (g:=g0 W) (o:=0) (off:=0) (λj=>cs.toList.getD j undef) (λj u=>(⟨_,cell j u⟩:∃v,W.cell? ⟨g,0+j,none⟩=some v)) (λj u=>cell j u) (λj u=>(f.2 j u).1) λj u=>(f.2 j u).2
end
section
variable {H:Type}{enc:TypeId×Value->H}{P:Program}{W:World}{base:Nat}{spare:Nat->Bool}{held:Bool}{t e:TypeId}{n:Nat}
end
end Go.Ab
namespace Go.Ab
variable [Ar]
structure Jw where
 Var:Int
 At:Int
structure Ao7 where
 s:List Jw
 d:A5
end Go.Ab
namespace Go.Ab
mutual
def B6.bulk:B6->Nat
 |⟨_,args,_,_,_,v⟩=>B6.bulks args+v.Text.size+9
def B6.bulks:Up B6->Nat
 |[]=>1
 |a::r=>B6.bulk a+B6.bulks r
end
mutual
def A0.bulk:A0->Nat
 |⟨_,args,_,_,_,_,c⟩=>A0.bulks args+B6.bulk c+6
def A0.bulks:Up A0->Nat
 |[]=>1
 |a::r=>A0.bulk a+A0.bulks r
end
mutual
def A5.bulk:A5->Nat
 |⟨_,_,ks⟩=>A5.bulks ks+6
def A5.bulks:Up A5->Nat
 |[]=>1
 |a::r=>A5.bulk a+A5.bulks r
end
mutual
def B6.pre:B6->Up B6
 |⟨h,args,var,a,b,g⟩=>⟨h,args,var,a,b,g⟩::B6.pres args
def B6.pres:Up B6->Up B6
 |[]=>[]
 |a::r=>B6.pre a++B6.pres r
end
mutual
def B6.dep:B6->Nat
 |⟨_,args,_,_,_,_⟩=>B6.deps args+1
def B6.deps:Up B6->Nat
 |[]=>0
 |a::r=>max (B6.dep a) (B6.deps r)
end
mutual
def A0.pre:A0->Up A0
 |⟨b,args,a,var,scope,span,c⟩=>⟨b,args,a,var,scope,span,c⟩::A0.pres args
def A0.pres:Up A0->Up A0
 |[]=>[]
 |a::r=>A0.pre a++A0.pres r
end
mutual
def A0.dep:A0->Nat
 |⟨_,args,_,_,_,_,_⟩=>A0.deps args+1
def A0.deps:Up A0->Nat
 |[]=>0
 |a::r=>max (A0.dep a) (A0.deps r)
end
def B6.pre_eq (x:B6):x.pre=x::B6.pres x.dD:=by cases x;simp[B6.pre]
def A0.pre_eq (x:A0):x.pre=x::A0.pres x.dD:=by cases x;simp[A0.pre]
def B6.dep_eq (x:B6):x.dep=B6.deps x.dD+1:=by cases x;simp[B6.dep]
def A0.dep_eq (x:A0):x.dep=A0.deps x.dD+1:=by cases x;simp[A0.dep]
def B6.bulk_eq (x:B6):x.bulk=B6.bulks x.dD+x.Value.Text.size+9:=by cases x;simp[B6.bulk]
def A0.bulk_eq (x:A0):x.bulk=A0.bulks x.dD+x.dF.bulk+6:=by cases x;simp[A0.bulk]
def UB:∀(l:Up B6),(∀a∈l,B6.bulk a<=B6.bulks l)/\l.length<=B6.bulks l
 |[]=>⟨λa h=>by simp at h,za8⟩
 |b::l=>by
  have h:=UB l;have A:=B6.bulk_eq b
  grind[B6.bulks]
def UA:∀(l:Up A0),(∀a∈l,A0.bulk a<=A0.bulks l)/\l.length<=A0.bulks l
 |[]=>⟨λa h=>by simp at h,za8⟩
 |b::l=>by
  have h:=UA l;have A:=A0.bulk_eq b
  grind[A0.bulks]
mutual
def As8:∀x:B6,x.pre.length<=x.bulk
 |⟨h,args,var,a,b,g⟩=>by
  have:=Lx args
  grind[B6.pre,B6.bulk]
def Lx:∀l:Up B6,(B6.pres l).length<=B6.bulks l
 |[]=>by simp[B6.pres]
 |a::l=>by
  have O:=As8 a;have Z:=Lx l
  grind[B6.pres,B6.bulks]
end
mutual
def Ib:∀x:A0,x.pre.length<=x.bulk
 |⟨b,args,a,var,scope,span,c⟩=>by
  have:=Lw args
  grind[A0.pre,A0.bulk]
def Lw:∀l:Up A0,(A0.pres l).length<=A0.bulks l
 |[]=>by simp[A0.pres]
 |a::l=>by
  have O:=Ib a;have Z:=Lw l
  grind[A0.pres,A0.bulks]
end
mutual
def Wl:∀x:B6,x.dep<=x.bulk
 |⟨h,args,var,a,b,g⟩=>by
  have:=LK args
  grind[B6.dep,B6.bulk]
def LK:∀l:Up B6,B6.deps l<=B6.bulks l
 |[]=>by simp[B6.deps]
 |a::l=>by
  have O:=Wl a;have Z:=LK l
  grind[B6.deps,B6.bulks]
end
mutual
def Aw4:∀x:A0,x.dep<=x.bulk
 |⟨b,args,a,var,scope,span,c⟩=>by
  have:=LJ args
  grind[A0.dep,A0.bulk]
def LJ:∀l:Up A0,A0.deps l<=A0.bulks l
 |[]=>by simp[A0.deps]
 |a::l=>by
  have O:=Aw4 a;have Z:=LJ l
  grind[A0.deps,A0.bulks]
end
def Cut (lim:Int)(cnt:Nat)(r:Int):Prop:=1<=r/\r<=cnt/\(r=cnt\/lim<r)
section
variable {α:Type}
def Oo {lim:Int} {f:α->OS Int} {cnt:α->Nat} {B:Nat} (h:B<=1000000000000):∀(l:Up α) (s:Int),0<=s->s+(l.map cnt).sum<=B->(∀a∈l,∃r,f a=some r/\Cut lim (cnt a) r)->
 ∃o,M8 (λ(s:Int) x=>if s<=lim then(f x).bind λr=>some (.inl (ar .add .i64 s r))else some (.inr s)) l s=some o/\
  ∃v,v=(match o with| .inl s=>s| .inr s=>s)/\s<=v/\v<=s+(l.map cnt).sum/\(v=s+(l.map cnt).sum\/lim<v)
 |[],s,L,_,_=>⟨.inl s,rfl,s,rfl,CH _,za4,.inl za4⟩
 | a::l,s,L,A,g=>by
  simp only[D9,KJ]at A ⊢
  unfold M8
  by_cases C:s<=lim
  ·obtain⟨r,O,Z,J,i⟩:=g a za4;simp only[A2 C,O,A4];have e:ar .add .i64 s r=s+r:=D4 za2 za2;rw[e];obtain⟨o,k,v,y,K,V,c⟩:=Oo h l (s+r) za2 za2 λb A=>g b (by simp[A])
   grind
  simp only[A1 C]
  grind
end
def Qe:∀l:Up A0,(l.map λa=>a.pre.length).sum=(A0.pres l).length
 |[]=>rfl
 |a::l=>by simp[A0.pres,Qe l]
def Qf:∀l:Up B6,(l.map λa=>a.pre.length).sum=(B6.pres l).length
 |[]=>rfl
 |a::l=>by simp[B6.pres,Qf l]
def Ab6 {N:Nat} (hN:Bgn N) (lim:Int):∀(n:Nat) (x:A0),x.bulk<=n->x.bulk<=16777216->∃r,CN N n x lim=some r/\Cut lim x.pre.length r:=by
 intro n
 induction n with
 |zero=>intro x h;have:=A0.bulk_eq x;omega
 | succ n ih=>
  intro x M A;have y:=A0.bulk_eq x;have b:=UA x.dD;have g:=Lw x.dD;unfold CN;rw[O1 x.dD za2 (mk:=λ(s:Int) i=>(s,i)) (body:=λ(s:Int) a=>if s<=lim then(CN N n a lim).bind λr=>some (.inl (ar .add .i64 s r))else some (.inr s)) (fin:=λs=>s) (s:=1) za2 ?_ ?_]
  ·obtain⟨o,K,v,d,j,V,c⟩:=Oo (lim:=lim) (f:=λa=>CN N n a lim) (cnt:=λa=>a.pre.length) (B:=40000000) za2 x.dD 1 za2 (by rw[Qe];omega) λa T=>ih a (by have:=b.1 a T;omega) (by have:=b.1 a T;omega)
   rw[Qe]at V c
   have k:x.pre.length=(A0.pres x.dD).length+1:=by rw[A0.pre_eq];rfl
   simp only[K,A4];refine⟨v,?_,za2,za2,?_⟩
   ·cases o<;>simp_all
   omega
  ·intro s i a T U;have e:ar .add .i64 (i:Int) 1=i+1:=D4 za2 za2;simp only[E4,Dp,O5,B4,U,I9,IA,E8,T,A4,e,H5]
   grind
  intro s;simp[E4,O5,B4]
end Go.Ab
namespace Go.Ab
def Rn {x a:A0}(h:a∈x.dD):a.bulk<x.bulk:=by
 have O:=(UA x.dD).1 a h;have Z:=A0.bulk_eq x;omega
def Ea {x a:B6}(h:a∈x.dD):a.bulk<x.bulk:=by
 have O:=(UB x.dD).1 a h;have Z:=B6.bulk_eq x;omega
def Rs (x:A0):x.dD.length<=x.bulk:=by
 have O:=(UA x.dD).2;have Z:=A0.bulk_eq x;omega
def Ki (x:B6):x.dD.length<=x.bulk:=by
 have O:=(UB x.dD).2;have Z:=B6.bulk_eq x;omega
def RN (x:A0):0<x.bulk:=by have:=A0.bulk_eq x;omega
def Im (x:B6):0<x.bulk:=by have:=B6.bulk_eq x;omega
def Al6 {N:Nat} (hN:Bgn N):∀(n:Nat) (x:A0),x.bulk<=n->x.bulk<=16777216->Ch N n x=some (x.dep:Int):=by
 intro n
 induction n with
 |zero=>intro x h;have:=RN x;omega
 | succ n ih=>
  intro x M A;have hl:=Rs x;unfold Ch;rw[O1 x.dD za2 (mk:=λ(s:Int) i=>(s,i)) (body:=λ(s:Int) a=>(Ch N n a).bind λr=>some (.inl (mx s r))) (fin:=λs=>s) (s:=0) za2 ?_ ?_]
  ·obtain⟨K,k,y⟩:=Ds (R:=Int) (step:=λ(s:Int) a=>(Ch N n a).bind λr=>some (.inl (mx s r))) (λr s=>(∀a∈r,a∈x.dD)/\0<=s/\max s (A0.deps r:Int)=(A0.deps x.dD:Int)) (λa r s ⟨O,Z,J⟩=>by
    have E:=Rn (O a za4);refine⟨_,by rw[ih a za2 za2];rfl,λb A=>O b (by simp[A]),?_,?_⟩
    ·rw[MK];split<;>omega
    rw[<-J,MK];grind[A0.deps]) (l:=x.dD) (s:=0) ⟨λa h=>h,CH _,za2⟩
   simp only[k,A4]
   have e:K=(A0.deps x.dD:Int):=by have:=y.2.2;grind[A0.deps]
   have hd:=LJ x.dD;have g:=A0.bulk_eq x;rw[e,D4 za2 za2,A0.dep_eq];rfl
  ·intro s i a T U;have e:ar .add .i64 (i:Int) 1=i+1:=D4 za2 za2;simp only[E4,B4,U,I9,D8,E8,T,A4,e];cases Ch N n a<;>rfl
  intro s;simp[E4,B4]
def AW {α:Type}{l m:Up α}(h:l.length+m.length<=1073741824):V7 l m=some (l++m):=by simp[V7,h]
def Vw {N:Nat} (hN:Bgn N):∀(n:Nat) (x:A0),x.bulk<=n->x.bulk<=16777216->Cg N n x=some x.pre:=by
 intro n
 induction n with
 |zero=>intro x h;have:=RN x;omega
 | succ n ih=>
  intro x M A;have hl:=Rs x;unfold Cg;rw[O1 x.dD za2 (mk:=λ(s:List A0) i=>(s,i)) (body:=λ(s:List A0) a=>(Cg N n a).bind λr=>(V7 s r).bind λl=>some (.inl l)) (fin:=λs=>s) (s:=[x]) za2 ?_ ?_]
  ·have V:=Ib x;have k:=A0.pre_eq x
   obtain⟨c,y,K⟩:=Ds (R:=Up A0) (step:=λ(s:Up A0) a=>(Cg N n a).bind λr=>(V7 s r).bind λl=>some (.inl l)) (λr s=>(∀a∈r,a∈x.dD)/\s++A0.pres r=x.pre) (λa r s ⟨O,Z⟩=>by
    have E:=Rn (O a za4);have g:=G2 List.length Z
    simp only[A0.pres,K8]at g
    refine⟨_,by rw[ih a za2 za2];simp only[A4];rw[AW za2];rfl,λb A=>O b (by simp[A]),?_⟩
    rw[<-Z];simp[A0.pres]) (l:=x.dD) (s:=[x]) ⟨λa h=>h,by rw[k];rfl⟩
   simp only[y,A4];have:=K.2
   simp only[A0.pres,E5]at this
   rw[this]
  ·intro s i a T U;have e:ar .add .i64 (i:Int) 1=i+1:=D4 za2 za2;simp only[E4,B4,U,I9,D8,E8,T,A4,e]
   grind
  intro s;simp[E4,B4]
def Bg2 {N:Nat} (hN:Bgn N):∀(n:Nat) (x:A0),x.bulk<=n->x.bulk<=16777216->Ad N n x=some ((x.pre.length:Int),(x.dep:Int)):=by
 intro n
 induction n with
 |zero=>intro x h;have:=RN x;omega
 | succ n ih=>
  intro x M A;have hl:=Rs x;unfold Ad;rw[O1 x.dD za2 (mk:=λ(s:Int×Int) i=>(s.1,s.2,i)) (body:=λ(s:Int×Int) a=>(Ad N n a).bind λr=>some (.inl (ar .add .i64 s.1 r.1,mx s.2 r.2))) (fin:=λs=>s) (s:=(1,0)) za2 ?_ ?_]
  ·have f:=Lw x.dD;have hd:=LJ x.dD;have V:=A0.bulk_eq x
   obtain⟨k,c,d⟩:=Ds (R:=Int×Int) (step:=λ(s:Int×Int) a=>(Ad N n a).bind λr=>some (.inl (ar .add .i64 s.1 r.1,mx s.2 r.2))) (λr s=>(∀a∈r,a∈x.dD)/\0<=s.2/\0<=s.1/\s.1+(A0.pres r).length=(A0.pres x.dD).length+1/\max s.2 (A0.deps r:Int)=(A0.deps x.dD:Int)) (λa r s ⟨O,Z,J,K,g⟩=>by
    have E:=Rn (O a za4)
    simp only[A0.pres,K8,A0.deps]at K g
    refine⟨_,by rw[ih a za2 za2];rfl,λb A=>O b (by simp[A]),?_,?_,?_,?_⟩
    ·simp only[MK];split<;>omega
    ·rw[D4 za2 za2];omega
    ·rw[D4 za2 za2];omega
    rw[<-g];simp only[MK];split<;>omega) (l:=x.dD) (s:=(1,0)) ⟨λa h=>h,za4,za4,za2,za2⟩
   simp only[c,A4];obtain⟨_,_,_,w,e2⟩:=d
   simp only[A0.pres,Ay,A0.deps]at w e2
   have y:k.1=(x.pre.length:Int):=by rw[A0.pre_eq];simp_all
   have e4:k.2=(A0.deps x.dD:Int):=za2
   rw[y,e4,D4 za2 za2,A0.dep_eq];rfl
  ·intro s i a T U;have e:ar .add .i64 (i:Int) 1=i+1:=D4 za2 za2;simp only[E4,B4,U,I9,D8,E8,T,A4,e];cases Ad N n a<;>rfl
  intro s;simp[E4,B4]
def Bf3 {N:Nat} (hN:Bgn N):∀(n:Nat) (x:A0),x.bulk<=n->x.bulk<=16777216->Cc N n x=some x.pre:=by
 intro n
 induction n with
 |zero=>intro x h;have:=RN x;omega
 | succ n ih=>
  intro x M A;have hl:=Rs x;unfold Cc;rw[At9 x.dD (mk:=λ(_:Unit) i=>i) (body:=λ(_:Unit) a=>(Cc N n a).bind λl=>some (l,.inl ())) (fin:=λ_=>()) (s:=()) za2 ?_ ?_]
  ·obtain⟨w,y,g,k⟩:=Vp (R:=Unit) (step:=λ(_:Unit) a=>(Cc N n a).bind λl=>some (l,.inl ())) (λr w s=>(∀a∈r,a∈x.dD)/\w++A0.pres r=A0.pres x.dD) (λa r w s ⟨O,Z⟩=>by
    have E:=Rn (O a za4);refine⟨a.pre,(),by rw[ih a za2 za2];rfl,λb A=>O b (by simp[A]),?_⟩
    rw[<-Z];simp[A0.pres]) (l:=x.dD) (w:=[]) (s:=()) ⟨λa h=>h,za4⟩
   have e:w=A0.pres x.dD:=by have:=k.2;simp_all[A0.pres]
   rw[g,e,A0.pre_eq];simp[L5]
  ·intro s i a T U;have e:ar .add .i64 (i:Int) 1=i+1:=D4 za2 za2;simp only[E4,B4,U,I9,D8,E8,T,A4,e];cases Cc N n a<;>simp[L5]
  intro s;simp[E4,B4]
def Am2 {N:Nat} (hN:Bgn N) (lim:Int):∀(n:Nat) (x:B6),x.bulk<=n->x.bulk<=16777216->∃r,CP N n x lim=some r/\Cut lim x.pre.length r:=by
 intro n
 induction n with
 |zero=>intro x h;have:=Im x;omega
 | succ n ih=>
  intro x M A;have y:=B6.bulk_eq x;have b:=UB x.dD;have g:=Lx x.dD;unfold CP;rw[O1 x.dD za2 (mk:=λ(s:Int) i=>(s,i)) (body:=λ(s:Int) a=>if s<=lim then(CP N n a lim).bind λr=>some (.inl (ar .add .i64 s r))else some (.inr s)) (fin:=λs=>s) (s:=1) za2 ?_ ?_]
  ·obtain⟨o,K,v,d,j,V,c⟩:=Oo (lim:=lim) (f:=λa=>CP N n a lim) (cnt:=λa=>a.pre.length) (B:=40000000) za2 x.dD 1 za2 (by rw[Qf];omega) λa T=>ih a (by have:=b.1 a T;omega) (by have:=b.1 a T;omega)
   rw[Qf]at V c
   have k:x.pre.length=(B6.pres x.dD).length+1:=by rw[B6.pre_eq];rfl
   simp only[K,A4];refine⟨v,?_,za2,za2,?_⟩
   ·cases o<;>simp_all
   omega
  ·intro s i a T U;have e:ar .add .i64 (i:Int) 1=i+1:=D4 za2 za2;simp only[E4,Dp,O5,B4,U,I9,IA,E8,T,A4,e,H5]
   grind
  intro s;simp[E4,O5,B4]
def Wj {N:Nat} (hN:Bgn N):∀(n:Nat) (x:B6),x.bulk<=n->x.bulk<=16777216->Ci N n x=some (x.dep:Int):=by
 intro n
 induction n with
 |zero=>intro x h;have:=Im x;omega
 | succ n ih=>
  intro x M A;have hl:=Ki x;unfold Ci;rw[O1 x.dD za2 (mk:=λ(s:Int) i=>(s,i)) (body:=λ(s:Int) a=>(Ci N n a).bind λr=>some (.inl (mx s r))) (fin:=λs=>s) (s:=0) za2 ?_ ?_]
  ·obtain⟨K,k,y⟩:=Ds (R:=Int) (step:=λ(s:Int) a=>(Ci N n a).bind λr=>some (.inl (mx s r))) (λr s=>(∀a∈r,a∈x.dD)/\0<=s/\max s (B6.deps r:Int)=(B6.deps x.dD:Int)) (λa r s ⟨O,Z,J⟩=>by
    have E:=Ea (O a za4);refine⟨_,by rw[ih a za2 za2];rfl,λb A=>O b (by simp[A]),?_,?_⟩
    ·rw[MK];split<;>omega
    rw[<-J,MK];grind[B6.deps]) (l:=x.dD) (s:=0) ⟨λa h=>h,CH _,za2⟩
   simp only[k,A4]
   have e:K=(B6.deps x.dD:Int):=by have:=y.2.2;grind[B6.deps]
   have hd:=LK x.dD;have g:=B6.bulk_eq x;rw[e,D4 za2 za2,B6.dep_eq];rfl
  ·intro s i a T U;have e:ar .add .i64 (i:Int) 1=i+1:=D4 za2 za2;simp only[E4,B4,U,I9,D8,E8,T,A4,e];cases Ci N n a<;>rfl
  intro s;simp[E4,B4]
def AI4 {N:Nat} (hN:Bgn N):∀(n:Nat) (x:B6),x.bulk<=n->x.bulk<=16777216->FM N n x=some ((x.pre.length:Int),(x.dep:Int)):=by
 intro n
 induction n with
 |zero=>intro x h;have:=Im x;omega
 | succ n ih=>
  intro x M A;have hl:=Ki x;unfold FM;rw[O1 x.dD za2 (mk:=λ(s:Int×Int) i=>(s.1,s.2,i)) (body:=λ(s:Int×Int) a=>(FM N n a).bind λr=>some (.inl (ar .add .i64 s.1 r.1,mx s.2 r.2))) (fin:=λs=>s) (s:=(1,0)) za2 ?_ ?_]
  ·have f:=Lx x.dD;have hd:=LK x.dD;have V:=B6.bulk_eq x
   obtain⟨k,c,d⟩:=Ds (R:=Int×Int) (step:=λ(s:Int×Int) a=>(FM N n a).bind λr=>some (.inl (ar .add .i64 s.1 r.1,mx s.2 r.2))) (λr s=>(∀a∈r,a∈x.dD)/\0<=s.2/\0<=s.1/\s.1+(B6.pres r).length=(B6.pres x.dD).length+1/\max s.2 (B6.deps r:Int)=(B6.deps x.dD:Int)) (λa r s ⟨O,Z,J,K,g⟩=>by
    have E:=Ea (O a za4)
    simp only[B6.pres,K8,B6.deps]at K g
    refine⟨_,by rw[ih a za2 za2];rfl,λb A=>O b (by simp[A]),?_,?_,?_,?_⟩
    ·simp only[MK];split<;>omega
    ·rw[D4 za2 za2];omega
    ·rw[D4 za2 za2];omega
    rw[<-g];simp only[MK];split<;>omega) (l:=x.dD) (s:=(1,0)) ⟨λa h=>h,za4,za4,za2,za2⟩
   simp only[c,A4];obtain⟨_,_,_,w,e2⟩:=d
   simp only[B6.pres,Ay,B6.deps]at w e2
   have y:k.1=(x.pre.length:Int):=by rw[B6.pre_eq];simp_all
   have e4:k.2=(B6.deps x.dD:Int):=za2
   rw[y,e4,D4 za2 za2,B6.dep_eq];rfl
  ·intro s i a T U;have e:ar .add .i64 (i:Int) 1=i+1:=D4 za2 za2;simp only[E4,B4,U,I9,D8,E8,T,A4,e];cases FM N n a<;>rfl
  intro s;simp[E4,B4]
def WA {f:B6->Int}:∀l:Up B6,CC (λa=>CC f a.pre) l=CC f (B6.pres l)
 |[]=>rfl
 |a::l=>by rw[B6.pres,TX,CC,WA l]
def Ac0 {a y:B6} (m:y∈a.pre):∀l:Up B6,a∈l->y∈B6.pres l
 |[],h=>by simp at h
 |b::l,h=>by
  rcases List.mem_cons.1 h with rfl|h
  ·simp_all[B6.pres]
  simp[B6.pres,Ac0 m l h]
def AR5 {N:Nat} (hN:Bgn N) {F:B6->OS Int} {f:B6->Int}:∀(n:Nat) (x:B6),x.bulk<=n->x.bulk<=16777216->(∀y∈x.pre,F y=some (f y))->GG N n x F=some (CC f x.pre):=by
 intro n
 induction n with
 |zero=>intro x h;have:=Im x;omega
 | succ n ih=>
  intro x M A g;have hl:=Ki x;have b:=B6.pre_eq x;unfold GG;rw[g x (by rw[b];simp)];simp only[A4,R8];rw[b,CC]
  by_cases k:f x=0
  ·simp only[k,I9,Co,L6,H7,D8];rw[O1 x.dD za2 (mk:=λ(_:Unit) i=>i) (body:=Dl λa=>GG N n a F) (fin:=λ_=>.inl ()) (s:=()) za2 ?_ ?_]
   ·rw[Cj (f:=λa=>CC f a.pre) λa T=>ih a (by have:=Ea T;omega) (by have:=Ea T;omega) λy m=>g y (by rw[b];exact Gw _ (Ac0 m _ T)),WA]
    grind
   ·intro s i a T U;have e:ar .add .i64 (i:Int) 1=i+1:=D4 za2 za2;simp only[E4,B4,U,I9,D8,E8,T,A4,e,Dl,R8]
    grind
   intro s;simp[E4,B4]
  simp[k]
def AL4 {N:Nat} (hN:Bgn N) {f:B6->Int} (k:∀y,JZ N y=some (f y)):∀(n:Nat) (x:B6),x.bulk<=n->x.bulk<=16777216->Fp N n x=some (CC f x.pre):=by
 intro n
 induction n with
 |zero=>intro x h;have:=Im x;omega
 | succ n ih=>
  intro x M A;have hl:=Ki x;have b:=B6.pre_eq x;unfold Fp;rw[k x];simp only[A4,R8];rw[b,CC]
  by_cases g:f x=0
  ·simp only[g,I9,Co,L6,H7,D8];rw[O1 x.dD za2 (mk:=λ(_:Unit) i=>i) (body:=Dl λa=>Fp N n a) (fin:=λ_=>.inl ()) (s:=()) za2 ?_ ?_]
   ·rw[Cj (f:=λa=>CC f a.pre) λa T=>ih a (by have:=Ea T;omega) (by have:=Ea T;omega),WA]
    grind
   ·intro s i a T U;have e:ar .add .i64 (i:Int) 1=i+1:=D4 za2 za2;simp only[E4,B4,U,I9,D8,E8,T,A4,e,Dl,R8]
    grind
   intro s;simp[E4,B4]
  simp[g]
def UI {a b:za0}:a.toList=b.toList<->a=b:=by
 rw[ByteArray.toList_eq,ByteArray.toList_eq]
 constructor
 ·intro h;obtain⟨⟨a⟩⟩:=a
  simp_all
 simp_all
def Ae2 (a b:za0):scmp .neq a b= !decide (a=b):=by
 show(!(a.toList==b.toList))=_
 by_cases h:a=b
 ·grind
 have:a.toList≠b.toList:=λe=>h (UI.1 e)
 grind
def Mi (a b:za0):scmp .eql a b=decide (a=b):=by
 show(a.toList==b.toList)=_
 by_cases h:a=b
 ·grind
 have:a.toList≠b.toList:=λe=>h (UI.1 e)
 grind
def Bw4 (N:Nat)(a:Int):MR N a=some (if a<0\/12<a then(0,false)else if a<5 then(0,true)else if a=12 then(1,true)else(2,true)):=by
 unfold MR;simp only[E4,EK,F5,W9,BE,H5]
 grind
def Bn7 (N:Nat) (op:Int):Lr N op=some (if op<0\/12<op then -1 else if op<5 then 0 else if op=12 then 1 else 2):=by
 have h:op<0\/op=0\/op=1\/op=2\/op=3\/op=4\/op=5\/op=6\/op=7\/op=8\/op=9\/op=10\/op=11\/op=12\/12<op:=za2
 unfold Lr;simp only[F5]
 rcases h with h|h|h|h|h|h|h|h|h|h|h|h|h|h|h
 all_goals first
  |(subst h;rfl)
  | (have L:op≠0:=za2
     have O:op≠1:=za2
     have Z:op≠2:=za2
     have J:op≠3:=za2
     have s:op≠4:=za2
     have a:op≠5:=za2
     have b:op≠6:=za2
     have g:op≠7:=za2
     have i:op≠8:=za2
     have k:op≠9:=za2
     have T:op≠10:=za2
     have A:op≠11:=za2
     have X:op≠12:=za2
     simp[L,O,Z,J,s,a,b,g,i,k,T,A,X,h])
def BA0 (N:Nat)(a:Int):Px N a=some (decide (a=1\/a=2\/a=3\/a=4),decide (a=1\/a=4)):=by
 unfold Px;simp only[F5,H5]
 grind
def Bs8 (N:Nat)(a:Int):ME N a=some (decide (a=1\/a=2\/a=3\/a=4),decide (a=1\/a=4)):=by
 unfold ME;simp only[F5,W9]
 by_cases O:a=1
 ·simp[O]
 by_cases s:a=4
 ·simp[s]
 simp_all
def T6 (v:B5):Int:=
 if v.Kind=0\/v.Kind=1 then
  if v.Text≠⟨#[]⟩then 3
  else if v.Kind=0/\(v.Num< -1099511627776\/1099511627776<v.Num)\/v.Kind=1/\v.Num≠0/\v.Num≠1 then 2 else 0
 else if v.Kind=2 then(if v.Num≠0 then 3 else if 64<(v.Text.size:Int)then 13 else 0)else 1
def QU (N:Nat) (v:B5):CJ N v=some (T6 v):=by
 obtain⟨k,n,t⟩:=v;unfold CJ Mx T6;simp only[F5,R8,E4,EK,O5,W9,Ae2,Ac8]
 by_cases L:k=0
 ·subst L
  by_cases j:t=⟨#[]⟩
  ·subst j
   by_cases O:n< -1099511627776\/1099511627776<n
   ·simp[O]
   simp[O];decide
  simp[j]
 by_cases O:k=1
 ·subst O
  by_cases j:t=⟨#[]⟩
  ·subst j
   by_cases Z:n=0
   ·simp[Z];decide
   by_cases J:n=1
   ·simp[J];decide
   simp_all
  simp[j]
 grind
def AH1 (N:Nat)(v:B5):Lv N v=some (T6 v):=by
 obtain⟨k,n,t⟩:=v;unfold Lv T6;simp only[F5,R8,E4,EK,O5,W9,Ae2,Ac8]
 grind
def AS4 (N:Nat)(k:Int)(v:B5):MQ N k v=some (decide (v.Kind=0\/k=4\/k=5)):=by
 unfold MQ;simp only[F5,W9]
 by_cases O:v.Kind=0<;>by_cases Z:k=4<;>by_cases J:k=5<;>simp[O,Z,J]
def AH4 (N:Nat)(k:Int)(v:B5)(h:k≠0):Lt N k v=some (decide (v.Kind=0\/k=4\/k=5)):=by
 unfold Lt;simp only[F5,W9]
 by_cases O:v.Kind=0<;>by_cases Z:k=4<;>by_cases J:k=5<;>simp[h,O,Z,J]
def AR6 (a:Int):Bool:=decide (a=1\/a=2\/a=3\/a=4)
def AR7 (a:Int):Bool:=decide (a=1\/a=4)
noncomputable def Ag3 (x:B6):Bool:=Ar.or (an (AR6 x.Op) (Ar.or (cmp .lss x.Var 0) (cmp .geq x.Var 16))) (an (AR7 x.Op) (Ar.or (cmp .lss x.Field 0) (cmp .geq x.Field 8)))
noncomputable def VM (x:B6):Bool:=an (cmp .eql x.Op 4) (Ar.or (cmp .lss x.Kind 1) (cmp .gtr x.Kind 5))
noncomputable def Xk (v:B5):Bool:=an (cmp .eql v.Kind 0) (an (cmp .eql v.Num 0) (an (scmp .eql v.Text (⟨#[]⟩)) true))
noncomputable def PO (x:B6):Bool:=Ar.or (nt (decide (x.Value.Kind=0\/x.Kind=4\/x.Kind=5))) (an (cmp .eql x.Kind 1) (nt (Xk x.Value)))
noncomputable def Ru (x:B6):Bool:=Ar.or (Ar.or (Ar.or (an (nt (AR6 x.Op)) (cmp .neq x.Var 0)) (an (nt (AR7 x.Op)) (cmp .neq x.Field 0))) (an (nt (cmp .eql x.Op 4)) (cmp .neq x.Kind 0))) (an (nt (Ar.or (cmp .eql x.Op 4) (cmp .eql x.Op 0))) (nt (Xk x.Value)))
noncomputable def EJ (x:B6):Int:=
 if x.Op<0\/12<x.Op then 1
 else if(x.dD.length:Int)≠(if x.Op<5 then 0 else if x.Op=12 then 1 else 2)then 15
 else if Ag3 x=true then 2
 else if VM x=true then 1
 else if(x.Op=4\/x.Op=0)/\T6 x.Value≠0 then T6 x.Value
 else if x.Op=4/\PO x=true then 9
 else if Ru x=true then 3 else 0
def AL5 (N:Nat) (x:B6):JZ N x=some (EJ x):=by
 unfold JZ EJ;rw[Bn7,Bs8];simp only[A4]
 by_cases L:x.Op<0\/12<x.Op
 ·rw[A2 L,A2 L];rfl
 rw[A1 L,A1 L]
 have T:¬(cmp .lss (if x.Op<5 then 0 else if x.Op=12 then 1 else 2) 0=true):=by
  rw[E4];grind
 rw[A1 T]
 by_cases O:(x.dD.length:Int)≠(if x.Op<5 then 0 else if x.Op=12 then 1 else 2)
 ·rw[A2 O,A2 (by simp[R8,B4,O])]
 rw[A1 O,A1 (by simp only[R8,B4];grind)]
 change (if Ag3 x=true then some 2 else _)=_
 by_cases Z:Ag3 x=true
 ·rw[A2 Z,A2 Z]
 rw[A1 Z,A1 Z]
 change (if VM x=true then some 1 else _)=_
 by_cases J:VM x=true
 ·rw[A2 J,A2 J]
 rw[A1 J,A1 J];rw[AH1]
 have e4:(Ar.or (cmp .eql x.Op 4) (cmp .eql x.Op 0)=true)<->(x.Op=4\/x.Op=0):=by simp[F5,W9]
 have g:(cmp .eql x.Op 4=true)<->x.Op=4:=by simp[F5]
 by_cases s:x.Op=4\/x.Op=0
 ·rw [A2 (e4.2 s)];simp only[A4]
  by_cases b:T6 x.Value=0
  ·have i:¬(cmp .neq (T6 x.Value) 0=true):=by simp[R8,b]
   have k:¬((x.Op=4\/x.Op=0)/\T6 x.Value≠0):=λh=>h.2 b;rw[A1 i,A1 k];simp only[A4]
   by_cases a:x.Op=4
   ·rw[A2 (g.2 a)]
    have r:x.Kind≠0:=by
     intro e;apply J;simp[VM,O5,W9,F5,E4,a,e]
    rw[AH4 N _ _ r];simp only[A4]
    change (if PO x=true then some 9 else if Ru x=true then some 3 else some 0)=_
    grind
   rw[A1 (show¬(cmp .eql x.Op 4=true)from λh=>a (g.1 h)),A1 (show¬(x.Op=4/\PO x=true)from λh=>a h.1)]
   change (if Ru x=true then some 3 else some 0)=_
   grind
  have i:cmp .neq (T6 x.Value) 0=true:=by simp[R8,b]
  rw[A2 i,A2 (show(x.Op=4\/x.Op=0)/\T6 x.Value≠0 from⟨s,b⟩)];rfl
 rw[A1 (show¬(Ar.or (cmp .eql x.Op 4) (cmp .eql x.Op 0)=true)from λh=>s (e4.1 h)),A1 (show¬((x.Op=4\/x.Op=0)/\T6 x.Value≠0)from λh=>s h.1)];simp only[A4];have a:¬x.Op=4:=λe=>s (.inl e);rw[A1 (show¬(cmp .eql x.Op 4=true)from λh=>a (g.1 h)),A1 (show¬(x.Op=4/\PO x=true)from λh=>a h.1)]
 change (if Ru x=true then some 3 else some 0)=_
 grind
def AW2 (N:Nat) (x:B6):JR N x=some (EJ x):=by
 unfold JR EJ;rw[Bw4,BA0];simp only[A4]
 by_cases L:x.Op<0\/12<x.Op
 ·rw[A2 L,A2 L];rfl
 rw[A1 L,A1 L]
 have T:(if x.Op<5 then((0:Int),true)else if x.Op=12 then(1,true)else(2,true))=((if x.Op<5 then 0 else if x.Op=12 then 1 else 2),true):=by
  grind
 rw[T];rw[A1 (by simp[X5])]
 by_cases O:(x.dD.length:Int)≠(if x.Op<5 then 0 else if x.Op=12 then 1 else 2)
 ·rw[A2 O,A2 (by simp[R8,B4,O])]
 rw[A1 O,A1 (by simp only[R8,B4];grind)]
 change (if Ag3 x=true then some 2 else _)=_
 by_cases Z:Ag3 x=true
 ·rw[A2 Z,A2 Z]
 rw[A1 Z,A1 Z]
 change (if VM x=true then some 1 else _)=_
 by_cases J:VM x=true
 ·rw[A2 J,A2 J]
 rw[A1 J,A1 J];unfold Kp;rw[QU]
 have e4:(Ar.or (cmp .eql x.Op 4) (cmp .eql x.Op 0)=true)<->(x.Op=4\/x.Op=0):=by simp[F5,W9]
 have r:(cmp .eql x.Op 4=true)<->x.Op=4:=by simp[F5]
 by_cases s:x.Op=4\/x.Op=0
 ·rw[A2 (e4.2 s)];simp only[A4]
  by_cases b:T6 x.Value=0
  ·have i:¬(cmp .neq (T6 x.Value) 0=true):=by simp[R8,b]
   have k:¬((x.Op=4\/x.Op=0)/\T6 x.Value≠0):=λh=>h.2 b;rw[A1 i,A1 k]
   by_cases a:x.Op=4
   ·rw[A2 (r.2 a),AS4];simp only[A4]
    change (((if PO x=true then some 9 else some 0):OS Int).bind _).bind _=_
    by_cases g:PO x=true
    ·rw[A2 g,A2 (show x.Op=4/\PO x=true from⟨a,g⟩)];rfl
    rw[A1 g,A1 (show¬(x.Op=4/\PO x=true)from λh=>g h.2)]
    change (if Ru x=true then some 3 else some 0)=_
    grind
   rw[A1 (show¬(cmp .eql x.Op 4=true)from λh=>a (r.1 h)),A1 (show¬(x.Op=4/\PO x=true)from λh=>a h.1)]
   change (if Ru x=true then some 3 else some 0)=_
   grind
  have i:cmp .neq (T6 x.Value) 0=true:=by simp[R8,b]
  rw[A2 i,A2 (show(x.Op=4\/x.Op=0)/\T6 x.Value≠0 from⟨s,b⟩)]
  simp_all
 rw[A1 (show¬(Ar.or (cmp .eql x.Op 4) (cmp .eql x.Op 0)=true)from λh=>s (e4.1 h)),A1 (show¬((x.Op=4\/x.Op=0)/\T6 x.Value≠0)from λh=>s h.1)];have a:¬x.Op=4:=λe=>s (.inl e);rw[A1 (show¬(x.Op=4/\PO x=true)from λh=>a h.1)]
 change (if Ru x=true then some 3 else some 0)=_
 grind
def Bn {a b:Int}(h:b<a):cmp .gtr a b=true:=by rw[EK];simp_all
def T9 {a b:Int}(h:¬b<a):¬(cmp .gtr a b=true):=by rw[EK];grind
def O9 {a b:Int}(h:a≠b):cmp .neq a b=true:=by rw[R8];grind
def K7 {a b:Int}(h:a=b):¬(cmp .neq a b=true):=by rw[R8];grind
noncomputable def X6 (x:B6):Int:=if 64<x.pre.length then 5 else if 12<x.dep then 12 else CC EJ x.pre
def Yn {N:Nat}(hN:Bgn N){x:B6}(A:x.bulk<=16777216):Kq N x=some (X6 x):=by
 unfold Kq X6;rw[AI4 hN N x za2 A];simp only[A4]
 by_cases O:64<x.pre.length
 ·rw[A2 O,A2 (Bn za2)]
 rw[A1 O,A1 (T9 za2)]
 by_cases Z:12<x.dep
 ·rw[A2 Z,A2 (Bn za2)]
 rw[A1 Z,A1 (T9 za2),AR5 hN N x za2 A λy _=>AW2 N y];rfl
def Aw9 {N:Nat}(hN:Bgn N){x:B6}(A:x.bulk<=16777216):Jc N x=some (X6 x):=by
 unfold Jc X6;obtain⟨r,L,a,b,c3⟩:=Am2 hN 64 N x za2 A;rw[L];simp only[A4]
 by_cases O:64<x.pre.length
 ·rw[A2 O,A2 (Bn za2)]
 rw[A1 O,A1 (T9 za2),Wj hN N x za2 A];simp only[A4]
 by_cases Z:12<x.dep
 ·rw[A2 Z,A2 (Bn za2)]
 rw[A1 Z,A1 (T9 za2),AL4 hN (λy=>AL5 N y) N x za2 A];rfl
noncomputable def VS (a b:B6):Bool:=Ar.or (Ar.or (Ar.or (Ar.or (Ar.or (cmp .neq a.Op b.Op) (cmp .neq a.Var b.Var)) (cmp .neq a.Field b.Field)) (cmp .neq a.Kind b.Kind)) (nt (an (cmp .eql a.Value.Kind b.Value.Kind) (an (cmp .eql a.Value.Num b.Value.Num) (an (scmp .eql a.Value.Text b.Value.Text) true))))) (cmp .neq (Ar.len a.dD) (Ar.len b.dD))
def Xy (N:Nat):∀(n:Nat) (a b:B6),JS N n a b=Bf N n a b
 |0,_,_=>rfl
 |n+1,a,b=>by
  unfold JS Bf;simp only[Xy N n]
def Xx {N:Nat} (hN:Bgn N) (x:B6):∃b,Bf N N x (⟨0,[],0,0,0,(⟨0,0,⟨#[]⟩⟩:B5)⟩:B6)=some b:=by
 obtain⟨M,rfl⟩:∃M,N=M+1:=⟨N-1,za2⟩;rw[Bf];generalize g:(⟨0,[],0,0,0,(⟨0,0,⟨#[]⟩⟩:B5)⟩:B6)=z
 change ∃b,(if VS x z=true then some false else _)=some b
 by_cases h:VS x z=true
 ·rw[A2 h];simp_all
 rw[A1 h]
 have a:x.dD.length=0:=by
  subst g
  simp only[VS,W9,R8,B4,Ay]at h
  simp_all
 have:x.dD=[]:=List.length_eq_zero_iff.1 a;refine⟨true,?_⟩;rw[show M+1=(M+1-1)+1 by omega];simp only[loopN,this,E4,B4];rfl
def Jj (u:Bool)(n m:Int):Bool:=u&&(decide (n<0)||decide (m<n))
def AE (u:Bool)(n:Int):Bool:=u||decide (n=0)
def OV (N:Nat)(u:Bool)(n m:Int):Cv N u n m=some (!Jj u n m):=by
 unfold Cv;simp only[W9,O5,X5,U2,Dp,Jj];cases u
 ·rfl
 by_cases O:n<0<;>by_cases Z:m<n<;>simp[O,Z]<;>omega
def AH2 (N:Nat)(u:Bool)(n:Int):Z8 N u n=some (AE u n):=rfl
def Bw3 (N:Nat)(u:Bool)(n m:Int):Er N u n m=some (Jj u n m):=rfl
noncomputable def Qq (s:U0)(x:A0)(sz:Bool):Int:=
 if Jj s.dG x.Typ 15=true then 2
 else if Jj s.dG x.Var 15=true then 2
 else if Jj s.scope x.dI 63=true then 2
 else if Jj s.span x.Span 1099511627776=true then 2
 else if s.cond=true/\X6 x.dF≠0 then X6 x.dF
 else if(s.cond||sz)=true/\AE s.dG x.Typ=true/\AE s.dG x.Var=true/\AE s.scope x.dI=true/\AE s.span x.Span=true then 0 else 3
structure RY (N:Nat) (x:A0) (s:U0) (ng:Bool):Prop where
 tab:C7 O4 x.Op=some s
 var:Dr N x=some s.dG
 neg:Es N x=some ng
 tim:CO N x=some s.span
 con:Gp N x=some s.cond
 sco:s.scope=(ng||s.span)
 ari:Lp N x=some (decide (s.dK<=x.dD.length/\(x.dD.length:Int)<=s.most))
def Bv7 (n k:Int):decide (n=k)=(decide (k<=n)&&decide (n<=k)):=by
 rw[<-Bool.decide_and]
 grind
def Vb (N:Nat) (x:A0) (L:0<=x.Op) (O:x.Op<=10) (hl:x.dD.length<=64):∃s ng,RY N x s ng:=by
 obtain⟨a,args,b,var,scope,span,c⟩:=x
 simp only at L O hl
 have h:a=0\/a=1\/a=2\/a=3\/a=4\/a=5\/a=6\/a=7\/a=8\/a=9\/a=10:=za2
 rcases h with h|h|h|h|h|h|h|h|h|h|h
 all_goals
  subst h;refine⟨_,_,rfl,rfl,rfl,rfl,rfl,rfl,?_⟩;unfold Lp;simp only[F5,U2,B4];simp
  try first|omega|exact Bv7 _ _
def BA7 {x:A0}(L:0<=x.Op)(O:x.Op<=10):¬(Ar.or (cmp .lss x.Op 0) (cmp .geq x.Op 11)=true):=by
 simp only[W9,E4,U2,BE,H5];omega
def Bu0 {x:A0}(L:0<=x.Op)(O:x.Op<=10):¬(Ar.or (cmp .lss x.Op 0) (cmp .gtr x.Op 10)=true):=by
 simp only[W9,E4,EK,BE,H5];omega
def Bq4 {x:A0}(h:¬(0<=x.Op/\x.Op<=10)):Ar.or (cmp .lss x.Op 0) (cmp .geq x.Op 11)=true/\Ar.or (cmp .lss x.Op 0) (cmp .gtr x.Op 10)=true:=by
 simp only[W9,E4,U2,EK,BE,H5];omega
def AP1 {N:Nat} (hN:Bgn N) {x:A0} (A:x.dF.bulk<=16777216) (L:0<=x.Op) (O:x.Op<=10) {s:U0} {b:Bool} (C:RY N x s b) {sz:Bool}
 (a:Bf N N x.dF (⟨0,[],0,0,0,(⟨0,0,⟨#[]⟩⟩:B5)⟩:B6)=some sz):
 Ck N x=some (if s.dK<=x.dD.length/\(x.dD.length:Int)<=s.most then Qq s x sz else 15):=by
 unfold Ck;rw[A1 (BA7 L O),C.tab];simp only[A4]
 by_cases T:s.dK<=x.dD.length/\(x.dD.length:Int)<=s.most
 ·rw [A2 T,A1 (by simp only[W9,E4,EK,B4,BE,H5];omega)];rw[OV,OV,OV,OV,Yn hN A,Xy,a];simp only[AH2,A4];unfold Qq;generalize Jj s.dG x.Typ 15=b1;generalize Jj s.dG x.Var 15=b2;generalize Jj s.scope x.dI 63=b3;generalize Jj s.span x.Span 1099511627776=b4;generalize AE s.dG x.Typ=c1;generalize AE s.dG x.Var=c2;generalize AE s.scope x.dI=c3;generalize AE s.span x.Span=c4;generalize X6 x.dF=ec
  cases b1 with
  |true=>rfl
  | false =>
   cases b2 with
   |true=>rfl
   | false =>
    cases b3 with
    |true=>rfl
    | false=>
     cases b4 with
     |true=>rfl
     | false=>
      cases s.cond with
      | false=>
       cases sz with
       |false=>rfl
       | true=>
        cases c1 with
        |false=>rfl
        | true=>
         cases c2 with
         |false=>rfl
         | true=>
          cases c3 with
          |false=>rfl
          |true=>
           cases c4<;>rfl
      | true=>
       by_cases Y:ec=0
       ·subst Y
        cases c1 with
        |false=>cases sz<;>rfl
        | true=>
         cases c2 with
         |false=>cases sz<;>rfl
         | true=>
          cases c3 with
          |false=>cases sz<;>rfl
          |true=>
           cases c4<;>cases sz<;>rfl
       simp[X5,O9 Y,Y]
 rw[A1 T,A2 (by simp only[W9,E4,EK,B4,BE,H5];omega)]
def VO (u:Bool)(n:Int):an (nt u) (cmp .neq n 0)= !AE u n:=by
 simp only[O5,X5,R8,AE,Bool.not_or]
def AD2 (u w:Bool)(t v a:Int):Ar.or (an (nt u) (Ar.or (cmp .neq t 0) (cmp .neq v 0))) (an (nt w) (cmp .neq a 0))=((!AE u t|| !AE u v)|| !AE w a):=by
 rw[VO];simp only[W9,O5,X5,R8,AE];cases u<;>simp
def MV {N:Nat} (hN:Bgn N) {x:A0} (A:x.dF.bulk<=16777216) (L:0<=x.Op) (O:x.Op<=10) {s:U0} {b:Bool} (C:RY N x s b) {sz:Bool}
 (g:Bf N N x.dF (⟨0,[],0,0,0,(⟨0,0,⟨#[]⟩⟩:B5)⟩:B6)=some sz):
 Df N x=some (if s.dK<=x.dD.length/\(x.dD.length:Int)<=s.most then Qq s x sz else 15):=by
 unfold Df;rw[A1 (Bu0 L O),C.ari,C.var,C.neg,C.tim,C.con,Aw9 hN A,g];simp only[A4]
 by_cases T:s.dK<=x.dD.length/\(x.dD.length:Int)<=s.most
 ·rw [A2 T,A1 (by simp[X5,T])];have a:=C.sco;simp only[Bw3,A4];cases b
  ·rw [A1 za4]
   simp only[GR]at a
   rw[AD2,VO];unfold Qq;rw[a];generalize Jj s.dG x.Typ 15=b1;generalize Jj s.dG x.Var 15=b2;generalize Jj s.span x.dI 63=b3;generalize Jj s.span x.Span 1099511627776=b4;generalize AE s.dG x.Typ=c1;generalize AE s.dG x.Var=c2;generalize AE s.span x.dI=c3;generalize AE s.span x.Span=c4;generalize X6 x.dF=ec
   cases b1 with
   |true=>rfl
   | false=>
    cases b2 with
    |true=>rfl
    | false=>
     cases b3 with
     |true=>rfl
     | false=>
      cases b4 with
      |true=>rfl
      | false=>
       cases s.cond with
       |false=>cases sz<;>cases c1<;>cases c2<;>cases c3<;>cases c4<;>rfl
       |true=>
        by_cases Y:ec=0
        ·subst Y;cases sz<;>cases c1<;>cases c2<;>cases c3<;>cases c4<;>rfl
        simp[O9 Y,Y]
  rw[A2 rfl]
  simp only[Bool.true_or]at a
  rw[AD2,VO];unfold Qq;rw[a];generalize Jj s.dG x.Typ 15=b1;generalize Jj s.dG x.Var 15=b2;generalize Jj true x.dI 63=b3;generalize Jj s.span x.Span 1099511627776=b4;generalize AE s.dG x.Typ=c1;generalize AE s.dG x.Var=c2;generalize AE true x.dI=c3;generalize AE s.span x.Span=c4;generalize X6 x.dF=ec
  cases b1 with
  |true=>rfl
  | false=>
   cases b2 with
   |true=>rfl
   | false=>
    cases b3 with
    |true=>rfl
    | false=>
     cases b4 with
     |true=>rfl
     | false=>
      cases s.cond with
      |false=>cases sz<;>cases c1<;>cases c2<;>cases c3<;>cases c4<;>rfl
      |true=>
       by_cases Y:ec=0
       ·subst Y;cases sz<;>cases c1<;>cases c2<;>cases c3<;>cases c4<;>rfl
       simp[O9 Y,Y]
 rw[A1 T,A2 (by simp only[X5,Fb T];rfl)]
end Go.Ab
open Go.Ab.Ar (an ar cmp nt)
namespace Go.Ab
mutual
def LE:∀(x y:A0),y∈x.pre->y.bulk<=x.bulk/\y.pre.length<=x.pre.length
 |⟨b,args,a,var,scope,span,c⟩,y,h=>by
  rw[A0.pre]at h
  rcases List.mem_cons.1 h with rfl|h
  ·omega
  have:=VC args y h
  grind[A0.bulk,A0.pre]
def VC:∀(l:Up A0) (y:A0),y∈A0.pres l->y.bulk<=A0.bulks l/\y.pre.length<=(A0.pres l).length
 |[],y,h=>by grind[A0.pres]
 | a::l,y,h=>by
  rw[A0.pres]at h
  rcases List.mem_append.1 h with h|h
  ·have:=LE a y h
   grind[A0.bulks,A0.pres]
  have:=VC l y h
  grind[A0.bulks,A0.pres]
end
def SR:∀l:Up A0,l.length<=(A0.pres l).length
 |[]=>B1 _
 |a::l=>by
  have:=SR l;simp only[A0.pres,A0.pre_eq a,K8,N3];omega
def X7 (x:A0):x.dD.length<x.pre.length:=by
 rw[A0.pre_eq];have:=SR x.dD;grind
noncomputable def Iw (N:Nat)(y:A0):Int:=(Df N y).getD 0
def JO {N:Nat} (hN:Bgn N) {y:A0} (A:y.bulk<=16777216) (hl:y.dD.length<=64):Ck N y=some (Iw N y)/\Df N y=some (Iw N y):=by
 have X:y.dF.bulk<=16777216:=by have:=A0.bulk_eq y;omega
 have key:∃r,Ck N y=some r/\Df N y=some r:=by
  by_cases h:0<=y.Op/\y.Op<=10
  ·obtain⟨s,b,C⟩:=Vb N y h.1 h.2 hl;obtain⟨sz,a⟩:=Xx hN y.dF;exact⟨_,AP1 hN X h.1 h.2 C a,MV hN X h.1 h.2 C a⟩
  obtain⟨O,Z⟩:=Bq4 h
  simp_all[Ck,Df]
 grind[Iw]
noncomputable def Bk (N:Nat)(x:A0):Int:=if 64<x.pre.length then 5 else if 12<x.dep then 12 else CC (Iw N) x.pre
def Oq {N:Nat}(hN:Bgn N){x:A0}(A:x.bulk<=16777216):Bg N x=some x.pre:=by
 unfold Bg DZ;rw[Bf3 hN N x za2 A];simp[L5]
def Bg9 {N:Nat}(hN:Bgn N){x:A0}(A:x.bulk<=16777216):EB N x=some (Bk N x):=by
 unfold EB Bk;rw[Bg2 hN N x za2 A];simp only[A4]
 by_cases O:64<x.pre.length
 ·rw[A2 O,A2 (Bn za2)]
 rw[A1 O,A1 (T9 za2)]
 by_cases Z:12<x.dep
 ·rw[A2 Z,A2 (Bn za2)]
 rw[A1 Z,A1 (T9 za2),Oq hN A];simp only[A4];rw[XD (f:=Iw N) λy m=>(JO hN (by have:=LE x y m;omega) (by have:=LE x y m;have:=X7 y;omega)).1]
 grind
def AU5 {N:Nat} (hN:Bgn N) {x:A0} (A:x.bulk<=16777216):Gq N x=some (Bk N x):=by
 unfold Gq Bk;obtain⟨r,L,b,g,c3⟩:=Ab6 hN 64 N x za2 A;rw[L];simp only[A4]
 by_cases O:64<x.pre.length
 ·rw[A2 O,A2 (Bn za2)]
 rw[A1 O,A1 (T9 za2),Al6 hN N x za2 A];simp only[A4]
 by_cases Z:12<x.dep
 ·rw[A2 Z,A2 (Bn za2)]
 rw[A1 Z,A1 (T9 za2),Vw hN N x za2 A];simp only[A4];rw[O1 x.pre za2 (mk:=λ(_:Unit) i=>i) (body:=Dl (Df N)) (fin:=λ_=>.inl ()) (s:=()) za2 ?_ ?_]
 ·rw[Cj (f:=Iw N) λy m=>(JO hN (by have:=LE x y m;omega) (by have:=LE x y m;have:=X7 y;omega)).2]
  grind
 ·intro s i a T U;have e:ar .add .i64 (i:Int) 1=i+1:=D4 za2 za2;simp only[E4,B4,U,I9,D8,E8,T,A4,e,Dl,R8]
  grind
 intro s;simp[E4,B4]
def Good (N:Nat)(x:A0):Prop:=∀y∈x.pre,Iw N y=0
def Qg {a y:A0} (m:y∈a.pre):∀l:Up A0,a∈l->y∈A0.pres l
 |[],h=>by simp at h
 |b::l,h=>by
  rcases List.mem_cons.1 h with rfl|h
  ·simp_all[A0.pres]
  simp[A0.pres,Qg m l h]
def Good.arg {N:Nat}{x a:A0}(h:Good N x)(T:a∈x.dD):Good N a:=λy m=>h y (by
 rw[A0.pre_eq];exact Gw _ (Qg m _ T))
def H9 {x a:A0}(T:a∈x.dD):a.pre.length<x.pre.length:=by
 have:=(VC x.dD a (Qg (by rw[A0.pre_eq];simp) _ T)).2;rw[A0.pre_eq x];grind
def Bd2 {N:Nat} (hN:Bgn N) {y:A0} (A:y.bulk<=16777216) (hl:y.dD.length<=64) (h:Iw N y=0) (z:y.Op=1\/y.Op=7\/y.Op=8\/y.Op=9\/y.Op=10):∃a r,y.dD=a::r:=by
 have X:y.dF.bulk<=16777216:=by have:=A0.bulk_eq y;omega
 obtain⟨s,g,C⟩:=Vb N y za2 za2 hl;obtain⟨sz,b⟩:=Xx hN y.dF;have O:=MV hN X za2 za2 C b
 rw[(JO hN A hl).2,h]at O
 have Z:s.dK<=y.dD.length:=by
  have O:=DL O;omega
 have J:1<=s.dK:=by
  have j:=C.tab
  rcases z with h|h|h|h|h<;>rw[h]at j<;>cases j<;>decide
 match Y:y.dD,Z with
 |[],Z=>grind
 |a::r,_=>simp_all
def S2 {a b:Int}(h:a=b):cmp .eql a b=true:=by rw[F5];simp_all
def Py {a b:Int}(h:¬a=b):cmp .eql a b=false:=by rw[F5];simp_all
def few8 {N:Nat}(hN:Bgn N){x:B6}(A:x.bulk<=16777216):∃b,JM N x=some b:=by
 unfold JM;obtain⟨r,L,_⟩:=Am2 hN 200 N x za2 A;rw[L];simp only[A4]
 split
 ·rw[Wj hN N x za2 A];simp_all
 simp_all
def On {α:Type} {F:α->OS Bool}:∀(l:Up α),(∀a∈l,∃b,F a=some b)->∃o,M8 (λ(_:Unit) a=>(F a).bind λr=>if nt r=true then some (Sum.inr (Sum.inr (α:=Unit) ()))else some (.inl ())) l ()=some o
 |[],_=>⟨_,rfl⟩
 |a::l,h=>by
  obtain⟨b,A⟩:=h a za4;unfold M8;rw[A]
  cases b with
  |false=>exact⟨_,rfl⟩
  |true=>exact On l λa T=>h a (by simp[T])
def few9 {N:Nat} (hN:Bgn N) {x:A0} (A:x.bulk<=16777216):∃b,OZ N x=some b:=by
 unfold OZ;obtain⟨r,L,_⟩:=Ab6 hN 150 N x za2 A;rw[L];simp only[A4]
 split
 ·simp_all
 rw[Al6 hN N x za2 A];simp only[A4]
 split
 ·simp_all
 rw[Vw hN N x za2 A];simp only[A4];have g:=Ib x;rw[O1 x.pre za2 (mk:=λ(_:Unit) i=>i) (body:=λ(_:Unit) a=>(JM N a.dF).bind λr=>if nt r=true then some (.inr (.inr ()))else some (.inl ())) (fin:=λ_=>.inl ()) (s:=()) za2 ?_ ?_]
 ·obtain⟨o,z⟩:=On (F:=λ(a:A0)=>JM N a.dF) x.pre λa T=>few8 hN (by have:=(LE x a T).1;have:=A0.bulk_eq a;omega);rw[z]
  cases o with
  |inl _=>simp_all
  |inr o=>cases o<;>exact⟨_,rfl⟩
 ·intro s i a T U;have e:ar .add .i64 (i:Int) 1=i+1:=D4 za2 za2;simp only[E4,B4,U,I9,D8,E8,T,A4,e]
  grind
 intro s;simp[E4,B4]
def Rq {S R:Type} {step:S->OS (S⊕R)} (I:Nat->S->Prop) (Q:R->Prop):∀(k i:Nat) (s:S) (N:Nat),k<N->I i s->
 (∀j s,i<=j->j<i+k->I j s->∃o,step s=some o/\(match o with| .inl g=>I (j+1) g| .inr r=>Q r))->
 (∀s,I (i+k) s->∃r,step s=some (.inr r)/\Q r)->∃r,loopN step N s=some r/\Q r
 |0,i,s,N,hN,L,_,Y=>by
  obtain⟨N,rfl⟩:∃M,N=M+1:=⟨N-1,za2⟩
  grind[loopN]
 | k+1,i,s,N,hN,L,C,Y=>by
  obtain⟨N,rfl⟩:∃M,N=M+1:=⟨N-1,za2⟩;obtain⟨o,O,Z⟩:=C i s (B1 _) za2 L
  cases o with
  |inl g=>
   obtain⟨r,J,x⟩:=Rq I Q k (i+1) g N za2 Z (λj s a b c=>C j s za2 za2 c) (λs h=>Y s (by rw[show i+(k+1)=i+1+k by omega];exact h))
   simp_all[loopN]
  |inr r=>simp_all[loopN]
def AY0 {S R:Type}{step:S->OS (S⊕R)}(a:Nat->S)(k:Nat)(r:R){N:Nat}(hN:k<N)(C:∀j,j<k->step (a j)=some (.inl (a (j+1))))(Y:step (a k)=some (.inr r)):loopN step N (a 0)=some r:=by
 obtain⟨b,O,Z⟩:=Rq (step:=step) (λi s=>s=a i) (λb=>b=r) k 0 (a 0) N hN rfl (λj s _ h Z=>za8) (λs h=>za8);rw[O,Z]
def XL {β S R:Type} {step:S->OS (Up β×(S⊕R))} (g:Nat->S) (f:Nat->Up β) (w:Up β) (r:R):∀(k i:Nat) {N:Nat},k<N->(∀j,i<=j->j<i+k->step (g j)=some (f j,.inl (g (j+1))))->step (g (i+k))=some (w,.inr r)->
 Ap step N (g i)=some ((List.range' i k).flatMap f++w,r)
 |0,i,N,hN,_,Y=>by
  obtain⟨N,rfl⟩:∃M,N=M+1:=⟨N-1,za2⟩
  simp_all[Ap]
 |k+1,i,N,hN,C,Y=>by
  obtain⟨N,rfl⟩:∃M,N=M+1:=⟨N-1,za2⟩;have:=XL g f w r k (i+1) (N:=N) za2 (λj a b=>C j za2 za2) (by rw[show i+1+k=i+(k+1) by omega];exact Y);simp only[Ap,C i (B1 _) za2,this,Fd,X9,D2]
def Kb {α β:Type} {R:Type} {step:Unit->α->OS (Up β×(Unit⊕R))} (f:α->Up β):∀{l:Up α},(∀x∈l,step () x=some (f x,.inl ()))->AS step l ()=some (l.flatMap f,.inl ())
 |[],_=>rfl
 |x::l,h=>by
  have:=Kb f (l:=l) λy m=>h y (by simp[m])
  simp_all[AS]
noncomputable instance :DecidableEq B6:=Classical.typeDecidableEq _
noncomputable instance :DecidableEq A0:=Classical.typeDecidableEq _
def AD6 {i:Nat}(h:i<1000000000000):ar .add .i64 (i:Int) 1=((i+1:Nat):Int):=by rw[D4 za2 za2];omega
def Bm4 {α:Type} [DecidableEq α] {N:Nat} (l m:Up α) (hl:l.length=m.length) (C:l.length<1000000000000) (f:α->α->OS Bool) (o:∀x∈l,∀y∈m,f x y=some (decide (x=y))) (hN:l.length<N):
 loopN (λ(i:Int)=>if cmp .lss i (Ar.len l)=true then(C7 l i).bind λx=>(C7 m i).bind λy=>(f x y).bind λr=>if nt r=true then some (Sum.inr (Sum.inr (α:=Unit) ()))else some (.inl (ar .add .i64 i 1))else some (.inr (.inl ()))) N 0=some (if l=m then .inl ()else .inr ()):=by
 obtain⟨r,O,Z⟩:=Rq (step:=λ(i:Int)=>if cmp .lss i (Ar.len l)=true then(C7 l i).bind λx=>(C7 m i).bind λy=>(f x y).bind λr=>if nt r=true then some (Sum.inr (Sum.inr (α:=Unit) ()))else some (.inl (ar .add .i64 i 1))else some (.inr (.inl ())))
  (λj s=>s=(j:Int)/\l.take j=m.take j) (λr=>r=if l=m then .inl ()else .inr ()) l.length 0 0 N hN ⟨rfl,za4⟩
  (λj s _ u ⟨e,b⟩=>by
   subst e
   simp only[K4]at u
   have a:j<m.length:=za2
   have w:l[j]? =some l[j]:=by simp[u]
   have e2:m[j]? =some m[j]:=by simp[a]
   simp only[E4,B4,show((j:Int)<(l.length:Int)) by omega,I9,D8,E8,w,e2,A4,o _ (F4 u) _ (F4 a)]
   by_cases h:l[j]=m[j]
   ·simp only[h,I9,X5,Co,L6,H7];refine⟨_,rfl,AD6 za2,?_⟩;rw[Ff,Ff,b,w,e2,h]
   simp only[h,KI,X5,DI,D8]
   grind)
  (λs ⟨e,b⟩=>by
   subst e
   simp only[K4]at b ⊢
   refine⟨.inl (),by simp[E4,B4],?_⟩
   rw[CY,hl,CY]at b
   rw[A2 b])
 rw[O,Z]
def Aj7 {a b:B6}:a=b<->(a.Op=b.Op/\a.Var=b.Var/\a.Field=b.Field/\a.Kind=b.Kind/\a.Value=b.Value)/\a.dD=b.dD:=by
 cases a;cases b;grind
def AN3 {a b:B5}:a=b<->a.Kind=b.Kind/\a.Num=b.Num/\a.Text=b.Text:=by cases a;cases b;simp
def XV (a b:B6):VS a b=true<->¬((a.Op=b.Op/\a.Var=b.Var/\a.Field=b.Field/\a.Kind=b.Kind/\a.Value=b.Value)/\a.dD.length=b.dD.length):=by
 simp only[VS,W9,O5,X5,R8,F5,Mi,B4,AN3,BE,Fh,IR,SY,IB,H5,Classical.not_and_iff_not_or_not]
 grind
def Bq0 {N:Nat} (hN:Bgn N):∀(n:Nat) (a b:B6),a.bulk<=n->a.bulk<=16777216->Bf N n a b=some (decide (a=b)):=by
 intro n
 induction n with
 |zero=>intro a b h;have:=Im a;omega
 | succ n ih=>
  intro a b M A;have hl:=Ki a;unfold Bf
  change (if VS a b=true then some false else _)=_
  by_cases h:VS a b=true
  ·rw[A2 h]
   rw[XV]at h
   rw[Fb]
   grind
  rw[A1 h]
  rw[XV,Classical.not_not]at h
  rw[Bm4 a.dD b.dD h.2 za2 _ (λx M y m=>ih x y (by have:=Ea M;omega) (by have:=Ea M;omega)) za2];simp only[A4]
  by_cases Y:a.dD=b.dD
  ·rw[A2 Y,N2 (Aj7.2 ⟨h.1,Y⟩)]
  rw[A1 Y,Fb λe=>Y (Aj7.1 e).2]
structure Arity (y:A0):Prop where
 op:0<=y.Op/\y.Op<=10
 ev:y.Op=0->y.dD=[]
 two:1<=y.Op->y.Op<=3->2<=y.dD.length
 one:4<=y.Op->y.Op≠8->∃a,y.dD=[a]
 more:y.Op=8->∃a b,y.dD=[a,b]
def AM5 {β S R:Type}{step:S->OS (Up β×(S⊕R))}(a:Nat->S)(f:Nat->Up β)(w:Up β)(r:R)(k:Nat){s0:S}{N:Nat}(L:s0=a 0)(hN:k<N)(C:∀j,j<k->step (a j)=some (f j,.inl (a (j+1))))(Y:step (a k)=some (w,.inr r)):
 Ap step N s0=some ((List.range k).flatMap f++w,r):=by
 rw[L,XL a f w r k 0 hN (λj _ h=>C j za2) (by rw[K4];exact Y),IN]
def Ai5 {S R:Type}{step:S->OS (S⊕R)}(a:Nat->S)(k:Nat)(r:R){s0:S}{N:Nat}(L:s0=a 0)(hN:k<N)(C:∀j,j<k->step (a j)=some (.inl (a (j+1))))(Y:step (a k)=some (.inr r)):loopN step N s0=some r:=by
 rw[L];exact AY0 a k r hN C Y
def zE:B6:=⟨0,[],0,0,0,⟨0,0,⟨#[]⟩⟩⟩
def nd (a:Int)(args:Up A0):A0:=⟨a,args,0,0,0,0,zE⟩
def wth {α:Type}[DecidableEq α](l:Up α)(x:α):Up α:=if x∈l then l else l++[x]
def dd {α:Type}[DecidableEq α](l:Up α):Up α:=l.foldl wth []
section
variable {α:Type}[DecidableEq α]
end
end Go.Ab
namespace Go.Ab
def Qo {α R:Type} (P:α->Bool) (r:R):∀l:Up α,M8 (λ(_:Unit) y=>if P y=true then some (Sum.inr r)else some (.inl ())) l ()=some (if l.any P=true then .inr r else .inl ())
 |[]=>rfl
 | y::l=>by
  unfold M8
  cases h:P y with
  |true=>simp[h]
  |false=>
   simp only[L6,H7,GO,h,GR];exact Qo P r l
def Good.sub {N:Nat}{x y:A0}(h:Good N x)(m:y∈x.pre):Iw N y=0:=h y m
def AR4 {N:Nat} (hN:Bgn N) {x:A0} (A:x.bulk<=16777216):Iu N x=some (if Bk N x≠0 then Bk N x else if x.pre.any (λy=>cmp .geq y.Op 8)=true then 1 else 0):=by
 unfold Iu;rw[Bg9 hN A];simp only[A4]
 by_cases h:Bk N x=0
 ·rw[A1 (K7 h),A1 za2,Oq hN A];simp only[A4];rw[Qo (λy:A0=>cmp .geq y.Op 8) (1:Int) x.pre]
  grind
 rw[A2 (O9 h),A2 h]
def OY {N:Nat} {x:A0} (a:Bk N x=0):x.pre.length<=64/\x.dep<=12/\Good N x:=by
 have b:x.pre.length<=64:=by
  grind[Bk]
 have hd:¬12<x.dep:=λh=>by rw[Bk,A1 za2,A2 h]at a;cases a
 rw[Bk,A1 za2,A1 hd]at a
 exact⟨b,za2,Eu.1 a⟩
def IZ (x:A0):x∈x.pre:=by rw[A0.pre_eq];simp
def Bn6 {α β:Type}{m:OS α}{F:α->OS β}{a:α}{r:OS β}(O:m=some a)(Z:F a=r):m.bind F=r:=by rw[O];exact Z
mutual
def Wy:∀x:B6,(∀y∈x.pre,y.Value.Text.size<=64)->x.bulk<=74*x.pre.length
 |⟨g,args,var,a,b,v⟩,h=>by
  have O:=TW args λy m=>h y (by rw[B6.pre];simp_all);have Z:v.Text.size<=64:=h ⟨g,args,var,a,b,v⟩ (by rw[B6.pre];simp_all)
  grind[B6.bulk,B6.pre]
def TW:∀l:Up B6,(∀y∈B6.pres l,y.Value.Text.size<=64)->B6.bulks l<=1+74*(B6.pres l).length
 |[],_=>by simp[B6.bulks]
 |a::l,h=>by
  have O:=Wy a λy m=>h y (by rw[B6.pres];simp_all);have Z:=TW l λy m=>h y (by rw[B6.pres];simp_all)
  grind[B6.bulks,B6.pres]
end
def Qj:(⟨#[]⟩:za0).size=0:=rfl
def Ao8 {v:B5}(h:Xk v=true):v.Text.size<=64:=by
 simp only[Xk,O5,F5,Mi,K0,H5]at h
 rw[h.2.2.1,Qj];omega
def Ab1 {v:B5} (h:T6 v=0):v.Text.size<=64:=by
 unfold T6 at h
 by_cases O:v.Kind=0\/v.Kind=1
 ·rw[A2 O]at h
  by_cases Z:v.Text≠⟨#[]⟩
  ·rw[A2 Z]at h;cases h
  have:v.Text=⟨#[]⟩:=Classical.not_not.1 Z;rw[this,Qj];omega
 omega
def ZC {x:B6} (h:EJ x=0):x.Value.Text.size<=64:=by
 unfold EJ at h
 by_cases L:x.Op<0\/12<x.Op
 ·rw[A2 L]at h;cases h
 rw[A1 L]at h
 by_cases O:(x.dD.length:Int)≠(if x.Op<5 then 0 else if x.Op=12 then 1 else 2)
 ·rw[A2 O]at h;cases h
 rw[A1 O]at h
 by_cases Z:Ag3 x=true
 ·rw[A2 Z]at h;cases h
 rw[A1 Z]at h
 by_cases J:VM x=true
 ·rw[A2 J]at h;cases h
 rw[A1 J]at h
 by_cases s:x.Op=4\/x.Op=0
 ·by_cases b:T6 x.Value=0
  ·exact Ab1 b
  omega
 rw[A1 (λe=>s e.1),A1 (λe=>s (.inl e.1))]at h
 by_cases a:Ru x=true
 ·rw[A2 a]at h;cases h
 have g:Xk x.Value=true:=by
  have r:¬x.Op=4:=λe=>s (.inl e);have k:¬x.Op=0:=λe=>s (.inr e)
  cases i:Xk x.Value with
  |true=>rfl
  |false=>
   refine absurd ?_ a;simp[Ru,W9,O5,X5,F5,r,k,i]
 exact Ao8 g
def Ud {c:B6}(h:X6 c=0):c.bulk<=4736:=by
 have a:¬64<c.pre.length:=λe=>by rw[X6,A2 e]at h;cases h
 have hd:¬12<c.dep:=λe=>by rw[X6,A1 a,A2 e]at h;cases h
 rw[X6,A1 a,A1 hd]at h
 have:=Wy c λy m=>ZC (Eu.1 h y m);omega
def Vx {N:Nat} (hN:Bgn N) {y:A0} (A:y.bulk<=16777216) (hl:y.dD.length<=64) (h:Iw N y=0):(0<=y.Op/\y.Op<=10)/\∃s g,RY N y s g/\y.dF.bulk<=4736:=by
 have X:y.dF.bulk<=16777216:=by have:=A0.bulk_eq y;omega
 have a:0<=y.Op/\y.Op<=10:=by
  by_cases z:0<=y.Op/\y.Op<=10
  ·exact z
  have O:=(JO hN A hl).1
  unfold Ck at O
  rw[A2 (Bq4 z).1,h]at O
  cases O
 obtain⟨s,g,C⟩:=Vb N y a.1 a.2 hl;have r:=Bq0 hN N y.dF (⟨0,[],0,0,0,(⟨0,0,⟨#[]⟩⟩:B5)⟩:B6) za2 X;have O:=MV hN X a.1 a.2 C r
 rw[(JO hN A hl).2,h]at O
 have O:=DL O;refine⟨a,s,g,C,?_⟩
 by_cases T:s.dK<=y.dD.length/\(y.dD.length:Int)<=s.most
 ·rw[A2 T]at O
  unfold Qq at O
  by_cases w:Jj s.dG y.Typ 15=true
  ·rw[A2 w]at O;cases O
  rw[A1 w]at O
  by_cases e2:Jj s.dG y.Var 15=true
  ·rw[A2 e2]at O;cases O
  rw[A1 e2]at O
  by_cases i:Jj s.scope y.dI 63=true
  ·rw[A2 i]at O;cases O
  rw[A1 i]at O
  by_cases e4:Jj s.span y.Span 1099511627776=true
  ·rw[A2 e4]at O;cases O
  rw[A1 e4]at O
  by_cases k:s.cond=true
  ·by_cases b:X6 y.dF=0
   ·exact Ud b
   grind
  rw[A1 (λe=>k e.1)]at O
  by_cases b:y.dF=(⟨0,[],0,0,0,(⟨0,0,⟨#[]⟩⟩:B5)⟩:B6)
  ·rw[b];simp only[B6.bulk,B6.bulks,Qj];omega
  grind
 omega
def cnt:Up (Bool×Bool×A0)->Int->Int->Bool
 |[],_,_=>true
 |y::l,v,s=>(if y.1=true then decide (y.2.2.Var=v)else true)&&(if y.2.1=true then decide (y.2.2.dI=s)else true)&&cnt l (if y.1=true then v+1 else v) (if y.2.1=true then s+1 else s)
noncomputable def Lj (y:A0):Bool:=match C7 O4 y.Op with|some s=>s.dG|none=>false
noncomputable def Ln (y:A0):Bool:=match C7 O4 y.Op with|some s=>s.scope|none=>false
noncomputable def Am6 (l:Up A0):Bool:=cnt (l.map λy=>(Lj y,Ln y,y)) 0 0
def Ay2 (N:Nat)(y:A0):Prop:=∃s a,RY N y s a
def VT {N:Nat}(hN:Bgn N){x:A0}(A:x.bulk<=16777216)(b:Bk N x=0):∀y∈x.pre,Ay2 N y:=λy m=>by
 obtain⟨g,hd,a⟩:=OY b;have O:=LE x y m;have Z:=X7 y;obtain⟨_,s,i,h,_⟩:=Vx hN za2 za2 (a y m)
 grind[Ay2]
def AT {a b:Int}(h:a<b):cmp .lss a b=true:=by rw[E4];simp_all
def Q6 {a b:Int}(h:¬a<b):¬(cmp .lss a b=true):=by rw[E4];grind
noncomputable def Wo (b:Bool×Int×Int)(h:A0):OS ((Bool×Int×Int)⊕Unit):=
 (C7 O4 h.Op).bind λg=>((if g.dG=true then some (an b.1 (cmp .eql h.Var b.2.2),ar .add .i64 b.2.2 1)else some (b.1,b.2.2)):OS (Bool×Int)).bind λa=>if g.scope=true then some (.inl (an a.1 (cmp .eql h.dI b.2.1),ar .add .i64 b.2.1 1,a.2))else some (.inl (a.1,b.2.1,a.2))
def Yi {N:Nat}:∀(l:Up A0),(∀y∈l,Ay2 N y)->∀(b:Bool) (v s:Int),0<=v->0<=s->v+l.length<=1000000->s+l.length<=1000000->
 ∃g a,M8 Wo l (b,s,v)=some (.inl (b&&cnt (l.map λy=>(Lj y,Ln y,y)) v s,a,g))
 |[],_,b,v,s,_,_,_,_=>⟨v,s,by simp[M8,cnt]⟩
 | y::l,h,b,v,s,q,C,c,V=>by
  simp only[N3]at c V
  obtain⟨x,u,ok⟩:=h y za4
  have et:Lj y=x.dG:=by unfold Lj;rw[ok.tab]
  have m:Ln y=x.scope:=by unfold Ln;rw[ok.tab]
  have ev:ar .add .i64 v 1=v+1:=D4 za2 za2;have K:ar .add .i64 s 1=s+1:=D4 za2 za2;have f:=λb g a O Z J o=>Yi l (λz p=>h z (by simp[p])) b g a O Z J o;simp only[D9,cnt,et,m]
  have step:∀b' k d,Wo (b,s,v) y=some (.inl (b',d,k))->M8 Wo (y::l) (b,s,v)=M8 Wo l (b',d,k):=λb' k d h=>by grind[M8]
  have r:∀b' k d,(some (.inl (b',d,k)):OS ((Bool×Int×Int)⊕Unit))=(((if x.dG=true then some (an b (cmp .eql y.Var v),ar .add .i64 v 1)else some (b,v)):OS (Bool×Int)).bind λi=>if x.scope=true then some (.inl (an i.1 (cmp .eql y.dI s),ar .add .i64 s 1,i.2))else some (.inl (i.1,s,i.2)))->M8 Wo (y::l) (b,s,v)=M8 Wo l (b',d,k):=λb' k d h=>step b' k d (by rw[h];unfold Wo;rw[ok.tab];rfl);cases j:x.dG<;>cases X:x.scope
  ·obtain⟨g,a,O⟩:=f b v s q C za2 za2
   simp_all
  ·obtain⟨g,a,O⟩:=f (b&&decide (y.dI=s)) v (s+1) q za2 za2 za2;exact⟨g,a,by rw[r (b&&decide (y.dI=s)) v (s+1) (by simp[j,X,K,F5,O5])];grind⟩
  ·obtain⟨g,a,O⟩:=f (b&&decide (y.Var=v)) (v+1) s za2 C za2 za2;exact⟨g,a,by rw[r (b&&decide (y.Var=v)) (v+1) s (by rw[j,X,ev,F5,O5];rfl)];grind⟩
  obtain⟨g,a,O⟩:=f (b&&decide (y.Var=v)&&decide (y.dI=s)) (v+1) (s+1) za2 za2 za2 za2;exact⟨g,a,by rw[r (b&&decide (y.Var=v)&&decide (y.dI=s)) (v+1) (s+1) (by rw[j,X,ev,K,F5,F5,O5];rfl)];grind⟩
def AK8 {N:Nat}(hN:Bgn N){x:A0}(A:x.bulk<=16777216)(a:Bk N x=0):∃v s,Iv N x=some (v,s,Am6 x.pre):=by
 obtain⟨g,hd,b⟩:=OY a;obtain⟨v,s,h⟩:=Yi (N:=N) x.pre (VT hN A a) true 0 0 za2 za2 za2 za2;unfold Iv;rw[Oq hN A];simp only[A4];refine⟨v,s,Bn6 h ?_⟩;simp[Am6]
noncomputable def RH (N:Nat)(x:A0):Int:=if Bk N x≠0 then Bk N x else if x.pre.any (λy=>cmp .geq y.Op 8)=true then 1 else if Am6 x.pre=true then 0 else 14
def Sp {N:Nat} (hN:Bgn N) {x:A0} (A:x.bulk<=16777216):Dg N x=some (RH N x):=by
 unfold Dg RH;rw[AR4 hN A];simp only[A4]
 by_cases h:Bk N x=0
 ·rw[A1 (show¬(Bk N x≠0) by omega),A1 (show¬(Bk N x≠0) by omega)]
  by_cases Z:x.pre.any (λy=>cmp .geq y.Op 8)=true
  ·rw[A2 Z,A2 Z,A2 (O9 za2)]
  rw[A1 Z,A1 Z,A1 (K7 rfl)];obtain⟨v,s,f⟩:=AK8 hN A h;rw[f];simp only[A4];cases Am6 x.pre<;>simp[X5]
 rw[A2 h,A2 (O9 h),A2 h]
def AK7 {N:Nat}(l:Up A0)(hl:l.length<N)(C:l.length<=1000000):JA N l=some (!(l.any λy=>cmp .geq y.Op 8)):=by
 unfold JA;rw[O1 l za2 (mk:=λ(_:Unit) i=>i) (body:=λ(_:Unit) a=>if cmp .geq a.Op 8=true then some (.inr (.inr ()))else some (.inl ())) (fin:=λ_=>.inl ()) (s:=()) za2 ?_ ?_]
 ·rw[Qo (λy:A0=>cmp .geq y.Op 8) (Sum.inr ():Unit⊕Unit) l];cases h:l.any λy=>cmp .geq y.Op 8<;>simp
 ·intro s i a T U;have e:ar .add .i64 (i:Int) 1=i+1:=D4 za2 za2;simp only[E4,B4,U,I9,D8,E8,T,A4,e];cases cmp .geq a.Op 8<;>rfl
 intro s;simp[E4,B4]
def AK5 {N:Nat} (hN:Bgn N) {x:A0} (A:x.bulk<=16777216):Lq N x=some (RH N x):=by
 unfold Lq RH;rw[AU5 hN A];simp only[A4]
 by_cases h:Bk N x=0
 ·rw [A1 (show¬(Bk N x≠0) by omega),A1 (K7 h),Vw hN N x za2 A];have ac:=Ib x;obtain⟨hp,hd,hg⟩:=OY h;simp only[A4];rw[AK7 x.pre za2 za2];simp only[A4]
  by_cases Z:x.pre.any (λy=>cmp .geq y.Op 8)=true
  ·rw[A2 Z,Z,A2 (show nt (!true)=true from rfl)]
  rw[A1 Z,A1 (by simp[X5,Z])];have hk:=VT hN A h
  obtain ⟨r,k1,k2⟩:=Rq (S:=Int×Int×Int) (R:=Unit⊕Unit) (step:=λ(a:Int×Int×Int)=>((if cmp .lss a.2.2 (Ar.len x.pre)=true then(C7 x.pre a.2.2).bind λx6=>(Dr N x6).bind λr7=>((if r7=true then(C7 x.pre a.2.2).bind λx9=>if cmp .neq x9.Var a.1=true then some (.inr ())else some (.inl (ar .add .i64 a.1 1))else some (.inl a.1)):OS (Int⊕Unit)).bind λs8=>match s8 with
          | .inl d=>(C7 x.pre a.2.2).bind λG=>(Es N G).bind λE=>if E=true then(C7 x.pre a.2.2).bind λI=>if cmp .neq I.dI a.2.1=true then some (.inr (.inr ()))else some (.inl (d,ar .add .i64 a.2.1 1,ar .add .i64 a.2.2 1))else(C7 x.pre a.2.2).bind λJ=>(CO N J).bind λF=>if F=true then(C7 x.pre a.2.2).bind λL=>if cmp .neq L.dI a.2.1=true then some (.inr (.inr ()))else some (.inl (d,ar .add .i64 a.2.1 1,ar .add .i64 a.2.2 1))else some (.inl (d,a.2.1,ar .add .i64 a.2.2 1))
          | .inr ad=>some (.inr (.inr ()))
   else some (.inr (.inl ())))
   :OS ((Int×Int×Int)⊕(Unit⊕Unit))))
   (λj s=>s.2.2=(j:Int)/\0<=s.1/\s.1<=j/\0<=s.2.1/\s.2.1<=j/\Am6 x.pre=cnt ((x.pre.drop j).map λy=>(Lj y,Ln y,y)) s.1 s.2.1)
   (λr=>r=if Am6 x.pre=true then .inl ()else .inr ()) x.pre.length 0 (0,0,0) N za2 ⟨rfl,za4,za4,za4,za4,rfl⟩
   (λj s _ u ⟨e,M,O,Q,T,X⟩=>by
    obtain⟨v,c,i⟩:=s
    simp only at e M O Q T X
    subst e
    simp only[K4]at u
    have w:C7 x.pre (j:Int)=some x.pre[j]:=by rw[E8,C8 u]
    obtain⟨k,D,ok⟩:=hk _ (F4 u)
    have et:Lj x.pre[j]=k.dG:=by unfold Lj;rw[ok.tab]
    have Y:Ln x.pre[j]=k.scope:=by unfold Ln;rw[ok.tab]
    have ev:ar .add .i64 v 1=v+1:=D4 za2 za2;have f:ar .add .i64 c 1=c+1:=D4 za2 za2;have U:ar .add .i64 (j:Int) 1=((j+1:Nat):Int):=AD6 za2
    rw[M4 u,D9,cnt]at X
    simp only[et,Y]at X
    have g:=ok.sco;rw[A2 (AT (by simp only[B4];omega))];simp only[w,A4,ok.var,ok.neg,ok.tim,ev,f,U]
    by_cases q:k.dG=true/\x.pre[j].Var≠v
    ·rw[A2 q.1,A2 (O9 q.2)]
     simp_all
    have z:((if k.dG=true then if cmp .neq x.pre[j].Var v=true then some (.inr ())else some (.inl (v+1))else some (.inl v)):OS (Int⊕Unit))=some (.inl (if k.dG=true then v+1 else v)):=by
     by_cases p:k.dG=true
     ·rw[A2 p,A2 p,A1 (K7 (Classical.not_not.1 λe=>q ⟨p,e⟩))]
     simp_all
    rw[z];simp only[A4]
    have m:(if k.dG=true then decide (x.pre[j].Var=v)else true)=true:=by
     simp_all
    rw[m,IA]at X
    have B:0<=(if k.dG=true then v+1 else v)/\(if k.dG=true then v+1 else v)<=((j+1:Nat):Int):=by split<;>omega
    generalize (if k.dG=true then v+1 else v)=v' at X B ⊢
    by_cases C:k.scope=true
    ·rw[A2 C,A2 C]at X
     by_cases K:x.pre[j].dI=c
     ·have aa:0<=c+1/\c+1<=((j+1:Nat):Int)/\Am6 x.pre=cnt ((x.pre.drop (j+1)).map λy=>(Lj y,Ln y,y)) v' (c+1):=by
       grind
      by_cases b:D=true
      ·rw[A2 b,A1 (K7 K)];simp_all
      have V:k.span=true:=by rw[C]at g;simp_all
      rw[A1 b,A2 V,A1 (K7 K)];simp_all
     have ab:Am6 x.pre=false:=by rw[X,Fb K,Bool.false_and]
     by_cases b:D=true
     ·rw[A2 b,A2 (O9 K)]
      simp_all
     have V:k.span=true:=by rw[C]at g;simp_all
     rw[A1 b,A2 V,A2 (O9 K)]
     simp_all
    rw[A1 C,A1 C,IA]at X
    have o:k.scope=false:=za7
    rw[o]at g
    have b:¬D=true:=λe=>by rw[e]at g;cases g
    have V:¬k.span=true:=λe=>by rw[e]at g;simp at g
    rw[A1 b,A1 V]
    grind)
   (λs ⟨e,_,_,_,_,X⟩=>by
    obtain⟨v,c,i⟩:=s
    simp only[K4]at e X
    subst e
    rw[List.drop_length]at X
    rw[A1 (Q6 (by simp only[B4];omega))];refine⟨_,rfl,?_⟩
    rw[X];rfl)
  grind
 rw[A2 h,A2 (O9 h)]
def Al2:∀{l:Up B6} {a:B6},a∈l->a.dep<=B6.deps l
 |b::l,a,h=>by
  simp only[B6.deps]
  rcases List.mem_cons.1 h with rfl|h
  ·omega
  exact P8 (Al2 h) (Nat.le_max_right _ _)
def XX:∀{l:Up B6} {a y:B6},a∈l->y∈a.pre->y∈B6.pres l
 |b::l,a,y,h,m=>by
  simp only[B6.pres,Cp]
  rcases List.mem_cons.1 h with rfl|h
  ·grind
  exact .inr (XX h m)
def Vn {α R:Type} {body:Unit->α->OS (Unit⊕R)} {p:α->Bool} {r:R}:∀{l:Up α},(∀x∈l,body () x=some (if p x=true then .inl ()else .inr r))->M8 body l ()=some (if l.all p=true then .inl ()else .inr r)
 |[],_=>rfl
 | x::l,h=>by
  unfold M8;rw[h x za4,Nx]
  by_cases M:p x=true
  ·rw[A2 M,M]
   dsimp only
   rw[Vn λy m=>h y (by simp[m])];rfl
  simp_all
def BC6 {x:B6} (h:EJ x=0):(x.Op=1\/x.Op=4->0<=x.Field/\x.Field<8)/\(1<=x.Op/\x.Op<=4->0<=x.Var/\x.Var<16):=by
 have J:Ag3 x=false:=by
  grind[EJ]
 unfold Ag3 at J
 simp only[W9,O5,E4,U2,Bool.or_eq_false_iff,SY,IR]at J
 grind[AR6,AR7]
end Go.Ab
namespace Go.Ab
noncomputable section
def FU:B5:=⟨0,0,⟨#[]⟩⟩
def Fi (k:Int)(v:B5):Int:=if T6 v≠0 then T6 v else if v.Kind=0\/(k≠1/\k≠2/\k≠3)then 0 else 9
def Yl (k:Int)(a b:B5):B5:=
 if k=1 then⟨0,ar .add .i64 a.Num b.Num,⟨#[]⟩⟩else if k=2 then⟨0,Ar.mn a.Num b.Num,⟨#[]⟩⟩else if k=3 then⟨0,Ar.mx a.Num b.Num,⟨#[]⟩⟩else if k=4 then a else if k=5 then b else FU
def Jr (k:Int)(v:B5):B5:=if k=0 then FU else v
def Kl (k:Int):Up B5->B5
 |[]=>FU
 |v::l=>l.foldl (λa b=>Yl k a (Jr k b)) (Jr k v)
def Bw7 (k:Int)(l:Up B5)(o:B5):B5×Int:=
 if k<0\/5<k then(FU,1)else if 4096<l.length then(FU,5)else if CC (Fi k) l≠0 then(FU,CC (Fi k) l)else if Fi k o≠0 then(FU,Fi k o)
 else if k=0 then(⟨0,l.length,⟨#[]⟩⟩,0)else if l=[]/\k≠1 then(o,0)else(Kl k l,0)
def UN (N:Nat)(k:Int)(v:B5):BQ N k v=some (decide (v.Kind=0\/(k≠1/\k≠2/\k≠3))):=by
 unfold BQ;simp only[W9,O5,F5,R8,E7]
 by_cases L:v.Kind=0<;>by_cases O:k=1<;>by_cases Z:k=2<;>by_cases J:k=3<;>simp[L,O,Z,J]
def Aa4 (N:Nat) (k:Int) (v:B5):AR N k v=some (Fi k v):=by
 unfold AR Fi;rw[QU,UN];simp only[A4]
 by_cases h:T6 v=0
 ·rw[A1 (K7 h),A1 (show¬T6 v≠0 by omega)]
  by_cases Z:v.Kind=0\/(k≠1/\k≠2/\k≠3)
  ·rw[A1 (by rw[X5,N2 Z];decide),A2 Z]
  rw[A2 (by rw[X5,Fb Z];rfl),A1 Z]
 rw[A2 (O9 h),A2 h]
def Aa3 {k:Int}{v:B5}(h:Fi k v=0):T6 v=0/\(v.Kind=0\/(k≠1/\k≠2/\k≠3)):=by
 grind[Fi]
def QV {v:B5}(h:T6 v=0)(a:v.Kind=0):v.Text=⟨#[]⟩/\ -1099511627776<=v.Num/\v.Num<=1099511627776:=by
 grind[T6]
def AB3 {n:Int}(L: -1099511627776<=n)(O:n<=1099511627776):T6 ⟨0,n,⟨#[]⟩⟩=0:=by
 simp_all[T6]
structure AG5 (k:Int) (n:Nat) (v:B5):Prop where
 c:k=0->v=FU
 s:k=1->v.Kind=0/\v.Text=⟨#[]⟩/\ -(1099511627776*(n:Int))<=v.Num/\v.Num<=1099511627776*(n:Int)
 m:k=2\/k=3->T6 v=0/\v.Kind=0
 f:k=4\/k=5->T6 v=0
def Ba0 {k:Int}{v:B5}(h:Fi k v=0):AG5 k 1 (Jr k v):=by
 obtain⟨O,Z⟩:=Aa3 h;unfold Jr
 by_cases a:k=0
 ·rw[A2 a];exact⟨λ_=>rfl,za2,za2,za2⟩
 rw[A1 a];refine⟨za2,λe=>?_,λe=>⟨O,za2⟩,λ_=>O⟩
 have b:v.Kind=0:=za2
 grind[T6]
def AN4 {k:Int} {n:Nat} {a v:B5} (T:AG5 k n a) (j:n<=4096) (h:Fi k v=0):AG5 k (n+1) (Yl k a (Jr k v)):=by
 obtain⟨O,Z⟩:=Aa3 h;unfold Yl
 by_cases i:k=1
 ·rw[A2 i]
  have g:v.Kind=0:=za2
  obtain⟨_,b,c⟩:=QV O g;obtain⟨_,_,d,e⟩:=T.s i;have w:Jr k v=v:=A1 za2;rw[w];have e2:ar .add .i64 a.Num v.Num=a.Num+v.Num:=D4 za2 za2;rw[e2];exact⟨za2,λ_=>⟨rfl,rfl,za7,za7⟩,za2,za2⟩
 rw[A1 i]
 by_cases r:k=2
 ·rw[A2 r]
  have g:v.Kind=0:=za2
  obtain⟨_,b,c⟩:=QV O g;obtain⟨d,e⟩:=T.m (.inl r);obtain⟨_,V,f⟩:=QV d e;have w:Jr k v=v:=A1 za2;rw[w];refine⟨za2,za2,λ_=>⟨?_,rfl⟩,za2⟩
  show T6 ⟨0,if v.Num<a.Num then v.Num else a.Num,⟨#[]⟩⟩=0
  split<;>exact AB3 za2 za2
 rw[A1 r]
 by_cases x:k=3
 ·rw[A2 x]
  have g:v.Kind=0:=za2
  obtain⟨_,b,c⟩:=QV O g;obtain⟨d,e⟩:=T.m (.inr x);obtain⟨_,V,f⟩:=QV d e;have w:Jr k v=v:=A1 za2;rw[w];refine⟨za2,za2,λ_=>⟨?_,rfl⟩,za2⟩
  show T6 ⟨0,if a.Num<v.Num then v.Num else a.Num,⟨#[]⟩⟩=0
  split<;>exact AB3 za2 za2
 rw[A1 x]
 by_cases y:k=4
 ·rw[A2 y];exact⟨za2,za2,za2,λ_=>T.f (.inl y)⟩
 rw[A1 y]
 by_cases K:k=5
 ·rw[A2 K];have w:Jr k v=v:=A1 za2;rw[w];exact⟨za2,za2,za2,λ_=>O⟩
 rw[A1 K];exact⟨λ_=>rfl,za2,za2,za2⟩
def Aw8 {N:Nat}{k:Int}(L:0<=k)(g:k<=5)(a b:B5):CW N k a b=some (Yl k a b):=by
 have h:k=0\/k=1\/k=2\/k=3\/k=4\/k=5:=za2
 rcases h with rfl|rfl|rfl|rfl|rfl|rfl<;>rfl
def AI5 (N:Nat)(k:Int)(v:B5):Dz N k v=some (Jr k v):=by
 unfold Dz Jr;rw[F5]
 grind[FU]
def HJ (k:Int)(l:Up B5):G5:=⟨k,l.length,Kl k l⟩
def VY (k:Int)(l:Up B5)(v:B5):Kl k (l++[v])=if l=[]then Jr k v else Yl k (Kl k l) (Jr k v):=by
 cases l with
 |nil=>rfl
 |cons a l=>simp[Kl]
def Bf8 {N:Nat} {k:Int} (L:0<=k) (b:k<=5) (l:Up B5) (hl:l.length<=4096) (v:B5):Ac N (HJ k l) v k=some (HJ k (l++[v])):=by
 unfold Ac;rw[AI5];simp only[A4];unfold FP;rw[F5,F5]
 have e:HJ k (l++[v])=⟨k,(l.length:Int)+1,if l=[]then Jr k v else Yl k (Kl k l) (Jr k v)⟩:=by
  unfold HJ;rw[VY];simp
 rw[e]
 cases l with
 |nil=>rfl
 | cons a l=>
  have X:¬(decide ((HJ k (a::l)).Count=0)=true):=by
   grind[HJ]
  rw[A1 X,A1 za4]
  show((CW N k (Kl k (a::l)) (Jr k v)).bind _).bind _=_
  rw[Aw8 L b];simp only[A4,HJ,reduceCtorEq,H7];rw[D4 za2 za2]
def Aj4 {k:Int}:∀(n:Nat) {l:Up B5},l.length=n->l≠[]->l.length<=4096->(∀v∈l,Fi k v=0)->AG5 k l.length (Kl k l):=by
 intro n
 induction n with
 |zero=>simp_all
 |succ n ih=>
  intro l L h b a
  rcases Gy l with rfl|⟨q,v,rfl⟩
  ·simp_all
  rw[Gx]at *
  rw[VY,K8];have R:=a v za4
  simp only[K8,N3,Ay]at b L
  by_cases h:q=[]
  ·subst h;rw[A2 rfl];exact Ba0 R
  rw[A1 h];exact AN4 (ih za2 h za2 λx M=>a x (by simp[M])) za2 R
def Ao0 {N:Nat} {k:Int} (L:0<=k) (p:k<=5) {l:Up B5} (hl:l.length<=4096) (q:∀v∈l,Fi k v=0):Ej N (HJ k l)=some 0:=by
 unfold Ej CG;simp only[A4]
 have w:¬(nt (an (cmp .geq (HJ k l).Kind 0) (cmp .leq (HJ k l).Kind 5))=true):=by
  show¬((!(decide (0<=k)&&decide (k<=5)))=true)
  simp;omega
 have e2:¬(Ar.or (cmp .lss (HJ k l).Count 0) (cmp .gtr (HJ k l).Count 4096)=true):=by
  show¬((decide ((l.length:Int)<0)||decide (4096<(l.length:Int)))=true)
  simp;omega
 rw[A1 w,A1 e2]
 by_cases V:l=[]\/k=0
 ·have x:Ar.or (cmp .eql (HJ k l).Count 0) (cmp .eql (HJ k l).Kind 0)=true:=by
   show(decide ((l.length:Int)=0)||decide (k=0))=true
   simp_all
  have e4:(HJ k l).Value=FU:=by
   by_cases r:l=[]
   ·subst r;rfl
   exact(Aj4 _ rfl r hl q).c (V.resolve_left r)
  rw[A2 x,e4];exact A1 (by simp[X5,O5,F5,Mi,FU])
 have r:l≠[]:=λh=>V (.inl h);have s:k≠0:=λh=>V (.inr h);have f:l.length≠0:=λh=>r (NY h)
 have x:¬(Ar.or (cmp .eql (HJ k l).Count 0) (cmp .eql (HJ k l).Kind 0)=true):=by
  show¬((decide ((l.length:Int)=0)||decide (k=0))=true)
  grind
 rw[A1 x];have g:=Aj4 _ rfl r hl q
 by_cases j:k=1
 ·rw[A2 (show cmp .eql (HJ k l).Kind 1=true from N2 j)];obtain⟨a,b,c,d⟩:=g.s j;have ev:(HJ k l).Value=Kl k l:=rfl;have m:(HJ k l).Count=(l.length:Int):=rfl;have em:ar .mul .i64 (l.length:Int) 1099511627776=(l.length:Int)*1099511627776:=Ee za2 za2
  have o:Ar.neg .i64 ((l.length:Int)*1099511627776)= - ((l.length:Int)*1099511627776):=by
   show IntKind.wrap .i64 (0-(l.length:Int)*1099511627776)=_
   rw[Ee za2 za2];omega
  rw[ev,m,em,o];rw[A1];simp only[X5,O5,F5,U2,Dp,Mi];rw[N2 a,N2 b,N2 (show -((l.length:Int)*1099511627776)<=(Kl k l).Num by omega),N2 (show(Kl k l).Num<=(l.length:Int)*1099511627776 by omega)]
  decide
 rw[A1 (show¬(cmp .eql (HJ k l).Kind 1=true)from(by show¬decide (k=1)=true;grind))]
 have K:T6 (Kl k l)=0:=by
  by_cases i:k=2\/k=3
  ·exact(g.m i).1
  exact g.f za2
 have y:(Kl k l).Kind=0\/(k≠1/\k≠2/\k≠3):=by
  by_cases i:k=2\/k=3
  ·exact .inl (g.m i).2
  omega
 show((CJ N (Kl k l)).bind _)=_
 rw[QU,K];simp only[A4];rw[A2 (show cmp .eql 0 0=true from rfl)]
 show((BQ N k (Kl k l)).bind _)=_
 rw[UN,N2 y];rfl
def Bw6 {N:Nat} (hN:Bgn N) (k:Int) {l:Up B5} (hl:l.length<1000000) (o:B5):HI N k l o=some (Bw7 k l o):=by
 unfold HI Bw7 CG;simp only[A4]
 by_cases L:k<0\/5<k
 ·rw[A2 (by show(!(decide (0<=k)&&decide (k<=5)))=true;simp;omega),A2 L];rfl
 rw[A1 (by show¬((!(decide (0<=k)&&decide (k<=5)))=true);simp;omega),A1 L]
 by_cases O:4096<l.length
 ·rw[A2 (Bn (by rw[B4];omega)),A2 O];rfl
 rw[A1 (T9 (by rw[B4];omega)),A1 O];rw[O1 l za2 (mk:=λ(_:Unit) i=>i) (body:=Dl λv=>AR N k v) (fin:=λ_=>.inl ()) (s:=()) za2 ?_ ?_]
 ·rw [Cj (f:=Fi k) λv _=>Aa4 N k v]
  by_cases Z:CC (Fi k) l=0
  ·rw [A2 Z,A1 (show¬CC (Fi k) l≠0 by omega)];have q:=Eu.1 Z;simp only[A4]
   have h:O6 N (⟨k,0,⟨0,0,⟨#[]⟩⟩⟩:G5) l (λx y=>Ac N x y k)=some (HJ k l):=by
    unfold O6;rw[O1 l za2 (mk:=λ(s:G5) i=>(i,s)) (body:=λs v=>(Ac N s v k).bind λr=>some (.inl r)) (fin:=λs=>s) (s:=⟨k,0,⟨0,0,⟨#[]⟩⟩⟩) za2 ?_ ?_]
    ·obtain⟨d,K,p,V,c⟩:=Ds (R:=G5) (step:=λs v=>(Ac N s v k).bind λr=>some (.inl r)) (λr s=>∃p,p++r=l/\s=HJ k p) (λv r s ⟨p,w,e2⟩=>by
      subst e2
      refine⟨_,by rw[Bf8 za2 za2 p (by have:=G2 List.length w;grind)];rfl,p++[v],za7,rfl⟩) (l:=l) (s:=⟨k,0,⟨0,0,⟨#[]⟩⟩⟩) ⟨[],rfl,rfl⟩
     simp_all
    ·intro s i a T U;have e:ar .add .i64 (i:Int) 1=i+1:=D4 za2 za2;simp only[E4,B4,U,I9,D8,E8,T,A4,e];cases Ac N s a k<;>rfl
    intro s;simp[E4,B4]
   rw[h];simp only[A4];unfold FQ;rw[Ao0 za2 za2 za2 q];simp only[A4];rw[A1 (show¬(cmp .neq 0 0=true) by decide)]
   show((AR N k o).bind _).bind _=_
   rw[Aa4];simp only[A4]
   by_cases J:Fi k o=0
   ·rw[A1 (K7 J),A1 (show¬Fi k o≠0 by omega)]
    by_cases b:k=0
    ·rw[A2 (show cmp .eql (HJ k l).Kind 0=true from N2 b),A2 b];rfl
    rw[A1 (show¬(cmp .eql (HJ k l).Kind 0=true)from(by show¬decide (k=0)=true;grind)),A1 b]
    by_cases g:l=[]/\k≠1
    ·rw[A2 (show an (cmp .eql (HJ k l).Count 0) (cmp .neq (HJ k l).Kind 1)=true by show(decide ((l.length:Int)=0)&& !decide (k=1))=true;simp_all),A2 g];rfl
    rw[A1 (show¬(an (cmp .eql (HJ k l).Count 0) (cmp .neq (HJ k l).Kind 1)=true) by show¬((decide ((l.length:Int)=0)&& !decide (k=1))=true);simpa using g),A1 g];rfl
   rw[A2 (O9 J),A2 J];rfl
  rw[A1 Z,A2 Z];rfl
 ·intro s i a T U;have e:ar .add .i64 (i:Int) 1=i+1:=D4 za2 za2;simp only[E4,B4,U,I9,D8,E8,T,A4,e,Dl,R8]
  grind
 intro s;simp[E4,B4]
def QA (a:JJ)(v:Int):Up A9:=if v<0\/(a.dL.length:Int)<=v then[]else a.dL.getD v.toNat []
def Ma (e:A9)(k:Int):B5×Int:=if(e.Values.length:Int)<=k then(FU,6)else(e.Values.getD k.toNat FU,0)
def Aq2 (a:Up A9)(x:B6):B5×Int:=
 if(a.all λe=>decide (x.Field<(e.Values.length:Int)))=true then Bw7 x.Kind (a.map λe=>e.Values.getD x.Field.toNat FU) x.Value else(FU,6)
def Zq (a:Up A9)(own:Int)(ev:A9)(v:Int):OS A9:=if v≠own then a.getLast? else some ev
def Bq2 (y:A9)(x:B6):B5×Int:=
 if x.Op=2 then(⟨0,y.Time,⟨#[]⟩⟩,0)else if(Ma y x.Field).2≠0 then(FU,(Ma y x.Field).2)else if T6 (Ma y x.Field).1≠0 then(FU,T6 (Ma y x.Field).1)else((Ma y x.Field).1,0)
def VK (a:JJ)(own:Int)(ev:A9)(x:B6):B5×Int:=
 if x.Op=0 then(x.Value,0)else if x.Op=3 then(⟨0,(QA a x.Var).length,⟨#[]⟩⟩,0)else if x.Op=4 then Aq2 (QA a x.Var) x
 else match Zq (QA a x.Var) own ev x.Var with|none=>(FU,10)|some y=>Bq2 y x
def Yp {x:B6}(M:EJ x=0):0<=x.Op/\x.Op<=12/\(x.dD.length:Int)=(if x.Op<5 then 0 else if x.Op=12 then 1 else 2):=by
 grind[EJ]
def Tx (e:JJ):Prop:=e.dL.length<1000000/\∀l∈e.dL,l.length<1000000
def AE4 {a:JJ}(h:Tx a)(v:Int):(QA a v).length<1000000:=by
 grind[QA,Tx]
def TK (N:Nat)(a:JJ)(own:Int)(ev:A9)(u:Unit)(v:Int):Z3 N ⟨a,own,ev,u⟩ v=some (QA a v):=by
 unfold Z3 QA
 by_cases h:v<0\/(a.dL.length:Int)<=v
 ·rw[A2 (by simp only[W9,E4,U2,B4];grind),A2 h]
 rw[A1 (by simp only[W9,E4,U2,B4];grind),A1 h]
 have U:v.toNat<a.dL.length:=za2
 have q:v=(v.toNat:Int):=za2
 rw[q,E8]
 grind
def Wb (N:Nat)(e:A9){k:Int}(a:0<=k):Fy N e k=some (Ma e k):=by
 unfold Fy Ma
 by_cases h:(e.Values.length:Int)<=k
 ·rw[A2 (by rw[U2,B4];simp_all),A2 h];rfl
 rw[A1 (by rw[U2,B4];grind),A1 h]
 have U:k.toNat<e.Values.length:=za2
 have q:k=(k.toNat:Int):=za2
 rw[q,E8]
 grind
def Vl {α β R:Type} {body:Up β->α->OS (Up β⊕R)} {p:α->Bool} {g:α->β} {r:R}:∀{l:Up α} {s:Up β},s.length+l.length<=1000000->(∀(s:Up β) x,x∈l->s.length<=1000000->body s x=some (if p x=true then .inl (s++[g x])else .inr r))->
 M8 body l s=some (if l.all p=true then .inl (s++l.map g)else .inr r)
 |[],s,_,_=>by simp[M8]
 |x::l,s,hl,h=>by
  simp only[M8,h s x za4 za2]
  by_cases a:p x=true
  ·simp only[a,D8];rw[Vl za7 λs y m=>h s y (by simp[m])];simp[a]
  simp[a]
def Av6 {N:Nat} (hN:Bgn N) {b:JJ} (Y:Tx b) (own:Int) (ev:A9) (u:Unit) {x:B6} (o:0<=x.Field):Bu N ⟨b,own,ev,u⟩ x=some (Aq2 (QA b x.Var) x):=by
 have hl:=AE4 Y x.Var;unfold Bu Aq2;rw[TK];simp only[A4]
 generalize QA b x.Var=rows at hl
 rw[O1 rows za2 (mk:=λ(s:List B5) i=>(s,i)) (body:=λs e=>(Fy N e x.Field).bind λr=>if cmp .neq r.2 0=true then some (.inr (.inr r.2))else(V7 s [r.1]).bind λl=>some (.inl l)) (fin:=λs=>.inl s) (s:=[]) za2 ?_ ?_]
 ·rw[Vl (p:=λe=>decide (x.Field<(e.Values.length:Int))) (g:=λe=>e.Values.getD x.Field.toNat FU) (r:=.inr 6) za6 (λs e _ C=>by
   rw[Wb N e o];unfold Ma
   by_cases h:(e.Values.length:Int)<=x.Field
   ·rw[A2 h,A1 za7];rfl
   rw[A1 h,A2 za7];simp only[A4]
   rw[A1 za5,AW za6];rfl)]
  by_cases h:(rows.all λe=>decide (x.Field<(e.Values.length:Int)))=true
  ·rw[A2 h,A2 h];simp only[A4,I1];rw[Bw6 hN _ za7];rfl
  rw[A1 h,A1 h];rfl
 ·intro s i a T U;have e:ar .add .i64 (i:Int) 1=i+1:=D4 za2 za2;simp only[E4,B4,U,I9,D8,E8,T,A4,e]
  grind
 intro s;simp[E4,B4]
def AO5 {N:Nat} (hN:Bgn N) {a:JJ} (Y:Tx a) (own:Int) (ev:A9) (u:Unit) {x:B6} (M:EJ x=0) (T:x.dD=[]):BT N ⟨a,own,ev,u⟩ x=some (VK a own ev x):=by
 have b:=BC6 M
 have V:0<=x.Op/\x.Op<5:=by
  have:=Yp M
  rw[T]at this
  grind
 have hl:=AE4 Y x.Var;unfold BT VK;rw[TK];simp only[A4]
 by_cases L:x.Op=0
 ·rw[A2 (by rw[F5];simp_all),A2 L]
 rw[A1 (by rw[F5];grind),A1 L]
 by_cases J:x.Op=3
 ·rw[A2 (by rw[F5];simp_all),A2 J];rfl
 rw[A1 (by rw[F5];grind),A1 J]
 by_cases s:x.Op=4
 ·rw[A2 (by rw[F5];simp_all),A2 s,Av6 hN Y own ev u (b.1 (.inr s)).1];rfl
 rw[A1 (by rw[F5];grind),A1 s]
 have key:((if cmp .neq x.Var own=true then if cmp .eql (Ar.len (QA a x.Var)) 0=true then some (.inr ())else(C7 (QA a x.Var) (ar .sub .i64 (Ar.len (QA a x.Var)) 1)).bind λd=>some (.inl d)else some (.inl ev)):OS (A9⊕Unit))=some (match Zq (QA a x.Var) own ev x.Var with|some y=>.inl y|none=>.inr ()):=by
  unfold Zq
  by_cases i:x.Var=own
  ·rw[A1 (K7 i),A1 za2]
  rw[A2 (O9 i),A2 i]
  generalize QA a x.Var=rows at hl
  rcases Gy rows with rfl|⟨q,y,rfl⟩
  ·rfl
  rw[Gx]at *
  have w:ar .sub .i64 (Ar.len (q++[y])) 1=(q.length:Int):=by
   have:ar .sub .i64 (Ar.len (q++[y])) 1=Ar.len (q++[y])-1:=Ee (by rw[B4];omega) (by rw[B4];omega);rw[this,B4];simp
  rw[A1 (by rw[F5,B4];simp;omega),w,E8];simp
 have g:=G2 (λo=>o.bind λc=>match c with
  | .inl K=>
   if cmp .eql x.Op 2=true then
    some ((⟨0,K.Time,⟨#[]⟩⟩:B5),(0:Int))
   else
    (Fy N K x.Field).bind λh=>
    ((
     if cmp .eql h.2 0=true then
      (CJ N h.1).bind λk=>
      some k
     else
      some h.2
    ):OS (Int)).bind λr=>
    if cmp .neq r 0=true then
     some ((⟨0,0,⟨#[]⟩⟩:B5),r)
    else
     some (h.1,0)
  | .inr f=>
   some ((⟨0,0,⟨#[]⟩⟩:B5),10)) key
 refine g.trans ?_
 cases m:Zq (QA a x.Var) own ev x.Var with
 |none=>rfl
 | some y=>
  simp only[A4];unfold Bq2
  by_cases Z:x.Op=2
  ·rw[A2 (by rw[F5];simp_all),A2 Z]
  rw[A1 (by rw[F5];grind),A1 Z]
  have O:x.Op=1:=za2
  rw[Wb N y (b.1 (.inl O)).1];simp only[A4]
  by_cases A:(Ma y x.Field).2=0
  ·rw[A2 (by rw[F5];simp_all),QU,A1 za2];simp only[A4]
   by_cases X:T6 (Ma y x.Field).1=0
   ·rw[A1 (K7 X),A1 za2]
   rw[A2 (O9 X),A2 X];rfl
  rw[A1 (by rw[F5];grind),A2 A];simp only[A4];rw[A2 (O9 A)];rfl
def Rz (b:Bool):B5:=if b=true then⟨1,1,⟨#[]⟩⟩else⟨1,0,⟨#[]⟩⟩
def Zr (a:Int)(b:Up Int)(k:Int):Bool:=
 if a=5\/a=6\/a=7\/a=8 then decide (k=0)else if a=10\/a=11\/a=12 then decide (k=1)else if a=9 then decide (k=b.getD 0 0)else true
def TB (b:Int)(a:Up Int):Int:=if a.all (Zr b a)=true then 0 else 9
instance (x y:B5):Decidable (x=y):=by
 obtain⟨a,b,c⟩:=x;obtain⟨d,e,f⟩:=y;exact decidable_of_iff (a=d/\b=e/\c=f) za4
def Ax8 (g:Int)(l:Up B5):B5:=
 let a:=l.getD 0 FU
 let b:=l.getD (l.length-1) FU
 if g=9 then Rz (decide (a=l.getD 1 FU))else if g=5 then⟨0,ar .add .i64 a.Num b.Num,⟨#[]⟩⟩else if g=6 then⟨0,ar .sub .i64 a.Num b.Num,⟨#[]⟩⟩
 else if g=7 then Rz (decide (a.Num<b.Num))else if g=8 then Rz (decide (a.Num<=b.Num))else if g=10 then Rz (decide (a.Num=1)&&decide (b.Num=1))else if g=11 then Rz (decide (a.Num=1)||decide (b.Num=1))else Rz (!decide (a.Num=1))
mutual
def Nj (R:B6->B5×Int):B6->B5×Int
 |⟨g,args,var,a,b,h⟩=>
  if args.length=0 then R ⟨g,args,var,a,b,h⟩else
  match Kr R args with
  | .inr f=>(FU,f)
  | .inl l=>if TB g (l.map (·.Kind))≠0 then(FU,TB g (l.map (·.Kind)))else(Ax8 g l,0)
def Kr (R:B6->B5×Int):Up B6->Up B5⊕Int
 |[]=>.inl []
 |a::r=>if(Nj R a).2≠0 then .inr (Nj R a).2 else match Kr R r with| .inr f=>.inr f| .inl l=>.inl ((Nj R a).1::l)
end
def Ba9 (R:B6->B5×Int)(x:B6):Nj R x=if x.dD.length=0 then R x else
 match Kr R x.dD with
 | .inr f=>(FU,f)
 | .inl l=>if TB x.Op (l.map (·.Kind))≠0 then(FU,TB x.Op (l.map (·.Kind)))else(Ax8 x.Op l,0):=by cases x;simp only[Nj]
def Wd {R:B6->B5×Int}:∀{l:Up B6} {r:Up B5},Kr R l= .inl r->r.length=l.length
 |[],r,h=>by simp_all[Kr]
 |a::l,r,h=>by
  simp only[Kr]at h
  split at h
  ·cases h
  cases b:Kr R l with
  |inr f=>rw[b]at h;cases h
  |inl q=>rw[b]at h;simp only[Sum.inl.injEq]at h;subst h;simp[Wd b]
def ZA (N:Nat)(b:Bool):Dv N b=some (Rz b):=by
 unfold Dv My Rz;cases b<;>rfl
def ZE {N:Nat} (hN:Bgn N) (b:Int) {a:Up Int} (hl:a.length<1000000):Gl N b a=some (TB b a):=by
 unfold Gl TB;rw[O1 a za2 (mk:=λ(_:Unit) i=>i) (body:=λ_ k=>some (if Zr b a k=true then .inl ()else .inr (.inr ()))) (fin:=λ_=>.inl ()) (s:=()) za2 ?_ ?_]
 ·rw[Vn (p:=Zr b a) (r:=.inr ()) λx _=>rfl]
  grind
 ·intro s i k g U;have e:ar .add .i64 (i:Int) 1=i+1:=D4 za2 za2
  have L:C7 a 0=some (a.getD 0 0):=by
   have:C7 a 0=a[0]? :=E8 (i:=0);rw[this,AD,C8 za2];rfl
  simp only[E4,B4,U,I9,D8,E8,g,A4,e,F5,L,X5];unfold Zr
  by_cases h:b=5
  ·grind
  grind
 intro s;simp[E4,B4]
def Tz {α:Type} {F:B6->OS (B5×Int)} {R:B6->B5×Int}:∀{l:Up B6} {s:Up B5×Up Int},s.2=s.1.map (·.Kind)->s.1.length+l.length<=1000000->(∀a∈l,F a=some (Nj R a))->
 M8 (λ(s:Up B5×Up Int) a=>(F a).bind λg=>if cmp .neq g.2 0=true then some (Sum.inr (Sum.inr (α:=α) g.2))else(V7 s.1 [g.1]).bind λx=>(V7 s.2 [g.1.Kind]).bind λi=>some (.inl (x,i))) l s=
  some (match Kr R l with| .inr f=>.inr (.inr f)| .inl q=>.inl (s.1++q,(s.1++q).map (·.Kind)))
 |[],s,h,_,_=>by obtain⟨a,b⟩:=s;dsimp only at h;subst h;simp[M8,Kr]
 | a::l,s,h,hl,k=>by
  obtain⟨I,d⟩:=s
  dsimp only at h;subst h
  simp only[N3]at hl
  simp only[M8,Kr,k a za4,A4,R8]
  by_cases r:(Nj R a).2=0
  ·simp only[r,I9,Co,L6,H7,ne_eq,IK];rw[AW za6,AW za6];simp only[A4];have ih:=Tz (α:=α) (F:=F) (R:=R) (l:=l) (s:=(I++[(Nj R a).1],I.map (·.Kind)++[(Nj R a).1.Kind])) za4 za6 λb A=>k b (by simp[A])
   simp only[R8]at ih
   rw[ih]
   grind
  simp[r]
def VV {l:Up B5}{i:Nat}(h:i<l.length):l[i]? =some (l.getD i FU):=by
 rw[AD,C8 h];rfl
def AO7 {N:Nat} (hN:Bgn N) {b:JJ} (Y:Tx b) (own:Int) (ev:A9) (u:Unit):∀(n:Nat) (x:B6),x.dep<=n->x.bulk<=16777216->(∀y∈x.pre,EJ y=0)->U9 N n ⟨b,own,ev,u⟩ x=some (Nj (VK b own ev) x):=by
 intro n
 induction n with
 |zero=>intro x h;rw[B6.dep_eq]at h;omega
 | succ n ih=>
  intro x hd A g;have M:=g x (by rw[B6.pre_eq];simp);have D:=B6.dep_eq x;unfold U9;rw[Ba9]
  by_cases L:x.dD.length=0
  ·rw[A2 (by rw[F5,B4];simp_all),A2 L,AO5 hN Y own ev u M (NY L)];rfl
  rw[A1 (by rw[F5,B4];simp_all),A1 L];obtain⟨G,I,B⟩:=Yp M
  have p:x.dD.length<=2:=by
   omega
  have z:5<=x.Op:=by
   omega
  have C:∀a∈x.dD,U9 N n ⟨b,own,ev,u⟩ a=some (Nj (VK b own ev) a):=λa T=>ih a (by have:=Al2 T;omega) (by have:=Ea T;omega) λy m=>g y (by rw[B6.pre_eq];exact Gw _ (XX T m));rw[O1 x.dD za2 (mk:=λ(s:List B5×List Int) i=>(s.1,s.2,i)) (body:=λ(s:List B5×List Int) a=>(U9 N n ⟨b,own,ev,u⟩ a).bind λr=>if cmp .neq r.2 0=true then some (.inr (.inr r.2))else(V7 s.1 [r.1]).bind λF=>(V7 s.2 [r.1.Kind]).bind λj=>some (.inl (F,j))) (fin:=λs=>.inl s) (s:=([],[])) za2 ?_ ?_]
  ·rw [Tz (R:=VK b own ev) rfl za6 C]
   cases Q:Kr (VK b own ev) x.dD with
   |inr f=>rfl
   | inl q=>
    simp only[A4,I1];have E:=Wd Q;rw[ZE hN _ za6];simp only[A4]
    by_cases d:TB x.Op (q.map (·.Kind))=0
    ·rw[A1 (K7 d),A1 (show¬TB x.Op (q.map (·.Kind))≠0 by omega)]
     have k:C7 q 0=some (q.getD 0 FU):=by
      have:C7 q 0=q[0]? :=E8 (i:=0);rw[this,VV za2]
     have V:C7 q (ar .sub .i64 (Ar.len q) 1)=some (q.getD (q.length-1) FU):=by
      have e:ar .sub .i64 (Ar.len q) 1=((q.length-1:Nat):Int):=by
       have:ar .sub .i64 (Ar.len q) 1=Ar.len q-1:=Ee (by rw[B4];omega) (by rw[B4];omega);rw[this,B4];omega
      rw[e,E8,VV za2]
     unfold Ax8
     by_cases o:x.Op=9
     ·rw[A2 (by rw[F5];simp_all)]
      have Z:x.dD.length=2:=by rw[A1 za2,A1 za2]at B;omega
      have K:C7 q 1=some (q.getD 1 FU):=by
       have:C7 q 1=q[1]? :=E8 (i:=1);rw[this,VV za2]
      rw[k,K];simp only[A4];rw[ZA];simp only[A4,o,D8,E7,GQ,P7]
      congr 1
      generalize q.getD 0 FU=v;generalize q.getD 1 FU=w;obtain⟨J,O,S⟩:=v;obtain⟨X,w2,w3⟩:=w;simp only[O5,F5,Mi,B5.mk.injEq,IB,Bool.decide_and]
     rw[A1 (by rw[F5];grind)];rw[k,V];simp only[A4,Bz,Hz,Hy,EI,EH,EG,EF,EE,ZA,F5,E4,Dp,O5,W9,R8,A1 o]
     have c:x.Op=5\/x.Op=6\/x.Op=7\/x.Op=8\/x.Op=10\/x.Op=11\/x.Op=12:=za2
     rcases c with h|h|h|h|h|h|h<;>simp[h]
    rw[A2 (O9 d),A2 d];rfl
  ·intro s i a T U;have e:ar .add .i64 (i:Int) 1=i+1:=D4 za2 za2;simp only[E4,B4,U,I9,D8,E8,T,A4,e]
   grind
  intro s;simp[E4,B4]
def Ak5 (a:JJ)(own:Int)(ev:A9)(x:B6):B5×Int:=if X6 x=0 then Nj (VK a own ev) x else(FU,X6 x)
def Xd {x:B6}(h:X6 x=0):∀y∈x.pre,EJ y=0:=by
 unfold X6 at h
 split at h
 ·omega
 split at h
 ·omega
 exact Eu.1 h
def Bm3 {N:Nat}(hN:Bgn N){a:JJ}(Y:Tx a)(own:Int)(ev:A9){x:B6}(A:x.bulk<=16777216):Mr N x a own ev=some (Ak5 a own ev x):=by
 unfold Mr Ak5;rw[Yn hN A];simp only[A4]
 by_cases h:X6 x=0
 ·rw[A1 (K7 h),A2 h];have hd:=Wl x;rw[AO7 hN Y own ev () N x za2 A (Xd h)];rfl
 rw[A2 (O9 h),A1 h];rfl
end
end Go.Ab
namespace Go.Ab
noncomputable section
open Classical
def Bs7 (x y:B5):an (cmp .eql x.Kind y.Kind) (an (cmp .eql x.Num y.Num) (an (Ar.scmp .eql x.Text y.Text) true))=decide (x=y):=by
 rw[Mi];simp only[O5,F5,IB];cases x;cases y
 simp_all
def Qd (a:JJ)(own:Int)(ev:A9)(x:B6):Bool:=decide ((Ak5 a own ev x).2=0)&&decide ((Ak5 a own ev x).1=⟨1,1,⟨#[]⟩⟩)
def QZ {N:Nat} (hN:Bgn N) {a:JJ} (Y:Tx a) (own:Int) (ev:A9) {x:B6} (A:x.bulk<=16777216):Fz N x a own ev=some (Qd a own ev x):=by
 unfold Fz Qd;rw[Bm3 hN Y own ev A];simp only[A4];rw[F5]
 by_cases h:(Ak5 a own ev x).2=0
 ·rw[A2 (N2 h),ZA];simp only[A4,N2 h,IA];rw[Bs7]
  grind[Rz]
 simp_all
end
end Go.Ab
namespace Go.Ab
noncomputable section
end
end Go.Ab
open Go.Ab.Ar (ar cmp nt)
namespace Go.Ab
open Classical
noncomputable section
abbrev BD:=A3
abbrev PR:=Jw
def pr (b:BD):PR:=⟨b.dJ,b.at_⟩
def QY (b:PR):BD:=⟨b.Var,b.At⟩
def Bi2 (b:PR):pr (QY b)=b:=rfl
def Az4 (b:BD):QY (pr b)=b:=rfl
abbrev Q7 (s:Up BD):Up PR:=s.map pr
def AQ (s:Up PR):Q7 (s.map QY)=s:=by rw[Q7,M3];exact(Y0 λx _=>Bi2 x).trans (Iz s)
def Bt7 {a b:BD}(h:pr a=pr b):a=b:=by have:=G2 QY h;simpa[Az4]using this
def Pc {a b:Up BD}(h:Q7 a=Q7 b):a=b:=(List.map_inj_right (λ_ _ h=>Bt7 h)).1 h
def mrg:Up PR->Up PR->Up PR
 |[],b=>b
 |x::a,[]=>x::a
 |x::a,y::b=>if x.At<y.At then x::mrg a (y::b)else y::mrg (x::a) b
 termination_by a b=>a.length+b.length
def ED (b:Up PR):mrg [] b=b:=by unfold mrg;rfl
def AN (a:Up PR):mrg a []=a:=by cases a<;>(unfold mrg;rfl)
def VA (x y:PR)(a b:Up PR):mrg (x::a) (y::b)=if x.At<y.At then x::mrg a (y::b)else y::mrg (x::a) b:=by rw[mrg]
def Ft:∀(n:Nat) (a b:Up PR),a.length+b.length<=n->(mrg a b).Perm (a++b)
 |_,[],b,_=>by rw[ED];grind
 |_,x::a,[],_=>by rw[AN];simp
 |0,x::a,y::b,h=>by simp at h
 |n+1,x::a,y::b,h=>by
  simp only[N3]at h
  rw[VA]
  split
  ·exact(Ft n a (y::b) za6).cons x
  exact((Ft n (x::a) b za6).cons y).trans (List.perm_middle.symm)
def N4 {a b:Up PR}{x:PR}:x∈mrg a b<->x∈a\/x∈b:=by rw[(Ft _ a b (B1 _)).mem_iff,Cp]
def ML (a b:Up PR):(mrg a b).length=a.length+b.length:=by rw[(Ft _ a b (B1 _)).length_eq,K8]
def WK (a:Up PR):Prop:=a.Pairwise λx y=>x.At<y.At
def S9 (a b:Up PR):Prop:=∀x∈a,∀y∈b,x.At≠y.At
def JD:∀(n:Nat) {a b:Up PR},a.length+b.length<=n->WK a->WK b->S9 a b->WK (mrg a b)
 |_,[],b,_,_,A,_=>by rw[ED];exact A
 |_,x::a,[],_,T,_,_=>by rw[AN];exact T
 |0,x::a,y::b,h,_,_,_=>by simp at h
 | n+1,x::a,y::b,h,T,A,hd=>by
  simp only[N3]at h
  unfold WK at T A
  rw[DU]at T A
  rw[VA];have r:=hd x za4 y za4
  split
  ·rename_i i;refine List.pairwise_cons.2 ⟨λz g=>?_,JD n za6 T.2 (List.pairwise_cons.2 A) λu k v q=>hd u (by simp[k]) v q⟩
   rcases N4.1 g with g|g
   ·grind
   grind
  rename_i i;refine List.pairwise_cons.2 ⟨λz g=>?_,JD n za6 (List.pairwise_cons.2 T) A.2 λu k v q=>hd u k v (by simp[q])⟩
  rcases N4.1 g with g|g
  ·grind
  simp_all
def VB:∀{a b:Up PR},(∀x∈a,∀y∈b,x.At<y.At)->mrg a b=a++b
 |[],b,_=>ED b
 |x::a,[],_=>by rw[AN,E5]
 |x::a,y::b,h=>by
  rw[VA,A2 (h x za4 y za4),VB λu g v q=>h u (by simp[g]) v q];rfl
def UL {α:Type}(x:α)(l:Up α):R6 (x::l) (some 1) none none=some l:=by
 unfold R6;rw[A2 za6];simp
def InS (n:Int)(s:Up PR):Prop:=∀x∈s,0<=x.At/\x.At<n
def CL {a b:Int}(L: -9223372036854775808<=a-b)(O:a-b<9223372036854775808):ar .sub .i64 a b=a-b:=Ee L O
def Uw {N:Nat} {a b:Up BD} {n:Int} (f:n<=1000000) (h:a.length<=1000000) (i:b.length<=1000000) (T:WK (Q7 a)) (A:WK (Q7 b)) (hd:S9 (Q7 a) (Q7 b)) (r:InS n (Q7 a)) (K:InS n (Q7 b)):
 ∃c,Z7 N a b=some c/\Q7 c=mrg (Q7 a) (Q7 b):=by
 refine⟨(mrg (Q7 a) (Q7 b)).map QY,?_,AQ _⟩;unfold Z7
 have O:ZW 0 (ar .add .i64 (Ar.len a) (Ar.len b)) (⟨0,0⟩:BD)=some []:=by
  rw[B4,B4,D4 za2 za2];unfold ZW;rw[A2 za2];rfl
 rw[O];simp only[A4];rw[AW za6];simp only[A4,I1];rw[AW za2];simp only[A4];have E:=JD _ (B1 _) T A hd;have g:∀x∈mrg (Q7 a) (Q7 b),0<=x.At/\x.At<n:=λx M=>(N4.1 M).elim (r x) (K x)
 have C:Ll (λV d=>Ia N V d) (a++b)=some ((mrg (Q7 a) (Q7 b)).map QY):=by
  refine UT ?_ (Bs.2 ⟨?_,?_⟩) za6
  ·have:=(Ft _ (Q7 a) (Q7 b) (B1 _)).map QY;refine this.trans (List.Perm.of_eq ?_);rw[<-P9,M3];exact(Y0 λx _=>Az4 x).trans (Iz _)
  ·intro x _
   show(match some (ar .sub .i64 x.at_ x.at_)with|some c=>decide (0<=c)|none=>false)=true
   rw[CL za2 za2];simp
  rw[O3];refine DT (λ{x y} M m k=>?_) E;have:=g x M;have:=g y m
  constructor
  ·show(match some (ar .sub .i64 x.At y.At)with|some c=>decide (c<0)|none=>false)=true
   rw[CL za2 za2];simp;omega
  show(match some (ar .sub .i64 y.At x.At)with|some c=>decide (0<=c)|none=>false)=true
  rw[CL za2 za2];simp;omega
 rw[C];rfl
def SE (s:Up PR)(i:Int):Bool:=s.any λx=>decide (x.At=i)
def Ai (a b:Up PR):Bool:=a.any λx=>SE b x.At
def Zs {s:Up PR}{i:Int}:SE s i=true<->∃x∈s,x.At=i:=by simp[SE]
def W0 {a b:Up PR}:Ai a b=false<->S9 a b:=by
 unfold Ai S9;rw[IH]
 constructor
 ·intro h x M y m e;exact h x M (Zs.2 ⟨y,m,e.symm⟩)
 intro h x M X;obtain⟨y,m,e⟩:=Zs.1 X
 grind
def T3 {α:Type}{l:Up α}{i:Int}(h:i<l.length):cmp .lss i (Ar.len l)=true:=AT h
def AO {α:Type}{l:Up α}:¬cmp .lss (l.length:Int) (Ar.len l)=true:=Q6 (Nw _)
def VH {α A B:Type} {N:Nat} {l:Up α} (hl:l.length<N) (hN:l.length<1000000000) {step:Int->OS (Int⊕(A⊕B))} (P:α->Bool) (u:A) (r:Int->B)
 (a:∀(i:Nat) x,l[i]? =some x->(i:Int)<l.length->step i=some (if P x=true then .inr (.inr (r i))else .inl ((i:Int)+1)))
 (g:step (l.length:Int)=some (.inr (.inl u))):∃i,loopN step N 0=some (if l.any P=true then .inr (r i)else .inl u)/\0<=i:=by
 have key:∀(k i n:Nat),i+k=l.length->k<n->∃j,loopN step n (i:Int)=some (if(l.drop i).any P=true then .inr (r j)else .inl u)/\0<=j:=by
  intro k
  induction k with
  |zero=>
   intro i n U K;obtain⟨n,rfl⟩:∃m,n=m+1:=⟨n-1,za2⟩;refine⟨0,?_,za2⟩;rw[BM za2,show(i:Int)=l.length by omega]
   grind[loopN]
  |succ k ih=>
   intro i n U K;obtain⟨n,rfl⟩:∃m,n=m+1:=⟨n-1,za2⟩
   have b:i<l.length:=za2
   obtain⟨j,h,y⟩:=ih (i+1) n za2 za2;rw[M4 b,GO];have C:=a i l[i] (by simp[b]) za2
   grind[loopN]
 obtain⟨j,h,y⟩:=key l.length 0 N za2 hl;exact⟨j,za7,y⟩
def Pq {α:Type}{N:Nat}{l:Up α}{step:Int->OS (Int⊕(Unit⊕Unit))}(P:α->Bool)(hl:l.length<N)(hN:l.length<1000000000)
 (a:∀(i:Nat) x,l[i]? =some x->(i:Int)<l.length->step i=some (if P x=true then .inr (.inr ())else .inl ((i:Int)+1)))
 (b:step (l.length:Int)=some (.inr (.inl ()))):loopN step N 0=some (if l.any P=true then .inr ()else .inl ()):=by
 obtain⟨_,h,_⟩:=VH hl hN P () (λ_=>()) a b;exact h
def XK {α S σ R:Type} {L:Up α} {N:Nat} {step:S->OS (S⊕R)} (mk:σ->Int->S) (g:σ->α->σ) (fin:σ->R) (Inv:Nat->σ->Prop) {s0:σ} (hN:L.length<N) (hl:L.length<1000000000) (b:Inv 0 s0)
 (C:∀s (i:Nat) x,L[i]? =some x->(i:Int)<L.length->x∈L->ar .add .i64 (i:Int) 1=i+1->Inv i s->step (mk s i)=some (.inl (mk (g s x) ((i:Int)+1)))/\Inv (i+1) (g s x)) (Y:∀s,step (mk s L.length)=some (.inr (fin s))):loopN step N (mk s0 0)=some (fin (L.foldl g s0))/\Inv L.length (L.foldl g s0):=by
 have key:∀(k i N:Nat) (s:σ),i+k=L.length->k<N->Inv i s->loopN step N (mk s (i:Int))=some (fin ((L.drop i).foldl g s))/\Inv L.length ((L.drop i).foldl g s):=by
  intro k
  induction k with
  |zero=>
   intro i N s U hN z;obtain⟨N,rfl⟩:∃m,N=m+1:=⟨N-1,za2⟩
   have e:i=L.length:=za2
   simp_all[loopN]
  |succ k ih=>
   intro i N s U hN z;obtain⟨N,rfl⟩:∃m,N=m+1:=⟨N-1,za2⟩
   have a:i<L.length:=za2
   obtain⟨O,Z⟩:=C s i L[i] (by simp[a]) za2 (F4 a) (D4 za2 za2) z;rw[M4 a]
   grind[loopN]
 grind
def RF {N:Nat} (hN:Bgn N) {s:Up BD} (hl:s.length<=1000000) {f:BD->OS Bool} {P:BD->Bool} (o:∀x∈s,f x=some (P x)):T4 N s f=some (s.any P):=by
 unfold T4 Cu
 obtain⟨j,h,u⟩:=VH (N:=N) (l:=s) za2 za2 (A:=Unit) (B:=Int) (step:=(λ(I:Int)=>
  (
   if cmp .lss I (Ar.len s)=true then
    (C7 s I).bind λb=>
    (f b).bind λa=>
    if a=true then
     some (.inr (.inr I))
    else
     some (.inl (ar .add .i64 I 1))
   else
    some (.inr (.inl ()))
   :OS ((Int)⊕(Unit⊕Int))))) P () (λi=>i) (λi x M U=>by
  have e:ar .add .i64 (i:Int) 1=i+1:=D4 za2 za2;simp only[E4,B4,U,I9,D8,E8,M,A4,e,o x (DO M)]
  split<;>rfl) (by simp[E4,B4])
 rw[h]
 by_cases T:s.any P=true
 ·rw[A2 T,T];simp only[A4,U2,N2 u]
 rw[A1 T];simp only[A4,U2]
 rw[BF]at T
 rw[T];rfl
def AA0 {N:Nat}(hN:Bgn N){s:Up BD}(hl:s.length<=1000000)(i:Int):CM N s i=some (SE (Q7 s) i):=by
 unfold CM;rw[RF hN hl (f:=λa=>Dm N a i) (P:=λx=>decide (x.at_=i)) λx _=>rfl];simp only[A4,SE,Q7,GN];rfl
def AH9 {N:Nat}(hN:Bgn N){a b:Up BD}(T:a.length<=1000000)(A:b.length<=1000000):Gn N a b=some (Ai (Q7 a) (Q7 b)):=by
 unfold Gn;rw[RF hN T (P:=λx=>SE (Q7 b) x.at_) λx _=>by unfold Ey;rw[AA0 hN A];rfl];simp only[A4,Ai,Q7,GN];rfl
def hdA (s:Up PR):Int:=match s with|[]=>0|x::_=>x.At
def V3 (s:Up PR):Int:=match s.getLast? with|none=>0|some x=>x.At
def Aj2 {α:Type} {l:Up α} (h:l≠[]) (hl:l.length<=1000000):C7 l (ar .sub .i64 (Ar.len l) 1)=l.getLast? :=by
 rcases Gy l with rfl|⟨q,y,rfl⟩
 ·simp_all
 rw[Gx]at *
 have w:ar .sub .i64 (Ar.len (q++[y])) 1=(q.length:Int):=by
  have:ar .sub .i64 (Ar.len (q++[y])) 1=Ar.len (q++[y])-1:=CL (by rw[B4];omega) (by rw[B4];omega);rw[this,B4];simp
 rw[w,E8];simp
def Pu {s:Up PR}(h:s≠[]):∃x,s.getLast? =some x/\x∈s/\V3 s=x.At:=by
 cases C:s.getLast? with
 |none=>simp_all
 |some x=>exact⟨x,rfl,List.mem_of_getLast? C,by simp[V3,C]⟩
def Ac9 {N:Nat}{s:Up BD}(h:s≠[])(hl:s.length<=1000000):Ah N s=some (V3 (Q7 s)):=by
 unfold Ah;rw[Aj2 h hl];unfold V3;rw[Q7,List.getLast?_map]
 cases C:s.getLast? with
 |none=>simp_all
 |some x=>rfl
def Rx {α:Type}(x:α)(l:Up α):C7 (x::l) 0=some x:=rfl
def Kw {s:Up PR}(T:WK s):∀x∈s,x.At<=V3 s:=by
 intro x M
 rcases Gy s with rfl|⟨q,y,rfl⟩
 ·cases M
 rw[Gx]at *
 have e:V3 (q++[y])=y.At:=by simp[V3]
 rw[e]
 unfold WK at T
 rw[Lb]at T
 rcases List.mem_append.1 M with h|h
 ·have:=T.2.2 x h y za4;omega
 simp_all
def AG0:∀{s:Up PR} {k:Int} {m:Nat},WK s->(∀x∈s,k<=x.At/\x.At<k+m)->s.length<=m
 |[],_,_,_,_=>Cd _
 |x::s,k,m,T,h=>by
  unfold WK at T
  rw[DU]at T
  have M:=h x za4;obtain⟨m,rfl⟩:∃q,m=q+1:=⟨m-1,za2⟩
  have:=AG0 (s:=s) (k:=x.At+1) (m:=m) T.2 λy a=>by have:=T.1 y a;have:=h y (by simp[a]);omega
  simp;omega
def WV (l:Up A9)(s:Up PR)(b v:Int):Up A9:=s.filterMap λx=>if x.At<b/\x.Var=v then l[x.At.toNat]? else none
def Xe (l:Up A9)(s:Up PR)(b:Int):JJ:=⟨(List.range 16).map λ(v:Nat)=>WV l s b (v:Int)⟩
def WfS (l:Up A9)(s:Up PR):Prop:=∀x∈s,(0<=x.Var/\x.Var<16)/\(0<=x.At/\x.At<l.length)
def WfS.ins {l:Up A9}{s:Up PR}(h:WfS l s):InS l.length s:=λx M=>(h x M).2
def Ae3 (l:Up A9)(s:Up PR)(b v:Int):(WV l s b v).length<=s.length:=List.length_filterMap_le ..
def Pz (l:Up A9){s:Up PR}(C:s.length<1000000)(b:Int):Tx (Xe l s b):=by
 constructor
 ·simp[Xe]
 intro r f
 simp only[Xe,DF]at f
 obtain⟨v,_,rfl⟩:=f;have:=Ae3 l s b v;omega
def XA (l:Up A9)(p:Up PR)(x:PR)(b v:Int):WV l (p++[x]) b v=WV l p b v++(if x.At<b/\x.Var=v then(l[x.At.toNat]?).toList else[]):=by
 unfold WV;rw[List.filterMap_append]
 grind
def Vm {α R:Type} (f:α->PR) (l:Up A9) (b:Int) {s:Up α} (C:s.length<=1000000) (B:WfS l (s.map f)):
 M8 (R:=R) (λg x=>if cmp .lss (f x).At b=true then(C7 g (f x).Var).bind λd=>(C7 l (f x).At).bind λk=>(V7 d [k]).bind λi=>(Ev g (f x).Var (λ_=>i)).bind λh=>some (.inl h)else some (.inl g)) s (List.replicate 16 [])=
  some (.inl ((List.range 16).map λ(v:Nat)=>WV l (s.map f) b (v:Int))):=by
 obtain⟨F,O,p,Z,J⟩:=Ds (R:=R) (step:=λg x=>if cmp .lss (f x).At b=true then(C7 g (f x).Var).bind λd=>(C7 l (f x).At).bind λk=>(V7 d [k]).bind λi=>(Ev g (f x).Var (λ_=>i)).bind λh=>some (.inl h)else some (.inl g))
  (λr g=>∃p,p++r=s/\g=(List.range 16).map λ(v:Nat)=>WV l (p.map f) b (v:Int)) (λx r g ⟨p,w,e2⟩=>by
   subst e2
   have M:x∈s:=by rw[<-w];simp
   obtain⟨⟨D,G⟩,o,E⟩:=B (f x) (List.mem_map.2 ⟨x,M,rfl⟩)
   have z:p.length<=1000000:=by have:=G2 List.length w;grind
   by_cases A:(f x).At<b
   ·rw[A2 (by rw[E4];simp_all)]
    generalize q:(f x).Var=vv at *
    generalize T:(f x).At=aa at *
    obtain⟨v,rfl⟩:=Da D;obtain⟨a,rfl⟩:=Da o
    have c:v<16:=za2
    have V:a<l.length:=za2
    have y:C7 ((List.range 16).map λ(v:Nat)=>WV l (p.map f) b (v:Int)) (v:Int)=some (WV l (p.map f) b v):=by
     rw[E8];simp[c]
    have K:C7 l (a:Int)=some l[a]:=by rw[E8];simp[V]
    have m:=Ae3 l (p.map f) b v;simp only[y,K,A4];rw[AW za7];simp only[A4];refine⟨_,by unfold Ev;rw[y];rfl,p++[x],za7,?_⟩;apply CZ;intro j;rw[BJ]
    by_cases u:j<16
    ·simp only[Az,EU u,P9,D9,I0,XA,q,T,W4,E1,DM,K5]
     grind
    simp_all
   rw[A1 (by rw[E4];grind)];refine⟨_,rfl,p++[x],za7,?_⟩;apply Y0;intro v _
   rw[P9,D9,I0,XA,A1 za2,E5]) (l:=s) (s:=List.replicate 16 []) ⟨[],rfl,by simp[WV];rfl⟩
 rw[O]
 rw[E5]at Z
 rw[J,Z]
def AA1 {N:Nat} (hN:Bgn N) {l:Up A9} {s:Up BD} (C:s.length<=1000000) (R:WfS l (Q7 s)) (f:Bool) (b:Int):BR N ⟨l,f⟩ s b=some (Xe l (Q7 s) b):=by
 unfold BR;have O:ZW 16 16 ([]:Up A9)=some (List.replicate 16 []):=rfl;rw[O];simp only[A4];rw[O1 s za2 (mk:=λ(a:List (List A9)) i=>(i,a)) (body:=λa x=>if cmp .lss (pr x).At b=true then(C7 a (pr x).Var).bind λK=>(C7 l (pr x).At).bind λk=>(V7 K [k]).bind λh=>(Ev a (pr x).Var (λ_=>h)).bind λg=>some (.inl g)else some (.inl a)) (fin:=λs=>s) (s:=List.replicate 16 []) za2 ?_ ?_]
 ·rw[Vm pr l b C R];rfl
 ·intro a i x M U;have e:ar .add .i64 (i:Int) 1=i+1:=D4 za2 za2;simp only[E4,B4,U,I9,D8,E8,M,A4,e]
  show(if decide (x.at_<b)=true then _ else _)=Option.bind (if decide (x.at_<b)=true then _ else _) _
  by_cases A:x.at_<b
  ·rw [A2 (N2 A),A2 (N2 A)]
   show((C7 a x.dJ).bind _)=((C7 a x.dJ).bind _).bind _
   cases C7 a x.dJ with
   |none=>rfl
   | some r=>
    simp only[A4]
    show((C7 l x.at_).bind _)=((C7 l x.at_).bind _).bind _
    cases C7 l x.at_ with
    |none=>rfl
    | some y=>
     simp only[A4]
     cases V7 r [y]with
     |none=>rfl
     |some q=>
      simp only[A4]
      show((Ev a x.dJ _).bind _)=((Ev a x.dJ _).bind _).bind _
      cases Ev a x.dJ λ_=>q<;>rfl
  grind
 intro s;simp[E4,B4]
def OQ {l:Up A9}{i:Nat}(h:i<l.length):C7 l (i:Int)=some l[i]:=by rw[E8];simp[h]
def Re {N:Nat}(hN:Bgn N){l:Up A9}{s:Up BD}(C:s.length<1000000)(R:WfS l (Q7 s))(f:Bool){c:B6}(X:c.bulk<=16777216)(own:Int){i:Nat}(U:i<l.length):
 Q0 N ⟨l,f⟩ c s own i=some (Qd (Xe l (Q7 s) i) own l[i] c):=by
 unfold Q0;rw[AA1 hN za2 R];simp only[A4];rw[OQ U];simp only[A4];rw[QZ hN (Pz l za7 _) own _ X];rfl
def upT {β:Type}(T:Nat->Bool)(g:Nat->β):Nat->Nat->Up β
 |0,_=>[]
 |k+1,i=>if T i=true then g i::upT T g k (i+1)else upT T g k (i+1)
def Od {β:Type}(T:Nat->Bool)(g:Nat->β)(k i:Nat):upT T g (k+1) i=if T i=true then g i::upT T g k (i+1)else upT T g k (i+1):=rfl
def LD {β:Type} {T:Nat->Bool} {g:Nat->β} {x:β}:∀{k i:Nat},x∈upT T g k i<->∃j,i<=j/\j<i+k/\T j=true/\x=g j
 |0,i=>by grind[upT]
 |k+1,i=>by
  rw[Od];have ih:=LD (T:=T) (g:=g) (x:=x) (k:=k) (i:=i+1)
  grind
def Sv {β:Type} {T:Nat->Bool} {g:Nat->β} (r:∀i j,g i=g j->i=j):∀{k i:Nat},(upT T g k i).Nodup
 |0,i=>by simp[upT]
 |k+1,i=>by
  rw[Od]
  split
  ·refine List.nodup_cons.2 ⟨λh=>?_,Sv r⟩;obtain⟨j,a,b,c,d⟩:=LD.1 h;have:=r _ _ d;omega
  exact Sv r
def VI {β A:Type} {n:Nat} {step:Int->OS (Up β×(Int⊕A))} {T:Nat->Bool} {g:Nat->β} {u:A} (C:∀i,i<n->step (i:Int)=some (if T i=true then[g i]else[],.inl ((i:Int)+1))) (Y:step (n:Int)=some ([],.inr u)):
 ∀(k i N:Nat),i+k=n->k<N->Ap step N (i:Int)=some (upT T g k i,u)
 |0,i,N,h,hN=>by
  obtain⟨N,rfl⟩:∃m,N=m+1:=⟨N-1,za2⟩;rw[show(i:Int)=n by omega]
  grind[Ap,upT]
 |k+1,i,N,h,hN=>by
  obtain⟨N,rfl⟩:∃m,N=m+1:=⟨N-1,za2⟩;have ih:=VI C Y k (i+1) N za2 za2
  grind[Ap,upT]
def Qw {A:Type} {n:Nat} {step:Int->OS (Int⊕(A⊕Unit))} {P:Nat->Bool} {u:A} (m:Nat) (C:∀i,m<=i->i<n->step (i:Int)=some (if P i=true then .inr (.inr ())else .inl ((i:Int)+1))) (Y:∀i:Nat,n<=i->step (i:Int)=some (.inr (.inl u))):
 ∀(k i N:Nat),n<=i+k->m<=i->k<N->loopN step N (i:Int)=some (if(List.range' i (n-i)).any P=true then .inr ()else .inl u)
 |0,i,N,h,_,hN=>by
  obtain⟨N,rfl⟩:∃m,N=m+1:=⟨N-1,za2⟩;rw[show n-i=0 by omega]
  simp_all[loopN]
 | k+1,i,N,h,E,hN=>by
  obtain⟨N,rfl⟩:∃m,N=m+1:=⟨N-1,za2⟩
  by_cases U:i<n
  ·have ih:=Qw m C Y k (i+1) N za2 za2 za2;simp only[loopN,C i E U];rw[show n-i=(n-(i+1))+1 by omega,Fd,GO]
   grind
  simp_all[loopN]
def Az5 (l:Up A9)(i:Int):Int:=match l[i.toNat]? with|some e=>e.Time|none=>0
def WC (l:Up A9)(p:A0)(b s:Up PR)(i:Nat):Bool:=match l[i]? with|some e=>decide (e.Typ=p.Typ)&&(!SE s i)&&Qd (Xe l (mrg b s) i) p.Var e p.dF|none=>false
def Ws (l:Up A9)(p:A0)(b s:Up PR):Bool:= !((List.range l.length).any λi=>decide (hdA s<(i:Int))&&decide ((i:Int)<V3 s)&&WC l p b s i)
def Fx (l:Up A9)(p:A0)(b s:Up PR):Bool:=
 if p.Op=6 then decide (ar .sub .i64 (Az5 l (V3 s)) (Az5 l (hdA s))<=p.Span)else if p.Op=7 then Qd (Xe l (mrg b s) l.length) (-1) ⟨0,0,0,0,[]⟩ p.dF else Ws l p b s
structure Gd (l:List A9) (s:List PR):Prop where
 wf:WfS l s
 asc:WK s
def Gd.len {l:Up A9}{s:Up PR}(h:Gd l s):s.length<=l.length:=AG0 (k:=0) h.asc λx M=>by have:=(h.wf x M).2;omega
def Gd.nil (l:Up A9):Gd l []:=⟨λ_ h=>absurd h List.not_mem_nil,List.Pairwise.nil⟩
def Gd.mrg {l:Up A9}{a b:Up PR}(T:Gd l a)(A:Gd l b)(h:S9 a b):Gd l (mrg a b):=⟨λx M=>(N4.1 M).elim (T.wf x) (A.wf x),JD _ (Nat.le_refl _) T.asc A.asc h⟩
def Gd.lst {l:Up A9}{s:Up PR}(h:Gd l s)(a:s≠[]):0<=V3 s/\V3 s<l.length:=by
 obtain⟨x,_,M,e⟩:=Pu a;rw[e];exact(h.wf x M).2
def Gd.hd {l:Up A9} {s:Up PR} (h:Gd l s) (a:s≠[]):0<=hdA s/\hdA s<l.length/\hdA s<=V3 s/\SE s (hdA s)=true:=by
 cases s with
 |nil=>simp_all
 |cons x s=>
  have:=(h.wf x za4).2;exact⟨this.1,this.2,Kw h.asc x za4,Zs.2 ⟨x,za4,rfl⟩⟩
def Uk {l:Up A9}{i:Int}(L:0<=i)(O:i<l.length):∃e,C7 l i=some e/\e.Time=Az5 l i:=by
 simp_all[C7,Az5]
def Bl8 {s:Up BD}(h:s≠[]):∃x,C7 s 0=some x/\x.at_=hdA (Q7 s):=by
 cases s with
 |nil=>simp_all
 |cons x s=>exact⟨x,rfl,rfl⟩
def Bt6 {s:Up BD}(h:s≠[]):Q7 s≠[]:=λe=>h (List.map_eq_nil_iff.1 e)
def XR {l:Up A9}{p:A0}{b s:Up PR}{a n:Nat}(O:(a:Int)<=hdA s+1)(Z:hdA s<=(a:Int))(h:(n:Int)=V3 s)(g:SE s (hdA s)=true)(hl:V3 s<l.length):
 (List.range' a (n-a)).any (WC l p b s)= !Ws l p b s:=by
 grind[WC,Ws]
def AI3 {N:Nat} (hN:Bgn N) {l:Up A9} (hl:l.length<=10) {p:A0} (X:p.dF.bulk<=16777216) (C:5<=p.Op/\p.Op<=7) {b s:Up BD} (y:Gd l (Q7 b)) (h:Gd l (Q7 s)) (K:s≠[]) (hd:S9 (Q7 b) (Q7 s)) (f:Bool):
 AX N ⟨l,f⟩ p b s=some (Fx l p (Q7 b) (Q7 s)):=by
 have D:=y.len;have E:=h.len
 rw[E1]at D E
 have m:=y.mrg h hd;have J:=m.len;have r:=Bt6 K;have g:=h.lst r;obtain⟨L,O,Z,w⟩:=h.hd r;obtain⟨G,V,e0⟩:=Bl8 K;obtain⟨c,z,x⟩:=Uw (N:=N) (n:=l.length) za2 za2 za2 y.asc h.asc hd y.wf.ins h.wf.ins
 have I:c.length<=10:=by have:=G2 List.length x;rw[E1]at this;omega
 have v:WfS l (Q7 c):=by rw[x];exact m.wf
 unfold AX Fx;rw[V,Ac9 K za2,z];simp only[A4,AA1 hN (show c.length<=1000000 by omega) v,QZ hN (Pz l (show(Q7 c).length<1000000 by rw[E1];omega) _) _ _ X]
 by_cases o:p.Op=6
 ·rw[A2 (by rw[F5];simp_all),A2 o];obtain⟨Q,j,F⟩:=Uk (l:=l) (i:=V3 (Q7 s)) za2 za2;obtain⟨M,d,t0⟩:=Uk (l:=l) (i:=G.at_) za2 za2;rw[j,d];simp only[A4,Dp,F,t0,e0]
 rw[A1 o,A1 (by rw[F5];grind)]
 by_cases q:p.Op=7
 ·rw[A2 (by rw[F5];simp_all),A2 q,x];rfl
 rw[A1 q,A1 (by rw[F5];grind)];obtain⟨n,B⟩:=Da g.1;obtain⟨a,T⟩:=Da L;rw[e0,T,D4 (a:=((a:Nat):Int)) za2 za2,show((a:Int)+1)=((a+1:Nat):Int) by omega];rw[Qw (A:=Unit) (n:=n) (P:=WC l p (Q7 b) (Q7 s)) (u:=()) 0 ?_ ?_ n (a+1) N za2 za2 za2,XR za2 za2 za2 w g.2]
 ·cases Ws l p (Q7 b) (Q7 s)<;>rfl
 ·intro i _ U
  have k:i<l.length:=za2
  have e:ar .add .i64 (i:Int) 1=i+1:=D4 za2 za2;rw[A2 (AT za2),AA0 hN za2,OQ k,Re hN za2 v _ X _ k,x];simp only[A4,X5,F5,e];unfold WC
  grind
 intro i U;rw[A1 (Q6 za2)]
def Ab8 (l:Up A9)(p:A0)(b:Up PR)(i:Nat):Bool:=match l[i]? with|some e=>decide (e.Typ=p.Typ)&&Qd (Xe l b i) p.Var e p.dF|none=>false
def AJ9 {N:Nat} (hN:Bgn N) {l:Up A9} (hl:l.length<=10) {p:A0} (X:p.dF.bulk<=16777216) {b:Up BD} (a:Gd l (Q7 b)) (f:Bool) {i:Nat} (U:i<=l.length):
 Z2 N ⟨l,f⟩ p b (i:Int)=some (upT (Ab8 l p (Q7 b)) (λj=>[(⟨p.Var,(j:Int)⟩:BD)]) (l.length-i) i):=by
 have r:=a.len
 rw[E1]at r
 unfold Z2 Bw
 have h:=VI (β:=Up BD) (A:=Unit) (n:=l.length) (T:=Ab8 l p (Q7 b)) (g:=λj=>[(⟨p.Var,(j:Int)⟩:BD)]) (u:=()) (step:=(λ(I:Int)=>
  (
   if cmp .lss I (Ar.len (⟨l,f⟩:C1).dH)=true then
    (C7 (⟨l,f⟩:C1).dH I).bind λy=>
    if cmp .eql y.Typ p.Typ=true then
     (Q0 N ⟨l,f⟩ p.dF b p.Var I).bind λx=>
     if x=true then
      L5 (some ([[(⟨p.Var,I⟩:A3)]],())) λ_=>
      some ([],.inl (ar .add .i64 I 1))
     else
      some ([],.inl (ar .add .i64 I 1))
    else
     some ([],.inl (ar .add .i64 I 1))
   else
    some ([],.inr ())
   :OS (Up (Up A3)×((Int)⊕(Unit)))))) ?_ ?_ (l.length-i) i N za2 za2
 ·rw[h];simp[L5]
 ·intro j k;have e:ar .add .i64 (j:Int) 1=j+1:=D4 za2 za2;rw[A2 (AT (by rw[B4];simp_all))]
  show((C7 l (j:Int)).bind _)=_
  rw[OQ k,Re hN za2 a.wf _ X _ k,e];simp only[A4,F5,L5];unfold Ab8
  grind
 rw[A1 AO]
def Aq3 (x:PR):Up UInt8:=Cz x.Var.toNat++64::(Cz x.At.toNat++[32])
def Rt (s:Up PR):Up UInt8:=s.flatMap Aq3
def MX (l:Up UInt8):Up Int:=l.map λb=>(b.toNat:Int)
def Bs6 {n:Int}(L:0<=n)(O:n<1000):Ar.wr .i64 n=n:=Ee za2 za2
def Bs5 {n:Int} (L:0<=n) (O:n<1000):Ar.wr .u64 n=n:=by
 have e:IntKind.wrap .u64 n=n % 18446744073709551616:=by
  unfold IntKind.wrap;simp[IntKind.bits,IntKind.signed]
 exact e.trans za2
def RU {N:Nat} {d:Up Int} (hd:d.length<=1000000) {i:Int} (L:0<=i) (O:i<100):S4 N d i 10=some (d++MX (Cz i.toNat)):=by
 unfold S4 FV DX LT;rw[A1 (Q6 za2),Bs5 L za2,A2 (show cmp .eql 10 10=true by rfl),A2 (AT O),Bs6 L za2]
 have C:UU i=some ⟨(Cz i.toNat).toArray⟩:=by
  simp_all[UU]
 rw[C]
 grind[Cz,V7,SM,MX]
def Bf5 (x:PR):(Aq3 x).length<=6:=by
 have h:∀i,(Cz i).length<=2:=λi=>by grind[Cz]
 have:=h x.Var.toNat;have:=h x.At.toNat
 grind[Aq3]
def AD1:∀s:Up PR,(Rt s).length<=6*s.length
 |[]=>by simp[Rt]
 |x::s=>by
  have:=AD1 s;have:=Bf5 x
  simp only[Rt,X9,K8,N3]at *
  omega
def Bg1 {N:Nat} (hN:Bgn N) {l:Up A9} (hl:l.length<=10) {s:Up BD} (C:s.length<=1000) (o:WfS l (Q7 s)):AI N s=AS2 (MX (Rt (Q7 s))):=by
 unfold AI;rw[O1 s za2 (mk:=λ(out:List Int) i=>(i,out)) (body:=λout x=>(S4 N out x.dJ 10).bind λc=>(V7 c [64]).bind λk=>(S4 N k x.at_ 10).bind λg=>(V7 g [32]).bind λh=>some (.inl h)) (fin:=λs=>s) (s:=[]) za2 ?_ ?_]
 ·obtain⟨A,O,p,Z,J⟩:=Ds (R:=Up Int) (step:=λout x=>(S4 N out x.dJ 10).bind λc=>(V7 c [64]).bind λk=>(S4 N k x.at_ 10).bind λg=>(V7 g [32]).bind λh=>some (.inl h))
   (λr out=>∃p,p++r=s/\out=MX (Rt (Q7 p))) (λx r out ⟨p,w,e2⟩=>by
    subst e2
    have M:x∈s:=by rw[<-w];simp
    obtain⟨⟨q,u⟩,d,f⟩:=o (pr x) (List.mem_map.2 ⟨x,M,rfl⟩);have V:0<=x.dJ:=q;have m:x.dJ<16:=u;have K:0<=x.at_:=d;have j:x.at_<l.length:=f
    have z:p.length<=1000:=by have:=G2 List.length w;grind
    have v:(MX (Rt (Q7 p))).length<=6000:=by
     have:=AD1 (Q7 p)
     rw[E1]at this
     simp[MX];omega
    have y:∀i,(MX (Cz i)).length<=2:=λi=>by grind[MX,Cz]
    have:=y x.dJ.toNat;have:=y x.at_.toNat;refine⟨MX (Rt (Q7 p))++MX (Cz x.dJ.toNat)++[64]++MX (Cz x.at_.toNat)++[32],?_,p++[x],za7,?_⟩
    ·rw[RU za2 V za2];simp only[A4];rw[AW za7];simp only[A4];rw[RU za7 K za2];simp only[A4];rw[AW za7];rfl
    simp[MX,Rt,Aq3,Q7,pr]) (l:=s) (s:=[]) ⟨[],rfl,rfl⟩
  rw[O]
  simp_all
 ·intro out i x M U;have e:ar .add .i64 (i:Int) 1=i+1:=D4 za2 za2;simp only[E4,B4,U,I9,D8,E8,M,A4,e]
  cases S4 N out x.dJ 10 with
  |none=>rfl
  | some a=>
   simp only[A4]
   cases V7 a [64]with
   |none=>rfl
   |some b=>
    simp only[A4]
    grind
 intro s;simp[E4,B4]
def VE {m:UInt8}:∀{a b r q:Up UInt8},m∉a->m∉b->a++m::r=b++m::q->a=b/\r=q
 |[],[],r,q,_,_,h=>⟨rfl,za7⟩
 |[],y::b,r,q,_,A,h=>za8
 |x::a,[],r,q,T,_,h=>za8
 |x::a,y::b,r,q,T,A,h=>by
  simp only[V1,V0]at h
  have:=VE (λe=>T (by simp[e])) (λe=>A (by simp[e])) h.2
  simp_all
def Lm {i:Nat}(h:i<100):(64:UInt8)∉Cz i/\(32:UInt8)∉Cz i:=by
 have:∀i<100,(64:UInt8)∉Cz i/\(32:UInt8)∉Cz i:=za5
 grind
def Xt {i j:Nat}(U:i<16)(u:j<16)(h:Cz i=Cz j):i=j:=by
 have:∀i<16,∀j<16,Cz i=Cz j->i=j:=za5
 grind
def Vc {l:Up A9} (hl:l.length<=10):∀{a b:Up PR},WfS l a->WfS l b->Rt a=Rt b->a=b
 |[],[],_,_,_=>rfl
 |[],y::b,_,_,h=>by simp[Rt,Aq3]at h
 |x::a,[],_,_,h=>by simp[Rt,Aq3]at h
 | x::a,y::b,T,A,h=>by
  obtain⟨⟨v,B⟩,f,j⟩:=T x za4;obtain⟨⟨w0,C⟩,m,o⟩:=A y za4;obtain⟨K,p⟩:=Lm (i:=x.Var.toNat) za2;obtain⟨q,V⟩:=Lm (i:=x.At.toNat) za2;obtain⟨c,s⟩:=Lm (i:=y.Var.toNat) za2;obtain⟨u,d⟩:=Lm (i:=y.At.toNat) za2
  simp only[Rt,X9,Aq3,D2,V1,I1]at h
  obtain⟨w,e2⟩:=VE K c h;obtain⟨r,e4⟩:=VE V d e2;have i1:=Xt za2 za2 w;have i2:=Xt za2 za2 r
  have g:x=y:=by
   cases x;cases y
   grind
  rw[g,Vc hl (λz k=>T z (by simp[k])) (λz k=>A z (by simp[k])) e4]
structure WfN (y:A0):Prop where
 op:0<=y.Op/\y.Op<=7
 var:y.Op=0->0<=y.Var/\y.Var<16
 a0:y.Op=0->y.dD=[]
 a1:1<=y.Op->y.Op<=3->y.dD≠[]
 a2:4<=y.Op->∃q,y.dD=[q]
 cond:y.dF.bulk<=16777216
def FT (p:A0):Prop:=∀y∈p.pre,WfN y
def JK {N:Nat} (hN:Bgn N) {x:A0} (A:x.bulk<=16777216) (h:RH N x=0):FT x/\x.pre.length<=64:=by
 unfold RH at h
 by_cases f:Bk N x=0
 ·rw [A1 za2]at h
  by_cases T:x.pre.any (λy=>cmp .geq y.Op 8)=true
  ·rw[A2 T]at h;cases h
  obtain⟨K,hd,i⟩:=OY f;refine⟨λy m=>?_,K⟩;have O:=LE x y m;have Z:=X7 y
  have a:y.bulk<=16777216:=za2
  have b:y.dD.length<=64:=za2
  obtain⟨z,s,c,C,X⟩:=Vx hN a b (i y m)
  have k:y.Op<=7:=by
   rw[BF,IH]at T
   have:=T y m
   rw[U2]at this
   grind
  have V:=Bq0 hN N y.dF (⟨0,[],0,0,0,(⟨0,0,⟨#[]⟩⟩:B5)⟩:B6) za2 za2;have O:=MV hN za2 z.1 z.2 C V
  rw[(JO hN a b).2,i y m]at O
  have O:=DL O
  by_cases g:s.dK<=y.dD.length/\(y.dD.length:Int)<=s.most
  ·rw[A2 g]at O
   unfold Qq at O
   by_cases w:Jj s.dG y.Typ 15=true
   ·rw[A2 w]at O;cases O
   rw[A1 w]at O
   by_cases e2:Jj s.dG y.Var 15=true
   ·rw[A2 e2]at O;cases O
   have j:=C.tab
   have r:y.Op=0\/y.Op=1\/y.Op=2\/y.Op=3\/y.Op=4\/y.Op=5\/y.Op=6\/y.Op=7:=za2
   refine⟨⟨z.1,k⟩,?_,?_,?_,?_,za2⟩
   ·intro L
    rw[L]at j
    have C:s.dG=true:=by cases j;rfl
    rw[C]at e2
    unfold Jj at e2
    grind
   ·intro L
    rw[L]at j
    have E:s.most=0:=by cases j;rfl
    exact NY za2
   ·intro L J
    have E:1<=s.dK:=by
     have:y.Op=1\/y.Op=2\/y.Op=3:=za2
     rcases this with h|h|h<;>rw[h]at j<;>cases j<;>decide
    grind
   intro L
   have E:s.dK=1/\s.most=1:=by
    have:y.Op=4\/y.Op=5\/y.Op=6\/y.Op=7:=za2
    rcases this with h|h|h|h<;>rw[h]at j<;>cases j<;>decide
   have hl:y.dD.length=1:=za2
   match Y:y.dD,hl with
   |[q],_=>grind
  omega
 omega
def Ae {y:A0}:∀{l:Up A0},y∈A0.pres l<->∃a∈l,y∈a.pre
 |[]=>by simp[A0.pres]
 |a::l=>by simp only[A0.pres,Cp,Ae (l:=l),Fa];simp_all
def FT.self {p:A0}(h:FT p):WfN p:=h p (IZ p)
def FT.arg {p q:A0}(h:FT p)(Q:q∈p.dD):FT q:=λy m=>h y (by rw[A0.pre_eq];exact List.mem_cons_of_mem _ (Ae.2 ⟨q,Q,m⟩))
def FT.sub {p:A0}{r:Up A0}(h:FT p)(O:1<=p.Op)(J:p.Op<=3)(f:∀q∈r,q∈p.dD)(a:r≠[]):FT {p with dD:=r}:=by
 intro y m
 rw[A0.pre_eq]at m
 rcases List.mem_cons.1 m with rfl|m
 ·exact⟨h.self.op,λe=>by have:p.Op=0:=e;omega,λe=>by have:p.Op=0:=e;omega,λ_ _=>a,λe=>by have:4<=p.Op:=e;omega,h.self.cond⟩
 obtain⟨q,Q,m⟩:=Ae.1 m;exact h.arg (f q Q) y m
inductive Sm (l:List A9):A0->List PR->Int->List PR->Prop
 |ev {p:A0} {b:List PR} {f:Int} {j:Nat}:p.Op=0->f<=j->j<l.length->Ab8 l p b j=true->Sm l p b f [⟨p.Var,j⟩]
 |seq1 {p q:A0} {b:List PR} {f:Int} {s:List PR}:p.Op=1->p.dD=[q]->Sm l q b f s->Sm l p b f s
 |seq {p q q':A0} {r:List A0} {b:List PR} {f:Int} {s t:List PR}:p.Op=1->p.dD=q::q'::r->Sm l q b f s->Sm l {p with dD:=q'::r} (mrg b s) (V3 s+1) t->Sm l p b f (mrg s t)
 |alt {p q:A0} {b:List PR} {f:Int} {s:List PR}:p.Op=2->q∈p.dD->Sm l q b f s->Sm l p b f s
 |all1 {p q:A0} {b:List PR} {f:Int} {s:List PR}:p.Op=3->p.dD=[q]->Sm l q b f s->Sm l p b f s
 |all {p q:A0} {r:List A0} {b:List PR} {f:Int} {s t:List PR}:p.Op=3->p.dD=r++[q]->r≠[]->Sm l {p with dD:=r} b f s->Sm l q b f t->S9 s t->Sm l p b f (mrg s t)
 |plus1 {p q:A0} {b:List PR} {f:Int} {s:List PR}:p.Op=4->p.dD=[q]->Sm l q b f s->Sm l p b f s
 |plus {p q:A0} {b:List PR} {f:Int} {s t:List PR}:p.Op=4->p.dD=[q]->Sm l q b f s->Sm l p (mrg b s) (V3 s+1) t->Sm l p b f (mrg s t)
 |some {p q:A0} {b:List PR} {f:Int} {s:List PR}:5<=p.Op->p.Op<=7->p.dD=[q]->Sm l q b f s->Fx l p b s=true->Sm l p b f s
def Sm.i0 {l:Up A9} {p:A0} {b:Up PR} {f:Int} {s:Up PR} (L:p.Op=0):Sm l p b f s<->∃j:Nat,f<=j/\j<l.length/\Ab8 l p b j=true/\s=[⟨p.Var,j⟩]:=by
 constructor
 ·intro h
  cases h with
  |ev e0 w e2 a=>grind
  |_=>omega
 rintro⟨j,w,e2,a,rfl⟩;exact .ev L w e2 a
def Sm.i1 {l:Up A9} {p q:A0} {b:Up PR} {f:Int} {s:Up PR} (L:p.Op=1) (T:p.dD=[q]):Sm l p b f s<->Sm l q b f s:=by
 constructor
 ·intro h
  cases h with
  |seq1 e0 a C=>rw[T]at a;simp_all
  |seq e0 a C j=>rw[T]at a;cases a
  |_=>omega
 exact .seq1 L T
def Sm.i1c {l:Up A9} {p q g:A0} {r:Up A0} {b:Up PR} {f:Int} {s:Up PR} (L:p.Op=1) (T:p.dD=q::g::r):Sm l p b f s<->∃u t,Sm l q b f u/\Sm l {p with dD:=g::r} (mrg b u) (V3 u+1) t/\s=mrg u t:=by
 constructor
 ·intro h
  cases h with
  |seq1 e0 a C=>rw[T]at a;cases a
  |seq e0 a C j=>rw[T]at a;grind
  |_=>omega
 rintro⟨u,t,C,j,rfl⟩;exact .seq L T C j
def Sm.i2 {l:Up A9} {p:A0} {b:Up PR} {f:Int} {s:Up PR} (L:p.Op=2):Sm l p b f s<->∃q∈p.dD,Sm l q b f s:=by
 constructor
 ·intro h
  cases h with
  |alt e0 a C=>grind
  |_=>omega
 rintro⟨q,T,C⟩;exact .alt L T C
def Sm.i3 {l:Up A9} {p q:A0} {b:Up PR} {f:Int} {s:Up PR} (L:p.Op=3) (T:p.dD=[q]):Sm l p b f s<->Sm l q b f s:=by
 constructor
 ·intro h
  cases h with
  |all1 e0 a C=>rw[T]at a;simp_all
  |all e0 a g C j hd=>
   rw[T]at a
   exact absurd (NR (s₁:=[]) a rfl).symm g
  |_=>omega
 exact .all1 L T
def Sm.i3c {l:Up A9} {p q:A0} {r:Up A0} {b:Up PR} {f:Int} {s:Up PR} (L:p.Op=3) (T:p.dD=r++[q]) (g:r≠[]):Sm l p b f s<->∃u t,Sm l {p with dD:=r} b f u/\Sm l q b f t/\S9 u t/\s=mrg u t:=by
 constructor
 ·intro h
  cases h with
  |all1 e0 a C=>
   rw[T]at a
   exact absurd (NR (s₂:=[]) a rfl) g
  |all e0 a i C j hd=>
   rw[T]at a
   have w:=NR a rfl;have e2:=List.append_inj_right' a rfl
   grind
  |_=>omega
 rintro⟨u,t,C,j,hd,rfl⟩;exact .all L T g C j hd
def Sm.i4 {l:Up A9} {p q:A0} {b:Up PR} {f:Int} {s:Up PR} (L:p.Op=4) (T:p.dD=[q]):Sm l p b f s<->Sm l q b f s\/∃u t,Sm l q b f u/\Sm l p (mrg b u) (V3 u+1) t/\s=mrg u t:=by
 constructor
 ·intro h
  cases h with
  |plus1 e0 a C=>rw[T]at a;simp_all
  |plus e0 a C j=>rw[T]at a;grind
  |_=>omega
 rintro(C|⟨u,t,C,j,rfl⟩)
 ·exact .plus1 L T C
 exact .plus L T C j
def Sm.i5 {l:Up A9} {p q:A0} {b:Up PR} {f:Int} {s:Up PR} (L:5<=p.Op) (O:p.Op<=7) (T:p.dD=[q]):Sm l p b f s<->Sm l q b f s/\Fx l p b s=true:=by
 constructor
 ·intro h
  cases h with
  |some e0 w g C a=>rw[T]at g;simp_all
  |_=>omega
 rintro⟨C,a⟩;exact .some L O T C a
structure Jq (l:List A9) (b:List PR) (f:Int):Prop where
 gd:Gd l b
 lt:∀x∈b,x.At<f
 f0:0<=f
 f1:f<=l.length
structure Hi (l:List A9) (f:Int) (s:List PR):Prop where
 gd:Gd l s
 ge:∀x∈s,f<=x.At
 ne:s≠[]
def Jq.apart {l:Up A9}{b s:Up PR}{f:Int}(h:Jq l b f)(r:Hi l f s):S9 b s:=λx M y m=>by have:=h.lt x M;have:=r.ge y m;omega
def Jq.next {l:Up A9}{b s:Up PR}{f:Int}(h:Jq l b f)(r:Hi l f s):Jq l (mrg b s) (V3 s+1):=by
 have hl:=r.gd.lst r.ne;refine⟨h.gd.mrg r.gd (h.apart r),λx M=>?_,za2,za2⟩
 rcases N4.1 M with M|M
 ·obtain⟨y,_,m,e⟩:=Pu r.ne;have:=h.lt x M;have:=r.ge y m;omega
 have:=Kw r.gd.asc x M;omega
def Hi.seq {l:Up A9} {s t:Up PR} {f:Int} (r:Hi l f s) (q:Hi l (V3 s+1) t):Hi l f (mrg s t)/\S9 s t:=by
 have T:S9 s t:=λx M y m=>by have:=Kw r.gd.asc x M;have:=q.ge y m;omega
 refine⟨⟨r.gd.mrg q.gd T,λx M=>?_,λe=>?_⟩,T⟩
 ·rcases N4.1 M with M|M
  ·exact r.ge x M
  obtain⟨y,_,m,e⟩:=Pu r.ne;have:=r.ge y m;have:=q.ge x M;omega
 have O:=G2 List.length e
 rw[ML,Ay]at O
 have:=List.length_pos_iff.2 r.ne;omega
def Hi.all {l:Up A9}{s t:Up PR}{f:Int}(r:Hi l f s)(q:Hi l f t)(T:S9 s t):Hi l f (mrg s t):=by
 refine⟨r.gd.mrg q.gd T,λx M=>(N4.1 M).elim (r.ge x) (q.ge x),λe=>?_⟩;have O:=G2 List.length e
 rw[ML,Ay]at O
 have:=List.length_pos_iff.2 r.ne;omega
def Sm.res {l:Up A9} {p:A0} {b:Up PR} {f:Int} {s:Up PR} (h:Sm l p b f s):FT p->Jq l b f->Hi l f s:=by
 induction h with
 |@ev p b f j L o u y=>
  intro R z;refine⟨⟨λx M=>?_,IQ _ _⟩,λx M=>?_,za4⟩
  ·rw[List.mem_singleton.1 M];exact⟨R.self.var L,za8⟩
  simp_all
 |seq1 L T _ ih=>intro R z;exact ih (R.arg (by rw[T];simp)) z
 |@seq p q K r b f s t L T _ _ a g=>
  intro R z;have i:=a (R.arg (by rw[T];simp)) z;have v:=g (R.sub za2 za2 (λx M=>by rw[T];simp_all) za4) (z.next i);exact(i.seq v).1
 |alt L T _ ih=>intro R z;exact ih (R.arg T) z
 |all1 L T _ ih=>intro R z;exact ih (R.arg (by rw[T];simp)) z
 |@all p q r b f s t L T k _ _ hd a g=>
  intro R z;exact(a (R.sub za2 za2 (λx M=>by rw[T];simp[M]) k) z).all (g (R.arg (by rw[T];simp)) z) hd
 |plus1 L T _ ih=>intro R z;exact ih (R.arg (by rw[T];simp)) z
 |@plus p q b f s t L T _ _ a g=>
  intro R z;have i:=a (R.arg (by rw[T];simp)) z;exact(i.seq (g R (z.next i))).1
 |some L O T _ _ ih=>intro R z;exact ih (R.arg (by rw[T];simp)) z
def Vs (p:A0)(v:Int):Prop:=∃y∈p.pre,y.Op=0/\y.Var=v
def Vs.arg {p q:A0}{v:Int}(Q:q∈p.dD)(h:Vs q v):Vs p v:=by
 obtain⟨y,m,h⟩:=h;exact⟨y,by rw[A0.pre_eq];exact Gw _ (Ae.2 ⟨q,Q,m⟩),h⟩
def Vs.sub {p:A0}{r:Up A0}{v:Int}(L:p.Op≠0)(f:∀q∈r,q∈p.dD)(h:Vs {p with dD:=r} v):Vs p v:=by
 obtain⟨y,m,O,Z⟩:=h
 rw[A0.pre_eq]at m
 rcases List.mem_cons.1 m with rfl|m
 ·simp_all
 obtain⟨q,Q,m⟩:=Ae.1 m;exact Vs.arg (f q Q) ⟨y,m,O,Z⟩
def Sm.vars {l:Up A9} {p:A0} {b:Up PR} {f:Int} {s:Up PR} (h:Sm l p b f s):∀x∈s,Vs p x.Var:=by
 induction h with
 |@ev p b f j L o u k=>intro x M;rw[List.mem_singleton.1 M];exact⟨p,IZ p,L,rfl⟩
 |seq1 L T _ ih=>intro x M;exact Vs.arg (by rw[T];simp) (ih x M)
 |@seq p q y r b f s t L T _ _ a g=>
  intro x M
  rcases N4.1 M with M|M
  ·exact Vs.arg (by rw[T];simp) (a x M)
  exact Vs.sub za2 (λx M=>by rw[T];simp_all) (g x M)
 |alt L T _ ih=>intro x M;exact Vs.arg T (ih x M)
 |all1 L T _ ih=>intro x M;exact Vs.arg (by rw[T];simp) (ih x M)
 |@all p q r b f s t L T i _ _ hd a g=>
  intro x M
  rcases N4.1 M with M|M
  ·exact Vs.sub za2 (λx M=>by rw[T];simp[M]) (a x M)
  exact Vs.arg (by rw[T];simp) (g x M)
 |plus1 L T _ ih=>intro x M;exact Vs.arg (by rw[T];simp) (ih x M)
 |@plus p q b f s t L T _ _ a g=>
  intro x M
  rcases N4.1 M with M|M
  ·exact Vs.arg (by rw[T];simp) (a x M)
  simp_all
 |some L O T _ _ ih=>intro x M;exact Vs.arg (by rw[T];simp) (ih x M)
def AU (p:A0):Nat:=p.pre.countP λy=>decide (y.Op=0)
def CE (p:A0):Prop:=∀y∈p.pre,y.Op≠4
def Ij (p:A0):AU p=(if p.Op=0 then 1 else 0)+(A0.pres p.dD).countP λy=>decide (y.Op=0):=by
 unfold AU;rw[A0.pre_eq,List.countP_cons]
 by_cases h:p.Op=0<;>simp[h]<;>omega
def RA (p:A0)(r:Up A0):AU {p with dD:=r}=(if p.Op=0 then 1 else 0)+(A0.pres r).countP λy=>decide (y.Op=0):=Ij _
def TR {q:A0}:∀{l:Up A0},q∈l->AU q<=(A0.pres l).countP λy=>decide (y.Op=0)
 |a::l,h=>by
  simp only[A0.pres,GU]
  rcases List.mem_cons.1 h with rfl|h
  ·simp[AU]
  have:=TR h;omega
def MS {p q:A0}(h:q∈p.dD):AU q<=AU p:=by rw[Ij p];have:=TR h;omega
def CE.arg {p q:A0}(h:CE p)(Q:q∈p.dD):CE q:=λy m=>h y (by rw[A0.pre_eq];exact List.mem_cons_of_mem _ (Ae.2 ⟨q,Q,m⟩))
def CE.sub {p:A0}{r:Up A0}(h:CE p)(f:∀q∈r,q∈p.dD):CE {p with dD:=r}:=by
 intro y m
 rw[A0.pre_eq]at m
 rcases List.mem_cons.1 m with rfl|m
 ·exact h p (IZ p)
 obtain⟨q,Q,m⟩:=Ae.1 m;exact h.arg (f q Q) y m
def UC (n:Nat)(p:A0):Prop:=(AU p+1) ^ n<=1500\/(CE p/\2<=n/\n ^ AU p<=1500)
def UC.mono {n:Nat}{p q:A0}(h:UC n p)(O:AU q<=AU p)(Z:CE p->CE q):UC n q:=by
 rcases h with h|⟨a,b,c⟩
 ·exact .inl (P8 (La za2 n) h)
 exact .inr ⟨Z a,b,P8 (Gv za2 O) c⟩
def UC.arg {n:Nat}{p q:A0}(h:UC n p)(Q:q∈p.dD):UC n q:=h.mono (MS Q) λk=>k.arg Q
def UC.tail {n:Nat}{p q:A0}{r:Up A0}(h:UC n p)(T:p.dD=q::r):UC n {p with dD:=r}:=by
 refine h.mono ?_ λk=>k.sub λx M=>by rw[T];simp_all
 rw[RA,Ij,T];simp[A0.pres]
def Hc:∀(r m:Up A0),A0.pres (r++m)=A0.pres r++A0.pres m
 |[],m=>by simp[A0.pres]
 |a::r,m=>by simp[A0.pres,Hc r m]
def OI (V:Up Int):Nat->Int->Up (Up PR)
 |0,_=>[[]]
 |m+1,k=>OI V m (k+1)++V.flatMap λv=>(OI V m (k+1)).map λs=>⟨v,k⟩::s
def SJ (V:Up Int):∀(m:Nat) (k:Int),(OI V m k).length=(V.length+1) ^ m
 |0,_=>rfl
 | m+1,k=>by
  have ih:=SJ V m (k+1)
  have h:(V.flatMap λv=>(OI V m (k+1)).map λs=>(⟨v,k⟩:PR)::s).length=V.length*(V.length+1) ^ m:=by
   clear ih;generalize a:OI V m (k+1)=E
   have hl:E.length=(V.length+1) ^ m:=by rw[<-a];exact SJ V m (k+1)
   rw[<-hl];clear hl a
   induction V with
   |nil=>simp
   |cons v V ih=>rw[X9,K8,ih,E1,N3,Nt];omega
  rw[OI,K8,ih,h,Ns];rw[EZ _ (V.length+1),Nt];omega
def PA (V:Up Int):∀(m:Nat) (k:Int) (s:Up PR),WK s->(∀x∈s,k<=x.At/\x.At<k+m)->(∀x∈s,x.Var∈V)->s∈OI V m k
 |0,k,[],_,_,_=>by simp[OI]
 |0,k,x::s,_,h,_=>by have:=h x za4;omega
 |m+1,k,[],T,_,_=>by
  rw[OI];exact IM _ (PA V m (k+1) [] T za4 za4)
 | m+1,k,x::s,T,h,q=>by
  rw[OI];have b:=T
  unfold WK at T
  rw[DU]at T
  have M:=h x za4
  by_cases e:x.At=k
  ·refine Le _ (List.mem_flatMap.2 ⟨x.Var,q x za4,List.mem_map.2 ⟨s,PA V m (k+1) s T.2 (λy a=>?_) (λy a=>q y (by simp[a])),?_⟩⟩)
   ·have:=T.1 y a;have:=h y (by simp[a]);omega
   rw[<-e]
  refine IM _ (PA V m (k+1) (x::s) b (λy a=>?_) q);have:=h y a
  grind
def Ab0 (p:A0):Up Int:=(p.pre.filter λy=>decide (y.Op=0)).map (·.Var)
def AG9 (p:A0):(Ab0 p).length=AU p:=by grind[Ab0,AU]
def Vs.mem {p:A0}{v:Int}(h:Vs p v):v∈Ab0 p:=by
 grind[Ab0,Vs]
def BC9 {l:Up A9} {p:A0} {L:Up (Up PR)} (a:L.Nodup) (h:∀s∈L,Gd l s/\∀x∈s,Vs p x.Var):L.length<=(AU p+1) ^ l.length:=by
 have:=NZ a (l₂:=OI (Ab0 p) l.length 0) λs C=>by
  obtain⟨g,q⟩:=h s C;exact PA _ _ _ s g.asc (λx M=>by have:=(g.wf x M).2;omega) λx M=>(q x M).mem
 rwa[SJ,AG9]at this
def AA7 {α β:Type}(A B:Up α)(f:α->α->β):(A.flatMap λa=>B.map (f a)).length=A.length*B.length:=by
 induction A with
 |nil=>simp
 |cons a A ih=>rw[X9,K8,ih,E1,N3,Nt];omega
def AA8:∀(n:Nat) (p:A0),p.pre.length<=n->FT p->1<=AU p
 |0,p,h,_=>by rw[A0.pre_eq]at h;simp at h
 | n+1,p,h,R=>by
  by_cases L:p.Op=0
  ·rw[Ij,A2 L];omega
  have a:∃q,q∈p.dD:=by
   by_cases J:p.Op<=3
   ·exact Dc _ (R.self.a1 (by have:=R.self.op;omega) J)
   obtain⟨q,Q⟩:=R.self.a2 za2
   simp_all
  obtain⟨q,Q⟩:=a;have:=AA8 n q (by have:=H9 Q;omega) (R.arg Q);have:=MS Q;omega
def Ao2 {x y:Nat} (M:2<=x) (m:2<=y):x+y<=x*y:=by
 obtain⟨a,rfl⟩:∃a,x=a+2:=⟨x-2,za2⟩;obtain⟨b,rfl⟩:∃b,y=b+2:=⟨y-2,za2⟩
 have:(a+2)*(b+2)=a*b+2*a+2*b+4:=by
  rw[DE,E2,E2];omega
 omega
def Pd {p q:A0}{r:Up A0}(T:p.dD=q::r):({p with dD:=r}:A0).pre.length<p.pre.length:=by
 have O:=A0.pre_eq ({p with dD:=r}:A0);have Z:=A0.pre_eq p;rw[O,Z,T];have:=A0.pre_eq q
 grind[A0.pres]
def AV1 {p q:A0}{r:Up A0}(T:p.dD=r++[q]):({p with dD:=r}:A0).pre.length<p.pre.length:=by
 have O:=A0.pre_eq ({p with dD:=r}:A0);have Z:=A0.pre_eq p;rw[O,Z,T,Hc];have:=A0.pre_eq q
 simp_all[A0.pres]
def PY {l:Up A9} (hl:2<=l.length):∀(n:Nat) (p:A0),p.pre.length<=n->FT p->CE p->∃C:Up (Up PR),C.length<=l.length ^ AU p/\∀b f s,Sm l p b f s->s∈C
 |0,p,h,_,_=>by rw[A0.pre_eq]at h;simp at h
 | n +1,p,h,R,i=>by
  have o:=R.self.op;have z:=i p (IZ p)
  have y:∀q:A0,FT q->2<=l.length ^ AU q:=λq Q=>by
   have O:=AA8 _ q (B1 _) Q;have:=Gv (n:=l.length) za2 O
   rw[Nat.pow_one]at this;omega
  by_cases L:p.Op=0
  ·refine⟨(List.range l.length).map λ(j:Nat)=>[⟨p.Var,(j:Int)⟩],?_,λb f s a=>?_⟩
   ·rw[Ij,A2 L,R.self.a0 L,E1,DM];simp[A0.pres]
   obtain⟨j,_,F,_,rfl⟩:=(Sm.i0 L).1 a
   grind
  by_cases O:p.Op=1
  ·match T:p.dD with
   |[]=>exact absurd T (R.self.a1 za2 za2)
   |[q]=>
    have Q:q∈p.dD:=by rw[T];simp
    obtain⟨C,Z,J⟩:=PY hl n q (by have:=H9 Q;omega) (R.arg Q) (i.arg Q);refine⟨C,P8 Z (Gv za2 (MS Q)),λb f s a=>?_⟩;exact J _ _ _ ((Sm.i1 O T).1 a)
   | q::K::r=>
    have Q:q∈p.dD:=by rw[T];simp
    obtain⟨C,Z,J⟩:=PY hl n q (by have:=H9 Q;omega) (R.arg Q) (i.arg Q);obtain⟨D,d,m⟩:=PY hl n {p with dD:=K::r} (by have:=Pd T;omega) (R.sub za2 za2 (λx M=>by rw[T];simp_all) za4) (i.sub λx M=>by rw[T];simp_all);refine⟨C.flatMap λs=>D.map (mrg s),?_,λb f s a=>?_⟩
    ·rw[AA7,show AU p=AU q+AU {p with dD:=K::r}from ?_,Nat.pow_add]
     ·exact Ax Z d
     rw[RA,Ij p,T,A1 L];rw[A0.pres,GU];unfold AU;omega
    obtain⟨u,t,B,A,rfl⟩:=(Sm.i1c O T).1 a
    grind
  by_cases V:p.Op=2
  ·match T:p.dD with
   |[]=>exact absurd T (R.self.a1 za2 za2)
   |[q]=>
    have Q:q∈p.dD:=by rw[T];simp
    obtain⟨C,Z,J⟩:=PY hl n q (by have:=H9 Q;omega) (R.arg Q) (i.arg Q);refine⟨C,P8 Z (Gv za2 (MS Q)),λb f s a=>?_⟩;obtain⟨K,g,a⟩:=(Sm.i2 V).1 a
    rw[T]at g
    rw[List.mem_singleton.1 g]at a
    grind
   | q::K::r=>
    have Q:q∈p.dD:=by rw[T];simp
    have k:FT {p with dD:=K::r}:=R.sub za2 za2 (λx M=>by rw[T];simp_all) za4;obtain⟨C,Z,J⟩:=PY hl n q (by have:=H9 Q;omega) (R.arg Q) (i.arg Q);obtain⟨D,d,m⟩:=PY hl n {p with dD:=K::r} (by have:=Pd T;omega) k (i.sub λx M=>by rw[T];simp_all);refine⟨C++D,?_,λb f s a=>?_⟩
    ·rw[K8,show AU p=AU q+AU {p with dD:=K::r}from ?_,Nat.pow_add]
     ·have w:=y q (R.arg Q);have e2:=y _ k;have:=Ao2 w e2;omega
     rw[RA,Ij p,T,A1 L];rw[A0.pres,GU];unfold AU;omega
    obtain⟨x,g,a⟩:=(Sm.i2 V).1 a
    rw[T]at g
    rcases List.mem_cons.1 g with e|E
    ·rw[e]at a;grind
    exact Le _ (m _ _ _ (Sm.alt (p:={p with dD:=K::r}) V E a))
  by_cases c:p.Op=3
  ·rcases Gy p.dD with T|⟨r,q,T⟩
   ·exact absurd T (R.self.a1 za2 za2)
   rw[Gx]at T
   have Q:q∈p.dD:=by rw[T];simp
   obtain⟨C,Z,J⟩:=PY hl n q (by have:=H9 Q;omega) (R.arg Q) (i.arg Q)
   by_cases v:r=[]
   ·subst v;refine⟨C,P8 Z (Gv za2 (MS Q)),λb f s a=>?_⟩;exact J _ _ _ ((Sm.i3 c T).1 a)
   have k:FT {p with dD:=r}:=R.sub za2 za2 (λx M=>by rw[T];simp[M]) v;obtain⟨D,d,m⟩:=PY hl n {p with dD:=r} (by have:=AV1 T;omega) k (i.sub λx M=>by rw[T];simp[M]);refine⟨D.flatMap λs=>C.map (mrg s),?_,λb f s a=>?_⟩
   ·rw[AA7,show AU p=AU {p with dD:=r}+AU q from ?_,Nat.pow_add]
    ·exact Ax d Z
    rw[RA,Ij p,T,A1 L,Hc,GU];simp[A0.pres,AU]
   obtain⟨u,t,B,A,_,rfl⟩:=(Sm.i3c c T v).1 a
   grind
  obtain⟨q,T⟩:=R.self.a2 za2
  have Q:q∈p.dD:=by rw[T];simp
  obtain⟨C,Z,J⟩:=PY hl n q (by have:=H9 Q;omega) (R.arg Q) (i.arg Q);refine⟨C,P8 Z (Gv za2 (MS Q)),λb f s a=>?_⟩;exact J _ _ _ ((Sm.i5 za2 o.2 T).1 a).1
def card {l:Up A9} {p:A0} (R:FT p) (a:UC l.length p) {L:Up (Up PR)} (i:L.Nodup) (h:∀s∈L,Gd l s/\∃b f,Sm l p b f s):L.length<=1500:=by
 rcases a with a|⟨O,Z,J⟩
 ·refine P8 (BC9 i λs m=>?_) a;obtain⟨g,b,f,E⟩:=h s m;exact⟨g,E.vars⟩
 obtain⟨C,k,r⟩:=PY Z _ p (B1 _) R O
 have:=NZ i (l₂:=C) λs m=>by
  grind
 omega
def UJ {β σ a:Type}{m:OS (Up β×σ)}{f:σ->OS (Up β×a)}{w w':Up β}{x:σ}{o:a}(O:m=some (w,x))(Z:f x=some (w',o)):L5 m f=some (w++w',o):=by
 simp_all[L5]
def Vq {α β R:Type} {body:Unit->α->OS (Up β×(Unit⊕R))} {Q:α->β->Prop}:∀{L:Up α},(∀x∈L,∃w,body () x=some (w,.inl ())/\∀s,s∈w<->Q x s)->∃W,AS body L ()=some (W,.inl ())/\∀s,s∈W<->∃x∈L,Q x s
 |[],_=>⟨[],rfl,za4⟩
 |x::L,h=>by
  obtain⟨w,O,Z⟩:=h x za4;obtain⟨W,J,a⟩:=Vq (L:=L) λy m=>h y (by simp[m])
  simp_all[AS]
def XM {α β A:Type} {L:Up α} {N:Nat} (hN:L.length<N) {step:Int->OS (Up β×(Int⊕A))} {u:A} {Q:α->β->Prop}
 (C:∀(i:Nat) x,L[i]? =some x->(i:Int)<L.length->x∈L->∃w,step (i:Int)=some (w,.inl ((i:Int)+1))/\∀s,s∈w<->Q x s) (Y:step (L.length:Int)=some ([],.inr u)):∃W,Ap step N 0=some (W,u)/\∀s,s∈W<->∃x∈L,Q x s:=by
 have key:∀(k i N:Nat),i+k=L.length->k<N->∃W,Ap step N (i:Int)=some (W,u)/\∀s,s∈W<->∃x∈L.drop i,Q x s:=by
  intro k
  induction k with
  |zero=>
   intro i N U hN;obtain⟨N,rfl⟩:∃m,N=m+1:=⟨N-1,za2⟩;rw[BM za2,show(i:Int)=L.length by omega]
   simp_all[Ap]
  |succ k ih=>
   intro i N U hN;obtain⟨N,rfl⟩:∃m,N=m+1:=⟨N-1,za2⟩
   have a:i<L.length:=za2
   obtain⟨w,O,Z⟩:=C i L[i] (by simp[a]) za2 (F4 a);obtain⟨W,J,b⟩:=ih (i+1) N za2 za2;rw[M4 a];refine⟨w++W,?_,λs=>?_⟩
   ·simp_all[Ap]
   grind
 simpa using key L.length 0 N za2 hN
def Ng (s:Up BD):ByteArray:=Ac4 (MX (Rt (Q7 s)))
def Bc3 {a b:Up UInt8} (h:Ac4 (MX a)=Ac4 (MX b)):a=b:=by
 have e0:∀(a:Up UInt8) (g:za0),((MX a).foldl (λr n=>r.push (UInt8.ofNat n.toNat)) g).data.toList=g.data.toList++a:=λa=>by
  induction a with
  |nil=>simp[MX]
  |cons x a ih=>
   simp_all[MX]
 have e:∀a:Up UInt8,(Ac4 (MX a)).data.toList=a:=λa=>by
  have:=e0 a ByteArray.empty
  simp_all[Ac4]
 rw[<-e a,<-e b,h]
def AM8 {l:Up A9}(hl:l.length<=10){a b:Up BD}(T:WfS l (Q7 a))(A:WfS l (Q7 b))(h:Ng a=Ng b):a=b:=Pc (Vc hl T A (Bc3 h))
def AI2 {N:Nat}(hN:Bgn N){l:Up A9}(hl:l.length<=10){s:Up BD}(g:Gd l (Q7 s)):AI N s=some (Ng s):=by
 have:=g.len
 rw[E1]at this
 rw[Bg1 hN hl za2 g.wf];rfl
def SA (out:Up (Up BD)):Up (za0×Bool):=out.map λs=>(Ng s,true)
def AN5 (out:Up (Up BD)) (k:za0):∃b,Nn (SA out) k false=some (decide (∃s∈out,Ng s=k),b):=by
 unfold Nn SA
 induction out with
 |nil=>simp_all
 |cons x out ih=>
  obtain⟨b,ih⟩:=ih;rw[D9,NB]
  by_cases h:Ng x=k
  ·simp_all
  simp_all
def AK0 {out:Up (Up BD)}{s:Up BD}(h:¬∃t∈out,Ng t=Ng s):MC (SA out) (Ng s) true=some (SA (out++[s])):=by
 simp_all[MC,SA]
def Af4 {N:Nat} (hN:Bgn N) {l:Up A9} (hl:l.length<=10) {R:Up (Up BD)} (F:∀s∈R,Gd l (Q7 s)) (X:∀L:Up (Up BD),L.Nodup->(∀s∈L,s∈R)->L.length<=4096):
 ∃ m out,M8 (λ(a:(Up (za0×Bool))×(Up (Up A3))) (K:(Up A3))=>
  (
   (AI N K).bind λk=>
   (Nn a.1 k (false:Bool)).bind λc=>
   if c.1=true then
    some (.inl (a.1,a.2))
   else
    (MC a.1 k true).bind λi=>
    (V7 a.2 ([K])).bind λg=>
    ((
     if cmp .gtr (Ar.len g) 4096=true then
      none
     else
      some ()
    ):OS (Unit)).bind λf=>
    if(⟨l,false⟩:C1).full=true then
     some (.inr (i,g))
    else
     some (.inl (i,g))
   :OS (((Up (za0×Bool))×(Up (Up A3)))⊕(((Up (za0×Bool))×(Up (Up A3))))))
  ) R (([]:Up (za0×Bool)),[])=some (.inl (m,out))/\out.Nodup/\∀s,s∈out<->s∈R:=by
 obtain⟨B,O,p,out,Z,J,v,z⟩:=Ds (R:=(Up (za0×Bool))×(Up (Up A3))) (step:=λ(a:(Up (za0×Bool))×(Up (Up A3))) (K:(Up A3))=>
  (
   (AI N K).bind λk=>
   (Nn a.1 k (false:Bool)).bind λc=>
   if c.1=true then
    some (.inl (a.1,a.2))
   else
    (MC a.1 k true).bind λi=>
    (V7 a.2 ([K])).bind λg=>
    ((
     if cmp .gtr (Ar.len g) 4096=true then
      none
     else
      some ()
    ):OS (Unit)).bind λf=>
    if(⟨l,false⟩:C1).full=true then
     some (.inr (i,g))
    else
     some (.inl (i,g))
   :OS (((Up (za0×Bool))×(Up (Up A3)))⊕(((Up (za0×Bool))×(Up (Up A3)))))))
  (λr s=>∃p out,p++r=R/\s=(SA out,out)/\out.Nodup/\∀x,x∈out<->x∈p) (λy r s ⟨p,out,w,e2,u,e4⟩=>by
   subst e2
   have q:y∈R:=by rw[<-w];simp
   have d:∀x∈out,x∈R:=λx M=>by rw[<-w];grind
   rw[AI2 hN hl (F y q)];simp only[A4];obtain⟨b,A⟩:=AN5 out (Ng y);rw[A];simp only[A4];have V:(∃s∈out,Ng s=Ng y)<->y∈out:=⟨λ⟨s,C,e⟩=>by rw[<-AM8 hl (F s (d s C)).wf (F y q).wf e];exact C,λh=>⟨y,h,rfl⟩⟩
   by_cases E:y∈out
   ·rw[A2 (N2 (V.2 E))];refine⟨_,rfl,p++[y],out,za7,rfl,u,λx=>?_⟩;rw[e4,Cp,BK]
    simp_all
   have o:(out++[y]).Nodup:=by
    rw[II]
    grind
   have j:(out++[y]).length<=4096:=X _ o λx M=>by
    grind
   rw[A1 za8,AK0 (λe=>E (V.1 e))];simp only[A4];rw[AW za7];simp only[A4];rw[A1 (T9 (by rw[B4];omega))];refine⟨_,rfl,p++[y],out++[y],za7,rfl,o,λx=>?_⟩
   rw[Cp,Cp,e4]) (l:=R) (s:=([],[])) ⟨[],[],rfl,rfl,za4,za4⟩
 grind
def Kn (N n:Nat)(c:C1)(p:A0)(o:Up BD)(f:Int):OS (Up (Up BD)):=
 if p.Op=0 then Z2 N c p o f else if p.Op=1 then Y1 N n c p o f else if p.Op=2 then Y2 N n c p o f else if p.Op=3 then Y3 N n c p o f else if p.Op=4 then W7 N n c p o f else M5 N n c p o f
def Be0 (N n:Nat)(l:Up A9)(p:A0)(o:Up BD)(f:Int):Prop:=∃L,G6 N n ⟨l,false⟩ p o f=some L/\L.Nodup/\∀s,s∈L<->Sm l p (Q7 o) f (Q7 s)
def Mc {l:Up A9} {p:A0} (R:FT p) (C:UC l.length p) {b:Up PR} {f:Int} (z:Jq l b f) {L:Up (Up BD)} (g:L.Nodup) (h:∀s∈L,Sm l p b f (Q7 s)):L.length<=1500:=by
 have:=card R C (L:=L.map Q7) (by
  rw[List.Nodup,O3]
  exact g.imp λa e=>a (Pc e)) λs C=>by
   obtain⟨t,j,rfl⟩:=List.mem_map.1 C;exact⟨((h t j).res R z).gd,b,f,h t j⟩
 rwa[E1]at this
def Bs9 {N:Nat} (hN:Bgn N) {l:Up A9} (hl:l.length<=10) {p:A0} (K:FT p) (C:UC l.length p) {o:Up BD} {f:Int} (z:Jq l (Q7 o) f) {n:Nat} {R:Up (Up BD)} (h:Kn N n ⟨l,false⟩ p o f=some R) (E:∀s,s∈R<->Sm l p (Q7 o) f (Q7 s)):Be0 N (n+1) l p o f:=by
 obtain⟨m,out,O,Z,J⟩:=Af4 hN hl (R:=R) (λs C=>(((E s).1 C).res K z).gd) λL V x=>by have:=Mc K C z V λs C=>(E s).1 (x s C);omega
 refine⟨out,?_,Z,λs=>(J s).trans (E s)⟩;have c:=K.self.op;unfold G6 Hn
 have key:∀{F:Up (Up BD)->OS (Up (Up BD))},((C7 ([λa b k r=>Z2 N a b k r,λa b k r=>Y1 N n a b k r,λa b k r=>Y2 N n a b k r,λa b k r=>Y3 N n a b k r,λa b k r=>W7 N n a b k r,λa b k r=>M5 N n a b k r,λa b k r=>M5 N n a b k r,λa b k r=>M5 N n a b k r]:Up (C1->A0->(Up A3)->Int->OS (Up (Up A3)))) p.Op).bind λy=>(y ⟨l,false⟩ p o f).bind F)=F R:=by
  intro F
  have A:∀{g:C1->A0->(Up A3)->Int->OS (Up (Up A3))} {L:Up (C1->A0->(Up A3)->Int->OS (Up (Up A3)))} {i:Int},C7 L i=some g->g ⟨l,false⟩ p o f=some R->((C7 L i).bind λy=>(y ⟨l,false⟩ p o f).bind F)=F R:=λw e2=>by rw[w];simp_all
  have X:p.Op=0\/p.Op=1\/p.Op=2\/p.Op=3\/p.Op=4\/p.Op=5\/p.Op=6\/p.Op=7:=za2
  unfold Kn at h
  rcases X with e|e|e|e|e|e|e|e<;>(rw[e]at h ⊢;exact A rfl (by simpa using h))
 simp_all
def GA {α β A B:Type}{L:Up α}{N:Nat}{step:Int->OS (Up β×(Int⊕A))}{u:A}{f:A->OS (Up β×B)}{y:B}{Q:α->β->Prop}{G:β->Prop}(hN:L.length<N)
 (C:∀(i:Nat) x,L[i]? =some x->(i:Int)<L.length->x∈L->∃w,step (i:Int)=some (w,.inl ((i:Int)+1))/\∀s,s∈w<->Q x s) (Y:step (L.length:Int)=some ([],.inr u)) (o:f u=some ([],y)) (a:∀s,(∃x∈L,Q x s)<->G s):∃W,L5 (Ap step N 0) f=some (W,y)/\∀s,s∈W<->G s:=by
 obtain⟨W,O,Z⟩:=XM hN C Y
 simp_all[L5]
def Sd {β:Type}{m:OS (Up β×Unit)}{G:β->Prop}(h:∃W,m=some (W,())/\∀s,s∈W<->G s):∃R,(m.bind λq=>some q.1)=some R/\∀s,s∈R<->G s:=by
 obtain⟨W,O,Z⟩:=h
 simp_all
def Ag8 {β A:Type}{x:β}{o:A}{P:β->Prop}(h:∀s,s=x<->P s):∃w,L5 (some ([x],())) (λ_=>some ([],o))=some (w,o)/\∀s,s∈w<->P s:=⟨[x],rfl,λs=>by rw[BK];exact h s⟩
section
variable {N:Nat}(hN:Bgn N){l:List A9}(hl:l.length<=10)
include hN hl
theorem AZ3 {o u:Up BD}{f:Int}(z:Jq l (Q7 o) f)(r:Hi l f (Q7 u)):∃c,Z7 N o u=some c/\Q7 c=mrg (Q7 o) (Q7 u):=by
 have O:=z.gd.len;have Z:=r.gd.len
 rw[E1]at O Z
 exact Uw (n:=l.length) za2 za2 za2 z.gd.asc r.gd.asc (z.apart r) z.gd.wf.ins r.gd.wf.ins
theorem AZ2 {u t:Up BD}{f g:Int}(r:Hi l f (Q7 u))(q:Hi l g (Q7 t))(hd:S9 (Q7 u) (Q7 t)):∃c,Z7 N u t=some c/\Q7 c=mrg (Q7 u) (Q7 t):=by
 have O:=r.gd.len;have Z:=q.gd.len
 rw[E1]at O Z
 exact Uw (n:=l.length) za2 za2 za2 r.gd.asc q.gd.asc hd r.gd.wf.ins q.gd.wf.ins
theorem AZ0 {u:Up BD}{f:Int}(r:Hi l f (Q7 u)):Ah N u=some (V3 (Q7 u)):=by
 have O:=r.gd.len
 rw[E1]at O
 exact Ac9 (λe=>r.ne (by rw[e];rfl)) za2
theorem Az6 {q:A0} {o:Up BD} {f:Int} {n:Nat} (p:FT q) (I:UC l.length q) (z:Jq l (Q7 o) f) (A:Be0 N n l q o f) {x5:Up BD->Int->OS (Up (Up BD))} {Qr:Up BD->Up BD->Prop}
 (B:∀u,Sm l q (Q7 o) f (Q7 u)->∀V,Q7 V=mrg (Q7 o) (Q7 u)->∃T,x5 V (V3 (Q7 u)+1)=some T/\T.length<=4096/\∀t,t∈T<->Qr u t) (g:∀u t,Sm l q (Q7 o) f (Q7 u)->Qr u t->Hi l (V3 (Q7 u)+1) (Q7 t)):
 ∃R,W6 N (n+2) ⟨l,false⟩ q o f x5=some R/\∀s,s∈R<->∃u t,Sm l q (Q7 o) f (Q7 u)/\Qr u t/\Q7 s=mrg (Q7 u) (Q7 t):=by
 obtain⟨L,O,Z,J⟩:=A;have X:=Mc p I z Z λs C=>(J s).1 C;unfold W6 AJ;refine Sd ?_;rw[O];simp only[A4];refine GA (L:=L) (u:=.inl ()) (Q:=λu s=>∃t,Qr u t/\Q7 s=mrg (Q7 u) (Q7 t)) za2 ?_ ?_ rfl ?_
 ·intro i u F U E;have b:=(J u).1 E;have r:=b.res p z;have K:=r.gd.lst r.ne;obtain⟨c,h,k⟩:=AZ3 hN hl z r;obtain⟨T,M,Y,S⟩:=B u b c k;have e:ar .add .i64 (i:Int) 1=i+1:=D4 za2 za2;rw[A2 (T3 U),E8,F];simp only[A4];rw[h,AZ0 hN hl r];simp only[A4];rw[D4 (a:=V3 (Q7 u)) za2 za2,M];simp only[A4,e];refine GA (L:=T) (u:=.inl ()) (Q:=λt s=>Q7 s=mrg (Q7 u) (Q7 t)) za2 ?_ ?_ rfl ?_
  ·intro j t D w x;have G:=(S t).1 x;have m:=g u t b G;obtain⟨d,v,y⟩:=AZ2 hN hl r m (r.seq m).2;have e:ar .add .i64 (j:Int) 1=j+1:=D4 za2 za2;rw[A2 (T3 w),E8,D];simp only[A4,L6,H7,v,e];exact Ag8 λs=>⟨λe=>by rw[e,y],λe=>Pc (e.trans y.symm)⟩
  ·rw[A1 AO]
  simp_all
 ·rw[A1 AO]
 simp_all
def mu (l:Up A9)(p:A0)(f:Nat):Nat:=p.pre.length*(l.length+2)+(l.length-f)
omit hN hl in
theorem LB {p q:A0}{f g:Nat}(h:q.pre.length<p.pre.length):mu l q g+1<=mu l p f:=by
 unfold mu;have:=G7 (l.length+2) (show q.pre.length+1<=p.pre.length from h)
 rw[E2]at this
 omega
omit hN hl in
theorem Bk4 {p:A0}{f g:Nat}(h:f<g)(a:g<=l.length):mu l p g+1<=mu l p f:=by grind[mu]
def IHk (N:Nat)(l:Up A9)(k:Nat):Prop:=∀(p:A0) (o:Up BD) (f n:Nat),mu l p f<=k->8*k+8<=n->p.pre.length<=64->FT p->UC l.length p->Jq l (Q7 o) f->Be0 N n l p o f
omit hN hl in
theorem Pp {u:Up PR}{f:Int}(r:Hi l f u)(L:0<=f):∃g:Nat,V3 u+1=(g:Int)/\g<=l.length/\f<g:=by
 have:=r.gd.lst r.ne;obtain⟨x,_,M,e⟩:=Pu r.ne;have:=r.ge x M;exact⟨(V3 u+1).toNat,za2,za2,za2⟩
theorem Av4 {p:A0}(a:FT p)(L:p.Op=0){o:Up BD}{f:Nat}(z:Jq l (Q7 o) f)(n:Nat):∃R,Kn N n ⟨l,false⟩ p o f=some R/\∀s,s∈R<->Sm l p (Q7 o) f (Q7 s):=by
 have:=z.f1;refine⟨_,by unfold Kn;rw[A2 L];exact AJ9 hN hl a.self.cond z.gd false za2,λs=>?_⟩;rw[LD,Sm.i0 L]
 constructor
 ·rintro⟨j,O,Z,J,rfl⟩;exact⟨j,za2,za2,J,rfl⟩
 rintro⟨j,O,Z,J,e⟩;exact⟨j,za2,za2,J,Pc (e.trans rfl)⟩
theorem AH0 {L:Up (Up BD)} (b:L.length<=1000000):∃R,BZ N L=some R/\∀s,s∈R<->s∈L:=by
 unfold BZ M0;refine Sd ?_;refine GA (L:=L) (u:=()) (Q:=λx s=>s=x) za2 ?_ ?_ rfl ?_
 ·intro i u a U E;have e:ar .add .i64 (i:Int) 1=i+1:=D4 za2 za2;rw[A2 (T3 U),E8,a]
  simp_all[L5]
 ·rw[A1 AO]
 simp_all
theorem Ba4 {k:Nat} (ih:IHk N l k) {p:A0} (i:FT p) (hp:p.pre.length<=64) (C:UC l.length p) (v:p.Op=1) {o:Up BD} {f:Nat} (z:Jq l (Q7 o) f) {n:Nat} (U:mu l p f<=k+1) (hn:8*k+15<=n):∃R,Kn N n ⟨l,false⟩ p o f=some R/\∀s,s∈R<->Sm l p (Q7 o) f (Q7 s):=by
 unfold Kn;rw[A1 za2,A2 v];obtain⟨n,rfl⟩:∃m,n=m+1:=⟨n-1,za2⟩;unfold Y1
 match h:p.dD with
 |[]=>exact absurd h (i.self.a1 za2 za2)
 |[q]=>
  have Q:q∈p.dD:=by rw[h];simp
  have:=LB (l:=l) (f:=f) (g:=f) (H9 Q);obtain⟨L,O,Z,J⟩:=ih q o f n za2 za2 (by have:=H9 Q;omega) (i.arg Q) (C.arg Q) z;have X:=Mc (i.arg Q) (C.arg Q) z Z λs C=>(J s).1 C;obtain⟨R,F,G⟩:=AH0 hN hl (L:=L) za2;rw[A2 (show cmp .eql (Ar.len [q]) 1=true from rfl),Rx];simp only[A4];rw[O];simp only[A4];rw[F];exact⟨R,rfl,λs=>(G s).trans ((J s).trans (Sm.i1 v h).symm)⟩
 | q::d::r=>
  have Q:q∈p.dD:=by rw[h];simp
  have y:FT {p with dD:=d::r}:=i.sub za2 za2 (λx M=>by rw[h];simp_all) za4;have V:UC l.length {p with dD:=d::r}:=C.tail h;rw[A1 (by rw[F5,B4];simp;omega),UL,Rx];simp only[A4];obtain⟨n,rfl⟩:∃m,n=m+2:=⟨n-2,za2⟩;have m1:=LB (l:=l) (f:=f) (g:=f) (H9 Q)
  obtain⟨R,O,Z⟩:=Az6 hN hl (i.arg Q) (C.arg Q) z (ih q o f n za2 za2 (by have:=H9 Q;omega) (i.arg Q) (C.arg Q) z) (x5:=λy1 y2=>R7 N (n+2) y1 y2 ⟨l,false⟩ {p with dD:=d::r})
   (Qr:=λu t=>Sm l {p with dD:=d::r} (mrg (Q7 o) (Q7 u)) (V3 (Q7 u)+1) (Q7 t)) (λu w B E=>by
    have D:=w.res (i.arg Q) z;obtain⟨g,A,S,I⟩:=Pp D z.f0
    have K:Jq l (Q7 B) (g:Int):=by rw[E,<-A];exact z.next D
    have m2:=LB (l:=l) (f:=f) (g:=g) (Pd h);obtain⟨T,Y,t2,t3⟩:=ih {p with dD:=d::r} B g (n+1) za2 za2 (by have:=Pd h;omega) y V K;have X:=Mc y V K t2 λs C=>(t3 s).1 C;refine⟨T,?_,za2,λt=>?_⟩
    ·unfold R7;rw[A,Y];rfl
    simp_all) (λu t w j=>j.res y (z.next (w.res (i.arg Q) z)))
  rw[O];refine⟨R,rfl,λs=>(Z s).trans ?_⟩;rw[Sm.i1c v h]
  constructor
  ·grind
  rintro⟨u,t,a,b,c⟩;exact⟨u.map QY,t.map QY,by rw[AQ];exact a,by simp only[AQ];exact b,by rw[AQ,AQ];exact c⟩
end
end
end Go.Ab
namespace Go.Ab
open Classical
noncomputable section
section
variable {N:Nat}(hN:Bgn N){l:List A9}(hl:l.length<=10)
include hN hl
theorem Ba5 {k:Nat} (ih:IHk N l k) {p:A0} (r:FT p) (d:p.pre.length<=64) (C:UC l.length p) (h:p.Op=2) {o:Up BD} {f:Nat} (z:Jq l (Q7 o) f) {n:Nat} (V:mu l p f<=k+1) (c:8*k+15<=n):∃R,Kn N n ⟨l,false⟩ p o f=some R/\∀s,s∈R<->Sm l p (Q7 o) f (Q7 s):=by
 unfold Kn;rw[A1 za2,A1 za2,A2 h];obtain⟨n,rfl⟩:∃m,n=m+2:=⟨n-2,za2⟩;unfold Y2 AY;have y:=X7 p;refine Sd ?_;refine GA (L:=p.dD) (u:=()) (Q:=λq s=>Sm l q (Q7 o) f (Q7 s)) za2 ?_ ?_ rfl ?_
 ·intro i q b U a;have:=LB (l:=l) (f:=f) (g:=f) (H9 a);obtain⟨L,O,Z,J⟩:=ih q o f n za2 za2 (by have:=H9 a;omega) (r.arg a) (C.arg a) z;have X:=Mc (r.arg a) (C.arg a) z Z λs C=>(J s).1 C;have e:ar .add .i64 (i:Int) 1=i+1:=D4 za2 za2;rw[A2 (T3 U),E8,b];simp only[A4,e];rw[O];simp only[A4];refine GA (L:=L) (u:=()) (Q:=λx s=>s=x) za2 ?_ ?_ rfl ?_
  ·intro j u b K E;have e:ar .add .i64 (j:Int) 1=j+1:=D4 za2 za2;rw[A2 (T3 K),E8,b]
   simp_all[L5]
  ·rw[A1 AO]
  simp_all
 ·rw[A1 AO]
 intro s;exact(Sm.i2 h).symm
theorem AO2 {k:Nat} (ih:IHk N l k) {p:A0} (b:FT p) (v:p.pre.length<=64) (C:UC l.length p) (r:5<=p.Op) {o:Up BD} {f:Nat} (z:Jq l (Q7 o) f) {n:Nat} (V:mu l p f<=k+1) (d:8*k+15<=n):∃R,Kn N n ⟨l,false⟩ p o f=some R/\∀s,s∈R<->Sm l p (Q7 o) f (Q7 s):=by
 unfold Kn;rw[A1 za2,A1 za2,A1 za2,A1 za2,A1 za2];obtain⟨n,rfl⟩:∃m,n=m+2:=⟨n-2,za2⟩;unfold M5 AK;obtain⟨q,T⟩:=b.self.a2 za2;have h:=b.self.op
 have a:q∈p.dD:=by rw[T];simp
 have:=LB (l:=l) (f:=f) (g:=f) (H9 a);obtain⟨L,O,Z,J⟩:=ih q o f n za2 za2 (by have:=H9 a;omega) (b.arg a) (C.arg a) z;have X:=Mc (b.arg a) (C.arg a) z Z λs C=>(J s).1 C;refine Sd ?_;rw[T,Rx];simp only[A4];rw[O];simp only[A4];refine GA (L:=L) (u:=()) (Q:=λx s=>Fx l p (Q7 o) (Q7 x)=true/\s=x) za2 ?_ ?_ rfl ?_
 ·intro j u c y E;have i:=((J u).1 E).res (b.arg a) z;have e:ar .add .i64 (j:Int) 1=j+1:=D4 za2 za2;rw[A2 (T3 y),E8,c];simp only[A4,e];rw[AI3 hN hl b.self.cond ⟨r,h.2⟩ z.gd i.gd (λe=>i.ne (by rw[e];rfl)) (z.apart i)];simp only[A4]
  by_cases K:Fx l p (Q7 o) (Q7 u)=true
  ·rw[A2 K]
   simp_all[L5]
  simp_all
 ·rw[A1 AO]
 intro s;rw[Sm.i5 r h.2 T]
 simp_all
theorem AO3 {k:Nat} (ih:IHk N l k) {p:A0} (i:FT p) (hp:p.pre.length<=64) (C:UC l.length p) (D:p.Op=4) {o:Up BD} {f:Nat} (z:Jq l (Q7 o) f) {n:Nat} (aa:mu l p f<=k+1) (hn:8*k+15<=n):∃R,Kn N n ⟨l,false⟩ p o f=some R/\∀s,s∈R<->Sm l p (Q7 o) f (Q7 s):=by
 unfold Kn;rw[A1 za2,A1 za2,A1 za2,A1 za2,A2 D];obtain⟨n,rfl⟩:∃m,n=m+2:=⟨n-2,za2⟩;unfold W7 AL;obtain⟨q,K⟩:=i.self.a2 za2
 have h:q∈p.dD:=by rw[K];simp
 have m1:=LB (l:=l) (f:=f) (g:=f) (H9 h);obtain⟨L,O,Z,J⟩:=ih q o f n za2 za2 (by have:=H9 h;omega) (i.arg h) (C.arg h) z;have X:=Mc (i.arg h) (C.arg h) z Z λs C=>(J s).1 C
 have U:C7 p.dD 0=some q:=by rw[K];rfl
 rw[U];simp only[A4];rw[O];simp only[A4];obtain⟨n,rfl⟩:∃m,n=m+2:=⟨n-2,za2⟩
 obtain⟨R,r1,v⟩:=Az6 hN hl (i.arg h) (C.arg h) z (ih q o f n za2 za2 (by have:=H9 h;omega) (i.arg h) (C.arg h) z) (x5:=λy1 y2=>N9 N (n+2) y1 y2 ⟨l,false⟩ p)
  (Qr:=λu t=>Sm l p (mrg (Q7 o) (Q7 u)) (V3 (Q7 u)+1) (Q7 t)) (λu y G S=>by
   have I:=y.res (i.arg h) z;obtain⟨g,F,d,Y⟩:=Pp I z.f0
   have r:Jq l (Q7 G) (g:Int):=by rw[S,<-F];exact z.next I
   have m2:=Bk4 (p:=p) (show f<g by omega) d;obtain⟨T,t1,t2,t3⟩:=ih p G g (n+1) za2 za2 hp i C r;have X:=Mc i C r t2 λs C=>(t3 s).1 C;refine⟨T,?_,za2,λt=>?_⟩
   ·unfold N9;rw[F,t1];rfl
   simp_all) (λu t y ht=>ht.res i (z.next (y.res (i.arg h) z)))
 obtain ⟨W, w1,w2⟩:=XM (L:=L) (N:=N) (A:=Unit⊕Unit) (u:=.inl ()) (Q:=λx s=>s=x) (step:=λ(w:Int)=>
         (
          if cmp .lss w (Ar.len L)=true then
           (C7 L w).bind λx9=>
           if(⟨l,false⟩:C1).full=true then
            some ([],.inr (.inr ()))
           else
            L5 (some ([x9],())) λ_=>
            some ([],.inl (ar .add .i64 w 1))
          else
           some ([],.inr (.inl ()))
          :OS (Up (Up A3)×((Int)⊕(Unit⊕Unit))))) za2 (λj u y hj E=>by
  have e:ar .add .i64 (j:Int) 1=j+1:=D4 za2 za2;rw[A2 (T3 hj),E8,y]
  simp_all[L5]) (by rw[A1 AO])
 obtain ⟨V,v1,v2⟩:=Vq (L:=R) (R:=Unit) (Q:=λx s=>s=x) (body:=λ(_:Unit) (B:(Up A3))=>
         (
          L5 (some ([B],())) λ_=>
          some ([],.inl ())
          :OS (Up (Up A3)×(Unit⊕Unit)))) λx M=>Ag8 λs=>Iff.rfl
 refine⟨W++(V++[]),?_,λs=>?_⟩
 ·refine(G2 (λm:OS (Up (Up BD)×Unit)=>m.bind λq=>some q.1) (UJ (o:=()) (w':=V++[]) w1 ?_)).trans rfl
  dsimp only
  rw[r1]
  simp_all[L5]
 rw[E5,Cp,w2,v2,Sm.i4 D K];refine or_congr ?_ ?_
 ·simp_all
 constructor
 ·grind
 rintro⟨u,t,a,b,c⟩;exact⟨s,(v s).2 ⟨u.map QY,t.map QY,by rw[AQ];exact a,by simp only[AQ];exact b,by rw[AQ,AQ];exact c⟩,rfl⟩
def MxQ:Up (Up (Up BD))->Up PR->Up PR->Prop
 |[],w,s=>s=w
 |L::r,w,s=>∃u∈L,S9 w (Q7 u)/\MxQ r (mrg w (Q7 u)) s
omit hN hl in
theorem MxQ.snoc:∀{P:Up (Up (Up BD))} {L:Up (Up BD)} {w s:Up PR},MxQ (P++[L]) w s<->∃t,MxQ P w t/\∃u∈L,S9 t (Q7 u)/\s=mrg t (Q7 u)
 |[],L,w,s=>by simp[MxQ]
 |M::P,L,w,s=>by
  show(∃u∈M,S9 w (Q7 u)/\MxQ (P++[L]) (mrg w (Q7 u)) s)<->_
  constructor
  ·rintro⟨u,a,T,h⟩;obtain⟨t,j,h⟩:=MxQ.snoc.1 h;exact⟨t,⟨u,a,T,j⟩,h⟩
  rintro⟨t,⟨u,a,T,j⟩,h⟩;exact⟨u,a,T,MxQ.snoc.2 ⟨t,j,h⟩⟩
theorem Ai1 {f:Int}:∀{P:Up (Up (Up BD))} {w:Up BD} {n:Nat},P.length<n->(∀L∈P,L.length<=4096/\∀u∈L,Hi l f (Q7 u))->Gd l (Q7 w)->∃R,BO N n P w=some R/\∀s,s∈R<->MxQ P (Q7 w) (Q7 s)
 |[],w,n,j,_,_=>by
  obtain⟨n,rfl⟩:∃m,n=m+1:=⟨n-1,za2⟩;unfold BO;refine⟨[w],by rw[A2 (show cmp .eql (Ar.len ([]:List (List (List BD)))) 0=true from rfl)];rfl,λs=>?_⟩;rw[BK];exact⟨λe=>by rw[e];rfl,λe=>Pc e⟩
 | L::P,w,n,j,K,a=>by
  obtain⟨n,rfl⟩:∃m,n=m+1:=⟨n-1,za2⟩;unfold BO;have x:=a.len
  rw[E1]at x
  obtain⟨d,k⟩:=K L za4;refine Sd ?_;rw[A1 (by rw[F5,B4];simp;omega),Rx];simp only[A4];refine GA (L:=L) (u:=()) (Q:=λu s=>S9 (Q7 w) (Q7 u)/\MxQ P (mrg (Q7 w) (Q7 u)) (Q7 s)) za2 ?_ ?_ rfl ?_
  ·intro i u b U E;have g:=k u E;have r:=g.gd.len
   rw[E1]at r
   have e:ar .add .i64 (i:Int) 1=i+1:=D4 za2 za2;rw[A2 (T3 U),E8,b];simp only[A4,e];rw[AH9 hN za2 za2,UL];simp only[A4]
   by_cases T:S9 (Q7 w) (Q7 u)
   ·rw[W0.2 T,A2 (show nt false=true from rfl)];obtain⟨c,V,y⟩:=Uw (N:=N) (n:=l.length) za2 za2 za2 a.asc g.gd.asc T a.wf.ins g.gd.wf.ins;obtain⟨R,o,v⟩:=Ai1 (P:=P) (w:=c) (n:=n) za8 (λL k=>K L (by simp[k])) (by rw[y];exact a.mrg g.gd T);rw[V];simp only[A4];rw[o];refine⟨R++[],UJ rfl rfl,λs=>?_⟩;rw[E5,v,y]
    simp_all
   have:Ai (Q7 w) (Q7 u)=true:=by
    cases h:Ai (Q7 w) (Q7 u)with
    |true=>rfl
    |false=>exact absurd (W0.1 h) T
   rw[this,A1 (show¬nt true=true by decide)]
   simp_all
  ·rw[A1 AO]
  intro s
  constructor
  ·rintro⟨u,b,T,h⟩;exact⟨u,b,T,h⟩
  rintro⟨u,b,T,h⟩;grind
omit hN hl in
theorem Bu8 {G:A0->Up (Up BD)} {b:Up PR} {f:Int}:∀(n:Nat) {r:Up A0} {p:A0},r.length<=n->p.Op=3->p.dD=r->r≠[]->(∀q∈r,∀s,s∈G q<->Sm l q b f (Q7 s))->∀s,MxQ (r.map G) [] s<->Sm l p b f s:=by
 intro n
 induction n with
 |zero=>simp_all
 | succ n ih=>
  intro r p k L T y a s
  rcases Gy r with rfl|⟨m,q,rfl⟩
  ·simp_all
  rw[Gx]at *
  rw[P9,D9,I0,MxQ.snoc]
  by_cases E:m=[]
  ·subst E;rw[Sm.i3 L T]
   constructor
   ·rintro⟨t,j,u,i,_,e⟩;have j:t=[]:=j;rw[e,j,ED]
    simp_all
   intro h;refine⟨[],rfl,s.map QY,(a q za4 _).2 (by rw[AQ];exact h),λx M=>absurd M Cq,?_⟩;rw[AQ,ED]
  rw[Sm.i3c L T E];have g:=λt=>ih (r:=m) (p:={p with dD:=m}) za8 L rfl E (λq Q=>a q (by simp[Q])) t
  constructor
  ·grind
  rintro⟨t,u,j,i,hd,e⟩;exact⟨t,(g t).2 j,u.map QY,(a q za4 _).2 (by rw[AQ];exact i),by rw[AQ];exact hd,by rw[AQ];exact e⟩
theorem Ba6 {k:Nat} (ih:IHk N l k) {p:A0} (h:FT p) (hp:p.pre.length<=64) (C:UC l.length p) (c:p.Op=3) {o:Up BD} {f:Nat} (z:Jq l (Q7 o) f) {n:Nat} (D:mu l p f<=k+1) (Y:8*k+15<=n):∃R,Kn N n ⟨l,false⟩ p o f=some R/\∀s,s∈R<->Sm l p (Q7 o) f (Q7 s):=by
 unfold Kn;rw[A1 za2,A1 za2,A1 za2,A2 c];obtain⟨n,rfl⟩:∃m,n=m+2:=⟨n-2,za2⟩;unfold Y3 AZ;have B:=X7 p
 let G:A0->Up (Up BD):=λq=>(G6 N n ⟨l,false⟩ q o f).getD []
 have r:∀q∈p.dD,G6 N n ⟨l,false⟩ q o f=some (G q)/\(∀s,s∈G q<->Sm l q (Q7 o) f (Q7 s))/\(G q).length<=1500:=λq Q=>by
  have:=LB (l:=l) (f:=f) (g:=f) (H9 Q);obtain⟨L,O,Z,J⟩:=ih q o f n za2 za2 (by have:=H9 Q;omega) (h.arg Q) (C.arg Q) z;have X:=Mc (h.arg Q) (C.arg Q) z Z λs C=>(J s).1 C
  have e:G q=L:=za7
  simp_all
 have key:∀(k i M:Nat) (a:Up (Up (Up BD))),i+k=p.dD.length->k<M->a.length<=i->Ap (λ(I:(Up (Up (Up A3)))×Int)=>
  (
   if cmp .lss I.2 (Ar.len p.dD)=true then
    (C7 p.dD I.2).bind λT=>
    (G6 N n ⟨l,false⟩ T o f).bind λS=>
    (V7 I.1 ([S])).bind λV=>
    some ([],.inl (V,ar .add .i64 I.2 1))
   else
    some ([],.inr I.1)
   :OS (Up (Up A3)×(((Up (Up (Up A3)))×Int)⊕(((Up (Up (Up A3))))))))) M (a,(i:Int))=some ([],a++(p.dD.drop i).map G):=by
  intro k
  induction k with
  |zero=>
   intro i M a U A _;obtain⟨M,rfl⟩:∃m,M=m+1:=⟨M-1,za2⟩;rw[BM za2];unfold Ap
   dsimp only
   rw[A1 (Q6 (by rw[B4];omega))];simp
  |succ k K=>
   intro i M a U A d;obtain⟨M,rfl⟩:∃m,M=m+1:=⟨M-1,za2⟩
   have b:i<p.dD.length:=za2
   have e:ar .add .i64 (i:Int) 1=i+1:=D4 za2 za2;rw[M4 b];unfold Ap
   dsimp only
   rw[A2 (T3 za2),E8,C8 b];simp only[A4];rw[(r _ (F4 b)).1];simp only[A4];rw[AW za6];simp only[A4,e];rw[show((i:Int)+1)=((i+1:Nat):Int) by omega,K (i+1) M _ za2 za2 za6,D9,D2];rfl
 have x:=key p.dD.length 0 N [] za2 za2 za4
 simp only[Nz,I1]at x
 have y:((0:Nat):Int)=0:=rfl
 rw[y]at x
 obtain⟨R,F,v⟩:=Ai1 hN hl (f:=f) (P:=p.dD.map G) (w:=[]) (n:=N) za6 (λL j=>by
  obtain⟨q,Q,rfl⟩:=List.mem_map.1 j;obtain⟨_,Z,J⟩:=r q Q
  exact⟨za2,λu E=>((Z u).1 E).res (h.arg Q) z⟩) (Gd.nil l)
 refine Sd ⟨[]++(R++[]),UJ x ?_,λs=>?_⟩
 ·rw[A2 (show nt (⟨l,false⟩:C1).full=true from rfl),F];simp[L5]
 rw[I1,E5,v];exact Bu8 _ (B1 _) c rfl (h.self.a1 za2 za2) (λq Q=>(r q Q).2.1) _
theorem AK3:∀k,IHk N l k:=by
 intro k
 induction k with
 |zero=>
  intro p o f n a;exfalso;have O:=A0.pre_eq p
  have:1<=p.pre.length:=by rw[O];simp
  simp_all[mu]
 | succ k ih=>
  intro p o f n a x g b C z;obtain⟨n,rfl⟩:∃m,n=m+1:=⟨n-1,za2⟩;have r:=b.self.op
  have i:∃R,Kn N n ⟨l,false⟩ p o f=some R/\∀s,s∈R<->Sm l p (Q7 o) f (Q7 s):=by
   by_cases L:p.Op=0
   ·exact Av4 hN hl b L z n
   by_cases O:p.Op=1
   ·exact Ba4 hN hl ih b g C O z a za2
   by_cases Z:p.Op=2
   ·exact Ba5 hN hl ih b g C Z z a za2
   by_cases J:p.Op=3
   ·exact Ba6 hN hl ih b g C J z a za2
   by_cases h:p.Op=4
   ·exact AO3 hN hl ih b g C h z a za2
   exact AO2 hN hl ih b g C za2 z a za2
  obtain⟨R,O,Z⟩:=i;exact Bs9 hN hl b C z O Z
end
end
end Go.Ab
