/- . -/
import Derived.Test.YtaoapcidgbaagaaGreatDoorM01
import Derived.MapKept
import Derived.RangeFuncRecord
import Derived.Laws.BytesString
import Derived.Maps.RangeRun
import Derived.OrdersIn
import Derived.RangeFuncNested
set_option linter.all false
namespace Go.Ab
open Go.RowKit Go.MapKept
variable [O7]
variable{a:SI MapEntry}{g:Gh}{j:Nat}{m:Up (V×V)}{ok:Bool}{t:Do}{u:HO}{w:Is}{x:V}{y:By}
def PL:V->OS HO
 | .bool b=>some (.bool b)
 | .int k n=>some (.int k n)
 | .str s=>some (.string s)
 |_=>none
def NJ:Up V->OS (Up HO)
 |[]=>some []
 |x::l=>match PL x,NJ l with|some v,some r=>some (v::r)|_,_=>none
def DJ:V->OS HO
 | .agg cs=>(NJ cs).map λl=>.agg l.toArray
 |v=>PL v
theorem At3{v:HO}(h:PL x=some u)(j:VR g w v x):v=u:=by
 cases x<;>simp only[PL,E5,reduceCtorEq]at h<;>subst h<;>cases j<;>rfl
theorem At2(h:PL x=some u):VR g w u x:=by
 cases x<;>simp only[PL,E5,reduceCtorEq]at h<;>subst h<;>constructor
def Bt4(h:PL x=some u):u.oneCell'=true:=by
 cases x<;>simp only[PL,E5,reduceCtorEq]at h<;>subst h<;>rfl
theorem At4{y:V}(h:PL x=some u)(a:PL y=some u):x=y:=by
 cases x<;>simp only[PL,E5,reduceCtorEq]at h<;>subst h<;>cases y<;>simp_all[PL]
def Xv:∀{l:Up V} {r:Up HO},NJ l=some r->r.length=l.length
 |[],r,h=>by simp_all[NJ]
 |x::l,r,h=>by
  unfold NJ at h
  split at h
  ·rename_i v a O Z;cases h;simp[Xv Z]
  cases h
def Wn:∀{l:Up V} {r:Up HO},NJ l=some r->∀i,i<l.length->PL (l.getD i .bad)=some (r.getD i undef)
 |[],r,h,i,U=>by simp at U
 | x::l,r,h,i,U=>by
  unfold NJ at h
  split at h
  ·rename_i v a O Z;cases h
   cases i with
   |zero=>grind
   |succ i=>simpa using Wn Z i Pw
  cases h
def Xu(h:DJ x=some u):VR g w u x:=by
 unfold DJ at h
 split at h
 ·rename_i cs
  cases a:NJ cs with
  |none=>rw[a]at h;cases h
  |some r=>
   rw[a]at h
   simp only[K1,E5]at h
   subst h;have e:=Xv a;refine .agg (by simp[e]) (λi U=>?_) λi U=>?_
   ·have:=Bt4 (Wn a i U);simp_all
   have:=At2 (g:=g) (w:=w) (Wn a i U);simp_all
 grind[At2]
def PJ{v:HO}(h:DJ x=some u)(j:VR g w v x):v=u:=by
 unfold DJ at h
 split at h
 ·rename_i cs
  cases b:NJ cs with
  |none=>rw[b]at h;cases h
  | some r=>
   rw[b]at h
   simp only[K1,E5]at h
   subst h;have e:=Xv b
   cases j with
   |agg B O j=>
    rename_i vs
    congr 1
    apply Jd
    ·simp[B,e]
    intro i U k
    have a:i<cs.length:=AY
    have:=At3 (Wn b i a) (j i a)
    simp_all
 grind[At3]
def OD (a:SI MapEntry)(clock:Nat):Prop:=(∀x∈a.toList,x.born<clock)/\(a.toList.map (·.born)).Nodup
def OD.empty:OD #[] 0:=⟨λx h=>by simp at h,OC⟩
def OD.push {a:SI MapEntry}{clock:Nat}(h:OD a clock)(k v:HO):OD (a.push {key:=k,val:=v,born:=clock}) (clock+1):=by
 grind[OD]
def OD.modify {a:SI MapEntry} {clock:Nat} (h:OD a clock) (i:Nat) (k v:HO):OD (a.modify i λe=>{e with key:=k,val:=v}) clock:=by
 have W:(a.modify i λe=>{e with key:=k,val:=v}).toList.map (·.born)=a.toList.map (·.born):=by
  apply CX
  grind
 refine⟨λx M=>?_,by rw[W];exact h.2⟩
 have:x.born∈a.toList.map (·.born):=by rw[<-W];grind
 grind[OD]
def OD.sub{b:SI MapEntry}{clock:Nat}(h:OD b clock)(G:a.toList.Sublist b.toList):OD a clock:=⟨λx M=>h.1 x (G.subset M),(G.map _).nodup h.2⟩
theorem At6:∀{l a:Up V} {r:Up HO},NJ l=some r->NJ a=some r->l=a
 |[],a,r,h,b=>by
  simp only[NJ,E5]at h;subst h
  cases a with
  |nil=>rfl
  |cons x l=>grind[NJ]
 | x::l,a,r,h,b=>by
  unfold NJ at h
  split at h
  ·rename_i v k O Z;cases h
   cases a with
   |nil=>cases b
   |cons y a=>
    unfold NJ at b
    split at b
    ·rename_i w n e i;cases b;rw[At4 O e,At6 Z i]
    cases b
  cases h
theorem At5(h:PL x=some u)(c:SI HO):u≠ .agg c:=by
 cases x<;>simp only[PL,E5,reduceCtorEq]at h<;>subst h<;>simp
def RD(h:DJ x=some u):(∃cs r,x= .agg cs/\NJ cs=some r/\u= .agg r.toArray)\/PL x=some u:=by
 unfold DJ at h
 split at h
 ·rename_i cs
  cases a:NJ cs with
  |none=>rw[a]at h;cases h
  |some r=>rw[a]at h;simp_all
 grind
def At1{y:V}(h:DJ x=some u)(i:DJ y=some u):x=y:=by
 rcases RD h with⟨a,r,rfl,O,rfl⟩|O
 ·rcases RD i with⟨b,r2,rfl,Z,e⟩|Z
  ·have:r=r2:=Pw
   grind[At6]
  grind[At5]
 rcases RD i with⟨b,r2,rfl,Z,rfl⟩|Z
 ·grind[At5]
 grind[At4]
def IP:TypeDesc->HO->Prop
 | .array n _,v=>Sk .i64 n v
 | .struct fs,v=>Sk .i64 fs.size v
 |d,v=>IsKey d v
structure DH (d:TypeDesc) (o:Obj) (m:List (V×V)):Prop where
 ex:∃es clock,o= .map es clock/\es.toList.map (λe=>(some e.key,some e.val))=m.map λp=>(DJ p.1,DJ p.2)
 keys:∀p∈m,∃k,DJ p.1=some k/\IP d k
 nodup:(m.map (·.1)).Nodup
 st:∀es clock,o= .map es clock->OD es clock
def DH.empty (d:TypeDesc):DH d (.map #[] 0) []:=⟨⟨_,_,rfl,rfl⟩,λp h=>(by cases h),List.nodup_nil,λa clock h=>by simp_all[OD]⟩
theorem QE{α:Type}{l:Up α}(h:l.Nodup){i:Nat}(U:i<l.length)(z:j<l.length)(e:l[i]=l[j]):i=j:=by
 have h:=List.pairwise_iff_getElem.1 h
 grind
def BV0 (P:If)(et:Do)(m:Up (V×V))(key:V)(ok:Bool)(v:V):Prop:=
 ((∀p∈m,p.1≠key)/\∃z,Lr P et=some z/\v=if ok=true then .tup [z,.bool false]else z)\/∃y,(key,y)∈m/\v=if ok=true then .tup [y,.bool true]else y
def BN0 (P:If)(H:A5)(t:Do)(x key:V)(ok:Bool)(v:V):Prop:=
 ∃kt et d a id o m,P.underlying t=some (.map kt et)/\KG P kt (IP d)/\DJ key=some a/\IP d a/\x= .map id/\H id=some (.obj o)/\DH d o m/\BV0 P et m key ok v
def AX7 (P:If)(t:Do)(x key:V)(ok:Bool)(v:V):Prop:=
 ∃kt et a xs n,P.underlying t=some (.map kt et)/\P.underlying kt=some (.int .i64)/\x= .fmap a xs/\key= .int .i64 n/\ok=false/\((∃i:Nat,a[i]? =some n/\v=xs.getD i .bad)\/((∀k∈a,k≠n)/\Lr P et=some v))
def AX6 (P:If) (H:A5) (t:Do) (x key:V) (ok:Bool) (v:V):Prop:=
 ∃kt et G b id a xs,P.underlying t=some (.map kt et)/\KG P kt G/\DJ key=some b/\G b/\x= .map id/\H id=some (.vm a xs)/\(∀k∈a,G k)/\
  (((∀k∈a,k≠b)/\∃z e,Lr P et=some z/\DI z e/\v=if ok=true then .tup [e,.bool false]else e)\/∃i:Nat,a[i]? =some b/\v=if ok=true then .tup [xs.getD i .bad,.bool true]else xs.getD i .bad)
def QI (P:If)(H:A5)(t:Do)(x key:V)(ok:Bool)(v:V):Prop:=BN0 P H t x key ok v\/AX7 P t x key ok v\/AX6 P H t x key ok v
def Bx0 (H:A5)(K:V->A5->Prop):Prop:=(∀id,H id=none->K (.map id) (upd H id (some (.obj (.map #[] 0)))))\/(∀id,H id=none->K (.map id) (upd H id (some (.fm [] []))))\/∀id,H id=none->K (.map id) (upd H id (some (.vm [] [])))
def AS3 (P:If)(H:A5)(K:V->A5->Prop)(t:Do)(x key b:V):Prop:=
 ∃kt et a xs n id,P.underlying t=some (.map kt et)/\P.underlying kt=some (.int .i64)/\x= .map id/\H id=some (.fm a xs)/\key= .int .i64 n/\(∀k∈a,k≠n)/\K .bad (upd H id (some (.fm (a++[n]) (xs++[b]))))
def Cc6 (m:Up (V×V))(k v:V)(e:Up (V×V)):Prop:=
 ((∀p∈m,p.1≠k)/\e=m++[(k,v)])\/∃a y b,m=a++(k,y)::b/\e=a++(k,v)::b
def BH0 (P:If) (H:A5) (K:V->A5->Prop) (t:Do) (x key a:V):Prop:=
 ∃kt et d b h id o m e,P.underlying t=some (.map kt et)/\KG P kt (IP d)/\DJ key=some b/\IP d b/\DJ a=some h/\x= .map id/\H id=some (.obj o)/\DH d o m/\Cc6 m key a e/\
  ∀o',DH d o' e->K .bad (upd H id (some (.obj o')))
def AS2 (P:If) (H:A5) (K:V->A5->Prop) (t:Do) (x key e:V):Prop:=
 ∃kt et G b id a xs,P.underlying t=some (.map kt et)/\KG P kt G/\DJ key=some b/\G b/\x= .map id/\H id=some (.vm a xs)/\(∀k∈a,G k)/\
  (((∀k∈a,k≠b)/\K .bad (upd H id (some (.vm (a++[b]) (xs++[e])))))\/∃i:Nat,a[i]? =some b/\K .bad (upd H id (some (.vm a (xs.set i e)))))
def Qx (P:If)(H:A5)(K:V->A5->Prop)(t:Do)(x key a:V):Prop:=BH0 P H K t x key a\/AS3 P H K t x key a\/AS2 P H K t x key a
def Bi3{H:A5}{K K':V->A5->Prop}(h:Bx0 H K)(S:∀v H',K v H'->K' v H'):Bx0 H K':=h.imp (λh id a=>S _ _ (h id a)) λh=>h.imp (λh id a=>S _ _ (h id a)) λh id a=>S _ _ (h id a)
theorem Ko{P:If}{H:A5}{K N:V->A5->Prop}{key val:V}(h:Qx P H K t x key val)(S:∀H',K .bad H'->N .bad H'):Qx P H N t x key val:=by
 rcases h with⟨kt,et,d,y,j,id,o,m,g,O,Z,e,k,l,r,v,c,f,h⟩|⟨kt,et,w,xs,n,id,O,Z,e,k,l,r,h⟩|⟨kt,et,G,y,id,w,xs,O,Z,e,k,l,r,v,h⟩
 ·exact .inl ⟨kt,et,d,y,j,id,o,m,g,O,Z,e,k,l,r,v,c,f,λo' X=>S _ (h o' X)⟩
 ·exact .inr (.inl ⟨kt,et,w,xs,n,id,O,Z,e,k,l,r,S _ h⟩)
 exact .inr (.inr ⟨kt,et,G,y,id,w,xs,O,Z,e,k,l,r,v,h.imp (λh=>⟨h.1,S _ h.2⟩) λ⟨i,a,b⟩=>⟨i,a,S _ b⟩⟩)
def Ak1{P:If}{H H':A5}{key v:V}(B:∀id b,H id=some b->H' id=some b)(h:QI P H t x key ok v):QI P H' t x key ok v:=by
 rcases h with⟨kt,et,d,n,id,o,m,O,Z,a,e,i,k,l⟩|h|⟨kt,et,G,n,id,r,xs,O,Z,a,e,i,k,l⟩
 ·exact .inl ⟨kt,et,d,n,id,o,m,O,Z,a,e,i,B _ _ k,l⟩
 ·simp_all[QI]
 exact .inr (.inr ⟨kt,et,G,n,id,r,xs,O,Z,a,e,i,B _ _ k,l⟩)
theorem DH.entry{d:TypeDesc}(R:a.toList.map (λe=>(some e.key,some e.val))=m.map λp=>(DJ p.1,DJ p.2))(j:Nat):
 (∀e,a[j]? =some e->∃p,m[j]? =some p/\DJ p.1=some e.key/\DJ p.2=some e.val)/\∀p,m[j]? =some p->∃e,a[j]? =some e/\DJ p.1=some e.key/\DJ p.2=some e.val:=by
 have:=J8 (λl=>l[j]?) R
 grind
def DH.isKeys{d:TypeDesc}(R:a.toList.map (λe=>(some e.key,some e.val))=m.map λp=>(DJ p.1,DJ p.2))(S:∀p∈m,∃k,DJ p.1=some k/\IP d k):∀e∈a.toList,IP d e.key:=by
 intro e h;have⟨j,z,t⟩:=R4 h;have⟨p,O,Z,_⟩:=(DH.entry (d:=d) R j).1 e (by rw[<-EP,D9 z,t]);have⟨k,b,i⟩:=S p (K4 O)
 rw[Z]at b;simp_all
def Qq{b:Nat}{o o':Obj}(m:w.heap[b]? =some o)(d:Obj.isCells o=false)(a:Obj.isCells o'=false)(x i:Nat):(w.putObj b o').cell? ⟨x,i,none⟩=w.cell? ⟨x,i,none⟩:=by
 by_cases h:x=b
 ·subst h;have O:=World.putObj_heap_same (w:=w) (o:=o') (Aj7 m);simp only[World.cell?,O,m];cases o<;>cases o'<;>simp_all[Obj.isCells]
 grind[World.cell?_of_block,World.putObj_heap_other]
def Rl.putObj {g:Gh} {H:A5} {w:Is} (h:Rl g H w) {id b:Nat} {o o':Obj} (S:H id=some (.obj o)) (W:g.mu id=some b) (r:Obj.isCells o'=false):
 Al g w g (w.putObj b o')/\Rl g (upd H id (some (.obj o'))) (w.putObj b o'):=by
 have⟨b',O,Z,c,d⟩:=h.blk id _ S
 have e:b'=b:=by rw[W]at O;simp_all
 subst e;have a:=Qq (o':=o') c d r
 have s:Al g w g (w.putObj b' o'):=by
  exact zac
 have l:∀x,g.at (upd H id (some (.obj o'))) x=g.at H x:=by
  exact Px
 have N:g.at H id=some b':=by simp_all[Gh.at]
 refine⟨s,λx k M=>?_,λx x' y O Z=>h.inj x x' y (l x▸O) (l x'▸Z),λy o q=>?_,λx M=>?_,?_,λn=>(h.glb n).mono s⟩
 ·by_cases i:x=id
  ·subst i;rw[E7]at M;cases M
   exact⟨b',W,Z,World.putObj_heap_same (Aj7 c),r⟩
  rw[C8 _ _ i]at M
  refine(h.blk x k M).mono M s λy I=>⟨World.putObj_heap_other λe=>?_,λ_ X=>X⟩;subst e;exact i (h.inj _ _ _ I N)
 ·have⟨v,j⟩:=h.frz y o q
  simp_all
 ·have⟨m,p,t⟩:=h.nxt x M
  have f:x≠id:=λe=>TQ
  simp_all[upd]
 have:=h.bnd;simp;omega
def FV.fixed:FV->Bool
 | .obj _=>true
 | .loop _=>true
 | .iter _ _ _ _=>true
 | .fm _ _=>true
 | .vm _ _=>true
 |_=>false
def EI.fixed{id:Nat}{k:FV}(S:k.fixed=true)(h:EI g w id k):∃b o,g.mu id=some b/\g.base<=b/\w.heap[b]? =some o/\Obj.isCells o=false:=by
 cases k with
 |cells _=>cases S
 |spare=>cases S
 |obj o=>grind[EI]
 |loop L=>grind[Obj.isCells,EI]
 |arr _ _=>cases S
 |fm e xs=>grind[Obj.isCells,EI]
 |vm e xs=>grind[Obj.isCells,EI]
 |iter i a seen l=>grind[Obj.isCells,EI]
theorem Gh.at_fixed{H:A5}{id:Nat}{k:FV}(S:k.fixed=true)(h:H id=some k):g.at H id=g.mu id:=by
 cases k<;>simp_all[Gh.at,FV.fixed]
def Rl.putGen{H:A5}(h:Rl g H w){id b:Nat}{k k':FV}{o':Obj}(q:k.fixed=true)(f:k'.fixed=true)(S:H id=some k)(W:g.mu id=some b)(r:Obj.isCells o'=false)
 (m:Al g w g (w.putObj b o')->(w.putObj b o').heap[b]? =some o'->g.base<=b->EI g (w.putObj b o') id k'):
 Al g w g (w.putObj b o')/\Rl g (upd H id (some k')) (w.putObj b o'):=by
 have⟨b',o,O,Z,c,d⟩:=(h.blk id _ S).fixed q
 have e:b'=b:=by rw[W]at O;simp_all
 subst e;have a:=Qq (o':=o') c d r
 have s:Al g w g (w.putObj b' o'):=by
  exact zac
 have i:∀x,g.at (upd H id (some k')) x=g.at H x:=by
  grind[Gh.at_fixed,Gh.at,upd]
 have N:g.at H id=some b':=by rw[Gh.at_fixed q S,W]
 refine⟨s,λx k M=>?_,λx x' y O Z=>h.inj x x' y (i x▸O) (i x'▸Z),λy o q=>?_,λx M=>?_,?_,λn=>(h.glb n).mono s⟩
 ·by_cases l:x=id
  ·grind[E7,World.putObj_heap_same]
  rw[C8 _ _ l]at M
  refine(h.blk x k M).mono M s λy I=>⟨World.putObj_heap_other λe=>?_,λ_ X=>X⟩;subst e;exact l (h.inj _ _ _ I N)
 ·have⟨v,p⟩:=h.frz y o q
  simp_all
 ·have⟨t,u,z⟩:=h.nxt x M
  have j:x≠id:=λe=>TQ
  simp_all[upd]
 have:=h.bnd;simp;omega
section
variable {P:Program}{o:Oper}{fr:Fr}{H:A5}{K:V->A5->Prop}
def Ar1(X:o.op= .makeMap t none)(h:∀id,H id=none->K (.map id) (upd H id (some (.obj (.map #[] 0))))):K0 P o fr H K:=by
 intro g w a C b;have s:=Al.new C (.map #[] 0) False 0;have r:=C.newNamed (.map #[] 0) (.obj (.map #[] 0)) OC ⟨w.heap.size,by simp[Gh.new],C.bnd,DA,rfl⟩;exact L3
def VD{v:HO}{n:Int}(h:VR g w v (.int .i64 n)):v= .int .i64 n:=by cases h;rfl
def BA6{b:Up Int}(S:a.toList.map (·.key)=b.map (Value.int .i64)){e:MapEntry}(R:a[j]? =some e):∃k,b[j]? =some k/\e.key= .int .i64 k:=by
 have:=J8 (λl=>l[j]?) S
 grind
def AZ7{b:Up Int}(S:a.toList.map (·.key)=b.map (Value.int .i64)):∀e∈a.toList,IsKey (.int .i64) e.key:=by
 intro e R;have⟨j,z,t⟩:=R4 R;have⟨k,_,Z⟩:=BA6 S (j:=j) (e:=e) (by rw[<-EP,D9 z,t]);rw[Z];rfl
def Ar4{x:By}{v:V}(X:o.op= .lookup t x y ok)(B:AX7 P t (ev fr x) (ev fr y) ok v)(h:K v H):K0 P o fr H K:=by
 intro g w a C G;obtain⟨kt,et,L,xs,n,O,Z,h3,h4,rfl,F⟩:=B;have M:=G2 C G x;have I:=G2 C G y
 rw[h4]at I
 have I:=VD I
 rw[h3]at M
 generalize q:a.eval x=xv at M
 cases M with
 | fmap W m S hn J hv=>
  rename_i b A clock;have u:=AZ7 S;have N:IsKey (.int .i64) (Value.int .i64 n):=rfl;unfold execOp;rw[X];simp only[q,I,Instr.lookup,B9,run_underlying O,B5,ES m,C7,run_checkKey Z N]
  rcases findNow_spec N A.toList 0 u with⟨p,f2⟩|⟨j,e,p,f2,f3⟩
  ·simp only[run_findKey Z p,B5]
   rcases F with⟨i,d,f⟩|⟨d,f⟩
   ·exfalso;have:=J8 (λl=>l[i]?) S
    grind
   have⟨zv,R,Y⟩:=Fu f
   have aa:VR g w zv v:=by rw[R];grind[GL]
   simp only[B9,Y,B5,C7,J3]
   exact F7
  simp only[run_findKey Z p,B5,J3]
  have r:A[j]? =some e:=Pw
  have⟨k,D,g2⟩:=BA6 S r
  have s:k=n:=by rw[f3]at g2;simp_all
  subst s;have c:=hv j e r
  rcases F with⟨i,d,f⟩|⟨d,f⟩
  ·have z:j<L.length:=by
    grind
   have U:i<L.length:=by
    grind
   have:i=j:=QE hn U z (by rw[D9 U]at d;rw[D9 z]at D;rw[CU d,CU D]);subst this
   rw[<-f]at c
   exact O6.here C c h
  grind
def Ah7(X:o.op= .makeMap t none)(h:∀id,H id=none->K (.map id) (upd H id (some (.fm [] [])))):K0 P o fr H K:=by
 intro g w a C b;have s:=Al.new C (.map #[] 0) False 0;have r:=C.newNamed (.map #[] 0) (.fm [] []) OC ⟨w.heap.size, #[],0,by simp[Gh.new],C.bnd,DA,rfl,OJ,rfl,λi e U=>by simp at U⟩;exact L3
def ltC{x z:By}(X:o.op= .mapUpdate t x y z\/o.op= .insert t x y z)(B:AS3 P H K t (ev fr x) (ev fr y) (ev fr z)):K0 P o fr H K:=by
 intro g w a C N;have⟨kt,et,J,xs,n,id,O,Z,h3,D,h5,h6,h⟩:=B;have M:=G2 C N x;have I:=G2 C N y;have Y:=G2 C N z
 rw[h5]at I
 have I:=VD I
 rw[h3]at M
 generalize c:a.eval x=xv at M
 cases M with
 | map p=>
  rename_i b;have⟨b',l,clock,F,k2,G,v,k5,k6,k7⟩:=C.blk id _ D
  rw[p]at F;cases F
  have q:=AZ7 v;have r:IsKey (.int .i64) (Value.int .i64 n):=rfl
  have ac:∀e∈l.toList,e.key≠ .int .i64 n:=by
   intro e R d;have⟨j,hj,S⟩:=R4 R;have⟨k,L,u⟩:=BA6 v (j:=j) (e:=e) (by rw[<-EP,D9 hj,S])
   rw[d]at u
   grind
  rcases findNow_spec r l.toList 0 q with⟨A,f2⟩|⟨j,e,A,f2,f3⟩
  ·have aa:l.size=J.length:=by have:=J8 List.length v;grind
   have⟨L,u⟩:=C.putGen (k':=.fm (J++[n]) (xs++[ev fr z])) (o':=.map (l.push {key:=.int .i64 n,val:=a.eval z,born:=clock}) (clock+1)) rfl rfl D p rfl λs hh W=>
    ⟨b,_,_,p,W,hh,by simp[v],by
     rw[Jo];simp_all,by simp[k6],λi e U=>by
     rw[Array.getElem?_push]at U
     split at U
     ·rename_i m;cases U
      have:i=xs.length:=AY
      subst this
      simpa using Y.mono s
     rename_i m
     have ab:i<xs.length:=by
      have:=(Array.getElem?_eq_some_iff.1 U).1;omega
     have:=(k7 i e U).mono s
     grind⟩
   have hr:(Instr.mapUpdate t (.map (some b)) (.int .i64 n) (a.eval z)).run P w= .ok () (w.putObj b (.map (l.push {key:=.int .i64 n,val:=a.eval z,born:=clock}) (clock+1))):=by
    simp only[Instr.mapUpdate,B9,run_underlying O,B5,ES G,run_checkKey Z r,run_findKey Z A,run_setObj_map _ G];rfl
   have f:(execOp a.eval o).run P w= .ok .skip (w.putObj b (.map (l.push {key:=.int .i64 n,val:=a.eval z,born:=clock}) (clock+1))):=by
    unfold execOp
    rcases X with X|X<;>rw[X]<;>simp only[c,I,B9,hr,B5,C7]
   rw[f];exact⟨_,_,_,L,u,.bad _,h⟩
  grind
def BT1{b:Up HO}(S:a.toList.map (·.key)=b){e:MapEntry}(R:a[j]? =some e):b[j]? =some e.key:=by
 rw[<-S];simp[R]
def AR7{G:HO->Prop}{b:Up HO}(S:a.toList.map (·.key)=b)(h:∀k∈b,G k):∀e∈a.toList,G e.key:=λe R=>
 h _ (by rw[<-S];grind)
def Bp5{a:Up HO}(b:a.Nodup){i:Nat}{k:HO}(U:a[i]? =some k)(z:a[j]? =some k):i=j:=by
 grind[QE]
def Ar3{x:By}{v:V}(X:o.op= .lookup t x y ok)(B:AX6 P H t (ev fr x) (ev fr y) ok v)(h:K v H):K0 P o fr H K:=by
 intro g w a C D;have⟨kt,et,G,kv,id,ks,xs,O,Z,W,u,h5,h6,h7,A⟩:=B;have M:=G2 C D x;have I:=PJ W (G2 C D y)
 rw[h5]at M
 generalize c:a.eval x=xv at M
 cases M with
 | map p=>
  rename_i b;have⟨b',q,clock,F,k2,k3,J,k5,k6,k7⟩:=C.blk id _ h6
  rw[p]at F;cases F
  have f:=AR7 J h7;unfold execOp;rw[X];simp only[c,I,Instr.lookup,B9,run_underlying O,B5,ES k3,C7,(λem=>Z.check w em u)]
  rcases Z.find w u q.toList f with⟨N,R⟩|⟨j,e,N,R,S⟩
  ·simp only[N,B5]
   rcases A with⟨n,z,z',r,q4,q3⟩|⟨i,n,r⟩
   ·have⟨zv,L,Y⟩:=Fu r;have m:VR g w zv z':=VR.le (by rw[L];grind[GL]) q4;simp only[B9,Y,B5,C7,J3];subst q3;cases ok
    ·exact F7
    refine O6.here C (.tup rfl λi U=>?_) h
    match i with
    |0=>exact m
    |1=>exact .bool _
    |i+2=>grind
   grind
  simp only[N,B5,J3]
  have k:q[j]? =some e:=Pw
  have s:=BT1 J k
  rw[S]at s
  rcases A with⟨n,_⟩|⟨i,n,r⟩
  ·grind
  have d:=Bp5 k5 n s;subst d;have l:=k7 i e k;subst r;cases ok
  ·exact O6.here C l h
  refine O6.here C (.tup rfl λi U=>?_) h
  match i with
  |0=>exact l
  |1=>exact .bool _
  |i+2=>grind
def Ah6(X:o.op= .makeMap t none)(h:∀id,H id=none->K (.map id) (upd H id (some (.vm [] [])))):K0 P o fr H K:=by
 intro g w a C b;have s:=Al.new C (.map #[] 0) False 0;have r:=C.newNamed (.map #[] 0) (.vm [] []) OC ⟨w.heap.size, #[],0,by simp[Gh.new],C.bnd,DA,rfl,OJ,rfl,λi e U=>by simp at U⟩;exact L3
def zb0{x z:By}(X:o.op= .mapUpdate t x y z\/o.op= .insert t x y z)(B:AS2 P H K t (ev fr x) (ev fr y) (ev fr z)):K0 P o fr H K:=by
 intro g w a C J;have⟨kt,et,G,kv,id,A,xs,O,Z,h3,f,h5,F,h7,h8⟩:=B;have M:=G2 C J x;have I:=PJ h3 (G2 C J y);have Y:=G2 C J z
 rw[h5]at M
 generalize L:a.eval x=xv at M
 cases M with
 | map p=>
  rename_i b;have⟨b',v,clock,k1,k2,u,d,k5,k6,k7⟩:=C.blk id _ F
  rw[p]at k1;cases k1
  have ad:=AR7 d h7
  have ae:v.size=A.length:=by have:=J8 List.length d;grind
  have run:∀n l k',(Instr.mapUpdate t (.map (some b)) kv (a.eval z)).run P w= .ok () (w.putObj b (.map n l))->
   (Al g w g (w.putObj b (.map n l))/\Rl g (upd H id (some k')) (w.putObj b (.map n l)))->K .bad (upd H id (some k'))->J3 P (O6 g w K) ((execOp a.eval o).run P w):=by
   intro n l k' hr q h
   have aa:(execOp a.eval o).run P w= .ok .skip (w.putObj b (.map n l)):=by
    unfold execOp
    rcases X with X|X<;>rw[X]<;>simp only[L,I,B9,hr,B5,C7]
   rw[aa];exact⟨_,_,_,q.1,q.2,.bad _,h⟩
  rcases Z.find w f v.toList ad with⟨D,f2⟩|⟨j,e,D,f2,f3⟩
  ·have af:∀k∈A,k≠kv:=λk S R=>by
    rw[<-d]at S
    grind
   rcases h8 with⟨_,h⟩|⟨i,q1,_⟩
   ·refine run (v.push {key:=kv,val:=a.eval z,born:=clock}) (clock+1) (.vm (A++[kv]) (xs++[ev fr z])) ?_ ?_ h
    ·simp only[Instr.mapUpdate,B9,run_underlying O,B5,ES u,(λem=>Z.check w em f),D,run_setObj_map _ u];rfl
    exact C.putGen rfl rfl F p rfl λs hh W=>
     ⟨b,_,_,p,W,hh,by simp[d],by
      rw[Jo];simp_all,by simp[k6],λi e U=>by
      rw[Array.getElem?_push]at U
      split at U
      ·rename_i ab;cases U
       have:i=xs.length:=AY
       subst this
       simpa using Y.mono s
      rename_i ab
      have N:i<xs.length:=by
       have:=(Array.getElem?_eq_some_iff.1 U).1;omega
      have:=(k7 i e U).mono s
      grind⟩
   grind
  have r:v[j]? =some e:=Pw
  have g1:=BT1 d r
  rw[f3]at g1
  rcases h8 with⟨q1,_⟩|⟨i,q1,h⟩
  ·grind
  have ac:=Bp5 k5 q1 g1;subst ac;refine run (v.modify i λe=>{e with key:=kv,val:=a.eval z}) clock (.vm A (xs.set i (ev fr z))) ?_ ?_ h
  ·simp only[Instr.mapUpdate,B9,run_underlying O,B5,ES u,(λem=>Z.check w em f),D,r,K1,CV,f3,Z.stays w f,run_setObj_map _ u];rfl
  exact C.putGen rfl rfl F p rfl λs hh W=>
   ⟨b,_,_,p,W,hh,by
    apply CX
    grind,k5,by simp[k6],λm en U=>by
    rw[Jt]at U
    by_cases c:i=m
    ·subst c
     rw[A2 rfl,r]at U
     cases U
     have N:i<xs.length:=by
      have:=(Array.getElem?_eq_some_iff.1 r).1;omega
     simpa[U2,Z4,N]using Y.mono s
    rw[A1 c]at U
    have:=(k7 m en U).mono s
    simp_all⟩
theorem AH8{x:By}{v:V}(X:o.op= .lookup t x y ok)(B:QI P H t (ev fr x) (ev fr y) ok v)(h:K v H):K0 P o fr H K:=by
 refine B.elim (λB=>?_) λB=>B.elim (λB=>Ar4 X B h) λB=>Ar3 X B h;intro g w a C R;obtain⟨kt,et,d,kv,id,ob,m,O,Z,q,J,h5,h6,h7,L⟩:=B;have M:=G2 C R x;have I:=PJ q (G2 C R y)
 rw[h5]at M
 generalize s:a.eval x=xv at M
 cases M with
 | map hm=>
  rename_i b;obtain⟨b',W,k2,k3,k4⟩:=C.blk id _ h6
  rw[hm]at W;cases W
  obtain⟨⟨F,clock,e1,e2⟩,S,hn⟩:=h7;subst e1;have u:=DH.isKeys e2 S;unfold execOp;rw[X];simp only[s,I,Instr.lookup,B9,run_underlying O,B5,ES k3,C7,(λem=>Z.check w em J)]
  rcases Z.find w J F.toList u with⟨r,f2⟩|⟨j,e,r,f2,f3⟩
  ·simp only[r,B5]
   rcases L with⟨l,z,n,q3⟩|⟨y',l,n⟩
   ·obtain⟨zv,ez,Y⟩:=Fu n
    have D:VR g w zv z:=by rw[ez];grind[GL]
    simp only[B9,Y,B5,C7,J3];subst q3;cases ok
    ·exact F7
    refine O6.here C (.tup rfl λi U=>?_) h
    match i with
    |0=>exact D
    |1=>exact .bool _
    |i+2=>grind
   exfalso;obtain⟨i,U,e⟩:=R4 l;obtain⟨en,G,c,f⟩:=(DH.entry (d:=d) e2 i).2 _ (by rw[D9 U,e])
   rw[q]at c
   grind
  simp only[r,B5,J3]
  have N:F[j]? =some e:=Pw
  obtain⟨p,G,c,f⟩:=(DH.entry (d:=d) e2 j).1 e N;have aa:p.1=ev fr y:=At1 c (by rw[q,f3])
  rcases L with⟨l,_⟩|⟨y',l,n⟩
  ·grind
  have A:p.2=y':=by
   obtain⟨i,U,e⟩:=R4 l
   have hj:j<m.length:=by
    grind
   have e3:m[j]=p:=by rw[D9 hj]at G;simp_all
   have:i=j:=QE hn Pw Pw TQ
   simp_all
  rw[A]at f
  have k:VR g w e.val y':=Xu f;subst n;cases ok
  ·exact O6.here C k h
  refine O6.here C (.tup rfl λi U=>?_) h
  match i with
  |0=>exact k
  |1=>exact .bool _
  |i+2=>grind
def DH.set{d:TypeDesc}{m':Up (V×V)}{n:SI MapEntry}{clock:Nat}{key val:V}{w q:HO}(s:DJ key=some w)(I:IP d w)(J:DJ val=some q)
 (e2:n.toList.map (λe=>(some e.key,some e.val))=m.map λp=>(DJ p.1,DJ p.2))(S:∀p∈m,∃k,DJ p.1=some k/\IP d k)(L:(m.map (·.1)).Nodup)(g:OD n clock)(G:Cc6 m key val m'):
 ((∀e∈n.toList,e.key≠w)->DH d (.map (n.push {key:=w,val:=q,born:=clock}) (clock+1)) m')/\
 ∀(j:Nat) e,n[j]? =some e->e.key=w->DH d (.map (n.modify j λe=>{e with key:=w,val:=q}) clock) m':=by
 have r:∀(j:Nat) e,n[j]? =some e->e.key=w->∃y,m[j]? =some (key,y):=λj e z v=>by
  have⟨p,t,x,F⟩:=(DH.entry (d:=d) e2 j).1 e z;have:p.1=key:=At1 x (by rw[s,v])
  grind
 constructor
 ·intro A
  rcases G with⟨B,rfl⟩|⟨a,y,b,rfl,rfl⟩
  ·refine⟨⟨_,_,rfl,TQ⟩,λp f=>?_,?_,λn clock h=>by grind[OD]⟩
   ·grind
   grind
  exfalso;have⟨e,t,x,_⟩:=(DH.entry (d:=d) e2 a.length).2 (key,y) OC
  rw[s]at x
  grind
 intro j e z v;have⟨C,u⟩:=r j e z v
 rcases G with⟨B,rfl⟩|⟨a,y,b,rfl,rfl⟩
 ·grind
 have N:j=a.length:=by
  have c:j<(a++(key,y)::b).length:=by
   grind
  have D:(a++(key,y)::b)[j]=(key,C):=by rw[D9 c]at u;simp_all
  grind
 subst N;refine⟨⟨_,_,rfl,?_⟩,λp f=>?_,?_,λn clock h=>by cases h;exact g.modify _ _ _⟩
 ·apply CX;intro i;simp only[Y1,EP,Jt]
  by_cases U:a.length=i
  ·simp_all
  rw[A1 U];have:=J8 (λl=>l[i]?) e2
  grind
 ·simp only[BU,Cx]at f
  rcases f with f|rfl|f
  ·exact S p (by simp[f])
  ·simp_all
  exact S p (by simp[f])
 simp_all
theorem Au7{x z:By}(X:o.op= .mapUpdate t x y z\/o.op= .insert t x y z)(B:Qx P H K t (ev fr x) (ev fr y) (ev fr z)):K0 P o fr H K:=by
 refine B.elim (λB=>?_) λB=>B.elim (ltC X) (zb0 X);intro g w a C v;obtain⟨kt,et,d,kv,vv,id,ob,m,m',O,Z,G,k,J,W,L,h8,h9,h⟩:=B;have M:=G2 C v x;have I:=PJ G (G2 C v y);have Y:=PJ J (G2 C v z)
 rw[W]at M
 generalize N:a.eval x=xv at M
 cases M with
 | map p=>
  rename_i b;obtain⟨b',R,k2,n,k4⟩:=C.blk id _ L
  rw[p]at R;cases R
  obtain⟨⟨u,clock,U,e2⟩,S,hn,q⟩:=h8;subst U;have f:=DH.isKeys e2 S;obtain⟨A,s⟩:=DH.set (clock:=clock) G k J e2 S hn (q _ _ rfl) h9
  have run:∀o',DH d o' m'->(Instr.mapUpdate t (.map (some b)) kv vv).run P w= .ok () (w.putObj b o')->J3 P (O6 g w K) ((execOp a.eval o).run P w):=by
   intro o' l hr;obtain⟨q1,q2⟩:=C.putObj (o':=o') L p (by obtain⟨⟨_,_,e,_⟩,_⟩:=l;rw[e];rfl)
   have c:(execOp a.eval o).run P w= .ok .skip (w.putObj b o'):=by
    unfold execOp
    rcases X with X|X<;>rw[X]<;>simp only[N,I,Y,B9,hr,B5,C7]
   rw[c];exact⟨_,_,_,q1,q2,.bad _,h o' l⟩
  rcases Z.find w k u.toList f with⟨r,D⟩|⟨j,e,r,D,F⟩
  ·refine run _ (A D) ?_;simp only[Instr.mapUpdate,B9,run_underlying O,B5,ES n,(λem=>Z.check w em k),r,run_setObj_map _ n];rfl
  have i:u[j]? =some e:=Pw
  refine run _ (s j e i F) ?_;simp only[Instr.mapUpdate,B9,run_underlying O,B5,ES n,(λem=>Z.check w em k),r,i,K1,CV,F,Z.stays w k,run_setObj_map _ n];rfl
end
end Go.Ab
namespace Go.Ab
open Go.RowKit
variable [O7]
variable{ys:Up V}
def Rl.lessArr{g:Gh}{H:A5}{w:Is}(h:Rl g H w){id sz:Nat}{xs:Up V}(S:H id=some (.arr sz xs))(B:M7 xs ys):Rl g (upd H id (some (.arr sz ys))) w:=by
 have n:=B.length
 have a:∀x,g.at (upd H id (some (.arr sz ys))) x=g.at H x:=by
  exact Px
 refine⟨λx k M=>?_,λx x' y O Z=>h.inj x x' y (a x▸O) (a x'▸Z),h.frz,λx M=>?_,h.bnd,h.glb⟩
 ·by_cases l:x=id
  ·subst l;rw[E7]at M;cases M
   have⟨b,O,Z,v,A,N⟩:=h.blk x _ S;refine⟨b,O,Z,v.trans n,λi U=>?_,?_⟩
   ·rw[<-(B.at i).cells.length];simp_all
   rw[<-n];refine N.imp (λh=>h) λ⟨c,T,f,m,p,r,q⟩=>⟨c,T,f,m,p,λi j U z=>⟨(r i j U z).1,(r i j U z).2.le ((B.at i).cells.at j)⟩,q⟩
  rw[C8 _ _ l]at M;exact h.blk x k M
 have⟨s,t,u⟩:=h.nxt x M
 have d:x≠id:=λe=>TQ
 simp_all[upd]
section
variable {P:Program}{o:Oper}{fr:Fr}{H:A5}{K:V->A5->Prop}
def K0.lessRow (h:K0 P o fr H λx H'=>∃id sz xs ys,H' id=some (.arr sz xs)/\M7 xs ys/\K x (upd H' id (some (.arr sz ys)))):K0 P o fr H K:=by
 intro g w a C k;have h:=h g w a C k
 have key:∀v w',O6 g w (λx H'=>∃id sz xs ys,H' id=some (.arr sz xs)/\M7 xs ys/\K x (upd H' id (some (.arr sz ys)))) v w'->O6 g w K v w':=by
  rintro v w' ⟨g',x,H',s,b,j,id,sz,xs,ys,O,Z,i⟩;exact⟨g',x,_,s,b.lessArr O Z,j,i⟩
 unfold J3 at h ⊢
 split at h
 ·grind
 ·grind
 ·exact zcf
 ·exact zcf
 omega
def Vq{x:By}(X:o.op= .assign x\/o.op= .move x)(M:ev fr x= .sl [] .nil)(sz:Nat)(h:∀q,H q=none->K (.own q 0 0) (upd H q (some (.arr sz [])))):K0 P o fr H K:=by
 intro g w a C k;have j:=G2 C k x
 rw[M]at j
 have⟨i,A,e,l,b⟩:=Hc C sz (.inl rfl) j;unfold execOp
 rcases X with X|X<;>rw[X]<;>exact⟨i,_,_,A,e,b,h _ l⟩
theorem Br6{t e:Do}{n sz:Nat}{l:SI (Nat×By)}{xs:Up V}(X:o.op= .buildSlice t n l)(B:CR P t n (l.toList.map λ(p:Nat×By)=>(p.1,ev fr p.2))=some (.sl xs .full))
 (R:Ic P t=some e)(G:Hk P e=some sz)(hle:M7 xs ys)(h:∀q,H q=none->K (.own q 0 (xs.length:Nat)) (upd H q (some (.arr sz ys)))):K0 P o fr H K:=by
 refine K0.lessRow ?_;intro g w a C M;have⟨c,W,z,F,I,_,S,k4,_,d,N,f,O⟩:=Ag9 C M B
 rw[R]at F;cases F
 rw[G]at I;cases I
 cases S
 have v:∀i,((l.toList.map λ(p:Nat×By)=>(p.1,ev fr p.2)).map (λ(q:Nat×V)=>q.2)).getD i .bad=((l.toList.map λ(p:Nat×By)=>(p.1,ev fr p.2)).getD i (0,.bad)).2:=by
  grind
 generalize Z:(l.toList.map λ(p:Nat×By)=>(p.1,ev fr p.2))=L at *
 have Y:∀i,i<(L.map λ(q:Nat×V)=>q.2).length->((L.map λ(q:Nat×V)=>q.2).getD i .bad).cells.length=sz:=by
  intro i U
  have:∀(m:Up (Nat×V)) (k i:Nat),Fa sz k m=true->i<m.length->(m.getD i (0,.bad)).2.cells.length=sz:=by
   intro m
   induction m with
   |nil=>simp_all
   |cons y m ih=>
    grind[Fa]
  rw[v];grind
 have J:(L.map λ(q:Nat×V)=>q.2).length=n:=Pw
 have⟨s,r,hn⟩:=Rl.newArr (w':=w.alloc (.cells d e)) C (b:=w.heap.size) (o:=0) (sz:=sz) (ys:=L.map λ(q:Nat×V)=>q.2) Y (λb q u=>Fo (C.fz_lt u)) ((AC _ _).alloc C.bnd _) (λx _ D=>heap_alloc D)
  (.inr ⟨d,e,C.bnd,DA,by rw[f,J];omega,λi j U hj=>by
   rw[P0,v];simp_all,λq _ u=>absurd (C.fz_lt u) (Y0 _),λid A=>absurd (C.lt A) (Y0 _)⟩)
 unfold execOp;rw[X];simp only[B9,N,B5,C7,J3];refine⟨_,.own g.nx 0 ((L.map λ(q:Nat×V)=>q.2).length:Nat),_,s,r,?_,g.nx,sz,_,ys,E7 _ _ _,hle,?_⟩
 ·have c:(g.own w.heap.size ⟨0,(L.map λ(q:Nat×V)=>q.2).length,sz⟩).ow g.nx=⟨0,(L.map λ(q:Nat×V)=>q.2).length,sz⟩:=by simp[Gh.own]
  have:=VR.own (g:=g.own w.heap.size ⟨0,(L.map λ(q:Nat×V)=>q.2).length,sz⟩) (w:=w.alloc (.cells d e)) (id:=g.nx) (b:=w.heap.size) (lo:=0) (n:=((L.map λ(q:Nat×V)=>q.2).length:Nat)) (p:=some ⟨w.heap.size,0,none⟩) (by simp[Gh.own]) AY AY (by rw[c];simp) (by rw[c];simp)
  rw[c]at this
  simp_all
 grind[BA]
def Rg (l:Up Int):ByteArray:=l.foldl (λr n=>r.push (UInt8.ofNat n.toNat)) ByteArray.empty
def Ae5 (P:If)(H:A5)(s d:Do)(x v:V):Prop:=
 ∃e l,Ic P s=some e/\P.underlying e=some (.int .u8)/\P.underlying d=some .string/\Wb 1 H x (l.map (V.int .u8))/\v= .str (Rg l)
def Wb.up{sz:Nat}{H H':A5}{x:V}(B:∀id b,H id=some b->H' id=some b)(h:Wb sz H x ys):Wb sz H' x ys:=by
 unfold Wb at h ⊢
 grind
def AO4{P:If}{H H':A5}{s d:Do}{x v:V}(B:∀id b,H id=some b->H' id=some b)(h:Ae5 P H s d x v):Ae5 P H' s d x v:=by
 have⟨e,l,O,Z,a,i,k⟩:=h;exact⟨e,l,O,Z,a,i.up B,k⟩
def Ax9 (K:V->A5->Prop)(x:V)(H:A5):Prop:=∃id sz xs ys,H id=some (.arr sz xs)/\M7 xs ys/\K x (upd H id (some (.arr sz ys)))
def litO (P:If)(H:A5)(K:V->A5->Prop)(t:Do)(n:Nat)(a:Up (Nat×V)):Prop:=
 ∃e sz xs ys,CR P t n a=some (.sl xs .full)/\Ic P t=some e/\Hk P e=some sz/\M7 xs ys/\∀q,H q=none->K (.own q 0 (xs.length:Nat)) (upd H q (some (.arr sz ys)))
def BT7 (H:A5)(K:V->A5->Prop)(x:V):Prop:=x= .sl [] .nil/\∃sz,∀q,H q=none->K (.own q 0 0) (upd H q (some (.arr sz [])))
def Br0{l:Up Int}{a:Up V}(h:M7 a (l.map (V.int .u8))):a=l.map (V.int .u8):=by
 induction l generalizing a with
 |nil=>cases h;rfl
 | cons n l ih=>
  cases h with
  |cons O Z=>
   cases O;rw[ih Z];rfl
theorem Bf2{s d:Do}{y:By}{x:V}(X:o.op= .convert s d y)(B:Ae5 P H s d (ev fr y) x)(h:K x H):K0 P o fr H K:=by
 intro g w a C p;have j:=G2 C p y;obtain⟨e,l,O,Z,f,m,rfl⟩:=B;have⟨F,q,u,z⟩:=m.inv C j;have t:=Br0 u;subst t;have⟨base,cap,vs,N,A,D⟩:=Nj P C q j z;have G:=U7 O
 have n:(l.map (V.int .u8)).length=l.length:=OC
 have v:∀i,i<l.length->vs i 0= .int .u8 (l.getD i 0):=by
  intro i U;have:=(A i 0 (by rw[n];exact U) AY).2
  have e:((l.map (V.int .u8)).getD i .bad).cells.getD 0 .bad= .int .u8 (l.getD i 0):=by
   simp_all[V.cells]
  rw[e]at this
  exact this.int_inv
 have b:=D l.length (by rw[n];omega) w (λ_ _=>rfl)
 have r:((List.range (l.length*1)).map λk=>vs (k / 1) (k % 1)).toArray=(l.map (Value.int .u8)).toArray:=by
  grind
 rw[r]at b
 rw[n]at N
 rw[N]at b
 have run:(convert s d (.slice base l.length cap)).run P w= .ok (.string (Rg l)) w:=by
  rw[run_convert_bytes_string w s d e base l.length cap G Z f]
  cases base with
  | none=>
   have:l=[]:=by
    simp only[Builtin.firstCells]at b
    have I:(.ok #[] w:Result (SI HO))= .ok (l.map (Value.int .u8)).toArray w:=TQ
    simp_all
   subst this;rfl
  |some c=>
   simp only[Builtin.firstCells,Nat.mul_one]at b
   exact run_bytesToString w c l.length cap l b
 unfold execOp;rw[X];simp only[N,B9,run,B5,C7,J3];exact O6.here C (.str _) h
end
end Go.Ab
namespace Go.Ab
open Go.RowKit Go.MapKept
variable [O7]
variable{a:V->A5->Prop}
def RE (P:If)(H:A5)(K:V->A5->Prop)(t:Do)(x:V):Prop:=
 ∃kt et a b clock,P.underlying t=some (.map kt et)/\x= .map a/\H a=some (.obj (.map b clock))/\∀id,H id=none->K (.ref id 0) (upd H id (some (.iter a clock #[] clock)))
def XI (H:A5) (K:V->A5->Prop) (x:V):Prop:=
 ∃id b a,∃seen:SI Nat,∃i,∃h:SI MapEntry,∃clock,x= .ref id 0/\H id=some (.iter b a seen i)/\H b=some (.obj (.map h clock))/\(∀e∈h.toList,e.born<a)/\a<=i/\
  ((leftOf h seen).size=0->K (.tup [.bool false]) H)/\∀e∈(leftOf h seen).toList,K (.tup [.bool true,.bad,.bad]) (upd H id (some (.iter b a (seen.push e.born) clock)))
def Sc (H:A5) (K:V->A5->Prop) (x:V):Prop:=
 ∃id b a,∃seen:SI Nat,∃i,∃h:SI MapEntry,∃clock e k l,x= .ref id 0/\H id=some (.iter b a (seen.push e.born) i)/\i=clock/\H b=some (.obj (.map h clock))/\e∈h.toList/\(h.toList.map (·.born)).Nodup/\
  DJ k=some e.key/\DJ l=some e.val/\K (.tup [k,l]) H
def BQ1 (P:If) (H:A5) (K:V->A5->Prop) (e:Up Do) (vs:Up V):Prop:=
 match e,vs with
 | [t,_],[x,key]=>
  ∃kt et d b id o m,P.underlying t=some (.map kt et)/\KG P kt (IP d)/\DJ key=some b/\IP d b/\x= .map id/\H id=some (.obj o)/\DH d o m/\
   ∀o' a,DH d o' a->((a=m/\∀p∈m,p.1≠key)\/∃j p,m[j]? =some p/\p.1=key/\a=m.eraseIdx j)->K (.tup []) (upd H id (some (.obj o')))
 |_,_=>False
def At9{P:If}{H:A5}{K:V->A5->Prop}{t:Do}{x:V}(h:RE P H K t x)(S:∀v H',K v H'->a v H'):RE P H a t x:=by
 grind[RE]
def AK5{H:A5}{K:V->A5->Prop}{x:V}(h:XI H K x)(S:∀v H',K v H'->a v H'):XI H a x:=by
 grind[XI]
def AA3{H:A5}{K:V->A5->Prop}{x:V}(h:Sc H K x)(S:∀v H',K v H'->a v H'):Sc H a x:=by
 grind[Sc]
def Am5{g:Gh}{H:A5}{w:Is}(C:Rl g H w){id b:Nat}{o:Obj}(h:H id=some (.obj o))(W:g.mu id=some b):w.heap[b]? =some o:=by
 have⟨b',O,_,a,_⟩:=C.blk id _ h
 rw[W]at O;simp_all
def Rl.drew {g:Gh}{H:A5}{w:Is}(C:Rl g H w):Al g w g w.drew/\Rl g H w.drew:=by
 have s:Al g w g w.drew:=⟨λ_ _ e=>e,λ_ _ e=>e,λ_ _ e=>e,rfl,λ_ _ _=>rfl,(AC _ _).drew,λ_ _ _=>rfl,GN _⟩;exact⟨s,⟨λid b W=>(C.blk id b W).mono W s λ_ _=>⟨rfl,λ_ X=>X⟩,C.inj,C.frz,C.nxt,C.bnd,λn=>(C.glb n).mono s⟩⟩
def Rl.putIter{g:Gh}{H:A5}{w:Is}(h:Rl g H w){id b a i N since' m c0':Nat}{seen seen':SI Nat}(S:H id=some (.iter a N seen m))(W:g.mu id=some b)(p:g.mu a=some i):
 Al g w g (ChangeMaps.setBlock w b (.mapIter (some i) since' seen' c0'))/\Rl g (upd H id (some (.iter a since' seen' c0'))) (ChangeMaps.setBlock w b (.mapIter (some i) since' seen' c0')):=by
 have e0:ChangeMaps.setBlock w b (.mapIter (some i) since' seen' c0')=w.putObj b (.mapIter (some i) since' seen' c0'):=rfl;rw[e0];have⟨b',j,O,Z,C,f⟩:=h.blk id _ S
 rw[W]at O;cases O
 have l:=Qq (o':=.mapIter (some i) since' seen' c0') f rfl rfl
 have s:Al g w g (w.putObj b (.mapIter (some i) since' seen' c0')):=by
  refine⟨λ_ _ e=>e,λ_ _ e=>e,λ_ _ e=>e,rfl,λb o _=>l b o,⟨rfl,rfl,rfl,OC,λk S=>World.putObj_heap_other AY⟩,λ_ _ _=>rfl,C6 _⟩
 have c:∀x,g.at (upd H id (some (.iter a since' seen' c0'))) x=g.at H x:=by
  exact Px
 have d:g.at H id=some b:=by simp_all[Gh.at]
 refine⟨s,λx k M=>?_,λx x' y O Z=>h.inj x x' y (c x▸O) (c x'▸Z),λy o q=>?_,λx M=>?_,?_,λn=>(h.glb n).mono s⟩
 ·by_cases r:x=id
  ·subst r;rw[E7]at M;cases M
   exact⟨b,i,W,Z,p,World.putObj_heap_same (Aj7 f)⟩
  rw[C8 _ _ r]at M
  refine(h.blk x k M).mono M s λy I=>⟨World.putObj_heap_other λe=>?_,λ_ X=>X⟩;subst e;exact r (h.inj _ _ _ I d)
 ·have⟨v,u⟩:=h.frz y o q
  simp_all
 ·have⟨z,A,B⟩:=h.nxt x M
  have t:x≠id:=λe=>TQ
  simp_all[upd]
 have:=h.bnd;simp;omega
section
variable {P:Program}{o:Oper}{fr:Fr}{H:A5}{K:V->A5->Prop}
def Be5{t:Do}{y:By}(X:o.op= .range t y)(B:RE P H K t (ev fr y)):K0 P o fr H K:=by
 intro g w a C v;have⟨kt,et,b,k,clock,O,Z,l,n⟩:=B;have M:=G2 C v y
 rw[Z]at M
 generalize i:a.eval y=xv at M
 cases M with
 |map p=>
  rename_i h;have N:=Am5 C l p;have s:=Al.new C (.mapIter (some h) clock #[] clock) False 0
  have x:b≠g.nx:=λe=>by subst e;rw[(C.nxt _ (C6 _)).1]at p;cases p
  have r:=C.newNamed (.mapIter (some h) clock #[] clock) (.iter b clock #[] clock) OC ⟨w.heap.size,h,by simp[Gh.new],C.bnd,by simp_all[Gh.new],DA⟩;unfold execOp;rw[X];simp only[i,B9,run_range_map w t kt et h k clock O N,B5,C7,J3];exact⟨_,_,_,s,r,.ref (by simp[Gh.new]),n g.nx (C.nxt _ (C6 _)).2.2⟩
def Bs0{y:By}(X:o.op= .next y false)(B:XI H K (ev fr y)):K0 P o fr H K:=by
 intro g w a C D;have⟨id,I,h,seen,c,f,clock,O,Z,j,m,q,u,z⟩:=B;have M:=G2 C D y
 rw[O]at M
 generalize r:a.eval y=xv at M
 have⟨b,v,x,J,N,F⟩:=C.blk id _ Z;have G:=Am5 C j N
 cases M with
 | ref p=>
  rename_i b'
  rw[x]at p;cases p
  unfold execOp;rw[X];simp only[r]
  rcases run_next_at (P:=P) w o.type b v h c seen f clock F G m q with⟨t,e2⟩|⟨e,t,k,e2,d⟩
  ·simp only[B9,e2,B5,C7,J3];refine O6.here C (.tup rfl λi U=>?_) (u t)
   match i with
   |0=>exact .bool _
   |i+1=>simp at U
  simp only[B9,d,B5,C7,J3]
  have key:∀k:Is,Al g w g k->Rl g H k->O6 g w K (.tuple #[.bool true,e.key,e.val]) (ChangeMaps.setBlock k b (.mapIter (some v) h (seen.push e.born) clock)):=by
   intro k A l;have⟨s,n⟩:=l.putIter (since':=h) (seen':=seen.push e.born) (c0':=clock) Z x N;refine⟨g,_,_,A.trans s,n,.tup rfl λi U=>?_,z e t⟩
   match i with
   |0=>exact .bool _
   |1=>exact .bad _
   |2=>exact .bad _
   |i+3=>grind
  rcases e2 with rfl|rfl
  ·grind[Al.refl]
  exact key _ C.drew.1 C.drew.2
def Bf1{y:By}(X:o.op= .entry y)(B:Sc H K (ev fr y)):K0 P o fr H K:=by
 intro g w a C f;have⟨id,t,h,seen,u,n,clock,e,A,D,O,Z,L,r,v,x,N,c,d⟩:=B;subst L;have M:=G2 C f y
 rw[O]at M
 generalize k:a.eval y=xv at M
 have⟨b,l,j,z,m,q⟩:=C.blk id _ Z;have s:=Am5 C r m
 cases M with
 |ref p=>
  rename_i b'
  rw[j]at p;cases p
  unfold execOp;rw[X];simp only[k,B9,run_entry_at (P:=P) w b l h seen n _ e q s v x,B5,C7,J3];refine O6.here C (.tup rfl λi U=>?_) d
  match i with
  |0=>exact Xu N
  |1=>exact Xu c
  |i+2=>grind
def DH.erase{d:TypeDesc}{m:Up (V×V)}{b:SI MapEntry}{clock:Nat}(h:DH d (.map b clock) m)(j:Nat)(z:j<b.size):DH d (.map (b.eraseIdxIfInBounds j) clock) (m.eraseIdx j):=by
 have⟨⟨n,c',t,e2⟩,S,v,e⟩:=h;cases t;have a:(m.eraseIdx j).Sublist m:=List.eraseIdx_sublist _ _;refine⟨⟨_,_,rfl,?_⟩,λp f=>S p (a.subset f),(a.map _).nodup v,λr w h=>by cases h;exact(e _ _ rfl).sub (by unfold Array.eraseIdxIfInBounds;rw[dif_pos z,Array.toList_eraseIdx];grind)⟩
 have k:(b.eraseIdxIfInBounds j).toList=b.toList.eraseIdx j:=by
  simp_all
 rw[k];apply CX;intro i;have e4:=J8 (λl=>l[i]?) e2;have x:=J8 (λl=>l[i+1]?) e2
 grind
end
section
variable {P:Program}{o:Oper}{fr:Fr}{H:A5}{K:V->A5->Prop}
def Bx1 (P:If)(t:Do)(l c v:V):Prop:=
 ∃a b n e sz by_ z,l= .int a n/\c= .int b n/\Ic P t=some e/\Hk P e=some sz/\0<sz/\UI P e=some by_/\0<by_/\Lr P e=some z/\z.one=true/\z.cells.length=sz/\0<=n/\n*(by_:Nat)<=281474976710656/\v= .sl (List.replicate n.toNat z) .ro
theorem Be8{t:Do}{l c:By}{v:V}(X:o.op= .makeSlice t l c)(h:Bx1 P t (ev fr l) (ev fr c) v)(O:K v H):K0 P o fr H K:=by
 obtain⟨S,U,n,e,sz,by_,z,m,e2,p,e4,q,u,B,D,F,i,k,r,rfl⟩:=h;intro g w a C L;refine J3.mono ?_ (Ar2 (K:=λx H'=>∃id,H id=none/\x= .own id 0 n/\H'=upd H id (some (.arr sz (List.replicate n.toNat z)))) X m e2 p e4 q u B D F i k (T9 _) r (λid b=>⟨id,b,rfl,rfl⟩) g w a C L);rintro x w' ⟨R,y,J,A,f,j,id,b,rfl,rfl⟩;have⟨I,_,s,d,N⟩:=f.freezeArr' (E7 _ _ _)
 have M:upd (upd H id (some (.arr sz (List.replicate n.toNat z)))) id none=H:=by
  funext x
  simp_all[upd]
 rw[M]at d
 refine⟨I,_,H,A.trans s,d,?_,O⟩;have:=N x 0 n (j.mono s)
 have G:P2 (List.replicate n.toNat z) 0 n=List.replicate n.toNat z:=by simp[P2]
 rw[G]at this
 exact this
end
end Go.Ab
namespace Go.Ab
open Go.RowKit
variable [O7]
variable{D:OS Tmp}{H':A5}{I:A5->A5->Prop}{R:Ending->Is->Prop}{a:Act}{c:Call}{d i:Nat}{f:FuncId}{g g':Gh}{t:Do}{w w':Is}{y:Oper}
def Args (g:Gh)(w:Is)(vals:SI HO)(args:Up V):Prop:=
 vals.size=args.length/\∀i,i<args.length->VR g w (vals.getD i undef) (args.getD i .bad)
def L5 (P:If)(f:FuncId)(args:Up V)(H:A5)(K:V->A5->Prop):Prop:=
 ∀g w vals,Rl g H w->Args g w vals args->J3 P (O6 g w K) ((callFunc f vals).run P w)
def Ft (P:If)(a:V)(args:Up V)(H:A5)(K:V->A5->Prop):Prop:=
 ∀g w v vals,Rl g H w->VR g w v a->Args g w vals args->J3 P (O6 g w K) ((do let d <-Deferred.ofValue v vals;invoke d.target d.args:Sem Next).run P w)
def B1 (P:If)(f:FuncId)(args:Up V)(r:V):Prop:=∀H,L5 P f args H λx H'=>x=r/\H'=H
def U9 (P:If)(a:V)(args:Up V)(r:V):Prop:=∀H,Ft P a args H λx H'=>x=r/\H'=H
def O6.mono{K e:V->A5->Prop}(h:∀x H,K x H->e x H){v:HO}(p:O6 g w K v w'):O6 g w e v w':=
 let⟨g',x,H',a,b,c,d⟩:=p;⟨g',x,H',a,b,c,h _ _ d⟩
def UR (P:If)(a:V)(args:Up V)(H:A5)(r:V):Prop:=∀H',(∀id b,H id=some b->H' id=some b)->Ft P a args H' λx h=>x=r/\h=H'
def U9.toH{P:If}{a:V}{args:Up V}{r:V}(h:U9 P a args r)(H:A5):UR P a args H r:=λH' _=>h H'
def UR.up{P:If}{a:V}{args:Up V}{H:A5}{r:V}(h:UR P a args H r)(B:∀id b,H id=some b->H' id=some b):UR P a args H' r:=λi Z=>h i λid b e=>Z id b (B id b e)
def L5.mono {P:If}{f:FuncId}{args:Up V}{H:A5}{K K':V->A5->Prop}(c:L5 P f args H K)(h:∀x H,K x H->K' x H):L5 P f args H K':=
 λg w vals C a=>(c g w vals C a).mono λ_ _ p=>p.mono h
def Ft.mono {P:If}{a:V}{args:Up V}{H:A5}{K K':V->A5->Prop}(c:Ft P a args H K)(h:∀x H,K x H->K' x H):Ft P a args H K':=
 λg w v vals C j b=>(c g w v vals C j b).mono λ_ _ p=>p.mono h
theorem B1.at{P:If}{args:Up V}{r:V}(c:B1 P f args r){H:A5}{K:V->A5->Prop}(h:K r H):L5 P f args H K:=
 (c H).mono λx H' ⟨t,e2⟩=>by rw[t,e2];exact h
theorem U9.at{P:If}{a:V}{args:Up V}{r:V}(c:U9 P a args r){H:A5}{K:V->A5->Prop}(h:K r H):Ft P a args H K:=
 (c H).mono λx H' ⟨t,e2⟩=>by rw[t,e2];exact h
def Wk (x y:V):Prop:=∀g w v,VR g w v x->VR g w v y
theorem Wk.refl (x:V):Wk x x:=λ_ _ _ h=>h
def Wk.bad (x:V):Wk x .bad:=λ_ _ _ _=>.bad _
def Wk.ro (xs:Up V)(t:G5):Wk (.sl xs t) (.sl xs .ro):=by
 intro g w v h
 cases h with
 |sl0 a=>exact .sl0 rfl
 |sle a=>exact .sle (.inl rfl)
 |sl vs b d Y q m O j a=>exact .sl vs b d Y q m O j trivial
def Wk.nil (t:G5)(a:t.plain=true):Wk (.sl [] .nil) (.sl [] t):=by
 intro g w v h
 cases h with
 |sl0 _=>exact .sl0 a
 |sle h=>rcases h with h|⟨h,_⟩<;>cases h
 |sl vs b d Y q m O j a=>exact a.elim
def Args.append{a b:SI HO}{x y:Up V}(h:Args g w a x)(k:Args g w b y):Args g w (a++b) (x++y):=by
 refine⟨by simp[h.1,k.1],λi U=>?_⟩;rw[JD]
 have e:(a++b).getD i undef=if i<x.length then a.getD i undef else b.getD (i-x.length) undef:=by
  simp only[Q0,GX,h.1]
  split<;>rfl
 rw[e]
 grind[Args]
def L5.value{P:If}{F C args:Up V}{H:A5}{K:V->A5->Prop}(h:L5 P f (F++args++C) H K):Ft P (.func (.func f) F C) args H K:=by
 intro g w v vals i j e
 cases j with
 |func B j a b=>
  rename_i fs cs;have:=h g w (fs++vals++cs) i (Args.append (Args.append ⟨B,j⟩ e) ⟨a,b⟩)
  simpa only[Deferred.ofValue,B9,C7,B5,invoke]using this
def B1.value {P:If}{f:FuncId}{F C args:Up V}{r:V}(h:B1 P f (F++args++C) r):U9 P (.func (.func f) F C) args r:=λH=>(h H).value
theorem K0.le {P:If}{o:Oper}{fr:Fr}{H:A5}{K:V->A5->Prop}(h:K0 P o fr H λx H'=>∃y,DI x y/\K y H'):K0 P o fr H K:=
 λg w a C i=>(h g w a C i).mono λv w' ⟨g',x,H',s,b,j,y,e,k⟩=>⟨g',y,H',s,b,j.le e,k⟩
section
variable {P:Program}{o:Oper}{fr:Fr}{H:A5}{K:V->A5->Prop}
def BE0(C:Rl g H w)(e:ER g w a fr)(l:SI By):Args g w (l.map a.eval) (l.toList.map (ev fr)):=by
 refine⟨OC,λi U=>?_⟩
 have b:i<l.size:=Pw
 have t:(l.map a.eval).getD i undef=a.eval l[i]:=TQ
 have e2:(l.toList.map (ev fr)).getD i .bad=ev fr l[i]:=TQ
 rw[t,e2];grind[G2]
theorem Ar7{x:By}{args:SI By}{e:SI Do}(X:o.op= .call {callee:=.value x,args:=args,argTypes:=e})(h:Ft P (ev fr x) (args.toList.map (ev fr)) H K):
 K0 P o fr H K:=by
 intro g w a C b;have:=h g w (a.eval x) (args.map a.eval) C (G2 C b x) (BE0 C b args);unfold execOp;rw[X]
 simpa only[resolve]using this
end
abbrev Zb:=Nat->Bool
def Fq (P:If) (b:Builtin) (l:Up Do) (vs:Up V) (v:V):Prop:=
 match b,l,vs with
 | .len,[t],[x]=>Bi5 P t x=some v
 | .max,_,[.int k a,.int k' b]=>k=k'/\v= .int k (if a<b then b else a)
 | .min,_,[.int k a,.int k' b]=>k=k'/\v= .int k (if b<a then b else a)
 | .append,[i,n],[.sl xs tl,.sl ys _]=>(tl= .nil\/tl= .full)/\∃e sz by_ z h ys',Ic P i=some e/\(Ic P n).isSome=true/\Hk P e=some sz/\0<sz/\UI P e=some by_/\0<by_/\Lr P e=some z/\z.one=true/\z.cells.length=sz/\
  M7 xs h/\M7 ys ys'/\h.all (λx=>x.cells.length==sz)=true/\ys'.all (λx=>x.cells.length==sz)=true/\(h.length+ys'.length)*by_<=140737488355328/\v= .sl (h++ys') .ro
 |_,_,_=>False
def K0.lessH{P:If}{o:Oper}{fr:Fr}{H:A5}{K:V->A5->Prop}(h:K0 P o fr H λx H'=>∃y e,DI x y/\(∀id b,e id=some b->H' id=some b)/\K y e):K0 P o fr H K:=
 λg w a C l=>(h g w a C l).mono λv w' ⟨g',x,H',s,i,j,y,e,k,n,r⟩=>⟨g',y,e,s,i.less n,j.le k,r⟩
theorem arO{P:If}{o:Oper}{fr:Fr}{H:A5}{b:Builtin}{v:V}(X:o.op= .call c)(d:c.callee= .builtin b)
 (h:Fq P b c.argTypes.toList (c.args.toList.map (ev fr)) v){K:V->A5->Prop}(k:K v H):K0 P o fr H K:=by
 obtain⟨ce,args,A⟩:=c
 simp only at d h
 subst d;obtain⟨args⟩:=args;obtain⟨A⟩:=A
 simp only at h
 unfold Fq at h
 split at h
 ·rename_i t x e2
  match args,e2 with
  |[y],e2=>
   simp only[D2,G8,U1,P7]at e2
   grind[BI1]
  |[],e2=>simp at e2
  |_::_::_,e2=>simp at e2
 ·rename_i k a k' b e2;obtain⟨rfl,rfl⟩:=h
  match args,e2 with
  |[x,y],e2=>
   simp only[D2,G8,U1,P7]at e2
   intro g w f C l;rw[V3 X];have O:=G2 C l x;have Z:=G2 C l y
   rw[e2.1]at O;rw[e2.2]at Z
   have j:=O.int_inv;have i:=Z.int_inv;simp[builtin,Builtin.max_,Builtin.max2,j,i,B9,C7]
   exact zb3
  |[],e2=>simp at e2
  |[_],e2=>simp at e2
  |_::_::_::_,e2=>simp at e2
 ·rename_i k a k' b e2;obtain⟨rfl,rfl⟩:=h
  match args,e2 with
  |[x,y],e2=>
   simp only[D2,G8,U1,P7]at e2
   intro g w f C l;rw[V3 X];have O:=G2 C l x;have Z:=G2 C l y
   rw[e2.1]at O;rw[e2.2]at Z
   have j:=O.int_inv;have i:=Z.int_inv;simp[builtin,Builtin.min_,Builtin.min2,j,i,B9,C7]
   exact zb3
  |[],e2=>simp at e2
  |[_],e2=>simp at e2
  |_::_::_::_,e2=>simp at e2
 ·rename_i sT yT xs tl ys U e2;obtain⟨n,e,sz,by_,z,Y,ys',D,F,G,I,J,L,M,R,S,r,N,m,p,q,rfl⟩:=h
  match args,e2 with
  |[s,y],e2=>
   simp only[D2,G8,U1,P7]at e2
   have B:Kn H tl:=by rcases n with rfl|rfl<;>trivial
   have hd:H5 H tl=H:=by rcases n with rfl|rfl<;>rfl
   refine K0.lessH (RA (K:=λx H'=>∃y u,DI x y/\(∀id b,u id=some b->H' id=some b)/\K y u) X e2.1 e2.2 D F G I J L M R S B (r.sz m) (N.sz p) (by rw[r.length,N.length];exact q) (λe=>⟨_,H,?_,λ_ _ h=>h,k⟩) λt O Z=>⟨_,H,DI.sl _ (r.append N),λid b W=>?_,k⟩)
   ·subst e;cases N;rw[F2];exact DI.sl _ r
   rw[hd]at Z ⊢
   grind[upd]
  |[],e2=>simp at e2
  |[_],e2=>simp at e2
  |_::_::_::_,e2=>simp at e2
 exact h.elim
def Ky (P:If) (H:A5) (K:V->A5->Prop):Up Do->Up V->Prop
 | [b,h],[.sl xs tl,.sl ys _]=>
  ∃e sz by_ z,Ic P b=some e/\(Ic P h).isSome=true/\Hk P e=some sz/\0<sz/\UI P e=some by_/\0<by_/\Lr P e=some z/\z.one=true/\z.cells.length=sz/\∃a ys',M7 xs a/\M7 ys ys'/\Kn H tl/\
   a.all (λx=>x.cells.length==sz)=true/\ys'.all (λx=>x.cells.length==sz)=true/\(a.length+ys'.length)*by_<=140737488355328/\(ys'=[]->K (.sl a tl) H)/\
   ∀t,ys'≠[]->H5 H tl t=none->K (.sl (a++ys') (.tok t)) (upd (H5 H tl) t (some .spare))
 |_,_=>False
def cf29{P:If}{o:Oper}{fr:Fr}{H:A5}(X:o.op= .call c)(d:c.callee= .builtin .append){K:V->A5->Prop}
 (h:Ky P H K c.argTypes.toList (c.args.toList.map (ev fr))):K0 P o fr H K:=by
 obtain⟨D,args,w⟩:=c
 simp only at d h
 subst d;obtain⟨args⟩:=args;obtain⟨w⟩:=w
 simp only at h
 unfold Ky at h
 split at h
 ·rename_i F G xs tl ys B e2
  match args,e2 with
  |[s,y],e2=>
   simp only[D2,G8,U1,P7]at e2
   obtain⟨e,sz,by_,z,N,f,g,j,m,p,q,u,A,C,ys',b,a,i,k,l,n,r,v⟩:=h;refine K0.le (RA (K:=λx H'=>∃y,DI x y/\K y H') X e2.1 e2.2 N f g j m p q u A i (b.sz k) (a.sz l) (by rw[b.length,a.length];exact n) (λe=>⟨_,.slt _ b,r (by subst e;cases a;rfl)⟩) λt O Z=>⟨_,.slt _ (b.append a),v t (λe=>O (by subst e;cases a;rfl)) Z⟩)
  |[],e2=>simp at e2
  |[_],e2=>simp at e2
  |_::_::_::_,e2=>simp at e2
 exact h.elim
def RU (P:If)(H:A5)(b:Builtin)(a:Up Do)(vs:Up V)(v:V):Prop:=
 match b,a,vs with
 | .len,[t],[x]=>BN1 P H t x=some v
 | .cap,[t],[x]=>AP2 P H t x=some v
 |_,_,_=>False
theorem XV{P:If}{o:Oper}{fr:Fr}{H:A5}{b:Builtin}{v:V}(X:o.op= .call c)(d:c.callee= .builtin b)
 (h:RU P H b c.argTypes.toList (c.args.toList.map (ev fr)) v){K:V->A5->Prop}(k:K v H):K0 P o fr H K:=by
 obtain⟨e,args,a⟩:=c
 simp only at d h
 subst d;obtain⟨args⟩:=args;obtain⟨a⟩:=a
 simp only at h
 unfold RU at h
 split at h
 ·rename_i t x e2
  match args,e2 with
  |[y],e2=>
   simp only[D2,G8,U1,P7]at e2
   grind[Br7]
  |[],e2=>simp at e2
  |_::_::_,e2=>simp at e2
 ·rename_i t x e2
  match args,e2 with
  |[y],e2=>
   simp only[D2,G8,U1,P7]at e2
   grind[Br9]
  |[],e2=>simp at e2
  |_::_::_,e2=>simp at e2
 exact h.elim
theorem UN{H:A5}(B:∀id b,H id=some b->H' id=some b){id:Nat}{p:Nat×Up V}(h:Lp H id=some p):Lp H' id=some p:=by
 have:=IJ (sz:=p.1) (xs:=p.2) h
 simp_all[Lp]
def AK9{P:If}{H:A5}{x v:V}(B:∀id b,H id=some b->H' id=some b)(h:Rh P H t x=some v):Rh P H' t x=some v:=by
 unfold Rh at h ⊢
 grind[UN]
theorem Bj3{P:If}{H:A5}{x v:V}{i:Int}(B:∀id b,H id=some b->H' id=some b)(h:AM2 P H t x i=some v):AM2 P H' t x i=some v:=by
 unfold AM2 at h ⊢
 grind[UN]
theorem Aq6{P:If}{H:A5}{x v:V}{i j k:OS Int}(B:∀id b,H id=some b->H' id=some b)(h:PA P H t x i j k=some v):PA P H' t x i j k=some v:=by
 unfold PA at h ⊢
 grind[UN]
theorem Bi6{P:If}{H:A5}{b:Builtin}{a:Up Do}{vs:Up V}{v:V}(B:∀id b,H id=some b->H' id=some b)(h:RU P H b a vs v):RU P H' b a vs v:=by
 unfold RU at h ⊢
 split at h
 ·exact h
 ·rename_i t x
  unfold AP2 at h ⊢
  grind[Lp]
 omega
def ownN (x:V):Nat:=
 match x with
 | .own _ _ n=>n.toNat
 |_=>0
def Kg (H:A5) (K:V->A5->Prop) (sz by_:Nat) (z:V) (x:V) (ys:Up V):Prop:=
 match x with
 | .own id lo n=>∃xs,H id=some (.arr sz xs)/\
  (lo+n+(ys.length:Nat)<=(xs.length:Nat)->K (.own id lo (n+(ys.length:Nat))) (upd H id (some (.arr sz (Cp xs (lo+n).toNat ys)))))/\
  ((xs.length:Nat)<lo+n+(ys.length:Nat)->(n.toNat+ys.length)*by_<=140737488355328/\∀t k,H t=none->K (.own t 0 (n+(ys.length:Nat))) (upd H t (some (.arr sz (P2 xs lo n++ys++List.replicate k z)))))
 |x=>(x= .sl [] .nil\/x= .sl [] .full)/\ys.length*by_<=140737488355328/\∀t k,H t=none->K (.own t 0 (ys.length:Nat)) (upd H t (some (.arr sz (ys++List.replicate k z))))
theorem Of{H:A5}{K a:V->A5->Prop}{sz by_:Nat}{z x:V}{ys:Up V}(h:Kg H K sz by_ z x ys)(S:∀v H',K v H'->a v H'):Kg H a sz by_ z x ys:=by
 unfold Kg at h ⊢
 grind
def TI (P:If) (H:A5) (K:V->A5->Prop):Up Do->Up V->Prop
 | [b,a],[x,y]=>
  ∃ e sz by_ z,Ic P b=some e/\Hk P e=some sz/\0<sz/\UI P e=some by_/\0<by_/\Lr P e=some z/\z.one=true/\z.cells.length=sz/\
   (((Ic P a).isSome=true/\∃ys',Wb sz H y ys'/\Kg H K sz by_ z x ys')\/
    ((∃k',P.underlying a=some (.int k'))/\∃k m,y= .int k m/\0<=m/\(ownN x+m.toNat)*by_<=140737488355328/\Kg H K sz by_ z x (List.replicate m.toNat z))\/
    (P.underlying a=some .string/\∃s,y= .str s/\sz=1/\Kg H K sz by_ z x (Id s)))
 |_,_=>False
def agO{P:If}{o:Oper}{fr:Fr}{H:A5}(X:o.op= .call c)(d:c.callee= .builtin .append){K:V->A5->Prop}
 (h:TI P H K c.argTypes.toList (c.args.toList.map (ev fr))):K0 P o fr H K:=by
 obtain⟨D,args,r⟩:=c
 simp only at d h
 subst d;obtain⟨args⟩:=args;obtain⟨r⟩:=r
 simp only at h
 unfold TI at h
 split at h
 ·rename_i G J x I e2
  match args,e2 with
  | [s,y],e2=>
   simp only[D2,G8,U1,P7]at e2
   obtain⟨e,sz,by_,z,v,w,N,f,g,j,q,t,h⟩:=h
   rcases h with⟨b,ys',i,a⟩|⟨⟨k',b⟩,k,m,i,l,u,a⟩|⟨b,F,i,l,a⟩
   ·unfold Kg at a
    grind[Aq9,Ah4]
   ·have p:((m.toNat:Nat):Int)=m:=AY
    unfold Kg at a
    simp only[UV,p]at a
    split at a
    ·rename_i id lo n;obtain⟨xs,A,B,C⟩:=a;exact Ah2 X e2.1 (e2.2.trans i) A v b w N f g j q t l u B λe=>(C e).2
    grind[eps]
   subst l
   unfold Kg at a
   grind[Ah3,inn]
  |[],e2=>simp at e2
  |[_],e2=>simp at e2
  |_::_::_::_,e2=>simp at e2
 exact h.elim
def AB9 (P:If) (H:A5) (K:V->A5->Prop):Up Do->Up V->Prop
 | [a,_],[.own id lo n,y]=>
  ∃e sz xs ys',Ic P a=some e/\Hk P e=some sz/\0<sz/\H id=some (.arr sz xs)/\Wb sz H y ys'/\
   K (.int .i64 (if n<(ys'.length:Nat)then n else(ys'.length:Nat))) (upd H id (some (.arr sz (Cp xs lo.toNat (ys'.take n.toNat)))))
 |_,_=>False
def AB8{P:If}{o:Oper}{fr:Fr}{H:A5}(X:o.op= .call c)(d:c.callee= .builtin .copy){K:V->A5->Prop}
 (h:AB9 P H K c.argTypes.toList (c.args.toList.map (ev fr))):K0 P o fr H K:=by
 obtain⟨b,args,a⟩:=c
 simp only at d h
 subst d;obtain⟨args⟩:=args;obtain⟨a⟩:=a
 simp only at h
 unfold AB9 at h
 split at h
 ·rename_i e k id lo n i e2
  match args,e2 with
  |[s,y],e2=>
   simp only[D2,G8,U1,P7]at e2
   grind[Be7]
  |[],e2=>simp at e2
  |[_],e2=>simp at e2
  |_::_::_::_,e2=>simp at e2
 exact h.elim
def YD (P:If) (H:A5) (K:V->A5->Prop):Up Do->Up V->Prop
 |[a],[.own id lo n]=>
  ∃e sz z xs,Ic P a=some e/\Hk P e=some sz/\0<sz/\Lr P e=some z/\z.one=true/\z.cells.length=sz/\H id=some (.arr sz xs)/\K (.tup []) (upd H id (some (.arr sz (Cp xs lo.toNat (List.replicate n.toNat z)))))
 |_,_=>False
def Al9{P:If}{o:Oper}{fr:Fr}{H:A5}(X:o.op= .call c)(d:c.callee= .builtin .clear){K:V->A5->Prop}
 (h:YD P H K c.argTypes.toList (c.args.toList.map (ev fr))):K0 P o fr H K:=by
 obtain⟨b,args,a⟩:=c
 simp only at d h
 subst d;obtain⟨args⟩:=args;obtain⟨a⟩:=a
 simp only at h
 unfold YD at h
 split at h
 ·rename_i e id lo n e2
  match args,e2 with
  |[s],e2=>
   simp only[D2,G8,U1,P7]at e2
   grind[AH7]
  |[],e2=>simp at e2
  |_::_::_,e2=>simp at e2
 exact h.elim
def Vy (P:If) (H:A5) (K:V->A5->Prop) (t:Do) (l c:V):Prop:=
 match l,c with
 | .int _ n,.int _ m=>∃e sz by_ z,Ic P t=some e/\Hk P e=some sz/\0<sz/\UI P e=some by_/\0<by_/\Lr P e=some z/\z.one=true/\z.cells.length=sz/\0<=n/\n<=m/\m*by_<=281474976710656/\
  ∀id,H id=none->K (.own id 0 n) (upd H id (some (.arr sz (List.replicate m.toNat z))))
 |_,_=>False
def Sq (P:If) (o:Oper) (a:By->V) (H:A5) (v:V):Prop:=
 match o.op with
 | .move x=>v=a x
 | .assign x=>v=a x
 | .pick c x y=>
  match a c with
  | .bool t=>v=if t then a x else a y
  |_=>False
 | .box _ x=>(a x).one=true/\v= .eref (a x).cells 0
 | .build t k=>UK P t (k.toList.map λp=>(p.1,a p.2))=some v
 | .buildSlice t n k=>CR P t n (k.toList.map λp=>(p.1,a p.2))=some v
 | .makeSlice t l c=>Bx1 P t (a l) (a c) v
 | .load t x=>Mu P H t (a x)=some v\/Rh P H t (a x)=some v
 | .nilCheck x=>AV5 (a x)=true/\v=a x
 | .binOp e t x y _=>Wa P e t (a x) (a y)=some v
 | .unOp e _ x=>unV e (a x)=some v
 | .convert s d x=>Ae4 P s d (a x)=some v\/Ae5 P H s d (a x) v
 | .lookup t x y ok=>QI P H t (a x) (a y) ok v
 | .makeInterface t x=>ifO P t=false/\v= .iface t (a x)
 | .makeFunc fn fs cs=>v= .func fn (fs.toList.map a) (cs.toList.map a)
 | .slice t x lo U r=>
  match Ey (lo.map a),Ey (U.map a),Ey (r.map a)with
  |some l,some h,some m=>WZ P t (a x) l h m=some v\/PA P H t (a x) l h m=some v
  |_,_,_=>False
 | .fieldAddr t x f=>Li P t (a x) f=some v
 | .field t x f=>Yr P t (a x) f=some v
 | .indexAddr t x y=>
  match a y with
  | .int _ i=>(∃u,GJ P t (a x) i=some u/\DI u v)\/AM2 P H t (a x) i=some v
  |_=>False
 | .index t x y=>
  match a y with
  | .int _ i=>Uy P t (a x) i=some v
  |_=>False
 | .extract x n=>
  match a x with
  | .tup cs=>cs[n]? =some v
  |_=>False
 | .call c=>
  match c.callee with
  | .value x=>UR P (a x) (c.args.toList.map a) H v
  | .builtin b=>Fq P b c.argTypes.toList (c.args.toList.map a) v\/RU P H b c.argTypes.toList (c.args.toList.map a) v
  |_=>False
 |_=>False
def AK8{P:If}{H:A5}{x v:V}(B:∀id b,H id=some b->H' id=some b)(h:Mu P H t x=some v):Mu P H' t x=some v:=by
 unfold Mu at h ⊢
 grind
def Bu6{P:If}{o:Oper}{a:By->V}{H:A5}{v:V}(B:∀id b,H id=some b->H' id=some b)(h:Sq P o a H v):Sq P o a H' v:=by
 unfold Sq at h ⊢
 cases X:o.op<;>simp only[X]at h ⊢ <;>first|exact h|exact h.imp (AK8 B) (AK9 B)|exact h.imp (λh=>h) (AO4 B)|exact Ak1 B h|skip
 ·grind[Aq6]
 ·grind[Bj3]
 split at h
 ·exact h.up B
 ·grind[Bi6]
 exact h
theorem QD{P:If}{o:Oper}{fr:Fr}{H:A5}{v:V}(h:Sq P o (ev fr) H v){K:V->A5->Prop}(k:K v H):K0 P o fr H K:=by
 unfold Sq at h
 split at h
 ·grind[Ar0]
 ·grind[Xe]
 ·grind[Br5]
 ·grind[Ai1]
 ·grind[Bf3]
 ·grind[evt]
 ·grind[Be8]
 ·grind[Bs1,Be6]
 ·grind[Ah5]
 ·grind[Bf4]
 ·grind[Br4]
 ·grind[Ar6,Bf2]
 ·grind[AH8]
 ·grind[za1]
 ·grind[Ah8]
 ·grind[Be4,Aq8]
 ·grind[eds]
 ·grind[Bf0]
 ·grind[Br8,K0.le,inb]
 ·grind[Be9]
 ·grind[Ar5]
 ·rename_i c X
  split at h
  ·rename_i x d;obtain⟨a,args,b⟩:=c
   simp only at d h
   subst d;exact Ar7 X ((h H λ_ _ e=>e).mono λx H' ⟨t,e2⟩=>by rw[t,e2];exact k)
  ·grind[arO,XV]
  grind
 grind
def Ci0 (K:V->A5->Prop)(x:V)(H:A5):Prop:=∃y a,DI x y/\(∀id b,a id=some b->H id=some b)/\K y a
def Lv (P:If) (A:Zb) (o:Oper) (a:By->V) (H:A5) (K:V->A5->Prop):Prop:=
 match o.op with
 | .alloc t=>(∃z,Lr P t=some z/\z.one=true/\∀id,H id=none->∃ds,M7 z.cells ds/\K (.ref id 0) (upd H id (some (.cells ds))))\/
  Lr P t=some (.sl [] .nil)/\∃sz,∀q id,H q=none->upd H q (some (.arr sz [])) id=none->K (.ref id 0) (upd (upd H q (some (.arr sz []))) id (some (.cells [.own q 0 0])))
 | .box _ x=>
  (a x).one=true/\if A (o.dst.getD 0)then∀id,H id=none->K (.ref id 0) (upd H id (some (.cells (a x).cells)))else K (.eref (a x).cells 0) H
 | .store t x y=>(∃z H',DI (a y) z/\Rx P H t (a x) z=some H'/\K .bad H')\/∃z H',DI (a y) z/\Ag7 P H t (a x) z=some H'/\K .bad H'
 | .makeSlice t l c=>Vy P H K t (a l) (a c)\/Vy P H (Ax9 K) t (a l) (a c)
 | .assign x=>K (a x) H\/BT7 H K (a x)
 | .move x=>K (a x) H\/BT7 H K (a x)
 | .buildSlice t n i=>(∃v,Sq P o a H v/\K v H)\/litO P H K t n (i.toList.map λp=>(p.1,a p.2))
 | .makeMap t r=>r=none/\Bx0 H K
 | .mapUpdate t x y z=>Qx P H K t (a x) (a y) (a z)
 | .insert t x y z=>Qx P H K t (a x) (a y) (a z)
 | .range t x=>RE P H K t (a x)
 | .next x s=>s=false/\XI H K (a x)
 | .entry x=>Sc H K (a x)
 | .binOp h t x y _=>(∃v,Sq P o a H v/\K v H)\/∃q e p,Ba1 h=some q/\Ic P t=some e/\Bh8 (a x)=some p/\a y= .sl [] .nil/\(p->K (.bool q) H)/\K (.bool (!q)) H
 | .call c=>
  match c.callee with
  | .value x=>Ft P (a x) (c.args.toList.map a) H K
  | .builtin .append=>Ky P H K c.argTypes.toList (c.args.toList.map a)\/TI P H K c.argTypes.toList (c.args.toList.map a)\/Ky P H (Ci0 K) c.argTypes.toList (c.args.toList.map a)
  | .builtin .copy=>AB9 P H K c.argTypes.toList (c.args.toList.map a)
  | .builtin .clear=>YD P H K c.argTypes.toList (c.args.toList.map a)
  | .builtin b=>∃v,(Fq P b c.argTypes.toList (c.args.toList.map a) v\/RU P H b c.argTypes.toList (c.args.toList.map a) v)/\K v H
  |_=>False
 |_=>∃v,Sq P o a H v/\K v H
def AI0{P:If}{o:Oper}{fr:Fr}{H:A5}{K:V->A5->Prop}(X:o.op= .alloc t)(Y:Lr P t=some (.sl [] .nil))(sz:Nat)
 (h:∀q id,H q=none->upd H q (some (.arr sz [])) id=none->K (.ref id 0) (upd (upd H q (some (.arr sz []))) id (some (.cells [.own q 0 0])))):K0 P o fr H K:=by
 intro g w a C N;obtain⟨v,e,j⟩:=Fu Y
 have x:VR g w v (.sl [] .nil):=by rw[e];simp[GL]
 obtain⟨y,A,n,r,l⟩:=Hc C sz (.inl rfl) x;obtain⟨g',id,i,s,b,k⟩:=MH n t l rfl;unfold execOp;rw[X];simp only[Instr.alloc,B9,j,B5,J3];exact⟨g',_,_,A.trans s,b,k,h _ id r i⟩
def Rl.chgCells{H:A5}(h:Rl g H w){id:Nat}{cs ds:Up V}(S:H id=some (.cells cs))(N:cs.length=ds.length)
 (q:∀(j:Nat) u,j<cs.length->VR g w u (cs.getD j .bad)->VR g w u (ds.getD j .bad)):Rl g (upd H id (some (.cells ds))) w:=by
 have a:∀x,g.at (upd H id (some (.cells ds))) x=g.at H x:=by
  exact Px
 refine⟨λx k M=>?_,λx x' y O Z=>h.inj x x' y (a x▸O) (a x'▸Z),h.frz,λx M=>?_,h.bnd,h.glb⟩
 ·by_cases i:x=id
  ·subst i;rw[E7]at M;cases M
   obtain⟨b,c,T,O,Z,d,f,m,p⟩:=h.blk x _ S
   simp_all[EI]
  rw[C8 _ _ i]at M;exact h.blk x k M
 obtain⟨n,r,v⟩:=h.nxt x M
 have l:x≠id:=λe=>TQ
 simp_all[upd]
theorem AH9{P:If}{o:Oper}{fr:Fr}{H:A5}{K:V->A5->Prop}{z:V}(X:o.op= .alloc t)(Y:Lr P t=some z)(O:z.one=true)(h:∀id,H id=none->∃ds,M7 z.cells ds/\K (.ref id 0) (upd H id (some (.cells ds)))):K0 P o fr H K:=by
 intro g w a C k;refine(Bf5 (K:=λx H'=>∃id,H id=none/\x= .ref id 0/\H'=upd H id (some (.cells z.cells))) X Y O (λid b=>⟨id,b,rfl,rfl⟩) g w a C k).mono λv w' ⟨g',x,H',s,e,r,id,b,i,e2⟩=>?_;subst i;subst e2;obtain⟨ds,hle,n⟩:=h id b;have:=e.chgCells (E7 _ _ _) (ds:=ds) hle.length λj u _ l=>l.le (hle.at j)
 rw[BA]at this
 grind[O6]
def Bh6{P:If}{A:Zb}{o:Oper}{fr:Fr}{H:A5}{K:V->A5->Prop}(h:Lv P A o (ev fr) H K):K0 P o fr H K:=by
 unfold Lv at h
 split at h
 ·rename_i t X
  rcases h with⟨z,O,Z,a⟩|⟨O,sz,Z⟩
  ·grind[AH9]
  exact AI0 X O sz Z
 ·grind[rwB,Ai1]
 ·rename_i t x y X
  rcases h with⟨z,H',L,O,Z⟩|⟨z,H',L,O,Z⟩
  ·exact ZO X (λ_ _ _ h=>h.le L) O Z
  grind[AH6]
 ·rename_i t l c X
  have key:∀K,Vy P H K t (ev fr l) (ev fr c)->K0 P o fr H K:=by
   intro K h
   unfold Vy at h
   grind[Ar2]
  exact h.elim (key K) λh=>K0.lessRow (key _ h)
 ·rename_i x X;exact h.elim (Xe X) λ⟨O,sz,Z⟩=>Vq (.inl X) O sz Z
 ·rename_i x X;exact h.elim (Ar0 X) λ⟨O,sz,Z⟩=>Vq (.inr X) O sz Z
 ·rename_i t n N X
  rcases h with⟨v,O,Z⟩|⟨e,sz,xs,ys,O,Z,a,k,w⟩
  ·grind[QD]
  grind[Br6]
 ·rename_i t r X;obtain⟨rfl,h⟩:=h;exact h.elim (Ar1 X) λh=>h.elim (Ah7 X) (Ah6 X)
 ·grind[Au7]
 ·rename_i t x y z X;exact Au7 (.inr X) h
 ·rename_i t x X;exact Be5 X h
 ·rename_i x s X;obtain⟨rfl,h⟩:=h;exact Bs0 X h
 ·rename_i x X;exact Bf1 X h
 ·grind[QD,BI0]
 ·rename_i c X
  split at h
  ·rename_i x d;obtain⟨i,args,f⟩:=c
   grind[Ar7]
  ·rename_i d;exact h.elim (cf29 X d) λh=>h.elim (agO X d) λh=>K0.lessH (cf29 X d h)
  ·rename_i d;exact AB8 X d h
  ·rename_i d;exact Al9 X d h
  ·rename_i b _ _ _ d;obtain⟨v,O,Z⟩:=h;exact O.elim (λO=>arO X d O Z) λO=>XV X d O Z
  exact h.elim
 obtain⟨v,O,Z⟩:=h;exact QD O Z
def Fw (r:OS Nat):Fence:={fn:=λ_=>True,depth:=none,alive:=false,round:=r}
def YE{r:OS Nat}{P:If}{args:SI HO}(h:CallsIn Fence.wide 0 P f args w R):CallsIn (Fw r) 0 P f args w R:=h
def AI9{r:OS Nat}{P:If}{l:Nat}{a:SI HO}{c d:Code}(h:RoundIn Fence.wide 0 P l f a c d w R):RoundIn (Fw r) 0 P l f a c d w R:=h
def Av5{P:If}{A:Zb}{o:Oper}{a:By->V}{H:A5}{K:V->A5->Prop}(h:Lv P A o a H K):∀c,o.op≠ .defer c:=by
 grind[Lv,Sq]
def KV{P:If}{r:OS Nat}{o:Oper}{next:Act->Is->Prop}{Q:Exit->Act->Is->Prop}{K:HO->Is->Prop}{x:Result Next}(h:J3 P K x)
 (S:∀v w,K v w->next (a.put o.dst v) w):o.uponIn (Fw r) 0 P a next Q x:=by
 cases x with
 |halt x w=>exact h.elim
 | ok n w=>
  cases n<;>first
   |exact h.elim
   |exact S _ _ h
   |exact⟨λh=>by simp[Fw]at h,(YE h).mono λe w' ⟨v,t,e2⟩=>TQ⟩
   |exact⟨λh=>by simp[Fw]at h,(AI9 h).mono λe w' ⟨v,t,e2⟩=>TQ⟩
def Kb (nt:Nat):OS Tmp->Bool
 |some d=>d<nt
 |none=>true
def DC (ops:SI Oper) (fr:Fr) (o:Oper):OS Bool:=
 match o.guard with
 |none=>some true
 | some (j,a)=>
  match(ops[j]?).bind (·.dst)with
  |some d=>
   match fr.s d with
   | .bool b=>some (b==a)
   | .tup _=>some false
   |_=>none
  |none=>none
def MN (P:If) (A:Zb) (nt:Nat) (ops:SI Oper):Up Oper->Fr->A5->(Fr->A5->Prop)->Prop
 |[],fr,H,K=>K fr H
 | o::rest,fr,H,K=>
  Kb nt o.dst=true/\
   match DC ops fr o with
   |some true=>Lv P A o (ev fr) H λv H'=>MN P A nt ops rest (fr.put o.dst v) H' K
   |some false=>MN P A nt ops rest (fr.put o.dst (.tup [])) H K
   |none=>False
def End (nt:Nat)(g:Gh)(w:Is)(Q:Exit->Fr->A5->Prop)(e:Exit)(b:Act)(w':Is):Prop:=
 ∃g' a H',Al g w g' w'/\Rl g' H' w'/\FR nt g' w' b a/\Q e a H'
def Bn2 (g:Gh):OS Nat->OS Nat->Prop
 |none,r=>r=none
 |some id,r=>∃b,g.mu id=some b/\r=some b
def Bn2.mono{rd r:OS Nat}(h:Bn2 g rd r)(s:Al g w g' w'):Bn2 g' rd r:=by
 cases rd with
 |none=>exact h
 |some id=>have⟨b,O,Z⟩:=h;exact⟨b,s.mu _ _ O,Z⟩
def AB (P:If)(nt:Nat)(rd:OS Nat)(c:Code)(fr:Fr)(H:A5)(Q:Exit->Fr->A5->Prop):Prop:=
 ∀r g w a,Bn2 g rd r->Rl g H w->FR nt g w a fr->c.wpIn (Fw r) 0 P (End nt g w Q) a w
def End.later{nt:Nat}{Q:Exit->Fr->A5->Prop}{e:Exit}{w2:Is}(s:Al g w g' w')(h:End nt g' w' Q e a w2):End nt g w Q e a w2:=
 let⟨b,fr,H,i,x⟩:=h;⟨b,fr,H,s.trans i,x⟩
def End.mono{nt:Nat}{Q i:Exit->Fr->A5->Prop}(l:∀e fr H,Q e fr H->i e fr H){e:Exit}{w2:Is}(h:End nt g w Q e a w2):End nt g w i e a w2:=
 let⟨k,fr,H,s,a,b,c⟩:=h;⟨k,fr,H,s,a,b,l _ _ _ c⟩
def AB.mono {P:If}{nt:Nat}{rd:OS Nat}{c:Code}{fr:Fr}{H:A5}{Q Q':Exit->Fr->A5->Prop}(h:AB P nt rd c fr H Q)(i:∀e fr H,Q e fr H->Q' e fr H):AB P nt rd c fr H Q':=
 λr g w a k C b=>wpIn_mono (h r g w a k C b) λ_ _ _=>End.mono i
section
variable {P:Program}{nt:Nat}{rd:Option Nat}{fr:Fr}{H:A5}{Q:Exit->Fr->A5->Prop}
def AL{ops:SI Oper}{o:Oper}{b:Bool}(l:ER g w a fr)(h:DC ops fr o=some b):Region.wanted o (yielded ops a.tmps)=b:=by
 unfold DC at h
 unfold Region.wanted
 split at h
 ·simp_all
 rename_i j i n;simp only[n]
 split at h
 ·rename_i d hd
  split at h
  ·rename_i c k;cases h;have:=l d
   rw[k]at this
   have e:=this.bool_inv
   have r:a.tmps[d]? =some (.bool c):=by
    rw[Q0]at e
    cases M:a.tmps[d]? with
    |none=>rw[M]at e;simp[undef]at e
    |some y=>rw[M]at e;grind
   simp only[yielded,hd,A4,r];cases c<;>cases i<;>rfl
  ·rename_i vs k;cases h;have:=l d
   rw[k]at this
   have e:∃us,a.tmps.getD d undef= .tuple us:=by
    generalize a.tmps.getD d undef=z at this
    cases this with
    |tup O Z=>simp_all
   have⟨us,e⟩:=e
   have I:yielded ops a.tmps j=none:=by
    unfold yielded;simp only[hd,A4]
    rw[Q0]at e
    grind
   rw[I];cases i<;>rfl
  cases h
 cases h
def ZH{A:Zb}{r:OS Nat}{o:Oper}{K:V->A5->Prop}{next:Act->Is->Prop}{Q:Exit->Act->Is->Prop}(C:Rl g H w)(i:FR nt g w a fr)(hd:Kb nt o.dst=true)
 (h:Lv P A o (ev fr) H K)(S:∀g' w' e v H',Al g w g' w'->Rl g' H' w'->FR nt g' w' e (fr.put o.dst v)->K v H'->next e w'):o.wpIn (Fw r) 0 P a w next Q:=by
 refine⟨λ_ _=>trivial,?_⟩;rw[GQ _ _ _ (Av5 h)];refine KV (Bh6 h g w a C i.s) λv w' ⟨g',x,H',s,b,j,k⟩=>?_;refine S g' w' _ x H' s b ((i.mono s).put (λt l=>?_) j) k
 rw[l]at hd;grind[Kb]
def XH {A:Zb} {ops:SI Oper} {r:OS Nat} {K:Fr->A5->Prop} {Q:Exit->Act->Is->Prop} {g0:Gh} {w0:Is} (y:∀g w a fr H,Al g0 w0 g w->Rl g H w->FR nt g w a fr->K fr H->Q .normal a w):
 ∀(m i:Nat) (fr:Fr) (H:A5),i+m=ops.size->MN P A nt ops (ops.toList.drop i) fr H K->∀g w a,Al g0 w0 g w->Rl g H w->FR nt g w a fr->wpOpsIn (Fw r) 0 P ops Q (List.range' i m) a w
 |0,i,fr,H,U,h,g,w,a,s,C,b=>by
  have:ops.toList.drop i=[]:=by simp;omega
  rw[this]at h
  exact y g w a fr H s C b h
 | m+1,i,fr,H,U,h,g,w,a,s,C,b=>by
  have x:i<ops.toList.length:=by simp;omega
  have e:i<ops.size:=AY
  rw[P1 x]at h
  simp only[MN,Pd]at h
  have⟨hd,h⟩:=h;simp only[Ip,wpOpsIn,DX e];have ih:=XH (A:=A) (ops:=ops) (r:=r) (K:=K) y m (i+1)
  split at h
  ·rename_i n;rw[A2 (AL b.s n)];exact ZH C b hd h λg' w' N v H' f l k c=>ih _ _ AY c g' w' N (s.trans f) l k
  ·rename_i n;rw[A1 (by rw[AL b.s n];simp)];refine⟨λ_ _=>trivial,ih _ _ AY h g w _ s C (b.put (λt d=>?_) (VR.und _ _))⟩
   rw[d]at hd;grind[Kb]
  grind
def AB.region {A:Zb} {id:Nat} {ops:SI Oper} (h:MN P A nt ops ops.toList fr H (Q .normal)):AB P nt rd (.region id ops false) fr H Q:=by
 intro r g w a l C e;refine wpIn_region ?_
 have:=XH (P:=P) (A:=A) (nt:=nt) (ops:=ops) (r:=r) (K:=Q .normal) (Q:=End nt g w Q) (g0:=g) (w0:=w) (λg' w' k b H' s C e i=>⟨g',b,H',s,C,e,i⟩) ops.size 0 fr H AY
  Pw g w a (Al.refl _ _) C e
 rwa[<-Ju]at this
def AB.skip (h:Q .normal fr H):AB P nt rd .skip fr H Q:=λr g w a e C b=>wpIn_skip ⟨g,fr,H,Al.refl _ _,C,b,h⟩
def AB.ret (h:Q .ret fr H):AB P nt rd .ret fr H Q:=λr g w a e C b=>wpIn_ret ⟨g,fr,H,Al.refl _ _,C,b,h⟩
def AB.exit {id:Nat}(h:Q (.exit id) fr H):AB P nt rd (.exit id) fr H Q:=λr g w a e C b=>wpIn_exit ⟨g,fr,H,Al.refl _ _,C,b,h⟩
def AB.seq {x y:Code}(h:AB P nt rd x fr H λe b H'=>match e with| .normal=>AB P nt rd y b H' Q|e=>Q e b H'):AB P nt rd (.seq x y) fr H Q:=by
 intro r g w a l C v;refine wpIn_seq (wpIn_mono (h r g w a l C v) λe n w' ⟨g',b,H',s,k,i,c⟩=>?_)
 cases e with
 |normal=>exact wpIn_mono (c r g' w' n (l.mono s) k i) λ_ _ _=>End.later s
 |_=>exact⟨g',b,H',s,k,i,c⟩
def AB.cond {c:By}{x y:Code}{t:Bool}(d:ev fr c= .bool t)(O:t=true->AB P nt rd x fr H Q)(Z:t=false->AB P nt rd y fr H Q):AB P nt rd (.cond c x y) fr H Q:=by
 intro r g w a e C b;have j:=G2 C b.s c
 rw[d]at j
 refine wpIn_cond j.bool_inv ?_;cases t
 ·exact Z rfl r g w a e C b
 exact O rfl r g w a e C b
def AB.block {id:Nat} {c:Code} (h:AB P nt rd c fr H λe b H'=>match e with| .exit i=>if i=id then Q .normal b H' else Q (.exit i) b H'|e=>Q e b H'):AB P nt rd (.block id c) fr H Q:=by
 intro r g w a x C n;refine wpIn_block (wpIn_mono (h r g w a x C n) λe y w' ⟨g',b,H',s,l,k,v⟩=>?_)
 cases e with
 |exit i=>
  simp only[Exit.inBlock]
  grind[End]
 |_=>exact⟨g',b,H',s,l,k,v⟩
theorem AB.loopN{c:Code}(I:Nat->Fr->A5->Prop)(Y:Nat)(L:I Y fr H)
 (t:∀n fr H,I n fr H->AB P nt rd c fr H λe D H'=>match e with| .normal=>∃M,M<n/\I M D H'|e=>Q e D H'):AB P nt rd (.loop c) fr H Q:=by
 intro r g w a X C O;intro b k cs S W q
 have key:∀n fr H,I n fr H->∀g' w' a,Al g w g' w'->Rl g' H w'->FR nt g' w' a fr->
  ∃e G w2,End nt g w Q e G w2/\ArrivesIn (Machine.fenced P (Fw r)) P (lone (b.atR a (.code c:: .inLoop c::k)) cs w') b k cs e G w2:=by
  intro n
  induction n using Nat.strongRecOn with
  | _ n ih=>
   intro fr H U g' w' a s C O;have⟨e,i,v,⟨u,y,J,A,d,N,j⟩,h⟩:=t n fr H U r g' w' a (X.mono s) C O b (.inLoop c::k) cs S W q
   cases e with
   |normal=>
    have⟨M,R,m⟩:=j;have⟨B,z,F,p,f⟩:=ih M R y J m u v i (s.trans A) d N;exact⟨B,z,F,p,.of_steps (StepsIn.trans h (.one (fenced_calm W q rfl) stepR_inLoop)) f⟩
   |exit id=>exact⟨_,i,v,⟨u,y,J,s.trans A,d,N,j⟩,.pass (x:=.inLoop c) rfl (λ_ _=>.inl OC) h⟩
   |goto l=>exact⟨_,i,v,⟨u,y,J,s.trans A,d,N,j⟩,.pass (x:=.inLoop c) rfl (λ_ _=>.inl OC) h⟩
   |ret=>exact⟨_,i,v,⟨u,y,J,s.trans A,d,N,j⟩,.pass (x:=.inLoop c) rfl (λ_ _=>.inl OC) h⟩
   |panic Z=>exact⟨_,i,v,⟨u,y,J,s.trans A,d,N,j⟩,.pass (x:=.inLoop c) rfl (λ_ _=>.inl OC) h⟩
   |outgrown=>exact⟨_,i,v,⟨u,y,J,s.trans A,d,N,j⟩,.pass (x:=.inLoop c) rfl (λ_ _=>.inl OC) h⟩
 have⟨e,G,w',j,h⟩:=key _ fr H L g w a (Al.refl _ _) C O;exact⟨e,G,w',j,.of_steps (.one (fenced_calm W q rfl) stepR_loop) h⟩
def AB.loop {c:Code} (I:Fr->A5->Prop) (h:Fr->A5->Nat) (L:I fr H)
 (b:∀fr H,I fr H->AB P nt rd c fr H λe a H'=>match e with| .normal=>I a H'/\h a H'<h fr H|e=>Q e a H'):AB P nt rd (.loop c) fr H Q:=
 AB.loopN (λn fr H=>I fr H/\h fr H=n) _ ⟨L,rfl⟩ λn fr H ⟨i,k⟩=>(b fr H i).mono λe a H' l=>by
  grind
def AB.less {c:Code}{e:Fr}{H':A5}(h:AB P nt rd c e H' Q)(G:∀t,Wk (fr.s t) (e.s t))(hd:e.df=fr.df)(B:∀id b,H' id=some b->H id=some b):AB P nt rd c fr H Q:=by
 intro r g w a k C i;refine h r g w a k (C.less B) ⟨i.size,λt=>G t _ _ _ (i.s t),?_⟩;rw[hd];exact i.df
def AB.freeze {c:Code} {t id off:Nat} {cs:Up V} (n:fr.s t= .ref id off) (S:H id=some (.cells cs)) (h:AB P nt rd c (fr.put (some t) (.eref cs off)) (upd H id none) Q):AB P nt rd c fr H Q:=by
 intro r g w a l C k;have⟨g',s,i,j⟩:=C.freeze S;refine wpIn_mono (h r g' w a (l.mono s) i ?_) λ_ _ _=>End.later s;have b:=k.mono s;refine⟨b.size,λx=>?_,b.df⟩;simp only[Fr.put]
 split
 ·rename_i e;subst e;have:=k.s x
  rw[n]at this
  simp_all
 exact b.s x
end
def ED (P:If) (fr:Fr) (H:A5):Up ResultVar->OS (Up V)
 |[]=>some []
 | .tmp t::r=>(ED P fr H r).map (fr.s t:: ·)
 | .cell a t::r=>
  match Mu P H t (fr.s a),ED P fr H r with
  |some v,some l=>some (v::l)
  |_,_=>none
def Vx:Up V->V
 |[x]=>x
 |l=>.tup l
def BQ0 (H:A5)(df:Up Nat):Prop:=df.Nodup/\∀id∈df,H id=some (.obj (.deferred (some [])))
def clear (H:A5)(df:Up Nat):A5:=λx=>if x∈df then none else H x
section
variable {P:Program}
def Bx8{H:A5}(C:Rl g H w){v:HO}{X x:V}(i:VR g w v X)(B:Mu P H t X=some x):
 ∃b q u,v= .pointer (some ⟨b,q,none⟩)/\(loadVar t ⟨b,q,none⟩).run P w= .ok u w/\VR g w u x:=by
 unfold Mu at B
 split at B
 ·rename_i k sz cs off a G
  cases i with
  |eref vs n m O e=>
   rename_i b q;have⟨u,h,l⟩:=KX (P:=P) (g:=g) (w:=w) (b:=b) (q:=q) (cs:=cs) (λj z=>⟨vs j,m j z,O j z,e j z⟩) a G B
   grind
 ·rename_i k sz id off a G
  cases i with
  | ref p=>
   rename_i b
   split at B
   ·rename_i cs S;have⟨u,h,l⟩:=KX (P:=P) (VO C S p) a G B
    rw[P0]at h
    grind
   cases B
 cases B
def PH {nt:Nat} {g:Gh} {w:Is} {H:A5} {a:Act} {fr:Fr} (C:Rl g H w) (e:ER g w a fr):∀(y:Up ResultVar) (l:Up V),ED P fr H y=some l->
 ∃vs:Up HO,(y.mapM (m:=Sem) λ| .tmp t=>pure (a.tmps.getD t undef)| .cell x t=>do loadVar t (<-asAddr (a.tmps.getD x undef))).run P w= .ok vs w/\vs.length=l.length/\
  ∀i,i<l.length->VR g w (vs.getD i undef) (l.getD i .bad)
 |[],l,h=>by simp_all[ED]
 | .tmp t::r,l,h=>by
  simp only[ED]at h
  cases k:ED P fr H r with
  |none=>grind
  |some n=>
   simp only[k,K1,E5]at h
   subst h;have⟨vs,O,Z,N⟩:=PH (nt:=nt) C e r n k;refine⟨a.tmps.getD t undef::vs,?_,by simp[Z],λi U=>?_⟩
   ·simp_all
   cases i with
   |zero=>exact e t
   |succ i=>simp_all
 | .cell x t::r,l,h=>by
  simp only[ED]at h
  split at h
  ·rename_i v n j k;cases h;have⟨vs,O,Z,N⟩:=PH (nt:=nt) C e r n k;have⟨b,q,u,c,e2,d⟩:=Bx8 C (e x) j;refine⟨u::vs,?_,by simp[Z],λi U=>?_⟩
   ·have f:(asAddr (.pointer (some ⟨b,q,none⟩))).run P w= .ok ⟨b,q,none⟩ w:=rfl
    simp_all
   grind
  cases h
def As9{nt:Nat}{H:A5}{fr:Fr}{fn:Func}(C:Rl g H w)(e:ER g w a fr){l:Up V}(h:ED P fr H fn.results.toList=some l):
 ∃v,(results fn a.tmps).run P w= .ok v w/\VR g w v (Vx l):=by
 have⟨vs,O,Z,b⟩:=PH (nt:=nt) C e _ _ h
 have p:(results fn a.tmps).run P w= .ok (if h:vs.toArray.size=1 then vs.toArray[0]else .tuple vs.toArray) w:=by
  unfold results;rw[Array.mapM_eq_mapM_toList];simp only[B9,Sem.run_map]
  erw [O]
  rfl
 refine⟨_,p,?_⟩
 match l,vs,Z,b with
 |[x],[v],_,b=>simp_all[Vx]
 |[],[],_,_=>exact .tup rfl λi U=>by simp at U
 |x::y::l,u::v::vs,Z,b=>
  simp only[Jp,K8,Vx];rw[dif_neg AY];refine .tup AY λi U=>?_;have:=b i U
  simp_all
def Ab6 {nt:Nat} {fn:Func} {a:Act} {R:Ending->Is->Prop} {g:Gh} {fr:Fr} {l:Up V}:∀(df:Up Nat) (bs:Up Nat) (H:A5) (w:Is),Rl g H w->ER g w a fr->bs.length=df.length->
 (∀i,i<bs.length->g.mu (df.getD i 0)=some (bs.getD i 0))->BQ0 H df->ED P fr (clear H df) fn.results.toList=some l->
 (∀w' v,Al g w g w'->Rl g (clear H df) w'->VR g w' v (Vx l)->R (.returned v) w')->
 LeavesInM Fence.wide 0 P fn a.tmps R (bs.map λb=>{target:=.collected b,args:= #[]}) .returning w
 |[],[],H,w,C,d,_,_,_,B,c=>by
  have n:clear H []=H:=by funext x;simp[clear]
  rw[n]at B c
  have⟨v,O,Z⟩:=As9 (nt:=nt) C d B;exact⟨v,O,c w v (Al.refl _ _) C Z⟩
 | id::df,b::bs,H,w,C,d,u,N,r,B,c=>by
  have W:g.mu id=some b:=N 0 OC;have S:=r.2 id OC;have q:=List.nodup_cons.1 r.1;have⟨s,f⟩:=C.putObj (o':=.deferred none) S W rfl;have⟨b',O,Z,z,D⟩:=C.blk id _ S
  rw[W]at O;cases O
  refine⟨OC,.inl ⟨b,w.putObj b (.deferred none),rfl,run_takeDeferred z,?_⟩⟩
  have p:∀k b',(upd H id none) k=some b'->(upd H id (some (.obj (.deferred none)))) k=some b':=by
   simp_all[upd]
  have n:clear (upd H id none) df=clear H (id::df):=by
   funext x
   grind[clear,upd]
  refine Ab6 (nt:=nt) df bs (upd H id none) (w.putObj b (.deferred none)) (f.less p) (d.mono s) TQ (λi U=>?_) ⟨q.2,λk m=>?_⟩ (by rw[n];exact B) λw' v A y j=>?_
  ·have:=N (i+1) Pw
   simp_all
  ·have t:k≠id:=λe=>TQ
   rw[C8 _ _ t];exact r.2 k (by simp[m])
  rw[n]at y
  exact c w' v (s.trans A) y j
 |[],_::_,_,_,_,_,h,_,_,_,_=>by simp at h
 |_::_,[],_,_,_,_,h,_,_,_,_=>by simp at h
def Ret (P:If)(fn:Func)(K:V->A5->Prop)(e:Exit)(fr:Fr)(H:A5):Prop:=
 (e= .normal\/e= .ret)/\BQ0 H fr.df/\∃l,ED P fr (clear H fr.df) fn.results.toList=some l/\K (Vx l) (clear H fr.df)
def entry (args:Up V):Fr:=⟨λt=>args.getD t .bad,[]⟩
def drv{fn:Func}{c:Code}{args:Up V}{H:A5}{K:V->A5->Prop}(q:P.funcs[f]? =some fn)(W:fn.body=some c)(b:∀vals w,(callFunc f vals).run P w= .ok (.enter f vals) w)
 (I:args.length<=fn.ntmps)(h:AB P fn.ntmps none c (entry args) H (Ret P fn K)):L5 P f args H K:=by
 intro g w vals C N;rw[b]
 show CallsIn Fence.wide 0 P f vals w _
 refine callsIn_of_wp_marks q W trivial ?_
 have m:FR fn.ntmps g w {tmps:=vals++Array.replicate (fn.ntmps-vals.size) undef,defers:=[]} (entry args):=by
  refine⟨by have:=N.1;simp;omega,λt=>?_,⟨[],rfl,λi U=>by simp at U,rfl⟩⟩
  by_cases z:t<args.length
  ·have e:(vals++Array.replicate (fn.ntmps-vals.size) undef).getD t undef=vals.getD t undef:=by
    simp only[Q0,GX,N.1,A2 z]
   grind[entry,Args]
  have:(entry args).s t= .bad:=by simp_all[entry]
  rw[this];exact .bad _
 refine wpIn_mono (h none g w _ rfl C m) λe d w' ⟨g',n,H',s,r,k,u,y,l,B,p⟩=>?_;have⟨bs,A,D,F⟩:=k.df;have key:=Ab6 (P:=P) (nt:=fn.ntmps) (fn:=fn) (a:=d) (R:=λe w'=>∃v,e= .returned v/\O6 g w K v w') n.df bs H' w' r k.s A D y B λJ v G x j=>⟨v,rfl,g',_,_,s.trans G,x,j,p⟩
 rw[<-F]at key
 rcases u with rfl|rfl
 ·exact key
 exact key
end
def BO2:Op->Bool
 | .alloc _=>true
 |_=>false
def Ta:Op->Bool
 | .store _ _ _=>true
 |_=>false
def HU (o:Oper)(j:Nat):Bool:=o.after.any λe=>e.on==j&&Region.binds .any e
def DF (o:Oper)(i:Nat):Bool:=o.after.all λe=> !Region.binds .any e||e.on<i
def Qf (ops:SI Oper)(x y:Oper):Bool:=x.apart ops y&& !(Ta x.op&&Ta y.op)
def Ou (ops:SI Oper):Nat->Nat->Nat->Bool
 |0,i,j=>HU (ops.getD i default) j
 |n+1,i,j=>HU (ops.getD i default) j||(ops.getD i default).after.any λe=>Region.binds .any e&&(Nat.blt j e.on&&Ou ops n e.on j)
def Ug:Nat:=20
def Yz (ops:SI Oper) (k:Nat):Bool:=
 k <=ops.size&&(List.range ops.size).all λi=>
  DF (ops.getD i default) i&&
   (List.range i).all λj=>(i<k&&Qf ops (ops.getD j default) (ops.getD i default))||Ou ops Ug i j
section
variable {P:Program}{nt:Nat}{ops:Array Oper}{H0:A5}
def AT {α β:Type}{f g:α->β}:∀{l:Up α},(∀x∈l,f x=g x)->l.map f=l.map g
 |[],_=>rfl
 |x::l,h=>by rw[D2,D2,h x OC,AT λy I=>h y (by simp[I])]
def MM{α β:Type}{f g:α->β}:∀{l:OS α},(∀x∈l,f x=g x)->l.map f=l.map g
 |none,_=>rfl
 |some x,h=>by rw[K1,K1,h x rfl]
theorem Ul{o:Oper}{e ρ':By->V}{H:A5}{v:V}(a:∀x∈o.op.operands,e x=ρ' x)(h:Sq P o e H v):Sq P o ρ' H v:=by
 unfold Sq at h ⊢
 cases X:o.op<;>simp only[X]at h ⊢ a<;>first
  |exact h.elim
  | (simp only[Op.operands,Jl,Cx,EU,or_false,forall_eq_or_imp,forall_eq]at a
     first
      |(rw[<-a];exact h)
      |(rw[<-a.1,<-a.2];exact h)
      |(rw[<-a.1,<-a.2.1,<-a.2.2];exact h))
  |skip
 ·
  rename_i t k;exact zad
 ·rename_i t n k;exact zad
 ·rename_i fn fs cs
  rw[<-AT (l:=fs.toList) (f:=e) (g:=ρ') λp b=>a p (by simp only[Op.operands,LQ];simp_all),
   <-AT (l:=cs.toList) (f:=e) (g:=ρ') λp b=>a p (by simp only[Op.operands,LQ];simp_all)]
  exact h
 ·rename_i t x lo U r
  rw[<-a x (by simp[Op.operands]),<-MM (l:=lo) (f:=e) (g:=ρ') λp b=>a p (by simp[Op.operands,Option.mem_def.1 b]),
   <-MM (l:=U) (f:=e) (g:=ρ') λp b=>a p (by simp[Op.operands,Option.mem_def.1 b]),<-MM (l:=r) (f:=e) (g:=ρ') λp b=>a p (by simp[Op.operands,Option.mem_def.1 b])]
  exact h
 rename_i c;have i:c.args.toList.map e=c.args.toList.map ρ':=AT λp b=>a p (by simp only[Op.operands,Call.operands,LQ];simp_all);rw[<-i]
 cases d:c.callee<;>simp only[d]at h ⊢
 ·rename_i f;exact zc1
 exact h
def AN1{fr:Fr}{d:OS Tmp}{v:V}{x:By}(h:∀t,d=some t->x≠ .tmp t):ev (fr.put d v) x=ev fr x:=by
 cases d with
 |none=>rfl
 | some d=>
  cases x with
  |tmp t=>
   have a:t≠d:=λe=>h d rfl (by rw[e])
   grind[ev,Fr.put]
  |_=>rfl
def PY{fr:Fr}{d:OS Tmp}{v:V}(h:∀t,d=some t->t∉y.looksAt ops):∀x∈y.op.operands,ev (fr.put d v) x=ev fr x:=by
 intro x M;refine AN1 λt a e=>h t a ?_;subst e;exact Gz _ (List.mem_filterMap.2 ⟨.tmp t,Pw,rfl⟩)
def Vz{fr:Fr}{d:OS Tmp}{v:V}(h:∀t,d=some t->t∉y.looksAt ops):DC ops (fr.put d v) y=DC ops fr y:=by
 unfold DC
 cases i:y.guard with
 |none=>rfl
 | some p=>
  have⟨j,b⟩:=p
  dsimp only
  cases hd:(ops[j]?).bind (·.dst)with
  |none=>rfl
  | some t=>
   have a:∀d',d=some d'->t≠d':=by
    intro d' e e2;subst e2;refine h t e (Ma _ ?_)
    grind
   cases d with
   |none=>rfl
   |some d=>
    have:=a d rfl
    grind[Fr.put]
def Au2{fr:Fr}{d e:OS Tmp}{v u:V}(h:∀t,d=some t->e≠some t):(fr.put d v).put e u=(fr.put e u).put d v:=by
 cases d with
 |none=>rfl
 | some d=>
  cases e with
  |none=>rfl
  |some e=>
   have a:d≠e:=λx=>h d rfl (by rw[x]);simp only[Fr.put,Fr.mk.injEq,P7]
   funext t
   grind
def SC(H:A5){a b:Nat}(x y:OS FV)(h:a≠b):upd (upd H a x) b y=upd (upd H b y) a x:=by
 funext t
 grind[upd]
end
inductive Pk where
 |inl (d:Nat)
 |inr (n:Nat)
 |tk (d:Nat)
 |ex
deriving DecidableEq
def Pk.var:Pk->Bool
 | .tk _=>false
 | .ex=>false
 |_=>true
abbrev Pv:=Pk->OS (Up V)
def T8 (pv:Pv)(d:Pk)(cs:Up V):Pv:=λx=>if x=d then some cs else pv x
def X9 (pv:Pv):OS Tmp->Prop
 |some d=>pv (.inl d)=none/\pv (.tk d)=none
 |none=>True
def Ay (pv:Pv):OS Pk->Pv
 |some d=>λx=>if x=d then none else pv x
 |none=>pv
def XB{pv:Pv}{s:OS Pk}{x:Pk}(h:pv x=none):Ay pv s x=none:=by
 cases s with
 |none=>exact h
 |some d=>simp_all[Ay]
theorem Fd{pv:Pv}{s:OS Pk}{x:Pk}{c:Up V}(h:Ay pv s x=some c):pv x=some c/\∀d,s=some d->x≠d:=by
 cases s with
 |none=>simp_all[Ay]
 |some d=>
  simp_all[Ay]
theorem X2{pv:Pv}{s:OS Pk}{x:Pk}(h:∀d,s=some d->x≠d):Ay pv s x=pv x:=by
 cases s with
 |none=>rfl
 |some d=>simp_all[Ay]
def BO{pv:Pv}{d:Pk}{cs:Up V}(h:X9 (T8 pv d cs) D):X9 pv D:=by
 cases D with
 |none=>trivial
 |some e=>
  grind[X9,T8]
theorem AV{pv:Pv}{d:Pk}{cs:Up V}(h:X9 pv D)(a:∀e,D=some e->d≠ .inl e/\d≠ .tk e):X9 (T8 pv d cs) D:=by
 cases D with
 |none=>trivial
 |some e=>
  have O:(Pk.inl e:Pk)≠d:=λx=>(a e rfl).1 x.symm;have Z:(Pk.tk e:Pk)≠d:=λx=>(a e rfl).2 x.symm
  grind[X9,T8]
theorem MB{pv:Pv}{s:OS Pk}(h:X9 pv D):X9 (Ay pv s) D:=by
 cases D with
 |none=>trivial
 |some e=>exact⟨XB h.1,XB h.2⟩
def zay{pv:Pv}{s:OS Pk}(h:X9 (Ay pv s) D)(a:∀e k,D=some e->s=some k->k≠ .inl e/\k≠ .tk e):X9 pv D:=by
 cases D with
 |none=>trivial
 |some e=>
  refine⟨?_,?_⟩
  ·have:=h.1;rwa[X2 λk S x=>(a e k rfl S).1 x.symm]at this
  have:=h.2;rwa[X2 λk S x=>(a e k rfl S).2 x.symm]at this
def TO (fr:Fr)(pv:Pv)(d:Nat)(k:Pk)(off:Nat)(cs:Up V):Prop:=
 (k= .inl d/\off=0/\pv (.inl d)=some cs)\/∃id,k= .inr id/\fr.s d= .ref id off/\pv (.inl d)=none/\pv (.inr id)=some cs
theorem TO.at{fr:Fr}{pv:Pv}{off:Nat}{k:Pk}{cs:Up V}(h:TO fr pv d k off cs):pv k=some cs:=by
 rcases h with⟨rfl,_,h⟩|⟨id,rfl,_,_,h⟩<;>exact h
theorem TO.put {fr:Fr} {pv:Pv} {d off:Nat} {k:Pk} {cs:Up V} {D:OS Tmp} {v:V} (a:∀e,D=some e->d≠e):TO (fr.put D v) pv d k off cs<->TO fr pv d k off cs:=by
 have:(fr.put D v).s d=fr.s d:=by
  cases D with
  |none=>rfl
  |some e=>simp_all[Fr.put]
 simp_all[TO]
def TO.set{fr:Fr}{pv:Pv}{off:Nat}{k:Pk}{cs:Up V}{e:Nat}{c:Up V}(a:d≠e):TO fr (T8 pv (.inl e) c) d k off cs<->TO fr pv d k off cs:=by
 grind[TO,T8]
section
variable {P:Program}{nt:Nat}{ops:Array Oper}{H0:A5}
def VV (P:If)(ops:SI Oper)(H0:A5)(o:Oper)(fr:Fr)(v:V):Prop:=
 match DC ops fr o with
 |some true=>Sq P o (ev fr) H0 v
 |some false=>v= .tup []
 |none=>False
def AppC (P:If)(b h:Do)(xs ys a ys':Up V):Prop:=∃e sz by_ z,Ic P b=some e/\(Ic P h).isSome=true/\Hk P e=some sz/\0<sz/\UI P e=some by_/\0<by_/\Lr P e=some z/\z.one=true/\z.cells.length=sz/\
 M7 xs a/\M7 ys ys'/\a.all (λx=>x.cells.length==sz)=true/\ys'.all (λx=>x.cells.length==sz)=true/\(a.length+ys'.length)*by_<=140737488355328
def Oh (pv:Pv)(b:By)(a:G5):OS Pk->Prop
 |none=>a= .nil\/a= .full
 |some (.tk d)=>b= .tmp d/\a= .ro/\(pv (.tk d)).isSome=true
 |some .ex=>pv .ex=some [.sl [] a]
 |some _=>False
def Oh.key{pv:Pv}{e:By}{b:G5}{a:OS Pk}(h:Oh pv e b a):∀k,a=some k->(∃d,k= .tk d)\/k= .ex:=by
 intro k S;subst S
 cases k with
 |inl d=>exact h.elim
 |inr d=>exact h.elim
 |tk d=>simp_all
 |ex=>grind
def Oh.ninl{pv:Pv}{i:By}{b:G5}{a:OS Pk}(h:Oh pv i b a)(e:Nat):∀k,a=some k->Pk.inl e≠k:=by
 grind[Oh]
def PApp (P:If)(o:Oper)(fr:Fr)(pv:Pv)(e:OS Pk)(u:V):Prop:=
 o.guard=none/\∃h sy k l xs a ys i b ys',o.op= .call {callee:=.builtin .append,args:= #[h,sy],argTypes:= #[k,l]}/\ev fr h= .sl xs a/\ev fr sy= .sl ys i/\Oh pv h a e/\AppC P k l xs ys b ys'/\u= .sl (b++ys') .ro
def Kj (P:If)(ops:SI Oper)(H0:A5)(o:Oper)(fr:Fr)(pv:Pv)(u:V)(a:Pv):Prop:=
 (BO2 o.op=false/\Ta o.op=false/\VV P ops H0 o fr u/\a=pv)\/
 (∃t z d,o.op= .alloc t/\o.guard=none/\o.dst=some d/\Lr P t=some z/\z.one=true/\u= .bad/\a=T8 pv (.inl d) z.cells)\/
 (∃t d y k off cs,o.op= .store t (.tmp d) y/\o.guard=none/\TO fr pv d k off cs/\(ev fr y).one=true/\Hk P t=some (ev fr y).cells.length/\off+(ev fr y).cells.length<=cs.length/\u= .bad/\a=T8 pv k (Z7 cs off (ev fr y).cells))\/
 (∃d b,o.dst=some d/\PApp P o fr pv b u/\a=T8 (Ay pv b) (.tk d) [])
def Qo (P:If)(nt:Nat)(ops:SI Oper)(H0:A5)(o:Oper)(fr:Fr)(pv:Pv)(K:Fr->Pv->Prop):Prop:=
 (Kb nt o.dst=true/\X9 pv o.dst)/\∃u a,Kj P ops H0 o fr pv u a/\K (fr.put o.dst u) a
def Nz (P:If)(nt:Nat)(ops:SI Oper)(H0:A5):Up Oper->Fr->Pv->(Fr->Pv->Prop)->Prop
 |[],fr,pv,K=>K fr pv
 |o::rest,fr,pv,K=>Qo P nt ops H0 o fr pv λa b=>Nz P nt ops H0 rest a b K
def Yx{o:Oper}{fr:Fr}{pv:Pv}{K K':Fr->Pv->Prop}(h:Qo P nt ops H0 o fr pv K)(S:∀fr pv,K fr pv->K' fr pv):Qo P nt ops H0 o fr pv K':=
 let⟨O,u,a,Z,b⟩:=h;⟨O,u,a,Z,S _ _ b⟩
def Af4{o:Oper}{fr:Fr}{d:OS Tmp}{u v:V}(B:∀t,d=some t->t∉o.looksAt ops):VV P ops H0 o (fr.put d u) v<->VV P ops H0 o fr v:=by
 unfold VV;rw[Vz B];have R:=PY (fr:=fr) (v:=u) B
 grind[Ul]
def Fc(pv:Pv){a b:Pk}(x y:Up V)(h:a≠b):T8 (T8 pv a x) b y=T8 (T8 pv b y) a x:=by
 funext t
 grind[T8]
def KC(pv:Pv){a:Pk}(x:Up V){s:OS Pk}(h:∀d,s=some d->a≠d):Ay (T8 pv a x) s=T8 (Ay pv s) a x:=by
 cases s with
 |none=>rfl
 |some d=>
  funext t
  grind[Ay,T8]
def AJ5 (pv:Pv) (s a:OS Pk):Ay (Ay pv s) a=Ay (Ay pv a) s:=by
 cases s with
 |none=>rfl
 | some d=>
  cases a with
  |none=>rfl
  |some b=>
   funext t
   grind[Ay]
def NH{o:Oper}{e:Nat}{q:By}(X:o.op= .store t (.tmp e) q):e∈o.looksAt ops:=
 Gz _ (List.mem_filterMap.2 ⟨.tmp e,by simp[X,Op.operands],rfl⟩)
theorem AE0{o:Oper}{e:Nat}{sy:By}{a:SI Do}(X:o.op= .call {callee:=.builtin .append,args:= #[.tmp e,sy],argTypes:=a}):e∈o.looksAt ops:=
 Gz _ (List.mem_filterMap.2 ⟨.tmp e,by simp[X,Op.operands,Call.operands],rfl⟩)
def BS2{o:Oper}{fr:Fr}{pv pv':Pv}{d:OS Tmp}{w u:V}(B:∀t,d=some t->t∉o.looksAt ops)(h:Kj P ops H0 o fr pv u pv'):Kj P ops H0 o (fr.put d w) pv u pv':=by
 have R:=PY (fr:=fr) (v:=w) B
 rcases h with⟨O,Z,j,m⟩|h|⟨t,e,y,k,off,cs,X,b,c,e2,F,e4,g,G⟩|⟨e,i,hd,⟨b,x,sy,C,D,xs,l,ys,n,r,ys',X,p,q,s,z,A⟩,f⟩
 ·exact .inl ⟨O,Z,(Af4 B).2 j,m⟩
 ·grind[Kj]
 ·have I:ev (fr.put d w) y=ev fr y:=R y (by simp[X,Op.operands]);refine .inr (.inr (.inl ⟨t,e,y,k,off,cs,X,b,(TO.put λN a eq=>B N a (eq▸NH X)).2 c,?_,?_,?_,g,?_⟩))<;>rw[I]<;>assumption
 refine .inr (.inr (.inr ⟨e,i,hd,⟨b,x,sy,C,D,xs,l,ys,n,r,ys',X,?_,?_,s,z,A⟩,f⟩))
 ·rw[R x (by simp[X,Op.operands,Call.operands])];exact p
 rw[R sy (by simp[X,Op.operands,Call.operands])];exact q
def Bn4{o:Oper}{fr:Fr}{pv pv':Pv}{d:OS Tmp}{w u:V}(B:∀t,d=some t->t∉o.looksAt ops)(h:Kj P ops H0 o (fr.put d w) pv u pv'):Kj P ops H0 o fr pv u pv':=by
 have R:=PY (fr:=fr) (v:=w) B
 rcases h with⟨O,Z,s,z⟩|h|⟨t,e,y,k,off,cs,X,b,p,e2,x,e4,q,N⟩|⟨e,i,hd,⟨b,j,sy,F,G,xs,l,ys,n,r,ys',X,c,g,A,C,D⟩,f⟩
 ·exact .inl ⟨O,Z,(Af4 B).1 s,z⟩
 ·simp_all[Kj]
 ·have I:ev (fr.put d w) y=ev fr y:=R y (by simp[X,Op.operands])
  rw[I]at e2 x e4 N
  exact .inr (.inr (.inl ⟨t,e,y,k,off,cs,X,b,(TO.put λm a eq=>B m a (eq▸NH X)).1 p,e2,x,e4,q,N⟩))
 refine .inr (.inr (.inr ⟨e,i,hd,⟨b,j,sy,F,G,xs,l,ys,n,r,ys',X,?_,?_,A,C,D⟩,f⟩))
 ·rw[R j (by simp[X,Op.operands,Call.operands])]at c;exact c
 rw[R sy (by simp[X,Op.operands,Call.operands])]at g;exact g
def Az6{pv:Pv}(h:X9 pv D)(e:D=some d):pv (.inl d)=none:=by grind[X9]
def TO.key{fr:Fr}{pv:Pv}{off:Nat}{k:Pk}{cs:Up V}(h:TO fr pv d k off cs)(e:Nat):k≠ .tk e:=by
 rcases h with⟨rfl,_,_⟩|⟨id,rfl,_⟩<;>simp
def TO.keyx{fr:Fr}{pv:Pv}{off:Nat}{k:Pk}{cs:Up V}(h:TO fr pv d k off cs):k≠ .ex:=by
 rcases h with⟨rfl,_,_⟩|⟨id,rfl,_⟩<;>simp
def TO.nsrc{fr:Fr}{pv b:Pv}{off:Nat}{k:Pk}{cs:Up V}{l:By}{i:G5}{a:OS Pk}(h:TO fr pv d k off cs)(n:Oh b l i a):∀e,a=some e->k≠e:=by
 grind[TO,Oh]
def TO.congr{fr:Fr}{pv a:Pv}{off:Nat}{k:Pk}{cs:Up V}(h:TO fr pv d k off cs)(O:a (.inl d)=pv (.inl d))(Z:a k=pv k):TO fr a d k off cs:=by
 grind[TO]
def Oh.congr{pv a:Pv}{e:By}{b:G5}{src:OS Pk}(h:Oh pv e b src)(O:∀d,src=some d->a d=pv d):Oh a e b src:=by
 cases src with
 |none=>exact h
 |some d=>
  cases d with
  |inl d=>exact h
  |inr d=>exact h
  |tk d=>simp_all[Oh]
  |ex=>simp_all[Oh]
theorem K5{pv:Pv}{a b:Pk}{x:Up V}(h:b≠a):T8 pv a x b=pv b:=by simp[T8,h]
def BF5{x:Oper}{fr:Fr}{pv ad ae:Pv}{u v:V}(U:Qf ops x y=true)(M:Kj P ops H0 x fr pv u ad)(I:Kj P ops H0 y fr ad v ae)(A:X9 pv x.dst)(fy:X9 ad y.dst):
 ∃af,Kj P ops H0 y fr pv v af/\Kj P ops H0 x fr af u ae/\X9 pv y.dst/\X9 af x.dst:=by
 simp only[Qf,G9,P9]at U
 have⟨ak,ax⟩:=U;have⟨a1,a2,a3⟩:=Oper.apart_spec ak
 rcases M with⟨x1,x2,x3,rfl⟩|⟨t,z,d,X,m,hd,s,e2,L,rfl⟩|⟨t,d,p,k,off,cs,X,m,s,e2,L,e4,e5,rfl⟩|⟨d,N,hd,hP,rfl⟩
 ·
  refine⟨ae,I,.inl ⟨x1,x2,x3,rfl⟩,fy,?_⟩
  rcases I with⟨_,_,_,rfl⟩|⟨t,z,d,X,m,hd,s,e2,L,rfl⟩|⟨t,d,p,k,off,cs,X,m,s,e2,L,e4,e5,rfl⟩|⟨d,N,hd,hP,rfl⟩
  ·exact A
  ·grind[AV]
  ·refine AV A λe R=>⟨λx=>?_,s.key e⟩
   have:=s.at;rw[x,Az6 A R]at this;cases this
  grind[AV,MB]
 ·
  rcases I with⟨y1,y2,y3,rfl⟩|⟨t',z',d',a,b,h,i,g,j,rfl⟩|⟨t',d',p',k',f,cs',a,b,i,g,j,aa,ab,rfl⟩|⟨d',src',h,B,rfl⟩
  ·exact⟨pv,.inl ⟨y1,y2,y3,rfl⟩,.inr (.inl ⟨t,z,d,X,m,hd,s,e2,L,rfl⟩),BO fy,A⟩
  ·have ac:(Pk.inl d':Pk)≠ .inl d:=λe=>a2 d hd (by rw[h];cases e;rfl)
   exact⟨_,.inr (.inl ⟨t',z',d',a,b,h,i,g,j,rfl⟩),.inr (.inl ⟨t,z,d,X,m,hd,s,e2,L,Fc _ _ _ (Ne.symm ac)⟩),BO fy,
    AV A λe R=>⟨λx=>by rw[hd]at R;simp_all,OC⟩⟩
  ·have ac:d'≠d:=λe=>a1 d hd (e▸NH a)
   have S:k'≠ .inl d:=λe=>by
    rcases i with⟨q,_⟩|⟨id,q,_⟩
    ·rw[q]at e;simp_all
    simp_all
   have W:TO fr pv d' k' f cs':=i.congr (by rw[K5 λe=>TQ]) (by rw[K5 S])
   exact⟨_,.inr (.inr (.inl ⟨t',d',p',k',f,cs',a,b,W,g,j,aa,ab,rfl⟩)),.inr (.inl ⟨t,z,d,X,m,hd,s,e2,L,Fc _ _ _ (Ne.symm S)⟩),BO fy,
    AV A λe R=>⟨λx=>by rw[hd]at R;simp_all,W.key e⟩⟩
  have⟨b,F,sy,D,J,xs,l,ys,n,r,ys',a,Y,Z,w,q4,q5⟩:=B;refine⟨_,.inr (.inr (.inr ⟨d',src',h,⟨b,F,sy,D,J,xs,l,ys,n,r,ys',a,Y,Z,w.congr λe R=>(by rw[K5 λx=>w.ninl d e R x.symm]),q4,q5⟩,rfl⟩)),.inr (.inl ⟨t,z,d,X,m,hd,s,e2,L,?_⟩),BO fy,?_⟩
  ·rw[KC _ _ (w.ninl d),Fc _ _ _ OC]
  grind[AV,MB]
 ·
  rcases I with⟨y1,y2,y3,rfl⟩|⟨t',z',d',a,b,h,i,g,j,rfl⟩|⟨t',d',p',k',f,cs',a,_⟩|⟨d',src',h,B,rfl⟩
  ·exact⟨pv,.inl ⟨y1,y2,y3,rfl⟩,.inr (.inr (.inl ⟨t,d,p,k,off,cs,X,m,s,e2,L,e4,e5,rfl⟩)),BO fy,A⟩
  ·have ac:d≠d':=λe=>a3 d' h (e▸NH X)
   have S:k≠ .inl d':=λe=>by
    rcases s with⟨q,_⟩|⟨id,q,_⟩
    ·rw[q]at e;simp_all
    simp_all
   have W:TO fr (T8 pv (.inl d') z'.cells) d k off cs:=s.congr (by rw[K5 λe=>TQ]) (by rw[K5 S])
   exact⟨_,.inr (.inl ⟨t',z',d',a,b,h,i,g,j,rfl⟩),.inr (.inr (.inl ⟨t,d,p,k,off,cs,X,m,W,e2,L,e4,e5,Fc _ _ _ S⟩)),BO fy,
    AV A λe R=>⟨λx=>TQ,OC⟩⟩
  ·grind[Ta]
  have⟨b,F,sy,D,J,xs,l,ys,n,r,ys',a,Y,Z,w,q4,q5⟩:=B;have S:∀e,k≠ .tk e:=s.key;have hn:=s.nsrc w;have W:TO fr (T8 (Ay pv src') (.tk d') []) d k off cs:=s.congr (by rw[K5 OC,X2 (w.ninl d)]) (by rw[K5 (S _),X2 hn]);refine⟨_,.inr (.inr (.inr ⟨d',src',h,⟨b,F,sy,D,J,xs,l,ys,n,r,ys',a,Y,Z,w.congr λe R=>(by rw[K5 λx=>hn e R x.symm]),q4,q5⟩,rfl⟩)),.inr (.inr (.inl ⟨t,d,p,k,off,cs,X,m,W,e2,L,e4,e5,?_⟩)),BO fy,?_⟩
  ·rw[KC _ _ hn,Fc _ _ _ (S _)]
  grind[AV,MB]
 have au:∀k,N=some k->(∃e,k= .tk e)\/k= .ex:=by
  have⟨_,F,sy,D,J,xs,l,ys,n,r,ys',X,_,_,w,_⟩:=hP;exact w.key
 have av:∀e,N=some (.tk e)->e∈x.looksAt ops:=λe R=>by
  subst R;have⟨_,F,sy,D,J,xs,l,ys,n,r,ys',X,_,_,w,_⟩:=hP;obtain⟨rfl,_⟩:=w;exact AE0 X
 have O:X9 pv y.dst:=zay (BO fy) λe k R S=>by
  grind
 rcases I with⟨y1,y2,y3,rfl⟩|⟨t',z',d',a,b,h,i,g,j,rfl⟩|⟨t',d',p',k',f,cs',a,b,i,g,j,aa,ab,rfl⟩|⟨d',src',h,B,rfl⟩
 ·exact⟨pv,.inl ⟨y1,y2,y3,rfl⟩,.inr (.inr (.inr ⟨d,N,hd,hP,rfl⟩)),O,A⟩
 ·have⟨m,F,sy,D,J,xs,l,ys,n,r,ys',X,Y,Z,w,q4,q5⟩:=hP;refine⟨_,.inr (.inl ⟨t',z',d',a,b,h,i,g,j,rfl⟩),.inr (.inr (.inr ⟨d,N,hd,⟨m,F,sy,D,J,xs,l,ys,n,r,ys',X,Y,Z,w.congr λe R=>(by rw[K5 λx=>w.ninl d' e R x.symm]),q4,q5⟩,?_⟩)),O,AV A λe R=>⟨λx=>TQ,OC⟩⟩;rw[KC _ _ (w.ninl d'),Fc _ _ _ OC]
 ·have⟨m,F,sy,D,J,xs,l,ys,n,r,ys',X,Y,Z,w,q4,q5⟩:=hP;have S:∀e,k'≠ .tk e:=i.key;have hn:=i.nsrc w;have W:TO fr pv d' k' f cs':=i.congr (by rw[K5 OC,X2 (w.ninl d')]) (by rw[K5 (S _),X2 hn]);refine⟨_,.inr (.inr (.inl ⟨t',d',p',k',f,cs',a,b,W,g,j,aa,ab,rfl⟩)),.inr (.inr (.inr ⟨d,N,hd,⟨m,F,sy,D,J,xs,l,ys,n,r,ys',X,Y,Z,w.congr λe R=>(by rw[K5 λx=>hn e R x.symm]),q4,q5⟩,?_⟩)),O,AV A λe R=>⟨λx=>?_,S e⟩⟩
  ·rw[KC _ _ hn,Fc _ _ _ (S _)]
  have:=W.at;rw[x,Az6 A R]at this;cases this
 have⟨m,F,sy,D,J,xs,l,ys,n,r,ys',X,Y,Z,w,q4,q5⟩:=hP;have⟨b,ag,ao,an,aq,ap,G,ar,ah,ai,aj,a,r1,r2,r3,r4,r5⟩:=B;have aw:d≠d':=λe=>a2 d hd (by rw[h,e])
 have n1:∀k,src'=some k->k≠ .tk d:=λk R eq=>by
  subst R;subst eq;obtain⟨rfl,_⟩:=r3
  grind[AE0]
 have n2:∀k,N=some k->k≠ .tk d':=λk R eq=>TQ
 have n3:∀k,src'=some k->N≠some k:=λk R al=>by
  subst R;subst al
  have C:T8 (Ay pv (some k)) (.tk d) [] k=none:=by
   rw[K5 (n1 k rfl)];simp[Ay]
  rcases r3.key k rfl with⟨e,rfl⟩|rfl
  ·have:=r3.2.2;rw[C]at this;cases this
  have:T8 (Ay pv (some .ex)) (.tk d) [] .ex=some [.sl [] G]:=r3
  rw[C]at this;cases this
 have am:Oh pv ag G src':=r3.congr λk R=>by
  rw[K5 (n1 k R),X2 λc hc x=>TQ]
 refine⟨_,.inr (.inr (.inr ⟨d',src',h,⟨b,ag,ao,an,aq,ap,G,ar,ah,ai,aj,a,r1,r2,am,r4,r5⟩,rfl⟩)),.inr (.inr (.inr ⟨d,N,hd,⟨m,F,sy,D,J,xs,l,ys,n,r,ys',X,Y,Z,w.congr λk R=>?_,q4,q5⟩,?_⟩)),O,?_⟩
 ·rw[K5 (n2 k R),X2 λc hc x=>TQ]
 ·rw[KC _ _ λk R x=>n1 k R x.symm,KC _ _ λk R x=>n2 k R x.symm,AJ5 pv N src',Fc _ _ _ (λx=>TQ)]
 grind[AV,MB]
def AO0{x:Oper}{fr:Fr}{pv:Pv}{K:Fr->Pv->Prop}(U:Qf ops x y=true)(h:Qo P nt ops H0 x fr pv λb a=>Qo P nt ops H0 y b a K):
 Qo P nt ops H0 y fr pv λb a=>Qo P nt ops H0 x b a K:=by
 have e:=U
 simp only[Qf,G9,P9]at e
 have⟨w,N,c⟩:=Oper.apart_spec e.1;have⟨⟨hd,q⟩,u,a,O,⟨i,k⟩,v,l,Z,r⟩:=h;have⟨n,d,f,g,j⟩:=BF5 U O (Bn4 w Z) q k;refine⟨⟨i,g⟩,v,n,d,⟨hd,j⟩,u,l,BS2 c f,?_⟩
 rw[Au2 N]at r
 exact r
def AB1{pre a:Up Oper}{o:Oper}{K:Fr->Pv->Prop}(U:∀x∈pre,Qf ops x o=true):∀{fr:Fr} {pv:Pv},Nz P nt ops H0 (pre++o::a) fr pv K->Nz P nt ops H0 (o::(pre++a)) fr pv K:=by
 induction pre with
 |nil=>simp_all
 |cons x pre ih=>
  intro fr pv h;have O:Qo P nt ops H0 x fr pv λb e=>Nz P nt ops H0 (o::(pre++a)) b e K:=Yx h λ_ _ h=>ih (λy I=>U y (by simp[I])) h;exact AO0 (U x OC) O
end
section
variable {P:Program}{nt:Nat}{ops:Array Oper}{H0:A5}
def VR.ref_inv{v:HO}{id off:Nat}(h:VR g w v (.ref id off)):∃b,v= .pointer (some ⟨b,off,none⟩)/\g.mu id=some b:=by
 cases h with
 |ref p=>simp_all
def Bc2 (fr:Fr)(g:Gh)(a:Act)(id:Nat):Pk->Prop
 | .inl d=>fr.s d= .bad/\∃b,g.mu id=some b/\a.tmps.getD d undef= .pointer (some ⟨b,0,none⟩)
 | .inr n=>id=n
 | .tk _=>True
 | .ex=>True
def BR7 (fr:Fr)(g:Gh)(w:Is)(a:Act)(H H0:A5)(b:OS Nat)(d:Nat):Prop:=
 ∃xs tl,fr.s d= .sl xs .ro/\VR g w (a.tmps.getD d undef) (.sl xs tl)/\((b=none/\(tl= .nil\/tl= .full))\/∃t,b=some t/\tl= .tok t/\H t=some .spare/\H0 t=none)
def AQ4 (nt:Nat) (H0:A5) (g0:Gh) (w0:Is) (fr:Fr) (pv:Pv) (g:Gh) (w:Is) (a:Act):Prop:=
 ∃ (H:A5) (e:Pk->Nat),Al g0 w0 g w/\Rl g H w/\FR nt g w a fr/\(∀id b,H0 id=some b->H id=some b)/\
  (∀d cs,pv d=some cs->d.var=true->H (e d)=some (.cells cs)/\H0 (e d)=none/\Bc2 fr g a (e d) d)/\
  (∀d i cs cs',pv d=some cs->pv i=some cs'->d.var=true->i.var=true->e d=e i->d=i)/\
  ∃h:Nat->OS Nat,(∀d cs,pv (.tk d)=some cs->BR7 fr g w a H H0 (h d) d)/\
   (∀d i cs cs' t,pv (.tk d)=some cs->pv (.tk i)=some cs'->h d=some t->h i=some t->d=i)/\
   ∀cs,pv .ex=some cs->∃k,cs=[.sl [] k]/\((k= .nil\/k= .full)\/∃t,k= .tok t/\H t=some .spare/\H0 t=none/\∀d cs',pv (.tk d)=some cs'->h d≠some t)
def Ap8{v:HO}(h:D≠some d):(a.put D v).tmps.getD d undef=a.tmps.getD d undef:=by
 cases D with
 |none=>rfl
 |some e=>
  have b:e≠d:=λx=>h (by rw[x]);simp only[Act.put,Q0,Iq];rw[A1 b]
def lkp{v:HO}(h:d<a.tmps.size):(a.put (some d) v).tmps.getD d undef=v:=by
 simp[Act.put,Array.getD,h]
def Vv{fr:Fr}{v:V}(h:D≠some d):(fr.put D v).s d=fr.s d:=by
 cases D with
 |none=>rfl
 |some e=>
  have a:d≠e:=λx=>h (by rw[x])
  grind[Fr.put]
def Cg6{pv:Pv}{cs:Up V}(q:X9 pv D)(h:pv (.inl d)=some cs):D≠some d:=by
 grind[X9]
def Ai7{pv:Pv}{cs:Up V}(q:X9 pv D)(h:pv (.tk d)=some cs):D≠some d:=by
 grind[X9]
def BR7.keep{fr:Fr}{H H0:A5}{e:OS Nat}{x:V}{u:HO}(S:BR7 fr g w a H H0 e d)(b:D≠some d)(s:Al g w g' w')(n:∀t,e=some t->H t=some .spare->H' t=some .spare):BR7 (fr.put D x) g' w' (a.put D u) H' H0 e d:=by
 have⟨xs,tl,O,Z,l⟩:=S;refine⟨xs,tl,(Vv b).trans O,by rw[Ap8 b];exact Z.mono s,l.imp (λh=>h) λ⟨t,i,e2,k,e4⟩=>⟨t,i,e2,n t i k,e4⟩⟩
def Bc2.keep{pv:Pv}{fr:Fr}{id:Nat}{k:Pk}{cs:Up V}{x:V}{u:HO}(S:Bc2 fr g a id k)(q:X9 pv D)(h:pv k=some cs)(s:Al g w g' w'):Bc2 (fr.put D x) g' (a.put D u) id k:=by
 cases k with
 |inl d=>
  have⟨i,b,l,r⟩:=S;have e:=Cg6 q h;exact⟨(Vv e).trans i,b,s.mu _ _ l,(Ap8 e).trans r⟩
 |inr n=>exact S
 |tk n=>trivial
 |ex=>trivial
def HV(h:Kb nt D=true):∀t,D=some t->t<nt:=by
 grind[Kb]
def Bl8{r:OS Nat}{g0:Gh}{w0:Is}{o:Oper}{fr:Fr}{pv:Pv}{K:Fr->Pv->Prop}{next:Act->Is->Prop}{Q:Exit->Act->Is->Prop}(hI:AQ4 nt H0 g0 w0 fr pv g w a)
 (h:Qo P nt ops H0 o fr pv K)(hn:∀g' w' a' a3 be,AQ4 nt H0 g0 w0 a3 be g' w' a'->K a3 be->next a' w'):
 if Region.wanted o (yielded ops a.tmps)then o.wpIn (Fw r) 0 P a w next Q else(∀f,o.about P w a.eval=some f->(Fw r).fn f)/\next (a.put o.dst undef) w:=by
 have⟨H,A,s,C,hF,B,ah,ag,af,ak,a2,am⟩:=hI;have⟨⟨hd,i⟩,u0,br,h,hK⟩:=h
 rcases h with⟨o1,o2,hq,rfl⟩|⟨t,z,d,X,hg,l,e2,e3,rfl,rfl⟩|⟨t,d,y,key,off,cs,X,hg,l,e2,e3,e4,rfl,rfl⟩|⟨dd,ap,az,⟨hg,sx,sy,sT,yT,xs,av,ys,tly,aq,ys',X,q1,q2,q3,q4,rfl⟩,rfl⟩
 ·
  have keep:∀{g':Gh} {w':Is} {u:HO} {x:V},Al g w g' w'->Rl g' H w'->VR g' w' u x->AQ4 nt H0 g0 w0 (fr.put o.dst x) br g' w' (a.put o.dst u):=by
   intro g' w' u x J Y j;refine⟨H,A,s.trans J,Y,(hF.mono J).put (HV hd) j,B,λd cs D N=>?_,ag,af,λd cs D=>(ak d cs D).keep (Ai7 i D) J λ_ _ h=>h,a2,am⟩;have⟨k1,k2,k3⟩:=ah d cs D N;exact⟨k1,k2,k3.keep i D J⟩
  unfold VV at hq
  split at hq
  ·rename_i a0;rw[A2 (AL hF.s a0)];refine⟨λ_ _=>trivial,?_⟩
   have bm:∀c,o.op≠ .defer c:=by
    grind[Sq]
   rw[GQ _ _ _ bm];refine KV (QD (Bu6 B hq) (K:=λx H'=>x=u0/\H'=H) ⟨rfl,rfl⟩ g w a C hF.s) λu w' ⟨g',x,H',J,Y,j,M,hH⟩=>?_;subst M;subst hH;exact hn _ _ _ _ _ (keep J Y j) hK
  ·rename_i a0;rw[A1 (by rw[AL hF.s a0];simp)];subst hq;exact⟨λ_ _=>trivial,hn _ _ _ _ _ (keep (Al.refl _ _) C (VR.und _ _)) hK⟩
  grind
 ·
  have m:Region.wanted o (yielded ops a.tmps)=true:=by simp[Region.wanted,hg]
  rw[A2 m];refine⟨λ_ _=>trivial,?_⟩;rw[GQ _ _ _ (by intro c hc;rw[X]at hc;cases hc)];have⟨zv,ez,bq⟩:=Fu e2
  have hr:VR g w zv z:=by rw[ez];grind[GL]
  have⟨g',id,an,J,Y,bp⟩:=MH C t hr e3
  have aw:H0 id=none:=by
   cases M:H0 id with
   |none=>rfl
   |some b=>rw[B _ _ M]at an;cases an
  have bl:g'.mu id=some w.heap.size:=by
   have⟨b,e,p⟩:=bp.ref_inv;cases e;exact p
  have a9:(execOp a.eval o).run P w= .ok (.value (.pointer (some ⟨w.heap.size,0,none⟩))) (w.alloc (.cells zv.cells t)):=by
   unfold execOp;rw[X];simp only[Instr.alloc,B9,bq,B5];rfl
  rw[a9];refine hn g' _ _ (fr.put o.dst .bad) _ ⟨_,λx=>if x= .inl d then id else A x,s.trans J,Y,(hF.mono J).put (HV hd) (.bad _),λx b M=>?_,λx cs M N=>?_,λx x' cs cs' M v v1 v2 al=>?_,af,λx cs M=>?_,λx x' cs cs' t M v=>?_,λcs M=>?_⟩ hK
  ·have q:x≠id:=λe=>by subst e;rw[aw]at M;cases M
   rw[C8 _ _ q];exact B _ _ M
  ·by_cases ad:x= .inl d
   ·subst ad
    simp only[T8,B4,E5]at M
    subst M;simp only[B4];refine⟨E7 _ _ _,aw,by rw[l];simp[Fr.put],w.heap.size,bl,?_⟩;rw[l];exact lkp (by rw[hF.size];exact HV hd _ l)
   simp only[T8,A1 ad]at M
   have⟨k1,k2,k3⟩:=ah x cs M N;simp only[A1 ad]
   have q:A x≠id:=λe=>by rw[e,an]at k1;cases k1
   exact⟨(C8 _ _ q).trans k1,k2,k3.keep i M J⟩
  ·by_cases O:x= .inl d<;>by_cases Z:x'= .inl d
   ·rw[O,Z]
   ·simp_all[T8]
   ·simp only[A1 O,A2 Z]at al
    simp only[T8,A1 O]at M
    have:=(ah x cs M v1).1
    rw[al,an]at this;cases this
   simp only[A1 O,A1 Z]at al
   simp only[T8,A1 O]at M
   simp only[T8,A1 Z]at v
   exact ag _ _ _ _ M v v1 v2 al
  ·rw[K5 OC]at M
   refine(ak x cs M).keep (Ai7 i M) J λt _ h=>?_;rw[C8 _ _ λe=>by subst e;rw[an]at h;cases h];exact h
  ·rw[K5 OC]at M v
   exact a2 x x' cs cs' t M v
  grind[upd,T8]
 ·
  have m:Region.wanted o (yielded ops a.tmps)=true:=by simp[Region.wanted,hg]
  rw[A2 m];refine⟨λ_ _=>trivial,?_⟩;rw[GQ _ _ _ (by intro c hc;rw[X]at hc;cases hc)]
  have a1:=l.at
  have a8:key.var=true:=by rcases l with⟨rfl,_⟩|⟨id,rfl,_⟩<;>rfl
  have⟨k1,k2,k3⟩:=ah key cs a1 a8
  have⟨F,ay,a5,a6⟩:∃F,ER g w a F/\ev F (.tmp d)= .ref (A key) off/\ev F y=ev fr y:=by
   rcases l with⟨rfl,rfl,hp⟩|⟨id,rfl,G,_,hp⟩
   ·have⟨k3,b,k4,k5⟩:=k3
    have au:y≠ .tmp d:=by
     grind[ev,V.one]
    refine⟨fr.put (some d) (.ref (A (.inl d)) 0),λx=>?_,by simp[ev,Fr.put],AN1 λt ht e=>au (by rw[e];cases ht;rfl)⟩;simp only[Fr.put]
    split
    ·rename_i e;subst e;rw[k5];exact .ref k4
    exact hF.s x
   have k3:A (.inr id)=id:=k3;exact⟨fr,hF.s,by simp_all[ev],rfl⟩
  have bo:Rx P H t (ev F (.tmp d)) (ev F y)=some (upd H (A key) (some (.cells (Z7 cs off (ev fr y).cells)))):=by
   rw[a6,a5]
   simp_all[Rx]
  refine KV (ZO X (λ_ _ _ h=>h) bo (K:=λx H'=>H'=upd H (A key) (some (.cells (Z7 cs off (ev fr y).cells)))) rfl g w a C ay) λu w' ⟨g',x,H',J,Y,j,hH⟩=>?_;subst hH;refine hn g' w' _ (fr.put o.dst .bad) _ ⟨_,A,s.trans J,Y,(hF.mono J).put (HV hd) (.bad _),λx b M=>?_,λx cs' M N=>?_,λx x' bt bu M v v1 v2 al=>?_,af,λx cs M=>?_,λx x' cs cs' t M v=>?_,λcs M=>?_⟩ hK
  ·have q:x≠A key:=λe=>by rw[e,k2]at M;cases M
   rw[C8 _ _ q];exact B _ _ M
  ·by_cases ad:x=key
   ·subst ad
    simp only[T8,B4,E5]at M
    subst M;exact⟨E7 _ _ _,k2,k3.keep i a1 J⟩
   simp only[T8,A1 ad]at M
   have⟨j1,j2,j3⟩:=ah x cs' M N;have q:A x≠A key:=λe=>ad (ag _ _ _ _ M a1 N a8 e);exact⟨(C8 _ _ q).trans j1,j2,j3.keep i M J⟩
  ·have back:∀{x:Pk} {c:Up V},T8 pv key (Z7 cs off (ev fr y).cells) x=some c->∃c',pv x=some c':=by
    grind[T8]
   have⟨_,M⟩:=back M;have⟨_,v⟩:=back v;exact ag _ _ _ _ M v v1 v2 al
  ·rw[K5 λe=>l.key x e.symm]at M
   refine(ak x _ M).keep (Ai7 i M) J λt _ h=>?_;rw[C8 _ _ λe=>by subst e;rw[k1]at h;cases h];exact h
  ·rw[K5 λe=>l.key x e.symm]at M
   rw[K5 λe=>l.key x' e.symm]at v
   exact a2 x x' _ _ t M v
  rw[K5 λe=>l.keyx e.symm]at M
  grind[C8,K5]
 have m:Region.wanted o (yielded ops a.tmps)=true:=by simp[Region.wanted,hg]
 rw[A2 m];refine⟨λ_ _=>trivial,?_⟩;rw[GQ _ _ _ (by intro c hc;rw[X]at hc;cases hc)];have⟨e,sz,by_,z,c1,c2,c3,c4,c5,c6,c7,c8,c9,l1,l2,Nh,c11,c12⟩:=q4
 have⟨F,tl,ax,ay,O,Z,hA,U⟩:∃F tl ax,ER g w a F/\ev F sx= .sl xs tl/\ev F sy= .sl ys ax/\Kn H tl/\
  ∀t,tl= .tok t->H t=some .spare/\H0 t=none/\(∀d cs,Ay pv ap (.tk d)=some cs->af d≠some t)/\∀τ,Ay pv ap .ex=some [.sl [] τ]->τ≠ .tok t:=by
  rcases ap with _|⟨d⟩|⟨d⟩|⟨d⟩|_
  ·exact⟨fr,av,tly,hF.s,q1,q2,(by rcases q3 with rfl|rfl<;>trivial),λt ht=>by rcases q3 with h|h<;>rw[h]at ht<;>cases ht⟩
  ·exact q3.elim
  ·exact q3.elim
  rotate_left
  ·have q3:pv .ex=some [.sl [] av]:=q3;have⟨τ,l,e2⟩:=am _ q3
   have l:av=τ:=by cases l;rfl
   subst l;refine⟨fr,av,tly,hF.s,q1,q2,?_,λt ht=>?_⟩
   ·grind[Kn]
   grind[Ay]
  obtain⟨rfl,rfl,q5⟩:=q3;have⟨bf,bh⟩:=Option.isSome_iff_exists.1 q5;have⟨xs2,tl,t1,t2,t3⟩:=ak d bf bh
  have ex:xs2=xs:=by
   have:fr.s d= .sl xs .ro:=q1
   rw[t1]at this;cases this;rfl
  subst ex
  have hA:Kn H tl:=by
   grind[Kn]
  have ba:∀t,tl= .tok t->H t=some .spare/\H0 t=none/\(∀d' cs,Ay pv (some (.tk d)) (.tk d')=some cs->af d'≠some t)/\∀τ,Ay pv (some (.tk d)) .ex=some [.sl [] τ]->τ≠ .tok t:=by
   grind[Ay]
  by_cases au:sy= .tmp d
  ·subst au
   have:ys=xs2:=by
    have l:fr.s d= .sl ys tly:=q2
    rw[t1]at l;cases l;rfl
   subst this
   exact⟨fr.put (some d) (.sl ys tl),tl,tl,λx=>(by
    simp only[Fr.put];split
    ·rename_i e;subst e;exact t2
    exact hF.s x),by simp[ev,Fr.put],by simp[ev,Fr.put],hA,ba⟩
  exact⟨fr.put (some d) (.sl xs2 tl),tl,tly,λx=>(by
   simp only[Fr.put];split
   ·rename_i e;subst e;exact t2
   exact hF.s x),by simp[ev,Fr.put],by rw[AN1 λt ht e=>au (by rw[e];cases ht;rfl)];exact q2,hA,ba⟩
 have bb:=RA (P:=P) (K:=λx H'=>∃zs I,DI x (.sl (aq++ys') I)/\zs=aq++ys'/\((ys=[]/\I=tl/\H'=H)\/∃t,I= .tok t/\H5 H tl t=none/\H'=upd (H5 H tl) t (some .spare))) X O Z c1 c2 c3 c4 c5 c6 c7 c8 c9 hA (l1.sz Nh) (l2.sz c11) (by rw[l1.length,l2.length];exact c12)
  (λe=>⟨_,tl,by subst e;cases l2;rw[F2];exact .slt _ l1,rfl,.inl ⟨e,rfl,rfl⟩⟩) (λt _ ht=>⟨_,.tok t,.slt _ (l1.append l2),rfl,.inr ⟨t,rfl,ht,rfl⟩⟩)
 refine KV (bb g w a C ay) λu w' ⟨g',x,H',J,Y,j,zs,I,hle,_,aa⟩=>?_;have j:=j.le hle;have bd:VR g' w' u (.sl (aq++ys') .ro):=Wk.ro _ _ _ _ _ j
 have ao:∀id b,H id=some b->b≠ .spare->H' id=some b:=λid b W q=>by
  rcases aa with⟨_,_,rfl⟩|⟨t,_,ht,rfl⟩
  ·exact W
  have ac:H5 H tl id=some b:=by
   cases tl with
   |tok t0=>
    have:id≠t0:=λe=>by subst e;rw[show H id=some .spare from hA]at W;cases W;exact q rfl
    simp only[H5];rw[C8 _ _ this];exact W
   |_=>exact W
  exact zc2
 have ae:∀t,H t=some .spare->tl≠ .tok t->H' t=some .spare:=λt W q=>by
  rcases aa with⟨_,_,rfl⟩|⟨t1,_,ht,rfl⟩
  ·exact W
  have ac:H5 H tl t=some .spare:=by
   cases tl with
   |tok t0=>
    simp only[H5];rw[C8 _ _ λe=>by subst e;exact q rfl];exact W
   |_=>exact W
  exact zc2
 have bg:∀id b,H0 id=some b->H' id=some b:=λid b W=>by
  by_cases ai:b= .spare
  ·subst ai;refine ae id (B _ _ W) λe=>?_;have:=(U id e).2.1
   rw[this]at W;cases W
  exact ao id b (B _ _ W) ai
 let n:Nat->OS Nat:=λx=>if x=dd then(match I with| .tok t=>some t|_=>none)else af x
 have a4:dd<nt:=HV hd dd az
 have ab:∀t,I= .tok t->H' t=some .spare/\H0 t=none/\(∀d cs,Ay pv ap (.tk d)=some cs->af d=some t->False)/\∀τ,Ay pv ap .ex=some [.sl [] τ]->τ≠ .tok t:=λt ht=>by
  rcases aa with⟨e0,l,rfl⟩|⟨t1,l,bc,rfl⟩
  ·rw[l]at ht
   have⟨h3,h4,h5,h6⟩:=U t ht
   grind
  rw[l]at ht;cases ht
  have drop:∀x b,H x=some b->(∀t0,tl= .tok t0->x≠t0)->H5 H tl x=some b:=λx b M q=>by
   cases tl with
   |tok t0=>simp only[H5];rw[C8 _ _ (q t0 rfl)];exact M
   |_=>exact M
  refine⟨E7 _ _ _,?_,λd cs D aj=>?_,λτ M R=>?_⟩
  ·cases L:H0 t with
   |none=>rfl
   |some b=>
    exfalso
    have:=drop t b (B _ _ L) λt0 e x=>by subst x;rw[(U t e).2.1]at L;cases L
    rw[bc]at this;cases this
  ·have⟨ar,bn⟩:=Fd D;have⟨bw,bv,t1,t2,t3⟩:=ak d cs ar
   rcases t3 with⟨e,_⟩|⟨t4,e,_,ai,_⟩
   ·rw[e]at aj;cases aj
   rw[e]at aj;cases aj
   have:=drop t _ ai λt0 e' x=>by subst x;exact(U t e').2.2.1 d cs D e
   rw[bc]at this;cases this
  grind[Fd]
 refine hn g' w' _ (fr.put o.dst (.sl (aq++ys') .ro)) _ ⟨H',A,s.trans J,Y,(hF.mono J).put (HV hd) bd,bg,λk cs S N=>?_,λk k' cs cs' S bj v1 v2=>?_,n,λd cs D=>?_,λd d' cs cs' t M v l e2=>?_,λcs M=>?_⟩ hK
 ·have a7:pv k=some cs:=by
   rw[K5 λe=>by subst e;cases N]at S
   grind[Fd]
  have⟨k1,k2,k3⟩:=ah k cs a7 N;exact⟨ao _ _ k1 OC,k2,k3.keep i a7 J⟩
 ·rw[K5 λe=>by subst e;cases v1]at S
  rw[K5 λe=>by subst e;cases v2]at bj
  grind[Fd]
 ·by_cases e:d=dd
  ·subst e;refine⟨aq++ys',I,by rw[az];simp[Fr.put],by rw[az,lkp (by rw[hF.size];exact a4)];exact j,?_⟩;simp only[n,B4]
   cases I with
   |tok t=>exact .inr ⟨t,rfl,rfl,(ab t rfl).1,(ab t rfl).2.1⟩
   |nil=>simp
   |full=>simp
   |ro=>
    exfalso
    rcases aa with⟨_,l,_⟩|⟨t1,l,_⟩
    ·rw[<-l]at hA;exact hA
    cases l
  rw[K5 λx=>by cases x;exact e rfl]at D
  have⟨ar,bn⟩:=Fd D;simp only[n,A1 e];exact(ak d cs ar).keep (Ai7 i ar) J λt aj ai=>ae t ai λR=>(U t R).2.2.1 d cs D aj
 ·by_cases O:d=dd<;>by_cases Z:d'=dd
  ·rw[O,Z]
  ·exfalso
   rw[K5 λx=>by cases x;exact Z rfl]at v
   simp only[n,A2 O]at l
   simp only[n,A1 Z]at e2
   cases I with
   |tok t1=>cases l;exact(ab t rfl).2.2.1 d' cs' v e2
   |_=>cases l
  ·exfalso
   rw[K5 λx=>by cases x;exact O rfl]at M
   simp only[n,A1 O]at l
   simp only[n,A2 Z]at e2
   cases I with
   |tok t1=>cases e2;exact(ab t rfl).2.2.1 d cs M l
   |_=>cases e2
  rw[K5 λx=>by cases x;exact O rfl]at M
  rw[K5 λx=>by cases x;exact Z rfl]at v
  simp only[n,A1 O]at l
  simp only[n,A1 Z]at e2
  grind[Fd]
 rw[K5 OC]at M
 have⟨τ,l,e2⟩:=am _ (Fd M).1;subst l;refine⟨τ,rfl,e2.imp (λh=>h) λ⟨t,j1,j2,j3,j4⟩=>⟨t,j1,ae t j2 λR=>(U t R).2.2.2 τ M j1,j3,λd cs' bi=>?_⟩⟩
 by_cases e:d=dd
 ·simp only[n,A2 e]
  cases I with
  |tok t1=>exact λR=>by cases R;exact(ab t rfl).2.2.2 τ M j1
  |_=>exact λR=>by cases R
 rw[K5 λx=>by cases x;exact e rfl]at bi
 simp only[n,A1 e]
 grind[Fd]
def Bl9{k:Nat}(h:Yz ops k=true):k<=ops.size/\∀i,i<ops.size->DF (ops.getD i default) i=true/\
 ∀j,j<i->Ou ops Ug i j=true\/(i<k/\Qf ops (ops.getD j default) (ops.getD i default)=true):=by
 simp only[Yz,G9,B3,EL,ET,L7]at h
 grind
theorem Wx(h:i<ops.size):ops.getD i default=ops[i]:=TQ
def FC{a:SI Bool}(h:i∈Region.ready .any ops a):i<ops.size/\a.getD i true=false/\∀j,HU (ops.getD i default) j=true->a.getD j false=true:=by
 simp only[Region.ready,List.mem_filter,ET,G9,P9]at h
 grind[Wx,HU]
def Hv {a:SI Bool} (b:∀m j,a.getD m false=true->HU (ops.getD m default) j=true->a.getD j false=true):∀(n i j:Nat),(∀j,HU (ops.getD i default) j=true->a.getD j false=true)->Ou ops n i j=true->a.getD j false=true
 |0,i,j,U,h=>U j h
 | n+1,i,j,U,h=>by
  simp only[Ou,L7,OV,G9]at h
  rcases h with h|⟨x,M,W,_,h⟩
  ·exact U j h
  have p:HU (ops.getD i default) ((ops.getD i default).after[x]).on=true:=by
   grind[HU]
  exact Hv b n _ j (λk e=>b _ k (U _ p) e) h
def Xt{listed:SI Bool}(O:i<ops.size)(Z:listed.getD i true=false)(W:DF (ops.getD i default) i=true)(a:∀j,j<i->listed.getD j false=true):i∈Region.ready .any ops listed:=by
 simp only[Region.ready,List.mem_filter,ET,G9,P9]
 grind[Wx,DF]
def Qi{a:SI Bool}{j:Nat}{d:Bool}(U:i<a.size):(a.setIfInBounds i true).getD j d=if j=i then true else a.getD j d:=by
 simp only[Q0,Iq]
 grind
def WP {A:Zb} {r:OS Nat} {k:Nat} {K:Fr->A5->Prop} {Q:Exit->Act->Is->Prop} {g0:Gh} {w0:Is} (y:∀i,i<ops.size->DF (ops.getD i default) i=true/\∀j,j<i->k<=j->Ou ops Ug i j=true) (Y:∀g w a fr H,Al g0 w0 g w->Rl g H w->FR nt g w a fr->K fr H->Q .normal a w):
 ∀(d m:Nat) (listed:SI Bool) (fr:Fr) (H:A5),m+d=ops.size->k<=m->listed.size=ops.size->(∀i b,i<ops.size->listed.getD i b=decide (i<m))->MN P A nt ops (ops.toList.drop m) fr H K->
  ∀g w a,Al g0 w0 g w->Rl g H w->FR nt g w a fr->wpAnyIn (Fw r) 0 P .any ops Q d listed a w
 |0,m,listed,fr,H,p,S,L,B,h,g,w,a,s,C,N=>by
  have:ops.toList.drop m=[]:=by simp;omega
  rw[this]at h
  refine⟨?_,Y g w a fr H s C N h⟩;rw[List.eq_nil_iff_forall_not_mem];intro i U;have⟨O,Z,_⟩:=FC U
  rw[B i true O]at Z
  simp_all
 | d + 1,m,listed,fr,H,p,S,L,B,h,g,w,a,s,C,N=>by
  have n:m<ops.size:=AY
  have l:m∈Region.ready .any ops listed:=Xt n (by rw[B m true n];simp) (y m n).1 λj z=>by rw[B j false AY];grind
  refine⟨λe=>(by rw[e]at l;cases l),λi U=>?_⟩;have⟨O,Z,h3⟩:=FC U
  have J:i=m:=by
   rw[B i true O]at Z
   simp only[O2,Nat.not_lt]at Z
   rcases R3 m i with f|aa
   ·have R:=(y i O).2 m f S
    ·have:=Hv (λX j q z=>by
      have t:X<ops.size:=by
       grind
      rw[B X false t]at q
      simp only[B3]at q
      have W:=(y X t).1
      simp only[DF,Array.all_eq_true]at W
      simp only[HU,OV,G9,DL]at z
      obtain⟨x,M,rfl,F⟩:=z;have:=W x M
      simp only[F,W3,Jg,B3]at this
      rw[B _ false AY]
      grind) Ug i m h3 R
     rw[B m false n]at this
     simp at this
   omega
  subst J
  have G:ops.toList.drop i=ops[i]::ops.toList.drop (i+1):=by
   rw[P1 AY];simp
  rw[G]at h
  simp only[MN]at h
  have⟨hd,h⟩:=h;have ih:=WP (A:=A) (r:=r) (K:=K) y Y d (i+1) (listed.setIfInBounds i true)
  have c:∀j b,j<ops.size->(listed.setIfInBounds i true).getD j b=decide (j<i+1):=by
   intro j b z;rw[Qi AY,B j b z]
   grind
  simp only[wpOpIn,DX n]
  split at h
  ·rename_i I;rw[A2 (AL N.s I)];exact ZH C N hd h λg' w' a' v H' s' D u hK=>ih _ _ AY AY Pw c hK g' w' a' (s.trans s') D u
  ·rename_i I;rw[A1 (by rw[AL N.s I];simp)];exact⟨λ_ _=>trivial,ih _ _ AY AY Pw c h g w _ s C (N.put (HV hd) (VR.und _ _))⟩
  grind
def YP {r:OS Nat} {k:Nat} {K:Fr->Pv->Prop} {Q:Exit->Act->Is->Prop} {g0:Gh} {w0:Is} (S:k<=ops.size) (t:∀i,i<ops.size->DF (ops.getD i default) i=true/\∀j,j<i->Ou ops Ug i j=true\/(i<k/\Qf ops (ops.getD j default) (ops.getD i default)=true)\/k<=j)
 (c:∀g w a fr pv listed,listed.size=ops.size->(∀i b,i<ops.size->listed.getD i b=decide (i<k))->AQ4 nt H0 g0 w0 fr pv g w a->K fr pv->wpAnyIn (Fw r) 0 P .any ops Q (ops.size-k) listed a w):
 ∀(n:Nat) (L:Up Nat) (listed:SI Bool) (fr:Fr) (pv:Pv),L.length=n->L.Pairwise (· < ·)->(∀i∈L,i<k)->listed.size=ops.size->(∀i b,i<ops.size->listed.getD i b=decide (i<k/\i∉L))->(∀m j,listed.getD m false=true->HU (ops.getD m default) j=true->listed.getD j false=true)->
  Nz P nt ops H0 (L.map λi=>ops.getD i default) fr pv K->∀g w a,AQ4 nt H0 g0 w0 fr pv g w a->wpAnyIn (Fw r) 0 P .any ops Q (n+(ops.size-k)) listed a w
 |0,L,listed,fr,pv,F,_,_,C,B,_,h,g,w,a,W=>by
  have:L=[]:=List.length_eq_zero_iff.1 F;subst this;rw[P0];exact c g w a fr pv listed C (λi b U=>by rw[B i b U];simp) W h
 | n+1,L,listed,fr,pv,F,v,ab,C,B,A,h,g,w,a,W=>by
  have hL:L≠[]:=by intro e;rw[e]at F;simp at F
  have⟨i0,L0,s⟩:∃i0 L0,L=i0::L0:=by cases L with
   |nil=>exact absurd rfl hL
   |cons x y=>exact⟨x,y,rfl⟩
  have ad:i0<k:=ab i0 (by rw[s];simp);rw[show n+1+(ops.size-k)=(n+(ops.size-k))+1 by omega]
  have N:i0∈Region.ready .any ops listed:=by
   refine Xt AY (by rw[B i0 true AY,s];simp) (t i0 AY).1 λj z=>?_;rw[B j false AY]
   have:j∉L:=by
    rw[s]at v ⊢
    grind[List.pairwise_cons]
   simp only[B3];exact⟨AY,this⟩
  refine⟨λe=>(by rw[e]at N;cases N),λi U=>?_⟩;have⟨O,Z,J⟩:=FC U
  rw[B i true O]at Z
  simp only[O2,not_and,OU]at Z
  have G:i<k:=by
   rcases R3 i k with hh|hh
   ·exact hh
   exfalso
   rcases(t i O).2 i0 AY with R|⟨d,_⟩|d
   ·have:=Hv A Ug i i0 J R
    rw[B i0 false AY,s]at this
    simp at this
   ·omega
   omega
  have Y:=Z G;have⟨pre,post,l⟩:=OY Y
  have I:∀x∈pre.map (λi=>ops.getD i default),Qf ops x (ops.getD i default)=true:=by
   intro x M;obtain⟨j,z,rfl⟩:=List.mem_map.1 M
   have ae:j∈L:=by rw[l];simp[z]
   have aa:j<i:=by
    rw[l]at v
    grind
   rcases(t i O).2 j aa with R|⟨_,d⟩|d
   ·have:=Hv A Ug i j J R
    rw[B j false AY]at this
    simp_all
   ·exact d
   grind
  rw[l,P8,D2]at h
  have q:=AB1 I h
  have f:Qo P nt ops H0 (ops.getD i default) fr pv λu D=>Nz P nt ops H0 ((pre++post).map λi=>ops.getD i default) u D K:=by
   rw[P8];exact q
  simp only[wpOpIn,DX O]
  rw[Wx O]at f
  have ac:i∉pre++post:=by
   rw[l]at v
   grind[List.pairwise_cons]
  refine Bl8 (r:=r) W f λg' w' a' u D X hK=>?_;refine YP S t c n (pre++post) _ u D ?_ ?_ ?_ (by simpa using C) ?_ ?_ hK g' w' a' X
  ·rw[l]at F;simp at F ⊢;omega
  ·rw[l]at v
   grind
  ·grind
  ·intro j b z;rw[Qi AY,B j b z]
   by_cases e:j=i
   ·subst e;simp[G,ac]
   rw[A1 e]
   congr 1
   rw[l];simp[e]
  intro m j p z
  rw[Qi AY]at p ⊢
  by_cases ej:j=i
  ·rw[A2 ej]
  rw[A1 ej]
  by_cases em:m=i
  ·subst em;exact J j z
  rw[A1 em]at p;exact A m j p z
end
def KT (s:Nat->V):Up Tmp->Up V->Nat->V
 |p::a,x::xs=>KT (λt=>if t=p then x else s t) a xs
 |_,_=>s
def XC {g:Gh} {w:Is} {nt:Nat}:∀(b:Up Tmp) (vals:Up HO) (xs:Up V) (a:SI HO) (s:Nat->V),a.size=nt->(∀p∈b,p<nt)->vals.length=xs.length->(∀i,i<xs.length->VR g w (vals.getD i undef) (xs.getD i .bad))->xs.length=b.length->
 (∀t,VR g w (a.getD t undef) (s t))->((b.zip vals).foldl (λt (p,v)=>t.setIfInBounds p v) a).size=nt/\∀t,VR g w (((b.zip vals).foldl (λt (p,v)=>t.setIfInBounds p v) a).getD t undef) (KT s b xs t)
 |[],[],[],a,s,k,_,_,_,_,h=>⟨k,h⟩
 | p::b,v::vals,x::xs,a,s,k,f,B,j,M,h=>by
  simp only[List.zip_cons_cons,DN,KT];refine XC b vals xs _ _ Pw (λq c=>f q (by simp[c])) Pw (λi U=>by simpa using j (i+1) Pw) Pw λt=>?_;have l:=f p OC
  by_cases e:t=p
  ·subst e
   have:(a.setIfInBounds t v).getD t undef=v:=TQ
   rw[this];simpa using j 0 OC
  have:(a.setIfInBounds p v).getD t undef=a.getD t undef:=by
   simp only[Q0,Iq];rw[A1 (λh=>e h.symm)]
  rw[this];simp_all
 |[],[],_::_,_,_,_,_,B,_,_,_=>by simp at B
 |[],_::_,[],_,_,_,_,B,_,_,_=>by simp at B
 |[],_::_,_::_,_,_,_,_,_,_,M,_=>by simp at M
 |_::_,[],[],_,_,_,_,_,_,M,_=>by simp at M
 |_::_,[],_::_,_,_,_,_,B,_,_,_=>by simp at B
 |_::_,_::_,[],_,_,_,_,B,_,_,_=>by simp at B
def RX:Exit->OS (OS Code)
 | .normal=>some none
 | .ret=>some (some .ret)
 | .exit id=>some (some (.exit id))
 | .goto t=>some (some (.goto t))
 |_=>none
def Cc7 (id:Nat)(L:LpI)(K:V->A5->Prop)(e:Exit)(b:A5):Prop:=
 ∃a,RX e=some a/\b id=some (.loop {L with st:=.busy})/\K (.bool a.isNone) (upd b id (some (.loop {L with st:=if a.isNone then .ready else .done,pe:=a})))
def AC7{P:If}{id:Nat}{L:LpI}{x:Up V}{H:A5}{K:V->A5->Prop}(S:H id=some (.loop L))(ag:L.st= .ready)(M:x.length=L.ps.size)(af:∀p∈L.ps,p<L.nt)
 (h:AB P L.nt (some id) L.asg ⟨KT L.s L.ps.toList x,[]⟩ H λe aa J=>e= .normal/\J id=some (.loop L)/\
  AB P L.nt (some id) L.body aa (upd J id (some (.loop {L with st:=.busy}))) λe _ H2=>Cc7 id L K e H2):Ft P (.yield id) x H K:=by
 intro g w v vals C j hA
 cases j with
 | yield m=>
  rename_i b;have⟨b',r,O,Z,h3,h4,h5,h6,h7,h8,h9,ab⟩:=C.blk id _ S
  rw[m]at O;cases O
  have Y:(do let d <-Deferred.ofValue (.func (.yield b) #[] #[]) vals;invoke d.target d.args:Sem Next).run P w=
   .ok (.round b r.fn ((r.params.zip vals).foldl (λy (t,a)=>y.setIfInBounds t a) r.tmps) r.assign r.body) w:=by
   have I:=run_yield (P:=P) (args:=vals) h3 (by rw[hA.1,M,h6])
   simpa[Deferred.ofValue,B9,C7,B5,invoke]using I
  rw[Y]
  show RoundIn Fence.wide 0 P b r.fn _ r.assign r.body w _
  have X:=XC (g:=g) (w:=w) (nt:=L.nt) L.ps.toList vals.toList x r.tmps L.s h9 (λp f=>af p Pw) (by simpa using hA.1) (λi U=>by
   have:=hA.2 i U
   simp_all) AY ab
  have c:(r.params.zip vals).foldl (λy (t,a)=>y.setIfInBounds t a) r.tmps=(L.ps.toList.zip vals.toList).foldl (λt (p,v)=>t.setIfInBounds p v) r.tmps:=by
   rw[h6,<-Array.foldl_toList];simp
  rw[c];refine roundIn_of_wpIn trivial ?_
  show r.assign.wpIn (Fw (some b)) 0 P _ _ w
  rw[h7];refine wpIn_mono (h (some b) g w _ ⟨b,m,rfl⟩ C ⟨X.1,X.2,[],rfl,λi U=>by simp at U,rfl⟩) λe a1 w1 ⟨g1,ai,J,A,q,ac,R,F,N⟩=>?_;subst R;have⟨b1,r1,i1,i2,i3,i4,i5,i6,i7,i8,i9,ah⟩:=q.blk id _ F;have l:=A.mu _ _ m
  rw[l]at i1;cases i1
  refine⟨_,run_beginRound i3 (i4.trans ag),?_⟩
  have⟨s2,ad⟩:=q.putGen (k':=.loop {L with st:=.busy}) (o':=.loop {r1 with state:=.busy}) rfl rfl F l rfl λs hh W=>
   ⟨b,_,l,W,hh,rfl,i5,i6,i7,i8,i9,λt=>(ah t).mono s⟩
  show r.body.wpIn (Fw (some b)) 0 P _ _ _
  rw[h8];refine wpIn_mono (N (some b) g1 _ a1 ⟨b,l,rfl⟩ ad (ac.mono s2)) λe a3 w3 ⟨g3,aj,H3,s3,B,ak,k,z,G,hK⟩=>?_;have⟨b3,r3,j1,j2,j3,j4,j5,j6,j7,j8,j9,j10⟩:=B.blk id _ G;have n:=s3.mu _ _ l
  rw[n]at j1;cases j1
  have⟨s4,ae⟩:=B.putGen (k':=.loop {L with st:=if k.isNone then .ready else .done,pe:=k}) (o':=.loop {r3 with state:=if k.isNone then .ready else .done,pending:=k}) rfl rfl G n rfl λs hh W=>
   ⟨b,_,n,W,hh,rfl,rfl,j6,j7,j8,j9,λt=>(j10 t).mono s⟩
  have D:=run_endRound (P:=P) k j3
  have fin:∃v w',(Instr.endRound b k).run P w3= .ok v w'/\∃u,Ending.returned v= .returned u/\O6 g w K u w':=
   ⟨_,_,D,_,rfl,g3,_,_,((A.trans s2).trans s3).trans s4,ae,.bool _,hK⟩
  cases e<;>simp only[RX,E5,reduceCtorEq]at z<;>subst z<;>exact fin
structure G7 (I:A5->A5->Prop):Prop where
 le:∀{F H},I F H->∀id b,F id=some b->H id=some b
 chg:∀{F H} (id:Nat) (b:Option FV),I F H->H id=F id->I (upd F id b) (upd H id b)
def G7.fresh(h:G7 I){F H:A5}(i:I F H){id:Nat}(a:H id=none):F id=none:=by
 cases q:F id with
 |none=>rfl
 |some b=>rw[h.le i id b q]at a;cases a
def Fs (P:If) (b:V) (xs:Up (Up V)):Prop:=
 ∃ f C,b= .func (.func f) [] C/\(∀vals w,(callFunc f vals).run P w= .ok (.enter f vals) w)/\
  ∀(a:V) (I:Up (Up V)->A5->A5->Prop) (D:A5->A5->Prop),(∀l,G7 (I l))->G7 D->
   ((a.one=true/\a.cells=[a])/\∀x l F H,I (x::l) F H->Ft P a x H λr H'=>(r= .bool true/\I l F H')\/(r= .bool false/\D F H'))->
   ∀F H,I xs F H->L5 P f (a::C) H λ_ H'=>I [] F H'\/D F H'
def AA5 (I:A5->A5->Prop)(D:Code->A5->A5->Prop)(F:A5)(e:Exit)(H:A5):Prop:=
 match e with
 | .normal=>I F H
 | .ret=>D .ret F H
 | .exit k=>D (.exit k) F H
 |_=>False
def AN5{D:Code->A5->A5->Prop}{F:A5}{e:Exit}{H:A5}(h:AA5 I D F e H):(RX e=some none/\I F H)\/∃c,RX e=some (some c)/\D c F H:=by
 cases e<;>simp only[AA5]at h
 ·simp_all[RX]
 ·simp_all[RX]
 simp_all[RX]
section
variable {P:Program}{nt:Nat}
def AJ3{fr:Fr}{ps:SI Tmp}{asg body:Code}{xs:Up (Up V)}{C:Up V}{id:Nat}(am:∀p∈ps,p<nt)(an:∀x∈xs,x.length=ps.size)
 (ak:∀(yv:V) (I:Up (Up V)->A5->A5->Prop) (D:A5->A5->Prop),(∀l,G7 (I l))->G7 D->
  ((yv.one=true/\yv.cells=[yv])/\∀x l F H,I (x::l) F H->Ft P yv x H λr H'=>(r= .bool true/\I l F H')\/(r= .bool false/\D F H'))->
  ∀F H,I xs F H->L5 P f (yv::C) H λ_ H'=>I [] F H'\/D F H')
 (I:Up (Up V)->A5->A5->Prop)(D:Code->A5->A5->Prop)(hI:∀l,G7 (I l))(hD:∀c,G7 (D c))(J:Up V->Up (Up V)->Fr->A5->A5->Prop)(hJ:∀x l fr,G7 (J x l fr))
 (g:∀id L x l F H,I (x::l) F H->F id=some (.loop L)->x.length=ps.size->AB P nt (some id) asg ⟨KT fr.s ps.toList x,[]⟩ H λe a H1=>e= .normal/\J x l a F H1)
 (B:∀id L x l a F H,J x l a F H->F id=some (.loop L)->AB P nt (some id) body a H λe _ H'=>AA5 (I l) D F e H')
 {F0 H2:A5}{L:LpI}(hL:L={nt:=nt,s:=fr.s,st:=.ready,pe:=none,ps:=ps,asg:=asg,body:=body})(aa:F0 id=none)(h0:I xs (upd F0 id (some (.loop L))) H2)
 {Z:Gh}{j:Is}{b:Nat}{vals:SI HO}(hR:Rl Z H2 j)(al:Z.mu id=some b)(hA:Args Z j vals (.yield id::C))(aj:(callFunc f vals).run P j= .ok (.enter f vals) j):
 CallsIn Fence.wide 0 P f vals j λe w3=>∃v,e= .returned v/\∃g3 Y N O,Al Z j g3 O/\Rl g3 Y O/\(Instr.endLoop b).run P w3= .ok N O/\((N=none/\I [] F0 Y)\/∃c,N=some c/\D c F0 Y):=by
 have d:=ak (.yield id) (λl F H=>(∀x∈l,x.length=ps.size)/\F id=none/\I l (upd F id (some (.loop L))) H)
  (λF H=>F id=none/\∃c,D c (upd F id (some (.loop {L with st:=.done,pe:=some c}))) H) ?_ ?_ ⟨⟨rfl,rfl⟩,?_⟩ F0 H2 ⟨an,aa,h0⟩ Z j vals hR hA
 ·rw[aj]at d
  have ai:CallsIn Fence.wide 0 P f vals j _:=d;refine ai.mono λe w3 ⟨v,R,g3,u,Y,s,ab,_,hK⟩=>⟨v,R,?_⟩;have w:=s.mu _ _ al
  have fin:∀(L':LpI) (X:A5->A5->Prop),G7 X->X (upd F0 id (some (.loop L'))) Y->L'.st≠ .busy->∃g4 H4 O,Al Z j g4 O/\Rl g4 H4 O/\(Instr.endLoop b).run P w3= .ok L'.pe O/\X F0 H4:=by
   intro L' X hX M ao;have A:=hX.le M id _ (E7 _ _ _);have⟨b3,r3,j1,j2,j3,j4,j5,j6,j7,j8,j9,j10⟩:=ab.blk id _ A
   rw[w]at j1;cases j1
   have q:=run_endLoop (P:=P) j3 (by rw[j4];exact ao)
   rw[j5]at q
   have⟨s4,ah⟩:=ab.putGen (k':=.loop {L' with st:=.exhausted}) (o':=.loop {r3 with state:=.exhausted,pending:=L'.pe}) rfl rfl A w rfl λs hh W=>
    ⟨b,_,w,W,hh,rfl,rfl,j6,j7,j8,j9,λt=>(j10 t).mono s⟩
   refine⟨g3,upd Y id none,_,s.trans s4,ah.less λx m M=>?_,q,?_⟩
   ·simp_all[upd]
   have:=hX.chg id none M (by rw[A,E7])
   rwa[Ap3 _ _ _ aa]at this
  grind
 ·intro l;refine⟨λ{F H} ⟨_,i,U⟩ x m M=>(hI l).le U x m ?_,λ{F H} x m ⟨G,i,U⟩ M=>?_⟩
  ·rw[C8 _ _ (Ce i M)];exact M
  have h:x≠id:=λe=>by subst e;rw[i]at M;rw[(hI l).le U x _ (E7 _ _ _)]at M;cases M
  refine⟨G,by rw[C8 _ _ (λe=>h e.symm)];exact i,?_⟩;have:=(hI l).chg x m U (by rw[C8 _ _ h];exact M)
  rwa[SC _ _ _ (Ne.symm h)]at this
 ·refine⟨λ{F H} ⟨i,c,U⟩ x m M=>(hD c).le U x m ?_,λ{F H} x m ⟨i,c,U⟩ M=>?_⟩
  ·rw[C8 _ _ (Ce i M)];exact M
  have h:x≠id:=λe=>by subst e;rw[i]at M;rw[(hD c).le U x _ (E7 _ _ _)]at M;cases M
  refine⟨by rw[C8 _ _ (λe=>h e.symm)];exact i,c,?_⟩;have:=(hD c).chg x m U (by rw[C8 _ _ h];exact M)
  rwa[SC _ _ _ (Ne.symm h)]at this
 rintro x l F H ⟨G,i,U⟩;have S:=(hI _).le U id _ (E7 _ _ _);have ag:=G x OC;have ha:=g id L x l _ H U (E7 _ _ _) ag;subst hL;refine AC7 S rfl ag am (ha.mono λe a H1 ⟨R,z⟩=>?_);have af:=(hJ x l a).le z id _ (E7 _ _ _);refine⟨R,af,?_⟩;have ae:=(hJ x l a).chg id (some (.loop {({nt:=nt,s:=fr.s,st:=.ready,pe:=none,ps:=ps,asg:=asg,body:=body}:LpI)with st:=.busy})) z (by rw[af,E7])
 rw[BA]at ae
 refine(B id _ x l a _ _ ae (E7 _ _ _)).mono λe ap H2 hq=>?_
 rcases AN5 hq with⟨k,ad⟩|⟨c,k,ac⟩
 ·have n:=(hI l).le ad id _ (E7 _ _ _);refine⟨none,k,n,.inl ⟨rfl,λy hy=>G y (by simp[hy]),i,?_⟩⟩;have:=(hI l).chg id (some (.loop {nt:=nt,s:=fr.s,st:=.ready,pe:=none,ps:=ps,asg:=asg,body:=body})) ad (by rw[n,E7])
  rwa[BA]at this
 have n:=(hD c).le ac id _ (E7 _ _ _);refine⟨some c,k,n,.inr ⟨rfl,i,c,?_⟩⟩;have:=(hD c).chg id (some (.loop {nt:=nt,s:=fr.s,st:=.done,pe:=some c,ps:=ps,asg:=asg,body:=body})) ac (by rw[n,E7])
 rwa[BA]at this
def AP7{id b:Nat}{cs:SI HO}{C:Up V}(e:g.mu id=some b)(O:cs.size=C.length)(Z:∀i,i<C.length->VR g w (cs.getD i undef) (C.getD i .bad)):
 Args g w (#[.func (.yield b) #[] #[]]++cs) (.yield id::C):=
 Args.append (x:=[.yield id]) (a:= #[.func (.yield b) #[] #[]]) ⟨rfl,λi U=>match i,U with|0,_=>.yield e⟩ ⟨O,Z⟩
def AB.rangeOuter{fr:Fr}{H F:A5}{g:By}{ps:SI Tmp}{asg body:Code}{xs:Up (Up V)}{Q:Exit->Fr->A5->Prop}(ar:∀p∈ps,p<nt)(au:∀x∈xs,x.length=ps.size)(G:Fs P (ev fr g) xs)
 (I:Up (Up V)->A5->A5->Prop)(D:Code->A5->A5->Prop)(S:∀l,G7 (I l))(hD:∀c,G7 (D c))(J:Up V->Up (Up V)->Fr->A5->A5->Prop)(hJ:∀x l fr,G7 (J x l fr))(h0:I xs F H)
 (assign:∀id L x l F H,I (x::l) F H->F id=some (.loop L)->x.length=ps.size->AB P nt (some id) asg ⟨KT fr.s ps.toList x,[]⟩ H λe n H1=>e= .normal/\J x l n F H1)
 (O:∀id L x l n F H,J x l n F H->F id=some (.loop L)->AB P nt (some id) body n H λe _ H'=>AA5 (I l) D F e H')
 (done:∀d H',F d=none->I [] (upd F d (some (.obj (.deferred (some []))))) H'->Q .normal {fr with df:=d::fr.df} H')
 (ah:∀c d H',F d=none->D c (upd F d (some (.obj (.deferred (some []))))) H'->AB P nt none c {fr with df:=d::fr.df} H' Q):AB P nt none (.rangeFunc g ps asg body) fr H Q:=by
 intro r g0 w a hr Z hF;have hr:r=none:=hr;subst hr;have⟨f,C,ao,an,G⟩:=G;refine wpIn_rangeFunc λfn _=>?_;have j:=G2 Z hF.s g
 rw[ao]at j
 generalize am:a.eval g=gv at j
 cases j with
 | func B j aq av=>
  rename_i fs cs;have ap:fs= #[]:=Vh AY;subst ap;have⟨W,y⟩:∃W:FV,W= .obj (.deferred (some [])):=⟨_,rfl⟩;have q:H g0.nx=none:=(Z.nxt _ (C6 _)).2.2;have A:=Al.new Z (.deferred (some [])) False 0;have b:=Z.newNamed (.deferred (some [])) W (by rw[y];simp) (by rw[y];exact⟨w.heap.size,by simp[Gh.new],Z.bnd,DA,rfl⟩) (by rw[y];simp_all);have⟨w1,M⟩:∃w1,w.alloc (.deferred (some []))=w1:=⟨_,rfl⟩;have⟨g1,u⟩:∃g1,g0.new w False 0=g1:=⟨_,rfl⟩;have⟨L,hL⟩:∃L:LpI,L={nt:=nt,s:=fr.s,st:=.ready,pe:=none,ps:=ps,asg:=asg,body:=body}:=⟨_,rfl⟩;have⟨rec,k⟩:∃rec:Loop,rec={state:=.ready,pending:=none,fn,tmps:=a.tmps,params:=ps,assign:=asg,body,defers:=w.heap.size}:=⟨_,rfl⟩
  rw[M,u]at b A
  have hd:g1.mu g0.nx=some w.heap.size:=by rw[<-u];simp[Gh.new]
  have aw:g1.nx=g0.nx+1:=by rw[<-u];rfl
  have ai:=hF.mono A;have s2:=Al.new b (.loop rec) False 0;have X:=ai.mono s2
  have aa:=b.newNamed (.loop rec) (.loop L) OC (by
   rw[hL,k]
   exact⟨w1.heap.size,_,by simp[Gh.new],b.bnd,DA,rfl,rfl,rfl,rfl,rfl,hF.size,λt=>by have:=X.s t;rw[k]at this;exact this⟩)
  have⟨w2,af⟩:∃w2,w1.alloc (.loop rec)=w2:=⟨_,rfl⟩;have⟨g2,ac⟩:∃g2,g1.new w1 False 0=g2:=⟨_,rfl⟩
  rw[af,ac]at aa s2 X
  have ae:g2.mu g1.nx=some w1.heap.size:=by rw[<-ac];simp[Gh.new]
  have ad:(upd H g0.nx (some W)) g1.nx=none:=(b.nxt _ (C6 _)).2.2
  have ax:w1.heap.size=w.heap.size+1:=by rw[<-M];simp
  have i1:=(S xs).chg g0.nx (some W) h0 (by rw[q,(S xs).fresh h0 q]);have Y:=(S xs).fresh i1 ad;have i2:=(S xs).chg g1.nx (some (.loop L)) i1 (by rw[ad,Y]);have m:=AJ3 (fr:=fr) (nt:=nt) ar au G I D S hD J hJ assign O hL Y i2 (vals:= #[.func (.yield w1.heap.size) #[] #[]]++cs) aa ae (AP7 ae aq λi U=>(av i U).mono (A.trans s2)) (an _ _);refine⟨w1.heap.size,[{target:=.collected w.heap.size,args:= #[]}],w2,{target:=.fn (.func f) cs,args:= #[.func (.yield w1.heap.size) #[] #[]]},w2,f, #[.func (.yield w1.heap.size) #[] #[]]++cs,w2,?_,?_,λ_ _=>trivial,?_,λh=>by simp[Fw]at h,?_⟩
  ·rw[<-af,k,<-M,show(w.alloc (.deferred (some []))).heap.size=w.heap.size+1 by simp];exact run_enterLoop_outer _ _ _ _ _
  ·simp only[resolve,am];simp[go_sem]
  ·simp only[invoke];grind
  refine YE (m.mono λe w3 ⟨v,R,g3,H3,ag,w4,s3,al,ab,z⟩=>?_);subst R;refine⟨ag,w4,ab,?_⟩;have s:=(A.trans s2).trans s3
  have aj:FR nt g3 w4 {a with defers:=[{target:=.collected w.heap.size,args:= #[]}]++a.defers} {fr with df:=g0.nx::fr.df}:=by
   have N:=hF.mono s;refine⟨N.size,N.s,?_⟩;have⟨bs,k1,k2,k3⟩:=N.df;refine⟨w.heap.size::bs,Pw,λi U=>?_,by simp[k3]⟩
   cases i with
   |zero=>exact(s2.trans s3).mu _ _ hd
   |succ i=>simp_all
  have ak:F g0.nx=none:=(S xs).fresh h0 q
  rw[y]at z
  rcases z with⟨rfl,U⟩|⟨c,rfl,hd⟩
  ·grind[End]
  exact wpIn_mono (ah c _ _ ak hd none g3 w4 _ rfl al aj) λ_ _ _=>End.later s
end
def Rb (P:If) (A:Zb) (nt:Nat) (ops:SI Oper):Up Oper->Fr->A5->(Fr->A5->Prop)->Prop
 |[],fr,H,K=>K fr H
 | o ::rest,fr,H,K=>
  Kb nt o.dst=true/\
   match o.guard with
   |none=>Lv P A o (ev fr) H λv H'=>Rb P A nt ops rest (fr.put o.dst v) H' K
   | some (j,a)=>
    match(ops[j]?).bind (·.dst)with
    | some d=>
     match fr.s d with
     | .bool c=>
      (c=a->Lv P A o (ev (fr.put (some d) (.bool a))) H λv H'=>Rb P A nt ops rest ((fr.put (some d) (.bool a)).put o.dst v) H' K)/\
       (c= !a->Rb P A nt ops rest ((fr.put (some d) (.bool !a)).put o.dst (.tup [])) H K)
     |_=>False
    |none=>False
theorem cf141{P:If}{H:A5}{K w:V->A5->Prop}{x:Up Do}{vs:Up V}(h:Ky P H K x vs)(S:∀v H',K v H'->w v H'):Ky P H w x vs:=by
 unfold Ky at h ⊢
 split at h
 ·obtain⟨e,sz,by_,z,N,c,d,f,g,j,m,p,q,r,ys',s,u,a,b,i,k,l,n⟩:=h;exact⟨e,sz,by_,z,N,c,d,f,g,j,m,p,q,r,ys',s,u,a,b,i,k,λe=>S _ _ (l e),λt y e2=>S _ _ (n t y e2)⟩
 omega
def PU{P:If}{A:Zb}{o:Oper}{k:By->V}{H:A5}{K K':V->A5->Prop}(h:Lv P A o k H K)(S:∀v H',K v H'->K' v H'):Lv P A o k H K':=by
 unfold Lv at h ⊢
 split at h
 ·rcases h with⟨z,O,Z,i⟩|⟨O,sz,Z⟩
  ·grind
  exact .inr ⟨O,sz,λq id a b=>S _ _ (Z q id a b)⟩
 ·grind
 ·grind
 ·have key:∀{K K':V->A5->Prop} {t:Do} {l c:V},(∀v H',K v H'->K' v H')->Vy P H K t l c->Vy P H K' t l c:=by
   intro K K' t l c S h
   unfold Vy at h ⊢
   split at h
   ·obtain⟨e,sz,by_,z,u,B,C,D,F,G,I,J,L,m,p,s⟩:=h
    simp_all
   omega
  grind[Ax9]
 ·exact zbe
 ·exact zbe
 ·grind[litO]
 ·grind[Bx0]
 ·grind[Ko]
 ·grind[Ko]
 ·grind[RE]
 ·grind[XI]
 ·grind[Sc]
 ·grind
 ·split at h
  ·exact h.mono S
  ·rcases h with h|h|h
   rotate_left
   ·refine .inr (.inl ?_)
    unfold TI at h ⊢
    split at h
    ·obtain⟨e,sz,by_,z,r,w,x,N,d,f,g,j,h⟩:=h;refine⟨e,sz,by_,z,r,w,x,N,d,f,g,j,?_⟩
     grind[Of]
    omega
   ·exact .inr (.inr (cf141 h λv H' ⟨y,n,O,Z,i⟩=>⟨y,n,O,Z,S _ _ i⟩))
   grind[cf141]
  ·unfold AB9 at h ⊢
   grind
  ·unfold YD at h ⊢
   grind
  ·obtain⟨v,O,Z⟩:=h;exact⟨v,O,S _ _ Z⟩
  exact h.elim
 obtain⟨v,O,Z⟩:=h;exact⟨v,O,S _ _ Z⟩
def Au1{fr:Fr}{v:V}(h:fr.s d=v):fr.put (some d) v=fr:=by
 obtain⟨s,df⟩:=fr;simp only[Fr.put,Fr.mk.injEq,P7]
 funext t
 simp_all
def QC {P:If} {A:Zb} {nt:Nat} {ops:SI Oper} {K:Fr->A5->Prop}:∀(l:Up Oper) (fr:Fr) (H:A5),Rb P A nt ops l fr H K->MN P A nt ops l fr H K
 |[],_,_,h=>h
 | o ::rest,fr,H,h=>by
  simp only[Rb]at h
  simp only[MN];refine⟨h.1,?_⟩;obtain⟨_,h⟩:=h
  have mono:∀fr,Lv P A o (ev fr) H (λv H'=>Rb P A nt ops rest (fr.put o.dst v) H' K)->Lv P A o (ev fr) H λv H'=>MN P A nt ops rest (fr.put o.dst v) H' K:=by
   intro fr i;refine PU i λv H' S=>QC rest _ _ S
  unfold DC
  split at h
  ·simp_all
  rename_i j a e
  try simp only[e]
  split at h
  ·rename_i d hd
   try simp only[hd]
   split at h
   ·rename_i c b
    try simp only[b]
    obtain⟨O,Z⟩:=h
    cases c<;>cases a<;>simp only[beq_self_eq_true,W3,CS,reduceCtorEq,false_implies,true_implies,forall_const]at O Z ⊢
    all_goals first
     |(rw[Au1 b]at O;exact mono _ O)
     |(rw[Au1 b]at Z;exact QC rest _ _ Z)
   grind
  grind
section
variable {P:Program}{nt:Nat}{rd:Option Nat}{fr:Fr}{H:A5}{Q:Exit->Fr->A5->Prop}
def AB.step(A:Zb){id:Nat}{ops:SI Oper}{rest:Code}(h:∀K:Fr->A5->Prop,(∀a H',AB P nt rd rest a H' Q->K a H')->Rb P A nt ops ops.toList fr H K):
 AB P nt rd (.seq (.region id ops false) rest) fr H Q:=
 AB.seq (AB.region (A:=A) (QC _ _ _ (h _ λ_ _ x=>x)))
def AB.last(A:Zb){id:Nat}{ops:SI Oper}(h:∀K:Fr->A5->Prop,(∀a H',Q .normal a H'->K a H')->Rb P A nt ops ops.toList fr H K):
 AB P nt rd (.region id ops false) fr H Q:=AB.region (A:=A) (QC _ _ _ (h _ λ_ _ x=>x))
def QU:Up (Nat×V)->Nat->V
 |[],_=>.bad
 |(k,v)::l,t=>if t=k then v else QU l t
def mk (l:Up (Nat×V))(df:Up Nat):Fr:=⟨QU l,df⟩
end
structure AF1 where
 sz:Nat
 by_:Nat
 ag:Bool
 sl:Option Nat
 ar:Option (Nat×Nat)
 fs:List (Option (Nat×Nat))
 pl:Option (List (Nat×Nat))
 ze:Option V
 ek:Option (List Nat)
 st:Bool
 bo:Bool
 ik:Option IntKind
 nif:Bool
def Bk2 (P:If)(t:Do):Nat->Up (OS (Nat×Nat))->Prop
 |_,[]=>True
 |i,some p::l=>fdO P t i=some p/\Bk2 P t (i+1) l
 |i,none::l=>Bk2 P t (i+1) l
def Eh{α:Type}(o:OS α)(p:α->Prop):Prop:=
 match o with
 |some x=>p x
 |none=>True
structure Cc4 (P:Program) (t:TypeId) (I:AF1):Prop where
 sz:Hk P t=some I.sz
 by_:UI P t=some I.by_
 ag:ZC P t=some I.ag
 sl:Ic P t=I.sl
 ar:Qs P t=I.ar
 fs:Bk2 P t 0 I.fs
 pl:Eh I.pl λl=>SO P t=some l
 ze:Eh I.ze λz=>Lr P t=some z
 ek:Eh I.ek λk=>JR P 9 t=some k
 st:PM P t=I.st
 bo:I.bo=true->Bb3 (P.underlying t)=true
 ik:Eh I.ik λk=>P.underlying t=some (.int k)
 nif:I.nif=true->ifO P t=false
abbrev JV:=Up (Nat×AF1)
def Oz (P:If):JV->Prop
 |[]=>True
 |(t,I)::l=>Cc4 P t I/\Oz P l
def tg:JV->Nat->OS AF1
 |[],_=>none
 |(k,I)::l,t=>match Nat.beq t k with|true=>some I|false=>tg l t
def I7{P:If}{T:JV}(h:Oz P T){t:Nat}{I:AF1}(a:tg T t=some I):Cc4 P t I:=by
 induction T with
 |nil=>cases a
 |cons p l ih=>
  have⟨k,J⟩:=p
  simp only[tg]at a
  split at a
  ·simp_all[Oz]
  exact ih h.2 a
def Al0 {P:If}{t:Do}:∀(l:Up (OS (Nat×Nat))) (i j:Nat) (p:Nat×Nat),Bk2 P t i l->l[j]? =some (some p)->fdO P t (i+j)=some p
 |[],_,_,_,_,h=>by simp at h
 |some q::l,i,0,p,X,h=>by simp_all[Bk2]
 |none::l,i,0,p,X,h=>by simp at h
 |some q::l,i,j+1,p,X,h=>by have:=Al0 l (i+1) j p X.2 Pw;rwa[show i+(j+1)=i+1+j by omega]
 |none::l,i,j+1,p,X,h=>by have:=Al0 l (i+1) j p X Pw;rwa[show i+(j+1)=i+1+j by omega]
inductive Sl where
 |v (x:V)
 |b (c:Bool)
 |g (j:Nat) (w:Bool) (x:V)
def Sl.V:Sl->V
 | .v x=>x
 | .b c=>.bool c
 | .g _ _ x=>x
def Sl.n:Sl->Sl
 | .g _ _ x=>.v x
 |s=>s
abbrev Fl:=Up (Nat×Sl)
def lk:Fl->Nat->Sl
 |[],_=>.v .bad
 |(k,x)::l,t=>match Nat.beq t k with|true=>x|false=>lk l t
def Zm (v:V)(w:Bool):Bool:=
 match v with
 | .bool c=>c==w
 |_=>false
def EJ:Fl->Nat->V
 |[],_=>.bad
 |(k,s)::l,t=>
  match Nat.beq t k with
  |true=>(match s with| .v x=>x| .b c=>.bool c| .g j w x=>bif Zm (EJ l j) w then x else .tup [])
  |false=>EJ l t
def Zz (l:Fl):Sl->V
 | .v x=>x
 | .b c=>.bool c
 | .g j w x=>bif Zm (EJ l j) w then x else .tup []
def Bk3:Fl->Nat->Nat->Bool
 |[],_,_=>false
 |(k,_)::l,t,j=>match Nat.beq k j with|true=>false|false=>(match Nat.beq k t with|true=>true|false=>Bk3 l t j)
def BA0:Up (Nat×Bool)->Nat->Bool->Bool
 |[],_,_=>false
 |(j,w)::G,a,w'=>match Nat.beq j a&&(w==w')with|true=>true|false=>BA0 G a w'
def Av2 (G:Up (Nat×Bool)) (l:Fl) (t:Nat):OS Sl:=
 match lk l t with
 | .g j w x=>
  (match Bk3 l t j with
   | true=>
    (match BA0 G j w with
     |true=>some (.v x)
     |false=>(match lk l j with| .b c=>(match c==w with|true=>some (.v x)|false=>some (.v (.tup [])))|_=>none))
   |false=>none)
 |s=>some s
def BK9 (G:Up (Nat×Bool))(l:Fl)(t:Nat):Sl:=
 match Av2 G l t with
 |some s=>s
 |none=>.v (EJ l t)
def Ub:Fl->Nat->Bool->Fl
 |[],_,_=>[]
 |(k,s)::l,d,c=>match Nat.beq d k with|true=>(k,.b c)::l|false=>(k,s)::Ub l d c
structure St where
 l:Fl
 df:List Nat
def JG (e:BinOp)(a b:Int):Bool:=
 match e with
 | .eql=>a==b
 | .neq=>a !=b
 | .lss=>decide (a<b)
 | .leq=>decide (a<=b)
 | .gtr=>decide (a>b)
 | .geq=>decide (a>=b)
 |_=>false
def arI (e:BinOp)(k:IntKind)(a b:Int):Int:=
 match e with
 | .add=>k.wrap (a+b)
 | .sub=>k.wrap (a-b)
 | .mul=>k.wrap (a*b)
 | .quo=>k.wrap (a.tdiv b)
 | .rem=>a.tmod b
 | .and=>k.wrap (BitVec.ofInt k.bits a&&&BitVec.ofInt k.bits b).toNat
 | .or=>k.wrap (BitVec.ofInt k.bits a|||BitVec.ofInt k.bits b).toNat
 | .xor=>k.wrap (BitVec.ofInt k.bits a ^^^ BitVec.ofInt k.bits b).toNat
 | .andNot=>k.wrap (BitVec.ofInt k.bits a&&& ~~~(BitVec.ofInt k.bits b)).toNat
 |_=>0
def shI (e:BinOp)(k:IntKind)(a b:Int):Int:=
 match e with
 | .shl=>k.wrap (a*2 ^ (min b.toNat k.bits))
 |_=>a.fdiv (2 ^ (min b.toNat k.bits))
def Cb5 (a:BinOp)(x y:Uf):Bool:=
 match a with
 | .eql=>x.toList==y.toList
 | .neq=> !(x.toList==y.toList)
 | .lss=>Op.bytesLess x.toList y.toList
 | .leq=>Op.bytesLess x.toList y.toList||x.toList==y.toList
 | .gtr=> !(Op.bytesLess x.toList y.toList||x.toList==y.toList)
 | .geq=> !Op.bytesLess x.toList y.toList
 |_=>false
class Ar where
 cmp:BinOp->Int->Int->Bool
 cmp_eq:∀op a b,cmp op a b=JG op a b
 ar:BinOp->IntKind->Int->Int->Int
 ar_eq:∀op k a b,ar op k a b=arI op k a b
 sh:BinOp->IntKind->Int->Int->Int
 sh_eq:∀op k a b,sh op k a b=shI op k a b
 neg:IntKind->Int->Int
 neg_eq:∀k n,neg k n=k.wrap (0-n)
 wr:IntKind->Int->Int
 wr_eq:∀k n,wr k n=k.wrap n
 scmp:BinOp->ByteArray->ByteArray->Bool
 scmp_eq:∀op a b,scmp op a b=Cb5 op a b
 cat:ByteArray->ByteArray->ByteArray
 cat_eq:∀a b,cat a b=a++b
 slen:ByteArray->Int
 slen_eq:∀s,slen s=s.size
 sat:ByteArray->Int->Int
 sat_eq:∀s i,sat s i=match s[i.toNat]? with|some b=>(b.toNat:Int)|none=>0
 beq:Bool->Bool->Bool
 beq_eq:∀a b,beq a b=(a==b)
 nt:Bool->Bool
 nt_eq:∀a,nt a= !a
 an:Bool->Bool->Bool
 an_eq:∀a b,an a b=(a&&b)
 or:Bool->Bool->Bool
 or_eq:∀a b,or a b=(a||b)
 pk:Bool->Bool->Bool->Bool
 pk_eq:∀c a b,pk c a b=if c then a else b
 mx:Int->Int->Int
 mx_eq:∀a b,mx a b=if a<b then b else a
 mn:Int->Int->Int
 mn_eq:∀a b,mn a b=if b<a then b else a
 ofs:Int->Int->Int
 ofs_eq:∀a b,ofs a b=a+b
 ofN:Nat->Int
 ofN_eq:∀n,ofN n=n
 len:{α:Type}->List α->Int
 len_eq:∀{α:Type} (l:List α),len l=l.length
 lst:{α:Type}->(α->V)->List α->List V
 lst_eq:∀{α:Type} (f:α->V) (l:List α),lst f l=l.map f
variable [Ar]
structure Hj where
 ln:List V->(Int->Prop)->Prop
 br:Bool->(Unit->Prop)->(Unit->Prop)->Prop
 need:Prop->(Unit->Prop)->Prop
 needB:Bool->(Unit->Prop)->Prop
 idx:List V->Int->(V->Prop)->Prop
 aidx:Int->Nat->(Nat->Prop)->Prop
 elem:List V->Nat->Nat->Nat->Int->(V->Prop)->Prop
 slice:Nat->List V->G5->Option Int->Option Int->Option Int->(V->Prop)->Prop
 call:V->List V->A5->(V->A5->Prop)->Prop
 pcall:A5->V->List V->(V->Prop)->Prop
 load:A5->Nat->(List V->Prop)->Prop
 store:A5->Nat->Nat->Nat->List V->(A5->Prop)->Prop
 storeP:A5->Nat->Nat->Nat->List V->(A5->Prop)->Prop
 alloc:A5->List V->(Nat->A5->Prop)->Prop
 oalloc:Nat->A5->(Nat->A5->Prop)->Prop
 frz:A5->Nat->(List V->A5->Prop)->Prop
 frzL:A5->Nat->(List V->A5->Prop)->Prop
 frzIn:A5->Nat->Nat->(A5->Prop)->Prop
 adoptIn:A5->Nat->Nat->(A5->Prop)->Prop
 wkB:A5->Nat->(A5->Prop)->Prop
 give:A5->Nat->List V->(A5->Prop)->Prop
 olen:Int->(Int->Prop)->Prop
 ocap:A5->Nat->Int->(Int->Prop)->Prop
 oidx:A5->Nat->Nat->Int->Int->Int->(Int->Prop)->Prop
 oload:A5->Nat->Int->(V->Prop)->Prop
 ostore:A5->Nat->Int->Nat->Nat->Nat->V->(A5->Prop)->Prop
 omk:Nat->Nat->V->Int->Int->A5->(V->A5->Prop)->Prop
 oapp:Nat->Nat->V->A5->V->V->(V->A5->Prop)->Prop
 oappz:Nat->Nat->V->A5->V->Int->(V->A5->Prop)->Prop
 oapps:Nat->V->A5->V->ByteArray->(V->A5->Prop)->Prop
 onil:Nat->A5->(V->A5->Prop)->Prop
 olit:Nat->A5->List V->(V->A5->Prop)->Prop
 ostr:Nat->Nat->A5->V->(V->Prop)->Prop
 mmk:A5->(V->A5->Prop)->Prop
 mget:Nat->A5->V->V->Bool->(V->Prop)->Prop
 mset:Nat->A5->V->V->V->(A5->Prop)->Prop
 mrg:Nat->A5->V->(V->A5->Prop)->Prop
 mnx:A5->V->(V->A5->Prop)->Prop
 men:A5->V->(V->A5->Prop)->Prop
 mdel:List Nat->A5->List V->(V->A5->Prop)->Prop
 oslice:Nat->A5->Nat->Int->Int->Option Int->Option Int->Option Int->(V->Prop)->Prop
 ocopy:Nat->A5->V->V->(V->A5->Prop)->Prop
 oclear:Nat->V->A5->V->(A5->Prop)->Prop
 ofrz:A5->Nat->Int->Int->(List V->A5->Prop)->Prop
 nilc:V->(Unit->Prop)->(Unit->Prop)->Prop
 appn:Nat->Nat->A5->G5->List V->List V->(V->A5->Prop)->Prop
 takeT:A5->(G5->A5->Prop)->Prop
 nameT:A5->(G5->A5->Prop)->Prop
 appq:Nat->Nat->List V->List V->(V->Prop)->Prop
 appw:Nat->Nat->A5->G5->List V->List V->(V->A5->Prop)->Prop
 sim:Code->St->A5->(Exit->St->A5->Prop)->Prop
 fin:List Nat->A5->(A5->Prop)->Prop
def J7 (st:St):Fr:=⟨λt=>EJ st.l t,st.df⟩
structure Ib (fr:Fr) (st:St):Prop where
 s:∀t,Wk (fr.s t) (EJ st.l t)
 df:fr.df=st.df
def J1 (P:If) (nt:Nat) (rd:OS Nat):Hj where
 ln:=λl k=>k l.length
 br:=λc x y=>(c=true->x ())/\(c=false->y ())
 need:=λp k=>p/\k ()
 needB:=λb k=>b=true/\k ()
 idx:=λxs i k=>(0<=i/\i<xs.length)/\k (xs.getD i.toNat .bad)
 aidx:=λi n k=>(0<=i/\i<n)/\k i.toNat
 elem:=λcs off sz n i k=>(0<=i/\i<n/\off+n*sz<=cs.length)/\k (.eref ((cs.drop (off+i.toNat*sz)).take sz) 0)
 slice:=λsz xs tl lo U r k=>
  (0<=lo.getD 0/\lo.getD 0<=U.getD xs.length/\U.getD xs.length<=r.getD xs.length/\r.getD xs.length<=xs.length/\(r.isSome=true->U.isSome=true)/\
   (lo.getD 0<=0\/xs.all (λx=>x.cells.length==sz)=true))/\
  k (.sl ((xs.drop (lo.getD 0).toNat).take ((U.getD xs.length).toNat-(lo.getD 0).toNat)) (ME (lo.getD 0).toNat (U.getD xs.length).toNat xs.length r tl))
 call:=Ft P
 pcall:=λH A args k=>∃v,UR P A args H v/\k v
 load:=λH id k=>∃cs,H id=some (.cells cs)/\k cs
 store:=λH id off sz vs k=>∃cs N,M7 vs N/\H id=some (.cells cs)/\Nat.ble (off+sz) cs.length=true/\k (upd H id (some (.cells (Z7 cs off N))))
 storeP:=λH id off sz vs k=>∃cs,H id=some (.cells cs)/\Nat.ble (off+sz) cs.length=true/\k (upd H id (some (.cells (Z7 cs off vs))))
 give:=λH id cs k=>k (upd H id (some (.cells cs)))
 frz:=λH id k=>∃cs,H id=some (.cells cs)/\k cs (upd H id none)
 frzL:=λH id k=>∃cs ds,H id=some (.cells cs)/\M7 cs ds/\k ds (upd H id none)
 frzIn:=λH id j k=>∃cs q lo n sz xs ys,H id=some (.cells cs)/\cs[j]? =some (.own q lo n)/\H q=some (.arr sz xs)/\M7 (P2 xs lo n) ys/\k (upd (upd H q none) id (some (.cells (cs.set j (.sl ys .ro)))))
 adoptIn:=λH id j k=>∃cs sz,H id=some (.cells cs)/\cs[j]? =some (.sl [] .nil)/\∀q,H q=none->k (upd (upd H q (some (.arr sz []))) id (some (.cells (cs.set j (.own q 0 0)))))
 wkB:=λH id k=>∃cs ds,H id=some (.cells cs)/\M7 cs ds/\k (upd H id (some (.cells ds)))
 alloc:=λH cs k=>∀id,H id=none->k id (upd H id (some (.cells cs)))
 oalloc:=λsz H k=>∀q id,H q=none->upd H q (some (.arr sz [])) id=none->k id (upd (upd H q (some (.arr sz []))) id (some (.cells [.own q 0 0])))
 olen:=λn k=>k n
 ocap:=λH id lo k=>∃sz xs,H id=some (.arr sz xs)/\k ((xs.length:Nat)-lo)
 oidx:=λH id sz lo n i k=>(∃xs,H id=some (.arr sz xs))/\(0<=i/\i<n)/\k (Ar.ofs lo i)
 oload:=λH id i k=>∃sz xs,H id=some (.arr sz xs)/\(0<=i/\i<(xs.length:Nat))/\k (xs.getD i.toNat .bad)
 ostore:=λH id i esz sz off y k=>∃xs f,DI y f/\f.one=true/\f.cells.length=sz/\off+sz<=esz/\H id=some (.arr esz xs)/\(0<=i/\i<(xs.length:Nat))/\k (upd H id (some (.arr esz (xs.set i.toNat (Ox (xs.getD i.toNat .bad) esz sz off f)))))
 omk:=λsz by_ z n m H k=>(0<=n/\n<=m/\m*(by_:Nat)<=281474976710656)/\∃ys,M7 (List.replicate m.toNat z) ys/\∀id,H id=none->k (.own id 0 n) (upd H id (some (.arr sz ys)))
 onil:=λsz H k=>∀q,H q=none->k (.own q 0 0) (upd H q (some (.arr sz [])))
 olit:=λsz H xs k=>∃ys,M7 xs ys/\∀q,H q=none->k (.own q 0 (xs.length:Nat)) (upd H q (some (.arr sz ys)))
 ostr:=λs d H x k=>∃v,Ae5 P H s d x v/\k v
 mmk:=λH k=>Bx0 H k
 mget:=λt H x key ok k=>∃v,QI P H t x key ok v/\k v
 mset:=λt H x key v k=>Qx P H (λ_ H'=>k H') t x key v
 mrg:=λt H x k=>RE P H k t x
 mnx:=λH x k=>XI H k x
 men:=λH x k=>Sc H k x
 mdel:=λB H vs k=>BQ1 P H k B vs
 oapp:=λsz by_ z H x y k=>∃ys',Wb sz H y ys'/\Kg H k sz by_ z x ys'
 oappz:=λsz by_ z H x m k=>(0<=m/\(ownN x+m.toNat)*by_<=140737488355328)/\Kg H k sz by_ z x (List.replicate m.toNat z)
 oapps:=λby_ z H x s k=>Kg H k 1 by_ z x (Id s)
 oslice:=λsz H id l n lo U r k=>∃xs,H id=some (.arr sz xs)/\
  (0<=lo.getD 0/\lo.getD 0<=U.getD n/\U.getD n<=r.getD ((xs.length:Nat)-l)/\r.getD ((xs.length:Nat)-l)<=(xs.length:Nat)-l/\(r.isSome=true->U.isSome=true))/\
  k (match r with|none=>.own id (l+lo.getD 0) (U.getD n-lo.getD 0)|some _=>.bad)
 ocopy:=λsz H x y k=>
  match x with
  | .own id lo n=>∃xs ys',H id=some (.arr sz xs)/\Wb sz H y ys'/\
   k (.int .i64 (if n<(ys'.length:Nat)then n else(ys'.length:Nat))) (upd H id (some (.arr sz (Cp xs lo.toNat (ys'.take n.toNat)))))
  |_=>False
 oclear:=λsz z H x k=>
  match x with
  | .own id lo n=>∃xs,H id=some (.arr sz xs)/\k (upd H id (some (.arr sz (Cp xs lo.toNat (List.replicate n.toNat z)))))
  |_=>False
 nilc:=λx a b=>∃p,Bh8 x=some p/\(p->a ())/\b ()
 ofrz:=λH id lo n k=>∃sz xs ys,H id=some (.arr sz xs)/\M7 (P2 xs lo n) ys/\k ys (upd H id none)
 takeT:=λH k=>∃u,Kn H u/\k u (H5 H u)
 nameT:=λH k=>(∀tl,tl= .nil\/tl= .full->k tl H)/\∀t,H t=none->k (.tok t) (upd H t (some .spare))
 appn:=λsz by_ H tl xs ys k=>∃h ys',M7 xs h/\M7 ys ys'/\Kn H tl/\h.all (λx=>x.cells.length==sz)=true/\ys'.all (λx=>x.cells.length==sz)=true/\(h.length+ys'.length)*by_<=140737488355328/\(ys'=[]->k (.sl h tl) H)/\
  ∀t,ys'≠[]->H5 H tl t=none->k (.sl (h++ys') (.tok t)) (upd (H5 H tl) t (some .spare))
 appq:=λsz by_ xs ys k=>∃h ys',M7 xs h/\M7 ys ys'/\h.all (λx=>x.cells.length==sz)=true/\ys'.all (λx=>x.cells.length==sz)=true/\(h.length+ys'.length)*by_<=140737488355328/\k (.sl (h++ys') .ro)
 appw:=λsz by_ H tl xs ys k=>∃h ys',M7 xs h/\M7 ys ys'/\Kn H tl/\h.all (λx=>x.cells.length==sz)=true/\ys'.all (λx=>x.cells.length==sz)=true/\(h.length+ys'.length)*by_<=140737488355328/\k (.sl (h++ys') .ro) (H5 H tl)
 sim:=λc st H K=>AB P nt rd c (J7 st) H λe g H'=>∃w,Ib g w/\K e w H'
 fin:=λdf H k=>BQ0 H df/\k (clear H df)
section
variable (E:Hj)(T:JV)
def Y4 (G:Up (Nat×Bool))(l:Fl):By->Sl
 | .tmp t=>BK9 G l t
 | .const (.bool b)=>.b b
 | .const v=>.v (cv v)
 | .global n=>.v (O7.gl n)
 | .func f=>.v (.func (.func f) [] [])
def AR4 (t:Nat) (v:V) (H:A5) (k:V->Prop):Prop:=
 match tg T t with
 |none=>False
 |some I=>
  match v with
  | .eref cs off=>(match Im I.ag I.sz cs off with|some y=>k y|none=>False)
  | .ref id off=>E.load H id λcs=>(match Im I.ag I.sz cs off with|some y=>k y|none=>False)
  | .elem id i _ off=>E.oload H id i λx=>(match Im I.ag I.sz x.cells off with|some y=>k y|none=>False)
  |_=>False
def MI (o:OS V)(k:V->Prop):Prop:=
 match o with
 |some y=>k y
 |none=>False
def Rr (t:Nat)(v:V)(f:Nat)(k:V->Prop):Prop:=
 match tg T t with
 |none=>False
 |some I=>(match I.fs[f]? with|some (some p)=>MI (Bn0 v p.1) k|_=>False)
def AG3 (t:Nat) (v:V) (f:Nat) (k:V->Prop):Prop:=
 match tg T t with
 |none=>False
 | some I=>
  match I.fs[f]? with
  | some (some p)=>
   (match tg T p.2 with
    |none=>False
    |some J=>(match v with| .agg cs=>MI (Im J.ag J.sz cs p.1) k|_=>False))
  |_=>False
def Rq (t:Nat) (v:V) (i:V) (k:V->Prop):Prop:=
 match i with
 | .int _ i=>
  (match tg T t with
   |none=>False
   | some I=>
    match I.sl with
    | some e=>
     (match tg T e with
      |none=>False
      |some J=>
       match v with
       | .sl xs _=>E.idx xs i λx=>(match Nat.beq x.cells.length J.sz with|true=>k (.eref x.cells 0)|false=>False)
       |_=>False)
    |none=>
     match I.ar with
     |some (n,e)=>(match tg T e with|none=>False|some J=>(match v with| .eref cs off=>E.elem cs off J.sz n i k|v=>E.aidx i n λm=>MI (Bn0 v (m*J.sz)) k))
     |none=>False)
 |_=>False
def AG2 (t:Nat) (v:V) (i:V) (k:V->Prop):Prop:=
 match i with
 | .int _ i=>
  (match tg T t with
   |none=>False
   |some I=>
    match I.ar with
    |some (n,e)=>(match tg T e with|none=>False|some J=>(match v with| .agg cs=>E.aidx i n λm=>MI (Im J.ag J.sz cs (m*J.sz)) k|_=>False))
    |none=>(match v with| .str s=>(match I.st with|true=>E.needB (Ar.an (Ar.cmp .geq i 0) (Ar.cmp .lss i (Ar.slen s))) λ_=>k (.int .u8 (Ar.sat s i))|false=>False)|_=>False))
 |_=>False
def Km:Up V->Up V->OS Bool
 |[],[]=>some true
 |x::xs,y::ys=>
  match x,y with
  | .int k a,.int k' b=>if k=k' then(Km xs ys).map (Ar.an (Ar.cmp .eql a b))else none
  | .str a,.str b=>(Km xs ys).map (Ar.an (Ar.scmp .eql a b))
  | .bool a,.bool b=>(Km xs ys).map (Ar.an (Ar.beq a b))
  |_,_=>none
 |_,_=>none
def Yd:BinOp->Bool
 | .eql| .neq| .lss| .leq| .gtr| .geq=>true
 |_=>false
def Bz2:BinOp->Bool
 | .quo| .rem=>true
 |_=>false
def BO1:BinOp->Bool
 | .add| .sub| .mul| .and| .or| .xor| .andNot=>true
 |_=>false
def BV6 (e:BinOp) (t:Nat) (x y:V) (k:V->Prop):Prop:=
 match x,y with
 | .int h a,.int i b=>
  (match Mx e with
   |true=>E.needB (Ar.cmp .geq b 0) λ_=>k (.int h (Ar.sh e h a b))
   | false=>
    if h=i then
     (match Yd e with
      |true=>k (.bool (Ar.cmp e a b))
      |false=>
       match BO1 e with
       |true=>k (.int h (Ar.ar e h a b))
       |false=>(match Bz2 e with|true=>E.needB (Ar.cmp .neq b 0) λ_=>k (.int h (Ar.ar e h a b))|false=>False))
    else False)
 | .str a,.str b=>
  (match Yd e with
   |true=>k (.bool (Ar.scmp e a b))
   |false=>(match e with| .add=>E.needB (Ar.cmp .leq (Ar.slen (Ar.cat a b)) 9223372036854775807) λ_=>k (.str (Ar.cat a b))|_=>False))
 | .bool a,.bool b=>
  (match tg T t with
   |none=>False
   |some I=>
    match I.bo with
    |true=>(match e with| .eql=>k (.bool (Ar.beq a b))| .neq=>k (.bool (Ar.nt (Ar.beq a b)))|_=>False)
    |false=>False)
 | .agg xs,.agg ys=>
  (match tg T t with
   |none=>False
   | some I=>
    if I.ag=true/\I.ek=some (xs.map kd)/\ys.map kd=xs.map kd then
     (match e with
      | .eql=>(match Km xs ys with|some b=>k (.bool b)|none=>False)
      | .neq=>(match Km xs ys with|some b=>k (.bool (Ar.nt b))|none=>False)
      |_=>False)
    else False)
 |_,_=>False
def xun (b:UnOp)(x:Sl)(k:Sl->Prop):Prop:=
 match b with
 | .not=>(match x with| .b c=>k (.b (!c))| .v (.bool c)=>k (.v (.bool (Ar.nt c)))|_=>False)
 | .neg=>(match x with| .v (.int a n)=>k (.v (.int a (Ar.neg a n)))|_=>False)
 |_=>False
def Bo9 (s d:Nat) (x:V) (H:A5) (k:V->Prop):Prop:=
 match tg T s,tg T d with
 | some I,some J=>
  (match I.ik,J.ik,x with
   |some _,some a,.int _ n=>k (.int a (Ar.wr a n))
   |_,_,.str b=>(match I.st,J.st with|true,true=>k (.str b)|_,_=>False)
   |_,_,.own id lo n=>E.ostr s d H (.own id lo n) k
   |_,_,.sl xs tl=>E.ostr s d H (.sl xs tl) k
   |_,_,_=>False)
 |_,_=>False
def AG5 (t:Nat) (a:Up (Nat×V)) (k:V->Prop):Prop:=
 match tg T t with
 |none=>False
 | some I=>
  match I.ze with
  | some (.agg cs)=>
   (match I.ar with
    |some (_,e)=>(match tg T e with|none=>False|some J=>(match Qk (λi=>some (i*J.sz,J.sz)) cs a with|some c=>k (.agg c)|none=>False))
    |none=>(match I.pl with|some pl=>(match Qk (λi=>pl[i]?) cs a with|some c=>k (.agg c)|none=>False)|none=>False))
  |_=>False
def Mg (t n:Nat) (a:Up (Nat×V)) (k:V->Prop):Prop:=
 match tg T t with
 |none=>False
 | some I=>
  match I.sl with
  |none=>False
  | some e=>
   match tg T e with
   |none=>False
   |some J=>
    match J.ze with
    |none=>False
    |some _=>if n*J.sz<=16777216/\a.length=n/\Fa J.sz 0 a=true then k (.sl (a.map λq=>q.2) .full)else False
def AG1 (t:Nat) (l c:V) (k:V->Prop):Prop:=
 match l,c with
 | .int _ n,.int _ m=>
  (match tg T t with
   |none=>False
   | some I=>
    match I.sl with
    |none=>False
    | some e=>
     match tg T e with
     |none=>False
     |some J=>
      match J.ze with
      |none=>False
      |some z=>if 0<J.sz/\0<J.by_/\z.one=true/\z.cells.length=J.sz/\n=m/\0<=n/\n*(J.by_:Nat)<=281474976710656 then k (.sl (List.replicate n.toNat z) .ro)else False)
 |_,_=>False
def AF8 (t:Nat) (v:V) (lo U a:OS (OS Int)) (k:V->Prop):Prop:=
 match lo,U,a with
 | some l,some h,some m=>
  (match tg T t with
   |none=>False
   |some I=>
    match I.sl with
    |some e=>(match tg T e with|none=>False|some J=>(match v with| .sl xs tl=>E.slice J.sz xs tl l h m k|_=>False))
    |none=>False)
 |_,_,_=>False
def noPl:G5->Bool
 | .nil=>true
 | .full=>true
 |_=>false
def TR (b:Builtin) (v:Up Do) (vs:Up V) (k:V->Prop):Prop:=
 match b,v,vs with
 | .len,[t],[x]=>
  (match tg T t with
   |none=>False
   | some I=>
    match I.sl with
    |some _=>(match x with| .sl xs _=>E.ln xs λn=>k (.int .i64 n)|_=>False)
    |none=>
     match I.ar with
     |some (n,_)=>k (.int .i64 (Ar.ofN n))
     |none=>(match x with| .str s=>(match I.st with|true=>k (.int .i64 (Ar.slen s))|false=>False)|_=>False))
 | .max,_,[.int h a,.int i b]=>if h=i then k (.int h (Ar.mx a b))else False
 | .min,_,[.int h a,.int i b]=>if h=i then k (.int h (Ar.mn a b))else False
 | .append,[r,w],[.sl xs tl,.sl ys _]=>
  (match tg T r,tg T w with
   | some I,some l=>
    (match I.sl,l.sl with
     | some e,some _=>
      (match tg T e with
       | some J=>
        (match J.ze with
         |some z=>if 0<J.sz/\0<J.by_/\z.one=true/\z.cells.length=J.sz/\noPl tl=true then E.appq J.sz J.by_ xs ys k else False
         |none=>False)
       |none=>False)
     |_,_=>False)
   |_,_=>False)
 |_,_,_=>False
def Cc2 (c:By)(w:Bool)(G:Up (Nat×Bool)):Up (Nat×Bool):=
 match c with
 | .tmp d=>(d,w)::G
 |_=>G
def Bo3 (t:Bool)(x y:Sl)(k:Sl->Prop):Prop:=
 match x,y with
 | .b true,.b true=>k (.b true)
 | .b true,.b false=>k (.v (.bool t))
 | .b true,.v (.bool b)=>k (.v (.bool (Ar.or t b)))
 | .b false,.b true=>k (.v (.bool (Ar.nt t)))
 | .b false,.b false=>k (.b false)
 | .b false,.v (.bool b)=>k (.v (.bool (Ar.an (Ar.nt t) b)))
 | .v (.bool a),.b true=>k (.v (.bool (Ar.or (Ar.nt t) a)))
 | .v (.bool a),.b false=>k (.v (.bool (Ar.an t a)))
 | .v (.bool a),.v (.bool b)=>k (.v (.bool (Ar.pk t a b)))
 |x,y=>E.br t (λ_=>k x) (λ_=>k y)
def BU0:V->Bool
 | .eref _ _=>true
 | .ref _ _=>true
 |_=>false
def Qd (v:V):Bool:=
 match v with
 | .sl [] .nil=>true
 |_=>false
def BO0 (x:By):Bool:=
 match x with
 | .const (.slice _ _ _)=>true
 |_=>false
def Qc (G:Up (Nat×Bool))(o:Oper)(l:Fl):Bool:=
 match o.op with
 | .move x=> !(BO0 x)
 | .assign x=> !(BO0 x)
 | .pick _ _ _=>true
 | .load _ x=>BU0 (Y4 G l x).V
 | .fieldAddr _ x _=>BU0 (Y4 G l x).V
 | .field _ _ _=>true
 | .build _ _=>true
 | .binOp a _ _ _ _=>Yd a||BO1 a
 | .unOp _ _ _=>true
 | .extract _ _=>true
 | .call c=>(match c.callee with| .builtin .len=>true|_=>false)
 |_=>false
def BS6 (t:Nat) (H:A5) (id:Nat) (lo n:Int) (i:V) (k:V->Prop):Prop:=
 match i with
 | .int _ i=>
  (match tg T t with
   |none=>False
   |some I=>
    match I.sl with
    |some e=>(match tg T e with|none=>False|some J=>E.oidx H id J.sz lo n i λj=>k (.elem id j J.sz 0))
    |none=>False)
 |_=>False
def Bo6 (b:Builtin) (a:Up Do) (H:A5) (v:V) (k:V->Prop):Prop:=
 match a with
 | [t] =>
  (match tg T t with
   |none=>False
   | some I=>
    (match I.sl with
     | some _=>
      (match b,v with
       | .len,.own _ _ n=>E.olen n λn=>k (.int .i64 n)
       | .cap,.own id lo _=>E.ocap H id lo λn=>k (.int .i64 n)
       | .cap,.sl [] .nil=>k (.int .i64 0)
       | .cap,.sl [] .full=>k (.int .i64 0)
       |_,_=>False)
     |none=>False))
 |_=>False
def AK0 (b:Builtin)(vs:Up V):OS V:=
 match b,vs with
 | .len,[.own id lo n]=>some (.own id lo n)
 | .cap,[v]=>some v
 |_,_=>none
def Af8 (t:Nat) (H:A5) (id:Nat) (l n:Int) (lo U h:OS (OS Int)) (k:V->Prop):Prop:=
 match lo,U,h with
 | some a,some b,some c=>
  (match tg T t with
   |none=>False
   |some I=>(match I.sl with|some e=>(match tg T e with|none=>False|some J=>E.oslice J.sz H id l n a b c k)|none=>False))
 |_,_,_=>False
def xq (G:Up (Nat×Bool)) (o:Oper) (l:Fl) (H:A5) (k:Sl->Prop):Prop:=
 match o.op with
 | .move x=>k (Y4 G l x)
 | .assign x=>k (Y4 G l x)
 | .pick c x y=>
  (match Y4 G l c with
   | .b true=>k (Y4 G l x)
   | .b false=>k (Y4 G l y)
   | .v (.bool t)=>Bo3 E t (Y4 (Cc2 c true G) l x) (Y4 (Cc2 c false G) l y) k
   |_=>False)
 | .box _ x=>(match(Y4 G l x).V.one with|true=>k (.v (.eref (Y4 G l x).V.cells 0))|false=>False)
 | .build t e=>AG5 T t (e.toList.map λp=>(p.1,(Y4 G l p.2).V)) λv=>k (.v v)
 | .buildSlice t n e=>Mg T t n (e.toList.map λp=>(p.1,(Y4 G l p.2).V)) λv=>k (.v v)
 | .makeSlice t x y=>AG1 T t (Y4 G l x).V (Y4 G l y).V λv=>k (.v v)
 | .load t x=>AR4 E T t (Y4 G l x).V H λv=>k (.v v)
 | .nilCheck x=>(match AV5 (Y4 G l x).V with|true=>k (Y4 G l x)|false=>False)
 | .binOp a t x y _=>BV6 E T a t (Y4 G l x).V (Y4 G l y).V λv=>k (.v v)
 | .unOp a _ x=>xun a (Y4 G l x) k
 | .convert s d x=>Bo9 E T s d (Y4 G l x).V H λv=>k (.v v)
 | .lookup t x y ok=>E.mget t H (Y4 G l x).V (Y4 G l y).V ok λv=>k (.v v)
 | .makeInterface t x=>(match tg T t with|some I=>(match I.nif with|true=>k (.v (.iface t (Y4 G l x).V))|false=>False)|none=>False)
 | .makeFunc fn fs cs=>k (.v (.func fn (fs.toList.map λx=>(Y4 G l x).V) (cs.toList.map λx=>(Y4 G l x).V)))
 | .slice t x lo U h=>
  match(Y4 G l x).V with
  | .own id i n=>Af8 E T t H id i n (Ey (lo.map λx=>(Y4 G l x).V)) (Ey (U.map λx=>(Y4 G l x).V)) (Ey (h.map λx=>(Y4 G l x).V)) λv=>k (.v v)
  |v=>AF8 E T t v (Ey (lo.map λx=>(Y4 G l x).V)) (Ey (U.map λx=>(Y4 G l x).V)) (Ey (h.map λx=>(Y4 G l x).V)) λv=>k (.v v)
 | .fieldAddr t x f=>Rr T t (Y4 G l x).V f λv=>k (.v v)
 | .field t x f=>AG3 T t (Y4 G l x).V f λv=>k (.v v)
 | .indexAddr t x y=>(match(Y4 G l x).V with| .own id lo n=>BS6 E T t H id lo n (Y4 G l y).V λv=>k (.v v)|v=>Rq E T t v (Y4 G l y).V λv=>k (.v v))
 | .index t x y=>AG2 E T t (Y4 G l x).V (Y4 G l y).V λv=>k (.v v)
 | .extract x n=>(match(Y4 G l x).V with| .tup cs=>MI cs[n]? λv=>k (.v v)|_=>False)
 | .call c=>
  (match c.callee with
   | .builtin b=>
    (match AK0 b (c.args.toList.map λx=>(Y4 G l x).V)with
     |some w=>Bo6 E T b c.argTypes.toList H w λv=>k (.v v)
     |none=>TR E T b c.argTypes.toList (c.args.toList.map λx=>(Y4 G l x).V) λv=>k (.v v))
   |_=>False)
 |_=>False
end
end Go.Ab
