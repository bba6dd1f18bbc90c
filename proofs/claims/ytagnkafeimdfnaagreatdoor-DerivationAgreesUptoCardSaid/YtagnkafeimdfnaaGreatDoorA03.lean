/- . -/
import Derived.Test.YtagnkafeimdfnaaGreatDoorA01
import Derived.MapKept
import Derived.RangeFuncRecord
import Derived.Laws.BytesString
import Derived.Maps.RangeRun
import Derived.OrdersIn
import Derived.RangeFuncNested
set_option linter.all false
namespace Go.Ab
open Go.RowKit Go.MapKept
variable [P3]
def Om:V->OS HO
 | .bool b=>some (.bool b)
 | .int k n=>some (.int k n)
 | .str s=>some (.string s)
 |_=>none
def MG:Up V->OS (Up HO)
 |[]=>some []
 |x::l=>match Om x,MG l with|some v,some r=>some (v::r)|_,_=>none
def DY:V->OS HO
 | .agg cs=>(MG cs).map λl=>.agg l.toArray
 |v=>Om v
theorem Af0 {g:Gh}{w:Is}{x:V}{u v:HO}(h:Om x=some u)(q:VR g w v x):v=u:=by
 cases x<;>simp only[Om,E7,reduceCtorEq]at h<;>subst h<;>cases q<;>rfl
theorem Ae9 {g:Gh}{w:Is}{x:V}{u:HO}(h:Om x=some u):VR g w u x:=by
 cases x<;>simp only[Om,E7,reduceCtorEq]at h<;>subst h<;>constructor
def AU6 {x:V}{u:HO}(h:Om x=some u):u.oneCell'=true:=by
 cases x<;>simp only[Om,E7,reduceCtorEq]at h<;>subst h<;>rfl
theorem Af1 {x y:V}{u:HO}(h:Om x=some u)(a:Om y=some u):x=y:=by
 cases x<;>simp only[Om,E7,reduceCtorEq]at h<;>subst h<;>cases y<;>simp_all[Om]
def Vk:∀{l:Up V} {r:Up HO},MG l=some r->r.length=l.length
 |[],r,h=>by simp_all[MG]
 |x::l,r,h=>by
  unfold MG at h
  split at h
  ·rename_i v a O Z;cases h;simp[Vk Z]
  cases h
def Uq:∀{l:Up V} {r:Up HO},MG l=some r->∀i,i<l.length->Om (l.getD i .bad)=some (r.getD i undef)
 |[],r,h,i,U=>by simp at U
 | x::l,r,h,i,U=>by
  unfold MG at h
  split at h
  ·rename_i v a O Z;cases h
   cases i with
   |zero=>grind
   |succ i=>simpa using Uq Z i za7
  cases h
def Vi {g:Gh} {w:Is} {x:V} {u:HO} (h:DY x=some u):VR g w u x:=by
 unfold DY at h
 split at h
 ·rename_i cs
  cases f:MG cs with
  |none=>rw[f]at h;cases h
  |some r=>
   rw[f]at h
   simp only[K5,E7]at h
   subst h;have e:=Vk f;refine .agg (by simp[e]) (λi U=>?_) λi U=>?_
   ·have:=AU6 (Uq f i U);simp_all
   have:=Ae9 (g:=g) (w:=w) (Uq f i U);simp_all
 grind[Ae9]
def Ol {g:Gh} {w:Is} {x:V} {u v:HO} (h:DY x=some u) (q:VR g w v x):v=u:=by
 unfold DY at h
 split at h
 ·rename_i cs
  cases f:MG cs with
  |none=>rw[f]at h;cases h
  | some r=>
   rw[f]at h
   simp only[K5,E7]at h
   subst h;have e:=Vk f
   cases q with
   |agg B O q=>
    rename_i vs
    congr 1
    apply Iy
    ·simp[B,e]
    intro i U b
    have a:i<cs.length:=za2
    have:=Af0 (Uq f i a) (q i a)
    simp_all
 grind[Af0]
def OU (a:za1 MapEntry)(clock:Nat):Prop:=(∀x∈a.toList,x.born<clock)/\(a.toList.map (·.born)).Nodup
def OU.empty:OU #[] 0:=⟨λx h=>by simp at h,za4⟩
def OU.push {a:za1 MapEntry}{clock:Nat}(h:OU a clock)(k v:HO):OU (a.push {key:=k,val:=v,born:=clock}) (clock+1):=by
 grind[OU]
def OU.modify {a:za1 MapEntry} {clock:Nat} (h:OU a clock) (i:Nat) (k v:HO):OU (a.modify i λe=>{e with key:=k,val:=v}) clock:=by
 have A:(a.modify i λe=>{e with key:=k,val:=v}).toList.map (·.born)=a.toList.map (·.born):=by
  apply CZ
  grind
 refine⟨λx M=>?_,by rw[A];exact h.2⟩
 have:x.born∈a.toList.map (·.born):=by rw[<-A];grind
 grind[OU]
def OU.sub {b a:za1 MapEntry}{clock:Nat}(h:OU b clock)(C:a.toList.Sublist b.toList):OU a clock:=⟨λx M=>h.1 x (C.subset M),(C.map _).nodup h.2⟩
theorem Af3:∀{l a:Up V} {r:Up HO},MG l=some r->MG a=some r->l=a
 |[],a,r,h,b=>by
  simp only[MG,E7]at h;subst h
  cases a with
  |nil=>rfl
  |cons x l=>grind[MG]
 | x::l,a,r,h,b=>by
  unfold MG at h
  split at h
  ·rename_i v e O Z;cases h
   cases a with
   |nil=>cases b
   |cons y a=>
    unfold MG at b
    split at b
    ·rename_i i g J s;cases b;rw[Af1 O J,Af3 Z s]
    cases b
  cases h
theorem Af2 {x:V}{u:HO}(h:Om x=some u)(c:za1 HO):u≠ .agg c:=by
 cases x<;>simp only[Om,E7,reduceCtorEq]at h<;>subst h<;>simp
def Qn {x:V} {u:HO} (h:DY x=some u):(∃cs r,x= .agg cs/\MG cs=some r/\u= .agg r.toArray)\/Om x=some u:=by
 unfold DY at h
 split at h
 ·rename_i cs
  cases f:MG cs with
  |none=>rw[f]at h;cases h
  |some r=>rw[f]at h;simp_all
 grind
def Vj {x y:V} {u:HO} (h:DY x=some u) (g:DY y=some u):x=y:=by
 rcases Qn h with⟨a,r,rfl,O,rfl⟩|O
 ·rcases Qn g with⟨b,r2,rfl,Z,e⟩|Z
  ·have:r=r2:=za7
   grind[Af3]
  grind[Af2]
 rcases Qn g with⟨b,r2,rfl,Z,rfl⟩|Z
 ·grind[Af2]
 grind[Af1]
def HK:TypeDesc->HO->Prop
 | .array n _,v=>QK .i64 n v
 | .struct fs,v=>QK .i64 fs.size v
 |d,v=>IsKey d v
structure EM (d:TypeDesc) (o:Obj) (m:List (V×V)):Prop where
 ex:∃es clock,o= .map es clock/\es.toList.map (λe=>(some e.key,some e.val))=m.map λp=>(DY p.1,DY p.2)
 keys:∀p∈m,∃k,DY p.1=some k/\HK d k
 nodup:(m.map (·.1)).Nodup
 st:∀es clock,o= .map es clock->OU es clock
def EM.empty (d:TypeDesc):EM d (.map #[] 0) []:=⟨⟨_,_,rfl,rfl⟩,λp h=>(by cases h),List.nodup_nil,λa clock h=>by simp_all[OU]⟩
theorem Pi {α:Type}{l:Up α}(h:l.Nodup){i j:Nat}(U:i<l.length)(u:j<l.length)(e:l[i]=l[j]):i=j:=by
 have h:=List.pairwise_iff_getElem.1 h
 grind
def Br9 (P:If)(et:Do)(m:Up (V×V))(key:V)(ok:Bool)(v:V):Prop:=
 ((∀p∈m,p.1≠key)/\∃z,KC P et=some z/\v=if ok=true then .tup [z,.bool false]else z)\/∃y,(key,y)∈m/\v=if ok=true then .tup [y,.bool true]else y
def Bk7 (P:If)(H:A6)(t:Do)(x key:V)(ok:Bool)(v:V):Prop:=
 ∃kt et d a id o m,P.underlying t=some (.map kt et)/\KG P kt (HK d)/\DY key=some a/\HK d a/\x= .map id/\H id=some (.obj o)/\EM d o m/\Br9 P et m key ok v
def AC4 (P:If)(t:Do)(x key:V)(ok:Bool)(v:V):Prop:=
 ∃kt et ks xs n,P.underlying t=some (.map kt et)/\P.underlying kt=some (.int .i64)/\x= .fmap ks xs/\key= .int .i64 n/\ok=false/\((∃i:Nat,ks[i]? =some n/\v=xs.getD i .bad)\/((∀k∈ks,k≠n)/\KC P et=some v))
def AC3 (P:If) (H:A6) (t:Do) (x key:V) (ok:Bool) (v:V):Prop:=
 ∃kt et G a id ks xs,P.underlying t=some (.map kt et)/\KG P kt G/\DY key=some a/\G a/\x= .map id/\H id=some (.vm ks xs)/\(∀k∈ks,G k)/\
  (((∀k∈ks,k≠a)/\∃z b,KC P et=some z/\DK z b/\v=if ok=true then .tup [b,.bool false]else b)\/∃i:Nat,ks[i]? =some a/\v=if ok=true then .tup [xs.getD i .bad,.bool true]else xs.getD i .bad)
def Pr (P:If)(H:A6)(t:Do)(x key:V)(ok:Bool)(v:V):Prop:=Bk7 P H t x key ok v\/AC4 P t x key ok v\/AC3 P H t x key ok v
def AX7 (H:A6)(K:V->A6->Prop):Prop:=(∀id,H id=none->K (.map id) (upd H id (some (.obj (.map #[] 0)))))\/(∀id,H id=none->K (.map id) (upd H id (some (.fm [] []))))\/∀id,H id=none->K (.map id) (upd H id (some (.vm [] [])))
def Az2 (P:If)(H:A6)(K:V->A6->Prop)(t:Do)(x key a:V):Prop:=
 ∃kt et ks xs n id,P.underlying t=some (.map kt et)/\P.underlying kt=some (.int .i64)/\x= .map id/\H id=some (.fm ks xs)/\key= .int .i64 n/\(∀k∈ks,k≠n)/\K .bad (upd H id (some (.fm (ks++[n]) (xs++[a]))))
def Bx0 (m:Up (V×V))(k v:V)(e:Up (V×V)):Prop:=
 ((∀p∈m,p.1≠k)/\e=m++[(k,v)])\/∃a y b,m=a++(k,y)::b/\e=a++(k,v)::b
def Bf4 (P:If) (H:A6) (K:V->A6->Prop) (t:Do) (x key a:V):Prop:=
 ∃kt et d b g id o m e,P.underlying t=some (.map kt et)/\KG P kt (HK d)/\DY key=some b/\HK d b/\DY a=some g/\x= .map id/\H id=some (.obj o)/\EM d o m/\Bx0 m key a e/\
  ∀o',EM d o' e->K .bad (upd H id (some (.obj o')))
def Az1 (P:If) (H:A6) (K:V->A6->Prop) (t:Do) (x key b:V):Prop:=
 ∃kt et G a id ks xs,P.underlying t=some (.map kt et)/\KG P kt G/\DY key=some a/\G a/\x= .map id/\H id=some (.vm ks xs)/\(∀k∈ks,G k)/\
  (((∀k∈ks,k≠a)/\K .bad (upd H id (some (.vm (ks++[a]) (xs++[b])))))\/∃i:Nat,ks[i]? =some a/\K .bad (upd H id (some (.vm ks (xs.set i b)))))
def OW (P:If)(H:A6)(K:V->A6->Prop)(t:Do)(x key a:V):Prop:=Bf4 P H K t x key a\/Az2 P H K t x key a\/Az1 P H K t x key a
def AM2 {H:A6}{K K':V->A6->Prop}(h:AX7 H K)(W:∀v H',K v H'->K' v H'):AX7 H K':=h.imp (λh id a=>W _ _ (h id a)) λh=>h.imp (λh id a=>W _ _ (h id a)) λh id a=>W _ _ (h id a)
theorem Jy {P:If}{H:A6}{K r:V->A6->Prop}{t:Do}{x key val:V}(h:OW P H K t x key val)(W:∀H',K .bad H'->r .bad H'):OW P H r t x key val:=by
 rcases h with⟨kt,et,d,l,f,id,o,m,c,O,Z,J,s,e,g,k,y,N,h⟩|⟨kt,et,ks,xs,n,id,O,Z,J,s,e,g,h⟩|⟨kt,et,G,l,id,ks,xs,O,Z,J,s,e,g,k,h⟩
 ·exact .inl ⟨kt,et,d,l,f,id,o,m,c,O,Z,J,s,e,g,k,y,N,λo' z=>W _ (h o' z)⟩
 ·exact .inr (.inl ⟨kt,et,ks,xs,n,id,O,Z,J,s,e,g,W _ h⟩)
 exact .inr (.inr ⟨kt,et,G,l,id,ks,xs,O,Z,J,s,e,g,k,h.imp (λh=>⟨h.1,W _ h.2⟩) λ⟨i,a,b⟩=>⟨i,a,W _ b⟩⟩)
def Zo {P:If}{H H':A6}{t:Do}{x key v:V}{ok:Bool}(B:∀id b,H id=some b->H' id=some b)(h:Pr P H t x key ok v):Pr P H' t x key ok v:=by
 rcases h with⟨kt,et,d,i,id,o,m,O,Z,J,s,a,e,g⟩|h|⟨kt,et,G,i,id,ks,xs,O,Z,J,s,a,e,g⟩
 ·exact .inl ⟨kt,et,d,i,id,o,m,O,Z,J,s,a,B _ _ e,g⟩
 ·simp_all[Pr]
 exact .inr (.inr ⟨kt,et,G,i,id,ks,xs,O,Z,J,s,a,B _ _ e,g⟩)
theorem EM.entry {d:TypeDesc}{m:Up (V×V)}{a:za1 MapEntry}(Y:a.toList.map (λe=>(some e.key,some e.val))=m.map λp=>(DY p.1,DY p.2))(j:Nat):
 (∀e,a[j]? =some e->∃p,m[j]? =some p/\DY p.1=some e.key/\DY p.2=some e.val)/\∀p,m[j]? =some p->∃e,a[j]? =some e/\DY p.1=some e.key/\DY p.2=some e.val:=by
 have:=G2 (λl=>l[j]?) Y
 grind
def EM.isKeys {d:TypeDesc}{m:Up (V×V)}{a:za1 MapEntry}(Y:a.toList.map (λe=>(some e.key,some e.val))=m.map λp=>(DY p.1,DY p.2))(W:∀p∈m,∃k,DY p.1=some k/\HK d k):∀e∈a.toList,HK d e.key:=by
 intro e h;have⟨j,u,w⟩:=K1 h;have⟨p,O,Z,_⟩:=(EM.entry (d:=d) Y j).1 e (by rw[<-DQ,C8 u,w]);have⟨k,J,s⟩:=W p (DO O)
 rw[Z]at J;simp_all
def ON {w:Is}{b:Nat}{o o':Obj}(R:w.heap[b]? =some o)(X:Obj.isCells o=false)(a:Obj.isCells o'=false)(x i:Nat):(w.putObj b o').cell? ⟨x,i,none⟩=w.cell? ⟨x,i,none⟩:=by
 by_cases h:x=b
 ·subst h;have O:=World.putObj_heap_same (w:=w) (o:=o') (Zj R);simp only[World.cell?,O,R];cases o<;>cases o'<;>simp_all[Obj.isCells]
 grind[World.cell?_of_block,World.putObj_heap_other]
def Rl.putObj {g:Gh} {H:A6} {w:Is} (h:Rl g H w) {id b:Nat} {o o':Obj} (W:H id=some (.obj o)) (A:g.mu id=some b) (r:Obj.isCells o'=false):
 Aw g w g (w.putObj b o')/\Rl g (upd H id (some (.obj o'))) (w.putObj b o'):=by
 have⟨b',O,Z,J,N⟩:=h.blk id _ W
 have e:b'=b:=by rw[A]at O;simp_all
 subst e;have a:=ON (o':=o') J N r
 have s:Aw g w g (w.putObj b' o'):=by
  refine⟨λ_ _ e=>e,λ_ _ e=>e,λ_ _ e=>e,rfl,λb o _=>a b o,⟨rfl,rfl,rfl,za4,λk W=>World.putObj_heap_other za2⟩,λ_ _ _=>rfl,B1 _⟩
 have l:∀x,g.at (upd H id (some (.obj o'))) x=g.at H x:=by
  grind[Gh.at,upd]
 have t:g.at H id=some b':=by simp_all[Gh.at]
 refine⟨s,λx k M=>?_,λx x' y O Z=>h.inj x x' y (l x▸O) (l x'▸Z),λy o c=>?_,λx M=>?_,?_,λn=>(h.glb n).mono s⟩
 ·by_cases i:x=id
  ·subst i;rw[G4]at M;cases M
   exact⟨b',A,Z,World.putObj_heap_same (Zj J),r⟩
  rw[D3 _ _ i]at M
  refine(h.blk x k M).mono M s λy m=>⟨World.putObj_heap_other λe=>?_,λ_ z=>z⟩;subst e;exact i (h.inj _ _ _ m t)
 ·have⟨v,f⟩:=h.frz y o c
  simp_all
 ·have⟨j,p,q⟩:=h.nxt x M
  have d:x≠id:=λe=>za8
  simp_all[upd]
 have:=h.bnd;simp;omega
def KB.fixed:KB->Bool
 | .obj _=>true
 | .loop _=>true
 | .iter _ _ _ _=>true
 | .fm _ _=>true
 | .vm _ _=>true
 |_=>false
def EO.fixed {g:Gh}{w:Is}{id:Nat}{k:KB}(W:k.fixed=true)(h:EO g w id k):∃b o,g.mu id=some b/\g.base<=b/\w.heap[b]? =some o/\Obj.isCells o=false:=by
 cases k with
 |cells _=>cases W
 |spare=>cases W
 |obj o=>grind[EO]
 |loop L=>grind[Obj.isCells,EO]
 |arr _ _=>cases W
 |fm ks xs=>grind[Obj.isCells,EO]
 |vm ks xs=>grind[Obj.isCells,EO]
 |iter e a seen i=>grind[Obj.isCells,EO]
theorem Gh.at_fixed {g:Gh}{H:A6}{id:Nat}{k:KB}(W:k.fixed=true)(h:H id=some k):g.at H id=g.mu id:=by
 cases k<;>simp_all[Gh.at,KB.fixed]
def Rl.putGen {g:Gh} {H:A6} {w:Is} (h:Rl g H w) {id b:Nat} {k k':KB} {o':Obj} (r:k.fixed=true) (d:k'.fixed=true) (W:H id=some k) (A:g.mu id=some b) (t:Obj.isCells o'=false)
 (j:Aw g w g (w.putObj b o')->(w.putObj b o').heap[b]? =some o'->g.base<=b->EO g (w.putObj b o') id k'):
 Aw g w g (w.putObj b o')/\Rl g (upd H id (some k')) (w.putObj b o'):=by
 have⟨b',o,O,Z,J,c⟩:=(h.blk id _ W).fixed r
 have e:b'=b:=by rw[A]at O;simp_all
 subst e;have a:=ON (o':=o') J c t
 have s:Aw g w g (w.putObj b' o'):=by
  refine⟨λ_ _ e=>e,λ_ _ e=>e,λ_ _ e=>e,rfl,λb o _=>a b o,⟨rfl,rfl,rfl,za4,λk W=>World.putObj_heap_other za2⟩,λ_ _ _=>rfl,B1 _⟩
 have i:∀x,g.at (upd H id (some k')) x=g.at H x:=by
  grind[Gh.at_fixed,Gh.at,upd]
 have N:g.at H id=some b':=by rw[Gh.at_fixed r W,A]
 refine⟨s,λx k M=>?_,λx x' y O Z=>h.inj x x' y (i x▸O) (i x'▸Z),λy o r=>?_,λx M=>?_,?_,λn=>(h.glb n).mono s⟩
 ·by_cases l:x=id
  ·grind[G4,World.putObj_heap_same]
  rw[D3 _ _ l]at M
  refine(h.blk x k M).mono M s λy m=>⟨World.putObj_heap_other λe=>?_,λ_ z=>z⟩;subst e;exact l (h.inj _ _ _ m N)
 ·have⟨v,p⟩:=h.frz y o r
  simp_all
 ·have⟨q,u,B⟩:=h.nxt x M
  have f:x≠id:=λe=>za8
  simp_all[upd]
 have:=h.bnd;simp;omega
section
variable {P:Program}{o:Oper}{fr:Fr}{H:A6}{K:V->A6->Prop}
def Ad3 {t:Do}(z:o.op= .makeMap t none)(h:∀id,H id=none->K (.map id) (upd H id (some (.obj (.map #[] 0))))):K3 P o fr H K:=by
 intro g w a F b;have s:=Aw.new F (.map #[] 0) False 0;have r:=F.newNamed (.map #[] 0) (.obj (.map #[] 0)) za4 ⟨w.heap.size,by simp[Gh.new],F.bnd,Dt,rfl⟩;unfold execOp;rw[z];simp only[ND,Instr.makeMap,C0,C6,run_newObj,B7,J1];exact⟨_,_,_,s,r,.map (by simp[Gh.new]),h g.nx (F.nxt _ (B1 _)).2.2⟩
def TI {g:Gh}{w:Is}{v:HO}{n:Int}(h:VR g w v (.int .i64 n)):v= .int .i64 n:=by cases h;rfl
def Ba3 {a:za1 MapEntry}{ks:Up Int}(W:a.toList.map (·.key)=ks.map (Value.int .i64)){j:Nat}{e:MapEntry}(Y:a[j]? =some e):∃k,ks[j]? =some k/\e.key= .int .i64 k:=by
 have:=G2 (λl=>l[j]?) W
 grind
def AD8 {a:za1 MapEntry}{ks:Up Int}(W:a.toList.map (·.key)=ks.map (Value.int .i64)):∀e∈a.toList,IsKey (.int .i64) e.key:=by
 intro e Y;have⟨j,u,w⟩:=K1 Y;have⟨k,_,Z⟩:=Ba3 W (j:=j) (e:=e) (by rw[<-DQ,C8 u,w]);rw[Z];rfl
def Ad6 {t:Do} {x y:By} {ok:Bool} {v:V} (z:o.op= .lookup t x y ok) (B:AC4 P t (ev fr x) (ev fr y) ok v) (h:K v H):K3 P o fr H K:=by
 intro g w a F X;obtain⟨kt,et,ks,xs,n,O,Z,J,s,rfl,S⟩:=B;have M:=G1 F X x;have m:=G1 F X y
 rw[s]at m
 have m:=TI m
 rw[J]at M
 generalize C:a.eval x=xv at M
 cases M with
 | fmap A R W hn Y q=>
  rename_i b I clock;have G:=AD8 W;have N:IsKey (.int .i64) (Value.int .i64 n):=rfl;unfold execOp;rw[z];simp only[C,m,Instr.lookup,C0,run_underlying O,B7,EX R,C6,run_checkKey Z N]
  rcases findNow_spec N I.toList 0 G with⟨p,f2⟩|⟨j,e,p,f2,f3⟩
  ·simp only[run_findKey Z p,B7]
   rcases S with⟨i,d,f⟩|⟨d,f⟩
   ·exfalso;have:=G2 (λl=>l[i]?) W
    grind
   have⟨zv,ez,hz⟩:=FF f
   have aa:VR g w zv v:=by rw[ez];grind[GI]
   simp only[C0,hz,B7,C6,J1]
   grind[P0.here]
  simp only[run_findKey Z p,B7,J1]
  have r:I[j]? =some e:=za7
  have⟨k,L,g2⟩:=Ba3 W r
  have D:k=n:=by rw[f3]at g2;simp_all
  subst D;have c:=q j e r
  rcases S with⟨i,d,f⟩|⟨d,f⟩
  ·have u:j<ks.length:=by
    grind
   have U:i<ks.length:=by
    grind
   have:i=j:=Pi hn U u (by rw[C8 U]at d;rw[C8 u]at L;rw[DL d,DL L]);subst this
   rw[<-f]at c
   exact P0.here F c h
  grind
def YT {t:Do}(z:o.op= .makeMap t none)(h:∀id,H id=none->K (.map id) (upd H id (some (.fm [] [])))):K3 P o fr H K:=by
 intro g w a F b;have s:=Aw.new F (.map #[] 0) False 0;have r:=F.newNamed (.map #[] 0) (.fm [] []) za4 ⟨w.heap.size, #[],0,by simp[Gh.new],F.bnd,Dt,rfl,Ny,rfl,λi e U=>by simp at U⟩;unfold execOp;rw[z];simp only[ND,Instr.makeMap,C0,C6,run_newObj,B7,J1];exact⟨_,_,_,s,r,.map (by simp[Gh.new]),h g.nx (F.nxt _ (B1 _)).2.2⟩
def UX {t:Do} {x y z:By} (N:o.op= .mapUpdate t x y z\/o.op= .insert t x y z) (B:Az2 P H K t (ev fr x) (ev fr y) (ev fr z)):K3 P o fr H K:=by
 intro g w a F d;have⟨kt,et,ks,xs,n,id,O,Z,J,L,h5,h6,h⟩:=B;have M:=G1 F d x;have m:=G1 F d y;have hz:=G1 F d z
 rw[h5]at m
 have m:=TI m
 rw[J]at M
 generalize p:a.eval x=xv at M
 cases M with
 | map D=>
  rename_i b;have⟨b',l,clock,R,k2,S,c,k5,k6,k7⟩:=F.blk id _ L
  rw[D]at R;cases R
  have C:=AD8 c;have r:IsKey (.int .i64) (Value.int .i64 n):=rfl
  have ac:∀e∈l.toList,e.key≠ .int .i64 n:=by
   intro e Y X;have⟨j,u,e1⟩:=K1 Y;have⟨k,W,G⟩:=Ba3 c (j:=j) (e:=e) (by rw[<-DQ,C8 u,e1])
   rw[X]at G
   grind
  rcases findNow_spec r l.toList 0 C with⟨I,f2⟩|⟨j,e,I,f2,f3⟩
  ·have aa:l.size=ks.length:=by have:=G2 List.length c;grind
   have⟨W,G⟩:=F.putGen (k':=.fm (ks++[n]) (xs++[ev fr z])) (o':=.map (l.push {key:=.int .i64 n,val:=a.eval z,born:=clock}) (clock+1)) rfl rfl L D rfl λs hh A=>
    ⟨b,_,_,D,A,hh,by simp[c],by
     rw[II];simp_all,by simp[k6],λi e U=>by
     rw[Array.getElem?_push]at U
     split at U
     ·rename_i v;cases U
      have:i=xs.length:=za2
      subst this
      simpa using hz.mono s
     rename_i v
     have ab:i<xs.length:=by
      have:=(Array.getElem?_eq_some_iff.1 U).1;omega
     have:=(k7 i e U).mono s
     grind⟩
   have f:(Instr.mapUpdate t (.map (some b)) (.int .i64 n) (a.eval z)).run P w= .ok () (w.putObj b (.map (l.push {key:=.int .i64 n,val:=a.eval z,born:=clock}) (clock+1))):=by
    simp only[Instr.mapUpdate,C0,run_underlying O,B7,EX S,run_checkKey Z r,run_findKey Z I,run_setObj_map _ S];rfl
   have q:(execOp a.eval o).run P w= .ok .skip (w.putObj b (.map (l.push {key:=.int .i64 n,val:=a.eval z,born:=clock}) (clock+1))):=by
    unfold execOp
    rcases N with N|N<;>rw[N]<;>simp only[p,m,C0,f,B7,C6]
   rw[q];exact⟨_,_,_,W,G,.bad _,h⟩
  grind
def Bp7 {a:za1 MapEntry}{ks:Up HO}(W:a.toList.map (·.key)=ks){j:Nat}{e:MapEntry}(Y:a[j]? =some e):ks[j]? =some e.key:=by
 rw[<-W];simp[Y]
def Ay9 {G:HO->Prop}{a:za1 MapEntry}{ks:Up HO}(W:a.toList.map (·.key)=ks)(b:∀k∈ks,G k):∀e∈a.toList,G e.key:=λe Y=>
 b _ (by rw[<-W];grind)
def Ap9 {ks:Up HO}(a:ks.Nodup){i j:Nat}{k:HO}(U:ks[i]? =some k)(u:ks[j]? =some k):i=j:=by
 grind[Pi]
def Ad5 {t:Do} {x y:By} {ok:Bool} {v:V} (ho:o.op= .lookup t x y ok) (B:AC3 P H t (ev fr x) (ev fr y) ok v) (h:K v H):K3 P o fr H K:=by
 intro g w a F C;have⟨kt,et,G,kv,id,ks,xs,O,Z,J,s,W,X,Y,A⟩:=B;have M:=G1 F C x;have m:=Ol J (G1 F C y)
 rw[W]at M
 generalize c:a.eval x=xv at M
 cases M with
 | map hm=>
  rename_i b;have⟨b',q,clock,D,k2,k3,I,k5,k6,k7⟩:=F.blk id _ X
  rw[hm]at D;cases D
  have f:=Ay9 I Y;unfold execOp;rw[ho];simp only[c,m,Instr.lookup,C0,run_underlying O,B7,EX k3,C6,(λem=>Z.check w em s)]
  rcases Z.find w s q.toList f with⟨N,R⟩|⟨j,e,N,R,S⟩
  ·simp only[N,B7]
   rcases A with⟨n,z,z',r,q4,q3⟩|⟨i,n,r⟩
   ·have⟨zv,L,hz⟩:=FF r;have p:VR g w zv z':=VR.le (by rw[L];grind[GI]) q4;simp only[C0,hz,B7,C6,J1];subst q3;cases ok
    ·grind[P0.here]
    refine P0.here F (.tup rfl λi U=>?_) h
    match i with
    |0=>exact p
    |1=>exact .bool _
    |i+2=>grind
   grind
  simp only[N,B7,J1]
  have k:q[j]? =some e:=za7
  have u:=Bp7 I k
  rw[S]at u
  rcases A with⟨n,_⟩|⟨i,n,r⟩
  ·grind
  have d:=Ap9 k5 n u;subst d;have l:=k7 i e k;subst r;cases ok
  ·exact P0.here F l h
  refine P0.here F (.tup rfl λi U=>?_) h
  match i with
  |0=>exact l
  |1=>exact .bool _
  |i+2=>grind
def YS {t:Do}(z:o.op= .makeMap t none)(h:∀id,H id=none->K (.map id) (upd H id (some (.vm [] [])))):K3 P o fr H K:=by
 intro g w a F b;have s:=Aw.new F (.map #[] 0) False 0;have r:=F.newNamed (.map #[] 0) (.vm [] []) za4 ⟨w.heap.size, #[],0,by simp[Gh.new],F.bnd,Dt,rfl,Ny,rfl,λi e U=>by simp at U⟩;unfold execOp;rw[z];simp only[ND,Instr.makeMap,C0,C6,run_newObj,B7,J1];exact⟨_,_,_,s,r,.map (by simp[Gh.new]),h g.nx (F.nxt _ (B1 _)).2.2⟩
def UW {t:Do} {x y z:By} (C:o.op= .mapUpdate t x y z\/o.op= .insert t x y z) (B:Az1 P H K t (ev fr x) (ev fr y) (ev fr z)):K3 P o fr H K:=by
 intro g w a F R;have⟨kt,et,G,kv,id,ks,xs,O,Z,J,v,h5,L,h7,h8⟩:=B;have M:=G1 F R x;have hy:=Ol J (G1 F R y);have hz:=G1 F R z
 rw[h5]at M
 generalize S:a.eval x=xv at M
 cases M with
 | map d=>
  rename_i b;have⟨b',N,clock,k1,k2,D,u,k5,k6,k7⟩:=F.blk id _ L
  rw[d]at k1;cases k1
  have ac:=Ay9 u h7
  have ad:N.size=ks.length:=by have:=G2 List.length u;grind
  have run:∀n l k',(Instr.mapUpdate t (.map (some b)) kv (a.eval z)).run P w= .ok () (w.putObj b (.map n l))->
   (Aw g w g (w.putObj b (.map n l))/\Rl g (upd H id (some k')) (w.putObj b (.map n l)))->K .bad (upd H id (some k'))->J1 P (P0 g w K) ((execOp a.eval o).run P w):=by
   intro n l k' f q h
   have X:(execOp a.eval o).run P w= .ok .skip (w.putObj b (.map n l)):=by
    unfold execOp
    rcases C with C|C<;>rw[C]<;>simp only[S,hy,C0,f,B7,C6]
   rw[X];exact⟨_,_,_,q.1,q.2,.bad _,h⟩
  rcases Z.find w v N.toList ac with⟨I,f2⟩|⟨j,e,I,f2,f3⟩
  ·have ae:∀k∈ks,k≠kv:=λk W Y=>by
    rw[<-u]at W
    grind
   rcases h8 with⟨_,h⟩|⟨i,q1,_⟩
   ·refine run (N.push {key:=kv,val:=a.eval z,born:=clock}) (clock+1) (.vm (ks++[kv]) (xs++[ev fr z])) ?_ ?_ h
    ·simp only[Instr.mapUpdate,C0,run_underlying O,B7,EX D,(λem=>Z.check w em v),I,run_setObj_map _ D];rfl
    exact F.putGen rfl rfl L d rfl λs hh A=>
     ⟨b,_,_,d,A,hh,by simp[u],by
      rw[II];simp_all,by simp[k6],λi e U=>by
      rw[Array.getElem?_push]at U
      split at U
      ·rename_i aa;cases U
       have:i=xs.length:=za2
       subst this
       simpa using hz.mono s
      rename_i aa
      have c:i<xs.length:=by
       have:=(Array.getElem?_eq_some_iff.1 U).1;omega
      have:=(k7 i e U).mono s
      grind⟩
   grind
  have r:N[j]? =some e:=za7
  have g1:=Bp7 u r
  rw[f3]at g1
  rcases h8 with⟨q1,_⟩|⟨i,q1,h⟩
  ·grind
  have ab:=Ap9 k5 q1 g1;subst ab;refine run (N.modify i λe=>{e with key:=kv,val:=a.eval z}) clock (.vm ks (xs.set i (ev fr z))) ?_ ?_ h
  ·simp only[Instr.mapUpdate,C0,run_underlying O,B7,EX D,(λem=>Z.check w em v),I,r,K5,O2,f3,Z.stays w v,run_setObj_map _ D];rfl
  exact F.putGen rfl rfl L d rfl λs hh A=>
   ⟨b,_,_,d,A,hh,by
    apply CZ
    grind,k5,by simp[k6],λm en U=>by
    rw[IP]at U
    by_cases p:i=m
    ·subst p
     rw[A2 rfl,r]at U
     cases U
     have c:i<xs.length:=by
      have:=(Array.getElem?_eq_some_iff.1 r).1;omega
     simpa[AD,BJ,c]using hz.mono s
    rw[A1 p]at U
    have:=(k7 m en U).mono s
    simp_all⟩
theorem Ar3 {t:Do} {x y:By} {ok:Bool} {v:V} (C:o.op= .lookup t x y ok) (B:Pr P H t (ev fr x) (ev fr y) ok v) (h:K v H):K3 P o fr H K:=by
 refine B.elim (λB=>?_) λB=>B.elim (λB=>Ad6 C B h) λB=>Ad5 C B h;intro g w a F S;obtain⟨kt,et,d,kv,id,ob,m,O,Z,J,s,h5,h6,h7,R⟩:=B;have M:=G1 F S x;have hy:=Ol J (G1 F S y)
 rw[h5]at M
 generalize q:a.eval x=xv at M
 cases M with
 | map hm=>
  rename_i b;obtain⟨b',X,k2,k3,k4⟩:=F.blk id _ h6
  rw[hm]at X;cases X
  obtain⟨⟨I,clock,Y,e2⟩,W,hn⟩:=h7;subst Y;have A:=EM.isKeys e2 W;unfold execOp;rw[C];simp only[q,hy,Instr.lookup,C0,run_underlying O,B7,EX k3,C6,(λem=>Z.check w em s)]
  rcases Z.find w s I.toList A with⟨r,f2⟩|⟨j,e,r,f2,f3⟩
  ·simp only[r,B7]
   rcases R with⟨l,z,n,q3⟩|⟨y',l,n⟩
   ·obtain⟨zv,ez,hz⟩:=FF n
    have G:VR g w zv z:=by rw[ez];grind[GI]
    simp only[C0,hz,B7,C6,J1];subst q3;cases ok
    ·grind[P0.here]
    refine P0.here F (.tup rfl λi U=>?_) h
    match i with
    |0=>exact G
    |1=>exact .bool _
    |i+2=>grind
   exfalso;obtain⟨i,U,e⟩:=K1 l;obtain⟨en,L,c,f⟩:=(EM.entry (d:=d) e2 i).2 _ (by rw[C8 U,e])
   rw[J]at c
   grind
  simp only[r,B7,J1]
  have N:I[j]? =some e:=za7
  obtain⟨p,L,c,f⟩:=(EM.entry (d:=d) e2 j).1 e N;have aa:p.1=ev fr y:=Vj c (by rw[J,f3])
  rcases R with⟨l,_⟩|⟨y',l,n⟩
  ·grind
  have D:p.2=y':=by
   obtain⟨i,U,e⟩:=K1 l
   have u:j<m.length:=by
    grind
   have e3:m[j]=p:=by rw[C8 u]at L;simp_all
   have:i=j:=Pi hn za7 za7 za8
   simp_all
  rw[D]at f
  have k:VR g w e.val y':=Vi f;subst n;cases ok
  ·exact P0.here F k h
  refine P0.here F (.tup rfl λi U=>?_) h
  match i with
  |0=>exact k
  |1=>exact .bool _
  |i+2=>grind
def EM.set {d:TypeDesc} {m m':Up (V×V)} {g:za1 MapEntry} {clock:Nat} {key val:V} {x v:HO} (J:DY key=some x) (s:HK d x) (I:DY val=some v)
 (e2:g.toList.map (λe=>(some e.key,some e.val))=m.map λp=>(DY p.1,DY p.2)) (W:∀p∈m,∃k,DY p.1=some k/\HK d k) (L:(m.map (·.1)).Nodup) (q:OU g clock) (C:Bx0 m key val m'):
 ((∀e∈g.toList,e.key≠x)->EM d (.map (g.push {key:=x,val:=v,born:=clock}) (clock+1)) m')/\
 ∀(j:Nat) e,g[j]? =some e->e.key=x->EM d (.map (g.modify j λe=>{e with key:=x,val:=v}) clock) m':=by
 have n:∀(j:Nat) e,g[j]? =some e->e.key=x->∃y,m[j]? =some (key,y):=λj e u r=>by
  have⟨p,w,N,G⟩:=(EM.entry (d:=d) e2 j).1 e u;have:p.1=key:=Vj N (by rw[J,r])
  grind
 constructor
 ·intro A
  rcases C with⟨B,rfl⟩|⟨a,y,b,rfl,rfl⟩
  ·refine⟨⟨_,_,rfl,za8⟩,λp t=>?_,?_,λg clock h=>by grind[OU]⟩
   ·grind
   grind
  exfalso;have⟨e,w,N,_⟩:=(EM.entry (d:=d) e2 a.length).2 (key,y) za4
  rw[J]at N
  grind
 intro j e u r;have⟨D,z⟩:=n j e u r
 rcases C with⟨B,rfl⟩|⟨a,y,b,rfl,rfl⟩
 ·grind
 have c:j=a.length:=by
  have f:j<(a++(key,y)::b).length:=by
   grind
  have F:(a++(key,y)::b)[j]=(key,D):=by rw[C8 f]at z;simp_all
  grind
 subst c;refine⟨⟨_,_,rfl,?_⟩,λp t=>?_,?_,λg clock h=>by cases h;exact q.modify _ _ _⟩
 ·apply CZ;intro i;simp only[Az,DQ,IP]
  by_cases U:a.length=i
  ·simp_all
  rw[A1 U];have:=G2 (λl=>l[i]?) e2
  grind
 ·simp only[Cp,Fa]at t
  rcases t with t|rfl|t
  ·exact W p (by simp[t])
  ·simp_all
  exact W p (by simp[t])
 simp_all
theorem PT {t:Do} {x y z:By} (i:o.op= .mapUpdate t x y z\/o.op= .insert t x y z) (B:OW P H K t (ev fr x) (ev fr y) (ev fr z)):K3 P o fr H K:=by
 refine B.elim (λB=>?_) λB=>B.elim (UX i) (UW i);intro g w a F N;obtain⟨kt,et,d,kv,vv,id,ob,m,m',O,Z,J,s,D,U,G,X,Y,h⟩:=B;have M:=G1 F N x;have hy:=Ol J (G1 F N y);have hz:=Ol D (G1 F N z)
 rw[U]at M
 generalize c:a.eval x=xv at M
 cases M with
 | map L=>
  rename_i b;obtain⟨b',R,k2,n,k4⟩:=F.blk id _ G
  rw[L]at R;cases R
  obtain⟨⟨v,clock,S,e2⟩,W,hn,u⟩:=X;subst S;have q:=EM.isKeys e2 W;obtain⟨I,s2⟩:=EM.set (clock:=clock) J s D e2 W hn (u _ _ rfl) Y
  have run:∀o',EM d o' m'->(Instr.mapUpdate t (.map (some b)) kv vv).run P w= .ok () (w.putObj b o')->J1 P (P0 g w K) ((execOp a.eval o).run P w):=by
   intro o' l f;obtain⟨q1,q2⟩:=F.putObj (o':=o') G L (by obtain⟨⟨_,_,e,_⟩,_⟩:=l;rw[e];rfl)
   have p:(execOp a.eval o).run P w= .ok .skip (w.putObj b o'):=by
    unfold execOp
    rcases i with i|i<;>rw[i]<;>simp only[c,hy,hz,C0,f,B7,C6]
   rw[p];exact⟨_,_,_,q1,q2,.bad _,h o' l⟩
  rcases Z.find w s v.toList q with⟨r,A⟩|⟨j,e,r,A,C⟩
  ·refine run _ (I A) ?_;simp only[Instr.mapUpdate,C0,run_underlying O,B7,EX n,(λem=>Z.check w em s),r,run_setObj_map _ n];rfl
  have k:v[j]? =some e:=za7
  refine run _ (s2 j e k C) ?_;simp only[Instr.mapUpdate,C0,run_underlying O,B7,EX n,(λem=>Z.check w em s),r,k,K5,O2,C,Z.stays w s,run_setObj_map _ n];rfl
end
end Go.Ab
namespace Go.Ab
open Go.RowKit
variable [P3]
def Rl.lessArr {g:Gh} {H:A6} {w:Is} (h:Rl g H w) {id sz:Nat} {xs ys:Up V} (W:H id=some (.arr sz xs)) (B:M2 xs ys):Rl g (upd H id (some (.arr sz ys))) w:=by
 have n:=B.length
 have a:∀x,g.at (upd H id (some (.arr sz ys))) x=g.at H x:=by
  grind[Gh.at,upd]
 refine⟨λx k M=>?_,λx x' y O Z=>h.inj x x' y (a x▸O) (a x'▸Z),h.frz,λx M=>?_,h.bnd,h.glb⟩
 ·by_cases l:x=id
  ·subst l;rw[G4]at M;cases M
   have⟨b,O,Z,J,s,t⟩:=h.blk x _ W;refine⟨b,O,Z,J.trans n,λi U=>?_,?_⟩
   ·rw[<-(B.at i).cells.length];simp_all
   rw[<-n];refine t.imp (λh=>h) λ⟨c,T,d,f,m,r,p⟩=>⟨c,T,d,f,m,λi j U u=>⟨(r i j U u).1,(r i j U u).2.le ((B.at i).cells.at j)⟩,p⟩
  rw[D3 _ _ l]at M;exact h.blk x k M
 have⟨q,v,z⟩:=h.nxt x M
 have N:x≠id:=λe=>za8
 simp_all[upd]
section
variable {P:Program}{o:Oper}{fr:Fr}{H:A6}{K:V->A6->Prop}
def K3.lessRow (h:K3 P o fr H λx H'=>∃id sz xs ys,H' id=some (.arr sz xs)/\M2 xs ys/\K x (upd H' id (some (.arr sz ys)))):K3 P o fr H K:=by
 intro g w a F i;have h:=h g w a F i
 have key:∀v w',P0 g w (λx H'=>∃id sz xs ys,H' id=some (.arr sz xs)/\M2 xs ys/\K x (upd H' id (some (.arr sz ys)))) v w'->P0 g w K v w':=by
  rintro v w' ⟨g',x,H',s,b,q,id,sz,xs,ys,O,Z,J⟩;exact⟨g',x,_,s,b.lessArr O Z,q,J⟩
 unfold J1 at h ⊢
 split at h
 ·grind
 ·grind
 ·exact h.mono λe w' ⟨v,O,Z⟩=>⟨v,O,key _ _ Z⟩
 ·exact h.mono λe w' ⟨v,O,Z⟩=>⟨v,O,key _ _ Z⟩
 omega
def Tv {x:By}(z:o.op= .assign x\/o.op= .move x)(M:ev fr x= .sl [] .nil)(sz:Nat)(h:∀q,H q=none->K (.own q 0 0) (upd H q (some (.arr sz [])))):K3 P o fr H K:=by
 intro g w a F l;have e:=G1 F l x
 rw[M]at e
 have⟨k,I,i,n,b⟩:=Ie F sz (.inl rfl) e;unfold execOp
 rcases z with z|z<;>rw[z]<;>exact⟨k,_,_,I,i,b,h _ n⟩
theorem AT6 {t e:Do} {n sz:Nat} {l:za1 (Nat×By)} {xs ys:Up V} (S:o.op= .buildSlice t n l) (B:CV P t n (l.toList.map λ(p:Nat×By)=>(p.1,ev fr p.2))=some (.sl xs .full))
 (Y:HS P t=some e) (C:HL P e=some sz) (hle:M2 xs ys) (h:∀q,H q=none->K (.own q 0 (xs.length:Nat)) (upd H q (some (.arr sz ys)))):K3 P o fr H K:=by
 refine K3.lessRow ?_;intro g w a F O;have⟨f,Z,z,I,J,_,X,k4,_,d,c,v,R⟩:=Oj F O B
 rw[Y]at I;cases I
 rw[C]at J;cases J
 cases X
 have N:∀i,((l.toList.map λ(p:Nat×By)=>(p.1,ev fr p.2)).map (λ(q:Nat×V)=>q.2)).getD i .bad=((l.toList.map λ(p:Nat×By)=>(p.1,ev fr p.2)).getD i (0,.bad)).2:=by
  grind
 generalize hL:(l.toList.map λ(p:Nat×By)=>(p.1,ev fr p.2))=L at *
 have W:∀i,i<(L.map λ(q:Nat×V)=>q.2).length->((L.map λ(q:Nat×V)=>q.2).getD i .bad).cells.length=sz:=by
  intro i U
  have:∀(m:Up (Nat×V)) (k i:Nat),Fm sz k m=true->i<m.length->(m.getD i (0,.bad)).2.cells.length=sz:=by
   intro m
   induction m with
   |nil=>simp_all
   |cons y m ih=>
    grind[Fm]
  rw[N];grind
 have M:(L.map λ(q:Nat×V)=>q.2).length=n:=za7
 have⟨s,r,hn⟩:=Rl.newArr (w':=w.alloc (.cells d e)) F (b:=w.heap.size) (o:=0) (sz:=sz) (ys:=L.map λ(q:Nat×V)=>q.2) W (λb q A=>FD (F.fz_lt A)) ((Bc _ _).alloc F.bnd _) (λx _ G=>heap_alloc G)
  (.inr ⟨d,e,F.bnd,Dt,by rw[v,M];omega,λi j U u=>by
   rw[K4,N];simp_all,λq _ A=>absurd (F.fz_lt A) (Ag _),λid D=>absurd (F.lt D) (Ag _)⟩)
 unfold execOp;rw[S];simp only[C0,c,B7,C6,J1];refine⟨_,.own g.nx 0 ((L.map λ(q:Nat×V)=>q.2).length:Nat),_,s,r,?_,g.nx,sz,_,ys,G4 _ _ _,hle,?_⟩
 ·have f:(g.own w.heap.size ⟨0,(L.map λ(q:Nat×V)=>q.2).length,sz⟩).ow g.nx=⟨0,(L.map λ(q:Nat×V)=>q.2).length,sz⟩:=by simp[Gh.own]
  have:=VR.own (g:=g.own w.heap.size ⟨0,(L.map λ(q:Nat×V)=>q.2).length,sz⟩) (w:=w.alloc (.cells d e)) (id:=g.nx) (b:=w.heap.size) (lo:=0) (n:=((L.map λ(q:Nat×V)=>q.2).length:Nat)) (p:=some ⟨w.heap.size,0,none⟩) (by simp[Gh.own]) za2 za2 (by rw[f];simp) (by rw[f];simp)
  rw[f]at this
  simp_all
 grind[FI]
def Ac4 (l:Up Int):ByteArray:=l.foldl (λr n=>r.push (UInt8.ofNat n.toNat)) ByteArray.empty
def Yk (P:If)(H:A6)(s d:Do)(x v:V):Prop:=
 ∃e l,HS P s=some e/\P.underlying e=some (.int .u8)/\P.underlying d=some .string/\WF 1 H x (l.map (V.int .u8))/\v= .str (Ac4 l)
def WF.up {sz:Nat}{H H':A6}{x:V}{ys:Up V}(B:∀id b,H id=some b->H' id=some b)(h:WF sz H x ys):WF sz H' x ys:=by
 unfold WF at h ⊢
 grind
def Aw6 {P:If}{H H':A6}{s d:Do}{x v:V}(B:∀id b,H id=some b->H' id=some b)(h:Yk P H s d x v):Yk P H' s d x v:=by
 have⟨e,l,O,Z,J,a,g⟩:=h;exact⟨e,l,O,Z,J,a.up B,g⟩
def Ai8 (K:V->A6->Prop)(x:V)(H:A6):Prop:=∃id sz xs ys,H id=some (.arr sz xs)/\M2 xs ys/\K x (upd H id (some (.arr sz ys)))
def litO (P:If)(H:A6)(K:V->A6->Prop)(t:Do)(n:Nat)(a:Up (Nat×V)):Prop:=
 ∃e sz xs ys,CV P t n a=some (.sl xs .full)/\HS P t=some e/\HL P e=some sz/\M2 xs ys/\∀q,H q=none->K (.own q 0 (xs.length:Nat)) (upd H q (some (.arr sz ys)))
def Bq5 (H:A6)(K:V->A6->Prop)(x:V):Prop:=x= .sl [] .nil/\∃sz,∀q,H q=none->K (.own q 0 0) (upd H q (some (.arr sz [])))
def AS9 {l:Up Int} {a:Up V} (h:M2 a (l.map (V.int .u8))):a=l.map (V.int .u8):=by
 induction l generalizing a with
 |nil=>cases h;rfl
 | cons n l ih=>
  cases h with
  |cons O Z=>
   cases O;rw[ih Z];rfl
theorem AJ4 {s d:Do} {y:By} {x:V} (z:o.op= .convert s d y) (B:Yk P H s d (ev fr y) x) (h:K x H):K3 P o fr H K:=by
 intro g w a F m;have q:=G1 F m y;obtain⟨e,l,O,Z,J,j,rfl⟩:=B;have⟨G,p,u,A⟩:=j.inv F q;have f:=AS9 u;subst f;have⟨base,cap,vs,N,v,D⟩:=Mg P F p q A;have C:=W5 O
 have n:(l.map (V.int .u8)).length=l.length:=za4
 have t:∀i,i<l.length->vs i 0= .int .u8 (l.getD i 0):=by
  intro i U;have:=(v i 0 (by rw[n];exact U) za2).2
  have e:((l.map (V.int .u8)).getD i .bad).cells.getD 0 .bad= .int .u8 (l.getD i 0):=by
   simp_all[V.cells]
  rw[e]at this
  exact this.int_inv
 have b:=D l.length (by rw[n];omega) w (λ_ _=>rfl)
 have r:((List.range (l.length*1)).map λk=>vs (k / 1) (k % 1)).toArray=(l.map (Value.int .u8)).toArray:=by
  grind
 rw[r]at b
 rw[n]at N
 rw[N]at b
 have run:(convert s d (.slice base l.length cap)).run P w= .ok (.string (Ac4 l)) w:=by
  rw[run_convert_bytes_string w s d e base l.length cap C Z J]
  cases base with
  | none=>
   have:l=[]:=by
    simp only[Builtin.firstCells]at b
    have I:(.ok #[] w:Result (za1 HO))= .ok (l.map (Value.int .u8)).toArray w:=za8
    simp_all
   subst this;rfl
  |some c=>
   simp only[Builtin.firstCells,KF]at b
   exact run_bytesToString w c l.length cap l b
 unfold execOp;rw[z];simp only[N,C0,run,B7,C6,J1];exact P0.here F (.str _) h
end
end Go.Ab
namespace Go.Ab
open Go.RowKit Go.MapKept
variable [P3]
def Qp (P:If)(H:A6)(K:V->A6->Prop)(t:Do)(x:V):Prop:=
 ∃kt et a b clock,P.underlying t=some (.map kt et)/\x= .map a/\H a=some (.obj (.map b clock))/\∀id,H id=none->K (.ref id 0) (upd H id (some (.iter a clock #[] clock)))
def Vy (H:A6) (K:V->A6->Prop) (x:V):Prop:=
 ∃id b a,∃seen:za1 Nat,∃h,∃g:za1 MapEntry,∃clock,x= .ref id 0/\H id=some (.iter b a seen h)/\H b=some (.obj (.map g clock))/\(∀e∈g.toList,e.born<a)/\a<=h/\
  ((leftOf g seen).size=0->K (.tup [.bool false]) H)/\∀e∈(leftOf g seen).toList,K (.tup [.bool true,.bad,.bad]) (upd H id (some (.iter b a (seen.push e.born) clock)))
def QB (H:A6) (K:V->A6->Prop) (x:V):Prop:=
 ∃id b a,∃seen:za1 Nat,∃h,∃g:za1 MapEntry,∃clock e i k,x= .ref id 0/\H id=some (.iter b a (seen.push e.born) h)/\h=clock/\H b=some (.obj (.map g clock))/\e∈g.toList/\(g.toList.map (·.born)).Nodup/\
  DY i=some e.key/\DY k=some e.val/\K (.tup [i,k]) H
def Bn2 (P:If) (H:A6) (K:V->A6->Prop) (e:Up Do) (vs:Up V):Prop:=
 match e,vs with
 | [t,_],[x,key]=>
  ∃kt et d b id o m,P.underlying t=some (.map kt et)/\KG P kt (HK d)/\DY key=some b/\HK d b/\x= .map id/\H id=some (.obj o)/\EM d o m/\
   ∀o' a,EM d o' a->((a=m/\∀p∈m,p.1≠key)\/∃j p,m[j]? =some p/\p.1=key/\a=m.eraseIdx j)->K (.tup []) (upd H id (some (.obj o')))
 |_,_=>False
def Af5 {P:If}{H:A6}{K a:V->A6->Prop}{t:Do}{x:V}(h:Qp P H K t x)(W:∀v H',K v H'->a v H'):Qp P H a t x:=by
 grind[Qp]
def At2 {H:A6}{K a:V->A6->Prop}{x:V}(h:Vy H K x)(W:∀v H',K v H'->a v H'):Vy H a x:=by
 grind[Vy]
def Ak6 {H:A6}{K a:V->A6->Prop}{x:V}(h:QB H K x)(W:∀v H',K v H'->a v H'):QB H a x:=by
 grind[QB]
def ZO {g:Gh}{H:A6}{w:Is}(F:Rl g H w){id b:Nat}{o:Obj}(h:H id=some (.obj o))(A:g.mu id=some b):w.heap[b]? =some o:=by
 have⟨b',O,_,J,_⟩:=F.blk id _ h
 rw[A]at O;simp_all
def Rl.drew {g:Gh}{H:A6}{w:Is}(F:Rl g H w):Aw g w g w.drew/\Rl g H w.drew:=by
 have s:Aw g w g w.drew:=⟨λ_ _ e=>e,λ_ _ e=>e,λ_ _ e=>e,rfl,λ_ _ _=>rfl,(Bc _ _).drew,λ_ _ _=>rfl,GM _⟩;exact⟨s,⟨λid b A=>(F.blk id b A).mono A s λ_ _=>⟨rfl,λ_ z=>z⟩,F.inj,F.frz,F.nxt,F.bnd,λn=>(F.glb n).mono s⟩⟩
def Rl.putIter {g:Gh} {H:A6} {w:Is} (h:Rl g H w) {id b a i t since' j c0':Nat} {seen seen':za1 Nat} (W:H id=some (.iter a t seen j)) (A:g.mu id=some b) (q:g.mu a=some i):
 Aw g w g (ChangeMaps.setBlock w b (.mapIter (some i) since' seen' c0'))/\Rl g (upd H id (some (.iter a since' seen' c0'))) (ChangeMaps.setBlock w b (.mapIter (some i) since' seen' c0')):=by
 have e0:ChangeMaps.setBlock w b (.mapIter (some i) since' seen' c0')=w.putObj b (.mapIter (some i) since' seen' c0'):=rfl;rw[e0];have⟨b',f,O,Z,J,d⟩:=h.blk id _ W
 rw[A]at O;cases O
 have l:=ON (o':=.mapIter (some i) since' seen' c0') d rfl rfl
 have s:Aw g w g (w.putObj b (.mapIter (some i) since' seen' c0')):=by
  refine⟨λ_ _ e=>e,λ_ _ e=>e,λ_ _ e=>e,rfl,λb o _=>l b o,⟨rfl,rfl,rfl,za4,λk W=>World.putObj_heap_other za2⟩,λ_ _ _=>rfl,B1 _⟩
 have N:∀x,g.at (upd H id (some (.iter a since' seen' c0'))) x=g.at H x:=by
  grind[Gh.at,upd]
 have c:g.at H id=some b:=by simp_all[Gh.at]
 refine⟨s,λx k M=>?_,λx x' y O Z=>h.inj x x' y (N x▸O) (N x'▸Z),λy o p=>?_,λx M=>?_,?_,λn=>(h.glb n).mono s⟩
 ·by_cases r:x=id
  ·subst r;rw[G4]at M;cases M
   exact⟨b,i,A,Z,q,World.putObj_heap_same (Zj d)⟩
  rw[D3 _ _ r]at M
  refine(h.blk x k M).mono M s λy m=>⟨World.putObj_heap_other λe=>?_,λ_ z=>z⟩;subst e;exact r (h.inj _ _ _ m c)
 ·have⟨v,B⟩:=h.frz y o p
  simp_all
 ·have⟨C,D,F⟩:=h.nxt x M
  have u:x≠id:=λe=>za8
  simp_all[upd]
 have:=h.bnd;simp;omega
section
variable {P:Program}{o:Oper}{fr:Fr}{H:A6}{K:V->A6->Prop}
def AI7 {t:Do} {y:By} (z:o.op= .range t y) (B:Qp P H K t (ev fr y)):K3 P o fr H K:=by
 intro g w a F x;have⟨kt,et,b,l,clock,O,Z,J,n⟩:=B;have M:=G1 F x y
 rw[Z]at M
 generalize i:a.eval y=xv at M
 cases M with
 |map k=>
  rename_i h;have c:=ZO F J k;have s:=Aw.new F (.mapIter (some h) clock #[] clock) False 0
  have N:b≠g.nx:=λe=>by subst e;rw[(F.nxt _ (B1 _)).1]at k;cases k
  have r:=F.newNamed (.mapIter (some h) clock #[] clock) (.iter b clock #[] clock) za4 ⟨w.heap.size,h,by simp[Gh.new],F.bnd,by simp_all[Gh.new],Dt⟩;unfold execOp;rw[z];simp only[i,C0,run_range_map w t kt et h l clock O c,B7,C6,J1];exact⟨_,_,_,s,r,.ref (by simp[Gh.new]),n g.nx (F.nxt _ (B1 _)).2.2⟩
def AU0 {y:By} (z:o.op= .next y false) (B:Vy H K (ev fr y)):K3 P o fr H K:=by
 intro g w a F A;have⟨id,G,h,seen,j,p,clock,O,Z,J,s,q,u,v⟩:=B;have M:=G1 F A y
 rw[O]at M
 generalize t:a.eval y=xv at M
 have⟨b,x,c,L,f,C⟩:=F.blk id _ Z;have D:=ZO F J f
 cases M with
 | ref N=>
  rename_i b'
  rw[c]at N;cases N
  unfold execOp;rw[z];simp only[t]
  rcases run_next_at (P:=P) w o.type b x h j seen p clock C D s q with⟨l,e2⟩|⟨e,l,k,e2,m⟩
  ·simp only[C0,e2,B7,C6,J1];refine P0.here F (.tup rfl λi U=>?_) (u l)
   match i with
   |0=>exact .bool _
   |i+1=>simp at U
  simp only[C0,m,B7,C6,J1]
  have key:∀k:Is,Aw g w g k->Rl g H k->P0 g w K (.tuple #[.bool true,e.key,e.val]) (ChangeMaps.setBlock k b (.mapIter (some x) h (seen.push e.born) clock)):=by
   intro k I n;have⟨d,r⟩:=n.putIter (since':=h) (seen':=seen.push e.born) (c0':=clock) Z c f;refine⟨g,_,_,I.trans d,r,.tup rfl λi U=>?_,v e l⟩
   match i with
   |0=>exact .bool _
   |1=>exact .bad _
   |2=>exact .bad _
   |i+3=>grind
  rcases e2 with rfl|rfl
  ·grind[Aw.refl]
  exact key _ F.drew.1 F.drew.2
def AJ3 {y:By} (z:o.op= .entry y) (B:QB H K (ev fr y)):K3 P o fr H K:=by
 intro g w a F d;have⟨id,q,h,seen,u,r,clock,e,A,C,O,Z,L,J,s,t,x,N,c⟩:=B;subst L;have M:=G1 F d y
 rw[O]at M
 generalize k:a.eval y=xv at M
 have⟨b,n,f,v,j,m⟩:=F.blk id _ Z;have p:=ZO F J j
 cases M with
 |ref l=>
  rename_i b'
  rw[f]at l;cases l
  unfold execOp;rw[z];simp only[k,C0,run_entry_at (P:=P) w b n h seen r _ e m p s t,B7,C6,J1];refine P0.here F (.tup rfl λi U=>?_) c
  match i with
  |0=>exact Vi x
  |1=>exact Vi N
  |i+2=>grind
end
section
variable {P:Program}{o:Oper}{fr:Fr}{H:A6}{K:V->A6->Prop}
def AX8 (P:If)(t:Do)(l c v:V):Prop:=
 ∃a b n e sz by_ z,l= .int a n/\c= .int b n/\HS P t=some e/\HL P e=some sz/\0<sz/\SN P e=some by_/\0<by_/\KC P e=some z/\z.one=true/\z.cells.length=sz/\0<=n/\n*(by_:Nat)<=281474976710656/\v= .sl (List.replicate n.toNat z) .ro
theorem AJ0 {t:Do} {l c:By} {v:V} (R:o.op= .makeSlice t l c) (h:AX8 P t (ev fr l) (ev fr c) v) (O:K v H):K3 P o fr H K:=by
 obtain⟨U,W,n,e,sz,by_,z,m,e2,p,e4,s,u,A,B,D,i,k,r,rfl⟩:=h;intro g w a F L;refine J1.mono ?_ (Ad4 (K:=λx H'=>∃id,H id=none/\x= .own id 0 n/\H'=upd H id (some (.arr sz (List.replicate n.toNat z)))) R m e2 p e4 s u A B D i k (CH _) r (λid b=>⟨id,b,rfl,rfl⟩) g w a F L);rintro x w' ⟨S,y,G,I,j,q,id,b,rfl,rfl⟩;have⟨J,_,d,f,N⟩:=j.freezeArr' (G4 _ _ _)
 have M:upd (upd H id (some (.arr sz (List.replicate n.toNat z)))) id none=H:=by
  funext x
  simp_all[upd]
 rw[M]at f
 refine⟨J,_,H,I.trans d,f,?_,O⟩;have:=N x 0 n (q.mono d)
 have C:W1 (List.replicate n.toNat z) 0 n=List.replicate n.toNat z:=by simp[W1]
 rw[C]at this
 exact this
end
end Go.Ab
namespace Go.Ab
open Go.RowKit
variable [P3]
def Args (g:Gh)(w:Is)(vals:za1 HO)(args:Up V):Prop:=
 vals.size=args.length/\∀i,i<args.length->VR g w (vals.getD i undef) (args.getD i .bad)
def O7 (P:If)(f:FuncId)(args:Up V)(H:A6)(K:V->A6->Prop):Prop:=
 ∀g w vals,Rl g H w->Args g w vals args->J1 P (P0 g w K) ((callFunc f vals).run P w)
def EN (P:If)(a:V)(args:Up V)(H:A6)(K:V->A6->Prop):Prop:=
 ∀g w v vals,Rl g H w->VR g w v a->Args g w vals args->J1 P (P0 g w K) ((do let d <-Deferred.ofValue v vals;invoke d.target d.args:Sem Next).run P w)
def B8 (P:If)(f:FuncId)(args:Up V)(r:V):Prop:=∀H,O7 P f args H λx H'=>x=r/\H'=H
def Y6 (P:If)(a:V)(args:Up V)(r:V):Prop:=∀H,EN P a args H λx H'=>x=r/\H'=H
def P0.mono {g:Gh}{w:Is}{K e:V->A6->Prop}(h:∀x H,K x H->e x H){v:HO}{w':Is}(p:P0 g w K v w'):P0 g w e v w':=
 let⟨g',x,H',a,b,c,d⟩:=p;⟨g',x,H',a,b,c,h _ _ d⟩
def SW (P:If)(a:V)(args:Up V)(H:A6)(r:V):Prop:=∀H',(∀id b,H id=some b->H' id=some b)->EN P a args H' λx h=>x=r/\h=H'
def Y6.toH {P:If}{a:V}{args:Up V}{r:V}(h:Y6 P a args r)(H:A6):SW P a args H r:=λH' _=>h H'
def SW.up {P:If}{a:V}{args:Up V}{H H':A6}{r:V}(h:SW P a args H r)(B:∀id b,H id=some b->H' id=some b):SW P a args H' r:=λg Z=>h g λid b e=>Z id b (B id b e)
def O7.mono {P:If}{f:FuncId}{args:Up V}{H:A6}{K K':V->A6->Prop}(c:O7 P f args H K)(h:∀x H,K x H->K' x H):O7 P f args H K':=
 λg w vals F a=>(c g w vals F a).mono λ_ _ p=>p.mono h
def EN.mono {P:If}{a:V}{args:Up V}{H:A6}{K K':V->A6->Prop}(c:EN P a args H K)(h:∀x H,K x H->K' x H):EN P a args H K':=
 λg w v vals F q b=>(c g w v vals F q b).mono λ_ _ p=>p.mono h
theorem B8.at {P:If}{f:FuncId}{args:Up V}{r:V}(c:B8 P f args r){H:A6}{K:V->A6->Prop}(h:K r H):O7 P f args H K:=
 (c H).mono λx H' ⟨w,e2⟩=>by rw[w,e2];exact h
theorem Y6.at {P:If}{a:V}{args:Up V}{r:V}(c:Y6 P a args r){H:A6}{K:V->A6->Prop}(h:K r H):EN P a args H K:=
 (c H).mono λx H' ⟨w,e2⟩=>by rw[w,e2];exact h
def Wk (x y:V):Prop:=∀g w v,VR g w v x->VR g w v y
theorem Wk.refl (x:V):Wk x x:=λ_ _ _ h=>h
def Wk.bad (x:V):Wk x .bad:=λ_ _ _ _=>.bad _
def Wk.ro (xs:Up V)(t:J8):Wk (.sl xs t) (.sl xs .ro):=by
 intro g w v h
 cases h with
 |sl0 j=>exact .sl0 rfl
 |sle j=>exact .sle (.inl rfl)
 |sl vs b X e a R O q j=>exact .sl vs b X e a R O q trivial
def Wk.nil (t:J8)(j:t.plain=true):Wk (.sl [] .nil) (.sl [] t):=by
 intro g w v h
 cases h with
 |sl0 _=>exact .sl0 j
 |sle h=>rcases h with h|⟨h,_⟩<;>cases h
 |sl vs b X e a R O q j=>exact j.elim
def Args.append {g:Gh} {w:Is} {a b:za1 HO} {x y:Up V} (h:Args g w a x) (k:Args g w b y):Args g w (a++b) (x++y):=by
 refine⟨by simp[h.1,k.1],λi U=>?_⟩;rw[Jg]
 have e:(a++b).getD i undef=if i<x.length then a.getD i undef else b.getD (i-x.length) undef:=by
  simp only[Q9,HV,h.1]
  split<;>rfl
 rw[e]
 grind[Args]
def O7.value {P:If} {f:FuncId} {F C args:Up V} {H:A6} {K:V->A6->Prop} (h:O7 P f (F++args++C) H K):EN P (.func (.func f) F C) args H K:=by
 intro g w v vals i q e
 cases q with
 |func B q a b=>
  rename_i fs cs;have:=h g w (fs++vals++cs) i (Args.append (Args.append ⟨B,q⟩ e) ⟨a,b⟩)
  simpa only[Deferred.ofValue,C0,C6,B7,invoke]using this
def B8.value {P:If}{f:FuncId}{F C args:Up V}{r:V}(h:B8 P f (F++args++C) r):Y6 P (.func (.func f) F C) args r:=λH=>(h H).value
theorem K3.le {P:If}{o:Oper}{fr:Fr}{H:A6}{K:V->A6->Prop}(h:K3 P o fr H λx H'=>∃y,DK x y/\K y H'):K3 P o fr H K:=
 λg w a F i=>(h g w a F i).mono λv w' ⟨g',x,H',s,b,q,y,e,k⟩=>⟨g',y,H',s,b,q.le e,k⟩
section
variable {P:Program}{o:Oper}{fr:Fr}{H:A6}{K:V->A6->Prop}
def Bd1 {g:Gh}{w:Is}{a:Act}(F:Rl g H w)(h:ER g w a fr)(l:za1 By):Args g w (l.map a.eval) (l.toList.map (ev fr)):=by
 refine⟨za4,λi U=>?_⟩
 have e:i<l.size:=za7
 have b:(l.map a.eval).getD i undef=a.eval l[i]:=za8
 have e2:(l.toList.map (ev fr)).getD i .bad=ev fr l[i]:=za8
 rw[b,e2];grind[G1]
theorem Ad9 {x:By}{args:za1 By}{e:za1 Do}(z:o.op= .call {callee:=.value x,args:=args,argTypes:=e})(h:EN P (ev fr x) (args.toList.map (ev fr)) H K):
 K3 P o fr H K:=by
 intro g w a F b;have:=h g w (a.eval x) (args.map a.eval) F (G1 F b x) (Bd1 F b args);unfold execOp;rw[z]
 simpa only[resolve]using this
end
abbrev WL:=Nat->Bool
def FE (P:If) (b:Builtin) (l:Up Do) (vs:Up V) (v:V):Prop:=
 match b,l,vs with
 | .len,[t],[x]=>AM6 P t x=some v
 | .max,_,[.int k a,.int k' b]=>k=k'/\v= .int k (if a<b then b else a)
 | .min,_,[.int k a,.int k' b]=>k=k'/\v= .int k (if b<a then b else a)
 | .append,[i,n],[.sl xs tl,.sl ys _]=>(tl= .nil\/tl= .full)/\∃e sz by_ z g h,HS P i=some e/\(HS P n).isSome=true/\HL P e=some sz/\0<sz/\SN P e=some by_/\0<by_/\KC P e=some z/\z.one=true/\z.cells.length=sz/\
  M2 xs g/\M2 ys h/\g.all (λx=>x.cells.length==sz)=true/\h.all (λx=>x.cells.length==sz)=true/\(g.length+h.length)*by_<=140737488355328/\v= .sl (g++h) .ro
 |_,_,_=>False
def K3.lessH {P:If}{o:Oper}{fr:Fr}{H:A6}{K:V->A6->Prop}(h:K3 P o fr H λx H'=>∃y e,DK x y/\(∀id b,e id=some b->H' id=some b)/\K y e):K3 P o fr H K:=
 λg w a F l=>(h g w a F l).mono λv w' ⟨g',x,H',s,i,q,y,e,k,n,r⟩=>⟨g',y,e,s,i.less n,q.le k,r⟩
theorem OP {P:If} {o:Oper} {fr:Fr} {H:A6} {c:Call} {b:Builtin} {v:V} (f:o.op= .call c) (X:c.callee= .builtin b)
 (h:FE P b c.argTypes.toList (c.args.toList.map (ev fr)) v) {K:V->A6->Prop} (k:K v H):K3 P o fr H K:=by
 obtain⟨ce,args,u⟩:=c
 simp only at X h
 subst X;obtain⟨args⟩:=args;obtain⟨u⟩:=u
 simp only at h
 unfold FE at h
 split at h
 ·rename_i t x e2
  match args,e2 with
  |[y],e2=>
   simp only[D9,I0,V0,P7]at e2
   grind[Bg4]
  |[],e2=>simp at e2
  |_::_::_,e2=>simp at e2
 ·rename_i k a k' b e2;obtain⟨rfl,rfl⟩:=h
  match args,e2 with
  |[x,y],e2=>
   simp only[D9,I0,V0,P7]at e2
   intro g w N F l;rw[W8 f];have O:=G1 F l x;have Z:=G1 F l y
   rw[e2.1]at O;rw[e2.2]at Z
   have d:=O.int_inv;have i:=Z.int_inv;simp[builtin,Builtin.max_,Builtin.max2,d,i,C0,C6]
   split<;>exact P0.here F (by first|(rw[A2 zb0];grind)|grind|exact .int _ _) k
  |[],e2=>simp at e2
  |[_],e2=>simp at e2
  |_::_::_::_,e2=>simp at e2
 ·rename_i k a k' b e2;obtain⟨rfl,rfl⟩:=h
  match args,e2 with
  |[x,y],e2=>
   simp only[D9,I0,V0,P7]at e2
   intro g w N F l;rw[W8 f];have O:=G1 F l x;have Z:=G1 F l y
   rw[e2.1]at O;rw[e2.2]at Z
   have d:=O.int_inv;have i:=Z.int_inv;simp[builtin,Builtin.min_,Builtin.min2,d,i,C0,C6]
   split<;>exact P0.here F (by first|(rw[A2 zb0];grind)|grind|exact .int _ _) k
  |[],e2=>simp at e2
  |[_],e2=>simp at e2
  |_::_::_::_,e2=>simp at e2
 ·rename_i sT yT xs tl ys U e2;obtain⟨n,e,sz,by_,z,W,Y,C,D,G,I,J,L,M,R,S,l1,r,j,m,p,rfl⟩:=h
  match args,e2 with
  |[s,y],e2=>
   simp only[D9,I0,V0,P7]at e2
   have B:Jx H tl:=by rcases n with rfl|rfl<;>trivial
   have hd:H6 H tl=H:=by rcases n with rfl|rfl<;>rfl
   refine K3.lessH (Qk (K:=λx H'=>∃y q,DK x y/\(∀id b,q id=some b->H' id=some b)/\K y q) f e2.1 e2.2 C D G I J L M R S B (l1.sz j) (r.sz m) (by rw[l1.length,r.length];exact p) (λe=>⟨_,H,?_,λ_ _ h=>h,k⟩) λt O Z=>⟨_,H,DK.sl _ (l1.append r),λid b A=>?_,k⟩)
   ·subst e;cases r;rw[E5];exact DK.sl _ l1
   rw[hd]at Z ⊢
   grind[upd]
  |[],e2=>simp at e2
  |[_],e2=>simp at e2
  |_::_::_::_,e2=>simp at e2
 exact h.elim
def JH (P:If) (H:A6) (K:V->A6->Prop):Up Do->Up V->Prop
 | [g,h],[.sl xs tl,.sl ys _]=>
  ∃e sz by_ z,HS P g=some e/\(HS P h).isSome=true/\HL P e=some sz/\0<sz/\SN P e=some by_/\0<by_/\KC P e=some z/\z.one=true/\z.cells.length=sz/\∃b a,M2 xs b/\M2 ys a/\Jx H tl/\
   b.all (λx=>x.cells.length==sz)=true/\a.all (λx=>x.cells.length==sz)=true/\(b.length+a.length)*by_<=140737488355328/\(a=[]->K (.sl b tl) H)/\
   ∀t,a≠[]->H6 H tl t=none->K (.sl (b++a) (.tok t)) (upd (H6 H tl) t (some .spare))
 |_,_=>False
def PZ {P:If} {o:Oper} {fr:Fr} {H:A6} {c:Call} (N:o.op= .call c) (X:c.callee= .builtin .append) {K:V->A6->Prop}
 (h:JH P H K c.argTypes.toList (c.args.toList.map (ev fr))):K3 P o fr H K:=by
 obtain⟨D,args,r⟩:=c
 simp only at X h
 subst X;obtain⟨args⟩:=args;obtain⟨r⟩:=r
 simp only at h
 unfold JH at h
 split at h
 ·rename_i F G xs tl ys A e2
  match args,e2 with
  |[s,y],e2=>
   simp only[D9,I0,V0,P7]at e2
   obtain⟨e,sz,by_,z,d,f,j,m,p,q,u,v,w,B,C,l1,a,b,g,i,k,l,n⟩:=h;refine K3.le (Qk (K:=λx H'=>∃y,DK x y/\K y H') N e2.1 e2.2 d f j m p q u v w b (l1.sz g) (a.sz i) (by rw[l1.length,a.length];exact k) (λe=>⟨_,.slt _ l1,l (by subst e;cases a;rfl)⟩) λt O Z=>⟨_,.slt _ (l1.append a),n t (λe=>O (by subst e;cases a;rfl)) Z⟩)
  |[],e2=>simp at e2
  |[_],e2=>simp at e2
  |_::_::_::_,e2=>simp at e2
 exact h.elim
def Qx (P:If)(H:A6)(b:Builtin)(a:Up Do)(vs:Up V)(v:V):Prop:=
 match b,a,vs with
 | .len,[t],[x]=>Bl0 P H t x=some v
 | .cap,[t],[x]=>Ax3 P H t x=some v
 |_,_,_=>False
theorem VJ {P:If} {o:Oper} {fr:Fr} {H:A6} {c:Call} {b:Builtin} {v:V} (z:o.op= .call c) (X:c.callee= .builtin b)
 (h:Qx P H b c.argTypes.toList (c.args.toList.map (ev fr)) v) {K:V->A6->Prop} (k:K v H):K3 P o fr H K:=by
 obtain⟨e,args,a⟩:=c
 simp only at X h
 subst X;obtain⟨args⟩:=args;obtain⟨a⟩:=a
 simp only at h
 unfold Qx at h
 split at h
 ·rename_i t x e2
  match args,e2 with
  |[y],e2=>
   simp only[D9,I0,V0,P7]at e2
   grind[AT7]
  |[],e2=>simp at e2
  |_::_::_,e2=>simp at e2
 ·rename_i t x e2
  match args,e2 with
  |[y],e2=>
   simp only[D9,I0,V0,P7]at e2
   grind[AT9]
  |[],e2=>simp at e2
  |_::_::_,e2=>simp at e2
 exact h.elim
theorem SQ {H H':A6}(B:∀id b,H id=some b->H' id=some b){id:Nat}{p:Nat×Up V}(h:Ky H id=some p):Ky H' id=some p:=by
 have:=Io (sz:=p.1) (xs:=p.2) h
 simp_all[Ky]
def Au1 {P:If}{H H':A6}{t:Do}{x v:V}(B:∀id b,H id=some b->H' id=some b)(h:PW P H t x=some v):PW P H' t x=some v:=by
 unfold PW at h ⊢
 grind[SQ]
theorem AN1 {P:If}{H H':A6}{t:Do}{x v:V}{i:Int}(B:∀id b,H id=some b->H' id=some b)(h:Av2 P H t x i=some v):Av2 P H' t x i=some v:=by
 unfold Av2 at h ⊢
 grind[SQ]
theorem Ac7 {P:If}{H H':A6}{t:Do}{x v:V}{i j k:OS Int}(B:∀id b,H id=some b->H' id=some b)(h:Og P H t x i j k=some v):Og P H' t x i j k=some v:=by
 unfold Og at h ⊢
 grind[SQ]
theorem AM7 {P:If} {H H':A6} {b:Builtin} {a:Up Do} {vs:Up V} {v:V} (B:∀id b,H id=some b->H' id=some b) (h:Qx P H b a vs v):Qx P H' b a vs v:=by
 unfold Qx at h ⊢
 split at h
 ·exact h
 ·rename_i t x
  unfold Ax3 at h ⊢
  grind[Ky]
 omega
def ownN (x:V):Nat:=
 match x with
 | .own _ _ n=>n.toNat
 |_=>0
def Ju (H:A6) (K:V->A6->Prop) (sz by_:Nat) (z:V) (x:V) (ys:Up V):Prop:=
 match x with
 | .own id lo n=>∃xs,H id=some (.arr sz xs)/\
  (lo+n+(ys.length:Nat)<=(xs.length:Nat)->K (.own id lo (n+(ys.length:Nat))) (upd H id (some (.arr sz (FK xs (lo+n).toNat ys)))))/\
  ((xs.length:Nat)<lo+n+(ys.length:Nat)->(n.toNat+ys.length)*by_<=140737488355328/\∀t k,H t=none->K (.own t 0 (n+(ys.length:Nat))) (upd H t (some (.arr sz (W1 xs lo n++ys++List.replicate k z)))))
 |x=>(x= .sl [] .nil\/x= .sl [] .full)/\ys.length*by_<=140737488355328/\∀t k,H t=none->K (.own t 0 (ys.length:Nat)) (upd H t (some (.arr sz (ys++List.replicate k z))))
theorem MY {H:A6}{K a:V->A6->Prop}{sz by_:Nat}{z x:V}{ys:Up V}(h:Ju H K sz by_ z x ys)(W:∀v H',K v H'->a v H'):Ju H a sz by_ z x ys:=by
 unfold Ju at h ⊢
 grind
def RT (P:If) (H:A6) (K:V->A6->Prop):Up Do->Up V->Prop
 | [g,b],[x,y]=>
  ∃ e sz by_ z,HS P g=some e/\HL P e=some sz/\0<sz/\SN P e=some by_/\0<by_/\KC P e=some z/\z.one=true/\z.cells.length=sz/\
   (((HS P b).isSome=true/\∃a,WF sz H y a/\Ju H K sz by_ z x a)\/
    ((∃k',P.underlying b=some (.int k'))/\∃k m,y= .int k m/\0<=m/\(ownN x+m.toNat)*by_<=140737488355328/\Ju H K sz by_ z x (List.replicate m.toNat z))\/
    (P.underlying b=some .string/\∃s,y= .str s/\sz=1/\Ju H K sz by_ z x (HN s)))
 |_,_=>False
def Xj {P:If} {o:Oper} {fr:Fr} {H:A6} {c:Call} (r:o.op= .call c) (X:c.callee= .builtin .append) {K:V->A6->Prop}
 (h:RT P H K c.argTypes.toList (c.args.toList.map (ev fr))):K3 P o fr H K:=by
 obtain⟨D,args,i⟩:=c
 simp only at X h
 subst X;obtain⟨args⟩:=args;obtain⟨i⟩:=i
 simp only at h
 unfold RT at h
 split at h
 ·rename_i G J x I e2
  match args,e2 with
  | [s,y],e2=>
   simp only[D9,I0,V0,P7]at e2
   obtain⟨e,sz,by_,z,t,N,d,f,j,p,q,u,h⟩:=h
   rcases h with⟨b,C,l1,a⟩|⟨⟨k',b⟩,k,m,l1,g,v,a⟩|⟨b,F,l1,g,a⟩
   ·unfold Ju at a
    grind[Ad1,YQ]
   ·have l:((m.toNat:Nat):Int)=m:=za2
    unfold Ju at a
    simp only[Tc,l]at a
    split at a
    ·rename_i id lo n;obtain⟨xs,w,A,B⟩:=a;exact YO r e2.1 (e2.2.trans l1) w t b N d f j p q u g v A λe=>(B e).2
    grind[WP]
   subst g
   unfold Ju at a
   grind[YP,WQ]
  |[],e2=>simp at e2
  |[_],e2=>simp at e2
  |_::_::_::_,e2=>simp at e2
 exact h.elim
def Am4 (P:If) (H:A6) (K:V->A6->Prop):Up Do->Up V->Prop
 | [b,_],[.own id lo n,y]=>
  ∃e sz xs a,HS P b=some e/\HL P e=some sz/\0<sz/\H id=some (.arr sz xs)/\WF sz H y a/\
   K (.int .i64 (if n<(a.length:Nat)then n else(a.length:Nat))) (upd H id (some (.arr sz (FK xs lo.toNat (a.take n.toNat)))))
 |_,_=>False
def Am3 {P:If} {o:Oper} {fr:Fr} {H:A6} {c:Call} (z:o.op= .call c) (X:c.callee= .builtin .copy) {K:V->A6->Prop}
 (h:Am4 P H K c.argTypes.toList (c.args.toList.map (ev fr))):K3 P o fr H K:=by
 obtain⟨b,args,a⟩:=c
 simp only at X h
 subst X;obtain⟨args⟩:=args;obtain⟨a⟩:=a
 simp only at h
 unfold Am4 at h
 split at h
 ·rename_i e i id lo n g e2
  match args,e2 with
  |[s,y],e2=>
   simp only[D9,I0,V0,P7]at e2
   grind[AI9]
  |[],e2=>simp at e2
  |[_],e2=>simp at e2
  |_::_::_::_,e2=>simp at e2
 exact h.elim
def Wr (P:If) (H:A6) (K:V->A6->Prop):Up Do->Up V->Prop
 |[a],[.own id lo n]=>
  ∃e sz z xs,HS P a=some e/\HL P e=some sz/\0<sz/\KC P e=some z/\z.one=true/\z.cells.length=sz/\H id=some (.arr sz xs)/\K (.tup []) (upd H id (some (.arr sz (FK xs lo.toNat (List.replicate n.toNat z)))))
 |_,_=>False
def ZH {P:If} {o:Oper} {fr:Fr} {H:A6} {c:Call} (z:o.op= .call c) (X:c.callee= .builtin .clear) {K:V->A6->Prop}
 (h:Wr P H K c.argTypes.toList (c.args.toList.map (ev fr))):K3 P o fr H K:=by
 obtain⟨b,args,a⟩:=c
 simp only at X h
 subst X;obtain⟨args⟩:=args;obtain⟨a⟩:=a
 simp only at h
 unfold Wr at h
 split at h
 ·rename_i e id lo n e2
  match args,e2 with
  |[s],e2=>
   simp only[D9,I0,V0,P7]at e2
   grind[Ar2]
  |[],e2=>simp at e2
  |_::_::_,e2=>simp at e2
 exact h.elim
def TE (P:If) (H:A6) (K:V->A6->Prop) (t:Do) (l c:V):Prop:=
 match l,c with
 | .int _ n,.int _ m=>∃e sz by_ z,HS P t=some e/\HL P e=some sz/\0<sz/\SN P e=some by_/\0<by_/\KC P e=some z/\z.one=true/\z.cells.length=sz/\0<=n/\n<=m/\m*by_<=281474976710656/\
  ∀id,H id=none->K (.own id 0 n) (upd H id (some (.arr sz (List.replicate m.toNat z))))
 |_,_=>False
def QN (P:If) (o:Oper) (a:By->V) (H:A6) (v:V):Prop:=
 match o.op with
 | .move x=>v=a x
 | .assign x=>v=a x
 | .pick c x y=>
  match a c with
  | .bool t=>v=if t then a x else a y
  |_=>False
 | .box _ x=>(a x).one=true/\v= .eref (a x).cells 0
 | .build t g=>SO P t (g.toList.map λp=>(p.1,a p.2))=some v
 | .buildSlice t n g=>CV P t n (g.toList.map λp=>(p.1,a p.2))=some v
 | .makeSlice t l c=>AX8 P t (a l) (a c) v
 | .load t x=>LF P H t (a x)=some v\/PW P H t (a x)=some v
 | .nilCheck x=>AB5 (a x)=true/\v=a x
 | .binOp e t x y _=>Ug P e t (a x) (a y)=some v
 | .unOp e _ x=>unV e (a x)=some v
 | .convert s d x=>Yj P s d (a x)=some v\/Yk P H s d (a x) v
 | .lookup t x y ok=>Pr P H t (a x) (a y) ok v
 | .makeInterface t x=>ifO P t=false/\v= .iface t (a x)
 | .makeFunc fn fs cs=>v= .func fn (fs.toList.map a) (cs.toList.map a)
 | .slice t x lo U k=>
  match Ex (lo.map a),Ex (U.map a),Ex (k.map a)with
  |some l,some h,some m=>UV P t (a x) l h m=some v\/Og P H t (a x) l h m=some v
  |_,_,_=>False
 | .fieldAddr t x f=>Ko P t (a x) f=some v
 | .field t x f=>Wa P t (a x) f=some v
 | .indexAddr t x y=>
  match a y with
  | .int _ i=>(∃u,GF P t (a x) i=some u/\DK u v)\/Av2 P H t (a x) i=some v
  |_=>False
 | .index t x y=>
  match a y with
  | .int _ i=>SC P t (a x) i=some v
  |_=>False
 | .extract x n=>
  match a x with
  | .tup cs=>cs[n]? =some v
  |_=>False
 | .call c=>
  match c.callee with
  | .value x=>SW P (a x) (c.args.toList.map a) H v
  | .builtin b=>FE P b c.argTypes.toList (c.args.toList.map a) v\/Qx P H b c.argTypes.toList (c.args.toList.map a) v
  |_=>False
 |_=>False
def Au0 {P:If}{H H':A6}{t:Do}{x v:V}(B:∀id b,H id=some b->H' id=some b)(h:LF P H t x=some v):LF P H' t x=some v:=by
 unfold LF at h ⊢
 grind
def AV7 {P:If}{o:Oper}{a:By->V}{H H':A6}{v:V}(B:∀id b,H id=some b->H' id=some b)(h:QN P o a H v):QN P o a H' v:=by
 unfold QN at h ⊢
 cases z:o.op<;>simp only[z]at h ⊢ <;>first|exact h|exact h.imp (Au0 B) (Au1 B)|exact h.imp (λh=>h) (Aw6 B)|exact Zo B h|skip
 ·grind[Ac7]
 ·grind[AN1]
 split at h
 ·exact h.up B
 ·grind[AM7]
 exact h
theorem Pg {P:If} {o:Oper} {fr:Fr} {H:A6} {v:V} (h:QN P o (ev fr) H v) {K:V->A6->Prop} (k:K v H):K3 P o fr H K:=by
 unfold QN at h
 split at h
 ·grind[Ad2]
 ·grind[UZ]
 ·grind[AT5]
 ·grind[Oh]
 ·grind[AJ5]
 ·grind[UY]
 ·grind[AJ0]
 ·grind[AU1,AI8]
 ·grind[YR]
 ·grind[AJ6]
 ·grind[AT4]
 ·grind[Ad8,AJ4]
 ·grind[Ar3]
 ·grind[Rd]
 ·grind[YU]
 ·grind[AI6,Ad0]
 ·grind[WS]
 ·grind[AJ2]
 ·grind[AT8,K3.le,WR]
 ·grind[AJ1]
 ·grind[Ad7]
 ·rename_i c z
  split at h
  ·rename_i x X;obtain⟨a,args,b⟩:=c
   simp only at X h
   subst X;exact Ad9 z ((h H λ_ _ e=>e).mono λx H' ⟨w,e2⟩=>by rw[w,e2];exact k)
  ·grind[OP,VJ]
  grind
 grind
def BB8 (K:V->A6->Prop)(x:V)(H:A6):Prop:=∃y a,DK x y/\(∀id b,a id=some b->H id=some b)/\K y a
def KD (P:If) (A:WL) (o:Oper) (a:By->V) (H:A6) (K:V->A6->Prop):Prop:=
 match o.op with
 | .alloc t=>(∃z,KC P t=some z/\z.one=true/\∀id,H id=none->∃ds,M2 z.cells ds/\K (.ref id 0) (upd H id (some (.cells ds))))\/
  KC P t=some (.sl [] .nil)/\∃sz,∀q id,H q=none->upd H q (some (.arr sz [])) id=none->K (.ref id 0) (upd (upd H q (some (.arr sz []))) id (some (.cells [.own q 0 0])))
 | .box _ x=>
  (a x).one=true/\if A (o.dst.getD 0)then∀id,H id=none->K (.ref id 0) (upd H id (some (.cells (a x).cells)))else K (.eref (a x).cells 0) H
 | .store t x y=>(∃z H',DK (a y) z/\Qi P H t (a x) z=some H'/\K .bad H')\/∃z H',DK (a y) z/\YN P H t (a x) z=some H'/\K .bad H'
 | .makeSlice t l c=>TE P H K t (a l) (a c)\/TE P H (Ai8 K) t (a l) (a c)
 | .assign x=>K (a x) H\/Bq5 H K (a x)
 | .move x=>K (a x) H\/Bq5 H K (a x)
 | .buildSlice t n h=>(∃v,QN P o a H v/\K v H)\/litO P H K t n (h.toList.map λp=>(p.1,a p.2))
 | .makeMap t r=>r=none/\AX7 H K
 | .mapUpdate t x y z=>OW P H K t (a x) (a y) (a z)
 | .insert t x y z=>OW P H K t (a x) (a y) (a z)
 | .range t x=>Qp P H K t (a x)
 | .next x s=>s=false/\Vy H K (a x)
 | .entry x=>QB H K (a x)
 | .binOp g t x y _=>(∃v,QN P o a H v/\K v H)\/∃q e p,AE5 g=some q/\HS P t=some e/\AL6 (a x)=some p/\a y= .sl [] .nil/\(p->K (.bool q) H)/\K (.bool (!q)) H
 | .call c=>
  match c.callee with
  | .value x=>EN P (a x) (c.args.toList.map a) H K
  | .builtin .append=>JH P H K c.argTypes.toList (c.args.toList.map a)\/RT P H K c.argTypes.toList (c.args.toList.map a)\/JH P H (BB8 K) c.argTypes.toList (c.args.toList.map a)
  | .builtin .copy=>Am4 P H K c.argTypes.toList (c.args.toList.map a)
  | .builtin .clear=>Wr P H K c.argTypes.toList (c.args.toList.map a)
  | .builtin b=>∃v,(FE P b c.argTypes.toList (c.args.toList.map a) v\/Qx P H b c.argTypes.toList (c.args.toList.map a) v)/\K v H
  |_=>False
 |_=>∃v,QN P o a H v/\K v H
def Ar5 {P:If}{o:Oper}{fr:Fr}{H:A6}{K:V->A6->Prop}{t:Do}(z:o.op= .alloc t)(y:KC P t=some (.sl [] .nil))(sz:Nat)
 (h:∀q id,H q=none->upd H q (some (.arr sz [])) id=none->K (.ref id 0) (upd (upd H q (some (.arr sz []))) id (some (.cells [.own q 0 0])))):K3 P o fr H K:=by
 intro g w a F c;obtain⟨v,e,x⟩:=FF y
 have f:VR g w v (.sl [] .nil):=by rw[e];simp[GI]
 obtain⟨N,I,n,r,l⟩:=Ie F sz (.inl rfl) f;obtain⟨g',id,i,s,b,k⟩:=LP n t l rfl;unfold execOp;rw[z];simp only[Instr.alloc,C0,x,B7,J1];exact⟨g',_,_,I.trans s,b,k,h _ id r i⟩
def Rl.chgCells {g:Gh} {H:A6} {w:Is} (h:Rl g H w) {id:Nat} {cs ds:Up V} (W:H id=some (.cells cs)) (N:cs.length=ds.length)
 (q:∀(j:Nat) u,j<cs.length->VR g w u (cs.getD j .bad)->VR g w u (ds.getD j .bad)):Rl g (upd H id (some (.cells ds))) w:=by
 have a:∀x,g.at (upd H id (some (.cells ds))) x=g.at H x:=by
  grind[Gh.at,upd]
 refine⟨λx k M=>?_,λx x' y O Z=>h.inj x x' y (a x▸O) (a x'▸Z),h.frz,λx M=>?_,h.bnd,h.glb⟩
 ·by_cases i:x=id
  ·subst i;rw[G4]at M;cases M
   obtain⟨b,c,T,O,Z,J,s,d,f⟩:=h.blk x _ W
   simp_all[EO]
  rw[D3 _ _ i]at M;exact h.blk x k M
 obtain⟨n,r,t⟩:=h.nxt x M
 have l:x≠id:=λe=>za8
 simp_all[upd]
theorem Ar4 {P:If}{o:Oper}{fr:Fr}{H:A6}{K:V->A6->Prop}{t:Do}{z:V}(l:o.op= .alloc t)(r:KC P t=some z)(O:z.one=true)(h:∀id,H id=none->∃ds,M2 z.cells ds/\K (.ref id 0) (upd H id (some (.cells ds)))):K3 P o fr H K:=by
 intro g w a F k;refine(AJ7 (K:=λx H'=>∃id,H id=none/\x= .ref id 0/\H'=upd H id (some (.cells z.cells))) l r O (λid b=>⟨id,b,rfl,rfl⟩) g w a F k).mono λv w' ⟨g',x,H',s,e,q,id,b,i,e2⟩=>?_;subst i;subst e2;obtain⟨ds,hle,y⟩:=h id b;have:=e.chgCells (G4 _ _ _) (ds:=ds) hle.length λj u _ n=>n.le (hle.at j)
 rw[FI]at this
 grind[P0]
def AL2 {P:If} {A:WL} {o:Oper} {fr:Fr} {H:A6} {K:V->A6->Prop} (h:KD P A o (ev fr) H K):K3 P o fr H K:=by
 unfold KD at h
 split at h
 ·rename_i t a
  rcases h with⟨z,O,Z,J⟩|⟨O,sz,Z⟩
  ·grind[Ar4]
  exact Ar5 a O sz Z
 ·grind[WT,Oh]
 ·rename_i t x y a
  rcases h with⟨z,H',L,O,Z⟩|⟨z,H',L,O,Z⟩
  ·exact Xu a (λ_ _ _ h=>h.le L) O Z
  grind[Ar1]
 ·rename_i t l c a
  have key:∀K,TE P H K t (ev fr l) (ev fr c)->K3 P o fr H K:=by
   intro K h
   unfold TE at h
   grind[Ad4]
  exact h.elim (key K) λh=>K3.lessRow (key _ h)
 ·rename_i x a;exact h.elim (UZ a) λ⟨O,sz,Z⟩=>Tv (.inl a) O sz Z
 ·rename_i x a;exact h.elim (Ad2 a) λ⟨O,sz,Z⟩=>Tv (.inr a) O sz Z
 ·rename_i t n N a
  rcases h with⟨v,O,Z⟩|⟨e,sz,xs,ys,O,Z,J,i,k⟩
  ·grind[Pg]
  grind[AT6]
 ·rename_i t r a;obtain⟨rfl,h⟩:=h;exact h.elim (Ad3 a) λh=>h.elim (YT a) (YS a)
 ·grind[PT]
 ·rename_i t x y z a;exact PT (.inr a) h
 ·rename_i t x a;exact AI7 a h
 ·rename_i x s a;obtain⟨rfl,h⟩:=h;exact AU0 a h
 ·rename_i x a;exact AJ3 a h
 ·grind[Pg,Bg3]
 ·rename_i c a
  split at h
  ·rename_i x X;obtain⟨g,args,d⟩:=c
   grind[Ad9]
  ·rename_i X;exact h.elim (PZ a X) λh=>h.elim (Xj a X) λh=>K3.lessH (PZ a X h)
  ·rename_i X;exact Am3 a X h
  ·rename_i X;exact ZH a X h
  ·rename_i b _ _ _ X;obtain⟨v,O,Z⟩:=h;exact O.elim (λO=>OP a X O Z) λO=>VJ a X O Z
  exact h.elim
 obtain⟨v,O,Z⟩:=h;exact Pg O Z
def Fw (r:OS Nat):Fence:={fn:=λ_=>True,depth:=none,alive:=false,round:=r}
def Wu {r:OS Nat}{P:If}{f:FuncId}{args:za1 HO}{w:Is}{R:Ending->Is->Prop}(h:CallsIn Fence.wide 0 P f args w R):CallsIn (Fw r) 0 P f args w R:=h
def As3 {r:OS Nat}{P:If}{l:Nat}{f:FuncId}{a:za1 HO}{c d:Code}{w:Is}{R:Ending->Is->Prop}(h:RoundIn Fence.wide 0 P l f a c d w R):RoundIn (Fw r) 0 P l f a c d w R:=h
def Ag7 {P:If}{A:WL}{o:Oper}{a:By->V}{H:A6}{K:V->A6->Prop}(h:KD P A o a H K):∀c,o.op≠ .defer c:=by
 grind[KD,QN]
def Kd {P:If} {r:OS Nat} {o:Oper} {a:Act} {next:Act->Is->Prop} {Q:Exit->Act->Is->Prop} {K:HO->Is->Prop} {x:Result Next} (h:J1 P K x)
 (W:∀v w,K v w->next (a.put o.dst v) w):o.uponIn (Fw r) 0 P a next Q x:=by
 cases x with
 |halt x w=>exact h.elim
 | ok n w=>
  cases n<;>first
   |exact h.elim
   |exact W _ _ h
   |exact⟨λh=>by simp[Fw]at h,(Wu h).mono λe w' ⟨v,b,e2⟩=>za8⟩
   |exact⟨λh=>by simp[Fw]at h,(As3 h).mono λe w' ⟨v,b,e2⟩=>za8⟩
def Jt (nt:Nat):OS Tmp->Bool
 |some d=>d<nt
 |none=>true
def Du (ops:za1 Oper) (fr:Fr) (o:Oper):OS Bool:=
 match o.guard with
 |none=>some true
 | some (j,a)=>
  match(ops[j]?).bind (·.dst)with
  |some d=>
   match fr.s d with
   | .bool b=>some (b==a)
   | .tup _=>some false
   |_=>none
  |none=>none
def LW (P:If) (A:WL) (nt:Nat) (ops:za1 Oper):Up Oper->Fr->A6->(Fr->A6->Prop)->Prop
 |[],fr,H,K=>K fr H
 | o::rest,fr,H,K=>
  Jt nt o.dst=true/\
   match Du ops fr o with
   |some true=>KD P A o (ev fr) H λv H'=>LW P A nt ops rest (fr.put o.dst v) H' K
   |some false=>LW P A nt ops rest (fr.put o.dst (.tup [])) H K
   |none=>False
def Yx (nt:Nat)(g:Gh)(w:Is)(Q:Exit->Fr->A6->Prop)(e:Exit)(b:Act)(w':Is):Prop:=
 ∃g' a H',Aw g w g' w'/\Rl g' H' w'/\FR nt g' w' b a/\Q e a H'
def AP8 (g:Gh):OS Nat->OS Nat->Prop
 |none,r=>r=none
 |some id,r=>∃b,g.mu id=some b/\r=some b
def AP8.mono {g g':Gh}{w w':Is}{rd r:OS Nat}(h:AP8 g rd r)(s:Aw g w g' w'):AP8 g' rd r:=by
 cases rd with
 |none=>exact h
 |some id=>have⟨b,O,Z⟩:=h;exact⟨b,s.mu _ _ O,Z⟩
def Br (P:If)(nt:Nat)(rd:OS Nat)(c:Code)(fr:Fr)(H:A6)(Q:Exit->Fr->A6->Prop):Prop:=
 ∀r g w a,AP8 g rd r->Rl g H w->FR nt g w a fr->c.wpIn (Fw r) 0 P (Yx nt g w Q) a w
def Yx.later {nt:Nat}{g g':Gh}{w w':Is}{Q:Exit->Fr->A6->Prop}{e:Exit}{a:Act}{w2:Is}(s:Aw g w g' w')(h:Yx nt g' w' Q e a w2):Yx nt g w Q e a w2:=
 let⟨b,fr,H,d,x⟩:=h;⟨b,fr,H,s.trans d,x⟩
def Yx.mono {nt:Nat}{g:Gh}{w:Is}{Q i:Exit->Fr->A6->Prop}(l:∀e fr H,Q e fr H->i e fr H){e:Exit}{a:Act}{w2:Is}(h:Yx nt g w Q e a w2):Yx nt g w i e a w2:=
 let⟨k,fr,H,d,a,b,c⟩:=h;⟨k,fr,H,d,a,b,l _ _ _ c⟩
def Br.mono {P:If}{nt:Nat}{rd:OS Nat}{c:Code}{fr:Fr}{H:A6}{Q Q':Exit->Fr->A6->Prop}(h:Br P nt rd c fr H Q)(i:∀e fr H,Q e fr H->Q' e fr H):Br P nt rd c fr H Q':=
 λr g w a f F b=>wpIn_mono (h r g w a f F b) λ_ _ _=>Yx.mono i
section
variable {P:Program}{nt:Nat}{rd:Option Nat}{fr:Fr}{H:A6}{Q:Exit->Fr->A6->Prop}
def FR.er {g:Gh}{w:Is}{a:Act}{fr:Fr}(h:FR nt g w a fr):ER g w a fr:=h.s
def Bm {ops:za1 Oper} {g:Gh} {w:Is} {a:Act} {o:Oper} {b:Bool} (i:ER g w a fr) (h:Du ops fr o=some b):Region.wanted o (yielded ops a.tmps)=b:=by
 unfold Du at h
 unfold Region.wanted
 split at h
 ·simp_all
 rename_i j e k;simp only[k]
 split at h
 ·rename_i d hd
  split at h
  ·rename_i c X;cases h;have:=i d
   rw[X]at this
   have q:=this.bool_inv
   have l:a.tmps[d]? =some (.bool c):=by
    rw[Q9]at q
    cases M:a.tmps[d]? with
    |none=>rw[M]at q;simp[undef]at q
    |some y=>rw[M]at q;grind
   simp only[yielded,hd,A4,l];cases c<;>cases e<;>rfl
  ·rename_i vs X;cases h;have:=i d
   rw[X]at this
   have q:∃us,a.tmps.getD d undef= .tuple us:=by
    generalize a.tmps.getD d undef=z at this
    cases this with
    |tup O Z=>simp_all
   have⟨us,q⟩:=q
   have m:yielded ops a.tmps j=none:=by
    unfold yielded;simp only[hd,A4]
    rw[Q9]at q
    grind
   rw[m];cases e<;>rfl
  cases h
 cases h
def Xn {A:WL}{r:OS Nat}{g:Gh}{w:Is}{a:Act}{o:Oper}{K:V->A6->Prop}{next:Act->Is->Prop}{Q:Exit->Act->Is->Prop}(F:Rl g H w)(i:FR nt g w a fr)(hd:Jt nt o.dst=true)
 (h:KD P A o (ev fr) H K) (W:∀g' w' e v H',Aw g w g' w'->Rl g' H' w'->FR nt g' w' e (fr.put o.dst v)->K v H'->next e w'):o.wpIn (Fw r) 0 P a w next Q:=by
 refine⟨λ_ _=>trivial,?_⟩;rw[GP _ _ _ (Ag7 h)];refine Kd (AL2 h g w a F i.s) λv w' ⟨g',x,H',s,b,q,k⟩=>?_;refine W g' w' _ x H' s b ((i.mono s).put (λt j=>?_) q) k
 rw[j]at hd;grind[Jt]
def Vv {A:WL} {ops:za1 Oper} {r:OS Nat} {K:Fr->A6->Prop} {Q:Exit->Act->Is->Prop} {g0:Gh} {w0:Is} (y:∀g w a fr H,Aw g0 w0 g w->Rl g H w->FR nt g w a fr->K fr H->Q .normal a w):
 ∀(m i:Nat) (fr:Fr) (H:A6),i+m=ops.size->LW P A nt ops (ops.toList.drop i) fr H K->∀g w a,Aw g0 w0 g w->Rl g H w->FR nt g w a fr->wpOpsIn (Fw r) 0 P ops Q (List.range' i m) a w
 |0,i,fr,H,U,h,g,w,a,s,F,b=>by
  have:ops.toList.drop i=[]:=by simp;omega
  rw[this]at h
  exact y g w a fr H s F b h
 | m+1,i,fr,H,U,h,g,w,a,s,F,b=>by
  have x:i<ops.toList.length:=by simp;omega
  have e:i<ops.size:=za2
  rw[M4 x]at h
  simp only[LW,Lc]at h
  have⟨hd,h⟩:=h;simp only[Fd,wpOpsIn,Dd e];have ih:=Vv (A:=A) (ops:=ops) (r:=r) (K:=K) y m (i+1)
  split at h
  ·rename_i n;rw[A2 (Bm b.s n)];exact Xn F b hd h λg' w' N v H' d l k c=>ih _ _ za2 c g' w' N (s.trans d) l k
  ·rename_i n;rw[A1 (by rw[Bm b.s n];simp)];refine⟨λ_ _=>trivial,ih _ _ za2 h g w _ s F (b.put (λt j=>?_) (VR.und _ _))⟩
   rw[j]at hd;grind[Jt]
  grind
def Br.region {A:WL} {id:Nat} {ops:za1 Oper} (h:LW P A nt ops ops.toList fr H (Q .normal)):Br P nt rd (.region id ops false) fr H Q:=by
 intro r g w a f F e;refine wpIn_region ?_
 have:=Vv (P:=P) (A:=A) (nt:=nt) (ops:=ops) (r:=r) (K:=Q .normal) (Q:=Yx nt g w Q) (g0:=g) (w0:=w) (λg' w' k b H' s F e i=>⟨g',b,H',s,F,e,i⟩) ops.size 0 fr H za2
  za7 g w a (Aw.refl _ _) F e
 rwa[<-IN]at this
def Br.skip (h:Q .normal fr H):Br P nt rd .skip fr H Q:=λr g w a f F b=>wpIn_skip ⟨g,fr,H,Aw.refl _ _,F,b,h⟩
def Br.ret (h:Q .ret fr H):Br P nt rd .ret fr H Q:=λr g w a f F b=>wpIn_ret ⟨g,fr,H,Aw.refl _ _,F,b,h⟩
def Br.exit {id:Nat}(h:Q (.exit id) fr H):Br P nt rd (.exit id) fr H Q:=λr g w a f F b=>wpIn_exit ⟨g,fr,H,Aw.refl _ _,F,b,h⟩
def Br.seq {x y:Code}(h:Br P nt rd x fr H λe b H'=>match e with| .normal=>Br P nt rd y b H' Q|e=>Q e b H'):Br P nt rd (.seq x y) fr H Q:=by
 intro r g w a f F t;refine wpIn_seq (wpIn_mono (h r g w a f F t) λe n w' ⟨g',b,H',s,k,i,l⟩=>?_)
 cases e with
 |normal=>exact wpIn_mono (l r g' w' n (f.mono s) k i) λ_ _ _=>Yx.later s
 |_=>exact⟨g',b,H',s,k,i,l⟩
def Br.cond {c:By}{x y:Code}{t:Bool}(X:ev fr c= .bool t)(O:t=true->Br P nt rd x fr H Q)(Z:t=false->Br P nt rd y fr H Q):Br P nt rd (.cond c x y) fr H Q:=by
 intro r g w a f F b;have q:=G1 F b.s c
 rw[X]at q
 refine wpIn_cond q.bool_inv ?_;cases t
 ·exact Z rfl r g w a f F b
 exact O rfl r g w a f F b
def Br.block {id:Nat} {c:Code} (h:Br P nt rd c fr H λe b H'=>match e with| .exit i=>if i=id then Q .normal b H' else Q (.exit i) b H'|e=>Q e b H'):Br P nt rd (.block id c) fr H Q:=by
 intro r g w a f F n;refine wpIn_block (wpIn_mono (h r g w a f F n) λe x w' ⟨g',b,H',s,l,k,t⟩=>?_)
 cases e with
 |exit i=>
  simp only[Exit.inBlock]
  grind[Yx]
 |_=>exact⟨g',b,H',s,l,k,t⟩
theorem Br.loopN {c:Code} (I:Nat->Fr->A6->Prop) (Y:Nat) (L:I Y fr H)
 (v:∀n fr H,I n fr H->Br P nt rd c fr H λe J H'=>match e with| .normal=>∃R,R<n/\I R J H'|e=>Q e J H'):Br P nt rd (.loop c) fr H Q:=by
 intro r g w a f F S;intro b k cs W A u
 have key:∀n fr H,I n fr H->∀g' w' a,Aw g w g' w'->Rl g' H w'->FR nt g' w' a fr->
  ∃e O w2,Yx nt g w Q e O w2/\ArrivesIn (Machine.fenced P (Fw r)) P (lone (b.atR a (.code c:: .inLoop c::k)) cs w') b k cs e O w2:=by
  intro n
  induction n using Nat.strongRecOn with
  | _ n ih=>
   intro fr H X g' w' a s F S;have⟨e,i,t,⟨z,y,G,B,d,N,m⟩,h⟩:=v n fr H X r g' w' a (f.mono s) F S b (.inLoop c::k) cs W A u
   cases e with
   |normal=>
    have⟨R,U,p⟩:=m;have⟨D,C,M,q,j⟩:=ih R U y G p z t i (s.trans B) d N;exact⟨D,C,M,q,.of_steps (StepsIn.trans h (.one (fenced_calm A u rfl) stepR_inLoop)) j⟩
   |exit id=>exact⟨_,i,t,⟨z,y,G,s.trans B,d,N,m⟩,.pass (x:=.inLoop c) rfl (λ_ _=>.inl za4) h⟩
   |goto l=>exact⟨_,i,t,⟨z,y,G,s.trans B,d,N,m⟩,.pass (x:=.inLoop c) rfl (λ_ _=>.inl za4) h⟩
   |ret=>exact⟨_,i,t,⟨z,y,G,s.trans B,d,N,m⟩,.pass (x:=.inLoop c) rfl (λ_ _=>.inl za4) h⟩
   |panic Z=>exact⟨_,i,t,⟨z,y,G,s.trans B,d,N,m⟩,.pass (x:=.inLoop c) rfl (λ_ _=>.inl za4) h⟩
   |outgrown=>exact⟨_,i,t,⟨z,y,G,s.trans B,d,N,m⟩,.pass (x:=.inLoop c) rfl (λ_ _=>.inl za4) h⟩
 have⟨e,O,w',m,h⟩:=key _ fr H L g w a (Aw.refl _ _) F S;exact⟨e,O,w',m,.of_steps (.one (fenced_calm A u rfl) stepR_loop) h⟩
def Br.loop {c:Code} (I:Fr->A6->Prop) (g:Fr->A6->Nat) (L:I fr H)
 (b:∀fr H,I fr H->Br P nt rd c fr H λe a H'=>match e with| .normal=>I a H'/\g a H'<g fr H|e=>Q e a H'):Br P nt rd (.loop c) fr H Q:=
 Br.loopN (λn fr H=>I fr H/\g fr H=n) _ ⟨L,rfl⟩ λn fr H ⟨h,i⟩=>(b fr H h).mono λe a H' k=>by
  grind
def Br.less {c:Code}{e:Fr}{H':A6}(h:Br P nt rd c e H' Q)(C:∀t,Wk (fr.s t) (e.s t))(hd:e.df=fr.df)(B:∀id b,H' id=some b->H id=some b):Br P nt rd c fr H Q:=by
 intro r g w a f F i;refine h r g w a f (F.less B) ⟨i.size,λt=>C t _ _ _ (i.s t),?_⟩;rw[hd];exact i.df
def Br.freeze {c:Code} {t id off:Nat} {cs:Up V} (j:fr.s t= .ref id off) (W:H id=some (.cells cs)) (h:Br P nt rd c (fr.put (some t) (.eref cs off)) (upd H id none) Q):Br P nt rd c fr H Q:=by
 intro r g w a f F k;have⟨g',s,i,q⟩:=F.freeze W;refine wpIn_mono (h r g' w a (f.mono s) i ?_) λ_ _ _=>Yx.later s;have b:=k.mono s;refine⟨b.size,λx=>?_,b.df⟩;simp only[Fr.put]
 split
 ·rename_i e;subst e;have:=k.s x
  rw[j]at this
  simp_all
 exact b.s x
end
def EA (P:If) (fr:Fr) (H:A6):Up ResultVar->OS (Up V)
 |[]=>some []
 | .tmp t::r=>(EA P fr H r).map (fr.s t:: ·)
 | .cell a t::r=>
  match LF P H t (fr.s a),EA P fr H r with
  |some v,some l=>some (v::l)
  |_,_=>none
def TC:Up V->V
 |[x]=>x
 |l=>.tup l
def Bn1 (H:A6)(df:Up Nat):Prop:=df.Nodup/\∀id∈df,H id=some (.obj (.deferred (some [])))
def clear (H:A6)(df:Up Nat):A6:=λx=>if x∈df then none else H x
section
variable {P:Program}
def AY4 {g:Gh} {w:Is} {H:A6} (F:Rl g H w) {t:Do} {v:HO} {X x:V} (k:VR g w v X) (B:LF P H t X=some x):
 ∃b q u,v= .pointer (some ⟨b,q,none⟩)/\(loadVar t ⟨b,q,none⟩).run P w= .ok u w/\VR g w u x:=by
 unfold LF at B
 split at B
 ·rename_i l sz cs off a C
  cases k with
  |eref vs r R O h=>
   rename_i b q;have⟨u,i,f⟩:=Kh (P:=P) (g:=g) (w:=w) (b:=b) (q:=q) (cs:=cs) (λj e=>⟨vs j,R j e,O j e,h j e⟩) a C B
   grind
 ·rename_i l sz id off a C
  cases k with
  | ref n=>
   rename_i b
   split at B
   ·rename_i cs W;have⟨u,i,f⟩:=Kh (P:=P) (TV F W n) a C B
    rw[K4]at i
    grind
   cases B
 cases B
def Ok {nt:Nat} {g:Gh} {w:Is} {H:A6} {a:Act} {fr:Fr} (F:Rl g H w) (e:ER g w a fr):∀(n:Up ResultVar) (l:Up V),EA P fr H n=some l->
 ∃vs:Up HO,(n.mapM (m:=Sem) λ| .tmp t=>pure (a.tmps.getD t undef)| .cell x t=>do loadVar t (<-asAddr (a.tmps.getD x undef))).run P w= .ok vs w/\vs.length=l.length/\
  ∀i,i<l.length->VR g w (vs.getD i undef) (l.getD i .bad)
 |[],l,h=>by simp_all[EA]
 | .tmp t::r,l,h=>by
  simp only[EA]at h
  cases f:EA P fr H r with
  |none=>grind
  |some k=>
   simp only[f,K5,E7]at h
   subst h;have⟨vs,O,Z,J⟩:=Ok (nt:=nt) F e r k f;refine⟨a.tmps.getD t undef::vs,?_,by simp[Z],λi U=>?_⟩
   ·simp_all
   cases i with
   |zero=>exact e t
   |succ i=>simp_all
 | .cell x t::r,l,h=>by
  simp only[EA]at h
  split at h
  ·rename_i v k y f;cases h;have⟨vs,O,Z,J⟩:=Ok (nt:=nt) F e r k f;have⟨b,q,u,N,e2,c⟩:=AY4 F (e x) y;refine⟨u::vs,?_,by simp[Z],λi U=>?_⟩
   ·have d:(asAddr (.pointer (some ⟨b,q,none⟩))).run P w= .ok ⟨b,q,none⟩ w:=rfl
    simp_all
   grind
  cases h
def Ae8 {nt:Nat} {g:Gh} {w:Is} {H:A6} {a:Act} {fr:Fr} {fn:Func} (F:Rl g H w) (b:ER g w a fr) {l:Up V} (h:EA P fr H fn.results.toList=some l):
 ∃v,(results fn a.tmps).run P w= .ok v w/\VR g w v (TC l):=by
 have⟨vs,O,Z,J⟩:=Ok (nt:=nt) F b _ _ h
 have e:(results fn a.tmps).run P w= .ok (if h:vs.toArray.size=1 then vs.toArray[0]else .tuple vs.toArray) w:=by
  unfold results;rw[Array.mapM_eq_mapM_toList];simp only[C0,Sem.run_map]
  erw [O]
  rfl
 refine⟨_,e,?_⟩
 match l,vs,Z,J with
 |[x],[v],_,J=>simp_all[TC]
 |[],[],_,_=>exact .tup rfl λi U=>by simp at U
 |x::y::l,u::v::vs,Z,J=>
  simp only[IJ,N3,TC];rw[dif_neg za2];refine .tup za2 λi U=>?_;have:=J i U
  simp_all
def XP {nt:Nat} {fn:Func} {a:Act} {R:Ending->Is->Prop} {g:Gh} {fr:Fr} {l:Up V}:∀(df:Up Nat) (t:Up Nat) (H:A6) (w:Is),Rl g H w->ER g w a fr->t.length=df.length->
 (∀i,i<t.length->g.mu (df.getD i 0)=some (t.getD i 0))->Bn1 H df->EA P fr (clear H df) fn.results.toList=some l->
 (∀w' v,Aw g w g w'->Rl g (clear H df) w'->VR g w' v (TC l)->R (.returned v) w')->
 LeavesInM Fence.wide 0 P fn a.tmps R (t.map λb=>{target:=.collected b,args:= #[]}) .returning w
 |[],[],H,w,F,c,_,_,_,B,f=>by
  have n:clear H []=H:=by funext x;simp[clear]
  rw[n]at B f
  have⟨v,O,Z⟩:=Ae8 (nt:=nt) F c B;exact⟨v,O,f w v (Aw.refl _ _) F Z⟩
 | id::df,b::t,H,w,F,c,z,N,r,B,f=>by
  have A:g.mu id=some b:=N 0 za4;have W:=r.2 id za4;have p:=List.nodup_cons.1 r.1;have⟨s,d⟩:=F.putObj (o':=.deferred none) W A rfl;have⟨b',O,Z,J,D⟩:=F.blk id _ W
  rw[A]at O;cases O
  refine⟨za4,.inl ⟨b,w.putObj b (.deferred none),rfl,run_takeDeferred J,?_⟩⟩
  have m:∀k b',(upd H id none) k=some b'->(upd H id (some (.obj (.deferred none)))) k=some b':=by
   simp_all[upd]
  have n:clear (upd H id none) df=clear H (id::df):=by
   funext x
   grind[clear,upd]
  refine XP (nt:=nt) df t (upd H id none) (w.putObj b (.deferred none)) (d.less m) (c.mono s) za8 (λi U=>?_) ⟨p.2,λk j=>?_⟩ (by rw[n];exact B) λw' v C y q=>?_
  ·have:=N (i+1) za7
   simp_all
  ·have u:k≠id:=λe=>za8
   rw[D3 _ _ u];exact r.2 k (by simp[j])
  rw[n]at y
  exact f w' v (s.trans C) y q
 |[],_::_,_,_,_,_,h,_,_,_,_=>by simp at h
 |_::_,[],_,_,_,_,h,_,_,_,_=>by simp at h
def Ret (P:If)(fn:Func)(K:V->A6->Prop)(e:Exit)(fr:Fr)(H:A6):Prop:=
 (e= .normal\/e= .ret)/\Bn1 H fr.df/\∃l,EA P fr (clear H fr.df) fn.results.toList=some l/\K (TC l) (clear H fr.df)
def entry (args:Up V):Fr:=⟨λt=>args.getD t .bad,[]⟩
def Xi {f:FuncId} {fn:Func} {c:Code} {args:Up V} {H:A6} {K:V->A6->Prop} (C:P.funcs[f]? =some fn) (A:fn.body=some c) (b:∀vals w,(callFunc f vals).run P w= .ok (.enter f vals) w)
 (J:args.length<=fn.ntmps) (h:Br P fn.ntmps none c (entry args) H (Ret P fn K)):O7 P f args H K:=by
 intro g w vals F N;rw[b]
 show CallsIn Fence.wide 0 P f vals w _
 refine callsIn_of_wp_marks C A trivial ?_
 have u:FR fn.ntmps g w {tmps:=vals++Array.replicate (fn.ntmps-vals.size) undef,defers:=[]} (entry args):=by
  refine⟨by have:=N.1;simp;omega,λt=>?_,⟨[],rfl,λi U=>by simp at U,rfl⟩⟩
  by_cases j:t<args.length
  ·have e:(vals++Array.replicate (fn.ntmps-vals.size) undef).getD t undef=vals.getD t undef:=by
    simp only[Q9,HV,N.1,A2 j]
   grind[entry,Args]
  have:(entry args).s t= .bad:=by simp_all[entry]
  rw[this];exact .bad _
 refine wpIn_mono (h none g w _ rfl F u) λe m w' ⟨g',n,H',s,r,k,Y,y,l,B,z⟩=>?_;have⟨p,D,G,I⟩:=k.df;have key:=XP (P:=P) (nt:=fn.ntmps) (fn:=fn) (a:=m) (R:=λe w'=>∃v,e= .returned v/\P0 g w K v w') n.df p H' w' r k.s D G y B λL v d x q=>⟨v,rfl,g',_,_,s.trans d,x,q,z⟩
 rw[<-I]at key
 rcases Y with rfl|rfl
 ·exact key
 exact key
end
def Bl7:Op->Bool
 | .alloc _=>true
 |_=>false
def Rv:Op->Bool
 | .store _ _ _=>true
 |_=>false
def HB (o:Oper)(j:Nat):Bool:=o.after.any λe=>e.on==j&&Region.binds .any e
def Dy (o:Oper)(i:Nat):Bool:=o.after.all λe=> !Region.binds .any e||e.on<i
def OD (ops:za1 Oper)(x y:Oper):Bool:=x.apart ops y&& !(Rv x.op&&Rv y.op)
def Nf (ops:za1 Oper):Nat->Nat->Nat->Bool
 |0,i,j=>HB (ops.getD i default) j
 |n+1,i,j=>HB (ops.getD i default) j||(ops.getD i default).after.any λe=>Region.binds .any e&&(Nat.blt j e.on&&Nf ops n e.on j)
def So:Nat:=20
def Wi (ops:za1 Oper) (k:Nat):Bool:=
 k <=ops.size&&(List.range ops.size).all λi=>
  Dy (ops.getD i default) i&&
   (List.range i).all λj=>(i<k&&OD ops (ops.getD j default) (ops.getD i default))||Nf ops So i j
section
variable {P:Program}{nt:Nat}{ops:Array Oper}{H0:A6}
def Bt {α β:Type}{f g:α->β}:∀{l:Up α},(∀x∈l,f x=g x)->l.map f=l.map g
 |[],_=>rfl
 |x::l,h=>by rw[D9,D9,h x za4,Bt λy m=>h y (by simp[m])]
def LV {α β:Type}{f g:α->β}:∀{l:OS α},(∀x∈l,f x=g x)->l.map f=l.map g
 |none,_=>rfl
 |some x,h=>by rw[K5,K5,h x rfl]
theorem Ss {o:Oper} {e ρ':By->V} {H:A6} {v:V} (a:∀x∈o.op.operands,e x=ρ' x) (h:QN P o e H v):QN P o ρ' H v:=by
 unfold QN at h ⊢
 cases z:o.op<;>simp only[z]at h ⊢ a<;>first
  |exact h.elim
  | (simp only[Op.operands,IF,Fa,Cq,or_false,forall_eq_or_imp,forall_eq]at a
     first
      |(rw[<-a];exact h)
      |(rw[<-a.1,<-a.2];exact h)
      |(rw[<-a.1,<-a.2.1,<-a.2.2];exact h))
  |skip
 ·
  rename_i t k;rw[<-Bt (l:=k.toList) (f:=λp=>(p.1,e p.2)) (g:=λp=>(p.1,ρ' p.2)) λp b=>by rw[a p.2 (by simp only[Op.operands,IF,DF];grind)]];exact h
 ·rename_i t n k;rw[<-Bt (l:=k.toList) (f:=λp=>(p.1,e p.2)) (g:=λp=>(p.1,ρ' p.2)) λp b=>by rw[a p.2 (by simp only[Op.operands,IF,DF];grind)]];exact h
 ·rename_i fn fs cs
  rw[<-Bt (l:=fs.toList) (f:=e) (g:=ρ') λp b=>a p (by simp only[Op.operands,KT];simp_all),
   <-Bt (l:=cs.toList) (f:=e) (g:=ρ') λp b=>a p (by simp only[Op.operands,KT];simp_all)]
  exact h
 ·rename_i t x lo U r
  rw[<-a x (by simp[Op.operands]),<-LV (l:=lo) (f:=e) (g:=ρ') λp b=>a p (by simp[Op.operands,Option.mem_def.1 b]),
   <-LV (l:=U) (f:=e) (g:=ρ') λp b=>a p (by simp[Op.operands,Option.mem_def.1 b]),<-LV (l:=r) (f:=e) (g:=ρ') λp b=>a p (by simp[Op.operands,Option.mem_def.1 b])]
  exact h
 rename_i c;have i:c.args.toList.map e=c.args.toList.map ρ':=Bt λp b=>a p (by simp only[Op.operands,Call.operands,KT];simp_all);rw[<-i]
 cases X:c.callee<;>simp only[X]at h ⊢
 ·rename_i f;rw[<-a f (by simp[Op.operands,Call.operands,X])];exact h
 exact h
def Av7 {fr:Fr} {d:OS Tmp} {v:V} {x:By} (h:∀t,d=some t->x≠ .tmp t):ev (fr.put d v) x=ev fr x:=by
 cases d with
 |none=>rfl
 | some d=>
  cases x with
  |tmp t=>
   have a:t≠d:=λe=>h d rfl (by rw[e])
   grind[ev,Fr.put]
  |_=>rfl
def Oy {fr:Fr}{d:OS Tmp}{v:V}{y:Oper}(h:∀t,d=some t->t∉y.looksAt ops):∀x∈y.op.operands,ev (fr.put d v) x=ev fr x:=by
 intro x M;refine Av7 λt j e=>h t j ?_;subst e;exact IM _ (List.mem_filterMap.2 ⟨.tmp t,za7,rfl⟩)
def TF {fr:Fr} {d:OS Tmp} {v:V} {y:Oper} (h:∀t,d=some t->t∉y.looksAt ops):Du ops (fr.put d v) y=Du ops fr y:=by
 unfold Du
 cases e:y.guard with
 |none=>rfl
 | some p=>
  have⟨j,b⟩:=p
  dsimp only
  cases hd:(ops[j]?).bind (·.dst)with
  |none=>rfl
  | some t=>
   have a:∀d',d=some d'->t≠d':=by
    intro d' w e2;subst e2;refine h t w (Le _ ?_)
    grind
   cases d with
   |none=>rfl
   |some d=>
    have:=a d rfl
    grind[Fr.put]
def Af7 {fr:Fr} {d e:OS Tmp} {v u:V} (h:∀t,d=some t->e≠some t):(fr.put d v).put e u=(fr.put e u).put d v:=by
 cases d with
 |none=>rfl
 | some d=>
  cases e with
  |none=>rfl
  |some e=>
   have a:d≠e:=λx=>h d rfl (by rw[x]);simp only[Fr.put,Fr.mk.injEq,P7]
   funext t
   grind
def UH (H:A6){a b:Nat}(x y:OS KB)(h:a≠b):upd (upd H a x) b y=upd (upd H b y) a x:=by
 funext t
 grind[upd]
end
inductive Pk where
 |inl (d:Nat)
 |inr (n:Nat)
 |tk (d:Nat)
 |ex
deriving DecidableEq
def Pk.var:Pk->Bool
 | .tk _=>false
 | .ex=>false
 |_=>true
abbrev Pv:=Pk->OS (Up V)
def U8 (pv:Pv)(d:Pk)(cs:Up V):Pv:=λx=>if x=d then some cs else pv x
def Af (pv:Pv):OS Tmp->Prop
 |some d=>pv (.inl d)=none/\pv (.tk d)=none
 |none=>True
def Ba (pv:Pv):OS Pk->Pv
 |some d=>λx=>if x=d then none else pv x
 |none=>pv
def Vr {pv:Pv}{s:OS Pk}{x:Pk}(h:pv x=none):Ba pv s x=none:=by
 cases s with
 |none=>exact h
 |some d=>simp_all[Ba]
theorem Fs {pv:Pv} {s:OS Pk} {x:Pk} {c:Up V} (h:Ba pv s x=some c):pv x=some c/\∀d,s=some d->x≠d:=by
 cases s with
 |none=>simp_all[Ba]
 |some d=>
  simp_all[Ba]
theorem Z0 {pv:Pv}{s:OS Pk}{x:Pk}(h:∀d,s=some d->x≠d):Ba pv s x=pv x:=by
 cases s with
 |none=>rfl
 |some d=>simp_all[Ba]
def Cl {pv:Pv} {d:Pk} {cs:Up V} {D:OS Tmp} (h:Af (U8 pv d cs) D):Af pv D:=by
 cases D with
 |none=>trivial
 |some e=>
  grind[Af,U8]
theorem Bv {pv:Pv} {d:Pk} {cs:Up V} {D:OS Tmp} (h:Af pv D) (a:∀e,D=some e->d≠ .inl e/\d≠ .tk e):Af (U8 pv d cs) D:=by
 cases D with
 |none=>trivial
 |some e=>
  have O:(Pk.inl e:Pk)≠d:=λx=>(a e rfl).1 x.symm;have Z:(Pk.tk e:Pk)≠d:=λx=>(a e rfl).2 x.symm
  grind[Af,U8]
theorem LI {pv:Pv}{s:OS Pk}{D:OS Tmp}(h:Af pv D):Af (Ba pv s) D:=by
 cases D with
 |none=>trivial
 |some e=>exact⟨Vr h.1,Vr h.2⟩
def Xf {pv:Pv} {s:OS Pk} {D:OS Tmp} (h:Af (Ba pv s) D) (a:∀e k,D=some e->s=some k->k≠ .inl e/\k≠ .tk e):Af pv D:=by
 cases D with
 |none=>trivial
 |some e=>
  refine⟨?_,?_⟩
  ·have:=h.1;rwa[Z0 λk W x=>(a e k rfl W).1 x.symm]at this
  have:=h.2;rwa[Z0 λk W x=>(a e k rfl W).2 x.symm]at this
def RZ (fr:Fr)(pv:Pv)(d:Nat)(k:Pk)(off:Nat)(cs:Up V):Prop:=
 (k= .inl d/\off=0/\pv (.inl d)=some cs)\/∃id,k= .inr id/\fr.s d= .ref id off/\pv (.inl d)=none/\pv (.inr id)=some cs
theorem RZ.at {fr:Fr}{pv:Pv}{d off:Nat}{k:Pk}{cs:Up V}(h:RZ fr pv d k off cs):pv k=some cs:=by
 rcases h with⟨rfl,_,h⟩|⟨id,rfl,_,_,h⟩<;>exact h
theorem RZ.put {fr:Fr} {pv:Pv} {d off:Nat} {k:Pk} {cs:Up V} {D:OS Tmp} {v:V} (a:∀e,D=some e->d≠e):RZ (fr.put D v) pv d k off cs<->RZ fr pv d k off cs:=by
 have:(fr.put D v).s d=fr.s d:=by
  cases D with
  |none=>rfl
  |some e=>simp_all[Fr.put]
 simp_all[RZ]
def RZ.set {fr:Fr}{pv:Pv}{d off:Nat}{k:Pk}{cs:Up V}{e:Nat}{c:Up V}(a:d≠e):RZ fr (U8 pv (.inl e) c) d k off cs<->RZ fr pv d k off cs:=by
 grind[RZ,U8]
section
variable {P:Program}{nt:Nat}{ops:Array Oper}{H0:A6}
def Ua (P:If)(ops:za1 Oper)(H0:A6)(o:Oper)(fr:Fr)(v:V):Prop:=
 match Du ops fr o with
 |some true=>QN P o (ev fr) H0 v
 |some false=>v= .tup []
 |none=>False
def AppC (P:If)(g h:Do)(xs ys a b:Up V):Prop:=∃e sz by_ z,HS P g=some e/\(HS P h).isSome=true/\HL P e=some sz/\0<sz/\SN P e=some by_/\0<by_/\KC P e=some z/\z.one=true/\z.cells.length=sz/\
 M2 xs a/\M2 ys b/\a.all (λx=>x.cells.length==sz)=true/\b.all (λx=>x.cells.length==sz)=true/\(a.length+b.length)*by_<=140737488355328
def Na (pv:Pv)(b:By)(a:J8):OS Pk->Prop
 |none=>a= .nil\/a= .full
 |some (.tk d)=>b= .tmp d/\a= .ro/\(pv (.tk d)).isSome=true
 |some .ex=>pv .ex=some [.sl [] a]
 |some _=>False
def Na.key {pv:Pv}{e:By}{b:J8}{a:OS Pk}(h:Na pv e b a):∀k,a=some k->(∃d,k= .tk d)\/k= .ex:=by
 intro k W;subst W
 cases k with
 |inl d=>exact h.elim
 |inr d=>exact h.elim
 |tk d=>simp_all
 |ex=>grind
def Na.ninl {pv:Pv}{g:By}{b:J8}{a:OS Pk}(h:Na pv g b a)(e:Nat):∀k,a=some k->Pk.inl e≠k:=by
 grind[Na]
def PApp (P:If)(o:Oper)(fr:Fr)(pv:Pv)(g:OS Pk)(u:V):Prop:=
 o.guard=none/\∃h l k n xs a ys i b e,o.op= .call {callee:=.builtin .append,args:= #[h,l],argTypes:= #[k,n]}/\ev fr h= .sl xs a/\ev fr l= .sl ys i/\Na pv h a g/\AppC P k n xs ys b e/\u= .sl (b++e) .ro
def Eff (P:If)(ops:za1 Oper)(H0:A6)(o:Oper)(fr:Fr)(pv:Pv)(u:V)(a:Pv):Prop:=
 (Bl7 o.op=false/\Rv o.op=false/\Ua P ops H0 o fr u/\a=pv)\/
 (∃t z d,o.op= .alloc t/\o.guard=none/\o.dst=some d/\KC P t=some z/\z.one=true/\u= .bad/\a=U8 pv (.inl d) z.cells)\/
 (∃t d y k off cs,o.op= .store t (.tmp d) y/\o.guard=none/\RZ fr pv d k off cs/\(ev fr y).one=true/\HL P t=some (ev fr y).cells.length/\off+(ev fr y).cells.length<=cs.length/\u= .bad/\a=U8 pv k (AF cs off (ev fr y).cells))\/
 (∃d b,o.dst=some d/\PApp P o fr pv b u/\a=U8 (Ba pv b) (.tk d) [])
def OL (P:If)(nt:Nat)(ops:za1 Oper)(H0:A6)(o:Oper)(fr:Fr)(pv:Pv)(K:Fr->Pv->Prop):Prop:=
 (Jt nt o.dst=true/\Af pv o.dst)/\∃u a,Eff P ops H0 o fr pv u a/\K (fr.put o.dst u) a
def Ms (P:If)(nt:Nat)(ops:za1 Oper)(H0:A6):Up Oper->Fr->Pv->(Fr->Pv->Prop)->Prop
 |[],fr,pv,K=>K fr pv
 |o::rest,fr,pv,K=>OL P nt ops H0 o fr pv λa b=>Ms P nt ops H0 rest a b K
def Wg {o:Oper}{fr:Fr}{pv:Pv}{K K':Fr->Pv->Prop}(h:OL P nt ops H0 o fr pv K)(W:∀fr pv,K fr pv->K' fr pv):OL P nt ops H0 o fr pv K':=
 let⟨O,u,a,Z,J⟩:=h;⟨O,u,a,Z,W _ _ J⟩
def Yt {o:Oper}{fr:Fr}{d:OS Tmp}{u v:V}(B:∀t,d=some t->t∉o.looksAt ops):Ua P ops H0 o (fr.put d u) v<->Ua P ops H0 o fr v:=by
 unfold Ua;rw[TF B];have Y:=Oy (fr:=fr) (v:=u) B
 grind[Ss]
def Fq (pv:Pv){a b:Pk}(x y:Up V)(h:a≠b):U8 (U8 pv a x) b y=U8 (U8 pv b y) a x:=by
 funext t
 grind[U8]
def JN (pv:Pv) {a:Pk} (x:Up V) {s:OS Pk} (h:∀d,s=some d->a≠d):Ba (U8 pv a x) s=U8 (Ba pv s) a x:=by
 cases s with
 |none=>rfl
 |some d=>
  funext t
  grind[Ba,U8]
def As6 (pv:Pv) (s a:OS Pk):Ba (Ba pv s) a=Ba (Ba pv a) s:=by
 cases s with
 |none=>rfl
 | some d=>
  cases a with
  |none=>rfl
  |some b=>
   funext t
   grind[Ba]
def MA {o:Oper}{t:Do}{e:Nat}{q:By}(z:o.op= .store t (.tmp e) q):e∈o.looksAt ops:=
 IM _ (List.mem_filterMap.2 ⟨.tmp e,by simp[z,Op.operands],rfl⟩)
theorem An6 {o:Oper}{e:Nat}{a:By}{b:za1 Do}(z:o.op= .call {callee:=.builtin .append,args:= #[.tmp e,a],argTypes:=b}):e∈o.looksAt ops:=
 IM _ (List.mem_filterMap.2 ⟨.tmp e,by simp[z,Op.operands,Call.operands],rfl⟩)
def Bo9 {o:Oper}{fr:Fr}{pv pv':Pv}{d:OS Tmp}{w u:V}(B:∀t,d=some t->t∉o.looksAt ops)(h:Eff P ops H0 o fr pv u pv'):Eff P ops H0 o (fr.put d w) pv u pv':=by
 have Y:=Oy (fr:=fr) (v:=w) B
 rcases h with⟨O,Z,J,s⟩|h|⟨t,e,y,k,off,cs,z,b,f,e2,L,e4,j,M⟩|⟨e,g,hd,⟨b,x,N,G,I,xs,i,ys,l,n,r,z,q,A,C,D,F⟩,p⟩
 ·exact .inl ⟨O,Z,(Yt B).2 J,s⟩
 ·grind[Eff]
 ·have m:ev (fr.put d w) y=ev fr y:=Y y (by simp[z,Op.operands]);refine .inr (.inr (.inl ⟨t,e,y,k,off,cs,z,b,(RZ.put λc a eq=>B c a (eq▸MA z)).2 f,?_,?_,?_,j,?_⟩))<;>rw[m]<;>assumption
 refine .inr (.inr (.inr ⟨e,g,hd,⟨b,x,N,G,I,xs,i,ys,l,n,r,z,?_,?_,C,D,F⟩,p⟩))
 ·rw[Y x (by simp[z,Op.operands,Call.operands])];exact q
 rw[Y N (by simp[z,Op.operands,Call.operands])];exact A
def AQ0 {o:Oper} {fr:Fr} {pv pv':Pv} {d:OS Tmp} {w u:V} (B:∀t,d=some t->t∉o.looksAt ops) (h:Eff P ops H0 o (fr.put d w) pv u pv'):Eff P ops H0 o fr pv u pv':=by
 have Y:=Oy (fr:=fr) (v:=w) B
 rcases h with⟨O,Z,J,s⟩|h|⟨t,e,y,k,off,cs,z,b,A,e2,x,e4,C,N⟩|⟨e,g,hd,⟨b,j,p,L,M,xs,i,ys,l,n,r,z,c,f,F,G,I⟩,D⟩
 ·exact .inl ⟨O,Z,(Yt B).1 J,s⟩
 ·simp_all[Eff]
 ·have m:ev (fr.put d w) y=ev fr y:=Y y (by simp[z,Op.operands])
  rw[m]at e2 x e4 N
  exact .inr (.inr (.inl ⟨t,e,y,k,off,cs,z,b,(RZ.put λq a eq=>B q a (eq▸MA z)).1 A,e2,x,e4,C,N⟩))
 refine .inr (.inr (.inr ⟨e,g,hd,⟨b,j,p,L,M,xs,i,ys,l,n,r,z,?_,?_,F,G,I⟩,D⟩))
 ·rw[Y j (by simp[z,Op.operands,Call.operands])]at c;exact c
 rw[Y p (by simp[z,Op.operands,Call.operands])]at f;exact f
def Aj9 {pv:Pv}{D:OS Tmp}{d:Nat}(h:Af pv D)(e:D=some d):pv (.inl d)=none:=by grind[Af]
def RZ.key {fr:Fr}{pv:Pv}{d off:Nat}{k:Pk}{cs:Up V}(h:RZ fr pv d k off cs)(e:Nat):k≠ .tk e:=by
 rcases h with⟨rfl,_,_⟩|⟨id,rfl,_⟩<;>simp
def RZ.keyx {fr:Fr}{pv:Pv}{d off:Nat}{k:Pk}{cs:Up V}(h:RZ fr pv d k off cs):k≠ .ex:=by
 rcases h with⟨rfl,_,_⟩|⟨id,rfl,_⟩<;>simp
def RZ.nsrc {fr:Fr}{pv b:Pv}{d off:Nat}{k:Pk}{cs:Up V}{i:By}{g:J8}{a:OS Pk}(h:RZ fr pv d k off cs)(l:Na b i g a):∀e,a=some e->k≠e:=by
 grind[RZ,Na]
def RZ.congr {fr:Fr}{pv a:Pv}{d off:Nat}{k:Pk}{cs:Up V}(h:RZ fr pv d k off cs)(O:a (.inl d)=pv (.inl d))(Z:a k=pv k):RZ fr a d k off cs:=by
 grind[RZ]
def Na.congr {pv a:Pv} {e:By} {b:J8} {src:OS Pk} (h:Na pv e b src) (O:∀d,src=some d->a d=pv d):Na a e b src:=by
 cases src with
 |none=>exact h
 |some d=>
  cases d with
  |inl d=>exact h
  |inr d=>exact h
  |tk d=>simp_all[Na]
  |ex=>simp_all[Na]
theorem K9 {pv:Pv}{a b:Pk}{x:Up V}(h:b≠a):U8 pv a x b=pv b:=by simp[U8,h]
def Be3 {x y:Oper} {fr:Fr} {pv ae af:Pv} {u v:V} (U:OD ops x y=true) (M:Eff P ops H0 x fr pv u ae) (m:Eff P ops H0 y fr ae v af) (D:Af pv x.dst) (fy:Af ae y.dst):
 ∃ag,Eff P ops H0 y fr pv v ag/\Eff P ops H0 x fr ag u af/\Af pv y.dst/\Af ag x.dst:=by
 simp only[OD,K0,Fh]at U
 have⟨al,ay⟩:=U;have⟨a1,a2,a3⟩:=Oper.apart_spec al
 rcases M with⟨x1,x2,x3,rfl⟩|⟨t,z,d,j,C,hd,w,e2,S,rfl⟩|⟨t,d,p,k,off,cs,j,C,w,e2,S,e4,e5,rfl⟩|⟨d,f,hd,hP,rfl⟩
 ·
  refine⟨af,m,.inl ⟨x1,x2,x3,rfl⟩,fy,?_⟩
  rcases m with⟨_,_,_,rfl⟩|⟨t,z,d,j,C,hd,w,e2,S,rfl⟩|⟨t,d,p,k,off,cs,j,C,w,e2,S,e4,e5,rfl⟩|⟨d,f,hd,hP,rfl⟩
  ·exact D
  ·grind[Bv]
  ·refine Bv D λe Y=>⟨λx=>?_,w.key e⟩
   have:=w.at;rw[x,Aj9 D Y]at this;cases this
  grind[Bv,LI]
 ·
  rcases m with⟨y1,y2,y3,rfl⟩|⟨Z,z',d',a,b,g,h,A,B,rfl⟩|⟨Z,d',p',k',s,cs',a,b,h,A,B,ab,ac,rfl⟩|⟨d',src',g,F,rfl⟩
  ·exact⟨pv,.inl ⟨y1,y2,y3,rfl⟩,.inr (.inl ⟨t,z,d,j,C,hd,w,e2,S,rfl⟩),Cl fy,D⟩
  ·have ad:(Pk.inl d':Pk)≠ .inl d:=λe=>a2 d hd (by rw[g];cases e;rfl)
   exact⟨_,.inr (.inl ⟨Z,z',d',a,b,g,h,A,B,rfl⟩),.inr (.inl ⟨t,z,d,j,C,hd,w,e2,S,Fq _ _ _ (Ne.symm ad)⟩),Cl fy,
    Bv D λe Y=>⟨λx=>by rw[hd]at Y;simp_all,za4⟩⟩
  ·have ad:d'≠d:=λe=>a1 d hd (e▸MA a)
   have W:k'≠ .inl d:=λe=>by
    rcases h with⟨q,_⟩|⟨id,q,_⟩
    ·rw[q]at e;simp_all
    simp_all
   have hT:RZ fr pv d' k' s cs':=h.congr (by rw[K9 λe=>za8]) (by rw[K9 W])
   exact⟨_,.inr (.inr (.inl ⟨Z,d',p',k',s,cs',a,b,hT,A,B,ab,ac,rfl⟩)),.inr (.inl ⟨t,z,d,j,C,hd,w,e2,S,Fq _ _ _ (Ne.symm W)⟩),Cl fy,
    Bv D λe Y=>⟨λx=>by rw[hd]at Y;simp_all,hT.key e⟩⟩
  have⟨b,J,L,I,R,xs,i,ys,l,n,r,a,q1,q2,N,q4,q5⟩:=F;refine⟨_,.inr (.inr (.inr ⟨d',src',g,⟨b,J,L,I,R,xs,i,ys,l,n,r,a,q1,q2,N.congr λe Y=>(by rw[K9 λx=>N.ninl d e Y x.symm]),q4,q5⟩,rfl⟩)),.inr (.inl ⟨t,z,d,j,C,hd,w,e2,S,?_⟩),Cl fy,?_⟩
  ·rw[JN _ _ (N.ninl d),Fq _ _ _ za4]
  grind[Bv,LI]
 ·
  rcases m with⟨y1,y2,y3,rfl⟩|⟨Z,z',d',a,b,g,h,A,B,rfl⟩|⟨Z,d',p',k',s,cs',a,_⟩|⟨d',src',g,F,rfl⟩
  ·exact⟨pv,.inl ⟨y1,y2,y3,rfl⟩,.inr (.inr (.inl ⟨t,d,p,k,off,cs,j,C,w,e2,S,e4,e5,rfl⟩)),Cl fy,D⟩
  ·have ad:d≠d':=λe=>a3 d' g (e▸MA j)
   have W:k≠ .inl d':=λe=>by
    rcases w with⟨q,_⟩|⟨id,q,_⟩
    ·rw[q]at e;simp_all
    simp_all
   have hT:RZ fr (U8 pv (.inl d') z'.cells) d k off cs:=w.congr (by rw[K9 λe=>za8]) (by rw[K9 W])
   exact⟨_,.inr (.inl ⟨Z,z',d',a,b,g,h,A,B,rfl⟩),.inr (.inr (.inl ⟨t,d,p,k,off,cs,j,C,hT,e2,S,e4,e5,Fq _ _ _ W⟩)),Cl fy,
    Bv D λe Y=>⟨λx=>za8,za4⟩⟩
  ·grind[Rv]
  have⟨b,J,L,I,R,xs,i,ys,l,n,r,a,q1,q2,N,q4,q5⟩:=F;have W:∀e,k≠ .tk e:=w.key;have hn:=w.nsrc N;have hT:RZ fr (U8 (Ba pv src') (.tk d') []) d k off cs:=w.congr (by rw[K9 za4,Z0 (N.ninl d)]) (by rw[K9 (W _),Z0 hn]);refine⟨_,.inr (.inr (.inr ⟨d',src',g,⟨b,J,L,I,R,xs,i,ys,l,n,r,a,q1,q2,N.congr λe Y=>(by rw[K9 λx=>hn e Y x.symm]),q4,q5⟩,rfl⟩)),.inr (.inr (.inl ⟨t,d,p,k,off,cs,j,C,hT,e2,S,e4,e5,?_⟩)),Cl fy,?_⟩
  ·rw[JN _ _ hn,Fq _ _ _ (W _)]
  grind[Bv,LI]
 have av:∀k,f=some k->(∃e,k= .tk e)\/k= .ex:=by
  have⟨_,J,L,I,R,xs,i,ys,l,n,r,j,_,_,N,_⟩:=hP;exact N.key
 have aw:∀e,f=some (.tk e)->e∈x.looksAt ops:=λe Y=>by
  subst Y;have⟨_,J,L,I,R,xs,i,ys,l,n,r,j,_,_,N,_⟩:=hP;obtain⟨rfl,_⟩:=N;exact An6 j
 have aa:Af pv y.dst:=Xf (Cl fy) λe k Y W=>by
  grind
 rcases m with⟨y1,y2,y3,rfl⟩|⟨Z,z',d',a,b,g,h,A,B,rfl⟩|⟨Z,d',p',k',s,cs',a,b,h,A,B,ab,ac,rfl⟩|⟨d',src',g,F,rfl⟩
 ·exact⟨pv,.inl ⟨y1,y2,y3,rfl⟩,.inr (.inr (.inr ⟨d,f,hd,hP,rfl⟩)),aa,D⟩
 ·have⟨C,J,L,I,R,xs,i,ys,l,n,r,j,q1,q2,N,q4,q5⟩:=hP;refine⟨_,.inr (.inl ⟨Z,z',d',a,b,g,h,A,B,rfl⟩),.inr (.inr (.inr ⟨d,f,hd,⟨C,J,L,I,R,xs,i,ys,l,n,r,j,q1,q2,N.congr λe Y=>(by rw[K9 λx=>N.ninl d' e Y x.symm]),q4,q5⟩,?_⟩)),aa,Bv D λe Y=>⟨λx=>za8,za4⟩⟩;rw[JN _ _ (N.ninl d'),Fq _ _ _ za4]
 ·have⟨C,J,L,I,R,xs,i,ys,l,n,r,j,q1,q2,N,q4,q5⟩:=hP;have W:∀e,k'≠ .tk e:=h.key;have hn:=h.nsrc N;have hT:RZ fr pv d' k' s cs':=h.congr (by rw[K9 za4,Z0 (N.ninl d')]) (by rw[K9 (W _),Z0 hn]);refine⟨_,.inr (.inr (.inl ⟨Z,d',p',k',s,cs',a,b,hT,A,B,ab,ac,rfl⟩)),.inr (.inr (.inr ⟨d,f,hd,⟨C,J,L,I,R,xs,i,ys,l,n,r,j,q1,q2,N.congr λe Y=>(by rw[K9 λx=>hn e Y x.symm]),q4,q5⟩,?_⟩)),aa,Bv D λe Y=>⟨λx=>?_,W e⟩⟩
  ·rw[JN _ _ hn,Fq _ _ _ (W _)]
  have:=hT.at;rw[x,Aj9 D Y]at this;cases this
 have⟨C,J,L,I,R,xs,i,ys,l,n,r,j,q1,q2,N,q4,q5⟩:=hP;have⟨b,ah,ap,ao,ar,aq,O,au,ai,aj,ak,a,r1,r2,r3,r4,r5⟩:=F;have ax:d≠d':=λe=>a2 d hd (by rw[g,e])
 have n1:∀k,src'=some k->k≠ .tk d:=λk Y eq=>by
  subst Y;subst eq;obtain⟨rfl,_⟩:=r3
  grind[An6]
 have n2:∀k,f=some k->k≠ .tk d':=λk Y eq=>za8
 have n3:∀k,src'=some k->f≠some k:=λk Y am=>by
  subst Y;subst am
  have G:U8 (Ba pv (some k)) (.tk d) [] k=none:=by
   rw[K9 (n1 k rfl)];simp[Ba]
  rcases r3.key k rfl with⟨e,rfl⟩|rfl
  ·have:=r3.2.2;rw[G]at this;cases this
  have:U8 (Ba pv (some .ex)) (.tk d) [] .ex=some [.sl [] O]:=r3
  rw[G]at this;cases this
 have an:Na pv ah O src':=r3.congr λk Y=>by
  rw[K9 (n1 k Y),Z0 λc X x=>za8]
 refine⟨_,.inr (.inr (.inr ⟨d',src',g,⟨b,ah,ap,ao,ar,aq,O,au,ai,aj,ak,a,r1,r2,an,r4,r5⟩,rfl⟩)),.inr (.inr (.inr ⟨d,f,hd,⟨C,J,L,I,R,xs,i,ys,l,n,r,j,q1,q2,N.congr λk Y=>?_,q4,q5⟩,?_⟩)),aa,?_⟩
 ·rw[K9 (n2 k Y),Z0 λc X x=>za8]
 ·rw[JN _ _ λk Y x=>n1 k Y x.symm,JN _ _ λk Y x=>n2 k Y x.symm,As6 pv f src',Fq _ _ _ (λx=>za8)]
 grind[Bv,LI]
def Aw1 {x y:Oper}{fr:Fr}{pv:Pv}{K:Fr->Pv->Prop}(U:OD ops x y=true)(h:OL P nt ops H0 x fr pv λb a=>OL P nt ops H0 y b a K):
 OL P nt ops H0 y fr pv λb a=>OL P nt ops H0 x b a K:=by
 have e:=U
 simp only[OD,K0,Fh]at e
 have⟨r,t,N⟩:=Oper.apart_spec e.1;have⟨⟨hd,c⟩,u,a,O,⟨g,i⟩,v,k,Z,n⟩:=h;have⟨l,d,f,j,m⟩:=Be3 U O (AQ0 r Z) c i;refine⟨⟨g,j⟩,v,l,d,⟨hd,m⟩,u,k,Bo9 N f,?_⟩
 rw[Af7 t]at n
 exact n
def Al4 {pre a:Up Oper} {o:Oper} {K:Fr->Pv->Prop} (U:∀x∈pre,OD ops x o=true):∀{fr:Fr} {pv:Pv},Ms P nt ops H0 (pre++o::a) fr pv K->Ms P nt ops H0 (o::(pre++a)) fr pv K:=by
 induction pre with
 |nil=>simp_all
 |cons x pre ih=>
  intro fr pv h;have O:OL P nt ops H0 x fr pv λb e=>Ms P nt ops H0 (o::(pre++a)) b e K:=Wg h λ_ _ h=>ih (λy m=>U y (by simp[m])) h;exact Aw1 (U x za4) O
end
section
variable {P:Program}{nt:Nat}{ops:Array Oper}{H0:A6}
def VR.ref_inv {g:Gh}{w:Is}{v:HO}{id off:Nat}(h:VR g w v (.ref id off)):∃b,v= .pointer (some ⟨b,off,none⟩)/\g.mu id=some b:=by
 cases h with
 |ref a=>simp_all
def AG4 (fr:Fr)(g:Gh)(a:Act)(id:Nat):Pk->Prop
 | .inl d=>fr.s d= .bad/\∃b,g.mu id=some b/\a.tmps.getD d undef= .pointer (some ⟨b,0,none⟩)
 | .inr n=>id=n
 | .tk _=>True
 | .ex=>True
def Bo1 (fr:Fr)(g:Gh)(w:Is)(a:Act)(H H0:A6)(b:OS Nat)(d:Nat):Prop:=
 ∃xs tl,fr.s d= .sl xs .ro/\VR g w (a.tmps.getD d undef) (.sl xs tl)/\((b=none/\(tl= .nil\/tl= .full))\/∃t,b=some t/\tl= .tok t/\H t=some .spare/\H0 t=none)
def Ay3 (nt:Nat) (H0:A6) (g0:Gh) (w0:Is) (fr:Fr) (pv:Pv) (g:Gh) (w:Is) (a:Act):Prop:=
 ∃ (H:A6) (e:Pk->Nat),Aw g0 w0 g w/\Rl g H w/\FR nt g w a fr/\(∀id b,H0 id=some b->H id=some b)/\
  (∀d cs,pv d=some cs->d.var=true->H (e d)=some (.cells cs)/\H0 (e d)=none/\AG4 fr g a (e d) d)/\
  (∀d i cs cs',pv d=some cs->pv i=some cs'->d.var=true->i.var=true->e d=e i->d=i)/\
  ∃h:Nat->OS Nat,(∀d cs,pv (.tk d)=some cs->Bo1 fr g w a H H0 (h d) d)/\
   (∀d i cs cs' t,pv (.tk d)=some cs->pv (.tk i)=some cs'->h d=some t->h i=some t->d=i)/\
   ∀cs,pv .ex=some cs->∃k,cs=[.sl [] k]/\((k= .nil\/k= .full)\/∃t,k= .tok t/\H t=some .spare/\H0 t=none/\∀d cs',pv (.tk d)=some cs'->h d≠some t)
def Ab7 {a:Act} {D:OS Tmp} {v:HO} {d:Nat} (h:D≠some d):(a.put D v).tmps.getD d undef=a.tmps.getD d undef:=by
 cases D with
 |none=>rfl
 |some e=>
  have b:e≠d:=λx=>h (by rw[x]);simp only[Act.put,Q9,HX];rw[A1 b]
def PN {a:Act}{d:Nat}{v:HO}(h:d<a.tmps.size):(a.put (some d) v).tmps.getD d undef=v:=by
 simp[Act.put,Array.getD,h]
def TA {fr:Fr} {D:OS Tmp} {v:V} {d:Nat} (h:D≠some d):(fr.put D v).s d=fr.s d:=by
 cases D with
 |none=>rfl
 |some e=>
  have a:d≠e:=λx=>h (by rw[x])
  grind[Fr.put]
def BA6 {pv:Pv}{D:OS Tmp}{d:Nat}{cs:Up V}(a:Af pv D)(h:pv (.inl d)=some cs):D≠some d:=by
 grind[Af]
def YX {pv:Pv}{D:OS Tmp}{d:Nat}{cs:Up V}(a:Af pv D)(h:pv (.tk d)=some cs):D≠some d:=by
 grind[Af]
def Bo1.keep {D:OS Tmp}{fr:Fr}{g g':Gh}{w w':Is}{a:Act}{H H' H0:A6}{e:OS Nat}{d:Nat}{x:V}{u:HO}(W:Bo1 fr g w a H H0 e d)(b:D≠some d)(s:Aw g w g' w')(l:∀t,e=some t->H t=some .spare->H' t=some .spare):Bo1 (fr.put D x) g' w' (a.put D u) H' H0 e d:=by
 have⟨xs,tl,O,Z,J⟩:=W;refine⟨xs,tl,(TA b).trans O,by rw[Ab7 b];exact Z.mono s,J.imp (λh=>h) λ⟨t,i,e2,k,e4⟩=>⟨t,i,e2,l t i k,e4⟩⟩
def AG4.keep {pv:Pv} {D:OS Tmp} {fr:Fr} {g g':Gh} {w w':Is} {a:Act} {id:Nat} {k:Pk} {cs:Up V} {x:V} {u:HO} (W:AG4 fr g a id k) (i:Af pv D) (h:pv k=some cs) (s:Aw g w g' w'):AG4 (fr.put D x) g' (a.put D u) id k:=by
 cases k with
 |inl d=>
  have⟨l,b,r,t⟩:=W;have e:=BA6 i h;exact⟨(TA e).trans l,b,s.mu _ _ r,(Ab7 e).trans t⟩
 |inr n=>exact W
 |tk n=>trivial
 |ex=>trivial
def HC {D:OS Tmp}(h:Jt nt D=true):∀t,D=some t->t<nt:=by
 grind[Jt]
def AO9 {r:OS Nat} {g0 g:Gh} {w0 w:Is} {a:Act} {o:Oper} {fr:Fr} {pv:Pv} {K:Fr->Pv->Prop} {next:Act->Is->Prop} {Q:Exit->Act->Is->Prop} (hI:Ay3 nt H0 g0 w0 fr pv g w a)
 (h:OL P nt ops H0 o fr pv K) (hn:∀g' w' a' a5 bg,Ay3 nt H0 g0 w0 a5 bg g' w' a'->K a5 bg->next a' w'):
 if Region.wanted o (yielded ops a.tmps)then o.wpIn (Fw r) 0 P a w next Q else(∀f,o.about P w a.eval=some f->(Fw r).fn f)/\next (a.put o.dst undef) w:=by
 have⟨H,v,s,F,hF,B,ai,ah,ag,al,a4,an⟩:=hI;have⟨⟨hd,i⟩,u0,bt,h,hK⟩:=h
 rcases h with⟨o1,o2,hq,rfl⟩|⟨t,z,d,ho,hg,l,e2,e3,rfl,rfl⟩|⟨t,d,y,key,off,cs,ho,hg,l,e2,e3,e4,rfl,rfl⟩|⟨dd,aq,a1,⟨hg,sx,sy,sT,yT,xs,ax,ys,tly,ar,au,ho,q1,q2,q3,q4,rfl⟩,rfl⟩
 ·
  have keep:∀{g':Gh} {w':Is} {u:HO} {x:V},Aw g w g' w'->Rl g' H w'->VR g' w' u x->Ay3 nt H0 g0 w0 (fr.put o.dst x) bt g' w' (a.put o.dst u):=by
   intro g' w' u x S aa q;refine⟨H,v,s.trans S,aa,(hF.mono S).put (HC hd) q,B,λd cs D m=>?_,ah,ag,λd cs D=>(al d cs D).keep (YX i D) S λ_ _ h=>h,a4,an⟩;have⟨k1,k2,k3⟩:=ai d cs D m;exact⟨k1,k2,k3.keep i D S⟩
  unfold Ua at hq
  split at hq
  ·rename_i a2;rw[A2 (Bm hF.s a2)];refine⟨λ_ _=>trivial,?_⟩
   have bo:∀c,o.op≠ .defer c:=by
    grind[QN]
   rw[GP _ _ _ bo];refine Kd (Pg (AV7 B hq) (K:=λx H'=>x=u0/\H'=H) ⟨rfl,rfl⟩ g w a F hF.s) λu w' ⟨g',x,H',S,aa,q,M,hH⟩=>?_;subst M;subst hH;exact hn _ _ _ _ _ (keep S aa q) hK
  ·rename_i a2;rw[A1 (by rw[Bm hF.s a2];simp)];subst hq;exact⟨λ_ _=>trivial,hn _ _ _ _ _ (keep (Aw.refl _ _) F (VR.und _ _)) hK⟩
  grind
 ·
  have R:Region.wanted o (yielded ops a.tmps)=true:=by simp[Region.wanted,hg]
  rw[A2 R];refine⟨λ_ _=>trivial,?_⟩;rw[GP _ _ _ (by intro c X;rw[ho]at X;cases X)];have⟨zv,ez,bs⟩:=FF e2
  have hr:VR g w zv z:=by rw[ez];grind[GI]
  have⟨g',id,ao,S,aa,br⟩:=LP F t hr e3
  have ay:H0 id=none:=by
   cases M:H0 id with
   |none=>rfl
   |some b=>rw[B _ _ M]at ao;cases ao
  have bn:g'.mu id=some w.heap.size:=by
   have⟨b,e,hm⟩:=br.ref_inv;cases e;exact hm
  have bb:(execOp a.eval o).run P w= .ok (.value (.pointer (some ⟨w.heap.size,0,none⟩))) (w.alloc (.cells zv.cells t)):=by
   unfold execOp;rw[ho];simp only[Instr.alloc,C0,bs,B7];rfl
  rw[bb];refine hn g' _ _ (fr.put o.dst .bad) _ ⟨_,λx=>if x= .inl d then id else v x,s.trans S,aa,(hF.mono S).put (HC hd) (.bad _),λx b M=>?_,λx cs M m=>?_,λx x' cs cs' M N v1 v2 am=>?_,ag,λx cs M=>?_,λx x' cs cs' t M N=>?_,λcs M=>?_⟩ hK
  ·have p:x≠id:=λe=>by subst e;rw[ay]at M;cases M
   rw[D3 _ _ p];exact B _ _ M
  ·by_cases ae:x= .inl d
   ·subst ae
    simp only[U8,D8,E7]at M
    subst M;simp only[D8];refine⟨G4 _ _ _,ay,by rw[l];simp[Fr.put],w.heap.size,bn,?_⟩;rw[l];exact PN (by rw[hF.size];exact HC hd _ l)
   simp only[U8,A1 ae]at M
   have⟨k1,k2,k3⟩:=ai x cs M m;simp only[A1 ae]
   have p:v x≠id:=λe=>by rw[e,ao]at k1;cases k1
   exact⟨(D3 _ _ p).trans k1,k2,k3.keep i M S⟩
  ·by_cases O:x= .inl d<;>by_cases Z:x'= .inl d
   ·rw[O,Z]
   ·simp_all[U8]
   ·simp only[A1 O,A2 Z]at am
    simp only[U8,A1 O]at M
    have:=(ai x cs M v1).1
    rw[am,ao]at this;cases this
   simp only[A1 O,A1 Z]at am
   simp only[U8,A1 O]at M
   simp only[U8,A1 Z]at N
   exact ah _ _ _ _ M N v1 v2 am
  ·rw[K9 za4]at M
   refine(al x cs M).keep (YX i M) S λt _ h=>?_;rw[D3 _ _ λe=>by subst e;rw[ao]at h;cases h];exact h
  ·rw[K9 za4]at M N
   exact a4 x x' cs cs' t M N
  grind[upd,U8]
 ·
  have R:Region.wanted o (yielded ops a.tmps)=true:=by simp[Region.wanted,hg]
  rw[A2 R];refine⟨λ_ _=>trivial,?_⟩;rw[GP _ _ _ (by intro c X;rw[ho]at X;cases X)]
  have a3:=l.at
  have ba:key.var=true:=by rcases l with⟨rfl,_⟩|⟨id,rfl,_⟩<;>rfl
  have⟨k1,k2,k3⟩:=ai key cs a3 ba
  have⟨G,a0,a7,a8⟩:∃G,ER g w a G/\ev G (.tmp d)= .ref (v key) off/\ev G y=ev fr y:=by
   rcases l with⟨rfl,rfl,hp⟩|⟨id,rfl,C,_,hp⟩
   ·have⟨k3,b,k4,k5⟩:=k3
    have aw:y≠ .tmp d:=by
     grind[ev,V.one]
    refine⟨fr.put (some d) (.ref (v (.inl d)) 0),λx=>?_,by simp[ev,Fr.put],Av7 λt j e=>aw (by rw[e];cases j;rfl)⟩;simp only[Fr.put]
    split
    ·rename_i e;subst e;rw[k5];exact .ref k4
    exact hF.s x
   have k3:v (.inr id)=id:=k3;exact⟨fr,hF.s,by simp_all[ev],rfl⟩
  have bq:Qi P H t (ev G (.tmp d)) (ev G y)=some (upd H (v key) (some (.cells (AF cs off (ev fr y).cells)))):=by
   rw[a8,a7]
   simp_all[Qi]
  refine Kd (Xu ho (λ_ _ _ h=>h) bq (K:=λx H'=>H'=upd H (v key) (some (.cells (AF cs off (ev fr y).cells)))) rfl g w a F a0) λu w' ⟨g',x,H',S,aa,q,hH⟩=>?_;subst hH;refine hn g' w' _ (fr.put o.dst .bad) _ ⟨_,v,s.trans S,aa,(hF.mono S).put (HC hd) (.bad _),λx b M=>?_,λx cs' M m=>?_,λx x' bu bv M N v1 v2 am=>?_,ag,λx cs M=>?_,λx x' cs cs' t M N=>?_,λcs M=>?_⟩ hK
  ·have p:x≠v key:=λe=>by rw[e,k2]at M;cases M
   rw[D3 _ _ p];exact B _ _ M
  ·by_cases ae:x=key
   ·subst ae
    simp only[U8,D8,E7]at M
    subst M;exact⟨G4 _ _ _,k2,k3.keep i a3 S⟩
   simp only[U8,A1 ae]at M
   have⟨j1,j2,j3⟩:=ai x cs' M m;have p:v x≠v key:=λe=>ae (ah _ _ _ _ M a3 m ba e);exact⟨(D3 _ _ p).trans j1,j2,j3.keep i M S⟩
  ·have back:∀{x:Pk} {c:Up V},U8 pv key (AF cs off (ev fr y).cells) x=some c->∃c',pv x=some c':=by
    grind[U8]
   have⟨_,M⟩:=back M;have⟨_,N⟩:=back N;exact ah _ _ _ _ M N v1 v2 am
  ·rw[K9 λe=>l.key x e.symm]at M
   refine(al x _ M).keep (YX i M) S λt _ h=>?_;rw[D3 _ _ λe=>by subst e;rw[k1]at h;cases h];exact h
  ·rw[K9 λe=>l.key x e.symm]at M
   rw[K9 λe=>l.key x' e.symm]at N
   exact a4 x x' _ _ t M N
  rw[K9 λe=>l.keyx e.symm]at M
  grind[D3,K9]
 have R:Region.wanted o (yielded ops a.tmps)=true:=by simp[Region.wanted,hg]
 rw[A2 R];refine⟨λ_ _=>trivial,?_⟩;rw[GP _ _ _ (by intro c X;rw[ho]at X;cases X)];have⟨e,sz,by_,z,c1,c2,c3,c4,c5,c6,c7,c8,c9,l1,l2,c10,c11,c12⟩:=q4
 have⟨G,tl,az,a0,O,Z,hA,U⟩:∃G tl az,ER g w a G/\ev G sx= .sl xs tl/\ev G sy= .sl ys az/\Jx H tl/\
  ∀t,tl= .tok t->H t=some .spare/\H0 t=none/\(∀d cs,Ba pv aq (.tk d)=some cs->ag d≠some t)/\∀τ,Ba pv aq .ex=some [.sl [] τ]->τ≠ .tok t:=by
  rcases aq with _|⟨d⟩|⟨d⟩|⟨d⟩|_
  ·exact⟨fr,ax,tly,hF.s,q1,q2,(by rcases q3 with rfl|rfl<;>trivial),λt j=>by rcases q3 with h|h<;>rw[h]at j<;>cases j⟩
  ·exact q3.elim
  ·exact q3.elim
  rotate_left
  ·have q3:pv .ex=some [.sl [] ax]:=q3;have⟨τ,l,e2⟩:=an _ q3
   have l:ax=τ:=by cases l;rfl
   subst l;refine⟨fr,ax,tly,hF.s,q1,q2,?_,λt j=>?_⟩
   ·grind[Jx]
   grind[Ba]
  obtain⟨rfl,rfl,q5⟩:=q3;have⟨bh,bj⟩:=Option.isSome_iff_exists.1 q5;have⟨xs2,tl,t1,t2,t3⟩:=al d bh bj
  have ex:xs2=xs:=by
   have:fr.s d= .sl xs .ro:=q1
   rw[t1]at this;cases this;rfl
  subst ex
  have hA:Jx H tl:=by
   grind[Jx]
  have bc:∀t,tl= .tok t->H t=some .spare/\H0 t=none/\(∀d' cs,Ba pv (some (.tk d)) (.tk d')=some cs->ag d'≠some t)/\∀τ,Ba pv (some (.tk d)) .ex=some [.sl [] τ]->τ≠ .tok t:=by
   grind[Ba]
  by_cases aw:sy= .tmp d
  ·subst aw
   have:ys=xs2:=by
    have l:fr.s d= .sl ys tly:=q2
    rw[t1]at l;cases l;rfl
   subst this
   exact⟨fr.put (some d) (.sl ys tl),tl,tl,λx=>(by
    simp only[Fr.put];split
    ·rename_i e;subst e;exact t2
    exact hF.s x),by simp[ev,Fr.put],by simp[ev,Fr.put],hA,bc⟩
  exact⟨fr.put (some d) (.sl xs2 tl),tl,tly,λx=>(by
   simp only[Fr.put];split
   ·rename_i e;subst e;exact t2
   exact hF.s x),by simp[ev,Fr.put],by rw[Av7 λt j e=>aw (by rw[e];cases j;rfl)];exact q2,hA,bc⟩
 have bd:=Qk (P:=P) (K:=λx H'=>∃zs I,DK x (.sl (ar++au) I)/\zs=ar++au/\((ys=[]/\I=tl/\H'=H)\/∃t,I= .tok t/\H6 H tl t=none/\H'=upd (H6 H tl) t (some .spare))) ho O Z c1 c2 c3 c4 c5 c6 c7 c8 c9 hA (l1.sz c10) (l2.sz c11) (by rw[l1.length,l2.length];exact c12)
  (λe=>⟨_,tl,by subst e;cases l2;rw[E5];exact .slt _ l1,rfl,.inl ⟨e,rfl,rfl⟩⟩) (λt _ j=>⟨_,.tok t,.slt _ (l1.append l2),rfl,.inr ⟨t,rfl,j,rfl⟩⟩)
 refine Kd (bd g w a F a0) λu w' ⟨g',x,H',S,aa,q,zs,I,hle,_,ab⟩=>?_;have q:=q.le hle;have bf:VR g' w' u (.sl (ar++au) .ro):=Wk.ro _ _ _ _ _ q
 have ap:∀id b,H id=some b->b≠ .spare->H' id=some b:=λid b A p=>by
  rcases ab with⟨_,_,rfl⟩|⟨t,_,j,rfl⟩
  ·exact A
  have ad:H6 H tl id=some b:=by
   cases tl with
   |tok t0=>
    have:id≠t0:=λe=>by subst e;rw[show H id=some .spare from hA]at A;cases A;exact p rfl
    simp only[H6];rw[D3 _ _ this];exact A
   |_=>exact A
  rw[D3 _ _ λe=>by subst e;rw[j]at ad;cases ad];exact ad
 have af:∀t,H t=some .spare->tl≠ .tok t->H' t=some .spare:=λt A p=>by
  rcases ab with⟨_,_,rfl⟩|⟨t1,_,j,rfl⟩
  ·exact A
  have ad:H6 H tl t=some .spare:=by
   cases tl with
   |tok t0=>
    simp only[H6];rw[D3 _ _ λe=>by subst e;exact p rfl];exact A
   |_=>exact A
  rw[D3 _ _ λe=>by subst e;rw[j]at ad;cases ad];exact ad
 have bi:∀id b,H0 id=some b->H' id=some b:=λid b A=>by
  by_cases aj:b= .spare
  ·subst aj;refine af id (B _ _ A) λe=>?_;have:=(U id e).2.1
   rw[this]at A;cases A
  exact ap id b (B _ _ A) aj
 let n:Nat->OS Nat:=λx=>if x=dd then(match I with| .tok t=>some t|_=>none)else ag x
 have a6:dd<nt:=HC hd dd a1
 have ac:∀t,I= .tok t->H' t=some .spare/\H0 t=none/\(∀d cs,Ba pv aq (.tk d)=some cs->ag d=some t->False)/\∀τ,Ba pv aq .ex=some [.sl [] τ]->τ≠ .tok t:=λt j=>by
  rcases ab with⟨e0,l,rfl⟩|⟨t1,l,be,rfl⟩
  ·rw[l]at j
   have⟨J,h4,h5,h6⟩:=U t j
   grind
  rw[l]at j;cases j
  have drop:∀x b,H x=some b->(∀t0,tl= .tok t0->x≠t0)->H6 H tl x=some b:=λx b M p=>by
   cases tl with
   |tok t0=>simp only[H6];rw[D3 _ _ (p t0 rfl)];exact M
   |_=>exact M
  refine⟨G4 _ _ _,?_,λd cs D ak=>?_,λτ M Y=>?_⟩
  ·cases L:H0 t with
   |none=>rfl
   |some b=>
    exfalso
    have:=drop t b (B _ _ L) λt0 e x=>by subst x;rw[(U t e).2.1]at L;cases L
    rw[be]at this;cases this
  ·have⟨av,bp⟩:=Fs D;have⟨bx,bw,t1,t2,t3⟩:=al d cs av
   rcases t3 with⟨e,_⟩|⟨t4,e,_,aj,_⟩
   ·rw[e]at ak;cases ak
   rw[e]at ak;cases ak
   have:=drop t _ aj λt0 e' x=>by subst x;exact(U t e').2.2.1 d cs D e
   rw[be]at this;cases this
  grind[Fs]
 refine hn g' w' _ (fr.put o.dst (.sl (ar++au) .ro)) _ ⟨H',v,s.trans S,aa,(hF.mono S).put (HC hd) bf,bi,λk cs W m=>?_,λk k' cs cs' W bm v1 v2=>?_,n,λd cs D=>?_,λd d' cs cs' t M N l e2=>?_,λcs M=>?_⟩ hK
 ·have a9:pv k=some cs:=by
   rw[K9 λe=>by subst e;cases m]at W
   grind[Fs]
  have⟨k1,k2,k3⟩:=ai k cs a9 m;exact⟨ap _ _ k1 za4,k2,k3.keep i a9 S⟩
 ·rw[K9 λe=>by subst e;cases v1]at W
  rw[K9 λe=>by subst e;cases v2]at bm
  grind[Fs]
 ·by_cases e:d=dd
  ·subst e;refine⟨ar++au,I,by rw[a1];simp[Fr.put],by rw[a1,PN (by rw[hF.size];exact a6)];exact q,?_⟩;simp only[n,D8]
   cases I with
   |tok t=>exact .inr ⟨t,rfl,rfl,(ac t rfl).1,(ac t rfl).2.1⟩
   |nil=>simp
   |full=>simp
   |ro=>
    exfalso
    rcases ab with⟨_,l,_⟩|⟨t1,l,_⟩
    ·rw[<-l]at hA;exact hA
    cases l
  rw[K9 λx=>by cases x;exact e rfl]at D
  have⟨av,bp⟩:=Fs D;simp only[n,A1 e];exact(al d cs av).keep (YX i av) S λt ak aj=>af t aj λY=>(U t Y).2.2.1 d cs D ak
 ·by_cases O:d=dd<;>by_cases Z:d'=dd
  ·rw[O,Z]
  ·exfalso
   rw[K9 λx=>by cases x;exact Z rfl]at N
   simp only[n,A2 O]at l
   simp only[n,A1 Z]at e2
   cases I with
   |tok t1=>cases l;exact(ac t rfl).2.2.1 d' cs' N e2
   |_=>cases l
  ·exfalso
   rw[K9 λx=>by cases x;exact O rfl]at M
   simp only[n,A1 O]at l
   simp only[n,A2 Z]at e2
   cases I with
   |tok t1=>cases e2;exact(ac t rfl).2.2.1 d cs M l
   |_=>cases e2
  rw[K9 λx=>by cases x;exact O rfl]at M
  rw[K9 λx=>by cases x;exact Z rfl]at N
  simp only[n,A1 O]at l
  simp only[n,A1 Z]at e2
  grind[Fs]
 rw[K9 za4]at M
 have⟨τ,l,e2⟩:=an _ (Fs M).1;subst l;refine⟨τ,rfl,e2.imp (λh=>h) λ⟨t,j1,j2,j3,j4⟩=>⟨t,j1,af t j2 λY=>(U t Y).2.2.2 τ M j1,j3,λd cs' bl=>?_⟩⟩
 by_cases e:d=dd
 ·simp only[n,A2 e]
  cases I with
  |tok t1=>exact λY=>by cases Y;exact(ac t rfl).2.2.2 τ M j1
  |_=>exact λY=>by cases Y
 rw[K9 λx=>by cases x;exact e rfl]at bl
 simp only[n,A1 e]
 grind[Fs]
def AP0 {k:Nat}(h:Wi ops k=true):k<=ops.size/\∀i,i<ops.size->Dy (ops.getD i default) i=true/\
 ∀j,j<i->Nf ops So i j=true\/(i<k/\OD ops (ops.getD j default) (ops.getD i default)=true):=by
 simp only[Wi,K0,H5,ET,CX,BE]at h
 grind
theorem Ux {i:Nat}(h:i<ops.size):ops.getD i default=ops[i]:=za8
def FL {a:za1 Bool}{i:Nat}(h:i∈Region.ready .any ops a):i<ops.size/\a.getD i true=false/\∀j,HB (ops.getD i default) j=true->a.getD j false=true:=by
 simp only[Region.ready,List.mem_filter,CX,K0,Fh]at h
 grind[Ux,HB]
def Hr {a:za1 Bool} (b:∀m j,a.getD m false=true->HB (ops.getD m default) j=true->a.getD j false=true):∀(n i j:Nat),(∀j,HB (ops.getD i default) j=true->a.getD j false=true)->Nf ops n i j=true->a.getD j false=true
 |0,i,j,U,h=>U j h
 | n+1,i,j,U,h=>by
  simp only[Nf,BE,NI,K0]at h
  rcases h with h|⟨x,M,A,_,h⟩
  ·exact U j h
  have g:HB (ops.getD i default) ((ops.getD i default).after[x]).on=true:=by
   grind[HB]
  exact Hr b n _ j (λk e=>b _ k (U _ g) e) h
def Vh {listed:za1 Bool}{i:Nat}(O:i<ops.size)(Z:listed.getD i true=false)(A:Dy (ops.getD i default) i=true)(J:∀j,j<i->listed.getD j false=true):i∈Region.ready .any ops listed:=by
 simp only[Region.ready,List.mem_filter,CX,K0,Fh]
 grind[Ux,Dy]
def OE {a:za1 Bool}{i j:Nat}{d:Bool}(U:i<a.size):(a.setIfInBounds i true).getD j d=if j=i then true else a.getD j d:=by
 simp only[Q9,HX]
 grind
def UM {A:WL} {r:OS Nat} {k:Nat} {K:Fr->A6->Prop} {Q:Exit->Act->Is->Prop} {g0:Gh} {w0:Is} (t:∀i,i<ops.size->Dy (ops.getD i default) i=true/\∀j,j<i->k<=j->Nf ops So i j=true) (S:∀g w a fr H,Aw g0 w0 g w->Rl g H w->FR nt g w a fr->K fr H->Q .normal a w):
 ∀(d m:Nat) (listed:za1 Bool) (fr:Fr) (H:A6),m+d=ops.size->k<=m->listed.size=ops.size->(∀i b,i<ops.size->listed.getD i b=decide (i<m))->LW P A nt ops (ops.toList.drop m) fr H K->
  ∀g w a,Aw g0 w0 g w->Rl g H w->FR nt g w a fr->wpAnyIn (Fw r) 0 P .any ops Q d listed a w
 |0,m,listed,fr,H,hm,W,L,B,h,g,w,a,s,F,y=>by
  have:ops.toList.drop m=[]:=by simp;omega
  rw[this]at h
  refine⟨?_,S g w a fr H s F y h⟩;rw[List.eq_nil_iff_forall_not_mem];intro i U;have⟨O,Z,_⟩:=FL U
  rw[B i true O]at Z
  simp_all
 | d + 1,m,listed,fr,H,hm,W,L,B,h,g,w,a,s,F,y=>by
  have n:m<ops.size:=za2
  have l:m∈Region.ready .any ops listed:=Vh n (by rw[B m true n];simp) (t m n).1 λj u=>by rw[B j false za2];grind
  refine⟨λe=>(by rw[e]at l;cases l),λi U=>?_⟩;have⟨O,Z,J⟩:=FL U
  have I:i=m:=by
   rw[B i true O]at Z
   simp only[IR,Nat.not_lt]at Z
   rcases R9 m i with c|aa
   ·have Y:=(t i O).2 m c W
    ·have:=Hr (λR j f u=>by
      have p:R<ops.size:=by
       grind
      rw[B R false p]at f
      simp only[H5]at f
      have X:=(t R p).1
      simp only[Dy,Array.all_eq_true]at X
      simp only[HB,NI,K0,EY]at u
      obtain⟨x,M,rfl,C⟩:=u;have:=X x M
      simp only[C,Co,GR,H5]at this
      rw[B _ false za2]
      grind) So i m J Y
     rw[B m false n]at this
     simp at this
   omega
  subst I
  have D:ops.toList.drop i=ops[i]::ops.toList.drop (i+1):=by
   rw[M4 za2];simp
  rw[D]at h
  simp only[LW]at h
  have⟨hd,h⟩:=h;have ih:=UM (A:=A) (r:=r) (K:=K) t S d (i+1) (listed.setIfInBounds i true)
  have N:∀j b,j<ops.size->(listed.setIfInBounds i true).getD j b=decide (j<i+1):=by
   intro j b u;rw[OE za2,B j b u]
   grind
  simp only[wpOpIn,Dd n]
  split at h
  ·rename_i G;rw[A2 (Bm y.s G)];exact Xn F y hd h λg' w' a' v H' s' z q hK=>ih _ _ za2 za2 za7 N hK g' w' a' (s.trans s') z q
  ·rename_i G;rw[A1 (by rw[Bm y.s G];simp)];exact⟨λ_ _=>trivial,ih _ _ za2 za2 za7 N h g w _ s F (y.put (HC hd) (VR.und _ _))⟩
  grind
def Wz {r:OS Nat} {k:Nat} {K:Fr->Pv->Prop} {Q:Exit->Act->Is->Prop} {g0:Gh} {w0:Is} (W:k<=ops.size) (p:∀i,i<ops.size->Dy (ops.getD i default) i=true/\∀j,j<i->Nf ops So i j=true\/(i<k/\OD ops (ops.getD j default) (ops.getD i default)=true)\/k<=j)
 (c:∀g w a fr pv listed,listed.size=ops.size->(∀i b,i<ops.size->listed.getD i b=decide (i<k))->Ay3 nt H0 g0 w0 fr pv g w a->K fr pv->wpAnyIn (Fw r) 0 P .any ops Q (ops.size-k) listed a w):
 ∀(n:Nat) (L:Up Nat) (listed:za1 Bool) (fr:Fr) (pv:Pv),L.length=n->L.Pairwise (· < ·)->(∀i∈L,i<k)->listed.size=ops.size->(∀i b,i<ops.size->listed.getD i b=decide (i<k/\i∉L))->(∀m j,listed.getD m false=true->HB (ops.getD m default) j=true->listed.getD j false=true)->
  Ms P nt ops H0 (L.map λi=>ops.getD i default) fr pv K->∀g w a,Ay3 nt H0 g0 w0 fr pv g w a->wpAnyIn (Fw r) 0 P .any ops Q (n+(ops.size-k)) listed a w
 |0,L,listed,fr,pv,A,_,_,v,B,_,h,g,w,a,F=>by
  have:L=[]:=List.length_eq_zero_iff.1 A;subst this;rw[K4];exact c g w a fr pv listed v (λi b U=>by rw[B i b U];simp) F h
 | n+1,L,listed,fr,pv,A,t,S,v,B,s,h,g,w,a,F=>by
  have hL:L≠[]:=by intro e;rw[e]at A;simp at A
  have⟨i0,L0,f⟩:∃i0 L0,L=i0::L0:=by cases L with
   |nil=>exact absurd rfl hL
   |cons x y=>exact⟨x,y,rfl⟩
  have ab:i0<k:=S i0 (by rw[f];simp);rw[show n+1+(ops.size-k)=(n+(ops.size-k))+1 by omega]
  have N:i0∈Region.ready .any ops listed:=by
   refine Vh za2 (by rw[B i0 true za2,f];simp) (p i0 za2).1 λj u=>?_;rw[B j false za2]
   have:j∉L:=by
    rw[f]at t ⊢
    grind[List.pairwise_cons]
   simp only[H5];exact⟨za2,this⟩
  refine⟨λe=>(by rw[e]at N;cases N),λi U=>?_⟩;have⟨O,Z,J⟩:=FL U
  rw[B i true O]at Z
  simp only[IR,not_and,Classical.not_not]at Z
  have C:i<k:=by
   rcases R9 i k with hh|hh
   ·exact hh
   exfalso
   rcases(p i O).2 i0 za2 with Y|⟨X,_⟩|X
   ·have:=Hr s So i i0 J Y
    rw[B i0 false za2,f]at this
    simp at this
   ·omega
   omega
  have I:=Z C;have⟨pre,post,l⟩:=List.append_of_mem I
  have D:∀x∈pre.map (λi=>ops.getD i default),OD ops x (ops.getD i default)=true:=by
   intro x M;obtain⟨j,u,rfl⟩:=List.mem_map.1 M
   have ac:j∈L:=by rw[l];simp[u]
   have R:j<i:=by
    rw[l]at t
    grind
   rcases(p i O).2 j R with Y|⟨_,X⟩|X
   ·have:=Hr s So i j J Y
    rw[B j false za2]at this
    simp_all
   ·exact X
   grind
  rw[l,P9,D9]at h
  have hf:=Al4 D h
  have d:OL P nt ops H0 (ops.getD i default) fr pv λq z=>Ms P nt ops H0 ((pre++post).map λi=>ops.getD i default) q z K:=by
   rw[P9];exact hf
  simp only[wpOpIn,Dd O]
  rw[Ux O]at d
  have aa:i∉pre++post:=by
   rw[l]at t
   grind[List.pairwise_cons]
  refine AO9 (r:=r) F d λg' w' a' q z G hK=>?_;refine Wz W p c n (pre++post) _ q z ?_ ?_ ?_ (by simpa using v) ?_ ?_ hK g' w' a' G
  ·rw[l]at A;simp at A ⊢;omega
  ·rw[l]at t
   grind
  ·grind
  ·intro j b u;rw[OE za2,B j b u]
   by_cases e:j=i
   ·subst e;simp[C,aa]
   rw[A1 e]
   congr 1
   rw[l];simp[e]
  intro m j hm u
  rw[OE za2]at hm ⊢
  by_cases ej:j=i
  ·rw[A2 ej]
  rw[A1 ej]
  by_cases em:m=i
  ·subst em;exact J j u
  rw[A1 em]at hm;exact s m j hm u
end
def Kc (s:Nat->V):Up Tmp->Up V->Nat->V
 |p::a,x::xs=>Kc (λt=>if t=p then x else s t) a xs
 |_,_=>s
def Vt {g:Gh} {w:Is} {nt:Nat}:∀(b:Up Tmp) (vals:Up HO) (xs:Up V) (a:za1 HO) (s:Nat->V),a.size=nt->(∀p∈b,p<nt)->vals.length=xs.length->(∀i,i<xs.length->VR g w (vals.getD i undef) (xs.getD i .bad))->xs.length=b.length->
 (∀t,VR g w (a.getD t undef) (s t))->((b.zip vals).foldl (λt (p,v)=>t.setIfInBounds p v) a).size=nt/\∀t,VR g w (((b.zip vals).foldl (λt (p,v)=>t.setIfInBounds p v) a).getD t undef) (Kc s b xs t)
 |[],[],[],a,s,k,_,_,_,_,h=>⟨k,h⟩
 | p::b,v::vals,x::xs,a,s,k,l,B,n,M,h=>by
  simp only[List.zip_cons_cons,KP,Kc];refine Vt b vals xs _ _ za7 (λq y=>l q (by simp[y])) za7 (λi U=>by simpa using n (i+1) za7) za7 λt=>?_;have r:=l p za4
  by_cases e:t=p
  ·subst e
   have:(a.setIfInBounds t v).getD t undef=v:=za8
   rw[this];simpa using n 0 za4
  have:(a.setIfInBounds p v).getD t undef=a.getD t undef:=by
   simp only[Q9,HX];rw[A1 (λh=>e h.symm)]
  rw[this];simp_all
 |[],[],_::_,_,_,_,_,B,_,_,_=>by simp at B
 |[],_::_,[],_,_,_,_,B,_,_,_=>by simp at B
 |[],_::_,_::_,_,_,_,_,_,_,M,_=>by simp at M
 |_::_,[],[],_,_,_,_,_,_,M,_=>by simp at M
 |_::_,[],_::_,_,_,_,_,B,_,_,_=>by simp at B
 |_::_,_::_,[],_,_,_,_,B,_,_,_=>by simp at B
def Qy:Exit->OS (OS Code)
 | .normal=>some none
 | .ret=>some (some .ret)
 | .exit id=>some (some (.exit id))
 | .goto t=>some (some (.goto t))
 |_=>none
def Bx1 (id:Nat)(L:LpI)(K:V->A6->Prop)(e:Exit)(b:A6):Prop:=
 ∃a,Qy e=some a/\b id=some (.loop {L with st:=.busy})/\K (.bool a.isNone) (upd b id (some (.loop {L with st:=if a.isNone then .ready else .done,pe:=a})))
def An0 {P:If} {id:Nat} {L:LpI} {x:Up V} {H:A6} {K:V->A6->Prop} (W:H id=some (.loop L)) (af:L.st= .ready) (M:x.length=L.ps.size) (ae:∀p∈L.ps,p<L.nt)
 (h:Br P L.nt (some id) L.asg ⟨Kc L.s L.ps.toList x,[]⟩ H λe X G=>e= .normal/\G id=some (.loop L)/\
  Br P L.nt (some id) L.body X (upd G id (some (.loop {L with st:=.busy}))) λe _ H2=>Bx1 id L K e H2):EN P (.yield id) x H K:=by
 intro g w v vals F q hA
 cases q with
 | yield f=>
  rename_i b;have⟨b',r,O,Z,J,h4,h5,h6,h7,h8,h9,aa⟩:=F.blk id _ W
  rw[f]at O;cases O
  have S:(do let d <-Deferred.ofValue (.func (.yield b) #[] #[]) vals;invoke d.target d.args:Sem Next).run P w=
   .ok (.round b r.fn ((r.params.zip vals).foldl (λy (t,a)=>y.setIfInBounds t a) r.tmps) r.assign r.body) w:=by
   have m:=run_yield (P:=P) (args:=vals) J (by rw[hA.1,M,h6])
   simpa[Deferred.ofValue,C0,C6,B7,invoke]using m
  rw[S]
  show RoundIn Fence.wide 0 P b r.fn _ r.assign r.body w _
  have R:=Vt (g:=g) (w:=w) (nt:=L.nt) L.ps.toList vals.toList x r.tmps L.s h9 (λp hp=>ae p za7) (by simpa using hA.1) (λi U=>by
   have:=hA.2 i U
   simp_all) za2 aa
  have c:(r.params.zip vals).foldl (λy (t,a)=>y.setIfInBounds t a) r.tmps=(L.ps.toList.zip vals.toList).foldl (λt (p,v)=>t.setIfInBounds p v) r.tmps:=by
   rw[h6,<-Array.foldl_toList];simp
  rw[c];refine roundIn_of_wpIn trivial ?_
  show r.assign.wpIn (Fw (some b)) 0 P _ _ w
  rw[h7];refine wpIn_mono (h (some b) g w _ ⟨b,f,rfl⟩ F ⟨R.1,R.2,[],rfl,λi U=>by simp at U,rfl⟩) λe a1 w1 ⟨g1,ah,G,I,j,ab,Y,C,N⟩=>?_;subst Y;have⟨b1,r1,i1,i2,i3,i4,i5,i6,i7,i8,i9,ag⟩:=j.blk id _ C;have l:=I.mu _ _ f
  rw[l]at i1;cases i1
  refine⟨_,run_beginRound i3 (i4.trans af),?_⟩
  have⟨s2,ac⟩:=j.putGen (k':=.loop {L with st:=.busy}) (o':=.loop {r1 with state:=.busy}) rfl rfl C l rfl λs hh A=>
   ⟨b,_,l,A,hh,rfl,i5,i6,i7,i8,i9,λt=>(ag t).mono s⟩
  show r.body.wpIn (Fw (some b)) 0 P _ _ _
  rw[h8];refine wpIn_mono (N (some b) g1 _ a1 ⟨b,l,rfl⟩ ac (ab.mono s2)) λe a3 w3 ⟨g3,ai,H3,s3,z,aj,k,hj,D,hK⟩=>?_;have⟨b3,r3,j1,j2,j3,j4,j5,j6,j7,j8,j9,j10⟩:=z.blk id _ D;have n:=s3.mu _ _ l
  rw[n]at j1;cases j1
  have⟨s4,ad⟩:=z.putGen (k':=.loop {L with st:=if k.isNone then .ready else .done,pe:=k}) (o':=.loop {r3 with state:=if k.isNone then .ready else .done,pending:=k}) rfl rfl D n rfl λs hh A=>
   ⟨b,_,n,A,hh,rfl,rfl,j6,j7,j8,j9,λt=>(j10 t).mono s⟩
  have B:=run_endRound (P:=P) k j3
  have fin:∃v w',(Instr.endRound b k).run P w3= .ok v w'/\∃u,Ending.returned v= .returned u/\P0 g w K u w':=
   ⟨_,_,B,_,rfl,g3,_,_,((I.trans s2).trans s3).trans s4,ad,.bool _,hK⟩
  cases e<;>simp only[Qy,E7,reduceCtorEq]at hj<;>subst hj<;>exact fin
structure G9 (I:A6->A6->Prop):Prop where
 le:∀{F H},I F H->∀id b,F id=some b->H id=some b
 chg:∀{F H} (id:Nat) (b:Option KB),I F H->H id=F id->I (upd F id b) (upd H id b)
def G9.fresh {I:A6->A6->Prop}(h:G9 I){F H:A6}(i:I F H){id:Nat}(a:H id=none):F id=none:=by
 cases e:F id with
 |none=>rfl
 |some b=>rw[h.le i id b e]at a;cases a
def Jv (P:If) (b:V) (xs:Up (Up V)):Prop:=
 ∃ f C,b= .func (.func f) [] C/\(∀vals w,(callFunc f vals).run P w= .ok (.enter f vals) w)/\
  ∀(a:V) (I:Up (Up V)->A6->A6->Prop) (D:A6->A6->Prop),(∀l,G9 (I l))->G9 D->
   ((a.one=true/\a.cells=[a])/\∀x l F H,I (x::l) F H->EN P a x H λr H'=>(r= .bool true/\I l F H')\/(r= .bool false/\D F H'))->
   ∀F H,I xs F H->O7 P f (a::C) H λ_ H'=>I [] F H'\/D F H'
def Ak7 (I:A6->A6->Prop)(D:Code->A6->A6->Prop)(F:A6)(e:Exit)(H:A6):Prop:=
 match e with
 | .normal=>I F H
 | .ret=>D .ret F H
 | .exit k=>D (.exit k) F H
 |_=>False
def Av9 {I:A6->A6->Prop}{D:Code->A6->A6->Prop}{F:A6}{e:Exit}{H:A6}(h:Ak7 I D F e H):(Qy e=some none/\I F H)\/∃c,Qy e=some (some c)/\D c F H:=by
 cases e<;>simp only[Ak7]at h
 ·simp_all[Qy]
 ·simp_all[Qy]
 simp_all[Qy]
section
variable {P:Program}{nt:Nat}
def As4 {fr:Fr} {ps:za1 Tmp} {asg body:Code} {xs:Up (Up V)} {f:FuncId} {C:Up V} {id:Nat} (am:∀p∈ps,p<nt) (an:∀x∈xs,x.length=ps.size)
 (ak:∀(yv:V) (I:Up (Up V)->A6->A6->Prop) (D:A6->A6->Prop),(∀l,G9 (I l))->G9 D->
  ((yv.one=true/\yv.cells=[yv])/\∀x l F H,I (x::l) F H->EN P yv x H λr H'=>(r= .bool true/\I l F H')\/(r= .bool false/\D F H'))->
  ∀F H,I xs F H->O7 P f (yv::C) H λ_ H'=>I [] F H'\/D F H')
 (I:Up (Up V)->A6->A6->Prop) (D:Code->A6->A6->Prop) (hI:∀l,G9 (I l)) (hD:∀c,G9 (D c)) (J:Up V->Up (Up V)->Fr->A6->A6->Prop) (hJ:∀x l fr,G9 (J x l fr))
 (d:∀id L x l F H,I (x::l) F H->F id=some (.loop L)->x.length=ps.size->Br P nt (some id) asg ⟨Kc fr.s ps.toList x,[]⟩ H λe a G=>e= .normal/\J x l a F G)
 (O:∀id L x l a F H,J x l a F H->F id=some (.loop L)->Br P nt (some id) body a H λe _ H'=>Ak7 (I l) D F e H')
 {z H2:A6} {L:LpI} (hL:L={nt:=nt,s:=fr.s,st:=.ready,pe:=none,ps:=ps,asg:=asg,body:=body}) (aa:z id=none) (h0:I xs (upd z id (some (.loop L))) H2)
 {Z:Gh} {j:Is} {b:Nat} {vals:za1 HO} (hR:Rl Z H2 j) (al:Z.mu id=some b) (hA:Args Z j vals (.yield id::C)) (aj:(callFunc f vals).run P j= .ok (.enter f vals) j):
 CallsIn Fence.wide 0 P f vals j λe w3=>∃v,e= .returned v/\∃g3 S N R,Aw Z j g3 R/\Rl g3 S R/\(Instr.endLoop b).run P w3= .ok N R/\((N=none/\I [] z S)\/∃c,N=some c/\D c z S):=by
 have hc:=ak (.yield id) (λl F H=>(∀x∈l,x.length=ps.size)/\F id=none/\I l (upd F id (some (.loop L))) H)
  (λF H=>F id=none/\∃c,D c (upd F id (some (.loop {L with st:=.done,pe:=some c}))) H) ?_ ?_ ⟨⟨rfl,rfl⟩,?_⟩ z H2 ⟨an,aa,h0⟩ Z j vals hR hA
 ·rw[aj]at hc
  have ai:CallsIn Fence.wide 0 P f vals j _:=hc;refine ai.mono λe w3 ⟨v,Y,g3,u,S,s,ab,_,hK⟩=>⟨v,Y,?_⟩;have n:=s.mu _ _ al
  have fin:∀(L':LpI) (X:A6->A6->Prop),G9 X->X (upd z id (some (.loop L'))) S->L'.st≠ .busy->∃g4 H4 R,Aw Z j g4 R/\Rl g4 H4 R/\(Instr.endLoop b).run P w3= .ok L'.pe R/\X z H4:=by
   intro L' X hX M ao;have B:=hX.le M id _ (G4 _ _ _);have⟨b3,r3,j1,j2,j3,j4,j5,j6,j7,j8,j9,j10⟩:=ab.blk id _ B
   rw[n]at j1;cases j1
   have w:=run_endLoop (P:=P) j3 (by rw[j4];exact ao)
   rw[j5]at w
   have⟨s4,ah⟩:=ab.putGen (k':=.loop {L' with st:=.exhausted}) (o':=.loop {r3 with state:=.exhausted,pending:=L'.pe}) rfl rfl B n rfl λs hh A=>
    ⟨b,_,n,A,hh,rfl,rfl,j6,j7,j8,j9,λt=>(j10 t).mono s⟩
   refine⟨g3,upd S id none,_,s.trans s4,ah.less λx q M=>?_,w,?_⟩
   ·simp_all[upd]
   have:=hX.chg id none M (by rw[B,G4])
   rwa[Ab3 _ _ _ aa]at this
  grind
 ·intro l;refine⟨λ{F H} ⟨_,h,U⟩ x q M=>(hI l).le U x q ?_,λ{F H} x q ⟨hs,h,U⟩ M=>?_⟩
  ·rw[D3 _ _ (Cw h M)];exact M
  have g:x≠id:=λe=>by subst e;rw[h]at M;rw[(hI l).le U x _ (G4 _ _ _)]at M;cases M
  refine⟨hs,by rw[D3 _ _ (λe=>g e.symm)];exact h,?_⟩;have:=(hI l).chg x q U (by rw[D3 _ _ g];exact M)
  rwa[UH _ _ _ (Ne.symm g)]at this
 ·refine⟨λ{F H} ⟨h,c,U⟩ x q M=>(hD c).le U x q ?_,λ{F H} x q ⟨h,c,U⟩ M=>?_⟩
  ·rw[D3 _ _ (Cw h M)];exact M
  have g:x≠id:=λe=>by subst e;rw[h]at M;rw[(hD c).le U x _ (G4 _ _ _)]at M;cases M
  refine⟨by rw[D3 _ _ (λe=>g e.symm)];exact h,c,?_⟩;have:=(hD c).chg x q U (by rw[D3 _ _ g];exact M)
  rwa[UH _ _ _ (Ne.symm g)]at this
 rintro x l F H ⟨hs,h,U⟩;have W:=(hI _).le U id _ (G4 _ _ _);have ag:=hs x za4;have ha:=d id L x l _ H U (G4 _ _ _) ag;subst hL;refine An0 W rfl ag am (ha.mono λe a G ⟨Y,hj⟩=>?_);have af:=(hJ x l a).le hj id _ (G4 _ _ _);refine⟨Y,af,?_⟩;have ae:=(hJ x l a).chg id (some (.loop {({nt:=nt,s:=fr.s,st:=.ready,pe:=none,ps:=ps,asg:=asg,body:=body}:LpI)with st:=.busy})) hj (by rw[af,G4])
 rw[FI]at ae
 refine(O id _ x l a _ _ ae (G4 _ _ _)).mono λe ap H2 hq=>?_
 rcases Av9 hq with⟨i,ad⟩|⟨c,i,ac⟩
 ·have k:=(hI l).le ad id _ (G4 _ _ _);refine⟨none,i,k,.inl ⟨rfl,λy m=>hs y (by simp[m]),h,?_⟩⟩;have:=(hI l).chg id (some (.loop {nt:=nt,s:=fr.s,st:=.ready,pe:=none,ps:=ps,asg:=asg,body:=body})) ad (by rw[k,G4])
  rwa[FI]at this
 have k:=(hD c).le ac id _ (G4 _ _ _);refine⟨some c,i,k,.inr ⟨rfl,h,c,?_⟩⟩;have:=(hD c).chg id (some (.loop {nt:=nt,s:=fr.s,st:=.done,pe:=some c,ps:=ps,asg:=asg,body:=body})) ac (by rw[k,G4])
 rwa[FI]at this
def Ax7 {g:Gh}{w:Is}{id b:Nat}{cs:za1 HO}{C:Up V}(e:g.mu id=some b)(O:cs.size=C.length)(Z:∀i,i<C.length->VR g w (cs.getD i undef) (C.getD i .bad)):
 Args g w (#[.func (.yield b) #[] #[]]++cs) (.yield id::C):=
 Args.append (x:=[.yield id]) (a:= #[.func (.yield b) #[] #[]]) ⟨rfl,λi U=>match i,U with|0,_=>.yield e⟩ ⟨O,Z⟩
def Br.rangeOuter {fr:Fr} {H F:A6} {g:By} {ps:za1 Tmp} {asg body:Code} {xs:Up (Up V)} {Q:Exit->Fr->A6->Prop} (aq:∀p∈ps,p<nt) (ar:∀x∈xs,x.length=ps.size) (A:Jv P (ev fr g) xs)
 (I:Up (Up V)->A6->A6->Prop) (D:Code->A6->A6->Prop) (R:∀l,G9 (I l)) (hD:∀c,G9 (D c)) (J:Up V->Up (Up V)->Fr->A6->A6->Prop) (hJ:∀x l fr,G9 (J x l fr)) (h0:I xs F H)
 (assign:∀id L x l F H,I (x::l) F H->F id=some (.loop L)->x.length=ps.size->Br P nt (some id) asg ⟨Kc fr.s ps.toList x,[]⟩ H λe n G=>e= .normal/\J x l n F G)
 (O:∀id L x l n F H,J x l n F H->F id=some (.loop L)->Br P nt (some id) body n H λe _ H'=>Ak7 (I l) D F e H')
 (done:∀d H',F d=none->I [] (upd F d (some (.obj (.deferred (some []))))) H'->Q .normal {fr with df:=d::fr.df} H')
 (stop:∀c d H',F d=none->D c (upd F d (some (.obj (.deferred (some []))))) H'->Br P nt none c {fr with df:=d::fr.df} H' Q):Br P nt none (.rangeFunc g ps asg body) fr H Q:=by
 intro r g0 w a hr Z hF;have hr:r=none:=hr;subst hr;have⟨f,C,an,am,A⟩:=A;refine wpIn_rangeFunc λfn _=>?_;have q:=G1 Z hF.s g
 rw[an]at q
 generalize al:a.eval g=gv at q
 cases q with
 | func B q ap au=>
  rename_i fs cs;have ao:fs= #[]:=Tl za2;subst ao;have⟨S,y⟩:∃S:KB,S= .obj (.deferred (some [])):=⟨_,rfl⟩;have m:H g0.nx=none:=(Z.nxt _ (B1 _)).2.2;have s1:=Aw.new Z (.deferred (some [])) False 0;have b:=Z.newNamed (.deferred (some [])) S (by rw[y];simp) (by rw[y];exact⟨w.heap.size,by simp[Gh.new],Z.bnd,Dt,rfl⟩) (by rw[y];simp_all);have⟨w1,M⟩:∃w1,w.alloc (.deferred (some []))=w1:=⟨_,rfl⟩;have⟨g1,z⟩:∃g1,g0.new w False 0=g1:=⟨_,rfl⟩;have⟨L,hL⟩:∃L:LpI,L={nt:=nt,s:=fr.s,st:=.ready,pe:=none,ps:=ps,asg:=asg,body:=body}:=⟨_,rfl⟩;have⟨rec,k⟩:∃rec:Loop,rec={state:=.ready,pending:=none,fn,tmps:=a.tmps,params:=ps,assign:=asg,body,defers:=w.heap.size}:=⟨_,rfl⟩
  rw[M,z]at b s1
  have hd:g1.mu g0.nx=some w.heap.size:=by rw[<-z];simp[Gh.new]
  have av:g1.nx=g0.nx+1:=by rw[<-z];rfl
  have ah:=hF.mono s1;have s2:=Aw.new b (.loop rec) False 0;have W:=ah.mono s2
  have aa:=b.newNamed (.loop rec) (.loop L) za4 (by
   rw[hL,k]
   exact⟨w1.heap.size,_,by simp[Gh.new],b.bnd,Dt,rfl,rfl,rfl,rfl,rfl,hF.size,λt=>by have:=W.s t;rw[k]at this;exact this⟩)
  have⟨w2,af⟩:∃w2,w1.alloc (.loop rec)=w2:=⟨_,rfl⟩;have⟨g2,ac⟩:∃g2,g1.new w1 False 0=g2:=⟨_,rfl⟩
  rw[af,ac]at aa s2 W
  have ae:g2.mu g1.nx=some w1.heap.size:=by rw[<-ac];simp[Gh.new]
  have ad:(upd H g0.nx (some S)) g1.nx=none:=(b.nxt _ (B1 _)).2.2
  have aw:w1.heap.size=w.heap.size+1:=by rw[<-M];simp
  have i1:=(R xs).chg g0.nx (some S) h0 (by rw[m,(R xs).fresh h0 m]);have X:=(R xs).fresh i1 ad;have i2:=(R xs).chg g1.nx (some (.loop L)) i1 (by rw[ad,X]);have j:=As4 (fr:=fr) (nt:=nt) aq ar A I D R hD J hJ assign O hL X i2 (vals:= #[.func (.yield w1.heap.size) #[] #[]]++cs) aa ae (Ax7 ae ap λi U=>(au i U).mono (s1.trans s2)) (am _ _);refine⟨w1.heap.size,[{target:=.collected w.heap.size,args:= #[]}],w2,{target:=.fn (.func f) cs,args:= #[.func (.yield w1.heap.size) #[] #[]]},w2,f, #[.func (.yield w1.heap.size) #[] #[]]++cs,w2,?_,?_,λ_ _=>trivial,?_,λh=>by simp[Fw]at h,?_⟩
  ·rw[<-af,k,<-M,show(w.alloc (.deferred (some []))).heap.size=w.heap.size+1 by simp];exact run_enterLoop_outer _ _ _ _ _
  ·simp only[resolve,al];simp[go_sem]
  ·simp only[invoke];grind
  refine Wu (j.mono λe w3 ⟨v,Y,g3,H3,ag,w4,s3,ak,ab,u⟩=>?_);subst Y;refine⟨ag,w4,ab,?_⟩;have s:=(s1.trans s2).trans s3
  have ai:FR nt g3 w4 {a with defers:=[{target:=.collected w.heap.size,args:= #[]}]++a.defers} {fr with df:=g0.nx::fr.df}:=by
   have N:=hF.mono s;refine⟨N.size,N.s,?_⟩;have⟨bs,k1,k2,k3⟩:=N.df;refine⟨w.heap.size::bs,za7,λi U=>?_,by simp[k3]⟩
   cases i with
   |zero=>exact(s2.trans s3).mu _ _ hd
   |succ i=>simp_all
  have aj:F g0.nx=none:=(R xs).fresh h0 m
  rw[y]at u
  rcases u with⟨rfl,U⟩|⟨c,rfl,hd⟩
  ·grind[Yx]
  exact wpIn_mono (stop c _ _ aj hd none g3 w4 _ rfl ak ai) λ_ _ _=>Yx.later s
end
def Ag4 (P:If) (A:WL) (nt:Nat) (ops:za1 Oper):Up Oper->Fr->A6->(Fr->A6->Prop)->Prop
 |[],fr,H,K=>K fr H
 | o ::rest,fr,H,K=>
  Jt nt o.dst=true/\
   match o.guard with
   |none=>KD P A o (ev fr) H λv H'=>Ag4 P A nt ops rest (fr.put o.dst v) H' K
   | some (j,a)=>
    match(ops[j]?).bind (·.dst)with
    | some d=>
     match fr.s d with
     | .bool c=>
      (c=a->KD P A o (ev (fr.put (some d) (.bool a))) H λv H'=>Ag4 P A nt ops rest ((fr.put (some d) (.bool a)).put o.dst v) H' K)/\
       (c= !a->Ag4 P A nt ops rest ((fr.put (some d) (.bool !a)).put o.dst (.tup [])) H K)
     |_=>False
    |none=>False
theorem RW {P:If}{H:A6}{K x:V->A6->Prop}{y:Up Do}{vs:Up V}(h:JH P H K y vs)(W:∀v H',K v H'->x v H'):JH P H x y vs:=by
 unfold JH at h ⊢
 split at h
 ·obtain⟨e,sz,by_,z,N,c,d,f,j,m,p,q,s,n,r,l1,u,a,b,g,i,k,l⟩:=h;exact⟨e,sz,by_,z,N,c,d,f,j,m,p,q,s,n,r,l1,u,a,b,g,i,λe=>W _ _ (k e),λt w e2=>W _ _ (l t w e2)⟩
 omega
def Ov {P:If} {A:WL} {o:Oper} {g:By->V} {H:A6} {K K':V->A6->Prop} (h:KD P A o g H K) (W:∀v H',K v H'->K' v H'):KD P A o g H K':=by
 unfold KD at h ⊢
 split at h
 ·rcases h with⟨z,O,Z,J⟩|⟨O,sz,Z⟩
  ·grind
  exact .inr ⟨O,sz,λq id a b=>W _ _ (Z q id a b)⟩
 ·grind
 ·grind
 ·have key:∀{K K':V->A6->Prop} {t:Do} {l c:V},(∀v H',K v H'->K' v H')->TE P H K t l c->TE P H K' t l c:=by
   intro K K' t l c W h
   unfold TE at h ⊢
   split at h
   ·obtain⟨e,sz,by_,z,u,w,B,C,D,F,G,I,L,m,p,s⟩:=h
    simp_all
   omega
  grind[Ai8]
 ·exact h.imp (W _ _) λ⟨O,sz,Z⟩=>⟨O,sz,λq a=>W _ _ (Z q a)⟩
 ·exact h.imp (W _ _) λ⟨O,sz,Z⟩=>⟨O,sz,λq a=>W _ _ (Z q a)⟩
 ·grind[litO]
 ·grind[AX7]
 ·grind[Jy]
 ·grind[Jy]
 ·grind[Qp]
 ·grind[Vy]
 ·grind[QB]
 ·grind
 ·split at h
  ·exact h.mono W
  ·rcases h with h|h|h
   rotate_left
   ·refine .inr (.inl ?_)
    unfold RT at h ⊢
    split at h
    ·obtain⟨e,sz,by_,z,k,n,r,x,N,d,f,j,h⟩:=h;refine⟨e,sz,by_,z,k,n,r,x,N,d,f,j,?_⟩
     grind[MY]
    omega
   ·exact .inr (.inr (RW h λv H' ⟨y,i,O,Z,J⟩=>⟨y,i,O,Z,W _ _ J⟩))
   grind[RW]
  ·unfold Am4 at h ⊢
   grind
  ·unfold Wr at h ⊢
   grind
  ·obtain⟨v,O,Z⟩:=h;exact⟨v,O,W _ _ Z⟩
  exact h.elim
 obtain⟨v,O,Z⟩:=h;exact⟨v,O,W _ _ Z⟩
def Af6 {fr:Fr}{d:Nat}{v:V}(h:fr.s d=v):fr.put (some d) v=fr:=by
 obtain⟨s,df⟩:=fr;simp only[Fr.put,Fr.mk.injEq,P7]
 funext t
 simp_all
def Pf {P:If} {A:WL} {nt:Nat} {ops:za1 Oper} {K:Fr->A6->Prop}:∀(l:Up Oper) (fr:Fr) (H:A6),Ag4 P A nt ops l fr H K->LW P A nt ops l fr H K
 |[],_,_,h=>h
 | o ::rest,fr,H,h=>by
  simp only[Ag4]at h
  simp only[LW];refine⟨h.1,?_⟩;obtain⟨_,h⟩:=h
  have mono:∀fr,KD P A o (ev fr) H (λv H'=>Ag4 P A nt ops rest (fr.put o.dst v) H' K)->KD P A o (ev fr) H λv H'=>LW P A nt ops rest (fr.put o.dst v) H' K:=by
   intro fr e;refine Ov e λv H' W=>Pf rest _ _ W
  unfold Du
  split at h
  ·simp_all
  rename_i j a b
  try simp only[b]
  split at h
  ·rename_i d hd
   try simp only[hd]
   split at h
   ·rename_i c X
    try simp only[X]
    obtain⟨O,Z⟩:=h
    cases c<;>cases a<;>simp only[beq_self_eq_true,Co,DI,reduceCtorEq,false_implies,true_implies,forall_const]at O Z ⊢
    all_goals first
     |(rw[Af6 X]at O;exact mono _ O)
     |(rw[Af6 X]at Z;exact Pf rest _ _ Z)
   grind
  grind
section
variable {P:Program}{nt:Nat}{rd:Option Nat}{fr:Fr}{H:A6}{Q:Exit->Fr->A6->Prop}
def Br.step (A:WL){id:Nat}{ops:za1 Oper}{rest:Code}(h:∀K:Fr->A6->Prop,(∀a H',Br P nt rd rest a H' Q->K a H')->Ag4 P A nt ops ops.toList fr H K):
 Br P nt rd (.seq (.region id ops false) rest) fr H Q:=
 Br.seq (Br.region (A:=A) (Pf _ _ _ (h _ λ_ _ x=>x)))
def Br.last (A:WL){id:Nat}{ops:za1 Oper}(h:∀K:Fr->A6->Prop,(∀a H',Q .normal a H'->K a H')->Ag4 P A nt ops ops.toList fr H K):
 Br P nt rd (.region id ops false) fr H Q:=Br.region (A:=A) (Pf _ _ _ (h _ λ_ _ x=>x))
def PF:Up (Nat×V)->Nat->V
 |[],_=>.bad
 |(k,v)::l,t=>if t=k then v else PF l t
def mk (l:Up (Nat×V))(df:Up Nat):Fr:=⟨PF l,df⟩
end
structure Ao5 where
 sz:Nat
 by_:Nat
 ag:Bool
 sl:Option Nat
 ar:Option (Nat×Nat)
 fs:List (Option (Nat×Nat))
 pl:Option (List (Nat×Nat))
 ze:Option V
 ek:Option (List Nat)
 st:Bool
 bo:Bool
 ik:Option IntKind
 nif:Bool
def AO0 (P:If)(t:Do):Nat->Up (OS (Nat×Nat))->Prop
 |_,[]=>True
 |i,some p::l=>fdO P t i=some p/\AO0 P t (i+1) l
 |i,none::l=>AO0 P t (i+1) l
def Ef {α:Type}(o:OS α)(p:α->Prop):Prop:=
 match o with
 |some x=>p x
 |none=>True
structure Bw9 (P:Program) (t:TypeId) (I:Ao5):Prop where
 sz:HL P t=some I.sz
 by_:SN P t=some I.by_
 ag:agO P t=some I.ag
 sl:HS P t=I.sl
 ar:arO P t=I.ar
 fs:AO0 P t 0 I.fs
 pl:Ef I.pl λl=>Rh P t=some l
 ze:Ef I.ze λz=>KC P t=some z
 ek:Ef I.ek λk=>Jn P 9 t=some k
 st:YM P t=I.st
 bo:I.bo=true->AF7 (P.underlying t)=true
 ik:Ef I.ik λk=>P.underlying t=some (.int k)
 nif:I.nif=true->ifO P t=false
abbrev JI:=Up (Nat×Ao5)
def Nk (P:If):JI->Prop
 |[]=>True
 |(t,I)::l=>Bw9 P t I/\Nk P l
def tg:JI->Nat->OS Ao5
 |[],_=>none
 |(k,I)::l,t=>match Nat.beq t k with|true=>some I|false=>tg l t
def I7 {P:If} {T:JI} (h:Nk P T) {t:Nat} {I:Ao5} (a:tg T t=some I):Bw9 P t I:=by
 induction T with
 |nil=>cases a
 |cons p l ih=>
  have⟨k,J⟩:=p
  simp only[tg]at a
  split at a
  ·simp_all[Nk]
  exact ih h.2 a
def Zu {P:If}{t:Do}:∀(l:Up (OS (Nat×Nat))) (i j:Nat) (p:Nat×Nat),AO0 P t i l->l[j]? =some (some p)->fdO P t (i+j)=some p
 |[],_,_,_,_,h=>by simp at h
 |some q::l,i,0,p,z,h=>by simp_all[AO0]
 |none::l,i,0,p,z,h=>by simp at h
 |some q::l,i,j+1,p,z,h=>by have:=Zu l (i+1) j p z.2 za7;rwa[show i+(j+1)=i+1+j by omega]
 |none::l,i,j+1,p,z,h=>by have:=Zu l (i+1) j p z za7;rwa[show i+(j+1)=i+1+j by omega]
inductive Sl where
 |v (x:V)
 |b (c:Bool)
 |g (j:Nat) (w:Bool) (x:V)
def Sl.V:Sl->V
 | .v x=>x
 | .b c=>.bool c
 | .g _ _ x=>x
def Sl.n:Sl->Sl
 | .g _ _ x=>.v x
 |s=>s
abbrev Fl:=Up (Nat×Sl)
def lk:Fl->Nat->Sl
 |[],_=>.v .bad
 |(k,x)::l,t=>match Nat.beq t k with|true=>x|false=>lk l t
def isB (v:V)(w:Bool):Bool:=
 match v with
 | .bool c=>c==w
 |_=>false
def EQ:Fl->Nat->V
 |[],_=>.bad
 |(k,s)::l,t=>
  match Nat.beq t k with
  |true=>(match s with| .v x=>x| .b c=>.bool c| .g j w x=>bif isB (EQ l j) w then x else .tup [])
  |false=>EQ l t
def slV (l:Fl):Sl->V
 | .v x=>x
 | .b c=>.bool c
 | .g j w x=>bif isB (EQ l j) w then x else .tup []
def AO1:Fl->Nat->Nat->Bool
 |[],_,_=>false
 |(k,_)::l,t,j=>match Nat.beq k j with|true=>false|false=>(match Nat.beq k t with|true=>true|false=>AO1 l t j)
def AZ8:Up (Nat×Bool)->Nat->Bool->Bool
 |[],_,_=>false
 |(j,w)::G,a,w'=>match Nat.beq j a&&(w==w')with|true=>true|false=>AZ8 G a w'
def Ag5 (G:Up (Nat×Bool)) (l:Fl) (t:Nat):OS Sl:=
 match lk l t with
 | .g j w x=>
  (match AO1 l t j with
   | true=>
    (match AZ8 G j w with
     |true=>some (.v x)
     |false=>(match lk l j with| .b c=>(match c==w with|true=>some (.v x)|false=>some (.v (.tup [])))|_=>none))
   |false=>none)
 |s=>some s
def Bi5 (G:Up (Nat×Bool))(l:Fl)(t:Nat):Sl:=
 match Ag5 G l t with
 |some s=>s
 |none=>.v (EQ l t)
def Sh:Fl->Nat->Bool->Fl
 |[],_,_=>[]
 |(k,s)::l,d,c=>match Nat.beq d k with|true=>(k,.b c)::l|false=>(k,s)::Sh l d c
structure St where
 l:Fl
 df:List Nat
def RG (e:BinOp)(a b:Int):Bool:=
 match e with
 | .eql=>a==b
 | .neq=>a !=b
 | .lss=>decide (a<b)
 | .leq=>decide (a<=b)
 | .gtr=>decide (a>b)
 | .geq=>decide (a>=b)
 |_=>false
def arI (e:BinOp)(k:IntKind)(a b:Int):Int:=
 match e with
 | .add=>k.wrap (a+b)
 | .sub=>k.wrap (a-b)
 | .mul=>k.wrap (a*b)
 | .quo=>k.wrap (a.tdiv b)
 | .rem=>a.tmod b
 | .and=>k.wrap (BitVec.ofInt k.bits a&&&BitVec.ofInt k.bits b).toNat
 | .or=>k.wrap (BitVec.ofInt k.bits a|||BitVec.ofInt k.bits b).toNat
 | .xor=>k.wrap (BitVec.ofInt k.bits a ^^^ BitVec.ofInt k.bits b).toNat
 | .andNot=>k.wrap (BitVec.ofInt k.bits a&&& ~~~(BitVec.ofInt k.bits b)).toNat
 |_=>0
def shI (e:BinOp)(k:IntKind)(a b:Int):Int:=
 match e with
 | .shl=>k.wrap (a*2 ^ (min b.toNat k.bits))
 |_=>a.fdiv (2 ^ (min b.toNat k.bits))
def Bw1 (a:BinOp)(x y:za0):Bool:=
 match a with
 | .eql=>x.toList==y.toList
 | .neq=> !(x.toList==y.toList)
 | .lss=>Op.bytesLess x.toList y.toList
 | .leq=>Op.bytesLess x.toList y.toList||x.toList==y.toList
 | .gtr=> !(Op.bytesLess x.toList y.toList||x.toList==y.toList)
 | .geq=> !Op.bytesLess x.toList y.toList
 |_=>false
class Ar where
 cmp:BinOp->Int->Int->Bool
 cmp_eq:∀op a b,cmp op a b=RG op a b
 ar:BinOp->IntKind->Int->Int->Int
 ar_eq:∀op k a b,ar op k a b=arI op k a b
 sh:BinOp->IntKind->Int->Int->Int
 sh_eq:∀op k a b,sh op k a b=shI op k a b
 neg:IntKind->Int->Int
 neg_eq:∀k n,neg k n=k.wrap (0-n)
 wr:IntKind->Int->Int
 wr_eq:∀k n,wr k n=k.wrap n
 scmp:BinOp->ByteArray->ByteArray->Bool
 scmp_eq:∀op a b,scmp op a b=Bw1 op a b
 cat:ByteArray->ByteArray->ByteArray
 cat_eq:∀a b,cat a b=a++b
 slen:ByteArray->Int
 slen_eq:∀s,slen s=s.size
 sat:ByteArray->Int->Int
 sat_eq:∀s i,sat s i=match s[i.toNat]? with|some b=>(b.toNat:Int)|none=>0
 beq:Bool->Bool->Bool
 beq_eq:∀a b,beq a b=(a==b)
 nt:Bool->Bool
 nt_eq:∀a,nt a= !a
 an:Bool->Bool->Bool
 an_eq:∀a b,an a b=(a&&b)
 or:Bool->Bool->Bool
 or_eq:∀a b,or a b=(a||b)
 pk:Bool->Bool->Bool->Bool
 pk_eq:∀c a b,pk c a b=if c then a else b
 mx:Int->Int->Int
 mx_eq:∀a b,mx a b=if a<b then b else a
 mn:Int->Int->Int
 mn_eq:∀a b,mn a b=if b<a then b else a
 ofs:Int->Int->Int
 ofs_eq:∀a b,ofs a b=a+b
 ofN:Nat->Int
 ofN_eq:∀n,ofN n=n
 len:{α:Type}->List α->Int
 len_eq:∀{α:Type} (l:List α),len l=l.length
 lst:{α:Type}->(α->V)->List α->List V
 lst_eq:∀{α:Type} (f:α->V) (l:List α),lst f l=l.map f
variable [Ar]
structure Hj where
 ln:List V->(Int->Prop)->Prop
 br:Bool->(Unit->Prop)->(Unit->Prop)->Prop
 need:Prop->(Unit->Prop)->Prop
 needB:Bool->(Unit->Prop)->Prop
 idx:List V->Int->(V->Prop)->Prop
 aidx:Int->Nat->(Nat->Prop)->Prop
 elem:List V->Nat->Nat->Nat->Int->(V->Prop)->Prop
 slice:Nat->List V->J8->Option Int->Option Int->Option Int->(V->Prop)->Prop
 call:V->List V->A6->(V->A6->Prop)->Prop
 pcall:A6->V->List V->(V->Prop)->Prop
 load:A6->Nat->(List V->Prop)->Prop
 store:A6->Nat->Nat->Nat->List V->(A6->Prop)->Prop
 storeP:A6->Nat->Nat->Nat->List V->(A6->Prop)->Prop
 alloc:A6->List V->(Nat->A6->Prop)->Prop
 oalloc:Nat->A6->(Nat->A6->Prop)->Prop
 frz:A6->Nat->(List V->A6->Prop)->Prop
 frzL:A6->Nat->(List V->A6->Prop)->Prop
 frzIn:A6->Nat->Nat->(A6->Prop)->Prop
 adoptIn:A6->Nat->Nat->(A6->Prop)->Prop
 wkB:A6->Nat->(A6->Prop)->Prop
 give:A6->Nat->List V->(A6->Prop)->Prop
 olen:Int->(Int->Prop)->Prop
 ocap:A6->Nat->Int->(Int->Prop)->Prop
 oidx:A6->Nat->Nat->Int->Int->Int->(Int->Prop)->Prop
 oload:A6->Nat->Int->(V->Prop)->Prop
 ostore:A6->Nat->Int->Nat->Nat->Nat->V->(A6->Prop)->Prop
 omk:Nat->Nat->V->Int->Int->A6->(V->A6->Prop)->Prop
 oapp:Nat->Nat->V->A6->V->V->(V->A6->Prop)->Prop
 oappz:Nat->Nat->V->A6->V->Int->(V->A6->Prop)->Prop
 oapps:Nat->V->A6->V->ByteArray->(V->A6->Prop)->Prop
 onil:Nat->A6->(V->A6->Prop)->Prop
 olit:Nat->A6->List V->(V->A6->Prop)->Prop
 ostr:Nat->Nat->A6->V->(V->Prop)->Prop
 mmk:A6->(V->A6->Prop)->Prop
 mget:Nat->A6->V->V->Bool->(V->Prop)->Prop
 mset:Nat->A6->V->V->V->(A6->Prop)->Prop
 mrg:Nat->A6->V->(V->A6->Prop)->Prop
 mnx:A6->V->(V->A6->Prop)->Prop
 men:A6->V->(V->A6->Prop)->Prop
 mdel:List Nat->A6->List V->(V->A6->Prop)->Prop
 oslice:Nat->A6->Nat->Int->Int->Option Int->Option Int->Option Int->(V->Prop)->Prop
 ocopy:Nat->A6->V->V->(V->A6->Prop)->Prop
 oclear:Nat->V->A6->V->(A6->Prop)->Prop
 ofrz:A6->Nat->Int->Int->(List V->A6->Prop)->Prop
 nilc:V->(Unit->Prop)->(Unit->Prop)->Prop
 appn:Nat->Nat->A6->J8->List V->List V->(V->A6->Prop)->Prop
 takeT:A6->(J8->A6->Prop)->Prop
 nameT:A6->(J8->A6->Prop)->Prop
 appq:Nat->Nat->List V->List V->(V->Prop)->Prop
 appw:Nat->Nat->A6->J8->List V->List V->(V->A6->Prop)->Prop
 sim:Code->St->A6->(Exit->St->A6->Prop)->Prop
 fin:List Nat->A6->(A6->Prop)->Prop
def J9 (a:St):Fr:=⟨λt=>EQ a.l t,a.df⟩
structure Iq (fr:Fr) (st:St):Prop where
 s:∀t,Wk (fr.s t) (EQ st.l t)
 df:fr.df=st.df
def J3 (P:If) (nt:Nat) (rd:OS Nat):Hj where
 ln:=λl k=>k l.length
 br:=λc x y=>(c=true->x ())/\(c=false->y ())
 need:=λp k=>p/\k ()
 needB:=λb k=>b=true/\k ()
 idx:=λxs i k=>(0<=i/\i<xs.length)/\k (xs.getD i.toNat .bad)
 aidx:=λi n k=>(0<=i/\i<n)/\k i.toNat
 elem:=λcs off sz n i k=>(0<=i/\i<n/\off+n*sz<=cs.length)/\k (.eref ((cs.drop (off+i.toNat*sz)).take sz) 0)
 slice:=λsz xs tl lo U r k=>
  (0<=lo.getD 0/\lo.getD 0<=U.getD xs.length/\U.getD xs.length<=r.getD xs.length/\r.getD xs.length<=xs.length/\(r.isSome=true->U.isSome=true)/\
   (lo.getD 0<=0\/xs.all (λx=>x.cells.length==sz)=true))/\
  k (.sl ((xs.drop (lo.getD 0).toNat).take ((U.getD xs.length).toNat-(lo.getD 0).toNat)) (LL (lo.getD 0).toNat (U.getD xs.length).toNat xs.length r tl))
 call:=EN P
 pcall:=λH A args k=>∃v,SW P A args H v/\k v
 load:=λH id k=>∃cs,H id=some (.cells cs)/\k cs
 store:=λH id off sz vs k=>∃cs vs',M2 vs vs'/\H id=some (.cells cs)/\Nat.ble (off+sz) cs.length=true/\k (upd H id (some (.cells (AF cs off vs'))))
 storeP:=λH id off sz vs k=>∃cs,H id=some (.cells cs)/\Nat.ble (off+sz) cs.length=true/\k (upd H id (some (.cells (AF cs off vs))))
 give:=λH id cs k=>k (upd H id (some (.cells cs)))
 frz:=λH id k=>∃cs,H id=some (.cells cs)/\k cs (upd H id none)
 frzL:=λH id k=>∃cs ds,H id=some (.cells cs)/\M2 cs ds/\k ds (upd H id none)
 frzIn:=λH id j k=>∃cs q lo n sz xs ys,H id=some (.cells cs)/\cs[j]? =some (.own q lo n)/\H q=some (.arr sz xs)/\M2 (W1 xs lo n) ys/\k (upd (upd H q none) id (some (.cells (cs.set j (.sl ys .ro)))))
 adoptIn:=λH id j k=>∃cs sz,H id=some (.cells cs)/\cs[j]? =some (.sl [] .nil)/\∀q,H q=none->k (upd (upd H q (some (.arr sz []))) id (some (.cells (cs.set j (.own q 0 0)))))
 wkB:=λH id k=>∃cs ds,H id=some (.cells cs)/\M2 cs ds/\k (upd H id (some (.cells ds)))
 alloc:=λH cs k=>∀id,H id=none->k id (upd H id (some (.cells cs)))
 oalloc:=λsz H k=>∀q id,H q=none->upd H q (some (.arr sz [])) id=none->k id (upd (upd H q (some (.arr sz []))) id (some (.cells [.own q 0 0])))
 olen:=λn k=>k n
 ocap:=λH id lo k=>∃sz xs,H id=some (.arr sz xs)/\k ((xs.length:Nat)-lo)
 oidx:=λH id sz lo n i k=>(∃xs,H id=some (.arr sz xs))/\(0<=i/\i<n)/\k (Ar.ofs lo i)
 oload:=λH id i k=>∃sz xs,H id=some (.arr sz xs)/\(0<=i/\i<(xs.length:Nat))/\k (xs.getD i.toNat .bad)
 ostore:=λH id i esz sz off y k=>∃xs f,DK y f/\f.one=true/\f.cells.length=sz/\off+sz<=esz/\H id=some (.arr esz xs)/\(0<=i/\i<(xs.length:Nat))/\k (upd H id (some (.arr esz (xs.set i.toNat (YY (xs.getD i.toNat .bad) esz sz off f)))))
 omk:=λsz by_ z n m H k=>(0<=n/\n<=m/\m*(by_:Nat)<=281474976710656)/\∃ys,M2 (List.replicate m.toNat z) ys/\∀id,H id=none->k (.own id 0 n) (upd H id (some (.arr sz ys)))
 onil:=λsz H k=>∀q,H q=none->k (.own q 0 0) (upd H q (some (.arr sz [])))
 olit:=λsz H xs k=>∃ys,M2 xs ys/\∀q,H q=none->k (.own q 0 (xs.length:Nat)) (upd H q (some (.arr sz ys)))
 ostr:=λs d H x k=>∃v,Yk P H s d x v/\k v
 mmk:=λH k=>AX7 H k
 mget:=λt H x key ok k=>∃v,Pr P H t x key ok v/\k v
 mset:=λt H x key v k=>OW P H (λ_ H'=>k H') t x key v
 mrg:=λt H x k=>Qp P H k t x
 mnx:=λH x k=>Vy H k x
 men:=λH x k=>QB H k x
 mdel:=λC H vs k=>Bn2 P H k C vs
 oapp:=λsz by_ z H x y k=>∃g,WF sz H y g/\Ju H k sz by_ z x g
 oappz:=λsz by_ z H x m k=>(0<=m/\(ownN x+m.toNat)*by_<=140737488355328)/\Ju H k sz by_ z x (List.replicate m.toNat z)
 oapps:=λby_ z H x s k=>Ju H k 1 by_ z x (HN s)
 oslice:=λsz H id l n lo U r k=>∃xs,H id=some (.arr sz xs)/\
  (0<=lo.getD 0/\lo.getD 0<=U.getD n/\U.getD n<=r.getD ((xs.length:Nat)-l)/\r.getD ((xs.length:Nat)-l)<=(xs.length:Nat)-l/\(r.isSome=true->U.isSome=true))/\
  k (match r with|none=>.own id (l+lo.getD 0) (U.getD n-lo.getD 0)|some _=>.bad)
 ocopy:=λsz H x y k=>
  match x with
  | .own id lo n=>∃xs g,H id=some (.arr sz xs)/\WF sz H y g/\
   k (.int .i64 (if n<(g.length:Nat)then n else(g.length:Nat))) (upd H id (some (.arr sz (FK xs lo.toNat (g.take n.toNat)))))
  |_=>False
 oclear:=λsz z H x k=>
  match x with
  | .own id lo n=>∃xs,H id=some (.arr sz xs)/\k (upd H id (some (.arr sz (FK xs lo.toNat (List.replicate n.toNat z)))))
  |_=>False
 nilc:=λx a b=>∃p,AL6 x=some p/\(p->a ())/\b ()
 ofrz:=λH id lo n k=>∃sz xs ys,H id=some (.arr sz xs)/\M2 (W1 xs lo n) ys/\k ys (upd H id none)
 takeT:=λH k=>∃w,Jx H w/\k w (H6 H w)
 nameT:=λH k=>(∀tl,tl= .nil\/tl= .full->k tl H)/\∀t,H t=none->k (.tok t) (upd H t (some .spare))
 appn:=λsz by_ H tl xs ys k=>∃h g,M2 xs h/\M2 ys g/\Jx H tl/\h.all (λx=>x.cells.length==sz)=true/\g.all (λx=>x.cells.length==sz)=true/\(h.length+g.length)*by_<=140737488355328/\(g=[]->k (.sl h tl) H)/\
  ∀t,g≠[]->H6 H tl t=none->k (.sl (h++g) (.tok t)) (upd (H6 H tl) t (some .spare))
 appq:=λsz by_ xs ys k=>∃h g,M2 xs h/\M2 ys g/\h.all (λx=>x.cells.length==sz)=true/\g.all (λx=>x.cells.length==sz)=true/\(h.length+g.length)*by_<=140737488355328/\k (.sl (h++g) .ro)
 appw:=λsz by_ H tl xs ys k=>∃h g,M2 xs h/\M2 ys g/\Jx H tl/\h.all (λx=>x.cells.length==sz)=true/\g.all (λx=>x.cells.length==sz)=true/\(h.length+g.length)*by_<=140737488355328/\k (.sl (h++g) .ro) (H6 H tl)
 sim:=λc B H K=>Br P nt rd c (J9 B) H λe u H'=>∃N,Iq u N/\K e N H'
 fin:=λdf H k=>Bn1 H df/\k (clear H df)
section
variable (E:Hj)(T:JI)
def Ak (G:Up (Nat×Bool))(l:Fl):By->Sl
 | .tmp t=>Bi5 G l t
 | .const (.bool b)=>.b b
 | .const v=>.v (cv v)
 | .global n=>.v (P3.gl n)
 | .func f=>.v (.func (.func f) [] [])
def Ay6 (t:Nat) (v:V) (H:A6) (k:V->Prop):Prop:=
 match tg T t with
 |none=>False
 |some I=>
  match v with
  | .eref cs off=>(match HT I.ag I.sz cs off with|some y=>k y|none=>False)
  | .ref id off=>E.load H id λcs=>(match HT I.ag I.sz cs off with|some y=>k y|none=>False)
  | .elem id i _ off=>E.oload H id i λx=>(match HT I.ag I.sz x.cells off with|some y=>k y|none=>False)
  |_=>False
def LQ (o:OS V)(k:V->Prop):Prop:=
 match o with
 |some y=>k y
 |none=>False
def Qc (t:Nat)(v:V)(f:Nat)(k:V->Prop):Prop:=
 match tg T t with
 |none=>False
 |some I=>(match I.fs[f]? with|some (some p)=>LQ (AP7 v p.1) k|_=>False)
def Ap4 (t:Nat) (v:V) (f:Nat) (k:V->Prop):Prop:=
 match tg T t with
 |none=>False
 | some I=>
  match I.fs[f]? with
  | some (some p)=>
   (match tg T p.2 with
    |none=>False
    |some J=>(match v with| .agg cs=>LQ (HT J.ag J.sz cs p.1) k|_=>False))
  |_=>False
def Qb (t:Nat) (v:V) (i:V) (k:V->Prop):Prop:=
 match i with
 | .int _ i=>
  (match tg T t with
   |none=>False
   | some I=>
    match I.sl with
    | some e=>
     (match tg T e with
      |none=>False
      |some J=>
       match v with
       | .sl xs _=>E.idx xs i λx=>(match Nat.beq x.cells.length J.sz with|true=>k (.eref x.cells 0)|false=>False)
       |_=>False)
    |none=>
     match I.ar with
     |some (n,e)=>(match tg T e with|none=>False|some J=>(match v with| .eref cs off=>E.elem cs off J.sz n i k|v=>E.aidx i n λm=>LQ (AP7 v (m*J.sz)) k))
     |none=>False)
 |_=>False
def Ap3 (t:Nat) (v:V) (i:V) (k:V->Prop):Prop:=
 match i with
 | .int _ i=>
  (match tg T t with
   |none=>False
   |some I=>
    match I.ar with
    |some (n,e)=>(match tg T e with|none=>False|some J=>(match v with| .agg cs=>E.aidx i n λm=>LQ (HT J.ag J.sz cs (m*J.sz)) k|_=>False))
    |none=>(match v with| .str s=>(match I.st with|true=>E.needB (Ar.an (Ar.cmp .geq i 0) (Ar.cmp .lss i (Ar.slen s))) λ_=>k (.int .u8 (Ar.sat s i))|false=>False)|_=>False))
 |_=>False
def xeq:Up V->Up V->OS Bool
 |[],[]=>some true
 |x::xs,y::ys=>
  match x,y with
  | .int k a,.int k' b=>if k=k' then(xeq xs ys).map (Ar.an (Ar.cmp .eql a b))else none
  | .str a,.str b=>(xeq xs ys).map (Ar.an (Ar.scmp .eql a b))
  | .bool a,.bool b=>(xeq xs ys).map (Ar.an (Ar.beq a b))
  |_,_=>none
 |_,_=>none
def VQ:BinOp->Bool
 | .eql| .neq| .lss| .leq| .gtr| .geq=>true
 |_=>false
def AZ5:BinOp->Bool
 | .quo| .rem=>true
 |_=>false
def Bl6:BinOp->Bool
 | .add| .sub| .mul| .and| .or| .xor| .andNot=>true
 |_=>false
def Bs3 (e:BinOp) (t:Nat) (x y:V) (k:V->Prop):Prop:=
 match x,y with
 | .int g a,.int h b=>
  (match LG e with
   |true=>E.needB (Ar.cmp .geq b 0) λ_=>k (.int g (Ar.sh e g a b))
   | false=>
    if g=h then
     (match VQ e with
      |true=>k (.bool (Ar.cmp e a b))
      |false=>
       match Bl6 e with
       |true=>k (.int g (Ar.ar e g a b))
       |false=>(match AZ5 e with|true=>E.needB (Ar.cmp .neq b 0) λ_=>k (.int g (Ar.ar e g a b))|false=>False))
    else False)
 | .str a,.str b=>
  (match VQ e with
   |true=>k (.bool (Ar.scmp e a b))
   |false=>(match e with| .add=>E.needB (Ar.cmp .leq (Ar.slen (Ar.cat a b)) 9223372036854775807) λ_=>k (.str (Ar.cat a b))|_=>False))
 | .bool a,.bool b=>
  (match tg T t with
   |none=>False
   |some I=>
    match I.bo with
    |true=>(match e with| .eql=>k (.bool (Ar.beq a b))| .neq=>k (.bool (Ar.nt (Ar.beq a b)))|_=>False)
    |false=>False)
 | .agg xs,.agg ys=>
  (match tg T t with
   |none=>False
   | some I=>
    if I.ag=true/\I.ek=some (xs.map kd)/\ys.map kd=xs.map kd then
     (match e with
      | .eql=>(match xeq xs ys with|some b=>k (.bool b)|none=>False)
      | .neq=>(match xeq xs ys with|some b=>k (.bool (Ar.nt b))|none=>False)
      |_=>False)
    else False)
 |_,_=>False
def xun (b:UnOp)(x:Sl)(k:Sl->Prop):Prop:=
 match b with
 | .not=>(match x with| .b c=>k (.b (!c))| .v (.bool c)=>k (.v (.bool (Ar.nt c)))|_=>False)
 | .neg=>(match x with| .v (.int a n)=>k (.v (.int a (Ar.neg a n)))|_=>False)
 |_=>False
def AR2 (s d:Nat) (x:V) (H:A6) (k:V->Prop):Prop:=
 match tg T s,tg T d with
 | some I,some J=>
  (match I.ik,J.ik,x with
   |some _,some a,.int _ n=>k (.int a (Ar.wr a n))
   |_,_,.str b=>(match I.st,J.st with|true,true=>k (.str b)|_,_=>False)
   |_,_,.own id lo n=>E.ostr s d H (.own id lo n) k
   |_,_,.sl xs tl=>E.ostr s d H (.sl xs tl) k
   |_,_,_=>False)
 |_,_=>False
def Ap6 (t:Nat) (a:Up (Nat×V)) (k:V->Prop):Prop:=
 match tg T t with
 |none=>False
 | some I=>
  match I.ze with
  | some (.agg cs)=>
   (match I.ar with
    |some (_,e)=>(match tg T e with|none=>False|some J=>(match OF (λi=>some (i*J.sz,J.sz)) cs a with|some c=>k (.agg c)|none=>False))
    |none=>(match I.pl with|some pl=>(match OF (λi=>pl[i]?) cs a with|some c=>k (.agg c)|none=>False)|none=>False))
  |_=>False
def Li (t n:Nat) (a:Up (Nat×V)) (k:V->Prop):Prop:=
 match tg T t with
 |none=>False
 | some I=>
  match I.sl with
  |none=>False
  | some e=>
   match tg T e with
   |none=>False
   |some J=>
    match J.ze with
    |none=>False
    |some _=>if n*J.sz<=16777216/\a.length=n/\Fm J.sz 0 a=true then k (.sl (a.map λq=>q.2) .full)else False
def Ap2 (t:Nat) (l c:V) (k:V->Prop):Prop:=
 match l,c with
 | .int _ n,.int _ m=>
  (match tg T t with
   |none=>False
   | some I=>
    match I.sl with
    |none=>False
    | some e=>
     match tg T e with
     |none=>False
     |some J=>
      match J.ze with
      |none=>False
      |some z=>if 0<J.sz/\0<J.by_/\z.one=true/\z.cells.length=J.sz/\n=m/\0<=n/\n*(J.by_:Nat)<=281474976710656 then k (.sl (List.replicate n.toNat z) .ro)else False)
 |_,_=>False
def Ao9 (t:Nat) (v:V) (lo U a:OS (OS Int)) (k:V->Prop):Prop:=
 match lo,U,a with
 | some l,some h,some m=>
  (match tg T t with
   |none=>False
   |some I=>
    match I.sl with
    |some e=>(match tg T e with|none=>False|some J=>(match v with| .sl xs tl=>E.slice J.sz xs tl l h m k|_=>False))
    |none=>False)
 |_,_,_=>False
def noPl:J8->Bool
 | .nil=>true
 | .full=>true
 |_=>false
def Sc (b:Builtin) (r:Up Do) (vs:Up V) (k:V->Prop):Prop:=
 match b,r,vs with
 | .len,[t],[x]=>
  (match tg T t with
   |none=>False
   | some I=>
    match I.sl with
    |some _=>(match x with| .sl xs _=>E.ln xs λn=>k (.int .i64 n)|_=>False)
    |none=>
     match I.ar with
     |some (n,_)=>k (.int .i64 (Ar.ofN n))
     |none=>(match x with| .str s=>(match I.st with|true=>k (.int .i64 (Ar.slen s))|false=>False)|_=>False))
 | .max,_,[.int g a,.int h b]=>if g=h then k (.int g (Ar.mx a b))else False
 | .min,_,[.int g a,.int h b]=>if g=h then k (.int g (Ar.mn a b))else False
 | .append,[l,y],[.sl xs tl,.sl ys _]=>
  (match tg T l,tg T y with
   | some I,some i=>
    (match I.sl,i.sl with
     | some e,some _=>
      (match tg T e with
       | some J=>
        (match J.ze with
         |some z=>if 0<J.sz/\0<J.by_/\z.one=true/\z.cells.length=J.sz/\noPl tl=true then E.appq J.sz J.by_ xs ys k else False
         |none=>False)
       |none=>False)
     |_,_=>False)
   |_,_=>False)
 |_,_,_=>False
def Bw8 (c:By)(w:Bool)(G:Up (Nat×Bool)):Up (Nat×Bool):=
 match c with
 | .tmp d=>(d,w)::G
 |_=>G
def AQ6 (t:Bool)(x y:Sl)(k:Sl->Prop):Prop:=
 match x,y with
 | .b true,.b true=>k (.b true)
 | .b true,.b false=>k (.v (.bool t))
 | .b true,.v (.bool b)=>k (.v (.bool (Ar.or t b)))
 | .b false,.b true=>k (.v (.bool (Ar.nt t)))
 | .b false,.b false=>k (.b false)
 | .b false,.v (.bool b)=>k (.v (.bool (Ar.an (Ar.nt t) b)))
 | .v (.bool a),.b true=>k (.v (.bool (Ar.or (Ar.nt t) a)))
 | .v (.bool a),.b false=>k (.v (.bool (Ar.an t a)))
 | .v (.bool a),.v (.bool b)=>k (.v (.bool (Ar.pk t a b)))
 |x,y=>E.br t (λ_=>k x) (λ_=>k y)
def Br5:V->Bool
 | .eref _ _=>true
 | .ref _ _=>true
 |_=>false
def OB (v:V):Bool:=
 match v with
 | .sl [] .nil=>true
 |_=>false
def Bl5 (x:By):Bool:=
 match x with
 | .const (.slice _ _ _)=>true
 |_=>false
def OA (G:Up (Nat×Bool))(o:Oper)(l:Fl):Bool:=
 match o.op with
 | .move x=> !(Bl5 x)
 | .assign x=> !(Bl5 x)
 | .pick _ _ _=>true
 | .load _ x=>Br5 (Ak G l x).V
 | .fieldAddr _ x _=>Br5 (Ak G l x).V
 | .field _ _ _=>true
 | .build _ _=>true
 | .binOp a _ _ _ _=>VQ a||Bl6 a
 | .unOp _ _ _=>true
 | .extract _ _=>true
 | .call c=>(match c.callee with| .builtin .len=>true|_=>false)
 |_=>false
def Bp2 (t:Nat) (H:A6) (id:Nat) (lo n:Int) (i:V) (k:V->Prop):Prop:=
 match i with
 | .int _ i=>
  (match tg T t with
   |none=>False
   |some I=>
    match I.sl with
    |some e=>(match tg T e with|none=>False|some J=>E.oidx H id J.sz lo n i λj=>k (.elem id j J.sz 0))
    |none=>False)
 |_=>False
def AQ9 (b:Builtin) (a:Up Do) (H:A6) (v:V) (k:V->Prop):Prop:=
 match a with
 | [t] =>
  (match tg T t with
   |none=>False
   | some I=>
    (match I.sl with
     | some _=>
      (match b,v with
       | .len,.own _ _ n=>E.olen n λn=>k (.int .i64 n)
       | .cap,.own id lo _=>E.ocap H id lo λn=>k (.int .i64 n)
       | .cap,.sl [] .nil=>k (.int .i64 0)
       | .cap,.sl [] .full=>k (.int .i64 0)
       |_,_=>False)
     |none=>False))
 |_=>False
def At0 (b:Builtin)(vs:Up V):OS V:=
 match b,vs with
 | .len,[.own id lo n]=>some (.own id lo n)
 | .cap,[v]=>some v
 |_,_=>none
def Yz (t:Nat) (H:A6) (id:Nat) (l n:Int) (lo U g:OS (OS Int)) (k:V->Prop):Prop:=
 match lo,U,g with
 | some a,some b,some c=>
  (match tg T t with
   |none=>False
   |some I=>(match I.sl with|some e=>(match tg T e with|none=>False|some J=>E.oslice J.sz H id l n a b c k)|none=>False))
 |_,_,_=>False
def xq (G:Up (Nat×Bool)) (o:Oper) (l:Fl) (H:A6) (k:Sl->Prop):Prop:=
 match o.op with
 | .move x=>k (Ak G l x)
 | .assign x=>k (Ak G l x)
 | .pick c x y=>
  (match Ak G l c with
   | .b true=>k (Ak G l x)
   | .b false=>k (Ak G l y)
   | .v (.bool t)=>AQ6 E t (Ak (Bw8 c true G) l x) (Ak (Bw8 c false G) l y) k
   |_=>False)
 | .box _ x=>(match(Ak G l x).V.one with|true=>k (.v (.eref (Ak G l x).V.cells 0))|false=>False)
 | .build t e=>Ap6 T t (e.toList.map λp=>(p.1,(Ak G l p.2).V)) λv=>k (.v v)
 | .buildSlice t n e=>Li T t n (e.toList.map λp=>(p.1,(Ak G l p.2).V)) λv=>k (.v v)
 | .makeSlice t x y=>Ap2 T t (Ak G l x).V (Ak G l y).V λv=>k (.v v)
 | .load t x=>Ay6 E T t (Ak G l x).V H λv=>k (.v v)
 | .nilCheck x=>(match AB5 (Ak G l x).V with|true=>k (Ak G l x)|false=>False)
 | .binOp a t x y _=>Bs3 E T a t (Ak G l x).V (Ak G l y).V λv=>k (.v v)
 | .unOp a _ x=>xun a (Ak G l x) k
 | .convert s d x=>AR2 E T s d (Ak G l x).V H λv=>k (.v v)
 | .lookup t x y ok=>E.mget t H (Ak G l x).V (Ak G l y).V ok λv=>k (.v v)
 | .makeInterface t x=>(match tg T t with|some I=>(match I.nif with|true=>k (.v (.iface t (Ak G l x).V))|false=>False)|none=>False)
 | .makeFunc fn fs cs=>k (.v (.func fn (fs.toList.map λx=>(Ak G l x).V) (cs.toList.map λx=>(Ak G l x).V)))
 | .slice t x lo U g=>
  match(Ak G l x).V with
  | .own id h n=>Yz E T t H id h n (Ex (lo.map λx=>(Ak G l x).V)) (Ex (U.map λx=>(Ak G l x).V)) (Ex (g.map λx=>(Ak G l x).V)) λv=>k (.v v)
  |v=>Ao9 E T t v (Ex (lo.map λx=>(Ak G l x).V)) (Ex (U.map λx=>(Ak G l x).V)) (Ex (g.map λx=>(Ak G l x).V)) λv=>k (.v v)
 | .fieldAddr t x f=>Qc T t (Ak G l x).V f λv=>k (.v v)
 | .field t x f=>Ap4 T t (Ak G l x).V f λv=>k (.v v)
 | .indexAddr t x y=>(match(Ak G l x).V with| .own id lo n=>Bp2 E T t H id lo n (Ak G l y).V λv=>k (.v v)|v=>Qb E T t v (Ak G l y).V λv=>k (.v v))
 | .index t x y=>Ap3 E T t (Ak G l x).V (Ak G l y).V λv=>k (.v v)
 | .extract x n=>(match(Ak G l x).V with| .tup cs=>LQ cs[n]? λv=>k (.v v)|_=>False)
 | .call c=>
  (match c.callee with
   | .builtin b=>
    (match At0 b (c.args.toList.map λx=>(Ak G l x).V)with
     |some w=>AQ9 E T b c.argTypes.toList H w λv=>k (.v v)
     |none=>Sc E T b c.argTypes.toList (c.args.toList.map λx=>(Ak G l x).V) λv=>k (.v v))
   |_=>False)
 |_=>False
end
end Go.Ab
