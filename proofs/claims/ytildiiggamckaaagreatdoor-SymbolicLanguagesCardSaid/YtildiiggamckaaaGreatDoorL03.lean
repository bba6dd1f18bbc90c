/- AbN1 AbN2 AbN3 AbA11 AbA12 AbA13 AbA14 -/
import Derived.Test.YtildiiggamckaaaGreatDoorL02
import Derived.MapKept
import Derived.RangeFuncRecord
import Derived.Laws.BytesString
import Derived.Maps.RangeRun
import Derived.OrdersIn
set_option linter.all false
namespace Go.Ab
open Go.RowKit Go.MapKept
variable [K9]
def JM :V→Option Value
 | .bool b=>some (.bool b)
 | .int k n=>some (.int k n)
 | .str s=>some (.string s)
 |_=>none
def Ip :List V→Option (List Value)
 |[]=>some []
 |x::l=>match JM x,Ip l with|some v,some r=>some (v::r)|_,_=>none
def Bh :V→Option Value
 | .agg cs=>(Ip cs).map fun l=>.agg l.toArray
 |v=>JM v
theorem TL {g:Gh}{w:World}{x:V}{u v:Value}(h:JM x=some u)(hv:VR g w v x):v=u:=by
 cases x<;>simp only[JM,D9,reduceCtorEq]at h<;>subst h<;>cases hv<;>rfl
theorem TK {g:Gh}{w:World}{x:V}{u:Value}(h:JM x=some u):VR g w u x:=by
 cases x<;>simp only[JM,D9,reduceCtorEq]at h<;>subst h<;>constructor
theorem ZI {x:V}{u:Value}(h:JM x=some u):u.oneCell'=true:=by
 cases x<;>simp only[JM,D9,reduceCtorEq]at h<;>subst h<;>rfl
theorem TM {x y:V}{u:Value}(h:JM x=some u)(h':JM y=some u):x=y:=by
 cases x<;>simp only[JM,D9,reduceCtorEq]at h<;>subst h<;>cases y<;>simp_all[JM]
theorem Po :∀{l:List V} {r:List Value},Ip l=some r→r.length=l.length
 |[],r,h=>by simp_all[Ip]
 |x::l,r,h=>by
  unfold Ip at h
  split at h
  ·rename_i v r' h1 h2;cases h;simp[Po h2]
  cases h
theorem OA :∀{l:List V} {r:List Value},Ip l=some r→∀i,i<l.length→JM (l.getD i .bad)=some (r.getD i undef)
 |[],r,h,i,hi=>by simp at hi
 | x::l,r,h,i,hi=>by
  unfold Ip at h
  split at h
  ·rename_i v r' h1 h2;cases h
   cases i with
   |zero=>grind
   |succ i=>simpa using OA h2 i (by grind)
  cases h
theorem Pm {g:Gh} {w:World} {x:V} {u:Value} (h:Bh x=some u):VR g w u x:=by
 unfold Bh at h
 split at h
 ·rename_i cs
  cases hr:Ip cs with
  |none=>rw[hr]at h;cases h
  |some r=>
   rw[hr]at h
   simp only[H8,D9]at h
   subst h;have e:=Po hr;refine .agg (by simp[e]) (fun i hi=>?_) fun i hi=>?_
   ·have:=ZI (OA hr i hi);simp_all
   have:=TK (g:=g) (w:=w) (OA hr i hi);simp_all
 grind [TK]
theorem HT {g:Gh} {w:World} {x:V} {u v:Value} (h:Bh x=some u) (hv:VR g w v x):v=u:=by
 unfold Bh at h
 split at h
 ·rename_i cs
  cases hr:Ip cs with
  |none=>rw[hr]at h;cases h
  | some r=>
   rw[hr]at h
   simp only[H8,D9]at h
   subst h;have e:=Po hr
   cases hv with
   |agg hl h1 hv=>
    rename_i vs
    congr 1
    apply Fa
    ·simp[hl,e]
    intro i hi hi'
    have hi2:i<cs.length:=by omega
    have:=TL (OA hr i hi2) (hv i hi2)
    simp_all
 grind [TL]
def IQ (es:Array MapEntry)(clock:Nat):Prop:=(∀x∈es.toList,x.born<clock)∧(es.toList.map (·.born)).Nodup
theorem IQ.empty :IQ #[] 0:=⟨fun x h=>by simp at h,by simp⟩
theorem IQ.push {es:Array MapEntry}{clock:Nat}(h:IQ es clock)(k v:Value):IQ (es.push {key:=k,val:=v,born:=clock}) (clock+1):=by
 grind [IQ]
theorem IQ.modify {es:Array MapEntry} {clock:Nat} (h:IQ es clock) (i:Nat) (k v:Value):IQ (es.modify i fun e=>{e with key:=k,val:=v}) clock:=by
 have hb:(es.modify i fun e=>{e with key:=k,val:=v}).toList.map (·.born)=es.toList.map (·.born):=by
  apply AH
  grind
 refine⟨fun x hx=>?_,by rw[hb];exact h.2⟩
 have:x.born∈es.toList.map (·.born):=by rw[←hb];grind
 grind [IQ]
theorem IQ.sub {es es':Array MapEntry}{clock:Nat}(h:IQ es clock)(hs:es'.toList.Sublist es.toList):IQ es' clock:=⟨fun x hx=>h.1 x (hs.subset hx),(hs.map _).nodup h.2⟩
theorem TO :∀{l l':List V} {r:List Value},Ip l=some r→Ip l'=some r→l=l'
 |[],l',r,h,h'=>by
  simp only[Ip,D9]at h;subst h
  cases l' with
  |nil=>rfl
  |cons x l=>grind [Ip]
 | x::l,l',r,h,h'=>by
  unfold Ip at h
  split at h
  ·rename_i v r' h1 h2;cases h
   cases l' with
   |nil=>cases h'
   |cons y l'=>
    unfold Ip at h'
    split at h'
    ·rename_i v2 r2 h3 h4;cases h';rw[TM h1 h3,TO h2 h4]
    cases h'
  cases h
theorem TN {x:V}{u:Value}(h:JM x=some u)(c:Array Value):u≠ .agg c:=by
 cases x<;>simp only[JM,D9,reduceCtorEq]at h<;>subst h<;>simp
theorem Lu {x:V} {u:Value} (h:Bh x=some u):(∃cs r,x= .agg cs∧Ip cs=some r∧u= .agg r.toArray)∨JM x=some u:=by
 unfold Bh at h
 split at h
 ·rename_i cs
  cases hr:Ip cs with
  |none=>rw[hr]at h;cases h
  |some r=>rw[hr]at h;simp_all
 grind
theorem Pn {x y:V} {u:Value} (h:Bh x=some u) (h':Bh y=some u):x=y:=by
 rcases Lu h with⟨a,r,rfl,h1,rfl⟩|h1
 ·rcases Lu h' with⟨b,r2,rfl,h2,e⟩|h2
  ·have:r=r2:=by grind
   grind [TO]
  grind [TN]
 rcases Lu h' with⟨b,r2,rfl,h2,rfl⟩|h2
 ·grind [TN]
 grind [TM]
def EP :TypeDesc→Value→Prop
 | .array n _,v=>LQ .i64 n v
 | .struct fs,v=>LQ .i64 fs.size v
 |d,v=>IsKey d v
structure Ag (d:TypeDesc) (o:Obj) (m:List (V×V)):Prop where
 ex:∃es clock,o= .map es clock∧es.toList.map (fun e=>(some e.key,some e.val))=m.map fun p=>(Bh p.1,Bh p.2)
 keys:∀p∈m,∃k,Bh p.1=some k∧EP d k
 nodup:(m.map (·.1)).Nodup
 st:∀es clock,o= .map es clock→IQ es clock
theorem Ag.empty (d:TypeDesc):Ag d (.map #[] 0) []:=⟨⟨_,_,rfl,rfl⟩,fun p h=>(by cases h),List.nodup_nil,fun es clock h=>by simp_all[IQ]⟩
theorem KE {α:Type}{l:List α}(h:l.Nodup){i j:Nat}(hi:i<l.length)(hj:j<l.length)(e:l[i]=l[j]):i=j:=by
 have h:=List.pairwise_iff_getElem.1 h
 grind
def Ar3 (P:Program)(et:TypeId)(m:List (V×V))(key:V)(ok:Bool)(v:V):Prop:=
 ((∀p∈m,p.1≠key)∧∃z,Hi P et=some z∧v=if ok=true then .tup [z,.bool false]else z)∨∃y,(key,y)∈m∧v=if ok=true then .tup [y,.bool true]else y
def Al8 (P:Program)(H:A1)(t:TypeId)(x key:V)(ok:Bool)(v:V):Prop:=
 ∃kt et d kv id o m,P.underlying t=some (.map kt et)∧KG P kt (EP d)∧Bh key=some kv∧EP d kv∧x= .map id∧H id=some (.obj o)∧Ag d o m∧Ar3 P et m key ok v
def Xb (P:Program)(t:TypeId)(x key:V)(ok:Bool)(v:V):Prop:=
 ∃kt et ks xs n,P.underlying t=some (.map kt et)∧P.underlying kt=some (.int .i64)∧x= .fmap ks xs∧key= .int .i64 n∧ok=false∧((∃i:Nat,ks[i]? =some n∧v=xs.getD i .bad)∨((∀k∈ks,k≠n)∧Hi P et=some v))
def WZ (P:Program) (H:A1) (t:TypeId) (x key:V) (ok:Bool) (v:V):Prop:=
 ∃kt et G kv id ks xs,P.underlying t=some (.map kt et)∧KG P kt G∧Bh key=some kv∧G kv∧x= .map id∧H id=some (.vm ks xs)∧(∀k∈ks,G k)∧
  (((∀k∈ks,k≠kv)∧∃z z',Hi P et=some z∧BQ z z'∧v=if ok=true then .tup [z',.bool false]else z')∨∃i:Nat,ks[i]? =some kv∧v=if ok=true then .tup [xs.getD i .bad,.bool true]else xs.getD i .bad)
def KK (P:Program)(H:A1)(t:TypeId)(x key:V)(ok:Bool)(v:V):Prop:=Al8 P H t x key ok v∨Xb P t x key ok v∨WZ P H t x key ok v
def Ab1 (H:A1)(K:V→A1→Prop):Prop:=(∀id,H id=none→K (.map id) (upd H id (some (.obj (.map #[] 0)))))∨(∀id,H id=none→K (.map id) (upd H id (some (.fm [] []))))∨∀id,H id=none→K (.map id) (upd H id (some (.vm [] [])))
def WD (P:Program)(H:A1)(K:V→A1→Prop)(t:TypeId)(x key val:V):Prop:=
 ∃kt et ks xs n id,P.underlying t=some (.map kt et)∧P.underlying kt=some (.int .i64)∧x= .map id∧H id=some (.fm ks xs)∧key= .int .i64 n∧(∀k∈ks,k≠n)∧K .bad (upd H id (some (.fm (ks++[n]) (xs++[val]))))
def Av2 (m:List (V×V))(k v:V)(m':List (V×V)):Prop:=
 ((∀p∈m,p.1≠k)∧m'=m++[(k,v)])∨∃a y b,m=a++(k,y)::b∧m'=a++(k,v)::b
def Ag8 (P:Program) (H:A1) (K:V→A1→Prop) (t:TypeId) (x key val:V):Prop:=
 ∃kt et d kv vv id o m m',P.underlying t=some (.map kt et)∧KG P kt (EP d)∧Bh key=some kv∧EP d kv∧Bh val=some vv∧x= .map id∧H id=some (.obj o)∧Ag d o m∧Av2 m key val m'∧
  ∀o',Ag d o' m'→K .bad (upd H id (some (.obj o')))
def WC (P:Program) (H:A1) (K:V→A1→Prop) (t:TypeId) (x key val:V):Prop:=
 ∃kt et G kv id ks xs,P.underlying t=some (.map kt et)∧KG P kt G∧Bh key=some kv∧G kv∧x= .map id∧H id=some (.vm ks xs)∧(∀k∈ks,G k)∧
  (((∀k∈ks,k≠kv)∧K .bad (upd H id (some (.vm (ks++[kv]) (xs++[val])))))∨∃i:Nat,ks[i]? =some kv∧K .bad (upd H id (some (.vm ks (xs.set i val)))))
def Kt (P:Program)(H:A1)(K:V→A1→Prop)(t:TypeId)(x key val:V):Prop:=Ag8 P H K t x key val∨WD P H K t x key val∨WC P H K t x key val
theorem Yj {H:A1}{K K':V→A1→Prop}(h:Ab1 H K)(hk:∀v H',K v H'→K' v H'):Ab1 H K':=h.imp (fun h id hid=>hk _ _ (h id hid)) fun h=>h.imp (fun h id hid=>hk _ _ (h id hid)) fun h id hid=>hk _ _ (h id hid)
theorem Ge {P:Program}{H:A1}{K K':V→A1→Prop}{t:TypeId}{x key val:V}(h:Kt P H K t x key val)(hk:∀H',K .bad H'→K' .bad H'):Kt P H K' t x key val:=by
 rcases h with⟨kt,et,d,kv,vv,id,o,m,m',h1,h2,h3,h4,h5,h6,h7,h8,h9,h⟩|⟨kt,et,ks,xs,n,id,h1,h2,h3,h4,h5,h6,h⟩|⟨kt,et,G,kv,id,ks,xs,h1,h2,h3,h4,h5,h6,h7,h⟩
 ·exact .inl ⟨kt,et,d,kv,vv,id,o,m,m',h1,h2,h3,h4,h5,h6,h7,h8,h9,fun o' ho=>hk _ (h o' ho)⟩
 ·exact .inr (.inl ⟨kt,et,ks,xs,n,id,h1,h2,h3,h4,h5,h6,hk _ h⟩)
 exact .inr (.inr ⟨kt,et,G,kv,id,ks,xs,h1,h2,h3,h4,h5,h6,h7,h.imp (fun h=>⟨h.1,hk _ h.2⟩) fun⟨i,a,b⟩=>⟨i,a,hk _ b⟩⟩)
theorem Sw {P:Program}{H H':A1}{t:TypeId}{x key v:V}{ok:Bool}(hl:∀id b,H id=some b→H' id=some b)(h:KK P H t x key ok v):KK P H' t x key ok v:=by
 rcases h with⟨kt,et,d,kv,id,o,m,h1,h2,h3,h4,h5,h6,h7⟩|h|⟨kt,et,G,kv,id,ks,xs,h1,h2,h3,h4,h5,h6,h7⟩
 ·exact .inl ⟨kt,et,d,kv,id,o,m,h1,h2,h3,h4,h5,hl _ _ h6,h7⟩
 ·simp_all[KK]
 exact .inr (.inr ⟨kt,et,G,kv,id,ks,xs,h1,h2,h3,h4,h5,hl _ _ h6,h7⟩)
theorem Ag.entry {d:TypeDesc}{m:List (V×V)}{es:Array MapEntry}(he:es.toList.map (fun e=>(some e.key,some e.val))=m.map fun p=>(Bh p.1,Bh p.2))(j:Nat):
 (∀e,es[j]? =some e→∃p,m[j]? =some p∧Bh p.1=some e.key∧Bh p.2=some e.val)∧∀p,m[j]? =some p→∃e,es[j]? =some e∧Bh p.1=some e.key∧Bh p.2=some e.val:=by
 have:=O8 (fun l=>l[j]?) he
 grind
theorem Ag.isKeys {d:TypeDesc}{m:List (V×V)}{es:Array MapEntry}(he:es.toList.map (fun e=>(some e.key,some e.val))=m.map fun p=>(Bh p.1,Bh p.2))(hk:∀p∈m,∃k,Bh p.1=some k∧EP d k):∀e∈es.toList,EP d e.key:=by
 intro e h;obtain⟨j,hj,e1⟩:=Z9 h;obtain⟨p,h1,h2,_⟩:=(Ag.entry (d:=d) he j).1 e (by rw[←Ce,E2 hj,e1]);obtain⟨k,h3,h4⟩:=hk p (I7 h1)
 rw[h2]at h3;simp_all
theorem Kq {w:World}{b:Nat}{o o':Obj}(hw:w.heap[b]? =some o)(hc:Obj.isCells o=false)(hc':Obj.isCells o'=false)(x i:Nat):(w.putObj b o').cell? ⟨x,i,none⟩=w.cell? ⟨x,i,none⟩:=by
 by_cases h:x=b
 ·subst h;have h1:=World.putObj_heap_same (w:=w) (o:=o') (Su hw);simp only[World.cell?,h1,hw];cases o<;>cases o'<;>simp_all[Obj.isCells]
 grind [World.cell?_of_block,World.putObj_heap_other]
theorem Rl.putObj {g:Gh} {H:A1} {w:World} (h:Rl g H w) {id b:Nat} {o o':Obj} (hk:H id=some (.obj o)) (hb:g.mu id=some b) (hc':Obj.isCells o'=false):
 U1 g w g (w.putObj b o')∧Rl g (upd H id (some (.obj o'))) (w.putObj b o'):=by
 obtain⟨b',h1,h2,h3,h4⟩:=h.blk id _ hk
 have e:b'=b:=by rw[hb]at h1;simp_all
 subst e;have hcell:=Kq (o':=o') h3 h4 hc'
 have s:U1 g w g (w.putObj b' o'):=by
  refine⟨fun _ _ e=>e,fun _ _ e=>e,fun _ _ e=>e,rfl,fun b o _=>hcell b o,⟨rfl,rfl,rfl,by simp,fun k hk=>World.putObj_heap_other (by omega)⟩,fun _ _ _=>rfl,D1 _⟩
 have hat:∀x,g.at (upd H id (some (.obj o'))) x=g.at H x:=by
  grind [Gh.at,upd]
 have hid:g.at H id=some b':=by simp_all[Gh.at]
 refine⟨s,fun x k hx=>?_,fun x x' y h1 h2=>h.inj x x' y (hat x▸h1) (hat x'▸h2),fun y o hf=>?_,fun x hx=>?_,?_,fun n=>(h.glb n).mono s⟩
 ·by_cases hxe:x=id
  ·subst hxe;rw[C8]at hx;cases hx
   exact⟨b',hb,h2,World.putObj_heap_same (Su h3),hc'⟩
  rw[C1 _ _ hxe]at hx
  refine(h.blk x k hx).mono hx s fun y hy=>⟨World.putObj_heap_other fun e=>?_,fun _ ho=>ho⟩;subst e;exact hxe (h.inj _ _ _ hy hid)
 ·obtain⟨v,hv'⟩:=h.frz y o hf
  simp_all
 ·obtain⟨a1,a2,a3⟩:=h.nxt x hx
  have hne:x≠id:=fun e=>by simp_all
  simp_all[upd]
 have:=h.bnd;simp;omega
def CT.fixed :CT→Bool
 | .obj _=>true
 | .loop _=>true
 | .iter _ _ _ _=>true
 | .fm _ _=>true
 | .vm _ _=>true
 |_=>false
theorem CA.fixed {g:Gh}{w:World}{id:Nat}{k:CT}(hk:k.fixed=true)(h:CA g w id k):∃b o,g.mu id=some b∧g.base≤b∧w.heap[b]? =some o∧Obj.isCells o=false:=by
 cases k with
 |cells _=>cases hk
 |spare=>cases hk
 |obj o=>grind [CA]
 |loop L=>grind [Obj.isCells,CA]
 |arr _ _=>cases hk
 |fm ks xs=>grind [Obj.isCells,CA]
 |vm ks xs=>grind [Obj.isCells,CA]
 |iter mid since seen c0=>grind [Obj.isCells,CA]
theorem Gh.at_fixed {g:Gh}{H:A1}{id:Nat}{k:CT}(hk:k.fixed=true)(h:H id=some k):g.at H id=g.mu id:=by
 cases k<;>simp_all[Gh.at,CT.fixed]
theorem Rl.putGen {g:Gh} {H:A1} {w:World} (h:Rl g H w) {id b:Nat} {k k':CT} {o':Obj} (hf:k.fixed=true) (hf':k'.fixed=true) (hk:H id=some k) (hb:g.mu id=some b) (hc':Obj.isCells o'=false)
 (hok:U1 g w g (w.putObj b o')→(w.putObj b o').heap[b]? =some o'→g.base≤b→CA g (w.putObj b o') id k'):
 U1 g w g (w.putObj b o')∧Rl g (upd H id (some k')) (w.putObj b o'):=by
 obtain⟨b',o,h1,h2,h3,h4⟩:=(h.blk id _ hk).fixed hf
 have e:b'=b:=by rw[hb]at h1;simp_all
 subst e;have hcell:=Kq (o':=o') h3 h4 hc'
 have s:U1 g w g (w.putObj b' o'):=by
  refine⟨fun _ _ e=>e,fun _ _ e=>e,fun _ _ e=>e,rfl,fun b o _=>hcell b o,⟨rfl,rfl,rfl,by simp,fun k hk=>World.putObj_heap_other (by omega)⟩,fun _ _ _=>rfl,D1 _⟩
 have hat:∀x,g.at (upd H id (some k')) x=g.at H x:=by
  grind [Gh.at_fixed,Gh.at,upd]
 have hid:g.at H id=some b':=by rw[Gh.at_fixed hf hk,hb]
 refine⟨s,fun x k hx=>?_,fun x x' y h1 h2=>h.inj x x' y (hat x▸h1) (hat x'▸h2),fun y o hf=>?_,fun x hx=>?_,?_,fun n=>(h.glb n).mono s⟩
 ·by_cases hxe:x=id
  ·grind [C8,World.putObj_heap_same]
  rw[C1 _ _ hxe]at hx
  refine(h.blk x k hx).mono hx s fun y hy=>⟨World.putObj_heap_other fun e=>?_,fun _ ho=>ho⟩;subst e;exact hxe (h.inj _ _ _ hy hid)
 ·obtain⟨v,hv'⟩:=h.frz y o hf
  simp_all
 ·obtain⟨a1,a2,a3⟩:=h.nxt x hx
  have hne:x≠id:=fun e=>by simp_all
  simp_all[upd]
 have:=h.bnd;simp;omega
section
variable {P:Program}{o:Oper}{fr:Fr}{H:A1}{K:V→A1→Prop}
theorem Tu {t:TypeId}(ho:o.op= .makeMap t none)(h:∀id,H id=none→K (.map id) (upd H id (some (.obj (.map #[] 0))))):H5 P o fr H K:=by
 intro g w a hR hE;have s:=U1.new hR (.map #[] 0) False 0;have r:=hR.newNamed (.map #[] 0) (.obj (.map #[] 0)) (by simp) ⟨w.heap.size,by simp[Gh.new],hR.bnd,Aw,rfl⟩;unfold execOp;rw[ho];simp only[Jb,Instr.makeMap,B5,B9,run_newObj,B2,G6];exact⟨_,_,_,s,r,.map (by simp[Gh.new]),h g.nx (hR.nxt _ (D1 _)).2.2⟩
theorem NY {g:Gh}{w:World}{v:Value}{n:Int}(h:VR g w v (.int .i64 n)):v= .int .i64 n:=by cases h;rfl
theorem Ad2 {es:Array MapEntry}{ks:List Int}(hk:es.toList.map (·.key)=ks.map (Value.int .i64)){j:Nat}{e:MapEntry}(he:es[j]? =some e):∃k,ks[j]? =some k∧e.key= .int .i64 k:=by
 have:=O8 (fun l=>l[j]?) hk
 grind
theorem Xn {es:Array MapEntry}{ks:List Int}(hk:es.toList.map (·.key)=ks.map (Value.int .i64)):∀e∈es.toList,IsKey (.int .i64) e.key:=by
 intro e he;obtain⟨j,hj,e1⟩:=Z9 he;obtain⟨k,_,h2⟩:=Ad2 hk (j:=j) (e:=e) (by rw[←Ce,E2 hj,e1]);rw[h2];rfl
theorem Tx {t:TypeId} {x y:Operand} {ok:Bool} {v:V} (ho:o.op= .lookup t x y ok) (hl:Xb P t (ev fr x) (ev fr y) ok v) (h:K v H):H5 P o fr H K:=by
 intro g w a hR hE;obtain⟨kt,et,ks,xs,n,h1,h2,h3,h4,rfl,h5⟩:=hl;have hx:=D8 hR hE x;have hy:=D8 hR hE y
 rw[h4]at hy
 have hy:=NY hy
 rw[h3]at hx
 generalize hav:a.eval x=xv at hx
 cases hx with
 | fmap hb hw hk hn hlen hv=>
  rename_i b es clock;have hks:=Xn hk;have hIs:IsKey (.int .i64) (Value.int .i64 n):=rfl;unfold execOp;rw[ho];simp only[hav,hy,Instr.lookup,B5,run_underlying h1,B2,AI hw,B9,run_checkKey h2 hIs]
  rcases findNow_spec hIs es.toList 0 hks with⟨f1,f2⟩|⟨j,e,f1,f2,f3⟩
  ·simp only[run_findKey h2 f1,B2]
   rcases h5 with⟨i,q1,q2⟩|⟨q1,q2⟩
   ·exfalso;have:=O8 (fun l=>l[i]?) hk
    grind
   obtain⟨zv,ez,hz⟩:=CB q2
   have hzr:VR g w zv v:=by rw[ez];grind [Du]
   simp only[B5,hz,B2,B9,G6]
   grind [K6.here]
  simp only[run_findKey h2 f1,B2,G6]
  have f2':es[j]? =some e:=by grind
  obtain⟨k,g1,g2⟩:=Ad2 hk f2'
  have hkn:k=n:=by rw[f3]at g2;simp_all
  subst hkn;have hvr:=hv j e f2'
  rcases h5 with⟨i,q1,q2⟩|⟨q1,q2⟩
  ·have hj:j<ks.length:=by
    grind
   have hi:i<ks.length:=by
    grind
   have:i=j:=KE hn hi hj (by rw[E2 hi]at q1;rw[E2 hj]at g1;rw[X8 q1,X8 g1]);subst this
   rw[←q2]at hvr
   exact K6.here hR hvr h
  grind
theorem Sa {t:TypeId}(ho:o.op= .makeMap t none)(h:∀id,H id=none→K (.map id) (upd H id (some (.fm [] [])))):H5 P o fr H K:=by
 intro g w a hR hE;have s:=U1.new hR (.map #[] 0) False 0;have r:=hR.newNamed (.map #[] 0) (.fm [] []) (by simp) ⟨w.heap.size, #[],0,by simp[Gh.new],hR.bnd,Aw,rfl,GU,rfl,fun i e hi=>by simp at hi⟩;unfold execOp;rw[ho];simp only[Jb,Instr.makeMap,B5,B9,run_newObj,B2,G6];exact⟨_,_,_,s,r,.map (by simp[Gh.new]),h g.nx (hR.nxt _ (D1 _)).2.2⟩
theorem Pb {t:TypeId} {x y z:Operand} (ho:o.op= .mapUpdate t x y z∨o.op= .insert t x y z) (hl:WD P H K t (ev fr x) (ev fr y) (ev fr z)):H5 P o fr H K:=by
 intro g w a hR hE;obtain⟨kt,et,ks,xs,n,id,h1,h2,h3,h4,h5,h6,h⟩:=hl;have hx:=D8 hR hE x;have hy:=D8 hR hE y;have hz:=D8 hR hE z
 rw[h5]at hy
 have hy:=NY hy
 rw[h3]at hx
 generalize hav:a.eval x=xv at hx
 cases hx with
 | map hm=>
  rename_i b;obtain⟨b',es,clock,k1,k2,k3,k4,k5,k6,k7⟩:=hR.blk id _ h4
  rw[hm]at k1;cases k1
  have hks:=Xn k4;have hIs:IsKey (.int .i64) (Value.int .i64 n):=rfl
  have hne:∀e∈es.toList,e.key≠ .int .i64 n:=by
   intro e he hc;obtain⟨j,hj,e1⟩:=Z9 he;obtain⟨k,q1,q2⟩:=Ad2 k4 (j:=j) (e:=e) (by rw[←Ce,E2 hj,e1])
   rw[hc]at q2
   grind
  rcases findNow_spec hIs es.toList 0 hks with⟨f1,f2⟩|⟨j,e,f1,f2,f3⟩
  ·have hes:es.size=ks.length:=by have:=O8 List.length k4;grind
   obtain⟨q1,q2⟩:=hR.putGen (k':=.fm (ks++[n]) (xs++[ev fr z])) (o':=.map (es.push {key:=.int .i64 n,val:=a.eval z,born:=clock}) (clock+1)) rfl rfl h4 hm rfl fun s hh hb=>
    ⟨b,_,_,hm,hb,hh,by simp[k4],by
     rw[Ex];simp_all,by simp[k6],fun i e hi=>by
     rw[Array.getElem?_push]at hi
     split at hi
     ·rename_i hie;cases hi
      have:i=xs.length:=by omega
      subst this
      simpa using hz.mono s
     rename_i hie
     have hlt:i<xs.length:=by
      have:=(Array.getElem?_eq_some_iff.1 hi).1;omega
     have:=(k7 i e hi).mono s
     grind⟩
   have hr:(Instr.mapUpdate t (.map (some b)) (.int .i64 n) (a.eval z)).run P w= .ok () (w.putObj b (.map (es.push {key:=.int .i64 n,val:=a.eval z,born:=clock}) (clock+1))):=by
    simp only[Instr.mapUpdate,B5,run_underlying h1,B2,AI k3,run_checkKey h2 hIs,run_findKey h2 f1,run_setObj_map _ k3];rfl
   have hex:(execOp a.eval o).run P w= .ok .skip (w.putObj b (.map (es.push {key:=.int .i64 n,val:=a.eval z,born:=clock}) (clock+1))):=by
    unfold execOp
    rcases ho with ho|ho<;>rw[ho]<;>simp only[hav,hy,B5,hr,B2,B9]
   rw[hex];exact⟨_,_,_,q1,q2,.bad _,h⟩
  grind
theorem Aq0 {es:Array MapEntry}{ks:List Value}(hk:es.toList.map (·.key)=ks){j:Nat}{e:MapEntry}(he:es[j]? =some e):ks[j]? =some e.key:=by
 rw[←hk];simp[he]
theorem WA {G:Value→Prop}{es:Array MapEntry}{ks:List Value}(hk:es.toList.map (·.key)=ks)(hG:∀k∈ks,G k):∀e∈es.toList,G e.key:=fun e he=>
 hG _ (by rw[←hk];grind)
theorem Zg {ks:List Value}(hn:ks.Nodup){i j:Nat}{k:Value}(hi:ks[i]? =some k)(hj:ks[j]? =some k):i=j:=by
 grind [KE]
theorem Tw {t:TypeId} {x y:Operand} {ok:Bool} {v:V} (ho:o.op= .lookup t x y ok) (hl:WZ P H t (ev fr x) (ev fr y) ok v) (h:K v H):H5 P o fr H K:=by
 intro g w a hR hE;obtain⟨kt,et,G,kv,id,ks,xs,h1,h2,h3,h4,h5,h6,h7,h8⟩:=hl;have hx:=D8 hR hE x;have hy:=HT h3 (D8 hR hE y)
 rw[h5]at hx
 generalize hav:a.eval x=xv at hx
 cases hx with
 | map hm=>
  rename_i b;obtain⟨b',es,clock,k1,k2,k3,k4,k5,k6,k7⟩:=hR.blk id _ h6
  rw[hm]at k1;cases k1
  have hks:=WA k4 h7;unfold execOp;rw[ho];simp only[hav,hy,Instr.lookup,B5,run_underlying h1,B2,AI k3,B9,(fun em=>h2.check w em h4)]
  rcases h2.find w h4 es.toList hks with⟨f1,f2⟩|⟨j,e,f1,f2,f3⟩
  ·simp only[f1,B2]
   rcases h8 with⟨q1,z,z',q2,q4,q3⟩|⟨i,q1,q2⟩
   ·obtain⟨zv,ez,hz⟩:=CB q2;have hzr:VR g w zv z':=VR.le (by rw[ez];grind [Du]) q4;simp only[B5,hz,B2,B9,G6];subst q3;cases ok
    ·grind [K6.here]
    refine K6.here hR (.tup rfl fun i hi=>?_) h
    match i with
    |0=>exact hzr
    |1=>exact .bool _
    |i+2=>grind
   grind
  simp only[f1,B2,G6]
  have f2':es[j]? =some e:=by grind
  have g1:=Aq0 k4 f2'
  rw[f3]at g1
  rcases h8 with⟨q1,_⟩|⟨i,q1,q2⟩
  ·grind
  have hij:=Zg k5 q1 g1;subst hij;have hvr:=k7 i e f2';subst q2;cases ok
  ·exact K6.here hR hvr h
  refine K6.here hR (.tup rfl fun i hi=>?_) h
  match i with
  |0=>exact hvr
  |1=>exact .bool _
  |i+2=>grind
theorem RZ {t:TypeId}(ho:o.op= .makeMap t none)(h:∀id,H id=none→K (.map id) (upd H id (some (.vm [] [])))):H5 P o fr H K:=by
 intro g w a hR hE;have s:=U1.new hR (.map #[] 0) False 0;have r:=hR.newNamed (.map #[] 0) (.vm [] []) (by simp) ⟨w.heap.size, #[],0,by simp[Gh.new],hR.bnd,Aw,rfl,GU,rfl,fun i e hi=>by simp at hi⟩;unfold execOp;rw[ho];simp only[Jb,Instr.makeMap,B5,B9,run_newObj,B2,G6];exact⟨_,_,_,s,r,.map (by simp[Gh.new]),h g.nx (hR.nxt _ (D1 _)).2.2⟩
theorem Pa {t:TypeId} {x y z:Operand} (ho:o.op= .mapUpdate t x y z∨o.op= .insert t x y z) (hl:WC P H K t (ev fr x) (ev fr y) (ev fr z)):H5 P o fr H K:=by
 intro g w a hR hE;obtain⟨kt,et,G,kv,id,ks,xs,h1,h2,h3,h4,h5,h6,h7,h8⟩:=hl;have hx:=D8 hR hE x;have hy:=HT h3 (D8 hR hE y);have hz:=D8 hR hE z
 rw[h5]at hx
 generalize hav:a.eval x=xv at hx
 cases hx with
 | map hm=>
  rename_i b;obtain⟨b',es,clock,k1,k2,k3,k4,k5,k6,k7⟩:=hR.blk id _ h6
  rw[hm]at k1;cases k1
  have hks:=WA k4 h7
  have hes:es.size=ks.length:=by have:=O8 List.length k4;grind
  have run:∀es' clock' k',(Instr.mapUpdate t (.map (some b)) kv (a.eval z)).run P w= .ok () (w.putObj b (.map es' clock'))→
   (U1 g w g (w.putObj b (.map es' clock'))∧Rl g (upd H id (some k')) (w.putObj b (.map es' clock')))→K .bad (upd H id (some k'))→G6 P (K6 g w K) ((execOp a.eval o).run P w):=by
   intro es' clock' k' hr q h
   have hex:(execOp a.eval o).run P w= .ok .skip (w.putObj b (.map es' clock')):=by
    unfold execOp
    rcases ho with ho|ho<;>rw[ho]<;>simp only[hav,hy,B5,hr,B2,B9]
   rw[hex];exact⟨_,_,_,q.1,q.2,.bad _,h⟩
  rcases h2.find w h4 es.toList hks with⟨f1,f2⟩|⟨j,e,f1,f2,f3⟩
  ·have hne:∀k∈ks,k≠kv:=fun k hk he=>by
    rw[←k4]at hk
    grind
   rcases h8 with⟨_,h⟩|⟨i,q1,_⟩
   ·refine run (es.push {key:=kv,val:=a.eval z,born:=clock}) (clock+1) (.vm (ks++[kv]) (xs++[ev fr z])) ?_ ?_ h
    ·simp only[Instr.mapUpdate,B5,run_underlying h1,B2,AI k3,(fun em=>h2.check w em h4),f1,run_setObj_map _ k3];rfl
    exact hR.putGen rfl rfl h6 hm rfl fun s hh hb=>
     ⟨b,_,_,hm,hb,hh,by simp[k4],by
      rw[Ex];simp_all,by simp[k6],fun i e hi=>by
      rw[Array.getElem?_push]at hi
      split at hi
      ·rename_i hie;cases hi
       have:i=xs.length:=by omega
       subst this
       simpa using hz.mono s
      rename_i hie
      have hlt:i<xs.length:=by
       have:=(Array.getElem?_eq_some_iff.1 hi).1;omega
      have:=(k7 i e hi).mono s
      grind⟩
   grind
  have f2':es[j]? =some e:=by grind
  have g1:=Aq0 k4 f2'
  rw[f3]at g1
  rcases h8 with⟨q1,_⟩|⟨i,q1,h⟩
  ·grind
  have hij:=Zg k5 q1 g1;subst hij;refine run (es.modify i fun e=>{e with key:=kv,val:=a.eval z}) clock (.vm ks (xs.set i (ev fr z))) ?_ ?_ h
  ·simp only[Instr.mapUpdate,B5,run_underlying h1,B2,AI k3,(fun em=>h2.check w em h4),f1,f2',H8,BZ,f3,h2.stays w h4,run_setObj_map _ k3];rfl
  exact hR.putGen rfl rfl h6 hm rfl fun s hh hb=>
   ⟨b,_,_,hm,hb,hh,by
    apply AH
    grind,k5,by simp[k6],fun m en hi=>by
    rw[Hg]at hi
    by_cases hmi:i=m
    ·subst hmi
     rw[A2 rfl,f2']at hi
     cases hi
     have hlt:i<xs.length:=by
      have:=(Array.getElem?_eq_some_iff.1 f2').1;omega
     simpa[EA,P5,hlt]using hz.mono s
    rw[A3 hmi]at hi
    have:=(k7 m en hi).mono s
    simp_all⟩
theorem Vq {t:TypeId} {x y:Operand} {ok:Bool} {v:V} (ho:o.op= .lookup t x y ok) (hl:KK P H t (ev fr x) (ev fr y) ok v) (h:K v H):H5 P o fr H K:=by
 refine hl.elim (fun hl=>?_) fun hl=>hl.elim (fun hl=>Tx ho hl h) fun hl=>Tw ho hl h;intro g w a hR hE;obtain⟨kt,et,d,kv,id,ob,m,h1,h2,h3,h4,h5,h6,h7,h8⟩:=hl;have hx:=D8 hR hE x;have hy:=HT h3 (D8 hR hE y)
 rw[h5]at hx
 generalize hav:a.eval x=xv at hx
 cases hx with
 | map hm=>
  rename_i b;obtain⟨b',k1,k2,k3,k4⟩:=hR.blk id _ h6
  rw[hm]at k1;cases k1
  obtain⟨⟨es,clock,e1,e2⟩,hk,hn⟩:=h7;subst e1;have hks:=Ag.isKeys e2 hk;unfold execOp;rw[ho];simp only[hav,hy,Instr.lookup,B5,run_underlying h1,B2,AI k3,B9,(fun em=>h2.check w em h4)]
  rcases h2.find w h4 es.toList hks with⟨f1,f2⟩|⟨j,e,f1,f2,f3⟩
  ·simp only[f1,B2]
   rcases h8 with⟨q1,z,q2,q3⟩|⟨y',q1,q2⟩
   ·obtain⟨zv,ez,hz⟩:=CB q2
    have hzr:VR g w zv z:=by rw[ez];grind [Du]
    simp only[B5,hz,B2,B9,G6];subst q3;cases ok
    ·grind [K6.here]
    refine K6.here hR (.tup rfl fun i hi=>?_) h
    match i with
    |0=>exact hzr
    |1=>exact .bool _
    |i+2=>grind
   exfalso;obtain⟨i,hi,e⟩:=Z9 q1;obtain⟨en,g1,g2,g3⟩:=(Ag.entry (d:=d) e2 i).2 _ (by rw[E2 hi,e])
   rw[h3]at g2
   grind
  simp only[f1,B2,G6]
  have f2':es[j]? =some e:=by grind
  obtain⟨p,g1,g2,g3⟩:=(Ag.entry (d:=d) e2 j).1 e f2';have hpk:p.1=ev fr y:=Pn g2 (by rw[h3,f3])
  rcases h8 with⟨q1,_⟩|⟨y',q1,q2⟩
  ·grind
  have hpy:p.2=y':=by
   obtain⟨i,hi,e⟩:=Z9 q1
   have hj:j<m.length:=by
    grind
   have e3:m[j]=p:=by rw[E2 hj]at g1;simp_all
   have:i=j:=KE hn (by grind) (by grind) (by simp_all)
   simp_all
  rw[hpy]at g3
  have hvr:VR g w e.val y':=Pm g3;subst q2;cases ok
  ·exact K6.here hR hvr h
  refine K6.here hR (.tup rfl fun i hi=>?_) h
  match i with
  |0=>exact hvr
  |1=>exact .bool _
  |i+2=>grind
theorem Ag.set {d:TypeDesc} {m m':List (V×V)} {es:Array MapEntry} {clock:Nat} {key val:V} {kv vv:Value} (h3:Bh key=some kv) (h4:EP d kv) (h5:Bh val=some vv)
 (e2:es.toList.map (fun e=>(some e.key,some e.val))=m.map fun p=>(Bh p.1,Bh p.2)) (hk:∀p∈m,∃k,Bh p.1=some k∧EP d k) (hn:(m.map (·.1)).Nodup) (hst:IQ es clock) (hs:Av2 m key val m'):
 ((∀e∈es.toList,e.key≠kv)→Ag d (.map (es.push {key:=kv,val:=vv,born:=clock}) (clock+1)) m')∧
 ∀(j:Nat) e,es[j]? =some e→e.key=kv→Ag d (.map (es.modify j fun e=>{e with key:=kv,val:=vv}) clock) m':=by
 have key_of:∀(j:Nat) e,es[j]? =some e→e.key=kv→∃y,m[j]? =some (key,y):=fun j e hj hje=>by
  obtain⟨p,g1,g2,g3⟩:=(Ag.entry (d:=d) e2 j).1 e hj;have:p.1=key:=Pn g2 (by rw[h3,hje])
  grind
 constructor
 ·intro hne
  rcases hs with⟨q1,rfl⟩|⟨a,y,b,rfl,rfl⟩
  ·refine⟨⟨_,_,rfl,by simp_all⟩,fun p hp=>?_,?_,fun es clock h=>by grind [IQ]⟩
   ·grind
   grind
  exfalso;obtain⟨e,g1,g2,_⟩:=(Ag.entry (d:=d) e2 a.length).2 (key,y) (by simp)
  rw[h3]at g2
  grind
 intro j e hj hje;obtain⟨y0,hm⟩:=key_of j e hj hje
 rcases hs with⟨q1,rfl⟩|⟨a,y,b,rfl,rfl⟩
 ·grind
 have hja:j=a.length:=by
  have hjl:j<(a++(key,y)::b).length:=by
   grind
  have e3:(a++(key,y)::b)[j]=(key,y0):=by rw[E2 hjl]at hm;simp_all
  grind
 subst hja;refine⟨⟨_,_,rfl,?_⟩,fun p hp=>?_,?_,fun es clock h=>by cases h;exact hst.modify _ _ _⟩
 ·apply AH;intro i;simp only[Z8,Ce,Hg]
  by_cases hi:a.length=i
  ·simp_all
  rw[A3 hi];have:=O8 (fun l=>l[i]?) e2
  grind
 ·simp only[AF,Dz]at hp
  rcases hp with hp|rfl|hp
  ·exact hk p (by simp[hp])
  ·simp_all
  exact hk p (by simp[hp])
 simp_all
theorem La {t:TypeId} {x y z:Operand} (ho:o.op= .mapUpdate t x y z∨o.op= .insert t x y z) (hl:Kt P H K t (ev fr x) (ev fr y) (ev fr z)):H5 P o fr H K:=by
 refine hl.elim (fun hl=>?_) fun hl=>hl.elim (Pb ho) (Pa ho);intro g w a hR hE;obtain⟨kt,et,d,kv,vv,id,ob,m,m',h1,h2,h3,h4,h5,h6,h7,h8,h9,h⟩:=hl;have hx:=D8 hR hE x;have hy:=HT h3 (D8 hR hE y);have hz:=HT h5 (D8 hR hE z)
 rw[h6]at hx
 generalize hav:a.eval x=xv at hx
 cases hx with
 | map hm=>
  rename_i b;obtain⟨b',k1,k2,k3,k4⟩:=hR.blk id _ h7
  rw[hm]at k1;cases k1
  obtain⟨⟨es,clock,e1,e2⟩,hk,hn,hst⟩:=h8;subst e1;have hks:=Ag.isKeys e2 hk;obtain⟨s1,s2⟩:=Ag.set (clock:=clock) h3 h4 h5 e2 hk hn (hst _ _ rfl) h9
  have run:∀o',Ag d o' m'→(Instr.mapUpdate t (.map (some b)) kv vv).run P w= .ok () (w.putObj b o')→G6 P (K6 g w K) ((execOp a.eval o).run P w):=by
   intro o' ho' hr;obtain⟨q1,q2⟩:=hR.putObj (o':=o') h7 hm (by obtain⟨⟨_,_,e,_⟩,_⟩:=ho';rw[e];rfl)
   have hex:(execOp a.eval o).run P w= .ok .skip (w.putObj b o'):=by
    unfold execOp
    rcases ho with ho|ho<;>rw[ho]<;>simp only[hav,hy,hz,B5,hr,B2,B9]
   rw[hex];exact⟨_,_,_,q1,q2,.bad _,h o' ho'⟩
  rcases h2.find w h4 es.toList hks with⟨f1,f2⟩|⟨j,e,f1,f2,f3⟩
  ·refine run _ (s1 f2) ?_;simp only[Instr.mapUpdate,B5,run_underlying h1,B2,AI k3,(fun em=>h2.check w em h4),f1,run_setObj_map _ k3];rfl
  have f2':es[j]? =some e:=by grind
  refine run _ (s2 j e f2' f3) ?_;simp only[Instr.mapUpdate,B5,run_underlying h1,B2,AI k3,(fun em=>h2.check w em h4),f1,f2',H8,BZ,f3,h2.stays w h4,run_setObj_map _ k3];rfl
end
end Go.Ab
namespace Go.Ab
open Go.RowKit
variable [K9]
theorem Rl.lessArr {g:Gh} {H:A1} {w:World} (h:Rl g H w) {id sz:Nat} {xs ys:List V} (hk:H id=some (.arr sz xs)) (hl:L8 xs ys):Rl g (upd H id (some (.arr sz ys))) w:=by
 have el:=hl.length
 have hat:∀x,g.at (upd H id (some (.arr sz ys))) x=g.at H x:=by
  grind [Gh.at,upd]
 refine⟨fun x k hx=>?_,fun x x' y h1 h2=>h.inj x x' y (hat x▸h1) (hat x'▸h2),h.frz,fun x hx=>?_,h.bnd,h.glb⟩
 ·by_cases hxe:x=id
  ·subst hxe;rw[C8]at hx;cases hx
   obtain⟨b,h1,h2,h3,h4,h5⟩:=h.blk x _ hk;refine⟨b,h1,h2,h3.trans el,fun i hi=>?_,?_⟩
   ·rw[←(hl.at i).cells.length];simp_all
   rw[←el];refine h5.imp (fun h=>h) fun⟨c,T,k1,k2,k3,k4,k5⟩=>⟨c,T,k1,k2,k3,fun i j hi hj=>⟨(k4 i j hi hj).1,(k4 i j hi hj).2.le ((hl.at i).cells.at j)⟩,k5⟩
  rw[C1 _ _ hxe]at hx;exact h.blk x k hx
 obtain⟨a1,a2,a3⟩:=h.nxt x hx
 have hne:x≠id:=fun e=>by simp_all
 simp_all[upd]
section
variable {P:Program}{o:Oper}{fr:Fr}{H:A1}{K:V→A1→Prop}
theorem H5.lessRow (h:H5 P o fr H fun x H'=>∃id sz xs ys,H' id=some (.arr sz xs)∧L8 xs ys∧K x (upd H' id (some (.arr sz ys)))):H5 P o fr H K:=by
 intro g w a hR hE;have h:=h g w a hR hE
 have key:∀v w',K6 g w (fun x H'=>∃id sz xs ys,H' id=some (.arr sz xs)∧L8 xs ys∧K x (upd H' id (some (.arr sz ys)))) v w'→K6 g w K v w':=by
  rintro v w' ⟨g',x,H',s,hR',hv,id,sz,xs,ys,h1,h2,h3⟩;exact⟨g',x,_,s,hR'.lessArr h1 h2,hv,h3⟩
 unfold G6 at h ⊢
 split at h
 ·grind
 ·grind
 ·exact h.mono fun e w' ⟨v,h1,h2⟩=>⟨v,h1,key _ _ h2⟩
 ·exact h.mono fun e w' ⟨v,h1,h2⟩=>⟨v,h1,key _ _ h2⟩
 omega
theorem NP {x:Operand}(ho:o.op= .assign x∨o.op= .move x)(hx:ev fr x= .sl [] .nil)(sz:Nat)(h:∀q,H q=none→K (.own q 0 0) (upd H q (some (.arr sz [])))):H5 P o fr H K:=by
 intro g w a hR hE;have hv:=D8 hR hE x
 rw[hx]at hv
 obtain⟨g1,s1,R1,hn,hv1⟩:=DL hR sz (.inl rfl) hv;unfold execOp
 rcases ho with ho|ho<;>rw[ho]<;>exact⟨g1,_,_,s1,R1,hv1,h _ hn⟩
theorem Zy {t e:TypeId} {n sz:Nat} {parts:Array (Nat×Operand)} {xs ys:List V} (ho:o.op= .buildSlice t n parts) (hl:AA P t n (parts.toList.map fun(p:Nat×Operand)=>(p.1,ev fr p.2))=some (.sl xs .full))
 (he:Ev P t=some e) (hs:DS P e=some sz) (hle:L8 xs ys) (h:∀q,H q=none→K (.own q 0 (xs.length:Nat)) (upd H q (some (.arr sz ys)))):H5 P o fr H K:=by
 refine H5.lessRow ?_;intro g w a hR hE;obtain⟨e',sz',z,k1,k2,_,k3,k4,_,d,hrun,hdz,hdv⟩:=JJ hR hE hl
 rw[he]at k1;cases k1
 rw[hs]at k2;cases k2
 cases k3
 have hget:∀i,((parts.toList.map fun(p:Nat×Operand)=>(p.1,ev fr p.2)).map (fun(q:Nat×V)=>q.2)).getD i .bad=((parts.toList.map fun(p:Nat×Operand)=>(p.1,ev fr p.2)).getD i (0,.bad)).2:=by
  grind
 generalize hL:(parts.toList.map fun(p:Nat×Operand)=>(p.1,ev fr p.2))=L at *
 have hz:∀i,i<(L.map fun(q:Nat×V)=>q.2).length→((L.map fun(q:Nat×V)=>q.2).getD i .bad).cells.length=sz:=by
  intro i hi
  have:∀(m:List (Nat×V)) (k i:Nat),Cp sz k m=true→i<m.length→(m.getD i (0,.bad)).2.cells.length=sz:=by
   intro m
   induction m with
   |nil=>simp_all
   |cons y m ih=>
    grind [Cp]
  rw[hget];grind
 have el:(L.map fun(q:Nat×V)=>q.2).length=n:=by grind
 obtain⟨s,r,hn⟩:=Rl.newArr (w':=w.alloc (.cells d e)) hR (b:=w.heap.size) (o:=0) (sz:=sz) (ys:=L.map fun(q:Nat×V)=>q.2) hz (fun b q hf=>Cx (hR.fz_lt hf)) ((U7 _ _).alloc hR.bnd _) (fun x _ hlt=>heap_alloc hlt)
  (.inr ⟨d,e,hR.bnd,Aw,by rw[hdz,el];omega,fun i j hi hj=>by
   rw[U9,hget];simp_all,fun q _ hf=>absurd (hR.fz_lt hf) (Q6 _),fun id hid=>absurd (hR.lt hid) (Q6 _)⟩)
 unfold execOp;rw[ho];simp only[B5,hrun,B2,B9,G6];refine⟨_,.own g.nx 0 ((L.map fun(q:Nat×V)=>q.2).length:Nat),_,s,r,?_,g.nx,sz,_,ys,C8 _ _ _,hle,?_⟩
 ·have e':(g.own w.heap.size ⟨0,(L.map fun(q:Nat×V)=>q.2).length,sz⟩).ow g.nx=⟨0,(L.map fun(q:Nat×V)=>q.2).length,sz⟩:=by simp[Gh.own]
  have:=VR.own (g:=g.own w.heap.size ⟨0,(L.map fun(q:Nat×V)=>q.2).length,sz⟩) (w:=w.alloc (.cells d e)) (id:=g.nx) (b:=w.heap.size) (lo:=0) (n:=((L.map fun(q:Nat×V)=>q.2).length:Nat)) (p:=some ⟨w.heap.size,0,none⟩) (by simp[Gh.own]) (by omega) (by omega) (by rw[e'];simp) (by rw[e'];simp)
  rw[e']at this
  simp_all
 grind [X1]
def strL (l:List Int):ByteArray:=l.foldl (fun r n=>r.push (UInt8.ofNat n.toNat)) ByteArray.empty
def RE (P:Program)(H:A1)(s d:TypeId)(x v:V):Prop:=
 ∃e l,Ev P s=some e∧P.underlying e=some (.int .u8)∧P.underlying d=some .string∧Oq 1 H x (l.map (V.int .u8))∧v= .str (strL l)
theorem Oq.up {sz:Nat}{H H':A1}{x:V}{ys:List V}(hl:∀id b,H id=some b→H' id=some b)(h:Oq sz H x ys):Oq sz H' x ys:=by
 unfold Oq at h ⊢
 grind
theorem Wl {P:Program}{H H':A1}{s d:TypeId}{x v:V}(hl:∀id b,H id=some b→H' id=some b)(h:RE P H s d x v):RE P H' s d x v:=by
 obtain⟨e,l,h1,h2,h3,h4,h5⟩:=h;exact⟨e,l,h1,h2,h3,h4.up hl,h5⟩
def Ul (K:V→A1→Prop)(x:V)(H:A1):Prop:=∃id sz xs ys,H id=some (.arr sz xs)∧L8 xs ys∧K x (upd H id (some (.arr sz ys)))
def litO (P:Program)(H:A1)(K:V→A1→Prop)(t:TypeId)(n:Nat)(parts:List (Nat×V)):Prop:=
 ∃e sz xs ys,AA P t n parts=some (.sl xs .full)∧Ev P t=some e∧DS P e=some sz∧L8 xs ys∧∀q,H q=none→K (.own q 0 (xs.length:Nat)) (upd H q (some (.arr sz ys)))
def Aq5 (H:A1)(K:V→A1→Prop)(x:V):Prop:=x= .sl [] .nil∧∃sz,∀q,H q=none→K (.own q 0 0) (upd H q (some (.arr sz [])))
theorem Zt {l:List Int} {ys0:List V} (h:L8 ys0 (l.map (V.int .u8))):ys0=l.map (V.int .u8):=by
 induction l generalizing ys0 with
 |nil=>cases h;rfl
 | cons n l ih=>
  cases h with
  |cons h1 h2=>
   cases h1;rw[ih h2];rfl
theorem XN {s d:TypeId} {y:Operand} {x:V} (ho:o.op= .convert s d y) (hl:RE P H s d (ev fr y) x) (h:K x H):H5 P o fr H K:=by
 intro g w a hR hE;have hv:=D8 hR hE y;obtain⟨e,l,h1,h2,h3,h4,rfl⟩:=hl;obtain⟨ys0,k1,k2,k3⟩:=h4.inv hR hv;have e1:=Zt k2;subst e1;obtain⟨base,cap,vs,r1,r2,r3⟩:=HM P hR k1 hv k3;have hs:=O4 h1
 have hlen:(l.map (V.int .u8)).length=l.length:=by simp
 have hcell:∀i,i<l.length→vs i 0= .int .u8 (l.getD i 0):=by
  intro i hi;have:=(r2 i 0 (by rw[hlen];exact hi) (by omega)).2
  have e:((l.map (V.int .u8)).getD i .bad).cells.getD 0 .bad= .int .u8 (l.getD i 0):=by
   simp_all[V.cells]
  rw[e]at this
  exact this.int_inv
 have hread:=r3 l.length (by rw[hlen];omega) w (fun _ _=>rfl)
 have hcells:((List.range (l.length*1)).map fun k=>vs (k / 1) (k % 1)).toArray=(l.map (Value.int .u8)).toArray:=by
  grind
 rw[hcells]at hread
 rw[hlen]at r1
 rw[r1]at hread
 have run:(convert s d (.slice base l.length cap)).run P w= .ok (.string (strL l)) w:=by
  rw[run_convert_bytes_string w s d e base l.length cap hs h2 h3]
  cases base with
  | none=>
   have:l=[]:=by
    simp only[Builtin.firstCells]at hread
    have hh:(.ok #[] w:Result (Array Value))= .ok (l.map (Value.int .u8)).toArray w:=by simp_all
    simp_all
   subst this;rfl
  |some ad=>
   simp only[Builtin.firstCells,Nat.mul_one]at hread
   exact run_bytesToString w ad l.length cap l hread
 unfold execOp;rw[ho];simp only[r1,B5,run,B2,B9,G6];exact K6.here hR (.str _) h
end
end Go.Ab
namespace Go.Ab
open Go.RowKit Go.MapKept
variable [K9]
def Lw (P:Program)(H:A1)(K:V→A1→Prop)(t:TypeId)(x:V):Prop:=
 ∃kt et mid es clock,P.underlying t=some (.map kt et)∧x= .map mid∧H mid=some (.obj (.map es clock))∧∀id,H id=none→K (.ref id 0) (upd H id (some (.iter mid clock #[] clock)))
def Px (H:A1) (K:V→A1→Prop) (x:V):Prop:=
 ∃id mid since,∃seen:Array Nat,∃c0,∃es:Array MapEntry,∃clock,x= .ref id 0∧H id=some (.iter mid since seen c0)∧H mid=some (.obj (.map es clock))∧(∀e∈es.toList,e.born<since)∧since≤c0∧
  ((leftOf es seen).size=0→K (.tup [.bool false]) H)∧∀e∈(leftOf es seen).toList,K (.tup [.bool true,.bad,.bad]) (upd H id (some (.iter mid since (seen.push e.born) clock)))
def LI (H:A1) (K:V→A1→Prop) (x:V):Prop:=
 ∃id mid since,∃seen:Array Nat,∃c0,∃es:Array MapEntry,∃clock e kx vx,x= .ref id 0∧H id=some (.iter mid since (seen.push e.born) c0)∧c0=clock∧H mid=some (.obj (.map es clock))∧e∈es.toList∧(es.toList.map (·.born)).Nodup∧
  Bh kx=some e.key∧Bh vx=some e.val∧K (.tup [kx,vx]) H
def EX (P:Program) (H:A1) (K:V→A1→Prop) (ts:List TypeId) (vs:List V):Prop:=
 match ts,vs with
 | [t,_],[x,key]=>
  ∃kt et d kv id o m,P.underlying t=some (.map kt et)∧KG P kt (EP d)∧Bh key=some kv∧EP d kv∧x= .map id∧H id=some (.obj o)∧Ag d o m∧
   ∀o' m',Ag d o' m'→((m'=m∧∀p∈m,p.1≠key)∨∃j p,m[j]? =some p∧p.1=key∧m'=m.eraseIdx j)→K (.tup []) (upd H id (some (.obj o')))
 |_,_=>False
theorem TQ {P:Program}{H:A1}{K K':V→A1→Prop}{t:TypeId}{x:V}(h:Lw P H K t x)(hk:∀v H',K v H'→K' v H'):Lw P H K' t x:=by
 grind [Lw]
theorem VK {H:A1}{K K':V→A1→Prop}{x:V}(h:Px H K x)(hk:∀v H',K v H'→K' v H'):Px H K' x:=by
 grind [Px]
theorem UB {H:A1}{K K':V→A1→Prop}{x:V}(h:LI H K x)(hk:∀v H',K v H'→K' v H'):LI H K' x:=by
 grind [LI]
theorem ME {P:Program}{H:A1}{K K':V→A1→Prop}{ts:List TypeId}{vs:List V}(h:EX P H K ts vs)(hk:∀v H',K v H'→K' v H'):EX P H K' ts vs:=by
 unfold EX at h ⊢
 grind
theorem OJ {g:Gh}{H:A1}{w:World}(hR:Rl g H w){id b:Nat}{o:Obj}(h:H id=some (.obj o))(hb:g.mu id=some b):w.heap[b]? =some o:=by
 obtain⟨b',h1,_,h3,_⟩:=hR.blk id _ h
 rw[hb]at h1;simp_all
theorem Rl.drew {g:Gh}{H:A1}{w:World}(hR:Rl g H w):U1 g w g w.drew∧Rl g H w.drew:=by
 have s:U1 g w g w.drew:=⟨fun _ _ e=>e,fun _ _ e=>e,fun _ _ e=>e,rfl,fun _ _ _=>rfl,(U7 _ _).drew,fun _ _ _=>rfl,Dw _⟩;exact⟨s,⟨fun id b hb=>(hR.blk id b hb).mono hb s fun _ _=>⟨rfl,fun _ ho=>ho⟩,hR.inj,hR.frz,hR.nxt,hR.bnd,fun n=>(hR.glb n).mono s⟩⟩
theorem Rl.putIter {g:Gh} {H:A1} {w:World} (h:Rl g H w) {id b mid bm since since' c0 c0':Nat} {seen seen':Array Nat} (hk:H id=some (.iter mid since seen c0)) (hb:g.mu id=some b) (hm:g.mu mid=some bm):
 U1 g w g (ChangeMaps.setBlock w b (.mapIter (some bm) since' seen' c0'))∧Rl g (upd H id (some (.iter mid since' seen' c0'))) (ChangeMaps.setBlock w b (.mapIter (some bm) since' seen' c0')):=by
 have e0:ChangeMaps.setBlock w b (.mapIter (some bm) since' seen' c0')=w.putObj b (.mapIter (some bm) since' seen' c0'):=rfl;rw[e0];obtain⟨b',bm',h1,h2,h3,h4⟩:=h.blk id _ hk
 rw[hb]at h1;cases h1
 have hcell:=Kq (o':=.mapIter (some bm) since' seen' c0') h4 rfl rfl
 have s:U1 g w g (w.putObj b (.mapIter (some bm) since' seen' c0')):=by
  refine⟨fun _ _ e=>e,fun _ _ e=>e,fun _ _ e=>e,rfl,fun b o _=>hcell b o,⟨rfl,rfl,rfl,by simp,fun k hk=>World.putObj_heap_other (by omega)⟩,fun _ _ _=>rfl,D1 _⟩
 have hat:∀x,g.at (upd H id (some (.iter mid since' seen' c0'))) x=g.at H x:=by
  grind [Gh.at,upd]
 have hid:g.at H id=some b:=by simp_all[Gh.at]
 refine⟨s,fun x k hx=>?_,fun x x' y h1 h2=>h.inj x x' y (hat x▸h1) (hat x'▸h2),fun y o hf=>?_,fun x hx=>?_,?_,fun n=>(h.glb n).mono s⟩
 ·by_cases hxe:x=id
  ·subst hxe;rw[C8]at hx;cases hx
   exact⟨b,bm,hb,h2,hm,World.putObj_heap_same (Su h4)⟩
  rw[C1 _ _ hxe]at hx
  refine(h.blk x k hx).mono hx s fun y hy=>⟨World.putObj_heap_other fun e=>?_,fun _ ho=>ho⟩;subst e;exact hxe (h.inj _ _ _ hy hid)
 ·obtain⟨v,hv'⟩:=h.frz y o hf
  simp_all
 ·obtain⟨a1,a2,a3⟩:=h.nxt x hx
  have hne:x≠id:=fun e=>by simp_all
  simp_all[upd]
 have:=h.bnd;simp;omega
section
variable {P:Program}{o:Oper}{fr:Fr}{H:A1}{K:V→A1→Prop}
theorem XG {t:TypeId} {y:Operand} (ho:o.op= .range t y) (hl:Lw P H K t (ev fr y)):H5 P o fr H K:=by
 intro g w a hR hE;obtain⟨kt,et,mid,es,clock,h1,h2,h3,h4⟩:=hl;have hx:=D8 hR hE y
 rw[h2]at hx
 generalize hav:a.eval y=xv at hx
 cases hx with
 |map hm=>
  rename_i bm;have k3:=OJ hR h3 hm;have s:=U1.new hR (.mapIter (some bm) clock #[] clock) False 0
  have hne:mid≠g.nx:=fun e=>by subst e;rw[(hR.nxt _ (D1 _)).1]at hm;cases hm
  have r:=hR.newNamed (.mapIter (some bm) clock #[] clock) (.iter mid clock #[] clock) (by simp) ⟨w.heap.size,bm,by simp[Gh.new],hR.bnd,by simp_all[Gh.new],Aw⟩;unfold execOp;rw[ho];simp only[hav,B5,run_range_map w t kt et bm es clock h1 k3,B2,B9,G6];exact⟨_,_,_,s,r,.ref (by simp[Gh.new]),h4 g.nx (hR.nxt _ (D1 _)).2.2⟩
theorem ZC {y:Operand} (ho:o.op= .next y false) (hl:Px H K (ev fr y)):H5 P o fr H K:=by
 intro g w a hR hE;obtain⟨id,mid,since,seen,c0,es,clock,h1,h2,h3,h4,h5,h6,h7⟩:=hl;have hx:=D8 hR hE y
 rw[h1]at hx
 generalize hav:a.eval y=xv at hx
 obtain⟨b,bm,k1,k2,k3,k4⟩:=hR.blk id _ h2;have k5:=OJ hR h3 k3
 cases hx with
 | ref hm=>
  rename_i b'
  rw[k1]at hm;cases hm
  unfold execOp;rw[ho];simp only[hav]
  rcases run_next_at (P:=P) w o.type b bm since c0 seen es clock k4 k5 h4 h5 with⟨e1,e2⟩|⟨e,e1,w1,e2,e3⟩
  ·simp only[B5,e2,B2,B9,G6];refine K6.here hR (.tup rfl fun i hi=>?_) (h6 e1)
   match i with
   |0=>exact .bool _
   |i+1=>simp at hi
  simp only[B5,e3,B2,B9,G6]
  have key:∀w1:World,U1 g w g w1→Rl g H w1→K6 g w K (.tuple #[.bool true,e.key,e.val]) (ChangeMaps.setBlock w1 b (.mapIter (some bm) since (seen.push e.born) clock)):=by
   intro w1 s1 hR1;obtain⟨s2,hR2⟩:=hR1.putIter (since':=since) (seen':=seen.push e.born) (c0':=clock) h2 k1 k3;refine⟨g,_,_,s1.trans s2,hR2,.tup rfl fun i hi=>?_,h7 e e1⟩
   match i with
   |0=>exact .bool _
   |1=>exact .bad _
   |2=>exact .bad _
   |i+3=>grind
  rcases e2 with rfl|rfl
  ·grind [U1.refl]
  exact key _ hR.drew.1 hR.drew.2
theorem XM {y:Operand} (ho:o.op= .entry y) (hl:LI H K (ev fr y)):H5 P o fr H K:=by
 intro g w a hR hE;obtain⟨id,mid,since,seen,c0,es,clock,e,kx,vx,h1,h2,h0,h3,h4,h5,h6,h7,h8⟩:=hl;subst h0;have hx:=D8 hR hE y
 rw[h1]at hx
 generalize hav:a.eval y=xv at hx
 obtain⟨b,bm,k1,k2,k3,k4⟩:=hR.blk id _ h2;have k5:=OJ hR h3 k3
 cases hx with
 |ref hm=>
  rename_i b'
  rw[k1]at hm;cases hm
  unfold execOp;rw[ho];simp only[hav,B5,run_entry_at (P:=P) w b bm since seen es _ e k4 k5 h4 h5,B2,B9,G6];refine K6.here hR (.tup rfl fun i hi=>?_) h8
  match i with
  |0=>exact Pm h6
  |1=>exact Pm h7
  |i+2=>grind
theorem Ag.erase {d:TypeDesc} {m:List (V×V)} {es:Array MapEntry} {clock:Nat} (h:Ag d (.map es clock) m) (j:Nat) (hj:j<es.size):Ag d (.map (es.eraseIdxIfInBounds j) clock) (m.eraseIdx j):=by
 obtain⟨⟨es',c',e1,e2⟩,hk,hn,hst⟩:=h;cases e1;have hsub:(m.eraseIdx j).Sublist m:=List.eraseIdx_sublist _ _;refine⟨⟨_,_,rfl,?_⟩,fun p hp=>hk p (hsub.subset hp),(hsub.map _).nodup hn,fun es1 c1 h=>by cases h;exact(hst _ _ rfl).sub (by unfold Array.eraseIdxIfInBounds;rw[dif_pos hj,Array.toList_eraseIdx];grind)⟩
 have e3:(es.eraseIdxIfInBounds j).toList=es.toList.eraseIdx j:=by
  simp_all
 rw[e3];apply AH;intro i;have e4:=O8 (fun l=>l[i]?) e2;have e5:=O8 (fun l=>l[i+1]?) e2
 grind
theorem Vr {x y:Operand} {t t2:TypeId} (ho:o.op= .call {callee:=.builtin .delete,args:= #[x,y],argTypes:= #[t,t2]}) (hl:EX P H K [t,t2] [ev fr x,ev fr y]):H5 P o fr H K:=by
 intro g w a hR hE;obtain⟨kt,et,d,kv,id,ob,m,h1,h2,h3,h4,h5,h6,h7,h8⟩:=hl;have hx:=D8 hR hE x;have hy:=HT h3 (D8 hR hE y)
 rw[h5]at hx
 rw[O0 ho];simp only[V1,E9,I1]
 generalize hav:a.eval x=xv at hx
 cases hx with
 | map hm=>
  rename_i b;have k3:=OJ hR h6 hm;have h7':=h7;obtain⟨⟨es,clock,e1,e2⟩,hk,hn,hst⟩:=h7;subst e1;have hks:=Ag.isKeys e2 hk
  have fin:∀o' m',Ag d o' m'→((m'=m∧∀p∈m,p.1≠ev fr y)∨∃j p,m[j]? =some p∧p.1=ev fr y∧m'=m.eraseIdx j)→Obj.isCells o'=false→K6 g w K (.tuple #[]) (w.putObj b o'):=fun o' m' a1 a2 a4=>by
   obtain⟨s,hR'⟩:=hR.putObj h6 hm a4;exact⟨g,_,_,s,hR',.tup rfl fun i hi=>by simp at hi,h8 o' m' a1 a2⟩
  simp only[builtin,Builtin.delete_,hy,B5]
  rcases h2.find w h4 es.toList hks with⟨f1,f2⟩|⟨j,e,f1,f2,f3⟩
  ·have hset:(setObj b (.map es clock)).run P w= .ok () (w.putObj b (.map es clock)):=by simp[setObj,Sem.run,k3,World.putObj]
   simp only[O2,X9,Q8,B5,run_underlying h1,B2,AI k3,(fun em=>h2.check w em h4),f1,hset,B9,G6];refine fin _ m ⟨⟨es,clock,rfl,e2⟩,hk,hn,hst⟩ (.inl ⟨rfl,fun p hp e=>?_⟩) rfl;obtain⟨i,hi,e0⟩:=Z9 hp;obtain⟨en,g1,g2,g3⟩:=(Ag.entry (d:=d) e2 i).2 _ (by rw[E2 hi,e0])
   rw[e,h3]at g2
   grind
  have f2':es[j]? =some e:=by grind
  have hjs:j<es.size:=(Array.getElem?_eq_some_iff.1 f2').1
  have hset:(setObj b (.map (es.eraseIdxIfInBounds j) clock)).run P w= .ok () (w.putObj b (.map (es.eraseIdxIfInBounds j) clock)):=by simp[setObj,Sem.run,k3,World.putObj]
  simp only[O2,X9,Q8,B5,run_underlying h1,B2,AI k3,(fun em=>h2.check w em h4),f1,hset,B9,G6];obtain⟨p0,g1,g2,g3⟩:=(Ag.entry (d:=d) e2 j).1 e f2';have hpk:p0.1=ev fr y:=Pn g2 (by rw[h3,f3]);exact fin _ (m.eraseIdx j) (h7'.erase j hjs) (.inr ⟨j,p0,g1,hpk,rfl⟩) rfl
theorem QO {c:Call}(ho:o.op= .call c)(hc:c.callee= .builtin .delete)(h:EX P H K c.argTypes.toList (c.args.toList.map (ev fr))):H5 P o fr H K:=by
 obtain⟨ce,args,ts⟩:=c
 simp only at hc h
 subst hc;obtain⟨args⟩:=args;obtain⟨ts⟩:=ts
 simp only at h
 match args,ts with
 |[x,y],[t,t2]=>grind [Vr]
 |[],[]=>exact h.elim
 |[],_::_=>simp_all[EX]
 |[_],_=>simp_all[EX]
 |_::_::_::_,_=>simp_all[EX]
 |[_,_],[]=>exact h.elim
 |[_,_],[_]=>exact h.elim
 |[_,_],_::_::_::_=>exact h.elim
end
section
variable {P:Program}{o:Oper}{fr:Fr}{H:A1}{K:V→A1→Prop}
def Ab2 (P:Program)(t:TypeId)(l c v:V):Prop:=
 ∃k1 k2 n e sz by_ z,l= .int k1 n∧c= .int k2 n∧Ev P t=some e∧DS P e=some sz∧0<sz∧Nr P e=some by_∧0<by_∧Hi P e=some z∧z.one=true∧z.cells.length=sz∧0≤n∧n*(by_:Nat)≤281474976710656∧v= .sl (List.replicate n.toNat z) .ro
theorem XJ {t:TypeId} {l c:Operand} {v:V} (ho:o.op= .makeSlice t l c) (h:Ab2 P t (ev fr l) (ev fr c) v) (hK:K v H):H5 P o fr H K:=by
 obtain⟨k1,k2,n,e,sz,by_,z,e1,e2,e3,e4,e5,e6,e7,e8,e9,e10,e11,e12,rfl⟩:=h;intro g w a hR hE;refine G6.mono ?_ (Tv (K:=fun x H'=>∃id,H id=none∧x= .own id 0 n∧H'=upd H id (some (.arr sz (List.replicate n.toNat z)))) ho e1 e2 e3 e4 e5 e6 e7 e8 e9 e10 e11 (N2 _) e12 (fun id hid=>⟨id,hid,rfl,rfl⟩) g w a hR hE);rintro x w' ⟨g1,y,H1,s1,R1,hv,id,hid,rfl,rfl⟩;obtain⟨g2,_,s2,R2,hfr⟩:=R1.freezeArr' (C8 _ _ _)
 have hH:upd (upd H id (some (.arr sz (List.replicate n.toNat z)))) id none=H:=by
  funext x
  simp_all[upd]
 rw[hH]at R2
 refine⟨g2,_,H,s1.trans s2,R2,?_,hK⟩;have:=hfr x 0 n (hv.mono s2)
 have hs:L1 (List.replicate n.toNat z) 0 n=List.replicate n.toNat z:=by simp[L1]
 rw[hs]at this
 exact this
end
end Go.Ab
namespace Go.Ab
open Go.RowKit
variable [K9]
def Args (g:Gh)(w:World)(vals:Array Value)(args:List V):Prop:=
 vals.size=args.length∧∀i,i<args.length→VR g w (vals.getD i undef) (args.getD i .bad)
def J0 (P:Program)(f:FuncId)(args:List V)(H:A1)(K:V→A1→Prop):Prop:=
 ∀g w vals,Rl g H w→Args g w vals args→G6 P (K6 g w K) ((callFunc f vals).run P w)
def Cz (P:Program)(fv:V)(args:List V)(H:A1)(K:V→A1→Prop):Prop:=
 ∀g w v vals,Rl g H w→VR g w v fv→Args g w vals args→G6 P (K6 g w K) ((do let d ←Deferred.ofValue v vals;invoke d.target d.args:Sem Next).run P w)
def C5 (P:Program)(f:FuncId)(args:List V)(r:V):Prop:=∀H,J0 P f args H fun x H'=>x=r∧H'=H
def U2 (P:Program)(fv:V)(args:List V)(r:V):Prop:=∀H,Cz P fv args H fun x H'=>x=r∧H'=H
theorem K6.mono {g:Gh}{w:World}{K K':V→A1→Prop}(h:∀x H,K x H→K' x H){v:Value}{w':World}(p:K6 g w K v w'):K6 g w K' v w':=
 let⟨g',x,H',a,b,c,d⟩:=p;⟨g',x,H',a,b,c,h _ _ d⟩
def Nu (P:Program)(fv:V)(args:List V)(H:A1)(r:V):Prop:=∀H',(∀id b,H id=some b→H' id=some b)→Cz P fv args H' fun x h=>x=r∧h=H'
theorem U2.toH {P:Program}{fv:V}{args:List V}{r:V}(h:U2 P fv args r)(H:A1):Nu P fv args H r:=fun H' _=>h H'
theorem Nu.up {P:Program}{fv:V}{args:List V}{H H':A1}{r:V}(h:Nu P fv args H r)(hl:∀id b,H id=some b→H' id=some b):Nu P fv args H' r:=fun H2 h2=>h H2 fun id b e=>h2 id b (hl id b e)
theorem J0.mono {P:Program}{f:FuncId}{args:List V}{H:A1}{K K':V→A1→Prop}(c:J0 P f args H K)(h:∀x H,K x H→K' x H):J0 P f args H K':=
 fun g w vals hR hA=>(c g w vals hR hA).mono fun _ _ p=>p.mono h
theorem Cz.mono {P:Program}{fv:V}{args:List V}{H:A1}{K K':V→A1→Prop}(c:Cz P fv args H K)(h:∀x H,K x H→K' x H):Cz P fv args H K':=
 fun g w v vals hR hv hA=>(c g w v vals hR hv hA).mono fun _ _ p=>p.mono h
theorem C5.at {P:Program}{f:FuncId}{args:List V}{r:V}(c:C5 P f args r){H:A1}{K:V→A1→Prop}(h:K r H):J0 P f args H K:=
 (c H).mono fun x H' ⟨e1,e2⟩=>by rw[e1,e2];exact h
theorem U2.at {P:Program}{fv:V}{args:List V}{r:V}(c:U2 P fv args r){H:A1}{K:V→A1→Prop}(h:K r H):Cz P fv args H K:=
 (c H).mono fun x H' ⟨e1,e2⟩=>by rw[e1,e2];exact h
def Wk (x y:V):Prop:=∀g w v,VR g w v x→VR g w v y
theorem Wk.refl (x:V):Wk x x:=fun _ _ _ h=>h
theorem Wk.bad (x:V):Wk x .bad:=fun _ _ _ _=>.bad _
theorem Wk.ro (xs:List V)(t:E5):Wk (.sl xs t) (.sl xs .ro):=by
 intro g w v h
 cases h with
 |sl0 ht=>exact .sl0 rfl
 |sle ht=>exact .sle (.inl rfl)
 |sl vs hn hc hz hf hw h1 hv ht=>exact .sl vs hn hc hz hf hw h1 hv trivial
theorem Wk.nil (t:E5)(ht:t.plain=true):Wk (.sl [] .nil) (.sl [] t):=by
 intro g w v h
 cases h with
 |sl0 _=>exact .sl0 ht
 |sle h=>rcases h with h|⟨h,_⟩<;>cases h
 |sl vs hn hc hz hf hw h1 hv ht=>exact ht.elim
theorem Args.append {g:Gh} {w:World} {a b:Array Value} {x y:List V} (h:Args g w a x) (k:Args g w b y):Args g w (a++b) (x++y):=by
 refine⟨by simp[h.1,k.1],fun i hi=>?_⟩;rw[Fz]
 have e:(a++b).getD i undef=if i<x.length then a.getD i undef else b.getD (i - x.length) undef:=by
  simp only[L9,Gq,h.1]
  split<;>rfl
 rw[e]
 split
 ·rename_i hlt;exact h.2 i hlt
 exact k.2 _ (by simp at hi;omega)
theorem J0.value {P:Program} {f:FuncId} {F C args:List V} {H:A1} {K:V→A1→Prop} (h:J0 P f (F++args++C) H K):Cz P (.func (.func f) F C) args H K:=by
 intro g w v vals hR hv hA
 cases hv with
 |func hl hv hl' hv'=>
  rename_i fs cs;have:=h g w (fs++vals++cs) hR (Args.append (Args.append ⟨hl,hv⟩ hA) ⟨hl',hv'⟩)
  simpa only[Deferred.ofValue,B5,B9,B2,invoke]using this
theorem C5.value {P:Program}{f:FuncId}{F C args:List V}{r:V}(h:C5 P f (F++args++C) r):U2 P (.func (.func f) F C) args r:=fun H=>(h H).value
theorem H5.le {P:Program}{o:Oper}{fr:Fr}{H:A1}{K:V→A1→Prop}(h:H5 P o fr H fun x H'=>∃y,BQ x y∧K y H'):H5 P o fr H K:=
 fun g w a hR hE=>(h g w a hR hE).mono fun v w' ⟨g',x,H',s,hR',hv,y,hxy,hK⟩=>⟨g',y,H',s,hR',hv.le hxy,hK⟩
section
variable {P:Program}{o:Oper}{fr:Fr}{H:A1}{K:V→A1→Prop}
theorem Ae5 {g:Gh}{w:World}{a:Act}(hR:Rl g H w)(hE:ER g w a fr)(l:Array Operand):Args g w (l.map a.eval) (l.toList.map (ev fr)):=by
 refine⟨by simp,fun i hi=>?_⟩
 have hi':i<l.size:=by simpa using hi
 have e1:(l.map a.eval).getD i undef=a.eval l[i]:=by simp[Array.getD,hi']
 have e2:(l.toList.map (ev fr)).getD i .bad=ev fr l[i]:=by simp[List.getD,hi']
 rw[e1,e2];exact D8 hR hE _
theorem TA {x:Operand}{args:Array Operand}{ts:Array TypeId}(ho:o.op= .call {callee:=.value x,args:=args,argTypes:=ts})(h:Cz P (ev fr x) (args.toList.map (ev fr)) H K):
 H5 P o fr H K:=by
 intro g w a hR hE;have:=h g w (a.eval x) (args.map a.eval) hR (D8 hR hE x) (Ae5 hR hE args);unfold execOp;rw[ho]
 simpa only[resolve]using this
end
abbrev Qw :=Nat→Bool
def Cy (P:Program) (b:Builtin) (ts:List TypeId) (vs:List V) (v:V):Prop:=
 match b,ts,vs with
 | .len,[t],[x]=>Yk P t x=some v
 | .max,_,[.int k a,.int k' b]=>k=k'∧v= .int k (if a<b then b else a)
 | .min,_,[.int k a,.int k' b]=>k=k'∧v= .int k (if b<a then b else a)
 | .append,[sT,yT],[.sl xs tl,.sl ys _]=>(tl= .nil∨tl= .full)∧∃e sz by_ z xs' ys',Ev P sT=some e∧(Ev P yT).isSome=true∧DS P e=some sz∧0<sz∧Nr P e=some by_∧0<by_∧Hi P e=some z∧z.one=true∧z.cells.length=sz∧
  L8 xs xs'∧L8 ys ys'∧xs'.all (fun x=>x.cells.length==sz)=true∧ys'.all (fun x=>x.cells.length==sz)=true∧(xs'.length+ys'.length)*by_≤140737488355328∧v= .sl (xs'++ys') .ro
 |_,_,_=>False
theorem H5.lessH {P:Program}{o:Oper}{fr:Fr}{H:A1}{K:V→A1→Prop}(h:H5 P o fr H fun x H'=>∃y H2,BQ x y∧(∀id b,H2 id=some b→H' id=some b)∧K y H2):H5 P o fr H K:=
 fun g w a hR hE=>(h g w a hR hE).mono fun v w' ⟨g',x,H',s,hR',hv,y,H2,hxy,hH,hK⟩=>⟨g',y,H2,s,hR'.less hH,hv.le hxy,hK⟩
theorem Kr {P:Program} {o:Oper} {fr:Fr} {H:A1} {c:Call} {b:Builtin} {v:V} (ho:o.op= .call c) (hc:c.callee= .builtin b)
 (h:Cy P b c.argTypes.toList (c.args.toList.map (ev fr)) v) {K:V→A1→Prop} (k:K v H):H5 P o fr H K:=by
 obtain⟨ce,args,ts⟩:=c
 simp only at hc h
 subst hc;obtain⟨args⟩:=args;obtain⟨ts⟩:=ts
 simp only at h
 unfold Cy at h
 split at h
 ·rename_i t x e2
  match args,e2 with
  |[y],e2=>
   simp only[E9,I1,V0,I9]at e2
   subst e2;exact Ah6 ho h k
  |[],e2=>simp at e2
  |_::_::_,e2=>simp at e2
 ·rename_i k a k' b e2;obtain⟨rfl,rfl⟩:=h
  match args,e2 with
  |[x,y],e2=>
   simp only[E9,I1,V0,I9]at e2
   intro g w act hR hE;rw[O0 ho];have h1:=D8 hR hE x;have h2:=D8 hR hE y
   rw[e2.1]at h1;rw[e2.2]at h2
   have e1:=h1.int_inv;have e2':=h2.int_inv;simp[builtin,Builtin.max_,Builtin.max2,e1,e2',B5,B9]
   split<;>exact K6.here hR (by first|(rw[A2 (by assumption)];exact .int _ _)|(rw[A3 (by omega)];exact .int _ _)|exact .int _ _) k
  |[],e2=>simp at e2
  |[_],e2=>simp at e2
  |_::_::_::_,e2=>simp at e2
 ·rename_i k a k' b e2;obtain⟨rfl,rfl⟩:=h
  match args,e2 with
  |[x,y],e2=>
   simp only[E9,I1,V0,I9]at e2
   intro g w act hR hE;rw[O0 ho];have h1:=D8 hR hE x;have h2:=D8 hR hE y
   rw[e2.1]at h1;rw[e2.2]at h2
   have e1:=h1.int_inv;have e2':=h2.int_inv;simp[builtin,Builtin.min_,Builtin.min2,e1,e2',B5,B9]
   split<;>exact K6.here hR (by first|(rw[A2 (by assumption)];exact .int _ _)|(rw[A3 (by omega)];exact .int _ _)|exact .int _ _) k
  |[],e2=>simp at e2
  |[_],e2=>simp at e2
  |_::_::_::_,e2=>simp at e2
 ·rename_i sT yT xs tl ys tl' e2;obtain⟨htl,e,sz,by_,z,xs',ys',k1,k2,k3,k4,k5,k6,k7,k8,k9,l1,l2,k11,k12,k13,rfl⟩:=h
  match args,e2 with
  |[s,y],e2=>
   simp only[E9,I1,V0,I9]at e2
   have hA:Gd H tl:=by rcases htl with rfl|rfl<;>trivial
   have hd:F9 H tl=H:=by rcases htl with rfl|rfl<;>rfl
   refine H5.lessH (Lo (K:=fun x H'=>∃y H2,BQ x y∧(∀id b,H2 id=some b→H' id=some b)∧K y H2) ho e2.1 e2.2 k1 k2 k3 k4 k5 k6 k7 k8 k9 hA (l1.sz k11) (l2.sz k12) (by rw[l1.length,l2.length];exact k13) (fun e=>⟨_,H,?_,fun _ _ h=>h,k⟩) fun t h1 h2=>⟨_,H,BQ.sl _ (l1.append l2),fun id b hb=>?_,k⟩)
   ·subst e;cases l2;rw[H7];exact BQ.sl _ l1
   rw[hd]at h2 ⊢
   by_cases e:id=t
   ·subst e;rw[h2]at hb;cases hb
   rw[C1 _ _ e];exact hb
  |[],e2=>simp at e2
  |[_],e2=>simp at e2
  |_::_::_::_,e2=>simp at e2
 exact h.elim
def Gk (P:Program) (H:A1) (K:V→A1→Prop):List TypeId→List V→Prop
 | [sT,yT],[.sl xs tl,.sl ys _]=>
  ∃e sz by_ z,Ev P sT=some e∧(Ev P yT).isSome=true∧DS P e=some sz∧0<sz∧Nr P e=some by_∧0<by_∧Hi P e=some z∧z.one=true∧z.cells.length=sz∧∃xs' ys',L8 xs xs'∧L8 ys ys'∧Gd H tl∧
   xs'.all (fun x=>x.cells.length==sz)=true∧ys'.all (fun x=>x.cells.length==sz)=true∧(xs'.length+ys'.length)*by_≤140737488355328∧(ys'=[]→K (.sl xs' tl) H)∧
   ∀t,ys'≠[]→F9 H tl t=none→K (.sl (xs'++ys') (.tok t)) (upd (F9 H tl) t (some .spare))
 |_,_=>False
theorem Lh {P:Program} {o:Oper} {fr:Fr} {H:A1} {c:Call} (ho:o.op= .call c) (hc:c.callee= .builtin .append) {K:V→A1→Prop}
 (h:Gk P H K c.argTypes.toList (c.args.toList.map (ev fr))):H5 P o fr H K:=by
 obtain⟨ce,args,ts⟩:=c
 simp only at hc h
 subst hc;obtain⟨args⟩:=args;obtain⟨ts⟩:=ts
 simp only at h
 unfold Gk at h
 split at h
 ·rename_i sT yT xs tl ys tl' e2
  match args,e2 with
  |[s,y],e2=>
   simp only[E9,I1,V0,I9]at e2
   obtain⟨e,sz,by_,z,k1,k2,k3,k4,k5,k6,k7,k8,k9,xs',ys',l1,l2,k10,k11,k12,k13,k14,k15⟩:=h;refine H5.le (Lo (K:=fun x H'=>∃y,BQ x y∧K y H') ho e2.1 e2.2 k1 k2 k3 k4 k5 k6 k7 k8 k9 k10 (l1.sz k11) (l2.sz k12) (by rw[l1.length,l2.length];exact k13) (fun e=>⟨_,.slt _ l1,k14 (by subst e;cases l2;rfl)⟩) fun t h1 h2=>⟨_,.slt _ (l1.append l2),k15 t (fun e=>h1 (by subst e;cases l2;rfl)) h2⟩)
  |[],e2=>simp at e2
  |[_],e2=>simp at e2
  |_::_::_::_,e2=>simp at e2
 exact h.elim
def LD (P:Program)(H:A1)(b:Builtin)(ts:List TypeId)(vs:List V)(v:V):Prop:=
 match b,ts,vs with
 | .len,[t],[x]=>Al9 P H t x=some v
 | .cap,[t],[x]=>Wo P H t x=some v
 |_,_,_=>False
theorem PE {P:Program} {o:Oper} {fr:Fr} {H:A1} {c:Call} {b:Builtin} {v:V} (ho:o.op= .call c) (hc:c.callee= .builtin b)
 (h:LD P H b c.argTypes.toList (c.args.toList.map (ev fr)) v) {K:V→A1→Prop} (k:K v H):H5 P o fr H K:=by
 obtain⟨ce,args,ts⟩:=c
 simp only at hc h
 subst hc;obtain⟨args⟩:=args;obtain⟨ts⟩:=ts
 simp only at h
 unfold LD at h
 split at h
 ·rename_i t x e2
  match args,e2 with
  |[y],e2=>
   simp only[E9,I1,V0,I9]at e2
   subst e2;exact Zz ho h k
  |[],e2=>simp at e2
  |_::_::_,e2=>simp at e2
 ·rename_i t x e2
  match args,e2 with
  |[y],e2=>
   simp only[E9,I1,V0,I9]at e2
   subst e2;exact ZB ho h k
  |[],e2=>simp at e2
  |_::_::_,e2=>simp at e2
 exact h.elim
theorem KS {H H':A1}(hl:∀id b,H id=some b→H' id=some b){id:Nat}{p:Nat×List V}(h:FB H id=some p):FB H' id=some p:=by
 have:=EN (sz:=p.1) (xs:=p.2) h;simp only[FB,hl _ _ this]
theorem VQ {P:Program} {H H':A1} {t:TypeId} {x v:V} (hl:∀id b,H id=some b→H' id=some b) (h:Le P H t x=some v):Le P H' t x=some v:=by
 unfold Le at h ⊢
 split at h
 ·rename_i id i esz off _ _
  cases hk:FB H id with
  |none=>simp[hk]at h
  |some p=>simpa only[hk,KS hl hk]using h
 cases h
theorem Yo {P:Program} {H H':A1} {t:TypeId} {x v:V} {i:Int} (hl:∀id b,H id=some b→H' id=some b) (h:VZ P H t x i=some v):VZ P H' t x i=some v:=by
 unfold VZ at h ⊢
 split at h
 ·rename_i e id lo n _
  cases hk:FB H id with
  |none=>simp[hk]at h
  |some p=>simpa only[hk,KS hl hk]using h
 cases h
theorem Tq {P:Program} {H H':A1} {t:TypeId} {x v:V} {i j k:Option Int} (hl:∀id b,H id=some b→H' id=some b) (h:JG P H t x i j k=some v):JG P H' t x i j k=some v:=by
 unfold JG at h ⊢
 split at h
 ·rename_i e id lo n _
  cases hk:FB H id with
  |none=>cases hs:DS P e<;>simp[hk,hs]at h
  |some p=>simpa only[hk,KS hl hk]using h
 cases h
theorem Yl {P:Program} {H H':A1} {b:Builtin} {ts:List TypeId} {vs:List V} {v:V} (hl:∀id b,H id=some b→H' id=some b) (h:LD P H b ts vs v):LD P H' b ts vs v:=by
 unfold LD at h ⊢
 split at h
 ·exact h
 ·rename_i t x
  unfold Wo at h ⊢
  split at h
  ·rename_i e id lo n _
   cases hk:FB H id with
   |none=>simp[hk]at h
   |some p=>simpa only[hk,KS hl hk]using h
  ·exact h
  ·exact h
  cases h
 exact h.elim
def ownN (x:V):Nat:=
 match x with
 | .own _ _ n=>n.toNat
 |_=>0
def FZ (H:A1) (K:V→A1→Prop) (sz by_:Nat) (z:V) (x:V) (ys:List V):Prop:=
 match x with
 | .own id lo n=>∃xs,H id=some (.arr sz xs)∧
  (lo+n+(ys.length:Nat)≤(xs.length:Nat)→K (.own id lo (n+(ys.length:Nat))) (upd H id (some (.arr sz (Ap xs (lo+n).toNat ys)))))∧
  ((xs.length:Nat)<lo+n+(ys.length:Nat)→(n.toNat+ys.length)*by_≤140737488355328∧∀t k,H t=none→K (.own t 0 (n+(ys.length:Nat))) (upd H t (some (.arr sz (L1 xs lo n++ys++List.replicate k z)))))
 |x=>(x= .sl [] .nil∨x= .sl [] .full)∧ys.length*by_≤140737488355328∧∀t k,H t=none→K (.own t 0 (ys.length:Nat)) (upd H t (some (.arr sz (ys++List.replicate k z))))
theorem EO {H:A1}{K K':V→A1→Prop}{sz by_:Nat}{z x:V}{ys:List V}(h:FZ H K sz by_ z x ys)(hk:∀v H',K v H'→K' v H'):FZ H K' sz by_ z x ys:=by
 unfold FZ at h ⊢
 split at h
 ·obtain⟨xs,m1,m3,m4⟩:=h;exact⟨xs,m1,fun e=>hk _ _ (m3 e),fun e=>⟨(m4 e).1,fun t k e'=>hk _ _ ((m4 e).2 t k e')⟩⟩
 obtain⟨m1,m2,m3⟩:=h;exact⟨m1,m2,fun t k e=>hk _ _ (m3 t k e)⟩
def ML (P:Program) (H:A1) (K:V→A1→Prop):List TypeId→List V→Prop
 | [sT,yT],[x,y]=>
  ∃ e sz by_ z,Ev P sT=some e∧DS P e=some sz∧0<sz∧Nr P e=some by_∧0<by_∧Hi P e=some z∧z.one=true∧z.cells.length=sz∧
   (((Ev P yT).isSome=true∧∃ys',Oq sz H y ys'∧FZ H K sz by_ z x ys')∨
    ((∃k',P.underlying yT=some (.int k'))∧∃k m,y= .int k m∧0≤m∧(ownN x+m.toNat)*by_≤140737488355328∧FZ H K sz by_ z x (List.replicate m.toNat z))∨
    (P.underlying yT=some .string∧∃s,y= .str s∧sz=1∧FZ H K sz by_ z x (FF s)))
 |_,_=>False
theorem QR {P:Program} {o:Oper} {fr:Fr} {H:A1} {c:Call} (ho:o.op= .call c) (hc:c.callee= .builtin .append) {K:V→A1→Prop}
 (h:ML P H K c.argTypes.toList (c.args.toList.map (ev fr))):H5 P o fr H K:=by
 obtain⟨ce,args,ts⟩:=c
 simp only at hc h
 subst hc;obtain⟨args⟩:=args;obtain⟨ts⟩:=ts
 simp only at h
 unfold ML at h
 split at h
 ·rename_i sT yT x y' e2
  match args,e2 with
  | [s,y],e2=>
   simp only[E9,I1,V0,I9]at e2
   obtain⟨e,sz,by_,z,k1,k3,k4,k5,k6,k7,k8,k9,h⟩:=h
   rcases h with⟨k2,ys',l1,l4⟩|⟨⟨k',k2⟩,k,m,l1,l2,l0,l4⟩|⟨k2,s',l1,l2,l4⟩
   ·unfold FZ at l4
    split at l4
    ·obtain⟨xs,m1,m3,m4⟩:=l4;exact Ts ho e2.1 m1 (by rw[e2.2];exact l1) k1 k2 k3 k4 k5 k6 k7 k8 k9 m3 m4
    obtain⟨m1,m2,m3⟩:=l4;exact RX ho (by rw[e2.1];exact m1) (by rw[e2.2];exact l1) k1 k2 k3 k4 k5 k6 k7 k8 k9 m2 m3
   ·have hm:((m.toNat:Nat):Int)=m:=by omega
    unfold FZ at l4
    simp only[Ny,hm]at l4
    split at l4
    ·rename_i id lo n;obtain⟨xs,m1,m3,m4⟩:=l4;exact RV ho e2.1 (e2.2.trans l1) m1 k1 k2 k3 k4 k5 k6 k7 k8 k9 l2 l0 m3 fun e=>(m4 e).2
    obtain⟨m1,m2,m3⟩:=l4;exact QA ho (by rw[e2.1];exact m1) (e2.2.trans l1) k1 k2 k3 k4 k5 k6 k7 k8 k9 l2 m2 m3
   subst l2
   unfold FZ at l4
   split at l4
   ·obtain⟨xs,m1,m3,m4⟩:=l4;exact RW ho e2.1 m1 (e2.2.trans l1) k1 k2 k3 k5 k6 k7 k8 k9 m3 m4
   obtain⟨m1,m2,m3⟩:=l4;exact QB ho (by rw[e2.1];exact m1) (e2.2.trans l1) k1 k2 k3 k5 k6 k7 k8 k9 m2 m3
  |[],e2=>simp at e2
  |[_],e2=>simp at e2
  |_::_::_::_,e2=>simp at e2
 exact h.elim
def UK (P:Program) (H:A1) (K:V→A1→Prop):List TypeId→List V→Prop
 | [sT,_],[.own id lo n,y]=>
  ∃e sz xs ys',Ev P sT=some e∧DS P e=some sz∧0<sz∧H id=some (.arr sz xs)∧Oq sz H y ys'∧
   K (.int .i64 (if n<(ys'.length:Nat)then n else(ys'.length:Nat))) (upd H id (some (.arr sz (Ap xs lo.toNat (ys'.take n.toNat)))))
 |_,_=>False
theorem UJ {P:Program} {o:Oper} {fr:Fr} {H:A1} {c:Call} (ho:o.op= .call c) (hc:c.callee= .builtin .copy) {K:V→A1→Prop}
 (h:UK P H K c.argTypes.toList (c.args.toList.map (ev fr))):H5 P o fr H K:=by
 obtain⟨ce,args,ts⟩:=c
 simp only at hc h
 subst hc;obtain⟨args⟩:=args;obtain⟨ts⟩:=ts
 simp only at h
 unfold UK at h
 split at h
 ·rename_i sT yT id lo n y' e2
  match args,e2 with
  |[s,y],e2=>
   simp only[E9,I1,V0,I9]at e2
   obtain⟨e,sz,xs,ys',k1,k2,k3,k4,k5,k8⟩:=h;exact XI ho e2.1 k4 (by rw[e2.2];exact k5) k1 k2 k3 k8
  |[],e2=>simp at e2
  |[_],e2=>simp at e2
  |_::_::_::_,e2=>simp at e2
 exact h.elim
def PZ (P:Program) (H:A1) (K:V→A1→Prop):List TypeId→List V→Prop
 |[sT],[.own id lo n]=>
  ∃e sz z xs,Ev P sT=some e∧DS P e=some sz∧0<sz∧Hi P e=some z∧z.one=true∧z.cells.length=sz∧H id=some (.arr sz xs)∧K (.tup []) (upd H id (some (.arr sz (Ap xs lo.toNat (List.replicate n.toNat z)))))
 |_,_=>False
theorem SM {P:Program} {o:Oper} {fr:Fr} {H:A1} {c:Call} (ho:o.op= .call c) (hc:c.callee= .builtin .clear) {K:V→A1→Prop}
 (h:PZ P H K c.argTypes.toList (c.args.toList.map (ev fr))):H5 P o fr H K:=by
 obtain⟨ce,args,ts⟩:=c
 simp only at hc h
 subst hc;obtain⟨args⟩:=args;obtain⟨ts⟩:=ts
 simp only at h
 unfold PZ at h
 split at h
 ·rename_i sT id lo n e2
  match args,e2 with
  |[s],e2=>
   simp only[E9,I1,V0,I9]at e2
   obtain⟨e,sz,z,xs,k1,k2,k3,k4,k5,k6,k7,k8⟩:=h;exact Vp ho e2 k7 k1 k2 k3 k4 k5 k6 k8
  |[],e2=>simp at e2
  |_::_::_,e2=>simp at e2
 exact h.elim
def NV (P:Program) (H:A1) (K:V→A1→Prop) (t:TypeId) (l c:V):Prop:=
 match l,c with
 | .int _ n,.int _ m=>∃e sz by_ z,Ev P t=some e∧DS P e=some sz∧0<sz∧Nr P e=some by_∧0<by_∧Hi P e=some z∧z.one=true∧z.cells.length=sz∧0≤n∧n≤m∧m*by_≤281474976710656∧
  ∀id,H id=none→K (.own id 0 n) (upd H id (some (.arr sz (List.replicate m.toNat z))))
 |_,_=>False
def LS (P:Program) (o:Oper) (ρ:Operand→V) (H:A1) (v:V):Prop:=
 match o.op with
 | .move x=>v=ρ x
 | .assign x=>v=ρ x
 | .pick c x y=>
  match ρ c with
  | .bool t=>v=if t then ρ x else ρ y
  |_=>False
 | .box _ x=>(ρ x).one=true∧v= .eref (ρ x).cells 0
 | .build t ps=>Ns P t (ps.toList.map fun p=>(p.1,ρ p.2))=some v
 | .buildSlice t n ps=>AA P t n (ps.toList.map fun p=>(p.1,ρ p.2))=some v
 | .makeSlice t l c=>Ab2 P t (ρ l) (ρ c) v
 | .load t x=>Ho P H t (ρ x)=some v∨Le P H t (ρ x)=some v
 | .nilCheck x=>WT (ρ x)=true∧v=ρ x
 | .binOp op t x y _=>Oo P op t (ρ x) (ρ y)=some v
 | .unOp op _ x=>unV op (ρ x)=some v
 | .convert s d x=>RD P s d (ρ x)=some v∨RE P H s d (ρ x) v
 | .lookup t x y ok=>KK P H t (ρ x) (ρ y) ok v
 | .makeInterface t x=>ifO P t=false∧v= .iface t (ρ x)
 | .makeFunc fn fs cs=>v= .func fn (fs.toList.map ρ) (cs.toList.map ρ)
 | .slice t x lo hi mx=>
  match BM (lo.map ρ),BM (hi.map ρ),BM (mx.map ρ)with
  |some l,some h,some m=>OZ P t (ρ x) l h m=some v∨JG P H t (ρ x) l h m=some v
  |_,_,_=>False
 | .fieldAddr t x f=>GH P t (ρ x) f=some v
 | .field t x f=>PP P t (ρ x) f=some v
 | .indexAddr t x y=>
  match ρ y with
  | .int _ i=>(∃u,Dr P t (ρ x) i=some u∧BQ u v)∨VZ P H t (ρ x) i=some v
  |_=>False
 | .index t x y=>
  match ρ y with
  | .int _ i=>Nh P t (ρ x) i=some v
  |_=>False
 | .extract x n=>
  match ρ x with
  | .tup cs=>cs[n]? =some v
  |_=>False
 | .call c=>
  match c.callee with
  | .value x=>Nu P (ρ x) (c.args.toList.map ρ) H v
  | .builtin b=>Cy P b c.argTypes.toList (c.args.toList.map ρ) v∨LD P H b c.argTypes.toList (c.args.toList.map ρ) v
  |_=>False
 |_=>False
theorem VP {P:Program} {H H':A1} {t:TypeId} {x v:V} (hl:∀id b,H id=some b→H' id=some b) (h:Ho P H t x=some v):Ho P H' t x=some v:=by
 unfold Ho at h ⊢
 split at h
 ·exact h
 ·rename_i ag sz id off _ _
  cases hk:H id with
  |none=>simp[hk]at h
  |some b=>simpa only[hk,hl _ _ hk]using h
 cases h
theorem ZW {P:Program} {o:Oper} {ρ:Operand→V} {H H':A1} {v:V} (hl:∀id b,H id=some b→H' id=some b) (h:LS P o ρ H v):LS P o ρ H' v:=by
 unfold LS at h ⊢
 cases ho:o.op<;>simp only[ho]at h ⊢ <;>first|exact h|exact h.imp (VP hl) (VQ hl)|exact h.imp (fun h=>h) (Wl hl)|exact Sw hl h|skip
 ·split at h
  ·exact h.imp (fun h=>h) (Tq hl)
  exact h
 ·split at h
  ·exact h.imp (fun h=>h) (Yo hl)
  exact h
 split at h
 ·exact h.up hl
 ·exact h.imp (fun h=>h) (Yl hl)
 exact h
theorem KD {P:Program} {o:Oper} {fr:Fr} {H:A1} {v:V} (h:LS P o (ev fr) H v) {K:V→A1→Prop} (k:K v H):H5 P o fr H K:=by
 unfold LS at h
 split at h
 ·rename_i x ho;subst h;exact Tt ho k
 ·rename_i x ho;subst h;exact Pd ho k
 ·rename_i c x y ho
  split at h
  ·rename_i t hc;subst h;exact Zx ho hc k
  exact h.elim
 ·rename_i t x ho;obtain⟨h1,rfl⟩:=h;exact JH ho h1 k
 ·rename_i t ps ho;exact XO ho h k
 ·rename_i t n ps ho;exact Pc ho h k
 ·rename_i t l c ho;exact XJ ho h k
 ·rename_i t x ho;exact h.elim (fun h=>ZD ho h k) fun h=>XH ho h k
 ·rename_i x ho;obtain⟨h1,rfl⟩:=h;exact RY ho h1 k
 ·rename_i op t x y ty ho;exact XP ho h k
 ·rename_i op t x ho;exact Zw ho h k
 ·rename_i s d x ho;exact h.elim (fun h=>Tz ho h k) fun h=>XN ho h k
 ·rename_i t x y ok ho;exact Vq ho h k
 ·rename_i t x ho;obtain⟨h1,rfl⟩:=h;exact Mc ho h1 k
 ·rename_i fn fs cs ho;subst h;exact Sb ho k
 ·rename_i t x lo hi mx ho
  split at h
  ·rename_i l hh m e1 e2 e3;exact h.elim (fun h=>XF ho e1 e2 e3 h k) fun h=>Tr ho e1 e2 e3 h k
  exact h.elim
 ·rename_i t x f ho;exact QD ho h k
 ·rename_i t x f ho;exact XL ho h k
 ·rename_i t x y ho
  split at h
  ·rename_i kk i e
   rcases h with⟨u,h1,h2⟩|h
   rotate_left
   ·exact ZA ho e h k
   exact H5.le (QC (K:=fun x H'=>∃y,BQ x y∧K y H') ho e h1 ⟨v,h2,k⟩)
  exact h.elim
 ·rename_i t x y ho
  split at h
  ·rename_i kk i e;exact XK ho e h k
  exact h.elim
 ·rename_i x n ho
  split at h
  ·rename_i cs e;exact Ty ho e h k
  exact h.elim
 ·rename_i c ho
  split at h
  ·rename_i x hc;obtain⟨ce,args,ts⟩:=c
   simp only at hc h
   subst hc;exact TA ho ((h H fun _ _ e=>e).mono fun x H' ⟨e1,e2⟩=>by rw[e1,e2];exact k)
  ·rename_i b hc;exact h.elim (fun h=>Kr ho hc h k) fun h=>PE ho hc h k
  exact h.elim
 exact h.elim
def Ay6 (K:V→A1→Prop)(x:V)(H:A1):Prop:=∃y H2,BQ x y∧(∀id b,H2 id=some b→H id=some b)∧K y H2
def GO (P:Program) (A:Qw) (o:Oper) (ρ:Operand→V) (H:A1) (K:V→A1→Prop):Prop:=
 match o.op with
 | .alloc t=>(∃z,Hi P t=some z∧z.one=true∧∀id,H id=none→∃ds,L8 z.cells ds∧K (.ref id 0) (upd H id (some (.cells ds))))∨
  Hi P t=some (.sl [] .nil)∧∃sz,∀q id,H q=none→upd H q (some (.arr sz [])) id=none→K (.ref id 0) (upd (upd H q (some (.arr sz []))) id (some (.cells [.own q 0 0])))
 | .box _ x=>
  (ρ x).one=true∧if A (o.dst.getD 0)then∀id,H id=none→K (.ref id 0) (upd H id (some (.cells (ρ x).cells)))else K (.eref (ρ x).cells 0) H
 | .store t x y=>(∃z H',BQ (ρ y) z∧Lm P H t (ρ x) z=some H'∧K .bad H')∨∃z H',BQ (ρ y) z∧RT P H t (ρ x) z=some H'∧K .bad H'
 | .makeSlice t l c=>NV P H K t (ρ l) (ρ c)∨NV P H (Ul K) t (ρ l) (ρ c)
 | .assign x=>K (ρ x) H∨Aq5 H K (ρ x)
 | .move x=>K (ρ x) H∨Aq5 H K (ρ x)
 | .buildSlice t n ps=>(∃v,LS P o ρ H v∧K v H)∨litO P H K t n (ps.toList.map fun p=>(p.1,ρ p.2))
 | .makeMap t r=>r=none∧Ab1 H K
 | .mapUpdate t x y z=>Kt P H K t (ρ x) (ρ y) (ρ z)
 | .insert t x y z=>Kt P H K t (ρ x) (ρ y) (ρ z)
 | .range t x=>Lw P H K t (ρ x)
 | .next x s=>s=false∧Px H K (ρ x)
 | .entry x=>LI H K (ρ x)
 | .binOp op t x y _=>(∃v,LS P o ρ H v∧K v H)∨∃q e p,Xp op=some q∧Ev P t=some e∧Yf (ρ x)=some p∧ρ y= .sl [] .nil∧(p→K (.bool q) H)∧K (.bool (!q)) H
 | .call c=>
  match c.callee with
  | .value x=>Cz P (ρ x) (c.args.toList.map ρ) H K
  | .builtin .append=>Gk P H K c.argTypes.toList (c.args.toList.map ρ)∨ML P H K c.argTypes.toList (c.args.toList.map ρ)∨Gk P H (Ay6 K) c.argTypes.toList (c.args.toList.map ρ)
  | .builtin .copy=>UK P H K c.argTypes.toList (c.args.toList.map ρ)
  | .builtin .clear=>PZ P H K c.argTypes.toList (c.args.toList.map ρ)
  | .builtin .delete=>EX P H K c.argTypes.toList (c.args.toList.map ρ)
  | .builtin b=>∃v,(Cy P b c.argTypes.toList (c.args.toList.map ρ) v∨LD P H b c.argTypes.toList (c.args.toList.map ρ) v)∧K v H
  |_=>False
 |_=>∃v,LS P o ρ H v∧K v H
theorem Vt {P:Program}{o:Oper}{fr:Fr}{H:A1}{K:V→A1→Prop}{t:TypeId}(ho:o.op= .alloc t)(hz:Hi P t=some (.sl [] .nil))(sz:Nat)
 (h:∀q id,H q=none→upd H q (some (.arr sz [])) id=none→K (.ref id 0) (upd (upd H q (some (.arr sz []))) id (some (.cells [.own q 0 0])))):H5 P o fr H K:=by
 intro g w a hR hE;obtain⟨v,e,hv⟩:=CB hz
 have hr:VR g w v (.sl [] .nil):=by rw[e];exact Du g w v
 obtain⟨g1,s1,R1,hn,hv1⟩:=DL hR sz (.inl rfl) hr;obtain⟨g',id,hid,s,hR',hv'⟩:=Ht R1 t hv1 rfl;unfold execOp;rw[ho];simp only[Instr.alloc,B5,hv,B2,G6];exact⟨g',_,_,s1.trans s,hR',hv',h _ id hn hid⟩
theorem Rl.chgCells {g:Gh} {H:A1} {w:World} (h:Rl g H w) {id:Nat} {cs ds:List V} (hk:H id=some (.cells cs)) (el:cs.length=ds.length)
 (hv:∀(j:Nat) u,j<cs.length→VR g w u (cs.getD j .bad)→VR g w u (ds.getD j .bad)):Rl g (upd H id (some (.cells ds))) w:=by
 have hat:∀x,g.at (upd H id (some (.cells ds))) x=g.at H x:=by
  intro x
  by_cases hx:x=id
  ·subst hx;simp only[Gh.at,C8,hk]
  simp only[Gh.at,C1 _ _ hx]
 refine⟨fun x k hx=>?_,fun x x' y h1 h2=>h.inj x x' y (hat x▸h1) (hat x'▸h2),h.frz,fun x hx=>?_,h.bnd,h.glb⟩
 ·by_cases hxe:x=id
  ·subst hxe;rw[C8]at hx;cases hx
   obtain⟨b,c,T,h1,h2,h3,h4,h5,h6⟩:=h.blk x _ hk;exact⟨b,c,T,h1,h2,h3,by omega,fun j hj=>⟨(h5 j (by omega)).1,hv j _ (by omega) (h5 j (by omega)).2⟩,h6⟩
  rw[C1 _ _ hxe]at hx;exact h.blk x k hx
 obtain⟨a1,a2,a3⟩:=h.nxt x hx
 have hne:x≠id:=fun e=>by subst e;rw[hk]at a3;cases a3
 exact⟨a1,a2,by rw[C1 _ _ hne];exact a3⟩
theorem Vs {P:Program}{o:Oper}{fr:Fr}{H:A1}{K:V→A1→Prop}{t:TypeId}{z:V}(ho:o.op= .alloc t)(hz:Hi P t=some z)(h1:z.one=true)(h:∀id,H id=none→∃ds,L8 z.cells ds∧K (.ref id 0) (upd H id (some (.cells ds)))):H5 P o fr H K:=by
 intro g w a hR hE;refine(XQ (K:=fun x H'=>∃id,H id=none∧x= .ref id 0∧H'=upd H id (some (.cells z.cells))) ho hz h1 (fun id hid=>⟨id,hid,rfl,rfl⟩) g w a hR hE).mono fun v w' ⟨g',x,H',s,hR',hv,id,hid,e1,e2⟩=>?_;subst e1;subst e2;obtain⟨ds,hle,hK⟩:=h id hid;have:=hR'.chgCells (C8 _ _ _) (ds:=ds) hle.length fun j u _ hu=>hu.le (hle.at j)
 rw[X1]at this
 exact⟨g',_,_,s,this,hv,hK⟩
theorem Yd {P:Program} {A:Qw} {o:Oper} {fr:Fr} {H:A1} {K:V→A1→Prop} (h:GO P A o (ev fr) H K):H5 P o fr H K:=by
 unfold GO at h
 split at h
 ·rename_i t ho
  rcases h with⟨z,h1,h2,h3⟩|⟨h1,sz,h2⟩
  ·exact Vs ho h1 h2 h3
  exact Vt ho h1 sz h2
 ·rename_i t x ho;obtain⟨h1,h2⟩:=h
  split at h2
  ·exact QE ho h1 h2
  exact JH ho h1 h2
 ·rename_i t x y ho
  rcases h with⟨z,H',h0,h1,h2⟩|⟨z,H',h0,h1,h2⟩
  ·exact QX ho (fun _ _ _ h=>h.le h0) h1 h2
  exact Vo ho h0 h1 h2
 ·rename_i t l c ho
  have key:∀K,NV P H K t (ev fr l) (ev fr c)→H5 P o fr H K:=by
   intro K h
   unfold NV at h
   split at h
   ·rename_i k1 n k2 m e1 e2;obtain⟨e,sz,by_,z,q1,q2,q3,q4,q5,q6,q7,q8,q9,q10,q11,q12⟩:=h;exact Tv ho e1 e2 q1 q2 q3 q4 q5 q6 q7 q8 q9 q10 q11 q12
   exact h.elim
  exact h.elim (key K) fun h=>H5.lessRow (key _ h)
 ·rename_i x ho;exact h.elim (Pd ho) fun⟨h1,sz,h2⟩=>NP (.inl ho) h1 sz h2
 ·rename_i x ho;exact h.elim (Tt ho) fun⟨h1,sz,h2⟩=>NP (.inr ho) h1 sz h2
 ·rename_i t n ps ho
  rcases h with⟨v,h1,h2⟩|⟨e,sz,xs,ys,h1,h2,h3,h4,h5⟩
  ·exact KD h1 h2
  exact Zy ho h1 h2 h3 h4 h5
 ·rename_i t r ho;obtain⟨rfl,h⟩:=h;exact h.elim (Tu ho) fun h=>h.elim (Sa ho) (RZ ho)
 ·rename_i t x y z ho;exact La (.inl ho) h
 ·rename_i t x y z ho;exact La (.inr ho) h
 ·rename_i t x ho;exact XG ho h
 ·rename_i x s ho;obtain⟨rfl,h⟩:=h;exact ZC ho h
 ·rename_i x ho;exact XM ho h
 ·rename_i op t x y ty ho
  rcases h with⟨v,h1,h2⟩|⟨q,e,xs,q1,q2,q3,q4,q5,q6⟩
  ·exact KD h1 h2
  exact Ah5 ho q1 q2 q3 q4 q5 q6
 ·rename_i c ho
  split at h
  ·rename_i x hc;obtain⟨ce,args,ts⟩:=c
   simp only at hc h
   subst hc;exact TA ho h
  ·rename_i hc;exact h.elim (Lh ho hc) fun h=>h.elim (QR ho hc) fun h=>H5.lessH (Lh ho hc h)
  ·rename_i hc;exact UJ ho hc h
  ·rename_i hc;exact SM ho hc h
  ·rename_i hc;exact QO ho hc h
  ·rename_i b _ _ _ _ hc;obtain⟨v,h1,h2⟩:=h;exact h1.elim (fun h1=>Kr ho hc h1 h2) fun h1=>PE ho hc h1 h2
  exact h.elim
 obtain⟨v,h1,h2⟩:=h;exact KD h1 h2
end Go.Ab
namespace Go.Ab
open Go.RowKit
variable [K9]
def Fw (r:Option Nat):Fence:={fn:=fun _=>True,depth:=none,alive:=false,round:=r}
theorem LM {r:Option Nat}{P:Program}{f:FuncId}{args:Array Value}{w:World}{R:Ending→World→Prop}(h:CallsIn Fence.wide 0 P f args w R):CallsIn (Fw r) 0 P f args w R:=h
theorem Vz {r:Option Nat}{P:Program}{l:Nat}{f:FuncId}{tmps:Array Value}{c d:Code}{w:World}{R:Ending→World→Prop}(h:RoundIn Fence.wide 0 P l f tmps c d w R):RoundIn (Fw r) 0 P l f tmps c d w R:=h
theorem Ua {P:Program}{A:Qw}{o:Oper}{ρ:Operand→V}{H:A1}{K:V→A1→Prop}(h:GO P A o ρ H K):∀c,o.op≠ .defer c:=by
 grind [GO,LS]
theorem GB {P:Program} {r:Option Nat} {o:Oper} {a:Act} {next:Act→World→Prop} {Q:Exit→Act→World→Prop} {K:Value→World→Prop} {x:Result Next} (h:G6 P K x)
 (hk:∀v w,K v w→next (a.put o.dst v) w):o.uponIn (Fw r) 0 P a next Q x:=by
 cases x with
 |halt x w=>exact h.elim
 | ok n w=>
  cases n<;>first
   |exact h.elim
   |exact hk _ _ h
   |exact⟨fun h=>by simp[Fw]at h,(LM h).mono fun e w' ⟨v,e1,e2⟩=>by simp_all⟩
   |exact⟨fun h=>by simp[Fw]at h,(Vz h).mono fun e w' ⟨v,e1,e2⟩=>by simp_all⟩
def FY (nt:Nat):Option Tmp→Bool
 |some d=>d<nt
 |none=>true
def Be (ops:Array Oper) (fr:Fr) (o:Oper):Option Bool:=
 match o.guard with
 |none=>some true
 | some (j,want)=>
  match(ops[j]?).bind (·.dst)with
  |some d=>
   match fr.s d with
   | .bool b=>some (b==want)
   | .tup _=>some false
   |_=>none
  |none=>none
def HB (P:Program) (A:Qw) (nt:Nat) (ops:Array Oper):List Oper→Fr→A1→(Fr→A1→Prop)→Prop
 |[],fr,H,K=>K fr H
 | o::rest,fr,H,K=>
  FY nt o.dst=true∧
   match Be ops fr o with
   |some true=>GO P A o (ev fr) H fun v H'=>HB P A nt ops rest (fr.put o.dst v) H' K
   |some false=>HB P A nt ops rest (fr.put o.dst (.tup [])) H K
   |none=>False
def Qv (nt:Nat)(g:Gh)(w:World)(Q:Exit→Fr→A1→Prop)(e:Exit)(a':Act)(w':World):Prop:=
 ∃g' fr' H',U1 g w g' w'∧Rl g' H' w'∧FR nt g' w' a' fr'∧Q e fr' H'
def YK (g:Gh):Option Nat→Option Nat→Prop
 |none,r=>r=none
 |some id,r=>∃b,g.mu id=some b∧r=some b
theorem YK.mono {g g':Gh}{w w':World}{rd r:Option Nat}(h:YK g rd r)(s:U1 g w g' w'):YK g' rd r:=by
 cases rd with
 |none=>exact h
 |some id=>obtain⟨b,h1,h2⟩:=h;exact⟨b,s.mu _ _ h1,h2⟩
def S0 (P:Program)(nt:Nat)(rd:Option Nat)(c:Code)(fr:Fr)(H:A1)(Q:Exit→Fr→A1→Prop):Prop:=
 ∀r g w a,YK g rd r→Rl g H w→FR nt g w a fr→c.wpIn (Fw r) 0 P (Qv nt g w Q) a w
theorem Qv.later {nt:Nat}{g g':Gh}{w w':World}{Q:Exit→Fr→A1→Prop}{e:Exit}{a:Act}{w2:World}(s:U1 g w g' w')(h:Qv nt g' w' Q e a w2):Qv nt g w Q e a w2:=
 let⟨g2,fr,H,s2,x⟩:=h;⟨g2,fr,H,s.trans s2,x⟩
theorem Qv.mono {nt:Nat}{g:Gh}{w:World}{Q Q':Exit→Fr→A1→Prop}(hq:∀e fr H,Q e fr H→Q' e fr H){e:Exit}{a:Act}{w2:World}(h:Qv nt g w Q e a w2):Qv nt g w Q' e a w2:=
 let⟨g2,fr,H,s2,a,b,c⟩:=h;⟨g2,fr,H,s2,a,b,hq _ _ _ c⟩
theorem S0.mono {P:Program}{nt:Nat}{rd:Option Nat}{c:Code}{fr:Fr}{H:A1}{Q Q':Exit→Fr→A1→Prop}(h:S0 P nt rd c fr H Q)(hq:∀e fr H,Q e fr H→Q' e fr H):S0 P nt rd c fr H Q':=
 fun r g w a hr hR hF=>wpIn_mono (h r g w a hr hR hF) fun _ _ _=>Qv.mono hq
section
variable {P:Program}{nt:Nat}{rd:Option Nat}{fr:Fr}{H:A1}{Q:Exit→Fr→A1→Prop}
theorem FR.er {g:Gh}{w:World}{a:Act}{fr:Fr}(h:FR nt g w a fr):ER g w a fr:=h.s
theorem W2 {ops:Array Oper} {g:Gh} {w:World} {a:Act} {o:Oper} {b:Bool} (hE:ER g w a fr) (h:Be ops fr o=some b):Region.wanted o (yielded ops a.tmps)=b:=by
 unfold Be at h
 unfold Region.wanted
 split at h
 ·simp_all
 rename_i j want hg;simp only[hg]
 split at h
 ·rename_i d hd
  split at h
  ·rename_i c hc;cases h;have:=hE d
   rw[hc]at this
   have hv:=this.bool_inv
   have ht:a.tmps[d]? =some (.bool c):=by
    rw[L9]at hv
    cases hx:a.tmps[d]? with
    |none=>rw[hx]at hv;simp[undef]at hv
    |some y=>rw[hx]at hv;grind
   simp only[yielded,hd,A6,ht];cases c<;>cases want<;>rfl
  ·rename_i vs hc;cases h;have:=hE d
   rw[hc]at this
   have hv:∃us,a.tmps.getD d undef= .tuple us:=by
    generalize a.tmps.getD d undef=z at this
    cases this with
    |tup h1 h2=>simp_all
   obtain⟨us,hv⟩:=hv
   have hy:yielded ops a.tmps j=none:=by
    unfold yielded;simp only[hd,A6]
    rw[L9]at hv
    grind
   rw[hy];cases want<;>rfl
  cases h
 cases h
theorem QU {A:Qw}{r:Option Nat}{g:Gh}{w:World}{a:Act}{o:Oper}{K:V→A1→Prop}{next:Act→World→Prop}{Q:Exit→Act→World→Prop}(hR:Rl g H w)(hF:FR nt g w a fr)(hd:FY nt o.dst=true)
 (h:GO P A o (ev fr) H K) (hk:∀g' w' a' v H',U1 g w g' w'→Rl g' H' w'→FR nt g' w' a' (fr.put o.dst v)→K v H'→next a' w'):o.wpIn (Fw r) 0 P a w next Q:=by
 refine⟨fun _ _=>trivial,?_⟩;rw[AD _ _ _ (Ua h)];refine GB (Yd h g w a hR hF.s) fun v w' ⟨g',x,H',s,hR',hv,hK⟩=>?_;refine hk g' w' _ x H' s hR' ((hF.mono s).put (fun t ht=>?_) hv) hK
 rw[ht]at hd;grind [FY]
theorem Pu {A:Qw} {ops:Array Oper} {r:Option Nat} {K:Fr→A1→Prop} {Q:Exit→Act→World→Prop} {g0:Gh} {w0:World} (hQ:∀g w a fr H,U1 g0 w0 g w→Rl g H w→FR nt g w a fr→K fr H→Q .normal a w):
 ∀(m i:Nat) (fr:Fr) (H:A1),i+m=ops.size→HB P A nt ops (ops.toList.drop i) fr H K→∀g w a,U1 g0 w0 g w→Rl g H w→FR nt g w a fr→wpOpsIn (Fw r) 0 P ops Q (List.range' i m) a w
 |0,i,fr,H,hi,h,g,w,a,s,hR,hF=>by
  have:ops.toList.drop i=[]:=by simp;omega
  rw[this]at h
  exact hQ g w a fr H s hR hF h
 | m+1,i,fr,H,hi,h,g,w,a,s,hR,hF=>by
  have hlt:i<ops.toList.length:=by simp;omega
  have hlt':i<ops.size:=by omega
  rw[Aa hlt]at h
  simp only[HB,Js]at h
  obtain⟨hd,h⟩:=h;simp only[Ji,wpOpsIn,Ac hlt'];have ih:=Pu (A:=A) (ops:=ops) (r:=r) (K:=K) hQ m (i+1)
  split at h
  ·rename_i hg;rw[A2 (W2 hF.s hg)];exact QU hR hF hd h fun g' w' a' v H' s' hR' hF' hK=>ih _ _ (by omega) hK g' w' a' (s.trans s') hR' hF'
  ·rename_i hg;rw[A3 (by rw[W2 hF.s hg];simp)];refine⟨fun _ _=>trivial,ih _ _ (by omega) h g w _ s hR (hF.put (fun t ht=>?_) (VR.und _ _))⟩
   rw[ht]at hd;grind [FY]
  grind
theorem S0.region {A:Qw} {id:Nat} {ops:Array Oper} (h:HB P A nt ops ops.toList fr H (Q .normal)):S0 P nt rd (.region id ops false) fr H Q:=by
 intro r g w a hr hR hF;refine wpIn_region ?_
 have:=Pu (P:=P) (A:=A) (nt:=nt) (ops:=ops) (r:=r) (K:=Q .normal) (Q:=Qv nt g w Q) (g0:=g) (w0:=w) (fun g' w' a' fr' H' s hR hF hK=>⟨g',fr',H',s,hR,hF,hK⟩) ops.size 0 fr H (by omega)
  (by grind) g w a (U1.refl _ _) hR hF
 rwa[←List.range_eq_range']at this
theorem S0.skip (h:Q .normal fr H):S0 P nt rd .skip fr H Q:=fun r g w a hr hR hF=>wpIn_skip ⟨g,fr,H,U1.refl _ _,hR,hF,h⟩
theorem S0.ret (h:Q .ret fr H):S0 P nt rd .ret fr H Q:=fun r g w a hr hR hF=>wpIn_ret ⟨g,fr,H,U1.refl _ _,hR,hF,h⟩
theorem S0.exit {id:Nat}(h:Q (.exit id) fr H):S0 P nt rd (.exit id) fr H Q:=fun r g w a hr hR hF=>wpIn_exit ⟨g,fr,H,U1.refl _ _,hR,hF,h⟩
theorem S0.seq {x y:Code}(h:S0 P nt rd x fr H fun e fr' H'=>match e with| .normal=>S0 P nt rd y fr' H' Q|e=>Q e fr' H'):S0 P nt rd (.seq x y) fr H Q:=by
 intro r g w a hr hR hF;refine wpIn_seq (wpIn_mono (h r g w a hr hR hF) fun e a' w' ⟨g',fr',H',s,hR',hF',hq⟩=>?_)
 cases e with
 |normal=>exact wpIn_mono (hq r g' w' a' (hr.mono s) hR' hF') fun _ _ _=>Qv.later s
 |_=>exact⟨g',fr',H',s,hR',hF',hq⟩
theorem S0.cond {c:Operand}{x y:Code}{t:Bool}(hc:ev fr c= .bool t)(h1:t=true→S0 P nt rd x fr H Q)(h2:t=false→S0 P nt rd y fr H Q):S0 P nt rd (.cond c x y) fr H Q:=by
 intro r g w a hr hR hF;have hv:=D8 hR hF.s c
 rw[hc]at hv
 refine wpIn_cond hv.bool_inv ?_;cases t
 ·exact h2 rfl r g w a hr hR hF
 exact h1 rfl r g w a hr hR hF
theorem S0.block {id:Nat} {c:Code} (h:S0 P nt rd c fr H fun e fr' H'=>match e with| .exit id'=>if id'=id then Q .normal fr' H' else Q (.exit id') fr' H'|e=>Q e fr' H'):S0 P nt rd (.block id c) fr H Q:=by
 intro r g w a hr hR hF;refine wpIn_block (wpIn_mono (h r g w a hr hR hF) fun e a' w' ⟨g',fr',H',s,hR',hF',hq⟩=>?_)
 cases e with
 |exit id'=>
  simp only[Exit.inBlock]
  grind [Qv]
 |_=>exact⟨g',fr',H',s,hR',hF',hq⟩
theorem S0.loopN {c:Code} (I:Nat→Fr→A1→Prop) (n0:Nat) (h0:I n0 fr H)
 (round:∀n fr H,I n fr H→S0 P nt rd c fr H fun e fr' H'=>match e with| .normal=>∃n',n'<n∧I n' fr' H'|e=>Q e fr' H'):S0 P nt rd (.loop c) fr H Q:=by
 intro r g w a hr hR hF;intro b k cs hro hb hrm
 have key:∀n fr H,I n fr H→∀g' w' a,U1 g w g' w'→Rl g' H w'→FR nt g' w' a fr→
  ∃e a' w2,Qv nt g w Q e a' w2∧ArrivesIn (Machine.fenced P (Fw r)) P (lone (b.atR a (.code c:: .inLoop c::k)) cs w') b k cs e a' w2:=by
  intro n
  induction n using Nat.strongRecOn with
  | _ n ih=>
   intro fr H hI g' w' a s hR hF;obtain⟨e,a₁,w₁,⟨g1,fr1,H1,s1,hR1,hF1,hq⟩,harr⟩:=round n fr H hI r g' w' a (hr.mono s) hR hF b (.inLoop c::k) cs hro hb hrm
   cases e with
   |normal=>
    obtain⟨n',hlt,hI₁⟩:=hq;obtain⟨e₂,a₂,w₂,hq₂,harr₂⟩:=ih n' hlt fr1 H1 hI₁ g1 w₁ a₁ (s.trans s1) hR1 hF1;exact⟨e₂,a₂,w₂,hq₂,.of_steps (StepsIn.trans harr (.one (fenced_calm hb hrm rfl) stepR_inLoop)) harr₂⟩
   |exit id=>exact⟨_,a₁,w₁,⟨g1,fr1,H1,s.trans s1,hR1,hF1,hq⟩,.pass (x:=.inLoop c) rfl (fun _ _=>.inl (by simp)) harr⟩
   |goto l=>exact⟨_,a₁,w₁,⟨g1,fr1,H1,s.trans s1,hR1,hF1,hq⟩,.pass (x:=.inLoop c) rfl (fun _ _=>.inl (by simp)) harr⟩
   |ret=>exact⟨_,a₁,w₁,⟨g1,fr1,H1,s.trans s1,hR1,hF1,hq⟩,.pass (x:=.inLoop c) rfl (fun _ _=>.inl (by simp)) harr⟩
   |panic ch=>exact⟨_,a₁,w₁,⟨g1,fr1,H1,s.trans s1,hR1,hF1,hq⟩,.pass (x:=.inLoop c) rfl (fun _ _=>.inl (by simp)) harr⟩
   |outgrown=>exact⟨_,a₁,w₁,⟨g1,fr1,H1,s.trans s1,hR1,hF1,hq⟩,.pass (x:=.inLoop c) rfl (fun _ _=>.inl (by simp)) harr⟩
 obtain⟨e,a',w',hq,harr⟩:=key _ fr H h0 g w a (U1.refl _ _) hR hF;exact⟨e,a',w',hq,.of_steps (.one (fenced_calm hb hrm rfl) stepR_loop) harr⟩
theorem S0.loop {c:Code} (I:Fr→A1→Prop) (μ:Fr→A1→Nat) (h0:I fr H)
 (round:∀fr H,I fr H→S0 P nt rd c fr H fun e fr' H'=>match e with| .normal=>I fr' H'∧μ fr' H'<μ fr H|e=>Q e fr' H'):S0 P nt rd (.loop c) fr H Q:=
 S0.loopN (fun n fr H=>I fr H∧μ fr H=n) _ ⟨h0,rfl⟩ fun n fr H ⟨hI,hn⟩=>(round fr H hI).mono fun e fr' H' hq=>by
  grind
theorem S0.less {c:Code}{fr':Fr}{H':A1}(h:S0 P nt rd c fr' H' Q)(hs:∀t,Wk (fr.s t) (fr'.s t))(hd:fr'.df=fr.df)(hl:∀id b,H' id=some b→H id=some b):S0 P nt rd c fr H Q:=by
 intro r g w a hr hR hF;refine h r g w a hr (hR.less hl) ⟨hF.size,fun t=>hs t _ _ _ (hF.s t),?_⟩;rw[hd];exact hF.df
theorem S0.freeze {c:Code} {t id off:Nat} {cs:List V} (ht:fr.s t= .ref id off) (hk:H id=some (.cells cs)) (h:S0 P nt rd c (fr.put (some t) (.eref cs off)) (upd H id none) Q):S0 P nt rd c fr H Q:=by
 intro r g w a hr hR hF;obtain⟨g',s,hR',hv⟩:=hR.freeze hk;refine wpIn_mono (h r g' w a (hr.mono s) hR' ?_) fun _ _ _=>Qv.later s;have hF':=hF.mono s;refine⟨hF'.size,fun x=>?_,hF'.df⟩;simp only[Fr.put]
 split
 ·rename_i e;subst e;have:=hF.s x
  rw[ht]at this
  simp_all
 exact hF'.s x
end
end Go.Ab
namespace Go.Ab
open Go.RowKit
variable [K9]
def BR (P:Program) (fr:Fr) (H:A1):List ResultVar→Option (List V)
 |[]=>some []
 | .tmp t::r=>(BR P fr H r).map (fr.s t:: ·)
 | .cell a t::r=>
  match Ho P H t (fr.s a),BR P fr H r with
  |some v,some l=>some (v::l)
  |_,_=>none
def NT :List V→V
 |[x]=>x
 |l=>.tup l
def An5 (H:A1)(df:List Nat):Prop:=df.Nodup∧∀id∈df,H id=some (.obj (.deferred (some [])))
def clear (H:A1)(df:List Nat):A1:=fun x=>if x∈df then none else H x
section
variable {P:Program}
theorem Ab3 {g:Gh} {w:World} {H:A1} (hR:Rl g H w) {t:TypeId} {v:Value} {X x:V} (hv:VR g w v X) (hl:Ho P H t X=some x):
 ∃b q u,v= .pointer (some ⟨b,q,none⟩)∧(loadVar t ⟨b,q,none⟩).run P w= .ok u w∧VR g w u x:=by
 unfold Ho at hl
 split at hl
 ·rename_i ag sz cs off ha hs
  cases hv with
  |eref vs hf hw h1 hvv=>
   rename_i b q;obtain⟨u,hu,hr⟩:=GD (P:=P) (g:=g) (w:=w) (b:=b) (q:=q) (cs:=cs) (fun j hj=>⟨vs j,hw j hj,h1 j hj,hvv j hj⟩) ha hs hl
   grind
 ·rename_i ag sz id off ha hs
  cases hv with
  | ref hm=>
   rename_i b
   split at hl
   ·rename_i cs hk;obtain⟨u,hu,hr⟩:=GD (P:=P) (Oi hR hk hm) ha hs hl
    rw[U9]at hu
    grind
   cases hl
 cases hl
theorem JK {nt:Nat} {g:Gh} {w:World} {H:A1} {a:Act} {fr:Fr} (hR:Rl g H w) (hE:ER g w a fr):∀(rs:List ResultVar) (l:List V),BR P fr H rs=some l→
 ∃vs:List Value,(rs.mapM (m:=Sem) fun| .tmp t=>pure (a.tmps.getD t undef)| .cell x t=>do loadVar t (←asAddr (a.tmps.getD x undef))).run P w= .ok vs w∧vs.length=l.length∧
  ∀i,i<l.length→VR g w (vs.getD i undef) (l.getD i .bad)
 |[],l,h=>by simp_all[BR]
 | .tmp t::r,l,h=>by
  simp only[BR]at h
  cases hr:BR P fr H r with
  |none=>grind
  |some l'=>
   simp only[hr,H8,D9]at h
   subst h;obtain⟨vs,h1,h2,h3⟩:=JK (nt:=nt) hR hE r l' hr;refine⟨a.tmps.getD t undef::vs,?_,by simp[h2],fun i hi=>?_⟩
   ·simp_all
   cases i with
   |zero=>exact hE t
   |succ i=>simp_all
 | .cell x t::r,l,h=>by
  simp only[BR]at h
  split at h
  ·rename_i v l' hv hr;cases h;obtain⟨vs,h1,h2,h3⟩:=JK (nt:=nt) hR hE r l' hr;obtain⟨b,q,u,e1,e2,e3⟩:=Ab3 hR (hE x) hv;refine⟨u::vs,?_,by simp[h2],fun i hi=>?_⟩
   ·have ea:(asAddr (.pointer (some ⟨b,q,none⟩))).run P w= .ok ⟨b,q,none⟩ w:=rfl
    simp_all
   grind
  cases h
theorem TJ {nt:Nat} {g:Gh} {w:World} {H:A1} {a:Act} {fr:Fr} {fn:Func} (hR:Rl g H w) (hE:ER g w a fr) {l:List V} (h:BR P fr H fn.results.toList=some l):
 ∃v,(results fn a.tmps).run P w= .ok v w∧VR g w v (NT l):=by
 obtain⟨vs,h1,h2,h3⟩:=JK (nt:=nt) hR hE _ _ h
 have hm:(results fn a.tmps).run P w= .ok (if h:vs.toArray.size=1 then vs.toArray[0]else .tuple vs.toArray) w:=by
  unfold results;rw[Array.mapM_eq_mapM_toList];simp only[B5,Sem.run_map]
  erw [h1]
  rfl
 refine⟨_,hm,?_⟩
 match l,vs,h2,h3 with
 |[x],[v],_,h3=>simp_all[NT]
 |[],[],_,_=>exact .tup rfl fun i hi=>by simp at hi
 |x::y::l,u::v::vs,h2,h3=>
  simp only[Fh,M2,NT];rw[dif_neg (by omega)];refine .tup (by omega) fun i hi=>?_;have:=h3 i hi
  simp_all
theorem Ri {nt:Nat} {fn:Func} {a:Act} {R:Ending→World→Prop} {g:Gh} {fr:Fr} {l:List V}:∀(df:List Nat) (bs:List Nat) (H:A1) (w:World),Rl g H w→ER g w a fr→bs.length=df.length→
 (∀i,i<bs.length→g.mu (df.getD i 0)=some (bs.getD i 0))→An5 H df→BR P fr (clear H df) fn.results.toList=some l→
 (∀w' v,U1 g w g w'→Rl g (clear H df) w'→VR g w' v (NT l)→R (.returned v) w')→
 LeavesInM Fence.wide 0 P fn a.tmps R (bs.map fun b=>{target:=.collected b,args:= #[]}) .returning w
 |[],[],H,w,hR,hE,_,_,_,hl,hr=>by
  have hcl:clear H []=H:=by funext x;simp[clear]
  rw[hcl]at hl hr
  obtain⟨v,h1,h2⟩:=TJ (nt:=nt) hR hE hl;exact⟨v,h1,hr w v (U1.refl _ _) hR h2⟩
 | id::df,b::bs,H,w,hR,hE,hlen,hmu,hdf,hl,hr=>by
  have hb:g.mu id=some b:=hmu 0 (by simp);have hk:=hdf.2 id (by simp);have hnd:=List.nodup_cons.1 hdf.1;obtain⟨s,hR'⟩:=hR.putObj (o':=.deferred none) hk hb rfl;obtain⟨b',h1,h2,h3,h4⟩:=hR.blk id _ hk
  rw[hb]at h1;cases h1
  refine⟨by simp,.inl ⟨b,w.putObj b (.deferred none),rfl,run_takeDeferred h3,?_⟩⟩
  have hlt:∀id' b',(upd H id none) id'=some b'→(upd H id (some (.obj (.deferred none)))) id'=some b':=by
   simp_all[upd]
  have hcl:clear (upd H id none) df=clear H (id::df):=by
   funext x
   grind [clear,upd]
  refine Ri (nt:=nt) df bs (upd H id none) (w.putObj b (.deferred none)) (hR'.less hlt) (hE.mono s) (by simp_all) (fun i hi=>?_) ⟨hnd.2,fun id' hi'=>?_⟩ (by rw[hcl];exact hl) fun w' v s' hR2 hv=>?_
  ·have:=hmu (i+1) (by grind)
   simp_all
  ·have hne:id'≠id:=fun e=>by simp_all
   rw[C1 _ _ hne];exact hdf.2 id' (by simp[hi'])
  rw[hcl]at hR2
  exact hr w' v (s.trans s') hR2 hv
 |[],_::_,_,_,_,_,h,_,_,_,_=>by simp at h
 |_::_,[],_,_,_,_,h,_,_,_,_=>by simp at h
def Ret (P:Program)(fn:Func)(K:V→A1→Prop)(e:Exit)(fr:Fr)(H:A1):Prop:=
 (e= .normal∨e= .ret)∧An5 H fr.df∧∃l,BR P fr (clear H fr.df) fn.results.toList=some l∧K (NT l) (clear H fr.df)
def entry (args:List V):Fr:=⟨fun t=>args.getD t .bad,[]⟩
theorem QQ {f:FuncId} {fn:Func} {c:Code} {args:List V} {H:A1} {K:V→A1→Prop} (hf:P.funcs[f]? =some fn) (hb:fn.body=some c) (hcall:∀vals w,(callFunc f vals).run P w= .ok (.enter f vals) w)
 (hn:args.length≤fn.ntmps) (h:S0 P fn.ntmps none c (entry args) H (Ret P fn K)):J0 P f args H K:=by
 intro g w vals hR hA;rw[hcall]
 show CallsIn Fence.wide 0 P f vals w _
 refine callsIn_of_wp_marks hf hb trivial ?_
 have hF:FR fn.ntmps g w {tmps:=vals++Array.replicate (fn.ntmps - vals.size) undef,defers:=[]} (entry args):=by
  refine⟨by have:=hA.1;simp;omega,fun t=>?_,⟨[],rfl,fun i hi=>by simp at hi,rfl⟩⟩
  by_cases ht:t<args.length
  ·have e:(vals++Array.replicate (fn.ntmps - vals.size) undef).getD t undef=vals.getD t undef:=by
    simp only[L9,Gq,hA.1,A2 ht]
   grind [entry,Args]
  have:(entry args).s t= .bad:=by simp_all[entry]
  rw[this];exact .bad _
 refine wpIn_mono (h none g w _ rfl hR hF) fun e a' w' ⟨g',fr',H',s,hR',hF',he,hdf,l,hl,hK⟩=>?_;obtain⟨bs,k1,k2,k3⟩:=hF'.df;have key:=Ri (P:=P) (nt:=fn.ntmps) (fn:=fn) (a:=a') (R:=fun e w'=>∃v,e= .returned v∧K6 g w K v w') fr'.df bs H' w' hR' hF'.s k1 k2 hdf hl fun w2 v s2 hR2 hv=>⟨v,rfl,g',_,_,s.trans s2,hR2,hv,hK⟩
 rw[←k3]at key
 rcases he with rfl|rfl
 ·exact key
 exact key
end
end Go.Ab
namespace Go.Ab
open Go.RowKit
variable [K9]
def Am5 :Op→Bool
 | .alloc _=>true
 |_=>false
def Mr :Op→Bool
 | .store _ _ _=>true
 |_=>false
def CQ (o:Oper)(j:Nat):Bool:=o.after.any fun e=>e.on==j&&Region.binds .any e
def Bg (o:Oper)(i:Nat):Bool:=o.after.all fun e=> !Region.binds .any e||e.on<i
def Ki (ops:Array Oper)(x y:Oper):Bool:=x.apart ops y&& !(Mr x.op&&Mr y.op)
def IK (ops:Array Oper):Nat→Nat→Nat→Bool
 |0,i,j=>CQ (ops.getD i default) j
 |n+1,i,j=>CQ (ops.getD i default) j||(ops.getD i default).after.any fun e=>Region.binds .any e&&(Nat.blt j e.on&&IK ops n e.on j)
def MY :Nat:=20
def PY (ops:Array Oper) (k:Nat):Bool:=
 k ≤ops.size&&(List.range ops.size).all fun i=>
  Bg (ops.getD i default) i&&
   (List.range i).all fun j=>(i<k&&Ki ops (ops.getD j default) (ops.getD i default))||IK ops MY i j
section
variable {P:Program}{nt:Nat}{ops:Array Oper}{H0:A1}
theorem W6 {α β:Type}{f g:α→β}:∀{l:List α},(∀x∈l,f x=g x)→l.map f=l.map g
 |[],_=>rfl
 |x::l,h=>by rw[E9,E9,h x (by simp),W6 fun y hy=>h y (by simp[hy])]
theorem HA {α β:Type}{f g:α→β}:∀{l:Option α},(∀x∈l,f x=g x)→l.map f=l.map g
 |none,_=>rfl
 |some x,h=>by rw[H8,H8,h x rfl]
theorem Nf {o:Oper} {ρ ρ':Operand→V} {H:A1} {v:V} (hρ:∀x∈o.op.operands,ρ x=ρ' x) (h:LS P o ρ H v):LS P o ρ' H v:=by
 unfold LS at h ⊢
 cases ho:o.op<;>simp only[ho]at h ⊢ hρ<;>first
  |exact h.elim
  | (simp only[Op.operands,Ff,Dz,Jh,or_false,forall_eq_or_imp,forall_eq]at hρ
     first
      |(rw[←hρ];exact h)
      |(rw[←hρ.1,←hρ.2];exact h)
      |(rw[←hρ.1,←hρ.2.1,←hρ.2.2];exact h))
  |skip
 ·
  rename_i t ps;rw[←W6 (l:=ps.toList) (f:=fun p=>(p.1,ρ p.2)) (g:=fun p=>(p.1,ρ' p.2)) fun p hp=>by rw[hρ p.2 (by simp only[Op.operands,Ff,Dy];grind)]];exact h
 ·rename_i t n ps;rw[←W6 (l:=ps.toList) (f:=fun p=>(p.1,ρ p.2)) (g:=fun p=>(p.1,ρ' p.2)) fun p hp=>by rw[hρ p.2 (by simp only[Op.operands,Ff,Dy];grind)]];exact h
 ·rename_i fn fs cs
  rw[←W6 (l:=fs.toList) (f:=ρ) (g:=ρ') fun p hp=>hρ p (by simp only[Op.operands,DF];simp_all),
   ←W6 (l:=cs.toList) (f:=ρ) (g:=ρ') fun p hp=>hρ p (by simp only[Op.operands,DF];simp_all)]
  exact h
 ·rename_i t x lo hi mx
  rw[←hρ x (by simp[Op.operands]),←HA (l:=lo) (f:=ρ) (g:=ρ') fun p hp=>hρ p (by simp[Op.operands,Option.mem_def.1 hp]),
   ←HA (l:=hi) (f:=ρ) (g:=ρ') fun p hp=>hρ p (by simp[Op.operands,Option.mem_def.1 hp]),←HA (l:=mx) (f:=ρ) (g:=ρ') fun p hp=>hρ p (by simp[Op.operands,Option.mem_def.1 hp])]
  exact h
 rename_i c;have hargs:c.args.toList.map ρ=c.args.toList.map ρ':=W6 fun p hp=>hρ p (by simp only[Op.operands,Call.operands,DF];simp_all);rw[←hargs]
 cases hc:c.callee<;>simp only[hc]at h ⊢
 ·rename_i f;rw[←hρ f (by simp[Op.operands,Call.operands,hc])];exact h
 exact h
theorem We {fr:Fr} {d:Option Tmp} {v:V} {x:Operand} (h:∀t,d=some t→x≠ .tmp t):ev (fr.put d v) x=ev fr x:=by
 cases d with
 |none=>rfl
 | some d=>
  cases x with
  |tmp t=>
   have hne:t≠d:=fun e=>h d rfl (by rw[e])
   grind [ev,Fr.put]
  |_=>rfl
theorem Kb {fr:Fr}{d:Option Tmp}{v:V}{y:Oper}(h:∀t,d=some t→t∉y.looksAt ops):∀x∈y.op.operands,ev (fr.put d v) x=ev fr x:=by
 intro x hx;refine We fun t ht e=>h t ht ?_;subst e;exact P6 _ (List.mem_filterMap.2 ⟨.tmp t,by grind,rfl⟩)
theorem NW {fr:Fr} {d:Option Tmp} {v:V} {y:Oper} (h:∀t,d=some t→t∉y.looksAt ops):Be ops (fr.put d v) y=Be ops fr y:=by
 unfold Be
 cases hg:y.guard with
 |none=>rfl
 | some p=>
  obtain⟨j,want⟩:=p
  dsimp only
  cases hd:(ops[j]?).bind (·.dst)with
  |none=>rfl
  | some t=>
   have hne:∀d',d=some d'→t≠d':=by
    intro d' e1 e2;subst e2;refine h t e1 (Dl _ ?_)
    grind
   cases d with
   |none=>rfl
   |some d=>
    have:=hne d rfl
    grind [Fr.put]
theorem put_comm {fr:Fr} {d e:Option Tmp} {v u:V} (h:∀t,d=some t→e≠some t):(fr.put d v).put e u=(fr.put e u).put d v:=by
 cases d with
 |none=>rfl
 | some d=>
  cases e with
  |none=>rfl
  |some e=>
   have hne:d≠e:=fun x=>h d rfl (by rw[x]);simp only[Fr.put,Fr.mk.injEq,I9]
   funext t
   grind
theorem OQ (H:A1){a b:Nat}(x y:Option CT)(h:a≠b):upd (upd H a x) b y=upd (upd H b y) a x:=by
 funext t
 grind [upd]
end
end Go.Ab
