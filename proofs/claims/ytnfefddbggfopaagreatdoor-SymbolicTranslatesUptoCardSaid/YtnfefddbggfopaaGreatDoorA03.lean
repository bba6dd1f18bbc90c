/- . -/
import Derived.Test.YtnfefddbggfopaaGreatDoorA01
import Derived.MapKept
import Derived.RangeFuncRecord
import Derived.Laws.BytesString
import Derived.Maps.RangeRun
import Derived.OrdersIn
import Derived.RangeFuncNested
set_option linter.all false
namespace Go.Ab
open Go.RowKit Go.MapKept
variable [N9]
def Ni:V→Option Value
 | .bool b=>some (.bool b)
 | .int k n=>some (.int k n)
 | .str s=>some (.string s)
 |_=>none
def Mj:List V→Option (List Value)
 |[]=>some []
 |x::l=>match Ni x,Mj l with|some v,some r=>some (v::r)|_,_=>none
def Ch:V→Option Value
 | .agg cs=>(Mj cs).map fun l=>.agg l.toArray
 |v=>Ni v
theorem XB {g:Gh}{w:World}{x:V}{u v:Value}(h:Ni x=some u)(hv:VR g w v x):v=u:=by
 cases x<;>simp only[Ni,E6,reduceCtorEq]at h<;>subst h<;>cases hv<;>rfl
theorem XA {g:Gh}{w:World}{x:V}{u:Value}(h:Ni x=some u):VR g w u x:=by
 cases x<;>simp only[Ni,E6,reduceCtorEq]at h<;>subst h<;>constructor
def Az7 {x:V}{u:Value}(h:Ni x=some u):u.oneCell'=true:=by
 cases x<;>simp only[Ni,E6,reduceCtorEq]at h<;>subst h<;>rfl
theorem XC {x y:V}{u:Value}(h:Ni x=some u)(h':Ni y=some u):x=y:=by
 cases x<;>simp only[Ni,E6,reduceCtorEq]at h<;>subst h<;>cases y<;>simp_all[Ni]
def Sv:∀{l:List V} {r:List Value},Mj l=some r→r.length=l.length
 |[],r,h=>by simp_all[Mj]
 |x::l,r,h=>by
  unfold Mj at h
  split at h
  ·rename_i v r' h1 h2;cases h;simp[Sv h2]
  cases h
def Rt:∀{l:List V} {r:List Value},Mj l=some r→∀i,i<l.length→Ni (l.getD i .bad)=some (r.getD i undef)
 |[],r,h,i,hi=>by simp at hi
 | x::l,r,h,i,hi=>by
  unfold Mj at h
  split at h
  ·rename_i v r' h1 h2;cases h
   cases i with
   |zero=>grind
   |succ i=>simpa using Rt h2 i (by grind)
  cases h
def Su {g:Gh} {w:World} {x:V} {u:Value} (h:Ch x=some u):VR g w u x:=by
 unfold Ch at h
 split at h
 ·rename_i cs
  cases hr:Mj cs with
  |none=>rw[hr]at h;cases h
  |some r=>
   rw[hr]at h
   simp only[K4,E6]at h
   subst h;have e:=Sv hr;refine .agg (by simp[e]) (fun i hi=>?_) fun i hi=>?_
   ·have:=Az7 (Rt hr i hi);simp_all
   have:=XA (g:=g) (w:=w) (Rt hr i hi);simp_all
 grind[XA]
def Mi {g:Gh} {w:World} {x:V} {u v:Value} (h:Ch x=some u) (hv:VR g w v x):v=u:=by
 unfold Ch at h
 split at h
 ·rename_i cs
  cases hr:Mj cs with
  |none=>rw[hr]at h;cases h
  | some r=>
   rw[hr]at h
   simp only[K4,E6]at h
   subst h;have e:=Sv hr
   cases hv with
   |agg hl h1 hv=>
    rename_i vs
    congr 1
    apply Gc
    ·simp[hl,e]
    intro i hi hi'
    have hi2:i<cs.length:=by omega
    have:=XB (Rt hr i hi2) (hv i hi2)
    simp_all
 grind[XB]
def Li (es:Array MapEntry)(clock:Nat):Prop:=(∀x∈es.toList,x.born<clock)∧(es.toList.map (·.born)).Nodup
def Li.empty:Li #[] 0:=⟨fun x h=>by simp at h,by simp⟩
def Li.push {es:Array MapEntry}{clock:Nat}(h:Li es clock)(k v:Value):Li (es.push {key:=k,val:=v,born:=clock}) (clock+1):=by
 grind[Li]
def Li.modify {es:Array MapEntry} {clock:Nat} (h:Li es clock) (i:Nat) (k v:Value):Li (es.modify i fun e=>{e with key:=k,val:=v}) clock:=by
 have hb:(es.modify i fun e=>{e with key:=k,val:=v}).toList.map (·.born)=es.toList.map (·.born):=by
  apply DP
  grind
 refine⟨fun x hx=>?_,by rw[hb];exact h.2⟩
 have:x.born∈es.toList.map (·.born):=by rw[←hb];grind
 grind[Li]
def Li.sub {es es':Array MapEntry}{clock:Nat}(h:Li es clock)(hs:es'.toList.Sublist es.toList):Li es' clock:=⟨fun x hx=>h.1 x (hs.subset hx),(hs.map _).nodup h.2⟩
theorem XE:∀{l l':List V} {r:List Value},Mj l=some r→Mj l'=some r→l=l'
 |[],l',r,h,h'=>by
  simp only[Mj,E6]at h;subst h
  cases l' with
  |nil=>rfl
  |cons x l=>grind[Mj]
 | x::l,l',r,h,h'=>by
  unfold Mj at h
  split at h
  ·rename_i v r' h1 h2;cases h
   cases l' with
   |nil=>cases h'
   |cons y l'=>
    unfold Mj at h'
    split at h'
    ·rename_i v2 r2 h3 h4;cases h';rw[XC h1 h3,XE h2 h4]
    cases h'
  cases h
theorem XD {x:V}{u:Value}(h:Ni x=some u)(c:Array Value):u≠ .agg c:=by
 cases x<;>simp only[Ni,E6,reduceCtorEq]at h<;>subst h<;>simp
def NL {x:V} {u:Value} (h:Ch x=some u):(∃cs r,x= .agg cs∧Mj cs=some r∧u= .agg r.toArray)∨Ni x=some u:=by
 unfold Ch at h
 split at h
 ·rename_i cs
  cases hr:Mj cs with
  |none=>rw[hr]at h;cases h
  |some r=>rw[hr]at h;simp_all
 grind
def Xz {x y:V} {u:Value} (h:Ch x=some u) (h':Ch y=some u):x=y:=by
 rcases NL h with⟨a,r,rfl,h1,rfl⟩|h1
 ·rcases NL h' with⟨b,r2,rfl,h2,e⟩|h2
  ·have:r=r2:=by grind
   grind[XE]
  grind[XD]
 rcases NL h' with⟨b,r2,rfl,h2,rfl⟩|h2
 ·grind[XD]
 grind[XC]
def FJ:TypeDesc→Value→Prop
 | .array n _,v=>AH8 .i64 n v
 | .struct fs,v=>AH8 .i64 fs.size v
 |d,v=>IsKey d v
structure BP (d:TypeDesc) (o:Obj) (m:List (V×V)):Prop where
 ex:∃es clock,o= .map es clock∧es.toList.map (fun e=>(some e.key,some e.val))=m.map fun p=>(Ch p.1,Ch p.2)
 keys:∀p∈m,∃k,Ch p.1=some k∧FJ d k
 nodup:(m.map (·.1)).Nodup
 st:∀es clock,o= .map es clock→Li es clock
def BP.empty (d:TypeDesc):BP d (.map #[] 0) []:=⟨⟨_,_,rfl,rfl⟩,fun p h=>(by cases h),List.nodup_nil,fun es clock h=>by simp_all[Li]⟩
theorem MV {α:Type}{l:List α}(h:l.Nodup){i j:Nat}(hi:i<l.length)(hj:j<l.length)(e:l[i]=l[j]):i=j:=by
 have h:=List.pairwise_iff_getElem.1 h
 grind
def AU6 (P:Program)(et:TypeId)(m:List (V×V))(key:V)(ok:Bool)(v:V):Prop:=
 ((∀p∈m,p.1≠key)∧∃z,ID P et=some z∧v=if ok=true then .tup [z,.bool false]else z)∨∃y,(key,y)∈m∧v=if ok=true then .tup [y,.bool true]else y
def AN2 (P:Program)(H:A5)(t:TypeId)(x key:V)(ok:Bool)(v:V):Prop:=
 ∃kt et d kv id o m,P.underlying t=some (.map kt et)∧KG P kt (FJ d)∧Ch key=some kv∧FJ d kv∧x= .map id∧H id=some (.obj o)∧BP d o m∧AU6 P et m key ok v
def Ai9 (P:Program)(t:TypeId)(x key:V)(ok:Bool)(v:V):Prop:=
 ∃kt et ks xs n,P.underlying t=some (.map kt et)∧P.underlying kt=some (.int .i64)∧x= .fmap ks xs∧key= .int .i64 n∧ok=false∧((∃i:Nat,ks[i]? =some n∧v=xs.getD i .bad)∨((∀k∈ks,k≠n)∧ID P et=some v))
def Ai8 (P:Program) (H:A5) (t:TypeId) (x key:V) (ok:Bool) (v:V):Prop:=
 ∃kt et G kv id ks xs,P.underlying t=some (.map kt et)∧KG P kt G∧Ch key=some kv∧G kv∧x= .map id∧H id=some (.vm ks xs)∧(∀k∈ks,G k)∧
  (((∀k∈ks,k≠kv)∧∃z z',ID P et=some z∧Cp z z'∧v=if ok=true then .tup [z',.bool false]else z')∨∃i:Nat,ks[i]? =some kv∧v=if ok=true then .tup [xs.getD i .bad,.bool true]else xs.getD i .bad)
def Na (P:Program)(H:A5)(t:TypeId)(x key:V)(ok:Bool)(v:V):Prop:=AN2 P H t x key ok v∨Ai9 P t x key ok v∨Ai8 P H t x key ok v
def AC3 (H:A5)(K:V→A5→Prop):Prop:=(∀id,H id=none→K (.map id) (upd H id (some (.obj (.map #[] 0)))))∨(∀id,H id=none→K (.map id) (upd H id (some (.fm [] []))))∨∀id,H id=none→K (.map id) (upd H id (some (.vm [] [])))
def Ag6 (P:Program)(H:A5)(K:V→A5→Prop)(t:TypeId)(x key val:V):Prop:=
 ∃kt et ks xs n id,P.underlying t=some (.map kt et)∧P.underlying kt=some (.int .i64)∧x= .map id∧H id=some (.fm ks xs)∧key= .int .i64 n∧(∀k∈ks,k≠n)∧K .bad (upd H id (some (.fm (ks++[n]) (xs++[val]))))
def Ba0 (m:List (V×V))(k v:V)(m':List (V×V)):Prop:=
 ((∀p∈m,p.1≠k)∧m'=m++[(k,v)])∨∃a y b,m=a++(k,y)::b∧m'=a++(k,v)::b
def AJ3 (P:Program) (H:A5) (K:V→A5→Prop) (t:TypeId) (x key val:V):Prop:=
 ∃kt et d kv vv id o m m',P.underlying t=some (.map kt et)∧KG P kt (FJ d)∧Ch key=some kv∧FJ d kv∧Ch val=some vv∧x= .map id∧H id=some (.obj o)∧BP d o m∧Ba0 m key val m'∧
  ∀o',BP d o' m'→K .bad (upd H id (some (.obj o')))
def Ag5 (P:Program) (H:A5) (K:V→A5→Prop) (t:TypeId) (x key val:V):Prop:=
 ∃kt et G kv id ks xs,P.underlying t=some (.map kt et)∧KG P kt G∧Ch key=some kv∧G kv∧x= .map id∧H id=some (.vm ks xs)∧(∀k∈ks,G k)∧
  (((∀k∈ks,k≠kv)∧K .bad (upd H id (some (.vm (ks++[kv]) (xs++[val])))))∨∃i:Nat,ks[i]? =some kv∧K .bad (upd H id (some (.vm ks (xs.set i val)))))
def MO (P:Program)(H:A5)(K:V→A5→Prop)(t:TypeId)(x key val:V):Prop:=AJ3 P H K t x key val∨Ag6 P H K t x key val∨Ag5 P H K t x key val
def Aq6 {H:A5}{K K':V→A5→Prop}(h:AC3 H K)(hk:∀v H',K v H'→K' v H'):AC3 H K':=h.imp (fun h id hid=>hk _ _ (h id hid)) fun h=>h.imp (fun h id hid=>hk _ _ (h id hid)) fun h id hid=>hk _ _ (h id hid)
theorem Ha {P:Program}{H:A5}{K K':V→A5→Prop}{t:TypeId}{x key val:V}(h:MO P H K t x key val)(hk:∀H',K .bad H'→K' .bad H'):MO P H K' t x key val:=by
 rcases h with⟨kt,et,d,kv,vv,id,o,m,m',h1,h2,h3,h4,h5,h6,h7,h8,h9,h⟩|⟨kt,et,ks,xs,n,id,h1,h2,h3,h4,h5,h6,h⟩|⟨kt,et,G,kv,id,ks,xs,h1,h2,h3,h4,h5,h6,h7,h⟩
 ·exact .inl ⟨kt,et,d,kv,vv,id,o,m,m',h1,h2,h3,h4,h5,h6,h7,h8,h9,fun o' ho=>hk _ (h o' ho)⟩
 ·exact .inr (.inl ⟨kt,et,ks,xs,n,id,h1,h2,h3,h4,h5,h6,hk _ h⟩)
 exact .inr (.inr ⟨kt,et,G,kv,id,ks,xs,h1,h2,h3,h4,h5,h6,h7,h.imp (fun h=>⟨h.1,hk _ h.2⟩) fun⟨i,a,b⟩=>⟨i,a,hk _ b⟩⟩)
def Wf {P:Program}{H H':A5}{t:TypeId}{x key v:V}{ok:Bool}(hl:∀id b,H id=some b→H' id=some b)(h:Na P H t x key ok v):Na P H' t x key ok v:=by
 rcases h with⟨kt,et,d,kv,id,o,m,h1,h2,h3,h4,h5,h6,h7⟩|h|⟨kt,et,G,kv,id,ks,xs,h1,h2,h3,h4,h5,h6,h7⟩
 ·exact .inl ⟨kt,et,d,kv,id,o,m,h1,h2,h3,h4,h5,hl _ _ h6,h7⟩
 ·simp_all[Na]
 exact .inr (.inr ⟨kt,et,G,kv,id,ks,xs,h1,h2,h3,h4,h5,hl _ _ h6,h7⟩)
theorem BP.entry {d:TypeDesc}{m:List (V×V)}{es:Array MapEntry}(he:es.toList.map (fun e=>(some e.key,some e.val))=m.map fun p=>(Ch p.1,Ch p.2))(j:Nat):
 (∀e,es[j]? =some e→∃p,m[j]? =some p∧Ch p.1=some e.key∧Ch p.2=some e.val)∧∀p,m[j]? =some p→∃e,es[j]? =some e∧Ch p.1=some e.key∧Ch p.2=some e.val:=by
 have:=P9 (fun l=>l[j]?) he
 grind
def BP.isKeys {d:TypeDesc}{m:List (V×V)}{es:Array MapEntry}(he:es.toList.map (fun e=>(some e.key,some e.val))=m.map fun p=>(Ch p.1,Ch p.2))(hk:∀p∈m,∃k,Ch p.1=some k∧FJ d k):∀e∈es.toList,FJ d e.key:=by
 intro e h;obtain⟨j,hj,e1⟩:=AC h;obtain⟨p,h1,h2,_⟩:=(BP.entry (d:=d) he j).1 e (by rw[←DQ,E3 hj,e1]);obtain⟨k,h3,h4⟩:=hk p (M7 h1)
 rw[h2]at h3;simp_all
def MH {w:World}{b:Nat}{o o':Obj}(hw:w.heap[b]? =some o)(hc:Obj.isCells o=false)(hc':Obj.isCells o'=false)(x i:Nat):(w.putObj b o').cell? ⟨x,i,none⟩=w.cell? ⟨x,i,none⟩:=by
 by_cases h:x=b
 ·subst h;have h1:=World.putObj_heap_same (w:=w) (o:=o') (Wd hw);simp only[World.cell?,h1,hw];cases o<;>cases o'<;>simp_all[Obj.isCells]
 grind[World.cell?_of_block,World.putObj_heap_other]
def Rl.putObj {g:Gh} {H:A5} {w:World} (h:Rl g H w) {id b:Nat} {o o':Obj} (hk:H id=some (.obj o)) (hb:g.mu id=some b) (hc':Obj.isCells o'=false):
 W1 g w g (w.putObj b o')∧Rl g (upd H id (some (.obj o'))) (w.putObj b o'):=by
 obtain⟨b',h1,h2,h3,h4⟩:=h.blk id _ hk
 have e:b'=b:=by rw[hb]at h1;simp_all
 subst e;have hcell:=MH (o':=o') h3 h4 hc'
 have s:W1 g w g (w.putObj b' o'):=by
  refine⟨fun _ _ e=>e,fun _ _ e=>e,fun _ _ e=>e,rfl,fun b o _=>hcell b o,⟨rfl,rfl,rfl,by simp,fun k hk=>World.putObj_heap_other (by omega)⟩,fun _ _ _=>rfl,D5 _⟩
 have hat:∀x,g.at (upd H id (some (.obj o'))) x=g.at H x:=by
  grind[Gh.at,upd]
 have hid:g.at H id=some b':=by simp_all[Gh.at]
 refine⟨s,fun x k hx=>?_,fun x x' y h1 h2=>h.inj x x' y (hat x▸h1) (hat x'▸h2),fun y o hf=>?_,fun x hx=>?_,?_,fun n=>(h.glb n).mono s⟩
 ·by_cases hxe:x=id
  ·subst hxe;rw[E4]at hx;cases hx
   exact⟨b',hb,h2,World.putObj_heap_same (Wd h3),hc'⟩
  rw[D2 _ _ hxe]at hx
  refine(h.blk x k hx).mono hx s fun y hy=>⟨World.putObj_heap_other fun e=>?_,fun _ ho=>ho⟩;subst e;exact hxe (h.inj _ _ _ hy hid)
 ·obtain⟨v,hv'⟩:=h.frz y o hf
  simp_all
 ·obtain⟨a1,a2,a3⟩:=h.nxt x hx
  have hne:x≠id:=fun e=>by simp_all
  simp_all[upd]
 have:=h.bnd;simp;omega
def Ds.fixed:Ds→Bool
 | .obj _=>true
 | .loop _=>true
 | .iter _ _ _ _=>true
 | .fm _ _=>true
 | .vm _ _=>true
 |_=>false
def CC.fixed {g:Gh}{w:World}{id:Nat}{k:Ds}(hk:k.fixed=true)(h:CC g w id k):∃b o,g.mu id=some b∧g.base≤b∧w.heap[b]? =some o∧Obj.isCells o=false:=by
 cases k with
 |cells _=>cases hk
 |spare=>cases hk
 |obj o=>grind[CC]
 |loop L=>grind[Obj.isCells,CC]
 |arr _ _=>cases hk
 |fm ks xs=>grind[Obj.isCells,CC]
 |vm ks xs=>grind[Obj.isCells,CC]
 |iter mid since seen c0=>grind[Obj.isCells,CC]
theorem Gh.at_fixed {g:Gh}{H:A5}{id:Nat}{k:Ds}(hk:k.fixed=true)(h:H id=some k):g.at H id=g.mu id:=by
 cases k<;>simp_all[Gh.at,Ds.fixed]
def Rl.putGen {g:Gh} {H:A5} {w:World} (h:Rl g H w) {id b:Nat} {k k':Ds} {o':Obj} (hf:k.fixed=true) (hf':k'.fixed=true) (hk:H id=some k) (hb:g.mu id=some b) (hc':Obj.isCells o'=false)
 (hok:W1 g w g (w.putObj b o')→(w.putObj b o').heap[b]? =some o'→g.base≤b→CC g (w.putObj b o') id k'):
 W1 g w g (w.putObj b o')∧Rl g (upd H id (some k')) (w.putObj b o'):=by
 obtain⟨b',o,h1,h2,h3,h4⟩:=(h.blk id _ hk).fixed hf
 have e:b'=b:=by rw[hb]at h1;simp_all
 subst e;have hcell:=MH (o':=o') h3 h4 hc'
 have s:W1 g w g (w.putObj b' o'):=by
  refine⟨fun _ _ e=>e,fun _ _ e=>e,fun _ _ e=>e,rfl,fun b o _=>hcell b o,⟨rfl,rfl,rfl,by simp,fun k hk=>World.putObj_heap_other (by omega)⟩,fun _ _ _=>rfl,D5 _⟩
 have hat:∀x,g.at (upd H id (some k')) x=g.at H x:=by
  grind[Gh.at_fixed,Gh.at,upd]
 have hid:g.at H id=some b':=by rw[Gh.at_fixed hf hk,hb]
 refine⟨s,fun x k hx=>?_,fun x x' y h1 h2=>h.inj x x' y (hat x▸h1) (hat x'▸h2),fun y o hf=>?_,fun x hx=>?_,?_,fun n=>(h.glb n).mono s⟩
 ·by_cases hxe:x=id
  ·grind[E4,World.putObj_heap_same]
  rw[D2 _ _ hxe]at hx
  refine(h.blk x k hx).mono hx s fun y hy=>⟨World.putObj_heap_other fun e=>?_,fun _ ho=>ho⟩;subst e;exact hxe (h.inj _ _ _ hy hid)
 ·obtain⟨v,hv'⟩:=h.frz y o hf
  simp_all
 ·obtain⟨a1,a2,a3⟩:=h.nxt x hx
  have hne:x≠id:=fun e=>by simp_all
  simp_all[upd]
 have:=h.bnd;simp;omega
section
variable {P:Program}{o:Oper}{fr:Fr}{H:A5}{K:V→A5→Prop}
def Xg {t:TypeId}(ho:o.op= .makeMap t none)(h:∀id,H id=none→K (.map id) (upd H id (some (.obj (.map #[] 0))))):J2 P o fr H K:=by
 intro g w a hR hE;have s:=W1.new hR (.map #[] 0) False 0;have r:=hR.newNamed (.map #[] 0) (.obj (.map #[] 0)) (by simp) ⟨w.heap.size,by simp[Gh.new],hR.bnd,BK,rfl⟩;unfold execOp;rw[ho];simp only[Lt,Instr.makeMap,C6,D1,run_newObj,C1,H9];exact⟨_,_,_,s,r,.map (by simp[Gh.new]),h g.nx (hR.nxt _ (D5 _)).2.2⟩
def QU {g:Gh}{w:World}{v:Value}{n:Int}(h:VR g w v (.int .i64 n)):v= .int .i64 n:=by cases h;rfl
def AF0 {es:Array MapEntry}{ks:List Int}(hk:es.toList.map (·.key)=ks.map (Value.int .i64)){j:Nat}{e:MapEntry}(he:es[j]? =some e):∃k,ks[j]? =some k∧e.key= .int .i64 k:=by
 have:=P9 (fun l=>l[j]?) hk
 grind
def Ak3 {es:Array MapEntry}{ks:List Int}(hk:es.toList.map (·.key)=ks.map (Value.int .i64)):∀e∈es.toList,IsKey (.int .i64) e.key:=by
 intro e he;obtain⟨j,hj,e1⟩:=AC he;obtain⟨k,_,h2⟩:=AF0 hk (j:=j) (e:=e) (by rw[←DQ,E3 hj,e1]);rw[h2];rfl
def Xj {t:TypeId} {x y:Operand} {ok:Bool} {v:V} (ho:o.op= .lookup t x y ok) (hl:Ai9 P t (ev fr x) (ev fr y) ok v) (h:K v H):J2 P o fr H K:=by
 intro g w a hR hE;obtain⟨kt,et,ks,xs,n,h1,h2,h3,h4,rfl,h5⟩:=hl;have hx:=E8 hR hE x;have hy:=E8 hR hE y
 rw[h4]at hy
 have hy:=QU hy
 rw[h3]at hx
 generalize hav:a.eval x=xv at hx
 cases hx with
 | fmap hb hw hk hn hlen hv=>
  rename_i b es clock;have hks:=Ak3 hk;have hIs:IsKey (.int .i64) (Value.int .i64 n):=rfl;unfold execOp;rw[ho];simp only[hav,hy,Instr.lookup,C6,run_underlying h1,C1,CJ hw,D1,run_checkKey h2 hIs]
  rcases findNow_spec hIs es.toList 0 hks with⟨f1,f2⟩|⟨j,e,f1,f2,f3⟩
  ·simp only[run_findKey h2 f1,C1]
   rcases h5 with⟨i,q1,q2⟩|⟨q1,q2⟩
   ·exfalso;have:=P9 (fun l=>l[i]?) hk
    grind
   obtain⟨zv,ez,hz⟩:=Dg q2
   have hzr:VR g w zv v:=by rw[ez];grind[Ec]
   simp only[C6,hz,C1,D1,H9]
   grind[N5.here]
  simp only[run_findKey h2 f1,C1,H9]
  have f2':es[j]? =some e:=by grind
  obtain⟨k,g1,g2⟩:=AF0 hk f2'
  have hkn:k=n:=by rw[f3]at g2;simp_all
  subst hkn;have hvr:=hv j e f2'
  rcases h5 with⟨i,q1,q2⟩|⟨q1,q2⟩
  ·have hj:j<ks.length:=by
    grind
   have hi:i<ks.length:=by
    grind
   have:i=j:=MV hn hi hj (by rw[E3 hi]at q1;rw[E3 hj]at g1;rw[Bl q1,Bl g1]);subst this
   rw[←q2]at hvr
   exact N5.here hR hvr h
  grind
def VI {t:TypeId}(ho:o.op= .makeMap t none)(h:∀id,H id=none→K (.map id) (upd H id (some (.fm [] [])))):J2 P o fr H K:=by
 intro g w a hR hE;have s:=W1.new hR (.map #[] 0) False 0;have r:=hR.newNamed (.map #[] 0) (.fm [] []) (by simp) ⟨w.heap.size, #[],0,by simp[Gh.new],hR.bnd,BK,rfl,List.nodup_nil,rfl,fun i e hi=>by simp at hi⟩;unfold execOp;rw[ho];simp only[Lt,Instr.makeMap,C6,D1,run_newObj,C1,H9];exact⟨_,_,_,s,r,.map (by simp[Gh.new]),h g.nx (hR.nxt _ (D5 _)).2.2⟩
def Sc {t:TypeId} {x y z:Operand} (ho:o.op= .mapUpdate t x y z∨o.op= .insert t x y z) (hl:Ag6 P H K t (ev fr x) (ev fr y) (ev fr z)):J2 P o fr H K:=by
 intro g w a hR hE;obtain⟨kt,et,ks,xs,n,id,h1,h2,h3,h4,h5,h6,h⟩:=hl;have hx:=E8 hR hE x;have hy:=E8 hR hE y;have hz:=E8 hR hE z
 rw[h5]at hy
 have hy:=QU hy
 rw[h3]at hx
 generalize hav:a.eval x=xv at hx
 cases hx with
 | map hm=>
  rename_i b;obtain⟨b',es,clock,k1,k2,k3,k4,k5,k6,k7⟩:=hR.blk id _ h4
  rw[hm]at k1;cases k1
  have hks:=Ak3 k4;have hIs:IsKey (.int .i64) (Value.int .i64 n):=rfl
  have hne:∀e∈es.toList,e.key≠ .int .i64 n:=by
   intro e he hc;obtain⟨j,hj,e1⟩:=AC he;obtain⟨k,q1,q2⟩:=AF0 k4 (j:=j) (e:=e) (by rw[←DQ,E3 hj,e1])
   rw[hc]at q2
   grind
  rcases findNow_spec hIs es.toList 0 hks with⟨f1,f2⟩|⟨j,e,f1,f2,f3⟩
  ·have hes:es.size=ks.length:=by have:=P9 List.length k4;grind
   obtain⟨q1,q2⟩:=hR.putGen (k':=.fm (ks++[n]) (xs++[ev fr z])) (o':=.map (es.push {key:=.int .i64 n,val:=a.eval z,born:=clock}) (clock+1)) rfl rfl h4 hm rfl fun s hh hb=>
    ⟨b,_,_,hm,hb,hh,by simp[k4],by
     rw[LG];simp_all,by simp[k6],fun i e hi=>by
     rw[Array.getElem?_push]at hi
     split at hi
     ·rename_i hie;cases hi
      have:i=xs.length:=by omega
      subst this
      simpa using hz.mono s
     rename_i hie
     have hlt:i<xs.length:=by
      have:=(Array.getElem?_eq_some_iff.1 hi).1;omega
     have:=(k7 i e hi).mono s
     grind⟩
   have hr:(Instr.mapUpdate t (.map (some b)) (.int .i64 n) (a.eval z)).run P w= .ok () (w.putObj b (.map (es.push {key:=.int .i64 n,val:=a.eval z,born:=clock}) (clock+1))):=by
    simp only[Instr.mapUpdate,C6,run_underlying h1,C1,CJ k3,run_checkKey h2 hIs,run_findKey h2 f1,run_setObj_map _ k3];rfl
   have hex:(execOp a.eval o).run P w= .ok .skip (w.putObj b (.map (es.push {key:=.int .i64 n,val:=a.eval z,born:=clock}) (clock+1))):=by
    unfold execOp
    rcases ho with ho|ho<;>rw[ho]<;>simp only[hav,hy,C6,hr,C1,D1]
   rw[hex];exact⟨_,_,_,q1,q2,.bad _,h⟩
  grind
def AS8 {es:Array MapEntry}{ks:List Value}(hk:es.toList.map (·.key)=ks){j:Nat}{e:MapEntry}(he:es[j]? =some e):ks[j]? =some e.key:=by
 rw[←hk];simp[he]
def Ag3 {G:Value→Prop}{es:Array MapEntry}{ks:List Value}(hk:es.toList.map (·.key)=ks)(hG:∀k∈ks,G k):∀e∈es.toList,G e.key:=fun e he=>
 hG _ (by rw[←hk];grind)
def Aw2 {ks:List Value}(hn:ks.Nodup){i j:Nat}{k:Value}(hi:ks[i]? =some k)(hj:ks[j]? =some k):i=j:=by
 grind[MV]
def Xi {t:TypeId} {x y:Operand} {ok:Bool} {v:V} (ho:o.op= .lookup t x y ok) (hl:Ai8 P H t (ev fr x) (ev fr y) ok v) (h:K v H):J2 P o fr H K:=by
 intro g w a hR hE;obtain⟨kt,et,G,kv,id,ks,xs,h1,h2,h3,h4,h5,h6,h7,h8⟩:=hl;have hx:=E8 hR hE x;have hy:=Mi h3 (E8 hR hE y)
 rw[h5]at hx
 generalize hav:a.eval x=xv at hx
 cases hx with
 | map hm=>
  rename_i b;obtain⟨b',es,clock,k1,k2,k3,k4,k5,k6,k7⟩:=hR.blk id _ h6
  rw[hm]at k1;cases k1
  have hks:=Ag3 k4 h7;unfold execOp;rw[ho];simp only[hav,hy,Instr.lookup,C6,run_underlying h1,C1,CJ k3,D1,(fun em=>h2.check w em h4)]
  rcases h2.find w h4 es.toList hks with⟨f1,f2⟩|⟨j,e,f1,f2,f3⟩
  ·simp only[f1,C1]
   rcases h8 with⟨q1,z,z',q2,q4,q3⟩|⟨i,q1,q2⟩
   ·obtain⟨zv,ez,hz⟩:=Dg q2;have hzr:VR g w zv z':=VR.le (by rw[ez];grind[Ec]) q4;simp only[C6,hz,C1,D1,H9];subst q3;cases ok
    ·grind[N5.here]
    refine N5.here hR (.tup rfl fun i hi=>?_) h
    match i with
    |0=>exact hzr
    |1=>exact .bool _
    |i+2=>grind
   grind
  simp only[f1,C1,H9]
  have f2':es[j]? =some e:=by grind
  have g1:=AS8 k4 f2'
  rw[f3]at g1
  rcases h8 with⟨q1,_⟩|⟨i,q1,q2⟩
  ·grind
  have hij:=Aw2 k5 q1 g1;subst hij;have hvr:=k7 i e f2';subst q2;cases ok
  ·exact N5.here hR hvr h
  refine N5.here hR (.tup rfl fun i hi=>?_) h
  match i with
  |0=>exact hvr
  |1=>exact .bool _
  |i+2=>grind
def VH {t:TypeId}(ho:o.op= .makeMap t none)(h:∀id,H id=none→K (.map id) (upd H id (some (.vm [] [])))):J2 P o fr H K:=by
 intro g w a hR hE;have s:=W1.new hR (.map #[] 0) False 0;have r:=hR.newNamed (.map #[] 0) (.vm [] []) (by simp) ⟨w.heap.size, #[],0,by simp[Gh.new],hR.bnd,BK,rfl,List.nodup_nil,rfl,fun i e hi=>by simp at hi⟩;unfold execOp;rw[ho];simp only[Lt,Instr.makeMap,C6,D1,run_newObj,C1,H9];exact⟨_,_,_,s,r,.map (by simp[Gh.new]),h g.nx (hR.nxt _ (D5 _)).2.2⟩
def Sb {t:TypeId} {x y z:Operand} (ho:o.op= .mapUpdate t x y z∨o.op= .insert t x y z) (hl:Ag5 P H K t (ev fr x) (ev fr y) (ev fr z)):J2 P o fr H K:=by
 intro g w a hR hE;obtain⟨kt,et,G,kv,id,ks,xs,h1,h2,h3,h4,h5,h6,h7,h8⟩:=hl;have hx:=E8 hR hE x;have hy:=Mi h3 (E8 hR hE y);have hz:=E8 hR hE z
 rw[h5]at hx
 generalize hav:a.eval x=xv at hx
 cases hx with
 | map hm=>
  rename_i b;obtain⟨b',es,clock,k1,k2,k3,k4,k5,k6,k7⟩:=hR.blk id _ h6
  rw[hm]at k1;cases k1
  have hks:=Ag3 k4 h7
  have hes:es.size=ks.length:=by have:=P9 List.length k4;grind
  have run:∀es' clock' k',(Instr.mapUpdate t (.map (some b)) kv (a.eval z)).run P w= .ok () (w.putObj b (.map es' clock'))→
   (W1 g w g (w.putObj b (.map es' clock'))∧Rl g (upd H id (some k')) (w.putObj b (.map es' clock')))→K .bad (upd H id (some k'))→H9 P (N5 g w K) ((execOp a.eval o).run P w):=by
   intro es' clock' k' hr q h
   have hex:(execOp a.eval o).run P w= .ok .skip (w.putObj b (.map es' clock')):=by
    unfold execOp
    rcases ho with ho|ho<;>rw[ho]<;>simp only[hav,hy,C6,hr,C1,D1]
   rw[hex];exact⟨_,_,_,q.1,q.2,.bad _,h⟩
  rcases h2.find w h4 es.toList hks with⟨f1,f2⟩|⟨j,e,f1,f2,f3⟩
  ·have hne:∀k∈ks,k≠kv:=fun k hk he=>by
    rw[←k4]at hk
    grind
   rcases h8 with⟨_,h⟩|⟨i,q1,_⟩
   ·refine run (es.push {key:=kv,val:=a.eval z,born:=clock}) (clock+1) (.vm (ks++[kv]) (xs++[ev fr z])) ?_ ?_ h
    ·simp only[Instr.mapUpdate,C6,run_underlying h1,C1,CJ k3,(fun em=>h2.check w em h4),f1,run_setObj_map _ k3];rfl
    exact hR.putGen rfl rfl h6 hm rfl fun s hh hb=>
     ⟨b,_,_,hm,hb,hh,by simp[k4],by
      rw[LG];simp_all,by simp[k6],fun i e hi=>by
      rw[Array.getElem?_push]at hi
      split at hi
      ·rename_i hie;cases hi
       have:i=xs.length:=by omega
       subst this
       simpa using hz.mono s
      rename_i hie
      have hlt:i<xs.length:=by
       have:=(Array.getElem?_eq_some_iff.1 hi).1;omega
      have:=(k7 i e hi).mono s
      grind⟩
   grind
  have f2':es[j]? =some e:=by grind
  have g1:=AS8 k4 f2'
  rw[f3]at g1
  rcases h8 with⟨q1,_⟩|⟨i,q1,h⟩
  ·grind
  have hij:=Aw2 k5 q1 g1;subst hij;refine run (es.modify i fun e=>{e with key:=kv,val:=a.eval z}) clock (.vm ks (xs.set i (ev fr z))) ?_ ?_ h
  ·simp only[Instr.mapUpdate,C6,run_underlying h1,C1,CJ k3,(fun em=>h2.check w em h4),f1,f2',K4,Fi,f3,h2.stays w h4,run_setObj_map _ k3];rfl
  exact hR.putGen rfl rfl h6 hm rfl fun s hh hb=>
   ⟨b,_,_,hm,hb,hh,by
    apply DP
    grind,k5,by simp[k6],fun m en hi=>by
    rw[IC]at hi
    by_cases hmi:i=m
    ·subst hmi
     rw[A2 rfl,f2']at hi
     cases hi
     have hlt:i<xs.length:=by
      have:=(Array.getElem?_eq_some_iff.1 f2').1;omega
     simpa[Cd,W9,hlt]using hz.mono s
    rw[A1 hmi]at hi
    have:=(k7 m en hi).mono s
    simp_all⟩
theorem ZF {t:TypeId} {x y:Operand} {ok:Bool} {v:V} (ho:o.op= .lookup t x y ok) (hl:Na P H t (ev fr x) (ev fr y) ok v) (h:K v H):J2 P o fr H K:=by
 refine hl.elim (fun hl=>?_) fun hl=>hl.elim (fun hl=>Xj ho hl h) fun hl=>Xi ho hl h;intro g w a hR hE;obtain⟨kt,et,d,kv,id,ob,m,h1,h2,h3,h4,h5,h6,h7,h8⟩:=hl;have hx:=E8 hR hE x;have hy:=Mi h3 (E8 hR hE y)
 rw[h5]at hx
 generalize hav:a.eval x=xv at hx
 cases hx with
 | map hm=>
  rename_i b;obtain⟨b',k1,k2,k3,k4⟩:=hR.blk id _ h6
  rw[hm]at k1;cases k1
  obtain⟨⟨es,clock,e1,e2⟩,hk,hn⟩:=h7;subst e1;have hks:=BP.isKeys e2 hk;unfold execOp;rw[ho];simp only[hav,hy,Instr.lookup,C6,run_underlying h1,C1,CJ k3,D1,(fun em=>h2.check w em h4)]
  rcases h2.find w h4 es.toList hks with⟨f1,f2⟩|⟨j,e,f1,f2,f3⟩
  ·simp only[f1,C1]
   rcases h8 with⟨q1,z,q2,q3⟩|⟨y',q1,q2⟩
   ·obtain⟨zv,ez,hz⟩:=Dg q2
    have hzr:VR g w zv z:=by rw[ez];grind[Ec]
    simp only[C6,hz,C1,D1,H9];subst q3;cases ok
    ·grind[N5.here]
    refine N5.here hR (.tup rfl fun i hi=>?_) h
    match i with
    |0=>exact hzr
    |1=>exact .bool _
    |i+2=>grind
   exfalso;obtain⟨i,hi,e⟩:=AC q1;obtain⟨en,g1,g2,g3⟩:=(BP.entry (d:=d) e2 i).2 _ (by rw[E3 hi,e])
   rw[h3]at g2
   grind
  simp only[f1,C1,H9]
  have f2':es[j]? =some e:=by grind
  obtain⟨p,g1,g2,g3⟩:=(BP.entry (d:=d) e2 j).1 e f2';have hpk:p.1=ev fr y:=Xz g2 (by rw[h3,f3])
  rcases h8 with⟨q1,_⟩|⟨y',q1,q2⟩
  ·grind
  have hpy:p.2=y':=by
   obtain⟨i,hi,e⟩:=AC q1
   have hj:j<m.length:=by
    grind
   have e3:m[j]=p:=by rw[E3 hj]at g1;simp_all
   have:i=j:=MV hn (by grind) (by grind) (by simp_all)
   simp_all
  rw[hpy]at g3
  have hvr:VR g w e.val y':=Su g3;subst q2;cases ok
  ·exact N5.here hR hvr h
  refine N5.here hR (.tup rfl fun i hi=>?_) h
  match i with
  |0=>exact hvr
  |1=>exact .bool _
  |i+2=>grind
def BP.set {d:TypeDesc} {m m':List (V×V)} {es:Array MapEntry} {clock:Nat} {key val:V} {kv vv:Value} (h3:Ch key=some kv) (h4:FJ d kv) (h5:Ch val=some vv)
 (e2:es.toList.map (fun e=>(some e.key,some e.val))=m.map fun p=>(Ch p.1,Ch p.2)) (hk:∀p∈m,∃k,Ch p.1=some k∧FJ d k) (hn:(m.map (·.1)).Nodup) (hst:Li es clock) (hs:Ba0 m key val m'):
 ((∀e∈es.toList,e.key≠kv)→BP d (.map (es.push {key:=kv,val:=vv,born:=clock}) (clock+1)) m')∧
 ∀(j:Nat) e,es[j]? =some e→e.key=kv→BP d (.map (es.modify j fun e=>{e with key:=kv,val:=vv}) clock) m':=by
 have key_of:∀(j:Nat) e,es[j]? =some e→e.key=kv→∃y,m[j]? =some (key,y):=fun j e hj hje=>by
  obtain⟨p,g1,g2,g3⟩:=(BP.entry (d:=d) e2 j).1 e hj;have:p.1=key:=Xz g2 (by rw[h3,hje])
  grind
 constructor
 ·intro hne
  rcases hs with⟨q1,rfl⟩|⟨a,y,b,rfl,rfl⟩
  ·refine⟨⟨_,_,rfl,by simp_all⟩,fun p hp=>?_,?_,fun es clock h=>by grind[Li]⟩
   ·grind
   grind
  exfalso;obtain⟨e,g1,g2,_⟩:=(BP.entry (d:=d) e2 a.length).2 (key,y) (by simp)
  rw[h3]at g2
  grind
 intro j e hj hje;obtain⟨y0,hm⟩:=key_of j e hj hje
 rcases hs with⟨q1,rfl⟩|⟨a,y,b,rfl,rfl⟩
 ·grind
 have hja:j=a.length:=by
  have hjl:j<(a++(key,y)::b).length:=by
   grind
  have e3:(a++(key,y)::b)[j]=(key,y0):=by rw[E3 hjl]at hm;simp_all
  grind
 subst hja;refine⟨⟨_,_,rfl,?_⟩,fun p hp=>?_,?_,fun es clock h=>by cases h;exact hst.modify _ _ _⟩
 ·apply DP;intro i;simp only[Aa,DQ,IC]
  by_cases hi:a.length=i
  ·simp_all
  rw[A1 hi];have:=P9 (fun l=>l[i]?) e2
  grind
 ·simp only[List.mem_append,Gi]at hp
  rcases hp with hp|rfl|hp
  ·exact hk p (by simp[hp])
  ·simp_all
  exact hk p (by simp[hp])
 simp_all
theorem Nr {t:TypeId} {x y z:Operand} (ho:o.op= .mapUpdate t x y z∨o.op= .insert t x y z) (hl:MO P H K t (ev fr x) (ev fr y) (ev fr z)):J2 P o fr H K:=by
 refine hl.elim (fun hl=>?_) fun hl=>hl.elim (Sc ho) (Sb ho);intro g w a hR hE;obtain⟨kt,et,d,kv,vv,id,ob,m,m',h1,h2,h3,h4,h5,h6,h7,h8,h9,h⟩:=hl;have hx:=E8 hR hE x;have hy:=Mi h3 (E8 hR hE y);have hz:=Mi h5 (E8 hR hE z)
 rw[h6]at hx
 generalize hav:a.eval x=xv at hx
 cases hx with
 | map hm=>
  rename_i b;obtain⟨b',k1,k2,k3,k4⟩:=hR.blk id _ h7
  rw[hm]at k1;cases k1
  obtain⟨⟨es,clock,e1,e2⟩,hk,hn,hst⟩:=h8;subst e1;have hks:=BP.isKeys e2 hk;obtain⟨s1,s2⟩:=BP.set (clock:=clock) h3 h4 h5 e2 hk hn (hst _ _ rfl) h9
  have run:∀o',BP d o' m'→(Instr.mapUpdate t (.map (some b)) kv vv).run P w= .ok () (w.putObj b o')→H9 P (N5 g w K) ((execOp a.eval o).run P w):=by
   intro o' ho' hr;obtain⟨q1,q2⟩:=hR.putObj (o':=o') h7 hm (by obtain⟨⟨_,_,e,_⟩,_⟩:=ho';rw[e];rfl)
   have hex:(execOp a.eval o).run P w= .ok .skip (w.putObj b o'):=by
    unfold execOp
    rcases ho with ho|ho<;>rw[ho]<;>simp only[hav,hy,hz,C6,hr,C1,D1]
   rw[hex];exact⟨_,_,_,q1,q2,.bad _,h o' ho'⟩
  rcases h2.find w h4 es.toList hks with⟨f1,f2⟩|⟨j,e,f1,f2,f3⟩
  ·refine run _ (s1 f2) ?_;simp only[Instr.mapUpdate,C6,run_underlying h1,C1,CJ k3,(fun em=>h2.check w em h4),f1,run_setObj_map _ k3];rfl
  have f2':es[j]? =some e:=by grind
  refine run _ (s2 j e f2' f3) ?_;simp only[Instr.mapUpdate,C6,run_underlying h1,C1,CJ k3,(fun em=>h2.check w em h4),f1,f2',K4,Fi,f3,h2.stays w h4,run_setObj_map _ k3];rfl
end
end Go.Ab
namespace Go.Ab
open Go.RowKit
variable [N9]
def Rl.lessArr {g:Gh} {H:A5} {w:World} (h:Rl g H w) {id sz:Nat} {xs ys:List V} (hk:H id=some (.arr sz xs)) (hl:M1 xs ys):Rl g (upd H id (some (.arr sz ys))) w:=by
 have el:=hl.length
 have hat:∀x,g.at (upd H id (some (.arr sz ys))) x=g.at H x:=by
  grind[Gh.at,upd]
 refine⟨fun x k hx=>?_,fun x x' y h1 h2=>h.inj x x' y (hat x▸h1) (hat x'▸h2),h.frz,fun x hx=>?_,h.bnd,h.glb⟩
 ·by_cases hxe:x=id
  ·subst hxe;rw[E4]at hx;cases hx
   obtain⟨b,h1,h2,h3,h4,h5⟩:=h.blk x _ hk;refine⟨b,h1,h2,h3.trans el,fun i hi=>?_,?_⟩
   ·rw[←(hl.at i).cells.length];simp_all
   rw[←el];refine h5.imp (fun h=>h) fun⟨c,T,k1,k2,k3,k4,k5⟩=>⟨c,T,k1,k2,k3,fun i j hi hj=>⟨(k4 i j hi hj).1,(k4 i j hi hj).2.le ((hl.at i).cells.at j)⟩,k5⟩
  rw[D2 _ _ hxe]at hx;exact h.blk x k hx
 obtain⟨a1,a2,a3⟩:=h.nxt x hx
 have hne:x≠id:=fun e=>by simp_all
 simp_all[upd]
section
variable {P:Program}{o:Oper}{fr:Fr}{H:A5}{K:V→A5→Prop}
def J2.lessRow (h:J2 P o fr H fun x H'=>∃id sz xs ys,H' id=some (.arr sz xs)∧M1 xs ys∧K x (upd H' id (some (.arr sz ys)))):J2 P o fr H K:=by
 intro g w a hR hE;have h:=h g w a hR hE
 have key:∀v w',N5 g w (fun x H'=>∃id sz xs ys,H' id=some (.arr sz xs)∧M1 xs ys∧K x (upd H' id (some (.arr sz ys)))) v w'→N5 g w K v w':=by
  rintro v w' ⟨g',x,H',s,hR',hv,id,sz,xs,ys,h1,h2,h3⟩;exact⟨g',x,_,s,hR'.lessArr h1 h2,hv,h3⟩
 unfold H9 at h ⊢
 split at h
 ·grind
 ·grind
 ·exact h.mono fun e w' ⟨v,h1,h2⟩=>⟨v,h1,key _ _ h2⟩
 ·exact h.mono fun e w' ⟨v,h1,h2⟩=>⟨v,h1,key _ _ h2⟩
 omega
def QI {x:Operand}(ho:o.op= .assign x∨o.op= .move x)(hx:ev fr x= .sl [] .nil)(sz:Nat)(h:∀q,H q=none→K (.own q 0 0) (upd H q (some (.arr sz [])))):J2 P o fr H K:=by
 intro g w a hR hE;have hv:=E8 hR hE x
 rw[hx]at hv
 obtain⟨g1,s1,R1,hn,hv1⟩:=Ek hR sz (.inl rfl) hv;unfold execOp
 rcases ho with ho|ho<;>rw[ho]<;>exact⟨g1,_,_,s1,R1,hv1,h _ hn⟩
theorem Ay0 {t e:TypeId} {n sz:Nat} {parts:Array (Nat×Operand)} {xs ys:List V} (ho:o.op= .buildSlice t n parts) (hl:Bh P t n (parts.toList.map fun(p:Nat×Operand)=>(p.1,ev fr p.2))=some (.sl xs .full))
 (he:Fd P t=some e) (hs:Ev P e=some sz) (hle:M1 xs ys) (h:∀q,H q=none→K (.own q 0 (xs.length:Nat)) (upd H q (some (.arr sz ys)))):J2 P o fr H K:=by
 refine J2.lessRow ?_;intro g w a hR hE;obtain⟨e',sz',z,k1,k2,_,k3,k4,_,d,hrun,hdz,hdv⟩:=Me hR hE hl
 rw[he]at k1;cases k1
 rw[hs]at k2;cases k2
 cases k3
 have hget:∀i,((parts.toList.map fun(p:Nat×Operand)=>(p.1,ev fr p.2)).map (fun(q:Nat×V)=>q.2)).getD i .bad=((parts.toList.map fun(p:Nat×Operand)=>(p.1,ev fr p.2)).getD i (0,.bad)).2:=by
  grind
 generalize hL:(parts.toList.map fun(p:Nat×Operand)=>(p.1,ev fr p.2))=L at *
 have hz:∀i,i<(L.map fun(q:Nat×V)=>q.2).length→((L.map fun(q:Nat×V)=>q.2).getD i .bad).cells.length=sz:=by
  intro i hi
  have:∀(m:List (Nat×V)) (k i:Nat),CM sz k m=true→i<m.length→(m.getD i (0,.bad)).2.cells.length=sz:=by
   intro m
   induction m with
   |nil=>simp_all
   |cons y m ih=>
    grind[CM]
  rw[hget];grind
 have el:(L.map fun(q:Nat×V)=>q.2).length=n:=by grind
 obtain⟨s,r,hn⟩:=Rl.newArr (w':=w.alloc (.cells d e)) hR (b:=w.heap.size) (o:=0) (sz:=sz) (ys:=L.map fun(q:Nat×V)=>q.2) hz (fun b q hf=>Db (hR.fz_lt hf)) ((W6 _ _).alloc hR.bnd _) (fun x _ hlt=>heap_alloc hlt)
  (.inr ⟨d,e,hR.bnd,BK,by rw[hdz,el];omega,fun i j hi hj=>by
   rw[L8,hget];simp_all,fun q _ hf=>absurd (hR.fz_lt hf) (T9 _),fun id hid=>absurd (hR.lt hid) (T9 _)⟩)
 unfold execOp;rw[ho];simp only[C6,hrun,C1,D1,H9];refine⟨_,.own g.nx 0 ((L.map fun(q:Nat×V)=>q.2).length:Nat),_,s,r,?_,g.nx,sz,_,ys,E4 _ _ _,hle,?_⟩
 ·have e':(g.own w.heap.size ⟨0,(L.map fun(q:Nat×V)=>q.2).length,sz⟩).ow g.nx=⟨0,(L.map fun(q:Nat×V)=>q.2).length,sz⟩:=by simp[Gh.own]
  have:=VR.own (g:=g.own w.heap.size ⟨0,(L.map fun(q:Nat×V)=>q.2).length,sz⟩) (w:=w.alloc (.cells d e)) (id:=g.nx) (b:=w.heap.size) (lo:=0) (n:=((L.map fun(q:Nat×V)=>q.2).length:Nat)) (p:=some ⟨w.heap.size,0,none⟩) (by simp[Gh.own]) (by omega) (by omega) (by rw[e'];simp) (by rw[e'];simp)
  rw[e']at this
  simp_all
 grind[Al]
def strL (l:List Int):ByteArray:=l.foldl (fun r n=>r.push (UInt8.ofNat n.toNat)) ByteArray.empty
def Vi (P:Program)(H:A5)(s d:TypeId)(x v:V):Prop:=
 ∃e l,Fd P s=some e∧P.underlying e=some (.int .u8)∧P.underlying d=some .string∧Rn 1 H x (l.map (V.int .u8))∧v= .str (strL l)
def Rn.up {sz:Nat}{H H':A5}{x:V}{ys:List V}(hl:∀id b,H id=some b→H' id=some b)(h:Rn sz H x ys):Rn sz H' x ys:=by
 unfold Rn at h ⊢
 grind
def Ad3 {P:Program}{H H':A5}{s d:TypeId}{x v:V}(hl:∀id b,H id=some b→H' id=some b)(h:Vi P H s d x v):Vi P H' s d x v:=by
 obtain⟨e,l,h1,h2,h3,h4,h5⟩:=h;exact⟨e,l,h1,h2,h3,h4.up hl,h5⟩
def Yk (K:V→A5→Prop)(x:V)(H:A5):Prop:=∃id sz xs ys,H id=some (.arr sz xs)∧M1 xs ys∧K x (upd H id (some (.arr sz ys)))
def litO (P:Program)(H:A5)(K:V→A5→Prop)(t:TypeId)(n:Nat)(parts:List (Nat×V)):Prop:=
 ∃e sz xs ys,Bh P t n parts=some (.sl xs .full)∧Fd P t=some e∧Ev P e=some sz∧M1 xs ys∧∀q,H q=none→K (.own q 0 (xs.length:Nat)) (upd H q (some (.arr sz ys)))
def AT6 (H:A5)(K:V→A5→Prop)(x:V):Prop:=x= .sl [] .nil∧∃sz,∀q,H q=none→K (.own q 0 0) (upd H q (some (.arr sz [])))
def Ax4 {l:List Int} {ys0:List V} (h:M1 ys0 (l.map (V.int .u8))):ys0=l.map (V.int .u8):=by
 induction l generalizing ys0 with
 |nil=>cases h;rfl
 | cons n l ih=>
  cases h with
  |cons h1 h2=>
   cases h1;rw[ih h2];rfl
theorem An7 {s d:TypeId} {y:Operand} {x:V} (ho:o.op= .convert s d y) (hl:Vi P H s d (ev fr y) x) (h:K x H):J2 P o fr H K:=by
 intro g w a hR hE;have hv:=E8 hR hE y;obtain⟨e,l,h1,h2,h3,h4,rfl⟩:=hl;obtain⟨ys0,k1,k2,k3⟩:=h4.inv hR hv;have e1:=Ax4 k2;subst e1;obtain⟨base,cap,vs,r1,r2,r3⟩:=JH P hR k1 hv k3;have hs:=Q9 h1
 have hlen:(l.map (V.int .u8)).length=l.length:=by simp
 have hcell:∀i,i<l.length→vs i 0= .int .u8 (l.getD i 0):=by
  intro i hi;have:=(r2 i 0 (by rw[hlen];exact hi) (by omega)).2
  have e:((l.map (V.int .u8)).getD i .bad).cells.getD 0 .bad= .int .u8 (l.getD i 0):=by
   simp_all[V.cells]
  rw[e]at this
  exact this.int_inv
 have hread:=r3 l.length (by rw[hlen];omega) w (fun _ _=>rfl)
 have hcells:((List.range (l.length*1)).map fun k=>vs (k / 1) (k % 1)).toArray=(l.map (Value.int .u8)).toArray:=by
  grind
 rw[hcells]at hread
 rw[hlen]at r1
 rw[r1]at hread
 have run:(convert s d (.slice base l.length cap)).run P w= .ok (.string (strL l)) w:=by
  rw[run_convert_bytes_string w s d e base l.length cap hs h2 h3]
  cases base with
  | none=>
   have:l=[]:=by
    simp only[Builtin.firstCells]at hread
    have hh:(.ok #[] w:Result (Array Value))= .ok (l.map (Value.int .u8)).toArray w:=by simp_all
    simp_all
   subst this;rfl
  |some ad=>
   simp only[Builtin.firstCells,Nat.mul_one]at hread
   exact run_bytesToString w ad l.length cap l hread
 unfold execOp;rw[ho];simp only[r1,C6,run,C1,D1,H9];exact N5.here hR (.str _) h
end
end Go.Ab
namespace Go.Ab
open Go.RowKit Go.MapKept
variable [N9]
def NO (P:Program)(H:A5)(K:V→A5→Prop)(t:TypeId)(x:V):Prop:=
 ∃kt et mid es clock,P.underlying t=some (.map kt et)∧x= .map mid∧H mid=some (.obj (.map es clock))∧∀id,H id=none→K (.ref id 0) (upd H id (some (.iter mid clock #[] clock)))
def SH (H:A5) (K:V→A5→Prop) (x:V):Prop:=
 ∃id mid since,∃seen:Array Nat,∃c0,∃es:Array MapEntry,∃clock,x= .ref id 0∧H id=some (.iter mid since seen c0)∧H mid=some (.obj (.map es clock))∧(∀e∈es.toList,e.born<since)∧since≤c0∧
  ((leftOf es seen).size=0→K (.tup [.bool false]) H)∧∀e∈(leftOf es seen).toList,K (.tup [.bool true,.bad,.bad]) (upd H id (some (.iter mid since (seen.push e.born) clock)))
def Ob (H:A5) (K:V→A5→Prop) (x:V):Prop:=
 ∃id mid since,∃seen:Array Nat,∃c0,∃es:Array MapEntry,∃clock e kx vx,x= .ref id 0∧H id=some (.iter mid since (seen.push e.born) c0)∧c0=clock∧H mid=some (.obj (.map es clock))∧e∈es.toList∧(es.toList.map (·.born)).Nodup∧
  Ch kx=some e.key∧Ch vx=some e.val∧K (.tup [kx,vx]) H
def AP6 (P:Program) (H:A5) (K:V→A5→Prop) (ts:List TypeId) (vs:List V):Prop:=
 match ts,vs with
 | [t,_],[x,key]=>
  ∃kt et d kv id o m,P.underlying t=some (.map kt et)∧KG P kt (FJ d)∧Ch key=some kv∧FJ d kv∧x= .map id∧H id=some (.obj o)∧BP d o m∧
   ∀o' m',BP d o' m'→((m'=m∧∀p∈m,p.1≠key)∨∃j p,m[j]? =some p∧p.1=key∧m'=m.eraseIdx j)→K (.tup []) (upd H id (some (.obj o')))
 |_,_=>False
def XG {P:Program}{H:A5}{K K':V→A5→Prop}{t:TypeId}{x:V}(h:NO P H K t x)(hk:∀v H',K v H'→K' v H'):NO P H K' t x:=by
 grind[NO]
def Aa3 {H:A5}{K K':V→A5→Prop}{x:V}(h:SH H K x)(hk:∀v H',K v H'→K' v H'):SH H K' x:=by
 grind[SH]
def YD {H:A5}{K K':V→A5→Prop}{x:V}(h:Ob H K x)(hk:∀v H',K v H'→K' v H'):Ob H K' x:=by
 grind[Ob]
def WD {g:Gh}{H:A5}{w:World}(hR:Rl g H w){id b:Nat}{o:Obj}(h:H id=some (.obj o))(hb:g.mu id=some b):w.heap[b]? =some o:=by
 obtain⟨b',h1,_,h3,_⟩:=hR.blk id _ h
 rw[hb]at h1;simp_all
def Rl.drew {g:Gh}{H:A5}{w:World}(hR:Rl g H w):W1 g w g w.drew∧Rl g H w.drew:=by
 have s:W1 g w g w.drew:=⟨fun _ _ e=>e,fun _ _ e=>e,fun _ _ e=>e,rfl,fun _ _ _=>rfl,(W6 _ _).drew,fun _ _ _=>rfl,Ed _⟩;exact⟨s,⟨fun id b hb=>(hR.blk id b hb).mono hb s fun _ _=>⟨rfl,fun _ ho=>ho⟩,hR.inj,hR.frz,hR.nxt,hR.bnd,fun n=>(hR.glb n).mono s⟩⟩
def Rl.putIter {g:Gh} {H:A5} {w:World} (h:Rl g H w) {id b mid bm since since' c0 c0':Nat} {seen seen':Array Nat} (hk:H id=some (.iter mid since seen c0)) (hb:g.mu id=some b) (hm:g.mu mid=some bm):
 W1 g w g (ChangeMaps.setBlock w b (.mapIter (some bm) since' seen' c0'))∧Rl g (upd H id (some (.iter mid since' seen' c0'))) (ChangeMaps.setBlock w b (.mapIter (some bm) since' seen' c0')):=by
 have e0:ChangeMaps.setBlock w b (.mapIter (some bm) since' seen' c0')=w.putObj b (.mapIter (some bm) since' seen' c0'):=rfl;rw[e0];obtain⟨b',bm',h1,h2,h3,h4⟩:=h.blk id _ hk
 rw[hb]at h1;cases h1
 have hcell:=MH (o':=.mapIter (some bm) since' seen' c0') h4 rfl rfl
 have s:W1 g w g (w.putObj b (.mapIter (some bm) since' seen' c0')):=by
  refine⟨fun _ _ e=>e,fun _ _ e=>e,fun _ _ e=>e,rfl,fun b o _=>hcell b o,⟨rfl,rfl,rfl,by simp,fun k hk=>World.putObj_heap_other (by omega)⟩,fun _ _ _=>rfl,D5 _⟩
 have hat:∀x,g.at (upd H id (some (.iter mid since' seen' c0'))) x=g.at H x:=by
  grind[Gh.at,upd]
 have hid:g.at H id=some b:=by simp_all[Gh.at]
 refine⟨s,fun x k hx=>?_,fun x x' y h1 h2=>h.inj x x' y (hat x▸h1) (hat x'▸h2),fun y o hf=>?_,fun x hx=>?_,?_,fun n=>(h.glb n).mono s⟩
 ·by_cases hxe:x=id
  ·subst hxe;rw[E4]at hx;cases hx
   exact⟨b,bm,hb,h2,hm,World.putObj_heap_same (Wd h4)⟩
  rw[D2 _ _ hxe]at hx
  refine(h.blk x k hx).mono hx s fun y hy=>⟨World.putObj_heap_other fun e=>?_,fun _ ho=>ho⟩;subst e;exact hxe (h.inj _ _ _ hy hid)
 ·obtain⟨v,hv'⟩:=h.frz y o hf
  simp_all
 ·obtain⟨a1,a2,a3⟩:=h.nxt x hx
  have hne:x≠id:=fun e=>by simp_all
  simp_all[upd]
 have:=h.bnd;simp;omega
section
variable {P:Program}{o:Oper}{fr:Fr}{H:A5}{K:V→A5→Prop}
def An0 {t:TypeId} {y:Operand} (ho:o.op= .range t y) (hl:NO P H K t (ev fr y)):J2 P o fr H K:=by
 intro g w a hR hE;obtain⟨kt,et,mid,es,clock,h1,h2,h3,h4⟩:=hl;have hx:=E8 hR hE y
 rw[h2]at hx
 generalize hav:a.eval y=xv at hx
 cases hx with
 |map hm=>
  rename_i bm;have k3:=WD hR h3 hm;have s:=W1.new hR (.mapIter (some bm) clock #[] clock) False 0
  have hne:mid≠g.nx:=fun e=>by subst e;rw[(hR.nxt _ (D5 _)).1]at hm;cases hm
  have r:=hR.newNamed (.mapIter (some bm) clock #[] clock) (.iter mid clock #[] clock) (by simp) ⟨w.heap.size,bm,by simp[Gh.new],hR.bnd,by simp_all[Gh.new],BK⟩;unfold execOp;rw[ho];simp only[hav,C6,run_range_map w t kt et bm es clock h1 k3,C1,D1,H9];exact⟨_,_,_,s,r,.ref (by simp[Gh.new]),h4 g.nx (hR.nxt _ (D5 _)).2.2⟩
def Ay4 {y:Operand} (ho:o.op= .next y false) (hl:SH H K (ev fr y)):J2 P o fr H K:=by
 intro g w a hR hE;obtain⟨id,mid,since,seen,c0,es,clock,h1,h2,h3,h4,h5,h6,h7⟩:=hl;have hx:=E8 hR hE y
 rw[h1]at hx
 generalize hav:a.eval y=xv at hx
 obtain⟨b,bm,k1,k2,k3,k4⟩:=hR.blk id _ h2;have k5:=WD hR h3 k3
 cases hx with
 | ref hm=>
  rename_i b'
  rw[k1]at hm;cases hm
  unfold execOp;rw[ho];simp only[hav]
  rcases run_next_at (P:=P) w o.type b bm since c0 seen es clock k4 k5 h4 h5 with⟨e1,e2⟩|⟨e,e1,w1,e2,e3⟩
  ·simp only[C6,e2,C1,D1,H9];refine N5.here hR (.tup rfl fun i hi=>?_) (h6 e1)
   match i with
   |0=>exact .bool _
   |i+1=>simp at hi
  simp only[C6,e3,C1,D1,H9]
  have key:∀w1:World,W1 g w g w1→Rl g H w1→N5 g w K (.tuple #[.bool true,e.key,e.val]) (ChangeMaps.setBlock w1 b (.mapIter (some bm) since (seen.push e.born) clock)):=by
   intro w1 s1 hR1;obtain⟨s2,hR2⟩:=hR1.putIter (since':=since) (seen':=seen.push e.born) (c0':=clock) h2 k1 k3;refine⟨g,_,_,s1.trans s2,hR2,.tup rfl fun i hi=>?_,h7 e e1⟩
   match i with
   |0=>exact .bool _
   |1=>exact .bad _
   |2=>exact .bad _
   |i+3=>grind
  rcases e2 with rfl|rfl
  ·grind[W1.refl]
  exact key _ hR.drew.1 hR.drew.2
def An6 {y:Operand} (ho:o.op= .entry y) (hl:Ob H K (ev fr y)):J2 P o fr H K:=by
 intro g w a hR hE;obtain⟨id,mid,since,seen,c0,es,clock,e,kx,vx,h1,h2,h0,h3,h4,h5,h6,h7,h8⟩:=hl;subst h0;have hx:=E8 hR hE y
 rw[h1]at hx
 generalize hav:a.eval y=xv at hx
 obtain⟨b,bm,k1,k2,k3,k4⟩:=hR.blk id _ h2;have k5:=WD hR h3 k3
 cases hx with
 |ref hm=>
  rename_i b'
  rw[k1]at hm;cases hm
  unfold execOp;rw[ho];simp only[hav,C6,run_entry_at (P:=P) w b bm since seen es _ e k4 k5 h4 h5,C1,D1,H9];refine N5.here hR (.tup rfl fun i hi=>?_) h8
  match i with
  |0=>exact Su h6
  |1=>exact Su h7
  |i+2=>grind
def BP.erase {d:TypeDesc} {m:List (V×V)} {es:Array MapEntry} {clock:Nat} (h:BP d (.map es clock) m) (j:Nat) (hj:j<es.size):BP d (.map (es.eraseIdxIfInBounds j) clock) (m.eraseIdx j):=by
 obtain⟨⟨es',c',e1,e2⟩,hk,hn,hst⟩:=h;cases e1;have hsub:(m.eraseIdx j).Sublist m:=List.eraseIdx_sublist _ _;refine⟨⟨_,_,rfl,?_⟩,fun p hp=>hk p (hsub.subset hp),(hsub.map _).nodup hn,fun es1 c1 h=>by cases h;exact(hst _ _ rfl).sub (by unfold Array.eraseIdxIfInBounds;rw[dif_pos hj,Array.toList_eraseIdx];grind)⟩
 have e3:(es.eraseIdxIfInBounds j).toList=es.toList.eraseIdx j:=by
  simp_all
 rw[e3];apply DP;intro i;have e4:=P9 (fun l=>l[i]?) e2;have e5:=P9 (fun l=>l[i+1]?) e2
 grind
end
section
variable {P:Program}{o:Oper}{fr:Fr}{H:A5}{K:V→A5→Prop}
def AC4 (P:Program)(t:TypeId)(l c v:V):Prop:=
 ∃k1 k2 n e sz by_ z,l= .int k1 n∧c= .int k2 n∧Fd P t=some e∧Ev P e=some sz∧0<sz∧Qj P e=some by_∧0<by_∧ID P e=some z∧z.one=true∧z.cells.length=sz∧0≤n∧n*(by_:Nat)≤281474976710656∧v= .sl (List.replicate n.toNat z) .ro
theorem An3 {t:TypeId} {l c:Operand} {v:V} (ho:o.op= .makeSlice t l c) (h:AC4 P t (ev fr l) (ev fr c) v) (hK:K v H):J2 P o fr H K:=by
 obtain⟨k1,k2,n,e,sz,by_,z,e1,e2,e3,e4,e5,e6,e7,e8,e9,e10,e11,e12,rfl⟩:=h;intro g w a hR hE;refine H9.mono ?_ (Xh (K:=fun x H'=>∃id,H id=none∧x= .own id 0 n∧H'=upd H id (some (.arr sz (List.replicate n.toNat z)))) ho e1 e2 e3 e4 e5 e6 e7 e8 e9 e10 e11 (S0 _) e12 (fun id hid=>⟨id,hid,rfl,rfl⟩) g w a hR hE);rintro x w' ⟨g1,y,H1,s1,R1,hv,id,hid,rfl,rfl⟩;obtain⟨g2,_,s2,R2,hfr⟩:=R1.freezeArr' (E4 _ _ _)
 have hH:upd (upd H id (some (.arr sz (List.replicate n.toNat z)))) id none=H:=by
  funext x
  simp_all[upd]
 rw[hH]at R2
 refine⟨g2,_,H,s1.trans s2,R2,?_,hK⟩;have:=hfr x 0 n (hv.mono s2)
 have hs:N8 (List.replicate n.toNat z) 0 n=List.replicate n.toNat z:=by simp[N8]
 rw[hs]at this
 exact this
end
end Go.Ab
namespace Go.Ab
open Go.RowKit
variable [N9]
def Args (g:Gh)(w:World)(vals:Array Value)(args:List V):Prop:=
 vals.size=args.length∧∀i,i<args.length→VR g w (vals.getD i undef) (args.getD i .bad)
def J5 (P:Program)(f:FuncId)(args:List V)(H:A5)(K:V→A5→Prop):Prop:=
 ∀g w vals,Rl g H w→Args g w vals args→H9 P (N5 g w K) ((callFunc f vals).run P w)
def Df (P:Program)(fv:V)(args:List V)(H:A5)(K:V→A5→Prop):Prop:=
 ∀g w v vals,Rl g H w→VR g w v fv→Args g w vals args→H9 P (N5 g w K) ((do let d ←Deferred.ofValue v vals;invoke d.target d.args:Sem Next).run P w)
def C3 (P:Program)(f:FuncId)(args:List V)(r:V):Prop:=∀H,J5 P f args H fun x H'=>x=r∧H'=H
def AM (P:Program)(fv:V)(args:List V)(r:V):Prop:=∀H,Df P fv args H fun x H'=>x=r∧H'=H
def N5.mono {g:Gh}{w:World}{K K':V→A5→Prop}(h:∀x H,K x H→K' x H){v:Value}{w':World}(p:N5 g w K v w'):N5 g w K' v w':=
 let⟨g',x,H',a,b,c,d⟩:=p;⟨g',x,H',a,b,c,h _ _ d⟩
def Qo (P:Program)(fv:V)(args:List V)(H:A5)(r:V):Prop:=∀H',(∀id b,H id=some b→H' id=some b)→Df P fv args H' fun x h=>x=r∧h=H'
def AM.toH {P:Program}{fv:V}{args:List V}{r:V}(h:AM P fv args r)(H:A5):Qo P fv args H r:=fun H' _=>h H'
def Qo.up {P:Program}{fv:V}{args:List V}{H H':A5}{r:V}(h:Qo P fv args H r)(hl:∀id b,H id=some b→H' id=some b):Qo P fv args H' r:=fun H2 h2=>h H2 fun id b e=>h2 id b (hl id b e)
def J5.mono {P:Program}{f:FuncId}{args:List V}{H:A5}{K K':V→A5→Prop}(c:J5 P f args H K)(h:∀x H,K x H→K' x H):J5 P f args H K':=
 fun g w vals hR hA=>(c g w vals hR hA).mono fun _ _ p=>p.mono h
def Df.mono {P:Program}{fv:V}{args:List V}{H:A5}{K K':V→A5→Prop}(c:Df P fv args H K)(h:∀x H,K x H→K' x H):Df P fv args H K':=
 fun g w v vals hR hv hA=>(c g w v vals hR hv hA).mono fun _ _ p=>p.mono h
theorem C3.at {P:Program}{f:FuncId}{args:List V}{r:V}(c:C3 P f args r){H:A5}{K:V→A5→Prop}(h:K r H):J5 P f args H K:=
 (c H).mono fun x H' ⟨e1,e2⟩=>by rw[e1,e2];exact h
theorem AM.at {P:Program}{fv:V}{args:List V}{r:V}(c:AM P fv args r){H:A5}{K:V→A5→Prop}(h:K r H):Df P fv args H K:=
 (c H).mono fun x H' ⟨e1,e2⟩=>by rw[e1,e2];exact h
def Wk (x y:V):Prop:=∀g w v,VR g w v x→VR g w v y
theorem Wk.refl (x:V):Wk x x:=fun _ _ _ h=>h
def Wk.bad (x:V):Wk x .bad:=fun _ _ _ _=>.bad _
def Wk.ro (xs:List V)(t:E7):Wk (.sl xs t) (.sl xs .ro):=by
 intro g w v h
 cases h with
 |sl0 ht=>exact .sl0 rfl
 |sle ht=>exact .sle (.inl rfl)
 |sl vs hn hc hz hf hw h1 hv ht=>exact .sl vs hn hc hz hf hw h1 hv trivial
def Wk.nil (t:E7)(ht:t.plain=true):Wk (.sl [] .nil) (.sl [] t):=by
 intro g w v h
 cases h with
 |sl0 _=>exact .sl0 ht
 |sle h=>rcases h with h|⟨h,_⟩<;>cases h
 |sl vs hn hc hz hf hw h1 hv ht=>exact ht.elim
def Args.append {g:Gh} {w:World} {a b:Array Value} {x y:List V} (h:Args g w a x) (k:Args g w b y):Args g w (a++b) (x++y):=by
 refine⟨by simp[h.1,k.1],fun i hi=>?_⟩;rw[GC]
 have e:(a++b).getD i undef=if i<x.length then a.getD i undef else b.getD (i-x.length) undef:=by
  simp only[O3,HC,h.1]
  split<;>rfl
 rw[e]
 grind[Args]
def J5.value {P:Program} {f:FuncId} {F C args:List V} {H:A5} {K:V→A5→Prop} (h:J5 P f (F++args++C) H K):Df P (.func (.func f) F C) args H K:=by
 intro g w v vals hR hv hA
 cases hv with
 |func hl hv hl' hv'=>
  rename_i fs cs;have:=h g w (fs++vals++cs) hR (Args.append (Args.append ⟨hl,hv⟩ hA) ⟨hl',hv'⟩)
  simpa only[Deferred.ofValue,C6,D1,C1,invoke]using this
def C3.value {P:Program}{f:FuncId}{F C args:List V}{r:V}(h:C3 P f (F++args++C) r):AM P (.func (.func f) F C) args r:=fun H=>(h H).value
theorem J2.le {P:Program}{o:Oper}{fr:Fr}{H:A5}{K:V→A5→Prop}(h:J2 P o fr H fun x H'=>∃y,Cp x y∧K y H'):J2 P o fr H K:=
 fun g w a hR hE=>(h g w a hR hE).mono fun v w' ⟨g',x,H',s,hR',hv,y,hxy,hK⟩=>⟨g',y,H',s,hR',hv.le hxy,hK⟩
section
variable {P:Program}{o:Oper}{fr:Fr}{H:A5}{K:V→A5→Prop}
def AG6 {g:Gh}{w:World}{a:Act}(hR:Rl g H w)(hE:ER g w a fr)(l:Array Operand):Args g w (l.map a.eval) (l.toList.map (ev fr)):=by
 refine⟨by simp,fun i hi=>?_⟩
 have hi':i<l.size:=by grind
 have e1:(l.map a.eval).getD i undef=a.eval l[i]:=by simp_all
 have e2:(l.toList.map (ev fr)).getD i .bad=ev fr l[i]:=by simp_all
 rw[e1,e2];grind[E8]
theorem Xm {x:Operand}{args:Array Operand}{ts:Array TypeId}(ho:o.op= .call {callee:=.value x,args:=args,argTypes:=ts})(h:Df P (ev fr x) (args.toList.map (ev fr)) H K):
 J2 P o fr H K:=by
 intro g w a hR hE;have:=h g w (a.eval x) (args.map a.eval) hR (E8 hR hE x) (AG6 hR hE args);unfold execOp;rw[ho]
 simpa only[resolve]using this
end
abbrev TP:=Nat→Bool
def Dc (P:Program) (b:Builtin) (ts:List TypeId) (vs:List V) (v:V):Prop:=
 match b,ts,vs with
 | .len,[t],[x]=>Aq8 P t x=some v
 | .max,_,[.int k a,.int k' b]=>k=k'∧v= .int k (if a<b then b else a)
 | .min,_,[.int k a,.int k' b]=>k=k'∧v= .int k (if b<a then b else a)
 | .append,[sT,yT],[.sl xs tl,.sl ys _]=>(tl= .nil∨tl= .full)∧∃e sz by_ z xs' ys',Fd P sT=some e∧(Fd P yT).isSome=true∧Ev P e=some sz∧0<sz∧Qj P e=some by_∧0<by_∧ID P e=some z∧z.one=true∧z.cells.length=sz∧
  M1 xs xs'∧M1 ys ys'∧xs'.all (fun x=>x.cells.length==sz)=true∧ys'.all (fun x=>x.cells.length==sz)=true∧(xs'.length+ys'.length)*by_≤140737488355328∧v= .sl (xs'++ys') .ro
 |_,_,_=>False
def J2.lessH {P:Program}{o:Oper}{fr:Fr}{H:A5}{K:V→A5→Prop}(h:J2 P o fr H fun x H'=>∃y H2,Cp x y∧(∀id b,H2 id=some b→H' id=some b)∧K y H2):J2 P o fr H K:=
 fun g w a hR hE=>(h g w a hR hE).mono fun v w' ⟨g',x,H',s,hR',hv,y,H2,hxy,hH,hK⟩=>⟨g',y,H2,s,hR'.less hH,hv.le hxy,hK⟩
theorem MJ {P:Program} {o:Oper} {fr:Fr} {H:A5} {c:Call} {b:Builtin} {v:V} (ho:o.op= .call c) (hc:c.callee= .builtin b)
 (h:Dc P b c.argTypes.toList (c.args.toList.map (ev fr)) v) {K:V→A5→Prop} (k:K v H):J2 P o fr H K:=by
 obtain⟨ce,args,ts⟩:=c
 simp only at hc h
 subst hc;obtain⟨args⟩:=args;obtain⟨ts⟩:=ts
 simp only at h
 unfold Dc at h
 split at h
 ·rename_i t x e2
  match args,e2 with
  |[y],e2=>
   simp only[E9,J3,W8,Q0]at e2
   grind[AK0]
  |[],e2=>simp at e2
  |_::_::_,e2=>simp at e2
 ·rename_i k a k' b e2;obtain⟨rfl,rfl⟩:=h
  match args,e2 with
  |[x,y],e2=>
   simp only[E9,J3,W8,Q0]at e2
   intro g w act hR hE;rw[R4 ho];have h1:=E8 hR hE x;have h2:=E8 hR hE y
   rw[e2.1]at h1;rw[e2.2]at h2
   have e1:=h1.int_inv;have e2':=h2.int_inv;simp[builtin,Builtin.max_,Builtin.max2,e1,e2',C6,D1]
   split<;>exact N5.here hR (by first|(rw[A2 (by assumption)];grind)|grind|exact .int _ _) k
  |[],e2=>simp at e2
  |[_],e2=>simp at e2
  |_::_::_::_,e2=>simp at e2
 ·rename_i k a k' b e2;obtain⟨rfl,rfl⟩:=h
  match args,e2 with
  |[x,y],e2=>
   simp only[E9,J3,W8,Q0]at e2
   intro g w act hR hE;rw[R4 ho];have h1:=E8 hR hE x;have h2:=E8 hR hE y
   rw[e2.1]at h1;rw[e2.2]at h2
   have e1:=h1.int_inv;have e2':=h2.int_inv;simp[builtin,Builtin.min_,Builtin.min2,e1,e2',C6,D1]
   split<;>exact N5.here hR (by first|(rw[A2 (by assumption)];grind)|grind|exact .int _ _) k
  |[],e2=>simp at e2
  |[_],e2=>simp at e2
  |_::_::_::_,e2=>simp at e2
 ·rename_i sT yT xs tl ys tl' e2;obtain⟨htl,e,sz,by_,z,xs',ys',k1,k2,k3,k4,k5,k6,k7,k8,k9,l1,l2,k11,k12,k13,rfl⟩:=h
  match args,e2 with
  |[s,y],e2=>
   simp only[E9,J3,W8,Q0]at e2
   have hA:Fb H tl:=by rcases htl with rfl|rfl<;>trivial
   have hd:G0 H tl=H:=by rcases htl with rfl|rfl<;>rfl
   refine J2.lessH (NG (K:=fun x H'=>∃y H2,Cp x y∧(∀id b,H2 id=some b→H' id=some b)∧K y H2) ho e2.1 e2.2 k1 k2 k3 k4 k5 k6 k7 k8 k9 hA (l1.sz k11) (l2.sz k12) (by rw[l1.length,l2.length];exact k13) (fun e=>⟨_,H,?_,fun _ _ h=>h,k⟩) fun t h1 h2=>⟨_,H,Cp.sl _ (l1.append l2),fun id b hb=>?_,k⟩)
   ·subst e;cases l2;rw[L4];exact Cp.sl _ l1
   rw[hd]at h2 ⊢
   grind[upd]
  |[],e2=>simp at e2
  |[_],e2=>simp at e2
  |_::_::_::_,e2=>simp at e2
 exact h.elim
def Hm (P:Program) (H:A5) (K:V→A5→Prop):List TypeId→List V→Prop
 | [sT,yT],[.sl xs tl,.sl ys _]=>
  ∃e sz by_ z,Fd P sT=some e∧(Fd P yT).isSome=true∧Ev P e=some sz∧0<sz∧Qj P e=some by_∧0<by_∧ID P e=some z∧z.one=true∧z.cells.length=sz∧∃xs' ys',M1 xs xs'∧M1 ys ys'∧Fb H tl∧
   xs'.all (fun x=>x.cells.length==sz)=true∧ys'.all (fun x=>x.cells.length==sz)=true∧(xs'.length+ys'.length)*by_≤140737488355328∧(ys'=[]→K (.sl xs' tl) H)∧
   ∀t,ys'≠[]→G0 H tl t=none→K (.sl (xs'++ys') (.tok t)) (upd (G0 H tl) t (some .spare))
 |_,_=>False
def Nw {P:Program} {o:Oper} {fr:Fr} {H:A5} {c:Call} (ho:o.op= .call c) (hc:c.callee= .builtin .append) {K:V→A5→Prop}
 (h:Hm P H K c.argTypes.toList (c.args.toList.map (ev fr))):J2 P o fr H K:=by
 obtain⟨ce,args,ts⟩:=c
 simp only at hc h
 subst hc;obtain⟨args⟩:=args;obtain⟨ts⟩:=ts
 simp only at h
 unfold Hm at h
 split at h
 ·rename_i sT yT xs tl ys tl' e2
  match args,e2 with
  |[s,y],e2=>
   simp only[E9,J3,W8,Q0]at e2
   obtain⟨e,sz,by_,z,k1,k2,k3,k4,k5,k6,k7,k8,k9,xs',ys',l1,l2,k10,k11,k12,k13,k14,k15⟩:=h;refine J2.le (NG (K:=fun x H'=>∃y,Cp x y∧K y H') ho e2.1 e2.2 k1 k2 k3 k4 k5 k6 k7 k8 k9 k10 (l1.sz k11) (l2.sz k12) (by rw[l1.length,l2.length];exact k13) (fun e=>⟨_,.slt _ l1,k14 (by subst e;cases l2;rfl)⟩) fun t h1 h2=>⟨_,.slt _ (l1.append l2),k15 t (fun e=>h1 (by subst e;cases l2;rfl)) h2⟩)
  |[],e2=>simp at e2
  |[_],e2=>simp at e2
  |_::_::_::_,e2=>simp at e2
 exact h.elim
def NU (P:Program)(H:A5)(b:Builtin)(ts:List TypeId)(vs:List V)(v:V):Prop:=
 match b,ts,vs with
 | .len,[t],[x]=>AN3 P H t x=some v
 | .cap,[t],[x]=>Ad9 P H t x=some v
 |_,_,_=>False
theorem SQ {P:Program} {o:Oper} {fr:Fr} {H:A5} {c:Call} {b:Builtin} {v:V} (ho:o.op= .call c) (hc:c.callee= .builtin b)
 (h:NU P H b c.argTypes.toList (c.args.toList.map (ev fr)) v) {K:V→A5→Prop} (k:K v H):J2 P o fr H K:=by
 obtain⟨ce,args,ts⟩:=c
 simp only at hc h
 subst hc;obtain⟨args⟩:=args;obtain⟨ts⟩:=ts
 simp only at h
 unfold NU at h
 split at h
 ·rename_i t x e2
  match args,e2 with
  |[y],e2=>
   simp only[E9,J3,W8,Q0]at e2
   grind[Ay1]
  |[],e2=>simp at e2
  |_::_::_,e2=>simp at e2
 ·rename_i t x e2
  match args,e2 with
  |[y],e2=>
   simp only[E9,J3,W8,Q0]at e2
   grind[Ay3]
  |[],e2=>simp at e2
  |_::_::_,e2=>simp at e2
 exact h.elim
theorem Qm {H H':A5}(hl:∀id b,H id=some b→H' id=some b){id:Nat}{p:Nat×List V}(h:Id H id=some p):Id H' id=some p:=by
 have:=FH (sz:=p.1) (xs:=p.2) h
 simp_all[Id]
def Aa8 {P:Program}{H H':A5}{t:TypeId}{x v:V}(hl:∀id b,H id=some b→H' id=some b)(h:Nu P H t x=some v):Nu P H' t x=some v:=by
 unfold Nu at h ⊢
 grind[Qm]
theorem Ar3 {P:Program}{H H':A5}{t:TypeId}{x v:V}{i:Int}(hl:∀id b,H id=some b→H' id=some b)(h:Ab9 P H t x i=some v):Ab9 P H' t x i=some v:=by
 unfold Ab9 at h ⊢
 grind[Qm]
theorem Xc {P:Program}{H H':A5}{t:TypeId}{x v:V}{i j k:Option Int}(hl:∀id b,H id=some b→H' id=some b)(h:LY P H t x i j k=some v):LY P H' t x i j k=some v:=by
 unfold LY at h ⊢
 grind[Qm]
theorem Aq9 {P:Program} {H H':A5} {b:Builtin} {ts:List TypeId} {vs:List V} {v:V} (hl:∀id b,H id=some b→H' id=some b) (h:NU P H b ts vs v):NU P H' b ts vs v:=by
 unfold NU at h ⊢
 split at h
 ·exact h
 ·rename_i t x
  unfold Ad9 at h ⊢
  grind[Id]
 omega
def ownN (x:V):Nat:=
 match x with
 | .own _ _ n=>n.toNat
 |_=>0
def GX (H:A5) (K:V→A5→Prop) (sz by_:Nat) (z:V) (x:V) (ys:List V):Prop:=
 match x with
 | .own id lo n=>∃xs,H id=some (.arr sz xs)∧
  (lo+n+(ys.length:Nat)≤(xs.length:Nat)→K (.own id lo (n+(ys.length:Nat))) (upd H id (some (.arr sz (AP xs (lo+n).toNat ys)))))∧
  ((xs.length:Nat)<lo+n+(ys.length:Nat)→(n.toNat+ys.length)*by_≤140737488355328∧∀t k,H t=none→K (.own t 0 (n+(ys.length:Nat))) (upd H t (some (.arr sz (N8 xs lo n++ys++List.replicate k z)))))
 |x=>(x= .sl [] .nil∨x= .sl [] .full)∧ys.length*by_≤140737488355328∧∀t k,H t=none→K (.own t 0 (ys.length:Nat)) (upd H t (some (.arr sz (ys++List.replicate k z))))
theorem KQ {H:A5}{K K':V→A5→Prop}{sz by_:Nat}{z x:V}{ys:List V}(h:GX H K sz by_ z x ys)(hk:∀v H',K v H'→K' v H'):GX H K' sz by_ z x ys:=by
 unfold GX at h ⊢
 grind
def Py (P:Program) (H:A5) (K:V→A5→Prop):List TypeId→List V→Prop
 | [sT,yT],[x,y]=>
  ∃ e sz by_ z,Fd P sT=some e∧Ev P e=some sz∧0<sz∧Qj P e=some by_∧0<by_∧ID P e=some z∧z.one=true∧z.cells.length=sz∧
   (((Fd P yT).isSome=true∧∃ys',Rn sz H y ys'∧GX H K sz by_ z x ys')∨
    ((∃k',P.underlying yT=some (.int k'))∧∃k m,y= .int k m∧0≤m∧(ownN x+m.toNat)*by_≤140737488355328∧GX H K sz by_ z x (List.replicate m.toNat z))∨
    (P.underlying yT=some .string∧∃s,y= .str s∧sz=1∧GX H K sz by_ z x (GG s)))
 |_,_=>False
def Uj {P:Program} {o:Oper} {fr:Fr} {H:A5} {c:Call} (ho:o.op= .call c) (hc:c.callee= .builtin .append) {K:V→A5→Prop}
 (h:Py P H K c.argTypes.toList (c.args.toList.map (ev fr))):J2 P o fr H K:=by
 obtain⟨ce,args,ts⟩:=c
 simp only at hc h
 subst hc;obtain⟨args⟩:=args;obtain⟨ts⟩:=ts
 simp only at h
 unfold Py at h
 split at h
 ·rename_i sT yT x y' e2
  match args,e2 with
  | [s,y],e2=>
   simp only[E9,J3,W8,Q0]at e2
   obtain⟨e,sz,by_,z,k1,k3,k4,k5,k6,k7,k8,k9,h⟩:=h
   rcases h with⟨k2,ys',l1,l4⟩|⟨⟨k',k2⟩,k,m,l1,l2,l0,l4⟩|⟨k2,s',l1,l2,l4⟩
   ·unfold GX at l4
    grind[Xe,VF]
   ·have hm:((m.toNat:Nat):Int)=m:=by omega
    unfold GX at l4
    simp only[Qt,hm]at l4
    split at l4
    ·rename_i id lo n;obtain⟨xs,m1,m3,m4⟩:=l4;exact VD ho e2.1 (e2.2.trans l1) m1 k1 k2 k3 k4 k5 k6 k7 k8 k9 l2 l0 m3 fun e=>(m4 e).2
    grind[TS]
   subst l2
   unfold GX at l4
   grind[VE,TU]
  |[],e2=>simp at e2
  |[_],e2=>simp at e2
  |_::_::_::_,e2=>simp at e2
 exact h.elim
def YT (P:Program) (H:A5) (K:V→A5→Prop):List TypeId→List V→Prop
 | [sT,_],[.own id lo n,y]=>
  ∃e sz xs ys',Fd P sT=some e∧Ev P e=some sz∧0<sz∧H id=some (.arr sz xs)∧Rn sz H y ys'∧
   K (.int .i64 (if n<(ys'.length:Nat)then n else(ys'.length:Nat))) (upd H id (some (.arr sz (AP xs lo.toNat (ys'.take n.toNat)))))
 |_,_=>False
def YS {P:Program} {o:Oper} {fr:Fr} {H:A5} {c:Call} (ho:o.op= .call c) (hc:c.callee= .builtin .copy) {K:V→A5→Prop}
 (h:YT P H K c.argTypes.toList (c.args.toList.map (ev fr))):J2 P o fr H K:=by
 obtain⟨ce,args,ts⟩:=c
 simp only at hc h
 subst hc;obtain⟨args⟩:=args;obtain⟨ts⟩:=ts
 simp only at h
 unfold YT at h
 split at h
 ·rename_i sT yT id lo n y' e2
  match args,e2 with
  |[s,y],e2=>
   simp only[E9,J3,W8,Q0]at e2
   grind[An2]
  |[],e2=>simp at e2
  |[_],e2=>simp at e2
  |_::_::_::_,e2=>simp at e2
 exact h.elim
def Tw (P:Program) (H:A5) (K:V→A5→Prop):List TypeId→List V→Prop
 |[sT],[.own id lo n]=>
  ∃e sz z xs,Fd P sT=some e∧Ev P e=some sz∧0<sz∧ID P e=some z∧z.one=true∧z.cells.length=sz∧H id=some (.arr sz xs)∧K (.tup []) (upd H id (some (.arr sz (AP xs lo.toNat (List.replicate n.toNat z)))))
 |_,_=>False
def WA {P:Program} {o:Oper} {fr:Fr} {H:A5} {c:Call} (ho:o.op= .call c) (hc:c.callee= .builtin .clear) {K:V→A5→Prop}
 (h:Tw P H K c.argTypes.toList (c.args.toList.map (ev fr))):J2 P o fr H K:=by
 obtain⟨ce,args,ts⟩:=c
 simp only at hc h
 subst hc;obtain⟨args⟩:=args;obtain⟨ts⟩:=ts
 simp only at h
 unfold Tw at h
 split at h
 ·rename_i sT id lo n e2
  match args,e2 with
  |[s],e2=>
   simp only[E9,J3,W8,Q0]at e2
   grind[ZE]
  |[],e2=>simp at e2
  |_::_::_,e2=>simp at e2
 exact h.elim
def QR (P:Program) (H:A5) (K:V→A5→Prop) (t:TypeId) (l c:V):Prop:=
 match l,c with
 | .int _ n,.int _ m=>∃e sz by_ z,Fd P t=some e∧Ev P e=some sz∧0<sz∧Qj P e=some by_∧0<by_∧ID P e=some z∧z.one=true∧z.cells.length=sz∧0≤n∧n≤m∧m*by_≤281474976710656∧
  ∀id,H id=none→K (.own id 0 n) (upd H id (some (.arr sz (List.replicate m.toNat z))))
 |_,_=>False
def Om (P:Program) (o:Oper) (ρ:Operand→V) (H:A5) (v:V):Prop:=
 match o.op with
 | .move x=>v=ρ x
 | .assign x=>v=ρ x
 | .pick c x y=>
  match ρ c with
  | .bool t=>v=if t then ρ x else ρ y
  |_=>False
 | .box _ x=>(ρ x).one=true∧v= .eref (ρ x).cells 0
 | .build t ps=>Ql P t (ps.toList.map fun p=>(p.1,ρ p.2))=some v
 | .buildSlice t n ps=>Bh P t n (ps.toList.map fun p=>(p.1,ρ p.2))=some v
 | .makeSlice t l c=>AC4 P t (ρ l) (ρ c) v
 | .load t x=>IY P H t (ρ x)=some v∨Nu P H t (ρ x)=some v
 | .nilCheck x=>Ah8 (ρ x)=true∧v=ρ x
 | .binOp op t x y _=>Rm P op t (ρ x) (ρ y)=some v
 | .unOp op _ x=>unV op (ρ x)=some v
 | .convert s d x=>Vh P s d (ρ x)=some v∨Vi P H s d (ρ x) v
 | .lookup t x y ok=>Na P H t (ρ x) (ρ y) ok v
 | .makeInterface t x=>ifO P t=false∧v= .iface t (ρ x)
 | .makeFunc fn fs cs=>v= .func fn (fs.toList.map ρ) (cs.toList.map ρ)
 | .slice t x lo hi mx=>
  match Cu (lo.map ρ),Cu (hi.map ρ),Cu (mx.map ρ)with
  |some l,some h,some m=>Sa P t (ρ x) l h m=some v∨LY P H t (ρ x) l h m=some v
  |_,_,_=>False
 | .fieldAddr t x f=>HU P t (ρ x) f=some v
 | .field t x f=>Th P t (ρ x) f=some v
 | .indexAddr t x y=>
  match ρ y with
  | .int _ i=>(∃u,DZ P t (ρ x) i=some u∧Cp u v)∨Ab9 P H t (ρ x) i=some v
  |_=>False
 | .index t x y=>
  match ρ y with
  | .int _ i=>Qe P t (ρ x) i=some v
  |_=>False
 | .extract x n=>
  match ρ x with
  | .tup cs=>cs[n]? =some v
  |_=>False
 | .call c=>
  match c.callee with
  | .value x=>Qo P (ρ x) (c.args.toList.map ρ) H v
  | .builtin b=>Dc P b c.argTypes.toList (c.args.toList.map ρ) v∨NU P H b c.argTypes.toList (c.args.toList.map ρ) v
  |_=>False
 |_=>False
def Aa7 {P:Program}{H H':A5}{t:TypeId}{x v:V}(hl:∀id b,H id=some b→H' id=some b)(h:IY P H t x=some v):IY P H' t x=some v:=by
 unfold IY at h ⊢
 grind
def AA8 {P:Program}{o:Oper}{ρ:Operand→V}{H H':A5}{v:V}(hl:∀id b,H id=some b→H' id=some b)(h:Om P o ρ H v):Om P o ρ H' v:=by
 unfold Om at h ⊢
 cases ho:o.op<;>simp only[ho]at h ⊢ <;>first|exact h|exact h.imp (Aa7 hl) (Aa8 hl)|exact h.imp (fun h=>h) (Ad3 hl)|exact Wf hl h|skip
 ·grind[Xc]
 ·grind[Ar3]
 split at h
 ·exact h.up hl
 ·grind[Aq9]
 exact h
theorem MU {P:Program} {o:Oper} {fr:Fr} {H:A5} {v:V} (h:Om P o (ev fr) H v) {K:V→A5→Prop} (k:K v H):J2 P o fr H K:=by
 unfold Om at h
 split at h
 ·grind[Xf]
 ·grind[Se]
 ·grind[Ax9]
 ·grind[Ma]
 ·grind[An8]
 ·grind[Sd]
 ·grind[An3]
 ·grind[Ay5,An1]
 ·grind[VG]
 ·grind[An9]
 ·grind[Ax8]
 ·grind[Xl,An7]
 ·grind[ZF]
 ·grind[OF]
 ·grind[VJ]
 ·grind[Am9,Xd]
 ·grind[TW]
 ·grind[An5]
 ·grind[Ay2,J2.le,TV]
 ·grind[An4]
 ·grind[Xk]
 ·rename_i c ho
  split at h
  ·rename_i x hc;obtain⟨ce,args,ts⟩:=c
   simp only at hc h
   subst hc;exact Xm ho ((h H fun _ _ e=>e).mono fun x H' ⟨e1,e2⟩=>by rw[e1,e2];exact k)
  ·grind[MJ,SQ]
  grind
 grind
def Be9 (K:V→A5→Prop)(x:V)(H:A5):Prop:=∃y H2,Cp x y∧(∀id b,H2 id=some b→H id=some b)∧K y H2
def Ih (P:Program) (A:TP) (o:Oper) (ρ:Operand→V) (H:A5) (K:V→A5→Prop):Prop:=
 match o.op with
 | .alloc t=>(∃z,ID P t=some z∧z.one=true∧∀id,H id=none→∃ds,M1 z.cells ds∧K (.ref id 0) (upd H id (some (.cells ds))))∨
  ID P t=some (.sl [] .nil)∧∃sz,∀q id,H q=none→upd H q (some (.arr sz [])) id=none→K (.ref id 0) (upd (upd H q (some (.arr sz []))) id (some (.cells [.own q 0 0])))
 | .box _ x=>
  (ρ x).one=true∧if A (o.dst.getD 0)then∀id,H id=none→K (.ref id 0) (upd H id (some (.cells (ρ x).cells)))else K (.eref (ρ x).cells 0) H
 | .store t x y=>(∃z H',Cp (ρ y) z∧ND P H t (ρ x) z=some H'∧K .bad H')∨∃z H',Cp (ρ y) z∧VB P H t (ρ x) z=some H'∧K .bad H'
 | .makeSlice t l c=>QR P H K t (ρ l) (ρ c)∨QR P H (Yk K) t (ρ l) (ρ c)
 | .assign x=>K (ρ x) H∨AT6 H K (ρ x)
 | .move x=>K (ρ x) H∨AT6 H K (ρ x)
 | .buildSlice t n ps=>(∃v,Om P o ρ H v∧K v H)∨litO P H K t n (ps.toList.map fun p=>(p.1,ρ p.2))
 | .makeMap t r=>r=none∧AC3 H K
 | .mapUpdate t x y z=>MO P H K t (ρ x) (ρ y) (ρ z)
 | .insert t x y z=>MO P H K t (ρ x) (ρ y) (ρ z)
 | .range t x=>NO P H K t (ρ x)
 | .next x s=>s=false∧SH H K (ρ x)
 | .entry x=>Ob H K (ρ x)
 | .binOp op t x y _=>(∃v,Om P o ρ H v∧K v H)∨∃q e p,Ak4 op=some q∧Fd P t=some e∧Aq2 (ρ x)=some p∧ρ y= .sl [] .nil∧(p→K (.bool q) H)∧K (.bool (!q)) H
 | .call c=>
  match c.callee with
  | .value x=>Df P (ρ x) (c.args.toList.map ρ) H K
  | .builtin .append=>Hm P H K c.argTypes.toList (c.args.toList.map ρ)∨Py P H K c.argTypes.toList (c.args.toList.map ρ)∨Hm P H (Be9 K) c.argTypes.toList (c.args.toList.map ρ)
  | .builtin .copy=>YT P H K c.argTypes.toList (c.args.toList.map ρ)
  | .builtin .clear=>Tw P H K c.argTypes.toList (c.args.toList.map ρ)
  | .builtin b=>∃v,(Dc P b c.argTypes.toList (c.args.toList.map ρ) v∨NU P H b c.argTypes.toList (c.args.toList.map ρ) v)∧K v H
  |_=>False
 |_=>∃v,Om P o ρ H v∧K v H
def ZH {P:Program}{o:Oper}{fr:Fr}{H:A5}{K:V→A5→Prop}{t:TypeId}(ho:o.op= .alloc t)(hz:ID P t=some (.sl [] .nil))(sz:Nat)
 (h:∀q id,H q=none→upd H q (some (.arr sz [])) id=none→K (.ref id 0) (upd (upd H q (some (.arr sz []))) id (some (.cells [.own q 0 0])))):J2 P o fr H K:=by
 intro g w a hR hE;obtain⟨v,e,hv⟩:=Dg hz
 have hr:VR g w v (.sl [] .nil):=by rw[e];simp[Ec]
 obtain⟨g1,s1,R1,hn,hv1⟩:=Ek hR sz (.inl rfl) hr;obtain⟨g',id,hid,s,hR',hv'⟩:=Jk R1 t hv1 rfl;unfold execOp;rw[ho];simp only[Instr.alloc,C6,hv,C1,H9];exact⟨g',_,_,s1.trans s,hR',hv',h _ id hn hid⟩
def Rl.chgCells {g:Gh} {H:A5} {w:World} (h:Rl g H w) {id:Nat} {cs ds:List V} (hk:H id=some (.cells cs)) (el:cs.length=ds.length)
 (hv:∀(j:Nat) u,j<cs.length→VR g w u (cs.getD j .bad)→VR g w u (ds.getD j .bad)):Rl g (upd H id (some (.cells ds))) w:=by
 have hat:∀x,g.at (upd H id (some (.cells ds))) x=g.at H x:=by
  grind[Gh.at,upd]
 refine⟨fun x k hx=>?_,fun x x' y h1 h2=>h.inj x x' y (hat x▸h1) (hat x'▸h2),h.frz,fun x hx=>?_,h.bnd,h.glb⟩
 ·by_cases hxe:x=id
  ·subst hxe;rw[E4]at hx;cases hx
   obtain⟨b,c,T,h1,h2,h3,h4,h5,h6⟩:=h.blk x _ hk
   simp_all[CC]
  rw[D2 _ _ hxe]at hx;exact h.blk x k hx
 obtain⟨a1,a2,a3⟩:=h.nxt x hx
 have hne:x≠id:=fun e=>by simp_all
 simp_all[upd]
theorem ZG {P:Program}{o:Oper}{fr:Fr}{H:A5}{K:V→A5→Prop}{t:TypeId}{z:V}(ho:o.op= .alloc t)(hz:ID P t=some z)(h1:z.one=true)(h:∀id,H id=none→∃ds,M1 z.cells ds∧K (.ref id 0) (upd H id (some (.cells ds)))):J2 P o fr H K:=by
 intro g w a hR hE;refine(Ao0 (K:=fun x H'=>∃id,H id=none∧x= .ref id 0∧H'=upd H id (some (.cells z.cells))) ho hz h1 (fun id hid=>⟨id,hid,rfl,rfl⟩) g w a hR hE).mono fun v w' ⟨g',x,H',s,hR',hv,id,hid,e1,e2⟩=>?_;subst e1;subst e2;obtain⟨ds,hle,hK⟩:=h id hid;have:=hR'.chgCells (E4 _ _ _) (ds:=ds) hle.length fun j u _ hu=>hu.le (hle.at j)
 rw[Al]at this
 grind[N5]
def Ap7 {P:Program} {A:TP} {o:Oper} {fr:Fr} {H:A5} {K:V→A5→Prop} (h:Ih P A o (ev fr) H K):J2 P o fr H K:=by
 unfold Ih at h
 split at h
 ·rename_i t ho
  rcases h with⟨z,h1,h2,h3⟩|⟨h1,sz,h2⟩
  ·grind[ZG]
  exact ZH ho h1 sz h2
 ·grind[TX,Ma]
 ·rename_i t x y ho
  rcases h with⟨z,H',h0,h1,h2⟩|⟨z,H',h0,h1,h2⟩
  ·exact Uw ho (fun _ _ _ h=>h.le h0) h1 h2
  grind[ZD]
 ·rename_i t l c ho
  have key:∀K,QR P H K t (ev fr l) (ev fr c)→J2 P o fr H K:=by
   intro K h
   unfold QR at h
   grind[Xh]
  exact h.elim (key K) fun h=>J2.lessRow (key _ h)
 ·rename_i x ho;exact h.elim (Se ho) fun⟨h1,sz,h2⟩=>QI (.inl ho) h1 sz h2
 ·rename_i x ho;exact h.elim (Xf ho) fun⟨h1,sz,h2⟩=>QI (.inr ho) h1 sz h2
 ·rename_i t n ps ho
  rcases h with⟨v,h1,h2⟩|⟨e,sz,xs,ys,h1,h2,h3,h4,h5⟩
  ·grind[MU]
  grind[Ay0]
 ·rename_i t r ho;obtain⟨rfl,h⟩:=h;exact h.elim (Xg ho) fun h=>h.elim (VI ho) (VH ho)
 ·grind[Nr]
 ·rename_i t x y z ho;exact Nr (.inr ho) h
 ·rename_i t x ho;exact An0 ho h
 ·rename_i x s ho;obtain⟨rfl,h⟩:=h;exact Ay4 ho h
 ·rename_i x ho;exact An6 ho h
 ·grind[MU,AJ9]
 ·rename_i c ho
  split at h
  ·rename_i x hc;obtain⟨ce,args,ts⟩:=c
   grind[Xm]
  ·rename_i hc;exact h.elim (Nw ho hc) fun h=>h.elim (Uj ho hc) fun h=>J2.lessH (Nw ho hc h)
  ·rename_i hc;exact YS ho hc h
  ·rename_i hc;exact WA ho hc h
  ·rename_i b _ _ _ hc;obtain⟨v,h1,h2⟩:=h;exact h1.elim (fun h1=>MJ ho hc h1 h2) fun h1=>SQ ho hc h1 h2
  exact h.elim
 obtain⟨v,h1,h2⟩:=h;exact MU h1 h2
def Fw (r:Option Nat):Fence:={fn:=fun _=>True,depth:=none,alive:=false,round:=r}
def Ty {r:Option Nat}{P:Program}{f:FuncId}{args:Array Value}{w:World}{R:Ending→World→Prop}(h:CallsIn Fence.wide 0 P f args w R):CallsIn (Fw r) 0 P f args w R:=h
def ZP {r:Option Nat}{P:Program}{l:Nat}{f:FuncId}{tmps:Array Value}{c d:Code}{w:World}{R:Ending→World→Prop}(h:RoundIn Fence.wide 0 P l f tmps c d w R):RoundIn (Fw r) 0 P l f tmps c d w R:=h
def XS {P:Program}{A:TP}{o:Oper}{ρ:Operand→V}{H:A5}{K:V→A5→Prop}(h:Ih P A o ρ H K):∀c,o.op≠ .defer c:=by
 grind[Ih,Om]
def HM {P:Program} {r:Option Nat} {o:Oper} {a:Act} {next:Act→World→Prop} {Q:Exit→Act→World→Prop} {K:Value→World→Prop} {x:Result Next} (h:H9 P K x)
 (hk:∀v w,K v w→next (a.put o.dst v) w):o.uponIn (Fw r) 0 P a next Q x:=by
 cases x with
 |halt x w=>exact h.elim
 | ok n w=>
  cases n<;>first
   |exact h.elim
   |exact hk _ _ h
   |exact⟨fun h=>by simp[Fw]at h,(Ty h).mono fun e w' ⟨v,e1,e2⟩=>by simp_all⟩
   |exact⟨fun h=>by simp[Fw]at h,(ZP h).mono fun e w' ⟨v,e1,e2⟩=>by simp_all⟩
def GV (nt:Nat):Option Tmp→Bool
 |some d=>d<nt
 |none=>true
def BL (ops:Array Oper) (fr:Fr) (o:Oper):Option Bool:=
 match o.guard with
 |none=>some true
 | some (j,want)=>
  match(ops[j]?).bind (·.dst)with
  |some d=>
   match fr.s d with
   | .bool b=>some (b==want)
   | .tup _=>some false
   |_=>none
  |none=>none
def Jp (P:Program) (A:TP) (nt:Nat) (ops:Array Oper):List Oper→Fr→A5→(Fr→A5→Prop)→Prop
 |[],fr,H,K=>K fr H
 | o::rest,fr,H,K=>
  GV nt o.dst=true∧
   match BL ops fr o with
   |some true=>Ih P A o (ev fr) H fun v H'=>Jp P A nt ops rest (fr.put o.dst v) H' K
   |some false=>Jp P A nt ops rest (fr.put o.dst (.tup [])) H K
   |none=>False
def Vs (nt:Nat)(g:Gh)(w:World)(Q:Exit→Fr→A5→Prop)(e:Exit)(a':Act)(w':World):Prop:=
 ∃g' fr' H',W1 g w g' w'∧Rl g' H' w'∧FR nt g' w' a' fr'∧Q e fr' H'
def Au2 (g:Gh):Option Nat→Option Nat→Prop
 |none,r=>r=none
 |some id,r=>∃b,g.mu id=some b∧r=some b
def Au2.mono {g g':Gh}{w w':World}{rd r:Option Nat}(h:Au2 g rd r)(s:W1 g w g' w'):Au2 g' rd r:=by
 cases rd with
 |none=>exact h
 |some id=>obtain⟨b,h1,h2⟩:=h;exact⟨b,s.mu _ _ h1,h2⟩
def W4 (P:Program)(nt:Nat)(rd:Option Nat)(c:Code)(fr:Fr)(H:A5)(Q:Exit→Fr→A5→Prop):Prop:=
 ∀r g w a,Au2 g rd r→Rl g H w→FR nt g w a fr→c.wpIn (Fw r) 0 P (Vs nt g w Q) a w
def Vs.later {nt:Nat}{g g':Gh}{w w':World}{Q:Exit→Fr→A5→Prop}{e:Exit}{a:Act}{w2:World}(s:W1 g w g' w')(h:Vs nt g' w' Q e a w2):Vs nt g w Q e a w2:=
 let⟨g2,fr,H,s2,x⟩:=h;⟨g2,fr,H,s.trans s2,x⟩
def Vs.mono {nt:Nat}{g:Gh}{w:World}{Q Q':Exit→Fr→A5→Prop}(hq:∀e fr H,Q e fr H→Q' e fr H){e:Exit}{a:Act}{w2:World}(h:Vs nt g w Q e a w2):Vs nt g w Q' e a w2:=
 let⟨g2,fr,H,s2,a,b,c⟩:=h;⟨g2,fr,H,s2,a,b,hq _ _ _ c⟩
def W4.mono {P:Program}{nt:Nat}{rd:Option Nat}{c:Code}{fr:Fr}{H:A5}{Q Q':Exit→Fr→A5→Prop}(h:W4 P nt rd c fr H Q)(hq:∀e fr H,Q e fr H→Q' e fr H):W4 P nt rd c fr H Q':=
 fun r g w a hr hR hF=>wpIn_mono (h r g w a hr hR hF) fun _ _ _=>Vs.mono hq
section
variable {P:Program}{nt:Nat}{rd:Option Nat}{fr:Fr}{H:A5}{Q:Exit→Fr→A5→Prop}
def X9 {ops:Array Oper} {g:Gh} {w:World} {a:Act} {o:Oper} {b:Bool} (hE:ER g w a fr) (h:BL ops fr o=some b):Region.wanted o (yielded ops a.tmps)=b:=by
 unfold BL at h
 unfold Region.wanted
 split at h
 ·simp_all
 rename_i j want hg;simp only[hg]
 split at h
 ·rename_i d hd
  split at h
  ·rename_i c hc;cases h;have:=hE d
   rw[hc]at this
   have hv:=this.bool_inv
   have ht:a.tmps[d]? =some (.bool c):=by
    rw[O3]at hv
    cases hx:a.tmps[d]? with
    |none=>rw[hx]at hv;simp[undef]at hv
    |some y=>rw[hx]at hv;grind
   simp only[yielded,hd,A4,ht];cases c<;>cases want<;>rfl
  ·rename_i vs hc;cases h;have:=hE d
   rw[hc]at this
   have hv:∃us,a.tmps.getD d undef= .tuple us:=by
    generalize a.tmps.getD d undef=z at this
    cases this with
    |tup h1 h2=>simp_all
   obtain⟨us,hv⟩:=hv
   have hy:yielded ops a.tmps j=none:=by
    unfold yielded;simp only[hd,A4]
    rw[O3]at hv
    grind
   rw[hy];cases want<;>rfl
  cases h
 cases h
def Uo {A:TP}{r:Option Nat}{g:Gh}{w:World}{a:Act}{o:Oper}{K:V→A5→Prop}{next:Act→World→Prop}{Q:Exit→Act→World→Prop}(hR:Rl g H w)(hF:FR nt g w a fr)(hd:GV nt o.dst=true)
 (h:Ih P A o (ev fr) H K) (hk:∀g' w' a' v H',W1 g w g' w'→Rl g' H' w'→FR nt g' w' a' (fr.put o.dst v)→K v H'→next a' w'):o.wpIn (Fw r) 0 P a w next Q:=by
 refine⟨fun _ _=>trivial,?_⟩;rw[Ef _ _ _ (XS h)];refine HM (Ap7 h g w a hR hF.s) fun v w' ⟨g',x,H',s,hR',hv,hK⟩=>?_;refine hk g' w' _ x H' s hR' ((hF.mono s).put (fun t ht=>?_) hv) hK
 rw[ht]at hd;grind[GV]
def SE {A:TP} {ops:Array Oper} {r:Option Nat} {K:Fr→A5→Prop} {Q:Exit→Act→World→Prop} {g0:Gh} {w0:World} (hQ:∀g w a fr H,W1 g0 w0 g w→Rl g H w→FR nt g w a fr→K fr H→Q .normal a w):
 ∀(m i:Nat) (fr:Fr) (H:A5),i+m=ops.size→Jp P A nt ops (ops.toList.drop i) fr H K→∀g w a,W1 g0 w0 g w→Rl g H w→FR nt g w a fr→wpOpsIn (Fw r) 0 P ops Q (List.range' i m) a w
 |0,i,fr,H,hi,h,g,w,a,s,hR,hF=>by
  have:ops.toList.drop i=[]:=by simp;omega
  rw[this]at h
  exact hQ g w a fr H s hR hF h
 | m+1,i,fr,H,hi,h,g,w,a,s,hR,hF=>by
  have hlt:i<ops.toList.length:=by simp;omega
  have hlt':i<ops.size:=by omega
  rw[S3 hlt]at h
  simp only[Jp,LM]at h
  obtain⟨hd,h⟩:=h;simp only[JZ,wpOpsIn,CK hlt'];have ih:=SE (A:=A) (ops:=ops) (r:=r) (K:=K) hQ m (i+1)
  split at h
  ·rename_i hg;rw[A2 (X9 hF.s hg)];exact Uo hR hF hd h fun g' w' a' v H' s' hR' hF' hK=>ih _ _ (by omega) hK g' w' a' (s.trans s') hR' hF'
  ·rename_i hg;rw[A1 (by rw[X9 hF.s hg];simp)];refine⟨fun _ _=>trivial,ih _ _ (by omega) h g w _ s hR (hF.put (fun t ht=>?_) (VR.und _ _))⟩
   rw[ht]at hd;grind[GV]
  grind
def W4.region {A:TP} {id:Nat} {ops:Array Oper} (h:Jp P A nt ops ops.toList fr H (Q .normal)):W4 P nt rd (.region id ops false) fr H Q:=by
 intro r g w a hr hR hF;refine wpIn_region ?_
 have:=SE (P:=P) (A:=A) (nt:=nt) (ops:=ops) (r:=r) (K:=Q .normal) (Q:=Vs nt g w Q) (g0:=g) (w0:=w) (fun g' w' a' fr' H' s hR hF hK=>⟨g',fr',H',s,hR,hF,hK⟩) ops.size 0 fr H (by omega)
  (by grind) g w a (W1.refl _ _) hR hF
 rwa[←Kb]at this
def W4.skip (h:Q .normal fr H):W4 P nt rd .skip fr H Q:=fun r g w a hr hR hF=>wpIn_skip ⟨g,fr,H,W1.refl _ _,hR,hF,h⟩
def W4.ret (h:Q .ret fr H):W4 P nt rd .ret fr H Q:=fun r g w a hr hR hF=>wpIn_ret ⟨g,fr,H,W1.refl _ _,hR,hF,h⟩
def W4.exit {id:Nat}(h:Q (.exit id) fr H):W4 P nt rd (.exit id) fr H Q:=fun r g w a hr hR hF=>wpIn_exit ⟨g,fr,H,W1.refl _ _,hR,hF,h⟩
def W4.seq {x y:Code}(h:W4 P nt rd x fr H fun e fr' H'=>match e with| .normal=>W4 P nt rd y fr' H' Q|e=>Q e fr' H'):W4 P nt rd (.seq x y) fr H Q:=by
 intro r g w a hr hR hF;refine wpIn_seq (wpIn_mono (h r g w a hr hR hF) fun e a' w' ⟨g',fr',H',s,hR',hF',hq⟩=>?_)
 cases e with
 |normal=>exact wpIn_mono (hq r g' w' a' (hr.mono s) hR' hF') fun _ _ _=>Vs.later s
 |_=>exact⟨g',fr',H',s,hR',hF',hq⟩
def W4.cond {c:Operand}{x y:Code}{t:Bool}(hc:ev fr c= .bool t)(h1:t=true→W4 P nt rd x fr H Q)(h2:t=false→W4 P nt rd y fr H Q):W4 P nt rd (.cond c x y) fr H Q:=by
 intro r g w a hr hR hF;have hv:=E8 hR hF.s c
 rw[hc]at hv
 refine wpIn_cond hv.bool_inv ?_;cases t
 ·exact h2 rfl r g w a hr hR hF
 exact h1 rfl r g w a hr hR hF
def W4.block {id:Nat} {c:Code} (h:W4 P nt rd c fr H fun e fr' H'=>match e with| .exit id'=>if id'=id then Q .normal fr' H' else Q (.exit id') fr' H'|e=>Q e fr' H'):W4 P nt rd (.block id c) fr H Q:=by
 intro r g w a hr hR hF;refine wpIn_block (wpIn_mono (h r g w a hr hR hF) fun e a' w' ⟨g',fr',H',s,hR',hF',hq⟩=>?_)
 cases e with
 |exit id'=>
  simp only[Exit.inBlock]
  grind[Vs]
 |_=>exact⟨g',fr',H',s,hR',hF',hq⟩
theorem W4.loopN {c:Code} (I:Nat→Fr→A5→Prop) (n0:Nat) (h0:I n0 fr H)
 (round:∀n fr H,I n fr H→W4 P nt rd c fr H fun e fr' H'=>match e with| .normal=>∃n',n'<n∧I n' fr' H'|e=>Q e fr' H'):W4 P nt rd (.loop c) fr H Q:=by
 intro r g w a hr hR hF;intro b k cs hro hb hrm
 have key:∀n fr H,I n fr H→∀g' w' a,W1 g w g' w'→Rl g' H w'→FR nt g' w' a fr→
  ∃e a' w2,Vs nt g w Q e a' w2∧ArrivesIn (Machine.fenced P (Fw r)) P (lone (b.atR a (.code c:: .inLoop c::k)) cs w') b k cs e a' w2:=by
  intro n
  induction n using Nat.strongRecOn with
  | _ n ih=>
   intro fr H hI g' w' a s hR hF;obtain⟨e,a₁,w₁,⟨g1,fr1,H1,s1,hR1,hF1,hq⟩,harr⟩:=round n fr H hI r g' w' a (hr.mono s) hR hF b (.inLoop c::k) cs hro hb hrm
   cases e with
   |normal=>
    obtain⟨n',hlt,hI₁⟩:=hq;obtain⟨e₂,a₂,w₂,hq₂,harr₂⟩:=ih n' hlt fr1 H1 hI₁ g1 w₁ a₁ (s.trans s1) hR1 hF1;exact⟨e₂,a₂,w₂,hq₂,.of_steps (StepsIn.trans harr (.one (fenced_calm hb hrm rfl) stepR_inLoop)) harr₂⟩
   |exit id=>exact⟨_,a₁,w₁,⟨g1,fr1,H1,s.trans s1,hR1,hF1,hq⟩,.pass (x:=.inLoop c) rfl (fun _ _=>.inl (by simp)) harr⟩
   |goto l=>exact⟨_,a₁,w₁,⟨g1,fr1,H1,s.trans s1,hR1,hF1,hq⟩,.pass (x:=.inLoop c) rfl (fun _ _=>.inl (by simp)) harr⟩
   |ret=>exact⟨_,a₁,w₁,⟨g1,fr1,H1,s.trans s1,hR1,hF1,hq⟩,.pass (x:=.inLoop c) rfl (fun _ _=>.inl (by simp)) harr⟩
   |panic ch=>exact⟨_,a₁,w₁,⟨g1,fr1,H1,s.trans s1,hR1,hF1,hq⟩,.pass (x:=.inLoop c) rfl (fun _ _=>.inl (by simp)) harr⟩
   |outgrown=>exact⟨_,a₁,w₁,⟨g1,fr1,H1,s.trans s1,hR1,hF1,hq⟩,.pass (x:=.inLoop c) rfl (fun _ _=>.inl (by simp)) harr⟩
 obtain⟨e,a',w',hq,harr⟩:=key _ fr H h0 g w a (W1.refl _ _) hR hF;exact⟨e,a',w',hq,.of_steps (.one (fenced_calm hb hrm rfl) stepR_loop) harr⟩
def W4.loop {c:Code} (I:Fr→A5→Prop) (μ:Fr→A5→Nat) (h0:I fr H)
 (round:∀fr H,I fr H→W4 P nt rd c fr H fun e fr' H'=>match e with| .normal=>I fr' H'∧μ fr' H'<μ fr H|e=>Q e fr' H'):W4 P nt rd (.loop c) fr H Q:=
 W4.loopN (fun n fr H=>I fr H∧μ fr H=n) _ ⟨h0,rfl⟩ fun n fr H ⟨hI,hn⟩=>(round fr H hI).mono fun e fr' H' hq=>by
  grind
def W4.less {c:Code}{fr':Fr}{H':A5}(h:W4 P nt rd c fr' H' Q)(hs:∀t,Wk (fr.s t) (fr'.s t))(hd:fr'.df=fr.df)(hl:∀id b,H' id=some b→H id=some b):W4 P nt rd c fr H Q:=by
 intro r g w a hr hR hF;refine h r g w a hr (hR.less hl) ⟨hF.size,fun t=>hs t _ _ _ (hF.s t),?_⟩;rw[hd];exact hF.df
def W4.freeze {c:Code} {t id off:Nat} {cs:List V} (ht:fr.s t= .ref id off) (hk:H id=some (.cells cs)) (h:W4 P nt rd c (fr.put (some t) (.eref cs off)) (upd H id none) Q):W4 P nt rd c fr H Q:=by
 intro r g w a hr hR hF;obtain⟨g',s,hR',hv⟩:=hR.freeze hk;refine wpIn_mono (h r g' w a (hr.mono s) hR' ?_) fun _ _ _=>Vs.later s;have hF':=hF.mono s;refine⟨hF'.size,fun x=>?_,hF'.df⟩;simp only[Fr.put]
 split
 ·rename_i e;subst e;have:=hF.s x
  rw[ht]at this
  simp_all
 exact hF'.s x
end
def Cv (P:Program) (fr:Fr) (H:A5):List ResultVar→Option (List V)
 |[]=>some []
 | .tmp t::r=>(Cv P fr H r).map (fr.s t:: ·)
 | .cell a t::r=>
  match IY P H t (fr.s a),Cv P fr H r with
  |some v,some l=>some (v::l)
  |_,_=>none
def QO:List V→V
 |[x]=>x
 |l=>.tup l
def AP5 (H:A5)(df:List Nat):Prop:=df.Nodup∧∀id∈df,H id=some (.obj (.deferred (some [])))
def clear (H:A5)(df:List Nat):A5:=fun x=>if x∈df then none else H x
section
variable {P:Program}
def AC7 {g:Gh} {w:World} {H:A5} (hR:Rl g H w) {t:TypeId} {v:Value} {X x:V} (hv:VR g w v X) (hl:IY P H t X=some x):
 ∃b q u,v= .pointer (some ⟨b,q,none⟩)∧(loadVar t ⟨b,q,none⟩).run P w= .ok u w∧VR g w u x:=by
 unfold IY at hl
 split at hl
 ·rename_i ag sz cs off ha hs
  cases hv with
  |eref vs hf hw h1 hvv=>
   rename_i b q;obtain⟨u,hu,hr⟩:=HP (P:=P) (g:=g) (w:=w) (b:=b) (q:=q) (cs:=cs) (fun j hj=>⟨vs j,hw j hj,h1 j hj,hvv j hj⟩) ha hs hl
   grind
 ·rename_i ag sz id off ha hs
  cases hv with
  | ref hm=>
   rename_i b
   split at hl
   ·rename_i cs hk;obtain⟨u,hu,hr⟩:=HP (P:=P) (Rc hR hk hm) ha hs hl
    rw[L8]at hu
    grind
   cases hl
 cases hl
def Mf {nt:Nat} {g:Gh} {w:World} {H:A5} {a:Act} {fr:Fr} (hR:Rl g H w) (hE:ER g w a fr):∀(rs:List ResultVar) (l:List V),Cv P fr H rs=some l→
 ∃vs:List Value,(rs.mapM (m:=Sem) fun| .tmp t=>pure (a.tmps.getD t undef)| .cell x t=>do loadVar t (←asAddr (a.tmps.getD x undef))).run P w= .ok vs w∧vs.length=l.length∧
  ∀i,i<l.length→VR g w (vs.getD i undef) (l.getD i .bad)
 |[],l,h=>by simp_all[Cv]
 | .tmp t::r,l,h=>by
  simp only[Cv]at h
  cases hr:Cv P fr H r with
  |none=>grind
  |some l'=>
   simp only[hr,K4,E6]at h
   subst h;obtain⟨vs,h1,h2,h3⟩:=Mf (nt:=nt) hR hE r l' hr;refine⟨a.tmps.getD t undef::vs,?_,by simp[h2],fun i hi=>?_⟩
   ·simp_all
   cases i with
   |zero=>exact hE t
   |succ i=>simp_all
 | .cell x t::r,l,h=>by
  simp only[Cv]at h
  split at h
  ·rename_i v l' hv hr;cases h;obtain⟨vs,h1,h2,h3⟩:=Mf (nt:=nt) hR hE r l' hr;obtain⟨b,q,u,e1,e2,e3⟩:=AC7 hR (hE x) hv;refine⟨u::vs,?_,by simp[h2],fun i hi=>?_⟩
   ·have ea:(asAddr (.pointer (some ⟨b,q,none⟩))).run P w= .ok ⟨b,q,none⟩ w:=rfl
    simp_all
   grind
  cases h
def Xw {nt:Nat} {g:Gh} {w:World} {H:A5} {a:Act} {fr:Fr} {fn:Func} (hR:Rl g H w) (hE:ER g w a fr) {l:List V} (h:Cv P fr H fn.results.toList=some l):
 ∃v,(results fn a.tmps).run P w= .ok v w∧VR g w v (QO l):=by
 obtain⟨vs,h1,h2,h3⟩:=Mf (nt:=nt) hR hE _ _ h
 have hm:(results fn a.tmps).run P w= .ok (if h:vs.toArray.size=1 then vs.toArray[0]else .tuple vs.toArray) w:=by
  unfold results;rw[Array.mapM_eq_mapM_toList];simp only[C6,Sem.run_map]
  erw [h1]
  rfl
 refine⟨_,hm,?_⟩
 match l,vs,h2,h3 with
 |[x],[v],_,h3=>simp_all[QO]
 |[],[],_,_=>exact .tup rfl fun i hi=>by simp at hi
 |x::y::l,u::v::vs,h2,h3=>
  simp only[Hv,U0,QO];rw[dif_neg (by omega)];refine .tup (by omega) fun i hi=>?_;have:=h3 i hi
  simp_all
def UO {nt:Nat} {fn:Func} {a:Act} {R:Ending→World→Prop} {g:Gh} {fr:Fr} {l:List V}:∀(df:List Nat) (bs:List Nat) (H:A5) (w:World),Rl g H w→ER g w a fr→bs.length=df.length→
 (∀i,i<bs.length→g.mu (df.getD i 0)=some (bs.getD i 0))→AP5 H df→Cv P fr (clear H df) fn.results.toList=some l→
 (∀w' v,W1 g w g w'→Rl g (clear H df) w'→VR g w' v (QO l)→R (.returned v) w')→
 LeavesInM Fence.wide 0 P fn a.tmps R (bs.map fun b=>{target:=.collected b,args:= #[]}) .returning w
 |[],[],H,w,hR,hE,_,_,_,hl,hr=>by
  have hcl:clear H []=H:=by funext x;simp[clear]
  rw[hcl]at hl hr
  obtain⟨v,h1,h2⟩:=Xw (nt:=nt) hR hE hl;exact⟨v,h1,hr w v (W1.refl _ _) hR h2⟩
 | id::df,b::bs,H,w,hR,hE,hlen,hmu,hdf,hl,hr=>by
  have hb:g.mu id=some b:=hmu 0 (by simp);have hk:=hdf.2 id (by simp);have hnd:=List.nodup_cons.1 hdf.1;obtain⟨s,hR'⟩:=hR.putObj (o':=.deferred none) hk hb rfl;obtain⟨b',h1,h2,h3,h4⟩:=hR.blk id _ hk
  rw[hb]at h1;cases h1
  refine⟨by simp,.inl ⟨b,w.putObj b (.deferred none),rfl,run_takeDeferred h3,?_⟩⟩
  have hlt:∀id' b',(upd H id none) id'=some b'→(upd H id (some (.obj (.deferred none)))) id'=some b':=by
   simp_all[upd]
  have hcl:clear (upd H id none) df=clear H (id::df):=by
   funext x
   grind[clear,upd]
  refine UO (nt:=nt) df bs (upd H id none) (w.putObj b (.deferred none)) (hR'.less hlt) (hE.mono s) (by simp_all) (fun i hi=>?_) ⟨hnd.2,fun id' hi'=>?_⟩ (by rw[hcl];exact hl) fun w' v s' hR2 hv=>?_
  ·have:=hmu (i+1) (by grind)
   simp_all
  ·have hne:id'≠id:=fun e=>by simp_all
   rw[D2 _ _ hne];exact hdf.2 id' (by simp[hi'])
  rw[hcl]at hR2
  exact hr w' v (s.trans s') hR2 hv
 |[],_::_,_,_,_,_,h,_,_,_,_=>by simp at h
 |_::_,[],_,_,_,_,h,_,_,_,_=>by simp at h
def Ret (P:Program)(fn:Func)(K:V→A5→Prop)(e:Exit)(fr:Fr)(H:A5):Prop:=
 (e= .normal∨e= .ret)∧AP5 H fr.df∧∃l,Cv P fr (clear H fr.df) fn.results.toList=some l∧K (QO l) (clear H fr.df)
def entry (args:List V):Fr:=⟨fun t=>args.getD t .bad,[]⟩
def Ui {f:FuncId} {fn:Func} {c:Code} {args:List V} {H:A5} {K:V→A5→Prop} (hf:P.funcs[f]? =some fn) (hb:fn.body=some c) (hcall:∀vals w,(callFunc f vals).run P w= .ok (.enter f vals) w)
 (hn:args.length≤fn.ntmps) (h:W4 P fn.ntmps none c (entry args) H (Ret P fn K)):J5 P f args H K:=by
 intro g w vals hR hA;rw[hcall]
 show CallsIn Fence.wide 0 P f vals w _
 refine callsIn_of_wp_marks hf hb trivial ?_
 have hF:FR fn.ntmps g w {tmps:=vals++Array.replicate (fn.ntmps-vals.size) undef,defers:=[]} (entry args):=by
  refine⟨by have:=hA.1;simp;omega,fun t=>?_,⟨[],rfl,fun i hi=>by simp at hi,rfl⟩⟩
  by_cases ht:t<args.length
  ·have e:(vals++Array.replicate (fn.ntmps-vals.size) undef).getD t undef=vals.getD t undef:=by
    simp only[O3,HC,hA.1,A2 ht]
   grind[entry,Args]
  have:(entry args).s t= .bad:=by simp_all[entry]
  rw[this];exact .bad _
 refine wpIn_mono (h none g w _ rfl hR hF) fun e a' w' ⟨g',fr',H',s,hR',hF',he,hdf,l,hl,hK⟩=>?_;obtain⟨bs,k1,k2,k3⟩:=hF'.df;have key:=UO (P:=P) (nt:=fn.ntmps) (fn:=fn) (a:=a') (R:=fun e w'=>∃v,e= .returned v∧N5 g w K v w') fr'.df bs H' w' hR' hF'.s k1 k2 hdf hl fun w2 v s2 hR2 hv=>⟨v,rfl,g',_,_,s.trans s2,hR2,hv,hK⟩
 rw[←k3]at key
 rcases he with rfl|rfl
 ·exact key
 exact key
end
def AO3:Op→Bool
 | .alloc _=>true
 |_=>false
def OZ:Op→Bool
 | .store _ _ _=>true
 |_=>false
def ET (o:Oper)(j:Nat):Bool:=o.after.any fun e=>e.on==j&&Region.binds .any e
def BO (o:Oper)(i:Nat):Bool:=o.after.all fun e=> !Region.binds .any e||e.on<i
def My (ops:Array Oper)(x y:Oper):Bool:=x.apart ops y&& !(OZ x.op&&OZ y.op)
def KZ (ops:Array Oper):Nat→Nat→Nat→Bool
 |0,i,j=>ET (ops.getD i default) j
 |n+1,i,j=>ET (ops.getD i default) j||(ops.getD i default).after.any fun e=>Region.binds .any e&&(Nat.blt j e.on&&KZ ops n e.on j)
def PT:Nat:=20
def Tt (ops:Array Oper) (k:Nat):Bool:=
 k ≤ops.size&&(List.range ops.size).all fun i=>
  BO (ops.getD i default) i&&
   (List.range i).all fun j=>(i<k&&My ops (ops.getD j default) (ops.getD i default))||KZ ops PT i j
section
variable {P:Program}{nt:Nat}{ops:Array Oper}{H0:A5}
def Y8 {α β:Type}{f g:α→β}:∀{l:List α},(∀x∈l,f x=g x)→l.map f=l.map g
 |[],_=>rfl
 |x::l,h=>by rw[E9,E9,h x (by simp),Y8 fun y hy=>h y (by simp[hy])]
def Jo {α β:Type}{f g:α→β}:∀{l:Option α},(∀x∈l,f x=g x)→l.map f=l.map g
 |none,_=>rfl
 |some x,h=>by rw[K4,K4,h x rfl]
theorem PY {o:Oper} {ρ ρ':Operand→V} {H:A5} {v:V} (hρ:∀x∈o.op.operands,ρ x=ρ' x) (h:Om P o ρ H v):Om P o ρ' H v:=by
 unfold Om at h ⊢
 cases ho:o.op<;>simp only[ho]at h ⊢ hρ<;>first
  |exact h.elim
  | (simp only[Op.operands,Gq,Gi,LA,or_false,forall_eq_or_imp,forall_eq]at hρ
     first
      |(rw[←hρ];exact h)
      |(rw[←hρ.1,←hρ.2];exact h)
      |(rw[←hρ.1,←hρ.2.1,←hρ.2.2];exact h))
  |skip
 ·
  rename_i t ps;rw[←Y8 (l:=ps.toList) (f:=fun p=>(p.1,ρ p.2)) (g:=fun p=>(p.1,ρ' p.2)) fun p hp=>by rw[hρ p.2 (by simp only[Op.operands,Gq,Ee];grind)]];exact h
 ·rename_i t n ps;rw[←Y8 (l:=ps.toList) (f:=fun p=>(p.1,ρ p.2)) (g:=fun p=>(p.1,ρ' p.2)) fun p hp=>by rw[hρ p.2 (by simp only[Op.operands,Gq,Ee];grind)]];exact h
 ·rename_i fn fs cs
  rw[←Y8 (l:=fs.toList) (f:=ρ) (g:=ρ') fun p hp=>hρ p (by simp only[Op.operands,It];simp_all),
   ←Y8 (l:=cs.toList) (f:=ρ) (g:=ρ') fun p hp=>hρ p (by simp only[Op.operands,It];simp_all)]
  exact h
 ·rename_i t x lo hi mx
  rw[←hρ x (by simp[Op.operands]),←Jo (l:=lo) (f:=ρ) (g:=ρ') fun p hp=>hρ p (by simp[Op.operands,Option.mem_def.1 hp]),
   ←Jo (l:=hi) (f:=ρ) (g:=ρ') fun p hp=>hρ p (by simp[Op.operands,Option.mem_def.1 hp]),←Jo (l:=mx) (f:=ρ) (g:=ρ') fun p hp=>hρ p (by simp[Op.operands,Option.mem_def.1 hp])]
  exact h
 rename_i c;have hargs:c.args.toList.map ρ=c.args.toList.map ρ':=Y8 fun p hp=>hρ p (by simp only[Op.operands,Call.operands,It];simp_all);rw[←hargs]
 cases hc:c.callee<;>simp only[hc]at h ⊢
 ·rename_i f;rw[←hρ f (by simp[Op.operands,Call.operands,hc])];exact h
 exact h
def Ac2 {fr:Fr} {d:Option Tmp} {v:V} {x:Operand} (h:∀t,d=some t→x≠ .tmp t):ev (fr.put d v) x=ev fr x:=by
 cases d with
 |none=>rfl
 | some d=>
  cases x with
  |tmp t=>
   have hne:t≠d:=fun e=>h d rfl (by rw[e])
   grind[ev,Fr.put]
  |_=>rfl
def Mt {fr:Fr}{d:Option Tmp}{v:V}{y:Oper}(h:∀t,d=some t→t∉y.looksAt ops):∀x∈y.op.operands,ev (fr.put d v) x=ev fr x:=by
 intro x hx;refine Ac2 fun t ht e=>h t ht ?_;subst e;exact LL _ (List.mem_filterMap.2 ⟨.tmp t,by grind,rfl⟩)
def QS {fr:Fr} {d:Option Tmp} {v:V} {y:Oper} (h:∀t,d=some t→t∉y.looksAt ops):BL ops (fr.put d v) y=BL ops fr y:=by
 unfold BL
 cases hg:y.guard with
 |none=>rfl
 | some p=>
  obtain⟨j,want⟩:=p
  dsimp only
  cases hd:(ops[j]?).bind (·.dst)with
  |none=>rfl
  | some t=>
   have hne:∀d',d=some d'→t≠d':=by
    intro d' e1 e2;subst e2;refine h t e1 (List.mem_append_right _ ?_)
    grind
   cases d with
   |none=>rfl
   |some d=>
    have:=hne d rfl
    grind[Fr.put]
def XI {fr:Fr} {d e:Option Tmp} {v u:V} (h:∀t,d=some t→e≠some t):(fr.put d v).put e u=(fr.put e u).put d v:=by
 cases d with
 |none=>rfl
 | some d=>
  cases e with
  |none=>rfl
  |some e=>
   have hne:d≠e:=fun x=>h d rfl (by rw[x]);simp only[Fr.put,Fr.mk.injEq,Q0]
   funext t
   grind
def RO (H:A5){a b:Nat}(x y:Option Ds)(h:a≠b):upd (upd H a x) b y=upd (upd H b y) a x:=by
 funext t
 grind[upd]
end
inductive Pk where
 |inl (d:Nat)
 |inr (n:Nat)
 |tk (d:Nat)
 |ex
deriving DecidableEq
def Pk.var:Pk→Bool
 | .tk _=>false
 | .ex=>false
 |_=>true
abbrev Pv:=Pk→Option (List V)
def Q5 (pv:Pv)(d:Pk)(cs:List V):Pv:=fun x=>if x=d then some cs else pv x
def T7 (pv:Pv):Option Tmp→Prop
 |some d=>pv (.inl d)=none∧pv (.tk d)=none
 |none=>True
def W2 (pv:Pv):Option Pk→Pv
 |some d=>fun x=>if x=d then none else pv x
 |none=>pv
def Sx {pv:Pv}{s:Option Pk}{x:Pk}(h:pv x=none):W2 pv s x=none:=by
 cases s with
 |none=>exact h
 |some d=>simp_all[W2]
theorem CW {pv:Pv} {s:Option Pk} {x:Pk} {c:List V} (h:W2 pv s x=some c):pv x=some c∧∀d,s=some d→x≠d:=by
 cases s with
 |none=>simp_all[W2]
 |some d=>
  simp_all[W2]
theorem S8 {pv:Pv}{s:Option Pk}{x:Pk}(h:∀d,s=some d→x≠d):W2 pv s x=pv x:=by
 cases s with
 |none=>rfl
 |some d=>simp_all[W2]
def Aw {pv:Pv} {d:Pk} {cs:List V} {D:Option Tmp} (h:T7 (Q5 pv d cs) D):T7 pv D:=by
 cases D with
 |none=>trivial
 |some e=>
  grind[T7,Q5]
theorem Z2 {pv:Pv} {d:Pk} {cs:List V} {D:Option Tmp} (h:T7 pv D) (hn:∀e,D=some e→d≠ .inl e∧d≠ .tk e):T7 (Q5 pv d cs) D:=by
 cases D with
 |none=>trivial
 |some e=>
  have h1:(Pk.inl e:Pk)≠d:=fun x=>(hn e rfl).1 x.symm;have h2:(Pk.tk e:Pk)≠d:=fun x=>(hn e rfl).2 x.symm
  grind[T7,Q5]
theorem Jc {pv:Pv}{s:Option Pk}{D:Option Tmp}(h:T7 pv D):T7 (W2 pv s) D:=by
 cases D with
 |none=>trivial
 |some e=>exact⟨Sx h.1,Sx h.2⟩
def Uf {pv:Pv} {s:Option Pk} {D:Option Tmp} (h:T7 (W2 pv s) D) (hn:∀e k,D=some e→s=some k→k≠ .inl e∧k≠ .tk e):T7 pv D:=by
 cases D with
 |none=>trivial
 |some e=>
  refine⟨?_,?_⟩
  ·have:=h.1;rwa[S8 fun k hk x=>(hn e k rfl hk).1 x.symm]at this
  have:=h.2;rwa[S8 fun k hk x=>(hn e k rfl hk).2 x.symm]at this
def PE (fr:Fr)(pv:Pv)(d:Nat)(k:Pk)(off:Nat)(cs:List V):Prop:=
 (k= .inl d∧off=0∧pv (.inl d)=some cs)∨∃id,k= .inr id∧fr.s d= .ref id off∧pv (.inl d)=none∧pv (.inr id)=some cs
theorem PE.at {fr:Fr}{pv:Pv}{d off:Nat}{k:Pk}{cs:List V}(h:PE fr pv d k off cs):pv k=some cs:=by
 rcases h with⟨rfl,_,h⟩|⟨id,rfl,_,_,h⟩<;>exact h
theorem PE.put {fr:Fr} {pv:Pv} {d off:Nat} {k:Pk} {cs:List V} {D:Option Tmp} {v:V} (hn:∀e,D=some e→d≠e):PE (fr.put D v) pv d k off cs↔PE fr pv d k off cs:=by
 have:(fr.put D v).s d=fr.s d:=by
  cases D with
  |none=>rfl
  |some e=>simp_all[Fr.put]
 simp_all[PE]
def PE.set {fr:Fr}{pv:Pv}{d off:Nat}{k:Pk}{cs:List V}{e:Nat}{c:List V}(hn:d≠e):PE fr (Q5 pv (.inl e) c) d k off cs↔PE fr pv d k off cs:=by
 grind[PE,Q5]
section
variable {P:Program}{nt:Nat}{ops:Array Oper}{H0:A5}
def Rg (P:Program)(ops:Array Oper)(H0:A5)(o:Oper)(fr:Fr)(v:V):Prop:=
 match BL ops fr o with
 |some true=>Om P o (ev fr) H0 v
 |some false=>v= .tup []
 |none=>False
def AppC (P:Program)(sT yT:TypeId)(xs ys xs' ys':List V):Prop:=∃e sz by_ z,Fd P sT=some e∧(Fd P yT).isSome=true∧Ev P e=some sz∧0<sz∧Qj P e=some by_∧0<by_∧ID P e=some z∧z.one=true∧z.cells.length=sz∧
 M1 xs xs'∧M1 ys ys'∧xs'.all (fun x=>x.cells.length==sz)=true∧ys'.all (fun x=>x.cells.length==sz)=true∧(xs'.length+ys'.length)*by_≤140737488355328
def KS (pv:Pv)(sx:Operand)(tlx:E7):Option Pk→Prop
 |none=>tlx= .nil∨tlx= .full
 |some (.tk d)=>sx= .tmp d∧tlx= .ro∧(pv (.tk d)).isSome=true
 |some .ex=>pv .ex=some [.sl [] tlx]
 |some _=>False
def KS.key {pv:Pv}{sx:Operand}{tlx:E7}{src:Option Pk}(h:KS pv sx tlx src):∀k,src=some k→(∃d,k= .tk d)∨k= .ex:=by
 intro k hk;subst hk
 cases k with
 |inl d=>exact h.elim
 |inr d=>exact h.elim
 |tk d=>simp_all
 |ex=>grind
def KS.ninl {pv:Pv}{sx:Operand}{tlx:E7}{src:Option Pk}(h:KS pv sx tlx src)(e:Nat):∀k,src=some k→Pk.inl e≠k:=by
 grind[KS]
def PApp (P:Program)(o:Oper)(fr:Fr)(pv:Pv)(src:Option Pk)(u:V):Prop:=
 o.guard=none∧∃sx sy sT yT xs tlx ys tly xs' ys',o.op= .call {callee:=.builtin .append,args:= #[sx,sy],argTypes:= #[sT,yT]}∧ev fr sx= .sl xs tlx∧ev fr sy= .sl ys tly∧KS pv sx tlx src∧AppC P sT yT xs ys xs' ys'∧u= .sl (xs'++ys') .ro
def Eff (P:Program)(ops:Array Oper)(H0:A5)(o:Oper)(fr:Fr)(pv:Pv)(u:V)(pv':Pv):Prop:=
 (AO3 o.op=false∧OZ o.op=false∧Rg P ops H0 o fr u∧pv'=pv)∨
 (∃t z d,o.op= .alloc t∧o.guard=none∧o.dst=some d∧ID P t=some z∧z.one=true∧u= .bad∧pv'=Q5 pv (.inl d) z.cells)∨
 (∃t d y k off cs,o.op= .store t (.tmp d) y∧o.guard=none∧PE fr pv d k off cs∧(ev fr y).one=true∧Ev P t=some (ev fr y).cells.length∧off+(ev fr y).cells.length≤cs.length∧u= .bad∧pv'=Q5 pv k (V4 cs off (ev fr y).cells))∨
 (∃d src,o.dst=some d∧PApp P o fr pv src u∧pv'=Q5 (W2 pv src) (.tk d) [])
def MF (P:Program)(nt:Nat)(ops:Array Oper)(H0:A5)(o:Oper)(fr:Fr)(pv:Pv)(K:Fr→Pv→Prop):Prop:=
 (GV nt o.dst=true∧T7 pv o.dst)∧∃u pv',Eff P ops H0 o fr pv u pv'∧K (fr.put o.dst u) pv'
def JX (P:Program)(nt:Nat)(ops:Array Oper)(H0:A5):List Oper→Fr→Pv→(Fr→Pv→Prop)→Prop
 |[],fr,pv,K=>K fr pv
 |o::rest,fr,pv,K=>MF P nt ops H0 o fr pv fun fr' pv'=>JX P nt ops H0 rest fr' pv' K
def Tr {o:Oper}{fr:Fr}{pv:Pv}{K K':Fr→Pv→Prop}(h:MF P nt ops H0 o fr pv K)(hk:∀fr pv,K fr pv→K' fr pv):MF P nt ops H0 o fr pv K':=
 let⟨h1,u,pv',h2,h3⟩:=h;⟨h1,u,pv',h2,hk _ _ h3⟩
def Vq {o:Oper}{fr:Fr}{d:Option Tmp}{u v:V}(hl:∀t,d=some t→t∉o.looksAt ops):Rg P ops H0 o (fr.put d u) v↔Rg P ops H0 o fr v:=by
 unfold Rg;rw[QS hl];have he:=Mt (fr:=fr) (v:=u) hl
 grind[PY]
def CV (pv:Pv){a b:Pk}(x y:List V)(h:a≠b):Q5 (Q5 pv a x) b y=Q5 (Q5 pv b y) a x:=by
 funext t
 grind[Q5]
def Ho (pv:Pv) {a:Pk} (x:List V) {s:Option Pk} (h:∀d,s=some d→a≠d):W2 (Q5 pv a x) s=Q5 (W2 pv s) a x:=by
 cases s with
 |none=>rfl
 |some d=>
  funext t
  grind[W2,Q5]
def ZU (pv:Pv) (s s':Option Pk):W2 (W2 pv s) s'=W2 (W2 pv s') s:=by
 cases s with
 |none=>rfl
 | some d=>
  cases s' with
  |none=>rfl
  |some d'=>
   funext t
   grind[W2]
def Kk {o:Oper}{t:TypeId}{e:Nat}{q:Operand}(ho:o.op= .store t (.tmp e) q):e∈o.looksAt ops:=
 LL _ (List.mem_filterMap.2 ⟨.tmp e,by simp[ho,Op.operands],rfl⟩)
theorem Zf {o:Oper}{e:Nat}{sy:Operand}{ts:Array TypeId}(ho:o.op= .call {callee:=.builtin .append,args:= #[.tmp e,sy],argTypes:=ts}):e∈o.looksAt ops:=
 LL _ (List.mem_filterMap.2 ⟨.tmp e,by simp[ho,Op.operands,Call.operands],rfl⟩)
def AR7 {o:Oper}{fr:Fr}{pv pv':Pv}{d:Option Tmp}{w u:V}(hl:∀t,d=some t→t∉o.looksAt ops)(h:Eff P ops H0 o fr pv u pv'):Eff P ops H0 o (fr.put d w) pv u pv':=by
 have he:=Mt (fr:=fr) (v:=w) hl
 rcases h with⟨h1,h2,h3,h4⟩|h|⟨t,e,y,k,off,cs,ho,hg,e1,e2,e3,e4,e5,e6⟩|⟨e,src,hd,⟨hg,sx,sy,sT,yT,xs,tlx,ys,tly,xs',ys',ho,q1,q2,q3,q4,q5⟩,hp⟩
 ·exact .inl ⟨h1,h2,(Vq hl).2 h3,h4⟩
 ·grind[Eff]
 ·have hy:ev (fr.put d w) y=ev fr y:=he y (by simp[ho,Op.operands]);refine .inr (.inr (.inl ⟨t,e,y,k,off,cs,ho,hg,(PE.put fun e' he' eq=>hl e' he' (eq▸Kk ho)).2 e1,?_,?_,?_,e5,?_⟩))<;>rw[hy]<;>assumption
 refine .inr (.inr (.inr ⟨e,src,hd,⟨hg,sx,sy,sT,yT,xs,tlx,ys,tly,xs',ys',ho,?_,?_,q3,q4,q5⟩,hp⟩))
 ·rw[he sx (by simp[ho,Op.operands,Call.operands])];exact q1
 rw[he sy (by simp[ho,Op.operands,Call.operands])];exact q2
def Au4 {o:Oper} {fr:Fr} {pv pv':Pv} {d:Option Tmp} {w u:V} (hl:∀t,d=some t→t∉o.looksAt ops) (h:Eff P ops H0 o (fr.put d w) pv u pv'):Eff P ops H0 o fr pv u pv':=by
 have he:=Mt (fr:=fr) (v:=w) hl
 rcases h with⟨h1,h2,h3,h4⟩|h|⟨t,e,y,k,off,cs,ho,hg,e1,e2,e3,e4,e5,e6⟩|⟨e,src,hd,⟨hg,sx,sy,sT,yT,xs,tlx,ys,tly,xs',ys',ho,q1,q2,q3,q4,q5⟩,hp⟩
 ·exact .inl ⟨h1,h2,(Vq hl).1 h3,h4⟩
 ·simp_all[Eff]
 ·have hy:ev (fr.put d w) y=ev fr y:=he y (by simp[ho,Op.operands])
  rw[hy]at e2 e3 e4 e6
  exact .inr (.inr (.inl ⟨t,e,y,k,off,cs,ho,hg,(PE.put fun e' he' eq=>hl e' he' (eq▸Kk ho)).1 e1,e2,e3,e4,e5,e6⟩))
 refine .inr (.inr (.inr ⟨e,src,hd,⟨hg,sx,sy,sT,yT,xs,tlx,ys,tly,xs',ys',ho,?_,?_,q3,q4,q5⟩,hp⟩))
 ·rw[he sx (by simp[ho,Op.operands,Call.operands])]at q1;exact q1
 rw[he sy (by simp[ho,Op.operands,Call.operands])]at q2;exact q2
def Yw {pv:Pv}{D:Option Tmp}{d:Nat}(h:T7 pv D)(e:D=some d):pv (.inl d)=none:=by grind[T7]
def PE.key {fr:Fr}{pv:Pv}{d off:Nat}{k:Pk}{cs:List V}(h:PE fr pv d k off cs)(e:Nat):k≠ .tk e:=by
 rcases h with⟨rfl,_,_⟩|⟨id,rfl,_⟩<;>simp
def PE.keyx {fr:Fr}{pv:Pv}{d off:Nat}{k:Pk}{cs:List V}(h:PE fr pv d k off cs):k≠ .ex:=by
 rcases h with⟨rfl,_,_⟩|⟨id,rfl,_⟩<;>simp
def PE.nsrc {fr:Fr}{pv pv':Pv}{d off:Nat}{k:Pk}{cs:List V}{sx:Operand}{tlx:E7}{src:Option Pk}(h:PE fr pv d k off cs)(h':KS pv' sx tlx src):∀e,src=some e→k≠e:=by
 grind[PE,KS]
def PE.congr {fr:Fr}{pv pv':Pv}{d off:Nat}{k:Pk}{cs:List V}(h:PE fr pv d k off cs)(h1:pv' (.inl d)=pv (.inl d))(h2:pv' k=pv k):PE fr pv' d k off cs:=by
 grind[PE]
def KS.congr {pv pv':Pv} {sx:Operand} {tlx:E7} {src:Option Pk} (h:KS pv sx tlx src) (h1:∀d,src=some d→pv' d=pv d):KS pv' sx tlx src:=by
 cases src with
 |none=>exact h
 |some d=>
  cases d with
  |inl d=>exact h
  |inr d=>exact h
  |tk d=>simp_all[KS]
  |ex=>simp_all[KS]
theorem J4 {pv:Pv}{a b:Pk}{x:List V}(h:b≠a):Q5 pv a x b=pv b:=by simp[Q5,h]
def AH9 {x y:Oper} {fr:Fr} {pv pv1 pv2:Pv} {u v:V} (hi:My ops x y=true) (hx:Eff P ops H0 x fr pv u pv1) (hy:Eff P ops H0 y fr pv1 v pv2) (fx:T7 pv x.dst) (fy:T7 pv1 y.dst):
 ∃pv3,Eff P ops H0 y fr pv v pv3∧Eff P ops H0 x fr pv3 u pv2∧T7 pv y.dst∧T7 pv3 x.dst:=by
 simp only[My,M6,P1]at hi
 obtain⟨hap,hss⟩:=hi;obtain⟨a1,a2,a3⟩:=Oper.apart_spec hap
 rcases hx with⟨x1,x2,x3,rfl⟩|⟨t,z,d,ho,hg,hd,e1,e2,e3,rfl⟩|⟨t,d,p,k,off,cs,ho,hg,e1,e2,e3,e4,e5,rfl⟩|⟨d,src,hd,hP,rfl⟩
 ·
  refine⟨pv2,hy,.inl ⟨x1,x2,x3,rfl⟩,fy,?_⟩
  rcases hy with⟨_,_,_,rfl⟩|⟨t,z,d,ho,hg,hd,e1,e2,e3,rfl⟩|⟨t,d,p,k,off,cs,ho,hg,e1,e2,e3,e4,e5,rfl⟩|⟨d,src,hd,hP,rfl⟩
  ·exact fx
  ·grind[Z2]
  ·refine Z2 fx fun e he=>⟨fun x=>?_,e1.key e⟩
   have:=e1.at;rw[x,Yw fx he]at this;cases this
  grind[Z2,Jc]
 ·
  rcases hy with⟨y1,y2,y3,rfl⟩|⟨t',z',d',ho',hg',hd',e1',e2',e3',rfl⟩|⟨t',d',p',k',off',cs',ho',hg',e1',e2',e3',e4',e5',rfl⟩|⟨d',src',hd',hP',rfl⟩
  ·exact⟨pv,.inl ⟨y1,y2,y3,rfl⟩,.inr (.inl ⟨t,z,d,ho,hg,hd,e1,e2,e3,rfl⟩),Aw fy,fx⟩
  ·have hne:(Pk.inl d':Pk)≠ .inl d:=fun e=>a2 d hd (by rw[hd'];cases e;rfl)
   exact⟨_,.inr (.inl ⟨t',z',d',ho',hg',hd',e1',e2',e3',rfl⟩),.inr (.inl ⟨t,z,d,ho,hg,hd,e1,e2,e3,CV _ _ _ (Ne.symm hne)⟩),Aw fy,
    Z2 fx fun e he=>⟨fun x=>by rw[hd]at he;simp_all,by simp⟩⟩
  ·have hne:d'≠d:=fun e=>a1 d hd (e▸Kk ho')
   have hk:k'≠ .inl d:=fun e=>by
    rcases e1' with⟨q,_⟩|⟨id,q,_⟩
    ·rw[q]at e;simp_all
    simp_all
   have hT:PE fr pv d' k' off' cs':=e1'.congr (by rw[J4 fun e=>by simp_all]) (by rw[J4 hk])
   exact⟨_,.inr (.inr (.inl ⟨t',d',p',k',off',cs',ho',hg',hT,e2',e3',e4',e5',rfl⟩)),.inr (.inl ⟨t,z,d,ho,hg,hd,e1,e2,e3,CV _ _ _ (Ne.symm hk)⟩),Aw fy,
    Z2 fx fun e he=>⟨fun x=>by rw[hd]at he;simp_all,hT.key e⟩⟩
  obtain⟨hg',sx,sy,sT,yT,xs,tlx,ys,tly,xs',ys',ho',q1,q2,q3,q4,q5⟩:=hP';refine⟨_,.inr (.inr (.inr ⟨d',src',hd',⟨hg',sx,sy,sT,yT,xs,tlx,ys,tly,xs',ys',ho',q1,q2,q3.congr fun e he=>(by rw[J4 fun x=>q3.ninl d e he x.symm]),q4,q5⟩,rfl⟩)),.inr (.inl ⟨t,z,d,ho,hg,hd,e1,e2,e3,?_⟩),Aw fy,?_⟩
  ·rw[Ho _ _ (q3.ninl d),CV _ _ _ (by simp)]
  grind[Z2,Jc]
 ·
  rcases hy with⟨y1,y2,y3,rfl⟩|⟨t',z',d',ho',hg',hd',e1',e2',e3',rfl⟩|⟨t',d',p',k',off',cs',ho',_⟩|⟨d',src',hd',hP',rfl⟩
  ·exact⟨pv,.inl ⟨y1,y2,y3,rfl⟩,.inr (.inr (.inl ⟨t,d,p,k,off,cs,ho,hg,e1,e2,e3,e4,e5,rfl⟩)),Aw fy,fx⟩
  ·have hne:d≠d':=fun e=>a3 d' hd' (e▸Kk ho)
   have hk:k≠ .inl d':=fun e=>by
    rcases e1 with⟨q,_⟩|⟨id,q,_⟩
    ·rw[q]at e;simp_all
    simp_all
   have hT:PE fr (Q5 pv (.inl d') z'.cells) d k off cs:=e1.congr (by rw[J4 fun e=>by simp_all]) (by rw[J4 hk])
   exact⟨_,.inr (.inl ⟨t',z',d',ho',hg',hd',e1',e2',e3',rfl⟩),.inr (.inr (.inl ⟨t,d,p,k,off,cs,ho,hg,hT,e2,e3,e4,e5,CV _ _ _ hk⟩)),Aw fy,
    Z2 fx fun e he=>⟨fun x=>by simp_all,by simp⟩⟩
  ·grind[OZ]
  obtain⟨hg',sx,sy,sT,yT,xs,tlx,ys,tly,xs',ys',ho',q1,q2,q3,q4,q5⟩:=hP';have hk:∀e,k≠ .tk e:=e1.key;have hn:=e1.nsrc q3;have hT:PE fr (Q5 (W2 pv src') (.tk d') []) d k off cs:=e1.congr (by rw[J4 (by simp),S8 (q3.ninl d)]) (by rw[J4 (hk _),S8 hn]);refine⟨_,.inr (.inr (.inr ⟨d',src',hd',⟨hg',sx,sy,sT,yT,xs,tlx,ys,tly,xs',ys',ho',q1,q2,q3.congr fun e he=>(by rw[J4 fun x=>hn e he x.symm]),q4,q5⟩,rfl⟩)),.inr (.inr (.inl ⟨t,d,p,k,off,cs,ho,hg,hT,e2,e3,e4,e5,?_⟩)),Aw fy,?_⟩
  ·rw[Ho _ _ hn,CV _ _ _ (hk _)]
  grind[Z2,Jc]
 have hkey:∀k,src=some k→(∃e,k= .tk e)∨k= .ex:=by
  obtain⟨_,sx,sy,sT,yT,xs,tlx,ys,tly,xs',ys',ho,_,_,q3,_⟩:=hP;exact q3.key
 have hsrc:∀e,src=some (.tk e)→e∈x.looksAt ops:=fun e he=>by
  subst he;obtain⟨_,sx,sy,sT,yT,xs,tlx,ys,tly,xs',ys',ho,_,_,q3,_⟩:=hP;obtain⟨rfl,_⟩:=q3;exact Zf ho
 have fy0:T7 pv y.dst:=Uf (Aw fy) fun e k he hk=>by
  grind
 rcases hy with⟨y1,y2,y3,rfl⟩|⟨t',z',d',ho',hg',hd',e1',e2',e3',rfl⟩|⟨t',d',p',k',off',cs',ho',hg',e1',e2',e3',e4',e5',rfl⟩|⟨d',src',hd',hP',rfl⟩
 ·exact⟨pv,.inl ⟨y1,y2,y3,rfl⟩,.inr (.inr (.inr ⟨d,src,hd,hP,rfl⟩)),fy0,fx⟩
 ·obtain⟨hg,sx,sy,sT,yT,xs,tlx,ys,tly,xs',ys',ho,q1,q2,q3,q4,q5⟩:=hP;refine⟨_,.inr (.inl ⟨t',z',d',ho',hg',hd',e1',e2',e3',rfl⟩),.inr (.inr (.inr ⟨d,src,hd,⟨hg,sx,sy,sT,yT,xs,tlx,ys,tly,xs',ys',ho,q1,q2,q3.congr fun e he=>(by rw[J4 fun x=>q3.ninl d' e he x.symm]),q4,q5⟩,?_⟩)),fy0,Z2 fx fun e he=>⟨fun x=>by simp_all,by simp⟩⟩;rw[Ho _ _ (q3.ninl d'),CV _ _ _ (by simp)]
 ·obtain⟨hg,sx,sy,sT,yT,xs,tlx,ys,tly,xs',ys',ho,q1,q2,q3,q4,q5⟩:=hP;have hk:∀e,k'≠ .tk e:=e1'.key;have hn:=e1'.nsrc q3;have hT:PE fr pv d' k' off' cs':=e1'.congr (by rw[J4 (by simp),S8 (q3.ninl d')]) (by rw[J4 (hk _),S8 hn]);refine⟨_,.inr (.inr (.inl ⟨t',d',p',k',off',cs',ho',hg',hT,e2',e3',e4',e5',rfl⟩)),.inr (.inr (.inr ⟨d,src,hd,⟨hg,sx,sy,sT,yT,xs,tlx,ys,tly,xs',ys',ho,q1,q2,q3.congr fun e he=>(by rw[J4 fun x=>hn e he x.symm]),q4,q5⟩,?_⟩)),fy0,Z2 fx fun e he=>⟨fun x=>?_,hk e⟩⟩
  ·rw[Ho _ _ hn,CV _ _ _ (hk _)]
  have:=hT.at;rw[x,Yw fx he]at this;cases this
 obtain⟨hg,sx,sy,sT,yT,xs,tlx,ys,tly,xs',ys',ho,q1,q2,q3,q4,q5⟩:=hP;obtain⟨hg',sx',sy',sT',yT',xs2,tlx',ys2,tly',xs2',ys2',ho',r1,r2,r3,r4,r5⟩:=hP';have hdd:d≠d':=fun e=>a2 d hd (by rw[hd',e])
 have n1:∀k,src'=some k→k≠ .tk d:=fun k he eq=>by
  subst he;subst eq;obtain⟨rfl,_⟩:=r3
  grind[Zf]
 have n2:∀k,src=some k→k≠ .tk d':=fun k he eq=>by simp_all
 have n3:∀k,src'=some k→src≠some k:=fun k he he2=>by
  subst he;subst he2
  have hnone:Q5 (W2 pv (some k)) (.tk d) [] k=none:=by
   rw[J4 (n1 k rfl)];simp[W2]
  rcases r3.key k rfl with⟨e,rfl⟩|rfl
  ·have:=r3.2.2;rw[hnone]at this;cases this
  have:Q5 (W2 pv (some .ex)) (.tk d) [] .ex=some [.sl [] tlx']:=r3
  rw[hnone]at this;cases this
 have hs':KS pv sx' tlx' src':=r3.congr fun k he=>by
  rw[J4 (n1 k he),S8 fun c hc x=>by simp_all]
 refine⟨_,.inr (.inr (.inr ⟨d',src',hd',⟨hg',sx',sy',sT',yT',xs2,tlx',ys2,tly',xs2',ys2',ho',r1,r2,hs',r4,r5⟩,rfl⟩)),.inr (.inr (.inr ⟨d,src,hd,⟨hg,sx,sy,sT,yT,xs,tlx,ys,tly,xs',ys',ho,q1,q2,q3.congr fun k he=>?_,q4,q5⟩,?_⟩)),fy0,?_⟩
 ·rw[J4 (n2 k he),S8 fun c hc x=>by simp_all]
 ·rw[Ho _ _ fun k he x=>n1 k he x.symm,Ho _ _ fun k he x=>n2 k he x.symm,ZU pv src src',CV _ _ _ (fun x=>by simp_all)]
 grind[Z2,Jc]
def Ac6 {x y:Oper}{fr:Fr}{pv:Pv}{K:Fr→Pv→Prop}(hi:My ops x y=true)(h:MF P nt ops H0 x fr pv fun fr1 pv1=>MF P nt ops H0 y fr1 pv1 K):
 MF P nt ops H0 y fr pv fun fr1 pv1=>MF P nt ops H0 x fr1 pv1 K:=by
 have hi0:=hi
 simp only[My,M6,P1]at hi0
 obtain⟨a1,a2,a3⟩:=Oper.apart_spec hi0.1;obtain⟨⟨hd,hf⟩,u,pv1,h1,⟨hd',hf'⟩,v,pv2,h2,hK⟩:=h;obtain⟨pv3,k1,k2,k3,k4⟩:=AH9 hi h1 (Au4 a1 h2) hf hf';refine⟨⟨hd',k3⟩,v,pv3,k1,⟨hd,k4⟩,u,pv2,AR7 a3 k2,?_⟩
 rw[XI a2]at hK
 exact hK
def YM {pre post:List Oper} {o:Oper} {K:Fr→Pv→Prop} (hi:∀x∈pre,My ops x o=true):∀{fr:Fr} {pv:Pv},JX P nt ops H0 (pre++o::post) fr pv K→JX P nt ops H0 (o::(pre++post)) fr pv K:=by
 induction pre with
 |nil=>simp_all
 |cons x pre ih=>
  intro fr pv h;have h1:MF P nt ops H0 x fr pv fun fr1 pv1=>JX P nt ops H0 (o::(pre++post)) fr1 pv1 K:=Tr h fun _ _ h=>ih (fun y hy=>hi y (by simp[hy])) h;exact Ac6 (hi x (by simp)) h1
end
section
variable {P:Program}{nt:Nat}{ops:Array Oper}{H0:A5}
def VR.ref_inv {g:Gh}{w:World}{v:Value}{id off:Nat}(h:VR g w v (.ref id off)):∃b,v= .pointer (some ⟨b,off,none⟩)∧g.mu id=some b:=by
 cases h with
 |ref hm=>simp_all
def Al7 (fr:Fr)(g:Gh)(a:Act)(id:Nat):Pk→Prop
 | .inl d=>fr.s d= .bad∧∃b,g.mu id=some b∧a.tmps.getD d undef= .pointer (some ⟨b,0,none⟩)
 | .inr n=>id=n
 | .tk _=>True
 | .ex=>True
def AR1 (fr:Fr)(g:Gh)(w:World)(a:Act)(H H0:A5)(tt:Option Nat)(d:Nat):Prop:=
 ∃xs tl,fr.s d= .sl xs .ro∧VR g w (a.tmps.getD d undef) (.sl xs tl)∧((tt=none∧(tl= .nil∨tl= .full))∨∃t,tt=some t∧tl= .tok t∧H t=some .spare∧H0 t=none)
def Af2 (nt:Nat) (H0:A5) (g0:Gh) (w0:World) (fr:Fr) (pv:Pv) (g:Gh) (w:World) (a:Act):Prop:=
 ∃ (H:A5) (ids:Pk→Nat),W1 g0 w0 g w∧Rl g H w∧FR nt g w a fr∧(∀id b,H0 id=some b→H id=some b)∧
  (∀d cs,pv d=some cs→d.var=true→H (ids d)=some (.cells cs)∧H0 (ids d)=none∧Al7 fr g a (ids d) d)∧
  (∀d d' cs cs',pv d=some cs→pv d'=some cs'→d.var=true→d'.var=true→ids d=ids d'→d=d')∧
  ∃tks:Nat→Option Nat,(∀d cs,pv (.tk d)=some cs→AR1 fr g w a H H0 (tks d) d)∧
   (∀d d' cs cs' t,pv (.tk d)=some cs→pv (.tk d')=some cs'→tks d=some t→tks d'=some t→d=d')∧
   ∀cs,pv .ex=some cs→∃τ,cs=[.sl [] τ]∧((τ= .nil∨τ= .full)∨∃t,τ= .tok t∧H t=some .spare∧H0 t=none∧∀d cs',pv (.tk d)=some cs'→tks d≠some t)
def WX {a:Act} {D:Option Tmp} {v:Value} {d:Nat} (h:D≠some d):(a.put D v).tmps.getD d undef=a.tmps.getD d undef:=by
 cases D with
 |none=>rfl
 |some e=>
  have hne:e≠d:=fun x=>h (by rw[x]);simp only[Act.put,O3,Fo];rw[A1 hne]
def Nn {a:Act}{d:Nat}{v:Value}(h:d<a.tmps.size):(a.put (some d) v).tmps.getD d undef=v:=by
 simp[Act.put,Array.getD,h]
def QN {fr:Fr} {D:Option Tmp} {v:V} {d:Nat} (h:D≠some d):(fr.put D v).s d=fr.s d:=by
 cases D with
 |none=>rfl
 |some e=>
  have hne:d≠e:=fun x=>h (by rw[x])
  grind[Fr.put]
def Be1 {pv:Pv}{D:Option Tmp}{d:Nat}{cs:List V}(hf:T7 pv D)(h:pv (.inl d)=some cs):D≠some d:=by
 grind[T7]
def VT {pv:Pv}{D:Option Tmp}{d:Nat}{cs:List V}(hf:T7 pv D)(h:pv (.tk d)=some cs):D≠some d:=by
 grind[T7]
def AR1.keep {D:Option Tmp}{fr:Fr}{g g':Gh}{w w':World}{a:Act}{H H' H0:A5}{tt:Option Nat}{d:Nat}{x:V}{u:Value}(hk:AR1 fr g w a H H0 tt d)(hne:D≠some d)(s:W1 g w g' w')(hH:∀t,tt=some t→H t=some .spare→H' t=some .spare):AR1 (fr.put D x) g' w' (a.put D u) H' H0 tt d:=by
 obtain⟨xs,tl,h1,h2,h3⟩:=hk;refine⟨xs,tl,(QN hne).trans h1,by rw[WX hne];exact h2.mono s,h3.imp (fun h=>h) fun⟨t,e1,e2,e3,e4⟩=>⟨t,e1,e2,hH t e1 e3,e4⟩⟩
def Al7.keep {pv:Pv} {D:Option Tmp} {fr:Fr} {g g':Gh} {w w':World} {a:Act} {id:Nat} {k:Pk} {cs:List V} {x:V} {u:Value} (hk:Al7 fr g a id k) (hf:T7 pv D) (h:pv k=some cs) (s:W1 g w g' w'):Al7 (fr.put D x) g' (a.put D u) id k:=by
 cases k with
 |inl d=>
  obtain⟨k3,b,k4,k5⟩:=hk;have hne:=Be1 hf h;exact⟨(QN hne).trans k3,b,s.mu _ _ k4,(WX hne).trans k5⟩
 |inr n=>exact hk
 |tk n=>trivial
 |ex=>trivial
def EU {D:Option Tmp}(h:GV nt D=true):∀t,D=some t→t<nt:=by
 grind[GV]
def As8 {r:Option Nat} {g0 g:Gh} {w0 w:World} {a:Act} {o:Oper} {fr:Fr} {pv:Pv} {K:Fr→Pv→Prop} {next:Act→World→Prop} {Q:Exit→Act→World→Prop} (hI:Af2 nt H0 g0 w0 fr pv g w a)
 (h:MF P nt ops H0 o fr pv K) (hn:∀g' w' a' fr' pv',Af2 nt H0 g0 w0 fr' pv' g' w' a'→K fr' pv'→next a' w'):
 if Region.wanted o (yielded ops a.tmps)then o.wpIn (Fw r) 0 P a w next Q else(∀f,o.about P w a.eval=some f→(Fw r).fn f)∧next (a.put o.dst undef) w:=by
 obtain⟨H,ids,s,hR,hF,hext,hpv,hinj,tks,htk,htj,hexx⟩:=hI;obtain⟨⟨hd,hfree⟩,u0,pv1,h,hK⟩:=h
 rcases h with⟨o1,o2,hq,rfl⟩|⟨t,z,d,ho,hg,e1,e2,e3,rfl,rfl⟩|⟨t,d,y,key,off,cs,ho,hg,e1,e2,e3,e4,rfl,rfl⟩|⟨dd,src,hdd,⟨hg,sx,sy,sT,yT,xs,tlx,ys,tly,xs',ys',ho,q1,q2,q3,q4,rfl⟩,rfl⟩
 ·
  have keep:∀{g':Gh} {w':World} {u:Value} {x:V},W1 g w g' w'→Rl g' H w'→VR g' w' u x→Af2 nt H0 g0 w0 (fr.put o.dst x) pv1 g' w' (a.put o.dst u):=by
   intro g' w' u x s' hR' hv;refine⟨H,ids,s.trans s',hR',(hF.mono s').put (EU hd) hv,hext,fun d cs hdc hvar=>?_,hinj,tks,fun d cs hdc=>(htk d cs hdc).keep (VT hfree hdc) s' fun _ _ h=>h,htj,hexx⟩;obtain⟨k1,k2,k3⟩:=hpv d cs hdc hvar;exact⟨k1,k2,k3.keep hfree hdc s'⟩
  unfold Rg at hq
  split at hq
  ·rename_i hgd;rw[A2 (X9 hF.s hgd)];refine⟨fun _ _=>trivial,?_⟩
   have hnd:∀c,o.op≠ .defer c:=by
    grind[Om]
   rw[Ef _ _ _ hnd];refine HM (MU (AA8 hext hq) (K:=fun x H'=>x=u0∧H'=H) ⟨rfl,rfl⟩ g w a hR hF.s) fun u w' ⟨g',x,H',s',hR',hv,hx,hH⟩=>?_;subst hx;subst hH;exact hn _ _ _ _ _ (keep s' hR' hv) hK
  ·rename_i hgd;rw[A1 (by rw[X9 hF.s hgd];simp)];subst hq;exact⟨fun _ _=>trivial,hn _ _ _ _ _ (keep (W1.refl _ _) hR (VR.und _ _)) hK⟩
  grind
 ·
  have hw:Region.wanted o (yielded ops a.tmps)=true:=by simp[Region.wanted,hg]
  rw[A2 hw];refine⟨fun _ _=>trivial,?_⟩;rw[Ef _ _ _ (by intro c hc;rw[ho]at hc;cases hc)];obtain⟨zv,ez,hzv⟩:=Dg e2
  have hr:VR g w zv z:=by rw[ez];grind[Ec]
  obtain⟨g',id,hid,s',hR',hv'⟩:=Jk hR t hr e3
  have hid0:H0 id=none:=by
   cases hx:H0 id with
   |none=>rfl
   |some b=>rw[hext _ _ hx]at hid;cases hid
  have hmu:g'.mu id=some w.heap.size:=by
   obtain⟨b,e,hm⟩:=hv'.ref_inv;cases e;exact hm
  have hrun:(execOp a.eval o).run P w= .ok (.value (.pointer (some ⟨w.heap.size,0,none⟩))) (w.alloc (.cells zv.cells t)):=by
   unfold execOp;rw[ho];simp only[Instr.alloc,C6,hzv,C1];rfl
  rw[hrun];refine hn g' _ _ (fr.put o.dst .bad) _ ⟨_,fun x=>if x= .inl d then id else ids x,s.trans s',hR',(hF.mono s').put (EU hd) (.bad _),fun x b hx=>?_,fun x cs hx hvar=>?_,fun x x' cs cs' hx hx' v1 v2 hxx=>?_,tks,fun x cs hx=>?_,fun x x' cs cs' t hx hx'=>?_,fun cs hx=>?_⟩ hK
  ·have hne:x≠id:=fun e=>by subst e;rw[hid0]at hx;cases hx
   rw[D2 _ _ hne];exact hext _ _ hx
  ·by_cases hxd:x= .inl d
   ·subst hxd
    simp only[Q5,B4,E6]at hx
    subst hx;simp only[B4];refine⟨E4 _ _ _,hid0,by rw[e1];simp[Fr.put],w.heap.size,hmu,?_⟩;rw[e1];exact Nn (by rw[hF.size];exact EU hd _ e1)
   simp only[Q5,A1 hxd]at hx
   obtain⟨k1,k2,k3⟩:=hpv x cs hx hvar;simp only[A1 hxd]
   have hne:ids x≠id:=fun e=>by rw[e,hid]at k1;cases k1
   exact⟨(D2 _ _ hne).trans k1,k2,k3.keep hfree hx s'⟩
  ·by_cases h1:x= .inl d<;>by_cases h2:x'= .inl d
   ·rw[h1,h2]
   ·simp_all[Q5]
   ·simp only[A1 h1,A2 h2]at hxx
    simp only[Q5,A1 h1]at hx
    have:=(hpv x cs hx v1).1
    rw[hxx,hid]at this;cases this
   simp only[A1 h1,A1 h2]at hxx
   simp only[Q5,A1 h1]at hx
   simp only[Q5,A1 h2]at hx'
   exact hinj _ _ _ _ hx hx' v1 v2 hxx
  ·rw[J4 (by simp)]at hx
   refine(htk x cs hx).keep (VT hfree hx) s' fun t _ h=>?_;rw[D2 _ _ fun e=>by subst e;rw[hid]at h;cases h];exact h
  ·rw[J4 (by simp)]at hx hx'
   exact htj x x' cs cs' t hx hx'
  grind[upd,Q5]
 ·
  have hw:Region.wanted o (yielded ops a.tmps)=true:=by simp[Region.wanted,hg]
  rw[A2 hw];refine⟨fun _ _=>trivial,?_⟩;rw[Ef _ _ _ (by intro c hc;rw[ho]at hc;cases hc)]
  have hpk:=e1.at
  have hkv:key.var=true:=by rcases e1 with⟨rfl,_⟩|⟨id,rfl,_⟩<;>rfl
  obtain⟨k1,k2,k3⟩:=hpv key cs hpk hkv
  obtain⟨fr2,hE',hevd,hevy⟩:∃fr2,ER g w a fr2∧ev fr2 (.tmp d)= .ref (ids key) off∧ev fr2 y=ev fr y:=by
   rcases e1 with⟨rfl,rfl,hp⟩|⟨id,rfl,hs,_,hp⟩
   ·obtain⟨k3,b,k4,k5⟩:=k3
    have hyd:y≠ .tmp d:=by
     grind[ev,V.one]
    refine⟨fr.put (some d) (.ref (ids (.inl d)) 0),fun x=>?_,by simp[ev,Fr.put],Ac2 fun t ht e=>hyd (by rw[e];cases ht;rfl)⟩;simp only[Fr.put]
    split
    ·rename_i e;subst e;rw[k5];exact .ref k4
    exact hF.s x
   have k3:ids (.inr id)=id:=k3;exact⟨fr,hF.s,by simp_all[ev],rfl⟩
  have hst:ND P H t (ev fr2 (.tmp d)) (ev fr2 y)=some (upd H (ids key) (some (.cells (V4 cs off (ev fr y).cells)))):=by
   rw[hevy,hevd]
   simp_all[ND]
  refine HM (Uw ho (fun _ _ _ h=>h) hst (K:=fun x H'=>H'=upd H (ids key) (some (.cells (V4 cs off (ev fr y).cells)))) rfl g w a hR hE') fun u w' ⟨g',x,H',s',hR',hv,hH⟩=>?_;subst hH;refine hn g' w' _ (fr.put o.dst .bad) _ ⟨_,ids,s.trans s',hR',(hF.mono s').put (EU hd) (.bad _),fun x b hx=>?_,fun x cs' hx hvar=>?_,fun x x' cs1 cs2 hx hx' v1 v2 hxx=>?_,tks,fun x cs hx=>?_,fun x x' cs cs' t hx hx'=>?_,fun cs hx=>?_⟩ hK
  ·have hne:x≠ids key:=fun e=>by rw[e,k2]at hx;cases hx
   rw[D2 _ _ hne];exact hext _ _ hx
  ·by_cases hxd:x=key
   ·subst hxd
    simp only[Q5,B4,E6]at hx
    subst hx;exact⟨E4 _ _ _,k2,k3.keep hfree hpk s'⟩
   simp only[Q5,A1 hxd]at hx
   obtain⟨j1,j2,j3⟩:=hpv x cs' hx hvar;have hne:ids x≠ids key:=fun e=>hxd (hinj _ _ _ _ hx hpk hvar hkv e);exact⟨(D2 _ _ hne).trans j1,j2,j3.keep hfree hx s'⟩
  ·have back:∀{x:Pk} {c:List V},Q5 pv key (V4 cs off (ev fr y).cells) x=some c→∃c',pv x=some c':=by
    grind[Q5]
   obtain⟨_,hx⟩:=back hx;obtain⟨_,hx'⟩:=back hx';exact hinj _ _ _ _ hx hx' v1 v2 hxx
  ·rw[J4 fun e=>e1.key x e.symm]at hx
   refine(htk x _ hx).keep (VT hfree hx) s' fun t _ h=>?_;rw[D2 _ _ fun e=>by subst e;rw[k1]at h;cases h];exact h
  ·rw[J4 fun e=>e1.key x e.symm]at hx
   rw[J4 fun e=>e1.key x' e.symm]at hx'
   exact htj x x' _ _ t hx hx'
  rw[J4 fun e=>e1.keyx e.symm]at hx
  grind[D2,J4]
 have hw:Region.wanted o (yielded ops a.tmps)=true:=by simp[Region.wanted,hg]
 rw[A2 hw];refine⟨fun _ _=>trivial,?_⟩;rw[Ef _ _ _ (by intro c hc;rw[ho]at hc;cases hc)];obtain⟨e,sz,by_,z,c1,c2,c3,c4,c5,c6,c7,c8,c9,l1,l2,c10,c11,c12⟩:=q4
 obtain⟨fr2,tl,tly2,hE',h1,h2,hA,hsrc⟩:∃fr2 tl tly2,ER g w a fr2∧ev fr2 sx= .sl xs tl∧ev fr2 sy= .sl ys tly2∧Fb H tl∧
  ∀t,tl= .tok t→H t=some .spare∧H0 t=none∧(∀d cs,W2 pv src (.tk d)=some cs→tks d≠some t)∧∀τ,W2 pv src .ex=some [.sl [] τ]→τ≠ .tok t:=by
  rcases src with _|⟨d⟩|⟨d⟩|⟨d⟩|_
  ·exact⟨fr,tlx,tly,hF.s,q1,q2,(by rcases q3 with rfl|rfl<;>trivial),fun t ht=>by rcases q3 with h|h<;>rw[h]at ht<;>cases ht⟩
  ·exact q3.elim
  ·exact q3.elim
  rotate_left
  ·have q3:pv .ex=some [.sl [] tlx]:=q3;obtain⟨τ,e1,e2⟩:=hexx _ q3
   have e1:tlx=τ:=by cases e1;rfl
   subst e1;refine⟨fr,tlx,tly,hF.s,q1,q2,?_,fun t ht=>?_⟩
   ·grind[Fb]
   grind[W2]
  obtain⟨rfl,rfl,q5⟩:=q3;obtain⟨cs0,hcs⟩:=Option.isSome_iff_exists.1 q5;obtain⟨xs2,tl,t1,t2,t3⟩:=htk d cs0 hcs
  have ex:xs2=xs:=by
   have:fr.s d= .sl xs .ro:=q1
   rw[t1]at this;cases this;rfl
  subst ex
  have hA:Fb H tl:=by
   grind[Fb]
  have hs2:∀t,tl= .tok t→H t=some .spare∧H0 t=none∧(∀d' cs,W2 pv (some (.tk d)) (.tk d')=some cs→tks d'≠some t)∧∀τ,W2 pv (some (.tk d)) .ex=some [.sl [] τ]→τ≠ .tok t:=by
   grind[W2]
  by_cases hyd:sy= .tmp d
  ·subst hyd
   have:ys=xs2:=by
    have e1:fr.s d= .sl ys tly:=q2
    rw[t1]at e1;cases e1;rfl
   subst this
   exact⟨fr.put (some d) (.sl ys tl),tl,tl,fun x=>(by
    simp only[Fr.put];split
    ·rename_i e;subst e;exact t2
    exact hF.s x),by simp[ev,Fr.put],by simp[ev,Fr.put],hA,hs2⟩
  exact⟨fr.put (some d) (.sl xs2 tl),tl,tly,fun x=>(by
   simp only[Fr.put];split
   ·rename_i e;subst e;exact t2
   exact hF.s x),by simp[ev,Fr.put],by rw[Ac2 fun t ht e=>hyd (by rw[e];cases ht;rfl)];exact q2,hA,hs2⟩
 have hsim:=NG (P:=P) (K:=fun x H'=>∃zs tl',Cp x (.sl (xs'++ys') tl')∧zs=xs'++ys'∧((ys=[]∧tl'=tl∧H'=H)∨∃t,tl'= .tok t∧G0 H tl t=none∧H'=upd (G0 H tl) t (some .spare))) ho h1 h2 c1 c2 c3 c4 c5 c6 c7 c8 c9 hA (l1.sz c10) (l2.sz c11) (by rw[l1.length,l2.length];exact c12)
  (fun e=>⟨_,tl,by subst e;cases l2;rw[L4];exact .slt _ l1,rfl,.inl ⟨e,rfl,rfl⟩⟩) (fun t _ ht=>⟨_,.tok t,.slt _ (l1.append l2),rfl,.inr ⟨t,rfl,ht,rfl⟩⟩)
 refine HM (hsim g w a hR hE') fun u w' ⟨g',x,H',s',hR',hv,zs,tl',hle,_,hcase⟩=>?_;have hv:=hv.le hle;have hvro:VR g' w' u (.sl (xs'++ys') .ro):=Wk.ro _ _ _ _ _ hv
 have keepB:∀id b,H id=some b→b≠ .spare→H' id=some b:=fun id b hb hne=>by
  rcases hcase with⟨_,_,rfl⟩|⟨t,_,ht,rfl⟩
  ·exact hb
  have hdr:G0 H tl id=some b:=by
   cases tl with
   |tok t0=>
    have:id≠t0:=fun e=>by subst e;rw[show H id=some .spare from hA]at hb;cases hb;exact hne rfl
    simp only[G0];rw[D2 _ _ this];exact hb
   |_=>exact hb
  rw[D2 _ _ fun e=>by subst e;rw[ht]at hdr;cases hdr];exact hdr
 have keepS:∀t,H t=some .spare→tl≠ .tok t→H' t=some .spare:=fun t hb hne=>by
  rcases hcase with⟨_,_,rfl⟩|⟨t1,_,ht,rfl⟩
  ·exact hb
  have hdr:G0 H tl t=some .spare:=by
   cases tl with
   |tok t0=>
    simp only[G0];rw[D2 _ _ fun e=>by subst e;exact hne rfl];exact hb
   |_=>exact hb
  rw[D2 _ _ fun e=>by subst e;rw[ht]at hdr;cases hdr];exact hdr
 have hH0:∀id b,H0 id=some b→H' id=some b:=fun id b hb=>by
  by_cases hsp:b= .spare
  ·subst hsp;refine keepS id (hext _ _ hb) fun e=>?_;have:=(hsrc id e).2.1
   rw[this]at hb;cases hb
  exact keepB id b (hext _ _ hb) hsp
 let tks':Nat→Option Nat:=fun x=>if x=dd then(match tl' with| .tok t=>some t|_=>none)else tks x
 have hddl:dd<nt:=EU hd dd hdd
 have hnew:∀t,tl'= .tok t→H' t=some .spare∧H0 t=none∧(∀d cs,W2 pv src (.tk d)=some cs→tks d=some t→False)∧∀τ,W2 pv src .ex=some [.sl [] τ]→τ≠ .tok t:=fun t ht=>by
  rcases hcase with⟨e0,e1,rfl⟩|⟨t1,e1,htn,rfl⟩
  ·rw[e1]at ht
   obtain⟨h3,h4,h5,h6⟩:=hsrc t ht
   grind
  rw[e1]at ht;cases ht
  have drop:∀x b,H x=some b→(∀t0,tl= .tok t0→x≠t0)→G0 H tl x=some b:=fun x b hx hne=>by
   cases tl with
   |tok t0=>simp only[G0];rw[D2 _ _ (hne t0 rfl)];exact hx
   |_=>exact hx
  refine⟨E4 _ _ _,?_,fun d cs hdc htd=>?_,fun τ hx he=>?_⟩
  ·cases h0:H0 t with
   |none=>rfl
   |some b=>
    exfalso
    have:=drop t b (hext _ _ h0) fun t0 e x=>by subst x;rw[(hsrc t e).2.1]at h0;cases h0
    rw[htn]at this;cases this
  ·obtain⟨hp1,hp2⟩:=CW hdc;obtain⟨xs3,tl3,t1,t2,t3⟩:=htk d cs hp1
   rcases t3 with⟨e,_⟩|⟨t4,e,_,hsp,_⟩
   ·rw[e]at htd;cases htd
   rw[e]at htd;cases htd
   have:=drop t _ hsp fun t0 e' x=>by subst x;exact(hsrc t e').2.2.1 d cs hdc e
   rw[htn]at this;cases this
  grind[CW]
 refine hn g' w' _ (fr.put o.dst (.sl (xs'++ys') .ro)) _ ⟨H',ids,s.trans s',hR',(hF.mono s').put (EU hd) hvro,hH0,fun k cs hk hvar=>?_,fun k k' cs cs' hk hk' v1 v2=>?_,tks',fun d cs hdc=>?_,fun d d' cs cs' t hx hx' e1 e2=>?_,fun cs hx=>?_⟩ hK
 ·have hk1:pv k=some cs:=by
   rw[J4 fun e=>by subst e;cases hvar]at hk
   grind[CW]
  obtain⟨k1,k2,k3⟩:=hpv k cs hk1 hvar;exact⟨keepB _ _ k1 (by simp),k2,k3.keep hfree hk1 s'⟩
 ·rw[J4 fun e=>by subst e;cases v1]at hk
  rw[J4 fun e=>by subst e;cases v2]at hk'
  grind[CW]
 ·by_cases e:d=dd
  ·subst e;refine⟨xs'++ys',tl',by rw[hdd];simp[Fr.put],by rw[hdd,Nn (by rw[hF.size];exact hddl)];exact hv,?_⟩;simp only[tks',B4]
   cases tl' with
   |tok t=>exact .inr ⟨t,rfl,rfl,(hnew t rfl).1,(hnew t rfl).2.1⟩
   |nil=>simp
   |full=>simp
   |ro=>
    exfalso
    rcases hcase with⟨_,e1,_⟩|⟨t1,e1,_⟩
    ·rw[←e1]at hA;exact hA
    cases e1
  rw[J4 fun x=>by cases x;exact e rfl]at hdc
  obtain⟨hp1,hp2⟩:=CW hdc;simp only[tks',A1 e];exact(htk d cs hp1).keep (VT hfree hp1) s' fun t htd hsp=>keepS t hsp fun he=>(hsrc t he).2.2.1 d cs hdc htd
 ·by_cases h1:d=dd<;>by_cases h2:d'=dd
  ·rw[h1,h2]
  ·exfalso
   rw[J4 fun x=>by cases x;exact h2 rfl]at hx'
   simp only[tks',A2 h1]at e1
   simp only[tks',A1 h2]at e2
   cases tl' with
   |tok t1=>cases e1;exact(hnew t rfl).2.2.1 d' cs' hx' e2
   |_=>cases e1
  ·exfalso
   rw[J4 fun x=>by cases x;exact h1 rfl]at hx
   simp only[tks',A1 h1]at e1
   simp only[tks',A2 h2]at e2
   cases tl' with
   |tok t1=>cases e2;exact(hnew t rfl).2.2.1 d cs hx e1
   |_=>cases e2
  rw[J4 fun x=>by cases x;exact h1 rfl]at hx
  rw[J4 fun x=>by cases x;exact h2 rfl]at hx'
  simp only[tks',A1 h1]at e1
  simp only[tks',A1 h2]at e2
  grind[CW]
 rw[J4 (by simp)]at hx
 obtain⟨τ,e1,e2⟩:=hexx _ (CW hx).1;subst e1;refine⟨τ,rfl,e2.imp (fun h=>h) fun⟨t,j1,j2,j3,j4⟩=>⟨t,j1,keepS t j2 fun he=>(hsrc t he).2.2.2 τ hx j1,j3,fun d cs' hd'=>?_⟩⟩
 by_cases e:d=dd
 ·simp only[tks',A2 e]
  cases tl' with
  |tok t1=>exact fun he=>by cases he;exact(hnew t rfl).2.2.2 τ hx j1
  |_=>exact fun he=>by cases he
 rw[J4 fun x=>by cases x;exact e rfl]at hd'
 simp only[tks',A1 e]
 grind[CW]
def As9 {k:Nat}(h:Tt ops k=true):k≤ops.size∧∀i,i<ops.size→BO (ops.getD i default) i=true∧
 ∀j,j<i→KZ ops PT i j=true∨(i<k∧My ops (ops.getD j default) (ops.getD i default)=true):=by
 simp only[Tt,M6,C8,Gr,Gj,P0]at h
 grind
theorem RA {i:Nat}(h:i<ops.size):ops.getD i default=ops[i]:=by simp_all
def Dl {listed:Array Bool}{i:Nat}(h:i∈Region.ready .any ops listed):i<ops.size∧listed.getD i true=false∧∀j,ET (ops.getD i default) j=true→listed.getD j false=true:=by
 simp only[Region.ready,List.mem_filter,Gj,M6,P1]at h
 grind[RA,ET]
def EJ {listed:Array Bool} (hcl:∀m j,listed.getD m false=true→ET (ops.getD m default) j=true→listed.getD j false=true):∀(n i j:Nat),(∀j,ET (ops.getD i default) j=true→listed.getD j false=true)→KZ ops n i j=true→listed.getD j false=true
 |0,i,j,hi,h=>hi j h
 | n+1,i,j,hi,h=>by
  simp only[KZ,P0,LF,M6]at h
  rcases h with h|⟨x,hx,hb,_,h⟩
  ·exact hi j h
  have hm:ET (ops.getD i default) ((ops.getD i default).after[x]).on=true:=by
   grind[ET]
  exact EJ hcl n _ j (fun j' h'=>hcl _ j' (hi _ hm) h') h
def Sr {listed:Array Bool}{i:Nat}(h1:i<ops.size)(h2:listed.getD i true=false)(hb:BO (ops.getD i default) i=true)(h3:∀j,j<i→listed.getD j false=true):i∈Region.ready .any ops listed:=by
 simp only[Region.ready,List.mem_filter,Gj,M6,P1]
 grind[RA,BO]
def MB {listed:Array Bool}{i j:Nat}{d:Bool}(hi:i<listed.size):(listed.setIfInBounds i true).getD j d=if j=i then true else listed.getD j d:=by
 simp only[O3,Fo]
 grind
def RQ {A:TP} {r:Option Nat} {k:Nat} {K:Fr→A5→Prop} {Q:Exit→Act→World→Prop} {g0:Gh} {w0:World} (hat:∀i,i<ops.size→BO (ops.getD i default) i=true∧∀j,j<i→k≤j→KZ ops PT i j=true) (hQ:∀g w a fr H,W1 g0 w0 g w→Rl g H w→FR nt g w a fr→K fr H→Q .normal a w):
 ∀(d m:Nat) (listed:Array Bool) (fr:Fr) (H:A5),m+d=ops.size→k≤m→listed.size=ops.size→(∀i b,i<ops.size→listed.getD i b=decide (i<m))→Jp P A nt ops (ops.toList.drop m) fr H K→
  ∀g w a,W1 g0 w0 g w→Rl g H w→FR nt g w a fr→wpAnyIn (Fw r) 0 P .any ops Q d listed a w
 |0,m,listed,fr,H,hm,hk,hsz,hl,h,g,w,a,s,hR,hF=>by
  have:ops.toList.drop m=[]:=by simp;omega
  rw[this]at h
  refine⟨?_,hQ g w a fr H s hR hF h⟩;rw[List.eq_nil_iff_forall_not_mem];intro i hi;obtain⟨h1,h2,_⟩:=Dl hi
  rw[hl i true h1]at h2
  simp_all
 | d + 1,m,listed,fr,H,hm,hk,hsz,hl,h,g,w,a,s,hR,hF=>by
  have hlt:m<ops.size:=by omega
  have hready:m∈Region.ready .any ops listed:=Sr hlt (by rw[hl m true hlt];simp) (hat m hlt).1 fun j hj=>by rw[hl j false (by omega)];grind
  refine⟨fun e=>(by rw[e]at hready;cases hready),fun i hi=>?_⟩;obtain⟨h1,h2,h3⟩:=Dl hi
  have him:i=m:=by
   rw[hl i true h1]at h2
   simp only[S1,Nat.not_lt]at h2
   rcases Q6 m i with hlt'|hge
   ·have he:=(hat i h1).2 m hlt' hk
    ·have:=EJ (fun m' j hm' hj=>by
      have hms:m'<ops.size:=by
       grind
      rw[hl m' false hms]at hm'
      simp only[C8]at hm'
      have hb:=(hat m' hms).1
      simp only[BO,Array.all_eq_true]at hb
      simp only[ET,LF,M6,Ge]at hj
      obtain⟨x,hx,rfl,hbx⟩:=hj;have:=hb x hx
      simp only[hbx,R3,DN,C8]at this
      rw[hl _ false (by omega)]
      grind) PT i m h3 he
     rw[hl m false hlt]at this
     simp at this
   omega
  subst him
  have hdl:ops.toList.drop i=ops[i]::ops.toList.drop (i+1):=by
   rw[S3 (by omega)];simp
  rw[hdl]at h
  simp only[Jp]at h
  obtain⟨hd,h⟩:=h;have ih:=RQ (A:=A) (r:=r) (K:=K) hat hQ d (i+1) (listed.setIfInBounds i true)
  have hl':∀j b,j<ops.size→(listed.setIfInBounds i true).getD j b=decide (j<i+1):=by
   intro j b hj;rw[MB (by omega),hl j b hj]
   grind
  simp only[wpOpIn,CK hlt]
  split at h
  ·rename_i hg;rw[A2 (X9 hF.s hg)];exact Uo hR hF hd h fun g' w' a' v H' s' hR' hF' hK=>ih _ _ (by omega) (by omega) (by grind) hl' hK g' w' a' (s.trans s') hR' hF'
  ·rename_i hg;rw[A1 (by rw[X9 hF.s hg];simp)];exact⟨fun _ _=>trivial,ih _ _ (by omega) (by omega) (by grind) hl' h g w _ s hR (hF.put (EU hd) (VR.und _ _))⟩
  grind
def TH {r:Option Nat} {k:Nat} {K:Fr→Pv→Prop} {Q:Exit→Act→World→Prop} {g0:Gh} {w0:World} (hk:k≤ops.size) (hat:∀i,i<ops.size→BO (ops.getD i default) i=true∧∀j,j<i→KZ ops PT i j=true∨(i<k∧My ops (ops.getD j default) (ops.getD i default)=true)∨k≤j)
 (hdone:∀g w a fr pv listed,listed.size=ops.size→(∀i b,i<ops.size→listed.getD i b=decide (i<k))→Af2 nt H0 g0 w0 fr pv g w a→K fr pv→wpAnyIn (Fw r) 0 P .any ops Q (ops.size-k) listed a w):
 ∀(n:Nat) (L:List Nat) (listed:Array Bool) (fr:Fr) (pv:Pv),L.length=n→L.Pairwise (· < ·)→(∀i∈L,i<k)→listed.size=ops.size→(∀i b,i<ops.size→listed.getD i b=decide (i<k∧i∉L))→(∀m j,listed.getD m false=true→ET (ops.getD m default) j=true→listed.getD j false=true)→
  JX P nt ops H0 (L.map fun i=>ops.getD i default) fr pv K→∀g w a,Af2 nt H0 g0 w0 fr pv g w a→wpAnyIn (Fw r) 0 P .any ops Q (n+(ops.size-k)) listed a w
 |0,L,listed,fr,pv,hn,_,_,hsz,hl,_,h,g,w,a,hI=>by
  have:L=[]:=List.length_eq_zero_iff.1 hn;subst this;rw[L8];exact hdone g w a fr pv listed hsz (fun i b hi=>by rw[hl i b hi];simp) hI h
 | n+1,L,listed,fr,pv,hn,hsort,hlt,hsz,hl,hcl,h,g,w,a,hI=>by
  have hL:L≠[]:=by intro e;rw[e]at hn;simp at hn
  obtain⟨i0,L0,hL0⟩:∃i0 L0,L=i0::L0:=by cases L with
   |nil=>exact absurd rfl hL
   |cons x y=>exact⟨x,y,rfl⟩
  have hi0:i0<k:=hlt i0 (by rw[hL0];simp);rw[show n+1+(ops.size-k)=(n+(ops.size-k))+1 by omega]
  have hready:i0∈Region.ready .any ops listed:=by
   refine Sr (by omega) (by rw[hl i0 true (by omega),hL0];simp) (hat i0 (by omega)).1 fun j hj=>?_;rw[hl j false (by omega)]
   have:j∉L:=by
    rw[hL0]at hsort ⊢
    grind[List.pairwise_cons]
   simp only[C8];exact⟨by omega,this⟩
  refine⟨fun e=>(by rw[e]at hready;cases hready),fun i hi=>?_⟩;obtain⟨h1,h2,h3⟩:=Dl hi
  rw[hl i true h1]at h2
  simp only[S1,not_and,Classical.not_not]at h2
  have hik:i<k:=by
   rcases Q6 i k with hh|hh
   ·exact hh
   exfalso
   rcases(hat i h1).2 i0 (by omega)with he|⟨hc,_⟩|hc
   ·have:=EJ hcl PT i i0 h3 he
    rw[hl i0 false (by omega),hL0]at this
    simp at this
   ·omega
   omega
  have hiL:=h2 hik;obtain⟨pre,post,hsplit⟩:=LI hiL
  have hind:∀x∈pre.map (fun i=>ops.getD i default),My ops x (ops.getD i default)=true:=by
   intro x hx;obtain⟨j,hj,rfl⟩:=List.mem_map.1 hx
   have hjL:j∈L:=by rw[hsplit];simp[hj]
   have hji:j<i:=by
    rw[hsplit]at hsort
    grind
   rcases(hat i h1).2 j hji with he|⟨_,hc⟩|hc
   ·have:=EJ hcl PT i j h3 he
    rw[hl j false (by omega)]at this
    simp_all
   ·exact hc
   grind
  rw[hsplit,BY,E9]at h
  have hf:=YM hind h
  have hstep:MF P nt ops H0 (ops.getD i default) fr pv fun fr' pv'=>JX P nt ops H0 ((pre++post).map fun i=>ops.getD i default) fr' pv' K:=by
   rw[BY];exact hf
  simp only[wpOpIn,CK h1]
  rw[RA h1]at hstep
  have hnd:i∉pre++post:=by
   rw[hsplit]at hsort
   grind[List.pairwise_cons]
  refine As8 (r:=r) hI hstep fun g' w' a' fr' pv' hI' hK=>?_;refine TH hk hat hdone n (pre++post) _ fr' pv' ?_ ?_ ?_ (by simpa using hsz) ?_ ?_ hK g' w' a' hI'
  ·rw[hsplit]at hn;simp at hn ⊢;omega
  ·rw[hsplit]at hsort
   grind
  ·grind
  ·intro j b hj;rw[MB (by omega),hl j b hj]
   by_cases e:j=i
   ·subst e;simp[hik,hnd]
   rw[A1 e]
   congr 1
   rw[hsplit];simp[e]
  intro m j hm hj
  rw[MB (by omega)]at hm ⊢
  by_cases ej:j=i
  ·rw[A2 ej]
  rw[A1 ej]
  by_cases em:m=i
  ·subst em;exact h3 j hj
  rw[A1 em]at hm;exact hcl m j hm hj
end
def HJ (s:Nat→V):List Tmp→List V→Nat→V
 |p::ps,x::xs=>HJ (fun t=>if t=p then x else s t) ps xs
 |_,_=>s
def Sy {g:Gh} {w:World} {nt:Nat}:∀(ps:List Tmp) (vals:List Value) (xs:List V) (tmps:Array Value) (s:Nat→V),tmps.size=nt→(∀p∈ps,p<nt)→vals.length=xs.length→(∀i,i<xs.length→VR g w (vals.getD i undef) (xs.getD i .bad))→xs.length=ps.length→
 (∀t,VR g w (tmps.getD t undef) (s t))→((ps.zip vals).foldl (fun t (p,v)=>t.setIfInBounds p v) tmps).size=nt∧∀t,VR g w (((ps.zip vals).foldl (fun t (p,v)=>t.setIfInBounds p v) tmps).getD t undef) (HJ s ps xs t)
 |[],[],[],tmps,s,hn,_,_,_,_,h=>⟨hn,h⟩
 | p::ps,v::vals,x::xs,tmps,s,hn,hp,hl,hv,hx,h=>by
  simp only[List.zip_cons_cons,DO,HJ];refine Sy ps vals xs _ _ (by grind) (fun q hq=>hp q (by simp[hq])) (by grind) (fun i hi=>by simpa using hv (i+1) (by grind)) (by grind) fun t=>?_;have hpn:=hp p (by simp)
  by_cases e:t=p
  ·subst e
   have:(tmps.setIfInBounds t v).getD t undef=v:=by simp_all
   rw[this];simpa using hv 0 (by simp)
  have:(tmps.setIfInBounds p v).getD t undef=tmps.getD t undef:=by
   simp only[O3,Fo];rw[A1 (fun h=>e h.symm)]
  rw[this];simp_all
 |[],[],_::_,_,_,_,_,hl,_,_,_=>by simp at hl
 |[],_::_,[],_,_,_,_,hl,_,_,_=>by simp at hl
 |[],_::_,_::_,_,_,_,_,_,_,hx,_=>by simp at hx
 |_::_,[],[],_,_,_,_,_,_,hx,_=>by simp at hx
 |_::_,[],_::_,_,_,_,_,hl,_,_,_=>by simp at hl
 |_::_,_::_,[],_,_,_,_,hl,_,_,_=>by simp at hl
def NV:Exit→Option (Option Code)
 | .normal=>some none
 | .ret=>some (some .ret)
 | .exit id=>some (some (.exit id))
 | .goto t=>some (some (.goto t))
 |_=>none
def Ba1 (id:Nat)(L:LpI)(K:V→A5→Prop)(e:Exit)(H2:A5):Prop:=
 ∃jump,NV e=some jump∧H2 id=some (.loop {L with st:=.busy})∧K (.bool jump.isNone) (upd H2 id (some (.loop {L with st:=if jump.isNone then .ready else .done,pe:=jump})))
def Za {P:Program} {id:Nat} {L:LpI} {x:List V} {H:A5} {K:V→A5→Prop} (hk:H id=some (.loop L)) (hst:L.st= .ready) (hx:x.length=L.ps.size) (hps:∀p∈L.ps,p<L.nt)
 (h:W4 P L.nt (some id) L.asg ⟨HJ L.s L.ps.toList x,[]⟩ H fun e fr' H1=>e= .normal∧H1 id=some (.loop L)∧
  W4 P L.nt (some id) L.body fr' (upd H1 id (some (.loop {L with st:=.busy}))) fun e _ H2=>Ba1 id L K e H2):Df P (.yield id) x H K:=by
 intro g w v vals hR hv hA
 cases hv with
 | yield hmu=>
  rename_i b;obtain⟨b',r,h1,h2,h3,h4,h5,h6,h7,h8,h9,h10⟩:=hR.blk id _ hk
  rw[hmu]at h1;cases h1
  have hrun:(do let d ←Deferred.ofValue (.func (.yield b) #[] #[]) vals;invoke d.target d.args:Sem Next).run P w=
   .ok (.round b r.fn ((r.params.zip vals).foldl (fun tmps (t,a)=>tmps.setIfInBounds t a) r.tmps) r.assign r.body) w:=by
   have hy:=run_yield (P:=P) (args:=vals) h3 (by rw[hA.1,hx,h6])
   simpa[Deferred.ofValue,C6,D1,C1,invoke]using hy
  rw[hrun]
  show RoundIn Fence.wide 0 P b r.fn _ r.assign r.body w _
  have hpa:=Sy (g:=g) (w:=w) (nt:=L.nt) L.ps.toList vals.toList x r.tmps L.s h9 (fun p hp=>hps p (by grind)) (by simpa using hA.1) (fun i hi=>by
   have:=hA.2 i hi
   simp_all) (by omega) h10
  have hfold:(r.params.zip vals).foldl (fun tmps (t,a)=>tmps.setIfInBounds t a) r.tmps=(L.ps.toList.zip vals.toList).foldl (fun t (p,v)=>t.setIfInBounds p v) r.tmps:=by
   rw[h6,←Array.foldl_toList];simp
  rw[hfold];refine roundIn_of_wpIn trivial ?_
  show r.assign.wpIn (Fw (some b)) 0 P _ _ w
  rw[h7];refine wpIn_mono (h (some b) g w _ ⟨b,hmu,rfl⟩ hR ⟨hpa.1,hpa.2,[],rfl,fun i hi=>by simp at hi,rfl⟩) fun e a1 w1 ⟨g1,fr1,H1,s1,hR1,hF1,he,hk1,hbody⟩=>?_;subst he;obtain⟨b1,r1,i1,i2,i3,i4,i5,i6,i7,i8,i9,i10⟩:=hR1.blk id _ hk1;have hmu1:=s1.mu _ _ hmu
  rw[hmu1]at i1;cases i1
  refine⟨_,run_beginRound i3 (i4.trans hst),?_⟩
  obtain⟨s2,hR2⟩:=hR1.putGen (k':=.loop {L with st:=.busy}) (o':=.loop {r1 with state:=.busy}) rfl rfl hk1 hmu1 rfl fun s hh hb=>
   ⟨b,_,hmu1,hb,hh,rfl,i5,i6,i7,i8,i9,fun t=>(i10 t).mono s⟩
  show r.body.wpIn (Fw (some b)) 0 P _ _ _
  rw[h8];refine wpIn_mono (hbody (some b) g1 _ a1 ⟨b,hmu1,rfl⟩ hR2 (hF1.mono s2)) fun e a3 w3 ⟨g3,fr3,H3,s3,hR3,hF3,jump,hj,hk3,hK⟩=>?_;obtain⟨b3,r3,j1,j2,j3,j4,j5,j6,j7,j8,j9,j10⟩:=hR3.blk id _ hk3;have hmu3:=s3.mu _ _ hmu1
  rw[hmu3]at j1;cases j1
  obtain⟨s4,hR4⟩:=hR3.putGen (k':=.loop {L with st:=if jump.isNone then .ready else .done,pe:=jump}) (o':=.loop {r3 with state:=if jump.isNone then .ready else .done,pending:=jump}) rfl rfl hk3 hmu3 rfl fun s hh hb=>
   ⟨b,_,hmu3,hb,hh,rfl,rfl,j6,j7,j8,j9,fun t=>(j10 t).mono s⟩
  have hend:=run_endRound (P:=P) jump j3
  have fin:∃v w',(Instr.endRound b jump).run P w3= .ok v w'∧∃u,Ending.returned v= .returned u∧N5 g w K u w':=
   ⟨_,_,hend,_,rfl,g3,_,_,((s1.trans s2).trans s3).trans s4,hR4,.bool _,hK⟩
  cases e<;>simp only[NV,E6,reduceCtorEq]at hj<;>subst hj<;>exact fin
structure G5 (I:A5→A5→Prop):Prop where
 le:∀{F H},I F H→∀id b,F id=some b→H id=some b
 chg:∀{F H} (id:Nat) (b:Option Ds),I F H→H id=F id→I (upd F id b) (upd H id b)
def G5.fresh {I:A5→A5→Prop}(h:G5 I){F H:A5}(i:I F H){id:Nat}(hn:H id=none):F id=none:=by
 cases hf:F id with
 |none=>rfl
 |some b=>rw[h.le i id b hf]at hn;cases hn
def Jm (P:Program) (it:V) (xs:List (List V)):Prop:=
 ∃ f C,it= .func (.func f) [] C∧(∀vals w,(callFunc f vals).run P w= .ok (.enter f vals) w)∧
  ∀(yv:V) (I:List (List V)→A5→A5→Prop) (D:A5→A5→Prop),(∀l,G5 (I l))→G5 D→
   ((yv.one=true∧yv.cells=[yv])∧∀x l F H,I (x::l) F H→Df P yv x H fun r H'=>(r= .bool true∧I l F H')∨(r= .bool false∧D F H'))→
   ∀F H,I xs F H→J5 P f (yv::C) H fun _ H'=>I [] F H'∨D F H'
def YF (I:A5→A5→Prop)(D:Code→A5→A5→Prop)(F:A5)(e:Exit)(H:A5):Prop:=
 match e with
 | .normal=>I F H
 | .ret=>D .ret F H
 | .exit k=>D (.exit k) F H
 |_=>False
def Ac4 {I:A5→A5→Prop}{D:Code→A5→A5→Prop}{F:A5}{e:Exit}{H:A5}(h:YF I D F e H):(NV e=some none∧I F H)∨∃c,NV e=some (some c)∧D c F H:=by
 cases e<;>simp only[YF]at h
 ·simp_all[NV]
 ·simp_all[NV]
 simp_all[NV]
section
variable {P:Program}{nt:Nat}
def ZS {fr:Fr} {ps:Array Tmp} {asg body:Code} {xs:List (List V)} {f:FuncId} {C:List V} {id:Nat} (hnt:∀p∈ps,p<nt) (hps:∀x∈xs,x.length=ps.size)
 (hit:∀(yv:V) (I:List (List V)→A5→A5→Prop) (D:A5→A5→Prop),(∀l,G5 (I l))→G5 D→
  ((yv.one=true∧yv.cells=[yv])∧∀x l F H,I (x::l) F H→Df P yv x H fun r H'=>(r= .bool true∧I l F H')∨(r= .bool false∧D F H'))→
  ∀F H,I xs F H→J5 P f (yv::C) H fun _ H'=>I [] F H'∨D F H')
 (I:List (List V)→A5→A5→Prop) (D:Code→A5→A5→Prop) (hI:∀l,G5 (I l)) (hD:∀c,G5 (D c)) (J:List V→List (List V)→Fr→A5→A5→Prop) (hJ:∀x l fr,G5 (J x l fr))
 (assign:∀id L x l F H,I (x::l) F H→F id=some (.loop L)→x.length=ps.size→W4 P nt (some id) asg ⟨HJ fr.s ps.toList x,[]⟩ H fun e fr' H1=>e= .normal∧J x l fr' F H1)
 (round:∀id L x l fr' F H,J x l fr' F H→F id=some (.loop L)→W4 P nt (some id) body fr' H fun e _ H'=>YF (I l) D F e H')
 {F0 H2:A5} {L:LpI} (hL:L={nt:=nt,s:=fr.s,st:=.ready,pe:=none,ps:=ps,asg:=asg,body:=body}) (hF0:F0 id=none) (h0:I xs (upd F0 id (some (.loop L))) H2)
 {g2:Gh} {w2:World} {b:Nat} {vals:Array Value} (hR:Rl g2 H2 w2) (hmu:g2.mu id=some b) (hA:Args g2 w2 vals (.yield id::C)) (hcf:(callFunc f vals).run P w2= .ok (.enter f vals) w2):
 CallsIn Fence.wide 0 P f vals w2 fun e w3=>∃v,e= .returned v∧∃g3 H3 jump w4,W1 g2 w2 g3 w4∧Rl g3 H3 w4∧(Instr.endLoop b).run P w3= .ok jump w4∧((jump=none∧I [] F0 H3)∨∃c,jump=some c∧D c F0 H3):=by
 have hc:=hit (.yield id) (fun l F H=>(∀x∈l,x.length=ps.size)∧F id=none∧I l (upd F id (some (.loop L))) H)
  (fun F H=>F id=none∧∃c,D c (upd F id (some (.loop {L with st:=.done,pe:=some c}))) H) ?_ ?_ ⟨⟨rfl,rfl⟩,?_⟩ F0 H2 ⟨hps,hF0,h0⟩ g2 w2 vals hR hA
 ·rw[hcf]at hc
  have hc':CallsIn Fence.wide 0 P f vals w2 _:=hc;refine hc'.mono fun e w3 ⟨v,he,g3,u,H3,s,hR3,_,hK⟩=>⟨v,he,?_⟩;have hmu3:=s.mu _ _ hmu
  have fin:∀(L':LpI) (X:A5→A5→Prop),G5 X→X (upd F0 id (some (.loop L'))) H3→L'.st≠ .busy→∃g4 H4 w4,W1 g2 w2 g4 w4∧Rl g4 H4 w4∧(Instr.endLoop b).run P w3= .ok L'.pe w4∧X F0 H4:=by
   intro L' X hX hx hst;have hk3:=hX.le hx id _ (E4 _ _ _);obtain⟨b3,r3,j1,j2,j3,j4,j5,j6,j7,j8,j9,j10⟩:=hR3.blk id _ hk3
   rw[hmu3]at j1;cases j1
   have hend:=run_endLoop (P:=P) j3 (by rw[j4];exact hst)
   rw[j5]at hend
   obtain⟨s4,hR4⟩:=hR3.putGen (k':=.loop {L' with st:=.exhausted}) (o':=.loop {r3 with state:=.exhausted,pending:=L'.pe}) rfl rfl hk3 hmu3 rfl fun s hh hb=>
    ⟨b,_,hmu3,hb,hh,rfl,rfl,j6,j7,j8,j9,fun t=>(j10 t).mono s⟩
   refine⟨g3,upd H3 id none,_,s.trans s4,hR4.less fun x bb hx=>?_,hend,?_⟩
   ·simp_all[upd]
   have:=hX.chg id none hx (by rw[hk3,E4])
   rwa[WU _ _ _ hF0]at this
  grind
 ·intro l;refine⟨fun{F H} ⟨_,hn,hi⟩ x bb hx=>(hI l).le hi x bb ?_,fun{F H} x bb ⟨hs,hn,hi⟩ hx=>?_⟩
  ·rw[D2 _ _ (AH hn hx)];exact hx
  have hne:x≠id:=fun e=>by subst e;rw[hn]at hx;rw[(hI l).le hi x _ (E4 _ _ _)]at hx;cases hx
  refine⟨hs,by rw[D2 _ _ (fun e=>hne e.symm)];exact hn,?_⟩;have:=(hI l).chg x bb hi (by rw[D2 _ _ hne];exact hx)
  rwa[RO _ _ _ (Ne.symm hne)]at this
 ·refine⟨fun{F H} ⟨hn,c,hi⟩ x bb hx=>(hD c).le hi x bb ?_,fun{F H} x bb ⟨hn,c,hi⟩ hx=>?_⟩
  ·rw[D2 _ _ (AH hn hx)];exact hx
  have hne:x≠id:=fun e=>by subst e;rw[hn]at hx;rw[(hD c).le hi x _ (E4 _ _ _)]at hx;cases hx
  refine⟨by rw[D2 _ _ (fun e=>hne e.symm)];exact hn,c,?_⟩;have:=(hD c).chg x bb hi (by rw[D2 _ _ hne];exact hx)
  rwa[RO _ _ _ (Ne.symm hne)]at this
 rintro x l F H ⟨hs,hn,hi⟩;have hk:=(hI _).le hi id _ (E4 _ _ _);have hxs:=hs x (by simp);have ha:=assign id L x l _ H hi (E4 _ _ _) hxs;subst hL;refine Za hk rfl hxs hnt (ha.mono fun e fr' H1 ⟨he,hj⟩=>?_);have hk1:=(hJ x l fr').le hj id _ (E4 _ _ _);refine⟨he,hk1,?_⟩;have hj2:=(hJ x l fr').chg id (some (.loop {({nt:=nt,s:=fr.s,st:=.ready,pe:=none,ps:=ps,asg:=asg,body:=body}:LpI)with st:=.busy})) hj (by rw[hk1,E4])
 rw[Al]at hj2
 refine(round id _ x l fr' _ _ hj2 (E4 _ _ _)).mono fun e fr'' H2 hq=>?_
 rcases Ac4 hq with⟨hjmp,hi2⟩|⟨c,hjmp,hd2⟩
 ·have hk2:=(hI l).le hi2 id _ (E4 _ _ _);refine⟨none,hjmp,hk2,.inl ⟨rfl,fun y hy=>hs y (by simp[hy]),hn,?_⟩⟩;have:=(hI l).chg id (some (.loop {nt:=nt,s:=fr.s,st:=.ready,pe:=none,ps:=ps,asg:=asg,body:=body})) hi2 (by rw[hk2,E4])
  rwa[Al]at this
 have hk2:=(hD c).le hd2 id _ (E4 _ _ _);refine⟨some c,hjmp,hk2,.inr ⟨rfl,hn,c,?_⟩⟩;have:=(hD c).chg id (some (.loop {nt:=nt,s:=fr.s,st:=.done,pe:=some c,ps:=ps,asg:=asg,body:=body})) hd2 (by rw[hk2,E4])
 rwa[Al]at this
def Ae3 {g:Gh}{w:World}{id b:Nat}{cs:Array Value}{C:List V}(hmu:g.mu id=some b)(h1:cs.size=C.length)(h2:∀i,i<C.length→VR g w (cs.getD i undef) (C.getD i .bad)):
 Args g w (#[.func (.yield b) #[] #[]]++cs) (.yield id::C):=
 Args.append (x:=[.yield id]) (a:= #[.func (.yield b) #[] #[]]) ⟨rfl,fun i hi=>match i,hi with|0,_=>.yield hmu⟩ ⟨h1,h2⟩
def W4.rangeOuter {fr:Fr} {H F:A5} {g:Operand} {ps:Array Tmp} {asg body:Code} {xs:List (List V)} {Q:Exit→Fr→A5→Prop} (hnt:∀p∈ps,p<nt) (hps:∀x∈xs,x.length=ps.size) (hit:Jm P (ev fr g) xs)
 (I:List (List V)→A5→A5→Prop) (D:Code→A5→A5→Prop) (hI:∀l,G5 (I l)) (hD:∀c,G5 (D c)) (J:List V→List (List V)→Fr→A5→A5→Prop) (hJ:∀x l fr,G5 (J x l fr)) (h0:I xs F H)
 (assign:∀id L x l F H,I (x::l) F H→F id=some (.loop L)→x.length=ps.size→W4 P nt (some id) asg ⟨HJ fr.s ps.toList x,[]⟩ H fun e fr' H1=>e= .normal∧J x l fr' F H1)
 (round:∀id L x l fr' F H,J x l fr' F H→F id=some (.loop L)→W4 P nt (some id) body fr' H fun e _ H'=>YF (I l) D F e H')
 (done:∀d H',F d=none→I [] (upd F d (some (.obj (.deferred (some []))))) H'→Q .normal {fr with df:=d::fr.df} H')
 (stop:∀c d H',F d=none→D c (upd F d (some (.obj (.deferred (some []))))) H'→W4 P nt none c {fr with df:=d::fr.df} H' Q):W4 P nt none (.rangeFunc g ps asg body) fr H Q:=by
 intro r g0 w a hr hR hF;have hr:r=none:=hr;subst hr;obtain⟨f,C,hev,hcf,hit⟩:=hit;refine wpIn_rangeFunc fun fn _=>?_;have hv:=E8 hR hF.s g
 rw[hev]at hv
 generalize hag:a.eval g=gv at hv
 cases hv with
 | func hl hv hl' hv'=>
  rename_i fs cs;have hfs:fs= #[]:=Array.eq_empty_of_size_eq_zero (by omega);subst hfs;obtain⟨dB,hdB⟩:∃dB:Ds,dB= .obj (.deferred (some [])):=⟨_,rfl⟩;have hd0:H g0.nx=none:=(hR.nxt _ (D5 _)).2.2;have s1:=W1.new hR (.deferred (some [])) False 0;have hR1:=hR.newNamed (.deferred (some [])) dB (by rw[hdB];simp) (by rw[hdB];exact⟨w.heap.size,by simp[Gh.new],hR.bnd,BK,rfl⟩) (by rw[hdB];simp_all);obtain⟨w1,hw1⟩:∃w1,w.alloc (.deferred (some []))=w1:=⟨_,rfl⟩;obtain⟨g1,hg1⟩:∃g1,g0.new w False 0=g1:=⟨_,rfl⟩;obtain⟨L,hL⟩:∃L:LpI,L={nt:=nt,s:=fr.s,st:=.ready,pe:=none,ps:=ps,asg:=asg,body:=body}:=⟨_,rfl⟩;obtain⟨rec,hrec⟩:∃rec:Loop,rec={state:=.ready,pending:=none,fn,tmps:=a.tmps,params:=ps,assign:=asg,body,defers:=w.heap.size}:=⟨_,rfl⟩
  rw[hw1,hg1]at hR1 s1
  have hd:g1.mu g0.nx=some w.heap.size:=by rw[←hg1];simp[Gh.new]
  have hnx:g1.nx=g0.nx+1:=by rw[←hg1];rfl
  have hF1:=hF.mono s1;have s2:=W1.new hR1 (.loop rec) False 0;have hF2:=hF1.mono s2
  have hR2:=hR1.newNamed (.loop rec) (.loop L) (by simp) (by
   rw[hL,hrec]
   exact⟨w1.heap.size,_,by simp[Gh.new],hR1.bnd,BK,rfl,rfl,rfl,rfl,rfl,hF.size,fun t=>by have:=hF2.s t;rw[hrec]at this;exact this⟩)
  obtain⟨w2,hw2⟩:∃w2,w1.alloc (.loop rec)=w2:=⟨_,rfl⟩;obtain⟨g2,hg2⟩:∃g2,g1.new w1 False 0=g2:=⟨_,rfl⟩
  rw[hw2,hg2]at hR2 s2 hF2
  have hmu:g2.mu g1.nx=some w1.heap.size:=by rw[←hg2];simp[Gh.new]
  have hi0:(upd H g0.nx (some dB)) g1.nx=none:=(hR1.nxt _ (D5 _)).2.2
  have hsz:w1.heap.size=w.heap.size+1:=by rw[←hw1];simp
  have i1:=(hI xs).chg g0.nx (some dB) h0 (by rw[hd0,(hI xs).fresh h0 hd0]);have hFi:=(hI xs).fresh i1 hi0;have i2:=(hI xs).chg g1.nx (some (.loop L)) i1 (by rw[hi0,hFi]);have hcall:=ZS (fr:=fr) (nt:=nt) hnt hps hit I D hI hD J hJ assign round hL hFi i2 (vals:= #[.func (.yield w1.heap.size) #[] #[]]++cs) hR2 hmu (Ae3 hmu hl' fun i hi=>(hv' i hi).mono (s1.trans s2)) (hcf _ _);refine⟨w1.heap.size,[{target:=.collected w.heap.size,args:= #[]}],w2,{target:=.fn (.func f) cs,args:= #[.func (.yield w1.heap.size) #[] #[]]},w2,f, #[.func (.yield w1.heap.size) #[] #[]]++cs,w2,?_,?_,fun _ _=>trivial,?_,fun h=>by simp[Fw]at h,?_⟩
  ·rw[←hw2,hrec,←hw1,show(w.alloc (.deferred (some []))).heap.size=w.heap.size+1 by simp];exact run_enterLoop_outer _ _ _ _ _
  ·simp only[resolve,hag];simp[go_sem]
  ·simp only[invoke];grind
  refine Ty (hcall.mono fun e w3 ⟨v,he,g3,H3,jump,w4,s3,hR3,hend,hj⟩=>?_);subst he;refine⟨jump,w4,hend,?_⟩;have s:=(s1.trans s2).trans s3
  have hF4:FR nt g3 w4 {a with defers:=[{target:=.collected w.heap.size,args:= #[]}]++a.defers} {fr with df:=g0.nx::fr.df}:=by
   have hF3:=hF.mono s;refine⟨hF3.size,hF3.s,?_⟩;obtain⟨bs,k1,k2,k3⟩:=hF3.df;refine⟨w.heap.size::bs,by grind,fun i hi=>?_,by simp[k3]⟩
   cases i with
   |zero=>exact(s2.trans s3).mu _ _ hd
   |succ i=>simp_all
  have hFd:F g0.nx=none:=(hI xs).fresh h0 hd0
  rw[hdB]at hj
  rcases hj with⟨rfl,hi⟩|⟨c,rfl,hd⟩
  ·grind[Vs]
  exact wpIn_mono (stop c _ _ hFd hd none g3 w4 _ rfl hR3 hF4) fun _ _ _=>Vs.later s
end
def XO (P:Program) (A:TP) (nt:Nat) (ops:Array Oper):List Oper→Fr→A5→(Fr→A5→Prop)→Prop
 |[],fr,H,K=>K fr H
 | o ::rest,fr,H,K=>
  GV nt o.dst=true∧
   match o.guard with
   |none=>Ih P A o (ev fr) H fun v H'=>XO P A nt ops rest (fr.put o.dst v) H' K
   | some (j,want)=>
    match(ops[j]?).bind (·.dst)with
    | some d=>
     match fr.s d with
     | .bool c=>
      (c=want→Ih P A o (ev (fr.put (some d) (.bool want))) H fun v H'=>XO P A nt ops rest ((fr.put (some d) (.bool want)).put o.dst v) H' K)∧
       (c= !want→XO P A nt ops rest ((fr.put (some d) (.bool !want)).put o.dst (.tup [])) H K)
     |_=>False
    |none=>False
theorem Pz {P:Program}{H:A5}{K K':V→A5→Prop}{ts:List TypeId}{vs:List V}(h:Hm P H K ts vs)(hk:∀v H',K v H'→K' v H'):Hm P H K' ts vs:=by
 unfold Hm at h ⊢
 split at h
 ·obtain⟨e,sz,by_,z,k1,k2,k3,k4,k5,k6,k7,k8,k9,xs',ys',l1,l2,k10,k11,k12,k13,k14,k15⟩:=h;exact⟨e,sz,by_,z,k1,k2,k3,k4,k5,k6,k7,k8,k9,xs',ys',l1,l2,k10,k11,k12,k13,fun e=>hk _ _ (k14 e),fun t e1 e2=>hk _ _ (k15 t e1 e2)⟩
 omega
def Mp {P:Program} {A:TP} {o:Oper} {ρ:Operand→V} {H:A5} {K K':V→A5→Prop} (h:Ih P A o ρ H K) (hk:∀v H',K v H'→K' v H'):Ih P A o ρ H K':=by
 unfold Ih at h ⊢
 split at h
 ·rcases h with⟨z,h1,h2,h3⟩|⟨h1,sz,h2⟩
  ·grind
  exact .inr ⟨h1,sz,fun q id hq hid=>hk _ _ (h2 q id hq hid)⟩
 ·grind
 ·grind
 ·have key:∀{K K':V→A5→Prop} {t:TypeId} {l c:V},(∀v H',K v H'→K' v H')→QR P H K t l c→QR P H K' t l c:=by
   intro K K' t l c hk h
   unfold QR at h ⊢
   split at h
   ·obtain⟨e,sz,by_,z,q1,q2,q3,q4,q5,q6,q7,q8,q9,q10,q11,q12⟩:=h
    simp_all
   omega
  grind[Yk]
 ·exact h.imp (hk _ _) fun⟨h1,sz,h2⟩=>⟨h1,sz,fun q hq=>hk _ _ (h2 q hq)⟩
 ·exact h.imp (hk _ _) fun⟨h1,sz,h2⟩=>⟨h1,sz,fun q hq=>hk _ _ (h2 q hq)⟩
 ·grind[litO]
 ·grind[AC3]
 ·grind[Ha]
 ·grind[Ha]
 ·grind[NO]
 ·grind[SH]
 ·grind[Ob]
 ·grind
 ·split at h
  ·exact h.mono hk
  ·rcases h with h|h|h
   rotate_left
   ·refine .inr (.inl ?_)
    unfold Py at h ⊢
    split at h
    ·obtain⟨e,sz,by_,z,k1,k3,k4,k5,k6,k7,k8,k9,h⟩:=h;refine⟨e,sz,by_,z,k1,k3,k4,k5,k6,k7,k8,k9,?_⟩
     grind[KQ]
    omega
   ·exact .inr (.inr (Pz h fun v H' ⟨y,H2,h1,h2,h3⟩=>⟨y,H2,h1,h2,hk _ _ h3⟩))
   grind[Pz]
  ·unfold YT at h ⊢
   grind
  ·unfold Tw at h ⊢
   split at h
   ·obtain⟨e,sz,z,xs,k1,k2,k3,k4,k5,k6,k7,k8⟩:=h;exact⟨e,sz,z,xs,k1,k2,k3,k4,k5,k6,k7,hk _ _ k8⟩
   exact h.elim
  ·obtain⟨v,h1,h2⟩:=h;exact⟨v,h1,hk _ _ h2⟩
  exact h.elim
 obtain⟨v,h1,h2⟩:=h;exact⟨v,h1,hk _ _ h2⟩
def XH {fr:Fr}{d:Nat}{v:V}(h:fr.s d=v):fr.put (some d) v=fr:=by
 obtain⟨s,df⟩:=fr;simp only[Fr.put,Fr.mk.injEq,Q0]
 funext t
 simp_all
def MT {P:Program} {A:TP} {nt:Nat} {ops:Array Oper} {K:Fr→A5→Prop}:∀(l:List Oper) (fr:Fr) (H:A5),XO P A nt ops l fr H K→Jp P A nt ops l fr H K
 |[],_,_,h=>h
 | o ::rest,fr,H,h=>by
  simp only[XO]at h
  simp only[Jp];refine⟨h.1,?_⟩;obtain⟨_,h⟩:=h
  have mono:∀fr,Ih P A o (ev fr) H (fun v H'=>XO P A nt ops rest (fr.put o.dst v) H' K)→Ih P A o (ev fr) H fun v H'=>Jp P A nt ops rest (fr.put o.dst v) H' K:=by
   intro fr hh;refine Mp hh fun v H' hk=>MT rest _ _ hk
  unfold BL
  split at h
  ·simp_all
  rename_i j want hg
  try simp only[hg]
  split at h
  ·rename_i d hd
   try simp only[hd]
   split at h
   ·rename_i c hc
    try simp only[hc]
    obtain⟨h1,h2⟩:=h
    cases c<;>cases want<;>simp only[beq_self_eq_true,R3,Bj,reduceCtorEq,false_implies,true_implies,forall_const]at h1 h2 ⊢
    all_goals first
     |(rw[XH hc]at h1;exact mono _ h1)
     |(rw[XH hc]at h2;exact MT rest _ _ h2)
   grind
  grind
section
variable {P:Program}{nt:Nat}{rd:Option Nat}{fr:Fr}{H:A5}{Q:Exit→Fr→A5→Prop}
def W4.step (A:TP){id:Nat}{ops:Array Oper}{rest:Code}(h:∀K:Fr→A5→Prop,(∀fr' H',W4 P nt rd rest fr' H' Q→K fr' H')→XO P A nt ops ops.toList fr H K):
 W4 P nt rd (.seq (.region id ops false) rest) fr H Q:=
 W4.seq (W4.region (A:=A) (MT _ _ _ (h _ fun _ _ x=>x)))
def W4.last (A:TP){id:Nat}{ops:Array Oper}(h:∀K:Fr→A5→Prop,(∀fr' H',Q .normal fr' H'→K fr' H')→XO P A nt ops ops.toList fr H K):
 W4 P nt rd (.region id ops false) fr H Q:=W4.region (A:=A) (MT _ _ _ (h _ fun _ _ x=>x))
def Nj:List (Nat×V)→Nat→V
 |[],_=>.bad
 |(k,v)::l,t=>if t=k then v else Nj l t
def mk (l:List (Nat×V))(df:List Nat):Fr:=⟨Nj l,df⟩
end
structure Au1 where
 sz:Nat
 by_:Nat
 ag:Bool
 sl:Option Nat
 ar:Option (Nat×Nat)
 fs:List (Option (Nat×Nat))
 pl:Option (List (Nat×Nat))
 ze:Option V
 ek:Option (List Nat)
 st:Bool
 bo:Bool
 ik:Option IntKind
 nif:Bool
def Ar8 (P:Program)(t:TypeId):Nat→List (Option (Nat×Nat))→Prop
 |_,[]=>True
 |i,some p::l=>fdO P t i=some p∧Ar8 P t (i+1) l
 |i,none::l=>Ar8 P t (i+1) l
def Co {α:Type}(o:Option α)(p:α→Prop):Prop:=
 match o with
 |some x=>p x
 |none=>True
structure AZ9 (P:Program) (t:TypeId) (I:Au1):Prop where
 sz:Ev P t=some I.sz
 by_:Qj P t=some I.by_
 ag:Zj P t=some I.ag
 sl:Fd P t=I.sl
 ar:arO P t=I.ar
 fs:Ar8 P t 0 I.fs
 pl:Co I.pl fun l=>OL P t=some l
 ze:Co I.ze fun z=>ID P t=some z
 ek:Co I.ek fun k=>GM P 9 t=some k
 st:VA P t=I.st
 bo:I.bo=true→Al0 (P.underlying t)=true
 ik:Co I.ik fun k=>P.underlying t=some (.int k)
 nif:I.nif=true→ifO P t=false
abbrev GY:=List (Nat×Au1)
def Lf (P:Program):GY→Prop
 |[]=>True
 |(t,I)::l=>AZ9 P t I∧Lf P l
def tg:GY→Nat→Option Au1
 |[],_=>none
 |(k,I)::l,t=>match Nat.beq t k with|true=>some I|false=>tg l t
def H7 {P:Program} {T:GY} (h:Lf P T) {t:Nat} {I:Au1} (hg:tg T t=some I):AZ9 P t I:=by
 induction T with
 |nil=>cases hg
 |cons p l ih=>
  obtain⟨k,J⟩:=p
  simp only[tg]at hg
  split at hg
  ·simp_all[Lf]
  exact ih h.2 hg
def Wp {P:Program}{t:TypeId}:∀(l:List (Option (Nat×Nat))) (i j:Nat) (p:Nat×Nat),Ar8 P t i l→l[j]? =some (some p)→fdO P t (i+j)=some p
 |[],_,_,_,_,h=>by simp at h
 |some q::l,i,0,p,ho,h=>by simp_all[Ar8]
 |none::l,i,0,p,ho,h=>by simp at h
 |some q::l,i,j+1,p,ho,h=>by have:=Wp l (i+1) j p ho.2 (by grind);rwa[show i+(j+1)=i+1+j by omega]
 |none::l,i,j+1,p,ho,h=>by have:=Wp l (i+1) j p ho (by grind);rwa[show i+(j+1)=i+1+j by omega]
inductive Sl where
 |v (x:V)
 |b (c:Bool)
 |g (j:Nat) (w:Bool) (x:V)
def Sl.V:Sl→V
 | .v x=>x
 | .b c=>.bool c
 | .g _ _ x=>x
def Sl.n:Sl→Sl
 | .g _ _ x=>.v x
 |s=>s
abbrev Fl:=List (Nat×Sl)
def lk:Fl→Nat→Sl
 |[],_=>.v .bad
 |(k,x)::l,t=>match Nat.beq t k with|true=>x|false=>lk l t
def isB (v:V)(w:Bool):Bool:=
 match v with
 | .bool c=>c==w
 |_=>false
def CD:Fl→Nat→V
 |[],_=>.bad
 |(k,s)::l,t=>
  match Nat.beq t k with
  |true=>(match s with| .v x=>x| .b c=>.bool c| .g j w x=>bif isB (CD l j) w then x else .tup [])
  |false=>CD l t
def slV (l:Fl):Sl→V
 | .v x=>x
 | .b c=>.bool c
 | .g j w x=>bif isB (CD l j) w then x else .tup []
def Ar9:Fl→Nat→Nat→Bool
 |[],_,_=>false
 |(k,_)::l,t,j=>match Nat.beq k j with|true=>false|false=>(match Nat.beq k t with|true=>true|false=>Ar9 l t j)
def AE6:List (Nat×Bool)→Nat→Bool→Bool
 |[],_,_=>false
 |(j,w)::G,j',w'=>match Nat.beq j j'&&(w==w')with|true=>true|false=>AE6 G j' w'
def XP (G:List (Nat×Bool)) (l:Fl) (t:Nat):Option Sl:=
 match lk l t with
 | .g j w x=>
  (match Ar9 l t j with
   | true=>
    (match AE6 G j w with
     |true=>some (.v x)
     |false=>(match lk l j with| .b c=>(match c==w with|true=>some (.v x)|false=>some (.v (.tup [])))|_=>none))
   |false=>none)
 |s=>some s
def AL6 (G:List (Nat×Bool))(l:Fl)(t:Nat):Sl:=
 match XP G l t with
 |some s=>s
 |none=>.v (CD l t)
def PM:Fl→Nat→Bool→Fl
 |[],_,_=>[]
 |(k,s)::l,d,c=>match Nat.beq d k with|true=>(k,.b c)::l|false=>(k,s)::PM l d c
structure St where
 l:Fl
 df:List Nat
def Ij (op:BinOp)(a b:Int):Bool:=
 match op with
 | .eql=>a==b
 | .neq=>a !=b
 | .lss=>decide (a<b)
 | .leq=>decide (a≤b)
 | .gtr=>decide (a>b)
 | .geq=>decide (a≥b)
 |_=>false
def arI (op:BinOp)(k:IntKind)(a b:Int):Int:=
 match op with
 | .add=>k.wrap (a+b)
 | .sub=>k.wrap (a-b)
 | .mul=>k.wrap (a*b)
 | .quo=>k.wrap (a.tdiv b)
 | .rem=>a.tmod b
 | .and=>k.wrap (BitVec.ofInt k.bits a&&&BitVec.ofInt k.bits b).toNat
 | .or=>k.wrap (BitVec.ofInt k.bits a|||BitVec.ofInt k.bits b).toNat
 | .xor=>k.wrap (BitVec.ofInt k.bits a ^^^ BitVec.ofInt k.bits b).toNat
 | .andNot=>k.wrap (BitVec.ofInt k.bits a&&& ~~~(BitVec.ofInt k.bits b)).toNat
 |_=>0
def shI (op:BinOp)(k:IntKind)(a b:Int):Int:=
 match op with
 | .shl=>k.wrap (a*2 ^ (min b.toNat k.bits))
 |_=>a.fdiv (2 ^ (min b.toNat k.bits))
def AZ1 (op:BinOp)(x y:ByteArray):Bool:=
 match op with
 | .eql=>x.toList==y.toList
 | .neq=> !(x.toList==y.toList)
 | .lss=>Op.bytesLess x.toList y.toList
 | .leq=>Op.bytesLess x.toList y.toList||x.toList==y.toList
 | .gtr=> !(Op.bytesLess x.toList y.toList||x.toList==y.toList)
 | .geq=> !Op.bytesLess x.toList y.toList
 |_=>false
class Ar where
 cmp:BinOp→Int→Int→Bool
 cmp_eq:∀op a b,cmp op a b=Ij op a b
 ar:BinOp→IntKind→Int→Int→Int
 ar_eq:∀op k a b,ar op k a b=arI op k a b
 sh:BinOp→IntKind→Int→Int→Int
 sh_eq:∀op k a b,sh op k a b=shI op k a b
 neg:IntKind→Int→Int
 neg_eq:∀k n,neg k n=k.wrap (0-n)
 wr:IntKind→Int→Int
 wr_eq:∀k n,wr k n=k.wrap n
 scmp:BinOp→ByteArray→ByteArray→Bool
 scmp_eq:∀op a b,scmp op a b=AZ1 op a b
 cat:ByteArray→ByteArray→ByteArray
 cat_eq:∀a b,cat a b=a++b
 slen:ByteArray→Int
 slen_eq:∀s,slen s=s.size
 sat:ByteArray→Int→Int
 sat_eq:∀s i,sat s i=match s[i.toNat]? with|some b=>(b.toNat:Int)|none=>0
 beq:Bool→Bool→Bool
 beq_eq:∀a b,beq a b=(a==b)
 nt:Bool→Bool
 nt_eq:∀a,nt a= !a
 an:Bool→Bool→Bool
 an_eq:∀a b,an a b=(a&&b)
 or:Bool→Bool→Bool
 or_eq:∀a b,or a b=(a||b)
 pk:Bool→Bool→Bool→Bool
 pk_eq:∀c a b,pk c a b=if c then a else b
 mx:Int→Int→Int
 mx_eq:∀a b,mx a b=if a<b then b else a
 mn:Int→Int→Int
 mn_eq:∀a b,mn a b=if b<a then b else a
 ofs:Int→Int→Int
 ofs_eq:∀a b,ofs a b=a+b
 ofN:Nat→Int
 ofN_eq:∀n,ofN n=n
 len:{α:Type}→List α→Int
 len_eq:∀{α:Type} (l:List α),len l=l.length
 lst:{α:Type}→(α→V)→List α→List V
 lst_eq:∀{α:Type} (f:α→V) (l:List α),lst f l=l.map f
variable [Ar]
structure FL where
 ln:List V→(Int→Prop)→Prop
 br:Bool→(Unit→Prop)→(Unit→Prop)→Prop
 need:Prop→(Unit→Prop)→Prop
 needB:Bool→(Unit→Prop)→Prop
 idx:List V→Int→(V→Prop)→Prop
 aidx:Int→Nat→(Nat→Prop)→Prop
 elem:List V→Nat→Nat→Nat→Int→(V→Prop)→Prop
 slice:Nat→List V→E7→Option Int→Option Int→Option Int→(V→Prop)→Prop
 call:V→List V→A5→(V→A5→Prop)→Prop
 pcall:A5→V→List V→(V→Prop)→Prop
 load:A5→Nat→(List V→Prop)→Prop
 store:A5→Nat→Nat→Nat→List V→(A5→Prop)→Prop
 storeP:A5→Nat→Nat→Nat→List V→(A5→Prop)→Prop
 alloc:A5→List V→(Nat→A5→Prop)→Prop
 oalloc:Nat→A5→(Nat→A5→Prop)→Prop
 frz:A5→Nat→(List V→A5→Prop)→Prop
 frzL:A5→Nat→(List V→A5→Prop)→Prop
 frzIn:A5→Nat→Nat→(A5→Prop)→Prop
 adoptIn:A5→Nat→Nat→(A5→Prop)→Prop
 wkB:A5→Nat→(A5→Prop)→Prop
 give:A5→Nat→List V→(A5→Prop)→Prop
 olen:Int→(Int→Prop)→Prop
 ocap:A5→Nat→Int→(Int→Prop)→Prop
 oidx:A5→Nat→Nat→Int→Int→Int→(Int→Prop)→Prop
 oload:A5→Nat→Int→(V→Prop)→Prop
 ostore:A5→Nat→Int→Nat→Nat→Nat→V→(A5→Prop)→Prop
 omk:Nat→Nat→V→Int→Int→A5→(V→A5→Prop)→Prop
 oapp:Nat→Nat→V→A5→V→V→(V→A5→Prop)→Prop
 oappz:Nat→Nat→V→A5→V→Int→(V→A5→Prop)→Prop
 oapps:Nat→V→A5→V→ByteArray→(V→A5→Prop)→Prop
 onil:Nat→A5→(V→A5→Prop)→Prop
 olit:Nat→A5→List V→(V→A5→Prop)→Prop
 ostr:Nat→Nat→A5→V→(V→Prop)→Prop
 mmk:A5→(V→A5→Prop)→Prop
 mget:Nat→A5→V→V→Bool→(V→Prop)→Prop
 mset:Nat→A5→V→V→V→(A5→Prop)→Prop
 mrg:Nat→A5→V→(V→A5→Prop)→Prop
 mnx:A5→V→(V→A5→Prop)→Prop
 men:A5→V→(V→A5→Prop)→Prop
 mdel:List Nat→A5→List V→(V→A5→Prop)→Prop
 oslice:Nat→A5→Nat→Int→Int→Option Int→Option Int→Option Int→(V→Prop)→Prop
 ocopy:Nat→A5→V→V→(V→A5→Prop)→Prop
 oclear:Nat→V→A5→V→(A5→Prop)→Prop
 ofrz:A5→Nat→Int→Int→(List V→A5→Prop)→Prop
 nilc:V→(Unit→Prop)→(Unit→Prop)→Prop
 appn:Nat→Nat→A5→E7→List V→List V→(V→A5→Prop)→Prop
 takeT:A5→(E7→A5→Prop)→Prop
 nameT:A5→(E7→A5→Prop)→Prop
 appq:Nat→Nat→List V→List V→(V→Prop)→Prop
 appw:Nat→Nat→A5→E7→List V→List V→(V→A5→Prop)→Prop
 sim:Code→St→A5→(Exit→St→A5→Prop)→Prop
 fin:List Nat→A5→(A5→Prop)→Prop
def I8 (st:St):Fr:=⟨fun t=>CD st.l t,st.df⟩
structure Fa (fr:Fr) (st:St):Prop where
 s:∀t,Wk (fr.s t) (CD st.l t)
 df:fr.df=st.df
def I6 (P:Program) (nt:Nat) (rd:Option Nat):FL where
 ln:=fun l k=>k l.length
 br:=fun c x y=>(c=true→x ())∧(c=false→y ())
 need:=fun p k=>p∧k ()
 needB:=fun b k=>b=true∧k ()
 idx:=fun xs i k=>(0≤i∧i<xs.length)∧k (xs.getD i.toNat .bad)
 aidx:=fun i n k=>(0≤i∧i<n)∧k i.toNat
 elem:=fun cs off sz n i k=>(0≤i∧i<n∧off+n*sz≤cs.length)∧k (.eref ((cs.drop (off+i.toNat*sz)).take sz) 0)
 slice:=fun sz xs tl lo hi mx k=>
  (0≤lo.getD 0∧lo.getD 0≤hi.getD xs.length∧hi.getD xs.length≤mx.getD xs.length∧mx.getD xs.length≤xs.length∧(mx.isSome=true→hi.isSome=true)∧
   (lo.getD 0≤0∨xs.all (fun x=>x.cells.length==sz)=true))∧
  k (.sl ((xs.drop (lo.getD 0).toNat).take ((hi.getD xs.length).toNat-(lo.getD 0).toNat)) (Jf (lo.getD 0).toNat (hi.getD xs.length).toNat xs.length mx tl))
 call:=Df P
 pcall:=fun H fv args k=>∃v,Qo P fv args H v∧k v
 load:=fun H id k=>∃cs,H id=some (.cells cs)∧k cs
 store:=fun H id off sz vs k=>∃cs vs',M1 vs vs'∧H id=some (.cells cs)∧Nat.ble (off+sz) cs.length=true∧k (upd H id (some (.cells (V4 cs off vs'))))
 storeP:=fun H id off sz vs k=>∃cs,H id=some (.cells cs)∧Nat.ble (off+sz) cs.length=true∧k (upd H id (some (.cells (V4 cs off vs))))
 give:=fun H id cs k=>k (upd H id (some (.cells cs)))
 frz:=fun H id k=>∃cs,H id=some (.cells cs)∧k cs (upd H id none)
 frzL:=fun H id k=>∃cs ds,H id=some (.cells cs)∧M1 cs ds∧k ds (upd H id none)
 frzIn:=fun H id j k=>∃cs q lo n sz xs ys,H id=some (.cells cs)∧cs[j]? =some (.own q lo n)∧H q=some (.arr sz xs)∧M1 (N8 xs lo n) ys∧k (upd (upd H q none) id (some (.cells (cs.set j (.sl ys .ro)))))
 adoptIn:=fun H id j k=>∃cs sz,H id=some (.cells cs)∧cs[j]? =some (.sl [] .nil)∧∀q,H q=none→k (upd (upd H q (some (.arr sz []))) id (some (.cells (cs.set j (.own q 0 0)))))
 wkB:=fun H id k=>∃cs ds,H id=some (.cells cs)∧M1 cs ds∧k (upd H id (some (.cells ds)))
 alloc:=fun H cs k=>∀id,H id=none→k id (upd H id (some (.cells cs)))
 oalloc:=fun sz H k=>∀q id,H q=none→upd H q (some (.arr sz [])) id=none→k id (upd (upd H q (some (.arr sz []))) id (some (.cells [.own q 0 0])))
 olen:=fun n k=>k n
 ocap:=fun H id lo k=>∃sz xs,H id=some (.arr sz xs)∧k ((xs.length:Nat)-lo)
 oidx:=fun H id sz lo n i k=>(∃xs,H id=some (.arr sz xs))∧(0≤i∧i<n)∧k (Ar.ofs lo i)
 oload:=fun H id i k=>∃sz xs,H id=some (.arr sz xs)∧(0≤i∧i<(xs.length:Nat))∧k (xs.getD i.toNat .bad)
 ostore:=fun H id i esz sz off y k=>∃xs y',Cp y y'∧y'.one=true∧y'.cells.length=sz∧off+sz≤esz∧H id=some (.arr esz xs)∧(0≤i∧i<(xs.length:Nat))∧k (upd H id (some (.arr esz (xs.set i.toNat (VU (xs.getD i.toNat .bad) esz sz off y')))))
 omk:=fun sz by_ z n m H k=>(0≤n∧n≤m∧m*(by_:Nat)≤281474976710656)∧∃ys,M1 (List.replicate m.toNat z) ys∧∀id,H id=none→k (.own id 0 n) (upd H id (some (.arr sz ys)))
 onil:=fun sz H k=>∀q,H q=none→k (.own q 0 0) (upd H q (some (.arr sz [])))
 olit:=fun sz H xs k=>∃ys,M1 xs ys∧∀q,H q=none→k (.own q 0 (xs.length:Nat)) (upd H q (some (.arr sz ys)))
 ostr:=fun s d H x k=>∃v,Vi P H s d x v∧k v
 mmk:=fun H k=>AC3 H k
 mget:=fun t H x key ok k=>∃v,Na P H t x key ok v∧k v
 mset:=fun t H x key v k=>MO P H (fun _ H'=>k H') t x key v
 mrg:=fun t H x k=>NO P H k t x
 mnx:=fun H x k=>SH H k x
 men:=fun H x k=>Ob H k x
 mdel:=fun ts H vs k=>AP6 P H k ts vs
 oapp:=fun sz by_ z H x y k=>∃ys',Rn sz H y ys'∧GX H k sz by_ z x ys'
 oappz:=fun sz by_ z H x m k=>(0≤m∧(ownN x+m.toNat)*by_≤140737488355328)∧GX H k sz by_ z x (List.replicate m.toNat z)
 oapps:=fun by_ z H x s k=>GX H k 1 by_ z x (GG s)
 oslice:=fun sz H id l n lo hi mx k=>∃xs,H id=some (.arr sz xs)∧
  (0≤lo.getD 0∧lo.getD 0≤hi.getD n∧hi.getD n≤mx.getD ((xs.length:Nat)-l)∧mx.getD ((xs.length:Nat)-l)≤(xs.length:Nat)-l∧(mx.isSome=true→hi.isSome=true))∧
  k (match mx with|none=>.own id (l+lo.getD 0) (hi.getD n-lo.getD 0)|some _=>.bad)
 ocopy:=fun sz H x y k=>
  match x with
  | .own id lo n=>∃xs ys',H id=some (.arr sz xs)∧Rn sz H y ys'∧
   k (.int .i64 (if n<(ys'.length:Nat)then n else(ys'.length:Nat))) (upd H id (some (.arr sz (AP xs lo.toNat (ys'.take n.toNat)))))
  |_=>False
 oclear:=fun sz z H x k=>
  match x with
  | .own id lo n=>∃xs,H id=some (.arr sz xs)∧k (upd H id (some (.arr sz (AP xs lo.toNat (List.replicate n.toNat z)))))
  |_=>False
 nilc:=fun x a b=>∃p,Aq2 x=some p∧(p→a ())∧b ()
 ofrz:=fun H id lo n k=>∃sz xs ys,H id=some (.arr sz xs)∧M1 (N8 xs lo n) ys∧k ys (upd H id none)
 takeT:=fun H k=>∃τ,Fb H τ∧k τ (G0 H τ)
 nameT:=fun H k=>(∀tl,tl= .nil∨tl= .full→k tl H)∧∀t,H t=none→k (.tok t) (upd H t (some .spare))
 appn:=fun sz by_ H tl xs ys k=>∃xs' ys',M1 xs xs'∧M1 ys ys'∧Fb H tl∧xs'.all (fun x=>x.cells.length==sz)=true∧ys'.all (fun x=>x.cells.length==sz)=true∧(xs'.length+ys'.length)*by_≤140737488355328∧(ys'=[]→k (.sl xs' tl) H)∧
  ∀t,ys'≠[]→G0 H tl t=none→k (.sl (xs'++ys') (.tok t)) (upd (G0 H tl) t (some .spare))
 appq:=fun sz by_ xs ys k=>∃xs' ys',M1 xs xs'∧M1 ys ys'∧xs'.all (fun x=>x.cells.length==sz)=true∧ys'.all (fun x=>x.cells.length==sz)=true∧(xs'.length+ys'.length)*by_≤140737488355328∧k (.sl (xs'++ys') .ro)
 appw:=fun sz by_ H tl xs ys k=>∃xs' ys',M1 xs xs'∧M1 ys ys'∧Fb H tl∧xs'.all (fun x=>x.cells.length==sz)=true∧ys'.all (fun x=>x.cells.length==sz)=true∧(xs'.length+ys'.length)*by_≤140737488355328∧k (.sl (xs'++ys') .ro) (G0 H tl)
 sim:=fun c st H K=>W4 P nt rd c (I8 st) H fun e fr' H'=>∃st',Fa fr' st'∧K e st' H'
 fin:=fun df H k=>AP5 H df∧k (clear H df)
section
variable (E:FL)(T:GY)
def U2 (G:List (Nat×Bool))(l:Fl):Operand→Sl
 | .tmp t=>AL6 G l t
 | .const (.bool b)=>.b b
 | .const v=>.v (cv v)
 | .global n=>.v (N9.gl n)
 | .func f=>.v (.func (.func f) [] [])
def Ag0 (t:Nat) (v:V) (H:A5) (k:V→Prop):Prop:=
 match tg T t with
 |none=>False
 |some I=>
  match v with
  | .eref cs off=>(match GT I.ag I.sz cs off with|some y=>k y|none=>False)
  | .ref id off=>E.load H id fun cs=>(match GT I.ag I.sz cs off with|some y=>k y|none=>False)
  | .elem id i _ off=>E.oload H id i fun x=>(match GT I.ag I.sz x.cells off with|some y=>k y|none=>False)
  |_=>False
def LQ (o:Option V)(k:V→Prop):Prop:=
 match o with
 |some y=>k y
 |none=>False
def Nz (t:Nat)(v:V)(f:Nat)(k:V→Prop):Prop:=
 match tg T t with
 |none=>False
 |some I=>(match I.fs[f]? with|some (some p)=>LQ (At9 v p.1) k|_=>False)
def Zw (t:Nat) (v:V) (f:Nat) (k:V→Prop):Prop:=
 match tg T t with
 |none=>False
 | some I=>
  match I.fs[f]? with
  | some (some p)=>
   (match tg T p.2 with
    |none=>False
    |some J=>(match v with| .agg cs=>LQ (GT J.ag J.sz cs p.1) k|_=>False))
  |_=>False
def Ny (t:Nat) (v:V) (i:V) (k:V→Prop):Prop:=
 match i with
 | .int _ i=>
  (match tg T t with
   |none=>False
   | some I=>
    match I.sl with
    | some e=>
     (match tg T e with
      |none=>False
      |some J=>
       match v with
       | .sl xs _=>E.idx xs i fun x=>(match Nat.beq x.cells.length J.sz with|true=>k (.eref x.cells 0)|false=>False)
       |_=>False)
    |none=>
     match I.ar with
     |some (n,e)=>(match tg T e with|none=>False|some J=>(match v with| .eref cs off=>E.elem cs off J.sz n i k|v=>E.aidx i n fun m=>LQ (At9 v (m*J.sz)) k))
     |none=>False)
 |_=>False
def Zv (t:Nat) (v:V) (i:V) (k:V→Prop):Prop:=
 match i with
 | .int _ i=>
  (match tg T t with
   |none=>False
   |some I=>
    match I.ar with
    |some (n,e)=>(match tg T e with|none=>False|some J=>(match v with| .agg cs=>E.aidx i n fun m=>LQ (GT J.ag J.sz cs (m*J.sz)) k|_=>False))
    |none=>(match v with| .str s=>(match I.st with|true=>E.needB (Ar.an (Ar.cmp .geq i 0) (Ar.cmp .lss i (Ar.slen s))) fun _=>k (.int .u8 (Ar.sat s i))|false=>False)|_=>False))
 |_=>False
def xeq:List V→List V→Option Bool
 |[],[]=>some true
 |x::xs,y::ys=>
  match x,y with
  | .int k a,.int k' b=>if k=k' then(xeq xs ys).map (Ar.an (Ar.cmp .eql a b))else none
  | .str a,.str b=>(xeq xs ys).map (Ar.an (Ar.scmp .eql a b))
  | .bool a,.bool b=>(xeq xs ys).map (Ar.an (Ar.beq a b))
  |_,_=>none
 |_,_=>none
def SX:BinOp→Bool
 | .eql| .neq| .lss| .leq| .gtr| .geq=>true
 |_=>false
def AD9:BinOp→Bool
 | .quo| .rem=>true
 |_=>false
def AO2:BinOp→Bool
 | .add| .sub| .mul| .and| .or| .xor| .andNot=>true
 |_=>false
def AU9 (op:BinOp) (t:Nat) (x y:V) (k:V→Prop):Prop:=
 match x,y with
 | .int ka a,.int kb b=>
  (match IZ op with
   |true=>E.needB (Ar.cmp .geq b 0) fun _=>k (.int ka (Ar.sh op ka a b))
   | false=>
    if ka=kb then
     (match SX op with
      |true=>k (.bool (Ar.cmp op a b))
      |false=>
       match AO2 op with
       |true=>k (.int ka (Ar.ar op ka a b))
       |false=>(match AD9 op with|true=>E.needB (Ar.cmp .neq b 0) fun _=>k (.int ka (Ar.ar op ka a b))|false=>False))
    else False)
 | .str a,.str b=>
  (match SX op with
   |true=>k (.bool (Ar.scmp op a b))
   |false=>(match op with| .add=>E.needB (Ar.cmp .leq (Ar.slen (Ar.cat a b)) 9223372036854775807) fun _=>k (.str (Ar.cat a b))|_=>False))
 | .bool a,.bool b=>
  (match tg T t with
   |none=>False
   |some I=>
    match I.bo with
    |true=>(match op with| .eql=>k (.bool (Ar.beq a b))| .neq=>k (.bool (Ar.nt (Ar.beq a b)))|_=>False)
    |false=>False)
 | .agg xs,.agg ys=>
  (match tg T t with
   |none=>False
   | some I=>
    if I.ag=true∧I.ek=some (xs.map kd)∧ys.map kd=xs.map kd then
     (match op with
      | .eql=>(match xeq xs ys with|some b=>k (.bool b)|none=>False)
      | .neq=>(match xeq xs ys with|some b=>k (.bool (Ar.nt b))|none=>False)
      |_=>False)
    else False)
 |_,_=>False
def xun (op:UnOp)(x:Sl)(k:Sl→Prop):Prop:=
 match op with
 | .not=>(match x with| .b c=>k (.b (!c))| .v (.bool c)=>k (.v (.bool (Ar.nt c)))|_=>False)
 | .neg=>(match x with| .v (.int ki n)=>k (.v (.int ki (Ar.neg ki n)))|_=>False)
 |_=>False
def Av6 (s d:Nat) (x:V) (H:A5) (k:V→Prop):Prop:=
 match tg T s,tg T d with
 | some I,some J=>
  (match I.ik,J.ik,x with
   |some _,some ki,.int _ n=>k (.int ki (Ar.wr ki n))
   |_,_,.str b=>(match I.st,J.st with|true,true=>k (.str b)|_,_=>False)
   |_,_,.own id lo n=>E.ostr s d H (.own id lo n) k
   |_,_,.sl xs tl=>E.ostr s d H (.sl xs tl) k
   |_,_,_=>False)
 |_,_=>False
def Zy (t:Nat) (parts:List (Nat×V)) (k:V→Prop):Prop:=
 match tg T t with
 |none=>False
 | some I=>
  match I.ze with
  | some (.agg cs)=>
   (match I.ar with
    |some (_,e)=>(match tg T e with|none=>False|some J=>(match MD (fun i=>some (i*J.sz,J.sz)) cs parts with|some c=>k (.agg c)|none=>False))
    |none=>(match I.pl with|some pl=>(match MD (fun i=>pl[i]?) cs parts with|some c=>k (.agg c)|none=>False)|none=>False))
  |_=>False
def IF (t n:Nat) (parts:List (Nat×V)) (k:V→Prop):Prop:=
 match tg T t with
 |none=>False
 | some I=>
  match I.sl with
  |none=>False
  | some e=>
   match tg T e with
   |none=>False
   |some J=>
    match J.ze with
    |none=>False
    |some _=>if n*J.sz≤16777216∧parts.length=n∧CM J.sz 0 parts=true then k (.sl (parts.map fun q=>q.2) .full)else False
def Zu (t:Nat) (l c:V) (k:V→Prop):Prop:=
 match l,c with
 | .int _ n,.int _ m=>
  (match tg T t with
   |none=>False
   | some I=>
    match I.sl with
    |none=>False
    | some e=>
     match tg T e with
     |none=>False
     |some J=>
      match J.ze with
      |none=>False
      |some z=>if 0<J.sz∧0<J.by_∧z.one=true∧z.cells.length=J.sz∧n=m∧0≤n∧n*(J.by_:Nat)≤281474976710656 then k (.sl (List.replicate n.toNat z) .ro)else False)
 |_,_=>False
def Zr (t:Nat) (v:V) (lo hi mx:Option (Option Int)) (k:V→Prop):Prop:=
 match lo,hi,mx with
 | some l,some h,some m=>
  (match tg T t with
   |none=>False
   |some I=>
    match I.sl with
    |some e=>(match tg T e with|none=>False|some J=>(match v with| .sl xs tl=>E.slice J.sz xs tl l h m k|_=>False))
    |none=>False)
 |_,_,_=>False
def noPl:E7→Bool
 | .nil=>true
 | .full=>true
 |_=>false
def PH (b:Builtin) (ts:List TypeId) (vs:List V) (k:V→Prop):Prop:=
 match b,ts,vs with
 | .len,[t],[x]=>
  (match tg T t with
   |none=>False
   | some I=>
    match I.sl with
    |some _=>(match x with| .sl xs _=>E.ln xs fun n=>k (.int .i64 n)|_=>False)
    |none=>
     match I.ar with
     |some (n,_)=>k (.int .i64 (Ar.ofN n))
     |none=>(match x with| .str s=>(match I.st with|true=>k (.int .i64 (Ar.slen s))|false=>False)|_=>False))
 | .max,_,[.int ka a,.int kb b]=>if ka=kb then k (.int ka (Ar.mx a b))else False
 | .min,_,[.int ka a,.int kb b]=>if ka=kb then k (.int ka (Ar.mn a b))else False
 | .append,[sT,yT],[.sl xs tl,.sl ys _]=>
  (match tg T sT,tg T yT with
   | some I,some I2=>
    (match I.sl,I2.sl with
     | some e,some _=>
      (match tg T e with
       | some J=>
        (match J.ze with
         |some z=>if 0<J.sz∧0<J.by_∧z.one=true∧z.cells.length=J.sz∧noPl tl=true then E.appq J.sz J.by_ xs ys k else False
         |none=>False)
       |none=>False)
     |_,_=>False)
   |_,_=>False)
 |_,_,_=>False
def AZ8 (c:Operand)(w:Bool)(G:List (Nat×Bool)):List (Nat×Bool):=
 match c with
 | .tmp d=>(d,w)::G
 |_=>G
def Av0 (t:Bool)(x y:Sl)(k:Sl→Prop):Prop:=
 match x,y with
 | .b true,.b true=>k (.b true)
 | .b true,.b false=>k (.v (.bool t))
 | .b true,.v (.bool b)=>k (.v (.bool (Ar.or t b)))
 | .b false,.b true=>k (.v (.bool (Ar.nt t)))
 | .b false,.b false=>k (.b false)
 | .b false,.v (.bool b)=>k (.v (.bool (Ar.an (Ar.nt t) b)))
 | .v (.bool a),.b true=>k (.v (.bool (Ar.or (Ar.nt t) a)))
 | .v (.bool a),.b false=>k (.v (.bool (Ar.an t a)))
 | .v (.bool a),.v (.bool b)=>k (.v (.bool (Ar.pk t a b)))
 |x,y=>E.br t (fun _=>k x) (fun _=>k y)
def AT9:V→Bool
 | .eref _ _=>true
 | .ref _ _=>true
 |_=>false
def Mw (v:V):Bool:=
 match v with
 | .sl [] .nil=>true
 |_=>false
def AO1 (x:Operand):Bool:=
 match x with
 | .const (.slice _ _ _)=>true
 |_=>false
def Mv (G:List (Nat×Bool))(o:Oper)(l:Fl):Bool:=
 match o.op with
 | .move x=> !(AO1 x)
 | .assign x=> !(AO1 x)
 | .pick _ _ _=>true
 | .load _ x=>AT9 (U2 G l x).V
 | .fieldAddr _ x _=>AT9 (U2 G l x).V
 | .field _ _ _=>true
 | .build _ _=>true
 | .binOp op _ _ _ _=>SX op||AO2 op
 | .unOp _ _ _=>true
 | .extract _ _=>true
 | .call c=>(match c.callee with| .builtin .len=>true|_=>false)
 |_=>false
def AS3 (t:Nat) (H:A5) (id:Nat) (lo n:Int) (i:V) (k:V→Prop):Prop:=
 match i with
 | .int _ i=>
  (match tg T t with
   |none=>False
   |some I=>
    match I.sl with
    |some e=>(match tg T e with|none=>False|some J=>E.oidx H id J.sz lo n i fun j=>k (.elem id j J.sz 0))
    |none=>False)
 |_=>False
def Av3 (b:Builtin) (ts:List TypeId) (H:A5) (v:V) (k:V→Prop):Prop:=
 match ts with
 | [t] =>
  (match tg T t with
   |none=>False
   | some I=>
    (match I.sl with
     | some _=>
      (match b,v with
       | .len,.own _ _ n=>E.olen n fun n=>k (.int .i64 n)
       | .cap,.own id lo _=>E.ocap H id lo fun n=>k (.int .i64 n)
       | .cap,.sl [] .nil=>k (.int .i64 0)
       | .cap,.sl [] .full=>k (.int .i64 0)
       |_,_=>False)
     |none=>False))
 |_=>False
def ZY (b:Builtin)(vs:List V):Option V:=
 match b,vs with
 | .len,[.own id lo n]=>some (.own id lo n)
 | .cap,[v]=>some v
 |_,_=>none
def Vu (t:Nat) (H:A5) (id:Nat) (l n:Int) (lo hi mx:Option (Option Int)) (k:V→Prop):Prop:=
 match lo,hi,mx with
 | some a,some b,some c=>
  (match tg T t with
   |none=>False
   |some I=>(match I.sl with|some e=>(match tg T e with|none=>False|some J=>E.oslice J.sz H id l n a b c k)|none=>False))
 |_,_,_=>False
def xq (G:List (Nat×Bool)) (o:Oper) (l:Fl) (H:A5) (k:Sl→Prop):Prop:=
 match o.op with
 | .move x=>k (U2 G l x)
 | .assign x=>k (U2 G l x)
 | .pick c x y=>
  (match U2 G l c with
   | .b true=>k (U2 G l x)
   | .b false=>k (U2 G l y)
   | .v (.bool t)=>Av0 E t (U2 (AZ8 c true G) l x) (U2 (AZ8 c false G) l y) k
   |_=>False)
 | .box _ x=>(match(U2 G l x).V.one with|true=>k (.v (.eref (U2 G l x).V.cells 0))|false=>False)
 | .build t ps=>Zy T t (ps.toList.map fun p=>(p.1,(U2 G l p.2).V)) fun v=>k (.v v)
 | .buildSlice t n ps=>IF T t n (ps.toList.map fun p=>(p.1,(U2 G l p.2).V)) fun v=>k (.v v)
 | .makeSlice t x y=>Zu T t (U2 G l x).V (U2 G l y).V fun v=>k (.v v)
 | .load t x=>Ag0 E T t (U2 G l x).V H fun v=>k (.v v)
 | .nilCheck x=>(match Ah8 (U2 G l x).V with|true=>k (U2 G l x)|false=>False)
 | .binOp op t x y _=>AU9 E T op t (U2 G l x).V (U2 G l y).V fun v=>k (.v v)
 | .unOp op _ x=>xun op (U2 G l x) k
 | .convert s d x=>Av6 E T s d (U2 G l x).V H fun v=>k (.v v)
 | .lookup t x y ok=>E.mget t H (U2 G l x).V (U2 G l y).V ok fun v=>k (.v v)
 | .makeInterface t x=>(match tg T t with|some I=>(match I.nif with|true=>k (.v (.iface t (U2 G l x).V))|false=>False)|none=>False)
 | .makeFunc fn fs cs=>k (.v (.func fn (fs.toList.map fun x=>(U2 G l x).V) (cs.toList.map fun x=>(U2 G l x).V)))
 | .slice t x lo hi mx=>
  match(U2 G l x).V with
  | .own id l0 n=>Vu E T t H id l0 n (Cu (lo.map fun x=>(U2 G l x).V)) (Cu (hi.map fun x=>(U2 G l x).V)) (Cu (mx.map fun x=>(U2 G l x).V)) fun v=>k (.v v)
  |v=>Zr E T t v (Cu (lo.map fun x=>(U2 G l x).V)) (Cu (hi.map fun x=>(U2 G l x).V)) (Cu (mx.map fun x=>(U2 G l x).V)) fun v=>k (.v v)
 | .fieldAddr t x f=>Nz T t (U2 G l x).V f fun v=>k (.v v)
 | .field t x f=>Zw T t (U2 G l x).V f fun v=>k (.v v)
 | .indexAddr t x y=>(match(U2 G l x).V with| .own id lo n=>AS3 E T t H id lo n (U2 G l y).V fun v=>k (.v v)|v=>Ny E T t v (U2 G l y).V fun v=>k (.v v))
 | .index t x y=>Zv E T t (U2 G l x).V (U2 G l y).V fun v=>k (.v v)
 | .extract x n=>(match(U2 G l x).V with| .tup cs=>LQ cs[n]? fun v=>k (.v v)|_=>False)
 | .call c=>
  (match c.callee with
   | .builtin b=>
    (match ZY b (c.args.toList.map fun x=>(U2 G l x).V)with
     |some w=>Av3 E T b c.argTypes.toList H w fun v=>k (.v v)
     |none=>PH E T b c.argTypes.toList (c.args.toList.map fun x=>(U2 G l x).V) fun v=>k (.v v))
   |_=>False)
 |_=>False
end
end Go.Ab
