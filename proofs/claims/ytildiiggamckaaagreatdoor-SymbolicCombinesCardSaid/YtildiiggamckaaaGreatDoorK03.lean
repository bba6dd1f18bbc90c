/- . -/
import Derived.Test.YtildiiggamckaaaGreatDoorK02
import Derived.MapKept
import Derived.RangeFuncRecord
import Derived.Laws.BytesString
import Derived.Maps.RangeRun
import Derived.OrdersIn
set_option linter.all false
namespace Go.Ab
open Go.RowKit Go.MapKept
variable [L6]
def Kf:V→Option Value
 | .bool b=>some (.bool b)
 | .int k n=>some (.int k n)
 | .str s=>some (.string s)
 |_=>none
def ID:List V→Option (List Value)
 |[]=>some []
 |x::l=>match Kf x,ID l with|some v,some r=>some (v::r)|_,_=>none
def Bk:V→Option Value
 | .agg cs=>(ID cs).map fun l=>.agg l.toArray
 |v=>Kf v
theorem Ud {g:Gh}{w:World}{x:V}{u v:Value}(h:Kf x=some u)(hv:VR g w v x):v=u:=by
 cases x<;>simp only[Kf,E8,reduceCtorEq]at h<;>subst h<;>cases hv<;>rfl
theorem Uc {g:Gh}{w:World}{x:V}{u:Value}(h:Kf x=some u):VR g w u x:=by
 cases x<;>simp only[Kf,E8,reduceCtorEq]at h<;>subst h<;>constructor
def Ab2 {x:V}{u:Value}(h:Kf x=some u):u.oneCell'=true:=by
 cases x<;>simp only[Kf,E8,reduceCtorEq]at h<;>subst h<;>rfl
theorem Ue {x y:V}{u:Value}(h:Kf x=some u)(h':Kf y=some u):x=y:=by
 cases x<;>simp only[Kf,E8,reduceCtorEq]at h<;>subst h<;>cases y<;>simp_all[Kf]
def Pz:∀{l:List V} {r:List Value},ID l=some r→r.length=l.length
 |[],r,h=>by simp_all[ID]
 |x::l,r,h=>by
  unfold ID at h
  split at h
  ·rename_i v r' h1 h2;cases h;simp[Pz h2]
  cases h
def OL:∀{l:List V} {r:List Value},ID l=some r→∀i,i<l.length→Kf (l.getD i .bad)=some (r.getD i undef)
 |[],r,h,i,hi=>by simp at hi
 | x::l,r,h,i,hi=>by
  unfold ID at h
  split at h
  ·rename_i v r' h1 h2;cases h
   cases i with
   |zero=>grind
   |succ i=>simpa using OL h2 i (by grind)
  cases h
def Py {g:Gh} {w:World} {x:V} {u:Value} (h:Bk x=some u):VR g w u x:=by
 unfold Bk at h
 split at h
 ·rename_i cs
  cases hr:ID cs with
  |none=>rw[hr]at h;cases h
  |some r=>
   rw[hr]at h
   simp only[J4,E8]at h
   subst h;have e:=Pz hr;refine .agg (by simp[e]) (fun i hi=>?_) fun i hi=>?_
   ·have:=Ab2 (OL hr i hi);simp_all
   have:=Uc (g:=g) (w:=w) (OL hr i hi);simp_all
 grind[Uc]
def Ke {g:Gh} {w:World} {x:V} {u v:Value} (h:Bk x=some u) (hv:VR g w v x):v=u:=by
 unfold Bk at h
 split at h
 ·rename_i cs
  cases hr:ID cs with
  |none=>rw[hr]at h;cases h
  | some r=>
   rw[hr]at h
   simp only[J4,E8]at h
   subst h;have e:=Pz hr
   cases hv with
   |agg hl h1 hv=>
    rename_i vs
    congr 1
    apply Fz
    ·simp[hl,e]
    intro i hi hi'
    have hi2:i<cs.length:=by omega
    have:=Ud (OL hr i hi2) (hv i hi2)
    simp_all
 grind[Ud]
def Je (es:Array MapEntry)(clock:Nat):Prop:=(∀x∈es.toList,x.born<clock)∧(es.toList.map (·.born)).Nodup
def Je.empty:Je #[] 0:=⟨fun x h=>by simp at h,by simp⟩
def Je.push {es:Array MapEntry}{clock:Nat}(h:Je es clock)(k v:Value):Je (es.push {key:=k,val:=v,born:=clock}) (clock+1):=by
 grind[Je]
def Je.modify {es:Array MapEntry} {clock:Nat} (h:Je es clock) (i:Nat) (k v:Value):Je (es.modify i fun e=>{e with key:=k,val:=v}) clock:=by
 have hb:(es.modify i fun e=>{e with key:=k,val:=v}).toList.map (·.born)=es.toList.map (·.born):=by
  apply Bv
  grind
 refine⟨fun x hx=>?_,by rw[hb];exact h.2⟩
 have:x.born∈es.toList.map (·.born):=by rw[←hb];grind
 grind[Je]
def Je.sub {es es':Array MapEntry}{clock:Nat}(h:Je es clock)(hs:es'.toList.Sublist es.toList):Je es' clock:=⟨fun x hx=>h.1 x (hs.subset hx),(hs.map _).nodup h.2⟩
theorem Ug:∀{l l':List V} {r:List Value},ID l=some r→ID l'=some r→l=l'
 |[],l',r,h,h'=>by
  simp only[ID,E8]at h;subst h
  cases l' with
  |nil=>rfl
  |cons x l=>grind[ID]
 | x::l,l',r,h,h'=>by
  unfold ID at h
  split at h
  ·rename_i v r' h1 h2;cases h
   cases l' with
   |nil=>cases h'
   |cons y l'=>
    unfold ID at h'
    split at h'
    ·rename_i v2 r2 h3 h4;cases h';rw[Ue h1 h3,Ug h2 h4]
    cases h'
  cases h
theorem Uf {x:V}{u:Value}(h:Kf x=some u)(c:Array Value):u≠ .agg c:=by
 cases x<;>simp only[Kf,E8,reduceCtorEq]at h<;>subst h<;>simp
def LH {x:V} {u:Value} (h:Bk x=some u):(∃cs r,x= .agg cs∧ID cs=some r∧u= .agg r.toArray)∨Kf x=some u:=by
 unfold Bk at h
 split at h
 ·rename_i cs
  cases hr:ID cs with
  |none=>rw[hr]at h;cases h
  |some r=>rw[hr]at h;simp_all
 grind
def Ub {x y:V} {u:Value} (h:Bk x=some u) (h':Bk y=some u):x=y:=by
 rcases LH h with⟨a,r,rfl,h1,rfl⟩|h1
 ·rcases LH h' with⟨b,r2,rfl,h2,e⟩|h2
  ·have:r=r2:=by grind
   grind[Ug]
  grind[Uf]
 rcases LH h' with⟨b,r2,rfl,h2,rfl⟩|h2
 ·grind[Uf]
 grind[Ue]
def Fk:TypeDesc→Value→Prop
 | .array n _,v=>Mb .i64 n v
 | .struct fs,v=>Mb .i64 fs.size v
 |d,v=>IsKey d v
structure Cg (d:TypeDesc) (o:Obj) (m:List (V×V)):Prop where
 ex:∃es clock,o= .map es clock∧es.toList.map (fun e=>(some e.key,some e.val))=m.map fun p=>(Bk p.1,Bk p.2)
 keys:∀p∈m,∃k,Bk p.1=some k∧Fk d k
 nodup:(m.map (·.1)).Nodup
 st:∀es clock,o= .map es clock→Je es clock
def Cg.empty (d:TypeDesc):Cg d (.map #[] 0) []:=⟨⟨_,_,rfl,rfl⟩,fun p h=>(by cases h),List.nodup_nil,fun es clock h=>by simp_all[Je]⟩
theorem KU {α:Type}{l:List α}(h:l.Nodup){i j:Nat}(hi:i<l.length)(hj:j<l.length)(e:l[i]=l[j]):i=j:=by
 have h:=List.pairwise_iff_getElem.1 h
 grind
def Au8 (P:Program)(et:TypeId)(m:List (V×V))(key:V)(ok:Bool)(v:V):Prop:=
 ((∀p∈m,p.1≠key)∧∃z,HA P et=some z∧v=if ok=true then .tup [z,.bool false]else z)∨∃y,(key,y)∈m∧v=if ok=true then .tup [y,.bool true]else y
def Ao8 (P:Program)(H:A4)(t:TypeId)(x key:V)(ok:Bool)(v:V):Prop:=
 ∃kt et d kv id o m,P.underlying t=some (.map kt et)∧KG P kt (Fk d)∧Bk key=some kv∧Fk d kv∧x= .map id∧H id=some (.obj o)∧Cg d o m∧Au8 P et m key ok v
def Xq (P:Program)(t:TypeId)(x key:V)(ok:Bool)(v:V):Prop:=
 ∃kt et ks xs n,P.underlying t=some (.map kt et)∧P.underlying kt=some (.int .i64)∧x= .fmap ks xs∧key= .int .i64 n∧ok=false∧((∃i:Nat,ks[i]? =some n∧v=xs.getD i .bad)∨((∀k∈ks,k≠n)∧HA P et=some v))
def Xp (P:Program) (H:A4) (t:TypeId) (x key:V) (ok:Bool) (v:V):Prop:=
 ∃kt et G kv id ks xs,P.underlying t=some (.map kt et)∧KG P kt G∧Bk key=some kv∧G kv∧x= .map id∧H id=some (.vm ks xs)∧(∀k∈ks,G k)∧
  (((∀k∈ks,k≠kv)∧∃z z',HA P et=some z∧BV z z'∧v=if ok=true then .tup [z',.bool false]else z')∨∃i:Nat,ks[i]? =some kv∧v=if ok=true then .tup [xs.getD i .bad,.bool true]else xs.getD i .bad)
def La (P:Program)(H:A4)(t:TypeId)(x key:V)(ok:Bool)(v:V):Prop:=Ao8 P H t x key ok v∨Xq P t x key ok v∨Xp P H t x key ok v
def Ae3 (H:A4)(K:V→A4→Prop):Prop:=(∀id,H id=none→K (.map id) (upd H id (some (.obj (.map #[] 0)))))∨(∀id,H id=none→K (.map id) (upd H id (some (.fm [] []))))∨∀id,H id=none→K (.map id) (upd H id (some (.vm [] [])))
def WQ (P:Program)(H:A4)(K:V→A4→Prop)(t:TypeId)(x key val:V):Prop:=
 ∃kt et ks xs n id,P.underlying t=some (.map kt et)∧P.underlying kt=some (.int .i64)∧x= .map id∧H id=some (.fm ks xs)∧key= .int .i64 n∧(∀k∈ks,k≠n)∧K .bad (upd H id (some (.fm (ks++[n]) (xs++[val]))))
def Ay4 (m:List (V×V))(k v:V)(m':List (V×V)):Prop:=
 ((∀p∈m,p.1≠k)∧m'=m++[(k,v)])∨∃a y b,m=a++(k,y)::b∧m'=a++(k,v)::b
def Ak8 (P:Program) (H:A4) (K:V→A4→Prop) (t:TypeId) (x key val:V):Prop:=
 ∃kt et d kv vv id o m m',P.underlying t=some (.map kt et)∧KG P kt (Fk d)∧Bk key=some kv∧Fk d kv∧Bk val=some vv∧x= .map id∧H id=some (.obj o)∧Cg d o m∧Ay4 m key val m'∧
  ∀o',Cg d o' m'→K .bad (upd H id (some (.obj o')))
def WP (P:Program) (H:A4) (K:V→A4→Prop) (t:TypeId) (x key val:V):Prop:=
 ∃kt et G kv id ks xs,P.underlying t=some (.map kt et)∧KG P kt G∧Bk key=some kv∧G kv∧x= .map id∧H id=some (.vm ks xs)∧(∀k∈ks,G k)∧
  (((∀k∈ks,k≠kv)∧K .bad (upd H id (some (.vm (ks++[kv]) (xs++[val])))))∨∃i:Nat,ks[i]? =some kv∧K .bad (upd H id (some (.vm ks (xs.set i val)))))
def KL (P:Program)(H:A4)(K:V→A4→Prop)(t:TypeId)(x key val:V):Prop:=Ak8 P H K t x key val∨WQ P H K t x key val∨WP P H K t x key val
def YJ {H:A4}{K K':V→A4→Prop}(h:Ae3 H K)(hk:∀v H',K v H'→K' v H'):Ae3 H K':=h.imp (fun h id hid=>hk _ _ (h id hid)) fun h=>h.imp (fun h id hid=>hk _ _ (h id hid)) fun h id hid=>hk _ _ (h id hid)
theorem Gw {P:Program}{H:A4}{K K':V→A4→Prop}{t:TypeId}{x key val:V}(h:KL P H K t x key val)(hk:∀H',K .bad H'→K' .bad H'):KL P H K' t x key val:=by
 rcases h with⟨kt,et,d,kv,vv,id,o,m,m',h1,h2,h3,h4,h5,h6,h7,h8,h9,h⟩|⟨kt,et,ks,xs,n,id,h1,h2,h3,h4,h5,h6,h⟩|⟨kt,et,G,kv,id,ks,xs,h1,h2,h3,h4,h5,h6,h7,h⟩
 ·exact .inl ⟨kt,et,d,kv,vv,id,o,m,m',h1,h2,h3,h4,h5,h6,h7,h8,h9,fun o' ho=>hk _ (h o' ho)⟩
 ·exact .inr (.inl ⟨kt,et,ks,xs,n,id,h1,h2,h3,h4,h5,h6,hk _ h⟩)
 exact .inr (.inr ⟨kt,et,G,kv,id,ks,xs,h1,h2,h3,h4,h5,h6,h7,h.imp (fun h=>⟨h.1,hk _ h.2⟩) fun⟨i,a,b⟩=>⟨i,a,hk _ b⟩⟩)
def SN {P:Program}{H H':A4}{t:TypeId}{x key v:V}{ok:Bool}(hl:∀id b,H id=some b→H' id=some b)(h:La P H t x key ok v):La P H' t x key ok v:=by
 rcases h with⟨kt,et,d,kv,id,o,m,h1,h2,h3,h4,h5,h6,h7⟩|h|⟨kt,et,G,kv,id,ks,xs,h1,h2,h3,h4,h5,h6,h7⟩
 ·exact .inl ⟨kt,et,d,kv,id,o,m,h1,h2,h3,h4,h5,hl _ _ h6,h7⟩
 ·simp_all[La]
 exact .inr (.inr ⟨kt,et,G,kv,id,ks,xs,h1,h2,h3,h4,h5,hl _ _ h6,h7⟩)
theorem Cg.entry {d:TypeDesc}{m:List (V×V)}{es:Array MapEntry}(he:es.toList.map (fun e=>(some e.key,some e.val))=m.map fun p=>(Bk p.1,Bk p.2))(j:Nat):
 (∀e,es[j]? =some e→∃p,m[j]? =some p∧Bk p.1=some e.key∧Bk p.2=some e.val)∧∀p,m[j]? =some p→∃e,es[j]? =some e∧Bk p.1=some e.key∧Bk p.2=some e.val:=by
 have:=Q0 (fun l=>l[j]?) he
 grind
def Cg.isKeys {d:TypeDesc}{m:List (V×V)}{es:Array MapEntry}(he:es.toList.map (fun e=>(some e.key,some e.val))=m.map fun p=>(Bk p.1,Bk p.2))(hk:∀p∈m,∃k,Bk p.1=some k∧Fk d k):∀e∈es.toList,Fk d e.key:=by
 intro e h;obtain⟨j,hj,e1⟩:=AM h;obtain⟨p,h1,h2,_⟩:=(Cg.entry (d:=d) he j).1 e (by rw[←Cr,D5 hj,e1]);obtain⟨k,h3,h4⟩:=hk p (G1 h1)
 rw[h2]at h3;simp_all
def KI {w:World}{b:Nat}{o o':Obj}(hw:w.heap[b]? =some o)(hc:Obj.isCells o=false)(hc':Obj.isCells o'=false)(x i:Nat):(w.putObj b o').cell? ⟨x,i,none⟩=w.cell? ⟨x,i,none⟩:=by
 by_cases h:x=b
 ·subst h;have h1:=World.putObj_heap_same (w:=w) (o:=o') (SL hw);simp only[World.cell?,h1,hw];cases o<;>cases o'<;>simp_all[Obj.isCells]
 grind[World.cell?_of_block,World.putObj_heap_other]
def Rl.putObj {g:Gh} {H:A4} {w:World} (h:Rl g H w) {id b:Nat} {o o':Obj} (hk:H id=some (.obj o)) (hb:g.mu id=some b) (hc':Obj.isCells o'=false):
 U3 g w g (w.putObj b o')∧Rl g (upd H id (some (.obj o'))) (w.putObj b o'):=by
 obtain⟨b',h1,h2,h3,h4⟩:=h.blk id _ hk
 have e:b'=b:=by rw[hb]at h1;simp_all
 subst e;have hcell:=KI (o':=o') h3 h4 hc'
 have s:U3 g w g (w.putObj b' o'):=by
  refine⟨fun _ _ e=>e,fun _ _ e=>e,fun _ _ e=>e,rfl,fun b o _=>hcell b o,⟨rfl,rfl,rfl,by simp,fun k hk=>World.putObj_heap_other (by omega)⟩,fun _ _ _=>rfl,D3 _⟩
 have hat:∀x,g.at (upd H id (some (.obj o'))) x=g.at H x:=by
  grind[Gh.at,upd]
 have hid:g.at H id=some b':=by simp_all[Gh.at]
 refine⟨s,fun x k hx=>?_,fun x x' y h1 h2=>h.inj x x' y (hat x▸h1) (hat x'▸h2),fun y o hf=>?_,fun x hx=>?_,?_,fun n=>(h.glb n).mono s⟩
 ·by_cases hxe:x=id
  ·subst hxe;rw[D6]at hx;cases hx
   exact⟨b',hb,h2,World.putObj_heap_same (SL h3),hc'⟩
  rw[C3 _ _ hxe]at hx
  refine(h.blk x k hx).mono hx s fun y hy=>⟨World.putObj_heap_other fun e=>?_,fun _ ho=>ho⟩;subst e;exact hxe (h.inj _ _ _ hy hid)
 ·obtain⟨v,hv'⟩:=h.frz y o hf
  simp_all
 ·obtain⟨a1,a2,a3⟩:=h.nxt x hx
  have hne:x≠id:=fun e=>by simp_all
  simp_all[upd]
 have:=h.bnd;simp;omega
def Dh.fixed:Dh→Bool
 | .obj _=>true
 | .loop _=>true
 | .iter _ _ _ _=>true
 | .fm _ _=>true
 | .vm _ _=>true
 |_=>false
def Ci.fixed {g:Gh}{w:World}{id:Nat}{k:Dh}(hk:k.fixed=true)(h:Ci g w id k):∃b o,g.mu id=some b∧g.base≤b∧w.heap[b]? =some o∧Obj.isCells o=false:=by
 cases k with
 |cells _=>cases hk
 |spare=>cases hk
 |obj o=>grind[Ci]
 |loop L=>grind[Obj.isCells,Ci]
 |arr _ _=>cases hk
 |fm ks xs=>grind[Obj.isCells,Ci]
 |vm ks xs=>grind[Obj.isCells,Ci]
 |iter mid since seen c0=>grind[Obj.isCells,Ci]
theorem Gh.at_fixed {g:Gh}{H:A4}{id:Nat}{k:Dh}(hk:k.fixed=true)(h:H id=some k):g.at H id=g.mu id:=by
 cases k<;>simp_all[Gh.at,Dh.fixed]
def Rl.putGen {g:Gh} {H:A4} {w:World} (h:Rl g H w) {id b:Nat} {k k':Dh} {o':Obj} (hf:k.fixed=true) (hf':k'.fixed=true) (hk:H id=some k) (hb:g.mu id=some b) (hc':Obj.isCells o'=false)
 (hok:U3 g w g (w.putObj b o')→(w.putObj b o').heap[b]? =some o'→g.base≤b→Ci g (w.putObj b o') id k'):
 U3 g w g (w.putObj b o')∧Rl g (upd H id (some k')) (w.putObj b o'):=by
 obtain⟨b',o,h1,h2,h3,h4⟩:=(h.blk id _ hk).fixed hf
 have e:b'=b:=by rw[hb]at h1;simp_all
 subst e;have hcell:=KI (o':=o') h3 h4 hc'
 have s:U3 g w g (w.putObj b' o'):=by
  refine⟨fun _ _ e=>e,fun _ _ e=>e,fun _ _ e=>e,rfl,fun b o _=>hcell b o,⟨rfl,rfl,rfl,by simp,fun k hk=>World.putObj_heap_other (by omega)⟩,fun _ _ _=>rfl,D3 _⟩
 have hat:∀x,g.at (upd H id (some k')) x=g.at H x:=by
  grind[Gh.at_fixed,Gh.at,upd]
 have hid:g.at H id=some b':=by rw[Gh.at_fixed hf hk,hb]
 refine⟨s,fun x k hx=>?_,fun x x' y h1 h2=>h.inj x x' y (hat x▸h1) (hat x'▸h2),fun y o hf=>?_,fun x hx=>?_,?_,fun n=>(h.glb n).mono s⟩
 ·by_cases hxe:x=id
  ·grind[D6,World.putObj_heap_same]
  rw[C3 _ _ hxe]at hx
  refine(h.blk x k hx).mono hx s fun y hy=>⟨World.putObj_heap_other fun e=>?_,fun _ ho=>ho⟩;subst e;exact hxe (h.inj _ _ _ hy hid)
 ·obtain⟨v,hv'⟩:=h.frz y o hf
  simp_all
 ·obtain⟨a1,a2,a3⟩:=h.nxt x hx
  have hne:x≠id:=fun e=>by simp_all
  simp_all[upd]
 have:=h.bnd;simp;omega
section
variable {P:Program}{o:Oper}{fr:Fr}{H:A4}{K:V→A4→Prop}
def TJ {t:TypeId}(ho:o.op= .makeMap t none)(h:∀id,H id=none→K (.map id) (upd H id (some (.obj (.map #[] 0))))):I7 P o fr H K:=by
 intro g w a hR hE;have s:=U3.new hR (.map #[] 0) False 0;have r:=hR.newNamed (.map #[] 0) (.obj (.map #[] 0)) (by simp) ⟨w.heap.size,by simp[Gh.new],hR.bnd,AE,rfl⟩;unfold execOp;rw[ho];simp only[Jt,Instr.makeMap,B9,C4,run_newObj,B7,H6];exact⟨_,_,_,s,r,.map (by simp[Gh.new]),h g.nx (hR.nxt _ (D3 _)).2.2⟩
def Ok {g:Gh}{w:World}{v:Value}{n:Int}(h:VR g w v (.int .i64 n)):v= .int .i64 n:=by cases h;rfl
def Ag6 {es:Array MapEntry}{ks:List Int}(hk:es.toList.map (·.key)=ks.map (Value.int .i64)){j:Nat}{e:MapEntry}(he:es[j]? =some e):∃k,ks[j]? =some k∧e.key= .int .i64 k:=by
 have:=Q0 (fun l=>l[j]?) hk
 grind
def XF {es:Array MapEntry}{ks:List Int}(hk:es.toList.map (·.key)=ks.map (Value.int .i64)):∀e∈es.toList,IsKey (.int .i64) e.key:=by
 intro e he;obtain⟨j,hj,e1⟩:=AM he;obtain⟨k,_,h2⟩:=Ag6 hk (j:=j) (e:=e) (by rw[←Cr,D5 hj,e1]);rw[h2];rfl
def TM {t:TypeId} {x y:Operand} {ok:Bool} {v:V} (ho:o.op= .lookup t x y ok) (hl:Xq P t (ev fr x) (ev fr y) ok v) (h:K v H):I7 P o fr H K:=by
 intro g w a hR hE;obtain⟨kt,et,ks,xs,n,h1,h2,h3,h4,rfl,h5⟩:=hl;have hx:=E6 hR hE x;have hy:=E6 hR hE y
 rw[h4]at hy
 have hy:=Ok hy
 rw[h3]at hx
 generalize hav:a.eval x=xv at hx
 cases hx with
 | fmap hb hw hk hn hlen hv=>
  rename_i b es clock;have hks:=XF hk;have hIs:IsKey (.int .i64) (Value.int .i64 n):=rfl;unfold execOp;rw[ho];simp only[hav,hy,Instr.lookup,B9,run_underlying h1,B7,Ct hw,C4,run_checkKey h2 hIs]
  rcases findNow_spec hIs es.toList 0 hks with⟨f1,f2⟩|⟨j,e,f1,f2,f3⟩
  ·simp only[run_findKey h2 f1,B7]
   rcases h5 with⟨i,q1,q2⟩|⟨q1,q2⟩
   ·exfalso;have:=Q0 (fun l=>l[i]?) hk
    grind
   obtain⟨zv,ez,hz⟩:=CS q2
   have hzr:VR g w zv v:=by rw[ez];grind[DJ]
   simp only[B9,hz,B7,C4,H6]
   grind[L4.here]
  simp only[run_findKey h2 f1,B7,H6]
  have f2':es[j]? =some e:=by grind
  obtain⟨k,g1,g2⟩:=Ag6 hk f2'
  have hkn:k=n:=by rw[f3]at g2;simp_all
  subst hkn;have hvr:=hv j e f2'
  rcases h5 with⟨i,q1,q2⟩|⟨q1,q2⟩
  ·have hj:j<ks.length:=by
    grind
   have hi:i<ks.length:=by
    grind
   have:i=j:=KU hn hi hj (by rw[D5 hi]at q1;rw[D5 hj]at g1;rw[Ck q1,Ck g1]);subst this
   rw[←q2]at hvr
   exact L4.here hR hvr h
  grind
def Sp {t:TypeId}(ho:o.op= .makeMap t none)(h:∀id,H id=none→K (.map id) (upd H id (some (.fm [] [])))):I7 P o fr H K:=by
 intro g w a hR hE;have s:=U3.new hR (.map #[] 0) False 0;have r:=hR.newNamed (.map #[] 0) (.fm [] []) (by simp) ⟨w.heap.size, #[],0,by simp[Gh.new],hR.bnd,AE,rfl,Jp,rfl,fun i e hi=>by simp at hi⟩;unfold execOp;rw[ho];simp only[Jt,Instr.makeMap,B9,C4,run_newObj,B7,H6];exact⟨_,_,_,s,r,.map (by simp[Gh.new]),h g.nx (hR.nxt _ (D3 _)).2.2⟩
def Pn {t:TypeId} {x y z:Operand} (ho:o.op= .mapUpdate t x y z∨o.op= .insert t x y z) (hl:WQ P H K t (ev fr x) (ev fr y) (ev fr z)):I7 P o fr H K:=by
 intro g w a hR hE;obtain⟨kt,et,ks,xs,n,id,h1,h2,h3,h4,h5,h6,h⟩:=hl;have hx:=E6 hR hE x;have hy:=E6 hR hE y;have hz:=E6 hR hE z
 rw[h5]at hy
 have hy:=Ok hy
 rw[h3]at hx
 generalize hav:a.eval x=xv at hx
 cases hx with
 | map hm=>
  rename_i b;obtain⟨b',es,clock,k1,k2,k3,k4,k5,k6,k7⟩:=hR.blk id _ h4
  rw[hm]at k1;cases k1
  have hks:=XF k4;have hIs:IsKey (.int .i64) (Value.int .i64 n):=rfl
  have hne:∀e∈es.toList,e.key≠ .int .i64 n:=by
   intro e he hc;obtain⟨j,hj,e1⟩:=AM he;obtain⟨k,q1,q2⟩:=Ag6 k4 (j:=j) (e:=e) (by rw[←Cr,D5 hj,e1])
   rw[hc]at q2
   grind
  rcases findNow_spec hIs es.toList 0 hks with⟨f1,f2⟩|⟨j,e,f1,f2,f3⟩
  ·have hes:es.size=ks.length:=by have:=Q0 List.length k4;grind
   obtain⟨q1,q2⟩:=hR.putGen (k':=.fm (ks++[n]) (xs++[ev fr z])) (o':=.map (es.push {key:=.int .i64 n,val:=a.eval z,born:=clock}) (clock+1)) rfl rfl h4 hm rfl fun s hh hb=>
    ⟨b,_,_,hm,hb,hh,by simp[k4],by
     rw[DU];simp_all,by simp[k6],fun i e hi=>by
     rw[Array.getElem?_push]at hi
     split at hi
     ·rename_i hie;cases hi
      have:i=xs.length:=by omega
      subst this
      simpa using hz.mono s
     rename_i hie
     have hlt:i<xs.length:=by
      have:=(Array.getElem?_eq_some_iff.1 hi).1;omega
     have:=(k7 i e hi).mono s
     grind⟩
   have hr:(Instr.mapUpdate t (.map (some b)) (.int .i64 n) (a.eval z)).run P w= .ok () (w.putObj b (.map (es.push {key:=.int .i64 n,val:=a.eval z,born:=clock}) (clock+1))):=by
    simp only[Instr.mapUpdate,B9,run_underlying h1,B7,Ct k3,run_checkKey h2 hIs,run_findKey h2 f1,run_setObj_map _ k3];rfl
   have hex:(execOp a.eval o).run P w= .ok .skip (w.putObj b (.map (es.push {key:=.int .i64 n,val:=a.eval z,born:=clock}) (clock+1))):=by
    unfold execOp
    rcases ho with ho|ho<;>rw[ho]<;>simp only[hav,hy,B9,hr,B7,C4]
   rw[hex];exact⟨_,_,_,q1,q2,.bad _,h⟩
  grind
def At3 {es:Array MapEntry}{ks:List Value}(hk:es.toList.map (·.key)=ks){j:Nat}{e:MapEntry}(he:es[j]? =some e):ks[j]? =some e.key:=by
 rw[←hk];simp[he]
def WN {G:Value→Prop}{es:Array MapEntry}{ks:List Value}(hk:es.toList.map (·.key)=ks)(hG:∀k∈ks,G k):∀e∈es.toList,G e.key:=fun e he=>
 hG _ (by rw[←hk];grind)
def ZF {ks:List Value}(hn:ks.Nodup){i j:Nat}{k:Value}(hi:ks[i]? =some k)(hj:ks[j]? =some k):i=j:=by
 grind[KU]
def TL {t:TypeId} {x y:Operand} {ok:Bool} {v:V} (ho:o.op= .lookup t x y ok) (hl:Xp P H t (ev fr x) (ev fr y) ok v) (h:K v H):I7 P o fr H K:=by
 intro g w a hR hE;obtain⟨kt,et,G,kv,id,ks,xs,h1,h2,h3,h4,h5,h6,h7,h8⟩:=hl;have hx:=E6 hR hE x;have hy:=Ke h3 (E6 hR hE y)
 rw[h5]at hx
 generalize hav:a.eval x=xv at hx
 cases hx with
 | map hm=>
  rename_i b;obtain⟨b',es,clock,k1,k2,k3,k4,k5,k6,k7⟩:=hR.blk id _ h6
  rw[hm]at k1;cases k1
  have hks:=WN k4 h7;unfold execOp;rw[ho];simp only[hav,hy,Instr.lookup,B9,run_underlying h1,B7,Ct k3,C4,(fun em=>h2.check w em h4)]
  rcases h2.find w h4 es.toList hks with⟨f1,f2⟩|⟨j,e,f1,f2,f3⟩
  ·simp only[f1,B7]
   rcases h8 with⟨q1,z,z',q2,q4,q3⟩|⟨i,q1,q2⟩
   ·obtain⟨zv,ez,hz⟩:=CS q2;have hzr:VR g w zv z':=VR.le (by rw[ez];grind[DJ]) q4;simp only[B9,hz,B7,C4,H6];subst q3;cases ok
    ·grind[L4.here]
    refine L4.here hR (.tup rfl fun i hi=>?_) h
    match i with
    |0=>exact hzr
    |1=>exact .bool _
    |i+2=>grind
   grind
  simp only[f1,B7,H6]
  have f2':es[j]? =some e:=by grind
  have g1:=At3 k4 f2'
  rw[f3]at g1
  rcases h8 with⟨q1,_⟩|⟨i,q1,q2⟩
  ·grind
  have hij:=ZF k5 q1 g1;subst hij;have hvr:=k7 i e f2';subst q2;cases ok
  ·exact L4.here hR hvr h
  refine L4.here hR (.tup rfl fun i hi=>?_) h
  match i with
  |0=>exact hvr
  |1=>exact .bool _
  |i+2=>grind
def So {t:TypeId}(ho:o.op= .makeMap t none)(h:∀id,H id=none→K (.map id) (upd H id (some (.vm [] [])))):I7 P o fr H K:=by
 intro g w a hR hE;have s:=U3.new hR (.map #[] 0) False 0;have r:=hR.newNamed (.map #[] 0) (.vm [] []) (by simp) ⟨w.heap.size, #[],0,by simp[Gh.new],hR.bnd,AE,rfl,Jp,rfl,fun i e hi=>by simp at hi⟩;unfold execOp;rw[ho];simp only[Jt,Instr.makeMap,B9,C4,run_newObj,B7,H6];exact⟨_,_,_,s,r,.map (by simp[Gh.new]),h g.nx (hR.nxt _ (D3 _)).2.2⟩
def Pm {t:TypeId} {x y z:Operand} (ho:o.op= .mapUpdate t x y z∨o.op= .insert t x y z) (hl:WP P H K t (ev fr x) (ev fr y) (ev fr z)):I7 P o fr H K:=by
 intro g w a hR hE;obtain⟨kt,et,G,kv,id,ks,xs,h1,h2,h3,h4,h5,h6,h7,h8⟩:=hl;have hx:=E6 hR hE x;have hy:=Ke h3 (E6 hR hE y);have hz:=E6 hR hE z
 rw[h5]at hx
 generalize hav:a.eval x=xv at hx
 cases hx with
 | map hm=>
  rename_i b;obtain⟨b',es,clock,k1,k2,k3,k4,k5,k6,k7⟩:=hR.blk id _ h6
  rw[hm]at k1;cases k1
  have hks:=WN k4 h7
  have hes:es.size=ks.length:=by have:=Q0 List.length k4;grind
  have run:∀es' clock' k',(Instr.mapUpdate t (.map (some b)) kv (a.eval z)).run P w= .ok () (w.putObj b (.map es' clock'))→
   (U3 g w g (w.putObj b (.map es' clock'))∧Rl g (upd H id (some k')) (w.putObj b (.map es' clock')))→K .bad (upd H id (some k'))→H6 P (L4 g w K) ((execOp a.eval o).run P w):=by
   intro es' clock' k' hr q h
   have hex:(execOp a.eval o).run P w= .ok .skip (w.putObj b (.map es' clock')):=by
    unfold execOp
    rcases ho with ho|ho<;>rw[ho]<;>simp only[hav,hy,B9,hr,B7,C4]
   rw[hex];exact⟨_,_,_,q.1,q.2,.bad _,h⟩
  rcases h2.find w h4 es.toList hks with⟨f1,f2⟩|⟨j,e,f1,f2,f3⟩
  ·have hne:∀k∈ks,k≠kv:=fun k hk he=>by
    rw[←k4]at hk
    grind
   rcases h8 with⟨_,h⟩|⟨i,q1,_⟩
   ·refine run (es.push {key:=kv,val:=a.eval z,born:=clock}) (clock+1) (.vm (ks++[kv]) (xs++[ev fr z])) ?_ ?_ h
    ·simp only[Instr.mapUpdate,B9,run_underlying h1,B7,Ct k3,(fun em=>h2.check w em h4),f1,run_setObj_map _ k3];rfl
    exact hR.putGen rfl rfl h6 hm rfl fun s hh hb=>
     ⟨b,_,_,hm,hb,hh,by simp[k4],by
      rw[DU];simp_all,by simp[k6],fun i e hi=>by
      rw[Array.getElem?_push]at hi
      split at hi
      ·rename_i hie;cases hi
       have:i=xs.length:=by omega
       subst this
       simpa using hz.mono s
      rename_i hie
      have hlt:i<xs.length:=by
       have:=(Array.getElem?_eq_some_iff.1 hi).1;omega
      have:=(k7 i e hi).mono s
      grind⟩
   grind
  have f2':es[j]? =some e:=by grind
  have g1:=At3 k4 f2'
  rw[f3]at g1
  rcases h8 with⟨q1,_⟩|⟨i,q1,h⟩
  ·grind
  have hij:=ZF k5 q1 g1;subst hij;refine run (es.modify i fun e=>{e with key:=kv,val:=a.eval z}) clock (.vm ks (xs.set i (ev fr z))) ?_ ?_ h
  ·simp only[Instr.mapUpdate,B9,run_underlying h1,B7,Ct k3,(fun em=>h2.check w em h4),f1,f2',J4,Bu,f3,h2.stays w h4,run_setObj_map _ k3];rfl
  exact hR.putGen rfl rfl h6 hm rfl fun s hh hb=>
   ⟨b,_,_,hm,hb,hh,by
    apply Bv
    grind,k5,by simp[k6],fun m en hi=>by
    rw[Hz]at hi
    by_cases hmi:i=m
    ·subst hmi
     rw[A1 rfl,f2']at hi
     cases hi
     have hlt:i<xs.length:=by
      have:=(Array.getElem?_eq_some_iff.1 f2').1;omega
     simpa[GM,O0,hlt]using hz.mono s
    rw[A3 hmi]at hi
    have:=(k7 m en hi).mono s
    simp_all⟩
theorem VK {t:TypeId} {x y:Operand} {ok:Bool} {v:V} (ho:o.op= .lookup t x y ok) (hl:La P H t (ev fr x) (ev fr y) ok v) (h:K v H):I7 P o fr H K:=by
 refine hl.elim (fun hl=>?_) fun hl=>hl.elim (fun hl=>TM ho hl h) fun hl=>TL ho hl h;intro g w a hR hE;obtain⟨kt,et,d,kv,id,ob,m,h1,h2,h3,h4,h5,h6,h7,h8⟩:=hl;have hx:=E6 hR hE x;have hy:=Ke h3 (E6 hR hE y)
 rw[h5]at hx
 generalize hav:a.eval x=xv at hx
 cases hx with
 | map hm=>
  rename_i b;obtain⟨b',k1,k2,k3,k4⟩:=hR.blk id _ h6
  rw[hm]at k1;cases k1
  obtain⟨⟨es,clock,e1,e2⟩,hk,hn⟩:=h7;subst e1;have hks:=Cg.isKeys e2 hk;unfold execOp;rw[ho];simp only[hav,hy,Instr.lookup,B9,run_underlying h1,B7,Ct k3,C4,(fun em=>h2.check w em h4)]
  rcases h2.find w h4 es.toList hks with⟨f1,f2⟩|⟨j,e,f1,f2,f3⟩
  ·simp only[f1,B7]
   rcases h8 with⟨q1,z,q2,q3⟩|⟨y',q1,q2⟩
   ·obtain⟨zv,ez,hz⟩:=CS q2
    have hzr:VR g w zv z:=by rw[ez];grind[DJ]
    simp only[B9,hz,B7,C4,H6];subst q3;cases ok
    ·grind[L4.here]
    refine L4.here hR (.tup rfl fun i hi=>?_) h
    match i with
    |0=>exact hzr
    |1=>exact .bool _
    |i+2=>grind
   exfalso;obtain⟨i,hi,e⟩:=AM q1;obtain⟨en,g1,g2,g3⟩:=(Cg.entry (d:=d) e2 i).2 _ (by rw[D5 hi,e])
   rw[h3]at g2
   grind
  simp only[f1,B7,H6]
  have f2':es[j]? =some e:=by grind
  obtain⟨p,g1,g2,g3⟩:=(Cg.entry (d:=d) e2 j).1 e f2';have hpk:p.1=ev fr y:=Ub g2 (by rw[h3,f3])
  rcases h8 with⟨q1,_⟩|⟨y',q1,q2⟩
  ·grind
  have hpy:p.2=y':=by
   obtain⟨i,hi,e⟩:=AM q1
   have hj:j<m.length:=by
    grind
   have e3:m[j]=p:=by rw[D5 hj]at g1;simp_all
   have:i=j:=KU hn (by grind) (by grind) (by simp_all)
   simp_all
  rw[hpy]at g3
  have hvr:VR g w e.val y':=Py g3;subst q2;cases ok
  ·exact L4.here hR hvr h
  refine L4.here hR (.tup rfl fun i hi=>?_) h
  match i with
  |0=>exact hvr
  |1=>exact .bool _
  |i+2=>grind
def Cg.set {d:TypeDesc} {m m':List (V×V)} {es:Array MapEntry} {clock:Nat} {key val:V} {kv vv:Value} (h3:Bk key=some kv) (h4:Fk d kv) (h5:Bk val=some vv)
 (e2:es.toList.map (fun e=>(some e.key,some e.val))=m.map fun p=>(Bk p.1,Bk p.2)) (hk:∀p∈m,∃k,Bk p.1=some k∧Fk d k) (hn:(m.map (·.1)).Nodup) (hst:Je es clock) (hs:Ay4 m key val m'):
 ((∀e∈es.toList,e.key≠kv)→Cg d (.map (es.push {key:=kv,val:=vv,born:=clock}) (clock+1)) m')∧
 ∀(j:Nat) e,es[j]? =some e→e.key=kv→Cg d (.map (es.modify j fun e=>{e with key:=kv,val:=vv}) clock) m':=by
 have key_of:∀(j:Nat) e,es[j]? =some e→e.key=kv→∃y,m[j]? =some (key,y):=fun j e hj hje=>by
  obtain⟨p,g1,g2,g3⟩:=(Cg.entry (d:=d) e2 j).1 e hj;have:p.1=key:=Ub g2 (by rw[h3,hje])
  grind
 constructor
 ·intro hne
  rcases hs with⟨q1,rfl⟩|⟨a,y,b,rfl,rfl⟩
  ·refine⟨⟨_,_,rfl,by simp_all⟩,fun p hp=>?_,?_,fun es clock h=>by grind[Je]⟩
   ·grind
   grind
  exfalso;obtain⟨e,g1,g2,_⟩:=(Cg.entry (d:=d) e2 a.length).2 (key,y) (by simp)
  rw[h3]at g2
  grind
 intro j e hj hje;obtain⟨y0,hm⟩:=key_of j e hj hje
 rcases hs with⟨q1,rfl⟩|⟨a,y,b,rfl,rfl⟩
 ·grind
 have hja:j=a.length:=by
  have hjl:j<(a++(key,y)::b).length:=by
   grind
  have e3:(a++(key,y)::b)[j]=(key,y0):=by rw[D5 hjl]at hm;simp_all
  grind
 subst hja;refine⟨⟨_,_,rfl,?_⟩,fun p hp=>?_,?_,fun es clock h=>by cases h;exact hst.modify _ _ _⟩
 ·apply Bv;intro i;simp only[V8,Cr,Hz]
  by_cases hi:a.length=i
  ·simp_all
  rw[A3 hi];have:=Q0 (fun l=>l[i]?) e2
  grind
 ·simp only[AK,FC]at hp
  rcases hp with hp|rfl|hp
  ·exact hk p (by simp[hp])
  ·simp_all
  exact hk p (by simp[hp])
 simp_all
theorem Ll {t:TypeId} {x y z:Operand} (ho:o.op= .mapUpdate t x y z∨o.op= .insert t x y z) (hl:KL P H K t (ev fr x) (ev fr y) (ev fr z)):I7 P o fr H K:=by
 refine hl.elim (fun hl=>?_) fun hl=>hl.elim (Pn ho) (Pm ho);intro g w a hR hE;obtain⟨kt,et,d,kv,vv,id,ob,m,m',h1,h2,h3,h4,h5,h6,h7,h8,h9,h⟩:=hl;have hx:=E6 hR hE x;have hy:=Ke h3 (E6 hR hE y);have hz:=Ke h5 (E6 hR hE z)
 rw[h6]at hx
 generalize hav:a.eval x=xv at hx
 cases hx with
 | map hm=>
  rename_i b;obtain⟨b',k1,k2,k3,k4⟩:=hR.blk id _ h7
  rw[hm]at k1;cases k1
  obtain⟨⟨es,clock,e1,e2⟩,hk,hn,hst⟩:=h8;subst e1;have hks:=Cg.isKeys e2 hk;obtain⟨s1,s2⟩:=Cg.set (clock:=clock) h3 h4 h5 e2 hk hn (hst _ _ rfl) h9
  have run:∀o',Cg d o' m'→(Instr.mapUpdate t (.map (some b)) kv vv).run P w= .ok () (w.putObj b o')→H6 P (L4 g w K) ((execOp a.eval o).run P w):=by
   intro o' ho' hr;obtain⟨q1,q2⟩:=hR.putObj (o':=o') h7 hm (by obtain⟨⟨_,_,e,_⟩,_⟩:=ho';rw[e];rfl)
   have hex:(execOp a.eval o).run P w= .ok .skip (w.putObj b o'):=by
    unfold execOp
    rcases ho with ho|ho<;>rw[ho]<;>simp only[hav,hy,hz,B9,hr,B7,C4]
   rw[hex];exact⟨_,_,_,q1,q2,.bad _,h o' ho'⟩
  rcases h2.find w h4 es.toList hks with⟨f1,f2⟩|⟨j,e,f1,f2,f3⟩
  ·refine run _ (s1 f2) ?_;simp only[Instr.mapUpdate,B9,run_underlying h1,B7,Ct k3,(fun em=>h2.check w em h4),f1,run_setObj_map _ k3];rfl
  have f2':es[j]? =some e:=by grind
  refine run _ (s2 j e f2' f3) ?_;simp only[Instr.mapUpdate,B9,run_underlying h1,B7,Ct k3,(fun em=>h2.check w em h4),f1,f2',J4,Bu,f3,h2.stays w h4,run_setObj_map _ k3];rfl
end
end Go.Ab
namespace Go.Ab
open Go.RowKit
variable [L6]
def Rl.lessArr {g:Gh} {H:A4} {w:World} (h:Rl g H w) {id sz:Nat} {xs ys:List V} (hk:H id=some (.arr sz xs)) (hl:L5 xs ys):Rl g (upd H id (some (.arr sz ys))) w:=by
 have el:=hl.length
 have hat:∀x,g.at (upd H id (some (.arr sz ys))) x=g.at H x:=by
  grind[Gh.at,upd]
 refine⟨fun x k hx=>?_,fun x x' y h1 h2=>h.inj x x' y (hat x▸h1) (hat x'▸h2),h.frz,fun x hx=>?_,h.bnd,h.glb⟩
 ·by_cases hxe:x=id
  ·subst hxe;rw[D6]at hx;cases hx
   obtain⟨b,h1,h2,h3,h4,h5⟩:=h.blk x _ hk;refine⟨b,h1,h2,h3.trans el,fun i hi=>?_,?_⟩
   ·rw[←(hl.at i).cells.length];simp_all
   rw[←el];refine h5.imp (fun h=>h) fun⟨c,T,k1,k2,k3,k4,k5⟩=>⟨c,T,k1,k2,k3,fun i j hi hj=>⟨(k4 i j hi hj).1,(k4 i j hi hj).2.le ((hl.at i).cells.at j)⟩,k5⟩
  rw[C3 _ _ hxe]at hx;exact h.blk x k hx
 obtain⟨a1,a2,a3⟩:=h.nxt x hx
 have hne:x≠id:=fun e=>by simp_all
 simp_all[upd]
section
variable {P:Program}{o:Oper}{fr:Fr}{H:A4}{K:V→A4→Prop}
def I7.lessRow (h:I7 P o fr H fun x H'=>∃id sz xs ys,H' id=some (.arr sz xs)∧L5 xs ys∧K x (upd H' id (some (.arr sz ys)))):I7 P o fr H K:=by
 intro g w a hR hE;have h:=h g w a hR hE
 have key:∀v w',L4 g w (fun x H'=>∃id sz xs ys,H' id=some (.arr sz xs)∧L5 xs ys∧K x (upd H' id (some (.arr sz ys)))) v w'→L4 g w K v w':=by
  rintro v w' ⟨g',x,H',s,hR',hv,id,sz,xs,ys,h1,h2,h3⟩;exact⟨g',x,_,s,hR'.lessArr h1 h2,hv,h3⟩
 unfold H6 at h ⊢
 split at h
 ·grind
 ·grind
 ·exact h.mono fun e w' ⟨v,h1,h2⟩=>⟨v,h1,key _ _ h2⟩
 ·exact h.mono fun e w' ⟨v,h1,h2⟩=>⟨v,h1,key _ _ h2⟩
 omega
def Oa {x:Operand}(ho:o.op= .assign x∨o.op= .move x)(hx:ev fr x= .sl [] .nil)(sz:Nat)(h:∀q,H q=none→K (.own q 0 0) (upd H q (some (.arr sz [])))):I7 P o fr H K:=by
 intro g w a hR hE;have hv:=E6 hR hE x
 rw[hx]at hv
 obtain⟨g1,s1,R1,hn,hv1⟩:=DY hR sz (.inl rfl) hv;unfold execOp
 rcases ho with ho|ho<;>rw[ho]<;>exact⟨g1,_,_,s1,R1,hv1,h _ hn⟩
theorem ZV {t e:TypeId} {n sz:Nat} {parts:Array (Nat×Operand)} {xs ys:List V} (ho:o.op= .buildSlice t n parts) (hl:AH P t n (parts.toList.map fun(p:Nat×Operand)=>(p.1,ev fr p.2))=some (.sl xs .full))
 (he:EO P t=some e) (hs:Eh P e=some sz) (hle:L5 xs ys) (h:∀q,H q=none→K (.own q 0 (xs.length:Nat)) (upd H q (some (.arr sz ys)))):I7 P o fr H K:=by
 refine I7.lessRow ?_;intro g w a hR hE;obtain⟨e',sz',z,k1,k2,_,k3,k4,_,d,hrun,hdz,hdv⟩:=JZ hR hE hl
 rw[he]at k1;cases k1
 rw[hs]at k2;cases k2
 cases k3
 have hget:∀i,((parts.toList.map fun(p:Nat×Operand)=>(p.1,ev fr p.2)).map (fun(q:Nat×V)=>q.2)).getD i .bad=((parts.toList.map fun(p:Nat×Operand)=>(p.1,ev fr p.2)).getD i (0,.bad)).2:=by
  grind
 generalize hL:(parts.toList.map fun(p:Nat×Operand)=>(p.1,ev fr p.2))=L at *
 have hz:∀i,i<(L.map fun(q:Nat×V)=>q.2).length→((L.map fun(q:Nat×V)=>q.2).getD i .bad).cells.length=sz:=by
  intro i hi
  have:∀(m:List (Nat×V)) (k i:Nat),CC sz k m=true→i<m.length→(m.getD i (0,.bad)).2.cells.length=sz:=by
   intro m
   induction m with
   |nil=>simp_all
   |cons y m ih=>
    grind[CC]
  rw[hget];grind
 have el:(L.map fun(q:Nat×V)=>q.2).length=n:=by grind
 obtain⟨s,r,hn⟩:=Rl.newArr (w':=w.alloc (.cells d e)) hR (b:=w.heap.size) (o:=0) (sz:=sz) (ys:=L.map fun(q:Nat×V)=>q.2) hz (fun b q hf=>CM (hR.fz_lt hf)) ((U8 _ _).alloc hR.bnd _) (fun x _ hlt=>heap_alloc hlt)
  (.inr ⟨d,e,hR.bnd,AE,by rw[hdz,el];omega,fun i j hi hj=>by
   rw[V1,hget];simp_all,fun q _ hf=>absurd (hR.fz_lt hf) (R5 _),fun id hid=>absurd (hR.lt hid) (R5 _)⟩)
 unfold execOp;rw[ho];simp only[B9,hrun,B7,C4,H6];refine⟨_,.own g.nx 0 ((L.map fun(q:Nat×V)=>q.2).length:Nat),_,s,r,?_,g.nx,sz,_,ys,D6 _ _ _,hle,?_⟩
 ·have e':(g.own w.heap.size ⟨0,(L.map fun(q:Nat×V)=>q.2).length,sz⟩).ow g.nx=⟨0,(L.map fun(q:Nat×V)=>q.2).length,sz⟩:=by simp[Gh.own]
  have:=VR.own (g:=g.own w.heap.size ⟨0,(L.map fun(q:Nat×V)=>q.2).length,sz⟩) (w:=w.alloc (.cells d e)) (id:=g.nx) (b:=w.heap.size) (lo:=0) (n:=((L.map fun(q:Nat×V)=>q.2).length:Nat)) (p:=some ⟨w.heap.size,0,none⟩) (by simp[Gh.own]) (by omega) (by omega) (by rw[e'];simp) (by rw[e'];simp)
  rw[e']at this
  simp_all
 grind[Z1]
def strL (l:List Int):ByteArray:=l.foldl (fun r n=>r.push (UInt8.ofNat n.toNat)) ByteArray.empty
def RR (P:Program)(H:A4)(s d:TypeId)(x v:V):Prop:=
 ∃e l,EO P s=some e∧P.underlying e=some (.int .u8)∧P.underlying d=some .string∧OC 1 H x (l.map (V.int .u8))∧v= .str (strL l)
def OC.up {sz:Nat}{H H':A4}{x:V}{ys:List V}(hl:∀id b,H id=some b→H' id=some b)(h:OC sz H x ys):OC sz H' x ys:=by
 unfold OC at h ⊢
 grind
def WA {P:Program}{H H':A4}{s d:TypeId}{x v:V}(hl:∀id b,H id=some b→H' id=some b)(h:RR P H s d x v):RR P H' s d x v:=by
 obtain⟨e,l,h1,h2,h3,h4,h5⟩:=h;exact⟨e,l,h1,h2,h3,h4.up hl,h5⟩
def UD (K:V→A4→Prop)(x:V)(H:A4):Prop:=∃id sz xs ys,H id=some (.arr sz xs)∧L5 xs ys∧K x (upd H id (some (.arr sz ys)))
def litO (P:Program)(H:A4)(K:V→A4→Prop)(t:TypeId)(n:Nat)(parts:List (Nat×V)):Prop:=
 ∃e sz xs ys,AH P t n parts=some (.sl xs .full)∧EO P t=some e∧Eh P e=some sz∧L5 xs ys∧∀q,H q=none→K (.own q 0 (xs.length:Nat)) (upd H q (some (.arr sz ys)))
def At8 (H:A4)(K:V→A4→Prop)(x:V):Prop:=x= .sl [] .nil∧∃sz,∀q,H q=none→K (.own q 0 0) (upd H q (some (.arr sz [])))
def ZP {l:List Int} {ys0:List V} (h:L5 ys0 (l.map (V.int .u8))):ys0=l.map (V.int .u8):=by
 induction l generalizing ys0 with
 |nil=>cases h;rfl
 | cons n l ih=>
  cases h with
  |cons h1 h2=>
   cases h1;rw[ih h2];rfl
theorem Yj {s d:TypeId} {y:Operand} {x:V} (ho:o.op= .convert s d y) (hl:RR P H s d (ev fr y) x) (h:K x H):I7 P o fr H K:=by
 intro g w a hR hE;have hv:=E6 hR hE y;obtain⟨e,l,h1,h2,h3,h4,rfl⟩:=hl;obtain⟨ys0,k1,k2,k3⟩:=h4.inv hR hv;have e1:=ZP k2;subst e1;obtain⟨base,cap,vs,r1,r2,r3⟩:=Ig P hR k1 hv k3;have hs:=P0 h1
 have hlen:(l.map (V.int .u8)).length=l.length:=by simp
 have hcell:∀i,i<l.length→vs i 0= .int .u8 (l.getD i 0):=by
  intro i hi;have:=(r2 i 0 (by rw[hlen];exact hi) (by omega)).2
  have e:((l.map (V.int .u8)).getD i .bad).cells.getD 0 .bad= .int .u8 (l.getD i 0):=by
   simp_all[V.cells]
  rw[e]at this
  exact this.int_inv
 have hread:=r3 l.length (by rw[hlen];omega) w (fun _ _=>rfl)
 have hcells:((List.range (l.length*1)).map fun k=>vs (k / 1) (k % 1)).toArray=(l.map (Value.int .u8)).toArray:=by
  grind
 rw[hcells]at hread
 rw[hlen]at r1
 rw[r1]at hread
 have run:(convert s d (.slice base l.length cap)).run P w= .ok (.string (strL l)) w:=by
  rw[run_convert_bytes_string w s d e base l.length cap hs h2 h3]
  cases base with
  | none=>
   have:l=[]:=by
    simp only[Builtin.firstCells]at hread
    have hh:(.ok #[] w:Result (Array Value))= .ok (l.map (Value.int .u8)).toArray w:=by simp_all
    simp_all
   subst this;rfl
  |some ad=>
   simp only[Builtin.firstCells,Nat.mul_one]at hread
   exact run_bytesToString w ad l.length cap l hread
 unfold execOp;rw[ho];simp only[r1,B9,run,B7,C4,H6];exact L4.here hR (.str _) h
end
end Go.Ab
namespace Go.Ab
open Go.RowKit Go.MapKept
variable [L6]
def LJ (P:Program)(H:A4)(K:V→A4→Prop)(t:TypeId)(x:V):Prop:=
 ∃kt et mid es clock,P.underlying t=some (.map kt et)∧x= .map mid∧H mid=some (.obj (.map es clock))∧∀id,H id=none→K (.ref id 0) (upd H id (some (.iter mid clock #[] clock)))
def PK (H:A4) (K:V→A4→Prop) (x:V):Prop:=
 ∃id mid since,∃seen:Array Nat,∃c0,∃es:Array MapEntry,∃clock,x= .ref id 0∧H id=some (.iter mid since seen c0)∧H mid=some (.obj (.map es clock))∧(∀e∈es.toList,e.born<since)∧since≤c0∧
  ((leftOf es seen).size=0→K (.tup [.bool false]) H)∧∀e∈(leftOf es seen).toList,K (.tup [.bool true,.bad,.bad]) (upd H id (some (.iter mid since (seen.push e.born) clock)))
def LT (H:A4) (K:V→A4→Prop) (x:V):Prop:=
 ∃id mid since,∃seen:Array Nat,∃c0,∃es:Array MapEntry,∃clock e kx vx,x= .ref id 0∧H id=some (.iter mid since (seen.push e.born) c0)∧c0=clock∧H mid=some (.obj (.map es clock))∧e∈es.toList∧(es.toList.map (·.born)).Nodup∧
  Bk kx=some e.key∧Bk vx=some e.val∧K (.tup [kx,vx]) H
def Aq6 (P:Program) (H:A4) (K:V→A4→Prop) (ts:List TypeId) (vs:List V):Prop:=
 match ts,vs with
 | [t,_],[x,key]=>
  ∃kt et d kv id o m,P.underlying t=some (.map kt et)∧KG P kt (Fk d)∧Bk key=some kv∧Fk d kv∧x= .map id∧H id=some (.obj o)∧Cg d o m∧
   ∀o' m',Cg d o' m'→((m'=m∧∀p∈m,p.1≠key)∨∃j p,m[j]? =some p∧p.1=key∧m'=m.eraseIdx j)→K (.tup []) (upd H id (some (.obj o')))
 |_,_=>False
def Ui {P:Program}{H:A4}{K K':V→A4→Prop}{t:TypeId}{x:V}(h:LJ P H K t x)(hk:∀v H',K v H'→K' v H'):LJ P H K' t x:=by
 grind[LJ]
def Wd {H:A4}{K K':V→A4→Prop}{x:V}(h:PK H K x)(hk:∀v H',K v H'→K' v H'):PK H K' x:=by
 grind[PK]
def UT {H:A4}{K K':V→A4→Prop}{x:V}(h:LT H K x)(hk:∀v H',K v H'→K' v H'):LT H K' x:=by
 grind[LT]
def Td {g:Gh}{H:A4}{w:World}(hR:Rl g H w){id b:Nat}{o:Obj}(h:H id=some (.obj o))(hb:g.mu id=some b):w.heap[b]? =some o:=by
 obtain⟨b',h1,_,h3,_⟩:=hR.blk id _ h
 rw[hb]at h1;simp_all
def Rl.drew {g:Gh}{H:A4}{w:World}(hR:Rl g H w):U3 g w g w.drew∧Rl g H w.drew:=by
 have s:U3 g w g w.drew:=⟨fun _ _ e=>e,fun _ _ e=>e,fun _ _ e=>e,rfl,fun _ _ _=>rfl,(U8 _ _).drew,fun _ _ _=>rfl,DK _⟩;exact⟨s,⟨fun id b hb=>(hR.blk id b hb).mono hb s fun _ _=>⟨rfl,fun _ ho=>ho⟩,hR.inj,hR.frz,hR.nxt,hR.bnd,fun n=>(hR.glb n).mono s⟩⟩
def Rl.putIter {g:Gh} {H:A4} {w:World} (h:Rl g H w) {id b mid bm since since' c0 c0':Nat} {seen seen':Array Nat} (hk:H id=some (.iter mid since seen c0)) (hb:g.mu id=some b) (hm:g.mu mid=some bm):
 U3 g w g (ChangeMaps.setBlock w b (.mapIter (some bm) since' seen' c0'))∧Rl g (upd H id (some (.iter mid since' seen' c0'))) (ChangeMaps.setBlock w b (.mapIter (some bm) since' seen' c0')):=by
 have e0:ChangeMaps.setBlock w b (.mapIter (some bm) since' seen' c0')=w.putObj b (.mapIter (some bm) since' seen' c0'):=rfl;rw[e0];obtain⟨b',bm',h1,h2,h3,h4⟩:=h.blk id _ hk
 rw[hb]at h1;cases h1
 have hcell:=KI (o':=.mapIter (some bm) since' seen' c0') h4 rfl rfl
 have s:U3 g w g (w.putObj b (.mapIter (some bm) since' seen' c0')):=by
  refine⟨fun _ _ e=>e,fun _ _ e=>e,fun _ _ e=>e,rfl,fun b o _=>hcell b o,⟨rfl,rfl,rfl,by simp,fun k hk=>World.putObj_heap_other (by omega)⟩,fun _ _ _=>rfl,D3 _⟩
 have hat:∀x,g.at (upd H id (some (.iter mid since' seen' c0'))) x=g.at H x:=by
  grind[Gh.at,upd]
 have hid:g.at H id=some b:=by simp_all[Gh.at]
 refine⟨s,fun x k hx=>?_,fun x x' y h1 h2=>h.inj x x' y (hat x▸h1) (hat x'▸h2),fun y o hf=>?_,fun x hx=>?_,?_,fun n=>(h.glb n).mono s⟩
 ·by_cases hxe:x=id
  ·subst hxe;rw[D6]at hx;cases hx
   exact⟨b,bm,hb,h2,hm,World.putObj_heap_same (SL h4)⟩
  rw[C3 _ _ hxe]at hx
  refine(h.blk x k hx).mono hx s fun y hy=>⟨World.putObj_heap_other fun e=>?_,fun _ ho=>ho⟩;subst e;exact hxe (h.inj _ _ _ hy hid)
 ·obtain⟨v,hv'⟩:=h.frz y o hf
  simp_all
 ·obtain⟨a1,a2,a3⟩:=h.nxt x hx
  have hne:x≠id:=fun e=>by simp_all
  simp_all[upd]
 have:=h.bnd;simp;omega
section
variable {P:Program}{o:Oper}{fr:Fr}{H:A4}{K:V→A4→Prop}
def Yc {t:TypeId} {y:Operand} (ho:o.op= .range t y) (hl:LJ P H K t (ev fr y)):I7 P o fr H K:=by
 intro g w a hR hE;obtain⟨kt,et,mid,es,clock,h1,h2,h3,h4⟩:=hl;have hx:=E6 hR hE y
 rw[h2]at hx
 generalize hav:a.eval y=xv at hx
 cases hx with
 |map hm=>
  rename_i bm;have k3:=Td hR h3 hm;have s:=U3.new hR (.mapIter (some bm) clock #[] clock) False 0
  have hne:mid≠g.nx:=fun e=>by subst e;rw[(hR.nxt _ (D3 _)).1]at hm;cases hm
  have r:=hR.newNamed (.mapIter (some bm) clock #[] clock) (.iter mid clock #[] clock) (by simp) ⟨w.heap.size,bm,by simp[Gh.new],hR.bnd,by simp_all[Gh.new],AE⟩;unfold execOp;rw[ho];simp only[hav,B9,run_range_map w t kt et bm es clock h1 k3,B7,C4,H6];exact⟨_,_,_,s,r,.ref (by simp[Gh.new]),h4 g.nx (hR.nxt _ (D3 _)).2.2⟩
def ZZ {y:Operand} (ho:o.op= .next y false) (hl:PK H K (ev fr y)):I7 P o fr H K:=by
 intro g w a hR hE;obtain⟨id,mid,since,seen,c0,es,clock,h1,h2,h3,h4,h5,h6,h7⟩:=hl;have hx:=E6 hR hE y
 rw[h1]at hx
 generalize hav:a.eval y=xv at hx
 obtain⟨b,bm,k1,k2,k3,k4⟩:=hR.blk id _ h2;have k5:=Td hR h3 k3
 cases hx with
 | ref hm=>
  rename_i b'
  rw[k1]at hm;cases hm
  unfold execOp;rw[ho];simp only[hav]
  rcases run_next_at (P:=P) w o.type b bm since c0 seen es clock k4 k5 h4 h5 with⟨e1,e2⟩|⟨e,e1,w1,e2,e3⟩
  ·simp only[B9,e2,B7,C4,H6];refine L4.here hR (.tup rfl fun i hi=>?_) (h6 e1)
   match i with
   |0=>exact .bool _
   |i+1=>simp at hi
  simp only[B9,e3,B7,C4,H6]
  have key:∀w1:World,U3 g w g w1→Rl g H w1→L4 g w K (.tuple #[.bool true,e.key,e.val]) (ChangeMaps.setBlock w1 b (.mapIter (some bm) since (seen.push e.born) clock)):=by
   intro w1 s1 hR1;obtain⟨s2,hR2⟩:=hR1.putIter (since':=since) (seen':=seen.push e.born) (c0':=clock) h2 k1 k3;refine⟨g,_,_,s1.trans s2,hR2,.tup rfl fun i hi=>?_,h7 e e1⟩
   match i with
   |0=>exact .bool _
   |1=>exact .bad _
   |2=>exact .bad _
   |i+3=>grind
  rcases e2 with rfl|rfl
  ·grind[U3.refl]
  exact key _ hR.drew.1 hR.drew.2
def Yi {y:Operand} (ho:o.op= .entry y) (hl:LT H K (ev fr y)):I7 P o fr H K:=by
 intro g w a hR hE;obtain⟨id,mid,since,seen,c0,es,clock,e,kx,vx,h1,h2,h0,h3,h4,h5,h6,h7,h8⟩:=hl;subst h0;have hx:=E6 hR hE y
 rw[h1]at hx
 generalize hav:a.eval y=xv at hx
 obtain⟨b,bm,k1,k2,k3,k4⟩:=hR.blk id _ h2;have k5:=Td hR h3 k3
 cases hx with
 |ref hm=>
  rename_i b'
  rw[k1]at hm;cases hm
  unfold execOp;rw[ho];simp only[hav,B9,run_entry_at (P:=P) w b bm since seen es _ e k4 k5 h4 h5,B7,C4,H6];refine L4.here hR (.tup rfl fun i hi=>?_) h8
  match i with
  |0=>exact Py h6
  |1=>exact Py h7
  |i+2=>grind
end
section
variable {P:Program}{o:Oper}{fr:Fr}{H:A4}{K:V→A4→Prop}
def Ae4 (P:Program)(t:TypeId)(l c v:V):Prop:=
 ∃k1 k2 n e sz by_ z,l= .int k1 n∧c= .int k2 n∧EO P t=some e∧Eh P e=some sz∧0<sz∧Ny P e=some by_∧0<by_∧HA P e=some z∧z.one=true∧z.cells.length=sz∧0≤n∧n*(by_:Nat)≤281474976710656∧v= .sl (List.replicate n.toNat z) .ro
theorem Yf {t:TypeId} {l c:Operand} {v:V} (ho:o.op= .makeSlice t l c) (h:Ae4 P t (ev fr l) (ev fr c) v) (hK:K v H):I7 P o fr H K:=by
 obtain⟨k1,k2,n,e,sz,by_,z,e1,e2,e3,e4,e5,e6,e7,e8,e9,e10,e11,e12,rfl⟩:=h;intro g w a hR hE;refine H6.mono ?_ (TK (K:=fun x H'=>∃id,H id=none∧x= .own id 0 n∧H'=upd H id (some (.arr sz (List.replicate n.toNat z)))) ho e1 e2 e3 e4 e5 e6 e7 e8 e9 e10 e11 (O9 _) e12 (fun id hid=>⟨id,hid,rfl,rfl⟩) g w a hR hE);rintro x w' ⟨g1,y,H1,s1,R1,hv,id,hid,rfl,rfl⟩;obtain⟨g2,_,s2,R2,hfr⟩:=R1.freezeArr' (D6 _ _ _)
 have hH:upd (upd H id (some (.arr sz (List.replicate n.toNat z)))) id none=H:=by
  funext x
  simp_all[upd]
 rw[hH]at R2
 refine⟨g2,_,H,s1.trans s2,R2,?_,hK⟩;have:=hfr x 0 n (hv.mono s2)
 have hs:L9 (List.replicate n.toNat z) 0 n=List.replicate n.toNat z:=by simp[L9]
 rw[hs]at this
 exact this
end
end Go.Ab
namespace Go.Ab
open Go.RowKit
variable [L6]
def Args (g:Gh)(w:World)(vals:Array Value)(args:List V):Prop:=
 vals.size=args.length∧∀i,i<args.length→VR g w (vals.getD i undef) (args.getD i .bad)
def J1 (P:Program)(f:FuncId)(args:List V)(H:A4)(K:V→A4→Prop):Prop:=
 ∀g w vals,Rl g H w→Args g w vals args→H6 P (L4 g w K) ((callFunc f vals).run P w)
def CR (P:Program)(fv:V)(args:List V)(H:A4)(K:V→A4→Prop):Prop:=
 ∀g w v vals,Rl g H w→VR g w v fv→Args g w vals args→H6 P (L4 g w K) ((do let d ←Deferred.ofValue v vals;invoke d.target d.args:Sem Next).run P w)
def C7 (P:Program)(f:FuncId)(args:List V)(r:V):Prop:=∀H,J1 P f args H fun x H'=>x=r∧H'=H
def X9 (P:Program)(fv:V)(args:List V)(r:V):Prop:=∀H,CR P fv args H fun x H'=>x=r∧H'=H
def L4.mono {g:Gh}{w:World}{K K':V→A4→Prop}(h:∀x H,K x H→K' x H){v:Value}{w':World}(p:L4 g w K v w'):L4 g w K' v w':=
 let⟨g',x,H',a,b,c,d⟩:=p;⟨g',x,H',a,b,c,h _ _ d⟩
def ND (P:Program)(fv:V)(args:List V)(H:A4)(r:V):Prop:=∀H',(∀id b,H id=some b→H' id=some b)→CR P fv args H' fun x h=>x=r∧h=H'
def X9.toH {P:Program}{fv:V}{args:List V}{r:V}(h:X9 P fv args r)(H:A4):ND P fv args H r:=fun H' _=>h H'
def ND.up {P:Program}{fv:V}{args:List V}{H H':A4}{r:V}(h:ND P fv args H r)(hl:∀id b,H id=some b→H' id=some b):ND P fv args H' r:=fun H2 h2=>h H2 fun id b e=>h2 id b (hl id b e)
def J1.mono {P:Program}{f:FuncId}{args:List V}{H:A4}{K K':V→A4→Prop}(c:J1 P f args H K)(h:∀x H,K x H→K' x H):J1 P f args H K':=
 fun g w vals hR hA=>(c g w vals hR hA).mono fun _ _ p=>p.mono h
def CR.mono {P:Program}{fv:V}{args:List V}{H:A4}{K K':V→A4→Prop}(c:CR P fv args H K)(h:∀x H,K x H→K' x H):CR P fv args H K':=
 fun g w v vals hR hv hA=>(c g w v vals hR hv hA).mono fun _ _ p=>p.mono h
theorem C7.at {P:Program}{f:FuncId}{args:List V}{r:V}(c:C7 P f args r){H:A4}{K:V→A4→Prop}(h:K r H):J1 P f args H K:=
 (c H).mono fun x H' ⟨e1,e2⟩=>by rw[e1,e2];exact h
theorem X9.at {P:Program}{fv:V}{args:List V}{r:V}(c:X9 P fv args r){H:A4}{K:V→A4→Prop}(h:K r H):CR P fv args H K:=
 (c H).mono fun x H' ⟨e1,e2⟩=>by rw[e1,e2];exact h
def Wk (x y:V):Prop:=∀g w v,VR g w v x→VR g w v y
theorem Wk.refl (x:V):Wk x x:=fun _ _ _ h=>h
def Wk.bad (x:V):Wk x .bad:=fun _ _ _ _=>.bad _
def Wk.ro (xs:List V)(t:D2):Wk (.sl xs t) (.sl xs .ro):=by
 intro g w v h
 cases h with
 |sl0 ht=>exact .sl0 rfl
 |sle ht=>exact .sle (.inl rfl)
 |sl vs hn hc hz hf hw h1 hv ht=>exact .sl vs hn hc hz hf hw h1 hv trivial
def Wk.nil (t:D2)(ht:t.plain=true):Wk (.sl [] .nil) (.sl [] t):=by
 intro g w v h
 cases h with
 |sl0 _=>exact .sl0 ht
 |sle h=>rcases h with h|⟨h,_⟩<;>cases h
 |sl vs hn hc hz hf hw h1 hv ht=>exact ht.elim
def Args.append {g:Gh} {w:World} {a b:Array Value} {x y:List V} (h:Args g w a x) (k:Args g w b y):Args g w (a++b) (x++y):=by
 refine⟨by simp[h.1,k.1],fun i hi=>?_⟩;rw[FW]
 have e:(a++b).getD i undef=if i<x.length then a.getD i undef else b.getD (i-x.length) undef:=by
  simp only[M7,GI,h.1]
  split<;>rfl
 rw[e]
 grind[Args]
def J1.value {P:Program} {f:FuncId} {F C args:List V} {H:A4} {K:V→A4→Prop} (h:J1 P f (F++args++C) H K):CR P (.func (.func f) F C) args H K:=by
 intro g w v vals hR hv hA
 cases hv with
 |func hl hv hl' hv'=>
  rename_i fs cs;have:=h g w (fs++vals++cs) hR (Args.append (Args.append ⟨hl,hv⟩ hA) ⟨hl',hv'⟩)
  simpa only[Deferred.ofValue,B9,C4,B7,invoke]using this
def C7.value {P:Program}{f:FuncId}{F C args:List V}{r:V}(h:C7 P f (F++args++C) r):X9 P (.func (.func f) F C) args r:=fun H=>(h H).value
theorem I7.le {P:Program}{o:Oper}{fr:Fr}{H:A4}{K:V→A4→Prop}(h:I7 P o fr H fun x H'=>∃y,BV x y∧K y H'):I7 P o fr H K:=
 fun g w a hR hE=>(h g w a hR hE).mono fun v w' ⟨g',x,H',s,hR',hv,y,hxy,hK⟩=>⟨g',y,H',s,hR',hv.le hxy,hK⟩
section
variable {P:Program}{o:Oper}{fr:Fr}{H:A4}{K:V→A4→Prop}
def Ai3 {g:Gh}{w:World}{a:Act}(hR:Rl g H w)(hE:ER g w a fr)(l:Array Operand):Args g w (l.map a.eval) (l.toList.map (ev fr)):=by
 refine⟨by simp,fun i hi=>?_⟩
 have hi':i<l.size:=by grind
 have e1:(l.map a.eval).getD i undef=a.eval l[i]:=by simp_all
 have e2:(l.toList.map (ev fr)).getD i .bad=ev fr l[i]:=by simp_all
 rw[e1,e2];grind[E6]
theorem TP {x:Operand}{args:Array Operand}{ts:Array TypeId}(ho:o.op= .call {callee:=.value x,args:=args,argTypes:=ts})(h:CR P (ev fr x) (args.toList.map (ev fr)) H K):
 I7 P o fr H K:=by
 intro g w a hR hE;have:=h g w (a.eval x) (args.map a.eval) hR (E6 hR hE x) (Ai3 hR hE args);unfold execOp;rw[ho]
 simpa only[resolve]using this
end
abbrev QG:=Nat→Bool
def CO (P:Program) (b:Builtin) (ts:List TypeId) (vs:List V) (v:V):Prop:=
 match b,ts,vs with
 | .len,[t],[x]=>YM P t x=some v
 | .max,_,[.int k a,.int k' b]=>k=k'∧v= .int k (if a<b then b else a)
 | .min,_,[.int k a,.int k' b]=>k=k'∧v= .int k (if b<a then b else a)
 | .append,[sT,yT],[.sl xs tl,.sl ys _]=>(tl= .nil∨tl= .full)∧∃e sz by_ z xs' ys',EO P sT=some e∧(EO P yT).isSome=true∧Eh P e=some sz∧0<sz∧Ny P e=some by_∧0<by_∧HA P e=some z∧z.one=true∧z.cells.length=sz∧
  L5 xs xs'∧L5 ys ys'∧xs'.all (fun x=>x.cells.length==sz)=true∧ys'.all (fun x=>x.cells.length==sz)=true∧(xs'.length+ys'.length)*by_≤140737488355328∧v= .sl (xs'++ys') .ro
 |_,_,_=>False
def I7.lessH {P:Program}{o:Oper}{fr:Fr}{H:A4}{K:V→A4→Prop}(h:I7 P o fr H fun x H'=>∃y H2,BV x y∧(∀id b,H2 id=some b→H' id=some b)∧K y H2):I7 P o fr H K:=
 fun g w a hR hE=>(h g w a hR hE).mono fun v w' ⟨g',x,H',s,hR',hv,y,H2,hxy,hH,hK⟩=>⟨g',y,H2,s,hR'.less hH,hv.le hxy,hK⟩
theorem KJ {P:Program} {o:Oper} {fr:Fr} {H:A4} {c:Call} {b:Builtin} {v:V} (ho:o.op= .call c) (hc:c.callee= .builtin b)
 (h:CO P b c.argTypes.toList (c.args.toList.map (ev fr)) v) {K:V→A4→Prop} (k:K v H):I7 P o fr H K:=by
 obtain⟨ce,args,ts⟩:=c
 simp only at hc h
 subst hc;obtain⟨args⟩:=args;obtain⟨ts⟩:=ts
 simp only at h
 unfold CO at h
 split at h
 ·rename_i t x e2
  match args,e2 with
  |[y],e2=>
   simp only[G2,J3,V5,J6]at e2
   grind[Al5]
  |[],e2=>simp at e2
  |_::_::_,e2=>simp at e2
 ·rename_i k a k' b e2;obtain⟨rfl,rfl⟩:=h
  match args,e2 with
  |[x,y],e2=>
   simp only[G2,J3,V5,J6]at e2
   intro g w act hR hE;rw[P5 ho];have h1:=E6 hR hE x;have h2:=E6 hR hE y
   rw[e2.1]at h1;rw[e2.2]at h2
   have e1:=h1.int_inv;have e2':=h2.int_inv;simp[builtin,Builtin.max_,Builtin.max2,e1,e2',B9,C4]
   split<;>exact L4.here hR (by first|(rw[A1 (by assumption)];grind)|grind|exact .int _ _) k
  |[],e2=>simp at e2
  |[_],e2=>simp at e2
  |_::_::_::_,e2=>simp at e2
 ·rename_i k a k' b e2;obtain⟨rfl,rfl⟩:=h
  match args,e2 with
  |[x,y],e2=>
   simp only[G2,J3,V5,J6]at e2
   intro g w act hR hE;rw[P5 ho];have h1:=E6 hR hE x;have h2:=E6 hR hE y
   rw[e2.1]at h1;rw[e2.2]at h2
   have e1:=h1.int_inv;have e2':=h2.int_inv;simp[builtin,Builtin.min_,Builtin.min2,e1,e2',B9,C4]
   split<;>exact L4.here hR (by first|(rw[A1 (by assumption)];grind)|grind|exact .int _ _) k
  |[],e2=>simp at e2
  |[_],e2=>simp at e2
  |_::_::_::_,e2=>simp at e2
 ·rename_i sT yT xs tl ys tl' e2;obtain⟨htl,e,sz,by_,z,xs',ys',k1,k2,k3,k4,k5,k6,k7,k8,k9,l1,l2,k11,k12,k13,rfl⟩:=h
  match args,e2 with
  |[s,y],e2=>
   simp only[G2,J3,V5,J6]at e2
   have hA:EN H tl:=by rcases htl with rfl|rfl<;>trivial
   have hd:G0 H tl=H:=by rcases htl with rfl|rfl<;>rfl
   refine I7.lessH (LD (K:=fun x H'=>∃y H2,BV x y∧(∀id b,H2 id=some b→H' id=some b)∧K y H2) ho e2.1 e2.2 k1 k2 k3 k4 k5 k6 k7 k8 k9 hA (l1.sz k11) (l2.sz k12) (by rw[l1.length,l2.length];exact k13) (fun e=>⟨_,H,?_,fun _ _ h=>h,k⟩) fun t h1 h2=>⟨_,H,BV.sl _ (l1.append l2),fun id b hb=>?_,k⟩)
   ·subst e;cases l2;rw[G9];exact BV.sl _ l1
   rw[hd]at h2 ⊢
   grind[upd]
  |[],e2=>simp at e2
  |[_],e2=>simp at e2
  |_::_::_::_,e2=>simp at e2
 exact h.elim
def GD (P:Program) (H:A4) (K:V→A4→Prop):List TypeId→List V→Prop
 | [sT,yT],[.sl xs tl,.sl ys _]=>
  ∃e sz by_ z,EO P sT=some e∧(EO P yT).isSome=true∧Eh P e=some sz∧0<sz∧Ny P e=some by_∧0<by_∧HA P e=some z∧z.one=true∧z.cells.length=sz∧∃xs' ys',L5 xs xs'∧L5 ys ys'∧EN H tl∧
   xs'.all (fun x=>x.cells.length==sz)=true∧ys'.all (fun x=>x.cells.length==sz)=true∧(xs'.length+ys'.length)*by_≤140737488355328∧(ys'=[]→K (.sl xs' tl) H)∧
   ∀t,ys'≠[]→G0 H tl t=none→K (.sl (xs'++ys') (.tok t)) (upd (G0 H tl) t (some .spare))
 |_,_=>False
def Ls {P:Program} {o:Oper} {fr:Fr} {H:A4} {c:Call} (ho:o.op= .call c) (hc:c.callee= .builtin .append) {K:V→A4→Prop}
 (h:GD P H K c.argTypes.toList (c.args.toList.map (ev fr))):I7 P o fr H K:=by
 obtain⟨ce,args,ts⟩:=c
 simp only at hc h
 subst hc;obtain⟨args⟩:=args;obtain⟨ts⟩:=ts
 simp only at h
 unfold GD at h
 split at h
 ·rename_i sT yT xs tl ys tl' e2
  match args,e2 with
  |[s,y],e2=>
   simp only[G2,J3,V5,J6]at e2
   obtain⟨e,sz,by_,z,k1,k2,k3,k4,k5,k6,k7,k8,k9,xs',ys',l1,l2,k10,k11,k12,k13,k14,k15⟩:=h;refine I7.le (LD (K:=fun x H'=>∃y,BV x y∧K y H') ho e2.1 e2.2 k1 k2 k3 k4 k5 k6 k7 k8 k9 k10 (l1.sz k11) (l2.sz k12) (by rw[l1.length,l2.length];exact k13) (fun e=>⟨_,.slt _ l1,k14 (by subst e;cases l2;rfl)⟩) fun t h1 h2=>⟨_,.slt _ (l1.append l2),k15 t (fun e=>h1 (by subst e;cases l2;rfl)) h2⟩)
  |[],e2=>simp at e2
  |[_],e2=>simp at e2
  |_::_::_::_,e2=>simp at e2
 exact h.elim
def LN (P:Program)(H:A4)(b:Builtin)(ts:List TypeId)(vs:List V)(v:V):Prop:=
 match b,ts,vs with
 | .len,[t],[x]=>Ao9 P H t x=some v
 | .cap,[t],[x]=>WD P H t x=some v
 |_,_,_=>False
theorem PQ {P:Program} {o:Oper} {fr:Fr} {H:A4} {c:Call} {b:Builtin} {v:V} (ho:o.op= .call c) (hc:c.callee= .builtin b)
 (h:LN P H b c.argTypes.toList (c.args.toList.map (ev fr)) v) {K:V→A4→Prop} (k:K v H):I7 P o fr H K:=by
 obtain⟨ce,args,ts⟩:=c
 simp only at hc h
 subst hc;obtain⟨args⟩:=args;obtain⟨ts⟩:=ts
 simp only at h
 unfold LN at h
 split at h
 ·rename_i t x e2
  match args,e2 with
  |[y],e2=>
   simp only[G2,J3,V5,J6]at e2
   grind[ZW]
  |[],e2=>simp at e2
  |_::_::_,e2=>simp at e2
 ·rename_i t x e2
  match args,e2 with
  |[y],e2=>
   simp only[G2,J3,V5,J6]at e2
   grind[ZY]
  |[],e2=>simp at e2
  |_::_::_,e2=>simp at e2
 exact h.elim
theorem NA {H H':A4}(hl:∀id b,H id=some b→H' id=some b){id:Nat}{p:Nat×List V}(h:Hh H id=some p):Hh H' id=some p:=by
 have:=Fj (sz:=p.1) (xs:=p.2) h
 simp_all[Hh]
def Wi {P:Program}{H H':A4}{t:TypeId}{x v:V}(hl:∀id b,H id=some b→H' id=some b)(h:Lp P H t x=some v):Lp P H' t x=some v:=by
 unfold Lp at h ⊢
 grind[NA]
theorem YQ {P:Program}{H H':A4}{t:TypeId}{x v:V}{i:Int}(hl:∀id b,H id=some b→H' id=some b)(h:Ws P H t x i=some v):Ws P H' t x i=some v:=by
 unfold Ws at h ⊢
 grind[NA]
theorem TF {P:Program}{H H':A4}{t:TypeId}{x v:V}{i j k:Option Int}(hl:∀id b,H id=some b→H' id=some b)(h:JW P H t x i j k=some v):JW P H' t x i j k=some v:=by
 unfold JW at h ⊢
 grind[NA]
theorem YN {P:Program} {H H':A4} {b:Builtin} {ts:List TypeId} {vs:List V} {v:V} (hl:∀id b,H id=some b→H' id=some b) (h:LN P H b ts vs v):LN P H' b ts vs v:=by
 unfold LN at h ⊢
 split at h
 ·exact h
 ·rename_i t x
  unfold WD at h ⊢
  grind[Hh]
 omega
def ownN (x:V):Nat:=
 match x with
 | .own _ _ n=>n.toNat
 |_=>0
def Gt (H:A4) (K:V→A4→Prop) (sz by_:Nat) (z:V) (x:V) (ys:List V):Prop:=
 match x with
 | .own id lo n=>∃xs,H id=some (.arr sz xs)∧
  (lo+n+(ys.length:Nat)≤(xs.length:Nat)→K (.own id lo (n+(ys.length:Nat))) (upd H id (some (.arr sz (Ax xs (lo+n).toNat ys)))))∧
  ((xs.length:Nat)<lo+n+(ys.length:Nat)→(n.toNat+ys.length)*by_≤140737488355328∧∀t k,H t=none→K (.own t 0 (n+(ys.length:Nat))) (upd H t (some (.arr sz (L9 xs lo n++ys++List.replicate k z)))))
 |x=>(x= .sl [] .nil∨x= .sl [] .full)∧ys.length*by_≤140737488355328∧∀t k,H t=none→K (.own t 0 (ys.length:Nat)) (upd H t (some (.arr sz (ys++List.replicate k z))))
theorem IT {H:A4}{K K':V→A4→Prop}{sz by_:Nat}{z x:V}{ys:List V}(h:Gt H K sz by_ z x ys)(hk:∀v H',K v H'→K' v H'):Gt H K' sz by_ z x ys:=by
 unfold Gt at h ⊢
 grind
def MS (P:Program) (H:A4) (K:V→A4→Prop):List TypeId→List V→Prop
 | [sT,yT],[x,y]=>
  ∃ e sz by_ z,EO P sT=some e∧Eh P e=some sz∧0<sz∧Ny P e=some by_∧0<by_∧HA P e=some z∧z.one=true∧z.cells.length=sz∧
   (((EO P yT).isSome=true∧∃ys',OC sz H y ys'∧Gt H K sz by_ z x ys')∨
    ((∃k',P.underlying yT=some (.int k'))∧∃k m,y= .int k m∧0≤m∧(ownN x+m.toNat)*by_≤140737488355328∧Gt H K sz by_ z x (List.replicate m.toNat z))∨
    (P.underlying yT=some .string∧∃s,y= .str s∧sz=1∧Gt H K sz by_ z x (Ga s)))
 |_,_=>False
def QZ {P:Program} {o:Oper} {fr:Fr} {H:A4} {c:Call} (ho:o.op= .call c) (hc:c.callee= .builtin .append) {K:V→A4→Prop}
 (h:MS P H K c.argTypes.toList (c.args.toList.map (ev fr))):I7 P o fr H K:=by
 obtain⟨ce,args,ts⟩:=c
 simp only at hc h
 subst hc;obtain⟨args⟩:=args;obtain⟨ts⟩:=ts
 simp only at h
 unfold MS at h
 split at h
 ·rename_i sT yT x y' e2
  match args,e2 with
  | [s,y],e2=>
   simp only[G2,J3,V5,J6]at e2
   obtain⟨e,sz,by_,z,k1,k3,k4,k5,k6,k7,k8,k9,h⟩:=h
   rcases h with⟨k2,ys',l1,l4⟩|⟨⟨k',k2⟩,k,m,l1,l2,l0,l4⟩|⟨k2,s',l1,l2,l4⟩
   ·unfold Gt at l4
    grind[TH,Sm]
   ·have hm:((m.toNat:Nat):Int)=m:=by omega
    unfold Gt at l4
    simp only[NJ,hm]at l4
    split at l4
    ·rename_i id lo n;obtain⟨xs,m1,m3,m4⟩:=l4;exact Sj ho e2.1 (e2.2.trans l1) m1 k1 k2 k3 k4 k5 k6 k7 k8 k9 l2 l0 m3 fun e=>(m4 e).2
    grind[QK]
   subst l2
   unfold Gt at l4
   grind[Sk,QL]
  |[],e2=>simp at e2
  |[_],e2=>simp at e2
  |_::_::_::_,e2=>simp at e2
 exact h.elim
def Vc (P:Program) (H:A4) (K:V→A4→Prop):List TypeId→List V→Prop
 | [sT,_],[.own id lo n,y]=>
  ∃e sz xs ys',EO P sT=some e∧Eh P e=some sz∧0<sz∧H id=some (.arr sz xs)∧OC sz H y ys'∧
   K (.int .i64 (if n<(ys'.length:Nat)then n else(ys'.length:Nat))) (upd H id (some (.arr sz (Ax xs lo.toNat (ys'.take n.toNat)))))
 |_,_=>False
def Vb {P:Program} {o:Oper} {fr:Fr} {H:A4} {c:Call} (ho:o.op= .call c) (hc:c.callee= .builtin .copy) {K:V→A4→Prop}
 (h:Vc P H K c.argTypes.toList (c.args.toList.map (ev fr))):I7 P o fr H K:=by
 obtain⟨ce,args,ts⟩:=c
 simp only at hc h
 subst hc;obtain⟨args⟩:=args;obtain⟨ts⟩:=ts
 simp only at h
 unfold Vc at h
 split at h
 ·rename_i sT yT id lo n y' e2
  match args,e2 with
  |[s,y],e2=>
   simp only[G2,J3,V5,J6]at e2
   grind[Ye]
  |[],e2=>simp at e2
  |[_],e2=>simp at e2
  |_::_::_::_,e2=>simp at e2
 exact h.elim
def Qo (P:Program) (H:A4) (K:V→A4→Prop):List TypeId→List V→Prop
 |[sT],[.own id lo n]=>
  ∃e sz z xs,EO P sT=some e∧Eh P e=some sz∧0<sz∧HA P e=some z∧z.one=true∧z.cells.length=sz∧H id=some (.arr sz xs)∧K (.tup []) (upd H id (some (.arr sz (Ax xs lo.toNat (List.replicate n.toNat z)))))
 |_,_=>False
def Ta {P:Program} {o:Oper} {fr:Fr} {H:A4} {c:Call} (ho:o.op= .call c) (hc:c.callee= .builtin .clear) {K:V→A4→Prop}
 (h:Qo P H K c.argTypes.toList (c.args.toList.map (ev fr))):I7 P o fr H K:=by
 obtain⟨ce,args,ts⟩:=c
 simp only at hc h
 subst hc;obtain⟨args⟩:=args;obtain⟨ts⟩:=ts
 simp only at h
 unfold Qo at h
 split at h
 ·rename_i sT id lo n e2
  match args,e2 with
  |[s],e2=>
   simp only[G2,J3,V5,J6]at e2
   grind[VJ]
  |[],e2=>simp at e2
  |_::_::_,e2=>simp at e2
 exact h.elim
def Oh (P:Program) (H:A4) (K:V→A4→Prop) (t:TypeId) (l c:V):Prop:=
 match l,c with
 | .int _ n,.int _ m=>∃e sz by_ z,EO P t=some e∧Eh P e=some sz∧0<sz∧Ny P e=some by_∧0<by_∧HA P e=some z∧z.one=true∧z.cells.length=sz∧0≤n∧n≤m∧m*by_≤281474976710656∧
  ∀id,H id=none→K (.own id 0 n) (upd H id (some (.arr sz (List.replicate m.toNat z))))
 |_,_=>False
def Md (P:Program) (o:Oper) (ρ:Operand→V) (H:A4) (v:V):Prop:=
 match o.op with
 | .move x=>v=ρ x
 | .assign x=>v=ρ x
 | .pick c x y=>
  match ρ c with
  | .bool t=>v=if t then ρ x else ρ y
  |_=>False
 | .box _ x=>(ρ x).one=true∧v= .eref (ρ x).cells 0
 | .build t ps=>Nz P t (ps.toList.map fun p=>(p.1,ρ p.2))=some v
 | .buildSlice t n ps=>AH P t n (ps.toList.map fun p=>(p.1,ρ p.2))=some v
 | .makeSlice t l c=>Ae4 P t (ρ l) (ρ c) v
 | .load t x=>HG P H t (ρ x)=some v∨Lp P H t (ρ x)=some v
 | .nilCheck x=>Xh (ρ x)=true∧v=ρ x
 | .binOp op t x y _=>OB P op t (ρ x) (ρ y)=some v
 | .unOp op _ x=>unV op (ρ x)=some v
 | .convert s d x=>RQ P s d (ρ x)=some v∨RR P H s d (ρ x) v
 | .lookup t x y ok=>La P H t (ρ x) (ρ y) ok v
 | .makeInterface t x=>ifO P t=false∧v= .iface t (ρ x)
 | .makeFunc fn fs cs=>v= .func fn (fs.toList.map ρ) (cs.toList.map ρ)
 | .slice t x lo hi mx=>
  match BX (lo.map ρ),BX (hi.map ρ),BX (mx.map ρ)with
  |some l,some h,some m=>Pl P t (ρ x) l h m=some v∨JW P H t (ρ x) l h m=some v
  |_,_,_=>False
 | .fieldAddr t x f=>GZ P t (ρ x) f=some v
 | .field t x f=>Qg P t (ρ x) f=some v
 | .indexAddr t x y=>
  match ρ y with
  | .int _ i=>(∃u,DG P t (ρ x) i=some u∧BV u v)∨Ws P H t (ρ x) i=some v
  |_=>False
 | .index t x y=>
  match ρ y with
  | .int _ i=>No P t (ρ x) i=some v
  |_=>False
 | .extract x n=>
  match ρ x with
  | .tup cs=>cs[n]? =some v
  |_=>False
 | .call c=>
  match c.callee with
  | .value x=>ND P (ρ x) (c.args.toList.map ρ) H v
  | .builtin b=>CO P b c.argTypes.toList (c.args.toList.map ρ) v∨LN P H b c.argTypes.toList (c.args.toList.map ρ) v
  |_=>False
 |_=>False
def Wh {P:Program}{H H':A4}{t:TypeId}{x v:V}(hl:∀id b,H id=some b→H' id=some b)(h:HG P H t x=some v):HG P H' t x=some v:=by
 unfold HG at h ⊢
 grind
def Ac6 {P:Program}{o:Oper}{ρ:Operand→V}{H H':A4}{v:V}(hl:∀id b,H id=some b→H' id=some b)(h:Md P o ρ H v):Md P o ρ H' v:=by
 unfold Md at h ⊢
 cases ho:o.op<;>simp only[ho]at h ⊢ <;>first|exact h|exact h.imp (Wh hl) (Wi hl)|exact h.imp (fun h=>h) (WA hl)|exact SN hl h|skip
 ·grind[TF]
 ·grind[YQ]
 split at h
 ·exact h.up hl
 ·grind[YN]
 exact h
theorem KT {P:Program} {o:Oper} {fr:Fr} {H:A4} {v:V} (h:Md P o (ev fr) H v) {K:V→A4→Prop} (k:K v H):I7 P o fr H K:=by
 unfold Md at h
 split at h
 ·grind[TI]
 ·grind[Pp]
 ·grind[ZU]
 ·grind[JX]
 ·grind[Yk]
 ·grind[Po]
 ·grind[Yf]
 ·grind[Aa0,Yd]
 ·grind[Sn]
 ·grind[Yl]
 ·grind[ZT]
 ·grind[TO,Yj]
 ·grind[VK]
 ·grind[Mm]
 ·grind[Sq]
 ·grind[Yb,TG]
 ·grind[QN]
 ·grind[Yh]
 ·grind[ZX,I7.le,QM]
 ·grind[Yg]
 ·grind[TN]
 ·rename_i c ho
  split at h
  ·rename_i x hc;obtain⟨ce,args,ts⟩:=c
   simp only at hc h
   subst hc;exact TP ho ((h H fun _ _ e=>e).mono fun x H' ⟨e1,e2⟩=>by rw[e1,e2];exact k)
  ·grind[KJ,PQ]
  grind
 grind
def AC0 (K:V→A4→Prop)(x:V)(H:A4):Prop:=∃y H2,BV x y∧(∀id b,H2 id=some b→H id=some b)∧K y H2
def Hi (P:Program) (A:QG) (o:Oper) (ρ:Operand→V) (H:A4) (K:V→A4→Prop):Prop:=
 match o.op with
 | .alloc t=>(∃z,HA P t=some z∧z.one=true∧∀id,H id=none→∃ds,L5 z.cells ds∧K (.ref id 0) (upd H id (some (.cells ds))))∨
  HA P t=some (.sl [] .nil)∧∃sz,∀q id,H q=none→upd H q (some (.arr sz [])) id=none→K (.ref id 0) (upd (upd H q (some (.arr sz []))) id (some (.cells [.own q 0 0])))
 | .box _ x=>
  (ρ x).one=true∧if A (o.dst.getD 0)then∀id,H id=none→K (.ref id 0) (upd H id (some (.cells (ρ x).cells)))else K (.eref (ρ x).cells 0) H
 | .store t x y=>(∃z H',BV (ρ y) z∧LA P H t (ρ x) z=some H'∧K .bad H')∨∃z H',BV (ρ y) z∧Sh P H t (ρ x) z=some H'∧K .bad H'
 | .makeSlice t l c=>Oh P H K t (ρ l) (ρ c)∨Oh P H (UD K) t (ρ l) (ρ c)
 | .assign x=>K (ρ x) H∨At8 H K (ρ x)
 | .move x=>K (ρ x) H∨At8 H K (ρ x)
 | .buildSlice t n ps=>(∃v,Md P o ρ H v∧K v H)∨litO P H K t n (ps.toList.map fun p=>(p.1,ρ p.2))
 | .makeMap t r=>r=none∧Ae3 H K
 | .mapUpdate t x y z=>KL P H K t (ρ x) (ρ y) (ρ z)
 | .insert t x y z=>KL P H K t (ρ x) (ρ y) (ρ z)
 | .range t x=>LJ P H K t (ρ x)
 | .next x s=>s=false∧PK H K (ρ x)
 | .entry x=>LT H K (ρ x)
 | .binOp op t x y _=>(∃v,Md P o ρ H v∧K v H)∨∃q e p,XH op=some q∧EO P t=some e∧YF (ρ x)=some p∧ρ y= .sl [] .nil∧(p→K (.bool q) H)∧K (.bool (!q)) H
 | .call c=>
  match c.callee with
  | .value x=>CR P (ρ x) (c.args.toList.map ρ) H K
  | .builtin .append=>GD P H K c.argTypes.toList (c.args.toList.map ρ)∨MS P H K c.argTypes.toList (c.args.toList.map ρ)∨GD P H (AC0 K) c.argTypes.toList (c.args.toList.map ρ)
  | .builtin .copy=>Vc P H K c.argTypes.toList (c.args.toList.map ρ)
  | .builtin .clear=>Qo P H K c.argTypes.toList (c.args.toList.map ρ)
  | .builtin b=>∃v,(CO P b c.argTypes.toList (c.args.toList.map ρ) v∨LN P H b c.argTypes.toList (c.args.toList.map ρ) v)∧K v H
  |_=>False
 |_=>∃v,Md P o ρ H v∧K v H
def VM {P:Program}{o:Oper}{fr:Fr}{H:A4}{K:V→A4→Prop}{t:TypeId}(ho:o.op= .alloc t)(hz:HA P t=some (.sl [] .nil))(sz:Nat)
 (h:∀q id,H q=none→upd H q (some (.arr sz [])) id=none→K (.ref id 0) (upd (upd H q (some (.arr sz []))) id (some (.cells [.own q 0 0])))):I7 P o fr H K:=by
 intro g w a hR hE;obtain⟨v,e,hv⟩:=CS hz
 have hr:VR g w v (.sl [] .nil):=by rw[e];simp[DJ]
 obtain⟨g1,s1,R1,hn,hv1⟩:=DY hR sz (.inl rfl) hr;obtain⟨g',id,hid,s,hR',hv'⟩:=HN R1 t hv1 rfl;unfold execOp;rw[ho];simp only[Instr.alloc,B9,hv,B7,H6];exact⟨g',_,_,s1.trans s,hR',hv',h _ id hn hid⟩
def Rl.chgCells {g:Gh} {H:A4} {w:World} (h:Rl g H w) {id:Nat} {cs ds:List V} (hk:H id=some (.cells cs)) (el:cs.length=ds.length)
 (hv:∀(j:Nat) u,j<cs.length→VR g w u (cs.getD j .bad)→VR g w u (ds.getD j .bad)):Rl g (upd H id (some (.cells ds))) w:=by
 have hat:∀x,g.at (upd H id (some (.cells ds))) x=g.at H x:=by
  grind[Gh.at,upd]
 refine⟨fun x k hx=>?_,fun x x' y h1 h2=>h.inj x x' y (hat x▸h1) (hat x'▸h2),h.frz,fun x hx=>?_,h.bnd,h.glb⟩
 ·by_cases hxe:x=id
  ·subst hxe;rw[D6]at hx;cases hx
   obtain⟨b,c,T,h1,h2,h3,h4,h5,h6⟩:=h.blk x _ hk
   simp_all[Ci]
  rw[C3 _ _ hxe]at hx;exact h.blk x k hx
 obtain⟨a1,a2,a3⟩:=h.nxt x hx
 have hne:x≠id:=fun e=>by simp_all
 simp_all[upd]
theorem VL {P:Program}{o:Oper}{fr:Fr}{H:A4}{K:V→A4→Prop}{t:TypeId}{z:V}(ho:o.op= .alloc t)(hz:HA P t=some z)(h1:z.one=true)(h:∀id,H id=none→∃ds,L5 z.cells ds∧K (.ref id 0) (upd H id (some (.cells ds)))):I7 P o fr H K:=by
 intro g w a hR hE;refine(Ym (K:=fun x H'=>∃id,H id=none∧x= .ref id 0∧H'=upd H id (some (.cells z.cells))) ho hz h1 (fun id hid=>⟨id,hid,rfl,rfl⟩) g w a hR hE).mono fun v w' ⟨g',x,H',s,hR',hv,id,hid,e1,e2⟩=>?_;subst e1;subst e2;obtain⟨ds,hle,hK⟩:=h id hid;have:=hR'.chgCells (D6 _ _ _) (ds:=ds) hle.length fun j u _ hu=>hu.le (hle.at j)
 rw[Z1]at this
 grind[L4]
def YC {P:Program} {A:QG} {o:Oper} {fr:Fr} {H:A4} {K:V→A4→Prop} (h:Hi P A o (ev fr) H K):I7 P o fr H K:=by
 unfold Hi at h
 split at h
 ·rename_i t ho
  rcases h with⟨z,h1,h2,h3⟩|⟨h1,sz,h2⟩
  ·grind[VL]
  exact VM ho h1 sz h2
 ·grind[QO,JX]
 ·rename_i t x y ho
  rcases h with⟨z,H',h0,h1,h2⟩|⟨z,H',h0,h1,h2⟩
  ·exact Rg ho (fun _ _ _ h=>h.le h0) h1 h2
  grind[VI]
 ·rename_i t l c ho
  have key:∀K,Oh P H K t (ev fr l) (ev fr c)→I7 P o fr H K:=by
   intro K h
   unfold Oh at h
   grind[TK]
  exact h.elim (key K) fun h=>I7.lessRow (key _ h)
 ·rename_i x ho;exact h.elim (Pp ho) fun⟨h1,sz,h2⟩=>Oa (.inl ho) h1 sz h2
 ·rename_i x ho;exact h.elim (TI ho) fun⟨h1,sz,h2⟩=>Oa (.inr ho) h1 sz h2
 ·rename_i t n ps ho
  rcases h with⟨v,h1,h2⟩|⟨e,sz,xs,ys,h1,h2,h3,h4,h5⟩
  ·grind[KT]
  grind[ZV]
 ·rename_i t r ho;obtain⟨rfl,h⟩:=h;exact h.elim (TJ ho) fun h=>h.elim (Sp ho) (So ho)
 ·grind[Ll]
 ·rename_i t x y z ho;exact Ll (.inr ho) h
 ·rename_i t x ho;exact Yc ho h
 ·rename_i x s ho;obtain⟨rfl,h⟩:=h;exact ZZ ho h
 ·rename_i x ho;exact Yi ho h
 ·grind[KT,Al4]
 ·rename_i c ho
  split at h
  ·rename_i x hc;obtain⟨ce,args,ts⟩:=c
   grind[TP]
  ·rename_i hc;exact h.elim (Ls ho hc) fun h=>h.elim (QZ ho hc) fun h=>I7.lessH (Ls ho hc h)
  ·rename_i hc;exact Vb ho hc h
  ·rename_i hc;exact Ta ho hc h
  ·rename_i b _ _ _ hc;obtain⟨v,h1,h2⟩:=h;exact h1.elim (fun h1=>KJ ho hc h1 h2) fun h1=>PQ ho hc h1 h2
  exact h.elim
 obtain⟨v,h1,h2⟩:=h;exact KT h1 h2
def Fw (r:Option Nat):Fence:={fn:=fun _=>True,depth:=none,alive:=false,round:=r}
def LX {r:Option Nat}{P:Program}{f:FuncId}{args:Array Value}{w:World}{R:Ending→World→Prop}(h:CallsIn Fence.wide 0 P f args w R):CallsIn (Fw r) 0 P f args w R:=h
def VS {r:Option Nat}{P:Program}{l:Nat}{f:FuncId}{tmps:Array Value}{c d:Code}{w:World}{R:Ending→World→Prop}(h:RoundIn Fence.wide 0 P l f tmps c d w R):RoundIn (Fw r) 0 P l f tmps c d w R:=h
def Us {P:Program}{A:QG}{o:Oper}{ρ:Operand→V}{H:A4}{K:V→A4→Prop}(h:Hi P A o ρ H K):∀c,o.op≠ .defer c:=by
 grind[Hi,Md]
def GV {P:Program} {r:Option Nat} {o:Oper} {a:Act} {next:Act→World→Prop} {Q:Exit→Act→World→Prop} {K:Value→World→Prop} {x:Result Next} (h:H6 P K x)
 (hk:∀v w,K v w→next (a.put o.dst v) w):o.uponIn (Fw r) 0 P a next Q x:=by
 cases x with
 |halt x w=>exact h.elim
 | ok n w=>
  cases n<;>first
   |exact h.elim
   |exact hk _ _ h
   |exact⟨fun h=>by simp[Fw]at h,(LX h).mono fun e w' ⟨v,e1,e2⟩=>by simp_all⟩
   |exact⟨fun h=>by simp[Fw]at h,(VS h).mono fun e w' ⟨v,e1,e2⟩=>by simp_all⟩
def Gs (nt:Nat):Option Tmp→Bool
 |some d=>d<nt
 |none=>true
def Bh (ops:Array Oper) (fr:Fr) (o:Oper):Option Bool:=
 match o.guard with
 |none=>some true
 | some (j,want)=>
  match(ops[j]?).bind (·.dst)with
  |some d=>
   match fr.s d with
   | .bool b=>some (b==want)
   | .tup _=>some false
   |_=>none
  |none=>none
def HV (P:Program) (A:QG) (nt:Nat) (ops:Array Oper):List Oper→Fr→A4→(Fr→A4→Prop)→Prop
 |[],fr,H,K=>K fr H
 | o::rest,fr,H,K=>
  Gs nt o.dst=true∧
   match Bh ops fr o with
   |some true=>Hi P A o (ev fr) H fun v H'=>HV P A nt ops rest (fr.put o.dst v) H' K
   |some false=>HV P A nt ops rest (fr.put o.dst (.tup [])) H K
   |none=>False
def QF (nt:Nat)(g:Gh)(w:World)(Q:Exit→Fr→A4→Prop)(e:Exit)(a':Act)(w':World):Prop:=
 ∃g' fr' H',U3 g w g' w'∧Rl g' H' w'∧FR nt g' w' a' fr'∧Q e fr' H'
def Zm (g:Gh):Option Nat→Option Nat→Prop
 |none,r=>r=none
 |some id,r=>∃b,g.mu id=some b∧r=some b
def Zm.mono {g g':Gh}{w w':World}{rd r:Option Nat}(h:Zm g rd r)(s:U3 g w g' w'):Zm g' rd r:=by
 cases rd with
 |none=>exact h
 |some id=>obtain⟨b,h1,h2⟩:=h;exact⟨b,s.mu _ _ h1,h2⟩
def T4 (P:Program)(nt:Nat)(rd:Option Nat)(c:Code)(fr:Fr)(H:A4)(Q:Exit→Fr→A4→Prop):Prop:=
 ∀r g w a,Zm g rd r→Rl g H w→FR nt g w a fr→c.wpIn (Fw r) 0 P (QF nt g w Q) a w
def QF.later {nt:Nat}{g g':Gh}{w w':World}{Q:Exit→Fr→A4→Prop}{e:Exit}{a:Act}{w2:World}(s:U3 g w g' w')(h:QF nt g' w' Q e a w2):QF nt g w Q e a w2:=
 let⟨g2,fr,H,s2,x⟩:=h;⟨g2,fr,H,s.trans s2,x⟩
def QF.mono {nt:Nat}{g:Gh}{w:World}{Q Q':Exit→Fr→A4→Prop}(hq:∀e fr H,Q e fr H→Q' e fr H){e:Exit}{a:Act}{w2:World}(h:QF nt g w Q e a w2):QF nt g w Q' e a w2:=
 let⟨g2,fr,H,s2,a,b,c⟩:=h;⟨g2,fr,H,s2,a,b,hq _ _ _ c⟩
def T4.mono {P:Program}{nt:Nat}{rd:Option Nat}{c:Code}{fr:Fr}{H:A4}{Q Q':Exit→Fr→A4→Prop}(h:T4 P nt rd c fr H Q)(hq:∀e fr H,Q e fr H→Q' e fr H):T4 P nt rd c fr H Q':=
 fun r g w a hr hR hF=>wpIn_mono (h r g w a hr hR hF) fun _ _ _=>QF.mono hq
section
variable {P:Program}{nt:Nat}{rd:Option Nat}{fr:Fr}{H:A4}{Q:Exit→Fr→A4→Prop}
def FR.er {g:Gh}{w:World}{a:Act}{fr:Fr}(h:FR nt g w a fr):ER g w a fr:=h.s
def W9 {ops:Array Oper} {g:Gh} {w:World} {a:Act} {o:Oper} {b:Bool} (hE:ER g w a fr) (h:Bh ops fr o=some b):Region.wanted o (yielded ops a.tmps)=b:=by
 unfold Bh at h
 unfold Region.wanted
 split at h
 ·simp_all
 rename_i j want hg;simp only[hg]
 split at h
 ·rename_i d hd
  split at h
  ·rename_i c hc;cases h;have:=hE d
   rw[hc]at this
   have hv:=this.bool_inv
   have ht:a.tmps[d]? =some (.bool c):=by
    rw[M7]at hv
    cases hx:a.tmps[d]? with
    |none=>rw[hx]at hv;simp[undef]at hv
    |some y=>rw[hx]at hv;grind
   simp only[yielded,hd,A5,ht];cases c<;>cases want<;>rfl
  ·rename_i vs hc;cases h;have:=hE d
   rw[hc]at this
   have hv:∃us,a.tmps.getD d undef= .tuple us:=by
    generalize a.tmps.getD d undef=z at this
    cases this with
    |tup h1 h2=>simp_all
   obtain⟨us,hv⟩:=hv
   have hy:yielded ops a.tmps j=none:=by
    unfold yielded;simp only[hd,A5]
    rw[M7]at hv
    grind
   rw[hy];cases want<;>rfl
  cases h
 cases h
def Re {A:QG}{r:Option Nat}{g:Gh}{w:World}{a:Act}{o:Oper}{K:V→A4→Prop}{next:Act→World→Prop}{Q:Exit→Act→World→Prop}(hR:Rl g H w)(hF:FR nt g w a fr)(hd:Gs nt o.dst=true)
 (h:Hi P A o (ev fr) H K) (hk:∀g' w' a' v H',U3 g w g' w'→Rl g' H' w'→FR nt g' w' a' (fr.put o.dst v)→K v H'→next a' w'):o.wpIn (Fw r) 0 P a w next Q:=by
 refine⟨fun _ _=>trivial,?_⟩;rw[AI _ _ _ (Us h)];refine GV (YC h g w a hR hF.s) fun v w' ⟨g',x,H',s,hR',hv,hK⟩=>?_;refine hk g' w' _ x H' s hR' ((hF.mono s).put (fun t ht=>?_) hv) hK
 rw[ht]at hd;grind[Gs]
def PH {A:QG} {ops:Array Oper} {r:Option Nat} {K:Fr→A4→Prop} {Q:Exit→Act→World→Prop} {g0:Gh} {w0:World} (hQ:∀g w a fr H,U3 g0 w0 g w→Rl g H w→FR nt g w a fr→K fr H→Q .normal a w):
 ∀(m i:Nat) (fr:Fr) (H:A4),i+m=ops.size→HV P A nt ops (ops.toList.drop i) fr H K→∀g w a,U3 g0 w0 g w→Rl g H w→FR nt g w a fr→wpOpsIn (Fw r) 0 P ops Q (List.range' i m) a w
 |0,i,fr,H,hi,h,g,w,a,s,hR,hF=>by
  have:ops.toList.drop i=[]:=by simp;omega
  rw[this]at h
  exact hQ g w a fr H s hR hF h
 | m+1,i,fr,H,hi,h,g,w,a,s,hR,hF=>by
  have hlt:i<ops.toList.length:=by simp;omega
  have hlt':i<ops.size:=by omega
  rw[Aj hlt]at h
  simp only[HV,JI]at h
  obtain⟨hd,h⟩:=h;simp only[Jy,wpOpsIn,Ak hlt'];have ih:=PH (A:=A) (ops:=ops) (r:=r) (K:=K) hQ m (i+1)
  split at h
  ·rename_i hg;rw[A1 (W9 hF.s hg)];exact Re hR hF hd h fun g' w' a' v H' s' hR' hF' hK=>ih _ _ (by omega) hK g' w' a' (s.trans s') hR' hF'
  ·rename_i hg;rw[A3 (by rw[W9 hF.s hg];simp)];refine⟨fun _ _=>trivial,ih _ _ (by omega) h g w _ s hR (hF.put (fun t ht=>?_) (VR.und _ _))⟩
   rw[ht]at hd;grind[Gs]
  grind
def T4.region {A:QG} {id:Nat} {ops:Array Oper} (h:HV P A nt ops ops.toList fr H (Q .normal)):T4 P nt rd (.region id ops false) fr H Q:=by
 intro r g w a hr hR hF;refine wpIn_region ?_
 have:=PH (P:=P) (A:=A) (nt:=nt) (ops:=ops) (r:=r) (K:=Q .normal) (Q:=QF nt g w Q) (g0:=g) (w0:=w) (fun g' w' a' fr' H' s hR hF hK=>⟨g',fr',H',s,hR,hF,hK⟩) ops.size 0 fr H (by omega)
  (by grind) g w a (U3.refl _ _) hR hF
 rwa[←List.range_eq_range']at this
def T4.skip (h:Q .normal fr H):T4 P nt rd .skip fr H Q:=fun r g w a hr hR hF=>wpIn_skip ⟨g,fr,H,U3.refl _ _,hR,hF,h⟩
theorem T4.ret (h:Q .ret fr H):T4 P nt rd .ret fr H Q:=fun r g w a hr hR hF=>wpIn_ret ⟨g,fr,H,U3.refl _ _,hR,hF,h⟩
theorem T4.exit {id:Nat}(h:Q (.exit id) fr H):T4 P nt rd (.exit id) fr H Q:=fun r g w a hr hR hF=>wpIn_exit ⟨g,fr,H,U3.refl _ _,hR,hF,h⟩
def T4.seq {x y:Code}(h:T4 P nt rd x fr H fun e fr' H'=>match e with| .normal=>T4 P nt rd y fr' H' Q|e=>Q e fr' H'):T4 P nt rd (.seq x y) fr H Q:=by
 intro r g w a hr hR hF;refine wpIn_seq (wpIn_mono (h r g w a hr hR hF) fun e a' w' ⟨g',fr',H',s,hR',hF',hq⟩=>?_)
 cases e with
 |normal=>exact wpIn_mono (hq r g' w' a' (hr.mono s) hR' hF') fun _ _ _=>QF.later s
 |_=>exact⟨g',fr',H',s,hR',hF',hq⟩
def T4.cond {c:Operand}{x y:Code}{t:Bool}(hc:ev fr c= .bool t)(h1:t=true→T4 P nt rd x fr H Q)(h2:t=false→T4 P nt rd y fr H Q):T4 P nt rd (.cond c x y) fr H Q:=by
 intro r g w a hr hR hF;have hv:=E6 hR hF.s c
 rw[hc]at hv
 refine wpIn_cond hv.bool_inv ?_;cases t
 ·exact h2 rfl r g w a hr hR hF
 exact h1 rfl r g w a hr hR hF
def T4.block {id:Nat} {c:Code} (h:T4 P nt rd c fr H fun e fr' H'=>match e with| .exit id'=>if id'=id then Q .normal fr' H' else Q (.exit id') fr' H'|e=>Q e fr' H'):T4 P nt rd (.block id c) fr H Q:=by
 intro r g w a hr hR hF;refine wpIn_block (wpIn_mono (h r g w a hr hR hF) fun e a' w' ⟨g',fr',H',s,hR',hF',hq⟩=>?_)
 cases e with
 |exit id'=>
  simp only[Exit.inBlock]
  grind[QF]
 |_=>exact⟨g',fr',H',s,hR',hF',hq⟩
def T4.loopN {c:Code} (I:Nat→Fr→A4→Prop) (n0:Nat) (h0:I n0 fr H)
 (round:∀n fr H,I n fr H→T4 P nt rd c fr H fun e fr' H'=>match e with| .normal=>∃n',n'<n∧I n' fr' H'|e=>Q e fr' H'):T4 P nt rd (.loop c) fr H Q:=by
 intro r g w a hr hR hF;intro b k cs hro hb hrm
 have key:∀n fr H,I n fr H→∀g' w' a,U3 g w g' w'→Rl g' H w'→FR nt g' w' a fr→
  ∃e a' w2,QF nt g w Q e a' w2∧ArrivesIn (Machine.fenced P (Fw r)) P (lone (b.atR a (.code c:: .inLoop c::k)) cs w') b k cs e a' w2:=by
  intro n
  induction n using Nat.strongRecOn with
  | _ n ih=>
   intro fr H hI g' w' a s hR hF;obtain⟨e,a₁,w₁,⟨g1,fr1,H1,s1,hR1,hF1,hq⟩,harr⟩:=round n fr H hI r g' w' a (hr.mono s) hR hF b (.inLoop c::k) cs hro hb hrm
   cases e with
   |normal=>
    obtain⟨n',hlt,hI₁⟩:=hq;obtain⟨e₂,a₂,w₂,hq₂,harr₂⟩:=ih n' hlt fr1 H1 hI₁ g1 w₁ a₁ (s.trans s1) hR1 hF1;exact⟨e₂,a₂,w₂,hq₂,.of_steps (StepsIn.trans harr (.one (fenced_calm hb hrm rfl) stepR_inLoop)) harr₂⟩
   |exit id=>exact⟨_,a₁,w₁,⟨g1,fr1,H1,s.trans s1,hR1,hF1,hq⟩,.pass (x:=.inLoop c) rfl (fun _ _=>.inl (by simp)) harr⟩
   |goto l=>exact⟨_,a₁,w₁,⟨g1,fr1,H1,s.trans s1,hR1,hF1,hq⟩,.pass (x:=.inLoop c) rfl (fun _ _=>.inl (by simp)) harr⟩
   |ret=>exact⟨_,a₁,w₁,⟨g1,fr1,H1,s.trans s1,hR1,hF1,hq⟩,.pass (x:=.inLoop c) rfl (fun _ _=>.inl (by simp)) harr⟩
   |panic ch=>exact⟨_,a₁,w₁,⟨g1,fr1,H1,s.trans s1,hR1,hF1,hq⟩,.pass (x:=.inLoop c) rfl (fun _ _=>.inl (by simp)) harr⟩
   |outgrown=>exact⟨_,a₁,w₁,⟨g1,fr1,H1,s.trans s1,hR1,hF1,hq⟩,.pass (x:=.inLoop c) rfl (fun _ _=>.inl (by simp)) harr⟩
 obtain⟨e,a',w',hq,harr⟩:=key _ fr H h0 g w a (U3.refl _ _) hR hF;exact⟨e,a',w',hq,.of_steps (.one (fenced_calm hb hrm rfl) stepR_loop) harr⟩
def T4.loop {c:Code} (I:Fr→A4→Prop) (μ:Fr→A4→Nat) (h0:I fr H)
 (round:∀fr H,I fr H→T4 P nt rd c fr H fun e fr' H'=>match e with| .normal=>I fr' H'∧μ fr' H'<μ fr H|e=>Q e fr' H'):T4 P nt rd (.loop c) fr H Q:=
 T4.loopN (fun n fr H=>I fr H∧μ fr H=n) _ ⟨h0,rfl⟩ fun n fr H ⟨hI,hn⟩=>(round fr H hI).mono fun e fr' H' hq=>by
  grind
def T4.less {c:Code}{fr':Fr}{H':A4}(h:T4 P nt rd c fr' H' Q)(hs:∀t,Wk (fr.s t) (fr'.s t))(hd:fr'.df=fr.df)(hl:∀id b,H' id=some b→H id=some b):T4 P nt rd c fr H Q:=by
 intro r g w a hr hR hF;refine h r g w a hr (hR.less hl) ⟨hF.size,fun t=>hs t _ _ _ (hF.s t),?_⟩;rw[hd];exact hF.df
def T4.freeze {c:Code} {t id off:Nat} {cs:List V} (ht:fr.s t= .ref id off) (hk:H id=some (.cells cs)) (h:T4 P nt rd c (fr.put (some t) (.eref cs off)) (upd H id none) Q):T4 P nt rd c fr H Q:=by
 intro r g w a hr hR hF;obtain⟨g',s,hR',hv⟩:=hR.freeze hk;refine wpIn_mono (h r g' w a (hr.mono s) hR' ?_) fun _ _ _=>QF.later s;have hF':=hF.mono s;refine⟨hF'.size,fun x=>?_,hF'.df⟩;simp only[Fr.put]
 split
 ·rename_i e;subst e;have:=hF.s x
  rw[ht]at this
  simp_all
 exact hF'.s x
end
def Ca (P:Program) (fr:Fr) (H:A4):List ResultVar→Option (List V)
 |[]=>some []
 | .tmp t::r=>(Ca P fr H r).map (fr.s t:: ·)
 | .cell a t::r=>
  match HG P H t (fr.s a),Ca P fr H r with
  |some v,some l=>some (v::l)
  |_,_=>none
def Of:List V→V
 |[x]=>x
 |l=>.tup l
def Aq5 (H:A4)(df:List Nat):Prop:=df.Nodup∧∀id∈df,H id=some (.obj (.deferred (some [])))
def clear (H:A4)(df:List Nat):A4:=fun x=>if x∈df then none else H x
section
variable {P:Program}
def Ae5 {g:Gh} {w:World} {H:A4} (hR:Rl g H w) {t:TypeId} {v:Value} {X x:V} (hv:VR g w v X) (hl:HG P H t X=some x):
 ∃b q u,v= .pointer (some ⟨b,q,none⟩)∧(loadVar t ⟨b,q,none⟩).run P w= .ok u w∧VR g w u x:=by
 unfold HG at hl
 split at hl
 ·rename_i ag sz cs off ha hs
  cases hv with
  |eref vs hf hw h1 hvv=>
   rename_i b q;obtain⟨u,hu,hr⟩:=GX (P:=P) (g:=g) (w:=w) (b:=b) (q:=q) (cs:=cs) (fun j hj=>⟨vs j,hw j hj,h1 j hj,hvv j hj⟩) ha hs hl
   grind
 ·rename_i ag sz id off ha hs
  cases hv with
  | ref hm=>
   rename_i b
   split at hl
   ·rename_i cs hk;obtain⟨u,hu,hr⟩:=GX (P:=P) (Oy hR hk hm) ha hs hl
    rw[V1]at hu
    grind
   cases hl
 cases hl
def Kb {nt:Nat} {g:Gh} {w:World} {H:A4} {a:Act} {fr:Fr} (hR:Rl g H w) (hE:ER g w a fr):∀(rs:List ResultVar) (l:List V),Ca P fr H rs=some l→
 ∃vs:List Value,(rs.mapM (m:=Sem) fun| .tmp t=>pure (a.tmps.getD t undef)| .cell x t=>do loadVar t (←asAddr (a.tmps.getD x undef))).run P w= .ok vs w∧vs.length=l.length∧
  ∀i,i<l.length→VR g w (vs.getD i undef) (l.getD i .bad)
 |[],l,h=>by simp_all[Ca]
 | .tmp t::r,l,h=>by
  simp only[Ca]at h
  cases hr:Ca P fr H r with
  |none=>grind
  |some l'=>
   simp only[hr,J4,E8]at h
   subst h;obtain⟨vs,h1,h2,h3⟩:=Kb (nt:=nt) hR hE r l' hr;refine⟨a.tmps.getD t undef::vs,?_,by simp[h2],fun i hi=>?_⟩
   ·simp_all
   cases i with
   |zero=>exact hE t
   |succ i=>simp_all
 | .cell x t::r,l,h=>by
  simp only[Ca]at h
  split at h
  ·rename_i v l' hv hr;cases h;obtain⟨vs,h1,h2,h3⟩:=Kb (nt:=nt) hR hE r l' hr;obtain⟨b,q,u,e1,e2,e3⟩:=Ae5 hR (hE x) hv;refine⟨u::vs,?_,by simp[h2],fun i hi=>?_⟩
   ·have ea:(asAddr (.pointer (some ⟨b,q,none⟩))).run P w= .ok ⟨b,q,none⟩ w:=rfl
    simp_all
   grind
  cases h
def Ua {nt:Nat} {g:Gh} {w:World} {H:A4} {a:Act} {fr:Fr} {fn:Func} (hR:Rl g H w) (hE:ER g w a fr) {l:List V} (h:Ca P fr H fn.results.toList=some l):
 ∃v,(results fn a.tmps).run P w= .ok v w∧VR g w v (Of l):=by
 obtain⟨vs,h1,h2,h3⟩:=Kb (nt:=nt) hR hE _ _ h
 have hm:(results fn a.tmps).run P w= .ok (if h:vs.toArray.size=1 then vs.toArray[0]else .tuple vs.toArray) w:=by
  unfold results;rw[Array.mapM_eq_mapM_toList];simp only[B9,Sem.run_map]
  erw [h1]
  rfl
 refine⟨_,hm,?_⟩
 match l,vs,h2,h3 with
 |[x],[v],_,h3=>simp_all[Of]
 |[],[],_,_=>exact .tup rfl fun i hi=>by simp at hi
 |x::y::l,u::v::vs,h2,h3=>
  simp only[FK,N3,Of];rw[dif_neg (by omega)];refine .tup (by omega) fun i hi=>?_;have:=h3 i hi
  simp_all
def Ru {nt:Nat} {fn:Func} {a:Act} {R:Ending→World→Prop} {g:Gh} {fr:Fr} {l:List V}:∀(df:List Nat) (bs:List Nat) (H:A4) (w:World),Rl g H w→ER g w a fr→bs.length=df.length→
 (∀i,i<bs.length→g.mu (df.getD i 0)=some (bs.getD i 0))→Aq5 H df→Ca P fr (clear H df) fn.results.toList=some l→
 (∀w' v,U3 g w g w'→Rl g (clear H df) w'→VR g w' v (Of l)→R (.returned v) w')→
 LeavesInM Fence.wide 0 P fn a.tmps R (bs.map fun b=>{target:=.collected b,args:= #[]}) .returning w
 |[],[],H,w,hR,hE,_,_,_,hl,hr=>by
  have hcl:clear H []=H:=by funext x;simp[clear]
  rw[hcl]at hl hr
  obtain⟨v,h1,h2⟩:=Ua (nt:=nt) hR hE hl;exact⟨v,h1,hr w v (U3.refl _ _) hR h2⟩
 | id::df,b::bs,H,w,hR,hE,hlen,hmu,hdf,hl,hr=>by
  have hb:g.mu id=some b:=hmu 0 (by simp);have hk:=hdf.2 id (by simp);have hnd:=List.nodup_cons.1 hdf.1;obtain⟨s,hR'⟩:=hR.putObj (o':=.deferred none) hk hb rfl;obtain⟨b',h1,h2,h3,h4⟩:=hR.blk id _ hk
  rw[hb]at h1;cases h1
  refine⟨by simp,.inl ⟨b,w.putObj b (.deferred none),rfl,run_takeDeferred h3,?_⟩⟩
  have hlt:∀id' b',(upd H id none) id'=some b'→(upd H id (some (.obj (.deferred none)))) id'=some b':=by
   simp_all[upd]
  have hcl:clear (upd H id none) df=clear H (id::df):=by
   funext x
   grind[clear,upd]
  refine Ru (nt:=nt) df bs (upd H id none) (w.putObj b (.deferred none)) (hR'.less hlt) (hE.mono s) (by simp_all) (fun i hi=>?_) ⟨hnd.2,fun id' hi'=>?_⟩ (by rw[hcl];exact hl) fun w' v s' hR2 hv=>?_
  ·have:=hmu (i+1) (by grind)
   simp_all
  ·have hne:id'≠id:=fun e=>by simp_all
   rw[C3 _ _ hne];exact hdf.2 id' (by simp[hi'])
  rw[hcl]at hR2
  exact hr w' v (s.trans s') hR2 hv
 |[],_::_,_,_,_,_,h,_,_,_,_=>by simp at h
 |_::_,[],_,_,_,_,h,_,_,_,_=>by simp at h
def Ret (P:Program)(fn:Func)(K:V→A4→Prop)(e:Exit)(fr:Fr)(H:A4):Prop:=
 (e= .normal∨e= .ret)∧Aq5 H fr.df∧∃l,Ca P fr (clear H fr.df) fn.results.toList=some l∧K (Of l) (clear H fr.df)
def entry (args:List V):Fr:=⟨fun t=>args.getD t .bad,[]⟩
def QY {f:FuncId} {fn:Func} {c:Code} {args:List V} {H:A4} {K:V→A4→Prop} (hf:P.funcs[f]? =some fn) (hb:fn.body=some c) (hcall:∀vals w,(callFunc f vals).run P w= .ok (.enter f vals) w)
 (hn:args.length≤fn.ntmps) (h:T4 P fn.ntmps none c (entry args) H (Ret P fn K)):J1 P f args H K:=by
 intro g w vals hR hA;rw[hcall]
 show CallsIn Fence.wide 0 P f vals w _
 refine callsIn_of_wp_marks hf hb trivial ?_
 have hF:FR fn.ntmps g w {tmps:=vals++Array.replicate (fn.ntmps-vals.size) undef,defers:=[]} (entry args):=by
  refine⟨by have:=hA.1;simp;omega,fun t=>?_,⟨[],rfl,fun i hi=>by simp at hi,rfl⟩⟩
  by_cases ht:t<args.length
  ·have e:(vals++Array.replicate (fn.ntmps-vals.size) undef).getD t undef=vals.getD t undef:=by
    simp only[M7,GI,hA.1,A1 ht]
   grind[entry,Args]
  have:(entry args).s t= .bad:=by simp_all[entry]
  rw[this];exact .bad _
 refine wpIn_mono (h none g w _ rfl hR hF) fun e a' w' ⟨g',fr',H',s,hR',hF',he,hdf,l,hl,hK⟩=>?_;obtain⟨bs,k1,k2,k3⟩:=hF'.df;have key:=Ru (P:=P) (nt:=fn.ntmps) (fn:=fn) (a:=a') (R:=fun e w'=>∃v,e= .returned v∧L4 g w K v w') fr'.df bs H' w' hR' hF'.s k1 k2 hdf hl fun w2 v s2 hR2 hv=>⟨v,rfl,g',_,_,s.trans s2,hR2,hv,hK⟩
 rw[←k3]at key
 rcases he with rfl|rfl
 ·exact key
 exact key
end
def Ap6:Op→Bool
 | .alloc _=>true
 |_=>false
def Mz:Op→Bool
 | .store _ _ _=>true
 |_=>false
def Dd (o:Oper)(j:Nat):Bool:=o.after.any fun e=>e.on==j&&Region.binds .any e
def Bj (o:Oper)(i:Nat):Bool:=o.after.all fun e=> !Region.binds .any e||e.on<i
def Kz (ops:Array Oper)(x y:Oper):Bool:=x.apart ops y&& !(Mz x.op&&Mz y.op)
def IZ (ops:Array Oper):Nat→Nat→Nat→Bool
 |0,i,j=>Dd (ops.getD i default) j
 |n+1,i,j=>Dd (ops.getD i default) j||(ops.getD i default).after.any fun e=>Region.binds .any e&&(Nat.blt j e.on&&IZ ops n e.on j)
def Nf:Nat:=20
def Qn (ops:Array Oper) (k:Nat):Bool:=
 k ≤ops.size&&(List.range ops.size).all fun i=>
  Bj (ops.getD i default) i&&
   (List.range i).all fun j=>(i<k&&Kz ops (ops.getD j default) (ops.getD i default))||IZ ops Nf i j
section
variable {P:Program}{nt:Nat}{ops:Array Oper}{H0:A4}
def X3 {α β:Type}{f g:α→β}:∀{l:List α},(∀x∈l,f x=g x)→l.map f=l.map g
 |[],_=>rfl
 |x::l,h=>by rw[G2,G2,h x (by simp),X3 fun y hy=>h y (by simp[hy])]
def HU {α β:Type}{f g:α→β}:∀{l:Option α},(∀x∈l,f x=g x)→l.map f=l.map g
 |none,_=>rfl
 |some x,h=>by rw[J4,J4,h x rfl]
theorem Nk {o:Oper} {ρ ρ':Operand→V} {H:A4} {v:V} (hρ:∀x∈o.op.operands,ρ x=ρ' x) (h:Md P o ρ H v):Md P o ρ' H v:=by
 unfold Md at h ⊢
 cases ho:o.op<;>simp only[ho]at h ⊢ hρ<;>first
  |exact h.elim
  | (simp only[Op.operands,FI,FC,List.not_mem_nil,or_false,forall_eq_or_imp,forall_eq]at hρ
     first
      |(rw[←hρ];exact h)
      |(rw[←hρ.1,←hρ.2];exact h)
      |(rw[←hρ.1,←hρ.2.1,←hρ.2.2];exact h))
  |skip
 ·
  rename_i t ps;rw[←X3 (l:=ps.toList) (f:=fun p=>(p.1,ρ p.2)) (g:=fun p=>(p.1,ρ' p.2)) fun p hp=>by rw[hρ p.2 (by simp only[Op.operands,FI,FA];grind)]];exact h
 ·rename_i t n ps;rw[←X3 (l:=ps.toList) (f:=fun p=>(p.1,ρ p.2)) (g:=fun p=>(p.1,ρ' p.2)) fun p hp=>by rw[hρ p.2 (by simp only[Op.operands,FI,FA];grind)]];exact h
 ·rename_i fn fs cs
  rw[←X3 (l:=fs.toList) (f:=ρ) (g:=ρ') fun p hp=>hρ p (by simp only[Op.operands,DR];simp_all),
   ←X3 (l:=cs.toList) (f:=ρ) (g:=ρ') fun p hp=>hρ p (by simp only[Op.operands,DR];simp_all)]
  exact h
 ·rename_i t x lo hi mx
  rw[←hρ x (by simp[Op.operands]),←HU (l:=lo) (f:=ρ) (g:=ρ') fun p hp=>hρ p (by simp[Op.operands,Option.mem_def.1 hp]),
   ←HU (l:=hi) (f:=ρ) (g:=ρ') fun p hp=>hρ p (by simp[Op.operands,Option.mem_def.1 hp]),←HU (l:=mx) (f:=ρ) (g:=ρ') fun p hp=>hρ p (by simp[Op.operands,Option.mem_def.1 hp])]
  exact h
 rename_i c;have hargs:c.args.toList.map ρ=c.args.toList.map ρ':=X3 fun p hp=>hρ p (by simp only[Op.operands,Call.operands,DR];simp_all);rw[←hargs]
 cases hc:c.callee<;>simp only[hc]at h ⊢
 ·rename_i f;rw[←hρ f (by simp[Op.operands,Call.operands,hc])];exact h
 exact h
def Wv {fr:Fr} {d:Option Tmp} {v:V} {x:Operand} (h:∀t,d=some t→x≠ .tmp t):ev (fr.put d v) x=ev fr x:=by
 cases d with
 |none=>rfl
 | some d=>
  cases x with
  |tmp t=>
   have hne:t≠d:=fun e=>h d rfl (by rw[e])
   grind[ev,Fr.put]
  |_=>rfl
def Kr {fr:Fr}{d:Option Tmp}{v:V}{y:Oper}(h:∀t,d=some t→t∉y.looksAt ops):∀x∈y.op.operands,ev (fr.put d v) x=ev fr x:=by
 intro x hx;refine Wv fun t ht e=>h t ht ?_;subst e;exact R6 _ (List.mem_filterMap.2 ⟨.tmp t,by grind,rfl⟩)
def Oi {fr:Fr} {d:Option Tmp} {v:V} {y:Oper} (h:∀t,d=some t→t∉y.looksAt ops):Bh ops (fr.put d v) y=Bh ops fr y:=by
 unfold Bh
 cases hg:y.guard with
 |none=>rfl
 | some p=>
  obtain⟨j,want⟩:=p
  dsimp only
  cases hd:(ops[j]?).bind (·.dst)with
  |none=>rfl
  | some t=>
   have hne:∀d',d=some d'→t≠d':=by
    intro d' e1 e2;subst e2;refine h t e1 (ET _ ?_)
    grind
   cases d with
   |none=>rfl
   |some d=>
    have:=hne d rfl
    grind[Fr.put]
def put_comm {fr:Fr} {d e:Option Tmp} {v u:V} (h:∀t,d=some t→e≠some t):(fr.put d v).put e u=(fr.put e u).put d v:=by
 cases d with
 |none=>rfl
 | some d=>
  cases e with
  |none=>rfl
  |some e=>
   have hne:d≠e:=fun x=>h d rfl (by rw[x]);simp only[Fr.put,Fr.mk.injEq,J6]
   funext t
   grind
def OZ (H:A4){a b:Nat}(x y:Option Dh)(h:a≠b):upd (upd H a x) b y=upd (upd H b y) a x:=by
 funext t
 grind[upd]
end
end Go.Ab
