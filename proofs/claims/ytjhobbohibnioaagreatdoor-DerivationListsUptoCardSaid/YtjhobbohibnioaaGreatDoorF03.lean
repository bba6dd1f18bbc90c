/- . -/
import Derived.Test.YtjhobbohibnioaaGreatDoorF02
import Derived.MapKept
import Derived.DeepKeys4
import Derived.RangeFuncRecord
import Derived.Laws.BytesString
import Derived.Maps.RangeRun
set_option linter.all false
namespace Go.Ab
open Go.MapKept
structure KG (P:Program) (kt:TypeId) (G:Value→Prop):Prop where
 check:∀(w:World) (em:Bool) {v:Value},G v→(Instr.checkKey em 10000 kt v).run P w= .ok () w
 find:∀(w:World) {x:Value},G x→∀es:List MapEntry,(∀e∈es,G e.key)→
  ((Instr.findKey kt x es).run P w= .ok none w∧∀e∈es,e.key≠x)∨∃j e,(Instr.findKey kt x es).run P w= .ok (some (j,e.val)) w∧es[j]? =some e∧e.key=x
 stays:∀(w:World) {v:Value},G v→(Instr.keyThatStays v v).run P w= .ok v w
section
variable {P:Program}{kt el n:Nat}{k:IntKind}
def OO (k:IntKind)(n:Nat)(v:Value):Prop:=∃l:List Int,l.length=n∧v= .agg (l.map (Value.int k)).toArray
end
section
variable {P:Program}{kt n:Nat}{k:IntKind}
structure WU (P:Program) (k:IntKind) (n:Nat) (fs:List Field):Prop where
 all:∀f∈fs,f.name≠ "_" ∧P.underlying f.type=some (.int k)∧f.offset<n
 cov:∀i,i<n→∃f∈fs,f.offset=i
theorem SW (w:World){e:TypeId}(he:P.underlying e=some (.int k)){xs:List Int}{i:Nat}(hi:i<xs.length):(part e (xs.map (Value.int k)).toArray i).run P w= .ok (.int k (xs[i])) w:=
 run_part_plain w (by simp[Program.plainKey,he]) (by simp[hi])
theorem NN (w:World) (d:Nat) {xs ys:List Int} (hl:ys.length=xs.length):∀fs:List Field,(∀f∈fs,f.name≠ "_" ∧P.underlying f.type=some (.int k)∧f.offset<xs.length)→
 ∃r:Bool,(Op.eqFields (d+1) (xs.map (Value.int k)).toArray (ys.map (Value.int k)).toArray fs).run P w= .ok r w∧(r=true↔∀f∈fs,xs[f.offset]? =ys[f.offset]?)
 |[],_=>⟨true,by simp[Op.eqFields],by simp⟩
 |f::fs,h=>by
  obtain⟨hn,he,hi⟩:=h f (.head _)
  have hj:f.offset<ys.length:=by omega
  obtain⟨r,hr,hiff⟩:=NN w d hl fs fun g hg=>h g (.tail _ hg);have p1:=SW w he hi;have p2:=SW (xs:=ys) w he hj;simp only[Op.eqFields,hn,ne_eq,not_false_eq_true,D1,B8,p1,p2,B7,run_equalIn_int w d f.type k k _ _ he];have e1:xs[f.offset]? =some xs[f.offset]:=E0 hi;have e2:ys[f.offset]? =some ys[f.offset]:=E0 hj
  by_cases hx:xs[f.offset]=ys[f.offset]
  ·simp_all
  simp_all
theorem Af5 (w:World) (hd:P.underlying kt=some (.struct (P.fieldsOf kt))) (hs:P.stoodInHeld kt=false) (hf:WU P k n (P.fieldsOf kt).toList) {a b:Value} (ha:OO k n a) (hb:OO k n b):
 ∃r:Bool,(Op.equal kt a b).run P w= .ok r w∧(r=true↔b=a):=by
 obtain⟨xs,hx,rfl⟩:=ha;obtain⟨ys,hy,rfl⟩:=hb;obtain⟨r,hr,hiff⟩:=NN (P:=P) w 9998 (xs:=xs) (ys:=ys) (by omega) (P.fieldsOf kt).toList (fun f h=>by rw[hx];exact hf.all f h);refine⟨r,?_,?_⟩
 ·exact(run_equalIn_struct w 9999 kt (xs.map (Value.int k)).toArray (ys.map (Value.int k)).toArray hd hs).trans hr
 rw[hiff]
 constructor
 ·intro h
  have:xs=ys:=by
   apply Bg;intro j
   by_cases hj:j<n
   ·obtain⟨f,hfm,e⟩:=hf.cov j hj;rw[←e];grind
   simp_all
  rw[this]
 intro h
 have h2:(ys.map (Value.int k))=xs.map (Value.int k):=by grind
 have:ys=xs:=by
  apply Bg;intro j;have:=J6 (fun l=>l[j]?) h2
  grind
 simp_all
theorem KT (w:World) (hd:P.underlying kt=some (.struct (P.fieldsOf kt))) (hs:P.stoodInHeld kt=false) (hf:WU P k n (P.fieldsOf kt).toList) {x:Value} (hx:OO k n x):∀(es:List MapEntry) (i:Nat),(∀e∈es,OO k n e.key)→
 ((Instr.findAsking kt x es i).run P w= .ok none w∧∀e∈es,e.key≠x)∨∃j e,(Instr.findAsking kt x es i).run P w= .ok (some (i+j,e.val)) w∧es[j]? =some e∧e.key=x
 |[],i,_=>.inl ⟨by simp[Instr.findAsking],by simp⟩
 | e::es,i,h=>by
  obtain⟨r,hr,hiff⟩:=Af5 w hd hs hf hx (h e (.head _))
  cases r with
  |true=>exact .inr ⟨0,e,by simp[Instr.findAsking,hr],rfl,hiff.1 rfl⟩
  | false=>
   have hne:e.key≠x:=fun q=>by have:=hiff.2 q;cases this
   rcases KT w hd hs hf hx es (i+1) (fun y hy=>h y (.tail _ hy))with⟨h1,h2⟩|⟨j,e',h1,h2,h3⟩
   ·refine .inl ⟨by simp[Instr.findAsking,hr,h1],fun y hy=>?_⟩
    grind
   exact .inr ⟨j+1,e',by simp[Instr.findAsking,hr,h1,BK,Ip 1 j],by grind,h3⟩
theorem KG.flds (hd:P.underlying kt=some (.struct (P.fieldsOf kt))) (hs:P.stoodInHeld kt=false) (hf:WU P k n (P.fieldsOf kt).toList):KG P kt (OO k n) where
 check:=fun w em v hv=>by
  obtain⟨xs,hx,rfl⟩:=hv;rw[Instr.checkKey];simp only[B8,run_underlying hd,B7];rw[←Array.forIn_toList];have hj:=hf.all
  generalize (P.fieldsOf kt).toList=is at hj
  induction is with
  |nil=>simp
  |cons f is ih=>
   obtain⟨hn,he,hi⟩:=hj f (.head _);have p1:=SW (P:=P) (xs:=xs) w he (i:=f.offset) (by omega);have p2:(Instr.checkKey em 9999 f.type (.int k (xs[f.offset]'(by omega)))).run P w= .ok () w:=run_checkKey (k:=.int k (xs[f.offset]'(by omega))) he rfl em 9998
   simp_all
 find:=fun w x hx es h=>by
  rw[run_findKey_eq w (k:=kt) (by simp[hd])]
  grind[KT]
 stays:=fun w v hv=>by
  obtain⟨xs,_,rfl⟩:=hv
  have e:∀l:List Int,((l.map (Value.int k)).zip (l.map (Value.int k))).all (fun x=>Instr.sameBits 9999 x.1 x.2)=true:=by
   intro l
   induction l with
   |nil=>rfl
   |cons a l ih=>simp only[D5,List.zip_cons_cons,Lk,ih,Gi];simp[Instr.sameBits]
  have h2:Instr.sameBits 10000 (.agg (xs.map (Value.int k)).toArray) (.agg (xs.map (Value.int k)).toArray)=true:=by
   rw[Instr.sameBits]
   grind
  simp[Instr.keyThatStays,h2]
end
end Go.Ab
namespace Go.Ab
open Go.RowKit Go.MapKept
variable [O5]
def Me:V→Option Value
 | .bool b=>some (.bool b)
 | .int k n=>some (.int k n)
 | .str s=>some (.string s)
 |_=>none
def Ks:List V→Option (List Value)
 |[]=>some []
 |x::l=>match Me x,Ks l with|some v,some r=>some (v::r)|_,_=>none
def BO:V→Option Value
 | .agg cs=>(Ks cs).map fun l=>.agg l.toArray
 |v=>Me v
theorem XZ {g:Gh}{w:World}{x:V}{u v:Value}(h:Me x=some u)(hv:VR g w v x):v=u:=by
 cases x<;>simp only[Me,F3,reduceCtorEq]at h<;>subst h<;>cases hv<;>rfl
theorem XY {g:Gh}{w:World}{x:V}{u:Value}(h:Me x=some u):VR g w u x:=by
 cases x<;>simp only[Me,F3,reduceCtorEq]at h<;>subst h<;>constructor
theorem AB5 {x:V}{u:Value}(h:Me x=some u):u.oneCell'=true:=by
 cases x<;>simp only[Me,F3,reduceCtorEq]at h<;>subst h<;>rfl
theorem Ya {x y:V}{u:Value}(h:Me x=some u)(h':Me y=some u):x=y:=by
 cases x<;>simp only[Me,F3,reduceCtorEq]at h<;>subst h<;>cases y<;>simp_all[Me]
theorem SP:∀{l:List V} {r:List Value},Ks l=some r→r.length=l.length
 |[],r,h=>by simp_all[Ks]
 |x::l,r,h=>by
  unfold Ks at h
  split at h
  ·rename_i v r' h1 h2;cases h;simp[SP h2]
  cases h
theorem RW:∀{l:List V} {r:List Value},Ks l=some r→∀i,i<l.length→Me (l.getD i .bad)=some (r.getD i undef)
 |[],r,h,i,hi=>by simp at hi
 | x::l,r,h,i,hi=>by
  unfold Ks at h
  split at h
  ·rename_i v r' h1 h2;cases h
   cases i with
   |zero=>grind
   |succ i=>simpa using RW h2 i (by grind)
  cases h
theorem SN {g:Gh} {w:World} {x:V} {u:Value} (h:BO x=some u):VR g w u x:=by
 unfold BO at h
 split at h
 ·rename_i cs
  cases hr:Ks cs with
  |none=>rw[hr]at h;cases h
  |some r=>
   rw[hr]at h
   simp only[I6,F3]at h
   subst h;have e:=SP hr;refine .agg (by simp[e]) (fun i hi=>?_) fun i hi=>?_
   ·have:=AB5 (RW hr i hi);simp_all
   have:=XY (g:=g) (w:=w) (RW hr i hi);simp_all
 grind[XY]
theorem Md {g:Gh} {w:World} {x:V} {u v:Value} (h:BO x=some u) (hv:VR g w v x):v=u:=by
 unfold BO at h
 split at h
 ·rename_i cs
  cases hr:Ks cs with
  |none=>rw[hr]at h;cases h
  | some r=>
   rw[hr]at h
   simp only[I6,F3]at h
   subst h;have e:=SP hr
   cases hv with
   |agg hl h1 hv=>
    rename_i vs
    congr 1
    apply Array.ext
    ·simp[hl,e]
    intro i hi hi'
    have hi2:i<cs.length:=by omega
    have:=XZ (RW hr i hi2) (hv i hi2)
    simp_all
 grind[XZ]
def ML (es:Array MapEntry)(clock:Nat):Prop:=(∀x∈es.toList,x.born<clock)∧(es.toList.map (·.born)).Nodup
theorem ML.empty:ML #[] 0:=⟨fun x h=>by simp at h,by simp⟩
theorem ML.push {es:Array MapEntry}{clock:Nat}(h:ML es clock)(k v:Value):ML (es.push {key:=k,val:=v,born:=clock}) (clock+1):=by
 grind[ML]
theorem ML.modify {es:Array MapEntry} {clock:Nat} (h:ML es clock) (i:Nat) (k v:Value):ML (es.modify i fun e=>{e with key:=k,val:=v}) clock:=by
 have hb:(es.modify i fun e=>{e with key:=k,val:=v}).toList.map (·.born)=es.toList.map (·.born):=by
  apply Bg
  grind
 refine⟨fun x hx=>?_,by rw[hb];exact h.2⟩
 have:x.born∈es.toList.map (·.born):=by rw[←hb];grind
 grind[ML]
theorem ML.sub {es es':Array MapEntry}{clock:Nat}(h:ML es clock)(hs:es'.toList.Sublist es.toList):ML es' clock:=⟨fun x hx=>h.1 x (hs.subset hx),(hs.map _).nodup h.2⟩
theorem Yc:∀{l l':List V} {r:List Value},Ks l=some r→Ks l'=some r→l=l'
 |[],l',r,h,h'=>by
  simp only[Ks,F3]at h;subst h
  cases l' with
  |nil=>rfl
  |cons x l=>grind[Ks]
 | x::l,l',r,h,h'=>by
  unfold Ks at h
  split at h
  ·rename_i v r' h1 h2;cases h
   cases l' with
   |nil=>cases h'
   |cons y l'=>
    unfold Ks at h'
    split at h'
    ·rename_i v2 r2 h3 h4;cases h';rw[Ya h1 h3,Yc h2 h4]
    cases h'
  cases h
theorem Yb {x:V}{u:Value}(h:Me x=some u)(c:Array Value):u≠ .agg c:=by
 cases x<;>simp only[Me,F3,reduceCtorEq]at h<;>subst h<;>simp
theorem Og {x:V} {u:Value} (h:BO x=some u):(∃cs r,x= .agg cs∧Ks cs=some r∧u= .agg r.toArray)∨Me x=some u:=by
 unfold BO at h
 split at h
 ·rename_i cs
  cases hr:Ks cs with
  |none=>rw[hr]at h;cases h
  |some r=>rw[hr]at h;simp_all
 grind
theorem SO {x y:V} {u:Value} (h:BO x=some u) (h':BO y=some u):x=y:=by
 rcases Og h with⟨a,r,rfl,h1,rfl⟩|h1
 ·rcases Og h' with⟨b,r2,rfl,h2,e⟩|h2
  ·have:r=r2:=by grind
   grind[Yc]
  grind[Yb]
 rcases Og h' with⟨b,r2,rfl,h2,rfl⟩|h2
 ·grind[Yb]
 grind[Ya]
def Fh:TypeDesc→Value→Prop
 | .array n _,v=>OO .i64 n v
 | .struct fs,v=>OO .i64 fs.size v
 |d,v=>IsKey d v
structure Cv (d:TypeDesc) (o:Obj) (m:List (V×V)):Prop where
 ex:∃es clock,o= .map es clock∧es.toList.map (fun e=>(some e.key,some e.val))=m.map fun p=>(BO p.1,BO p.2)
 keys:∀p∈m,∃k,BO p.1=some k∧Fh d k
 nodup:(m.map (·.1)).Nodup
 st:∀es clock,o= .map es clock→ML es clock
theorem Cv.empty (d:TypeDesc):Cv d (.map #[] 0) []:=⟨⟨_,_,rfl,rfl⟩,fun p h=>(by cases h),List.nodup_nil,fun es clock h=>by simp_all[ML]⟩
theorem Na {α:Type}{l:List α}(h:l.Nodup){i j:Nat}(hi:i<l.length)(hj:j<l.length)(e:l[i]=l[j]):i=j:=by
 have h:=List.pairwise_iff_getElem.1 h
 grind
def AX3 (P:Program)(et:TypeId)(m:List (V×V))(key:V)(ok:Bool)(v:V):Prop:=
 ((∀p∈m,p.1≠key)∧∃z,JD P et=some z∧v=if ok=true then .tup [z,.bool false]else z)∨∃y,(key,y)∈m∧v=if ok=true then .tup [y,.bool true]else y
def AP8 (P:Program)(H:A5)(t:TypeId)(x key:V)(ok:Bool)(v:V):Prop:=
 ∃kt et d kv id o m,P.underlying t=some (.map kt et)∧KG P kt (Fh d)∧BO key=some kv∧Fh d kv∧x= .map id∧H id=some (.obj o)∧Cv d o m∧AX3 P et m key ok v
def Al7 (P:Program)(t:TypeId)(x key:V)(ok:Bool)(v:V):Prop:=
 ∃kt et ks xs n,P.underlying t=some (.map kt et)∧P.underlying kt=some (.int .i64)∧x= .fmap ks xs∧key= .int .i64 n∧ok=false∧((∃i:Nat,ks[i]? =some n∧v=xs.getD i .bad)∨((∀k∈ks,k≠n)∧JD P et=some v))
def Al6 (P:Program) (H:A5) (t:TypeId) (x key:V) (ok:Bool) (v:V):Prop:=
 ∃kt et G kv id ks xs,P.underlying t=some (.map kt et)∧KG P kt G∧BO key=some kv∧G kv∧x= .map id∧H id=some (.vm ks xs)∧(∀k∈ks,G k)∧
  (((∀k∈ks,k≠kv)∧∃z z',JD P et=some z∧Dx z z'∧v=if ok=true then .tup [z',.bool false]else z')∨∃i:Nat,ks[i]? =some kv∧v=if ok=true then .tup [xs.getD i .bad,.bool true]else xs.getD i .bad)
def Ng (P:Program)(H:A5)(t:TypeId)(x key:V)(ok:Bool)(v:V):Prop:=AP8 P H t x key ok v∨Al7 P t x key ok v∨Al6 P H t x key ok v
def AE6 (H:A5)(K:V→A5→Prop):Prop:=(∀id,H id=none→K (.map id) (upd H id (some (.obj (.map #[] 0)))))∨(∀id,H id=none→K (.map id) (upd H id (some (.fm [] []))))∨∀id,H id=none→K (.map id) (upd H id (some (.vm [] [])))
def Ai4 (P:Program)(H:A5)(K:V→A5→Prop)(t:TypeId)(x key val:V):Prop:=
 ∃kt et ks xs n id,P.underlying t=some (.map kt et)∧P.underlying kt=some (.int .i64)∧x= .map id∧H id=some (.fm ks xs)∧key= .int .i64 n∧(∀k∈ks,k≠n)∧K .bad (upd H id (some (.fm (ks++[n]) (xs++[val]))))
def Bb1 (m:List (V×V))(k v:V)(m':List (V×V)):Prop:=
 ((∀p∈m,p.1≠k)∧m'=m++[(k,v)])∨∃a y b,m=a++(k,y)::b∧m'=a++(k,v)::b
def AL3 (P:Program) (H:A5) (K:V→A5→Prop) (t:TypeId) (x key val:V):Prop:=
 ∃kt et d kv vv id o m m',P.underlying t=some (.map kt et)∧KG P kt (Fh d)∧BO key=some kv∧Fh d kv∧BO val=some vv∧x= .map id∧H id=some (.obj o)∧Cv d o m∧Bb1 m key val m'∧
  ∀o',Cv d o' m'→K .bad (upd H id (some (.obj o')))
def Ai3 (P:Program) (H:A5) (K:V→A5→Prop) (t:TypeId) (x key val:V):Prop:=
 ∃kt et G kv id ks xs,P.underlying t=some (.map kt et)∧KG P kt G∧BO key=some kv∧G kv∧x= .map id∧H id=some (.vm ks xs)∧(∀k∈ks,G k)∧
  (((∀k∈ks,k≠kv)∧K .bad (upd H id (some (.vm (ks++[kv]) (xs++[val])))))∨∃i:Nat,ks[i]? =some kv∧K .bad (upd H id (some (.vm ks (xs.set i val)))))
def MO (P:Program)(H:A5)(K:V→A5→Prop)(t:TypeId)(x key val:V):Prop:=AL3 P H K t x key val∨Ai4 P H K t x key val∨Ai3 P H K t x key val
theorem At6 {H:A5}{K K':V→A5→Prop}(h:AE6 H K)(hk:∀v H',K v H'→K' v H'):AE6 H K':=h.imp (fun h id hid=>hk _ _ (h id hid)) fun h=>h.imp (fun h id hid=>hk _ _ (h id hid)) fun h id hid=>hk _ _ (h id hid)
theorem Hf {P:Program}{H:A5}{K K':V→A5→Prop}{t:TypeId}{x key val:V}(h:MO P H K t x key val)(hk:∀H',K .bad H'→K' .bad H'):MO P H K' t x key val:=by
 rcases h with⟨kt,et,d,kv,vv,id,o,m,m',h1,h2,h3,h4,h5,h6,h7,h8,h9,h⟩|⟨kt,et,ks,xs,n,id,h1,h2,h3,h4,h5,h6,h⟩|⟨kt,et,G,kv,id,ks,xs,h1,h2,h3,h4,h5,h6,h7,h⟩
 ·exact .inl ⟨kt,et,d,kv,vv,id,o,m,m',h1,h2,h3,h4,h5,h6,h7,h8,h9,fun o' ho=>hk _ (h o' ho)⟩
 ·exact .inr (.inl ⟨kt,et,ks,xs,n,id,h1,h2,h3,h4,h5,h6,hk _ h⟩)
 exact .inr (.inr ⟨kt,et,G,kv,id,ks,xs,h1,h2,h3,h4,h5,h6,h7,h.imp (fun h=>⟨h.1,hk _ h.2⟩) fun⟨i,a,b⟩=>⟨i,a,hk _ b⟩⟩)
theorem Wt {P:Program}{H H':A5}{t:TypeId}{x key v:V}{ok:Bool}(hl:∀id b,H id=some b→H' id=some b)(h:Ng P H t x key ok v):Ng P H' t x key ok v:=by
 rcases h with⟨kt,et,d,kv,id,o,m,h1,h2,h3,h4,h5,h6,h7⟩|h|⟨kt,et,G,kv,id,ks,xs,h1,h2,h3,h4,h5,h6,h7⟩
 ·exact .inl ⟨kt,et,d,kv,id,o,m,h1,h2,h3,h4,h5,hl _ _ h6,h7⟩
 ·simp_all[Ng]
 exact .inr (.inr ⟨kt,et,G,kv,id,ks,xs,h1,h2,h3,h4,h5,hl _ _ h6,h7⟩)
theorem Cv.entry {d:TypeDesc}{m:List (V×V)}{es:Array MapEntry}(he:es.toList.map (fun e=>(some e.key,some e.val))=m.map fun p=>(BO p.1,BO p.2))(j:Nat):
 (∀e,es[j]? =some e→∃p,m[j]? =some p∧BO p.1=some e.key∧BO p.2=some e.val)∧∀p,m[j]? =some p→∃e,es[j]? =some e∧BO p.1=some e.key∧BO p.2=some e.val:=by
 have:=J6 (fun l=>l[j]?) he
 grind
theorem Cv.isKeys {d:TypeDesc}{m:List (V×V)}{es:Array MapEntry}(he:es.toList.map (fun e=>(some e.key,some e.val))=m.map fun p=>(BO p.1,BO p.2))(hk:∀p∈m,∃k,BO p.1=some k∧Fh d k):∀e∈es.toList,Fh d e.key:=by
 intro e h;obtain⟨j,hj,e1⟩:=N6 h;obtain⟨p,h1,h2,_⟩:=(Cv.entry (d:=d) he j).1 e (by rw[←CN,E0 hj,e1]);obtain⟨k,h3,h4⟩:=hk p (CJ h1)
 rw[h2]at h3;simp_all
theorem MF {w:World}{b:Nat}{o o':Obj}(hw:w.heap[b]? =some o)(hc:Obj.isCells o=false)(hc':Obj.isCells o'=false)(x i:Nat):(w.putObj b o').cell? ⟨x,i,none⟩=w.cell? ⟨x,i,none⟩:=by
 by_cases h:x=b
 ·subst h;have h1:=World.putObj_heap_same (w:=w) (o:=o') (Wq hw);simp only[World.cell?,h1,hw];cases o<;>cases o'<;>simp_all[Obj.isCells]
 grind[World.cell?_of_block,World.putObj_heap_other]
theorem Rl.putObj {g:Gh} {H:A5} {w:World} (h:Rl g H w) {id b:Nat} {o o':Obj} (hk:H id=some (.obj o)) (hb:g.mu id=some b) (hc':Obj.isCells o'=false):
 Y7 g w g (w.putObj b o')∧Rl g (upd H id (some (.obj o'))) (w.putObj b o'):=by
 obtain⟨b',h1,h2,h3,h4⟩:=h.blk id _ hk
 have e:b'=b:=by rw[hb]at h1;simp_all
 subst e;have hcell:=MF (o':=o') h3 h4 hc'
 have s:Y7 g w g (w.putObj b' o'):=by
  refine⟨fun _ _ e=>e,fun _ _ e=>e,fun _ _ e=>e,rfl,fun b o _=>hcell b o,⟨rfl,rfl,rfl,by simp,fun k hk=>World.putObj_heap_other (by omega)⟩,fun _ _ _=>rfl,B3 _⟩
 have hat:∀x,g.at (upd H id (some (.obj o'))) x=g.at H x:=by
  grind[Gh.at,upd]
 have hid:g.at H id=some b':=by simp_all[Gh.at]
 refine⟨s,fun x k hx=>?_,fun x x' y h1 h2=>h.inj x x' y (hat x▸h1) (hat x'▸h2),fun y o hf=>?_,fun x hx=>?_,?_,fun n=>(h.glb n).mono s⟩
 ·by_cases hxe:x=id
  ·subst hxe;rw[G2]at hx;cases hx
   exact⟨b',hb,h2,World.putObj_heap_same (Wq h3),hc'⟩
  rw[C9 _ _ hxe]at hx
  refine(h.blk x k hx).mono hx s fun y hy=>⟨World.putObj_heap_other fun e=>?_,fun _ ho=>ho⟩;subst e;exact hxe (h.inj _ _ _ hy hid)
 ·obtain⟨v,hv'⟩:=h.frz y o hf
  simp_all
 ·obtain⟨a1,a2,a3⟩:=h.nxt x hx
  have hne:x≠id:=fun e=>by simp_all
  simp_all[upd]
 have:=h.bnd;simp;omega
def Il.fixed:Il→Bool
 | .obj _=>true
 | .loop _=>true
 | .iter _ _ _ _=>true
 | .fm _ _=>true
 | .vm _ _=>true
 |_=>false
theorem Cx.fixed {g:Gh}{w:World}{id:Nat}{k:Il}(hk:k.fixed=true)(h:Cx g w id k):∃b o,g.mu id=some b∧g.base≤b∧w.heap[b]? =some o∧Obj.isCells o=false:=by
 cases k with
 |cells _=>cases hk
 |spare=>cases hk
 |obj o=>grind[Cx]
 |loop L=>grind[Obj.isCells,Cx]
 |arr _ _=>cases hk
 |fm ks xs=>grind[Obj.isCells,Cx]
 |vm ks xs=>grind[Obj.isCells,Cx]
 |iter mid since seen c0=>grind[Obj.isCells,Cx]
theorem Gh.at_fixed {g:Gh}{H:A5}{id:Nat}{k:Il}(hk:k.fixed=true)(h:H id=some k):g.at H id=g.mu id:=by
 cases k<;>simp_all[Gh.at,Il.fixed]
theorem Rl.putGen {g:Gh} {H:A5} {w:World} (h:Rl g H w) {id b:Nat} {k k':Il} {o':Obj} (hf:k.fixed=true) (hf':k'.fixed=true) (hk:H id=some k) (hb:g.mu id=some b) (hc':Obj.isCells o'=false)
 (hok:Y7 g w g (w.putObj b o')→(w.putObj b o').heap[b]? =some o'→g.base≤b→Cx g (w.putObj b o') id k'):
 Y7 g w g (w.putObj b o')∧Rl g (upd H id (some k')) (w.putObj b o'):=by
 obtain⟨b',o,h1,h2,h3,h4⟩:=(h.blk id _ hk).fixed hf
 have e:b'=b:=by rw[hb]at h1;simp_all
 subst e;have hcell:=MF (o':=o') h3 h4 hc'
 have s:Y7 g w g (w.putObj b' o'):=by
  refine⟨fun _ _ e=>e,fun _ _ e=>e,fun _ _ e=>e,rfl,fun b o _=>hcell b o,⟨rfl,rfl,rfl,by simp,fun k hk=>World.putObj_heap_other (by omega)⟩,fun _ _ _=>rfl,B3 _⟩
 have hat:∀x,g.at (upd H id (some k')) x=g.at H x:=by
  grind[Gh.at_fixed,Gh.at,upd]
 have hid:g.at H id=some b':=by rw[Gh.at_fixed hf hk,hb]
 refine⟨s,fun x k hx=>?_,fun x x' y h1 h2=>h.inj x x' y (hat x▸h1) (hat x'▸h2),fun y o hf=>?_,fun x hx=>?_,?_,fun n=>(h.glb n).mono s⟩
 ·by_cases hxe:x=id
  ·grind[G2,World.putObj_heap_same]
  rw[C9 _ _ hxe]at hx
  refine(h.blk x k hx).mono hx s fun y hy=>⟨World.putObj_heap_other fun e=>?_,fun _ ho=>ho⟩;subst e;exact hxe (h.inj _ _ _ hy hid)
 ·obtain⟨v,hv'⟩:=h.frz y o hf
  simp_all
 ·obtain⟨a1,a2,a3⟩:=h.nxt x hx
  have hne:x≠id:=fun e=>by simp_all
  simp_all[upd]
 have:=h.bnd;simp;omega
section
variable {P:Program}{o:Oper}{fr:Fr}{H:A5}{K:V→A5→Prop}
theorem XG {t:TypeId}(ho:o.op= .makeMap t none)(h:∀id,H id=none→K (.map id) (upd H id (some (.obj (.map #[] 0))))):I7 P o fr H K:=by
 intro g w a hR hE;have s:=Y7.new hR (.map #[] 0) False 0;have r:=hR.newNamed (.map #[] 0) (.obj (.map #[] 0)) (by simp) ⟨w.heap.size,by simp[Gh.new],hR.bnd,Dg,rfl⟩;unfold execOp;rw[ho];simp only[Ln,Instr.makeMap,B8,C2,run_newObj,B7,J5];exact⟨_,_,_,s,r,.map (by simp[Gh.new]),h g.nx (hR.nxt _ (B3 _)).2.2⟩
theorem Rj {g:Gh}{w:World}{v:Value}{n:Int}(h:VR g w v (.int .i64 n)):v= .int .i64 n:=by cases h;rfl
theorem AG8 {es:Array MapEntry}{ks:List Int}(hk:es.toList.map (·.key)=ks.map (Value.int .i64)){j:Nat}{e:MapEntry}(he:es[j]? =some e):∃k,ks[j]? =some k∧e.key= .int .i64 k:=by
 have:=J6 (fun l=>l[j]?) hk
 grind
theorem Am9 {es:Array MapEntry}{ks:List Int}(hk:es.toList.map (·.key)=ks.map (Value.int .i64)):∀e∈es.toList,IsKey (.int .i64) e.key:=by
 intro e he;obtain⟨j,hj,e1⟩:=N6 he;obtain⟨k,_,h2⟩:=AG8 hk (j:=j) (e:=e) (by rw[←CN,E0 hj,e1]);rw[h2];rfl
theorem XJ {t:TypeId} {x y:Operand} {ok:Bool} {v:V} (ho:o.op= .lookup t x y ok) (hl:Al7 P t (ev fr x) (ev fr y) ok v) (h:K v H):I7 P o fr H K:=by
 intro g w a hR hE;obtain⟨kt,et,ks,xs,n,h1,h2,h3,h4,rfl,h5⟩:=hl;have hx:=F5 hR hE x;have hy:=F5 hR hE y
 rw[h4]at hy
 have hy:=Rj hy
 rw[h3]at hx
 generalize hav:a.eval x=xv at hx
 cases hx with
 | fmap hb hw hk hn hlen hv=>
  rename_i b es clock;have hks:=Am9 hk;have hIs:IsKey (.int .i64) (Value.int .i64 n):=rfl;unfold execOp;rw[ho];simp only[hav,hy,Instr.lookup,B8,run_underlying h1,B7,CP hw,C2,run_checkKey h2 hIs]
  rcases findNow_spec hIs es.toList 0 hks with⟨f1,f2⟩|⟨j,e,f1,f2,f3⟩
  ·simp only[run_findKey h2 f1,B7]
   rcases h5 with⟨i,q1,q2⟩|⟨q1,q2⟩
   ·exfalso;have:=J6 (fun l=>l[i]?) hk
    grind
   obtain⟨zv,ez,hz⟩:=DJ q2
   have hzr:VR g w zv v:=by rw[ez];grind[Fc]
   simp only[B8,hz,B7,C2,J5]
   grind[N3.here]
  simp only[run_findKey h2 f1,B7,C2,J5]
  have f2':es[j]? =some e:=by grind
  obtain⟨k,g1,g2⟩:=AG8 hk f2'
  have hkn:k=n:=by rw[f3]at g2;simp_all
  subst hkn;have hvr:=hv j e f2'
  rcases h5 with⟨i,q1,q2⟩|⟨q1,q2⟩
  ·have hj:j<ks.length:=by
    grind
   have hi:i<ks.length:=by
    grind
   have:i=j:=Na hn hi hj (by rw[E0 hi]at q1;rw[E0 hj]at g1;rw[BL q1,BL g1]);subst this
   rw[←q2]at hvr
   exact N3.here hR hvr h
  grind
theorem Wa {t:TypeId}(ho:o.op= .makeMap t none)(h:∀id,H id=none→K (.map id) (upd H id (some (.fm [] [])))):I7 P o fr H K:=by
 intro g w a hR hE;have s:=Y7.new hR (.map #[] 0) False 0;have r:=hR.newNamed (.map #[] 0) (.fm [] []) (by simp) ⟨w.heap.size, #[],0,by simp[Gh.new],hR.bnd,Dg,rfl,Lm,rfl,fun i e hi=>by simp at hi⟩;unfold execOp;rw[ho];simp only[Ln,Instr.makeMap,B8,C2,run_newObj,B7,J5];exact⟨_,_,_,s,r,.map (by simp[Gh.new]),h g.nx (hR.nxt _ (B3 _)).2.2⟩
theorem SC {t:TypeId} {x y z:Operand} (ho:o.op= .mapUpdate t x y z∨o.op= .insert t x y z) (hl:Ai4 P H K t (ev fr x) (ev fr y) (ev fr z)):I7 P o fr H K:=by
 intro g w a hR hE;obtain⟨kt,et,ks,xs,n,id,h1,h2,h3,h4,h5,h6,h⟩:=hl;have hx:=F5 hR hE x;have hy:=F5 hR hE y;have hz:=F5 hR hE z
 rw[h5]at hy
 have hy:=Rj hy
 rw[h3]at hx
 generalize hav:a.eval x=xv at hx
 cases hx with
 | map hm=>
  rename_i b;obtain⟨b',es,clock,k1,k2,k3,k4,k5,k6,k7⟩:=hR.blk id _ h4
  rw[hm]at k1;cases k1
  have hks:=Am9 k4;have hIs:IsKey (.int .i64) (Value.int .i64 n):=rfl
  have hne:∀e∈es.toList,e.key≠ .int .i64 n:=by
   intro e he hc;obtain⟨j,hj,e1⟩:=N6 he;obtain⟨k,q1,q2⟩:=AG8 k4 (j:=j) (e:=e) (by rw[←CN,E0 hj,e1])
   rw[hc]at q2
   grind
  rcases findNow_spec hIs es.toList 0 hks with⟨f1,f2⟩|⟨j,e,f1,f2,f3⟩
  ·have hes:es.size=ks.length:=by have:=J6 List.length k4;grind
   obtain⟨q1,q2⟩:=hR.putGen (k':=.fm (ks++[n]) (xs++[ev fr z])) (o':=.map (es.push {key:=.int .i64 n,val:=a.eval z,born:=clock}) (clock+1)) rfl rfl h4 hm rfl fun s hh hb=>
    ⟨b,_,_,hm,hb,hh,by simp[k4],by
     rw[IB];simp_all,by simp[k6],fun i e hi=>by
     rw[Array.getElem?_push]at hi
     split at hi
     ·rename_i hie;cases hi
      have:i=xs.length:=by omega
      subst this
      simpa using hz.mono s
     rename_i hie
     have hlt:i<xs.length:=by
      have:=(Array.getElem?_eq_some_iff.1 hi).1;omega
     have:=(k7 i e hi).mono s
     grind⟩
   have hr:(Instr.mapUpdate t (.map (some b)) (.int .i64 n) (a.eval z)).run P w= .ok () (w.putObj b (.map (es.push {key:=.int .i64 n,val:=a.eval z,born:=clock}) (clock+1))):=by
    simp only[Instr.mapUpdate,B8,run_underlying h1,B7,CP k3,run_checkKey h2 hIs,run_findKey h2 f1,run_setObj_map _ k3];rfl
   have hex:(execOp a.eval o).run P w= .ok .skip (w.putObj b (.map (es.push {key:=.int .i64 n,val:=a.eval z,born:=clock}) (clock+1))):=by
    unfold execOp
    rcases ho with ho|ho<;>rw[ho]<;>simp only[hav,hy,B8,hr,B7,C2]
   rw[hex];exact⟨_,_,_,q1,q2,.bad _,h⟩
  grind
theorem AU8 {es:Array MapEntry}{ks:List Value}(hk:es.toList.map (·.key)=ks){j:Nat}{e:MapEntry}(he:es[j]? =some e):ks[j]? =some e.key:=by
 rw[←hk];simp[he]
theorem Ai0 {G:Value→Prop}{es:Array MapEntry}{ks:List Value}(hk:es.toList.map (·.key)=ks)(hG:∀k∈ks,G k):∀e∈es.toList,G e.key:=fun e he=>
 hG _ (by rw[←hk];grind)
theorem ZY {ks:List Value}(hn:ks.Nodup){i j:Nat}{k:Value}(hi:ks[i]? =some k)(hj:ks[j]? =some k):i=j:=by
 grind[Na]
theorem XI {t:TypeId} {x y:Operand} {ok:Bool} {v:V} (ho:o.op= .lookup t x y ok) (hl:Al6 P H t (ev fr x) (ev fr y) ok v) (h:K v H):I7 P o fr H K:=by
 intro g w a hR hE;obtain⟨kt,et,G,kv,id,ks,xs,h1,h2,h3,h4,h5,h6,h7,h8⟩:=hl;have hx:=F5 hR hE x;have hy:=Md h3 (F5 hR hE y)
 rw[h5]at hx
 generalize hav:a.eval x=xv at hx
 cases hx with
 | map hm=>
  rename_i b;obtain⟨b',es,clock,k1,k2,k3,k4,k5,k6,k7⟩:=hR.blk id _ h6
  rw[hm]at k1;cases k1
  have hks:=Ai0 k4 h7;unfold execOp;rw[ho];simp only[hav,hy,Instr.lookup,B8,run_underlying h1,B7,CP k3,C2,(fun em=>h2.check w em h4)]
  rcases h2.find w h4 es.toList hks with⟨f1,f2⟩|⟨j,e,f1,f2,f3⟩
  ·simp only[f1,B7]
   rcases h8 with⟨q1,z,z',q2,q4,q3⟩|⟨i,q1,q2⟩
   ·obtain⟨zv,ez,hz⟩:=DJ q2;have hzr:VR g w zv z':=VR.le (by rw[ez];grind[Fc]) q4;simp only[B8,hz,B7,C2,J5];subst q3;cases ok
    ·grind[N3.here]
    refine N3.here hR (.tup rfl fun i hi=>?_) h
    match i with
    |0=>exact hzr
    |1=>exact .bool _
    |i+2=>grind
   grind
  simp only[f1,B7,C2,J5]
  have f2':es[j]? =some e:=by grind
  have g1:=AU8 k4 f2'
  rw[f3]at g1
  rcases h8 with⟨q1,_⟩|⟨i,q1,q2⟩
  ·grind
  have hij:=ZY k5 q1 g1;subst hij;have hvr:=k7 i e f2';subst q2;cases ok
  ·exact N3.here hR hvr h
  refine N3.here hR (.tup rfl fun i hi=>?_) h
  match i with
  |0=>exact hvr
  |1=>exact .bool _
  |i+2=>grind
theorem VZ {t:TypeId}(ho:o.op= .makeMap t none)(h:∀id,H id=none→K (.map id) (upd H id (some (.vm [] [])))):I7 P o fr H K:=by
 intro g w a hR hE;have s:=Y7.new hR (.map #[] 0) False 0;have r:=hR.newNamed (.map #[] 0) (.vm [] []) (by simp) ⟨w.heap.size, #[],0,by simp[Gh.new],hR.bnd,Dg,rfl,Lm,rfl,fun i e hi=>by simp at hi⟩;unfold execOp;rw[ho];simp only[Ln,Instr.makeMap,B8,C2,run_newObj,B7,J5];exact⟨_,_,_,s,r,.map (by simp[Gh.new]),h g.nx (hR.nxt _ (B3 _)).2.2⟩
theorem SB {t:TypeId} {x y z:Operand} (ho:o.op= .mapUpdate t x y z∨o.op= .insert t x y z) (hl:Ai3 P H K t (ev fr x) (ev fr y) (ev fr z)):I7 P o fr H K:=by
 intro g w a hR hE;obtain⟨kt,et,G,kv,id,ks,xs,h1,h2,h3,h4,h5,h6,h7,h8⟩:=hl;have hx:=F5 hR hE x;have hy:=Md h3 (F5 hR hE y);have hz:=F5 hR hE z
 rw[h5]at hx
 generalize hav:a.eval x=xv at hx
 cases hx with
 | map hm=>
  rename_i b;obtain⟨b',es,clock,k1,k2,k3,k4,k5,k6,k7⟩:=hR.blk id _ h6
  rw[hm]at k1;cases k1
  have hks:=Ai0 k4 h7
  have hes:es.size=ks.length:=by have:=J6 List.length k4;grind
  have run:∀es' clock' k',(Instr.mapUpdate t (.map (some b)) kv (a.eval z)).run P w= .ok () (w.putObj b (.map es' clock'))→
   (Y7 g w g (w.putObj b (.map es' clock'))∧Rl g (upd H id (some k')) (w.putObj b (.map es' clock')))→K .bad (upd H id (some k'))→J5 P (N3 g w K) ((execOp a.eval o).run P w):=by
   intro es' clock' k' hr q h
   have hex:(execOp a.eval o).run P w= .ok .skip (w.putObj b (.map es' clock')):=by
    unfold execOp
    rcases ho with ho|ho<;>rw[ho]<;>simp only[hav,hy,B8,hr,B7,C2]
   rw[hex];exact⟨_,_,_,q.1,q.2,.bad _,h⟩
  rcases h2.find w h4 es.toList hks with⟨f1,f2⟩|⟨j,e,f1,f2,f3⟩
  ·have hne:∀k∈ks,k≠kv:=fun k hk he=>by
    rw[←k4]at hk
    grind
   rcases h8 with⟨_,h⟩|⟨i,q1,_⟩
   ·refine run (es.push {key:=kv,val:=a.eval z,born:=clock}) (clock+1) (.vm (ks++[kv]) (xs++[ev fr z])) ?_ ?_ h
    ·simp only[Instr.mapUpdate,B8,run_underlying h1,B7,CP k3,(fun em=>h2.check w em h4),f1,run_setObj_map _ k3];rfl
    exact hR.putGen rfl rfl h6 hm rfl fun s hh hb=>
     ⟨b,_,_,hm,hb,hh,by simp[k4],by
      rw[IB];simp_all,by simp[k6],fun i e hi=>by
      rw[Array.getElem?_push]at hi
      split at hi
      ·rename_i hie;cases hi
       have:i=xs.length:=by omega
       subst this
       simpa using hz.mono s
      rename_i hie
      have hlt:i<xs.length:=by
       have:=(Array.getElem?_eq_some_iff.1 hi).1;omega
      have:=(k7 i e hi).mono s
      grind⟩
   grind
  have f2':es[j]? =some e:=by grind
  have g1:=AU8 k4 f2'
  rw[f3]at g1
  rcases h8 with⟨q1,_⟩|⟨i,q1,h⟩
  ·grind
  have hij:=ZY k5 q1 g1;subst hij;refine run (es.modify i fun e=>{e with key:=kv,val:=a.eval z}) clock (.vm ks (xs.set i (ev fr z))) ?_ ?_ h
  ·simp only[Instr.mapUpdate,B8,run_underlying h1,B7,CP k3,(fun em=>h2.check w em h4),f1,f2',I6,AF,f3,h2.stays w h4,run_setObj_map _ k3];rfl
  exact hR.putGen rfl rfl h6 hm rfl fun s hh hb=>
   ⟨b,_,_,hm,hb,hh,by
    apply Bg
    grind,k5,by simp[k6],fun m en hi=>by
    rw[Gs]at hi
    by_cases hmi:i=m
    ·subst hmi
     rw[A2 rfl,f2']at hi
     cases hi
     have hlt:i<xs.length:=by
      have:=(Array.getElem?_eq_some_iff.1 f2').1;omega
     simpa[X3,Ad,hlt]using hz.mono s
    rw[A0 hmi]at hi
    have:=(k7 m en hi).mono s
    simp_all⟩
theorem Aa9 {t:TypeId} {x y:Operand} {ok:Bool} {v:V} (ho:o.op= .lookup t x y ok) (hl:Ng P H t (ev fr x) (ev fr y) ok v) (h:K v H):I7 P o fr H K:=by
 refine hl.elim (fun hl=>?_) fun hl=>hl.elim (fun hl=>XJ ho hl h) fun hl=>XI ho hl h;intro g w a hR hE;obtain⟨kt,et,d,kv,id,ob,m,h1,h2,h3,h4,h5,h6,h7,h8⟩:=hl;have hx:=F5 hR hE x;have hy:=Md h3 (F5 hR hE y)
 rw[h5]at hx
 generalize hav:a.eval x=xv at hx
 cases hx with
 | map hm=>
  rename_i b;obtain⟨b',k1,k2,k3,k4⟩:=hR.blk id _ h6
  rw[hm]at k1;cases k1
  obtain⟨⟨es,clock,e1,e2⟩,hk,hn⟩:=h7;subst e1;have hks:=Cv.isKeys e2 hk;unfold execOp;rw[ho];simp only[hav,hy,Instr.lookup,B8,run_underlying h1,B7,CP k3,C2,(fun em=>h2.check w em h4)]
  rcases h2.find w h4 es.toList hks with⟨f1,f2⟩|⟨j,e,f1,f2,f3⟩
  ·simp only[f1,B7]
   rcases h8 with⟨q1,z,q2,q3⟩|⟨y',q1,q2⟩
   ·obtain⟨zv,ez,hz⟩:=DJ q2
    have hzr:VR g w zv z:=by rw[ez];grind[Fc]
    simp only[B8,hz,B7,C2,J5];subst q3;cases ok
    ·grind[N3.here]
    refine N3.here hR (.tup rfl fun i hi=>?_) h
    match i with
    |0=>exact hzr
    |1=>exact .bool _
    |i+2=>grind
   exfalso;obtain⟨i,hi,e⟩:=N6 q1;obtain⟨en,g1,g2,g3⟩:=(Cv.entry (d:=d) e2 i).2 _ (by rw[E0 hi,e])
   rw[h3]at g2
   grind
  simp only[f1,B7,C2,J5]
  have f2':es[j]? =some e:=by grind
  obtain⟨p,g1,g2,g3⟩:=(Cv.entry (d:=d) e2 j).1 e f2';have hpk:p.1=ev fr y:=SO g2 (by rw[h3,f3])
  rcases h8 with⟨q1,_⟩|⟨y',q1,q2⟩
  ·grind
  have hpy:p.2=y':=by
   obtain⟨i,hi,e⟩:=N6 q1
   have hj:j<m.length:=by
    grind
   have e3:m[j]=p:=by rw[E0 hj]at g1;simp_all
   have:i=j:=Na hn (by grind) (by grind) (by simp_all)
   simp_all
  rw[hpy]at g3
  have hvr:VR g w e.val y':=SN g3;subst q2;cases ok
  ·exact N3.here hR hvr h
  refine N3.here hR (.tup rfl fun i hi=>?_) h
  match i with
  |0=>exact hvr
  |1=>exact .bool _
  |i+2=>grind
theorem Cv.set {d:TypeDesc} {m m':List (V×V)} {es:Array MapEntry} {clock:Nat} {key val:V} {kv vv:Value} (h3:BO key=some kv) (h4:Fh d kv) (h5:BO val=some vv)
 (e2:es.toList.map (fun e=>(some e.key,some e.val))=m.map fun p=>(BO p.1,BO p.2)) (hk:∀p∈m,∃k,BO p.1=some k∧Fh d k) (hn:(m.map (·.1)).Nodup) (hst:ML es clock) (hs:Bb1 m key val m'):
 ((∀e∈es.toList,e.key≠kv)→Cv d (.map (es.push {key:=kv,val:=vv,born:=clock}) (clock+1)) m')∧
 ∀(j:Nat) e,es[j]? =some e→e.key=kv→Cv d (.map (es.modify j fun e=>{e with key:=kv,val:=vv}) clock) m':=by
 have key_of:∀(j:Nat) e,es[j]? =some e→e.key=kv→∃y,m[j]? =some (key,y):=fun j e hj hje=>by
  obtain⟨p,g1,g2,g3⟩:=(Cv.entry (d:=d) e2 j).1 e hj;have:p.1=key:=SO g2 (by rw[h3,hje])
  grind
 constructor
 ·intro hne
  rcases hs with⟨q1,rfl⟩|⟨a,y,b,rfl,rfl⟩
  ·refine⟨⟨_,_,rfl,by simp_all⟩,fun p hp=>?_,?_,fun es clock h=>by grind[ML]⟩
   ·grind
   grind
  exfalso;obtain⟨e,g1,g2,_⟩:=(Cv.entry (d:=d) e2 a.length).2 (key,y) (by simp)
  rw[h3]at g2
  grind
 intro j e hj hje;obtain⟨y0,hm⟩:=key_of j e hj hje
 rcases hs with⟨q1,rfl⟩|⟨a,y,b,rfl,rfl⟩
 ·grind
 have hja:j=a.length:=by
  have hjl:j<(a++(key,y)::b).length:=by
   grind
  have e3:(a++(key,y)::b)[j]=(key,y0):=by rw[E0 hjl]at hm;simp_all
  grind
 subst hja;refine⟨⟨_,_,rfl,?_⟩,fun p hp=>?_,?_,fun es clock h=>by cases h;exact hst.modify _ _ _⟩
 ·apply Bg;intro i;simp only[R6,CN,Gs]
  by_cases hi:a.length=i
  ·simp_all
  rw[A0 hi];have:=J6 (fun l=>l[i]?) e2
  grind
 ·simp only[CU,Gg]at hp
  rcases hp with hp|rfl|hp
  ·exact hk p (by simp[hp])
  ·simp_all
  exact hk p (by simp[hp])
 simp_all
theorem NG {t:TypeId} {x y z:Operand} (ho:o.op= .mapUpdate t x y z∨o.op= .insert t x y z) (hl:MO P H K t (ev fr x) (ev fr y) (ev fr z)):I7 P o fr H K:=by
 refine hl.elim (fun hl=>?_) fun hl=>hl.elim (SC ho) (SB ho);intro g w a hR hE;obtain⟨kt,et,d,kv,vv,id,ob,m,m',h1,h2,h3,h4,h5,h6,h7,h8,h9,h⟩:=hl;have hx:=F5 hR hE x;have hy:=Md h3 (F5 hR hE y);have hz:=Md h5 (F5 hR hE z)
 rw[h6]at hx
 generalize hav:a.eval x=xv at hx
 cases hx with
 | map hm=>
  rename_i b;obtain⟨b',k1,k2,k3,k4⟩:=hR.blk id _ h7
  rw[hm]at k1;cases k1
  obtain⟨⟨es,clock,e1,e2⟩,hk,hn,hst⟩:=h8;subst e1;have hks:=Cv.isKeys e2 hk;obtain⟨s1,s2⟩:=Cv.set (clock:=clock) h3 h4 h5 e2 hk hn (hst _ _ rfl) h9
  have run:∀o',Cv d o' m'→(Instr.mapUpdate t (.map (some b)) kv vv).run P w= .ok () (w.putObj b o')→J5 P (N3 g w K) ((execOp a.eval o).run P w):=by
   intro o' ho' hr;obtain⟨q1,q2⟩:=hR.putObj (o':=o') h7 hm (by obtain⟨⟨_,_,e,_⟩,_⟩:=ho';rw[e];rfl)
   have hex:(execOp a.eval o).run P w= .ok .skip (w.putObj b o'):=by
    unfold execOp
    rcases ho with ho|ho<;>rw[ho]<;>simp only[hav,hy,hz,B8,hr,B7,C2]
   rw[hex];exact⟨_,_,_,q1,q2,.bad _,h o' ho'⟩
  rcases h2.find w h4 es.toList hks with⟨f1,f2⟩|⟨j,e,f1,f2,f3⟩
  ·refine run _ (s1 f2) ?_;simp only[Instr.mapUpdate,B8,run_underlying h1,B7,CP k3,(fun em=>h2.check w em h4),f1,run_setObj_map _ k3];rfl
  have f2':es[j]? =some e:=by grind
  refine run _ (s2 j e f2' f3) ?_;simp only[K1,Instr.mapUpdate,B8,run_underlying h1,B7,CP k3,(fun em=>h2.check w em h4),f1,f2',I6,AF,f3,h2.stays w h4,run_setObj_map _ k3];rfl
end
end Go.Ab
namespace Go.Ab
open Go.RowKit
variable [O5]
theorem Rl.lessArr {g:Gh} {H:A5} {w:World} (h:Rl g H w) {id sz:Nat} {xs ys:List V} (hk:H id=some (.arr sz xs)) (hl:M1 xs ys):Rl g (upd H id (some (.arr sz ys))) w:=by
 have el:=hl.length
 have hat:∀x,g.at (upd H id (some (.arr sz ys))) x=g.at H x:=by
  grind[Gh.at,upd]
 refine⟨fun x k hx=>?_,fun x x' y h1 h2=>h.inj x x' y (hat x▸h1) (hat x'▸h2),h.frz,fun x hx=>?_,h.bnd,h.glb⟩
 ·by_cases hxe:x=id
  ·subst hxe;rw[G2]at hx;cases hx
   obtain⟨b,h1,h2,h3,h4,h5⟩:=h.blk x _ hk;refine⟨b,h1,h2,h3.trans el,fun i hi=>?_,?_⟩
   ·rw[←(hl.at i).cells.length];simp_all
   rw[←el];refine h5.imp (fun h=>h) fun⟨c,T,k1,k2,k3,k4,k5⟩=>⟨c,T,k1,k2,k3,fun i j hi hj=>⟨(k4 i j hi hj).1,(k4 i j hi hj).2.le ((hl.at i).cells.at j)⟩,k5⟩
  rw[C9 _ _ hxe]at hx;exact h.blk x k hx
 obtain⟨a1,a2,a3⟩:=h.nxt x hx
 have hne:x≠id:=fun e=>by simp_all
 simp_all[upd]
section
variable {P:Program}{o:Oper}{fr:Fr}{H:A5}{K:V→A5→Prop}
theorem I7.lessRow (h:I7 P o fr H fun x H'=>∃id sz xs ys,H' id=some (.arr sz xs)∧M1 xs ys∧K x (upd H' id (some (.arr sz ys)))):I7 P o fr H K:=by
 intro g w a hR hE;have h:=h g w a hR hE
 have key:∀v w',N3 g w (fun x H'=>∃id sz xs ys,H' id=some (.arr sz xs)∧M1 xs ys∧K x (upd H' id (some (.arr sz ys)))) v w'→N3 g w K v w':=by
  rintro v w' ⟨g',x,H',s,hR',hv,id,sz,xs,ys,h1,h2,h3⟩;exact⟨g',x,_,s,hR'.lessArr h1 h2,hv,h3⟩
 unfold J5 at h ⊢
 split at h
 ·grind
 ·grind
 ·exact h.mono fun e w' ⟨v,h1,h2⟩=>⟨v,h1,key _ _ h2⟩
 ·exact h.mono fun e w' ⟨v,h1,h2⟩=>⟨v,h1,key _ _ h2⟩
 omega
theorem Ra {x:Operand}(ho:o.op= .assign x∨o.op= .move x)(hx:ev fr x= .sl [] .nil)(sz:Nat)(h:∀q,H q=none→K (.own q 0 0) (upd H q (some (.arr sz [])))):I7 P o fr H K:=by
 intro g w a hR hE;have hv:=F5 hR hE x
 rw[hx]at hv
 obtain⟨g1,s1,R1,hn,hv1⟩:=Fz hR sz (.inl rfl) hv;unfold execOp
 rcases ho with ho|ho<;>rw[ho]<;>exact⟨g1,_,_,s1,R1,hv1,h _ hn⟩
theorem AA0 {t e:TypeId} {n sz:Nat} {parts:Array (Nat×Operand)} {xs ys:List V} (ho:o.op= .buildSlice t n parts) (hl:Bc P t n (parts.toList.map fun(p:Nat×Operand)=>(p.1,ev fr p.2))=some (.sl xs .full))
 (he:HG P t=some e) (hs:GS P e=some sz) (hle:M1 xs ys) (h:∀q,H q=none→K (.own q 0 (xs.length:Nat)) (upd H q (some (.arr sz ys)))):I7 P o fr H K:=by
 refine I7.lessRow ?_;intro g w a hR hE;obtain⟨e',sz',z,k1,k2,_,k3,k4,_,d,hrun,hdz,hdv⟩:=LZ hR hE hl
 rw[he]at k1;cases k1
 rw[hs]at k2;cases k2
 cases k3
 have hget:∀i,((parts.toList.map fun(p:Nat×Operand)=>(p.1,ev fr p.2)).map (fun(q:Nat×V)=>q.2)).getD i .bad=((parts.toList.map fun(p:Nat×Operand)=>(p.1,ev fr p.2)).getD i (0,.bad)).2:=by
  grind
 generalize hL:(parts.toList.map fun(p:Nat×Operand)=>(p.1,ev fr p.2))=L at *
 have hz:∀i,i<(L.map fun(q:Nat×V)=>q.2).length→((L.map fun(q:Nat×V)=>q.2).getD i .bad).cells.length=sz:=by
  intro i hi
  have:∀(m:List (Nat×V)) (k i:Nat),CV sz k m=true→i<m.length→(m.getD i (0,.bad)).2.cells.length=sz:=by
   intro m
   induction m with
   |nil=>simp_all
   |cons y m ih=>
    grind[CV]
  rw[hget];grind
 have el:(L.map fun(q:Nat×V)=>q.2).length=n:=by grind
 obtain⟨s,r,hn⟩:=Rl.newArr (w':=w.alloc (.cells d e)) hR (b:=w.heap.size) (o:=0) (sz:=sz) (ys:=L.map fun(q:Nat×V)=>q.2) hz (fun b q hf=>Ei (hR.fz_lt hf)) ((Y8 _ _).alloc hR.bnd _) (fun x _ hlt=>heap_alloc hlt)
  (.inr ⟨d,e,hR.bnd,Dg,by rw[hdz,el];omega,fun i j hi hj=>by
   rw[K1,hget];simp_all,fun q _ hf=>absurd (hR.fz_lt hf) (Ac _),fun id hid=>absurd (hR.lt hid) (Ac _)⟩)
 unfold execOp;rw[ho];simp only[B8,hrun,B7,C2,J5];refine⟨_,.own g.nx 0 ((L.map fun(q:Nat×V)=>q.2).length:Nat),_,s,r,?_,g.nx,sz,_,ys,G2 _ _ _,hle,?_⟩
 ·have e':(g.own w.heap.size ⟨0,(L.map fun(q:Nat×V)=>q.2).length,sz⟩).ow g.nx=⟨0,(L.map fun(q:Nat×V)=>q.2).length,sz⟩:=by simp[Gh.own]
  have:=VR.own (g:=g.own w.heap.size ⟨0,(L.map fun(q:Nat×V)=>q.2).length,sz⟩) (w:=w.alloc (.cells d e)) (id:=g.nx) (b:=w.heap.size) (lo:=0) (n:=((L.map fun(q:Nat×V)=>q.2).length:Nat)) (p:=some ⟨w.heap.size,0,none⟩) (by simp[Gh.own]) (by omega) (by omega) (by rw[e'];simp) (by rw[e'];simp)
  rw[e']at this
  simp_all
 grind[Dm]
def strL (l:List Int):ByteArray:=l.foldl (fun r n=>r.push (UInt8.ofNat n.toNat)) ByteArray.empty
def Vx (P:Program)(H:A5)(s d:TypeId)(x v:V):Prop:=
 ∃e l,HG P s=some e∧P.underlying e=some (.int .u8)∧P.underlying d=some .string∧Uf 1 H x (l.map (V.int .u8))∧v= .str (strL l)
theorem Uf.up {sz:Nat}{H H':A5}{x:V}{ys:List V}(hl:∀id b,H id=some b→H' id=some b)(h:Uf sz H x ys):Uf sz H' x ys:=by
 unfold Uf at h ⊢
 grind
theorem Ag1 {P:Program}{H H':A5}{s d:TypeId}{x v:V}(hl:∀id b,H id=some b→H' id=some b)(h:Vx P H s d x v):Vx P H' s d x v:=by
 obtain⟨e,l,h1,h2,h3,h4,h5⟩:=h;exact⟨e,l,h1,h2,h3,h4.up hl,h5⟩
def YI (K:V→A5→Prop)(x:V)(H:A5):Prop:=∃id sz xs ys,H id=some (.arr sz xs)∧M1 xs ys∧K x (upd H id (some (.arr sz ys)))
def litO (P:Program)(H:A5)(K:V→A5→Prop)(t:TypeId)(n:Nat)(parts:List (Nat×V)):Prop:=
 ∃e sz xs ys,Bc P t n parts=some (.sl xs .full)∧HG P t=some e∧GS P e=some sz∧M1 xs ys∧∀q,H q=none→K (.own q 0 (xs.length:Nat)) (upd H q (some (.arr sz ys)))
def AV6 (H:A5)(K:V→A5→Prop)(x:V):Prop:=x= .sl [] .nil∧∃sz,∀q,H q=none→K (.own q 0 0) (upd H q (some (.arr sz [])))
theorem Az5 {l:List Int} {ys0:List V} (h:M1 ys0 (l.map (V.int .u8))):ys0=l.map (V.int .u8):=by
 induction l generalizing ys0 with
 |nil=>cases h;rfl
 | cons n l ih=>
  cases h with
  |cons h1 h2=>
   cases h1;rw[ih h2];rfl
theorem Ar1 {s d:TypeId} {y:Operand} {x:V} (ho:o.op= .convert s d y) (hl:Vx P H s d (ev fr y) x) (h:K x H):I7 P o fr H K:=by
 intro g w a hR hE;have hv:=F5 hR hE y;obtain⟨e,l,h1,h2,h3,h4,rfl⟩:=hl;obtain⟨ys0,k1,k2,k3⟩:=h4.inv hR hv;have e1:=Az5 k2;subst e1;obtain⟨base,cap,vs,r1,r2,r3⟩:=JH P hR k1 hv k3;have hs:=V1 h1
 have hlen:(l.map (V.int .u8)).length=l.length:=by simp
 have hcell:∀i,i<l.length→vs i 0= .int .u8 (l.getD i 0):=by
  intro i hi;have:=(r2 i 0 (by rw[hlen];exact hi) (by omega)).2
  have e:((l.map (V.int .u8)).getD i .bad).cells.getD 0 .bad= .int .u8 (l.getD i 0):=by
   simp_all[V.cells]
  rw[e]at this
  exact this.int_inv
 have hread:=r3 l.length (by rw[hlen];omega) w (fun _ _=>rfl)
 have hcells:((List.range (l.length*1)).map fun k=>vs (k / 1) (k % 1)).toArray=(l.map (Value.int .u8)).toArray:=by
  grind
 rw[hcells]at hread
 rw[hlen]at r1
 rw[r1]at hread
 have run:(convert s d (.slice base l.length cap)).run P w= .ok (.string (strL l)) w:=by
  rw[run_convert_bytes_string w s d e base l.length cap hs h2 h3]
  cases base with
  | none=>
   have:l=[]:=by
    simp only[Builtin.firstCells]at hread
    have hh:(.ok #[] w:Result (Array Value))= .ok (l.map (Value.int .u8)).toArray w:=by simp_all
    simp_all
   subst this;rfl
  |some ad=>
   simp only[Builtin.firstCells,Io]at hread
   exact run_bytesToString w ad l.length cap l hread
 unfold execOp;rw[ho];simp only[r1,B8,run,B7,C2,J5];exact N3.here hR (.str _) h
end
end Go.Ab
namespace Go.Ab
open Go.RowKit Go.MapKept
variable [O5]
def Ok (P:Program)(H:A5)(K:V→A5→Prop)(t:TypeId)(x:V):Prop:=
 ∃kt et mid es clock,P.underlying t=some (.map kt et)∧x= .map mid∧H mid=some (.obj (.map es clock))∧∀id,H id=none→K (.ref id 0) (upd H id (some (.iter mid clock #[] clock)))
def Ta (H:A5) (K:V→A5→Prop) (x:V):Prop:=
 ∃id mid since,∃seen:Array Nat,∃c0,∃es:Array MapEntry,∃clock,x= .ref id 0∧H id=some (.iter mid since seen c0)∧H mid=some (.obj (.map es clock))∧(∀e∈es.toList,e.born<since)∧since≤c0∧
  ((leftOf es seen).size=0→K (.tup [.bool false]) H)∧∀e∈(leftOf es seen).toList,K (.tup [.bool true,.bad,.bad]) (upd H id (some (.iter mid since (seen.push e.born) clock)))
def OD (H:A5) (K:V→A5→Prop) (x:V):Prop:=
 ∃id mid since,∃seen:Array Nat,∃c0,∃es:Array MapEntry,∃clock e kx vx,x= .ref id 0∧H id=some (.iter mid since (seen.push e.born) c0)∧c0=clock∧H mid=some (.obj (.map es clock))∧e∈es.toList∧(es.toList.map (·.born)).Nodup∧
  BO kx=some e.key∧BO vx=some e.val∧K (.tup [kx,vx]) H
def AS6 (P:Program) (H:A5) (K:V→A5→Prop) (ts:List TypeId) (vs:List V):Prop:=
 match ts,vs with
 | [t,_],[x,key]=>
  ∃kt et d kv id o m,P.underlying t=some (.map kt et)∧KG P kt (Fh d)∧BO key=some kv∧Fh d kv∧x= .map id∧H id=some (.obj o)∧Cv d o m∧
   ∀o' m',Cv d o' m'→((m'=m∧∀p∈m,p.1≠key)∨∃j p,m[j]? =some p∧p.1=key∧m'=m.eraseIdx j)→K (.tup []) (upd H id (some (.obj o')))
 |_,_=>False
theorem Yd {P:Program}{H:A5}{K K':V→A5→Prop}{t:TypeId}{x:V}(h:Ok P H K t x)(hk:∀v H',K v H'→K' v H'):Ok P H K' t x:=by
 grind[Ok]
theorem Ad3 {H:A5}{K K':V→A5→Prop}{x:V}(h:Ta H K x)(hk:∀v H',K v H'→K' v H'):Ta H K' x:=by
 grind[Ta]
theorem YY {H:A5}{K K':V→A5→Prop}{x:V}(h:OD H K x)(hk:∀v H',K v H'→K' v H'):OD H K' x:=by
 grind[OD]
theorem WP {g:Gh}{H:A5}{w:World}(hR:Rl g H w){id b:Nat}{o:Obj}(h:H id=some (.obj o))(hb:g.mu id=some b):w.heap[b]? =some o:=by
 obtain⟨b',h1,_,h3,_⟩:=hR.blk id _ h
 rw[hb]at h1;simp_all
theorem Rl.drew {g:Gh}{H:A5}{w:World}(hR:Rl g H w):Y7 g w g w.drew∧Rl g H w.drew:=by
 have s:Y7 g w g w.drew:=⟨fun _ _ e=>e,fun _ _ e=>e,fun _ _ e=>e,rfl,fun _ _ _=>rfl,(Y8 _ _).drew,fun _ _ _=>rfl,Gc _⟩;exact⟨s,⟨fun id b hb=>(hR.blk id b hb).mono hb s fun _ _=>⟨rfl,fun _ ho=>ho⟩,hR.inj,hR.frz,hR.nxt,hR.bnd,fun n=>(hR.glb n).mono s⟩⟩
theorem Rl.putIter {g:Gh} {H:A5} {w:World} (h:Rl g H w) {id b mid bm since since' c0 c0':Nat} {seen seen':Array Nat} (hk:H id=some (.iter mid since seen c0)) (hb:g.mu id=some b) (hm:g.mu mid=some bm):
 Y7 g w g (ChangeMaps.setBlock w b (.mapIter (some bm) since' seen' c0'))∧Rl g (upd H id (some (.iter mid since' seen' c0'))) (ChangeMaps.setBlock w b (.mapIter (some bm) since' seen' c0')):=by
 have e0:ChangeMaps.setBlock w b (.mapIter (some bm) since' seen' c0')=w.putObj b (.mapIter (some bm) since' seen' c0'):=rfl;rw[e0];obtain⟨b',bm',h1,h2,h3,h4⟩:=h.blk id _ hk
 rw[hb]at h1;cases h1
 have hcell:=MF (o':=.mapIter (some bm) since' seen' c0') h4 rfl rfl
 have s:Y7 g w g (w.putObj b (.mapIter (some bm) since' seen' c0')):=by
  refine⟨fun _ _ e=>e,fun _ _ e=>e,fun _ _ e=>e,rfl,fun b o _=>hcell b o,⟨rfl,rfl,rfl,by simp,fun k hk=>World.putObj_heap_other (by omega)⟩,fun _ _ _=>rfl,B3 _⟩
 have hat:∀x,g.at (upd H id (some (.iter mid since' seen' c0'))) x=g.at H x:=by
  grind[Gh.at,upd]
 have hid:g.at H id=some b:=by simp_all[Gh.at]
 refine⟨s,fun x k hx=>?_,fun x x' y h1 h2=>h.inj x x' y (hat x▸h1) (hat x'▸h2),fun y o hf=>?_,fun x hx=>?_,?_,fun n=>(h.glb n).mono s⟩
 ·by_cases hxe:x=id
  ·subst hxe;rw[G2]at hx;cases hx
   exact⟨b,bm,hb,h2,hm,World.putObj_heap_same (Wq h4)⟩
  rw[C9 _ _ hxe]at hx
  refine(h.blk x k hx).mono hx s fun y hy=>⟨World.putObj_heap_other fun e=>?_,fun _ ho=>ho⟩;subst e;exact hxe (h.inj _ _ _ hy hid)
 ·obtain⟨v,hv'⟩:=h.frz y o hf
  simp_all
 ·obtain⟨a1,a2,a3⟩:=h.nxt x hx
  have hne:x≠id:=fun e=>by simp_all
  simp_all[upd]
 have:=h.bnd;simp;omega
section
variable {P:Program}{o:Oper}{fr:Fr}{H:A5}{K:V→A5→Prop}
theorem Aq4 {t:TypeId} {y:Operand} (ho:o.op= .range t y) (hl:Ok P H K t (ev fr y)):I7 P o fr H K:=by
 intro g w a hR hE;obtain⟨kt,et,mid,es,clock,h1,h2,h3,h4⟩:=hl;have hx:=F5 hR hE y
 rw[h2]at hx
 generalize hav:a.eval y=xv at hx
 cases hx with
 |map hm=>
  rename_i bm;have k3:=WP hR h3 hm;have s:=Y7.new hR (.mapIter (some bm) clock #[] clock) False 0
  have hne:mid≠g.nx:=fun e=>by subst e;rw[(hR.nxt _ (B3 _)).1]at hm;cases hm
  have r:=hR.newNamed (.mapIter (some bm) clock #[] clock) (.iter mid clock #[] clock) (by simp) ⟨w.heap.size,bm,by simp[Gh.new],hR.bnd,by simp_all[Gh.new],Dg⟩;unfold execOp;rw[ho];simp only[hav,B8,run_range_map w t kt et bm es clock h1 k3,B7,C2,J5];exact⟨_,_,_,s,r,.ref (by simp[Gh.new]),h4 g.nx (hR.nxt _ (B3 _)).2.2⟩
theorem AA4 {y:Operand} (ho:o.op= .next y false) (hl:Ta H K (ev fr y)):I7 P o fr H K:=by
 intro g w a hR hE;obtain⟨id,mid,since,seen,c0,es,clock,h1,h2,h3,h4,h5,h6,h7⟩:=hl;have hx:=F5 hR hE y
 rw[h1]at hx
 generalize hav:a.eval y=xv at hx
 obtain⟨b,bm,k1,k2,k3,k4⟩:=hR.blk id _ h2;have k5:=WP hR h3 k3
 cases hx with
 | ref hm=>
  rename_i b'
  rw[k1]at hm;cases hm
  unfold execOp;rw[ho];simp only[hav]
  rcases run_next_at (P:=P) w o.type b bm since c0 seen es clock k4 k5 h4 h5 with⟨e1,e2⟩|⟨e,e1,w1,e2,e3⟩
  ·simp only[B8,e2,B7,C2,J5];refine N3.here hR (.tup rfl fun i hi=>?_) (h6 e1)
   match i with
   |0=>exact .bool _
   |i+1=>simp at hi
  simp only[B8,e3,B7,C2,J5]
  have key:∀w1:World,Y7 g w g w1→Rl g H w1→N3 g w K (.tuple #[.bool true,e.key,e.val]) (ChangeMaps.setBlock w1 b (.mapIter (some bm) since (seen.push e.born) clock)):=by
   intro w1 s1 hR1;obtain⟨s2,hR2⟩:=hR1.putIter (since':=since) (seen':=seen.push e.born) (c0':=clock) h2 k1 k3;refine⟨g,_,_,s1.trans s2,hR2,.tup rfl fun i hi=>?_,h7 e e1⟩
   match i with
   |0=>exact .bool _
   |1=>exact .bad _
   |2=>exact .bad _
   |i+3=>grind
  rcases e2 with rfl|rfl
  ·grind[Y7.refl]
  exact key _ hR.drew.1 hR.drew.2
theorem Ar0 {y:Operand} (ho:o.op= .entry y) (hl:OD H K (ev fr y)):I7 P o fr H K:=by
 intro g w a hR hE;obtain⟨id,mid,since,seen,c0,es,clock,e,kx,vx,h1,h2,h0,h3,h4,h5,h6,h7,h8⟩:=hl;subst h0;have hx:=F5 hR hE y
 rw[h1]at hx
 generalize hav:a.eval y=xv at hx
 obtain⟨b,bm,k1,k2,k3,k4⟩:=hR.blk id _ h2;have k5:=WP hR h3 k3
 cases hx with
 |ref hm=>
  rename_i b'
  rw[k1]at hm;cases hm
  unfold execOp;rw[ho];simp only[hav,B8,run_entry_at (P:=P) w b bm since seen es _ e k4 k5 h4 h5,B7,C2,J5];refine N3.here hR (.tup rfl fun i hi=>?_) h8
  match i with
  |0=>exact SN h6
  |1=>exact SN h7
  |i+2=>grind
end
section
variable {P:Program}{o:Oper}{fr:Fr}{H:A5}{K:V→A5→Prop}
def AE7 (P:Program)(t:TypeId)(l c v:V):Prop:=
 ∃k1 k2 n e sz by_ z,l= .int k1 n∧c= .int k2 n∧HG P t=some e∧GS P e=some sz∧0<sz∧TZ P e=some by_∧0<by_∧JD P e=some z∧z.one=true∧z.cells.length=sz∧0≤n∧n*(by_:Nat)≤281474976710656∧v= .sl (List.replicate n.toNat z) .ro
theorem Aq7 {t:TypeId} {l c:Operand} {v:V} (ho:o.op= .makeSlice t l c) (h:AE7 P t (ev fr l) (ev fr c) v) (hK:K v H):I7 P o fr H K:=by
 obtain⟨k1,k2,n,e,sz,by_,z,e1,e2,e3,e4,e5,e6,e7,e8,e9,e10,e11,e12,rfl⟩:=h;intro g w a hR hE;refine J5.mono ?_ (XH (K:=fun x H'=>∃id,H id=none∧x= .own id 0 n∧H'=upd H id (some (.arr sz (List.replicate n.toNat z)))) ho e1 e2 e3 e4 e5 e6 e7 e8 e9 e10 e11 (Ek _) e12 (fun id hid=>⟨id,hid,rfl,rfl⟩) g w a hR hE);rintro x w' ⟨g1,y,H1,s1,R1,hv,id,hid,rfl,rfl⟩;obtain⟨g2,_,s2,R2,hfr⟩:=R1.freezeArr' (G2 _ _ _)
 have hH:upd (upd H id (some (.arr sz (List.replicate n.toNat z)))) id none=H:=by
  funext x
  simp_all[upd]
 rw[hH]at R2
 refine⟨g2,_,H,s1.trans s2,R2,?_,hK⟩;have:=hfr x 0 n (hv.mono s2)
 have hs:R3 (List.replicate n.toNat z) 0 n=List.replicate n.toNat z:=by simp[R3]
 rw[hs]at this
 exact this
end
end Go.Ab
namespace Go.Ab
open Go.RowKit
variable [O5]
def Args (g:Gh)(w:World)(vals:Array Value)(args:List V):Prop:=
 vals.size=args.length∧∀i,i<args.length→VR g w (vals.getD i undef) (args.getD i .bad)
def M8 (P:Program)(f:FuncId)(args:List V)(H:A5)(K:V→A5→Prop):Prop:=
 ∀g w vals,Rl g H w→Args g w vals args→J5 P (N3 g w K) ((callFunc f vals).run P w)
def Cw (P:Program)(fv:V)(args:List V)(H:A5)(K:V→A5→Prop):Prop:=
 ∀g w v vals,Rl g H w→VR g w v fv→Args g w vals args→J5 P (N3 g w K) ((do let d ←Deferred.ofValue v vals;invoke d.target d.args:Sem Next).run P w)
def B9 (P:Program)(f:FuncId)(args:List V)(r:V):Prop:=∀H,M8 P f args H fun x H'=>x=r∧H'=H
def AL (P:Program)(fv:V)(args:List V)(r:V):Prop:=∀H,Cw P fv args H fun x H'=>x=r∧H'=H
theorem N3.mono {g:Gh}{w:World}{K K':V→A5→Prop}(h:∀x H,K x H→K' x H){v:Value}{w':World}(p:N3 g w K v w'):N3 g w K' v w':=
 let⟨g',x,H',a,b,c,d⟩:=p;⟨g',x,H',a,b,c,h _ _ d⟩
def QI (P:Program)(fv:V)(args:List V)(H:A5)(r:V):Prop:=∀H',(∀id b,H id=some b→H' id=some b)→Cw P fv args H' fun x h=>x=r∧h=H'
theorem AL.toH {P:Program}{fv:V}{args:List V}{r:V}(h:AL P fv args r)(H:A5):QI P fv args H r:=fun H' _=>h H'
theorem QI.up {P:Program}{fv:V}{args:List V}{H H':A5}{r:V}(h:QI P fv args H r)(hl:∀id b,H id=some b→H' id=some b):QI P fv args H' r:=fun H2 h2=>h H2 fun id b e=>h2 id b (hl id b e)
theorem M8.mono {P:Program}{f:FuncId}{args:List V}{H:A5}{K K':V→A5→Prop}(c:M8 P f args H K)(h:∀x H,K x H→K' x H):M8 P f args H K':=
 fun g w vals hR hA=>(c g w vals hR hA).mono fun _ _ p=>p.mono h
theorem Cw.mono {P:Program}{fv:V}{args:List V}{H:A5}{K K':V→A5→Prop}(c:Cw P fv args H K)(h:∀x H,K x H→K' x H):Cw P fv args H K':=
 fun g w v vals hR hv hA=>(c g w v vals hR hv hA).mono fun _ _ p=>p.mono h
theorem B9.at {P:Program}{f:FuncId}{args:List V}{r:V}(c:B9 P f args r){H:A5}{K:V→A5→Prop}(h:K r H):M8 P f args H K:=
 (c H).mono fun x H' ⟨e1,e2⟩=>by rw[e1,e2];exact h
theorem AL.at {P:Program}{fv:V}{args:List V}{r:V}(c:AL P fv args r){H:A5}{K:V→A5→Prop}(h:K r H):Cw P fv args H K:=
 (c H).mono fun x H' ⟨e1,e2⟩=>by rw[e1,e2];exact h
def Wk (x y:V):Prop:=∀g w v,VR g w v x→VR g w v y
theorem Wk.refl (x:V):Wk x x:=fun _ _ _ h=>h
theorem Wk.bad (x:V):Wk x .bad:=fun _ _ _ _=>.bad _
theorem Wk.ro (xs:List V)(t:G6):Wk (.sl xs t) (.sl xs .ro):=by
 intro g w v h
 cases h with
 |sl0 ht=>exact .sl0 rfl
 |sle ht=>exact .sle (.inl rfl)
 |sl vs hn hc hz hf hw h1 hv ht=>exact .sl vs hn hc hz hf hw h1 hv trivial
theorem Wk.nil (t:G6)(ht:t.plain=true):Wk (.sl [] .nil) (.sl [] t):=by
 intro g w v h
 cases h with
 |sl0 _=>exact .sl0 ht
 |sle h=>rcases h with h|⟨h,_⟩<;>cases h
 |sl vs hn hc hz hf hw h1 hv ht=>exact ht.elim
theorem Args.append {g:Gh} {w:World} {a b:Array Value} {x y:List V} (h:Args g w a x) (k:Args g w b y):Args g w (a++b) (x++y):=by
 refine⟨by simp[h.1,k.1],fun i hi=>?_⟩;rw[Mv]
 have e:(a++b).getD i undef=if i<x.length then a.getD i undef else b.getD (i-x.length) undef:=by
  simp only[P4,IM,h.1]
  split<;>rfl
 rw[e]
 grind[Args]
theorem M8.value {P:Program} {f:FuncId} {F C args:List V} {H:A5} {K:V→A5→Prop} (h:M8 P f (F++args++C) H K):Cw P (.func (.func f) F C) args H K:=by
 intro g w v vals hR hv hA
 cases hv with
 |func hl hv hl' hv'=>
  rename_i fs cs;have:=h g w (fs++vals++cs) hR (Args.append (Args.append ⟨hl,hv⟩ hA) ⟨hl',hv'⟩)
  simpa only[Deferred.ofValue,B8,C2,B7,invoke]using this
theorem B9.value {P:Program}{f:FuncId}{F C args:List V}{r:V}(h:B9 P f (F++args++C) r):AL P (.func (.func f) F C) args r:=fun H=>(h H).value
theorem I7.le {P:Program}{o:Oper}{fr:Fr}{H:A5}{K:V→A5→Prop}(h:I7 P o fr H fun x H'=>∃y,Dx x y∧K y H'):I7 P o fr H K:=
 fun g w a hR hE=>(h g w a hR hE).mono fun v w' ⟨g',x,H',s,hR',hv,y,hxy,hK⟩=>⟨g',y,H',s,hR',hv.le hxy,hK⟩
section
variable {P:Program}{o:Oper}{fr:Fr}{H:A5}{K:V→A5→Prop}
theorem AJ1 {g:Gh}{w:World}{a:Act}(hR:Rl g H w)(hE:ER g w a fr)(l:Array Operand):Args g w (l.map a.eval) (l.toList.map (ev fr)):=by
 refine⟨by simp,fun i hi=>?_⟩
 have hi':i<l.size:=by grind
 have e1:(l.map a.eval).getD i undef=a.eval l[i]:=by simp_all
 have e2:(l.toList.map (ev fr)).getD i .bad=ev fr l[i]:=by simp_all
 rw[e1,e2];grind[F5]
theorem XM {x:Operand}{args:Array Operand}{ts:Array TypeId}(ho:o.op= .call {callee:=.value x,args:=args,argTypes:=ts})(h:Cw P (ev fr x) (args.toList.map (ev fr)) H K):
 I7 P o fr H K:=by
 intro g w a hR hE;have:=h g w (a.eval x) (args.map a.eval) hR (F5 hR hE x) (AJ1 hR hE args);unfold execOp;rw[ho]
 simpa only[resolve]using this
end
abbrev WY:=Nat→Bool
def Dj (P:Program) (b:Builtin) (ts:List TypeId) (vs:List V) (v:V):Prop:=
 match b,ts,vs with
 | .len,[t],[x]=>Au0 P t x=some v
 | .max,_,[.int k a,.int k' b]=>k=k'∧v= .int k (if a<b then b else a)
 | .min,_,[.int k a,.int k' b]=>k=k'∧v= .int k (if b<a then b else a)
 | .append,[sT,yT],[.sl xs tl,.sl ys _]=>(tl= .nil∨tl= .full)∧∃e sz by_ z xs' ys',HG P sT=some e∧(HG P yT).isSome=true∧GS P e=some sz∧0<sz∧TZ P e=some by_∧0<by_∧JD P e=some z∧z.one=true∧z.cells.length=sz∧
  M1 xs xs'∧M1 ys ys'∧xs'.all (fun x=>x.cells.length==sz)=true∧ys'.all (fun x=>x.cells.length==sz)=true∧(xs'.length+ys'.length)*by_≤140737488355328∧v= .sl (xs'++ys') .ro
 |_,_,_=>False
theorem I7.lessH {P:Program}{o:Oper}{fr:Fr}{H:A5}{K:V→A5→Prop}(h:I7 P o fr H fun x H'=>∃y H2,Dx x y∧(∀id b,H2 id=some b→H' id=some b)∧K y H2):I7 P o fr H K:=
 fun g w a hR hE=>(h g w a hR hE).mono fun v w' ⟨g',x,H',s,hR',hv,y,H2,hxy,hH,hK⟩=>⟨g',y,H2,s,hR'.less hH,hv.le hxy,hK⟩
theorem MG {P:Program} {o:Oper} {fr:Fr} {H:A5} {c:Call} {b:Builtin} {v:V} (ho:o.op= .call c) (hc:c.callee= .builtin b)
 (h:Dj P b c.argTypes.toList (c.args.toList.map (ev fr)) v) {K:V→A5→Prop} (k:K v H):I7 P o fr H K:=by
 obtain⟨ce,args,ts⟩:=c
 simp only at hc h
 subst hc;obtain⟨args⟩:=args;obtain⟨ts⟩:=ts
 simp only at h
 unfold Dj at h
 split at h
 ·rename_i t x e2
  match args,e2 with
  |[y],e2=>
   simp only[D5,H5,U7,O9]at e2
   grind[AM2]
  |[],e2=>simp at e2
  |_::_::_,e2=>simp at e2
 ·rename_i k a k' b e2;obtain⟨rfl,rfl⟩:=h
  match args,e2 with
  |[x,y],e2=>
   simp only[D5,H5,U7,O9]at e2
   intro g w act hR hE;rw[T4 ho];have h1:=F5 hR hE x;have h2:=F5 hR hE y
   rw[e2.1]at h1;rw[e2.2]at h2
   have e1:=h1.int_inv;have e2':=h2.int_inv;simp[builtin,Builtin.max_,Builtin.max2,e1,e2',B8,C2]
   split<;>exact N3.here hR (by first|(rw[A2 (by assumption)];grind)|grind|exact .int _ _) k
  |[],e2=>simp at e2
  |[_],e2=>simp at e2
  |_::_::_::_,e2=>simp at e2
 ·rename_i k a k' b e2;obtain⟨rfl,rfl⟩:=h
  match args,e2 with
  |[x,y],e2=>
   simp only[D5,H5,U7,O9]at e2
   intro g w act hR hE;rw[T4 ho];have h1:=F5 hR hE x;have h2:=F5 hR hE y
   rw[e2.1]at h1;rw[e2.2]at h2
   have e1:=h1.int_inv;have e2':=h2.int_inv;simp[builtin,Builtin.min_,Builtin.min2,e1,e2',B8,C2]
   split<;>exact N3.here hR (by first|(rw[A2 (by assumption)];grind)|grind|exact .int _ _) k
  |[],e2=>simp at e2
  |[_],e2=>simp at e2
  |_::_::_::_,e2=>simp at e2
 ·rename_i sT yT xs tl ys tl' e2;obtain⟨htl,e,sz,by_,z,xs',ys',k1,k2,k3,k4,k5,k6,k7,k8,k9,l1,l2,k11,k12,k13,rfl⟩:=h
  match args,e2 with
  |[s,y],e2=>
   simp only[D5,H5,U7,O9]at e2
   have hA:Kd H tl:=by rcases htl with rfl|rfl<;>trivial
   have hd:M0 H tl=H:=by rcases htl with rfl|rfl<;>rfl
   refine I7.lessH (Od (K:=fun x H'=>∃y H2,Dx x y∧(∀id b,H2 id=some b→H' id=some b)∧K y H2) ho e2.1 e2.2 k1 k2 k3 k4 k5 k6 k7 k8 k9 hA (l1.sz k11) (l2.sz k12) (by rw[l1.length,l2.length];exact k13) (fun e=>⟨_,H,?_,fun _ _ h=>h,k⟩) fun t h1 h2=>⟨_,H,Dx.sl _ (l1.append l2),fun id b hb=>?_,k⟩)
   ·subst e;cases l2;rw[H6];exact Dx.sl _ l1
   rw[hd]at h2 ⊢
   grind[upd]
  |[],e2=>simp at e2
  |[_],e2=>simp at e2
  |_::_::_::_,e2=>simp at e2
 exact h.elim
def Hm (P:Program) (H:A5) (K:V→A5→Prop):List TypeId→List V→Prop
 | [sT,yT],[.sl xs tl,.sl ys _]=>
  ∃e sz by_ z,HG P sT=some e∧(HG P yT).isSome=true∧GS P e=some sz∧0<sz∧TZ P e=some by_∧0<by_∧JD P e=some z∧z.one=true∧z.cells.length=sz∧∃xs' ys',M1 xs xs'∧M1 ys ys'∧Kd H tl∧
   xs'.all (fun x=>x.cells.length==sz)=true∧ys'.all (fun x=>x.cells.length==sz)=true∧(xs'.length+ys'.length)*by_≤140737488355328∧(ys'=[]→K (.sl xs' tl) H)∧
   ∀t,ys'≠[]→M0 H tl t=none→K (.sl (xs'++ys') (.tok t)) (upd (M0 H tl) t (some .spare))
 |_,_=>False
theorem NR {P:Program} {o:Oper} {fr:Fr} {H:A5} {c:Call} (ho:o.op= .call c) (hc:c.callee= .builtin .append) {K:V→A5→Prop}
 (h:Hm P H K c.argTypes.toList (c.args.toList.map (ev fr))):I7 P o fr H K:=by
 obtain⟨ce,args,ts⟩:=c
 simp only at hc h
 subst hc;obtain⟨args⟩:=args;obtain⟨ts⟩:=ts
 simp only at h
 unfold Hm at h
 split at h
 ·rename_i sT yT xs tl ys tl' e2
  match args,e2 with
  |[s,y],e2=>
   simp only[D5,H5,U7,O9]at e2
   obtain⟨e,sz,by_,z,k1,k2,k3,k4,k5,k6,k7,k8,k9,xs',ys',l1,l2,k10,k11,k12,k13,k14,k15⟩:=h;refine I7.le (Od (K:=fun x H'=>∃y,Dx x y∧K y H') ho e2.1 e2.2 k1 k2 k3 k4 k5 k6 k7 k8 k9 k10 (l1.sz k11) (l2.sz k12) (by rw[l1.length,l2.length];exact k13) (fun e=>⟨_,.slt _ l1,k14 (by subst e;cases l2;rfl)⟩) fun t h1 h2=>⟨_,.slt _ (l1.append l2),k15 t (fun e=>h1 (by subst e;cases l2;rfl)) h2⟩)
  |[],e2=>simp at e2
  |[_],e2=>simp at e2
  |_::_::_::_,e2=>simp at e2
 exact h.elim
def Ov (P:Program)(H:A5)(b:Builtin)(ts:List TypeId)(vs:List V)(v:V):Prop:=
 match b,ts,vs with
 | .len,[t],[x]=>AP9 P H t x=some v
 | .cap,[t],[x]=>Ag8 P H t x=some v
 |_,_,_=>False
theorem Tp {P:Program} {o:Oper} {fr:Fr} {H:A5} {c:Call} {b:Builtin} {v:V} (ho:o.op= .call c) (hc:c.callee= .builtin b)
 (h:Ov P H b c.argTypes.toList (c.args.toList.map (ev fr)) v) {K:V→A5→Prop} (k:K v H):I7 P o fr H K:=by
 obtain⟨ce,args,ts⟩:=c
 simp only at hc h
 subst hc;obtain⟨args⟩:=args;obtain⟨ts⟩:=ts
 simp only at h
 unfold Ov at h
 split at h
 ·rename_i t x e2
  match args,e2 with
  |[y],e2=>
   simp only[D5,H5,U7,O9]at e2
   grind[AA1]
  |[],e2=>simp at e2
  |_::_::_,e2=>simp at e2
 ·rename_i t x e2
  match args,e2 with
  |[y],e2=>
   simp only[D5,H5,U7,O9]at e2
   grind[AA3]
  |[],e2=>simp at e2
  |_::_::_,e2=>simp at e2
 exact h.elim
theorem QE {H H':A5}(hl:∀id b,H id=some b→H' id=some b){id:Nat}{p:Nat×List V}(h:Ig H id=some p):Ig H' id=some p:=by
 have:=FN (sz:=p.1) (xs:=p.2) h
 simp_all[Ig]
theorem Ad9 {P:Program}{H H':A5}{t:TypeId}{x v:V}(hl:∀id b,H id=some b→H' id=some b)(h:NK P H t x=some v):NK P H' t x=some v:=by
 unfold NK at h ⊢
 grind[QE]
theorem Au4 {P:Program}{H H':A5}{t:TypeId}{x v:V}{i:Int}(hl:∀id b,H id=some b→H' id=some b)(h:Af0 P H t x i=some v):Af0 P H' t x i=some v:=by
 unfold Af0 at h ⊢
 grind[QE]
theorem XB {P:Program}{H H':A5}{t:TypeId}{x v:V}{i j k:Option Int}(hl:∀id b,H id=some b→H' id=some b)(h:LW P H t x i j k=some v):LW P H' t x i j k=some v:=by
 unfold LW at h ⊢
 grind[QE]
theorem Au1 {P:Program} {H H':A5} {b:Builtin} {ts:List TypeId} {vs:List V} {v:V} (hl:∀id b,H id=some b→H' id=some b) (h:Ov P H b ts vs v):Ov P H' b ts vs v:=by
 unfold Ov at h ⊢
 split at h
 ·exact h
 ·rename_i t x
  unfold Ag8 at h ⊢
  grind[Ig]
 omega
def ownN (x:V):Nat:=
 match x with
 | .own _ _ n=>n.toNat
 |_=>0
def GX (H:A5) (K:V→A5→Prop) (sz by_:Nat) (z:V) (x:V) (ys:List V):Prop:=
 match x with
 | .own id lo n=>∃xs,H id=some (.arr sz xs)∧
  (lo+n+(ys.length:Nat)≤(xs.length:Nat)→K (.own id lo (n+(ys.length:Nat))) (upd H id (some (.arr sz (DA xs (lo+n).toNat ys)))))∧
  ((xs.length:Nat)<lo+n+(ys.length:Nat)→(n.toNat+ys.length)*by_≤140737488355328∧∀t k,H t=none→K (.own t 0 (n+(ys.length:Nat))) (upd H t (some (.arr sz (R3 xs lo n++ys++List.replicate k z)))))
 |x=>(x= .sl [] .nil∨x= .sl [] .full)∧ys.length*by_≤140737488355328∧∀t k,H t=none→K (.own t 0 (ys.length:Nat)) (upd H t (some (.arr sz (ys++List.replicate k z))))
theorem KM {H:A5}{K K':V→A5→Prop}{sz by_:Nat}{z x:V}{ys:List V}(h:GX H K sz by_ z x ys)(hk:∀v H',K v H'→K' v H'):GX H K' sz by_ z x ys:=by
 unfold GX at h ⊢
 grind
def PO (P:Program) (H:A5) (K:V→A5→Prop):List TypeId→List V→Prop
 | [sT,yT],[x,y]=>
  ∃ e sz by_ z,HG P sT=some e∧GS P e=some sz∧0<sz∧TZ P e=some by_∧0<by_∧JD P e=some z∧z.one=true∧z.cells.length=sz∧
   (((HG P yT).isSome=true∧∃ys',Uf sz H y ys'∧GX H K sz by_ z x ys')∨
    ((∃k',P.underlying yT=some (.int k'))∧∃k m,y= .int k m∧0≤m∧(ownN x+m.toNat)*by_≤140737488355328∧GX H K sz by_ z x (List.replicate m.toNat z))∨
    (P.underlying yT=some .string∧∃s,y= .str s∧sz=1∧GX H K sz by_ z x (GL s)))
 |_,_=>False
theorem UC {P:Program} {o:Oper} {fr:Fr} {H:A5} {c:Call} (ho:o.op= .call c) (hc:c.callee= .builtin .append) {K:V→A5→Prop}
 (h:PO P H K c.argTypes.toList (c.args.toList.map (ev fr))):I7 P o fr H K:=by
 obtain⟨ce,args,ts⟩:=c
 simp only at hc h
 subst hc;obtain⟨args⟩:=args;obtain⟨ts⟩:=ts
 simp only at h
 unfold PO at h
 split at h
 ·rename_i sT yT x y' e2
  match args,e2 with
  | [s,y],e2=>
   simp only[D5,H5,U7,O9]at e2
   obtain⟨e,sz,by_,z,k1,k3,k4,k5,k6,k7,k8,k9,h⟩:=h
   rcases h with⟨k2,ys',l1,l4⟩|⟨⟨k',k2⟩,k,m,l1,l2,l0,l4⟩|⟨k2,s',l1,l2,l4⟩
   ·unfold GX at l4
    grind[XE,VX]
   ·have hm:((m.toNat:Nat):Int)=m:=by omega
    unfold GX at l4
    simp only[List.length_replicate,hm]at l4
    split at l4
    ·rename_i id lo n;obtain⟨xs,m1,m3,m4⟩:=l4;exact VV ho e2.1 (e2.2.trans l1) m1 k1 k2 k3 k4 k5 k6 k7 k8 k9 l2 l0 m3 fun e=>(m4 e).2
    grind[Ul]
   subst l2
   unfold GX at l4
   grind[VW,Um]
  |[],e2=>simp at e2
  |[_],e2=>simp at e2
  |_::_::_::_,e2=>simp at e2
 exact h.elim
def Zr (P:Program) (H:A5) (K:V→A5→Prop):List TypeId→List V→Prop
 | [sT,_],[.own id lo n,y]=>
  ∃e sz xs ys',HG P sT=some e∧GS P e=some sz∧0<sz∧H id=some (.arr sz xs)∧Uf sz H y ys'∧
   K (.int .i64 (if n<(ys'.length:Nat)then n else(ys'.length:Nat))) (upd H id (some (.arr sz (DA xs lo.toNat (ys'.take n.toNat)))))
 |_,_=>False
theorem Zq {P:Program} {o:Oper} {fr:Fr} {H:A5} {c:Call} (ho:o.op= .call c) (hc:c.callee= .builtin .copy) {K:V→A5→Prop}
 (h:Zr P H K c.argTypes.toList (c.args.toList.map (ev fr))):I7 P o fr H K:=by
 obtain⟨ce,args,ts⟩:=c
 simp only at hc h
 subst hc;obtain⟨args⟩:=args;obtain⟨ts⟩:=ts
 simp only at h
 unfold Zr at h
 split at h
 ·rename_i sT yT id lo n y' e2
  match args,e2 with
  |[s,y],e2=>
   simp only[D5,H5,U7,O9]at e2
   grind[Aq6]
  |[],e2=>simp at e2
  |[_],e2=>simp at e2
  |_::_::_::_,e2=>simp at e2
 exact h.elim
def TP (P:Program) (H:A5) (K:V→A5→Prop):List TypeId→List V→Prop
 |[sT],[.own id lo n]=>
  ∃e sz z xs,HG P sT=some e∧GS P e=some sz∧0<sz∧JD P e=some z∧z.one=true∧z.cells.length=sz∧H id=some (.arr sz xs)∧K (.tup []) (upd H id (some (.arr sz (DA xs lo.toNat (List.replicate n.toNat z)))))
 |_,_=>False
theorem WK {P:Program} {o:Oper} {fr:Fr} {H:A5} {c:Call} (ho:o.op= .call c) (hc:c.callee= .builtin .clear) {K:V→A5→Prop}
 (h:TP P H K c.argTypes.toList (c.args.toList.map (ev fr))):I7 P o fr H K:=by
 obtain⟨ce,args,ts⟩:=c
 simp only at hc h
 subst hc;obtain⟨args⟩:=args;obtain⟨ts⟩:=ts
 simp only at h
 unfold TP at h
 split at h
 ·rename_i sT id lo n e2
  match args,e2 with
  |[s],e2=>
   simp only[D5,H5,U7,O9]at e2
   grind[Aa8]
  |[],e2=>simp at e2
  |_::_::_,e2=>simp at e2
 exact h.elim
def Rg (P:Program) (H:A5) (K:V→A5→Prop) (t:TypeId) (l c:V):Prop:=
 match l,c with
 | .int _ n,.int _ m=>∃e sz by_ z,HG P t=some e∧GS P e=some sz∧0<sz∧TZ P e=some by_∧0<by_∧JD P e=some z∧z.one=true∧z.cells.length=sz∧0≤n∧n≤m∧m*by_≤281474976710656∧
  ∀id,H id=none→K (.own id 0 n) (upd H id (some (.arr sz (List.replicate m.toNat z))))
 |_,_=>False
def OP (P:Program) (o:Oper) (ρ:Operand→V) (H:A5) (v:V):Prop:=
 match o.op with
 | .move x=>v=ρ x
 | .assign x=>v=ρ x
 | .pick c x y=>
  match ρ c with
  | .bool t=>v=if t then ρ x else ρ y
  |_=>False
 | .box _ x=>(ρ x).one=true∧v= .eref (ρ x).cells 0
 | .build t ps=>QD P t (ps.toList.map fun p=>(p.1,ρ p.2))=some v
 | .buildSlice t n ps=>Bc P t n (ps.toList.map fun p=>(p.1,ρ p.2))=some v
 | .makeSlice t l c=>AE7 P t (ρ l) (ρ c) v
 | .load t x=>Jj P H t (ρ x)=some v∨NK P H t (ρ x)=some v
 | .nilCheck x=>Ak3 (ρ x)=true∧v=ρ x
 | .binOp op t x y _=>RN P op t (ρ x) (ρ y)=some v
 | .unOp op _ x=>unV op (ρ x)=some v
 | .convert s d x=>Vw P s d (ρ x)=some v∨Vx P H s d (ρ x) v
 | .lookup t x y ok=>Ng P H t (ρ x) (ρ y) ok v
 | .makeInterface t x=>ifO P t=false∧v= .iface t (ρ x)
 | .makeFunc fn fs cs=>v= .func fn (fs.toList.map ρ) (cs.toList.map ρ)
 | .slice t x lo hi mx=>
  match Cj (lo.map ρ),Cj (hi.map ρ),Cj (mx.map ρ)with
  |some l,some h,some m=>SA P t (ρ x) l h m=some v∨LW P H t (ρ x) l h m=some v
  |_,_,_=>False
 | .fieldAddr t x f=>HW P t (ρ x) f=some v
 | .field t x f=>TF P t (ρ x) f=some v
 | .indexAddr t x y=>
  match ρ y with
  | .int _ i=>(∃u,Ed P t (ρ x) i=some u∧Dx u v)∨Af0 P H t (ρ x) i=some v
  |_=>False
 | .index t x y=>
  match ρ y with
  | .int _ i=>Qs P t (ρ x) i=some v
  |_=>False
 | .extract x n=>
  match ρ x with
  | .tup cs=>cs[n]? =some v
  |_=>False
 | .call c=>
  match c.callee with
  | .value x=>QI P (ρ x) (c.args.toList.map ρ) H v
  | .builtin b=>Dj P b c.argTypes.toList (c.args.toList.map ρ) v∨Ov P H b c.argTypes.toList (c.args.toList.map ρ) v
  |_=>False
 |_=>False
theorem Ad8 {P:Program}{H H':A5}{t:TypeId}{x v:V}(hl:∀id b,H id=some b→H' id=some b)(h:Jj P H t x=some v):Jj P H' t x=some v:=by
 unfold Jj at h ⊢
 grind
theorem AC4 {P:Program}{o:Oper}{ρ:Operand→V}{H H':A5}{v:V}(hl:∀id b,H id=some b→H' id=some b)(h:OP P o ρ H v):OP P o ρ H' v:=by
 unfold OP at h ⊢
 cases ho:o.op<;>simp only[ho]at h ⊢ <;>first|exact h|exact h.imp (Ad8 hl) (Ad9 hl)|exact h.imp (fun h=>h) (Ag1 hl)|exact Wt hl h|skip
 ·grind[XB]
 ·grind[Au4]
 split at h
 ·exact h.up hl
 ·grind[Au1]
 exact h
theorem MZ {P:Program} {o:Oper} {fr:Fr} {H:A5} {v:V} (h:OP P o (ev fr) H v) {K:V→A5→Prop} (k:K v H):I7 P o fr H K:=by
 unfold OP at h
 split at h
 ·grind[XF]
 ·grind[SE]
 ·grind[Az9]
 ·grind[LX]
 ·grind[Ar2]
 ·grind[SD]
 ·grind[Aq7]
 ·grind[AA5,Aq5]
 ·grind[VY]
 ·grind[Ar3]
 ·grind[Az8]
 ·grind[XL,Ar1]
 ·grind[Aa9]
 ·grind[Pf]
 ·grind[Wb]
 ·grind[Aq3,XD]
 ·grind[Uo]
 ·grind[Aq9]
 ·grind[AA2,I7.le,Un]
 ·grind[Aq8]
 ·grind[XK]
 ·rename_i c ho
  split at h
  ·rename_i x hc;obtain⟨ce,args,ts⟩:=c
   simp only at hc h
   subst hc;exact XM ho ((h H fun _ _ e=>e).mono fun x H' ⟨e1,e2⟩=>by rw[e1,e2];exact k)
  ·grind[MG,Tp]
  grind
 grind
def Be5 (K:V→A5→Prop)(x:V)(H:A5):Prop:=∃y H2,Dx x y∧(∀id b,H2 id=some b→H id=some b)∧K y H2
def Im (P:Program) (A:WY) (o:Oper) (ρ:Operand→V) (H:A5) (K:V→A5→Prop):Prop:=
 match o.op with
 | .alloc t=>(∃z,JD P t=some z∧z.one=true∧∀id,H id=none→∃ds,M1 z.cells ds∧K (.ref id 0) (upd H id (some (.cells ds))))∨
  JD P t=some (.sl [] .nil)∧∃sz,∀q id,H q=none→upd H q (some (.arr sz [])) id=none→K (.ref id 0) (upd (upd H q (some (.arr sz []))) id (some (.cells [.own q 0 0])))
 | .box _ x=>
  (ρ x).one=true∧if A (o.dst.getD 0)then∀id,H id=none→K (.ref id 0) (upd H id (some (.cells (ρ x).cells)))else K (.eref (ρ x).cells 0) H
 | .store t x y=>(∃z H',Dx (ρ y) z∧Ob P H t (ρ x) z=some H'∧K .bad H')∨∃z H',Dx (ρ y) z∧VU P H t (ρ x) z=some H'∧K .bad H'
 | .makeSlice t l c=>Rg P H K t (ρ l) (ρ c)∨Rg P H (YI K) t (ρ l) (ρ c)
 | .assign x=>K (ρ x) H∨AV6 H K (ρ x)
 | .move x=>K (ρ x) H∨AV6 H K (ρ x)
 | .buildSlice t n ps=>(∃v,OP P o ρ H v∧K v H)∨litO P H K t n (ps.toList.map fun p=>(p.1,ρ p.2))
 | .makeMap t r=>r=none∧AE6 H K
 | .mapUpdate t x y z=>MO P H K t (ρ x) (ρ y) (ρ z)
 | .insert t x y z=>MO P H K t (ρ x) (ρ y) (ρ z)
 | .range t x=>Ok P H K t (ρ x)
 | .next x s=>s=false∧Ta H K (ρ x)
 | .entry x=>OD H K (ρ x)
 | .binOp op t x y _=>(∃v,OP P o ρ H v∧K v H)∨∃q e p,An3 op=some q∧HG P t=some e∧At1 (ρ x)=some p∧ρ y= .sl [] .nil∧(p→K (.bool q) H)∧K (.bool (!q)) H
 | .call c=>
  match c.callee with
  | .value x=>Cw P (ρ x) (c.args.toList.map ρ) H K
  | .builtin .append=>Hm P H K c.argTypes.toList (c.args.toList.map ρ)∨PO P H K c.argTypes.toList (c.args.toList.map ρ)∨Hm P H (Be5 K) c.argTypes.toList (c.args.toList.map ρ)
  | .builtin .copy=>Zr P H K c.argTypes.toList (c.args.toList.map ρ)
  | .builtin .clear=>TP P H K c.argTypes.toList (c.args.toList.map ρ)
  | .builtin b=>∃v,(Dj P b c.argTypes.toList (c.args.toList.map ρ) v∨Ov P H b c.argTypes.toList (c.args.toList.map ρ) v)∧K v H
  |_=>False
 |_=>∃v,OP P o ρ H v∧K v H
theorem Ab1 {P:Program}{o:Oper}{fr:Fr}{H:A5}{K:V→A5→Prop}{t:TypeId}(ho:o.op= .alloc t)(hz:JD P t=some (.sl [] .nil))(sz:Nat)
 (h:∀q id,H q=none→upd H q (some (.arr sz [])) id=none→K (.ref id 0) (upd (upd H q (some (.arr sz []))) id (some (.cells [.own q 0 0])))):I7 P o fr H K:=by
 intro g w a hR hE;obtain⟨v,e,hv⟩:=DJ hz
 have hr:VR g w v (.sl [] .nil):=by rw[e];simp[Fc]
 obtain⟨g1,s1,R1,hn,hv1⟩:=Fz hR sz (.inl rfl) hr;obtain⟨g',id,hid,s,hR',hv'⟩:=Jt R1 t hv1 rfl;unfold execOp;rw[ho];simp only[Instr.alloc,B8,hv,B7,J5];exact⟨g',_,_,s1.trans s,hR',hv',h _ id hn hid⟩
theorem Rl.chgCells {g:Gh} {H:A5} {w:World} (h:Rl g H w) {id:Nat} {cs ds:List V} (hk:H id=some (.cells cs)) (el:cs.length=ds.length)
 (hv:∀(j:Nat) u,j<cs.length→VR g w u (cs.getD j .bad)→VR g w u (ds.getD j .bad)):Rl g (upd H id (some (.cells ds))) w:=by
 have hat:∀x,g.at (upd H id (some (.cells ds))) x=g.at H x:=by
  grind[Gh.at,upd]
 refine⟨fun x k hx=>?_,fun x x' y h1 h2=>h.inj x x' y (hat x▸h1) (hat x'▸h2),h.frz,fun x hx=>?_,h.bnd,h.glb⟩
 ·by_cases hxe:x=id
  ·subst hxe;rw[G2]at hx;cases hx
   obtain⟨b,c,T,h1,h2,h3,h4,h5,h6⟩:=h.blk x _ hk
   simp_all[Cx]
  rw[C9 _ _ hxe]at hx;exact h.blk x k hx
 obtain⟨a1,a2,a3⟩:=h.nxt x hx
 have hne:x≠id:=fun e=>by simp_all
 simp_all[upd]
theorem Ab0 {P:Program}{o:Oper}{fr:Fr}{H:A5}{K:V→A5→Prop}{t:TypeId}{z:V}(ho:o.op= .alloc t)(hz:JD P t=some z)(h1:z.one=true)(h:∀id,H id=none→∃ds,M1 z.cells ds∧K (.ref id 0) (upd H id (some (.cells ds)))):I7 P o fr H K:=by
 intro g w a hR hE;refine(Ar4 (K:=fun x H'=>∃id,H id=none∧x= .ref id 0∧H'=upd H id (some (.cells z.cells))) ho hz h1 (fun id hid=>⟨id,hid,rfl,rfl⟩) g w a hR hE).mono fun v w' ⟨g',x,H',s,hR',hv,id,hid,e1,e2⟩=>?_;subst e1;subst e2;obtain⟨ds,hle,hK⟩:=h id hid;have:=hR'.chgCells (G2 _ _ _) (ds:=ds) hle.length fun j u _ hu=>hu.le (hle.at j)
 rw[Dm]at this
 grind[N3]
theorem As7 {P:Program} {A:WY} {o:Oper} {fr:Fr} {H:A5} {K:V→A5→Prop} (h:Im P A o (ev fr) H K):I7 P o fr H K:=by
 unfold Im at h
 split at h
 ·rename_i t ho
  rcases h with⟨z,h1,h2,h3⟩|⟨h1,sz,h2⟩
  ·grind[Ab0]
  exact Ab1 ho h1 sz h2
 ·grind[Uq,LX]
 ·rename_i t x y ho
  rcases h with⟨z,H',h0,h1,h2⟩|⟨z,H',h0,h1,h2⟩
  ·exact UL ho (fun _ _ _ h=>h.le h0) h1 h2
  grind[Aa7]
 ·rename_i t l c ho
  have key:∀K,Rg P H K t (ev fr l) (ev fr c)→I7 P o fr H K:=by
   intro K h
   unfold Rg at h
   grind[XH]
  exact h.elim (key K) fun h=>I7.lessRow (key _ h)
 ·rename_i x ho;exact h.elim (SE ho) fun⟨h1,sz,h2⟩=>Ra (.inl ho) h1 sz h2
 ·rename_i x ho;exact h.elim (XF ho) fun⟨h1,sz,h2⟩=>Ra (.inr ho) h1 sz h2
 ·rename_i t n ps ho
  rcases h with⟨v,h1,h2⟩|⟨e,sz,xs,ys,h1,h2,h3,h4,h5⟩
  ·grind[MZ]
  grind[AA0]
 ·rename_i t r ho;obtain⟨rfl,h⟩:=h;exact h.elim (XG ho) fun h=>h.elim (Wa ho) (VZ ho)
 ·grind[NG]
 ·rename_i t x y z ho;exact NG (.inr ho) h
 ·rename_i t x ho;exact Aq4 ho h
 ·rename_i x s ho;obtain⟨rfl,h⟩:=h;exact AA4 ho h
 ·rename_i x ho;exact Ar0 ho h
 ·grind[MZ,AM1]
 ·rename_i c ho
  split at h
  ·rename_i x hc;obtain⟨ce,args,ts⟩:=c
   grind[XM]
  ·rename_i hc;exact h.elim (NR ho hc) fun h=>h.elim (UC ho hc) fun h=>I7.lessH (NR ho hc h)
  ·rename_i hc;exact Zq ho hc h
  ·rename_i hc;exact WK ho hc h
  ·rename_i b _ _ _ hc;obtain⟨v,h1,h2⟩:=h;exact h1.elim (fun h1=>MG ho hc h1 h2) fun h1=>Tp ho hc h1 h2
  exact h.elim
 obtain⟨v,h1,h2⟩:=h;exact MZ h1 h2
def Fw (r:Option Nat):Fence:={fn:=fun _=>True,depth:=none,alive:=false,round:=r}
theorem TV {r:Option Nat}{P:Program}{f:FuncId}{args:Array Value}{w:World}{R:Ending→World→Prop}(h:CallsIn Fence.wide 0 P f args w R):CallsIn (Fw r) 0 P f args w R:=h
theorem Ac1 {r:Option Nat}{P:Program}{l:Nat}{f:FuncId}{tmps:Array Value}{c d:Code}{w:World}{R:Ending→World→Prop}(h:RoundIn Fence.wide 0 P l f tmps c d w R):RoundIn (Fw r) 0 P l f tmps c d w R:=h
theorem Yp {P:Program}{A:WY}{o:Oper}{ρ:Operand→V}{H:A5}{K:V→A5→Prop}(h:Im P A o ρ H K):∀c,o.op≠ .defer c:=by
 grind[Im,OP]
theorem Ku {P:Program} {r:Option Nat} {o:Oper} {a:Act} {next:Act→World→Prop} {Q:Exit→Act→World→Prop} {K:Value→World→Prop} {x:Result Next} (h:J5 P K x)
 (hk:∀v w,K v w→next (a.put o.dst v) w):o.uponIn (Fw r) 0 P a next Q x:=by
 cases x with
 |halt x w=>exact h.elim
 | ok n w=>
  cases n<;>first
   |exact h.elim
   |exact hk _ _ h
   |exact⟨fun h=>by simp[Fw]at h,(TV h).mono fun e w' ⟨v,e1,e2⟩=>by simp_all⟩
   |exact⟨fun h=>by simp[Fw]at h,(Ac1 h).mono fun e w' ⟨v,e1,e2⟩=>by simp_all⟩
def GV (nt:Nat):Option Tmp→Bool
 |some d=>d<nt
 |none=>true
def BA (ops:Array Oper) (fr:Fr) (o:Oper):Option Bool:=
 match o.guard with
 |none=>some true
 | some (j,want)=>
  match(ops[j]?).bind (·.dst)with
  |some d=>
   match fr.s d with
   | .bool b=>some (b==want)
   | .tup _=>some false
   |_=>none
  |none=>none
def Nu (P:Program) (A:WY) (nt:Nat) (ops:Array Oper):List Oper→Fr→A5→(Fr→A5→Prop)→Prop
 |[],fr,H,K=>K fr H
 | o::rest,fr,H,K=>
  GV nt o.dst=true∧
   match BA ops fr o with
   |some true=>Im P A o (ev fr) H fun v H'=>Nu P A nt ops rest (fr.put o.dst v) H' K
   |some false=>Nu P A nt ops rest (fr.put o.dst (.tup [])) H K
   |none=>False
def WV (nt:Nat)(g:Gh)(w:World)(Q:Exit→Fr→A5→Prop)(e:Exit)(a':Act)(w':World):Prop:=
 ∃g' fr' H',Y7 g w g' w'∧Rl g' H' w'∧FR nt g' w' a' fr'∧Q e fr' H'
def Aw7 (g:Gh):Option Nat→Option Nat→Prop
 |none,r=>r=none
 |some id,r=>∃b,g.mu id=some b∧r=some b
theorem Aw7.mono {g g':Gh}{w w':World}{rd r:Option Nat}(h:Aw7 g rd r)(s:Y7 g w g' w'):Aw7 g' rd r:=by
 cases rd with
 |none=>exact h
 |some id=>obtain⟨b,h1,h2⟩:=h;exact⟨b,s.mu _ _ h1,h2⟩
def Aa (P:Program)(nt:Nat)(rd:Option Nat)(c:Code)(fr:Fr)(H:A5)(Q:Exit→Fr→A5→Prop):Prop:=
 ∀r g w a,Aw7 g rd r→Rl g H w→FR nt g w a fr→c.wpIn (Fw r) 0 P (WV nt g w Q) a w
theorem WV.later {nt:Nat}{g g':Gh}{w w':World}{Q:Exit→Fr→A5→Prop}{e:Exit}{a:Act}{w2:World}(s:Y7 g w g' w')(h:WV nt g' w' Q e a w2):WV nt g w Q e a w2:=
 let⟨g2,fr,H,s2,x⟩:=h;⟨g2,fr,H,s.trans s2,x⟩
theorem WV.mono {nt:Nat}{g:Gh}{w:World}{Q Q':Exit→Fr→A5→Prop}(hq:∀e fr H,Q e fr H→Q' e fr H){e:Exit}{a:Act}{w2:World}(h:WV nt g w Q e a w2):WV nt g w Q' e a w2:=
 let⟨g2,fr,H,s2,a,b,c⟩:=h;⟨g2,fr,H,s2,a,b,hq _ _ _ c⟩
theorem Aa.mono {P:Program}{nt:Nat}{rd:Option Nat}{c:Code}{fr:Fr}{H:A5}{Q Q':Exit→Fr→A5→Prop}(h:Aa P nt rd c fr H Q)(hq:∀e fr H,Q e fr H→Q' e fr H):Aa P nt rd c fr H Q':=
 fun r g w a hr hR hF=>wpIn_mono (h r g w a hr hR hF) fun _ _ _=>WV.mono hq
section
variable {P:Program}{nt:Nat}{rd:Option Nat}{fr:Fr}{H:A5}{Q:Exit→Fr→A5→Prop}
theorem Y3 {ops:Array Oper} {g:Gh} {w:World} {a:Act} {o:Oper} {b:Bool} (hE:ER g w a fr) (h:BA ops fr o=some b):Region.wanted o (yielded ops a.tmps)=b:=by
 unfold BA at h
 unfold Region.wanted
 split at h
 ·simp_all
 rename_i j want hg;simp only[hg]
 split at h
 ·rename_i d hd
  split at h
  ·rename_i c hc;cases h;have:=hE d
   rw[hc]at this
   have hv:=this.bool_inv
   have ht:a.tmps[d]? =some (.bool c):=by
    rw[P4]at hv
    cases hx:a.tmps[d]? with
    |none=>rw[hx]at hv;simp[undef]at hv
    |some y=>rw[hx]at hv;grind
   simp only[yielded,hd,A4,ht];cases c<;>cases want<;>rfl
  ·rename_i vs hc;cases h;have:=hE d
   rw[hc]at this
   have hv:∃us,a.tmps.getD d undef= .tuple us:=by
    generalize a.tmps.getD d undef=z at this
    cases this with
    |tup h1 h2=>simp_all
   obtain⟨us,hv⟩:=hv
   have hy:yielded ops a.tmps j=none:=by
    unfold yielded;simp only[hd,A4]
    rw[P4]at hv
    grind
   rw[hy];cases want<;>rfl
  cases h
 cases h
theorem UG {A:WY}{r:Option Nat}{g:Gh}{w:World}{a:Act}{o:Oper}{K:V→A5→Prop}{next:Act→World→Prop}{Q:Exit→Act→World→Prop}(hR:Rl g H w)(hF:FR nt g w a fr)(hd:GV nt o.dst=true)
 (h:Im P A o (ev fr) H K) (hk:∀g' w' a' v H',Y7 g w g' w'→Rl g' H' w'→FR nt g' w' a' (fr.put o.dst v)→K v H'→next a' w'):o.wpIn (Fw r) 0 P a w next Q:=by
 refine⟨fun _ _=>trivial,?_⟩;rw[Gf _ _ _ (Yp h)];refine Ku (As7 h g w a hR hF.s) fun v w' ⟨g',x,H',s,hR',hv,hK⟩=>?_;refine hk g' w' _ x H' s hR' ((hF.mono s).put (fun t ht=>?_) hv) hK
 rw[ht]at hd;grind[GV]
theorem SX {A:WY} {ops:Array Oper} {r:Option Nat} {K:Fr→A5→Prop} {Q:Exit→Act→World→Prop} {g0:Gh} {w0:World} (hQ:∀g w a fr H,Y7 g0 w0 g w→Rl g H w→FR nt g w a fr→K fr H→Q .normal a w):
 ∀(m i:Nat) (fr:Fr) (H:A5),i+m=ops.size→Nu P A nt ops (ops.toList.drop i) fr H K→∀g w a,Y7 g0 w0 g w→Rl g H w→FR nt g w a fr→wpOpsIn (Fw r) 0 P ops Q (List.range' i m) a w
 |0,i,fr,H,hi,h,g,w,a,s,hR,hF=>by
  have:ops.toList.drop i=[]:=by simp;omega
  rw[this]at h
  exact hQ g w a fr H s hR hF h
 | m+1,i,fr,H,hi,h,g,w,a,s,hR,hF=>by
  have hlt:i<ops.toList.length:=by simp;omega
  have hlt':i<ops.size:=by omega
  rw[R7 hlt]at h
  simp only[Nu,LE]at h
  obtain⟨hd,h⟩:=h;simp only[DO,wpOpsIn,CQ hlt'];have ih:=SX (A:=A) (ops:=ops) (r:=r) (K:=K) hQ m (i+1)
  split at h
  ·rename_i hg;rw[A2 (Y3 hF.s hg)];exact UG hR hF hd h fun g' w' a' v H' s' hR' hF' hK=>ih _ _ (by omega) hK g' w' a' (s.trans s') hR' hF'
  ·rename_i hg;rw[A0 (by rw[Y3 hF.s hg];simp)];refine⟨fun _ _=>trivial,ih _ _ (by omega) h g w _ s hR (hF.put (fun t ht=>?_) (VR.und _ _))⟩
   rw[ht]at hd;grind[GV]
  grind
theorem Aa.region {A:WY} {id:Nat} {ops:Array Oper} (h:Nu P A nt ops ops.toList fr H (Q .normal)):Aa P nt rd (.region id ops false) fr H Q:=by
 intro r g w a hr hR hF;refine wpIn_region ?_
 have:=SX (P:=P) (A:=A) (nt:=nt) (ops:=ops) (r:=r) (K:=Q .normal) (Q:=WV nt g w Q) (g0:=g) (w0:=w) (fun g' w' a' fr' H' s hR hF hK=>⟨g',fr',H',s,hR,hF,hK⟩) ops.size 0 fr H (by omega)
  (by grind) g w a (Y7.refl _ _) hR hF
 rwa[←Gr]at this
theorem Aa.skip (h:Q .normal fr H):Aa P nt rd .skip fr H Q:=fun r g w a hr hR hF=>wpIn_skip ⟨g,fr,H,Y7.refl _ _,hR,hF,h⟩
theorem Aa.ret (h:Q .ret fr H):Aa P nt rd .ret fr H Q:=fun r g w a hr hR hF=>wpIn_ret ⟨g,fr,H,Y7.refl _ _,hR,hF,h⟩
theorem Aa.exit {id:Nat}(h:Q (.exit id) fr H):Aa P nt rd (.exit id) fr H Q:=fun r g w a hr hR hF=>wpIn_exit ⟨g,fr,H,Y7.refl _ _,hR,hF,h⟩
theorem Aa.seq {x y:Code}(h:Aa P nt rd x fr H fun e fr' H'=>match e with| .normal=>Aa P nt rd y fr' H' Q|e=>Q e fr' H'):Aa P nt rd (.seq x y) fr H Q:=by
 intro r g w a hr hR hF;refine wpIn_seq (wpIn_mono (h r g w a hr hR hF) fun e a' w' ⟨g',fr',H',s,hR',hF',hq⟩=>?_)
 cases e with
 |normal=>exact wpIn_mono (hq r g' w' a' (hr.mono s) hR' hF') fun _ _ _=>WV.later s
 |_=>exact⟨g',fr',H',s,hR',hF',hq⟩
theorem Aa.cond {c:Operand}{x y:Code}{t:Bool}(hc:ev fr c= .bool t)(h1:t=true→Aa P nt rd x fr H Q)(h2:t=false→Aa P nt rd y fr H Q):Aa P nt rd (.cond c x y) fr H Q:=by
 intro r g w a hr hR hF;have hv:=F5 hR hF.s c
 rw[hc]at hv
 refine wpIn_cond hv.bool_inv ?_;cases t
 ·exact h2 rfl r g w a hr hR hF
 exact h1 rfl r g w a hr hR hF
theorem Aa.block {id:Nat} {c:Code} (h:Aa P nt rd c fr H fun e fr' H'=>match e with| .exit id'=>if id'=id then Q .normal fr' H' else Q (.exit id') fr' H'|e=>Q e fr' H'):Aa P nt rd (.block id c) fr H Q:=by
 intro r g w a hr hR hF;refine wpIn_block (wpIn_mono (h r g w a hr hR hF) fun e a' w' ⟨g',fr',H',s,hR',hF',hq⟩=>?_)
 cases e with
 |exit id'=>
  simp only[Exit.inBlock]
  grind[WV]
 |_=>exact⟨g',fr',H',s,hR',hF',hq⟩
theorem Aa.loopN {c:Code} (I:Nat→Fr→A5→Prop) (n0:Nat) (h0:I n0 fr H)
 (round:∀n fr H,I n fr H→Aa P nt rd c fr H fun e fr' H'=>match e with| .normal=>∃n',n'<n∧I n' fr' H'|e=>Q e fr' H'):Aa P nt rd (.loop c) fr H Q:=by
 intro r g w a hr hR hF;intro b k cs hro hb hrm
 have key:∀n fr H,I n fr H→∀g' w' a,Y7 g w g' w'→Rl g' H w'→FR nt g' w' a fr→
  ∃e a' w2,WV nt g w Q e a' w2∧ArrivesIn (Machine.fenced P (Fw r)) P (lone (b.atR a (.code c:: .inLoop c::k)) cs w') b k cs e a' w2:=by
  intro n
  induction n using Nat.strongRecOn with
  | _ n ih=>
   intro fr H hI g' w' a s hR hF;obtain⟨e,a₁,w₁,⟨g1,fr1,H1,s1,hR1,hF1,hq⟩,harr⟩:=round n fr H hI r g' w' a (hr.mono s) hR hF b (.inLoop c::k) cs hro hb hrm
   cases e with
   |normal=>
    obtain⟨n',hlt,hI₁⟩:=hq;obtain⟨e₂,a₂,w₂,hq₂,harr₂⟩:=ih n' hlt fr1 H1 hI₁ g1 w₁ a₁ (s.trans s1) hR1 hF1;exact⟨e₂,a₂,w₂,hq₂,.of_steps (StepsIn.trans harr (.one (fenced_calm hb hrm rfl) stepR_inLoop)) harr₂⟩
   |exit id=>exact⟨_,a₁,w₁,⟨g1,fr1,H1,s.trans s1,hR1,hF1,hq⟩,.pass (x:=.inLoop c) rfl (fun _ _=>.inl (by simp)) harr⟩
   |goto l=>exact⟨_,a₁,w₁,⟨g1,fr1,H1,s.trans s1,hR1,hF1,hq⟩,.pass (x:=.inLoop c) rfl (fun _ _=>.inl (by simp)) harr⟩
   |ret=>exact⟨_,a₁,w₁,⟨g1,fr1,H1,s.trans s1,hR1,hF1,hq⟩,.pass (x:=.inLoop c) rfl (fun _ _=>.inl (by simp)) harr⟩
   |panic ch=>exact⟨_,a₁,w₁,⟨g1,fr1,H1,s.trans s1,hR1,hF1,hq⟩,.pass (x:=.inLoop c) rfl (fun _ _=>.inl (by simp)) harr⟩
   |outgrown=>exact⟨_,a₁,w₁,⟨g1,fr1,H1,s.trans s1,hR1,hF1,hq⟩,.pass (x:=.inLoop c) rfl (fun _ _=>.inl (by simp)) harr⟩
 obtain⟨e,a',w',hq,harr⟩:=key _ fr H h0 g w a (Y7.refl _ _) hR hF;exact⟨e,a',w',hq,.of_steps (.one (fenced_calm hb hrm rfl) stepR_loop) harr⟩
theorem Aa.loop {c:Code} (I:Fr→A5→Prop) (μ:Fr→A5→Nat) (h0:I fr H)
 (round:∀fr H,I fr H→Aa P nt rd c fr H fun e fr' H'=>match e with| .normal=>I fr' H'∧μ fr' H'<μ fr H|e=>Q e fr' H'):Aa P nt rd (.loop c) fr H Q:=
 Aa.loopN (fun n fr H=>I fr H∧μ fr H=n) _ ⟨h0,rfl⟩ fun n fr H ⟨hI,hn⟩=>(round fr H hI).mono fun e fr' H' hq=>by
  grind
theorem Aa.less {c:Code}{fr':Fr}{H':A5}(h:Aa P nt rd c fr' H' Q)(hs:∀t,Wk (fr.s t) (fr'.s t))(hd:fr'.df=fr.df)(hl:∀id b,H' id=some b→H id=some b):Aa P nt rd c fr H Q:=by
 intro r g w a hr hR hF;refine h r g w a hr (hR.less hl) ⟨hF.size,fun t=>hs t _ _ _ (hF.s t),?_⟩;rw[hd];exact hF.df
theorem Aa.freeze {c:Code} {t id off:Nat} {cs:List V} (ht:fr.s t= .ref id off) (hk:H id=some (.cells cs)) (h:Aa P nt rd c (fr.put (some t) (.eref cs off)) (upd H id none) Q):Aa P nt rd c fr H Q:=by
 intro r g w a hr hR hF;obtain⟨g',s,hR',hv⟩:=hR.freeze hk;refine wpIn_mono (h r g' w a (hr.mono s) hR' ?_) fun _ _ _=>WV.later s;have hF':=hF.mono s;refine⟨hF'.size,fun x=>?_,hF'.df⟩;simp only[Fr.put]
 split
 ·rename_i e;subst e;have:=hF.s x
  rw[ht]at this
  simp_all
 exact hF'.s x
end
end Go.Ab
