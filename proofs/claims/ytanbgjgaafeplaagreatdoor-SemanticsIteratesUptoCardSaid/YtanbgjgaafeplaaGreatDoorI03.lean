/- AbN0 AbN1 AbN2 AbN3 AbA11 AbA12 -/
import Derived.Test.YtanbgjgaafeplaaGreatDoorI02
import Derived.MapKept
import Derived.DeepKeys4
import Derived.RangeFuncRecord
import Derived.Laws.BytesString
import Derived.Maps.RangeRun
set_option linter.all false
namespace Go.Ab
open Go.MapKept
structure KG (P:Program) (kt:TypeId) (G:Value→Prop):Prop where
 check:∀(w:World) (em:Bool) {v:Value},G v→(Instr.checkKey em 10000 kt v).run P w= .ok () w
 find:∀(w:World) {x:Value},G x→∀es:List MapEntry,(∀e∈es,G e.key)→
  ((Instr.findKey kt x es).run P w= .ok none w∧∀e∈es,e.key≠x)∨∃j e,(Instr.findKey kt x es).run P w= .ok (some (j,e.val)) w∧es[j]? =some e∧e.key=x
 stays:∀(w:World) {v:Value},G v→(Instr.keyThatStays v v).run P w= .ok v w
theorem KG.scalar {P:Program} {kt:TypeId} {d:TypeDesc} (hd:P.underlying kt=some d):KG P kt (IsKey d) where
 check:=fun w em v h=>run_checkKey hd h em 9999
 find:=fun w x hx es h=>by
  rcases findNow_spec hx es 0 h with⟨h1,h2⟩|⟨j,e,h1,h2,h3⟩
  ·exact .inl ⟨run_findKey hd h1,h2⟩
  exact .inr ⟨j,e,by rw[run_findKey hd h1,Nat.zero_add],h2,h3⟩
 stays:=fun w v h=>run_keyThatStays h
section
variable {P:Program}{kt el n:Nat}{k:IntKind}
def IM (k:IntKind)(n:Nat)(v:Value):Prop:=∃l:List Int,l.length=n∧v= .agg (l.map (Value.int k)).toArray
end
section
variable {P:Program}{kt n:Nat}{k:IntKind}
structure PN (P:Program) (k:IntKind) (n:Nat) (fs:List Field):Prop where
 all:∀f∈fs,f.name≠ "_" ∧P.underlying f.type=some (.int k)∧f.offset<n
 cov:∀i,i<n→∃f∈fs,f.offset=i
theorem Mg (w:World){e:TypeId}(he:P.underlying e=some (.int k)){xs:List Int}{i:Nat}(hi:i<xs.length):(part e (xs.map (Value.int k)).toArray i).run P w= .ok (.int k (xs[i])) w:=
 run_part_plain w (by simp[Program.plainKey,he]) (by simp[hi])
theorem HY (w:World) (d:Nat) {xs ys:List Int} (hl:ys.length=xs.length):∀fs:List Field,(∀f∈fs,f.name≠ "_" ∧P.underlying f.type=some (.int k)∧f.offset<xs.length)→
 ∃r:Bool,(Op.eqFields (d+1) (xs.map (Value.int k)).toArray (ys.map (Value.int k)).toArray fs).run P w= .ok r w∧(r=true↔∀f∈fs,xs[f.offset]? =ys[f.offset]?)
 |[],_=>⟨true,by simp[Op.eqFields],by simp⟩
 |f::fs,h=>by
  obtain⟨hn,he,hi⟩:=h f (.head _)
  have hj:f.offset<ys.length:=by omega
  obtain⟨r,hr,hiff⟩:=HY w d hl fs fun g hg=>h g (.tail _ hg);have p1:=Mg w he hi;have p2:=Mg (xs:=ys) w he hj;simp only[Op.eqFields,hn,ne_eq,not_false_eq_true,if_true,Sem.run_bind,p1,p2,Result.andThen_ok,run_equalIn_int w d f.type k k _ _ he];have e1:xs[f.offset]? =some xs[f.offset]:=List.getElem?_eq_getElem hi;have e2:ys[f.offset]? =some ys[f.offset]:=List.getElem?_eq_getElem hj
  by_cases hx:xs[f.offset]=ys[f.offset]
  ·refine⟨r,by simpa[hx]using hr,?_⟩;rw[hiff];simp[e1,e2,hx]
  exact⟨false,by simp[hx],by simp[e1,e2,hx]⟩
theorem TC (w:World) (hd:P.underlying kt=some (.struct (P.fieldsOf kt))) (hs:P.stoodInHeld kt=false) (hf:PN P k n (P.fieldsOf kt).toList) {a b:Value} (ha:IM k n a) (hb:IM k n b):
 ∃r:Bool,(Op.equal kt a b).run P w= .ok r w∧(r=true↔b=a):=by
 obtain⟨xs,hx,rfl⟩:=ha;obtain⟨ys,hy,rfl⟩:=hb;obtain⟨r,hr,hiff⟩:=HY (P:=P) w 9998 (xs:=xs) (ys:=ys) (by omega) (P.fieldsOf kt).toList (fun f h=>by rw[hx];exact hf.all f h);refine⟨r,?_,?_⟩
 ·exact(run_equalIn_struct w 9999 kt (xs.map (Value.int k)).toArray (ys.map (Value.int k)).toArray hd hs).trans hr
 rw[hiff]
 constructor
 ·intro h
  have:xs=ys:=by
   apply List.ext_getElem?;intro j
   by_cases hj:j<n
   ·obtain⟨f,hfm,e⟩:=hf.cov j hj;rw[←e];exact h f hfm
   rw[List.getElem?_eq_none (by omega),List.getElem?_eq_none (by omega)]
  rw[this]
 intro h
 have h2:(ys.map (Value.int k))=xs.map (Value.int k):=by simpa using h
 have:ys=xs:=by
  apply List.ext_getElem?;intro j;have:=congrArg (fun l=>l[j]?) h2
  simp only[List.getElem?_map]at this
  cases h3:ys[j]? <;>cases h4:xs[j]? <;>simp_all
 intro i _;rw[this]
theorem Gj (w:World) (hd:P.underlying kt=some (.struct (P.fieldsOf kt))) (hs:P.stoodInHeld kt=false) (hf:PN P k n (P.fieldsOf kt).toList) {x:Value} (hx:IM k n x):∀(es:List MapEntry) (i:Nat),(∀e∈es,IM k n e.key)→
 ((Instr.findAsking kt x es i).run P w= .ok none w∧∀e∈es,e.key≠x)∨∃j e,(Instr.findAsking kt x es i).run P w= .ok (some (i+j,e.val)) w∧es[j]? =some e∧e.key=x
 |[],i,_=>.inl ⟨by simp[Instr.findAsking],by simp⟩
 | e::es,i,h=>by
  obtain⟨r,hr,hiff⟩:=TC w hd hs hf hx (h e (.head _))
  cases r with
  |true=>exact .inr ⟨0,e,by simp[Instr.findAsking,hr],rfl,hiff.1 rfl⟩
  | false=>
   have hne:e.key≠x:=fun q=>by have:=hiff.2 q;cases this
   rcases Gj w hd hs hf hx es (i+1) (fun y hy=>h y (.tail _ hy))with⟨h1,h2⟩|⟨j,e',h1,h2,h3⟩
   ·refine .inl ⟨by simp[Instr.findAsking,hr,h1],fun y hy=>?_⟩
    rcases List.mem_cons.1 hy with rfl|hy
    ·exact hne
    exact h2 y hy
   exact .inr ⟨j+1,e',by simp[Instr.findAsking,hr,h1,Nat.add_assoc,Nat.add_comm 1 j],by simpa using h2,h3⟩
theorem KG.flds (hd:P.underlying kt=some (.struct (P.fieldsOf kt))) (hs:P.stoodInHeld kt=false) (hf:PN P k n (P.fieldsOf kt).toList):KG P kt (IM k n) where
 check:=fun w em v hv=>by
  obtain⟨xs,hx,rfl⟩:=hv;rw[Instr.checkKey];simp only[Sem.run_bind,run_underlying hd,Result.andThen_ok];rw[←Array.forIn_toList];have hj:=hf.all
  generalize (P.fieldsOf kt).toList=is at hj
  induction is with
  |nil=>simp
  |cons f is ih=>
   obtain⟨hn,he,hi⟩:=hj f (.head _);have p1:=Mg (P:=P) (xs:=xs) w he (i:=f.offset) (by omega);have p2:(Instr.checkKey em 9999 f.type (.int k (xs[f.offset]'(by omega)))).run P w= .ok () w:=run_checkKey (k:=.int k (xs[f.offset]'(by omega))) he rfl em 9998;simp only[List.forIn_cons,Sem.run_bind,hn,ne_eq,not_false_eq_true,if_true,Result.andThen_ok,p1,p2,Sem.run_pure];exact ih fun y hy=>hj y (.tail _ hy)
 find:=fun w x hx es h=>by
  rw[run_findKey_eq w (k:=kt) (by simp[hd])]
  simpa using Gj w hd hs hf hx es 0 h
 stays:=fun w v hv=>by
  obtain⟨xs,_,rfl⟩:=hv
  have e:∀l:List Int,((l.map (Value.int k)).zip (l.map (Value.int k))).all (fun x=>Instr.sameBits 9999 x.1 x.2)=true:=by
   intro l
   induction l with
   |nil=>rfl
   |cons a l ih=>simp only[List.map_cons,List.zip_cons_cons,List.all_cons,ih,Bool.and_true];simp[Instr.sameBits]
  have h2:Instr.sameBits 10000 (.agg (xs.map (Value.int k)).toArray) (.agg (xs.map (Value.int k)).toArray)=true:=by
   rw[Instr.sameBits]
   simpa using e xs
  simp[Instr.keyThatStays,h2]
end
end Go.Ab
namespace Go.Ab
open Go.RowKit Go.MapKept
variable [I5]
def GN :V→Option Value
 | .bool b=>some (.bool b)
 | .int k n=>some (.int k n)
 | .str s=>some (.string s)
 |_=>none
def FF :List V→Option (List Value)
 |[]=>some []
 |x::l=>match GN x,FF l with|some v,some r=>some (v::r)|_,_=>none
def Bb :V→Option Value
 | .agg cs=>(FF cs).map fun l=>.agg l.toArray
 |v=>GN v
theorem QO {g:Gh}{w:World}{x:V}{u v:Value}(h:GN x=some u)(hv:VR g w v x):v=u:=by
 cases x<;>simp only[GN,Option.some.injEq,reduceCtorEq]at h<;>subst h<;>cases hv<;>rfl
theorem QN {g:Gh}{w:World}{x:V}{u:Value}(h:GN x=some u):VR g w u x:=by
 cases x<;>simp only[GN,Option.some.injEq,reduceCtorEq]at h<;>subst h<;>constructor
theorem Xw {x:V}{u:Value}(h:GN x=some u):u.oneCell'=true:=by
 cases x<;>simp only[GN,Option.some.injEq,reduceCtorEq]at h<;>subst h<;>rfl
theorem QP {x y:V}{u:Value}(h:GN x=some u)(h':GN y=some u):x=y:=by
 cases x<;>simp only[GN,Option.some.injEq,reduceCtorEq]at h<;>subst h<;>cases y<;>simp_all[GN]
theorem LX :∀{l:List V} {r:List Value},FF l=some r→r.length=l.length
 |[],r,h=>by simp only[FF,Option.some.injEq]at h;subst h;rfl
 |x::l,r,h=>by
  unfold FF at h
  split at h
  ·rename_i v r' h1 h2;cases h;simp[LX h2]
  cases h
theorem Lg :∀{l:List V} {r:List Value},FF l=some r→∀i,i<l.length→GN (l.getD i .bad)=some (r.getD i undef)
 |[],r,h,i,hi=>by simp at hi
 | x::l,r,h,i,hi=>by
  unfold FF at h
  split at h
  ·rename_i v r' h1 h2;cases h
   cases i with
   |zero=>simpa using h1
   |succ i=>simpa using Lg h2 i (by simpa using hi)
  cases h
theorem Xv {g:Gh} {w:World} {x:V} {u:Value} (h:Bb x=some u):VR g w u x:=by
 unfold Bb at h
 split at h
 ·rename_i cs
  cases hr:FF cs with
  |none=>rw[hr]at h;cases h
  |some r=>
   rw[hr]at h
   simp only[Option.map_some,Option.some.injEq]at h
   subst h;have e:=LX hr;refine .agg (by simp[e]) (fun i hi=>?_) fun i hi=>?_
   ·have:=Xw (Lg hr i hi);simpa[Array.getD_eq_getD_getElem?,List.getD_eq_getElem?_getD]using this
   have:=QN (g:=g) (w:=w) (Lg hr i hi);simpa[Array.getD_eq_getD_getElem?,List.getD_eq_getElem?_getD]using this
 exact QN h
theorem LW {g:Gh} {w:World} {x:V} {u v:Value} (h:Bb x=some u) (hv:VR g w v x):v=u:=by
 unfold Bb at h
 split at h
 ·rename_i cs
  cases hr:FF cs with
  |none=>rw[hr]at h;cases h
  | some r=>
   rw[hr]at h
   simp only[Option.map_some,Option.some.injEq]at h
   subst h;have e:=LX hr
   cases hv with
   |agg hl h1 hv=>
    rename_i vs
    congr 1
    apply Array.ext
    ·simp[hl,e]
    intro i hi hi'
    have hi2:i<cs.length:=by omega
    have:=QO (Lg hr i hi2) (hv i hi2)
    simpa[Array.getD,hi,List.getD_eq_getElem?_getD,show i<r.length by omega]using this
 exact QO h hv
def JL (es:Array MapEntry)(clock:Nat):Prop:=(∀x∈es.toList,x.born<clock)∧(es.toList.map (·.born)).Nodup
theorem JL.empty :JL #[] 0:=⟨fun x h=>by simp at h,by simp⟩
theorem JL.push {es:Array MapEntry} {clock:Nat} (h:JL es clock) (k v:Value):JL (es.push {key:=k,val:=v,born:=clock}) (clock+1):=by
 refine⟨fun x hx=>?_,?_⟩
 ·simp only[Array.toList_push,List.mem_append,List.mem_singleton]at hx
  rcases hx with hx|rfl
  ·exact Nat.lt_succ_of_lt (h.1 x hx)
  exact Nat.lt_succ_self _
 simp only[Array.toList_push,List.map_append,List.map_cons,List.map_nil];refine List.nodup_append.2 ⟨h.2,by simp,fun x hx z hz=>?_⟩
 simp at hz;subst hz
 obtain⟨e,he,rfl⟩:=List.mem_map.1 hx;have:=h.1 e he;omega
theorem JL.modify {es:Array MapEntry} {clock:Nat} (h:JL es clock) (i:Nat) (k v:Value):JL (es.modify i fun e=>{e with key:=k,val:=v}) clock:=by
 have hb:(es.modify i fun e=>{e with key:=k,val:=v}).toList.map (·.born)=es.toList.map (·.born):=by
  apply List.ext_getElem?;intro j;simp only[List.getElem?_map,Array.getElem?_toList,Array.getElem?_modify]
  by_cases hij:i=j
  ·subst hij;cases es[i]? <;>simp
  rw[if_neg hij]
 refine⟨fun x hx=>?_,by rw[hb];exact h.2⟩
 have:x.born∈es.toList.map (·.born):=by rw[←hb];exact List.mem_map.2 ⟨x,hx,rfl⟩
 obtain⟨y,hy,e⟩:=List.mem_map.1 this;rw[←e];exact h.1 y hy
theorem JL.sub {es es':Array MapEntry}{clock:Nat}(h:JL es clock)(hs:es'.toList.Sublist es.toList):JL es' clock:=⟨fun x hx=>h.1 x (hs.subset hx),(hs.map _).nodup h.2⟩
theorem QR :∀{l l':List V} {r:List Value},FF l=some r→FF l'=some r→l=l'
 |[],l',r,h,h'=>by
  simp only[FF,Option.some.injEq]at h;subst h
  cases l' with
  |nil=>rfl
  |cons x l=>unfold FF at h';split at h'<;>cases h'
 | x::l,l',r,h,h'=>by
  unfold FF at h
  split at h
  ·rename_i v r' h1 h2;cases h
   cases l' with
   |nil=>cases h'
   |cons y l'=>
    unfold FF at h'
    split at h'
    ·rename_i v2 r2 h3 h4;cases h';rw[QP h1 h3,QR h2 h4]
    cases h'
  cases h
theorem QQ {x:V}{u:Value}(h:GN x=some u)(c:Array Value):u≠ .agg c:=by
 cases x<;>simp only[GN,Option.some.injEq,reduceCtorEq]at h<;>subst h<;>simp
theorem Ir {x:V} {u:Value} (h:Bb x=some u):(∃cs r,x= .agg cs∧FF cs=some r∧u= .agg r.toArray)∨GN x=some u:=by
 unfold Bb at h
 split at h
 ·rename_i cs
  cases hr:FF cs with
  |none=>rw[hr]at h;cases h
  |some r=>rw[hr]at h;exact .inl ⟨cs,r,rfl,hr,(Option.some.inj h).symm⟩
 exact .inr h
theorem QM {x y:V} {u:Value} (h:Bb x=some u) (h':Bb y=some u):x=y:=by
 rcases Ir h with⟨a,r,rfl,h1,rfl⟩|h1
 ·rcases Ir h' with⟨b,r2,rfl,h2,e⟩|h2
  ·have:r=r2:=by simpa using e
   subst this;rw[QR h1 h2]
  exact absurd rfl (QQ h2 _)
 rcases Ir h' with⟨b,r2,rfl,h2,rfl⟩|h2
 ·exact absurd rfl (QQ h1 _)
 exact QP h1 h2
def CN :TypeDesc→Value→Prop
 | .array n _,v=>IM .i64 n v
 | .struct fs,v=>IM .i64 fs.size v
 |d,v=>IsKey d v
structure AH (d:TypeDesc) (o:Obj) (m:List (V×V)):Prop where
 ex:∃es clock,o= .map es clock∧es.toList.map (fun e=>(some e.key,some e.val))=m.map fun p=>(Bb p.1,Bb p.2)
 keys:∀p∈m,∃k,Bb p.1=some k∧CN d k
 nodup:(m.map (·.1)).Nodup
 st:∀es clock,o= .map es clock→JL es clock
theorem AH.empty (d:TypeDesc):AH d (.map #[] 0) []:=⟨⟨_,_,rfl,rfl⟩,fun p h=>(by cases h),List.nodup_nil,fun es clock h=>by cases h;exact JL.empty⟩
theorem HE {α:Type}{l:List α}(h:l.Nodup){i j:Nat}(hi:i<l.length)(hj:j<l.length)(e:l[i]=l[j]):i=j:=by
 have h:=List.pairwise_iff_getElem.1 h
 rcases Nat.lt_trichotomy i j with h1|h1|h1
 ·exact absurd e (h i j hi hj h1)
 ·exact h1
 exact absurd e.symm (h j i hj hi h1)
def Af9 (P:Program)(et:TypeId)(m:List (V×V))(key:V)(ok:Bool)(v:V):Prop:=
 ((∀p∈m,p.1≠key)∧∃z,Gy P et=some z∧v=if ok=true then .tup [z,.bool false]else z)∨∃y,(key,y)∈m∧v=if ok=true then .tup [y,.bool true]else y
def ZY (P:Program)(H:A2)(t:TypeId)(x key:V)(ok:Bool)(v:V):Prop:=
 ∃kt et d kv id o m,P.underlying t=some (.map kt et)∧KG P kt (CN d)∧Bb key=some kv∧CN d kv∧x= .map id∧H id=some (.obj o)∧AH d o m∧Af9 P et m key ok v
def UA (P:Program)(t:TypeId)(x key:V)(ok:Bool)(v:V):Prop:=
 ∃kt et ks xs n,P.underlying t=some (.map kt et)∧P.underlying kt=some (.int .i64)∧x= .fmap ks xs∧key= .int .i64 n∧ok=false∧((∃i:Nat,ks[i]? =some n∧v=xs.getD i .bad)∨((∀k∈ks,k≠n)∧Gy P et=some v))
def Jn (P:Program)(H:A2)(t:TypeId)(x key:V)(ok:Bool)(v:V):Prop:=ZY P H t x key ok v∨UA P t x key ok v
def ZW (H:A2)(K:V→A2→Prop):Prop:=(∀id,H id=none→K (.map id) (upd H id (some (.obj (.map #[] 0)))))∨∀id,H id=none→K (.map id) (upd H id (some (.fm [] [])))
def TW (P:Program)(H:A2)(K:V→A2→Prop)(t:TypeId)(x key val:V):Prop:=
 ∃kt et ks xs n id,P.underlying t=some (.map kt et)∧P.underlying kt=some (.int .i64)∧x= .map id∧H id=some (.fm ks xs)∧key= .int .i64 n∧(∀k∈ks,k≠n)∧K .bad (upd H id (some (.fm (ks++[n]) (xs++[val]))))
def Al5 (m:List (V×V))(k v:V)(m':List (V×V)):Prop:=
 ((∀p∈m,p.1≠k)∧m'=m++[(k,v)])∨∃a y b,m=a++(k,y)::b∧m'=a++(k,v)::b
def Zk (P:Program) (H:A2) (K:V→A2→Prop) (t:TypeId) (x key val:V):Prop:=
 ∃kt et d kv vv id o m m',P.underlying t=some (.map kt et)∧KG P kt (CN d)∧Bb key=some kv∧CN d kv∧Bb val=some vv∧x= .map id∧H id=some (.obj o)∧AH d o m∧Al5 m key val m'∧
  ∀o',AH d o' m'→K .bad (upd H id (some (.obj o')))
def Ht (P:Program)(H:A2)(K:V→A2→Prop)(t:TypeId)(x key val:V):Prop:=Zk P H K t x key val∨TW P H K t x key val
theorem NW {H:A2}{K K':V→A2→Prop}(h:ZW H K)(hk:∀v H',K v H'→K' v H'):ZW H K':=h.imp (fun h id hid=>hk _ _ (h id hid)) fun h id hid=>hk _ _ (h id hid)
theorem Dz {P:Program}{H:A2}{K K':V→A2→Prop}{t:TypeId}{x key val:V}(h:Ht P H K t x key val)(hk:∀H',K .bad H'→K' .bad H'):Ht P H K' t x key val:=by
 rcases h with⟨kt,et,d,kv,vv,id,o,m,m',h1,h2,h3,h4,h5,h6,h7,h8,h9,h⟩|⟨kt,et,ks,xs,n,id,h1,h2,h3,h4,h5,h6,h⟩
 ·exact .inl ⟨kt,et,d,kv,vv,id,o,m,m',h1,h2,h3,h4,h5,h6,h7,h8,h9,fun o' ho=>hk _ (h o' ho)⟩
 exact .inr ⟨kt,et,ks,xs,n,id,h1,h2,h3,h4,h5,h6,hk _ h⟩
theorem Pp {P:Program}{H H':A2}{t:TypeId}{x key v:V}{ok:Bool}(hl:∀id b,H id=some b→H' id=some b)(h:Jn P H t x key ok v):Jn P H' t x key ok v:=by
 rcases h with⟨kt,et,d,kv,id,o,m,h1,h2,h3,h4,h5,h6,h7⟩|h
 ·exact .inl ⟨kt,et,d,kv,id,o,m,h1,h2,h3,h4,h5,hl _ _ h6,h7⟩
 exact .inr h
theorem AH.entry {d:TypeDesc} {m:List (V×V)} {es:Array MapEntry} (he:es.toList.map (fun e=>(some e.key,some e.val))=m.map fun p=>(Bb p.1,Bb p.2)) (j:Nat):
 (∀e,es[j]? =some e→∃p,m[j]? =some p∧Bb p.1=some e.key∧Bb p.2=some e.val)∧∀p,m[j]? =some p→∃e,es[j]? =some e∧Bb p.1=some e.key∧Bb p.2=some e.val:=by
 have:=congrArg (fun l=>l[j]?) he
 simp only[List.getElem?_map,Array.getElem?_toList]at this
 constructor
 ·intro e h
  rw[h]at this
  cases hm:m[j]? with
  |none=>rw[hm]at this;cases this
  |some p=>rw[hm]at this;simp at this;exact⟨p,rfl,this.1.symm,this.2.symm⟩
 intro p h
 rw[h]at this
 cases hm:es[j]? with
 |none=>rw[hm]at this;cases this
 |some e=>rw[hm]at this;simp at this;exact⟨e,rfl,this.1.symm,this.2.symm⟩
theorem AH.isKeys {d:TypeDesc}{m:List (V×V)}{es:Array MapEntry}(he:es.toList.map (fun e=>(some e.key,some e.val))=m.map fun p=>(Bb p.1,Bb p.2))(hk:∀p∈m,∃k,Bb p.1=some k∧CN d k):∀e∈es.toList,CN d e.key:=by
 intro e h;obtain⟨j,hj,e1⟩:=List.getElem_of_mem h;obtain⟨p,h1,h2,_⟩:=(AH.entry (d:=d) he j).1 e (by rw[←Array.getElem?_toList,List.getElem?_eq_getElem hj,e1]);obtain⟨k,h3,h4⟩:=hk p (List.mem_of_getElem? h1)
 rw[h2]at h3;cases h3;exact h4
theorem KR {w:World}{b:Nat}{o o':Obj}(hw:w.heap[b]? =some o)(hc:Obj.isCells o=false)(hc':Obj.isCells o'=false)(x i:Nat):(w.putObj b o').cell? ⟨x,i,none⟩=w.cell? ⟨x,i,none⟩:=by
 by_cases h:x=b
 ·subst h;have h1:=World.putObj_heap_same (w:=w) (o:=o') (Pi hw);simp only[World.cell?,h1,hw];cases o<;>cases o'<;>simp_all[Obj.isCells]
 exact World.cell?_of_block (w:=w) (a:=⟨x,i,none⟩) (World.putObj_heap_other h)
theorem Rl.putObj {g:Gh} {H:A2} {w:World} (h:Rl g H w) {id b:Nat} {o o':Obj} (hk:H id=some (.obj o)) (hb:g.mu id=some b) (hc':Obj.isCells o'=false):
 T8 g w g (w.putObj b o')∧Rl g (upd H id (some (.obj o'))) (w.putObj b o'):=by
 obtain⟨b',h1,h2,h3,h4⟩:=h.blk id _ hk
 have e:b'=b:=by rw[hb]at h1;exact(Option.some.inj h1).symm
 subst e;have hcell:=KR (o':=o') h3 h4 hc'
 have s:T8 g w g (w.putObj b' o'):=by
  refine⟨fun _ _ e=>e,fun _ _ e=>e,fun _ _ e=>e,rfl,fun b o _=>hcell b o,⟨rfl,rfl,rfl,by simp,fun k hk=>World.putObj_heap_other (by omega)⟩,fun _ _ _=>rfl,Nat.le_refl _⟩
 have hat:∀x,g.at (upd H id (some (.obj o'))) x=g.at H x:=by
  intro x
  by_cases hx:x=id
  ·subst hx;simp[Gh.at,B4,hk]
  simp only[Gh.at,A7 _ _ hx]
 have hid:g.at H id=some b':=by simp[Gh.at,hk,hb]
 refine⟨s,fun x k hx=>?_,fun x x' y h1 h2=>h.inj x x' y (hat x▸h1) (hat x'▸h2),fun y o hf=>?_,fun x hx=>?_,?_,fun n=>(h.glb n).mono s⟩
 ·by_cases hxe:x=id
  ·subst hxe;rw[B4]at hx;cases hx
   exact⟨b',hb,h2,World.putObj_heap_same (Pi h3),hc'⟩
  rw[A7 _ _ hxe]at hx
  refine(h.blk x k hx).mono hx s fun y hy=>⟨World.putObj_heap_other fun e=>?_,fun _ ho=>ho⟩;subst e;exact hxe (h.inj _ _ _ hy hid)
 ·obtain⟨v,hv'⟩:=h.frz y o hf;exact⟨v,(hcell y o).trans hv'⟩
 ·obtain⟨a1,a2,a3⟩:=h.nxt x hx
  have hne:x≠id:=fun e=>by subst e;rw[hk]at a3;cases a3
  exact⟨a1,a2,by rw[A7 _ _ hne];exact a3⟩
 have:=h.bnd;simp;omega
def Es.fixed :Es→Bool
 | .obj _=>true
 | .loop _=>true
 | .iter _ _ _ _=>true
 | .fm _ _=>true
 |_=>false
theorem Ib.fixed {g:Gh}{w:World}{id:Nat}{k:Es}(hk:k.fixed=true)(h:Ib g w id k):∃b o,g.mu id=some b∧g.base≤b∧w.heap[b]? =some o∧Obj.isCells o=false:=by
 cases k with
 |cells _=>cases hk
 |spare=>cases hk
 |obj o=>obtain⟨b,h1,h2,h3,h4⟩:=h;exact⟨b,o,h1,h2,h3,h4⟩
 |loop L=>obtain⟨b,r,h1,h2,h3,_⟩:=h;exact⟨b,_,h1,h2,h3,rfl⟩
 |arr _ _=>cases hk
 |fm ks xs=>obtain⟨b,es,clock,h1,h2,h3,_⟩:=h;exact⟨b,_,h1,h2,h3,rfl⟩
 |iter mid since seen c0=>obtain⟨b,bm,h1,h2,_,h3⟩:=h;exact⟨b,_,h1,h2,h3,rfl⟩
theorem Gh.at_fixed {g:Gh}{H:A2}{id:Nat}{k:Es}(hk:k.fixed=true)(h:H id=some k):g.at H id=g.mu id:=by
 cases k<;>simp_all[Gh.at,Es.fixed]
theorem Rl.putGen {g:Gh} {H:A2} {w:World} (h:Rl g H w) {id b:Nat} {k k':Es} {o':Obj} (hf:k.fixed=true) (hf':k'.fixed=true) (hk:H id=some k) (hb:g.mu id=some b) (hc':Obj.isCells o'=false)
 (hok:T8 g w g (w.putObj b o')→(w.putObj b o').heap[b]? =some o'→g.base≤b→Ib g (w.putObj b o') id k'):
 T8 g w g (w.putObj b o')∧Rl g (upd H id (some k')) (w.putObj b o'):=by
 obtain⟨b',o,h1,h2,h3,h4⟩:=(h.blk id _ hk).fixed hf
 have e:b'=b:=by rw[hb]at h1;exact(Option.some.inj h1).symm
 subst e;have hcell:=KR (o':=o') h3 h4 hc'
 have s:T8 g w g (w.putObj b' o'):=by
  refine⟨fun _ _ e=>e,fun _ _ e=>e,fun _ _ e=>e,rfl,fun b o _=>hcell b o,⟨rfl,rfl,rfl,by simp,fun k hk=>World.putObj_heap_other (by omega)⟩,fun _ _ _=>rfl,Nat.le_refl _⟩
 have hat:∀x,g.at (upd H id (some k')) x=g.at H x:=by
  intro x
  by_cases hx:x=id
  ·subst hx;rw[Gh.at_fixed hf' (B4 _ _ _),Gh.at_fixed hf hk]
  simp only[Gh.at,A7 _ _ hx]
 have hid:g.at H id=some b':=by rw[Gh.at_fixed hf hk,hb]
 refine⟨s,fun x k hx=>?_,fun x x' y h1 h2=>h.inj x x' y (hat x▸h1) (hat x'▸h2),fun y o hf=>?_,fun x hx=>?_,?_,fun n=>(h.glb n).mono s⟩
 ·by_cases hxe:x=id
  ·subst hxe;rw[B4]at hx;cases hx
   exact hok s (World.putObj_heap_same (Pi h3)) h2
  rw[A7 _ _ hxe]at hx
  refine(h.blk x k hx).mono hx s fun y hy=>⟨World.putObj_heap_other fun e=>?_,fun _ ho=>ho⟩;subst e;exact hxe (h.inj _ _ _ hy hid)
 ·obtain⟨v,hv'⟩:=h.frz y o hf;exact⟨v,(hcell y o).trans hv'⟩
 ·obtain⟨a1,a2,a3⟩:=h.nxt x hx
  have hne:x≠id:=fun e=>by subst e;rw[hk]at a3;cases a3
  exact⟨a1,a2,by rw[A7 _ _ hne];exact a3⟩
 have:=h.bnd;simp;omega
section
variable {P:Program}{o:Oper}{fr:Fr}{H:A2}{K:V→A2→Prop}
theorem Qx {t:TypeId}(ho:o.op= .makeMap t none)(h:∀id,H id=none→K (.map id) (upd H id (some (.obj (.map #[] 0))))):F4 P o fr H K:=by
 intro g w a hR hE;have s:=T8.new hR (.map #[] 0) False 0;have r:=hR.newNamed (.map #[] 0) (.obj (.map #[] 0)) (by simp) ⟨w.heap.size,by simp[Gh.new],hR.bnd,Ci,rfl⟩;unfold execOp;rw[ho];simp only[Option.map_none,Instr.makeMap,Sem.run_bind,Sem.run_pure,run_newObj,Result.andThen_ok,F9];exact⟨_,_,_,s,r,.map (by simp[Gh.new]),h g.nx (hR.nxt _ (Nat.le_refl _)).2.2⟩
theorem KH {g:Gh}{w:World}{v:Value}{n:Int}(h:VR g w v (.int .i64 n)):v= .int .i64 n:=by cases h;rfl
theorem Yv {es:Array MapEntry}{ks:List Int}(hk:es.toList.map (·.key)=ks.map (Value.int .i64)){j:Nat}{e:MapEntry}(he:es[j]? =some e):∃k,ks[j]? =some k∧e.key= .int .i64 k:=by
 have:=congrArg (fun l=>l[j]?) hk
 simp only[List.getElem?_map,Array.getElem?_toList,he,Option.map_some]at this
 cases hj:ks[j]? with
 |none=>rw[hj]at this;cases this
 |some k=>rw[hj]at this;exact⟨k,rfl,by simpa using this⟩
theorem UJ {es:Array MapEntry}{ks:List Int}(hk:es.toList.map (·.key)=ks.map (Value.int .i64)):∀e∈es.toList,IsKey (.int .i64) e.key:=by
 intro e he;obtain⟨j,hj,e1⟩:=List.getElem_of_mem he;obtain⟨k,_,h2⟩:=Yv hk (j:=j) (e:=e) (by rw[←Array.getElem?_toList,List.getElem?_eq_getElem hj,e1]);rw[h2];rfl
theorem Qz {t:TypeId} {x y:Operand} {ok:Bool} {v:V} (ho:o.op= .lookup t x y ok) (hl:UA P t (ev fr x) (ev fr y) ok v) (h:K v H):F4 P o fr H K:=by
 intro g w a hR hE;obtain⟨kt,et,ks,xs,n,h1,h2,h3,h4,rfl,h5⟩:=hl;have hx:=D2 hR hE x;have hy:=D2 hR hE y
 rw[h4]at hy
 have hy:=KH hy
 rw[h3]at hx
 generalize hav:a.eval x=xv at hx
 cases hx with
 | fmap hb hw hk hn hlen hv=>
  rename_i b es clock;have hks:=UJ hk;have hIs:IsKey (.int .i64) (Value.int .i64 n):=rfl;unfold execOp;rw[ho];simp only[hav,hy,Instr.lookup,Sem.run_bind,run_underlying h1,Result.andThen_ok,Go.MapKept.run_getObj_map hw,Sem.run_pure,run_checkKey h2 hIs]
  rcases findNow_spec hIs es.toList 0 hks with⟨f1,f2⟩|⟨j,e,f1,f2,f3⟩
  ·simp only[run_findKey h2 f1,Result.andThen_ok]
   rcases h5 with⟨i,q1,q2⟩|⟨q1,q2⟩
   ·exfalso;have:=congrArg (fun l=>l[i]?) hk
    simp only[List.getElem?_map,Array.getElem?_toList,q1,Option.map_some]at this
    cases he:es[i]? with
    |none=>rw[he]at this;cases this
    |some e=>rw[he]at this;exact f2 e (Array.mem_toList_iff.2 (Array.mem_of_getElem? he)) (by simpa using this)
   obtain⟨zv,ez,hz⟩:=Dy q2
   have hzr:VR g w zv v:=by rw[ez];exact Ek g w zv
   simp only[Sem.run_bind,hz,Result.andThen_ok,Sem.run_pure,F9];exact J6.here hR hzr h
  simp only[run_findKey h2 f1,Result.andThen_ok,Sem.run_pure,F9]
  have f2':es[j]? =some e:=by simpa using f2
  obtain⟨k,g1,g2⟩:=Yv hk f2'
  have hkn:k=n:=by rw[f3]at g2;simpa using g2.symm
  subst hkn;have hvr:=hv j e f2'
  rcases h5 with⟨i,q1,q2⟩|⟨q1,q2⟩
  ·have hj:j<ks.length:=by
    rcases Nat.lt_or_ge j ks.length with h'|h'
    ·exact h'
    rw[List.getElem?_eq_none h']at g1;cases g1
   have hi:i<ks.length:=by
    rcases Nat.lt_or_ge i ks.length with h'|h'
    ·exact h'
    rw[List.getElem?_eq_none h']at q1;cases q1
   have:i=j:=HE hn hi hj (by rw[List.getElem?_eq_getElem hi]at q1;rw[List.getElem?_eq_getElem hj]at g1;rw[Option.some.inj q1,Option.some.inj g1]);subst this
   rw[←q2]at hvr
   exact J6.here hR hvr h
  exact absurd rfl (q1 k (List.mem_of_getElem? g1))
theorem OT {t:TypeId}(ho:o.op= .makeMap t none)(h:∀id,H id=none→K (.map id) (upd H id (some (.fm [] [])))):F4 P o fr H K:=by
 intro g w a hR hE;have s:=T8.new hR (.map #[] 0) False 0;have r:=hR.newNamed (.map #[] 0) (.fm [] []) (by simp) ⟨w.heap.size, #[],0,by simp[Gh.new],hR.bnd,Ci,rfl,List.nodup_nil,rfl,fun i e hi=>by simp at hi⟩;unfold execOp;rw[ho];simp only[Option.map_none,Instr.makeMap,Sem.run_bind,Sem.run_pure,run_newObj,Result.andThen_ok,F9];exact⟨_,_,_,s,r,.map (by simp[Gh.new]),h g.nx (hR.nxt _ (Nat.le_refl _)).2.2⟩
theorem LL {t:TypeId} {x y z:Operand} (ho:o.op= .mapUpdate t x y z∨o.op= .insert t x y z) (hl:TW P H K t (ev fr x) (ev fr y) (ev fr z)):F4 P o fr H K:=by
 intro g w a hR hE;obtain⟨kt,et,ks,xs,n,id,h1,h2,h3,h4,h5,h6,h⟩:=hl;have hx:=D2 hR hE x;have hy:=D2 hR hE y;have hz:=D2 hR hE z
 rw[h5]at hy
 have hy:=KH hy
 rw[h3]at hx
 generalize hav:a.eval x=xv at hx
 cases hx with
 | map hm=>
  rename_i b;obtain⟨b',es,clock,k1,k2,k3,k4,k5,k6,k7⟩:=hR.blk id _ h4
  rw[hm]at k1;cases k1
  have hks:=UJ k4;have hIs:IsKey (.int .i64) (Value.int .i64 n):=rfl
  have hne:∀e∈es.toList,e.key≠ .int .i64 n:=by
   intro e he hc;obtain⟨j,hj,e1⟩:=List.getElem_of_mem he;obtain⟨k,q1,q2⟩:=Yv k4 (j:=j) (e:=e) (by rw[←Array.getElem?_toList,List.getElem?_eq_getElem hj,e1])
   rw[hc]at q2
   exact h6 k (List.mem_of_getElem? q1) (by simpa using q2.symm)
  rcases findNow_spec hIs es.toList 0 hks with⟨f1,f2⟩|⟨j,e,f1,f2,f3⟩
  ·have hes:es.size=ks.length:=by have:=congrArg List.length k4;simpa using this
   obtain⟨q1,q2⟩:=hR.putGen (k':=.fm (ks++[n]) (xs++[ev fr z])) (o':=.map (es.push {key:=.int .i64 n,val:=a.eval z,born:=clock}) (clock+1)) rfl rfl h4 hm rfl fun s hh hb=>
    ⟨b,_,_,hm,hb,hh,by simp[k4],by
     rw[List.nodup_append];exact⟨k5,by simp,fun x hx y hy=>by simp at hy;subst hy;exact h6 x hx⟩,by simp[k6],fun i e hi=>by
     rw[Array.getElem?_push]at hi
     split at hi
     ·rename_i hie;cases hi
      have:i=xs.length:=by omega
      subst this
      simpa using hz.mono s
     rename_i hie
     have hlt:i<xs.length:=by
      have:=(Array.getElem?_eq_some_iff.1 hi).1;omega
     have:=(k7 i e hi).mono s
     simpa[List.getD_eq_getElem?_getD,List.getElem?_append_left hlt]using this⟩
   have hr:(Instr.mapUpdate t (.map (some b)) (.int .i64 n) (a.eval z)).run P w= .ok () (w.putObj b (.map (es.push {key:=.int .i64 n,val:=a.eval z,born:=clock}) (clock+1))):=by
    simp only[Instr.mapUpdate,Sem.run_bind,run_underlying h1,Result.andThen_ok,Go.MapKept.run_getObj_map k3,run_checkKey h2 hIs,run_findKey h2 f1,run_setObj_map _ k3];rfl
   have hex:(execOp a.eval o).run P w= .ok .skip (w.putObj b (.map (es.push {key:=.int .i64 n,val:=a.eval z,born:=clock}) (clock+1))):=by
    unfold execOp
    rcases ho with ho|ho<;>rw[ho]<;>simp only[hav,hy,Sem.run_bind,hr,Result.andThen_ok,Sem.run_pure]
   rw[hex];exact⟨_,_,_,q1,q2,.bad _,h⟩
  have f2':es[j]? =some e:=by simpa using f2
  exact absurd f3 (hne e (Array.mem_toList_iff.2 (Array.mem_of_getElem? f2')))
theorem SH {t:TypeId} {x y:Operand} {ok:Bool} {v:V} (ho:o.op= .lookup t x y ok) (hl:Jn P H t (ev fr x) (ev fr y) ok v) (h:K v H):F4 P o fr H K:=by
 refine hl.elim (fun hl=>?_) fun hl=>Qz ho hl h;intro g w a hR hE;obtain⟨kt,et,d,kv,id,ob,m,h1,h2,h3,h4,h5,h6,h7,h8⟩:=hl;have hx:=D2 hR hE x;have hy:=LW h3 (D2 hR hE y)
 rw[h5]at hx
 generalize hav:a.eval x=xv at hx
 cases hx with
 | map hm=>
  rename_i b;obtain⟨b',k1,k2,k3,k4⟩:=hR.blk id _ h6
  rw[hm]at k1;cases k1
  obtain⟨⟨es,clock,e1,e2⟩,hk,hn⟩:=h7;subst e1;have hks:=AH.isKeys e2 hk;unfold execOp;rw[ho];simp only[hav,hy,Instr.lookup,Sem.run_bind,run_underlying h1,Result.andThen_ok,Go.MapKept.run_getObj_map k3,Sem.run_pure,(fun em=>h2.check w em h4)]
  rcases h2.find w h4 es.toList hks with⟨f1,f2⟩|⟨j,e,f1,f2,f3⟩
  ·simp only[f1,Result.andThen_ok]
   rcases h8 with⟨q1,z,q2,q3⟩|⟨y',q1,q2⟩
   ·obtain⟨zv,ez,hz⟩:=Dy q2
    have hzr:VR g w zv z:=by rw[ez];exact Ek g w zv
    simp only[Sem.run_bind,hz,Result.andThen_ok,Sem.run_pure,F9];subst q3;cases ok
    ·exact J6.here hR hzr h
    refine J6.here hR (.tup rfl fun i hi=>?_) h
    match i with
    |0=>exact hzr
    |1=>exact .bool _
    |i+2=>simp at hi;omega
   exfalso;obtain⟨i,hi,e⟩:=List.getElem_of_mem q1;obtain⟨en,g1,g2,g3⟩:=(AH.entry (d:=d) e2 i).2 _ (by rw[List.getElem?_eq_getElem hi,e])
   rw[h3]at g2
   exact f2 en (Array.mem_toList_iff.2 (Array.mem_of_getElem? g1)) (Option.some.inj g2).symm
  simp only[f1,Result.andThen_ok,Sem.run_pure,F9]
  have f2':es[j]? =some e:=by simpa using f2
  obtain⟨p,g1,g2,g3⟩:=(AH.entry (d:=d) e2 j).1 e f2';have hpk:p.1=ev fr y:=QM g2 (by rw[h3,f3])
  rcases h8 with⟨q1,_⟩|⟨y',q1,q2⟩
  ·exact absurd hpk (q1 p (List.mem_of_getElem? g1))
  have hpy:p.2=y':=by
   obtain⟨i,hi,e⟩:=List.getElem_of_mem q1
   have hj:j<m.length:=by
    rcases Nat.lt_or_ge j m.length with h'|h'
    ·exact h'
    rw[List.getElem?_eq_none h']at g1;cases g1
   have e3:m[j]=p:=by rw[List.getElem?_eq_getElem hj]at g1;exact Option.some.inj g1
   have:i=j:=HE hn (by simpa using hi) (by simpa using hj) (by simp[e,e3,hpk]);subst this;rw[←e3,e]
  rw[hpy]at g3
  have hvr:VR g w e.val y':=Xv g3;subst q2;cases ok
  ·exact J6.here hR hvr h
  refine J6.here hR (.tup rfl fun i hi=>?_) h
  match i with
  |0=>exact hvr
  |1=>exact .bool _
  |i+2=>simp at hi;omega
theorem AH.set {d:TypeDesc} {m m':List (V×V)} {es:Array MapEntry} {clock:Nat} {key val:V} {kv vv:Value} (h3:Bb key=some kv) (h4:CN d kv) (h5:Bb val=some vv)
 (e2:es.toList.map (fun e=>(some e.key,some e.val))=m.map fun p=>(Bb p.1,Bb p.2)) (hk:∀p∈m,∃k,Bb p.1=some k∧CN d k) (hn:(m.map (·.1)).Nodup) (hst:JL es clock) (hs:Al5 m key val m'):
 ((∀e∈es.toList,e.key≠kv)→AH d (.map (es.push {key:=kv,val:=vv,born:=clock}) (clock+1)) m')∧
 ∀(j:Nat) e,es[j]? =some e→e.key=kv→AH d (.map (es.modify j fun e=>{e with key:=kv,val:=vv}) clock) m':=by
 have key_of:∀(j:Nat) e,es[j]? =some e→e.key=kv→∃y,m[j]? =some (key,y):=fun j e hj hje=>by
  obtain⟨p,g1,g2,g3⟩:=(AH.entry (d:=d) e2 j).1 e hj;have:p.1=key:=QM g2 (by rw[h3,hje]);exact⟨p.2,by rw[g1,←this]⟩
 constructor
 ·intro hne
  rcases hs with⟨q1,rfl⟩|⟨a,y,b,rfl,rfl⟩
  ·refine⟨⟨_,_,rfl,by simp[e2,h3,h5]⟩,fun p hp=>?_,?_,fun es clock h=>by cases h;exact hst.push _ _⟩
   ·rcases List.mem_append.1 hp with hp|hp
    ·exact hk p hp
    simp at hp;subst hp;exact⟨_,h3,h4⟩
   rw[List.map_append];refine List.nodup_append.2 ⟨hn,by simp,fun x hx z hz=>?_⟩
   simp at hz;subst hz
   obtain⟨p,hp,rfl⟩:=List.mem_map.1 hx;exact q1 p hp
  exfalso;obtain⟨e,g1,g2,_⟩:=(AH.entry (d:=d) e2 a.length).2 (key,y) (by simp)
  rw[h3]at g2
  exact hne e (Array.mem_toList_iff.2 (Array.mem_of_getElem? g1)) (Option.some.inj g2).symm
 intro j e hj hje;obtain⟨y0,hm⟩:=key_of j e hj hje
 rcases hs with⟨q1,rfl⟩|⟨a,y,b,rfl,rfl⟩
 ·exact absurd rfl (q1 _ (List.mem_of_getElem? hm))
 have hja:j=a.length:=by
  have hjl:j<(a++(key,y)::b).length:=by
   rcases Nat.lt_or_ge j (a++(key,y)::b).length with h'|h'
   ·exact h'
   rw[List.getElem?_eq_none h']at hm;cases hm
  have e3:(a++(key,y)::b)[j]=(key,y0):=by rw[List.getElem?_eq_getElem hjl]at hm;exact Option.some.inj hm
  exact HE hn (by simpa using hjl) (by simp) (by rw[List.getElem_map,List.getElem_map,e3];simp)
 subst hja;refine⟨⟨_,_,rfl,?_⟩,fun p hp=>?_,?_,fun es clock h=>by cases h;exact hst.modify _ _ _⟩
 ·apply List.ext_getElem?;intro i;simp only[List.getElem?_map,Array.getElem?_toList,Array.getElem?_modify]
  by_cases hi:a.length=i
  ·subst hi;simp[hj,h3,h5]
  rw[if_neg hi];have:=congrArg (fun l=>l[i]?) e2
  simp only[List.getElem?_map,Array.getElem?_toList]at this
  rw[this]
  rcases Nat.lt_or_ge i a.length with h'|h'
  ·rw[List.getElem?_append_left h',List.getElem?_append_left h']
  rw[List.getElem?_append_right h',List.getElem?_append_right h'];obtain⟨q,hq⟩:∃q,i - a.length=q+1:=⟨i - a.length - 1,by omega⟩;rw[hq];rfl
 ·simp only[List.mem_append,List.mem_cons]at hp
  rcases hp with hp|rfl|hp
  ·exact hk p (by simp[hp])
  ·exact⟨_,h3,h4⟩
  exact hk p (by simp[hp])
 simpa using hn
theorem HU {t:TypeId} {x y z:Operand} (ho:o.op= .mapUpdate t x y z∨o.op= .insert t x y z) (hl:Ht P H K t (ev fr x) (ev fr y) (ev fr z)):F4 P o fr H K:=by
 refine hl.elim (fun hl=>?_) fun hl=>LL ho hl;intro g w a hR hE;obtain⟨kt,et,d,kv,vv,id,ob,m,m',h1,h2,h3,h4,h5,h6,h7,h8,h9,h⟩:=hl;have hx:=D2 hR hE x;have hy:=LW h3 (D2 hR hE y);have hz:=LW h5 (D2 hR hE z)
 rw[h6]at hx
 generalize hav:a.eval x=xv at hx
 cases hx with
 | map hm=>
  rename_i b;obtain⟨b',k1,k2,k3,k4⟩:=hR.blk id _ h7
  rw[hm]at k1;cases k1
  obtain⟨⟨es,clock,e1,e2⟩,hk,hn,hst⟩:=h8;subst e1;have hks:=AH.isKeys e2 hk;obtain⟨s1,s2⟩:=AH.set (clock:=clock) h3 h4 h5 e2 hk hn (hst _ _ rfl) h9
  have run:∀o',AH d o' m'→(Instr.mapUpdate t (.map (some b)) kv vv).run P w= .ok () (w.putObj b o')→F9 P (J6 g w K) ((execOp a.eval o).run P w):=by
   intro o' ho' hr;obtain⟨q1,q2⟩:=hR.putObj (o':=o') h7 hm (by obtain⟨⟨_,_,e,_⟩,_⟩:=ho';rw[e];rfl)
   have hex:(execOp a.eval o).run P w= .ok .skip (w.putObj b o'):=by
    unfold execOp
    rcases ho with ho|ho<;>rw[ho]<;>simp only[hav,hy,hz,Sem.run_bind,hr,Result.andThen_ok,Sem.run_pure]
   rw[hex];exact⟨_,_,_,q1,q2,.bad _,h o' ho'⟩
  rcases h2.find w h4 es.toList hks with⟨f1,f2⟩|⟨j,e,f1,f2,f3⟩
  ·refine run _ (s1 f2) ?_;simp only[Instr.mapUpdate,Sem.run_bind,run_underlying h1,Result.andThen_ok,Go.MapKept.run_getObj_map k3,(fun em=>h2.check w em h4),f1,run_setObj_map _ k3];rfl
  have f2':es[j]? =some e:=by simpa using f2
  refine run _ (s2 j e f2' f3) ?_;simp only[Nat.zero_add,Instr.mapUpdate,Sem.run_bind,run_underlying h1,Result.andThen_ok,Go.MapKept.run_getObj_map k3,(fun em=>h2.check w em h4),f1,f2',Option.map_some,Option.getD_some,f3,h2.stays w h4,run_setObj_map _ k3];rfl
end
end Go.Ab
namespace Go.Ab
open Go.RowKit
variable [I5]
theorem Rl.lessArr {g:Gh} {H:A2} {w:World} (h:Rl g H w) {id sz:Nat} {xs ys:List V} (hk:H id=some (.arr sz xs)) (hl:G5 xs ys):Rl g (upd H id (some (.arr sz ys))) w:=by
 have el:=hl.length
 have hat:∀x,g.at (upd H id (some (.arr sz ys))) x=g.at H x:=by
  intro x
  by_cases hx:x=id
  ·subst hx;simp only[Gh.at,B4,hk,el]
  simp only[Gh.at,A7 _ _ hx]
 refine⟨fun x k hx=>?_,fun x x' y h1 h2=>h.inj x x' y (hat x▸h1) (hat x'▸h2),h.frz,fun x hx=>?_,h.bnd,h.glb⟩
 ·by_cases hxe:x=id
  ·subst hxe;rw[B4]at hx;cases hx
   obtain⟨b,h1,h2,h3,h4,h5⟩:=h.blk x _ hk;refine⟨b,h1,h2,h3.trans el,fun i hi=>?_,?_⟩
   ·rw[←(hl.at i).cells.length];exact h4 i (by omega)
   rw[←el];refine h5.imp (fun h=>h) fun⟨c,T,k1,k2,k3,k4,k5⟩=>⟨c,T,k1,k2,k3,fun i j hi hj=>⟨(k4 i j hi hj).1,(k4 i j hi hj).2.le ((hl.at i).cells.at j)⟩,k5⟩
  rw[A7 _ _ hxe]at hx;exact h.blk x k hx
 obtain⟨a1,a2,a3⟩:=h.nxt x hx
 have hne:x≠id:=fun e=>by subst e;rw[hk]at a3;cases a3
 exact⟨a1,a2,by rw[A7 _ _ hne];exact a3⟩
section
variable {P:Program}{o:Oper}{fr:Fr}{H:A2}{K:V→A2→Prop}
theorem F4.lessRow (h:F4 P o fr H fun x H'=>∃id sz xs ys,H' id=some (.arr sz xs)∧G5 xs ys∧K x (upd H' id (some (.arr sz ys)))):F4 P o fr H K:=by
 intro g w a hR hE;have h:=h g w a hR hE
 have key:∀v w',J6 g w (fun x H'=>∃id sz xs ys,H' id=some (.arr sz xs)∧G5 xs ys∧K x (upd H' id (some (.arr sz ys)))) v w'→J6 g w K v w':=by
  rintro v w' ⟨g',x,H',s,hR',hv,id,sz,xs,ys,h1,h2,h3⟩;exact⟨g',x,_,s,hR'.lessArr h1 h2,hv,h3⟩
 unfold F9 at h ⊢
 split at h
 ·exact key _ _ h
 ·exact key _ _ h
 ·exact h.mono fun e w' ⟨v,h1,h2⟩=>⟨v,h1,key _ _ h2⟩
 ·exact h.mono fun e w' ⟨v,h1,h2⟩=>⟨v,h1,key _ _ h2⟩
 exact h.elim
theorem KA {x:Operand}(ho:o.op= .assign x∨o.op= .move x)(hx:ev fr x= .sl [] .nil)(sz:Nat)(h:∀q,H q=none→K (.own q 0 0) (upd H q (some (.arr sz [])))):F4 P o fr H K:=by
 intro g w a hR hE;have hv:=D2 hR hE x
 rw[hx]at hv
 obtain⟨g1,s1,R1,hn,hv1⟩:=DN hR sz (.inl rfl) hv;unfold execOp
 rcases ho with ho|ho<;>rw[ho]<;>exact⟨g1,_,_,s1,R1,hv1,h _ hn⟩
theorem Xm {t e:TypeId} {n sz:Nat} {parts:Array (Nat×Operand)} {xs ys:List V} (ho:o.op= .buildSlice t n parts) (hl:X8 P t n (parts.toList.map fun(p:Nat×Operand)=>(p.1,ev fr p.2))=some (.sl xs .full))
 (he:Fy P t=some e) (hs:Ex P e=some sz) (hle:G5 xs ys) (h:∀q,H q=none→K (.own q 0 (xs.length:Nat)) (upd H q (some (.arr sz ys)))):F4 P o fr H K:=by
 refine F4.lessRow ?_;intro g w a hR hE;obtain⟨e',sz',z,k1,k2,_,k3,k4,_,d,hrun,hdz,hdv⟩:=GJ hR hE hl
 rw[he]at k1;cases k1
 rw[hs]at k2;cases k2
 cases k3
 have hget:∀i,((parts.toList.map fun(p:Nat×Operand)=>(p.1,ev fr p.2)).map (fun(q:Nat×V)=>q.2)).getD i .bad=((parts.toList.map fun(p:Nat×Operand)=>(p.1,ev fr p.2)).getD i (0,.bad)).2:=by
  intro i;simp only[List.getD_eq_getElem?_getD,List.getElem?_map];cases parts.toList[i]? <;>rfl
 generalize hL:(parts.toList.map fun(p:Nat×Operand)=>(p.1,ev fr p.2))=L at *
 have hz:∀i,i<(L.map fun(q:Nat×V)=>q.2).length→((L.map fun(q:Nat×V)=>q.2).getD i .bad).cells.length=sz:=by
  intro i hi
  have:∀(m:List (Nat×V)) (k i:Nat),AK sz k m=true→i<m.length→(m.getD i (0,.bad)).2.cells.length=sz:=by
   intro m
   induction m with
   |nil=>intro k i _ hi;simp at hi
   |cons y m ih=>
    intro k i hs hi
    simp only[AK,Bool.and_eq_true,beq_iff_eq]at hs
    cases i with
    |zero=>exact hs.1.2
    |succ i=>exact ih (k+1) i hs.2 (by simpa using hi)
  rw[hget];exact this L 0 i (by assumption) (by simpa using hi)
 have el:(L.map fun(q:Nat×V)=>q.2).length=n:=by simpa using k4
 obtain⟨s,r,hn⟩:=Rl.newArr (w':=w.alloc (.cells d e)) hR (b:=w.heap.size) (o:=0) (sz:=sz) (ys:=L.map fun(q:Nat×V)=>q.2) hz (fun b q hf=>BO (hR.fz_lt hf)) ((Below.refl _ _).alloc hR.bnd _) (fun x _ hlt=>heap_alloc hlt)
  (.inr ⟨d,e,hR.bnd,Ci,by rw[hdz,el];omega,fun i j hi hj=>by
   rw[Nat.zero_add,hget];exact(hdv i j (by omega) hj).2,fun q _ hf=>absurd (hR.fz_lt hf) (Nat.lt_irrefl _),fun id hid=>absurd (hR.lt hid) (Nat.lt_irrefl _)⟩)
 unfold execOp;rw[ho];simp only[Sem.run_bind,hrun,Result.andThen_ok,Sem.run_pure,F9];refine⟨_,.own g.nx 0 ((L.map fun(q:Nat×V)=>q.2).length:Nat),_,s,r,?_,g.nx,sz,_,ys,B4 _ _ _,hle,?_⟩
 ·have e':(g.own w.heap.size ⟨0,(L.map fun(q:Nat×V)=>q.2).length,sz⟩).ow g.nx=⟨0,(L.map fun(q:Nat×V)=>q.2).length,sz⟩:=by simp[Gh.own]
  have:=VR.own (g:=g.own w.heap.size ⟨0,(L.map fun(q:Nat×V)=>q.2).length,sz⟩) (w:=w.alloc (.cells d e)) (id:=g.nx) (b:=w.heap.size) (lo:=0) (n:=((L.map fun(q:Nat×V)=>q.2).length:Nat)) (p:=some ⟨w.heap.size,0,none⟩) (by simp[Gh.own]) (by omega) (by omega) (by rw[e'];simp) (by rw[e'];simp)
  rw[e']at this
  simpa[el]using this
 rw[BV];exact h _ hn
def Ql (l:List Int):ByteArray:=l.foldl (fun r n=>r.push (UInt8.ofNat n.toNat)) ByteArray.empty
def Ot (P:Program)(H:A2)(s d:TypeId)(x v:V):Prop:=
 ∃e l,Fy P s=some e∧P.underlying e=some (.int .u8)∧P.underlying d=some .string∧Sj 1 H x (l.map (V.int .u8))∧v= .str (Ql l)
theorem Sj.up {sz:Nat}{H H':A2}{x:V}{ys:List V}(hl:∀id b,H id=some b→H' id=some b)(h:Sj sz H x ys):Sj sz H' x ys:=by
 unfold Sj at h ⊢
 split at h
 ·exact h
 ·obtain⟨xs,h1,h2⟩:=h;exact⟨xs,hl _ _ h1,h2⟩
 exact h
theorem TH {P:Program}{H H':A2}{s d:TypeId}{x v:V}(hl:∀id b,H id=some b→H' id=some b)(h:Ot P H s d x v):Ot P H' s d x v:=by
 obtain⟨e,l,h1,h2,h3,h4,h5⟩:=h;exact⟨e,l,h1,h2,h3,h4.up hl,h5⟩
def Yb (K:V→A2→Prop)(x:V)(H:A2):Prop:=∃id sz xs ys,H id=some (.arr sz xs)∧G5 xs ys∧K x (upd H id (some (.arr sz ys)))
def litO (P:Program)(H:A2)(K:V→A2→Prop)(t:TypeId)(n:Nat)(parts:List (Nat×V)):Prop:=
 ∃e sz xs ys,X8 P t n parts=some (.sl xs .full)∧Fy P t=some e∧Ex P e=some sz∧G5 xs ys∧∀q,H q=none→K (.own q 0 (xs.length:Nat)) (upd H q (some (.arr sz ys)))
def Ae8 (H:A2)(K:V→A2→Prop)(x:V):Prop:=x= .sl [] .nil∧∃sz,∀q,H q=none→K (.own q 0 0) (upd H q (some (.arr sz [])))
theorem Xg {l:List Int} {ys0:List V} (h:G5 ys0 (l.map (V.int .u8))):ys0=l.map (V.int .u8):=by
 induction l generalizing ys0 with
 |nil=>cases h;rfl
 | cons n l ih=>
  cases h with
  |cons h1 h2=>
   cases h1;rw[ih h2];rfl
theorem Vv {s d:TypeId} {y:Operand} {x:V} (ho:o.op= .convert s d y) (hl:Ot P H s d (ev fr y) x) (h:K x H):F4 P o fr H K:=by
 intro g w a hR hE;have hv:=D2 hR hE y;obtain⟨e,l,h1,h2,h3,h4,rfl⟩:=hl;obtain⟨ys0,k1,k2,k3⟩:=h4.inv hR hv;have e1:=Xg k2;subst e1;obtain⟨base,cap,vs,r1,r2,r3⟩:=JR P hR k1 hv k3;have hs:=X1 h1
 have hlen:(l.map (V.int .u8)).length=l.length:=by simp
 have hcell:∀i,i<l.length→vs i 0= .int .u8 (l.getD i 0):=by
  intro i hi;have:=(r2 i 0 (by rw[hlen];exact hi) (by omega)).2
  have e:((l.map (V.int .u8)).getD i .bad).cells.getD 0 .bad= .int .u8 (l.getD i 0):=by
   simp[List.getD,hi,V.cells]
  rw[e]at this
  exact this.int_inv
 have hread:=r3 l.length (by rw[hlen];exact Nat.le_refl _) w (fun _ _=>rfl)
 have hcells:((List.range (l.length*1)).map fun k=>vs (k / 1) (k % 1)).toArray=(l.map (Value.int .u8)).toArray:=by
  congr 1
  apply List.ext_getElem?;intro i;simp only[List.getElem?_map,Nat.mul_one,Nat.div_one,Nat.mod_one]
  by_cases hi:i<l.length
  ·rw[List.getElem?_range hi,List.getElem?_eq_getElem hi];simp[hcell i hi,List.getD,hi]
  rw[List.getElem?_eq_none (by simpa using hi),List.getElem?_eq_none (by omega)];rfl
 rw[hcells]at hread
 rw[hlen]at r1
 rw[r1]at hread
 have run:(convert s d (.slice base l.length cap)).run P w= .ok (.string (Ql l)) w:=by
  rw[run_convert_bytes_string w s d e base l.length cap hs h2 h3]
  cases base with
  | none=>
   have:l=[]:=by
    simp only[Builtin.firstCells]at hread
    have hh:(.ok #[] w:Result (Array Value))= .ok (l.map (Value.int .u8)).toArray w:=by simpa[Sem.run_pure]using hread
    injection hh with hh _
    have:=congrArg Array.size hh
    simp at this
    exact List.eq_nil_of_length_eq_zero this.symm
   subst this;rfl
  |some ad=>
   simp only[Builtin.firstCells,Nat.mul_one]at hread
   exact run_bytesToString w ad l.length cap l hread
 unfold execOp;rw[ho];simp only[r1,Sem.run_bind,run,Result.andThen_ok,Sem.run_pure,F9];exact J6.here hR (.str _) h
end
end Go.Ab
namespace Go.Ab
open Go.RowKit Go.MapKept
variable [I5]
def Ah4 (P:Program)(H:A2)(K:V→A2→Prop)(t:TypeId)(x:V):Prop:=
 ∃kt et mid es clock,P.underlying t=some (.map kt et)∧x= .map mid∧H mid=some (.obj (.map es clock))∧∀id,H id=none→K (.ref id 0) (upd H id (some (.iter mid clock #[] clock)))
def Ao3 (H:A2) (K:V→A2→Prop) (x:V):Prop:=
 ∃id mid since,∃seen:Array Nat,∃c0,∃es:Array MapEntry,∃clock,x= .ref id 0∧H id=some (.iter mid since seen c0)∧H mid=some (.obj (.map es clock))∧(∀e∈es.toList,e.born<since)∧since≤c0∧
  ((leftOf es seen).size=0→K (.tup [.bool false]) H)∧∀e∈(leftOf es seen).toList,K (.tup [.bool true,.bad,.bad]) (upd H id (some (.iter mid since (seen.push e.born) clock)))
def Aj6 (H:A2) (K:V→A2→Prop) (x:V):Prop:=
 ∃id mid since,∃seen:Array Nat,∃c0,∃es:Array MapEntry,∃clock e kx vx,x= .ref id 0∧H id=some (.iter mid since (seen.push e.born) c0)∧c0=clock∧H mid=some (.obj (.map es clock))∧e∈es.toList∧(es.toList.map (·.born)).Nodup∧
  Bb kx=some e.key∧Bb vx=some e.val∧K (.tup [kx,vx]) H
def Ac0 (P:Program) (H:A2) (K:V→A2→Prop) (ts:List TypeId) (vs:List V):Prop:=
 match ts,vs with
 | [t,_],[x,key]=>
  ∃kt et d kv id o m,P.underlying t=some (.map kt et)∧KG P kt (CN d)∧Bb key=some kv∧CN d kv∧x= .map id∧H id=some (.obj o)∧AH d o m∧
   ∀o' m',AH d o' m'→((m'=m∧∀p∈m,p.1≠key)∨∃j p,m[j]? =some p∧p.1=key∧m'=m.eraseIdx j)→K (.tup []) (upd H id (some (.obj o')))
 |_,_=>False
theorem Rl.drew {g:Gh}{H:A2}{w:World}(hR:Rl g H w):T8 g w g w.drew∧Rl g H w.drew:=by
 have s:T8 g w g w.drew:=⟨fun _ _ e=>e,fun _ _ e=>e,fun _ _ e=>e,rfl,fun _ _ _=>rfl,(Below.refl _ _).drew,fun _ _ _=>rfl,Nat.le_succ _⟩;exact⟨s,⟨fun id b hb=>(hR.blk id b hb).mono hb s fun _ _=>⟨rfl,fun _ ho=>ho⟩,hR.inj,hR.frz,hR.nxt,hR.bnd,fun n=>(hR.glb n).mono s⟩⟩
section
variable {P:Program}{o:Oper}{fr:Fr}{H:A2}{K:V→A2→Prop}
end
section
variable {P:Program}{o:Oper}{fr:Fr}{H:A2}{K:V→A2→Prop}
def XV (P:Program)(t:TypeId)(l c v:V):Prop:=
 ∃k1 k2 n e sz by_ z,l= .int k1 n∧c= .int k2 n∧Fy P t=some e∧Ex P e=some sz∧0<sz∧PE P e=some by_∧0<by_∧Gy P e=some z∧z.one=true∧z.cells.length=sz∧0≤n∧n*(by_:Nat)≤281474976710656∧v= .sl (List.replicate n.toNat z) .ro
theorem Vr {t:TypeId} {l c:Operand} {v:V} (ho:o.op= .makeSlice t l c) (h:XV P t (ev fr l) (ev fr c) v) (hK:K v H):F4 P o fr H K:=by
 obtain⟨k1,k2,n,e,sz,by_,z,e1,e2,e3,e4,e5,e6,e7,e8,e9,e10,e11,e12,rfl⟩:=h;intro g w a hR hE;refine F9.mono ?_ (Qy (K:=fun x H'=>∃id,H id=none∧x= .own id 0 n∧H'=upd H id (some (.arr sz (List.replicate n.toNat z)))) ho e1 e2 e3 e4 e5 e6 e7 e8 e9 e10 e11 (Int.le_refl _) e12 (fun id hid=>⟨id,hid,rfl,rfl⟩) g w a hR hE);rintro x w' ⟨g1,y,H1,s1,R1,hv,id,hid,rfl,rfl⟩;obtain⟨g2,_,s2,R2,hfr⟩:=R1.freezeArr' (B4 _ _ _)
 have hH:upd (upd H id (some (.arr sz (List.replicate n.toNat z)))) id none=H:=by
  funext x
  by_cases hx:x=id
  ·subst hx;rw[B4];exact hid.symm
  rw[A7 _ _ hx,A7 _ _ hx]
 rw[hH]at R2
 refine⟨g2,_,H,s1.trans s2,R2,?_,hK⟩;have:=hfr x 0 n (hv.mono s2)
 have hs:R5 (List.replicate n.toNat z) 0 n=List.replicate n.toNat z:=by simp[R5]
 rw[hs]at this
 exact this
end
end Go.Ab
namespace Go.Ab
open Go.RowKit
variable [I5]
def Args (g:Gh)(w:World)(vals:Array Value)(args:List V):Prop:=
 vals.size=args.length∧∀i,i<args.length→VR g w (vals.getD i undef) (args.getD i .bad)
def K1 (P:Program)(f:FuncId)(args:List V)(H:A2)(K:V→A2→Prop):Prop:=
 ∀g w vals,Rl g H w→Args g w vals args→F9 P (J6 g w K) ((callFunc f vals).run P w)
def AT (P:Program)(fv:V)(args:List V)(H:A2)(K:V→A2→Prop):Prop:=
 ∀g w v vals,Rl g H w→VR g w v fv→Args g w vals args→F9 P (J6 g w K) ((do let d ←Deferred.ofValue v vals;invoke d.target d.args:Sem Next).run P w)
def B3 (P:Program)(f:FuncId)(args:List V)(r:V):Prop:=∀H,K1 P f args H fun x H'=>x=r∧H'=H
def Q7 (P:Program)(fv:V)(args:List V)(r:V):Prop:=∀H,AT P fv args H fun x H'=>x=r∧H'=H
theorem J6.mono {g:Gh}{w:World}{K K':V→A2→Prop}(h:∀x H,K x H→K' x H){v:Value}{w':World}(p:J6 g w K v w'):J6 g w K' v w':=
 let⟨g',x,H',a,b,c,d⟩:=p;⟨g',x,H',a,b,c,h _ _ d⟩
def Kw (P:Program)(fv:V)(args:List V)(H:A2)(r:V):Prop:=∀H',(∀id b,H id=some b→H' id=some b)→AT P fv args H' fun x h=>x=r∧h=H'
theorem Q7.toH {P:Program}{fv:V}{args:List V}{r:V}(h:Q7 P fv args r)(H:A2):Kw P fv args H r:=fun H' _=>h H'
theorem Kw.up {P:Program}{fv:V}{args:List V}{H H':A2}{r:V}(h:Kw P fv args H r)(hl:∀id b,H id=some b→H' id=some b):Kw P fv args H' r:=fun H2 h2=>h H2 fun id b e=>h2 id b (hl id b e)
theorem K1.mono {P:Program}{f:FuncId}{args:List V}{H:A2}{K K':V→A2→Prop}(c:K1 P f args H K)(h:∀x H,K x H→K' x H):K1 P f args H K':=
 fun g w vals hR hA=>(c g w vals hR hA).mono fun _ _ p=>p.mono h
theorem AT.mono {P:Program}{fv:V}{args:List V}{H:A2}{K K':V→A2→Prop}(c:AT P fv args H K)(h:∀x H,K x H→K' x H):AT P fv args H K':=
 fun g w v vals hR hv hA=>(c g w v vals hR hv hA).mono fun _ _ p=>p.mono h
theorem B3.at {P:Program}{f:FuncId}{args:List V}{r:V}(c:B3 P f args r){H:A2}{K:V→A2→Prop}(h:K r H):K1 P f args H K:=
 (c H).mono fun x H' ⟨e1,e2⟩=>by rw[e1,e2];exact h
theorem Q7.at {P:Program}{fv:V}{args:List V}{r:V}(c:Q7 P fv args r){H:A2}{K:V→A2→Prop}(h:K r H):AT P fv args H K:=
 (c H).mono fun x H' ⟨e1,e2⟩=>by rw[e1,e2];exact h
def Wk (x y:V):Prop:=∀g w v,VR g w v x→VR g w v y
theorem Wk.refl (x:V):Wk x x:=fun _ _ _ h=>h
theorem Wk.bad (x:V):Wk x .bad:=fun _ _ _ _=>.bad _
theorem Wk.ro (xs:List V)(t:D7):Wk (.sl xs t) (.sl xs .ro):=by
 intro g w v h
 cases h with
 |sl0 ht=>exact .sl0 rfl
 |sle ht=>exact .sle (.inl rfl)
 |sl vs hn hc hz hf hw h1 hv ht=>exact .sl vs hn hc hz hf hw h1 hv trivial
theorem Wk.nil (t:D7)(ht:t.plain=true):Wk (.sl [] .nil) (.sl [] t):=by
 intro g w v h
 cases h with
 |sl0 _=>exact .sl0 ht
 |sle h=>rcases h with h|⟨h,_⟩<;>cases h
 |sl vs hn hc hz hf hw h1 hv ht=>exact ht.elim
theorem Args.append {g:Gh} {w:World} {a b:Array Value} {x y:List V} (h:Args g w a x) (k:Args g w b y):Args g w (a++b) (x++y):=by
 refine⟨by simp[h.1,k.1],fun i hi=>?_⟩;rw[De]
 have e:(a++b).getD i undef=if i<x.length then a.getD i undef else b.getD (i - x.length) undef:=by
  simp only[Array.getD_eq_getD_getElem?,Array.getElem?_append,h.1]
  split<;>rfl
 rw[e]
 split
 ·rename_i hlt;exact h.2 i hlt
 exact k.2 _ (by simp at hi;omega)
theorem K1.value {P:Program} {f:FuncId} {F C args:List V} {H:A2} {K:V→A2→Prop} (h:K1 P f (F++args++C) H K):AT P (.func (.func f) F C) args H K:=by
 intro g w v vals hR hv hA
 cases hv with
 |func hl hv hl' hv'=>
  rename_i fs cs;have:=h g w (fs++vals++cs) hR (Args.append (Args.append ⟨hl,hv⟩ hA) ⟨hl',hv'⟩)
  simpa only[Deferred.ofValue,Sem.run_bind,Sem.run_pure,Result.andThen_ok,invoke]using this
theorem B3.value {P:Program}{f:FuncId}{F C args:List V}{r:V}(h:B3 P f (F++args++C) r):Q7 P (.func (.func f) F C) args r:=fun H=>(h H).value
theorem F4.le {P:Program}{o:Oper}{fr:Fr}{H:A2}{K:V→A2→Prop}(h:F4 P o fr H fun x H'=>∃y,Cq x y∧K y H'):F4 P o fr H K:=
 fun g w a hR hE=>(h g w a hR hE).mono fun v w' ⟨g',x,H',s,hR',hv,y,hxy,hK⟩=>⟨g',y,H',s,hR',hv.le hxy,hK⟩
section
variable {P:Program}{o:Oper}{fr:Fr}{H:A2}{K:V→A2→Prop}
theorem YS {g:Gh}{w:World}{a:Act}(hR:Rl g H w)(hE:ER g w a fr)(l:Array Operand):Args g w (l.map a.eval) (l.toList.map (ev fr)):=by
 refine⟨by simp,fun i hi=>?_⟩
 have hi':i<l.size:=by simpa using hi
 have e1:(l.map a.eval).getD i undef=a.eval l[i]:=by simp[Array.getD,hi']
 have e2:(l.toList.map (ev fr)).getD i .bad=ev fr l[i]:=by simp[List.getD,hi']
 rw[e1,e2];exact D2 hR hE _
theorem QC {x:Operand}{args:Array Operand}{ts:Array TypeId}(ho:o.op= .call {callee:=.value x,args:=args,argTypes:=ts})(h:AT P (ev fr x) (args.toList.map (ev fr)) H K):
 F4 P o fr H K:=by
 intro g w a hR hE;have:=h g w (a.eval x) (args.map a.eval) hR (D2 hR hE x) (YS hR hE args);unfold execOp;rw[ho]
 simpa only[resolve]using this
end
abbrev PT :=Nat→Bool
def Co (P:Program) (b:Builtin) (ts:List TypeId) (vs:List V) (v:V):Prop:=
 match b,ts,vs with
 | .len,[t],[x]=>VX P t x=some v
 | .max,_,[.int k a,.int k' b]=>k=k'∧v= .int k (if a<b then b else a)
 | .min,_,[.int k a,.int k' b]=>k=k'∧v= .int k (if b<a then b else a)
 | .append,[sT,yT],[.sl xs tl,.sl ys _]=>(tl= .nil∨tl= .full)∧∃e sz by_ z xs' ys',Fy P sT=some e∧(Fy P yT).isSome=true∧Ex P e=some sz∧0<sz∧PE P e=some by_∧0<by_∧Gy P e=some z∧z.one=true∧z.cells.length=sz∧
  G5 xs xs'∧G5 ys ys'∧xs'.all (fun x=>x.cells.length==sz)=true∧ys'.all (fun x=>x.cells.length==sz)=true∧(xs'.length+ys'.length)*by_≤140737488355328∧v= .sl (xs'++ys') .ro
 |_,_,_=>False
theorem F4.lessH {P:Program}{o:Oper}{fr:Fr}{H:A2}{K:V→A2→Prop}(h:F4 P o fr H fun x H'=>∃y H2,Cq x y∧(∀id b,H2 id=some b→H' id=some b)∧K y H2):F4 P o fr H K:=
 fun g w a hR hE=>(h g w a hR hE).mono fun v w' ⟨g',x,H',s,hR',hv,y,H2,hxy,hH,hK⟩=>⟨g',y,H2,s,hR'.less hH,hv.le hxy,hK⟩
theorem Hn {P:Program} {o:Oper} {fr:Fr} {H:A2} {c:Call} {b:Builtin} {v:V} (ho:o.op= .call c) (hc:c.callee= .builtin b)
 (h:Co P b c.argTypes.toList (c.args.toList.map (ev fr)) v) {K:V→A2→Prop} (k:K v H):F4 P o fr H K:=by
 obtain⟨ce,args,ts⟩:=c
 simp only at hc h
 subst hc;obtain⟨args⟩:=args;obtain⟨ts⟩:=ts
 simp only at h
 unfold Co at h
 split at h
 ·rename_i t x e2
  match args,e2 with
  |[y],e2=>
   simp only[List.map_cons,List.map_nil,List.cons.injEq,and_true]at e2
   subst e2;exact Zt ho h k
  |[],e2=>simp at e2
  |_::_::_,e2=>simp at e2
 ·rename_i k a k' b e2;obtain⟨rfl,rfl⟩:=h
  match args,e2 with
  |[x,y],e2=>
   simp only[List.map_cons,List.map_nil,List.cons.injEq,and_true]at e2
   intro g w act hR hE;rw[X4 ho];have h1:=D2 hR hE x;have h2:=D2 hR hE y
   rw[e2.1]at h1;rw[e2.2]at h2
   have e1:=h1.int_inv;have e2':=h2.int_inv;simp[builtin,Builtin.max_,Builtin.max2,e1,e2',Sem.run_bind,Sem.run_pure]
   split<;>exact J6.here hR (by first|(rw[if_pos (by assumption)];exact .int _ _)|(rw[if_neg (by omega)];exact .int _ _)|exact .int _ _) k
  |[],e2=>simp at e2
  |[_],e2=>simp at e2
  |_::_::_::_,e2=>simp at e2
 ·rename_i k a k' b e2;obtain⟨rfl,rfl⟩:=h
  match args,e2 with
  |[x,y],e2=>
   simp only[List.map_cons,List.map_nil,List.cons.injEq,and_true]at e2
   intro g w act hR hE;rw[X4 ho];have h1:=D2 hR hE x;have h2:=D2 hR hE y
   rw[e2.1]at h1;rw[e2.2]at h2
   have e1:=h1.int_inv;have e2':=h2.int_inv;simp[builtin,Builtin.min_,Builtin.min2,e1,e2',Sem.run_bind,Sem.run_pure]
   split<;>exact J6.here hR (by first|(rw[if_pos (by assumption)];exact .int _ _)|(rw[if_neg (by omega)];exact .int _ _)|exact .int _ _) k
  |[],e2=>simp at e2
  |[_],e2=>simp at e2
  |_::_::_::_,e2=>simp at e2
 ·rename_i sT yT xs tl ys tl' e2;obtain⟨htl,e,sz,by_,z,xs',ys',k1,k2,k3,k4,k5,k6,k7,k8,k9,l1,l2,k11,k12,k13,rfl⟩:=h
  match args,e2 with
  |[s,y],e2=>
   simp only[List.map_cons,List.map_nil,List.cons.injEq,and_true]at e2
   have hA:Hq H tl:=by rcases htl with rfl|rfl<;>trivial
   have hd:F6 H tl=H:=by rcases htl with rfl|rfl<;>rfl
   refine F4.lessH (Im (K:=fun x H'=>∃y H2,Cq x y∧(∀id b,H2 id=some b→H' id=some b)∧K y H2) ho e2.1 e2.2 k1 k2 k3 k4 k5 k6 k7 k8 k9 hA (l1.sz k11) (l2.sz k12) (by rw[l1.length,l2.length];exact k13) (fun e=>⟨_,H,?_,fun _ _ h=>h,k⟩) fun t h1 h2=>⟨_,H,Cq.sl _ (l1.append l2),fun id b hb=>?_,k⟩)
   ·subst e;cases l2;rw[List.append_nil];exact Cq.sl _ l1
   rw[hd]at h2 ⊢
   by_cases e:id=t
   ·subst e;rw[h2]at hb;cases hb
   rw[A7 _ _ e];exact hb
  |[],e2=>simp at e2
  |[_],e2=>simp at e2
  |_::_::_::_,e2=>simp at e2
 exact h.elim
def DI (P:Program) (H:A2) (K:V→A2→Prop):List TypeId→List V→Prop
 | [sT,yT],[.sl xs tl,.sl ys _]=>
  ∃e sz by_ z,Fy P sT=some e∧(Fy P yT).isSome=true∧Ex P e=some sz∧0<sz∧PE P e=some by_∧0<by_∧Gy P e=some z∧z.one=true∧z.cells.length=sz∧∃xs' ys',G5 xs xs'∧G5 ys ys'∧Hq H tl∧
   xs'.all (fun x=>x.cells.length==sz)=true∧ys'.all (fun x=>x.cells.length==sz)=true∧(xs'.length+ys'.length)*by_≤140737488355328∧(ys'=[]→K (.sl xs' tl) H)∧
   ∀t,ys'≠[]→F6 H tl t=none→K (.sl (xs'++ys') (.tok t)) (upd (F6 H tl) t (some .spare))
 |_,_=>False
theorem Ia {P:Program} {o:Oper} {fr:Fr} {H:A2} {c:Call} (ho:o.op= .call c) (hc:c.callee= .builtin .append) {K:V→A2→Prop}
 (h:DI P H K c.argTypes.toList (c.args.toList.map (ev fr))):F4 P o fr H K:=by
 obtain⟨ce,args,ts⟩:=c
 simp only at hc h
 subst hc;obtain⟨args⟩:=args;obtain⟨ts⟩:=ts
 simp only at h
 unfold DI at h
 split at h
 ·rename_i sT yT xs tl ys tl' e2
  match args,e2 with
  |[s,y],e2=>
   simp only[List.map_cons,List.map_nil,List.cons.injEq,and_true]at e2
   obtain⟨e,sz,by_,z,k1,k2,k3,k4,k5,k6,k7,k8,k9,xs',ys',l1,l2,k10,k11,k12,k13,k14,k15⟩:=h;refine F4.le (Im (K:=fun x H'=>∃y,Cq x y∧K y H') ho e2.1 e2.2 k1 k2 k3 k4 k5 k6 k7 k8 k9 k10 (l1.sz k11) (l2.sz k12) (by rw[l1.length,l2.length];exact k13) (fun e=>⟨_,.slt _ l1,k14 (by subst e;cases l2;rfl)⟩) fun t h1 h2=>⟨_,.slt _ (l1.append l2),k15 t (fun e=>h1 (by subst e;cases l2;rfl)) h2⟩)
  |[],e2=>simp at e2
  |[_],e2=>simp at e2
  |_::_::_::_,e2=>simp at e2
 exact h.elim
def KZ (P:Program)(H:A2)(b:Builtin)(ts:List TypeId)(vs:List V)(v:V):Prop:=
 match b,ts,vs with
 | .len,[t],[x]=>ZZ P H t x=some v
 |_,_,_=>False
theorem Mz {P:Program} {o:Oper} {fr:Fr} {H:A2} {c:Call} {b:Builtin} {v:V} (ho:o.op= .call c) (hc:c.callee= .builtin b)
 (h:KZ P H b c.argTypes.toList (c.args.toList.map (ev fr)) v) {K:V→A2→Prop} (k:K v H):F4 P o fr H K:=by
 obtain⟨ce,args,ts⟩:=c
 simp only at hc h
 subst hc;obtain⟨args⟩:=args;obtain⟨ts⟩:=ts
 simp only at h
 unfold KZ at h
 split at h
 ·rename_i t x e2
  match args,e2 with
  |[y],e2=>
   simp only[List.map_cons,List.map_nil,List.cons.injEq,and_true]at e2
   subst e2;exact Xn ho h k
  |[],e2=>simp at e2
  |_::_::_,e2=>simp at e2
 exact h.elim
theorem Ks {H H':A2}(hl:∀id b,H id=some b→H' id=some b){id:Nat}{p:Nat×List V}(h:DH H id=some p):DH H' id=some p:=by
 have:=CL (sz:=p.1) (xs:=p.2) h;simp only[DH,hl _ _ this]
theorem Tl {P:Program} {H H':A2} {t:TypeId} {x v:V} (hl:∀id b,H id=some b→H' id=some b) (h:HX P H t x=some v):HX P H' t x=some v:=by
 unfold HX at h ⊢
 split at h
 ·rename_i id i esz off _ _
  cases hk:DH H id with
  |none=>simp[hk]at h
  |some p=>simpa only[hk,Ks hl hk]using h
 cases h
theorem Wd {P:Program} {H H':A2} {t:TypeId} {x v:V} {i:Int} (hl:∀id b,H id=some b→H' id=some b) (h:Tv P H t x i=some v):Tv P H' t x i=some v:=by
 unfold Tv at h ⊢
 split at h
 ·rename_i e id lo n _
  cases hk:DH H id with
  |none=>simp[hk]at h
  |some p=>simpa only[hk,Ks hl hk]using h
 cases h
theorem Qq {P:Program} {H H':A2} {t:TypeId} {x v:V} {i j k:Option Int} (hl:∀id b,H id=some b→H' id=some b) (h:GG P H t x i j k=some v):GG P H' t x i j k=some v:=by
 unfold GG at h ⊢
 split at h
 ·rename_i e id lo n _
  cases hk:DH H id with
  |none=>cases hs:Ex P e<;>simp[hk,hs]at h
  |some p=>simpa only[hk,Ks hl hk]using h
 cases h
theorem VY {P:Program}{H H':A2}{b:Builtin}{ts:List TypeId}{vs:List V}{v:V}(hl:∀id b,H id=some b→H' id=some b)(h:KZ P H b ts vs v):KZ P H' b ts vs v:=by
 unfold KZ at h ⊢
 split at h
 ·exact h
 exact h.elim
def ownN (x:V):Nat:=
 match x with
 | .own _ _ n=>n.toNat
 |_=>0
def Ho (H:A2) (K:V→A2→Prop) (sz by_:Nat) (z:V) (x:V) (ys:List V):Prop:=
 match x with
 | .own id lo n=>∃xs,H id=some (.arr sz xs)∧
  (lo+n+(ys.length:Nat)≤(xs.length:Nat)→K (.own id lo (n+(ys.length:Nat))) (upd H id (some (.arr sz (Fh xs (lo+n).toNat ys)))))∧
  ((xs.length:Nat)<lo+n+(ys.length:Nat)→(n.toNat+ys.length)*by_≤140737488355328∧∀t k,H t=none→K (.own t 0 (n+(ys.length:Nat))) (upd H t (some (.arr sz (R5 xs lo n++ys++List.replicate k z)))))
 |x=>(x= .sl [] .nil∨x= .sl [] .full)∧ys.length*by_≤140737488355328∧∀t k,H t=none→K (.own t 0 (ys.length:Nat)) (upd H t (some (.arr sz (ys++List.replicate k z))))
theorem Ga {H:A2}{K K':V→A2→Prop}{sz by_:Nat}{z x:V}{ys:List V}(h:Ho H K sz by_ z x ys)(hk:∀v H',K v H'→K' v H'):Ho H K' sz by_ z x ys:=by
 unfold Ho at h ⊢
 split at h
 ·obtain⟨xs,m1,m3,m4⟩:=h;exact⟨xs,m1,fun e=>hk _ _ (m3 e),fun e=>⟨(m4 e).1,fun t k e'=>hk _ _ ((m4 e).2 t k e')⟩⟩
 obtain⟨m1,m2,m3⟩:=h;exact⟨m1,m2,fun t k e=>hk _ _ (m3 t k e)⟩
def JH (P:Program) (H:A2) (K:V→A2→Prop):List TypeId→List V→Prop
 | [sT,yT],[x,y]=>
  ∃ e sz by_ z,Fy P sT=some e∧Ex P e=some sz∧0<sz∧PE P e=some by_∧0<by_∧Gy P e=some z∧z.one=true∧z.cells.length=sz∧
   (((Fy P yT).isSome=true∧∃ys',Sj sz H y ys'∧Ho H K sz by_ z x ys')∨
    (P.underlying yT=some .string∧∃s,y= .str s∧sz=1∧Ho H K sz by_ z x (Cs s)))
 |_,_=>False
theorem Ns {P:Program} {o:Oper} {fr:Fr} {H:A2} {c:Call} (ho:o.op= .call c) (hc:c.callee= .builtin .append) {K:V→A2→Prop}
 (h:JH P H K c.argTypes.toList (c.args.toList.map (ev fr))):F4 P o fr H K:=by
 obtain⟨ce,args,ts⟩:=c
 simp only at hc h
 subst hc;obtain⟨args⟩:=args;obtain⟨ts⟩:=ts
 simp only at h
 unfold JH at h
 split at h
 ·rename_i sT yT x y' e2
  match args,e2 with
  | [s,y],e2=>
   simp only[List.map_cons,List.map_nil,List.cons.injEq,and_true]at e2
   obtain⟨e,sz,by_,z,k1,k3,k4,k5,k6,k7,k8,k9,h⟩:=h
   rcases h with⟨k2,ys',l1,l4⟩|⟨k2,s',l1,l2,l4⟩
   ·unfold Ho at l4
    split at l4
    ·obtain⟨xs,m1,m3,m4⟩:=l4;exact Qv ho e2.1 m1 (by rw[e2.2];exact l1) k1 k2 k3 k4 k5 k6 k7 k8 k9 m3 m4
    obtain⟨m1,m2,m3⟩:=l4;exact OQ ho (by rw[e2.1];exact m1) (by rw[e2.2];exact l1) k1 k2 k3 k4 k5 k6 k7 k8 k9 m2 m3
   subst l2
   unfold Ho at l4
   split at l4
   ·obtain⟨xs,m1,m3,m4⟩:=l4;exact OP ho e2.1 m1 (e2.2.trans l1) k1 k2 k3 k5 k6 k7 k8 k9 m3 m4
   obtain⟨m1,m2,m3⟩:=l4;exact Nh ho (by rw[e2.1];exact m1) (e2.2.trans l1) k1 k2 k3 k5 k6 k7 k8 k9 m2 m3
  |[],e2=>simp at e2
  |[_],e2=>simp at e2
  |_::_::_::_,e2=>simp at e2
 exact h.elim
def KE (P:Program) (H:A2) (K:V→A2→Prop) (t:TypeId) (l c:V):Prop:=
 match l,c with
 | .int _ n,.int _ m=>∃e sz by_ z,Fy P t=some e∧Ex P e=some sz∧0<sz∧PE P e=some by_∧0<by_∧Gy P e=some z∧z.one=true∧z.cells.length=sz∧0≤n∧n≤m∧m*by_≤281474976710656∧
  ∀id,H id=none→K (.own id 0 n) (upd H id (some (.arr sz (List.replicate m.toNat z))))
 |_,_=>False
def Iu (P:Program) (o:Oper) (ρ:Operand→V) (H:A2) (v:V):Prop:=
 match o.op with
 | .move x=>v=ρ x
 | .assign x=>v=ρ x
 | .pick c x y=>
  match ρ c with
  | .bool t=>v=if t then ρ x else ρ y
  |_=>False
 | .box _ x=>(ρ x).one=true∧v= .eref (ρ x).cells 0
 | .build t ps=>Kq P t (ps.toList.map fun p=>(p.1,ρ p.2))=some v
 | .buildSlice t n ps=>X8 P t n (ps.toList.map fun p=>(p.1,ρ p.2))=some v
 | .makeSlice t l c=>XV P t (ρ l) (ρ c) v
 | .load t x=>EF P H t (ρ x)=some v∨HX P H t (ρ x)=some v
 | .nilCheck x=>Uo (ρ x)=true∧v=ρ x
 | .binOp op t x y _=>Lb P op t (ρ x) (ρ y)=some v
 | .unOp op _ x=>unV op (ρ x)=some v
 | .convert s d x=>Oq P s d (ρ x)=some v∨Ot P H s d (ρ x) v
 | .lookup t x y ok=>Jn P H t (ρ x) (ρ y) ok v
 | .makeInterface t x=>ifO P t=false∧v= .iface t (ρ x)
 | .makeFunc fn fs cs=>v= .func fn (fs.toList.map ρ) (cs.toList.map ρ)
 | .slice t x lo hi mx=>
  match Av (lo.map ρ),Av (hi.map ρ),Av (mx.map ρ)with
  |some l,some h,some m=>LK P t (ρ x) l h m=some v∨GG P H t (ρ x) l h m=some v
  |_,_,_=>False
 | .fieldAddr t x f=>Eg P t (ρ x) f=some v
 | .field t x f=>MM P t (ρ x) f=some v
 | .indexAddr t x y=>
  match ρ y with
  | .int _ i=>(∃u,BM P t (ρ x) i=some u∧Cq u v)∨Tv P H t (ρ x) i=some v
  |_=>False
 | .index t x y=>
  match ρ y with
  | .int _ i=>Kj P t (ρ x) i=some v
  |_=>False
 | .extract x n=>
  match ρ x with
  | .tup cs=>cs[n]? =some v
  |_=>False
 | .call c=>
  match c.callee with
  | .value x=>Kw P (ρ x) (c.args.toList.map ρ) H v
  | .builtin b=>Co P b c.argTypes.toList (c.args.toList.map ρ) v∨KZ P H b c.argTypes.toList (c.args.toList.map ρ) v
  |_=>False
 |_=>False
theorem Tj {P:Program} {H H':A2} {t:TypeId} {x v:V} (hl:∀id b,H id=some b→H' id=some b) (h:EF P H t x=some v):EF P H' t x=some v:=by
 unfold EF at h ⊢
 split at h
 ·exact h
 ·rename_i ag sz id off _ _
  cases hk:H id with
  |none=>simp[hk]at h
  |some b=>simpa only[hk,hl _ _ hk]using h
 cases h
theorem XC {P:Program} {o:Oper} {ρ:Operand→V} {H H':A2} {v:V} (hl:∀id b,H id=some b→H' id=some b) (h:Iu P o ρ H v):Iu P o ρ H' v:=by
 unfold Iu at h ⊢
 cases ho:o.op<;>simp only[ho]at h ⊢ <;>first|exact h|exact h.imp (Tj hl) (Tl hl)|exact h.imp (fun h=>h) (TH hl)|exact Pp hl h|skip
 ·split at h
  ·exact h.imp (fun h=>h) (Qq hl)
  exact h
 ·split at h
  ·exact h.imp (fun h=>h) (Wd hl)
  exact h
 split at h
 ·exact h.up hl
 ·exact h.imp (fun h=>h) (VY hl)
 exact h
theorem HC {P:Program} {o:Oper} {fr:Fr} {H:A2} {v:V} (h:Iu P o (ev fr) H v) {K:V→A2→Prop} (k:K v H):F4 P o fr H K:=by
 unfold Iu at h
 split at h
 ·rename_i x ho;subst h;exact Qw ho k
 ·rename_i x ho;subst h;exact LN ho k
 ·rename_i c x y ho
  split at h
  ·rename_i t hc;subst h;exact Xl ho hc k
  exact h.elim
 ·rename_i t x ho;obtain⟨h1,rfl⟩:=h;exact GH ho h1 k
 ·rename_i t ps ho;exact Vw ho h k
 ·rename_i t n ps ho;exact LM ho h k
 ·rename_i t l c ho;exact Vr ho h k
 ·rename_i t x ho;exact h.elim (fun h=>Xp ho h k) fun h=>Vq ho h k
 ·rename_i x ho;obtain⟨h1,rfl⟩:=h;exact OR ho h1 k
 ·rename_i op t x y ty ho;exact Vx ho h k
 ·rename_i op t x ho;exact Xk ho h k
 ·rename_i s d x ho;exact h.elim (fun h=>QB ho h k) fun h=>Vv ho h k
 ·rename_i t x y ok ho;exact SH ho h k
 ·rename_i t x ho;obtain⟨h1,rfl⟩:=h;exact IZ ho h1 k
 ·rename_i fn fs cs ho;subst h;exact OU ho k
 ·rename_i t x lo hi mx ho
  split at h
  ·rename_i l hh m e1 e2 e3;exact h.elim (fun h=>Vp ho e1 e2 e3 h k) fun h=>Qu ho e1 e2 e3 h k
  exact h.elim
 ·rename_i t x f ho;exact Nj ho h k
 ·rename_i t x f ho;exact Vu ho h k
 ·rename_i t x y ho
  split at h
  ·rename_i kk i e
   rcases h with⟨u,h1,h2⟩|h
   rotate_left
   ·exact Xo ho e h k
   exact F4.le (Ni (K:=fun x H'=>∃y,Cq x y∧K y H') ho e h1 ⟨v,h2,k⟩)
  exact h.elim
 ·rename_i t x y ho
  split at h
  ·rename_i kk i e;exact Vt ho e h k
  exact h.elim
 ·rename_i x n ho
  split at h
  ·rename_i cs e;exact QA ho e h k
  exact h.elim
 ·rename_i c ho
  split at h
  ·rename_i x hc;obtain⟨ce,args,ts⟩:=c
   simp only at hc h
   subst hc;exact QC ho ((h H fun _ _ e=>e).mono fun x H' ⟨e1,e2⟩=>by rw[e1,e2];exact k)
  ·rename_i b hc;exact h.elim (fun h=>Hn ho hc h k) fun h=>Mz ho hc h k
  exact h.elim
 exact h.elim
def Ap1 (K:V→A2→Prop)(x:V)(H:A2):Prop:=∃y H2,Cq x y∧(∀id b,H2 id=some b→H id=some b)∧K y H2
def Fz (P:Program) (A:PT) (o:Oper) (ρ:Operand→V) (H:A2) (K:V→A2→Prop):Prop:=
 match o.op with
 | .alloc t=>(∃z,Gy P t=some z∧z.one=true∧∀id,H id=none→∃ds,G5 z.cells ds∧K (.ref id 0) (upd H id (some (.cells ds))))∨
  Gy P t=some (.sl [] .nil)∧∃sz,∀q id,H q=none→upd H q (some (.arr sz [])) id=none→K (.ref id 0) (upd (upd H q (some (.arr sz []))) id (some (.cells [.own q 0 0])))
 | .box _ x=>
  (ρ x).one=true∧if A (o.dst.getD 0)then∀id,H id=none→K (.ref id 0) (upd H id (some (.cells (ρ x).cells)))else K (.eref (ρ x).cells 0) H
 | .store t x y=>(∃z H',Cq (ρ y) z∧Ij P H t (ρ x) z=some H'∧K .bad H')∨∃z H',Cq (ρ y) z∧OO P H t (ρ x) z=some H'∧K .bad H'
 | .makeSlice t l c=>KE P H K t (ρ l) (ρ c)∨KE P H (Yb K) t (ρ l) (ρ c)
 | .assign x=>K (ρ x) H∨Ae8 H K (ρ x)
 | .move x=>K (ρ x) H∨Ae8 H K (ρ x)
 | .buildSlice t n ps=>(∃v,Iu P o ρ H v∧K v H)∨litO P H K t n (ps.toList.map fun p=>(p.1,ρ p.2))
 | .makeMap t r=>r=none∧ZW H K
 | .mapUpdate t x y z=>Ht P H K t (ρ x) (ρ y) (ρ z)
 | .insert t x y z=>Ht P H K t (ρ x) (ρ y) (ρ z)
 | .binOp op t x y _=>(∃v,Iu P o ρ H v∧K v H)∨∃q e p,UM op=some q∧Fy P t=some e∧XH (ρ x)=some p∧ρ y= .sl [] .nil∧(p→K (.bool q) H)∧K (.bool (!q)) H
 | .call c=>
  match c.callee with
  | .value x=>AT P (ρ x) (c.args.toList.map ρ) H K
  | .builtin .append=>DI P H K c.argTypes.toList (c.args.toList.map ρ)∨JH P H K c.argTypes.toList (c.args.toList.map ρ)∨DI P H (Ap1 K) c.argTypes.toList (c.args.toList.map ρ)
  | .builtin b=>∃v,(Co P b c.argTypes.toList (c.args.toList.map ρ) v∨KZ P H b c.argTypes.toList (c.args.toList.map ρ) v)∧K v H
  |_=>False
 |_=>∃v,Iu P o ρ H v∧K v H
theorem SJ {P:Program}{o:Oper}{fr:Fr}{H:A2}{K:V→A2→Prop}{t:TypeId}(ho:o.op= .alloc t)(hz:Gy P t=some (.sl [] .nil))(sz:Nat)
 (h:∀q id,H q=none→upd H q (some (.arr sz [])) id=none→K (.ref id 0) (upd (upd H q (some (.arr sz []))) id (some (.cells [.own q 0 0])))):F4 P o fr H K:=by
 intro g w a hR hE;obtain⟨v,e,hv⟩:=Dy hz
 have hr:VR g w v (.sl [] .nil):=by rw[e];exact Ek g w v
 obtain⟨g1,s1,R1,hn,hv1⟩:=DN hR sz (.inl rfl) hr;obtain⟨g',id,hid,s,hR',hv'⟩:=EO R1 t hv1 rfl;unfold execOp;rw[ho];simp only[Instr.alloc,Sem.run_bind,hv,Result.andThen_ok,F9];exact⟨g',_,_,s1.trans s,hR',hv',h _ id hn hid⟩
theorem Rl.chgCells {g:Gh} {H:A2} {w:World} (h:Rl g H w) {id:Nat} {cs ds:List V} (hk:H id=some (.cells cs)) (el:cs.length=ds.length)
 (hv:∀(j:Nat) u,j<cs.length→VR g w u (cs.getD j .bad)→VR g w u (ds.getD j .bad)):Rl g (upd H id (some (.cells ds))) w:=by
 have hat:∀x,g.at (upd H id (some (.cells ds))) x=g.at H x:=by
  intro x
  by_cases hx:x=id
  ·subst hx;simp only[Gh.at,B4,hk]
  simp only[Gh.at,A7 _ _ hx]
 refine⟨fun x k hx=>?_,fun x x' y h1 h2=>h.inj x x' y (hat x▸h1) (hat x'▸h2),h.frz,fun x hx=>?_,h.bnd,h.glb⟩
 ·by_cases hxe:x=id
  ·subst hxe;rw[B4]at hx;cases hx
   obtain⟨b,c,T,h1,h2,h3,h4,h5,h6⟩:=h.blk x _ hk;exact⟨b,c,T,h1,h2,h3,by omega,fun j hj=>⟨(h5 j (by omega)).1,hv j _ (by omega) (h5 j (by omega)).2⟩,h6⟩
  rw[A7 _ _ hxe]at hx;exact h.blk x k hx
 obtain⟨a1,a2,a3⟩:=h.nxt x hx
 have hne:x≠id:=fun e=>by subst e;rw[hk]at a3;cases a3
 exact⟨a1,a2,by rw[A7 _ _ hne];exact a3⟩
theorem SI {P:Program}{o:Oper}{fr:Fr}{H:A2}{K:V→A2→Prop}{t:TypeId}{z:V}(ho:o.op= .alloc t)(hz:Gy P t=some z)(h1:z.one=true)(h:∀id,H id=none→∃ds,G5 z.cells ds∧K (.ref id 0) (upd H id (some (.cells ds)))):F4 P o fr H K:=by
 intro g w a hR hE;refine(Vy (K:=fun x H'=>∃id,H id=none∧x= .ref id 0∧H'=upd H id (some (.cells z.cells))) ho hz h1 (fun id hid=>⟨id,hid,rfl,rfl⟩) g w a hR hE).mono fun v w' ⟨g',x,H',s,hR',hv,id,hid,e1,e2⟩=>?_;subst e1;subst e2;obtain⟨ds,hle,hK⟩:=h id hid;have:=hR'.chgCells (B4 _ _ _) (ds:=ds) hle.length fun j u _ hu=>hu.le (hle.at j)
 rw[BV]at this
 exact⟨g',_,_,s,this,hv,hK⟩
theorem VP {P:Program} {A:PT} {o:Oper} {fr:Fr} {H:A2} {K:V→A2→Prop} (h:Fz P A o (ev fr) H K):F4 P o fr H K:=by
 unfold Fz at h
 split at h
 ·rename_i t ho
  rcases h with⟨z,h1,h2,h3⟩|⟨h1,sz,h2⟩
  ·exact SI ho h1 h2 h3
  exact SJ ho h1 sz h2
 ·rename_i t x ho;obtain⟨h1,h2⟩:=h
  split at h2
  ·exact Nk ho h1 h2
  exact GH ho h1 h2
 ·rename_i t x y ho
  rcases h with⟨z,H',h0,h1,h2⟩|⟨z,H',h0,h1,h2⟩
  ·exact NE ho (fun _ _ _ h=>h.le h0) h1 h2
  exact SG ho h0 h1 h2
 ·rename_i t l c ho
  have key:∀K,KE P H K t (ev fr l) (ev fr c)→F4 P o fr H K:=by
   intro K h
   unfold KE at h
   split at h
   ·rename_i k1 n k2 m e1 e2;obtain⟨e,sz,by_,z,q1,q2,q3,q4,q5,q6,q7,q8,q9,q10,q11,q12⟩:=h;exact Qy ho e1 e2 q1 q2 q3 q4 q5 q6 q7 q8 q9 q10 q11 q12
   exact h.elim
  exact h.elim (key K) fun h=>F4.lessRow (key _ h)
 ·rename_i x ho;exact h.elim (LN ho) fun⟨h1,sz,h2⟩=>KA (.inl ho) h1 sz h2
 ·rename_i x ho;exact h.elim (Qw ho) fun⟨h1,sz,h2⟩=>KA (.inr ho) h1 sz h2
 ·rename_i t n ps ho
  rcases h with⟨v,h1,h2⟩|⟨e,sz,xs,ys,h1,h2,h3,h4,h5⟩
  ·exact HC h1 h2
  exact Xm ho h1 h2 h3 h4 h5
 ·rename_i t r ho;obtain⟨rfl,h⟩:=h;exact h.elim (Qx ho) (OT ho)
 ·rename_i t x y z ho;exact HU (.inl ho) h
 ·rename_i t x y z ho;exact HU (.inr ho) h
 ·rename_i op t x y ty ho
  rcases h with⟨v,h1,h2⟩|⟨q,e,xs,q1,q2,q3,q4,q5,q6⟩
  ·exact HC h1 h2
  exact Zs ho q1 q2 q3 q4 q5 q6
 ·rename_i c ho
  split at h
  ·rename_i x hc;obtain⟨ce,args,ts⟩:=c
   simp only at hc h
   subst hc;exact QC ho h
  ·rename_i hc;exact h.elim (Ia ho hc) fun h=>h.elim (Ns ho hc) fun h=>F4.lessH (Ia ho hc h)
  ·rename_i b _ hc;obtain⟨v,h1,h2⟩:=h;exact h1.elim (fun h1=>Hn ho hc h1 h2) fun h1=>Mz ho hc h1 h2
  exact h.elim
 obtain⟨v,h1,h2⟩:=h;exact HC h1 h2
end Go.Ab
namespace Go.Ab
open Go.RowKit
variable [I5]
def Fw (r:Option Nat):Fence:={fn:=fun _=>True,depth:=none,alive:=false,round:=r}
theorem MX {r:Option Nat}{P:Program}{f:FuncId}{args:Array Value}{w:World}{R:Ending→World→Prop}(h:CallsIn Fence.wide 0 P f args w R):CallsIn (Fw r) 0 P f args w R:=h
theorem SP {r:Option Nat}{P:Program}{l:Nat}{f:FuncId}{tmps:Array Value}{c d:Code}{w:World}{R:Ending→World→Prop}(h:RoundIn Fence.wide 0 P l f tmps c d w R):RoundIn (Fw r) 0 P l f tmps c d w R:=h
theorem Rd {P:Program}{A:PT}{o:Oper}{ρ:Operand→V}{H:A2}{K:V→A2→Prop}(h:Fz P A o ρ H K):∀c,o.op≠ .defer c:=by
 intro c hc
 simp[Fz,Iu,hc]at h
theorem FK {P:Program} {r:Option Nat} {o:Oper} {a:Act} {next:Act→World→Prop} {Q:Exit→Act→World→Prop} {K:Value→World→Prop} {x:Result Next} (h:F9 P K x)
 (hk:∀v w,K v w→next (a.put o.dst v) w):o.uponIn (Fw r) 0 P a next Q x:=by
 cases x with
 |halt x w=>exact h.elim
 | ok n w=>
  cases n<;>first
   |exact h.elim
   |exact hk _ _ h
   |exact⟨fun h=>by simp[Fw]at h,(MX h).mono fun e w' ⟨v,e1,e2⟩=>by subst e1;exact hk _ _ e2⟩
   |exact⟨fun h=>by simp[Fw]at h,(SP h).mono fun e w' ⟨v,e1,e2⟩=>by subst e1;exact hk _ _ e2⟩
def Dv (nt:Nat):Option Tmp→Bool
 |some d=>d<nt
 |none=>true
def Z1 (ops:Array Oper) (fr:Fr) (o:Oper):Option Bool:=
 match o.guard with
 |none=>some true
 | some (j,want)=>
  match(ops[j]?).bind (·.dst)with
  |some d=>
   match fr.s d with
   | .bool b=>some (b==want)
   | .tup _=>some false
   |_=>none
  |none=>none
def FI (P:Program) (A:PT) (nt:Nat) (ops:Array Oper):List Oper→Fr→A2→(Fr→A2→Prop)→Prop
 |[],fr,H,K=>K fr H
 | o::rest,fr,H,K=>
  Dv nt o.dst=true∧
   match Z1 ops fr o with
   |some true=>Fz P A o (ev fr) H fun v H'=>FI P A nt ops rest (fr.put o.dst v) H' K
   |some false=>FI P A nt ops rest (fr.put o.dst (.tup [])) H K
   |none=>False
def Se (nt:Nat)(g:Gh)(w:World)(Q:Exit→Fr→A2→Prop)(e:Exit)(a':Act)(w':World):Prop:=
 ∃g' fr' H',T8 g w g' w'∧Rl g' H' w'∧FR nt g' w' a' fr'∧Q e fr' H'
def WC (g:Gh):Option Nat→Option Nat→Prop
 |none,r=>r=none
 |some id,r=>∃b,g.mu id=some b∧r=some b
theorem WC.mono {g g':Gh}{w w':World}{rd r:Option Nat}(h:WC g rd r)(s:T8 g w g' w'):WC g' rd r:=by
 cases rd with
 |none=>exact h
 |some id=>obtain⟨b,h1,h2⟩:=h;exact⟨b,s.mu _ _ h1,h2⟩
def T4 (P:Program)(nt:Nat)(rd:Option Nat)(c:Code)(fr:Fr)(H:A2)(Q:Exit→Fr→A2→Prop):Prop:=
 ∀r g w a,WC g rd r→Rl g H w→FR nt g w a fr→c.wpIn (Fw r) 0 P (Se nt g w Q) a w
theorem Se.later {nt:Nat}{g g':Gh}{w w':World}{Q:Exit→Fr→A2→Prop}{e:Exit}{a:Act}{w2:World}(s:T8 g w g' w')(h:Se nt g' w' Q e a w2):Se nt g w Q e a w2:=
 let⟨g2,fr,H,s2,x⟩:=h;⟨g2,fr,H,s.trans s2,x⟩
theorem Se.mono {nt:Nat}{g:Gh}{w:World}{Q Q':Exit→Fr→A2→Prop}(hq:∀e fr H,Q e fr H→Q' e fr H){e:Exit}{a:Act}{w2:World}(h:Se nt g w Q e a w2):Se nt g w Q' e a w2:=
 let⟨g2,fr,H,s2,a,b,c⟩:=h;⟨g2,fr,H,s2,a,b,hq _ _ _ c⟩
theorem T4.mono {P:Program}{nt:Nat}{rd:Option Nat}{c:Code}{fr:Fr}{H:A2}{Q Q':Exit→Fr→A2→Prop}(h:T4 P nt rd c fr H Q)(hq:∀e fr H,Q e fr H→Q' e fr H):T4 P nt rd c fr H Q':=
 fun r g w a hr hR hF=>wpIn_mono (h r g w a hr hR hF) fun _ _ _=>Se.mono hq
section
variable {P:Program}{nt:Nat}{rd:Option Nat}{fr:Fr}{H:A2}{Q:Exit→Fr→A2→Prop}
theorem R0 {ops:Array Oper} {g:Gh} {w:World} {a:Act} {o:Oper} {b:Bool} (hE:ER g w a fr) (h:Z1 ops fr o=some b):Region.wanted o (yielded ops a.tmps)=b:=by
 unfold Z1 at h
 unfold Region.wanted
 split at h
 ·rename_i hg;cases h;simp[hg]
 rename_i j want hg;simp only[hg]
 split at h
 ·rename_i d hd
  split at h
  ·rename_i c hc;cases h;have:=hE d
   rw[hc]at this
   have hv:=this.bool_inv
   have ht:a.tmps[d]? =some (.bool c):=by
    rw[Array.getD_eq_getD_getElem?]at hv
    cases hx:a.tmps[d]? with
    |none=>rw[hx]at hv;simp[undef]at hv
    |some y=>rw[hx]at hv;simpa using hv
   simp only[yielded,hd,Option.bind_some,ht];cases c<;>cases want<;>rfl
  ·rename_i vs hc;cases h;have:=hE d
   rw[hc]at this
   have hv:∃us,a.tmps.getD d undef= .tuple us:=by
    generalize a.tmps.getD d undef=z at this
    cases this with
    |tup h1 h2=>exact⟨_,rfl⟩
   obtain⟨us,hv⟩:=hv
   have hy:yielded ops a.tmps j=none:=by
    unfold yielded;simp only[hd,Option.bind_some]
    rw[Array.getD_eq_getD_getElem?]at hv
    cases hx:a.tmps[d]? with
    |none=>rfl
    |some y=>rw[hx]at hv;simp at hv;subst hv;rfl
   rw[hy];cases want<;>rfl
  cases h
 cases h
theorem Ny {A:PT}{r:Option Nat}{g:Gh}{w:World}{a:Act}{o:Oper}{K:V→A2→Prop}{next:Act→World→Prop}{Q:Exit→Act→World→Prop}(hR:Rl g H w)(hF:FR nt g w a fr)(hd:Dv nt o.dst=true)
 (h:Fz P A o (ev fr) H K) (hk:∀g' w' a' v H',T8 g w g' w'→Rl g' H' w'→FR nt g' w' a' (fr.put o.dst v)→K v H'→next a' w'):o.wpIn (Fw r) 0 P a w next Q:=by
 refine⟨fun _ _=>trivial,?_⟩;rw[Oper.semAt_eq _ _ _ (Rd h)];refine FK (VP h g w a hR hF.s) fun v w' ⟨g',x,H',s,hR',hv,hK⟩=>?_;refine hk g' w' _ x H' s hR' ((hF.mono s).put (fun t ht=>?_) hv) hK
 rw[ht]at hd;simpa[Dv]using hd
theorem Mi {A:PT} {ops:Array Oper} {r:Option Nat} {K:Fr→A2→Prop} {Q:Exit→Act→World→Prop} {g0:Gh} {w0:World} (hQ:∀g w a fr H,T8 g0 w0 g w→Rl g H w→FR nt g w a fr→K fr H→Q .normal a w):
 ∀(m i:Nat) (fr:Fr) (H:A2),i+m=ops.size→FI P A nt ops (ops.toList.drop i) fr H K→∀g w a,T8 g0 w0 g w→Rl g H w→FR nt g w a fr→wpOpsIn (Fw r) 0 P ops Q (List.range' i m) a w
 |0,i,fr,H,hi,h,g,w,a,s,hR,hF=>by
  have:ops.toList.drop i=[]:=by simp;omega
  rw[this]at h
  exact hQ g w a fr H s hR hF h
 | m+1,i,fr,H,hi,h,g,w,a,s,hR,hF=>by
  have hlt:i<ops.toList.length:=by simp;omega
  have hlt':i<ops.size:=by omega
  rw[List.drop_eq_getElem_cons hlt]at h
  simp only[FI,Array.getElem_toList]at h
  obtain⟨hd,h⟩:=h;simp only[List.range'_succ,wpOpsIn,Array.getElem?_eq_getElem hlt'];have ih:=Mi (A:=A) (ops:=ops) (r:=r) (K:=K) hQ m (i+1)
  split at h
  ·rename_i hg;rw[if_pos (R0 hF.s hg)];exact Ny hR hF hd h fun g' w' a' v H' s' hR' hF' hK=>ih _ _ (by omega) hK g' w' a' (s.trans s') hR' hF'
  ·rename_i hg;rw[if_neg (by rw[R0 hF.s hg];simp)];refine⟨fun _ _=>trivial,ih _ _ (by omega) h g w _ s hR (hF.put (fun t ht=>?_) (VR.und _ _))⟩
   rw[ht]at hd;simpa[Dv]using hd
  exact h.elim
theorem T4.region {A:PT} {id:Nat} {ops:Array Oper} (h:FI P A nt ops ops.toList fr H (Q .normal)):T4 P nt rd (.region id ops false) fr H Q:=by
 intro r g w a hr hR hF;refine wpIn_region ?_
 have:=Mi (P:=P) (A:=A) (nt:=nt) (ops:=ops) (r:=r) (K:=Q .normal) (Q:=Se nt g w Q) (g0:=g) (w0:=w) (fun g' w' a' fr' H' s hR hF hK=>⟨g',fr',H',s,hR,hF,hK⟩) ops.size 0 fr H (by omega)
  (by simpa using h) g w a (T8.refl _ _) hR hF
 rwa[←List.range_eq_range']at this
theorem T4.skip (h:Q .normal fr H):T4 P nt rd .skip fr H Q:=fun r g w a hr hR hF=>wpIn_skip ⟨g,fr,H,T8.refl _ _,hR,hF,h⟩
theorem T4.ret (h:Q .ret fr H):T4 P nt rd .ret fr H Q:=fun r g w a hr hR hF=>wpIn_ret ⟨g,fr,H,T8.refl _ _,hR,hF,h⟩
theorem T4.exit {id:Nat}(h:Q (.exit id) fr H):T4 P nt rd (.exit id) fr H Q:=fun r g w a hr hR hF=>wpIn_exit ⟨g,fr,H,T8.refl _ _,hR,hF,h⟩
theorem T4.seq {x y:Code}(h:T4 P nt rd x fr H fun e fr' H'=>match e with| .normal=>T4 P nt rd y fr' H' Q|e=>Q e fr' H'):T4 P nt rd (.seq x y) fr H Q:=by
 intro r g w a hr hR hF;refine wpIn_seq (wpIn_mono (h r g w a hr hR hF) fun e a' w' ⟨g',fr',H',s,hR',hF',hq⟩=>?_)
 cases e with
 |normal=>exact wpIn_mono (hq r g' w' a' (hr.mono s) hR' hF') fun _ _ _=>Se.later s
 |_=>exact⟨g',fr',H',s,hR',hF',hq⟩
theorem T4.cond {c:Operand}{x y:Code}{t:Bool}(hc:ev fr c= .bool t)(h1:t=true→T4 P nt rd x fr H Q)(h2:t=false→T4 P nt rd y fr H Q):T4 P nt rd (.cond c x y) fr H Q:=by
 intro r g w a hr hR hF;have hv:=D2 hR hF.s c
 rw[hc]at hv
 refine wpIn_cond hv.bool_inv ?_;cases t
 ·exact h2 rfl r g w a hr hR hF
 exact h1 rfl r g w a hr hR hF
theorem T4.block {id:Nat} {c:Code} (h:T4 P nt rd c fr H fun e fr' H'=>match e with| .exit id'=>if id'=id then Q .normal fr' H' else Q (.exit id') fr' H'|e=>Q e fr' H'):T4 P nt rd (.block id c) fr H Q:=by
 intro r g w a hr hR hF;refine wpIn_block (wpIn_mono (h r g w a hr hR hF) fun e a' w' ⟨g',fr',H',s,hR',hF',hq⟩=>?_)
 cases e with
 |exit id'=>
  simp only[Exit.inBlock]
  dsimp only at hq
  split<;>rename_i hid
  ·rw[if_pos hid]at hq;exact⟨g',fr',H',s,hR',hF',hq⟩
  rw[if_neg hid]at hq;exact⟨g',fr',H',s,hR',hF',hq⟩
 |_=>exact⟨g',fr',H',s,hR',hF',hq⟩
theorem T4.loopN {c:Code} (I:Nat→Fr→A2→Prop) (n0:Nat) (h0:I n0 fr H)
 (round:∀n fr H,I n fr H→T4 P nt rd c fr H fun e fr' H'=>match e with| .normal=>∃n',n'<n∧I n' fr' H'|e=>Q e fr' H'):T4 P nt rd (.loop c) fr H Q:=by
 intro r g w a hr hR hF;intro b k cs hro hb hrm
 have key:∀n fr H,I n fr H→∀g' w' a,T8 g w g' w'→Rl g' H w'→FR nt g' w' a fr→
  ∃e a' w2,Se nt g w Q e a' w2∧ArrivesIn (Machine.fenced P (Fw r)) P (lone (b.atR a (.code c:: .inLoop c::k)) cs w') b k cs e a' w2:=by
  intro n
  induction n using Nat.strongRecOn with
  | _ n ih=>
   intro fr H hI g' w' a s hR hF;obtain⟨e,a₁,w₁,⟨g1,fr1,H1,s1,hR1,hF1,hq⟩,harr⟩:=round n fr H hI r g' w' a (hr.mono s) hR hF b (.inLoop c::k) cs hro hb hrm
   cases e with
   |normal=>
    obtain⟨n',hlt,hI₁⟩:=hq;obtain⟨e₂,a₂,w₂,hq₂,harr₂⟩:=ih n' hlt fr1 H1 hI₁ g1 w₁ a₁ (s.trans s1) hR1 hF1;exact⟨e₂,a₂,w₂,hq₂,.of_steps (StepsIn.trans harr (.one (fenced_calm hb hrm rfl) stepR_inLoop)) harr₂⟩
   |exit id=>exact⟨_,a₁,w₁,⟨g1,fr1,H1,s.trans s1,hR1,hF1,hq⟩,.pass (x:=.inLoop c) rfl (fun _ _=>.inl (by simp)) harr⟩
   |goto l=>exact⟨_,a₁,w₁,⟨g1,fr1,H1,s.trans s1,hR1,hF1,hq⟩,.pass (x:=.inLoop c) rfl (fun _ _=>.inl (by simp)) harr⟩
   |ret=>exact⟨_,a₁,w₁,⟨g1,fr1,H1,s.trans s1,hR1,hF1,hq⟩,.pass (x:=.inLoop c) rfl (fun _ _=>.inl (by simp)) harr⟩
   |panic ch=>exact⟨_,a₁,w₁,⟨g1,fr1,H1,s.trans s1,hR1,hF1,hq⟩,.pass (x:=.inLoop c) rfl (fun _ _=>.inl (by simp)) harr⟩
   |outgrown=>exact⟨_,a₁,w₁,⟨g1,fr1,H1,s.trans s1,hR1,hF1,hq⟩,.pass (x:=.inLoop c) rfl (fun _ _=>.inl (by simp)) harr⟩
 obtain⟨e,a',w',hq,harr⟩:=key _ fr H h0 g w a (T8.refl _ _) hR hF;exact⟨e,a',w',hq,.of_steps (.one (fenced_calm hb hrm rfl) stepR_loop) harr⟩
theorem T4.loop {c:Code} (I:Fr→A2→Prop) (μ:Fr→A2→Nat) (h0:I fr H)
 (round:∀fr H,I fr H→T4 P nt rd c fr H fun e fr' H'=>match e with| .normal=>I fr' H'∧μ fr' H'<μ fr H|e=>Q e fr' H'):T4 P nt rd (.loop c) fr H Q:=
 T4.loopN (fun n fr H=>I fr H∧μ fr H=n) _ ⟨h0,rfl⟩ fun n fr H ⟨hI,hn⟩=>(round fr H hI).mono fun e fr' H' hq=>by
  cases e with
  |normal=>exact⟨_,hn▸hq.2,hq.1,rfl⟩
  |_=>exact hq
theorem T4.less {c:Code}{fr':Fr}{H':A2}(h:T4 P nt rd c fr' H' Q)(hs:∀t,Wk (fr.s t) (fr'.s t))(hd:fr'.df=fr.df)(hl:∀id b,H' id=some b→H id=some b):T4 P nt rd c fr H Q:=by
 intro r g w a hr hR hF;refine h r g w a hr (hR.less hl) ⟨hF.size,fun t=>hs t _ _ _ (hF.s t),?_⟩;rw[hd];exact hF.df
theorem T4.freeze {c:Code} {t id off:Nat} {cs:List V} (ht:fr.s t= .ref id off) (hk:H id=some (.cells cs)) (h:T4 P nt rd c (fr.put (some t) (.eref cs off)) (upd H id none) Q):T4 P nt rd c fr H Q:=by
 intro r g w a hr hR hF;obtain⟨g',s,hR',hv⟩:=hR.freeze hk;refine wpIn_mono (h r g' w a (hr.mono s) hR' ?_) fun _ _ _=>Se.later s;have hF':=hF.mono s;refine⟨hF'.size,fun x=>?_,hF'.df⟩;simp only[Fr.put]
 split
 ·rename_i e;subst e;have:=hF.s x
  rw[ht]at this
  exact hv _ _ this
 exact hF'.s x
end
end Go.Ab
