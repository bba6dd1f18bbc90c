/- AbN0 AbN1 AbN2 AbN3 AbA11 -/
import Derived.Test.YtjhobbohibnioaaGreatDoorD02
import Derived.MapKept
import Derived.DeepKeys4
import Derived.RangeFuncRecord
import Derived.Laws.BytesString
import Derived.Maps.RangeRun
set_option linter.all false
namespace Go.Ab
open Go.MapKept
structure KG (P:Program) (kt:TypeId) (G:Value→Prop):Prop where
 check:∀(w:World) (em:Bool) {v:Value},G v→(Instr.checkKey em 10000 kt v).run P w= .ok () w
 find:∀(w:World) {x:Value},G x→∀es:List MapEntry,(∀e∈es,G e.key)→
  ((Instr.findKey kt x es).run P w= .ok none w∧∀e∈es,e.key≠x)∨∃j e,(Instr.findKey kt x es).run P w= .ok (some (j,e.val)) w∧es[j]? =some e∧e.key=x
 stays:∀(w:World) {v:Value},G v→(Instr.keyThatStays v v).run P w= .ok v w
section
variable {P:Program}{kt el n:Nat}{k:IntKind}
def Kc (k:IntKind)(n:Nat)(v:Value):Prop:=∃l:List Int,l.length=n∧v= .agg (l.map (Value.int k)).toArray
end
section
variable {P:Program}{kt n:Nat}{k:IntKind}
structure QX (P:Program) (k:IntKind) (n:Nat) (fs:List Field):Prop where
 all:∀f∈fs,f.name≠ "_" ∧P.underlying f.type=some (.int k)∧f.offset<n
 cov:∀i,i<n→∃f∈fs,f.offset=i
theorem Nl (w:World){e:TypeId}(he:P.underlying e=some (.int k)){xs:List Int}{i:Nat}(hi:i<xs.length):(part e (xs.map (Value.int k)).toArray i).run P w= .ok (.int k (xs[i])) w:=
 run_part_plain w (by simp[Program.plainKey,he]) (by simp[hi])
theorem Jf (w:World) (d:Nat) {xs ys:List Int} (hl:ys.length=xs.length):∀fs:List Field,(∀f∈fs,f.name≠ "_" ∧P.underlying f.type=some (.int k)∧f.offset<xs.length)→
 ∃r:Bool,(Op.eqFields (d+1) (xs.map (Value.int k)).toArray (ys.map (Value.int k)).toArray fs).run P w= .ok r w∧(r=true↔∀f∈fs,xs[f.offset]? =ys[f.offset]?)
 |[],_=>⟨true,by simp[Op.eqFields],by simp⟩
 |f::fs,h=>by
  obtain⟨hn,he,hi⟩:=h f (.head _)
  have hj:f.offset<ys.length:=by omega
  obtain⟨r,hr,hiff⟩:=Jf w d hl fs fun g hg=>h g (.tail _ hg);have p1:=Nl w he hi;have p2:=Nl (xs:=ys) w he hj;simp only[Op.eqFields,hn,ne_eq,not_false_eq_true,if_true,Sem.run_bind,p1,p2,Result.andThen_ok,run_equalIn_int w d f.type k k _ _ he];have e1:xs[f.offset]? =some xs[f.offset]:=List.getElem?_eq_getElem hi;have e2:ys[f.offset]? =some ys[f.offset]:=List.getElem?_eq_getElem hj
  by_cases hx:xs[f.offset]=ys[f.offset]
  ·refine⟨r,by simpa[hx]using hr,?_⟩;rw[hiff];simp[e1,e2,hx]
  exact⟨false,by simp[hx],by simp[e1,e2,hx]⟩
theorem UW (w:World) (hd:P.underlying kt=some (.struct (P.fieldsOf kt))) (hs:P.stoodInHeld kt=false) (hf:QX P k n (P.fieldsOf kt).toList) {a b:Value} (ha:Kc k n a) (hb:Kc k n b):
 ∃r:Bool,(Op.equal kt a b).run P w= .ok r w∧(r=true↔b=a):=by
 obtain⟨xs,hx,rfl⟩:=ha;obtain⟨ys,hy,rfl⟩:=hb;obtain⟨r,hr,hiff⟩:=Jf (P:=P) w 9998 (xs:=xs) (ys:=ys) (by omega) (P.fieldsOf kt).toList (fun f h=>by rw[hx];exact hf.all f h);refine⟨r,?_,?_⟩
 ·exact(run_equalIn_struct w 9999 kt (xs.map (Value.int k)).toArray (ys.map (Value.int k)).toArray hd hs).trans hr
 rw[hiff]
 constructor
 ·intro h
  have:xs=ys:=by
   apply List.ext_getElem?;intro j
   by_cases hj:j<n
   ·obtain⟨f,hfm,e⟩:=hf.cov j hj;rw[←e];exact h f hfm
   rw[List.getElem?_eq_none (by omega),List.getElem?_eq_none (by omega)]
  rw[this]
 intro h
 have h2:(ys.map (Value.int k))=xs.map (Value.int k):=by simpa using h
 have:ys=xs:=by
  apply List.ext_getElem?;intro j;have:=congrArg (fun l=>l[j]?) h2
  simp only[List.getElem?_map]at this
  cases h3:ys[j]? <;>cases h4:xs[j]? <;>simp_all
 intro i _;rw[this]
theorem Ha (w:World) (hd:P.underlying kt=some (.struct (P.fieldsOf kt))) (hs:P.stoodInHeld kt=false) (hf:QX P k n (P.fieldsOf kt).toList) {x:Value} (hx:Kc k n x):∀(es:List MapEntry) (i:Nat),(∀e∈es,Kc k n e.key)→
 ((Instr.findAsking kt x es i).run P w= .ok none w∧∀e∈es,e.key≠x)∨∃j e,(Instr.findAsking kt x es i).run P w= .ok (some (i+j,e.val)) w∧es[j]? =some e∧e.key=x
 |[],i,_=>.inl ⟨by simp[Instr.findAsking],by simp⟩
 | e::es,i,h=>by
  obtain⟨r,hr,hiff⟩:=UW w hd hs hf hx (h e (.head _))
  cases r with
  |true=>exact .inr ⟨0,e,by simp[Instr.findAsking,hr],rfl,hiff.1 rfl⟩
  | false=>
   have hne:e.key≠x:=fun q=>by have:=hiff.2 q;cases this
   rcases Ha w hd hs hf hx es (i+1) (fun y hy=>h y (.tail _ hy))with⟨h1,h2⟩|⟨j,e',h1,h2,h3⟩
   ·refine .inl ⟨by simp[Instr.findAsking,hr,h1],fun y hy=>?_⟩
    rcases List.mem_cons.1 hy with rfl|hy
    ·exact hne
    exact h2 y hy
   exact .inr ⟨j+1,e',by simp[Instr.findAsking,hr,h1,Nat.add_assoc,Nat.add_comm 1 j],by simpa using h2,h3⟩
theorem KG.flds (hd:P.underlying kt=some (.struct (P.fieldsOf kt))) (hs:P.stoodInHeld kt=false) (hf:QX P k n (P.fieldsOf kt).toList):KG P kt (Kc k n) where
 check:=fun w em v hv=>by
  obtain⟨xs,hx,rfl⟩:=hv;rw[Instr.checkKey];simp only[Sem.run_bind,run_underlying hd,Result.andThen_ok];rw[←Array.forIn_toList];have hj:=hf.all
  generalize (P.fieldsOf kt).toList=is at hj
  induction is with
  |nil=>simp
  |cons f is ih=>
   obtain⟨hn,he,hi⟩:=hj f (.head _);have p1:=Nl (P:=P) (xs:=xs) w he (i:=f.offset) (by omega);have p2:(Instr.checkKey em 9999 f.type (.int k (xs[f.offset]'(by omega)))).run P w= .ok () w:=run_checkKey (k:=.int k (xs[f.offset]'(by omega))) he rfl em 9998;simp only[List.forIn_cons,Sem.run_bind,hn,ne_eq,not_false_eq_true,if_true,Result.andThen_ok,p1,p2,Sem.run_pure];exact ih fun y hy=>hj y (.tail _ hy)
 find:=fun w x hx es h=>by
  rw[run_findKey_eq w (k:=kt) (by simp[hd])]
  simpa using Ha w hd hs hf hx es 0 h
 stays:=fun w v hv=>by
  obtain⟨xs,_,rfl⟩:=hv
  have e:∀l:List Int,((l.map (Value.int k)).zip (l.map (Value.int k))).all (fun x=>Instr.sameBits 9999 x.1 x.2)=true:=by
   intro l
   induction l with
   |nil=>rfl
   |cons a l ih=>simp only[List.map_cons,List.zip_cons_cons,List.all_cons,ih,Bool.and_true];simp[Instr.sameBits]
  have h2:Instr.sameBits 10000 (.agg (xs.map (Value.int k)).toArray) (.agg (xs.map (Value.int k)).toArray)=true:=by
   rw[Instr.sameBits]
   simpa using e xs
  simp[Instr.keyThatStays,h2]
end
end Go.Ab
namespace Go.Ab
open Go.RowKit Go.MapKept
variable [J9]
def HA :V→Option Value
 | .bool b=>some (.bool b)
 | .int k n=>some (.int k n)
 | .str s=>some (.string s)
 |_=>none
def GB :List V→Option (List Value)
 |[]=>some []
 |x::l=>match HA x,GB l with|some v,some r=>some (v::r)|_,_=>none
def Al :V→Option Value
 | .agg cs=>(GB cs).map fun l=>.agg l.toArray
 |v=>HA v
theorem Sf {g:Gh}{w:World}{x:V}{u v:Value}(h:HA x=some u)(hv:VR g w v x):v=u:=by
 cases x<;>simp only[HA,Option.some.injEq,reduceCtorEq]at h<;>subst h<;>cases hv<;>rfl
theorem Se {g:Gh}{w:World}{x:V}{u:Value}(h:HA x=some u):VR g w u x:=by
 cases x<;>simp only[HA,Option.some.injEq,reduceCtorEq]at h<;>subst h<;>constructor
theorem YA {x:V}{u:Value}(h:HA x=some u):u.oneCell'=true:=by
 cases x<;>simp only[HA,Option.some.injEq,reduceCtorEq]at h<;>subst h<;>rfl
theorem Sg {x y:V}{u:Value}(h:HA x=some u)(h':HA y=some u):x=y:=by
 cases x<;>simp only[HA,Option.some.injEq,reduceCtorEq]at h<;>subst h<;>cases y<;>simp_all[HA]
theorem Ng :∀{l:List V} {r:List Value},GB l=some r→r.length=l.length
 |[],r,h=>by simp only[GB,Option.some.injEq]at h;subst h;rfl
 |x::l,r,h=>by
  unfold GB at h
  split at h
  ·rename_i v r' h1 h2;cases h;simp[Ng h2]
  cases h
theorem Mu :∀{l:List V} {r:List Value},GB l=some r→∀i,i<l.length→HA (l.getD i .bad)=some (r.getD i undef)
 |[],r,h,i,hi=>by simp at hi
 | x::l,r,h,i,hi=>by
  unfold GB at h
  split at h
  ·rename_i v r' h1 h2;cases h
   cases i with
   |zero=>simpa using h1
   |succ i=>simpa using Mu h2 i (by simpa using hi)
  cases h
theorem Yz {g:Gh} {w:World} {x:V} {u:Value} (h:Al x=some u):VR g w u x:=by
 unfold Al at h
 split at h
 ·rename_i cs
  cases hr:GB cs with
  |none=>rw[hr]at h;cases h
  |some r=>
   rw[hr]at h
   simp only[Option.map_some,Option.some.injEq]at h
   subst h;have e:=Ng hr;refine .agg (by simp[e]) (fun i hi=>?_) fun i hi=>?_
   ·have:=YA (Mu hr i hi);simpa[Array.getD_eq_getD_getElem?,List.getD_eq_getElem?_getD]using this
   have:=Se (g:=g) (w:=w) (Mu hr i hi);simpa[Array.getD_eq_getD_getElem?,List.getD_eq_getElem?_getD]using this
 exact Se h
theorem Hz {g:Gh} {w:World} {x:V} {u v:Value} (h:Al x=some u) (hv:VR g w v x):v=u:=by
 unfold Al at h
 split at h
 ·rename_i cs
  cases hr:GB cs with
  |none=>rw[hr]at h;cases h
  | some r=>
   rw[hr]at h
   simp only[Option.map_some,Option.some.injEq]at h
   subst h;have e:=Ng hr
   cases hv with
   |agg hl h1 hv=>
    rename_i vs
    congr 1
    apply Array.ext
    ·simp[hl,e]
    intro i hi hi'
    have hi2:i<cs.length:=by omega
    have:=Sf (Mu hr i hi2) (hv i hi2)
    simpa[Array.getD,hi,List.getD_eq_getElem?_getD,show i<r.length by omega]using this
 exact Sf h hv
def KY (es:Array MapEntry)(clock:Nat):Prop:=(∀x∈es.toList,x.born<clock)∧(es.toList.map (·.born)).Nodup
theorem KY.empty :KY #[] 0:=⟨fun x h=>by simp at h,by simp⟩
theorem KY.push {es:Array MapEntry} {clock:Nat} (h:KY es clock) (k v:Value):KY (es.push {key:=k,val:=v,born:=clock}) (clock+1):=by
 refine⟨fun x hx=>?_,?_⟩
 ·simp only[Array.toList_push,List.mem_append,List.mem_singleton]at hx
  rcases hx with hx|rfl
  ·exact Nat.lt_succ_of_lt (h.1 x hx)
  exact Nat.lt_succ_self _
 simp only[Array.toList_push,List.map_append,List.map_cons,List.map_nil];refine List.nodup_append.2 ⟨h.2,by simp,fun x hx z hz=>?_⟩
 simp at hz;subst hz
 obtain⟨e,he,rfl⟩:=List.mem_map.1 hx;have:=h.1 e he;omega
theorem KY.modify {es:Array MapEntry} {clock:Nat} (h:KY es clock) (i:Nat) (k v:Value):KY (es.modify i fun e=>{e with key:=k,val:=v}) clock:=by
 have hb:(es.modify i fun e=>{e with key:=k,val:=v}).toList.map (·.born)=es.toList.map (·.born):=by
  apply List.ext_getElem?;intro j;simp only[List.getElem?_map,Array.getElem?_toList,Array.getElem?_modify]
  by_cases hij:i=j
  ·subst hij;cases es[i]? <;>simp
  rw[if_neg hij]
 refine⟨fun x hx=>?_,by rw[hb];exact h.2⟩
 have:x.born∈es.toList.map (·.born):=by rw[←hb];exact List.mem_map.2 ⟨x,hx,rfl⟩
 obtain⟨y,hy,e⟩:=List.mem_map.1 this;rw[←e];exact h.1 y hy
theorem KY.sub {es es':Array MapEntry}{clock:Nat}(h:KY es clock)(hs:es'.toList.Sublist es.toList):KY es' clock:=⟨fun x hx=>h.1 x (hs.subset hx),(hs.map _).nodup h.2⟩
theorem Si :∀{l l':List V} {r:List Value},GB l=some r→GB l'=some r→l=l'
 |[],l',r,h,h'=>by
  simp only[GB,Option.some.injEq]at h;subst h
  cases l' with
  |nil=>rfl
  |cons x l=>unfold GB at h';split at h'<;>cases h'
 | x::l,l',r,h,h'=>by
  unfold GB at h
  split at h
  ·rename_i v r' h1 h2;cases h
   cases l' with
   |nil=>cases h'
   |cons y l'=>
    unfold GB at h'
    split at h'
    ·rename_i v2 r2 h3 h4;cases h';rw[Sg h1 h3,Si h2 h4]
    cases h'
  cases h
theorem Sh {x:V}{u:Value}(h:HA x=some u)(c:Array Value):u≠ .agg c:=by
 cases x<;>simp only[HA,Option.some.injEq,reduceCtorEq]at h<;>subst h<;>simp
theorem Jz {x:V} {u:Value} (h:Al x=some u):(∃cs r,x= .agg cs∧GB cs=some r∧u= .agg r.toArray)∨HA x=some u:=by
 unfold Al at h
 split at h
 ·rename_i cs
  cases hr:GB cs with
  |none=>rw[hr]at h;cases h
  |some r=>rw[hr]at h;exact .inl ⟨cs,r,rfl,hr,(Option.some.inj h).symm⟩
 exact .inr h
theorem Nf {x y:V} {u:Value} (h:Al x=some u) (h':Al y=some u):x=y:=by
 rcases Jz h with⟨a,r,rfl,h1,rfl⟩|h1
 ·rcases Jz h' with⟨b,r2,rfl,h2,e⟩|h2
  ·have:r=r2:=by simpa using e
   subst this;rw[Si h1 h2]
  exact absurd rfl (Sh h2 _)
 rcases Jz h' with⟨b,r2,rfl,h2,rfl⟩|h2
 ·exact absurd rfl (Sh h1 _)
 exact Sg h1 h2
def CR :TypeDesc→Value→Prop
 | .array n _,v=>Kc .i64 n v
 | .struct fs,v=>Kc .i64 fs.size v
 |d,v=>IsKey d v
structure AW (d:TypeDesc) (o:Obj) (m:List (V×V)):Prop where
 ex:∃es clock,o= .map es clock∧es.toList.map (fun e=>(some e.key,some e.val))=m.map fun p=>(Al p.1,Al p.2)
 keys:∀p∈m,∃k,Al p.1=some k∧CR d k
 nodup:(m.map (·.1)).Nodup
 st:∀es clock,o= .map es clock→KY es clock
theorem AW.empty (d:TypeDesc):AW d (.map #[] 0) []:=⟨⟨_,_,rfl,rfl⟩,fun p h=>(by cases h),List.nodup_nil,fun es clock h=>by cases h;exact KY.empty⟩
theorem Gc {α:Type}{l:List α}(h:l.Nodup){i j:Nat}(hi:i<l.length)(hj:j<l.length)(e:l[i]=l[j]):i=j:=by
 have h:=List.pairwise_iff_getElem.1 h
 rcases Nat.lt_trichotomy i j with h1|h1|h1
 ·exact absurd e (h i j hi hj h1)
 ·exact h1
 exact absurd e.symm (h j i hj hi h1)
def Am1 (P:Program)(et:TypeId)(m:List (V×V))(key:V)(ok:Bool)(v:V):Prop:=
 ((∀p∈m,p.1≠key)∧∃z,Gt P et=some z∧v=if ok=true then .tup [z,.bool false]else z)∨∃y,(key,y)∈m∧v=if ok=true then .tup [y,.bool true]else y
def Af6 (P:Program)(H:A2)(t:TypeId)(x key:V)(ok:Bool)(v:V):Prop:=
 ∃kt et d kv id o m,P.underlying t=some (.map kt et)∧KG P kt (CR d)∧Al key=some kv∧CR d kv∧x= .map id∧H id=some (.obj o)∧AW d o m∧Am1 P et m key ok v
def VO (P:Program)(t:TypeId)(x key:V)(ok:Bool)(v:V):Prop:=
 ∃kt et ks xs n,P.underlying t=some (.map kt et)∧P.underlying kt=some (.int .i64)∧x= .fmap ks xs∧key= .int .i64 n∧ok=false∧((∃i:Nat,ks[i]? =some n∧v=xs.getD i .bad)∨((∀k∈ks,k≠n)∧Gt P et=some v))
def VN (P:Program) (H:A2) (t:TypeId) (x key:V) (ok:Bool) (v:V):Prop:=
 ∃kt et G kv id ks xs,P.underlying t=some (.map kt et)∧KG P kt G∧Al key=some kv∧G kv∧x= .map id∧H id=some (.vm ks xs)∧(∀k∈ks,G k)∧
  (((∀k∈ks,k≠kv)∧∃z z',Gt P et=some z∧BG z z'∧v=if ok=true then .tup [z',.bool false]else z')∨∃i:Nat,ks[i]? =some kv∧v=if ok=true then .tup [xs.getD i .bad,.bool true]else xs.getD i .bad)
def Kz (P:Program)(H:A2)(t:TypeId)(x key:V)(ok:Bool)(v:V):Prop:=Af6 P H t x key ok v∨VO P t x key ok v∨VN P H t x key ok v
def Af4 (H:A2)(K:V→A2→Prop):Prop:=(∀id,H id=none→K (.map id) (upd H id (some (.obj (.map #[] 0)))))∨(∀id,H id=none→K (.map id) (upd H id (some (.fm [] []))))∨∀id,H id=none→K (.map id) (upd H id (some (.vm [] [])))
def Vu (P:Program)(H:A2)(K:V→A2→Prop)(t:TypeId)(x key val:V):Prop:=
 ∃kt et ks xs n id,P.underlying t=some (.map kt et)∧P.underlying kt=some (.int .i64)∧x= .map id∧H id=some (.fm ks xs)∧key= .int .i64 n∧(∀k∈ks,k≠n)∧K .bad (upd H id (some (.fm (ks++[n]) (xs++[val]))))
def Ap6 (m:List (V×V))(k v:V)(m':List (V×V)):Prop:=
 ((∀p∈m,p.1≠k)∧m'=m++[(k,v)])∨∃a y b,m=a++(k,y)::b∧m'=a++(k,v)::b
def Ab0 (P:Program) (H:A2) (K:V→A2→Prop) (t:TypeId) (x key val:V):Prop:=
 ∃kt et d kv vv id o m m',P.underlying t=some (.map kt et)∧KG P kt (CR d)∧Al key=some kv∧CR d kv∧Al val=some vv∧x= .map id∧H id=some (.obj o)∧AW d o m∧Ap6 m key val m'∧
  ∀o',AW d o' m'→K .bad (upd H id (some (.obj o')))
def Vt (P:Program) (H:A2) (K:V→A2→Prop) (t:TypeId) (x key val:V):Prop:=
 ∃kt et G kv id ks xs,P.underlying t=some (.map kt et)∧KG P kt G∧Al key=some kv∧G kv∧x= .map id∧H id=some (.vm ks xs)∧(∀k∈ks,G k)∧
  (((∀k∈ks,k≠kv)∧K .bad (upd H id (some (.vm (ks++[kv]) (xs++[val])))))∨∃i:Nat,ks[i]? =some kv∧K .bad (upd H id (some (.vm ks (xs.set i val)))))
def Ip (P:Program)(H:A2)(K:V→A2→Prop)(t:TypeId)(x key val:V):Prop:=Ab0 P H K t x key val∨Vu P H K t x key val∨Vt P H K t x key val
theorem Pf {H:A2}{K K':V→A2→Prop}(h:Af4 H K)(hk:∀v H',K v H'→K' v H'):Af4 H K':=h.imp (fun h id hid=>hk _ _ (h id hid)) fun h=>h.imp (fun h id hid=>hk _ _ (h id hid)) fun h id hid=>hk _ _ (h id hid)
theorem Ec {P:Program}{H:A2}{K K':V→A2→Prop}{t:TypeId}{x key val:V}(h:Ip P H K t x key val)(hk:∀H',K .bad H'→K' .bad H'):Ip P H K' t x key val:=by
 rcases h with⟨kt,et,d,kv,vv,id,o,m,m',h1,h2,h3,h4,h5,h6,h7,h8,h9,h⟩|⟨kt,et,ks,xs,n,id,h1,h2,h3,h4,h5,h6,h⟩|⟨kt,et,G,kv,id,ks,xs,h1,h2,h3,h4,h5,h6,h7,h⟩
 ·exact .inl ⟨kt,et,d,kv,vv,id,o,m,m',h1,h2,h3,h4,h5,h6,h7,h8,h9,fun o' ho=>hk _ (h o' ho)⟩
 ·exact .inr (.inl ⟨kt,et,ks,xs,n,id,h1,h2,h3,h4,h5,h6,hk _ h⟩)
 exact .inr (.inr ⟨kt,et,G,kv,id,ks,xs,h1,h2,h3,h4,h5,h6,h7,h.imp (fun h=>⟨h.1,hk _ h.2⟩) fun⟨i,a,b⟩=>⟨i,a,hk _ b⟩⟩)
theorem Qy {P:Program}{H H':A2}{t:TypeId}{x key v:V}{ok:Bool}(hl:∀id b,H id=some b→H' id=some b)(h:Kz P H t x key ok v):Kz P H' t x key ok v:=by
 rcases h with⟨kt,et,d,kv,id,o,m,h1,h2,h3,h4,h5,h6,h7⟩|h|⟨kt,et,G,kv,id,ks,xs,h1,h2,h3,h4,h5,h6,h7⟩
 ·exact .inl ⟨kt,et,d,kv,id,o,m,h1,h2,h3,h4,h5,hl _ _ h6,h7⟩
 ·exact .inr (.inl h)
 exact .inr (.inr ⟨kt,et,G,kv,id,ks,xs,h1,h2,h3,h4,h5,hl _ _ h6,h7⟩)
theorem AW.entry {d:TypeDesc} {m:List (V×V)} {es:Array MapEntry} (he:es.toList.map (fun e=>(some e.key,some e.val))=m.map fun p=>(Al p.1,Al p.2)) (j:Nat):
 (∀e,es[j]? =some e→∃p,m[j]? =some p∧Al p.1=some e.key∧Al p.2=some e.val)∧∀p,m[j]? =some p→∃e,es[j]? =some e∧Al p.1=some e.key∧Al p.2=some e.val:=by
 have:=congrArg (fun l=>l[j]?) he
 simp only[List.getElem?_map,Array.getElem?_toList]at this
 constructor
 ·intro e h
  rw[h]at this
  cases hm:m[j]? with
  |none=>rw[hm]at this;cases this
  |some p=>rw[hm]at this;simp at this;exact⟨p,rfl,this.1.symm,this.2.symm⟩
 intro p h
 rw[h]at this
 cases hm:es[j]? with
 |none=>rw[hm]at this;cases this
 |some e=>rw[hm]at this;simp at this;exact⟨e,rfl,this.1.symm,this.2.symm⟩
theorem AW.isKeys {d:TypeDesc}{m:List (V×V)}{es:Array MapEntry}(he:es.toList.map (fun e=>(some e.key,some e.val))=m.map fun p=>(Al p.1,Al p.2))(hk:∀p∈m,∃k,Al p.1=some k∧CR d k):∀e∈es.toList,CR d e.key:=by
 intro e h;obtain⟨j,hj,e1⟩:=List.getElem_of_mem h;obtain⟨p,h1,h2,_⟩:=(AW.entry (d:=d) he j).1 e (by rw[←Array.getElem?_toList,List.getElem?_eq_getElem hj,e1]);obtain⟨k,h3,h4⟩:=hk p (List.mem_of_getElem? h1)
 rw[h2]at h3;cases h3;exact h4
theorem LY {w:World}{b:Nat}{o o':Obj}(hw:w.heap[b]? =some o)(hc:Obj.isCells o=false)(hc':Obj.isCells o'=false)(x i:Nat):(w.putObj b o').cell? ⟨x,i,none⟩=w.cell? ⟨x,i,none⟩:=by
 by_cases h:x=b
 ·subst h;have h1:=World.putObj_heap_same (w:=w) (o:=o') (Qw hw);simp only[World.cell?,h1,hw];cases o<;>cases o'<;>simp_all[Obj.isCells]
 exact World.cell?_of_block (w:=w) (a:=⟨x,i,none⟩) (World.putObj_heap_other h)
theorem Rl.putObj {g:Gh} {H:A2} {w:World} (h:Rl g H w) {id b:Nat} {o o':Obj} (hk:H id=some (.obj o)) (hb:g.mu id=some b) (hc':Obj.isCells o'=false):
 T4 g w g (w.putObj b o')∧Rl g (upd H id (some (.obj o'))) (w.putObj b o'):=by
 obtain⟨b',h1,h2,h3,h4⟩:=h.blk id _ hk
 have e:b'=b:=by rw[hb]at h1;exact(Option.some.inj h1).symm
 subst e;have hcell:=LY (o':=o') h3 h4 hc'
 have s:T4 g w g (w.putObj b' o'):=by
  refine⟨fun _ _ e=>e,fun _ _ e=>e,fun _ _ e=>e,rfl,fun b o _=>hcell b o,⟨rfl,rfl,rfl,by simp,fun k hk=>World.putObj_heap_other (by omega)⟩,fun _ _ _=>rfl,Nat.le_refl _⟩
 have hat:∀x,g.at (upd H id (some (.obj o'))) x=g.at H x:=by
  intro x
  by_cases hx:x=id
  ·subst hx;simp[Gh.at,B7,hk]
  simp only[Gh.at,A7 _ _ hx]
 have hid:g.at H id=some b':=by simp[Gh.at,hk,hb]
 refine⟨s,fun x k hx=>?_,fun x x' y h1 h2=>h.inj x x' y (hat x▸h1) (hat x'▸h2),fun y o hf=>?_,fun x hx=>?_,?_,fun n=>(h.glb n).mono s⟩
 ·by_cases hxe:x=id
  ·subst hxe;rw[B7]at hx;cases hx
   exact⟨b',hb,h2,World.putObj_heap_same (Qw h3),hc'⟩
  rw[A7 _ _ hxe]at hx
  refine(h.blk x k hx).mono hx s fun y hy=>⟨World.putObj_heap_other fun e=>?_,fun _ ho=>ho⟩;subst e;exact hxe (h.inj _ _ _ hy hid)
 ·obtain⟨v,hv'⟩:=h.frz y o hf;exact⟨v,(hcell y o).trans hv'⟩
 ·obtain⟨a1,a2,a3⟩:=h.nxt x hx
  have hne:x≠id:=fun e=>by subst e;rw[hk]at a3;cases a3
  exact⟨a1,a2,by rw[A7 _ _ hne];exact a3⟩
 have:=h.bnd;simp;omega
def Fa.fixed :Fa→Bool
 | .obj _=>true
 | .loop _=>true
 | .iter _ _ _ _=>true
 | .fm _ _=>true
 | .vm _ _=>true
 |_=>false
theorem Jk.fixed {g:Gh}{w:World}{id:Nat}{k:Fa}(hk:k.fixed=true)(h:Jk g w id k):∃b o,g.mu id=some b∧g.base≤b∧w.heap[b]? =some o∧Obj.isCells o=false:=by
 cases k with
 |cells _=>cases hk
 |spare=>cases hk
 |obj o=>obtain⟨b,h1,h2,h3,h4⟩:=h;exact⟨b,o,h1,h2,h3,h4⟩
 |loop L=>obtain⟨b,r,h1,h2,h3,_⟩:=h;exact⟨b,_,h1,h2,h3,rfl⟩
 |arr _ _=>cases hk
 |fm ks xs=>obtain⟨b,es,clock,h1,h2,h3,_⟩:=h;exact⟨b,_,h1,h2,h3,rfl⟩
 |vm ks xs=>obtain⟨b,es,clock,h1,h2,h3,_⟩:=h;exact⟨b,_,h1,h2,h3,rfl⟩
 |iter mid since seen c0=>obtain⟨b,bm,h1,h2,_,h3⟩:=h;exact⟨b,_,h1,h2,h3,rfl⟩
theorem Gh.at_fixed {g:Gh}{H:A2}{id:Nat}{k:Fa}(hk:k.fixed=true)(h:H id=some k):g.at H id=g.mu id:=by
 cases k<;>simp_all[Gh.at,Fa.fixed]
theorem Rl.putGen {g:Gh} {H:A2} {w:World} (h:Rl g H w) {id b:Nat} {k k':Fa} {o':Obj} (hf:k.fixed=true) (hf':k'.fixed=true) (hk:H id=some k) (hb:g.mu id=some b) (hc':Obj.isCells o'=false)
 (hok:T4 g w g (w.putObj b o')→(w.putObj b o').heap[b]? =some o'→g.base≤b→Jk g (w.putObj b o') id k'):
 T4 g w g (w.putObj b o')∧Rl g (upd H id (some k')) (w.putObj b o'):=by
 obtain⟨b',o,h1,h2,h3,h4⟩:=(h.blk id _ hk).fixed hf
 have e:b'=b:=by rw[hb]at h1;exact(Option.some.inj h1).symm
 subst e;have hcell:=LY (o':=o') h3 h4 hc'
 have s:T4 g w g (w.putObj b' o'):=by
  refine⟨fun _ _ e=>e,fun _ _ e=>e,fun _ _ e=>e,rfl,fun b o _=>hcell b o,⟨rfl,rfl,rfl,by simp,fun k hk=>World.putObj_heap_other (by omega)⟩,fun _ _ _=>rfl,Nat.le_refl _⟩
 have hat:∀x,g.at (upd H id (some k')) x=g.at H x:=by
  intro x
  by_cases hx:x=id
  ·subst hx;rw[Gh.at_fixed hf' (B7 _ _ _),Gh.at_fixed hf hk]
  simp only[Gh.at,A7 _ _ hx]
 have hid:g.at H id=some b':=by rw[Gh.at_fixed hf hk,hb]
 refine⟨s,fun x k hx=>?_,fun x x' y h1 h2=>h.inj x x' y (hat x▸h1) (hat x'▸h2),fun y o hf=>?_,fun x hx=>?_,?_,fun n=>(h.glb n).mono s⟩
 ·by_cases hxe:x=id
  ·subst hxe;rw[B7]at hx;cases hx
   exact hok s (World.putObj_heap_same (Qw h3)) h2
  rw[A7 _ _ hxe]at hx
  refine(h.blk x k hx).mono hx s fun y hy=>⟨World.putObj_heap_other fun e=>?_,fun _ ho=>ho⟩;subst e;exact hxe (h.inj _ _ _ hy hid)
 ·obtain⟨v,hv'⟩:=h.frz y o hf;exact⟨v,(hcell y o).trans hv'⟩
 ·obtain⟨a1,a2,a3⟩:=h.nxt x hx
  have hne:x≠id:=fun e=>by subst e;rw[hk]at a3;cases a3
  exact⟨a1,a2,by rw[A7 _ _ hne];exact a3⟩
 have:=h.bnd;simp;omega
section
variable {P:Program}{o:Oper}{fr:Fr}{H:A2}{K:V→A2→Prop}
theorem RG {t:TypeId}(ho:o.op= .makeMap t none)(h:∀id,H id=none→K (.map id) (upd H id (some (.obj (.map #[] 0))))):F6 P o fr H K:=by
 intro g w a hR hE;have s:=T4.new hR (.map #[] 0) False 0;have r:=hR.newNamed (.map #[] 0) (.obj (.map #[] 0)) (by simp) ⟨w.heap.size,by simp[Gh.new],hR.bnd,BX,rfl⟩;unfold execOp;rw[ho];simp only[Option.map_none,Instr.makeMap,Sem.run_bind,Sem.run_pure,run_newObj,Result.andThen_ok,G1];exact⟨_,_,_,s,r,.map (by simp[Gh.new]),h g.nx (hR.nxt _ (Nat.le_refl _)).2.2⟩
theorem LO {g:Gh}{w:World}{v:Value}{n:Int}(h:VR g w v (.int .i64 n)):v= .int .i64 n:=by cases h;rfl
theorem Zx {es:Array MapEntry}{ks:List Int}(hk:es.toList.map (·.key)=ks.map (Value.int .i64)){j:Nat}{e:MapEntry}(he:es[j]? =some e):∃k,ks[j]? =some k∧e.key= .int .i64 k:=by
 have:=congrArg (fun l=>l[j]?) hk
 simp only[List.getElem?_map,Array.getElem?_toList,he,Option.map_some]at this
 cases hj:ks[j]? with
 |none=>rw[hj]at this;cases this
 |some k=>rw[hj]at this;exact⟨k,rfl,by simpa using this⟩
theorem VZ {es:Array MapEntry}{ks:List Int}(hk:es.toList.map (·.key)=ks.map (Value.int .i64)):∀e∈es.toList,IsKey (.int .i64) e.key:=by
 intro e he;obtain⟨j,hj,e1⟩:=List.getElem_of_mem he;obtain⟨k,_,h2⟩:=Zx hk (j:=j) (e:=e) (by rw[←Array.getElem?_toList,List.getElem?_eq_getElem hj,e1]);rw[h2];rfl
theorem RK {t:TypeId} {x y:Operand} {ok:Bool} {v:V} (ho:o.op= .lookup t x y ok) (hl:VO P t (ev fr x) (ev fr y) ok v) (h:K v H):F6 P o fr H K:=by
 intro g w a hR hE;obtain⟨kt,et,ks,xs,n,h1,h2,h3,h4,rfl,h5⟩:=hl;have hx:=D9 hR hE x;have hy:=D9 hR hE y
 rw[h4]at hy
 have hy:=LO hy
 rw[h3]at hx
 generalize hav:a.eval x=xv at hx
 cases hx with
 | fmap hb hw hk hn hlen hv=>
  rename_i b es clock;have hks:=VZ hk;have hIs:IsKey (.int .i64) (Value.int .i64 n):=rfl;unfold execOp;rw[ho];simp only[hav,hy,Instr.lookup,Sem.run_bind,run_underlying h1,Result.andThen_ok,Go.MapKept.run_getObj_map hw,Sem.run_pure,run_checkKey h2 hIs]
  rcases findNow_spec hIs es.toList 0 hks with⟨f1,f2⟩|⟨j,e,f1,f2,f3⟩
  ·simp only[run_findKey h2 f1,Result.andThen_ok]
   rcases h5 with⟨i,q1,q2⟩|⟨q1,q2⟩
   ·exfalso;have:=congrArg (fun l=>l[i]?) hk
    simp only[List.getElem?_map,Array.getElem?_toList,q1,Option.map_some]at this
    cases he:es[i]? with
    |none=>rw[he]at this;cases this
    |some e=>rw[he]at this;exact f2 e (Array.mem_toList_iff.2 (Array.mem_of_getElem? he)) (by simpa using this)
   obtain⟨zv,ez,hz⟩:=CA q2
   have hzr:VR g w zv v:=by rw[ez];exact Dl g w zv
   simp only[Sem.run_bind,hz,Result.andThen_ok,Sem.run_pure,G1];exact J7.here hR hzr h
  simp only[run_findKey h2 f1,Result.andThen_ok,Sem.run_pure,G1]
  have f2':es[j]? =some e:=by simpa using f2
  obtain⟨k,g1,g2⟩:=Zx hk f2'
  have hkn:k=n:=by rw[f3]at g2;simpa using g2.symm
  subst hkn;have hvr:=hv j e f2'
  rcases h5 with⟨i,q1,q2⟩|⟨q1,q2⟩
  ·have hj:j<ks.length:=by
    rcases Nat.lt_or_ge j ks.length with h'|h'
    ·exact h'
    rw[List.getElem?_eq_none h']at g1;cases g1
   have hi:i<ks.length:=by
    rcases Nat.lt_or_ge i ks.length with h'|h'
    ·exact h'
    rw[List.getElem?_eq_none h']at q1;cases q1
   have:i=j:=Gc hn hi hj (by rw[List.getElem?_eq_getElem hi]at q1;rw[List.getElem?_eq_getElem hj]at g1;rw[Option.some.inj q1,Option.some.inj g1]);subst this
   rw[←q2]at hvr
   exact J7.here hR hvr h
  exact absurd rfl (q1 k (List.mem_of_getElem? g1))
theorem Qf {t:TypeId}(ho:o.op= .makeMap t none)(h:∀id,H id=none→K (.map id) (upd H id (some (.fm [] [])))):F6 P o fr H K:=by
 intro g w a hR hE;have s:=T4.new hR (.map #[] 0) False 0;have r:=hR.newNamed (.map #[] 0) (.fm [] []) (by simp) ⟨w.heap.size, #[],0,by simp[Gh.new],hR.bnd,BX,rfl,List.nodup_nil,rfl,fun i e hi=>by simp at hi⟩;unfold execOp;rw[ho];simp only[Option.map_none,Instr.makeMap,Sem.run_bind,Sem.run_pure,run_newObj,Result.andThen_ok,G1];exact⟨_,_,_,s,r,.map (by simp[Gh.new]),h g.nx (hR.nxt _ (Nat.le_refl _)).2.2⟩
theorem MT {t:TypeId} {x y z:Operand} (ho:o.op= .mapUpdate t x y z∨o.op= .insert t x y z) (hl:Vu P H K t (ev fr x) (ev fr y) (ev fr z)):F6 P o fr H K:=by
 intro g w a hR hE;obtain⟨kt,et,ks,xs,n,id,h1,h2,h3,h4,h5,h6,h⟩:=hl;have hx:=D9 hR hE x;have hy:=D9 hR hE y;have hz:=D9 hR hE z
 rw[h5]at hy
 have hy:=LO hy
 rw[h3]at hx
 generalize hav:a.eval x=xv at hx
 cases hx with
 | map hm=>
  rename_i b;obtain⟨b',es,clock,k1,k2,k3,k4,k5,k6,k7⟩:=hR.blk id _ h4
  rw[hm]at k1;cases k1
  have hks:=VZ k4;have hIs:IsKey (.int .i64) (Value.int .i64 n):=rfl
  have hne:∀e∈es.toList,e.key≠ .int .i64 n:=by
   intro e he hc;obtain⟨j,hj,e1⟩:=List.getElem_of_mem he;obtain⟨k,q1,q2⟩:=Zx k4 (j:=j) (e:=e) (by rw[←Array.getElem?_toList,List.getElem?_eq_getElem hj,e1])
   rw[hc]at q2
   exact h6 k (List.mem_of_getElem? q1) (by simpa using q2.symm)
  rcases findNow_spec hIs es.toList 0 hks with⟨f1,f2⟩|⟨j,e,f1,f2,f3⟩
  ·have hes:es.size=ks.length:=by have:=congrArg List.length k4;simpa using this
   obtain⟨q1,q2⟩:=hR.putGen (k':=.fm (ks++[n]) (xs++[ev fr z])) (o':=.map (es.push {key:=.int .i64 n,val:=a.eval z,born:=clock}) (clock+1)) rfl rfl h4 hm rfl fun s hh hb=>
    ⟨b,_,_,hm,hb,hh,by simp[k4],by
     rw[List.nodup_append];exact⟨k5,by simp,fun x hx y hy=>by simp at hy;subst hy;exact h6 x hx⟩,by simp[k6],fun i e hi=>by
     rw[Array.getElem?_push]at hi
     split at hi
     ·rename_i hie;cases hi
      have:i=xs.length:=by omega
      subst this
      simpa using hz.mono s
     rename_i hie
     have hlt:i<xs.length:=by
      have:=(Array.getElem?_eq_some_iff.1 hi).1;omega
     have:=(k7 i e hi).mono s
     simpa[List.getD_eq_getElem?_getD,List.getElem?_append_left hlt]using this⟩
   have hr:(Instr.mapUpdate t (.map (some b)) (.int .i64 n) (a.eval z)).run P w= .ok () (w.putObj b (.map (es.push {key:=.int .i64 n,val:=a.eval z,born:=clock}) (clock+1))):=by
    simp only[Instr.mapUpdate,Sem.run_bind,run_underlying h1,Result.andThen_ok,Go.MapKept.run_getObj_map k3,run_checkKey h2 hIs,run_findKey h2 f1,run_setObj_map _ k3];rfl
   have hex:(execOp a.eval o).run P w= .ok .skip (w.putObj b (.map (es.push {key:=.int .i64 n,val:=a.eval z,born:=clock}) (clock+1))):=by
    unfold execOp
    rcases ho with ho|ho<;>rw[ho]<;>simp only[hav,hy,Sem.run_bind,hr,Result.andThen_ok,Sem.run_pure]
   rw[hex];exact⟨_,_,_,q1,q2,.bad _,h⟩
  have f2':es[j]? =some e:=by simpa using f2
  exact absurd f3 (hne e (Array.mem_toList_iff.2 (Array.mem_of_getElem? f2')))
theorem Aj8 {es:Array MapEntry}{ks:List Value}(hk:es.toList.map (·.key)=ks){j:Nat}{e:MapEntry}(he:es[j]? =some e):ks[j]? =some e.key:=by
 rw[←hk];simp[he]
theorem Vq {G:Value→Prop}{es:Array MapEntry}{ks:List Value}(hk:es.toList.map (·.key)=ks)(hG:∀k∈ks,G k):∀e∈es.toList,G e.key:=fun e he=>
 hG _ (by rw[←hk];exact List.mem_map_of_mem he)
theorem TR {ks:List Value}(hn:ks.Nodup){i j:Nat}{k:Value}(hi:ks[i]? =some k)(hj:ks[j]? =some k):i=j:=by
 obtain⟨h1,e1⟩:=List.getElem?_eq_some_iff.1 hi;obtain⟨h2,e2⟩:=List.getElem?_eq_some_iff.1 hj;exact Gc hn h1 h2 (by rw[e1,e2])
theorem RJ {t:TypeId} {x y:Operand} {ok:Bool} {v:V} (ho:o.op= .lookup t x y ok) (hl:VN P H t (ev fr x) (ev fr y) ok v) (h:K v H):F6 P o fr H K:=by
 intro g w a hR hE;obtain⟨kt,et,G,kv,id,ks,xs,h1,h2,h3,h4,h5,h6,h7,h8⟩:=hl;have hx:=D9 hR hE x;have hy:=Hz h3 (D9 hR hE y)
 rw[h5]at hx
 generalize hav:a.eval x=xv at hx
 cases hx with
 | map hm=>
  rename_i b;obtain⟨b',es,clock,k1,k2,k3,k4,k5,k6,k7⟩:=hR.blk id _ h6
  rw[hm]at k1;cases k1
  have hks:=Vq k4 h7;unfold execOp;rw[ho];simp only[hav,hy,Instr.lookup,Sem.run_bind,run_underlying h1,Result.andThen_ok,Go.MapKept.run_getObj_map k3,Sem.run_pure,(fun em=>h2.check w em h4)]
  rcases h2.find w h4 es.toList hks with⟨f1,f2⟩|⟨j,e,f1,f2,f3⟩
  ·simp only[f1,Result.andThen_ok]
   rcases h8 with⟨q1,z,z',q2,q4,q3⟩|⟨i,q1,q2⟩
   ·obtain⟨zv,ez,hz⟩:=CA q2;have hzr:VR g w zv z':=VR.le (by rw[ez];exact Dl g w zv) q4;simp only[Sem.run_bind,hz,Result.andThen_ok,Sem.run_pure,G1];subst q3;cases ok
    ·exact J7.here hR hzr h
    refine J7.here hR (.tup rfl fun i hi=>?_) h
    match i with
    |0=>exact hzr
    |1=>exact .bool _
    |i+2=>simp at hi;omega
   exfalso
   rw[←k4]at q1
   simp only[List.getElem?_map,Option.map_eq_some_iff]at q1
   obtain⟨en,g1,g2⟩:=q1;exact f2 en (List.mem_of_getElem? g1) g2
  simp only[f1,Result.andThen_ok,Sem.run_pure,G1]
  have f2':es[j]? =some e:=by simpa using f2
  have g1:=Aj8 k4 f2'
  rw[f3]at g1
  rcases h8 with⟨q1,_⟩|⟨i,q1,q2⟩
  ·exact absurd rfl (q1 kv (List.mem_of_getElem? g1))
  have hij:=TR k5 q1 g1;subst hij;have hvr:=k7 i e f2';subst q2;cases ok
  ·exact J7.here hR hvr h
  refine J7.here hR (.tup rfl fun i hi=>?_) h
  match i with
  |0=>exact hvr
  |1=>exact .bool _
  |i+2=>simp at hi;omega
theorem Qe {t:TypeId}(ho:o.op= .makeMap t none)(h:∀id,H id=none→K (.map id) (upd H id (some (.vm [] [])))):F6 P o fr H K:=by
 intro g w a hR hE;have s:=T4.new hR (.map #[] 0) False 0;have r:=hR.newNamed (.map #[] 0) (.vm [] []) (by simp) ⟨w.heap.size, #[],0,by simp[Gh.new],hR.bnd,BX,rfl,List.nodup_nil,rfl,fun i e hi=>by simp at hi⟩;unfold execOp;rw[ho];simp only[Option.map_none,Instr.makeMap,Sem.run_bind,Sem.run_pure,run_newObj,Result.andThen_ok,G1];exact⟨_,_,_,s,r,.map (by simp[Gh.new]),h g.nx (hR.nxt _ (Nat.le_refl _)).2.2⟩
theorem MS {t:TypeId} {x y z:Operand} (ho:o.op= .mapUpdate t x y z∨o.op= .insert t x y z) (hl:Vt P H K t (ev fr x) (ev fr y) (ev fr z)):F6 P o fr H K:=by
 intro g w a hR hE;obtain⟨kt,et,G,kv,id,ks,xs,h1,h2,h3,h4,h5,h6,h7,h8⟩:=hl;have hx:=D9 hR hE x;have hy:=Hz h3 (D9 hR hE y);have hz:=D9 hR hE z
 rw[h5]at hx
 generalize hav:a.eval x=xv at hx
 cases hx with
 | map hm=>
  rename_i b;obtain⟨b',es,clock,k1,k2,k3,k4,k5,k6,k7⟩:=hR.blk id _ h6
  rw[hm]at k1;cases k1
  have hks:=Vq k4 h7
  have hes:es.size=ks.length:=by have:=congrArg List.length k4;simpa using this
  have run:∀es' clock' k',(Instr.mapUpdate t (.map (some b)) kv (a.eval z)).run P w= .ok () (w.putObj b (.map es' clock'))→
   (T4 g w g (w.putObj b (.map es' clock'))∧Rl g (upd H id (some k')) (w.putObj b (.map es' clock')))→K .bad (upd H id (some k'))→G1 P (J7 g w K) ((execOp a.eval o).run P w):=by
   intro es' clock' k' hr q h
   have hex:(execOp a.eval o).run P w= .ok .skip (w.putObj b (.map es' clock')):=by
    unfold execOp
    rcases ho with ho|ho<;>rw[ho]<;>simp only[hav,hy,Sem.run_bind,hr,Result.andThen_ok,Sem.run_pure]
   rw[hex];exact⟨_,_,_,q.1,q.2,.bad _,h⟩
  rcases h2.find w h4 es.toList hks with⟨f1,f2⟩|⟨j,e,f1,f2,f3⟩
  ·have hne:∀k∈ks,k≠kv:=fun k hk he=>by
    rw[←k4]at hk
    obtain⟨en,g1,g2⟩:=List.mem_map.1 hk;exact f2 en g1 (g2.trans he)
   rcases h8 with⟨_,h⟩|⟨i,q1,_⟩
   ·refine run (es.push {key:=kv,val:=a.eval z,born:=clock}) (clock+1) (.vm (ks++[kv]) (xs++[ev fr z])) ?_ ?_ h
    ·simp only[Instr.mapUpdate,Sem.run_bind,run_underlying h1,Result.andThen_ok,Go.MapKept.run_getObj_map k3,(fun em=>h2.check w em h4),f1,run_setObj_map _ k3];rfl
    exact hR.putGen rfl rfl h6 hm rfl fun s hh hb=>
     ⟨b,_,_,hm,hb,hh,by simp[k4],by
      rw[List.nodup_append];exact⟨k5,by simp,fun x hx y hy=>by simp at hy;subst hy;exact hne x hx⟩,by simp[k6],fun i e hi=>by
      rw[Array.getElem?_push]at hi
      split at hi
      ·rename_i hie;cases hi
       have:i=xs.length:=by omega
       subst this
       simpa using hz.mono s
      rename_i hie
      have hlt:i<xs.length:=by
       have:=(Array.getElem?_eq_some_iff.1 hi).1;omega
      have:=(k7 i e hi).mono s
      simpa[List.getD_eq_getElem?_getD,List.getElem?_append_left hlt]using this⟩
   exact absurd rfl (hne kv (List.mem_of_getElem? q1))
  have f2':es[j]? =some e:=by simpa using f2
  have g1:=Aj8 k4 f2'
  rw[f3]at g1
  rcases h8 with⟨q1,_⟩|⟨i,q1,h⟩
  ·exact absurd rfl (q1 kv (List.mem_of_getElem? g1))
  have hij:=TR k5 q1 g1;subst hij;refine run (es.modify i fun e=>{e with key:=kv,val:=a.eval z}) clock (.vm ks (xs.set i (ev fr z))) ?_ ?_ h
  ·simp only[Instr.mapUpdate,Sem.run_bind,run_underlying h1,Result.andThen_ok,Go.MapKept.run_getObj_map k3,(fun em=>h2.check w em h4),f1,f2',Option.map_some,Option.getD_some,f3,h2.stays w h4,run_setObj_map _ k3];rfl
  exact hR.putGen rfl rfl h6 hm rfl fun s hh hb=>
   ⟨b,_,_,hm,hb,hh,by
    apply List.ext_getElem?;intro m;simp only[List.getElem?_map,Array.getElem?_toList,Array.getElem?_modify];rw[←k4]
    by_cases hi:i=m
    ·subst hi;simp[f2',f3]
    ·rw[if_neg hi];simp,k5,by simp[k6],fun m en hi=>by
    rw[Array.getElem?_modify]at hi
    by_cases hmi:i=m
    ·subst hmi
     rw[if_pos rfl,f2']at hi
     cases hi
     have hlt:i<xs.length:=by
      have:=(Array.getElem?_eq_some_iff.1 f2').1;omega
     simpa[List.getD_eq_getElem?_getD,List.getElem?_set,hlt]using hz.mono s
    rw[if_neg hmi]at hi
    have:=(k7 m en hi).mono s
    simpa[List.getD_eq_getElem?_getD,List.getElem?_set,hmi]using this⟩
theorem Ue {t:TypeId} {x y:Operand} {ok:Bool} {v:V} (ho:o.op= .lookup t x y ok) (hl:Kz P H t (ev fr x) (ev fr y) ok v) (h:K v H):F6 P o fr H K:=by
 refine hl.elim (fun hl=>?_) fun hl=>hl.elim (fun hl=>RK ho hl h) fun hl=>RJ ho hl h;intro g w a hR hE;obtain⟨kt,et,d,kv,id,ob,m,h1,h2,h3,h4,h5,h6,h7,h8⟩:=hl;have hx:=D9 hR hE x;have hy:=Hz h3 (D9 hR hE y)
 rw[h5]at hx
 generalize hav:a.eval x=xv at hx
 cases hx with
 | map hm=>
  rename_i b;obtain⟨b',k1,k2,k3,k4⟩:=hR.blk id _ h6
  rw[hm]at k1;cases k1
  obtain⟨⟨es,clock,e1,e2⟩,hk,hn⟩:=h7;subst e1;have hks:=AW.isKeys e2 hk;unfold execOp;rw[ho];simp only[hav,hy,Instr.lookup,Sem.run_bind,run_underlying h1,Result.andThen_ok,Go.MapKept.run_getObj_map k3,Sem.run_pure,(fun em=>h2.check w em h4)]
  rcases h2.find w h4 es.toList hks with⟨f1,f2⟩|⟨j,e,f1,f2,f3⟩
  ·simp only[f1,Result.andThen_ok]
   rcases h8 with⟨q1,z,q2,q3⟩|⟨y',q1,q2⟩
   ·obtain⟨zv,ez,hz⟩:=CA q2
    have hzr:VR g w zv z:=by rw[ez];exact Dl g w zv
    simp only[Sem.run_bind,hz,Result.andThen_ok,Sem.run_pure,G1];subst q3;cases ok
    ·exact J7.here hR hzr h
    refine J7.here hR (.tup rfl fun i hi=>?_) h
    match i with
    |0=>exact hzr
    |1=>exact .bool _
    |i+2=>simp at hi;omega
   exfalso;obtain⟨i,hi,e⟩:=List.getElem_of_mem q1;obtain⟨en,g1,g2,g3⟩:=(AW.entry (d:=d) e2 i).2 _ (by rw[List.getElem?_eq_getElem hi,e])
   rw[h3]at g2
   exact f2 en (Array.mem_toList_iff.2 (Array.mem_of_getElem? g1)) (Option.some.inj g2).symm
  simp only[f1,Result.andThen_ok,Sem.run_pure,G1]
  have f2':es[j]? =some e:=by simpa using f2
  obtain⟨p,g1,g2,g3⟩:=(AW.entry (d:=d) e2 j).1 e f2';have hpk:p.1=ev fr y:=Nf g2 (by rw[h3,f3])
  rcases h8 with⟨q1,_⟩|⟨y',q1,q2⟩
  ·exact absurd hpk (q1 p (List.mem_of_getElem? g1))
  have hpy:p.2=y':=by
   obtain⟨i,hi,e⟩:=List.getElem_of_mem q1
   have hj:j<m.length:=by
    rcases Nat.lt_or_ge j m.length with h'|h'
    ·exact h'
    rw[List.getElem?_eq_none h']at g1;cases g1
   have e3:m[j]=p:=by rw[List.getElem?_eq_getElem hj]at g1;exact Option.some.inj g1
   have:i=j:=Gc hn (by simpa using hi) (by simpa using hj) (by simp[e,e3,hpk]);subst this;rw[←e3,e]
  rw[hpy]at g3
  have hvr:VR g w e.val y':=Yz g3;subst q2;cases ok
  ·exact J7.here hR hvr h
  refine J7.here hR (.tup rfl fun i hi=>?_) h
  match i with
  |0=>exact hvr
  |1=>exact .bool _
  |i+2=>simp at hi;omega
theorem AW.set {d:TypeDesc} {m m':List (V×V)} {es:Array MapEntry} {clock:Nat} {key val:V} {kv vv:Value} (h3:Al key=some kv) (h4:CR d kv) (h5:Al val=some vv)
 (e2:es.toList.map (fun e=>(some e.key,some e.val))=m.map fun p=>(Al p.1,Al p.2)) (hk:∀p∈m,∃k,Al p.1=some k∧CR d k) (hn:(m.map (·.1)).Nodup) (hst:KY es clock) (hs:Ap6 m key val m'):
 ((∀e∈es.toList,e.key≠kv)→AW d (.map (es.push {key:=kv,val:=vv,born:=clock}) (clock+1)) m')∧
 ∀(j:Nat) e,es[j]? =some e→e.key=kv→AW d (.map (es.modify j fun e=>{e with key:=kv,val:=vv}) clock) m':=by
 have key_of:∀(j:Nat) e,es[j]? =some e→e.key=kv→∃y,m[j]? =some (key,y):=fun j e hj hje=>by
  obtain⟨p,g1,g2,g3⟩:=(AW.entry (d:=d) e2 j).1 e hj;have:p.1=key:=Nf g2 (by rw[h3,hje]);exact⟨p.2,by rw[g1,←this]⟩
 constructor
 ·intro hne
  rcases hs with⟨q1,rfl⟩|⟨a,y,b,rfl,rfl⟩
  ·refine⟨⟨_,_,rfl,by simp[e2,h3,h5]⟩,fun p hp=>?_,?_,fun es clock h=>by cases h;exact hst.push _ _⟩
   ·rcases List.mem_append.1 hp with hp|hp
    ·exact hk p hp
    simp at hp;subst hp;exact⟨_,h3,h4⟩
   rw[List.map_append];refine List.nodup_append.2 ⟨hn,by simp,fun x hx z hz=>?_⟩
   simp at hz;subst hz
   obtain⟨p,hp,rfl⟩:=List.mem_map.1 hx;exact q1 p hp
  exfalso;obtain⟨e,g1,g2,_⟩:=(AW.entry (d:=d) e2 a.length).2 (key,y) (by simp)
  rw[h3]at g2
  exact hne e (Array.mem_toList_iff.2 (Array.mem_of_getElem? g1)) (Option.some.inj g2).symm
 intro j e hj hje;obtain⟨y0,hm⟩:=key_of j e hj hje
 rcases hs with⟨q1,rfl⟩|⟨a,y,b,rfl,rfl⟩
 ·exact absurd rfl (q1 _ (List.mem_of_getElem? hm))
 have hja:j=a.length:=by
  have hjl:j<(a++(key,y)::b).length:=by
   rcases Nat.lt_or_ge j (a++(key,y)::b).length with h'|h'
   ·exact h'
   rw[List.getElem?_eq_none h']at hm;cases hm
  have e3:(a++(key,y)::b)[j]=(key,y0):=by rw[List.getElem?_eq_getElem hjl]at hm;exact Option.some.inj hm
  exact Gc hn (by simpa using hjl) (by simp) (by rw[List.getElem_map,List.getElem_map,e3];simp)
 subst hja;refine⟨⟨_,_,rfl,?_⟩,fun p hp=>?_,?_,fun es clock h=>by cases h;exact hst.modify _ _ _⟩
 ·apply List.ext_getElem?;intro i;simp only[List.getElem?_map,Array.getElem?_toList,Array.getElem?_modify]
  by_cases hi:a.length=i
  ·subst hi;simp[hj,h3,h5]
  rw[if_neg hi];have:=congrArg (fun l=>l[i]?) e2
  simp only[List.getElem?_map,Array.getElem?_toList]at this
  rw[this]
  rcases Nat.lt_or_ge i a.length with h'|h'
  ·rw[List.getElem?_append_left h',List.getElem?_append_left h']
  rw[List.getElem?_append_right h',List.getElem?_append_right h'];obtain⟨q,hq⟩:∃q,i - a.length=q+1:=⟨i - a.length - 1,by omega⟩;rw[hq];rfl
 ·simp only[List.mem_append,List.mem_cons]at hp
  rcases hp with hp|rfl|hp
  ·exact hk p (by simp[hp])
  ·exact⟨_,h3,h4⟩
  exact hk p (by simp[hp])
 simpa using hn
theorem IZ {t:TypeId} {x y z:Operand} (ho:o.op= .mapUpdate t x y z∨o.op= .insert t x y z) (hl:Ip P H K t (ev fr x) (ev fr y) (ev fr z)):F6 P o fr H K:=by
 refine hl.elim (fun hl=>?_) fun hl=>hl.elim (MT ho) (MS ho);intro g w a hR hE;obtain⟨kt,et,d,kv,vv,id,ob,m,m',h1,h2,h3,h4,h5,h6,h7,h8,h9,h⟩:=hl;have hx:=D9 hR hE x;have hy:=Hz h3 (D9 hR hE y);have hz:=Hz h5 (D9 hR hE z)
 rw[h6]at hx
 generalize hav:a.eval x=xv at hx
 cases hx with
 | map hm=>
  rename_i b;obtain⟨b',k1,k2,k3,k4⟩:=hR.blk id _ h7
  rw[hm]at k1;cases k1
  obtain⟨⟨es,clock,e1,e2⟩,hk,hn,hst⟩:=h8;subst e1;have hks:=AW.isKeys e2 hk;obtain⟨s1,s2⟩:=AW.set (clock:=clock) h3 h4 h5 e2 hk hn (hst _ _ rfl) h9
  have run:∀o',AW d o' m'→(Instr.mapUpdate t (.map (some b)) kv vv).run P w= .ok () (w.putObj b o')→G1 P (J7 g w K) ((execOp a.eval o).run P w):=by
   intro o' ho' hr;obtain⟨q1,q2⟩:=hR.putObj (o':=o') h7 hm (by obtain⟨⟨_,_,e,_⟩,_⟩:=ho';rw[e];rfl)
   have hex:(execOp a.eval o).run P w= .ok .skip (w.putObj b o'):=by
    unfold execOp
    rcases ho with ho|ho<;>rw[ho]<;>simp only[hav,hy,hz,Sem.run_bind,hr,Result.andThen_ok,Sem.run_pure]
   rw[hex];exact⟨_,_,_,q1,q2,.bad _,h o' ho'⟩
  rcases h2.find w h4 es.toList hks with⟨f1,f2⟩|⟨j,e,f1,f2,f3⟩
  ·refine run _ (s1 f2) ?_;simp only[Instr.mapUpdate,Sem.run_bind,run_underlying h1,Result.andThen_ok,Go.MapKept.run_getObj_map k3,(fun em=>h2.check w em h4),f1,run_setObj_map _ k3];rfl
  have f2':es[j]? =some e:=by simpa using f2
  refine run _ (s2 j e f2' f3) ?_;simp only[Nat.zero_add,Instr.mapUpdate,Sem.run_bind,run_underlying h1,Result.andThen_ok,Go.MapKept.run_getObj_map k3,(fun em=>h2.check w em h4),f1,f2',Option.map_some,Option.getD_some,f3,h2.stays w h4,run_setObj_map _ k3];rfl
end
end Go.Ab
namespace Go.Ab
open Go.RowKit
variable [J9]
theorem Rl.lessArr {g:Gh} {H:A2} {w:World} (h:Rl g H w) {id sz:Nat} {xs ys:List V} (hk:H id=some (.arr sz xs)) (hl:H9 xs ys):Rl g (upd H id (some (.arr sz ys))) w:=by
 have el:=hl.length
 have hat:∀x,g.at (upd H id (some (.arr sz ys))) x=g.at H x:=by
  intro x
  by_cases hx:x=id
  ·subst hx;simp only[Gh.at,B7,hk,el]
  simp only[Gh.at,A7 _ _ hx]
 refine⟨fun x k hx=>?_,fun x x' y h1 h2=>h.inj x x' y (hat x▸h1) (hat x'▸h2),h.frz,fun x hx=>?_,h.bnd,h.glb⟩
 ·by_cases hxe:x=id
  ·subst hxe;rw[B7]at hx;cases hx
   obtain⟨b,h1,h2,h3,h4,h5⟩:=h.blk x _ hk;refine⟨b,h1,h2,h3.trans el,fun i hi=>?_,?_⟩
   ·rw[←(hl.at i).cells.length];exact h4 i (by omega)
   rw[←el];refine h5.imp (fun h=>h) fun⟨c,T,k1,k2,k3,k4,k5⟩=>⟨c,T,k1,k2,k3,fun i j hi hj=>⟨(k4 i j hi hj).1,(k4 i j hi hj).2.le ((hl.at i).cells.at j)⟩,k5⟩
  rw[A7 _ _ hxe]at hx;exact h.blk x k hx
 obtain⟨a1,a2,a3⟩:=h.nxt x hx
 have hne:x≠id:=fun e=>by subst e;rw[hk]at a3;cases a3
 exact⟨a1,a2,by rw[A7 _ _ hne];exact a3⟩
section
variable {P:Program}{o:Oper}{fr:Fr}{H:A2}{K:V→A2→Prop}
theorem F6.lessRow (h:F6 P o fr H fun x H'=>∃id sz xs ys,H' id=some (.arr sz xs)∧H9 xs ys∧K x (upd H' id (some (.arr sz ys)))):F6 P o fr H K:=by
 intro g w a hR hE;have h:=h g w a hR hE
 have key:∀v w',J7 g w (fun x H'=>∃id sz xs ys,H' id=some (.arr sz xs)∧H9 xs ys∧K x (upd H' id (some (.arr sz ys)))) v w'→J7 g w K v w':=by
  rintro v w' ⟨g',x,H',s,hR',hv,id,sz,xs,ys,h1,h2,h3⟩;exact⟨g',x,_,s,hR'.lessArr h1 h2,hv,h3⟩
 unfold G1 at h ⊢
 split at h
 ·exact key _ _ h
 ·exact key _ _ h
 ·exact h.mono fun e w' ⟨v,h1,h2⟩=>⟨v,h1,key _ _ h2⟩
 ·exact h.mono fun e w' ⟨v,h1,h2⟩=>⟨v,h1,key _ _ h2⟩
 exact h.elim
theorem LH {x:Operand}(ho:o.op= .assign x∨o.op= .move x)(hx:ev fr x= .sl [] .nil)(sz:Nat)(h:∀q,H q=none→K (.own q 0 0) (upd H q (some (.arr sz [])))):F6 P o fr H K:=by
 intro g w a hR hE;have hv:=D9 hR hE x
 rw[hx]at hv
 obtain⟨g1,s1,R1,hn,hv1⟩:=CZ hR sz (.inl rfl) hv;unfold execOp
 rcases ho with ho|ho<;>rw[ho]<;>exact⟨g1,_,_,s1,R1,hv1,h _ hn⟩
theorem Yl {t e:TypeId} {n sz:Nat} {parts:Array (Nat×Operand)} {xs ys:List V} (ho:o.op= .buildSlice t n parts) (hl:X8 P t n (parts.toList.map fun(p:Nat×Operand)=>(p.1,ev fr p.2))=some (.sl xs .full))
 (he:Fc P t=some e) (hs:Ed P e=some sz) (hle:H9 xs ys) (h:∀q,H q=none→K (.own q 0 (xs.length:Nat)) (upd H q (some (.arr sz ys)))):F6 P o fr H K:=by
 refine F6.lessRow ?_;intro g w a hR hE;obtain⟨e',sz',z,k1,k2,_,k3,k4,_,d,hrun,hdz,hdv⟩:=Hu hR hE hl
 rw[he]at k1;cases k1
 rw[hs]at k2;cases k2
 cases k3
 have hget:∀i,((parts.toList.map fun(p:Nat×Operand)=>(p.1,ev fr p.2)).map (fun(q:Nat×V)=>q.2)).getD i .bad=((parts.toList.map fun(p:Nat×Operand)=>(p.1,ev fr p.2)).getD i (0,.bad)).2:=by
  intro i;simp only[List.getD_eq_getElem?_getD,List.getElem?_map];cases parts.toList[i]? <;>rfl
 generalize hL:(parts.toList.map fun(p:Nat×Operand)=>(p.1,ev fr p.2))=L at *
 have hz:∀i,i<(L.map fun(q:Nat×V)=>q.2).length→((L.map fun(q:Nat×V)=>q.2).getD i .bad).cells.length=sz:=by
  intro i hi
  have:∀(m:List (Nat×V)) (k i:Nat),Be sz k m=true→i<m.length→(m.getD i (0,.bad)).2.cells.length=sz:=by
   intro m
   induction m with
   |nil=>intro k i _ hi;simp at hi
   |cons y m ih=>
    intro k i hs hi
    simp only[Be,Bool.and_eq_true,beq_iff_eq]at hs
    cases i with
    |zero=>exact hs.1.2
    |succ i=>exact ih (k+1) i hs.2 (by simpa using hi)
  rw[hget];exact this L 0 i (by assumption) (by simpa using hi)
 have el:(L.map fun(q:Nat×V)=>q.2).length=n:=by simpa using k4
 obtain⟨s,r,hn⟩:=Rl.newArr (w':=w.alloc (.cells d e)) hR (b:=w.heap.size) (o:=0) (sz:=sz) (ys:=L.map fun(q:Nat×V)=>q.2) hz (fun b q hf=>Ck (hR.fz_lt hf)) ((Below.refl _ _).alloc hR.bnd _) (fun x _ hlt=>heap_alloc hlt)
  (.inr ⟨d,e,hR.bnd,BX,by rw[hdz,el];omega,fun i j hi hj=>by
   rw[Nat.zero_add,hget];exact(hdv i j (by omega) hj).2,fun q _ hf=>absurd (hR.fz_lt hf) (Nat.lt_irrefl _),fun id hid=>absurd (hR.lt hid) (Nat.lt_irrefl _)⟩)
 unfold execOp;rw[ho];simp only[Sem.run_bind,hrun,Result.andThen_ok,Sem.run_pure,G1];refine⟨_,.own g.nx 0 ((L.map fun(q:Nat×V)=>q.2).length:Nat),_,s,r,?_,g.nx,sz,_,ys,B7 _ _ _,hle,?_⟩
 ·have e':(g.own w.heap.size ⟨0,(L.map fun(q:Nat×V)=>q.2).length,sz⟩).ow g.nx=⟨0,(L.map fun(q:Nat×V)=>q.2).length,sz⟩:=by simp[Gh.own]
  have:=VR.own (g:=g.own w.heap.size ⟨0,(L.map fun(q:Nat×V)=>q.2).length,sz⟩) (w:=w.alloc (.cells d e)) (id:=g.nx) (b:=w.heap.size) (lo:=0) (n:=((L.map fun(q:Nat×V)=>q.2).length:Nat)) (p:=some ⟨w.heap.size,0,none⟩) (by simp[Gh.own]) (by omega) (by omega) (by rw[e'];simp) (by rw[e'];simp)
  rw[e']at this
  simpa[el]using this
 rw[Bu];exact h _ hn
def strL (l:List Int):ByteArray:=l.foldl (fun r n=>r.push (UInt8.ofNat n.toNat)) ByteArray.empty
def PC (P:Program)(H:A2)(s d:TypeId)(x v:V):Prop:=
 ∃e l,Fc P s=some e∧P.underlying e=some (.int .u8)∧P.underlying d=some .string∧Oh 1 H x (l.map (V.int .u8))∧v= .str (strL l)
theorem Oh.up {sz:Nat}{H H':A2}{x:V}{ys:List V}(hl:∀id b,H id=some b→H' id=some b)(h:Oh sz H x ys):Oh sz H' x ys:=by
 unfold Oh at h ⊢
 split at h
 ·exact h
 ·obtain⟨xs,h1,h2⟩:=h;exact⟨xs,hl _ _ h1,h2⟩
 exact h
theorem Vc {P:Program}{H H':A2}{s d:TypeId}{x v:V}(hl:∀id b,H id=some b→H' id=some b)(h:PC P H s d x v):PC P H' s d x v:=by
 obtain⟨e,l,h1,h2,h3,h4,h5⟩:=h;exact⟨e,l,h1,h2,h3,h4.up hl,h5⟩
def Zj (K:V→A2→Prop)(x:V)(H:A2):Prop:=∃id sz xs ys,H id=some (.arr sz xs)∧H9 xs ys∧K x (upd H id (some (.arr sz ys)))
def litO (P:Program)(H:A2)(K:V→A2→Prop)(t:TypeId)(n:Nat)(parts:List (Nat×V)):Prop:=
 ∃e sz xs ys,X8 P t n parts=some (.sl xs .full)∧Fc P t=some e∧Ed P e=some sz∧H9 xs ys∧∀q,H q=none→K (.own q 0 (xs.length:Nat)) (upd H q (some (.arr sz ys)))
def Ak6 (H:A2)(K:V→A2→Prop)(x:V):Prop:=x= .sl [] .nil∧∃sz,∀q,H q=none→K (.own q 0 0) (upd H q (some (.arr sz [])))
theorem Yh {l:List Int} {ys0:List V} (h:H9 ys0 (l.map (V.int .u8))):ys0=l.map (V.int .u8):=by
 induction l generalizing ys0 with
 |nil=>cases h;rfl
 | cons n l ih=>
  cases h with
  |cons h1 h2=>
   cases h1;rw[ih h2];rfl
theorem WK {s d:TypeId} {y:Operand} {x:V} (ho:o.op= .convert s d y) (hl:PC P H s d (ev fr y) x) (h:K x H):F6 P o fr H K:=by
 intro g w a hR hE;have hv:=D9 hR hE y;obtain⟨e,l,h1,h2,h3,h4,rfl⟩:=hl;obtain⟨ys0,k1,k2,k3⟩:=h4.inv hR hv;have e1:=Yh k2;subst e1;obtain⟨base,cap,vs,r1,r2,r3⟩:=FP P hR k1 hv k3;have hs:=P2 h1
 have hlen:(l.map (V.int .u8)).length=l.length:=by simp
 have hcell:∀i,i<l.length→vs i 0= .int .u8 (l.getD i 0):=by
  intro i hi;have:=(r2 i 0 (by rw[hlen];exact hi) (by omega)).2
  have e:((l.map (V.int .u8)).getD i .bad).cells.getD 0 .bad= .int .u8 (l.getD i 0):=by
   simp[List.getD,hi,V.cells]
  rw[e]at this
  exact this.int_inv
 have hread:=r3 l.length (by rw[hlen];exact Nat.le_refl _) w (fun _ _=>rfl)
 have hcells:((List.range (l.length*1)).map fun k=>vs (k / 1) (k % 1)).toArray=(l.map (Value.int .u8)).toArray:=by
  congr 1
  apply List.ext_getElem?;intro i;simp only[List.getElem?_map,Nat.mul_one,Nat.div_one,Nat.mod_one]
  by_cases hi:i<l.length
  ·rw[List.getElem?_range hi,List.getElem?_eq_getElem hi];simp[hcell i hi,List.getD,hi]
  rw[List.getElem?_eq_none (by simpa using hi),List.getElem?_eq_none (by omega)];rfl
 rw[hcells]at hread
 rw[hlen]at r1
 rw[r1]at hread
 have run:(convert s d (.slice base l.length cap)).run P w= .ok (.string (strL l)) w:=by
  rw[run_convert_bytes_string w s d e base l.length cap hs h2 h3]
  cases base with
  | none=>
   have:l=[]:=by
    simp only[Builtin.firstCells]at hread
    have hh:(.ok #[] w:Result (Array Value))= .ok (l.map (Value.int .u8)).toArray w:=by simpa[Sem.run_pure]using hread
    injection hh with hh _
    have:=congrArg Array.size hh
    simp at this
    exact List.eq_nil_of_length_eq_zero this.symm
   subst this;rfl
  |some ad=>
   simp only[Builtin.firstCells,Nat.mul_one]at hread
   exact run_bytesToString w ad l.length cap l hread
 unfold execOp;rw[ho];simp only[r1,Sem.run_bind,run,Result.andThen_ok,Sem.run_pure,G1];exact J7.here hR (.str _) h
end
end Go.Ab
namespace Go.Ab
open Go.RowKit Go.MapKept
variable [J9]
def Am7 (P:Program)(H:A2)(K:V→A2→Prop)(t:TypeId)(x:V):Prop:=
 ∃kt et mid es clock,P.underlying t=some (.map kt et)∧x= .map mid∧H mid=some (.obj (.map es clock))∧∀id,H id=none→K (.ref id 0) (upd H id (some (.iter mid clock #[] clock)))
def Ar9 (H:A2) (K:V→A2→Prop) (x:V):Prop:=
 ∃id mid since,∃seen:Array Nat,∃c0,∃es:Array MapEntry,∃clock,x= .ref id 0∧H id=some (.iter mid since seen c0)∧H mid=some (.obj (.map es clock))∧(∀e∈es.toList,e.born<since)∧since≤c0∧
  ((leftOf es seen).size=0→K (.tup [.bool false]) H)∧∀e∈(leftOf es seen).toList,K (.tup [.bool true,.bad,.bad]) (upd H id (some (.iter mid since (seen.push e.born) clock)))
def Ao1 (H:A2) (K:V→A2→Prop) (x:V):Prop:=
 ∃id mid since,∃seen:Array Nat,∃c0,∃es:Array MapEntry,∃clock e kx vx,x= .ref id 0∧H id=some (.iter mid since (seen.push e.born) c0)∧c0=clock∧H mid=some (.obj (.map es clock))∧e∈es.toList∧(es.toList.map (·.born)).Nodup∧
  Al kx=some e.key∧Al vx=some e.val∧K (.tup [kx,vx]) H
def Ai2 (P:Program) (H:A2) (K:V→A2→Prop) (ts:List TypeId) (vs:List V):Prop:=
 match ts,vs with
 | [t,_],[x,key]=>
  ∃kt et d kv id o m,P.underlying t=some (.map kt et)∧KG P kt (CR d)∧Al key=some kv∧CR d kv∧x= .map id∧H id=some (.obj o)∧AW d o m∧
   ∀o' m',AW d o' m'→((m'=m∧∀p∈m,p.1≠key)∨∃j p,m[j]? =some p∧p.1=key∧m'=m.eraseIdx j)→K (.tup []) (upd H id (some (.obj o')))
 |_,_=>False
theorem Rl.drew {g:Gh}{H:A2}{w:World}(hR:Rl g H w):T4 g w g w.drew∧Rl g H w.drew:=by
 have s:T4 g w g w.drew:=⟨fun _ _ e=>e,fun _ _ e=>e,fun _ _ e=>e,rfl,fun _ _ _=>rfl,(Below.refl _ _).drew,fun _ _ _=>rfl,Nat.le_succ _⟩;exact⟨s,⟨fun id b hb=>(hR.blk id b hb).mono hb s fun _ _=>⟨rfl,fun _ ho=>ho⟩,hR.inj,hR.frz,hR.nxt,hR.bnd,fun n=>(hR.glb n).mono s⟩⟩
section
variable {P:Program}{o:Oper}{fr:Fr}{H:A2}{K:V→A2→Prop}
end
section
variable {P:Program}{o:Oper}{fr:Fr}{H:A2}{K:V→A2→Prop}
def Za (P:Program)(t:TypeId)(l c v:V):Prop:=
 ∃k1 k2 n e sz by_ z,l= .int k1 n∧c= .int k2 n∧Fc P t=some e∧Ed P e=some sz∧0<sz∧Oc P e=some by_∧0<by_∧Gt P e=some z∧z.one=true∧z.cells.length=sz∧0≤n∧n*(by_:Nat)≤281474976710656∧v= .sl (List.replicate n.toNat z) .ro
theorem WH {t:TypeId} {l c:Operand} {v:V} (ho:o.op= .makeSlice t l c) (h:Za P t (ev fr l) (ev fr c) v) (hK:K v H):F6 P o fr H K:=by
 obtain⟨k1,k2,n,e,sz,by_,z,e1,e2,e3,e4,e5,e6,e7,e8,e9,e10,e11,e12,rfl⟩:=h;intro g w a hR hE;refine G1.mono ?_ (RH (K:=fun x H'=>∃id,H id=none∧x= .own id 0 n∧H'=upd H id (some (.arr sz (List.replicate n.toNat z)))) ho e1 e2 e3 e4 e5 e6 e7 e8 e9 e10 e11 (Int.le_refl _) e12 (fun id hid=>⟨id,hid,rfl,rfl⟩) g w a hR hE);rintro x w' ⟨g1,y,H1,s1,R1,hv,id,hid,rfl,rfl⟩;obtain⟨g2,_,s2,R2,hfr⟩:=R1.freezeArr' (B7 _ _ _)
 have hH:upd (upd H id (some (.arr sz (List.replicate n.toNat z)))) id none=H:=by
  funext x
  by_cases hx:x=id
  ·subst hx;rw[B7];exact hid.symm
  rw[A7 _ _ hx,A7 _ _ hx]
 rw[hH]at R2
 refine⟨g2,_,H,s1.trans s2,R2,?_,hK⟩;have:=hfr x 0 n (hv.mono s2)
 have hs:L7 (List.replicate n.toNat z) 0 n=List.replicate n.toNat z:=by simp[L7]
 rw[hs]at this
 exact this
end
end Go.Ab
namespace Go.Ab
open Go.RowKit
variable [J9]
def Args (g:Gh)(w:World)(vals:Array Value)(args:List V):Prop:=
 vals.size=args.length∧∀i,i<args.length→VR g w (vals.getD i undef) (args.getD i .bad)
def I0 (P:Program)(f:FuncId)(args:List V)(H:A2)(K:V→A2→Prop):Prop:=
 ∀g w vals,Rl g H w→Args g w vals args→G1 P (J7 g w K) ((callFunc f vals).run P w)
def AX (P:Program)(fv:V)(args:List V)(H:A2)(K:V→A2→Prop):Prop:=
 ∀g w v vals,Rl g H w→VR g w v fv→Args g w vals args→G1 P (J7 g w K) ((do let d ←Deferred.ofValue v vals;invoke d.target d.args:Sem Next).run P w)
def B6 (P:Program)(f:FuncId)(args:List V)(r:V):Prop:=∀H,I0 P f args H fun x H'=>x=r∧H'=H
def W3 (P:Program)(fv:V)(args:List V)(r:V):Prop:=∀H,AX P fv args H fun x H'=>x=r∧H'=H
theorem J7.mono {g:Gh}{w:World}{K K':V→A2→Prop}(h:∀x H,K x H→K' x H){v:Value}{w':World}(p:J7 g w K v w'):J7 g w K' v w':=
 let⟨g',x,H',a,b,c,d⟩:=p;⟨g',x,H',a,b,c,h _ _ d⟩
def LE (P:Program)(fv:V)(args:List V)(H:A2)(r:V):Prop:=∀H',(∀id b,H id=some b→H' id=some b)→AX P fv args H' fun x h=>x=r∧h=H'
theorem W3.toH {P:Program}{fv:V}{args:List V}{r:V}(h:W3 P fv args r)(H:A2):LE P fv args H r:=fun H' _=>h H'
theorem LE.up {P:Program}{fv:V}{args:List V}{H H':A2}{r:V}(h:LE P fv args H r)(hl:∀id b,H id=some b→H' id=some b):LE P fv args H' r:=fun H2 h2=>h H2 fun id b e=>h2 id b (hl id b e)
theorem I0.mono {P:Program}{f:FuncId}{args:List V}{H:A2}{K K':V→A2→Prop}(c:I0 P f args H K)(h:∀x H,K x H→K' x H):I0 P f args H K':=
 fun g w vals hR hA=>(c g w vals hR hA).mono fun _ _ p=>p.mono h
theorem AX.mono {P:Program}{fv:V}{args:List V}{H:A2}{K K':V→A2→Prop}(c:AX P fv args H K)(h:∀x H,K x H→K' x H):AX P fv args H K':=
 fun g w v vals hR hv hA=>(c g w v vals hR hv hA).mono fun _ _ p=>p.mono h
theorem B6.at {P:Program}{f:FuncId}{args:List V}{r:V}(c:B6 P f args r){H:A2}{K:V→A2→Prop}(h:K r H):I0 P f args H K:=
 (c H).mono fun x H' ⟨e1,e2⟩=>by rw[e1,e2];exact h
theorem W3.at {P:Program}{fv:V}{args:List V}{r:V}(c:W3 P fv args r){H:A2}{K:V→A2→Prop}(h:K r H):AX P fv args H K:=
 (c H).mono fun x H' ⟨e1,e2⟩=>by rw[e1,e2];exact h
def Wk (x y:V):Prop:=∀g w v,VR g w v x→VR g w v y
theorem Wk.refl (x:V):Wk x x:=fun _ _ _ h=>h
theorem Wk.bad (x:V):Wk x .bad:=fun _ _ _ _=>.bad _
theorem Wk.ro (xs:List V)(t:E4):Wk (.sl xs t) (.sl xs .ro):=by
 intro g w v h
 cases h with
 |sl0 ht=>exact .sl0 rfl
 |sle ht=>exact .sle (.inl rfl)
 |sl vs hn hc hz hf hw h1 hv ht=>exact .sl vs hn hc hz hf hw h1 hv trivial
theorem Wk.nil (t:E4)(ht:t.plain=true):Wk (.sl [] .nil) (.sl [] t):=by
 intro g w v h
 cases h with
 |sl0 _=>exact .sl0 ht
 |sle h=>rcases h with h|⟨h,_⟩<;>cases h
 |sl vs hn hc hz hf hw h1 hv ht=>exact ht.elim
theorem Args.append {g:Gh} {w:World} {a b:Array Value} {x y:List V} (h:Args g w a x) (k:Args g w b y):Args g w (a++b) (x++y):=by
 refine⟨by simp[h.1,k.1],fun i hi=>?_⟩;rw[DJ]
 have e:(a++b).getD i undef=if i<x.length then a.getD i undef else b.getD (i - x.length) undef:=by
  simp only[Array.getD_eq_getD_getElem?,Array.getElem?_append,h.1]
  split<;>rfl
 rw[e]
 split
 ·rename_i hlt;exact h.2 i hlt
 exact k.2 _ (by simp at hi;omega)
theorem I0.value {P:Program} {f:FuncId} {F C args:List V} {H:A2} {K:V→A2→Prop} (h:I0 P f (F++args++C) H K):AX P (.func (.func f) F C) args H K:=by
 intro g w v vals hR hv hA
 cases hv with
 |func hl hv hl' hv'=>
  rename_i fs cs;have:=h g w (fs++vals++cs) hR (Args.append (Args.append ⟨hl,hv⟩ hA) ⟨hl',hv'⟩)
  simpa only[Deferred.ofValue,Sem.run_bind,Sem.run_pure,Result.andThen_ok,invoke]using this
theorem B6.value {P:Program}{f:FuncId}{F C args:List V}{r:V}(h:B6 P f (F++args++C) r):W3 P (.func (.func f) F C) args r:=fun H=>(h H).value
theorem F6.le {P:Program}{o:Oper}{fr:Fr}{H:A2}{K:V→A2→Prop}(h:F6 P o fr H fun x H'=>∃y,BG x y∧K y H'):F6 P o fr H K:=
 fun g w a hR hE=>(h g w a hR hE).mono fun v w' ⟨g',x,H',s,hR',hv,y,hxy,hK⟩=>⟨g',y,H',s,hR',hv.le hxy,hK⟩
section
variable {P:Program}{o:Oper}{fr:Fr}{H:A2}{K:V→A2→Prop}
theorem ZP {g:Gh}{w:World}{a:Act}(hR:Rl g H w)(hE:ER g w a fr)(l:Array Operand):Args g w (l.map a.eval) (l.toList.map (ev fr)):=by
 refine⟨by simp,fun i hi=>?_⟩
 have hi':i<l.size:=by simpa using hi
 have e1:(l.map a.eval).getD i undef=a.eval l[i]:=by simp[Array.getD,hi']
 have e2:(l.toList.map (ev fr)).getD i .bad=ev fr l[i]:=by simp[List.getD,hi']
 rw[e1,e2];exact D9 hR hE _
theorem RO {x:Operand}{args:Array Operand}{ts:Array TypeId}(ho:o.op= .call {callee:=.value x,args:=args,argTypes:=ts})(h:AX P (ev fr x) (args.toList.map (ev fr)) H K):
 F6 P o fr H K:=by
 intro g w a hR hE;have:=h g w (a.eval x) (args.map a.eval) hR (D9 hR hE x) (ZP hR hE args);unfold execOp;rw[ho]
 simpa only[resolve]using this
end
abbrev Ra :=Nat→Bool
def CO (P:Program) (b:Builtin) (ts:List TypeId) (vs:List V) (v:V):Prop:=
 match b,ts,vs with
 | .len,[t],[x]=>Xk P t x=some v
 | .max,_,[.int k a,.int k' b]=>k=k'∧v= .int k (if a<b then b else a)
 | .min,_,[.int k a,.int k' b]=>k=k'∧v= .int k (if b<a then b else a)
 | .append,[sT,yT],[.sl xs tl,.sl ys _]=>(tl= .nil∨tl= .full)∧∃e sz by_ z xs' ys',Fc P sT=some e∧(Fc P yT).isSome=true∧Ed P e=some sz∧0<sz∧Oc P e=some by_∧0<by_∧Gt P e=some z∧z.one=true∧z.cells.length=sz∧
  H9 xs xs'∧H9 ys ys'∧xs'.all (fun x=>x.cells.length==sz)=true∧ys'.all (fun x=>x.cells.length==sz)=true∧(xs'.length+ys'.length)*by_≤140737488355328∧v= .sl (xs'++ys') .ro
 |_,_,_=>False
theorem F6.lessH {P:Program}{o:Oper}{fr:Fr}{H:A2}{K:V→A2→Prop}(h:F6 P o fr H fun x H'=>∃y H2,BG x y∧(∀id b,H2 id=some b→H' id=some b)∧K y H2):F6 P o fr H K:=
 fun g w a hR hE=>(h g w a hR hE).mono fun v w' ⟨g',x,H',s,hR',hv,y,H2,hxy,hH,hK⟩=>⟨g',y,H2,s,hR'.less hH,hv.le hxy,hK⟩
theorem Id {P:Program} {o:Oper} {fr:Fr} {H:A2} {c:Call} {b:Builtin} {v:V} (ho:o.op= .call c) (hc:c.callee= .builtin b)
 (h:CO P b c.argTypes.toList (c.args.toList.map (ev fr)) v) {K:V→A2→Prop} (k:K v H):F6 P o fr H K:=by
 obtain⟨ce,args,ts⟩:=c
 simp only at hc h
 subst hc;obtain⟨args⟩:=args;obtain⟨ts⟩:=ts
 simp only at h
 unfold CO at h
 split at h
 ·rename_i t x e2
  match args,e2 with
  |[y],e2=>
   simp only[List.map_cons,List.map_nil,List.cons.injEq,and_true]at e2
   subst e2;exact Ab7 ho h k
  |[],e2=>simp at e2
  |_::_::_,e2=>simp at e2
 ·rename_i k a k' b e2;obtain⟨rfl,rfl⟩:=h
  match args,e2 with
  |[x,y],e2=>
   simp only[List.map_cons,List.map_nil,List.cons.injEq,and_true]at e2
   intro g w act hR hE;rw[O2 ho];have h1:=D9 hR hE x;have h2:=D9 hR hE y
   rw[e2.1]at h1;rw[e2.2]at h2
   have e1:=h1.int_inv;have e2':=h2.int_inv;simp[builtin,Builtin.max_,Builtin.max2,e1,e2',Sem.run_bind,Sem.run_pure]
   split<;>exact J7.here hR (by first|(rw[if_pos (by assumption)];exact .int _ _)|(rw[if_neg (by omega)];exact .int _ _)|exact .int _ _) k
  |[],e2=>simp at e2
  |[_],e2=>simp at e2
  |_::_::_::_,e2=>simp at e2
 ·rename_i k a k' b e2;obtain⟨rfl,rfl⟩:=h
  match args,e2 with
  |[x,y],e2=>
   simp only[List.map_cons,List.map_nil,List.cons.injEq,and_true]at e2
   intro g w act hR hE;rw[O2 ho];have h1:=D9 hR hE x;have h2:=D9 hR hE y
   rw[e2.1]at h1;rw[e2.2]at h2
   have e1:=h1.int_inv;have e2':=h2.int_inv;simp[builtin,Builtin.min_,Builtin.min2,e1,e2',Sem.run_bind,Sem.run_pure]
   split<;>exact J7.here hR (by first|(rw[if_pos (by assumption)];exact .int _ _)|(rw[if_neg (by omega)];exact .int _ _)|exact .int _ _) k
  |[],e2=>simp at e2
  |[_],e2=>simp at e2
  |_::_::_::_,e2=>simp at e2
 ·rename_i sT yT xs tl ys tl' e2;obtain⟨htl,e,sz,by_,z,xs',ys',k1,k2,k3,k4,k5,k6,k7,k8,k9,l1,l2,k11,k12,k13,rfl⟩:=h
  match args,e2 with
  |[s,y],e2=>
   simp only[List.map_cons,List.map_nil,List.cons.injEq,and_true]at e2
   have hA:Ik H tl:=by rcases htl with rfl|rfl<;>trivial
   have hd:G7 H tl=H:=by rcases htl with rfl|rfl<;>rfl
   refine F6.lessH (Jv (K:=fun x H'=>∃y H2,BG x y∧(∀id b,H2 id=some b→H' id=some b)∧K y H2) ho e2.1 e2.2 k1 k2 k3 k4 k5 k6 k7 k8 k9 hA (l1.sz k11) (l2.sz k12) (by rw[l1.length,l2.length];exact k13) (fun e=>⟨_,H,?_,fun _ _ h=>h,k⟩) fun t h1 h2=>⟨_,H,BG.sl _ (l1.append l2),fun id b hb=>?_,k⟩)
   ·subst e;cases l2;rw[List.append_nil];exact BG.sl _ l1
   rw[hd]at h2 ⊢
   by_cases e:id=t
   ·subst e;rw[h2]at hb;cases hb
   rw[A7 _ _ e];exact hb
  |[],e2=>simp at e2
  |[_],e2=>simp at e2
  |_::_::_::_,e2=>simp at e2
 exact h.elim
def Eh (P:Program) (H:A2) (K:V→A2→Prop):List TypeId→List V→Prop
 | [sT,yT],[.sl xs tl,.sl ys _]=>
  ∃e sz by_ z,Fc P sT=some e∧(Fc P yT).isSome=true∧Ed P e=some sz∧0<sz∧Oc P e=some by_∧0<by_∧Gt P e=some z∧z.one=true∧z.cells.length=sz∧∃xs' ys',H9 xs xs'∧H9 ys ys'∧Ik H tl∧
   xs'.all (fun x=>x.cells.length==sz)=true∧ys'.all (fun x=>x.cells.length==sz)=true∧(xs'.length+ys'.length)*by_≤140737488355328∧(ys'=[]→K (.sl xs' tl) H)∧
   ∀t,ys'≠[]→G7 H tl t=none→K (.sl (xs'++ys') (.tok t)) (upd (G7 H tl) t (some .spare))
 |_,_=>False
theorem Jj {P:Program} {o:Oper} {fr:Fr} {H:A2} {c:Call} (ho:o.op= .call c) (hc:c.callee= .builtin .append) {K:V→A2→Prop}
 (h:Eh P H K c.argTypes.toList (c.args.toList.map (ev fr))):F6 P o fr H K:=by
 obtain⟨ce,args,ts⟩:=c
 simp only at hc h
 subst hc;obtain⟨args⟩:=args;obtain⟨ts⟩:=ts
 simp only at h
 unfold Eh at h
 split at h
 ·rename_i sT yT xs tl ys tl' e2
  match args,e2 with
  |[s,y],e2=>
   simp only[List.map_cons,List.map_nil,List.cons.injEq,and_true]at e2
   obtain⟨e,sz,by_,z,k1,k2,k3,k4,k5,k6,k7,k8,k9,xs',ys',l1,l2,k10,k11,k12,k13,k14,k15⟩:=h;refine F6.le (Jv (K:=fun x H'=>∃y,BG x y∧K y H') ho e2.1 e2.2 k1 k2 k3 k4 k5 k6 k7 k8 k9 k10 (l1.sz k11) (l2.sz k12) (by rw[l1.length,l2.length];exact k13) (fun e=>⟨_,.slt _ l1,k14 (by subst e;cases l2;rfl)⟩) fun t h1 h2=>⟨_,.slt _ (l1.append l2),k15 t (fun e=>h1 (by subst e;cases l2;rfl)) h2⟩)
  |[],e2=>simp at e2
  |[_],e2=>simp at e2
  |_::_::_::_,e2=>simp at e2
 exact h.elim
def JO (P:Program)(H:A2)(b:Builtin)(ts:List TypeId)(vs:List V)(v:V):Prop:=
 match b,ts,vs with
 | .len,[t],[x]=>Af7 P H t x=some v
 | .cap,[t],[x]=>Vg P H t x=some v
 |_,_,_=>False
theorem Nx {P:Program} {o:Oper} {fr:Fr} {H:A2} {c:Call} {b:Builtin} {v:V} (ho:o.op= .call c) (hc:c.callee= .builtin b)
 (h:JO P H b c.argTypes.toList (c.args.toList.map (ev fr)) v) {K:V→A2→Prop} (k:K v H):F6 P o fr H K:=by
 obtain⟨ce,args,ts⟩:=c
 simp only at hc h
 subst hc;obtain⟨args⟩:=args;obtain⟨ts⟩:=ts
 simp only at h
 unfold JO at h
 split at h
 ·rename_i t x e2
  match args,e2 with
  |[y],e2=>
   simp only[List.map_cons,List.map_nil,List.cons.injEq,and_true]at e2
   subst e2;exact Ym ho h k
  |[],e2=>simp at e2
  |_::_::_,e2=>simp at e2
 ·rename_i t x e2
  match args,e2 with
  |[y],e2=>
   simp only[List.map_cons,List.map_nil,List.cons.injEq,and_true]at e2
   subst e2;exact Yo ho h k
  |[],e2=>simp at e2
  |_::_::_,e2=>simp at e2
 exact h.elim
theorem IP {H H':A2}(hl:∀id b,H id=some b→H' id=some b){id:Nat}{p:Nat×List V}(h:CP H id=some p):CP H' id=some p:=by
 have:=Cz (sz:=p.1) (xs:=p.2) h;simp only[CP,hl _ _ this]
theorem UF {P:Program} {H H':A2} {t:TypeId} {x v:V} (hl:∀id b,H id=some b→H' id=some b) (h:Jb P H t x=some v):Jb P H' t x=some v:=by
 unfold Jb at h ⊢
 split at h
 ·rename_i id i esz off _ _
  cases hk:CP H id with
  |none=>simp[hk]at h
  |some p=>simpa only[hk,IP hl hk]using h
 cases h
theorem Xn {P:Program} {H H':A2} {t:TypeId} {x v:V} {i:Int} (hl:∀id b,H id=some b→H' id=some b) (h:UR P H t x i=some v):UR P H' t x i=some v:=by
 unfold UR at h ⊢
 split at h
 ·rename_i e id lo n _
  cases hk:CP H id with
  |none=>simp[hk]at h
  |some p=>simpa only[hk,IP hl hk]using h
 cases h
theorem RB {P:Program} {H H':A2} {t:TypeId} {x v:V} {i j k:Option Int} (hl:∀id b,H id=some b→H' id=some b) (h:Hr P H t x i j k=some v):Hr P H' t x i j k=some v:=by
 unfold Hr at h ⊢
 split at h
 ·rename_i e id lo n _
  cases hk:CP H id with
  |none=>cases hs:Ed P e<;>simp[hk,hs]at h
  |some p=>simpa only[hk,IP hl hk]using h
 cases h
theorem Xl {P:Program} {H H':A2} {b:Builtin} {ts:List TypeId} {vs:List V} {v:V} (hl:∀id b,H id=some b→H' id=some b) (h:JO P H b ts vs v):JO P H' b ts vs v:=by
 unfold JO at h ⊢
 split at h
 ·exact h
 ·rename_i t x
  unfold Vg at h ⊢
  split at h
  ·rename_i e id lo n _
   cases hk:CP H id with
   |none=>simp[hk]at h
   |some p=>simpa only[hk,IP hl hk]using h
  ·exact h
  ·exact h
  cases h
 exact h.elim
def ownN (x:V):Nat:=
 match x with
 | .own _ _ n=>n.toNat
 |_=>0
def FC (H:A2) (K:V→A2→Prop) (sz by_:Nat) (z:V) (x:V) (ys:List V):Prop:=
 match x with
 | .own id lo n=>∃xs,H id=some (.arr sz xs)∧
  (lo+n+(ys.length:Nat)≤(xs.length:Nat)→K (.own id lo (n+(ys.length:Nat))) (upd H id (some (.arr sz (Cg xs (lo+n).toNat ys)))))∧
  ((xs.length:Nat)<lo+n+(ys.length:Nat)→(n.toNat+ys.length)*by_≤140737488355328∧∀t k,H t=none→K (.own t 0 (n+(ys.length:Nat))) (upd H t (some (.arr sz (L7 xs lo n++ys++List.replicate k z)))))
 |x=>(x= .sl [] .nil∨x= .sl [] .full)∧ys.length*by_≤140737488355328∧∀t k,H t=none→K (.own t 0 (ys.length:Nat)) (upd H t (some (.arr sz (ys++List.replicate k z))))
theorem Dq {H:A2}{K K':V→A2→Prop}{sz by_:Nat}{z x:V}{ys:List V}(h:FC H K sz by_ z x ys)(hk:∀v H',K v H'→K' v H'):FC H K' sz by_ z x ys:=by
 unfold FC at h ⊢
 split at h
 ·obtain⟨xs,m1,m3,m4⟩:=h;exact⟨xs,m1,fun e=>hk _ _ (m3 e),fun e=>⟨(m4 e).1,fun t k e'=>hk _ _ ((m4 e).2 t k e')⟩⟩
 obtain⟨m1,m2,m3⟩:=h;exact⟨m1,m2,fun t k e=>hk _ _ (m3 t k e)⟩
def KT (P:Program) (H:A2) (K:V→A2→Prop):List TypeId→List V→Prop
 | [sT,yT],[x,y]=>
  ∃ e sz by_ z,Fc P sT=some e∧Ed P e=some sz∧0<sz∧Oc P e=some by_∧0<by_∧Gt P e=some z∧z.one=true∧z.cells.length=sz∧
   (((Fc P yT).isSome=true∧∃ys',Oh sz H y ys'∧FC H K sz by_ z x ys')∨
    ((∃k',P.underlying yT=some (.int k'))∧∃k m,y= .int k m∧0≤m∧(ownN x+m.toNat)*by_≤140737488355328∧FC H K sz by_ z x (List.replicate m.toNat z))∨
    (P.underlying yT=some .string∧∃s,y= .str s∧sz=1∧FC H K sz by_ z x (DQ s)))
 |_,_=>False
theorem OD {P:Program} {o:Oper} {fr:Fr} {H:A2} {c:Call} (ho:o.op= .call c) (hc:c.callee= .builtin .append) {K:V→A2→Prop}
 (h:KT P H K c.argTypes.toList (c.args.toList.map (ev fr))):F6 P o fr H K:=by
 obtain⟨ce,args,ts⟩:=c
 simp only at hc h
 subst hc;obtain⟨args⟩:=args;obtain⟨ts⟩:=ts
 simp only at h
 unfold KT at h
 split at h
 ·rename_i sT yT x y' e2
  match args,e2 with
  | [s,y],e2=>
   simp only[List.map_cons,List.map_nil,List.cons.injEq,and_true]at e2
   obtain⟨e,sz,by_,z,k1,k3,k4,k5,k6,k7,k8,k9,h⟩:=h
   rcases h with⟨k2,ys',l1,l4⟩|⟨⟨k',k2⟩,k,m,l1,l2,l0,l4⟩|⟨k2,s',l1,l2,l4⟩
   ·unfold FC at l4
    split at l4
    ·obtain⟨xs,m1,m3,m4⟩:=l4;exact RE ho e2.1 m1 (by rw[e2.2];exact l1) k1 k2 k3 k4 k5 k6 k7 k8 k9 m3 m4
    obtain⟨m1,m2,m3⟩:=l4;exact Qc ho (by rw[e2.1];exact m1) (by rw[e2.2];exact l1) k1 k2 k3 k4 k5 k6 k7 k8 k9 m2 m3
   ·have hm:((m.toNat:Nat):Int)=m:=by omega
    unfold FC at l4
    simp only[List.length_replicate,hm]at l4
    split at l4
    ·rename_i id lo n;obtain⟨xs,m1,m3,m4⟩:=l4;exact Qa ho e2.1 (e2.2.trans l1) m1 k1 k2 k3 k4 k5 k6 k7 k8 k9 l2 l0 m3 fun e=>(m4 e).2
    obtain⟨m1,m2,m3⟩:=l4;exact Oo ho (by rw[e2.1];exact m1) (e2.2.trans l1) k1 k2 k3 k4 k5 k6 k7 k8 k9 l2 m2 m3
   subst l2
   unfold FC at l4
   split at l4
   ·obtain⟨xs,m1,m3,m4⟩:=l4;exact Qb ho e2.1 m1 (e2.2.trans l1) k1 k2 k3 k5 k6 k7 k8 k9 m3 m4
   obtain⟨m1,m2,m3⟩:=l4;exact Oq ho (by rw[e2.1];exact m1) (e2.2.trans l1) k1 k2 k3 k5 k6 k7 k8 k9 m2 m3
  |[],e2=>simp at e2
  |[_],e2=>simp at e2
  |_::_::_::_,e2=>simp at e2
 exact h.elim
def Tp (P:Program) (H:A2) (K:V→A2→Prop):List TypeId→List V→Prop
 | [sT,_],[.own id lo n,y]=>
  ∃e sz xs ys',Fc P sT=some e∧Ed P e=some sz∧0<sz∧H id=some (.arr sz xs)∧Oh sz H y ys'∧
   K (.int .i64 (if n<(ys'.length:Nat)then n else(ys'.length:Nat))) (upd H id (some (.arr sz (Cg xs lo.toNat (ys'.take n.toNat)))))
 |_,_=>False
theorem To {P:Program} {o:Oper} {fr:Fr} {H:A2} {c:Call} (ho:o.op= .call c) (hc:c.callee= .builtin .copy) {K:V→A2→Prop}
 (h:Tp P H K c.argTypes.toList (c.args.toList.map (ev fr))):F6 P o fr H K:=by
 obtain⟨ce,args,ts⟩:=c
 simp only at hc h
 subst hc;obtain⟨args⟩:=args;obtain⟨ts⟩:=ts
 simp only at h
 unfold Tp at h
 split at h
 ·rename_i sT yT id lo n y' e2
  match args,e2 with
  |[s,y],e2=>
   simp only[List.map_cons,List.map_nil,List.cons.injEq,and_true]at e2
   obtain⟨e,sz,xs,ys',k1,k2,k3,k4,k5,k8⟩:=h;exact WG ho e2.1 k4 (by rw[e2.2];exact k5) k1 k2 k3 k8
  |[],e2=>simp at e2
  |[_],e2=>simp at e2
  |_::_::_::_,e2=>simp at e2
 exact h.elim
def LM (P:Program) (H:A2) (K:V→A2→Prop) (t:TypeId) (l c:V):Prop:=
 match l,c with
 | .int _ n,.int _ m=>∃e sz by_ z,Fc P t=some e∧Ed P e=some sz∧0<sz∧Oc P e=some by_∧0<by_∧Gt P e=some z∧z.one=true∧z.cells.length=sz∧0≤n∧n≤m∧m*by_≤281474976710656∧
  ∀id,H id=none→K (.own id 0 n) (upd H id (some (.arr sz (List.replicate m.toNat z))))
 |_,_=>False
def JG (P:Program) (o:Oper) (ρ:Operand→V) (H:A2) (v:V):Prop:=
 match o.op with
 | .move x=>v=ρ x
 | .assign x=>v=ρ x
 | .pick c x y=>
  match ρ c with
  | .bool t=>v=if t then ρ x else ρ y
  |_=>False
 | .box _ x=>(ρ x).one=true∧v= .eref (ρ x).cells 0
 | .build t ps=>LB P t (ps.toList.map fun p=>(p.1,ρ p.2))=some v
 | .buildSlice t n ps=>X8 P t n (ps.toList.map fun p=>(p.1,ρ p.2))=some v
 | .makeSlice t l c=>Za P t (ρ l) (ρ c) v
 | .load t x=>Fs P H t (ρ x)=some v∨Jb P H t (ρ x)=some v
 | .nilCheck x=>VI (ρ x)=true∧v=ρ x
 | .binOp op t x y _=>Mo P op t (ρ x) (ρ y)=some v
 | .unOp op _ x=>unV op (ρ x)=some v
 | .convert s d x=>PB P s d (ρ x)=some v∨PC P H s d (ρ x) v
 | .lookup t x y ok=>Kz P H t (ρ x) (ρ y) ok v
 | .makeInterface t x=>ifO P t=false∧v= .iface t (ρ x)
 | .makeFunc fn fs cs=>v= .func fn (fs.toList.map ρ) (cs.toList.map ρ)
 | .slice t x lo hi mx=>
  match AI (lo.map ρ),AI (hi.map ρ),AI (mx.map ρ)with
  |some l,some h,some m=>MR P t (ρ x) l h m=some v∨Hr P H t (ρ x) l h m=some v
  |_,_,_=>False
 | .fieldAddr t x f=>ES P t (ρ x) f=some v
 | .field t x f=>NN P t (ρ x) f=some v
 | .indexAddr t x y=>
  match ρ y with
  | .int _ i=>(∃u,Ci P t (ρ x) i=some u∧BG u v)∨UR P H t (ρ x) i=some v
  |_=>False
 | .index t x y=>
  match ρ y with
  | .int _ i=>Lp P t (ρ x) i=some v
  |_=>False
 | .extract x n=>
  match ρ x with
  | .tup cs=>cs[n]? =some v
  |_=>False
 | .call c=>
  match c.callee with
  | .value x=>LE P (ρ x) (c.args.toList.map ρ) H v
  | .builtin b=>CO P b c.argTypes.toList (c.args.toList.map ρ) v∨JO P H b c.argTypes.toList (c.args.toList.map ρ) v
  |_=>False
 |_=>False
theorem UE {P:Program} {H H':A2} {t:TypeId} {x v:V} (hl:∀id b,H id=some b→H' id=some b) (h:Fs P H t x=some v):Fs P H' t x=some v:=by
 unfold Fs at h ⊢
 split at h
 ·exact h
 ·rename_i ag sz id off _ _
  cases hk:H id with
  |none=>simp[hk]at h
  |some b=>simpa only[hk,hl _ _ hk]using h
 cases h
theorem YJ {P:Program} {o:Oper} {ρ:Operand→V} {H H':A2} {v:V} (hl:∀id b,H id=some b→H' id=some b) (h:JG P o ρ H v):JG P o ρ H' v:=by
 unfold JG at h ⊢
 cases ho:o.op<;>simp only[ho]at h ⊢ <;>first|exact h|exact h.imp (UE hl) (UF hl)|exact h.imp (fun h=>h) (Vc hl)|exact Qy hl h|skip
 ·split at h
  ·exact h.imp (fun h=>h) (RB hl)
  exact h
 ·split at h
  ·exact h.imp (fun h=>h) (Xn hl)
  exact h
 split at h
 ·exact h.up hl
 ·exact h.imp (fun h=>h) (Xl hl)
 exact h
theorem Iz {P:Program} {o:Oper} {fr:Fr} {H:A2} {v:V} (h:JG P o (ev fr) H v) {K:V→A2→Prop} (k:K v H):F6 P o fr H K:=by
 unfold JG at h
 split at h
 ·rename_i x ho;subst h;exact RF ho k
 ·rename_i x ho;subst h;exact MV ho k
 ·rename_i c x y ho
  split at h
  ·rename_i t hc;subst h;exact Yk ho hc k
  exact h.elim
 ·rename_i t x ho;obtain⟨h1,rfl⟩:=h;exact Hs ho h1 k
 ·rename_i t ps ho;exact WL ho h k
 ·rename_i t n ps ho;exact MU ho h k
 ·rename_i t l c ho;exact WH ho h k
 ·rename_i t x ho;exact h.elim (fun h=>Yp ho h k) fun h=>WF ho h k
 ·rename_i x ho;obtain⟨h1,rfl⟩:=h;exact Qd ho h1 k
 ·rename_i op t x y ty ho;exact WM ho h k
 ·rename_i op t x ho;exact Yj ho h k
 ·rename_i s d x ho;exact h.elim (fun h=>RN ho h k) fun h=>WK ho h k
 ·rename_i t x y ok ho;exact Ue ho h k
 ·rename_i t x ho;obtain⟨h1,rfl⟩:=h;exact Km ho h1 k
 ·rename_i fn fs cs ho;subst h;exact Qg ho k
 ·rename_i t x lo hi mx ho
  split at h
  ·rename_i l hh m e1 e2 e3;exact h.elim (fun h=>WE ho e1 e2 e3 h k) fun h=>RD ho e1 e2 e3 h k
  exact h.elim
 ·rename_i t x f ho;exact Ou ho h k
 ·rename_i t x f ho;exact WJ ho h k
 ·rename_i t x y ho
  split at h
  ·rename_i kk i e
   rcases h with⟨u,h1,h2⟩|h
   rotate_left
   ·exact Yn ho e h k
   exact F6.le (Ot (K:=fun x H'=>∃y,BG x y∧K y H') ho e h1 ⟨v,h2,k⟩)
  exact h.elim
 ·rename_i t x y ho
  split at h
  ·rename_i kk i e;exact WI ho e h k
  exact h.elim
 ·rename_i x n ho
  split at h
  ·rename_i cs e;exact RM ho e h k
  exact h.elim
 ·rename_i c ho
  split at h
  ·rename_i x hc;obtain⟨ce,args,ts⟩:=c
   simp only at hc h
   subst hc;exact RO ho ((h H fun _ _ e=>e).mono fun x H' ⟨e1,e2⟩=>by rw[e1,e2];exact k)
  ·rename_i b hc;exact h.elim (fun h=>Id ho hc h k) fun h=>Nx ho hc h k
  exact h.elim
 exact h.elim
def As7 (K:V→A2→Prop)(x:V)(H:A2):Prop:=∃y H2,BG x y∧(∀id b,H2 id=some b→H id=some b)∧K y H2
def Gb (P:Program) (A:Ra) (o:Oper) (ρ:Operand→V) (H:A2) (K:V→A2→Prop):Prop:=
 match o.op with
 | .alloc t=>(∃z,Gt P t=some z∧z.one=true∧∀id,H id=none→∃ds,H9 z.cells ds∧K (.ref id 0) (upd H id (some (.cells ds))))∨
  Gt P t=some (.sl [] .nil)∧∃sz,∀q id,H q=none→upd H q (some (.arr sz [])) id=none→K (.ref id 0) (upd (upd H q (some (.arr sz []))) id (some (.cells [.own q 0 0])))
 | .box _ x=>
  (ρ x).one=true∧if A (o.dst.getD 0)then∀id,H id=none→K (.ref id 0) (upd H id (some (.cells (ρ x).cells)))else K (.eref (ρ x).cells 0) H
 | .store t x y=>(∃z H',BG (ρ y) z∧Jt P H t (ρ x) z=some H'∧K .bad H')∨∃z H',BG (ρ y) z∧PY P H t (ρ x) z=some H'∧K .bad H'
 | .makeSlice t l c=>LM P H K t (ρ l) (ρ c)∨LM P H (Zj K) t (ρ l) (ρ c)
 | .assign x=>K (ρ x) H∨Ak6 H K (ρ x)
 | .move x=>K (ρ x) H∨Ak6 H K (ρ x)
 | .buildSlice t n ps=>(∃v,JG P o ρ H v∧K v H)∨litO P H K t n (ps.toList.map fun p=>(p.1,ρ p.2))
 | .makeMap t r=>r=none∧Af4 H K
 | .mapUpdate t x y z=>Ip P H K t (ρ x) (ρ y) (ρ z)
 | .insert t x y z=>Ip P H K t (ρ x) (ρ y) (ρ z)
 | .binOp op t x y _=>(∃v,JG P o ρ H v∧K v H)∨∃q e p,Wf op=some q∧Fc P t=some e∧Xg (ρ x)=some p∧ρ y= .sl [] .nil∧(p→K (.bool q) H)∧K (.bool (!q)) H
 | .call c=>
  match c.callee with
  | .value x=>AX P (ρ x) (c.args.toList.map ρ) H K
  | .builtin .append=>Eh P H K c.argTypes.toList (c.args.toList.map ρ)∨KT P H K c.argTypes.toList (c.args.toList.map ρ)∨Eh P H (As7 K) c.argTypes.toList (c.args.toList.map ρ)
  | .builtin .copy=>Tp P H K c.argTypes.toList (c.args.toList.map ρ)
  | .builtin b=>∃v,(CO P b c.argTypes.toList (c.args.toList.map ρ) v∨JO P H b c.argTypes.toList (c.args.toList.map ρ) v)∧K v H
  |_=>False
 |_=>∃v,JG P o ρ H v∧K v H
theorem Ug {P:Program}{o:Oper}{fr:Fr}{H:A2}{K:V→A2→Prop}{t:TypeId}(ho:o.op= .alloc t)(hz:Gt P t=some (.sl [] .nil))(sz:Nat)
 (h:∀q id,H q=none→upd H q (some (.arr sz [])) id=none→K (.ref id 0) (upd (upd H q (some (.arr sz []))) id (some (.cells [.own q 0 0])))):F6 P o fr H K:=by
 intro g w a hR hE;obtain⟨v,e,hv⟩:=CA hz
 have hr:VR g w v (.sl [] .nil):=by rw[e];exact Dl g w v
 obtain⟨g1,s1,R1,hn,hv1⟩:=CZ hR sz (.inl rfl) hr;obtain⟨g',id,hid,s,hR',hv'⟩:=FD R1 t hv1 rfl;unfold execOp;rw[ho];simp only[Instr.alloc,Sem.run_bind,hv,Result.andThen_ok,G1];exact⟨g',_,_,s1.trans s,hR',hv',h _ id hn hid⟩
theorem Rl.chgCells {g:Gh} {H:A2} {w:World} (h:Rl g H w) {id:Nat} {cs ds:List V} (hk:H id=some (.cells cs)) (el:cs.length=ds.length)
 (hv:∀(j:Nat) u,j<cs.length→VR g w u (cs.getD j .bad)→VR g w u (ds.getD j .bad)):Rl g (upd H id (some (.cells ds))) w:=by
 have hat:∀x,g.at (upd H id (some (.cells ds))) x=g.at H x:=by
  intro x
  by_cases hx:x=id
  ·subst hx;simp only[Gh.at,B7,hk]
  simp only[Gh.at,A7 _ _ hx]
 refine⟨fun x k hx=>?_,fun x x' y h1 h2=>h.inj x x' y (hat x▸h1) (hat x'▸h2),h.frz,fun x hx=>?_,h.bnd,h.glb⟩
 ·by_cases hxe:x=id
  ·subst hxe;rw[B7]at hx;cases hx
   obtain⟨b,c,T,h1,h2,h3,h4,h5,h6⟩:=h.blk x _ hk;exact⟨b,c,T,h1,h2,h3,by omega,fun j hj=>⟨(h5 j (by omega)).1,hv j _ (by omega) (h5 j (by omega)).2⟩,h6⟩
  rw[A7 _ _ hxe]at hx;exact h.blk x k hx
 obtain⟨a1,a2,a3⟩:=h.nxt x hx
 have hne:x≠id:=fun e=>by subst e;rw[hk]at a3;cases a3
 exact⟨a1,a2,by rw[A7 _ _ hne];exact a3⟩
theorem Uf {P:Program}{o:Oper}{fr:Fr}{H:A2}{K:V→A2→Prop}{t:TypeId}{z:V}(ho:o.op= .alloc t)(hz:Gt P t=some z)(h1:z.one=true)(h:∀id,H id=none→∃ds,H9 z.cells ds∧K (.ref id 0) (upd H id (some (.cells ds)))):F6 P o fr H K:=by
 intro g w a hR hE;refine(WN (K:=fun x H'=>∃id,H id=none∧x= .ref id 0∧H'=upd H id (some (.cells z.cells))) ho hz h1 (fun id hid=>⟨id,hid,rfl,rfl⟩) g w a hR hE).mono fun v w' ⟨g',x,H',s,hR',hv,id,hid,e1,e2⟩=>?_;subst e1;subst e2;obtain⟨ds,hle,hK⟩:=h id hid;have:=hR'.chgCells (B7 _ _ _) (ds:=ds) hle.length fun j u _ hu=>hu.le (hle.at j)
 rw[Bu]at this
 exact⟨g',_,_,s,this,hv,hK⟩
theorem Xc {P:Program} {A:Ra} {o:Oper} {fr:Fr} {H:A2} {K:V→A2→Prop} (h:Gb P A o (ev fr) H K):F6 P o fr H K:=by
 unfold Gb at h
 split at h
 ·rename_i t ho
  rcases h with⟨z,h1,h2,h3⟩|⟨h1,sz,h2⟩
  ·exact Uf ho h1 h2 h3
  exact Ug ho h1 sz h2
 ·rename_i t x ho;obtain⟨h1,h2⟩:=h
  split at h2
  ·exact Ov ho h1 h2
  exact Hs ho h1 h2
 ·rename_i t x y ho
  rcases h with⟨z,H',h0,h1,h2⟩|⟨z,H',h0,h1,h2⟩
  ·exact OM ho (fun _ _ _ h=>h.le h0) h1 h2
  exact Ud ho h0 h1 h2
 ·rename_i t l c ho
  have key:∀K,LM P H K t (ev fr l) (ev fr c)→F6 P o fr H K:=by
   intro K h
   unfold LM at h
   split at h
   ·rename_i k1 n k2 m e1 e2;obtain⟨e,sz,by_,z,q1,q2,q3,q4,q5,q6,q7,q8,q9,q10,q11,q12⟩:=h;exact RH ho e1 e2 q1 q2 q3 q4 q5 q6 q7 q8 q9 q10 q11 q12
   exact h.elim
  exact h.elim (key K) fun h=>F6.lessRow (key _ h)
 ·rename_i x ho;exact h.elim (MV ho) fun⟨h1,sz,h2⟩=>LH (.inl ho) h1 sz h2
 ·rename_i x ho;exact h.elim (RF ho) fun⟨h1,sz,h2⟩=>LH (.inr ho) h1 sz h2
 ·rename_i t n ps ho
  rcases h with⟨v,h1,h2⟩|⟨e,sz,xs,ys,h1,h2,h3,h4,h5⟩
  ·exact Iz h1 h2
  exact Yl ho h1 h2 h3 h4 h5
 ·rename_i t r ho;obtain⟨rfl,h⟩:=h;exact h.elim (RG ho) fun h=>h.elim (Qf ho) (Qe ho)
 ·rename_i t x y z ho;exact IZ (.inl ho) h
 ·rename_i t x y z ho;exact IZ (.inr ho) h
 ·rename_i op t x y ty ho
  rcases h with⟨v,h1,h2⟩|⟨q,e,xs,q1,q2,q3,q4,q5,q6⟩
  ·exact Iz h1 h2
  exact Ab6 ho q1 q2 q3 q4 q5 q6
 ·rename_i c ho
  split at h
  ·rename_i x hc;obtain⟨ce,args,ts⟩:=c
   simp only at hc h
   subst hc;exact RO ho h
  ·rename_i hc;exact h.elim (Jj ho hc) fun h=>h.elim (OD ho hc) fun h=>F6.lessH (Jj ho hc h)
  ·rename_i hc;exact To ho hc h
  ·rename_i b _ _ hc;obtain⟨v,h1,h2⟩:=h;exact h1.elim (fun h1=>Id ho hc h1 h2) fun h1=>Nx ho hc h1 h2
  exact h.elim
 obtain⟨v,h1,h2⟩:=h;exact Iz h1 h2
end Go.Ab
