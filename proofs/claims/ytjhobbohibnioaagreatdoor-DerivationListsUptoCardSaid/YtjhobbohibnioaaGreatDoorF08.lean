/- . -/
import Derived.Test.YtjhobbohibnioaaGreatDoorF07
import Derived.KernelRfl
import Derived.Shelf.SlSortCmp.NoneTotal
set_option linter.all false
open Go.Ab.Ar (len_eq lst lst_eq ofs)
namespace Go.Ab
open Go.RowKit Go.MapKept
variable [O5][Ar]
def Mok {K X:Type}(d:TypeDesc)(kf:K→V)(vf:X→V)(o:Obj)(m:List (K×X)):Prop:=∃m':List (K×X),Cv d o (m'.map fun p=>(kf p.1,vf p.2))∧m'.Perm m
theorem Mok.perm {K X:Type}{d:TypeDesc}{kf:K→V}{vf:X→V}{o:Obj}{m l:List (K×X)}(h:Mok d kf vf o m)(hp:m.Perm l):Mok d kf vf o l:=
 let⟨m',h1,h2⟩:=h;⟨m',h1,h2.trans hp⟩
theorem AQ4 {K X:Type}{m:List (K×X)}(hn:(m.map (·.1)).Nodup){p q:K×X}(hp:p∈m)(hq:q∈m)(e:p.1=q.1):p=q:=by
 obtain⟨i,hi,rfl⟩:=N6 hp;obtain⟨j,hj,rfl⟩:=N6 hq;have:i=j:=Na hn (by grind) (by grind) (by grind)
 grind
theorem Au8 {K X:Type}[DecidableEq K]{m m':List (K×X)}(hp:m'.Perm m)(hn:(m'.map (·.1)).Nodup)(k:K)(z:X):Qu m' k z=Qu m k z:=by
 grind[Qu,AQ4]
theorem Ar7 {K X:Type} [DecidableEq K] {m m' r:List (K×X)} (hp:m'.Perm m) {k:K} {v:X} (h:Pg m k v=some r):∃r',Pg m' k v=some r'∧r'.Perm r:=by
 unfold Pg at h
 cases h;refine⟨_,rfl,?_⟩
 have e:m'.any (fun p=>decide (p.1=k))=m.any (fun p=>decide (p.1=k)):=by
  rw[Bool.eq_iff_iff,Lu,Lu]
  grind
 rw[e]
 split
 ·grind
 exact hp.append_right _
theorem Ae3 {K X:Type}{d:TypeDesc}{kf:K→V}{vf:X→V}{o:Obj}{m:List (K×X)}(h:Cv d o (m.map fun p=>(kf p.1,vf p.2))):(m.map (·.1)).Nodup:=by
 have:=h.nodup
 rw[J0]at this
 have e:(m.map ((·.1)∘fun p=>(kf p.1,vf p.2)))=(m.map (·.1)).map kf:=by rw[J0];rfl
 rw[e]at this
 grind
def Ap9 (P:Program)(kt:TypeId)(d:TypeDesc):Bool:=match d with| .struct _=> !P.stoodInHeld kt|_=>true
structure Ug {K:Type} (P:Program) (d:TypeDesc) (kf:K→V):Prop where
 raw:∀x,∃v,BO (kf x)=some v∧Fh d v
 inj:∀x y,kf x=kf y→x=y
 kg:∀kt,P.underlying kt=some d→Ap9 P kt d=true→KG P kt (Fh d)
theorem UU:∀l:List Int,Ks (l.map (V.int .i64))=some (l.map (Value.int .i64))
 |[]=>rfl
 |x::l=>by simp[Ks,Me,UU l]
def AW5 (P:Program)(fs:Array Field):Bool:=
 fs.toList.all (fun f=>f.name != "_" &&(match P.underlying f.type with|some (.int .i64)=>true|_=>false)&&decide (f.offset<fs.size))&&(List.range fs.size).all (fun i=>fs.toList.any fun f=>f.offset==i)
theorem Va {K:Type} {P:Program} {fs:Array Field} {g:K→List Int} {kf:K→V} (hk:∀x,kf x= .agg ((g x).map (V.int .i64))) (hn:∀x,(g x).length=fs.size) (hg:∀x y,g x=g y→x=y)
 (hf:AW5 P fs=true):Ug P (.struct fs) kf where
 raw:=fun x=>⟨.agg ((g x).map (Value.int .i64)).toArray,by rw[hk];grind[BO,UU],g x,hn x,rfl⟩
 inj:=fun x y h=>hg x y (by
  rw[hk,hk]at h
  have h2:=V.agg.inj h
  grind[List.map_inj_right])
 kg:=fun kt h hs=>by
  unfold AW5 at hf
  simp only[L9,DQ,Lu,H8,bne_iff_ne,Gb,CB]at hf
  obtain⟨h1,h2⟩:=hf
  have e:P.fieldsOf kt=fs:=by simp[Program.fieldsOf,h]
  refine KG.flds (by rw[e];exact h) (by grind[Ap9]) ⟨fun f hf=>?_,fun i hi=>?_⟩
  ·rw[e]at hf
   grind
  simp_all
def MvOk {X:Type}(vf:X→V):Prop:=∀x,∃v,BO (vf x)=some v
theorem UY:MvOk V.bool:=fun _=>⟨_,rfl⟩
theorem C5.startO {H0:A5}{id:Nat}{b:Il}(hk:H0 id=some b):C5 Eq (upd H0 id none) [.blk id b] H0:=by
 have h:C5 Eq (upd H0 id none) [.blk id b] (upd (upd H0 id none) id (some b)):=(C5.start M5 rfl).push (G2 _ _ _) rfl
 rwa[Dm,Xo H0 id (some b) hk]at h
theorem Ak0 {α:Type}{f:α→V}{q:OG}{l:List α}(h:BD q ((lst f l).length:Nat)):BD q (Ar.len l):=⟨h.1,by rw[h.2,len_eq,M9]⟩
section
variable {P:Program}{nt:Nat}{rd:Option Nat}{T:Ih}{E:Fo}
variable (hE:E=I5 P nt rd)
include hE
variable {α R:Type}{f:α→V}{Φ:A5→A5→Prop}{H0 H:A5}{L:List En}{sz:Nat}{q:OG}{l:List α}{r:R}
theorem Ad4 (hO:C5 Φ H0 L H){k:V→A5→Prop}(hk:∀(q:OG) H',BD q (Ar.len ([]:List α))→C5 Φ H0 (.blk q.id (.arr sz (q.pre++lst f []++q.rest))::L) H'→k (.own q.id q.lo q.n) H'):E.onil sz H k:=by
 subst hE;intro t ht
 have e:([]:List V)++lst f []++[]=[]:=by rw[←E4 (f:=f)];rfl
 refine hk ⟨t,0,0,[],[]⟩ _ ⟨rfl,by rw[len_eq];rfl⟩ ?_
 show C5 Φ H0 (.blk t (.arr sz (([]:List V)++lst f []++[]))::L) _
 rw[e];exact hO.push ht rfl
theorem AD3 {xs:List V}(hx:M1 xs (lst f l))(hO:C5 Φ H0 L H){k:V→A5→Prop}(hk:∀(q:OG) H',BD q (Ar.len l)→C5 Φ H0 (.blk q.id (.arr sz (q.pre++lst f l++q.rest))::L) H'→k (.own q.id q.lo q.n) H'):E.olit sz H xs k:=by
 subst hE
 have el:xs.length=l.length:=by rw[hx.length,M9]
 refine⟨_,hx,fun t ht=>?_⟩;refine hk ⟨t,0,(xs.length:Nat),[],[]⟩ _ ⟨rfl,by rw[len_eq,el]⟩ ?_
 show C5 Φ H0 (.blk t (.arr sz (([]:List V)++lst f l++[]))::L) _
 rw[K2,H6];exact hO.push ht rfl
section
variable {K X:Type}{kf:K→V}{vf:X→V}{t kt et:Nat}{d:TypeDesc}{m:List (K×X)}{o:Obj}{id:Nat}
theorem Bd8 (d:TypeDesc)(kf:K→V)(vf:X→V)(hO:C5 Φ H0 L H){k:V→A5→Prop}(hk:∀id o H',Mok d kf vf o []→C5 Φ H0 (.blk id (.obj o)::L) H'→k (.map id) H'):E.mmk H k:=by
 subst hE;exact .inl fun id hid=>hk id _ _ ⟨[],Cv.empty d,.refl _⟩ (hO.push hid rfl)
theorem Bf7 [DecidableEq K] (hK:Ug P d kf) {z:V} {z0:X} (hz:JD P et=some z) (hvz:z=vf z0) {key:K} {x:X×Bool} (hx:Qu m key z0=some x) (ok:Bool):
 AX3 P et (m.map fun p=>(kf p.1,vf p.2)) (kf key) ok (if ok=true then .tup [vf x.1,.bool x.2]else vf x.1):=by
 unfold Qu at hx
 cases hx
 cases hf:m.find? (fun p=>decide (p.1=key))with
 |none=>
  refine .inl ⟨fun p hp=>?_,z,hz,by grind⟩;obtain⟨q,hq,rfl⟩:=List.mem_map.1 hp;have:=List.find?_eq_none.1 hf q hq;exact fun e=>this (by simpa using hK.inj _ _ e)
 |some p=>
  have h1:=List.find?_some hf;have h2:=QT hf;refine .inr ⟨vf p.2,List.mem_map.2 ⟨p,h2,?_⟩,rfl⟩;rw[show p.1=key by grind]
theorem AD5 [DecidableEq K](hm:P.underlying t=some (.map kt et))(hd:P.underlying kt=some d)(hK:Ug P d kf){z:V}(z0:X)(hz:JD P et=some z)(hvz:z=vf z0)(hO:C5 Φ H0 L H)(hq:Mok d kf vf o m)(i:Nat)(hi:L[i]? =some (.blk id (.obj o)))
 {key:K} {k:V→Prop} {F:X×Bool→Option R} (h:(Qu m key z0).bind F=some r) (hk:∀x,F x=some r→k (vf x.1)) (hst:Ap9 P kt d=true:=by kernel_rfl):E.mget t H (.map id) (kf key) false k:=by
 obtain⟨x,h1,h2⟩:=bind_some h;obtain⟨m',hq,hp⟩:=hq
 rw[←Au8 hp (Ae3 hq)]at h1
 have ha:=Bf7 (P:=P) (vf:=vf) hE hK hz hvz h1 false;subst hE;obtain⟨v,hv1,hv2⟩:=hK.raw key;exact⟨_,.inl ⟨kt,et,d,v,id,o,_,hm,hK.kg _ hd hst,hv1,hv2,rfl,hO.get i hi,hq,ha⟩,hk x h2⟩
theorem AM4 [DecidableEq K] (hK:Ug P d kf) (hn:((m.map fun p=>(kf p.1,vf p.2)).map (·.1)).Nodup) {key:K} {v:X} {m':List (K×X)} (hx:Pg m key v=some m'):Bb1 (m.map fun p=>(kf p.1,vf p.2)) (kf key) (vf v) (m'.map fun p=>(kf p.1,vf p.2)):=by
 unfold Pg at hx
 cases hx
 split
 ·rename_i h;obtain⟨p,hp,he⟩:=List.any_eq_true.1 h
  have he:p.1=key:=by grind
  obtain⟨a,b,hab⟩:=List.append_of_mem hp;subst hab;refine .inr ⟨a.map fun p=>(kf p.1,vf p.2),vf p.2,b.map fun p=>(kf p.1,vf p.2),by simp[he],?_⟩
  have hna:∀l:List (K×X),(∀q∈l,q.1≠key)→(l.map (fun p=>if p.1=key then(key,v)else p))=l:=fun l hl=>by
   induction l with
   |nil=>rfl
   |cons y l ih=>rw[D5,A0 (hl y (by simp)),ih fun q hq=>hl q (by simp[hq])]
  rw[J0,O3,D5,IB]at hn
  obtain⟨_,n2,n3⟩:=hn
  rw[List.nodup_cons]at n2
  have ha:∀q∈a,q.1≠key:=fun q hq e=>n3 (kf q.1) (List.mem_map.2 ⟨q,hq,rfl⟩) (kf p.1) (by simp) (by rw[e,he]);have hb:∀q∈b,q.1≠key:=fun q hq e=>n2.1 (List.mem_map.2 ⟨q,hq,by simp[e,he]⟩);rw[O3,D5,hna a ha,hna b hb,A2 he];simp
 rename_i h;refine .inl ⟨fun p hp=>?_,by simp⟩;obtain⟨q,hq,rfl⟩:=List.mem_map.1 hp;exact fun e=>h (List.any_eq_true.2 ⟨q,hq,by simpa using hK.inj _ _ e⟩)
theorem AD4 [DecidableEq K](hm:P.underlying t=some (.map kt et))(hd:P.underlying kt=some d)(hK:Ug P d kf)(hV:MvOk vf)(hO:C5 Φ H0 L H)(hq:Mok d kf vf o m)(i:Nat)(hi:L[i]? =some (.blk id (.obj o)))
 {key:K} {v:X} {k:A5→Prop} {F:List (K×X)→Option R} (h:(Pg m key v).bind F=some r) (hk:∀m' o' H',Mok d kf vf o' m'→F m'=some r→C5 Φ H0 (L.set i (.blk id (.obj o'))) H'→k H') (hst:Ap9 P kt d=true:=by kernel_rfl):E.mset t H (.map id) (kf key) (vf v) k:=by
 obtain⟨m',h1,h2⟩:=bind_some h;obtain⟨m0,hq,hp⟩:=hq;obtain⟨r',h3,hp'⟩:=Ar7 hp h1;have hs:=AM4 (d:=d) hE hK hq.nodup h3;subst hE;obtain⟨kv,hv1,hv2⟩:=hK.raw key;obtain⟨vv,hv3⟩:=hV v;exact .inl ⟨kt,et,d,kv,vv,id,o,_,_,hm,hK.kg _ hd hst,hv1,hv2,hv3,rfl,hO.get i hi,hq,hs,fun o' ho=>hk m' o' _ ⟨r',ho,hp'⟩ h2 (hO.set i hi)⟩
end
end
end Go.Ab
namespace Go.Ab
open Go.RowKit
variable [O5][Ar]
def Ah5 (P:Program)(f:FuncId)(args:List V)(ks:List Int)(xs:List V):Prop:=∀H,M8 P f args H fun v H'=>∃id,H id=none∧v= .map id∧H'=upd H id (some (.fm ks xs))
def FG (E:Fo)(n:Int)(K:V→Prop)(z:V):List Int→List V→Prop
 |k::ks,x::xs=>E.br (Ar.cmp .eql n k) (fun _=>K x) (fun _=>FG E n K z ks xs)
 |_,_=>K z
def AG (E:Fo)(i:Int)(K:Nat→Prop):List Int→Prop
 |m::ms=>E.br (Ar.cmp .eql i m) (fun _=>K m.toNat) (fun _=>AG E i K ms)
 |[]=>False
section
variable {P:Program}{nt:Nat}{rd:Option Nat}{T:Ih}{E:Fo}
variable (hE:E=I5 P nt rd)
include hE
variable {Φ:A5→A5→Prop}{H0 H:A5}{L:List En}{t kt et id:Nat}{ks:List Int}{xs:List V}
theorem Be0 (hO:C5 Φ H0 L H){k:V→A5→Prop}(hk:∀id H',C5 Φ H0 (.blk id (.fm [] [])::L) H'→k (.map id) H'):E.mmk H k:=by
 subst hE;exact .inr (.inl fun id hid=>hk id _ (hO.push hid rfl))
theorem AY9 (hm:P.underlying t=some (.map kt et))(hd:P.underlying kt=some (.int .i64))(hO:C5 Φ H0 L H)(i:Nat)(hi:L[i]? =some (.blk id (.fm ks xs))){n:Int}{v:V}(hn:ks.all (fun k=> !(k==n))=true)
 {k:A5→Prop} (hk:∀H',C5 Φ H0 (L.set i (.blk id (.fm (ks++[n]) (xs++[v])))) H'→k H'):E.mset t H (.map id) (.int .i64 n) v k:=by
 subst hE;exact .inr (.inl ⟨kt,et,ks,xs,n,id,hm,hd,rfl,hO.get i hi,rfl,(fun x hx=>by have:=List.all_eq_true.1 hn x hx;simp_all),hk _ (hO.set i hi)⟩)
theorem An1 {n:Int} {K:V→Prop} {z:V}:∀(ks:List Int) (xs:List V),xs.length=ks.length→FG E n K z ks xs→∃v,((∃i:Nat,ks[i]? =some n∧v=xs.getD i .bad)∨((∀k∈ks,k≠n)∧z=v))∧K v
 |[],[],_,h=>⟨z,.inr ⟨(fun _ h=>by cases h),rfl⟩,h⟩
 |[],_::_,hl,_=>by simp at hl
 |_::_,[],hl,_=>by simp at hl
 | k::ks,x::xs,hl,h=>by
  have ih:=An1 (n:=n) (K:=K) (z:=z) ks xs (by grind)
  unfold FG at h
  subst hE;obtain⟨h1,h2⟩:=h
  rw[Ar.cmp_eq]at h1 h2
  cases hb:PG .eql n k with
  |true=>
   have e:n=k:=by grind[PG]
   exact⟨x,.inl ⟨0,by simp[e],by simp⟩,h1 hb⟩
  |false=>
   have e:n≠k:=by grind[PG]
   obtain⟨v,hv,hk⟩:=ih (h2 hb);refine⟨v,?_,hk⟩
   rcases hv with⟨i,q1,q2⟩|⟨q1,q2⟩
   ·exact .inl ⟨i+1,by grind,by grind⟩
   grind
theorem Ao8 {i:Int} {K:Nat→Prop}:∀ms:List Int,AG E i K ms→∃m∈ms,i=m∧K i.toNat
 |[],h=>h.elim
 |m::ms,h=>by
  have ih:=Ao8 (i:=i) (K:=K) ms
  unfold AG at h
  subst hE;obtain⟨h1,h2⟩:=h
  rw[Ar.cmp_eq]at h1 h2
  grind[PG]
theorem AZ0 (hm:P.underlying t=some (.map kt et))(hd:P.underlying kt=some (.int .i64)){z:V}(hz:JD P et=some z)(hl:xs.length=ks.length){n:Int}{k:V→Prop}(h:FG E n k z ks xs):E.mget t H (.fmap ks xs) (.int .i64 n) false k:=by
 obtain⟨v,hv,hk⟩:=An1 hE ks xs hl h;subst hE;exact⟨v,.inr (.inl ⟨kt,et,ks,xs,n,hm,hd,rfl,rfl,rfl,hv.imp (fun h=>h) fun⟨h1,h2⟩=>⟨h1,h2▸hz⟩⟩),hk⟩
theorem AV7 (hO:C5 Φ H0 L H)(i:Nat){cs ds:List V}{k:A5→Prop}(hi:L[i]? =some (.blk id (.cells cs)))(hl:M1 cs ds)(hk:∀H',C5 Φ H0 (L.set i (.blk id (.cells ds))) H'→k H'):E.wkB H id k:=by
 subst hE;exact⟨cs,ds,hO.get i hi,hl,hk _ (hO.set i hi)⟩
theorem AP3 {n:Nat}{i:Int}{K:Nat→Prop}(ms:List Int)(hm:(ms.map Int.toNat==List.range n&&ms.all (fun m=>decide (0≤m)))=true)(h:AG E i K ms):E.aidx i n K:=by
 obtain⟨m,h1,h2,h3⟩:=Ao8 hE ms h;subst hE;subst h2
 simp only[L9,Gb,DQ,H8]at hm
 have hmem:i.toNat∈List.range n:=by rw[←hm.1];grind
 have h0:=hm.2 _ h1
 rw[CB]at hmem
 grind[I5]
theorem AE0 {fid:FuncId}{args args':List V}(hc:Ah5 P fid args' ks xs)(hl:M1 args args')(hO:C5 Φ H0 L H){k:V→A5→Prop}(hk:∀id H',C5 Φ H0 (.blk id (.fm ks xs)::L) H'→k (.map id) H'):E.call (.func (.func fid) [] []) args H k:=by
 subst hE;refine M8.value (F:=[]) (C:=[]) ?_;simp only[K2,H6]
 exact((hc H).args hl).mono fun v H' ⟨id,e1,e2,e3⟩=>by subst e2;subst e3;exact hk id _ (hO.push e1 rfl)
end
theorem Ah0 {P:Program}{T:Ih}{f:FuncId}{fn:Func}{c:Code}{n:Nat}{rs:List ResultVar}{args:List V}{ks:List Int}{xs:List V}(cf:Cf)(hP:VF P T)(hf:P.funcs[f]? =some fn)(hb:fn.body=some c)(hd:M6 cf c=true)
 (hcall:∀vals w,(callFunc f vals).run P w= .ok (.enter f vals) w) (hnt:fn.ntmps=n) (hrs:fn.results.toList=rs) (hn:Nat.ble args.length n=true)
 (h:∀(E:Fo) (H:A5) (k:V→A5→Prop),E=I5 P n none→(∀id (L:List En) (i:Nat) H',L[i]? =some (.blk id (.fm ks xs))→C5 Eq H L H'→k (.map id) H')→run E T n cf c ⟨Dh args 0,[]⟩ H (Qx E T rs k)):Ah5 P f args ks xs:=fun H=>by
 refine M8.le (Y6 (K:=fun x H'=>∃y H2,Dx x y∧Ik H2 H'∧∃id,H id=none∧y= .map id∧H2=upd H id (some (.fm ks xs))) cf hP.1 hP.2 hf hb hd hcall hnt hrs hn fun E hE=>?_);refine h E H _ hE fun id L i H' hi hO=>?_;obtain⟨h1,h2⟩:=(hO.only i hi).last;exact⟨_,_,.refl _,h2,id,h1,rfl,rfl⟩
theorem P9 {α:Type}{m:Option α}{x:α}(h:m=some x):(m.bind fun y=>some y)=some x:=by rw[h];rfl
inductive Ah6 {α β:Type} (R:α→β→Prop):List α→List β→Prop
 |nil:Ah6 R [] []
 |cons {x:α} {y:β} {xs:List α} {ys:List β} (h:R x y) (k:Ah6 R xs ys):Ah6 R (x::xs) (y::ys)
theorem Ah6.get {α β:Type}{R:α→β→Prop}:∀{xs:List α} {ys:List β},Ah6 R xs ys→∀{i:Nat} {y:β},ys[i]? =some y→∃x,xs[i]? =some x∧R x y
 |_,_,.nil,i,y,h=>by simp at h
 |_,_,.cons h k,0,y,e=>by simp at e;subst e;exact⟨_,rfl,h⟩
 |_,_,.cons h k,i+1,y,e=>by simp at e ⊢;exact k.get e
theorem Ah6.len {α β:Type}{R:α→β→Prop}:∀{xs:List α} {ys:List β},Ah6 R xs ys→xs.length=ys.length
 |_,_,.nil=>rfl
 |_,_,.cons _ k=>by simp[k.len]
def Bc0 (P:Program)(fv:V)(args:List V)(Q:V→Prop):Prop:=∀H,Cw P fv args H fun x H'=>Q x∧H'=H
theorem MK.value {P:Program}{f:FuncId}{F C args:List V}{Q:V→Prop}(h:MK P f (F++args++C) Q):Bc0 P (.func (.func f) F C) args Q:=fun H=>(h H).value
section
variable {P:Program}{nt:Nat}{rd:Option Nat}{E:Fo}(hE:E=I5 P nt rd)
include hE
end
end Go.Ab
namespace Go.Ab
open Go.RowKit Go.Sort Go.Shelf Go.Proofs
structure WT (P:Program) (f:FuncId) (k:Nat):Prop where
 zero:∀p cap fv w,Calls P f #[.slice p 0 cap,fv] w fun e w'=>e= .returned (.tuple #[])∧w'=w
 pos:∀(α:Type) [Inhabited α] (enc:α→List Value) (_:∀x,(enc x).length=k) (_:∀x,∀v∈enc x,v.oneCell'=true) (cf:α→α→Int) (_:SWO (ltOf cf)) (g:Nat) (cb:Array Value) (blk off cap:Nat) (d:Array α) (w:World)
  (_:∀args w,(callFunc g args).run P w= .ok (.enter g args) w) (_:CmpLays P g cb enc k cf blk off d.size w) (_:HoldsK enc k w blk off d) (_:blk<w.heap.size) (_:d.size<4611686018427387904) (_:∀x y,(ltOf cf) x y=false→(ltOf cf) y x=false→x=y),
  Calls P f #[.slice (some ⟨blk,off,none⟩) d.size cap,.func (.func g) #[] cb] w fun e w'=>e= .returned (.tuple #[])∧∃n os,w'=sortWorldK enc k w blk off n (d.toList.mergeSort fun x y=> !(ltOf cf) y x).toArray os
theorem UK {P:Program}{ρ:Ren}(Ly:SlLaysF0.n6 P ρ){k:Nat}(aE:∀w,(isAgg (ρ.t 24)).run P w= .ok true w)(zE:∀w,(Go.sizeOf (ρ.t 24)).run P w= .ok k w):WT P (ρ.f 6) k:=
 ⟨fun p cap fv w=>AnyF.slices_SortFunc_none Ly p cap fv w,fun α _ enc hk h1 cf hO g cb blk off cap d w eg hc hH hb hs hT=>AnyQ.slices_SortFunc_total Ly k aE zE enc hk h1 cf hO g cb blk off cap d w eg hc hH hb hs hT⟩
variable [O5]
theorem Al2 {pre ds rest:List V}{j:Nat}(hj:j<ds.length):(pre++ds++rest).getD (pre.length+j) .bad=ds.getD j .bad:=by
 rw[E6,X3,Hy (by omega),Nat.add_sub_cancel_left,IP hj,X3]
theorem Aj7 {pre es ds rest:List V} (hl:ds.length=es.length) {i:Nat} (hi:i<pre.length∨pre.length+ds.length≤i):(pre++ds++rest).getD i .bad=(pre++es++rest).getD i .bad:=by
 simp only[E6,X3]
 rcases hi with hi|hi
 ·rw[IP hi,IP hi]
 have key:∀l:List V,l.length=es.length→(pre++(l++rest))[i]? =rest[i-pre.length-es.length]? :=fun l h=>by
  rw[Hy (by omega),Hy (by omega),h]
 rw[key _ hl,key _ rfl]
theorem AB8 {off:Nat}{d c:Array Value}{t:Nat}(ht:t<c.size):(putCells (fun v=>v) off d c).getD t undef=if off≤t∧t<off+d.size then d[t-off]! else c.getD t undef:=by
 unfold putCells;simp only[Array.getD,Array.size_mapIdx,ht,dif_pos,Array.getInternal_eq_getElem,Array.getElem_mapIdx]
theorem Ab7 {g:Gh} {H:A5} {w:World} (hR:Rl g H w) {ix b k:Nat} {pre es ds rest:List V} {c:Array Value} {T:TypeId} (hk:H ix=some (.arr k (pre++es++rest))) (e1:g.mu ix=some b) (hl:ds.length=es.length) (hes:0<es.length)
 (k2:w.heap[b]? =some (.cells c T (0,0))) (k3:(g.ow ix).o+(pre++es++rest).length*k≤c.size)
 (k4:∀i j,i<(pre++es++rest).length→j<k→(c.getD ((g.ow ix).o+i*k+j) undef).oneCell'=true∧VR g w (c.getD ((g.ow ix).o+i*k+j) undef) (((pre++es++rest).getD i .bad).cells.getD j .bad))
 (e9:∀i,i<(pre++es++rest).length→((pre++es++rest).getD i .bad).cells.length=k)
 (d:Array Value) (hd:d.size=es.length*k) (hds:∀i,i<ds.length→(ds.getD i .bad).cells.length=k)
 (hdv:∀i j,i<ds.length→j<k→(d[i*k+j]!).oneCell'=true∧VR g w d[i*k+j]! ((ds.getD i .bad).cells.getD j .bad)) (m:Nat) (os:Array Obj):
 Y7 g w g (grow (putRow (fun v=>v) (Sort.ahead w m) b ((g.ow ix).o+pre.length*k) d) os)∧
  Rl g (upd H ix (some (.arr k (pre++ds++rest)))) (grow (putRow (fun v=>v) (Sort.ahead w m) b ((g.ow ix).o+pre.length*k) d) os):=by
 have hlen:(pre++es++rest).length=pre.length+es.length+rest.length:=by simp;omega
 have hlen':(pre++ds++rest).length=pre.length+es.length+rest.length:=by simp;omega
 have hs:=Rl.setArr hR (ys:=pre++ds++rest) (c':=putCells (fun v=>v) ((g.ow ix).o+pre.length*k) d c) hk e1 (by omega) k2 (by simp[putCells])
  (fun o ho=>by
   simp only[putCells,QL]
   grind)
  (by omega)
  (fun i hi=>by
   grind)
  (fun i j hi hj=>by
   have hb:(i+1)*k≤(pre++es++rest).length*k:=G5 k (by omega)
   rw[E3,S5]at hb
   rw[AB8 (by omega)]
   by_cases h1:i<pre.length
   ·have hb1:(i+1)*k≤pre.length*k:=G5 k h1
    rw[E3,S5]at hb1
    rw[A0 (by omega),Aj7 hl (.inl h1)]
    grind
   by_cases h2:pre.length+ds.length≤i
   ·have hb2:(pre.length+ds.length)*k≤i*k:=G5 k h2
    rw[E3]at hb2
    rw[A0 (by rw[hd,←hl];omega),Aj7 hl (.inr h2)]
    grind
   obtain⟨u,rfl⟩:∃u,i=pre.length+u:=⟨i-pre.length,by omega⟩
   have hu:u<ds.length:=by omega
   have hb3:(u+1)*k≤es.length*k:=G5 k (by omega)
   rw[E3,S5]at hb3
   rw[A2 (by rw[hd,E3];omega),Al2 hu,show(g.ow ix).o+(pre.length+u)*k+j-((g.ow ix).o+pre.length*k)=u*k+j by rw[E3];omega]
   simp_all)
 obtain⟨s1,R1⟩:=hs
 generalize hw1:w.setRow b (putCells (fun v=>v) ((g.ow ix).o+pre.length*k) d c)=w1 at s1 R1
 have hsz1:w1.heap.size=w.heap.size:=by rw[←hw1];simp
 have hheap:∀x,x<w1.heap.size→(grow (putRow (fun v=>v) (Sort.ahead w m) b ((g.ow ix).o+pre.length*k) d) os).heap[x]? =w1.heap[x]? :=fun x hx=>by
  have hx':x<w.heap.size:=by omega
  simp only[grow,putRow,mapBlock,Sort.ahead];rw[QU (by simpa using hx'),Gs]
  by_cases hxb:b=x
  ·subst hxb;rw[A2 rfl,k2,←hw1,setRow_heap w b c _ T (0,0) k2];rfl
  rw[A0 hxb,←hw1,V9 w b _ x (fun e=>hxb e.symm)]
 have hbel:Below g.base w1 (grow (putRow (fun v=>v) (Sort.ahead w m) b ((g.ow ix).o+pre.length*k) d) os):=by
  refine⟨by rw[←hw1];rfl,by rw[←hw1];rfl,by rw[←hw1];rfl,?_,fun k hk'=>?_⟩
  ·rw[hsz1];simp
  exact hheap k (by have:=hR.bnd;omega)
 obtain⟨s2,R2⟩:=R1.more hbel hheap (by rw[←hw1];exact Ix _ _);exact⟨s1.trans s2,R2⟩
theorem AG3 {w w':World} (h:Below w.heap.size w w') (hd:w.drawn≤w'.drawn):∃q os',w'=grow (w.drewN q) os':=by
 refine⟨w'.drawn-w.drawn,w'.heap.extract w.heap.size w'.heap.size,?_⟩;obtain⟨h1,h2,h3,h4,h5⟩:=h
 cases w' with
 |mk heap tape drawn os output=>
  simp only at h1 h2 h3 h4 h5 hd ⊢
  subst h1;subst h2;subst h3;simp only[grow,World.drewN,World.mk.injEq,true_and,O9];refine⟨?_,by omega⟩;apply Array.ext_getElem?;intro i;rw[IM]
  split
  ·rename_i hi;exact h5 i hi
  rename_i hi;rw[LK]
  split
  ·rename_i h;rw[show w.heap.size+(i-w.heap.size)=i by omega]
  rename_i h;rw[QN (by omega)]
theorem VR.base_up {g:Gh}{w:World}{B:Nat}(hB:g.base≤B){v:Value}{x:V}(h:VR g w v x):VR {g with base:=B} w v x:=by
 induction h with
 |bad v=>exact .bad v
 |bool b=>exact .bool b
 |int k n=>exact .int k n
 |str s=>exact .str s
 |nilp=>exact .nilp
 |nilf=>exact .nilf
 |nili=>exact .nili
 |nilmap=>exact .nilmap
 |map h=>exact .map h
 |fmap hb hw hk hn hl hv ih=>exact .fmap (Lz hb hB) hw hk hn hl ih
 |ref h=>exact .ref h
 |own h h0 h1 h2 hp=>exact .own h h0 h1 h2 hp
 |elem h hs=>exact .elem h hs
 |eref vs hf hw h1 hv ih=>exact .eref vs hf hw h1 ih
 |sl0 ht=>exact .sl0 ht
 |sle ht=>exact .sle ht
 |sl vs hn hc hz hf hw h1 hv ht ih=>exact .sl vs hn hc hz hf hw h1 ih (by cases ‹G6› <;>exact ht)
 |func hl hv hl' hv' ih ih'=>exact .func hl ih hl' ih'
 |yield h=>exact .yield h
 |iface h ih=>exact .iface ih
 |agg hl h1 hv ih=>exact .agg hl h1 ih
 |tup hl hv ih=>exact .tup hl ih
theorem AQ0 {P:Program}{f:FuncId}{args:List V}{n:Int}(hc:B9 P f args (.int .i64 n))(hrun:∀vals w,(callFunc f vals).run P w= .ok (.enter f vals) w){g:Gh}{H:A5}{w:World}(hR:Rl g H w){vals:Array Value}(hA:Args g w vals args):
 Calls P f vals w fun e w'=>e= .returned (.int .i64 n)∧∃q os',w'=grow (w.drewN q) os':=by
 let g2:Gh:={g with base:=w.heap.size,nx:=g.nx}
 have hR2:Rl g2 (fun _=>none) w:=⟨fun _ _ h=>(by cases h),fun id id' b h1 h2=>(by simp[Gh.at]at h1),hR.frz,fun id h=>⟨(hR.nxt id h).1,(hR.nxt id h).2.1,rfl⟩,B3 _,fun n=>(hR.glb n).base_up hR.bnd⟩;have h:=hc (fun _=>none) g2 w vals hR2 ⟨hA.1,fun i hi=>(hA.2 i hi).base_up hR.bnd⟩
 rw[hrun]at h
 have h:CallsIn Fence.wide 0 P f vals w fun e w'=>∃v,e= .returned v∧N3 g2 w (fun x H'=>x= .int .i64 n∧H'=fun _=>none) v w':=h
 rw[callsIn_wide]at h
 refine h.mono ?_;rintro e w' ⟨v,rfl,g',x,H',s,R',hv,rfl,rfl⟩;exact⟨by rw[hv.int_inv],AG3 s.low s.dr⟩
def WX (P:Program)(f:FuncId)(fv:V)(k:Nat)(xs ys:List V):Prop:=
 (∀H (q:OG),BD q (xs.length:Nat)→H q.id=some (.arr k (q.pre++xs++q.rest))→M8 P f [.own q.id q.lo q.n,fv] H fun x H'=>x= .tup []∧H'=upd H q.id (some (.arr k (q.pre++ys++q.rest))))∧ys.length=xs.length
theorem VR.funcN {g:Gh} {w:World} {v:Value} {fn:Fn} {C:List V} (h:VR g w v (.func fn [] C)):∃cb,v= .func fn #[] cb∧Args g w cb C:=by
 cases h with
 |@func _ fs cs _ _ hl hv hl' hv'=>
  have e1:fs= #[]:=QW hl
  simp_all[Args]
theorem AG9 {α:Type}[Inhabited α]{enc:α→List Value}{k:Nat}{d:Array α}{i j:Nat}(hi:i<d.size)(hj:j<k):(flatK enc k d)[i*k+j]! =(enc d[i]!)[j]! :=by
 have h1:(i+1)*k≤d.size*k:=G5 k hi
 rw[E3,S5]at h1
 rw[get_flatK _ _ _ _ (by omega)]
 have hk:0<k:=by omega
 rw[show(i*k+j) / k=i by rw[El,Nat.mul_add_div hk,Lt hj];rfl,show(i*k+j) % k=j by rw[El,Nat.mul_add_mod,Nat.mod_eq_of_lt hj]]
theorem Rx [Ar] {P:Program} {sf:FuncId} {k:Nat} (hS:WT P sf k)
 (hrun:∀vals w,(callFunc sf vals).run P w= .ok (.enter sf vals) w) {α:Type} {f:α→V} {va:α→List V} (hf:∀x,f x= .agg (va x)) (hsz:∀x,(va x).length=k)
 {cmp:α→α→Option Int} {gf:FuncId} {C:List V} (eg:∀vals w,(callFunc gf vals).run P w= .ok (.enter gf vals) w) (hc:∀a b n,cmp a b=some n→B9 P gf ([.agg (va a),.agg (va b)]++C) (.int .i64 n))
 {l r:List α} (h:LU cmp l=some r):WX P sf (.func (.func gf) [] C) k (lst f l) (lst f r):=by
 obtain⟨hp,hst,hlt⟩:=Aa6 h;refine⟨?_,by rw[M9,M9];exact hp.length_eq⟩;rw[lst_eq,lst_eq];intro H q hq hk g w vals hR hA;obtain⟨hlen,hv⟩:=hA;obtain⟨vals⟩:=vals
 match vals,hlen with
 | [v,fvv],_=>
  have hv1:VR g w v (.own q.id q.lo q.n):=by have:=hv 0 (by simp);simpa using this
  have hv2:VR g w fvv (.func (.func gf) [] C):=by have:=hv 1 (by simp);simpa using this
  obtain⟨cb,rfl,hcb⟩:=hv2.funcN;rw[hrun]
  show CallsIn Fence.wide 0 P sf #[v,.func (.func gf) #[] cb] w _
  rw[callsIn_wide];obtain⟨b,p,e1,e2,e3,e4,e5,e6,e7,e8,e9,e10⟩:=EL hR hk hv1
  have hxl:(q.pre++l.map f++q.rest).length=q.pre.length+l.length+q.rest.length:=by simp;omega
  have hn0:=hq.2
  rw[D6]at hn0
  have hnn:q.n.toNat=l.length:=by omega
  by_cases hz:l=[]
  ·subst hz
   have hr:r=[]:=by simpa using hp.length_eq
   subst hr;subst e2;rw[hnn];refine(hS.zero p _ _ w).mono ?_;rintro e w' ⟨rfl,rfl⟩;refine⟨_,rfl,g,.tup [],H,Y7.refl _ _,hR,VR.und _ _,rfl,?_⟩
   funext x
   simp_all[upd]
  have hn:0<l.length:=List.length_pos_iff.2 hz
  rcases e10 with e10|⟨c,T,k1,k2,k3,k4,k5,k6⟩
  ·omega
  have hp8:=e8 (by rw[hq.1];omega);subst hp8;subst e2
  haveI:Inhabited (Fin l.length):=⟨⟨0,hn⟩⟩
  have hlo:q.lo.toNat=q.pre.length:=by rw[hq.1];simp
  let enc:Fin l.length→List Value:=fun i=>(List.range k).map fun j=>c.getD ((g.ow q.id).o+(q.pre.length+i.val)*k+j) undef
  have henc:∀x,(enc x).length=k:=fun x=>by simp[enc]
  have hencj:∀(x:Fin l.length) (j:Nat),j<k→(enc x)[j]! =c.getD ((g.ow q.id).o+(q.pre.length+x.val)*k+j) undef:=fun x j hj=>by simp[enc,hj]
  have hcellV:∀(x:Fin l.length) (j:Nat),((q.pre++l.map f++q.rest).getD (q.pre.length+x.val) .bad).cells.getD j .bad=(va l[x.val]).getD j .bad:=fun x j=>by
   have e:(l.map f).getD x.val .bad=f l[x.val]:=by rw[X3,R6,E0 x.isLt];rfl
   rw[Al2 (by simp),e,hf];rfl
  have hcell:∀(x:Fin l.length) (j:Nat),j<k→((enc x)[j]!).oneCell'=true∧VR g w (enc x)[j]! ((va l[x.val]).getD j .bad):=fun x j hj=>by
   rw[hencj x j hj,←hcellV]
   grind
  have h1:∀x,∀v∈enc x,v.oneCell'=true:=fun x v hv=>by
   obtain⟨j,hj,rfl⟩:=N6 hv
   rw[henc]at hj
   have:=(hcell x j hj).1
   rwa[getElem!_pos _ _ (by rw[henc];exact hj)]at this
  have hdef:∀i j:Fin l.length,∃n,cmp l[i.val] l[j.val]=some n:=fun i j=>Aa3 hst (hp.mem_iff.2 (G3 _)) (hp.mem_iff.2 (G3 _))
  let cf:Fin l.length→Fin l.length→Int:=fun i j=>(cmp l[i.val] l[j.val]).getD 0
  have hpos:∀i:Fin l.length,∃p:Nat,∃hh:p<r.length,r[p]=l[i.val]:=fun i=>by
   obtain⟨p,hh,e⟩:=N6 (hp.mem_iff.2 (G3 i.isLt));exact⟨p,hh,e⟩
  let pos:Fin l.length→Nat:=fun i=>Classical.choose (hpos i)
  have hpos':∀i:Fin l.length,∃hh:pos i<r.length,r[pos i]=l[i.val]:=fun i=>Classical.choose_spec (hpos i)
  have hltp:∀i j,ltOf cf i j=decide (pos i<pos j):=fun i j=>by
   obtain⟨n,hn⟩:=hdef i j;obtain⟨a1,a2⟩:=hpos' i;obtain⟨b1,b2⟩:=hpos' j;rw[←Bt hst a1 b1,a2,b2];simp[ltOf,cf,Vb,hn]
  have hnd:=hp.nodup_iff.1 (VS hst)
  have hinj:∀i j:Fin l.length,pos i=pos j→i=j:=fun i j e=>by
   obtain⟨a1,a2⟩:=hpos' i;obtain⟨b1,b2⟩:=hpos' j
   have e2:l[i.val]=l[j.val]:=by rw[←a2,←b2];simp only[e]
   rw[List.Nodup,Bj]at hnd
   apply Fin.ext
   rcases Ew i.val j.val with h'|h'|h'
   ·exact absurd e2 (hnd _ _ i.isLt j.isLt h')
   ·exact h'
   exact absurd e2.symm (hnd _ _ j.isLt i.isLt h')
  have hO:SWO (ltOf cf):=⟨fun x=>by rw[hltp];simp,fun x y z=>by rw[hltp,hltp,hltp];simp;omega,fun x y z=>by rw[hltp,hltp,hltp];simp;omega⟩
  have hT:∀x y,ltOf cf x y=false→ltOf cf y x=false→x=y:=fun x y=>by
   rw[hltp,hltp];intro a b;simp at a b;exact hinj _ _ (by omega)
  let d0:Array (Fin l.length):=(List.finRange l.length).toArray
  have hd0:d0.size=l.length:=by simp[d0]
  have hW:∀(dk:Array (Fin l.length)),dk.size=l.length→∀(m:Nat) (os:Array Obj),
   Y7 g w g (sortWorldK enc k w b ((g.ow q.id).o+q.pre.length*k) m dk os)∧Rl g (upd H q.id (some (.arr k (q.pre++dk.toList.map (fun i=>f l[i.val])++q.rest)))) (sortWorldK enc k w b ((g.ow q.id).o+q.pre.length*k) m dk os):=by
   intro dk hdk m os
   have hgd:∀i (hi:i<dk.size),(dk.toList.map (fun i=>f l[i.val])).getD i .bad=f l[(dk[i]!).val]:=fun i hi=>by
    have e:dk[i]! =dk[i]:=getElem!_pos dk i hi;rw[X3,R6,CN,CQ hi];simp only[e,I6,AF]
   have hml:(dk.toList.map (fun i=>f l[i.val])).length=dk.size:=by simp
   exact Ab7 hR hk e1 (by rw[hml,D6,hdk]) (by simpa using hn) k2 k3 k4 e9 (flatK enc k dk) (by rw[size_flatK,hdk,D6])
    (fun i hi=>by rw[hml]at hi;rw[hgd i hi,hf];exact hsz _)
    (fun i j hi hj=>by
     rw[hml]at hi
     rw[AG9 hi hj,hgd i hi,hf]
     exact hcell _ j hj) m os
  have hH:HoldsK enc k w b ((g.ow q.id).o+q.pre.length*k) d0:=by
   intro t ht
   rw[size_flatK,hd0]at ht
   have hkp:0<k:=by
    rcases Nat.eq_zero_or_pos k with h0|h0
    ·rw[h0,Nat.mul_zero]at ht;omega
    exact h0
   have hi:t / k<l.length:=(NS hkp).2 ht;have hj:t % k<k:=CT _ hkp
   have e3:t=t / k*k+t % k:=by have:=LF t k;rw[El]at this;omega
   have hb:(t / k+1)*k≤l.length*k:=G5 k hi
   rw[E3,S5]at hb
   have hb2:(q.pre.length+l.length)*k≤(q.pre++l.map f++q.rest).length*k:=G5 k (by rw[hxl];omega)
   rw[E3]at hb2
   have hval:(flatK enc k d0)[t]! =c.getD ((g.ow q.id).o+q.pre.length*k+t) undef:=by
    have hg:d0[t / k]! =⟨t / k,hi⟩:=by rw[getElem!_pos _ _ (by rw[hd0];exact hi)];simp[d0]
    rw[get_flatK _ _ _ _ (by rw[hd0];exact ht),hg,hencj _ _ hj]
    congr 1
    rw[E3];show _+(_+t / k*k)+t % k=_;omega
   refine⟨?_,by simp[World.frozen?,k2]⟩
   have hlt:(g.ow q.id).o+q.pre.length*k+t<c.size:=by omega
   rw[show(id (flatK enc k d0)[t]! :Value)=(flatK enc k d0)[t]! from rfl,hval];simp[World.cell?,k2,Array.getD,hlt]
  have hcmp:CmpLays P gf cb enc k cf b ((g.ow q.id).o+q.pre.length*k) d0.size w:=by
   intro m os dk hs x y;obtain⟨s,R⟩:=hW dk (hs.trans hd0) m os;obtain⟨n,hxy⟩:=hdef x y
   have ecf:cf x y=n:=by simp[cf,hxy]
   rw[ecf]
   have hagg:∀z:Fin l.length,VR g (sortWorldK enc k w b ((g.ow q.id).o+q.pre.length*k) m dk os) (.agg (enc z).toArray) (.agg (va l[z.val])):=fun z=>by
    have hg:∀i,i<k→(enc z).toArray.getD i undef=(enc z)[i]! :=fun i hi=>by
     rw[getElem!_pos _ _ (by rw[henc];exact hi)];simp[Array.getD,henc,hi]
    refine VR.agg (by simp[henc,hsz]) (fun i hi=>?_) (fun i hi=>?_)
    ·rw[hsz]at hi;rw[hg i hi];exact(hcell z i hi).1
    rw[hsz]at hi;rw[hg i hi];exact(hcell z i hi).2.mono s
   refine AQ0 (hc _ _ _ hxy) eg R (Args.append (x:=[.agg (va l[x.val]),.agg (va l[y.val])]) ⟨rfl,fun i hi=>?_⟩ ⟨hcb.1,fun i hi=>(hcb.2 i hi).mono s⟩)
   match i,hi with
   |0,_=>exact hagg x
   |1,_=>exact hagg y
  have hblk:b<w.heap.size:=by
   rcases BG b w.heap.size with h'|h'
   ·exact h'
   rw[QN h']at k2;cases k2
  have hfin:=hS.pos _ enc henc h1 cf hO gf cb b ((g.ow q.id).o+q.pre.length*k) ((q.pre++l.map f++q.rest).length-q.pre.length) d0 w eg hcmp hH hblk (by omega) hT;clear hcmp hH hO hT
  rw[hd0]at hfin
  rw[hnn,hlo];refine hfin.mono ?_;rintro e w' ⟨rfl,n',os,rfl⟩
  let s:=d0.toList.mergeSort fun x y=> !(ltOf cf) y x
  have hsl:s.toArray.size=l.length:=by simp[s,QK,d0]
  obtain⟨st,R⟩:=hW s.toArray hsl n' os;refine⟨_,rfl,g,.tup [],_,st,R,VR.und _ _,rfl,?_⟩
  have hsp:s.Perm (List.finRange l.length):=by simpa[d0]using List.mergeSort_perm d0.toList fun x y=> !(ltOf cf) y x
  have hsr:s.map (fun i=>l[i.val])=r:=by
   refine NF hst ?_ ?_
   ·have h2:=hsp.map (fun i:Fin l.length=>l[i.val])
    have h3:(List.finRange l.length).map (fun i:Fin l.length=>l[i.val])=l:=by
     apply Gl
     ·simp
     intro i h1 h2;simp
    rw[h3]at h2
    exact h2.trans hp.symm
   rw[S6];have h2:=QP (le:=fun x y=> !(ltOf cf) y x) (fun a b c=>by simp only[hltp];simp;omega) (fun a b=>by simp only[hltp];simp;omega) d0.toList;refine h2.imp fun{a b} hab=>?_;obtain⟨a1,a2⟩:=hpos' a;obtain⟨b1,b2⟩:=hpos' b
   rw[hltp]at hab
   rw[←a2,←b2,Bt hst b1 a1]
   simpa using hab
  have:s.toArray.toList.map (fun i=>f l[i.val])=r.map f:=by rw[←hsr,J0];rfl
  rw[this]
section
variable [Ar]{P:Program}{nt:Nat}{rd:Option Nat}{E:Fo}(hE:E=I5 P nt rd)
include hE
theorem Yw {Φ:A5→A5→Prop}{H0 H:A5}{L:List En}{fid:FuncId}{fv:V}{q:OG}{sz:Nat}{α:Type}{f:α→V}{l:List α}{k:V→A5→Prop}{R:Type}{m:Option (List α)}{F:List α→Option R}{r:R}
 (hO:C5 Φ H0 L H) (hq:BD q (Ar.len l)) (i:Nat) (hi:L[i]? =some (.blk q.id (.arr sz (q.pre++lst f l++q.rest)))) (h:m.bind F=some r) (hc:∀x,m=some x→WX P fid fv sz (lst f l) (lst f x))
 (hk:∀x H',BD q (Ar.len x)→C5 Φ H0 (L.set i (.blk q.id (.arr sz (q.pre++lst f x++q.rest)))) H'→F x=some r→k (.tup []) H'):
 E.call (.func (.func fid) [] []) [.own q.id q.lo q.n,fv] H k:=by
 subst hE;obtain⟨x,h1,h2⟩:=bind_some h;obtain⟨c1,c2⟩:=hc x h1;refine M8.value (F:=[]) (C:=[]) ?_;simp only[K2,H6];refine(c1 H q ⟨hq.1,by rw[hq.2,len_eq,M9]⟩ (hO.get i hi)).mono fun v H' ⟨e1,e2⟩=>?_;subst e1;subst e2;refine hk x _ ⟨hq.1,?_⟩ (hO.set i hi) h2;rw[hq.2,len_eq,len_eq]
 rw[M9,M9]at c2
 omega
end
end Go.Ab
namespace Go.Ab
open Go.RowKit
variable [O5]
theorem M8.thaw {P:Program} {f:FuncId} {args:List V} {H:A5} {K K':V→A5→Prop} (h:M8 P f args H K)
 (hk:∀x H',K x H'→K' x H'∨∃id sz row lo n,x= .own id lo n∧H' id=some (.arr sz row)∧K' (.sl (R3 row lo n) .ro) (upd H' id none)):M8 P f args H K':=
 fun g w vals hR hA=>(h g w vals hR hA).mono fun v w' ⟨g',x,H',s,hR',hv,hK⟩=>by
  rcases hk x H' hK with hK|⟨id,sz,row,lo,n,rfl,h1,h2⟩
  ·grind[N3]
  obtain⟨g2,s2,R2,hv2⟩:=hR'.freezeArr h1;exact⟨g2,_,_,s.trans s2,R2,hv2 _ _ _ (hv.mono s2),h2⟩
section
variable [Ar]{P:Program}{T:Ih}
theorem Fg {f:FuncId} {fn:Func} {c:Code} {n:Nat} {rs:List ResultVar} {args:List V} {r:V} (cf:Cf) (hP:VF P T) (hf:P.funcs[f]? =some fn) (hb:fn.body=some c) (hd:M6 cf c=true)
 (hcall:∀vals w,(callFunc f vals).run P w= .ok (.enter f vals) w) (hnt:fn.ntmps=n) (hrs:fn.results.toList=rs) (hn:Nat.ble args.length n=true)
 (h:∀(E:Fo) (H:A5) (K:V→A5→Prop),E=I5 P n none→(∀x L H',C5 Eq H L H'→Dx x r→K x H')→
  (∀(q:OG) (sz:Nat) (xs:List V) (i:Nat) (L:List En) H',C5 Eq H L H'→L[i]? =some (.blk q.id (.arr sz (q.pre++xs++q.rest)))→BD q (xs.length:Nat)→Dx (.sl xs .ro) r→K (.own q.id q.lo q.n) H')→run E T n cf c ⟨Dh args 0,[]⟩ H (Qx E T rs K)):B9 P f args r:=fun H=>by
 refine M8.le ?_
 refine(Y6 (K:=fun x H'=>(∃y H2,Dx x y∧Ik H2 H'∧y=r∧H2=H)∨∃(q:OG) (sz:Nat) (xs:List V) (i:Nat) (L:List En),x= .own q.id q.lo q.n∧C5 Eq H L H'∧L[i]? =some (.blk q.id (.arr sz (q.pre++xs++q.rest)))∧BD q (xs.length:Nat)∧Dx (.sl xs .ro) r)
  cf hP.1 hP.2 hf hb hd hcall hnt hrs hn fun E hE=>?_).thaw ?_
 ·exact h E H _ hE (fun x L H' hO hx=>.inl ⟨r,H,hx,hO.ext,rfl,rfl⟩) fun q sz xs i L H' hO hi hq hr=>.inr ⟨q,sz,xs,i,L,rfl,hO,hi,hq,hr⟩
 rintro x H' (h|⟨q,sz,xs,i,L,rfl,hO,hi,hq,hr⟩)
 ·exact .inl h
 refine .inr ⟨q.id,sz,_,q.lo,q.n,rfl,hO.get i hi,r,H,?_,(hO.del i hi).ext,rfl,rfl⟩;rw[Aa2 rfl hq.1 hq.2];exact hr
end
end Go.Ab
namespace Go.Ab
open Go.RowKit
variable [O5][Ar]
section
variable {P:Program}{nt:Nat}{rd:Option Nat}{T:Ih}{E:Fo}{I:List (List V)→A5→A5→Prop}{D:A5→A5→Prop}
theorem HS {α:Type}{c:Bool}{x:Option α}{r:α}(h:(if c=true then x else none)=some r):c=true∧x=some r:=by
 simp_all
theorem G7.exL {D:A5→A5→Prop}(hD:G7 D):G7 fun F H=>∃L,C5 D F L H:=
 ⟨fun⟨L,h⟩=>(C5.stable hD L).le h,fun id b ⟨L,h⟩ e=>⟨L,(C5.stable hD L).chg id b h e⟩⟩
theorem C5.hle {Φ:A5→A5→Prop}{F H H':A5}{L:List En}(h:C5 Φ F L H)(hl:Ik H H'):C5 Φ F L H':=by
 grind[C5,Ik]
theorem AD0 (hE:E=I5 P nt rd) {α R:Type} {f:α→V} {sz:Nat} (hsz:∀x,(f x).cells.length=sz) {l:List α} {tl:G6} {lo:Option Int} {m:Int} {k:V→Prop} {F:List α→Option R} {r:R} (h:(Q0 l lo (some m) (some m)).bind F=some r)
 (hk:∀x,F x=some r→k (.sl (lst f x) .full)):E.slice sz (lst f l) tl lo (some m) (some m) k:=by
 subst hE;obtain⟨x,h1,h2⟩:=bind_some h
 unfold Q0 at h1
 split at h1
 ·rename_i hc;obtain⟨c1,c2,c3,c4,c5⟩:=hc;cases h1;refine⟨?_,?_⟩
  ·rw[M9]
   simp_all[Oq]
  have hm:m=(m.toNat:Int):=by grind
  have hc:Jr (lo.getD 0).toNat m.toNat l.length (some m) tl= .full:=A2 hm;rw[M9,lst_eq,←List.map_drop,←List.map_take]
  grind[lst_eq]
 cases h1
theorem TX {f:FuncId} {args:List V} {sz:Nat} {xs:List V} (h:VG P f args sz xs):B9 P f args (.sl xs .ro):=fun H=>
 (h H).thaw fun x H' ⟨q,e,hq,hn,e2⟩=>by
  refine .inr ⟨q.id,sz,_,q.lo,q.n,e,by rw[e2,G2],?_,?_⟩
  ·rw[Aa2 rfl hq.1 hq.2]
  grind[Dm,Xo]
theorem Ze {f:FuncId}{fn:Func}{c:Code}{n:Nat}{rs:List ResultVar}{args:List V}(cf:Cf)(hP:VF P T)(hf:P.funcs[f]? =some fn)(hb:fn.body=some c)(hd:M6 cf c=true)
 (hcall:∀vals w,(callFunc f vals).run P w= .ok (.enter f vals) w) (hnt:fn.ntmps=n) (hrs:fn.results.toList=rs) (hn:Nat.ble args.length n=true) {A:A5→Prop} {F H:A5}
 (h:∀(E:Fo) (K:V→A5→Prop),E=I5 P n none→(∀x H',A H'→x= .bool true→K x H')→(∀x L H',C5 D F L H'→x= .bool false→K x H')→run E T n cf c ⟨Dh args 0,[]⟩ H (Qx E T rs K)):
 M8 P f args H fun r H'=>(r= .bool true∧A H')∨(r= .bool false∧∃L,C5 D F L H'):=by
 refine(Y6 (K:=fun x H'=>∃y H2,Dx x y∧Ik H2 H'∧((y= .bool true∧A H2)∨(y= .bool false∧∃L,C5 D F L H2))) cf hP.1 hP.2 hf hb hd hcall hnt hrs hn fun E hE=>?_).le.mono fun r H' hr=>hr;exact h E _ hE (fun x H' ha hx=>⟨x,H',.refl _,.refl _,.inl ⟨hx,ha⟩⟩) fun x L H' ho hx=>⟨x,H',.refl _,.refl _,.inr ⟨hx,L,ho⟩⟩
variable {α β σ:Type}
def ECI (enc:α→List V)(step:σ→α→Option (List β×(σ⊕Unit)))(s1:σ)(Inv:σ→List β→A5→A5→Prop)(w':List β)(l:List (List V))(F H:A5):Prop:=
 ∃q:σ×List α×List β,(l=q.2.1.map enc∧Af step q.2.1 q.1=some (q.2.2,.inl s1))∧Inv q.1 (q.2.2++w') F H
theorem AP0 (hE:E=I5 P nt rd) (hI:∀l,G7 (I l)) (hD:G7 D) {f:FuncId} {args':V→List V} {rb:V→Bool→Prop} {enc:α→List V} {benc:β→List V} {step:σ→α→Option (List β×(σ⊕Unit))} {Ls:σ→List En} {cv:V}
 {xs:List α} {w w':List β} {tl:List (List V)} {s0 s1:σ} {F H:A5} {args:List V} {k:V→A5→Prop} (hcv:cv.one=true∧cv.cells=[cv]) (hc:PV P f args' (xs.map enc) rb) (h:Af step xs s0=some (w,.inl s1)) (hO:C5 (I (List.map benc (w++w')++tl)) F (Ls s0) H)
 (hl:M1 args (args' cv))
 (round:∀s y w1 w2 F H o,step s y=some (w1,o)→C5 (I (List.map benc (w1++w2)++tl)) F (Ls s) H→Cw P cv (enc y) H fun r H'=>(r= .bool true∧∃s',o= .inl s'∧C5 (I (List.map benc w2++tl)) F (Ls s') H')∨(r= .bool false∧∃L,C5 D F L H'))
 (h1:∀v H',rb v true→C5 (I (List.map benc w'++tl)) F (Ls s1) H'→k v H') (h2:∀v L H',rb v false→C5 D F L H'→k v H'):E.call (.func (.func f) [] []) args H k:=by
 subst hE
 let Inv:σ→List β→A5→A5→Prop:=fun s w F H=>C5 (I (List.map benc w++tl)) F (Ls s) H
 have sI:∀l,G7 (ECI enc step s1 Inv w' l):=fun l=>G7.ex fun q=>C5.stable (hI _) _;have sD:G7 fun F H=>∃L,C5 D F L H:=G7.exL hD
 have hy:PS P cv (ECI enc step s1 Inv w') fun F H=>∃L,C5 D F L H:=by
  refine⟨hcv,fun x l F H ⟨⟨s,ys,w2⟩,⟨hl,hr⟩,hi⟩=>?_⟩
  cases ys with
  |nil=>cases hl
  | cons y ys=>
   simp only[D5,U7]at hl
   obtain⟨rfl,rfl⟩:=hl
   simp only[Af]at hr
   cases ho:step s y with
   |none=>rw[ho]at hr;cases hr
   | some p=>
    obtain⟨w1,o⟩:=p
    rw[ho]at hr
    cases o with
    |inr u=>cases hr
    | inl s'=>
     simp only at hr
     cases hx:Af step ys s' with
     |none=>rw[hx]at hr;cases hr
     |some p=>
      obtain⟨w3,x⟩:=p
      rw[hx]at hr
      cases hr
      have hi':C5 (I (List.map benc (w1++(w3++w'))++tl)) F (Ls s) H:=by rw[←E6];exact hi
      refine(round s y w1 (w3++w') F H _ ho hi').mono fun r H' hr=>?_
      rcases hr with⟨rfl,s2,e,ho2⟩|⟨rfl,hd⟩
      ·cases e;exact .inl ⟨rfl,⟨s',ys,w3⟩,⟨rfl,hx⟩,ho2⟩
      simp_all
 have h3:M8 P f args H k:=((hc cv _ _ sI sD hy [] F H ⟨⟨s0,xs,w⟩,⟨H6 _,h⟩,hO⟩).args hl).mono fun v H' hr=>by
  rcases hr with⟨hb,⟨s,ys,w2⟩,⟨hl,hr⟩,hi⟩|⟨hb,L,ho⟩
  ·cases ys with
   |cons _ _=>cases hl
   |nil=>cases hr;grind
  grind
 exact M8.value (F:=[]) (C:=[]) (by grind)
end
end Go.Ab
namespace Go.Ab
open Go.RowKit Go.MapKept
variable [O5][Ar]
section
variable {K X:Type}
end
section
variable {P:Program}{nt:Nat}{rd:Option Nat}{T:Ih}{E:Fo}
variable (hE:E=I5 P nt rd)
include hE
variable {K X R S:Type}{kf:K→V}{vf:X→V}{d:TypeDesc}{Φ:A5→A5→Prop}{H0 H:A5}{L:List En}{r:R}{fid:FuncId}{args args':List V}{k:V→A5→Prop}
end
theorem C5.ne {Φ:A5→A5→Prop}{F H:A5}{L:List En}{a b:Nat}{x y:Il}(h:C5 Φ F L H)(i j:Nat)(hi:L[i]? =some (.blk a x))(hj:L[j]? =some (.blk b y))(hij:i≠j):a≠b:=fun e=>by
 obtain⟨hs,F',H1,h0,h1,h2⟩:=h;subst e;exact hij (h0.inj i j _ _ a x y hi hj rfl rfl)
section
variable {P:Program}{T:Ih}{f:FuncId}{fn:Func}{c:Code}{n:Nat}{rs:List ResultVar}{args:List V}{K X:Type}{kf:K→V}{vf:X→V}{d:TypeDesc}
end
section
variable {K X:Type}
end
section
variable {P:Program}{nt:Nat}{rd:Option Nat}{T:Ih}{E:Fo}
variable (hE:E=I5 P nt rd)
include hE
variable {K X:Type}{kf:K→V}{vf:X→V}{d:TypeDesc}{Φ:A5→A5→Prop}{H0 H:A5}{L:List En}{k:V→A5→Prop}{m left:List (K×X)}{o:Obj}{mid it:Nat}{b:Il}{p:K×X}
end
end Go.Ab
namespace Go.Ab
variable [O5]
theorem Ad5 {E:Fo}{t:Nat}{H:A5}{m y y':V}{ok:Bool}{k:V→Prop}(hy:y'=y)(h:E.mget t H m y' ok k):E.mget t H m y ok k:=hy▸h
theorem Wm {E:Fo}{t:Nat}{H:A5}{m y y' v:V}{k:A5→Prop}(hy:y'=y)(h:E.mset t H m y' v k):E.mset t H m y v k:=hy▸h
end Go.Ab
namespace Go.Ab
open Go.RowKit
variable [O5][Ar]
section
variable {K X:Type}{P:Program}{d:TypeDesc}{kf:K→V}{vf:X→V}{o:List Value×List V}{m:List (K×X)}
def RA (kf:K→V)(vf:X→V)(o:List Value×List V)(m:List (K×X)):Prop:=
 o.1.map some=m.map (fun p=>BO (kf p.1))∧o.2=m.map (fun p=>vf p.2)∧o.1.Nodup
theorem RA.at (h:RA kf vf o m){i:Nat}{kv:Value}:o.1[i]? =some kv↔∃p,m[i]? =some p∧BO (kf p.1)=some kv:=by
 have:=J6 (fun l=>l[i]?) h.1
 grind
theorem RA.keys (h:RA kf vf o m)(hK:Ug P d kf):∀k∈o.1,Fh d k:=by
 intro k hk;obtain⟨i,hi,e⟩:=N6 hk
 obtain⟨p,_,e2⟩:=h.at.1 (List.getElem?_eq_some_iff.2 ⟨hi,e⟩)
 obtain⟨v,e3,e4⟩:=hK.raw p.1
 rw[e2]at e3;simp_all
theorem RA.find (h:RA kf vf o m) (hK:Ug P d kf) {key:K} {kv:Value} (hkv:BO (kf key)=some kv):
 ((∀k∈o.1,k≠kv)∧∀p∈m,p.1≠key)∨∃(i:Nat) (p:K×X),o.1[i]? =some kv∧m[i]? =some p∧p.1=key∧∀(j:Nat) q,m[j]? =some q→q.1=key→j=i:=by
 by_cases hx:∃p∈m,p.1=key
 ·obtain⟨p,hp,hpk⟩:=hx;obtain⟨i,hi,e⟩:=N6 hp;have e':m[i]? =some p:=List.getElem?_eq_some_iff.2 ⟨hi,e⟩
  have e2:=h.at.2 ⟨p,e',by rw[hpk];exact hkv⟩
  refine .inr ⟨i,p,e2,e',hpk,fun j q hj hq=>?_⟩
  have e3:=h.at.2 ⟨q,hj,by rw[hq];exact hkv⟩
  exact ZY h.2.2 e3 e2
 refine .inl ⟨fun k hk he=>?_,fun p hp he=>hx ⟨p,hp,he⟩⟩;obtain⟨i,hi,e⟩:=N6 hk
 obtain⟨p,e1,e2⟩:=h.at.1 (List.getElem?_eq_some_iff.2 ⟨hi,e⟩)
 refine hx ⟨p,CJ e1,hK.inj _ _ (SO e2 ?_)⟩
 rw[←he]at hkv;exact hkv
theorem An0 [DecidableEq K] {key:K}:∀{m:List (K×X)} {i:Nat} {p:K×X},m[i]? =some p→p.1=key→(∀(j:Nat) q,m[j]? =some q→q.1=key→j=i)→m.find? (fun p=>decide (p.1=key))=some p
 |[],_,_,h,_,_=>by simp at h
 |q::m,0,p,h,hk,_=>by simp_all
 |q::m,i+1,p,h,hk,hu=>by
  have hq:q.1≠key:=fun e=>by have:=hu 0 q rfl e;omega
  simp only[List.find?_cons,hq,Iq]
  exact An0 (by simpa using h) hk fun j r hj hr=>by have:=hu (j+1) r (by grind) hr;omega
theorem AR3 [DecidableEq K]{key:K}{m:List (K×X)}(h:∀p∈m,p.1≠key):m.find? (fun p=>decide (p.1=key))=none:=
 List.find?_eq_none.2 fun p hp=>by grind
variable {E:Fo}{nt:Nat}{rd:Option Nat}{Φ:A5→A5→Prop}{H0 H:A5}{L:List En}{t kt et mid:Nat}
theorem Bd7 (hE:E=I5 P nt rd)(kf:K→V)(vf:X→V)(hO:C5 Φ H0 L H){k:V→A5→Prop}(hk:∀id o H',RA kf vf o []→C5 Φ H0 (.blk id (.vm o.1 o.2)::L) H'→k (.map id) H'):E.mmk H k:=by
 subst hE;exact .inr (.inr fun id hid=>hk id ([],[]) _ ⟨rfl,rfl,Lm⟩ (hO.push hid rfl))
theorem AO7 [DecidableEq K] {R:Type} {r:R} {g:X→V} (hE:E=I5 P nt rd) (hg:∀x,vf x=g x) (hm:P.underlying t=some (.map kt et)) (hd:P.underlying kt=some d) (hK:Ug P d kf) {z:V} (z0:X) (hz:JD P et=some z) (hvz:Dx z (vf z0)) (hO:C5 Φ H0 L H) (hq:RA kf vf o m) (i:Nat) (hi:L[i]? =some (.blk mid (.vm o.1 o.2)))
 {key:K} {k:V→Prop} {F:X×Bool→Option R} (h:(Qu m key z0).bind F=some r) (hk:∀x,F x=some r→k (.tup [g x.1,.bool x.2])) (hst:Ap9 P kt d=true:=by kernel_rfl):E.mget t H (.map mid) (kf key) true k:=by
 subst hE;obtain⟨x,h1,h2⟩:=bind_some h;obtain⟨v,hv1,hv2⟩:=hK.raw key;refine⟨_,.inr (.inr ⟨kt,et,_,v,mid,o.1,o.2,hm,hK.kg _ hd hst,hv1,hv2,rfl,hO.get i hi,hq.keys hK,?_⟩),hk x h2⟩
 unfold Qu at h1
 rw[←hg]
 rcases hq.find hK hv1 with⟨a,b⟩|⟨j,p,a,b,c,u⟩
 ·rw[AR3 b]at h1
  grind
 rw[An0 b c u]at h1
 cases h1;refine .inr ⟨j,a,?_⟩;rw[hq.2.1]
 simp_all
theorem AY6 [DecidableEq K] {R:Type} {r:R} {y:V} {v:X} (hE:E=I5 P nt rd) (hy:y=vf v) (hm:P.underlying t=some (.map kt et)) (hd:P.underlying kt=some d) (hK:Ug P d kf) (hO:C5 Φ H0 L H) (hq:RA kf vf o m) (i:Nat) (hi:L[i]? =some (.blk mid (.vm o.1 o.2)))
 {key:K} {k:A5→Prop} {F:List (K×X)→Option R} (h:(Pg m key v).bind F=some r) (hk:∀m' o' H',RA kf vf o' m'→F m'=some r→C5 Φ H0 (L.set i (.blk mid (.vm o'.1 o'.2))) H'→k H') (hst:Ap9 P kt d=true:=by kernel_rfl):E.mset t H (.map mid) (kf key) y k:=by
 subst hE;subst hy;obtain⟨m',h1,h2⟩:=bind_some h;obtain⟨kv,hv1,hv2⟩:=hK.raw key;refine .inr (.inr ⟨kt,et,_,kv,mid,o.1,o.2,hm,hK.kg _ hd hst,hv1,hv2,rfl,hO.get i hi,hq.keys hK,?_⟩)
 unfold Pg at h1
 rcases hq.find hK hv1 with⟨a,b⟩|⟨j,p,a,b,c,u⟩
 ·have hn:m.any (fun p=>decide (p.1=key))=false:=by
   rw[IA];grind
  rw[hn]at h1
  cases h1;refine .inl ⟨a,hk _ (o.1++[kv],o.2++[vf v]) _ ⟨?_,?_,?_⟩ h2 (hO.set i hi)⟩
  ·simp[hq.1,hv1]
  ·simp[hq.2.1]
  rw[IB];exact⟨hq.2.2,by simp,fun x hx y hy=>by simp_all⟩
 have hy:m.any (fun p=>decide (p.1=key))=true:=List.any_eq_true.2 ⟨p,CJ b,by grind⟩
 rw[hy]at h1
 cases h1;refine .inr ⟨j,a,hk _ (o.1,o.2.set j (vf v)) _ ⟨?_,?_,hq.2.2⟩ h2 (hO.set i hi)⟩
 ·show o.1.map some=_
  rw[hq.1,A2 rfl,J0];refine V6 fun q _=>?_
  grind
 show o.2.set j (vf v)=_
 rw[hq.2.1,A2 rfl];apply Bg
 grind
def MJ (P:Program)(f:FuncId)(args:Nat→List V)(kf:K→V)(vf:X→V)(m:List (K×X))(x:V)(m':List (K×X)):Prop:=
 ∀H id o,RA kf vf o m→H id=some (.vm o.1 o.2)→M8 P f (args id) H fun v H'=>v=x∧∃o',RA kf vf o' m'∧H'=upd H id (some (.vm o'.1 o'.2))
theorem EN {fid:FuncId}{args:List V}{args':Nat→List V}{S R:Type}{r:R}{k:V→A5→Prop}{m:Option (S×List (K×X))}{F:S×List (K×X)→Option R}{g:S→V}{l:List (K×X)}{id:Nat}(hE:E=I5 P nt rd)(hO:C5 Φ H0 L H)(hq:RA kf vf o l)(i:Nat)(hi:L[i]? =some (.blk id (.vm o.1 o.2)))(h:m.bind F=some r)
 (hc:∀x,m=some x→MJ P fid args' kf vf l (g x.1) x.2) (hl:M1 args (args' id))
 (hk:∀x o' H',RA kf vf o' x.2→C5 Φ H0 (L.set i (.blk id (.vm o'.1 o'.2))) H'→F x=some r→k (g x.1) H'):E.call (.func (.func fid) [] []) args H k:=by
 subst hE;obtain⟨x,h1,h2⟩:=bind_some h;refine M8.value (F:=[]) (C:=[]) ?_;simp only[K2,H6]
 exact((hc x h1 H id o hq (hO.get i hi)).args hl).mono fun v H' ⟨e3,o',e2,e4⟩=>by subst e3;subst e4;exact hk x o' _ e2 (hO.set i hi) h2
theorem Ib {f:FuncId}{fn:Func}{c:Code}{n:Nat}{rs:List ResultVar}{T:Ih}{args:Nat→List V}{m':List (K×X)}{x:V}(cf:Cf)(hP:VF P T)(hf:P.funcs[f]? =some fn)(hb:fn.body=some c)(hd:M6 cf c=true)
 (hcall:∀vals w,(callFunc f vals).run P w= .ok (.enter f vals) w) (hnt:fn.ntmps=n) (hrs:fn.results.toList=rs) (hn:∀id,Nat.ble (args id).length n=true)
 (h:∀(E:Fo) (H:A5) (id:Nat) (o:List Value×List V) (k:V→A5→Prop),E=I5 P n none→RA kf vf o m→C5 Eq (upd H id none) [.blk id (.vm o.1 o.2)] H→(∀v o' (L:List En) (i:Nat) H',RA kf vf o' m'→L[i]? =some (.blk id (.vm o'.1 o'.2))→C5 Eq (upd H id none) L H'→Dx v x→k v H')→run E T n cf c ⟨Dh (args id) 0,[]⟩ H (Qx E T rs k)):MJ P f args kf vf m x m':=fun H id o hq hk=>by
 refine M8.le (Y6 (K:=fun v H'=>∃y H2,Dx v y∧Ik H2 H'∧y=x∧∃o',RA kf vf o' m'∧H2=upd H id (some (.vm o'.1 o'.2))) cf hP.1 hP.2 hf hb hd hcall hnt hrs (hn id) fun E hE=>?_);refine h E H id o _ hE hq (C5.startO hk) fun v o' L i H' hq' hi hO hv=>?_;obtain⟨h1,h2⟩:=(hO.only i hi).last
 rw[Dm]at h2
 grind
end
end Go.Ab
namespace Go.Ab
variable [O5][Ar]
section
variable {P:Program}{nt:Nat}{rd:Option Nat}{E:Fo}(hE:E=I5 P nt rd){Φ:A5→A5→Prop}{H0 H:A5}{L:List En}
include hE
theorem RY (hO:C5 Φ H0 L H)(i:Nat){tl:G6}(hi:L[i]? =some (.tl tl))(ha:T3 tl){k:G6→A5→Prop}
 (hk:∀H',C5 Φ H0 (L.set i (.tl .nil)) H'→k tl H'):E.takeT H k:=by
 subst hE;exact⟨tl,hO.appOk i hi ha,hk _ (hO.untok i hi rfl)⟩
theorem Sa (hO:C5 Φ H0 L H)(i:Nat)(hi:L[i]? =some (.tl .nil)){k:G6→A5→Prop}
 (hk:∀tl H',C5 Φ H0 (L.set i (.tl tl)) H'→T3 tl→k tl H'):E.nameT H k:=by
 subst hE;refine⟨fun tl htl=>?_,fun t ht=>hk _ _ (hO.tok i hi ht) trivial⟩
 rcases htl with rfl|rfl
 ·exact hk _ _ (hO.untok i hi rfl) trivial
 exact hk _ _ (hO.untok i hi rfl) trivial
end
end Go.Ab
namespace Go.Ab
open Go.RowKit
variable [O5][Ar]
def AU1 (e e':En):Prop:=∀id b b',e.id=some (id,b)→e'.id=some (id,b')→False
theorem BE.perm {H0 H:A5} {L L':List En} (h:BE H0 L H) (p:L.Perm L'):BE H0 L' H:=by
 have hp:L.Pairwise AU1:=by
  rw[Bj];intro i j hi hj hlt id b b' e1 e2;have:=h.inj i j _ _ id b b' (E0 hi) (E0 hj) e1 e2;omega
 have hp':L'.Pairwise AU1:=(p.pairwise_iff (fun{x y} (h:AU1 x y) id b b' e1 e2=>h id b' b e2 e1)).1 hp
 rw[Bj]at hp'
 refine⟨h.ext,fun i e id b hi he=>?_,fun i j e e' id b b' hi hj he he'=>?_,fun x b hx=>(h.only x b hx).imp (fun h=>h) fun⟨i,e,h1,h2⟩=>?_⟩
 ·obtain⟨j,hj⟩:=List.getElem?_of_mem (p.mem_iff.2 (CJ hi));exact h.has j e id b hj he
 ·grind[AU1]
 obtain⟨j,hj⟩:=List.getElem?_of_mem (p.mem_iff.1 (CJ h1))
 grind
theorem C5.perm {Φ:A5→A5→Prop}{F H:A5}{L L':List En}(h:C5 Φ F L H)(p:L.Perm L'):C5 Φ F L' H:=
 let⟨hs,F',H1,h0,h1,h2⟩:=h;⟨hs,F',H1,h0.perm p,h1,h2⟩
structure Rw (α:Type) where
 q:OG
 row:List (List α×G6)
variable {α:Type}(f:α→V)
def BW (c:List α×G6):V:=.sl (lst f c.1) c.2
def rwB (w:Rw α):En:=.blk w.q.id (.arr 1 (w.q.pre++lst (BW f) w.row++w.q.rest))
def rwL (w:Rw α):List En:=rwB f w::w.row.map fun c=>.tl c.2
def fo:List (Rw α)→List En
 |[]=>[]
 |w::F=>rwL f w++fo F
def RwA (w:Rw α):Prop:=∀c∈w.row,T3 c.2
variable {f}
theorem AG7:∀(F G:List (Rw α)),fo f (F++G)=fo f F++fo f G
 |[],_=>rfl
 |w::F,G=>by rw[X2,fo,fo,AG7 F G,E6]
theorem YT:∀{F:List (Rw α)} {c:Nat} {w:Rw α},F[c]? =some w→∃R,(fo f F).Perm (rwL f w++R)∧∀w',(fo f (F.set c w')).Perm (rwL f w'++R)
 |[],_,_,h=>by simp at h
 |v::F,0,w,h=>by
  simp at h;subst h
  exact⟨fo f F,.refl _,fun w'=>.refl _⟩
 | v::F,c+1,w,h=>by
  obtain⟨R,h1,h2⟩:=YT (F:=F) (c:=c) (w:=w) (by grind)
  have key:∀(X Y:List En),X.Perm (Y++R)→(rwL f v++X).Perm (Y++(rwL f v++R)):=fun X Y hX=>
   (hX.append_left _).trans (by
    rw[←E6,←E6]
    exact List.perm_append_comm.append_right R)
  grind[fo]
theorem Qi:∀{row:List (List α×G6)} {i:Nat} {c:List α×G6},row[i]? =some c→∃R,(row.map fun c=>En.tl c.2).Perm (.tl c.2::R)∧∀c',((row.set i c').map fun c=>En.tl c.2).Perm (.tl c'.2::R)
 |[],_,_,h=>by simp at h
 |v::F,0,w,h=>by
  simp at h;subst h
  exact⟨F.map fun c=>.tl c.2,.refl _,fun w'=>.refl _⟩
 |v::F,i+1,w,h=>by
  obtain⟨R,h1,h2⟩:=Qi (row:=F) (i:=i) (c:=w) (by grind);exact⟨.tl v.2::R,(h1.cons _).trans (.swap ..),fun w'=>((h2 w').cons _).trans (.swap ..)⟩
theorem Ag5 {F:List (Rw α)} {c i:Nat} {w:Rw α} {x:List α×G6} (hc:F[c]? =some w) (hi:w.row[i]? =some x):
 ∃R,(fo f F).Perm (.tl x.2::rwB f w::R)∧∀x',(fo f (F.set c ⟨w.q,w.row.set i x'⟩)).Perm (.tl x'.2::rwB f ⟨w.q,w.row.set i x'⟩::R):=by
 obtain⟨R,h1,h2⟩:=YT (f:=f) hc;obtain⟨S,k1,k2⟩:=Qi hi
 have key:∀(b:En) (X:List En) (t:En),X.Perm (t::S)→(b::(X++R)).Perm (t::b::(S++R)):=fun b X t hX=>
  ((hX.append_right R).cons b).trans (.swap ..)
 exact⟨S++R,h1.trans (key _ _ _ k1),fun x'=>(h2 _).trans (key _ _ _ (k2 x'))⟩
theorem C5.cell {Φ:A5→A5→Prop} {H0 H:A5} {b:En} {L:List En} {F:List (Rw α)} {c i:Nat} {w:Rw α} {x:List α×G6} (hO:C5 Φ H0 (b::(fo f F++L)) H) (hc:F[c]? =some w) (hi:w.row[i]? =some x):
 ∃R,C5 Φ H0 (.tl x.2::rwB f w::b::R) H∧∀x' H',C5 Φ H0 (.tl x'.2::rwB f ⟨w.q,w.row.set i x'⟩::b::R) H'→C5 Φ H0 (b::(fo f (F.set c ⟨w.q,w.row.set i x'⟩)++L)) H':=by
 obtain⟨R,h1,h2⟩:=Ag5 (f:=f) hc hi
 have key:∀(X:List En) (t r:En),X.Perm (t::r::R)→(b::(X++L)).Perm (t::r::b::(R++L)):=fun X t r h=>
  ((h.append_right L).cons b).trans ((List.Perm.swap t b _).trans ((List.Perm.swap r b _).cons t))
 exact⟨R++L,hO.perm (key _ _ _ h1),fun x' H' h=>h.perm (key _ _ _ (h2 x')).symm⟩
theorem C5.row {Φ:A5→A5→Prop} {H0 H:A5} {b b':En} {L:List En} {F:List (Rw α)} {w:Rw α} (hO:C5 Φ H0 (rwB f w::b::b'::(fo f F++L)) H) (hw:∀c∈w.row,(En.tl c.2).id=none):C5 Φ H0 (b'::(fo f (F++[w])++(b::L))) H:=by
 have h1:∀(row:List (List α×G6)) (M:List En),(∀c∈row,(En.tl c.2).id=none)→C5 Φ H0 M H→C5 Φ H0 ((row.map fun c=>.tl c.2)++M) H:=by
  intro row
  induction row with
  |nil=>simp_all
  |cons c row ih=>grind[tl0]
 have h2:=h1 w.row _ hw hO;refine h2.perm ?_;rw[AG7];simp only[fo,rwL,H6];generalize w.row.map (fun c=>En.tl c.2)=X;generalize fo f F=Y;have p1:(X++rwB f w::b::b'::(Y++L)).Perm (rwB f w::X++(b::b'::(Y++L))):=Iu
 have p2:(rwB f w::X++(b::b'::(Y++L))).Perm (b'::(rwB f w::X++(b::(Y++L)))):=
  ((List.Perm.swap b' b (Y++L)).append_left (rwB f w::X)).trans Iu
 refine p1.trans (p2.trans (.cons b' ?_));have p3:(rwB f w::X++(b::(Y++L))).Perm (rwB f w::X++(Y++b::L)):=(List.perm_middle.symm).append_left _;refine p3.trans ?_;rw[←E6];exact(List.perm_append_comm (l₁:=rwB f w::X) (l₂:=Y)).append_right _
end Go.Ab
namespace Go.Ab
open Go.RowKit
variable [O5]
def Gst (H:A5)(v:V)(H':A5)(v':V):Prop:=∀g w,Rl g H w→∃g',Y7 g w g' w∧Rl g' H' w∧∀u,VR g w u v→VR g' w u v'
theorem Gst.refl (H:A5)(v:V):Gst H v H v:=fun g w h=>⟨g,Y7.refl _ _,h,fun _ h=>h⟩
theorem Gst.trans {H H1 H2:A5}{v v1 v2:V}(a:Gst H v H1 v1)(b:Gst H1 v1 H2 v2):Gst H v H2 v2:=fun g w h=>by
 obtain⟨g1,s1,R1,k1⟩:=a g w h;obtain⟨g2,s2,R2,k2⟩:=b g1 w R1;exact⟨g2,s1.trans s2,R2,fun u hu=>k2 u (k1 u hu)⟩
theorem Gst.tup2 {H H':A5} {v v' c:V} (a:Gst H v H' v'):Gst H (.tup [v,c]) H' (.tup [v',c]):=fun g w h=>by
 obtain⟨g1,s1,R1,k1⟩:=a g w h;refine⟨g1,s1,R1,fun u hu=>?_⟩
 cases hu with
 |tup hl hv=>
  refine .tup hl fun i hi=>?_;have:=hv i hi
  match i,hi with
  |0,_=>grind
  |1,_=>exact this.mono s1
section
variable [Ar]{α:Type}{f:α→V}
end
end Go.Ab
namespace Go.Ab
open Go.RowKit
variable [O5][Ar]
section
variable {P:Program}{nt:Nat}{rd:Option Nat}{E:Fo}(hE:E=I5 P nt rd)
include hE
variable {α:Type}{f:α→V}{Φ:A5→A5→Prop}{H0 H:A5}{L:List En}{sz:Nat}{q:OG}{l:List α}
theorem WG (hO:C5 Φ H0 L H)(hq:BD q (Ar.len l))(i:Nat){j:Int}{k:Int→Prop}(hi:L[i]? =some (.blk q.id (.arr sz (q.pre++lst f l++q.rest))))(hj:0≤j∧j<(l.length:Nat))(hk:k (ofs q.lo j)):E.oidx H q.id sz q.lo q.n j k:=
 Dd hE hO hq i hi (F:=fun _=>some ()) (r:=()) (by grind[KX,RF]) fun _=>hk
theorem An2 {g:α→V} (hf:∀x,f x=g x) (hO:C5 Φ H0 L H) (hq:BD q (Ar.len l)) (i:Nat) {j:Int} {x:α} {k:V→Prop} (hi:L[i]? =some (.blk q.id (.arr sz (q.pre++lst f l++q.rest)))) (hj:0≤j) (hx:l[j.toNat]? =some x) (hk:k (g x)):
 E.oload H q.id (ofs q.lo j) k:=by
 have hlt:j<(l.length:Nat):=by
  grind
 exact EM hE hf hO hq i hi (F:=fun y=>some y) (r:=x) (by simp_all[C3]) fun y hy=>by simp_all
theorem YV {esz tz off:Nat}{y:V}{x':α}(hu:∀x,∃y',Dx y y'∧y'.one=true∧y'.cells.length=tz∧Wi (f x) esz tz off y'=f x')(hle:off+tz≤esz)(hO:C5 Φ H0 L H)(hq:BD q (Ar.len l))(i:Nat){j:Int}{k:A5→Prop}
 (hi:L[i]? =some (.blk q.id (.arr esz (q.pre++lst f l++q.rest)))) (hj:0≤j∧j<(l.length:Nat))
 (hk:∀H',C5 Φ H0 (L.set i (.blk q.id (.arr esz (q.pre++lst f (l.set j.toNat x')++q.rest)))) H'→k H'):E.ostore H q.id (ofs q.lo j) esz tz off y k:=by
 obtain⟨x,hx⟩:∃x,l[j.toNat]? =some x:=⟨l[j.toNat],E0 (by omega)⟩
 exact HN hE (u:=fun _=>x') hu hle hO hq i hi (F:=fun l=>some l) (r:=l.set j.toNat x') (by simp_all[HE,C3]) fun l' H' hq' e hO'=>by simp_all
theorem AH1 {g:α→V}(hf:∀x,f x=g x){j:Int}{x:α}{k:V→Prop}(hx:C3 l j=some x)(hk:k (g x)):E.idx (lst f l) j k:=
 D9 hE hf (F:=fun y=>some y) (r:=x) (by rw[hx];rfl) fun y hy=>by simp_all
end
theorem AE3 {α:Type}{n m:Int}{z:α}{l:List α}(h:mkL n m z=some l):l=List.replicate n.toNat z:=by
 simp_all[mkL]
theorem AQ9 {α:Type}{l:List α}{i:Int}{x:α}(h:C3 l i=some x):(0≤i∧i<(l.length:Nat))∧l[i.toNat]? =some x:=by
 grind[C3]
def JK {α:Type}(w:Rw α):List En:=w.row.map fun c=>.tl c.2
structure DD {α:Type} (w:Rw α) (l:List (List α)):Prop where
 ok:BD w.q (Ar.len w.row)
 ap:RwA w
 eq:w.row.map (·.1)=l
section
variable {α:Type}{f:α→V}{w:Rw α}{l:List (List α)}
theorem DD.len (h:DD w l):Ar.len l=Ar.len w.row:=by rw[len_eq,len_eq,←h.eq,List.length_map]
theorem DD.at (h:DD w l) {i:Int} {x:List α} (hx:C3 l i=some x):(0≤i∧i<(w.row.length:Nat))∧∃t,w.row[i.toNat]? =some (x,t)∧T3 t:=by
 obtain⟨h1,h2⟩:=AQ9 hx
 rw[←h.eq]at h1 h2
 rw[D6]at h1
 rw[R6]at h2
 cases hr:w.row[i.toNat]? with
 |none=>rw[hr]at h2;cases h2
 |some c=>
  rw[hr]at h2
  simp only[I6,F3]at h2
  refine⟨h1,c.2,by rw[←h2],h.ap c (CJ hr)⟩
theorem DD.put (h:DD w l) (i:Nat) {y:List α} {t:G6} (ht:T3 t):DD ⟨w.q,w.row.set i (y,t)⟩ (l.set i y):=by
 refine⟨?_,fun c hc=>?_,?_⟩
 ·have:=h.ok
  rw[len_eq]at this ⊢
  rw[List.length_set];exact this
 ·rcases List.mem_or_eq_of_mem_set hc with hc|rfl
  ·exact h.ap c hc
  exact ht
 rw[List.map_set,h.eq]
theorem Ab6 {i:Nat}{c:List α×G6}(hi:w.row[i]? =some c):∃R,(JK w).Perm (.tl c.2::R)∧∀c',(JK ⟨w.q,w.row.set i c'⟩).Perm (.tl c'.2::R):=Qi hi
theorem C5.rtake {Φ:A5→A5→Prop} {H0 H:A5} {L T1 T2:List En} (hO:C5 Φ H0 L H) (n:Nat) (hL:L=L.take n++(T1++(JK w++T2))) {i:Nat} {c:List α×G6} (hi:w.row[i]? =some c):
 ∃R,C5 Φ H0 (.tl c.2::(L.take n++R)) H∧∀c' H' (L2:List En),C5 Φ H0 (.tl c'.2::(L2++R)) H'→C5 Φ H0 (L2++(T1++(JK ⟨w.q,w.row.set i c'⟩++T2))) H':=by
 obtain⟨R,h1,h2⟩:=Ab6 hi
 have key:∀(L2 X:List En) (t:En),X.Perm (t::R)→(L2++(T1++(X++T2))).Perm (t::(L2++(T1++(R++T2)))):=fun L2 X t h=>
  ((((h.append_right T2).append_left T1).append_left L2).trans ((Iu (l₁:=T1)).append_left L2)).trans Iu
 refine⟨T1++(R++T2),?_,fun c' H' L2 h=>h.perm (key _ _ _ (h2 c')).symm⟩
 rw[hL]at hO
 exact hO.perm (key _ _ _ h1)
theorem C5.radd {Φ:A5→A5→Prop} {H0 H:A5} {L:List En} (hO:C5 Φ H0 L H) (n:Nat) (w:Rw α) (hw:∀c∈w.row,(En.tl c.2).id=none):C5 Φ H0 (L.take n++(JK w++L.drop n)) H:=by
 have h1:∀(row:List (List α×G6)) (M:List En),(∀c∈row,(En.tl c.2).id=none)→C5 Φ H0 M H→C5 Φ H0 ((row.map fun c=>.tl c.2)++M) H:=by
  intro row
  induction row with
  |nil=>simp
  |cons c row ih=>exact fun M hr h=>(ih M (fun c hc=>hr c (by simp[hc])) h).tl0 (hr c (by simp))
 refine(h1 w.row L hw hO).perm ?_
 show(JK w++L).Perm _
 have e:JK w++L=JK w++(L.take n++L.drop n):=by rw[DV]
 rw[e,←E6,←E6];exact List.perm_append_comm.append_right _
theorem C5.drops {Φ:A5→A5→Prop}{H0 H:A5}:∀{X L:List En},C5 Φ H0 (X++L) H→C5 Φ H0 L H
 |[],_,h=>h
 |_::X,_,h=>C5.drops (X:=X) h.tail
theorem C5.rdrop {Φ:A5→A5→Prop}{H0 H:A5}{L T1 T2:List En}(hO:C5 Φ H0 L H)(n:Nat)(hL:L=L.take n++(T1++(JK w++T2))):C5 Φ H0 (L.take n++(T1++T2)) H:=by
 rw[hL]at hO
 refine(hO.perm (L':=JK w++(L.take n++(T1++T2))) ?_).drops;refine(((QV T1 (JK w) T2).append_left _)).trans ?_;exact QV _ _ _
theorem Xq {α:Type}{l r:List α}{i:Int}{y:α}(h:HE l i (fun _=>y)=some r):r=l.set i.toNat y:=by
 simp_all[HE]
theorem AM6 {e:List α→V} (he:∀x,e x= .sl (lst f x) .ro) (h:DD w l):M1 (lst (BW f) w.row) (lst e l):=by
 rw[lst_eq,lst_eq,←h.eq]
 have:∀row:List (List α×G6),M1 (row.map (BW f)) ((row.map (·.1)).map e):=by
  intro row
  induction row with
  |nil=>exact .nil
  |cons c row ih=>exact .cons (by rw[he];exact .ro _ _) ih
 exact this _
end
section
variable {P:Program}{nt:Nat}{rd:Option Nat}{T:Ih}{E:Fo}
variable (hE:E=I5 P nt rd)
include hE
variable {α R:Type}{f:α→V}{Φ:A5→A5→Prop}{H0 H:A5}{L:List En}{w:Rw α}{l:List (List α)}{r:R}
theorem AV8 {by_:Nat} (hby:by_≤131072) (hO:C5 Φ H0 L H) (c:Nat) {n m:Int} {k:V→A5→Prop} {F:List (List α)→Option R} (h:(mkL n m ([]:List α)).bind F=some r)
 (hk:∀l (w:Rw α) H',DD w l→F l=some r→C5 Φ H0 (.blk w.q.id (.arr 1 (w.q.pre++lst (BW f) w.row++w.q.rest))::(L.take c++(JK w++L.drop c))) H'→k (.own w.q.id w.q.lo w.q.n) H'):E.omk 1 by_ (.sl [] .nil) n m H k:=by
 obtain⟨l,h1,h2⟩:=bind_some h;have hl:=AE3 h1
 have h3:mkL n m (([]:List α),G6.nil)=some (List.replicate n.toNat (([]:List α),G6.nil)):=by
  simp_all[mkL]
 refine Ak4 hE (f:=BW f) hby (z0:=(([]:List α),G6.nil)) (.slt _ .lst0) hO (F:=fun l=>some l) (r:=List.replicate n.toNat (([]:List α),G6.nil)) (by rw[h3];rfl) fun row q H' hq hr hO'=>?_;cases hr;refine hk l ⟨q,List.replicate n.toNat (([]:List α),G6.nil)⟩ H' ⟨hq,fun c hc=>by rw[QR hc];trivial,by rw[hl];simp⟩ h2 ?_
 exact hO'.radd (c+1) ⟨q,List.replicate n.toNat (([]:List α),G6.nil)⟩ fun c hc=>by rw[QR hc];rfl
theorem Yt {e:List α→V}(he:∀x,e x= .sl (lst f x) .ro)(hO:C5 Φ H0 L H)(hw:DD w l)(i m:Nat){id j:Nat}{cs:List V}{k:A5→Prop}(hi:L[i]? =some (.blk id (.cells cs)))(hm:L[m]? =some (.blk w.q.id (.arr 1 (w.q.pre++lst (BW f) w.row++w.q.rest))))(hj:cs[j]? =some (.own w.q.id w.q.lo w.q.n))(him:i≠m)
 (hk:∀H',C5 Φ H0 ((L.set i (.blk id (.cells (cs.set j (.sl (lst e l) .ro))))).eraseIdx m) H'→k H'):E.frzIn H id j k:=by
 subst hE;have h1:=hO.get i hi;have h2:=hO.get m hm
 have hne:w.q.id≠id:=fun e=>by rw[e,h1]at h2;cases h2
 refine⟨cs,w.q.id,w.q.lo,w.q.n,1,_,lst e l,h1,hj,h2,?_,?_⟩
 ·rw[RQ hw.ok.1 (by rw[hw.ok.2,len_eq,M9])];exact AM6 he hw
 have h3:=(hO.set i (b':=.cells (cs.set j (.sl (lst e l) .ro))) hi).del m (id:=w.q.id) (b:=.arr 1 (w.q.pre++lst (BW f) w.row++w.q.rest)) (by rw[Ad,A0 him];exact hm);rw[Sq _ _ _ hne];exact hk _ h3
end
section
variable {P:Program}{nt:Nat}{rd:Option Nat}{E:Fo}(hE:E=I5 P nt rd)
include hE
variable {α R:Type}{f:α→V}{Φ:A5→A5→Prop}{H0 H:A5}{L:List En}{sz:Nat}{q:OG}{l:List α}{r:R}
theorem At3 (hO:C5 Φ H0 L H) (hq:BD q (Ar.len l)) (i:Nat) (hi:L[i]? =some (.blk q.id (.arr sz (q.pre++lst f l++q.rest)))) {lo:Option Int} {k:V→Prop} {F:List α→Option R}
 (h:(Q0 l lo none none).bind F=some r) (hk:∀x (q':OG),q'.id=q.id∧q'.lo=q.lo+lo.getD 0∧q'.n=q.n-lo.getD 0→F x=some r→k (.own q'.id q'.lo q'.n)):
 E.oslice sz H q.id q.lo q.n lo none none k:=by
 have hE':=hE;subst hE;obtain⟨x,h1,h2⟩:=bind_some h
 have hn:q.n=(l.length:Nat):=by rw[hq.2,len_eq]
 have el:=M9 (f:=f) l
 unfold Q0 at h1
 split at h1
 ·rename_i hc;cases h1;obtain⟨c1,c2,c3,c4,c5⟩:=hc
  simp only[Gn]at c2 c3 c4
  refine⟨_,hO.get i hi,?_,?_⟩
  ·rw[hn,hq.1]
   grind
  exact hk _ ⟨q.id,q.lo+lo.getD 0,q.n-lo.getD 0,[],[]⟩ ⟨rfl,rfl,rfl⟩ h2
 cases h1
theorem Yu (hO:C5 Φ H0 L H) (hq:BD q (Ar.len l)) (i:Nat) (hi:L[i]? =some (.blk q.id (.arr sz (q.pre++lst f l++q.rest)))) {q':OG} {a:Int} (hd:q'.id=q.id∧q'.lo=q.lo+a∧q'.n=q.n-a) {y:V} {m:List α} {k:V→A5→Prop} {F:List α×Int→Option R}
 (hs:Uf sz H y (lst f m)) (h:(Zs l a m).bind F=some r) (hk:∀p H',BD q (Ar.len p.1)→C5 Φ H0 (L.set i (.blk q.id (.arr sz (q.pre++lst f p.1++q.rest)))) H'→F p=some r→k (.int .i64 p.2) H'):E.ocopy sz H (.own q'.id q'.lo q'.n) y k:=by
 have hn:q.n=(l.length:Nat):=by rw[hq.2,len_eq]
 have el:=M9 (f:=f) l;have em:=M9 (f:=f) m;obtain⟨p,h1,h2⟩:=bind_some h
 unfold Zs at h1
 split at h1
 ·rename_i hc;cases h1;rw[hd.1,hd.2.1,hd.2.2];refine AN3 hE (hO.get i hi) hs (YL:=(m.length:Nat)) (by rw[em]) fun n row' hm hrow=>?_
  have e1:n=(if(l.length:Int)-a<(m.length:Nat)then(l.length:Int)-a else(m.length:Nat)):=by rw[hm,hn]
  have ea:(q.lo+a).toNat=q.pre.length+a.toNat:=by rw[hq.1];omega
  have en:(q.n-a).toNat=l.length-a.toNat:=by rw[hn];omega
  have e2:row'=q.pre++lst f (l.take a.toNat++m.take (l.length-a.toNat)++l.drop (a.toNat+m.length))++q.rest:=by
   rw[hrow,ea,en,lst_eq,lst_eq,lst_eq];rw[AO0 (A:=q.pre++(l.take a.toNat).map f) (B:=((l.drop a.toNat).take m.length).map f) (C:=(l.drop (a.toNat+m.length)).map f++q.rest) ?_ ?_ ?_]
   ·simp_all
   ·have:l=l.take a.toNat++((l.drop a.toNat).take m.length++l.drop (a.toNat+m.length)):=by
     rw[←It,DV,DV]
    grind
   ·simp;omega
   grind
  rw[e1,e2];refine hk _ _ ⟨hq.1,?_⟩ (hO.set i hi) h2;rw[hn,len_eq]
  grind
 cases h1
theorem AO8 (hO:C5 Φ H0 L H)(hq:BD q (Ar.len l))(i:Nat)(hi:L[i]? =some (.blk q.id (.arr sz (q.pre++lst f l++q.rest)))){y:V}{m:List α}{k:V→A5→Prop}{F:List α×Int→Option R}
 (hs:Uf sz H y (lst f m)) (h:(Zs l 0 m).bind F=some r) (hk:∀p H',BD q (Ar.len p.1)→C5 Φ H0 (L.set i (.blk q.id (.arr sz (q.pre++lst f p.1++q.rest)))) H'→F p=some r→k (.int .i64 p.2) H'):E.ocopy sz H (.own q.id q.lo q.n) y k:=
 Yu hE hO hq i hi (a:=0) ⟨rfl,by omega,by omega⟩ hs h hk
end
end Go.Ab
