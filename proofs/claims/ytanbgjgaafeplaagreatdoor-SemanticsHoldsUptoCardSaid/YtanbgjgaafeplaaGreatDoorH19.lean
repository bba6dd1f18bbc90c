/- GTW9 GTX0 GTX1 GTX2 GTX3 GTX4 -/
import Derived.Test.YtanbgjgaafeplaaGreatDoorH18
set_option linter.all false
open List (any_cons)
open Go.Ab.Ar (an ar beq cmp nt sh wr)
namespace Go.Ab
open Classical
noncomputable section
def TC (out:List (List PR))(s:List PR):List (List PR):=if s∈out then out else out++[s]
def Nd (P:List PR→Prop)(out:List (List PR)):Prop:=out.Nodup∧∀s∈out,P s
theorem Nd.nil (P:List PR→Prop):Nd P []:=⟨List.nodup_nil,fun _ h=>absurd h List.not_mem_nil⟩
theorem Nd.add {P:List PR→Prop}{out:List (List PR)}{s:List PR}(h:Nd P out)(hs:P s):Nd P (TC out s):=by
 unfold TC
 split
 ·exact h
 rename_i hin;refine⟨List.nodup_append.2 ⟨h.1,by simp,fun a ha b hb e=>hin (by rw[←List.mem_singleton.1 hb,←e];exact ha)⟩,fun x hx=>?_⟩
 rcases List.mem_append.1 hx with hx|hx
 ·exact h.2 x hx
 rw[List.mem_singleton.1 hx];exact hs
theorem ZH {out:List (List PR)}{s t:List PR}:t∈TC out s↔t∈out∨t=s:=by
 unfold TC
 split
 ·rename_i h;exact⟨.inl,fun e=>e.elim id fun e=>e▸h⟩
 rw[List.mem_append,List.mem_singleton]
def addL (out L:List (List PR)):List (List PR):=L.foldl TC out
theorem MC {s:List PR}:∀{L out:List (List PR)},s∈addL out L↔s∈out∨s∈L
 |[],out=>by simp[addL]
 |t::L,out=>by
  show s∈addL (TC out t) L↔_
  rw[MC,ZH,List.mem_cons,or_assoc]
theorem Nd.addL {P:List PR→Prop}:∀{L out:List (List PR)},Nd P out→(∀s∈L,P s)→Nd P (addL out L)
 |[],_,h,_=>h
 |t::L,out,h,hp=>Nd.addL (L:=L) (h.add (hp t (by simp))) fun s hs=>hp s (by simp[hs])
theorem YE (out A B:List (List PR)):addL out (A++B)=addL (addL out A) B:=List.foldl_append
theorem Er {α:Type}{L:List α}{N:Nat}{step:(List (List PR))×Int→Option (((List (List PR))×Int) ⊕ List (List PR))}(P:List PR→Prop)(F:α→List (List PR)){Ms:List (List PR)}(hN:L.length<N)(hl:L.length<1000000000)(h0:Nd P Ms)(hP:∀x∈L,∀s∈F x,P s)
 (hs:∀out (i:Nat) x,L[i]? =some x→(i:Int)<L.length→x∈L→ar .add .i64 (i:Int) 1=i+1→Nd P out→step (out,(i:Int))=some (.inl (addL out (F x),(i:Int)+1))) (he:∀out,step (out,(L.length:Int))=some (.inr out)):loopN step N (Ms,0)=some (addL Ms (L.flatMap F)):=by
 have h:=(FD (L:=L) (N:=N) (step:=step) (fun o i=>(o,i)) (fun o x=>addL o (F x)) (fun o=>o) (fun _=>Nd P) hN hl h0 (fun o i x a b c d e=>⟨hs o i x a b c d e,e.addL (hP x c)⟩) he).1;rw[h]
 congr 1
 clear h hP hs he h0 hN hl
 induction L generalizing Ms with
 |nil=>rfl
 |cons a L ih=>rw[List.foldl_cons,ih,List.flatMap_cons,YE]
theorem KE {l:List A8}{p:A1}(hw:GG p)(hs:Ji l.length p){b:List PR}{f:Int}(ho:Iv l b f){out:List (List PR)}(h:Nd (Sm l p b f) out):out.length≤1500:=card hw hs h.1 fun s m=>⟨((h.2 s m).res hw ho).gd,b,f,h.2 s m⟩
def Dr (r:Option (List (List PR)))(l:List A8)(p:A1)(b:List PR)(f:Int):Prop:=∃L,r=some L∧L.Nodup∧∀s,s∈L↔Sm l p b f s
theorem Dr.of {l:List A8}{p:A1}{b:List PR}{f:Int}{L:List (List PR)}(h:∀s,s∈L↔Sm l p b f s):Dr ((some (addL [] L)).bind fun s=>some s) l p b f:=
 ⟨_,rfl,((Nd.nil fun _=>True).addL fun _ _=>trivial).1,fun s=>by rw[MC];simpa using h s⟩
theorem Dr.mk {x:Option (List (List PR))}{l:List A8}{p:A1}{b:List PR}{f:Int}(h:∃L,x=some L∧L.Nodup∧∀s,s∈L↔Sm l p b f s):Dr (x.bind fun s=>some s) l p b f:=by
 obtain⟨L,rfl,h⟩:=h;exact⟨L,rfl,h⟩
section
variable {N:Nat}(hN:40000000≤N){l:List A8}(hl:l.length≤10)
include hN hl
theorem Lv {p:A1}(hw:GG p)(hs:Ji l.length p){b:List PR}{f:Int}(ho:Iv l b f){out:List (List PR)}(h:Nd (Sm l p b f) out)(s:List PR):S7 N out s=some (TC out s):=by
 have hc:=KE hw hs ho h
 exact Xb hN (by omega) fun x hx=>by have:=((h.2 x hx).res hw ho).gd.len;omega
theorem TO {o u:List PR}{f:Int}(ho:Iv l o f)(r:Kd l f u):G5 N o u=some (mrg o u):=by
 have h1:=ho.gd.len;have h2:=r.gd.len;exact EM hN (by omega)
theorem TN {u t:List PR}{f g:Int}(r:Kd l f u)(q:Kd l g t):G5 N u t=some (mrg u t):=by
 have h1:=r.gd.len;have h2:=q.gd.len;exact EM hN (by omega)
theorem NR {u:List PR}{f:Int}(r:Kd l f u):∃x,B6 u (ar .sub .i64 (Ar.len u) 1)=some x∧ar .add .i64 x.At 1=Z0 u+1:=by
 have h1:=r.gd.len;have h4:=r.gd.lst r.ne;obtain⟨x,h2,_,h3⟩:=DY r.ne;exact⟨x,by rw[Hu r.ne (by omega),h2],by rw[h3]at h4 ⊢;exact C4 (by omega) (by omega)⟩
def IHr (N:Nat)(l:List A8)(k:Nat):Prop:=∀(p:A1) (b:List PR) (f n:Nat),mu l p f≤k→8*k+8≤n→p.pre.length≤64→GG p→Ji l.length p→Iv l b f→
 Dr (K4 N n p l b f) l p b f∧(p.Op=1→Dr (Y7 N n p.cP l b f) l p b f)∧(p.Op=4→Dr (V7 N n p l b f) l p b f)
omit hN hl in
theorem MM {k:Nat}(ih:IHr N l k){p q:A1}(hw:GG p)(hp:p.pre.length≤64)(hs:Ji l.length p)(hq:q∈p.cP){b:List PR}{f:Nat}(ho:Iv l b f){n:Nat}(hmu:mu l p f≤k+1)(hn:8*k+8≤n):∃L,K4 N n q l b f=some L∧L.Nodup∧(∀s,s∈L↔Sm l q b f s)∧L.length≤1500∧∀s∈L,Kd l f s:=by
 have m:=O9 hq;have m1:=DK (l:=l) (f:=f) (g:=f) m;obtain⟨L,h1,h2,h3⟩:=(ih q b f n (by omega) hn (by omega) (hw.arg hq) (hs.arg hq) ho).1;exact⟨L,h1,h2,h3,KE (hw.arg hq) (hs.arg hq) ho ⟨h2,fun s hs=>(h3 s).1 hs⟩,fun s h=>((h3 s).1 h).res (hw.arg hq) ho⟩
theorem QF {p:A1} (hw:GG p) (hs:Ji l.length p) {b u:List PR} {f:Int} (ho:Iv l b f) (ru:Kd l f u) {T out:List (List PR)} (hT:T.length≤1500) (hr:∀t∈T,Kd l (Z0 u+1) t) (hP:∀t∈T,Sm l p b f (mrg u t)) (hg:Nd (Sm l p b f) out) {step:(List (List PR))×Int→Option (((List (List PR))×Int) ⊕ List (List PR))}
 (hst:∀o i,step (o,i)=if cmp .lss i (Ar.len T)=true then(B6 T i).bind fun x=>(G5 N u x).bind fun r=>(S7 N o r).bind fun l=>some (.inl (l,ar .add .i64 i 1))else some (.inr o)):loopN step N (out,0)=some (addL out (T.map (mrg u))):=by
 rw[Er (L:=T) (N:=N) (step:=step) (Sm l p b f) (fun t=>[mrg u t]) (by omega) (by omega) hg (fun t ht s hs=>by rw[List.mem_singleton.1 hs];exact hP t ht) (fun o i t ht hi hm e hg=>by
  rw[hst,if_pos (show cmp .lss (i:Int) (Ar.len T)=true from U2 hi),C5,ht];simp only[Option.bind_some];rw[TN hN hl ru (hr t hm)];simp only[Option.bind_some]
  rw[Lv hN hl hw hs ho hg,e];rfl) (fun o=>by rw[hst,if_neg (show¬cmp .lss (T.length:Int) (Ar.len T)=true from P1 (Int.lt_irrefl _))]),←List.map_eq_flatMap]
theorem TZ {k:Nat} (ih:IHr N l k) {p:A1} (hw:GG p) (hp:p.pre.length≤64) (hs:Ji l.length p) (h0:p.Op=1) {b:List PR} {f:Nat} (ho:Iv l b f) {n:Nat} (hmu:mu l p f≤k+1) (hn:8*k+9≤n):Dr (Y7 N n p.cP l b f) l p b f:=by
 obtain⟨n,rfl⟩:∃m,n=m+1:=⟨n - 1,by omega⟩;unfold Y7
 match ha:p.cP with
 |[]=>exact absurd ha (hw.self.a1 (by omega) (by omega))
 | q::r=>
  obtain⟨L,h1,h2,h3,hc,hr⟩:=MM ih hw hp hs (q:=q) (by rw[ha];simp) ho hmu (n:=n) (by omega);rw[Hv];simp only[Option.bind_some];rw[h1];simp only[Option.bind_some]
  cases r with
  |nil=>
   rw[if_pos (show cmp .eql (Ar.len [q]) 1=true from rfl)];exact⟨L,rfl,h2,fun s=>(h3 s).trans (Sm.i1 h0 ha).symm⟩
  | cons q' r=>
   have hwr:GG {p with cP:=q'::r}:=hw.sub (by omega) (by omega) (fun x hx=>by rw[ha];exact List.mem_cons_of_mem _ hx) (by simp)
   let T:List PR→List (List PR):=fun u=>(Y7 N n (q'::r) l (mrg b u) (Z0 u+1)).getD []
   have hT:∀u∈L,Y7 N n (q'::r) l (mrg b u) (Z0 u+1)=some (T u)∧(T u).length≤1500∧(∀t,t∈T u↔Sm l {p with cP:=q'::r} (mrg b u) (Z0 u+1) t)∧∀t∈T u,Kd l (Z0 u+1) t:=fun u hu=>by
    obtain⟨g,hg,hgl,hfg⟩:=LI (hr u hu) ho.f0
    have ho':Iv l (mrg b u) (g:Int):=by rw[←hg];exact ho.next (hr u hu)
    have m:=JA ha;have m2:=DK (l:=l) (f:=f) (g:=g) m;obtain⟨S,t1,t2,t3⟩:=(ih {p with cP:=q'::r} (mrg b u) g n (by omega) (by omega) (by omega) hwr (hs.tail ha) ho').2.1 h0
    have e:T u=S:=by show(Y7 N n (q'::r) l (mrg b u) (Z0 u+1)).getD []=S;rw[hg,t1];rfl
    rw[e,hg];exact⟨t1,KE hwr (hs.tail ha) ho' ⟨t2,fun s hs=>(t3 s).1 hs⟩,t3,fun t ht=>((t3 t).1 ht).res hwr ho'⟩
   have hP:∀u∈L,∀t∈T u,Sm l p b f (mrg u t):=fun u hu t ht=>Sm.seq h0 ha ((h3 u).1 hu) (((hT u hu).2.2.1 t).1 ht)
   rw[if_neg (by rw[B8,A9];simp;omega),Cx,Er (L:=L) (N:=N) (Sm l p b f) (fun u=>(T u).map (mrg u)) (by omega) (by omega) (Nd.nil _) (fun u hu s hs=>by
    obtain⟨t,ht,rfl⟩:=List.mem_map.1 hs
    exact hP u hu t ht) (fun out i u hu hi hm e hg=>by
    obtain⟨t1,t2,t3,t4⟩:=hT u hm;obtain⟨x,hx1,hx2⟩:=NR hN hl (hr u hm)
    dsimp only
    rw[if_pos (P9 hi),C5,hu];simp only[Option.bind_some];rw[TO hN hl ho (hr u hm),hx1];simp only[Option.bind_some];rw[hx2,t1];simp only[Option.bind_some,e]
    rw[QF hN hl hw hs ho (hr u hm) t2 t4 (hP u hm) hg fun _ _=>rfl];rfl) (fun out=>by dsimp only;rw[if_neg S9])]
   refine Dr.of fun s=>?_;simp only[List.mem_flatMap,List.mem_map];rw[Sm.i1c h0 ha]
   constructor
   ·rintro⟨u,hu,t,ht,rfl⟩;exact⟨u,t,(h3 u).1 hu,((hT u hu).2.2.1 t).1 ht,rfl⟩
   rintro⟨u,t,hu,ht,rfl⟩;exact⟨u,(h3 u).2 hu,t,((hT u ((h3 u).2 hu)).2.2.1 t).2 ht,rfl⟩
theorem QG {k:Nat} (ih:IHr N l k) {p:A1} (hw:GG p) (hp:p.pre.length≤64) (hs:Ji l.length p) (h0:p.Op=4) {b:List PR} {f:Nat} (ho:Iv l b f) {n:Nat} (hmu:mu l p f≤k+1) (hn:8*k+9≤n):Dr (V7 N n p l b f) l p b f:=by
 obtain⟨n,rfl⟩:∃m,n=m+1:=⟨n - 1,by omega⟩;unfold V7;obtain⟨q,ha⟩:=hw.self.a2 (by omega);obtain⟨L,h1,h2,h3,hc,hr⟩:=MM ih hw hp hs (q:=q) (by rw[ha];simp) ho hmu (n:=n) (by omega)
 have hi0:B6 p.cP 0=some q:=by rw[ha];rfl
 rw[hi0];simp only[Option.bind_some];rw[h1];simp only[Option.bind_some]
 let T:List PR→List (List PR):=fun u=>(V7 N n p l (mrg b u) (Z0 u+1)).getD []
 have hT:∀u∈L,V7 N n p l (mrg b u) (Z0 u+1)=some (T u)∧(T u).length≤1500∧(∀t,t∈T u↔Sm l p (mrg b u) (Z0 u+1) t)∧∀t∈T u,Kd l (Z0 u+1) t:=fun u hu=>by
  obtain⟨g,hg,hgl,hfg⟩:=LI (hr u hu) ho.f0
  have ho':Iv l (mrg b u) (g:Int):=by rw[←hg];exact ho.next (hr u hu)
  have m2:=Uj (p:=p) (show f<g by omega) hgl;obtain⟨S,t1,t2,t3⟩:=(ih p (mrg b u) g n (by omega) (by omega) hp hw hs ho').2.2 h0
  have e:T u=S:=by show(V7 N n p l (mrg b u) (Z0 u+1)).getD []=S;rw[hg,t1];rfl
  rw[e,hg];exact⟨t1,KE hw hs ho' ⟨t2,fun s hs=>(t3 s).1 hs⟩,t3,fun t ht=>((t3 t).1 ht).res hw ho'⟩
 have hP1:∀u∈L,Sm l p b f u:=fun u hu=>.plus1 h0 ha ((h3 u).1 hu);have hP:∀u∈L,∀t∈T u,Sm l p b f (mrg u t):=fun u hu t ht=>Sm.plus h0 ha ((h3 u).1 hu) (((hT u hu).2.2.1 t).1 ht)
 rw[Er (L:=L) (N:=N) (Sm l p b f) (fun u=>u::(T u).map (mrg u)) (by omega) (by omega) (Nd.nil _) (fun u hu s hs=>by
  rcases List.mem_cons.1 hs with rfl|hs
  ·exact hP1 _ hu
  ·obtain⟨t,ht,rfl⟩:=List.mem_map.1 hs
   exact hP u hu t ht) (fun out i u hu hi hm e hg=>by
  obtain⟨t1,t2,t3,t4⟩:=hT u hm;obtain⟨x,hx1,hx2⟩:=NR hN hl (hr u hm)
  dsimp only
  rw[if_pos (P9 hi),C5,hu];simp only[Option.bind_some];rw[Lv hN hl hw hs ho hg,TO hN hl ho (hr u hm),hx1];simp only[Option.bind_some];rw[hx2,t1];simp only[Option.bind_some,e]
  rw[QF hN hl hw hs ho (hr u hm) t2 t4 (hP u hm) (hg.add (hP1 u hm)) fun _ _=>rfl];rfl) (fun out=>by dsimp only;rw[if_neg S9])]
 refine Dr.of fun s=>?_;simp only[List.mem_flatMap,List.mem_cons,List.mem_map];rw[Sm.i4 h0 ha]
 constructor
 ·rintro⟨u,hu,rfl|⟨t,ht,rfl⟩⟩
  ·exact .inl ((h3 _).1 hu)
  exact .inr ⟨u,t,(h3 u).1 hu,((hT u hu).2.2.1 t).1 ht,rfl⟩
 rintro(h|⟨u,t,hu,ht,rfl⟩)
 ·exact⟨s,(h3 s).2 h,.inl rfl⟩
 exact⟨u,(h3 u).2 hu,.inr ⟨t,((hT u ((h3 u).2 hu)).2.2.1 t).2 ht,rfl⟩⟩
theorem Zg {k:Nat} (ih:IHr N l k) {p:A1} (hw:GG p) (hp:p.pre.length≤64) (hs:Ji l.length p) (h0:p.Op=2) {b:List PR} {f:Nat} (ho:Iv l b f) {n:Nat} (hmu:mu l p f≤k+1) (hn:8*k+9≤n):Dr (DT N n p.cP l b f) l p b f:=by
 obtain⟨n,rfl⟩:∃m,n=m+1:=⟨n - 1,by omega⟩;unfold DT;have hal:=BF p
 let S:A1→List (List PR):=fun q=>(K4 N n q l b f).getD []
 have hS:∀q∈p.cP,K4 N n q l b f=some (S q)∧(S q).length≤1500∧∀s,s∈S q↔Sm l q b f s:=fun q hq=>by
  obtain⟨L,h1,_,h3,hc,_⟩:=MM ih hw hp hs hq ho hmu (n:=n) (by omega)
  have e:S q=L:=by show(K4 N n q l b f).getD []=L;rw[h1];rfl
  rw[e];exact⟨h1,hc,h3⟩
 have hP:∀q∈p.cP,∀s∈S q,Sm l p b f s:=fun q hq s hs=>.alt h0 hq (((hS q hq).2.2 s).1 hs)
 rw[Er (L:=p.cP) (N:=N) (Sm l p b f) S (by omega) (by omega) (Nd.nil _) hP (fun out i q hu hi hq e hg=>by
  obtain⟨h1,hc,h3⟩:=hS q hq
  dsimp only
  rw[if_pos (P9 hi),C5,hu];simp only[Option.bind_some];rw[h1];simp only[Option.bind_some,e]
  rw[Er (L:=S q) (N:=N) (Sm l p b f) (fun s=>[s]) (by omega) (by omega) hg (fun s hm x hx=>by rw[List.mem_singleton.1 hx];exact hP q hq s hm) (fun out j u hu hj hm e hg=>by
   dsimp only
   rw[if_pos (P9 hj),C5,hu];simp only[Option.bind_some]
   rw[Lv hN hl hw hs ho hg,e];rfl) (fun out=>by dsimp only;rw[if_neg S9]),←List.map_eq_flatMap,List.map_id'];rfl) (fun out=>by dsimp only;rw[if_neg S9])]
 refine Dr.of fun s=>?_;rw[List.mem_flatMap,Sm.i2 h0];exact⟨fun⟨q,hq,h⟩=>⟨q,hq,((hS q hq).2.2 s).1 h⟩,fun⟨q,hq,h⟩=>⟨q,hq,((hS q hq).2.2 s).2 h⟩⟩
omit hN hl in
theorem Vp (p:A1):(⟨p.Op,p.cP,p.Typ,p.Var,p.cT,p.Span,p.cR⟩:A1)=p:=by cases p;rfl
theorem Zh {k:Nat} (ih:IHr N l k) {p:A1} (hw:GG p) (hp:p.pre.length≤64) (hs:Ji l.length p) (h0:p.Op=3) {b:List PR} {f:Nat} (ho:Iv l b f) {n:Nat} (hmu:mu l p f≤k+1) (hn:8*k+9≤n):Dr (DU N n p.cP l b f) l p b f:=by
 obtain⟨n,rfl⟩:∃m,n=m+1:=⟨n - 1,by omega⟩;unfold DU;have hal:=BF p;have hpos:=List.length_pos_iff.2 (hw.self.a1 (by omega) (by omega));have hsub:∀q∈p.cP,∃L,K4 N n q l b f=some L∧L.Nodup∧(∀s,s∈L↔Sm l q b f s)∧L.length≤1500∧∀s∈L,Kd l f s:=fun q hq=>MM ih hw hp hs hq ho hmu (by omega);obtain⟨L0,a1,a2,a3,_,_⟩:=hsub _ (List.getElem_mem hpos)
 have hi0:B6 p.cP 0=some p.cP[0]:=by have:=C5 (l:=p.cP) (i:=0);rw[List.getElem?_eq_getElem hpos]at this;exact this
 rw[hi0];simp only[Option.bind_some];rw[a1];simp only[Option.bind_some]
 have hwt:∀i,1≤i→i≤p.cP.length→GG {p with cP:=p.cP.take i}∧Ji l.length {p with cP:=p.cP.take i}∧p.cP.take i≠[]:=fun i h1 h2=>by
  have hne:p.cP.take i≠[]:=fun e=>by
   have:=congrArg List.length e
   rw[List.length_take,List.length_nil]at this;omega
  refine⟨hw.sub (by omega) (by omega) (fun x hx=>List.mem_of_mem_take hx) hne,hs.mono ?_ fun k=>k.sub fun x hx=>List.mem_of_mem_take hx,hne⟩;rw[JO,Fp];have:p.cP=p.cP.take i++p.cP.drop i:=(List.take_append_drop i _).symm
  conv=>rhs;rw[this,BW,List.countP_append]
  omega
 suffices key:∀(k i M:Nat) (acc:List (List PR)) (step:(List (List PR))×Int→Option (((List (List PR))×Int) ⊕ List (List PR))),i+k=p.cP.length→k<M→1≤i→acc.Nodup→(∀s,s∈acc↔Sm l {p with cP:=p.cP.take i} b f s)→
  (∀ o j, step (o,j)=if cmp .lss j (Ar.len p.cP)=true then(B6 p.cP j).bind fun x5=>(K4 N n x5 l b f).bind fun r6=>
   (loopN
    (fun (s7:(List (List A2))×Int)=>
     (
      if cmp .lss s7.2 (Ar.len o)=true then
       (loopN
        (fun(s10:(List (List A2))×Int)=>
         (
          if cmp .lss s10.2 (Ar.len r6)=true then
           (B6 o s7.2).bind fun x13=>
           (B6 r6 s10.2).bind fun x14=>
           (BR N x13 x14).bind fun r15=>
           if r15=true then
            (B6 o s7.2).bind fun x16=>
            (B6 r6 s10.2).bind fun x17=>
            (G5 N x16 x17).bind fun r18=>
            (S7 N s10.1 r18).bind fun l19=>
            some (.inl (l19,ar .add .i64 s10.2 1))
           else
            some (.inl (s10.1,ar .add .i64 s10.2 1))
          else
           some (.inr s10.1)))
        N (s7.1,0)).bind fun s12=>
       some (.inl (s12,ar .add .i64 s7.2 1))
      else
       some (.inr s7.1)))
    N ([],0)).bind fun s9=>some (.inl (s9,ar .add .i64 j 1))else some (.inr o))→∃out,loopN step M (acc,(i:Int))=some out∧out.Nodup∧∀s,s∈out↔Sm l p b f s by
  exact Dr.mk (key (p.cP.length - 1) 1 N L0 _ (by omega) (by omega) (Nat.le_refl _) a2 (fun s=>by
   rw[a3];refine(Sm.i3 (p:={p with cP:=p.cP.take 1}) h0 ?_).symm
   show p.cP.take 1=[p.cP[0]]
   rw[List.take_succ_eq_append_getElem hpos];simp) fun _ _=>rfl)
 intro k
 induction k with
 |zero=>
  intro i M acc step hi hM h1 hn hm hst;obtain⟨M,rfl⟩:∃m,M=m+1:=⟨M - 1,by omega⟩;refine⟨acc,?_,hn,fun s=>?_⟩
  ·unfold loopN;rw[hst,if_neg (P1 (by rw[A9];omega))]
  rw[hm,List.take_of_length_le (by omega),Vp p]
 | succ k ihk=>
  intro i M acc step hi hM h1 hnd hm hst;obtain⟨M,rfl⟩:∃m,M=m+1:=⟨M - 1,by omega⟩
  have hlt:i<p.cP.length:=by omega
  have e:ar .add .i64 (i:Int) 1=i+1:=C4 (by omega) (by omega);obtain⟨S,b1,b2,b3,hcs,hrs⟩:=hsub _ (List.getElem_mem hlt);obtain⟨wt,st,hne⟩:=hwt i h1 (by omega);obtain⟨wt1,st1,_⟩:=hwt (i+1) (by omega) (by omega);have hca:=KE wt st ho ⟨hnd,fun s hs=>(hm s).1 hs⟩;have htk:({p with cP:=p.cP.take (i+1)}:A1).cP=p.cP.take i++[p.cP[i]]:=List.take_succ_eq_append_getElem hlt
  let F:List PR→List PR→List (List PR):=fun u t=>if CF u t=true then[]else[mrg u t]
  have hF:∀{u t s},s∈F u t↔Cb u t∧s=mrg u t:=fun{u t s}=>by
   show s∈(if CF u t=true then[]else[mrg u t])↔_
   rw[←Ku];cases CF u t<;>simp
  have hP:∀u∈acc,∀t∈S,∀s∈F u t,Sm l {p with cP:=p.cP.take (i+1)} b f s:=fun u hu t ht s hs=>by
   obtain⟨hd,rfl⟩:=hF.1 hs;exact Sm.all h0 htk hne ((hm u).1 hu) ((b3 t).1 ht) hd
  obtain⟨res,r1,r2,r3⟩:=ihk (i+1) M (addL [] (acc.flatMap fun u=>S.flatMap (F u))) step (by omega) (by omega) (by omega) ((Nd.nil fun _=>True).addL fun _ _=>trivial).1 (fun s=>by
   rw[MC,Sm.i3c (p:={p with cP:=p.cP.take (i+1)}) h0 htk hne];simp only[List.not_mem_nil,false_or,List.mem_flatMap,hF]
   constructor
   ·rintro⟨u,hu,t,ht,hd,rfl⟩;exact⟨u,t,(hm u).1 hu,(b3 t).1 ht,hd,rfl⟩
   rintro⟨u,t,hu,ht,hd,rfl⟩;exact⟨u,(hm u).2 hu,t,(b3 t).2 ht,hd,rfl⟩) hst
  refine⟨res,?_,r2,r3⟩;unfold loopN;rw[hst,if_pos (P9 (by omega)),C5,List.getElem?_eq_getElem hlt];simp only[Option.bind_some];rw[b1];simp only[Option.bind_some]
  rw [Er (L:=acc) (N:=N) (Sm l {p with cP:=p.cP.take (i+1)} b f) (fun u=>S.flatMap (F u)) (by omega) (by omega) (Nd.nil _) (fun u hu s hs=>by
   obtain⟨t,ht,hs⟩:=List.mem_flatMap.1 hs
   exact hP u hu t ht s hs) (fun out j u hu hj hmu e hg=>by
   have ru:=((hm u).1 hmu).res wt ho;have hul:=ru.gd.len
   dsimp only
   rw[if_pos (P9 hj),Er (L:=S) (N:=N) (Sm l {p with cP:=p.cP.take (i+1)} b f) (F u) (by omega) (by omega) hg (hP u hmu) (fun out m t ht hmm hmt e hg=>by
    have htl:=(hrs t hmt).gd.len
    dsimp only
    rw[if_pos (P9 hmm),C5,hu,C5,ht];simp only[Option.bind_some];rw[Vz hN (by omega) (by omega)];simp only[Option.bind_some,e]
    show _=some (Sum.inl (addL out (if CF u t=true then[]else[mrg u t]),_))
    cases CF u t with
    |true=>rfl
    |false=>
     rw[if_pos (show(!false)=true from rfl),TN hN hl ru (hrs t hmt)];simp only[Option.bind_some]
     rw[Lv hN hl wt1 st1 ho hg];rfl) (fun out=>by dsimp only;rw[if_neg S9])]
   simp only[Option.bind_some,e]) (fun out=>by dsimp only;rw[if_neg S9])]
  simp only[Option.bind_some,e];rw[show((i:Int)+1)=((i+1:Nat):Int) by omega];exact r1
theorem Af6 :∀k,IHr N l k:=by
 intro k
 induction k with
 |zero=>
  intro p o f n hmu;exfalso;have:=Nat.mul_le_mul_right (l.length+2) (show 1≤p.pre.length by rw[A1.pre_eq p];simp)
  unfold mu at hmu
  omega
 | succ k ih=>
  intro p b f n hmu hn hp hw hs ho;have hop:=hw.self.op;refine⟨?_,fun h=>TZ hN hl ih hw hp hs h ho hmu (by omega),fun h=>QG hN hl ih hw hp hs h ho hmu (by omega)⟩;obtain⟨n,rfl⟩:∃m,n=m+1:=⟨n - 1,by omega⟩;have wrap:∀{r:Option (List (List PR))},Dr r l p b f→Dr (r.bind fun s=>some s) l p b f:=fun{r} ⟨L,e,h⟩=>⟨L,by rw[e];rfl,h⟩;unfold K4;simp only[B8,decide_eq_true_eq];have hf1:=ho.f1
  by_cases h0:p.Op=0
  ·rw[if_pos h0,Vw hN hl hw.self.cond ho.gd (by omega)];refine⟨_,rfl,Ks fun i j e=>by simp at e;omega,fun s=>?_⟩;rw[LG,Sm.i0 h0];exact⟨fun⟨j,h1,h2,h3,h4⟩=>⟨j,by omega,by omega,h3,h4⟩,fun⟨j,h1,h2,h3,h4⟩=>⟨j,by omega,by omega,h3,h4⟩⟩
  rw[if_neg h0]
  by_cases h1:p.Op=1
  ·rw[if_pos h1];exact wrap (TZ hN hl ih hw hp hs h1 ho hmu (by omega))
  rw[if_neg h1]
  by_cases h2:p.Op=2
  ·rw[if_pos h2];exact wrap (Zg hN hl ih hw hp hs h2 ho hmu (by omega))
  rw[if_neg h2]
  by_cases h3:p.Op=3
  ·rw[if_pos h3];exact wrap (Zh hN hl ih hw hp hs h3 ho hmu (by omega))
  rw[if_neg h3]
  by_cases h4:p.Op=4
  ·rw[if_pos h4];exact wrap (QG hN hl ih hw hp hs h4 ho hmu (by omega))
  rw[if_neg h4];obtain⟨q,ha⟩:=hw.self.a2 (by omega);obtain⟨L,l1,l2,l3,hc,hr⟩:=MM ih hw hp hs (q:=q) (by rw[ha];simp) ho hmu (n:=n) (by omega)
  have hi0:B6 p.cP 0=some q:=by rw[ha];rfl
  rw[hi0];simp only[Option.bind_some];rw[l1];simp only[Option.bind_some]
  have hlen:∀(A:List (List PR)) (o:List (List PR)),(A.foldl (fun o x=>if Dw l p b x=true then o++[x]else o) o)=o++A.filter fun s=>Dw l p b s:=fun A=>by
   induction A with
   |nil=>intro o;simp
   |cons a A ih=>intro o;rw[List.foldl_cons,ih,List.filter_cons];split<;>simp
  rw[(FD (L:=L) (N:=N) (fun o i=>(o,i)) (fun(o:List (List PR)) x=>if Dw l p b x=true then o++[x]else o) (fun o=>o) (fun i o=>o.length≤i) (by omega) (by omega) (show List.length []≤0 from Nat.le_refl 0) (fun o i x hx hi hm e ho'=>?_) fun o=>by first|dsimp only;rw[if_neg S9]|rw[if_neg S9]).1]
  ·rw[hlen];exact⟨_,rfl,l2.filter _,fun s=>by rw[List.nil_append,List.mem_filter,l3,Sm.i5 (by omega) hop.2 ha]⟩
  have ru:=hr x hm
  dsimp only
  rw[if_pos (P9 hi),C5,hx];simp only[Option.bind_some];rw[Vu hN hl hw.self.cond ⟨by omega,hop.2⟩ ho.gd ru.gd ru.ne (ho.apart ru)];simp only[Option.bind_some,e]
  by_cases hk:Dw l p b x=true
  ·rw[if_pos hk,if_pos hk,M6 (by simp;omega)];exact⟨rfl,by simp;omega⟩
  rw[if_neg hk,if_neg hk];exact⟨rfl,by omega⟩
end
end
end Go.Ab
namespace Go.Ab
open Classical
noncomputable section
def J3 :List Int→List Int→Int
 |[],[]=>0
 |[],_::_=> -1
 |_::_,[]=>1
 |x::a,y::b=>if x<y then -1 else if y<x then 1 else J3 a b
theorem FE :∀a:List Int,J3 a a=0
 |[]=>rfl
 |x::a=>by simp[J3,FE a]
theorem Ut :∀{a b:List Int},J3 a b=0→a=b
 |[],[],_=>rfl
 |[],_::_,h=>by simp[J3]at h
 |_::_,[],h=>by simp[J3]at h
 |x::a,y::b,h=>by
  unfold J3 at h
  split at h
  ·cases h
  split at h
  ·cases h
  rw[Ut h];congr 1;omega
theorem Rn :∀a b:List Int,J3 b a= - J3 a b
 |[],[]=>rfl
 |[],_::_=>rfl
 |_::_,[]=>rfl
 |x::a,y::b=>by
  unfold J3;rw[Rn a b]
  split<;>split<;>first|omega|rfl
theorem IU :∀{a b c:List Int},J3 a b<0→J3 b c<0→J3 a c<0
 |[],[],_,h,_=>by simp[J3]at h
 |_::_,[],_,h,_=>by simp[J3]at h
 |_,_::_,[],_,h=>by simp[J3]at h
 |[],_::_,_::_,_,_=>by simp[J3]
 | x::a,y::b,z::c,h1,h2=>by
  unfold J3 at h1 h2 ⊢
  by_cases h3:x<z
  ·rw[if_pos h3];decide
  rw[if_neg h3]
  by_cases h4:x<y
  ·by_cases h5:y<z
   ·omega
   rw[if_neg h5]at h2
   have:z<y:=by omega
   rw[if_pos this]at h2;cases h2
  rw[if_neg h4]at h1
  by_cases h5:y<x
  ·rw[if_pos h5]at h1;cases h1
  rw[if_neg h5]at h1
  by_cases h6:y<z
  ·omega
  rw[if_neg h6]at h2
  by_cases h7:z<y
  ·rw[if_pos h7]at h2;cases h2
  rw[if_neg h7]at h2
  rw[if_neg (by omega)];exact IU h1 h2
def YS (a b:Int):Int:=if a<b then -1 else if b<a then 1 else 0
theorem FO (N:Nat)(a b:Int):J5 N a b=some (YS a b):=by
 unfold J5 BE YS;simp only[Option.bind_some,G2,C1,Q2,decide_true,Bool.not_true,Bool.false_eq_true,if_false,decide_eq_true_eq]
 split
 ·rfl
 split<;>rfl
theorem or_eq {N:Nat} (hN:40000000≤N) {l:List Int} (hl:l.length≤1000):BN N l=some (P5 id l):=by
 unfold BN;rw[F2 l (by omega) (mk:=fun(_:Unit) i=>i) (body:=Y3 fun x=>some x) (fin:=fun _=>.inl ()) (s:=()) (by omega) ?_ ?_]
 ·rw[V0 (F:=fun x=>some x) (f:=id) fun x _=>rfl]
  by_cases h:P5 id l=0
  ·rw[if_pos h,h];rfl
  rw[if_neg h];rfl
 ·intro s i x hx hi;have e:ar .add .i64 (i:Int) 1=i+1:=C4 (by omega) (by omega);simp only[C1,A9,hi,decide_true,if_true,C5,hx,Option.bind_some,e,Y3]
  split<;>rfl
 intro s;simp[C1,A9]
def BA (r:Ds):List Int:=[r.Time,r.Source,r.Seq]
def Cj (x:D1):List Int:=[x.Ref.Time,x.Ref.Source,x.Ref.Seq,x.Var]
theorem lex3 (a1 a2 a3 b1 b2 b3:Int):J3 [a1,a2,a3] [b1,b2,b3]=P5 id [YS a1 b1,YS a2 b2,YS a3 b3]:=by
 simp only[J3,P5,YS,id]
 repeat' split
 all_goals first|rfl|omega
theorem lex4 (a1 a2 a3 a4 b1 b2 b3 b4:Int):J3 [a1,a2,a3,a4] [b1,b2,b3,b4]=P5 id [J3 [a1,a2,a3] [b1,b2,b3],YS a4 b4]:=by
 simp only[J3,P5,YS,id]
 repeat' split
 all_goals first|rfl|omega
theorem TY {N:Nat}(hN:40000000≤N)(a b:Ds):BJ N a b=some (J3 (BA a) (BA b)):=by
 unfold BJ;rw[FO,FO,FO];simp only[Option.bind_some];rw[or_eq hN (by simp),BA,BA,lex3];rfl
theorem Mt (N:Nat)(a b:Ds):Z8 N a b=some (J3 (BA a) (BA b)):=by
 unfold Z8 BA;simp only[G2,C1,Q2,J3,decide_eq_true_eq,Bool.not_eq_true',decide_eq_false_iff_not]
 repeat' split
 all_goals first|rfl|omega
theorem Ym {N:Nat}(hN:40000000≤N)(a b:A8):BC N a b=some (J3 [a.Time,a.Source,a.Seq] [b.Time,b.Source,b.Seq]):=by
 unfold BC CJ;simp only[Option.bind_some,FO];rw[or_eq hN (by simp),←lex3];simp only[K1,B8,Bool.and_true,Bool.and_eq_true,decide_eq_true_eq,Option.bind_some]
 by_cases h:a.Time=b.Time∧a.Source=b.Source∧a.Seq=b.Seq
 ·rw[if_pos h,h.1,h.2.1,h.2.2,FE]
 rw[if_neg h]
theorem Yv {N:Nat}(hN:40000000≤N)(a b:D1):W6 N a b=some (J3 (Cj a) (Cj b)):=by
 unfold W6;rw[TY hN,FO];simp only[Option.bind_some];rw[or_eq hN (by simp),Cj,Cj,lex4];rfl
theorem Vr (N:Nat) (a b:D1):Dd N a b=some (J3 (Cj a) (Cj b)):=by
 unfold Dd;rw[Mt,Cj,Cj,lex4];simp only[Option.bind_some,P5,id,BA,G2,C1,Q2,YS]
 by_cases h:J3 [a.Ref.Time,a.Ref.Source,a.Ref.Seq] [b.Ref.Time,b.Ref.Source,b.Ref.Seq]=0
 ·simp only[h,decide_true,Bool.not_true,Bool.false_eq_true,if_false,if_true,decide_eq_true_eq]
  repeat' split
  all_goals first|rfl|omega
 simp[h]
def mO :List D1→List D1→Int
 |[],[]=>0
 |[],_::_=> -1
 |_::_,[]=>1
 |x::a,y::b=>if J3 (Cj x) (Cj y)≠0 then J3 (Cj x) (Cj y)else mO a b
def Nv (m:List D1):List Int:=m.flatMap Cj
theorem Us :∀{a b:List Int} (c d:List Int),a.length=b.length→J3 (a++c) (b++d)=if J3 a b≠0 then J3 a b else J3 c d
 |[],[],c,d,_=>by simp[J3]
 |[],_::_,_,_,h=>by simp at h
 |_::_,[],_,_,h=>by simp at h
 |x::a,y::b,c,d,h=>by
  simp only[List.cons_append,J3];have ih:=Us (a:=a) (b:=b) c d (by simpa using h)
  by_cases h1:x<y
  ·simp[h1]
  by_cases h2:y<x
  ·simp[h1,h2]
  simp only[h1,h2,if_false];exact ih
theorem NX :∀a b:List D1,mO a b=J3 (Nv a) (Nv b)
 |[],[]=>rfl
 |[],y::b=>by simp[mO,Nv,Cj,J3]
 |x::a,[]=>by simp[mO,Nv,Cj,J3]
 |x::a,y::b=>by
  simp only[mO,Nv,List.flatMap_cons];rw[Us _ _ (by simp[Cj])];have:=NX a b;rw[this];rfl
theorem Uo {N:Nat} {a b:List D1} {step:Int→Option (Int ⊕ (Unit ⊕ Int))} {k:Unit ⊕ Int→Option Int} (hN:a.length<N) (hl:a.length≤1000000)
 (hs:∀(i:Nat) (h1:i<a.length) (h2:i<b.length),step (i:Int)=if cmp .neq (J3 (Cj a[i]) (Cj b[i])) 0=true then some (.inr (.inr (J3 (Cj a[i]) (Cj b[i]))))else some (.inl (ar .add .i64 (i:Int) 1)))
 (he:∀i:Nat,i≤a.length→i≤b.length→i=a.length∨i=b.length→∃r,step (i:Int)=some (.inr r)∧k r=some (if a.length<b.length then -1 else if b.length<a.length then 1 else 0)) (hk:∀c,k (.inr c)=some c):(loopN step N 0).bind k=some (mO a b):=by
 have key:∀(d i N:Nat),i+d=a.length→d<N→i≤b.length→(loopN step N (i:Int)).bind k=some (mO (a.drop i) (b.drop i)):=by
  have hend:∀(i N:Nat),i≤a.length→i≤b.length→i=a.length∨i=b.length→(loopN step (N+1) (i:Int)).bind k=some (mO (a.drop i) (b.drop i)):=fun i N h1 h2 h=>by
   obtain⟨r,e1,e2⟩:=he i h1 h2 h;simp only[loopN,e1,Option.bind_some,e2]
   by_cases ha:i<a.length
   ·rw[List.drop_eq_getElem_cons ha,List.drop_eq_nil_of_le (show b.length≤i by omega),if_neg (by omega),if_pos (by omega)];rfl
   rw[List.drop_eq_nil_of_le (show a.length≤i by omega)]
   by_cases hb:i<b.length
   ·rw[List.drop_eq_getElem_cons hb,if_pos (by omega)];rfl
   rw[List.drop_eq_nil_of_le (show b.length≤i by omega),if_neg (by omega),if_neg (by omega)];rfl
  intro d
  induction d with
  |zero=>
   intro i N hi hN hb;obtain⟨N,rfl⟩:∃m,N=m+1:=⟨N - 1,by omega⟩;exact hend i N (by omega) hb (by omega)
  |succ d ih=>
   intro i N hi hN hb;obtain⟨N,rfl⟩:∃m,N=m+1:=⟨N - 1,by omega⟩
   by_cases h:i=b.length
   ·exact hend i N (by omega) hb (.inr h)
   have ha:i<a.length:=by omega
   have hb:i<b.length:=by omega
   rw[List.drop_eq_getElem_cons ha,List.drop_eq_getElem_cons hb,mO];unfold loopN;rw[hs i ha hb,C4 (by omega) (by omega)]
   by_cases hz:J3 (Cj a[i]) (Cj b[i])=0
   ·rw[if_neg (show¬(cmp .neq (J3 (Cj a[i]) (Cj b[i])) 0=true)from H9 hz),if_neg (by simpa using hz)];exact ih (i+1) N (by omega) (by omega) (by omega)
   rw[if_pos (show cmp .neq (J3 (Cj a[i]) (Cj b[i])) 0=true from I7 hz),if_pos hz];exact hk _
 simpa using key a.length 0 N (by omega) hN (by omega)
theorem JH {N:Nat} (hN:40000000≤N) {x y:D0} (hx:x.cQ.length≤1000000) (hy:y.cQ.length≤1000000):N8 N x y=some (mO x.cQ y.cQ):=by
 obtain⟨a⟩:=x;obtain⟨b⟩:=y
 dsimp only at hx hy ⊢
 unfold N8 E0
 dsimp only
 refine congrArg (fun o:Option Int=>o.bind fun r1=>some r1) (Uo (a:=a) (b:=b) (by omega) hx (fun i h1 h2=>?_) (fun i h1 h2 h=>?_) fun _=>rfl)
 ·rw[if_pos (P9 (by omega)),C5,List.getElem?_eq_getElem h1];simp only[Option.bind_some];rw[if_neg (by rw[J1,A9];simp;omega),C5,List.getElem?_eq_getElem h2];simp only[Option.bind_some];rw[Yv hN];rfl
 by_cases ha:i<a.length
 ·refine⟨.inr 1,?_,?_⟩
  ·rw[if_pos (P9 (by omega)),C5,List.getElem?_eq_getElem ha];simp only[Option.bind_some];rw[if_pos (by rw[J1,A9];simp;omega)]
  rw[if_neg (show¬a.length<b.length by omega),if_pos (show b.length<a.length by omega)]
 refine⟨.inl (),by rw[if_neg (P1 (by rw[A9];omega))],?_⟩
 dsimp only
 by_cases hb:a.length<b.length
 ·rw[if_pos (U2 (by rw[A9,A9];omega)),if_pos hb]
 rw[if_neg (P1 (by rw[A9,A9];omega)),if_neg hb,if_neg (show¬b.length<a.length by omega)]
theorem OX {N:Nat}(hN:40000000≤N){x y:D0}(hx:x.cQ.length≤1000000)(hy:y.cQ.length≤1000000):M8 N x y=some (mO x.cQ y.cQ):=by
 obtain⟨a⟩:=x;obtain⟨b⟩:=y
 dsimp only at hx hy ⊢
 unfold M8;refine Uo (a:=a) (b:=b) (by omega) hx (fun i h1 h2=>?_) (fun i h1 h2 h=>⟨.inl (),by rw[if_neg (by simp only[K1,C1,A9];simp;omega)],?_⟩) fun _=>rfl
 ·rw[if_pos (by simp only[K1,C1,A9];simp;omega),C5,List.getElem?_eq_getElem h1,C5,List.getElem?_eq_getElem h2];simp only[Option.bind_some];rw[Vr];rfl
 dsimp only
 by_cases hb:a.length<b.length
 ·rw[if_pos (U2 (by rw[A9,A9];omega)),if_pos hb]
 rw[if_neg (P1 (by rw[A9,A9];omega)),if_neg hb]
 by_cases hc:b.length<a.length
 ·rw[if_pos (R3 (by rw[A9,A9];omega)),if_pos hc]
 rw[if_neg (N2 (by rw[A9,A9];omega)),if_neg hc]
end
end Go.Ab
namespace Go.Ab
open Classical
noncomputable section
def Aj (e:A8):List Int:=[e.Time,e.Source,e.Seq]
def HR (e:A8):Bool:=(an (an (an (an (an (cmp .geq e.Time 0) (cmp .leq e.Time 1099511627776)) (cmp .geq e.Source 0)) (cmp .lss e.Source 8)) (cmp .geq e.Seq 0)) (cmp .leq e.Seq 1099511627776))
def Cu (a b:A8):Bool:=decide (a.Source=b.Source)&&decide (a.Seq=b.Seq)
def Nj (l:List A8)(i:Nat):Int:=
 match l[i]? with
 |none=>0
 |some e=>if HR e=false then 2 else if 0<i∧0≤J3 (Aj ((l[i - 1]?).getD e)) (Aj e)then 14 else if(l.take i).any (fun x=>Cu x e)=true then 7 else 0
def Nc (l:List A8):Int:=if 4096<l.length then 5 else P5 (Nj l) (List.range l.length)
theorem WO {N : Nat} (hN:40000000≤N) {l:List A8} (hl:l.length≤4096) {i:Nat} (hi:i<l.length):(loopN
                    (fun(s10:Int)=>
                     (
                      if cmp .lss s10 (i:Int)=true then
                       (B6 l s10).bind fun x12=>
                       (CC N x12 l[i]).bind fun r14=>
                       if r14=true then
                        some (.inr (.inr ()))
                       else
                        some (.inl (ar .add .i64 s10 1))
                      else
                       some (.inr (.inl ()))
                      :Option ((Int) ⊕ (Unit ⊕ Unit))))
                    N 0)=some (if(l.take i).any (fun x=>Cu x l[i])=true then .inr ()else .inl ()):=by
 have hlen:(l.take i).length=i:=by rw[List.length_take];omega
 rw [BY (l:=l.take i) (fun x=>Cu x l[i]) (by omega) (by omega) (fun j x hx hj=>by
     have hji:j<i:=by omega
     have e:ar .add .i64 (j:Int) 1=j+1:=C4 (by omega) (by omega)
     rw[List.getElem?_take_of_lt hji]at hx
     rw[if_pos (U2 (by omega)),C5,hx];simp only[Option.bind_some,e,CC,B8,K1];unfold Cu
     split<;>rfl) (by rw[hlen,if_neg (P1 (Int.lt_irrefl _))])]
theorem Zj {N:Nat} (hN:40000000≤N) {l:List A8}:Di N l=some (Nc l):=by
 unfold Di Nc
 by_cases h1:4096<l.length
 ·rw[if_pos (R3 (by rw[A9];omega)),if_pos h1]
 rw[if_neg (N2 (by rw[A9];omega)),if_neg h1];have hr:(List.range l.length).length=l.length:=List.length_range;rw[F2 (List.range l.length) (by omega) (mk:=fun(_:Unit) i=>i) (body:=Y3 fun i=>some (Nj l i)) (fin:=fun _=>.inl ()) (s:=()) (by omega) ?_ ?_]
 ·rw[V0 (F:=fun i=>some (Nj l i)) (f:=Nj l) fun x _=>rfl]
  by_cases h:P5 (Nj l) (List.range l.length)=0
  ·rw[if_pos h,h];rfl
  rw[if_neg h];rfl
 ·intro s i x hx hi
  have hil:i<l.length:=by omega
  rw[List.getElem?_range hil]at hx
  cases hx;have e:ar .add .i64 (i:Int) 1=i+1:=C4 (by omega) (by omega);rw[if_pos (P9 (by omega)),EF hil];simp only[Option.bind_some];rw[WO hN (by omega) hil]
  have hbs:Nj l i=if HR l[i]=false then 2 else if 0<i∧0≤J3 (Aj ((l[i - 1]?).getD l[i])) (Aj l[i])then 14 else if(l.take i).any (fun x=>Cu x l[i])=true then 7 else 0:=by
   unfold Nj;rw[List.getElem?_eq_getElem hil]
  unfold Ba CD Y3;simp only[Option.bind_some,e];rw[hbs];have hp:(an (an (an (an (an (cmp .geq l[i].Time 0) (cmp .leq l[i].Time 1099511627776)) (cmp .geq l[i].Source 0)) (cmp .lss l[i].Source 8)) (cmp .geq l[i].Seq 0)) (cmp .leq l[i].Seq 1099511627776))=HR l[i]:=rfl;rw[hp]
  cases HR l[i]with
  |false=>rfl
  | true=>
   rw[if_neg (show¬(nt true=true) by decide),if_neg (show¬(true=false) by decide)]
   by_cases h0:0<i
   ·rw[if_pos (R3 (by omega))]
    have e1:ar .sub .i64 (i:Int) 1=((i - 1:Nat):Int):=by rw[DG (by omega) (by omega)];omega
    have hi1:i - 1<l.length:=by omega
    rw[e1,EF hi1,List.getElem?_eq_getElem hi1];simp only[Option.bind_some,Mt,Option.getD_some];have hk:J3 (BA ⟨l[i - 1].Time,l[i - 1].Source,l[i - 1].Seq⟩) (BA ⟨l[i].Time,l[i].Source,l[i].Seq⟩)=J3 (Aj l[i - 1]) (Aj l[i]):=rfl;rw[hk]
    by_cases h2:0≤J3 (Aj l[i - 1]) (Aj l[i])
    ·rw[if_pos (show cmp .geq (J3 (Aj l[i - 1]) (Aj l[i])) 0=true by rw[J1];exact decide_eq_true h2),if_pos (show 0<i∧0≤J3 (Aj l[i - 1]) (Aj l[i])from⟨h0,h2⟩)];rfl
    rw[if_neg (show¬(cmp .geq (J3 (Aj l[i - 1]) (Aj l[i])) 0=true) by rw[J1];simpa using h2),if_neg (show¬(0<i∧0≤J3 (Aj l[i - 1]) (Aj l[i]))from fun h=>h2 h.2)];cases(l.take i).any fun x=>Cu x l[i]<;>rfl
   rw[if_neg (N2 (by omega)),if_neg (show¬(0<i∧0≤J3 (Aj ((l[i - 1]?).getD l[i])) (Aj l[i]))from fun h=>h0 h.1)];cases(l.take i).any fun x=>Cu x l[i]<;>rfl
 intro s;rw[hr,if_neg S9]
def Ev (p:List A8):List (D4×Bool):=p.map fun e=>(⟨e.Source,e.Seq⟩,true)
theorem VW (p:List A8) (e:A8):∃b,Ja (Ev p) ⟨e.Source,e.Seq⟩ false=some (p.any fun x=>Cu x e,b):=by
 unfold Ja Ev
 induction p with
 |nil=>exact⟨false,by simp⟩
 | cons x p ih=>
  obtain⟨b,ih⟩:=ih;rw[List.map_cons,List.find?_cons,any_cons]
  by_cases h:(⟨x.Source,x.Seq⟩:D4)=⟨e.Source,e.Seq⟩
  ·have ht:Cu x e=true:=by
    simp only[D4.mk.injEq]at h
    simp[Cu,h.1,h.2]
   exact⟨true,by simp[h,ht]⟩
  have ht:Cu x e=false:=by
   simp only[D4.mk.injEq]at h
   simp only[Cu,Bool.and_eq_false_iff,decide_eq_false_iff_not]
   by_cases h1:x.Source=e.Source
   ·exact .inr fun h2=>h ⟨h1,h2⟩
   exact .inl h1
  refine⟨b,?_⟩;simp only[h,decide_false,ht,Bool.false_or];exact ih
theorem Vn {p:List A8}{e:A8}(h:(p.any fun x=>Cu x e)=false):Ie (Ev p) ⟨e.Source,e.Seq⟩ true=some (Ev (p++[e])):=by
 unfold Ie;rw[if_neg]
 ·simp[Ev]
 intro c
 rw[List.any_eq_true]at c
 obtain⟨q,hq,he⟩:=c
 simp only[Ev,List.mem_map]at hq
 obtain⟨x,hx,rfl⟩:=hq
 rw[List.any_eq_false]at h
 refine h x hx ?_
 simp only[decide_eq_true_eq,D4.mk.injEq]at he
 simp[Cu,he.1,he.2]
theorem XJ {B:Type} {N n:Nat} {M:Nat→B} {step:(Int×B)→Option ((Int×B) ⊕ (B ⊕ (Int×B)))} (f:Nat→Int) {k:B ⊕ (Int×B)→Option Int} (hN:n<N) (hn:n<1000000000)
 (hs:∀i:Nat,i<n→ar .add .i64 (i:Int) 1=i+1→step ((i:Int),M i)=some (if f i=0 then .inl ((i:Int)+1,M (i+1))else .inr (.inr (f i,M i)))) (he:step ((n:Int),M n)=some (.inr (.inl (M n)))) (h0:∀m,k (.inl m)=some 0) (h1:∀c m,k (.inr (c,m))=some c):(loopN step N (0,M 0)).bind k=some (P5 f (List.range n)):=by
 have key:∀(d i N:Nat),i+d=n→d<N→(loopN step N ((i:Int),M i)).bind k=some (P5 f (List.range' i d)):=by
  intro d
  induction d with
  |zero=>
   intro i N hi hN;obtain⟨N,rfl⟩:∃m,N=m+1:=⟨N - 1,by omega⟩;obtain rfl:i=n:=hi;simp only[loopN,he,Option.bind_some,h0];rfl
  |succ d ih=>
   intro i N hi hN;obtain⟨N,rfl⟩:∃m,N=m+1:=⟨N - 1,by omega⟩;rw[List.range'_succ]
   by_cases hf:f i=0
   ·simp only[loopN,hs i (by omega) (C4 (by omega) (by omega)),P5,hf,if_true];exact ih (i+1) N (by omega) (by omega)
   simp only[loopN,hs i (by omega) (C4 (by omega) (by omega)),P5,hf,if_false,Option.bind_some,h1]
 rw[List.range_eq_range'];exact key n 0 N (by omega) hN
theorem Zc {N:Nat} (hN:40000000≤N) {l:List A8}:Cd N l=some (Nc l):=by
 unfold Cd Nc
 by_cases h1:4096<l.length
 ·rw[if_pos (R3 (by rw[A9];omega)),if_pos h1]
 rw[if_neg (N2 (by rw[A9];omega)),if_neg h1];refine XJ (M:=fun i=>Ev (l.take i)) (Nj l) (by omega) (by omega) (fun i hil e=>?_) (by dsimp only;rw[if_neg S9]) (fun _=>rfl) (fun _ _=>rfl);obtain⟨b,hb⟩:=VW (l.take i) l[i];have hp:CU N l[i]=some (HR l[i]):=rfl;have hst:Cy N l[i]=some ⟨l[i].Source,l[i].Seq⟩:=rfl
 dsimp only
 rw[if_pos (P9 (by omega)),EF hil];simp only[Option.bind_some];unfold Nj;rw[hp,hst,List.getElem?_eq_getElem hil];simp only[Option.bind_some,hb,e]
 cases HR l[i]with
 |false=>rfl
 | true=>
  rw[if_neg (show¬(nt true=true) by decide),if_neg (show¬(true=false) by decide)]
  have ht:(if(l.take i).any (fun x=>Cu x l[i])=true then some (.inr (.inr (7,Ev (l.take i))))else(Ie (Ev (l.take i)) ⟨l[i].Source,l[i].Seq⟩ true).bind fun l15=>some (.inl ((i:Int)+1,l15)):Option ((Int×(List (D4×Bool))) ⊕ (((List (D4×Bool))) ⊕ (Int×(List (D4×Bool))))))=some (if(if(l.take i).any (fun x=>Cu x l[i])=true then(7:Int)else 0)=0 then .inl ((i:Int)+1,Ev (l.take (i+1)))else .inr (.inr (if(l.take i).any (fun x=>Cu x l[i])=true then(7:Int)else 0,Ev (l.take i)))):=by
   by_cases h7:(l.take i).any (fun x=>Cu x l[i])=true
   ·simp only[h7,if_true];rfl
   rw[if_neg h7,if_neg h7,Vn (by simpa using h7),List.take_succ_eq_append_getElem hil];rfl
  by_cases h0:0<i
  ·have hi1:i - 1<l.length:=by omega
   rw[if_pos (R3 (by omega)),show ar .sub .i64 (i:Int) 1=((i - 1:Nat):Int) by rw[DG (by omega) (by omega)];omega,EF hi1,List.getElem?_eq_getElem hi1];simp only[Option.bind_some,Ym hN,Option.getD_some];have hk:J3 [l[i - 1].Time,l[i - 1].Source,l[i - 1].Seq] [l[i].Time,l[i].Source,l[i].Seq]=J3 (Aj l[i - 1]) (Aj l[i]):=rfl;rw[hk]
   by_cases h2:0≤J3 (Aj l[i - 1]) (Aj l[i])
   ·rw[if_pos (show cmp .geq (J3 (Aj l[i - 1]) (Aj l[i])) 0=true by rw[J1];exact decide_eq_true h2),if_pos (show 0<i∧0≤J3 (Aj l[i - 1]) (Aj l[i])from⟨h0,h2⟩)];rfl
   rw[if_neg (show¬(cmp .geq (J3 (Aj l[i - 1]) (Aj l[i])) 0=true) by rw[J1];simpa using h2),if_neg (show¬(0<i∧0≤J3 (Aj l[i - 1]) (Aj l[i]))from fun h=>h2 h.2)];exact ht
  rw[if_neg (N2 (by omega)),if_neg (show¬(0<i∧0≤J3 (Aj ((l[i - 1]?).getD l[i])) (Aj l[i]))from fun h=>h0 h.1)];exact ht
theorem UF {l:List A8} (hl:l.length≤10) (h:Nc l=0):∀(d i:Nat),i+d+1<l.length→∀(h1:i<l.length) (h2:i+d+1<l.length),J3 (Aj l[i]) (Aj l[i+d+1])<0:=by
 have hc:∀i,i<l.length→Nj l i=0:=by
  unfold Nc at h
  rw[if_neg (by omega)]at h
  exact fun i hi=>CO.1 h i (List.mem_range.2 hi)
 have h1:∀i,∀(h2:i+1<l.length),J3 (Aj l[i]) (Aj l[i+1])<0:=fun i h2=>by
  have:=hc (i+1) h2
  unfold Nj at this
  rw[List.getElem?_eq_getElem h2]at this
  dsimp only at this
  split at this
  ·cases this
  split at this
  ·cases this
  rename_i hh
  have hi:i<l.length:=by omega
  simp only[Nat.add_sub_cancel,List.getElem?_eq_getElem hi,Option.getD_some,not_and]at hh
  have:=hh (by omega);omega
 intro d
 induction d with
 |zero=>intro i _ _ h2;exact h1 i h2
 |succ d ih=>
  intro i _ hi h2;exact IU (ih i (by omega) hi (by omega)) (h1 (i+d+1) h2)
end
end Go.Ab
namespace Go.Ab
open Classical
noncomputable section
def KU (l:List A8)(i:Int):Ds:=match l[i.toNat]? with|some e=>⟨e.Time,e.Source,e.Seq⟩|none=>⟨0,0,0⟩
def Ay (l:List A8)(s:List PR):D0:=⟨s.map fun x=>⟨x.Var,KU l x.At⟩⟩
theorem IR (l:List A8)(s:List PR):(Ay l s).cQ.length=s.length:=by simp[Ay]
theorem Ua {l:List A8}{i:Int}(h0:0≤i)(h1:i<l.length):∃e,B6 l i=some e∧(⟨e.Time,e.Source,e.Seq⟩:Ds)=KU l i:=by
 obtain⟨i,rfl⟩:=Int.eq_ofNat_of_zero_le h0
 have hi:i<l.length:=by omega
 exact⟨l[i],EF hi,by simp[KU,hi]⟩
theorem Zf {l:List A8} (hl:l.length≤10) (hc:Nc l=0) {i j:Int} (hi:0≤i∧i<l.length) (hj:0≤j∧j<l.length) (h:KU l i=KU l j):i=j:=by
 obtain⟨i,rfl⟩:=Int.eq_ofNat_of_zero_le hi.1;obtain⟨j,rfl⟩:=Int.eq_ofNat_of_zero_le hj.1
 have hi':i<l.length:=by omega
 have hj':j<l.length:=by omega
 have hk:Aj l[i]=Aj l[j]:=by
  simp only[KU,Int.toNat_natCast,List.getElem?_eq_getElem hi',List.getElem?_eq_getElem hj',Ds.mk.injEq]at h
  simp[Aj,h.1,h.2.1,h.2.2]
 rcases Nat.lt_trichotomy i j with e|e|e
 ·obtain⟨d,rfl⟩:∃d,j=i+d+1:=⟨j - i - 1,by omega⟩;have:=UF hl hc d i hj' hi' hj'
  rw[hk,FE]at this;omega
 ·omega
 obtain⟨d,rfl⟩:∃d,i=j+d+1:=⟨i - j - 1,by omega⟩;have:=UF hl hc d j hi' hj' hi'
 rw[hk,FE]at this;omega
theorem ME {l:List A8} (hl:l.length≤10) (hc:Nc l=0):∀{a b:List PR},Sa l a→Sa l b→(Ay l a).cQ=(Ay l b).cQ→a=b
 |[],[],_,_,_=>rfl
 |[],_::_,_,_,h=>by simp[Ay]at h
 |_::_,[],_,_,h=>by simp[Ay]at h
 | x::a,y::b,ha,hb,h=>by
  simp only[Ay,List.map_cons,List.cons.injEq,D1.mk.injEq]at h
  have e:=Zf hl hc (ha x (by simp)).2 (hb y (by simp)).2 h.1.2
  have hxy:x=y:=by
   cases x;cases y
   simp only[A2.mk.injEq]at *
   exact⟨h.1.1,e⟩
  rw[hxy,ME hl hc (fun z hz=>ha z (by simp[hz])) (fun z hz=>hb z (by simp[hz])) h.2]
theorem Rp :∀{a b:List D1},Nv a=Nv b→a=b
 |[],[],_=>rfl
 |[],_::_,h=>by simp[Nv,Cj]at h
 |_::_,[],h=>by simp[Nv,Cj]at h
 | x::a,y::b,h=>by
  simp only[Nv,List.flatMap_cons,Cj,List.cons_append,List.nil_append,List.cons.injEq]at h
  obtain⟨h1,h2,h3,h4,h5⟩:=h
  have hxy:x=y:=by
   obtain⟨v,t,s,q⟩:=x;obtain⟨v',t',s',q'⟩:=y
   simp only at h1 h2 h3 h4
   rw[h1,h2,h3,h4]
  rw[hxy,Rp h5]
theorem Pj {a b:List D1}(h:mO a b=0):a=b:=Rp (Ut (by rw[←NX];exact h))
theorem LH (a:List D1):mO a a=0:=by rw[NX,FE]
theorem XI (a b:List D1):mO b a= - mO a b:=by rw[NX,NX,Rn]
theorem MG {a b c:List D1}(h1:mO a b<0)(h2:mO b c<0):mO a c<0:=by rw[NX]at *;exact IU h1 h2
def PO (r:List D0):Prop:=r.Pairwise fun a b=>mO a.cQ b.cQ<0
theorem Af3 {N:Nat} (hN:40000000≤N) {L r:List D0} (hp:r.Perm L) (ha:PO r) (hb:∀x∈r,x.cQ.length≤1000000) (hl:L.length≤1000000):GV (fun y1 y2=>N8 N y1 y2) L=some r:=by
 refine Ql hp (BP.2 ⟨fun a h=>?_,?_⟩) (by omega)
 ·unfold YM
  dsimp only
  rw[JH hN (hb a h) (hb a h),LH];rfl
 refine List.Pairwise.imp_of_mem (fun{x y} hx hy hlt=>?_) ha
 constructor
 ·unfold Pl
  dsimp only
  rw[JH hN (hb x hx) (hb y hy)];exact decide_eq_true hlt
 unfold YM
 dsimp only
 rw[JH hN (hb y hy) (hb x hx),XI];exact decide_eq_true (by omega)
theorem Jb {α:Type}{f:α→D1}:∀(s:List α) (m:D0),s.foldl (fun m x=>⟨m.cQ++[f x]⟩) m=⟨m.cQ++s.map f⟩
 |[],⟨a⟩=>by simp
 |x::s,m=>by rw[List.foldl_cons,Jb s];simp
theorem Vt {N:Nat} (hN:40000000≤N) {l:List A8} {s:List PR} (hs:s.length≤1000000) (hw:Sa l s):Z5 N l s=some (Ay l s):=by
 unfold Z5
 rw[(FD (L:=s) (N:=N) (fun(m:D0) i=>(i,m)) (fun m x=>⟨m.cQ++[⟨x.Var,KU l x.At⟩]⟩) (fun m=>m) (fun i m=>m.cQ.length=i) (by omega) (by omega) rfl (fun m i x hx hi hm e hl=>by
  obtain⟨e',h1,h2⟩:=Ua (hw x hm).2.1 (hw x hm).2.2;rw[if_pos (P9 hi),C5,hx];simp only[Option.bind_some];rw[h1];simp only[Option.bind_some,CD];rw[M6 (by simp;omega),e,h2]
  exact⟨rfl,by simp[hl]⟩) (fun m=>by dsimp only;rw[if_neg S9])).1,Jb]
 rfl
theorem XV {N:Nat} (hN:40000000≤N) {m:D0} (hm:m.cQ.length≤1000000) {out:List D0} (ho:∀x∈out,x.cQ.length≤1000000) (hl:out.length≤1000000) (ha:PO out) (hn:∀x∈out,mO m.cQ x.cQ≠0):
 ∃ k, k≤out.length∧loopN
  (fun(s8:Int)=>
   (
    if cmp .gtr s8 0=true then
     (Xk (YL out (ar .sub .i64 s8 1))).bind fun _=>
     (B6 out (ar .sub .i64 s8 1)).bind fun x10=>
     (M8 N m x10).bind fun r11=>
     if cmp .lss r11 0=true then
      some (.inl (ar .sub .i64 s8 1))
     else
      some (.inr s8)
    else
     some (.inr s8)
    :Option ((Int) ⊕ (Int))))
  N (Ar.len out)=some (k:Int)∧PO (out.take k++[m]++out.drop k):=by
 have key:∀(k M:Nat),k≤out.length→k<M→(∀x∈out.drop k,mO m.cQ x.cQ<0)→∃k',k'≤out.length∧loopN
  (fun(s8:Int)=>
   (
    if cmp .gtr s8 0=true then
     (Xk (YL out (ar .sub .i64 s8 1))).bind fun _=>
     (B6 out (ar .sub .i64 s8 1)).bind fun x10=>
     (M8 N m x10).bind fun r11=>
     if cmp .lss r11 0=true then
      some (.inl (ar .sub .i64 s8 1))
     else
      some (.inr s8)
    else
     some (.inr s8)
    :Option ((Int) ⊕ (Int))))
  M (k:Int)=some (k':Int)∧(∀x∈out.drop k',mO m.cQ x.cQ<0)∧(∀x∈out.take k',mO x.cQ m.cQ<0):=by
  intro k
  induction k with
  |zero=>
   intro M _ hM hd;obtain⟨M,rfl⟩:∃m,M=m+1:=⟨M - 1,by omega⟩;refine⟨0,by omega,rfl,hd,by simp⟩
  | succ k ih=>
   intro M hk hM hd;obtain⟨M,rfl⟩:∃m,M=m+1:=⟨M - 1,by omega⟩
   have hlt:k<out.length:=by omega
   have hmem:out[k]∈out:=List.getElem_mem hlt
   have e1:ar .sub .i64 ((k+1:Nat):Int) 1=(k:Int):=by rw[DG (by omega) (by omega)];omega
   have hr:Xk (YL out (k:Int))=some ():=by
    unfold Xk YL;rw[if_pos]
    simp;omega
   by_cases hc:mO m.cQ out[k].cQ<0
   ·obtain⟨k',h1,h2,h3⟩:=ih M (by omega) (by omega) (fun x hx=>by
     rw[List.drop_eq_getElem_cons hlt]at hx
     rcases List.mem_cons.1 hx with rfl|hx
     ·exact hc
     exact hd x hx)
    refine⟨k',h1,?_,h3⟩;unfold loopN;rw[if_pos (R3 (by omega)),e1,hr,C5,List.getElem?_eq_getElem hlt];simp only[Option.bind_some];rw[OX hN hm (ho _ hmem)];simp only[Option.bind_some];rw[if_pos (U2 hc)];exact h2
   have hgt:mO out[k].cQ m.cQ<0:=by
    have:=hn _ hmem;rw[XI];omega
   refine⟨k+1,hk,?_,hd,fun x hx=>?_⟩
   ·unfold loopN;rw[if_pos (R3 (by omega)),e1,hr,C5,List.getElem?_eq_getElem hlt];simp only[Option.bind_some];rw[OX hN hm (ho _ hmem)];simp only[Option.bind_some];rw[if_neg (P1 hc)]
   rw[List.take_succ_eq_append_getElem hlt]at hx
   rcases List.mem_append.1 hx with hx|hx
   ·obtain⟨j,hj,e⟩:=List.getElem_of_mem hx
    rw[List.length_take]at hj
    have hjk:j<k:=by omega
    rw[List.getElem_take]at e
    have:=List.pairwise_iff_getElem.1 ha j k (by omega) hlt hjk
    rw[e]at this
    exact MG this hgt
   rw[List.mem_singleton.1 hx];exact hgt
 obtain⟨k',h1,h2,h3,h4⟩:=key out.length N (Nat.le_refl _) (by omega) (by simp);refine⟨k',h1,h2,?_⟩
 unfold PO at ha ⊢
 rw[List.pairwise_append,List.pairwise_append];refine⟨⟨ha.sublist (List.take_sublist _ _),by simp,fun a h b hb=>?_⟩,ha.sublist (List.drop_sublist _ _),fun a h b hb=>?_⟩
 ·rw[List.mem_singleton.1 hb];exact h4 a h
 rcases List.mem_append.1 h with h|h
 ·exact MG (h4 a h) (h3 b hb)
 rw[List.mem_singleton.1 h];exact h3 b hb
theorem Ss {α:Type}{l:List α}{k:Nat}(h:k≤l.length):N4 l none (some (k:Int)) none=some (l.take k):=by
 unfold N4;rw[if_pos (by simp;omega)];simp
theorem Ts {α:Type}{l:List α}{k:Nat}(h:k≤l.length):N4 l (some (k:Int)) none none=some (l.drop k):=by
 unfold N4;rw[if_pos (by simp;omega)];simp only[Option.getD_some,Option.getD_none,Int.toNat_natCast];rw[List.take_of_length_le (by simp)]
theorem Zk {N :Nat} (hN:40000000≤N) {l:List A8} (hl:l.length≤10) (hc:Nc l=0) {L:List (List PR)} (hL:L.length≤1500) (hn:L.Nodup) (hg:∀s∈L,Gd l s) {p:A1} (h:K4 N N p l [] 0=some L):
 ∃r,CA N p l=some r∧PO r∧r.Perm (L.map (Ay l)):=by
 unfold CA;rw[h];simp only[Option.bind_some]
 rw [F2 L (by omega) (mk:=fun(m:List D0) i=>(i,m)) (body:=fun out x=>(Z5 N l x).bind fun m=>(loopN
  (fun(s8:Int)=>
   (
    if cmp .gtr s8 0=true then
     (Xk (YL out (ar .sub .i64 s8 1))).bind fun _=>
     (B6 out (ar .sub .i64 s8 1)).bind fun x10=>
     (M8 N m x10).bind fun r11=>
     if cmp .lss r11 0=true then
      some (.inl (ar .sub .i64 s8 1))
     else
      some (.inr s8)
    else
     some (.inr s8)
    :Option ((Int) ⊕ (Int))))
  N (Ar.len out)).bind fun s9=>
  (N4 out (some s9) none none).bind fun l13=>
  (I3 [] l13).bind fun l15=>
  (N4 out none (some s9) none).bind fun l17=>
  (I3 l17 ([m])).bind fun l19=>
  (I3 l19 l15).bind fun l21=>some (.inl l21)) (fin:=fun m=>m) (s:=[]) (by omega) ?_ ?_]
 ·obtain ⟨s', h1,p,h2,h3,h4⟩:=W5 (R:=List D0) (step:=fun(out:List D0) (x:List PR)=>(Z5 N l x).bind fun m=>(loopN
          (fun(s8:Int)=>
           (
            if cmp .gtr s8 0=true then
             (Xk (YL out (ar .sub .i64 s8 1))).bind fun _=>
             (B6 out (ar .sub .i64 s8 1)).bind fun x10=>
             (M8 N m x10).bind fun r11=>
             if cmp .lss r11 0=true then
              some (.inl (ar .sub .i64 s8 1))
             else
              some (.inr s8)
            else
             some (.inr s8)
            :Option ((Int) ⊕ (Int))))
          N (Ar.len out)).bind fun s9=>
   (N4 out (some s9) none none).bind fun l13=>
   (I3 [] l13).bind fun l15=>
   (N4 out none (some s9) none).bind fun l17=>
   (I3 l17 ([m])).bind fun l19=>
   (I3 l19 l15).bind fun l21=>some (.inl l21))
   (fun r m=>∃p,p++r=L∧PO m∧m.Perm (p.map (Ay l))) (fun x r m ⟨p,e1,e2,e3⟩=>by
    have hx:x∈L:=by rw[←e1];simp
    have hxl:=(hg x hx).len
    have hpl:p.length≤1500:=by have:=congrArg List.length e1;simp at this;omega
    have hml:m.length≤1500:=by have:=e3.length_eq;rw[List.length_map]at this;omega
    have hmm:∀y∈m,∃t∈p,y=Ay l t:=fun y hy=>by
     obtain⟨t,ht,e⟩:=List.mem_map.1 (e3.mem_iff.1 hy);exact⟨t,ht,e.symm⟩
    have hpL:∀t∈p,t∈L:=fun t ht=>by rw[←e1];simp[ht]
    obtain⟨k,k1,k2,k3⟩:=XV hN (m:=Ay l x) (by rw[IR];omega) (out:=m) (fun y hy=>by
     obtain⟨t,ht,rfl⟩:=hmm y hy;have:=(hg t (hpL t ht)).len
     rw[IR];omega) (by omega) e2 (fun y hy e=>by
     obtain⟨t,ht,rfl⟩:=hmm y hy;have hxt:=ME hl hc (hg x hx).wf (hg t (hpL t ht)).wf (Pj e);subst hxt
     rw[←e1,List.nodup_append]at hn
     exact hn.2.2 x ht x (by simp) rfl)
    refine⟨_,?_,p++[x],by simpa using e1,k3,?_⟩
    ·rw[Vt hN (by omega) (hg x hx).wf];simp only[Option.bind_some];rw[k2];simp only[Option.bind_some];rw[Ts k1,Ss k1];simp only[Option.bind_some];rw[M6 (by simp;omega),M6 (by simp;omega)];simp only[Option.bind_some];rw[M6 (by simp;omega)];rfl
    rw[List.map_append,List.map_cons,List.map_nil];refine List.Perm.trans ?_ (e3.append_right _);rw[List.append_assoc];refine(List.perm_append_comm.append_left _).trans ?_
    rw[←List.append_assoc,List.take_append_drop]) (l:=L) (s:=[]) ⟨[],rfl,List.Pairwise.nil,.refl _⟩
  rw[h1];simp only[Option.bind_some]
  rw[List.append_nil]at h2
  exact⟨s',rfl,h3,by rw[←h2];exact h4⟩
 ·intro m i x hx hi;have e:ar .add .i64 (i:Int) 1=i+1:=C4 (by omega) (by omega);have c1:cmp .lss (i:Int) (Ar.len L)=true:=U2 (by rw[A9];exact hi);simp only[c1,if_true,C5,hx,Option.bind_some,e]
  cases Z5 N l x with
  |none=>rfl
  | some q=>
   simp only[Option.bind_some]
   generalize (loopN
    (fun(s8:Int)=>
     (
      if cmp .gtr s8 0=true then
       (Xk (YL m (ar .sub .i64 s8 1))).bind fun _=>
       (B6 m (ar .sub .i64 s8 1)).bind fun x10=>
       (M8 N q x10).bind fun r11=>
       if cmp .lss r11 0=true then
        some (.inl (ar .sub .i64 s8 1))
       else
        some (.inr s8)
      else
       some (.inr s8)
      :Option ((Int) ⊕ (Int))))
    N (Ar.len m))=lo
   cases lo with
   |none=>rfl
   | some s9=>
    simp only[Option.bind_some]
    cases N4 m (some s9) none none with
    |none=>rfl
    | some a=>
     simp only[Option.bind_some]
     cases I3 [] a with
     |none=>rfl
     | some b=>
      simp only[Option.bind_some]
      cases N4 m none (some s9) none with
      |none=>rfl
      | some c=>
       simp only[Option.bind_some]
       cases I3 c [q]with
       |none=>rfl
       |some d=>
        simp only[Option.bind_some];cases I3 d b<;>rfl
 intro s;simp[C1,A9]
end
end Go.Ab
namespace Go.Ab
open Classical
noncomputable section
theorem Fg (p:A1):(A1.pres p.cP).length+1=p.pre.length:=by rw[A1.pre_eq p];simp
theorem Wd {N:Nat} (hN:40000000≤N):∀(n:Nat) (p:A1),p.pre.length≤n→p.pre.length≤16777216→T9 N n p=some (Fa p:Int):=by
 intro n
 induction n with
 |zero=>intro p h;have:=Fg p;omega
 | succ n ih=>
  intro p h hb;have hp:=Fg p;have hal:=BF p;unfold T9
  have h0:((if cmp .eql p.Op 0=true then some 1 else some 0:Option Int))=some (if p.Op=0 then 1 else 0):=by
   rw[B8]
   by_cases h:p.Op=0<;>simp[h]
  rw[h0];simp only[Option.bind_some];rw[F2 p.cP (by omega) (mk:=fun(s:Int) i=>(s,i)) (body:=fun s q=>(T9 N n q).bind fun r=>some (.inl (ar .add .i64 s r))) (fin:=fun s=>s) (s:=if p.Op=0 then 1 else 0) (by omega) ?_ ?_]
  ·obtain⟨s',h1,q,h2,h3⟩:=W5 (R:=Int) (step:=fun(s:Int) q=>(T9 N n q).bind fun r=>some (.inl (ar .add .i64 s r)))
    (fun r s=>∃q,q++r=p.cP∧s=((if p.Op=0 then 1 else 0:Int)+((A1.pres q).countP fun y=>decide (y.Op=0):Nat))) (fun x r s ⟨q,e1,e2⟩=>by
     have hx:x∈p.cP:=by rw[←e1];simp
     have hxl:=O9 hx
     have hq:(A1.pres q).length≤(A1.pres p.cP).length:=by rw[←e1,BW];simp
     have hc:=List.countP_le_length (p:=fun y:A1=>decide (y.Op=0)) (l:=A1.pres q);have hc2:=List.countP_le_length (p:=fun y:A1=>decide (y.Op=0)) (l:=x.pre);rw[ih x (by omega) (by omega)];refine⟨_,rfl,q++[x],by simpa using e1,?_⟩;have he:(Fa x:Int)=((x.pre.countP fun y=>decide (y.Op=0):Nat):Int):=rfl;rw[e2,BW,List.countP_append]
     have:A1.pres [x]=x.pre:=by simp[A1.pres]
     rw[this,he,C4 (by split<;>omega) (by split<;>omega)]
     omega) (l:=p.cP) (s:=if p.Op=0 then 1 else 0) ⟨[],rfl,by simp[A1.pres]⟩
   rw[h1];simp only[Option.bind_some]
   rw[List.append_nil]at h2
   rw[h3,h2,Fp]
   by_cases h:p.Op=0<;>simp[h]
  ·intro s i x hx hi;have e:ar .add .i64 (i:Int) 1=i+1:=C4 (by omega) (by omega);simp only[C1,A9,hi,decide_true,if_true,C5,hx,Option.bind_some,e];cases T9 N n x<;>rfl
  intro s;simp[C1,A9]
theorem QS (f:A1→Bool):∀r:List A1,(A1.pres r).any f=r.any fun x=>x.pre.any f
 |[]=>rfl
 |a::r=>by simp only[A1.pres,List.any_append,any_cons,QS f r]
theorem ZR {N:Nat} (hN:40000000≤N):∀(n:Nat) (p:A1),p.pre.length≤n→p.pre.length≤16777216→Y8 N n p=some (p.pre.any fun y=>decide (y.Op=4)):=by
 intro n
 induction n with
 |zero=>intro p h;have:=Fg p;omega
 | succ n ih=>
  intro p h hb;have hp:=Fg p;have hal:=BF p;unfold Y8;rw[A1.pre_eq p,any_cons]
  by_cases h4:p.Op=4
  ·rw[if_pos (by rw[B8];exact decide_eq_true h4)];simp[h4]
  rw[if_neg (by rw[B8];simpa using h4)]
  rw [BY (l:=p.cP) (fun x=>x.pre.any fun y=>decide (y.Op=4)) (by omega) (by omega) (fun i x hx hi=>by
      have hm:=List.mem_of_getElem? hx;have hxl:=O9 hm;have e:ar .add .i64 (i:Int) 1=i+1:=C4 (by omega) (by omega);simp only[C1,A9,hi,decide_true,if_true,C5,hx,Option.bind_some,e,ih x (by omega) (by omega)]
      split<;>rfl) (by simp[C1,A9])]
  rw[QS];simp only[h4,decide_false,Bool.false_or]
  by_cases ha:(p.cP.any fun x=>x.pre.any fun y=>decide (y.Op=4))=true
  ·rw[if_pos ha,ha];rfl
  rw[if_neg ha]
  rw[Bool.not_eq_true]at ha
  rw[ha];rfl
theorem QT {N:Nat} (hN:40000000≤N) {b n:Nat} (hb:b≤20000000) (hn:n≤20000000):∃r,BQ N (b:Int) (n:Int) 1500=some r∧(r≤1500→r=((b ^ n:Nat):Int)):=by
 unfold BQ
 have key:∀(k i M:Nat) (out:Int),i+k=n→k<M→out=((b ^ i:Nat):Int)→out≤30000000000→∃r,loopN
  (fun(s1:Int×Int)=>
   (
    if an (cmp .lss s1.2 (n:Int)) (cmp .leq s1.1 1500)=true then
     some (.inl (ar .mul .i64 s1.1 (b:Int),ar .add .i64 s1.2 1))
    else
     some (.inr s1.1)
    :Option ((Int×Int) ⊕ (Int))))
  M (out,(i:Int))=some r∧(r≤1500→r=((b ^ n:Nat):Int)):=by
  intro k
  induction k with
  |zero=>
   intro i M out hi hM ho _;obtain⟨M,rfl⟩:∃m,M=m+1:=⟨M - 1,by omega⟩;refine⟨out,?_,fun _=>by rw[ho,show i=n by omega]⟩;unfold loopN
   dsimp only
   rw[if_neg (by simp only[K1,C1];simp;omega)]
  | succ k ih=>
   intro i M out hi hM ho hs;obtain⟨M,rfl⟩:∃m,M=m+1:=⟨M - 1,by omega⟩
   have h0:0≤out:=by rw[ho];omega
   by_cases hle:out≤1500
   ·have hmul:out*(b:Int)≤1500*20000000:=Int.mul_le_mul hle (by omega) (by omega) (by omega);have hmul0:0≤out*(b:Int):=Int.mul_nonneg h0 (by omega);have em:ar .mul .i64 out (b:Int)=out*(b:Int):=An (by omega) (by omega);have e:ar .add .i64 (i:Int) 1=i+1:=C4 (by omega) (by omega);obtain⟨r,h1,h2⟩:=ih (i+1) M (out*(b:Int)) (by omega) (by omega) (by rw[ho,Nat.pow_succ];simp) (by omega);refine⟨r,?_,h2⟩;unfold loopN
    dsimp only
    rw[if_pos (by simp only[K1,C1,Bg];simp;omega),em,e,show((i:Int)+1)=((i+1:Nat):Int) by omega];exact h1
   refine⟨out,?_,fun h=>absurd h hle⟩;unfold loopN
   dsimp only
   rw[if_neg (by simp only[K1,C1,Bg];simp;omega)]
 obtain⟨r,h1,h2⟩:=key n 0 N 1 (by omega) (by omega) (by simp) (by omega);have h0:((0:Nat):Int)=0:=rfl
 rw[h0]at h1
 exact⟨r,by rw[h1];rfl,h2⟩
theorem WT {N:Nat} (hN:40000000≤N) {p:A1} (hb:p.bulk≤16777216) {l:List A8} (hlb:l.length≤16777216):∃b,Db N p l=some b∧(b=true→l.length≤10∧((Fa p+1) ^ l.length≤1500∨(CQ p∧l.length ^ Fa p≤1500))):=by
 obtain⟨few,hf⟩:=few9 hN hb;have hpb:=El p;have hev:Fa p≤p.pre.length:=List.countP_le_length;unfold Db;rw[hf];simp only[Option.bind_some]
 by_cases h1:Ar.or (nt few) (cmp .gtr (Ar.len l) 10)=true
 ·rw[if_pos h1];exact⟨false,rfl,fun h=>by cases h⟩
 rw[if_neg h1]
 have hl:l.length≤10:=by
  simp only[I9,N5,Q2,A9]at h1
  simp at h1
  omega
 rw[BY (l:=l) (fun x=>cmp .gtr (Ar.len x.Values) 9) (by omega) (by omega) (fun i x hx hi=>by
  have e:ar .add .i64 (i:Int) 1=i+1:=C4 (by omega) (by omega);rw[if_pos (P9 hi),C5,hx];simp only[Option.bind_some,e]
  split<;>rfl) (by rw[if_neg S9])]
 simp only[Option.bind_some]
 by_cases h2:(l.any fun x=>cmp .gtr (Ar.len x.Values) 9)=true
 ·rw[if_pos h2];exact⟨false,rfl,fun h=>by cases h⟩
 rw[if_neg h2]
 dsimp only
 rw[Wd hN N p (by omega) (by omega),ZR hN N p (by omega) (by omega)];simp only[Option.bind_some];obtain⟨r1,h3,h4⟩:=QT hN (b:=Fa p+1) (n:=l.length) (by omega) (by omega);obtain⟨r2,h5,h6⟩:=QT hN (b:=l.length) (n:=Fa p) (by omega) (by omega);rw[C4 (a:=(Fa p:Int)) (by omega) (by omega),show((Fa p:Int)+1)=((Fa p+1:Nat):Int) by omega,A9,h3];simp only[Option.bind_some]
 by_cases h7:r1≤1500
 ·rw[if_pos (show cmp .leq r1 1500=true from decide_eq_true h7)];exact⟨true,rfl,fun _=>⟨hl,.inl (by have:=h4 h7;omega)⟩⟩
 rw[if_neg (show¬(cmp .leq r1 1500=true) by rw[Bg];simpa using h7)]
 cases hp:p.pre.any fun y=>decide (y.Op=4)with
 |true=>
  rw[if_neg (show¬nt true=true by decide)];exact⟨false,rfl,fun h=>by cases h⟩
 | false=>
  rw[if_pos (show nt false=true from rfl),h5];refine⟨decide (r2≤1500),rfl,fun h=>⟨hl,.inr ⟨fun y hy e=>?_,?_⟩⟩⟩
  ·rw[List.any_eq_false]at hp
   exact hp y hy (decide_eq_true e)
  have h8:=of_decide_eq_true h;have:=h6 h8;omega
theorem Af4 {p:A1}{l:List A8}(hp:p.pre.length≤64)(hs:(Fa p+1) ^ l.length≤1500∨(CQ p∧l.length ^ Fa p≤1500)):Ji l.length p:=by
 rcases hs with h|⟨h1,h2⟩
 ·exact .inl h
 by_cases h3:2≤l.length
 ·exact .inr ⟨h1,h3,h2⟩
 left
 have hev:Fa p≤p.pre.length:=List.countP_le_length
 have:l.length=0∨l.length=1:=by omega
 rcases this with h|h<;>rw[h]<;>simp<;>omega
theorem XF {p:A1}{l:List A8}(hp:p.pre.length≤64)(hl:l.length≤10):mu l p 0≤1000:=by
 unfold mu;have:=Nat.mul_le_mul hp (show l.length+2≤12 by omega);omega
theorem Ms (l:List A8):Iv l [] ((0:Nat):Int):=⟨Gd.nil l,fun _ h=>absurd h List.not_mem_nil,by omega,by omega⟩
theorem Aa5 {N:Nat} (hN:40000000≤N) {p:A1} (hb:p.bulk≤16777216) {l:List A8} (hl:l.length≤10) (hs:(Fa p+1) ^ l.length≤1500∨(CQ p∧l.length ^ Fa p≤1500)):
 ∃r e,M4 N p l=some (r,e)∧Fk N p l=some (r,e)∧(∀x∈r,x.cQ.length≤10)∧r.length≤1500∧(e=0→RI N p=0∧Nc l=0∧PO r∧∃L:List (List PR),L.Nodup∧(∀s,s∈L↔Sm l p [] 0 s)∧r.Perm (L.map (Ay l)))∧(e≠0→r=[])∧BS N p l=some e:=by
 unfold M4 Fk BS;rw[VD hN hb,Vy hN hb];simp only[Option.bind_some]
 by_cases h1:RI N p=0
 ·rw [if_neg (H9 h1),if_neg (H9 h1),Zc hN,Zj hN];simp only[Option.bind_some]
  by_cases h2:Nc l=0
  ·rw[if_neg (H9 h2),if_neg (H9 h2)];obtain⟨hw,hp⟩:=UP hN hb h1;have hsm:=Af4 hp hs;have hmu:=XF hp hl;obtain⟨L1,a1,a2,a3⟩:=Vq hN hl 1000 p [] 0 N hmu (by omega) hp hw hsm (Ms l);obtain⟨L2,b1,b2,b3⟩:=(Af6 hN hl 1000 p [] 0 N hmu (by omega) hp hw hsm (Ms l)).1;have hcL1:=Fs hw hsm (Ms l) a2 fun s h=>(a3 s).1 h;have hcL2:=KE hw hsm (Ms l) ⟨b2,fun s h=>(b3 s).1 h⟩;have hres:∀s∈L2,Kd l 0 s:=fun s h=>((b3 s).1 h).res hw (Ms l);obtain⟨r,r1,r2,r3⟩:=Zk hN hl h2 hcL2 b2 (fun s h=>(hres s h).gd) b1
   have hperm:(L1.map H6).Perm L2:=by
    refine(List.perm_ext_iff_of_nodup ?_ b2).2 fun s=>?_
    ·rw[List.Nodup,List.pairwise_map];exact a2.imp fun hne e=>hne (HQ e)
    rw[b3,List.mem_map]
    constructor
    ·rintro⟨t,ht,rfl⟩;exact(a3 t).1 ht
    intro h;exact⟨s.map Ju,(a3 _).2 (by rw[P7];exact h),P7 s⟩
   have hrl:r.length≤1500:=by have:=r3.length_eq;rw[List.length_map]at this;omega
   have hrb:∀x∈r,x.cQ.length≤10:=fun x hx=>by
    obtain⟨t,ht,rfl⟩:=List.mem_map.1 (r3.mem_iff.1 hx);have:=(hres t ht).gd.len;rw[IR];omega
   have h00:((0:Nat):Int)=0:=rfl
   rw[h00]at a1
   refine⟨r,0,?_,by rw[r1];rfl,hrb,hrl,fun _=>⟨h1,h2,r2,L2,b2,b3,r3⟩,fun h=>absurd rfl h,by rw[h2]⟩;rw[a1];simp only[Option.bind_some]
   rw[(FD (L:=L1) (N:=N) (fun(m:List D0) i=>(i,m)) (fun m s=>m++[Ay l (H6 s)]) (fun m=>m) (fun i m=>m.length=i) (by omega) (by omega) rfl (fun m i s hs' hi hm e hl=>by
    have gs:=(((a3 s).1 hm).res hw (Ms l)).gd;have hsl:=gs.len
    rw[List.length_map]at hsl
    rw[if_pos (P9 hi),C5,hs'];simp only[Option.bind_some]
    rw[(FD (L:=s) (N:=N) (fun(m:D0) i=>(i,m)) (fun m x=>⟨m.cQ++[⟨x.cU,KU l x.at_⟩]⟩) (fun m=>m) (fun i m=>m.cQ.length=i) (by omega) (by omega) rfl (fun m i x hx hi hm e hl=>by
     have hw:=gs.wf (pr x) (List.mem_map.2 ⟨x,hm,rfl⟩);obtain⟨e',h1,h2⟩:=Ua (l:=l) (i:=x.at_) hw.2.1 hw.2.2;rw[if_pos (P9 hi),C5,hx];simp only[Option.bind_some];rw[h1];simp only[Option.bind_some,CJ];rw[M6 (by simp;omega),e,h2]
     exact⟨rfl,by simp[hl]⟩) (fun m=>by dsimp only;rw[if_neg S9])).1,Jb]
    simp only[Option.bind_some,List.nil_append];rw[M6 (by simp;omega),e];refine⟨?_,by simp[hl]⟩;simp only[Option.bind_some,Ay,H6,List.map_map]
    rfl) (fun m=>by dsimp only;rw[if_neg S9])).1]
   have hf:∀(L:List (List BD)) (m:List D0),L.foldl (fun m s=>m++[Ay l (H6 s)]) m=m++L.map fun s=>Ay l (H6 s):=fun L=>by
    induction L with
    |nil=>intro m;simp
    |cons a L ih=>intro m;rw[List.foldl_cons,ih];simp
   rw[hf,List.nil_append];simp only[Option.bind_some];rw[Af3 hN (r:=r) ?_ r2 (fun x hx=>by have:=hrb x hx;omega) (by simp;omega)]
   ·rfl
   have:=(hperm.map (Ay l))
   rw[List.map_map]at this
   exact r3.trans this.symm
  rw[if_pos (I7 h2),if_pos (I7 h2)];exact⟨[],_,rfl,rfl,by simp,by simp,fun h=>absurd h h2,fun _=>rfl,rfl⟩
 simp only[I7 h1,if_true,Option.bind_some];exact⟨[],_,rfl,rfl,by simp,by simp,fun h=>absurd h h1,fun _=>rfl,rfl⟩
end
end Go.Ab
namespace Go.Ab
open Classical
noncomputable section
def KJ (m:List D1)(i:Nat):Int:=
 match m[i]? with
 |none=>0
 |some x=>if(decide (0≤x.Var)&&decide (x.Var≤15)&&(decide (0≤x.Ref.Time)&&decide (x.Ref.Time≤1099511627776)&&(decide (0≤x.Ref.Source)&&decide (x.Ref.Source≤7))&&(decide (0≤x.Ref.Seq)&&decide (x.Ref.Seq≤1099511627776))))=false then 2 else if 0<i∧0≤J3 (BA ((m[i - 1]?).getD x).Ref) (BA x.Ref)then 14 else 0
def Yr (m:List D1):Int:=if m.length=0 then 15 else if 4096<m.length then 5 else P5 (KJ m) (List.range m.length)
theorem NY {N:Nat} (hN:40000000≤N) {m:List D1} (hm:m.length≤4096) {step:Int→Option (Int ⊕ (Unit ⊕ Int))} (hs:∀i,i<m.length→step (i:Int)=some (if KJ m i=0 then .inl ((i:Int)+1)else .inr (.inr (KJ m i)))) (he:step (m.length:Int)=some (.inr (.inl ()))):
 ((loopN step N 0).bind fun s2=>match s2 with| .inl _=>some 0| .inr y=>some y)=some (P5 (KJ m) (List.range m.length)):=by
 have hr:(List.range m.length).length=m.length:=List.length_range;rw[F2 (List.range m.length) (by omega) (mk:=fun(_:Unit) i=>i) (body:=Y3 fun i=>some (KJ m i)) (fin:=fun _=>.inl ()) (s:=()) (by omega) ?_ ?_]
 ·rw[V0 (F:=fun i=>some (KJ m i)) (f:=KJ m) fun x _=>rfl]
  by_cases h:P5 (KJ m) (List.range m.length)=0
  ·rw[if_pos h,h];rfl
  rw[if_neg h];rfl
 ·intro s i x hx hi
  have hil:i<m.length:=by omega
  rw[List.getElem?_range hil]at hx
  cases hx;rw[hs i hil];unfold Y3;simp only[Option.bind_some]
  by_cases h:KJ m i=0
  ·rw[if_pos h,if_neg (H9 h)];rfl
  rw[if_neg h,if_pos (I7 h)];rfl
 intro s;rw[hr];exact he
theorem ZI {N:Nat} (hN:40000000≤N) {m:List D1} (hm:m.length≤1000000):Dk N ⟨m⟩=some (Yr m):=by
 unfold Dk Yr
 dsimp only
 by_cases h0:m.length=0
 ·rw[if_pos (by rw[B8,A9];exact decide_eq_true (by omega)),if_pos h0]
 rw[if_neg (by rw[B8,A9];simp;intro e;exact h0 (by rw[e];rfl)),if_neg h0]
 by_cases h1:4096<m.length
 ·rw[if_pos (R3 (by rw[A9];omega)),if_pos h1]
 rw[if_neg (N2 (by rw[A9];omega)),if_neg h1];refine NY hN (by omega) (fun i hi=>?_) (by rw[if_neg (P1 (by rw[A9];exact Int.lt_irrefl _))]);have e:ar .add .i64 (i:Int) 1=i+1:=C4 (by omega) (by omega)
 have hb:KJ m i=if(decide (0≤m[i].Var)&&decide (m[i].Var≤15)&&(decide (0≤m[i].Ref.Time)&&decide (m[i].Ref.Time≤1099511627776)&&(decide (0≤m[i].Ref.Source)&&decide (m[i].Ref.Source≤7))&&(decide (0≤m[i].Ref.Seq)&&decide (m[i].Ref.Seq≤1099511627776))))=false then 2 else if 0<i∧0≤J3 (BA ((m[i - 1]?).getD m[i]).Ref) (BA m[i].Ref)then 14 else 0:=by
  unfold KJ;rw[List.getElem?_eq_getElem hi]
 rw[if_pos (U2 (by rw[A9];omega)),C5,List.getElem?_eq_getElem hi];simp only[Option.bind_some,Ai,e,K1,J1,Bg,N5];rw[hb]
 have hlast:(if cmp .gtr (i:Int) 0=true then
  (B6 m (ar .sub .i64 (i:Int) 1)).bind fun x9=>(BJ N x9.Ref m[i].Ref).bind fun r10=>if decide (0≤r10)=true then some (Sum.inr (Sum.inr 14))else some (.inl ((i:Int)+1))
  else some (.inl ((i:Int)+1)):Option (Int ⊕ (Unit ⊕ Int)))=some (if 0<i∧0≤J3 (BA ((m[i - 1]?).getD m[i]).Ref) (BA m[i].Ref)then .inr (.inr 14)else .inl ((i:Int)+1)):=by
  by_cases hi0:0<i
  ·have e1:ar .sub .i64 (i:Int) 1=((i - 1:Nat):Int):=by rw[DG (by omega) (by omega)];omega
   have hi1:i - 1<m.length:=by omega
   rw[if_pos (R3 (by omega)),e1,C5,List.getElem?_eq_getElem hi1];simp only[Option.bind_some,Option.getD_some];rw[TY hN];simp only[Option.bind_some,decide_eq_true_eq]
   by_cases h2:0≤J3 (BA m[i - 1].Ref) (BA m[i].Ref)
   ·rw[if_pos h2,if_pos ⟨hi0,h2⟩]
   rw[if_neg h2,if_neg (fun h=>h2 h.2)]
  rw[if_neg (N2 (by omega)),if_neg (fun h=>hi0 h.1)]
 rw[hlast];generalize (decide (0≤m[i].Var)&&decide (m[i].Var≤15))=a1;generalize (decide (0≤m[i].Ref.Time)&&decide (m[i].Ref.Time≤1099511627776))=a2;generalize (decide (0≤m[i].Ref.Source)&&decide (m[i].Ref.Source≤7))=a3;generalize (decide (0≤m[i].Ref.Seq)&&decide (m[i].Ref.Seq≤1099511627776))=a4
 by_cases hC:0<i∧0≤J3 (BA ((m[i - 1]?).getD m[i]).Ref) (BA m[i].Ref)
 ·simp only[if_pos hC];cases a1<;>cases a2<;>cases a3<;>cases a4<;>simp
 simp only[if_neg hC];cases a1<;>cases a2<;>cases a3<;>cases a4<;>simp
theorem Xe {N:Nat} (hN:40000000≤N) {m:List D1} (hm:m.length≤1000000):De N ⟨m⟩=some (Yr m):=by
 unfold De Yr
 dsimp only
 by_cases h0:m.length=0
 ·rw[if_pos (by rw[B8,A9];exact decide_eq_true (by omega)),if_pos h0]
 rw[if_neg (by rw[B8,A9];simp;intro e;exact h0 (by rw[e];rfl)),if_neg h0]
 by_cases h1:4096<m.length
 ·rw[if_pos (R3 (by rw[A9];omega)),if_pos h1]
 rw[if_neg (N2 (by rw[A9];omega)),if_neg h1];refine NY hN (by omega) (fun i hi=>?_) (by rw[if_neg (P1 (by rw[A9];exact Int.lt_irrefl _))]);have e:ar .add .i64 (i:Int) 1=i+1:=C4 (by omega) (by omega)
 have hb:KJ m i=if(decide (0≤m[i].Var)&&decide (m[i].Var≤15)&&(decide (0≤m[i].Ref.Time)&&decide (m[i].Ref.Time≤1099511627776)&&(decide (0≤m[i].Ref.Source)&&decide (m[i].Ref.Source≤7))&&(decide (0≤m[i].Ref.Seq)&&decide (m[i].Ref.Seq≤1099511627776))))=false then 2 else if 0<i∧0≤J3 (BA ((m[i - 1]?).getD m[i]).Ref) (BA m[i].Ref)then 14 else 0:=by
  unfold KJ;rw[List.getElem?_eq_getElem hi]
 rw[if_pos (U2 (by rw[A9];omega)),C5,List.getElem?_eq_getElem hi]
 have hp:Cg N m[i].Ref=some (decide (0≤m[i].Ref.Time)&&decide (m[i].Ref.Time≤1099511627776)&&(decide (0≤m[i].Ref.Source)&&decide (m[i].Ref.Source≤7))&&(decide (0≤m[i].Ref.Seq)&&decide (m[i].Ref.Seq≤1099511627776))):=by
  unfold Cg Ba;simp only[Option.bind_some,K1,J1,Bg,C1];have:decide (m[i].Ref.Source<8)=decide (m[i].Ref.Source≤7):=decide_eq_decide.2 (by omega);rw[this];simp only[Bool.and_assoc]
 have hv:Ar.or (cmp .lss m[i].Var 0) (cmp .geq m[i].Var 16)= !(decide (0≤m[i].Var)&&decide (m[i].Var≤15)):=by
  simp only[I9,C1,J1]
  by_cases h1:m[i].Var<0<;>by_cases h2:16≤m[i].Var<;>simp[h1,h2]<;>omega
 simp only[Option.bind_some,e];rw[hv,hp];simp only[Option.bind_some,N5];rw[hb]
 have hlast:(if cmp .gtr (i:Int) 0=true then
  (B6 m (ar .sub .i64 (i:Int) 1)).bind fun x9=>(Z8 N x9.Ref m[i].Ref).bind fun r10=>if cmp .geq r10 0=true then some (Sum.inr (Sum.inr 14))else some (.inl ((i:Int)+1))
  else some (.inl ((i:Int)+1)):Option (Int ⊕ (Unit ⊕ Int)))=some (if 0<i∧0≤J3 (BA ((m[i - 1]?).getD m[i]).Ref) (BA m[i].Ref)then .inr (.inr 14)else .inl ((i:Int)+1)):=by
  by_cases hi0:0<i
  ·have e1:ar .sub .i64 (i:Int) 1=((i - 1:Nat):Int):=by rw[DG (by omega) (by omega)];omega
   have hi1:i - 1<m.length:=by omega
   rw[if_pos (R3 (by omega)),e1,C5,List.getElem?_eq_getElem hi1];simp only[Option.bind_some,Option.getD_some,Mt]
   by_cases h2:0≤J3 (BA m[i - 1].Ref) (BA m[i].Ref)
   ·rw[if_pos (show cmp .geq (J3 (BA m[i - 1].Ref) (BA m[i].Ref)) 0=true by rw[J1];exact decide_eq_true h2),if_pos ⟨hi0,h2⟩]
   rw[if_neg (show¬cmp .geq (J3 (BA m[i - 1].Ref) (BA m[i].Ref)) 0=true by rw[J1];simpa using h2),if_neg (fun h=>h2 h.2)]
  rw[if_neg (N2 (by omega)),if_neg (fun h=>hi0 h.1)]
 rw[hlast];generalize (decide (0≤m[i].Var)&&decide (m[i].Var≤15))=a1;generalize (decide (0≤m[i].Ref.Time)&&decide (m[i].Ref.Time≤1099511627776)&&(decide (0≤m[i].Ref.Source)&&decide (m[i].Ref.Source≤7))&&(decide (0≤m[i].Ref.Seq)&&decide (m[i].Ref.Seq≤1099511627776)))=a2
 by_cases hC:0<i∧0≤J3 (BA ((m[i - 1]?).getD m[i]).Ref) (BA m[i].Ref)
 ·simp only[if_pos hC];cases a1<;>cases a2<;>simp
 simp only[if_neg hC];cases a1<;>cases a2<;>simp
theorem YB {N:Nat} (hN:40000000≤N) {r:List D0} (hr:r.length≤1000000) (hb:∀x∈r,x.cQ.length≤1000000) {m:D0} (hm:m.cQ.length≤1000000):Dc N r m=some (decide (m∈r)):=by
 unfold Dc
 rw [BY (l:=r) (fun x=>decide (x=m)) (by omega) (by omega) (fun i x hx hi=>by
     have e:ar .add .i64 (i:Int) 1=i+1:=C4 (by omega) (by omega);have hmx:=List.mem_of_getElem? hx;rw[if_pos (P9 hi),C5,hx];simp only[Option.bind_some];rw[OX hN (hb x hmx) hm];simp only[Option.bind_some,e]
     by_cases h:x=m
     ·rw[if_pos (by rw[B8,h,LH];rfl),if_pos (decide_eq_true h)]
     rw[if_neg (by rw[B8];simp;intro e;exact h (by cases x;cases m;have:=Pj e;dsimp only at this;rw[this])),if_neg (by simpa using h)]) (by rw[if_neg S9])]
 have hiff:(r.any fun x=>decide (x=m))=decide (m∈r):=by rw[Bool.eq_iff_iff];simp
 rw[hiff]
 by_cases hs:m∈r
 ·rw[if_pos (decide_eq_true hs),decide_eq_true hs];rfl
 rw[if_neg (by simpa using hs),decide_eq_false hs];rfl
theorem ZX {a b:Nat} (h:a+b<1000000):wr .i64 (sh .shr .u64 (wr .u64 (ar .add .i64 (a:Int) (b:Int))) 1)=(((a+b) / 2:Nat):Int):=by
 have hw:∀{n:Int},0≤n→n<1000000→IntKind.wrap .u64 n=n:=fun{n} h0 h1=>by
  have e:IntKind.wrap .u64 n=n % 18446744073709551616:=by
   unfold IntKind.wrap;simp[IntKind.bits,IntKind.signed]
  rw[e];omega
 rw[C4 (by omega) (by omega)]
 show IntKind.wrap .i64 (shI .shr .u64 (IntKind.wrap .u64 ((a:Int)+b)) 1)=_
 rw[hw (by omega) (by omega)]
 have e:shI .shr .u64 ((a:Int)+b) 1=((a:Int)+b) / 2:=by
  show((a:Int)+b).fdiv (2 ^ (min (1:Int).toNat 64))=_
  rw[show(2:Int) ^ (min (1:Int).toNat 64)=2 from rfl,Int.fdiv_eq_ediv_of_nonneg _ (by decide)]
 rw[e,An (by omega) (by omega)];omega
theorem Ai6 {n:Nat} {c:Nat→Bool} (hc:∀i j,i<j→j<n→c j=true→c i=true) {step:Int×Int→Option ((Int×Int) ⊕ Int)}
 (hs:∀i j:Nat,i<j→j≤n→step ((i:Int),(j:Int))=some (.inl (if c ((i+j) / 2)=true then((((i+j) / 2+1:Nat):Int),(j:Int))else((i:Int),(((i+j) / 2:Nat):Int)))))
 (he:∀i:Nat,step ((i:Int),(i:Int))=some (.inr (i:Int))):∀(k i j M:Nat),j - i≤k→i≤j→j≤n→k<M→(∀m,m<i→c m=true)→(∀m,j≤m→m<n→c m=false)→
 ∃r:Nat,r≤n∧(∀m,m<r→c m=true)∧(∀m,r≤m→m<n→c m=false)∧loopN step M ((i:Int),(j:Int))=some (r:Int):=by
 intro k
 induction k with
 |zero=>
  intro i j M h1 h2 h3 h4 h5 h6;obtain⟨M,rfl⟩:∃m,M=m+1:=⟨M - 1,by omega⟩
  have:i=j:=by omega
  subst this;exact⟨i,h3,h5,h6,by unfold loopN;rw[he]⟩
 | succ k ih=>
  intro i j M h1 h2 h3 h4 h5 h6;obtain⟨M,rfl⟩:∃m,M=m+1:=⟨M - 1,by omega⟩
  by_cases hij:i<j
  ·have key:∀(i' j':Nat),step ((i:Int),(j:Int))=some (.inl ((i':Int),(j':Int)))→j' - i'≤k→i'≤j'→j'≤n→(∀m,m<i'→c m=true)→(∀m,j'≤m→m<n→c m=false)→
    ∃r:Nat,r≤n∧(∀m,m<r→c m=true)∧(∀m,r≤m→m<n→c m=false)∧loopN step (M+1) ((i:Int),(j:Int))=some (r:Int):=by
    intro i' j' e a1 a2 a3 a4 a5;obtain⟨r,r1,r2,r3,r4⟩:=ih i' j' M a1 a2 a3 (by omega) a4 a5;exact⟨r,r1,r2,r3,by unfold loopN;rw[e];exact r4⟩
   have hst:=hs i j hij h3
   by_cases hm:c ((i+j) / 2)=true
   ·rw[if_pos hm]at hst
    refine key _ _ hst (by omega) (by omega) h3 (fun m hl=>?_) h6
    by_cases e:m=(i+j) / 2
    ·rw[e];exact hm
    exact hc m _ (by omega) (by omega) hm
   rw[if_neg hm]at hst
   refine key _ _ hst (by omega) (by omega) (by omega) h5 fun m hl hn=>?_
   rw[Bool.not_eq_true]at hm
   by_cases e:m=(i+j) / 2
   ·rw[e];exact hm
   cases hh:c m with
   |false=>rfl
   |true=>rw[hc _ m (by omega) hn hh]at hm;cases hm
  have:i=j:=by omega
  subst this;exact⟨i,h3,h5,h6,by unfold loopN;rw[he]⟩
theorem Yt {r:List D0} (ha:PO r) {m:D0} {k:Nat} (h1:∀i (h:i<r.length),i<k→mO r[i].cQ m.cQ<0) (h2:∀i (h:i<r.length),k≤i→¬mO r[i].cQ m.cQ<0):
 m∈r↔∃h:k<r.length,mO r[k].cQ m.cQ=0:=by
 constructor
 ·intro hm;obtain⟨i,hi,e⟩:=List.getElem_of_mem hm
  have hik:k≤i:=by
   rcases Nat.lt_or_ge i k with h|h
   ·have:=h1 i hi h
    rw[e,LH]at this;omega
   exact h
  refine⟨by omega,?_⟩
  rcases Nat.lt_or_ge k i with h|h
  ·have h3:=List.pairwise_iff_getElem.1 ha k i (by omega) hi h
   rw[e]at h3
   exact absurd h3 (h2 k (by omega) (Nat.le_refl _))
  have:i=k:=by omega
  subst this;rw[e,LH]
 rintro⟨h,e⟩;have:=Pj e
 have:r[k]=m:=by
  cases hr:r[k]with
  |mk b=>rw[hr]at this;dsimp only at this;rw[this]
 rw[←this];exact List.getElem_mem h
theorem Ao3 {n:Nat} {c:Nat→Bool} (hc:∀i j,i<j→j<n→c j=true→c i=true) {step:Int×Int→Option ((Int×Int) ⊕ Int)} {M:Nat} (hM:n<M)
 (hs:∀i j:Nat,i<j→j≤n→step ((i:Int),(j:Int))=some (.inl (if c ((i+j) / 2)=true then((((i+j) / 2+1:Nat):Int),(j:Int))else((i:Int),(((i+j) / 2:Nat):Int)))))
 (he:∀i:Nat,step ((i:Int),(i:Int))=some (.inr (i:Int))):loopN step M (0,(n:Int))=some ((Classical.epsilon fun k:Nat=>k≤n∧(∀m,m<k→c m=true)∧∀m,k≤m→m<n→c m=false:Nat):Int)∧
  ∃k:Nat,(Classical.epsilon fun k:Nat=>k≤n∧(∀m,m<k→c m=true)∧∀m,k≤m→m<n→c m=false)=k∧k≤n∧(∀m,m<k→c m=true)∧∀m,k≤m→m<n→c m=false:=by
 obtain⟨r,r1,r2,r3,r4⟩:=Ai6 hc hs he n 0 n M (by omega) (by omega) (Nat.le_refl _) hM (fun m h=>absurd h (by omega)) fun m h1 h2=>absurd h2 (by omega);have sp:=Classical.epsilon_spec (p:=fun k:Nat=>k≤n∧(∀m,m<k→c m=true)∧∀m,k≤m→m<n→c m=false) ⟨r,r1,r2,r3⟩
 generalize (Classical.epsilon fun k:Nat=>k≤n∧(∀m,m<k→c m=true)∧∀m,k≤m→m<n→c m=false)=k at *
 obtain⟨s1,s2,s3⟩:=sp
 have:k=r:=by
  rcases Nat.lt_trichotomy k r with h|h|h
  ·have:=s3 k (Nat.le_refl _) (by omega);rw[r2 k h]at this;cases this
  ·exact h
  have:=r3 r (Nat.le_refl _) (by omega);rw[s2 r h]at this;cases this
 subst this;exact⟨r4,k,rfl,s1,s2,s3⟩
theorem Tz {N:Nat} (hN:40000000≤N) {r:List D0} (hr:r.length≤100000) (hb:∀x∈r,x.cQ.length≤1000000) (ha:PO r) {m:D0} (hm:m.cQ.length≤1000000):∃i,E2 N r m (fun y1 y2=>N8 N y1 y2)=some (i,decide (m∈r)):=by
 unfold E2
 have hgt:∀{i:Nat} (h:i<r.length),(match r[i]? with|some x=>decide (mO x.cQ m.cQ<0)|none=>false)=decide (mO r[i].cQ m.cQ<0):=fun{i} h=>by rw[List.getElem?_eq_getElem h]
 have ho:∀i j,i<j→j<r.length→(match r[j]? with|some x=>decide (mO x.cQ m.cQ<0)|none=>false)=true→(match r[i]? with|some x=>decide (mO x.cQ m.cQ<0)|none=>false)=true:=fun i j hij hj h=>by
  rw[hgt hj]at h
  rw[hgt (by omega)];exact decide_eq_true (MG (List.pairwise_iff_getElem.1 ha i j (by omega) hj hij) (of_decide_eq_true h))
 rw[A9]
 have hk:=fun hs he=>Ao3 (n:=r.length) (c:=fun i=>match r[i]? with|some x=>decide (mO x.cQ m.cQ<0)|none=>false) ho (M:=N) (by omega) (step:=fun(s1:Int×Int)=>
  (
   if cmp .lss s1.1 s1.2=true then
    (B6 r (wr .i64 (sh .shr .u64 (wr .u64 (ar .add .i64 s1.1 s1.2)) 1))).bind fun x3=>
    (N8 N x3 m).bind fun r4=>
    if cmp .lss r4 0=true then
     some (.inl (ar .add .i64 (wr .i64 (sh .shr .u64 (wr .u64 (ar .add .i64 s1.1 s1.2)) 1)) 1,s1.2))
    else
     some (.inl (s1.1,wr .i64 (sh .shr .u64 (wr .u64 (ar .add .i64 s1.1 s1.2)) 1)))
   else
    some (.inr s1.1)
   :Option ((Int×Int) ⊕ (Int)))) hs he
 obtain⟨e,k,ek,k1,k2,k3⟩:=hk (fun i j hij hj=>by
  have hm2:(i+j) / 2<r.length:=by omega
  have hmem:=List.getElem_mem hm2
  dsimp only
  rw[if_pos (U2 (by omega)),ZX (by omega),C5,List.getElem?_eq_getElem hm2];simp only[Option.bind_some];rw[JH hN (hb _ hmem) hm];simp only[Option.bind_some]
  by_cases hc:mO r[(i+j) / 2].cQ m.cQ<0
  ·rw[if_pos (U2 hc),if_pos (decide_eq_true hc),C4 (by omega) (by omega)];rfl
  rw[if_neg (P1 hc),if_neg (by simpa using hc)]) (fun i=>by dsimp only;rw[if_neg (P1 (by omega))])
 rw[ek]at e
 rw[e];simp only[Option.bind_some];have hf:=Yt ha (m:=m) (k:=k) (fun i hi h=>of_decide_eq_true (by have:=k2 i h;rw[hgt hi]at this;exact this)) (fun i hi h=>of_decide_eq_false (by have:=k3 i h hi;rw[hgt hi]at this;exact this))
 by_cases hkl:k<r.length
 ·have hmem:=List.getElem_mem hkl;rw[if_pos (U2 (by omega)),C5,List.getElem?_eq_getElem hkl];simp only[Option.bind_some];rw[JH hN (hb _ hmem) hm];refine⟨(k:Int),?_⟩;simp only[Option.bind_some,B8];refine congrArg (fun x=>some ((k:Int),x)) (decide_eq_decide.2 ?_);rw[hf];exact⟨fun h=>⟨hkl,h⟩,fun⟨_,h⟩=>h⟩
 rw[if_neg (P1 (by omega))];refine⟨(k:Int),congrArg (fun x=>some ((k:Int),x)) (decide_eq_false ?_).symm⟩;rw[hf];exact fun⟨h,_⟩=>hkl h
theorem VS {N:Nat} (hN:40000000≤N) (awake:BZ N=some true) {p:A1} (hb:p.bulk≤1048576) {l:List A8} (hl:l.length≤1048576) (m:D0):X5 N p l m=some true:=by
 unfold X5;obtain⟨b,h1,h2⟩:=WT hN (p:=p) (by omega) (l:=l) (by omega);rw[h1];simp only[Option.bind_some]
 by_cases hc:Ar.or (nt b) (cmp .gtr (Ar.len m.cQ) 20)=true
 ·rw[if_pos hc,awake];rfl
 rw[if_neg hc]
 simp only[I9,N5,Q2,A9,Bool.or_eq_true,Bool.not_eq_true',decide_eq_true_eq,not_or,Bool.not_eq_false]at hc
 obtain⟨hl10,hs⟩:=h2 hc.1;obtain⟨r,e,k1,k2,k3,k4,k5,k6,k7⟩:=Aa5 hN (show p.bulk≤16777216 by omega) hl10 hs;obtain⟨mb⟩:=m
 have hml:mb.length≤1000000:=by have:=hc.2;dsimp only at this;omega
 unfold Fk at k2
 unfold BG ES
 rw[k7]at k2 ⊢
 rw[k1]
 simp only[Option.bind_some]at k2 ⊢
 by_cases he:e=0
 ·subst he
  rw[if_neg (H9 rfl)]at k2 ⊢
  rw[if_neg (H9 rfl),ZI hN hml,Xe hN hml];simp only[Option.bind_some]
  by_cases hm0:Yr mb=0
  ·rw[if_neg (H9 hm0),if_neg (H9 hm0)]
   cases hr:CA N p l with
   |none=>rw[hr]at k2;cases k2
   |some q=>
    rw[hr]at k2
    simp only[Option.bind_some,Option.some.injEq,Prod.mk.injEq,and_true]at k2
    subst k2
    have hb10:∀x∈q,x.cQ.length≤1000000:=fun x hx=>by have:=k3 x hx;omega
    obtain⟨i,hi⟩:=Tz hN (r:=q) (by omega) hb10 (k5 rfl).2.2.1 (m:=⟨mb⟩) hml;rw[hi];simp only[Option.bind_some];rw[YB hN (by omega) hb10 (m:=⟨mb⟩) hml];simp only[Option.bind_some];rw[if_pos (by simp[K1,B8,beq]),awake];rfl
  rw[if_pos (I7 hm0),if_pos (I7 hm0)];simp only[Option.bind_some];rw[if_pos (by simp[K1,B8,beq]),awake];rfl
 rw[if_pos (I7 he),if_pos (I7 he)];simp only[Option.bind_some];rw[if_pos (by simp[K1,B8,beq]),awake];rfl
end
end Go.Ab
