/- GTW6 GTW7 GTW8 GTW9 GTX0 GTX1 GTX2 GTX3 -/
import Derived.Test.YtanbgjgaafeplaaGreatDoorG18
set_option linter.all false
open List (any_cons append_nil)
open Go.Ab.Ar (an ar cmp nt)
namespace Go.Ab
open Classical
noncomputable section
theorem EY {β σ τ:Type}{m:Option (List β×σ)}{f:σ→Option (List β×τ)}{w w':List β}{x:σ}{o:τ}(h1:m=some (w,x))(h2:f x=some (w',o)):N9 m f=some (w++w',o):=by
 unfold N9;rw[h1];simp only[Option.bind_some,h2]
theorem LP {α β R:Type} {body:Unit→α→Option (List β×(Unit ⊕ R))} {Q:α→β→Prop}:∀{L:List α},(∀x∈L,∃w,body () x=some (w,.inl ())∧∀s,s∈w↔Q x s)→∃W,Bl body L ()=some (W,.inl ())∧∀s,s∈W↔∃x∈L,Q x s
 |[],_=>⟨[],rfl,by simp⟩
 |x::L,h=>by
  obtain⟨w,h1,h2⟩:=h x (by simp);obtain⟨W,h3,h4⟩:=LP (L:=L) fun y hy=>h y (by simp[hy]);refine⟨w++W,by simp only[Bl,h1,h3],fun s=>?_⟩;rw[List.mem_append,h2,h4];simp
theorem NO {α β A:Type} {L:List α} {N:Nat} (hN:L.length<N) {step:Int→Option (List β×(Int ⊕ A))} {u:A} {Q:α→β→Prop}
 (hs:∀(i:Nat) x,L[i]? =some x→(i:Int)<L.length→x∈L→∃w,step (i:Int)=some (w,.inl ((i:Int)+1))∧∀s,s∈w↔Q x s) (he:step (L.length:Int)=some ([],.inr u)):∃W,V8 step N 0=some (W,u)∧∀s,s∈W↔∃x∈L,Q x s:=by
 have key:∀(k i N:Nat),i+k=L.length→k<N→∃W,V8 step N (i:Int)=some (W,u)∧∀s,s∈W↔∃x∈L.drop i,Q x s:=by
  intro k
  induction k with
  |zero=>
   intro i N hi hN;obtain⟨N,rfl⟩:∃m,N=m+1:=⟨N - 1,by omega⟩;rw[List.drop_eq_nil_of_le (by omega),show(i:Int)=L.length by omega];exact⟨[],by simp[V8,he],by simp⟩
  |succ k ih=>
   intro i N hi hN;obtain⟨N,rfl⟩:∃m,N=m+1:=⟨N - 1,by omega⟩
   have hlt:i<L.length:=by omega
   obtain⟨w,h1,h2⟩:=hs i L[i] (by simp[hlt]) (by omega) (List.getElem_mem hlt);obtain⟨W,h3,h4⟩:=ih (i+1) N (by omega) (by omega);rw[List.drop_eq_getElem_cons hlt];refine⟨w++W,?_,fun s=>?_⟩
   ·simp only[V8,h1];rw[show((i:Int)+1)=((i+1:Nat):Int) by omega,h3]
   rw[List.mem_append,h2,h4];simp only[List.mem_cons,or_and_right,exists_or,exists_eq_left]
 simpa using key L.length 0 N (by omega) hN
def Gg (s:List BD):ByteArray:=Qd (FX (Iy (G4 s)))
theorem Yw {a b:List UInt8} (h:Qd (FX a)=Qd (FX b)):a=b:=by
 have e0:∀(a:List UInt8) (acc:ByteArray),((FX a).foldl (fun r n=>r.push (UInt8.ofNat n.toNat)) acc).data.toList=acc.data.toList++a:=fun a=>by
  induction a with
  |nil=>intro acc;simp[FX]
  |cons x a ih=>
   intro acc
   simp only[FX,List.map_cons,List.foldl_cons]at ih ⊢
   rw[ih];simp
 have e:∀a:List UInt8,(Qd (FX a)).data.toList=a:=fun a=>by
  have:=e0 a ByteArray.empty
  simpa[Qd]using this
 rw[←e a,←e b,h]
theorem VM {l:List A5}(hl:l.length≤10){a b:List BD}(ha:UO l (G4 a))(hb:UO l (G4 b))(h:Gg a=Gg b):a=b:=Ht (LE hl ha hb (Yw h))
theorem Vc {N:Nat}(hN:40000000≤N){l:List A5}(hl:l.length≤10){s:List BD}(g:Gd l (G4 s)):M1 N s=some (Gg s):=by
 have:=g.len
 rw[List.length_map]at this
 rw[Za hN hl (by omega) g.wf];rfl
def Ix (out:List (List BD)):List (ByteArray×Bool):=out.map fun s=>(Gg s,true)
theorem VU (out:List (List BD)) (k:ByteArray):∃b,IB (Ix out) k false=some (decide (∃s∈out,Gg s=k),b):=by
 unfold IB Ix
 induction out with
 |nil=>exact⟨false,by simp⟩
 |cons x out ih=>
  obtain⟨b,ih⟩:=ih;rw[List.map_cons,List.find?_cons]
  by_cases h:Gg x=k
  ·exact⟨true,by simp[h]⟩
  refine⟨b,?_⟩;simp only[h,decide_false];rw[ih];simp[h]
theorem Vr {out:List (List BD)}{s:List BD}(h:¬∃t∈out,Gg t=Gg s):HE (Ix out) (Gg s) true=some (Ix (out++[s])):=by
 unfold HE;rw[if_neg]
 ·simp[Ix]
 intro e
 rw[List.any_eq_true]at e
 obtain⟨p,hp,he⟩:=e
 simp only[Ix,List.mem_map]at hp
 obtain⟨t,ht,rfl⟩:=hp;exact h ⟨t,ht,by simpa using he⟩
theorem QI {N:Nat} (hN:40000000≤N) {l:List A5} (hl:l.length≤10) {R:List (List BD)} (hR:∀s∈R,Gd l (G4 s)) (hc:∀L:List (List BD),L.Nodup→(∀s∈L,s∈R)→L.length≤4096):
 ∃ m out,H6 (fun(s11:(List (ByteArray×Bool))×(List (List A1))) (y10:(List A1))=>
  (
   (M1 N y10).bind fun r17=>
   (IB s11.1 r17 (false:Bool)).bind fun r18=>
   if r18.1=true then
    some (.inl (s11.1,s11.2))
   else
    (HE s11.1 r17 true).bind fun l20=>
    (K9 s11.2 ([y10])).bind fun l22=>
    ((
     if cmp .gtr (Ar.len l22) 4096=true then
      none
     else
      some ()
    ):Option (Unit)).bind fun s23=>
    if(⟨l,false⟩:B0).full=true then
     some (.inr (l20,l22))
    else
     some (.inl (l20,l22))
   :Option (((List (ByteArray×Bool))×(List (List A1))) ⊕ (((List (ByteArray×Bool))×(List (List A1))))))
  ) R (([]:List (ByteArray×Bool)),[])=some (.inl (m,out))∧out.Nodup∧∀s,s∈out↔s∈R:=by
 obtain⟨s',h1,p,out,h2,h3,h4,h5⟩:=Z1 (R:=(List (ByteArray×Bool))×(List (List A1))) (step:=fun(s11:(List (ByteArray×Bool))×(List (List A1))) (y10:(List A1))=>
  (
   (M1 N y10).bind fun r17=>
   (IB s11.1 r17 (false:Bool)).bind fun r18=>
   if r18.1=true then
    some (.inl (s11.1,s11.2))
   else
    (HE s11.1 r17 true).bind fun l20=>
    (K9 s11.2 ([y10])).bind fun l22=>
    ((
     if cmp .gtr (Ar.len l22) 4096=true then
      none
     else
      some ()
    ):Option (Unit)).bind fun s23=>
    if(⟨l,false⟩:B0).full=true then
     some (.inr (l20,l22))
    else
     some (.inl (l20,l22))
   :Option (((List (ByteArray×Bool))×(List (List A1))) ⊕ (((List (ByteArray×Bool))×(List (List A1)))))))
  (fun r s=>∃p out,p++r=R∧s=(Ix out,out)∧out.Nodup∧∀x,x∈out↔x∈p) (fun y r s ⟨p,out,e1,e2,e3,e4⟩=>by
   subst e2
   have hy:y∈R:=by rw[←e1];simp
   have hout:∀x∈out,x∈R:=fun x hx=>by rw[←e1];simp[(e4 x).1 hx]
   rw[Vc hN hl (hR y hy)];simp only[Option.bind_some];obtain⟨b,hb⟩:=VU out (Gg y);rw[hb];simp only[Option.bind_some];have hiff:(∃s∈out,Gg s=Gg y)↔y∈out:=⟨fun⟨s,hs,e⟩=>by rw[←VM hl (hR s (hout s hs)).wf (hR y hy).wf e];exact hs,fun h=>⟨y,h,rfl⟩⟩
   by_cases hm:y∈out
   ·rw[if_pos (decide_eq_true (hiff.2 hm))];refine⟨_,rfl,p++[y],out,by simpa using e1,rfl,e3,fun x=>?_⟩;rw[e4,List.mem_append,List.mem_singleton]
    constructor
    ·exact .inl
    rintro(h|rfl)
    ·exact h
    exact(e4 _).1 hm
   have hn:(out++[y]).Nodup:=by
    rw[List.nodup_append];exact⟨e3,by simp,fun a ha b hb'=>by rw[List.mem_singleton.1 hb'];intro e;exact hm (e▸ha)⟩
   have hlen:(out++[y]).length≤4096:=hc _ hn fun x hx=>by
    rcases List.mem_append.1 hx with h|h
    ·exact hout x h
    rw[List.mem_singleton.1 h];exact hy
   rw[if_neg (by simpa using fun x hx e=>hm (hiff.1 ⟨x,hx,e⟩)),Vr (fun e=>hm (hiff.1 e))];simp only[Option.bind_some];rw[N7 (by simp at hlen ⊢;omega)];simp only[Option.bind_some];rw[if_neg (V9 (by rw[B3];omega))];refine⟨_,rfl,p++[y],out++[y],by simpa using e1,rfl,hn,fun x=>?_⟩
   rw[List.mem_append,List.mem_append,e4]) (l:=R) (s:=([],[])) ⟨[],[],rfl,rfl,by simp,by simp⟩
 subst h3
 rw[append_nil]at h2
 subst h2;exact⟨_,_,h1,h4,h5⟩
def Eb (N n:Nat)(c:B0)(p:A0)(o:List BD)(f:Int):Option (List (List BD)):=
 if p.Op=0 then J8 N c p o f else if p.Op=1 then L5 N n c p o f else if p.Op=2 then L6 N n c p o f else if p.Op=3 then L7 N n c p o f else if p.Op=4 then K6 N n c p o f else E6 N n c p o f
def YG (N n:Nat)(l:List A5)(p:A0)(o:List BD)(f:Int):Prop:=∃L,C5 N n ⟨l,false⟩ p o f=some L∧L.Nodup∧∀s,s∈L↔Sm l p (G4 o) f (G4 s)
theorem ES {l:List A5} {p:A0} (hw:Kg p) (hs:Nl l.length p) {b:List PR} {f:Int} (ho:Oq l b f) {L:List (List BD)} (hn:L.Nodup) (h:∀s∈L,Sm l p b f (G4 s)):L.length≤1500:=by
 have:=card hw hs (L:=L.map G4) (by
  rw[List.Nodup,List.pairwise_map]
  exact hn.imp fun hne e=>hne (Ht e)) fun s hs=>by
   obtain⟨t,ht,rfl⟩:=List.mem_map.1 hs;exact⟨((h t ht).res hw ho).gd,b,f,h t ht⟩
 rwa[List.length_map]at this
theorem Ae3 {N:Nat} (hN:40000000≤N) {l:List A5} (hl:l.length≤10) {p:A0} (hw:Kg p) (hs:Nl l.length p) {o:List BD} {f:Int} (ho:Oq l (G4 o) f) {n:Nat} {R:List (List BD)} (h:Eb N n ⟨l,false⟩ p o f=some R) (hm:∀s,s∈R↔Sm l p (G4 o) f (G4 s)):YG N (n+1) l p o f:=by
 obtain⟨m,out,h1,h2,h3⟩:=QI hN hl (R:=R) (fun s hs=>(((hm s).1 hs).res hw ho).gd) fun L hL hsub=>by have:=ES hw hs ho hL fun s hs=>(hm s).1 (hsub s hs);omega
 refine⟨out,?_,h2,fun s=>(h3 s).trans (hm s)⟩;have hop:=hw.self.op;unfold C5 Av
 have key:∀{F:List (List BD)→Option (List (List BD))},((B8 ([fun y1 y2 y3 y4=>J8 N y1 y2 y3 y4,fun y1 y2 y3 y4=>L5 N n y1 y2 y3 y4,fun y1 y2 y3 y4=>L6 N n y1 y2 y3 y4,fun y1 y2 y3 y4=>L7 N n y1 y2 y3 y4,fun y1 y2 y3 y4=>K6 N n y1 y2 y3 y4,fun y1 y2 y3 y4=>E6 N n y1 y2 y3 y4,fun y1 y2 y3 y4=>E6 N n y1 y2 y3 y4,fun y1 y2 y3 y4=>E6 N n y1 y2 y3 y4]:List (B0→A0→(List A1)→Int→Option (List (List A1)))) p.Op).bind fun f7=>(f7 ⟨l,false⟩ p o f).bind F)=F R:=by
  intro F
  have hb:∀{g:B0→A0→(List A1)→Int→Option (List (List A1))} {L:List (B0→A0→(List A1)→Int→Option (List (List A1)))} {i:Int},B8 L i=some g→g ⟨l,false⟩ p o f=some R→((B8 L i).bind fun f7=>(f7 ⟨l,false⟩ p o f).bind F)=F R:=fun e1 e2=>by rw[e1];simp only[Option.bind_some,e2]
  have hc:p.Op=0∨p.Op=1∨p.Op=2∨p.Op=3∨p.Op=4∨p.Op=5∨p.Op=6∨p.Op=7:=by omega
  unfold Eb at h
  rcases hc with e|e|e|e|e|e|e|e<;>(rw[e]at h ⊢;exact hb rfl (by simpa using h))
 simp only[Option.bind_some];rw[key,h1];rfl
end
end Go.Ab
namespace Go.Ab
open Classical
noncomputable section
theorem BE {α β A B:Type}{L:List α}{N:Nat}{step:Int→Option (List β×(Int ⊕ A))}{u:A}{f:A→Option (List β×B)}{y:B}{Q:α→β→Prop}{G:β→Prop}(hN:L.length<N)
 (hs:∀(i:Nat) x,L[i]? =some x→(i:Int)<L.length→x∈L→∃w,step (i:Int)=some (w,.inl ((i:Int)+1))∧∀s,s∈w↔Q x s) (he:step (L.length:Int)=some ([],.inr u)) (hf:f u=some ([],y)) (hG:∀s,(∃x∈L,Q x s)↔G s):∃W,N9 (V8 step N 0) f=some (W,y)∧∀s,s∈W↔G s:=by
 obtain⟨W,h1,h2⟩:=NO hN hs he;exact⟨W++[],EY h1 hf,fun s=>by rw[append_nil];exact(h2 s).trans (hG s)⟩
theorem JH {β:Type}{m:Option (List β×Unit)}{G:β→Prop}(h:∃W,m=some (W,())∧∀s,s∈W↔G s):∃R,(m.bind fun q=>some q.1)=some R∧∀s,s∈R↔G s:=by
 obtain⟨W,h1,h2⟩:=h;exact⟨W,by rw[h1];rfl,h2⟩
theorem Fg {β A:Type}{x:β}{o:A}{P:β→Prop}(h:∀s,s=x↔P s):∃w,N9 (some ([x],())) (fun _=>some ([],o))=some (w,o)∧∀s,s∈w↔P s:=⟨[x],rfl,fun s=>by rw[List.mem_singleton];exact h s⟩
section
variable {N:Nat}(hN:40000000≤N){l:List A5}(hl:l.length≤10)
include hN hl
theorem XU {o u:List BD}{f:Int}(ho:Oq l (G4 o) f)(r:PE l f (G4 u)):∃c,K7 N o u=some c∧G4 c=mrg (G4 o) (G4 u):=by
 have h1:=ho.gd.len;have h2:=r.gd.len
 rw[List.length_map]at h1 h2
 exact Lb (n:=l.length) (by omega) (by omega) (by omega) ho.gd.asc r.gd.asc (ho.apart r) ho.gd.wf.ins r.gd.wf.ins
theorem XT {u t:List BD}{f g:Int}(r:PE l f (G4 u))(q:PE l g (G4 t))(hd:Cw (G4 u) (G4 t)):∃c,K7 N u t=some c∧G4 c=mrg (G4 u) (G4 t):=by
 have h1:=r.gd.len;have h2:=q.gd.len
 rw[List.length_map]at h1 h2
 exact Lb (n:=l.length) (by omega) (by omega) (by omega) r.gd.asc q.gd.asc hd r.gd.wf.ins q.gd.wf.ins
theorem XR {u:List BD}{f:Int}(r:PE l f (G4 u)):K4 N u=some (Z2 (G4 u)):=by
 have h1:=r.gd.len
 rw[List.length_map]at h1
 exact Qj (fun e=>r.ne (by rw[e];rfl)) (by omega)
theorem TO {q:A0} {o:List BD} {f:Int} {n:Nat} (wq:Kg q) (sq:Nl l.length q) (ho:Oq l (G4 o) f) (hq:YG N n l q o f) {x5:List BD→Int→Option (List (List BD))} {Qr:List BD→List BD→Prop}
 (hr:∀u,Sm l q (G4 o) f (G4 u)→∀r9,G4 r9=mrg (G4 o) (G4 u)→∃T,x5 r9 (Z2 (G4 u)+1)=some T∧T.length≤4096∧∀t,t∈T↔Qr u t) (hres:∀u t,Sm l q (G4 o) f (G4 u)→Qr u t→PE l (Z2 (G4 u)+1) (G4 t)):
 ∃R,K5 N (n+2) ⟨l,false⟩ q o f x5=some R∧∀s,s∈R↔∃u t,Sm l q (G4 o) f (G4 u)∧Qr u t∧G4 s=mrg (G4 u) (G4 t):=by
 obtain⟨L,h1,h2,h3⟩:=hq;have hc:=ES wq sq ho h2 fun s hs=>(h3 s).1 hs;unfold K5 O4;refine JH ?_;rw[h1];simp only[Option.bind_some];refine BE (L:=L) (u:=.inl ()) (Q:=fun u s=>∃t,Qr u t∧G4 s=mrg (G4 u) (G4 t)) (by omega) ?_ ?_ rfl ?_
 ·intro i u hu hi hm;have hsm:=(h3 u).1 hm;have r:=hsm.res wq ho;have hlst:=r.gd.lst r.ne;obtain⟨c,hc1,hc2⟩:=XU hN hl ho r;obtain⟨T,t1,t2,t3⟩:=hr u hsm c hc2;have e:ar .add .i64 (i:Int) 1=i+1:=C3 (by omega) (by omega);rw[if_pos (Q0 hi),D6,hu];simp only[Option.bind_some];rw[hc1,XR hN hl r];simp only[Option.bind_some];rw[C3 (a:=Z2 (G4 u)) (by omega) (by omega),t1];simp only[Option.bind_some,e];refine BE (L:=T) (u:=.inl ()) (Q:=fun t s=>G4 s=mrg (G4 u) (G4 t)) (by omega) ?_ ?_ rfl ?_
  ·intro j t ht hj hmt;have qr:=(t3 t).1 hmt;have rt:=hres u t hsm qr;obtain⟨d,d1,d2⟩:=XT hN hl r rt (r.seq rt).2;have e:ar .add .i64 (j:Int) 1=j+1:=C3 (by omega) (by omega);rw[if_pos (Q0 hj),D6,ht];simp only[Option.bind_some,Bool.false_eq_true,if_false,d1,e];exact Fg fun s=>⟨fun e=>by rw[e,d2],fun e=>Ht (e.trans d2.symm)⟩
  ·rw[if_neg N8]
  intro s
  constructor
  ·rintro⟨t,ht,e⟩;exact⟨t,(t3 t).1 ht,e⟩
  rintro⟨t,ht,e⟩;exact⟨t,(t3 t).2 ht,e⟩
 ·rw[if_neg N8]
 intro s
 constructor
 ·rintro⟨u,hu,t,ht,e⟩;exact⟨u,t,(h3 u).1 hu,ht,e⟩
 rintro⟨u,t,hu,ht,e⟩;exact⟨u,(h3 u).2 hu,t,ht,e⟩
def mu (l:List A5)(p:A0)(f:Nat):Nat:=p.pre.length*(l.length+2)+(l.length - f)
omit hN hl in
theorem FK {p q:A0}{f g:Nat}(h:q.pre.length<p.pre.length):mu l q g+1≤mu l p f:=by
 unfold mu;have:=Nat.mul_le_mul_right (l.length+2) (show q.pre.length+1≤p.pre.length from h)
 rw[Nat.add_mul]at this
 omega
omit hN hl in
theorem ZF {p:A0}{f g:Nat}(h:f<g)(hg:g≤l.length):mu l p g+1≤mu l p f:=by unfold mu;omega
def IHk (N:Nat)(l:List A5)(k:Nat):Prop:=∀(p:A0) (o:List BD) (f n:Nat),mu l p f≤k→8*k+8≤n→p.pre.length≤64→Kg p→Nl l.length p→Oq l (G4 o) f→YG N n l p o f
omit hN hl in
theorem Ur {u:List PR}{f:Int}(r:PE l f u)(h0:0≤f):∃g:Nat,Z2 u+1=(g:Int)∧g≤l.length∧f<g:=by
 have:=r.gd.lst r.ne;obtain⟨x,_,hx,e⟩:=CF r.ne;have:=r.ge x hx;exact⟨(Z2 u+1).toNat,by omega,by omega,by omega⟩
theorem Tg {p:A0}(hw:Kg p)(h0:p.Op=0){o:List BD}{f:Nat}(ho:Oq l (G4 o) f)(n:Nat):∃R,Eb N n ⟨l,false⟩ p o f=some R∧∀s,s∈R↔Sm l p (G4 o) f (G4 s):=by
 have:=ho.f1;refine⟨_,by unfold Eb;rw[if_pos h0];exact Vq hN hl hw.self.cond ho.gd false (by omega),fun s=>?_⟩;rw[Uq,Sm.i0 h0]
 constructor
 ·rintro⟨j,h1,h2,h3,rfl⟩;exact⟨j,by omega,by omega,h3,rfl⟩
 rintro⟨j,h1,h2,h3,e⟩;exact⟨j,by omega,by omega,h3,Ht (e.trans rfl)⟩
theorem UV {L:List (List BD)}(hL:L.length≤1000000):∃R,O2 N L=some R∧∀s,s∈R↔s∈L:=by
 unfold O2 E4;refine JH ?_;refine BE (L:=L) (u:=()) (Q:=fun x s=>s=x) (by omega) ?_ ?_ rfl ?_
 ·intro i u hu hi hm;have e:ar .add .i64 (i:Int) 1=i+1:=C3 (by omega) (by omega);rw[if_pos (Q0 hi),D6,hu];simp only[Option.bind_some,e];exact Fg fun s=>Iff.rfl
 ·rw[if_neg N8]
 intro s;simp
theorem Yk {k:Nat} (ih:IHk N l k) {p:A0} (hw:Kg p) (hp:p.pre.length≤64) (hs:Nl l.length p) (h0:p.Op=1) {o:List BD} {f:Nat} (ho:Oq l (G4 o) f) {n:Nat} (hmu:mu l p f≤k+1) (hn:8*k+15≤n):∃R,Eb N n ⟨l,false⟩ p o f=some R∧∀s,s∈R↔Sm l p (G4 o) f (G4 s):=by
 unfold Eb;rw[if_neg (by omega),if_pos h0];obtain⟨n,rfl⟩:∃m,n=m+1:=⟨n - 1,by omega⟩;unfold L5
 match ha:p.cP with
 |[]=>exact absurd ha (hw.self.a1 (by omega) (by omega))
 |[q]=>
  have hq:q∈p.cP:=by rw[ha];simp
  have:=FK (l:=l) (f:=f) (g:=f) (P0 hq);obtain⟨L,h1,h2,h3⟩:=ih q o f n (by omega) (by omega) (by have:=P0 hq;omega) (hw.arg hq) (hs.arg hq) ho;have hc:=ES (hw.arg hq) (hs.arg hq) ho h2 fun s hs=>(h3 s).1 hs;obtain⟨R,h4,h5⟩:=UV hN hl (L:=L) (by omega);rw[if_pos (show cmp .eql (Ar.len [q]) 1=true from rfl),Jk];simp only[Option.bind_some];rw[h1];simp only[Option.bind_some];rw[h4];exact⟨R,rfl,fun s=>(h5 s).trans ((h3 s).trans (Sm.i1 h0 ha).symm)⟩
 | q::q'::r=>
  have hq:q∈p.cP:=by rw[ha];simp
  have hwr:Kg {p with cP:=q'::r}:=hw.sub (by omega) (by omega) (fun x hx=>by rw[ha];exact List.mem_cons_of_mem _ hx) (by simp);have hsr:Nl l.length {p with cP:=q'::r}:=hs.tail ha;rw[if_neg (by rw[C2,B3];simp;omega),Lr,Jk];simp only[Option.bind_some];obtain⟨n,rfl⟩:∃m,n=m+2:=⟨n - 2,by omega⟩;have m1:=FK (l:=l) (f:=f) (g:=f) (P0 hq)
  obtain⟨R,h1,h2⟩:=TO hN hl (hw.arg hq) (hs.arg hq) ho (ih q o f n (by omega) (by omega) (by have:=P0 hq;omega) (hw.arg hq) (hs.arg hq) ho) (x5:=fun y1 y2=>J7 N (n+2) y1 y2 ⟨l,false⟩ {p with cP:=q'::r})
   (Qr:=fun u t=>Sm l {p with cP:=q'::r} (mrg (G4 o) (G4 u)) (Z2 (G4 u)+1) (G4 t)) (fun u hu r9 e9=>by
    have ru:=hu.res (hw.arg hq) ho;obtain⟨g,hg,hgl,hfg⟩:=Ur ru ho.f0
    have ho':Oq l (G4 r9) (g:Int):=by rw[e9,←hg];exact ho.next ru
    have m2:=FK (l:=l) (f:=f) (g:=g) (KU ha);obtain⟨T,t1,t2,t3⟩:=ih {p with cP:=q'::r} r9 g (n+1) (by omega) (by omega) (by have:=KU ha;omega) hwr hsr ho';have hc:=ES hwr hsr ho' t2 fun s hs=>(t3 s).1 hs;refine⟨T,?_,by omega,fun t=>?_⟩
    ·unfold J7;rw[hg,t1];rfl
    rw[t3,e9,hg]) (fun u t hu ht=>ht.res hwr (ho.next (hu.res (hw.arg hq) ho)))
  rw[h1];refine⟨R,rfl,fun s=>(h2 s).trans ?_⟩;rw[Sm.i1c h0 ha]
  constructor
  ·rintro⟨u,t,a,b,c⟩;exact⟨G4 u,G4 t,a,b,c⟩
  rintro⟨u,t,a,b,c⟩;exact⟨u.map IT,t.map IT,by rw[P8];exact a,by simp only[P8];exact b,by rw[P8,P8];exact c⟩
end
end
end Go.Ab
namespace Go.Ab
open Classical
noncomputable section
section
variable {N:Nat}(hN:40000000≤N){l:List A5}(hl:l.length≤10)
include hN hl
theorem Yl {k:Nat} (ih:IHk N l k) {p:A0} (hw:Kg p) (hp:p.pre.length≤64) (hs:Nl l.length p) (h0:p.Op=2) {o:List BD} {f:Nat} (ho:Oq l (G4 o) f) {n:Nat} (hmu:mu l p f≤k+1) (hn:8*k+15≤n):∃R,Eb N n ⟨l,false⟩ p o f=some R∧∀s,s∈R↔Sm l p (G4 o) f (G4 s):=by
 unfold Eb;rw[if_neg (by omega),if_neg (by omega),if_pos h0];obtain⟨n,rfl⟩:∃m,n=m+2:=⟨n - 2,by omega⟩;unfold L6 Q5;have hal:=AS p;refine JH ?_;refine BE (L:=p.cP) (u:=()) (Q:=fun q s=>Sm l q (G4 o) f (G4 s)) (by omega) ?_ ?_ rfl ?_
 ·intro i q hu hi hq;have:=FK (l:=l) (f:=f) (g:=f) (P0 hq);obtain⟨L,h1,h2,h3⟩:=ih q o f n (by omega) (by omega) (by have:=P0 hq;omega) (hw.arg hq) (hs.arg hq) ho;have hc:=ES (hw.arg hq) (hs.arg hq) ho h2 fun s hs=>(h3 s).1 hs;have e:ar .add .i64 (i:Int) 1=i+1:=C3 (by omega) (by omega);rw[if_pos (Q0 hi),D6,hu];simp only[Option.bind_some,e];rw[h1];simp only[Option.bind_some];refine BE (L:=L) (u:=()) (Q:=fun x s=>s=x) (by omega) ?_ ?_ rfl ?_
  ·intro j u hu hj hm;have e:ar .add .i64 (j:Int) 1=j+1:=C3 (by omega) (by omega);rw[if_pos (Q0 hj),D6,hu];simp only[Option.bind_some,e];exact Fg fun s=>Iff.rfl
  ·rw[if_neg N8]
  intro s
  constructor
  ·rintro⟨x,hx,rfl⟩;exact(h3 _).1 hx
  intro h;exact⟨s,(h3 s).2 h,rfl⟩
 ·rw[if_neg N8]
 intro s;exact(Sm.i2 h0).symm
theorem VY {k:Nat} (ih:IHk N l k) {p:A0} (hw:Kg p) (hp:p.pre.length≤64) (hs:Nl l.length p) (h0:5≤p.Op) {o:List BD} {f:Nat} (ho:Oq l (G4 o) f) {n:Nat} (hmu:mu l p f≤k+1) (hn:8*k+15≤n):∃R,Eb N n ⟨l,false⟩ p o f=some R∧∀s,s∈R↔Sm l p (G4 o) f (G4 s):=by
 unfold Eb;rw[if_neg (by omega),if_neg (by omega),if_neg (by omega),if_neg (by omega),if_neg (by omega)];obtain⟨n,rfl⟩:∃m,n=m+2:=⟨n - 2,by omega⟩;unfold E6 O5;obtain⟨q,ha⟩:=hw.self.a2 (by omega);have hop:=hw.self.op
 have hq:q∈p.cP:=by rw[ha];simp
 have:=FK (l:=l) (f:=f) (g:=f) (P0 hq);obtain⟨L,h1,h2,h3⟩:=ih q o f n (by omega) (by omega) (by have:=P0 hq;omega) (hw.arg hq) (hs.arg hq) ho;have hc:=ES (hw.arg hq) (hs.arg hq) ho h2 fun s hs=>(h3 s).1 hs;refine JH ?_;rw[ha,Jk];simp only[Option.bind_some];rw[h1];simp only[Option.bind_some];refine BE (L:=L) (u:=()) (Q:=fun x s=>keepsA l p (G4 o) (G4 x)=true∧s=x) (by omega) ?_ ?_ rfl ?_
 ·intro j u hu hj hm;have ru:=((h3 u).1 hm).res (hw.arg hq) ho;have e:ar .add .i64 (j:Int) 1=j+1:=C3 (by omega) (by omega);rw[if_pos (Q0 hj),D6,hu];simp only[Option.bind_some,e];rw[Vd hN hl hw.self.cond ⟨h0,hop.2⟩ ho.gd ru.gd (fun e=>ru.ne (by rw[e];rfl)) (ho.apart ru)];simp only[Option.bind_some]
  by_cases hk:keepsA l p (G4 o) (G4 u)=true
  ·rw[if_pos hk];exact Fg fun s=>⟨fun e=>⟨hk,e⟩,fun e=>e.2⟩
  rw[if_neg hk];exact⟨[],rfl,fun s=>⟨fun h=>absurd h List.not_mem_nil,fun h=>absurd h.1 hk⟩⟩
 ·rw[if_neg N8]
 intro s;rw[Sm.i5 h0 hop.2 ha]
 constructor
 ·rintro⟨x,hx,hk,rfl⟩;exact⟨(h3 _).1 hx,hk⟩
 rintro⟨h,hk⟩;exact⟨s,(h3 s).2 h,hk,rfl⟩
theorem VZ {k:Nat} (ih:IHk N l k) {p:A0} (hw:Kg p) (hp:p.pre.length≤64) (hs:Nl l.length p) (h0:p.Op=4) {o:List BD} {f:Nat} (ho:Oq l (G4 o) f) {n:Nat} (hmu:mu l p f≤k+1) (hn:8*k+15≤n):∃R,Eb N n ⟨l,false⟩ p o f=some R∧∀s,s∈R↔Sm l p (G4 o) f (G4 s):=by
 unfold Eb;rw[if_neg (by omega),if_neg (by omega),if_neg (by omega),if_neg (by omega),if_pos h0];obtain⟨n,rfl⟩:∃m,n=m+2:=⟨n - 2,by omega⟩;unfold K6 O6;obtain⟨q,ha⟩:=hw.self.a2 (by omega)
 have hq:q∈p.cP:=by rw[ha];simp
 have m1:=FK (l:=l) (f:=f) (g:=f) (P0 hq);obtain⟨L,h1,h2,h3⟩:=ih q o f n (by omega) (by omega) (by have:=P0 hq;omega) (hw.arg hq) (hs.arg hq) ho;have hc:=ES (hw.arg hq) (hs.arg hq) ho h2 fun s hs=>(h3 s).1 hs
 have hi:B8 p.cP 0=some q:=by rw[ha];rfl
 rw[hi];simp only[Option.bind_some];rw[h1];simp only[Option.bind_some];obtain⟨n,rfl⟩:∃m,n=m+2:=⟨n - 2,by omega⟩
 obtain⟨R,r1,r2⟩:=TO hN hl (hw.arg hq) (hs.arg hq) ho (ih q o f n (by omega) (by omega) (by have:=P0 hq;omega) (hw.arg hq) (hs.arg hq) ho) (x5:=fun y1 y2=>G7 N (n+2) y1 y2 ⟨l,false⟩ p)
  (Qr:=fun u t=>Sm l p (mrg (G4 o) (G4 u)) (Z2 (G4 u)+1) (G4 t)) (fun u hu r9 e9=>by
   have ru:=hu.res (hw.arg hq) ho;obtain⟨g,hg,hgl,hfg⟩:=Ur ru ho.f0
   have ho':Oq l (G4 r9) (g:Int):=by rw[e9,←hg];exact ho.next ru
   have m2:=ZF (p:=p) (show f<g by omega) hgl;obtain⟨T,t1,t2,t3⟩:=ih p r9 g (n+1) (by omega) (by omega) hp hw hs ho';have hc:=ES hw hs ho' t2 fun s hs=>(t3 s).1 hs;refine⟨T,?_,by omega,fun t=>?_⟩
   ·unfold G7;rw[hg,t1];rfl
   rw[t3,e9,hg]) (fun u t hu ht=>ht.res hw (ho.next (hu.res (hw.arg hq) ho)))
 obtain ⟨W, w1,w2⟩:=NO (L:=L) (N:=N) (A:=Unit ⊕ Unit) (u:=.inl ()) (Q:=fun x s=>s=x) (step:=fun(s3:Int)=>
         (
          if cmp .lss s3 (Ar.len L)=true then
           (B8 L s3).bind fun x9=>
           if(⟨l,false⟩:B0).full=true then
            some ([],.inr (.inr ()))
           else
            N9 (some ([x9],())) fun _=>
            some ([],.inl (ar .add .i64 s3 1))
          else
           some ([],.inr (.inl ()))
          :Option (List (List A1)×((Int) ⊕ (Unit ⊕ Unit))))) (by omega) (fun j u hu hj hm=>by
  have e:ar .add .i64 (j:Int) 1=j+1:=C3 (by omega) (by omega);rw[if_pos (Q0 hj),D6,hu];simp only[Option.bind_some,e,Bool.false_eq_true,if_false]
  exact Fg fun s=>Iff.rfl) (by rw[if_neg N8])
 obtain ⟨V,v1,v2⟩:=LP (L:=R) (R:=Unit) (Q:=fun x s=>s=x) (body:=fun(_:Unit) (y15:(List A1))=>
         (
          N9 (some ([y15],())) fun _=>
          some ([],.inl ())
          :Option (List (List A1)×(Unit ⊕ Unit)))) fun x hx=>Fg fun s=>Iff.rfl
 refine⟨W++(V++[]),?_,fun s=>?_⟩
 ·refine(congrArg (fun m:Option (List (List BD)×Unit)=>m.bind fun q=>some q.1) (EY (o:=()) (w':=V++[]) w1 ?_)).trans rfl
  dsimp only
  rw[r1];simp only[Option.bind_some];exact EY v1 rfl
 rw[append_nil,List.mem_append,w2,v2,Sm.i4 h0 ha];refine or_congr ?_ ?_
 ·constructor
  ·rintro⟨x,hx,rfl⟩;exact(h3 _).1 hx
  intro h;exact⟨s,(h3 s).2 h,rfl⟩
 constructor
 ·rintro⟨x,hx,rfl⟩;obtain⟨u,t,a,b,c⟩:=(r2 _).1 hx;exact⟨G4 u,G4 t,a,b,c⟩
 rintro⟨u,t,a,b,c⟩;exact⟨s,(r2 s).2 ⟨u.map IT,t.map IT,by rw[P8];exact a,by simp only[P8];exact b,by rw[P8,P8];exact c⟩,rfl⟩
def Ww :List (List (List BD))→List PR→List PR→Prop
 |[],w,s=>s=w
 |L::r,w,s=>∃u∈L,Cw w (G4 u)∧Ww r (mrg w (G4 u)) s
omit hN hl in
theorem Ww.snoc :∀{P:List (List (List BD))} {L:List (List BD)} {w s:List PR},Ww (P++[L]) w s↔∃t,Ww P w t∧∃u∈L,Cw t (G4 u)∧s=mrg t (G4 u)
 |[],L,w,s=>by simp[Ww]
 |M::P,L,w,s=>by
  show(∃u∈M,Cw w (G4 u)∧Ww (P++[L]) (mrg w (G4 u)) s)↔_
  constructor
  ·rintro⟨u,hu,ha,h⟩;obtain⟨t,ht,h⟩:=Ww.snoc.1 h;exact⟨t,⟨u,hu,ha,ht⟩,h⟩
  rintro⟨t,⟨u,hu,ha,ht⟩,h⟩;exact⟨u,hu,ha,Ww.snoc.2 ⟨t,ht,h⟩⟩
theorem QX {f:Int}:∀{P:List (List (List BD))} {w:List BD} {n:Nat},P.length<n→(∀L∈P,L.length≤4096∧∀u∈L,PE l f (G4 u))→Gd l (G4 w)→∃R,S7 N n P w=some R∧∀s,s∈R↔Ww P (G4 w) (G4 s)
 |[],w,n,hn,_,_=>by
  obtain⟨n,rfl⟩:∃m,n=m+1:=⟨n - 1,by omega⟩;unfold S7;refine⟨[w],by rw[if_pos (show cmp .eql (Ar.len ([]:List (List (List BD)))) 0=true from rfl)];rfl,fun s=>?_⟩;rw[List.mem_singleton];exact⟨fun e=>by rw[e];rfl,fun e=>Ht e⟩
 | L::P,w,n,hn,hP,gw=>by
  obtain⟨n,rfl⟩:∃m,n=m+1:=⟨n - 1,by omega⟩;unfold S7;have hwl:=gw.len
  rw[List.length_map]at hwl
  obtain⟨hLl,hL⟩:=hP L (by simp);refine JH ?_;rw[if_neg (by rw[C2,B3];simp;omega),Jk];simp only[Option.bind_some];refine BE (L:=L) (u:=()) (Q:=fun u s=>Cw (G4 w) (G4 u)∧Ww P (mrg (G4 w) (G4 u)) (G4 s)) (by omega) ?_ ?_ rfl ?_
  ·intro i u hu hi hm;have ru:=hL u hm;have hul:=ru.gd.len
   rw[List.length_map]at hul
   have e:ar .add .i64 (i:Int) 1=i+1:=C3 (by omega) (by omega);rw[if_pos (Q0 hi),D6,hu];simp only[Option.bind_some,e];rw[Va hN (by omega) (by omega),Lr];simp only[Option.bind_some]
   by_cases ha:Cw (G4 w) (G4 u)
   ·rw[NJ.2 ha,if_pos (show nt false=true from rfl)];obtain⟨c,c1,c2⟩:=Lb (N:=N) (n:=l.length) (by omega) (by omega) (by omega) gw.asc ru.gd.asc ha gw.wf.ins ru.gd.wf.ins;obtain⟨R,r1,r2⟩:=QX (P:=P) (w:=c) (n:=n) (by simp at hn;omega) (fun L hL=>hP L (by simp[hL])) (by rw[c2];exact gw.mrg ru.gd ha);rw[c1];simp only[Option.bind_some];rw[r1];refine⟨R++[],EY rfl rfl,fun s=>?_⟩;rw[append_nil,r2,c2];exact⟨fun h=>⟨ha,h⟩,fun h=>h.2⟩
   have:JS (G4 w) (G4 u)=true:=by
    cases h:JS (G4 w) (G4 u)with
    |true=>rfl
    |false=>exact absurd (NJ.1 h) ha
   rw[this,if_neg (show¬nt true=true by decide)];exact⟨[],rfl,fun s=>⟨fun h=>absurd h List.not_mem_nil,fun h=>absurd h.1 ha⟩⟩
  ·rw[if_neg N8]
  intro s
  constructor
  ·rintro⟨u,hu,ha,h⟩;exact⟨u,hu,ha,h⟩
  rintro⟨u,hu,ha,h⟩;exact⟨u,hu,ha,h⟩
omit hN hl in
theorem Ag2 {G:A0→List (List BD)} {b:List PR} {f:Int}:∀(n:Nat) {r:List A0} {p:A0},r.length≤n→p.Op=3→p.cP=r→r≠[]→(∀q∈r,∀s,s∈G q↔Sm l q b f (G4 s))→∀s,Ww (r.map G) [] s↔Sm l p b f s:=by
 intro n
 induction n with
 |zero=>intro r p hl _ _ hn;exact absurd (List.eq_nil_of_length_eq_zero (by omega)) hn
 | succ n ih=>
  intro r p hln h0 ha hn hG s
  rcases List.eq_nil_or_concat r with rfl|⟨m,q,rfl⟩
  ·exact absurd rfl hn
  rw[List.concat_eq_append]at *
  rw[List.map_append,List.map_cons,List.map_nil,Ww.snoc]
  by_cases hm:m=[]
  ·subst hm;rw[Sm.i3 h0 ha]
   constructor
   ·rintro⟨t,ht,u,hu,_,e⟩;have ht:t=[]:=ht;rw[e,ht,HB];exact(hG q (by simp) u).1 hu
   intro h;refine⟨[],rfl,s.map IT,(hG q (by simp) _).2 (by rw[P8];exact h),fun x hx=>absurd hx List.not_mem_nil,?_⟩;rw[P8,HB]
  rw[Sm.i3c h0 ha hm];have ih':=fun t=>ih (r:=m) (p:={p with cP:=m}) (by simp at hln;omega) h0 rfl hm (fun q hq=>hG q (by simp[hq])) t
  constructor
  ·rintro⟨t,ht,u,hu,hd,e⟩;exact⟨t,G4 u,(ih' t).1 ht,(hG q (by simp) u).1 hu,hd,e⟩
  rintro⟨t,u,ht,hu,hd,e⟩;exact⟨t,(ih' t).2 ht,u.map IT,(hG q (by simp) _).2 (by rw[P8];exact hu),by rw[P8];exact hd,by rw[P8];exact e⟩
theorem Ym {k:Nat} (ih:IHk N l k) {p:A0} (hw:Kg p) (hp:p.pre.length≤64) (hs:Nl l.length p) (h0:p.Op=3) {o:List BD} {f:Nat} (ho:Oq l (G4 o) f) {n:Nat} (hmu:mu l p f≤k+1) (hn:8*k+15≤n):∃R,Eb N n ⟨l,false⟩ p o f=some R∧∀s,s∈R↔Sm l p (G4 o) f (G4 s):=by
 unfold Eb;rw[if_neg (by omega),if_neg (by omega),if_neg (by omega),if_pos h0];obtain⟨n,rfl⟩:∃m,n=m+2:=⟨n - 2,by omega⟩;unfold L7 Q6;have hal:=AS p
 let G:A0→List (List BD):=fun q=>(C5 N n ⟨l,false⟩ q o f).getD []
 have hG:∀q∈p.cP,C5 N n ⟨l,false⟩ q o f=some (G q)∧(∀s,s∈G q↔Sm l q (G4 o) f (G4 s))∧(G q).length≤1500:=fun q hq=>by
  have:=FK (l:=l) (f:=f) (g:=f) (P0 hq);obtain⟨L,h1,h2,h3⟩:=ih q o f n (by omega) (by omega) (by have:=P0 hq;omega) (hw.arg hq) (hs.arg hq) ho;have hc:=ES (hw.arg hq) (hs.arg hq) ho h2 fun s hs=>(h3 s).1 hs
  have e:G q=L:=by show(C5 N n ⟨l,false⟩ q o f).getD []=L;rw[h1];rfl
  exact⟨by rw[e];exact h1,by rw[e];exact h3,by rw[e];exact hc⟩
 have key:∀(k i M:Nat) (acc:List (List (List BD))),i+k=p.cP.length→k<M→acc.length≤i→V8 (fun(s1:(List (List (List A1)))×Int)=>
  (
   if cmp .lss s1.2 (Ar.len p.cP)=true then
    (B8 p.cP s1.2).bind fun x8=>
    (C5 N n ⟨l,false⟩ x8 o f).bind fun r9=>
    (K9 s1.1 ([r9])).bind fun l11=>
    some ([],.inl (l11,ar .add .i64 s1.2 1))
   else
    some ([],.inr s1.1)
   :Option (List (List A1)×(((List (List (List A1)))×Int) ⊕ (((List (List (List A1))))))))) M (acc,(i:Int))=some ([],acc++(p.cP.drop i).map G):=by
  intro k
  induction k with
  |zero=>
   intro i M acc hi hM _;obtain⟨M,rfl⟩:∃m,M=m+1:=⟨M - 1,by omega⟩;rw[List.drop_eq_nil_of_le (by omega)];unfold V8
   dsimp only
   rw[if_neg (Bw (by rw[B3];omega))];simp
  |succ k ihk=>
   intro i M acc hi hM hacc;obtain⟨M,rfl⟩:∃m,M=m+1:=⟨M - 1,by omega⟩
   have hlt:i<p.cP.length:=by omega
   have e:ar .add .i64 (i:Int) 1=i+1:=C3 (by omega) (by omega);rw[List.drop_eq_getElem_cons hlt];unfold V8
   dsimp only
   rw[if_pos (Q0 (by omega)),D6,List.getElem?_eq_getElem hlt];simp only[Option.bind_some];rw[(hG _ (List.getElem_mem hlt)).1];simp only[Option.bind_some];rw[N7 (by simp;omega)];simp only[Option.bind_some,e];rw[show((i:Int)+1)=((i+1:Nat):Int) by omega,ihk (i+1) M _ (by omega) (by omega) (by simp;omega),List.map_cons,List.append_assoc];rfl
 have hk:=key p.cP.length 0 N [] (by omega) (by omega) (by simp)
 simp only[List.drop_zero,List.nil_append]at hk
 have hk':((0:Nat):Int)=0:=rfl
 rw[hk']at hk
 obtain⟨R,r1,r2⟩:=QX hN hl (f:=f) (P:=p.cP.map G) (w:=[]) (n:=N) (by simp;omega) (fun L hL=>by
  obtain⟨q,hq,rfl⟩:=List.mem_map.1 hL;obtain⟨_,h2,h3⟩:=hG q hq
  exact⟨by omega,fun u hu=>((h2 u).1 hu).res (hw.arg hq) ho⟩) (Gd.nil l)
 refine JH ⟨[]++(R++[]),EY hk ?_,fun s=>?_⟩
 ·rw[if_pos (show nt (⟨l,false⟩:B0).full=true from rfl),r1];simp only[Option.bind_some];exact EY rfl rfl
 rw[List.nil_append,append_nil,r2];exact Ag2 _ (Nat.le_refl _) h0 rfl (hw.self.a1 (by omega) (by omega)) (fun q hq=>(hG q hq).2.1) _
theorem Vv :∀k,IHk N l k:=by
 intro k
 induction k with
 |zero=>
  intro p o f n hmu;exfalso;have h1:=A0.pre_eq p
  have:1≤p.pre.length:=by rw[h1];simp
  unfold mu at hmu
  have:=Nat.mul_le_mul_right (l.length+2) this;omega
 | succ k ih=>
  intro p o f n hmu hn hp hw hs ho;obtain⟨n,rfl⟩:∃m,n=m+1:=⟨n - 1,by omega⟩;have hop:=hw.self.op
  have hf:∃R,Eb N n ⟨l,false⟩ p o f=some R∧∀s,s∈R↔Sm l p (G4 o) f (G4 s):=by
   by_cases h0:p.Op=0
   ·exact Tg hN hl hw h0 ho n
   by_cases h1:p.Op=1
   ·exact Yk hN hl ih hw hp hs h1 ho hmu (by omega)
   by_cases h2:p.Op=2
   ·exact Yl hN hl ih hw hp hs h2 ho hmu (by omega)
   by_cases h3:p.Op=3
   ·exact Ym hN hl ih hw hp hs h3 ho hmu (by omega)
   by_cases h4:p.Op=4
   ·exact VZ hN hl ih hw hp hs h4 ho hmu (by omega)
   exact VY hN hl ih hw hp hs (by omega) ho hmu (by omega)
  obtain⟨R,h1,h2⟩:=hf;exact Ae3 hN hl hw hs ho h1 h2
end
end
end Go.Ab
namespace Go.Ab
open Classical
noncomputable section
def add1 (out:List (List PR))(s:List PR):List (List PR):=if s∈out then out else out++[s]
def Nd (P:List PR→Prop)(out:List (List PR)):Prop:=out.Nodup∧∀s∈out,P s
theorem Nd.nil (P:List PR→Prop):Nd P []:=⟨List.nodup_nil,fun _ h=>absurd h List.not_mem_nil⟩
theorem Nd.add {P:List PR→Prop}{out:List (List PR)}{s:List PR}(h:Nd P out)(hs:P s):Nd P (add1 out s):=by
 unfold add1
 split
 ·exact h
 rename_i hin;refine⟨List.nodup_append.2 ⟨h.1,by simp,fun a ha b hb e=>hin (by rw[←List.mem_singleton.1 hb,←e];exact ha)⟩,fun x hx=>?_⟩
 rcases List.mem_append.1 hx with hx|hx
 ·exact h.2 x hx
 rw[List.mem_singleton.1 hx];exact hs
def Ad3 (r:Option (List (List PR)))(l:List A5)(p:A0)(b:List PR)(f:Int):Prop:=∃L,r=some L∧L.Nodup∧∀s,s∈L↔Sm l p b f s
theorem Ad3.mk {x:Option (List (List PR))}{l:List A5}{p:A0}{b:List PR}{f:Int}(h:∃L,x=some L∧L.Nodup∧∀s,s∈L↔Sm l p b f s):Ad3 (x.bind fun s=>some s) l p b f:=by
 obtain⟨L,rfl,h⟩:=h;exact⟨L,rfl,h⟩
section
variable {N:Nat}(hN:40000000≤N){l:List A5}(hl:l.length≤10)
include hN hl
end
end
end Go.Ab
namespace Go.Ab
open Classical
noncomputable section
def M5 :List Int→List Int→Int
 |[],[]=>0
 |[],_::_=> -1
 |_::_,[]=>1
 |x::a,y::b=>if x<y then -1 else if y<x then 1 else M5 a b
theorem Fj :∀a:List Int,M5 a a=0
 |[]=>rfl
 |x::a=>by simp[M5,Fj a]
theorem Uw :∀{a b:List Int},M5 a b=0→a=b
 |[],[],_=>rfl
 |[],_::_,h=>by simp[M5]at h
 |_::_,[],h=>by simp[M5]at h
 |x::a,y::b,h=>by
  unfold M5 at h
  split at h
  ·cases h
  split at h
  ·cases h
  rw[Uw h];congr 1;omega
theorem Rc :∀a b:List Int,M5 b a= - M5 a b
 |[],[]=>rfl
 |[],_::_=>rfl
 |_::_,[]=>rfl
 |x::a,y::b=>by
  unfold M5;rw[Rc a b]
  split<;>split<;>first|omega|rfl
theorem Iw :∀{a b c:List Int},M5 a b<0→M5 b c<0→M5 a c<0
 |[],[],_,h,_=>by simp[M5]at h
 |_::_,[],_,h,_=>by simp[M5]at h
 |_,_::_,[],_,h=>by simp[M5]at h
 |[],_::_,_::_,_,_=>by simp[M5]
 | x::a,y::b,z::c,h1,h2=>by
  unfold M5 at h1 h2 ⊢
  by_cases h3:x<z
  ·rw[if_pos h3];decide
  rw[if_neg h3]
  by_cases h4:x<y
  ·by_cases h5:y<z
   ·omega
   rw[if_neg h5]at h2
   have:z<y:=by omega
   rw[if_pos this]at h2;cases h2
  rw[if_neg h4]at h1
  by_cases h5:y<x
  ·rw[if_pos h5]at h1;cases h1
  rw[if_neg h5]at h1
  by_cases h6:y<z
  ·omega
  rw[if_neg h6]at h2
  by_cases h7:z<y
  ·rw[if_pos h7]at h2;cases h2
  rw[if_neg h7]at h2
  rw[if_neg (by omega)];exact Iw h1 h2
def YV (a b:Int):Int:=if a<b then -1 else if b<a then 1 else 0
theorem Ft (N:Nat)(a b:Int):I9 N a b=some (YV a b):=by
 unfold I9 BB YV;simp only[Option.bind_some,F6,C1,Bg,decide_true,Bool.not_true,Bool.false_eq_true,if_false,decide_eq_true_eq]
 split
 ·rfl
 split<;>rfl
theorem or_eq {N:Nat} (hN:40000000≤N) {l:List Int} (hl:l.length≤1000):BM N l=some (U6 id l):=by
 unfold BM;rw[I5 l (by omega) (mk:=fun(_:Unit) i=>i) (body:=Au fun x=>some x) (fin:=fun _=>.inl ()) (s:=()) (by omega) ?_ ?_]
 ·rw[Y0 (F:=fun x=>some x) (f:=id) fun x _=>rfl]
  by_cases h:U6 id l=0
  ·rw[if_pos h,h];rfl
  rw[if_neg h];rfl
 ·intro s i x hx hi;have e:ar .add .i64 (i:Int) 1=i+1:=C3 (by omega) (by omega);simp only[C1,B3,hi,decide_true,if_true,D6,hx,Option.bind_some,e,Au]
  split<;>rfl
 intro s;simp[C1,B3]
def Na (r:El):List Int:=[r.Time,r.Source,r.Seq]
def Ci (x:C7):List Int:=[x.Ref.Time,x.Ref.Source,x.Ref.Seq,x.Var]
theorem lex3 (a1 a2 a3 b1 b2 b3:Int):M5 [a1,a2,a3] [b1,b2,b3]=U6 id [YV a1 b1,YV a2 b2,YV a3 b3]:=by
 simp only[M5,U6,YV,id]
 repeat' split
 all_goals first|rfl|omega
theorem lex4 (a1 a2 a3 a4 b1 b2 b3 b4:Int):M5 [a1,a2,a3,a4] [b1,b2,b3,b4]=U6 id [M5 [a1,a2,a3] [b1,b2,b3],YV a4 b4]:=by
 simp only[M5,U6,YV,id]
 repeat' split
 all_goals first|rfl|omega
theorem Zl {N:Nat}(hN:40000000≤N)(a b:El):DV N a b=some (M5 (Na a) (Na b)):=by
 unfold DV;rw[Ft,Ft,Ft];simp only[Option.bind_some];rw[or_eq hN (by simp),Na,Na,lex3];rfl
theorem QO (N:Nat)(a b:El):BT N a b=some (M5 (Na a) (Na b)):=by
 unfold BT Na;simp only[F6,C1,Bg,M5,decide_eq_true_eq,Bool.not_eq_true',decide_eq_false_iff_not]
 repeat' split
 all_goals first|rfl|omega
theorem Yq {N:Nat}(hN:40000000≤N)(a b:A5):BA N a b=some (M5 [a.Time,a.Source,a.Seq] [b.Time,b.Source,b.Seq]):=by
 unfold BA CJ;simp only[Option.bind_some,Ft];rw[or_eq hN (by simp),←lex3];simp only[M9,C2,Bool.and_true,Bool.and_eq_true,decide_eq_true_eq,Option.bind_some]
 by_cases h:a.Time=b.Time∧a.Source=b.Source∧a.Seq=b.Seq
 ·rw[if_pos h,h.1,h.2.1,h.2.2,Fj]
 rw[if_neg h]
theorem Yy {N:Nat}(hN:40000000≤N)(a b:C7):W6 N a b=some (M5 (Ci a) (Ci b)):=by
 unfold W6;rw[Zl hN,Ft];simp only[Option.bind_some];rw[or_eq hN (by simp),Ci,Ci,lex4];rfl
theorem Vy (N:Nat) (a b:C7):CY N a b=some (M5 (Ci a) (Ci b)):=by
 unfold CY;rw[QO,Ci,Ci,lex4];simp only[Option.bind_some,U6,id,Na,F6,C1,Bg,YV]
 by_cases h:M5 [a.Ref.Time,a.Ref.Source,a.Ref.Seq] [b.Ref.Time,b.Ref.Source,b.Ref.Seq]=0
 ·simp only[h,decide_true,Bool.not_true,Bool.false_eq_true,if_false,if_true,decide_eq_true_eq]
  repeat' split
  all_goals first|rfl|omega
 simp[h]
def mO :List C7→List C7→Int
 |[],[]=>0
 |[],_::_=> -1
 |_::_,[]=>1
 |x::a,y::b=>if M5 (Ci x) (Ci y)≠0 then M5 (Ci x) (Ci y)else mO a b
def Nb (m:List C7):List Int:=m.flatMap Ci
theorem Uv :∀{a b:List Int} (c d:List Int),a.length=b.length→M5 (a++c) (b++d)=if M5 a b≠0 then M5 a b else M5 c d
 |[],[],c,d,_=>by simp[M5]
 |[],_::_,_,_,h=>by simp at h
 |_::_,[],_,_,h=>by simp at h
 |x::a,y::b,c,d,h=>by
  simp only[List.cons_append,M5];have ih:=Uv (a:=a) (b:=b) c d (by simpa using h)
  by_cases h1:x<y
  ·simp[h1]
  by_cases h2:y<x
  ·simp[h1,h2]
  simp only[h1,h2,if_false];exact ih
theorem NM :∀a b:List C7,mO a b=M5 (Nb a) (Nb b)
 |[],[]=>rfl
 |[],y::b=>by simp[mO,Nb,Ci,M5]
 |x::a,[]=>by simp[mO,Nb,Ci,M5]
 |x::a,y::b=>by
  simp only[mO,Nb,List.flatMap_cons];rw[Uv _ _ (by simp[Ci])];have:=NM a b;rw[this];rfl
theorem Us {N:Nat} {a b:List C7} {step:Int→Option (Int ⊕ (Unit ⊕ Int))} {k:Unit ⊕ Int→Option Int} (hN:a.length<N) (hl:a.length≤1000000)
 (hs:∀(i:Nat) (h1:i<a.length) (h2:i<b.length),step (i:Int)=if cmp .neq (M5 (Ci a[i]) (Ci b[i])) 0=true then some (.inr (.inr (M5 (Ci a[i]) (Ci b[i]))))else some (.inl (ar .add .i64 (i:Int) 1)))
 (he:∀i:Nat,i≤a.length→i≤b.length→i=a.length∨i=b.length→∃r,step (i:Int)=some (.inr r)∧k r=some (if a.length<b.length then -1 else if b.length<a.length then 1 else 0)) (hk:∀c,k (.inr c)=some c):(loopN step N 0).bind k=some (mO a b):=by
 have key:∀(d i N:Nat),i+d=a.length→d<N→i≤b.length→(loopN step N (i:Int)).bind k=some (mO (a.drop i) (b.drop i)):=by
  have hend:∀(i N:Nat),i≤a.length→i≤b.length→i=a.length∨i=b.length→(loopN step (N+1) (i:Int)).bind k=some (mO (a.drop i) (b.drop i)):=fun i N h1 h2 h=>by
   obtain⟨r,e1,e2⟩:=he i h1 h2 h;simp only[loopN,e1,Option.bind_some,e2]
   by_cases ha:i<a.length
   ·rw[List.drop_eq_getElem_cons ha,List.drop_eq_nil_of_le (show b.length≤i by omega),if_neg (by omega),if_pos (by omega)];rfl
   rw[List.drop_eq_nil_of_le (show a.length≤i by omega)]
   by_cases hb:i<b.length
   ·rw[List.drop_eq_getElem_cons hb,if_pos (by omega)];rfl
   rw[List.drop_eq_nil_of_le (show b.length≤i by omega),if_neg (by omega),if_neg (by omega)];rfl
  intro d
  induction d with
  |zero=>
   intro i N hi hN hb;obtain⟨N,rfl⟩:∃m,N=m+1:=⟨N - 1,by omega⟩;exact hend i N (by omega) hb (by omega)
  |succ d ih=>
   intro i N hi hN hb;obtain⟨N,rfl⟩:∃m,N=m+1:=⟨N - 1,by omega⟩
   by_cases h:i=b.length
   ·exact hend i N (by omega) hb (.inr h)
   have ha:i<a.length:=by omega
   have hb:i<b.length:=by omega
   rw[List.drop_eq_getElem_cons ha,List.drop_eq_getElem_cons hb,mO];unfold loopN;rw[hs i ha hb,C3 (by omega) (by omega)]
   by_cases hz:M5 (Ci a[i]) (Ci b[i])=0
   ·rw[if_neg (show¬(cmp .neq (M5 (Ci a[i]) (Ci b[i])) 0=true)from I1 hz),if_neg (by simpa using hz)];exact ih (i+1) N (by omega) (by omega) (by omega)
   rw[if_pos (show cmp .neq (M5 (Ci a[i]) (Ci b[i])) 0=true from K0 hz),if_pos hz];exact hk _
 simpa using key a.length 0 N (by omega) hN (by omega)
theorem OW {N:Nat} (hN:40000000≤N) {x y:C8} (hx:x.cR.length≤1000000) (hy:y.cR.length≤1000000):Ao N x y=some (mO x.cR y.cR):=by
 obtain⟨a⟩:=x;obtain⟨b⟩:=y
 dsimp only at hx hy ⊢
 unfold Ao E1
 dsimp only
 refine congrArg (fun o:Option Int=>o.bind fun r1=>some r1) (Us (a:=a) (b:=b) (by omega) hx (fun i h1 h2=>?_) (fun i h1 h2 h=>?_) fun _=>rfl)
 ·rw[if_pos (Q0 (by omega)),D6,List.getElem?_eq_getElem h1];simp only[Option.bind_some];rw[if_neg (by rw[N6,B3];simp;omega),D6,List.getElem?_eq_getElem h2];simp only[Option.bind_some];rw[Yy hN];rfl
 by_cases ha:i<a.length
 ·refine⟨.inr 1,?_,?_⟩
  ·rw[if_pos (Q0 (by omega)),D6,List.getElem?_eq_getElem ha];simp only[Option.bind_some];rw[if_pos (by rw[N6,B3];simp;omega)]
  rw[if_neg (show¬a.length<b.length by omega),if_pos (show b.length<a.length by omega)]
 refine⟨.inl (),by rw[if_neg (Bw (by rw[B3];omega))],?_⟩
 dsimp only
 by_cases hb:a.length<b.length
 ·rw[if_pos (Ch (by rw[B3,B3];omega)),if_pos hb]
 rw[if_neg (Bw (by rw[B3,B3];omega)),if_neg hb,if_neg (show¬b.length<a.length by omega)]
theorem Ua {N:Nat}(hN:40000000≤N){x y:C8}(hx:x.cR.length≤1000000)(hy:y.cR.length≤1000000):An N x y=some (mO x.cR y.cR):=by
 obtain⟨a⟩:=x;obtain⟨b⟩:=y
 dsimp only at hx hy ⊢
 unfold An;refine Us (a:=a) (b:=b) (by omega) hx (fun i h1 h2=>?_) (fun i h1 h2 h=>⟨.inl (),by rw[if_neg (by simp only[M9,C1,B3];simp;omega)],?_⟩) fun _=>rfl
 ·rw[if_pos (by simp only[M9,C1,B3];simp;omega),D6,List.getElem?_eq_getElem h1,D6,List.getElem?_eq_getElem h2];simp only[Option.bind_some];rw[Vy];rfl
 dsimp only
 by_cases hb:a.length<b.length
 ·rw[if_pos (Ch (by rw[B3,B3];omega)),if_pos hb]
 rw[if_neg (Bw (by rw[B3,B3];omega)),if_neg hb]
 by_cases hc:b.length<a.length
 ·rw[if_pos (Aw (by rw[B3,B3];omega)),if_pos hc]
 rw[if_neg (V9 (by rw[B3,B3];omega)),if_neg hc]
end
end Go.Ab
namespace Go.Ab
open Classical
noncomputable section
def Ah (e:A5):List Int:=[e.Time,e.Source,e.Seq]
def FE (e:A5):Bool:=(an (an (an (an (an (cmp .geq e.Time 0) (cmp .leq e.Time 1099511627776)) (cmp .geq e.Source 0)) (cmp .lss e.Source 8)) (cmp .geq e.Seq 0)) (cmp .leq e.Seq 1099511627776))
def Ca (a b:A5):Bool:=decide (a.Source=b.Source)&&decide (a.Seq=b.Seq)
def Ke (l:List A5)(i:Nat):Int:=
 match l[i]? with
 |none=>0
 |some e=>if FE e=false then 2 else if 0<i∧0≤M5 (Ah ((l[i - 1]?).getD e)) (Ah e)then 14 else if(l.take i).any (fun x=>Ca x e)=true then 7 else 0
def Hh (l:List A5):Int:=if 4096<l.length then 5 else U6 (Ke l) (List.range l.length)
theorem WQ {N : Nat} (hN:40000000≤N) {l:List A5} (hl:l.length≤4096) {i:Nat} (hi:i<l.length):(loopN
                    (fun(s10:Int)=>
                     (
                      if cmp .lss s10 (i:Int)=true then
                       (B8 l s10).bind fun x12=>
                       (CA N x12 l[i]).bind fun r14=>
                       if r14=true then
                        some (.inr (.inr ()))
                       else
                        some (.inl (ar .add .i64 s10 1))
                      else
                       some (.inr (.inl ()))
                      :Option ((Int) ⊕ (Unit ⊕ Unit))))
                    N 0)=some (if(l.take i).any (fun x=>Ca x l[i])=true then .inr ()else .inl ()):=by
 have hlen:(l.take i).length=i:=by rw[List.length_take];omega
 rw [DO (l:=l.take i) (fun x=>Ca x l[i]) (by omega) (by omega) (fun j x hx hj=>by
     have hji:j<i:=by omega
     have e:ar .add .i64 (j:Int) 1=j+1:=C3 (by omega) (by omega)
     rw[List.getElem?_take_of_lt hji]at hx
     rw[if_pos (Ch (by omega)),D6,hx];simp only[Option.bind_some,e,CA,C2,M9];unfold Ca
     split<;>rfl) (by rw[hlen,if_neg (Bw (Int.lt_irrefl _))])]
theorem Zn {N:Nat} (hN:40000000≤N) {l:List A5}:Dc N l=some (Hh l):=by
 unfold Dc Hh
 by_cases h1:4096<l.length
 ·rw[if_pos (Aw (by rw[B3];omega)),if_pos h1]
 rw[if_neg (V9 (by rw[B3];omega)),if_neg h1];have hr:(List.range l.length).length=l.length:=List.length_range;rw[I5 (List.range l.length) (by omega) (mk:=fun(_:Unit) i=>i) (body:=Au fun i=>some (Ke l i)) (fin:=fun _=>.inl ()) (s:=()) (by omega) ?_ ?_]
 ·rw[Y0 (F:=fun i=>some (Ke l i)) (f:=Ke l) fun x _=>rfl]
  by_cases h:U6 (Ke l) (List.range l.length)=0
  ·rw[if_pos h,h];rfl
  rw[if_neg h];rfl
 ·intro s i x hx hi
  have hil:i<l.length:=by omega
  rw[List.getElem?_range hil]at hx
  cases hx;have e:ar .add .i64 (i:Int) 1=i+1:=C3 (by omega) (by omega);rw[if_pos (Q0 (by omega)),EV hil];simp only[Option.bind_some];rw[WQ hN (by omega) hil]
  have hbs:Ke l i=if FE l[i]=false then 2 else if 0<i∧0≤M5 (Ah ((l[i - 1]?).getD l[i])) (Ah l[i])then 14 else if(l.take i).any (fun x=>Ca x l[i])=true then 7 else 0:=by
   unfold Ke;rw[List.getElem?_eq_getElem hil]
  unfold DA CB Au;simp only[Option.bind_some,e];rw[hbs];have hp:(an (an (an (an (an (cmp .geq l[i].Time 0) (cmp .leq l[i].Time 1099511627776)) (cmp .geq l[i].Source 0)) (cmp .lss l[i].Source 8)) (cmp .geq l[i].Seq 0)) (cmp .leq l[i].Seq 1099511627776))=FE l[i]:=rfl;rw[hp]
  cases FE l[i]with
  |false=>rfl
  | true=>
   rw[if_neg (show¬(nt true=true) by decide),if_neg (show¬(true=false) by decide)]
   by_cases h0:0<i
   ·rw[if_pos (Aw (by omega))]
    have e1:ar .sub .i64 (i:Int) 1=((i - 1:Nat):Int):=by rw[Hr (by omega) (by omega)];omega
    have hi1:i - 1<l.length:=by omega
    rw[e1,EV hi1,List.getElem?_eq_getElem hi1];simp only[Option.bind_some,QO,Option.getD_some];have hk:M5 (Na ⟨l[i - 1].Time,l[i - 1].Source,l[i - 1].Seq⟩) (Na ⟨l[i].Time,l[i].Source,l[i].Seq⟩)=M5 (Ah l[i - 1]) (Ah l[i]):=rfl;rw[hk]
    by_cases h2:0≤M5 (Ah l[i - 1]) (Ah l[i])
    ·rw[if_pos (show cmp .geq (M5 (Ah l[i - 1]) (Ah l[i])) 0=true by rw[N6];exact decide_eq_true h2),if_pos (show 0<i∧0≤M5 (Ah l[i - 1]) (Ah l[i])from⟨h0,h2⟩)];rfl
    rw[if_neg (show¬(cmp .geq (M5 (Ah l[i - 1]) (Ah l[i])) 0=true) by rw[N6];simpa using h2),if_neg (show¬(0<i∧0≤M5 (Ah l[i - 1]) (Ah l[i]))from fun h=>h2 h.2)];cases(l.take i).any fun x=>Ca x l[i]<;>rfl
   rw[if_neg (V9 (by omega)),if_neg (show¬(0<i∧0≤M5 (Ah ((l[i - 1]?).getD l[i])) (Ah l[i]))from fun h=>h0 h.1)];cases(l.take i).any fun x=>Ca x l[i]<;>rfl
 intro s;rw[hr,if_neg N8]
def DY (p:List A5):List (D1×Bool):=p.map fun e=>(⟨e.Source,e.Seq⟩,true)
theorem VV (p:List A5) (e:A5):∃b,IB (DY p) ⟨e.Source,e.Seq⟩ false=some (p.any fun x=>Ca x e,b):=by
 unfold IB DY
 induction p with
 |nil=>exact⟨false,by simp⟩
 | cons x p ih=>
  obtain⟨b,ih⟩:=ih;rw[List.map_cons,List.find?_cons,any_cons]
  by_cases h:(⟨x.Source,x.Seq⟩:D1)=⟨e.Source,e.Seq⟩
  ·have ht:Ca x e=true:=by
    simp only[D1.mk.injEq]at h
    simp[Ca,h.1,h.2]
   exact⟨true,by simp[h,ht]⟩
  have ht:Ca x e=false:=by
   simp only[D1.mk.injEq]at h
   simp only[Ca,Bool.and_eq_false_iff,decide_eq_false_iff_not]
   by_cases h1:x.Source=e.Source
   ·exact .inr fun h2=>h ⟨h1,h2⟩
   exact .inl h1
  refine⟨b,?_⟩;simp only[h,decide_false,ht,Bool.false_or];exact ih
theorem Vt {p:List A5}{e:A5}(h:(p.any fun x=>Ca x e)=false):HE (DY p) ⟨e.Source,e.Seq⟩ true=some (DY (p++[e])):=by
 unfold HE;rw[if_neg]
 ·simp[DY]
 intro c
 rw[List.any_eq_true]at c
 obtain⟨q,hq,he⟩:=c
 simp only[DY,List.mem_map]at hq
 obtain⟨x,hx,rfl⟩:=hq
 rw[List.any_eq_false]at h
 refine h x hx ?_
 simp only[decide_eq_true_eq,D1.mk.injEq]at he
 simp[Ca,he.1,he.2]
theorem XK {B:Type} {N n:Nat} {M:Nat→B} {step:(Int×B)→Option ((Int×B) ⊕ (B ⊕ (Int×B)))} (f:Nat→Int) {k:B ⊕ (Int×B)→Option Int} (hN:n<N) (hn:n<1000000000)
 (hs:∀i:Nat,i<n→ar .add .i64 (i:Int) 1=i+1→step ((i:Int),M i)=some (if f i=0 then .inl ((i:Int)+1,M (i+1))else .inr (.inr (f i,M i)))) (he:step ((n:Int),M n)=some (.inr (.inl (M n)))) (h0:∀m,k (.inl m)=some 0) (h1:∀c m,k (.inr (c,m))=some c):(loopN step N (0,M 0)).bind k=some (U6 f (List.range n)):=by
 have key:∀(d i N:Nat),i+d=n→d<N→(loopN step N ((i:Int),M i)).bind k=some (U6 f (List.range' i d)):=by
  intro d
  induction d with
  |zero=>
   intro i N hi hN;obtain⟨N,rfl⟩:∃m,N=m+1:=⟨N - 1,by omega⟩;obtain rfl:i=n:=hi;simp only[loopN,he,Option.bind_some,h0];rfl
  |succ d ih=>
   intro i N hi hN;obtain⟨N,rfl⟩:∃m,N=m+1:=⟨N - 1,by omega⟩;rw[List.range'_succ]
   by_cases hf:f i=0
   ·simp only[loopN,hs i (by omega) (C3 (by omega) (by omega)),U6,hf,if_true];exact ih (i+1) N (by omega) (by omega)
   simp only[loopN,hs i (by omega) (C3 (by omega) (by omega)),U6,hf,if_false,Option.bind_some,h1]
 rw[List.range_eq_range'];exact key n 0 N (by omega) hN
theorem Zh {N:Nat} (hN:40000000≤N) {l:List A5}:Cb N l=some (Hh l):=by
 unfold Cb Hh
 by_cases h1:4096<l.length
 ·rw[if_pos (Aw (by rw[B3];omega)),if_pos h1]
 rw[if_neg (V9 (by rw[B3];omega)),if_neg h1];refine XK (M:=fun i=>DY (l.take i)) (Ke l) (by omega) (by omega) (fun i hil e=>?_) (by dsimp only;rw[if_neg N8]) (fun _=>rfl) (fun _ _=>rfl);obtain⟨b,hb⟩:=VV (l.take i) l[i];have hp:CT N l[i]=some (FE l[i]):=rfl;have hst:Cx N l[i]=some ⟨l[i].Source,l[i].Seq⟩:=rfl
 dsimp only
 rw[if_pos (Q0 (by omega)),EV hil];simp only[Option.bind_some];unfold Ke;rw[hp,hst,List.getElem?_eq_getElem hil];simp only[Option.bind_some,hb,e]
 cases FE l[i]with
 |false=>rfl
 | true=>
  rw[if_neg (show¬(nt true=true) by decide),if_neg (show¬(true=false) by decide)]
  have ht:(if(l.take i).any (fun x=>Ca x l[i])=true then some (.inr (.inr (7,DY (l.take i))))else(HE (DY (l.take i)) ⟨l[i].Source,l[i].Seq⟩ true).bind fun l15=>some (.inl ((i:Int)+1,l15)):Option ((Int×(List (D1×Bool))) ⊕ (((List (D1×Bool))) ⊕ (Int×(List (D1×Bool))))))=some (if(if(l.take i).any (fun x=>Ca x l[i])=true then(7:Int)else 0)=0 then .inl ((i:Int)+1,DY (l.take (i+1)))else .inr (.inr (if(l.take i).any (fun x=>Ca x l[i])=true then(7:Int)else 0,DY (l.take i)))):=by
   by_cases h7:(l.take i).any (fun x=>Ca x l[i])=true
   ·simp only[h7,if_true];rfl
   rw[if_neg h7,if_neg h7,Vt (by simpa using h7),List.take_succ_eq_append_getElem hil];rfl
  by_cases h0:0<i
  ·have hi1:i - 1<l.length:=by omega
   rw[if_pos (Aw (by omega)),show ar .sub .i64 (i:Int) 1=((i - 1:Nat):Int) by rw[Hr (by omega) (by omega)];omega,EV hi1,List.getElem?_eq_getElem hi1];simp only[Option.bind_some,Yq hN,Option.getD_some];have hk:M5 [l[i - 1].Time,l[i - 1].Source,l[i - 1].Seq] [l[i].Time,l[i].Source,l[i].Seq]=M5 (Ah l[i - 1]) (Ah l[i]):=rfl;rw[hk]
   by_cases h2:0≤M5 (Ah l[i - 1]) (Ah l[i])
   ·rw[if_pos (show cmp .geq (M5 (Ah l[i - 1]) (Ah l[i])) 0=true by rw[N6];exact decide_eq_true h2),if_pos (show 0<i∧0≤M5 (Ah l[i - 1]) (Ah l[i])from⟨h0,h2⟩)];rfl
   rw[if_neg (show¬(cmp .geq (M5 (Ah l[i - 1]) (Ah l[i])) 0=true) by rw[N6];simpa using h2),if_neg (show¬(0<i∧0≤M5 (Ah l[i - 1]) (Ah l[i]))from fun h=>h2 h.2)];exact ht
  rw[if_neg (V9 (by omega)),if_neg (show¬(0<i∧0≤M5 (Ah ((l[i - 1]?).getD l[i])) (Ah l[i]))from fun h=>h0 h.1)];exact ht
theorem Pu {l:List A5} (hl:l.length≤10) (h:Hh l=0):∀(d i:Nat),i+d+1<l.length→∀(h1:i<l.length) (h2:i+d+1<l.length),M5 (Ah l[i]) (Ah l[i+d+1])<0:=by
 have hc:∀i,i<l.length→Ke l i=0:=by
  unfold Hh at h
  rw[if_neg (by omega)]at h
  exact fun i hi=>BX.1 h i (List.mem_range.2 hi)
 have h1:∀i,∀(h2:i+1<l.length),M5 (Ah l[i]) (Ah l[i+1])<0:=fun i h2=>by
  have:=hc (i+1) h2
  unfold Ke at this
  rw[List.getElem?_eq_getElem h2]at this
  dsimp only at this
  split at this
  ·cases this
  split at this
  ·cases this
  rename_i hh
  have hi:i<l.length:=by omega
  simp only[Nat.add_sub_cancel,List.getElem?_eq_getElem hi,Option.getD_some,not_and]at hh
  have:=hh (by omega);omega
 intro d
 induction d with
 |zero=>intro i _ _ h2;exact h1 i h2
 |succ d ih=>
  intro i _ hi h2;exact Iw (ih i (by omega) hi (by omega)) (h1 (i+d+1) h2)
end
end Go.Ab
namespace Go.Ab
open Classical
noncomputable section
def W3 (l:List A5)(i:Int):El:=match l[i.toNat]? with|some e=>⟨e.Time,e.Source,e.Seq⟩|none=>⟨0,0,0⟩
def N3 (l:List A5)(s:List PR):C8:=⟨s.map fun x=>⟨x.Var,W3 l x.At⟩⟩
theorem FL (l:List A5)(s:List PR):(N3 l s).cR.length=s.length:=by simp[N3]
theorem Zm {l:List A5}{i:Int}(h0:0≤i)(h1:i<l.length):∃e,B8 l i=some e∧(⟨e.Time,e.Source,e.Seq⟩:El)=W3 l i:=by
 obtain⟨i,rfl⟩:=Int.eq_ofNat_of_zero_le h0
 have hi:i<l.length:=by omega
 exact⟨l[i],EV hi,by simp[W3,hi]⟩
theorem TZ {l:List A5} (hl:l.length≤10) (hc:Hh l=0) {i j:Int} (hi:0≤i∧i<l.length) (hj:0≤j∧j<l.length) (h:W3 l i=W3 l j):i=j:=by
 obtain⟨i,rfl⟩:=Int.eq_ofNat_of_zero_le hi.1;obtain⟨j,rfl⟩:=Int.eq_ofNat_of_zero_le hj.1
 have hi':i<l.length:=by omega
 have hj':j<l.length:=by omega
 have hk:Ah l[i]=Ah l[j]:=by
  simp only[W3,Int.toNat_natCast,List.getElem?_eq_getElem hi',List.getElem?_eq_getElem hj',El.mk.injEq]at h
  simp[Ah,h.1,h.2.1,h.2.2]
 rcases Nat.lt_trichotomy i j with e|e|e
 ·obtain⟨d,rfl⟩:∃d,j=i+d+1:=⟨j - i - 1,by omega⟩;have:=Pu hl hc d i hj' hi' hj'
  rw[hk,Fj]at this;omega
 ·omega
 obtain⟨d,rfl⟩:∃d,i=j+d+1:=⟨i - j - 1,by omega⟩;have:=Pu hl hc d j hi' hj' hi'
 rw[hk,Fj]at this;omega
theorem Mg {l:List A5} (hl:l.length≤10) (hc:Hh l=0):∀{a b:List PR},UO l a→UO l b→(N3 l a).cR=(N3 l b).cR→a=b
 |[],[],_,_,_=>rfl
 |[],_::_,_,_,h=>by simp[N3]at h
 |_::_,[],_,_,h=>by simp[N3]at h
 | x::a,y::b,ha,hb,h=>by
  simp only[N3,List.map_cons,List.cons.injEq,C7.mk.injEq]at h
  have e:=TZ hl hc (ha x (by simp)).2 (hb y (by simp)).2 h.1.2
  have hxy:x=y:=by
   cases x;cases y
   simp only[L8.mk.injEq]at *
   exact⟨h.1.1,e⟩
  rw[hxy,Mg hl hc (fun z hz=>ha z (by simp[hz])) (fun z hz=>hb z (by simp[hz])) h.2]
theorem Re :∀{a b:List C7},Nb a=Nb b→a=b
 |[],[],_=>rfl
 |[],_::_,h=>by simp[Nb,Ci]at h
 |_::_,[],h=>by simp[Nb,Ci]at h
 | x::a,y::b,h=>by
  simp only[Nb,List.flatMap_cons,Ci,List.cons_append,List.nil_append,List.cons.injEq]at h
  obtain⟨h1,h2,h3,h4,h5⟩:=h
  have hxy:x=y:=by
   obtain⟨v,t,s,q⟩:=x;obtain⟨v',t',s',q'⟩:=y
   simp only at h1 h2 h3 h4
   rw[h1,h2,h3,h4]
  rw[hxy,Re h5]
theorem KY {a b:List C7}(h:mO a b=0):a=b:=Re (Uw (by rw[←NM];exact h))
theorem KZ (a:List C7):mO a a=0:=by rw[NM,Fj]
theorem ST (a b:List C7):mO b a= - mO a b:=by rw[NM,NM,Rc]
theorem XJ {a b c:List C7}(h1:mO a b<0)(h2:mO b c<0):mO a c<0:=by rw[NM]at *;exact Iw h1 h2
def TG (r:List C8):Prop:=r.Pairwise fun a b=>mO a.cR b.cR<0
theorem Ae5 {N:Nat} (hN:40000000≤N) {L r:List C8} (hp:r.Perm L) (ha:TG r) (hb:∀x∈r,x.cR.length≤1000000) (hl:L.length≤1000000):GC (fun y1 y2=>Ao N y1 y2) L=some r:=by
 refine Qg hp (BP.2 ⟨fun a h=>?_,?_⟩) (by omega)
 ·unfold YN
  dsimp only
  rw[OW hN (hb a h) (hb a h),KZ];rfl
 refine List.Pairwise.imp_of_mem (fun{x y} hx hy hlt=>?_) ha
 constructor
 ·unfold OY
  dsimp only
  rw[OW hN (hb x hx) (hb y hy)];exact decide_eq_true hlt
 unfold YN
 dsimp only
 rw[OW hN (hb y hy) (hb x hx),ST];exact decide_eq_true (by omega)
theorem Mx {α:Type}{f:α→C7}:∀(s:List α) (m:C8),s.foldl (fun m x=>⟨m.cR++[f x]⟩) m=⟨m.cR++s.map f⟩
 |[],⟨a⟩=>by simp
 |x::s,m=>by rw[List.foldl_cons,Mx s];simp
theorem Lq {α:Type}{l:List α}{k:Nat}(h:k≤l.length):Ap l none (some (k:Int)) none=some (l.take k):=by
 unfold Ap;rw[if_pos (by simp;omega)];simp
theorem MD {α:Type}{l:List α}{k:Nat}(h:k≤l.length):Ap l (some (k:Int)) none none=some (l.drop k):=by
 unfold Ap;rw[if_pos (by simp;omega)];simp only[Option.getD_some,Option.getD_none,Int.toNat_natCast];rw[List.take_of_length_le (by simp)]
end
end Go.Ab
namespace Go.Ab
open Classical
noncomputable section
theorem BY (p:A0):(A0.pres p.cP).length+1=p.pre.length:=by rw[A0.pre_eq p];simp
theorem Wc {N:Nat} (hN:40000000≤N):∀(n:Nat) (p:A0),p.pre.length≤n→p.pre.length≤16777216→U0 N n p=some (evs p:Int):=by
 intro n
 induction n with
 |zero=>intro p h;have:=BY p;omega
 | succ n ih=>
  intro p h hb;have hp:=BY p;have hal:=AS p;unfold U0
  have h0:((if cmp .eql p.Op 0=true then some 1 else some 0:Option Int))=some (if p.Op=0 then 1 else 0):=by
   rw[C2]
   by_cases h:p.Op=0<;>simp[h]
  rw[h0];simp only[Option.bind_some];rw[I5 p.cP (by omega) (mk:=fun(s:Int) i=>(s,i)) (body:=fun s q=>(U0 N n q).bind fun r=>some (.inl (ar .add .i64 s r))) (fin:=fun s=>s) (s:=if p.Op=0 then 1 else 0) (by omega) ?_ ?_]
  ·obtain⟨s',h1,q,h2,h3⟩:=Z1 (R:=Int) (step:=fun(s:Int) q=>(U0 N n q).bind fun r=>some (.inl (ar .add .i64 s r)))
    (fun r s=>∃q,q++r=p.cP∧s=((if p.Op=0 then 1 else 0:Int)+((A0.pres q).countP fun y=>decide (y.Op=0):Nat))) (fun x r s ⟨q,e1,e2⟩=>by
     have hx:x∈p.cP:=by rw[←e1];simp
     have hxl:=P0 hx
     have hq:(A0.pres q).length≤(A0.pres p.cP).length:=by rw[←e1,De];simp
     have hc:=List.countP_le_length (p:=fun y:A0=>decide (y.Op=0)) (l:=A0.pres q);have hc2:=List.countP_le_length (p:=fun y:A0=>decide (y.Op=0)) (l:=x.pre);rw[ih x (by omega) (by omega)];refine⟨_,rfl,q++[x],by simpa using e1,?_⟩;have he:(evs x:Int)=((x.pre.countP fun y=>decide (y.Op=0):Nat):Int):=rfl;rw[e2,De,List.countP_append]
     have:A0.pres [x]=x.pre:=by simp[A0.pres]
     rw[this,he,C3 (by split<;>omega) (by split<;>omega)]
     omega) (l:=p.cP) (s:=if p.Op=0 then 1 else 0) ⟨[],rfl,by simp[A0.pres]⟩
   rw[h1];simp only[Option.bind_some]
   rw[append_nil]at h2
   rw[h3,h2,FQ]
   by_cases h:p.Op=0<;>simp[h]
  ·intro s i x hx hi;have e:ar .add .i64 (i:Int) 1=i+1:=C3 (by omega) (by omega);simp only[C1,B3,hi,decide_true,if_true,D6,hx,Option.bind_some,e];cases U0 N n x<;>rfl
  intro s;simp[C1,B3]
theorem LS (f:A0→Bool):∀r:List A0,(A0.pres r).any f=r.any fun x=>x.pre.any f
 |[]=>rfl
 |a::r=>by simp only[A0.pres,List.any_append,any_cons,LS f r]
theorem ZN {N:Nat} (hN:40000000≤N):∀(n:Nat) (p:A0),p.pre.length≤n→p.pre.length≤16777216→Y9 N n p=some (p.pre.any fun y=>decide (y.Op=4)):=by
 intro n
 induction n with
 |zero=>intro p h;have:=BY p;omega
 | succ n ih=>
  intro p h hb;have hp:=BY p;have hal:=AS p;unfold Y9;rw[A0.pre_eq p,any_cons]
  by_cases h4:p.Op=4
  ·rw[if_pos (by rw[C2];exact decide_eq_true h4)];simp[h4]
  rw[if_neg (by rw[C2];simpa using h4)]
  rw [DO (l:=p.cP) (fun x=>x.pre.any fun y=>decide (y.Op=4)) (by omega) (by omega) (fun i x hx hi=>by
      have hm:=List.mem_of_getElem? hx;have hxl:=P0 hm;have e:ar .add .i64 (i:Int) 1=i+1:=C3 (by omega) (by omega);simp only[C1,B3,hi,decide_true,if_true,D6,hx,Option.bind_some,e,ih x (by omega) (by omega)]
      split<;>rfl) (by simp[C1,B3])]
  rw[LS];simp only[h4,decide_false,Bool.false_or]
  by_cases ha:(p.cP.any fun x=>x.pre.any fun y=>decide (y.Op=4))=true
  ·rw[if_pos ha,ha];rfl
  rw[if_neg ha]
  rw[Bool.not_eq_true]at ha
  rw[ha];rfl
theorem QL {N:Nat} (hN:40000000≤N) {b n:Nat} (hb:b≤20000000) (hn:n≤20000000):∃r,BQ N (b:Int) (n:Int) 1500=some r∧(r≤1500→r=((b ^ n:Nat):Int)):=by
 unfold BQ
 have key:∀(k i M:Nat) (out:Int),i+k=n→k<M→out=((b ^ i:Nat):Int)→out≤30000000000→∃r,loopN
  (fun(s1:Int×Int)=>
   (
    if an (cmp .lss s1.2 (n:Int)) (cmp .leq s1.1 1500)=true then
     some (.inl (ar .mul .i64 s1.1 (b:Int),ar .add .i64 s1.2 1))
    else
     some (.inr s1.1)
    :Option ((Int×Int) ⊕ (Int))))
  M (out,(i:Int))=some r∧(r≤1500→r=((b ^ n:Nat):Int)):=by
  intro k
  induction k with
  |zero=>
   intro i M out hi hM ho _;obtain⟨M,rfl⟩:∃m,M=m+1:=⟨M - 1,by omega⟩;refine⟨out,?_,fun _=>by rw[ho,show i=n by omega]⟩;unfold loopN
   dsimp only
   rw[if_neg (by simp only[M9,C1];simp;omega)]
  | succ k ih=>
   intro i M out hi hM ho hs;obtain⟨M,rfl⟩:∃m,M=m+1:=⟨M - 1,by omega⟩
   have h0:0≤out:=by rw[ho];omega
   by_cases hle:out≤1500
   ·have hmul:out*(b:Int)≤1500*20000000:=Int.mul_le_mul hle (by omega) (by omega) (by omega);have hmul0:0≤out*(b:Int):=Int.mul_nonneg h0 (by omega);have em:ar .mul .i64 out (b:Int)=out*(b:Int):=CW (by omega) (by omega);have e:ar .add .i64 (i:Int) 1=i+1:=C3 (by omega) (by omega);obtain⟨r,h1,h2⟩:=ih (i+1) M (out*(b:Int)) (by omega) (by omega) (by rw[ho,Nat.pow_succ];simp) (by omega);refine⟨r,?_,h2⟩;unfold loopN
    dsimp only
    rw[if_pos (by simp only[M9,C1,CU];simp;omega),em,e,show((i:Int)+1)=((i+1:Nat):Int) by omega];exact h1
   refine⟨out,?_,fun h=>absurd h hle⟩;unfold loopN
   dsimp only
   rw[if_neg (by simp only[M9,C1,CU];simp;omega)]
 obtain⟨r,h1,h2⟩:=key n 0 N 1 (by omega) (by omega) (by simp) (by omega);have h0:((0:Nat):Int)=0:=rfl
 rw[h0]at h1
 exact⟨r,by rw[h1];rfl,h2⟩
theorem WX {N:Nat} (hN:40000000≤N) {p:A0} (hb:p.bulk≤16777216) {l:List A5} (hlb:l.length≤16777216):∃b,CX N p l=some b∧(b=true→l.length≤10∧((evs p+1) ^ l.length≤1500∨(Y2 p∧l.length ^ evs p≤1500))):=by
 obtain⟨few,hf⟩:=few9 hN hb;have hpb:=Ae p;have hev:evs p≤p.pre.length:=List.countP_le_length;unfold CX;rw[hf];simp only[Option.bind_some]
 by_cases h1:Ar.or (nt few) (cmp .gtr (Ar.len l) 10)=true
 ·rw[if_pos h1];exact⟨false,rfl,fun h=>by cases h⟩
 rw[if_neg h1]
 have hl:l.length≤10:=by
  simp only[K1,T3,Bg,B3]at h1
  simp at h1
  omega
 rw[DO (l:=l) (fun x=>cmp .gtr (Ar.len x.Values) 9) (by omega) (by omega) (fun i x hx hi=>by
  have e:ar .add .i64 (i:Int) 1=i+1:=C3 (by omega) (by omega);rw[if_pos (Q0 hi),D6,hx];simp only[Option.bind_some,e]
  split<;>rfl) (by rw[if_neg N8])]
 simp only[Option.bind_some]
 by_cases h2:(l.any fun x=>cmp .gtr (Ar.len x.Values) 9)=true
 ·rw[if_pos h2];exact⟨false,rfl,fun h=>by cases h⟩
 rw[if_neg h2]
 dsimp only
 rw[Wc hN N p (by omega) (by omega),ZN hN N p (by omega) (by omega)];simp only[Option.bind_some];obtain⟨r1,h3,h4⟩:=QL hN (b:=evs p+1) (n:=l.length) (by omega) (by omega);obtain⟨r2,h5,h6⟩:=QL hN (b:=l.length) (n:=evs p) (by omega) (by omega);rw[C3 (a:=(evs p:Int)) (by omega) (by omega),show((evs p:Int)+1)=((evs p+1:Nat):Int) by omega,B3,h3];simp only[Option.bind_some]
 by_cases h7:r1≤1500
 ·rw[if_pos (show cmp .leq r1 1500=true from decide_eq_true h7)];exact⟨true,rfl,fun _=>⟨hl,.inl (by have:=h4 h7;omega)⟩⟩
 rw[if_neg (show¬(cmp .leq r1 1500=true) by rw[CU];simpa using h7)]
 cases hp:p.pre.any fun y=>decide (y.Op=4)with
 |true=>
  rw[if_neg (show¬nt true=true by decide)];exact⟨false,rfl,fun h=>by cases h⟩
 | false=>
  rw[if_pos (show nt false=true from rfl),h5];refine⟨decide (r2≤1500),rfl,fun h=>⟨hl,.inr ⟨fun y hy e=>?_,?_⟩⟩⟩
  ·rw[List.any_eq_false]at hp
   exact hp y hy (decide_eq_true e)
  have h8:=of_decide_eq_true h;have:=h6 h8;omega
theorem Ae6 {p:A0}{l:List A5}(hp:p.pre.length≤64)(hs:(evs p+1) ^ l.length≤1500∨(Y2 p∧l.length ^ evs p≤1500)):Nl l.length p:=by
 rcases hs with h|⟨h1,h2⟩
 ·exact .inl h
 by_cases h3:2≤l.length
 ·exact .inr ⟨h1,h3,h2⟩
 left
 have hev:evs p≤p.pre.length:=List.countP_le_length
 have:l.length=0∨l.length=1:=by omega
 rcases this with h|h<;>rw[h]<;>simp<;>omega
theorem XG {p:A0}{l:List A5}(hp:p.pre.length≤64)(hl:l.length≤10):mu l p 0≤1000:=by
 unfold mu;have:=Nat.mul_le_mul hp (show l.length+2≤12 by omega);omega
theorem Zt (l:List A5):Oq l [] ((0:Nat):Int):=⟨Gd.nil l,fun _ h=>absurd h List.not_mem_nil,by omega,by omega⟩
theorem Vw {N:Nat} (hN:40000000≤N) {r:List C8} (hr:r.length≤1000000) (hb:∀x∈r,x.cR.length≤1000000):BF N r r=some true:=by
 unfold BF;rw[if_neg (by rw[F6];simp)]
 rw [DO (l:=r) (fun _=>false) (by omega) (by omega) (fun i x hx hi=>by
     have e:ar .add .i64 (i:Int) 1=i+1:=C3 (by omega) (by omega);have hm:=List.mem_of_getElem? hx;rw[if_pos (Q0 hi),D6,hx];simp only[Option.bind_some];rw[Ua hN (hb x hm) (hb x hm),KZ];simp only[Option.bind_some,e]
     rfl) (by rw[if_neg N8])]
 simp
end
end Go.Ab
